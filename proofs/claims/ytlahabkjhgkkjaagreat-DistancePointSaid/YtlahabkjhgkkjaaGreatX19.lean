/- The distance of any point, by real values. -/
import Derived.Test.YtlahabkjhgkkjaaGreatX18
import Derived.Test.YtlahabkjhgkkjaaGreatX15
import Derived.Test.YtlahabkjhgkkjaaGreatX16
noncomputable section
namespace Go.Proofs.YtlahabkjhgkkjaaGreat
open Go.RowKit Go.IntKind
theorem axb:type_of% @decide_not:=@decide_not
section
def rcX(p:Pt)(v:Rat×Rat):Rat×Rat:=(p.1-v.1,p.2.1)
def rcY(p:Pt)(v:Rat×Rat):Rat×Rat:=(p.2.2.1-v.2,p.2.2.2.1)
def prQ(q:Qd)(x y:Rat×Rat)(s:Rat):Qd:=(q.1+s*(x.1*y.1),q.2.1+s*(x.2*y.1),q.2.2.1+s*(x.1*y.2),q.2.2.2.1+s*(x.2*y.2),q.2.2.2.2.1,q.2.2.2.2.2)
def noQ(p q:Pt):Qd:=(0,0,0,0,p.2.2.2.2,q.2.2.2.2)
def crQ(v:Rat×Rat)(p q:Pt):Qd:=prQ (prQ (noQ p q) (rcX p v) (rcY q v) 1) (rcY p v) (rcX q v) (-1)
def doQ(v:Rat×Rat)(p q:Pt):Qd:=prQ (prQ (noQ p q) (rcX p v) (rcX q v) (-2)) (rcY p v) (rcY q v) (-2)
def z2:Rat×Rat:=(0,0)
def apQ(p q:Pt)(r:Rat):Qd:=((doQ z2 p q).1+(sqA p z2+sqA q z2)-r*r,(doQ z2 p q).2.1+sqB p z2,(doQ z2 p q).2.2.1+sqB q z2,(doQ z2 p q).2.2.2.1,p.2.2.2.2,q.2.2.2.2)
namespace RE
theorem Zu(A B C D m n s a b c d:RE):A+s*(a*c)+(B+s*(b*c))*m+(C+s*(a*d))*n+(D+s*(b*d))*(m*n)=A+B*m+C*n+D*(m*n)+s*((a+b*m)*(c+d*n)):=by
 induction A using at5
 induction B using at5
 induction C using at5
 induction D using at5
 induction m using at5
 induction n using at5
 induction s using at5
 induction a using at5
 induction b using at5
 induction c using at5
 induction d using at5
 exact snd fun n=>by
  simp only[RL.add,RL.mul]
  grind
theorem acC(A B C D m n a b c d r:RE):A+(a+c)-r+(B+b)*m+(C+d)*n+D*(m*n)=A+B*m+C*n+D*(m*n)+(a+b*m)+(c+d*n)-r:=by
 induction A using at5
 induction B using at5
 induction C using at5
 induction D using at5
 induction m using at5
 induction n using at5
 induction a using at5
 induction b using at5
 induction c using at5
 induction d using at5
 induction r using at5
 exact snd fun n=>by
  simp only[RL.add,RL.mul,RL.neg]
  grind
theorem arQ(x y u w:RE):0+ -2*((x-0)*(u-0))+ -2*((y-0)*(w-0))+((x-0)*(x-0)+(y-0)*(y-0))+((u-0)*(u-0)+(w-0)*(w-0))=(x-u)*(x-u)+(y-w)*(y-w):=by
 induction x using at5
 induction y using at5
 induction u using at5
 induction w using at5
 exact snd fun n=>by
  simp only[RL.add,RL.mul,RL.neg,RL.const]
  grind
theorem as5(a b:RE):0+1*a+ -1*b=a-b:=by
 induction a using at5
 induction b using at5
 exact snd fun n=>by
  simp only[RL.add,RL.mul,RL.neg,RL.const]
  grind
theorem AN(a v b:RE):a-v+b=a+b-v:=by
 induction a using at5
 induction v using at5
 induction b using at5
 exact snd fun n=>by
  simp only[RL.add,RL.neg]
  grind
theorem aeX(x a v:RE):x+v-(a+v)=x-a:=by
 induction x using at5
 induction a using at5
 induction v using at5
 exact snd fun n=>by
  simp only[RL.add,RL.neg]
  grind
theorem amK(x y a b v w:RE):(x+v-(a+v))*(x+v-(a+v))+(y+w-(b+w))*(y+w-(b+w))=(x-a)*(x-a)+(y-b)*(y-b):=by
 induction x using at5
 induction y using at5
 induction a using at5
 induction b using at5
 induction v using at5
 induction w using at5
 exact snd fun n=>by
  simp only[RL.add,RL.mul,RL.neg]
  grind
theorem asK(a b x y v w:RE): -b*(x+v)+a*(y+w)= -b*x+a*y+(-b*v+a*w):=by
 induction a using at5
 induction b using at5
 induction x using at5
 induction y using at5
 induction v using at5
 induction w using at5
 exact snd fun n=>by
  simp only[RL.add,RL.mul,RL.neg]
  grind
theorem amn(a b c x y v w:RE):a*(x+v)+b*(y+w)-(c+(a*v+b*w))=a*x+b*y-c:=by
 induction a using at5
 induction b using at5
 induction c using at5
 induction x using at5
 induction y using at5
 induction v using at5
 induction w using at5
 exact snd fun n=>by
  simp only[RL.add,RL.mul,RL.neg]
  grind
theorem US(a v b:RE):a+v+b=a+b+v:=by
 induction a using at5
 induction v using at5
 induction b using at5
 exact snd fun n=>by
  simp only[RL.add]
  grind
theorem ab7(x y t:RE):((x+t-(y+t)))+((y-(x)))=0:=by
 induction x using at5
 induction y using at5
 induction t using at5
 exact snd fun n=>by
  simp only[RL.add,RL.neg,RL.const]
  grind
theorem amy(x y t:RE)(h1:x≤y):x+t≤y+t:=fun hg=>far (aQ (aV hg) (aO h1)) (ab7 x y t)
theorem Ra(x y t:RE):((x-(y)))+((y+t-(x+t)))=0:=by
 induction x using at5
 induction y using at5
 induction t using at5
 exact snd fun n=>by
  simp only[RL.add,RL.neg,RL.const]
  grind
theorem ag4(x y t:RE)(h1:x+t≤y+t):x≤y:=fun hg=>far (aQ (aV hg) (aO h1)) (Ra x y t)
theorem WA(u t:RE):u*u-t*t=(u-t)*(u+t):=by
 induction u using at5
 induction t using at5
 exact snd fun n=>by
  simp only[RL.add,RL.mul,RL.neg]
  grind
theorem aoW(Q r t:RE):Q+r*r+(r+r)*t=(t+r)*(t+r)+(Q-t*t):=by
 induction Q using at5
 induction r using at5
 induction t using at5
 exact snd fun n=>by
  simp only[RL.add,RL.mul,RL.neg]
  grind
theorem alo(Q r t:RE):Q+r*r+ -(r+r)*t=(t-r)*(t-r)+(Q-t*t):=by
 induction Q using at5
 induction r using at5
 induction t using at5
 exact snd fun n=>by
  simp only[RL.add,RL.mul,RL.neg]
  grind
theorem ahB(u t r:RE):u*u+t*t-(u*t+u*t)-r*r=(u-(t+r))*(u-(t-r)):=by
 induction u using at5
 induction t using at5
 induction r using at5
 exact snd fun n=>by
  simp only[RL.add,RL.mul,RL.neg]
  grind
theorem ab9(u t r:RE):((u-(0)))+((t-(0)))+((r-(0)))+((0-(u+(t+r))))=0:=by
 induction u using at5
 induction t using at5
 induction r using at5
 exact snd fun n=>by
  simp only[RL.add,RL.neg,RL.const]
  grind
theorem an7(u t r:RE)(h1:0<u)(h2:0<t)(h3:0≤r):0<u+(t+r):=ec.1 fun hg=>far (aQ (aQ (aQ (aV h1) (le_of_lt (aV h2))) (aO h3)) (aO hg)) (ab9 u t r)
theorem ahW(u t r:RE):((u-(0)))+((t-(r)))+((0-(u+(t-r))))=0:=by
 induction u using at5
 induction t using at5
 induction r using at5
 exact snd fun n=>by
  simp only[RL.add,RL.neg,RL.const]
  grind
theorem asw(u t r:RE)(h1:0<u)(h2:r<t):0<u+(t-r):=ec.1 fun hg=>far (aQ (aQ (aV h1) (le_of_lt (aV h2))) (aO hg)) (ahW u t r)
theorem FE(x y c:RE):((x-(y)))+((y+c-(x+c)))=0:=by
 induction x using at5
 induction y using at5
 induction c using at5
 exact snd fun n=>by
  simp only[RL.add,RL.neg,RL.const]
  grind
theorem SA(x y c:RE)(h1:x+c=y+c):x≤y:=fun hg=>far (aQ (aV hg) (aO (iq h1))) (FE x y c)
theorem FI(x y c:RE):((y-(x)))+((x+c-(y+c)))=0:=by
 induction x using at5
 induction y using at5
 induction c using at5
 exact snd fun n=>by
  simp only[RL.add,RL.neg,RL.const]
  grind
theorem QN(x y c:RE)(h1:x+c=y+c):y≤x:=fun hg=>far (aQ (aV hg) (aO (jA h1))) (FI x y c)
theorem HN(x y c:RE)(h1:x+c=y+c):x=y:=le_antisymm (SA x y c h1) (QN x y c h1)
theorem aiZ(u t r:RE):((u-(t+r)-(0)))+of 2*((r-(0)))+((0-(u-(t-r))))=0:=by
 induction u using at5
 induction t using at5
 induction r using at5
 exact snd fun n=>by
  simp only[RL.add,RL.mul,RL.neg,RL.const]
  grind
theorem ati(u t r:RE)(h1:0<u-(t+r))(h2:0≤r):0<u-(t-r):=ec.1 fun hg=>far (aQ (aQ (aV h1) (gT (by decide+kernel:(0:Rat)<2) (aO h2))) (aO hg)) (aiZ u t r)
theorem agU(u t r:RE):((u-(0)))+((r-(t)))+((0-(u-(t-r))))=0:=by
 induction u using at5
 induction t using at5
 induction r using at5
 exact snd fun n=>by
  simp only[RL.add,RL.neg,RL.const]
  grind
theorem asv(u t r:RE)(h1:0<u)(h2:t≤r):0<u-(t-r):=ec.1 fun hg=>far (aQ (aQ (aV h1) (aO h2)) (aO hg)) (agU u t r)
theorem Hq(x y t:RE):((x-t-(y-t)))+((y-(x)))=0:=by
 induction x using at5
 induction y using at5
 induction t using at5
 exact snd fun n=>by
  simp only[RL.add,RL.neg,RL.const]
  grind
theorem Ex(x y t:RE)(h1:x≤y):x-t≤y-t:=fun hg=>far (aQ (aV hg) (aO h1)) (Hq x y t)
theorem F6(x y:RE):((y*y-(x*x)))+((x-(y))*(x-(y)))+of 2*((x-(y))*(y-(0)))=0:=by
 induction x using at5
 induction y using at5
 exact snd fun n=>by
  simp only[RL.add,RL.mul,RL.neg,RL.const]
  grind
theorem VM(x y:RE)(h1:y≤x)(h2:0≤y):y*y≤x*x:=fun hg=>far (aQ (aQ (aV hg) (cE (aO h1) (aO h1))) (gT (by decide+kernel:(0:Rat)<2) (cE (aO h1) (aO h2)))) (F6 x y)
theorem aaH(a b:RE):a*b*(a*b)=a*a*(b*b):=by
 induction a using at5
 induction b using at5
 exact snd fun n=>by
  simp only[RL.mul]
  grind
theorem ajG(n e k r:RE):n*(e*k-r)=e*(n*k)-r*n:=by
 induction n using at5
 induction e using at5
 induction k using at5
 induction r using at5
 exact snd fun n=>by
  simp only[RL.add,RL.mul,RL.neg]
  grind
def vq(q:Qd):RE:=vQ q.1 q.2.1 q.2.2.1 q.2.2.2.1 q.2.2.2.2.1 q.2.2.2.2.2
theorem BG{q:Qd}(h:0≤q.2.2.2.2.1)(h':0≤q.2.2.2.2.2):sgQ q=sg (vq q):=sgnQ_re h h'
theorem Ks(q:Qd)(x y:Rat×Rat)(s:Rat):vq (prQ q x y s)=vq q+of s*(v2 x.1 x.2 q.2.2.2.2.1*v2 y.1 y.2 q.2.2.2.2.2):=by
 unfold vq vQ prQ v2
 simp only[of_add,bJ]
 exact Zu _ _ _ _ _ _ _ _ _ _ _
theorem of0:of 0=0:=rfl
theorem aeK(p q:Pt):vq (noQ p q)=0:=by
 unfold vq vQ noQ
 dsimp only
 rw[of0,zero_mul,zero_mul,zero_mul,add_zero,add_zero,add_zero]
def sbE(v:Rat×Rat)(p:PE):PE:=(p.1-of v.1,p.2-of v.2)
theorem Bq(p:Pt)(v:Rat×Rat):v2 (rcX p v).1 (rcX p v).2 p.2.2.2.2=(sbE v (pR p)).1:=by
 unfold rcX sbE pR pX v2
 dsimp only
 rw[of_sub,AN]
theorem zR(p:Pt)(v:Rat×Rat):v2 (rcY p v).1 (rcY p v).2 p.2.2.2.2=(sbE v (pR p)).2:=by
 unfold rcY sbE pR pY v2
 dsimp only
 rw[of_sub,AN]
def turS(v:Rat×Rat)(p q:PE):Int:=sg (crs (sbE v p) (sbE v q))
theorem crQ_re(v:Rat×Rat){p q:Pt}[hp:Rpd p][hq:Rpd q]:sgQ (crQ v p q)=turS v (pR p) (pR q):=by
 rw[BG (q:=crQ v p q) (show 0≤p.2.2.2.2 from hp.nn) (show 0≤q.2.2.2.2 from hq.nn)]
 unfold crQ
 rw[Ks,Ks,aeK]
 show sg (0+of 1*(v2 (rcX p v).1 (rcX p v).2 p.2.2.2.2*v2 (rcY q v).1 (rcY q v).2 q.2.2.2.2)+of (-1)*(v2 (rcY p v).1 (rcY p v).2 p.2.2.2.2*v2 (rcX q v).1 (rcX q v).2 q.2.2.2.2))=_
 rw[Bq,Bq,zR,zR]
 exact congrArg sg (as5 _ _)
def apaS(p q:PE)(r:Rat):Int:=sg (dsE p q-of (r*r))
theorem apQ_re{p q:Pt}[hp:Rpd p][hq:Rpd q](r:Rat):sgQ (apQ p q r)=apaS (pR p) (pR q) r:=by
 rw[BG (q:=apQ p q r) (show 0≤p.2.2.2.2 from hp.nn) (show 0≤q.2.2.2.2 from hq.nn)]
 have e1:vq (doQ z2 p q)=0+ -2*((pX p-0)*(pX q-0))+ -2*((pY p-0)*(pY q-0)):=by
  unfold doQ
  rw[Ks,Ks,aeK]
  show 0+of (-2)*(v2 (rcX p z2).1 (rcX p z2).2 p.2.2.2.2*v2 (rcX q z2).1 (rcX q z2).2 q.2.2.2.2)+of (-2)*(v2 (rcY p z2).1 (rcY p z2).2 p.2.2.2.2*v2 (rcY q z2).1 (rcY q z2).2 q.2.2.2.2)=_
  rw[Bq,Bq,zR,zR]
  rfl
 have e2:∀{p:Pt},Rpd p→v2 (sqA p z2) (sqB p z2) p.2.2.2.2=(pX p-0)*(pX p-0)+(pY p-0)*(pY p-0):=fun{p} h=>by
  have:=B5 (p:=p) (v:=z2)
  unfold sqP at this
  rw[vR_co]at this
  exact this
 have e3:vq (apQ p q r)=vq (doQ z2 p q)+v2 (sqA p z2) (sqB p z2) p.2.2.2.2+v2 (sqA q z2) (sqB q z2) q.2.2.2.2-of (r*r):=by
  unfold vq vQ apQ v2
  dsimp only
  rw[of_sub,of_add,of_add,of_add,of_add]
  exact acC _ _ _ _ _ _ _ _ _ _ _
 rw[e3,e1,e2 hp,e2 hq,arQ]
 rfl
def Dv(c:Cv)(p:PE)(r:Rat):Int:=min (apaS (pR (frC c)) p r) (apaS (pR (toC c)) p r)
def rngS(d:RE)(q r:Rat):Int:=bif decide (0≤sg (d-v2 (q+r*r) (r+r) q))then sg (d-v2 (q+r*r) (r+r) q)else bif decide (aU q (r*r)≤0)then-1 else-(sg (d-v2 (q+r*r) (-(r+r)) q))
def witE(c:Cv)(p:PE):Bool:=xF (frm (ciC c) (pR (ccF c))) (frm (ciC c) (pR (ccT c))) (frm (ciC c) p)
open Classical in
def besE(c:Cv)(p:PE):Bool:=decide (btE (tE (lnC c) (pR (frC c))) (tE (lnC c) (pR (toC c))) (tE (lnC c) p))
open Classical in
def poiE(c:Cv)(p:PE)(r:Rat):Int:=
 bif decide (r<0)then 1 else
 bif c.1 then(bif decide (p=vE (ctr (ciC c)))then aU (ciC c).2.2 (r*r)else bif witE c p then rngS (dsE p (vE (ctr (ciC c)))) (ciC c).2.2 r else Dv c p r)
 else bif besE c p then sg (exE (lnC c) p*exE (lnC c) p-of (r*r*((lnC c).1*(lnC c).1+(lnC c).2.1*(lnC c).2.1)))else Dv c p r
def mvE(v:Rat×Rat)(p:PE):PE:=(p.1+of v.1,p.2+of v.2)
theorem pR_tr(p:Pt)(v:Rat×Rat):pR (trP p v)=mvE v (pR p):=by
 unfold pR mvE pX pY trP v2
 dsimp only
 rw[of_add,of_add]
 exact awt (US _ _ _) (US _ _ _)
def mvLn(l:Ln)(v:Rat×Rat):Ln:=(l.1,l.2.1,l.2.2+(l.1*v.1+l.2.1*v.2))
def mvCi(c:Ln)(v:Rat×Rat):Ln:=(c.1+v.1,c.2.1+v.2,c.2.2)
def mvCv(c:Cv)(v:Rat×Rat):Cv:=(c.1,bif c.1 then c.2.1 else mvLn c.2.1 v,bif c.1 then mvCi c.2.2.1 v else c.2.2.1,c.2.2.2.1,trP c.2.2.2.2.1 v,trP c.2.2.2.2.2 v)
theorem Ho(p q:PE)(v:Rat×Rat):dsE (mvE v p) (mvE v q)=dsE p q:=amK _ _ _ _ _ _
theorem Fd(c:Ln)(p:PE)(v:Rat×Rat):frm (mvCi c v) (mvE v p)=frm c p:=by
 unfold frm mvE mvCi
 dsimp only
 rw[of_add,of_add,aeX,aeX]
theorem NR(l:Ln)(p:PE)(v:Rat×Rat):tE (mvLn l v) (mvE v p)=tE l p+(-of l.2.1*of v.1+of l.1*of v.2):=asK _ _ _ _ _ _
theorem ajT(l:Ln)(p:PE)(v:Rat×Rat):exE (mvLn l v) (mvE v p)=exE l p:=by
 unfold exE mvLn mvE
 dsimp only
 rw[of_add,of_add,bJ,bJ]
 exact amn _ _ _ _ _ _ _
theorem agM(c:Ln)(v:Rat×Rat):vE (ctr (mvCi c v))=mvE v (vE (ctr c)):=by
 unfold vE ctr mvCi mvE
 dsimp only
 rw[of_add,of_add]
theorem aaL{v:Rat×Rat}{p q:PE}:mvE v p=mvE v q↔p=q:=by
 refine⟨fun e=>awt (HN _ _ _ (congrArg Prod.fst e)) (HN _ _ _ (congrArg Prod.snd e)),fun e=>by rw[e]⟩
open Classical in
theorem poi_mv(c:Cv)(p:PE)(v:Rat×Rat)(r:Rat):poiE (mvCv c v) (mvE v p) r=poiE c p r:=by
 have hF:pR (frC (mvCv c v))=mvE v (pR (frC c)):=pR_tr _ _
 have hT:pR (toC (mvCv c v))=mvE v (pR (toC c)):=pR_tr _ _
 have he:Dv (mvCv c v) (mvE v p) r=Dv c p r:=by
  unfold Dv apaS
  rw[hF,hT,Ho,Ho]
 unfold poiE
 rw[he]
 cases ha:c.1
 ·have h1:(mvCv c v).1=false:=ha
  have hl:lnC (mvCv c v)=mvLn (lnC c) v:=by
   show(bif c.1 then c.2.1 else mvLn c.2.1 v)=_
   rw[ha];rfl
  have hb:besE (mvCv c v) (mvE v p)=besE c p:=by
   unfold besE btE
   rw[hF,hT,hl,NR,NR,NR]
   refine auE.2 ?_
   have k:∀x y t:RE,x+t≤y+t↔x≤y:=fun x y t=>⟨ag4 _ _ _,amy _ _ _⟩
   rw[k,k,k,k]
  rw[h1,hb,hl,ajT]
  rfl
 ·have h1:(mvCv c v).1=true:=ha
  have hc:ciC (mvCv c v)=mvCi (ciC c) v:=by
   show(bif c.1 then mvCi c.2.2.1 v else c.2.2.1)=_
   rw[ha];rfl
  have hw:witE (mvCv c v) (mvE v p)=witE c p:=by
   have e1:pR (ccF (mvCv c v))=mvE v (pR (ccF c)):=by
    unfold ccF
    show pR (bif cwC c then _ else _)=_
    cases cwC c
    ·exact hF
    ·exact hT
   have e2:pR (ccT (mvCv c v))=mvE v (pR (ccT c)):=by
    unfold ccT
    show pR (bif cwC c then _ else _)=_
    cases cwC c
    ·exact hT
    ·exact hF
   unfold witE
   rw[hc,e1,e2,Fd,Fd,Fd]
  rw[h1,hw,hc,agM,Ho]
  rw[show decide (mvE v p=mvE v (vE (ctr (ciC c))))=decide (p=vE (ctr (ciC c))) from auE.2 aaL]
  rfl
theorem poi_rev(c:BCU)(p:PE)(r:Rat):poiE (dC (jj c)) p r=poiE (dC c) p r:=by
 obtain⟨ar,li,ci,cw,fr,to⟩:=c
 have he:Dv (dC (jj (ar,li,ci,cw,fr,to))) p r=Dv (dC (ar,li,ci,cw,fr,to)) p r:=Int.min_comm _ _
 have hb:besE (dC (jj (ar,li,ci,cw,fr,to))) p=besE (dC (ar,li,ci,cw,fr,to)) p:=auE.2 Or.comm
 unfold poiE
 rw[he]
 cases ar
 ·rw[hb];rfl
 ·cases cw<;>rfl
theorem H3{x y:RE}(h:x≤y):sg x≤sg y:=by
 rcases bP x with⟨a,e⟩|⟨a,e⟩|⟨a,e⟩<;>rcases bP y with⟨b,f⟩|⟨b,f⟩|⟨b,f⟩<;>rw[e,f]<;>try decide
 ·exfalso;rw[b]at h;exact h a
 ·exact absurd (dq b a) h
 ·exfalso;rw[a]at h;exact h b
theorem apw(a b t:RE):min (sg (a-t)) (sg (b-t))=sg (mnE a b-t):=by
 unfold mnE
 by_cases e:b<a
 ·rw[auw e]
  exact Int.min_eq_right (H3 (Ex _ _ _ (le_of_lt e)))
 ·rw[aus e]
  exact Int.min_eq_left (H3 (Ex _ _ _ ((lt_or_ge b a).resolve_left e)))
theorem VE{c:Cv}(hf:Rpd (frC c))(ht:Rpd (toC c))(v:Rat×Rat)(r:Rat):Dv c (vE v) r=sg (vR (AV c v)-of (r*r)):=by
 rw[ait hf ht]
 exact apw _ _ _
theorem rF{n:RE}(h:0<n)(x:RE):sg (n*x)=sg x:=by rw[dP,dJ h,avz]
theorem ak1{a b:Rat}(ha:0≤a)(hb:0≤b):rq (a*b)=rq a*rq b:=agw _ _ (EQ _) (cE (EQ _) (EQ _)) (by rw[ia (auF ha hb),bJ,aaH,ia ha,ia hb])
theorem Zy{u t:RE}{q r:Rat}(hu:0<u)(hq:0<q)(ht:t=rq q)(hr:0≤r):rngS (u*u) q r=sg (u*u+of q-(u*t+u*t)-of (r*r)):=by
 have hr':0≤of r:=jx.2 hr
 have tt:t*t=of q:=by rw[ht];exact ia (by grind)
 have tp:0<t:=by rw[ht];exact QD hq
 have e1:v2 (q+r*r) (r+r) q=(t+of r)*(t+of r):=by
  unfold v2
  rw[←ht,of_add,bJ,of_add,aoW,tt,sub_self,add_zero]
 have e2:v2 (q+r*r) (-(r+r)) q=(t-of r)*(t-of r):=by
  unfold v2
  rw[←ht,of_add,bJ,of_neg,of_add,alo,tt,sub_self,add_zero]
 have f1:sg (u*u-v2 (q+r*r) (r+r) q)=sg (u-(t+of r)):=by
  rw[e1,WA,mul_comm,rF (an7 _ _ _ hu tp hr')]
 have f2:of r<t→sg (u*u-v2 (q+r*r) (-(r+r)) q)=sg (u-(t-of r)):=fun g=>by
  rw[e2,WA,mul_comm,rF (asw _ _ _ hu g)]
 have fin:sg (u*u+of q-(u*t+u*t)-of (r*r))=sg (u-(t+of r))*sg (u-(t-of r)):=by
  rw[←tt,bJ,ahB,dP]
 unfold rngS
 rw[f1,fin]
 rcases bP (u-(t+of r))with⟨a,e⟩|⟨a,e⟩|⟨a,e⟩
 ·rw[e,dJ (ati _ _ _ a hr')]
  rfl
 ·rw[e]
  show(0:Int)=0*_
  rw[awU]
 ·rw[e]
  show(bif decide (aU q (r*r)≤0)then-1 else _)=_
  have cq:decide (aU q (r*r)≤0)=decide (q≤r*r):=by
   rw[vL]
  rw[cq]
  by_cases g:q≤r*r
  ·have tr:t≤of r:=Is _ _ (le_of_lt tp) hr' (by rw[tt,←bJ];exact jx.2 g)
   rw[at7 g,dJ (asv _ _ _ hu tr)]
   rfl
  ·have tr:of r<t:=by
    rcases lt_or_ge (of r) t with k|k
    ·exact k
    ·exfalso
     have:=VM _ _ k (le_of_lt tp)
     rw[tt,←bJ]at this
     exact g (jx.1 this)
   rw[at9 g,f2 tr]
   show-(sg _)= -1*sg _
   omega
open Classical in
theorem poi_rat{c:Cv}(h:GdE c){v:Rat×Rat}(hd:Rdd (iY c v))(r:Rat):poiE c (vE v) r=xq c v r:=by
 have hf:=h.f
 have ht:=h.t
 unfold poiE xq
 by_cases hr:r<0
 ·rw[at7 hr];rfl
 ·rw[at9 hr,cond_false,cond_false,cmpTR_re hd.nn]
  have hr0:0≤r:=by grind
  cases ha:c.1
  ·rw[cond_false]
   have hl:=(h.l ha).1
   have hn:0<nrE (lnC c):=RK hl
   have hb:besE c (vE v)=oI c (atP v):=by
    have:=DR (c:=c) (p:=atP v)
    rw[vK]at this
    unfold besE
    rw[av2,avJ]
    exact this.symm
   unfold iY
   rw[hb,ha,cond_false]
   cases oI c (atP v)
   ·exact VE hf ht v r
   ·rw[cond_true,cond_true]
    have h1:1/((lnC c).1*(lnC c).1+(lnC c).2.1*(lnC c).2.1)*((lnC c).1*(lnC c).1+(lnC c).2.1*(lnC c).2.1)=1:=avI (kX hl)
    have en:nrE (lnC c)=of ((lnC c).1*(lnC c).1+(lnC c).2.1*(lnC c).2.1):=by
     rw[of_add,bJ,bJ];rfl
    have ek:nrE (lnC c)*of (1/((lnC c).1*(lnC c).1+(lnC c).2.1*(lnC c).2.1))=1:=by
     rw[en,mul_comm,←bJ,h1]
     rfl
    have e2:vR (df (fL v (gn (lnC c) v)) (fL v (gn (lnC c) v)),0,0)=of (df (fL v (gn (lnC c) v)) (fL v (gn (lnC c) v))):=da _ _
    rw[e2,VI hl,bJ (r*r) ((lnC c).1*(lnC c).1+(lnC c).2.1*(lnC c).2.1),←en,bJ _ (1/((lnC c).1*(lnC c).1+(lnC c).2.1*(lnC c).2.1)),bJ ((lnC c).1*v.1+(lnC c).2.1*v.2-(lnC c).2.2),←ajv,←rF hn (_-of (r*r)),ajG,ek]
    refine congrArg sg ?_
    rw[mul_one]
  ·rw[cond_true]
   have hq:=(h.q ha).1
   have cz:vE v=vE (ctr (ciC c))↔zeV (cW c v)=true:=by
    unfold zeV cW fL vE
    rw[avg,avJ,avJ]
    constructor
    ·intro e
     have e1:=vH (congrArg Prod.fst e)
     have e2:=vH (congrArg Prod.snd e)
     dsimp only
     rw[e1,e2]
     exact⟨by grind,by grind⟩
    ·intro ⟨e1,e2⟩
     dsimp only at e1 e2
     rw[show v.1=(ctr (ciC c)).1 by grind,show v.2=(ctr (ciC c)).2 by grind]
   unfold iY
   rw[ha,cond_true]
   cases hz:zeV (cW c v)
   ·rw[at9 (fun e=>by rw[cz.1 e]at hz;cases hz),cond_false]
    have hw:witE c (vE v)=pF c (cW c v):=by
     rw[(Zf h ha hz).2]
     show _=xF _ _ (vE (fL (ctr (ciC c)) v))
     rw[←aqy]
     rfl
    rw[hw]
    cases pF c (cW c v)
    ·exact VE hf ht v r
    ·rw[cond_true,cond_true,vR_mk]
     have dps:0<df (cW c v) (cW c v):=by
      have:=Bk hz
      have:=Bv (cW c v)
      grind
     have es:dsE (vE v) (vE (ctr (ciC c)))=of (df (cW c v) (cW c v)):=by
      unfold dsE vE df cW fL
      rw[of_add,bJ,bJ,of_sub,of_sub]
     have su:=ia (show 0≤df (cW c v) (cW c v) by grind)
     rw[es,←su,Zy (QD dps) hq rfl hr0]
     unfold v2
     have two:of (-2)= -2:=rfl
     rw[two,ar0,of_add,←su,ak1 (by grind) (by grind)]
   ·rw[at7 (cz.2 hz),cond_true]
    have tw:pF c (cW c v)=true:=by
     unfold pF
     rw[ha,hz]
     rfl
    have dz:df (cW c v) (cW c v)=0:=by
     unfold zeV at hz
     obtain⟨a,b⟩:=avg.1 hz
     unfold df
     rw[at6 a,at6 b]
     decide+kernel
    rw[tw,cond_true,vR_mk,dz,Rat.zero_mul,Rat.zero_add]
    unfold v2
    rw[Iy,mul_zero,add_zero,←of_sub,sg_of,pC]
end RE
end
section
instance atD {a b c d e f:Rat} {i1 i2 i3 i4 i5 i6:Nat} [h1:Bd a i1] [h2:Bd b i2] [h3:Bd c i3] [h4:Bd d i4] [h5:Bd e i5] [h6:Bd f i6]:Bd ((a,b,c,d,e,f):Qd) (mx i1 (mx i2 (mx i3 (mx i4 (mx i5 i6))))):=inferInstance
instance asx {p:Pt} {v:Rat×Rat} {j k:Nat} [h:Bd p j] [h':Bd v k]:Bd (rcX p v) (j+k+1):=by
 have a:Bd (p.1-v.1) _:=inferInstance
 have b:Bd p.2.1 j:=inferInstance
 have i:Bd ((p.1-v.1,p.2.1):Rat×Rat) _:=inferInstance
 exact i.mono (cM (by omega) (by omega))
instance asY {p:Pt} {v:Rat×Rat} {j k:Nat} [h:Bd p j] [h':Bd v k]:Bd (rcY p v) (j+k+1):=by
 have a:Bd (p.2.2.1-v.2) _:=inferInstance
 have b:Bd p.2.2.2.1 j:=inferInstance
 have i:Bd ((p.2.2.1-v.2,p.2.2.2.1):Rat×Rat) _:=inferInstance
 exact i.mono (cM (by omega) (by omega))
instance asG {p q:Pt} {j k:Nat} [h:Bd p j] [h':Bd q k]:Bd (noQ p q) (j+k):=by
 have hj:1≤j:=lE (show bdR j p.1 from(inferInstance:Bd p.1 j).le)
 have z:Bd (0:Rat) (j+k):=⟨bT lN.le (by omega)⟩
 have a:Bd p.2.2.2.2 (j+k):=(inferInstance:Bd p.2.2.2.2 j).mono (by omega)
 have b:Bd q.2.2.2.2 (j+k):=(inferInstance:Bd q.2.2.2.2 k).mono (by omega)
 have i:Bd ((0,0,0,0,p.2.2.2.2,q.2.2.2.2):Qd) _:=inferInstance
 have e:∀n,mx n n=n:=fun n=>by unfold mx;rw[at7 (auj n)];rfl
 simp only[e]at i
 exact i
instance as0 {q:Qd} {x y:Rat×Rat} {s:Rat} {i j k l:Nat} [h:Bd q i] [h1:Bd x j] [h2:Bd y k] [h3:Bd s l]:Bd (prQ q x y s) (i+l+j+k+1):=by
 have a1:Bd (q.1+s*(x.1*y.1)) (i+(l+(j+k))+1):=inferInstance
 have a2:Bd (q.2.1+s*(x.2*y.1)) (i+(l+(j+k))+1):=inferInstance
 have a3:Bd (q.2.2.1+s*(x.1*y.2)) (i+(l+(j+k))+1):=inferInstance
 have a4:Bd (q.2.2.2.1+s*(x.2*y.2)) (i+(l+(j+k))+1):=inferInstance
 have a5:Bd q.2.2.2.2.1 (i+(l+(j+k))+1):=(inferInstance:Bd q.2.2.2.2.1 i).mono (by omega)
 have a6:Bd q.2.2.2.2.2 (i+(l+(j+k))+1):=(inferInstance:Bd q.2.2.2.2.2 i).mono (by omega)
 have i6:Bd ((q.1+s*(x.1*y.1),q.2.1+s*(x.2*y.1),q.2.2.1+s*(x.1*y.2),q.2.2.2.1+s*(x.2*y.2),q.2.2.2.2.1,q.2.2.2.2.2):Qd) _:=inferInstance
 have e:∀n,mx n n=n:=fun n=>by unfold mx;rw[at7 (auj n)];rfl
 simp only[e]at i6
 exact i6.mono (by omega)
theorem RH{q:Qd}{k:Nat}[h:Bd q k](hk:k≤6000)(h5:0≤q.2.2.2.2.1)(h6:0≤q.2.2.2.2.2):decide (okQ (enc q))=true:=by
 have n5:Nn q.2.2.2.2.1:=⟨h5⟩
 have n6:Nn q.2.2.2.2.2:=⟨h6⟩
 show decide (okQ (enc ((q.1,q.2.1,q.2.2.1,q.2.2.2.1,q.2.2.2.2.1,q.2.2.2.2.2):Qd)))=true
 exact EI (a:=k) (b:=k) (c:=k) (d:=k) (m:=k) (n:=k) (by omega) (by omega) (by omega) (by omega) (by omega) (by omega)
instance atA:Bd z2 1:=(inferInstance:Bd ((0,0):Rat×Rat) _)
theorem atg(p:Pt)(v:Rat×Rat):(sqP p v).1=sqA p v:=by
 show(coR (sqA p v) (sqB p v) p.2.2.2.2).1=_
 unfold coR
 cases decide (sqB p v=0)<;>rfl
theorem aiS(p:Pt)(v:Rat×Rat):(sqP p v).2.1=sqB p v:=by
 show(coR (sqA p v) (sqB p v) p.2.2.2.2).2.1=_
 unfold coR
 by_cases e:sqB p v=0
 ·rw[at7 e,e];rfl
 ·rw[at9 e];rfl
theorem afa(p:Pt)(v:Rat×Rat):(sqP p v).2.1=0∨(sqP p v).2.2=p.2.2.2.2:=by
 show(coR (sqA p v) (sqB p v) p.2.2.2.2).2.1=0∨(coR (sqA p v) (sqB p v) p.2.2.2.2).2.2=_
 unfold coR
 cases decide (sqB p v=0)
 ·exact .inr rfl
 ·exact .inl rfl
theorem ajx{p q:Pt}{r:Rat}[bp:Bd p 580][bq:Bd q 160][br:Bd r 1000](hp:0≤p.2.2.2.2)(hq:0≤q.2.2.2.2):decide (okQ (enc (apQ p q r)))=true:=by
 have n1:Nn p.2.2.2.2:=⟨hp⟩
 have n2:Nn q.2.2.2.2:=⟨hq⟩
 have b2:Bd (-2:Rat) 3:=cZ (n:= -2) (by decide)
 have bD:Bd (doQ z2 p q) 2296:=(inferInstance:Bd (prQ (prQ (noQ p q) (rcX p z2) (rcX q z2) (-2)) (rcY p z2) (rcY q z2) (-2)) _).mono (by decide)
 have bA:Bd ((doQ z2 p q).1+(sqA p z2+sqA q z2)-r*r) _:=inferInstance
 have bB:Bd ((doQ z2 p q).2.1+sqB p z2) _:=inferInstance
 have bC:Bd ((doQ z2 p q).2.2.1+sqB q z2) _:=inferInstance
 have bE:Bd (doQ z2 p q).2.2.2.1 2296:=inferInstance
 exact EI (h1:=bA) (h2:=bB) (h3:=bC) (h4:=bE) (by decide) (by decide) (by decide) (by decide) (by decide) (by decide)
namespace RE
theorem aoo(a b c d:RE):a*d-b*c= -(c*b-d*a):=by
 induction a using at5
 induction b using at5
 induction c using at5
 induction d using at5
 exact snd fun n=>by
  simp only[RL.add,RL.mul,RL.neg]
  grind
theorem Ta(u w:PE):crs u w= -crs w u:=aoo _ _ _ _
theorem turS_anti(v:Rat×Rat)(p q:PE):turS v p q= -turS v q p:=by
 unfold turS
 rw[Ta,l4]
theorem wit_eq(c:Cv)(p:PE):witE c p=GW (turS (ctr (ciC c)) (pR (ccF c)) (pR (ccT c))) (turS (ctr (ciC c)) (pR (ccF c)) p) (turS (ctr (ciC c)) p (pR (ccT c))):=rfl
theorem wit_go(a b c:Int):(match decide (a≥0)with|true=>(match decide (b≥0)with|true=>some [RV.d .bool (decide (c≥0))]|false=>some [RV.d .bool false])|false=>(match decide (-c≤0)with|true=>some [RV.d .bool true]|false=>some [RV.d .bool (decide (-b≤0))]))=some [RV.d .bool (GW a b c)]:=by
 have h1:decide (-c≤0)=decide (0≤c):=auE.2 (by omega)
 have h2:decide (-b≤0)=decide (0≤b):=auE.2 (by omega)
 have h3:decide (c<0)=!decide (0≤c):=by rw[←axb];exact auE.2 (by omega)
 have h4:decide (b<0)=!decide (0≤b):=by rw[←axb];exact auE.2 (by omega)
 unfold GW
 simp only[h1,h2,h3,h4,ge_iff_le]
 cases decide (0≤a)<;>cases decide (0≤b)<;>cases decide (0≤c)<;>rfl
open Classical in
theorem bes_E{c:Cv}[hf:Rpd (frC c)][ht:Rpd (toC c)]{p:Pt}[hp:Rpd p]:besE c (pR p)=oI c p:=by
 unfold besE
 rw[av2,avJ]
 exact DR.symm
theorem min_if(a b:Int):(if b<a then b else a)=min a b:=by
 split<;>omega
theorem wr_sg(x:RE):i64.wrap (0-sg x)= -sg x:=by
 rcases bP x with⟨_,e⟩|⟨_,e⟩|⟨_,e⟩<;>rw[e]<;>rfl
theorem aio(a b m t:RE):a*a+m*(b*b)+2*(a*b)*t=(a+b*t)*(a+b*t)+(m-t*t)*(b*b):=by
 induction a using at5
 induction b using at5
 induction m using at5
 induction t using at5
 exact snd fun n=>by
  simp only[RL.add,RL.mul,RL.neg,RL.const]
  grind
theorem NA(A B C x y z w t:RE):A*x+B*y-C+(A*z+B*w)*t=A*(x+z*t)+B*(y+w*t)-C:=by
 induction A using at5
 induction B using at5
 induction C using at5
 induction x using at5
 induction y using at5
 induction z using at5
 induction w using at5
 induction t using at5
 exact snd fun n=>by
  simp only[RL.add,RL.mul,RL.neg]
  grind
theorem vR_lin(l:Ln){p:Pt}[hp:Rpd p]:vR (mkR (mN l p*mN l p+p.2.2.2.2*(mz l p*mz l p)) (2*(mN l p*mz l p)) p.2.2.2.2)=exE l (pR p)*exE l (pR p):=by
 have e:exE l (pR p)=of (mN l p)+of (mz l p)*rq p.2.2.2.2:=by
  unfold exE pR pX pY v2 mN mz
  dsimp only
  rw[of_sub,of_add,of_add,bJ,bJ,bJ,bJ,NA]
 have two:of 2=2:=rfl
 rw[vR_mk,e]
 unfold v2
 rw[of_add,bJ,bJ,bJ,bJ,bJ,two,aio,ia hp.nn,sub_self,zero_mul,add_zero]
theorem sq_zr{p:Pt}[hp:Rpd p]{v:Rat×Rat}:(sgR (sqP p v)==0)=true↔pR p=vE v:=by
 have hr:Rdd (sqP p v):=inferInstance
 rw[Gj hr.nn,avx,sT,vR_sq]
 constructor
 ·intro e
  obtain⟨a,b⟩:=HU e
  exact awt (kM _ _ a) (kM _ _ b)
 ·intro e
  rw[e]
  unfold dsE
  rw[sub_self,sub_self,mul_zero,add_zero]
end RE
def U0:aN:=spN false true [tO] (fun x=>decide (ok Rt 15000 x.1)) (fun x=>[RV.d tR (hid (ag (noR (dec x.1))))])
theorem VQ:SpK 200 U0:=spX fun x h=>by simp only[aj];exact Y4 x.1 (at6 h)
def Xh:Env:=[(83,gr),(200,U0)]
theorem LY:EnvAll Tryz.prog Xh:=⟨eM,VQ,trivial⟩
def aqQ:Ctx:=CX Xh []
def aec(r:BO3)(_k:KT):Option (List RV):=match decide (okR r.1)with|true=>(match decide (okR r.2.1)with|true=>(match(aU (ae r.2.1) 0)==0 with|true=>some [RV.d axf (aU (ae r.1) 0)]|false=>(match(aU (ae r.1) 0)==(aU (ae r.2.1) 0)with|true=>some [RV.d axf (aU (ae r.1) 0)]|false=>(match(aU (ae r.1) 0)==0 with|true=>some [RV.d axf (aU (ae r.2.1) 0)]|false=>(match decide (ok Rt 15000 r)with|true=>(match decide (okR (hid (ag (noR (dec r)))))with|true=>some [RV.d axf (i64.wrap ((aU (ae r.1) 0)*(aU (ae (hid (ag (noR (dec r))))) 0)))]|false=>none)|false=>none))))|false=>none)|false=>none
theorem aqk(r:BO3):RS aqQ 113 [.d tO r] (aec r):=rsX
theorem acj(r:BO3)(h:okT 15000 r):Con Tryz.prog 113 [.d tO r] [.d axf (sgR (dec r))]:=by
 refine aP LY (aqk _ ⟨0,?_⟩)
 have hr:=h
 obtain⟨r,rfl,br,rr⟩:=fa hr
 unfold aec
 simp only[aj,am,aE,aF,aB,az,okd,aW,Nat.reduceAdd,Nat.reduceMul,Nat.reduceLeDiff,F4 (jy _ _) (jy _ _)]
 rw[afF rr]
 cases aU r.2.1 0==0
 ·cases aU r.1 0==aU r.2.1 0
  ·cases aU r.1 0==0<;>rfl
  ·rfl
 ·rfl
def Ru:aN:=spN true true [tO] (fun x=>decide (okT 15000 x.1)) (fun x=>[RV.d axf (sgR (dec x.1))])
theorem Vh:SpK 113 Ru:=spX fun x h=>acj x.1 (at6 h)
def xi:Env:=[(83,gr),(202,lX),(76,io),(148,ip),(99,k9),(149,jQ),(147,jq),(223,HD),(87,B6),(71,pe),(66,Fh),(146,se),(84,Ag),(75,AU),(112,wU),(77,zD),(74,GX),(73,Hp),(67,Gv),(199,Hh),(113,Ru)]
theorem nf:EnvAll Tryz.prog xi:=⟨eM,jd,fc,eW,ie,fY,fC,Dp,vG,kI,Cq,mC,vp,uW,pK,xd,D3,Et,DC,EU,Vh,trivial⟩
def ap3:Ctx:=CX xi []
def afN(p:BP)(v:BV)(_k:KT):Option (List RV):=cp (match decide (okR p.1∧okR v.1)with|true=>cp (match decide (okR p.2.2.1∧okR v.2)with|true=>dup (.b .l .l) (some [RV.d tV (hid (ag (ae p.1-ae v.1)),p.2.1),RV.d tV (hid (ag (ae p.2.2.1-ae v.2)),p.2.2.2.1)])|false=>none) (match decide (okR p.2.2.1∧okR v.2)with|true=>some [RV.d tV (hid (ag (ae p.1-ae v.1)),p.2.1),RV.d tV (hid (ag (ae p.2.2.1-ae v.2)),p.2.2.2.1)]|false=>none)|false=>none) (match decide (okR p.1∧okR v.1)with|true=>(match decide (okR p.2.2.1∧okR v.2)with|true=>some [RV.d tV (hid (ag (ae p.1-ae v.1)),p.2.1),RV.d tV (hid (ag (ae p.2.2.1-ae v.2)),p.2.2.2.1)]|false=>none)|false=>none)
theorem apy(p:BP)(v:BV):RS ap3 195 [.d tP p,.d tV v] (afN p v):=rsX
theorem aaA(p:BP)(v:BV)(h:okP 580 p∧ok (Rat×Rat) 400 v):Con Tryz.prog 195 [.d tP p,.d tV v] [.d tV (enc (rcX (dec p) (dec v))),.d tV (enc (rcY (dec p) (dec v)))]:=by
 refine aP nf (apy _ _ ⟨0,?_⟩)
 obtain⟨hp,hv⟩:=h
 obtain⟨p,rfl,bp,rp⟩:=bz hp
 obtain⟨v,rfl,bv⟩:=aS hv
 unfold afN
 simp only[ao,aK,aj,am,aE,aF,aB,az,aW,aua,aub,Nat.reduceLeDiff]
 try rfl
def anX:Ctx:=CX xi []
def afr(q:BQ)(x y:BV)(s:Int)(_k:KT):Option (List RV):=match decide (aY s)with|true=>(match decide (okR x.1∧okR y.1)with|true=>(match decide (okR (hid (ag (s:Rat)))∧okR (hid (ag (ae x.1*ae y.1))))with|true=>(match decide (okR q.1∧okR (hid (ag (ae (hid (ag (s:Rat)))*ae (hid (ag (ae x.1*ae y.1)))))))with|true=>(match decide (okR x.2∧okR y.1)with|true=>(match decide (okR (hid (ag (s:Rat)))∧okR (hid (ag (ae x.2*ae y.1))))with|true=>(match decide (okR q.2.1∧okR (hid (ag (ae (hid (ag (s:Rat)))*ae (hid (ag (ae x.2*ae y.1)))))))with|true=>(match decide (okR x.1∧okR y.2)with|true=>(match decide (okR (hid (ag (s:Rat)))∧okR (hid (ag (ae x.1*ae y.2))))with|true=>(match decide (okR q.2.2.1∧okR (hid (ag (ae (hid (ag (s:Rat)))*ae (hid (ag (ae x.1*ae y.2)))))))with|true=>(match decide (okR x.2∧okR y.2)with|true=>(match decide (okR (hid (ag (s:Rat)))∧okR (hid (ag (ae x.2*ae y.2))))with|true=>(match decide (okR q.2.2.2.1∧okR (hid (ag (ae (hid (ag (s:Rat)))*ae (hid (ag (ae x.2*ae y.2)))))))with|true=>some [RV.d tQ (hid (ag (ae q.1+ae (hid (ag (ae (hid (ag (s:Rat)))*ae (hid (ag (ae x.1*ae y.1)))))))),(hid (ag (ae q.2.1+ae (hid (ag (ae (hid (ag (s:Rat)))*ae (hid (ag (ae x.2*ae y.1)))))))),(hid (ag (ae q.2.2.1+ae (hid (ag (ae (hid (ag (s:Rat)))*ae (hid (ag (ae x.1*ae y.2)))))))),(hid (ag (ae q.2.2.2.1+ae (hid (ag (ae (hid (ag (s:Rat)))*ae (hid (ag (ae x.2*ae y.2)))))))),q.2.2.2.2))))]|false=>none)|false=>none)|false=>none)|false=>none)|false=>none)|false=>none)|false=>none)|false=>none)|false=>none)|false=>none)|false=>none)|false=>none)|false=>none
theorem aqp(q:BQ)(x y:BV)(s:Int):RS anX 196 [.d tQ q,.d tV x,.d tV y,SI s] (afr q x y s):=rsX
theorem acg(q:BQ)(x y:BV)(s:Int)(h:ok Qd 12000 q∧ok (Rat×Rat) 2500 x∧ok (Rat×Rat) 2500 y∧aY s):Con Tryz.prog 196 [.d tQ q,.d tV x,.d tV y,.d axf s] [.d tQ (enc (prQ (dec q) (dec x) (dec y) (s:Rat)))]:=by
 refine aP nf (aqp _ _ _ _ ⟨0,?_⟩)
 obtain⟨hq,hx,hy,hs⟩:=h
 obtain⟨q,rfl,bq⟩:=aS hq
 obtain⟨x,rfl,bx⟩:=aS hx
 obtain⟨y,rfl,b_y⟩:=aS hy
 have bs:=cZ hs
 unfold afr
 simp only[aj,am,aE,aF,aB,az,aW,aua,aub,Nat.reduceAdd,Nat.reduceLeDiff,dT hs]
 try rfl
def alE:Ctx:=CX xi []
def aeq(p q:BP)(_k:KT):Option (List RV):=match decide (aY (0:Int))with|true=>some [RV.d tQ (hid (ag ((0:Int):Rat)),(hid (ag ((0:Int):Rat)),(hid (ag ((0:Int):Rat)),(hid (ag ((0:Int):Rat)),(p.2.2.2.2,q.2.2.2.2)))))]|false=>none
theorem aqJ(p q:BP):RS alE 197 [.d tP p,.d tP q] (aeq p q):=rsX
theorem acI(p q:BP)(h:okP 580 p∧okP 580 q):Con Tryz.prog 197 [.d tP p,.d tP q] [.d tQ (enc (noQ (dec p) (dec q)))]:=by
 refine aP nf (aqJ _ _ ⟨0,?_⟩)
 obtain⟨hp,hq⟩:=h
 obtain⟨p,rfl,bp,rp⟩:=bz hp
 obtain⟨q,rfl,bq,rq⟩:=bz hq
 unfold aeq
 simp only[aj,am,aF,aB,dT (show aY 0 by decide)]
 try rfl
def Wm:aN:=spN false true [tP,tV] (fun x=>decide (okP 580 x.1∧ok (Rat×Rat) 400 x.2.1)) (fun x=>[RV.d tV (hid (enc (rcX (dec x.1) (dec x.2.1)))),RV.d tV (hid (enc (rcY (dec x.1) (dec x.2.1))))])
theorem VW:SpK 195 Wm:=spX fun x h=>by simp only[aj];exact aaA x.1 x.2.1 (at6 h)
def TZ:aN:=spN false true [tQ,tV,tV,axf] (fun x=>decide (ok Qd 12000 x.1∧ok (Rat×Rat) 2500 x.2.1∧ok (Rat×Rat) 2500 x.2.2.1∧aY x.2.2.2.1)) (fun x=>[RV.d tQ (hid (enc (prQ (dec x.1) (dec x.2.1) (dec x.2.2.1) (x.2.2.2.1:Rat))))])
theorem XR:SpK 196 TZ:=spX fun x h=>by simp only[aj];exact acg x.1 x.2.1 x.2.2.1 x.2.2.2.1 (at6 h)
def Sf:aN:=spN false true [tP,tP] (fun x=>decide (okP 580 x.1∧okP 580 x.2.1)) (fun x=>[RV.d tQ (hid (enc (noQ (dec x.1) (dec x.2.1))))])
theorem QB:SpK 197 Sf:=spX fun x h=>by simp only[aj];exact acI x.1 x.2.1 (at6 h)
def uN:Env:=(195,Wm)::(196,TZ)::(197,Sf)::xi
theorem m3:EnvAll Tryz.prog uN:=⟨VW,XR,QB,nf⟩
def apK:Ctx:=CX uN []
def ae2(v:BV)(p q:BP)(_k:KT):Option (List RV):=match decide (okP 580 p∧ok (Rat×Rat) 400 v)with|true=>(match decide (okP 580 q∧ok (Rat×Rat) 400 v)with|true=>(match decide (okP 580 p∧okP 580 q)with|true=>(match decide (ok Qd 12000 (hid (enc (noQ (dec p) (dec q))))∧ok (Rat×Rat) 2500 (hid (enc (rcX (dec p) (dec v))))∧ok (Rat×Rat) 2500 (hid (enc (rcY (dec q) (dec v))))∧aY (1:Int))with|true=>(match decide (ok Qd 12000 (hid (enc (prQ (dec (hid (enc (noQ (dec p) (dec q))))) (dec (hid (enc (rcX (dec p) (dec v))))) (dec (hid (enc (rcY (dec q) (dec v))))) ((1:Int):Rat))))∧ok (Rat×Rat) 2500 (hid (enc (rcY (dec p) (dec v))))∧ok (Rat×Rat) 2500 (hid (enc (rcX (dec q) (dec v))))∧aY ((-1):Int))with|true=>(match decide (okQ (hid (enc (prQ (dec (hid (enc (prQ (dec (hid (enc (noQ (dec p) (dec q))))) (dec (hid (enc (rcX (dec p) (dec v))))) (dec (hid (enc (rcY (dec q) (dec v))))) ((1:Int):Rat))))) (dec (hid (enc (rcY (dec p) (dec v))))) (dec (hid (enc (rcX (dec q) (dec v))))) (((-1):Int):Rat)))))with|true=>some [RV.d axf (sgQ (dec (hid (enc (prQ (dec (hid (enc (prQ (dec (hid (enc (noQ (dec p) (dec q))))) (dec (hid (enc (rcX (dec p) (dec v))))) (dec (hid (enc (rcY (dec q) (dec v))))) ((1:Int):Rat))))) (dec (hid (enc (rcY (dec p) (dec v))))) (dec (hid (enc (rcX (dec q) (dec v))))) (((-1):Int):Rat))))))]|false=>none)|false=>none)|false=>none)|false=>none)|false=>none)|false=>none
theorem apx(v:BV)(p q:BP):RS apK 201 [.d tV v,.d tP p,.d tP q] (ae2 v p q):=rsX
theorem acz(v:BV)(p q:BP)(h:ok (Rat×Rat) 400 v∧okP 580 p∧okP 580 q):Con Tryz.prog 201 [.d tV v,.d tP p,.d tP q] [.d axf (RE.turS (dec v) (RE.pR (dec p)) (RE.pR (dec q)))]:=by
 refine aP m3 (apx _ _ _ ⟨0,?_⟩)
 obtain⟨hv,hp,hq⟩:=h
 obtain⟨v,rfl,bv⟩:=aS hv
 obtain⟨p,rfl,bp,rp⟩:=bz hp
 obtain⟨q,rfl,bq,rq⟩:=bz hq
 have h1:decide (aY 1)=true:=by decide
 have h2:decide (aY (-1))=true:=by decide
 have c1:((1:Int):Rat)=1:=rfl
 have c2:((-1:Int):Rat)= -1:=rfl
 have b1:Bd (1:Rat) 3:=cZ (n:=1) (by decide)
 have b2:Bd (-1:Rat) 3:=cZ (n:= -1) (by decide)
 have n1:Bd (prQ (prQ (noQ p q) (rcX p v) (rcY q v) 1) (rcY p v) (rcX q v) (-1)) _:=inferInstance
 have o1:decide (okQ (enc (prQ (prQ (noQ p q) (rcX p v) (rcY q v) 1) (rcY p v) (rcX q v) (-1))))=true:=RH (k:=6000) (h:=n1.mono (by decide)) (by decide) rp.nn rq.nn
 unfold ae2
 simp only[aj,am,okd,aua,aub,Nat.reduceAdd,Nat.reduceLeDiff,aZ,h1,h2,c1,c2,o1]
 rw[←RE.crQ_re]
 rfl
def ar3:Ctx:=CX uN []
def ado(a:BO3)(c:BR)(_k:KT):Option (List RV):=match decide (okR a.2.1)with|true=>(match(aU (ae a.2.1) 0)==0 with|true=>some [RV.d tR a.2.1]|false=>(match decide (okR a.2.2∧okR c)with|true=>(match(aU (ae a.2.2) (ae c))==0 with|true=>some [RV.d tR a.2.1]|false=>(match decide (fh a.2.2 c)with|true=>(match decide (okR (hid (ag (ae a.2.2/ae c))))with|true=>(match !(eK (ae (hid (ag (ae a.2.2/ae c)))))with|true=>some [RV.d tR a.2.1]|false=>(match decide (okR a.2.1∧okR (hid (rtB (ae (hid (ag (ae a.2.2/ae c)))))))with|true=>some [RV.d tR (hid (ag (ae a.2.1*ae (hid (rtB (ae (hid (ag (ae a.2.2/ae c)))))))))]|false=>none))|false=>none)|false=>none))|false=>none))|false=>none
theorem aog(a:BO3)(c:BR):RS ar3 198 [.d tO a,.d tR c] (ado a c):=rsX
theorem aba(a:BO3)(c:BR)(h:okT 15000 a∧ok Rat 15000 c∧((dec a:Rt).2.1=0∨(dec a:Rt).2.2=ae c)):Con Tryz.prog 198 [.d tO a,.d tR c] [.d tR (ag (dec a:Rt).2.1)]:=by
 refine aP m3 (aog _ _ ⟨0,?_⟩)
 obtain⟨ha,hc,h⟩:=h
 obtain⟨a,rfl,ba,ra⟩:=fa ha
 obtain⟨c,rfl,bc⟩:=aS hc
 rw[am,aB,az]at h
 unfold ado
 simp only[aj,am,aE,aF,aB,az,aW,aua,aub,auc,Nat.reduceAdd,Nat.reduceLeDiff,aI]
 by_cases e:a.2.1=0
 ·rw[dT e]
 ·rw[dF e,dT (h.resolve_left e)]
def amz:Ctx:=CX uN []
def agb(d:BO3)(q r:BR)(_k:KT):Option (List RV):=match decide (okR r∧okR r)with|true=>(match decide (okR q∧okR (hid (ag (ae r*ae r))))with|true=>(match decide (okR r∧okR r)with|true=>(match decide (ok Rat 100000 (hid (ag (ae q+ae (hid (ag (ae r*ae r))))))∧ok Rat 100000 (hid (ag (ae r+ae r)))∧ok Rat 100000 q∧0≤ae q)with|true=>(match decide (okT 15000 d∧okT 15000 (hid (enc (mkR (ae (hid (ag (ae q+ae (hid (ag (ae r*ae r))))))) (ae (hid (ag (ae r+ae r)))) (ae q)))))with|true=>(match decide ((bG (dec d) (dec (hid (enc (mkR (ae (hid (ag (ae q+ae (hid (ag (ae r*ae r))))))) (ae (hid (ag (ae r+ae r)))) (ae q))))))≥0)with|true=>some [RV.d axf (bG (dec d) (dec (hid (enc (mkR (ae (hid (ag (ae q+ae (hid (ag (ae r*ae r))))))) (ae (hid (ag (ae r+ae r)))) (ae q))))))]|false=>(match decide (okR r∧okR r)with|true=>(match decide (okR q∧okR (hid (ag (ae r*ae r))))with|true=>(match decide ((aU (ae q) (ae (hid (ag (ae r*ae r)))))≤0)with|true=>some [RV.d axf (-1)]|false=>(match decide (okR (hid (ag (ae r+ae r))))with|true=>(match decide (ok Rat 100000 (hid (ag (ae q+ae (hid (ag (ae r*ae r))))))∧ok Rat 100000 (hid (ag (-ae (hid (ag (ae r+ae r))))))∧ok Rat 100000 q∧0≤ae q)with|true=>(match decide (okT 15000 d∧okT 15000 (hid (enc (mkR (ae (hid (ag (ae q+ae (hid (ag (ae r*ae r))))))) (ae (hid (ag (-ae (hid (ag (ae r+ae r))))))) (ae q)))))with|true=>some [RV.d axf (i64.wrap (0-(bG (dec d) (dec (hid (enc (mkR (ae (hid (ag (ae q+ae (hid (ag (ae r*ae r))))))) (ae (hid (ag (-ae (hid (ag (ae r+ae r))))))) (ae q))))))))]|false=>none)|false=>none)|false=>none))|false=>none)|false=>none))|false=>none)|false=>none)|false=>none)|false=>none)|false=>none
theorem aqf(d:BO3)(q r:BR):RS amz 115 [.d tO d,.d tR q,.d tR r] (agb d q r):=rsX
theorem acP(d:BO3)(q r:BR)(h:okT 15000 d∧ok Rat 1000 q∧ok Rat 1000 r∧0≤ae q):Con Tryz.prog 115 [.d tO d,.d tR q,.d tR r] [.d axf (RE.rngS (RE.vR (dec d)) (ae q) (ae r))]:=by
 refine aP m3 (aqf _ _ _ ⟨0,?_⟩)
 obtain⟨hd,hq,hr,hn⟩:=h
 obtain⟨d,rfl,bd,rd⟩:=fa hd
 obtain⟨q,rfl,bq⟩:=aS hq
 obtain⟨r,rfl,br⟩:=aS hr
 rw[aB,az]at hn
 have nq:Nn q:=⟨hn⟩
 have m:∀a b,bG d (mkR a b q)=RE.sg (RE.vR d-RE.v2 a b q):=fun a b=>by
  rw[RE.cmpT_re rd.nn (mR (a:=a) (b:=b) (c:=q)).nn,RE.vR_mk]
 unfold agb RE.rngS
 simp only[aj,am,aB,az,aC,aW,aua,aub,Nat.reduceAdd,Nat.reduceLeDiff,a9,dT hn,m,ge_iff_le,RE.wr_sg]
 cases decide (0≤RE.sg (RE.vR d-RE.v2 (q+r*r) (r+r) q))
 ·cases decide (aU q (r*r)≤0)<;>rfl
 ·rfl
def QL:aN:=spN true true [tV,tP,tP] (fun x=>decide (ok (Rat×Rat) 400 x.1∧okP 580 x.2.1∧okP 580 x.2.2.1)) (fun x=>[RV.d axf (RE.turS (dec x.1) (RE.pR (dec x.2.1)) (RE.pR (dec x.2.2.1)))])
theorem OH:SpK 201 QL:=spX fun x h=>acz x.1 x.2.1 x.2.2.1 (at6 h)
def PO:aN:=spN false true [tO,tR] (fun x=>decide (okT 15000 x.1∧ok Rat 15000 x.2.1∧((dec x.1:Rt).2.1=0∨(dec x.1:Rt).2.2=ae x.2.1))) (fun x=>[RV.d tR (hid (ag (dec x.1:Rt).2.1))])
theorem VK:SpK 198 PO:=spX fun x h=>by simp only[aj];exact aba x.1 x.2.1 (at6 h)
def WQ:aN:=spN true true [tO,tR,tR] (fun x=>decide (okT 15000 x.1∧ok Rat 1000 x.2.1∧ok Rat 1000 x.2.2.1∧0≤ae x.2.1)) (fun x=>[RV.d axf (RE.rngS (RE.vR (dec x.1)) (ae x.2.1) (ae x.2.2.1))])
theorem UD:SpK 115 WQ:=spX fun x h=>acP x.1 x.2.1 x.2.2.1 (at6 h)
def zK:Env:=(201,QL)::(198,PO)::(115,WQ)::uN
theorem rD:EnvAll Tryz.prog zK:=⟨OH,VK,UD,m3⟩
def am8:Ctx:=CX zK []
def af4(p q:BP)(r:BR)(_k:KT):Option (List RV):=let y1:=ag ((0:Int):Rat);let y2:=hid (enc (noQ (dec p) (dec q)));let y3:=dec (hid y1,hid y1);let y4:=hid (enc (rcX (dec p) y3));let y5:=hid (enc (rcX (dec q) y3));let y6:=hid (enc (prQ (dec y2) (dec y4) (dec y5) (((-2):Int):Rat)));let y7:=hid (enc (rcY (dec p) y3));let y8:=hid (enc (rcY (dec q) y3));let y9:=hid (enc (sqP (dec p) y3));let y10:=hid (enc (sqP (dec q) y3));let y11:=hid (enc (prQ (dec y6) (dec y7) (dec y8) (((-2):Int):Rat)));let y12:=hid (ag (ae (y9.1)+ae (y10.1)));let y13:=hid (ag (ae (y11.1)+ae y12));let y14:=hid (ag (ae r*ae r));let y15:=hid (ag (dec y9:Rt).2.1);let y16:=hid (ag (dec y10:Rt).2.1);match decide (aY (0:Int))with|true=>(match decide (aY (0:Int))with|true=>(match decide (okP 580 p∧ok (Rat×Rat) 400 (hid y1,hid y1))with|true=>(match decide (okP 580 q∧ok (Rat×Rat) 400 (hid y1,hid y1))with|true=>(match decide (okP 580 p∧okP 580 q)with|true=>(match decide (ok Qd 12000 y2∧ok (Rat×Rat) 2500 y4∧ok (Rat×Rat) 2500 y5∧aY ((-2):Int))with|true=>(match decide (ok Qd 12000 y6∧ok (Rat×Rat) 2500 y7∧ok (Rat×Rat) 2500 y8∧aY ((-2):Int))with|true=>(match decide (okP 3500 p∧ok (Rat×Rat) 300 (hid y1,hid y1))with|true=>(match decide (okP 3500 q∧ok (Rat×Rat) 300 (hid y1,hid y1))with|true=>(match decide (okR (y9.1)∧okR (y10.1))with|true=>(match decide (okR (y11.1)∧okR y12)with|true=>(match decide (okR r∧okR r)with|true=>(match decide (okR y13∧okR y14)with|true=>(match decide (okT 15000 y9∧ok Rat 15000 p.2.2.2.2∧((dec y9:Rt).2.1=0∨(dec y9:Rt).2.2=ae p.2.2.2.2))with|true=>(match decide (okR ((y11.2).1)∧okR y15)with|true=>(match decide (okT 15000 y10∧ok Rat 15000 q.2.2.2.2∧((dec y10:Rt).2.1=0∨(dec y10:Rt).2.2=ae q.2.2.2.2))with|true=>(match decide (okR (((y11.2).2).1)∧okR y16)with|true=>(match decide (okQ (hid (ag (ae y13-ae y14)),(hid (ag (ae ((y11.2).1)+ae y15)),(hid (ag (ae (((y11.2).2).1)+ae y16)),((y11.2).2).2))))with|true=>some [RV.d axf (sgQ (dec (hid (ag (ae y13-ae y14)),(hid (ag (ae ((y11.2).1)+ae y15)),(hid (ag (ae (((y11.2).2).1)+ae y16)),((y11.2).2).2)))))]|false=>none)|false=>none)|false=>none)|false=>none)|false=>none)|false=>none)|false=>none)|false=>none)|false=>none)|false=>none)|false=>none)|false=>none)|false=>none)|false=>none)|false=>none)|false=>none)|false=>none)|false=>none
theorem aq6(p q:BP)(r:BR):RS am8 111 [.d tP p,.d tP q,.d tR r] (af4 p q r):=rsX
theorem Y2(p q:BP)(r:BR)(h:okP 580 p∧okP 160 q∧ok Rat 1000 r):Con Tryz.prog 111 [.d tP p,.d tP q,.d tR r] [.d axf (RE.apaS (RE.pR (dec p)) (RE.pR (dec q)) (ae r))]:=by
 refine aP rD (aq6 _ _ _ ⟨0,?_⟩)
 obtain⟨hp,hq,hr⟩:=h
 obtain⟨p,rfl,bp,rp⟩:=bz hp
 obtain⟨q,rfl,bq,rq⟩:=bz hq
 obtain⟨r,rfl,br⟩:=aS hr
 have h0:decide (aY 0)=true:=by decide
 have h2:decide (aY (-2))=true:=by decide
 have c2:((-2:Int):Rat)= -2:=rfl
 have b2:Bd (-2:Rat) 3:=cZ (n:= -2) (by decide)
 have hz:((ag ((0:Int):Rat),ag ((0:Int):Rat)):BV)=enc z2:=rfl
 have o1:=ajx (p:=p) (q:=q) (r:=r) rp.nn rq.nn
 unfold af4
 simp only[aj,am,aE,aF,aB,az,okd,aC,aW,aua,aub,Nat.reduceAdd,Nat.reduceMul,Nat.reduceLeDiff,a9,aZ,h0,h2,c2,hz,dT (show sqB p z2=0∨(sqP p z2).2.2=p.2.2.2.2 by rw[←aiS];exact afa p z2),dT (show sqB q z2=0∨(sqP q z2).2.2=q.2.2.2.2 by rw[←aiS];exact afa q z2),atg,aiS]
 show(match decide (okQ (enc (apQ p q r)))with|true=>some [RV.d axf (sgQ (dec (enc (apQ p q r))))]|false=>none)=_
 rw[am,o1,RE.apQ_re]
def ao3:Ctx:=CX zK []
def adY(c:BCU)(p:BP)(_k:KT):Option (List RV):=match c.2.2.2.1 with|true=>(match decide (ok (Rat×Rat) 400 (hid ((c.2.2.1.1,c.2.2.1.2.1)))∧okP 580 c.2.2.2.2.2∧okP 580 c.2.2.2.2.1)with|true=>(match decide ((RE.turS (dec (hid ((c.2.2.1.1,c.2.2.1.2.1)))) (RE.pR (dec c.2.2.2.2.2)) (RE.pR (dec c.2.2.2.2.1)))≥0)with|true=>(match decide (ok (Rat×Rat) 400 (hid ((c.2.2.1.1,c.2.2.1.2.1)))∧okP 580 c.2.2.2.2.2∧okP 580 p)with|true=>(match decide ((RE.turS (dec (hid ((c.2.2.1.1,c.2.2.1.2.1)))) (RE.pR (dec c.2.2.2.2.2)) (RE.pR (dec p)))≥0)with|true=>(match decide (ok (Rat×Rat) 400 (hid ((c.2.2.1.1,c.2.2.1.2.1)))∧okP 580 p∧okP 580 c.2.2.2.2.1)with|true=>some [RV.d .bool (decide ((RE.turS (dec (hid ((c.2.2.1.1,c.2.2.1.2.1)))) (RE.pR (dec p)) (RE.pR (dec c.2.2.2.2.1)))≥0))]|false=>none)|false=>some [RV.d .bool false])|false=>none)|false=>(match decide (ok (Rat×Rat) 400 (hid ((c.2.2.1.1,c.2.2.1.2.1)))∧okP 580 c.2.2.2.2.1∧okP 580 p)with|true=>(match decide ((RE.turS (dec (hid ((c.2.2.1.1,c.2.2.1.2.1)))) (RE.pR (dec c.2.2.2.2.1)) (RE.pR (dec p)))≤0)with|true=>some [RV.d .bool true]|false=>(match decide (ok (Rat×Rat) 400 (hid ((c.2.2.1.1,c.2.2.1.2.1)))∧okP 580 p∧okP 580 c.2.2.2.2.2)with|true=>some [RV.d .bool (decide ((RE.turS (dec (hid ((c.2.2.1.1,c.2.2.1.2.1)))) (RE.pR (dec p)) (RE.pR (dec c.2.2.2.2.2)))≤0))]|false=>none))|false=>none))|false=>none)|false=>(match decide (ok (Rat×Rat) 400 (hid ((c.2.2.1.1,c.2.2.1.2.1)))∧okP 580 c.2.2.2.2.1∧okP 580 c.2.2.2.2.2)with|true=>(match decide ((RE.turS (dec (hid ((c.2.2.1.1,c.2.2.1.2.1)))) (RE.pR (dec c.2.2.2.2.1)) (RE.pR (dec c.2.2.2.2.2)))≥0)with|true=>(match decide (ok (Rat×Rat) 400 (hid ((c.2.2.1.1,c.2.2.1.2.1)))∧okP 580 c.2.2.2.2.1∧okP 580 p)with|true=>(match decide ((RE.turS (dec (hid ((c.2.2.1.1,c.2.2.1.2.1)))) (RE.pR (dec c.2.2.2.2.1)) (RE.pR (dec p)))≥0)with|true=>(match decide (ok (Rat×Rat) 400 (hid ((c.2.2.1.1,c.2.2.1.2.1)))∧okP 580 p∧okP 580 c.2.2.2.2.2)with|true=>some [RV.d .bool (decide ((RE.turS (dec (hid ((c.2.2.1.1,c.2.2.1.2.1)))) (RE.pR (dec p)) (RE.pR (dec c.2.2.2.2.2)))≥0))]|false=>none)|false=>some [RV.d .bool false])|false=>none)|false=>(match decide (ok (Rat×Rat) 400 (hid ((c.2.2.1.1,c.2.2.1.2.1)))∧okP 580 c.2.2.2.2.2∧okP 580 p)with|true=>(match decide ((RE.turS (dec (hid ((c.2.2.1.1,c.2.2.1.2.1)))) (RE.pR (dec c.2.2.2.2.2)) (RE.pR (dec p)))≤0)with|true=>some [RV.d .bool true]|false=>(match decide (ok (Rat×Rat) 400 (hid ((c.2.2.1.1,c.2.2.1.2.1)))∧okP 580 p∧okP 580 c.2.2.2.2.1)with|true=>some [RV.d .bool (decide ((RE.turS (dec (hid ((c.2.2.1.1,c.2.2.1.2.1)))) (RE.pR (dec p)) (RE.pR (dec c.2.2.2.2.1)))≤0))]|false=>none))|false=>none))|false=>none)
theorem alL(c:BCU)(p:BP):RS ao3 114 [.d tCU c,.d tP p] (adY c p):=rsX
theorem acT(c:BCU)(p:BP)(h:kY c.2.2.1∧okP 580 c.2.2.2.2.1∧okP 580 c.2.2.2.2.2∧okP 580 p):Con Tryz.prog 114 [.d tCU c,.d tP p] [.d .bool (RE.witE (dC c) (RE.pR (dec p)))]:=by
 refine aP rD (alL _ _ ⟨0,?_⟩)
 obtain⟨⟨hc,_⟩,hf,ht,hp⟩:=h
 obtain⟨p,rfl,bp,rp⟩:=bz hp
 obtain⟨ar,li,ci,cw,fr,to⟩:=c
 simp only at hc hf ht
 obtain⟨ci,rfl,bc⟩:=aS hc
 obtain⟨fr,rfl,bf,rf⟩:=bz hf
 obtain⟨to,rfl,bt,rt⟩:=bz ht
 have e0:((ag ci.1,ag ci.2.1):BV)=enc (ctr ci):=rfl
 unfold adY
 rw[RE.wit_eq]
 simp only[aj,am,aE,aF,aB,okd,aua,aub,mx,Nat.reduceLeDiff,auf,cond_true,aZ,e0]
 cases cw
 ·simp only[am,cond_false,dC,ciC,ccF,ccT,cwC,frC,toC]
  rw[RE.turS_anti (ctr ci) (RE.pR to) (RE.pR p),RE.turS_anti (ctr ci) (RE.pR p) (RE.pR fr)]
  exact RE.wit_go _ _ _
 ·simp only[am,cond_true,dC,ciC,ccF,ccT,cwC,frC,toC]
  rw[RE.turS_anti (ctr ci) (RE.pR fr) (RE.pR p),RE.turS_anti (ctr ci) (RE.pR p) (RE.pR to)]
  exact RE.wit_go _ _ _
def PW:aN:=spN true true [tP,tP,tR] (fun x=>decide (okP 580 x.1∧okP 160 x.2.1∧ok Rat 1000 x.2.2.1)) (fun x=>[RV.d axf (RE.apaS (RE.pR (dec x.1)) (RE.pR (dec x.2.1)) (ae x.2.2.1))])
theorem VT:SpK 111 PW:=spX fun x h=>Y2 x.1 x.2.1 x.2.2.1 (at6 h)
def UO:aN:=spN true true [tCU,tP] (fun x=>decide (kY x.1.2.2.1∧okP 580 x.1.2.2.2.2.1∧okP 580 x.1.2.2.2.2.2∧okP 580 x.2.1)) (fun x=>[RV.d .bool (RE.witE (dC x.1) (RE.pR (dec x.2.1)))])
theorem OE:SpK 114 UO:=spX fun x h=>acT x.1 x.2.1 (at6 h)
def Ny:Env:=(111,PW)::(114,UO)::zK
theorem MJ:EnvAll Tryz.prog Ny:=⟨VT,OE,rD⟩
def aid:NT:=[((41,21),{keep:=[25],hl:=0}),((41,49),{keep:=[107],hl:=0})]
def aoy:Ctx:=CX Ny aid
def aeV(c:BCU)(p:BP)(r:BR)(_k:KT):Option (List RV):=let y1:=RE.pR (dec c.2.2.2.2.2);let y2:=RE.pR (dec c.2.2.2.2.1);let y3:Option (List RV):=match decide (okP 580 c.2.2.2.2.1∧okP 160 p∧ok Rat 1000 r)with|true=>(match decide (okP 580 c.2.2.2.2.2∧okP 160 p∧ok Rat 1000 r)with|true=>some [RV.d axf (if RE.apaS y1 (RE.pR (dec p)) (ae r)<RE.apaS y2 (RE.pR (dec p)) (ae r)then RE.apaS y1 (RE.pR (dec p)) (ae r)else RE.apaS y2 (RE.pR (dec p)) (ae r))]|false=>none)|false=>none;let y4:=hid (ag (ae c.2.1.1*ae p.1));let y5:=hid (ag (ae c.2.1.2.1*ae p.2.2.1));let y6:=hid (ag (ae y4+ae y5));let y7:=hid (ag (ae c.2.1.1*ae p.2.1));let y8:=hid (ag (ae c.2.1.2.1*ae p.2.2.2.1));let y9:=hid (ag (ae y6-ae c.2.1.2.2));let y10:=hid (ag (ae y7+ae y8));let y11:=hid (ag (ae y10*ae y10));let y12:=hid (ag (ae y9*ae y9));let y13:=hid (ag (ae p.2.2.2.2*ae y11));let y14:=hid (ag ((2:Int):Rat));let y15:=hid (ag (ae y9*ae y10));let y16:=hid (ag (ae y12+ae y13));let y17:=hid (ag (ae y14*ae y15));let y18:=hid (ag (ae c.2.1.1*ae c.2.1.1));let y19:=hid (ag (ae c.2.1.2.1*ae c.2.1.2.1));let y20:=hid (ag (ae r*ae r));let y21:=hid (ag (ae y18+ae y19));let y22:=hid (enc (mkR (ae y16) (ae y17) (ae p.2.2.2.2)));let y23:=hid (ag (ae y20*ae y21));let y24:=hid ((c.2.2.1.1,c.2.2.1.2.1));let y25:=hid (enc (sqP (dec p) (dec y24)));match decide (okR r)with|true=>(match decide ((aU (ae r) 0)<0)with|true=>some [RV.d axf 1]|false=>(match !c.1 with|true=>(match decide (okC 3000 c∧okP 3000 p∧c.1=false)with|true=>(match !(oI (dC c) (dec p))with|true=>y3|false=>(match decide (okR c.2.1.1∧okR p.1)with|true=>(match decide (okR c.2.1.2.1∧okR p.2.2.1)with|true=>(match decide (okR y4∧okR y5)with|true=>(match decide (okR y6∧okR c.2.1.2.2)with|true=>(match decide (okR c.2.1.1∧okR p.2.1)with|true=>(match decide (okR c.2.1.2.1∧okR p.2.2.2.1)with|true=>(match decide (okR y7∧okR y8)with|true=>(match decide (okR y9∧okR y9)with|true=>(match decide (okR y10∧okR y10)with|true=>(match decide (okR p.2.2.2.2∧okR y11)with|true=>(match decide (okR y12∧okR y13)with|true=>(match decide (aY (2:Int))with|true=>(match decide (okR y9∧okR y10)with|true=>(match decide (okR y14∧okR y15)with|true=>(match decide (ok Rat 100000 y16∧ok Rat 100000 y17∧ok Rat 100000 p.2.2.2.2∧0≤ae p.2.2.2.2)with|true=>(match decide (okR r∧okR r)with|true=>(match decide (okR c.2.1.1∧okR c.2.1.1)with|true=>(match decide (okR c.2.1.2.1∧okR c.2.1.2.1)with|true=>(match decide (okR y18∧okR y19)with|true=>(match decide (okR y20∧okR y21)with|true=>(match decide (okT 15000 y22∧ok Rat 15000 y23)with|true=>some [RV.d axf (eu (dec y22) (ae y23))]|false=>none)|false=>none)|false=>none)|false=>none)|false=>none)|false=>none)|false=>none)|false=>none)|false=>none)|false=>none)|false=>none)|false=>none)|false=>none)|false=>none)|false=>none)|false=>none)|false=>none)|false=>none)|false=>none)|false=>none)|false=>none))|false=>none)|false=>(match decide (okP 3500 p∧ok (Rat×Rat) 300 y24)with|true=>(match decide (okT 15000 y25)with|true=>(match(sgR (dec y25))==0 with|true=>(match decide (okR r∧okR r)with|true=>(match decide (okR c.2.2.1.2.2∧okR y20)with|true=>some [RV.d axf (aU (ae c.2.2.1.2.2) (ae y20))]|false=>none)|false=>none)|false=>(match decide (kY c.2.2.1∧okP 580 c.2.2.2.2.1∧okP 580 c.2.2.2.2.2∧okP 580 p)with|true=>(match !(RE.witE (dC c) (RE.pR (dec p)))with|true=>y3|false=>(match decide (okT 15000 y25∧ok Rat 1000 c.2.2.1.2.2∧ok Rat 1000 r∧0≤ae c.2.2.1.2.2)with|true=>some [RV.d axf (RE.rngS (RE.vR (dec y25)) (ae c.2.2.1.2.2) (ae r))]|false=>none))|false=>none))|false=>none)|false=>none)))|false=>none
theorem ap0(c:BCU)(p:BP)(r:BR):RS aoy 41 [.d tCU c,.d tP p,.d tR r] (aeV c p r):=rsX
open Classical in
theorem aby(c:BCU)(p:BP)(r:BR)(h:okC 580 c∧okP 150 p∧ok Rat 1000 r):Con Tryz.prog 41 [.d tCU c,.d tP p,.d tR r] [.d axf (RE.poiE (dC c) (RE.pR (dec p)) (ae r))]:=by
 refine aP MJ (ap0 _ _ _ ⟨0,?_⟩)
 obtain⟨hc,hp,hr⟩:=h
 have hp1:=cJ (k:=160) hp (by decide) (by decide)
 have hp6:=cJ (k:=580) hp (by decide) (by decide)
 have hp3:=cJ (k:=3000) hp (by decide) (by decide)
 have hc3:=dt (k:=3000) hc (by decide) (by decide)
 obtain⟨p,rfl,bp,rp⟩:=bz hp
 obtain⟨r,rfl,br⟩:=aS hr
 obtain⟨ar,li,ci,cw,fr,to⟩:=c
 have h3:=hc.2.2.1
 have h4:=hc.2.2.2
 simp only at h3 h4
 obtain⟨fr,rfl,bf,rf⟩:=bz h3
 obtain⟨to,rfl,bt,rt⟩:=bz h4
 have o1:decide (okP 580 (enc fr)∧okP 160 (enc p)∧ok Rat 1000 (ag r))=true:=at7 ⟨h3,hp1,hr⟩
 have o2:decide (okP 580 (enc to)∧okP 160 (enc p)∧ok Rat 1000 (ag r))=true:=at7 ⟨h4,hp1,hr⟩
 have b2:Bd ((2:Int):Rat) 3:=cZ (n:=2) (by decide)
 have i2:decide (aY 2)=true:=by decide
 have hn:0≤p.2.2.2.2:=rp.nn
 rw[aB,az,am]
 unfold aeV RE.poiE
 cases ar
 ·obtain⟨c2,c3⟩:=hc.2.1 rfl
  simp only at c2 c3
  obtain⟨li,rfl,bl⟩:=aS c2
  have o3:decide (okC 3000 (false,enc li,ci,cw,enc fr,enc to)∧okP 3000 (enc p)∧(false,enc li,ci,cw,enc fr,enc to).1=false)=true:=at7 ⟨hc3,hp3,rfl⟩
  have hb:RE.besE (false,li,dec ci,cw,fr,to) (RE.pR p)=oI (false,li,dec ci,cw,fr,to) p:=RE.bes_E (c:=(false,li,dec ci,cw,fr,to)) (hf:=rf) (ht:=rt)
  have q2:eu (mkR (mN li p*mN li p+p.2.2.2.2*(mz li p*mz li p)) (2*(mN li p*mz li p)) p.2.2.2.2) (r*r*(li.1*li.1+li.2.1*li.2.1))=RE.sg (RE.exE li (RE.pR p)*RE.exE li (RE.pR p)-RE.of (r*r*(li.1*li.1+li.2.1*li.2.1))):=by
   rw[RE.cmpTR_re (mR (h:=⟨hn⟩)).nn,RE.vR_lin]
  have bA:Bd (mN li p) 1210:=(inferInstance:Bd (li.1*p.1+li.2.1*p.2.2.1-li.2.2) _).mono (by decide)
  have bB:Bd (mz li p) 1210:=(inferInstance:Bd (li.1*p.2.1+li.2.1*p.2.2.2.1) _).mono (by decide)
  have eA:li.1*p.1+li.2.1*p.2.2.1-li.2.2=mN li p:=rfl
  have eB:li.1*p.2.1+li.2.1*p.2.2.2.1=mz li p:=rfl
  have e2:((2:Int):Rat)=2:=rfl
  have b2':Bd (2:Rat) 3:=b2
  have nC:Nn p.2.2.2.2:=⟨hn⟩
  dsimp only
  simp only[aj,am,aE,aF,aB,az,aC,aW,aua,aub,Nat.reduceAdd,Nat.reduceLeDiff,auf,cond_false,a9,aZ,aJ,o1,o2,at7 hc3,i2,dT hn,RE.min_if,Bool.not_false,dC,lnC,eA,eB,e2,q2,hb]
  cases decide (r<0)
  ·cases oI (false,li,dec ci,cw,fr,to) p<;>rfl
  ·rfl
 ·obtain⟨c1,hq⟩:=hc.1 rfl
  have hci:kY ci:=⟨c1,hq⟩
  simp only at c1 hq
  obtain⟨ci,rfl,bc⟩:=aS c1
  rw[am]at hq
  have e0:((ag ci.1,ag ci.2.1):BV)=enc (ctr ci):=rfl
  have o3:decide (kY (enc ci)∧okP 580 (enc fr)∧okP 580 (enc to)∧okP 580 (enc p))=true:=at7 ⟨hci,h3,h4,hp6⟩
  have z:(sgR (sqP p (ctr ci))==0)=decide (RE.pR p=RE.vE (ctr ci)):=by
   rw[av2,avJ]
   exact RE.sq_zr
  have vs:RE.vR (sqP p (ctr ci))=RE.dsE (RE.pR p) (RE.vE (ctr ci)):=RE.vR_sq _
  dsimp only
  simp only[aj,am,aE,aF,aB,az,okd,aC,aW,aua,aub,mx,Nat.reduceAdd,Nat.reduceMul,Nat.reduceLeDiff,auf,cond_true,a9,aZ,aJ,e0,o1,o2,o3,RE.min_if,Bool.not_true,dC,ciC,z,vs,dT (show 0≤ci.2.2 by grind)]
  cases decide (r<0)
  ·cases decide (RE.pR p=RE.vE (ctr ci))
   ·cases RE.witE (true,dec li,ci,cw,fr,to) (RE.pR p)<;>rfl
   ·rfl
  ·rfl
def Fx:aN:=spN true true [tCU,tP,tR] (fun x=>decide (okC 580 x.1∧okP 150 x.2.1∧ok Rat 1000 x.2.2.1)) (fun x=>[RV.d axf (RE.poiE (dC x.1) (RE.pR (dec x.2.1)) (ae x.2.2.1))])
theorem C3:SpK 41 Fx:=spX fun x h=>aby x.1 x.2.1 x.2.2.1 (at6 h)
end
end Go.Proofs.YtlahabkjhgkkjaaGreat
end
