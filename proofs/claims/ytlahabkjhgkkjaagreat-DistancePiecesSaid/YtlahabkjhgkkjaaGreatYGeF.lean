/- The square of the distance is the least square of the distance of a point of the curve. -/
import Derived.Test.YtlahabkjhgkkjaaGreatYGeE
import Derived.Test.YtlahabkjhgkkjaaGreatY18
noncomputable section
namespace Go.Proofs.YtlahabkjhgkkjaaGreat
open Go.RowKit Go.IntKind
namespace RE
theorem XG{a b:Rt}[ha:Rdd a][hb:Rdd b]:vR (kq a b)=mnE (vR a) (vR b):=by
 unfold kq mnE
 rw[cmpT_re hb.nn ha.nn]
 by_cases h:vR b<vR a
 ·rw[avr h,au1 (by rw[im (qM _ _ h)];decide)]
  rfl
 ·rw[avn h,au3 (by
   intro g
   exact h (ajf (by rw[←aaB];exact iD (HJ.1 g))))]
  rfl
theorem Wo(a b:RE):mnE a b=mnE b a:=by
 unfold mnE
 rcases kV a b with h|h|h
 ·rw[avn (fun g=>lt_irrefl _ (c7 h g)),avr h]
 ·rw[h]
 ·rw[avr h,avn (fun g=>lt_irrefl _ (c7 h g))]
def vE(v:Rat×Rat):PE:=(of v.1,of v.2)
theorem ag8{p:Pt}[Rpd p](v:Rat×Rat):vR (sqP p v)=dsE (pR p) (vE v):=X4
theorem IA{c:Cv}(hf:Rpd (frC c))(ht:Rpd (toC c))(v:Rat×Rat):vR (yk c v)=mnE (dsE (pR (frC c)) (vE v)) (dsE (pR (toC c)) (vE v)):=by
 unfold yk
 rw[XG,ag8,ag8]
theorem Tw{c:Cv}[hf:Rpd (frC c)][ht:Rpd (toC c)]{p:Pt}[hp:Rpd p]:pe c p=true↔btE (tE (lnC c) (pR (frC c))) (tE (lnC c) (pR (toC c))) (tE (lnC c) (pR p)):=by
 unfold pe
 rw[alo_cmp,alo_cmp,alo_cmp,alo_cmp,alo_cmp]
 exact AZ _ _ _
theorem aj8(l:Ln)(v:Rat×Rat):exE l (vE v)=of (l.1*v.1+l.2.1*v.2-l.2.2):=by
 rw[of_sub]
 rfl
theorem R8{l:Ln}(hl:l.1≠0∨l.2.1≠0)(v:Rat×Rat):cg (eG v (c8 l v)) (eG v (c8 l v))=(l.1*v.1+l.2.1*v.2-l.2.2)*(l.1*v.1+l.2.1*v.2-l.2.2)*(1/(l.1*l.1+l.2.1*l.2.1)):=by
 have hn:=jX hl
 have h1:1/(l.1*l.1+l.2.1*l.2.1)*(l.1*l.1+l.2.1*l.2.1)=1:=awq hn
 have h2:nj l v=(l.1*v.1+l.2.1*v.2-l.2.2)*(1/(l.1*l.1+l.2.1*l.2.1)):=by
  unfold nj
  rw[axJ,axJ,Rat.one_mul]
 unfold cg eG c8
 rw[h2]
 generalize 1/(l.1*l.1+l.2.1*l.2.1)=k at*
 generalize l.1*v.1+l.2.1*v.2-l.2.2=e at*
 dsimp only
 grind
theorem aaV{c:Cv}(h:GdE c)(ha:c.1=false)(v:Rat×Rat):Mn (jl (lnC c) (pR (frC c)) (pR (toC c))) (vE v) (vR (cd c v)):=by
 have hf:=h.f
 have ht:=h.t
 obtain⟨hl,oF,oT⟩:=h.l ha
 have hn:0<nrE (lnC c):=Xp hl
 have hb:=Tw (c:=c) (p:=atP v)
 have ev:pR (atP v)=vE v:=uo v
 rw[ev]at hb
 unfold cd
 rw[ha,cond_false]
 cases e:pe c (atP v)
 ·rw[cond_false,IA hf ht]
  rw[e]at hb
  exact abY hn oF oT (fun g=>by cases hb.2 g)
 ·rw[cond_true]
  have hk:=jX hl
  have h1:1/((lnC c).1*(lnC c).1+(lnC c).2.1*(lnC c).2.1)*((lnC c).1*(lnC c).1+(lnC c).2.1*(lnC c).2.1)=1:=awq hk
  have ek:nrE (lnC c)*of (1/((lnC c).1*(lnC c).1+(lnC c).2.1*(lnC c).2.1))=1:=by
   have:nrE (lnC c)=of ((lnC c).1*(lnC c).1+(lnC c).2.1*(lnC c).2.1):=rfl
   rw[this,mul_comm,←of_mul,h1]
   rfl
  have kp:0<of (1/((lnC c).1*(lnC c).1+(lnC c).2.1*(lnC c).2.1)):=by
   have:=dU (nrE (lnC c)) (of (1/((lnC c).1*(lnC c).1+(lnC c).2.1*(lnC c).2.1)))
   rw[ek,dR zero_lt_one,dR hn,awu]at this
   exact GX.1 this.symm
  have:=CN hn (hb.1 e) kp ek
  have e2:vR (cg (eG v (c8 (lnC c) v)) (eG v (c8 (lnC c) v)),0,0)=of (cg (eG v (c8 (lnC c) v)) (eG v (c8 (lnC c) v))):=dZ _ _
  rw[e2,R8 hl,of_mul,of_mul,←aj8]
  exact this
theorem abp(x y a b v w:RE):(x-v)*(x-v)+(y-w)*(y-w)=(x-a)*(x-a)+(y-b)*(y-b)+((v-a)*(v-a)+(w-b)*(w-b))-(((x-a)*(v-a)+(y-b)*(w-b))+((x-a)*(v-a)+(y-b)*(w-b))):=by
 induction x using auZ
 induction y using auZ
 induction a using auZ
 induction b using auZ
 induction v using auZ
 induction w using auZ
 exact snd fun n=>by
  simp only[RL.add,RL.mul,RL.neg]
  grind
theorem aba(a b c d r:RE):a*(d*r)-b*(c*r)=r*(a*d-b*c):=by
 induction a using auZ
 induction b using auZ
 induction c using auZ
 induction d using auZ
 induction r using auZ
 exact snd fun n=>by
  simp only[RL.add,RL.mul,RL.neg]
  grind
theorem ZT(a b c d r:RE):c*r*b-d*r*a=r*(c*b-d*a):=by
 induction a using auZ
 induction b using auZ
 induction c using auZ
 induction d using auZ
 induction r using auZ
 exact snd fun n=>by
  simp only[RL.add,RL.mul,RL.neg]
  grind
theorem arR(a b r:RE):a*r*a+b*r*b=r*(a*a+b*b):=by
 induction a using auZ
 induction b using auZ
 induction r using auZ
 exact snd fun n=>by
  simp only[RL.add,RL.mul]
  grind
theorem arN(a b:RE):a+b-a=b:=by
 induction a using auZ
 induction b using auZ
 exact snd fun n=>by
  simp only[RL.add,RL.neg]
  grind
theorem aaM(q s t u:RE):((q+u-(t+t)-(q+u-(s+s))))+of 2*((t-(s)))=0:=by
 induction q using auZ
 induction s using auZ
 induction t using auZ
 induction u using auZ
 exact snd fun n=>by
  simp only[RL.add,RL.mul,RL.neg,RL.const]
  grind
theorem ahz(q s t u:RE)(h1:s≤t):q+u-(t+t)≤q+u-(s+s):=fun hg=>far (aB (aE hg) (eK (by decide+kernel:(0:Rat)<2) (aA h1))) (aaM q s t u)
theorem auq(r d:RE):r*d*(r*d)=r*r*d*d:=by
 induction r using auZ
 induction d using auZ
 exact snd fun n=>by
  simp only[RL.mul]
  grind
theorem Hp(c t m:RE):((t*t-(m)))+((m-(c*c+t*t)))+(c*c)=0:=by
 induction c using auZ
 induction t using auZ
 induction m using auZ
 exact snd fun n=>by
  simp only[RL.add,RL.mul,RL.neg,RL.const]
  grind
theorem VK(c t m:RE)(h1:c*c+t*t=m):t*t≤m:=fun hg=>far (aB (aB (aE hg) (aA (dP h1))) (gY (c))) (Hp c t m)
theorem aaT(t s:RE):((t-(s)))+((0-(t)))+((s-(0)))=0:=by
 induction t using auZ
 induction s using auZ
 exact snd fun n=>by
  simp only[RL.add,RL.neg,RL.const]
  grind
theorem anG(t s:RE)(h1:t≤0)(h2:0≤s):t≤s:=fun hg=>far (aB (aB (aE hg) (aA h1)) (aA h2)) (aaT t s)
theorem ako(a b r:RE):a*r*(a*r)+b*r*(b*r)=(a*a+b*b)*(r*r):=by
 induction a using auZ
 induction b using auZ
 induction r using auZ
 exact snd fun n=>by
  simp only[RL.add,RL.mul]
  grind
theorem agS(a s:RE):a+ -2*s=a-(s+s):=by
 induction a using auZ
 induction s using auZ
 exact snd fun n=>by
  simp only[RL.add,RL.mul,RL.neg,RL.const]
  grind
theorem xC{c:Ln}{p:PE}(h:ny c p)(v:PE):dsE p v=of c.2.2+dtE (frm c v) (frm c v)-(dtE (frm c p) (frm c v)+dtE (frm c p) (frm c v)):=by
 have h':(p.1-of c.1)*(p.1-of c.1)+(p.2-of c.2.1)*(p.2-of c.2.1)=of c.2.2:=h
 unfold dsE dtE frm
 dsimp only
 rw[abp _ _ (of c.1) (of c.2.1),h']
theorem Tv{c:Ln}{p q:PE}(hp:ny c p)(hq:ny c q){v:PE}(h:dtE (frm c p) (frm c v)≤dtE (frm c q) (frm c v)):dsE q v≤dsE p v:=by
 rw[xC hp,xC hq]
 exact ahz _ _ _ _ h
theorem Ew(u w:PE):nA u w u=true∧nA u w w=true:=by
 have z:∀x:PE,crs x x=0:=fun x=>by unfold crs;rw[mul_comm,sub_self]
 rcases lt_or_ge (crs u w) 0 with h|h
 ·exact⟨(T7 h).2 (fun g=>by rw[z u]at g;exact lt_irrefl _ g.2),(T7 h).2 (fun g=>by rw[z w]at g;exact lt_irrefl _ g.1)⟩
 ·exact⟨(YN h).2 ⟨by rw[z u];exact le_refl _,h⟩,(YN h).2 ⟨h,by rw[z w];exact le_refl _⟩⟩
theorem MS(u w d:PE){r:RE}(hr:0<r):nA u w (d.1*r,d.2*r)=nA u w d:=by
 have h1:crs u (d.1*r,d.2*r)=r*crs u d:=aba _ _ _ _ _
 have h2:crs (d.1*r,d.2*r) w=r*crs d w:=ZT _ _ _ _ _
 unfold nA
 rw[h1,h2,dU,dU,dR hr,awu,awu]
theorem T2{q:Pt}:pX (rdP q)=pX q∧pY (rdP q)=pY q:=by
 unfold rdP pX pY
 by_cases h1:q.2.1=0
 ·by_cases h2:q.2.2.2.1=0
  ·rw[au1 h1,au1 h2]
   dsimp only
   rw[h1,h2,dZ,dZ,dZ,dZ]
   exact⟨rfl,rfl⟩
  ·rw[au3 h2,Bool.and_false]
   exact⟨rfl,rfl⟩
 ·rw[au3 h1,Bool.false_and]
  exact⟨rfl,rfl⟩
theorem aps{x y:Rt}(h:qm x y):pR (mkP x y)=(vR x,vR y):=by
 unfold mkP
 refine axe (T2.1.trans ?_) (T2.2.trans ?_)
 ·unfold pX vR
  dsimp only
  by_cases e:x.2.1=0
  ·rw[e,dZ,dZ]
  ·rw[au3 e]
   rfl
 ·unfold pY vR
  dsimp only
  by_cases e:x.2.1=0
  ·rw[au1 e]
   rfl
  ·rw[au3 e]
   rcases h with h|h|h
   ·exact absurd h e
   ·rw[h,dZ,dZ]
   ·rw[cond_false,h]
theorem Cm(c:Ln)(d:Rat×Rat):frm c (pR (gK c d))=(of d.1*rq (c.2.2/cg d d),of d.2*rq (c.2.2/cg d d)):=by
 unfold gK
 rw[aps (uB _ _ _ _ _),vR_mk,vR_mk]
 unfold frm v2
 exact axe (arN _ _) (arN _ _)
theorem Sk(c:Ln)(v:Rat×Rat):frm c (vE v)=vE (eG (ctr c) v):=by
 unfold frm vE eG ctr
 dsimp only
 rw[of_sub,of_sub]
theorem We(d:Rat×Rat):dtE (vE d) (vE d)=of (cg d d):=rfl
theorem asp{m:Rat}(h:0<m):0<rq m:=by
 have:=OV (m:=m) (by grind)
 rw[c9 h]at this
 exact GX.1 this
theorem BC(c:Cv):(ccF c=frC c∧ccT c=toC c)∨(ccF c=toC c∧ccT c=frC c):=by
 unfold ccF ccT
 cases cwC c
 ·exact .inl ⟨rfl,rfl⟩
 ·exact .inr ⟨rfl,rfl⟩
theorem Tx{c:Cv}(hq:0<(ciC c).2.2){v:Rat×Rat}(hz:zeV (bK c v)=false)(on:ny (ciC c) (pR (gK (ciC c) (bK c v)))):dsE (pR (gK (ciC c) (bK c v))) (vE v)=of (cg (bK c v) (bK c v)+(ciC c).2.2)-(rq (cg (bK c v) (bK c v)*(ciC c).2.2)+rq (cg (bK c v) (bK c v)*(ciC c).2.2)):=by
 have hq0:(0:Rat)≤(ciC c).2.2:=by grind
 have d0:=xQ (bK c v)
 have m0:0≤cg (bK c v) (bK c v)*(ciC c).2.2:=avC d0 hq0
 have hs:=kz m0
 have hs0:=Ec (cg (bK c v) (bK c v)*(ciC c).2.2)
 have hD:frm (ciC c) (vE v)=vE (bK c v):=Sk _ _
 have n0:=GU hq0 d0
 have rr:=kz n0
 have r0:=Ec ((ciC c).2.2/cg (bK c v) (bK c v))
 have hdt:dtE (frm (ciC c) (pR (gK (ciC c) (bK c v)))) (frm (ciC c) (vE v))=rq (cg (bK c v) (bK c v)*(ciC c).2.2):=by
  rw[hD,Cm]
  have e1:dtE (of (bK c v).1*rq ((ciC c).2.2/cg (bK c v) (bK c v)),of (bK c v).2*rq ((ciC c).2.2/cg (bK c v) (bK c v))) (vE (bK c v))=rq ((ciC c).2.2/cg (bK c v) (bK c v))*of (cg (bK c v) (bK c v)):=arR _ _ _
  rw[e1]
  refine ahe _ _ (bV r0 (mj.2 d0)) hs0 ?_
  rw[hs,auq,rr,←of_mul,←of_mul,awq (vN hz),Rat.mul_comm]
 rw[xC on,hdt,hD,We,of_add,add_comm (of (cg _ _))]
theorem VD{c:Cv}{v:Rat×Rat}(hz:zeV (bK c v)=true){p:PE}(on:ny (ciC c) p):dsE p (vE v)=of (cg (bK c v) (bK c v)+(ciC c).2.2)-(rq (cg (bK c v) (bK c v)*(ciC c).2.2)+rq (cg (bK c v) (bK c v)*(ciC c).2.2)):=by
 have hD:frm (ciC c) (vE v)=vE (bK c v):=Sk _ _
 have z0:(bK c v).1=0∧(bK c v).2=0:=by
  unfold zeV at hz
  obtain⟨a,b⟩:=avL.1 hz
  exact⟨au0 a,au0 b⟩
 have dz:cg (bK c v) (bK c v)=0:=by
  unfold cg
  rw[z0.1,z0.2]
  decide+kernel
 have hdt:dtE (frm (ciC c) p) (frm (ciC c) (vE v))=0:=by
  rw[hD]
  unfold dtE vE
  dsimp only
  rw[z0.1,z0.2]
  show _*0+_*0=(0:RE)
  rw[mul_zero,mul_zero,add_zero]
 rw[xC on,hdt,hD,We,dz,Rat.zero_mul,aef,Rat.zero_add]
 show _+(0:RE)-_=_
 rw[add_zero]
theorem aae{c:Cv}(h:GdE c)(ha:c.1=true){v:Rat×Rat}(hz:zeV (bK c v)=false):ny (ciC c) (pR (gK (ciC c) (bK c v)))∧jj c (bK c v)=nA (frm (ciC c) (pR (ccF c))) (frm (ciC c) (pR (ccT c))) (vE (bK c v)):=by
 have hq:=(h.q ha).1
 have hq0:(0:Rat)≤(ciC c).2.2:=by grind
 have hC:Cir (ciC c):=⟨hq⟩
 have d0:=xQ (bK c v)
 have n0:0<(ciC c).2.2/cg (bK c v) (bK c v):=by
  have h1:(ciC c).2.2/cg (bK c v) (bK c v)*cg (bK c v) (bK c v)=(ciC c).2.2:=awq (vN hz)
  have h2:=GU hq0 d0
  rcases(by grind:(ciC c).2.2/cg (bK c v) (bK c v)=0∨0<(ciC c).2.2/cg (bK c v) (bK c v))with h3|h3
  ·rw[h3]at h1;grind
  ·exact h3
 have hr:=asp n0
 have rr:=kz (show 0≤(ciC c).2.2/cg (bK c v) (bK c v) by grind)
 have onray:ny (ciC c) (pR (gK (ciC c) (bK c v))):=by
  show(frm _ _).1*(frm _ _).1+(frm _ _).2*(frm _ _).2=_
  rw[Cm]
  have:of (bK c v).1*rq ((ciC c).2.2/cg (bK c v) (bK c v))*(of (bK c v).1*rq ((ciC c).2.2/cg (bK c v) (bK c v)))+of (bK c v).2*rq ((ciC c).2.2/cg (bK c v) (bK c v))*(of (bK c v).2*rq ((ciC c).2.2/cg (bK c v) (bK c v)))=of (cg (bK c v) (bK c v))*(rq ((ciC c).2.2/cg (bK c v) (bK c v))*rq ((ciC c).2.2/cg (bK c v) (bK c v))):=ako _ _ _
  rw[this,rr,←of_mul,Rat.mul_comm,awq (vN hz)]
 refine⟨onray,?_⟩
 have e1:jj c (bK c v)=onP c (gK (ciC c) (bK c v)):=by
  unfold jj
  rw[ha,hz]
  rfl
 rw[e1,←MS _ _ (vE (bK c v)) hr,Bool.eq_iff_iff,uZ h]
 unfold onE jM
 rw[avr ha,Cm]
 exact and_iff_right onray
theorem aah{c:Cv}(h:GdE c)(ha:c.1=true)(v:Rat×Rat):Mn (jM (ciC c) (pR (ccF c)) (pR (ccT c))) (vE v) (vR (cd c v)):=by
 have hf:=h.f
 have ht:=h.t
 obtain⟨hq,oF,oT⟩:=h.q ha
 have oF:ny (ciC c) (pR (frC c)):=oF
 have oT:ny (ciC c) (pR (toC c)):=oT
 have hq0:(0:Rat)≤(ciC c).2.2:=by grind
 have oU:ny (ciC c) (pR (ccF c)):=by rcases BC c with⟨e,_⟩|⟨e,_⟩<;>rw[e]<;>assumption
 have oW:ny (ciC c) (pR (ccT c)):=by rcases BC c with⟨_,e⟩|⟨_,e⟩<;>rw[e]<;>assumption
 have hne:frm (ciC c) (pR (ccF c))≠frm (ciC c) (pR (ccT c)):=fun e=>by
  have e1:pR (ccF c)=pR (ccT c):=axe (iB _ _ _ (congrArg Prod.fst e)) (iB _ _ _ (congrArg Prod.snd e))
  rcases BC c with⟨g1,g2⟩|⟨g1,g2⟩<;>rw[g1,g2]at e1
  ·exact h.ne e1
  ·exact h.ne e1.symm
 have sU:jM (ciC c) (pR (ccF c)) (pR (ccT c)) (pR (ccF c)):=⟨oU,(Ew _ _).1⟩
 have sW:jM (ciC c) (pR (ccF c)) (pR (ccT c)) (pR (ccT c)):=⟨oW,(Ew _ _).2⟩
 have hD:frm (ciC c) (vE v)=vE (bK c v):=Sk _ _
 have hDD:dtE (frm (ciC c) (vE v)) (frm (ciC c) (vE v))=of (cg (bK c v) (bK c v)):=by rw[hD,We]
 have hgen:onE c=jM (ciC c) (pR (ccF c)) (pR (ccT c)):=by funext p;unfold onE;rw[avr ha]
 have hC:Cir (ciC c):=⟨hq⟩
 have d0:=xQ (bK c v)
 have m0:0≤cg (bK c v) (bK c v)*(ciC c).2.2:=avC d0 hq0
 have hs:=kz m0
 have hs0:=Ec (cg (bK c v) (bK c v)*(ciC c).2.2)
 unfold cd
 rw[ha,cond_true]
 cases e:jj c (bK c v)
 ·rw[cond_false,IA hf ht]
  have hz:zeV (bK c v)=false:=by
   cases g:zeV (bK c v)
   ·rfl
   ·unfold jj at e
    rw[g,ha]at e
    cases e
  have hd:¬nA (frm (ciC c) (pR (ccF c))) (frm (ciC c) (pR (ccT c))) (vE (bK c v))=true:=fun g=>by
   rw[←(aae h ha hz).2,e]at g
   cases g
  have res:=Jv (v:=vE v) sU sW (fun p hp=>by
   have:=Zz (u:=frm (ciC c) (pR (ccF c))) (w:=frm (ciC c) (pR (ccT c))) (z:=frm (ciC c) p) (d:=vE (bK c v)) oU oW hp.1 hne hp.2 hd
   rw[←hD]at this
   exact this.imp (Tv hp.1 oU) (Tv hp.1 oW))
  rcases BC c with⟨g1,g2⟩|⟨g1,g2⟩
  ·rw[g1,g2]at res ⊢
   exact res
  ·rw[g1,g2]at res ⊢
   rw[Wo]
   exact res
 ·rw[cond_true,vR_mk]
  unfold v2
  have two:of (-2)= -2:=rfl
  rw[two,agS]
  have low:∀p,jM (ciC c) (pR (ccF c)) (pR (ccT c)) p→of (cg (bK c v) (bK c v)+(ciC c).2.2)-(rq (cg (bK c v) (bK c v)*(ciC c).2.2)+rq (cg (bK c v) (bK c v)*(ciC c).2.2))≤dsE p (vE v):=fun p hp=>by
   have h1:=Xw (frm (ciC c) p).1 (frm (ciC c) p).2 (frm (ciC c) (vE v)).1 (frm (ciC c) (vE v)).2
   have h2:(frm (ciC c) p).1*(frm (ciC c) p).1+(frm (ciC c) p).2*(frm (ciC c) p).2=of (ciC c).2.2:=hp.1
   have h3:(frm (ciC c) (vE v)).1*(frm (ciC c) (vE v)).1+(frm (ciC c) (vE v)).2*(frm (ciC c) (vE v)).2=of (cg (bK c v) (bK c v)):=hDD
   rw[h2,h3,←of_mul,Rat.mul_comm,←hs]at h1
   have h4:=VK _ _ _ h1
   have h5:dtE (frm (ciC c) p) (frm (ciC c) (vE v))≤rq (cg (bK c v) (bK c v)*(ciC c).2.2):=by
    rcases lt_or_ge 0 (dtE (frm (ciC c) p) (frm (ciC c) (vE v)))with g|g
    ·exact LD _ _ (le_of_lt g) hs0 h4
    ·exact anG _ _ g hs0
   rw[xC hp.1,hDD,of_add,add_comm (of (cg _ _))]
   exact ahz _ _ _ _ h5
  refine⟨?_,low⟩
  cases hz:zeV (bK c v)
  ·-- the point in this direction
   have hon:onE c (pR (gK (ciC c) (bK c v))):=by
    unfold jj at e
    rw[ha,hz]at e
    exact(uZ h).1 e
   rw[hgen]at hon
   exact⟨_,hon,Tx hq hz hon.1⟩
  ·exact⟨_,sU,VD hz oU⟩
theorem Do{c:Cv}(h:GdE c)(v:Rat×Rat):Mn (onE c) (vE v) (vR (cd c v)):=by
 cases ha:c.1
 ·have:onE c=jl (lnC c) (pR (frC c)) (pR (toC c)):=by
   funext p
   unfold onE
   rw[avn (by rw[ha];decide)]
  rw[this]
  exact aaV h ha v
 ·have:onE c=jM (ciC c) (pR (ccF c)) (pR (ccT c)):=by
   funext p
   unfold onE
   rw[avr ha]
  rw[this]
  exact aah h ha v
end RE
end Go.Proofs.YtlahabkjhgkkjaaGreat
end
