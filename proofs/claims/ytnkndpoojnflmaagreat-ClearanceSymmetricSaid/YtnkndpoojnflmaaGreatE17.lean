/- Common points in either order, of reversed curves, of a curve with itself: plain. -/
import Derived.Test.YtnkndpoojnflmaaGreatE16
import Derived.Test.YtnkndpoojnflmaaGreatE15
import Derived.Test.YtnkndpoojnflmaaGreatE14
noncomputable section
namespace Go.Proofs.YtnkndpoojnflmaaGreat
open Go.RowKit Go.IntKind
section
open RE
theorem Ig(c d:Ln):ij d c=ij c d:=by
 unfold ij
 have e1:decide (d.1=c.1)=decide (c.1=d.1):=al6.2 eq_comm
 have e2:decide (d.2.1=c.2.1)=decide (c.2.1=d.2.1):=al6.2 eq_comm
 rw[e1,e2]
theorem SZ{l m:Ln}{p:Pt}(hp:p∈mp l m):p∈mp m l:=by
 unfold mp at*
 have ec:ef m l= -ef l m:=by unfold ef;grind
 by_cases h0:ef l m=0
 ·rw[dT h0]at hp
  cases hp
 ·have h1:¬ef m l=0:=by rw[ec];grind
  rw[dF h0]at hp
  rw[dF h1]
  have:p=atP (lU l m/ef l m,lN l m/ef l m):=by simpa using hp
  rw[this]
  have dv:∀a b:Rat,b≠0→ -a/ -b=a/b:=fun a b hb=>by
   have h1: -a/ -b* -b= -a:=als (by grind)
   have h2:a/b*b=a:=als hb
   generalize-a/ -b=x at*
   generalize a/b=y at*
   have:(x-y)*b=0:=by grind
   rcases ano.1 this with h|h
   ·grind
   ·exact absurd h hb
  have ex:lU m l= -lU l m:=by unfold lU;grind
  have ey:lN m l= -lN l m:=by unfold lN;grind
  rw[ec,ex,ey,dv _ _ h0,dv _ _ h0]
  simp
theorem MP{c d:BCU}(hc:vw c)(hd:vw d){p:Pt}(hp:p∈gK (dC c) (dC d)):∃q∈gK (dC d) (dC c),pR q=pR p:=by
 obtain⟨c1,c2⟩:=l4 hc
 obtain⟨d1,d2⟩:=l4 hd
 have ec:(dC c).1=c.1:=rfl
 have ed:(dC d).1=d.1:=rfl
 unfold gK at*
 rw[ec,ed]at hp ⊢
 cases ha:c.1<;>cases hb:d.1<;>rw[ha,hb]at hp
 ·have hp:p∈mp (lnC (dC c)) (lnC (dC d)):=hp
  exact⟨p,SZ hp,rfl⟩
 ·exact⟨p,hp,rfl⟩
 ·exact⟨p,hp,rfl⟩
 ·have i1:=(c1 ha).1
  have i2:=(d1 hb).1
  have hp:p∈uO (ciC (dC c)) (ciC (dC d)):=hp
  show ∃q∈uO (ciC (dC d)) (ciC (dC c)),_
  unfold uO at*
  rw[Ig]
  cases hq:ij (ciC (dC c)) (ciC (dC d))<;>rw[hq]at hp
  ·obtain⟨o1,o2⟩:=Hu (yq hq) hp
   have o3:=Nx o1 o2
   exact aaD (yq (by rw[Ig];exact hq)) (aaH o3 o2) o3
  ·cases hp
theorem wE{c d:BCU}(hc:gdN c)(hd:gdN d){x:BP}(hx:x∈jB c d)(o1:onR (dC c) (dec x)=true)(o2:onR (dC d) (dec x)=true):∃y∈fj c d,aV (dec y) (dec x)=0:=by
 obtain⟨_,p2⟩:=HU hc.crp hc.ne (Nc hc hd)
 have r:=((vZ hc hd).2 x hx).2.1.1
 exact p2 x (an9.2 ⟨hx,HD hc hd r o1 o2⟩)
theorem OM{c d:BCU}(hc:gdN c)(hd:gdN d){a:BP}(ha:a∈fj c d):∃b∈fj d c,aV (dec a) (dec b)=0:=by
 obtain⟨hm,_,s1,s2,o1,o2⟩:=sw hc hd ha
 have ra:=s1.1
 have key:∃z∈jB d c,aV (dec z) (dec a)=0:=by
  unfold jB at hm
  unfold jB
  cases hs:cJ (dC c) (dC d)
  ·have hs':cJ (dC d) (dC c)=false:=by
    cases h:cJ (dC d) (dC c)with
    |false=>rfl
    |true=>rw[B6 h]at hs;cases hs
   rw[hs]at hm
   rw[hs']
   obtain⟨p,hp,e⟩:=amY.1 hm
   obtain⟨q,hq,e2⟩:=MP hc.1.2 hd.1.2 hp
   obtain⟨_,rq,_⟩:=supM_on hd.1.2 hc.1.2 hq
   refine⟨enc q,amY.2 ⟨q,hq,rfl⟩,?_⟩
   have:Rpd (dec (enc q):Pt):=by rw[az];exact rq
   refine cmpP_0.2 ?_
   rw[az,e2,←e,az]
  ·rw[hs]at hm
   rw[B6 hs]
   refine⟨a,?_,adZ ra⟩
   have:a=c.2.2.2.2.1∨a=c.2.2.2.2.2∨a=d.2.2.2.2.1∨a=d.2.2.2.2.2:=by simpa using hm
   rcases this with e|e|e|e<;>simp[e]
 obtain⟨z,hz,ez⟩:=key
 have rz:=((vZ hd hc).2 z hz).2.1.1
 obtain⟨y,hy,ey⟩:=wE hd hc hz (by rw[Jt hd.crp rz ra ez];exact o2) (by rw[Jt hc.crp rz ra ez];exact o1)
 have ry:=(TB hd hc hy).1.1
 exact⟨y,hy,FE (adG ey ez)⟩
theorem QH(c:Cv):cJ c c=true:=by
 unfold cJ
 rw[beq_self_eq_true,cond_true]
 cases c.1
 ·unfold oR
  rw[cond_false,dT (amq _ _),dT (amq _ _),dT (amq _ _)]
  rfl
 ·unfold rP
  rw[cond_true,dT rfl,dT rfl,dT rfl]
  rfl
theorem afb{c:BCU}{x:BP}:x∈jB c c↔x=c.2.2.2.2.1∨x=c.2.2.2.2.2:=by
 unfold jB
 rw[QH,cond_true]
 simp only[ali,ame,anu]
 constructor
 ·rintro (h|h|h|h)
  ·exact .inl h
  ·exact .inr h
  ·exact .inl h
  ·exact .inr h
 ·rintro (h|h)
  ·exact .inl h
  ·exact .inr (.inl h)
theorem HA{c d:BCU}{x:BP}:x∈jB (dX c) d↔x∈jB c d:=by
 unfold jB
 have e1:cJ (dC (dX c)) (dC d)=cJ (dC c) (dC d):=rfl
 have e2:gK (dC (dX c)) (dC d)=gK (dC c) (dC d):=rfl
 rw[e1,e2]
 cases cJ (dC c) (dC d)
 ·exact Iff.rfl
 ·show x∈[c.2.2.2.2.2,c.2.2.2.2.1,d.2.2.2.2.1,d.2.2.2.2.2]↔x∈[c.2.2.2.2.1,c.2.2.2.2.2,d.2.2.2.2.1,d.2.2.2.2.2]
  simp only[ali,ame,anu]
  constructor<;>rintro (h|h|h)
  ·exact .inr (.inl h)
  ·exact .inl h
  ·exact .inr (.inr h)
  ·exact .inr (.inl h)
  ·exact .inl h
  ·exact .inr (.inr h)
theorem acD{c d:BCU}(hc:gdN c)(hd:gdN d){a:BP}(ha:a∈fj c d):∃b∈fj (dX c) d,aV (dec b) (dec a)=0:=by
 obtain⟨hm,_,s1,_,o1,o2⟩:=sw hc hd ha
 exact wE hc.rev hd (HA.2 hm) (by rw[Hg hc s1.1];exact o1) o2
theorem aaP{c d:BCU}(hc:gdN c)(hd:gdN d){a:BP}(ha:a∈fj (dX c) d):∃b∈fj c d,aV (dec b) (dec a)=0:=by
 obtain⟨hm,_,s1,_,o1,o2⟩:=sw hc.rev hd ha
 exact wE hc hd (HA.1 hm) (by rw[←Hg hc s1.1];exact o1) o2
end
namespace RE
theorem D4{a b x:RE}:btE a b x↔btE b a x:=Or.comm
theorem Va(c:BCU):onE (dC (dX c))=onE (dC c):=by
 funext p
 obtain⟨ar,li,ci,cw,fr,to⟩:=c
 cases ar
 ·show lV (dec li) (pR (dec to)) (pR (dec fr)) p=lV (dec li) (pR (dec fr)) (pR (dec to)) p
  exact propext ⟨fun g=>⟨g.1,D4.1 g.2⟩,fun g=>⟨g.1,D4.1 g.2⟩⟩
 ·cases cw<;>rfl
theorem UB{c:BCU}(h:gdN c)(v:Rat×Rat):vR (lP (dC (dX c)) v)=vR (lP (dC c) v):=by
 have h1:=LZ (Tk h).e v
 rw[Va]at h1
 exact h1.uni (LZ h.e v)
theorem Mn.zero{S:PE→Prop}{v:PE}{m:RE}(h:Mn S v m):m=0↔S v:=by
 obtain⟨⟨p,hp,e⟩,hl⟩:=h
 constructor
 ·intro h0
  rw[h0]at e
  obtain⟨a,b⟩:=tk e
  have:p=v:=amp (gg _ _ a) (gg _ _ b)
  rw[←this];exact hp
 ·intro hv
  have h1:=hl v hv
  have h2:dsE v v=0:=by
   unfold dsE
   rw[sub_self,sub_self,mul_zero,add_zero]
  rw[h2]at h1
  refine le_antisymm h1 ?_
  rw[←e]
  exact Gj _ _ (gn _) (gn _)
theorem zD{x y:Rt}(hx:Rdd x)(hy:Rdd y)(h:vR x=vR y):(a8 x y==0)=true:=by
 rw[cmpT_re hx.nn hy.nn,h,sub_self,da]
 rfl
end RE
section
open RE
theorem ZS{c d c' d':BCU}(hc:gdN c)(hd:gdN d)(hc':gdN c')(hd':gdN d')(h:fj c d=[]↔fj c' d'=[]):(decide (((fj c d).length:Int)>0)||oh c d)=(decide (((fj c' d').length:Int)>0)||oh c' d'):=by
 by_cases e:fj c d=[]
 ·have e':=h.1 e
  rw[Ja hc hd e,Ja hc' hd' e',e,e']
 ·have l:=alF.2 e
  have l':=alF.2 fun q=>e (h.2 q)
  rw[dT (show((fj c d).length:Int)>0 by omega),dT (show((fj c' d').length:Int)>0 by omega),Bool.true_or,Bool.true_or]
theorem Gg{l:List BP}{P:Prop}(h:∀a∈l,P)(n:¬P):l=[]:=by
 cases l with
 |nil=>rfl
 |cons a r=>exact absurd (h a List.mem_cons_self) n
theorem Dg{c d:BCU}(hc:gdN c)(hd:gdN d)(e:fj c d=[]):fj d c=[]:=
 Gg (fun _ ha=>(OM hd hc ha).imp fun _ h=>h.1) fun⟨b,hb⟩=>by rw[e]at hb;cases hb
theorem abW{c d:BCU}(hc:gdN c)(hd:gdN d):fj c d=[]↔fj d c=[]:=⟨Dg hc hd,Dg hd hc⟩
theorem acC{c d:BCU}(hc:gdN c)(hd:gdN d):fj (dX c) d=[]↔fj c d=[]:=
 ⟨fun e=>Gg (fun _ ha=>(acD hc hd ha).imp fun _ h=>h.1) fun⟨b,hb⟩=>(by rw[e]at hb;cases hb),fun e=>Gg (fun _ ha=>(aaP hc hd ha).imp fun _ h=>h.1) fun⟨b,hb⟩=>by rw[e]at hb;cases hb⟩
theorem IQ(c:BCU)(v:Rat×Rat):d9 (dC (dX c)) v=d9 (dC c) v:=by
 obtain⟨ar,li,ci,cw,fr,to⟩:=c
 cases ar
 ·rfl
 ·cases cw<;>rfl
theorem Vd(c d:Cv)(r:Rat):tW d c r=tW c d r:=by unfold tW;omega
theorem T6(c d:BCU)(r:Rat):tW (dC (dX c)) (dC d) r=tW (dC c) (dC d) r:=by
 have e1:frC (dC (dX c))=toC (dC c):=rfl
 have e2:toC (dC (dX c))=frC (dC c):=rfl
 unfold tW
 rw[IF,IF,e1,e2]
 omega
theorem UK{d p q r:Rat}(hd:0≤d)(hp:0≤p)(hq:0≤q)(hr:0≤r):nh d q p r=nh d p q r:=by
 rw[wT hd hq hp hr,wT hd hp hq hr]
 exact congrArg sg (by grind)
theorem VC{x y z r:Rat}(hx:0≤x)(hy:0≤y)(hz:0≤z)(hr:0≤r):qY y x z r=qY x y z r:=by
 rw[Fh hy hx hz hr,Fh hx hy hz hr]
 exact congrArg sg (by grind)
theorem Sw{c d:Cv}(hp:0≤(ciC c).2.2)(hq:0≤(ciC d).2.2){r:Rat}(hr:0≤r):xY d c r=xY c d r:=by
 have w:wyv d c=bkV (wyv c d):=amp (by unfold wyv bkV cS;grind) (by unfold wyv bkV cS;grind)
 have b:bkV (bkV (wyv c d))=wyv c d:=amp (anP _) (anP _)
 have n:nD d c=nD c d:=by
  unfold nD
  rw[w]
  unfold bI bkV
  grind
 have n0:0≤nD c d:=lX _
 unfold xY nT fT
 rw[n,w,b,UK n0 hp hq hr,VC hp hq n0 hr,Bool.and_comm (d9 d (bkV (wyv c d))) (d9 c (wyv c d)),Bool.and_comm (d9 d (bkV (wyv c d))) (d9 c (bkV (wyv c d))),Bool.and_comm (d9 d (wyv c d)) (d9 c (wyv c d))]
 cases decide (nD c d=0)
 ·simp only[cond_false]
  omega
 ·rfl
theorem gdN.cn{c:BCU}(h:gdN c)(e:c.1=true):0≤(ciC (dC c)).2.2:=by
 have:=h.crp.q e
 grind
theorem Um{c d:BCU}(hc:gdN c)(hd:gdN d){r:Rat}(hr:0≤r):l7 (dC d) (dC c) r=l7 (dC c) (dC d) r:=by
 unfold l7
 have e1:(dC c).1=c.1:=rfl
 have e2:(dC d).1=d.1:=rfl
 rw[e1,e2,Vd]
 cases hx:c.1<;>cases hy:d.1
 ·rfl
 ·rfl
 ·rfl
 ·show min _ (xY (dC d) (dC c) r)=min _ (xY (dC c) (dC d) r)
  rw[Sw (hc.cn hx) (hd.cn hy) hr]
theorem Vt{c:BCU}(h:gdN c){v:Rat×Rat}(hv:Bd v 200){r:Rat}(hr:0≤r):rI (dC (dX c)) v r=rI (dC c) v r:=by rw[Cg h.rev hv hr,Cg h hv hr,UB h]
theorem T1{c d:BCU}(hc:gdN c)(hd:gdN d){r:Rat}(hr:0≤r):l7 (dC (dX c)) (dC d) r=l7 (dC c) (dC d) r:=by
 unfold l7
 have e1:(dC c).1=c.1:=rfl
 have e2:(dC d).1=d.1:=rfl
 have e3:(dC (dX c)).1=c.1:=rfl
 rw[e1,e2,e3,T6]
 cases hx:c.1<;>cases hy:d.1<;>simp only[cond_true,cond_false]
 ·unfold Cp
  have e4:ftv (dC (dX c)) (dC d)=ftv (dC c) (dC d):=rfl
  rw[e4,PA hc.crp.f.1 hc.crp.t.1 (inferInstance:Rpd (atP (ftv (dC c) (dC d))))]
 ·unfold Cp
  have e4:ftv (dC d) (dC (dX c))=ftv (dC d) (dC c):=rfl
  rw[e4,Vt hc (BE hd.1.2 hc.1.2 hy hx) hr]
 ·have e4:wyv (dC (dX c)) (dC d)=wyv (dC c) (dC d):=rfl
  have e5:ciC (dC (dX c))=ciC (dC c):=rfl
  unfold xY nT fT nD
  rw[e4,e5,IQ,IQ]
theorem Qy{c d c' d':BCU}(hc:gdN c)(hd:gdN d)(hc':gdN c')(hd':gdN d')(h:fj c d=[]↔fj c' d'=[])(r:Rat)(ho:0≤r→l7 (dC c) (dC d) r=l7 (dC c') (dC d') r):fd c d r=fd c' d' r:=by
 unfold fd Kp
 rw[ZS hc hd hc' hd' h]
 by_cases hr:r<0
 ·rw[dT hr];rfl
 ·rw[dF hr,ho (by grind)]
theorem Ae{c d:BCU}(hc:gdN c)(hd:gdN d)(r:Rat):fd d c r=fd c d r:=Qy hd hc hc hd (abW hd hc) r (Um hc hd)
theorem Jj{c d:BCU}(hc:gdN c)(hd:gdN d)(r:Rat):fd (dX c) d r=fd c d r:=Qy hc.rev hd hc hd (acC hc hd) r (T1 hc hd)
theorem Vg{c d:BCU}(hc:gdN c)(hd:gdN d)(r:Rat):fd c (dX d) r=fd c d r:=by rw[←Ae hc hd.rev,Jj hd hc,Ae hc hd]
def IsX(f:Rat→Int)(x:RE):Prop:=∀r:Rat,0≤r→f r=sg (x-of (r*r))
theorem IsX.mn{f g:Rat→Int}{x y:RE}(h:IsX f x)(k:IsX g y):IsX (fun r=>min (f r) (g r)) (mnE x y):=fun r hr=>by
 show min (f r) (g r)=_
 rw[h r hr,k r hr,Nz]
theorem IsX.bi{f g:Rat→Int}{x y:RE}(b:Bool)(h:IsX f x)(k:IsX g y):∃z,IsX (fun r=>min (f r) (FX b (g r))) z:=by
 cases b
 ·exact⟨x,fun r hr=>(Int.min_eq_left (by rw[h r hr];exact E2 _)).trans (h r hr)⟩
 ·exact⟨_,h.mn k⟩
theorem aid{c d:BCU}(hc:gdN c)(hd:gdN d):∃x,IsX (l7 (dC c) (dC d)) x:=by
 obtain⟨m1,_,f1⟩:=Bp hd.e (pR (frC (dC c)))
 obtain⟨m2,_,f2⟩:=Bp hd.e (pR (toC (dC c)))
 obtain⟨m3,_,f3⟩:=Bp hc.e (pR (frC (dC d)))
 obtain⟨m4,_,f4⟩:=Bp hc.e (pR (toC (dC d)))
 have E:IsX (tW (dC c) (dC d)) _:=((IsX.mn f1 f2).mn f3).mn f4
 have e1:(dC c).1=c.1:=rfl
 have e2:(dC d).1=d.1:=rfl
 unfold l7
 rw[e1,e2]
 cases hx:c.1<;>cases hy:d.1
 ·exact⟨_,E⟩
 ·exact E.bi _ fun r hr=>Cg hd (BE hc.1.2 hd.1.2 hx hy) hr
 ·exact E.bi _ fun r hr=>Cg hc (BE hd.1.2 hc.1.2 hy hx) hr
 ·have hp:=hc.cn hx
  have hq:=hd.cn hy
  have n0:0≤nD (dC c) (dC d):=lX _
  have ap:∀{a b z:Rat},0≤a→0≤b→0≤z→IsX (TG a b z) ((rq a+rq b-rq z)*(rq a+rq b-rq z)):=fun ha hb hz r hr=>by rw[MT ha hb hz hr,aH]
  unfold xY
  cases decide (nD (dC c) (dC d)=0)
  ·obtain⟨x,X⟩:=E.bi (nT (dC c) (dC d)&&d9 (dC d) (bkV (wyv (dC c) (dC d)))) (ap hp hq n0)
   obtain⟨y,Y⟩:=X.bi (nT (dC c) (dC d)&&d9 (dC d) (wyv (dC c) (dC d))) (ap n0 hq hp)
   obtain⟨z,Z⟩:=Y.bi (fT (dC c) (dC d)&&d9 (dC d) (bkV (wyv (dC c) (dC d)))) (ap n0 hp hq)
   refine⟨z,fun r hr=>?_⟩
   rw[←Z r hr]
   simp only[cond_true,cond_false]
   rw[EI hp hq n0 hr,Int.max_comm (qY _ _ _ _),Int.max_comm (qY _ _ _ _),EI n0 hq hp hr,EI n0 hp hq hr]
   omega
  ·exact⟨_,fun r hr=>(Int.min_eq_left (by rw[E r hr];exact E2 _)).trans (E r hr)⟩
theorem ain{c d:BCU}(hc:gdN c)(hd:gdN d):∃x,IsX (fd c d) x:=by
 obtain⟨x,X⟩:=aid hc hd
 unfold fd Kp
 cases decide (((fj c d).length:Int)>0)||oh c d
 ·exact⟨x,fun r hr=>by dsimp only;rw[dF (show ¬r<0 by grind),←X r hr];rfl⟩
 ·refine⟨of 0,fun r hr=>?_⟩
  dsimp only
  rw[dF (show ¬r<0 by grind),←of_sub,sg_of]
  show-aC r 0=_
  by_cases h:r=0
  ·subst h
   decide+kernel
  ·have p:0<r:=by grind
   have:=alv p p
   unfold aC
   rw[dF (show ¬r<0 by grind),dT p,dT (show 0-r*r<0 by grind)]
   rfl
theorem IV{c d:BCU}{r:Rat}(hr:r<0):fd c d r=1:=by
 unfold fd Kp
 rw[dT hr]
 rfl
theorem Nu{c d:BCU}(hc:gdN c)(hd:gdN d){r s:Rat}(h:r≤s):fd c d s≤fd c d r∧(r<s→fd c d r=0→fd c d s<0):=by
 obtain⟨x,X⟩:=ain hc hd
 by_cases hr:r<0
 ·rw[IV hr]
  refine⟨?_,fun _ e=>by cases e⟩
  by_cases hs:s<0
  ·rw[IV hs];decide
  ·rw[X s (by grind)]
   exact E2 _
 ·have r0:0≤r:=by grind
  have s0:0≤s:=by grind
  rw[X r r0,X s s0]
  have m:r*r≤s*s:=Rat.le_trans (Rat.mul_le_mul_of_nonneg_left h r0) (Rat.mul_le_mul_of_nonneg_right h s0)
  refine⟨tZ (by have:=gi.2 m;grind),fun l e=>?_⟩
  have e:=nL.1 e
  have q:r*r<s*s:=by
   have:0<(s-r)*(s+r):=alv (by grind) (by grind)
   grind
  have:=hZ q
  rw[gh (by grind)]
  decide
end
section
instance akL {a b c d e f:Rat} {i1 i2 i3 i4 i5 i6:Nat} [h1:Bd a i1] [h2:Bd b i2] [h3:Bd c i3] [h4:Bd d i4] [h5:Bd e i5] [h6:Bd f i6]:Bd ((a,b,c,d,e,f):Qd) (mx i1 (mx i2 (mx i3 (mx i4 (mx i5 i6))))):=inferInstance
instance akk {p:Pt} {v:Rat×Rat} {j k:Nat} [h:Bd p j] [h':Bd v k]:Bd (rcX p v) (j+k+1):=by
 have a:Bd (p.1-v.1) _:=inferInstance
 have b:Bd p.2.1 j:=inferInstance
 have i:Bd ((p.1-v.1,p.2.1):Rat×Rat) _:=inferInstance
 exact i.mono (fq (by omega) (by omega))
instance ajA {p:Pt} {v:Rat×Rat} {j k:Nat} [h:Bd p j] [h':Bd v k]:Bd (rcY p v) (j+k+1):=by
 have a:Bd (p.2.2.1-v.2) _:=inferInstance
 have b:Bd p.2.2.2.1 j:=inferInstance
 have i:Bd ((p.2.2.1-v.2,p.2.2.2.1):Rat×Rat) _:=inferInstance
 exact i.mono (fq (by omega) (by omega))
instance akw {p q:Pt} {j k:Nat} [h:Bd p j] [h':Bd q k]:Bd (noQ p q) (j+k):=by
 have hj:1≤j:=nK (show bdR j p.1 from(inferInstance:Bd p.1 j).le)
 have z:Bd (0:Rat) (j+k):=⟨bJ ls.le (by omega)⟩
 have a:Bd p.2.2.2.2 (j+k):=(inferInstance:Bd p.2.2.2.2 j).mono (by omega)
 have b:Bd q.2.2.2.2 (j+k):=(inferInstance:Bd q.2.2.2.2 k).mono (by omega)
 have i:Bd ((0,0,0,0,p.2.2.2.2,q.2.2.2.2):Qd) _:=inferInstance
 have e:∀n,mx n n=n:=fun n=>by unfold mx;rw[ak3 (ak9 n)];rfl
 simp only[e]at i
 exact i
instance ajm {q:Qd} {x y:Rat×Rat} {s:Rat} {i j k l:Nat} [h:Bd q i] [h1:Bd x j] [h2:Bd y k] [h3:Bd s l]:Bd (prQ q x y s) (i+l+j+k+1):=by
 have a1:Bd (q.1+s*(x.1*y.1)) (i+(l+(j+k))+1):=inferInstance
 have a2:Bd (q.2.1+s*(x.2*y.1)) (i+(l+(j+k))+1):=inferInstance
 have a3:Bd (q.2.2.1+s*(x.1*y.2)) (i+(l+(j+k))+1):=inferInstance
 have a4:Bd (q.2.2.2.1+s*(x.2*y.2)) (i+(l+(j+k))+1):=inferInstance
 have a5:Bd q.2.2.2.2.1 (i+(l+(j+k))+1):=(inferInstance:Bd q.2.2.2.2.1 i).mono (by omega)
 have a6:Bd q.2.2.2.2.2 (i+(l+(j+k))+1):=(inferInstance:Bd q.2.2.2.2.2 i).mono (by omega)
 have i6:Bd ((q.1+s*(x.1*y.1),q.2.1+s*(x.2*y.1),q.2.2.1+s*(x.1*y.2),q.2.2.2.1+s*(x.2*y.2),q.2.2.2.2.1,q.2.2.2.2.2):Qd) _:=inferInstance
 have e:∀n,mx n n=n:=fun n=>by unfold mx;rw[ak3 (ak9 n)];rfl
 simp only[e]at i6
 exact i6.mono (by omega)
theorem acB{q:Qd}{k:Nat}[h:Bd q k](hk:k≤6000)(h5:0≤q.2.2.2.2.1)(h6:0≤q.2.2.2.2.2):decide (okQ (enc q))=true:=by
 have n5:Nn q.2.2.2.2.1:=⟨h5⟩
 have n6:Nn q.2.2.2.2.2:=⟨h6⟩
 show decide (okQ (enc ((q.1,q.2.1,q.2.2.1,q.2.2.2.1,q.2.2.2.2.1,q.2.2.2.2.2):Qd)))=true
 exact zg (a:=k) (b:=k) (c:=k) (d:=k) (m:=k) (n:=k) (by omega) (by omega) (by omega) (by omega) (by omega) (by omega)
instance akT:Bd z2 1:=(inferInstance:Bd ((0,0):Rat×Rat) _)
theorem ai3(p:Pt)(v:Rat×Rat):(sqP p v).1=sqA p v:=by
 show(coR (sqA p v) (sqB p v) p.2.2.2.2).1=_
 unfold coR
 cases decide (sqB p v=0)<;>rfl
theorem acJ(p:Pt)(v:Rat×Rat):(sqP p v).2.1=sqB p v:=by
 show(coR (sqA p v) (sqB p v) p.2.2.2.2).2.1=_
 unfold coR
 by_cases e:sqB p v=0
 ·rw[ak3 e,e];rfl
 ·rw[ak5 e];rfl
theorem Yo(p:Pt)(v:Rat×Rat):(sqP p v).2.1=0∨(sqP p v).2.2=p.2.2.2.2:=by
 show(coR (sqA p v) (sqB p v) p.2.2.2.2).2.1=0∨(coR (sqA p v) (sqB p v) p.2.2.2.2).2.2=_
 unfold coR
 cases decide (sqB p v=0)
 ·exact .inr rfl
 ·exact .inl rfl
theorem aaq{p q:Pt}{r:Rat}[bp:Bd p 580][bq:Bd q 580][br:Bd r 1000](hp:0≤p.2.2.2.2)(hq:0≤q.2.2.2.2):decide (okQ (enc (apQ p q r)))=true:=by
 have n1:Nn p.2.2.2.2:=⟨hp⟩
 have n2:Nn q.2.2.2.2:=⟨hq⟩
 have b2:Bd (-2:Rat) 3:=cZ (n:= -2) (by decide)
 have bD:Bd (doQ z2 p q) 3496:=(inferInstance:Bd (prQ (prQ (noQ p q) (rcX p z2) (rcX q z2) (-2)) (rcY p z2) (rcY q z2) (-2)) _).mono (by decide)
 have bA:Bd ((doQ z2 p q).1+(sqA p z2+sqA q z2)-r*r) _:=inferInstance
 have bB:Bd ((doQ z2 p q).2.1+sqB p z2) _:=inferInstance
 have bC:Bd ((doQ z2 p q).2.2.1+sqB q z2) _:=inferInstance
 have bE:Bd (doQ z2 p q).2.2.2.1 3496:=inferInstance
 exact zg (h1:=bA) (h2:=bB) (h3:=bC) (h4:=bE) (by decide) (by decide) (by decide) (by decide) (by decide) (by decide)
namespace RE
theorem aeA(a b c d:RE):a*d-b*c= -(c*b-d*a):=by grind
theorem O8(u w:PE):crs u w= -crs w u:=aeA _ _ _ _
theorem turS_anti(v:Rat×Rat)(p q:PE):turS v p q= -turS v q p:=by
 unfold turS
 rw[O8,qU]
theorem wit_eq(c:Cv)(p:PE):witE c p=GK (turS (ctr (ciC c)) (pR (ccF c)) (pR (ccT c))) (turS (ctr (ciC c)) (pR (ccF c)) p) (turS (ctr (ciC c)) p (pR (ccT c))):=rfl
theorem wit_go(a b c:Int):(match decide (a≥0)with|true=>(match decide (b≥0)with|true=>some [RV.d .bool (decide (c≥0))]|false=>some [RV.d .bool false])|false=>(match decide (-c≤0)with|true=>some [RV.d .bool true]|false=>some [RV.d .bool (decide (-b≤0))]))=some [RV.d .bool (GK a b c)]:=by
 have h1:decide (-c≤0)=decide (0≤c):=al6.2 (by omega)
 have h2:decide (-b≤0)=decide (0≤b):=al6.2 (by omega)
 have h3:decide (c<0)=!decide (0≤c):=by rw[←decide_not];exact al6.2 (by omega)
 have h4:decide (b<0)=!decide (0≤b):=by rw[←decide_not];exact al6.2 (by omega)
 unfold GK
 simp only[h1,h2,h3,h4,ge_iff_le]
 cases decide (0≤a)<;>cases decide (0≤b)<;>cases decide (0≤c)<;>rfl
open Classical in
theorem bes_E{c:Cv}[hf:Rpd (frC c)][ht:Rpd (toC c)]{p:Pt}[hp:Rpd p]:besE c (pR p)=rT c p:=by
 unfold besE
 rw[am7,amb]
 exact xO.symm
theorem min_if(a b:Int):(if b<a then b else a)=min a b:=by
 split<;>omega
theorem wr_sg(x:RE):i64.wrap (0-sg x)= -sg x:=by
 rcases bg x with⟨_,e⟩|⟨_,e⟩|⟨_,e⟩<;>rw[e]<;>rfl
theorem abk(a b m t:RE):a*a+m*(b*b)+2*(a*b)*t=(a+b*t)*(a+b*t)+(m-t*t)*(b*b):=by grind
theorem aaE(A B C x y z w t:RE):A*x+B*y-C+(A*z+B*w)*t=A*(x+z*t)+B*(y+w*t)-C:=by grind
theorem vR_lin(l:Ln){p:Pt}[hp:Rpd p]:vR (mkR (qy l p*qy l p+p.2.2.2.2*(qz l p*qz l p)) (2*(qy l p*qz l p)) p.2.2.2.2)=exE l (pR p)*exE l (pR p):=by
 have e:exE l (pR p)=of (qy l p)+of (qz l p)*rq p.2.2.2.2:=by
  unfold exE pR pX pY v2 qy qz
  dsimp only
  rw[of_sub,of_add,of_add,aH,aH,aH,aH,aaE]
 have two:of 2=2:=rfl
 rw[vR_mk,e]
 unfold v2
 rw[of_add,aH,aH,aH,aH,aH,two,abk,dw hp.nn,sub_self,zero_mul,add_zero]
theorem sq_zr{p:Pt}[hp:Rpd p]{v:Rat×Rat}:(sgR (sqP p v)==0)=true↔pR p=vE v:=by
 have hr:Rdd (sqP p v):=inferInstance
 rw[E3 hr.nn,ama,nL,vR_sq]
 constructor
 ·intro e
  obtain⟨a,b⟩:=tk e
  exact amp (gg _ _ a) (gg _ _ b)
 ·intro e
  rw[e]
  unfold dsE
  rw[sub_self,sub_self,mul_zero,add_zero]
end RE
def aaf:List En:=[⟨41,fX,dU⟩,enL afs]
def Wg(r:BO3)(_k:KT):Option (List RV):=match decide (okR r.1)with|true=>(match decide (okR r.2.1)with|true=>(match(aC (ah r.2.1) 0)==0 with|true=>some [RV.d aon (aC (ah r.1) 0)]|false=>(match(aC (ah r.1) 0)==(aC (ah r.2.1) 0)with|true=>some [RV.d aon (aC (ah r.1) 0)]|false=>(match(aC (ah r.1) 0)==0 with|true=>some [RV.d aon (aC (ah r.2.1) 0)]|false=>(match decide (ok Rt 15000 r)with|true=>(match decide (okR (hid (am (noR (dec r)))))with|true=>some [RV.d aon (i64.wrap ((aC (ah r.1) 0)*(aC (ah (hid (am (noR (dec r))))) 0)))]|false=>none)|false=>none))))|false=>none)|false=>none
def aet:Cn 103 [tO]:=cn fun(r:BO3)=>lf (okT 15000 r) [.d aon (sgR (dec r))] fun h=>by
 refine aA aaf (Wg r) ⟨0,?_⟩
 have hr:=h
 obtain⟨r,rfl,br,rr⟩:=gk hr
 unfold Wg
 simp only[bL,az,rW,Bi,eT,cB,okd,ID,Nat.reduceAdd,Nat.reduceMul,Nat.reduceLeDiff,AI (jW _ _) (jW _ _)]
 rw[YX rr]
 cases aC r.2.1 0==0
 ·cases aC r.1 0==aC r.2.1 0
  ·cases aC r.1 0==0<;>rfl
  ·rfl
 ·rfl
def As:List En:=[⟨41,fX,dU⟩,⟨109,kO,gH⟩,⟨99,iq,fe⟩,⟨108,gU,eP⟩,⟨73,lQ,ip⟩,⟨107,iW,fy⟩,⟨106,ir,fh⟩,enL YK,enL Rp,enL zX,enL ZG,enT Dy,enT Np,enL N6,enL Ip,enL Rh,enL Yr,enL Yt,enT W2,enT Mk,enT aet]
def V0(p:BP)(v:BV)(_k:KT):Option (List RV):=ct (og (o2 p.1 v.1) (ct (og (o2 p.2.2.1 v.2) (dup (.b .l .l) (some [RV.d tV (hSu p.1 v.1,p.2.1),RV.d tV (hSu p.2.2.1 v.2,p.2.2.2.1)]))) (og (o2 p.2.2.1 v.2) (some [RV.d tV (hSu p.1 v.1,p.2.1),RV.d tV (hSu p.2.2.1 v.2,p.2.2.2.1)])))) (og (o2 p.1 v.1) (og (o2 p.2.2.1 v.2) (some [RV.d tV (hSu p.1 v.1,p.2.1),RV.d tV (hSu p.2.2.1 v.2,p.2.2.2.1)])))
def ae4:Cn 200 [tP,tV]:=cn fun(p:BP) (v:BV)=>lf (okP 580 p∧ok (Rat×Rat) 400 v) [.d tV (enc (rcX (dec p) (dec v))),.d tV (enc (rcY (dec p) (dec v)))] fun h=>by
 refine aA As (V0 p v) ⟨0,?_⟩
 obtain⟨hp,hv⟩:=h
 obtain⟨p,rfl,bp,rp⟩:=bS hp
 obtain⟨v,rfl,bv⟩:=aF hv
 unfold V0
 simp only[aU,Nat.reduceLeDiff]
 try rfl
def V2(q:BQ)(x y:BV)(s:Int)(_k:KT):Option (List RV):=og (decide (aG s)) (og (o2 x.1 y.1) (og (o2 (hid (am (s:Rat))) (hMu x.1 y.1)) (og (o2 q.1 (hMu (hid (am (s:Rat))) (hMu x.1 y.1))) (og (o2 x.2 y.1) (og (o2 (hid (am (s:Rat))) (hMu x.2 y.1)) (og (o2 q.2.1 (hMu (hid (am (s:Rat))) (hMu x.2 y.1))) (og (o2 x.1 y.2) (og (o2 (hid (am (s:Rat))) (hMu x.1 y.2)) (og (o2 q.2.2.1 (hMu (hid (am (s:Rat))) (hMu x.1 y.2))) (og (o2 x.2 y.2) (og (o2 (hid (am (s:Rat))) (hMu x.2 y.2)) (og (o2 q.2.2.2.1 (hMu (hid (am (s:Rat))) (hMu x.2 y.2))) (some [RV.d tQ (hAd q.1 (hMu (hid (am (s:Rat))) (hMu x.1 y.1)),(hAd q.2.1 (hMu (hid (am (s:Rat))) (hMu x.2 y.1)),(hAd q.2.2.1 (hMu (hid (am (s:Rat))) (hMu x.1 y.2)),(hAd q.2.2.2.1 (hMu (hid (am (s:Rat))) (hMu x.2 y.2)),q.2.2.2.2))))])))))))))))))
def ahn:Cn 201 [tQ,tV,tV,aon]:=cn fun(q:BQ) (x y:BV) (s:Int)=>lf (ok Qd 12000 q∧ok (Rat×Rat) 2500 x∧ok (Rat×Rat) 2500 y∧aG s) [.d tQ (enc (prQ (dec q) (dec x) (dec y) (s:Rat)))] fun h=>by
 refine aA As (V2 q x y s) ⟨0,?_⟩
 obtain⟨hq,hx,hy,hs⟩:=h
 obtain⟨q,rfl,bq⟩:=aF hq
 obtain⟨x,rfl,bx⟩:=aF hx
 obtain⟨y,rfl,b_y⟩:=aF hy
 have bs:=cZ hs
 unfold V2
 simp only[aU,Nat.reduceAdd,Nat.reduceLeDiff,dT hs]
 try rfl
def WW(p q:BP)(_k:KT):Option (List RV):=og (decide (aG (0:Int))) (some [RV.d tQ (hid (am ((0:Int):Rat)),(hid (am ((0:Int):Rat)),(hid (am ((0:Int):Rat)),(hid (am ((0:Int):Rat)),(p.2.2.2.2,q.2.2.2.2)))))])
def af9:Cn 202 [tP,tP]:=cn fun(p q:BP)=>lf (okP 580 p∧okP 580 q) [.d tQ (enc (noQ (dec p) (dec q)))] fun h=>by
 refine aA As (WW p q) ⟨0,?_⟩
 obtain⟨hp,hq⟩:=h
 obtain⟨p,rfl,bp,rp⟩:=bS hp
 obtain⟨q,rfl,bq,rq⟩:=bS hq
 unfold WW
 simp only[aU,dT (show aG 0 by decide)]
 try rfl
def An:List En:=enL ae4::enL ahn::enL af9::As
def VX(v:BV)(p q:BP)(_k:KT):Option (List RV):=og (decide (okP 580 p∧ok (Rat×Rat) 400 v)) (og (decide (okP 580 q∧ok (Rat×Rat) 400 v)) (og (decide (okP 580 p∧okP 580 q)) (og (decide (ok Qd 12000 (hid (enc (noQ (dec p) (dec q))))∧ok (Rat×Rat) 2500 (hid (enc (rcX (dec p) (dec v))))∧ok (Rat×Rat) 2500 (hid (enc (rcY (dec q) (dec v))))∧aG (1:Int))) (og (decide (ok Qd 12000 (hid (enc (prQ (dec (hid (enc (noQ (dec p) (dec q))))) (dec (hid (enc (rcX (dec p) (dec v))))) (dec (hid (enc (rcY (dec q) (dec v))))) ((1:Int):Rat))))∧ok (Rat×Rat) 2500 (hid (enc (rcY (dec p) (dec v))))∧ok (Rat×Rat) 2500 (hid (enc (rcX (dec q) (dec v))))∧aG ((-1):Int))) (og (decide (okQ (hid (enc (prQ (dec (hid (enc (prQ (dec (hid (enc (noQ (dec p) (dec q))))) (dec (hid (enc (rcX (dec p) (dec v))))) (dec (hid (enc (rcY (dec q) (dec v))))) ((1:Int):Rat))))) (dec (hid (enc (rcY (dec p) (dec v))))) (dec (hid (enc (rcX (dec q) (dec v))))) (((-1):Int):Rat)))))) (some [RV.d aon (sgQ (dec (hid (enc (prQ (dec (hid (enc (prQ (dec (hid (enc (noQ (dec p) (dec q))))) (dec (hid (enc (rcX (dec p) (dec v))))) (dec (hid (enc (rcY (dec q) (dec v))))) ((1:Int):Rat))))) (dec (hid (enc (rcY (dec p) (dec v))))) (dec (hid (enc (rcX (dec q) (dec v))))) (((-1):Int):Rat))))))]))))))
def agD:Cn 213 [tV,tP,tP]:=cn fun(v:BV) (p q:BP)=>lf (ok (Rat×Rat) 400 v∧okP 580 p∧okP 580 q) [.d aon (RE.turS (dec v) (RE.pR (dec p)) (RE.pR (dec q)))] fun h=>by
 refine aA An (VX v p q) ⟨0,?_⟩
 obtain⟨hv,hp,hq⟩:=h
 obtain⟨v,rfl,bv⟩:=aF hv
 obtain⟨p,rfl,bp,rp⟩:=bS hp
 obtain⟨q,rfl,bq,rq⟩:=bS hq
 have h1:decide (aG 1)=true:=by decide
 have h2:decide (aG (-1))=true:=by decide
 have c1:((1:Int):Rat)=1:=rfl
 have c2:((-1:Int):Rat)= -1:=rfl
 have b1:Bd (1:Rat) 3:=cZ (n:=1) (by decide)
 have b2:Bd (-1:Rat) 3:=cZ (n:= -1) (by decide)
 have n1:Bd (prQ (prQ (noQ p q) (rcX p v) (rcY q v) 1) (rcY p v) (rcX q v) (-1)) _:=inferInstance
 have o1:decide (okQ (enc (prQ (prQ (noQ p q) (rcX p v) (rcY q v) 1) (rcY p v) (rcX q v) (-1))))=true:=acB (k:=6000) (h:=n1.mono (by decide)) (by decide) rp.nn rq.nn
 unfold VX
 simp only[aU,Nat.reduceAdd,Nat.reduceLeDiff,aN,h1,h2,c1,c2,o1]
 rw[←RE.crQ_re]
 rfl
def Zq(a:BO3)(c:BR)(_k:KT):Option (List RV):=og (o1 a.2.1) (match(aC (ah a.2.1) 0)==0 with|true=>some [RV.d tR a.2.1]|false=>(og (o2 a.2.2 c) (match(aC (ah a.2.2) (ah c))==0 with|true=>some [RV.d tR a.2.1]|false=>(og (decide (iv a.2.2 c)) (og (o1 (hDi a.2.2 c)) (match !(fN (ah (hDi a.2.2 c)))with|true=>some [RV.d tR a.2.1]|false=>(og (o2 a.2.1 (hid (rtB (ah (hDi a.2.2 c))))) (some [RV.d tR (hMu a.2.1 (hid (rtB (ah (hDi a.2.2 c)))))]))))))))
def af4:Cn 203 [tO,tR]:=cn fun(a:BO3) (c:BR)=>lf (okT 15000 a∧ok Rat 15000 c∧((dec a:Rt).2.1=0∨(dec a:Rt).2.2=ah c)) [.d tR (am (dec a:Rt).2.1)] fun h=>by
 refine aA An (Zq a c) ⟨0,?_⟩
 obtain⟨ha,hc,h⟩:=h
 obtain⟨a,rfl,ba,ra⟩:=gk ha
 obtain⟨c,rfl,bc⟩:=aF hc
 rw[az,eT,cB]at h
 unfold Zq
 simp only[aU,Nat.reduceAdd,Nat.reduceLeDiff,aq]
 by_cases e:a.2.1=0
 ·rw[dT e]
 ·rw[dF e,dT (h.resolve_left e)]
def Yc(d:BO3)(q r:BR)(_k:KT):Option (List RV):=og (o2 r r) (og (o2 q (hMu r r)) (og (o2 r r) (og (decide (ok Rat 100000 (hAd q (hMu r r))∧ok Rat 100000 (hAd r r)∧ok Rat 100000 q∧0≤ah q)) (og (decide (okT 15000 d∧okT 15000 (hid (enc (mkR (ah (hAd q (hMu r r))) (ah (hAd r r)) (ah q)))))) (match decide ((a8 (dec d) (dec (hid (enc (mkR (ah (hAd q (hMu r r))) (ah (hAd r r)) (ah q))))))≥0)with|true=>some [RV.d aon (a8 (dec d) (dec (hid (enc (mkR (ah (hAd q (hMu r r))) (ah (hAd r r)) (ah q))))))]|false=>(og (o2 r r) (og (o2 q (hMu r r)) (match decide ((aC (ah q) (ah (hMu r r)))≤0)with|true=>some [RV.d aon (-1)]|false=>(og (o1 (hAd r r)) (og (decide (ok Rat 100000 (hAd q (hMu r r))∧ok Rat 100000 (hNe (hAd r r))∧ok Rat 100000 q∧0≤ah q)) (og (decide (okT 15000 d∧okT 15000 (hid (enc (mkR (ah (hAd q (hMu r r))) (ah (hNe (hAd r r))) (ah q)))))) (some [RV.d aon (i64.wrap (0-(a8 (dec d) (dec (hid (enc (mkR (ah (hAd q (hMu r r))) (ah (hNe (hAd r r))) (ah q))))))))]))))))))))))
def adS:Cn 105 [tO,tR,tR]:=cn fun(d:BO3) (q r:BR)=>lf (okT 15000 d∧ok Rat 1000 q∧ok Rat 1000 r∧0≤ah q) [.d aon (RE.rngS (RE.vR (dec d)) (ah q) (ah r))] fun h=>by
 refine aA An (Yc d q r) ⟨0,?_⟩
 obtain⟨hd,hq,hr,hn⟩:=h
 obtain⟨d,rfl,bd,rd⟩:=gk hd
 obtain⟨q,rfl,bq⟩:=aF hq
 obtain⟨r,rfl,br⟩:=aF hr
 rw[eT,cB]at hn
 have nq:Nn q:=⟨hn⟩
 have m:∀a b,a8 d (mkR a b q)=RE.sg (RE.vR d-RE.v2 a b q):=fun a b=>by
  rw[RE.cmpT_re rd.nn (sO (a:=a) (b:=b) (c:=q)).nn,RE.vR_mk]
 unfold Yc RE.rngS
 simp only[aU,Nat.reduceAdd,Nat.reduceLeDiff,aM,dT hn,m,ge_iff_le,RE.wr_sg]
 cases decide (0≤RE.sg (RE.vR d-RE.v2 (q+r*r) (r+r) q))
 ·cases decide (aC q (r*r)≤0)<;>rfl
 ·rfl
def EH:List En:=enT agD::enL af4::enT adS::An
def XP(p q:BP)(r:BR)(_k:KT):Option (List RV):=let y1:=am ((0:Int):Rat);let y2:=hid (enc (noQ (dec p) (dec q)));let y3:=dec (hid y1,hid y1);let y4:=hid (enc (rcX (dec p) y3));let y5:=hid (enc (rcX (dec q) y3));let y6:=hid (enc (prQ (dec y2) (dec y4) (dec y5) (((-2):Int):Rat)));let y7:=hid (enc (rcY (dec p) y3));let y8:=hid (enc (rcY (dec q) y3));let y9:=hid (enc (sqP (dec p) y3));let y10:=hid (enc (sqP (dec q) y3));let y11:=hid (enc (prQ (dec y6) (dec y7) (dec y8) (((-2):Int):Rat)));let y12:=hAd (y9.1) (y10.1);let y13:=hid (am (dec y9:Rt).2.1);let y14:=hid (am (dec y10:Rt).2.1);og (decide (aG (0:Int))) (og (decide (aG (0:Int))) (og (decide (okP 580 p∧ok (Rat×Rat) 400 (hid y1,hid y1))) (og (decide (okP 580 q∧ok (Rat×Rat) 400 (hid y1,hid y1))) (og (decide (okP 580 p∧okP 580 q)) (og (decide (ok Qd 12000 y2∧ok (Rat×Rat) 2500 y4∧ok (Rat×Rat) 2500 y5∧aG ((-2):Int))) (og (decide (ok Qd 12000 y6∧ok (Rat×Rat) 2500 y7∧ok (Rat×Rat) 2500 y8∧aG ((-2):Int))) (og (decide (okP 3500 p∧ok (Rat×Rat) 300 (hid y1,hid y1))) (og (decide (okP 3500 q∧ok (Rat×Rat) 300 (hid y1,hid y1))) (og (o2 (y9.1) (y10.1)) (og (o2 (y11.1) y12) (og (o2 r r) (og (o2 (hAd (y11.1) y12) (hMu r r)) (og (decide (okT 15000 y9∧ok Rat 15000 p.2.2.2.2∧((dec y9:Rt).2.1=0∨(dec y9:Rt).2.2=ah p.2.2.2.2))) (og (o2 ((y11.2).1) y13) (og (decide (okT 15000 y10∧ok Rat 15000 q.2.2.2.2∧((dec y10:Rt).2.1=0∨(dec y10:Rt).2.2=ah q.2.2.2.2))) (og (o2 (((y11.2).2).1) y14) (og (decide (okQ (hSu (hAd (y11.1) y12) (hMu r r),(hAd ((y11.2).1) y13,(hAd (((y11.2).2).1) y14,((y11.2).2).2))))) (some [RV.d aon (sgQ (dec (hSu (hAd (y11.1) y12) (hMu r r),(hAd ((y11.2).1) y13,(hAd (((y11.2).2).1) y14,((y11.2).2).2)))))]))))))))))))))))))
def aii:Cn 93 [tP,tP,tR]:=cn fun(p q:BP) (r:BR)=>lf (okP 580 p∧okP 580 q∧ok Rat 1000 r) [.d aon (RE.apaS (RE.pR (dec p)) (RE.pR (dec q)) (ah r))] fun h=>by
 refine aA EH (XP p q r) ⟨0,?_⟩
 obtain⟨hp,hq,hr⟩:=h
 obtain⟨p,rfl,bp,rp⟩:=bS hp
 obtain⟨q,rfl,bq,rq⟩:=bS hq
 obtain⟨r,rfl,br⟩:=aF hr
 have h0:decide (aG 0)=true:=by decide
 have h2:decide (aG (-2))=true:=by decide
 have c2:((-2:Int):Rat)= -2:=rfl
 have b2:Bd (-2:Rat) 3:=cZ (n:= -2) (by decide)
 have hz:((am ((0:Int):Rat),am ((0:Int):Rat)):BV)=enc z2:=rfl
 have o1:=aaq (p:=p) (q:=q) (r:=r) rp.nn rq.nn
 unfold XP
 simp only[aU,Nat.reduceAdd,Nat.reduceMul,Nat.reduceLeDiff,aM,aN,h0,h2,c2,hz,dT (show sqB p z2=0∨(sqP p z2).2.2=p.2.2.2.2 by rw[←acJ];exact Yo p z2),dT (show sqB q z2=0∨(sqP q z2).2.2=q.2.2.2.2 by rw[←acJ];exact Yo q z2),ai3,acJ]
 show(match decide (okQ (enc (apQ p q r)))with|true=>some [RV.d aon (sgQ (dec (enc (apQ p q r))))]|false=>none)=_
 rw[az,o1,RE.apQ_re]
def XN(c:BCU)(p:BP)(_k:KT):Option (List RV):=match c.2.2.2.1 with|true=>(og (decide (ok (Rat×Rat) 400 (hid ((c.2.2.1.1,c.2.2.1.2.1)))∧okP 580 c.2.2.2.2.2∧okP 580 c.2.2.2.2.1)) (match decide ((RE.turS (dec (hid ((c.2.2.1.1,c.2.2.1.2.1)))) (RE.pR (dec c.2.2.2.2.2)) (RE.pR (dec c.2.2.2.2.1)))≥0)with|true=>(og (decide (ok (Rat×Rat) 400 (hid ((c.2.2.1.1,c.2.2.1.2.1)))∧okP 580 c.2.2.2.2.2∧okP 580 p)) (match decide ((RE.turS (dec (hid ((c.2.2.1.1,c.2.2.1.2.1)))) (RE.pR (dec c.2.2.2.2.2)) (RE.pR (dec p)))≥0)with|true=>(og (decide (ok (Rat×Rat) 400 (hid ((c.2.2.1.1,c.2.2.1.2.1)))∧okP 580 p∧okP 580 c.2.2.2.2.1)) (some [RV.d .bool (decide ((RE.turS (dec (hid ((c.2.2.1.1,c.2.2.1.2.1)))) (RE.pR (dec p)) (RE.pR (dec c.2.2.2.2.1)))≥0))]))|false=>some [RV.d .bool false]))|false=>(og (decide (ok (Rat×Rat) 400 (hid ((c.2.2.1.1,c.2.2.1.2.1)))∧okP 580 c.2.2.2.2.1∧okP 580 p)) (match decide ((RE.turS (dec (hid ((c.2.2.1.1,c.2.2.1.2.1)))) (RE.pR (dec c.2.2.2.2.1)) (RE.pR (dec p)))≤0)with|true=>some [RV.d .bool true]|false=>(og (decide (ok (Rat×Rat) 400 (hid ((c.2.2.1.1,c.2.2.1.2.1)))∧okP 580 p∧okP 580 c.2.2.2.2.2)) (some [RV.d .bool (decide ((RE.turS (dec (hid ((c.2.2.1.1,c.2.2.1.2.1)))) (RE.pR (dec p)) (RE.pR (dec c.2.2.2.2.2)))≤0))]))))))|false=>(og (decide (ok (Rat×Rat) 400 (hid ((c.2.2.1.1,c.2.2.1.2.1)))∧okP 580 c.2.2.2.2.1∧okP 580 c.2.2.2.2.2)) (match decide ((RE.turS (dec (hid ((c.2.2.1.1,c.2.2.1.2.1)))) (RE.pR (dec c.2.2.2.2.1)) (RE.pR (dec c.2.2.2.2.2)))≥0)with|true=>(og (decide (ok (Rat×Rat) 400 (hid ((c.2.2.1.1,c.2.2.1.2.1)))∧okP 580 c.2.2.2.2.1∧okP 580 p)) (match decide ((RE.turS (dec (hid ((c.2.2.1.1,c.2.2.1.2.1)))) (RE.pR (dec c.2.2.2.2.1)) (RE.pR (dec p)))≥0)with|true=>(og (decide (ok (Rat×Rat) 400 (hid ((c.2.2.1.1,c.2.2.1.2.1)))∧okP 580 p∧okP 580 c.2.2.2.2.2)) (some [RV.d .bool (decide ((RE.turS (dec (hid ((c.2.2.1.1,c.2.2.1.2.1)))) (RE.pR (dec p)) (RE.pR (dec c.2.2.2.2.2)))≥0))]))|false=>some [RV.d .bool false]))|false=>(og (decide (ok (Rat×Rat) 400 (hid ((c.2.2.1.1,c.2.2.1.2.1)))∧okP 580 c.2.2.2.2.2∧okP 580 p)) (match decide ((RE.turS (dec (hid ((c.2.2.1.1,c.2.2.1.2.1)))) (RE.pR (dec c.2.2.2.2.2)) (RE.pR (dec p)))≤0)with|true=>some [RV.d .bool true]|false=>(og (decide (ok (Rat×Rat) 400 (hid ((c.2.2.1.1,c.2.2.1.2.1)))∧okP 580 p∧okP 580 c.2.2.2.2.1)) (some [RV.d .bool (decide ((RE.turS (dec (hid ((c.2.2.1.1,c.2.2.1.2.1)))) (RE.pR (dec p)) (RE.pR (dec c.2.2.2.2.1)))≤0))]))))))
def aig:Cn 104 [tCU,tP]:=cn fun(c:BCU) (p:BP)=>lf (vu c.2.2.1∧okP 580 c.2.2.2.2.1∧okP 580 c.2.2.2.2.2∧okP 580 p) [.d .bool (RE.witE (dC c) (RE.pR (dec p)))] fun h=>by
 refine aA EH (XN c p) ⟨0,?_⟩
 obtain⟨⟨hc,_⟩,hf,ht,hp⟩:=h
 obtain⟨p,rfl,bp,rp⟩:=bS hp
 obtain⟨ar,li,ci,cw,fr,to⟩:=c
 simp only at hc hf ht
 obtain⟨ci,rfl,bc⟩:=aF hc
 obtain⟨fr,rfl,bf,rf⟩:=bS hf
 obtain⟨to,rfl,bt,rt⟩:=bS ht
 have e0:((am ci.1,am ci.2.1):BV)=enc (ctr ci):=rfl
 unfold XN
 rw[RE.wit_eq]
 simp only[aU,Nat.reduceLeDiff,aN,e0]
 cases cw
 ·simp only[aU,dC,ciC,ccF,ccT,cwC,frC,toC]
  rw[RE.turS_anti (ctr ci) (RE.pR to) (RE.pR p),RE.turS_anti (ctr ci) (RE.pR p) (RE.pR fr)]
  exact RE.wit_go _ _ _
 ·simp only[aU,dC,ciC,ccF,ccT,cwC,frC,toC]
  rw[RE.turS_anti (ctr ci) (RE.pR fr) (RE.pR p),RE.turS_anti (ctr ci) (RE.pR p) (RE.pR to)]
  exact RE.wit_go _ _ _
def My:List En:=enT aii::enT aig::EH
def aa2:NT:=[((43,21),{keep:=[25],hl:=0}),((43,49),{keep:=[107],hl:=0})]
def aip:Ctx:=CX (ens My) aa2
def Y2(c:BCU)(p:BP)(r:BR)(_k:KT):Option (List RV):=let y1:=RE.pR (dec c.2.2.2.2.2);let y2:=RE.pR (dec c.2.2.2.2.1);let y3:Option (List RV):=match decide (okP 580 c.2.2.2.2.1∧okP 580 p∧ok Rat 1000 r)with|true=>(match decide (okP 580 c.2.2.2.2.2∧okP 580 p∧ok Rat 1000 r)with|true=>some [RV.d aon (if RE.apaS y1 (RE.pR (dec p)) (ah r)<RE.apaS y2 (RE.pR (dec p)) (ah r)then RE.apaS y1 (RE.pR (dec p)) (ah r)else RE.apaS y2 (RE.pR (dec p)) (ah r))]|false=>none)|false=>none;let y4:=hMu c.2.1.2.1 p.2.2.1;let y5:=hAd (hMu c.2.1.1 p.1) y4;let y6:=hMu c.2.1.2.1 p.2.2.2.1;let y7:=hSu y5 c.2.1.2.2;let y8:=hAd (hMu c.2.1.1 p.2.1) y6;let y9:=hMu p.2.2.2.2 (hMu y8 y8);let y10:=hid (am ((2:Int):Rat));let y11:=hAd (hMu y7 y7) y9;let y12:=hMu y10 (hMu y7 y8);let y13:=hMu c.2.1.1 c.2.1.1;let y14:=hMu c.2.1.2.1 c.2.1.2.1;let y15:=hid (enc (mkR (ah y11) (ah y12) (ah p.2.2.2.2)));let y16:=hMu (hMu r r) (hAd y13 y14);let y17:=hid ((c.2.2.1.1,c.2.2.1.2.1));let y18:=hid (enc (sqP (dec p) (dec y17)));match decide (okR r)with|true=>(match decide ((aC (ah r) 0)<0)with|true=>some [RV.d aon 1]|false=>(match !c.1 with|true=>(match decide (okC 3000 c∧okP 3000 p∧c.1=false)with|true=>(match !(rT (dC c) (dec p))with|true=>y3|false=>(match decide (okR c.2.1.1∧okR p.1)with|true=>(match decide (okR c.2.1.2.1∧okR p.2.2.1)with|true=>(match decide (okR (hMu c.2.1.1 p.1)∧okR y4)with|true=>(match decide (okR y5∧okR c.2.1.2.2)with|true=>(match decide (okR c.2.1.1∧okR p.2.1)with|true=>(match decide (okR c.2.1.2.1∧okR p.2.2.2.1)with|true=>(match decide (okR (hMu c.2.1.1 p.2.1)∧okR y6)with|true=>(match decide (okR y7∧okR y7)with|true=>(match decide (okR y8∧okR y8)with|true=>(match decide (okR p.2.2.2.2∧okR (hMu y8 y8))with|true=>(match decide (okR (hMu y7 y7)∧okR y9)with|true=>(match decide (aG (2:Int))with|true=>(match decide (okR y7∧okR y8)with|true=>(match decide (okR y10∧okR (hMu y7 y8))with|true=>(match decide (ok Rat 100000 y11∧ok Rat 100000 y12∧ok Rat 100000 p.2.2.2.2∧0≤ah p.2.2.2.2)with|true=>(match decide (okR r∧okR r)with|true=>(match decide (okR c.2.1.1∧okR c.2.1.1)with|true=>(match decide (okR c.2.1.2.1∧okR c.2.1.2.1)with|true=>(match decide (okR y13∧okR y14)with|true=>(match decide (okR (hMu r r)∧okR (hAd y13 y14))with|true=>(match decide (okT 15000 y15∧ok Rat 15000 y16)with|true=>some [RV.d aon (fR (dec y15) (ah y16))]|false=>none)|false=>none)|false=>none)|false=>none)|false=>none)|false=>none)|false=>none)|false=>none)|false=>none)|false=>none)|false=>none)|false=>none)|false=>none)|false=>none)|false=>none)|false=>none)|false=>none)|false=>none)|false=>none)|false=>none)|false=>none))|false=>none)|false=>(match decide (okP 3500 p∧ok (Rat×Rat) 300 y17)with|true=>(match decide (okT 15000 y18)with|true=>(match(sgR (dec y18))==0 with|true=>(match decide (okR r∧okR r)with|true=>(match decide (okR c.2.2.1.2.2∧okR (hMu r r))with|true=>some [RV.d aon (aC (ah c.2.2.1.2.2) (ah (hMu r r)))]|false=>none)|false=>none)|false=>(match decide (vu c.2.2.1∧okP 580 c.2.2.2.2.1∧okP 580 c.2.2.2.2.2∧okP 580 p)with|true=>(match !(RE.witE (dC c) (RE.pR (dec p)))with|true=>y3|false=>(match decide (okT 15000 y18∧ok Rat 1000 c.2.2.1.2.2∧ok Rat 1000 r∧0≤ah c.2.2.1.2.2)with|true=>some [RV.d aon (RE.rngS (RE.vR (dec y18)) (ah c.2.2.1.2.2) (ah r))]|false=>none))|false=>none))|false=>none)|false=>none)))|false=>none
theorem adP(c:BCU)(p:BP)(r:BR):RS aip 43 [.d tCU c,.d tP p,.d tR r] (Y2 c p r):=rsX
open Classical in
def aiF:Cn 43 [tCU,tP,tR]:=cn fun(c:BCU) (p:BP) (r:BR)=>lf (okC 580 c∧okP 580 p∧ok Rat 1000 r) [.d aon (RE.poiE (dC c) (RE.pR (dec p)) (ah r))] fun h=>by
 refine c7 My (adP _ _ _ ⟨0,?_⟩)
 obtain⟨hc,hp,hr⟩:=h
 have hp1:=cK (k:=580) hp (by decide) (by decide)
 have hp6:=cK (k:=580) hp (by decide) (by decide)
 have hp3:=cK (k:=3000) hp (by decide) (by decide)
 have hc3:=cf (k:=3000) hc (by decide) (by decide)
 obtain⟨p,rfl,bp,rp⟩:=bS hp
 obtain⟨r,rfl,br⟩:=aF hr
 obtain⟨ar,li,ci,cw,fr,to⟩:=c
 have h3:=hc.2.2.1
 have h4:=hc.2.2.2
 simp only at h3 h4
 obtain⟨fr,rfl,bf,rf⟩:=bS h3
 obtain⟨to,rfl,bt,rt⟩:=bS h4
 have o1:decide (okP 580 (enc fr)∧okP 580 (enc p)∧ok Rat 1000 (am r))=true:=ak3 ⟨h3,hp1,hr⟩
 have o2:decide (okP 580 (enc to)∧okP 580 (enc p)∧ok Rat 1000 (am r))=true:=ak3 ⟨h4,hp1,hr⟩
 have b2:Bd ((2:Int):Rat) 3:=cZ (n:=2) (by decide)
 have i2:decide (aG 2)=true:=by decide
 have hn:0≤p.2.2.2.2:=rp.nn
 rw[eT,cB,az]
 unfold Y2 RE.poiE
 cases ar
 ·obtain⟨c2,c3⟩:=hc.2.1 rfl
  simp only at c2 c3
  obtain⟨li,rfl,bl⟩:=aF c2
  have o3:decide (okC 3000 (false,enc li,ci,cw,enc fr,enc to)∧okP 3000 (enc p)∧(false,enc li,ci,cw,enc fr,enc to).1=false)=true:=ak3 ⟨hc3,hp3,rfl⟩
  have hb:RE.besE (false,li,dec ci,cw,fr,to) (RE.pR p)=rT (false,li,dec ci,cw,fr,to) p:=RE.bes_E (c:=(false,li,dec ci,cw,fr,to)) (hf:=rf) (ht:=rt)
  have q2:fR (mkR (qy li p*qy li p+p.2.2.2.2*(qz li p*qz li p)) (2*(qy li p*qz li p)) p.2.2.2.2) (r*r*(li.1*li.1+li.2.1*li.2.1))=RE.sg (RE.exE li (RE.pR p)*RE.exE li (RE.pR p)-RE.of (r*r*(li.1*li.1+li.2.1*li.2.1))):=by
   rw[RE.cmpTR_re (sO (h:=⟨hn⟩)).nn,RE.vR_lin]
  have bA:Bd (qy li p) 2070:=(inferInstance:Bd (li.1*p.1+li.2.1*p.2.2.1-li.2.2) _).mono (by decide)
  have bB:Bd (qz li p) 2070:=(inferInstance:Bd (li.1*p.2.1+li.2.1*p.2.2.2.1) _).mono (by decide)
  have eA:li.1*p.1+li.2.1*p.2.2.1-li.2.2=qy li p:=rfl
  have eB:li.1*p.2.1+li.2.1*p.2.2.2.1=qz li p:=rfl
  have e2:((2:Int):Rat)=2:=rfl
  have b2':Bd (2:Rat) 3:=b2
  have nC:Nn p.2.2.2.2:=⟨hn⟩
  dsimp only
  simp only[aU,Nat.reduceAdd,Nat.reduceLeDiff,aM,aN,au,o1,o2,ak3 hc3,i2,dT hn,RE.min_if,Bool.not_false,dC,lnC,eA,eB,e2,q2,hb]
  cases decide (r<0)
  ·cases rT (false,li,dec ci,cw,fr,to) p<;>rfl
  ·rfl
 ·obtain⟨c1,hq⟩:=hc.1 rfl
  have hci:vu ci:=⟨c1,hq⟩
  simp only at c1 hq
  obtain⟨ci,rfl,bc⟩:=aF c1
  rw[az]at hq
  have e0:((am ci.1,am ci.2.1):BV)=enc (ctr ci):=rfl
  have o3:decide (vu (enc ci)∧okP 580 (enc fr)∧okP 580 (enc to)∧okP 580 (enc p))=true:=ak3 ⟨hci,h3,h4,hp6⟩
  have z:(sgR (sqP p (ctr ci))==0)=decide (RE.pR p=RE.vE (ctr ci)):=by
   rw[am7,amb]
   exact RE.sq_zr
  have vs:RE.vR (sqP p (ctr ci))=RE.dsE (RE.pR p) (RE.vE (ctr ci)):=RE.vR_sq _
  dsimp only
  simp only[aU,Nat.reduceAdd,Nat.reduceMul,Nat.reduceLeDiff,aM,aN,au,e0,o1,o2,o3,RE.min_if,Bool.not_true,dC,ciC,z,vs,dT (show 0≤ci.2.2 by grind)]
  cases decide (r<0)
  ·cases decide (RE.pR p=RE.vE (ctr ci))
   ·cases RE.witE (true,dec li,ci,cw,fr,to) (RE.pR p)<;>rfl
   ·rfl
  ·rfl
end
theorem lD(q:Rat):(aC q 0== -1)=decide (q<0):=by
 unfold aC
 by_cases h:q<0
 ·rw[ak3 h];rfl
 ·rw[ak5 h]
  by_cases h':0<q
  ·rw[ak3 h'];rfl
  ·rw[ak5 h'];rfl
def rn:List En:=[⟨41,fX,dU⟩,⟨99,iq,fe⟩,⟨107,iW,fy⟩,⟨106,ir,fh⟩,⟨108,gU,eP⟩,⟨73,lQ,ip⟩,⟨109,kO,gH⟩,⟨305,xC,te⟩,enL Wx,enL Xj,enL Jq,enL Xi,enL Wv,enL Zj,enL Ra]
def ae6:Cn 326 [tR,tR]:=cn fun(a b:BR)=>lf (okR a∧okR b) [.d tR (am (ah a+ah b))] fun h=>jJ [RV.d tR (hAd a b)] (du rn) h
def afM:Cn 279 [tR,tR]:=cn fun(a b:BR)=>lf (okR a∧okR b) [.d tR (am (ah a-ah b))] fun h=>jJ [RV.d tR (hSu a b)] (du rn) h
def aeu:Cn 280 [tR,tR]:=cn fun(a b:BR)=>lf (okR a∧okR b) [.d tR (am (ah a*ah b))] fun h=>jJ [RV.d tR (hMu a b)] (du rn) h
def aeY:Cn 281 [tR,tR]:=cn fun(a b:BR)=>lf (iv a b) [.d tR (am (ah a/ah b))] fun h=>jJ [RV.d tR (hDi a b)] (du rn) h
def ZD(a b:BR)(_k:KT):Option (List RV):=match decide (okR a∧okR b)with|true=>some [RV.d .bool ((aC (ah a) (ah b))==0)]|false=>none
def ahm:Cn 274 [tR,tR]:=cn fun(a b:BR)=>lf (okR a∧okR b) [.d .bool (decide (ah a=ah b))] fun h=>by
 refine aA rn (ZD a b) ⟨0,?_⟩
 unfold ZD
 rw[dT h]
 simp only[aq]
def Yz(x u y v k:BR)(_k:KT):Option (List RV):=og (decide (ok Rat 100000 x∧ok Rat 100000 u∧ok Rat 100000 k∧0≤ah k)) (og (decide (ok Rat 100000 y∧ok Rat 100000 v∧ok Rat 100000 k∧0≤ah k)) (og (decide (okT 15000 (hid (enc (mkR (ah x) (ah u) (ah k))))∧okT 15000 (hid (enc (mkR (ah y) (ah v) (ah k))))∧vD (dec (hid (enc (mkR (ah x) (ah u) (ah k))))) (dec (hid (enc (mkR (ah y) (ah v) (ah k))))))) (some [RV.d tP (hid (enc (mkP (dec (hid (enc (mkR (ah x) (ah u) (ah k))))) (dec (hid (enc (mkR (ah y) (ah v) (ah k))))))))])))
def adV:Cn 278 [tR,tR,tR,tR,tR]:=cn fun(x u y v k:BR)=>lf (ok Rat 1000 x∧ok Rat 1000 u∧ok Rat 1000 y∧ok Rat 1000 v∧ok Rat 1000 k∧0≤ah k) [.d tP (enc (vo (ah x) (ah u) (ah y) (ah v) (ah k)))] fun h=>by
 refine aA rn (Yz x u y v k) ⟨0,?_⟩
 obtain⟨hx,hu,hy,hv,hk,h0⟩:=h
 obtain⟨x,rfl,bx⟩:=aF hx
 obtain⟨u,rfl,bu⟩:=aF hu
 obtain⟨y,rfl,b_y⟩:=aF hy
 obtain⟨v,rfl,bv⟩:=aF hv
 obtain⟨k,rfl,bk⟩:=aF hk
 have h0:0≤(dec (enc k):Rat):=h0
 rw[az]at h0
 have nk:Nn k:=⟨h0⟩
 have n0:decide (0≤k)=true:=ak3 nk.le
 have hm:decide (vD (mkR x u k) (mkR y v k))=true:=ak3 (qq _ _ _ _ _)
 unfold Yz vo
 simp only[aU,Nat.reduceAdd,Nat.reduceLeDiff,aM,n0,hm]
 try rfl
def uJ:List En:=enL ae6::enL afM::enL aeu::enL aeY::enT ahm::enL adV::rn
def Xt(l m:BO3)(_k:KT):Option (List RV):=og (o2 l.1 m.2.1) (og (o2 m.1 l.2.1) (og (o2 (hMu l.1 m.2.1) (hMu m.1 l.2.1)) (match decide (ah (hMu l.1 m.2.1)=ah (hMu m.1 l.2.1))with|true=>(og (o2 l.1 m.2.2) (og (o2 m.1 l.2.2) (og (o2 (hMu l.1 m.2.2) (hMu m.1 l.2.2)) (match decide (ah (hMu l.1 m.2.2)=ah (hMu m.1 l.2.2))with|true=>(og (o2 l.2.1 m.2.2) (og (o2 m.2.1 l.2.2) (og (o2 (hMu l.2.1 m.2.2) (hMu m.2.1 l.2.2)) (some [RV.d .bool (decide (ah (hMu l.2.1 m.2.2)=ah (hMu m.2.1 l.2.2)))]))))|false=>some [RV.d .bool false]))))|false=>some [RV.d .bool false])))
def afm:Cn 184 [tO,tO]:=cn fun(l m:BO3)=>lf (cN l∧cN m) [.d .bool (oR (dec l) (dec m))] fun h=>by
 refine aA uJ (Xt l m) ⟨0,?_⟩
 obtain⟨hl,hm⟩:=h
 obtain⟨l,rfl,bl,nl⟩:=eI hl
 obtain⟨m,rfl,bm,nm⟩:=eI hm
 unfold Xt oR
 have c1:l.2.1*m.1=m.1*l.2.1:=amq _ _
 have c2:l.2.2*m.1=m.1*l.2.2:=amq _ _
 have c3:l.2.2*m.2.1=m.2.1*l.2.2:=amq _ _
 simp only[aU,Nat.reduceAdd,Nat.reduceLeDiff,c1,c2,c3]
 cases decide (l.1*m.2.1=m.1*l.2.1)<;>cases decide (l.1*m.2.2=m.1*l.2.2)<;>rfl
def YD(c d:BO3)(_k:KT):Option (List RV):=og (o2 c.1 d.1) (match decide (ah c.1=ah d.1)with|true=>(og (o2 c.2.1 d.2.1) (match decide (ah c.2.1=ah d.2.1)with|true=>(og (o2 c.2.2 d.2.2) (some [RV.d .bool (decide (ah c.2.2=ah d.2.2))]))|false=>some [RV.d .bool false]))|false=>some [RV.d .bool false])
def aiv:Cn 183 [tO,tO]:=cn fun(c d:BO3)=>lf (cg c∧cg d) [.d .bool (rP (dec c) (dec d))] fun h=>by
 refine aA uJ (YD c d) ⟨0,?_⟩
 obtain⟨hc,hd⟩:=h
 obtain⟨c,rfl,bc,nc⟩:=cQ hc
 obtain⟨d,rfl,bd,nd⟩:=cQ hd
 unfold YD rP
 simp only[aU,Nat.reduceLeDiff]
 cases decide (c.1=d.1)<;>cases decide (c.2.1=d.2.1)<;>rfl
def Y5(c d:BO3)(_k:KT):Option (List RV):=og (o2 c.1 d.1) (match(aC (ah c.1) (ah d.1))==0 with|true=>(og (o2 c.2.1 d.2.1) (some [RV.d .bool ((aC (ah c.2.1) (ah d.2.1))==0)]))|false=>some [RV.d .bool false])
def afQ:Cn 275 [tO,tO]:=cn fun(c d:BO3)=>lf (cg c∧cg d) [.d .bool (ij (dec c) (dec d))] fun h=>by
 refine aA uJ (Y5 c d) ⟨0,?_⟩
 obtain⟨hc,hd⟩:=h
 obtain⟨c,rfl,bc,nc⟩:=cQ hc
 obtain⟨d,rfl,bd,nd⟩:=cQ hd
 unfold Y5 ij
 simp only[aU,Nat.reduceLeDiff,aq]
 cases decide (c.1=d.1)<;>rfl
def V9(c:BO3)(_k:KT):Option (List RV):=og (o2 c.1 c.1) (og (o2 c.2.1 c.2.1) (og (o2 (hMu c.1 c.1) (hMu c.2.1 c.2.1)) (og (o2 (hAd (hMu c.1 c.1) (hMu c.2.1 c.2.1)) c.2.2) (some [RV.d tR (hSu (hAd (hMu c.1 c.1) (hMu c.2.1 c.2.1)) c.2.2)]))))
def afc:Cn 325 [tO]:=cn fun(c:BO3)=>lf (cg c) [.d tR (am (qC (dec c)))] fun h=>by
 refine aA uJ (V9 c) ⟨0,?_⟩
 have hc:=h
 obtain⟨c,rfl,bc,nc⟩:=cQ hc
 unfold V9 qC
 simp only[aU,Nat.reduceAdd,Nat.reduceLeDiff]
def Wh(l c:BO3)(_k:KT):Option (List RV):=let y1:=hid (enc (d7 (dec l) (dec (c.1,c.2.1))));let y2:=hSu (y1.2) c.2.1;let y3:=hMu (hSu (y1.1) c.1) (hSu (y1.1) c.1);let y4:=hAd y3 (hMu y2 y2);let y5:=hAd (hMu l.1 l.1) (hMu l.2.1 l.2.1);let y6:=iv (hSu c.2.2 y4) y5;let y7:=hDi (hSu c.2.2 y4) y5;let y8:Option (List RV):=match decide y6 with|true=>some [RV.d tR y7,RV.d tV y1]|false=>none;let y9:Option (List RV):=match decide (okR (hMu l.1 l.1)∧okR (hMu l.2.1 l.2.1))with|true=>y8|false=>none;let y10:Option (List RV):=match decide (okR l.2.1∧okR l.2.1)with|true=>y9|false=>none;og (decide (ok Ln 300 l∧ok (Rat×Rat) 200 (c.1,c.2.1)∧((dec l:Ln).1≠0∨(dec l:Ln).2.1≠0))) (og (o2 (y1.1) c.1) (og (o2 (y1.2) c.2.1) (og (o2 (hSu (y1.1) c.1) (hSu (y1.1) c.1)) (og (o2 y2 y2) (og (o2 y3 (hMu y2 y2)) (og (o2 c.2.2 y4) (ct (og (o2 l.1 l.1) (ct (og (o2 l.2.1 l.2.1) (ct (og (o2 (hMu l.1 l.1) (hMu l.2.1 l.2.1)) (ct (og (decide y6) (dup (.b .l .l) (some [RV.d tR y7,RV.d tV y1]))) y8)) y9)) y10)) (og (o2 l.1 l.1) y10))))))))
def aha:Cn 277 [tO,tO]:=cn fun(l c:BO3)=>lf (cN l∧cg c) [.d tR (am (eh (dec l) (dec c))),.d tV (enc (ftL (dec l) (dec c)))] fun h=>by
 refine aA uJ (Wh l c) ⟨0,?_⟩
 obtain⟨hl,hc⟩:=h
 obtain⟨l,rfl,bl,nl⟩:=eI hl
 obtain⟨c,rfl,bc,nc⟩:=cQ hc
 have ol:=ak3 (mg (l:=l) nl)
 have bl:Bd l 63:=aag
 have bv:Bd ((c.1,c.2.1):Rat×Rat) 4:=inferInstance
 have hn:=m9 nl
 have bn:Bd (ck l) 49:=inferInstanceAs (Bd (l.1*l.1+l.2.1*l.2.1) _)
 have bf:=Fz (l:=l) (c:=c)
 have b1:Bd (ftL l c).1 163:=inferInstance
 have b2:Bd (ftL l c).2 163:=inferInstance
 have e1:l.1*l.1+l.2.1*l.2.1=ck l:=rfl
 unfold Wh eh yg
 simp only[aU,Nat.reduceAdd,Nat.reduceLeDiff,JD,nl,Vk,e1,hn,ne_eq,amA]
 try rfl
def xl:List En:=enT afm::enT aiv::enT afQ::enL afc::enL aha::uJ
def Wy(l m:BO3)(_k:KT):Option (List RV):=og (o2 l.1 m.2.1) (og (o2 m.1 l.2.1) (og (o2 (hMu l.1 m.2.1) (hMu m.1 l.2.1)) (og (o1 (hSu (hMu l.1 m.2.1) (hMu m.1 l.2.1))) (match(aC (ah (hSu (hMu l.1 m.2.1) (hMu m.1 l.2.1))) 0)==0 with|true=>(og (decide (cN l∧cN m)) (match oR (dec l) (dec m)with|true=>some [RV.d (.sl tP) ([]),RV.d aon 10]|false=>some [RV.d (.sl tP) ([]),RV.d aon 0]))|false=>(og (o2 l.2.2 m.2.1) (og (o2 m.2.2 l.2.1) (og (o2 (hMu l.2.2 m.2.1) (hMu m.2.2 l.2.1)) (og (decide (iv (hSu (hMu l.2.2 m.2.1) (hMu m.2.2 l.2.1)) (hSu (hMu l.1 m.2.1) (hMu m.1 l.2.1)))) (og (o2 l.1 m.2.2) (og (o2 m.1 l.2.2) (og (o2 (hMu l.1 m.2.2) (hMu m.1 l.2.2)) (og (decide (iv (hSu (hMu l.1 m.2.2) (hMu m.1 l.2.2)) (hSu (hMu l.1 m.2.1) (hMu m.1 l.2.1)))) (og (decide (ok (Rat×Rat) 100000 (hDi (hSu (hMu l.2.2 m.2.1) (hMu m.2.2 l.2.1)) (hSu (hMu l.1 m.2.1) (hMu m.1 l.2.1)),hDi (hSu (hMu l.1 m.2.2) (hMu m.1 l.2.2)) (hSu (hMu l.1 m.2.1) (hMu m.1 l.2.1))))) (some [RV.d (.sl tP) ([hid (enc (atP (dec (hDi (hSu (hMu l.2.2 m.2.1) (hMu m.2.2 l.2.1)) (hSu (hMu l.1 m.2.1) (hMu m.1 l.2.1)),hDi (hSu (hMu l.1 m.2.2) (hMu m.1 l.2.2)) (hSu (hMu l.1 m.2.1) (hMu m.1 l.2.1))))))]),RV.d aon 0]))))))))))))))
def aeO:Cn 187 [tO,tO]:=cn fun(l m:BO3)=>lf (cN l∧cN m) [.d (.sl tP) ((mp (dec l) (dec m)).map enc),.d aon (Ls (dec l) (dec m))] fun h=>by
 refine aA xl (Wy l m) ⟨0,?_⟩
 obtain⟨hl,hm⟩:=h
 obtain⟨l,rfl,bl,nl⟩:=eI hl
 obtain⟨m,rfl,bm,nm⟩:=eI hm
 have ol:=ak3 (mg (l:=l) nl)
 have om:=ak3 (mg (l:=m) nm)
 have bc:Bd (ef l m) 49:=inferInstanceAs (Bd (l.1*m.2.1-m.1*l.2.1) _)
 have e0:l.1*m.2.1-m.1*l.2.1=ef l m:=rfl
 have e1:l.2.2*m.2.1-m.2.2*l.2.1=lU l m:=rfl
 have e2:l.1*m.2.2-m.1*l.2.2=lN l m:=rfl
 have bx:Bd (lU l m) 151:=inferInstanceAs (Bd (l.2.2*m.2.1-m.2.2*l.2.1) _)
 have b_:Bd (lN l m) 151:=inferInstanceAs (Bd (l.1*m.2.2-m.1*l.2.2) _)
 unfold Wy mp Ls
 simp only[aU,Nat.reduceAdd,Nat.reduceLeDiff,aq,ol,om,e0,e1,e2]
 by_cases h0:ef l m=0
 ·simp only[ak3 h0,Bool.not_true]
  cases oR l m<;>rfl
 ·simp only[aU,Nat.reduceAdd,Nat.reduceLeDiff,h0,ne_eq,amA,Bool.not_false,JD]
  rfl
def X9(c d:BO3)(_k:KT):Option (List RV):=og (decide (cg c∧cg d)) (match ij (dec c) (dec d)with|true=>some [RV.d tO (((false,[]),(false,[])),(((false,[]),(false,[])),((false,[]),(false,[])))),RV.d aon 6]|false=>(og (decide (aG (2:Int))) (og (o2 d.1 c.1) (og (o2 (hid (am ((2:Int):Rat))) (hSu d.1 c.1)) (og (o2 d.2.1 c.2.1) (og (o2 (hid (am ((2:Int):Rat))) (hSu d.2.1 c.2.1)) (og (decide (cg d)) (og (decide (cg c)) (og (o2 (hid (am (qC (dec d)))) (hid (am (qC (dec c))))) (some [RV.d tO (hMu (hid (am ((2:Int):Rat))) (hSu d.1 c.1),(hMu (hid (am ((2:Int):Rat))) (hSu d.2.1 c.2.1),hSu (hid (am (qC (dec d)))) (hid (am (qC (dec c)))))),RV.d aon 0]))))))))))
def aez:Cn 276 [tO,tO]:=cn fun(c d:BO3)=>lf (cg c∧cg d) [.d tO (vH (dec c) (dec d)),.d aon (Vr (dec c) (dec d))] fun h=>by
 refine aA xl (X9 c d) ⟨0,?_⟩
 obtain⟨hc,hd⟩:=h
 obtain⟨c,rfl,bc,nc⟩:=cQ hc
 obtain⟨d,rfl,bd,nd⟩:=cQ hd
 have oc:=ak3 (hU (c:=c) nc)
 have od:=ak3 (hU (c:=d) nd)
 have i2:decide (aG 2)=true:=by decide
 have b2:Bd ((2:Int):Rat) 3:=cZ (by decide)
 have f1:Bd (qC c) 31:=(inferInstance:Bd (c.1*c.1+c.2.1*c.2.1-c.2.2) _).mono (by decide)
 have f2:Bd (qC d) 31:=(inferInstance:Bd (d.1*d.1+d.2.1*d.2.1-d.2.2) _).mono (by decide)
 unfold X9 vH Vr
 simp only[aU,Nat.reduceAdd,Nat.reduceLeDiff,oc,od,i2]
 cases ij c d
 ·rfl
 ·rfl
def agJ:Ctx:=CX (ens xl) []
def YT(l c:BO3)(_k:KT):Option (List RV):=let y1:=hid (am (eh (dec l) (dec c)));let y2:=hid (enc (ftL (dec l) (dec c)));let y3:=aC (ah l.2.1) 0;let y4:=hNe (hNe (hNe l.1));let y5:=enc (vo (ah (y2.1)) (ah (hNe l.2.1)) (ah (y2.2)) (ah (hNe (hNe l.1))) (ah y1));let y6:Option (List RV):=match decide (okR l.2.1)with|true=>(og (o1 (hNe l.1)) (og (o1 (hNe l.2.1)) (og (o1 (hNe (hNe l.1))) (og (decide (ok Rat 1000 (y2.1)∧ok Rat 1000 (hNe (hNe l.2.1))∧ok Rat 1000 (y2.2)∧ok Rat 1000 y4∧ok Rat 1000 y1∧0≤ah y1)) (og (decide (ok Rat 1000 (y2.1)∧ok Rat 1000 (hNe l.2.1)∧ok Rat 1000 (y2.2)∧ok Rat 1000 (hNe (hNe l.1))∧ok Rat 1000 y1∧0≤ah y1)) (some [RV.new 37 tP ([hid (enc (vo (ah (y2.1)) (ah (hNe (hNe l.2.1))) (ah (y2.2)) (ah y4) (ah y1))),hid y5])]))))))|false=>none;let y7:Option (List RV):=match decide (okR l.2.1)with|true=>(og (o1 (hNe l.1)) (og (decide (ok Rat 1000 (y2.1)∧ok Rat 1000 (hNe l.2.1)∧ok Rat 1000 (y2.2)∧ok Rat 1000 (hNe (hNe l.1))∧ok Rat 1000 y1∧0≤ah y1)) (og (decide (ok Rat 1000 (y2.1)∧ok Rat 1000 l.2.1∧ok Rat 1000 (y2.2)∧ok Rat 1000 (hNe l.1)∧ok Rat 1000 y1∧0≤ah y1)) (some [RV.new 37 tP ([hid y5,hid (enc (vo (ah (y2.1)) (ah l.2.1) (ah (y2.2)) (ah (hNe l.1)) (ah y1)))])]))))|false=>none;og (decide (cN l∧cg c)) (og (o1 y1) (match(aC (ah y1) 0)==(-1)with|true=>some [RV.new 37 tP []]|false=>(match(aC (ah y1) 0)==0 with|true=>(og (decide (ok (Rat×Rat) 100000 y2)) (some [RV.new 37 tP ([hid (enc (atP (dec y2)))])]))|false=>(og (o1 l.1) (og (o1 l.2.1) (match decide (y3<0)with|true=>y6|false=>(match y3==0 with|true=>(og (o1 (hNe l.1)) (match decide ((aC (ah (hNe l.1)) 0)<0)with|true=>y6|false=>y7))|false=>y7)))))))
theorem ahQ(l c:BO3):RS agJ 186 [.d tO l,.d tO c] (YT l c):=rsX
def age:Cn 186 [tO,tO]:=cn fun(l c:BO3)=>lf (cN l∧cg c) [.d (.sl tP) ((kE (dec l) (dec c)).map enc)] fun h=>by
 refine Con.new_d (et:=37) (c7 xl (ahQ _ _ ⟨0,?_⟩))
 obtain⟨hl,hc⟩:=h
 obtain⟨l,rfl,bl,nl⟩:=eI hl
 obtain⟨c,rfl,bc,nc⟩:=cQ hc
 have ol:=ak3 (mg (l:=l) nl)
 have oc:=ak3 (hU (c:=c) nc)
 have bf:=Fz (l:=l) (c:=c)
 have bk:=P5 (l:=l) (c:=c)
 have b1:Bd (ftL l c).1 163:=inferInstance
 have b2:Bd (ftL l c).2 163:=inferInstance
 unfold YT kE
 simp only[aU,Nat.reduceLeDiff,aq,au,lD,ol,oc]
 by_cases h0:eh l c<0
 ·simp only[ak3 h0]
  rfl
 ·simp only[ak5 h0]
  by_cases h1:eh l c=0
  ·simp only[ak3 h1]
   rfl
  ·have hp:decide (0≤eh l c)=true:=ak3 (by grind)
   simp only[ak5 h1,hp,aU]
   unfold lcM lcN qA qD Gw
   cases decide (l.2.1<0)<;>cases decide (l.2.1=0)<;>cases decide (-l.1<0)<;>rfl
def L4:List En:=enL aeO::enL aez::enL age::xl
def Xa(c d:BO3)(_k:KT):Option (List RV):=og (decide (cg c∧cg d)) (match rP (dec c) (dec d)with|true=>some [RV.d (.sl tP) ([]),RV.d aon 10]|false=>(og (decide (cg c∧cg d)) (match ij (dec c) (dec d)with|true=>some [RV.d (.sl tP) ([]),RV.d aon 0]|false=>(og (decide (cg c∧cg d)) (og (decide (cN (hid (vH (dec c) (dec d)))∧cg c)) (some [RV.d (.sl tP) ((kE (dec (hid (vH (dec c) (dec d)))) (dec c)).map enc),RV.d aon 0]))))))
def aio:Cn 185 [tO,tO]:=cn fun(c d:BO3)=>lf (cg c∧cg d) [.d (.sl tP) ((uO (dec c) (dec d)).map enc),.d aon (Sd (dec c) (dec d))] fun h=>by
 refine aA L4 (Xa c d) ⟨0,?_⟩
 obtain⟨hc,hd⟩:=h
 obtain⟨c,rfl,bc,nc⟩:=cQ hc
 obtain⟨d,rfl,bd,nd⟩:=cQ hd
 have oc:=ak3 (hU (c:=c) nc)
 have od:=ak3 (hU (c:=d) nd)
 unfold Xa uO Sd
 simp only[aU,oc,od]
 cases hs:rP c d
 ·cases hc:ij c d
  ·have ol:cN (enc (mr c d)):=Pw hc
   have er:vH c d=enc (mr c d):=by unfold vH;rw[hc];rfl
   simp only[er,dT ol,aU]
   try rfl
  ·rfl
 ·have hc:ij c d=true:=by
   unfold rP at hs
   unfold ij
   cases h1:decide (c.1=d.1)
   ·rw[h1]at hs;cases hs
   ·cases h2:decide (c.2.1=d.2.1)
    ·rw[h1,h2]at hs;cases hs
    ·rfl
  rw[hc]
  rfl
def KZ:List En:=enL aio::L4
def XG(a b:BCU)(_k:KT):Option (List RV):=match a.1 with|true=>(match b.1 with|true=>(og (decide (cg a.2.2.1∧cg b.2.2.1)) (some [RV.d (.sl tP) ((uO (dec a.2.2.1) (dec b.2.2.1)).map enc),RV.d aon (Sd (dec a.2.2.1) (dec b.2.2.1))]))|false=>(match a.1 with|true=>(og (decide (cN b.2.1∧cg a.2.2.1)) (some [RV.d (.sl tP) ((kE (dec b.2.1) (dec a.2.2.1)).map enc),RV.d aon 0]))|false=>(match b.1 with|true=>(og (decide (cN a.2.1∧cg b.2.2.1)) (some [RV.d (.sl tP) ((kE (dec a.2.1) (dec b.2.2.1)).map enc),RV.d aon 0]))|false=>(og (decide (cN a.2.1∧cN b.2.1)) (some [RV.d (.sl tP) ((mp (dec a.2.1) (dec b.2.1)).map enc),RV.d aon (Ls (dec a.2.1) (dec b.2.1))])))))|false=>(match a.1 with|true=>(og (decide (cN b.2.1∧cg a.2.2.1)) (some [RV.d (.sl tP) ((kE (dec b.2.1) (dec a.2.2.1)).map enc),RV.d aon 0]))|false=>(match b.1 with|true=>(og (decide (cN a.2.1∧cg b.2.2.1)) (some [RV.d (.sl tP) ((kE (dec a.2.1) (dec b.2.2.1)).map enc),RV.d aon 0]))|false=>(og (decide (cN a.2.1∧cN b.2.1)) (some [RV.d (.sl tP) ((mp (dec a.2.1) (dec b.2.1)).map enc),RV.d aon (Ls (dec a.2.1) (dec b.2.1))]))))
def XM:Cn 85 [tCU,tCU]:=cn fun(a b:BCU)=>lf (gS a b) [.d (.sl tP) ((gK (dC a) (dC b)).map enc),.d aon (ahj (dC a) (dC b))] fun h=>by
 refine aA KZ (XG a b) ⟨0,?_⟩
 obtain⟨⟨a1,a2⟩,b1,b2⟩:=h
 unfold XG gK ahj
 obtain⟨aa,al,ac,aw,af,at_⟩:=a
 obtain⟨ba,bl,bc,bw,bf,bt⟩:=b
 cases aa<;>cases ba
 ·have h1:=a2 rfl
  have h2:=b2 rfl
  simp only[dT (show cN al∧cN bl from⟨h1,h2⟩)]
  rfl
 ·have h1:=a2 rfl
  have h2:=b1 rfl
  simp only[dT (show cN al∧cg bc from⟨h1,h2⟩)]
  rfl
 ·have h1:=a1 rfl
  have h2:=b2 rfl
  simp only[dT (show cN bl∧cg ac from⟨h2,h1⟩)]
  rfl
 ·have h1:=a1 rfl
  have h2:=b1 rfl
  simp only[dT (show cg ac∧cg bc from⟨h1,h2⟩)]
  rfl
def XJ(a b:BCU)(_k:KT):Option (List RV):=match !(a.1==b.1)with|true=>some [RV.d .bool false]|false=>(match a.1 with|true=>(og (decide (cg a.2.2.1∧cg b.2.2.1)) (some [RV.d .bool (rP (dec a.2.2.1) (dec b.2.2.1))]))|false=>(og (decide (cN a.2.1∧cN b.2.1)) (some [RV.d .bool (oR (dec a.2.1) (dec b.2.1))])))
def XH:Cn 84 [tCU,tCU]:=cn fun(a b:BCU)=>lf (gS a b) [.d .bool (cJ (dC a) (dC b))] fun h=>by
 refine aA KZ (XJ a b) ⟨0,?_⟩
 obtain⟨⟨a1,a2⟩,b1,b2⟩:=h
 unfold XJ cJ
 obtain⟨aa,al,ac,aw,af,at_⟩:=a
 obtain⟨ba,bl,bc,bw,bf,bt⟩:=b
 cases aa<;>cases ba
 ·have h1:=a2 rfl
  have h2:=b2 rfl
  simp only[dT (show cN al∧cN bl from⟨h1,h2⟩)]
  rfl
 ·rfl
 ·rfl
 ·have h1:=a1 rfl
  have h2:=b1 rfl
  simp only[dT (show cg ac∧cg bc from⟨h1,h2⟩)]
  rfl
theorem VF(f p q:Bool×Rt): -1≤gF a8 f p q∧gF a8 f p q≤1:=by
 have h:∀n,-1≤kb n∧kb n≤1:=fun n=>by
  unfold kb
  split<;>(try split)<;>omega
 unfold gF
 cases ot a8 f p==ot a8 f q
 ·exact h _
 ·exact h _
def afr:List En:=[enT KO,enT Nv]
def We(c:BCU)(p q:BP)(_k:KT):Option (List RV):=match !c.1 with|true=>(og (decide (okP 4000 p∧okP 4000 q)) (og (decide (okP 4000 c.2.2.2.2.2∧okP 4000 c.2.2.2.2.1)) (some [RV.d aon (i64.wrap ((aV (dec p) (dec q))*(aV (dec c.2.2.2.2.2) (dec c.2.2.2.2.1))))])))|false=>(match c.2.2.2.1 with|true=>(og (decide (ok Ln 300 c.2.2.1∧okP 4000 c.2.2.2.2.2∧okP 4000 p∧okP 4000 q)) (some [RV.d aon (i64.wrap (0-(gF a8 (ptd (dec c.2.2.1) (dec c.2.2.2.2.2)) (ptd (dec c.2.2.1) (dec p)) (ptd (dec c.2.2.1) (dec q)))))]))|false=>(og (decide (ok Ln 300 c.2.2.1∧okP 4000 c.2.2.2.2.1∧okP 4000 p∧okP 4000 q)) (some [RV.d aon (gF a8 (ptd (dec c.2.2.1) (dec c.2.2.2.2.1)) (ptd (dec c.2.2.1) (dec p)) (ptd (dec c.2.2.1) (dec q)))])))
def afG:Cn 194 [tCU,tP,tP]:=cn fun(c:BCU) (p q:BP)=>lf (okC 4000 c∧okP 4000 p∧okP 4000 q) [.d aon (Bm (dC c) (dec p) (dec q))] fun h=>by
 refine aA afr (We c p q) ⟨0,?_⟩
 obtain⟨hc,hp,hq⟩:=h
 obtain⟨ar,li,ci,cw,fr,to⟩:=c
 have h3:=hc.2.2.1
 have h4:=hc.2.2.2
 simp only at h3 h4
 unfold We Bm
 cases ar
 ·have b1:=pZ (dec p) (dec q)
  have b2:=pZ (dec to) (dec fr)
  simp only[dT (show okP 4000 p∧okP 4000 q from⟨hp,hq⟩),dT (show okP 4000 to∧okP 4000 fr from⟨h4,h3⟩),AI b1 b2]
  rfl
 ·have e:=(hc.1 rfl).1
  simp only at e
  cases cw
  ·simp only[dT (show ok Ln 300 ci∧okP 4000 fr∧okP 4000 p∧okP 4000 q from⟨e,h3,hp,hq⟩)]
   rfl
  ·have b:=VF (ptd (dec ci) (dec to)) (ptd (dec ci) (dec p)) (ptd (dec ci) (dec q))
   simp only[dT (show ok Ln 300 ci∧okP 4000 to∧okP 4000 p∧okP 4000 q from⟨e,h4,hp,hq⟩)]
   try dsimp only[Bool.not_true]
   rw[aS (x:=0-gF a8 (ptd (dec ci) (dec to)) (ptd (dec ci) (dec p)) (ptd (dec ci) (dec q))) (by omega) (by omega),amZ]
   rfl
section
theorem Ak{n m k:Nat}(h1:n+m≤100000000)(hk:k≤1000000):decide ((n+m)*k≤140737488355328∧n+m≤140737488355328)=true:=by
 refine ak3 ⟨?_,by omega⟩
 have:=anh h1 hk
 omega
def k9(c:BCU)(l:List BP):Prop:=okC 4000 c∧l.length≤19∧∀x∈l,okP 4000 x
instance (c:BCU) (l:List BP):Decidable (k9 c l):=by unfold k9;infer_instance
def Rx:Ctx:=CX [] []
def NS(p:List BP)(_k:KT):Option (List RV):=match p with|[]=>E8 (some [RV.new 37 tP []]) (og (decide ((([]:List BP).length+p.length)*320≤140737488355328∧([]:List BP).length+p.length≤140737488355328)) (some [RV.new 37 tP (([]:List BP)++p)]))|_::_=>(og (decide ((([]:List BP).length+p.length)*320≤140737488355328∧([]:List BP).length+p.length≤140737488355328)) (some [RV.new 37 tP (([]:List BP)++p)]))
theorem ady(p:List BP):RS Rx 87 [.d (.sl tP) p] (NS p):=rsX
def FP:Cn 87 [(.sl tP)]:=cn fun(p:List BP)=>lf (p.length≤100000) [.new 37 tP p] fun h=>by
 refine Ctx.Res.con (C:=Rx) (FY (E:=[]) trivial) ?_ (fn:=Tryz.f87) (by kernel_rfl) (by kernel_rfl)
 refine ady _ ⟨0,?_⟩
 unfold NS
 rw[Ak (n:=([]:List BP).length) (m:=p.length) (by simp;omega) (by omega)]
 cases p with
 |nil=>exact dN _
 |cons a p=>rfl
def ace:List En:=[enT KO]
def Zw(p q:BP)(_k:KT):Option (List RV):=og (decide (okP 4000 p∧okP 4000 q)) (some [RV.d .bool ((aV (dec p) (dec q))==0)])
def OV:Cn 196 [tP,tP]:=cn fun(p q:BP)=>lf (okP 4000 p∧okP 4000 q) [.d .bool (aV (dec p) (dec q)==0)] fun h=>by
 refine aA ace (Zw p q) ⟨0,?_⟩
 unfold Zw
 rw[dT h]
def IG:eg:={keep:=true,run:=fun _ _ _=>none}
theorem JZ:SpK 329 IG:=by
 refine⟨by kernel_rfl,fun R args k r h=>(by cases h),fun g h=>(by cases h)⟩
def GU:List En:=[enT afG,enT OV,enK FP,⟨329,IG,JZ⟩]
def aaO:NT:=[((288,6),{keep:=[0,1,2,6,7,8],hl:=2}),((328,3),{keep:=[0,1,2,3,8],hl:=2}),((328,15),{keep:=[0,1,2,3,8,9],hl:=2}),((288,22),{keep:=[0,1,2,6],hl:=2}),((288,34),{keep:=[0,1,2,6,7,8],hl:=2}),((195,14),{keep:=[0,1,5],hl:=2}),((195,32),{keep:=[0,1,5,6,7],hl:=2}),((90,5),{keep:=[1],hl:=0}),((192,0),{keep:=[],hl:=0}),((288,15),{keep:=[0,1,2,6,8],hl:=0}),((288,20),{keep:=[0,1,2,6],hl:=0}),((328,18),{keep:=[0,1,2,3,8,9,18,19,20,21,22,23,24,25,26,27,28,29,30,31,32,33,34],hl:=0}),((90,7),{keep:=[11],hl:=0})]
def iK:Ctx:=CX (ens GU) aaO
def qZ(c:BCU)(l:List BP)(s288_7 s288_8:Int)(r288_1:List BP):Cfg:=⟨288,[.blk 0,.seq 19],[(0,.own 1),(1,SI (l.length:Int)),(2,.clo 193 [0]),(6,SI 20),(7,SI s288_7),(8,SI s288_8)],[.box 39 (Ty.split tCU c),.row 37 tP r288_1],2,[⟨192,[],0,4,[],2,none⟩,⟨90,[.seq 6],5,2,[(1,.own 1)],0,none⟩]⟩
def ri(c:BCU)(l:List BP)(s288_7 s288_8 s328_8:Int)(r328_1:List BP):Cfg:=⟨328,[.blk 0],[(0,.own 1),(1,SI s288_7),(2,SI s288_8),(3,.clo 193 [0]),(8,SI s328_8)],[.box 39 (Ty.split tCU c),.row 37 tP r328_1],2,[⟨288,[.seq 16,.blk 1,.lp 6,.blk 0,.seq 19],15,4,[(0,.own 1),(1,SI (l.length:Int)),(2,.clo 193 [0]),(6,SI 20),(8,SI s288_8)],2,none⟩,⟨192,[],0,4,[],2,none⟩,⟨90,[.seq 6],5,2,[(1,.own 1)],0,none⟩]⟩
def eM(c:BCU)(l:List BP)(s288_7 s328_8:Int)(r328_1:List BP):Cfg:=⟨328,[.blk 0],[(0,.own 1),(1,SI s288_7),(2,SI (l.length:Int)),(3,.clo 193 [0]),(8,SI s328_8)],[.box 39 (Ty.split tCU c),.row 37 tP r328_1],2,[⟨288,[.seq 21],20,4,[(0,.own 1),(1,SI (l.length:Int)),(2,.clo 193 [0]),(6,SI 20)],2,none⟩,⟨192,[],0,4,[],2,none⟩,⟨90,[.seq 6],5,2,[(1,.own 1)],0,none⟩]⟩
def Dk(c:BCU)(l:List BP)(s288_7 s288_8 s328_8 s328_9:Int)(r328_1:List BP):Cfg:=⟨328,[.blk 2,.blk 1,.seq 26,.lp 3,.blk 0],[(0,.own 1),(1,SI s288_7),(2,SI s288_8),(3,.clo 193 [0]),(8,SI s328_8),(9,SI s328_9)],[.box 39 (Ty.split tCU c),.row 37 tP r328_1],2,[⟨288,[.seq 16,.blk 1,.lp 6,.blk 0,.seq 19],15,4,[(0,.own 1),(1,SI (l.length:Int)),(2,.clo 193 [0]),(6,SI 20),(8,SI s288_8)],2,none⟩,⟨192,[],0,4,[],2,none⟩,⟨90,[.seq 6],5,2,[(1,.own 1)],0,none⟩]⟩
def gC(c:BCU)(l:List BP)(s288_7 s328_8 s328_9:Int)(r328_1:List BP):Cfg:=⟨328,[.blk 2,.blk 1,.seq 26,.lp 3,.blk 0],[(0,.own 1),(1,SI s288_7),(2,SI (l.length:Int)),(3,.clo 193 [0]),(8,SI s328_8),(9,SI s328_9)],[.box 39 (Ty.split tCU c),.row 37 tP r328_1],2,[⟨288,[.seq 21],20,4,[(0,.own 1),(1,SI (l.length:Int)),(2,.clo 193 [0]),(6,SI 20)],2,none⟩,⟨192,[],0,4,[],2,none⟩,⟨90,[.seq 6],5,2,[(1,.own 1)],0,none⟩]⟩
def jv(c:BCU)(l r328_1:List BP)(s288_6:Int):Cfg:=⟨288,[.blk 2],[(0,.own 1),(1,SI (l.length:Int)),(2,.clo 193 [0]),(6,SI s288_6)],[.box 39 (Ty.split tCU c),.row 37 tP r328_1],2,[⟨192,[],0,4,[],2,none⟩,⟨90,[.seq 6],5,2,[(1,.own 1)],0,none⟩]⟩
def Ds(c:BCU)(l r328_1:List BP)(s288_6:Int):Cfg:=⟨288,[.blk 4,.seq 47,.blk 3,.lp 22,.blk 2],[(0,.own 1),(1,SI (l.length:Int)),(2,.clo 193 [0]),(6,SI s288_6),(7,SI 0),(8,SI (i64.wrap (2*s288_6)))],[.box 39 (Ty.split tCU c),.row 37 tP r328_1],2,[⟨192,[],0,4,[],2,none⟩,⟨90,[.seq 6],5,2,[(1,.own 1)],0,none⟩]⟩
def jA(c:BCU)(r328_1:List BP)(s195_5:Int):Cfg:=⟨195,[.blk 0,.seq 56],[(0,.own 1),(1,.clo 196 []),(5,SI s195_5)],[.box 39 (Ty.split tCU c),.row 37 tP r328_1],2,[⟨90,[.seq 8],7,1,[],0,none⟩]⟩
def d8(c:BCU)(r328_1:List BP)(s195_5 s195_5v s195_7:Int)(r195_1:List BP):Cfg:=⟨195,[.blk 2,.seq 49,.blk 1,.seq 55,.lp 14,.blk 0,.seq 56],[(0,.own 1),(1,.clo 196 []),(5,SI s195_5v),(6,.osl 1 20 ((s195_5:Int).toNat) (((r328_1.length:Int):Int).toNat-(s195_5:Int).toNat)),(7,SI s195_7)],[.box 39 (Ty.split tCU c),.row 37 tP r195_1],2,[⟨90,[.seq 8],7,1,[],0,none⟩]⟩
def Yp(c:BCU)(l:List BP)(k:KT):Option (List RV):=og (decide (l.length≤100000)) (k 6 (qZ c l 0 20 l))
theorem aeF(c:BCU)(l:List BP):RS iK 90 [.d tCU c,.d (.sl tP) l] (Yp c l):=rsX
def th(c:BCU)(l:List BP)(s288_7 s288_8:Int)(r288_1:List BP)(k:KT):Option (List RV):=match decide (s288_8≤(l.length:Int))with|true=>k 3 (ri c l s288_7 s288_8 (i64.wrap (s288_7+1)) r288_1)|false=>k 3 (eM c l s288_7 (i64.wrap (s288_7+1)) r288_1)
theorem BT(c:BCU)(l:List BP)(s288_7 s288_8:Int)(r288_1:List BP):RN iK 6 (qZ c l s288_7 s288_8 r288_1) (th c l s288_7 s288_8 r288_1):=rnX
def iA(c:BCU)(l:List BP)(s288_7 s328_8:Int)(r328_1:List BP)(k:KT):Option (List RV):=match decide (s328_8<(l.length:Int))with|true=>k 15 (gC c l s288_7 s328_8 s328_8 r328_1)|false=>k 22 (jv c l r328_1 20)
theorem kw(c:BCU)(l:List BP)(s288_7 s328_8:Int)(r328_1:List BP):RN iK 3 (eM c l s288_7 s328_8 r328_1) (iA c l s288_7 s328_8 r328_1):=rnX
def R8(c:BCU)(l:List BP)(s288_7 s288_8 s328_8 s328_9:Int)(r328_1:List BP)(k:KT):Option (List RV):=match decide (s328_9>s288_7)with|true=>(match aR r328_1 s328_9 with|some _=>(match true,r328_1[(s328_9).toNat]? with|true,some x1=>(match aR r328_1 (i64.wrap (s328_9-1))with|some _=>(match true,r328_1[(i64.wrap (s328_9-1)).toNat]? with|true,some x2=>(og (decide (okC 4000 c∧okP 4000 x1∧okP 4000 x2)) (match decide ((Bm (dC c) (dec x1) (dec x2))<0)with|true=>(match aR r328_1 (i64.wrap (s328_9-1))with|some _=>(match true,r328_1[(i64.wrap (s328_9-1)).toNat]? with|true,some x3=>(match aR r328_1 s328_9 with|some _=>(match true,r328_1[(s328_9).toNat]? with|true,some x4=>(match aR r328_1 s328_9 with|some _=>(match true,r328_1[(s328_9).toNat]? with|true,some _=>(match aR (r328_1.set ((s328_9).toNat) x3) (i64.wrap (s328_9-1))with|some _=>(match true,(r328_1.set ((s328_9).toNat) x3)[(i64.wrap (s328_9-1)).toNat]? with|true,some _=>k 15 (Dk c l s288_7 s288_8 s328_8 (i64.wrap (s328_9-1)) ((r328_1.set ((s328_9).toNat) x3).set ((i64.wrap (s328_9-1)).toNat) x4))|_,_=>none)|none=>none)|_,_=>none)|none=>none)|_,_=>none)|none=>none)|_,_=>none)|none=>none)|false=>k 3 (ri c l s288_7 s288_8 (i64.wrap (s328_8+1)) r328_1)))|_,_=>none)|none=>none)|_,_=>none)|none=>none)|false=>k 3 (ri c l s288_7 s288_8 (i64.wrap (s328_8+1)) r328_1)
def gP(c:BCU)(l:List BP)(s288_7 s328_8 s328_9:Int)(r328_1:List BP)(k:KT):Option (List RV):=match decide (s328_9>s288_7)with|true=>(match aR r328_1 s328_9 with|some _=>(match true,r328_1[(s328_9).toNat]? with|true,some x1=>(match aR r328_1 (i64.wrap (s328_9-1))with|some _=>(match true,r328_1[(i64.wrap (s328_9-1)).toNat]? with|true,some x2=>(og (decide (okC 4000 c∧okP 4000 x1∧okP 4000 x2)) (match decide ((Bm (dC c) (dec x1) (dec x2))<0)with|true=>(match aR r328_1 (i64.wrap (s328_9-1))with|some _=>(match true,r328_1[(i64.wrap (s328_9-1)).toNat]? with|true,some x3=>(match aR r328_1 s328_9 with|some _=>(match true,r328_1[(s328_9).toNat]? with|true,some x4=>(match aR r328_1 s328_9 with|some _=>(match true,r328_1[(s328_9).toNat]? with|true,some _=>(match aR (r328_1.set ((s328_9).toNat) x3) (i64.wrap (s328_9-1))with|some _=>(match true,(r328_1.set ((s328_9).toNat) x3)[(i64.wrap (s328_9-1)).toNat]? with|true,some _=>k 15 (gC c l s288_7 s328_8 (i64.wrap (s328_9-1)) ((r328_1.set ((s328_9).toNat) x3).set ((i64.wrap (s328_9-1)).toNat) x4))|_,_=>none)|none=>none)|_,_=>none)|none=>none)|_,_=>none)|none=>none)|_,_=>none)|none=>none)|false=>k 3 (eM c l s288_7 (i64.wrap (s328_8+1)) r328_1)))|_,_=>none)|none=>none)|_,_=>none)|none=>none)|false=>k 3 (eM c l s288_7 (i64.wrap (s328_8+1)) r328_1)
theorem jT(c:BCU)(l:List BP)(s288_7 s328_8 s328_9:Int)(r328_1:List BP):RN iK 15 (gC c l s288_7 s328_8 s328_9 r328_1) (gP c l s288_7 s328_8 s328_9 r328_1):=rnX
def ji(c:BCU)(l r328_1:List BP)(s288_6:Int)(k:KT):Option (List RV):=match decide (s288_6<(l.length:Int))with|true=>k 34 (Ds c l r328_1 s288_6)|false=>(match decide ((r328_1.length:Int)<2)with|true=>some [RV.new 37 tP r328_1]|false=>k 14 (jA c r328_1 1))
theorem l9(c:BCU)(l r328_1:List BP)(s288_6:Int):RN iK 22 (jv c l r328_1 s288_6) (ji c l r328_1 s288_6):=rnX
def jc(c:BCU)(r328_1:List BP)(s195_5:Int)(k:KT):Option (List RV):=match decide (s195_5<(r328_1.length:Int))with|true=>(match aR r328_1 s195_5 with|some _=>(match true,r328_1[(s195_5).toNat]? with|true,some x1=>(match aR r328_1 (i64.wrap (s195_5-1))with|some _=>(match true,r328_1[(i64.wrap (s195_5-1)).toNat]? with|true,some x2=>(og (decide (okP 4000 x1∧okP 4000 x2)) (match aV (dec x1) (dec x2)==0 with|true=>(og (decide ((0:Int)≤s195_5∧s195_5≤(r328_1.length:Int)∧(r328_1.length:Int)≤(r328_1.length:Int))) (k 32 (d8 c r328_1 s195_5 s195_5 1 r328_1)))|false=>k 14 (jA c r328_1 (i64.wrap (s195_5+1)))))|_,_=>none)|none=>none)|_,_=>none)|none=>none)|false=>some [RV.new 37 tP r328_1]
theorem lZ(c:BCU)(r328_1:List BP)(s195_5:Int):RN iK 14 (jA c r328_1 s195_5) (jc c r328_1 s195_5):=rnX
def gQ(c:BCU)(r328_1:List BP)(s195_5 s195_5v s195_7:Int)(r195_1:List BP)(k:KT):Option (List RV):=match decide (s195_7<((((r328_1.length:Int):Int).toNat-(s195_5:Int).toNat:Nat):Int))with|true=>(match true,decide ((0:Int)≤s195_7∧s195_7<((((r328_1.length:Int):Int).toNat-(s195_5:Int).toNat:Nat):Int))with|true,true=>(match true,r195_1[(s195_5:Int).toNat+(s195_7).toNat]? with|true,some x1=>(match true,decide ((0:Int)≤i64.wrap (s195_7-1)∧i64.wrap (s195_7-1)<((((r328_1.length:Int):Int).toNat-(s195_5:Int).toNat:Nat):Int))with|true,true=>(match true,r195_1[(s195_5:Int).toNat+(i64.wrap (s195_7-1)).toNat]? with|true,some x2=>(og (decide (okP 4000 x1∧okP 4000 x2)) (match !(aV (dec x1) (dec x2)==0)with|true=>(match true,decide ((0:Int)≤s195_7∧s195_7<((((r328_1.length:Int):Int).toNat-(s195_5:Int).toNat:Nat):Int))with|true,true=>(match true,r195_1[(s195_5:Int).toNat+(s195_7).toNat]? with|true,some x3=>(match aR r195_1 s195_5v with|some _=>(match true,r195_1[(s195_5v).toNat]? with|true,some _=>k 32 (d8 c r328_1 s195_5 (i64.wrap (s195_5v+1)) (i64.wrap (s195_7+1)) (r195_1.set ((s195_5v).toNat) x3))|_,_=>none)|none=>none)|_,_=>none)|_,_=>none)|false=>k 32 (d8 c r328_1 s195_5 s195_5v (i64.wrap (s195_7+1)) r195_1)))|_,_=>none)|_,_=>none)|_,_=>none)|_,_=>none)|false=>(og (decide ((0:Int)≤s195_5v∧s195_5v≤(r195_1.length:Int)∧(r195_1.length:Int)≤(r195_1.length:Int))) (og (decide ((0:Int)≤0∧0≤s195_5v∧s195_5v≤((jw (Ty.zero tP) ((s195_5v:Int).toNat) (((r195_1.length:Int):Int).toNat-(s195_5v:Int).toNat) r195_1).length:Int))) (some [RV.d (.sl tP) (((jw (Ty.zero tP) ((s195_5v:Int).toNat) (((r195_1.length:Int):Int).toNat-(s195_5v:Int).toNat) r195_1).drop ((0:Int).toNat)).take ((s195_5v:Int).toNat-(0:Int).toNat))])))
theorem jP(c:BCU)(r328_1:List BP)(s195_5 s195_5v s195_7:Int)(r195_1:List BP):RN iK 32 (d8 c r328_1 s195_5 s195_5v s195_7 r195_1) (gQ c r328_1 s195_5 s195_5v s195_7 r195_1):=rnX
theorem nS{α:Type}(L:List α)(x:α)(T:List α):(L++x::T)[L.length]?=some x:=by simp
theorem AD{α:Type}(x y:α)(T:List α):∀L:List α,(L++x::T).set L.length y=L++y::T
 |[]=>rfl
 |a::L=>by simp[AD x y T L]
section
variable (c:BCU) (l:List BP)
def afq(ys:List BP)(r:List RV):Prop:=r=[.new 37 tP ys]∨r=[.d (.sl tP) ys]
abbrev qM(i:Nat)(g:Cfg)(ys:List BP):Prop:=∃r,iK.Runs i g r∧afq ys r
end
section
variable (c:BCU) (l:List BP) (hc:okC 4000 c)
include hc
theorem yX(hl:l.length≤19)(i:Nat)(ys:List BP):∀(L:List BP) (a:BP) (R:List BP),(∀x∈L,okP 4000 x)→okP 4000 a→(L.reverse++a::R).length≤19→i≤19→
  qM 3 (eM c l 0 ((i+1:Nat):Int) ((kY (ltP (dC c)) L a).reverse++R)) ys→qM 15 (gC c l 0 (i:Int) (L.length:Int) (L.reverse++a::R)) ys
 |[],a,R,hL,ha,h19,hi,⟨r,⟨n,hn⟩,hr⟩=>by
  refine⟨r,jT _ _ _ _ _ _ ⟨n,?_⟩,hr⟩
  unfold gP
  rw[dF (show ¬((([]:List BP).length:Nat):Int)>0 by simp),bW (by omega)]
  exact hn
 |b::L,a,R,hL,ha,h19,hi,hnext=>by
  have hb:=hL b (by simp)
  have hln:L.length≤18:=by simp at h19;omega
  have hrev:(b::L).reverse++a::R=L.reverse++b::a::R:=by simp
  have e1:((b::L).length:Int)=((L.length+1:Nat):Int):=rfl
  have ew:i64.wrap (((L.length+1:Nat):Int)-1)=(L.length:Int):=by rw[aS (by omega) (by omega)];omega
  have g1:(L.reverse++b::a::R)[L.length+1]?=some a:=by
   simp
  have g0:(L.reverse++b::a::R)[L.length]?=some b:=by
   simp
  have s1:(L.reverse++b::a::R).set (L.length+1) b=L.reverse++b::b::R:=by
   simp
  have s2:(L.reverse++b::b::R).set L.length a=L.reverse++a::b::R:=by
   simp
  have g2:(L.reverse++b::b::R)[L.length]?=some b:=by
   simp
  have key:∀r n,(match ltP (dC c) a b with
    |true=>iK.k n 15 (gC c l 0 (i:Int) (L.length:Int) (L.reverse++a::b::R))
    |false=>iK.k n 3 (eM c l 0 ((i+1:Nat):Int) (L.reverse++b::a::R)))=some r→
    gP c l 0 (i:Int) ((b::L).length:Int) ((b::L).reverse++a::R) (iK.k n)=some r:=fun r n h=>by
   rw[hrev,e1]
   unfold gP
   rw[dT (show((L.length+1:Nat):Int)>0 by omega),ew,ao,g1,ao,g0,show((L.length+1:Nat):Int).toNat=L.length+1 by omega,show((L.length:Nat):Int).toNat=L.length by omega,g1,g0]
   dsimp only
   rw[dT (show okC 4000 c∧okP 4000 a∧okP 4000 b from⟨hc,ha,hb⟩),s1,ao,g2,s2,bW (by omega)]
   dsimp only
   unfold ltP at h
   exact h
  unfold kY at hnext
  cases hlt:ltP (dC c) a b
  ·rw[hlt,cond_false]at hnext
   obtain⟨r,⟨n,hn⟩,hr⟩:=hnext
   refine⟨r,jT _ _ _ _ _ _ ⟨n,key r n ?_⟩,hr⟩
   rw[hlt]
   simpa using hn
  ·rw[hlt,cond_true]at hnext
   obtain⟨r,⟨n,hn⟩,hr⟩:=yX hl i ys L a (b::R) (fun x hx=>hL x (alh _ hx)) ha (by simp at h19 ⊢;omega) hi (by simpa using hnext)
   refine⟨r,jT _ _ _ _ _ _ ⟨n,key r n ?_⟩,hr⟩
   rw[hlt]
   exact hn
theorem zz(hl:l.length≤19)(ys:List BP):∀(R D:List BP),(∀x∈D,okP 4000 x)→(∀x∈R,okP 4000 x)→D.length+R.length=l.length→
  qM 22 (jv c l (R.foldl (kY (ltP (dC c))) D).reverse 20) ys→qM 3 (eM c l 0 (D.length:Int) (D.reverse++R)) ys
 |[],D,hD,hR,hlen,⟨r,⟨n,hn⟩,hr⟩=>by
  refine⟨r,kw _ _ _ _ _ ⟨n,?_⟩,hr⟩
  unfold iA
  rw[cd (by simp at hlen;omega),alB]
  exact hn
 |a::R,D,hD,hR,hlen,hnext=>by
  have ha:=hR a (by simp)
  have hlen':D.length+(R.length+1)=l.length:=hlen
  have h1:=zz hl ys R (kY (ltP (dC c)) D a) (fun x hx=>by
   rcases mY.1 hx with e|e
   ·rw[e];exact ha
   ·exact hD x e) (fun x hx=>hR x (alh _ hx)) (by rw[tB];omega) hnext
  rw[tB]at h1
  obtain⟨r,⟨n,hn⟩,hr⟩:=yX c l hc hl D.length ys D a R hD ha (by simp;omega) (by omega) h1
  refine⟨r,kw _ _ _ _ _ ⟨n,?_⟩,hr⟩
  unfold iA
  rw[bH (by omega)]
  exact hn
omit hc in
theorem uv(r0:List BP)(b:Nat)(h19:r0.length≤19):∀(S K J:List BP) (p:BP),(∀x∈K++(J++p::S),okP 4000 x)→(K++(J++p::S)).length=r0.length→∀k2:Nat,1≤k2→b+k2=K.length+J.length+1→
  qM 32 (d8 c r0 (b:Int) (K.length:Int) (k2:Int) (K++(J++p::S))) (K++jU il p S)
 |[],K,J,p,hok,hlen,k2,h1,hb=>by
  refine⟨_,jP _ _ _ _ _ _ ⟨0,?_⟩,.inr rfl⟩
  have hlen':K.length+(J.length+1)=r0.length:=by simpa using hlen
  unfold gQ
  rw[dF (show ¬(k2:Int)<(((r0.length:Int).toNat-(b:Int).toNat:Nat):Int) by omega)]
  dsimp only
  rw[dT (show(0:Int)≤(K.length:Int)∧(K.length:Int)≤((K++(J++[p])).length:Int)∧((K++(J++[p])).length:Int)≤((K++(J++[p])).length:Int) by rw[hlen];omega)]
  have hcl:((jw (Ty.zero tP) ((K.length:Int).toNat) ((((K++(J++[p])).length:Int)).toNat-(K.length:Int).toNat) (K++(J++[p])))).take K.length=K:=by
   unfold jw
   rw[show((K.length:Int)).toNat=K.length by omega,alu,List.take_append_of_le_length (by simp),aoe,Nat.min_self,List.take_left' rfl]
  have hcn:K.length≤(jw (Ty.zero tP) ((K.length:Int).toNat) ((((K++(J++[p])).length:Int)).toNat-(K.length:Int).toNat) (K++(J++[p]))).length:=by
   have:=congrArg List.length hcl
   rw[alP]at this
   omega
  rw[dT (show(0:Int)≤0∧0≤(K.length:Int)∧(K.length:Int)≤((jw (Ty.zero tP) ((K.length:Int).toNat) ((((K++(J++[p])).length:Int)).toNat-(K.length:Int).toNat) (K++(J++[p]))).length:Int) by omega)]
  rw[show((0:Int)).toNat=0 from rfl,amL,show((K.length:Int)).toNat-0=K.length by omega,hcl]
  simp[jU]
 |q::S,K,J,p,hok,hlen,k2,h1,hb=>by
  have hlen':K.length+(J.length+(S.length+1+1))=r0.length:=by simpa using hlen
  have hq:okP 4000 q:=hok q (by simp)
  have hp:okP 4000 p:=hok p (by simp)
  have g1:(K++(J++p::q::S))[(b:Int).toNat+(k2:Int).toNat]?=some q:=by
   rw[show(b:Int).toNat+(k2:Int).toNat=(K++(J++[p])).length by simp;omega]
   simp
  have ew:i64.wrap ((k2:Int)-1)=((k2-1:Nat):Int):=by rw[aS (by omega) (by omega)];omega
  have g0:(K++(J++p::q::S))[(b:Int).toNat+((k2-1:Nat):Int).toNat]?=some p:=by
   rw[show(b:Int).toNat+((k2-1:Nat):Int).toNat=(K++J).length by simp;omega]
   simp
  have key:∀r n,(match il q p with
    |true=>iK.k n 32 (d8 c r0 (b:Int) (K.length:Int) ((k2+1:Nat):Int) (K++(J++p::q::S)))
    |false=>iK.k n 32 (d8 c r0 (b:Int) ((K.length+1:Nat):Int) ((k2+1:Nat):Int) ((K++(J++p::q::S)).set K.length q)))=some r→
    gQ c r0 (b:Int) (K.length:Int) (k2:Int) (K++(J++p::q::S)) (iK.k n)=some r:=fun r n h=>by
   unfold gQ
   rw[dT (show(k2:Int)<(((r0.length:Int).toNat-(b:Int).toNat:Nat):Int) by omega)]
   dsimp only
   rw[dT (show(0:Int)≤(k2:Int)∧(k2:Int)<(((r0.length:Int).toNat-(b:Int).toNat:Nat):Int) by omega),g1]
   dsimp only
   rw[ew,dT (show(0:Int)≤((k2-1:Nat):Int)∧((k2-1:Nat):Int)<(((r0.length:Int).toNat-(b:Int).toNat:Nat):Int) by omega),g0]
   dsimp only
   rw[dT (show okP 4000 q∧okP 4000 p from⟨hq,hp⟩),bW (k:=k2) (by omega)]
   unfold il at h
   cases he:aV (dec q) (dec p)==0<;>rw[he]at h
   ·try dsimp only[Bool.not_false]
    have g3:∃y,(K++(J++p::q::S))[K.length]?=some y:=⟨_,ak4 (by simp;omega)⟩
    obtain⟨y,g3⟩:=g3
    rw[ao,g3,show((K.length:Int)).toNat=K.length by omega,g3,bW (k:=K.length) (by omega)]
    exact h
   ·exact h
  have hcm:jU il p (q::S)=bif il q p then jU il q S else q::jU il q S:=rfl
  rw[hcm]
  cases he:il q p
  ·have hset:∃J',(K++(J++p::q::S)).set K.length q=(K++[q])++(J'++q::S)∧J'.length=J.length∧∀x∈J',x∈J++[p]:=by
    cases J with
    |nil=>
     refine⟨[],?_,rfl,fun x hx=>by cases hx⟩
     simp
    |cons h T=>
     refine⟨T++[p],?_,by simp,fun x hx=>by simp at hx ⊢;exact .inr hx⟩
     simp
   obtain⟨J',e,eJ,mJ⟩:=hset
   obtain⟨r,⟨n,hn⟩,hr⟩:=uv r0 b h19 S (K++[q]) J' q (fun x hx=>by
    simp only[alO,ali,ame,anu]at hx
    rcases hx with(hx|hx)|(hx|hx|hx)
    ·exact hok x (by simp[hx])
    ·rw[hx];exact hq
    ·have:=mJ x hx
     simp only[alO,ali,ame,anu]at this
     rcases this with h|h
     ·exact hok x (by simp[h])
     ·rw[h];exact hp
    ·rw[hx];exact hq
    ·exact hok x (by simp[hx])) (by simp;omega) (k2+1) (by omega) (by simp;omega)
   refine⟨r,jP _ _ _ _ _ _ ⟨n,key r n ?_⟩,?_⟩
   ·rw[he,e]
    have:(K++[q]).length=K.length+1:=by simp
    rw[this]at hn
    exact hn
   ·simpa using hr
  ·have e2:K++(J++p::q::S)=K++((J++[p])++q::S):=by simp
   obtain⟨r,⟨n,hn⟩,hr⟩:=uv r0 b h19 S K (J++[p]) q (e2▸hok) (e2▸hlen) (k2+1) (by omega) (by simp;omega)
   refine⟨r,jP _ _ _ _ _ _ ⟨n,key r n ?_⟩,hr⟩
   rw[he,e2]
   exact hn
omit hc in
theorem zt:∀(S A:List BP) (p:BP),(∀x∈A++p::S,okP 4000 x)→(A++p::S).length≤19→
  qM 14 (jA c (A++p::S) ((A.length+1:Nat):Int)) (A++p::jU il p S)
 |[],A,p,hok,h19=>by
  refine⟨_,lZ _ _ _ ⟨0,?_⟩,.inl rfl⟩
  unfold jc
  rw[cd (by simp)]
  rfl
 |q::S,A,p,hok,h19=>by
  have hq:okP 4000 q:=hok q (by simp)
  have hp:okP 4000 p:=hok p (by simp)
  have h19':A.length+(S.length+1+1)≤19:=by simpa using h19
  have g1:(A++p::q::S)[A.length+1]?=some q:=by
   simp
  have g0:(A++p::q::S)[A.length]?=some p:=nS A p (q::S)
  have ew:i64.wrap (((A.length+1:Nat):Int)-1)=(A.length:Int):=by rw[aS (by omega) (by omega)];omega
  have key:∀r n,(match il q p with
    |true=>iK.k n 32 (d8 c (A++p::q::S) ((A.length+1:Nat):Int) ((A.length+1:Nat):Int) 1 (A++p::q::S))
    |false=>iK.k n 14 (jA c (A++p::q::S) ((A.length+1+1:Nat):Int)))=some r→
    jc c (A++p::q::S) ((A.length+1:Nat):Int) (iK.k n)=some r:=fun r n h=>by
   unfold jc
   rw[bH (by simp only[alC,alj];omega),ao,g1,show((A.length+1:Nat):Int).toNat=A.length+1 by omega,g1]
   dsimp only
   rw[ew,ao,g0,show((A.length:Nat):Int).toNat=A.length by omega,g0]
   dsimp only
   rw[dT (show okP 4000 q∧okP 4000 p from⟨hq,hp⟩),bW (k:=A.length+1) (by omega),dT (show(0:Int)≤((A.length+1:Nat):Int)∧((A.length+1:Nat):Int)≤((A++p::q::S).length:Int)∧((A++p::q::S).length:Int)≤((A++p::q::S).length:Int) by simp;omega)]
   exact h
  have hcm:jU il p (q::S)=bif il q p then jU il q S else q::jU il q S:=rfl
  have e2:A++p::q::S=(A++[p])++q::S:=by simp
  rw[hcm]
  cases he:il q p
  ·obtain⟨r,⟨n,hn⟩,hr⟩:=zt S (A++[p]) q (e2▸hok) (e2▸h19)
   refine⟨r,lZ _ _ _ ⟨n,key r n ?_⟩,?_⟩
   ·rw[he,e2]
    have:(A++[p]).length=A.length+1:=by simp
    rw[this]at hn
    exact hn
   ·rw[alu]at hr
    exact hr
  ·obtain⟨r,⟨n,hn⟩,hr⟩:=uv c (A++p::q::S) (A.length+1) h19 S (A++[p]) [] q (e2▸hok) (by rw[e2];rfl) 1 (ak9 _) (by simp)
   refine⟨r,lZ _ _ _ ⟨n,key r n ?_⟩,?_⟩
   ·rw[he,e2]
    have:(A++[p]).length=A.length+1:=by simp
    rw[this,e2]at hn
    exact hn
   ·rw[alu]at hr
    exact hr
theorem UD(hl:l.length≤19)(ho:∀x∈l,okP 4000 x):qM 6 (qZ c l 0 20 l) (dg (dC c) l):=by
 have hlast:∀r:List BP,(∀x∈r,okP 4000 x)→r.length≤19→qM 22 (jv c l r 20) (vp il r):=fun r hr h19=>by
  cases r with
  |nil=>
   refine⟨_,l9 _ _ _ _ ⟨0,?_⟩,.inl rfl⟩
   unfold ji
   rw[dF (show ¬(20:Int)<(l.length:Int) by omega)]
   rfl
  |cons p S=>
   cases S with
   |nil=>
    refine⟨_,l9 _ _ _ _ ⟨0,?_⟩,.inl rfl⟩
    unfold ji
    rw[dF (show ¬(20:Int)<(l.length:Int) by omega)]
    rfl
   |cons q S=>
    obtain⟨r',⟨n,hn⟩,hr'⟩:=zt c (q::S) [] p hr h19
    refine⟨r',l9 _ _ _ _ ⟨n,?_⟩,hr'⟩
    unfold ji
    rw[dF (show ¬(20:Int)<(l.length:Int) by omega)]
    dsimp only
    rw[dF (show ¬((p::q::S).length:Int)<2 by simp;omega)]
    simpa using hn
 have hsort:qM 22 (jv c l (sI (ltP (dC c)) l) 20) (dg (dC c) l):=hlast _ (fun x hx=>ho x (oY.1 hx)) (by rw[Da];exact hl)
 have h3:qM 3 (eM c l 0 1 l) (dg (dC c) l):=by
  cases l with
  |nil=>
   obtain⟨r,⟨n,hn⟩,hr⟩:=hsort
   refine⟨r,kw _ _ _ _ _ ⟨n,?_⟩,hr⟩
   unfold iA
   rw[dF (show ¬(1:Int)<(([]:List BP).length:Int) by simp)]
   exact hn
  |cons x l=>
   have:=zz c (x::l) hc hl _ l [x] (fun y hy=>ho y (by simp at hy;simp[hy])) (fun y hy=>ho y (alh _ hy)) (by simp;omega) hsort
   simpa using this
 obtain⟨r,⟨n,hn⟩,hr⟩:=h3
 refine⟨r,BT _ _ _ _ _ ⟨n,?_⟩,hr⟩
 unfold th
 rw[dF (show ¬(20:Int)≤(l.length:Int) by omega),aS (x:=0+1) (by omega) (by omega)]
 exact hn
end
def R6:Cn 90 [tCU,(.sl tP)]:=cn fun(c:BCU) (l:List BP)=>lf (k9 c l) [.d (.sl tP) (dg (dC c) l)] fun h=>by
 obtain⟨hc,hl,ho⟩:=h
 obtain⟨r,⟨n,hn⟩,hr⟩:=UD c l hc hl ho
 have hres:iK.Res 90 [.d tCU c,.d (.sl tP) l] r:=by
  refine aeF _ _ ⟨n,?_⟩
  unfold Yp
  rw[dT (show l.length≤100000 by omega)]
  exact hn
 rcases hr with e|e
 ·rw[e]at hres
  exact Con.new_d (et:=37) (c7 GU hres)
 ·rw[e]at hres
  exact c7 GU hres
end
end Go.Proofs.YtnkndpoojnflmaaGreat
end
