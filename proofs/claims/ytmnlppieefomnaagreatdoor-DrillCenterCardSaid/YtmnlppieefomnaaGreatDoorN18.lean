/- Monotone arcs. -/
import Derived.Test.YtmnlppieefomnaaGreatDoorN17
import Derived.Test.YtmnlppieefomnaaGreatDoorN15
noncomputable section
namespace Go.Proofs.YtmnlppieefomnaaGreatDoor
open Go.RowKit Go.IntKind
section
open RE
def oc(w:Bool)(k i l j m n:Nat):Int:=bif w then lz dI (ufA k,i) (ufA l,j) (ufA m,n)else lz cI (upA k,i) (upA l,j) (upA m,n)
def hk(w:Bool)(k:Nat):Bool:=bif w then k !=3 else k !=1
theorem acs:∀(w:Bool) (kF kP kT:Fin 4) (iF iP iT:Fin 3),(DE kF.1 iF.1 kP.1 iP.1 kT.1 iT.1&&(hk w kF.1&&(hk w kT.1&&(decide (iF.1<iT.1)&&(decide (oc w kF.1 iF.1 kF.1 iF.1 kP.1 iP.1<=0)&&decide (oc w kF.1 iF.1 kP.1 iP.1 kT.1 iT.1<=0))))))=true->(hk w kP.1&&(decide (iF.1<=iP.1)&&decide (iP.1<=iT.1)))=true:=by decide+kernel
theorem acw:∀(w:Bool) (kF kA kB:Fin 4) (iF iA iB:Fin 3),(DE kF.1 iF.1 kA.1 iA.1 kB.1 iB.1&&(hk w kF.1&&(hk w kA.1&&(hk w kB.1&&(decide (iF.1<=iA.1)&&(decide (iF.1<=iB.1)&&decide (oc w kF.1 iF.1 kA.1 iA.1 kB.1 iB.1<0)))))))=true->decide (iA.1<iB.1)=true:=by decide+kernel
def vZ(k i l j:Nat):Bool:=zk k i l j&&zk l j k i
def inF(w:Bool)(ka ia kb ib k i:Nat):Bool:=decide (oc w ka ia ka ia k i<=0)&&(decide (oc w ka ia k i kb ib<=0)&&(!(ka==k&&ia==i)&&!(kb==k&&ib==i)))
theorem ac2:∀(w:Bool) (ka kb:Fin 4) (ia ib il ir:Fin 4),(vZ ka.1 ia.1 kb.1 ib.1&&(vZ ka.1 ia.1 2 il.1&&(vZ ka.1 ia.1 0 ir.1&&(vZ kb.1 ib.1 2 il.1&&(vZ kb.1 ib.1 0 ir.1&&(vZ 2 il.1 0 ir.1&&(!(ka.1==kb.1&&ia.1==ib.1)&&(!inF w ka.1 ia.1 kb.1 ib.1 2 il.1&&!inF w ka.1 ia.1 kb.1 ib.1 0 ir.1))))))))=true->
  (hk w ka.1&&(hk w kb.1&&decide (ia.1<ib.1))||hk (!w) ka.1&&(hk (!w) kb.1&&decide (ib.1<ia.1)))=true:=by decide+kernel
def kc(c:Cv)(p:Pt):Nat:=cls (pX p-of (ciC c).1) (pY p-of (ciC c).2.1)
def rx(L:List RE)(p:Pt):Nat:=rk (λa b:RE=>a<b) L (pX p)
theorem vD(c:Cv)(p:Pt):kc c p<4:=Ba _ _
section
variable {c:Cv} {L:List RE} {x y:Pt}
theorem qN(mx:pX x∈L)(my:pX y∈L):pX x<pX y↔rx L x<rx L y:=qB lt_lin mx my
theorem gn(q:0<(ciC c).2.2)(hx:onCi (ciC c) x)(hy:onCi (ciC c) y)(mx:pX x∈L)(my:pX y∈L):vZ (kc c x) (rx L x) (kc c y) (rx L y)=true:=by
 unfold vZ kc rx;have hq:0<of (ciC c).2.2:=kS q;rw[lQ hq hx hy mx my,lQ hq hy hx my mx];rfl
theorem sG(ha:c.1=true)(q:0<(ciC c).2.2)(rF:Rpd (frC c))[Rpd x][Rpd y](hF:onCi (ciC c) (frC c))(hx:onCi (ciC c) x)(hy:onCi (ciC c) y)(mF:pX (frC c)∈L)(mx:pX x∈L)(my:pX y∈L):bY c x y=oc (cwC c) (kc c (frC c)) (rx L (frC c)) (kc c x) (rx L x) (kc c y) (rx L y):=by
 unfold bY oc kc rx;rw[ha,cond_true];cases cwC c
 ·rw[cond_false,cond_false];unfold ptd;rw[ng,ng,ng,fB (kW mx mF) (kW my mF) (kW mx my)]
 ·rw[cond_true,cond_true];unfold ptd;rw[vI q hF,vI q hx,vI q hy,fB (nZ mx mF) (nZ my mF) (nZ mx my)]
end
theorem Sm{k i l j m n:Nat}(h1:vZ k i l j=true)(h2:vZ k i m n=true)(h3:vZ l j m n=true):DE k i l j m n=true:=by
 unfold vZ at*
 simp only[aml]at*
 unfold DE;simp[h1,h2,h3]
def hfC(c:Cv)(p:Pt):Bool:=hk (cwC c) (kc c p)
def gM(c:BCU):Prop:=gdN c/\aB (frC (dC c)) (toC (dC c))<0/\(c.1=true->hfC (dC c) (frC (dC c))=true/\hfC (dC c) (toC (dC c))=true)
theorem J0{u v:RE}:(cls u v≠3->0<=v)/\(cls u v≠1->v<=0):=by
 unfold cls;rcases c8 v with⟨h,e⟩|⟨h,e⟩|⟨h,e⟩<;>rw[e]
 ·exact⟨λ_=>le_of_lt h,λg=>absurd rfl g⟩
 ·rw[h];exact⟨λ_=>le_refl _,λ_=>le_refl _⟩
 ·exact⟨λg=>absurd rfl g,λ_=>le_of_lt h⟩
theorem Iq{c:Cv}{w:Bool}{p q:Pt}(hp:onCi (ciC c) p)(hq:onCi (ciC c) q)(h1:hk w (kc c p)=true)(h2:hk w (kc c q)=true)(e:pX p=pX q):pR p=pR q:=by
 refine C2 hp hq e ?_;unfold hk kc at*
 cases w
 ·exact .inr ⟨J0.2 (aoc.1 h1),J0.2 (aoc.1 h2)⟩
 ·exact .inl ⟨J0.1 (aoc.1 h1),J0.1 (aoc.1 h2)⟩
theorem HH{c:Cv}{w:Bool}{p q:Pt}[Rpd p][Rpd q](hp:onCi (ciC c) p)(hq:onCi (ciC c) q)(h1:hk w (kc c p)=true)(h2:hk w (kc c q)=true):aB p q<0↔pX p<pX q:=by
 rw[gT,jb gv fh];constructor
 ·rintro (h|⟨h,h'⟩)
  ·exact h
  ·have:=congrArg Prod.snd (Iq hp hq h1 h2 h);have:pY p=pY q:=this;have h':pY p<pY q:=h';rw[this]at h';exact absurd h' (lt_irrefl _)
 ·exact .inl
section
variable {c:BCU} (h:gM c) (ha:c.1=true)
include h ha
theorem gM.hx:pX (frC (dC c))<pX (toC (dC c)):=by
 have k:=fR h.1.gd;have:=k.f.1;have:=k.t.1;exact(HH (fd (c:=dC c) ha k.f) (fd (c:=dC c) ha k.t) (h.2.2 ha).1 (h.2.2 ha).2).1 h.2.1
theorem vg{p:Pt}(hp:Rpd p)(ho:onR (dC c) p=true):hfC (dC c) p=true/\¬pX p<pX (frC (dC c))/\¬pX (toC (dC c))<pX p:=by
 have k:=fR h.1.gd;have a':(dC c).1=true:=ha;have q:=k.q a';have hx:=h.hx ha;obtain⟨f1,f2⟩:=h.2.2 ha;unfold onR at ho;simp only[aml]at ho;obtain⟨hs,o1,o2⟩:=ho;have i1:=k.t.1;have cF:=fd a' k.f;have cT:=fd a' k.t;have cP:=fd a' (⟨hp,hs⟩:Sp (dC c) p);have mF:pX (frC (dC c))∈[pX (frC (dC c)),pX p,pX (toC (dC c))]:=by simp
 have mP:pX p∈[pX (frC (dC c)),pX p,pX (toC (dC c))]:=by simp
 have mT:pX (toC (dC c))∈[pX (frC (dC c)),pX p,pX (toC (dC c))]:=by simp
 generalize hL:[pX (frC (dC c)),pX p,pX (toC (dC c))]=L at*
 have hn:L.length=3:=by rw[<-hL];rfl
 have i2:=k.f.1;rw[sG a' q k.f.1 cF cF cP mF mF mP]at o1;rw[sG a' q k.f.1 cF cP cT mF mP mT]at o2;rw[qN mF mT]at hx;rw[qN mP mF,qN mT mP];have b:∀{z:Pt},pX z∈L->rx L z<3:=λhz=>hn▸qE lt_lin hz
 have:=acs (cwC (dC c)) ⟨_,vD (dC c) (frC (dC c))⟩ ⟨_,vD (dC c) p⟩ ⟨_,vD (dC c) (toC (dC c))⟩ ⟨_,b mF⟩ ⟨_,b mP⟩ ⟨_,b mT⟩ (by
  unfold hfC at f1 f2;simp only[aml];exact⟨Sm (gn q cF cP mF mP) (gn q cF cT mF mT) (gn q cP cT mP mT),f1,f2,amh hx,o1,o2⟩)
 simp only[aml,aoB]at this;exact⟨this.1,by omega,by omega⟩
theorem ac5{a b:Pt}(ra:Rpd a)(rb:Rpd b)(oa:onR (dC c) a=true)(ob:onR (dC c) b=true)(hab:bY (dC c) a b<0):pX a<pX b:=by
 have k:=fR h.1.gd;have a':(dC c).1=true:=ha;have q:=k.q a';obtain⟨f1,f2⟩:=h.2.2 ha;obtain⟨a1,a2,a3⟩:=vg h ha ra oa;obtain⟨b1,b2,b3⟩:=vg h ha rb ob;have sa:du (dC c) a=true:=(amA.1 oa).1;have sb:du (dC c) b=true:=(amA.1 ob).1;have cF:=fd a' k.f;have cA:=fd a' (⟨ra,sa⟩:Sp (dC c) a);have cB:=fd a' (⟨rb,sb⟩:Sp (dC c) b);have mF:pX (frC (dC c))∈[pX (frC (dC c)),pX a,pX b]:=by simp
 have mA:pX a∈[pX (frC (dC c)),pX a,pX b]:=by simp
 have mB:pX b∈[pX (frC (dC c)),pX a,pX b]:=by simp
 generalize hL:[pX (frC (dC c)),pX a,pX b]=L at*
 have hn:L.length=3:=by rw[<-hL];rfl
 rw[sG a' q k.f.1 cF cA cB mF mA mB]at hab;rw[qN mA mF]at a2;rw[qN mB mF]at b2;rw[qN mA mB];have b:∀{z:Pt},pX z∈L->rx L z<3:=λhz=>hn▸qE lt_lin hz
 have:=acw (cwC (dC c)) ⟨_,vD (dC c) (frC (dC c))⟩ ⟨_,vD (dC c) a⟩ ⟨_,vD (dC c) _⟩ ⟨_,b mF⟩ ⟨_,b mA⟩ ⟨_,b mB⟩ (by
  unfold hfC at f1 a1 b1;simp only[aml,aoB];exact⟨Sm (gn q cF cA mF mA) (gn q cF cB mF mB) (gn q cA cB mA mB),f1,a1,b1,by omega,by omega,hab⟩)
 exact amj this
end
theorem VZ{c:BCU}(h:gM c){a b:Pt}(ra:Rpd a)(rb:Rpd b)(oa:onR (dC c) a=true)(ob:onR (dC c) b=true)(hab:bY (dC c) a b<0):aB a b<0:=by
 cases ha:c.1
 ·unfold bY at hab;have a':(dC c).1=false:=ha;have:=h.2.1;rw[a',cond_false,dF (show ¬aB (frC (dC c)) (toC (dC c))>0 by omega)]at hab;exact hab
 ·have k:=fR h.1.gd;have sa:du (dC c) a=true:=(amA.1 oa).1;have sb:du (dC c) b=true:=(amA.1 ob).1;exact(HH (fd (c:=dC c) ha ⟨ra,sa⟩) (fd (c:=dC c) ha ⟨rb,sb⟩) (vg h ha ra oa).1 (vg h ha rb ob).1).2 (ac5 h ha ra rb oa ob hab)
theorem vc{c:BCU}(h:gdN c){l:List BP}(ho:∀p∈l,okP 580 p/\onR (dC c) (dec p)=true):∀x∈pJ c l,Rpd (dec x)/\onR (dC c) (dec x)=true:=λx hx=>by
 refine⟨(Fh h ho x hx).2.1,?_⟩;rcases C6 hx with e|e|e
 ·rw[e];exact(FS h).1
 ·rw[e];exact(FS h).2
 ·exact(ho x e).2
theorem T5{c:BCU}(h:gM c){l:List BP}(ho:∀p∈l,okP 580 p/\onR (dC c) (dec p)=true):∀p∈j7 c l,gM p:=λp hp=>by
 obtain⟨x,y,hx,hy,hr,e⟩:=Bc (Bw h.1 ho) hp;obtain⟨rx,ox⟩:=vc h.1 ho x hx;obtain⟨ry,oy⟩:=vc h.1 ho y hy;refine⟨JG h.1 ho p hp,?_,λha=>?_⟩
 ·rw[e];exact VZ h rx ry ox oy hr
 ·rw[e]at ha ⊢;have ha:c.1=true:=ha;exact⟨(vg h ha rx ox).1,(vg h ha ry oy).1⟩
theorem EK{c:BCU}{R:BP->BP->Prop}{p:BCU}:∀{s:List BP},(∀{x y},x∈s->y∈s->R x y->¬R y x)->s.Pairwise R->p∈vK c s->∃x y,x∈s/\y∈s/\R x y/\p=zv c x y/\∀z∈s,¬(R x z/\R z y)
 |[],_,_,h=>by cases h
 |[_],_,_,h=>by cases h
 |x::y::r,irr,hp,h=>by
  obtain⟨p1,p2⟩:=anl.1 hp;obtain⟨p3,_⟩:=anl.1 p2;simp only[vK]at h;rcases amy.1 h with h|h
  ·refine⟨x,y,by simp,by simp,p1 y (by simp),h,λz hz g=>?_⟩;rcases amy.1 hz with e|e
   ·rw[e]at g;exact irr (by simp) (by simp) g.1 g.1
   ·rcases amy.1 e with e|e
    ·rw[e]at g;exact irr (by simp) (by simp) g.2 g.2
    ·exact irr (by simp[e]) (by simp) g.2 (p3 z e)
  ·obtain⟨a,b,h1,h2,h3,h4,h5⟩:=EK (λhx hy=>irr (amv _ hx) (amv _ hy)) p2 h;refine⟨a,b,amv _ h1,amv _ h2,h3,h4,λz hz g=>?_⟩;rcases amy.1 hz with e|e
   ·rw[e]at g;exact irr (amv _ h1) (by simp) g.1 (p1 a h1)
   ·exact h5 z e g
theorem Jl{c:BCU}(h:gdN c){l:List BP}(ho:∀p∈l,okP 580 p/\onR (dC c) (dec p)=true){z:BP}(hz:Rpd (dec z))(hl:jI (dC c) (dec z)=true->z∈l):∀p∈j7 c l,jI (dC p) (dec z)=false:=λp hp=>by
 have k:=fR h.gd;have o:=rN k;have sp:∀{x:BP},x∈pJ c l->Sp (dC c) (dec x):=λhx=>⟨(vc h ho _ hx).1,(amA.1 (vc h ho _ hx).2).1⟩
 obtain⟨a,b,ma,mb,hab,e,hc⟩:=EK (R:=λa b=>bY (dC c) (dec a) (dec b)<0) (λ{x y} hx hy g g'=>by
  have:=o.asy (sp hx) (sp hy) g;omega) (Bw h ho) hp
 have sa:=sp ma;have sb:=sp mb;have oa:=(vc h ho a ma).2;have ob:=(vc h ho b mb).2;cases hi:jI (dC p) (dec z)
 ·rfl
 exfalso;unfold jI at hi;rw[e]at hi;simp only[aml,an1]at hi;obtain⟨i1,i2,i3⟩:=hi;have i2:aB (dec a) (dec z)≠0:=amT.1 i2;have i3:aB (dec b) (dec z)≠0:=amT.1 i3;obtain⟨hs,j1,j2⟩:=(adV k sa sb hab hz).1 i1;have sz:Sp (dC c) (dec z):=⟨hz,hs⟩
 have az:bY (dC c) (dec a) (dec z)<0:=by
  rcases o.tri sa sz with g|g|g
  ·exact g
  ·exact absurd g i2
  ·exact absurd g j1
 have zb:bY (dC c) (dec z) (dec b)<0:=by
  rcases o.tri sz sb with g|g|g
  ·exact g
  ·have:=hz;have:=sb.1;exact absurd (SD g) i3
  ·exact absurd g j2
 obtain⟨_,a1,_⟩:=(xX k sa.1).1 oa;obtain⟨_,_,b1⟩:=(xX k sb.1).1 ob
 have hin:jI (dC c) (dec z)=true:=by
  unfold jI;rw[(xX k hz).2 ⟨hs,λg=>a1 (o.tr sa sz k.f az g),λg=>b1 (o.tr k.t sz sb g zb)⟩,amT.2 (λg=>a1 (by rw[(oP k k.f sz sa g).2];exact az)),amT.2 (λg=>b1 (by rw[(oP k k.t sz sb g).1];exact zb))];rfl
 obtain⟨y,hy,ey⟩:=OS (c:=dC c) (l:=[c.2.2.2.2.1,c.2.2.2.2.2]++l) hz (an8 _ (hl hin));obtain⟨y1,_⟩:=oP k (sp hy) sz sb ey;obtain⟨_,y2⟩:=oP k (sp hy) sz sa ey;exact hc y hy ⟨by rw[y2];exact az,by rw[y1];exact zb⟩
theorem akm{L:List RE}{x y:Pt}(mx:pX x∈L)(my:pX y∈L)(h:rx L x=rx L y):pX x=pX y:=by
 rcases ov (pX x) (pX y)with g|g|g
 ·rw[qN mx my]at g;omega
 ·exact g
 ·rw[qN my mx]at g;omega
theorem agh(a r:RE)(h1:0<r):a+ -1*r-a<0:=by grind
theorem aka(a r:RE)(h1:0<r):0<a+1*r-a:=by grind
theorem X5(a r:RE):a+0*r-a=0:=by grind
theorem aeH{c:Cv}(h:0<(ciC c).2.2):kc c (cd (ciC c))=2/\kc c (bZ (ciC c))=0/\onCi (ciC c) (cd (ciC c))/\onCi (ciC c) (bZ (ciC c)):=by
 have r:=Wp h;have o:=LM h;have el:pR (cd (ciC c))=_:=lZ _ _ _ _ _;have er:pR (bZ (ciC c))=_:=lZ _ _ _ _ _;have l1:pX (cd (ciC c))=of (ciC c).1+of (-1)*rq (ciC c).2.2:=congrArg Prod.fst el;have l2:pY (cd (ciC c))=of (ciC c).2.1+of 0*rq (ciC c).2.2:=congrArg Prod.snd el;have r1:pX (bZ (ciC c))=of (ciC c).1+of 1*rq (ciC c).2.2:=congrArg Prod.fst er;have r2:pY (bZ (ciC c))=of (ciC c).2.1+of 0*rq (ciC c).2.2:=congrArg Prod.snd er;refine⟨?_,?_,o.1,o.2⟩
 ·unfold kc;rw[l1,l2];exact Ii.2 ⟨X5 _ _,λg=>lt_irrefl _ (eK g (agh _ _ r))⟩
 ·unfold kc;rw[r1,r2];exact HU.2 ⟨X5 _ _,aka _ _ r⟩
theorem Na{e:BCU}(h:gdN e)(hi:e.1=true->jI (dC e) (cd (ciC (dC e)))=false/\jI (dC e) (bZ (ciC (dC e)))=false):bif decide (aB (frC (dC e)) (toC (dC e))>0)then gM (iM e)else gM e:=by
 have k:=fR h.gd;have rF:=k.f.1;have rT:=k.t.1;have hne:=h.2.2.2;cases ha:e.1
 ·cases hd:decide (aB (frC (dC e)) (toC (dC e))>0)
  ·have:=am7 hd;exact⟨h,by omega,λg=>by rw[ha]at g;cases g⟩
  ·have:=amj hd;refine⟨Bp h,?_,λg=>by have g:e.1=true:=g;rw[ha]at g;cases g⟩;show aB (toC (dC e)) (frC (dC e))<0;rw[kj];omega
 ·have a':(dC e).1=true:=ha;have q:=k.q a';obtain⟨hl,hr⟩:=hi ha;obtain⟨kl,kr,cL,cR⟩:=aeH (c:=dC e) q;have q0:0<=(ciC (dC e)).2.2:=by grind
  have rL:Rpd (cd (ciC (dC e))):=mo (λe=>absurd e.1 (by decide)) q0;have rR:Rpd (bZ (ciC (dC e))):=mo (λe=>absurd e.1 (by decide)) q0;generalize cd (ciC (dC e))=zl at*
  generalize bZ (ciC (dC e))=zr at*
  have cF:=fd a' k.f;have cT:=fd a' k.t;have mF:pX (frC (dC e))∈[pX (frC (dC e)),pX (toC (dC e)),pX zl,pX zr]:=by simp
  have mT:pX (toC (dC e))∈[pX (frC (dC e)),pX (toC (dC e)),pX zl,pX zr]:=by simp
  have mL:pX zl∈[pX (frC (dC e)),pX (toC (dC e)),pX zl,pX zr]:=by simp
  have mR:pX zr∈[pX (frC (dC e)),pX (toC (dC e)),pX zl,pX zr]:=by simp
  generalize hL:[pX (frC (dC e)),pX (toC (dC e)),pX zl,pX zr]=L at*
  have hn:L.length=4:=by rw[<-hL];rfl
  have b:∀{z:Pt},pX z∈L->rx L z<4:=λhz=>hn▸qE lt_lin hz
  have ni:∀{z:Pt},Rpd z->onCi (ciC (dC e)) z->pX z∈L->jI (dC e) z=false->inF (cwC (dC e)) (kc (dC e) (frC (dC e))) (rx L (frC (dC e))) (kc (dC e) (toC (dC e))) (rx L (toC (dC e))) (kc (dC e) z) (rx L z)=false:=λ{z} rz cz mz hz=>by
   cases g:inF (cwC (dC e)) (kc (dC e) (frC (dC e))) (rx L (frC (dC e))) (kc (dC e) (toC (dC e))) (rx L (toC (dC e))) (kc (dC e) z) (rx L z)
   ·rfl
   unfold inF at g;simp only[aml,an1]at g;obtain⟨g1,g2,g3,g4⟩:=g;rw[<-sG a' q rF cF cF cz mF mF mz]at g1;rw[<-sG a' q rF cF cz cT mF mz mT]at g2
   have ne:∀{y:Pt},Rpd y->(kc (dC e) y==kc (dC e) z&&rx L y==rx L z)=false->(aB y z==0)=false:=λ{y} ry hy=>by
    refine amT.2 λg=>?_;have g:=cmpP_0.1 g;have g1:pX y=pX z:=congrArg Prod.fst g;have g2:pY y=pY z:=congrArg Prod.snd g;unfold kc rx at hy;rw[g1,g2]at hy;simp at hy
   have hs:du (dC e) z=true:=eH.2 (by rw[a',cond_true];exact cz);unfold jI onR at hz;rw[hs,g1,g2,ne rF g3,ne rT g4]at hz;cases hz
  have hab:(kc (dC e) (frC (dC e))==kc (dC e) (toC (dC e))&&rx L (frC (dC e))==rx L (toC (dC e)))=false:=by
   cases g:(kc (dC e) (frC (dC e))==kc (dC e) (toC (dC e))&&rx L (frC (dC e))==rx L (toC (dC e)))
   ·rfl
   obtain⟨g1,g2⟩:=amA.1 g;have g1:=amW.1 g1;have g2:=akm mF mT (amW.1 g2);refine absurd (cmpP_0.2 ?_) hne
   have:∃w,hk w (kc (dC e) (frC (dC e)))=true:=by
    unfold hk;by_cases g:kc (dC e) (frC (dC e))=3
    ·exact⟨false,by rw[g];rfl⟩
    ·exact⟨true,aoc.2 g⟩
   obtain⟨w,hw⟩:=this;exact Iq cF cT hw (by rw[<-g1];exact hw) g2
  have nl:=ni rL cL mL hl;have nr:=ni rR cR mR hr;have c1:=gn q cF cT mF mT;have c2:=gn q cF cL mF mL;have c3:=gn q cF cR mF mR;have c4:=gn q cT cL mT mL;have c5:=gn q cT cR mT mR;have c6:=gn q cL cR mL mR;rw[kl]at nl c2 c4 c6;rw[kr]at nr c3 c5 c6;have:=ac2 (cwC (dC e)) ⟨_,vD (dC e) (frC (dC e))⟩ ⟨_,vD (dC e) (toC (dC e))⟩ ⟨_,b mF⟩ ⟨_,b mT⟩ ⟨_,b mL⟩ ⟨_,b mR⟩ (by simp only[c1,c2,c3,c4,c5,c6,hab,nl,nr];rfl);simp only[aok,aml,aoB]at this;rcases this with⟨g1,g2,g3⟩|⟨g1,g2,g3⟩
  ·rw[<-qN mF mT,<-HH cF cT g1 g2]at g3;rw[dF (by omega),cond_false];exact⟨h,g3,λ_=>⟨g1,g2⟩⟩
  ·rw[<-qN mT mF,<-HH cT cF g2 g1]at g3;have:=kj (p:=toC (dC e)) (q:=frC (dC e));rw[dT (by omega),cond_true];refine⟨Bp h,g3,λ_=>?_⟩;have ew:cwC (dC (iM e))=!cwC (dC e):=by show(e.1&&_)=_;rw[ha];rfl
   unfold hfC;rw[ew];exact⟨g2,g1⟩
theorem kZ{x:BO3}(h:bi x):gdN (loN x)/\gdN (hiN x)/\aB (cd (dec x)) (bZ (dec x))= -1/\(∀c,c=loN x\/c=hiN x->jI (dC c) (cd (dec x))=false/\jI (dC c) (bZ (dec x))=false):=by
 obtain⟨l,rfl,bl,h0⟩:=b8 h;have g:=Bo (c:=l) h0;have e1:vT (enc l)=[loN (enc l),hiN (enc l)]:=rfl;have q0:0<=l.2.2:=by grind
 have rL:Rpd (cd l):=mo (λe=>absurd e.1 (by decide)) q0;have rR:Rpd (bZ l):=mo (λe=>absurd e.1 (by decide)) q0;have zL:(aB (cd l) (cd l)==0)=true:=amW.2 (cmpP_0.2 rfl);have zR:(aB (bZ l) (bZ l)==0)=true:=amW.2 (cmpP_0.2 rfl);refine⟨g _ (by rw[e1];simp),g _ (by rw[e1];simp),by rw[au];exact LI h0,λc hc=>?_⟩;rw[au];have f1:frC (dC (loN (enc l)))=cd l/\toC (dC (loN (enc l)))=bZ l:=⟨by show dec (enc (cd (dec (enc l))))=_;rw[au,au],by show dec (enc (bZ (dec (enc l))))=_;rw[au,au]⟩
 have f2:frC (dC (hiN (enc l)))=bZ l/\toC (dC (hiN (enc l)))=cd l:=⟨by show dec (enc (bZ (dec (enc l))))=_;rw[au,au],by show dec (enc (cd (dec (enc l))))=_;rw[au,au]⟩
 unfold jI;rcases hc with e|e<;>rw[e]
 ·rw[f1.1,f1.2,zL,zR];simp
 ·rw[f2.1,f2.2,zL,zR];simp
end
section
open RE
def yp(c:BCU):Prop:=∃x,bi x/\(c=loN x\/c=hiN x)
instance (c:BCU):Decidable (yp c):=Classical.propDecidable _
def eh(c:BCU):BCU:=bif decide (aB (dec c.2.2.2.2.1) (dec c.2.2.2.2.2)>0)then iM c else c
theorem Wn{c:BCU}(h:gdN c):j7 c []=[c]:=by
 unfold j7 pJ gu;simp only[List.cons_append,an4,an6,List.foldl_nil,fb];rw[dT (show bY (dC c) (dec c.2.2.2.2.1) (dec c.2.2.2.2.2)<0 from JE h)];rfl
def gP(e:BCU):Prop:=gdN e/\(e.1=true->jI (dC e) (cd (ciC (dC e)))=false/\jI (dC e) (bZ (ciC (dC e)))=false)
theorem Ei(c:BCU):∀s:List BP,(vK c s).length<=s.length
 |[]=>amm _
 |[_]=>aoE _
 |x::y::r=>by
  have:=Ei c (y::r);simp only[vK,amD]at*
  omega
theorem SK(c:BCU)(l:List BP):(j7 c l).length<=l.length+2:=amt (Ei _ _) (IT _ _)
def Sc:List En:=[enL Qb,enT ahw,enK Q3,enT r8,enL Jr,enL Sy]
def ac3:NT:=[((78,32),{keep:=[3,7,8],own:=[(7,75,tCU)],pure_:=[(3,tCU)],hl:=8,pd:=7,er:=[0,1,2,3,4,5,6]}),((78,53),{keep:=[3,7,8,9,10],pure_:=[(3,tCU)],hl:=9,er:=[0,1,2,3,4,5,6]})]
def kL:Ctx:=CX (ens Sc) ac3
def fK(s3:List BCU)(s8:Int)(r7:List BCU):Cfg:=⟨78,[.blk 0,.seq 64],[(3,.d (.sl tCU) s3),(7,.own 7),(8,SI s8)],[.gone,.gone,.gone,.gone,.gone,.gone,.gone,.row 75 tCU r7],0,[]⟩
def jV(s3:List BCU)(s8:Int)(r7:List BCU)(B8:BCU)(s10:Int):Cfg:=⟨78,[.blk 2,.seq 62,.blk 1,.seq 63,.lp 32,.blk 0,.seq 64],[(3,.d (.sl tCU) s3),(7,.own 7),(8,SI s8),(9,.box 8 0),(10,SI s10)],[.gone,.gone,.gone,.gone,.gone,.gone,.gone,.row 75 tCU r7,.box 75 (Ty.split tCU B8)],0,[]⟩
def AD(c:BCU)(k:KT):OLR:=match c.1 with|true=>(og (decide (bi c.2.2.1)) (og (decide (okC 3500 c/\okP 3500 (hid (enc (cd (dec c.2.2.1)))))) (match jI (dC c) (dec (hid (enc (cd (dec c.2.2.1)))))with|true=>(og (decide (([hid (enc (cd (dec c.2.2.1)))]:List BP).length*320<=140737488355328/\([hid (enc (cd (dec c.2.2.1)))]:List BP).length<=140737488355328)) (og (decide (okC 3500 c/\okP 3500 (hid (enc (bZ (dec c.2.2.1)))))) (match jI (dC c) (dec (hid (enc (bZ (dec c.2.2.1)))))with|true=>(og (decide ((([hid (enc (cd (dec c.2.2.1)))]).length+([hid (enc (bZ (dec c.2.2.1)))]).length)*320<=140737488355328/\([hid (enc (cd (dec c.2.2.1)))]).length+([hid (enc (bZ (dec c.2.2.1)))]).length<=140737488355328)) (og (decide (sF c (([hid (enc (cd (dec c.2.2.1)))])++([hid (enc (bZ (dec c.2.2.1)))])))) (k 32 (fK (j7 c (([hid (enc (cd (dec c.2.2.1)))])++([hid (enc (bZ (dec c.2.2.1)))]))) 0 ([])))))|false=>(og (decide (sF c ([hid (enc (cd (dec c.2.2.1)))]))) (k 32 (fK (j7 c ([hid (enc (cd (dec c.2.2.1)))])) 0 ([])))))))|false=>(og (decide (okC 3500 c/\okP 3500 (hid (enc (bZ (dec c.2.2.1)))))) (match jI (dC c) (dec (hid (enc (bZ (dec c.2.2.1)))))with|true=>(og (decide (([hid (enc (bZ (dec c.2.2.1)))]:List BP).length*320<=140737488355328/\([hid (enc (bZ (dec c.2.2.1)))]:List BP).length<=140737488355328)) (og (decide (sF c ([hid (enc (bZ (dec c.2.2.1)))]))) (k 32 (fK (j7 c ([hid (enc (bZ (dec c.2.2.1)))])) 0 ([])))))|false=>(og (decide (sF c ([]))) (k 32 (fK (j7 c ([])) 0 ([])))))))))|false=>k 32 (fK ([c]) 0 ([]))
theorem akq(c:BCU):RS kL 78 [.d tCU c] (AD c):=rsX
def mw(s3:List BCU)(s8:Int)(r7:List BCU)(k:KT):OLR:=match decide (s8<(s3.length:Int))with|true=>(match aH s3 s8 with|some x1=>(og (decide (okP 4000 x1.2.2.2.2.1/\okP 4000 x1.2.2.2.2.2)) (match decide ((aB (dec x1.2.2.2.2.1) (dec x1.2.2.2.2.2))>0)with|true=>k 53 (jV s3 s8 r7 (hid (iM x1)) 0)|false=>k 53 (jV s3 s8 r7 x1 0)))|none=>none)|false=>some [RV.new 75 tCU r7]
theorem mu(s3:List BCU)(s8:Int)(r7:List BCU):RN kL 32 (fK s3 s8 r7) (mw s3 s8 r7):=rnX
def ms(s3:List BCU)(s8:Int)(r7:List BCU)(B8:BCU)(s10:Int)(k:KT):OLR:=match decide (s10<(r7.length:Int))with|true=>(match aH r7 s10 with|some _=>(match true,r7[(s10).toNat]? with|true,some x1=>(og (decide (KK x1 B8)) (match decide ((F4 x1 B8)<=0)with|true=>k 53 (jV s3 s8 r7 B8 (i64.wrap (s10+1)))|false=>(og (decide ((0:Int)<=0/\0<=s10/\s10<=(r7.length:Int))) (og (decide ((0:Int)<=s10/\s10<=(r7.length:Int)/\(r7.length:Int)<=(r7.length:Int))) (og (decide ((([B8]).length+((r7.drop ((s10:Int).toNat)).take (((r7.length:Int):Int).toNat-(s10:Int).toNat)).length)*1040<=140737488355328/\([B8]).length+((r7.drop ((s10:Int).toNat)).take (((r7.length:Int):Int).toNat-(s10:Int).toNat)).length<=140737488355328)) (og (decide (((s10:Int).toNat-(0:Int).toNat)<=r7.length/\((r7.take ((s10:Int).toNat-(0:Int).toNat)).length+(([B8])++((r7.drop ((s10:Int).toNat)).take (((r7.length:Int):Int).toNat-(s10:Int).toNat))).length)*1040<=140737488355328/\(r7.take ((s10:Int).toNat-(0:Int).toNat)).length+(([B8])++((r7.drop ((s10:Int).toNat)).take (((r7.length:Int):Int).toNat-(s10:Int).toNat))).length<=140737488355328)) (k 32 (fK s3 (i64.wrap (s8+1)) ((r7.take ((s10:Int).toNat-(0:Int).toNat))++(([B8])++((r7.drop ((s10:Int).toNat)).take (((r7.length:Int):Int).toNat-(s10:Int).toNat))))))))))))|_,_=>none)|none=>none)|false=>(og (decide ((0:Int)<=0/\0<=s10/\s10<=(r7.length:Int))) (og (decide ((0:Int)<=s10/\s10<=(r7.length:Int)/\(r7.length:Int)<=(r7.length:Int))) (og (decide ((([B8]).length+((r7.drop ((s10:Int).toNat)).take (((r7.length:Int):Int).toNat-(s10:Int).toNat)).length)*1040<=140737488355328/\([B8]).length+((r7.drop ((s10:Int).toNat)).take (((r7.length:Int):Int).toNat-(s10:Int).toNat)).length<=140737488355328)) (og (decide (((s10:Int).toNat-(0:Int).toNat)<=r7.length/\((r7.take ((s10:Int).toNat-(0:Int).toNat)).length+(([B8])++((r7.drop ((s10:Int).toNat)).take (((r7.length:Int):Int).toNat-(s10:Int).toNat))).length)*1040<=140737488355328/\(r7.take ((s10:Int).toNat-(0:Int).toNat)).length+(([B8])++((r7.drop ((s10:Int).toNat)).take (((r7.length:Int):Int).toNat-(s10:Int).toNat))).length<=140737488355328)) (k 32 (fK s3 (i64.wrap (s8+1)) ((r7.take ((s10:Int).toNat-(0:Int).toNat))++(([B8])++((r7.drop ((s10:Int).toNat)).take (((r7.length:Int):Int).toNat-(s10:Int).toNat))))))))))
theorem qc(s3:List BCU)(s8:Int)(r7:List BCU)(B8:BCU)(s10:Int):RN kL 53 (jV s3 s8 r7 B8 s10) (ms s3 s8 r7 B8 s10):=rnX
def PO(c:BCU):Prop:=∃v:(List BCU),(λl:List BCU=>(l.length<=4/\∀e∈l,gM e)/\(yp c->l=[eh c])) v/\CQq7 78 [.d tCU c] [.d (.sl tCU) v]
instance (c:BCU):Decidable (PO c):=Classical.propDecidable _
def GY(c:BCU):(List BCU):=Classical.epsilon λv=>(λl:List BCU=>(l.length<=4/\∀e∈l,gM e)/\(yp c->l=[eh c])) v/\CQq7 78 [.d tCU c] [.d (.sl tCU) v]
theorem Jh{c:BCU}(h:PO c):(λl:List BCU=>(l.length<=4/\∀e∈l,gM e)/\(yp c->l=[eh c])) (GY c):=(amq h).1
def X9:Cn 78 [tCU]:=cn λ(c:BCU)=>lf (PO c) [.d (.sl tCU) (GY c)] λh=>(amq h).2
theorem L5{r:List BCU}{B:BCU}{k:Nat}(_hk:k<=r.length):(r.take ((k:Int).toNat-(0:Int).toNat))++([B]++((r.drop ((k:Int).toNat)).take (((r.length:Int):Int).toNat-(k:Int).toNat)))=r.take k++B::r.drop k:=by
 rw[show((k:Int)).toNat=k by omega,show((0:Int)).toNat=0 from rfl,apu,anj (l:=r.drop k) (by simp)];rfl
theorem IY{r:List BCU}{B:BCU}{k:Nat}{p:BCU->Prop}(hr:∀e∈r,p e)(hB:p B):∀e∈r.take k++B::r.drop k,p e:=λe he=>by
 rcases amG.1 he with h|h
 ·exact hr e (anv h)
 ·rcases amy.1 h with h|h
  ·rw[h];exact hB
  ·exact hr e (anS h)
theorem aeU{s3 r7:List BCU}{B:BCU}{i:Nat}(hi:i<=9)(hr:∀e∈r7,gM e)(hB:gM B)(hl:r7.length<=9){Q:List BCU->Prop}(next:∀r',(∀e∈r',gM e)->r'.length=r7.length+1->∃v,Q v/\kL.Runs 32 (fK s3 ((i+1:Nat):Int) r') [.new 75 tCU v]):∀(j k:Nat),k+j=r7.length->∃v,Q v/\kL.Runs 53 (jV s3 (i:Int) r7 B (k:Int)) [.new 75 tCU v]:=by
 intro j;induction j with
 |zero=>
  intro k hk;obtain⟨v,hv,n,hn⟩:=next _ (IY (k:=k) hr hB) (by simp;omega);refine⟨v,hv,qc _ _ _ _ _ ⟨n,?_⟩⟩;unfold ms;rw[aX (by omega),dT (show(0:Int)<=0/\0<=(k:Int)/\(k:Int)<=(r7.length:Int) by omega),dT (show(0:Int)<=(k:Int)/\(k:Int)<=(r7.length:Int)/\(r7.length:Int)<=(r7.length:Int) by omega),dT (by simp;omega),dT (by simp;omega),aT (k:=i) (by omega),L5 (by omega)];exact hn
 |succ j ih=>
  intro k hk;have hkl:k<r7.length:=by omega
  have hx:=hr _ (ams hkl);have g:r7[((k:Int)).toNat]?=some r7[k]:=by rw[show((k:Int)).toNat=k by omega,amg hkl]
  cases h1:decide (F4 r7[k] B<=0)
  ·obtain⟨v,hv,n,hn⟩:=next _ (IY (k:=k) hr hB) (by simp;omega);refine⟨v,hv,qc _ _ _ _ _ ⟨n,?_⟩⟩;unfold ms;rw[aK hkl,ai,amg hkl,g];dsimp only;rw[dT (yV (qM hx.1) (qM hB.1)),h1,dT (show(0:Int)<=0/\0<=(k:Int)/\(k:Int)<=(r7.length:Int) by omega),dT (show(0:Int)<=(k:Int)/\(k:Int)<=(r7.length:Int)/\(r7.length:Int)<=(r7.length:Int) by omega),dT (by simp;omega),dT (by simp;omega),aT (k:=i) (by omega),L5 (by omega)];exact hn
  ·obtain⟨v,hv,n,hn⟩:=ih (k+1) (by omega);refine⟨v,hv,qc _ _ _ _ _ ⟨n,?_⟩⟩;unfold ms;rw[aK hkl,ai,amg hkl,g];dsimp only;rw[dT (yV (qM hx.1) (qM hB.1)),h1,aT (by omega)];exact hn
theorem Jx{s3:List BCU}(hs:∀e∈s3,gP e)(h4:s3.length<=4):∀(j i:Nat),i+j=s3.length->∀r7,(∀e∈r7,gM e)->r7.length=i->∃v,(v.length<=4/\∀e∈v,gM e)/\kL.Runs 32 (fK s3 (i:Int) r7) [.new 75 tCU v]:=by
 intro j;induction j with
 |zero=>
  intro i hi r7 hr hl;refine⟨r7,⟨by omega,hr⟩,mu _ _ _ ⟨0,?_⟩⟩;unfold mw;rw[aX (by omega)]
 |succ j ih=>
  intro i hi r7 hr hl;have hil:i<s3.length:=by omega
  have hx:=hs _ (ams hil);have k1:okP 4000 s3[i].2.2.2.2.1/\okP 4000 s3[i].2.2.2.2.2:=⟨aV hx.1.1.1.2.2.1 (by decide) (by decide),aV hx.1.1.1.2.2.2 (by decide) (by decide)⟩
  have hm:=Na hx.1 hx.2;have hm:bif decide (aB (dec s3[i].2.2.2.2.1) (dec s3[i].2.2.2.2.2)>0)then gM (iM s3[i])else gM s3[i]:=hm;have go:∀B,gM B->∃v,(v.length<=4/\∀e∈v,gM e)/\kL.Runs 53 (jV s3 (i:Int) r7 B 0) [.new 75 tCU v]:=λB hB=>aeU (i:=i) (by omega) hr hB (by omega) (λr' h1 h2=>ih (i+1) (by omega) r' h1 (by omega)) r7.length 0 (by omega);cases h1:decide (aB (dec s3[i].2.2.2.2.1) (dec s3[i].2.2.2.2.2)>0)
  ·rw[h1,cond_false]at hm;obtain⟨v,hv,n,hn⟩:=go _ hm;refine⟨v,hv,mu _ _ _ ⟨n,?_⟩⟩;unfold mw;rw[aK hil,ai,amg hil];dsimp only;rw[dT k1,h1];exact hn
  ·rw[h1,cond_true]at hm;obtain⟨v,hv,n,hn⟩:=go _ hm;refine⟨v,hv,mu _ _ _ ⟨n,?_⟩⟩;unfold mw;rw[aK hil,ai,amg hil];dsimp only;rw[dT k1,h1,aQ];exact hn
theorem VL{c B:BCU}(h:gdN c)(hB:eh c=B):kL.Runs 32 (fK [c] 0 []) [.new 75 tCU [B]]:=by
 have k1:okP 4000 c.2.2.2.2.1/\okP 4000 c.2.2.2.2.2:=⟨aV h.1.1.2.2.1 (by decide) (by decide),aV h.1.1.2.2.2 (by decide) (by decide)⟩
 have r1:kL.Runs 32 (fK [c] 1 [B]) [.new 75 tCU [B]]:=mu _ _ _ ⟨0,rfl⟩
 have r2:kL.Runs 53 (jV [c] 0 [] B 0) [.new 75 tCU [B]]:=by
  obtain⟨n,hn⟩:=r1;refine qc _ _ _ _ _ ⟨n,?_⟩;unfold ms;rw[dF (show ¬(0:Int)<(([]:List BCU).length:Int) by decide)];dsimp only;rw[dT (show(0:Int)<=0/\(0:Int)<=0/\(0:Int)<=(([]:List BCU).length:Int) by decide),dT (show(0:Int)<=0/\(0:Int)<=(([]:List BCU).length:Int)/\(([]:List BCU).length:Int)<=(([]:List BCU).length:Int) by decide),dT (by simp),dT (by simp)];exact hn
 obtain⟨n,hn⟩:=r2;refine mu _ _ _ ⟨n,?_⟩;unfold mw;show og (decide (okP 4000 c.2.2.2.2.1/\okP 4000 c.2.2.2.2.2)) (match decide (aB (dec c.2.2.2.2.1) (dec c.2.2.2.2.2)>0)with|true=>kL.k n 53 (jV [c] 0 [] (hid (iM c)) 0)|false=>kL.k n 53 (jV [c] 0 [] c 0))=_;unfold eh at hB;rw[dT k1,aQ];cases hd:decide (aB (dec c.2.2.2.2.1) (dec c.2.2.2.2.2)>0)<;>rw[hd]at hB
 ·rw[cond_false]at hB;subst hB;exact hn
 ·rw[cond_true]at hB;subst hB;exact hn
theorem Gl{c:BCU}(h:gdN c):PO c:=by
 suffices gX:∃v:(List BCU),(λl:List BCU=>(l.length<=4/\∀e∈l,gM e)/\(yp c->l=[eh c])) v/\∃n,AD c (kL.k n)=some [.new 75 tCU v] from gX.elim λv h=>⟨v,h.1,Con.new_d (a8 Sc (akq c h.2))⟩
 by_cases hS:yp c
 ·obtain⟨x,hx,hc⟩:=hS;have ha:c.1=true:=by rcases hc with e|e<;>rw[e]<;>rfl
  have ex:c.2.2.1=x:=by rcases hc with e|e<;>rw[e]<;>rfl
  obtain⟨g1,g2,g3,g4⟩:=kZ hx;obtain⟨i1,i2⟩:=g4 c hc
  have hm:=Na h (λ_=>by
   have e:ciC (dC c)=dec x:=by rw[<-ex];rfl
   rw[e];exact⟨i1,i2⟩)
  have hg:gM (eh c):=by
   unfold eh;have hm:bif decide (aB (dec c.2.2.2.2.1) (dec c.2.2.2.2.2)>0)then gM (iM c)else gM c:=hm;cases hd:decide (aB (dec c.2.2.2.2.1) (dec c.2.2.2.2.2)>0)<;>rw[hd]at hm<;>exact hm
  obtain⟨n,hn⟩:=VL h rfl;refine⟨[eh c],⟨⟨by simp,λe he=>by rw[amQ.1 he];exact hg⟩,λ_=>rfl⟩,n,?_⟩;have h35:okC 3500 c:=bh h.1.1 (by decide) (by decide);have o:=(gdN.gd g1).1;have oL:okP 3500 (enc (cd (dec x))):=aV o.2.2.1 (by decide) (by decide);have oR:okP 3500 (enc (bZ (dec x))):=aV o.2.2.2 (by decide) (by decide);have s:=Wn h;unfold AD;simp only[aQ,ha,ex,dT hx,au,i1,i2,dT (show okC 3500 c/\okP 3500 (enc (cd (dec x))) from⟨h35,oL⟩),dT (show okC 3500 c/\okP 3500 (enc (bZ (dec x))) from⟨h35,oR⟩),s,dT (show sF c [] from⟨h35,by simp,λp hp=>by cases hp⟩)];exact hn
 suffices gX:∃v:List BCU,(v.length<=4/\∀e∈v,gM e)/\∃n,AD c (kL.k n)=some [.new 75 tCU v] from gX.elim λv h=>⟨v,⟨h.1,λg=>absurd g hS⟩,h.2⟩
 have go:∀l:List BP,l.length<=2->(∀p∈l,okP 580 p/\onR (dC c) (dec p)=true)->(∀e∈j7 c l,gP e)->sF c l/\∃v,(v.length<=4/\∀e∈v,gM e)/\kL.Runs 32 (fK (j7 c l) 0 []) [.new 75 tCU v]:=λl hl ho hP=>by
  have:=SK c l;exact⟨⟨bh h.1.1 (by decide) (by decide),by omega,λx hx=>⟨aV (ho x hx).1 (by decide) (by decide),(ho x hx).2⟩⟩,Jx hP (by omega) _ 0 (amx _) [] (λe he=>by cases he) rfl⟩
 cases ha:c.1
 ·obtain⟨v,hv,n,hn⟩:=Jx (s3:=[c]) (λe he=>by rw[amQ.1 he];exact⟨h,λg=>by rw[ha]at g;cases g⟩) (by simp) 1 0 rfl [] (λe he=>by cases he) rfl;refine⟨v,hv,n,?_⟩;unfold AD;rw[ha];exact hn
 ·have hc:=h.1.2.1 ha;have h35:okC 3500 c:=bh h.1.1 (by decide) (by decide);obtain⟨x,ex,bx,x0⟩:=b8 hc;have g:=Bo (c:=x) x0;have gl:=g (true,o00,enc x,false,enc (cd x),enc (bZ x)) (by unfold vT;rw[au];simp);have oL:okP 580 (enc (cd (dec c.2.2.1))):=by rw[ex,au];exact gl.1.1.2.2.1
  have oR:okP 580 (enc (bZ (dec c.2.2.1))):=by rw[ex,au];exact gl.1.1.2.2.2
  unfold AD;simp only[aQ,ha,dT hc];generalize hp:enc (cd (dec c.2.2.1))=p at*
  generalize hq:enc (bZ (dec c.2.2.1))=q at*
  have gp:∀l,(∀z∈l,okP 580 z/\onR (dC c) (dec z)=true)->(jI (dC c) (dec p)=true->p∈l)->(jI (dC c) (dec q)=true->q∈l)->∀e∈j7 c l,gP e:=λl ho g1 g2 e he=>⟨JG h ho e he,λ_=>by
   obtain⟨_,_,_,_,_,ee⟩:=Bc (Bw h ho) he;have ec:ciC (dC e)=dec c.2.2.1:=by rw[ee];rfl
   rw[ec,<-au (cd (dec c.2.2.1)),<-au (bZ (dec c.2.2.1)),hp,hq];exact⟨Jl h ho (co oL) g1 e he,Jl h ho (co oR) g2 e he⟩⟩
  have p35:=aV (k:=3500) oL (by decide) (by decide);have q35:=aV (k:=3500) oR (by decide) (by decide);have on_:∀{z:BP},jI (dC c) (dec z)=true->onR (dC c) (dec z)=true:=λh=>(amA.1 h).1;cases i1:jI (dC c) (dec p)<;>cases i2:jI (dC c) (dec q)
  ·obtain⟨s,v,hv,n,hn⟩:=go [] (by simp) (λz hz=>by cases hz) (gp _ (λz hz=>by cases hz) (λg=>by rw[i1]at g;cases g) λg=>by rw[i2]at g;cases g);refine⟨v,hv,n,?_⟩;simp only[dT (show okC 3500 c/\okP 3500 p from⟨h35,p35⟩),dT (show okC 3500 c/\okP 3500 q from⟨h35,q35⟩),dT s];exact hn
  ·have ho:∀z∈[q],okP 580 z/\onR (dC c) (dec z)=true:=λz hz=>by rw[amQ.1 hz];exact⟨oR,on_ i2⟩
   obtain⟨s,v,hv,n,hn⟩:=go [q] (by simp) ho (gp _ ho (λg=>by rw[i1]at g;cases g) λ_=>by simp);refine⟨v,hv,n,?_⟩;simp only[dT (show okC 3500 c/\okP 3500 p from⟨h35,p35⟩),dT (show okC 3500 c/\okP 3500 q from⟨h35,q35⟩),dT s];exact hn
  ·have ho:∀z∈[p],okP 580 z/\onR (dC c) (dec z)=true:=λz hz=>by rw[amQ.1 hz];exact⟨oL,on_ i1⟩
   obtain⟨s,v,hv,n,hn⟩:=go [p] (by simp) ho (gp _ ho (λ_=>by simp) λg=>by rw[i2]at g;cases g);refine⟨v,hv,n,?_⟩;simp only[dT (show okC 3500 c/\okP 3500 p from⟨h35,p35⟩),dT (show okC 3500 c/\okP 3500 q from⟨h35,q35⟩),dT s];exact hn
  ·have ho:∀z∈[p,q],okP 580 z/\onR (dC c) (dec z)=true:=λz hz=>by
    simp only[amy,anW,apb]at hz;rcases hz with e|e<;>rw[e]
    ·exact⟨oL,on_ i1⟩
    ·exact⟨oR,on_ i2⟩
   obtain⟨s,v,hv,n,hn⟩:=go [p,q] (by simp) ho (gp _ ho (λ_=>by simp) λ_=>by simp);refine⟨v,hv,n,?_⟩;simp only[dT (show okC 3500 c/\okP 3500 p from⟨h35,p35⟩),dT (show okC 3500 c/\okP 3500 q from⟨h35,q35⟩),List.cons_append,an4,dT s,amF,Nat.reduceAdd,Nat.reduceMul,Nat.reduceLeDiff,and_self,decide_true];exact hn
end
section
open RE
def PP:List En:=[enL X9,enL aap,enK Q3]
def abR:NT:=[((42,8),{keep:=[0,3,4],own:=[(3,75,tCU)],hl:=1}),((42,25),{keep:=[3,5,6],own:=[(5,75,tCU)],hl:=2,pd:=1}),((42,40),{keep:=[3,5,6,7,8],own:=[(7,73,tP)],hl:=3,pd:=2})]
def t5:Ctx:=CX (ens PP) abR
def BM(l:List BCU)(s4:Int)(r0:List BCU):Cfg:=⟨42,[.blk 0,.seq 19],[(0,.d (.sl tCU) l),(3,.own 0),(4,SI s4)],[.row 75 tCU r0],0,[]⟩
def tH(r0:List BCU)(s6:Int)(r1:List BCU):Cfg:=⟨42,[.blk 2,.seq 61],[(3,.own 0),(5,.own 1),(6,SI s6)],[.row 75 tCU r0,.row 75 tCU r1],0,[]⟩
def se(r0:List BCU)(s6:Int)(r1:List BCU)(s8:Int)(r2:List BP):Cfg:=⟨42,[.blk 4,.seq 57,.blk 3,.seq 60,.lp 25,.blk 2,.seq 61],[(3,.own 0),(5,.own 1),(6,SI s6),(7,.own 2),(8,SI s8)],[.row 75 tCU r0,.row 75 tCU r1,.row 73 tP r2],0,[]⟩
def Y4(l:List BCU)(k:KT):OLR:=k 8 (BM l 0 ([]))
theorem ahg(l:List BCU):RS t5 42 [.d (.sl tCU) l] (Y4 l):=rsX
def yj(l:List BCU)(s4:Int)(r0:List BCU)(k:KT):OLR:=match decide (s4<(l.length:Int))with|true=>(match aH l s4 with|some x1=>(og (decide (PO x1)) (og (decide ((r0.length+(GY x1).length)*1040<=140737488355328/\r0.length+(GY x1).length<=140737488355328)) (k 8 (BM l (i64.wrap (s4+1)) (r0++(GY x1))))))|none=>none)|false=>k 25 (tH r0 0 ([]))
theorem Dh(l:List BCU)(s4:Int)(r0:List BCU):RN t5 8 (BM l s4 r0) (yj l s4 r0):=rnX
def uG(r0:List BCU)(s6:Int)(r1:List BCU)(k:KT):OLR:=match decide (s6<(r0.length:Int))with|true=>k 40 (se r0 s6 r1 0 ([]))|false=>some [RV.new 75 tCU r1]
theorem zT(r0:List BCU)(s6:Int)(r1:List BCU):RN t5 25 (tH r0 s6 r1) (uG r0 s6 r1):=rnX
def qd(r0:List BCU)(s6:Int)(r1:List BCU)(s8:Int)(r2:List BP)(k:KT):OLR:=match decide (s8<(r0.length:Int))with|true=>(match s8 !=s6 with|true=>(match aH r0 s6 with|some _=>(match true,r0[(s6).toNat]? with|true,some x1=>(match aH r0 s8 with|some _=>(match true,r0[(s8).toNat]? with|true,some x2=>(og (decide (fU x1 x2)) (og (decide ((r2.length+(mp x1 x2).length)*320<=140737488355328/\r2.length+(mp x1 x2).length<=140737488355328)) (k 40 (se r0 s6 r1 (i64.wrap (s8+1)) (r2++(mp x1 x2))))))|_,_=>none)|none=>none)|_,_=>none)|none=>none)|false=>k 40 (se r0 s6 r1 (i64.wrap (s8+1)) r2))|false=>(match aH r0 s6 with|some _=>(match true,r0[(s6).toNat]? with|true,some x1=>(og (decide (sF x1 r2)) (og (decide ((r1.length+(j7 x1 r2).length)*1040<=140737488355328/\r1.length+(j7 x1 r2).length<=140737488355328)) (k 25 (tH r0 (i64.wrap (s6+1)) (r1++(j7 x1 r2))))))|_,_=>none)|none=>none)
theorem u9(r0:List BCU)(s6:Int)(r1:List BCU)(s8:Int)(r2:List BP):RN t5 40 (se r0 s6 r1 s8 r2) (qd r0 s6 r1 s8 r2):=rnX
def RW(l:List BCU):Prop:=∃v:(List BCU),(λv:List BCU=>v.length<=10000/\∀e∈v,gM e) v/\CQq7 42 [.d (.sl tCU) l] [.d (.sl tCU) v]
instance (l:List BCU):Decidable (RW l):=Classical.propDecidable _
def Be(l:List BCU):(List BCU):=Classical.epsilon λv=>(λv:List BCU=>v.length<=10000/\∀e∈v,gM e) v/\CQq7 42 [.d (.sl tCU) l] [.d (.sl tCU) v]
theorem VW{l:List BCU}(h:RW l):(λv:List BCU=>v.length<=10000/\∀e∈v,gM e) (Be l):=(amq h).1
def ahH:Cn 42 [(.sl tCU)]:=cn λ(l:List BCU)=>lf (RW l) [.d (.sl tCU) (Be l)] λh=>(amq h).2
theorem abp{r0 r1:List BCU}{i:Nat}(h0:∀e∈r0,gM e)(hl:r0.length<=48)(hi:i<r0.length)(h1:∀e∈r1,gM e)(l1:r1.length<=200*i){Q:List BCU->Prop}(next:∀r',(∀e∈r',gM e)->r'.length<=200*(i+1)->∃v,Q v/\t5.Runs 25 (tH r0 ((i+1:Nat):Int) r') [.new 75 tCU v]):∀(j k:Nat),k+j=r0.length->∀r2:List BP,(∀p∈r2,okP 580 p/\onR (dC r0[i]) (dec p)=true)->r2.length<=4*k->∃v,Q v/\t5.Runs 40 (se r0 (i:Int) r1 (k:Int) r2) [.new 75 tCU v]:=by
 have hx:=h0 _ (ams hi);have gx:r0[((i:Int)).toNat]?=some r0[i]:=by rw[show((i:Int)).toNat=i by omega,amg hi]
 intro j;induction j with
 |zero=>
  intro k hk r2 h2 l2;have hs:=T5 hx h2;have hn:=SK r0[i] r2;obtain⟨v,hv,n,hn⟩:=next (r1++j7 r0[i] r2) (λe he=>(amG.1 he).elim (h1 e) (hs e)) (by simp;omega);refine⟨v,hv,u9 _ _ _ _ _ ⟨n,?_⟩⟩;unfold qd;rw[aX (by omega),ai,amg hi,gx];dsimp only;rw[dT (show sF r0[i] r2 from⟨bh hx.1.1.1 (by decide) (by decide),by omega,λp hp=>⟨aV (h2 p hp).1 (by decide) (by decide),(h2 p hp).2⟩⟩),dT (by omega),aT (by omega)];exact hn
 |succ j ih=>
  intro k hk r2 h2 l2;have hkl:k<r0.length:=by omega
  have hy:=h0 _ (ams hkl);have gy:r0[((k:Int)).toNat]?=some r0[k]:=by rw[show((k:Int)).toNat=k by omega,amg hkl]
  have hm:fU r0[i] r0[k]:=⟨hx.1.1,hy.1.1⟩
  obtain⟨m1,m2⟩:=HT hm;by_cases hik:(k:Int)=(i:Int)
  ·obtain⟨v,hv,n,hn⟩:=ih (k+1) (by omega) r2 h2 (by omega);refine⟨v,hv,u9 _ _ _ _ _ ⟨n,?_⟩⟩;unfold qd;rw[aK hkl,show((k:Int) !=(i:Int))=false by rw[hik];exact aoC _,aT (by omega)];exact hn
  ·obtain⟨v,hv,n,hn⟩:=ih (k+1) (by omega) (r2++mp r0[i] r0[k]) (λp hp=>(amG.1 hp).elim (h2 p) λh=>⟨(m2 p h).1,(m2 p h).2.1⟩) (by simp;omega);refine⟨v,hv,u9 _ _ _ _ _ ⟨n,?_⟩⟩;unfold qd;rw[aK hkl,aoc.2 hik,ai,amg hi,gx,ai,amg hkl,gy];dsimp only;rw[dT hm,dT (by omega),aT (by omega)];exact hn
theorem adz{r0:List BCU}(h0:∀e∈r0,gM e)(hl:r0.length<=48):∀(j i:Nat),i+j=r0.length->∀r1,(∀e∈r1,gM e)->r1.length<=200*i->∃v,(v.length<=10000/\∀e∈v,gM e)/\t5.Runs 25 (tH r0 (i:Int) r1) [.new 75 tCU v]:=by
 intro j;induction j with
 |zero=>
  intro i hi r1 h1 l1;refine⟨r1,⟨by omega,h1⟩,zT _ _ _ ⟨0,?_⟩⟩;unfold uG;rw[aX (by omega)]
 |succ j ih=>
  intro i hi r1 h1 l1;have hil:i<r0.length:=by omega
  obtain⟨v,hv,n,hn⟩:=abp h0 hl hil h1 l1 (λr' a b=>ih (i+1) (by omega) r' a b) r0.length 0 (amx _) [] (λp hp=>by cases hp) (by simp);refine⟨v,hv,zT _ _ _ ⟨n,?_⟩⟩;unfold uG;rw[aK hil];exact hn
theorem ahF{l:List BCU}(h:∀e∈l,gdN e)(hl:l.length<=12):∀(j i:Nat),i+j=l.length->∀r0,(∀e∈r0,gM e)->r0.length<=4*i->∃v,(v.length<=10000/\∀e∈v,gM e)/\t5.Runs 8 (BM l (i:Int) r0) [.new 75 tCU v]:=by
 intro j;induction j with
 |zero=>
  intro i hi r0 h0 l0;obtain⟨v,hv,n,hn⟩:=adz h0 (by omega) r0.length 0 (amx _) [] (λe he=>by cases he) (by simp);refine⟨v,hv,Dh _ _ _ ⟨n,?_⟩⟩;unfold yj;rw[aX (by omega)];exact hn
 |succ j ih=>
  intro i hi r0 h0 l0;have hil:i<l.length:=by omega
  have hx:=h _ (ams hil);obtain⟨⟨m1,m2⟩,_⟩:=Jh (Gl hx);obtain⟨v,hv,n,hn⟩:=ih (i+1) (by omega) (r0++GY l[i]) (λe he=>(amG.1 he).elim (h0 e) (m2 e)) (by simp;omega);refine⟨v,hv,Dh _ _ _ ⟨n,?_⟩⟩;unfold yj;rw[aK hil,ai,amg hil];dsimp only;rw[dT (Gl hx),dT (by omega),aT (by omega)];exact hn
theorem adp{l:List BCU}(h:∀e∈l,gdN e)(hl:l.length<=12):RW l:=by
 suffices gX:∃v:(List BCU),(λv:List BCU=>v.length<=10000/\∀e∈v,gM e) v/\∃n,Y4 l (t5.k n)=some [.new 75 tCU v] from gX.elim λv h=>⟨v,h.1,Con.new_d (a8 PP (ahg l h.2))⟩
 obtain⟨v,hv,n,hn⟩:=ahF h hl l.length 0 (amx _) [] (λe he=>by cases he) (by simp);exact⟨v,hv,n,hn⟩
def Mg:List En:=[enT RJ]
def abX:NT:=[((41,8),{keep:=[0,3,4],own:=[(3,75,tCU)],hl:=1}),((41,23),{keep:=[0,3,4,5,6],hl:=1})]
def yq:Ctx:=CX (ens Mg) abX
def vf(l:List BCU)(s4:Int)(r0:List BCU):Cfg:=⟨41,[.blk 0,.seq 44],[(0,.d (.sl tCU) l),(3,.own 0),(4,SI s4)],[.row 75 tCU r0],0,[]⟩
def tk(l:List BCU)(s4:Int)(r0:List BCU)(s5 s6:Int):Cfg:=⟨41,[.blk 2,.seq 38,.blk 1,.seq 43,.lp 8,.blk 0,.seq 44],[(0,.d (.sl tCU) l),(3,.own 0),(4,SI s4),(5,SI s5),(6,SI s6)],[.row 75 tCU r0],0,[]⟩
def YC(l:List BCU)(k:KT):OLR:=k 8 (vf l 0 ([]))
theorem akL(l:List BCU):RS yq 41 [.d (.sl tCU) l] (YC l):=rsX
def xU(l:List BCU)(s4:Int)(r0:List BCU)(k:KT):OLR:=match decide (s4<(l.length:Int))with|true=>k 23 (tk l s4 r0 (-1) 0)|false=>some [RV.new 75 tCU r0]
theorem DD(l:List BCU)(s4:Int)(r0:List BCU):RN yq 8 (vf l s4 r0) (xU l s4 r0):=rnX
def mq(l:List BCU)(s4:Int)(r0:List BCU)(s5 s6:Int)(k:KT):OLR:=match decide (s6<(r0.length:Int))with|true=>(match aH r0 s6 with|some _=>(match true,r0[(s6).toNat]? with|true,some x1=>(match aH l s4 with|some x2=>(og (decide (fU x1 x2)) (match jh (dC x1) (dC x2)with|true=>k 23 (tk l s4 r0 s6 (i64.wrap (s6+1)))|false=>k 23 (tk l s4 r0 s5 (i64.wrap (s6+1)))))|none=>none)|_,_=>none)|none=>none)|false=>(match decide (s5<0)with|true=>(match aH l s4 with|some x1=>(og (decide ((r0.length+([x1]).length)*1040<=140737488355328/\r0.length+([x1]).length<=140737488355328)) (k 8 (vf l (i64.wrap (s4+1)) (r0++([x1])))))|none=>none)|false=>(og (decide ((0:Int)<=0/\0<=s5/\s5<=(r0.length:Int))) (og (decide ((0:Int)<=i64.wrap (s5+1)/\i64.wrap (s5+1)<=(r0.length:Int)/\(r0.length:Int)<=(r0.length:Int))) (og (decide (((s5:Int).toNat-(0:Int).toNat)<=r0.length/\((r0.take ((s5:Int).toNat-(0:Int).toNat)).length+((r0.drop ((i64.wrap (s5+1):Int).toNat)).take (((r0.length:Int):Int).toNat-(i64.wrap (s5+1):Int).toNat)).length)*1040<=140737488355328/\(r0.take ((s5:Int).toNat-(0:Int).toNat)).length+((r0.drop ((i64.wrap (s5+1):Int).toNat)).take (((r0.length:Int):Int).toNat-(i64.wrap (s5+1):Int).toNat)).length<=140737488355328)) (k 8 (vf l (i64.wrap (s4+1)) ((r0.take ((s5:Int).toNat-(0:Int).toNat))++((r0.drop ((i64.wrap (s5+1):Int).toNat)).take (((r0.length:Int):Int).toNat-(i64.wrap (s5+1):Int).toNat)))))))))
theorem pP(l:List BCU)(s4:Int)(r0:List BCU)(s5 s6:Int):RN yq 23 (tk l s4 r0 s5 s6) (mq l s4 r0 s5 s6):=rnX
def QS(l:List BCU):Prop:=∃v:(List BCU),(λv:List BCU=>v.length<=10000/\∀e∈v,gM e) v/\CQq7 41 [.d (.sl tCU) l] [.d (.sl tCU) v]
instance (l:List BCU):Decidable (QS l):=Classical.propDecidable _
def DU(l:List BCU):(List BCU):=Classical.epsilon λv=>(λv:List BCU=>v.length<=10000/\∀e∈v,gM e) v/\CQq7 41 [.d (.sl tCU) l] [.d (.sl tCU) v]
theorem Vu{l:List BCU}(h:QS l):(λv:List BCU=>v.length<=10000/\∀e∈v,gM e) (DU l):=(amq h).1
def ahQ:Cn 41 [(.sl tCU)]:=cn λ(l:List BCU)=>lf (QS l) [.d (.sl tCU) (DU l)] λh=>(amq h).2
theorem ac4{l r0:List BCU}{i:Nat}(h:∀e∈l,gM e)(hi:i<l.length)(hl:l.length<=10000)(h0:∀e∈r0,gM e)(l0:r0.length<=i){Q:List BCU->Prop}(next:∀r',(∀e∈r',gM e)->r'.length<=i+1->∃v,Q v/\yq.Runs 8 (vf l ((i+1:Nat):Int) r') [.new 75 tCU v]):∀(j k:Nat),k+j=r0.length->∀s:Int,-1<=s->s<r0.length->∃v,Q v/\yq.Runs 23 (tk l (i:Int) r0 s (k:Int)) [.new 75 tCU v]:=by
 have hx:=h _ (ams hi);intro j;induction j with
 |zero=>
  intro k hk s s1 s2;by_cases hs:s<0
  ·obtain⟨v,hv,n,hn⟩:=next (r0++[l[i]]) (λe he=>(amG.1 he).elim (h0 e) λh=>by rw[amQ.1 h];exact hx) (by simp;omega);refine⟨v,hv,pP _ _ _ _ _ ⟨n,?_⟩⟩;unfold mq;rw[aX (by omega)];dsimp only;rw[dT hs,ai,amg hi];dsimp only;rw[dT (by simp;omega),aT (by omega)];exact hn
  ·obtain⟨v,hv,n,hn⟩:=next ((r0.take (s.toNat-(0:Int).toNat))++((r0.drop ((s+1).toNat)).take (((r0.length:Int):Int).toNat-(s+1).toNat))) (λe he=>(amG.1 he).elim (λg=>h0 e (anv g)) λg=>h0 e (anS (anv g))) (by simp;omega);refine⟨v,hv,pP _ _ _ _ _ ⟨n,?_⟩⟩;unfold mq;rw[aX (by omega)];dsimp only;rw[dF hs];dsimp only;rw[aO (x:=s+1) (by omega) (by omega),dT (show(0:Int)<=0/\0<=s/\s<=(r0.length:Int) by omega),dT (show(0:Int)<=s+1/\s+1<=(r0.length:Int)/\(r0.length:Int)<=(r0.length:Int) by omega),dT (by simp;omega),aT (by omega)];exact hn
 |succ j ih=>
  intro k hk s s1 s2;have hkl:k<r0.length:=by omega
  have hy:=h0 _ (ams hkl);have gy:r0[((k:Int)).toNat]?=some r0[k]:=by rw[show((k:Int)).toNat=k by omega,amg hkl]
  cases he:jh (dC r0[k]) (dC l[i])
  ·obtain⟨v,hv,n,hn⟩:=ih (k+1) (by omega) s s1 s2;refine⟨v,hv,pP _ _ _ _ _ ⟨n,?_⟩⟩;unfold mq;rw[aK hkl,ai,amg hkl,gy,ai,amg hi];dsimp only;rw[dT (show fU r0[k] l[i] from⟨hy.1.1,hx.1.1⟩),he,aT (by omega)];exact hn
  ·obtain⟨v,hv,n,hn⟩:=ih (k+1) (by omega) (k:Int) (by omega) (by omega);refine⟨v,hv,pP _ _ _ _ _ ⟨n,?_⟩⟩;unfold mq;rw[aK hkl,ai,amg hkl,gy,ai,amg hi];dsimp only;rw[dT (show fU r0[k] l[i] from⟨hy.1.1,hx.1.1⟩),he,aT (by omega)];exact hn
theorem ako{l:List BCU}(h:∀e∈l,gM e)(hl:l.length<=10000):∀(j i:Nat),i+j=l.length->∀r0,(∀e∈r0,gM e)->r0.length<=i->∃v,(v.length<=10000/\∀e∈v,gM e)/\yq.Runs 8 (vf l (i:Int) r0) [.new 75 tCU v]:=by
 intro j;induction j with
 |zero=>
  intro i hi r0 h0 l0;refine⟨r0,⟨by omega,h0⟩,DD _ _ _ ⟨0,?_⟩⟩;unfold xU;rw[aX (by omega)]
 |succ j ih=>
  intro i hi r0 h0 l0;have hil:i<l.length:=by omega
  obtain⟨v,hv,n,hn⟩:=ac4 h hil hl h0 l0 (λr' a b=>ih (i+1) (by omega) r' a b) r0.length 0 (amx _) (-1) (Int.le_refl _) (by omega);refine⟨v,hv,DD _ _ _ ⟨n,?_⟩⟩;unfold xU;rw[aK hil];exact hn
theorem ad6{l:List BCU}(h:∀e∈l,gM e)(hl:l.length<=10000):QS l:=by
 suffices gX:∃v:(List BCU),(λv:List BCU=>v.length<=10000/\∀e∈v,gM e) v/\∃n,YC l (yq.k n)=some [.new 75 tCU v] from gX.elim λv h=>⟨v,h.1,Con.new_d (a8 Mg (akL l h.2))⟩
 obtain⟨v,hv,n,hn⟩:=ako h hl l.length 0 (amx _) [] (λe he=>by cases he) (by simp);exact⟨v,hv,n,hn⟩
end
section
open RE
def mrg(x y:BCU):BCU:=(x.1,(x.2.1,(x.2.2.1,(x.2.2.2.1,(x.2.2.2.2.1,y.2.2.2.2.2)))))
theorem aaK{x y:BCU}(hx:gM x)(hy:gM y)(hs:cf (dC x) (dC y)=true)(hw:x.2.2.2.1=y.2.2.2.1)(he:aB (dec y.2.2.2.2.1) (dec x.2.2.2.2.2)=0):gM (mrg x y):=by
 have kx:=fR hx.1.gd;have ky:=fR hy.1.gd;have r1:=kx.f.1;have r2:=kx.t.1;have r3:=ky.f.1;have r4:=ky.t.1
 have hlt:aB (frC (dC x)) (toC (dC y))<0:=by
  have a:=hx.2.1;have b:=hy.2.1;rw[gT,jb gv fh]at a b ⊢;have he:pR (frC (dC y))=pR (toC (dC x)):=cmpP_0.1 he;rw[he]at b;exact gv.tr _ _ _ a b
 have hsup:du (dC x) (toC (dC y))=true:=Uf ky (BW hs) ky.t.2;refine⟨⟨⟨⟨hx.1.1.1.1,hx.1.1.1.2.1,hx.1.1.1.2.2.1,hy.1.1.1.2.2.2⟩,hx.1.1.2⟩,kx.f.2,hsup,λe=>?_⟩,hlt,λha=>⟨(hx.2.2 ha).1,?_⟩⟩
 ·have e:aB (frC (dC x)) (toC (dC y))=0:=e;omega
 ·have ha:x.1=true:=ha;have e1:=F9 hs ha;have hy':=(hy.2.2 ((yL hs).symm.trans ha)).2;unfold hfC kc at*
  rw[<-e1,show cwC (dC y)=cwC (dC x) from hw.symm]at hy';exact hy'
def vS(l:List BCU):Prop:=∃v:(List BCU),(λv:List BCU=>v.length<=10000/\∀e∈v,gM e) v/\CQq7 40 [.d (.sl tCU) l] [.d (.sl tCU) v]
instance (l:List BCU):Decidable (vS l):=Classical.propDecidable _
def Do(l:List BCU):(List BCU):=Classical.epsilon λv=>(λv:List BCU=>v.length<=10000/\∀e∈v,gM e) v/\CQq7 40 [.d (.sl tCU) l] [.d (.sl tCU) v]
theorem IX{l:List BCU}(h:vS l):(λv:List BCU=>v.length<=10000/\∀e∈v,gM e) (Do l):=(amq h).1
def Wt:Cn 40 [(.sl tCU)]:=cn λ(l:List BCU)=>lf (vS l) [.d (.sl tCU) (Do l)] λh=>(amq h).2
def Gq:List En:=[enT oI,enT Ol,enK Wt]
def aeN:NT:=[((40,6),{keep:=[0,3],hl:=0}),((40,23),{keep:=[0,3,4,5,6,7],hl:=1}),((40,57),{keep:=[0,3,6,8,9,10],own:=[(9,75,tCU)],hl:=3,pd:=2,er:=[0]})]
def hZ:Ctx:=CX (ens Gq) aeN
def jO(l:List BCU)(s3:Int):Cfg:=⟨40,[.blk 0,.seq 77],[(0,.d (.sl tCU) l),(3,SI s3)],[],0,[]⟩
def gh(l:List BCU)(s3:Int)(x1:BCU)(s5 s6 s7:Int):Cfg:=⟨40,[.blk 2,.seq 44,.blk 1,.seq 76,.lp 6,.blk 0,.seq 77],[(0,.d (.sl tCU) l),(3,SI s3),(4,.box 0 0),(5,SI s5),(6,SI s6),(7,SI s7)],[.box 73 (Ty.split tP x1.2.2.2.2.2)],0,[]⟩
def nM(l:List BCU)(s3 s6:Int)(x6 x7:BCU)(s10:Int)(r2:List BCU):Cfg:=⟨40,[.blk 4,.seq 72,.blk 1,.seq 76,.lp 6,.blk 0,.seq 77],[(0,.d (.sl tCU) l),(3,SI s3),(6,SI s6),(8,.box 1 0),(9,.own 2),(10,SI s10)],[.gone,.box 75 (Ty.split tCU (x6.1,(x6.2.1,(x6.2.2.1,(x6.2.2.2.1,(x6.2.2.2.2.1,x7.2.2.2.2.2)))))),.row 75 tCU r2],0,[]⟩
def ZQ(l:List BCU)(k:KT):OLR:=k 6 (jO l 0)
theorem XF(l:List BCU):RS hZ 40 [.d (.sl tCU) l] (ZQ l):=rsX
def yb(l:List BCU)(s3:Int)(k:KT):OLR:=match decide (s3<(l.length:Int))with|true=>(match aH l s3 with|some x1=>k 23 (gh l s3 x1 0 (-1) 0)|none=>none)|false=>some [RV.d (.sl tCU) l]
theorem oW(l:List BCU)(s3:Int):RN hZ 6 (jO l s3) (yb l s3):=rnX
def fL(l:List BCU)(s3:Int)(x1:BCU)(s5 s6 s7:Int)(k:KT):OLR:=match decide (s7<(l.length:Int))with|true=>(match aH l s7 with|some x2=>(og (decide (okP 4000 x2.2.2.2.2.1/\okP 4000 x1.2.2.2.2.2)) (match aB (dec x2.2.2.2.2.1) (dec x1.2.2.2.2.2)==0 with|true=>(match aH l s7 with|some x3=>(og (decide (okP 4000 x3.2.2.2.2.2/\okP 4000 x1.2.2.2.2.2)) (match aB (dec x3.2.2.2.2.2) (dec x1.2.2.2.2.2)==0 with|true=>k 23 (gh l s3 x1 (i64.wrap ((i64.wrap (s5+1))+1)) s7 (i64.wrap (s7+1)))|false=>k 23 (gh l s3 x1 (i64.wrap (s5+1)) s7 (i64.wrap (s7+1)))))|none=>none)|false=>(match aH l s7 with|some x3=>(og (decide (okP 4000 x3.2.2.2.2.2/\okP 4000 x1.2.2.2.2.2)) (match aB (dec x3.2.2.2.2.2) (dec x1.2.2.2.2.2)==0 with|true=>k 23 (gh l s3 x1 (i64.wrap (s5+1)) s6 (i64.wrap (s7+1)))|false=>k 23 (gh l s3 x1 s5 s6 (i64.wrap (s7+1)))))|none=>none)))|none=>none)|false=>(match s5==2 with|true=>(match decide (s6>=0)with|true=>(match aH l s3 with|some x2=>(match aH l s6 with|some x3=>(og (decide (fa x2 x3)) (match cf (dC x2) (dC x3)with|true=>(match aH l s3 with|some x4=>(match aH l s6 with|some x5=>(match x4.2.2.2.1==x5.2.2.2.1 with|true=>(match aH l s3 with|some x6=>(match aH l s6 with|some x7=>k 57 (nM l s3 s6 x6 x7 0 ([]))|none=>none)|none=>none)|false=>k 6 (jO l (i64.wrap (s3+1))))|none=>none)|none=>none)|false=>k 6 (jO l (i64.wrap (s3+1)))))|none=>none)|none=>none)|false=>k 6 (jO l (i64.wrap (s3+1))))|false=>k 6 (jO l (i64.wrap (s3+1))))
theorem fM(l:List BCU)(s3:Int)(x1:BCU)(s5 s6 s7:Int):RN hZ 23 (gh l s3 x1 s5 s6 s7) (fL l s3 x1 s5 s6 s7):=rnX
def mS(l:List BCU)(s3 s6:Int)(x6 x7:BCU)(s10:Int)(r2:List BCU)(k:KT):OLR:=match decide (s10<(l.length:Int))with|true=>(match s10 !=s3 with|true=>(match s10 !=s6 with|true=>(match aH l s10 with|some x8=>(og (decide ((r2.length+([x8]).length)*1040<=140737488355328/\r2.length+([x8]).length<=140737488355328)) (k 57 (nM l s3 s6 x6 x7 (i64.wrap (s10+1)) (r2++([x8])))))|none=>none)|false=>k 57 (nM l s3 s6 x6 x7 (i64.wrap (s10+1)) r2))|false=>k 57 (nM l s3 s6 x6 x7 (i64.wrap (s10+1)) r2))|false=>(og (decide ((r2.length+([(x6.1,(x6.2.1,(x6.2.2.1,(x6.2.2.2.1,(x6.2.2.2.2.1,x7.2.2.2.2.2)))))]).length)*1040<=140737488355328/\r2.length+([(x6.1,(x6.2.1,(x6.2.2.1,(x6.2.2.2.1,(x6.2.2.2.2.1,x7.2.2.2.2.2)))))]).length<=140737488355328)) (og (decide (vS (r2++([(x6.1,(x6.2.1,(x6.2.2.1,(x6.2.2.2.1,(x6.2.2.2.2.1,x7.2.2.2.2.2)))))])))) (some [RV.d (.sl tCU) (Do (r2++([(x6.1,(x6.2.1,(x6.2.2.1,(x6.2.2.2.1,(x6.2.2.2.2.1,x7.2.2.2.2.2)))))])))])))
theorem qh(l:List BCU)(s3 s6:Int)(x6 x7:BCU)(s10:Int)(r2:List BCU):RN hZ 57 (nM l s3 s6 x6 x7 s10 r2) (mS l s3 s6 x6 x7 s10 r2):=rnX
section
variable {l:List BCU} (hl:l.length<=10000) (h:∀e∈l,gM e) {i:Nat} (hi:i<l.length)
include hl h hi
theorem abJ{nx:Nat}(hn:nx<l.length)(hne:i≠nx)(hW:gM (mrg l[i] l[nx]))(ih:∀m:List BCU,m.length<l.length->(∀e∈m,gM e)->vS m):∀(j k:Nat),k+j=l.length->∀r2:List BCU,(∀e∈r2,gM e)->r2.length<=k->(i<k->r2.length+1<=k)->(nx<k->r2.length+1<=k)->(i<k->nx<k->r2.length+2<=k)->∃v,(v.length<=10000/\∀e∈v,gM e)/\hZ.Runs 57 (nM l (i:Int) (nx:Int) l[i] l[nx] (k:Int) r2) [.d (.sl tCU) v]:=by
 intro j;induction j with
 |zero=>
  intro k hk r2 h2 a1 a2 a3 a4;have hm:=ih (r2++[mrg l[i] l[nx]]) (by have:=a4 (by omega) (by omega);simp;omega) (λe he=>(amG.1 he).elim (h2 e) λg=>by rw[amQ.1 g];exact hW);refine⟨_,IX hm,qh _ _ _ _ _ _ _ ⟨0,?_⟩⟩;unfold mS;rw[aX (by omega),dT (by simp;omega)];show og (decide (vS (r2++[mrg l[i] l[nx]]))) _=_;rw[dT hm];rfl
 |succ j ih2=>
  intro k hk r2 h2 a1 a2 a3 a4;have hkl:k<l.length:=by omega
  have same:(k=i\/k=nx)->∃v,(v.length<=10000/\∀e∈v,gM e)/\hZ.Runs 57 (nM l (i:Int) (nx:Int) l[i] l[nx] ((k+1:Nat):Int) r2) [.d (.sl tCU) v]:=λg=>ih2 (k+1) (by omega) r2 h2 (by omega) (by omega) (by omega) (by omega);by_cases g1:k=i
  ·obtain⟨v,hv,n,hn⟩:=same (.inl g1);refine⟨v,hv,qh _ _ _ _ _ _ _ ⟨n,?_⟩⟩;unfold mS;rw[aK hkl,show((k:Int) !=(i:Int))=false by rw[g1];exact aoC _,aT (by omega)];exact hn
  ·by_cases g2:k=nx
   ·obtain⟨v,hv,n,hn⟩:=same (.inr g2);refine⟨v,hv,qh _ _ _ _ _ _ _ ⟨n,?_⟩⟩;unfold mS;rw[aK hkl,show((k:Int) !=(i:Int))=true from aoc.2 (by omega),show((k:Int) !=(nx:Int))=false by rw[g2];exact aoC _,aT (by omega)];exact hn
   ·clear same;obtain⟨v,hv,n,hn⟩:=ih2 (k+1) (by omega) (r2++[l[k]]) (λe he=>(amG.1 he).elim (h2 e) λg=>by rw[amQ.1 g];exact h _ (ams hkl)) (by simp;omega) (by simp;omega) (by simp;omega) (by simp;omega);refine⟨v,hv,qh _ _ _ _ _ _ _ ⟨n,?_⟩⟩;unfold mS;rw[aK hkl,show((k:Int) !=(i:Int))=true from aoc.2 (by omega),show((k:Int) !=(nx:Int))=true from aoc.2 (by omega),ai,amg hkl];dsimp only;rw[dT (by simp;omega),aT (by omega)];exact hn
theorem aey(ih:∀m:List BCU,m.length<l.length->(∀e∈m,gM e)->vS m)(next:∃v,(v.length<=10000/\∀e∈v,gM e)/\hZ.Runs 6 (jO l ((i+1:Nat):Int)) [.d (.sl tCU) v]):∀(j k:Nat),k+j=l.length->∀s5 s6:Int,(s6= -1\/∃(nx:Nat) (hn:nx<l.length),s6=nx/\aB (dec l[nx].2.2.2.2.1) (dec l[i].2.2.2.2.2)=0)->∃v,(v.length<=10000/\∀e∈v,gM e)/\hZ.Runs 23 (gh l (i:Int) l[i] s5 s6 (k:Int)) [.d (.sl tCU) v]:=by
 have hx:=h _ (ams hi);intro j;induction j with
 |zero=>
  intro k hk s5 s6 h6
  have go:(s5==2)=false\/s6<0\/(∃(nx:Nat) (hn:nx<l.length),s6=nx/\(cf (dC l[i]) (dC l[nx])=false\/(l[i].2.2.2.1==l[nx].2.2.2.1)=false))->∃v,(v.length<=10000/\∀e∈v,gM e)/\hZ.Runs 23 (gh l (i:Int) l[i] s5 s6 (k:Int)) [.d (.sl tCU) v]:=λg=>by
   obtain⟨v,hv,n,hn⟩:=next;refine⟨v,hv,fM _ _ _ _ _ _ ⟨n,?_⟩⟩;unfold fL;rw[aX (by omega)];dsimp only;rw[aT (k:=i) (by omega)];rcases g with g|g|⟨nx,hx2,e,g⟩
   ·rw[g];exact hn
   ·rw[dF (show ¬s6>=0 by omega)];cases s5==2<;>exact hn
   ·have hy:=h _ (ams hx2);rw[e,ai,amg hi,ai,amg hx2,dT (show((nx:Nat):Int)>=0 by omega)];dsimp only;rw[dT (show fa l[i] l[nx] from⟨hx.1.1.2,hy.1.1.2⟩)];rcases g with g|g<;>rw[g]
    ·cases s5==2<;>exact hn
    ·cases s5==2<;>cases cf (dC l[i]) (dC l[nx])<;>exact hn
  cases q1:s5==2
  ·exact go (.inl q1)
  rcases h6 with h6|⟨nx,hn,e,he⟩
  ·exact go (.inr (.inl (by omega)))
  have hy:=h _ (ams hn);cases q2:cf (dC l[i]) (dC l[nx])
  ·exact go (.inr (.inr ⟨nx,hn,e,.inl q2⟩))
  cases q3:l[i].2.2.2.1==l[nx].2.2.2.1
  ·exact go (.inr (.inr ⟨nx,hn,e,.inr q3⟩))
  have hne:i≠nx:=λg=>by
   subst g;have:=hx.2.1;have r1:=(fR hx.1.gd).f.1;have r2:=(fR hx.1.gd).t.1;have he:aB (frC (dC l[i])) (toC (dC l[i]))=0:=he;omega
  obtain⟨v,hv,n,hn2⟩:=abJ hl h hi hn hne (aaK hx hy q2 (amW.1 q3) he) ih l.length 0 (amx _) [] (λe he=>by cases he) (by simp) (by omega) (by omega) (by omega);refine⟨v,hv,fM _ _ _ _ _ _ ⟨n,?_⟩⟩;unfold fL;rw[aX (by omega)];dsimp only;rw[q1,e,ai,amg hi,ai,amg hn,dT (show((nx:Nat):Int)>=0 by omega)];dsimp only;rw[dT (show fa l[i] l[nx] from⟨hx.1.1.2,hy.1.1.2⟩),q2,q3];exact hn2
 |succ j ih2=>
  intro k hk s5 s6 h6;have hkl:k<l.length:=by omega
  have hy:=h _ (ams hkl);have k1:okP 4000 l[k].2.2.2.2.1/\okP 4000 l[i].2.2.2.2.2:=⟨aV hy.1.1.1.2.2.1 (by decide) (by decide),aV hx.1.1.1.2.2.2 (by decide) (by decide)⟩
  have k2:okP 4000 l[k].2.2.2.2.2/\okP 4000 l[i].2.2.2.2.2:=⟨aV hy.1.1.1.2.2.2 (by decide) (by decide),k1.2⟩
  have st:∀(s5' s6':Int),(s6'=s6\/s6'=k/\aB (dec l[k].2.2.2.2.1) (dec l[i].2.2.2.2.2)=0)->∃v,(v.length<=10000/\∀e∈v,gM e)/\hZ.Runs 23 (gh l (i:Int) l[i] s5' s6' ((k+1:Nat):Int)) [.d (.sl tCU) v]:=λs5' s6' g=>by
   refine ih2 (k+1) (by omega) s5' s6' ?_;rcases g with g|⟨g,g'⟩
   ·rw[g];exact h6
   ·exact .inr ⟨k,hkl,g,g'⟩
  cases e1:aB (dec l[k].2.2.2.2.1) (dec l[i].2.2.2.2.2)==0<;>cases e2:aB (dec l[k].2.2.2.2.2) (dec l[i].2.2.2.2.2)==0
  ·obtain⟨v,hv,n,hn⟩:=st s5 s6 (.inl rfl);refine⟨v,hv,fM _ _ _ _ _ _ ⟨n,?_⟩⟩;unfold fL;rw[aK hkl,ai,amg hkl];dsimp only;rw[dT k1,dT k2,e1,e2,aT (k:=k) (by omega)];exact hn
  ·obtain⟨v,hv,n,hn⟩:=st (i64.wrap (s5+1)) s6 (.inl rfl);refine⟨v,hv,fM _ _ _ _ _ _ ⟨n,?_⟩⟩;unfold fL;rw[aK hkl,ai,amg hkl];dsimp only;rw[dT k1,dT k2,e1,e2,aT (k:=k) (by omega)];exact hn
  ·obtain⟨v,hv,n,hn⟩:=st (i64.wrap (s5+1)) k (.inr ⟨rfl,amW.1 e1⟩);refine⟨v,hv,fM _ _ _ _ _ _ ⟨n,?_⟩⟩;unfold fL;rw[aK hkl,ai,amg hkl];dsimp only;rw[dT k1,dT k2,e1,e2,aT (k:=k) (by omega)];exact hn
  ·obtain⟨v,hv,n,hn⟩:=st (i64.wrap ((i64.wrap (s5+1))+1)) k (.inr ⟨rfl,amW.1 e1⟩);refine⟨v,hv,fM _ _ _ _ _ _ ⟨n,?_⟩⟩;unfold fL;rw[aK hkl,ai,amg hkl];dsimp only;rw[dT k1,dT k2,e1,e2,aT (k:=k) (by omega)];exact hn
omit hi in
theorem aig(ih:∀m:List BCU,m.length<l.length->(∀e∈m,gM e)->vS m):∀(j i:Nat),i+j=l.length->∃v,(v.length<=10000/\∀e∈v,gM e)/\hZ.Runs 6 (jO l (i:Int)) [.d (.sl tCU) v]:=by
 intro j;induction j with
 |zero=>
  intro i hi;refine⟨l,⟨hl,h⟩,oW _ _ ⟨0,?_⟩⟩;unfold yb;rw[aX (by omega)]
 |succ j ih2=>
  intro i hi;have hil:i<l.length:=by omega
  obtain⟨v,hv,n,hn⟩:=aey hl h hil ih (ih2 (i+1) (by omega)) l.length 0 (amx _) 0 (-1) (.inl rfl);refine⟨v,hv,oW _ _ ⟨n,?_⟩⟩;unfold yb;rw[aK hil,ai,amg hil];exact hn
end
theorem Ip{l:List BCU}(hl:l.length<=10000)(h:∀e∈l,gM e)(ih:∀m:List BCU,m.length<l.length->(∀e∈m,gM e)->vS m):vS l:=by
 suffices gX:∃v:(List BCU),(λv:List BCU=>v.length<=10000/\∀e∈v,gM e) v/\∃n,ZQ l (hZ.k n)=some [.d (.sl tCU) v] from gX.elim λv h=>⟨v,h.1,a8 Gq (XF l h.2)⟩
 obtain⟨v,hv,n,hn⟩:=aig hl h ih l.length 0 (amx _);exact⟨v,hv,n,hn⟩
theorem PV:∀(n:Nat) {l:List BCU},l.length<=n->l.length<=10000->(∀e∈l,gM e)->vS l
 |0,l,hn,hl,h=>Ip hl h λm hm _=>by omega
 |n+1,l,hn,hl,h=>Ip hl h λm hm g=>PV n (by omega) (by omega) g
def Qc:List En:=[enL Sy]
def abH:NT:=[((39,8),{keep:=[3,4],hl:=1}),((39,20),{keep:=[3,4,5],hl:=1})]
def yi:Ctx:=CX (ens Qc) abH
def u4(s4:Int)(r0:List BCU):Cfg:=⟨39,[.blk 0,.seq 32],[(3,.own 0),(4,SI s4)],[.row 75 tCU r0],0,[]⟩
def wa(s4 s5:Int)(r0:List BCU):Cfg:=⟨39,[.blk 2,.blk 1,.seq 31,.lp 8,.blk 0,.seq 32],[(3,.own 0),(4,SI s4),(5,SI s5)],[.row 75 tCU r0],0,[]⟩
def O7(l:List BCU)(k:KT):OLR:=og (decide ((([]:List BCU).length+l.length)*1040<=140737488355328/\([]:List BCU).length+l.length<=140737488355328)) (k 8 (u4 0 (([]:List BCU)++l)))
theorem ajj(l:List BCU):RS yi 39 [.d (.sl tCU) l] (O7 l):=rsX
def xW(s4:Int)(r0:List BCU)(k:KT):OLR:=match decide (s4<(r0.length:Int))with|true=>k 20 (wa s4 s4 r0)|false=>some [RV.new 75 tCU r0]
theorem Ek(s4:Int)(r0:List BCU):RN yi 8 (u4 s4 r0) (xW s4 r0):=rnX
def p6(s4 s5:Int)(r0:List BCU)(k:KT):OLR:=match decide (s5>0)with|true=>(match aH r0 s5 with|some _=>(match true,r0[(s5).toNat]? with|true,some x1=>(match aH r0 (i64.wrap (s5-1))with|some _=>(match true,r0[(i64.wrap (s5-1)).toNat]? with|true,some x2=>(og (decide (KK x1 x2)) (match decide ((F4 x1 x2)<0)with|true=>(match aH r0 (i64.wrap (s5-1))with|some _=>(match true,r0[(i64.wrap (s5-1)).toNat]? with|true,some x3=>(match aH r0 s5 with|some _=>(match true,r0[(s5).toNat]? with|true,some x4=>(match aH r0 s5 with|some _=>(match true,r0[(s5).toNat]? with|true,some _=>(match aH (r0.set ((s5).toNat) x3) (i64.wrap (s5-1))with|some _=>(match true,(r0.set ((s5).toNat) x3)[(i64.wrap (s5-1)).toNat]? with|true,some _=>k 20 (wa s4 (i64.wrap (s5-1)) ((r0.set ((s5).toNat) x3).set ((i64.wrap (s5-1)).toNat) x4))|_,_=>none)|none=>none)|_,_=>none)|none=>none)|_,_=>none)|none=>none)|_,_=>none)|none=>none)|false=>k 8 (u4 (i64.wrap (s4+1)) r0)))|_,_=>none)|none=>none)|_,_=>none)|none=>none)|false=>k 8 (u4 (i64.wrap (s4+1)) r0)
theorem uQ(s4 s5:Int)(r0:List BCU):RN yi 20 (wa s4 s5 r0) (p6 s4 s5 r0):=rnX
def Fs(l:List BCU):Prop:=∃v:(List BCU),(λv:List BCU=>v.length<=10000/\∀e∈v,gM e) v/\CQq7 39 [.d (.sl tCU) l] [.d (.sl tCU) v]
instance (l:List BCU):Decidable (Fs l):=Classical.propDecidable _
def KL(l:List BCU):(List BCU):=Classical.epsilon λv=>(λv:List BCU=>v.length<=10000/\∀e∈v,gM e) v/\CQq7 39 [.d (.sl tCU) l] [.d (.sl tCU) v]
theorem Uc{l:List BCU}(h:Fs l):(λv:List BCU=>v.length<=10000/\∀e∈v,gM e) (KL l):=(amq h).1
def afC:Cn 39 [(.sl tCU)]:=cn λ(l:List BCU)=>lf (Fs l) [.d (.sl tCU) (KL l)] λh=>(amq h).2
theorem adG{i n:Nat}(hn:n<=10000)(hi:i<n){Q:List BCU->Prop}(next:∀r:List BCU,r.length=n->(∀e∈r,gM e)->∃v,Q v/\yi.Runs 8 (u4 ((i+1:Nat):Int) r) [.new 75 tCU v]):∀(k:Nat),k<=i->∀r:List BCU,r.length=n->(∀e∈r,gM e)->∃v,Q v/\yi.Runs 20 (wa (i:Int) (k:Int) r) [.new 75 tCU v]:=by
 intro k;induction k with
 |zero=>
  intro _ r hr h;obtain⟨v,hv,m,hm⟩:=next r hr h;refine⟨v,hv,uQ _ _ _ ⟨m,?_⟩⟩;unfold p6;rw[dF (show ¬((0:Nat):Int)>0 by decide),aT (by omega)];exact hm
 |succ k ih=>
  intro hk r hr h;have h1:k+1<r.length:=by omega
  have h0:k<r.length:=by omega
  have e1:i64.wrap (((k+1:Nat):Int)-1)=(k:Int):=by rw[aO (by omega) (by omega)];omega
  have t1:((k+1:Nat):Int).toNat=k+1:=by omega
  have t0:((k:Nat):Int).toNat=k:=by omega
  have x1:=h _ (ams h1);have x0:=h _ (ams h0);have g1:r[((k+1:Nat):Int).toNat]?=some r[k+1]:=by rw[t1,amg h1]
  have g0:r[((k:Nat):Int).toNat]?=some r[k]:=by rw[t0,amg h0]
  cases hc:decide (F4 r[k+1] r[k]<0)
  ·obtain⟨v,hv,m,hm⟩:=next r hr h;refine⟨v,hv,uQ _ _ _ ⟨m,?_⟩⟩;unfold p6;rw[dT (show((k+1:Nat):Int)>0 by omega),e1,ai,amg h1,g1,ai,amg h0,g0];dsimp only;rw[dT (yV (qM x1.1) (qM x0.1)),hc,aT (by omega)];exact hm
  ·have hs:∀e∈(r.set (k+1) r[k]).set k r[k+1],gM e:=λe he=>by
    rcases aov he with g|g
    ·rcases aov g with g|g
     ·exact h e g
     ·rw[g];exact x0
    ·rw[g];exact x1
   obtain⟨v,hv,m,hm⟩:=ih (by omega) _ (by simp[hr]) hs;refine⟨v,hv,uQ _ _ _ ⟨m,?_⟩⟩;unfold p6;rw[dT (show((k+1:Nat):Int)>0 by omega),e1,ai,amg h1,g1,ai,amg h0,g0];dsimp only;rw[dT (yV (qM x1.1) (qM x0.1)),hc,t1,t0,ai,amg (l:=r.set (k+1) r[k]) (i:=k) (by simp;omega)];exact hm
theorem aiU{n:Nat}(hn:n<=10000):∀(j i:Nat),i+j=n->∀r:List BCU,r.length=n->(∀e∈r,gM e)->∃v,(v.length<=10000/\∀e∈v,gM e)/\yi.Runs 8 (u4 (i:Int) r) [.new 75 tCU v]:=by
 intro j;induction j with
 |zero=>
  intro i hi r hr h;refine⟨r,⟨by omega,h⟩,Ek _ _ ⟨0,?_⟩⟩;unfold xW;rw[aX (by omega)]
 |succ j ih=>
  intro i hi r hr h;obtain⟨v,hv,m,hm⟩:=adG hn (by omega) (λr a b=>ih (i+1) (by omega) r a b) i (amm _) r hr h;refine⟨v,hv,Ek _ _ ⟨m,?_⟩⟩;unfold xW;rw[aK (by omega)];exact hm
theorem acX{l:List BCU}(hl:l.length<=10000)(h:∀e∈l,gM e):Fs l:=by
 suffices gX:∃v:(List BCU),(λv:List BCU=>v.length<=10000/\∀e∈v,gM e) v/\∃n,O7 l (yi.k n)=some [.new 75 tCU v] from gX.elim λv h=>⟨v,h.1,Con.new_d (a8 Qc (ajj l h.2))⟩
 obtain⟨v,hv,n,hn⟩:=aiU hl l.length 0 (amx _) l rfl h;refine⟨v,hv,n,?_⟩;unfold O7;rw[dT (by simp;omega)];exact hn
def FX:List En:=[enT oI]
def ad0:NT:=[((38,6),{keep:=[0,3],hl:=0}),((38,20),{keep:=[0,3,4,5],hl:=1}),((38,35),{keep:=[0,3,4,5,6,7],hl:=1})]
def fP:Ctx:=CX (ens FX) ad0
def n7(l:List BCU)(s3:Int):Cfg:=⟨38,[.blk 0,.seq 65],[(0,.d (.sl tCU) l),(3,SI s3)],[],0,[]⟩
def lK(l:List BCU)(s3:Int)(x1 x2:BCU)(s5:Int):Cfg:=⟨38,[.blk 2,.blk 1,.seq 64,.lp 6,.blk 0,.seq 65],[(0,.d (.sl tCU) l),(3,SI s3),(4,.own 0),(5,SI s5)],[.row 73 tP ([x1.2.2.2.2.1,x2.2.2.2.2.2])],0,[]⟩
def gS(l:List BCU)(s3:Int)(x1 x2:BCU)(s5 s6 s7:Int):Cfg:=⟨38,[.blk 4,.seq 56,.blk 3,.seq 63,.lp 20,.blk 2,.blk 1,.seq 64,.lp 6,.blk 0,.seq 65],[(0,.d (.sl tCU) l),(3,SI s3),(4,.own 0),(5,SI s5),(6,SI s6),(7,SI s7)],[.row 73 tP ([x1.2.2.2.2.1,x2.2.2.2.2.2])],0,[]⟩
def YX(l:List BCU)(k:KT):OLR:=k 6 (n7 l 0)
theorem XL(l:List BCU):RS fP 38 [.d (.sl tCU) l] (YX l):=rsX
def wO(l:List BCU)(s3:Int)(k:KT):OLR:=match decide (s3<(l.length:Int))with|true=>(match aH l s3 with|some x1=>(match aH l s3 with|some x2=>k 20 (lK l s3 x1 x2 0)|none=>none)|none=>none)|false=>some [RV.d .bool false]
theorem oG(l:List BCU)(s3:Int):RN fP 6 (n7 l s3) (wO l s3):=rnX
def qg(l:List BCU)(s3:Int)(x1 x2:BCU)(s5:Int)(k:KT):OLR:=match decide (s5<2)with|true=>k 35 (gS l s3 x1 x2 s5 0 0)|false=>k 6 (n7 l (i64.wrap (s3+1)))
theorem qs(l:List BCU)(s3:Int)(x1 x2:BCU)(s5:Int):RN fP 20 (lK l s3 x1 x2 s5) (qg l s3 x1 x2 s5):=rnX
def iK(l:List BCU)(s3:Int)(x1 x2:BCU)(s5 s6 s7:Int)(k:KT):OLR:=match decide (s7<(l.length:Int))with|true=>(match aH l s7 with|some x3=>(match aH ([x1.2.2.2.2.1,x2.2.2.2.2.2]) s5 with|some _=>(match true,([x1.2.2.2.2.1,x2.2.2.2.2.2])[(s5).toNat]? with|true,some x4=>(og (decide (okP 4000 x3.2.2.2.2.1/\okP 4000 x4)) (match aB (dec x3.2.2.2.2.1) (dec x4)==0 with|true=>(match aH l s7 with|some x5=>(match aH ([x1.2.2.2.2.1,x2.2.2.2.2.2]) s5 with|some _=>(match true,([x1.2.2.2.2.1,x2.2.2.2.2.2])[(s5).toNat]? with|true,some x6=>(og (decide (okP 4000 x5.2.2.2.2.2/\okP 4000 x6)) (match aB (dec x5.2.2.2.2.2) (dec x6)==0 with|true=>k 35 (gS l s3 x1 x2 s5 (i64.wrap ((i64.wrap (s6+1))+1)) (i64.wrap (s7+1)))|false=>k 35 (gS l s3 x1 x2 s5 (i64.wrap (s6+1)) (i64.wrap (s7+1)))))|_,_=>none)|none=>none)|none=>none)|false=>(match aH l s7 with|some x5=>(match aH ([x1.2.2.2.2.1,x2.2.2.2.2.2]) s5 with|some _=>(match true,([x1.2.2.2.2.1,x2.2.2.2.2.2])[(s5).toNat]? with|true,some x6=>(og (decide (okP 4000 x5.2.2.2.2.2/\okP 4000 x6)) (match aB (dec x5.2.2.2.2.2) (dec x6)==0 with|true=>k 35 (gS l s3 x1 x2 s5 (i64.wrap (s6+1)) (i64.wrap (s7+1)))|false=>k 35 (gS l s3 x1 x2 s5 s6 (i64.wrap (s7+1)))))|_,_=>none)|none=>none)|none=>none)))|_,_=>none)|none=>none)|none=>none)|false=>(match(Int.tmod s6 2)==1 with|true=>some [RV.d .bool true]|false=>k 20 (lK l s3 x1 x2 (i64.wrap (s5+1))))
theorem kg(l:List BCU)(s3:Int)(x1 x2:BCU)(s5 s6 s7:Int):RN fP 35 (gS l s3 x1 x2 s5 s6 s7) (iK l s3 x1 x2 s5 s6 s7):=rnX
def UZ(l:List BCU):Prop:=∃v:Bool,(λ_:Bool=>True) v/\CQq7 38 [.d (.sl tCU) l] [.d .bool v]
instance (l:List BCU):Decidable (UZ l):=Classical.propDecidable _
def acr(l:List BCU):Bool:=Classical.epsilon λv=>(λ_:Bool=>True) v/\CQq7 38 [.d (.sl tCU) l] [.d .bool v]
def ahT:Cn 38 [(.sl tCU)]:=cn λ(l:List BCU)=>lf (UZ l) [.d .bool (acr l)] λh=>(amq h).2
section
variable {l:List BCU} (hl:l.length<=10000) (h:∀e∈l,gdN e) {i:Nat} (hi:i<l.length)
include hl h hi
theorem abU{d:Nat}(hd:d<2)(next:∃v,fP.Runs 20 (lK l (i:Int) l[i] l[i] ((d+1:Nat):Int)) [.d .bool v]):∀(j k:Nat),k+j=l.length->∀s:Int,∃v,fP.Runs 35 (gS l (i:Int) l[i] l[i] (d:Int) s (k:Int)) [.d .bool v]:=by
 have hx:=h _ (ams hi)
 have hp:∃p,okP 580 p/\[l[i].2.2.2.2.1,l[i].2.2.2.2.2][d]?=some p:=by
  match d,hd with
  |0,_=>exact⟨_,hx.1.1.2.2.1,rfl⟩
  |1,_=>exact⟨_,hx.1.1.2.2.2,rfl⟩
 obtain⟨p,op,ep⟩:=hp;have op4:=aV (k:=4000) op (by decide) (by decide);have ep':[l[i].2.2.2.2.1,l[i].2.2.2.2.2][((d:Nat):Int).toNat]?=some p:=by rw[show((d:Nat):Int).toNat=d by omega,ep]
 intro j;induction j with
 |zero=>
  intro k hk s;cases g:Int.tmod s 2==1
  ·obtain⟨v,n,hn⟩:=next;refine⟨v,kg _ _ _ _ _ _ _ ⟨n,?_⟩⟩;unfold iK;rw[aX (by omega),g,aT (k:=d) (by omega)];exact hn
  ·refine⟨true,kg _ _ _ _ _ _ _ ⟨0,?_⟩⟩;unfold iK;rw[aX (by omega),g]
 |succ j ih=>
  intro k hk s;have hkl:k<l.length:=by omega
  have hy:=h _ (ams hkl);have k1:okP 4000 l[k].2.2.2.2.1/\okP 4000 p:=⟨aV hy.1.1.2.2.1 (by decide) (by decide),op4⟩
  have k2:okP 4000 l[k].2.2.2.2.2/\okP 4000 p:=⟨aV hy.1.1.2.2.2 (by decide) (by decide),op4⟩
  have st:∃s',(∀n,iK l (i:Int) l[i] l[i] (d:Int) s (k:Int) (fP.k n)=fP.k n 35 (gS l (i:Int) l[i] l[i] (d:Int) s' ((k+1:Nat):Int))):=by
   unfold iK;rw[aK hkl,ai,amg hkl,ai,ep,ep'];dsimp only;rw[dT k1,dT k2,aT (k:=k) (by omega)];cases aB (dec l[k].2.2.2.2.1) (dec p)==0<;>cases aB (dec l[k].2.2.2.2.2) (dec p)==0<;>exact⟨_,λ_=>rfl⟩
  obtain⟨s',hs⟩:=st;obtain⟨v,n,hn⟩:=ih (k+1) (by omega) s';exact⟨v,kg _ _ _ _ _ _ _ ⟨n,(hs n).trans hn⟩⟩
theorem aci(next:∃v,fP.Runs 6 (n7 l ((i+1:Nat):Int)) [.d .bool v]):∀(j d:Nat),d+j=2->∃v,fP.Runs 20 (lK l (i:Int) l[i] l[i] (d:Int)) [.d .bool v]:=by
 intro j;induction j with
 |zero=>
  intro d hd;obtain⟨v,n,hn⟩:=next;refine⟨v,qs _ _ _ _ _ ⟨n,?_⟩⟩;unfold qg;rw[dF (show ¬(d:Int)<2 by omega),aT (by omega)];exact hn
 |succ j ih=>
  intro d hd;obtain⟨v,n,hn⟩:=abU hl h hi (by omega) (ih (d+1) (by omega)) l.length 0 (amx _) 0;refine⟨v,qs _ _ _ _ _ ⟨n,?_⟩⟩;unfold qg;rw[dT (show(d:Int)<2 by omega)];exact hn
omit hi in
theorem afd:∀(j i:Nat),i+j=l.length->∃v,fP.Runs 6 (n7 l (i:Int)) [.d .bool v]:=by
 intro j;induction j with
 |zero=>
  intro i hi;refine⟨false,oG _ _ ⟨0,?_⟩⟩;unfold wO;rw[aX (by omega)]
 |succ j ih=>
  intro i hi;have hil:i<l.length:=by omega
  obtain⟨v,n,hn⟩:=aci hl h hil (ih (i+1) (by omega)) 2 0 rfl;refine⟨v,oG _ _ ⟨n,?_⟩⟩;unfold wO;rw[aK hil,ai,amg hil];exact hn
end
theorem adq{l:List BCU}(hl:l.length<=10000)(h:∀e∈l,gdN e):UZ l:=by
 suffices gX:∃v:Bool,(λ_:Bool=>True) v/\∃n,YX l (fP.k n)=some [.d .bool v] from gX.elim λv h=>⟨v,h.1,a8 FX (XL l h.2)⟩
 obtain⟨v,n,hn⟩:=afd hl h l.length 0 (amx _);exact⟨v,trivial,n,hn⟩
end
end Go.Proofs.YtmnlppieefomnaaGreatDoor
end
