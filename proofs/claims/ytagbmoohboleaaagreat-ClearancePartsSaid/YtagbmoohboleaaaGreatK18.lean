/- Real points of a piece lie on the curve. -/
import Derived.Test.YtagbmoohboleaaaGreatK17
import Derived.Test.YtagbmoohboleaaaGreatK16
import Derived.Test.YtagbmoohboleaaaGreatK14
import Derived.Test.YtagbmoohboleaaaGreatK15
noncomputable section
namespace Go.Proofs.YtagbmoohboleaaaGreat
open Go.RowKit Go.IntKind
section
open RE
namespace RE
theorem Ks{a b x y p:PE}(ha:0<dtE a a)(hb:dtE b b=dtE a a)(hab:a≠b)(hx:dtE x x=dtE a a)(hy:dtE y y=dtE a a)(hxy:x≠y)(hya:a≠y)(hp:dtE p p=dtE a a)(s2:fx a b y=true)(s3:fx a y x=true)(s4:fx x y p=true):fx a b p=true:=by
 by_cases e0:a=p
 ·exact e0▸(gP a b).1
 have ty:=(fJ ha hb hab hy hya).1 s2;have b2:=fX hp e0 ha;have b3:=fX hy hya ha;have b4:=fX hb hab ha;by_cases e1:a=x
 ·subst e1;have t:=(fJ ha hy hya hp e0).1 s4;exact(fJ ha hb hab hp e0).2 (zJ b2 b3 b4 t ty)
 have tx:=(fJ ha hy hya hx e1).1 s3;have b1:=fX hx e1 ha;by_cases e2:x=p
 ·subst e2;exact(fJ ha hb hab hp e0).2 (zJ b2 b3 b4 tx ty)
 have t:=(fJ (f:=x) (by rw[hx];exact ha) (hy.trans hx.symm) hxy (hp.trans hx.symm) e2).1 s4;rw[xo]at t;have t:=kR (x:=crs x p+crs p y+crs y x) (y:=dtE x x) (by rw[hx];exact ha) (by rw[mul_comm];exact t);have n1:0<dtE (hlf a x) (hlf a x):=by rw[sO hx];have:=mul_pos ha b1;grind
 have n2:0<dtE (hlf a p) (hlf a p):=by rw[sO hp];have:=mul_pos ha b2;grind
 have n3:0<dtE (hlf a y) (hlf a y):=by rw[sO hy];have:=mul_pos ha b3;grind
 have q:=aD t (le_of_lt (mul_pos (mul_pos n1 n2) n3));rw[I3 hx hp hy,mul_comm]at q;have q:=kR ha q;refine(fJ ha hb hab hp e0).2 (zJ b2 b3 b4 ?_ ty);show 0<=crs (hlf a p) (hlf a y);rcases lt_or_ge (crs (hlf a p) (hlf a y)) 0 with g|g
 ·exfalso
  have k:0<=crs (hlf a x) (hlf a p):=zJ b1 b3 b2 tx (by
   have:crs (hlf a y) (hlf a p)= -crs (hlf a p) (hlf a y):=zY _ _;show 0<=crs (hlf a y) (hlf a p);rw[this];grind)
  have hne:crs (hlf a x) (hlf a y)≠0:=λz=>hxy (by
   have r1:=ji hx;have r2:=ji hy
   have w1:(hlf a x).1*(hlf a y).2=(hlf a x).2*(hlf a y).1:=by
    have:crs (hlf a x) (hlf a y)=(hlf a x).1*(hlf a y).2-(hlf a x).2*(hlf a y).1:=rfl;rw[this]at z;grind
   obtain⟨i,hi⟩:=GK (x:=(hlf a y).2) (by grind)
   obtain⟨c,c1⟩:∃c,hlf a x=((hlf a y).1*c,(hlf a y).2*c):=by
    refine⟨(hlf a x).2*i,anN ?_ ?_⟩
    ·have:(hlf a x).1*((hlf a y).2*i)=(hlf a x).2*(hlf a y).1*i:=by
      have:(hlf a x).1*((hlf a y).2*i)=(hlf a x).1*(hlf a y).2*i:=by grind
      rw[this,w1]
     rw[hi,mul_one]at this;show _=(hlf a y).1*((hlf a x).2*i)
     rw[this];grind
    ·have:(hlf a y).2*((hlf a x).2*i)=(hlf a x).2*((hlf a y).2*i):=by grind
     show _=(hlf a y).2*((hlf a x).2*i)
     rw[this,hi,mul_one]
   have d:dtE (hlf a x) (hlf a x)=dtE (hlf a y) (hlf a y)*(c*c):=by
    rw[c1];unfold dtE;dsimp only;grind
   rw[d,c1,Jy,r2]at r1;have m1:=congrArg Prod.fst r1;have m2:=congrArg Prod.snd r1;dsimp only at m1 m2;have n:=n1;rw[d]at n;generalize c*c=e at*
   generalize dtE (hlf a y) (hlf a y)=N at*
   have c0:∀{u v:RE},u*N*e=v*(N*e)->v=u:=λ{u v} h=>by
    have:=(cU (show(v-u)*(N*e)=0 by grind)).resolve_right (by grind);grind
   exact anN (c0 m1) (c0 m2))
  have pxy:0<crs (hlf a x) (hlf a y):=(cJ tx).resolve_right hne
  have kp:0<crs (hlf a x) (hlf a p):=by
   rcases cJ k with h|h
   ·exact h
   ·exfalso;have h':0<=crs (hlf a p) (hlf a x):=by rw[zY,h];grind
    have:=zJ b2 b1 b3 h' tx;have e:crs (hlf a p) (hlf a y)=(hlf a p).1*(hlf a y).2-(hlf a p).2*(hlf a y).1:=rfl;rw[e]at g;grind
  have m:=mul_pos (mul_pos kp (show 0< -crs (hlf a p) (hlf a y) by grind)) pxy;grind
 ·exact g
end RE
end
section
open RE
theorem abZ{c:BCU}(h:gdN c){x y:BP}(g:gdN (eG c x y))(ox:onE (dC c) (pR (dec x)))(oy:onE (dC c) (pR (dec y)))(oo:c.1=true->(c.2.2.2.1=false->fx (frm (ciC (dC c)) (pR (frC (dC c)))) (frm (ciC (dC c)) (pR (dec y))) (frm (ciC (dC c)) (pR (dec x)))=true/\pR (frC (dC c))≠pR (dec y))/\(c.2.2.2.1=true->fx (frm (ciC (dC c)) (pR (toC (dC c)))) (frm (ciC (dC c)) (pR (dec x))) (frm (ciC (dC c)) (pR (dec y)))=true/\pR (toC (dC c))≠pR (dec x))){p:PE}(hp:onE (dC (eG c x y)) p):onE (dC c) p:=by
 have e:(dC c).1=c.1:=rfl;have e':(dC (eG c x y)).1=c.1:=rfl;cases ha:c.1
 ·rw[jQ (e.trans ha)]at ox oy ⊢;rw[jQ (e'.trans ha)]at hp;exact⟨hp.1,Tj ox.2 oy.2 hp.2⟩
 ·obtain⟨o1,o2⟩:=oo ha;have gc:=vK h.e (e.trans ha);have gp:=vK g.e (e'.trans ha);have n0:=gc.ne;have n1:=gp.ne;rw[ij (e.trans ha)]at ox oy ⊢;rw[ij (e'.trans ha)]at hp;have q0:0<of (ciC (dC c)).2.2:=fS gc.q;have u1:dtE (frm (ciC (dC c)) (pR (ccF (dC c)))) (frm (ciC (dC c)) (pR (ccF (dC c))))=of (ciC (dC c)).2.2:=gc.u;have w1:dtE (frm (ciC (dC c)) (pR (ccT (dC c)))) (frm (ciC (dC c)) (pR (ccT (dC c))))=of (ciC (dC c)).2.2:=gc.w;obtain⟨ox,sx⟩:=ox;obtain⟨oy,sy⟩:=oy;obtain⟨op,sp⟩:=hp;have dx:dtE (frm (ciC (dC c)) (pR (dec x))) (frm (ciC (dC c)) (pR (dec x)))=of (ciC (dC c)).2.2:=ox;have dy:dtE (frm (ciC (dC c)) (pR (dec y))) (frm (ciC (dC c)) (pR (dec y)))=of (ciC (dC c)).2.2:=oy;have dp:dtE (frm (ciC (dC c)) p) (frm (ciC (dC c)) p)=of (ciC (dC c)).2.2:=op;refine⟨op,?_⟩;obtain⟨car,cl,cc,ccw,cf,ct⟩:=c;cases ccw
  ·obtain⟨s3,ny⟩:=o1 rfl;exact Ks (a:=frm (dec cc) (pR (dec cf))) (b:=frm (dec cc) (pR (dec ct))) (x:=frm (dec cc) (pR (dec x))) (y:=frm (dec cc) (pR (dec y))) (p:=frm (dec cc) p) (u1.symm▸q0) (w1.trans u1.symm) n0 (dx.trans u1.symm) (dy.trans u1.symm) n1 (λz=>ny (CM z)) (dp.trans u1.symm) sy s3 sp
  ·obtain⟨s3,nx⟩:=o2 rfl;exact Ks (a:=frm (dec cc) (pR (dec ct))) (b:=frm (dec cc) (pR (dec cf))) (x:=frm (dec cc) (pR (dec y))) (y:=frm (dec cc) (pR (dec x))) (p:=frm (dec cc) p) (u1.symm▸q0) (w1.trans u1.symm) n0 (dy.trans u1.symm) (dx.trans u1.symm) n1 (λz=>nx (CM z)) (dp.trans u1.symm) sx s3 sp
end
section
open RE
theorem Wz{c:BCU}(h:gdN c){x y:BP}(hx:okP 580 x/\Spb (dC c) x)(hy:okP 580 y/\Spb (dC c) y)(nx:¬co (dC c) (dec x) (frC (dC c))<0/\¬co (dC c) (toC (dC c)) (dec x)<0)(ny:¬co (dC c) (dec y) (frC (dC c))<0/\¬co (dC c) (toC (dC c)) (dec y)<0)(hxy:co (dC c) (dec x) (dec y)<0){p:PE}(hp:onE (dC (eG c x y)) p):onE (dC c) p:=by
 have k:=nL h.gd;have o:=DB k;have g:=wP h hx hy hxy;have rx:Rpd (dec x:Pt):=hx.2.1;have ry:Rpd (dec y:Pt):=hy.2.1
 have ayx:¬co (dC c) (dec y) (dec x)<0:=by
  have:=o.asy hx.2 hy.2 hxy;omega
 refine abZ h g ((fU h.e).1 (by rw[gj k rx];exact(pB k rx).2 ⟨hx.2.2,nx⟩)) ((fU h.e).1 (by rw[gj k ry];exact(pB k ry).2 ⟨hy.2.2,ny⟩)) (λha=>⟨λhw=>?_,λhw=>?_⟩) hp
 ·have hF:okP 580 c.2.2.2.2.1/\Spb (dC c) c.2.2.2.2.1:=⟨h.1.1.2.2.1,k.f⟩
  have hFy:co (dC c) (dec c.2.2.2.2.1) (dec y)<0:=Decidable.byContradiction λz=>o.lt hy.2 k.f hx.2 z nx.1 hxy;have g1:=wP h hF hy hFy;have q:onE (dC (eG c c.2.2.2.2.1 y)) (pR (dec x)):=(fU g1.e).1 (by rw[gj g1.crp rx];exact(H7 k hF.2 hy.2 hFy rx).2 ⟨hx.2.2,nx.1,ayx⟩);have a1:(dC (eG c c.2.2.2.2.1 y)).1=true:=ha;rw[ij a1]at q;have n:=(vK g1.e a1).ne;obtain⟨car,cl,cc,ccw,cf,ct⟩:=c;cases hw;exact⟨q.2,λz=>n (congrArg (frm (dec cc)) z)⟩
 ·have hT:okP 580 c.2.2.2.2.2/\Spb (dC c) c.2.2.2.2.2:=⟨h.1.1.2.2.2,k.t⟩
  have hxT:co (dC c) (dec x) (dec c.2.2.2.2.2)<0:=Decidable.byContradiction λz=>o.lt hy.2 k.t hx.2 ny.2 z hxy;have g1:=wP h hx hT hxT;have q:onE (dC (eG c x c.2.2.2.2.2)) (pR (dec y)):=(fU g1.e).1 (by rw[gj g1.crp ry];exact(H7 k hx.2 hT.2 hxT ry).2 ⟨hy.2.2,ayx,ny.2⟩);have a1:(dC (eG c x c.2.2.2.2.2)).1=true:=ha;rw[ij a1]at q;have n:=(vK g1.e a1).ne;obtain⟨car,cl,cc,ccw,cf,ct⟩:=c;cases hw;exact⟨q.2,λz=>n (congrArg (frm (dec cc)) z)⟩
theorem Vn{α:Type}{R:α->α->Prop}{F T:α}:∀{s:List α},s.Pairwise R->F∈s->T∈s->(∀z∈s,¬R z F/\¬R T z)->R F T->∃y t,s=F::y::t/\(y::t).getLast (by simp)=T
 |[],_,h,_,_,_=>by cases h
 |[a],_,h,h',n,r=>by
  rw[aot.1 h,aot.1 h']at r;rw[aot.1 h]at n;exact absurd r (n a (by simp)).1
 |a::b::t,w,h,h',n,r=>by
  obtain⟨w1,w2⟩:=anF.1 w
  have e:a=F:=by
   rcases anr.1 h with e|e
   ·exact e.symm
   ·exact absurd (w1 _ e) (n a (by simp)).1
  refine⟨b,t,by rw[e],?_⟩
  have g:∀{l:List α} (hl:l≠[]),l.Pairwise R->T∈l->(∀z∈l,¬R T z)->l.getLast hl=T:=λ{l}=>by
   induction l with
   |nil=>intro hl;exact absurd rfl hl
   |cons x l ih=>
    intro hl hw hT hn;cases l with
    |nil=>exact(aot.1 hT).symm
    |cons y l=>
     rw[List.getLast_cons (by simp)];obtain⟨v1,v2⟩:=anF.1 hw;refine ih _ v2 ?_ λz hz=>hn z (ann _ hz);rcases anr.1 hT with q|q
     ·rw[q]at hn;exact absurd (v1 y (by simp)) (hn y (by simp))
     ·exact q
  refine g _ w2 ?_ λz hz=>(n z (ann _ hz)).2;rcases anr.1 h' with q|q
  ·rw[q,e]at r;exact absurd r (n F h).1
  ·exact q
theorem Rx{c:BCU}(h:gdN c){l:List BP}(ho:∀p∈l,okP 580 p/\onR (dC c) (dec p)=true):(∀e∈fR c l,∀p,onE (dC e) p->onE (dC c) p)/\∀p,onE (dC c) p->∃e∈fR c l,onE (dC e) p:=by
 have k:=nL h.gd;have pw:=TN h ho;have sp:=Gu h ho;obtain⟨mF,mT⟩:=Se h l
 have onc:∀z,z∈sw c l->¬co (dC c) (dec z) (frC (dC c))<0/\¬co (dC c) (toC (dC c)) (dec z)<0:=λz hz=>by
  rcases Ce hz with e|e|e
  ·rw[e];exact((pB k k.f.1).1 (G5 h).1).2
  ·rw[e];exact((pB k k.t.1).1 (G5 h).2).2
  ·exact((pB k (nM (ho z e).1)).1 (ho z e).2).2
 constructor
 ·intro e he p hp;obtain⟨x,y,hx,hy,hxy,q⟩:=ID pw he;rw[q]at hp;exact Wz h (sp x hx) (sp y hy) (onc x hx) (onc y hy) hxy hp
 ·intro p hp;obtain⟨y,t,e,hl⟩:=Vn pw mF mT onc (Zs h);unfold fR;rw[e]at pw sp ⊢;refine Gd h t _ y sp pw p ?_;rw[hl];exact hp
theorem BO{c d:BCU}(hc:gdN c)(hd:gdN d){l:List BP}(ho:∀p∈l,okP 580 p/\onR (dC c) (dec p)=true)(r:Rat):(∃e∈fR c l,iG e d r=iG c d r)/\(∀e∈fR c l,iG c d r<=iG e d r)/\iG c d r<=1:=by
 have gp:=Co hc ho;by_cases g:r<0
 ·have n:∀e,iG e d r=1:=λe=>by
   unfold iG Lv;rw[dT g];rfl
  have l1:=(xS hc l).1;rw[n c];exact⟨⟨_,anG (show 0<(fR c l).length by omega),n _⟩,λe _=>by rw[n e];exact Int.le_refl _,Int.le_refl _⟩
 ·have g:0<=r:=by grind
  obtain⟨s1,s2⟩:=Rx hc ho;obtain⟨m,⟨p,q,hp,hq,em⟩,lo,X⟩:=HP hc hd
  have a:∀e∈fR c l,iG c d r<=iG e d r:=λe he=>by
   obtain⟨m',⟨p',q',hp',hq',em'⟩,lo',X'⟩:=HP (gp e he) hd;rw[X r g,X' r g];refine fZ ?_;have:=lo p' q' (s1 e he p' hp') hq';grind
  obtain⟨e,he,oe⟩:=s2 p hp;refine⟨⟨e,he,Int.le_antisymm ?_ (a e he)⟩,a,by rw[X r g];exact Hn _⟩;obtain⟨m',_,lo',X'⟩:=HP (gp e he) hd;rw[X r g,X' r g];refine fZ ?_;have:=lo' p q oe hq;grind
end
section
instance amQ {a b c d e f:Rat} {i1 i2 i3 i4 i5 i6:Nat} [h1:Bd a i1] [h2:Bd b i2] [h3:Bd c i3] [h4:Bd d i4] [h5:Bd e i5] [h6:Bd f i6]:Bd ((a,b,c,d,e,f):Qd) (mx i1 (mx i2 (mx i3 (mx i4 (mx i5 i6))))):=inferInstance
instance alb {p:Pt} {v:Rat×Rat} {j k:Nat} [h:Bd p j] [h':Bd v k]:Bd (rcX p v) (j+k+1):=by
 have a:Bd (p.1-v.1) _:=inferInstance;have b:Bd p.2.1 j:=inferInstance;have i:Bd ((p.1-v.1,p.2.1):Rat×Rat) _:=inferInstance;exact i.mono (gn (by omega) (by omega))
instance amn {p:Pt} {v:Rat×Rat} {j k:Nat} [h:Bd p j] [h':Bd v k]:Bd (rcY p v) (j+k+1):=by
 have a:Bd (p.2.2.1-v.2) _:=inferInstance;have b:Bd p.2.2.2.1 j:=inferInstance;have i:Bd ((p.2.2.1-v.2,p.2.2.2.1):Rat×Rat) _:=inferInstance;exact i.mono (gn (by omega) (by omega))
instance alt {p q:Pt} {j k:Nat} [h:Bd p j] [h':Bd q k]:Bd (noQ p q) (j+k):=by
 have hj:1<=j:=pj (show bdR j p.1 from(inferInstance:Bd p.1 j).le);have z:Bd (0:Rat) (j+k):=⟨bK mM.le (by omega)⟩
 have a:Bd p.2.2.2.2 (j+k):=(inferInstance:Bd p.2.2.2.2 j).mono (by omega);have b:Bd q.2.2.2.2 (j+k):=(inferInstance:Bd q.2.2.2.2 k).mono (by omega);have i:Bd ((0,0,0,0,p.2.2.2.2,q.2.2.2.2):Qd) _:=inferInstance;have e:∀n,mx n n=n:=λn=>by unfold mx;rw[anb (ani n)];rfl
 simp only[e]at i;exact i
instance amb {q:Qd} {x y:Rat×Rat} {s:Rat} {i j k l:Nat} [h:Bd q i] [h1:Bd x j] [h2:Bd y k] [h3:Bd s l]:Bd (prQ q x y s) (i+l+j+k+1):=by
 have a1:Bd (q.1+s*(x.1*y.1)) (i+(l+(j+k))+1):=inferInstance;have a2:Bd (q.2.1+s*(x.2*y.1)) (i+(l+(j+k))+1):=inferInstance;have a3:Bd (q.2.2.1+s*(x.1*y.2)) (i+(l+(j+k))+1):=inferInstance;have a4:Bd (q.2.2.2.1+s*(x.2*y.2)) (i+(l+(j+k))+1):=inferInstance;have a5:Bd q.2.2.2.2.1 (i+(l+(j+k))+1):=(inferInstance:Bd q.2.2.2.2.1 i).mono (by omega);have a6:Bd q.2.2.2.2.2 (i+(l+(j+k))+1):=(inferInstance:Bd q.2.2.2.2.2 i).mono (by omega);have i6:Bd ((q.1+s*(x.1*y.1),q.2.1+s*(x.2*y.1),q.2.2.1+s*(x.1*y.2),q.2.2.2.1+s*(x.2*y.2),q.2.2.2.2.1,q.2.2.2.2.2):Qd) _:=inferInstance;have e:∀n,mx n n=n:=λn=>by unfold mx;rw[anb (ani n)];rfl
 simp only[e]at i6;exact i6.mono (by omega)
theorem acZ{q:Qd}{k:Nat}[h:Bd q k](hk:k<=6000)(h5:0<=q.2.2.2.2.1)(h6:0<=q.2.2.2.2.2):decide (okQ (enc q))=true:=by
 have n5:Nn q.2.2.2.2.1:=⟨h5⟩
 have n6:Nn q.2.2.2.2.2:=⟨h6⟩
 show decide (okQ (enc ((q.1,q.2.1,q.2.2.1,q.2.2.2.1,q.2.2.2.2.1,q.2.2.2.2.2):Qd)))=true;exact BM (a:=k) (b:=k) (c:=k) (d:=k) (m:=k) (n:=k) (by omega) (by omega) (by omega) (by omega) (by omega) (by omega)
instance amP:Bd z2 1:=(inferInstance:Bd ((0,0):Rat×Rat) _)
theorem alI(p:Pt)(v:Rat×Rat):(sqP p v).1=sqA p v:=by
 show(coR (sqA p v) (sqB p v) p.2.2.2.2).1=_;unfold coR;cases decide (sqB p v=0)<;>rfl
theorem aeB(p:Pt)(v:Rat×Rat):(sqP p v).2.1=sqB p v:=by
 show(coR (sqA p v) (sqB p v) p.2.2.2.2).2.1=_;unfold coR;by_cases e:sqB p v=0
 ·rw[anb e,e];rfl
 ·rw[ane e];rfl
theorem Z8(p:Pt)(v:Rat×Rat):(sqP p v).2.1=0\/(sqP p v).2.2=p.2.2.2.2:=by
 show(coR (sqA p v) (sqB p v) p.2.2.2.2).2.1=0\/(coR (sqA p v) (sqB p v) p.2.2.2.2).2.2=_;unfold coR;cases decide (sqB p v=0)
 ·exact .inr rfl
 ·exact .inl rfl
theorem ack{p q:Pt}{r:Rat}[bp:Bd p 580][bq:Bd q 580][br:Bd r 1000](hp:0<=p.2.2.2.2)(hq:0<=q.2.2.2.2):decide (okQ (enc (apQ p q r)))=true:=by
 have n1:Nn p.2.2.2.2:=⟨hp⟩
 have n2:Nn q.2.2.2.2:=⟨hq⟩
 have b2:Bd (-2:Rat) 3:=c7 (n:= -2) (by decide);have bD:Bd (doQ z2 p q) 3496:=(inferInstance:Bd (prQ (prQ (noQ p q) (rcX p z2) (rcX q z2) (-2)) (rcY p z2) (rcY q z2) (-2)) _).mono (by decide);have bA:Bd ((doQ z2 p q).1+(sqA p z2+sqA q z2)-r*r) _:=inferInstance;have bB:Bd ((doQ z2 p q).2.1+sqB p z2) _:=inferInstance;have bC:Bd ((doQ z2 p q).2.2.1+sqB q z2) _:=inferInstance;have bE:Bd (doQ z2 p q).2.2.2.1 3496:=inferInstance;exact BM (h1:=bA) (h2:=bB) (h3:=bC) (h4:=bE) (by decide) (by decide) (by decide) (by decide) (by decide) (by decide)
namespace RE
theorem ahn(a b c d:RE):a*d-b*c= -(c*b-d*a):=by grind
theorem Tz(u w:PE):crs u w= -crs w u:=ahn _ _ _ _
theorem turS_anti(v:Rat×Rat)(p q:PE):turS v p q= -turS v q p:=by
 unfold turS;rw[Tz,tF]
theorem wit_eq(c:Cv)(p:PE):witE c p=HZ (turS (ctr (ciC c)) (pR (ccF c)) (pR (ccT c))) (turS (ctr (ciC c)) (pR (ccF c)) p) (turS (ctr (ciC c)) p (pR (ccT c))):=rfl
theorem wit_go(a b c:Int):(match decide (a>=0)with|true=>(match decide (b>=0)with|true=>some [RV.d .bool (decide (c>=0))]|false=>some [RV.d .bool false])|false=>(match decide (-c<=0)with|true=>some [RV.d .bool true]|false=>some [RV.d .bool (decide (-b<=0))]))=some [RV.d .bool (HZ a b c)]:=by
 have h1:decide (-c<=0)=decide (0<=c):=aom.2 (by omega);have h2:decide (-b<=0)=decide (0<=b):=aom.2 (by omega);have h3:decide (c<0)=!decide (0<=c):=by rw[<-decide_not];exact aom.2 (by omega)
 have h4:decide (b<0)=!decide (0<=b):=by rw[<-decide_not];exact aom.2 (by omega)
 unfold HZ;simp only[h1,h2,h3,h4,ge_iff_le];cases decide (0<=a)<;>cases decide (0<=b)<;>cases decide (0<=c)<;>rfl
open Classical in
theorem bes_E{c:Cv}[hf:Rpd (frC c)][ht:Rpd (toC c)]{p:Pt}[hp:Rpd p]:besE c (pR p)=tn c p:=by
 unfold besE;rw[aps,an6];exact zk.symm
theorem min_if(a b:Int):(if b<a then b else a)=min a b:=by
 split<;>omega
theorem wr_sg(x:RE):i64.wrap (0-sg x)= -sg x:=by
 rcases bj x with⟨_,e⟩|⟨_,e⟩|⟨_,e⟩<;>rw[e]<;>rfl
theorem aeJ(a b m t:RE):a*a+m*(b*b)+2*(a*b)*t=(a+b*t)*(a+b*t)+(m-t*t)*(b*b):=by grind
theorem afc(A B C x y z w t:RE):A*x+B*y-C+(A*z+B*w)*t=A*(x+z*t)+B*(y+w*t)-C:=by grind
theorem vR_lin(l:Ln){p:Pt}[hp:Rpd p]:vR (mkR (so l p*so l p+p.2.2.2.2*(sH l p*sH l p)) (2*(so l p*sH l p)) p.2.2.2.2)=exE l (pR p)*exE l (pR p):=by
 have e:exE l (pR p)=of (so l p)+of (sH l p)*rq p.2.2.2.2:=by
  unfold exE pR pX pY v2 so sH;dsimp only;rw[of_sub,of_add,of_add,aC,aC,aC,aC,afc]
 have two:of 2=2:=rfl;rw[vR_mk,e];unfold v2;rw[of_add,aC,aC,aC,aC,aC,two,aeJ,dE hp.nn,sub_self,zero_mul,add_zero]
theorem sq_zr{p:Pt}[hp:Rpd p]{v:Rat×Rat}:(sgR (sqP p v)==0)=true↔pR p=vE v:=by
 have hr:Rdd (sqP p v):=inferInstance;rw[Il hr.nn,aop,qK,vR_sq];constructor
 ·intro e;obtain⟨a,b⟩:=lc e;exact anN (gV _ _ a) (gV _ _ b)
 ·intro e;rw[e];unfold dsE;rw[sub_self,sub_self,mul_zero,add_zero]
end RE
def adb:List En:=[⟨54,gK,eH⟩,enL aj7]
def Y8(r:BO3)(_k:KT):OLR:=match decide (okR r.1)with|true=>(match decide (okR r.2.1)with|true=>(match(aF (ah r.2.1) 0)==0 with|true=>some [RV.d aqw (aF (ah r.1) 0)]|false=>(match(aF (ah r.1) 0)==(aF (ah r.2.1) 0)with|true=>some [RV.d aqw (aF (ah r.1) 0)]|false=>(match(aF (ah r.1) 0)==0 with|true=>some [RV.d aqw (aF (ah r.2.1) 0)]|false=>(match decide (ok Rt 15000 r)with|true=>(match decide (okR (hid (ao (noR (dec r)))))with|true=>some [RV.d aqw (i64.wrap ((aF (ah r.1) 0)*(aF (ah (hid (ao (noR (dec r))))) 0)))]|false=>none)|false=>none))))|false=>none)|false=>none
def aky:Cn 129 [tO]:=cn λ(r:BO3)=>lf (okT 15000 r) [.d aqw (sgR (dec r))] λh=>by
 refine aB adb (Y8 r) ⟨0,?_⟩;have hr:=h;obtain⟨r,rfl,br,rr⟩:=ii hr;unfold Y8;simp only[bL,aA,uY,C0,fk,cC,okd,JZ,Nat.reduceAdd,Nat.reduceMul,Nat.reduceLeDiff,CV (kY _ _) (kY _ _)];rw[Zy rr];cases aF r.2.1 0==0
 ·cases aF r.1 0==aF r.2.1 0
  ·cases aF r.1 0==0<;>rfl
  ·rfl
 ·rfl
def Do:List En:=[⟨54,gK,eH⟩,⟨133,mv,iu⟩,⟨125,jn,fO⟩,⟨67,iV,fA⟩,⟨66,nA,jk⟩,⟨132,jR,gb⟩,⟨65,jx,fM⟩,enL Zo,enL OD,enL Bf,enL abo,enT Gf,enT Pg,enL Te,enL IP,enL OM,enL aaY,enL Y1,enT abJ,enT Pa,enT aky]
def Y3(p:BP)(v:BV)(_k:KT):OLR:=cD (og (o2 p.1 v.1) (cD (og (o2 p.2.2.1 v.2) (dup (.b .l .l) (some [RV.d tV (hSu p.1 v.1,p.2.1),RV.d tV (hSu p.2.2.1 v.2,p.2.2.2.1)]))) (og (o2 p.2.2.1 v.2) (some [RV.d tV (hSu p.1 v.1,p.2.1),RV.d tV (hSu p.2.2.1 v.2,p.2.2.2.1)])))) (og (o2 p.1 v.1) (og (o2 p.2.2.1 v.2) (some [RV.d tV (hSu p.1 v.1,p.2.1),RV.d tV (hSu p.2.2.1 v.2,p.2.2.2.1)])))
def ag3:Cn 214 [tP,tV]:=cn λ(p:BP) (v:BV)=>lf (okP 580 p/\ok (Rat×Rat) 400 v) [.d tV (enc (rcX (dec p) (dec v))),.d tV (enc (rcY (dec p) (dec v)))] λh=>by
 refine aB Do (Y3 p v) ⟨0,?_⟩;obtain⟨hp,hv⟩:=h;obtain⟨p,rfl,bp,rp⟩:=bU hp;obtain⟨v,rfl,bv⟩:=aI hv;unfold Y3;simp only[aX,Nat.reduceLeDiff];try rfl
def Y9(q:BQ)(x y:BV)(s:Int)(_k:KT):OLR:=og (decide (aJ s)) (og (o2 x.1 y.1) (og (o2 (hid (ao (s:Rat))) (hMu x.1 y.1)) (og (o2 q.1 (hMu (hid (ao (s:Rat))) (hMu x.1 y.1))) (og (o2 x.2 y.1) (og (o2 (hid (ao (s:Rat))) (hMu x.2 y.1)) (og (o2 q.2.1 (hMu (hid (ao (s:Rat))) (hMu x.2 y.1))) (og (o2 x.1 y.2) (og (o2 (hid (ao (s:Rat))) (hMu x.1 y.2)) (og (o2 q.2.2.1 (hMu (hid (ao (s:Rat))) (hMu x.1 y.2))) (og (o2 x.2 y.2) (og (o2 (hid (ao (s:Rat))) (hMu x.2 y.2)) (og (o2 q.2.2.2.1 (hMu (hid (ao (s:Rat))) (hMu x.2 y.2))) (some [RV.d tQ (hAd q.1 (hMu (hid (ao (s:Rat))) (hMu x.1 y.1)),(hAd q.2.1 (hMu (hid (ao (s:Rat))) (hMu x.2 y.1)),(hAd q.2.2.1 (hMu (hid (ao (s:Rat))) (hMu x.1 y.2)),(hAd q.2.2.2.1 (hMu (hid (ao (s:Rat))) (hMu x.2 y.2)),q.2.2.2.2))))])))))))))))))
def agN:Cn 215 [tQ,tV,tV,aqw]:=cn λ(q:BQ) (x y:BV) (s:Int)=>lf (ok Qd 12000 q/\ok (Rat×Rat) 2500 x/\ok (Rat×Rat) 2500 y/\aJ s) [.d tQ (enc (prQ (dec q) (dec x) (dec y) (s:Rat)))] λh=>by
 refine aB Do (Y9 q x y s) ⟨0,?_⟩;obtain⟨hq,hx,hy,hs⟩:=h;obtain⟨q,rfl,bq⟩:=aI hq;obtain⟨x,rfl,bx⟩:=aI hx;obtain⟨y,rfl,b_y⟩:=aI hy;have bs:=c7 hs;unfold Y9;simp only[aX,Nat.reduceAdd,Nat.reduceLeDiff,dT hs];try rfl
def aaN(p q:BP)(_k:KT):OLR:=og (decide (aJ (0:Int))) (some [RV.d tQ (hid (ao ((0:Int):Rat)),(hid (ao ((0:Int):Rat)),(hid (ao ((0:Int):Rat)),(hid (ao ((0:Int):Rat)),(p.2.2.2.2,q.2.2.2.2)))))])
def ah7:Cn 216 [tP,tP]:=cn λ(p q:BP)=>lf (okP 580 p/\okP 580 q) [.d tQ (enc (noQ (dec p) (dec q)))] λh=>by
 refine aB Do (aaN p q) ⟨0,?_⟩;obtain⟨hp,hq⟩:=h;obtain⟨p,rfl,bp,rp⟩:=bU hp;obtain⟨q,rfl,bq,rq⟩:=bU hq;unfold aaN;simp only[aX,dT (show aJ 0 by decide)];try rfl
def Db:List En:=enL ag3::enL agN::enL ah7::Do
def Ys(v:BV)(p q:BP)(_k:KT):OLR:=og (decide (okP 580 p/\ok (Rat×Rat) 400 v)) (og (decide (okP 580 q/\ok (Rat×Rat) 400 v)) (og (decide (okP 580 p/\okP 580 q)) (og (decide (ok Qd 12000 (hid (enc (noQ (dec p) (dec q))))/\ok (Rat×Rat) 2500 (hid (enc (rcX (dec p) (dec v))))/\ok (Rat×Rat) 2500 (hid (enc (rcY (dec q) (dec v))))/\aJ (1:Int))) (og (decide (ok Qd 12000 (hid (enc (prQ (dec (hid (enc (noQ (dec p) (dec q))))) (dec (hid (enc (rcX (dec p) (dec v))))) (dec (hid (enc (rcY (dec q) (dec v))))) ((1:Int):Rat))))/\ok (Rat×Rat) 2500 (hid (enc (rcY (dec p) (dec v))))/\ok (Rat×Rat) 2500 (hid (enc (rcX (dec q) (dec v))))/\aJ ((-1):Int))) (og (decide (okQ (hid (enc (prQ (dec (hid (enc (prQ (dec (hid (enc (noQ (dec p) (dec q))))) (dec (hid (enc (rcX (dec p) (dec v))))) (dec (hid (enc (rcY (dec q) (dec v))))) ((1:Int):Rat))))) (dec (hid (enc (rcY (dec p) (dec v))))) (dec (hid (enc (rcX (dec q) (dec v))))) (((-1):Int):Rat)))))) (some [RV.d aqw (sgQ (dec (hid (enc (prQ (dec (hid (enc (prQ (dec (hid (enc (noQ (dec p) (dec q))))) (dec (hid (enc (rcX (dec p) (dec v))))) (dec (hid (enc (rcY (dec q) (dec v))))) ((1:Int):Rat))))) (dec (hid (enc (rcY (dec p) (dec v))))) (dec (hid (enc (rcX (dec q) (dec v))))) (((-1):Int):Rat))))))]))))))
def ahp:Cn 226 [tV,tP,tP]:=cn λ(v:BV) (p q:BP)=>lf (ok (Rat×Rat) 400 v/\okP 580 p/\okP 580 q) [.d aqw (RE.turS (dec v) (RE.pR (dec p)) (RE.pR (dec q)))] λh=>by
 refine aB Db (Ys v p q) ⟨0,?_⟩;obtain⟨hv,hp,hq⟩:=h;obtain⟨v,rfl,bv⟩:=aI hv;obtain⟨p,rfl,bp,rp⟩:=bU hp;obtain⟨q,rfl,bq,rq⟩:=bU hq;have h1:decide (aJ 1)=true:=by decide
 have h2:decide (aJ (-1))=true:=by decide
 have c1:((1:Int):Rat)=1:=rfl;have c2:((-1:Int):Rat)= -1:=rfl;have b1:Bd (1:Rat) 3:=c7 (n:=1) (by decide);have b2:Bd (-1:Rat) 3:=c7 (n:= -1) (by decide);have n1:Bd (prQ (prQ (noQ p q) (rcX p v) (rcY q v) 1) (rcY p v) (rcX q v) (-1)) _:=inferInstance;have o1:decide (okQ (enc (prQ (prQ (noQ p q) (rcX p v) (rcY q v) 1) (rcY p v) (rcX q v) (-1))))=true:=acZ (k:=6000) (h:=n1.mono (by decide)) (by decide) rp.nn rq.nn;unfold Ys;simp only[aX,Nat.reduceAdd,Nat.reduceLeDiff,aQ,h1,h2,c1,c2,o1];rw[<-RE.crQ_re];rfl
def Y2(a:BO3)(c:BR)(_k:KT):OLR:=og (o1 a.2.1) (match(aF (ah a.2.1) 0)==0 with|true=>some [RV.d tR a.2.1]|false=>(og (o2 a.2.2 c) (match(aF (ah a.2.2) (ah c))==0 with|true=>some [RV.d tR a.2.1]|false=>(og (decide (ju a.2.2 c)) (og (o1 (hDi a.2.2 c)) (match !(gR (ah (hDi a.2.2 c)))with|true=>some [RV.d tR a.2.1]|false=>(og (o2 a.2.1 (hid (rtB (ah (hDi a.2.2 c))))) (some [RV.d tR (hMu a.2.1 (hid (rtB (ah (hDi a.2.2 c)))))]))))))))
def ajG:Cn 217 [tO,tR]:=cn λ(a:BO3) (c:BR)=>lf (okT 15000 a/\ok Rat 15000 c/\((dec a:Rt).2.1=0\/(dec a:Rt).2.2=ah c)) [.d tR (ao (dec a:Rt).2.1)] λh=>by
 refine aB Db (Y2 a c) ⟨0,?_⟩;obtain⟨ha,hc,h⟩:=h;obtain⟨a,rfl,ba,ra⟩:=ii ha;obtain⟨c,rfl,bc⟩:=aI hc;rw[aA,fk,cC]at h;unfold Y2;simp only[aX,Nat.reduceAdd,Nat.reduceLeDiff,au];by_cases e:a.2.1=0
 ·rw[dT e]
 ·rw[dF e,dT (h.resolve_left e)]
def YK(d:BO3)(q r:BR)(_k:KT):OLR:=og (o2 r r) (og (o2 q (hMu r r)) (og (o2 r r) (og (decide (ok Rat 100000 (hAd q (hMu r r))/\ok Rat 100000 (hAd r r)/\ok Rat 100000 q/\0<=ah q)) (og (decide (okT 15000 d/\okT 15000 (hid (enc (mkR (ah (hAd q (hMu r r))) (ah (hAd r r)) (ah q)))))) (match decide ((bi (dec d) (dec (hid (enc (mkR (ah (hAd q (hMu r r))) (ah (hAd r r)) (ah q))))))>=0)with|true=>some [RV.d aqw (bi (dec d) (dec (hid (enc (mkR (ah (hAd q (hMu r r))) (ah (hAd r r)) (ah q))))))]|false=>(og (o2 r r) (og (o2 q (hMu r r)) (match decide ((aF (ah q) (ah (hMu r r)))<=0)with|true=>some [RV.d aqw (-1)]|false=>(og (o1 (hAd r r)) (og (decide (ok Rat 100000 (hAd q (hMu r r))/\ok Rat 100000 (hNe (hAd r r))/\ok Rat 100000 q/\0<=ah q)) (og (decide (okT 15000 d/\okT 15000 (hid (enc (mkR (ah (hAd q (hMu r r))) (ah (hNe (hAd r r))) (ah q)))))) (some [RV.d aqw (i64.wrap (0-(bi (dec d) (dec (hid (enc (mkR (ah (hAd q (hMu r r))) (ah (hNe (hAd r r))) (ah q))))))))]))))))))))))
def ajU:Cn 131 [tO,tR,tR]:=cn λ(d:BO3) (q r:BR)=>lf (okT 15000 d/\ok Rat 1000 q/\ok Rat 1000 r/\0<=ah q) [.d aqw (RE.rngS (RE.vR (dec d)) (ah q) (ah r))] λh=>by
 refine aB Db (YK d q r) ⟨0,?_⟩;obtain⟨hd,hq,hr,hn⟩:=h;obtain⟨d,rfl,bd,rd⟩:=ii hd;obtain⟨q,rfl,bq⟩:=aI hq;obtain⟨r,rfl,br⟩:=aI hr;rw[fk,cC]at hn;have nq:Nn q:=⟨hn⟩
 have m:∀a b,bi d (mkR a b q)=RE.sg (RE.vR d-RE.v2 a b q):=λa b=>by
  rw[RE.cmpT_re rd.nn (uQ (a:=a) (b:=b) (c:=q)).nn,RE.vR_mk]
 unfold YK RE.rngS;simp only[aX,Nat.reduceAdd,Nat.reduceLeDiff,aP,dT hn,m,ge_iff_le,RE.wr_sg];cases decide (0<=RE.sg (RE.vR d-RE.v2 (q+r*r) (r+r) q))
 ·cases decide (aF q (r*r)<=0)<;>rfl
 ·rfl
def Hj:List En:=enT ahp::enL ajG::enT ajU::Db
def Zu(p q:BP)(r:BR)(_k:KT):OLR:=let y1:=ao ((0:Int):Rat);let y2:=hid (enc (noQ (dec p) (dec q)));let y3:=dec (hid y1,hid y1);let y4:=hid (enc (rcX (dec p) y3));let y5:=hid (enc (rcX (dec q) y3));let y6:=hid (enc (prQ (dec y2) (dec y4) (dec y5) (((-2):Int):Rat)));let y7:=hid (enc (rcY (dec p) y3));let y8:=hid (enc (rcY (dec q) y3));let y9:=hid (enc (sqP (dec p) y3));let y10:=hid (enc (sqP (dec q) y3));let y11:=hid (enc (prQ (dec y6) (dec y7) (dec y8) (((-2):Int):Rat)));let y12:=hAd (y9.1) (y10.1);let y13:=hid (ao (dec y9:Rt).2.1);let y14:=hid (ao (dec y10:Rt).2.1);og (decide (aJ (0:Int))) (og (decide (aJ (0:Int))) (og (decide (okP 580 p/\ok (Rat×Rat) 400 (hid y1,hid y1))) (og (decide (okP 580 q/\ok (Rat×Rat) 400 (hid y1,hid y1))) (og (decide (okP 580 p/\okP 580 q)) (og (decide (ok Qd 12000 y2/\ok (Rat×Rat) 2500 y4/\ok (Rat×Rat) 2500 y5/\aJ ((-2):Int))) (og (decide (ok Qd 12000 y6/\ok (Rat×Rat) 2500 y7/\ok (Rat×Rat) 2500 y8/\aJ ((-2):Int))) (og (decide (okP 3500 p/\ok (Rat×Rat) 300 (hid y1,hid y1))) (og (decide (okP 3500 q/\ok (Rat×Rat) 300 (hid y1,hid y1))) (og (o2 (y9.1) (y10.1)) (og (o2 (y11.1) y12) (og (o2 r r) (og (o2 (hAd (y11.1) y12) (hMu r r)) (og (decide (okT 15000 y9/\ok Rat 15000 p.2.2.2.2/\((dec y9:Rt).2.1=0\/(dec y9:Rt).2.2=ah p.2.2.2.2))) (og (o2 ((y11.2).1) y13) (og (decide (okT 15000 y10/\ok Rat 15000 q.2.2.2.2/\((dec y10:Rt).2.1=0\/(dec y10:Rt).2.2=ah q.2.2.2.2))) (og (o2 (((y11.2).2).1) y14) (og (decide (okQ (hSu (hAd (y11.1) y12) (hMu r r),(hAd ((y11.2).1) y13,(hAd (((y11.2).2).1) y14,((y11.2).2).2))))) (some [RV.d aqw (sgQ (dec (hSu (hAd (y11.1) y12) (hMu r r),(hAd ((y11.2).1) y13,(hAd (((y11.2).2).1) y14,((y11.2).2).2)))))]))))))))))))))))))
def agz:Cn 119 [tP,tP,tR]:=cn λ(p q:BP) (r:BR)=>lf (okP 580 p/\okP 580 q/\ok Rat 1000 r) [.d aqw (RE.apaS (RE.pR (dec p)) (RE.pR (dec q)) (ah r))] λh=>by
 refine aB Hj (Zu p q r) ⟨0,?_⟩;obtain⟨hp,hq,hr⟩:=h;obtain⟨p,rfl,bp,rp⟩:=bU hp;obtain⟨q,rfl,bq,rq⟩:=bU hq;obtain⟨r,rfl,br⟩:=aI hr;have h0:decide (aJ 0)=true:=by decide
 have h2:decide (aJ (-2))=true:=by decide
 have c2:((-2:Int):Rat)= -2:=rfl;have b2:Bd (-2:Rat) 3:=c7 (n:= -2) (by decide);have hz:((ao ((0:Int):Rat),ao ((0:Int):Rat)):BV)=enc z2:=rfl;have o1:=ack (p:=p) (q:=q) (r:=r) rp.nn rq.nn;unfold Zu;simp only[aX,Nat.reduceAdd,Nat.reduceMul,Nat.reduceLeDiff,aP,aQ,h0,h2,c2,hz,dT (show sqB p z2=0\/(sqP p z2).2.2=p.2.2.2.2 by rw[<-aeB];exact Z8 p z2),dT (show sqB q z2=0\/(sqP q z2).2.2=q.2.2.2.2 by rw[<-aeB];exact Z8 q z2),alI,aeB];show(match decide (okQ (enc (apQ p q r)))with|true=>some [RV.d aqw (sgQ (dec (enc (apQ p q r))))]|false=>none)=_;rw[aA,o1,RE.apQ_re]
def aaS(c:BCU)(p:BP)(_k:KT):OLR:=match c.2.2.2.1 with|true=>(og (decide (ok (Rat×Rat) 400 (hid ((c.2.2.1.1,c.2.2.1.2.1)))/\okP 580 c.2.2.2.2.2/\okP 580 c.2.2.2.2.1)) (match decide ((RE.turS (dec (hid ((c.2.2.1.1,c.2.2.1.2.1)))) (RE.pR (dec c.2.2.2.2.2)) (RE.pR (dec c.2.2.2.2.1)))>=0)with|true=>(og (decide (ok (Rat×Rat) 400 (hid ((c.2.2.1.1,c.2.2.1.2.1)))/\okP 580 c.2.2.2.2.2/\okP 580 p)) (match decide ((RE.turS (dec (hid ((c.2.2.1.1,c.2.2.1.2.1)))) (RE.pR (dec c.2.2.2.2.2)) (RE.pR (dec p)))>=0)with|true=>(og (decide (ok (Rat×Rat) 400 (hid ((c.2.2.1.1,c.2.2.1.2.1)))/\okP 580 p/\okP 580 c.2.2.2.2.1)) (some [RV.d .bool (decide ((RE.turS (dec (hid ((c.2.2.1.1,c.2.2.1.2.1)))) (RE.pR (dec p)) (RE.pR (dec c.2.2.2.2.1)))>=0))]))|false=>some [RV.d .bool false]))|false=>(og (decide (ok (Rat×Rat) 400 (hid ((c.2.2.1.1,c.2.2.1.2.1)))/\okP 580 c.2.2.2.2.1/\okP 580 p)) (match decide ((RE.turS (dec (hid ((c.2.2.1.1,c.2.2.1.2.1)))) (RE.pR (dec c.2.2.2.2.1)) (RE.pR (dec p)))<=0)with|true=>some [RV.d .bool true]|false=>(og (decide (ok (Rat×Rat) 400 (hid ((c.2.2.1.1,c.2.2.1.2.1)))/\okP 580 p/\okP 580 c.2.2.2.2.2)) (some [RV.d .bool (decide ((RE.turS (dec (hid ((c.2.2.1.1,c.2.2.1.2.1)))) (RE.pR (dec p)) (RE.pR (dec c.2.2.2.2.2)))<=0))]))))))|false=>(og (decide (ok (Rat×Rat) 400 (hid ((c.2.2.1.1,c.2.2.1.2.1)))/\okP 580 c.2.2.2.2.1/\okP 580 c.2.2.2.2.2)) (match decide ((RE.turS (dec (hid ((c.2.2.1.1,c.2.2.1.2.1)))) (RE.pR (dec c.2.2.2.2.1)) (RE.pR (dec c.2.2.2.2.2)))>=0)with|true=>(og (decide (ok (Rat×Rat) 400 (hid ((c.2.2.1.1,c.2.2.1.2.1)))/\okP 580 c.2.2.2.2.1/\okP 580 p)) (match decide ((RE.turS (dec (hid ((c.2.2.1.1,c.2.2.1.2.1)))) (RE.pR (dec c.2.2.2.2.1)) (RE.pR (dec p)))>=0)with|true=>(og (decide (ok (Rat×Rat) 400 (hid ((c.2.2.1.1,c.2.2.1.2.1)))/\okP 580 p/\okP 580 c.2.2.2.2.2)) (some [RV.d .bool (decide ((RE.turS (dec (hid ((c.2.2.1.1,c.2.2.1.2.1)))) (RE.pR (dec p)) (RE.pR (dec c.2.2.2.2.2)))>=0))]))|false=>some [RV.d .bool false]))|false=>(og (decide (ok (Rat×Rat) 400 (hid ((c.2.2.1.1,c.2.2.1.2.1)))/\okP 580 c.2.2.2.2.2/\okP 580 p)) (match decide ((RE.turS (dec (hid ((c.2.2.1.1,c.2.2.1.2.1)))) (RE.pR (dec c.2.2.2.2.2)) (RE.pR (dec p)))<=0)with|true=>some [RV.d .bool true]|false=>(og (decide (ok (Rat×Rat) 400 (hid ((c.2.2.1.1,c.2.2.1.2.1)))/\okP 580 p/\okP 580 c.2.2.2.2.1)) (some [RV.d .bool (decide ((RE.turS (dec (hid ((c.2.2.1.1,c.2.2.1.2.1)))) (RE.pR (dec p)) (RE.pR (dec c.2.2.2.2.1)))<=0))]))))))
def af1:Cn 130 [tCU,tP]:=cn λ(c:BCU) (p:BP)=>lf (xi c.2.2.1/\okP 580 c.2.2.2.2.1/\okP 580 c.2.2.2.2.2/\okP 580 p) [.d .bool (RE.witE (dC c) (RE.pR (dec p)))] λh=>by
 refine aB Hj (aaS c p) ⟨0,?_⟩;obtain⟨⟨hc,_⟩,hf,ht,hp⟩:=h;obtain⟨p,rfl,bp,rp⟩:=bU hp;obtain⟨ar,li,ci,cw,fr,to⟩:=c;simp only at hc hf ht;obtain⟨ci,rfl,bc⟩:=aI hc;obtain⟨fr,rfl,bf,rf⟩:=bU hf;obtain⟨to,rfl,bt,rt⟩:=bU ht;have e0:((ao ci.1,ao ci.2.1):BV)=enc (ctr ci):=rfl;unfold aaS;rw[RE.wit_eq];simp only[aX,Nat.reduceLeDiff,aQ,e0];cases cw
 ·simp only[aX,dC,ciC,ccF,ccT,cwC,frC,toC];rw[RE.turS_anti (ctr ci) (RE.pR to) (RE.pR p),RE.turS_anti (ctr ci) (RE.pR p) (RE.pR fr)];exact RE.wit_go _ _ _
 ·simp only[aX,dC,ciC,ccF,ccT,cwC,frC,toC];rw[RE.turS_anti (ctr ci) (RE.pR fr) (RE.pR p),RE.turS_anti (ctr ci) (RE.pR p) (RE.pR to)];exact RE.wit_go _ _ _
def Tq:List En:=enT agz::enT af1::Hj
def afk:NT:=[((55,21),{keep:=[25],hl:=0}),((55,49),{keep:=[107],hl:=0})]
def aj9:Ctx:=CX (ens Tq) afk
def YT(c:BCU)(p:BP)(r:BR)(_k:KT):OLR:=let y1:=RE.pR (dec c.2.2.2.2.2);let y2:=RE.pR (dec c.2.2.2.2.1);let y3:OLR:=match decide (okP 580 c.2.2.2.2.1/\okP 580 p/\ok Rat 1000 r)with|true=>(match decide (okP 580 c.2.2.2.2.2/\okP 580 p/\ok Rat 1000 r)with|true=>some [RV.d aqw (if RE.apaS y1 (RE.pR (dec p)) (ah r)<RE.apaS y2 (RE.pR (dec p)) (ah r)then RE.apaS y1 (RE.pR (dec p)) (ah r)else RE.apaS y2 (RE.pR (dec p)) (ah r))]|false=>none)|false=>none;let y4:=hMu c.2.1.2.1 p.2.2.1;let y5:=hAd (hMu c.2.1.1 p.1) y4;let y6:=hMu c.2.1.2.1 p.2.2.2.1;let y7:=hSu y5 c.2.1.2.2;let y8:=hAd (hMu c.2.1.1 p.2.1) y6;let y9:=hMu p.2.2.2.2 (hMu y8 y8);let y10:=hid (ao ((2:Int):Rat));let y11:=hAd (hMu y7 y7) y9;let y12:=hMu y10 (hMu y7 y8);let y13:=hMu c.2.1.1 c.2.1.1;let y14:=hMu c.2.1.2.1 c.2.1.2.1;let y15:=hid (enc (mkR (ah y11) (ah y12) (ah p.2.2.2.2)));let y16:=hMu (hMu r r) (hAd y13 y14);let y17:=hid ((c.2.2.1.1,c.2.2.1.2.1));let y18:=hid (enc (sqP (dec p) (dec y17)));match decide (okR r)with|true=>(match decide ((aF (ah r) 0)<0)with|true=>some [RV.d aqw 1]|false=>(match !c.1 with|true=>(match decide (okC 3000 c/\okP 3000 p/\c.1=false)with|true=>(match !(tn (dC c) (dec p))with|true=>y3|false=>(match decide (okR c.2.1.1/\okR p.1)with|true=>(match decide (okR c.2.1.2.1/\okR p.2.2.1)with|true=>(match decide (okR (hMu c.2.1.1 p.1)/\okR y4)with|true=>(match decide (okR y5/\okR c.2.1.2.2)with|true=>(match decide (okR c.2.1.1/\okR p.2.1)with|true=>(match decide (okR c.2.1.2.1/\okR p.2.2.2.1)with|true=>(match decide (okR (hMu c.2.1.1 p.2.1)/\okR y6)with|true=>(match decide (okR y7/\okR y7)with|true=>(match decide (okR y8/\okR y8)with|true=>(match decide (okR p.2.2.2.2/\okR (hMu y8 y8))with|true=>(match decide (okR (hMu y7 y7)/\okR y9)with|true=>(match decide (aJ (2:Int))with|true=>(match decide (okR y7/\okR y8)with|true=>(match decide (okR y10/\okR (hMu y7 y8))with|true=>(match decide (ok Rat 100000 y11/\ok Rat 100000 y12/\ok Rat 100000 p.2.2.2.2/\0<=ah p.2.2.2.2)with|true=>(match decide (okR r/\okR r)with|true=>(match decide (okR c.2.1.1/\okR c.2.1.1)with|true=>(match decide (okR c.2.1.2.1/\okR c.2.1.2.1)with|true=>(match decide (okR y13/\okR y14)with|true=>(match decide (okR (hMu r r)/\okR (hAd y13 y14))with|true=>(match decide (okT 15000 y15/\ok Rat 15000 y16)with|true=>some [RV.d aqw (gQ (dec y15) (ah y16))]|false=>none)|false=>none)|false=>none)|false=>none)|false=>none)|false=>none)|false=>none)|false=>none)|false=>none)|false=>none)|false=>none)|false=>none)|false=>none)|false=>none)|false=>none)|false=>none)|false=>none)|false=>none)|false=>none)|false=>none)|false=>none))|false=>none)|false=>(match decide (okP 3500 p/\ok (Rat×Rat) 300 y17)with|true=>(match decide (okT 15000 y18)with|true=>(match(sgR (dec y18))==0 with|true=>(match decide (okR r/\okR r)with|true=>(match decide (okR c.2.2.1.2.2/\okR (hMu r r))with|true=>some [RV.d aqw (aF (ah c.2.2.1.2.2) (ah (hMu r r)))]|false=>none)|false=>none)|false=>(match decide (xi c.2.2.1/\okP 580 c.2.2.2.2.1/\okP 580 c.2.2.2.2.2/\okP 580 p)with|true=>(match !(RE.witE (dC c) (RE.pR (dec p)))with|true=>y3|false=>(match decide (okT 15000 y18/\ok Rat 1000 c.2.2.1.2.2/\ok Rat 1000 r/\0<=ah c.2.2.1.2.2)with|true=>some [RV.d aqw (RE.rngS (RE.vR (dec y18)) (ah c.2.2.1.2.2) (ah r))]|false=>none))|false=>none))|false=>none)|false=>none)))|false=>none
theorem ajA(c:BCU)(p:BP)(r:BR):RS aj9 55 [.d tCU c,.d tP p,.d tR r] (YT c p r):=rsX
open Classical in
def af4:Cn 55 [tCU,tP,tR]:=cn λ(c:BCU) (p:BP) (r:BR)=>lf (okC 580 c/\okP 580 p/\ok Rat 1000 r) [.d aqw (RE.poiE (dC c) (RE.pR (dec p)) (ah r))] λh=>by
 refine dk Tq (ajA _ _ _ ⟨0,?_⟩);obtain⟨hc,hp,hr⟩:=h;have hp1:=cS (k:=580) hp (by decide) (by decide);have hp6:=cS (k:=580) hp (by decide) (by decide);have hp3:=cS (k:=3000) hp (by decide) (by decide);have hc3:=cj (k:=3000) hc (by decide) (by decide);obtain⟨p,rfl,bp,rp⟩:=bU hp;obtain⟨r,rfl,br⟩:=aI hr;obtain⟨ar,li,ci,cw,fr,to⟩:=c;have h3:=hc.2.2.1;have h4:=hc.2.2.2;simp only at h3 h4;obtain⟨fr,rfl,bf,rf⟩:=bU h3;obtain⟨to,rfl,bt,rt⟩:=bU h4;have o1:decide (okP 580 (enc fr)/\okP 580 (enc p)/\ok Rat 1000 (ao r))=true:=anb ⟨h3,hp1,hr⟩;have o2:decide (okP 580 (enc to)/\okP 580 (enc p)/\ok Rat 1000 (ao r))=true:=anb ⟨h4,hp1,hr⟩;have b2:Bd ((2:Int):Rat) 3:=c7 (n:=2) (by decide);have i2:decide (aJ 2)=true:=by decide
 have hn:0<=p.2.2.2.2:=rp.nn;rw[fk,cC,aA];unfold YT RE.poiE;cases ar
 ·obtain⟨c2,c3⟩:=hc.2.1 rfl;simp only at c2 c3;obtain⟨li,rfl,bl⟩:=aI c2;have o3:decide (okC 3000 (false,enc li,ci,cw,enc fr,enc to)/\okP 3000 (enc p)/\(false,enc li,ci,cw,enc fr,enc to).1=false)=true:=anb ⟨hc3,hp3,rfl⟩;have hb:RE.besE (false,li,dec ci,cw,fr,to) (RE.pR p)=tn (false,li,dec ci,cw,fr,to) p:=RE.bes_E (c:=(false,li,dec ci,cw,fr,to)) (hf:=rf) (ht:=rt)
  have q2:gQ (mkR (so li p*so li p+p.2.2.2.2*(sH li p*sH li p)) (2*(so li p*sH li p)) p.2.2.2.2) (r*r*(li.1*li.1+li.2.1*li.2.1))=RE.sg (RE.exE li (RE.pR p)*RE.exE li (RE.pR p)-RE.of (r*r*(li.1*li.1+li.2.1*li.2.1))):=by
   rw[RE.cmpTR_re (uQ (h:=⟨hn⟩)).nn,RE.vR_lin]
  have bA:Bd (so li p) 2070:=(inferInstance:Bd (li.1*p.1+li.2.1*p.2.2.1-li.2.2) _).mono (by decide);have bB:Bd (sH li p) 2070:=(inferInstance:Bd (li.1*p.2.1+li.2.1*p.2.2.2.1) _).mono (by decide);have eA:li.1*p.1+li.2.1*p.2.2.1-li.2.2=so li p:=rfl;have eB:li.1*p.2.1+li.2.1*p.2.2.2.1=sH li p:=rfl;have e2:((2:Int):Rat)=2:=rfl;have b2':Bd (2:Rat) 3:=b2;have nC:Nn p.2.2.2.2:=⟨hn⟩
  dsimp only;simp only[aX,Nat.reduceAdd,Nat.reduceLeDiff,aP,aQ,av,o1,o2,anb hc3,i2,dT hn,RE.min_if,Bool.not_false,dC,lnC,eA,eB,e2,q2,hb];cases decide (r<0)
  ·cases tn (false,li,dec ci,cw,fr,to) p<;>rfl
  ·rfl
 ·obtain⟨c1,hq⟩:=hc.1 rfl;have hci:xi ci:=⟨c1,hq⟩
  simp only at c1 hq;obtain⟨ci,rfl,bc⟩:=aI c1;rw[aA]at hq;have e0:((ao ci.1,ao ci.2.1):BV)=enc (ctr ci):=rfl;have o3:decide (xi (enc ci)/\okP 580 (enc fr)/\okP 580 (enc to)/\okP 580 (enc p))=true:=anb ⟨hci,h3,h4,hp6⟩
  have z:(sgR (sqP p (ctr ci))==0)=decide (RE.pR p=RE.vE (ctr ci)):=by
   rw[aps,an6];exact RE.sq_zr
  have vs:RE.vR (sqP p (ctr ci))=RE.dsE (RE.pR p) (RE.vE (ctr ci)):=RE.vR_sq _;dsimp only;simp only[aX,Nat.reduceAdd,Nat.reduceMul,Nat.reduceLeDiff,aP,aQ,av,e0,o1,o2,o3,RE.min_if,Bool.not_true,dC,ciC,z,vs,dT (show 0<=ci.2.2 by grind)];cases decide (r<0)
  ·cases decide (RE.pR p=RE.vE (ctr ci))
   ·cases RE.witE (true,dec li,ci,cw,fr,to) (RE.pR p)<;>rfl
   ·rfl
  ·rfl
end
theorem lT(q:Rat):(aF q 0== -1)=decide (q<0):=by
 unfold aF;by_cases h:q<0
 ·rw[anb h];rfl
 ·rw[ane h];by_cases h':0<q
  ·rw[anb h'];rfl
  ·rw[ane h'];rfl
def tJ:List En:=[⟨54,gK,eH⟩,⟨125,jn,fO⟩,⟨132,jR,gb⟩,⟨65,jx,fM⟩,⟨67,iV,fA⟩,⟨66,nA,jk⟩,⟨133,mv,iu⟩,⟨245,zZ,uw⟩,enL abM,enL Z6,enL K3,enL Yw,enL Yo,enL Y6,enL Rn]
def afU:Cn 304 [tR,tR]:=cn λ(a b:BR)=>lf (okR a/\okR b) [.d tR (ao (ah a+ah b))] λh=>kO [RV.d tR (hAd a b)] (dN tJ) h
def agu:Cn 257 [tR,tR]:=cn λ(a b:BR)=>lf (okR a/\okR b) [.d tR (ao (ah a-ah b))] λh=>kO [RV.d tR (hSu a b)] (dN tJ) h
def agE:Cn 258 [tR,tR]:=cn λ(a b:BR)=>lf (okR a/\okR b) [.d tR (ao (ah a*ah b))] λh=>kO [RV.d tR (hMu a b)] (dN tJ) h
def aj6:Cn 259 [tR,tR]:=cn λ(a b:BR)=>lf (ju a b) [.d tR (ao (ah a/ah b))] λh=>kO [RV.d tR (hDi a b)] (dN tJ) h
def Zk(a b:BR)(_k:KT):OLR:=match decide (okR a/\okR b)with|true=>some [RV.d .bool ((aF (ah a) (ah b))==0)]|false=>none
def aiQ:Cn 253 [tR,tR]:=cn λ(a b:BR)=>lf (okR a/\okR b) [.d .bool (decide (ah a=ah b))] λh=>by
 refine aB tJ (Zk a b) ⟨0,?_⟩;unfold Zk;rw[dT h];simp only[au]
def ZU(x u y v k:BR)(_k:KT):OLR:=og (decide (ok Rat 100000 x/\ok Rat 100000 u/\ok Rat 100000 k/\0<=ah k)) (og (decide (ok Rat 100000 y/\ok Rat 100000 v/\ok Rat 100000 k/\0<=ah k)) (og (decide (okT 15000 (hid (enc (mkR (ah x) (ah u) (ah k))))/\okT 15000 (hid (enc (mkR (ah y) (ah v) (ah k))))/\xn (dec (hid (enc (mkR (ah x) (ah u) (ah k))))) (dec (hid (enc (mkR (ah y) (ah v) (ah k))))))) (some [RV.d tP (hid (enc (mkP (dec (hid (enc (mkR (ah x) (ah u) (ah k))))) (dec (hid (enc (mkR (ah y) (ah v) (ah k))))))))])))
def ahG:Cn 177 [tR,tR,tR,tR,tR]:=cn λ(x u y v k:BR)=>lf (ok Rat 1000 x/\ok Rat 1000 u/\ok Rat 1000 y/\ok Rat 1000 v/\ok Rat 1000 k/\0<=ah k) [.d tP (enc (sB (ah x) (ah u) (ah y) (ah v) (ah k)))] λh=>by
 refine aB tJ (ZU x u y v k) ⟨0,?_⟩;obtain⟨hx,hu,hy,hv,hk,h0⟩:=h;obtain⟨x,rfl,bx⟩:=aI hx;obtain⟨u,rfl,bu⟩:=aI hu;obtain⟨y,rfl,b_y⟩:=aI hy;obtain⟨v,rfl,bv⟩:=aI hv;obtain⟨k,rfl,bk⟩:=aI hk;have h0:0<=(dec (enc k):Rat):=h0;rw[aA]at h0;have nk:Nn k:=⟨h0⟩
 have n0:decide (0<=k)=true:=anb nk.le;have hm:decide (xn (mkR x u k) (mkR y v k))=true:=anb (rN _ _ _ _ _);unfold ZU sB;simp only[aX,Nat.reduceAdd,Nat.reduceLeDiff,aP,n0,hm];try rfl
def ud:List En:=enL afU::enL agu::enL agE::enL aj6::enT aiQ::enL ahG::tJ
def aam(l m:BO3)(_k:KT):OLR:=og (o2 l.1 m.2.1) (og (o2 m.1 l.2.1) (og (o2 (hMu l.1 m.2.1) (hMu m.1 l.2.1)) (match decide (ah (hMu l.1 m.2.1)=ah (hMu m.1 l.2.1))with|true=>(og (o2 l.1 m.2.2) (og (o2 m.1 l.2.2) (og (o2 (hMu l.1 m.2.2) (hMu m.1 l.2.2)) (match decide (ah (hMu l.1 m.2.2)=ah (hMu m.1 l.2.2))with|true=>(og (o2 l.2.1 m.2.2) (og (o2 m.2.1 l.2.2) (og (o2 (hMu l.2.1 m.2.2) (hMu m.2.1 l.2.2)) (some [RV.d .bool (decide (ah (hMu l.2.1 m.2.2)=ah (hMu m.2.1 l.2.2)))]))))|false=>some [RV.d .bool false]))))|false=>some [RV.d .bool false])))
def ai2:Cn 168 [tO,tO]:=cn λ(l m:BO3)=>lf (cZ l/\cZ m) [.d .bool (pq (dec l) (dec m))] λh=>by
 refine aB ud (aam l m) ⟨0,?_⟩;obtain⟨hl,hm⟩:=h;obtain⟨l,rfl,bl,nl⟩:=fj hl;obtain⟨m,rfl,bm,nm⟩:=fj hm;unfold aam pq;have c1:l.2.1*m.1=m.1*l.2.1:=aoN _ _;have c2:l.2.2*m.1=m.1*l.2.2:=aoN _ _;have c3:l.2.2*m.2.1=m.2.1*l.2.2:=aoN _ _;simp only[aX,Nat.reduceAdd,Nat.reduceLeDiff,c1,c2,c3];cases decide (l.1*m.2.1=m.1*l.2.1)<;>cases decide (l.1*m.2.2=m.1*l.2.2)<;>rfl
def ZP(c d:BO3)(_k:KT):OLR:=og (o2 c.1 d.1) (match decide (ah c.1=ah d.1)with|true=>(og (o2 c.2.1 d.2.1) (match decide (ah c.2.1=ah d.2.1)with|true=>(og (o2 c.2.2 d.2.2) (some [RV.d .bool (decide (ah c.2.2=ah d.2.2))]))|false=>some [RV.d .bool false]))|false=>some [RV.d .bool false])
def ahy:Cn 167 [tO,tO]:=cn λ(c d:BO3)=>lf (ck c/\ck d) [.d .bool (qV (dec c) (dec d))] λh=>by
 refine aB ud (ZP c d) ⟨0,?_⟩;obtain⟨hc,hd⟩:=h;obtain⟨c,rfl,bc,nc⟩:=cQ hc;obtain⟨d,rfl,bd,nd⟩:=cQ hd;unfold ZP qV;simp only[aX,Nat.reduceLeDiff];cases decide (c.1=d.1)<;>cases decide (c.2.1=d.2.1)<;>rfl
def abk(c d:BO3)(_k:KT):OLR:=og (o2 c.1 d.1) (match(aF (ah c.1) (ah d.1))==0 with|true=>(og (o2 c.2.1 d.2.1) (some [RV.d .bool ((aF (ah c.2.1) (ah d.2.1))==0)]))|false=>some [RV.d .bool false])
def ag9:Cn 254 [tO,tO]:=cn λ(c d:BO3)=>lf (ck c/\ck d) [.d .bool (iU (dec c) (dec d))] λh=>by
 refine aB ud (abk c d) ⟨0,?_⟩;obtain⟨hc,hd⟩:=h;obtain⟨c,rfl,bc,nc⟩:=cQ hc;obtain⟨d,rfl,bd,nd⟩:=cQ hd;unfold abk iU;simp only[aX,Nat.reduceLeDiff,au];cases decide (c.1=d.1)<;>rfl
def XU(c:BO3)(_k:KT):OLR:=og (o2 c.1 c.1) (og (o2 c.2.1 c.2.1) (og (o2 (hMu c.1 c.1) (hMu c.2.1 c.2.1)) (og (o2 (hAd (hMu c.1 c.1) (hMu c.2.1 c.2.1)) c.2.2) (some [RV.d tR (hSu (hAd (hMu c.1 c.1) (hMu c.2.1 c.2.1)) c.2.2)]))))
def ahQ:Cn 303 [tO]:=cn λ(c:BO3)=>lf (ck c) [.d tR (ao (sD (dec c)))] λh=>by
 refine aB ud (XU c) ⟨0,?_⟩;have hc:=h;obtain⟨c,rfl,bc,nc⟩:=cQ hc;unfold XU sD;simp only[aX,Nat.reduceAdd,Nat.reduceLeDiff]
def YY(l c:BO3)(_k:KT):OLR:=let y1:=hid (enc (dZ (dec l) (dec (c.1,c.2.1))));let y2:=hSu (y1.2) c.2.1;let y3:=hMu (hSu (y1.1) c.1) (hSu (y1.1) c.1);let y4:=hAd y3 (hMu y2 y2);let y5:=hAd (hMu l.1 l.1) (hMu l.2.1 l.2.1);let y6:=ju (hSu c.2.2 y4) y5;let y7:=hDi (hSu c.2.2 y4) y5;let y8:OLR:=match decide y6 with|true=>some [RV.d tR y7,RV.d tV y1]|false=>none;let y9:OLR:=match decide (okR (hMu l.1 l.1)/\okR (hMu l.2.1 l.2.1))with|true=>y8|false=>none;let y10:OLR:=match decide (okR l.2.1/\okR l.2.1)with|true=>y9|false=>none;og (decide (ok Ln 300 l/\ok (Rat×Rat) 200 (c.1,c.2.1)/\((dec l:Ln).1≠0\/(dec l:Ln).2.1≠0))) (og (o2 (y1.1) c.1) (og (o2 (y1.2) c.2.1) (og (o2 (hSu (y1.1) c.1) (hSu (y1.1) c.1)) (og (o2 y2 y2) (og (o2 y3 (hMu y2 y2)) (og (o2 c.2.2 y4) (cD (og (o2 l.1 l.1) (cD (og (o2 l.2.1 l.2.1) (cD (og (o2 (hMu l.1 l.1) (hMu l.2.1 l.2.1)) (cD (og (decide y6) (dup (.b .l .l) (some [RV.d tR y7,RV.d tV y1]))) y8)) y9)) y10)) (og (o2 l.1 l.1) y10))))))))
def akh:Cn 256 [tO,tO]:=cn λ(l c:BO3)=>lf (cZ l/\ck c) [.d tR (ao (fa (dec l) (dec c))),.d tV (enc (ftL (dec l) (dec c)))] λh=>by
 refine aB ud (YY l c) ⟨0,?_⟩;obtain⟨hl,hc⟩:=h;obtain⟨l,rfl,bl,nl⟩:=fj hl;obtain⟨c,rfl,bc,nc⟩:=cQ hc;have ol:=anb (nt (l:=l) nl);have bl:Bd l 63:=ae7;have bv:Bd ((c.1,c.2.1):Rat×Rat) 4:=inferInstance;have hn:=pP nl;have bn:Bd (cr l) 49:=inferInstanceAs (Bd (l.1*l.1+l.2.1*l.2.1) _);have bf:=GV (l:=l) (c:=c);have b1:Bd (ftL l c).1 163:=inferInstance;have b2:Bd (ftL l c).2 163:=inferInstance;have e1:l.1*l.1+l.2.1*l.2.1=cr l:=rfl;unfold YY fa zu;simp only[aX,Nat.reduceAdd,Nat.reduceLeDiff,Lq,nl,WE,e1,hn,ne_eq,aoG];try rfl
def abt(c:BO3)(_k:KT):OLR:=og (decide (aJ (1:Int))) (og (decide (aJ (0:Int))) (og (o1 (hid (ao ((1:Int):Rat)))) (og (decide (ok Rat 1000 c.1/\ok Rat 1000 (hNe (hid (ao ((1:Int):Rat))))/\ok Rat 1000 c.2.1/\ok Rat 1000 (hid (ao ((0:Int):Rat)))/\ok Rat 1000 c.2.2/\0<=ah c.2.2)) (og (decide (ok Rat 1000 c.1/\ok Rat 1000 (hid (ao ((1:Int):Rat)))/\ok Rat 1000 c.2.1/\ok Rat 1000 (hid (ao ((0:Int):Rat)))/\ok Rat 1000 c.2.2/\0<=ah c.2.2)) (some [RV.d tP (hid (enc (sB (ah c.1) (ah (hNe (hid (ao ((1:Int):Rat))))) (ah c.2.1) (ah (hid (ao ((0:Int):Rat)))) (ah c.2.2)))),RV.d tP (hid (enc (sB (ah c.1) (ah (hid (ao ((1:Int):Rat)))) (ah c.2.1) (ah (hid (ao ((0:Int):Rat)))) (ah c.2.2))))])))))
def aiF:Cn 78 [tO]:=cn λ(c:BO3)=>lf (ck c) [.d tP (enc (ahA (dec c))),.d tP (enc (agR (dec c)))] λh=>by
 refine aB ud (abt c) ⟨0,?_⟩;have hc:=h;obtain⟨c,rfl,bc,nc⟩:=cQ hc;have b0:Bd ((0:Int):Rat) 3:=c7 (by decide);have b1:Bd ((1:Int):Rat) 3:=c7 (by decide);have i0:decide (aJ 0)=true:=by decide
 have i1:decide (aJ 1)=true:=by decide
 have nc':decide (0<=c.2.2)=true:=anb (by grind);unfold abt ahA agR;simp only[aX,Nat.reduceLeDiff,i0,i1,nc'];rfl
def zN:List En:=enT ai2::enT ahy::enT ag9::enL ahQ::enL akh::enL aiF::ud
def Yc(l m:BO3)(_k:KT):OLR:=og (o2 l.1 m.2.1) (og (o2 m.1 l.2.1) (og (o2 (hMu l.1 m.2.1) (hMu m.1 l.2.1)) (og (o1 (hSu (hMu l.1 m.2.1) (hMu m.1 l.2.1))) (match(aF (ah (hSu (hMu l.1 m.2.1) (hMu m.1 l.2.1))) 0)==0 with|true=>(og (decide (cZ l/\cZ m)) (match pq (dec l) (dec m)with|true=>some [RV.d (.sl tP) ([]),RV.d aqw 10]|false=>some [RV.d (.sl tP) ([]),RV.d aqw 0]))|false=>(og (o2 l.2.2 m.2.1) (og (o2 m.2.2 l.2.1) (og (o2 (hMu l.2.2 m.2.1) (hMu m.2.2 l.2.1)) (og (decide (ju (hSu (hMu l.2.2 m.2.1) (hMu m.2.2 l.2.1)) (hSu (hMu l.1 m.2.1) (hMu m.1 l.2.1)))) (og (o2 l.1 m.2.2) (og (o2 m.1 l.2.2) (og (o2 (hMu l.1 m.2.2) (hMu m.1 l.2.2)) (og (decide (ju (hSu (hMu l.1 m.2.2) (hMu m.1 l.2.2)) (hSu (hMu l.1 m.2.1) (hMu m.1 l.2.1)))) (og (decide (ok (Rat×Rat) 100000 (hDi (hSu (hMu l.2.2 m.2.1) (hMu m.2.2 l.2.1)) (hSu (hMu l.1 m.2.1) (hMu m.1 l.2.1)),hDi (hSu (hMu l.1 m.2.2) (hMu m.1 l.2.2)) (hSu (hMu l.1 m.2.1) (hMu m.1 l.2.1))))) (some [RV.d (.sl tP) ([hid (enc (atP (dec (hDi (hSu (hMu l.2.2 m.2.1) (hMu m.2.2 l.2.1)) (hSu (hMu l.1 m.2.1) (hMu m.1 l.2.1)),hDi (hSu (hMu l.1 m.2.2) (hMu m.1 l.2.2)) (hSu (hMu l.1 m.2.1) (hMu m.1 l.2.1))))))]),RV.d aqw 0]))))))))))))))
def aju:Cn 171 [tO,tO]:=cn λ(l m:BO3)=>lf (cZ l/\cZ m) [.d (.sl tP) ((mC (dec l) (dec m)).map enc),.d aqw (Tu (dec l) (dec m))] λh=>by
 refine aB zN (Yc l m) ⟨0,?_⟩;obtain⟨hl,hm⟩:=h;obtain⟨l,rfl,bl,nl⟩:=fj hl;obtain⟨m,rfl,bm,nm⟩:=fj hm;have ol:=anb (nt (l:=l) nl);have om:=anb (nt (l:=m) nm);have bc:Bd (dK l m) 49:=inferInstanceAs (Bd (l.1*m.2.1-m.1*l.2.1) _);have e0:l.1*m.2.1-m.1*l.2.1=dK l m:=rfl;have e1:l.2.2*m.2.1-m.2.2*l.2.1=mH l m:=rfl;have e2:l.1*m.2.2-m.1*l.2.2=mE l m:=rfl;have bx:Bd (mH l m) 151:=inferInstanceAs (Bd (l.2.2*m.2.1-m.2.2*l.2.1) _);have b_:Bd (mE l m) 151:=inferInstanceAs (Bd (l.1*m.2.2-m.1*l.2.2) _);unfold Yc mC Tu;simp only[aX,Nat.reduceAdd,Nat.reduceLeDiff,au,ol,om,e0,e1,e2];by_cases h0:dK l m=0
 ·simp only[anb h0,Bool.not_true];cases pq l m<;>rfl
 ·simp only[aX,Nat.reduceAdd,Nat.reduceLeDiff,h0,ne_eq,aoG,Bool.not_false,Lq];rfl
def X5(c d:BO3)(_k:KT):OLR:=og (decide (ck c/\ck d)) (match iU (dec c) (dec d)with|true=>some [RV.d tO (((false,[]),(false,[])),(((false,[]),(false,[])),((false,[]),(false,[])))),RV.d aqw 6]|false=>(og (decide (aJ (2:Int))) (og (o2 d.1 c.1) (og (o2 (hid (ao ((2:Int):Rat))) (hSu d.1 c.1)) (og (o2 d.2.1 c.2.1) (og (o2 (hid (ao ((2:Int):Rat))) (hSu d.2.1 c.2.1)) (og (decide (ck d)) (og (decide (ck c)) (og (o2 (hid (ao (sD (dec d)))) (hid (ao (sD (dec c))))) (some [RV.d tO (hMu (hid (ao ((2:Int):Rat))) (hSu d.1 c.1),(hMu (hid (ao ((2:Int):Rat))) (hSu d.2.1 c.2.1),hSu (hid (ao (sD (dec d)))) (hid (ao (sD (dec c)))))),RV.d aqw 0]))))))))))
def af2:Cn 255 [tO,tO]:=cn λ(c d:BO3)=>lf (ck c/\ck d) [.d tO (w9 (dec c) (dec d)),.d aqw (UO (dec c) (dec d))] λh=>by
 refine aB zN (X5 c d) ⟨0,?_⟩;obtain⟨hc,hd⟩:=h;obtain⟨c,rfl,bc,nc⟩:=cQ hc;obtain⟨d,rfl,bd,nd⟩:=cQ hd;have oc:=anb (iN (c:=c) nc);have od:=anb (iN (c:=d) nd);have i2:decide (aJ 2)=true:=by decide
 have b2:Bd ((2:Int):Rat) 3:=c7 (by decide);have f1:Bd (sD c) 31:=(inferInstance:Bd (c.1*c.1+c.2.1*c.2.1-c.2.2) _).mono (by decide);have f2:Bd (sD d) 31:=(inferInstance:Bd (d.1*d.1+d.2.1*d.2.1-d.2.2) _).mono (by decide);unfold X5 w9 UO;simp only[aX,Nat.reduceAdd,Nat.reduceLeDiff,oc,od,i2];cases iU c d
 ·rfl
 ·rfl
def agh:Ctx:=CX (ens zN) []
def X9(l c:BO3)(_k:KT):OLR:=let y1:=hid (ao (fa (dec l) (dec c)));let y2:=hid (enc (ftL (dec l) (dec c)));let y3:=aF (ah l.2.1) 0;let y4:=hNe (hNe (hNe l.1));let y5:=enc (sB (ah (y2.1)) (ah (hNe l.2.1)) (ah (y2.2)) (ah (hNe (hNe l.1))) (ah y1));let y6:OLR:=match decide (okR l.2.1)with|true=>(og (o1 (hNe l.1)) (og (o1 (hNe l.2.1)) (og (o1 (hNe (hNe l.1))) (og (decide (ok Rat 1000 (y2.1)/\ok Rat 1000 (hNe (hNe l.2.1))/\ok Rat 1000 (y2.2)/\ok Rat 1000 y4/\ok Rat 1000 y1/\0<=ah y1)) (og (decide (ok Rat 1000 (y2.1)/\ok Rat 1000 (hNe l.2.1)/\ok Rat 1000 (y2.2)/\ok Rat 1000 (hNe (hNe l.1))/\ok Rat 1000 y1/\0<=ah y1)) (some [RV.new 37 tP ([hid (enc (sB (ah (y2.1)) (ah (hNe (hNe l.2.1))) (ah (y2.2)) (ah y4) (ah y1))),hid y5])]))))))|false=>none;let y7:OLR:=match decide (okR l.2.1)with|true=>(og (o1 (hNe l.1)) (og (decide (ok Rat 1000 (y2.1)/\ok Rat 1000 (hNe l.2.1)/\ok Rat 1000 (y2.2)/\ok Rat 1000 (hNe (hNe l.1))/\ok Rat 1000 y1/\0<=ah y1)) (og (decide (ok Rat 1000 (y2.1)/\ok Rat 1000 l.2.1/\ok Rat 1000 (y2.2)/\ok Rat 1000 (hNe l.1)/\ok Rat 1000 y1/\0<=ah y1)) (some [RV.new 37 tP ([hid y5,hid (enc (sB (ah (y2.1)) (ah l.2.1) (ah (y2.2)) (ah (hNe l.1)) (ah y1)))])]))))|false=>none;og (decide (cZ l/\ck c)) (og (o1 y1) (match(aF (ah y1) 0)==(-1)with|true=>some [RV.new 37 tP []]|false=>(match(aF (ah y1) 0)==0 with|true=>(og (decide (ok (Rat×Rat) 100000 y2)) (some [RV.new 37 tP ([hid (enc (atP (dec y2)))])]))|false=>(og (o1 l.1) (og (o1 l.2.1) (match decide (y3<0)with|true=>y6|false=>(match y3==0 with|true=>(og (o1 (hNe l.1)) (match decide ((aF (ah (hNe l.1)) 0)<0)with|true=>y6|false=>y7))|false=>y7)))))))
theorem agb(l c:BO3):RS agh 170 [.d tO l,.d tO c] (X9 l c):=rsX
def ajV:Cn 170 [tO,tO]:=cn λ(l c:BO3)=>lf (cZ l/\ck c) [.d (.sl tP) ((mn (dec l) (dec c)).map enc)] λh=>by
 refine Con.new_d (et:=37) (dk zN (agb _ _ ⟨0,?_⟩));obtain⟨hl,hc⟩:=h;obtain⟨l,rfl,bl,nl⟩:=fj hl;obtain⟨c,rfl,bc,nc⟩:=cQ hc;have ol:=anb (nt (l:=l) nl);have oc:=anb (iN (c:=c) nc);have bf:=GV (l:=l) (c:=c);have bk:=QR (l:=l) (c:=c);have b1:Bd (ftL l c).1 163:=inferInstance;have b2:Bd (ftL l c).2 163:=inferInstance;unfold X9 mn;simp only[aX,Nat.reduceLeDiff,au,av,lT,ol,oc];by_cases h0:fa l c<0
 ·simp only[anb h0];rfl
 ·simp only[ane h0];by_cases h1:fa l c=0
  ·simp only[anb h1];rfl
  ·have hp:decide (0<=fa l c)=true:=anb (by grind);simp only[ane h1,hp,aX];unfold lcM lcN sE sG Ic;cases decide (l.2.1<0)<;>cases decide (l.2.1=0)<;>cases decide (-l.1<0)<;>rfl
def PA:List En:=enL aju::enL af2::enL ajV::zN
def YV(c d:BO3)(_k:KT):OLR:=og (decide (ck c/\ck d)) (match qV (dec c) (dec d)with|true=>some [RV.d (.sl tP) ([]),RV.d aqw 10]|false=>(og (decide (ck c/\ck d)) (match iU (dec c) (dec d)with|true=>some [RV.d (.sl tP) ([]),RV.d aqw 0]|false=>(og (decide (ck c/\ck d)) (og (decide (cZ (hid (w9 (dec c) (dec d)))/\ck c)) (some [RV.d (.sl tP) ((mn (dec (hid (w9 (dec c) (dec d)))) (dec c)).map enc),RV.d aqw 0]))))))
def afM:Cn 169 [tO,tO]:=cn λ(c d:BO3)=>lf (ck c/\ck d) [.d (.sl tP) ((tc (dec c) (dec d)).map enc),.d aqw (VG (dec c) (dec d))] λh=>by
 refine aB PA (YV c d) ⟨0,?_⟩;obtain⟨hc,hd⟩:=h;obtain⟨c,rfl,bc,nc⟩:=cQ hc;obtain⟨d,rfl,bd,nd⟩:=cQ hd;have oc:=anb (iN (c:=c) nc);have od:=anb (iN (c:=d) nd);unfold YV tc VG;simp only[aX,oc,od];cases hs:qV c d
 ·cases hc:iU c d
  ·have ol:cZ (enc (oH c d)):=R9 hc;have er:w9 c d=enc (oH c d):=by unfold w9;rw[hc];rfl
   simp only[er,dT ol,aX];try rfl
  ·rfl
 ·have hc:iU c d=true:=by
   unfold qV at hs;unfold iU;cases h1:decide (c.1=d.1)
   ·rw[h1]at hs;cases hs
   ·cases h2:decide (c.2.1=d.2.1)
    ·rw[h1,h2]at hs;cases hs
    ·rfl
  rw[hc];rfl
def Tc:List En:=enL afM::PA
def Zw(a b:BCU)(_k:KT):OLR:=match a.1 with|true=>(match b.1 with|true=>(og (decide (ck a.2.2.1/\ck b.2.2.1)) (some [RV.d (.sl tP) ((tc (dec a.2.2.1) (dec b.2.2.1)).map enc),RV.d aqw (VG (dec a.2.2.1) (dec b.2.2.1))]))|false=>(match a.1 with|true=>(og (decide (cZ b.2.1/\ck a.2.2.1)) (some [RV.d (.sl tP) ((mn (dec b.2.1) (dec a.2.2.1)).map enc),RV.d aqw 0]))|false=>(match b.1 with|true=>(og (decide (cZ a.2.1/\ck b.2.2.1)) (some [RV.d (.sl tP) ((mn (dec a.2.1) (dec b.2.2.1)).map enc),RV.d aqw 0]))|false=>(og (decide (cZ a.2.1/\cZ b.2.1)) (some [RV.d (.sl tP) ((mC (dec a.2.1) (dec b.2.1)).map enc),RV.d aqw (Tu (dec a.2.1) (dec b.2.1))])))))|false=>(match a.1 with|true=>(og (decide (cZ b.2.1/\ck a.2.2.1)) (some [RV.d (.sl tP) ((mn (dec b.2.1) (dec a.2.2.1)).map enc),RV.d aqw 0]))|false=>(match b.1 with|true=>(og (decide (cZ a.2.1/\ck b.2.2.1)) (some [RV.d (.sl tP) ((mn (dec a.2.1) (dec b.2.2.1)).map enc),RV.d aqw 0]))|false=>(og (decide (cZ a.2.1/\cZ b.2.1)) (some [RV.d (.sl tP) ((mC (dec a.2.1) (dec b.2.1)).map enc),RV.d aqw (Tu (dec a.2.1) (dec b.2.1))]))))
def X0:Cn 72 [tCU,tCU]:=cn λ(a b:BCU)=>lf (iR a b) [.d (.sl tP) ((im (dC a) (dC b)).map enc),.d aqw (akg (dC a) (dC b))] λh=>by
 refine aB Tc (Zw a b) ⟨0,?_⟩;obtain⟨⟨a1,a2⟩,b1,b2⟩:=h;unfold Zw im akg;obtain⟨aa,al,ac,aw,af,at_⟩:=a;obtain⟨ba,bl,bc,bw,bf,bt⟩:=b;cases aa<;>cases ba
 ·have h1:=a2 rfl;have h2:=b2 rfl;simp only[dT (show cZ al/\cZ bl from⟨h1,h2⟩)];rfl
 ·have h1:=a2 rfl;have h2:=b1 rfl;simp only[dT (show cZ al/\ck bc from⟨h1,h2⟩)];rfl
 ·have h1:=a1 rfl;have h2:=b2 rfl;simp only[dT (show cZ bl/\ck ac from⟨h2,h1⟩)];rfl
 ·have h1:=a1 rfl;have h2:=b1 rfl;simp only[dT (show ck ac/\ck bc from⟨h1,h2⟩)];rfl
def aah(a b:BCU)(_k:KT):OLR:=match !(a.1==b.1)with|true=>some [RV.d .bool false]|false=>(match a.1 with|true=>(og (decide (ck a.2.2.1/\ck b.2.2.1)) (some [RV.d .bool (qV (dec a.2.2.1) (dec b.2.2.1))]))|false=>(og (decide (cZ a.2.1/\cZ b.2.1)) (some [RV.d .bool (pq (dec a.2.1) (dec b.2.1))])))
def abr:Cn 71 [tCU,tCU]:=cn λ(a b:BCU)=>lf (iR a b) [.d .bool (cH (dC a) (dC b))] λh=>by
 refine aB Tc (aah a b) ⟨0,?_⟩;obtain⟨⟨a1,a2⟩,b1,b2⟩:=h;unfold aah cH;obtain⟨aa,al,ac,aw,af,at_⟩:=a;obtain⟨ba,bl,bc,bw,bf,bt⟩:=b;cases aa<;>cases ba
 ·have h1:=a2 rfl;have h2:=b2 rfl;simp only[dT (show cZ al/\cZ bl from⟨h1,h2⟩)];rfl
 ·rfl
 ·rfl
 ·have h1:=a1 rfl;have h2:=b1 rfl;simp only[dT (show ck ac/\ck bc from⟨h1,h2⟩)];rfl
theorem UA(f p q:Bool×Rt): -1<=iE bi f p q/\iE bi f p q<=1:=by
 have h:∀n,-1<=kV n/\kV n<=1:=λn=>by
  unfold kV;split<;>(try split)<;>omega
 unfold iE;cases qp bi f p==qp bi f q
 ·exact h _
 ·exact h _
def ai4:List En:=[enT OS,enT NS]
def YB(c:BCU)(p q:BP)(_k:KT):OLR:=match !c.1 with|true=>(og (decide (okP 4000 p/\okP 4000 q)) (og (decide (okP 4000 c.2.2.2.2.2/\okP 4000 c.2.2.2.2.1)) (some [RV.d aqw (i64.wrap ((aZ (dec p) (dec q))*(aZ (dec c.2.2.2.2.2) (dec c.2.2.2.2.1))))])))|false=>(match c.2.2.2.1 with|true=>(og (decide (ok Ln 300 c.2.2.1/\okP 4000 c.2.2.2.2.2/\okP 4000 p/\okP 4000 q)) (some [RV.d aqw (i64.wrap (0-(iE bi (ptd (dec c.2.2.1) (dec c.2.2.2.2.2)) (ptd (dec c.2.2.1) (dec p)) (ptd (dec c.2.2.1) (dec q)))))]))|false=>(og (decide (ok Ln 300 c.2.2.1/\okP 4000 c.2.2.2.2.1/\okP 4000 p/\okP 4000 q)) (some [RV.d aqw (iE bi (ptd (dec c.2.2.1) (dec c.2.2.2.2.1)) (ptd (dec c.2.2.1) (dec p)) (ptd (dec c.2.2.1) (dec q)))])))
def ajW:Cn 101 [tCU,tP,tP]:=cn λ(c:BCU) (p q:BP)=>lf (okC 4000 c/\okP 4000 p/\okP 4000 q) [.d aqw (Dc (dC c) (dec p) (dec q))] λh=>by
 refine aB ai4 (YB c p q) ⟨0,?_⟩;obtain⟨hc,hp,hq⟩:=h;obtain⟨ar,li,ci,cw,fr,to⟩:=c;have h3:=hc.2.2.1;have h4:=hc.2.2.2;simp only at h3 h4;unfold YB Dc;cases ar
 ·have b1:=xx (dec p) (dec q);have b2:=xx (dec to) (dec fr);simp only[dT (show okP 4000 p/\okP 4000 q from⟨hp,hq⟩),dT (show okP 4000 to/\okP 4000 fr from⟨h4,h3⟩),CV b1 b2];rfl
 ·have e:=(hc.1 rfl).1;simp only at e;cases cw
  ·simp only[dT (show ok Ln 300 ci/\okP 4000 fr/\okP 4000 p/\okP 4000 q from⟨e,h3,hp,hq⟩)];rfl
  ·have b:=UA (ptd (dec ci) (dec to)) (ptd (dec ci) (dec p)) (ptd (dec ci) (dec q));simp only[dT (show ok Ln 300 ci/\okP 4000 to/\okP 4000 p/\okP 4000 q from⟨e,h4,hp,hq⟩)];try dsimp only[Bool.not_true]
   rw[aV (x:=0-iE bi (ptd (dec ci) (dec to)) (ptd (dec ci) (dec p)) (ptd (dec ci) (dec q))) (by omega) (by omega),ao7];rfl
section
theorem B9{n m k:Nat}(h1:n+m<=100000000)(hk:k<=1000000):decide ((n+m)*k<=140737488355328/\n+m<=140737488355328)=true:=by
 refine anb ⟨?_,by omega⟩;have:=ao6 h1 hk;omega
def mB(c:BCU)(l:List BP):Prop:=okC 4000 c/\l.length<=19/\∀x∈l,okP 4000 x
instance (c:BCU) (l:List BP):Decidable (mB c l):=by unfold mB;infer_instance
def RO:Ctx:=CX [] []
def TX(p:List BP)(_k:KT):OLR:=match p with|[]=>Ik (some [RV.new 37 tP []]) (og (decide ((([]:List BP).length+p.length)*320<=140737488355328/\([]:List BP).length+p.length<=140737488355328)) (some [RV.new 37 tP (([]:List BP)++p)]))|_::_=>(og (decide ((([]:List BP).length+p.length)*320<=140737488355328/\([]:List BP).length+p.length<=140737488355328)) (some [RV.new 37 tP (([]:List BP)++p)]))
theorem afh(p:List BP):RS RO 74 [.d (.sl tP) p] (TX p):=rsX
def H9:Cn 74 [(.sl tP)]:=cn λ(p:List BP)=>lf (p.length<=100000) [.new 37 tP p] λh=>by
 refine Ctx.Res.con (C:=RO) (GF (E:=[]) trivial) ?_ (fn:=Tryz.f74) (by kernel_rfl) (by kernel_rfl);refine afh _ ⟨0,?_⟩;unfold TX;rw[B9 (n:=([]:List BP).length) (m:=p.length) (by simp;omega) (by omega)];cases p with
 |nil=>exact d8 _
 |cons a p=>rfl
def acU:List En:=[enT OS]
def abu(p q:BP)(_k:KT):OLR:=og (decide (okP 4000 p/\okP 4000 q)) (some [RV.d .bool ((aZ (dec p) (dec q))==0)])
def PK:Cn 41 [tP,tP]:=cn λ(p q:BP)=>lf (okP 4000 p/\okP 4000 q) [.d .bool (aZ (dec p) (dec q)==0)] λh=>by
 refine aB acU (abu p q) ⟨0,?_⟩;unfold abu;rw[dT h]
def KC:fb:={keep:=true,run:=λ_ _ _=>none}
theorem Lo:SpK 274 KC:=by
 refine⟨by kernel_rfl,λR args k r h=>(by cases h),λg h=>(by cases h)⟩
def II:List En:=[enT ajW,enT PK,enK H9,⟨274,KC,Lo⟩]
def acw:NT:=[((200,6),{keep:=[0,1,2,6,7,8],hl:=2}),((273,3),{keep:=[0,1,2,3,8],hl:=2}),((273,15),{keep:=[0,1,2,3,8,9],hl:=2}),((200,22),{keep:=[0,1,2,6],hl:=2}),((200,34),{keep:=[0,1,2,6,7,8],hl:=2}),((102,14),{keep:=[0,1,5],hl:=2}),((102,32),{keep:=[0,1,5,6,7],hl:=2}),((40,5),{keep:=[1],hl:=0}),((99,0),{keep:=[],hl:=0}),((200,15),{keep:=[0,1,2,6,8],hl:=0}),((200,20),{keep:=[0,1,2,6],hl:=0}),((273,18),{keep:=[0,1,2,3,8,9,18,19,20,21,22,23,24,25,26,27,28,29,30,31,32,33,34],hl:=0}),((40,7),{keep:=[11],hl:=0})]
def jF:Ctx:=CX (ens II) acw
def tu(c:BCU)(l:List BP)(s200_7 s200_8:Int)(r200_1:List BP):Cfg:=⟨200,[.blk 0,.seq 19],[(0,.own 1),(1,SI (l.length:Int)),(2,.clo 100 [0]),(6,SI 20),(7,SI s200_7),(8,SI s200_8)],[.box 39 (Ty.split tCU c),.row 37 tP r200_1],2,[⟨99,[],0,4,[],2,none⟩,⟨40,[.seq 6],5,2,[(1,.own 1)],0,none⟩]⟩
def tg(c:BCU)(l:List BP)(s200_7 s200_8 s273_8:Int)(r273_1:List BP):Cfg:=⟨273,[.blk 0],[(0,.own 1),(1,SI s200_7),(2,SI s200_8),(3,.clo 100 [0]),(8,SI s273_8)],[.box 39 (Ty.split tCU c),.row 37 tP r273_1],2,[⟨200,[.seq 16,.blk 1,.lp 6,.blk 0,.seq 19],15,4,[(0,.own 1),(1,SI (l.length:Int)),(2,.clo 100 [0]),(6,SI 20),(8,SI s200_8)],2,none⟩,⟨99,[],0,4,[],2,none⟩,⟨40,[.seq 6],5,2,[(1,.own 1)],0,none⟩]⟩
def fB(c:BCU)(l:List BP)(s200_7 s273_8:Int)(r273_1:List BP):Cfg:=⟨273,[.blk 0],[(0,.own 1),(1,SI s200_7),(2,SI (l.length:Int)),(3,.clo 100 [0]),(8,SI s273_8)],[.box 39 (Ty.split tCU c),.row 37 tP r273_1],2,[⟨200,[.seq 21],20,4,[(0,.own 1),(1,SI (l.length:Int)),(2,.clo 100 [0]),(6,SI 20)],2,none⟩,⟨99,[],0,4,[],2,none⟩,⟨40,[.seq 6],5,2,[(1,.own 1)],0,none⟩]⟩
def FV(c:BCU)(l:List BP)(s200_7 s200_8 s273_8 s273_9:Int)(r273_1:List BP):Cfg:=⟨273,[.blk 2,.blk 1,.seq 26,.lp 3,.blk 0],[(0,.own 1),(1,SI s200_7),(2,SI s200_8),(3,.clo 100 [0]),(8,SI s273_8),(9,SI s273_9)],[.box 39 (Ty.split tCU c),.row 37 tP r273_1],2,[⟨200,[.seq 16,.blk 1,.lp 6,.blk 0,.seq 19],15,4,[(0,.own 1),(1,SI (l.length:Int)),(2,.clo 100 [0]),(6,SI 20),(8,SI s200_8)],2,none⟩,⟨99,[],0,4,[],2,none⟩,⟨40,[.seq 6],5,2,[(1,.own 1)],0,none⟩]⟩
def iq(c:BCU)(l:List BP)(s200_7 s273_8 s273_9:Int)(r273_1:List BP):Cfg:=⟨273,[.blk 2,.blk 1,.seq 26,.lp 3,.blk 0],[(0,.own 1),(1,SI s200_7),(2,SI (l.length:Int)),(3,.clo 100 [0]),(8,SI s273_8),(9,SI s273_9)],[.box 39 (Ty.split tCU c),.row 37 tP r273_1],2,[⟨200,[.seq 21],20,4,[(0,.own 1),(1,SI (l.length:Int)),(2,.clo 100 [0]),(6,SI 20)],2,none⟩,⟨99,[],0,4,[],2,none⟩,⟨40,[.seq 6],5,2,[(1,.own 1)],0,none⟩]⟩
def ky(c:BCU)(l r273_1:List BP)(s200_6:Int):Cfg:=⟨200,[.blk 2],[(0,.own 1),(1,SI (l.length:Int)),(2,.clo 100 [0]),(6,SI s200_6)],[.box 39 (Ty.split tCU c),.row 37 tP r273_1],2,[⟨99,[],0,4,[],2,none⟩,⟨40,[.seq 6],5,2,[(1,.own 1)],0,none⟩]⟩
def ER(c:BCU)(l r273_1:List BP)(s200_6:Int):Cfg:=⟨200,[.blk 4,.seq 47,.blk 3,.lp 22,.blk 2],[(0,.own 1),(1,SI (l.length:Int)),(2,.clo 100 [0]),(6,SI s200_6),(7,SI 0),(8,SI (i64.wrap (2*s200_6)))],[.box 39 (Ty.split tCU c),.row 37 tP r273_1],2,[⟨99,[],0,4,[],2,none⟩,⟨40,[.seq 6],5,2,[(1,.own 1)],0,none⟩]⟩
def kA(c:BCU)(r273_1:List BP)(s102_5:Int):Cfg:=⟨102,[.blk 0,.seq 56],[(0,.own 1),(1,.clo 41 []),(5,SI s102_5)],[.box 39 (Ty.split tCU c),.row 37 tP r273_1],2,[⟨40,[.seq 8],7,1,[],0,none⟩]⟩
def eZ(c:BCU)(r273_1:List BP)(s102_5 s102_5v s102_7:Int)(r102_1:List BP):Cfg:=⟨102,[.blk 2,.seq 49,.blk 1,.seq 55,.lp 14,.blk 0,.seq 56],[(0,.own 1),(1,.clo 41 []),(5,SI s102_5v),(6,.osl 1 20 ((s102_5:Int).toNat) (((r273_1.length:Int):Int).toNat-(s102_5:Int).toNat)),(7,SI s102_7)],[.box 39 (Ty.split tCU c),.row 37 tP r102_1],2,[⟨40,[.seq 8],7,1,[],0,none⟩]⟩
def YZ(c:BCU)(l:List BP)(k:KT):OLR:=og (decide (l.length<=100000)) (k 6 (tu c l 0 20 l))
theorem akz(c:BCU)(l:List BP):RS jF 40 [.d tCU c,.d (.sl tP) l] (YZ c l):=rsX
def um(c:BCU)(l:List BP)(s200_7 s200_8:Int)(r200_1:List BP)(k:KT):OLR:=match decide (s200_8<=(l.length:Int))with|true=>k 3 (tg c l s200_7 s200_8 (i64.wrap (s200_7+1)) r200_1)|false=>k 3 (fB c l s200_7 (i64.wrap (s200_7+1)) r200_1)
theorem C7(c:BCU)(l:List BP)(s200_7 s200_8:Int)(r200_1:List BP):RN jF 6 (tu c l s200_7 s200_8 r200_1) (um c l s200_7 s200_8 r200_1):=rnX
def jm(c:BCU)(l:List BP)(s200_7 s273_8:Int)(r273_1:List BP)(k:KT):OLR:=match decide (s273_8<(l.length:Int))with|true=>k 15 (iq c l s200_7 s273_8 s273_8 r273_1)|false=>k 22 (ky c l r273_1 20)
theorem lU(c:BCU)(l:List BP)(s200_7 s273_8:Int)(r273_1:List BP):RN jF 3 (fB c l s200_7 s273_8 r273_1) (jm c l s200_7 s273_8 r273_1):=rnX
def Uc(c:BCU)(l:List BP)(s200_7 s200_8 s273_8 s273_9:Int)(r273_1:List BP)(k:KT):OLR:=match decide (s273_9>s200_7)with|true=>(match aS r273_1 s273_9 with|some _=>(match true,r273_1[(s273_9).toNat]? with|true,some x1=>(match aS r273_1 (i64.wrap (s273_9-1))with|some _=>(match true,r273_1[(i64.wrap (s273_9-1)).toNat]? with|true,some x2=>(og (decide (okC 4000 c/\okP 4000 x1/\okP 4000 x2)) (match decide ((Dc (dC c) (dec x1) (dec x2))<0)with|true=>(match aS r273_1 (i64.wrap (s273_9-1))with|some _=>(match true,r273_1[(i64.wrap (s273_9-1)).toNat]? with|true,some x3=>(match aS r273_1 s273_9 with|some _=>(match true,r273_1[(s273_9).toNat]? with|true,some x4=>(match aS r273_1 s273_9 with|some _=>(match true,r273_1[(s273_9).toNat]? with|true,some _=>(match aS (r273_1.set ((s273_9).toNat) x3) (i64.wrap (s273_9-1))with|some _=>(match true,(r273_1.set ((s273_9).toNat) x3)[(i64.wrap (s273_9-1)).toNat]? with|true,some _=>k 15 (FV c l s200_7 s200_8 s273_8 (i64.wrap (s273_9-1)) ((r273_1.set ((s273_9).toNat) x3).set ((i64.wrap (s273_9-1)).toNat) x4))|_,_=>none)|none=>none)|_,_=>none)|none=>none)|_,_=>none)|none=>none)|_,_=>none)|none=>none)|false=>k 3 (tg c l s200_7 s200_8 (i64.wrap (s273_8+1)) r273_1)))|_,_=>none)|none=>none)|_,_=>none)|none=>none)|false=>k 3 (tg c l s200_7 s200_8 (i64.wrap (s273_8+1)) r273_1)
def iH(c:BCU)(l:List BP)(s200_7 s273_8 s273_9:Int)(r273_1:List BP)(k:KT):OLR:=match decide (s273_9>s200_7)with|true=>(match aS r273_1 s273_9 with|some _=>(match true,r273_1[(s273_9).toNat]? with|true,some x1=>(match aS r273_1 (i64.wrap (s273_9-1))with|some _=>(match true,r273_1[(i64.wrap (s273_9-1)).toNat]? with|true,some x2=>(og (decide (okC 4000 c/\okP 4000 x1/\okP 4000 x2)) (match decide ((Dc (dC c) (dec x1) (dec x2))<0)with|true=>(match aS r273_1 (i64.wrap (s273_9-1))with|some _=>(match true,r273_1[(i64.wrap (s273_9-1)).toNat]? with|true,some x3=>(match aS r273_1 s273_9 with|some _=>(match true,r273_1[(s273_9).toNat]? with|true,some x4=>(match aS r273_1 s273_9 with|some _=>(match true,r273_1[(s273_9).toNat]? with|true,some _=>(match aS (r273_1.set ((s273_9).toNat) x3) (i64.wrap (s273_9-1))with|some _=>(match true,(r273_1.set ((s273_9).toNat) x3)[(i64.wrap (s273_9-1)).toNat]? with|true,some _=>k 15 (iq c l s200_7 s273_8 (i64.wrap (s273_9-1)) ((r273_1.set ((s273_9).toNat) x3).set ((i64.wrap (s273_9-1)).toNat) x4))|_,_=>none)|none=>none)|_,_=>none)|none=>none)|_,_=>none)|none=>none)|_,_=>none)|none=>none)|false=>k 3 (fB c l s200_7 (i64.wrap (s273_8+1)) r273_1)))|_,_=>none)|none=>none)|_,_=>none)|none=>none)|false=>k 3 (fB c l s200_7 (i64.wrap (s273_8+1)) r273_1)
theorem kI(c:BCU)(l:List BP)(s200_7 s273_8 s273_9:Int)(r273_1:List BP):RN jF 15 (iq c l s200_7 s273_8 s273_9 r273_1) (iH c l s200_7 s273_8 s273_9 r273_1):=rnX
def jT(c:BCU)(l r273_1:List BP)(s200_6:Int)(k:KT):OLR:=match decide (s200_6<(l.length:Int))with|true=>k 34 (ER c l r273_1 s200_6)|false=>(match decide ((r273_1.length:Int)<2)with|true=>some [RV.new 37 tP r273_1]|false=>k 14 (kA c r273_1 1))
theorem nK(c:BCU)(l r273_1:List BP)(s200_6:Int):RN jF 22 (ky c l r273_1 s200_6) (jT c l r273_1 s200_6):=rnX
def kb(c:BCU)(r273_1:List BP)(s102_5:Int)(k:KT):OLR:=match decide (s102_5<(r273_1.length:Int))with|true=>(match aS r273_1 s102_5 with|some _=>(match true,r273_1[(s102_5).toNat]? with|true,some x1=>(match aS r273_1 (i64.wrap (s102_5-1))with|some _=>(match true,r273_1[(i64.wrap (s102_5-1)).toNat]? with|true,some x2=>(og (decide (okP 4000 x1/\okP 4000 x2)) (match aZ (dec x1) (dec x2)==0 with|true=>(og (decide ((0:Int)<=s102_5/\s102_5<=(r273_1.length:Int)/\(r273_1.length:Int)<=(r273_1.length:Int))) (k 32 (eZ c r273_1 s102_5 s102_5 1 r273_1)))|false=>k 14 (kA c r273_1 (i64.wrap (s102_5+1)))))|_,_=>none)|none=>none)|_,_=>none)|none=>none)|false=>some [RV.new 37 tP r273_1]
theorem nJ(c:BCU)(r273_1:List BP)(s102_5:Int):RN jF 14 (kA c r273_1 s102_5) (kb c r273_1 s102_5):=rnX
def iJ(c:BCU)(r273_1:List BP)(s102_5 s102_5v s102_7:Int)(r102_1:List BP)(k:KT):OLR:=match decide (s102_7<((((r273_1.length:Int):Int).toNat-(s102_5:Int).toNat:Nat):Int))with|true=>(match true,decide ((0:Int)<=s102_7/\s102_7<((((r273_1.length:Int):Int).toNat-(s102_5:Int).toNat:Nat):Int))with|true,true=>(match true,r102_1[(s102_5:Int).toNat+(s102_7).toNat]? with|true,some x1=>(match true,decide ((0:Int)<=i64.wrap (s102_7-1)/\i64.wrap (s102_7-1)<((((r273_1.length:Int):Int).toNat-(s102_5:Int).toNat:Nat):Int))with|true,true=>(match true,r102_1[(s102_5:Int).toNat+(i64.wrap (s102_7-1)).toNat]? with|true,some x2=>(og (decide (okP 4000 x1/\okP 4000 x2)) (match !(aZ (dec x1) (dec x2)==0)with|true=>(match true,decide ((0:Int)<=s102_7/\s102_7<((((r273_1.length:Int):Int).toNat-(s102_5:Int).toNat:Nat):Int))with|true,true=>(match true,r102_1[(s102_5:Int).toNat+(s102_7).toNat]? with|true,some x3=>(match aS r102_1 s102_5v with|some _=>(match true,r102_1[(s102_5v).toNat]? with|true,some _=>k 32 (eZ c r273_1 s102_5 (i64.wrap (s102_5v+1)) (i64.wrap (s102_7+1)) (r102_1.set ((s102_5v).toNat) x3))|_,_=>none)|none=>none)|_,_=>none)|_,_=>none)|false=>k 32 (eZ c r273_1 s102_5 s102_5v (i64.wrap (s102_7+1)) r102_1)))|_,_=>none)|_,_=>none)|_,_=>none)|_,_=>none)|false=>(og (decide ((0:Int)<=s102_5v/\s102_5v<=(r102_1.length:Int)/\(r102_1.length:Int)<=(r102_1.length:Int))) (og (decide ((0:Int)<=0/\0<=s102_5v/\s102_5v<=((ks (Ty.zero tP) ((s102_5v:Int).toNat) (((r102_1.length:Int):Int).toNat-(s102_5v:Int).toNat) r102_1).length:Int))) (some [RV.d (.sl tP) (((ks (Ty.zero tP) ((s102_5v:Int).toNat) (((r102_1.length:Int):Int).toNat-(s102_5v:Int).toNat) r102_1).drop ((0:Int).toNat)).take ((s102_5v:Int).toNat-(0:Int).toNat))])))
theorem kC(c:BCU)(r273_1:List BP)(s102_5 s102_5v s102_7:Int)(r102_1:List BP):RN jF 32 (eZ c r273_1 s102_5 s102_5v s102_7 r102_1) (iJ c r273_1 s102_5 s102_5v s102_7 r102_1):=rnX
theorem pp{α:Type}(L:List α)(x:α)(T:List α):(L++x::T)[L.length]?=some x:=by simp
theorem Cw{α:Type}(x y:α)(T:List α):∀L:List α,(L++x::T).set L.length y=L++y::T
 |[]=>rfl
 |a::L=>by simp[Cw x y T L]
section
variable (c:BCU) (l:List BP)
def af3(ys:List BP)(r:List RV):Prop:=r=[.new 37 tP ys]\/r=[.d (.sl tP) ys]
abbrev sP(i:Nat)(g:Cfg)(ys:List BP):Prop:=∃r,jF.Runs i g r/\af3 ys r
end
section
variable (c:BCU) (l:List BP) (hc:okC 4000 c)
include hc
theorem A4(hl:l.length<=19)(i:Nat)(ys:List BP):∀(L:List BP) (a:BP) (R:List BP),(∀x∈L,okP 4000 x)->okP 4000 a->(L.reverse++a::R).length<=19->i<=19->
  sP 3 (fB c l 0 ((i+1:Nat):Int) ((mD (ltP (dC c)) L a).reverse++R)) ys->sP 15 (iq c l 0 (i:Int) (L.length:Int) (L.reverse++a::R)) ys
 |[],a,R,hL,ha,h19,hi,⟨r,⟨n,hn⟩,hr⟩=>by
  refine⟨r,kI _ _ _ _ _ _ ⟨n,?_⟩,hr⟩;unfold iH;rw[dF (show ¬((([]:List BP).length:Nat):Int)>0 by simp),bW (by omega)];exact hn
 |b::L,a,R,hL,ha,h19,hi,hnext=>by
  have hb:=hL b (by simp);have hln:L.length<=18:=by simp at h19;omega
  have hrev:(b::L).reverse++a::R=L.reverse++b::a::R:=by simp
  have e1:((b::L).length:Int)=((L.length+1:Nat):Int):=rfl;have ew:i64.wrap (((L.length+1:Nat):Int)-1)=(L.length:Int):=by rw[aV (by omega) (by omega)];omega
  have g1:(L.reverse++b::a::R)[L.length+1]?=some a:=by
   simp
  have g0:(L.reverse++b::a::R)[L.length]?=some b:=by
   simp
  have s1:(L.reverse++b::a::R).set (L.length+1) b=L.reverse++b::b::R:=by
   simp
  have s2:(L.reverse++b::b::R).set L.length a=L.reverse++a::b::R:=by
   simp
  have g2:(L.reverse++b::b::R)[L.length]?=some b:=by
   simp
  have key:∀r n,(match ltP (dC c) a b with
    |true=>jF.k n 15 (iq c l 0 (i:Int) (L.length:Int) (L.reverse++a::b::R))
    |false=>jF.k n 3 (fB c l 0 ((i+1:Nat):Int) (L.reverse++b::a::R)))=some r->
    iH c l 0 (i:Int) ((b::L).length:Int) ((b::L).reverse++a::R) (jF.k n)=some r:=λr n h=>by
   rw[hrev,e1];unfold iH;rw[dT (show((L.length+1:Nat):Int)>0 by omega),ew,aq,g1,aq,g0,show((L.length+1:Nat):Int).toNat=L.length+1 by omega,show((L.length:Nat):Int).toNat=L.length by omega,g1,g0];dsimp only;rw[dT (show okC 4000 c/\okP 4000 a/\okP 4000 b from⟨hc,ha,hb⟩),s1,aq,g2,s2,bW (by omega)];dsimp only;unfold ltP at h;exact h
  unfold mD at hnext;cases hlt:ltP (dC c) a b
  ·rw[hlt,cond_false]at hnext;obtain⟨r,⟨n,hn⟩,hr⟩:=hnext;refine⟨r,kI _ _ _ _ _ _ ⟨n,key r n ?_⟩,hr⟩;rw[hlt];simpa using hn
  ·rw[hlt,cond_true]at hnext;obtain⟨r,⟨n,hn⟩,hr⟩:=A4 hl i ys L a (b::R) (λx hx=>hL x (ann _ hx)) ha (by simp at h19 ⊢;omega) hi (by simpa using hnext);refine⟨r,kI _ _ _ _ _ _ ⟨n,key r n ?_⟩,hr⟩;rw[hlt];exact hn
theorem Bo(hl:l.length<=19)(ys:List BP):∀(R D:List BP),(∀x∈D,okP 4000 x)->(∀x∈R,okP 4000 x)->D.length+R.length=l.length->
  sP 22 (ky c l (R.foldl (mD (ltP (dC c))) D).reverse 20) ys->sP 3 (fB c l 0 (D.length:Int) (D.reverse++R)) ys
 |[],D,hD,hR,hlen,⟨r,⟨n,hn⟩,hr⟩=>by
  refine⟨r,lU _ _ _ _ _ ⟨n,?_⟩,hr⟩;unfold jm;rw[b8 (by simp at hlen;omega),anM];exact hn
 |a::R,D,hD,hR,hlen,hnext=>by
  have ha:=hR a (by simp);have hlen':D.length+(R.length+1)=l.length:=hlen
  have h1:=Bo hl ys R (mD (ltP (dC c)) D a) (λx hx=>by
   rcases nY.1 hx with e|e
   ·rw[e];exact ha
   ·exact hD x e) (λx hx=>hR x (ann _ hx)) (by rw[uy];omega) hnext
  rw[uy]at h1;obtain⟨r,⟨n,hn⟩,hr⟩:=A4 c l hc hl D.length ys D a R hD ha (by simp;omega) (by omega) h1;refine⟨r,lU _ _ _ _ _ ⟨n,?_⟩,hr⟩;unfold jm;rw[bH (by omega)];exact hn
omit hc in
theorem wS(r0:List BP)(b:Nat)(h19:r0.length<=19):∀(S K J:List BP) (p:BP),(∀x∈K++(J++p::S),okP 4000 x)->(K++(J++p::S)).length=r0.length->∀k2:Nat,1<=k2->b+k2=K.length+J.length+1->
  sP 32 (eZ c r0 (b:Int) (K.length:Int) (k2:Int) (K++(J++p::S))) (K++kD jg p S)
 |[],K,J,p,hok,hlen,k2,h1,hb=>by
  refine⟨_,kC _ _ _ _ _ _ ⟨0,?_⟩,.inr rfl⟩;have hlen':K.length+(J.length+1)=r0.length:=by simpa using hlen
  unfold iJ;rw[dF (show ¬(k2:Int)<(((r0.length:Int).toNat-(b:Int).toNat:Nat):Int) by omega)];dsimp only;rw[dT (show(0:Int)<=(K.length:Int)/\(K.length:Int)<=((K++(J++[p])).length:Int)/\((K++(J++[p])).length:Int)<=((K++(J++[p])).length:Int) by rw[hlen];omega)]
  have hcl:((ks (Ty.zero tP) ((K.length:Int).toNat) ((((K++(J++[p])).length:Int)).toNat-(K.length:Int).toNat) (K++(J++[p])))).take K.length=K:=by
   unfold ks;rw[show((K.length:Int)).toNat=K.length by omega,anD,List.take_append_of_le_length (by simp),aqo,Nat.min_self,List.take_left' rfl]
  have hcn:K.length<=(ks (Ty.zero tP) ((K.length:Int).toNat) ((((K++(J++[p])).length:Int)).toNat-(K.length:Int).toNat) (K++(J++[p]))).length:=by
   have:=congrArg List.length hcl;rw[anY]at this;omega
  rw[dT (show(0:Int)<=0/\0<=(K.length:Int)/\(K.length:Int)<=((ks (Ty.zero tP) ((K.length:Int).toNat) ((((K++(J++[p])).length:Int)).toNat-(K.length:Int).toNat) (K++(J++[p]))).length:Int) by omega)];rw[show((0:Int)).toNat=0 from rfl,aoT,show((K.length:Int)).toNat-0=K.length by omega,hcl];simp[kD]
 |q::S,K,J,p,hok,hlen,k2,h1,hb=>by
  have hlen':K.length+(J.length+(S.length+1+1))=r0.length:=by simpa using hlen
  have hq:okP 4000 q:=hok q (by simp);have hp:okP 4000 p:=hok p (by simp)
  have g1:(K++(J++p::q::S))[(b:Int).toNat+(k2:Int).toNat]?=some q:=by
   rw[show(b:Int).toNat+(k2:Int).toNat=(K++(J++[p])).length by simp;omega];simp
  have ew:i64.wrap ((k2:Int)-1)=((k2-1:Nat):Int):=by rw[aV (by omega) (by omega)];omega
  have g0:(K++(J++p::q::S))[(b:Int).toNat+((k2-1:Nat):Int).toNat]?=some p:=by
   rw[show(b:Int).toNat+((k2-1:Nat):Int).toNat=(K++J).length by simp;omega];simp
  have key:∀r n,(match jg q p with
    |true=>jF.k n 32 (eZ c r0 (b:Int) (K.length:Int) ((k2+1:Nat):Int) (K++(J++p::q::S)))
    |false=>jF.k n 32 (eZ c r0 (b:Int) ((K.length+1:Nat):Int) ((k2+1:Nat):Int) ((K++(J++p::q::S)).set K.length q)))=some r->
    iJ c r0 (b:Int) (K.length:Int) (k2:Int) (K++(J++p::q::S)) (jF.k n)=some r:=λr n h=>by
   unfold iJ;rw[dT (show(k2:Int)<(((r0.length:Int).toNat-(b:Int).toNat:Nat):Int) by omega)];dsimp only;rw[dT (show(0:Int)<=(k2:Int)/\(k2:Int)<(((r0.length:Int).toNat-(b:Int).toNat:Nat):Int) by omega),g1];dsimp only;rw[ew,dT (show(0:Int)<=((k2-1:Nat):Int)/\((k2-1:Nat):Int)<(((r0.length:Int).toNat-(b:Int).toNat:Nat):Int) by omega),g0];dsimp only;rw[dT (show okP 4000 q/\okP 4000 p from⟨hq,hp⟩),bW (k:=k2) (by omega)];unfold jg at h;cases he:aZ (dec q) (dec p)==0<;>rw[he]at h
   ·try dsimp only[Bool.not_false]
    have g3:∃y,(K++(J++p::q::S))[K.length]?=some y:=⟨_,anc (by simp;omega)⟩
    obtain⟨y,g3⟩:=g3;rw[aq,g3,show((K.length:Int)).toNat=K.length by omega,g3,bW (k:=K.length) (by omega)];exact h
   ·exact h
  have hcm:kD jg p (q::S)=bif jg q p then kD jg q S else q::kD jg q S:=rfl;rw[hcm];cases he:jg q p
  ·have hset:∃J',(K++(J++p::q::S)).set K.length q=(K++[q])++(J'++q::S)/\J'.length=J.length/\∀x∈J',x∈J++[p]:=by
    cases J with
    |nil=>
     refine⟨[],?_,rfl,λx hx=>by cases hx⟩;simp
    |cons h T=>
     refine⟨T++[p],?_,by simp,λx hx=>by simp at hx ⊢;exact .inr hx⟩;simp
   obtain⟨J',e,eJ,mJ⟩:=hset
   obtain⟨r,⟨n,hn⟩,hr⟩:=wS r0 b h19 S (K++[q]) J' q (λx hx=>by
    simp only[anR,anr,aox,apZ]at hx;rcases hx with(hx|hx)|(hx|hx|hx)
    ·exact hok x (by simp[hx])
    ·rw[hx];exact hq
    ·have:=mJ x hx;simp only[anR,anr,aox,apZ]at this;rcases this with h|h
     ·exact hok x (by simp[h])
     ·rw[h];exact hp
    ·rw[hx];exact hq
    ·exact hok x (by simp[hx])) (by simp;omega) (k2+1) (by omega) (by simp;omega)
   refine⟨r,kC _ _ _ _ _ _ ⟨n,key r n ?_⟩,?_⟩
   ·rw[he,e];have:(K++[q]).length=K.length+1:=by simp
    rw[this]at hn;exact hn
   ·simpa using hr
  ·have e2:K++(J++p::q::S)=K++((J++[p])++q::S):=by simp
   obtain⟨r,⟨n,hn⟩,hr⟩:=wS r0 b h19 S K (J++[p]) q (e2▸hok) (e2▸hlen) (k2+1) (by omega) (by simp;omega);refine⟨r,kC _ _ _ _ _ _ ⟨n,key r n ?_⟩,hr⟩;rw[he,e2];exact hn
omit hc in
theorem Bt:∀(S A:List BP) (p:BP),(∀x∈A++p::S,okP 4000 x)->(A++p::S).length<=19->
  sP 14 (kA c (A++p::S) ((A.length+1:Nat):Int)) (A++p::kD jg p S)
 |[],A,p,hok,h19=>by
  refine⟨_,nJ _ _ _ ⟨0,?_⟩,.inl rfl⟩;unfold kb;rw[b8 (by simp)];rfl
 |q::S,A,p,hok,h19=>by
  have hq:okP 4000 q:=hok q (by simp);have hp:okP 4000 p:=hok p (by simp);have h19':A.length+(S.length+1+1)<=19:=by simpa using h19
  have g1:(A++p::q::S)[A.length+1]?=some q:=by
   simp
  have g0:(A++p::q::S)[A.length]?=some p:=pp A p (q::S);have ew:i64.wrap (((A.length+1:Nat):Int)-1)=(A.length:Int):=by rw[aV (by omega) (by omega)];omega
  have key:∀r n,(match jg q p with
    |true=>jF.k n 32 (eZ c (A++p::q::S) ((A.length+1:Nat):Int) ((A.length+1:Nat):Int) 1 (A++p::q::S))
    |false=>jF.k n 14 (kA c (A++p::q::S) ((A.length+1+1:Nat):Int)))=some r->
    kb c (A++p::q::S) ((A.length+1:Nat):Int) (jF.k n)=some r:=λr n h=>by
   unfold kb;rw[bH (by simp only[anK,ans];omega),aq,g1,show((A.length+1:Nat):Int).toNat=A.length+1 by omega,g1];dsimp only;rw[ew,aq,g0,show((A.length:Nat):Int).toNat=A.length by omega,g0];dsimp only;rw[dT (show okP 4000 q/\okP 4000 p from⟨hq,hp⟩),bW (k:=A.length+1) (by omega),dT (show(0:Int)<=((A.length+1:Nat):Int)/\((A.length+1:Nat):Int)<=((A++p::q::S).length:Int)/\((A++p::q::S).length:Int)<=((A++p::q::S).length:Int) by simp;omega)];exact h
  have hcm:kD jg p (q::S)=bif jg q p then kD jg q S else q::kD jg q S:=rfl;have e2:A++p::q::S=(A++[p])++q::S:=by simp
  rw[hcm];cases he:jg q p
  ·obtain⟨r,⟨n,hn⟩,hr⟩:=Bt S (A++[p]) q (e2▸hok) (e2▸h19);refine⟨r,nJ _ _ _ ⟨n,key r n ?_⟩,?_⟩
   ·rw[he,e2];have:(A++[p]).length=A.length+1:=by simp
    rw[this]at hn;exact hn
   ·rw[anD]at hr;exact hr
  ·obtain⟨r,⟨n,hn⟩,hr⟩:=wS c (A++p::q::S) (A.length+1) h19 S (A++[p]) [] q (e2▸hok) (by rw[e2];rfl) 1 (ani _) (by simp);refine⟨r,nJ _ _ _ ⟨n,key r n ?_⟩,?_⟩
   ·rw[he,e2];have:(A++[p]).length=A.length+1:=by simp
    rw[this,e2]at hn;exact hn
   ·rw[anD]at hr;exact hr
theorem Ui(hl:l.length<=19)(ho:∀x∈l,okP 4000 x):sP 6 (tu c l 0 20 l) (dB (dC c) l):=by
 have hlast:∀r:List BP,(∀x∈r,okP 4000 x)->r.length<=19->sP 22 (ky c l r 20) (xc jg r):=λr hr h19=>by
  cases r with
  |nil=>
   refine⟨_,nK _ _ _ _ ⟨0,?_⟩,.inl rfl⟩;unfold jT;rw[dF (show ¬(20:Int)<(l.length:Int) by omega)];rfl
  |cons p S=>
   cases S with
   |nil=>
    refine⟨_,nK _ _ _ _ ⟨0,?_⟩,.inl rfl⟩;unfold jT;rw[dF (show ¬(20:Int)<(l.length:Int) by omega)];rfl
   |cons q S=>
    obtain⟨r',⟨n,hn⟩,hr'⟩:=Bt c (q::S) [] p hr h19;refine⟨r',nK _ _ _ _ ⟨n,?_⟩,hr'⟩;unfold jT;rw[dF (show ¬(20:Int)<(l.length:Int) by omega)];dsimp only;rw[dF (show ¬((p::q::S).length:Int)<2 by simp;omega)];simpa using hn
 have hsort:sP 22 (ky c l (uq (ltP (dC c)) l) 20) (dB (dC c) l):=hlast _ (λx hx=>ho x (qt.1 hx)) (by rw[FE];exact hl)
 have h3:sP 3 (fB c l 0 1 l) (dB (dC c) l):=by
  cases l with
  |nil=>
   obtain⟨r,⟨n,hn⟩,hr⟩:=hsort;refine⟨r,lU _ _ _ _ _ ⟨n,?_⟩,hr⟩;unfold jm;rw[dF (show ¬(1:Int)<(([]:List BP).length:Int) by simp)];exact hn
  |cons x l=>
   have:=Bo c (x::l) hc hl _ l [x] (λy hy=>ho y (by simp at hy;simp[hy])) (λy hy=>ho y (ann _ hy)) (by simp;omega) hsort;simpa using this
 obtain⟨r,⟨n,hn⟩,hr⟩:=h3;refine⟨r,C7 _ _ _ _ _ ⟨n,?_⟩,hr⟩;unfold um;rw[dF (show ¬(20:Int)<=(l.length:Int) by omega),aV (x:=0+1) (by omega) (by omega)];exact hn
end
def Oj:Cn 40 [tCU,(.sl tP)]:=cn λ(c:BCU) (l:List BP)=>lf (mB c l) [.d (.sl tP) (dB (dC c) l)] λh=>by
 obtain⟨hc,hl,ho⟩:=h;obtain⟨r,⟨n,hn⟩,hr⟩:=Ui c l hc hl ho
 have hres:jF.Res 40 [.d tCU c,.d (.sl tP) l] r:=by
  refine akz _ _ ⟨n,?_⟩;unfold YZ;rw[dT (show l.length<=100000 by omega)];exact hn
 rcases hr with e|e
 ·rw[e]at hres;exact Con.new_d (et:=37) (dk II hres)
 ·rw[e]at hres;exact dk II hres
end
end Go.Proofs.YtagbmoohboleaaaGreat
end
