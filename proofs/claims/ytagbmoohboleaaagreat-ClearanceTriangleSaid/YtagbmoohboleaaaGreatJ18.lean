/- The comparison of two curves is about the least distance of their points: the theorem. -/
import Derived.Test.YtagbmoohboleaaaGreatJ17
import Derived.Test.YtagbmoohboleaaaGreatJ14
import Derived.Test.YtagbmoohboleaaaGreatJ16
import Derived.Test.YtagbmoohboleaaaGreatJ15
noncomputable section
namespace Go.Proofs.YtagbmoohboleaaaGreat
open Go.RowKit Go.IntKind
section
open RE
theorem adw{c d:BCU}(hc:gdN c)(hd:gdN d)(ec:c.1=true)(ed:d.1=true)(hz:nD (dC c) (dC d)=0){p q:PE}(hp:onE (dC c) p)(hq:onE (dC d) q){k:RE}(k0:0<k)(hk:frm (ciC (dC c)) p=((frm (ciC (dC c)) q).1*k,(frm (ciC (dC c)) q).2*k)){r:Rat}(hr:0<=r):jg (dC c) (dC d) r<=sg (dsE p q-of (r*r)):=by
 have ec':(dC c).1=true:=ec;have ed':(dC d).1=true:=ed;have gc:=KP hc.e ec';have gd:=KP hd.e ed'
 have e0:(ciC (dC c)).1=(ciC (dC d)).1/\(ciC (dC c)).2.1=(ciC (dC d)).2.1:=by
  have h:((ciC (dC d)).1-(ciC (dC c)).1)*((ciC (dC d)).1-(ciC (dC c)).1)+((ciC (dC d)).2.1-(ciC (dC c)).2.1)*((ciC (dC d)).2.1-(ciC (dC c)).2.1)=0:=hz;have h:=congrArg of h;rw[of_add,of_mul,of_mul]at h;obtain⟨a,b⟩:=kD (x:=of ((ciC (dC d)).1-(ciC (dC c)).1)) (y:=of ((ciC (dC d)).2.1-(ciC (dC c)).2.1)) h;have a:=l8 (b:=0) a;have b:=l8 (b:=0) b;exact⟨by grind,by grind⟩
 have ef:∀x,frm (ciC (dC d)) x=frm (ciC (dC c)) x:=λx=>by unfold frm;rw[e0.1,e0.2]
 refine xA hc hd hr ?_;rw[oK ec']at hp;rw[oK ed']at hq;obtain⟨op,sp⟩:=hp;obtain⟨oq,sq⟩:=hq;have op:dtE (frm (ciC (dC c)) p) (frm (ciC (dC c)) p)=of (ciC (dC c)).2.2:=op;have oq:dtE (frm (ciC (dC d)) q) (frm (ciC (dC d)) q)=of (ciC (dC d)).2.2:=oq;have fu:dtE (frm (ciC (dC c)) (pR (ccF (dC c)))) (frm (ciC (dC c)) (pR (ccF (dC c))))=of (ciC (dC c)).2.2:=gc.u;have fw:dtE (frm (ciC (dC c)) (pR (ccT (dC c)))) (frm (ciC (dC c)) (pR (ccT (dC c))))=of (ciC (dC c)).2.2:=gc.w;have gu:dtE (frm (ciC (dC d)) (pR (ccF (dC d)))) (frm (ciC (dC d)) (pR (ccF (dC d))))=of (ciC (dC d)).2.2:=gd.u;have gw:dtE (frm (ciC (dC d)) (pR (ccT (dC d)))) (frm (ciC (dC d)) (pR (ccT (dC d))))=of (ciC (dC d)).2.2:=gd.w;have ne1:=gc.ne;have ne2:=gd.ne;have Rp:=fX gc.q;simp only[ef]at oq gu gw sq ne2;have R0:0<of (ciC (dC c)).2.2:=Rp;obtain⟨u0,u1⟩:=iq k0;have sc:∀(a:PE) (x:RE),dtE (a.1*x,a.2*x) (a.1*x,a.2*x)=dtE a a*(x*x):=λa x=>by unfold dtE;dsimp only;grind
 have RR:of (ciC (dC d)).2.2*(k*k)=of (ciC (dC c)).2.2:=by
  rw[<-oq,<-op,hk,sc]
 have qe:frm (ciC (dC c)) q=((frm (ciC (dC c)) p).1*ivE k,(frm (ciC (dC c)) p).2*ivE k):=by
  rw[hk];have e:∀x:RE,x*k*ivE k=x:=λx=>by rw[mul_assoc,u1,mul_one]
  exact anx (e _).symm (e _).symm
 have ne2':((frm (ciC (dC c)) (pR (ccF (dC d)))).1*k,(frm (ciC (dC c)) (pR (ccF (dC d)))).2*k)≠((frm (ciC (dC c)) (pR (ccT (dC d)))).1*k,(frm (ciC (dC c)) (pR (ccT (dC d)))).2*k):=λh=>by
  have h1:=congrArg Prod.fst h;have h2:=congrArg Prod.snd h;dsimp only at h1 h2
  have e:∀{x y:RE},x*k=y*k->x=y:=λ{x y} h=>by
   have:=(cY (show(x-y)*k=0 by grind)).resolve_right (by grind);grind
  exact ne2 (anx (e h1) (e h2))
 have s2:gQ ((frm (ciC (dC c)) (pR (ccF (dC d)))).1*k,(frm (ciC (dC c)) (pR (ccF (dC d)))).2*k) ((frm (ciC (dC c)) (pR (ccT (dC d)))).1*k,(frm (ciC (dC c)) (pR (ccT (dC d)))).2*k) (frm (ciC (dC c)) p)=true:=by
  rw[IP _ _ _ k0,hk,nF _ _ _ k0];exact sq
 have ov:=WZ (f:=frm (ciC (dC c)) (pR (ccF (dC c)))) (w:=frm (ciC (dC c)) (pR (ccT (dC c)))) (z:=frm (ciC (dC c)) p) (by rw[fu];exact R0) (by rw[fw,fu]) ne1 (by rw[sc,gu,fu];exact RR) (by rw[sc,gw,fu];exact RR) ne2' (by rw[op,fu]) sp s2;have ft:∀(z:PE),frm (ciC (dC c)) (z.1+of (ciC (dC c)).1,z.2+of (ciC (dC c)).2.1)=z:=λz=>anx (by show _+_-_=_;grind) (by show _+_-_=_;grind)
 have ds:∀x y:PE,dsE x y=dtE ((frm (ciC (dC c)) x).1-(frm (ciC (dC c)) y).1,(frm (ciC (dC c)) x).2-(frm (ciC (dC c)) y).2) ((frm (ciC (dC c)) x).1-(frm (ciC (dC c)) y).1,(frm (ciC (dC c)) x).2-(frm (ciC (dC c)) y).2):=λx y=>by
  unfold dsE dtE frm;dsimp only;grind
 have en:∀{a:BCU},pR (ccF (dC a))=pR (frC (dC a))\/pR (ccF (dC a))=pR (toC (dC a)):=λ{a}=>by
  rcases lK (dC a)with⟨g,_⟩|⟨g,_⟩<;>rw[g]
  ·exact .inl rfl
  ·exact .inr rfl
 rcases ov with o|o
 ·rw[IP _ _ _ k0]at o;refine .inl ⟨pR (ccF (dC c)),((frm (ciC (dC c)) (pR (ccF (dC c)))).1*ivE k+of (ciC (dC c)).1,(frm (ciC (dC c)) (pR (ccF (dC c)))).2*ivE k+of (ciC (dC c)).2.1),en,?_,fP ?_⟩
  ·rw[oK ed'];have e:=ft ((frm (ciC (dC c)) (pR (ccF (dC c)))).1*ivE k,(frm (ciC (dC c)) (pR (ccF (dC c)))).2*ivE k);dsimp only at e;refine⟨?_,?_⟩
   ·show dtE (frm (ciC (dC d)) _) (frm (ciC (dC d)) _)=_;rw[ef,e,sc,fu,<-RR];have:of (ciC (dC d)).2.2*(k*k)*(ivE k*ivE k)=of (ciC (dC d)).2.2*((k*ivE k)*(k*ivE k)):=by grind
    rw[this,u1,mul_one,mul_one]
   ·rw[ef,ef,ef,e,nF _ _ _ u0];exact o
  ·have e:=ft ((frm (ciC (dC c)) (pR (ccF (dC c)))).1*ivE k,(frm (ciC (dC c)) (pR (ccF (dC c)))).2*ivE k);dsimp only at e;rw[ds,ds,e,qe];have f:∀a:PE,dtE (a.1-a.1*ivE k,a.2-a.2*ivE k) (a.1-a.1*ivE k,a.2-a.2*ivE k)=dtE a a*((1-ivE k)*(1-ivE k)):=λa=>by unfold dtE;dsimp only;grind
   dsimp only;rw[f,f,fu,op]
 ·refine .inr ⟨pR (ccF (dC d)),((frm (ciC (dC c)) (pR (ccF (dC d)))).1*k+of (ciC (dC c)).1,(frm (ciC (dC c)) (pR (ccF (dC d)))).2*k+of (ciC (dC c)).2.1),en,?_,fP ?_⟩
  ·rw[oK ec'];have e:=ft ((frm (ciC (dC c)) (pR (ccF (dC d)))).1*k,(frm (ciC (dC c)) (pR (ccF (dC d)))).2*k);dsimp only at e;refine⟨?_,?_⟩
   ·show dtE (frm (ciC (dC c)) _) (frm (ciC (dC c)) _)=_;rw[e,sc,gu,RR]
   ·rw[e];exact o
  ·have e:=ft ((frm (ciC (dC c)) (pR (ccF (dC d)))).1*k,(frm (ciC (dC c)) (pR (ccF (dC d)))).2*k);dsimp only at e;rw[ds,ds,e,hk];have f:∀a:PE,dtE (a.1-a.1*k,a.2-a.2*k) (a.1-a.1*k,a.2-a.2*k)=dtE a a*((1-k)*(1-k)):=λa=>by unfold dtE;dsimp only;grind
   have f':∀a:PE,dtE (a.1*k-a.1,a.2*k-a.2) (a.1*k-a.1,a.2*k-a.2)=dtE a a*((1-k)*(1-k)):=λa=>by unfold dtE;dsimp only;grind
   dsimp only;rw[f,f',gu,oq]
theorem ae5{c d:BCU}(hc:gdN c)(hd:gdN d)(hn:iM c d=[]){p q:PE}(hp:onE (dC c) p)(hq:onE (dC d) q)(hm:∀p' q',onE (dC c) p'->onE (dC d) q'->dsE p q<=dsE p' q'){r:Rat}(hr:0<=r):jg (dC c) (dC d) r<=sg (dsE p q-of (r*r)):=by
 have n1:=acV hc hp λx hx=>hm x q hx hq;have n2:=acV hd hq (q:=p) λx hx=>by rw[lI,lI x];exact hm p x hp hx
 rcases n1 with⟨E,hE,h⟩|n1
 ·exact xA hc hd hr (.inl ⟨E,q,hE,hq,h⟩)
 rcases n2 with⟨E,hE,h⟩|n2
 ·exact xA hc hd hr (.inr ⟨E,p,hE,hp,by rw[lI p q];exact h⟩)
 have o1:c.1=false->d.1=true->jg (dC c) (dC d) r<=wC (dC c) (dC d) r:=λa b=>by
  unfold jg;rw[show(dC c).1=false from a,show(dC d).1=true from b];simp only[cond_true,cond_false];omega
 have o2:c.1=true->d.1=false->jg (dC c) (dC d) r<=wC (dC d) (dC c) r:=λa b=>by
  unfold jg;rw[show(dC c).1=true from a,show(dC d).1=false from b];simp only[cond_true,cond_false];omega
 have o3:c.1=true->d.1=true->jg (dC c) (dC d) r<=te (dC c) (dC d) r:=λa b=>by
  unfold jg;rw[show(dC c).1=true from a,show(dC d).1=true from b];simp only[cond_true];omega
 rcases n1 with⟨ec,h1⟩|⟨ec,k,k0,hk⟩<;>rcases n2 with⟨ed,h2⟩|⟨ed,l,l0,hl⟩
 ·exact abv hc hd ec ed hn hp hq h1 h2 hr
 ·exact apG (o1 ec ed) (MJ hc hd ec ed hn hp hq h1 hl hr)
 ·have:=MJ hd hc ed ec (R6 hc hd hn) hq hp h2 hk hr;rw[lI]at this;exact apG (o2 ec ed) this
 ·by_cases hz:nD (dC c) (dC d)=0
  ·exact adw hc hd ec ed hz hp hq k0 hk hr
  ·have sF:cC (dC c) (dC d)=false:=by
    cases hs:cC (dC c) (dC d)
    ·rfl
    ·exfalso;unfold cC at hs;rw[show(dC c).1=true from ec,show(dC d).1=true from ed]at hs;have hs:qa (ciC (dC c)) (ciC (dC d))=true:=hs;obtain⟨s1,s2⟩:=am6.1 hs;have s1:=amZ s1;have s2:=amZ (am6.1 s2).1;refine hz ?_;show aW (wyv (dC c) (dC d)) (wyv (dC c) (dC d))=0;unfold aW wyv cD ctr;dsimp only;rw[s1,s2,Rat.sub_self,Rat.sub_self];grind
   exact apG (o3 ec ed) (adK hc hd ec ed hz (HK hc hd sF hn hp hq) hp hq k0 hk hl hr)
theorem afj{c d:BCU}(hc:gdN c)(hd:gdN d):∃m,(∃p q,onE (dC c) p/\onE (dC d) q/\dsE p q=m)/\Low c d m/\IsX (o0 c d) m:=by
 obtain⟨p,q,hp,hq,hm⟩:=Q9 hc.e hd.e;refine⟨dsE p q,⟨p,q,hp,hq,rfl⟩,hm,λr hr=>?_⟩;by_cases hn:iM c d=[]
 ·unfold o0 SJ;rw[dF (show ¬r<0 by grind),WQ hc hd hn,hn];exact Int.le_antisymm (ae5 hc hd hn hp hq hm hr) (WY hc hd hm hr)
 ·have z:dsE p q=0:=by
   have hx:∃x,onE (dC c) x/\onE (dC d) x:=by
    obtain⟨x,hx⟩:=List.exists_mem_of_ne_nil _ hn;obtain⟨_,hk,_,_,o1,o2⟩:=xN hc hd hx;have r:Rpd (dec x:Pt):=jD hk;rw[<-kX hc.crp r]at o1;rw[<-kX hd.crp r]at o2;exact⟨_,(jS hc.e).1 o1,(jS hd.e).1 o2⟩
   obtain⟨x,h1,h2⟩:=hx;have h:=hm x x h1 h2;have e:dsE x x=0:=by unfold dsE;grind
   rw[e]at h;exact le_antisymm h (wu _ _)
  have l:=anG.2 hn;have z0:of 0=0:=rfl;rw[z,<-z0,<-of_sub,sg_of];unfold o0 SJ;rw[dF (show ¬r<0 by grind),dT (show((iM c d).length:Int)>0 by omega),Bool.true_or];show-aE r 0=_;by_cases h:r=0
  ·subst h;decide+kernel
  ·have p:0<r:=by grind
   have:=ano p p;unfold aE;rw[dF (show ¬r<0 by grind),dT p,dT (show 0-r*r<0 by grind)];rfl
end
section
instance amH {a b c d e f:Rat} {i1 i2 i3 i4 i5 i6:Nat} [h1:Bd a i1] [h2:Bd b i2] [h3:Bd c i3] [h4:Bd d i4] [h5:Bd e i5] [h6:Bd f i6]:Bd ((a,b,c,d,e,f):Qd) (mx i1 (mx i2 (mx i3 (mx i4 (mx i5 i6))))):=inferInstance
instance alj {p:Pt} {v:Rat×Rat} {j k:Nat} [h:Bd p j] [h':Bd v k]:Bd (rcX p v) (j+k+1):=by
 have a:Bd (p.1-v.1) _:=inferInstance;have b:Bd p.2.1 j:=inferInstance;have i:Bd ((p.1-v.1,p.2.1):Rat×Rat) _:=inferInstance;exact i.mono (fZ (by omega) (by omega))
instance ami {p:Pt} {v:Rat×Rat} {j k:Nat} [h:Bd p j] [h':Bd v k]:Bd (rcY p v) (j+k+1):=by
 have a:Bd (p.2.2.1-v.2) _:=inferInstance;have b:Bd p.2.2.2.1 j:=inferInstance;have i:Bd ((p.2.2.1-v.2,p.2.2.2.1):Rat×Rat) _:=inferInstance;exact i.mono (fZ (by omega) (by omega))
instance amh {p q:Pt} {j k:Nat} [h:Bd p j] [h':Bd q k]:Bd (noQ p q) (j+k):=by
 have hj:1<=j:=pK (show bdR j p.1 from(inferInstance:Bd p.1 j).le);have z:Bd (0:Rat) (j+k):=⟨bJ mN.le (by omega)⟩
 have a:Bd p.2.2.2.2 (j+k):=(inferInstance:Bd p.2.2.2.2 j).mono (by omega);have b:Bd q.2.2.2.2 (j+k):=(inferInstance:Bd q.2.2.2.2 k).mono (by omega);have i:Bd ((0,0,0,0,p.2.2.2.2,q.2.2.2.2):Qd) _:=inferInstance;have e:∀n,mx n n=n:=λn=>by unfold mx;rw[amW (am2 n)];rfl
 simp only[e]at i;exact i
instance akT {q:Qd} {x y:Rat×Rat} {s:Rat} {i j k l:Nat} [h:Bd q i] [h1:Bd x j] [h2:Bd y k] [h3:Bd s l]:Bd (prQ q x y s) (i+l+j+k+1):=by
 have a1:Bd (q.1+s*(x.1*y.1)) (i+(l+(j+k))+1):=inferInstance;have a2:Bd (q.2.1+s*(x.2*y.1)) (i+(l+(j+k))+1):=inferInstance;have a3:Bd (q.2.2.1+s*(x.1*y.2)) (i+(l+(j+k))+1):=inferInstance;have a4:Bd (q.2.2.2.1+s*(x.2*y.2)) (i+(l+(j+k))+1):=inferInstance;have a5:Bd q.2.2.2.2.1 (i+(l+(j+k))+1):=(inferInstance:Bd q.2.2.2.2.1 i).mono (by omega);have a6:Bd q.2.2.2.2.2 (i+(l+(j+k))+1):=(inferInstance:Bd q.2.2.2.2.2 i).mono (by omega);have i6:Bd ((q.1+s*(x.1*y.1),q.2.1+s*(x.2*y.1),q.2.2.1+s*(x.1*y.2),q.2.2.2.1+s*(x.2*y.2),q.2.2.2.2.1,q.2.2.2.2.2):Qd) _:=inferInstance;have e:∀n,mx n n=n:=λn=>by unfold mx;rw[amW (am2 n)];rfl
 simp only[e]at i6;exact i6.mono (by omega)
theorem adP{q:Qd}{k:Nat}[h:Bd q k](hk:k<=6000)(h5:0<=q.2.2.2.2.1)(h6:0<=q.2.2.2.2.2):decide (okQ (enc q))=true:=by
 have n5:Nn q.2.2.2.2.1:=⟨h5⟩
 have n6:Nn q.2.2.2.2.2:=⟨h6⟩
 show decide (okQ (enc ((q.1,q.2.1,q.2.2.1,q.2.2.2.1,q.2.2.2.2.1,q.2.2.2.2.2):Qd)))=true;exact AA (a:=k) (b:=k) (c:=k) (d:=k) (m:=k) (n:=k) (by omega) (by omega) (by omega) (by omega) (by omega) (by omega)
instance amL:Bd z2 1:=(inferInstance:Bd ((0,0):Rat×Rat) _)
theorem akQ(p:Pt)(v:Rat×Rat):(sqP p v).1=sqA p v:=by
 show(coR (sqA p v) (sqB p v) p.2.2.2.2).1=_;unfold coR;cases decide (sqB p v=0)<;>rfl
theorem adG(p:Pt)(v:Rat×Rat):(sqP p v).2.1=sqB p v:=by
 show(coR (sqA p v) (sqB p v) p.2.2.2.2).2.1=_;unfold coR;by_cases e:sqB p v=0
 ·rw[amW e,e];rfl
 ·rw[amY e];rfl
theorem aap(p:Pt)(v:Rat×Rat):(sqP p v).2.1=0\/(sqP p v).2.2=p.2.2.2.2:=by
 show(coR (sqA p v) (sqB p v) p.2.2.2.2).2.1=0\/(coR (sqA p v) (sqB p v) p.2.2.2.2).2.2=_;unfold coR;cases decide (sqB p v=0)
 ·exact .inr rfl
 ·exact .inl rfl
theorem act{p q:Pt}{r:Rat}[bp:Bd p 580][bq:Bd q 580][br:Bd r 1000](hp:0<=p.2.2.2.2)(hq:0<=q.2.2.2.2):decide (okQ (enc (apQ p q r)))=true:=by
 have n1:Nn p.2.2.2.2:=⟨hp⟩
 have n2:Nn q.2.2.2.2:=⟨hq⟩
 have b2:Bd (-2:Rat) 3:=cN (n:= -2) (by decide);have bD:Bd (doQ z2 p q) 3496:=(inferInstance:Bd (prQ (prQ (noQ p q) (rcX p z2) (rcX q z2) (-2)) (rcY p z2) (rcY q z2) (-2)) _).mono (by decide);have bA:Bd ((doQ z2 p q).1+(sqA p z2+sqA q z2)-r*r) _:=inferInstance;have bB:Bd ((doQ z2 p q).2.1+sqB p z2) _:=inferInstance;have bC:Bd ((doQ z2 p q).2.2.1+sqB q z2) _:=inferInstance;have bE:Bd (doQ z2 p q).2.2.2.1 3496:=inferInstance;exact AA (h1:=bA) (h2:=bB) (h3:=bC) (h4:=bE) (by decide) (by decide) (by decide) (by decide) (by decide) (by decide)
namespace RE
theorem ajp(a b c d:RE):a*d-b*c= -(c*b-d*a):=by grind
theorem P5(u w:PE):crs u w= -crs w u:=ajp _ _ _ _
theorem turS_anti(v:Rat×Rat)(p q:PE):turS v p q= -turS v q p:=by
 unfold turS;rw[P5,sM]
theorem wit_eq(c:Cv)(p:PE):witE c p=Hj (turS (ctr (ciC c)) (pR (ccF c)) (pR (ccT c))) (turS (ctr (ciC c)) (pR (ccF c)) p) (turS (ctr (ciC c)) p (pR (ccT c))):=rfl
theorem wit_go(a b c:Int):(match decide (a>=0)with|true=>(match decide (b>=0)with|true=>some [RV.d .bool (decide (c>=0))]|false=>some [RV.d .bool false])|false=>(match decide (-c<=0)with|true=>some [RV.d .bool true]|false=>some [RV.d .bool (decide (-b<=0))]))=some [RV.d .bool (Hj a b c)]:=by
 have h1:decide (-c<=0)=decide (0<=c):=an7.2 (by omega);have h2:decide (-b<=0)=decide (0<=b):=an7.2 (by omega);have h3:decide (c<0)=!decide (0<=c):=by rw[<-decide_not];exact an7.2 (by omega)
 have h4:decide (b<0)=!decide (0<=b):=by rw[<-decide_not];exact an7.2 (by omega)
 unfold Hj;simp only[h1,h2,h3,h4,ge_iff_le];cases decide (0<=a)<;>cases decide (0<=b)<;>cases decide (0<=c)<;>rfl
open Classical in
theorem bes_E{c:Cv}[hf:Rpd (frC c)][ht:Rpd (toC c)]{p:Pt}[hp:Rpd p]:besE c (pR p)=nU c p:=by
 unfold besE;rw[apb,an4];exact zy.symm
theorem min_if(a b:Int):(if b<a then b else a)=min a b:=by
 split<;>omega
theorem wr_sg(x:RE):i64.wrap (0-sg x)= -sg x:=by
 rcases bi x with⟨_,e⟩|⟨_,e⟩|⟨_,e⟩<;>rw[e]<;>rfl
theorem abC(a b m t:RE):a*a+m*(b*b)+2*(a*b)*t=(a+b*t)*(a+b*t)+(m-t*t)*(b*b):=by grind
theorem ae9(A B C x y z w t:RE):A*x+B*y-C+(A*z+B*w)*t=A*(x+z*t)+B*(y+w*t)-C:=by grind
theorem vR_lin(l:Ln){p:Pt}[hp:Rpd p]:vR (mkR (qC l p*qC l p+p.2.2.2.2*(qK l p*qK l p)) (2*(qC l p*qK l p)) p.2.2.2.2)=exE l (pR p)*exE l (pR p):=by
 have e:exE l (pR p)=of (qC l p)+of (qK l p)*rq p.2.2.2.2:=by
  unfold exE pR pX pY v2 qC qK;dsimp only;rw[of_sub,of_add,of_add,of_mul,of_mul,of_mul,of_mul,ae9]
 have two:of 2=2:=rfl;rw[vR_mk,e];unfold v2;rw[of_add,of_mul,of_mul,of_mul,of_mul,of_mul,two,abC,dB hp.nn,sub_self,zero_mul,add_zero]
theorem sq_zr{p:Pt}[hp:Rpd p]{v:Rat×Rat}:(sgR (sqP p v)==0)=true↔pR p=vE v:=by
 have hr:Rdd (sqP p v):=inferInstance;rw[G8 hr.nn,anV,qz,vR_sq];constructor
 ·intro e;obtain⟨a,b⟩:=kD e;exact anx (gJ _ _ a) (gJ _ _ b)
 ·intro e;rw[e];unfold dsE;rw[sub_self,sub_self,mul_zero,add_zero]
end RE
def aef:List En:=[⟨54,gi,eg⟩,enL akg]
def aa2(r:BO3)(_k:KT):OLR:=match decide (okR r.1)with|true=>(match decide (okR r.2.1)with|true=>(match(aE (ah r.2.1) 0)==0 with|true=>some [RV.d aqh (aE (ah r.1) 0)]|false=>(match(aE (ah r.1) 0)==(aE (ah r.2.1) 0)with|true=>some [RV.d aqh (aE (ah r.1) 0)]|false=>(match(aE (ah r.1) 0)==0 with|true=>some [RV.d aqh (aE (ah r.2.1) 0)]|false=>(match decide (ok Rt 15000 r)with|true=>(match decide (okR (hid (ao (noR (dec r)))))with|true=>some [RV.d aqh (i64.wrap ((aE (ah r.1) 0)*(aE (ah (hid (ao (noR (dec r))))) 0)))]|false=>none)|false=>none))))|false=>none)|false=>none
def aja:Cn 129 [tO]:=cn λ(r:BO3)=>lf (okT 15000 r) [.d aqh (sgR (dec r))] λh=>by
 refine aB aef (aa2 r) ⟨0,?_⟩;have hr:=h;obtain⟨r,rfl,br,rr⟩:=fU hr;unfold aa2;simp only[bL,aA,t7,CY,fd,ct,okd,Io,Nat.reduceAdd,Nat.reduceMul,Nat.reduceLeDiff,Ca (kI _ _) (kI _ _)];rw[abp rr];cases aE r.2.1 0==0
 ·cases aE r.1 0==aE r.2.1 0
  ·cases aE r.1 0==0<;>rfl
  ·rfl
 ·rfl
def Dj:List En:=[⟨54,gi,eg⟩,⟨133,lU,ib⟩,⟨125,jh,fE⟩,⟨67,iA,fi⟩,⟨66,mX,ji⟩,⟨132,jw,fO⟩,⟨65,je,fH⟩,enL abq,enL SP,enL A8,enL Yn,enT Er,enT QB,enL Rl,enL IG,enL Mj,enL YC,enL Zd,enT XH,enT PJ,enT aja]
def aaL(p:BP)(v:BV)(_k:KT):OLR:=cA (og (o2 p.1 v.1) (cA (og (o2 p.2.2.1 v.2) (dup (.b .l .l) (some [RV.d tV (hSu p.1 v.1,p.2.1),RV.d tV (hSu p.2.2.1 v.2,p.2.2.2.1)]))) (og (o2 p.2.2.1 v.2) (some [RV.d tV (hSu p.1 v.1,p.2.1),RV.d tV (hSu p.2.2.1 v.2,p.2.2.2.1)])))) (og (o2 p.1 v.1) (og (o2 p.2.2.1 v.2) (some [RV.d tV (hSu p.1 v.1,p.2.1),RV.d tV (hSu p.2.2.1 v.2,p.2.2.2.1)])))
def aiE:Cn 214 [tP,tV]:=cn λ(p:BP) (v:BV)=>lf (okP 580 p/\ok (Rat×Rat) 400 v) [.d tV (enc (rcX (dec p) (dec v))),.d tV (enc (rcY (dec p) (dec v)))] λh=>by
 refine aB Dj (aaL p v) ⟨0,?_⟩;obtain⟨hp,hv⟩:=h;obtain⟨p,rfl,bp,rp⟩:=bR hp;obtain⟨v,rfl,bv⟩:=aD hv;unfold aaL;simp only[aU,Nat.reduceLeDiff];try rfl
def ZZ(q:BQ)(x y:BV)(s:Int)(_k:KT):OLR:=og (decide (aI s)) (og (o2 x.1 y.1) (og (o2 (hid (ao (s:Rat))) (hMu x.1 y.1)) (og (o2 q.1 (hMu (hid (ao (s:Rat))) (hMu x.1 y.1))) (og (o2 x.2 y.1) (og (o2 (hid (ao (s:Rat))) (hMu x.2 y.1)) (og (o2 q.2.1 (hMu (hid (ao (s:Rat))) (hMu x.2 y.1))) (og (o2 x.1 y.2) (og (o2 (hid (ao (s:Rat))) (hMu x.1 y.2)) (og (o2 q.2.2.1 (hMu (hid (ao (s:Rat))) (hMu x.1 y.2))) (og (o2 x.2 y.2) (og (o2 (hid (ao (s:Rat))) (hMu x.2 y.2)) (og (o2 q.2.2.2.1 (hMu (hid (ao (s:Rat))) (hMu x.2 y.2))) (some [RV.d tQ (hAd q.1 (hMu (hid (ao (s:Rat))) (hMu x.1 y.1)),(hAd q.2.1 (hMu (hid (ao (s:Rat))) (hMu x.2 y.1)),(hAd q.2.2.1 (hMu (hid (ao (s:Rat))) (hMu x.1 y.2)),(hAd q.2.2.2.1 (hMu (hid (ao (s:Rat))) (hMu x.2 y.2)),q.2.2.2.2))))])))))))))))))
def afx:Cn 215 [tQ,tV,tV,aqh]:=cn λ(q:BQ) (x y:BV) (s:Int)=>lf (ok Qd 12000 q/\ok (Rat×Rat) 2500 x/\ok (Rat×Rat) 2500 y/\aI s) [.d tQ (enc (prQ (dec q) (dec x) (dec y) (s:Rat)))] λh=>by
 refine aB Dj (ZZ q x y s) ⟨0,?_⟩;obtain⟨hq,hx,hy,hs⟩:=h;obtain⟨q,rfl,bq⟩:=aD hq;obtain⟨x,rfl,bx⟩:=aD hx;obtain⟨y,rfl,b_y⟩:=aD hy;have bs:=cN hs;unfold ZZ;simp only[aU,Nat.reduceAdd,Nat.reduceLeDiff,dT hs];try rfl
def X5(p q:BP)(_k:KT):OLR:=og (decide (aI (0:Int))) (some [RV.d tQ (hid (ao ((0:Int):Rat)),(hid (ao ((0:Int):Rat)),(hid (ao ((0:Int):Rat)),(hid (ao ((0:Int):Rat)),(p.2.2.2.2,q.2.2.2.2)))))])
def af7:Cn 216 [tP,tP]:=cn λ(p q:BP)=>lf (okP 580 p/\okP 580 q) [.d tQ (enc (noQ (dec p) (dec q)))] λh=>by
 refine aB Dj (X5 p q) ⟨0,?_⟩;obtain⟨hp,hq⟩:=h;obtain⟨p,rfl,bp,rp⟩:=bR hp;obtain⟨q,rfl,bq,rq⟩:=bR hq;unfold X5;simp only[aU,dT (show aI 0 by decide)];try rfl
def BF:List En:=enL aiE::enL afx::enL af7::Dj
def Yf(v:BV)(p q:BP)(_k:KT):OLR:=og (decide (okP 580 p/\ok (Rat×Rat) 400 v)) (og (decide (okP 580 q/\ok (Rat×Rat) 400 v)) (og (decide (okP 580 p/\okP 580 q)) (og (decide (ok Qd 12000 (hid (enc (noQ (dec p) (dec q))))/\ok (Rat×Rat) 2500 (hid (enc (rcX (dec p) (dec v))))/\ok (Rat×Rat) 2500 (hid (enc (rcY (dec q) (dec v))))/\aI (1:Int))) (og (decide (ok Qd 12000 (hid (enc (prQ (dec (hid (enc (noQ (dec p) (dec q))))) (dec (hid (enc (rcX (dec p) (dec v))))) (dec (hid (enc (rcY (dec q) (dec v))))) ((1:Int):Rat))))/\ok (Rat×Rat) 2500 (hid (enc (rcY (dec p) (dec v))))/\ok (Rat×Rat) 2500 (hid (enc (rcX (dec q) (dec v))))/\aI ((-1):Int))) (og (decide (okQ (hid (enc (prQ (dec (hid (enc (prQ (dec (hid (enc (noQ (dec p) (dec q))))) (dec (hid (enc (rcX (dec p) (dec v))))) (dec (hid (enc (rcY (dec q) (dec v))))) ((1:Int):Rat))))) (dec (hid (enc (rcY (dec p) (dec v))))) (dec (hid (enc (rcX (dec q) (dec v))))) (((-1):Int):Rat)))))) (some [RV.d aqh (sgQ (dec (hid (enc (prQ (dec (hid (enc (prQ (dec (hid (enc (noQ (dec p) (dec q))))) (dec (hid (enc (rcX (dec p) (dec v))))) (dec (hid (enc (rcY (dec q) (dec v))))) ((1:Int):Rat))))) (dec (hid (enc (rcY (dec p) (dec v))))) (dec (hid (enc (rcX (dec q) (dec v))))) (((-1):Int):Rat))))))]))))))
def agj:Cn 226 [tV,tP,tP]:=cn λ(v:BV) (p q:BP)=>lf (ok (Rat×Rat) 400 v/\okP 580 p/\okP 580 q) [.d aqh (RE.turS (dec v) (RE.pR (dec p)) (RE.pR (dec q)))] λh=>by
 refine aB BF (Yf v p q) ⟨0,?_⟩;obtain⟨hv,hp,hq⟩:=h;obtain⟨v,rfl,bv⟩:=aD hv;obtain⟨p,rfl,bp,rp⟩:=bR hp;obtain⟨q,rfl,bq,rq⟩:=bR hq;have h1:decide (aI 1)=true:=by decide
 have h2:decide (aI (-1))=true:=by decide
 have c1:((1:Int):Rat)=1:=rfl;have c2:((-1:Int):Rat)= -1:=rfl;have b1:Bd (1:Rat) 3:=cN (n:=1) (by decide);have b2:Bd (-1:Rat) 3:=cN (n:= -1) (by decide);have n1:Bd (prQ (prQ (noQ p q) (rcX p v) (rcY q v) 1) (rcY p v) (rcX q v) (-1)) _:=inferInstance;have o1:decide (okQ (enc (prQ (prQ (noQ p q) (rcX p v) (rcY q v) 1) (rcY p v) (rcX q v) (-1))))=true:=adP (k:=6000) (h:=n1.mono (by decide)) (by decide) rp.nn rq.nn;unfold Yf;simp only[aU,Nat.reduceAdd,Nat.reduceLeDiff,aL,h1,h2,c1,c2,o1];rw[<-RE.crQ_re];rfl
def YF(a:BO3)(c:BR)(_k:KT):OLR:=og (o1 a.2.1) (match(aE (ah a.2.1) 0)==0 with|true=>some [RV.d tR a.2.1]|false=>(og (o2 a.2.2 c) (match(aE (ah a.2.2) (ah c))==0 with|true=>some [RV.d tR a.2.1]|false=>(og (decide (iS a.2.2 c)) (og (o1 (hDi a.2.2 c)) (match !(ga (ah (hDi a.2.2 c)))with|true=>some [RV.d tR a.2.1]|false=>(og (o2 a.2.1 (hid (rtB (ah (hDi a.2.2 c))))) (some [RV.d tR (hMu a.2.1 (hid (rtB (ah (hDi a.2.2 c)))))]))))))))
def ah6:Cn 217 [tO,tR]:=cn λ(a:BO3) (c:BR)=>lf (okT 15000 a/\ok Rat 15000 c/\((dec a:Rt).2.1=0\/(dec a:Rt).2.2=ah c)) [.d tR (ao (dec a:Rt).2.1)] λh=>by
 refine aB BF (YF a c) ⟨0,?_⟩;obtain⟨ha,hc,h⟩:=h;obtain⟨a,rfl,ba,ra⟩:=fU ha;obtain⟨c,rfl,bc⟩:=aD hc;rw[aA,fd,ct]at h;unfold YF;simp only[aU,Nat.reduceAdd,Nat.reduceLeDiff,aq];by_cases e:a.2.1=0
 ·rw[dT e]
 ·rw[dF e,dT (h.resolve_left e)]
def ZF(d:BO3)(q r:BR)(_k:KT):OLR:=og (o2 r r) (og (o2 q (hMu r r)) (og (o2 r r) (og (decide (ok Rat 100000 (hAd q (hMu r r))/\ok Rat 100000 (hAd r r)/\ok Rat 100000 q/\0<=ah q)) (og (decide (okT 15000 d/\okT 15000 (hid (enc (mkR (ah (hAd q (hMu r r))) (ah (hAd r r)) (ah q)))))) (match decide ((bh (dec d) (dec (hid (enc (mkR (ah (hAd q (hMu r r))) (ah (hAd r r)) (ah q))))))>=0)with|true=>some [RV.d aqh (bh (dec d) (dec (hid (enc (mkR (ah (hAd q (hMu r r))) (ah (hAd r r)) (ah q))))))]|false=>(og (o2 r r) (og (o2 q (hMu r r)) (match decide ((aE (ah q) (ah (hMu r r)))<=0)with|true=>some [RV.d aqh (-1)]|false=>(og (o1 (hAd r r)) (og (decide (ok Rat 100000 (hAd q (hMu r r))/\ok Rat 100000 (hNe (hAd r r))/\ok Rat 100000 q/\0<=ah q)) (og (decide (okT 15000 d/\okT 15000 (hid (enc (mkR (ah (hAd q (hMu r r))) (ah (hNe (hAd r r))) (ah q)))))) (some [RV.d aqh (i64.wrap (0-(bh (dec d) (dec (hid (enc (mkR (ah (hAd q (hMu r r))) (ah (hNe (hAd r r))) (ah q))))))))]))))))))))))
def ag6:Cn 131 [tO,tR,tR]:=cn λ(d:BO3) (q r:BR)=>lf (okT 15000 d/\ok Rat 1000 q/\ok Rat 1000 r/\0<=ah q) [.d aqh (RE.rngS (RE.vR (dec d)) (ah q) (ah r))] λh=>by
 refine aB BF (ZF d q r) ⟨0,?_⟩;obtain⟨hd,hq,hr,hn⟩:=h;obtain⟨d,rfl,bd,rd⟩:=fU hd;obtain⟨q,rfl,bq⟩:=aD hq;obtain⟨r,rfl,br⟩:=aD hr;rw[fd,ct]at hn;have nq:Nn q:=⟨hn⟩
 have m:∀a b,bh d (mkR a b q)=RE.sg (RE.vR d-RE.v2 a b q):=λa b=>by
  rw[RE.cmpT_re rd.nn (u7 (a:=a) (b:=b) (c:=q)).nn,RE.vR_mk]
 unfold ZF RE.rngS;simp only[aU,Nat.reduceAdd,Nat.reduceLeDiff,aK,dT hn,m,ge_iff_le,RE.wr_sg];cases decide (0<=RE.sg (RE.vR d-RE.v2 (q+r*r) (r+r) q))
 ·cases decide (aE q (r*r)<=0)<;>rfl
 ·rfl
def FP:List En:=enT agj::enL ah6::enT ag6::BF
def XK(p q:BP)(r:BR)(_k:KT):OLR:=let y1:=ao ((0:Int):Rat);let y2:=hid (enc (noQ (dec p) (dec q)));let y3:=dec (hid y1,hid y1);let y4:=hid (enc (rcX (dec p) y3));let y5:=hid (enc (rcX (dec q) y3));let y6:=hid (enc (prQ (dec y2) (dec y4) (dec y5) (((-2):Int):Rat)));let y7:=hid (enc (rcY (dec p) y3));let y8:=hid (enc (rcY (dec q) y3));let y9:=hid (enc (sqP (dec p) y3));let y10:=hid (enc (sqP (dec q) y3));let y11:=hid (enc (prQ (dec y6) (dec y7) (dec y8) (((-2):Int):Rat)));let y12:=hAd (y9.1) (y10.1);let y13:=hid (ao (dec y9:Rt).2.1);let y14:=hid (ao (dec y10:Rt).2.1);og (decide (aI (0:Int))) (og (decide (aI (0:Int))) (og (decide (okP 580 p/\ok (Rat×Rat) 400 (hid y1,hid y1))) (og (decide (okP 580 q/\ok (Rat×Rat) 400 (hid y1,hid y1))) (og (decide (okP 580 p/\okP 580 q)) (og (decide (ok Qd 12000 y2/\ok (Rat×Rat) 2500 y4/\ok (Rat×Rat) 2500 y5/\aI ((-2):Int))) (og (decide (ok Qd 12000 y6/\ok (Rat×Rat) 2500 y7/\ok (Rat×Rat) 2500 y8/\aI ((-2):Int))) (og (decide (okP 3500 p/\ok (Rat×Rat) 300 (hid y1,hid y1))) (og (decide (okP 3500 q/\ok (Rat×Rat) 300 (hid y1,hid y1))) (og (o2 (y9.1) (y10.1)) (og (o2 (y11.1) y12) (og (o2 r r) (og (o2 (hAd (y11.1) y12) (hMu r r)) (og (decide (okT 15000 y9/\ok Rat 15000 p.2.2.2.2/\((dec y9:Rt).2.1=0\/(dec y9:Rt).2.2=ah p.2.2.2.2))) (og (o2 ((y11.2).1) y13) (og (decide (okT 15000 y10/\ok Rat 15000 q.2.2.2.2/\((dec y10:Rt).2.1=0\/(dec y10:Rt).2.2=ah q.2.2.2.2))) (og (o2 (((y11.2).2).1) y14) (og (decide (okQ (hSu (hAd (y11.1) y12) (hMu r r),(hAd ((y11.2).1) y13,(hAd (((y11.2).2).1) y14,((y11.2).2).2))))) (some [RV.d aqh (sgQ (dec (hSu (hAd (y11.1) y12) (hMu r r),(hAd ((y11.2).1) y13,(hAd (((y11.2).2).1) y14,((y11.2).2).2)))))]))))))))))))))))))
def ahc:Cn 119 [tP,tP,tR]:=cn λ(p q:BP) (r:BR)=>lf (okP 580 p/\okP 580 q/\ok Rat 1000 r) [.d aqh (RE.apaS (RE.pR (dec p)) (RE.pR (dec q)) (ah r))] λh=>by
 refine aB FP (XK p q r) ⟨0,?_⟩;obtain⟨hp,hq,hr⟩:=h;obtain⟨p,rfl,bp,rp⟩:=bR hp;obtain⟨q,rfl,bq,rq⟩:=bR hq;obtain⟨r,rfl,br⟩:=aD hr;have h0:decide (aI 0)=true:=by decide
 have h2:decide (aI (-2))=true:=by decide
 have c2:((-2:Int):Rat)= -2:=rfl;have b2:Bd (-2:Rat) 3:=cN (n:= -2) (by decide);have hz:((ao ((0:Int):Rat),ao ((0:Int):Rat)):BV)=enc z2:=rfl;have o1:=act (p:=p) (q:=q) (r:=r) rp.nn rq.nn;unfold XK;simp only[aU,Nat.reduceAdd,Nat.reduceMul,Nat.reduceLeDiff,aK,aL,h0,h2,c2,hz,dT (show sqB p z2=0\/(sqP p z2).2.2=p.2.2.2.2 by rw[<-adG];exact aap p z2),dT (show sqB q z2=0\/(sqP q z2).2.2=q.2.2.2.2 by rw[<-adG];exact aap q z2),akQ,adG];show(match decide (okQ (enc (apQ p q r)))with|true=>some [RV.d aqh (sgQ (dec (enc (apQ p q r))))]|false=>none)=_;rw[aA,o1,RE.apQ_re]
def aa0(c:BCU)(p:BP)(_k:KT):OLR:=match c.2.2.2.1 with|true=>(og (decide (ok (Rat×Rat) 400 (hid ((c.2.2.1.1,c.2.2.1.2.1)))/\okP 580 c.2.2.2.2.2/\okP 580 c.2.2.2.2.1)) (match decide ((RE.turS (dec (hid ((c.2.2.1.1,c.2.2.1.2.1)))) (RE.pR (dec c.2.2.2.2.2)) (RE.pR (dec c.2.2.2.2.1)))>=0)with|true=>(og (decide (ok (Rat×Rat) 400 (hid ((c.2.2.1.1,c.2.2.1.2.1)))/\okP 580 c.2.2.2.2.2/\okP 580 p)) (match decide ((RE.turS (dec (hid ((c.2.2.1.1,c.2.2.1.2.1)))) (RE.pR (dec c.2.2.2.2.2)) (RE.pR (dec p)))>=0)with|true=>(og (decide (ok (Rat×Rat) 400 (hid ((c.2.2.1.1,c.2.2.1.2.1)))/\okP 580 p/\okP 580 c.2.2.2.2.1)) (some [RV.d .bool (decide ((RE.turS (dec (hid ((c.2.2.1.1,c.2.2.1.2.1)))) (RE.pR (dec p)) (RE.pR (dec c.2.2.2.2.1)))>=0))]))|false=>some [RV.d .bool false]))|false=>(og (decide (ok (Rat×Rat) 400 (hid ((c.2.2.1.1,c.2.2.1.2.1)))/\okP 580 c.2.2.2.2.1/\okP 580 p)) (match decide ((RE.turS (dec (hid ((c.2.2.1.1,c.2.2.1.2.1)))) (RE.pR (dec c.2.2.2.2.1)) (RE.pR (dec p)))<=0)with|true=>some [RV.d .bool true]|false=>(og (decide (ok (Rat×Rat) 400 (hid ((c.2.2.1.1,c.2.2.1.2.1)))/\okP 580 p/\okP 580 c.2.2.2.2.2)) (some [RV.d .bool (decide ((RE.turS (dec (hid ((c.2.2.1.1,c.2.2.1.2.1)))) (RE.pR (dec p)) (RE.pR (dec c.2.2.2.2.2)))<=0))]))))))|false=>(og (decide (ok (Rat×Rat) 400 (hid ((c.2.2.1.1,c.2.2.1.2.1)))/\okP 580 c.2.2.2.2.1/\okP 580 c.2.2.2.2.2)) (match decide ((RE.turS (dec (hid ((c.2.2.1.1,c.2.2.1.2.1)))) (RE.pR (dec c.2.2.2.2.1)) (RE.pR (dec c.2.2.2.2.2)))>=0)with|true=>(og (decide (ok (Rat×Rat) 400 (hid ((c.2.2.1.1,c.2.2.1.2.1)))/\okP 580 c.2.2.2.2.1/\okP 580 p)) (match decide ((RE.turS (dec (hid ((c.2.2.1.1,c.2.2.1.2.1)))) (RE.pR (dec c.2.2.2.2.1)) (RE.pR (dec p)))>=0)with|true=>(og (decide (ok (Rat×Rat) 400 (hid ((c.2.2.1.1,c.2.2.1.2.1)))/\okP 580 p/\okP 580 c.2.2.2.2.2)) (some [RV.d .bool (decide ((RE.turS (dec (hid ((c.2.2.1.1,c.2.2.1.2.1)))) (RE.pR (dec p)) (RE.pR (dec c.2.2.2.2.2)))>=0))]))|false=>some [RV.d .bool false]))|false=>(og (decide (ok (Rat×Rat) 400 (hid ((c.2.2.1.1,c.2.2.1.2.1)))/\okP 580 c.2.2.2.2.2/\okP 580 p)) (match decide ((RE.turS (dec (hid ((c.2.2.1.1,c.2.2.1.2.1)))) (RE.pR (dec c.2.2.2.2.2)) (RE.pR (dec p)))<=0)with|true=>some [RV.d .bool true]|false=>(og (decide (ok (Rat×Rat) 400 (hid ((c.2.2.1.1,c.2.2.1.2.1)))/\okP 580 p/\okP 580 c.2.2.2.2.1)) (some [RV.d .bool (decide ((RE.turS (dec (hid ((c.2.2.1.1,c.2.2.1.2.1)))) (RE.pR (dec p)) (RE.pR (dec c.2.2.2.2.1)))<=0))]))))))
def aii:Cn 130 [tCU,tP]:=cn λ(c:BCU) (p:BP)=>lf (rV c.2.2.1/\okP 580 c.2.2.2.2.1/\okP 580 c.2.2.2.2.2/\okP 580 p) [.d .bool (RE.witE (dC c) (RE.pR (dec p)))] λh=>by
 refine aB FP (aa0 c p) ⟨0,?_⟩;obtain⟨⟨hc,_⟩,hf,ht,hp⟩:=h;obtain⟨p,rfl,bp,rp⟩:=bR hp;obtain⟨ar,li,ci,cw,fr,to⟩:=c;simp only at hc hf ht;obtain⟨ci,rfl,bc⟩:=aD hc;obtain⟨fr,rfl,bf,rf⟩:=bR hf;obtain⟨to,rfl,bt,rt⟩:=bR ht;have e0:((ao ci.1,ao ci.2.1):BV)=enc (ctr ci):=rfl;unfold aa0;rw[RE.wit_eq];simp only[aU,Nat.reduceLeDiff,aL,e0];cases cw
 ·simp only[aU,dC,ciC,ccF,ccT,cwC,frC,toC];rw[RE.turS_anti (ctr ci) (RE.pR to) (RE.pR p),RE.turS_anti (ctr ci) (RE.pR p) (RE.pR fr)];exact RE.wit_go _ _ _
 ·simp only[aU,dC,ciC,ccF,ccT,cwC,frC,toC];rw[RE.turS_anti (ctr ci) (RE.pR fr) (RE.pR p),RE.turS_anti (ctr ci) (RE.pR p) (RE.pR to)];exact RE.wit_go _ _ _
def P3:List En:=enT ahc::enT aii::FP
def aeZ:NT:=[((55,21),{keep:=[25],hl:=0}),((55,49),{keep:=[107],hl:=0})]
def ahR:Ctx:=CX (ens P3) aeZ
def YS(c:BCU)(p:BP)(r:BR)(_k:KT):OLR:=let y1:=RE.pR (dec c.2.2.2.2.2);let y2:=RE.pR (dec c.2.2.2.2.1);let y3:OLR:=match decide (okP 580 c.2.2.2.2.1/\okP 580 p/\ok Rat 1000 r)with|true=>(match decide (okP 580 c.2.2.2.2.2/\okP 580 p/\ok Rat 1000 r)with|true=>some [RV.d aqh (if RE.apaS y1 (RE.pR (dec p)) (ah r)<RE.apaS y2 (RE.pR (dec p)) (ah r)then RE.apaS y1 (RE.pR (dec p)) (ah r)else RE.apaS y2 (RE.pR (dec p)) (ah r))]|false=>none)|false=>none;let y4:=hMu c.2.1.2.1 p.2.2.1;let y5:=hAd (hMu c.2.1.1 p.1) y4;let y6:=hMu c.2.1.2.1 p.2.2.2.1;let y7:=hSu y5 c.2.1.2.2;let y8:=hAd (hMu c.2.1.1 p.2.1) y6;let y9:=hMu p.2.2.2.2 (hMu y8 y8);let y10:=hid (ao ((2:Int):Rat));let y11:=hAd (hMu y7 y7) y9;let y12:=hMu y10 (hMu y7 y8);let y13:=hMu c.2.1.1 c.2.1.1;let y14:=hMu c.2.1.2.1 c.2.1.2.1;let y15:=hid (enc (mkR (ah y11) (ah y12) (ah p.2.2.2.2)));let y16:=hMu (hMu r r) (hAd y13 y14);let y17:=hid ((c.2.2.1.1,c.2.2.1.2.1));let y18:=hid (enc (sqP (dec p) (dec y17)));match decide (okR r)with|true=>(match decide ((aE (ah r) 0)<0)with|true=>some [RV.d aqh 1]|false=>(match !c.1 with|true=>(match decide (okC 3000 c/\okP 3000 p/\c.1=false)with|true=>(match !(nU (dC c) (dec p))with|true=>y3|false=>(match decide (okR c.2.1.1/\okR p.1)with|true=>(match decide (okR c.2.1.2.1/\okR p.2.2.1)with|true=>(match decide (okR (hMu c.2.1.1 p.1)/\okR y4)with|true=>(match decide (okR y5/\okR c.2.1.2.2)with|true=>(match decide (okR c.2.1.1/\okR p.2.1)with|true=>(match decide (okR c.2.1.2.1/\okR p.2.2.2.1)with|true=>(match decide (okR (hMu c.2.1.1 p.2.1)/\okR y6)with|true=>(match decide (okR y7/\okR y7)with|true=>(match decide (okR y8/\okR y8)with|true=>(match decide (okR p.2.2.2.2/\okR (hMu y8 y8))with|true=>(match decide (okR (hMu y7 y7)/\okR y9)with|true=>(match decide (aI (2:Int))with|true=>(match decide (okR y7/\okR y8)with|true=>(match decide (okR y10/\okR (hMu y7 y8))with|true=>(match decide (ok Rat 100000 y11/\ok Rat 100000 y12/\ok Rat 100000 p.2.2.2.2/\0<=ah p.2.2.2.2)with|true=>(match decide (okR r/\okR r)with|true=>(match decide (okR c.2.1.1/\okR c.2.1.1)with|true=>(match decide (okR c.2.1.2.1/\okR c.2.1.2.1)with|true=>(match decide (okR y13/\okR y14)with|true=>(match decide (okR (hMu r r)/\okR (hAd y13 y14))with|true=>(match decide (okT 15000 y15/\ok Rat 15000 y16)with|true=>some [RV.d aqh (fY (dec y15) (ah y16))]|false=>none)|false=>none)|false=>none)|false=>none)|false=>none)|false=>none)|false=>none)|false=>none)|false=>none)|false=>none)|false=>none)|false=>none)|false=>none)|false=>none)|false=>none)|false=>none)|false=>none)|false=>none)|false=>none)|false=>none)|false=>none))|false=>none)|false=>(match decide (okP 3500 p/\ok (Rat×Rat) 300 y17)with|true=>(match decide (okT 15000 y18)with|true=>(match(sgR (dec y18))==0 with|true=>(match decide (okR r/\okR r)with|true=>(match decide (okR c.2.2.1.2.2/\okR (hMu r r))with|true=>some [RV.d aqh (aE (ah c.2.2.1.2.2) (ah (hMu r r)))]|false=>none)|false=>none)|false=>(match decide (rV c.2.2.1/\okP 580 c.2.2.2.2.1/\okP 580 c.2.2.2.2.2/\okP 580 p)with|true=>(match !(RE.witE (dC c) (RE.pR (dec p)))with|true=>y3|false=>(match decide (okT 15000 y18/\ok Rat 1000 c.2.2.1.2.2/\ok Rat 1000 r/\0<=ah c.2.2.1.2.2)with|true=>some [RV.d aqh (RE.rngS (RE.vR (dec y18)) (ah c.2.2.1.2.2) (ah r))]|false=>none))|false=>none))|false=>none)|false=>none)))|false=>none
theorem afv(c:BCU)(p:BP)(r:BR):RS ahR 55 [.d tCU c,.d tP p,.d tR r] (YS c p r):=rsX
open Classical in
def akj:Cn 55 [tCU,tP,tR]:=cn λ(c:BCU) (p:BP) (r:BR)=>lf (okC 580 c/\okP 580 p/\ok Rat 1000 r) [.d aqh (RE.poiE (dC c) (RE.pR (dec p)) (ah r))] λh=>by
 refine da P3 (afv _ _ _ ⟨0,?_⟩);obtain⟨hc,hp,hr⟩:=h;have hp1:=cM (k:=580) hp (by decide) (by decide);have hp6:=cM (k:=580) hp (by decide) (by decide);have hp3:=cM (k:=3000) hp (by decide) (by decide);have hc3:=bZ (k:=3000) hc (by decide) (by decide);obtain⟨p,rfl,bp,rp⟩:=bR hp;obtain⟨r,rfl,br⟩:=aD hr;obtain⟨ar,li,ci,cw,fr,to⟩:=c;have h3:=hc.2.2.1;have h4:=hc.2.2.2;simp only at h3 h4;obtain⟨fr,rfl,bf,rf⟩:=bR h3;obtain⟨to,rfl,bt,rt⟩:=bR h4;have o1:decide (okP 580 (enc fr)/\okP 580 (enc p)/\ok Rat 1000 (ao r))=true:=amW ⟨h3,hp1,hr⟩;have o2:decide (okP 580 (enc to)/\okP 580 (enc p)/\ok Rat 1000 (ao r))=true:=amW ⟨h4,hp1,hr⟩;have b2:Bd ((2:Int):Rat) 3:=cN (n:=2) (by decide);have i2:decide (aI 2)=true:=by decide
 have hn:0<=p.2.2.2.2:=rp.nn;rw[fd,ct,aA];unfold YS RE.poiE;cases ar
 ·obtain⟨c2,c3⟩:=hc.2.1 rfl;simp only at c2 c3;obtain⟨li,rfl,bl⟩:=aD c2;have o3:decide (okC 3000 (false,enc li,ci,cw,enc fr,enc to)/\okP 3000 (enc p)/\(false,enc li,ci,cw,enc fr,enc to).1=false)=true:=amW ⟨hc3,hp3,rfl⟩;have hb:RE.besE (false,li,dec ci,cw,fr,to) (RE.pR p)=nU (false,li,dec ci,cw,fr,to) p:=RE.bes_E (c:=(false,li,dec ci,cw,fr,to)) (hf:=rf) (ht:=rt)
  have q2:fY (mkR (qC li p*qC li p+p.2.2.2.2*(qK li p*qK li p)) (2*(qC li p*qK li p)) p.2.2.2.2) (r*r*(li.1*li.1+li.2.1*li.2.1))=RE.sg (RE.exE li (RE.pR p)*RE.exE li (RE.pR p)-RE.of (r*r*(li.1*li.1+li.2.1*li.2.1))):=by
   rw[RE.cmpTR_re (u7 (h:=⟨hn⟩)).nn,RE.vR_lin]
  have bA:Bd (qC li p) 2070:=(inferInstance:Bd (li.1*p.1+li.2.1*p.2.2.1-li.2.2) _).mono (by decide);have bB:Bd (qK li p) 2070:=(inferInstance:Bd (li.1*p.2.1+li.2.1*p.2.2.2.1) _).mono (by decide);have eA:li.1*p.1+li.2.1*p.2.2.1-li.2.2=qC li p:=rfl;have eB:li.1*p.2.1+li.2.1*p.2.2.2.1=qK li p:=rfl;have e2:((2:Int):Rat)=2:=rfl;have b2':Bd (2:Rat) 3:=b2;have nC:Nn p.2.2.2.2:=⟨hn⟩
  dsimp only;simp only[aU,Nat.reduceAdd,Nat.reduceLeDiff,aK,aL,au,o1,o2,amW hc3,i2,dT hn,RE.min_if,Bool.not_false,dC,lnC,eA,eB,e2,q2,hb];cases decide (r<0)
  ·cases nU (false,li,dec ci,cw,fr,to) p<;>rfl
  ·rfl
 ·obtain⟨c1,hq⟩:=hc.1 rfl;have hci:rV ci:=⟨c1,hq⟩
  simp only at c1 hq;obtain⟨ci,rfl,bc⟩:=aD c1;rw[aA]at hq;have e0:((ao ci.1,ao ci.2.1):BV)=enc (ctr ci):=rfl;have o3:decide (rV (enc ci)/\okP 580 (enc fr)/\okP 580 (enc to)/\okP 580 (enc p))=true:=amW ⟨hci,h3,h4,hp6⟩
  have z:(sgR (sqP p (ctr ci))==0)=decide (RE.pR p=RE.vE (ctr ci)):=by
   rw[apb,an4];exact RE.sq_zr
  have vs:RE.vR (sqP p (ctr ci))=RE.dsE (RE.pR p) (RE.vE (ctr ci)):=RE.vR_sq _;dsimp only;simp only[aU,Nat.reduceAdd,Nat.reduceMul,Nat.reduceLeDiff,aK,aL,au,e0,o1,o2,o3,RE.min_if,Bool.not_true,dC,ciC,z,vs,dT (show 0<=ci.2.2 by grind)];cases decide (r<0)
  ·cases decide (RE.pR p=RE.vE (ctr ci))
   ·cases RE.witE (true,dec li,ci,cw,fr,to) (RE.pR p)<;>rfl
   ·rfl
  ·rfl
end
theorem lQ(q:Rat):(aE q 0== -1)=decide (q<0):=by
 unfold aE;by_cases h:q<0
 ·rw[amW h];rfl
 ·rw[amY h];by_cases h':0<q
  ·rw[amW h'];rfl
  ·rw[amY h'];rfl
def sG:List En:=[⟨54,gi,eg⟩,⟨125,jh,fE⟩,⟨132,jw,fO⟩,⟨65,je,fH⟩,⟨67,iA,fi⟩,⟨66,mX,ji⟩,⟨133,lU,ib⟩,⟨245,xY,ui⟩,enL Zn,enL Za,enL Jz,enL Zs,enL Yb,enL aad,enL Rh]
def agV:Cn 304 [tR,tR]:=cn λ(a b:BR)=>lf (okR a/\okR b) [.d tR (ao (ah a+ah b))] λh=>kB [RV.d tR (hAd a b)] (dL sG) h
def aj5:Cn 257 [tR,tR]:=cn λ(a b:BR)=>lf (okR a/\okR b) [.d tR (ao (ah a-ah b))] λh=>kB [RV.d tR (hSu a b)] (dL sG) h
def agS:Cn 258 [tR,tR]:=cn λ(a b:BR)=>lf (okR a/\okR b) [.d tR (ao (ah a*ah b))] λh=>kB [RV.d tR (hMu a b)] (dL sG) h
def ahg:Cn 259 [tR,tR]:=cn λ(a b:BR)=>lf (iS a b) [.d tR (ao (ah a/ah b))] λh=>kB [RV.d tR (hDi a b)] (dL sG) h
def Y6(a b:BR)(_k:KT):OLR:=match decide (okR a/\okR b)with|true=>some [RV.d .bool ((aE (ah a) (ah b))==0)]|false=>none
def ai5:Cn 253 [tR,tR]:=cn λ(a b:BR)=>lf (okR a/\okR b) [.d .bool (decide (ah a=ah b))] λh=>by
 refine aB sG (Y6 a b) ⟨0,?_⟩;unfold Y6;rw[dT h];simp only[aq]
def ZN(x u y v k:BR)(_k:KT):OLR:=og (decide (ok Rat 100000 x/\ok Rat 100000 u/\ok Rat 100000 k/\0<=ah k)) (og (decide (ok Rat 100000 y/\ok Rat 100000 v/\ok Rat 100000 k/\0<=ah k)) (og (decide (okT 15000 (hid (enc (mkR (ah x) (ah u) (ah k))))/\okT 15000 (hid (enc (mkR (ah y) (ah v) (ah k))))/\uR (dec (hid (enc (mkR (ah x) (ah u) (ah k))))) (dec (hid (enc (mkR (ah y) (ah v) (ah k))))))) (some [RV.d tP (hid (enc (mkP (dec (hid (enc (mkR (ah x) (ah u) (ah k))))) (dec (hid (enc (mkR (ah y) (ah v) (ah k))))))))])))
def aj0:Cn 177 [tR,tR,tR,tR,tR]:=cn λ(x u y v k:BR)=>lf (ok Rat 1000 x/\ok Rat 1000 u/\ok Rat 1000 y/\ok Rat 1000 v/\ok Rat 1000 k/\0<=ah k) [.d tP (enc (rR (ah x) (ah u) (ah y) (ah v) (ah k)))] λh=>by
 refine aB sG (ZN x u y v k) ⟨0,?_⟩;obtain⟨hx,hu,hy,hv,hk,h0⟩:=h;obtain⟨x,rfl,bx⟩:=aD hx;obtain⟨u,rfl,bu⟩:=aD hu;obtain⟨y,rfl,b_y⟩:=aD hy;obtain⟨v,rfl,bv⟩:=aD hv;obtain⟨k,rfl,bk⟩:=aD hk;have h0:0<=(dec (enc k):Rat):=h0;rw[aA]at h0;have nk:Nn k:=⟨h0⟩
 have n0:decide (0<=k)=true:=amW nk.le;have hm:decide (uR (mkR x u k) (mkR y v k))=true:=amW (pB _ _ _ _ _);unfold ZN rR;simp only[aU,Nat.reduceAdd,Nat.reduceLeDiff,aK,n0,hm];try rfl
def sR:List En:=enL agV::enL aj5::enL agS::enL ahg::enT ai5::enL aj0::sG
def Ye(l m:BO3)(_k:KT):OLR:=og (o2 l.1 m.2.1) (og (o2 m.1 l.2.1) (og (o2 (hMu l.1 m.2.1) (hMu m.1 l.2.1)) (match decide (ah (hMu l.1 m.2.1)=ah (hMu m.1 l.2.1))with|true=>(og (o2 l.1 m.2.2) (og (o2 m.1 l.2.2) (og (o2 (hMu l.1 m.2.2) (hMu m.1 l.2.2)) (match decide (ah (hMu l.1 m.2.2)=ah (hMu m.1 l.2.2))with|true=>(og (o2 l.2.1 m.2.2) (og (o2 m.2.1 l.2.2) (og (o2 (hMu l.2.1 m.2.2) (hMu m.2.1 l.2.2)) (some [RV.d .bool (decide (ah (hMu l.2.1 m.2.2)=ah (hMu m.2.1 l.2.2)))]))))|false=>some [RV.d .bool false]))))|false=>some [RV.d .bool false])))
def ah8:Cn 168 [tO,tO]:=cn λ(l m:BO3)=>lf (cW l/\cW m) [.d .bool (ph (dec l) (dec m))] λh=>by
 refine aB sR (Ye l m) ⟨0,?_⟩;obtain⟨hl,hm⟩:=h;obtain⟨l,rfl,bl,nl⟩:=fc hl;obtain⟨m,rfl,bm,nm⟩:=fc hm;unfold Ye ph;have c1:l.2.1*m.1=m.1*l.2.1:=aox _ _;have c2:l.2.2*m.1=m.1*l.2.2:=aox _ _;have c3:l.2.2*m.2.1=m.2.1*l.2.2:=aox _ _;simp only[aU,Nat.reduceAdd,Nat.reduceLeDiff,c1,c2,c3];cases decide (l.1*m.2.1=m.1*l.2.1)<;>cases decide (l.1*m.2.2=m.1*l.2.2)<;>rfl
def Yr(c d:BO3)(_k:KT):OLR:=og (o2 c.1 d.1) (match decide (ah c.1=ah d.1)with|true=>(og (o2 c.2.1 d.2.1) (match decide (ah c.2.1=ah d.2.1)with|true=>(og (o2 c.2.2 d.2.2) (some [RV.d .bool (decide (ah c.2.2=ah d.2.2))]))|false=>some [RV.d .bool false]))|false=>some [RV.d .bool false])
def afI:Cn 167 [tO,tO]:=cn λ(c d:BO3)=>lf (cg c/\cg d) [.d .bool (qa (dec c) (dec d))] λh=>by
 refine aB sR (Yr c d) ⟨0,?_⟩;obtain⟨hc,hd⟩:=h;obtain⟨c,rfl,bc,nc⟩:=cL hc;obtain⟨d,rfl,bd,nd⟩:=cL hd;unfold Yr qa;simp only[aU,Nat.reduceLeDiff];cases decide (c.1=d.1)<;>cases decide (c.2.1=d.2.1)<;>rfl
def XC(c d:BO3)(_k:KT):OLR:=og (o2 c.1 d.1) (match(aE (ah c.1) (ah d.1))==0 with|true=>(og (o2 c.2.1 d.2.1) (some [RV.d .bool ((aE (ah c.2.1) (ah d.2.1))==0)]))|false=>some [RV.d .bool false])
def aht:Cn 254 [tO,tO]:=cn λ(c d:BO3)=>lf (cg c/\cg d) [.d .bool (iz (dec c) (dec d))] λh=>by
 refine aB sR (XC c d) ⟨0,?_⟩;obtain⟨hc,hd⟩:=h;obtain⟨c,rfl,bc,nc⟩:=cL hc;obtain⟨d,rfl,bd,nd⟩:=cL hd;unfold XC iz;simp only[aU,Nat.reduceLeDiff,aq];cases decide (c.1=d.1)<;>rfl
def aaV(c:BO3)(_k:KT):OLR:=og (o2 c.1 c.1) (og (o2 c.2.1 c.2.1) (og (o2 (hMu c.1 c.1) (hMu c.2.1 c.2.1)) (og (o2 (hAd (hMu c.1 c.1) (hMu c.2.1 c.2.1)) c.2.2) (some [RV.d tR (hSu (hAd (hMu c.1 c.1) (hMu c.2.1 c.2.1)) c.2.2)]))))
def agx:Cn 303 [tO]:=cn λ(c:BO3)=>lf (cg c) [.d tR (ao (rT (dec c)))] λh=>by
 refine aB sR (aaV c) ⟨0,?_⟩;have hc:=h;obtain⟨c,rfl,bc,nc⟩:=cL hc;unfold aaV rT;simp only[aU,Nat.reduceAdd,Nat.reduceLeDiff]
def ZK(l c:BO3)(_k:KT):OLR:=let y1:=hid (enc (cQ (dec l) (dec (c.1,c.2.1))));let y2:=hSu (y1.2) c.2.1;let y3:=hMu (hSu (y1.1) c.1) (hSu (y1.1) c.1);let y4:=hAd y3 (hMu y2 y2);let y5:=hAd (hMu l.1 l.1) (hMu l.2.1 l.2.1);let y6:=iS (hSu c.2.2 y4) y5;let y7:=hDi (hSu c.2.2 y4) y5;let y8:OLR:=match decide y6 with|true=>some [RV.d tR y7,RV.d tV y1]|false=>none;let y9:OLR:=match decide (okR (hMu l.1 l.1)/\okR (hMu l.2.1 l.2.1))with|true=>y8|false=>none;let y10:OLR:=match decide (okR l.2.1/\okR l.2.1)with|true=>y9|false=>none;og (decide (ok Ln 300 l/\ok (Rat×Rat) 200 (c.1,c.2.1)/\((dec l:Ln).1≠0\/(dec l:Ln).2.1≠0))) (og (o2 (y1.1) c.1) (og (o2 (y1.2) c.2.1) (og (o2 (hSu (y1.1) c.1) (hSu (y1.1) c.1)) (og (o2 y2 y2) (og (o2 y3 (hMu y2 y2)) (og (o2 c.2.2 y4) (cA (og (o2 l.1 l.1) (cA (og (o2 l.2.1 l.2.1) (cA (og (o2 (hMu l.1 l.1) (hMu l.2.1 l.2.1)) (cA (og (decide y6) (dup (.b .l .l) (some [RV.d tR y7,RV.d tV y1]))) y8)) y9)) y10)) (og (o2 l.1 l.1) y10))))))))
def ait:Cn 256 [tO,tO]:=cn λ(l c:BO3)=>lf (cW l/\cg c) [.d tR (ao (eO (dec l) (dec c))),.d tV (enc (ftL (dec l) (dec c)))] λh=>by
 refine aB sR (ZK l c) ⟨0,?_⟩;obtain⟨hl,hc⟩:=h;obtain⟨l,rfl,bl,nl⟩:=fc hl;obtain⟨c,rfl,bc,nc⟩:=cL hc;have ol:=amW (m4 (l:=l) nl);have bl:Bd l 63:=acy;have bv:Bd ((c.1,c.2.1):Rat×Rat) 4:=inferInstance;have hn:=pI nl;have bn:Bd (ck l) 49:=inferInstanceAs (Bd (l.1*l.1+l.2.1*l.2.1) _);have bf:=Gg (l:=l) (c:=c);have b1:Bd (ftL l c).1 163:=inferInstance;have b2:Bd (ftL l c).2 163:=inferInstance;have e1:l.1*l.1+l.2.1*l.2.1=ck l:=rfl;unfold ZK eO yQ;simp only[aU,Nat.reduceAdd,Nat.reduceLeDiff,KX,nl,Vc,e1,hn,ne_eq,aoh];try rfl
def YY(c:BO3)(_k:KT):OLR:=og (decide (aI (1:Int))) (og (decide (aI (0:Int))) (og (o1 (hid (ao ((1:Int):Rat)))) (og (decide (ok Rat 1000 c.1/\ok Rat 1000 (hNe (hid (ao ((1:Int):Rat))))/\ok Rat 1000 c.2.1/\ok Rat 1000 (hid (ao ((0:Int):Rat)))/\ok Rat 1000 c.2.2/\0<=ah c.2.2)) (og (decide (ok Rat 1000 c.1/\ok Rat 1000 (hid (ao ((1:Int):Rat)))/\ok Rat 1000 c.2.1/\ok Rat 1000 (hid (ao ((0:Int):Rat)))/\ok Rat 1000 c.2.2/\0<=ah c.2.2)) (some [RV.d tP (hid (enc (rR (ah c.1) (ah (hNe (hid (ao ((1:Int):Rat))))) (ah c.2.1) (ah (hid (ao ((0:Int):Rat)))) (ah c.2.2)))),RV.d tP (hid (enc (rR (ah c.1) (ah (hid (ao ((1:Int):Rat)))) (ah c.2.1) (ah (hid (ao ((0:Int):Rat)))) (ah c.2.2))))])))))
def ags:Cn 78 [tO]:=cn λ(c:BO3)=>lf (cg c) [.d tP (enc (ajD (dec c))),.d tP (enc (ajP (dec c)))] λh=>by
 refine aB sR (YY c) ⟨0,?_⟩;have hc:=h;obtain⟨c,rfl,bc,nc⟩:=cL hc;have b0:Bd ((0:Int):Rat) 3:=cN (by decide);have b1:Bd ((1:Int):Rat) 3:=cN (by decide);have i0:decide (aI 0)=true:=by decide
 have i1:decide (aI 1)=true:=by decide
 have nc':decide (0<=c.2.2)=true:=amW (by grind);unfold YY ajD ajP;simp only[aU,Nat.reduceLeDiff,i0,i1,nc'];rfl
def zi:List En:=enT ah8::enT afI::enT aht::enL agx::enL ait::enL ags::sR
def Xl(l m:BO3)(_k:KT):OLR:=og (o2 l.1 m.2.1) (og (o2 m.1 l.2.1) (og (o2 (hMu l.1 m.2.1) (hMu m.1 l.2.1)) (og (o1 (hSu (hMu l.1 m.2.1) (hMu m.1 l.2.1))) (match(aE (ah (hSu (hMu l.1 m.2.1) (hMu m.1 l.2.1))) 0)==0 with|true=>(og (decide (cW l/\cW m)) (match ph (dec l) (dec m)with|true=>some [RV.d (.sl tP) ([]),RV.d aqh 10]|false=>some [RV.d (.sl tP) ([]),RV.d aqh 0]))|false=>(og (o2 l.2.2 m.2.1) (og (o2 m.2.2 l.2.1) (og (o2 (hMu l.2.2 m.2.1) (hMu m.2.2 l.2.1)) (og (decide (iS (hSu (hMu l.2.2 m.2.1) (hMu m.2.2 l.2.1)) (hSu (hMu l.1 m.2.1) (hMu m.1 l.2.1)))) (og (o2 l.1 m.2.2) (og (o2 m.1 l.2.2) (og (o2 (hMu l.1 m.2.2) (hMu m.1 l.2.2)) (og (decide (iS (hSu (hMu l.1 m.2.2) (hMu m.1 l.2.2)) (hSu (hMu l.1 m.2.1) (hMu m.1 l.2.1)))) (og (decide (ok (Rat×Rat) 100000 (hDi (hSu (hMu l.2.2 m.2.1) (hMu m.2.2 l.2.1)) (hSu (hMu l.1 m.2.1) (hMu m.1 l.2.1)),hDi (hSu (hMu l.1 m.2.2) (hMu m.1 l.2.2)) (hSu (hMu l.1 m.2.1) (hMu m.1 l.2.1))))) (some [RV.d (.sl tP) ([hid (enc (atP (dec (hDi (hSu (hMu l.2.2 m.2.1) (hMu m.2.2 l.2.1)) (hSu (hMu l.1 m.2.1) (hMu m.1 l.2.1)),hDi (hSu (hMu l.1 m.2.2) (hMu m.1 l.2.2)) (hSu (hMu l.1 m.2.1) (hMu m.1 l.2.1))))))]),RV.d aqh 0]))))))))))))))
def ahu:Cn 171 [tO,tO]:=cn λ(l m:BO3)=>lf (cW l/\cW m) [.d (.sl tP) ((mb (dec l) (dec m)).map enc),.d aqh (Ng (dec l) (dec m))] λh=>by
 refine aB zi (Xl l m) ⟨0,?_⟩;obtain⟨hl,hm⟩:=h;obtain⟨l,rfl,bl,nl⟩:=fc hl;obtain⟨m,rfl,bm,nm⟩:=fc hm;have ol:=amW (m4 (l:=l) nl);have om:=amW (m4 (l:=m) nm);have bc:Bd (dE l m) 49:=inferInstanceAs (Bd (l.1*m.2.1-m.1*l.2.1) _);have e0:l.1*m.2.1-m.1*l.2.1=dE l m:=rfl;have e1:l.2.2*m.2.1-m.2.2*l.2.1=mf l m:=rfl;have e2:l.1*m.2.2-m.1*l.2.2=mh l m:=rfl;have bx:Bd (mf l m) 151:=inferInstanceAs (Bd (l.2.2*m.2.1-m.2.2*l.2.1) _);have b_:Bd (mh l m) 151:=inferInstanceAs (Bd (l.1*m.2.2-m.1*l.2.2) _);unfold Xl mb Ng;simp only[aU,Nat.reduceAdd,Nat.reduceLeDiff,aq,ol,om,e0,e1,e2];by_cases h0:dE l m=0
 ·simp only[amW h0,Bool.not_true];cases ph l m<;>rfl
 ·simp only[aU,Nat.reduceAdd,Nat.reduceLeDiff,h0,ne_eq,aoh,Bool.not_false,KX];rfl
def aaY(c d:BO3)(_k:KT):OLR:=og (decide (cg c/\cg d)) (match iz (dec c) (dec d)with|true=>some [RV.d tO (((false,[]),(false,[])),(((false,[]),(false,[])),((false,[]),(false,[])))),RV.d aqh 6]|false=>(og (decide (aI (2:Int))) (og (o2 d.1 c.1) (og (o2 (hid (ao ((2:Int):Rat))) (hSu d.1 c.1)) (og (o2 d.2.1 c.2.1) (og (o2 (hid (ao ((2:Int):Rat))) (hSu d.2.1 c.2.1)) (og (decide (cg d)) (og (decide (cg c)) (og (o2 (hid (ao (rT (dec d)))) (hid (ao (rT (dec c))))) (some [RV.d tO (hMu (hid (ao ((2:Int):Rat))) (hSu d.1 c.1),(hMu (hid (ao ((2:Int):Rat))) (hSu d.2.1 c.2.1),hSu (hid (ao (rT (dec d)))) (hid (ao (rT (dec c)))))),RV.d aqh 0]))))))))))
def ajN:Cn 255 [tO,tO]:=cn λ(c d:BO3)=>lf (cg c/\cg d) [.d tO (wJ (dec c) (dec d)),.d aqh (Vz (dec c) (dec d))] λh=>by
 refine aB zi (aaY c d) ⟨0,?_⟩;obtain⟨hc,hd⟩:=h;obtain⟨c,rfl,bc,nc⟩:=cL hc;obtain⟨d,rfl,bd,nd⟩:=cL hd;have oc:=amW (iD (c:=c) nc);have od:=amW (iD (c:=d) nd);have i2:decide (aI 2)=true:=by decide
 have b2:Bd ((2:Int):Rat) 3:=cN (by decide);have f1:Bd (rT c) 31:=(inferInstance:Bd (c.1*c.1+c.2.1*c.2.1-c.2.2) _).mono (by decide);have f2:Bd (rT d) 31:=(inferInstance:Bd (d.1*d.1+d.2.1*d.2.1-d.2.2) _).mono (by decide);unfold aaY wJ Vz;simp only[aU,Nat.reduceAdd,Nat.reduceLeDiff,oc,od,i2];cases iz c d
 ·rfl
 ·rfl
def agZ:Ctx:=CX (ens zi) []
def aah(l c:BO3)(_k:KT):OLR:=let y1:=hid (ao (eO (dec l) (dec c)));let y2:=hid (enc (ftL (dec l) (dec c)));let y3:=aE (ah l.2.1) 0;let y4:=hNe (hNe (hNe l.1));let y5:=enc (rR (ah (y2.1)) (ah (hNe l.2.1)) (ah (y2.2)) (ah (hNe (hNe l.1))) (ah y1));let y6:OLR:=match decide (okR l.2.1)with|true=>(og (o1 (hNe l.1)) (og (o1 (hNe l.2.1)) (og (o1 (hNe (hNe l.1))) (og (decide (ok Rat 1000 (y2.1)/\ok Rat 1000 (hNe (hNe l.2.1))/\ok Rat 1000 (y2.2)/\ok Rat 1000 y4/\ok Rat 1000 y1/\0<=ah y1)) (og (decide (ok Rat 1000 (y2.1)/\ok Rat 1000 (hNe l.2.1)/\ok Rat 1000 (y2.2)/\ok Rat 1000 (hNe (hNe l.1))/\ok Rat 1000 y1/\0<=ah y1)) (some [RV.new 37 tP ([hid (enc (rR (ah (y2.1)) (ah (hNe (hNe l.2.1))) (ah (y2.2)) (ah y4) (ah y1))),hid y5])]))))))|false=>none;let y7:OLR:=match decide (okR l.2.1)with|true=>(og (o1 (hNe l.1)) (og (decide (ok Rat 1000 (y2.1)/\ok Rat 1000 (hNe l.2.1)/\ok Rat 1000 (y2.2)/\ok Rat 1000 (hNe (hNe l.1))/\ok Rat 1000 y1/\0<=ah y1)) (og (decide (ok Rat 1000 (y2.1)/\ok Rat 1000 l.2.1/\ok Rat 1000 (y2.2)/\ok Rat 1000 (hNe l.1)/\ok Rat 1000 y1/\0<=ah y1)) (some [RV.new 37 tP ([hid y5,hid (enc (rR (ah (y2.1)) (ah l.2.1) (ah (y2.2)) (ah (hNe l.1)) (ah y1)))])]))))|false=>none;og (decide (cW l/\cg c)) (og (o1 y1) (match(aE (ah y1) 0)==(-1)with|true=>some [RV.new 37 tP []]|false=>(match(aE (ah y1) 0)==0 with|true=>(og (decide (ok (Rat×Rat) 100000 y2)) (some [RV.new 37 tP ([hid (enc (atP (dec y2)))])]))|false=>(og (o1 l.1) (og (o1 l.2.1) (match decide (y3<0)with|true=>y6|false=>(match y3==0 with|true=>(og (o1 (hNe l.1)) (match decide ((aE (ah (hNe l.1)) 0)<0)with|true=>y6|false=>y7))|false=>y7)))))))
theorem agt(l c:BO3):RS agZ 170 [.d tO l,.d tO c] (aah l c):=rsX
def akd:Cn 170 [tO,tO]:=cn λ(l c:BO3)=>lf (cW l/\cg c) [.d (.sl tP) ((lR (dec l) (dec c)).map enc)] λh=>by
 refine Con.new_d (et:=37) (da zi (agt _ _ ⟨0,?_⟩));obtain⟨hl,hc⟩:=h;obtain⟨l,rfl,bl,nl⟩:=fc hl;obtain⟨c,rfl,bc,nc⟩:=cL hc;have ol:=amW (m4 (l:=l) nl);have oc:=amW (iD (c:=c) nc);have bf:=Gg (l:=l) (c:=c);have bk:=Rk (l:=l) (c:=c);have b1:Bd (ftL l c).1 163:=inferInstance;have b2:Bd (ftL l c).2 163:=inferInstance;unfold aah lR;simp only[aU,Nat.reduceLeDiff,aq,au,lQ,ol,oc];by_cases h0:eO l c<0
 ·simp only[amW h0];rfl
 ·simp only[amY h0];by_cases h1:eO l c=0
  ·simp only[amW h1];rfl
  ·have hp:decide (0<=eO l c)=true:=amW (by grind);simp only[amY h1,hp,aU];unfold lcM lcN rU rS H3;cases decide (l.2.1<0)<;>cases decide (l.2.1=0)<;>cases decide (-l.1<0)<;>rfl
def Py:List En:=enL ahu::enL ajN::enL akd::zi
def ZQ(c d:BO3)(_k:KT):OLR:=og (decide (cg c/\cg d)) (match qa (dec c) (dec d)with|true=>some [RV.d (.sl tP) ([]),RV.d aqh 10]|false=>(og (decide (cg c/\cg d)) (match iz (dec c) (dec d)with|true=>some [RV.d (.sl tP) ([]),RV.d aqh 0]|false=>(og (decide (cg c/\cg d)) (og (decide (cW (hid (wJ (dec c) (dec d)))/\cg c)) (some [RV.d (.sl tP) ((lR (dec (hid (wJ (dec c) (dec d)))) (dec c)).map enc),RV.d aqh 0]))))))
def ag4:Cn 169 [tO,tO]:=cn λ(c d:BO3)=>lf (cg c/\cg d) [.d (.sl tP) ((ta (dec c) (dec d)).map enc),.d aqh (T1 (dec c) (dec d))] λh=>by
 refine aB Py (ZQ c d) ⟨0,?_⟩;obtain⟨hc,hd⟩:=h;obtain⟨c,rfl,bc,nc⟩:=cL hc;obtain⟨d,rfl,bd,nd⟩:=cL hd;have oc:=amW (iD (c:=c) nc);have od:=amW (iD (c:=d) nd);unfold ZQ ta T1;simp only[aU,oc,od];cases hs:qa c d
 ·cases hc:iz c d
  ·have ol:cW (enc (nI c d)):=RT hc;have er:wJ c d=enc (nI c d):=by unfold wJ;rw[hc];rfl
   simp only[er,dT ol,aU];try rfl
  ·rfl
 ·have hc:iz c d=true:=by
   unfold qa at hs;unfold iz;cases h1:decide (c.1=d.1)
   ·rw[h1]at hs;cases hs
   ·cases h2:decide (c.2.1=d.2.1)
    ·rw[h1,h2]at hs;cases hs
    ·rfl
  rw[hc];rfl
def Rj:List En:=enL ag4::Py
def Xv(a b:BCU)(_k:KT):OLR:=match a.1 with|true=>(match b.1 with|true=>(og (decide (cg a.2.2.1/\cg b.2.2.1)) (some [RV.d (.sl tP) ((ta (dec a.2.2.1) (dec b.2.2.1)).map enc),RV.d aqh (T1 (dec a.2.2.1) (dec b.2.2.1))]))|false=>(match a.1 with|true=>(og (decide (cW b.2.1/\cg a.2.2.1)) (some [RV.d (.sl tP) ((lR (dec b.2.1) (dec a.2.2.1)).map enc),RV.d aqh 0]))|false=>(match b.1 with|true=>(og (decide (cW a.2.1/\cg b.2.2.1)) (some [RV.d (.sl tP) ((lR (dec a.2.1) (dec b.2.2.1)).map enc),RV.d aqh 0]))|false=>(og (decide (cW a.2.1/\cW b.2.1)) (some [RV.d (.sl tP) ((mb (dec a.2.1) (dec b.2.1)).map enc),RV.d aqh (Ng (dec a.2.1) (dec b.2.1))])))))|false=>(match a.1 with|true=>(og (decide (cW b.2.1/\cg a.2.2.1)) (some [RV.d (.sl tP) ((lR (dec b.2.1) (dec a.2.2.1)).map enc),RV.d aqh 0]))|false=>(match b.1 with|true=>(og (decide (cW a.2.1/\cg b.2.2.1)) (some [RV.d (.sl tP) ((lR (dec a.2.1) (dec b.2.2.1)).map enc),RV.d aqh 0]))|false=>(og (decide (cW a.2.1/\cW b.2.1)) (some [RV.d (.sl tP) ((mb (dec a.2.1) (dec b.2.1)).map enc),RV.d aqh (Ng (dec a.2.1) (dec b.2.1))]))))
def ZR:Cn 72 [tCU,tCU]:=cn λ(a b:BCU)=>lf (iw a b) [.d (.sl tP) ((gY (dC a) (dC b)).map enc),.d aqh (agD (dC a) (dC b))] λh=>by
 refine aB Rj (Xv a b) ⟨0,?_⟩;obtain⟨⟨a1,a2⟩,b1,b2⟩:=h;unfold Xv gY agD;obtain⟨aa,al,ac,aw,af,at_⟩:=a;obtain⟨ba,bl,bc,bw,bf,bt⟩:=b;cases aa<;>cases ba
 ·have h1:=a2 rfl;have h2:=b2 rfl;simp only[dT (show cW al/\cW bl from⟨h1,h2⟩)];rfl
 ·have h1:=a2 rfl;have h2:=b1 rfl;simp only[dT (show cW al/\cg bc from⟨h1,h2⟩)];rfl
 ·have h1:=a1 rfl;have h2:=b2 rfl;simp only[dT (show cW bl/\cg ac from⟨h2,h1⟩)];rfl
 ·have h1:=a1 rfl;have h2:=b1 rfl;simp only[dT (show cg ac/\cg bc from⟨h1,h2⟩)];rfl
def aaX(a b:BCU)(_k:KT):OLR:=match !(a.1==b.1)with|true=>some [RV.d .bool false]|false=>(match a.1 with|true=>(og (decide (cg a.2.2.1/\cg b.2.2.1)) (some [RV.d .bool (qa (dec a.2.2.1) (dec b.2.2.1))]))|false=>(og (decide (cW a.2.1/\cW b.2.1)) (some [RV.d .bool (ph (dec a.2.1) (dec b.2.1))])))
def aaI:Cn 71 [tCU,tCU]:=cn λ(a b:BCU)=>lf (iw a b) [.d .bool (cC (dC a) (dC b))] λh=>by
 refine aB Rj (aaX a b) ⟨0,?_⟩;obtain⟨⟨a1,a2⟩,b1,b2⟩:=h;unfold aaX cC;obtain⟨aa,al,ac,aw,af,at_⟩:=a;obtain⟨ba,bl,bc,bw,bf,bt⟩:=b;cases aa<;>cases ba
 ·have h1:=a2 rfl;have h2:=b2 rfl;simp only[dT (show cW al/\cW bl from⟨h1,h2⟩)];rfl
 ·rfl
 ·rfl
 ·have h1:=a1 rfl;have h2:=b1 rfl;simp only[dT (show cg ac/\cg bc from⟨h1,h2⟩)];rfl
theorem Vo(f p q:Bool×Rt): -1<=ic bh f p q/\ic bh f p q<=1:=by
 have h:∀n,-1<=kC n/\kC n<=1:=λn=>by
  unfold kC;split<;>(try split)<;>omega
 unfold ic;cases pU bh f p==pU bh f q
 ·exact h _
 ·exact h _
def agF:List En:=[enT SS,enT Nt]
def aa8(c:BCU)(p q:BP)(_k:KT):OLR:=match !c.1 with|true=>(og (decide (okP 4000 p/\okP 4000 q)) (og (decide (okP 4000 c.2.2.2.2.2/\okP 4000 c.2.2.2.2.1)) (some [RV.d aqh (i64.wrap ((a8 (dec p) (dec q))*(a8 (dec c.2.2.2.2.2) (dec c.2.2.2.2.1))))])))|false=>(match c.2.2.2.1 with|true=>(og (decide (ok Ln 300 c.2.2.1/\okP 4000 c.2.2.2.2.2/\okP 4000 p/\okP 4000 q)) (some [RV.d aqh (i64.wrap (0-(ic bh (ptd (dec c.2.2.1) (dec c.2.2.2.2.2)) (ptd (dec c.2.2.1) (dec p)) (ptd (dec c.2.2.1) (dec q)))))]))|false=>(og (decide (ok Ln 300 c.2.2.1/\okP 4000 c.2.2.2.2.1/\okP 4000 p/\okP 4000 q)) (some [RV.d aqh (ic bh (ptd (dec c.2.2.1) (dec c.2.2.2.2.1)) (ptd (dec c.2.2.1) (dec p)) (ptd (dec c.2.2.1) (dec q)))])))
def aku:Cn 101 [tCU,tP,tP]:=cn λ(c:BCU) (p q:BP)=>lf (okC 4000 c/\okP 4000 p/\okP 4000 q) [.d aqh (Dc (dC c) (dec p) (dec q))] λh=>by
 refine aB agF (aa8 c p q) ⟨0,?_⟩;obtain⟨hc,hp,hq⟩:=h;obtain⟨ar,li,ci,cw,fr,to⟩:=c;have h3:=hc.2.2.1;have h4:=hc.2.2.2;simp only at h3 h4;unfold aa8 Dc;cases ar
 ·have b1:=wZ (dec p) (dec q);have b2:=wZ (dec to) (dec fr);simp only[dT (show okP 4000 p/\okP 4000 q from⟨hp,hq⟩),dT (show okP 4000 to/\okP 4000 fr from⟨h4,h3⟩),Ca b1 b2];rfl
 ·have e:=(hc.1 rfl).1;simp only at e;cases cw
  ·simp only[dT (show ok Ln 300 ci/\okP 4000 fr/\okP 4000 p/\okP 4000 q from⟨e,h3,hp,hq⟩)];rfl
  ·have b:=Vo (ptd (dec ci) (dec to)) (ptd (dec ci) (dec p)) (ptd (dec ci) (dec q));simp only[dT (show ok Ln 300 ci/\okP 4000 to/\okP 4000 p/\okP 4000 q from⟨e,h4,hp,hq⟩)];try dsimp only[Bool.not_true]
   rw[aV (x:=0-ic bh (ptd (dec ci) (dec to)) (ptd (dec ci) (dec p)) (ptd (dec ci) (dec q))) (by omega) (by omega),aoQ];rfl
section
theorem BN{n m k:Nat}(h1:n+m<=100000000)(hk:k<=1000000):decide ((n+m)*k<=140737488355328/\n+m<=140737488355328)=true:=by
 refine amW ⟨?_,by omega⟩;have:=ao2 h1 hk;omega
def mg(c:BCU)(l:List BP):Prop:=okC 4000 c/\l.length<=19/\∀x∈l,okP 4000 x
instance (c:BCU) (l:List BP):Decidable (mg c l):=by unfold mg;infer_instance
def Q4:Ctx:=CX [] []
def PS(p:List BP)(_k:KT):OLR:=match p with|[]=>Fx (some [RV.new 37 tP []]) (og (decide ((([]:List BP).length+p.length)*320<=140737488355328/\([]:List BP).length+p.length<=140737488355328)) (some [RV.new 37 tP (([]:List BP)++p)]))|_::_=>(og (decide ((([]:List BP).length+p.length)*320<=140737488355328/\([]:List BP).length+p.length<=140737488355328)) (some [RV.new 37 tP (([]:List BP)++p)]))
theorem ada(p:List BP):RS Q4 74 [.d (.sl tP) p] (PS p):=rsX
def F9:Cn 74 [(.sl tP)]:=cn λ(p:List BP)=>lf (p.length<=100000) [.new 37 tP p] λh=>by
 refine Ctx.Res.con (C:=Q4) (G3 (E:=[]) trivial) ?_ (fn:=Tryz.f74) (by kernel_rfl) (by kernel_rfl);refine ada _ ⟨0,?_⟩;unfold PS;rw[BN (n:=([]:List BP).length) (m:=p.length) (by simp;omega) (by omega)];cases p with
 |nil=>exact dY _
 |cons a p=>rfl
def ab8:List En:=[enT SS]
def aba(p q:BP)(_k:KT):OLR:=og (decide (okP 4000 p/\okP 4000 q)) (some [RV.d .bool ((a8 (dec p) (dec q))==0)])
def PW:Cn 41 [tP,tP]:=cn λ(p q:BP)=>lf (okP 4000 p/\okP 4000 q) [.d .bool (a8 (dec p) (dec q)==0)] λh=>by
 refine aB ab8 (aba p q) ⟨0,?_⟩;unfold aba;rw[dT h]
def Ik:eM:={keep:=true,run:=λ_ _ _=>none}
theorem KS:SpK 274 Ik:=by
 refine⟨by kernel_rfl,λR args k r h=>(by cases h),λg h=>(by cases h)⟩
def HI:List En:=[enT aku,enT PW,enK F9,⟨274,Ik,KS⟩]
def adk:NT:=[((200,6),{keep:=[0,1,2,6,7,8],hl:=2}),((273,3),{keep:=[0,1,2,3,8],hl:=2}),((273,15),{keep:=[0,1,2,3,8,9],hl:=2}),((200,22),{keep:=[0,1,2,6],hl:=2}),((200,34),{keep:=[0,1,2,6,7,8],hl:=2}),((102,14),{keep:=[0,1,5],hl:=2}),((102,32),{keep:=[0,1,5,6,7],hl:=2}),((40,5),{keep:=[1],hl:=0}),((99,0),{keep:=[],hl:=0}),((200,15),{keep:=[0,1,2,6,8],hl:=0}),((200,20),{keep:=[0,1,2,6],hl:=0}),((273,18),{keep:=[0,1,2,3,8,9,18,19,20,21,22,23,24,25,26,27,28,29,30,31,32,33,34],hl:=0}),((40,7),{keep:=[11],hl:=0})]
def jq:Ctx:=CX (ens HI) adk
def sB(c:BCU)(l:List BP)(s200_7 s200_8:Int)(r200_1:List BP):Cfg:=⟨200,[.blk 0,.seq 19],[(0,.own 1),(1,SI (l.length:Int)),(2,.clo 100 [0]),(6,SI 20),(7,SI s200_7),(8,SI s200_8)],[.box 39 (Ty.split tCU c),.row 37 tP r200_1],2,[⟨99,[],0,4,[],2,none⟩,⟨40,[.seq 6],5,2,[(1,.own 1)],0,none⟩]⟩
def sQ(c:BCU)(l:List BP)(s200_7 s200_8 s273_8:Int)(r273_1:List BP):Cfg:=⟨273,[.blk 0],[(0,.own 1),(1,SI s200_7),(2,SI s200_8),(3,.clo 100 [0]),(8,SI s273_8)],[.box 39 (Ty.split tCU c),.row 37 tP r273_1],2,[⟨200,[.seq 16,.blk 1,.lp 6,.blk 0,.seq 19],15,4,[(0,.own 1),(1,SI (l.length:Int)),(2,.clo 100 [0]),(6,SI 20),(8,SI s200_8)],2,none⟩,⟨99,[],0,4,[],2,none⟩,⟨40,[.seq 6],5,2,[(1,.own 1)],0,none⟩]⟩
def fo(c:BCU)(l:List BP)(s200_7 s273_8:Int)(r273_1:List BP):Cfg:=⟨273,[.blk 0],[(0,.own 1),(1,SI s200_7),(2,SI (l.length:Int)),(3,.clo 100 [0]),(8,SI s273_8)],[.box 39 (Ty.split tCU c),.row 37 tP r273_1],2,[⟨200,[.seq 21],20,4,[(0,.own 1),(1,SI (l.length:Int)),(2,.clo 100 [0]),(6,SI 20)],2,none⟩,⟨99,[],0,4,[],2,none⟩,⟨40,[.seq 6],5,2,[(1,.own 1)],0,none⟩]⟩
def EG(c:BCU)(l:List BP)(s200_7 s200_8 s273_8 s273_9:Int)(r273_1:List BP):Cfg:=⟨273,[.blk 2,.blk 1,.seq 26,.lp 3,.blk 0],[(0,.own 1),(1,SI s200_7),(2,SI s200_8),(3,.clo 100 [0]),(8,SI s273_8),(9,SI s273_9)],[.box 39 (Ty.split tCU c),.row 37 tP r273_1],2,[⟨200,[.seq 16,.blk 1,.lp 6,.blk 0,.seq 19],15,4,[(0,.own 1),(1,SI (l.length:Int)),(2,.clo 100 [0]),(6,SI 20),(8,SI s200_8)],2,none⟩,⟨99,[],0,4,[],2,none⟩,⟨40,[.seq 6],5,2,[(1,.own 1)],0,none⟩]⟩
def gW(c:BCU)(l:List BP)(s200_7 s273_8 s273_9:Int)(r273_1:List BP):Cfg:=⟨273,[.blk 2,.blk 1,.seq 26,.lp 3,.blk 0],[(0,.own 1),(1,SI s200_7),(2,SI (l.length:Int)),(3,.clo 100 [0]),(8,SI s273_8),(9,SI s273_9)],[.box 39 (Ty.split tCU c),.row 37 tP r273_1],2,[⟨200,[.seq 21],20,4,[(0,.own 1),(1,SI (l.length:Int)),(2,.clo 100 [0]),(6,SI 20)],2,none⟩,⟨99,[],0,4,[],2,none⟩,⟨40,[.seq 6],5,2,[(1,.own 1)],0,none⟩]⟩
def jV(c:BCU)(l r273_1:List BP)(s200_6:Int):Cfg:=⟨200,[.blk 2],[(0,.own 1),(1,SI (l.length:Int)),(2,.clo 100 [0]),(6,SI s200_6)],[.box 39 (Ty.split tCU c),.row 37 tP r273_1],2,[⟨99,[],0,4,[],2,none⟩,⟨40,[.seq 6],5,2,[(1,.own 1)],0,none⟩]⟩
def FI(c:BCU)(l r273_1:List BP)(s200_6:Int):Cfg:=⟨200,[.blk 4,.seq 47,.blk 3,.lp 22,.blk 2],[(0,.own 1),(1,SI (l.length:Int)),(2,.clo 100 [0]),(6,SI s200_6),(7,SI 0),(8,SI (i64.wrap (2*s200_6)))],[.box 39 (Ty.split tCU c),.row 37 tP r273_1],2,[⟨99,[],0,4,[],2,none⟩,⟨40,[.seq 6],5,2,[(1,.own 1)],0,none⟩]⟩
def jW(c:BCU)(r273_1:List BP)(s102_5:Int):Cfg:=⟨102,[.blk 0,.seq 56],[(0,.own 1),(1,.clo 41 []),(5,SI s102_5)],[.box 39 (Ty.split tCU c),.row 37 tP r273_1],2,[⟨40,[.seq 8],7,1,[],0,none⟩]⟩
def eI(c:BCU)(r273_1:List BP)(s102_5 s102_5v s102_7:Int)(r102_1:List BP):Cfg:=⟨102,[.blk 2,.seq 49,.blk 1,.seq 55,.lp 14,.blk 0,.seq 56],[(0,.own 1),(1,.clo 41 []),(5,SI s102_5v),(6,.osl 1 20 ((s102_5:Int).toNat) (((r273_1.length:Int):Int).toNat-(s102_5:Int).toNat)),(7,SI s102_7)],[.box 39 (Ty.split tCU c),.row 37 tP r102_1],2,[⟨40,[.seq 8],7,1,[],0,none⟩]⟩
def abd(c:BCU)(l:List BP)(k:KT):OLR:=og (decide (l.length<=100000)) (k 6 (sB c l 0 20 l))
theorem ajK(c:BCU)(l:List BP):RS jq 40 [.d tCU c,.d (.sl tP) l] (abd c l):=rsX
def uG(c:BCU)(l:List BP)(s200_7 s200_8:Int)(r200_1:List BP)(k:KT):OLR:=match decide (s200_8<=(l.length:Int))with|true=>k 3 (sQ c l s200_7 s200_8 (i64.wrap (s200_7+1)) r200_1)|false=>k 3 (fo c l s200_7 (i64.wrap (s200_7+1)) r200_1)
theorem Ch(c:BCU)(l:List BP)(s200_7 s200_8:Int)(r200_1:List BP):RN jq 6 (sB c l s200_7 s200_8 r200_1) (uG c l s200_7 s200_8 r200_1):=rnX
def jf(c:BCU)(l:List BP)(s200_7 s273_8:Int)(r273_1:List BP)(k:KT):OLR:=match decide (s273_8<(l.length:Int))with|true=>k 15 (gW c l s200_7 s273_8 s273_8 r273_1)|false=>k 22 (jV c l r273_1 20)
theorem lC(c:BCU)(l:List BP)(s200_7 s273_8:Int)(r273_1:List BP):RN jq 3 (fo c l s200_7 s273_8 r273_1) (jf c l s200_7 s273_8 r273_1):=rnX
def TC(c:BCU)(l:List BP)(s200_7 s200_8 s273_8 s273_9:Int)(r273_1:List BP)(k:KT):OLR:=match decide (s273_9>s200_7)with|true=>(match aT r273_1 s273_9 with|some _=>(match true,r273_1[(s273_9).toNat]? with|true,some x1=>(match aT r273_1 (i64.wrap (s273_9-1))with|some _=>(match true,r273_1[(i64.wrap (s273_9-1)).toNat]? with|true,some x2=>(og (decide (okC 4000 c/\okP 4000 x1/\okP 4000 x2)) (match decide ((Dc (dC c) (dec x1) (dec x2))<0)with|true=>(match aT r273_1 (i64.wrap (s273_9-1))with|some _=>(match true,r273_1[(i64.wrap (s273_9-1)).toNat]? with|true,some x3=>(match aT r273_1 s273_9 with|some _=>(match true,r273_1[(s273_9).toNat]? with|true,some x4=>(match aT r273_1 s273_9 with|some _=>(match true,r273_1[(s273_9).toNat]? with|true,some _=>(match aT (r273_1.set ((s273_9).toNat) x3) (i64.wrap (s273_9-1))with|some _=>(match true,(r273_1.set ((s273_9).toNat) x3)[(i64.wrap (s273_9-1)).toNat]? with|true,some _=>k 15 (EG c l s200_7 s200_8 s273_8 (i64.wrap (s273_9-1)) ((r273_1.set ((s273_9).toNat) x3).set ((i64.wrap (s273_9-1)).toNat) x4))|_,_=>none)|none=>none)|_,_=>none)|none=>none)|_,_=>none)|none=>none)|_,_=>none)|none=>none)|false=>k 3 (sQ c l s200_7 s200_8 (i64.wrap (s273_8+1)) r273_1)))|_,_=>none)|none=>none)|_,_=>none)|none=>none)|false=>k 3 (sQ c l s200_7 s200_8 (i64.wrap (s273_8+1)) r273_1)
def ir(c:BCU)(l:List BP)(s200_7 s273_8 s273_9:Int)(r273_1:List BP)(k:KT):OLR:=match decide (s273_9>s200_7)with|true=>(match aT r273_1 s273_9 with|some _=>(match true,r273_1[(s273_9).toNat]? with|true,some x1=>(match aT r273_1 (i64.wrap (s273_9-1))with|some _=>(match true,r273_1[(i64.wrap (s273_9-1)).toNat]? with|true,some x2=>(og (decide (okC 4000 c/\okP 4000 x1/\okP 4000 x2)) (match decide ((Dc (dC c) (dec x1) (dec x2))<0)with|true=>(match aT r273_1 (i64.wrap (s273_9-1))with|some _=>(match true,r273_1[(i64.wrap (s273_9-1)).toNat]? with|true,some x3=>(match aT r273_1 s273_9 with|some _=>(match true,r273_1[(s273_9).toNat]? with|true,some x4=>(match aT r273_1 s273_9 with|some _=>(match true,r273_1[(s273_9).toNat]? with|true,some _=>(match aT (r273_1.set ((s273_9).toNat) x3) (i64.wrap (s273_9-1))with|some _=>(match true,(r273_1.set ((s273_9).toNat) x3)[(i64.wrap (s273_9-1)).toNat]? with|true,some _=>k 15 (gW c l s200_7 s273_8 (i64.wrap (s273_9-1)) ((r273_1.set ((s273_9).toNat) x3).set ((i64.wrap (s273_9-1)).toNat) x4))|_,_=>none)|none=>none)|_,_=>none)|none=>none)|_,_=>none)|none=>none)|_,_=>none)|none=>none)|false=>k 3 (fo c l s200_7 (i64.wrap (s273_8+1)) r273_1)))|_,_=>none)|none=>none)|_,_=>none)|none=>none)|false=>k 3 (fo c l s200_7 (i64.wrap (s273_8+1)) r273_1)
theorem kv(c:BCU)(l:List BP)(s200_7 s273_8 s273_9:Int)(r273_1:List BP):RN jq 15 (gW c l s200_7 s273_8 s273_9 r273_1) (ir c l s200_7 s273_8 s273_9 r273_1):=rnX
def jQ(c:BCU)(l r273_1:List BP)(s200_6:Int)(k:KT):OLR:=match decide (s200_6<(l.length:Int))with|true=>k 34 (FI c l r273_1 s200_6)|false=>(match decide ((r273_1.length:Int)<2)with|true=>some [RV.new 37 tP r273_1]|false=>k 14 (jW c r273_1 1))
theorem m9(c:BCU)(l r273_1:List BP)(s200_6:Int):RN jq 22 (jV c l r273_1 s200_6) (jQ c l r273_1 s200_6):=rnX
def jK(c:BCU)(r273_1:List BP)(s102_5:Int)(k:KT):OLR:=match decide (s102_5<(r273_1.length:Int))with|true=>(match aT r273_1 s102_5 with|some _=>(match true,r273_1[(s102_5).toNat]? with|true,some x1=>(match aT r273_1 (i64.wrap (s102_5-1))with|some _=>(match true,r273_1[(i64.wrap (s102_5-1)).toNat]? with|true,some x2=>(og (decide (okP 4000 x1/\okP 4000 x2)) (match a8 (dec x1) (dec x2)==0 with|true=>(og (decide ((0:Int)<=s102_5/\s102_5<=(r273_1.length:Int)/\(r273_1.length:Int)<=(r273_1.length:Int))) (k 32 (eI c r273_1 s102_5 s102_5 1 r273_1)))|false=>k 14 (jW c r273_1 (i64.wrap (s102_5+1)))))|_,_=>none)|none=>none)|_,_=>none)|none=>none)|false=>some [RV.new 37 tP r273_1]
theorem mZ(c:BCU)(r273_1:List BP)(s102_5:Int):RN jq 14 (jW c r273_1 s102_5) (jK c r273_1 s102_5):=rnX
def im(c:BCU)(r273_1:List BP)(s102_5 s102_5v s102_7:Int)(r102_1:List BP)(k:KT):OLR:=match decide (s102_7<((((r273_1.length:Int):Int).toNat-(s102_5:Int).toNat:Nat):Int))with|true=>(match true,decide ((0:Int)<=s102_7/\s102_7<((((r273_1.length:Int):Int).toNat-(s102_5:Int).toNat:Nat):Int))with|true,true=>(match true,r102_1[(s102_5:Int).toNat+(s102_7).toNat]? with|true,some x1=>(match true,decide ((0:Int)<=i64.wrap (s102_7-1)/\i64.wrap (s102_7-1)<((((r273_1.length:Int):Int).toNat-(s102_5:Int).toNat:Nat):Int))with|true,true=>(match true,r102_1[(s102_5:Int).toNat+(i64.wrap (s102_7-1)).toNat]? with|true,some x2=>(og (decide (okP 4000 x1/\okP 4000 x2)) (match !(a8 (dec x1) (dec x2)==0)with|true=>(match true,decide ((0:Int)<=s102_7/\s102_7<((((r273_1.length:Int):Int).toNat-(s102_5:Int).toNat:Nat):Int))with|true,true=>(match true,r102_1[(s102_5:Int).toNat+(s102_7).toNat]? with|true,some x3=>(match aT r102_1 s102_5v with|some _=>(match true,r102_1[(s102_5v).toNat]? with|true,some _=>k 32 (eI c r273_1 s102_5 (i64.wrap (s102_5v+1)) (i64.wrap (s102_7+1)) (r102_1.set ((s102_5v).toNat) x3))|_,_=>none)|none=>none)|_,_=>none)|_,_=>none)|false=>k 32 (eI c r273_1 s102_5 s102_5v (i64.wrap (s102_7+1)) r102_1)))|_,_=>none)|_,_=>none)|_,_=>none)|_,_=>none)|false=>(og (decide ((0:Int)<=s102_5v/\s102_5v<=(r102_1.length:Int)/\(r102_1.length:Int)<=(r102_1.length:Int))) (og (decide ((0:Int)<=0/\0<=s102_5v/\s102_5v<=((j7 (Ty.zero tP) ((s102_5v:Int).toNat) (((r102_1.length:Int):Int).toNat-(s102_5v:Int).toNat) r102_1).length:Int))) (some [RV.d (.sl tP) (((j7 (Ty.zero tP) ((s102_5v:Int).toNat) (((r102_1.length:Int):Int).toNat-(s102_5v:Int).toNat) r102_1).drop ((0:Int).toNat)).take ((s102_5v:Int).toNat-(0:Int).toNat))])))
theorem kr(c:BCU)(r273_1:List BP)(s102_5 s102_5v s102_7:Int)(r102_1:List BP):RN jq 32 (eI c r273_1 s102_5 s102_5v s102_7 r102_1) (im c r273_1 s102_5 s102_5v s102_7 r102_1):=rnX
theorem oD{α:Type}(L:List α)(x:α)(T:List α):(L++x::T)[L.length]?=some x:=by simp
theorem Ce{α:Type}(x y:α)(T:List α):∀L:List α,(L++x::T).set L.length y=L++y::T
 |[]=>rfl
 |a::L=>by simp[Ce x y T L]
section
variable (c:BCU) (l:List BP)
def ah3(ys:List BP)(r:List RV):Prop:=r=[.new 37 tP ys]\/r=[.d (.sl tP) ys]
abbrev sf(i:Nat)(g:Cfg)(ys:List BP):Prop:=∃r,jq.Runs i g r/\ah3 ys r
end
section
variable (c:BCU) (l:List BP) (hc:okC 4000 c)
include hc
theorem A5(hl:l.length<=19)(i:Nat)(ys:List BP):∀(L:List BP) (a:BP) (R:List BP),(∀x∈L,okP 4000 x)->okP 4000 a->(L.reverse++a::R).length<=19->i<=19->
  sf 3 (fo c l 0 ((i+1:Nat):Int) ((me (ltP (dC c)) L a).reverse++R)) ys->sf 15 (gW c l 0 (i:Int) (L.length:Int) (L.reverse++a::R)) ys
 |[],a,R,hL,ha,h19,hi,⟨r,⟨n,hn⟩,hr⟩=>by
  refine⟨r,kv _ _ _ _ _ _ ⟨n,?_⟩,hr⟩;unfold ir;rw[dF (show ¬((([]:List BP).length:Nat):Int)>0 by simp),bW (by omega)];exact hn
 |b::L,a,R,hL,ha,h19,hi,hnext=>by
  have hb:=hL b (by simp);have hln:L.length<=18:=by simp at h19;omega
  have hrev:(b::L).reverse++a::R=L.reverse++b::a::R:=by simp
  have e1:((b::L).length:Int)=((L.length+1:Nat):Int):=rfl;have ew:i64.wrap (((L.length+1:Nat):Int)-1)=(L.length:Int):=by rw[aV (by omega) (by omega)];omega
  have g1:(L.reverse++b::a::R)[L.length+1]?=some a:=by
   simp
  have g0:(L.reverse++b::a::R)[L.length]?=some b:=by
   simp
  have s1:(L.reverse++b::a::R).set (L.length+1) b=L.reverse++b::b::R:=by
   simp
  have s2:(L.reverse++b::b::R).set L.length a=L.reverse++a::b::R:=by
   simp
  have g2:(L.reverse++b::b::R)[L.length]?=some b:=by
   simp
  have key:∀r n,(match ltP (dC c) a b with
    |true=>jq.k n 15 (gW c l 0 (i:Int) (L.length:Int) (L.reverse++a::b::R))
    |false=>jq.k n 3 (fo c l 0 ((i+1:Nat):Int) (L.reverse++b::a::R)))=some r->
    ir c l 0 (i:Int) ((b::L).length:Int) ((b::L).reverse++a::R) (jq.k n)=some r:=λr n h=>by
   rw[hrev,e1];unfold ir;rw[dT (show((L.length+1:Nat):Int)>0 by omega),ew,av,g1,av,g0,show((L.length+1:Nat):Int).toNat=L.length+1 by omega,show((L.length:Nat):Int).toNat=L.length by omega,g1,g0];dsimp only;rw[dT (show okC 4000 c/\okP 4000 a/\okP 4000 b from⟨hc,ha,hb⟩),s1,av,g2,s2,bW (by omega)];dsimp only;unfold ltP at h;exact h
  unfold me at hnext;cases hlt:ltP (dC c) a b
  ·rw[hlt,cond_false]at hnext;obtain⟨r,⟨n,hn⟩,hr⟩:=hnext;refine⟨r,kv _ _ _ _ _ _ ⟨n,key r n ?_⟩,hr⟩;rw[hlt];simpa using hn
  ·rw[hlt,cond_true]at hnext;obtain⟨r,⟨n,hn⟩,hr⟩:=A5 hl i ys L a (b::R) (λx hx=>hL x (ana _ hx)) ha (by simp at h19 ⊢;omega) hi (by simpa using hnext);refine⟨r,kv _ _ _ _ _ _ ⟨n,key r n ?_⟩,hr⟩;rw[hlt];exact hn
theorem Am(hl:l.length<=19)(ys:List BP):∀(R D:List BP),(∀x∈D,okP 4000 x)->(∀x∈R,okP 4000 x)->D.length+R.length=l.length->
  sf 22 (jV c l (R.foldl (me (ltP (dC c))) D).reverse 20) ys->sf 3 (fo c l 0 (D.length:Int) (D.reverse++R)) ys
 |[],D,hD,hR,hlen,⟨r,⟨n,hn⟩,hr⟩=>by
  refine⟨r,lC _ _ _ _ _ ⟨n,?_⟩,hr⟩;unfold jf;rw[cd (by simp at hlen;omega),ant];exact hn
 |a::R,D,hD,hR,hlen,hnext=>by
  have ha:=hR a (by simp);have hlen':D.length+(R.length+1)=l.length:=hlen
  have h1:=Am hl ys R (me (ltP (dC c)) D a) (λx hx=>by
   rcases n7.1 hx with e|e
   ·rw[e];exact ha
   ·exact hD x e) (λx hx=>hR x (ana _ hx)) (by rw[uk];omega) hnext
  rw[uk]at h1;obtain⟨r,⟨n,hn⟩,hr⟩:=A5 c l hc hl D.length ys D a R hD ha (by simp;omega) (by omega) h1;refine⟨r,lC _ _ _ _ _ ⟨n,?_⟩,hr⟩;unfold jf;rw[bI (by omega)];exact hn
omit hc in
theorem ve(r0:List BP)(b:Nat)(h19:r0.length<=19):∀(S K J:List BP) (p:BP),(∀x∈K++(J++p::S),okP 4000 x)->(K++(J++p::S)).length=r0.length->∀k2:Nat,1<=k2->b+k2=K.length+J.length+1->
  sf 32 (eI c r0 (b:Int) (K.length:Int) (k2:Int) (K++(J++p::S))) (K++ks iU p S)
 |[],K,J,p,hok,hlen,k2,h1,hb=>by
  refine⟨_,kr _ _ _ _ _ _ ⟨0,?_⟩,.inr rfl⟩;have hlen':K.length+(J.length+1)=r0.length:=by simpa using hlen
  unfold im;rw[dF (show ¬(k2:Int)<(((r0.length:Int).toNat-(b:Int).toNat:Nat):Int) by omega)];dsimp only;rw[dT (show(0:Int)<=(K.length:Int)/\(K.length:Int)<=((K++(J++[p])).length:Int)/\((K++(J++[p])).length:Int)<=((K++(J++[p])).length:Int) by rw[hlen];omega)]
  have hcl:((j7 (Ty.zero tP) ((K.length:Int).toNat) ((((K++(J++[p])).length:Int)).toNat-(K.length:Int).toNat) (K++(J++[p])))).take K.length=K:=by
   unfold j7;rw[show((K.length:Int)).toNat=K.length by omega,ann,List.take_append_of_le_length (by simp),ap9,Nat.min_self,List.take_left' rfl]
  have hcn:K.length<=(j7 (Ty.zero tP) ((K.length:Int).toNat) ((((K++(J++[p])).length:Int)).toNat-(K.length:Int).toNat) (K++(J++[p]))).length:=by
   have:=congrArg List.length hcl;rw[anJ]at this;omega
  rw[dT (show(0:Int)<=0/\0<=(K.length:Int)/\(K.length:Int)<=((j7 (Ty.zero tP) ((K.length:Int).toNat) ((((K++(J++[p])).length:Int)).toNat-(K.length:Int).toNat) (K++(J++[p]))).length:Int) by omega)];rw[show((0:Int)).toNat=0 from rfl,aoD,show((K.length:Int)).toNat-0=K.length by omega,hcl];simp[ks]
 |q::S,K,J,p,hok,hlen,k2,h1,hb=>by
  have hlen':K.length+(J.length+(S.length+1+1))=r0.length:=by simpa using hlen
  have hq:okP 4000 q:=hok q (by simp);have hp:okP 4000 p:=hok p (by simp)
  have g1:(K++(J++p::q::S))[(b:Int).toNat+(k2:Int).toNat]?=some q:=by
   rw[show(b:Int).toNat+(k2:Int).toNat=(K++(J++[p])).length by simp;omega];simp
  have ew:i64.wrap ((k2:Int)-1)=((k2-1:Nat):Int):=by rw[aV (by omega) (by omega)];omega
  have g0:(K++(J++p::q::S))[(b:Int).toNat+((k2-1:Nat):Int).toNat]?=some p:=by
   rw[show(b:Int).toNat+((k2-1:Nat):Int).toNat=(K++J).length by simp;omega];simp
  have key:∀r n,(match iU q p with
    |true=>jq.k n 32 (eI c r0 (b:Int) (K.length:Int) ((k2+1:Nat):Int) (K++(J++p::q::S)))
    |false=>jq.k n 32 (eI c r0 (b:Int) ((K.length+1:Nat):Int) ((k2+1:Nat):Int) ((K++(J++p::q::S)).set K.length q)))=some r->
    im c r0 (b:Int) (K.length:Int) (k2:Int) (K++(J++p::q::S)) (jq.k n)=some r:=λr n h=>by
   unfold im;rw[dT (show(k2:Int)<(((r0.length:Int).toNat-(b:Int).toNat:Nat):Int) by omega)];dsimp only;rw[dT (show(0:Int)<=(k2:Int)/\(k2:Int)<(((r0.length:Int).toNat-(b:Int).toNat:Nat):Int) by omega),g1];dsimp only;rw[ew,dT (show(0:Int)<=((k2-1:Nat):Int)/\((k2-1:Nat):Int)<(((r0.length:Int).toNat-(b:Int).toNat:Nat):Int) by omega),g0];dsimp only;rw[dT (show okP 4000 q/\okP 4000 p from⟨hq,hp⟩),bW (k:=k2) (by omega)];unfold iU at h;cases he:a8 (dec q) (dec p)==0<;>rw[he]at h
   ·try dsimp only[Bool.not_false]
    have g3:∃y,(K++(J++p::q::S))[K.length]?=some y:=⟨_,amX (by simp;omega)⟩
    obtain⟨y,g3⟩:=g3;rw[av,g3,show((K.length:Int)).toNat=K.length by omega,g3,bW (k:=K.length) (by omega)];exact h
   ·exact h
  have hcm:ks iU p (q::S)=bif iU q p then ks iU q S else q::ks iU q S:=rfl;rw[hcm];cases he:iU q p
  ·have hset:∃J',(K++(J++p::q::S)).set K.length q=(K++[q])++(J'++q::S)/\J'.length=J.length/\∀x∈J',x∈J++[p]:=by
    cases J with
    |nil=>
     refine⟨[],?_,rfl,λx hx=>by cases hx⟩;simp
    |cons h T=>
     refine⟨T++[p],?_,by simp,λx hx=>by simp at hx ⊢;exact .inr hx⟩;simp
   obtain⟨J',e,eJ,mJ⟩:=hset
   obtain⟨r,⟨n,hn⟩,hr⟩:=ve r0 b h19 S (K++[q]) J' q (λx hx=>by
    simp only[anI,ane,aoi,apJ]at hx;rcases hx with(hx|hx)|(hx|hx|hx)
    ·exact hok x (by simp[hx])
    ·rw[hx];exact hq
    ·have:=mJ x hx;simp only[anI,ane,aoi,apJ]at this;rcases this with h|h
     ·exact hok x (by simp[h])
     ·rw[h];exact hp
    ·rw[hx];exact hq
    ·exact hok x (by simp[hx])) (by simp;omega) (k2+1) (by omega) (by simp;omega)
   refine⟨r,kr _ _ _ _ _ _ ⟨n,key r n ?_⟩,?_⟩
   ·rw[he,e];have:(K++[q]).length=K.length+1:=by simp
    rw[this]at hn;exact hn
   ·simpa using hr
  ·have e2:K++(J++p::q::S)=K++((J++[p])++q::S):=by simp
   obtain⟨r,⟨n,hn⟩,hr⟩:=ve r0 b h19 S K (J++[p]) q (e2▸hok) (e2▸hlen) (k2+1) (by omega) (by simp;omega);refine⟨r,kr _ _ _ _ _ _ ⟨n,key r n ?_⟩,hr⟩;rw[he,e2];exact hn
omit hc in
theorem Af:∀(S A:List BP) (p:BP),(∀x∈A++p::S,okP 4000 x)->(A++p::S).length<=19->
  sf 14 (jW c (A++p::S) ((A.length+1:Nat):Int)) (A++p::ks iU p S)
 |[],A,p,hok,h19=>by
  refine⟨_,mZ _ _ _ ⟨0,?_⟩,.inl rfl⟩;unfold jK;rw[cd (by simp)];rfl
 |q::S,A,p,hok,h19=>by
  have hq:okP 4000 q:=hok q (by simp);have hp:okP 4000 p:=hok p (by simp);have h19':A.length+(S.length+1+1)<=19:=by simpa using h19
  have g1:(A++p::q::S)[A.length+1]?=some q:=by
   simp
  have g0:(A++p::q::S)[A.length]?=some p:=oD A p (q::S);have ew:i64.wrap (((A.length+1:Nat):Int)-1)=(A.length:Int):=by rw[aV (by omega) (by omega)];omega
  have key:∀r n,(match iU q p with
    |true=>jq.k n 32 (eI c (A++p::q::S) ((A.length+1:Nat):Int) ((A.length+1:Nat):Int) 1 (A++p::q::S))
    |false=>jq.k n 14 (jW c (A++p::q::S) ((A.length+1+1:Nat):Int)))=some r->
    jK c (A++p::q::S) ((A.length+1:Nat):Int) (jq.k n)=some r:=λr n h=>by
   unfold jK;rw[bI (by simp only[anu,anb];omega),av,g1,show((A.length+1:Nat):Int).toNat=A.length+1 by omega,g1];dsimp only;rw[ew,av,g0,show((A.length:Nat):Int).toNat=A.length by omega,g0];dsimp only;rw[dT (show okP 4000 q/\okP 4000 p from⟨hq,hp⟩),bW (k:=A.length+1) (by omega),dT (show(0:Int)<=((A.length+1:Nat):Int)/\((A.length+1:Nat):Int)<=((A++p::q::S).length:Int)/\((A++p::q::S).length:Int)<=((A++p::q::S).length:Int) by simp;omega)];exact h
  have hcm:ks iU p (q::S)=bif iU q p then ks iU q S else q::ks iU q S:=rfl;have e2:A++p::q::S=(A++[p])++q::S:=by simp
  rw[hcm];cases he:iU q p
  ·obtain⟨r,⟨n,hn⟩,hr⟩:=Af S (A++[p]) q (e2▸hok) (e2▸h19);refine⟨r,mZ _ _ _ ⟨n,key r n ?_⟩,?_⟩
   ·rw[he,e2];have:(A++[p]).length=A.length+1:=by simp
    rw[this]at hn;exact hn
   ·rw[ann]at hr;exact hr
  ·obtain⟨r,⟨n,hn⟩,hr⟩:=ve c (A++p::q::S) (A.length+1) h19 S (A++[p]) [] q (e2▸hok) (by rw[e2];rfl) 1 (am2 _) (by simp);refine⟨r,mZ _ _ _ ⟨n,key r n ?_⟩,?_⟩
   ·rw[he,e2];have:(A++[p]).length=A.length+1:=by simp
    rw[this,e2]at hn;exact hn
   ·rw[ann]at hr;exact hr
theorem Uc(hl:l.length<=19)(ho:∀x∈l,okP 4000 x):sf 6 (sB c l 0 20 l) (du (dC c) l):=by
 have hlast:∀r:List BP,(∀x∈r,okP 4000 x)->r.length<=19->sf 22 (jV c l r 20) (wE iU r):=λr hr h19=>by
  cases r with
  |nil=>
   refine⟨_,m9 _ _ _ _ ⟨0,?_⟩,.inl rfl⟩;unfold jQ;rw[dF (show ¬(20:Int)<(l.length:Int) by omega)];rfl
  |cons p S=>
   cases S with
   |nil=>
    refine⟨_,m9 _ _ _ _ ⟨0,?_⟩,.inl rfl⟩;unfold jQ;rw[dF (show ¬(20:Int)<(l.length:Int) by omega)];rfl
   |cons q S=>
    obtain⟨r',⟨n,hn⟩,hr'⟩:=Af c (q::S) [] p hr h19;refine⟨r',m9 _ _ _ _ ⟨n,?_⟩,hr'⟩;unfold jQ;rw[dF (show ¬(20:Int)<(l.length:Int) by omega)];dsimp only;rw[dF (show ¬((p::q::S).length:Int)<2 by simp;omega)];simpa using hn
 have hsort:sf 22 (jV c l (uU (ltP (dC c)) l) 20) (du (dC c) l):=hlast _ (λx hx=>ho x (qG.1 hx)) (by rw[EV];exact hl)
 have h3:sf 3 (fo c l 0 1 l) (du (dC c) l):=by
  cases l with
  |nil=>
   obtain⟨r,⟨n,hn⟩,hr⟩:=hsort;refine⟨r,lC _ _ _ _ _ ⟨n,?_⟩,hr⟩;unfold jf;rw[dF (show ¬(1:Int)<(([]:List BP).length:Int) by simp)];exact hn
  |cons x l=>
   have:=Am c (x::l) hc hl _ l [x] (λy hy=>ho y (by simp at hy;simp[hy])) (λy hy=>ho y (ana _ hy)) (by simp;omega) hsort;simpa using this
 obtain⟨r,⟨n,hn⟩,hr⟩:=h3;refine⟨r,Ch _ _ _ _ _ ⟨n,?_⟩,hr⟩;unfold uG;rw[dF (show ¬(20:Int)<=(l.length:Int) by omega),aV (x:=0+1) (by omega) (by omega)];exact hn
end
def O9:Cn 40 [tCU,(.sl tP)]:=cn λ(c:BCU) (l:List BP)=>lf (mg c l) [.d (.sl tP) (du (dC c) l)] λh=>by
 obtain⟨hc,hl,ho⟩:=h;obtain⟨r,⟨n,hn⟩,hr⟩:=Uc c l hc hl ho
 have hres:jq.Res 40 [.d tCU c,.d (.sl tP) l] r:=by
  refine ajK _ _ ⟨n,?_⟩;unfold abd;rw[dT (show l.length<=100000 by omega)];exact hn
 rcases hr with e|e
 ·rw[e]at hres;exact Con.new_d (et:=37) (da HI hres)
 ·rw[e]at hres;exact da HI hres
end
end Go.Proofs.YtagbmoohboleaaaGreat
end
