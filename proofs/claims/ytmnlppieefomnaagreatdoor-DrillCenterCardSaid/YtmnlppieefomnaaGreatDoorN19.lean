/- The reference's Disc. -/
import Derived.Test.YtmnlppieefomnaaGreatDoorN18
import Derived.Test.YtmnlppieefomnaaGreatDoorN16
import Derived.Test.YtmnlppieefomnaaGreatDoorN11
import Derived.Test.YtmnlppieefomnaaGreatDoorN17
import Derived.Test.YtmnlppieefomnaaGreatDoorN2
noncomputable section
namespace Go.Proofs.YtmnlppieefomnaaGreatDoor
open Go.RowKit Go.IntKind
theorem aoP:type_of% @List.zip_cons_cons:=@List.zip_cons_cons
theorem apn:type_of% @Bool.eq_iff_iff:=@Bool.eq_iff_iff
section
open RE
def Br(l:List BCU):Prop:=∃c,bi c/\l=[loN c,hiN c]
instance (l:List BCU):Decidable (Br l):=Classical.propDecidable _
def Ew(l:List BCU):Prop:=∃c,bi c/\l=[loN c,upN c]
instance (l:List BCU):Decidable (Ew l):=Classical.propDecidable _
instance (c d:BCU):Decidable (qx c d):=Classical.propDecidable _
def Mu(c:BCU)(l:List BP):Prop:=sF c l/\j7 c l=[c]
instance (c:BCU) (l:List BP):Decidable (Mu c l):=Classical.propDecidable _
def vN(c:BO3):Prop:=ok Rat 4 c.1/\ok Rat 4 c.2.1/\ok Rat 13 c.2.2
instance (c:BO3):Decidable (vN c):=by unfold vN;infer_instance
def zx(c:BO3):List BCU:=bif decide ((0:Rat)<(dec c:Ln).2.2)then [loN c,upN c]else []
def zB(c:BO3):Int:=bif decide ((0:Rat)<(dec c:Ln).2.2)then 0 else 1
theorem vz{c:BO3}(h:bi c):eh (loN c)=loN c/\eh (hiN c)=upN c:=by
 obtain⟨g1,g2,g3,_⟩:=kZ h;have e:aB (dec (enc (cd (dec c)))) (dec (enc (bZ (dec c))))= -1:=by rw[au,au];exact g3
 have r1:Rpd (dec (enc (cd (dec c)))):=co g1.1.1.2.2.1;have r2:Rpd (dec (enc (bZ (dec c)))):=co g1.1.1.2.2.2;constructor
 ·unfold eh;rw[show aB (dec (loN c).2.2.2.2.1) (dec (loN c).2.2.2.2.2)= -1 from e];rfl
 ·unfold eh
  rw[show aB (dec (hiN c).2.2.2.2.1) (dec (hiN c).2.2.2.2.2)=1 from by
   show aB (dec (enc (bZ (dec c)))) (dec (enc (cd (dec c))))=1;rw[kj,e];rfl]
  rfl
theorem IO{c:BO3}(h:bi c):gdN (upN c):=by
 have:=Bp (kZ h).2.1;exact this
theorem UN{c:BCU}(h:gdN c){p:BP}(hp:Rpd (dec p))(he:aB (dec c.2.2.2.2.1) (dec p)=0\/aB (dec c.2.2.2.2.2) (dec p)=0):fb (dC c) [c.2.2.2.2.1,c.2.2.2.2.2] p=[c.2.2.2.2.1,c.2.2.2.2.2]:=by
 have k:=fR h.gd;have o:=rN k;have ft:bY (dC c) (dec c.2.2.2.2.1) (dec c.2.2.2.2.2)<0:=JE h;have i1:Rpd (dec c.2.2.2.2.1):=k.f.1;have i2:Rpd (dec c.2.2.2.2.2):=k.t.1;simp only[fb];rcases he with e|e
 ·have sp:Sp (dC c) (dec p):=ZW (p:=frC (dC c)) k.f hp e;have e0:bY (dC c) (dec c.2.2.2.2.1) (dec p)=0:=o.irr k.f sp e;rw[dF (show ¬bY (dC c) (dec c.2.2.2.2.1) (dec p)<0 by omega),amW.2 e];rfl
 ·have sp:Sp (dC c) (dec p):=ZW (p:=toC (dC c)) k.t hp e
  have e1:bY (dC c) (dec c.2.2.2.2.1) (dec p)<0:=by
   have:=(oP k k.t sp k.f e).2;show bY (dC c) (frC (dC c)) (dec p)<0;rw[<-this];exact ft
  have e0:bY (dC c) (dec c.2.2.2.2.2) (dec p)=0:=o.irr k.t sp e;rw[dT e1,dF (show ¬bY (dC c) (dec c.2.2.2.2.2) (dec p)<0 by omega),amW.2 e];rfl
theorem PS{c:BCU}(h:gdN c):∀{l:List BP},(∀p∈l,Rpd (dec p)/\(aB (dec c.2.2.2.2.1) (dec p)=0\/aB (dec c.2.2.2.2.2) (dec p)=0))->j7 c l=[c]:=by
 intro l hl;have e:pJ c l=l.foldl (fb (dC c)) (pJ c []):=rfl
 have e0:pJ c []=[c.2.2.2.2.1,c.2.2.2.2.2]:=by
  unfold pJ gu;simp only[List.cons_append,an4,an6,List.foldl_nil,fb];rw[dT (show bY (dC c) (dec c.2.2.2.2.1) (dec c.2.2.2.2.2)<0 from JE h)];rfl
 have:∀l:List BP,(∀p∈l,Rpd (dec p)/\(aB (dec c.2.2.2.2.1) (dec p)=0\/aB (dec c.2.2.2.2.2) (dec p)=0))->l.foldl (fb (dC c)) [c.2.2.2.2.1,c.2.2.2.2.2]=[c.2.2.2.2.1,c.2.2.2.2.2]:=by
  intro l;induction l with
  |nil=>intro _;rfl
  |cons p r ih=>
   intro hl;rw[an6,UN h (hl p (by simp)).1 (hl p (by simp)).2];exact ih λq hq=>hl q (amv _ hq)
 unfold j7;rw[e,e0,this l hl];rfl
theorem yY{c:BO3}(h:bi c):∀a b:BCU,(a=loN c\/a=upN c)->(b=loN c\/b=upN c)->fU a b/\Mu a (mp a b)/\(mp a b).length<=4:=λa b ha hb=>by
 have g1:=(kZ h).1;have g2:=IO h;have ga:gdN a:=by rcases ha with e|e<;>rw[e]<;>assumption
 have gb:gdN b:=by rcases hb with e|e<;>rw[e]<;>assumption
 have hm:fU a b:=⟨ga.1,gb.1⟩
 obtain⟨l4,hp⟩:=HT hm
 have hs:cf (dC a) (dC b)=true:=by
  have:∀w1 w2 f1 f2 t1 t2,cf (dC (true,o00,c,w1,f1,t1)) (dC (true,o00,c,w2,f2,t2))=true:=λw1 w2 f1 f2 t1 t2=>by
   unfold cf pE;simp[dC,ciC]
  rcases ha with e|e<;>rcases hb with e'|e'<;>rw[e,e']<;>exact this _ _ _ _ _ _
 have ends:∀p∈mp a b,p=enc (cd (dec c))\/p=enc (bZ (dec c)):=λp hp=>by
  unfold mp at hp;have hp:=NQ hp;unfold UW at hp;have hp:=(List.mem_filter.1 hp).1;unfold BA at hp;rw[hs,Bool.not_true,cond_false]at hp
  have hp:p=enc (cd (dec c))\/p=enc (bZ (dec c))\/p=enc (cd (dec c))\/p=enc (bZ (dec c)):=by
   rcases ha with e|e<;>rcases hb with e'|e'<;>rw[e,e']at hp<;>simpa [loN,upN]using hp
  rcases hp with h|h|h|h
  ·exact .inl h
  ·exact .inr h
  ·exact .inl h
  ·exact .inr h
 refine⟨hm,⟨⟨bh ga.1.1 (by decide) (by decide),by omega,λp h'=>⟨aV (hp p h').1 (by decide) (by decide),(hp p h').2.1⟩⟩,PS ga λp h'=>⟨co (hp p h').1,?_⟩⟩,l4⟩;have f:a.2.2.2.2.1=enc (cd (dec c))/\a.2.2.2.2.2=enc (bZ (dec c)):=by rcases ha with e|e<;>rw[e]<;>exact⟨rfl,rfl⟩
 have r1:Rpd (dec a.2.2.2.2.1):=co ga.1.1.2.2.1;have r2:Rpd (dec a.2.2.2.2.2):=co ga.1.1.2.2.2;rcases ends p h' with e|e
 ·exact .inl (by rw[e,<-f.1];exact cmpP_0.2 rfl)
 ·exact .inr (by rw[e,<-f.2];exact cmpP_0.2 rfl)
theorem aaq{c:BO3}(h:bi c):(aB (dec (enc (cd (dec c)))) (dec (enc (cd (dec c))))==0)=true/\(aB (dec (enc (bZ (dec c)))) (dec (enc (bZ (dec c))))==0)=true/\(aB (dec (enc (cd (dec c)))) (dec (enc (bZ (dec c))))==0)=false/\(aB (dec (enc (bZ (dec c)))) (dec (enc (cd (dec c))))==0)=false/\okP 4000 (enc (cd (dec c)))/\okP 4000 (enc (bZ (dec c))):=by
 obtain⟨g1,g2,g3,_⟩:=kZ h;have r1:Rpd (dec (enc (cd (dec c)))):=co g1.1.1.2.2.1;have r2:Rpd (dec (enc (bZ (dec c)))):=co g1.1.1.2.2.2;have e:aB (dec (enc (cd (dec c)))) (dec (enc (bZ (dec c))))= -1:=by rw[au,au];exact g3
 refine⟨amW.2 (cmpP_0.2 rfl),amW.2 (cmpP_0.2 rfl),by rw[e];rfl,by rw[kj,e];rfl,aV g1.1.1.2.2.1 (by decide) (by decide),aV g1.1.1.2.2.2 (by decide) (by decide)⟩
theorem WH{c:BCU}(h:gdN c)(ha:c.1=true):DH (dC c)=true:=by
 unfold DH;have a':(dC c).1=true:=ha;rw[a',h.2.1,h.2.2.1,amT.2 h.2.2.2];rfl
def agI:Cn 78 [tCU]:=cn λ(c:BCU)=>lf (yp c) [.d (.sl tCU) ([eh c])] λh=>by
 obtain⟨x,hx,hc⟩:=h;have g:gdN c:=by rcases hc with e|e<;>rw[e];exact(kZ hx).1;exact(kZ hx).2.1
 have p:=Gl g;have e:CQq7 78 [.d tCU c] [.d (.sl tCU) (GY c)]:=(X9.g c).h p;rw[(Jh p).2 ⟨x,hx,hc⟩]at e;exact e
def ahL:Cn 76 [tCU,tCU]:=cn λ(c d:BCU)=>lf (qx c d) [.d apE 1] λh=>by
 have h0:=h;obtain⟨x,hx,hc,hd⟩:=h;have p:=yV (c:=c) (d:=d) (by rw[hc];exact qM (IO hx)) (by rw[hd];exact qM (kZ hx).1);have e:CQq7 76 [.d tCU c,.d tCU d] [.d apE (F4 c d)]:=(Sy.g c d).h p;rw[Vk p h0]at e;exact e
def aiH:Cn 80 [tCU,(.sl tP)]:=cn λ(c:BCU) (l:List BP)=>lf (Mu c l) [.d (.sl tCU) ([c]),.d apE 0] λh=>by
 have e:CQq7 80 [.d tCU c,.d (.sl tP) l] [.d (.sl tCU) (j7 c l),.d apE 0]:=(Q3.g c l).h h.1;rw[h.2]at e;exact e
def M7:List En:=[enL agI,enL aap,enK aiH]
def aex:NT:=[((42,8),{keep:=[0,3,4],hl:=99}),((42,25),{keep:=[3,5,6],hl:=99}),((42,40),{keep:=[3,5,6,7,8],hl:=99})]
def agK:Ctx:=CX (ens M7) aex
def ZZ(c:BO3):OLR:=og (decide (yp (loN c))) (og (decide (yp (hiN c))) (og (decide (fU (eh (loN c)) (eh (hiN c)))) (og (decide ((mp (eh (loN c)) (eh (hiN c))).length*320<=140737488355328/\(mp (eh (loN c)) (eh (hiN c))).length<=140737488355328)) (og (decide (Mu (eh (loN c)) (mp (eh (loN c)) (eh (hiN c))))) (og (decide (fU (eh (hiN c)) (eh (loN c)))) (og (decide ((mp (eh (hiN c)) (eh (loN c))).length*320<=140737488355328/\(mp (eh (hiN c)) (eh (loN c))).length<=140737488355328)) (og (decide (Mu (eh (hiN c)) (mp (eh (hiN c)) (eh (loN c))))) (some [RV.new 75 tCU ([(eh (loN c)),(eh (hiN c))])]))))))))
theorem aj9(c:BO3):RT agK 42 [.d (.sl tCU) ([loN c,hiN c])] (ZZ c):=rtX
def aiE:Cn 42 [(.sl tCU)]:=cn λ(l:List BCU)=>lf (Br l) [.d (.sl tCU) (l.map eh)] λh=>by
 obtain⟨c,hc,rfl⟩:=h;refine Con.new_d (et:=75) (a8 M7 (aj9 c ?_));obtain⟨m1,m2,m3⟩:=yY hc (loN c) (upN c) (.inl rfl) (.inr rfl);obtain⟨m4,m5,m6⟩:=yY hc (upN c) (loN c) (.inr rfl) (.inl rfl);unfold ZZ;rw[dT (show yp (loN c) from⟨c,hc,.inl rfl⟩),dT (show yp (hiN c) from⟨c,hc,.inr rfl⟩),(vz hc).1,(vz hc).2,dT m1,dT m2,dT m4,dT m5,dT (by omega),dT (by omega)];simp only[List.map_cons,List.map_nil,(vz hc).1,(vz hc).2]
def Ot:List En:=[enT RJ]
def abT:NT:=[((41,8),{keep:=[0,3,4],hl:=99}),((41,23),{keep:=[0,3,4,5,6],hl:=99})]
def ae7:Ctx:=CX (ens Ot) abT
def ZF(c:BO3):OLR:=og (decide (fU (loN c) (upN c))) (match jh (dC (loN c)) (dC (upN c))with|true=>(og (decide (0<=([loN c]).length/\((([loN c]).take (0)).length+([]:List BCU).length)*1040<=140737488355328/\(([loN c]).take (0)).length+([]:List BCU).length<=140737488355328)) (some [RV.new 75 tCU ((([loN c]).take (0))++([]:List BCU))]))|false=>some [RV.new 75 tCU ([loN c,upN c])])
theorem aip(c:BO3):RT ae7 41 [.d (.sl tCU) ([loN c,upN c])] (ZF c):=rtX
def agD:Cn 41 [(.sl tCU)]:=cn λ(l:List BCU)=>lf (Ew l) [.d (.sl tCU) l] λh=>by
 obtain⟨c,hc,rfl⟩:=h;refine Con.new_d (et:=75) (a8 Ot (aip c ?_));unfold ZF
 have e:jh (dC (loN c)) (dC (upN c))=false:=by
  unfold jh;rw[show cwC (dC (loN c))=false from rfl,show cwC (dC (upN c))=true from rfl];cases cf (dC (loN c)) (dC (upN c))<;>rfl
 rw[dT (yY hc (loN c) (upN c) (.inl rfl) (.inr rfl)).1,e]
def Rl:List En:=[enT ahL]
def acM:NT:=[((39,8),{keep:=[3,4],hl:=99}),((39,20),{keep:=[3,4,5],hl:=99})]
def aiF:Ctx:=CX (ens Rl) acM
def W6(c:BO3):OLR:=og (decide (qx (upN c) (loN c))) (some [RV.new 75 tCU ([loN c,upN c])])
theorem ahU(c:BO3):RT aiF 39 [.d (.sl tCU) ([loN c,upN c])] (W6 c):=rtX
def ahy:Cn 39 [(.sl tCU)]:=cn λ(l:List BCU)=>lf (Ew l) [.d (.sl tCU) l] λh=>by
 obtain⟨c,hc,rfl⟩:=h;refine Con.new_d (et:=75) (a8 Rl (ahU c ?_));unfold W6;rw[dT (show qx (upN c) (loN c) from⟨c,hc,rfl,rfl⟩)]
section
variable {c:BO3} (hc:bi c)
include hc
theorem Rf{i:Nat}{x1:BCU}(hi:i<=1)(hx:x1.2.2.2.2.2=enc (bZ (dec c))){r:List RV}(next:hZ.Runs 6 (jO [loN c,upN c] ((i+1:Nat):Int)) r):hZ.Runs 23 (gh [loN c,upN c] (i:Int) x1 0 (-1) 0) r:=by
 obtain⟨z1,z2,z3,z4,o1,o2⟩:=aaq hc;have a1:(loN c).2.2.2.2.1=enc (cd (dec c)):=rfl;have a2:(loN c).2.2.2.2.2=enc (bZ (dec c)):=rfl;have b1:(upN c).2.2.2.2.1=enc (cd (dec c)):=rfl;have b2:(upN c).2.2.2.2.2=enc (bZ (dec c)):=rfl;have k1:okP 4000 (enc (cd (dec c)))/\okP 4000 (enc (bZ (dec c))):=⟨o1,o2⟩
 have k2:okP 4000 (enc (bZ (dec c)))/\okP 4000 (enc (bZ (dec c))):=⟨o2,o2⟩
 have s2:hZ.Runs 23 (gh [loN c,upN c] (i:Int) x1 2 (-1) 2) r:=by
  obtain⟨n,hn⟩:=next;refine fM _ _ _ _ _ _ ⟨n,?_⟩;rw[<-aT (k:=i) (by omega)]at hn;exact hn
 have s1:hZ.Runs 23 (gh [loN c,upN c] (i:Int) x1 1 (-1) 1) r:=by
  obtain⟨n,hn⟩:=s2;refine fM _ _ _ _ _ _ ⟨n,?_⟩;unfold fL;rw[show aH [loN c,upN c] 1=some (upN c) from rfl];dsimp only;rw[hx,b1,b2,dT k1,dT k2,z3,z2];exact hn
 obtain⟨n,hn⟩:=s1;refine fM _ _ _ _ _ _ ⟨n,?_⟩;unfold fL;rw[show aH [loN c,upN c] 0=some (loN c) from rfl];dsimp only;rw[hx,a1,a2,dT k1,dT k2,z3,z2];exact hn
theorem P4{i d:Nat}{p:BP}(_hi:i<=1)(hd:d<=1){x1 x2:BCU}(hp:[x1.2.2.2.2.1,x2.2.2.2.2.2][d]?=some p)(hl:p=enc (cd (dec c))\/p=enc (bZ (dec c))){r:List RV}(next:fP.Runs 20 (lK [loN c,hiN c] (i:Int) x1 x2 ((d+1:Nat):Int)) r):fP.Runs 20 (lK [loN c,hiN c] (i:Int) x1 x2 (d:Int)) r:=by
 obtain⟨z1,z2,z3,z4,o1,o2⟩:=aaq hc;have a1:(loN c).2.2.2.2.1=enc (cd (dec c)):=rfl;have a2:(loN c).2.2.2.2.2=enc (bZ (dec c)):=rfl;have b1:(hiN c).2.2.2.2.1=enc (bZ (dec c)):=rfl;have b2:(hiN c).2.2.2.2.2=enc (cd (dec c)):=rfl;have op:okP 4000 p:=by rcases hl with e|e<;>rw[e]<;>assumption
 have hp':[x1.2.2.2.2.1,x2.2.2.2.2.2][((d:Nat):Int).toNat]?=some p:=by rw[show((d:Nat):Int).toNat=d by omega,hp]
 have k:∀{q:BP},okP 4000 q->okP 4000 q/\okP 4000 p:=λh=>⟨h,op⟩
 have e0:(aB (dec (enc (cd (dec c)))) (dec p)==0)=!(aB (dec (enc (bZ (dec c)))) (dec p)==0):=by
  rcases hl with e|e<;>rw[e]
  ·rw[z1,z4];rfl
  ·rw[z3,z2];rfl
 have s2:fP.Runs 35 (gS [loN c,hiN c] (i:Int) x1 x2 (d:Int) 2 2) r:=by
  obtain⟨n,hn⟩:=next;refine kg _ _ _ _ _ _ _ ⟨n,?_⟩;rw[<-aT (k:=d) (by omega)]at hn;exact hn
 have s1:fP.Runs 35 (gS [loN c,hiN c] (i:Int) x1 x2 (d:Int) 1 1) r:=by
  obtain⟨n,hn⟩:=s2;refine kg _ _ _ _ _ _ _ ⟨n,?_⟩;unfold iK;rw[show aH [loN c,hiN c] 1=some (hiN c) from rfl,ai,hp,hp'];dsimp only;rw[b1,b2,dT (k o1),dT (k o2),e0];cases aB (dec (enc (bZ (dec c)))) (dec p)==0<;>exact hn
 have s0:fP.Runs 35 (gS [loN c,hiN c] (i:Int) x1 x2 (d:Int) 0 0) r:=by
  obtain⟨n,hn⟩:=s1;refine kg _ _ _ _ _ _ _ ⟨n,?_⟩;unfold iK;rw[show aH [loN c,hiN c] 0=some (loN c) from rfl,ai,hp,hp'];dsimp only;rw[a1,a2,dT (k o1),dT (k o2),e0];cases aB (dec (enc (bZ (dec c)))) (dec p)==0<;>exact hn
 obtain⟨n,hn⟩:=s0;refine qs _ _ _ _ _ ⟨n,?_⟩;unfold qg;rw[dT (show(d:Int)<2 by omega)];exact hn
end
def akB:Cn 40 [(.sl tCU)]:=cn λ(l:List BCU)=>lf (Ew l) [.d (.sl tCU) l] λh=>by
 obtain⟨c,hc,rfl⟩:=h;have h2:hZ.Runs 6 (jO [loN c,upN c] 2) [.d (.sl tCU) [loN c,upN c]]:=oW _ _ ⟨0,rfl⟩
 have h1:hZ.Runs 6 (jO [loN c,upN c] 1) [.d (.sl tCU) [loN c,upN c]]:=by
  obtain⟨n,hn⟩:=Rf hc (i:=1) (x1:=upN c) (by omega) rfl h2;exact oW _ _ ⟨n,hn⟩
 have h0:hZ.Runs 6 (jO [loN c,upN c] 0) [.d (.sl tCU) [loN c,upN c]]:=by
  obtain⟨n,hn⟩:=Rf hc (i:=0) (x1:=loN c) (by omega) rfl h1;exact oW _ _ ⟨n,hn⟩
 exact a8 Gq (XF _ h0)
def aes:Cn 38 [(.sl tCU)]:=cn λ(l:List BCU)=>lf (Br l) [.d .bool false] λh=>by
 obtain⟨c,hc,rfl⟩:=h;have h2:fP.Runs 6 (n7 [loN c,hiN c] 2) [.d .bool false]:=oG _ _ ⟨0,rfl⟩
 have st:∀{i:Nat} {x:BCU},i<=1->(x=loN c\/x=hiN c)->fP.Runs 6 (n7 [loN c,hiN c] ((i+1:Nat):Int)) [.d .bool false]->fP.Runs 20 (lK [loN c,hiN c] (i:Int) x x 0) [.d .bool false]:=λ{i x} hi hx next=>by
  refine P4 hc hi (d:=0) (by omega) rfl (by rcases hx with e|e<;>rw[e];exact .inl rfl;exact .inr rfl) (P4 hc hi (d:=1) (by omega) rfl (by rcases hx with e|e<;>rw[e];exact .inr rfl;exact .inl rfl) ?_);obtain⟨n,hn⟩:=next;refine qs _ _ _ _ _ ⟨n,?_⟩;rw[<-aT (k:=i) (by omega)]at hn;exact hn
 have h1:fP.Runs 6 (n7 [loN c,hiN c] 1) [.d .bool false]:=by
  obtain⟨n,hn⟩:=st (i:=1) (by omega) (.inr rfl) h2;exact oG _ _ ⟨n,hn⟩
 have h0:fP.Runs 6 (n7 [loN c,hiN c] 0) [.d .bool false]:=by
  obtain⟨n,hn⟩:=st (i:=0) (by omega) (.inl rfl) h1;exact oG _ _ ⟨n,hn⟩
 exact a8 FX (XL _ h0)
def Sa:List En:=[enT WP,enF aes,enK aiE,enK agD,enK akB,enK ahy]
def acx:NT:=[((16,14),{keep:=[0,2,4],hl:=99})]
def ajo:Ctx:=CX (ens Sa) acx
def Y3(c:BO3):OLR:=og (decide (okC 3500 (loN c))) (match !(DH (dC (loN c)))with|true=>some [RV.d (.st (.sl tCU)) ([]),RV.d apE 1]|false=>(og (decide (okC 3500 (hiN c))) (match !(DH (dC (hiN c)))with|true=>some [RV.d (.st (.sl tCU)) ([]),RV.d apE 1]|false=>(og (decide (Br ([loN c,hiN c]))) (og (decide (Br ([loN c,hiN c]))) (og (decide (Ew (([loN c,hiN c]).map eh))) (og (decide (Ew (([loN c,hiN c]).map eh))) (og (decide (Ew (([loN c,hiN c]).map eh))) (match decide (((([loN c,hiN c]).map eh).length:Int)>400)with|true=>some [RV.d (.st (.sl tCU)) ([]),RV.d apE 3]|false=>some [RV.d (.st (.sl tCU)) (([loN c,hiN c]).map eh),RV.d apE 0])))))))))
theorem afx(c:BO3):RT ajo 16 [.d (.sl tCU) ([loN c,hiN c])] (Y3 c):=rtX
def agL:Cn 16 [(.sl tCU)]:=cn λ(l:List BCU)=>lf (Br l) [.d (.st (.sl tCU)) (l.map eh),.d apE 0] λh=>by
 obtain⟨c,hc,rfl⟩:=h;obtain⟨g1,g2,_⟩:=kZ hc;refine a8 Sa (afx c ?_);have p:Ew ([loN c,hiN c].map eh):=⟨c,hc,by simp only[List.map_cons,List.map_nil,(vz hc).1,(vz hc).2]⟩
 unfold Y3;rw[dT (bh (k:=3500) g1.1.1 (by decide) (by decide)),dT (bh (k:=3500) g2.1.1 (by decide) (by decide)),WH g1 rfl,WH g2 rfl,dT (show Br [loN c,hiN c] from⟨c,hc,rfl⟩),dT p];rfl
def aeh:List En:=[enT GT,enT l9]
def M5(c:BO3)(_k:KT):OLR:=og (o1 c.1) (og (o1 c.2.1) (og (o1 c.2.2) (og (o1 c.2.2) (some [RV.d .bool (decide ((aD (ag c.2.2) 0)>0))]))))
def aaC:Cn 43 [tO]:=cn λ(c:BO3)=>lf (vN c) [.d .bool (decide ((0:Rat)<(dec c:Ln).2.2))] λh=>by
 refine aA aeh (M5 c) ⟨0,?_⟩;obtain⟨h1,h2,h3⟩:=h;obtain⟨x1,x2,x3⟩:=c;obtain⟨a,rfl,ba⟩:=aM h1;obtain⟨b,rfl,bb⟩:=aM h2;obtain⟨q,rfl,bq⟩:=aM h3;have e:((enc a,enc b,enc q):BO3)=enc ((a,b,q):Ln):=rfl;unfold M5;rw[e,au];simp only[bE,aG,Nat.reduceLeDiff,av]
def abL:List En:=[enT aaC,enL Xu,enK agL]
def Yk(c:BO3)(_k:KT):OLR:=og (decide (vN c)) (match !(decide ((0:Rat)<(dec c:Ln).2.2))with|true=>some [RV.d (.st (.sl tCU)) ([]),RV.d apE 1]|false=>(og (decide (bi c)) (og (decide (Br (vT c))) (some [RV.d (.st (.sl tCU)) ((vT c).map eh),RV.d apE 0]))))
def WJ:Cn 17 [tO]:=cn λ(c:BO3)=>lf (vN c) [.d (.st (.sl tCU)) (zx c),.d apE (zB c)] λh=>by
 refine aA abL (Yk c) ⟨0,?_⟩;unfold Yk zx zB;rw[dT h];cases hq:decide ((0:Rat)<(dec c:Ln).2.2)
 ·rfl
 ·have hs:bi c:=⟨h.1,h.2.1,h.2.2,amj hq⟩
  rw[dT hs,dT (show Br (vT c) from⟨c,hs,rfl⟩)];show some [RV.d (.st (.sl tCU)) [eh (loN c),eh (hiN c)],RV.d apE 0]=_;rw[(vz hs).1,(vz hs).2];try rfl
end
section
open RE
def atF(x y u:Int):Rat×Rat:=(atQ x u,atQ y u)
abbrev Frm:Type:=Int×Int×Int×Int×Int×Int×List (Int×Int)
def KR(x:Frm):Prop:=u8P x.1/\u8P x.2.1/\i8P x.2.2.1/\i8P x.2.2.2.1/\i8P x.2.2.2.2.1/\i8P x.2.2.2.2.2.1/\∀c∈x.2.2.2.2.2.2,i8P c.1/\i8P c.2
theorem Hu{x y u:Int}(hx:i8P x)(hy:i8P y)(hu:u8P u):Bd (atF x y u) 1:=by
 have h1:Bd (atQ x u) 1:=XC (h:=Ym hx hu) (by decide) (by decide);have h2:Bd (atQ y u) 1:=XC (h:=Ym hy hu) (by decide) (by decide);exact inferInstanceAs (Bd (atQ x u,atQ y u) _)
theorem RZ{c:BCU}(h:gdN c):okC 3500 c:=bh h.1.1 (by decide) (by decide)
def QK:List En:=[enT WP,enK ahT,enK ahH,enK ahQ,enK Wt,enK afC]
def aa2:NT:=[((16,14),{keep:=[0,2,4],hl:=1})]
def IA:Ctx:=CX (ens QK) aa2
def wb(l:List BCU)(s4:Int):Cfg:=⟨16,[.blk 0,.seq 31],[(0,.d (.sl tCU) l),(2,.box 0 0),(4,SI s4)],[.box 35 [.nil]],0,[]⟩
def SX(l:List BCU)(k:KT):OLR:=match decide ((l.length:Int)>400)with|true=>some [RV.d (.st (.sl tCU)) ([]),RV.d apE 3]|false=>k 14 (wb l 0)
theorem ag7(l:List BCU):RS IA 16 [.d (.sl tCU) l] (SX l):=rsX
def ki(l:List BCU)(s4:Int)(k:KT):OLR:=match decide (s4<(l.length:Int))with|true=>(match aH l s4 with|some x1=>(og (decide (okC 3500 x1)) (match !(DH (dC x1))with|true=>some [RV.d (.st (.sl tCU)) ([]),RV.d apE 1]|false=>k 14 (wb l (i64.wrap (s4+1)))))|none=>none)|false=>(og (decide (UZ l)) (match(acr l)with|true=>some [RV.d (.st (.sl tCU)) ([]),RV.d apE 8]|false=>(og (decide (RW l)) (og (decide (QS (Be l))) (og (decide (vS (DU (Be l)))) (og (decide (Fs (Do (DU (Be l))))) (match decide (((KL (Do (DU (Be l)))).length:Int)>400)with|true=>some [RV.d (.st (.sl tCU)) ([]),RV.d apE 3]|false=>some [RV.d (.st (.sl tCU)) (KL (Do (DU (Be l)))),RV.d apE 0])))))))
theorem nh(l:List BCU)(s4:Int):RN IA 14 (wb l s4) (ki l s4):=rnX
def Nt(l:List BCU):Prop:=∃v:(List BCU)×Int,(λv:List BCU×Int=>v.1.length<=10000/\∀e∈v.1,gM e) v/\CQq7 16 [.d (.sl tCU) l] [.d (.st (.sl tCU)) v.1,.d apE v.2]
instance (l:List BCU):Decidable (Nt l):=Classical.propDecidable _
def Dy(l:List BCU):(List BCU)×Int:=Classical.epsilon λv=>(λv:List BCU×Int=>v.1.length<=10000/\∀e∈v.1,gM e) v/\CQq7 16 [.d (.sl tCU) l] [.d (.st (.sl tCU)) v.1,.d apE v.2]
theorem U1{l:List BCU}(h:Nt l):(λv:List BCU×Int=>v.1.length<=10000/\∀e∈v.1,gM e) (Dy l):=(amq h).1
def aio:Cn 16 [(.sl tCU)]:=cn λ(l:List BCU)=>lf (Nt l) [.d (.st (.sl tCU)) ((Dy l).1),.d apE ((Dy l).2)] λh=>(amq h).2
theorem aaY{l:List BCU}(h:∀e∈l,gdN e)(hl:l.length<=12):∀(j i:Nat),i+j=l.length->∃v:List BCU×Int,(v.1.length<=10000/\∀e∈v.1,gM e)/\IA.Runs 14 (wb l (i:Int)) [.d (.st (.sl tCU)) v.1,.d apE v.2]:=by
 intro j;induction j with
 |zero=>
  intro i hi;have p1:=adq (by omega) h;have p2:=adp h hl;obtain⟨l2,g2⟩:=VW p2;have p3:=ad6 g2 l2;obtain⟨l3,g3⟩:=Vu p3;have p4:=PV _ (amm _) l3 g3;obtain⟨l4,g4⟩:=IX p4;have p5:=acX l4 g4;obtain⟨l5,g5⟩:=Uc p5;cases q1:acr l
  ·cases q2:decide (((KL (Do (DU (Be l)))).length:Int)>400)
   ·refine⟨(KL (Do (DU (Be l))),0),⟨l5,g5⟩,nh _ _ ⟨0,?_⟩⟩;unfold ki;rw[aX (by omega),dT p1,q1,dT p2,dT p3,dT p4,dT p5,q2]
   ·refine⟨([],3),⟨by simp,λe he=>by cases he⟩,nh _ _ ⟨0,?_⟩⟩;unfold ki;rw[aX (by omega),dT p1,q1,dT p2,dT p3,dT p4,dT p5,q2]
  ·refine⟨([],8),⟨by simp,λe he=>by cases he⟩,nh _ _ ⟨0,?_⟩⟩;unfold ki;rw[aX (by omega),dT p1,q1]
 |succ j ih=>
  intro i hi;have hil:i<l.length:=by omega
  have hx:=h _ (ams hil);cases hv:DH (dC l[i])
  ·refine⟨([],1),⟨by simp,λe he=>by cases he⟩,nh _ _ ⟨0,?_⟩⟩;unfold ki;rw[aK hil,ai,amg hil];dsimp only;rw[dT (RZ hx),hv];rfl
  ·obtain⟨v,g,n,hn⟩:=ih (i+1) (by omega);refine⟨v,g,nh _ _ ⟨n,?_⟩⟩;unfold ki;rw[aK hil,ai,amg hil];dsimp only;rw[dT (RZ hx),hv,aT (by omega)];exact hn
theorem acB{l:List BCU}(h:∀e∈l,gdN e)(hl:l.length<=12):Nt l:=by
 suffices gX:∃v:(List BCU)×Int,(λv:List BCU×Int=>v.1.length<=10000/\∀e∈v.1,gM e) v/\∃nX,SX l (IA.k nX)=some [.d (.st (.sl tCU)) v.1,.d apE v.2] from gX.elim λv h=>⟨v,h.1,a8 QK (ag7 l h.2)⟩
 obtain⟨v,g,n,hn⟩:=aaY h hl l.length 0 (amx _);refine⟨v,g,n,?_⟩;unfold SX;rw[dF (show ¬(l.length:Int)>400 by omega)];exact hn
def Qp:List En:=[]
def ag9(x y:BR)(_k:KT):OLR:=some [RV.d tV (x,y)]
def Xw:Cn 70 [tR,tR]:=cn λ(x y:BR)=>lf True [.d tV (x,y)] λ_=>by
 refine aA Qp (ag9 x y) ⟨0,?_⟩;rfl
def aaM:List En:=enL Qk::enL Xw::Qp
def Wz(x y u:Int)(_k:KT):OLR:=og (decide (FQ (i64.wrap x) (i64.wrap ((i64.wrap (Int.tmod u 4))+1)))) (og (decide (FQ (i64.wrap y) (i64.wrap ((i64.wrap (Int.tmod u 4))+1)))) (some [RV.d tV (hid (((hid (am (Rat.divInt (i64.wrap x) (i64.wrap ((i64.wrap (Int.tmod u 4))+1))))),(hid (am (Rat.divInt (i64.wrap y) (i64.wrap ((i64.wrap (Int.tmod u 4))+1))))))))]))
def ajx:Cn 68 [(.int .i8),(.int .i8),(.int .u8)]:=cn λ(x y u:Int)=>lf (i8P x/\i8P y/\u8P u) [.d tV (enc (atF x y u))] λh=>by
 refine aA aaM (Wz x y u) ⟨0,?_⟩;obtain⟨hx,hy,hu⟩:=h;obtain⟨x1,x2⟩:=hx;obtain⟨y1,y2⟩:=hy;obtain⟨u1,u2⟩:=hu;have e4:Int.tmod u 4=u%4:=Int.tmod_eq_emod_of_nonneg u1;unfold Wz;rw[e4,aO (x:=x) (by omega) (by omega),aO (x:=y) (by omega) (by omega),aO (x:=u%4) (by omega) (by omega),aO (x:=u%4+1) (by omega) (by omega),dT (show FQ x (u%4+1) from⟨by unfold aR;omega,by unfold aR;omega,by omega⟩),dT (show FQ y (u%4+1) from⟨by unfold aR;omega,by unfold aR;omega,by omega⟩)];simp only[aQ];rfl
def QA:List En:=[enL PN]
def abg:NT:=[((69,8),{keep:=[0,3,4],own:=[(3,75,tCU)],hl:=1})]
def Jk:Ctx:=CX (ens QA) abg
def xx(l:List BV)(s4:Int)(r0:List BCU):Cfg:=⟨69,[.blk 0,.seq 25],[(0,.d (.sl tV) l),(3,.own 0),(4,SI s4)],[.row 75 tCU r0],0,[]⟩
def ZO(l:List BV)(k:KT):OLR:=k 8 (xx l 0 ([]))
theorem akM(l:List BV):RS Jk 69 [.d (.sl tV) l] (ZO l):=rsX
def sN(l:List BV)(s4:Int)(r0:List BCU)(k:KT):OLR:=match decide (s4<(l.length:Int))with|true=>(match aH l s4 with|some x1=>(match decide ((l.length:Int)=(0:Int))with|true=>none|false=>(match aH l (Int.tmod (i64.wrap (s4+1)) (l.length:Int))with|some x2=>(og (decide (ok (Rat×Rat) 100 x1/\ok (Rat×Rat) 100 x2)) (match(zw (dec x1) (dec x2))==0 with|true=>(og (decide ((r0.length+([hid (zm (dec x1) (dec x2))]).length)*1040<=140737488355328/\r0.length+([hid (zm (dec x1) (dec x2))]).length<=140737488355328)) (k 8 (xx l (i64.wrap (s4+1)) (r0++([hid (zm (dec x1) (dec x2))])))))|false=>k 8 (xx l (i64.wrap (s4+1)) r0)))|none=>none))|none=>none)|false=>some [RV.new 75 tCU r0]
theorem yM(l:List BV)(s4:Int)(r0:List BCU):RN Jk 8 (xx l s4 r0) (sN l s4 r0):=rnX
def Lt(l:List BV):Prop:=∃v:(List BCU),(λv:List BCU=>v.length<=l.length/\∀e∈v,gdN e) v/\CQq7 69 [.d (.sl tV) l] [.d (.sl tCU) v]
instance (l:List BV):Decidable (Lt l):=Classical.propDecidable _
def Tp(l:List BV):(List BCU):=Classical.epsilon λv=>(λv:List BCU=>v.length<=l.length/\∀e∈v,gdN e) v/\CQq7 69 [.d (.sl tV) l] [.d (.sl tCU) v]
theorem Jv{l:List BV}(h:Lt l):(λv:List BCU=>v.length<=l.length/\∀e∈v,gdN e) (Tp l):=(amq h).1
def ahP:Cn 69 [(.sl tV)]:=cn λ(l:List BV)=>lf (Lt l) [.d (.sl tCU) (Tp l)] λh=>(amq h).2
theorem adF{l:List BV}(h:∀v∈l,ok (Rat×Rat) 1 v)(hl:l.length<=12):∀(j i:Nat),i+j=l.length->∀r:List BCU,(∀e∈r,gdN e)->r.length<=i->∃v,(v.length<=l.length/\∀e∈v,gdN e)/\Jk.Runs 8 (xx l (i:Int) r) [.new 75 tCU v]:=by
 intro j;induction j with
 |zero=>
  intro i hi r hr lr;refine⟨r,⟨by omega,hr⟩,yM _ _ _ ⟨0,?_⟩⟩;unfold sN;rw[aX (by omega)]
 |succ j ih=>
  intro i hi r hr lr;have hil:i<l.length:=by omega
  have e1:i64.wrap ((i:Int)+1)=((i+1:Nat):Int):=aT (by omega);obtain⟨q,hq,eq⟩:∃q,q<l.length/\Int.tmod ((i+1:Nat):Int) (l.length:Int)=(q:Int):=⟨(i+1)%l.length,ao4 _ (by omega),by rw[Int.tmod_eq_emod_of_nonneg (by omega)];rfl⟩
  obtain⟨a,ea,ba⟩:=aM (h _ (ams hil));obtain⟨b,eb,bb⟩:=aM (h _ (ams hq))
  have k1:ok (Rat×Rat) 100 l[i]/\ok (Rat×Rat) 100 l[q]:=by
   rw[ea,eb];exact⟨amj (okd (amn rfl) (by decide)),amj (okd (amn rfl) (by decide))⟩
  have es:zw (dec l[i]) (dec l[q])=zw a b:=by rw[ea,eb,au,au]
  have eB:zm (dec l[i]) (dec l[q])=zm a b:=by rw[ea,eb,au,au]
  cases hz:Bs a b
  ·have hs:(zw a b==0)=true:=by unfold zw;rw[hz];rfl
   obtain⟨v,g,n,hn⟩:=ih (i+1) (by omega) (r++[zm a b]) (λe he=>(amG.1 he).elim (hr e) λg=>by rw[amQ.1 g];exact acU hz) (by simp;omega);refine⟨v,g,yM _ _ _ ⟨n,?_⟩⟩;unfold sN;rw[aK hil,ai,amg hil,e1,eq,ai,amg hq,dF (show ¬(l.length:Int)=0 by omega)];dsimp only;rw[dT k1,es,hs,aQ,eB,dT (by simp;omega)];exact hn
  ·have hs:(zw a b==0)=false:=by unfold zw;rw[hz];rfl
   obtain⟨v,g,n,hn⟩:=ih (i+1) (by omega) r hr (by omega);refine⟨v,g,yM _ _ _ ⟨n,?_⟩⟩;unfold sN;rw[aK hil,ai,amg hil,e1,eq,ai,amg hq,dF (show ¬(l.length:Int)=0 by omega)];dsimp only;rw[dT k1,es,hs];exact hn
theorem Ry{l:List BV}(h:∀v∈l,ok (Rat×Rat) 1 v)(hl:l.length<=12):Lt l:=by
 suffices gX:∃v:(List BCU),(λv:List BCU=>v.length<=l.length/\∀e∈v,gdN e) v/\∃nX,ZO l (Jk.k nX)=some [.new 75 tCU v] from gX.elim λv h=>⟨v,h.1,Con.new_d (a8 QA (akM l h.2))⟩
 obtain⟨v,g,n,hn⟩:=adF h hl l.length 0 (amx _) [] (λe he=>by cases he) (by simp);exact⟨v,g,n,hn⟩
def LZ:List En:=[enL ajx,enL Xw,enT l9,enL Xu,enK ahP]
def abk:NT:=[((36,37),{keep:=[1,5,6],own:=[(5,121,tV)],hl:=4,pd:=3,er:=[1,2]})]
def JO:Ctx:=CX (ens LZ) abk
def wD(x:Frm)(s6:Int)(r3:List BV):Cfg:=⟨36,[.blk 1,.seq 48],[(1,.box 0 0),(5,.own 3),(6,SI s6)],[.box 94 (Ty.split (y9Y) x),.gone,.gone,.row 121 tV r3],0,[]⟩
def Tc(x:Frm)(k:KT):OLR:=og (decide (i8P x.2.2.1/\i8P x.2.2.2.1/\u8P x.2.1)) (og (decide (i8P x.2.2.2.2.1/\i8P x.2.2.2.2.2.1/\u8P x.2.1)) (match(Int.tmod x.1 3)==0 with|true=>(og (decide (Lt ([hid (enc (atF x.2.2.1 x.2.2.2.1 x.2.1)),hid ((((hid (enc (atF x.2.2.2.2.1 x.2.2.2.2.2.1 x.2.1))).1),((hid (enc (atF x.2.2.1 x.2.2.2.1 x.2.1))).2))),hid (enc (atF x.2.2.2.2.1 x.2.2.2.2.2.1 x.2.1)),hid ((((hid (enc (atF x.2.2.1 x.2.2.2.1 x.2.1))).1),((hid (enc (atF x.2.2.2.2.1 x.2.2.2.2.2.1 x.2.1))).2)))]))) (some [RV.d (.sl tCU) (Tp ([hid (enc (atF x.2.2.1 x.2.2.2.1 x.2.1)),hid ((((hid (enc (atF x.2.2.2.2.1 x.2.2.2.2.2.1 x.2.1))).1),((hid (enc (atF x.2.2.1 x.2.2.2.1 x.2.1))).2))),hid (enc (atF x.2.2.2.2.1 x.2.2.2.2.2.1 x.2.1)),hid ((((hid (enc (atF x.2.2.1 x.2.2.2.1 x.2.1))).1),((hid (enc (atF x.2.2.2.2.1 x.2.2.2.2.2.1 x.2.1))).2)))]))]))|false=>(match(Int.tmod x.1 3)==1 with|true=>(og (o1 ((hid (enc (atF x.2.2.2.2.1 x.2.2.2.2.2.1 x.2.1))).1)) (match decide ((aD (ag ((hid (enc (atF x.2.2.2.2.1 x.2.2.2.2.2.1 x.2.1))).1)) 0)<=0)with|true=>some [RV.new 75 tCU []]|false=>(og (decide (bi ((hid (enc (atF x.2.2.1 x.2.2.2.1 x.2.1))).1,((hid (enc (atF x.2.2.1 x.2.2.2.1 x.2.1))).2,(hid (enc (atF x.2.2.2.2.1 x.2.2.2.2.2.1 x.2.1))).1)))) (some [RV.d (.sl tCU) (vT ((hid (enc (atF x.2.2.1 x.2.2.2.1 x.2.1))).1,((hid (enc (atF x.2.2.1 x.2.2.2.1 x.2.1))).2,(hid (enc (atF x.2.2.2.2.1 x.2.2.2.2.2.1 x.2.1))).1)))]))))|false=>k 37 (wD x 0 ([])))))
theorem agQ(x:Frm):RS JO 36 [.d (y9Y) x] (Tc x):=rsX
def um(x:Frm)(s6:Int)(r3:List BV)(k:KT):OLR:=match decide (s6<(x.2.2.2.2.2.2.length:Int))with|true=>(match aH x.2.2.2.2.2.2 s6 with|some x1=>(match aH x.2.2.2.2.2.2 s6 with|some x2=>(og (decide (i8P x1.1/\i8P x2.2/\u8P x.2.1)) (og (decide ((r3.length+([hid (enc (atF x1.1 x2.2 x.2.1))]).length)*128<=140737488355328/\r3.length+([hid (enc (atF x1.1 x2.2 x.2.1))]).length<=140737488355328)) (k 37 (wD x (i64.wrap (s6+1)) (r3++([hid (enc (atF x1.1 x2.2 x.2.1))]))))))|none=>none)|none=>none)|false=>(og (decide (Lt r3)) (some [RV.d (.sl tCU) (Tp r3)]))
theorem zK(x:Frm)(s6:Int)(r3:List BV):RN JO 37 (wD x s6 r3) (um x s6 r3):=rnX
def OG(x:Frm):Prop:=∃v:(List BCU),(λv:List BCU=>v.length<=12/\∀e∈v,gdN e) v/\CQq7 36 [.d (y9Y) x] [.d (.sl tCU) v]
instance (x:Frm):Decidable (OG x):=Classical.propDecidable _
def Kb(x:Frm):(List BCU):=Classical.epsilon λv=>(λv:List BCU=>v.length<=12/\∀e∈v,gdN e) v/\CQq7 36 [.d (y9Y) x] [.d (.sl tCU) v]
theorem TU{x:Frm}(h:OG x):(λv:List BCU=>v.length<=12/\∀e∈v,gdN e) (Kb x):=(amq h).1
def aic:Cn 36 [(y9Y)]:=cn λ(x:Frm)=>lf (OG x) [.d (.sl tCU) (Kb x)] λh=>(amq h).2
theorem acj{x:Frm}(h:KR x)(hl:x.2.2.2.2.2.2.length<=12):∀(j i:Nat),i+j=x.2.2.2.2.2.2.length->∀r:List BV,(∀v∈r,ok (Rat×Rat) 1 v)->r.length=i->∃v,(v.length<=12/\∀e∈v,gdN e)/\JO.Runs 37 (wD x (i:Int) r) [.d (.sl tCU) v]:=by
 obtain⟨_,h2,_,_,_,_,h7⟩:=h;intro j;induction j with
 |zero=>
  intro i hi r hr lr;have p:=Ry hr (by omega);obtain⟨l1,g1⟩:=Jv p;refine⟨_,⟨by omega,g1⟩,zK _ _ _ ⟨0,?_⟩⟩;unfold um;rw[aX (by omega),dT p]
 |succ j ih=>
  intro i hi r hr lr;have hil:i<x.2.2.2.2.2.2.length:=by omega
  obtain⟨c1,c2⟩:=h7 _ (ams hil);have hb:=Hu c1 c2 h2;obtain⟨v,g,n,hn⟩:=ih (i+1) (by omega) (r++[enc (atF x.2.2.2.2.2.2[i].1 x.2.2.2.2.2.2[i].2 x.2.1)]) (λe he=>(amG.1 he).elim (hr e) λg=>by rw[amQ.1 g];exact amj (okd (amm _) (by decide))) (by simp;omega);refine⟨v,g,zK _ _ _ ⟨n,?_⟩⟩;unfold um;rw[aK hil,ai,amg hil];dsimp only;rw[dT (show i8P x.2.2.2.2.2.2[i].1/\i8P x.2.2.2.2.2.2[i].2/\u8P x.2.1 from⟨c1,c2,h2⟩),aQ,dT (by simp;omega),aT (by omega)];exact hn
theorem acJ{x:Frm}(h:KR x)(hl:x.2.2.2.2.2.2.length<=12):OG x:=by
 suffices gX:∃v:List BCU,(v.length<=12/\∀e∈v,gdN e)/\∃r,(r=.new 75 tCU v\/r=.d (.sl tCU) v)/\∃n,Tc x (JO.k n)=some [r] from by
  obtain⟨v,h1,r,hr,n,hn⟩:=gX;exact⟨v,h1,Con.dd (a8 LZ (agQ x ⟨n,hn⟩)) hr⟩
 have h0:=h;obtain⟨h1,h2,h3,h4,h5,h6,_⟩:=h;have bp:=Hu h3 h4 h2;have bq:=Hu h5 h6 h2;have k1:i8P x.2.2.1/\i8P x.2.2.2.1/\u8P x.2.1:=⟨h3,h4,h2⟩
 have k2:i8P x.2.2.2.2.1/\i8P x.2.2.2.2.2.1/\u8P x.2.1:=⟨h5,h6,h2⟩
 unfold Tc;simp only[aQ,dT k1,dT k2];generalize atF x.2.2.1 x.2.2.2.1 x.2.1=p at*
 generalize atF x.2.2.2.2.1 x.2.2.2.2.2.1 x.2.1=q at*
 have p1:Bd p.1 1:=inferInstance;have p2:Bd p.2 1:=inferInstance;have q1:Bd q.1 1:=inferInstance;have q2:Bd q.2 1:=inferInstance;have ep:enc p=(am p.1,am p.2):=rfl;have eq:enc q=(am q.1,am q.2):=rfl;cases Int.tmod x.1 3==0
 ·cases Int.tmod x.1 3==1
  ·obtain⟨v,g,n,hn⟩:=acj h0 hl x.2.2.2.2.2.2.length 0 (amx _) [] (λe he=>by cases he) rfl;exact⟨v,g,_,.inr rfl,n,hn⟩
  ·have oq:okR (enc q:BV).1:=amj (qA (q:=q.1) (j:=1) (by decide));rw[show o1 (enc q:BV).1=true from dT oq];cases hd:decide (aD (ag (enc q:BV).1) 0<=0)
   ·have hq:0<q.1:=by
     have e:ag (enc q:BV).1=q.1:=eA _;rw[e]at hd;have g:decide (aD q.1 0>0)=true:=dT (by have:=am7 hd;omega);rw[av]at g;exact amj g
    have i1:BdC ((p.1,p.2,q.1):Ln):=⟨p1.mono (by decide),p2.mono (by decide),q1.mono (by decide)⟩
    have ec:(((enc p:BV).1,((enc p:BV).2,(enc q:BV).1)):BO3)=enc ((p.1,p.2,q.1):Ln):=rfl;rw[ec,dT (jM (c:=(p.1,p.2,q.1)) hq)];refine⟨_,⟨?_,Bo (c:=(p.1,p.2,q.1)) hq⟩,_,.inr rfl,0,rfl⟩;unfold vT;simp
   ·exact⟨[],⟨by simp,λe he=>by cases he⟩,_,.inl rfl,0,rfl⟩
 ·have hb:∀v∈[(enc p:BV),((enc q:BV).1,(enc p:BV).2),enc q,((enc p:BV).1,(enc q:BV).2)],ok (Rat×Rat) 1 v:=λv hv=>by
   have e1:(((enc q:BV).1,(enc p:BV).2):BV)=enc ((q.1,p.2):Rat×Rat):=rfl;have e2:(((enc p:BV).1,(enc q:BV).2):BV)=enc ((p.1,q.2):Rat×Rat):=rfl;rw[e1,e2]at hv;simp only[amy,anW,apb]at hv;rcases hv with e|e|e|e<;>rw[e]<;>exact amj (okd (amm _) (by decide))
  have hp:=Ry hb (by simp);obtain⟨l1,g1⟩:=Jv hp;rw[dT hp];exact⟨_,⟨amt l1 (by simp),g1⟩,_,.inr rfl,0,rfl⟩
def QC:List En:=[enL aic]
def abl:NT:=[((15,8),{keep:=[0,1,6,7],own:=[(6,75,tCU)],hl:=1})]
def HY:Ctx:=CX (ens QC) abl
def Bq(s:List Frm)(n s7:Int)(r0:List BCU):Cfg:=⟨15,[.blk 0,.seq 27],[(0,.d (.sl (y9Y)) s),(1,SI n),(6,.own 0),(7,SI s7)],[.row 75 tCU r0],0,[]⟩
def Z7(s:List Frm)(n:Int)(k:KT):OLR:=k 8 (Bq s n 0 ([]))
theorem ajS(s:List Frm)(n:Int):RS HY 15 [.d (.sl (y9Y)) s,SI n] (Z7 s n):=rsX
def oH(s:List Frm)(n s7:Int)(r0:List BCU)(k:KT):OLR:=match decide (s7<(s.length:Int))with|true=>(match decide ((s.length:Int)>n)with|true=>some [RV.d (.sl tCU) ([]),RV.d .bool false]|false=>(match aH s s7 with|some x1=>(match decide ((x1.2.2.2.2.2.2.length:Int)>n)with|true=>some [RV.d (.sl tCU) ([]),RV.d .bool false]|false=>(match aH s s7 with|some x2=>(og (decide (OG x2)) (og (decide ((r0.length+(Kb x2).length)*1040<=140737488355328/\r0.length+(Kb x2).length<=140737488355328)) (k 8 (Bq s n (i64.wrap (s7+1)) (r0++(Kb x2))))))|none=>none))|none=>none))|false=>some [RV.d (.sl tCU) r0,RV.d .bool (decide ((r0.length:Int)<=n))]
theorem t4(s:List Frm)(n s7:Int)(r0:List BCU):RN HY 8 (Bq s n s7 r0) (oH s n s7 r0):=rnX
def QV(s:List Frm)(n:Int):Prop:=∃v:(List BCU)×Bool,(λv:List BCU×Bool=>(v.2=true->(v.1.length:Int)<=n)/\∀e∈v.1,gdN e) v/\CQq7 15 [.d (.sl (y9Y)) s,.d apE n] [.d (.sl tCU) v.1,.d .bool v.2]
instance (s:List Frm) (n:Int):Decidable (QV s n):=Classical.propDecidable _
def ym(s:List Frm)(n:Int):(List BCU)×Bool:=Classical.epsilon λv=>(λv:List BCU×Bool=>(v.2=true->(v.1.length:Int)<=n)/\∀e∈v.1,gdN e) v/\CQq7 15 [.d (.sl (y9Y)) s,.d apE n] [.d (.sl tCU) v.1,.d .bool v.2]
theorem Un{s:List Frm}{n:Int}(h:QV s n):(λv:List BCU×Bool=>(v.2=true->(v.1.length:Int)<=n)/\∀e∈v.1,gdN e) (ym s n):=(amq h).1
def ajp:Cn 15 [(.sl (y9Y)),apE]:=cn λ(s:List Frm) (n:Int)=>lf (QV s n) [.d (.sl tCU) ((ym s n).1),.d .bool ((ym s n).2)] λh=>(amq h).2
theorem aaR{s:List Frm}{n:Int}(h:∀x∈s,KR x)(hn:n<=12):∀(j i:Nat),i+j=s.length->∀r:List BCU,(∀e∈r,gdN e)->r.length<=12*i->(i=0\/(s.length:Int)<=n)->∃v:List BCU×Bool,((v.2=true->(v.1.length:Int)<=n)/\∀e∈v.1,gdN e)/\HY.Runs 8 (Bq s n (i:Int) r) [.d (.sl tCU) v.1,.d .bool v.2]:=by
 intro j;induction j with
 |zero=>
  intro i hi r hr lr _;refine⟨(r,decide ((r.length:Int)<=n)),⟨λg=>amj g,hr⟩,t4 _ _ _ _ ⟨0,?_⟩⟩;unfold oH;rw[aX (by omega)]
 |succ j ih=>
  intro i hi r hr lr _;have hil:i<s.length:=by omega
  have hx:=h _ (ams hil);have no:∀{q:Bool},q=false->((([],q):List BCU×Bool).2=true->((([],q):List BCU×Bool).1.length:Int)<=n)/\∀e∈(([],q):List BCU×Bool).1,gdN e:=λhq=>⟨(λg=>by rw[hq]at g;cases g),(λe he=>by cases he)⟩
  by_cases h1:(s.length:Int)>n
  ·refine⟨([],false),no rfl,t4 _ _ _ _ ⟨0,?_⟩⟩;unfold oH;rw[aK hil,dT h1]
  ·by_cases h2:(s[i].2.2.2.2.2.2.length:Int)>n
   ·refine⟨([],false),no rfl,t4 _ _ _ _ ⟨0,?_⟩⟩;unfold oH;rw[aK hil,dF h1,ai,amg hil];dsimp only;rw[dT h2]
   ·have p:=acJ hx (by omega);obtain⟨l1,g1⟩:=TU p;obtain⟨v,g,m,hm⟩:=ih (i+1) (by omega) (r++Kb s[i]) (λe he=>(amG.1 he).elim (hr e) (g1 e)) (by simp;omega) (.inr (by omega));refine⟨v,g,t4 _ _ _ _ ⟨m,?_⟩⟩;unfold oH;rw[aK hil,dF h1,ai,amg hil];dsimp only;rw[dF h2];dsimp only;rw[dT p,dT (by omega),aT (by omega)];exact hm
theorem acW{s:List Frm}{n:Int}(h:∀x∈s,KR x)(hn:n<=12):QV s n:=by
 suffices gX:∃v:(List BCU)×Bool,(λv:List BCU×Bool=>(v.2=true->(v.1.length:Int)<=n)/\∀e∈v.1,gdN e) v/\∃nX,Z7 s n (HY.k nX)=some [.d (.sl tCU) v.1,.d .bool v.2] from gX.elim λv h=>⟨v,h.1,a8 QC (ajS s n h.2)⟩
 obtain⟨v,g,m,hm⟩:=aaR h hn s.length 0 (amx _) [] (λe he=>by cases he) (by simp) (.inl rfl);exact⟨v,g,m,hm⟩
def SU:List En:=[enK ajp,enK aio]
def Ph(s:List Frm)(n:Int)(_k:KT):OLR:=og (decide (QV s n)) (match !((ym s n).2)with|true=>some [RV.d (.st (.sl tCU)) ([]),RV.d .bool false]|false=>(og (decide (Nt ((ym s n).1))) (match((Dy ((ym s n).1)).2)==0 with|true=>dup (.b .l .l) (some [RV.d (.st (.sl tCU)) ((Dy ((ym s n).1)).1),RV.d .bool (decide ((((Dy ((ym s n).1)).1).length:Int)<=n))])|false=>dup (.b .l .l) (some [RV.d (.st (.sl tCU)) ((Dy ((ym s n).1)).1),RV.d .bool false]))))
def KG(s:List Frm)(n:Int):Prop:=∃v:(List BCU)×Bool,(λv:List BCU×Bool=>v.1.length<=10000/\∀e∈v.1,gM e) v/\CQq7 6 [.d (.sl (y9Y)) s,.d apE n] [.d (.st (.sl tCU)) v.1,.d .bool v.2]
instance (s:List Frm) (n:Int):Decidable (KG s n):=Classical.propDecidable _
def zq(s:List Frm)(n:Int):(List BCU)×Bool:=Classical.epsilon λv=>(λv:List BCU×Bool=>v.1.length<=10000/\∀e∈v.1,gM e) v/\CQq7 6 [.d (.sl (y9Y)) s,.d apE n] [.d (.st (.sl tCU)) v.1,.d .bool v.2]
theorem Tl{s:List Frm}{n:Int}(h:KG s n):(λv:List BCU×Bool=>v.1.length<=10000/\∀e∈v.1,gM e) (zq s n):=(amq h).1
def aif:Cn 6 [(.sl (y9Y)),apE]:=cn λ(s:List Frm) (n:Int)=>lf (KG s n) [.d (.st (.sl tCU)) ((zq s n).1),.d .bool ((zq s n).2)] λh=>(amq h).2
theorem acY{s:List Frm}{n:Int}(h:∀x∈s,KR x)(hn:n<=12):KG s n:=by
 suffices gX:∃v:(List BCU)×Bool,(λv:List BCU×Bool=>v.1.length<=10000/\∀e∈v.1,gM e) v/\Ph s n ((CX (ens SU) []).k 0)=some [.d (.st (.sl tCU)) v.1,.d .bool v.2] from gX.elim λv h=>⟨v,h.1,aA SU (Ph s n) ⟨0,h.2⟩⟩
 have p:=acW h hn;obtain⟨l1,g1⟩:=Un p;unfold Ph;rw[dT p];simp only[da];cases hb:(ym s n).2
 ·exact⟨([],false),⟨by simp,λe he=>by cases he⟩,rfl⟩
 ·have:=l1 hb;have p2:=acB g1 (by omega);have g2:=U1 p2;rw[dT p2];cases(Dy (ym s n).1).2==0
  ·exact⟨(_,_),g2,rfl⟩
  ·exact⟨(_,_),g2,rfl⟩
end
def Sr:List En:=[enK uz]
def adE:NT:=[((27,6),{keep:=[1,3],hl:=1})]
def Iz:Ctx:=CX (ens Sr) adE
def Bz(x:BI)(s3:Int):Cfg:=⟨27,[.blk 0,.seq 23],[(1,.box 0 0),(3,SI s3)],[.box 26 [SB x.1,.d apD x.2]],0,[]⟩
def WF(x:BI)(k:KT):OLR:=k 6 (Bz x 0)
theorem ahD(x:BI):RS Iz 27 [.d tI x] (WF x):=rsX
def np(x:BI)(s3:Int)(k:KT):OLR:=match decide (s3<(x.2.length:Int))with|true=>(match aH x.2 s3 with|some x1=>(match decide (x1>=1000000000)with|true=>some [RV.d .bool false]|false=>k 6 (Bz x (i64.wrap (s3+1))))|none=>none)|false=>(og (decide (aN x.2)) (match((ae (val x.2).toNat).length:Int)==(x.2.length:Int)with|true=>(match !x.1 with|true=>some [RV.d .bool true]|false=>some [RV.d .bool (decide ((x.2.length:Int)>0))])|false=>some [RV.d .bool false]))
theorem pg(x:BI)(s3:Int):RN Iz 6 (Bz x s3) (np x s3):=rnX
def KF(x:BI):Prop:=∃v:Bool,(λb:Bool=>b=true->okI x) v/\CQq7 27 [.d tI x] [.d .bool v]
instance (x:BI):Decidable (KF x):=Classical.propDecidable _
def Kt(x:BI):Bool:=Classical.epsilon λv=>(λb:Bool=>b=true->okI x) v/\CQq7 27 [.d tI x] [.d .bool v]
theorem Ir{x:BI}(h:KF x):(λb:Bool=>b=true->okI x) (Kt x):=(amq h).1
def afs:Cn 27 [tI]:=cn λ(x:BI)=>lf (KF x) [.d .bool (Kt x)] λh=>(amq h).2
theorem adl{x:BI}(h:∀l∈x.2,0<=l)(hl:x.2.length<=1000):∀(j i:Nat),i+j=x.2.length->(∀k (hk:k<x.2.length),k<i->x.2[k]<1000000000)->∃b:Bool,(b=true->okI x)/\Iz.Runs 6 (Bz x (i:Int)) [.d .bool b]:=by
 intro j;induction j with
 |zero=>
  intro i hi hb
  have lm:Lim x.2:=λl hl'=>by
   obtain⟨k,hk,rfl⟩:=an0 hl';exact⟨h _ hl',hb k hk (by omega)⟩
  cases q1:((ae (val x.2).toNat).length:Int)==(x.2.length:Int)
  ·refine⟨false,(λe=>by cases e),pg _ _ ⟨0,?_⟩⟩;unfold np;rw[aX (by omega),dT (show aN x.2 from⟨lm,by omega⟩),q1]
  ·have e:=amW.1 q1;have hv:=aL lm;have e2:ae (val x.2).toNat=x.2:=wC (bS _) lm (by omega) (by rw[bG];omega);have hc:can x.2:=by rw[<-e2];exact dK _
   cases q2:x.1
   ·refine⟨true,λ_=>⟨hc,(λg=>by rw[q2]at g;cases g),by omega⟩,pg _ _ ⟨0,?_⟩⟩;unfold np;rw[aX (by omega),dT (show aN x.2 from⟨lm,by omega⟩),q1,q2];rfl
   ·refine⟨decide ((x.2.length:Int)>0),λg=>⟨hc,λ_ g2=>?_,by omega⟩,pg _ _ ⟨0,?_⟩⟩
    ·have:=amj g;rw[g2]at this;simp at this
    ·unfold np;rw[aX (by omega),dT (show aN x.2 from⟨lm,by omega⟩),q1,q2];rfl
 |succ j ih=>
  intro i hi hb;have hil:i<x.2.length:=by omega
  by_cases q:x.2[i]>=1000000000
  ·refine⟨false,(λe=>by cases e),pg _ _ ⟨0,?_⟩⟩;unfold np;rw[aK hil,ai,amg hil];dsimp only;rw[dT q]
  ·obtain⟨b,g,n,hn⟩:=ih (i+1) (by omega) (λk hk hki=>by
    by_cases e:k=i
    ·subst e;omega
    ·exact hb k hk (by omega))
   refine⟨b,g,pg _ _ ⟨n,?_⟩⟩;unfold np;rw[aK hil,ai,amg hil];dsimp only;rw[dF q,aT (by omega)];exact hn
theorem PW{x:BI}(h:∀l∈x.2,0<=l)(hl:x.2.length<=1000):KF x:=by
 suffices gX:∃v:Bool,(λb:Bool=>b=true->okI x) v/\∃n,WF x (Iz.k n)=some [.d .bool v] from gX.elim λv h=>⟨v,h.1,a8 Sr (ahD x h.2)⟩
 obtain⟨b,g,n,hn⟩:=adl h hl x.2.length 0 (amx _) (λk _ hk=>absurd hk (Nat.not_lt_zero k));exact⟨b,g,n,hn⟩
def L6:List En:=[enL afs,enT Gv,enL Hk,enL FU,enT Cy]
def Oj(a:BR)(_k:KT):OLR:=og (decide (KF a.1)) (match !(Kt a.1)with|true=>some [RV.d .bool false]|false=>(og (decide (KF a.2)) (match !(Kt a.2)with|true=>some [RV.d .bool false]|false=>(og (decide (okI a.2)) (match(bV (ab a.2) 0) !=1 with|true=>some [RV.d .bool false]|false=>(og (decide (okI a.1/\okI a.2)) (og (decide (okI (hid (ah ((Int.gcd (ab a.1) (ab a.2):Nat):Int)))/\okI (hid (ah 1)))) (some [RV.d .bool (decide (ab (hid (ah ((Int.gcd (ab a.1) (ab a.2):Nat):Int)))=ab (hid (ah 1))))]))))))))
def QO(a:BR):Prop:=∃v:Bool,(λb:Bool=>b=true->okR a) v/\CQq7 10 [.d tR a] [.d .bool v]
instance (a:BR):Decidable (QO a):=Classical.propDecidable _
def act(a:BR):Bool:=Classical.epsilon λv=>(λb:Bool=>b=true->okR a) v/\CQq7 10 [.d tR a] [.d .bool v]
theorem TX{a:BR}(h:QO a):(λb:Bool=>b=true->okR a) (act a):=(amq h).1
def akx:Cn 10 [tR]:=cn λ(a:BR)=>lf (QO a) [.d .bool (act a)] λh=>(amq h).2
theorem aeJ{a:BR}(h1:∀l∈a.1.2,0<=l)(l1:a.1.2.length<=1000)(h2:∀l∈a.2.2,0<=l)(l2:a.2.2.length<=1000):QO a:=by
 suffices gX:∃v:Bool,(λb:Bool=>b=true->okR a) v/\Oj a ((CX (ens L6) []).k 0)=some [.d .bool v] from gX.elim λv h=>⟨v,h.1,aA L6 (Oj a) ⟨0,h.2⟩⟩
 have p1:=PW h1 l1;have p2:=PW h2 l2;have o1:=Ir p1;have o2:=Ir p2;unfold Oj;rw[dT p1];cases q1:Kt a.1
 ·exact⟨false,(λe=>by cases e),rfl⟩
 rw[dT p2];cases q2:Kt a.2
 ·exact⟨false,(λe=>by cases e),rfl⟩
 have k1:=o1 q1;have k2:=o2 q2;rw[dT k2];cases q3:bV (ab a.2) 0 !=1
 ·have hp:0<ab a.2:=by
   have:=bne_eq_false_iff_eq.1 q3;unfold bV at this;cases h1:decide (ab a.2<0)<;>rw[h1]at this
   ·cases h2:decide (0<ab a.2)<;>rw[h2]at this
    ·cases this
    ·exact amj h2
   ·cases this
  have og:okI (ah ((Int.gcd (ab a.1) (ab a.2):Nat):Int)):=by
   have hg:Int.gcd (ab a.1) (ab a.2)<=(ab a.2).natAbs:=Nat.gcd_le_right _ (by omega);exact aS (amt (dm (by omega)) (gK k2))
  simp only[aQ];rw[dT (show okI a.1/\okI a.2 from⟨k1,k2⟩),dT (show okI (ah ((Int.gcd (ab a.1) (ab a.2):Nat):Int))/\okI (ah 1) from⟨og,iR⟩),dec_enc,dec_enc];refine⟨_,λg=>⟨k1,k2,hp,by have:=amj g;omega,by omega,by omega⟩,rfl⟩
 ·exact⟨false,(λe=>by cases e),rfl⟩
def Tb:List En:=[enL akx]
def FP(a:BR)(n:Int)(_k:KT):OLR:=match decide ((a.1.2.length:Int)<=n)with|true=>(match decide ((a.2.2.length:Int)<=n)with|true=>(og (decide (QO a)) (some [RV.d .bool (act a)]))|false=>some [RV.d .bool false])|false=>some [RV.d .bool false]
def qG(a:BR)(n:Int):Prop:=∃v:Bool,(λb:Bool=>b=true->okR a/\(a.1.2.length:Int)<=n/\(a.2.2.length:Int)<=n) v/\CQq7 4 [.d tR a,.d apE n] [.d .bool v]
instance (a:BR) (n:Int):Decidable (qG a n):=Classical.propDecidable _
def lP(a:BR)(n:Int):Bool:=Classical.epsilon λv=>(λb:Bool=>b=true->okR a/\(a.1.2.length:Int)<=n/\(a.2.2.length:Int)<=n) v/\CQq7 4 [.d tR a,.d apE n] [.d .bool v]
theorem xS{a:BR}{n:Int}(h:qG a n):(λb:Bool=>b=true->okR a/\(a.1.2.length:Int)<=n/\(a.2.2.length:Int)<=n) (lP a n):=(amq h).1
def adv:Cn 4 [tR,apE]:=cn λ(a:BR) (n:Int)=>lf (qG a n) [.d .bool (lP a n)] λh=>(amq h).2
theorem Co{a:BR}{n:Int}(h1:∀l∈a.1.2,0<=l)(h2:∀l∈a.2.2,0<=l)(hn:n<=1000):qG a n:=by
 suffices gX:∃v:Bool,(λb:Bool=>b=true->okR a/\(a.1.2.length:Int)<=n/\(a.2.2.length:Int)<=n) v/\FP a n ((CX (ens Tb) []).k 0)=some [.d .bool v] from gX.elim λv h=>⟨v,h.1,aA Tb (FP a n) ⟨0,h.2⟩⟩
 unfold FP;by_cases q1:(a.1.2.length:Int)<=n
 ·rw[dT q1];by_cases q2:(a.2.2.length:Int)<=n
  ·have p:=aeJ h1 (by omega) h2 (by omega);rw[dT q2,dT p];exact⟨_,λg=>⟨TX p g,q1,q2⟩,rfl⟩
  ·rw[dF q2];exact⟨false,(λe=>by cases e),rfl⟩
 ·rw[dF q1];exact⟨false,(λe=>by cases e),rfl⟩
section
open RE
abbrev Ftr:Type:=ByteArray×Int×Int×List BCU
def wnF(a:BR):Int:=bif decide (aR (ab a.1))then ab a.1 else 0
def wbF(a:BR):Bool:=decide (aR (ab a.1))&&(decide (ab a.1=wnF a)&&decide (ab a.2=1))
def jG(n:Int):Bool:=decide (n>= -10000000)&&decide (n<=10000000)
def MZ(n:Int):Bool:=decide (n>=1)&&decide (n<=10000000)
def pC(r s:List BCU):Bool:=decide (r.length=s.length)&&(r.zip s).all λx=>jh (dC x.1) (dC x.2)
def HC(r s:List BCU):Prop:=r.length<=1000000/\(∀x∈r,mG x)/\∀x∈s,mG x
instance (r s:List BCU):Decidable (HC r s):=Classical.propDecidable _
def rm(f:Ftr):BO3:=(f.2.2.2.headD c00).2.2.1
def QZ(f:Ftr):Bool:=bif decide (f.2.1=3/\f.2.2.2.length=2/\(f.2.2.2.headD c00).1=true)then
  (wbF (rm f).1&&jG (wnF (rm f).1))&&((wbF (rm f).2.1&&jG (wnF (rm f).2.1))&&(dP (ag (rm f).2.2)&&((wbF (rtB (ag (rm f).2.2))&&(jG (wnF (rtB (ag (rm f).2.2)))&&!decide (wnF (rtB (ag (rm f).2.2))<1)))&&pC f.2.2.2 [loN (rm f),upN (rm f)])))else false
def DM(f:Ftr):Int×Int:=bif QZ f then(wnF (rm f).1,wnF (rm f).2.1)else(0,0)
def K6(f:Ftr):Int:=bif QZ f then wnF (rtB (ag (rm f).2.2))else 0
def Ke(f:Ftr):Int:=bif QZ f then 0 else 1
def zj(f:Ftr):Prop:=f.2.2.2.length<=10000/\∀e∈f.2.2.2,mG e
instance (f:Ftr):Decidable (zj f):=Classical.propDecidable _
def zu(x y q:BR)(n:Int):Ftr:=(⟨#[104]⟩,3,n,zx (x,(y,q)))
theorem VS(n:Int):MZ n=(jG n&&!decide (n<1)):=by
 unfold MZ jG;rw[apn];simp;omega
theorem acz{a:Cv}{l m x:Ln}{w f t}:cf a (true,l,x,w,f,t)=cf a (true,m,x,w,f,t):=by
 unfold cf;cases a.1<;>rfl
theorem QX{a:Cv}{l m x:Ln}{w f t}:jh a (true,l,x,w,f,t)=jh a (true,m,x,w,f,t):=by
 unfold jh;rw[acz (m:=m)];rfl
theorem Ng(a b:Cv):cf a b=cf b a:=by
 cases h:cf a b<;>cases h':cf b a
 ·rfl
 ·rw[BW h']at h;cases h
 ·rw[BW h]at h';cases h'
 ·rfl
theorem PY{a b:BCU}(ha:mG a)(hb:mG b):jh (dC a) (dC b)=jh (dC b) (dC a):=by
 have r1:Rpd (frC (dC a)):=co ha.1.2.2.1;have r2:Rpd (toC (dC a)):=co ha.1.2.2.2;have r3:Rpd (frC (dC b)):=co hb.1.2.2.1;have r4:Rpd (toC (dC b)):=co hb.1.2.2.2
 have z:∀{p q:Pt},Rpd p->Rpd q->(aB p q==0)=(aB q p==0):=λ{p q} _ _=>by
  rw[kj,apn];simp only[amW];omega
 unfold jh;rw[Ng,z r1 r3,z r2 r4,show(cwC (dC a)==cwC (dC b))=(cwC (dC b)==cwC (dC a)) from Bool.beq_comm]
theorem NL{r s:List BCU}(hr:∀x∈r,mG x)(hs:∀x∈s,mG x):pC r s=pC s r:=by
 unfold pC;rw[show decide (r.length=s.length)=decide (s.length=r.length) from aoI.2 ⟨Eq.symm,Eq.symm⟩];congr 1;induction r generalizing s with
 |nil=>cases s<;>rfl
 |cons x r ih=>
  cases s with
  |nil=>rfl
  |cons y s=>
   rw[aoP,aoP,anu,anu,PY (hr x (by simp)) (hs y (by simp)),ih (λz hz=>hr z (amv _ hz)) (λz hz=>hs z (amv _ hz))]
theorem ahe{r:List BCU}{c:BO3}:pC r [loM c,upM c]=pC r [loN c,upN c]:=by
 have e1:∀a,jh a (dC (loM c))=jh a (dC (loN c)):=λa=>by
  have:dC (loM c)=((true,dec l0B,dec c,false,frC (dC (loN c)),toC (dC (loN c))):Cv):=by
   show((true,dec l0B,dec c,false,dec (enc (dS (dec c))),dec (enc (eu (dec c)))):Cv)=_;rw[gZ.1,gZ.2];rfl
  rw[this];exact QX
 have e2:∀a,jh a (dC (upM c))=jh a (dC (upN c)):=λa=>by
  have:dC (upM c)=((true,dec l0B,dec c,true,frC (dC (upN c)),toC (dC (upN c))):Cv):=by
   show((true,dec l0B,dec c,true,dec (enc (dS (dec c))),dec (enc (eu (dec c)))):Cv)=_;rw[gZ.1,gZ.2];rfl
  rw[this];exact QX
 unfold pC;congr 1;match r with
 |[]=>rfl
 |[a]=>simp only[aoP,List.zip_nil_left,anu,List.all_nil,e1]
 |a::b::r=>simp only[aoP,List.zip_nil_right,anu,List.all_nil,e1,e2]
theorem NC:okI (false,[]):=by decide
theorem HI{l:List BCU}(h:l.length=2):∃a b,l=[a,b]:=by
 cases l with
 |nil=>simp at h
 |cons a l=>cases l with
  |nil=>simp at h
  |cons b l=>cases l with
   |nil=>exact⟨a,b,rfl⟩
   |cons c l=>simp at h
def eqD(r s:List BCU)(i:Nat):Bool:=((r.drop i).zip (s.drop i)).all λx=>jh (dC x.1) (dC x.2)
theorem DC{r s:List BCU}(h:r.length=s.length){i:Nat}(hi:i<r.length):eqD r s i=(jh (dC r[i]) (dC (s[i]'(h▸hi)))&&eqD r s (i+1)):=by
 unfold eqD;rw[amz hi,amz (show i<s.length from h▸hi),aoP,anu]
theorem JJ{k:Nat}{x:BR}(h:ok Rat k x):Bd (ag x) k:=⟨(Cod.ok_dec (α:=Rat) k x h).2⟩
def Of:List En:=[enT P6,⟨46,jJ,fq⟩,⟨47,io,eL⟩]
def aeR:NT:=[((18,5),{keep:=[1,2,3,4,5,12,13,14,15,16,17,18,19,20,21,22,23,24],hl:=0})]
def akJ:Ctx:=CX (ens Of) aeR
def aaj(a:BR)(_k:KT):OLR:=og (decide (okI a.1)) (match decide (aR (ab a.1))with|true=>(og (decide (aR (bif decide (aR (ab a.1))then ab a.1 else 0))) (og (o2 a (hid (am (((bif decide (aR (ab a.1))then ab a.1 else 0):Int):Rat)))) (match(aD (ag a) (ag (hid (am (((bif decide (aR (ab a.1))then ab a.1 else 0):Int):Rat)))))==0 with|true=>(match decide ((bif decide (aR (ab a.1))then ab a.1 else 0)>=(-10000000))with|true=>some [RV.d apE (bif decide (aR (ab a.1))then ab a.1 else 0),RV.d .bool (decide ((bif decide (aR (ab a.1))then ab a.1 else 0)<=10000000))]|false=>some [RV.d apE (bif decide (aR (ab a.1))then ab a.1 else 0),RV.d .bool false])|false=>some [RV.d apE (bif decide (aR (ab a.1))then ab a.1 else 0),RV.d .bool false])))|false=>some [RV.d apE (bif decide (aR (ab a.1))then ab a.1 else 0),RV.d .bool false])
theorem afr(a:BR):RS akJ 18 [.d tR a] (aaj a):=rsX
def ajC:Cn 18 [tR]:=cn λ(a:BR)=>lf (okR a) [.d apE (wnF a),.d .bool (wbF a&&jG (wnF a))] λh=>by
 refine a8 Of (afr _ ⟨0,?_⟩);obtain⟨n1,n2⟩:=cJ h
 have hw:aR (wnF a):=by
  unfold wnF;by_cases hd:aR (ab a.1)
  ·rw[dT hd];exact hd
  ·rw[dF hd];show aR 0;exact⟨by decide,by decide⟩
 have on:okR (am (wnF a:Rat)):=amj (qA (q:=(wnF a:Rat)) (h:=dZ hw) (by decide))
 have ec:(aD (ag a) (wnF a:Rat)==0)=(decide (ab a.1=wnF a)&&decide (ab a.2=1)):=by
  rw[ao,apn];simp only[aml,aoB];constructor
  ·intro e;rw[e]at n1 n2;exact⟨n1.symm,n2.symm⟩
  ·rintro ⟨e1,e2⟩
   refine Rat.ext (n1.trans e1) ?_;have:((ag a).den:Int)=1:=n2.trans e2;show(ag a).den=1;omega
 unfold aaj wbF jG;rw[dT h.1];show(match decide (aR (ab a.1))with|true=>og (decide (aR (wnF a))) (og (o2 a (hid (am (wnF a:Rat)))) (match aD (ag a) (ag (hid (am (wnF a:Rat))))==0 with|true=>(match decide (wnF a>= -10000000)with|true=>some [RV.d apE (wnF a),RV.d .bool (decide (wnF a<=10000000))]|false=>some [RV.d apE (wnF a),RV.d .bool false])|false=>some [RV.d apE (wnF a),RV.d .bool false]))|false=>some [RV.d apE (wnF a),RV.d .bool false])=_;rw[aQ,dT hw,show o2 a (am (wnF a:Rat))=true from dT ⟨h,on⟩,eA,ec];cases decide (aR (ab a.1))
 ·rfl
 ·cases decide (ab a.1=wnF a)
  ·rfl
  ·cases decide (ab a.2=1)
   ·rfl
   ·cases decide (wnF a>= -10000000)<;>rfl
def Rc:List En:=[enL xM,enT GP,enF xB]
def acC:Ctx:=CX (ens Rc) []
def Od(x:BI)(_k:KT):OLR:=og (decide (aR ((-9223372036854775808):Int))) (og (decide (aR (9223372036854775807:Int))) (og (decide (okI x/\okI (hid (ah ((-9223372036854775808):Int))))) (match decide ((bV (ab x) (ab (hid (ah ((-9223372036854775808):Int)))))<0)with|true=>some [RV.d apE 0,RV.d .bool false]|false=>(og (decide (okI x/\okI (hid (ah (9223372036854775807:Int))))) (match decide ((bV (ab x) (ab (hid (ah (9223372036854775807:Int)))))>0)with|true=>some [RV.d apE 0,RV.d .bool false]|false=>(og (decide (qy x.2)) (match x.1 with|true=>some [RV.d apE (i64.wrap (0-(i64.wrap (val x.2)))),RV.d .bool true]|false=>some [RV.d apE (i64.wrap (val x.2)),RV.d .bool true])))))))
theorem aco(x:BI):RS acC 54 [.d tI x] (Od x):=rsX
def adN:Cn 54 [tI]:=cn λ(x:BI)=>lf (okI x) [.d apE (bif decide (aR (ab x))then ab x else 0),.d .bool (decide (aR (ab x)))] λh=>by
 refine a8 Rc (aco _ ⟨0,?_⟩);obtain⟨x0,x1,x2⟩:=cp h;have o1:okI x/\okI (ah (-9223372036854775808)):=⟨h,by decide⟩
 have o2:okI x/\okI (ah 9223372036854775807):=⟨h,by decide⟩
 have hd:ab x=bif x.1 then-val x.2 else val x.2:=rfl;unfold Od;simp only[aQ,dec_enc];rw[dT (show aR (-9223372036854775808) by decide),dT (show aR 9223372036854775807 by decide),dT o1];by_cases h1:ab x< -9223372036854775808
 ·rw[cQ h1,dF (show ¬aR (ab x) from λg=>by have:=g.1;omega)];rfl
 have c1:decide (bV (ab x) (-9223372036854775808)<0)=false:=by
  rcases aou (show-9223372036854775808<=ab x by omega)with g|g
  ·rw[cq g];rfl
  ·rw[<-g,dB];rfl
 rw[c1,dT o2];by_cases h2:9223372036854775807<ab x
 ·rw[cq h2,dF (show ¬aR (ab x) from λg=>by have:=g.2;omega)];rfl
 have c2:decide (bV (ab x) 9223372036854775807>0)=false:=by
  rcases aou (show ab x<=9223372036854775807 by omega)with g|g
  ·rw[cQ g];rfl
  ·rw[g,dB];rfl
 have hp:aR (ab x):=⟨by omega,by omega⟩
 have hvv:val x.2<=9223372036854775808:=by
  cases hb:x.1<;>rw[hb]at hd<;>simp only[cond_true,cond_false]at hd<;>omega
 rw[c2,dT (show qy x.2 from⟨⟨h.1.1,amt h.2.2 (by decide)⟩,by omega⟩),dT hp];cases hb:x.1<;>rw[hb]at hd<;>simp only[cond_true,cond_false]at hd
 ·show some [RV.d apE (i64.wrap (val x.2)),RV.d .bool true]=some [RV.d apE (ab x),RV.d .bool true];rw[aO (by omega) (by omega),hd]
 ·have:=x1 hb
  have e:i64.wrap (0-i64.wrap (val x.2))=ab x:=by
   rw[IntKind.wrap_i64,IntKind.wrap_i64];omega
  show some [RV.d apE (i64.wrap (0-i64.wrap (val x.2))),RV.d .bool true]=some [RV.d apE (ab x),RV.d .bool true];rw[e]
def RG:List En:=[enT adN,enL ru,enT Cy]
def acl:NT:=[((22,5),{keep:=[1,2,3,4,5,12,13,14,15,16,17,18,19],hl:=0})]
def aiL:Ctx:=CX (ens RG) acl
def Xa(a:BR)(_k:KT):OLR:=og (decide (okI a.1)) (match decide (aR (ab a.1))with|true=>(og (decide (aR (bif decide (aR (ab a.1))then ab a.1 else 0))) (og (decide (okI a.1/\okI ((hid (am (((bif decide (aR (ab a.1))then ab a.1 else 0):Int):Rat))).1))) (match decide (ab a.1=ab ((hid (am (((bif decide (aR (ab a.1))then ab a.1 else 0):Int):Rat))).1))with|true=>(og (decide (okI a.2/\okI ((hid (am (((bif decide (aR (ab a.1))then ab a.1 else 0):Int):Rat))).2))) (some [RV.d apE (bif decide (aR (ab a.1))then ab a.1 else 0),RV.d .bool (decide (ab a.2=ab ((hid (am (((bif decide (aR (ab a.1))then ab a.1 else 0):Int):Rat))).2)))]))|false=>some [RV.d apE (bif decide (aR (ab a.1))then ab a.1 else 0),RV.d .bool false])))|false=>some [RV.d apE (bif decide (aR (ab a.1))then ab a.1 else 0),RV.d .bool false])
theorem aks(a:BR):RS aiL 22 [.d tR a] (Xa a):=rsX
def agS:Cn 22 [tR]:=cn λ(a:BR)=>lf (okI a.1/\okI a.2) [.d apE (wnF a),.d .bool (wbF a)] λh=>by
 refine a8 RG (aks _ ⟨0,?_⟩);obtain⟨h1,h2⟩:=h;have e1:(am (wnF a:Rat)).1=ah (wnF a):=by show ah ((wnF a:Rat)).num=_;rfl
 have e2:(am (wnF a:Rat)).2=ah 1:=by show ah ((((wnF a:Rat)).den:Nat):Int)=_;rfl
 have hw:aR (wnF a):=by
  unfold wnF;by_cases hd:aR (ab a.1)
  ·rw[dT hd];exact hd
  ·rw[dF hd];show aR 0;exact⟨by decide,by decide⟩
 have hz:szI (wnF a)<=3:=(dZ hw).le.1;have o1:okI (ah (wnF a)):=aS (amt hz (by decide));unfold Xa wbF;rw[dT h1];show(match decide (aR (ab a.1))with|true=>og (decide (aR (wnF a))) (og (decide (okI a.1/\okI (hid (am (wnF a:Rat))).1)) (match decide (ab a.1=ab (hid (am (wnF a:Rat))).1)with|true=>og (decide (okI a.2/\okI (hid (am (wnF a:Rat))).2)) (some [RV.d apE (wnF a),RV.d .bool (decide (ab a.2=ab (hid (am (wnF a:Rat))).2))])|false=>some [RV.d apE (wnF a),RV.d .bool false]))|false=>some [RV.d apE (wnF a),RV.d .bool false])=_;rw[aQ,e1,e2,dT hw,dT (show okI a.1/\okI (ah (wnF a)) from⟨h1,o1⟩),dT (show okI a.2/\okI (ah 1) from⟨h2,iR⟩),dec_enc,dec_enc];cases decide (aR (ab a.1))
 ·rfl
 ·cases decide (ab a.1=wnF a)<;>rfl
def GM:List En:=[enT ahf]
def TL:NT:=[((52,14),{keep:=[1,2,15,16,17],hl:=2}),((21,3),{keep:=[9],hl:=0})]
def Gr:Ctx:=CX (ens GM) TL
def lA(r s:List BCU)(s52_17:Int):Cfg:=⟨52,[.blk 0,.seq 35],[(1,.d (.sl tCU) s),(2,.clo 53 []),(15,.d (.sl tCU) r),(16,SI (r.length:Int)),(17,SI s52_17)],[.box 35 [.d (.sl tCU) r],.box 35 [.d (.sl tCU) s]],2,[⟨21,[.seq 4],3,4,[],0,none⟩]⟩
def FK(r s:List BCU)(k:KT):OLR:=match(r.length:Int) !=(s.length:Int)with|true=>some [RV.d .bool false]|false=>k 14 (lA r s 0)
theorem Rm(r s:List BCU):RS Gr 21 [.d (.st (.sl tCU)) r,.d (.st (.sl tCU)) s] (FK r s):=rsX
def mg(r s:List BCU)(s52_17:Int)(k:KT):OLR:=match decide (s52_17<(r.length:Int))with|true=>(match aH r s52_17 with|some x1=>(match aH s s52_17 with|some x2=>(og (decide (fU x1 x2)) (match !(jh (dC x1) (dC x2))with|true=>some [RV.d .bool false]|false=>k 14 (lA r s (i64.wrap (s52_17+1)))))|none=>none)|none=>none)|false=>some [RV.d .bool true]
theorem qP(r s:List BCU)(s52_17:Int):RN Gr 14 (lA r s s52_17) (mg r s s52_17):=rnX
theorem UO{r s:List BCU}(hr:∀x∈r,mG x)(hs:∀x∈s,mG x)(hl:r.length=s.length)(h6:r.length<=1000000):∀(j i:Nat),i+j=r.length->Gr.Runs 14 (lA r s (i:Int)) [.d .bool (eqD r s i)]:=by
 intro j;induction j with
 |zero=>
  intro i hi;refine qP _ _ _ ⟨0,?_⟩;unfold mg;rw[dF (show ¬(i:Int)<(r.length:Int) by omega)];dsimp only;rw[show eqD r s i=true from by unfold eqD;rw[am0 (by omega)];rfl]
 |succ j ih=>
  intro i hi;have hi1:i<r.length:=by omega
  have hi2:i<s.length:=by omega
  obtain⟨n,hn⟩:=ih (i+1) (by omega);refine qP _ _ _ ⟨n,?_⟩;unfold mg;rw[dT (show(i:Int)<(r.length:Int) by omega),ai,amg hi1,ai,amg hi2,aT (k:=i) (by omega)];dsimp only;rw[dT (show fU r[i] s[i] from⟨hr _ (ams hi1),hs _ (ams hi2)⟩),DC hl hi1];cases jh (dC r[i]) (dC s[i])
  ·rfl
  ·exact hn
def aeS:Cn 21 [(.st (.sl tCU)),(.st (.sl tCU))]:=cn λ(r s:List BCU)=>lf (HC r s) [.d .bool (pC r s)] λh=>by
 obtain⟨h6,hr,hs⟩:=h;by_cases hl:r.length=s.length
 ·obtain⟨n,hn⟩:=UO hr hs hl h6 r.length 0 (amx _);refine a8 GM (Rm _ _ ⟨n,?_⟩);unfold FK pC;rw[show((r.length:Int) !=(s.length:Int))=false from by rw[hl];simp,dT hl];exact hn
 ·refine a8 GM (Rm _ _ ⟨0,?_⟩);unfold FK pC;rw[show((r.length:Int) !=(s.length:Int))=true from by simp;omega,dF hl];rfl
def Gi:List En:=[enT RJ]
def Up:NT:=[((24,14),{keep:=[2,3,5],hl:=2})]
def HE:Ctx:=CX (ens Gi) Up
def tZ(r s:List BCU)(s5:Int):Cfg:=⟨24,[.blk 0,.seq 31],[(2,.box 0 0),(3,.box 1 0),(5,SI s5)],[.box 35 [.d (.sl tCU) r],.box 35 [.d (.sl tCU) s]],0,[]⟩
def FO(r s:List BCU)(k:KT):OLR:=match(r.length:Int) !=(s.length:Int)with|true=>some [RV.d .bool false]|false=>k 14 (tZ r s 0)
theorem Mb(r s:List BCU):RS HE 24 [.d (.st (.sl tCU)) r,.d (.st (.sl tCU)) s] (FO r s):=rsX
def rj(r s:List BCU)(s5:Int)(k:KT):OLR:=match decide (s5<(r.length:Int))with|true=>(match aH r s5 with|some x1=>(match aH s s5 with|some x2=>(og (decide (fU x1 x2)) (match !(jh (dC x1) (dC x2))with|true=>some [RV.d .bool false]|false=>k 14 (tZ r s (i64.wrap (s5+1)))))|none=>none)|none=>none)|false=>some [RV.d .bool true]
theorem yD(r s:List BCU)(s5:Int):RN HE 14 (tZ r s s5) (rj r s s5):=rnX
theorem Wf{r s:List BCU}(hr:∀x∈r,mG x)(hs:∀x∈s,mG x)(hl:r.length=s.length)(h6:r.length<=1000000):∀(j i:Nat),i+j=r.length->HE.Runs 14 (tZ r s (i:Int)) [.d .bool (eqD r s i)]:=by
 intro j;induction j with
 |zero=>
  intro i hi;refine yD _ _ _ ⟨0,?_⟩;unfold rj;rw[dF (show ¬(i:Int)<(r.length:Int) by omega)];dsimp only;rw[show eqD r s i=true from by unfold eqD;rw[am0 (by omega)];rfl]
 |succ j ih=>
  intro i hi;have hi1:i<r.length:=by omega
  have hi2:i<s.length:=by omega
  obtain⟨n,hn⟩:=ih (i+1) (by omega);refine yD _ _ _ ⟨n,?_⟩;unfold rj;rw[dT (show(i:Int)<(r.length:Int) by omega),ai,amg hi1,ai,amg hi2,aT (k:=i) (by omega)];dsimp only;rw[dT (show fU r[i] s[i] from⟨hr _ (ams hi1),hs _ (ams hi2)⟩),DC hl hi1];cases jh (dC r[i]) (dC s[i])
  ·rfl
  ·exact hn
def ab9:Cn 24 [(.st (.sl tCU)),(.st (.sl tCU))]:=cn λ(r s:List BCU)=>lf (HC r s) [.d .bool (pC r s)] λh=>by
 obtain⟨h6,hr,hs⟩:=h;by_cases hl:r.length=s.length
 ·obtain⟨n,hn⟩:=Wf hr hs hl h6 r.length 0 (amx _);refine a8 Gi (Mb _ _ ⟨n,?_⟩);unfold FO pC;rw[show((r.length:Int) !=(s.length:Int))=false from by rw[hl];simp,dT hl];exact hn
 ·refine a8 Gi (Mb _ _ ⟨0,?_⟩);unfold FO pC;rw[show((r.length:Int) !=(s.length:Int))=true from by simp;omega,dF hl];rfl
def CE:List En:=[]
def afy:Ctx:=CX (ens CE) []
def Wy(n:Int)(_k:KT):OLR:=match decide (n>10000000)with|true=>some [RV.d .bool true]|false=>some [RV.d .bool (decide (n<(-10000000)))]
theorem ahS(n:Int):RS afy 25 [SI n] (Wy n):=rsX
def afP:Cn 25 [apE]:=cn λ(n:Int)=>lf True [.d .bool (!(jG n))] λ_=>by
 refine a8 CE (ahS _ ⟨0,?_⟩);unfold Wy jG;rw[show decide (n<=10000000)=!decide (n>10000000) from by rw[apn];simp,show decide (n>= -10000000)=!decide (n< -10000000) from by rw[apn];simp];cases decide (n>10000000)<;>cases decide (n< -10000000)<;>rfl
def aib:Ctx:=CX (ens CE) []
def Xx(n:Int)(_k:KT):OLR:=match decide (n>=1)with|true=>some [RV.d .bool (decide (n<=10000000))]|false=>some [RV.d .bool false]
theorem ajt(n:Int):RS aib 26 [SI n] (Xx n):=rsX
def afO:Cn 26 [apE]:=cn λ(n:Int)=>lf True [.d .bool (MZ n)] λ_=>by
 refine a8 CE (ajt _ ⟨0,?_⟩);unfold Xx MZ;cases decide (n>=1)<;>rfl
def MG:List En:=[enT ajC,enL agE,enL NZ,enT aeS]
def Tr:Ctx:=CX (ens MG) []
def IL(f:Ftr)(_k:KT):OLR:=match f.2.1 !=3 with|true=>some [RV.d tG (0,0),RV.d apE 0,RV.d apE 1]|false=>(match(f.2.2.2.length:Int) !=2 with|true=>some [RV.d tG (0,0),RV.d apE 0,RV.d apE 1]|false=>(match aH f.2.2.2 0 with|some x1=>(match !x1.1 with|true=>some [RV.d tG (0,0),RV.d apE 0,RV.d apE 1]|false=>(match aH f.2.2.2 0 with|some x2=>(og (o1 x2.2.2.1.1) (og (o1 x2.2.2.1.2.1) (og (o1 x2.2.2.1.2.2) (match !(wbF x2.2.2.1.1&&jG (wnF x2.2.2.1.1))with|true=>some [RV.d tG (0,0),RV.d apE 0,RV.d apE 1]|false=>(match !(wbF x2.2.2.1.2.1&&jG (wnF x2.2.2.1.2.1))with|true=>some [RV.d tG (0,0),RV.d apE 0,RV.d apE 1]|false=>(match !(dP (ag x2.2.2.1.2.2))with|true=>some [RV.d tG (0,0),RV.d apE 0,RV.d apE 1]|false=>(og (o1 (hid (rtB (ag x2.2.2.1.2.2)))) (og (decide (bi x2.2.2.1)) (match !(wbF (hid (rtB (ag x2.2.2.1.2.2)))&&jG (wnF (hid (rtB (ag x2.2.2.1.2.2)))))with|true=>some [RV.d tG (0,0),RV.d apE 0,RV.d apE 1]|false=>(match decide ((wnF (hid (rtB (ag x2.2.2.1.2.2))))<1)with|true=>some [RV.d tG (0,0),RV.d apE 0,RV.d apE 1]|false=>(match 0 !=0 with|true=>some [RV.d tG (0,0),RV.d apE 0,RV.d apE 1]|false=>(og (decide (HC f.2.2.2 (hid ([loM x2.2.2.1,upM x2.2.2.1])))) (match !(pC f.2.2.2 (hid ([loM x2.2.2.1,upM x2.2.2.1])))with|true=>some [RV.d tG (0,0),RV.d apE 0,RV.d apE 1]|false=>some [RV.d tG (wnF x2.2.2.1.1,wnF x2.2.2.1.2.1),RV.d apE (wnF (hid (rtB (ag x2.2.2.1.2.2)))),RV.d apE 0])))))))))))))|none=>none))|none=>none))
theorem VM(f:Ftr):RS Tr 8 [.d (acZ) f] (IL f):=rsX
def Vr:Cn 8 [(acZ)]:=cn λ(f:Ftr)=>lf (zj f) [.d tG (DM f),.d apE (K6 f),.d apE (Ke f)] λh=>by
 refine a8 MG (VM _ ⟨0,?_⟩);obtain⟨hl,hm⟩:=h;obtain⟨nm,kd,dp,l⟩:=f;unfold IL DM K6 Ke QZ rm;dsimp only at hl hm ⊢;by_cases k3:kd=3
 rotate_left
 ·rw[show(kd !=3)=true from aoc.2 k3,dF (show ¬(kd=3/\l.length=2/\(l.headD c00).1=true) from λe=>k3 e.1)];rfl
 subst k3;by_cases k2:l.length=2
 rotate_left
 ·rw[show((l.length:Int) !=2)=true from by simp;omega,dF (show ¬((3:Int)=3/\l.length=2/\(l.headD c00).1=true) from λe=>k2 e.2.1)];rfl
 obtain⟨a,b,rfl⟩:=HI k2;rw[show aH [a,b] 0=some a from rfl,show [a,b].headD c00=a from rfl];dsimp only;cases ka:a.1
 ·rw[dF (show ¬((3:Int)=3/\[a,b].length=2/\false=true) from λe=>by cases e.2.2)];rfl
 rw[dT (show(3:Int)=3/\[a,b].length=2/\true=true from⟨rfl,rfl,rfl⟩)];have hc:bi a.2.2.1:=(hm a (by simp)).2.1 ka;obtain⟨d1,d2,d3,d4⟩:=id hc;rw[show o1 a.2.2.1.1=true from dT d1.1,show o1 a.2.2.1.2.1=true from dT d2.1,show o1 a.2.2.1.2.2=true from dT d3.1,dT hc];simp only[aQ];cases wbF a.2.2.1.1&&jG (wnF a.2.2.1.1)
 ·rfl
 cases wbF a.2.2.1.2.1&&jG (wnF a.2.2.1.2.1)
 ·rfl
 cases hq:dP (ag a.2.2.1.2.2)
 ·rfl
 have hr:okR (rtB (ag a.2.2.1.2.2)):=by
  have:Bd (ag a.2.2.1.2.2) 13:=JJ d3;rw[DG hq];exact amj (qA (q:=rtQ (ag a.2.2.1.2.2)) (j:=13) (by decide))
 rw[show o1 (rtB (ag a.2.2.1.2.2))=true from dT hr];cases wbF (rtB (ag a.2.2.1.2.2))
 ·rfl
 cases jG (wnF (rtB (ag a.2.2.1.2.2)))
 ·rfl
 cases decide (wnF (rtB (ag a.2.2.1.2.2))<1);rotate_left
 ·rfl
 obtain⟨g1,_,g3,_⟩:=xI hc
 rw[dT (show HC [a,b] [loM a.2.2.1,upM a.2.2.1] from⟨by simp,hm,λx hx=>by
  have hx:x=loM a.2.2.1\/x=upM a.2.2.1:=by simpa using hx
  rcases hx with e|e<;>rw[e]
  ·exact g1.1
  ·exact g3.1⟩),ahe]
 cases pC [a,b] [loN a.2.2.1,upN a.2.2.1]<;>rfl
def MP:List En:=[enT agS,enL WJ,enL BH,enT ab9,enT afP,enT afO]
def akd:Ctx:=CX (ens MP) []
def YS(f:Ftr)(_k:KT):OLR:=match f.2.1 !=3 with|true=>some [RV.d tG (0,0),RV.d apE 0,RV.d apE 1]|false=>(match(f.2.2.2.length:Int) !=2 with|true=>some [RV.d tG (0,0),RV.d apE 0,RV.d apE 1]|false=>(match aH f.2.2.2 0 with|some x1=>(match !x1.1 with|true=>some [RV.d tG (0,0),RV.d apE 0,RV.d apE 1]|false=>(match aH f.2.2.2 0 with|some x2=>(og (decide (okI x2.2.2.1.1.1/\okI x2.2.2.1.1.2)) (og (decide (okI x2.2.2.1.2.1.1/\okI x2.2.2.1.2.1.2)) (og (o1 x2.2.2.1.2.2) (og (decide (okI (hid (rtB (ag x2.2.2.1.2.2))).1/\okI (hid (rtB (ag x2.2.2.1.2.2))).2)) (og (decide (vN x2.2.2.1)) (match !(wbF x2.2.2.1.1)with|true=>some [RV.d tG (0,0),RV.d apE 0,RV.d apE 1]|false=>(match !(wbF x2.2.2.1.2.1)with|true=>some [RV.d tG (0,0),RV.d apE 0,RV.d apE 1]|false=>(match !(dP (ag x2.2.2.1.2.2))with|true=>some [RV.d tG (0,0),RV.d apE 0,RV.d apE 1]|false=>(match !(wbF (hid (rtB (ag x2.2.2.1.2.2))))with|true=>some [RV.d tG (0,0),RV.d apE 0,RV.d apE 1]|false=>(match(zB x2.2.2.1) !=0 with|true=>some [RV.d tG (0,0),RV.d apE 0,RV.d apE 1]|false=>(og (decide (HC (hid (zx x2.2.2.1)) f.2.2.2)) (match !(pC (hid (zx x2.2.2.1)) f.2.2.2)with|true=>some [RV.d tG (0,0),RV.d apE 0,RV.d apE 1]|false=>(match !(jG (wnF x2.2.2.1.1))with|true=>some [RV.d tG (0,0),RV.d apE 0,RV.d apE 1]|false=>(match !(jG (wnF x2.2.2.1.2.1))with|true=>some [RV.d tG (0,0),RV.d apE 0,RV.d apE 1]|false=>(match !(MZ (wnF (hid (rtB (ag x2.2.2.1.2.2)))))with|true=>some [RV.d tG (0,0),RV.d apE 0,RV.d apE 1]|false=>some [RV.d tG (wnF x2.2.2.1.1,wnF x2.2.2.1.2.1),RV.d apE (wnF (hid (rtB (ag x2.2.2.1.2.2)))),RV.d apE 0])))))))))))))))|none=>none))|none=>none))
theorem ag3(f:Ftr):RS akd 9 [.d (acZ) f] (YS f):=rsX
def ah5:Cn 9 [(acZ)]:=cn λ(f:Ftr)=>lf (zj f) [.d tG (DM f),.d apE (K6 f),.d apE (Ke f)] λh=>by
 refine a8 MP (ag3 _ ⟨0,?_⟩);obtain⟨hl,hm⟩:=h;obtain⟨nm,kd,dp,l⟩:=f;unfold YS DM K6 Ke QZ rm;dsimp only at hl hm ⊢;by_cases k3:kd=3
 rotate_left
 ·rw[show(kd !=3)=true from aoc.2 k3,dF (show ¬(kd=3/\l.length=2/\(l.headD c00).1=true) from λe=>k3 e.1)];rfl
 subst k3;by_cases k2:l.length=2
 rotate_left
 ·rw[show((l.length:Int) !=2)=true from by simp;omega,dF (show ¬((3:Int)=3/\l.length=2/\(l.headD c00).1=true) from λe=>k2 e.2.1)];rfl
 obtain⟨a,b,rfl⟩:=HI k2;rw[show aH [a,b] 0=some a from rfl,show [a,b].headD c00=a from rfl];dsimp only;cases ka:a.1
 ·rw[dF (show ¬((3:Int)=3/\[a,b].length=2/\false=true) from λe=>by cases e.2.2)];rfl
 rw[dT (show(3:Int)=3/\[a,b].length=2/\true=true from⟨rfl,rfl,rfl⟩)];have hc:bi a.2.2.1:=(hm a (by simp)).2.1 ka;obtain⟨d1,d2,d3,d4⟩:=id hc;have hI:∀{x:BR},okR x->okI x.1/\okI x.2:=λh=>⟨h.1,h.2.1⟩
 have dp:vN a.2.2.1:=⟨d1,d2,d3⟩
 have e0:zB a.2.2.1=0:=by unfold zB;rw[dT d4];rfl
 have e1:zx a.2.2.1=[loN a.2.2.1,upN a.2.2.1]:=by unfold zx;rw[dT d4];rfl
 have hr:okI (rtB (ag a.2.2.1.2.2)).1/\okI (rtB (ag a.2.2.1.2.2)).2:=by
  cases hq:dP (ag a.2.2.1.2.2)
  ·rw[show rtB (ag a.2.2.1.2.2)=((false,[]),(false,[])) from by unfold rtB;rw[hq];rfl];exact⟨NC,NC⟩
  ·have:Bd (ag a.2.2.1.2.2) 13:=JJ d3;rw[DG hq];exact hI (amj (qA (q:=rtQ (ag a.2.2.1.2.2)) (j:=13) (by decide)))
 have g1:∀x∈[loN a.2.2.1,upN a.2.2.1],mG x:=λx hx=>by
  have hx:x=loN a.2.2.1\/x=upN a.2.2.1:=by simpa using hx
  rcases hx with e|e<;>rw[e]
  ·exact(kZ hc).1.1
  ·exact(IO hc).1
 simp only[aQ];rw[dT (hI d1.1),dT (hI d2.1),show o1 a.2.2.1.2.2=true from dT d3.1,dT hr,dT dp,e0,e1,dT (show HC [loN a.2.2.1,upN a.2.2.1] [a,b] from⟨by simp,g1,hm⟩),NL g1 hm,VS];cases wbF a.2.2.1.1
 ·rfl
 cases wbF a.2.2.1.2.1
 ·cases jG (wnF a.2.2.1.1)<;>rfl
 cases dP (ag a.2.2.1.2.2)
 ·cases jG (wnF a.2.2.1.1)<;>cases jG (wnF a.2.2.1.2.1)<;>rfl
 cases wbF (rtB (ag a.2.2.1.2.2))
 ·cases jG (wnF a.2.2.1.1)<;>cases jG (wnF a.2.2.1.2.1)<;>rfl
 cases jG (wnF a.2.2.1.1)<;>cases jG (wnF a.2.2.1.2.1)<;>cases jG (wnF (rtB (ag a.2.2.1.2.2)))<;>cases decide (wnF (rtB (ag a.2.2.1.2.2))<1)<;>cases pC [a,b] [loN a.2.2.1,upN a.2.2.1]<;>rfl
def Pw:List En:=[enL WJ]
def ai9:Ctx:=CX (ens Pw) []
def WN(x y q:BR)(n:Int)(_k:KT):OLR:=og (decide (vN (x,(y,q)))) (some [RV.d (acZ) (⟨#[104]⟩,(3,(n,hid (zx (x,(y,q)))))),RV.d .bool ((zB (x,(y,q)))==0)])
theorem ae9(x y q:BR)(n:Int):RS ai9 7 [.d tR x,.d tR y,.d tR q,SI n] (WN x y q n):=rsX
def ajG:Cn 7 [tR,tR,tR,apE]:=cn λ(x y q:BR) (n:Int)=>lf (vN (x,(y,q))) [.d (acZ) (zu x y q n),.d .bool (zB (x,(y,q))==0)] λh=>by
 refine a8 Pw (ae9 _ _ _ _ ⟨0,?_⟩);unfold WN zu;rw[dT h,aQ]
end
open Go.Maps
def mill:ByteArray:=⟨#[109,105,108,108]⟩
theorem Nms.mill{w:World}(h:Nms w):∃bm,w.cell? ⟨0,0,none⟩=some (.map (some bm))/\(Instr.lookup 153 (.map (some bm)) (.int .i64 1) false).run Tryz.prog w=.ok (.string mill) w:=by
 obtain⟨bm,n,hc,hg,hm⟩:=h;obtain⟨v,ps,hrun,hv⟩:=hm.lookup zQ Tryz.underlying153 (D9 w) (plainElem_string apa (s:=⟨#[]⟩) (by decide)) (keyOf_int_mk (a:=1) Tryz.underlying3 (WalkArith.wf_i64 ⟨by decide,by decide⟩));obtain⟨s,rfl,hz,_⟩:=plainElem_string_inv apa hv;refine⟨bm,hc,?_⟩;rw[hrun];simp only[amL]at hz;have e:(Rows.laid_swarf_tool_names (H:=Unit)).atKey (.int .i64 1) (.lit (.string []))=.lit (.string [109,105,108,108]):=rfl;have h1:=hz.1;rw[e]at h1;simp only[DataW.lit.injEq,Lit.string.injEq]at h1;obtain⟨⟨l⟩⟩:=s;have:l=[109,105,108,108]:=h1.symm;subst this;rfl
theorem AO(w:World)(h:Nms w):Calls Tryz.prog 66 #[.int .i64 1] w λe w'=>e=.returned (.string mill)/\w=w':=by
 obtain⟨bm,hc,hl⟩:=h.mill;have HS:=Lib.hid hl;clear hl;have hl:=HS.out;go_enter Tryz.func66,Tryz.ntmps66
 go_wp2
 go_ret
 exact⟨rfl,rfl⟩
theorem EQ:mill.toList.isEmpty=false:=by
 rw[ByteArray.toList_eq];rfl
abbrev T8:=Int×Int×Int×Int×Int×Int×Int×Int
def t8P(t:T8):Prop:=t.1=1/\t.2.1=1/\(t.2.2.1=3000/\t.2.2.2.2.1=10000\/t.2.2.1=2000/\t.2.2.2.2.1=9000)/\t.2.2.2.1=20000/\t.2.2.2.2.2.1=1500/\t.2.2.2.2.2.2.1=20000/\t.2.2.2.2.2.2.2=5000
instance (t:T8):Decidable (t8P t):=by unfold t8P;infer_instance
theorem Dk(n:Int)(h:1<=n/\n<=10000000)(w:World):Calls Tryz.prog 67 #[.int .i64 n] w λe w'=>e=.returned (.bool true)/\w=w':=by
 obtain⟨h1,h2⟩:=h;have hl:decide (n<=10000000)=true:=amh h2;have HL:=Lib.hid hl;clear hl;go_enter Tryz.func67,Tryz.ntmps67
 go_wp2
 go_ret
 exact⟨rfl,rfl⟩
set_option maxHeartbeats 4000000 in
theorem Vz(w:World)(h:Nms w):Calls Tryz.prog 32 #[.agg #[.int .i64 1,.int .i64 1,.int .i64 3000,.int .i64 20000,.int .i64 10000,.int .i64 1500,.int .i64 20000,.int .i64 5000]] w λe w'=>e=.returned (.int .i64 0)/\Below w.heap.size w w':=by
 have hn1:∀o,Nms (w.alloc o):=λo=>h.below ((aoo _ _).alloc (amm _) o);have HN:=Lib.hid hn1;clear hn1 h;have hs2:=EQ;go_enter Tryz.func32,Tryz.ntmps32
 go_wp2_with (go_at_call 66;refine(AO _ (HN.out _)).mono ?_;rintro e w' ⟨rfl,rfl⟩)
 refine wp_loop_rounds 7 ?_;repeat (rw[rounds_succ];go_wp2_with (go_at_call 67;refine(Dk _ ⟨by decide,by decide⟩ _).mono ?_;rintro e w' ⟨rfl,rfl⟩))
 go_ret
 exact⟨rfl,by go_grown⟩
set_option maxHeartbeats 4000000 in
theorem UL(w:World)(h:Nms w):Calls Tryz.prog 32 #[.agg #[.int .i64 1,.int .i64 1,.int .i64 2000,.int .i64 20000,.int .i64 9000,.int .i64 1500,.int .i64 20000,.int .i64 5000]] w λe w'=>e=.returned (.int .i64 0)/\Below w.heap.size w w':=by
 have hn1:∀o,Nms (w.alloc o):=λo=>h.below ((aoo _ _).alloc (amm _) o);have HN:=Lib.hid hn1;clear hn1 h;have hs2:=EQ;go_enter Tryz.func32,Tryz.ntmps32
 go_wp2_with (go_at_call 66;refine(AO _ (HN.out _)).mono ?_;rintro e w' ⟨rfl,rfl⟩)
 refine wp_loop_rounds 7 ?_;repeat (rw[rounds_succ];go_wp2_with (go_at_call 67;refine(Dk _ ⟨by decide,by decide⟩ _).mono ?_;rintro e w' ⟨rfl,rfl⟩))
 go_ret
 exact⟨rfl,by go_grown⟩
def aiW:Cn 32 [(y8Y)]:=cn λ(t:T8)=>lf (t8P t) [.d apE 0] λh=>by
 intro A w vs hI ha;match vs,ha with
 |[v],⟨hv,_⟩=>
  obtain⟨cs,hrd,rfl⟩:=hv;obtain⟨_,_,rfl,rfl,_,_,rfl,rfl,_,_,rfl,rfl,_,_,rfl,rfl,_,_,rfl,rfl,_,_,rfl,rfl,_,_,rfl,rfl,rfl⟩:=hrd;obtain⟨a,b,c,d,e,f,g,i⟩:=t;obtain⟨h1,h2,h3,h4,h5,h6,h7⟩:=h;dsimp only at h1 h2 h3 h4 h5 h6 h7;rcases h3 with⟨h3,h8⟩|⟨h3,h8⟩<;>subst h1 h2 h3 h4 h5 h6 h7 h8
  ·refine(Vz w hI).mono ?_;rintro e w' ⟨rfl,hb⟩
   exact⟨_,rfl,hb,_,rfl,rfl⟩
  ·refine(UL w hI).mono ?_;rintro e w' ⟨rfl,hb⟩
   exact⟨_,rfl,hb,_,rfl,rfl⟩
def adU:List En:=[]
def ahd(g:(Int×Int))(z:Int)(_k:KT):OLR:=some [RV.d y4Y (g.1,(g.2,z))]
def ajm:Cn 35 [tG,apE]:=cn λ(g:(Int×Int)) (z:Int)=>lf True [.d y4Y ((g.1,(g.2,z)):Int×Int×Int)] λ_=>by
 refine aA adU (ahd g z) ⟨0,?_⟩;rfl
def RI:List En:=[enF aiW,enF ajm]
set_option maxRecDepth 1000000 in
def af1:Cn 5 []:=cn<|lf True [.d .bool true] λ_=>a8 RI (N:=[]) ((rtX:RT (CX (ens RI) []) 5 [] (some [.d .bool true])) rfl)
end Go.Proofs.YtmnlppieefomnaaGreatDoor
end
