/- The program's ends, odd, merged, enclosed, Fill and Disc of a circle. -/
import Derived.Test.YtoimchcjhdcdmaaGreatP20
import Derived.Test.YtoimchcjhdcdmaaGreatP7
import Derived.Test.YtoimchcjhdcdmaaGreatP18
import Derived.Test.YtoimchcjhdcdmaaGreatP19
import Derived.Stop.Joined
noncomputable section
namespace Go.Proofs.YtoimchcjhdcdmaaGreat
open Go.RowKit Go.IntKind
open Bool renaming true->T',false->F'
open Option renaming some->S'
open Decidable renaming decide->D'
section
open RE
def uQ(l:List BCU):Prop:=∃c,bK c/\l=[loM c,hiM c]
instance (l:List BCU):Decidable (uQ l):=Classical.propDecidable _
def cj(l:List BCU)(i:Nat):BP:=match l with
 |c::_=>match i with
  |0=>c.2.2.2.2.1
  |_=>c.2.2.2.2.2
 |[]=>p00
def cwP(l:List BCU):Bool:=match l with
 |_::d::_=>d.2.2.2.1
 |_=>false
theorem Ew{c:BO3}(h:bK c):jR (loM c)=loM c/\jR (hiM c)=upM c:=by
 obtain⟨_,_,_,_,z3,z4⟩:=rl h;constructor
 ·unfold jR;rw[show aB (dec (loM c).2.2.2.2.1) (dec (loM c).2.2.2.2.2)= -1 from z3];rfl
 ·unfold jR;rw[show aB (dec (hiM c).2.2.2.2.1) (dec (hiM c).2.2.2.2.2)=1 from z4];rfl
def IC:List En:=[enT oN]
def aeh:NT:=[((145,8),{keep:=[3,6,7,8],hl:=99}),((288,6),{keep:=[0,1,2,6,7,8],hl:=99}),((338,3),{keep:=[0,1,2,3,8],hl:=99}),((338,15),{keep:=[0,1,2,3,8,9],hl:=99}),((288,22),{keep:=[0,1,2,6],hl:=99}),((145,22),{keep:=[3],hl:=0}),((218,0),{keep:=[],hl:=0}),((288,20),{keep:=[0,1,2,6],hl:=0}),((338,18),{keep:=[0,1,2,3,8,9,18,19,20,21,22,23,24,25,26,27,28,29,30,31,32,33,34],hl:=0})]
def ajW:Ctx:=CX (ens IC) aeh
def TM(a b:BCU):OLR:=og (D' (okP 4000 a.2.2.2.2.2/\okP 4000 a.2.2.2.2.1)) (match D' ((aB (dec a.2.2.2.2.2) (dec a.2.2.2.2.1))<0)with|T'=>(og (D' (okP 4000 b.2.2.2.2.1/\okP 4000 a.2.2.2.2.1)) (match D' ((aB (dec b.2.2.2.2.1) (dec a.2.2.2.2.1))<0)with|T'=>(og (D' (okP 4000 b.2.2.2.2.1/\okP 4000 a.2.2.2.2.2)) (match D' ((aB (dec b.2.2.2.2.1) (dec a.2.2.2.2.2))<0)with|T'=>(og (D' (okP 4000 b.2.2.2.2.2/\okP 4000 a.2.2.2.2.1)) (match D' ((aB (dec b.2.2.2.2.2) (dec a.2.2.2.2.1))<0)with|T'=>(og (D' (okP 4000 b.2.2.2.2.2/\okP 4000 a.2.2.2.2.2)) (match D' ((aB (dec b.2.2.2.2.2) (dec a.2.2.2.2.2))<0)with|T'=>(og (D' (okP 4000 b.2.2.2.2.2/\okP 4000 b.2.2.2.2.1)) (match D' ((aB (dec b.2.2.2.2.2) (dec b.2.2.2.2.1))<0)with|T'=>S' [RV.new 168 dK ([(b.2.2.2.2.2,(1,F')),(b.2.2.2.2.1,(1,T')),(a.2.2.2.2.2,(0,F')),(a.2.2.2.2.1,(0,T'))])]|F'=>S' [RV.new 168 dK ([(b.2.2.2.2.1,(1,T')),(b.2.2.2.2.2,(1,F')),(a.2.2.2.2.2,(0,F')),(a.2.2.2.2.1,(0,T'))])]))|F'=>S' [RV.new 168 dK ([(b.2.2.2.2.1,(1,T')),(a.2.2.2.2.2,(0,F')),(b.2.2.2.2.2,(1,F')),(a.2.2.2.2.1,(0,T'))])]))|F'=>S' [RV.new 168 dK ([(b.2.2.2.2.1,(1,T')),(a.2.2.2.2.2,(0,F')),(a.2.2.2.2.1,(0,T')),(b.2.2.2.2.2,(1,F'))])]))|F'=>(og (D' (okP 4000 b.2.2.2.2.2/\okP 4000 a.2.2.2.2.1)) (match D' ((aB (dec b.2.2.2.2.2) (dec a.2.2.2.2.1))<0)with|T'=>(og (D' (okP 4000 b.2.2.2.2.2/\okP 4000 b.2.2.2.2.1)) (match D' ((aB (dec b.2.2.2.2.2) (dec b.2.2.2.2.1))<0)with|T'=>(og (D' (okP 4000 b.2.2.2.2.2/\okP 4000 a.2.2.2.2.2)) (match D' ((aB (dec b.2.2.2.2.2) (dec a.2.2.2.2.2))<0)with|T'=>S' [RV.new 168 dK ([(b.2.2.2.2.2,(1,F')),(a.2.2.2.2.2,(0,F')),(b.2.2.2.2.1,(1,T')),(a.2.2.2.2.1,(0,T'))])]|F'=>S' [RV.new 168 dK ([(a.2.2.2.2.2,(0,F')),(b.2.2.2.2.2,(1,F')),(b.2.2.2.2.1,(1,T')),(a.2.2.2.2.1,(0,T'))])]))|F'=>S' [RV.new 168 dK ([(a.2.2.2.2.2,(0,F')),(b.2.2.2.2.1,(1,T')),(b.2.2.2.2.2,(1,F')),(a.2.2.2.2.1,(0,T'))])]))|F'=>S' [RV.new 168 dK ([(a.2.2.2.2.2,(0,F')),(b.2.2.2.2.1,(1,T')),(a.2.2.2.2.1,(0,T')),(b.2.2.2.2.2,(1,F'))])]))))|F'=>(og (D' (okP 4000 b.2.2.2.2.2/\okP 4000 b.2.2.2.2.1)) (match D' ((aB (dec b.2.2.2.2.2) (dec b.2.2.2.2.1))<0)with|T'=>(og (D' (okP 4000 b.2.2.2.2.2/\okP 4000 a.2.2.2.2.1)) (match D' ((aB (dec b.2.2.2.2.2) (dec a.2.2.2.2.1))<0)with|T'=>(og (D' (okP 4000 b.2.2.2.2.2/\okP 4000 a.2.2.2.2.2)) (match D' ((aB (dec b.2.2.2.2.2) (dec a.2.2.2.2.2))<0)with|T'=>S' [RV.new 168 dK ([(b.2.2.2.2.2,(1,F')),(a.2.2.2.2.2,(0,F')),(a.2.2.2.2.1,(0,T')),(b.2.2.2.2.1,(1,T'))])]|F'=>S' [RV.new 168 dK ([(a.2.2.2.2.2,(0,F')),(b.2.2.2.2.2,(1,F')),(a.2.2.2.2.1,(0,T')),(b.2.2.2.2.1,(1,T'))])]))|F'=>S' [RV.new 168 dK ([(a.2.2.2.2.2,(0,F')),(a.2.2.2.2.1,(0,T')),(b.2.2.2.2.2,(1,F')),(b.2.2.2.2.1,(1,T'))])]))|F'=>S' [RV.new 168 dK ([(a.2.2.2.2.2,(0,F')),(a.2.2.2.2.1,(0,T')),(b.2.2.2.2.1,(1,T')),(b.2.2.2.2.2,(1,F'))])]))))|F'=>(og (D' (okP 4000 b.2.2.2.2.1/\okP 4000 a.2.2.2.2.2)) (match D' ((aB (dec b.2.2.2.2.1) (dec a.2.2.2.2.2))<0)with|T'=>(og (D' (okP 4000 b.2.2.2.2.1/\okP 4000 a.2.2.2.2.1)) (match D' ((aB (dec b.2.2.2.2.1) (dec a.2.2.2.2.1))<0)with|T'=>(og (D' (okP 4000 b.2.2.2.2.2/\okP 4000 a.2.2.2.2.2)) (match D' ((aB (dec b.2.2.2.2.2) (dec a.2.2.2.2.2))<0)with|T'=>(og (D' (okP 4000 b.2.2.2.2.2/\okP 4000 a.2.2.2.2.1)) (match D' ((aB (dec b.2.2.2.2.2) (dec a.2.2.2.2.1))<0)with|T'=>(og (D' (okP 4000 b.2.2.2.2.2/\okP 4000 b.2.2.2.2.1)) (match D' ((aB (dec b.2.2.2.2.2) (dec b.2.2.2.2.1))<0)with|T'=>S' [RV.new 168 dK ([(b.2.2.2.2.2,(1,F')),(b.2.2.2.2.1,(1,T')),(a.2.2.2.2.1,(0,T')),(a.2.2.2.2.2,(0,F'))])]|F'=>S' [RV.new 168 dK ([(b.2.2.2.2.1,(1,T')),(b.2.2.2.2.2,(1,F')),(a.2.2.2.2.1,(0,T')),(a.2.2.2.2.2,(0,F'))])]))|F'=>S' [RV.new 168 dK ([(b.2.2.2.2.1,(1,T')),(a.2.2.2.2.1,(0,T')),(b.2.2.2.2.2,(1,F')),(a.2.2.2.2.2,(0,F'))])]))|F'=>S' [RV.new 168 dK ([(b.2.2.2.2.1,(1,T')),(a.2.2.2.2.1,(0,T')),(a.2.2.2.2.2,(0,F')),(b.2.2.2.2.2,(1,F'))])]))|F'=>(og (D' (okP 4000 b.2.2.2.2.2/\okP 4000 a.2.2.2.2.2)) (match D' ((aB (dec b.2.2.2.2.2) (dec a.2.2.2.2.2))<0)with|T'=>(og (D' (okP 4000 b.2.2.2.2.2/\okP 4000 b.2.2.2.2.1)) (match D' ((aB (dec b.2.2.2.2.2) (dec b.2.2.2.2.1))<0)with|T'=>(og (D' (okP 4000 b.2.2.2.2.2/\okP 4000 a.2.2.2.2.1)) (match D' ((aB (dec b.2.2.2.2.2) (dec a.2.2.2.2.1))<0)with|T'=>S' [RV.new 168 dK ([(b.2.2.2.2.2,(1,F')),(a.2.2.2.2.1,(0,T')),(b.2.2.2.2.1,(1,T')),(a.2.2.2.2.2,(0,F'))])]|F'=>S' [RV.new 168 dK ([(a.2.2.2.2.1,(0,T')),(b.2.2.2.2.2,(1,F')),(b.2.2.2.2.1,(1,T')),(a.2.2.2.2.2,(0,F'))])]))|F'=>S' [RV.new 168 dK ([(a.2.2.2.2.1,(0,T')),(b.2.2.2.2.1,(1,T')),(b.2.2.2.2.2,(1,F')),(a.2.2.2.2.2,(0,F'))])]))|F'=>S' [RV.new 168 dK ([(a.2.2.2.2.1,(0,T')),(b.2.2.2.2.1,(1,T')),(a.2.2.2.2.2,(0,F')),(b.2.2.2.2.2,(1,F'))])]))))|F'=>(og (D' (okP 4000 b.2.2.2.2.2/\okP 4000 b.2.2.2.2.1)) (match D' ((aB (dec b.2.2.2.2.2) (dec b.2.2.2.2.1))<0)with|T'=>(og (D' (okP 4000 b.2.2.2.2.2/\okP 4000 a.2.2.2.2.2)) (match D' ((aB (dec b.2.2.2.2.2) (dec a.2.2.2.2.2))<0)with|T'=>(og (D' (okP 4000 b.2.2.2.2.2/\okP 4000 a.2.2.2.2.1)) (match D' ((aB (dec b.2.2.2.2.2) (dec a.2.2.2.2.1))<0)with|T'=>S' [RV.new 168 dK ([(b.2.2.2.2.2,(1,F')),(a.2.2.2.2.1,(0,T')),(a.2.2.2.2.2,(0,F')),(b.2.2.2.2.1,(1,T'))])]|F'=>S' [RV.new 168 dK ([(a.2.2.2.2.1,(0,T')),(b.2.2.2.2.2,(1,F')),(a.2.2.2.2.2,(0,F')),(b.2.2.2.2.1,(1,T'))])]))|F'=>S' [RV.new 168 dK ([(a.2.2.2.2.1,(0,T')),(a.2.2.2.2.2,(0,F')),(b.2.2.2.2.2,(1,F')),(b.2.2.2.2.1,(1,T'))])]))|F'=>S' [RV.new 168 dK ([(a.2.2.2.2.1,(0,T')),(a.2.2.2.2.2,(0,F')),(b.2.2.2.2.1,(1,T')),(b.2.2.2.2.2,(1,F'))])])))))
theorem XU(a b:BCU):RT ajW 145 [.d (.sl tCU) ([a,b])] (TM a b):=rtX
def aiq:Cn 145 [(.sl tCU)]:=cn λ(l:List BCU)=>lf (uQ l\/mv l) [.new 168 dK ([(cj l 0,(0,T')),(cj l 0,(1,cwP l)),(cj l 1,(0,F')),(cj l 1,(1,!cwP l))])] λh=>by
 have k:∀{p q},okP 4000 p->okP 4000 q->decide (okP 4000 p/\okP 4000 q)=true:=λh h'=>dT ⟨h,h'⟩;rcases h with⟨c,hc,rfl⟩|⟨c,hc,rfl⟩<;>obtain⟨o1,o2,z1,z2,z3,z4⟩:=rl hc
 ·refine bj IC (XU (loM c) (hiM c) ?_);unfold TM;simp only[show(loM c).2.2.2.2.1=enc (dY (dec c)) from rfl,show(loM c).2.2.2.2.2=enc (eN (dec c)) from rfl,show(hiM c).2.2.2.2.1=enc (eN (dec c)) from rfl,show(hiM c).2.2.2.2.2=enc (dY (dec c)) from rfl,k o1 o1,k o1 o2,k o2 o1,k o2 o2,z1,z2,z3,z4];rfl
 ·refine bj IC (XU (loM c) (upM c) ?_);unfold TM;simp only[show(loM c).2.2.2.2.1=enc (dY (dec c)) from rfl,show(loM c).2.2.2.2.2=enc (eN (dec c)) from rfl,show(upM c).2.2.2.2.1=enc (dY (dec c)) from rfl,show(upM c).2.2.2.2.2=enc (eN (dec c)) from rfl,k o1 o1,k o1 o2,k o2 o1,k o2 o2,z1,z2,z3,z4];rfl
def Ht:List En:=[enK aiq,enT oM]
def afv:NT:=[((75,8),{keep:=[3,8,9,10],hl:=99})]
def akc:Ctx:=CX (ens Ht) afv
def OM(l:List BCU):OLR:=og (D' (uQ l\/mv l)) (og (D' (okP 4000 (cj l 0)/\okP 4000 (cj l 0))) (match aB (dec (cj l 0)) (dec (cj l 0))==0 with|T'=>dup (.b .l .l) (og (D' (okP 4000 (cj l 0)/\okP 4000 (cj l 1))) (match aB (dec (cj l 0)) (dec (cj l 1))==0 with|T'=>dup (.b .l .l) (og (D' (okP 4000 (cj l 0)/\okP 4000 (cj l 1))) (match aB (dec (cj l 0)) (dec (cj l 1))==0 with|T'=>dup (.b .l .l) (S' [RV.new 119 (.sl dK) [[(cj l 0,(0,T')),(cj l 0,(1,cwP l)),(cj l 1,(0,F')),(cj l 1,(1,!cwP l))]]])|F'=>S' [RV.new 119 (.sl dK) [[(cj l 0,(0,T')),(cj l 0,(1,cwP l)),(cj l 1,(0,F'))],[(cj l 1,(1,!cwP l))]]]))|F'=>(og (D' (okP 4000 (cj l 1)/\okP 4000 (cj l 1))) (match aB (dec (cj l 1)) (dec (cj l 1))==0 with|T'=>dup (.b .l .l) (S' [RV.new 119 (.sl dK) [[(cj l 0,(0,T')),(cj l 0,(1,cwP l))],[(cj l 1,(0,F')),(cj l 1,(1,!cwP l))]]])|F'=>S' [RV.new 119 (.sl dK) [[(cj l 0,(0,T')),(cj l 0,(1,cwP l))],[(cj l 1,(0,F'))],[(cj l 1,(1,!cwP l))]]]))))|F'=>(og (D' (okP 4000 (cj l 0)/\okP 4000 (cj l 1))) (match aB (dec (cj l 0)) (dec (cj l 1))==0 with|T'=>dup (.b .l .l) (og (D' (okP 4000 (cj l 0)/\okP 4000 (cj l 1))) (match aB (dec (cj l 0)) (dec (cj l 1))==0 with|T'=>dup (.b .l .l) (S' [RV.new 119 (.sl dK) [[(cj l 0,(0,T'))],[(cj l 0,(1,cwP l)),(cj l 1,(0,F')),(cj l 1,(1,!cwP l))]]])|F'=>S' [RV.new 119 (.sl dK) [[(cj l 0,(0,T'))],[(cj l 0,(1,cwP l)),(cj l 1,(0,F'))],[(cj l 1,(1,!cwP l))]]]))|F'=>(og (D' (okP 4000 (cj l 1)/\okP 4000 (cj l 1))) (match aB (dec (cj l 1)) (dec (cj l 1))==0 with|T'=>dup (.b .l .l) (S' [RV.new 119 (.sl dK) [[(cj l 0,(0,T'))],[(cj l 0,(1,cwP l))],[(cj l 1,(0,F')),(cj l 1,(1,!cwP l))]]])|F'=>S' [RV.new 119 (.sl dK) [[(cj l 0,(0,T'))],[(cj l 0,(1,cwP l))],[(cj l 1,(0,F'))],[(cj l 1,(1,!cwP l))]]]))))))
theorem Yj(l:List BCU):RT akc 75 [.d (.sl tCU) l] (OM l):=rtX
def adJ:Cn 75 [(.sl tCU)]:=cn λ(l:List BCU)=>lf (uQ l) [.d (.sl (.sl dK)) ([[(cj l 0,(0,T')),(cj l 0,(1,F'))],[(cj l 1,(0,F')),(cj l 1,(1,T'))]])] λh=>by
 obtain⟨c,hc,rfl⟩:=h;obtain⟨o1,o2,z1,z2,z3,z4⟩:=rl hc;refine Con.new_d (et:=119) (bj Ht (Yj _ ?_));have k:∀{p q},okP 4000 p->okP 4000 q->D' (okP 4000 p/\okP 4000 q)=true:=λh h'=>dT ⟨h,h'⟩;unfold OM;rw[dT (.inl ⟨c,hc,rfl⟩:uQ _\/mv _)];simp only[dg,show ∀d,cj [loM c,d] 0=enc (dY (dec c)) from λ_=>rfl,show ∀d,cj [loM c,d] 1=enc (eN (dec c)) from λ_=>rfl,k o1 o1,k o1 o2,k o2 o2,z1,z2,z3];rfl
def adR:Cn 75 [(.sl tCU)]:=cn λ(l:List BCU)=>lf (mv l) [.d (.sl (.sl dK)) ([[(cj l 0,(0,T')),(cj l 0,(1,T'))],[(cj l 1,(0,F')),(cj l 1,(1,F'))]])] λh=>by
 obtain⟨c,hc,rfl⟩:=h;obtain⟨o1,o2,z1,z2,z3,z4⟩:=rl hc;refine Con.new_d (et:=119) (bj Ht (Yj _ ?_));have k:∀{p q},okP 4000 p->okP 4000 q->D' (okP 4000 p/\okP 4000 q)=true:=λh h'=>dT ⟨h,h'⟩;unfold OM;rw[dT (.inr ⟨c,hc,rfl⟩:uQ _\/mv _)];simp only[dg,show ∀d,cj [loM c,d] 0=enc (dY (dec c)) from λ_=>rfl,show ∀d,cj [loM c,d] 1=enc (eN (dec c)) from λ_=>rfl,k o1 o1,k o1 o2,k o2 o2,z1,z2,z3];rfl
def Oi:List En:=[enT Fc,enT GQ]
def akH:Ctx:=CX (ens Oi) []
def Yt(c d:BCU)(_k:KT):OLR:=match !(c.1==d.1)with|T'=>S' [RV.d .bool F']|F'=>(match !(c.2.2.2.1==d.2.2.2.1)with|T'=>S' [RV.d .bool F']|F'=>(match c.1 with|T'=>(og (D' (bK c.2.2.1/\bK d.2.2.1)) (S' [RV.d .bool (qY (dec c.2.2.1) (dec d.2.2.1))]))|F'=>(og (D' (cJ c.2.1/\cJ d.2.1)) (S' [RV.d .bool (pZ (dec c.2.1) (dec d.2.1))]))))
theorem ahy(c d:BCU):RS akH 225 [.d tCU c,.d tCU d] (Yt c d):=rsX
def ahf:Cn 225 [tCU,tCU]:=cn λ(c d:BCU)=>lf (mv [c,d]\/mv [d,c]) [.d .bool F'] λh=>by
 refine bj Oi (ahy _ _ ⟨0,?_⟩)
 have e:c.2.2.2.1=!d.2.2.2.1/\c.1=d.1:=by
  rcases h with⟨x,_,e⟩|⟨x,_,e⟩<;>(injection e with e1 e2;injection e2 with e2;rw[e1,e2];exact⟨rfl,rfl⟩)
 unfold Yt;rw[e.1,e.2];cases d.1<;>cases d.2.2.2.1<;>rfl
def Rp:List En:=[enT aaJ,enT QO]
def ac3:NT:=[((291,5),{keep:=[0,1,2,3,4,10,11],hl:=99}),((340,3),{keep:=[0,1,2,3,8],hl:=99}),((340,15),{keep:=[0,1,2,3,8,9],hl:=99}),((148,10),{keep:=[0,3,4],hl:=99}),((148,22),{keep:=[0,3,4,5],hl:=99}),((148,3),{keep:=[0],hl:=0}),((226,2),{keep:=[1,7,8,11],hl:=0}),((291,14),{keep:=[],hl:=0})]
def ah3:Ctx:=CX (ens Rp) ac3
def aax(c:BO3):OLR:=og (D' ((2:Int)=2)) (og (D' (Ea (upM c) (loM c))) (match D' ((t5 (upM c) (loM c))<0)with|T'=>none|F'=>(og (D' (Ea (loM c) (upM c))) (match(t5 (loM c) (upM c))==0 with|T'=>S' [RV.new 48 tCU []]|F'=>S' [RV.new 48 tCU ([loM c,upM c])]))))
theorem aid(c:BO3):RT ah3 148 [.d (.sl tCU) ([loM c,upM c])] (aax c):=rtX
def aiU:Cn 148 [(.sl tCU)]:=cn λ(l:List BCU)=>lf (mv l) [.new 48 tCU l] λh=>by
 obtain⟨c,hc,rfl⟩:=h;obtain⟨o1,o2,z1,z2,z3,z4⟩:=rl hc;have q1:Ea (upM c) (loM c):=⟨c,hc,.inr rfl,.inl rfl⟩
 have q2:Ea (loM c) (upM c):=⟨c,hc,.inl rfl,.inr rfl⟩
 have v1:t5 (upM c) (loM c)=1:=rfl;have v2:t5 (loM c) (upM c)= -1:=rfl;refine bj Rp (aid c ?_);unfold aax;simp only[dT q1,dT q2,v1,v2];rfl
def N6:List En:=[enK adR,enT ahf,enT aaJ,enT QO]
def aff:NT:=[((147,10),{keep:=[0,3,4,21,22],hl:=99}),((147,27),{keep:=[0,3,4,30,31,32],hl:=99}),((147,64),{keep:=[0,3,4,10,86,87,88],hl:=99}),((147,85),{keep:=[0,3,4,10,12,13,86,87,88],hl:=99}),((291,5),{keep:=[0,1,2,3,4,10,11],hl:=99}),((340,3),{keep:=[0,1,2,3,8],hl:=99}),((340,15),{keep:=[0,1,2,3,8,9],hl:=99}),((147,99),{keep:=[10],hl:=0}),((226,2),{keep:=[1,7,8,11],hl:=0}),((291,14),{keep:=[],hl:=0})]
def ah4:Ctx:=CX (ens N6) aff
def YR(c:BO3):OLR:=og (D' (mv ([loM c,upM c]))) (og (D' ((2:Int)=2)) (og (D' (Ea (upM c) (loM c))) (match D' ((t5 (upM c) (loM c))<0)with|T'=>S' [RV.new 48 tCU ([upM c,loM c])]|F'=>S' [RV.new 48 tCU ([loM c,upM c])])))
theorem alq(c:BO3):RT ah4 147 [.d (.sl tCU) ([loM c,upM c])] (YR c):=rtX
def aif:Cn 147 [(.sl tCU)]:=cn λ(l:List BCU)=>lf (mv l) [.new 48 tCU l] λh=>by
 obtain⟨c,hc,rfl⟩:=h;obtain⟨o1,o2,z1,z2,z3,z4⟩:=rl hc;have q1:Ea (upM c) (loM c):=⟨c,hc,.inr rfl,.inl rfl⟩
 have q2:Ea (loM c) (upM c):=⟨c,hc,.inl rfl,.inr rfl⟩
 have v1:t5 (upM c) (loM c)=1:=rfl;have v2:t5 (loM c) (upM c)= -1:=rfl;have t1:mv [loM c,upM c]\/mv [upM c,loM c]:=.inl ⟨c,hc,rfl⟩;have t2:mv [upM c,loM c]\/mv [loM c,upM c]:=.inr ⟨c,hc,rfl⟩;have t3:mv [loM c,upM c]:=⟨c,hc,rfl⟩
 have e1:cj [loM c,upM c] 0=enc (dY (dec c)):=rfl;have e2:cj [loM c,upM c] 1=enc (eN (dec c)):=rfl;have k:∀{p q},okP 4000 p->okP 4000 q->D' (okP 4000 p/\okP 4000 q)=true:=λh h'=>dT ⟨h,h'⟩;refine bj N6 (alq c ?_);unfold YR;simp only[dT q1,dT t3,v1];rfl
def Rj:List En:=[enT Lt,enT EJ,enT FS,enT oM,enT EV,⟨94,fp,dJ⟩,⟨194,i7,ff⟩]
def adF:NT:=[((74,17),{keep:=[1,27,30,33],hl:=0}),((143,3),{keep:=[1,5,6,9,11,14,16,19,21,24],hl:=0})]
def agF:Ctx:=CX (ens Rj) adF
def ZT(c:BCU)(_k:KT):OLR:=let y1:OLR:=match D' (okC 4000 c/\okP 4000 c.2.2.2.2.1)with|T'=>(match df (dC c) (dec c.2.2.2.2.1)with|T'=>(og (D' (okC 4000 c/\okP 4000 c.2.2.2.2.2)) (match df (dC c) (dec c.2.2.2.2.2)with|T'=>(og (D' (okP 4000 c.2.2.2.2.1/\okP 4000 c.2.2.2.2.2)) (S' [RV.d .bool (!(aB (dec c.2.2.2.2.1) (dec c.2.2.2.2.2)==0))]))|F'=>S' [RV.d .bool F']))|F'=>S' [RV.d .bool F'])|F'=>none;let y2:OLR:=match !c.1 with|T'=>(match c.2.2.2.1 with|T'=>S' [RV.d .bool F']|F'=>(og (o1 c.2.1.1) (og (o1 c.2.1.2.1) (og (o1 c.2.1.2.2) (og (o1 c.2.1.1) (match !((aD (ag c.2.1.1) 0)==0)with|T'=>y1|F'=>(og (o1 c.2.1.2.1) (match !(!((aD (ag c.2.1.2.1) 0)==0))with|T'=>S' [RV.d .bool F']|F'=>y1))))))))|F'=>y1;og (D' (okP 4000 c.2.2.2.2.1)) (og (D' (okP 4000 c.2.2.2.2.2)) (match c.1 with|T'=>(og (D' (tn c.2.2.1)) y2)|F'=>y2))
theorem akz(c:BCU):RS agF 74 [.d tCU c] (ZT c):=rsX
def ahw:Cn 74 [tCU]:=cn λ(c:BCU)=>lf (wq c) [.d .bool T'] λh=>by
 refine bj Rj (akz _ ⟨0,?_⟩);obtain⟨h1,g,h4,_⟩:=Yq h;have s1:df (dC c) (dec c.2.2.2.2.1)=true:=g.2.1;have s2:df (dC c) (dec c.2.2.2.2.2)=true:=g.2.2.1;have s3:(aB (dec c.2.2.2.2.1) (dec c.2.2.2.2.2)==0)=false:=aom.2 g.2.2.2;unfold ZT;simp only[dT h4.2.2.1,dT h4.2.2.2,h1,dT (h4.1 h1),s1,s2,s3,dT (show okC 4000 c/\okP 4000 c.2.2.2.2.1 from⟨h4,h4.2.2.1⟩),dT (show okC 4000 c/\okP 4000 c.2.2.2.2.2 from⟨h4,h4.2.2.2⟩),dT (show okP 4000 c.2.2.2.2.1/\okP 4000 c.2.2.2.2.2 from h4.2.2)];rfl
def OB:List En:=[enK ahM,enK akw,enK aiU,enK aif]
def acF:NT:=[((76,8),{keep:=[3,6,7,8],hl:=99})]
def akU:Ctx:=CX (ens OB) acF
def Z5(c:BO3):OLR:=og (D' (wq (loM c))) (og (D' (wq (hiM c))) (og (D' (mv ([jR (loM c),jR (hiM c)]))) (og (D' (mv ([jR (loM c),jR (hiM c)]))) (og (D' (mv ([jR (loM c),jR (hiM c)]))) (S' [RV.new 48 tCU ([jR (loM c),jR (hiM c)])])))))
theorem aiQ(c:BO3):RT akU 76 [.d (.sl tCU) ([loM c,hiM c])] (Z5 c):=rtX
def ajc:Cn 76 [(.sl tCU)]:=cn λ(l:List BCU)=>lf (uQ l) [.new 48 tCU (l.map jR)] λh=>by
 obtain⟨c,hc,rfl⟩:=h;have p:mv [jR (loM c),jR (hiM c)]:=⟨c,hc,by rw[(Ew hc).1,(Ew hc).2]⟩
 refine bj OB (aiQ c ?_);unfold Z5;rw[dT (show wq (loM c) from⟨hc,.inl rfl⟩),dT (show wq (hiM c) from⟨hc,.inr rfl⟩),dT p];rfl
def TU:List En:=[enT ahw,enK adJ,enK ajc]
def ad7:NT:=[((141,6),{keep:=[0,1,7,8],hl:=99}),((30,22),{keep:=[0,2,15,16,17],hl:=99}),((30,12),{keep:=[0,2,12],hl:=0}),((72,3),{keep:=[7],hl:=0}),((141,18),{keep:=[0,1,5,7,8,16],hl:=0})]
def aic:Ctx:=CX (ens TU) ad7
def aac(c:BO3):OLR:=og (D' (wq (loM c))) (og (D' (wq (hiM c))) (og (D' (uQ ([loM c,hiM c]))) (og (D' (uQ ([loM c,hiM c]))) (match D' (((([loM c,hiM c]).map jR).length:Int)>400)with|T'=>S' [RV.d (.st (.sl tCU)) ([]),RV.d arf 3]|F'=>S' [RV.d (.st (.sl tCU)) (([loM c,hiM c]).map jR),RV.d arf 0]))))
theorem ahT(c:BO3):RT aic 30 [.d (.sl tCU) ([loM c,hiM c])] (aac c):=rtX
def alT:Cn 30 [(.sl tCU)]:=cn λ(l:List BCU)=>lf (uQ l) [.d (.st (.sl tCU)) (l.map jR),.d arf 0] λh=>by
 obtain⟨c,hc,rfl⟩:=h;obtain⟨o1,o2,z1,z2,z3,z4⟩:=rl hc;have t3:uQ [loM c,hiM c]:=⟨c,hc,rfl⟩
 have e1:cj [loM c,hiM c] 0=enc (dY (dec c)):=rfl;have e2:cj [loM c,hiM c] 1=enc (eN (dec c)):=rfl;have k:∀{p q},okP 4000 p->okP 4000 q->D' (okP 4000 p/\okP 4000 q)=true:=λh h'=>dT ⟨h,h'⟩;refine bj TU (ahT c ?_);unfold aac;simp only[dT (show wq (loM c) from⟨hc,.inl rfl⟩),dT (show wq (hiM c) from⟨hc,.inr rfl⟩),dT t3];rfl
def Ug:List En:=[enT EJ,enL akB,enK alT]
def ahn:Ctx:=CX (ens Ug) []
def aaQ(c:BO3)(_k:KT):OLR:=og (D' (tn c)) (og (D' (bK c)) (og (D' (uQ (WX c))) (S' [RV.d (.st (.sl tCU)) ((WX c).map jR),RV.d arf 0])))
theorem agW(c:BO3):RS ahn 13 [.d tO c] (aaQ c):=rsX
def Jd:Cn 13 [tO]:=cn λ(c:BO3)=>lf (bK c) [.d (.st (.sl tCU)) ([loM c,upM c]),.d arf 0] λh=>by
 refine bj Ug (agW _ ⟨0,?_⟩);unfold aaQ;rw[dT (show tn c from(CO h).1.1.1.1 rfl),dT h,dT (show uQ (WX c) from⟨c,h,rfl⟩)];show S' [RV.d (.st (.sl tCU)) [jR (loM c),jR (hiM c)],RV.d arf 0]=_;rw[(Ew h).1,(Ew h).2]
end
section
section
variable {R:Type}
def fcL{α:Type}:List α->(List α->R)->R
 |[],k=>k []
 |x::l,k=>fcL l λl'=>k (x::l')
theorem afL{α:Type}:∀(l:List α) (k:List α->R),fcL l k=k l
 |[],_=>rfl
 |_x::l,_k=>afL l _
def fcE{α:Type}(f:α->(α->R)->R):List α->(List α->R)->R
 |[],k=>k []
 |x::l,k=>f x λy=>fcE f l λl'=>k (y::l')
theorem DX{α:Type}{f:α->(α->R)->R}(h:∀x k,f x k=k x):∀(l:List α) (k:List α->R),fcE f l k=k l
 |[],_=>rfl
 |x::l,k=>by rw[fcE,h,DX h]
def fcD:(t:Ty)->t.D->(t.D->R)->R
 |.int _,x,k=>match(x:Int)with
  |.ofNat n=>frc n λn'=>k (Int.ofNat n')
  |.negSucc n=>frc n λn'=>k (Int.negSucc n')
 |.bool,x,k=>match(x:Bool)with
  |true=>k true
  |false=>k false
 |.str,x,k=>k x
 |.sl e,x,k=>fcE (fcD e) x k
 |.pair a b,x,k=>match(x:a.D×b.D)with
  |(y,z)=>fcD a y λy'=>fcD b z λz'=>k (y',z')
 |.st a,x,k=>fcD a x k
theorem pn:∀(t:Ty) (x:t.D) (k:t.D->R),fcD t x k=k x
 |.int q,x,k=>by
  have:∀y:Int,fcD (.int q) y k=k y:=λy=>match y with
   |.ofNat n=>hZ n λn'=>k (Int.ofNat n')
   |.negSucc n=>hZ n λn'=>k (Int.negSucc n')
  exact this x
 |.bool,x,k=>by cases(x:Bool)<;>rfl
 |.str,_,_=>rfl
 |.sl e,x,k=>DX (pn e) x k
 |.pair a b,x,k=>by obtain⟨y,z⟩:=x;exact(pn a y _).trans (pn b z _)
 |.st a,x,k=>pn a x k
def fcN:List Nat->(List Nat->R)->R
 |[],k=>k []
 |n::l,k=>frc n λn'=>fcN l λl'=>k (n'::l')
theorem H7:∀(l:List Nat) (k:List Nat->R),fcN l k=k l
 |[],_=>rfl
 |n::l,k=>by rw[fcN,hZ,H7]
def afJ(t:Ty)(x:t.D)(k:t.D->R):R:=match t,x,k with
 |.int q,x,k=>fcD (.int q) x k
 |.bool,x,k=>fcD .bool x k
 |_,x,k=>k x
theorem Lb(t:Ty)(x:t.D)(k:t.D->R):afJ t x k=k x:=by cases t<;>first|rfl|exact pn _ x k
def fcV(s:SV)(k:SV->R):R:=match s with
 |.d t x=>afJ t x λy=>k (.d t y)
 |.own j=>frc j λj'=>k (.own j')
 |.box j o=>frc j λj'=>frc o λo'=>k (.box j' o')
 |.oelt j a b c=>frc j λj'=>frc a λa'=>frc b λb'=>frc c λc'=>k (.oelt j' a' b' c')
 |.osl j a b c=>frc j λj'=>frc a λa'=>frc b λb'=>frc c λc'=>k (.osl j' a' b' c')
 |.clo f l=>fcN l λl'=>k (.clo f l')
 |s=>k s
theorem R9(s:SV)(k:SV->R):fcV s k=k s:=by
 cases s<;>first|rfl|simp only[fcV,Lb,hZ,H7]
def fcS:List SV->(List SV->R)->R
 |[],k=>k []
 |s::l,k=>fcV s λs'=>fcS l λl'=>k (s'::l')
theorem He:∀(l:List SV) (k:List SV->R),fcS l k=k l
 |[],_=>rfl
 |s::l,k=>by rw[fcS,R9,He]
def fcI(it:Item)(k:Item->R):R:=match it with
 |.row et e xs=>fcE (afJ e) xs λxs'=>k (.row et e xs')
 |.rws t cs=>fcS cs λcs'=>k (.rws t cs')
 |.box t cs=>fcS cs λcs'=>k (.box t cs')
 |it=>k it
theorem afO(it:Item)(k:Item->R):fcI it k=k it:=by
 unfold fcI;split
 ·rw[DX (Lb _)]
 ·rw[He]
 ·rw[He]
 ·rfl
def fcH:List Item->(List Item->R)->R
 |[],k=>k []
 |it::l,k=>fcI it λit'=>fcH l λl'=>k (it'::l')
theorem PN:∀(l:List Item) (k:List Item->R),fcH l k=k l
 |[],_=>rfl
 |s::l,k=>by rw[fcH,afO,PN]
def fcP:SL->(SL->R)->R
 |[],k=>k []
 |(t,s)::l,k=>frc t λt'=>fcV s λs'=>fcP l λl'=>k ((t',s')::l')
theorem Ix:∀(l:SL) (k:SL->R),fcP l k=k l
 |[],_=>rfl
 |(t,s)::l,k=>by rw[fcP,hZ,R9,Ix]
def fcK:List KJ->(List KJ->R)->R
 |[],k=>k []
 |x::l,k=>match x with
  |.seq i=>frc i λi'=>fcK l λl'=>k (.seq i'::l')
  |.blk i=>frc i λi'=>fcK l λl'=>k (.blk i'::l')
  |.lp i=>frc i λi'=>fcK l λl'=>k (.lp i'::l')
theorem Iq:∀(l:List KJ) (k:List KJ->R),fcK l k=k l
 |[],_=>rfl
 |x::l,k=>by cases x<;>(rw[fcK];simp only[hZ,Iq])
def fcF:List Fm->(List Fm->R)->R
 |[],k=>k []
 |⟨f,K,i,j,L,fl,d⟩::l,k=>frc f λf=>fcK K λK=>frc i λi=>frc j λj=>fcP L λL=>frc fl λfl=>match d with
  |none=>fcF l λl'=>k (⟨f,K,i,j,L,fl,none⟩::l')
  |some D=>fcN D λD=>fcF l λl'=>k (⟨f,K,i,j,L,fl,some D⟩::l')
theorem PD:∀(l:List Fm) (k:List Fm->R),fcF l k=k l
 |[],_=>rfl
 |⟨f,K,i,j,L,fl,d⟩::l,k=>by cases d<;>(rw[fcF];simp only[hZ,Iq,Ix,H7,PD])
def fcR:List RV->(List RV->R)->R
 |[],k=>k []
 |x::l,k=>match x with
  |.d t x=>fcD t x λy=>fcR l λl'=>k (.d t y::l')
  |.new et e xs=>fcE (fcD e) xs λys=>fcR l λl'=>k (.new et e ys::l')
theorem Hw:∀(l:List RV) (k:List RV->R),fcR l k=k l
 |[],_=>rfl
 |x::l,k=>by
  cases x<;>rw[fcR]
  ·simp only[pn,Hw l]
  ·simp only[DX (pn _),Hw l]
def ad5(s:cE):cE:=match s with
 |⟨k,r,m,t,l⟩=>⟨k,λR a c=>r R a λrs=>fcR rs c,m,t,match l with
  |some (p,g)=>some (p,λR a c=>g R a λrs=>fcR rs c)
  |none=>none⟩
theorem V4(s:cE):ad5 s=s:=by
 obtain⟨k,r,m,t,l⟩:=s;rcases l with _|⟨p,g⟩<;>simp only[ad5,Hw]
def Ba(E:Env):Env:=E.map λp=>(p.1,ad5 p.2)
theorem Gv(E:Env):Ba E=E:=by simp only[Ba,V4,List.map_id']
def al4:OLR->OLR
 |some r=>some r
 |none=>none
theorem WL(x:OLR):al4 x=x:=by cases x<;>rfl
end
def TV(P:Program)(F:FT)(T:TT)(E:Env)(N:NT):Nat->Nat->Cfg->OLR
 |0,_,_=>none
 |n+1,i,⟨f,K,L,H,fl,fs⟩=>frc i λi=>frc f λf=>fcK K λK=>fcP L λL=>fcH H λH=>frc fl λfl=>fcF fs λfs=>al4 (go2 P F T E N (TV P F T E N n) 4000 ⟨f,.lp i::K,L,H,fl,fs⟩ (.node (i+1)))
theorem DG(P:Program)(F:FT)(T:TT)(E:Env)(N:NT):∀n,TV P F T E N n=run P F T E N n
 |0=>rfl
 |n+1=>by
  funext i c;obtain⟨f,K,L,H,fl,fs⟩:=c;rw[TV,hZ,hZ,Iq,Ix,PN,hZ,PD,WL,DG P F T E N n,n9];rfl
def fcA{R:Type}:List SV->(List SV->R)->R
 |[],k=>k []
 |s::l,k=>match s with
  |.d t x=>fcD t x λy=>fcA l λl'=>k (.d t y::l')
  |s=>fcA l λl'=>k (s::l')
theorem Hq{R:Type}:∀(l:List SV) (k:List SV->R),fcA l k=k l
 |[],_=>rfl
 |s::l,k=>by cases s<;>simp only[fcA,pn,Hq l]
theorem rtF{E:Env}{N:NT}{f:Nat}{args:List SV}{r:List RV}(e:(fcA args λargs=>go2 Tryz.prog ft tys (Ba E) N (TV Tryz.prog ft tys (Ba E) N 9999) 4000 (m9 f args) (.node 0))=S' r:=by kernel_rfl):(CX E N).Res f args r:=by
 rw[Hq,Gv,DG,n9]at e;exact⟨9999,e⟩
theorem W5{E:Env}{N:NT}{f p:Nat}{args:List SV}{r:List RV}(e:(fcA args λargs=>go2 Tryz.prog ft tys (Ba E) N (TV Tryz.prog ft tys (Ba E) N 9999) 4000 (vo f p args) (.node 0))=S' r:=by kernel_rfl):(CX E N).ResL f p args r:=by
 rw[Hq,Gv,DG,n9]at e;exact⟨9999,e⟩
end
def zE(a b c d:Rat):BCU:=yx (a,b) (c,d)
def zV(a b c d:Rat):BCU:=gT (zE a b c d)
def zPA:List BCU:=[zE 0 0 4 0,zE 4 0 4 4,zV 4 4 0 4,zV 0 4 0 0,zE 1 1 3 1,zE 3 1 3 3,zV 3 3 1 3,zV 1 3 1 1]
def zPB:List BCU:=[zE 0 0 2 0,zE 2 0 2 2,zV 2 2 0 2,zV 0 2 0 0,zE 2 2 4 2,zE 4 2 4 4,zV 4 4 2 4,zV 2 4 2 2]
def zMA:List BCU:=[zE 0 0 4 0,zV 0 4 0 0,zV 4 4 0 4,zE 1 1 3 1,zV 1 3 1 1,zV 3 3 1 3,zE 3 1 3 3,zE 4 0 4 4]
def zMB:List BCU:=[zE 0 0 2 0,zV 0 2 0 0,zV 2 2 0 2,zE 2 0 2 2,zE 2 2 4 2,zV 2 4 2 2,zV 4 4 2 4,zE 4 2 4 4]
def zIn(a b l:List BCU):Prop:=Ty.beq (.sl tCU) l a=T'\/Ty.beq (.sl tCU) l b=T'
instance (a b l:List BCU):Decidable (zIn a b l):=by unfold zIn;infer_instance
def Ca:cE:=spN F' T' [arf] (λx=>D' (bH x.1)) (λx=>[RV.d tI (ah x.1)])
theorem zt:SpK 269 Ca:=spX λx h=>Dl x.1 (anP h)
def Ef:cE:=spN T' T' [tI] (λx=>D' (okI x.1)) (λx=>[RV.d arf (b8 (ab x.1) 0)])
theorem zB:SpK 178 Ef:=spX λx h=>C6 x.1 (anP h)
def CA:cE:=spN T' T' [tI,tI] (λx=>D' (okI x.1/\okI x.2.1)) (λx=>[RV.d arf (b8 (ab x.1) (ab x.2.1))])
theorem yg:SpK 108 CA:=spX λx h=>Do x.1 x.2.1 (anP h)
def DL:cE:=spN F' T' [tI,tI] (λx=>D' (okI x.1/\okI x.2.1)) (λx=>[RV.d tI (ah (ab x.1+ab x.2.1))])
theorem yQ:SpK 202 DL:=spX λx h=>K0 x.1 x.2.1 (anP h)
def CJ:cE:=spN F' T' [tI,tI] (λx=>D' (okI x.1/\okI x.2.1)) (λx=>[RV.d tI (ah (ab x.1-ab x.2.1))])
theorem yd:SpK 368 CJ:=spX λx h=>Lw x.1 x.2.1 (anP h)
def B5:cE:=spN F' T' [tI] (λx=>D' (okI x.1)) (λx=>[RV.d tI (ah (-ab x.1))])
theorem xV:SpK 273 B5:=spX λx h=>Dq x.1 (anP h)
def DY:cE:=spN F' T' [tI,tI] (λx=>D' (okI x.1/\okI x.2.1)) (λx=>[RV.d tI (ah (ab x.1*ab x.2.1))])
theorem xJ:SpK 109 DY:=spX λx h=>D0 x.1 x.2.1 (anP h)
def C3:cE:=spN T' T' [tR] (λx=>D' (okR x.1)) (λx=>[RV.d arf (aD (ag x.1) 0)])
theorem yN:SpK 94 C3:=spX λx h=>Ei x.1 (anP h)
def Dk:cE:=spN T' T' [tR,tR] (λx=>D' (okR x.1/\okR x.2.1)) (λx=>[RV.d arf (aD (ag x.1) (ag x.2.1))])
theorem zA:SpK 46 Dk:=spX λx h=>Lg x.1 x.2.1 (anP h)
def D5:cE:=spN F' T' [tR,tR] (λx=>D' (okR x.1/\okR x.2.1)) (λx=>[RV.d tR (av (ag x.1+ag x.2.1))])
theorem yj:SpK 122 D5:=spX λx h=>DU x.1 x.2.1 (anP h)
def CQ:cE:=spN F' T' [tR,tR] (λx=>D' (okR x.1/\okR x.2.1)) (λx=>[RV.d tR (av (ag x.1-ag x.2.1))])
theorem zy:SpK 165 CQ:=spX λx h=>JH x.1 x.2.1 (anP h)
def CD:cE:=spN F' T' [tR,tR] (λx=>D' (okR x.1/\okR x.2.1)) (λx=>[RV.d tR (av (ag x.1*ag x.2.1))])
theorem zh:SpK 123 CD:=spX λx h=>Lz x.1 x.2.1 (anP h)
def D8:cE:=spN F' T' [tR] (λx=>D' (okR x.1)) (λx=>[RV.d tR (av (-ag x.1))])
theorem xL:SpK 196 D8:=spX λx h=>El x.1 (anP h)
def D3:cE:=spN F' T' [tR,tR] (λx=>D' (jX x.1 x.2.1)) (λx=>[RV.d tR (av (ag x.1/ag x.2.1)),RV.d arf 0])
theorem zN:SpK 164 D3:=spX λx h=>Ka x.1 x.2.1 (anP h)
def DV:cE:=spN F' T' [arf] (λx=>D' (bH x.1)) (λx=>[RV.d tR (av (x.1:Rat))])
theorem yi:SpK 194 DV:=spX λx h=>Ke x.1 (anP h)
def pM:List En:=[enV lj,enV qf,enV rO,enV uz,⟨269,Ca,zt⟩,⟨178,Ef,zB⟩,⟨108,CA,yg⟩,⟨202,DL,yQ⟩,⟨368,CJ,yd⟩,⟨273,B5,xV⟩,⟨109,DY,xJ⟩,enU Gw,⟨94,C3,yN⟩,⟨46,Dk,zA⟩,⟨122,D5,yj⟩,⟨165,CQ,zy⟩,⟨123,CD,zh⟩,⟨196,D8,xL⟩,⟨164,D3,zN⟩,⟨194,DV,yi⟩,enV BS,enV xm,enV AC,enV we,enU ro,enU FQ,enU JU,enV un,enV ww,enV DQ,enU oN,enU oM,enV BX,enU Lt,enU FI,enU EX,enU GQ,enU Fc,enU EJ,enU KA,enU EV,enU FS,enV B0,enV Kf,enK Gi,enV Hd,enV Jd,enU Gf,enU GS,enU O5,enK IB,enB 0 P9]
def abJ:NT:=[((149,8),{keep:=[0,3,19,20,21],hl:=0,dyn:=T'}),((149,4019),{keep:=[0,3,19,20,21,26,27,29],hl:=0}),((149,27),{keep:=[0,3,6,36,37],hl:=0,dyn:=T'}),((149,41),{keep:=[0,3,6,7,36,37,40,41],hl:=0,dyn:=T'}),((149,54),{keep:=[0,3,6,7,8,36,37,40,41,44,45,46,47,48,49,50,51,52],hl:=0}),((149,69),{keep:=[6,11,85,86,87],hl:=0,dyn:=T'}),((227,8),{keep:=[1,2,3,20,21,22],hl:=0,dyn:=T'}),((227,3031),{keep:=[1,2,3,20,21,22],hl:=0})]
def XS:NT:=[((147,10),{keep:=[0,3,4,21,22],hl:=0,dyn:=T'}),((147,2025),{keep:=[0,3,4,30],hl:=0}),((147,27),{keep:=[0,3,4,30,31,32],hl:=0,dyn:=T'}),((147,53),{keep:=[0,3,4,8,9,30,31,32,64,65,66,67,68,69,70,71,72,73,74,75,76,77],hl:=0}),((147,64),{keep:=[0,3,4,10,86,87,88],hl:=0,dyn:=T'}),((147,85),{keep:=[0,3,4,10,12,13,86,87,88],hl:=0,dyn:=T'}),((147,2099),{keep:=[10],hl:=0}),((75,8),{keep:=[3,8,9,10],hl:=0,dyn:=T'}),((226,5002),{keep:=[1,7,8,11],hl:=0}),((226,7002),{keep:=[],hl:=0}),((292,3005),{keep:=[5],hl:=0}),((292,2009),{keep:=[7],hl:=0}),((291,5),{keep:=[0,1,2,3,4,10,11],hl:=0,dyn:=T'}),((291,5014),{keep:=[],hl:=0}),((291,5022),{keep:=[],hl:=0}),((291,5030),{keep:=[0,1,2,3,4,10,11,12],hl:=0}),((291,5034),{keep:=[0,1,2,3,4,10,11,12,52],hl:=0}),((291,5040),{keep:=[0,1,2,3,4,10,11,12,13],hl:=0}),((291,5050),{keep:=[0,1,2,3,4,10,11,12,13,80],hl:=0}),((291,57),{keep:=[0,1,2,3,4,10,11,12,13,81,82,83,84,85,86,87,88,89,90,91,92,93,94,95,96,97],hl:=0}),((291,6060),{keep:=[0,2,3,4,10,11,103],hl:=0}),((291,6066),{keep:=[0,1,2,3,4,12,111],hl:=0}),((291,6079),{keep:=[0,2,3,4,10,11,16],hl:=0}),((291,7084),{keep:=[0,1,3,4,10,11,16],hl:=0}),((350,8),{keep:=[0,1,4,12,13],hl:=0,dyn:=T'}),((350,11),{keep:=[0,1,4,12,13,32,33,34,35,36,37,38,39,40,41,42,43,44,45,46,47],hl:=0}),((350,19),{keep:=[0,1,4,12,13],hl:=0,dyn:=T'}),((350,22),{keep:=[0,1,4,12,13,50,51,52,53,54,55,56,57,58,59,60,61,62,63,64,65,66],hl:=0}),((350,46),{keep:=[0,1,4,12,13],hl:=0,dyn:=T'}),((350,50),{keep:=[0,1,4,12,13],hl:=0,dyn:=T'}),((350,53),{keep:=[0,1,4,12,13,105,106,107,108,109,110,111,112,113,114,115,116,117,118,119,120],hl:=0}),((350,61),{keep:=[0,1,4,12,13],hl:=0,dyn:=T'}),((350,64),{keep:=[0,1,4,12,13,123,124,125,126,127,128,129,130,131,132,133,134,135,136,137,138,139],hl:=0}),((349,8),{keep:=[0,1,4,11,12],hl:=0,dyn:=T'}),((349,12),{keep:=[0,1,4,11,12],hl:=0,dyn:=T'}),((349,15),{keep:=[0,1,4,11,12,31,32,33,34,35,36,37,38,39,40,41,42,43,44,45,46,47],hl:=0}),((349,23),{keep:=[0,1,4,11,12],hl:=0,dyn:=T'}),((349,26),{keep:=[0,1,4,11,12,50,51,52,53,54,55,56,57,58,59,60,61,62,63,64,65],hl:=0}),((348,8),{keep:=[0,1,2,3,9,10],hl:=0,dyn:=T'}),((348,19),{keep:=[0,1,2,3,9,10],hl:=0,dyn:=T'}),((348,22),{keep:=[0,1,2,3,9,10,19,20,21,22,23,24,25,26,27,28,29,30,31,32,33,34,35,36],hl:=0}),((348,53),{keep:=[0,1,2,3,9,10,11],hl:=0,dyn:=T'}),((348,64),{keep:=[0,1,2,3,9,10,11,72,73,74,75,76,77,78,79,80,81,82,83,84],hl:=0}),((348,77),{keep:=[0,1,2,3,9,10,12],hl:=0,dyn:=T'}),((348,88),{keep:=[0,1,2,3,9,10,12,112,113,114,115,116,117,118,119,120,121,122,123,124],hl:=0}),((347,5),{keep:=[0,8,9],hl:=0,dyn:=T'}),((346,4021),{keep:=[0,3,11,13,14,40],hl:=0}),((346,4023),{keep:=[0,3,11,12,14,44],hl:=0}),((346,4024),{keep:=[0,3,11,12,13,48],hl:=0}),((346,6026),{keep:=[11,54],hl:=0}),((381,6003),{keep:=[0,3,4,5,19],hl:=0}),((381,6005),{keep:=[0,1,4,5,28],hl:=0}),((381,6007),{keep:=[37],hl:=0}),((392,4),{keep:=[0,1,2,3,4,12,13,14,15,16,17,18,19,20,21,22],hl:=0}),((380,9003),{keep:=[17],hl:=0}),((345,2008),{keep:=[0,1,8,9,21],hl:=0}),((345,12),{keep:=[0,1,8,9,10,11],hl:=0,dyn:=T'}),((345,1022),{keep:=[0,1,8,9,10,11,38],hl:=0}),((378,3003),{keep:=[5],hl:=0}),((344,10),{keep:=[0,3,8,9,10,11],hl:=0,dyn:=T'}),((344,6019),{keep:=[0,3,8,9,10,11],hl:=0}),((344,24),{keep:=[0,3,8,9,12],hl:=0,dyn:=T'}),((344,6035),{keep:=[0,3,8,9,12],hl:=0}),((377,3),{keep:=[0,2,3,4,10],hl:=0,dyn:=T'}),((377,15),{keep:=[0,2,3,4,10,11,19,20,21,22,23,24,25,26,27,28,29,30,31,32,33,34,35,36,37,38,39,40],hl:=0}),((377,21),{keep:=[0,2,3,4,10,11,43,44,45,46,47,48,49,50,51,52,53,54,55,56,57,58],hl:=0}),((340,3),{keep:=[0,1,2,3,8],hl:=0,dyn:=T'}),((340,15),{keep:=[0,1,2,3,8,9],hl:=0,dyn:=T'}),((340,18),{keep:=[0,1,2,3,8,9,18,19,20,21,22,23,24,25,26,27,28,29,30,31,32,33,34],hl:=0})]
set_option maxRecDepth 1000000 in
theorem alW:(CX (ens pM) abJ).Res 149 [.d (.sl tCU) zPA] [.new 48 tCU zPA]:=rtF
set_option maxRecDepth 1000000 in
theorem agD:(CX (ens pM) abJ).Res 149 [.d (.sl tCU) zPB] [.new 48 tCU zPB]:=rtF
set_option maxRecDepth 1000000 in
theorem aiz:(CX (ens pM) XS).ResL 147 0 [.d (.sl tCU) zMA] [.new 48 tCU zMA]:=W5
set_option maxRecDepth 1000000 in
theorem akS:(CX (ens pM) XS).ResL 147 0 [.d (.sl tCU) zMB] [.new 48 tCU zMB]:=W5
def ajs:Cn 149 [(.sl tCU)]:=cn λ(l:List BCU)=>lf (zIn zPA zPB l) [.new 48 tCU l] λh=>by
 rcases h with h|h
 ·rw[Ty.beq_ok (.sl tCU) l _ h];exact bj pM alW
 ·rw[Ty.beq_ok (.sl tCU) l _ h];exact bj pM agD
def aib:CG (Iz Tryz.prog 147 0) [(.sl tCU)] id:=λ(l:List BCU)=>lf (zIn zMA zMB l) [.new 48 tCU l] λh=>by
 rcases h with h|h
 ·rw[Ty.beq_ok (.sl tCU) l _ h];exact FP pM aiz
 ·rw[Ty.beq_ok (.sl tCU) l _ h];exact FP pM akS
def zSA:List BCU:=[zE 0 0 4 0,zE 4 0 4 4,zE 4 4 0 4,zE 0 4 0 0,zE 1 1 3 1,zE 3 1 3 3,zE 3 3 1 3,zE 1 3 1 1]
def zSB:List BCU:=[zE 0 0 2 0,zE 2 0 2 2,zE 2 2 0 2,zE 0 2 0 0,zE 2 2 4 2,zE 4 2 4 4,zE 4 4 2 4,zE 2 4 2 2]
def zFl(l:List BCU):List BCU:=bif Ty.beq (.sl tCU) l zSA then zMA else zMB
theorem agZ:zFl zSA=zMA:=by
 have h:Ty.beq (.sl tCU) zSA zSA=true:=by kernel_rfl
 unfold zFl;rw[h,cond_true]
theorem al1:zFl zSB=zMB:=by
 have h:Ty.beq (.sl tCU) zSB zSA=false:=by kernel_rfl
 unfold zFl;rw[h,cond_false]
def Cb:List En:=[enV lj,enV qf,enV rO,enV uz,⟨269,Ca,zt⟩,⟨178,Ef,zB⟩,⟨108,CA,yg⟩,⟨202,DL,yQ⟩,⟨368,CJ,yd⟩,⟨273,B5,xV⟩,⟨109,DY,xJ⟩,enU Gw,⟨94,C3,yN⟩,⟨46,Dk,zA⟩,⟨122,D5,yj⟩,⟨165,CQ,zy⟩,⟨123,CD,zh⟩,⟨196,D8,xL⟩,⟨164,D3,zN⟩,⟨194,DV,yi⟩,enV BS,enV xm,enV AC,enV we,enU ro,enU FQ,enU JU,enV un,enV ww,enV DQ,enU oN,enU oM,enV BX,enU Lt,enU FI,enU EX,enU GQ,enU Fc,enU EJ,enU KA,enU EV,enU FS,enV B0,enV Kf,enK Gi,enV Hd,enV Jd,enU Gf,enU GS,enU O5,enK IB,enK ajs,enB 0 P9,enB 0 aib]
def abw:NT:=[((30,2012),{keep:=[0,2,12],hl:=0}),((30,2020),{keep:=[0,2,15],hl:=0}),((30,22),{keep:=[0,2,15,16,17],hl:=0,dyn:=T'}),((30,2042),{keep:=[2,28],hl:=0}),((76,8),{keep:=[3,6,7,8],hl:=0,dyn:=T'}),((76,3022),{keep:=[19],hl:=0}),((148,2003),{keep:=[0],hl:=0}),((148,10),{keep:=[0,3,4],hl:=0,dyn:=T'}),((148,22),{keep:=[0,3,4,5],hl:=0,dyn:=T'}),((226,5002),{keep:=[1,7,8,11],hl:=0}),((226,7002),{keep:=[],hl:=0}),((292,3005),{keep:=[5],hl:=0}),((292,2009),{keep:=[7],hl:=0}),((291,5),{keep:=[0,1,2,3,4,10,11],hl:=0,dyn:=T'}),((291,5014),{keep:=[],hl:=0}),((291,5022),{keep:=[],hl:=0}),((291,5030),{keep:=[0,1,2,3,4,10,11,12],hl:=0}),((291,5034),{keep:=[0,1,2,3,4,10,11,12,52],hl:=0}),((291,5040),{keep:=[0,1,2,3,4,10,11,12,13],hl:=0}),((291,5050),{keep:=[0,1,2,3,4,10,11,12,13,80],hl:=0}),((291,57),{keep:=[0,1,2,3,4,10,11,12,13,81,82,83,84,85,86,87,88,89,90,91,92,93,94,95,96,97],hl:=0}),((291,6060),{keep:=[0,2,3,4,10,11,103],hl:=0}),((291,6066),{keep:=[0,1,2,3,4,12,111],hl:=0}),((291,6079),{keep:=[0,2,3,4,10,11,16],hl:=0}),((291,7084),{keep:=[0,1,3,4,10,11,16],hl:=0}),((350,8),{keep:=[0,1,4,12,13],hl:=0,dyn:=T'}),((350,11),{keep:=[0,1,4,12,13,32,33,34,35,36,37,38,39,40,41,42,43,44,45,46,47],hl:=0}),((350,19),{keep:=[0,1,4,12,13],hl:=0,dyn:=T'}),((350,22),{keep:=[0,1,4,12,13,50,51,52,53,54,55,56,57,58,59,60,61,62,63,64,65,66],hl:=0}),((350,46),{keep:=[0,1,4,12,13],hl:=0,dyn:=T'}),((350,50),{keep:=[0,1,4,12,13],hl:=0,dyn:=T'}),((350,53),{keep:=[0,1,4,12,13,105,106,107,108,109,110,111,112,113,114,115,116,117,118,119,120],hl:=0}),((350,61),{keep:=[0,1,4,12,13],hl:=0,dyn:=T'}),((350,64),{keep:=[0,1,4,12,13,123,124,125,126,127,128,129,130,131,132,133,134,135,136,137,138,139],hl:=0}),((349,8),{keep:=[0,1,4,11,12],hl:=0,dyn:=T'}),((349,12),{keep:=[0,1,4,11,12],hl:=0,dyn:=T'}),((349,15),{keep:=[0,1,4,11,12,31,32,33,34,35,36,37,38,39,40,41,42,43,44,45,46,47],hl:=0}),((349,23),{keep:=[0,1,4,11,12],hl:=0,dyn:=T'}),((349,26),{keep:=[0,1,4,11,12,50,51,52,53,54,55,56,57,58,59,60,61,62,63,64,65],hl:=0}),((348,8),{keep:=[0,1,2,3,9,10],hl:=0,dyn:=T'}),((348,19),{keep:=[0,1,2,3,9,10],hl:=0,dyn:=T'}),((348,22),{keep:=[0,1,2,3,9,10,19,20,21,22,23,24,25,26,27,28,29,30,31,32,33,34,35,36],hl:=0}),((348,53),{keep:=[0,1,2,3,9,10,11],hl:=0,dyn:=T'}),((348,64),{keep:=[0,1,2,3,9,10,11,72,73,74,75,76,77,78,79,80,81,82,83,84],hl:=0}),((348,77),{keep:=[0,1,2,3,9,10,12],hl:=0,dyn:=T'}),((348,88),{keep:=[0,1,2,3,9,10,12,112,113,114,115,116,117,118,119,120,121,122,123,124],hl:=0}),((347,5),{keep:=[0,8,9],hl:=0,dyn:=T'}),((346,4021),{keep:=[0,3,11,13,14,40],hl:=0}),((346,4023),{keep:=[0,3,11,12,14,44],hl:=0}),((346,4024),{keep:=[0,3,11,12,13,48],hl:=0}),((346,6026),{keep:=[11,54],hl:=0}),((381,6003),{keep:=[0,3,4,5,19],hl:=0}),((381,6005),{keep:=[0,1,4,5,28],hl:=0}),((381,6007),{keep:=[37],hl:=0}),((392,4),{keep:=[0,1,2,3,4,12,13,14,15,16,17,18,19,20,21,22],hl:=0}),((380,9003),{keep:=[17],hl:=0}),((345,2008),{keep:=[0,1,8,9,21],hl:=0}),((345,12),{keep:=[0,1,8,9,10,11],hl:=0,dyn:=T'}),((345,1022),{keep:=[0,1,8,9,10,11,38],hl:=0}),((378,3003),{keep:=[5],hl:=0}),((344,10),{keep:=[0,3,8,9,10,11],hl:=0,dyn:=T'}),((344,6019),{keep:=[0,3,8,9,10,11],hl:=0}),((344,24),{keep:=[0,3,8,9,12],hl:=0,dyn:=T'}),((344,6035),{keep:=[0,3,8,9,12],hl:=0}),((377,3),{keep:=[0,2,3,4,10],hl:=0,dyn:=T'}),((377,15),{keep:=[0,2,3,4,10,11,19,20,21,22,23,24,25,26,27,28,29,30,31,32,33,34,35,36,37,38,39,40],hl:=0}),((377,21),{keep:=[0,2,3,4,10,11,43,44,45,46,47,48,49,50,51,52,53,54,55,56,57,58],hl:=0}),((340,3),{keep:=[0,1,2,3,8],hl:=0,dyn:=T'}),((340,15),{keep:=[0,1,2,3,8,9],hl:=0,dyn:=T'}),((340,18),{keep:=[0,1,2,3,8,9,18,19,20,21,22,23,24,25,26,27,28,29,30,31,32,33,34],hl:=0}),((75,8),{keep:=[3,8,9,10],hl:=0,dyn:=T'}),((73,2003),{keep:=[4],hl:=0}),((74,10017),{keep:=[1,27,30,33],hl:=0}),((72,3003),{keep:=[7],hl:=0}),((141,6),{keep:=[0,1,7,8],hl:=0,dyn:=T'}),((141,6018),{keep:=[0,1,5,7,8,16],hl:=0})]
set_option maxRecDepth 1000000 in
theorem ak2:(CX (ens Cb) abw).ResL 30 0 [.d (.sl tCU) zSA] [.d (.st (.sl tCU)) zMA,.d arf 0]:=W5
set_option maxRecDepth 1000000 in
theorem ajJ:(CX (ens Cb) abw).ResL 30 0 [.d (.sl tCU) zSB] [.d (.st (.sl tCU)) zMB,.d arf 0]:=W5
def akC:CG (Iz Tryz.prog 30 0) [(.sl tCU)] id:=λ(l:List BCU)=>lf (zIn zSA zSB l) [.d (.st (.sl tCU)) (zFl l),.d arf 0] λh=>by
 rcases h with h|h
 ·rw[Ty.beq_ok (.sl tCU) l _ h,agZ];exact FP Cb ak2
 ·rw[Ty.beq_ok (.sl tCU) l _ h,al1];exact FP Cb ajJ
def cnQ(r:List BCU)(p:BP):Prop:=r.length<=10000/\(∀e∈r,okC 3500 e)/\okP 3500 p
instance (r:List BCU) (p:BP):Decidable (cnQ r p):=by unfold cnQ;infer_instance
def zSM:BCU:=adm (0,0) (0,4)
def zV0:BV:=enc ((0,0):Rat×Rat)
def zV4:BV:=enc ((0,4):Rat×Rat)
def zO0:BR×BR×BR:=enc (xP (0,0,0,0,0))
def zO4:BR×BR×BR:=enc (yP (0,0,4,0,0))
def btP(a b:BR×BR×BR):Prop:=Ty.beq tO a zO0=T'/\(Ty.beq tO b zO0=T'\/Ty.beq tO b zO4=T')
instance (a b:BR×BR×BR):Decidable (btP a b):=by unfold btP;infer_instance
theorem anj:Ty.beq tO zO0 zO0=true:=by kernel_rfl
theorem am4:Ty.beq tO zO4 zO0=false:=by kernel_rfl
def acd(r:List BCU)(a b:BV):Prop:=Ty.beq (.sl tCU) r zMA=T'/\Ty.beq tV a zV0=T'/\Ty.beq tV b zV4=T'
instance (r:List BCU) (a b:BV):Decidable (acd r a b):=by unfold acd;infer_instance
def aep:List En:=[enL qf]
def KW(x y d:Int)(_k:KT):OLR:=og (D' (qZ x d)) (og (D' (qZ y d)) (S' [RV.d tV (hid (av (Rat.divInt x d)),hid (av (Rat.divInt y d)))]))
def Jr:Cn 33 [arf,arf,arf]:=cn λ(x y d:Int)=>lf (qZ x d/\qZ y d) [.d tV (enc ((Rat.divInt x d,Rat.divInt y d):Rat×Rat))] λh=>by
 refine aA aep (KW x y d) ⟨0,?_⟩;unfold KW;rw[dT h.1,dT h.2];simp only[aR];rfl
def O6:Cn 9 [(.st (.sl tCU)),tP]:=cn λ(r:List BCU) (p:BP)=>lf (cnQ r p) [.d arf (qR r (dec p) F')] λh=>by
 exact(Zo.g r p).h h
def UI:cE:=spN F' T' [tI,tI] (λx=>D' (jH x.1 x.2.1)) (λx=>[RV.d tR (eZ x.1 x.2.1)])
theorem To:SpK 201 UI:=spX λx h=>JN x.1 x.2.1 (anP h)
def xS:List En:=[enV lj,enV qf,enV rO,enV uz,⟨269,Ca,zt⟩,⟨178,Ef,zB⟩,⟨108,CA,yg⟩,⟨202,DL,yQ⟩,⟨368,CJ,yd⟩,⟨273,B5,xV⟩,⟨109,DY,xJ⟩,enU Gw,⟨94,C3,yN⟩,⟨46,Dk,zA⟩,⟨122,D5,yj⟩,⟨165,CQ,zy⟩,⟨123,CD,zh⟩,⟨196,D8,xL⟩,⟨164,D3,zN⟩,⟨194,DV,yi⟩,enV BS,enV xm,enV AC,enV we,enU ro,enU FQ,enU JU,enV un,enV ww,enV DQ,enU oN,enU oM,enV BX,enU Lt,enU FI,enU EX,enU GQ,enU Fc,enU EJ,enU KA,enU EV,enU FS,enV B0,enV Kf,enK Gi,enV Hd,enV Jd,enU Gf,enU GS,enU O5,enK IB,enV Jr,enU O6,⟨201,UI,To⟩]
def Z2:NT:=[((163,3009),{keep:=[4,14],hl:=0}),((242,24),{keep:=[2,3,4,5,30,31,32,33,34,35],hl:=0}),((242,3028),{keep:=[4,38],hl:=0}),((305,2005),{keep:=[2,3,4,5,21],hl:=0}),((305,4005),{keep:=[2,3,4,5,23],hl:=0}),((305,3017),{keep:=[2,4,5,6,37],hl:=0}),((305,4017),{keep:=[2,4,5,6,38],hl:=0}),((305,2025),{keep:=[4,5,6,11,47],hl:=0}),((305,4025),{keep:=[4,5,6,11,49],hl:=0}),((305,3028),{keep:=[4,5,6,9,11,58],hl:=0}),((305,4028),{keep:=[4,5,6,9,11,59],hl:=0}),((305,3029),{keep:=[4,5,6,11,64],hl:=0}),((362,2004),{keep:=[1,2,7],hl:=0}),((362,11),{keep:=[1,2,4,5,10,11,12,13,14,15,16],hl:=0}),((362,21),{keep:=[1,2,3,4,21,22,23,24,25,26,27,28,29,30],hl:=0}),((386,3),{keep:=[2,3,4,5,6,7,8,9,10,11,12,13,14,15],hl:=0}),((319,1006),{keep:=[3,4,5,6,10],hl:=0}),((384,3020),{keep:=[24,26],hl:=0}),((361,2017),{keep:=[1,2,4,5,42],hl:=0}),((361,25),{keep:=[1,2,4,5,7,9,10,11,53,54,55,56,57,58,59,60,61,62,63,64,65,66,67],hl:=0}),((337,5021),{keep:=[1,2,30],hl:=0}),((337,25),{keep:=[1,2,5,6],hl:=0,dyn:=T'}),((337,3028),{keep:=[1,2,5,6,35],hl:=0}),((337,30),{keep:=[1,2,5,6,7,10,11,12,39,40,41,42,43,44,45,46,47],hl:=0}),((189,6),{keep:=[0,1,4,5],hl:=0,dyn:=T'}),((321,5011),{keep:=[2,3,4,5,22],hl:=0}),((321,13),{keep:=[2,3,4,5,7,8,9,10,25,26,27,28,29,30,31,32,33,34,35],hl:=0}),((268,2003),{keep:=[1,18],hl:=0}),((268,4003),{keep:=[18,20],hl:=0}),((268,5009),{keep:=[28],hl:=0}),((268,3014),{keep:=[0,1,33],hl:=0}),((268,4025),{keep:=[1,6,7,51],hl:=0}),((268,4027),{keep:=[6,7,8,57],hl:=0}),((268,5027),{keep:=[6,7,8,58],hl:=0}),((268,34),{keep:=[6,7,8,9,10,11],hl:=0,dyn:=T'}),((268,49),{keep:=[6,7,8,9,10,11,13,14],hl:=0,dyn:=T'}),((268,10068),{keep:=[6,7,8,9,10,11,13,151],hl:=0}),((268,9072),{keep:=[6,7,8,9,10,11,13],hl:=0}),((268,4077),{keep:=[7,10,172],hl:=0}),((268,6077),{keep:=[10,174],hl:=0}),((190,8),{keep:=[1,5,18,19,20],hl:=0,dyn:=T'}),((190,25),{keep:=[1,5,6,7,8,18,19,20,25,26,27],hl:=0,dyn:=T'}),((317,8),{keep:=[0,1,2,7,8,14,15],hl:=0,dyn:=T'}),((188,2003),{keep:=[1,7],hl:=0}),((188,4003),{keep:=[7,9],hl:=0}),((188,24),{keep:=[0,1,5],hl:=0,dyn:=T'}),((265,4),{keep:=[0],hl:=0,dyn:=T'}),((316,10),{keep:=[0,1,6,7,8],hl:=0,dyn:=T'}),((318,5),{keep:=[0,1,4,8,9],hl:=0,dyn:=T'})]
set_option maxRecDepth 1000000 in
theorem akO:(CX (ens xS) Z2).Res 163 [.d tO zO0,.d tO zO0] [.d tR (Ty.zero tR),.d arf 1]:=rtF
set_option maxRecDepth 1000000 in
theorem alr:(CX (ens xS) Z2).Res 163 [.d tO zO0,.d tO zO4] [.d tR (av 1),.d arf 0]:=rtF
def akM:Cn 163 [tO,tO]:=cn λ(a b:BO3)=>lf (btP a b) [.d tR (bif Ty.beq tO b zO0 then Ty.zero tR else av 1),.d arf (bif Ty.beq tO b zO0 then 1 else 0)] λh=>by
 obtain⟨h1,h2⟩:=h;rw[Ty.beq_ok tO a _ h1];rcases h2 with h2|h2
 ·rw[Ty.beq_ok tO b _ h2,anj,cond_true,cond_true];exact bj xS akO
 ·rw[Ty.beq_ok tO b _ h2,am4,cond_false,cond_false];exact bj xS alr
def HF:List En:=enV akM::xS
def ai0:NT:=[]
set_option maxRecDepth 1000000 in
theorem al7:(CX (ens HF) ai0).Res 83 [.d tCU zSM] [.d tV (enc ((0,1):Rat×Rat))]:=rtF
def ahF:Cn 83 [tCU]:=cn λ(c:BCU)=>lf (Ty.beq tCU c zSM=T') [.d tV (enc ((0,1):Rat×Rat))] λh=>by
 rw[Ty.beq_ok tCU c _ h];exact bj HF al7
def Tw:List En:=enV ahF::HF
def alb:NT:=[((34,18),{keep:=[3,7,9,30,31,32],hl:=0,dyn:=T'}),((34,3036),{keep:=[54],hl:=0}),((72,3003),{keep:=[7],hl:=0}),((141,6),{keep:=[0,1,7,8],hl:=0,dyn:=T'}),((141,6018),{keep:=[0,1,5,7,8,16],hl:=0})]
set_option maxRecDepth 1000000 in
theorem adI:(CX (ens Tw) alb).Res 34 [.d (.st (.sl tCU)) zMA,.d tV zV0,.d tV zV4] [.d .bool T']:=rtF
def aft:Cn 34 [(.st (.sl tCU)),tV,tV]:=cn λ(r:List BCU) (a b:BV)=>lf (acd r a b) [.d .bool T'] λh=>by
 obtain⟨h1,h2,h3⟩:=h;rw[Ty.beq_ok (.sl tCU) r _ h1,Ty.beq_ok tV a _ h2,Ty.beq_ok tV b _ h3];exact bj Tw adI
def act:List En:=[enV lj,enV qf,enV rO,enV uz,enV Jd,enV Jr,enU O6,enU aft,enB 0 akC]
def Y5:NT:=[((7,1009),{keep:=[3,4,21],hl:=0}),((7,2009),{keep:=[3,4,21,22],hl:=0}),((7,1011),{keep:=[3,4,5,6,28],hl:=0}),((7,2011),{keep:=[3,4,5,6,28,29],hl:=0}),((7,23),{keep:=[0,5,7,9,66,67,68,69,70,71,72,73,74,75,76,77,78,79,80,81,82,83,84,85,86,87,88,89,90,91,92,93,94,95,96,97,98],hl:=0}),((31,14003),{keep:=[18],hl:=0}),((77,8),{keep:=[0,3,4],hl:=0,dyn:=T'})]
set_option maxRecDepth 1000000 in
def ahO:Cn 7 []:=cn<|lf True [.d .bool T'] λ_=>bj act (N:=Y5) (rtF (N:=Y5))
theorem aad{n:Int}(h:(Lit.int .u8 n).wf=T'):u8P n:=bounds_u8 h
theorem AV{n:Int}(h:(Lit.int .i8 n).wf=T'):i8P n:=bounds_i8 h
abbrev acw:Ty:=(y8Y)
theorem acD{s:List Frm}(h:Ty.ok (.sl acw) s):∀x∈s,HU x:=λx hx=>by
 obtain⟨a1,a2,a3,a4,a5,a6,a7⟩:=h.2 x hx;exact⟨aad a1,aad a2,AV a3,AV a4,AV a5,AV a6,λz hz=>⟨AV (a7.2 z hz).1,AV (a7.2 z hz).2⟩⟩
section
open RE
def abe(s:List Frm)(p:Plc):Prop:=(∀x∈s,HU x)/\Hn p
instance (s:List Frm) (p:Plc):Decidable (abe s p):=Classical.propDecidable _
def Qh:List En:=[enT ahO,enK ahp,enL ae0,enT Zo,enT aky]
def zm:NT:=[((3,18),{keep:=[5,7,28,29,30],hl:=3,er:=[0]}),((3,35),{keep:=[5,42,43,44],hl:=3,er:=[0]})]
def ge:Ctx:=CX (ens Qh) zm
def gu(s:List Frm)(s30:Int)(r2:List BP):Cfg:=⟨3,[.blk 0,.seq 31],[(5,.box 1 0),(7,.own 2),(28,.d (.sl tCU) ((gE s (12:Int)).1)),(29,SI (((gE s (12:Int)).1).length:Int)),(30,SI s30)],[.gone,.box 30 [.d (.sl tCU) ((gE s (12:Int)).1)],.row 40 tP r2],0,[]⟩
def gr(s:List Frm)(r2:List BP)(s44:Int):Cfg:=⟨3,[.blk 2,.seq 54],[(5,.box 1 0),(42,.own 2),(43,SI (r2.length:Int)),(44,SI s44)],[.gone,.box 30 [.d (.sl tCU) ((gE s (12:Int)).1)],.row 40 tP r2],0,[]⟩
def ru(s:List Frm)(p:Plc)(k:KT):OLR:=og (D' (LW s (12:Int))) (match !((gE s (12:Int)).2)with|T'=>S' [RV.d .bool T']|F'=>(og (D' (Hn p)) (k 18 (gu s 0 ([hid (enc (MX p))])))))
theorem Ak(s:List Frm)(p:Plc):RS ge 3 [.d (.sl ((y8Y))) s,.d IZ p] (ru s p):=rsX
def hU(s:List Frm)(s30:Int)(r2:List BP)(k:KT):OLR:=match D' (s30<(((gE s (12:Int)).1).length:Int))with|T'=>(match aH ((gE s (12:Int)).1) s30 with|S' x1=>(og (D' ((r2.length+([x1.2.2.2.2.1,x1.2.2.2.2.2]).length)*320<=140737488355328/\r2.length+([x1.2.2.2.2.1,x1.2.2.2.2.2]).length<=140737488355328)) (k 18 (gu s (i64.wrap (s30+1)) (r2++([x1.2.2.2.2.1,x1.2.2.2.2.2])))))|none=>none)|F'=>k 35 (gr s r2 0)
theorem lU(s:List Frm)(s30:Int)(r2:List BP):RN ge 18 (gu s s30 r2) (hU s s30 r2):=rnX
def ik(s:List Frm)(r2:List BP)(s44:Int)(k:KT):OLR:=match D' (s44<(r2.length:Int))with|T'=>(match aH r2 s44 with|S' _=>(match T',r2[(s44).toNat]? with|T',S' x2=>(og (D' (cnP ((gE s (12:Int)).1) x2)) (og (D' (hcP ((gE s (12:Int)).1) x2)) (match(qR ((gE s (12:Int)).1) (dec x2) F') !=(qR ((gE s (12:Int)).1) (dec x2) F')with|T'=>S' [RV.d .bool F']|F'=>k 35 (gr s r2 (i64.wrap (s44+1))))))|_,_=>none)|none=>none)|F'=>S' [RV.d .bool T']
theorem lT(s:List Frm)(r2:List BP)(s44:Int):RN ge 35 (gr s r2 s44) (ik s r2 s44):=rnX
theorem ajQ{s:List Frm}(g:∀e∈(gE s 12).1,gM e)(hl:(gE s 12).1.length<=10000){r:List BP}(hr:∀q∈r,okP 3500 q)(h2:r.length<=100000):∀(j i:Nat),i+j=r.length->ge.Runs 35 (gr s r (i:Int)) [.d .bool T']:=by
 have c:∀e∈(gE s 12).1,okC 3500 e:=λe he=>bi (g e he).1.1.1 (by decide) (by decide);intro j;induction j with
 |zero=>
  intro i hi;refine lT _ _ _ ⟨0,?_⟩;unfold ik;rw[dF (show ¬(i:Int)<(r.length:Int) by omega)]
 |succ j ih=>
  intro i hi;have hil:i<r.length:=by omega
  obtain⟨n,hn⟩:=ih (i+1) (by omega);refine lT _ _ _ ⟨n,?_⟩;have p:cnP (gE s 12).1 r[i]:=⟨hl,c,hr _ (anY hil)⟩
  unfold ik;rw[dT (show(i:Int)<(r.length:Int) by omega),ak,anN hil,aT (k:=i) (by omega),apN,anN hil];dsimp only;rw[dT p,dT (show hcP (gE s 12).1 r[i] from⟨p,g⟩),aqa];exact hn
theorem ajm{s:List Frm}(g:∀e∈(gE s 12).1,gM e)(hl:(gE s 12).1.length<=10000):∀(j i:Nat),i+j=(gE s 12).1.length->∀{r:List BP},(∀q∈r,okP 3500 q)->r.length<=1+2*i->ge.Runs 18 (gu s (i:Int) r) [.d .bool T']:=by
 intro j;induction j with
 |zero=>
  intro i hi r hr h2;obtain⟨n,hn⟩:=ajQ g hl hr (by omega) r.length 0 (an2 _);refine lU _ _ _ ⟨n,?_⟩;unfold hU;rw[dF (show ¬(i:Int)<((gE s 12).1.length:Int) by omega)];exact hn
 |succ j ih=>
  intro i hi r hr h2;have hil:i<(gE s 12).1.length:=by omega
  have hx:=g _ (anY hil);have hc:=bi (k:=3500) hx.1.1.1 (by decide) (by decide)
  obtain⟨n,hn⟩:=ih (i+1) (by omega) (r:=r++[(gE s 12).1[i].2.2.2.2.1,(gE s 12).1[i].2.2.2.2.2]) (λq hq=>(aod.1 hq).elim (hr q) λh=>by
   have h:q=(gE s 12).1[i].2.2.2.2.1\/q=(gE s 12).1[i].2.2.2.2.2:=by simpa using h
   rcases h with e|e<;>rw[e]
   ·exact hc.2.2.1
   ·exact hc.2.2.2) (by simp;omega)
  refine lU _ _ _ ⟨n,?_⟩;unfold hU;rw[dT (show(i:Int)<((gE s 12).1.length:Int) by omega),ak,anN hil,aT (k:=i) (by omega)];dsimp only;rw[dT (by simp;omega)];exact hn
def An:Cn 3 [(.sl ((y8Y))),IZ]:=cn λ(s:List Frm) (p:Plc)=>lf (abe s p) [.d .bool T'] λh=>by
 obtain⟨hs,hp⟩:=h;have pb:LW s 12:=agh hs (by decide);obtain⟨b1,b2⟩:=VI pb
 have ok:okP 3500 (hid (enc (MX p))):=by
  obtain⟨bp,rp⟩:=abY hp;rw[aR];exact anP (aN (by decide) (by decide))
 obtain⟨n,hn⟩:=ajm b2 b1 (gE s 12).1.length 0 (an2 _) (r:=[hid (enc (MX p))]) (λq hq=>by rw[aox.1 hq];exact ok) (by simp);refine bj Qh (Ak _ _ ⟨n,?_⟩);unfold ru;rw[dT pb,dT hp];cases(gE s 12).2
 ·rfl
 ·exact hn
theorem XC(s:List Frm)(p:Plc)(h0:Ty.ok (.sl acw) s)(h1:Ty.ok IZ p):CQq7 3 [.d (.sl acw) s,.d IZ p] [.d .bool T']:=(An.g s p).h ⟨acD h0,WA h1⟩
end
section
open Go.ChangeShapes Go.WideShapes Go.ChangeAt Go.WideMaps Go.WideElems Go.RowKit Go.Maps
section
variable {H:Type} {enc:TypeId×Value->H} {P:Program}
theorem Al{f:Func}{s:ChangeSpec}{apart fresh handsOn again:Bool}{W W':World}{args:Array Value}{v:Value}{ds gs:List (DataW H)}{before pa pv:List MemPlace}
  (hW:DataW.Whole enc P f.params.toList s.vars apart W args.toList ds gs before)
  (hres:∀(b:Nat) (sp:Nat->Bool) (hd:Bool),DataW.TrodAll enc P W' b sp hd f.resultTypes.toList (v.resultList f.resultTypes.size) (s.fn H (ds++gs)).results [])
  (hargs:∀sp:Nat->Bool,(∀p∈before,sp p.block=T')->DataW.TrodAll enc P W' 0 sp T' f.params.toList args.toList (s.fn H (ds++gs)).args pa)
  (hvars:∀sp:Nat->Bool,(∀p∈before,sp p.block=T')->DataW.TrodVars enc P W' sp s.vars (s.fn H (ds++gs)).vars pv)
  (hps:before=pa++pv) (hb:Below W.heap.size W W')
  (hok:∀(j:Nat) (t:TypeId) (r:Value),f.resultTypes[j]?=S' t->(v.resultList f.resultTypes.size)[j]?=S' r->Value.okWide P W' .any 0 t r):
  s.post enc P f apart fresh handsOn again W args v W':=by
 have hlt:∀p∈before,p.block<W.heap.size:=λp hp=>hW.lt p hp;have hold:∀p∈before,(λb=>D' (b<W.heap.size)) p.block=true:=λp hp=>by simpa using hlt p hp
 refine⟨ds,gs,before,[],pa,pv,hW,hres _ _ _,hargs _ hold,hvars _ hold,World.keptBut_mono (λp hp=>⟨hp,?_⟩) (hb.frame (·∈before)),λ_=>?_⟩
 ·grind
 ·obtain⟨_,_,_,_,_,hz,hn⟩:=hW;refine⟨hok,_,_,([]++pa)++pv,⟨[]++pa,pv,trodAll_append (hargs _ (λ_ _=>rfl)) (hres _ _ _),hvars _ (λ_ _=>rfl),rfl,?_,?_⟩,?_⟩
  ·intro b off hp;have hin:MemPlace.cell b off∈before:=by rw[hps];simpa using hp
   rw[hb.frozen (hlt _ hin)];exact hz b off hin
  ·grind
  grind
end
theorem M8:laidOutB Tryz.prog=true:=by kernel_rfl
theorem rg{H:Type}{enc:TypeId×Value->H}{P:Program}(hl:laidOutB P=T'){W W':World}{sp:Nat->Bool}:∀(ts:List TypeId) (vs:List Value) (ds:List (DataW H)) (ps:List MemPlace),
  (ts.all λt=>P.readableRec t&&Nat.ble (t+1) P.types.size)=T'->DataW.TrodAll enc P W 0 (λ_=>T') T' ts vs ds ps->(∀p∈ps,W.sameAt W' p)->(∀p∈ps,sp p.block=T')->DataW.TrodAll enc P W' 0 sp T' ts vs ds ps
 |[],vs,ds,ps,_,h,_,_=>by obtain⟨rfl,rfl,rfl⟩:=trodAll_nil h;exact trodAll_mk0
 |t::ts,vs,ds,ps,ht,h,hs,hp=>by
  obtain⟨v,vs',d,ds',p,q,rfl,rfl,rfl,h0,h1⟩:=trodAll_cons h;simp only[apW,anS]at ht
  exact trodAll_cons_mk (Trod_stays hl ht.1.1 (anU ht.1.2) h0 (λx hx=>hs x (apr _ hx)) (λx hx=>hp x (apr _ hx)))
   (rg hl ts vs' ds' q ht.2 h1 (λx hx=>hs x (apB _ hx)) (λx hx=>hp x (apB _ hx)))
set_option maxRecDepth 100000 in
theorem Oq{H:Type}{enc:TypeId×Value->H}{f:Func}{s:ChangeSpec}{apart fresh handsOn again:Bool}{W W':World}{args:Array Value}{ds:List (DataW H)}{before:List MemPlace}
  (hW:DataW.Whole enc Tryz.prog f.params.toList s.vars apart W args.toList ds [] before) (hv:s.vars=[]) (hr:f.resultTypes= #[4]) (hfn:(s.fn H (ds++[])).results=[.lit (.bool T')]/\(s.fn H (ds++[])).args=ds/\(s.fn H (ds++[])).vars=[])
  (hp:(f.params.toList.all λt=>Tryz.prog.readableRec t&&Nat.ble (t+1) Tryz.prog.types.size)=T') (hb:Below W.heap.size W W'):s.post enc Tryz.prog f apart fresh handsOn again W args (.bool T') W':=by
 have hW':=hW;obtain⟨p,q,hA,hV,rfl,hfz,hnd⟩:=hW
 have hq:q=[]:=by
  rw[hv]at hV;exact(trodVars_none hV).2
 subst hq;have hlt:∀x∈p,x.block<W.heap.size:=λx hx=>hW'.lt x (by simpa using hx);refine Al (pa:=p) (pv:=[]) hW' ?_ ?_ ?_ rfl hb ?_
 ·intro b sp hd;rw[hr,hfn.1];exact trodAll_mk1 (shut_bool Tryz.underlying4 _)
 ·intro sp hsp;rw[hfn.2.1];exact rg M8 _ _ _ _ hp hA (λx hx=>hb.same (hlt x hx)) (λx hx=>hsp x (by simpa using hx))
 ·intro sp _;rw[hv,hfn.2.2];rfl
 ·exact ok_one hr rfl (okWide_bool_mk (P:=Tryz.prog) Tryz.underlying4 T')
theorem I6{P:Program}{w:World}{r:Reach}{base:Nat}{t e:TypeId}{n:Nat}{v:Value}(ht:P.underlying t=S' (.array n e))(h:Value.okWide P w r base t v):∃cs,v=.agg cs/\cs.size=P.cellsOf t:=by
 simp only[Value.okWide,ht]at h;obtain⟨cs,h1,h2,_⟩:=h;exact⟨cs,h1,h2⟩
theorem IP{P:Program}{w:World}{r:Reach}{base:Nat}{t:TypeId}{v:Value}(ht:P.underlying t=S' .string)(h:Value.okWide P w r base t v):∃s,v=.string s:=by
 simp only[Value.okWide,ht,Cell.okWide]at h;cases v<;>simp_all [Cell.ok]
theorem GU{H:Type}{enc:TypeId×Value->H}{P:Program}{w:World}{r:Reach}{b0 base:Nat}{spare:Nat->Bool}{held:Bool}{v:Value}{d:DataW H}{p:List MemPlace}{t:TypeId}(n:Nat)(ty:Ty)(hrep:rep P n t ty=T')(hv:Value.okWide P w r b0 t v)(h:DataW.Trod enc P w base spare held t v d p):
  ∃y:ty.D,Rel1 [] (λ_=>True) w (.d ty y) v/\ty.ok y:=by
 obtain⟨fuel,hf⟩:=h
 have fin:v.cells.toList.length=ty.n->v=mkV ty v.cells.toList->∃y:ty.D,Rel1 [] (λ_=>True) w (.d ty y) v/\ty.ok y:=λhl hm=>by
  obtain⟨y,h1,h2⟩:=(VR ty).1 n t hrep fuel _ _ hl hf;exact⟨y,⟨_,h1,hm⟩,h2⟩
 cases n with
 |zero=>simp[rep]at hrep
 |succ n=>
  have hrep':=hrep;unfold rep at hrep';split at hrep'<;>try (cases hrep';done)
  ·rename_i hu;obtain⟨m,rfl⟩:=okWide_int hu hv;exact fin rfl rfl
  ·rename_i hu;obtain⟨m,rfl⟩:=okWide_bool hu hv;exact fin rfl rfl
  ·rename_i hu;obtain⟨m,rfl⟩:=IP hu hv;exact fin rfl rfl
  ·rename_i hu;obtain⟨q,m,c,rfl⟩:=okWide_slice hu hv;exact fin rfl rfl
  ·rename_i hu;obtain⟨cs,rfl,hsz⟩:=okWide_struct hu hv;simp only[anS]at hrep';exact fin (by simp only[Value.cells,Array.length_toList,hsz];exact anR hrep'.2) (by simp[mkV,Ty.isSt,Value.cells])
  ·rename_i hu;obtain⟨cs,rfl,hsz⟩:=I6 hu hv;simp only[anS]at hrep';exact fin (by simp only[Value.cells,Array.length_toList,hsz];exact anR hrep'.2) (by simp[mkV,Ty.isSt,Value.cells])
end
end Go.Proofs.YtoimchcjhdcdmaaGreat
end
namespace Go.Proofs.YtoimchcjhdcdmaaGreat.lawRegionContains
open Bool renaming true->T',false->F'
open Option renaming some->S'
open Decidable renaming decide->D'
open Go.ChangeShapes Go.WideShapes Go.ChangeAt Go.RowKit
set_option maxRecDepth 100000 in
theorem contract(H:Type)(enc:TypeId×Value->H)(W:World)(base:Nat)(args:Array Value)(ds gs:List (DataW H))(before:List MemPlace)
  (hval:∀(j:Nat) t v,Tryz.f3.params[j]?=S' t->args[j]?=S' v->Value.okWide Tryz.prog W .any base t v)
  (hW:DataW.Whole enc Tryz.prog Tryz.f3.params.toList Rows.regionContainsSpec.vars F' W args.toList ds gs before):
  Calls Tryz.prog 3 args W λe W'=>∃v,e=.returned v/\Rows.regionContainsSpec.post enc Tryz.prog Tryz.f3 F' T' F' F' W args v W':=by
 have hW':=hW;obtain⟨p,q,hA0,hV,rfl,hfz,hnd⟩:=hW;have hA:DataW.TrodAll enc Tryz.prog W 0 (λ_=>T') T' Tryz.f3.params.toList args.toList ds p:=hA0;rw[Tryz.params3]at hA hval;obtain⟨v0,vs0,d0,ds0,p0,q0,e0,rfl,rfl,h0,r0⟩:=trodAll_cons hA;obtain⟨v1,vs1,d1,ds1,p1,q1,e1,rfl,rfl,h1,r1⟩:=trodAll_cons r0;obtain⟨en,rfl,rfl⟩:=trodAll_nil r1;obtain rfl:args= #[v0,v1]:=by cases args;simp_all
 obtain⟨rfl,rfl⟩:=trodVars_none hV;obtain⟨y0,s0,k0⟩:=GU 12 (.sl (((.st (.pair (.int .u8) (.pair (.int .u8) (.pair (.int .i8) (.pair (.int .i8) (.pair (.int .i8) (.pair (.int .i8) (.sl (.st (.pair (.int .i8) (.int .i8)))))))))))))) (by kernel_rfl) (hval 0 23 v0 rfl rfl) h0;obtain⟨y1,s1,k1⟩:=GU 12 (IZ) (by kernel_rfl) (hval 1 27 v1 rfl rfl) h1;clear hA0;refine(XC y0 y1 k0 k1 (λ_=>True) W [v0,v1] Ny ⟨s0,s1,trivial⟩).mono ?_;rintro e W' ⟨v,rfl,hb,hres⟩
 have hv:v=.bool true:=t8 (G:=[]) (dN hres);subst hv;exact⟨_,rfl,Oq hW' rfl (by kernel_rfl) ⟨rfl,rfl,rfl⟩ (by kernel_rfl) hb⟩
set_option maxRecDepth 100000 in
theorem lifted(os:Os)(started:os.Started)(H:Type)(enc:TypeId×Value->H):
  ReturnsInHanded {} Tryz.checked os 3 .any (Rows.regionContainsSpec.pre6 enc Tryz.prog Tryz.f3 Rows.regionContainsRow.domain F') (Rows.regionContainsSpec.post enc Tryz.prog Tryz.f3 F' T' F' F'):=by
 refine returnsInHanded_of_change (C:=Tryz.checked) Q3 started (by kernel_rfl) Tryz.func3
  (ChangeSpec.witness6 (enc:=enc) (C:=Tryz.checked) F' ⟨#[],#[.slice none 0 0,.agg #[.int .i16 0,.int .i16 0,.int .i16 0,.int .i16 0,.int .u16 0,.int .u8 0]],[]⟩ 8 (by kernel_rfl) (by kernel_rfl) (by kernel_rfl) (by kernel_rfl)) ?_
 intro W base args ds gs before hval hW _ _;exact contract H enc W base args ds gs before hval hW
end Go.Proofs.YtoimchcjhdcdmaaGreat.lawRegionContains
namespace Go.Proofs.YtoimchcjhdcdmaaGreat.lawRegionContains
open Bool renaming true->T',false->F'
open Go.ChangeShapes Go.WideShapes Go.ChangeAt Go.RowKit
set_option maxRecDepth 100000 in
theorem am7:(Rows.regionContainsRow.inPlace==Tryz.prog.inPlace 3)=true:=by kernel_rfl
set_option maxRecDepth 100000 in
theorem amw:(Rows.regionContainsRow.unfollowed==Tryz.prog.unfollowed 3)=true:=by kernel_rfl
set_option maxRecDepth 100000 in
theorem amH:(Rows.regionContainsRow.recurses==Tryz.prog.recurses 3)=true:=by kernel_rfl
set_option maxRecDepth 100000 in
theorem amR:(Rows.regionContainsRow.named==Tryz.prog.varsNamed 3)=true:=by kernel_rfl
set_option maxRecDepth 100000 in
theorem kf2:(laidOutB Tryz.prog)=true:=by kernel_rfl
set_option maxRecDepth 100000 in
theorem amU:(Tryz.prog.mayEnter)=true:=by kernel_rfl
theorem gH{a b:Bool}(h:a=T')(h':b=T'):(a&&b)=true:=by rw[h,h'];rfl
set_option maxRecDepth 100000 in
theorem afn:joinedFacts Tryz.prog 3 Tryz.f3 Rows.regionContainsSpec Rows.regionContainsRow=true:=by
 unfold joinedFacts;exact(gH (gH (gH (gH (gH (gH (gH (gH (gH (gH (gH (gH (gH (gH (gH (gH (gH (gH (gH (gH (gH (gH (gH (gH (gH (gH (gH (gH (gH (gH (gH (by kernel_rfl) kf2) (by kernel_rfl)) (by kernel_rfl)) (by kernel_rfl)) (by kernel_rfl)) (by kernel_rfl)) (by kernel_rfl)) (by kernel_rfl)) am7) amw) amH) amR) (by kernel_rfl)) (by kernel_rfl)) (by kernel_rfl)) (by kernel_rfl)) (by kernel_rfl)) (by kernel_rfl)) (by kernel_rfl)) (by kernel_rfl)) (by kernel_rfl)) (by kernel_rfl)) (by kernel_rfl)) (by kernel_rfl)) amU) (by kernel_rfl)) (by kernel_rfl)) (by kernel_rfl)) (by kernel_rfl)) (by kernel_rfl)) (by kernel_rfl))
theorem proved:Rows.RegionContainsSaid:=
 OpenClaim.holds_of_wide 3 Tryz.f3 rfl rfl rfl rfl rfl rfl rfl ⟨rfl,rfl,rfl,rfl,rfl⟩ rfl rfl rfl rfl rfl (by kernel_rfl) Tryz.func3 afn
  (of_decide_eq_true (by kernel_rfl)) (by unfold Func.isWrapper;first|(rw[if_pos (by decide+kernel)];kernel_rfl)|(rw[if_neg (by decide+kernel)];exact⟨rfl,rfl⟩))
  (λos started H enc _=>lifted os started H enc)
end Go.Proofs.YtoimchcjhdcdmaaGreat.lawRegionContains
