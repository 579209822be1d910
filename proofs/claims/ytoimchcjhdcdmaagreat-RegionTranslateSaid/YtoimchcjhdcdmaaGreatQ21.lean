/- The program's ends, odd, merged, enclosed, Fill and Disc of a circle. -/
import Derived.Test.YtoimchcjhdcdmaaGreatQ20
import Derived.Test.YtoimchcjhdcdmaaGreatQ7
import Derived.Test.YtoimchcjhdcdmaaGreatQ18
import Derived.Test.YtoimchcjhdcdmaaGreatQ19
import Derived.Test.YtoimchcjhdcdmaaGreatQ15
import Derived.Stop.Joined
noncomputable section
namespace Go.Proofs.YtoimchcjhdcdmaaGreat
open Go.RowKit Go.IntKind
open Bool renaming true->T',false->F'
open Option renaming some->S'
open Decidable renaming decide->D'
section
open RE
def vu(l:List BCU):Prop:=∃c,bK c/\l=[loM c,hiM c]
instance (l:List BCU):Decidable (vu l):=Classical.propDecidable _
def cg(l:List BCU)(i:Nat):BP:=match l with
 |c::_=>match i with
  |0=>c.2.2.2.2.1
  |_=>c.2.2.2.2.2
 |[]=>p00
def cwP(l:List BCU):Bool:=match l with
 |_::d::_=>d.2.2.2.1
 |_=>false
theorem Dq{c:BO3}(h:bK c):jQ (loM c)=loM c/\jQ (hiM c)=upM c:=by
 obtain⟨_,_,_,_,z3,z4⟩:=qQ h;constructor
 ·unfold jQ;rw[show aB (dec (loM c).2.2.2.2.1) (dec (loM c).2.2.2.2.2)= -1 from z3];rfl
 ·unfold jQ;rw[show aB (dec (hiM c).2.2.2.2.1) (dec (hiM c).2.2.2.2.2)=1 from z4];rfl
def Ho:List En:=[enT oF]
def ag2:NT:=[((145,8),{keep:=[3,6,7,8],hl:=99}),((288,6),{keep:=[0,1,2,6,7,8],hl:=99}),((338,3),{keep:=[0,1,2,3,8],hl:=99}),((338,15),{keep:=[0,1,2,3,8,9],hl:=99}),((288,22),{keep:=[0,1,2,6],hl:=99}),((145,22),{keep:=[3],hl:=0}),((218,0),{keep:=[],hl:=0}),((288,20),{keep:=[0,1,2,6],hl:=0}),((338,18),{keep:=[0,1,2,3,8,9,18,19,20,21,22,23,24,25,26,27,28,29,30,31,32,33,34],hl:=0})]
def amG:Ctx:=CX (ens Ho) ag2
def Qg(a b:BCU):OLR:=og (D' (okP 4000 a.2.2.2.2.2/\okP 4000 a.2.2.2.2.1)) (match D' ((aB (dec a.2.2.2.2.2) (dec a.2.2.2.2.1))<0)with|T'=>(og (D' (okP 4000 b.2.2.2.2.1/\okP 4000 a.2.2.2.2.1)) (match D' ((aB (dec b.2.2.2.2.1) (dec a.2.2.2.2.1))<0)with|T'=>(og (D' (okP 4000 b.2.2.2.2.1/\okP 4000 a.2.2.2.2.2)) (match D' ((aB (dec b.2.2.2.2.1) (dec a.2.2.2.2.2))<0)with|T'=>(og (D' (okP 4000 b.2.2.2.2.2/\okP 4000 a.2.2.2.2.1)) (match D' ((aB (dec b.2.2.2.2.2) (dec a.2.2.2.2.1))<0)with|T'=>(og (D' (okP 4000 b.2.2.2.2.2/\okP 4000 a.2.2.2.2.2)) (match D' ((aB (dec b.2.2.2.2.2) (dec a.2.2.2.2.2))<0)with|T'=>(og (D' (okP 4000 b.2.2.2.2.2/\okP 4000 b.2.2.2.2.1)) (match D' ((aB (dec b.2.2.2.2.2) (dec b.2.2.2.2.1))<0)with|T'=>S' [RV.new 168 dK ([(b.2.2.2.2.2,(1,F')),(b.2.2.2.2.1,(1,T')),(a.2.2.2.2.2,(0,F')),(a.2.2.2.2.1,(0,T'))])]|F'=>S' [RV.new 168 dK ([(b.2.2.2.2.1,(1,T')),(b.2.2.2.2.2,(1,F')),(a.2.2.2.2.2,(0,F')),(a.2.2.2.2.1,(0,T'))])]))|F'=>S' [RV.new 168 dK ([(b.2.2.2.2.1,(1,T')),(a.2.2.2.2.2,(0,F')),(b.2.2.2.2.2,(1,F')),(a.2.2.2.2.1,(0,T'))])]))|F'=>S' [RV.new 168 dK ([(b.2.2.2.2.1,(1,T')),(a.2.2.2.2.2,(0,F')),(a.2.2.2.2.1,(0,T')),(b.2.2.2.2.2,(1,F'))])]))|F'=>(og (D' (okP 4000 b.2.2.2.2.2/\okP 4000 a.2.2.2.2.1)) (match D' ((aB (dec b.2.2.2.2.2) (dec a.2.2.2.2.1))<0)with|T'=>(og (D' (okP 4000 b.2.2.2.2.2/\okP 4000 b.2.2.2.2.1)) (match D' ((aB (dec b.2.2.2.2.2) (dec b.2.2.2.2.1))<0)with|T'=>(og (D' (okP 4000 b.2.2.2.2.2/\okP 4000 a.2.2.2.2.2)) (match D' ((aB (dec b.2.2.2.2.2) (dec a.2.2.2.2.2))<0)with|T'=>S' [RV.new 168 dK ([(b.2.2.2.2.2,(1,F')),(a.2.2.2.2.2,(0,F')),(b.2.2.2.2.1,(1,T')),(a.2.2.2.2.1,(0,T'))])]|F'=>S' [RV.new 168 dK ([(a.2.2.2.2.2,(0,F')),(b.2.2.2.2.2,(1,F')),(b.2.2.2.2.1,(1,T')),(a.2.2.2.2.1,(0,T'))])]))|F'=>S' [RV.new 168 dK ([(a.2.2.2.2.2,(0,F')),(b.2.2.2.2.1,(1,T')),(b.2.2.2.2.2,(1,F')),(a.2.2.2.2.1,(0,T'))])]))|F'=>S' [RV.new 168 dK ([(a.2.2.2.2.2,(0,F')),(b.2.2.2.2.1,(1,T')),(a.2.2.2.2.1,(0,T')),(b.2.2.2.2.2,(1,F'))])]))))|F'=>(og (D' (okP 4000 b.2.2.2.2.2/\okP 4000 b.2.2.2.2.1)) (match D' ((aB (dec b.2.2.2.2.2) (dec b.2.2.2.2.1))<0)with|T'=>(og (D' (okP 4000 b.2.2.2.2.2/\okP 4000 a.2.2.2.2.1)) (match D' ((aB (dec b.2.2.2.2.2) (dec a.2.2.2.2.1))<0)with|T'=>(og (D' (okP 4000 b.2.2.2.2.2/\okP 4000 a.2.2.2.2.2)) (match D' ((aB (dec b.2.2.2.2.2) (dec a.2.2.2.2.2))<0)with|T'=>S' [RV.new 168 dK ([(b.2.2.2.2.2,(1,F')),(a.2.2.2.2.2,(0,F')),(a.2.2.2.2.1,(0,T')),(b.2.2.2.2.1,(1,T'))])]|F'=>S' [RV.new 168 dK ([(a.2.2.2.2.2,(0,F')),(b.2.2.2.2.2,(1,F')),(a.2.2.2.2.1,(0,T')),(b.2.2.2.2.1,(1,T'))])]))|F'=>S' [RV.new 168 dK ([(a.2.2.2.2.2,(0,F')),(a.2.2.2.2.1,(0,T')),(b.2.2.2.2.2,(1,F')),(b.2.2.2.2.1,(1,T'))])]))|F'=>S' [RV.new 168 dK ([(a.2.2.2.2.2,(0,F')),(a.2.2.2.2.1,(0,T')),(b.2.2.2.2.1,(1,T')),(b.2.2.2.2.2,(1,F'))])]))))|F'=>(og (D' (okP 4000 b.2.2.2.2.1/\okP 4000 a.2.2.2.2.2)) (match D' ((aB (dec b.2.2.2.2.1) (dec a.2.2.2.2.2))<0)with|T'=>(og (D' (okP 4000 b.2.2.2.2.1/\okP 4000 a.2.2.2.2.1)) (match D' ((aB (dec b.2.2.2.2.1) (dec a.2.2.2.2.1))<0)with|T'=>(og (D' (okP 4000 b.2.2.2.2.2/\okP 4000 a.2.2.2.2.2)) (match D' ((aB (dec b.2.2.2.2.2) (dec a.2.2.2.2.2))<0)with|T'=>(og (D' (okP 4000 b.2.2.2.2.2/\okP 4000 a.2.2.2.2.1)) (match D' ((aB (dec b.2.2.2.2.2) (dec a.2.2.2.2.1))<0)with|T'=>(og (D' (okP 4000 b.2.2.2.2.2/\okP 4000 b.2.2.2.2.1)) (match D' ((aB (dec b.2.2.2.2.2) (dec b.2.2.2.2.1))<0)with|T'=>S' [RV.new 168 dK ([(b.2.2.2.2.2,(1,F')),(b.2.2.2.2.1,(1,T')),(a.2.2.2.2.1,(0,T')),(a.2.2.2.2.2,(0,F'))])]|F'=>S' [RV.new 168 dK ([(b.2.2.2.2.1,(1,T')),(b.2.2.2.2.2,(1,F')),(a.2.2.2.2.1,(0,T')),(a.2.2.2.2.2,(0,F'))])]))|F'=>S' [RV.new 168 dK ([(b.2.2.2.2.1,(1,T')),(a.2.2.2.2.1,(0,T')),(b.2.2.2.2.2,(1,F')),(a.2.2.2.2.2,(0,F'))])]))|F'=>S' [RV.new 168 dK ([(b.2.2.2.2.1,(1,T')),(a.2.2.2.2.1,(0,T')),(a.2.2.2.2.2,(0,F')),(b.2.2.2.2.2,(1,F'))])]))|F'=>(og (D' (okP 4000 b.2.2.2.2.2/\okP 4000 a.2.2.2.2.2)) (match D' ((aB (dec b.2.2.2.2.2) (dec a.2.2.2.2.2))<0)with|T'=>(og (D' (okP 4000 b.2.2.2.2.2/\okP 4000 b.2.2.2.2.1)) (match D' ((aB (dec b.2.2.2.2.2) (dec b.2.2.2.2.1))<0)with|T'=>(og (D' (okP 4000 b.2.2.2.2.2/\okP 4000 a.2.2.2.2.1)) (match D' ((aB (dec b.2.2.2.2.2) (dec a.2.2.2.2.1))<0)with|T'=>S' [RV.new 168 dK ([(b.2.2.2.2.2,(1,F')),(a.2.2.2.2.1,(0,T')),(b.2.2.2.2.1,(1,T')),(a.2.2.2.2.2,(0,F'))])]|F'=>S' [RV.new 168 dK ([(a.2.2.2.2.1,(0,T')),(b.2.2.2.2.2,(1,F')),(b.2.2.2.2.1,(1,T')),(a.2.2.2.2.2,(0,F'))])]))|F'=>S' [RV.new 168 dK ([(a.2.2.2.2.1,(0,T')),(b.2.2.2.2.1,(1,T')),(b.2.2.2.2.2,(1,F')),(a.2.2.2.2.2,(0,F'))])]))|F'=>S' [RV.new 168 dK ([(a.2.2.2.2.1,(0,T')),(b.2.2.2.2.1,(1,T')),(a.2.2.2.2.2,(0,F')),(b.2.2.2.2.2,(1,F'))])]))))|F'=>(og (D' (okP 4000 b.2.2.2.2.2/\okP 4000 b.2.2.2.2.1)) (match D' ((aB (dec b.2.2.2.2.2) (dec b.2.2.2.2.1))<0)with|T'=>(og (D' (okP 4000 b.2.2.2.2.2/\okP 4000 a.2.2.2.2.2)) (match D' ((aB (dec b.2.2.2.2.2) (dec a.2.2.2.2.2))<0)with|T'=>(og (D' (okP 4000 b.2.2.2.2.2/\okP 4000 a.2.2.2.2.1)) (match D' ((aB (dec b.2.2.2.2.2) (dec a.2.2.2.2.1))<0)with|T'=>S' [RV.new 168 dK ([(b.2.2.2.2.2,(1,F')),(a.2.2.2.2.1,(0,T')),(a.2.2.2.2.2,(0,F')),(b.2.2.2.2.1,(1,T'))])]|F'=>S' [RV.new 168 dK ([(a.2.2.2.2.1,(0,T')),(b.2.2.2.2.2,(1,F')),(a.2.2.2.2.2,(0,F')),(b.2.2.2.2.1,(1,T'))])]))|F'=>S' [RV.new 168 dK ([(a.2.2.2.2.1,(0,T')),(a.2.2.2.2.2,(0,F')),(b.2.2.2.2.2,(1,F')),(b.2.2.2.2.1,(1,T'))])]))|F'=>S' [RV.new 168 dK ([(a.2.2.2.2.1,(0,T')),(a.2.2.2.2.2,(0,F')),(b.2.2.2.2.1,(1,T')),(b.2.2.2.2.2,(1,F'))])])))))
theorem ZK(a b:BCU):RT amG 145 [.d (.sl tCU) ([a,b])] (Qg a b):=rtX
def ak5:Cn 145 [(.sl tCU)]:=cn λ(l:List BCU)=>lf (vu l\/mf l) [.new 168 dK ([(cg l 0,(0,T')),(cg l 0,(1,cwP l)),(cg l 1,(0,F')),(cg l 1,(1,!cwP l))])] λh=>by
 have k:∀{p q},okP 4000 p->okP 4000 q->decide (okP 4000 p/\okP 4000 q)=true:=λh h'=>dT ⟨h,h'⟩;rcases h with⟨c,hc,rfl⟩|⟨c,hc,rfl⟩<;>obtain⟨o1,o2,z1,z2,z3,z4⟩:=qQ hc
 ·refine aX Ho (ZK (loM c) (hiM c) ?_);unfold Qg;simp only[show(loM c).2.2.2.2.1=enc (dX (dec c)) from rfl,show(loM c).2.2.2.2.2=enc (eH (dec c)) from rfl,show(hiM c).2.2.2.2.1=enc (eH (dec c)) from rfl,show(hiM c).2.2.2.2.2=enc (dX (dec c)) from rfl,k o1 o1,k o1 o2,k o2 o1,k o2 o2,z1,z2,z3,z4];rfl
 ·refine aX Ho (ZK (loM c) (upM c) ?_);unfold Qg;simp only[show(loM c).2.2.2.2.1=enc (dX (dec c)) from rfl,show(loM c).2.2.2.2.2=enc (eH (dec c)) from rfl,show(upM c).2.2.2.2.1=enc (dX (dec c)) from rfl,show(upM c).2.2.2.2.2=enc (eH (dec c)) from rfl,k o1 o1,k o1 o2,k o2 o1,k o2 o2,z1,z2,z3,z4];rfl
def In:List En:=[enK ak5,enT mE]
def agf:NT:=[((75,8),{keep:=[3,8,9,10],hl:=99})]
def amF:Ctx:=CX (ens In) agf
def Va(l:List BCU):OLR:=og (D' (vu l\/mf l)) (og (D' (okP 4000 (cg l 0)/\okP 4000 (cg l 0))) (match aB (dec (cg l 0)) (dec (cg l 0))==0 with|T'=>dup (.b .l .l) (og (D' (okP 4000 (cg l 0)/\okP 4000 (cg l 1))) (match aB (dec (cg l 0)) (dec (cg l 1))==0 with|T'=>dup (.b .l .l) (og (D' (okP 4000 (cg l 0)/\okP 4000 (cg l 1))) (match aB (dec (cg l 0)) (dec (cg l 1))==0 with|T'=>dup (.b .l .l) (S' [RV.new 119 (.sl dK) [[(cg l 0,(0,T')),(cg l 0,(1,cwP l)),(cg l 1,(0,F')),(cg l 1,(1,!cwP l))]]])|F'=>S' [RV.new 119 (.sl dK) [[(cg l 0,(0,T')),(cg l 0,(1,cwP l)),(cg l 1,(0,F'))],[(cg l 1,(1,!cwP l))]]]))|F'=>(og (D' (okP 4000 (cg l 1)/\okP 4000 (cg l 1))) (match aB (dec (cg l 1)) (dec (cg l 1))==0 with|T'=>dup (.b .l .l) (S' [RV.new 119 (.sl dK) [[(cg l 0,(0,T')),(cg l 0,(1,cwP l))],[(cg l 1,(0,F')),(cg l 1,(1,!cwP l))]]])|F'=>S' [RV.new 119 (.sl dK) [[(cg l 0,(0,T')),(cg l 0,(1,cwP l))],[(cg l 1,(0,F'))],[(cg l 1,(1,!cwP l))]]]))))|F'=>(og (D' (okP 4000 (cg l 0)/\okP 4000 (cg l 1))) (match aB (dec (cg l 0)) (dec (cg l 1))==0 with|T'=>dup (.b .l .l) (og (D' (okP 4000 (cg l 0)/\okP 4000 (cg l 1))) (match aB (dec (cg l 0)) (dec (cg l 1))==0 with|T'=>dup (.b .l .l) (S' [RV.new 119 (.sl dK) [[(cg l 0,(0,T'))],[(cg l 0,(1,cwP l)),(cg l 1,(0,F')),(cg l 1,(1,!cwP l))]]])|F'=>S' [RV.new 119 (.sl dK) [[(cg l 0,(0,T'))],[(cg l 0,(1,cwP l)),(cg l 1,(0,F'))],[(cg l 1,(1,!cwP l))]]]))|F'=>(og (D' (okP 4000 (cg l 1)/\okP 4000 (cg l 1))) (match aB (dec (cg l 1)) (dec (cg l 1))==0 with|T'=>dup (.b .l .l) (S' [RV.new 119 (.sl dK) [[(cg l 0,(0,T'))],[(cg l 0,(1,cwP l))],[(cg l 1,(0,F')),(cg l 1,(1,!cwP l))]]])|F'=>S' [RV.new 119 (.sl dK) [[(cg l 0,(0,T'))],[(cg l 0,(1,cwP l))],[(cg l 1,(0,F'))],[(cg l 1,(1,!cwP l))]]]))))))
theorem YC(l:List BCU):RT amF 75 [.d (.sl tCU) l] (Va l):=rtX
def adX:Cn 75 [(.sl tCU)]:=cn λ(l:List BCU)=>lf (vu l) [.d (.sl (.sl dK)) ([[(cg l 0,(0,T')),(cg l 0,(1,F'))],[(cg l 1,(0,F')),(cg l 1,(1,T'))]])] λh=>by
 obtain⟨c,hc,rfl⟩:=h;obtain⟨o1,o2,z1,z2,z3,z4⟩:=qQ hc;refine Con.new_d (et:=119) (aX In (YC _ ?_));have k:∀{p q},okP 4000 p->okP 4000 q->D' (okP 4000 p/\okP 4000 q)=true:=λh h'=>dT ⟨h,h'⟩;unfold Va;rw[dT (.inl ⟨c,hc,rfl⟩:vu _\/mf _)];simp only[dp,show ∀d,cg [loM c,d] 0=enc (dX (dec c)) from λ_=>rfl,show ∀d,cg [loM c,d] 1=enc (eH (dec c)) from λ_=>rfl,k o1 o1,k o1 o2,k o2 o2,z1,z2,z3];rfl
def aeO:Cn 75 [(.sl tCU)]:=cn λ(l:List BCU)=>lf (mf l) [.d (.sl (.sl dK)) ([[(cg l 0,(0,T')),(cg l 0,(1,T'))],[(cg l 1,(0,F')),(cg l 1,(1,F'))]])] λh=>by
 obtain⟨c,hc,rfl⟩:=h;obtain⟨o1,o2,z1,z2,z3,z4⟩:=qQ hc;refine Con.new_d (et:=119) (aX In (YC _ ?_));have k:∀{p q},okP 4000 p->okP 4000 q->D' (okP 4000 p/\okP 4000 q)=true:=λh h'=>dT ⟨h,h'⟩;unfold Va;rw[dT (.inr ⟨c,hc,rfl⟩:vu _\/mf _)];simp only[dp,show ∀d,cg [loM c,d] 0=enc (dX (dec c)) from λ_=>rfl,show ∀d,cg [loM c,d] 1=enc (eH (dec c)) from λ_=>rfl,k o1 o1,k o1 o2,k o2 o2,z1,z2,z3];rfl
def PW:List En:=[enT FJ,enT E9]
def ahD:Ctx:=CX (ens PW) []
def aaz(c d:BCU)(_k:KT):OLR:=match !(c.1==d.1)with|T'=>S' [RV.d .bool F']|F'=>(match !(c.2.2.2.1==d.2.2.2.1)with|T'=>S' [RV.d .bool F']|F'=>(match c.1 with|T'=>(og (D' (bK c.2.2.1/\bK d.2.2.1)) (S' [RV.d .bool (pE (dec c.2.2.1) (dec d.2.2.1))]))|F'=>(og (D' (cJ c.2.1/\cJ d.2.1)) (S' [RV.d .bool (oO (dec c.2.1) (dec d.2.1))]))))
theorem ahE(c d:BCU):RS ahD 225 [.d tCU c,.d tCU d] (aaz c d):=rsX
def amA:Cn 225 [tCU,tCU]:=cn λ(c d:BCU)=>lf (mf [c,d]\/mf [d,c]) [.d .bool F'] λh=>by
 refine aX PW (ahE _ _ ⟨0,?_⟩)
 have e:c.2.2.2.1=!d.2.2.2.1/\c.1=d.1:=by
  rcases h with⟨x,_,e⟩|⟨x,_,e⟩<;>(injection e with e1 e2;injection e2 with e2;rw[e1,e2];exact⟨rfl,rfl⟩)
 unfold aaz;rw[e.1,e.2];cases d.1<;>cases d.2.2.2.1<;>rfl
def UH:List En:=[enT Y4,enT S3]
def aez:NT:=[((291,5),{keep:=[0,1,2,3,4,10,11],hl:=99}),((340,3),{keep:=[0,1,2,3,8],hl:=99}),((340,15),{keep:=[0,1,2,3,8,9],hl:=99}),((148,10),{keep:=[0,3,4],hl:=99}),((148,22),{keep:=[0,3,4,5],hl:=99}),((148,3),{keep:=[0],hl:=0}),((226,2),{keep:=[1,7,8,11],hl:=0}),((291,14),{keep:=[],hl:=0})]
def akF:Ctx:=CX (ens UH) aez
def aca(c:BO3):OLR:=og (D' ((2:Int)=2)) (og (D' (Dy (upM c) (loM c))) (match D' ((t8 (upM c) (loM c))<0)with|T'=>none|F'=>(og (D' (Dy (loM c) (upM c))) (match(t8 (loM c) (upM c))==0 with|T'=>S' [RV.new 48 tCU []]|F'=>S' [RV.new 48 tCU ([loM c,upM c])]))))
theorem alo(c:BO3):RT akF 148 [.d (.sl tCU) ([loM c,upM c])] (aca c):=rtX
def alN:Cn 148 [(.sl tCU)]:=cn λ(l:List BCU)=>lf (mf l) [.new 48 tCU l] λh=>by
 obtain⟨c,hc,rfl⟩:=h;obtain⟨o1,o2,z1,z2,z3,z4⟩:=qQ hc;have q1:Dy (upM c) (loM c):=⟨c,hc,.inr rfl,.inl rfl⟩
 have q2:Dy (loM c) (upM c):=⟨c,hc,.inl rfl,.inr rfl⟩
 have v1:t8 (upM c) (loM c)=1:=rfl;have v2:t8 (loM c) (upM c)= -1:=rfl;refine aX UH (alo c ?_);unfold aca;simp only[dT q1,dT q2,v1,v2];rfl
def TW:List En:=[enK aeO,enT amA,enT Y4,enT S3]
def aeh:NT:=[((147,10),{keep:=[0,3,4,21,22],hl:=99}),((147,27),{keep:=[0,3,4,30,31,32],hl:=99}),((147,64),{keep:=[0,3,4,10,86,87,88],hl:=99}),((147,85),{keep:=[0,3,4,10,12,13,86,87,88],hl:=99}),((291,5),{keep:=[0,1,2,3,4,10,11],hl:=99}),((340,3),{keep:=[0,1,2,3,8],hl:=99}),((340,15),{keep:=[0,1,2,3,8,9],hl:=99}),((147,99),{keep:=[10],hl:=0}),((226,2),{keep:=[1,7,8,11],hl:=0}),((291,14),{keep:=[],hl:=0})]
def akh:Ctx:=CX (ens TW) aeh
def Zo(c:BO3):OLR:=og (D' (mf ([loM c,upM c]))) (og (D' ((2:Int)=2)) (og (D' (Dy (upM c) (loM c))) (match D' ((t8 (upM c) (loM c))<0)with|T'=>S' [RV.new 48 tCU ([upM c,loM c])]|F'=>S' [RV.new 48 tCU ([loM c,upM c])])))
theorem amX(c:BO3):RT akh 147 [.d (.sl tCU) ([loM c,upM c])] (Zo c):=rtX
def amr:Cn 147 [(.sl tCU)]:=cn λ(l:List BCU)=>lf (mf l) [.new 48 tCU l] λh=>by
 obtain⟨c,hc,rfl⟩:=h;obtain⟨o1,o2,z1,z2,z3,z4⟩:=qQ hc;have q1:Dy (upM c) (loM c):=⟨c,hc,.inr rfl,.inl rfl⟩
 have q2:Dy (loM c) (upM c):=⟨c,hc,.inl rfl,.inr rfl⟩
 have v1:t8 (upM c) (loM c)=1:=rfl;have v2:t8 (loM c) (upM c)= -1:=rfl;have t1:mf [loM c,upM c]\/mf [upM c,loM c]:=.inl ⟨c,hc,rfl⟩;have t2:mf [upM c,loM c]\/mf [loM c,upM c]:=.inr ⟨c,hc,rfl⟩;have t3:mf [loM c,upM c]:=⟨c,hc,rfl⟩
 have e1:cg [loM c,upM c] 0=enc (dX (dec c)):=rfl;have e2:cg [loM c,upM c] 1=enc (eH (dec c)):=rfl;have k:∀{p q},okP 4000 p->okP 4000 q->D' (okP 4000 p/\okP 4000 q)=true:=λh h'=>dT ⟨h,h'⟩;refine aX TW (amX c ?_);unfold Zo;simp only[dT q1,dT t3,v1];rfl
def UD:List En:=[enT J5,enT FL,enT Gw,enT mE,enT Gy,⟨94,fo,dG⟩,⟨194,iM,fd⟩]
def acT:NT:=[((74,17),{keep:=[1,27,30,33],hl:=0}),((143,3),{keep:=[1,5,6,9,11,14,16,19,21,24],hl:=0})]
def ajv:Ctx:=CX (ens UD) acT
def YI(c:BCU)(_k:KT):OLR:=let y1:OLR:=match D' (okC 4000 c/\okP 4000 c.2.2.2.2.1)with|T'=>(match dv (dC c) (dec c.2.2.2.2.1)with|T'=>(og (D' (okC 4000 c/\okP 4000 c.2.2.2.2.2)) (match dv (dC c) (dec c.2.2.2.2.2)with|T'=>(og (D' (okP 4000 c.2.2.2.2.1/\okP 4000 c.2.2.2.2.2)) (S' [RV.d .bool (!(aB (dec c.2.2.2.2.1) (dec c.2.2.2.2.2)==0))]))|F'=>S' [RV.d .bool F']))|F'=>S' [RV.d .bool F'])|F'=>none;let y2:OLR:=match !c.1 with|T'=>(match c.2.2.2.1 with|T'=>S' [RV.d .bool F']|F'=>(og (o1 c.2.1.1) (og (o1 c.2.1.2.1) (og (o1 c.2.1.2.2) (og (o1 c.2.1.1) (match !((aD (ag c.2.1.1) 0)==0)with|T'=>y1|F'=>(og (o1 c.2.1.2.1) (match !(!((aD (ag c.2.1.2.1) 0)==0))with|T'=>S' [RV.d .bool F']|F'=>y1))))))))|F'=>y1;og (D' (okP 4000 c.2.2.2.2.1)) (og (D' (okP 4000 c.2.2.2.2.2)) (match c.1 with|T'=>(og (D' (rD c.2.2.1)) y2)|F'=>y2))
theorem akY(c:BCU):RS ajv 74 [.d tCU c] (YI c):=rsX
def akT:Cn 74 [tCU]:=cn λ(c:BCU)=>lf (wj c) [.d .bool T'] λh=>by
 refine aX UD (akY _ ⟨0,?_⟩);obtain⟨h1,g,h4,_⟩:=abB h;have s1:dv (dC c) (dec c.2.2.2.2.1)=true:=g.2.1;have s2:dv (dC c) (dec c.2.2.2.2.2)=true:=g.2.2.1;have s3:(aB (dec c.2.2.2.2.1) (dec c.2.2.2.2.2)==0)=false:=apk.2 g.2.2.2;unfold YI;simp only[dT h4.2.2.1,dT h4.2.2.2,h1,dT (h4.1 h1),s1,s2,s3,dT (show okC 4000 c/\okP 4000 c.2.2.2.2.1 from⟨h4,h4.2.2.1⟩),dT (show okC 4000 c/\okP 4000 c.2.2.2.2.2 from⟨h4,h4.2.2.2⟩),dT (show okP 4000 c.2.2.2.2.1/\okP 4000 c.2.2.2.2.2 from h4.2.2)];rfl
def Tz:List En:=[enK ajO,enK alI,enK alN,enK amr]
def ada:NT:=[((76,8),{keep:=[3,6,7,8],hl:=99})]
def aiH:Ctx:=CX (ens Tz) ada
def acl(c:BO3):OLR:=og (D' (wj (loM c))) (og (D' (wj (hiM c))) (og (D' (mf ([jQ (loM c),jQ (hiM c)]))) (og (D' (mf ([jQ (loM c),jQ (hiM c)]))) (og (D' (mf ([jQ (loM c),jQ (hiM c)]))) (S' [RV.new 48 tCU ([jQ (loM c),jQ (hiM c)])])))))
theorem akg(c:BO3):RT aiH 76 [.d (.sl tCU) ([loM c,hiM c])] (acl c):=rtX
def ah2:Cn 76 [(.sl tCU)]:=cn λ(l:List BCU)=>lf (vu l) [.new 48 tCU (l.map jQ)] λh=>by
 obtain⟨c,hc,rfl⟩:=h;have p:mf [jQ (loM c),jQ (hiM c)]:=⟨c,hc,by rw[(Dq hc).1,(Dq hc).2]⟩
 refine aX Tz (akg c ?_);unfold acl;rw[dT (show wj (loM c) from⟨hc,.inl rfl⟩),dT (show wj (hiM c) from⟨hc,.inr rfl⟩),dT p];rfl
def PA:List En:=[enT akT,enK adX,enK ah2]
def adV:NT:=[((141,6),{keep:=[0,1,7,8],hl:=99}),((30,22),{keep:=[0,2,15,16,17],hl:=99}),((30,12),{keep:=[0,2,12],hl:=0}),((72,3),{keep:=[7],hl:=0}),((141,18),{keep:=[0,1,5,7,8,16],hl:=0})]
def aiA:Ctx:=CX (ens PA) adV
def ZT(c:BO3):OLR:=og (D' (wj (loM c))) (og (D' (wj (hiM c))) (og (D' (vu ([loM c,hiM c]))) (og (D' (vu ([loM c,hiM c]))) (match D' (((([loM c,hiM c]).map jQ).length:Int)>400)with|T'=>S' [RV.d (.st (.sl tCU)) ([]),RV.d ask 3]|F'=>S' [RV.d (.st (.sl tCU)) (([loM c,hiM c]).map jQ),RV.d ask 0]))))
theorem aiz(c:BO3):RT aiA 30 [.d (.sl tCU) ([loM c,hiM c])] (ZT c):=rtX
def alB:Cn 30 [(.sl tCU)]:=cn λ(l:List BCU)=>lf (vu l) [.d (.st (.sl tCU)) (l.map jQ),.d ask 0] λh=>by
 obtain⟨c,hc,rfl⟩:=h;obtain⟨o1,o2,z1,z2,z3,z4⟩:=qQ hc;have t3:vu [loM c,hiM c]:=⟨c,hc,rfl⟩
 have e1:cg [loM c,hiM c] 0=enc (dX (dec c)):=rfl;have e2:cg [loM c,hiM c] 1=enc (eH (dec c)):=rfl;have k:∀{p q},okP 4000 p->okP 4000 q->D' (okP 4000 p/\okP 4000 q)=true:=λh h'=>dT ⟨h,h'⟩;refine aX PA (aiz c ?_);unfold ZT;simp only[dT (show wj (loM c) from⟨hc,.inl rfl⟩),dT (show wj (hiM c) from⟨hc,.inr rfl⟩),dT t3];rfl
def O5:List En:=[enT FL,enL alc,enK alB]
def akD:Ctx:=CX (ens O5) []
def aa5(c:BO3)(_k:KT):OLR:=og (D' (rD c)) (og (D' (bK c)) (og (D' (vu (WN c))) (S' [RV.d (.st (.sl tCU)) ((WN c).map jQ),RV.d ask 0])))
theorem akr(c:BO3):RS akD 13 [.d tO c] (aa5 c):=rsX
def LK:Cn 13 [tO]:=cn λ(c:BO3)=>lf (bK c) [.d (.st (.sl tCU)) ([loM c,upM c]),.d ask 0] λh=>by
 refine aX O5 (akr _ ⟨0,?_⟩);unfold aa5;rw[dT (show rD c from(CJ h).1.1.1.1 rfl),dT h,dT (show vu (WN c) from⟨c,h,rfl⟩)];show S' [RV.d (.st (.sl tCU)) [jQ (loM c),jQ (hiM c)],RV.d ask 0]=_;rw[(Dq h).1,(Dq h).2]
end
section
section
variable {R:Type}
def fcL{α:Type}:List α->(List α->R)->R
 |[],k=>k []
 |x::l,k=>fcL l λl'=>k (x::l')
theorem ag5{α:Type}:∀(l:List α) (k:List α->R),fcL l k=k l
 |[],_=>rfl
 |_x::l,_k=>ag5 l _
def fcE{α:Type}(f:α->(α->R)->R):List α->(List α->R)->R
 |[],k=>k []
 |x::l,k=>f x λy=>fcE f l λl'=>k (y::l')
theorem Dt{α:Type}{f:α->(α->R)->R}(h:∀x k,f x k=k x):∀(l:List α) (k:List α->R),fcE f l k=k l
 |[],_=>rfl
 |x::l,k=>by rw[fcE,h,Dt h]
def fcD:(t:Ty)->t.D->(t.D->R)->R
 |.int _,x,k=>match(x:Int)with
  |.ofNat n=>frc n λn'=>k (Int.ofNat n')
  |.negSucc n=>frc n λn'=>k (Int.negSucc n')
 |.bool,x,k=>match(x:Bool)with
  |true=>k true
  |false=>k false
 |.str,x,k=>k x
 |.sl e,x,k=>fcE (fcD e) x k
 |.pair a b,x,k=>match(x:a.D×b.D)with
  |(y,z)=>fcD a y λy'=>fcD b z λz'=>k (y',z')
 |.st a,x,k=>fcD a x k
theorem pD:∀(t:Ty) (x:t.D) (k:t.D->R),fcD t x k=k x
 |.int q,x,k=>by
  have:∀y:Int,fcD (.int q) y k=k y:=λy=>match y with
   |.ofNat n=>gL n λn'=>k (Int.ofNat n')
   |.negSucc n=>gL n λn'=>k (Int.negSucc n')
  exact this x
 |.bool,x,k=>by cases(x:Bool)<;>rfl
 |.str,_,_=>rfl
 |.sl e,x,k=>Dt (pD e) x k
 |.pair a b,x,k=>by obtain⟨y,z⟩:=x;exact(pD a y _).trans (pD b z _)
 |.st a,x,k=>pD a x k
def fcN:List Nat->(List Nat->R)->R
 |[],k=>k []
 |n::l,k=>frc n λn'=>fcN l λl'=>k (n'::l')
theorem IW:∀(l:List Nat) (k:List Nat->R),fcN l k=k l
 |[],_=>rfl
 |n::l,k=>by rw[fcN,gL,IW]
def agz(t:Ty)(x:t.D)(k:t.D->R):R:=match t,x,k with
 |.int q,x,k=>fcD (.int q) x k
 |.bool,x,k=>fcD .bool x k
 |_,x,k=>k x
theorem LF(t:Ty)(x:t.D)(k:t.D->R):agz t x k=k x:=by cases t<;>first|rfl|exact pD _ x k
def fcV(s:SV)(k:SV->R):R:=match s with
 |.d t x=>agz t x λy=>k (.d t y)
 |.own j=>frc j λj'=>k (.own j')
 |.box j o=>frc j λj'=>frc o λo'=>k (.box j' o')
 |.oelt j a b c=>frc j λj'=>frc a λa'=>frc b λb'=>frc c λc'=>k (.oelt j' a' b' c')
 |.osl j a b c=>frc j λj'=>frc a λa'=>frc b λb'=>frc c λc'=>k (.osl j' a' b' c')
 |.clo f l=>fcN l λl'=>k (.clo f l')
 |s=>k s
theorem OQ(s:SV)(k:SV->R):fcV s k=k s:=by
 cases s<;>first|rfl|simp only[fcV,LF,gL,IW]
def fcS:List SV->(List SV->R)->R
 |[],k=>k []
 |s::l,k=>fcV s λs'=>fcS l λl'=>k (s'::l')
theorem Ie:∀(l:List SV) (k:List SV->R),fcS l k=k l
 |[],_=>rfl
 |s::l,k=>by rw[fcS,OQ,Ie]
def fcI(it:Item)(k:Item->R):R:=match it with
 |.row et e xs=>fcE (agz e) xs λxs'=>k (.row et e xs')
 |.rws t cs=>fcS cs λcs'=>k (.rws t cs')
 |.box t cs=>fcS cs λcs'=>k (.box t cs')
 |it=>k it
theorem ac5(it:Item)(k:Item->R):fcI it k=k it:=by
 unfold fcI;split
 ·rw[Dt (LF _)]
 ·rw[Ie]
 ·rw[Ie]
 ·rfl
def fcH:List Item->(List Item->R)->R
 |[],k=>k []
 |it::l,k=>fcI it λit'=>fcH l λl'=>k (it'::l')
theorem Tp:∀(l:List Item) (k:List Item->R),fcH l k=k l
 |[],_=>rfl
 |s::l,k=>by rw[fcH,ac5,Tp]
def fcP:SL->(SL->R)->R
 |[],k=>k []
 |(t,s)::l,k=>frc t λt'=>fcV s λs'=>fcP l λl'=>k ((t',s')::l')
theorem IG:∀(l:SL) (k:SL->R),fcP l k=k l
 |[],_=>rfl
 |(t,s)::l,k=>by rw[fcP,gL,OQ,IG]
def fcK:List KJ->(List KJ->R)->R
 |[],k=>k []
 |x::l,k=>match x with
  |.seq i=>frc i λi'=>fcK l λl'=>k (.seq i'::l')
  |.blk i=>frc i λi'=>fcK l λl'=>k (.blk i'::l')
  |.lp i=>frc i λi'=>fcK l λl'=>k (.lp i'::l')
theorem IR:∀(l:List KJ) (k:List KJ->R),fcK l k=k l
 |[],_=>rfl
 |x::l,k=>by cases x<;>(rw[fcK];simp only[gL,IR])
def fcF:List Fm->(List Fm->R)->R
 |[],k=>k []
 |⟨f,K,i,j,L,fl,d⟩::l,k=>frc f λf=>fcK K λK=>frc i λi=>frc j λj=>fcP L λL=>frc fl λfl=>match d with
  |none=>fcF l λl'=>k (⟨f,K,i,j,L,fl,none⟩::l')
  |some D=>fcN D λD=>fcF l λl'=>k (⟨f,K,i,j,L,fl,some D⟩::l')
theorem TV:∀(l:List Fm) (k:List Fm->R),fcF l k=k l
 |[],_=>rfl
 |⟨f,K,i,j,L,fl,d⟩::l,k=>by cases d<;>(rw[fcF];simp only[gL,IR,IG,IW,TV])
def fcR:List RV->(List RV->R)->R
 |[],k=>k []
 |x::l,k=>match x with
  |.d t x=>fcD t x λy=>fcR l λl'=>k (.d t y::l')
  |.new et e xs=>fcE (fcD e) xs λys=>fcR l λl'=>k (.new et e ys::l')
theorem Hr:∀(l:List RV) (k:List RV->R),fcR l k=k l
 |[],_=>rfl
 |x::l,k=>by
  cases x<;>rw[fcR]
  ·simp only[pD,Hr l]
  ·simp only[Dt (pD _),Hr l]
def agj(s:cE):cE:=match s with
 |⟨k,r,m,t,l⟩=>⟨k,λR a c=>r R a λrs=>fcR rs c,m,t,match l with
  |some (p,g)=>some (p,λR a c=>g R a λrs=>fcR rs c)
  |none=>none⟩
theorem WX(s:cE):agj s=s:=by
 obtain⟨k,r,m,t,l⟩:=s;rcases l with _|⟨p,g⟩<;>simp only[agj,Hr]
def AQ(E:Env):Env:=E.map λp=>(p.1,agj p.2)
theorem E3(E:Env):AQ E=E:=by simp only[AQ,WX,List.map_id']
def alm:OLR->OLR
 |some r=>some r
 |none=>none
theorem Vy(x:OLR):alm x=x:=by cases x<;>rfl
end
def S4(P:Program)(F:FT)(T:TT)(E:Env)(N:NT):Nat->Nat->Cfg->OLR
 |0,_,_=>none
 |n+1,i,⟨f,K,L,H,fl,fs⟩=>frc i λi=>frc f λf=>fcK K λK=>fcP L λL=>fcH H λH=>frc fl λfl=>fcF fs λfs=>alm (go2 P F T E N (S4 P F T E N n) 4000 ⟨f,.lp i::K,L,H,fl,fs⟩ (.node (i+1)))
theorem Dp(P:Program)(F:FT)(T:TT)(E:Env)(N:NT):∀n,S4 P F T E N n=run P F T E N n
 |0=>rfl
 |n+1=>by
  funext i c;obtain⟨f,K,L,H,fl,fs⟩:=c;rw[S4,gL,gL,IR,IG,Tp,gL,TV,Vy,Dp P F T E N n,n8];rfl
def fcA{R:Type}:List SV->(List SV->R)->R
 |[],k=>k []
 |s::l,k=>match s with
  |.d t x=>fcD t x λy=>fcA l λl'=>k (.d t y::l')
  |s=>fcA l λl'=>k (s::l')
theorem I6{R:Type}:∀(l:List SV) (k:List SV->R),fcA l k=k l
 |[],_=>rfl
 |s::l,k=>by cases s<;>simp only[fcA,pD,I6 l]
theorem rtF{E:Env}{N:NT}{f:Nat}{args:List SV}{r:List RV}(e:(fcA args λargs=>go2 Tryz.prog ft tys (AQ E) N (S4 Tryz.prog ft tys (AQ E) N 9999) 4000 (nh f args) (.node 0))=S' r:=by kernel_rfl):(CX E N).Res f args r:=by
 rw[I6,E3,Dp,n8]at e;exact⟨9999,e⟩
theorem WW{E:Env}{N:NT}{f p:Nat}{args:List SV}{r:List RV}(e:(fcA args λargs=>go2 Tryz.prog ft tys (AQ E) N (S4 Tryz.prog ft tys (AQ E) N 9999) 4000 (uz f p args) (.node 0))=S' r:=by kernel_rfl):(CX E N).ResL f p args r:=by
 rw[I6,E3,Dp,n8]at e;exact⟨9999,e⟩
end
def zE(a b c d:Rat):BCU:=yJ (a,b) (c,d)
def zV(a b c d:Rat):BCU:=gJ (zE a b c d)
def zPA:List BCU:=[zE 0 0 4 0,zE 4 0 4 4,zV 4 4 0 4,zV 0 4 0 0,zE 1 1 3 1,zE 3 1 3 3,zV 3 3 1 3,zV 1 3 1 1]
def zPB:List BCU:=[zE 0 0 2 0,zE 2 0 2 2,zV 2 2 0 2,zV 0 2 0 0,zE 2 2 4 2,zE 4 2 4 4,zV 4 4 2 4,zV 2 4 2 2]
def zMA:List BCU:=[zE 0 0 4 0,zV 0 4 0 0,zV 4 4 0 4,zE 1 1 3 1,zV 1 3 1 1,zV 3 3 1 3,zE 3 1 3 3,zE 4 0 4 4]
def zMB:List BCU:=[zE 0 0 2 0,zV 0 2 0 0,zV 2 2 0 2,zE 2 0 2 2,zE 2 2 4 2,zV 2 4 2 2,zV 4 4 2 4,zE 4 2 4 4]
def zIn(a b l:List BCU):Prop:=Ty.beq (.sl tCU) l a=T'\/Ty.beq (.sl tCU) l b=T'
instance (a b l:List BCU):Decidable (zIn a b l):=by unfold zIn;infer_instance
def Co:cE:=spN F' T' [ask] (λx=>D' (bI x.1)) (λx=>[RV.d tI (ah x.1)])
theorem yQ:SpK 269 Co:=spX λx h=>DU x.1 (aoQ h)
def D2:cE:=spN T' T' [tI] (λx=>D' (okI x.1)) (λx=>[RV.d ask (b9 (ab x.1) 0)])
theorem zk:SpK 178 D2:=spX λx h=>B7 x.1 (aoQ h)
def CE:cE:=spN T' T' [tI,tI] (λx=>D' (okI x.1/\okI x.2.1)) (λx=>[RV.d ask (b9 (ab x.1) (ab x.2.1))])
theorem zI:SpK 108 CE:=spX λx h=>CM x.1 x.2.1 (aoQ h)
def DD:cE:=spN F' T' [tI,tI] (λx=>D' (okI x.1/\okI x.2.1)) (λx=>[RV.d tI (ah (ab x.1+ab x.2.1))])
theorem yE:SpK 202 DD:=spX λx h=>JJ x.1 x.2.1 (aoQ h)
def Dm:cE:=spN F' T' [tI,tI] (λx=>D' (okI x.1/\okI x.2.1)) (λx=>[RV.d tI (ah (ab x.1-ab x.2.1))])
theorem zN:SpK 368 Dm:=spX λx h=>K3 x.1 x.2.1 (aoQ h)
def Dx:cE:=spN F' T' [tI] (λx=>D' (okI x.1)) (λx=>[RV.d tI (ah (-ab x.1))])
theorem yx:SpK 273 Dx:=spX λx h=>C7 x.1 (aoQ h)
def Ep:cE:=spN F' T' [tI,tI] (λx=>D' (okI x.1/\okI x.2.1)) (λx=>[RV.d tI (ah (ab x.1*ab x.2.1))])
theorem zd:SpK 109 Ep:=spX λx h=>Ef x.1 x.2.1 (aoQ h)
def Ec:cE:=spN T' T' [tR] (λx=>D' (okR x.1)) (λx=>[RV.d ask (aD (ag x.1) 0)])
theorem zG:SpK 94 Ec:=spX λx h=>D0 x.1 (aoQ h)
def CH:cE:=spN T' T' [tR,tR] (λx=>D' (okR x.1/\okR x.2.1)) (λx=>[RV.d ask (aD (ag x.1) (ag x.2.1))])
theorem xT:SpK 46 CH:=spX λx h=>Lq x.1 x.2.1 (aoQ h)
def Cd:cE:=spN F' T' [tR,tR] (λx=>D' (okR x.1/\okR x.2.1)) (λx=>[RV.d tR (av (ag x.1+ag x.2.1))])
theorem yS:SpK 122 Cd:=spX λx h=>Cx x.1 x.2.1 (aoQ h)
def Ds:cE:=spN F' T' [tR,tR] (λx=>D' (okR x.1/\okR x.2.1)) (λx=>[RV.d tR (av (ag x.1-ag x.2.1))])
theorem xE:SpK 165 Ds:=spX λx h=>K7 x.1 x.2.1 (aoQ h)
def DF:cE:=spN F' T' [tR,tR] (λx=>D' (okR x.1/\okR x.2.1)) (λx=>[RV.d tR (av (ag x.1*ag x.2.1))])
theorem yn:SpK 123 DF:=spX λx h=>Jt x.1 x.2.1 (aoQ h)
def Eg:cE:=spN F' T' [tR] (λx=>D' (okR x.1)) (λx=>[RV.d tR (av (-ag x.1))])
theorem zi:SpK 196 Eg:=spX λx h=>C4 x.1 (aoQ h)
def Da:cE:=spN F' T' [tR,tR] (λx=>D' (jK x.1 x.2.1)) (λx=>[RV.d tR (av (ag x.1/ag x.2.1)),RV.d ask 0])
theorem zz:SpK 164 Da:=spX λx h=>Kp x.1 x.2.1 (aoQ h)
def DW:cE:=spN F' T' [ask] (λx=>D' (bI x.1)) (λx=>[RV.d tR (av (x.1:Rat))])
theorem xN:SpK 194 DW:=spX λx h=>LC x.1 (aoQ h)
def pp:List En:=[enV lg,enV ov,enV rS,enV vp,⟨269,Co,yQ⟩,⟨178,D2,zk⟩,⟨108,CE,zI⟩,⟨202,DD,yE⟩,⟨368,Dm,zN⟩,⟨273,Dx,yx⟩,⟨109,Ep,zd⟩,enU FE,⟨94,Ec,zG⟩,⟨46,CH,xT⟩,⟨122,Cd,yS⟩,⟨165,Ds,xE⟩,⟨123,DF,yn⟩,⟨196,Eg,zi⟩,⟨164,Da,zz⟩,⟨194,DW,xN⟩,enV BG,enV ym,enV Ax,enV v5,enU qZ,enU Fq,enU Lx,enV sK,enV wi,enV De,enU oF,enU mE,enV A6,enU J5,enU E6,enU Fo,enU E9,enU FJ,enU FL,enU JS,enU Gy,enU Gw,enV Ay,enV Lt,enK GI,enV I7,enV LK,enU EI,enU E7,enU NS,enK IJ,enB 0 Qt]
def acJ:NT:=[((149,8),{keep:=[0,3,19,20,21],hl:=0,dyn:=T'}),((149,4019),{keep:=[0,3,19,20,21,26,27,29],hl:=0}),((149,27),{keep:=[0,3,6,36,37],hl:=0,dyn:=T'}),((149,41),{keep:=[0,3,6,7,36,37,40,41],hl:=0,dyn:=T'}),((149,54),{keep:=[0,3,6,7,8,36,37,40,41,44,45,46,47,48,49,50,51,52],hl:=0}),((149,69),{keep:=[6,11,85,86,87],hl:=0,dyn:=T'}),((227,8),{keep:=[1,2,3,20,21,22],hl:=0,dyn:=T'}),((227,3031),{keep:=[1,2,3,20,21,22],hl:=0})]
def ZO:NT:=[((147,10),{keep:=[0,3,4,21,22],hl:=0,dyn:=T'}),((147,2025),{keep:=[0,3,4,30],hl:=0}),((147,27),{keep:=[0,3,4,30,31,32],hl:=0,dyn:=T'}),((147,53),{keep:=[0,3,4,8,9,30,31,32,64,65,66,67,68,69,70,71,72,73,74,75,76,77],hl:=0}),((147,64),{keep:=[0,3,4,10,86,87,88],hl:=0,dyn:=T'}),((147,85),{keep:=[0,3,4,10,12,13,86,87,88],hl:=0,dyn:=T'}),((147,2099),{keep:=[10],hl:=0}),((75,8),{keep:=[3,8,9,10],hl:=0,dyn:=T'}),((226,5002),{keep:=[1,7,8,11],hl:=0}),((226,7002),{keep:=[],hl:=0}),((292,3005),{keep:=[5],hl:=0}),((292,2009),{keep:=[7],hl:=0}),((291,5),{keep:=[0,1,2,3,4,10,11],hl:=0,dyn:=T'}),((291,5014),{keep:=[],hl:=0}),((291,5022),{keep:=[],hl:=0}),((291,5030),{keep:=[0,1,2,3,4,10,11,12],hl:=0}),((291,5034),{keep:=[0,1,2,3,4,10,11,12,52],hl:=0}),((291,5040),{keep:=[0,1,2,3,4,10,11,12,13],hl:=0}),((291,5050),{keep:=[0,1,2,3,4,10,11,12,13,80],hl:=0}),((291,57),{keep:=[0,1,2,3,4,10,11,12,13,81,82,83,84,85,86,87,88,89,90,91,92,93,94,95,96,97],hl:=0}),((291,6060),{keep:=[0,2,3,4,10,11,103],hl:=0}),((291,6066),{keep:=[0,1,2,3,4,12,111],hl:=0}),((291,6079),{keep:=[0,2,3,4,10,11,16],hl:=0}),((291,7084),{keep:=[0,1,3,4,10,11,16],hl:=0}),((340,3),{keep:=[0,1,2,3,8],hl:=0,dyn:=T'}),((340,15),{keep:=[0,1,2,3,8,9],hl:=0,dyn:=T'}),((340,18),{keep:=[0,1,2,3,8,9,18,19,20,21,22,23,24,25,26,27,28,29,30,31,32,33,34],hl:=0})]
set_option maxRecDepth 1000000 in
theorem akN:(CX (ens pp) acJ).Res 149 [.d (.sl tCU) zPA] [.new 48 tCU zPA]:=rtF
set_option maxRecDepth 1000000 in
theorem alv:(CX (ens pp) acJ).Res 149 [.d (.sl tCU) zPB] [.new 48 tCU zPB]:=rtF
set_option maxRecDepth 1000000 in
theorem aif:(CX (ens pp) ZO).ResL 147 0 [.d (.sl tCU) zMA] [.new 48 tCU zMA]:=WW
set_option maxRecDepth 1000000 in
theorem ahH:(CX (ens pp) ZO).ResL 147 0 [.d (.sl tCU) zMB] [.new 48 tCU zMB]:=WW
def alR:Cn 149 [(.sl tCU)]:=cn λ(l:List BCU)=>lf (zIn zPA zPB l) [.new 48 tCU l] λh=>by
 rcases h with h|h
 ·rw[Ty.beq_ok (.sl tCU) l _ h];exact aX pp akN
 ·rw[Ty.beq_ok (.sl tCU) l _ h];exact aX pp alv
def alD:CG (Iq Tryz.prog 147 0) [(.sl tCU)] id:=λ(l:List BCU)=>lf (zIn zMA zMB l) [.new 48 tCU l] λh=>by
 rcases h with h|h
 ·rw[Ty.beq_ok (.sl tCU) l _ h];exact EY pp aif
 ·rw[Ty.beq_ok (.sl tCU) l _ h];exact EY pp ahH
def zSA:List BCU:=[zE 0 0 4 0,zE 4 0 4 4,zE 4 4 0 4,zE 0 4 0 0,zE 1 1 3 1,zE 3 1 3 3,zE 3 3 1 3,zE 1 3 1 1]
def zSB:List BCU:=[zE 0 0 2 0,zE 2 0 2 2,zE 2 2 0 2,zE 0 2 0 0,zE 2 2 4 2,zE 4 2 4 4,zE 4 4 2 4,zE 2 4 2 2]
def zFl(l:List BCU):List BCU:=bif Ty.beq (.sl tCU) l zSA then zMA else zMB
theorem ake:zFl zSA=zMA:=by
 have h:Ty.beq (.sl tCU) zSA zSA=true:=by kernel_rfl
 unfold zFl;rw[h,cond_true]
theorem ajz:zFl zSB=zMB:=by
 have h:Ty.beq (.sl tCU) zSB zSA=false:=by kernel_rfl
 unfold zFl;rw[h,cond_false]
def Cu:List En:=[enV lg,enV ov,enV rS,enV vp,⟨269,Co,yQ⟩,⟨178,D2,zk⟩,⟨108,CE,zI⟩,⟨202,DD,yE⟩,⟨368,Dm,zN⟩,⟨273,Dx,yx⟩,⟨109,Ep,zd⟩,enU FE,⟨94,Ec,zG⟩,⟨46,CH,xT⟩,⟨122,Cd,yS⟩,⟨165,Ds,xE⟩,⟨123,DF,yn⟩,⟨196,Eg,zi⟩,⟨164,Da,zz⟩,⟨194,DW,xN⟩,enV BG,enV ym,enV Ax,enV v5,enU qZ,enU Fq,enU Lx,enV sK,enV wi,enV De,enU oF,enU mE,enV A6,enU J5,enU E6,enU Fo,enU E9,enU FJ,enU FL,enU JS,enU Gy,enU Gw,enV Ay,enV Lt,enK GI,enV I7,enV LK,enU EI,enU E7,enU NS,enK IJ,enK alR,enB 0 Qt,enB 0 alD]
def YZ:NT:=[((30,2012),{keep:=[0,2,12],hl:=0}),((30,2020),{keep:=[0,2,15],hl:=0}),((30,22),{keep:=[0,2,15,16,17],hl:=0,dyn:=T'}),((30,2042),{keep:=[2,28],hl:=0}),((76,8),{keep:=[3,6,7,8],hl:=0,dyn:=T'}),((76,3022),{keep:=[19],hl:=0}),((148,2003),{keep:=[0],hl:=0}),((148,10),{keep:=[0,3,4],hl:=0,dyn:=T'}),((148,22),{keep:=[0,3,4,5],hl:=0,dyn:=T'}),((226,5002),{keep:=[1,7,8,11],hl:=0}),((226,7002),{keep:=[],hl:=0}),((292,3005),{keep:=[5],hl:=0}),((292,2009),{keep:=[7],hl:=0}),((291,5),{keep:=[0,1,2,3,4,10,11],hl:=0,dyn:=T'}),((291,5014),{keep:=[],hl:=0}),((291,5022),{keep:=[],hl:=0}),((291,5030),{keep:=[0,1,2,3,4,10,11,12],hl:=0}),((291,5034),{keep:=[0,1,2,3,4,10,11,12,52],hl:=0}),((291,5040),{keep:=[0,1,2,3,4,10,11,12,13],hl:=0}),((291,5050),{keep:=[0,1,2,3,4,10,11,12,13,80],hl:=0}),((291,57),{keep:=[0,1,2,3,4,10,11,12,13,81,82,83,84,85,86,87,88,89,90,91,92,93,94,95,96,97],hl:=0}),((291,6060),{keep:=[0,2,3,4,10,11,103],hl:=0}),((291,6066),{keep:=[0,1,2,3,4,12,111],hl:=0}),((291,6079),{keep:=[0,2,3,4,10,11,16],hl:=0}),((291,7084),{keep:=[0,1,3,4,10,11,16],hl:=0}),((340,3),{keep:=[0,1,2,3,8],hl:=0,dyn:=T'}),((340,15),{keep:=[0,1,2,3,8,9],hl:=0,dyn:=T'}),((340,18),{keep:=[0,1,2,3,8,9,18,19,20,21,22,23,24,25,26,27,28,29,30,31,32,33,34],hl:=0}),((75,8),{keep:=[3,8,9,10],hl:=0,dyn:=T'}),((73,2003),{keep:=[4],hl:=0}),((74,10017),{keep:=[1,27,30,33],hl:=0}),((72,3003),{keep:=[7],hl:=0}),((141,6),{keep:=[0,1,7,8],hl:=0,dyn:=T'}),((141,6018),{keep:=[0,1,5,7,8,16],hl:=0})]
set_option maxRecDepth 1000000 in
theorem al8:(CX (ens Cu) YZ).ResL 30 0 [.d (.sl tCU) zSA] [.d (.st (.sl tCU)) zMA,.d ask 0]:=WW
set_option maxRecDepth 1000000 in
theorem alt:(CX (ens Cu) YZ).ResL 30 0 [.d (.sl tCU) zSB] [.d (.st (.sl tCU)) zMB,.d ask 0]:=WW
def amU:CG (Iq Tryz.prog 30 0) [(.sl tCU)] id:=λ(l:List BCU)=>lf (zIn zSA zSB l) [.d (.st (.sl tCU)) (zFl l),.d ask 0] λh=>by
 rcases h with h|h
 ·rw[Ty.beq_ok (.sl tCU) l _ h,ake];exact EY Cu al8
 ·rw[Ty.beq_ok (.sl tCU) l _ h,ajz];exact EY Cu alt
def cnQ(r:List BCU)(p:BP):Prop:=r.length<=10000/\(∀e∈r,okC 3500 e)/\okP 3500 p
instance (r:List BCU) (p:BP):Decidable (cnQ r p):=by unfold cnQ;infer_instance
def zSM:BCU:=afZ (0,0) (0,4)
def zV0:BV:=enc ((0,0):Rat×Rat)
def zV4:BV:=enc ((0,4):Rat×Rat)
def zO0:BR×BR×BR:=enc (xP (0,0,0,0,0))
def zO4:BR×BR×BR:=enc (yP (0,0,4,0,0))
def btP(a b:BR×BR×BR):Prop:=Ty.beq tO a zO0=T'/\(Ty.beq tO b zO0=T'\/Ty.beq tO b zO4=T')
instance (a b:BR×BR×BR):Decidable (btP a b):=by unfold btP;infer_instance
theorem anK:Ty.beq tO zO0 zO0=true:=by kernel_rfl
theorem aol:Ty.beq tO zO4 zO0=false:=by kernel_rfl
def aha(r:List BCU)(a b:BV):Prop:=Ty.beq (.sl tCU) r zMA=T'/\Ty.beq tV a zV0=T'/\Ty.beq tV b zV4=T'
instance (r:List BCU) (a b:BV):Decidable (aha r a b):=by unfold aha;infer_instance
def afK:List En:=[enL ov]
def Lo(x y d:Int)(_k:KT):OLR:=og (D' (mV x d)) (og (D' (mV y d)) (S' [RV.d tV (hid (av (Rat.divInt x d)),hid (av (Rat.divInt y d)))]))
def K9:Cn 33 [ask,ask,ask]:=cn λ(x y d:Int)=>lf (mV x d/\mV y d) [.d tV (enc ((Rat.divInt x d,Rat.divInt y d):Rat×Rat))] λh=>by
 refine aA afK (Lo x y d) ⟨0,?_⟩;unfold Lo;rw[dT h.1,dT h.2];simp only[aQ];rfl
def Rq:Cn 9 [(.st (.sl tCU)),tP]:=cn λ(r:List BCU) (p:BP)=>lf (cnQ r p) [.d ask (vN r (dec p) F')] λh=>by
 exact(ZD.g r p).h h
def Sm:cE:=spN F' T' [tI,tI] (λx=>D' (jk x.1 x.2.1)) (λx=>[RV.d tR (eT x.1 x.2.1)])
theorem Sb:SpK 201 Sm:=spX λx h=>J9 x.1 x.2.1 (aoQ h)
def zT:List En:=[enV lg,enV ov,enV rS,enV vp,⟨269,Co,yQ⟩,⟨178,D2,zk⟩,⟨108,CE,zI⟩,⟨202,DD,yE⟩,⟨368,Dm,zN⟩,⟨273,Dx,yx⟩,⟨109,Ep,zd⟩,enU FE,⟨94,Ec,zG⟩,⟨46,CH,xT⟩,⟨122,Cd,yS⟩,⟨165,Ds,xE⟩,⟨123,DF,yn⟩,⟨196,Eg,zi⟩,⟨164,Da,zz⟩,⟨194,DW,xN⟩,enV BG,enV ym,enV Ax,enV v5,enU qZ,enU Fq,enU Lx,enV sK,enV wi,enV De,enU oF,enU mE,enV A6,enU J5,enU E6,enU Fo,enU E9,enU FJ,enU FL,enU JS,enU Gy,enU Gw,enV Ay,enV Lt,enK GI,enV I7,enV LK,enU EI,enU E7,enU NS,enK IJ,enV K9,enU Rq,⟨201,Sm,Sb⟩]
def acG:NT:=[((163,3009),{keep:=[4,14],hl:=0}),((242,24),{keep:=[2,3,4,5,30,31,32,33,34,35],hl:=0}),((242,3028),{keep:=[4,38],hl:=0}),((305,2005),{keep:=[2,3,4,5,21],hl:=0}),((305,4005),{keep:=[2,3,4,5,23],hl:=0}),((305,3017),{keep:=[2,4,5,6,37],hl:=0}),((305,4017),{keep:=[2,4,5,6,38],hl:=0}),((305,2025),{keep:=[4,5,6,11,47],hl:=0}),((305,4025),{keep:=[4,5,6,11,49],hl:=0}),((305,3028),{keep:=[4,5,6,9,11,58],hl:=0}),((305,4028),{keep:=[4,5,6,9,11,59],hl:=0}),((305,3029),{keep:=[4,5,6,11,64],hl:=0}),((362,2004),{keep:=[1,2,7],hl:=0}),((362,11),{keep:=[1,2,4,5,10,11,12,13,14,15,16],hl:=0}),((362,21),{keep:=[1,2,3,4,21,22,23,24,25,26,27,28,29,30],hl:=0}),((386,3),{keep:=[2,3,4,5,6,7,8,9,10,11,12,13,14,15],hl:=0}),((319,1006),{keep:=[3,4,5,6,10],hl:=0}),((384,3020),{keep:=[24,26],hl:=0}),((361,2017),{keep:=[1,2,4,5,42],hl:=0}),((361,25),{keep:=[1,2,4,5,7,9,10,11,53,54,55,56,57,58,59,60,61,62,63,64,65,66,67],hl:=0}),((337,5021),{keep:=[1,2,30],hl:=0}),((337,25),{keep:=[1,2,5,6],hl:=0,dyn:=T'}),((337,3028),{keep:=[1,2,5,6,35],hl:=0}),((337,30),{keep:=[1,2,5,6,7,10,11,12,39,40,41,42,43,44,45,46,47],hl:=0}),((189,6),{keep:=[0,1,4,5],hl:=0,dyn:=T'}),((321,5011),{keep:=[2,3,4,5,22],hl:=0}),((321,13),{keep:=[2,3,4,5,7,8,9,10,25,26,27,28,29,30,31,32,33,34,35],hl:=0}),((268,2003),{keep:=[1,18],hl:=0}),((268,4003),{keep:=[18,20],hl:=0}),((268,5009),{keep:=[28],hl:=0}),((268,3014),{keep:=[0,1,33],hl:=0}),((268,4025),{keep:=[1,6,7,51],hl:=0}),((268,4027),{keep:=[6,7,8,57],hl:=0}),((268,5027),{keep:=[6,7,8,58],hl:=0}),((268,34),{keep:=[6,7,8,9,10,11],hl:=0,dyn:=T'}),((268,49),{keep:=[6,7,8,9,10,11,13,14],hl:=0,dyn:=T'}),((268,10068),{keep:=[6,7,8,9,10,11,13,151],hl:=0}),((268,9072),{keep:=[6,7,8,9,10,11,13],hl:=0}),((268,4077),{keep:=[7,10,172],hl:=0}),((268,6077),{keep:=[10,174],hl:=0}),((190,8),{keep:=[1,5,18,19,20],hl:=0,dyn:=T'}),((190,25),{keep:=[1,5,6,7,8,18,19,20,25,26,27],hl:=0,dyn:=T'}),((317,8),{keep:=[0,1,2,7,8,14,15],hl:=0,dyn:=T'}),((188,2003),{keep:=[1,7],hl:=0}),((188,4003),{keep:=[7,9],hl:=0}),((188,24),{keep:=[0,1,5],hl:=0,dyn:=T'}),((265,4),{keep:=[0],hl:=0,dyn:=T'}),((316,10),{keep:=[0,1,6,7,8],hl:=0,dyn:=T'}),((318,5),{keep:=[0,1,4,8,9],hl:=0,dyn:=T'})]
set_option maxRecDepth 1000000 in
theorem alw:(CX (ens zT) acG).Res 163 [.d tO zO0,.d tO zO0] [.d tR (Ty.zero tR),.d ask 1]:=rtF
set_option maxRecDepth 1000000 in
theorem aku:(CX (ens zT) acG).Res 163 [.d tO zO0,.d tO zO4] [.d tR (av 1),.d ask 0]:=rtF
def aiI:Cn 163 [tO,tO]:=cn λ(a b:BO3)=>lf (btP a b) [.d tR (bif Ty.beq tO b zO0 then Ty.zero tR else av 1),.d ask (bif Ty.beq tO b zO0 then 1 else 0)] λh=>by
 obtain⟨h1,h2⟩:=h;rw[Ty.beq_ok tO a _ h1];rcases h2 with h2|h2
 ·rw[Ty.beq_ok tO b _ h2,anK,cond_true,cond_true];exact aX zT alw
 ·rw[Ty.beq_ok tO b _ h2,aol,cond_false,cond_false];exact aX zT aku
def Hd:List En:=enV aiI::zT
def aiG:NT:=[]
set_option maxRecDepth 1000000 in
theorem aib:(CX (ens Hd) aiG).Res 83 [.d tCU zSM] [.d tV (enc ((0,1):Rat×Rat))]:=rtF
def ai2:Cn 83 [tCU]:=cn λ(c:BCU)=>lf (Ty.beq tCU c zSM=T') [.d tV (enc ((0,1):Rat×Rat))] λh=>by
 rw[Ty.beq_ok tCU c _ h];exact aX Hd aib
def Pn:List En:=enV ai2::Hd
def aj9:NT:=[((34,18),{keep:=[3,7,9,30,31,32],hl:=0,dyn:=T'}),((34,3036),{keep:=[54],hl:=0}),((72,3003),{keep:=[7],hl:=0}),((141,6),{keep:=[0,1,7,8],hl:=0,dyn:=T'}),((141,6018),{keep:=[0,1,5,7,8,16],hl:=0})]
set_option maxRecDepth 1000000 in
theorem afP:(CX (ens Pn) aj9).Res 34 [.d (.st (.sl tCU)) zMA,.d tV zV0,.d tV zV4] [.d .bool T']:=rtF
def adN:Cn 34 [(.st (.sl tCU)),tV,tV]:=cn λ(r:List BCU) (a b:BV)=>lf (aha r a b) [.d .bool T'] λh=>by
 obtain⟨h1,h2,h3⟩:=h;rw[Ty.beq_ok (.sl tCU) r _ h1,Ty.beq_ok tV a _ h2,Ty.beq_ok tV b _ h3];exact aX Pn afP
def adn:List En:=[enV lg,enV ov,enV rS,enV vp,enV LK,enV K9,enU Rq,enU adN,enB 0 amU]
def ab1:NT:=[((7,1009),{keep:=[3,4,21],hl:=0}),((7,2009),{keep:=[3,4,21,22],hl:=0}),((7,1011),{keep:=[3,4,5,6,28],hl:=0}),((7,2011),{keep:=[3,4,5,6,28,29],hl:=0}),((7,23),{keep:=[0,5,7,9,66,67,68,69,70,71,72,73,74,75,76,77,78,79,80,81,82,83,84,85,86,87,88,89,90,91,92,93,94,95,96,97,98],hl:=0}),((31,14003),{keep:=[18],hl:=0}),((77,8),{keep:=[0,3,4],hl:=0,dyn:=T'})]
set_option maxRecDepth 1000000 in
def ajX:Cn 7 []:=cn<|lf True [.d .bool T'] λ_=>aX adn (N:=ab1) (rtF (N:=ab1))
theorem YJ{n:Int}(h:(Lit.int .u8 n).wf=T'):u8P n:=bounds_u8 h
theorem Bw{n:Int}(h:(Lit.int .i8 n).wf=T'):i8P n:=bounds_i8 h
abbrev af6:Ty:=(y8Y)
theorem adE{s:List Frm}(h:Ty.ok (.sl af6) s):∀x∈s,Hx x:=λx hx=>by
 obtain⟨a1,a2,a3,a4,a5,a6,a7⟩:=h.2 x hx;exact⟨YJ a1,YJ a2,Bw a3,Bw a4,Bw a5,Bw a6,λz hz=>⟨Bw (a7.2 z hz).1,Bw (a7.2 z hz).2⟩⟩
section
open RE
theorem OT{l:List BCU}(h:∀e∈l,gdN e):LO l l=true:=by
 unfold LO;rw[dT rfl,aqf,apa];intro x hx;obtain⟨i,hi,e⟩:=List.mem_iff_getElem.1 hx;rw[List.getElem_zip]at e;rw[<-e];exact N6 (h _ (aoY _))
def abo(s:List Frm)(v:Int×Int×Int)(p:Plc):Prop:=(∀x∈s,Hx x)/\Bj v/\IP p
instance (s:List Frm) (v:Int×Int×Int) (p:Plc):Decidable (abo s v p):=Classical.propDecidable _
def aeI:List En:=[enT ajX,enK aiK,enL afH,enL agh,enL ahz,enL al2,enT V6,enT ZD,enL Hy,enL RM,enT afq]
def pc(s:List Frm)(v:Int×Int×Int)(p:Plc)(_k:KT):OLR:=og (D' (Mg s (12:Int))) (match !((nv s (12:Int)).2)with|T'=>S' [RV.d .bool T']|F'=>(og (D' (Bj v)) (og (D' (IP p)) (og (D' (Al ((nv s (12:Int)).1) (hid (enc (ow v))))) (og (D' (Al ((nv s (12:Int)).1) (hid (enc (ow v))))) (og (D' (G3 (hid (((nv s (12:Int)).1).map λc=>mvB c (dec (hid (enc (ow v)))))) (hid (((nv s (12:Int)).1).map λc=>mvB c (dec (hid (enc (ow v)))))))) (og (D' (ok Pt 21000 (hid (enc (xh p)))/\ok (Rat×Rat) 1000 (hid (enc (ow v))))) (og (D' (cnP (hid (((nv s (12:Int)).1).map λc=>mvB c (dec (hid (enc (ow v)))))) (hid (enc (trP (dec (hid (enc (xh p)))) (dec (hid (enc (ow v))))))))) (og (D' (cnP ((nv s (12:Int)).1) (hid (enc (xh p))))) (match(vN (hid (((nv s (12:Int)).1).map λc=>mvB c (dec (hid (enc (ow v)))))) (dec (hid (enc (trP (dec (hid (enc (xh p)))) (dec (hid (enc (ow v)))))))) F')==(vN ((nv s (12:Int)).1) (dec (hid (enc (xh p)))) F')with|T'=>(og (D' (ok (Rat×Rat) 21000 (hid (enc (ow v))))) (og (D' (Al (hid (((nv s (12:Int)).1).map λc=>mvB c (dec (hid (enc (ow v)))))) (hid (enc (bkV (dec (hid (enc (ow v))))))))) (og (D' (Ww (hid ((hid (((nv s (12:Int)).1).map λc=>mvB c (dec (hid (enc (ow v)))))).map λc=>mvB c (dec (hid (enc (bkV (dec (hid (enc (ow v)))))))))) ((nv s (12:Int)).1))) (S' [RV.d .bool (LO (hid ((hid (((nv s (12:Int)).1).map λc=>mvB c (dec (hid (enc (ow v)))))).map λc=>mvB c (dec (hid (enc (bkV (dec (hid (enc (ow v)))))))))) ((nv s (12:Int)).1))]))))|F'=>S' [RV.d .bool F']))))))))))
def xH:Cn 5 [(.sl ((y8Y))),y4Y,M2]:=cn λ(s:List Frm) (v:Int×Int×Int) (p:Plc)=>lf (abo s v p) [.d .bool T'] λh=>by
 refine aA aeI (pc s v p) ⟨0,?_⟩;obtain⟨hs,hv,hp⟩:=h;have pb:Mg s 12:=ag8 hs (by decide);obtain⟨b1,b2⟩:=X4 pb;unfold pc;rw[dT pb];cases(nv s 12).2
 ·rfl
 generalize (nv s 12).1=r at*
 obtain⟨bp,rp⟩:=aej hp
 have bv:Bd (ow v) 3:=by
  obtain⟨g1,g2,g3,g4,g5,g6⟩:=hv;have i1:Bd (Rat.divInt v.1 (v.2.2+1)) 3:=wO ⟨by omega,by omega⟩ ⟨by omega,by omega⟩ (by omega);have i2:Bd (Rat.divInt v.2.1 (v.2.2+1)) 3:=wO ⟨by omega,by omega⟩ ⟨by omega,by omega⟩ (by omega);exact inferInstanceAs (Bd (Rat.divInt v.1 (v.2.2+1),Rat.divInt v.2.1 (v.2.2+1)) _)
 have oc:∀e∈r,okC 3500 e:=λe he=>aY (b2 e he).1.1.1 (by decide) (by decide);have o1:∀e∈r,okC 1000 e:=λe he=>aY (b2 e he).1.1.1 (by decide) (by decide);generalize hw:ow v=w at*
 have e1:Al r (enc w):=⟨b1,o1,aoQ (okd (by decide) (by decide))⟩
 have om:∀e∈r.map λc=>mvB c w,okC 1000 e:=λe he=>by
  obtain⟨c,hc,rfl⟩:=aq1.1 he;exact ae6 (b2 c hc).1.1.1 (by decide) (b2 c hc).1.1.2
 have om':∀e∈r.map λc=>mvB c w,okC 3500 e:=λe he=>aY (om e he) (by decide) (by decide)
 have e2:G3 (r.map λc=>mvB c w) (r.map λc=>mvB c w):=⟨⟨rfl,by rw[apW];omega,om'⟩,λe he=>by
  obtain⟨c,hc,rfl⟩:=aq1.1 he;exact ahi (b2 c hc)⟩
 have e3:cnP r (enc (xh p)):=⟨b1,oc,aoQ (aL (by decide) (by decide))⟩
 have e4:cnP (r.map λc=>mvB c w) (enc (trP (xh p) w)):=⟨by rw[apW];exact b1,om',aoQ (aL (by decide) (by decide))⟩
 have e5:Al (r.map λc=>mvB c w) (enc (bkV w)):=⟨by rw[apW];exact b1,om,aoQ (okd (by decide) (by decide))⟩
 have e6:((r.map λc=>mvB c w).map λc=>mvB c (bkV w))=r:=by
  rw[List.map_map];refine(arQ λc hc=>?_).trans (List.map_id r);exact aeW (oc c hc)
 have e7:Ww r r:=⟨by omega,λx hx=>(b2 x hx).1.1,λx hx=>(b2 x hx).1.1⟩
 simp only[aQ,ao,dT hv,dT hp,dT e1,dT e2,dT e3,dT e4,dT e5,e6,dT e7,okd,Nat.reduceLeDiff,Vs oc,aqM,OT λe he=>(b2 e he).1];rw[dT (show ok Pt 21000 (enc (xh p))/\ok (Rat×Rat) 1000 (enc w) from⟨aoQ (okd (by decide) (by decide)),aoQ (okd (by decide) (by decide))⟩)];rfl
theorem Vv(s:List Frm)(v:Int×Int×Int)(p:Plc)(h0:Ty.ok (.sl af6) s)(h1:Ty.ok y4Y v)(h2:Ty.ok M2 p):CQq7 5 [.d (.sl af6) s,.d y4Y v,.d M2 p] [.d .bool T']:=(xH.g s v p).h ⟨adE h0,amT h1,WI h2⟩
end
section
open Go.ChangeShapes Go.WideShapes Go.ChangeAt Go.WideMaps Go.WideElems Go.RowKit Go.Maps
section
variable {H:Type} {enc:TypeId×Value->H} {P:Program}
theorem Ag{f:Func}{s:ChangeSpec}{apart fresh handsOn again:Bool}{W W':World}{args:Array Value}{v:Value}{ds gs:List (DataW H)}{before pa pv:List MemPlace}
  (hW:DataW.Whole enc P f.params.toList s.vars apart W args.toList ds gs before)
  (hres:∀(b:Nat) (sp:Nat->Bool) (hd:Bool),DataW.TrodAll enc P W' b sp hd f.resultTypes.toList (v.resultList f.resultTypes.size) (s.fn H (ds++gs)).results [])
  (hargs:∀sp:Nat->Bool,(∀p∈before,sp p.block=T')->DataW.TrodAll enc P W' 0 sp T' f.params.toList args.toList (s.fn H (ds++gs)).args pa)
  (hvars:∀sp:Nat->Bool,(∀p∈before,sp p.block=T')->DataW.TrodVars enc P W' sp s.vars (s.fn H (ds++gs)).vars pv)
  (hps:before=pa++pv) (hb:Below W.heap.size W W')
  (hok:∀(j:Nat) (t:TypeId) (r:Value),f.resultTypes[j]?=S' t->(v.resultList f.resultTypes.size)[j]?=S' r->Value.okWide P W' .any 0 t r):
  s.post enc P f apart fresh handsOn again W args v W':=by
 have hlt:∀p∈before,p.block<W.heap.size:=λp hp=>hW.lt p hp;have hold:∀p∈before,(λb=>D' (b<W.heap.size)) p.block=true:=λp hp=>by simpa using hlt p hp
 refine⟨ds,gs,before,[],pa,pv,hW,hres _ _ _,hargs _ hold,hvars _ hold,World.keptBut_mono (λp hp=>⟨hp,?_⟩) (hb.frame (·∈before)),λ_=>?_⟩
 ·grind
 ·obtain⟨_,_,_,_,_,hz,hn⟩:=hW;refine⟨hok,_,_,([]++pa)++pv,⟨[]++pa,pv,trodAll_append (hargs _ (λ_ _=>rfl)) (hres _ _ _),hvars _ (λ_ _=>rfl),rfl,?_,?_⟩,?_⟩
  ·intro b off hp;have hin:MemPlace.cell b off∈before:=by rw[hps];simpa using hp
   rw[hb.frozen (hlt _ hin)];exact hz b off hin
  ·grind
  grind
end
theorem RP:laidOutB Tryz.prog=true:=by kernel_rfl
theorem qP{H:Type}{enc:TypeId×Value->H}{P:Program}(hl:laidOutB P=T'){W W':World}{sp:Nat->Bool}:∀(ts:List TypeId) (vs:List Value) (ds:List (DataW H)) (ps:List MemPlace),
  (ts.all λt=>P.readableRec t&&Nat.ble (t+1) P.types.size)=T'->DataW.TrodAll enc P W 0 (λ_=>T') T' ts vs ds ps->(∀p∈ps,W.sameAt W' p)->(∀p∈ps,sp p.block=T')->DataW.TrodAll enc P W' 0 sp T' ts vs ds ps
 |[],vs,ds,ps,_,h,_,_=>by obtain⟨rfl,rfl,rfl⟩:=trodAll_nil h;exact trodAll_mk0
 |t::ts,vs,ds,ps,ht,h,hs,hp=>by
  obtain⟨v,vs',d,ds',p,q,rfl,rfl,rfl,h0,h1⟩:=trodAll_cons h;simp only[aqR,aoT]at ht
  exact trodAll_cons_mk (Trod_stays hl ht.1.1 (aoV ht.1.2) h0 (λx hx=>hs x (aqv _ hx)) (λx hx=>hp x (aqv _ hx)))
   (qP hl ts vs' ds' q ht.2 h1 (λx hx=>hs x (aqE _ hx)) (λx hx=>hp x (aqE _ hx)))
set_option maxRecDepth 100000 in
theorem UO{H:Type}{enc:TypeId×Value->H}{f:Func}{s:ChangeSpec}{apart fresh handsOn again:Bool}{W W':World}{args:Array Value}{ds:List (DataW H)}{before:List MemPlace}
  (hW:DataW.Whole enc Tryz.prog f.params.toList s.vars apart W args.toList ds [] before) (hv:s.vars=[]) (hr:f.resultTypes= #[4]) (hfn:(s.fn H (ds++[])).results=[.lit (.bool T')]/\(s.fn H (ds++[])).args=ds/\(s.fn H (ds++[])).vars=[])
  (hp:(f.params.toList.all λt=>Tryz.prog.readableRec t&&Nat.ble (t+1) Tryz.prog.types.size)=T') (hb:Below W.heap.size W W'):s.post enc Tryz.prog f apart fresh handsOn again W args (.bool T') W':=by
 have hW':=hW;obtain⟨p,q,hA,hV,rfl,hfz,hnd⟩:=hW
 have hq:q=[]:=by
  rw[hv]at hV;exact(trodVars_none hV).2
 subst hq;have hlt:∀x∈p,x.block<W.heap.size:=λx hx=>hW'.lt x (by simpa using hx);refine Ag (pa:=p) (pv:=[]) hW' ?_ ?_ ?_ rfl hb ?_
 ·intro b sp hd;rw[hr,hfn.1];exact trodAll_mk1 (shut_bool Tryz.underlying4 _)
 ·intro sp hsp;rw[hfn.2.1];exact qP RP _ _ _ _ hp hA (λx hx=>hb.same (hlt x hx)) (λx hx=>hsp x (by simpa using hx))
 ·intro sp _;rw[hv,hfn.2.2];rfl
 ·exact ok_one hr rfl (okWide_bool_mk (P:=Tryz.prog) Tryz.underlying4 T')
theorem Ii{P:Program}{w:World}{r:Reach}{base:Nat}{t e:TypeId}{n:Nat}{v:Value}(ht:P.underlying t=S' (.array n e))(h:Value.okWide P w r base t v):∃cs,v=.agg cs/\cs.size=P.cellsOf t:=by
 simp only[Value.okWide,ht]at h;obtain⟨cs,h1,h2,_⟩:=h;exact⟨cs,h1,h2⟩
theorem Jb{P:Program}{w:World}{r:Reach}{base:Nat}{t:TypeId}{v:Value}(ht:P.underlying t=S' .string)(h:Value.okWide P w r base t v):∃s,v=.string s:=by
 simp only[Value.okWide,ht,Cell.okWide]at h;cases v<;>simp_all [Cell.ok]
theorem zg{H:Type}{enc:TypeId×Value->H}{P:Program}{w:World}{r:Reach}{b0 base:Nat}{spare:Nat->Bool}{held:Bool}{v:Value}{d:DataW H}{p:List MemPlace}{t:TypeId}(n:Nat)(ty:Ty)(hrep:rep P n t ty=T')(hv:Value.okWide P w r b0 t v)(h:DataW.Trod enc P w base spare held t v d p):
  ∃y:ty.D,Rel1 [] (λ_=>True) w (.d ty y) v/\ty.ok y:=by
 obtain⟨fuel,hf⟩:=h
 have fin:v.cells.toList.length=ty.n->v=mkV ty v.cells.toList->∃y:ty.D,Rel1 [] (λ_=>True) w (.d ty y) v/\ty.ok y:=λhl hm=>by
  obtain⟨y,h1,h2⟩:=(VU ty).1 n t hrep fuel _ _ hl hf;exact⟨y,⟨_,h1,hm⟩,h2⟩
 cases n with
 |zero=>simp[rep]at hrep
 |succ n=>
  have hrep':=hrep;unfold rep at hrep';split at hrep'<;>try (cases hrep';done)
  ·rename_i hu;obtain⟨m,rfl⟩:=okWide_int hu hv;exact fin rfl rfl
  ·rename_i hu;obtain⟨m,rfl⟩:=okWide_bool hu hv;exact fin rfl rfl
  ·rename_i hu;obtain⟨m,rfl⟩:=Jb hu hv;exact fin rfl rfl
  ·rename_i hu;obtain⟨q,m,c,rfl⟩:=okWide_slice hu hv;exact fin rfl rfl
  ·rename_i hu;obtain⟨cs,rfl,hsz⟩:=okWide_struct hu hv;simp only[aoT]at hrep';exact fin (by simp only[Value.cells,Array.length_toList,hsz];exact aoS hrep'.2) (by simp[mkV,Ty.isSt,Value.cells])
  ·rename_i hu;obtain⟨cs,rfl,hsz⟩:=Ii hu hv;simp only[aoT]at hrep';exact fin (by simp only[Value.cells,Array.length_toList,hsz];exact aoS hrep'.2) (by simp[mkV,Ty.isSt,Value.cells])
end
end Go.Proofs.YtoimchcjhdcdmaaGreat
end
namespace Go.Proofs.YtoimchcjhdcdmaaGreat.lawRegionTranslate
open Bool renaming true->T',false->F'
open Option renaming some->S'
open Decidable renaming decide->D'
open Go.ChangeShapes Go.WideShapes Go.ChangeAt Go.RowKit
set_option maxRecDepth 100000 in
theorem contract(H:Type)(enc:TypeId×Value->H)(W:World)(base:Nat)(args:Array Value)(ds gs:List (DataW H))(before:List MemPlace)
  (hval:∀(j:Nat) t v,Tryz.f5.params[j]?=S' t->args[j]?=S' v->Value.okWide Tryz.prog W .any base t v)
  (hW:DataW.Whole enc Tryz.prog Tryz.f5.params.toList Rows.regionTranslateSpec.vars F' W args.toList ds gs before):
  Calls Tryz.prog 5 args W λe W'=>∃v,e=.returned v/\Rows.regionTranslateSpec.post enc Tryz.prog Tryz.f5 F' T' F' F' W args v W':=by
 have hW':=hW;obtain⟨p,q,hA0,hV,rfl,hfz,hnd⟩:=hW;have hA:DataW.TrodAll enc Tryz.prog W 0 (λ_=>T') T' Tryz.f5.params.toList args.toList ds p:=hA0;rw[Tryz.params5]at hA hval;obtain⟨v0,vs0,d0,ds0,p0,q0,e0,rfl,rfl,h0,r0⟩:=trodAll_cons hA;obtain⟨v1,vs1,d1,ds1,p1,q1,e1,rfl,rfl,h1,r1⟩:=trodAll_cons r0;obtain⟨v2,vs2,d2,ds2,p2,q2,e2,rfl,rfl,h2,r2⟩:=trodAll_cons r1;obtain⟨en,rfl,rfl⟩:=trodAll_nil r2;obtain rfl:args= #[v0,v1,v2]:=by cases args;simp_all
 obtain⟨rfl,rfl⟩:=trodVars_none hV;obtain⟨y0,s0,k0⟩:=zg 12 (.sl (((.st (.pair (.int .u8) (.pair (.int .u8) (.pair (.int .i8) (.pair (.int .i8) (.pair (.int .i8) (.pair (.int .i8) (.sl (.st (.pair (.int .i8) (.int .i8)))))))))))))) (by kernel_rfl) (hval 0 23 v0 rfl rfl) h0;obtain⟨y1,s1,k1⟩:=zg 12 (.st (.pair (.int .i16) (.pair (.int .i16) (.int .u8)))) (by kernel_rfl) (hval 1 52 v1 rfl rfl) h1;obtain⟨y2,s2,k2⟩:=zg 12 (M2) (by kernel_rfl) (hval 2 27 v2 rfl rfl) h2;clear hA0;refine(Vv y0 y1 y2 k0 k1 k2 (λ_=>True) W [v0,v1,v2] T9 ⟨s0,s1,s2,trivial⟩).mono ?_;rintro e W' ⟨v,rfl,hb,hres⟩
 have hv:v=.bool true:=sR (G:=[]) (dN hres);subst hv;exact⟨_,rfl,UO hW' rfl (by kernel_rfl) ⟨rfl,rfl,rfl⟩ (by kernel_rfl) hb⟩
set_option maxRecDepth 100000 in
theorem lifted(os:Os)(started:os.Started)(H:Type)(enc:TypeId×Value->H):
  ReturnsInHanded {} Tryz.checked os 5 .any (Rows.regionTranslateSpec.pre6 enc Tryz.prog Tryz.f5 Rows.regionTranslateRow.domain F') (Rows.regionTranslateSpec.post enc Tryz.prog Tryz.f5 F' T' F' F'):=by
 refine returnsInHanded_of_change (C:=Tryz.checked) Ou started (by kernel_rfl) Tryz.func5
  (ChangeSpec.witness6 (enc:=enc) (C:=Tryz.checked) F' ⟨#[],#[.slice none 0 0,.agg #[.int .i16 0,.int .i16 0,.int .u8 0],.agg #[.int .i16 0,.int .i16 0,.int .i16 0,.int .i16 0,.int .u16 0,.int .u8 0]],[]⟩ 8 (by kernel_rfl) (by kernel_rfl) (by kernel_rfl) (by kernel_rfl)) ?_
 intro W base args ds gs before hval hW _ _;exact contract H enc W base args ds gs before hval hW
end Go.Proofs.YtoimchcjhdcdmaaGreat.lawRegionTranslate
namespace Go.Proofs.YtoimchcjhdcdmaaGreat.lawRegionTranslate
open Bool renaming true->T',false->F'
open Go.ChangeShapes Go.WideShapes Go.ChangeAt Go.RowKit
set_option maxRecDepth 100000 in
theorem aon:(Rows.regionTranslateRow.inPlace==Tryz.prog.inPlace 5)=true:=by kernel_rfl
set_option maxRecDepth 100000 in
theorem aoa:(Rows.regionTranslateRow.unfollowed==Tryz.prog.unfollowed 5)=true:=by kernel_rfl
set_option maxRecDepth 100000 in
theorem an5:(Rows.regionTranslateRow.recurses==Tryz.prog.recurses 5)=true:=by kernel_rfl
set_option maxRecDepth 100000 in
theorem an4:(Rows.regionTranslateRow.named==Tryz.prog.varsNamed 5)=true:=by kernel_rfl
set_option maxRecDepth 100000 in
theorem kf2:(laidOutB Tryz.prog)=true:=by kernel_rfl
set_option maxRecDepth 100000 in
theorem anQ:(Tryz.prog.mayEnter)=true:=by kernel_rfl
theorem gk{a b:Bool}(h:a=T')(h':b=T'):(a&&b)=true:=by rw[h,h'];rfl
set_option maxRecDepth 100000 in
theorem adQ:joinedFacts Tryz.prog 5 Tryz.f5 Rows.regionTranslateSpec Rows.regionTranslateRow=true:=by
 unfold joinedFacts;exact(gk (gk (gk (gk (gk (gk (gk (gk (gk (gk (gk (gk (gk (gk (gk (gk (gk (gk (gk (gk (gk (gk (gk (gk (gk (gk (gk (gk (gk (gk (gk (by kernel_rfl) kf2) (by kernel_rfl)) (by kernel_rfl)) (by kernel_rfl)) (by kernel_rfl)) (by kernel_rfl)) (by kernel_rfl)) (by kernel_rfl)) aon) aoa) an5) an4) (by kernel_rfl)) (by kernel_rfl)) (by kernel_rfl)) (by kernel_rfl)) (by kernel_rfl)) (by kernel_rfl)) (by kernel_rfl)) (by kernel_rfl)) (by kernel_rfl)) (by kernel_rfl)) (by kernel_rfl)) (by kernel_rfl)) anQ) (by kernel_rfl)) (by kernel_rfl)) (by kernel_rfl)) (by kernel_rfl)) (by kernel_rfl)) (by kernel_rfl))
theorem proved:Rows.RegionTranslateSaid:=
 OpenClaim.holds_of_wide 5 Tryz.f5 rfl rfl rfl rfl rfl rfl rfl ⟨rfl,rfl,rfl,rfl,rfl⟩ rfl rfl rfl rfl rfl (by kernel_rfl) Tryz.func5 adQ
  (of_decide_eq_true (by kernel_rfl)) (by unfold Func.isWrapper;first|(rw[if_pos (by decide+kernel)];kernel_rfl)|(rw[if_neg (by decide+kernel)];exact⟨rfl,rfl⟩))
  (λos started H enc _=>lifted os started H enc)
end Go.Proofs.YtoimchcjhdcdmaaGreat.lawRegionTranslate
