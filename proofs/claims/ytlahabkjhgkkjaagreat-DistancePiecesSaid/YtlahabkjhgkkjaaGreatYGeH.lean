/- A curve and its reverse; distance 0. -/
import Derived.Test.YtlahabkjhgkkjaaGreatYGeG
noncomputable section
namespace Go.Proofs.YtlahabkjhgkkjaaGreat
open Go.RowKit Go.IntKind
theorem L5{c:BCU}(h:gdN c):gdN (iK c):=by
 refine⟨⟨XH 500 h.1.1,h.1.2⟩,h.2.2.1,h.2.1,fun e=>h.2.2.2 ?_⟩
 have r1:Rpd (frC (dC c)):=f0 h.1.1.2.2.1
 have r2:Rpd (toC (dC c)):=f0 h.1.1.2.2.2
 have e:b9 (toC (dC c)) (frC (dC c))=0:=e
 exact RE.cmpP_0.2 (RE.cmpP_0.1 e).symm
namespace RE
theorem Gl{a b x:RE}:btE a b x↔btE b a x:=Or.comm
theorem adl(c:BCU):onE (dC (iK c))=onE (dC c):=by
 funext p
 obtain⟨ar,li,ci,cw,fr,to⟩:=c
 cases ar
 ·show jl (dec li) (pR (dec to)) (pR (dec fr)) p=jl (dec li) (pR (dec fr)) (pR (dec to)) p
  exact propext ⟨fun g=>⟨g.1,Gl.1 g.2⟩,fun g=>⟨g.1,Gl.1 g.2⟩⟩
 ·cases cw<;>rfl
theorem dis_rev{c:BCU}(h:gdN c)(v:Rat×Rat):vR (cd (dC (iK c)) v)=vR (cd (dC c) v):=by
 have h1:=Do (L5 h).e v
 rw[adl]at h1
 exact h1.uni (Do h.e v)
theorem Mn.zero{S:PE→Prop}{v:PE}{m:RE}(h:Mn S v m):m=0↔S v:=by
 obtain⟨⟨p,hp,e⟩,hl⟩:=h
 constructor
 ·intro h0
  rw[h0]at e
  obtain⟨a,b⟩:=Ci e
  have:p=v:=axe (kN _ _ a) (kN _ _ b)
  rw[←this];exact hp
 ·intro hv
  have h1:=hl v hv
  have h2:dsE v v=0:=by
   unfold dsE
   rw[sub_self,sub_self,mul_zero,add_zero]
  rw[h2]at h1
  refine le_antisymm h1 ?_
  rw[←e]
  exact IL _ _ (gY _) (gY _)
theorem dis_zero{c:BCU}(h:gdN c){v:Rat×Rat}[Bd v 200]:(sgR (cd (dC c) v)==0)=onR (dC c) (atP v):=by
 obtain⟨_,hr⟩:=dO h.1.1 (v:=v)
 have hp:Rpd (atP v):=inferInstance
 rw[G4 hr.nn,yO h.gd hp]
 have h1:=(Do h.e v).zero
 rw[show vE v=pR (atP v) from(uo v).symm,←uZ h.e]at h1
 cases e:onP (dC c) (atP v)
 ·refine axg.2 fun g=>?_
  rw[h1.1 (l4.1 g)]at e
  cases e
 ·exact awf.2 (l4.2 (h1.2 e))
theorem cmpT_same{x y:Rt}(hx:Rdd x)(hy:Rdd y)(h:vR x=vR y):(bI x y==0)=true:=by
 rw[cmpT_re hx.nn hy.nn,h,sub_self,dE]
 rfl
end RE
end Go.Proofs.YtlahabkjhgkkjaaGreat
end
