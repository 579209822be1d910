/- Curves: plain. -/
import Derived.Test.YtlahabkjhgkkjaaGreatZ15
namespace Go.Proofs.YtlahabkjhgkkjaaGreat
open Go.RowKit
abbrev tCU:Ty:=.st (.pair .bool (.pair tO (.pair tO (.pair .bool (.pair tP tP)))))
abbrev BCU:=Bool×BO3×BO3×Bool×BP×BP
abbrev Cv:=Bool×Ln×Ln×Bool×Pt×Pt
def dC(c:BCU):Cv:=(c.1,dec c.2.1,dec c.2.2.1,c.2.2.2.1,dec c.2.2.2.2.1,dec c.2.2.2.2.2)
def FU(x:BO3):Prop:=ok Ln 300 x∧(0:Rat)<(dec x:Ln).2.2
instance (x:BO3):Decidable (FU x):=by unfold FU;infer_instance
def aas(x:BO3):Prop:=ok Ln 300 x∧((dec x:Ln).1≠0∨(dec x:Ln).2.1≠0)
instance (x:BO3):Decidable (aas x):=by unfold aas;infer_instance
def okC(k:Nat)(c:BCU):Prop:=(c.1=true→FU c.2.2.1)∧(c.1=false→aas c.2.1)∧okP k c.2.2.2.2.1∧okP k c.2.2.2.2.2
instance (k:Nat) (c:BCU):Decidable (okC k c):=by unfold okC;infer_instance
def frC(c:Cv):Pt:=c.2.2.2.2.1
def toC(c:Cv):Pt:=c.2.2.2.2.2
def lnC(c:Cv):Ln:=c.2.1
def ciC(c:Cv):Ln:=c.2.2.1
def cwC(c:Cv):Bool:=c.2.2.2.1
def uF(c:Cv)(p:Pt):Bool:=bif c.1 then nR (ciC c) p==0 else qJ (lnC c) p==0
def upR(c:Ln)(p:Pt):Bool:=decide (d9 (yP p) c.2.1>0)||(d9 (yP p) c.2.1==0&&decide (d9 (xP p) c.1>0))
def ptd(c:Ln)(p:Pt):Bool×Rt:=(upR c p,xP p)
def yi(c:Ln)(p:Pt):Int:=bif upR c p then 0 else 1
def ccF(c:Cv):Pt:=bif cwC c then toC c else frC c
def ccT(c:Cv):Pt:=bif cwC c then frC c else toC c
def Q6(c:Cv)(p:Pt):Bool:=bif c.1 then decide (OG bK (ptd (ciC c) (ccF c)) (ptd (ciC c) p) (ptd (ciC c) (ccT c))≤0)else aaj (dS (frC c) p) (dS p (toC c))
def onP(c:Cv)(p:Pt):Bool:=uF c p&&Q6 c p
def LP(c:BCU):BCU:=(c.1,c.2.1,c.2.2.1,c.1&&!c.2.2.2.1,c.2.2.2.2.2,c.2.2.2.2.1)
def lO(c:BCU):BCU:=bif c.2.2.2.1 then LP c else c
def flP(p:Pt):Pt:=(-p.1,-p.2.1,p.2.2.1,p.2.2.2.1,p.2.2.2.2)
def flC(c:Ln):Ln:=(-c.1,c.2.1,c.2.2)
def kZ(c:Cv)(p q:Pt):Int:=bif c.1 then(bif cwC c then Er bK (ptd (flC (ciC c)) (flP (frC c))) (ptd (flC (ciC c)) (flP p)) (ptd (flC (ciC c)) (flP q))else Er bK (ptd (ciC c) (frC c)) (ptd (ciC c) p) (ptd (ciC c) q))
 else(bif decide (dS (frC c) (toC c)>0)then-dS p q else dS p q)
def onR(c:Cv)(p:Pt):Bool:=uF c p&&(decide (kZ c (frC c) p≤0)&&decide (kZ c p (toC c)≤0))
theorem Ya(p q:Pt): -1≤dS p q∧dS p q≤1:=by
 unfold dS
 cases bK (xP p) (xP q)==0
 ·exact qZ _ _
 ·exact qZ _ _
theorem KF{p q:Bool×Rt}:0≤mX bK p q∧mX bK p q≤2:=by
 unfold mX
 cases pE bK q p==0<;>cases decide (pE bK q p>0)<;>simp only[cond_true,cond_false]<;>omega
end Go.Proofs.YtlahabkjhgkkjaaGreat
namespace Go.Proofs.YtlahabkjhgkkjaaGreat
open Go.RowKit
noncomputable def qI(c:BCU):BCU:=(c.1,c.2.1,(ae (-aa c.2.2.1.1),c.2.2.1.2),!c.2.2.2.1,enc (flP (dec c.2.2.2.2.1)),enc (flP (dec c.2.2.2.2.2)))
instance afY {p:Pt} [h:Rpd p]:Rpd (flP p):=by
 refine⟨?_⟩
 have:=h.rd
 unfold HP flP at*
 simp only
 have e:(-p.2.1=0)↔p.2.1=0:=by constructor<;>intro h<;>grind
 rw[e]
 exact this
instance afT {p:Pt} {j:Nat} [h:Bd p j]:Bd (flP p) j:=by
 have i1:Bd ((-p.1,-p.2.1,p.2.2.1,p.2.2.2.1,p.2.2.2.2):Pt) _:=inferInstance
 exact i1.mono (fp (by omega) (fp (by omega) (fp (by omega) (fp (by omega) (by omega)))))
theorem mV{j k:Nat}{x:BP}(h:okP j x)(hj:j≤k)(hk:k≤480000):okP k x:=by
 obtain⟨p,rfl,bp,rp⟩:=cC h
 exact of_decide_eq_true (bP hj hk)
theorem NC{j k:Nat}{c:BCU}(h:okC j c)(hj:j≤k)(hk:k≤480000):okC k c:=⟨h.1,h.2.1,mV h.2.2.1 hj hk,mV h.2.2.2 hj hk⟩
theorem Hx{x:BP}(h:okP 4000 x):okP 4000 (enc (flP (dec x))):=by
 obtain⟨p,rfl,bp,rp⟩:=cC h
 rw[ak]
 exact of_decide_eq_true (bP (x:=flP p) (by decide) (by decide))
theorem ZS{x:BO3}(h:ok Ln 300 x):ok Ln 300 ((ae (-aa x.1),x.2):BO3)∧(dec ((ae (-aa x.1),x.2):BO3):Ln)=flC (dec x):=by
 obtain⟨l,rfl,bl⟩:=aS h
 have e:((ae (-aa (enc l:BO3).1),(enc l:BO3).2):BO3)=enc (flC l):=by
  rw[aF,aD,aw]
  rfl
 rw[e,ak,ak]
 refine⟨?_,rfl⟩
 have i1:Bd (flC l) 300:=(inferInstance:Bd ((-l.1,l.2.1,l.2.2):Ln) _).mono (by decide)
 exact of_decide_eq_true (okd (x:=flC l) (Nat.le_refl _) (by decide))
noncomputable def m7:Env:=[(124,mb),(119,nT),(85,rn),(138,AL),(139,Aj),(96,oo),(164,zM),(163,xA)]
theorem lJ:EnvAll Tryz.prog m7:=⟨mJ,ph,vk,Cs,Cw,qk,M1,Md,trivial⟩
noncomputable def Sn:Ctx:=⟨Tryz.prog,ft,tys,m7,[]⟩
noncomputable def JG(_k:KT)(c:BCU)(p:BP):Option (List RV):=match c.1 with|true=>(match decide (ok Ln 300 c.2.2.1∧okP 3500 p)with|true=>some [RV.d .bool ((nR (dec c.2.2.1) (dec p))==0)]|false=>none)|false=>(match decide (ok Ln 300 c.2.1∧okP 4000 p)with|true=>some [RV.d .bool ((qJ (dec c.2.1) (dec p))==0)]|false=>none)
theorem acv(c:BCU)(p:BP){rX:List RV}(hX:∃nX,JG (Sn.k nX) c p=some rX):Sn.Res 80 [.d tCU c,.d tP p] rX:=aO (t:=fun k=>JG k c p) (fun k=>show go2 Tryz.prog ft tys m7 [] k 4000 (az 80 [.d tCU c,.d tP p]) (.node 0)=JG k c p by kernel_rfl) hX
theorem Wh(c:BCU)(p:BP)(h:okC 3500 c∧okP 3500 p):Con Tryz.prog 80 [.d tCU c,.d tP p] [.d .bool (uF (dC c) (dec p))]:=by
 refine Ctx.Res.con (C:=Sn) (au lJ) (acv _ _ ⟨0,?_⟩) (fn:=Tryz.f80) (by kernel_rfl) (by kernel_rfl)
 obtain⟨hc,hp⟩:=h
 have op:decide (okP 3500 p)=true:=decide_eq_true hp
 have op4:decide (okP 4000 p)=true:=decide_eq_true (mV hp (by decide) (by decide))
 obtain⟨ar,li,ci,cw,fr,to⟩:=c
 obtain⟨c1,c2,_⟩:=hc
 unfold JG
 cases ar
 ·have e:=(c2 rfl).1
  simp only[Bool.decide_and,dT e,op4,Bool.and_self]
  rfl
 ·have e:=(c1 rfl).1
  simp only[Bool.decide_and,dT e,op,Bool.and_self]
  rfl
noncomputable def OC:Ctx:=⟨Tryz.prog,ft,tys,m7,[]⟩
noncomputable def KE(_k:KT)(c:BO3)(p:BP):Option (List RV):=match decide (okP 4000 p)with|true=>(match decide (okT 15000 (hid (enc (yP (dec p))))∧ok Rat 15000 c.2.1)with|true=>(match decide ((d9 (dec (hid (enc (yP (dec p))))) (aa c.2.1))>0)with|true=>some [RV.d .bool true]|false=>(match(d9 (dec (hid (enc (yP (dec p))))) (aa c.2.1))==0 with|true=>(match decide (okP 4000 p)with|true=>(match decide (okT 15000 (hid (enc (xP (dec p))))∧ok Rat 15000 c.1)with|true=>some [RV.d .bool (decide ((d9 (dec (hid (enc (xP (dec p))))) (aa c.1))>0))]|false=>none)|false=>none)|false=>some [RV.d .bool false]))|false=>none)|false=>none
theorem aeF(c:BO3)(p:BP){rX:List RV}(hX:∃nX,KE (OC.k nX) c p=some rX):OC.Res 267 [.d tO c,.d tP p] rX:=aO (t:=fun k=>KE k c p) (fun k=>show go2 Tryz.prog ft tys m7 [] k 4000 (az 267 [.d tO c,.d tP p]) (.node 0)=KE k c p by kernel_rfl) hX
theorem W1(c:BO3)(p:BP)(h:ok Ln 300 c∧okP 4000 p):Con Tryz.prog 267 [.d tO c,.d tP p] [.d .bool (upR (dec c) (dec p))]:=by
 refine Ctx.Res.con (C:=OC) (au lJ) (aeF _ _ ⟨0,?_⟩) (fn:=Tryz.f267) (by kernel_rfl) (by kernel_rfl)
 obtain⟨hc,hp⟩:=h
 obtain⟨c,rfl,bc⟩:=aS hc
 obtain⟨p,rfl,bp,rp⟩:=cC hp
 unfold KE upR
 simp only[aj,ak,aF,aG,aD,aw,aC,Bool.decide_and,Bool.and_self,mx,Nat.reduceLeDiff,decide_true,cond_true,bH,bP]
 cases decide (d9 (yP p) c.2.1>0)<;>cases d9 (yP p) c.2.1==0<;>rfl
noncomputable def QA:Ctx:=⟨Tryz.prog,ft,tys,m7,[]⟩
noncomputable def Ip(_k:KT)(p:BP):Option (List RV):=match decide (okR p.1)with|true=>(match decide (okR p.2.1)with|true=>some [RV.d tP (hid (ae (-aa p.1)),(hid (ae (-aa p.2.1)),p.2.2))]|false=>none)|false=>none
theorem aeB(p:BP){rX:List RV}(hX:∃nX,Ip (QA.k nX) p=some rX):QA.Res 167 [.d tP p] rX:=aO (t:=fun k=>Ip k p) (fun k=>show go2 Tryz.prog ft tys m7 [] k 4000 (az 167 [.d tP p]) (.node 0)=Ip k p by kernel_rfl) hX
theorem WF(p:BP)(h:okP 4000 p):Con Tryz.prog 167 [.d tP p] [.d tP (enc (flP (dec p)))]:=by
 refine Ctx.Res.con (C:=QA) (au lJ) (aeB _ ⟨0,?_⟩) (fn:=Tryz.f167) (by kernel_rfl) (by kernel_rfl)
 have hp:=h
 obtain⟨p,rfl,bp,rp⟩:=cC hp
 unfold Ip
 simp only[aj,ak,aF,aG,aD,aw,aX,Nat.reduceLeDiff]
 rfl
noncomputable def Oh:Ctx:=⟨Tryz.prog,ft,tys,m7,[]⟩
noncomputable def N9(_k:KT)(c:BCU):Option (List RV):=match c.1 with|true=>some [RV.d tCU (c.1,(c.2.1,(c.2.2.1,(!c.2.2.2.1,(c.2.2.2.2.2,c.2.2.2.2.1)))))]|false=>some [RV.d tCU (c.1,(c.2.1,(c.2.2.1,(false,(c.2.2.2.2.2,c.2.2.2.2.1)))))]
theorem adA(c:BCU){rX:List RV}(hX:∃nX,N9 (Oh.k nX) c=some rX):Oh.Res 17 [.d tCU c] rX:=aO (t:=fun k=>N9 k c) (fun k=>show go2 Tryz.prog ft tys m7 [] k 4000 (az 17 [.d tCU c]) (.node 0)=N9 k c by kernel_rfl) hX
theorem Yl(c:BCU):Con Tryz.prog 17 [.d tCU c] [.d tCU (LP c)]:=by
 refine Ctx.Res.con (C:=Oh) (au lJ) (adA _ ⟨0,?_⟩) (fn:=Tryz.f17) (by kernel_rfl) (by kernel_rfl)
 obtain⟨ar,li,ci,cw,fr,to⟩:=c
 cases ar<;>rfl
def FL:aL:=spN true true [tCU,tP] (fun x=>decide (okC 3500 x.1∧okP 3500 x.2.1)) (fun x=>[RV.d .bool (uF (dC x.1) (dec x.2.1))])
theorem Uu:af Tryz.prog 80=true∧ao Tryz.prog 80 FL∧∀g,FL.mut_=some g→aK Tryz.prog 80 g:=aq (by kernel_rfl) fun x h=>Wh x.1 x.2.1 (of_decide_eq_true h)
def Fw:aL:=spN true true [tO,tP] (fun x=>decide (ok Ln 300 x.1∧okP 4000 x.2.1)) (fun x=>[RV.d .bool (upR (dec x.1) (dec x.2.1))])
theorem Si:af Tryz.prog 267=true∧ao Tryz.prog 267 Fw∧∀g,Fw.mut_=some g→aK Tryz.prog 267 g:=aq (by kernel_rfl) fun x h=>W1 x.1 x.2.1 (of_decide_eq_true h)
noncomputable def E1:aL:=spN false true [tP] (fun x=>decide (okP 4000 x.1)) (fun x=>[RV.d tP (hid (enc (flP (dec x.1))))])
theorem Qf:af Tryz.prog 167=true∧ao Tryz.prog 167 E1∧∀g,E1.mut_=some g→aK Tryz.prog 167 g:=aq (by kernel_rfl) fun x h=>by simp only[aj];exact WF x.1 (of_decide_eq_true h)
noncomputable def yT:aL:=spN false true [tCU] (fun _=>true) (fun x=>[RV.d tCU (hid (LP x.1))])
theorem C8:af Tryz.prog 17=true∧ao Tryz.prog 17 yT∧∀g,yT.mut_=some g→aK Tryz.prog 17 g:=aq (by kernel_rfl) fun x _=>by simp only[aj];exact Yl x.1
noncomputable def vE:Env:=(80,FL)::(267,Fw)::(167,E1)::(17,yT)::m7
theorem sZ:EnvAll Tryz.prog vE:=⟨Uu,Si,Qf,C8,lJ⟩
noncomputable def TV:Ctx:=⟨Tryz.prog,ft,tys,vE,[]⟩
noncomputable def KS(_k:KT)(c:BO3)(p:BP)(q:BP):Option (List RV):=match decide (ok Ln 300 c∧okP 4000 p)with|true=>(match decide (ok Ln 300 c∧okP 4000 q)with|true=>(match !((upR (dec c) (dec p))==(upR (dec c) (dec q)))with|true=>(match upR (dec c) (dec q)with|true=>some [RV.d (.int .i64) (-1)]|false=>some [RV.d (.int .i64) 1])|false=>(match decide (okP 4000 p)with|true=>(match decide (okP 4000 q)with|true=>(match decide (okT 15000 (hid (enc (xP (dec p))))∧okT 15000 (hid (enc (xP (dec q)))))with|true=>(match upR (dec c) (dec p)with|true=>some [RV.d (.int .i64) (IntKind.i64.wrap (0-(bK (dec (hid (enc (xP (dec p))))) (dec (hid (enc (xP (dec q))))))))]|false=>some [RV.d (.int .i64) (bK (dec (hid (enc (xP (dec p))))) (dec (hid (enc (xP (dec q))))))])|false=>none)|false=>none)|false=>none))|false=>none)|false=>none
theorem ael(c:BO3)(p:BP)(q:BP){rX:List RV}(hX:∃nX,KS (TV.k nX) c p q=some rX):TV.Res 229 [.d tO c,.d tP p,.d tP q] rX:=aO (t:=fun k=>KS k c p q) (fun k=>show go2 Tryz.prog ft tys vE [] k 4000 (az 229 [.d tO c,.d tP p,.d tP q]) (.node 0)=KS k c p q by kernel_rfl) hX
theorem XL(c:BO3)(p:BP)(q:BP)(h:ok Ln 300 c∧okP 4000 p∧okP 4000 q):Con Tryz.prog 229 [.d tO c,.d tP p,.d tP q] [.d (.int .i64) (pH bK (ptd (dec c) (dec p)) (ptd (dec c) (dec q)))]:=by
 refine Ctx.Res.con (C:=TV) (au sZ) (ael _ _ _ ⟨0,?_⟩) (fn:=Tryz.f229) (by kernel_rfl) (by kernel_rfl)
 obtain⟨hc,hp,hq⟩:=h
 obtain⟨c,rfl,bc⟩:=aS hc
 obtain⟨p,rfl,bp,rp⟩:=cC hp
 obtain⟨q,rfl,bq,rq⟩:=cC hq
 have xb:=qZ (xP p) (xP q)
 unfold KS
 simp only[aj,ak,okd,Bool.decide_and,Bool.and_self,mx,Nat.reduceLeDiff,decide_true,cond_true,bH,bP,bk (x:= -bK (xP p) (xP q)) (by omega) (by omega),Int.zero_sub]
 unfold pH ptd
 cases upR c p<;>cases upR c q<;>rfl
noncomputable def Rh:Ctx:=⟨Tryz.prog,ft,tys,vE,[]⟩
noncomputable def Jo(_k:KT)(c:BCU):Option (List RV):=match decide (okR c.2.2.1.1)with|true=>(match decide (okP 4000 c.2.2.2.2.1)with|true=>(match decide (okP 4000 c.2.2.2.2.2)with|true=>some [RV.d tCU (c.1,(c.2.1,((hid (ae (-aa c.2.2.1.1)),c.2.2.1.2),(!c.2.2.2.1,(hid (enc (flP (dec c.2.2.2.2.1))),hid (enc (flP (dec c.2.2.2.2.2))))))))]|false=>none)|false=>none)|false=>none
theorem act(c:BCU){rX:List RV}(hX:∃nX,Jo (Rh.k nX) c=some rX):Rh.Res 166 [.d tCU c] rX:=aO (t:=fun k=>Jo k c) (fun k=>show go2 Tryz.prog ft tys vE [] k 4000 (az 166 [.d tCU c]) (.node 0)=Jo k c by kernel_rfl) hX
theorem YB(c:BCU)(h:FU c.2.2.1∧okP 4000 c.2.2.2.2.1∧okP 4000 c.2.2.2.2.2):Con Tryz.prog 166 [.d tCU c] [.d tCU (qI c)]:=by
 refine Ctx.Res.con (C:=Rh) (au sZ) (act _ ⟨0,?_⟩) (fn:=Tryz.f166) (by kernel_rfl) (by kernel_rfl)
 obtain⟨hc,hf,ht⟩:=h
 have e:okR c.2.2.1.1:=by
  obtain⟨l,hl,bl⟩:=aS hc.1
  rw[hl,aF,aD]
  exact of_decide_eq_true (aX (q:=l.1) (by decide))
 unfold Jo
 rw[dT e,dT hf,dT ht]
 simp only[aj]
 rfl
def Gz:aL:=spN true true [tO,tP,tP] (fun x=>decide (ok Ln 300 x.1∧okP 4000 x.2.1∧okP 4000 x.2.2.1)) (fun x=>[RV.d (.int .i64) (pH bK (ptd (dec x.1) (dec x.2.1)) (ptd (dec x.1) (dec x.2.2.1)))])
theorem TP:af Tryz.prog 229=true∧ao Tryz.prog 229 Gz∧∀g,Gz.mut_=some g→aK Tryz.prog 229 g:=aq (by kernel_rfl) fun x h=>XL x.1 x.2.1 x.2.2.1 (of_decide_eq_true h)
noncomputable def Gt:aL:=spN false true [tCU] (fun x=>decide (FU x.1.2.2.1∧okP 4000 x.1.2.2.2.2.1∧okP 4000 x.1.2.2.2.2.2)) (fun x=>[RV.d tCU (hid (qI x.1))])
theorem Ts:af Tryz.prog 166=true∧ao Tryz.prog 166 Gt∧∀g,Gt.mut_=some g→aK Tryz.prog 166 g:=aq (by kernel_rfl) fun x h=>by simp only[aj];exact YB x.1 (of_decide_eq_true h)
noncomputable def JM:Env:=(229,Gz)::(166,Gt)::vE
theorem Dz:EnvAll Tryz.prog JM:=⟨TP,Ts,sZ⟩
noncomputable def Oj:Ctx:=⟨Tryz.prog,ft,tys,JM,[]⟩
noncomputable def JR(_k:KT)(c:BO3)(f:BP)(p:BP)(q:BP):Option (List RV):=match decide (ok Ln 300 c∧okP 4000 p∧okP 4000 f)with|true=>(match decide (ok Ln 300 c∧okP 4000 q∧okP 4000 f)with|true=>(match !((decide ((pH bK (ptd (dec c) (dec p)) (ptd (dec c) (dec f)))<0))==(decide ((pH bK (ptd (dec c) (dec q)) (ptd (dec c) (dec f)))<0)))with|true=>(match decide ((pH bK (ptd (dec c) (dec q)) (ptd (dec c) (dec f)))<0)with|true=>some [RV.d (.int .i64) (-1)]|false=>some [RV.d (.int .i64) 1])|false=>(match decide (ok Ln 300 c∧okP 4000 p∧okP 4000 q)with|true=>some [RV.d (.int .i64) (pH bK (ptd (dec c) (dec p)) (ptd (dec c) (dec q)))]|false=>none))|false=>none)|false=>none
theorem aca(c:BO3)(f:BP)(p:BP)(q:BP){rX:List RV}(hX:∃nX,JR (Oj.k nX) c f p q=some rX):Oj.Res 165 [.d tO c,.d tP f,.d tP p,.d tP q] rX:=aO (t:=fun k=>JR k c f p q) (fun k=>show go2 Tryz.prog ft tys JM [] k 4000 (az 165 [.d tO c,.d tP f,.d tP p,.d tP q]) (.node 0)=JR k c f p q by kernel_rfl) hX
theorem X1(c:BO3)(f:BP)(p:BP)(q:BP)(h:ok Ln 300 c∧okP 4000 f∧okP 4000 p∧okP 4000 q):Con Tryz.prog 165 [.d tO c,.d tP f,.d tP p,.d tP q] [.d (.int .i64) (Er bK (ptd (dec c) (dec f)) (ptd (dec c) (dec p)) (ptd (dec c) (dec q)))]:=by
 refine Ctx.Res.con (C:=Oj) (au Dz) (aca _ _ _ _ ⟨0,?_⟩) (fn:=Tryz.f165) (by kernel_rfl) (by kernel_rfl)
 obtain⟨hc,hf,hp,hq⟩:=h
 unfold JR Er
 rw[dT (show ok Ln 300 c∧okP 4000 p∧okP 4000 f from⟨hc,hp,hf⟩),dT (show ok Ln 300 c∧okP 4000 q∧okP 4000 f from⟨hc,hq,hf⟩),dT (show ok Ln 300 c∧okP 4000 p∧okP 4000 q from⟨hc,hp,hq⟩)]
 dsimp only
 cases decide (pH bK (ptd (dec c) (dec p)) (ptd (dec c) (dec f))<0)<;>cases decide (pH bK (ptd (dec c) (dec q)) (ptd (dec c) (dec f))<0)<;>rfl
def Ex:aL:=spN true true [tO,tP,tP,tP] (fun x=>decide (ok Ln 300 x.1∧okP 4000 x.2.1∧okP 4000 x.2.2.1∧okP 4000 x.2.2.2.1)) (fun x=>[RV.d (.int .i64) (Er bK (ptd (dec x.1) (dec x.2.1)) (ptd (dec x.1) (dec x.2.2.1)) (ptd (dec x.1) (dec x.2.2.2.1)))])
theorem OE:af Tryz.prog 165=true∧ao Tryz.prog 165 Ex∧∀g,Ex.mut_=some g→aK Tryz.prog 165 g:=aq (by kernel_rfl) fun x h=>X1 x.1 x.2.1 x.2.2.1 x.2.2.2.1 (of_decide_eq_true h)
noncomputable def Lx:Env:=(165,Ex)::JM
theorem CH:EnvAll Tryz.prog Lx:=⟨OE,Dz⟩
noncomputable def UH:Ctx:=⟨Tryz.prog,ft,tys,Lx,[]⟩
noncomputable def I7(_k:KT)(c:BCU)(p:BP)(q:BP):Option (List RV):=match !c.1 with|true=>(match decide (okP 4000 p∧okP 4000 q)with|true=>(match decide (okP 4000 c.2.2.2.2.1∧okP 4000 c.2.2.2.2.2)with|true=>(match decide ((dS (dec c.2.2.2.2.1) (dec c.2.2.2.2.2))>0)with|true=>some [RV.d (.int .i64) (IntKind.i64.wrap (0-(dS (dec p) (dec q))))]|false=>some [RV.d (.int .i64) (dS (dec p) (dec q))])|false=>none)|false=>none)|false=>(match !c.2.2.2.1 with|true=>(match decide (ok Ln 300 c.2.2.1∧okP 4000 c.2.2.2.2.1∧okP 4000 p∧okP 4000 q)with|true=>some [RV.d (.int .i64) (Er bK (ptd (dec c.2.2.1) (dec c.2.2.2.2.1)) (ptd (dec c.2.2.1) (dec p)) (ptd (dec c.2.2.1) (dec q)))]|false=>none)|false=>(match decide (FU c.2.2.1∧okP 4000 c.2.2.2.2.1∧okP 4000 c.2.2.2.2.2)with|true=>(match decide (okP 4000 p)with|true=>(match decide (okP 4000 q)with|true=>(match decide (ok Ln 300 ((((hid (qI c)).2).2).1)∧okP 4000 ((((((hid (qI c)).2).2).2).2).1)∧okP 4000 (hid (enc (flP (dec p))))∧okP 4000 (hid (enc (flP (dec q)))))with|true=>some [RV.d (.int .i64) (Er bK (ptd (dec ((((hid (qI c)).2).2).1)) (dec ((((((hid (qI c)).2).2).2).2).1))) (ptd (dec ((((hid (qI c)).2).2).1)) (dec (hid (enc (flP (dec p)))))) (ptd (dec ((((hid (qI c)).2).2).1)) (dec (hid (enc (flP (dec q)))))))]|false=>none)|false=>none)|false=>none)|false=>none))
theorem aeT(c:BCU)(p:BP)(q:BP){rX:List RV}(hX:∃nX,I7 (UH.k nX) c p q=some rX):UH.Res 81 [.d tCU c,.d tP p,.d tP q] rX:=aO (t:=fun k=>I7 k c p q) (fun k=>show go2 Tryz.prog ft tys Lx [] k 4000 (az 81 [.d tCU c,.d tP p,.d tP q]) (.node 0)=I7 k c p q by kernel_rfl) hX
theorem Xy(c:BCU)(p:BP)(q:BP)(h:okC 4000 c∧okP 4000 p∧okP 4000 q):Con Tryz.prog 81 [.d tCU c,.d tP p,.d tP q] [.d (.int .i64) (kZ (dC c) (dec p) (dec q))]:=by
 refine Ctx.Res.con (C:=UH) (au CH) (aeT _ _ _ ⟨0,?_⟩) (fn:=Tryz.f81) (by kernel_rfl) (by kernel_rfl)
 obtain⟨hc,hp,hq⟩:=h
 have xb:=Ya (dec p) (dec q)
 obtain⟨ar,li,ci,cw,fr,to⟩:=c
 obtain⟨c1,c2,c3,c4⟩:=hc
 simp only at c1 c2 c3 c4
 unfold I7 kZ
 cases ar
 ·simp only[Int.zero_sub,bk (x:= -dS (dec p) (dec q)) (by omega) (by omega),dT (show okP 4000 p∧okP 4000 q from⟨hp,hq⟩),dT (show okP 4000 fr∧okP 4000 to from⟨c3,c4⟩),Bool.not_false]
  simp only[dC,frC,toC,cond_false]
  by_cases hd:dS (dec fr) (dec to)>0
  ·simp[hd]
  ·simp[hd]
 ·have e:=(c1 rfl).1
  have hci:=c1 rfl
  obtain⟨f1,f2⟩:=ZS e
  cases cw
  ·simp only[dT (show ok Ln 300 ci∧okP 4000 fr∧okP 4000 p∧okP 4000 q from⟨e,c3,hp,hq⟩),Bool.not_true,Bool.not_false]
   rfl
  ·have hm:ok Ln 300 (qI (true,li,ci,true,fr,to)).2.2.1∧okP 4000 (qI (true,li,ci,true,fr,to)).2.2.2.2.1∧okP 4000 (enc (flP (dec p)))∧okP 4000 (enc (flP (dec q))):=⟨f1,Hx c3,Hx hp,Hx hq⟩
   have m1:(dec (qI (true,li,ci,true,fr,to)).2.2.1:Ln)=flC (dec ci):=f2
   have m2:(dec (qI (true,li,ci,true,fr,to)).2.2.2.2.1:Pt)=flP (dec fr):=ak _
   simp only[aj,dT (show FU ci∧okP 4000 fr∧okP 4000 to from⟨hci,c3,c4⟩),dT hp,dT hq,dT hm,Bool.not_true,m1,m2,ak]
   rfl
def ui:aL:=spN true true [tCU,tP,tP] (fun x=>decide (okC 4000 x.1∧okP 4000 x.2.1∧okP 4000 x.2.2.1)) (fun x=>[RV.d (.int .i64) (kZ (dC x.1) (dec x.2.1) (dec x.2.2.1))])
theorem tj:af Tryz.prog 81=true∧ao Tryz.prog 81 ui∧∀g,ui.mut_=some g→aK Tryz.prog 81 g:=aq (by kernel_rfl) fun x h=>Xy x.1 x.2.1 x.2.2.1 (of_decide_eq_true h)
noncomputable def PZ:Env:=(81,ui)::Lx
theorem RZ:EnvAll Tryz.prog PZ:=⟨tj,CH⟩
noncomputable def Pj:Ctx:=⟨Tryz.prog,ft,tys,PZ,[]⟩
noncomputable def Ii(_k:KT)(c:BCU)(p:BP):Option (List RV):=match decide (okC 3500 c∧okP 3500 p)with|true=>(match uF (dC c) (dec p)with|true=>(match decide (okC 4000 c∧okP 4000 c.2.2.2.2.1∧okP 4000 p)with|true=>(match decide ((kZ (dC c) (dec c.2.2.2.2.1) (dec p))≤0)with|true=>(match decide (okC 4000 c∧okP 4000 p∧okP 4000 c.2.2.2.2.2)with|true=>some [RV.d .bool (decide ((kZ (dC c) (dec p) (dec c.2.2.2.2.2))≤0))]|false=>none)|false=>some [RV.d .bool false])|false=>none)|false=>some [RV.d .bool false])|false=>none
theorem ade(c:BCU)(p:BP){rX:List RV}(hX:∃nX,Ii (Pj.k nX) c p=some rX):Pj.Res 19 [.d tCU c,.d tP p] rX:=aO (t:=fun k=>Ii k c p) (fun k=>show go2 Tryz.prog ft tys PZ [] k 4000 (az 19 [.d tCU c,.d tP p]) (.node 0)=Ii k c p by kernel_rfl) hX
theorem XU(c:BCU)(p:BP)(h:okC 3500 c∧okP 3500 p):Con Tryz.prog 19 [.d tCU c,.d tP p] [.d .bool (onR (dC c) (dec p))]:=by
 refine Ctx.Res.con (C:=Pj) (au RZ) (ade _ _ ⟨0,?_⟩) (fn:=Tryz.f19) (by kernel_rfl) (by kernel_rfl)
 obtain⟨hc,hp⟩:=h
 have hc4:=NC (k:=4000) hc (by decide) (by decide)
 have hp4:=mV (k:=4000) hp (by decide) (by decide)
 unfold Ii onR
 rw[dT (show okC 3500 c∧okP 3500 p from⟨hc,hp⟩),dT (show okC 4000 c∧okP 4000 c.2.2.2.2.1∧okP 4000 p from⟨hc4,hc4.2.2.1,hp4⟩),dT (show okC 4000 c∧okP 4000 p∧okP 4000 c.2.2.2.2.2 from⟨hc4,hp4,hc4.2.2.2⟩)]
 dsimp only
 cases uF (dC c) (dec p)
 ·rfl
 ·show(match decide (kZ (dC c) (frC (dC c)) (dec p)≤0)with|true=>some [RV.d .bool (decide (kZ (dC c) (dec p) (toC (dC c))≤0))]|false=>some [RV.d .bool false])=_
  cases decide (kZ (dC c) (frC (dC c)) (dec p)≤0)<;>rfl
def yM:aL:=spN true true [tCU,tP] (fun x=>decide (okC 3500 x.1∧okP 3500 x.2.1)) (fun x=>[RV.d .bool (onR (dC x.1) (dec x.2.1))])
theorem CW:af Tryz.prog 19=true∧ao Tryz.prog 19 yM∧∀g,yM.mut_=some g→aK Tryz.prog 19 g:=aq (by kernel_rfl) fun x h=>XU x.1 x.2.1 (of_decide_eq_true h)
end Go.Proofs.YtlahabkjhgkkjaaGreat
namespace Go.Proofs.YtlahabkjhgkkjaaGreat
open Go.RowKit
namespace RE
section
variable {x y x' y' cx cy Q:RE}
end
def onCi(c:Ln)(p:Pt):Prop:=(pX p-of c.1)*(pX p-of c.1)+(pY p-of c.2.1)*(pY p-of c.2.1)=of c.2.2
end RE
structure Crv (c:Cv):Prop where
 f:Rpd (frC c)
 t:Rpd (toC c)
 q:c.1=true→0<(ciC c).2.2∧RE.onCi (ciC c) (frC c)∧RE.onCi (ciC c) (toC c)
end Go.Proofs.YtlahabkjhgkkjaaGreat
namespace Go.Proofs.YtlahabkjhgkkjaaGreat
open Go.RowKit
def dH(l:Ln)(p:Pt):Rt:=mkR (-l.2.1*p.1+l.1*p.2.2.1) (-l.2.1*p.2.1+l.1*p.2.2.2.1) p.2.2.2.2
def EV(c:Cv)(p:Pt):Bool:=
 bif decide (bK (dH (lnC c) (frC c)) (dH (lnC c) (toC c))>0)then decide (bK (dH (lnC c) (toC c)) (dH (lnC c) p)≤0)&&decide (bK (dH (lnC c) p) (dH (lnC c) (frC c))≤0)
 else decide (bK (dH (lnC c) (frC c)) (dH (lnC c) p)≤0)&&decide (bK (dH (lnC c) p) (dH (lnC c) (toC c))≤0)
def qH(a b:Rt):Rt:=bif decide (bK b a<0)then b else a
def zeV(v:Rat×Rat):Bool:=decide (v.1=0)&&decide (v.2=0)
def Tc(c:Ln)(d:Rat×Rat):Pt:=mkP (mkR c.1 d.1 (c.2.2/cf d d)) (mkR c.2.1 d.2 (c.2.2/cf d d))
def Gg(c:Cv)(d:Rat×Rat):Bool:=bif c.1&&!(zeV d)then onP c (Tc (ciC c) d)else c.1
def Ml(c:Cv)(v:Rat×Rat):Rt:=qH (sqP (frC c) v) (sqP (toC c) v)
def G8(c:Cv)(v:Rat×Rat):Rat×Rat:=aU (ctr (ciC c)) v
def jN(c:Cv)(v:Rat×Rat):Rt:=
 bif c.1 then(bif Gg c (G8 c v)then mkR (cf (G8 c v) (G8 c v)+(ciC c).2.2) (-2) (cf (G8 c v) (G8 c v)*(ciC c).2.2)else Ml c v)
 else(bif EV c (atP v)then(cf (aU v (lE (lnC c) v)) (aU v (lE (lnC c) v)),0,0)else Ml c v)
def E8(c:Cv)(v:Rat×Rat)(r:Rat):Int:=bif decide (r<0)then 1 else d9 (jN c v) (r*r)
instance afj {l:Ln} {p:Pt} [h:Rpd p]:Rdd (dH l p):=by
 have:Nn p.2.2.2.2:=inferInstance
 exact BZ
instance afb {l:Ln} {p:Pt} {i j:Nat} [h:Bd l i] [h':Bd p j] [hp:Rpd p]:Bd (dH l p) (4*i+4*j+5):=by
 have a1:Bd (-l.2.1*p.1+l.1*p.2.2.1) _:=inferInstance
 have a2:Bd (-l.2.1*p.2.1+l.1*p.2.2.2.1) _:=inferInstance
 exact(aa1 (a:= -l.2.1*p.1+l.1*p.2.2.1) (b:= -l.2.1*p.2.1+l.1*p.2.2.2.1) (c:=p.2.2.2.2)).mono (fp (by omega) (by omega))
theorem Q7(a b:Rt):qH a b=a∨qH a b=b:=by
 unfold qH
 cases decide (bK b a<0)
 ·exact .inl rfl
 ·exact .inr rfl
instance SW {a b:Rt} [h:Rdd a] [h':Rdd b]:Rdd (qH a b):=by
 rcases Q7 a b with e|e<;>rw[e]<;>assumption
instance afi {a b:Rt} {i j:Nat} [h:Bd a i] [h':Bd b j]:Bd (qH a b) (mx i j):=by
 rcases Q7 a b with e|e<;>rw[e]
 ·exact h.mono (Ds _ _)
 ·exact h'.mono (Db _ _)
theorem PG(d:Rat×Rat):0≤cf d d:=by
 unfold cf
 have h:∀a:Rat,0≤a*a:=fun a=>by
  rcases(by grind:0≤a∨0≤ -a)with h|h
  ·exact Rat.mul_nonneg h h
  ·have:=Rat.mul_nonneg h h;grind
 have:=h d.1
 have:=h d.2
 grind
theorem Z3{d:Rat×Rat}(h:zeV d=false):cf d d≠0:=by
 refine zZ ?_
 unfold zeV at h
 by_cases e:d.1=0
 ·rw[decide_eq_true e,Bool.true_and]at h
  exact .inr (of_decide_eq_false h)
 ·exact .inl e
theorem IT(a b d e s:Rat):ug (mkR a d s) (mkR b e s):=by
 unfold ug mkR
 cases fw s
 ·simp only[cond_false]
  by_cases hd:d=0
  ·rw[decide_eq_true hd];exact .inl rfl
  ·by_cases he:e=0
   ·rw[decide_eq_true he];exact .inr (.inl rfl)
   ·rw[decide_eq_false hd,decide_eq_false he];exact .inr (.inr rfl)
 ·exact .inl rfl
theorem Z8{a b:Rat}(ha:0≤a)(hb:0≤b):0≤a/b:=by
 by_cases h0:b=0
 ·rw[h0,Rat.div_def,Rat.inv_zero,Rat.mul_zero]
  exact Rat.le_refl
 ·rcases(by grind:0≤a/b∨0< -(a/b))with h|h
  ·exact h
  ·have h1:=Rat.mul_pos h (show 0<b by grind)
   have h2:a/b*b=a:=Rat.div_mul_cancel h0
   grind
class Cir (c:Ln):Prop where q:0<c.2.2
instance abG {c:Ln} {d:Rat×Rat} [h:Cir c]:Nn (c.2.2/cf d d):=⟨Z8 (by have:=h.q;grind) (PG d)⟩
instance afK {c:Ln} {d:Rat×Rat} [h:Cir c]:Rpd (Tc c d):=adR BZ BZ (IT _ _ _ _ _)
instance Wn {c:Ln} {d:Rat×Rat} [h:Cir c]:Nn (cf d d*c.2.2):=⟨Rat.mul_nonneg (PG d) (by have:=h.q;grind)⟩
instance afw {c:Ln} {d:Rat×Rat} {i j:Nat} [h:Bd c i] [h':Bd d j]:Bd (Tc c d) (2*i+5*j+2):=by
 have s1:Bd (c.2.2/cf d d) _:=inferInstance
 have a1:Bd (mkR c.1 d.1 (c.2.2/cf d d)) _:=inferInstance
 have a2:Bd (mkR c.2.1 d.2 (c.2.2/cf d d)) _:=inferInstance
 have b1:=a1.mono (k:=2*i+5*j+2) (by omega)
 have b2:=a2.mono (k:=2*i+5*j+2) (by omega)
 have e:∀n,mx n n=n:=fun n=>by unfold mx;rw[decide_eq_true (Nat.le_refl n)];rfl
 exact(abx (h:=b1) (h':=b2)).mono (by
  simp only[e]
  refine fp (by omega) (fp (by omega) (fp (by omega) (fp (by omega) (fp (by omega) (by omega))))))
end Go.Proofs.YtlahabkjhgkkjaaGreat
namespace Go.Proofs.YtlahabkjhgkkjaaGreat
open Go.RowKit
namespace RE
end RE
end Go.Proofs.YtlahabkjhgkkjaaGreat
namespace Go.Proofs.YtlahabkjhgkkjaaGreat
open Go.RowKit
noncomputable def kU:Env:=[(76,fS),(148,gg),(149,iD),(147,gQ),(202,lM),(83,fP),(99,je),(170,qd),(219,nH),(283,rR),(290,uo),(282,tk),(281,tw),(259,p6),(284,sS),(291,zv)]
theorem jL:EnvAll Tryz.prog kU:=⟨d7,dY,fI,eO,jM,ec,gH,oN,lD,uy,sA,tY,sh,n5,tb,CG,trivial⟩
noncomputable def Pi:Ctx:=⟨Tryz.prog,ft,tys,kU,[]⟩
noncomputable def Ku(_k:KT)(l:BO3)(p:BP):Option (List RV):=let y1:=bF (dec (p.1,(p.2.1,p.2.2.2.2)));let y2:=hid ((bF (dec p.2.2)).1);let y3:=gb (aa l.1) (hid (y1.1)) (y1.2);let y4:=gb (aa l.2.1) y2 ((bF (dec p.2.2)).2);let y5:=cQ (hid (y3.1)) (hid (y4.1));let y6:=hid ((frF (aa l.2.2)).1);let y7:=cQ (hid (y5.1)) (hid (jg y6));match decide (ok Rt 100000 (p.1,(p.2.1,p.2.2.2.2)))with|true=>(match decide (ok Rat 100000 l.1∧prI (hid (y1.1)))with|true=>(match decide (ok Rt 100000 p.2.2)with|true=>(match decide (ok Rat 100000 l.2.1∧prI y2)with|true=>(match decide (ok Rat 200000 l.2.2)with|true=>(match !(y3.2)with|true=>some [RV.d (.int .i64) 0,RV.d .bool false]|false=>(match !(y4.2)with|true=>some [RV.d (.int .i64) 0,RV.d .bool false]|false=>(match !((frF (aa l.2.2)).2)with|true=>some [RV.d (.int .i64) 0,RV.d .bool false]|false=>(match decide (prI (hid (y3.1))∧prI (hid (y4.1)))with|true=>(match !(y5.2)with|true=>some [RV.d (.int .i64) 0,RV.d .bool false]|false=>(match decide (prI y6)with|true=>(match decide (prI (hid (y5.1))∧prI (hid (jg y6)))with|true=>(match !(y7.2)with|true=>some [RV.d (.int .i64) 0,RV.d .bool false]|false=>some [RV.d (.int .i64) ((sgF (hid (y7.1))).1),RV.d .bool ((sgF (hid (y7.1))).2)])|false=>none)|false=>none))|false=>none))))|false=>none)|false=>none)|false=>none)|false=>none)|false=>none
theorem adn(l:BO3)(p:BP){rX:List RV}(hX:∃nX,Ku (Pi.k nX) l p=some rX):Pi.Res 270 [.d tO l,.d tP p] rX:=aO (t:=fun k=>Ku k l p) (fun k=>show go2 Tryz.prog ft tys kU [] k 4000 (az 270 [.d tO l,.d tP p]) (.node 0)=Ku k l p by kernel_rfl) hX
theorem Xx(l:BO3)(p:BP)(h:ok Ln 300 l∧ok Pt 4000 p):Con Tryz.prog 270 [.d tO l,.d tP p] [.d (.int .i64) ((pQ (dec l) (dec p)).1),.d .bool ((pQ (dec l) (dec p)).2)]:=by
 refine Ctx.Res.con (C:=Pi) (au jL) (adn _ _ ⟨0,?_⟩) (fn:=Tryz.f270) (by kernel_rfl) (by kernel_rfl)
 obtain⟨hl,hp⟩:=h
 obtain⟨l,rfl,bl⟩:=aS hl
 obtain⟨p,rfl,bp⟩:=aS hp
 have dx:(dec ((ae p.1,ae p.2.1,ae p.2.2.2.2):BO3):Rt)=pxR p:=ak (pxR p)
 have dy:(dec ((ae p.2.2.1,ae p.2.2.2.1,ae p.2.2.2.2):BO3):Rt)=pyR p:=ak (pyR p)
 have dy':(dec (enc p.2.2:BO3):Rt)=pyR p:=ak (pyR p)
 have px:Bd (pxR p) 4000:=(inferInstance:Bd ((p.1,p.2.1,p.2.2.2.2):Rt) _).mono (by decide)
 have py:Bd (pyR p) 4000:=(inferInstance:Bd ((p.2.2.1,p.2.2.2.1,p.2.2.2.2):Rt) _).mono (by decide)
 have ox:decide (ok Rt 100000 ((ae p.1,ae p.2.1,ae p.2.2.2.2):BO3))=true:=okd (x:=pxR p) (by decide) (by decide)
 have oy:decide (ok Rt 100000 (enc p.2.2:BO3))=true:=okd (x:=pyR p) (by decide) (by decide)
 have pr:∀r,prI (bF r).1:=tz
 have pt:∀n a k,prI (gb n a k).1:=Xg
 have pf:∀q,prI (frF q).1:=RE.frF_pr
 unfold Ku
 simp only[aj,ak,aF,aG,aD,aw,aC,Bool.decide_and,Bool.and_self,Nat.reduceLeDiff,dx,dy',ox,oy,dT (pr _),dT (pt _ _ _),dT (pf _),dT (RE.addF_pr (pt _ _ _) (pt _ _ _)),dT (RE.negF_pr (pf _))]
 unfold pQ
 generalize bF (pxR p)=X
 generalize bF (pyR p)=Y
 generalize gb l.1 X.1 X.2=U
 generalize gb l.2.1 Y.1 Y.2=V
 generalize frF l.2.2=W
 generalize cQ U.1 V.1=S
 generalize cQ S.1 (jg W.1)=D
 generalize sgF D.1=Z
 obtain⟨_,u⟩:=U
 obtain⟨_,v⟩:=V
 obtain⟨_,w⟩:=W
 obtain⟨_,s⟩:=S
 obtain⟨_,d⟩:=D
 cases u<;>cases v<;>cases w<;>try rfl
 cases s<;>cases d<;>rfl
noncomputable def NM:Ctx:=⟨Tryz.prog,ft,tys,kU,[]⟩
noncomputable def Ke(_k:KT)(a:BR)(b:BR):Option (List RV):=match decide (okR a∧okR b)with|true=>some [RV.d tR (hid (ae (aa a+aa b)))]|false=>none
theorem aen(a:BR)(b:BR){rX:List RV}(hX:∃nX,Ke (NM.k nX) a b=some rX):NM.Res 154 [.d tR a,.d tR b] rX:=aO (t:=fun k=>Ke k a b) (fun k=>show go2 Tryz.prog ft tys kU [] k 4000 (az 154 [.d tR a,.d tR b]) (.node 0)=Ke k a b by kernel_rfl) hX
theorem XW(a:BR)(b:BR)(h:okR a∧okR b):Con Tryz.prog 154 [.d tR a,.d tR b] [.d tR (ae (aa a+aa b))]:=by
 refine Ctx.Res.con (C:=NM) (au jL) (aen _ _ ⟨0,?_⟩) (fn:=Tryz.f154) (by kernel_rfl) (by kernel_rfl)
 unfold Ke
 rw[dT h,aj]
noncomputable def NN:Ctx:=⟨Tryz.prog,ft,tys,kU,[]⟩
noncomputable def JO(_k:KT)(a:BR)(b:BR):Option (List RV):=match decide (okR a∧okR b)with|true=>some [RV.d tR (hid (ae (aa a-aa b)))]|false=>none
theorem adw(a:BR)(b:BR){rX:List RV}(hX:∃nX,JO (NN.k nX) a b=some rX):NN.Res 153 [.d tR a,.d tR b] rX:=aO (t:=fun k=>JO k a b) (fun k=>show go2 Tryz.prog ft tys kU [] k 4000 (az 153 [.d tR a,.d tR b]) (.node 0)=JO k a b by kernel_rfl) hX
theorem Yn(a:BR)(b:BR)(h:okR a∧okR b):Con Tryz.prog 153 [.d tR a,.d tR b] [.d tR (ae (aa a-aa b))]:=by
 refine Ctx.Res.con (C:=NN) (au jL) (adw _ _ ⟨0,?_⟩) (fn:=Tryz.f153) (by kernel_rfl) (by kernel_rfl)
 unfold JO
 rw[dT h,aj]
noncomputable def SO:Ctx:=⟨Tryz.prog,ft,tys,kU,[]⟩
noncomputable def K8(_k:KT)(a:BR)(b:BR):Option (List RV):=match decide (okR a∧okR b)with|true=>some [RV.d tR (hid (ae (aa a*aa b)))]|false=>none
theorem aco(a:BR)(b:BR){rX:List RV}(hX:∃nX,K8 (SO.k nX) a b=some rX):SO.Res 155 [.d tR a,.d tR b] rX:=aO (t:=fun k=>K8 k a b) (fun k=>show go2 Tryz.prog ft tys kU [] k 4000 (az 155 [.d tR a,.d tR b]) (.node 0)=K8 k a b by kernel_rfl) hX
theorem XH(a:BR)(b:BR)(h:okR a∧okR b):Con Tryz.prog 155 [.d tR a,.d tR b] [.d tR (ae (aa a*aa b))]:=by
 refine Ctx.Res.con (C:=SO) (au jL) (aco _ _ ⟨0,?_⟩) (fn:=Tryz.f155) (by kernel_rfl) (by kernel_rfl)
 unfold K8
 rw[dT h,aj]
noncomputable def Ol:Ctx:=⟨Tryz.prog,ft,tys,kU,[]⟩
noncomputable def J5(_k:KT)(a:BR)(b:BR):Option (List RV):=match decide (gh a b)with|true=>(match 0 !=0 with|true=>(match decide (bh (0:Int))with|true=>some [RV.d tR (hid (ae ((0:Int):Rat)))]|false=>none)|false=>some [RV.d tR (hid (ae (aa a/aa b)))])|false=>none
theorem ad7(a:BR)(b:BR){rX:List RV}(hX:∃nX,J5 (Ol.k nX) a b=some rX):Ol.Res 156 [.d tR a,.d tR b] rX:=aO (t:=fun k=>J5 k a b) (fun k=>show go2 Tryz.prog ft tys kU [] k 4000 (az 156 [.d tR a,.d tR b]) (.node 0)=J5 k a b by kernel_rfl) hX
theorem YF(a:BR)(b:BR)(h:gh a b):Con Tryz.prog 156 [.d tR a,.d tR b] [.d tR (ae (aa a/aa b))]:=by
 refine Ctx.Res.con (C:=Ol) (au jL) (ad7 _ _ ⟨0,?_⟩) (fn:=Tryz.f156) (by kernel_rfl) (by kernel_rfl)
 unfold J5
 rw[dT h]
 simp only[aj]
 rfl
def Gk:aL:=spN true true [tO,tP] (fun x=>decide (ok Ln 300 x.1∧ok Pt 4000 x.2.1)) (fun x=>[RV.d (.int .i64) ((pQ (dec x.1) (dec x.2.1)).1),RV.d .bool ((pQ (dec x.1) (dec x.2.1)).2)])
theorem O6:af Tryz.prog 270=true∧ao Tryz.prog 270 Gk∧∀g,Gk.mut_=some g→aK Tryz.prog 270 g:=aq (by kernel_rfl) fun x h=>Xx x.1 x.2.1 (of_decide_eq_true h)
noncomputable def E7:aL:=spN false true [tR,tR] (fun x=>decide (okR x.1∧okR x.2.1)) (fun x=>[RV.d tR (hid (ae (aa x.1+aa x.2.1)))])
theorem Q4:af Tryz.prog 154=true∧ao Tryz.prog 154 E7∧∀g,E7.mut_=some g→aK Tryz.prog 154 g:=aq (by kernel_rfl) fun x h=>by simp only[aj];exact XW x.1 x.2.1 (of_decide_eq_true h)
noncomputable def D5:aL:=spN false true [tR,tR] (fun x=>decide (okR x.1∧okR x.2.1)) (fun x=>[RV.d tR (hid (ae (aa x.1-aa x.2.1)))])
theorem Qc:af Tryz.prog 153=true∧ao Tryz.prog 153 D5∧∀g,D5.mut_=some g→aK Tryz.prog 153 g:=aq (by kernel_rfl) fun x h=>by simp only[aj];exact Yn x.1 x.2.1 (of_decide_eq_true h)
noncomputable def HY:aL:=spN false true [tR,tR] (fun x=>decide (okR x.1∧okR x.2.1)) (fun x=>[RV.d tR (hid (ae (aa x.1*aa x.2.1)))])
theorem Ut:af Tryz.prog 155=true∧ao Tryz.prog 155 HY∧∀g,HY.mut_=some g→aK Tryz.prog 155 g:=aq (by kernel_rfl) fun x h=>by simp only[aj];exact XH x.1 x.2.1 (of_decide_eq_true h)
noncomputable def G5:aL:=spN false true [tR,tR] (fun x=>decide (gh x.1 x.2.1)) (fun x=>[RV.d tR (hid (ae (aa x.1/aa x.2.1)))])
theorem Qe:af Tryz.prog 156=true∧ao Tryz.prog 156 G5∧∀g,G5.mut_=some g→aK Tryz.prog 156 g:=aq (by kernel_rfl) fun x h=>by simp only[aj];exact YF x.1 x.2.1 (of_decide_eq_true h)
noncomputable def wm:Env:=(270,Gk)::(154,E7)::(153,D5)::(155,HY)::(156,G5)::kU
theorem tC:EnvAll Tryz.prog wm:=⟨O6,Q4,Qc,Ut,Qe,jL⟩
noncomputable def Up:Ctx:=⟨Tryz.prog,ft,tys,wm,[]⟩
noncomputable def Lk(_k:KT)(a:BR)(b:BR)(c:BR):Option (List RV):=match decide (okR a)with|true=>(match decide (okR b)with|true=>(match decide (okR c)with|true=>(match(IntKind.i64.wrap ((aQ (aa b) 0)*(aQ (aa c) 0)))==0 with|true=>some [RV.d (.int .i64) (aQ (aa a) 0)]|false=>(match(aQ (aa a) 0)==(IntKind.i64.wrap ((aQ (aa b) 0)*(aQ (aa c) 0)))with|true=>some [RV.d (.int .i64) (aQ (aa a) 0)]|false=>(match(aQ (aa a) 0)==0 with|true=>some [RV.d (.int .i64) (IntKind.i64.wrap ((aQ (aa b) 0)*(aQ (aa c) 0)))]|false=>(match decide (okR a∧okR a)with|true=>(match decide (okR b∧okR b)with|true=>(match decide (okR (hid (ae (aa b*aa b)))∧okR c)with|true=>(match decide (okR (hid (ae (aa a*aa a)))∧okR (hid (ae (aa (hid (ae (aa b*aa b)))*aa c))))with|true=>some [RV.d (.int .i64) (IntKind.i64.wrap ((aQ (aa a) 0)*(aQ (aa (hid (ae (aa a*aa a)))) (aa (hid (ae (aa (hid (ae (aa b*aa b)))*aa c)))))))]|false=>none)|false=>none)|false=>none)|false=>none))))|false=>none)|false=>none)|false=>none
theorem ab7(a:BR)(b:BR)(c:BR){rX:List RV}(hX:∃nX,Lk (Up.k nX) a b c=some rX):Up.Res 269 [.d tR a,.d tR b,.d tR c] rX:=aO (t:=fun k=>Lk k a b c) (fun k=>show go2 Tryz.prog ft tys wm [] k 4000 (az 269 [.d tR a,.d tR b,.d tR c]) (.node 0)=Lk k a b c by kernel_rfl) hX
theorem WC(a:BR)(b:BR)(c:BR)(h:ok Rat 240000 a∧ok Rat 170000 b∧ok Rat 30000 c):Con Tryz.prog 269 [.d tR a,.d tR b,.d tR c] [.d (.int .i64) (eD (aa a) (aa b) (aa c))]:=by
 refine Ctx.Res.con (C:=Up) (au tC) (ab7 _ _ _ ⟨0,?_⟩) (fn:=Tryz.f269) (by kernel_rfl) (by kernel_rfl)
 obtain⟨ha,hb,hc⟩:=h
 obtain⟨a,rfl,ba⟩:=aS ha
 obtain⟨b,rfl,bb⟩:=aS hb
 obtain⟨c,rfl,bc⟩:=aS hc
 unfold Lk
 simp only[aj,aD,aw,aX,Bool.decide_and,Bool.and_self,Nat.reduceAdd,Nat.reduceLeDiff,iV]
 exact zS _ _ _
noncomputable def Oq:Ctx:=⟨Tryz.prog,ft,tys,wm,[]⟩
noncomputable def K7(_k:KT)(a:BR)(b:BR)(c:BR)(f:BR):Option (List RV):=match decide (ok Rt 100000 (a,(b,c)))with|true=>(match decide (ok Rat 200000 f)with|true=>(match !((bF (dec (a,(b,c)))).2)with|true=>some [RV.d tG (0,0),RV.d .bool false]|false=>(match !((frF (aa f)).2)with|true=>some [RV.d tG (0,0),RV.d .bool false]|false=>(match decide (prI (hid ((frF (aa f)).1)))with|true=>(match decide (prI (hid ((bF (dec (a,(b,c)))).1))∧prI (hid (jg (hid ((frF (aa f)).1)))))with|true=>some [RV.d tG (hid ((cQ (hid ((bF (dec (a,(b,c)))).1)) (hid (jg (hid ((frF (aa f)).1))))).1)),RV.d .bool ((cQ (hid ((bF (dec (a,(b,c)))).1)) (hid (jg (hid ((frF (aa f)).1))))).2)]|false=>none)|false=>none)))|false=>none)|false=>none
theorem acZ(a:BR)(b:BR)(c:BR)(f:BR){rX:List RV}(hX:∃nX,K7 (Oq.k nX) a b c f=some rX):Oq.Res 289 [.d tR a,.d tR b,.d tR c,.d tR f] rX:=aO (t:=fun k=>K7 k a b c f) (fun k=>show go2 Tryz.prog ft tys wm [] k 4000 (az 289 [.d tR a,.d tR b,.d tR c,.d tR f]) (.node 0)=K7 k a b c f by kernel_rfl) hX
theorem V5(a:BR)(b:BR)(c:BR)(f:BR)(h:ok Rat 100000 a∧ok Rat 100000 b∧ok Rat 100000 c∧ok Rat 100000 f):Con Tryz.prog 289 [.d tR a,.d tR b,.d tR c,.d tR f] [.d tG ((dB (aa a,aa b,aa c) (aa f)).1),.d .bool ((dB (aa a,aa b,aa c) (aa f)).2)]:=by
 refine Ctx.Res.con (C:=Oq) (au tC) (acZ _ _ _ _ ⟨0,?_⟩) (fn:=Tryz.f289) (by kernel_rfl) (by kernel_rfl)
 obtain⟨ha,hb,hc,hf⟩:=h
 obtain⟨a,rfl,ba⟩:=aS ha
 obtain⟨b,rfl,bb⟩:=aS hb
 obtain⟨c,rfl,bc⟩:=aS hc
 obtain⟨f,rfl,bf⟩:=aS hf
 have dr:(dec ((ae a,ae b,ae c):BO3):Rt)=(a,b,c):=ak ((a,b,c):Rt)
 have orr:decide (ok Rt 100000 ((ae a,ae b,ae c):BO3))=true:=okd (x:=((a,b,c):Rt)) (by decide) (by decide)
 unfold K7
 simp only[aj,aD,aw,aC,Bool.decide_and,Bool.and_self,Nat.reduceLeDiff,dr,orr,dT (RE.frF_pr _),dT (RE.negF_pr (RE.frF_pr _)),dT (tz _)]
 unfold dB
 generalize bF (a,b,c)=X
 generalize frF f=Y
 obtain⟨_,x⟩:=X
 obtain⟨_,y⟩:=Y
 cases x<;>cases y<;>rfl
def HO:aL:=spN true true [tR,tR,tR] (fun x=>decide (ok Rat 240000 x.1∧ok Rat 170000 x.2.1∧ok Rat 30000 x.2.2.1)) (fun x=>[RV.d (.int .i64) (eD (aa x.1) (aa x.2.1) (aa x.2.2.1))])
theorem RW:af Tryz.prog 269=true∧ao Tryz.prog 269 HO∧∀g,HO.mut_=some g→aK Tryz.prog 269 g:=aq (by kernel_rfl) fun x h=>WC x.1 x.2.1 x.2.2.1 (of_decide_eq_true h)
noncomputable def Fl:aL:=spN false true [tR,tR,tR,tR] (fun x=>decide (ok Rat 100000 x.1∧ok Rat 100000 x.2.1∧ok Rat 100000 x.2.2.1∧ok Rat 100000 x.2.2.2.1)) (fun x=>[RV.d tG (hid ((dB (aa x.1,aa x.2.1,aa x.2.2.1) (aa x.2.2.2.1)).1)),RV.d .bool ((dB (aa x.1,aa x.2.1,aa x.2.2.1) (aa x.2.2.2.1)).2)])
theorem R5:af Tryz.prog 289=true∧ao Tryz.prog 289 Fl∧∀g,Fl.mut_=some g→aK Tryz.prog 289 g:=aq (by kernel_rfl) fun x h=>by simp only[aj];exact V5 x.1 x.2.1 x.2.2.1 x.2.2.2.1 (of_decide_eq_true h)
noncomputable def uN:Env:=(269,HO)::(289,Fl)::wm
theorem uw:EnvAll Tryz.prog uN:=⟨RW,R5,tC⟩
noncomputable def PY:Ctx:=⟨Tryz.prog,ft,tys,uN,[]⟩
noncomputable def Jb(_k:KT)(c:BO3)(p:BP):Option (List RV):=let y1:=dB (aa p.1,aa p.2.1,aa p.2.2.2.2) (aa c.1);let y2:=dB (aa p.2.2.1,aa p.2.2.2.1,aa p.2.2.2.2) (aa c.2.1);let y3:=co (hid (y1.1)) (hid (y1.1));let y4:=co (hid (y2.1)) (hid (y2.1));let y5:=cQ (hid (y3.1)) (hid (y4.1));let y6:=hid ((frF (aa c.2.2)).1);let y7:=cQ (hid (y5.1)) (hid (jg y6));match decide (ok Rat 100000 p.1∧ok Rat 100000 p.2.1∧ok Rat 100000 p.2.2.2.2∧ok Rat 100000 c.1)with|true=>(match decide (ok Rat 100000 p.2.2.1∧ok Rat 100000 p.2.2.2.1∧ok Rat 100000 p.2.2.2.2∧ok Rat 100000 c.2.1)with|true=>(match decide (ok Rat 200000 c.2.2)with|true=>(match !(y1.2)with|true=>some [RV.d (.int .i64) 0,RV.d .bool false]|false=>(match !(y2.2)with|true=>some [RV.d (.int .i64) 0,RV.d .bool false]|false=>(match !((frF (aa c.2.2)).2)with|true=>some [RV.d (.int .i64) 0,RV.d .bool false]|false=>(match decide (prI (hid (y1.1))∧prI (hid (y1.1)))with|true=>(match decide (prI (hid (y2.1))∧prI (hid (y2.1)))with|true=>(match !(y3.2)with|true=>some [RV.d (.int .i64) 0,RV.d .bool false]|false=>(match !(y4.2)with|true=>some [RV.d (.int .i64) 0,RV.d .bool false]|false=>(match decide (prI (hid (y3.1))∧prI (hid (y4.1)))with|true=>(match !(y5.2)with|true=>some [RV.d (.int .i64) 0,RV.d .bool false]|false=>(match decide (prI y6)with|true=>(match decide (prI (hid (y5.1))∧prI (hid (jg y6)))with|true=>(match !(y7.2)with|true=>some [RV.d (.int .i64) 0,RV.d .bool false]|false=>some [RV.d (.int .i64) ((sgF (hid (y7.1))).1),RV.d .bool ((sgF (hid (y7.1))).2)])|false=>none)|false=>none))|false=>none)))|false=>none)|false=>none))))|false=>none)|false=>none)|false=>none
theorem adG(c:BO3)(p:BP){rX:List RV}(hX:∃nX,Jb (PY.k nX) c p=some rX):PY.Res 268 [.d tO c,.d tP p] rX:=aO (t:=fun k=>Jb k c p) (fun k=>show go2 Tryz.prog ft tys uN [] k 4000 (az 268 [.d tO c,.d tP p]) (.node 0)=Jb k c p by kernel_rfl) hX
theorem XO(c:BO3)(p:BP)(h:ok Ln 300 c∧ok Pt 4000 p):Con Tryz.prog 268 [.d tO c,.d tP p] [.d (.int .i64) ((oM (dec c) (dec p)).1),.d .bool ((oM (dec c) (dec p)).2)]:=by
 refine Ctx.Res.con (C:=PY) (au uw) (adG _ _ ⟨0,?_⟩) (fn:=Tryz.f268) (by kernel_rfl) (by kernel_rfl)
 obtain⟨hc,hp⟩:=h
 obtain⟨c,rfl,bc⟩:=aS hc
 obtain⟨p,rfl,bp⟩:=aS hp
 have pd:∀r q,prI (dB r q).1:=Ym
 have pf:∀q,prI (frF q).1:=RE.frF_pr
 have pm:∀a b,prI (co a b).1:=n9
 have dx:dB (p.1,p.2.1,p.2.2.2.2) c.1=dB (pxR p) c.1:=rfl
 have dy:dB (p.2.2.1,p.2.2.2.1,p.2.2.2.2) c.2.1=dB (pyR p) c.2.1:=rfl
 unfold Jb
 simp only[aj,ak,aF,aG,aD,aw,aC,Bool.decide_and,Bool.and_self,Nat.reduceLeDiff,dx,dy,dT (pd _ _),dT (pm _ _),dT (pf _),dT (RE.negF_pr (pf _)),dT (RE.addF_pr (pm _ _) (pm _ _))]
 unfold oM
 generalize dB (pxR p) c.1=X
 generalize dB (pyR p) c.2.1=Y
 generalize frF c.2.2=W
 generalize co X.1 X.1=U
 generalize co Y.1 Y.1=V
 generalize cQ U.1 V.1=S
 generalize cQ S.1 (jg W.1)=D
 generalize sgF D.1=Z
 obtain⟨_,x⟩:=X
 obtain⟨_,y⟩:=Y
 obtain⟨_,w⟩:=W
 obtain⟨_,u⟩:=U
 obtain⟨_,v⟩:=V
 obtain⟨_,s⟩:=S
 obtain⟨_,d⟩:=D
 cases x<;>cases y<;>cases w<;>try rfl
 cases u<;>cases v<;>try rfl
 cases s<;>cases d<;>rfl
noncomputable def Sr:Ctx:=⟨Tryz.prog,ft,tys,uN,[]⟩
noncomputable def Ia(_k:KT)(l:BO3)(p:BP):Option (List RV):=match decide (ok Ln 300 l∧ok Pt 4000 p)with|true=>(match(pQ (dec l) (dec p)).2 with|true=>some [RV.d (.int .i64) ((pQ (dec l) (dec p)).1)]|false=>(match decide (okR l.1∧okR p.1)with|true=>(match decide (okR l.2.1∧okR p.2.2.1)with|true=>(match decide (okR (hid (ae (aa l.1*aa p.1)))∧okR (hid (ae (aa l.2.1*aa p.2.2.1))))with|true=>(match decide (okR (hid (ae (aa (hid (ae (aa l.1*aa p.1)))+aa (hid (ae (aa l.2.1*aa p.2.2.1))))))∧okR l.2.2)with|true=>(match decide (okR l.1∧okR p.2.1)with|true=>(match decide (okR l.2.1∧okR p.2.2.2.1)with|true=>(match decide (okR (hid (ae (aa l.1*aa p.2.1)))∧okR (hid (ae (aa l.2.1*aa p.2.2.2.1))))with|true=>(match decide (ok Rat 240000 (hid (ae (aa (hid (ae (aa (hid (ae (aa l.1*aa p.1)))+aa (hid (ae (aa l.2.1*aa p.2.2.1))))))-aa l.2.2)))∧ok Rat 170000 (hid (ae (aa (hid (ae (aa l.1*aa p.2.1)))+aa (hid (ae (aa l.2.1*aa p.2.2.2.1))))))∧ok Rat 30000 p.2.2.2.2)with|true=>some [RV.d (.int .i64) (eD (aa (hid (ae (aa (hid (ae (aa (hid (ae (aa l.1*aa p.1)))+aa (hid (ae (aa l.2.1*aa p.2.2.1))))))-aa l.2.2)))) (aa (hid (ae (aa (hid (ae (aa l.1*aa p.2.1)))+aa (hid (ae (aa l.2.1*aa p.2.2.2.1))))))) (aa p.2.2.2.2))]|false=>none)|false=>none)|false=>none)|false=>none)|false=>none)|false=>none)|false=>none)|false=>none))|false=>none
theorem aeX(l:BO3)(p:BP){rX:List RV}(hX:∃nX,Ia (Sr.k nX) l p=some rX):Sr.Res 231 [.d tO l,.d tP p] rX:=aO (t:=fun k=>Ia k l p) (fun k=>show go2 Tryz.prog ft tys uN [] k 4000 (az 231 [.d tO l,.d tP p]) (.node 0)=Ia k l p by kernel_rfl) hX
theorem YX(l:BO3)(p:BP)(h:ok Ln 300 l∧okP 4000 p):Con Tryz.prog 231 [.d tO l,.d tP p] [.d (.int .i64) (qJ (dec l) (dec p))]:=by
 refine Ctx.Res.con (C:=Sr) (au uw) (aeX _ _ ⟨0,?_⟩) (fn:=Tryz.f231) (by kernel_rfl) (by kernel_rfl)
 obtain⟨hl,hp⟩:=h
 obtain⟨l,rfl,bl⟩:=aS hl
 obtain⟨p,rfl,bp,rp⟩:=cC hp
 unfold Ia
 simp only[aj,ak,aF,aG,aD,aw,okd,aC,aX,Bool.decide_and,Bool.and_self,Nat.reduceAdd,Nat.reduceLeDiff]
 cases hq:(pQ l p).2
 ·rfl
 ·rw[RE.sidL_ok l hq]
def Ei:aL:=spN true true [tO,tP] (fun x=>decide (ok Ln 300 x.1∧ok Pt 4000 x.2.1)) (fun x=>[RV.d (.int .i64) ((oM (dec x.1) (dec x.2.1)).1),RV.d .bool ((oM (dec x.1) (dec x.2.1)).2)])
theorem Qk:af Tryz.prog 268=true∧ao Tryz.prog 268 Ei∧∀g,Ei.mut_=some g→aK Tryz.prog 268 g:=aq (by kernel_rfl) fun x h=>XO x.1 x.2.1 (of_decide_eq_true h)
noncomputable def C9:Env:=(268,Ei)::uN
theorem Da:EnvAll Tryz.prog C9:=⟨Qk,uw⟩
noncomputable def Pv:Ctx:=⟨Tryz.prog,ft,tys,C9,[]⟩
noncomputable def Lz(_k:KT)(c:BO3)(p:BP):Option (List RV):=let y1:=oM (dec c) (dec p);let y2:=hid (ae (aa p.1-aa c.1));let y3:=hid (ae (aa p.2.2.1-aa c.2.1));let y4:=hid (ae (aa y2*aa y2));let y5:=hid (ae (aa y3*aa y3));let y6:=hid (ae (aa p.2.1*aa p.2.1));let y7:=hid (ae (aa p.2.2.2.1*aa p.2.2.2.1));let y8:=hid (ae (aa y6+aa y7));let y9:=hid (ae (aa y4+aa y5));let y10:=hid (ae (aa p.2.2.2.2*aa y8));let y11:=hid (ae (aa y2*aa p.2.1));let y12:=hid (ae (aa y3*aa p.2.2.2.1));let y13:=hid (ae (aa y9+aa y10));let y14:=hid (ae (aa y11+aa y12));let y15:=hid (ae (aa y13-aa c.2.2));let y16:=hid (ae (aa y14+aa y14));match decide (ok Ln 300 c∧ok Pt 4000 p)with|true=>(match y1.2 with|true=>some [RV.d (.int .i64) (IntKind.i64.wrap (0-(y1.1)))]|false=>(match decide (okR p.1∧okR c.1)with|true=>(match decide (okR p.2.2.1∧okR c.2.1)with|true=>(match decide (okR y2∧okR y2)with|true=>(match decide (okR y3∧okR y3)with|true=>(match decide (okR y4∧okR y5)with|true=>(match decide (okR p.2.1∧okR p.2.1)with|true=>(match decide (okR p.2.2.2.1∧okR p.2.2.2.1)with|true=>(match decide (okR y6∧okR y7)with|true=>(match decide (okR p.2.2.2.2∧okR y8)with|true=>(match decide (okR y9∧okR y10)with|true=>(match decide (okR y2∧okR p.2.1)with|true=>(match decide (okR y3∧okR p.2.2.2.1)with|true=>(match decide (okR y11∧okR y12)with|true=>(match decide (okR y13∧okR c.2.2)with|true=>(match decide (okR y14∧okR y14)with|true=>(match decide (ok Rat 240000 y15∧ok Rat 170000 y16∧ok Rat 30000 p.2.2.2.2)with|true=>some [RV.d (.int .i64) (IntKind.i64.wrap (0-(eD (aa y15) (aa y16) (aa p.2.2.2.2))))]|false=>none)|false=>none)|false=>none)|false=>none)|false=>none)|false=>none)|false=>none)|false=>none)|false=>none)|false=>none)|false=>none)|false=>none)|false=>none)|false=>none)|false=>none)|false=>none))|false=>none
theorem acP(c:BO3)(p:BP){rX:List RV}(hX:∃nX,Lz (Pv.k nX) c p=some rX):Pv.Res 230 [.d tO c,.d tP p] rX:=aO (t:=fun k=>Lz k c p) (fun k=>show go2 Tryz.prog ft tys C9 [] k 4000 (az 230 [.d tO c,.d tP p]) (.node 0)=Lz k c p by kernel_rfl) hX
theorem Zm(c:BO3)(p:BP)(h:ok Ln 300 c∧okP 4000 p):Con Tryz.prog 230 [.d tO c,.d tP p] [.d (.int .i64) (nR (dec c) (dec p))]:=by
 refine Ctx.Res.con (C:=Pv) (au Da) (acP _ _ ⟨0,?_⟩) (fn:=Tryz.f230) (by kernel_rfl) (by kernel_rfl)
 obtain⟨hc,hp⟩:=h
 obtain⟨c,rfl,bc⟩:=aS hc
 obtain⟨p,rfl,bp,rp⟩:=cC hp
 have sb:=jb (sqA p (ctr c)-c.2.2) (sqB p (ctr c)) p.2.2.2.2
 unfold Lz
 simp only[aj,ak,aF,aG,aD,aw,okd,aC,aX,Bool.decide_and,Bool.and_self,Nat.reduceAdd,Nat.reduceLeDiff]
 cases hq:(oM c p).2
 ·unfold nR sqA sqB ctr at*
  dsimp only at sb ⊢
  rw[show(p.2.2.2.2*(p.2.1*p.2.1+p.2.2.2.1*p.2.2.2.1))=(p.2.1*p.2.1+p.2.2.2.1*p.2.2.2.1)*p.2.2.2.2 by grind]
  rw[bk (by omega) (by omega),Int.zero_sub]
 ·have hb: -1≤(oM c p).1∧(oM c p).1≤1:=by
   have:=RE.insC_ok c hq
   unfold nR at this
   omega
  dsimp only
  rw[bk (by omega) (by omega),Int.zero_sub,RE.insC_ok c hq]
noncomputable def Px:Ctx:=⟨Tryz.prog,ft,tys,C9,[]⟩
noncomputable def Le(_k:KT)(l:BO3)(v:BV):Option (List RV):=let y1:=hid (ae (aa l.1*aa v.1));let y2:=hid (ae (aa l.2.1*aa v.2));let y3:=hid (ae (aa y1+aa y2));let y4:=hid (ae (aa l.1*aa l.1));let y5:=hid (ae (aa l.2.1*aa l.2.1));let y6:=hid (ae (aa y3-aa l.2.2));let y7:=hid (ae (aa y4+aa y5));let y8:=hid (ae (aa y6/aa y7));let y9:=hid (ae (aa y8*aa l.1));let y10:=hid (ae (aa y8*aa l.2.1));match decide (okR l.1∧okR v.1)with|true=>(match decide (okR l.2.1∧okR v.2)with|true=>(match decide (okR y1∧okR y2)with|true=>(match decide (okR y3∧okR l.2.2)with|true=>(match decide (okR l.1∧okR l.1)with|true=>(match decide (okR l.2.1∧okR l.2.1)with|true=>(match decide (okR y4∧okR y5)with|true=>(match decide (gh y6 y7)with|true=>(match decide (okR y8∧okR l.1)with|true=>(match decide (okR v.1∧okR y9)with|true=>(match decide (okR y8∧okR l.2.1)with|true=>(match decide (okR v.2∧okR y10)with|true=>some [RV.d tV (hid (ae (aa v.1-aa y9)),hid (ae (aa v.2-aa y10)))]|false=>none)|false=>none)|false=>none)|false=>none)|false=>none)|false=>none)|false=>none)|false=>none)|false=>none)|false=>none)|false=>none)|false=>none
theorem aeZ(l:BO3)(v:BV){rX:List RV}(hX:∃nX,Le (Px.k nX) l v=some rX):Px.Res 70 [.d tO l,.d tV v] rX:=aO (t:=fun k=>Le k l v) (fun k=>show go2 Tryz.prog ft tys C9 [] k 4000 (az 70 [.d tO l,.d tV v]) (.node 0)=Le k l v by kernel_rfl) hX
theorem Xq(l:BO3)(v:BV)(h:ok Ln 300 l∧ok (Rat×Rat) 200 v∧((dec l:Ln).1≠0∨(dec l:Ln).2.1≠0)):Con Tryz.prog 70 [.d tO l,.d tV v] [.d tV (enc (lE (dec l) (dec v)))]:=by
 refine Ctx.Res.con (C:=Px) (au Da) (aeZ _ _ ⟨0,?_⟩) (fn:=Tryz.f70) (by kernel_rfl) (by kernel_rfl)
 obtain⟨hl,hv,h0⟩:=h
 obtain⟨l,rfl,bl⟩:=aS hl
 obtain⟨v,rfl,bv⟩:=aS hv
 have hn:l.1*l.1+l.2.1*l.2.1≠0:=zZ (by rw[ak]at h0;exact h0)
 unfold Le
 simp only[aj,ak,aF,aG,aD,aw,aX,aE,Bool.decide_and,Bool.and_self,Nat.reduceAdd,Nat.reduceLeDiff,hn,ne_eq,not_false_eq_true]
 rfl
end Go.Proofs.YtlahabkjhgkkjaaGreat
namespace Go.Proofs.YtlahabkjhgkkjaaGreat
open Go.RowKit
theorem Ze(n:Int):(if(if n>(-1)then n else(-1))<1 then(if n>(-1)then n else(-1))else 1)=By n:=by
 unfold By
 split<;>split<;>(try split)<;>(try split)<;>omega
def xh:aL:=spN true true [tO,tR] (fun x=>decide (okT 15000 x.1∧ok Rat 15000 x.2.1)) (fun x=>[RV.d (.int .i64) (d9 (dec x.1) (aa x.2.1))])
theorem DE:af Tryz.prog 84=true∧ao Tryz.prog 84 xh∧∀g,xh.mut_=some g→aK Tryz.prog 84 g:=aq (by kernel_rfl) fun x h=>WM x.1 x.2.1 (of_decide_eq_true h)
def Fu:aL:=spN true true [tO,tP] (fun x=>decide (ok Ln 300 x.1∧okP 4000 x.2.1)) (fun x=>[RV.d (.int .i64) (qJ (dec x.1) (dec x.2.1))])
theorem Ss:af Tryz.prog 231=true∧ao Tryz.prog 231 Fu∧∀g,Fu.mut_=some g→aK Tryz.prog 231 g:=aq (by kernel_rfl) fun x h=>YX x.1 x.2.1 (of_decide_eq_true h)
def FX:aL:=spN true true [tO,tP] (fun x=>decide (ok Ln 300 x.1∧okP 4000 x.2.1)) (fun x=>[RV.d (.int .i64) (nR (dec x.1) (dec x.2.1))])
theorem Rg:af Tryz.prog 230=true∧ao Tryz.prog 230 FX∧∀g,FX.mut_=some g→aK Tryz.prog 230 g:=aq (by kernel_rfl) fun x h=>Zm x.1 x.2.1 (of_decide_eq_true h)
noncomputable def m9:Env:=[(146,pc),(84,xh),(271,JE),(272,I2),(232,HU),(231,Fu),(230,FX)]
theorem ld:EnvAll Tryz.prog m9:=⟨nK,DE,IM,IW,U8,Ss,Rg,trivial⟩
noncomputable def Td:Ctx:=⟨Tryz.prog,ft,tys,m9,[]⟩
noncomputable def IZ(_k:KT)(c:BCU)(p:BP):Option (List RV):=match c.1 with|true=>(match decide (ok Ln 300 c.2.2.1∧okP 4000 p)with|true=>some [RV.d .bool ((nR (dec c.2.2.1) (dec p))==0)]|false=>none)|false=>(match decide (ok Ln 300 c.2.1∧okP 4000 p)with|true=>some [RV.d .bool ((qJ (dec c.2.1) (dec p))==0)]|false=>none)
theorem acN(c:BCU)(p:BP){rX:List RV}(hX:∃nX,IZ (Td.k nX) c p=some rX):Td.Res 172 [.d tCU c,.d tP p] rX:=aO (t:=fun k=>IZ k c p) (fun k=>show go2 Tryz.prog ft tys m9 [] k 4000 (az 172 [.d tCU c,.d tP p]) (.node 0)=IZ k c p by kernel_rfl) hX
theorem X2(c:BCU)(p:BP)(h:okC 4000 c∧okP 4000 p):Con Tryz.prog 172 [.d tCU c,.d tP p] [.d .bool (uF (dC c) (dec p))]:=by
 refine Ctx.Res.con (C:=Td) (au ld) (acN _ _ ⟨0,?_⟩) (fn:=Tryz.f172) (by kernel_rfl) (by kernel_rfl)
 obtain⟨hc,hp⟩:=h
 have op:decide (okP 4000 p)=true:=decide_eq_true hp
 obtain⟨ar,li,ci,cw,fr,to⟩:=c
 obtain⟨c1,c2,_⟩:=hc
 unfold IZ
 cases ar
 ·have e:=(c2 rfl).1
  simp only[Bool.decide_and,dT e,op,Bool.and_self]
  rfl
 ·have e:=(c1 rfl).1
  simp only[Bool.decide_and,dT e,op,Bool.and_self]
  rfl
noncomputable def Re:Ctx:=⟨Tryz.prog,ft,tys,m9,[]⟩
noncomputable def Jd(_k:KT)(c:BO3)(p:BP):Option (List RV):=match decide (okP 4000 p)with|true=>(match decide (okT 15000 (hid (enc (yP (dec p))))∧ok Rat 15000 c.2.1)with|true=>(match decide ((d9 (dec (hid (enc (yP (dec p))))) (aa c.2.1))>0)with|true=>some [RV.d (.int .i64) 0]|false=>(match(d9 (dec (hid (enc (yP (dec p))))) (aa c.2.1))==0 with|true=>(match decide (okP 4000 p)with|true=>(match decide (okT 15000 (hid (enc (xP (dec p))))∧ok Rat 15000 c.1)with|true=>(match decide ((d9 (dec (hid (enc (xP (dec p))))) (aa c.1))>0)with|true=>some [RV.d (.int .i64) 0]|false=>some [RV.d (.int .i64) 1])|false=>none)|false=>none)|false=>some [RV.d (.int .i64) 1]))|false=>none)|false=>none
theorem acK(c:BO3)(p:BP){rX:List RV}(hX:∃nX,Jd (Re.k nX) c p=some rX):Re.Res 292 [.d tO c,.d tP p] rX:=aO (t:=fun k=>Jd k c p) (fun k=>show go2 Tryz.prog ft tys m9 [] k 4000 (az 292 [.d tO c,.d tP p]) (.node 0)=Jd k c p by kernel_rfl) hX
theorem Y4(c:BO3)(p:BP)(h:ok Ln 300 c∧okP 4000 p):Con Tryz.prog 292 [.d tO c,.d tP p] [.d (.int .i64) (yi (dec c) (dec p))]:=by
 refine Ctx.Res.con (C:=Re) (au ld) (acK _ _ ⟨0,?_⟩) (fn:=Tryz.f292) (by kernel_rfl) (by kernel_rfl)
 obtain⟨hc,hp⟩:=h
 obtain⟨c,rfl,bc⟩:=aS hc
 obtain⟨p,rfl,bp,rp⟩:=cC hp
 unfold Jd yi upR
 simp only[aj,ak,aF,aG,aD,aw,aC,Bool.decide_and,Bool.and_self,mx,Nat.reduceLeDiff,decide_true,cond_true,bH,bP]
 cases decide (d9 (yP p) c.2.1>0)<;>cases d9 (yP p) c.2.1==0<;>cases decide (d9 (xP p) c.1>0)<;>rfl
noncomputable def Pn:Ctx:=⟨Tryz.prog,ft,tys,m9,[]⟩
noncomputable def JV(_k:KT)(n:Int):Option (List RV):=some [RV.d (.int .i64) (if(if n>(-1)then n else(-1))<1 then(if n>(-1)then n else(-1))else 1)]
theorem aer(n:Int){rX:List RV}(hX:∃nX,JV (Pn.k nX) n=some rX):Pn.Res 275 [SI n] rX:=aO (t:=fun k=>JV k n) (fun k=>show go2 Tryz.prog ft tys m9 [] k 4000 (az 275 [SI n]) (.node 0)=JV k n by kernel_rfl) hX
theorem W6(n:Int):Con Tryz.prog 275 [.d (.int .i64) n] [.d (.int .i64) (By n)]:=by
 refine Ctx.Res.con (C:=Pn) (au ld) (aer _ ⟨0,?_⟩) (fn:=Tryz.f275) (by kernel_rfl) (by kernel_rfl)
 unfold JV
 rw[Ze]
noncomputable def Tm:Ctx:=⟨Tryz.prog,ft,tys,m9,[]⟩
noncomputable def Py(_k:KT)(c:BCU):Option (List RV):=match c.1 with|true=>some [RV.d tCU (c.1,(c.2.1,(c.2.2.1,(!c.2.2.2.1,(c.2.2.2.2.2,c.2.2.2.2.1)))))]|false=>some [RV.d tCU (c.1,(c.2.1,(c.2.2.1,(false,(c.2.2.2.2.2,c.2.2.2.2.1)))))]
theorem acl(c:BCU){rX:List RV}(hX:∃nX,Py (Tm.k nX) c=some rX):Tm.Res 273 [.d tCU c] rX:=aO (t:=fun k=>Py k c) (fun k=>show go2 Tryz.prog ft tys m9 [] k 4000 (az 273 [.d tCU c]) (.node 0)=Py k c by kernel_rfl) hX
theorem VE(c:BCU):Con Tryz.prog 273 [.d tCU c] [.d tCU (LP c)]:=by
 refine Ctx.Res.con (C:=Tm) (au ld) (acl _ ⟨0,?_⟩) (fn:=Tryz.f273) (by kernel_rfl) (by kernel_rfl)
 obtain⟨ar,li,ci,cw,fr,to⟩:=c
 cases ar<;>rfl
def Gi:aL:=spN true true [tCU,tP] (fun x=>decide (okC 4000 x.1∧okP 4000 x.2.1)) (fun x=>[RV.d .bool (uF (dC x.1) (dec x.2.1))])
theorem Sp:af Tryz.prog 172=true∧ao Tryz.prog 172 Gi∧∀g,Gi.mut_=some g→aK Tryz.prog 172 g:=aq (by kernel_rfl) fun x h=>X2 x.1 x.2.1 (of_decide_eq_true h)
def Gr:aL:=spN true true [tO,tP] (fun x=>decide (ok Ln 300 x.1∧okP 4000 x.2.1)) (fun x=>[RV.d (.int .i64) (yi (dec x.1) (dec x.2.1))])
theorem Pk:af Tryz.prog 292=true∧ao Tryz.prog 292 Gr∧∀g,Gr.mut_=some g→aK Tryz.prog 292 g:=aq (by kernel_rfl) fun x h=>Y4 x.1 x.2.1 (of_decide_eq_true h)
def Gb:aL:=spN true true [(.int .i64)] (fun _=>true) (fun x=>[RV.d (.int .i64) (By x.1)])
theorem Po:af Tryz.prog 275=true∧ao Tryz.prog 275 Gb∧∀g,Gb.mut_=some g→aK Tryz.prog 275 g:=aq (by kernel_rfl) fun x _=>W6 x.1
noncomputable def Es:aL:=spN false true [tCU] (fun _=>true) (fun x=>[RV.d tCU (hid (LP x.1))])
theorem Uh:af Tryz.prog 273=true∧ao Tryz.prog 273 Es∧∀g,Es.mut_=some g→aK Tryz.prog 273 g:=aq (by kernel_rfl) fun x _=>by simp only[aj];exact VE x.1
noncomputable def u5:Env:=(172,Gi)::(292,Gr)::(275,Gb)::(273,Es)::m9
theorem uk:EnvAll Tryz.prog u5:=⟨Sp,Pk,Po,Uh,ld⟩
noncomputable def UI:Ctx:=⟨Tryz.prog,ft,tys,u5,[]⟩
noncomputable def IU(_k:KT)(c:BO3)(p:BP)(q:BP):Option (List RV):=match decide (ok Ln 300 c∧okP 4000 p)with|true=>(match decide (ok Ln 300 c∧okP 4000 q)with|true=>(match(yi (dec c) (dec p)) !=(yi (dec c) (dec q))with|true=>some [RV.d (.int .i64) (IntKind.i64.wrap ((yi (dec c) (dec p))-(yi (dec c) (dec q))))]|false=>(match decide (okP 4000 p)with|true=>(match decide (okP 4000 q)with|true=>(match decide (okT 15000 (hid (enc (xP (dec p))))∧okT 15000 (hid (enc (xP (dec q)))))with|true=>(match(yi (dec c) (dec p))==0 with|true=>some [RV.d (.int .i64) (IntKind.i64.wrap (0-(bK (dec (hid (enc (xP (dec p))))) (dec (hid (enc (xP (dec q))))))))]|false=>some [RV.d (.int .i64) (bK (dec (hid (enc (xP (dec p))))) (dec (hid (enc (xP (dec q))))))])|false=>none)|false=>none)|false=>none))|false=>none)|false=>none
theorem adJ(c:BO3)(p:BP)(q:BP){rX:List RV}(hX:∃nX,IU (UI.k nX) c p q=some rX):UI.Res 276 [.d tO c,.d tP p,.d tP q] rX:=aO (t:=fun k=>IU k c p q) (fun k=>show go2 Tryz.prog ft tys u5 [] k 4000 (az 276 [.d tO c,.d tP p,.d tP q]) (.node 0)=IU k c p q by kernel_rfl) hX
theorem Y5(c:BO3)(p:BP)(q:BP)(h:ok Ln 300 c∧okP 4000 p∧okP 4000 q):Con Tryz.prog 276 [.d tO c,.d tP p,.d tP q] [.d (.int .i64) (pE bK (ptd (dec c) (dec p)) (ptd (dec c) (dec q)))]:=by
 refine Ctx.Res.con (C:=UI) (au uk) (adJ _ _ _ ⟨0,?_⟩) (fn:=Tryz.f276) (by kernel_rfl) (by kernel_rfl)
 obtain⟨hc,hp,hq⟩:=h
 obtain⟨c,rfl,bc⟩:=aS hc
 obtain⟨p,rfl,bp,rp⟩:=cC hp
 obtain⟨q,rfl,bq,rq⟩:=cC hq
 have xb:=qZ (xP p) (xP q)
 unfold IU
 simp only[aj,ak,okd,Bool.decide_and,Bool.and_self,mx,Nat.reduceLeDiff,decide_true,cond_true,bH,bP,bk (x:= -bK (xP p) (xP q)) (by omega) (by omega),Int.zero_sub]
 unfold pE yi ptd
 cases upR c p<;>cases upR c q<;>rfl
noncomputable def NV:Ctx:=⟨Tryz.prog,ft,tys,u5,[]⟩
noncomputable def Iy(_k:KT)(c:BCU):Option (List RV):=match c.2.2.2.1 with|true=>some [RV.d tCU (hid (LP c))]|false=>some [RV.d tCU c]
theorem acJ(c:BCU){rX:List RV}(hX:∃nX,Iy (NV.k nX) c=some rX):NV.Res 233 [.d tCU c] rX:=aO (t:=fun k=>Iy k c) (fun k=>show go2 Tryz.prog ft tys u5 [] k 4000 (az 233 [.d tCU c]) (.node 0)=Iy k c by kernel_rfl) hX
theorem WX(c:BCU):Con Tryz.prog 233 [.d tCU c] [.d tCU (lO c)]:=by
 refine Ctx.Res.con (C:=NV) (au uk) (acJ _ ⟨0,?_⟩) (fn:=Tryz.f233) (by kernel_rfl) (by kernel_rfl)
 obtain⟨ar,li,ci,cw,fr,to⟩:=c
 unfold Iy lO
 cases cw
 ·rfl
 ·simp only[aj];rfl
def E6:aL:=spN true true [tO,tP,tP] (fun x=>decide (ok Ln 300 x.1∧okP 4000 x.2.1∧okP 4000 x.2.2.1)) (fun x=>[RV.d (.int .i64) (pE bK (ptd (dec x.1) (dec x.2.1)) (ptd (dec x.1) (dec x.2.2.1)))])
theorem Um:af Tryz.prog 276=true∧ao Tryz.prog 276 E6∧∀g,E6.mut_=some g→aK Tryz.prog 276 g:=aq (by kernel_rfl) fun x h=>Y5 x.1 x.2.1 x.2.2.1 (of_decide_eq_true h)
noncomputable def EJ:aL:=spN false true [tCU] (fun _=>true) (fun x=>[RV.d tCU (hid (lO x.1))])
theorem NQ:af Tryz.prog 233=true∧ao Tryz.prog 233 EJ∧∀g,EJ.mut_=some g→aK Tryz.prog 233 g:=aq (by kernel_rfl) fun x _=>by simp only[aj];exact WX x.1
noncomputable def Kh:Env:=(276,E6)::(233,EJ)::u5
theorem DI:EnvAll Tryz.prog Kh:=⟨Um,NQ,uk⟩
noncomputable def PM:Ctx:=⟨Tryz.prog,ft,tys,Kh,[]⟩
noncomputable def Ks(_k:KT)(c:BO3)(f:BP)(p:BP):Option (List RV):=match decide (ok Ln 300 c∧okP 4000 p∧okP 4000 f)with|true=>(match(pE bK (ptd (dec c) (dec p)) (ptd (dec c) (dec f)))==0 with|true=>some [RV.d (.int .i64) 0]|false=>(match decide ((pE bK (ptd (dec c) (dec p)) (ptd (dec c) (dec f)))>0)with|true=>some [RV.d (.int .i64) 1]|false=>some [RV.d (.int .i64) 2]))|false=>none
theorem acb(c:BO3)(f:BP)(p:BP){rX:List RV}(hX:∃nX,Ks (PM.k nX) c f p=some rX):PM.Res 274 [.d tO c,.d tP f,.d tP p] rX:=aO (t:=fun k=>Ks k c f p) (fun k=>show go2 Tryz.prog ft tys Kh [] k 4000 (az 274 [.d tO c,.d tP f,.d tP p]) (.node 0)=Ks k c f p by kernel_rfl) hX
theorem WP(c:BO3)(f:BP)(p:BP)(h:ok Ln 300 c∧okP 4000 f∧okP 4000 p):Con Tryz.prog 274 [.d tO c,.d tP f,.d tP p] [.d (.int .i64) (mX bK (ptd (dec c) (dec f)) (ptd (dec c) (dec p)))]:=by
 refine Ctx.Res.con (C:=PM) (au DI) (acb _ _ _ ⟨0,?_⟩) (fn:=Tryz.f274) (by kernel_rfl) (by kernel_rfl)
 obtain⟨hc,hf,hp⟩:=h
 unfold Ks mX
 rw[dT ⟨hc,hp,hf⟩]
 dsimp only
 cases pE bK (ptd (dec c) (dec p)) (ptd (dec c) (dec f))==0<;>cases decide (pE bK (ptd (dec c) (dec p)) (ptd (dec c) (dec f))>0)<;>rfl
def HM:aL:=spN true true [tO,tP,tP] (fun x=>decide (ok Ln 300 x.1∧okP 4000 x.2.1∧okP 4000 x.2.2.1)) (fun x=>[RV.d (.int .i64) (mX bK (ptd (dec x.1) (dec x.2.1)) (ptd (dec x.1) (dec x.2.2.1)))])
theorem TW:af Tryz.prog 274=true∧ao Tryz.prog 274 HM∧∀g,HM.mut_=some g→aK Tryz.prog 274 g:=aq (by kernel_rfl) fun x h=>WP x.1 x.2.1 x.2.2.1 (of_decide_eq_true h)
noncomputable def KM:Env:=(274,HM)::Kh
theorem DP:EnvAll Tryz.prog KM:=⟨TW,DI⟩
noncomputable def TL:Ctx:=⟨Tryz.prog,ft,tys,KM,[]⟩
noncomputable def Jv(_k:KT)(c:BO3)(f:BP)(p:BP)(q:BP):Option (List RV):=match decide (ok Ln 300 c∧okP 4000 f∧okP 4000 p)with|true=>(match decide (ok Ln 300 c∧okP 4000 f∧okP 4000 q)with|true=>(match(mX bK (ptd (dec c) (dec f)) (ptd (dec c) (dec p))) !=(mX bK (ptd (dec c) (dec f)) (ptd (dec c) (dec q)))with|true=>some [RV.d (.int .i64) (By (IntKind.i64.wrap ((mX bK (ptd (dec c) (dec f)) (ptd (dec c) (dec p)))-(mX bK (ptd (dec c) (dec f)) (ptd (dec c) (dec q))))))]|false=>(match decide (ok Ln 300 c∧okP 4000 p∧okP 4000 q)with|true=>some [RV.d (.int .i64) (By (pE bK (ptd (dec c) (dec p)) (ptd (dec c) (dec q))))]|false=>none))|false=>none)|false=>none
theorem aet(c:BO3)(f:BP)(p:BP)(q:BP){rX:List RV}(hX:∃nX,Jv (TL.k nX) c f p q=some rX):TL.Res 234 [.d tO c,.d tP f,.d tP p,.d tP q] rX:=aO (t:=fun k=>Jv k c f p q) (fun k=>show go2 Tryz.prog ft tys KM [] k 4000 (az 234 [.d tO c,.d tP f,.d tP p,.d tP q]) (.node 0)=Jv k c f p q by kernel_rfl) hX
theorem Y2(c:BO3)(f:BP)(p:BP)(q:BP)(h:ok Ln 300 c∧okP 4000 f∧okP 4000 p∧okP 4000 q):Con Tryz.prog 234 [.d tO c,.d tP f,.d tP p,.d tP q] [.d (.int .i64) (OG bK (ptd (dec c) (dec f)) (ptd (dec c) (dec p)) (ptd (dec c) (dec q)))]:=by
 refine Ctx.Res.con (C:=TL) (au DP) (aet _ _ _ _ ⟨0,?_⟩) (fn:=Tryz.f234) (by kernel_rfl) (by kernel_rfl)
 obtain⟨hc,hf,hp,hq⟩:=h
 unfold Jv OG bne
 have b1:=KF (p:=ptd (dec c) (dec f)) (q:=ptd (dec c) (dec p))
 have b2:=KF (p:=ptd (dec c) (dec f)) (q:=ptd (dec c) (dec q))
 rw[dT ⟨hc,hf,hp⟩,dT ⟨hc,hf,hq⟩,dT ⟨hc,hp,hq⟩,bk (by omega) (by omega)]
 dsimp only
 cases mX bK (ptd (dec c) (dec f)) (ptd (dec c) (dec p))==mX bK (ptd (dec c) (dec f)) (ptd (dec c) (dec q))<;>rfl
def FG:aL:=spN true true [tO,tP,tP,tP] (fun x=>decide (ok Ln 300 x.1∧okP 4000 x.2.1∧okP 4000 x.2.2.1∧okP 4000 x.2.2.2.1)) (fun x=>[RV.d (.int .i64) (OG bK (ptd (dec x.1) (dec x.2.1)) (ptd (dec x.1) (dec x.2.2.1)) (ptd (dec x.1) (dec x.2.2.2.1)))])
theorem Tz:af Tryz.prog 234=true∧ao Tryz.prog 234 FG∧∀g,FG.mut_=some g→aK Tryz.prog 234 g:=aq (by kernel_rfl) fun x h=>Y2 x.1 x.2.1 x.2.2.1 x.2.2.2.1 (of_decide_eq_true h)
noncomputable def KZ:Env:=(234,FG)::KM
theorem C4:EnvAll Tryz.prog KZ:=⟨Tz,DP⟩
noncomputable def Rc:Ctx:=⟨Tryz.prog,ft,tys,KZ,[]⟩
noncomputable def JJ(_k:KT)(c:BCU)(p:BP):Option (List RV):=match !c.1 with|true=>(match decide (okP 4000 c.2.2.2.2.1∧okP 4000 p)with|true=>(match decide (okP 4000 p∧okP 4000 c.2.2.2.2.2)with|true=>(match(dS (dec c.2.2.2.2.1) (dec p))==0 with|true=>some [RV.d .bool true]|false=>(match(dS (dec p) (dec c.2.2.2.2.2))==0 with|true=>some [RV.d .bool true]|false=>some [RV.d .bool ((dS (dec c.2.2.2.2.1) (dec p))==(dS (dec p) (dec c.2.2.2.2.2)))]))|false=>none)|false=>none)|false=>(match decide (ok Ln 300 ((((hid (lO c)).2).2).1)∧okP 4000 ((((((hid (lO c)).2).2).2).2).1)∧okP 4000 p∧okP 4000 ((((((hid (lO c)).2).2).2).2).2))with|true=>some [RV.d .bool (decide ((OG bK (ptd (dec ((((hid (lO c)).2).2).1)) (dec ((((((hid (lO c)).2).2).2).2).1))) (ptd (dec ((((hid (lO c)).2).2).1)) (dec p)) (ptd (dec ((((hid (lO c)).2).2).1)) (dec ((((((hid (lO c)).2).2).2).2).2))))≤0))]|false=>none)
theorem aey(c:BCU)(p:BP){rX:List RV}(hX:∃nX,JJ (Rc.k nX) c p=some rX):Rc.Res 173 [.d tCU c,.d tP p] rX:=aO (t:=fun k=>JJ k c p) (fun k=>show go2 Tryz.prog ft tys KZ [] k 4000 (az 173 [.d tCU c,.d tP p]) (.node 0)=JJ k c p by kernel_rfl) hX
theorem Zj(c:BCU)(p:BP)(h:okC 4000 c∧okP 4000 p):Con Tryz.prog 173 [.d tCU c,.d tP p] [.d .bool (Q6 (dC c) (dec p))]:=by
 refine Ctx.Res.con (C:=Rc) (au C4) (aey _ _ ⟨0,?_⟩) (fn:=Tryz.f173) (by kernel_rfl) (by kernel_rfl)
 obtain⟨hc,hp⟩:=h
 obtain⟨ar,li,ci,cw,fr,to⟩:=c
 obtain⟨c1,c2,c3,c4⟩:=hc
 unfold JJ Q6
 simp only[aj]
 cases ar
 ·try dsimp only[Bool.not_false]
  rw[dT ⟨c3,hp⟩,dT ⟨hp,c4⟩]
  show _=some [RV.d .bool (aaj (dS (dec fr) (dec p)) (dS (dec p) (dec to)))]
  unfold aaj
  dsimp only
  cases dS (dec fr) (dec p)==0<;>cases dS (dec p) (dec to)==0<;>rfl
 ·have e:=(c1 rfl).1
  cases cw
  ·rw[dT (show ok Ln 300 (lO (true,li,ci,false,fr,to)).2.2.1∧okP 4000 (lO (true,li,ci,false,fr,to)).2.2.2.2.1∧okP 4000 p∧okP 4000 (lO (true,li,ci,false,fr,to)).2.2.2.2.2 from⟨e,c3,hp,c4⟩)]
   rfl
  ·rw[dT (show ok Ln 300 (lO (true,li,ci,true,fr,to)).2.2.1∧okP 4000 (lO (true,li,ci,true,fr,to)).2.2.2.2.1∧okP 4000 p∧okP 4000 (lO (true,li,ci,true,fr,to)).2.2.2.2.2 from⟨e,c4,hp,c3⟩)]
   rfl
def Hv:aL:=spN true true [tCU,tP] (fun x=>decide (okC 4000 x.1∧okP 4000 x.2.1)) (fun x=>[RV.d .bool (Q6 (dC x.1) (dec x.2.1))])
theorem S7:af Tryz.prog 173=true∧ao Tryz.prog 173 Hv∧∀g,Hv.mut_=some g→aK Tryz.prog 173 g:=aq (by kernel_rfl) fun x h=>Zj x.1 x.2.1 (of_decide_eq_true h)
noncomputable def OT:Env:=(173,Hv)::KZ
theorem RM:EnvAll Tryz.prog OT:=⟨S7,C4⟩
noncomputable def UZ:Ctx:=⟨Tryz.prog,ft,tys,OT,[]⟩
noncomputable def KR(_k:KT)(c:BCU)(p:BP):Option (List RV):=match decide (okC 4000 c∧okP 4000 p)with|true=>(match uF (dC c) (dec p)with|true=>(match decide (okC 4000 c∧okP 4000 p)with|true=>some [RV.d .bool (Q6 (dC c) (dec p))]|false=>none)|false=>some [RV.d .bool false])|false=>none
theorem aeC(c:BCU)(p:BP){rX:List RV}(hX:∃nX,KR (UZ.k nX) c p=some rX):UZ.Res 89 [.d tCU c,.d tP p] rX:=aO (t:=fun k=>KR k c p) (fun k=>show go2 Tryz.prog ft tys OT [] k 4000 (az 89 [.d tCU c,.d tP p]) (.node 0)=KR k c p by kernel_rfl) hX
theorem Yt(c:BCU)(p:BP)(h:okC 4000 c∧okP 4000 p):Con Tryz.prog 89 [.d tCU c,.d tP p] [.d .bool (onP (dC c) (dec p))]:=by
 refine Ctx.Res.con (C:=UZ) (au RM) (aeC _ _ ⟨0,?_⟩) (fn:=Tryz.f89) (by kernel_rfl) (by kernel_rfl)
 unfold KR onP
 rw[dT h]
 dsimp only
 cases uF (dC c) (dec p)<;>rfl
def HQ:aL:=spN true true [tCU,tP] (fun x=>decide (okC 4000 x.1∧okP 4000 x.2.1)) (fun x=>[RV.d .bool (onP (dC x.1) (dec x.2.1))])
theorem UX:af Tryz.prog 89=true∧ao Tryz.prog 89 HQ∧∀g,HQ.mut_=some g→aK Tryz.prog 89 g:=aq (by kernel_rfl) fun x h=>Yt x.1 x.2.1 (of_decide_eq_true h)
end Go.Proofs.YtlahabkjhgkkjaaGreat
