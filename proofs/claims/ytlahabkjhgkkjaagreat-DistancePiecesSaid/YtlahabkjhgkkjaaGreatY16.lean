/- Curves: the program's On. -/
import Derived.Test.YtlahabkjhgkkjaaGreatY15
import Derived.Test.YtlahabkjhgkkjaaGreatY12
noncomputable section
namespace Go.Proofs.YtlahabkjhgkkjaaGreat
open Go.RowKit Go.IntKind
theorem avo:type_of% @List.mem_cons_of_mem:=@List.mem_cons_of_mem
theorem aej(n:Int):(if(if n>(-1)then n else(-1))<1 then(if n>(-1)then n else(-1))else 1)=jK n:=by
 unfold jK
 split<;>split<;>(try split)<;>(try split)<;>omega
def Hj:aO:=spN true true [tO,tR] (fun x=>decide (okT 15000 x.1∧ok Rat 15000 x.2.1)) (fun x=>[RV.d ax8 (fh (dec x.1) (ae x.2.1))])
theorem EP:SpK 84 Hj:=spX fun x h=>aaK x.1 x.2.1 (au0 h)
def Yj:aO:=spN true true [tO,tP] (fun x=>decide (ok Ln 300 x.1∧okP 4000 x.2.1)) (fun x=>[RV.d ax8 (mh (dec x.1) (dec x.2.1))])
theorem QK:SpK 231 Yj:=spX fun x h=>abI x.1 x.2.1 (au0 h)
def VR:aO:=spN true true [tO,tP] (fun x=>decide (ok Ln 300 x.1∧okP 4000 x.2.1)) (fun x=>[RV.d ax8 (lm (dec x.1) (dec x.2.1))])
theorem Xa:SpK 230 VR:=spX fun x h=>Z7 x.1 x.2.1 (au0 h)
def Ae:Env:=[(146,xR),(84,Hj),(271,UF),(272,R9),(232,WH),(231,Yj),(230,VR)]
theorem nH:EnvAll Tryz.prog Ae:=⟨rB,EP,JP,K9,Y0,QK,Xa,trivial⟩
def arD:Ctx:=CX Ae []
def ahd(c:BCU)(p:BP)(_k:KT):Option (List RV):=match c.1 with|true=>(match decide (ok Ln 300 c.2.2.1∧okP 4000 p)with|true=>some [RV.d .bool ((lm (dec c.2.2.1) (dec p))==0)]|false=>none)|false=>(match decide (ok Ln 300 c.2.1∧okP 4000 p)with|true=>some [RV.d .bool ((mh (dec c.2.1) (dec p))==0)]|false=>none)
theorem arJ(c:BCU)(p:BP):RS arD 172 [.d tCU c,.d tP p] (ahd c p):=rsX
theorem acN(c:BCU)(p:BP)(h:okC 4000 c∧okP 4000 p):Con Tryz.prog 172 [.d tCU c,.d tP p] [.d .bool (gn (dC c) (dec p))]:=by
 refine aR nH (arJ _ _ ⟨0,?_⟩)
 obtain⟨hc,hp⟩:=h
 have op:decide (okP 4000 p)=true:=au1 hp
 obtain⟨ar,li,ci,cw,fr,to⟩:=c
 obtain⟨c1,c2,_⟩:=hc
 unfold ahd
 cases ar
 ·have e:=(c2 rfl).1
  simp only[au4,dT e,op,au6]
  rfl
 ·have e:=(c1 rfl).1
  simp only[au4,dT e,op,au6]
  rfl
def aoQ:Ctx:=CX Ae []
def agq(c:BO3)(p:BP)(_k:KT):Option (List RV):=match decide (okP 4000 p)with|true=>(match decide (okT 15000 (hid (enc (yP (dec p))))∧ok Rat 15000 c.2.1)with|true=>(match decide ((fh (dec (hid (enc (yP (dec p))))) (ae c.2.1))>0)with|true=>some [RV.d ax8 0]|false=>(match(fh (dec (hid (enc (yP (dec p))))) (ae c.2.1))==0 with|true=>(match decide (okP 4000 p)with|true=>(match decide (okT 15000 (hid (enc (xP (dec p))))∧ok Rat 15000 c.1)with|true=>(match decide ((fh (dec (hid (enc (xP (dec p))))) (ae c.1))>0)with|true=>some [RV.d ax8 0]|false=>some [RV.d ax8 1])|false=>none)|false=>none)|false=>some [RV.d ax8 1]))|false=>none)|false=>none
theorem aon(c:BO3)(p:BP):RS aoQ 292 [.d tO c,.d tP p] (agq c p):=rsX
theorem adB(c:BO3)(p:BP)(h:ok Ln 300 c∧okP 4000 p):Con Tryz.prog 292 [.d tO c,.d tP p] [.d ax8 (BT (dec c) (dec p))]:=by
 refine aR nH (aon _ _ ⟨0,?_⟩)
 obtain⟨hc,hp⟩:=h
 obtain⟨c,rfl,bc⟩:=aU hc
 obtain⟨p,rfl,bp,rp⟩:=cO hp
 unfold agq BT upR
 simp only[ak,am,aI,aJ,aG,az,aH,au4,au6,mx,Nat.reduceLeDiff,ave,cond_true,bh,bH]
 cases decide (fh (yP p) c.2.1>0)<;>cases fh (yP p) c.2.1==0<;>cases decide (fh (xP p) c.1>0)<;>rfl
def apH:Ctx:=CX Ae []
def aeP(n:Int)(_k:KT):Option (List RV):=some [RV.d ax8 (if(if n>(-1)then n else(-1))<1 then(if n>(-1)then n else(-1))else 1)]
theorem asr(n:Int):RS apH 275 [SI n] (aeP n):=rsX
theorem acA(n:Int):Con Tryz.prog 275 [.d ax8 n] [.d ax8 (jK n)]:=by
 refine aR nH (asr _ ⟨0,?_⟩)
 unfold aeP
 rw[aej]
def aou:Ctx:=CX Ae []
def as1(c:BCU)(_k:KT):Option (List RV):=match c.1 with|true=>some [RV.d tCU (c.1,(c.2.1,(c.2.2.1,(!c.2.2.2.1,(c.2.2.2.2.2,c.2.2.2.2.1)))))]|false=>some [RV.d tCU (c.1,(c.2.1,(c.2.2.1,(false,(c.2.2.2.2.2,c.2.2.2.2.1)))))]
theorem asS(c:BCU):RS aou 273 [.d tCU c] (as1 c):=rsX
theorem abw(c:BCU):Con Tryz.prog 273 [.d tCU c] [.d tCU (iK c)]:=by
 refine aR nH (asS _ ⟨0,?_⟩)
 obtain⟨ar,li,ci,cw,fr,to⟩:=c
 cases ar<;>rfl
def Ql:aO:=spN true true [tCU,tP] (fun x=>decide (okC 4000 x.1∧okP 4000 x.2.1)) (fun x=>[RV.d .bool (gn (dC x.1) (dec x.2.1))])
theorem U1:SpK 172 Ql:=spX fun x h=>acN x.1 x.2.1 (au0 h)
def X5:aO:=spN true true [tO,tP] (fun x=>decide (ok Ln 300 x.1∧okP 4000 x.2.1)) (fun x=>[RV.d ax8 (BT (dec x.1) (dec x.2.1))])
theorem YP:SpK 292 X5:=spX fun x h=>adB x.1 x.2.1 (au0 h)
def W1:aO:=spN true true [ax8] (fun _=>true) (fun x=>[RV.d ax8 (jK x.1)])
theorem Qh:SpK 275 W1:=spX fun x _=>acA x.1
def WW:aO:=spN false true [tCU] (fun _=>true) (fun x=>[RV.d tCU (hid (iK x.1))])
theorem Yu:SpK 273 WW:=spX fun x _=>by simp only[ak];exact abw x.1
def LI:Env:=(172,Ql)::(292,X5)::(275,W1)::(273,WW)::Ae
theorem wy:EnvAll Tryz.prog LI:=⟨U1,YP,Qh,Yu,nH⟩
def anF:Ctx:=CX LI []
def ag0(c:BO3)(p q:BP)(_k:KT):Option (List RV):=match decide (ok Ln 300 c∧okP 4000 p)with|true=>(match decide (ok Ln 300 c∧okP 4000 q)with|true=>(match(BT (dec c) (dec p)) !=(BT (dec c) (dec q))with|true=>some [RV.d ax8 (i64.wrap ((BT (dec c) (dec p))-(BT (dec c) (dec q))))]|false=>(match decide (okP 4000 p)with|true=>(match decide (okP 4000 q)with|true=>(match decide (okT 15000 (hid (enc (xP (dec p))))∧okT 15000 (hid (enc (xP (dec q)))))with|true=>(match(BT (dec c) (dec p))==0 with|true=>some [RV.d ax8 (i64.wrap (0-(bI (dec (hid (enc (xP (dec p))))) (dec (hid (enc (xP (dec q))))))))]|false=>some [RV.d ax8 (bI (dec (hid (enc (xP (dec p))))) (dec (hid (enc (xP (dec q))))))])|false=>none)|false=>none)|false=>none))|false=>none)|false=>none
theorem anK(c:BO3)(p q:BP):RS anF 276 [.d tO c,.d tP p,.d tP q] (ag0 c p q):=rsX
theorem ad9(c:BO3)(p q:BP)(h:ok Ln 300 c∧okP 4000 p∧okP 4000 q):Con Tryz.prog 276 [.d tO c,.d tP p,.d tP q] [.d ax8 (pj bI (ptd (dec c) (dec p)) (ptd (dec c) (dec q)))]:=by
 refine aR wy (anK _ _ _ ⟨0,?_⟩)
 obtain⟨hc,hp,hq⟩:=h
 obtain⟨c,rfl,bc⟩:=aU hc
 obtain⟨p,rfl,bp,rp⟩:=cO hp
 obtain⟨q,rfl,bq,rq⟩:=cO hq
 have xb:=uT (xP p) (xP q)
 unfold ag0
 simp only[ak,am,okd,au4,au6,mx,Nat.reduceLeDiff,ave,cond_true,bh,bH,bi (x:= -bI (xP p) (xP q)) (by omega) (by omega),aw3]
 unfold pj BT ptd
 cases upR c p<;>cases upR c q<;>rfl
def as2:Ctx:=CX LI []
def aff(c:BCU)(_k:KT):Option (List RV):=match c.2.2.2.1 with|true=>some [RV.d tCU (hid (iK c))]|false=>some [RV.d tCU c]
theorem aqB(c:BCU):RS as2 233 [.d tCU c] (aff c):=rsX
theorem ad4(c:BCU):Con Tryz.prog 233 [.d tCU c] [.d tCU (mH c)]:=by
 refine aR wy (aqB _ ⟨0,?_⟩)
 obtain⟨ar,li,ci,cw,fr,to⟩:=c
 unfold aff mH
 cases cw
 ·rfl
 ·simp only[ak];rfl
def QP:aO:=spN true true [tO,tP,tP] (fun x=>decide (ok Ln 300 x.1∧okP 4000 x.2.1∧okP 4000 x.2.2.1)) (fun x=>[RV.d ax8 (pj bI (ptd (dec x.1) (dec x.2.1)) (ptd (dec x.1) (dec x.2.2.1)))])
theorem P6:SpK 276 QP:=spX fun x h=>ad9 x.1 x.2.1 x.2.2.1 (au0 h)
def Za:aO:=spN false true [tCU] (fun _=>true) (fun x=>[RV.d tCU (hid (mH x.1))])
theorem Vt:SpK 233 Za:=spX fun x _=>by simp only[ak];exact ad4 x.1
def SP:Env:=(276,QP)::(233,Za)::LI
theorem DP:EnvAll Tryz.prog SP:=⟨P6,Vt,wy⟩
def atm:Ctx:=CX SP []
def afM(c:BO3)(f p:BP)(_k:KT):Option (List RV):=match decide (ok Ln 300 c∧okP 4000 p∧okP 4000 f)with|true=>(match(pj bI (ptd (dec c) (dec p)) (ptd (dec c) (dec f)))==0 with|true=>some [RV.d ax8 0]|false=>(match decide ((pj bI (ptd (dec c) (dec p)) (ptd (dec c) (dec f)))>0)with|true=>some [RV.d ax8 1]|false=>some [RV.d ax8 2]))|false=>none
theorem asd(c:BO3)(f p:BP):RS atm 274 [.d tO c,.d tP f,.d tP p] (afM c f p):=rsX
theorem aaA(c:BO3)(f p:BP)(h:ok Ln 300 c∧okP 4000 f∧okP 4000 p):Con Tryz.prog 274 [.d tO c,.d tP f,.d tP p] [.d ax8 (mD bI (ptd (dec c) (dec f)) (ptd (dec c) (dec p)))]:=by
 refine aR DP (asd _ _ _ ⟨0,?_⟩)
 obtain⟨hc,hf,hp⟩:=h
 unfold afM mD
 rw[dT ⟨hc,hp,hf⟩]
 dsimp only
 cases pj bI (ptd (dec c) (dec p)) (ptd (dec c) (dec f))==0<;>cases decide (pj bI (ptd (dec c) (dec p)) (ptd (dec c) (dec f))>0)<;>rfl
def Rw:aO:=spN true true [tO,tP,tP] (fun x=>decide (ok Ln 300 x.1∧okP 4000 x.2.1∧okP 4000 x.2.2.1)) (fun x=>[RV.d ax8 (mD bI (ptd (dec x.1) (dec x.2.1)) (ptd (dec x.1) (dec x.2.2.1)))])
theorem Uw:SpK 274 Rw:=spX fun x h=>aaA x.1 x.2.1 x.2.2.1 (au0 h)
def Vs:Env:=(274,Rw)::SP
theorem F6:EnvAll Tryz.prog Vs:=⟨Uw,DP⟩
def arr:Ctx:=CX Vs []
def afk(c:BO3)(f p q:BP)(_k:KT):Option (List RV):=match decide (ok Ln 300 c∧okP 4000 f∧okP 4000 p)with|true=>(match decide (ok Ln 300 c∧okP 4000 f∧okP 4000 q)with|true=>(match(mD bI (ptd (dec c) (dec f)) (ptd (dec c) (dec p))) !=(mD bI (ptd (dec c) (dec f)) (ptd (dec c) (dec q)))with|true=>some [RV.d ax8 (jK (i64.wrap ((mD bI (ptd (dec c) (dec f)) (ptd (dec c) (dec p)))-(mD bI (ptd (dec c) (dec f)) (ptd (dec c) (dec q))))))]|false=>(match decide (ok Ln 300 c∧okP 4000 p∧okP 4000 q)with|true=>some [RV.d ax8 (jK (pj bI (ptd (dec c) (dec p)) (ptd (dec c) (dec q))))]|false=>none))|false=>none)|false=>none
theorem ank(c:BO3)(f p q:BP):RS arr 234 [.d tO c,.d tP f,.d tP p,.d tP q] (afk c f p q):=rsX
theorem aeh(c:BO3)(f p q:BP)(h:ok Ln 300 c∧okP 4000 f∧okP 4000 p∧okP 4000 q):Con Tryz.prog 234 [.d tO c,.d tP f,.d tP p,.d tP q] [.d ax8 (pq bI (ptd (dec c) (dec f)) (ptd (dec c) (dec p)) (ptd (dec c) (dec q)))]:=by
 refine aR F6 (ank _ _ _ _ ⟨0,?_⟩)
 obtain⟨hc,hf,hp,hq⟩:=h
 unfold afk pq bne
 have b1:=JO (p:=ptd (dec c) (dec f)) (q:=ptd (dec c) (dec p))
 have b2:=JO (p:=ptd (dec c) (dec f)) (q:=ptd (dec c) (dec q))
 rw[dT ⟨hc,hf,hp⟩,dT ⟨hc,hf,hq⟩,dT ⟨hc,hp,hq⟩,bi (by omega) (by omega)]
 dsimp only
 cases mD bI (ptd (dec c) (dec f)) (ptd (dec c) (dec p))==mD bI (ptd (dec c) (dec f)) (ptd (dec c) (dec q))<;>rfl
def P3:aO:=spN true true [tO,tP,tP,tP] (fun x=>decide (ok Ln 300 x.1∧okP 4000 x.2.1∧okP 4000 x.2.2.1∧okP 4000 x.2.2.2.1)) (fun x=>[RV.d ax8 (pq bI (ptd (dec x.1) (dec x.2.1)) (ptd (dec x.1) (dec x.2.2.1)) (ptd (dec x.1) (dec x.2.2.2.1)))])
theorem Ys:SpK 234 P3:=spX fun x h=>aeh x.1 x.2.1 x.2.2.1 x.2.2.2.1 (au0 h)
def QW:Env:=(234,P3)::Vs
theorem Gr:EnvAll Tryz.prog QW:=⟨Ys,F6⟩
def arf:Ctx:=CX QW []
def ag3(c:BCU)(p:BP)(_k:KT):Option (List RV):=match !c.1 with|true=>(match decide (okP 4000 c.2.2.2.2.1∧okP 4000 p)with|true=>(match decide (okP 4000 p∧okP 4000 c.2.2.2.2.2)with|true=>(match(b9 (dec c.2.2.2.2.1) (dec p))==0 with|true=>some [RV.d .bool true]|false=>(match(b9 (dec p) (dec c.2.2.2.2.2))==0 with|true=>some [RV.d .bool true]|false=>some [RV.d .bool ((b9 (dec c.2.2.2.2.1) (dec p))==(b9 (dec p) (dec c.2.2.2.2.2)))]))|false=>none)|false=>none)|false=>(match decide (ok Ln 300 ((((hid (mH c)).2).2).1)∧okP 4000 ((((((hid (mH c)).2).2).2).2).1)∧okP 4000 p∧okP 4000 ((((((hid (mH c)).2).2).2).2).2))with|true=>some [RV.d .bool (decide ((pq bI (ptd (dec ((((hid (mH c)).2).2).1)) (dec ((((((hid (mH c)).2).2).2).2).1))) (ptd (dec ((((hid (mH c)).2).2).1)) (dec p)) (ptd (dec ((((hid (mH c)).2).2).1)) (dec ((((((hid (mH c)).2).2).2).2).2))))≤0))]|false=>none)
theorem aoa(c:BCU)(p:BP):RS arf 173 [.d tCU c,.d tP p] (ag3 c p):=rsX
theorem aaq(c:BCU)(p:BP)(h:okC 4000 c∧okP 4000 p):Con Tryz.prog 173 [.d tCU c,.d tP p] [.d .bool (ME (dC c) (dec p))]:=by
 refine aR Gr (aoa _ _ ⟨0,?_⟩)
 obtain⟨hc,hp⟩:=h
 obtain⟨ar,li,ci,cw,fr,to⟩:=c
 obtain⟨c1,c2,c3,c4⟩:=hc
 unfold ag3 ME
 simp only[ak]
 cases ar
 ·try dsimp only[Bool.not_false]
  rw[dT ⟨c3,hp⟩,dT ⟨hp,c4⟩]
  show _=some [RV.d .bool (qs (b9 (dec fr) (dec p)) (b9 (dec p) (dec to)))]
  unfold qs
  dsimp only
  cases b9 (dec fr) (dec p)==0<;>cases b9 (dec p) (dec to)==0<;>rfl
 ·have e:=(c1 rfl).1
  cases cw
  ·rw[dT (show ok Ln 300 (mH (true,li,ci,false,fr,to)).2.2.1∧okP 4000 (mH (true,li,ci,false,fr,to)).2.2.2.2.1∧okP 4000 p∧okP 4000 (mH (true,li,ci,false,fr,to)).2.2.2.2.2 from⟨e,c3,hp,c4⟩)]
   rfl
  ·rw[dT (show ok Ln 300 (mH (true,li,ci,true,fr,to)).2.2.1∧okP 4000 (mH (true,li,ci,true,fr,to)).2.2.2.2.1∧okP 4000 p∧okP 4000 (mH (true,li,ci,true,fr,to)).2.2.2.2.2 from⟨e,c4,hp,c3⟩)]
   rfl
def Vh:aO:=spN true true [tCU,tP] (fun x=>decide (okC 4000 x.1∧okP 4000 x.2.1)) (fun x=>[RV.d .bool (ME (dC x.1) (dec x.2.1))])
theorem Tl:SpK 173 Vh:=spX fun x h=>aaq x.1 x.2.1 (au0 h)
def agP:Env:=(173,Vh)::QW
theorem YY:EnvAll Tryz.prog agP:=⟨Tl,Gr⟩
def aqQ:Ctx:=CX agP []
def ahF(c:BCU)(p:BP)(_k:KT):Option (List RV):=match decide (okC 4000 c∧okP 4000 p)with|true=>(match gn (dC c) (dec p)with|true=>(match decide (okC 4000 c∧okP 4000 p)with|true=>some [RV.d .bool (ME (dC c) (dec p))]|false=>none)|false=>some [RV.d .bool false])|false=>none
theorem aqZ(c:BCU)(p:BP):RS aqQ 89 [.d tCU c,.d tP p] (ahF c p):=rsX
theorem aea(c:BCU)(p:BP)(h:okC 4000 c∧okP 4000 p):Con Tryz.prog 89 [.d tCU c,.d tP p] [.d .bool (onP (dC c) (dec p))]:=by
 refine aR YY (aqZ _ _ ⟨0,?_⟩)
 unfold ahF onP
 rw[dT h]
 dsimp only
 cases gn (dC c) (dec p)<;>rfl
def SY:aO:=spN true true [tCU,tP] (fun x=>decide (okC 4000 x.1∧okP 4000 x.2.1)) (fun x=>[RV.d .bool (onP (dC x.1) (dec x.2.1))])
theorem Wl:SpK 89 SY:=spX fun x h=>aea x.1 x.2.1 (au0 h)
theorem dk{j k:Nat}{x:BP}(h:okP j x)(hj:j≤k)(hk:k≤480000):okP k x:=by
 obtain⟨p,rfl,bp,rp⟩:=cO h
 exact au0 (bH hj hk)
theorem dK{j k:Nat}{c:BCU}(h:okC j c)(hj:j≤k)(hk:k≤480000):okC k c:=⟨h.1,h.2.1,dk h.2.2.1 hj hk,dk h.2.2.2 hj hk⟩
theorem dO{c:BCU}(hc:okC 500 c){v:Rat×Rat}[bv:Bd v 200]:Bd (cd (dC c) v) 15000∧Rdd (cd (dC c) v):=by
 obtain⟨ar,li,ci,cw,fr,to⟩:=c
 have h3:=hc.2.2.1
 have h4:=hc.2.2.2
 simp only at h3 h4
 obtain⟨fr,rfl,bf,rf⟩:=cO h3
 obtain⟨to,rfl,bt,rt⟩:=cO h4
 have he:Bd (kq (sqP fr v) (sqP to v)) 15000:=(inferInstance:Bd (kq (sqP fr v) (sqP to v)) _).mono (by decide)
 cases ar
 ·obtain⟨c2,c3⟩:=hc.2.1 rfl
  simp only at c2 c3
  obtain⟨li,rfl,bl⟩:=aU c2
  unfold cd yk
  simp only[dC,lnC,frC,toC,am,cond_false]
  cases pe (false,li,dec ci,cw,fr,to) (atP v)
  ·exact⟨he,Ip⟩
  ·exact⟨(inferInstance:Bd ((cg (eG v (c8 li v)) (eG v (c8 li v)),0,0):Rt) _).mono (by decide),ak3⟩
 ·obtain⟨c1,hq⟩:=hc.1 rfl
  simp only at c1 hq
  obtain⟨ci,rfl,bc⟩:=aU c1
  rw[am]at hq
  have hC:Cir ci:=⟨hq⟩
  unfold cd yk
  simp only[dC,lnC,frC,toC,ciC,bK,am,cond_true]
  cases jj (true,dec li,ci,cw,fr,to) (eG (ctr ci) v)
  ·exact⟨he,Ip⟩
  ·have b2:Bd (-2:Rat) 3:=fa (n:= -2) (by decide)
   exact⟨(inferInstance:Bd (mkR (cg (eG (ctr ci) v) (eG (ctr ci) v)+ci.2.2) (-2) (cg (eG (ctr ci) v) (eG (ctr ci) v)*ci.2.2)) _).mono (by decide),Gj⟩
def ah3:Env:=[(112,C0)]
theorem SF:EnvAll Tryz.prog ah3:=⟨xT,trivial⟩
def aqj:Ctx:=CX ah3 []
def aeW(a b:BV)(_k:KT):Option (List RV):=match decide (okR b.1∧okR a.1)with|true=>(match decide (okR b.2∧okR a.2)with|true=>some [RV.d tV (hid (ai (ae b.1-ae a.1)),hid (ai (ae b.2-ae a.2)))]|false=>none)|false=>none
theorem asF(a b:BV):RS aqj 69 [.d tV a,.d tV b] (aeW a b):=rsX
theorem abz(a b:BV)(h:ok (Rat×Rat) 10000 a∧ok (Rat×Rat) 10000 b):Con Tryz.prog 69 [.d tV a,.d tV b] [.d tV (enc (eG (dec a) (dec b)))]:=by
 refine aR SF (asF _ _ ⟨0,?_⟩)
 obtain⟨ha,hb⟩:=h
 obtain⟨a,rfl,ba⟩:=aU ha
 obtain⟨b,rfl,bb⟩:=aU hb
 unfold aeW
 simp only[ak,am,aI,aJ,aG,az,aX,au4,au6,Nat.reduceLeDiff]
 try rfl
def RP:aO:=spN false true [tR,tR,tR] (fun x=>decide (ok Rat 100000 x.1∧ok Rat 100000 x.2.1∧ok Rat 100000 x.2.2.1∧0≤ae x.2.2.1)) (fun x=>[RV.d tO (hid (enc (mkR (ae x.1) (ae x.2.1) (ae x.2.2.1)))),RV.d ax8 0])
theorem Qf:SpK 158 RP:=spX fun x h=>by simp only[ak];exact abH x.1 x.2.1 x.2.2.1 (au0 h)
def WL:aO:=spN false true [tO,tV] (fun x=>decide (ok Ln 300 x.1∧ok (Rat×Rat) 200 x.2.1∧((dec x.1:Ln).1≠0∨(dec x.1:Ln).2.1≠0))) (fun x=>[RV.d tV (hid (enc (c8 (dec x.1) (dec x.2.1))))])
theorem Xg:SpK 70 WL:=spX fun x h=>by simp only[ak];exact aa6 x.1 x.2.1 (au0 h)
def RW:aO:=spN false true [tV,tV] (fun x=>decide (ok (Rat×Rat) 10000 x.1∧ok (Rat×Rat) 10000 x.2.1)) (fun x=>[RV.d tV (hid (enc (eG (dec x.1) (dec x.2.1))))])
theorem Zs:SpK 69 RW:=spX fun x h=>by simp only[ak];exact abz x.1 x.2.1 (au0 h)
def Ee:Env:=[(83,jr),(202,p7),(76,jw),(148,ju),(170,Bc),(149,lE),(147,kr),(158,RP),(71,tY),(68,Hz),(88,Ph),(66,OW),(89,SY),(70,WL),(146,xR),(84,Hj),(75,Ih),(112,C0),(77,GM),(69,RW),(72,P8),(87,GW)]
theorem rN:EnvAll Tryz.prog Ee:=⟨fL,kZ,fM,fO,w7,io,gD,Qf,nq,Ff,SU,RQ,Wl,Xg,rB,EP,D9,xT,Ez,Zs,SX,DR,trivial⟩
def apA:Ctx:=CX Ee []
def ahB(a b c:BR)(_k:KT):Option (List RV):=match decide (ok Rat 100000 a∧ok Rat 100000 b∧ok Rat 100000 c∧0≤ae c)with|true=>(match 0 !=0 with|true=>(match decide (okR a)with|true=>some [RV.d tO (hid (enc ((ae a,0,0):Rt)))]|false=>none)|false=>some [RV.d tO (hid (enc (mkR (ae a) (ae b) (ae c))))])|false=>none
theorem asK(a b c:BR):RS apA 74 [.d tR a,.d tR b,.d tR c] (ahB a b c):=rsX
theorem abN(a b c:BR)(h:ok Rat 100000 a∧ok Rat 100000 b∧ok Rat 100000 c∧0≤ae c):Con Tryz.prog 74 [.d tR a,.d tR b,.d tR c] [.d tO (enc (mkR (ae a) (ae b) (ae c)))]:=by
 refine aR rN (asK _ _ _ ⟨0,?_⟩)
 obtain⟨ha,hb,hc,hn⟩:=h
 unfold ahB
 rw[dT ⟨ha,hb,hc,hn⟩]
 simp only[ak]
 rfl
def apL:Ctx:=CX Ee []
def ahf(v:BV)(_k:KT):Option (List RV):=match decide (okR v.1)with|true=>(match(aV (ae v.1) 0)==0 with|true=>(match decide (okR v.2)with|true=>some [RV.d .bool ((aV (ae v.2) 0)==0)]|false=>none)|false=>some [RV.d .bool false])|false=>none
theorem apG(v:BV):RS apL 86 [.d tV v] (ahf v):=rsX
theorem aav(v:BV)(h:ok (Rat×Rat) 100000 v):Con Tryz.prog 86 [.d tV v] [.d .bool (zeV (dec v))]:=by
 refine aR rN (apG _ ⟨0,?_⟩)
 have hv:=h
 obtain⟨v,rfl,bv⟩:=aU hv
 unfold ahf
 simp only[am,aI,aJ,aG,az,aX,Nat.reduceLeDiff,aM]
 unfold zeV
 cases decide (v.1=0)<;>rfl
def anU:Ctx:=CX Ee []
def asN(c:BCU)(_k:KT):Option (List RV):=some [RV.d tV (c.2.2.1.1,c.2.2.1.2.1)]
theorem aqS(c:BCU):RS anU 73 [.d tCU c] (asN c):=rsX
theorem adq(c:BCU):Con Tryz.prog 73 [.d tCU c] [.d tV (c.2.2.1.1,c.2.2.1.2.1)]:=by
 exact aR rN (aqS _ ⟨0,rfl⟩)
def Pg:aO:=spN false true [tR,tR,tR] (fun x=>decide (ok Rat 100000 x.1∧ok Rat 100000 x.2.1∧ok Rat 100000 x.2.2.1∧0≤ae x.2.2.1)) (fun x=>[RV.d tO (hid (enc (mkR (ae x.1) (ae x.2.1) (ae x.2.2.1))))])
theorem WE:SpK 74 Pg:=spX fun x h=>by simp only[ak];exact abN x.1 x.2.1 x.2.2.1 (au0 h)
def WA:aO:=spN true true [tV] (fun x=>decide (ok (Rat×Rat) 100000 x.1)) (fun x=>[RV.d .bool (zeV (dec x.1))])
theorem Tn:SpK 86 WA:=spX fun x h=>aav x.1 (au0 h)
def S2:aO:=spN false true [tCU] (fun _=>true) (fun x=>[RV.d tV (hid ((x.1.2.2.1.1,x.1.2.2.1.2.1)))])
theorem WK:SpK 73 S2:=spX fun x _=>by simp only[ak];exact adq x.1
def KX:Env:=(74,Pg)::(86,WA)::(73,S2)::Ee
theorem wM:EnvAll Tryz.prog KX:=⟨WE,Tn,WK,rN⟩
def apg:Ctx:=CX KX []
def aeV(l:BO3)(p:BP)(_k:KT):Option (List RV):=match decide (okR l.2.1)with|true=>(match decide (okR (hid (ai (-ae l.2.1)))∧okR p.1)with|true=>(match decide (okR l.1∧okR p.2.2.1)with|true=>(match decide (okR (hid (ai (ae (hid (ai (-ae l.2.1)))*ae p.1)))∧okR (hid (ai (ae l.1*ae p.2.2.1))))with|true=>(match decide (okR (hid (ai (-ae l.2.1)))∧okR p.2.1)with|true=>(match decide (okR l.1∧okR p.2.2.2.1)with|true=>(match decide (okR (hid (ai (ae (hid (ai (-ae l.2.1)))*ae p.2.1)))∧okR (hid (ai (ae l.1*ae p.2.2.2.1))))with|true=>(match decide (ok Rat 100000 (hid (ai (ae (hid (ai (ae (hid (ai (-ae l.2.1)))*ae p.1)))+ae (hid (ai (ae l.1*ae p.2.2.1))))))∧ok Rat 100000 (hid (ai (ae (hid (ai (ae (hid (ai (-ae l.2.1)))*ae p.2.1)))+ae (hid (ai (ae l.1*ae p.2.2.2.1))))))∧ok Rat 100000 p.2.2.2.2∧0≤ae p.2.2.2.2)with|true=>some [RV.d tO (hid (enc (mkR (ae (hid (ai (ae (hid (ai (ae (hid (ai (-ae l.2.1)))*ae p.1)))+ae (hid (ai (ae l.1*ae p.2.2.1))))))) (ae (hid (ai (ae (hid (ai (ae (hid (ai (-ae l.2.1)))*ae p.2.1)))+ae (hid (ai (ae l.1*ae p.2.2.2.1))))))) (ae p.2.2.2.2))))]|false=>none)|false=>none)|false=>none)|false=>none)|false=>none)|false=>none)|false=>none)|false=>none
theorem ass(l:BO3)(p:BP):RS apg 151 [.d tO l,.d tP p] (aeV l p):=rsX
theorem aen(l:BO3)(p:BP)(h:ok Ln 300 l∧okP 4000 p):Con Tryz.prog 151 [.d tO l,.d tP p] [.d tO (enc (eh (dec l) (dec p)))]:=by
 refine aR wM (ass _ _ ⟨0,?_⟩)
 obtain⟨hl,hp⟩:=h
 obtain⟨l,rfl,bl⟩:=aU hl
 obtain⟨p,rfl,bp,rp⟩:=cO hp
 have hn:0≤p.2.2.2.2:=rp.nn
 unfold aeV
 simp only[ak,am,aI,aJ,aG,az,aH,aX,au4,au6,Nat.reduceAdd,Nat.reduceLeDiff,dT hn]
 rfl
def aoC:Ctx:=CX KX []
def afV(a b:BO3)(_k:KT):Option (List RV):=match decide (okT 15000 b∧okT 15000 a)with|true=>(match decide ((bI (dec b) (dec a))<0)with|true=>some [RV.d tO b]|false=>some [RV.d tO a])|false=>none
theorem anl(a b:BO3):RS aoC 65 [.d tO a,.d tO b] (afV a b):=rsX
theorem abi(a b:BO3)(h:okT 15000 a∧okT 15000 b):Con Tryz.prog 65 [.d tO a,.d tO b] [.d tO (enc (kq (dec a) (dec b)))]:=by
 refine aR wM (anl _ _ ⟨0,?_⟩)
 obtain⟨ha,hb⟩:=h
 obtain⟨a,rfl,ba,ra⟩:=fK ha
 obtain⟨b,rfl,bb,rb⟩:=fK hb
 unfold afV kq
 simp only[am,au4,au6,Nat.reduceLeDiff,bh]
 cases decide (bI b a<0)<;>rfl
def PZ:aO:=spN false true [tO,tP] (fun x=>decide (ok Ln 300 x.1∧okP 4000 x.2.1)) (fun x=>[RV.d tO (hid (enc (eh (dec x.1) (dec x.2.1))))])
theorem Xy:SpK 151 PZ:=spX fun x h=>by simp only[ak];exact aen x.1 x.2.1 (au0 h)
def Hn:aO:=spN false true [tO,tO] (fun x=>decide (okT 15000 x.1∧okT 15000 x.2.1)) (fun x=>[RV.d tO (hid (enc (kq (dec x.1) (dec x.2.1))))])
theorem DB:SpK 65 Hn:=spX fun x h=>by simp only[ak];exact abi x.1 x.2.1 (au0 h)
def Kg:Env:=(151,PZ)::(65,Hn)::KX
theorem vO:EnvAll Tryz.prog Kg:=⟨Xy,DB,wM⟩
def arP:Ctx:=CX Kg []
def afR(c:BCU)(p:BP)(_k:KT):Option (List RV):=match decide (ok Ln 300 c.2.1∧okP 4000 p)with|true=>(match decide (ok Ln 300 c.2.1∧okP 4000 c.2.2.2.2.1)with|true=>(match decide (ok Ln 300 c.2.1∧okP 4000 c.2.2.2.2.2)with|true=>(match decide (okT 15000 (hid (enc (eh (dec c.2.1) (dec c.2.2.2.2.1))))∧okT 15000 (hid (enc (eh (dec c.2.1) (dec c.2.2.2.2.2)))))with|true=>(match decide ((bI (dec (hid (enc (eh (dec c.2.1) (dec c.2.2.2.2.1))))) (dec (hid (enc (eh (dec c.2.1) (dec c.2.2.2.2.2))))))>0)with|true=>(match decide (okT 15000 (hid (enc (eh (dec c.2.1) (dec c.2.2.2.2.2))))∧okT 15000 (hid (enc (eh (dec c.2.1) (dec p)))))with|true=>(match decide ((bI (dec (hid (enc (eh (dec c.2.1) (dec c.2.2.2.2.2))))) (dec (hid (enc (eh (dec c.2.1) (dec p))))))≤0)with|true=>(match decide (okT 15000 (hid (enc (eh (dec c.2.1) (dec p))))∧okT 15000 (hid (enc (eh (dec c.2.1) (dec c.2.2.2.2.1)))))with|true=>some [RV.d .bool (decide ((bI (dec (hid (enc (eh (dec c.2.1) (dec p))))) (dec (hid (enc (eh (dec c.2.1) (dec c.2.2.2.2.1))))))≤0))]|false=>none)|false=>some [RV.d .bool false])|false=>none)|false=>(match decide (okT 15000 (hid (enc (eh (dec c.2.1) (dec c.2.2.2.2.1))))∧okT 15000 (hid (enc (eh (dec c.2.1) (dec p)))))with|true=>(match decide ((bI (dec (hid (enc (eh (dec c.2.1) (dec c.2.2.2.2.1))))) (dec (hid (enc (eh (dec c.2.1) (dec p))))))≤0)with|true=>(match decide (okT 15000 (hid (enc (eh (dec c.2.1) (dec p))))∧okT 15000 (hid (enc (eh (dec c.2.1) (dec c.2.2.2.2.2)))))with|true=>some [RV.d .bool (decide ((bI (dec (hid (enc (eh (dec c.2.1) (dec p))))) (dec (hid (enc (eh (dec c.2.1) (dec c.2.2.2.2.2))))))≤0))]|false=>none)|false=>some [RV.d .bool false])|false=>none))|false=>none)|false=>none)|false=>none)|false=>none
theorem ao0(c:BCU)(p:BP):RS arP 67 [.d tCU c,.d tP p] (afR c p):=rsX
theorem ad2(c:BCU)(p:BP)(h:okC 3000 c∧okP 3000 p∧c.1=false):Con Tryz.prog 67 [.d tCU c,.d tP p] [.d .bool (pe (dC c) (dec p))]:=by
 refine aR vO (ao0 _ _ ⟨0,?_⟩)
 obtain⟨hc,hp,h0⟩:=h
 obtain⟨p,rfl,bp,rp⟩:=cO hp
 obtain⟨ar,li,ci,cw,fr,to⟩:=c
 simp only at h0
 subst h0
 obtain⟨_,c2,c3,c4⟩:=hc
 obtain⟨c2,_⟩:=c2 rfl
 simp only at c2 c3 c4
 obtain⟨li,rfl,bl⟩:=aU c2
 obtain⟨fr,rfl,bf,rf⟩:=cO c3
 obtain⟨to,rfl,bt,rt⟩:=cO c4
 unfold afR pe
 simp only[dC,lnC,frC,toC,ak,am,okd,au4,au6,Nat.reduceAdd,Nat.reduceMul,Nat.reduceLeDiff,bh,bH]
 cases decide (bI (eh li fr) (eh li to)>0)
 ·cases decide (bI (eh li fr) (eh li p)≤0)<;>rfl
 ·cases decide (bI (eh li to) (eh li p)≤0)<;>rfl
def aqR:Ctx:=CX Kg []
def af4(c:BCU)(v:BV)(_k:KT):Option (List RV):=let y1:=hid (ai (cg (dec v) (dec v)));let y2:=hid (ai (ae c.2.2.1.2.2/ae y1));let y3:=hid (enc (mkR (ae c.2.2.1.1) (ae v.1) (ae y2)));let y4:=hid (enc (mkR (ae c.2.2.1.2.1) (ae v.2) (ae y2)));let y5:=hid (enc (mkP (dec y3) (dec y4)));match !c.1 with|true=>some [RV.d .bool c.1]|false=>(match decide (ok (Rat×Rat) 100000 v)with|true=>(match zeV (dec v)with|true=>some [RV.d .bool c.1]|false=>(match decide (ok (Rat×Rat) 5000 v∧ok (Rat×Rat) 5000 v)with|true=>(match decide (fD c.2.2.1.2.2 y1)with|true=>(match decide (ok Rat 100000 c.2.2.1.1∧ok Rat 100000 v.1∧ok Rat 100000 y2∧0≤ae y2)with|true=>(match decide (ok Rat 100000 c.2.2.1.2.1∧ok Rat 100000 v.2∧ok Rat 100000 y2∧0≤ae y2)with|true=>(match decide (okT 15000 y3∧okT 15000 y4∧qm (dec y3) (dec y4))with|true=>(match 0==0 with|true=>(match decide (okC 4000 c∧okP 4000 y5)with|true=>some [RV.d .bool (onP (dC c) (dec y5))]|false=>none)|false=>some [RV.d .bool false])|false=>none)|false=>none)|false=>none)|false=>none)|false=>none))|false=>none)
theorem ap7(c:BCU)(v:BV):RS aqR 24 [.d tCU c,.d tV v] (af4 c v):=rsX
theorem abE(c:BCU)(v:BV)(h:okC 500 c∧ok (Rat×Rat) 510 v):Con Tryz.prog 24 [.d tCU c,.d tV v] [.d .bool (jj (dC c) (dec v))]:=by
 refine aR vO (ap7 _ _ ⟨0,?_⟩)
 obtain⟨hc,hv⟩:=h
 obtain⟨v,rfl,bv⟩:=aU hv
 have hc4:=dK (k:=4000) hc (by decide) (by decide)
 obtain⟨ar,li,ci,cw,fr,to⟩:=c
 cases ar
 ·rfl
 ·obtain⟨c1,_⟩:=hc.1 rfl
  have hq:=(hc.1 rfl).2
  simp only at c1 hq
  obtain⟨ci,rfl,bc⟩:=aU c1
  rw[am]at hq
  have hC:Cir ci:=⟨hq⟩
  have o4:=au1 hc4
  have hn:0≤ci.2.2/cg v v:=(WM (c:=ci) (d:=v)).le
  have om:decide (qm (mkR ci.1 v.1 (ci.2.2/cg v v)) (mkR ci.2.1 v.2 (ci.2.2/cg v v)))=true:=dT (uB _ _ _ _ _)
  have ry:decide (okP 4000 (enc (mkP (mkR ci.1 v.1 (ci.2.2/cg v v)) (mkR ci.2.1 v.2 (ci.2.2/cg v v)))))=true:=bH (x:=gK ci v) (by decide) (by decide)
  unfold af4 jj
  simp only[ak,am,aI,aJ,aG,az,okd,aH,au4,au6,au5,Nat.reduceAdd,Nat.reduceLeDiff,bh,Bool.not_true]
  cases hz:zeV v
  ·have hd:=vN hz
   simp only[aF,au6,Nat.reduceAdd,Nat.reduceLeDiff,hd,ne_eq,awK,dT hn,om,o4,ry]
   show _=some [RV.d .bool (onP _ (gK (dec (enc ci)) v))]
   rw[am]
   rfl
  ·rfl
def Xf:aO:=spN true true [tCU,tP] (fun x=>decide (okC 3000 x.1∧okP 3000 x.2.1∧x.1.1=false)) (fun x=>[RV.d .bool (pe (dC x.1) (dec x.2.1))])
theorem Ud:SpK 67 Xf:=spX fun x h=>ad2 x.1 x.2.1 (au0 h)
def Hv:aO:=spN true true [tCU,tV] (fun x=>decide (okC 500 x.1∧ok (Rat×Rat) 510 x.2.1)) (fun x=>[RV.d .bool (jj (dC x.1) (dec x.2.1))])
theorem E0:SpK 24 Hv:=spX fun x h=>abE x.1 x.2.1 (au0 h)
def TW:Env:=(67,Xf)::(24,Hv)::Kg
theorem DZ:EnvAll Tryz.prog TW:=⟨Ud,E0,vO⟩
def amv:NT:=[((16,13),{keep:=[4,19],hl:=0}),((16,29),{keep:=[4,39],hl:=0})]
def ar3:Ctx:=CX TW amv
def VJ(c:BCU)(v:BV)(_k:KT):Option (List RV):=let y1:=hid (enc (atP (dec v)));let y2:=hid (enc (sqP (dec c.2.2.2.2.1) (dec v)));let y3:=hid (enc (sqP (dec c.2.2.2.2.2) (dec v)));let y4:Option (List RV):=match decide (okP 3500 c.2.2.2.2.1∧ok (Rat×Rat) 300 v)with|true=>(match decide (okP 3500 c.2.2.2.2.2∧ok (Rat×Rat) 300 v)with|true=>(match decide (okT 15000 y2∧okT 15000 y3)with|true=>some [RV.d tO (hid (enc (kq (dec y2) (dec y3))))]|false=>none)|false=>none)|false=>none;let y5:=hid (enc (c8 (dec c.2.1) (dec v)));let y6:=hid (enc (eG (dec v) (dec y5)));let y7:=hid (ai (cg (dec y6) (dec y6)));let y8:=hid ((c.2.2.1.1,c.2.2.1.2.1));let y9:=hid (enc (eG (dec y8) (dec v)));let y10:=hid (ai (cg (dec y9) (dec y9)));let y11:=hid (ai (ae y10+ae c.2.2.1.2.2));let y12:=hid (ai (((-2):Int):Rat));let y13:=hid (ai (ae y10*ae c.2.2.1.2.2));match !c.1 with|true=>(match decide (ok (Rat×Rat) 100000 v)with|true=>(match decide (okC 3000 c∧okP 3000 y1∧c.1=false)with|true=>(match !(pe (dC c) (dec y1))with|true=>y4|false=>(match decide (ok Ln 300 c.2.1∧ok (Rat×Rat) 200 v∧((dec c.2.1:Ln).1≠0∨(dec c.2.1:Ln).2.1≠0))with|true=>(match decide (ok (Rat×Rat) 10000 v∧ok (Rat×Rat) 10000 y5)with|true=>(match decide (ok (Rat×Rat) 5000 y6∧ok (Rat×Rat) 5000 y6)with|true=>(match decide (okR y7)with|true=>some [RV.d tO (hid (enc ((ae y7,0,0):Rt)))]|false=>none)|false=>none)|false=>none)|false=>none))|false=>none)|false=>none)|false=>(match decide (ok (Rat×Rat) 10000 y8∧ok (Rat×Rat) 10000 v)with|true=>(match decide (okC 500 c∧ok (Rat×Rat) 510 y9)with|true=>(match !(jj (dC c) (dec y9))with|true=>y4|false=>(match decide (ok (Rat×Rat) 5000 y9∧ok (Rat×Rat) 5000 y9)with|true=>(match decide (okR y10∧okR c.2.2.1.2.2)with|true=>(match decide (bg ((-2):Int))with|true=>(match decide (okR y10∧okR c.2.2.1.2.2)with|true=>(match decide (ok Rat 100000 y11∧ok Rat 100000 y12∧ok Rat 100000 y13∧0≤ae y13)with|true=>some [RV.d tO (hid (enc (mkR (ae y11) (ae y12) (ae y13))))]|false=>none)|false=>none)|false=>none)|false=>none)|false=>none))|false=>none)|false=>none)
theorem aom(c:BCU)(v:BV):RS ar3 16 [.d tCU c,.d tV v] (VJ c v):=rsX
theorem adQ(c:BCU)(v:BV)(h:okC 500 c∧ok (Rat×Rat) 200 v):Con Tryz.prog 16 [.d tCU c,.d tV v] [.d tO (enc (cd (dC c) (dec v)))]:=by
 refine aR DZ (aom _ _ ⟨0,?_⟩)
 obtain⟨hc,hv⟩:=h
 obtain⟨v,rfl,bv⟩:=aU hv
 have hc4:=dK (k:=3000) hc (by decide) (by decide)
 obtain⟨ar,li,ci,cw,fr,to⟩:=c
 have h3:=hc.2.2.1
 have h4:=hc.2.2.2
 simp only at h3 h4
 obtain⟨fr,rfl,bf,rf⟩:=cO h3
 obtain⟨to,rfl,bt,rt⟩:=cO h4
 have o4:=au1 hc4
 have o5:=au1 hc
 cases ar
 ·obtain⟨c2,c3⟩:=hc.2.1 rfl
  simp only at c2 c3
  obtain⟨li,rfl,bl⟩:=aU c2
  rw[am]at c3
  unfold VJ cd yk
  simp only[ak,am,aT,aG,az,okd,aX,au4,au6,mx,Nat.reduceAdd,Nat.reduceMul,Nat.reduceLeDiff,ave,ava,cond_true,cond_false,bh,bH,o4,c3,Bool.not_false]
  simp only[dC,lnC,frC,toC,am,cond_false]
  cases pe (false,li,dec ci,cw,fr,to) (atP v)<;>rfl
 ·obtain⟨c1,hq⟩:=hc.1 rfl
  simp only at c1 hq
  obtain⟨ci,rfl,bc⟩:=aU c1
  rw[am]at hq
  have hC:Cir ci:=⟨hq⟩
  have hn:0≤cg (eG (ctr ci) v) (eG (ctr ci) v)*ci.2.2:=(Ll (c:=ci) (d:=eG (ctr ci) v)).le
  have e0:((ai ci.1,ai ci.2.1):BV)=enc (ctr ci):=rfl
  have h2:decide (bg (-2))=true:=by decide
  have b2:Bd ((-2:Int):Rat) 3:=fa (by decide)
  unfold VJ cd yk
  simp only[ak,am,aI,aJ,aG,az,okd,aH,aX,au4,au6,au5,mx,Nat.reduceAdd,Nat.reduceMul,Nat.reduceLeDiff,ave,cond_true,bh,bH,o5,e0,Bool.not_true]
  simp only[dC,lnC,frC,toC,ciC,bK,am,cond_true]
  cases jj (true,dec li,ci,cw,fr,to) (eG (ctr ci) v)
  ·rfl
  ·simp only[cond_true,dT hn,h2]
   rw[show((-2:Int):Rat)= -2 from rfl]
   rfl
def tM:aO:=spN false true [tCU,tV] (fun x=>decide (okC 500 x.1∧ok (Rat×Rat) 200 x.2.1)) (fun x=>[RV.d tO (hid (enc (cd (dC x.1) (dec x.2.1))))])
theorem mR:SpK 16 tM:=spX fun x h=>by simp only[ak];exact adQ x.1 x.2.1 (au0 h)
def ag6:Env:=(16,tM)::TW
theorem YU:EnvAll Tryz.prog ag6:=⟨mR,DZ⟩
def aqY:Ctx:=CX ag6 []
def afH(c:BCU)(v:BV)(r:BR)(_k:KT):Option (List RV):=match decide (okR r)with|true=>(match decide ((aV (ae r) 0)<0)with|true=>some [RV.d ax8 1]|false=>(match decide (okC 500 c∧ok (Rat×Rat) 200 v)with|true=>(match decide (okR r∧okR r)with|true=>(match decide (okT 15000 (hid (enc (cd (dC c) (dec v))))∧ok Rat 15000 (hid (ai (ae r*ae r))))with|true=>some [RV.d ax8 (fh (dec (hid (enc (cd (dC c) (dec v))))) (ae (hid (ai (ae r*ae r)))))]|false=>none)|false=>none)|false=>none))|false=>none
theorem asg(c:BCU)(v:BV)(r:BR):RS aqY 21 [.d tCU c,.d tV v,.d tR r] (afH c v r):=rsX
theorem abA(c:BCU)(v:BV)(r:BR)(h:okC 500 c∧ok (Rat×Rat) 200 v∧ok Rat 1000 r):Con Tryz.prog 21 [.d tCU c,.d tV v,.d tR r] [.d ax8 (ux (dC c) (dec v) (ae r))]:=by
 refine aR YU (asg _ _ _ ⟨0,?_⟩)
 obtain⟨hc,hv,hr⟩:=h
 obtain⟨v,rfl,bv⟩:=aU hv
 obtain⟨r,rfl,br⟩:=aU hr
 rw[aG,az,am]
 have od:=dO hc (v:=v)
 obtain⟨od1,od2⟩:=od
 unfold afH ux
 simp only[ak,am,az,okd,aH,aX,au4,au6,Nat.reduceAdd,Nat.reduceLeDiff,bh,aN,au1 hc]
 cases decide (r<0)<;>rfl
def HM:aO:=spN true true [tCU,tV,tR] (fun x=>decide (okC 500 x.1∧ok (Rat×Rat) 200 x.2.1∧ok Rat 1000 x.2.2.1)) (fun x=>[RV.d ax8 (ux (dC x.1) (dec x.2.1) (ae x.2.2.1))])
theorem E1:SpK 21 HM:=spX fun x h=>abA x.1 x.2.1 x.2.2.1 (au0 h)
def DC:Env:=[(78,gv),(124,lP),(50,iN),(132,iL),(174,Dg),(127,jR),(161,jS),(49,vi),(57,uE),(20,lK),(109,AP),(45,CH),(54,A8),(19,rU),(55,Df),(119,ri),(85,uI),(60,IH),(144,GB),(61,Id),(58,PJ)]
theorem qj:EnvAll Tryz.prog DC:=⟨fc,jc,gi,ga,zE,gV,gQ,sN,uj,i7,zL,zw,Ak,nz,yS,n7,ue,Fd,Eo,FH,Wm,trivial⟩
def apZ:Ctx:=CX DC []
def agx(a b:BV)(_k:KT):Option (List RV):=match decide (okR b.1∧okR a.1)with|true=>(match decide (okR b.2∧okR a.2)with|true=>some [RV.d tV (hid (ai (ae b.1-ae a.1)),hid (ai (ae b.2-ae a.2)))]|false=>none)|false=>none
theorem atf(a b:BV):RS apZ 56 [.d tV a,.d tV b] (agx a b):=rsX
theorem aeG(a b:BV)(h:ok (Rat×Rat) 10000 a∧ok (Rat×Rat) 10000 b):Con Tryz.prog 56 [.d tV a,.d tV b] [.d tV (enc (eG (dec a) (dec b)))]:=by
 refine aR qj (atf _ _ ⟨0,?_⟩)
 obtain⟨ha,hb⟩:=h
 obtain⟨a,rfl,ba⟩:=aU ha
 obtain⟨b,rfl,bb⟩:=aU hb
 unfold agx
 simp only[ak,am,aI,aJ,aG,az,aX,au4,au6,Nat.reduceLeDiff]
 try rfl
def amP:Ctx:=CX DC []
def alB(c:BO3)(_k:KT):Option (List RV):=some [RV.d tV (c.1,c.2.1)]
theorem aj4(c:BO3):RS amP 59 [.d tO c] (alB c):=rsX
theorem UP(c:BO3):Con Tryz.prog 59 [.d tO c] [.d tV (c.1,c.2.1)]:=by
 exact aR qj (aj4 _ ⟨0,rfl⟩)
def aqG:Ctx:=CX DC []
def agE(a b:BO3)(_k:KT):Option (List RV):=match decide (okT 15000 b∧okT 15000 a)with|true=>(match decide ((bI (dec b) (dec a))<0)with|true=>some [RV.d tO b]|false=>some [RV.d tO a])|false=>none
theorem arA(a b:BO3):RS aqG 53 [.d tO a,.d tO b] (agE a b):=rsX
theorem abJ(a b:BO3)(h:okT 15000 a∧okT 15000 b):Con Tryz.prog 53 [.d tO a,.d tO b] [.d tO (enc (kq (dec a) (dec b)))]:=by
 refine aR qj (arA _ _ ⟨0,?_⟩)
 obtain⟨ha,hb⟩:=h
 obtain⟨a,rfl,ba,ra⟩:=fK ha
 obtain⟨b,rfl,bb,rb⟩:=fK hb
 unfold agE kq
 simp only[am,au4,au6,Nat.reduceLeDiff,bh]
 cases decide (bI b a<0)<;>rfl
def Vz:aO:=spN false true [tV,tV] (fun x=>decide (ok (Rat×Rat) 10000 x.1∧ok (Rat×Rat) 10000 x.2.1)) (fun x=>[RV.d tV (hid (enc (eG (dec x.1) (dec x.2.1))))])
theorem XF:SpK 56 Vz:=spX fun x h=>by simp only[ak];exact aeG x.1 x.2.1 (au0 h)
def Ky:aO:=spN false true [tO] (fun _=>true) (fun x=>[RV.d tV (hid ((x.1.1,x.1.2.1)))])
theorem NX:SpK 59 Ky:=spX fun x _=>by simp only[ak];exact UP x.1
def Ic:aO:=spN false true [tO,tO] (fun x=>decide (okT 15000 x.1∧okT 15000 x.2.1)) (fun x=>[RV.d tO (hid (enc (kq (dec x.1) (dec x.2.1))))])
theorem Dt:SpK 53 Ic:=spX fun x h=>by simp only[ak];exact abJ x.1 x.2.1 (au0 h)
def Xh:Env:=(56,Vz)::(59,Ky)::(53,Ic)::DC
theorem EN:EnvAll Tryz.prog Xh:=⟨XF,NX,Dt,qj⟩
def am9:Ctx:=CX Xh []
def agf(c:BO3)(v:BV)(_k:KT):Option (List RV):=let y1:=hid (ai (cg (dec v) (dec v)));let y2:=hid (ai ((0:Int):Rat));let y3:=hid (ai (ae c.2.2/ae y1));let y4:=hid (enc (mkR (ae y2) (ae v.1) (ae y3)));let y5:=hid (enc (mkR (ae y2) (ae v.2) (ae y3)));let y6:=hid (enc (mkP (dec y4) (dec y5)));let y7:=hid ((c.1,c.2.1));match decide (ok (Rat×Rat) 5000 v∧ok (Rat×Rat) 5000 v)with|true=>(match decide (fD c.2.2 y1)with|true=>(match decide (bg (0:Int))with|true=>(match decide (ok Rat 100000 y2∧ok Rat 100000 v.1∧ok Rat 100000 y3∧0≤ae y3)with|true=>(match decide (ok Rat 100000 y2∧ok Rat 100000 v.2∧ok Rat 100000 y3∧0≤ae y3)with|true=>(match decide (okT 15000 y4∧okT 15000 y5∧qm (dec y4) (dec y5))with|true=>(match decide (ok Pt 21000 y6∧ok (Rat×Rat) 1000 y7)with|true=>some [RV.d tP (hid (enc (trP (dec y6) (dec y7))))]|false=>none)|false=>none)|false=>none)|false=>none)|false=>none)|false=>none)|false=>none
theorem anE(c:BO3)(v:BV):RS am9 90 [.d tO c,.d tV v] (agf c v):=rsX
theorem ace(c:BO3)(v:BV)(h:qN c∧ok (Rat×Rat) 510 v∧zeV (dec v)=false):Con Tryz.prog 90 [.d tO c,.d tV v] [.d tP (enc (gK (dec c) (dec v)))]:=by
 refine aR EN (anE _ _ ⟨0,?_⟩)
 obtain⟨⟨hc,hq⟩,hv,hz⟩:=h
 obtain⟨ci,rfl,bc⟩:=aU hc
 obtain⟨v,rfl,bv⟩:=aU hv
 rw[am]at hq hz
 have hC:Cir ci:=⟨hq⟩
 have hd:=vN hz
 have hn:0≤ci.2.2/cg v v:=(WM (c:=ci) (d:=v)).le
 have om:decide (qm (mkR 0 v.1 (ci.2.2/cg v v)) (mkR 0 v.2 (ci.2.2/cg v v)))=true:=dT (uB _ _ _ _ _)
 have b1:Bd (mkR 0 v.1 (ci.2.2/cg v v)) 15000:=(inferInstance:Bd (mkR 0 v.1 (ci.2.2/cg v v)) _).mono (by decide)
 have b2:Bd (mkR 0 v.2 (ci.2.2/cg v v)) 15000:=(inferInstance:Bd (mkR 0 v.2 (ci.2.2/cg v v)) _).mono (by decide)
 have e0:(dec ((ai ci.1,ai ci.2.1):BV):Rat×Rat)=ctr ci:=am (ctr ci)
 have e1:decide (ok (Rat×Rat) 1000 ((ai ci.1,ai ci.2.1):BV))=true:=okd (x:=ctr ci) (by decide) (by decide)
 have z0:((0:Int):Rat)=0:=rfl
 have i0:decide (bg 0)=true:=by decide
 unfold agf
 simp only[ak,am,aI,aJ,aG,az,okd,aH,aF,au4,au6,mx,Nat.reduceAdd,Nat.reduceLeDiff,ave,cond_true,bh,hd,ne_eq,awK,z0,i0,dT hn,om,e0,e1]
 rw[ajV]
def Rh:aO:=spN false true [tO,tV] (fun x=>decide (qN x.1∧ok (Rat×Rat) 510 x.2.1∧zeV (dec x.2.1)=false)) (fun x=>[RV.d tP (hid (enc (gK (dec x.1) (dec x.2.1))))])
theorem SC:SpK 90 Rh:=spX fun x h=>by simp only[ak];exact ace x.1 x.2.1 (au0 h)
def V0:Env:=(90,Rh)::Xh
theorem Ek:EnvAll Tryz.prog V0:=⟨SC,EN⟩
def as0:Ctx:=CX V0 []
def ag5(c:BCU)(v:BV)(_k:KT):Option (List RV):=match !c.1 with|true=>some [RV.d .bool false]|false=>(match decide (okR v.1)with|true=>(match(aV (ae v.1) 0)==0 with|true=>(match decide (okR v.2)with|true=>(match(aV (ae v.2) 0)==0 with|true=>some [RV.d .bool true]|false=>(match decide (qN c.2.2.1∧ok (Rat×Rat) 510 v∧zeV (dec v)=false)with|true=>(match decide (okC 3500 c∧okP 3500 (hid (enc (gK (dec c.2.2.1) (dec v)))))with|true=>some [RV.d .bool (onR (dC c) (dec (hid (enc (gK (dec c.2.2.1) (dec v))))))]|false=>none)|false=>none))|false=>none)|false=>(match decide (qN c.2.2.1∧ok (Rat×Rat) 510 v∧zeV (dec v)=false)with|true=>(match decide (okC 3500 c∧okP 3500 (hid (enc (gK (dec c.2.2.1) (dec v)))))with|true=>some [RV.d .bool (onR (dC c) (dec (hid (enc (gK (dec c.2.2.1) (dec v))))))]|false=>none)|false=>none))|false=>none)
theorem ar4(c:BCU)(v:BV):RS as0 25 [.d tCU c,.d tV v] (ag5 c v):=rsX
theorem abW(c:BCU)(v:BV)(h:gdC c∧ok (Rat×Rat) 510 v):Con Tryz.prog 25 [.d tCU c,.d tV v] [.d .bool (jj (dC c) (dec v))]:=by
 refine aR Ek (ar4 _ _ ⟨0,?_⟩)
 obtain⟨hg,hv⟩:=h
 obtain⟨v,rfl,bv⟩:=aU hv
 have hc35:=dK (k:=3500) hg.1 (by decide) (by decide)
 have gon:=fun{p:Pt} (hp:Rpd p)=>yO hg hp
 obtain⟨ar,li,ci,cw,fr,to⟩:=c
 cases ar
 ·rfl
 ·have hc:=hg.1
  obtain⟨c1,hq⟩:=hc.1 rfl
  have hci:qN ci:=⟨c1,hq⟩
  simp only at c1 hq
  obtain⟨ci,rfl,bc⟩:=aU c1
  rw[am]at hq
  have hC:Cir ci:=⟨hq⟩
  have o35:=au1 hc35
  have oci:=au1 hci
  have ry:decide (okP 3500 (enc (gK ci v)))=true:=bH (by decide) (by decide)
  have go:onR (dC (true,li,enc ci,cw,fr,to)) (gK ci v)=onP (dC (true,li,enc ci,cw,fr,to)) (gK ci v):=gon akR
  have tw:jj (dC (true,li,enc ci,cw,fr,to)) v=bif !(zeV v)then onP (dC (true,li,enc ci,cw,fr,to)) (gK ci v)else true:=by
   unfold jj
   show(bif true&&!(zeV v)then onP _ (gK (dec (enc ci)) v)else true)=_
   rw[am]
   rfl
  rw[am,tw]
  unfold ag5
  simp only[ak,am,aI,aJ,aG,az,okd,aX,au4,au6,au5,Nat.reduceLeDiff,aM,Bool.not_true,oci,o35,ry,go]
  have hz:zeV v=(decide (v.1=0)&&decide (v.2=0)):=rfl
  rw[hz]
  cases h1:decide (v.1=0)
  ·simp
  ·cases h2:decide (v.2=0)
   ·simp
   ·rfl
def HG:aO:=spN true true [tCU,tV] (fun x=>decide (gdC x.1∧ok (Rat×Rat) 510 x.2.1)) (fun x=>[RV.d .bool (jj (dC x.1) (dec x.2.1))])
theorem FU:SpK 25 HG:=spX fun x h=>abW x.1 x.2.1 (au0 h)
def Pq:Env:=(25,HG)::V0
theorem EX:EnvAll Tryz.prog Pq:=⟨FU,Ek⟩
def asJ:Ctx:=CX Pq []
def R4(c:BCU)(v:BV)(_k:KT):Option (List RV):=let y1:=hid (enc (sqP (dec c.2.2.2.2.1) (dec v)));let y2:=hid (enc (sqP (dec c.2.2.2.2.2) (dec v)));let y3:=hid (enc (c8 (dec c.2.1) (dec v)));let y4:=hid (enc (atP (dec y3)));let y5:=hid (enc (eG (dec v) (dec y3)));let y6:=hid (ai (cg (dec y5) (dec y5)));let y7:=hid (enc (kq (dec y1) (dec y2)));let y8:=hid ((c.2.2.1.1,c.2.2.1.2.1));let y9:=hid (enc (eG (dec y8) (dec v)));let y10:=hid (ai (cg (dec y9) (dec y9)));let y11:=hid (ai (ae y10+ae c.2.2.1.2.2));let y12:=hid (ai (((-2):Int):Rat));let y13:=hid (ai (ae y10*ae c.2.2.1.2.2));match decide (okP 3500 c.2.2.2.2.1∧ok (Rat×Rat) 300 v)with|true=>(match decide (okP 3500 c.2.2.2.2.2∧ok (Rat×Rat) 300 v)with|true=>(match decide (okT 15000 y1∧okT 15000 y2)with|true=>(match !c.1 with|true=>(match decide (ok Ln 300 c.2.1∧ok (Rat×Rat) 200 v∧((dec c.2.1:Ln).1≠0∨(dec c.2.1:Ln).2.1≠0))with|true=>(match decide (ok (Rat×Rat) 100000 y3)with|true=>(match decide (okC 3500 c∧okP 3500 y4)with|true=>(match onR (dC c) (dec y4)with|true=>(match decide (ok (Rat×Rat) 10000 v∧ok (Rat×Rat) 10000 y3)with|true=>(match decide (ok (Rat×Rat) 5000 y5∧ok (Rat×Rat) 5000 y5)with|true=>(match decide (okR y6)with|true=>some [RV.d tO (hid (enc ((ae y6,0,0):Rt)))]|false=>none)|false=>none)|false=>none)|false=>some [RV.d tO y7])|false=>none)|false=>none)|false=>none)|false=>(match decide (ok (Rat×Rat) 10000 y8∧ok (Rat×Rat) 10000 v)with|true=>(match decide (gdC c∧ok (Rat×Rat) 510 y9)with|true=>(match !(jj (dC c) (dec y9))with|true=>some [RV.d tO y7]|false=>(match decide (ok (Rat×Rat) 5000 y9∧ok (Rat×Rat) 5000 y9)with|true=>(match decide (okR y10∧okR c.2.2.1.2.2)with|true=>(match decide (bg ((-2):Int))with|true=>(match decide (okR y10∧okR c.2.2.1.2.2)with|true=>(match decide (ok Rat 100000 y11∧ok Rat 100000 y12∧ok Rat 100000 y13∧0≤ae y13)with|true=>some [RV.d tO (hid (enc (mkR (ae y11) (ae y12) (ae y13))))]|false=>none)|false=>none)|false=>none)|false=>none)|false=>none))|false=>none)|false=>none))|false=>none)|false=>none)|false=>none
theorem aow(c:BCU)(v:BV):RS asJ 14 [.d tCU c,.d tV v] (R4 c v):=rsX
theorem aas(c:BCU)(v:BV)(h:gdC c∧ok (Rat×Rat) 200 v):Con Tryz.prog 14 [.d tCU c,.d tV v] [.d tO (enc (cd (dC c) (dec v)))]:=by
 refine aR EX (aow _ _ ⟨0,?_⟩)
 obtain⟨hg,hv⟩:=h
 obtain⟨v,rfl,bv⟩:=aU hv
 have hc35:=dK (k:=3500) hg.1 (by decide) (by decide)
 have gon:=fun{p:Pt} (hp:Rpd p)=>yO hg hp
 have hbo:=P0 hg
 have hc:=hg.1
 obtain⟨ar,li,ci,cw,fr,to⟩:=c
 have h3:=hc.2.2.1
 have h4:=hc.2.2.2
 simp only at h3 h4
 obtain⟨fr,rfl,bf,rf⟩:=cO h3
 obtain⟨to,rfl,bt,rt⟩:=cO h4
 have o4:=au1 hc35
 have o5:=au1 hg
 cases ar
 ·obtain⟨c2,c3⟩:=hc.2.1 rfl
  simp only at c2 c3
  obtain⟨li,rfl,bl⟩:=aU c2
  rw[am]at c3
  have gb:onR (dC (false,enc li,ci,cw,enc fr,enc to)) (atP (c8 li v))=pe (dC (false,enc li,ci,cw,enc fr,enc to)) (atP v):=by
   rw[gon anz]
   have:=hbo rfl v
   rw[show lnC (dC (false,enc li,ci,cw,enc fr,enc to))=li from am li]at this
   exact this
  unfold R4 cd yk
  simp only[ak,am,aT,aG,az,okd,aX,au4,au6,mx,Nat.reduceAdd,Nat.reduceMul,Nat.reduceLeDiff,ave,ava,cond_true,cond_false,bh,bH,o4,c3,gb,Bool.not_false]
  simp only[dC,lnC,frC,toC,am,cond_false]
  cases pe (false,li,dec ci,cw,fr,to) (atP v)<;>rfl
 ·obtain⟨c1,hq⟩:=hc.1 rfl
  simp only at c1 hq
  obtain⟨ci,rfl,bc⟩:=aU c1
  rw[am]at hq
  have hC:Cir ci:=⟨hq⟩
  have hn:0≤cg (eG (ctr ci) v) (eG (ctr ci) v)*ci.2.2:=(Ll (c:=ci) (d:=eG (ctr ci) v)).le
  have e0:((ai ci.1,ai ci.2.1):BV)=enc (ctr ci):=rfl
  have h2:decide (bg (-2))=true:=by decide
  have b2:Bd ((-2:Int):Rat) 3:=fa (by decide)
  unfold R4 cd yk
  simp only[ak,am,aI,aJ,aG,az,okd,aH,aX,au4,au6,au5,mx,Nat.reduceAdd,Nat.reduceMul,Nat.reduceLeDiff,ave,cond_true,bh,bH,o5,e0,Bool.not_true]
  simp only[dC,lnC,frC,toC,ciC,bK,am,cond_true]
  cases jj (true,dec li,ci,cw,fr,to) (eG (ctr ci) v)
  ·rfl
  ·simp only[cond_true,dT hn,h2]
   rw[show((-2:Int):Rat)= -2 from rfl]
   rfl
def AT:aO:=spN false true [tCU,tV] (fun x=>decide (gdC x.1∧ok (Rat×Rat) 200 x.2.1)) (fun x=>[RV.d tO (hid (enc (cd (dC x.1) (dec x.2.1))))])
theorem wL:SpK 14 AT:=spX fun x h=>by simp only[ak];exact aas x.1 x.2.1 (au0 h)
def afc:Env:=(14,AT)::Pq
theorem Ti:EnvAll Tryz.prog afc:=⟨wL,EX⟩
def an2:Ctx:=CX afc []
def afv(c:BCU)(v:BV)(r:BR)(_k:KT):Option (List RV):=match decide (okR r)with|true=>(match decide ((aV (ae r) 0)<0)with|true=>some [RV.d ax8 1]|false=>(match decide (gdC c∧ok (Rat×Rat) 200 v)with|true=>(match decide (okR r∧okR r)with|true=>(match decide (okT 15000 (hid (enc (cd (dC c) (dec v))))∧ok Rat 15000 (hid (ai (ae r*ae r))))with|true=>some [RV.d ax8 (fh (dec (hid (enc (cd (dC c) (dec v))))) (ae (hid (ai (ae r*ae r)))))]|false=>none)|false=>none)|false=>none))|false=>none
theorem aov(c:BCU)(v:BV)(r:BR):RS an2 23 [.d tCU c,.d tV v,.d tR r] (afv c v r):=rsX
theorem ab6(c:BCU)(v:BV)(r:BR)(h:gdC c∧ok (Rat×Rat) 200 v∧ok Rat 1000 r):Con Tryz.prog 23 [.d tCU c,.d tV v,.d tR r] [.d ax8 (ux (dC c) (dec v) (ae r))]:=by
 refine aR Ti (aov _ _ _ ⟨0,?_⟩)
 obtain⟨hc,hv,hr⟩:=h
 obtain⟨v,rfl,bv⟩:=aU hv
 obtain⟨r,rfl,br⟩:=aU hr
 rw[aG,az,am]
 obtain⟨od1,od2⟩:=dO hc.1 (v:=v)
 unfold afv ux
 simp only[ak,am,az,okd,aH,aX,au4,au6,Nat.reduceAdd,Nat.reduceLeDiff,bh,aN,au1 hc]
 cases decide (r<0)<;>rfl
def V7:aO:=spN true true [tCU,tV,tR] (fun x=>decide (gdC x.1∧ok (Rat×Rat) 200 x.2.1∧ok Rat 1000 x.2.2.1)) (fun x=>[RV.d ax8 (ux (dC x.1) (dec x.2.1) (ae x.2.2.1))])
theorem TF:SpK 23 V7:=spX fun x h=>ab6 x.1 x.2.1 x.2.2.1 (au0 h)
abbrev r00:BR:=((false,[]),(false,[]))
abbrev o00:BO3:=(r00,r00,r00)
abbrev p00:BP:=(r00,r00,r00,r00,r00)
abbrev c00:BCU:=(false,o00,o00,false,p00,p00)
def qV(a b:Rat×Rat):Ln:=(a.2-b.2,b.1-a.1,(a.2-b.2)*a.1+(b.1-a.1)*a.2)
def yu(a b:Rat×Rat):Bool:=decide (a.2-b.2=0)&&decide (b.1-a.1=0)
def UU(a b:Rat×Rat):BO3:=bif yu a b then o00 else enc (qV a b)
def UQ(a b:Rat×Rat):Int:=bif yu a b then 6 else 0
def eo(a b c:Rat×Rat):Rat:=(b.1-a.1)*(c.2-a.2)-(b.2-a.2)*(c.1-a.1)
def vP(a b c:Rat×Rat):Rat:=(((b.1-a.1)*(b.1-a.1)+(b.2-a.2)*(b.2-a.2))*(c.2-a.2)-((c.1-a.1)*(c.1-a.1)+(c.2-a.2)*(c.2-a.2))*(b.2-a.2))/(eo a b c+eo a b c)
def vZ(a b c:Rat×Rat):Rat:=(((c.1-a.1)*(c.1-a.1)+(c.2-a.2)*(c.2-a.2))*(b.1-a.1)-((b.1-a.1)*(b.1-a.1)+(b.2-a.2)*(b.2-a.2))*(c.1-a.1))/(eo a b c+eo a b c)
def ph(a b c:Rat×Rat):Ln:=(a.1+vP a b c,a.2+vZ a b c,vP a b c*vP a b c+vZ a b c*vZ a b c)
def Xd(a b c:Rat×Rat):BO3:=bif decide (eo a b c=0)then o00 else enc (ph a b c)
def RH(a b c:Rat×Rat):Int:=bif decide (eo a b c=0)then 6 else 0
def ur(a b c:Rat×Rat):Int:=aV ((b.1-a.1)*(c.2-a.2)) ((b.2-a.2)*(c.1-a.1))
def ye(a b:Rat×Rat):BCU:=bif yu a b then c00 else(false,enc (qV a b),o00,false,enc (atP a),enc (atP b))
def jl(a b:Rat×Rat):Int:=bif yu a b then 6 else 0
def xo(a b c:Rat×Rat):BCU:=bif decide (eo a b c=0)then c00 else(true,o00,enc (ph a b c),decide (ur a b c<0),enc (atP a),enc (atP c))
def jM(a b c:Rat×Rat):Int:=bif decide (eo a b c=0)then 6 else 0
theorem aj3(a b c:Rat×Rat):(ur a b c==0)=decide (eo a b c=0):=by
 unfold ur eo
 rw[aM]
 exact awF.2 (by constructor<;>intro h<;>grind)
instance atG {a b:Rat×Rat} {i j:Nat} [h:Bd a i] [h':Bd b j]:Bd (qV a b) (4*i+2*j+3):=by
 have i1:Bd ((a.2-b.2,b.1-a.1,(a.2-b.2)*a.1+(b.1-a.1)*a.2):Ln) _:=inferInstance
 exact i1.mono (fG (by omega) (fG (by omega) (by omega)))
def DQ:Env:=[(78,gv),(107,lY),(161,jS),(132,iL),(20,lK),(140,BA),(143,AG),(141,vm),(142,B5)]
theorem qF:EnvAll Tryz.prog DQ:=⟨fc,iS,gQ,ga,i7,yF,yR,sA,zy,trivial⟩
def ah8:Ctx:=CX DQ []
def Po(a b:BV)(_k:KT):Option (List RV):=match decide (okR a.2∧okR b.2)with|true=>(match decide (okR b.1∧okR a.1)with|true=>(match decide (okR (hid (ai (ae a.2-ae b.2))))with|true=>(match(aV (ae (hid (ai (ae a.2-ae b.2)))) 0)==0 with|true=>(match decide (okR (hid (ai (ae b.1-ae a.1))))with|true=>(match(aV (ae (hid (ai (ae b.1-ae a.1)))) 0)==0 with|true=>some [RV.d tO (((false,[]),(false,[])),(((false,[]),(false,[])),((false,[]),(false,[])))),RV.d ax8 6]|false=>(match decide (okR (hid (ai (ae a.2-ae b.2)))∧okR a.1)with|true=>(match decide (okR (hid (ai (ae b.1-ae a.1)))∧okR a.2)with|true=>(match decide (okR (hid (ai (ae (hid (ai (ae a.2-ae b.2)))*ae a.1)))∧okR (hid (ai (ae (hid (ai (ae b.1-ae a.1)))*ae a.2))))with|true=>some [RV.d tO (hid (ai (ae a.2-ae b.2)),(hid (ai (ae b.1-ae a.1)),hid (ai (ae (hid (ai (ae (hid (ai (ae a.2-ae b.2)))*ae a.1)))+ae (hid (ai (ae (hid (ai (ae b.1-ae a.1)))*ae a.2))))))),RV.d ax8 0]|false=>none)|false=>none)|false=>none))|false=>none)|false=>(match decide (okR (hid (ai (ae a.2-ae b.2)))∧okR a.1)with|true=>(match decide (okR (hid (ai (ae b.1-ae a.1)))∧okR a.2)with|true=>(match decide (okR (hid (ai (ae (hid (ai (ae a.2-ae b.2)))*ae a.1)))∧okR (hid (ai (ae (hid (ai (ae b.1-ae a.1)))*ae a.2))))with|true=>some [RV.d tO (hid (ai (ae a.2-ae b.2)),(hid (ai (ae b.1-ae a.1)),hid (ai (ae (hid (ai (ae (hid (ai (ae a.2-ae b.2)))*ae a.1)))+ae (hid (ai (ae (hid (ai (ae b.1-ae a.1)))*ae a.2))))))),RV.d ax8 0]|false=>none)|false=>none)|false=>none))|false=>none)|false=>none)|false=>none
theorem amr(a b:BV):RS ah8 128 [.d tV a,.d tV b] (Po a b):=rsX
theorem XC(a b:BV)(h:ok (Rat×Rat) 100 a∧ok (Rat×Rat) 100 b):Con Tryz.prog 128 [.d tV a,.d tV b] [.d tO (UU (dec a) (dec b)),.d ax8 (UQ (dec a) (dec b))]:=by
 refine aR qF (amr _ _ ⟨0,?_⟩)
 obtain⟨ha,hb⟩:=h
 obtain⟨a,rfl,ba⟩:=aU ha
 obtain⟨b,rfl,bb⟩:=aU hb
 unfold Po UU UQ yu
 simp only[ak,am,aI,aJ,aG,az,aX,au4,au6,Nat.reduceAdd,Nat.reduceLeDiff,aM]
 cases decide (a.2-b.2=0)<;>cases decide (b.1-a.1=0)<;>rfl
def ar0:Ctx:=CX DQ []
def af5(a b c:BV)(_k:KT):Option (List RV):=match decide (okR b.1∧okR a.1)with|true=>(match decide (okR c.2∧okR a.2)with|true=>(match decide (okR (hid (ai (ae b.1-ae a.1)))∧okR (hid (ai (ae c.2-ae a.2))))with|true=>(match decide (okR b.2∧okR a.2)with|true=>(match decide (okR c.1∧okR a.1)with|true=>(match decide (okR (hid (ai (ae b.2-ae a.2)))∧okR (hid (ai (ae c.1-ae a.1))))with|true=>(match decide (okR (hid (ai (ae (hid (ai (ae b.1-ae a.1)))*ae (hid (ai (ae c.2-ae a.2))))))∧okR (hid (ai (ae (hid (ai (ae b.2-ae a.2)))*ae (hid (ai (ae c.1-ae a.1)))))))with|true=>some [RV.d ax8 (aV (ae (hid (ai (ae (hid (ai (ae b.1-ae a.1)))*ae (hid (ai (ae c.2-ae a.2))))))) (ae (hid (ai (ae (hid (ai (ae b.2-ae a.2)))*ae (hid (ai (ae c.1-ae a.1))))))))]|false=>none)|false=>none)|false=>none)|false=>none)|false=>none)|false=>none)|false=>none
theorem aoh(a b c:BV):RS ar0 129 [.d tV a,.d tV b,.d tV c] (af5 a b c):=rsX
theorem adw(a b c:BV)(h:ok (Rat×Rat) 100 a∧ok (Rat×Rat) 100 b∧ok (Rat×Rat) 100 c):Con Tryz.prog 129 [.d tV a,.d tV b,.d tV c] [.d ax8 (ur (dec a) (dec b) (dec c))]:=by
 refine aR qF (aoh _ _ _ ⟨0,?_⟩)
 obtain⟨ha,hb,hc⟩:=h
 obtain⟨a,rfl,ba⟩:=aU ha
 obtain⟨b,rfl,bb⟩:=aU hb
 obtain⟨c,rfl,bc⟩:=aU hc
 unfold af5
 simp only[ak,am,aI,aJ,aG,az,aX,au4,au6,Nat.reduceAdd,Nat.reduceLeDiff]
 rfl
def amk:Ctx:=CX DQ []
def YJ(a b c:BV)(_k:KT):Option (List RV):=let y1:=hid (ai (ae b.1-ae a.1));let y2:=hid (ai (ae c.2-ae a.2));let y3:=hid (ai (ae b.2-ae a.2));let y4:=hid (ai (ae c.1-ae a.1));let y5:=hid (ai (ae y1*ae y2));let y6:=hid (ai (ae y3*ae y4));let y7:=hid (ai (ae y5-ae y6));let y8:=hid (ai (ae y1*ae y1));let y9:=hid (ai (ae y3*ae y3));let y10:=hid (ai (ae y4*ae y4));let y11:=hid (ai (ae y2*ae y2));let y12:=hid (ai (ae y8+ae y9));let y13:=hid (ai (ae y10+ae y11));let y14:=hid (ai (ae y12*ae y2));let y15:=hid (ai (ae y13*ae y3));let y16:=hid (ai (ae y14-ae y15));let y17:=hid (ai (ae y7+ae y7));let y18:=hid (ai (ae y13*ae y1));let y19:=hid (ai (ae y12*ae y4));let y20:=hid (ai (ae y18-ae y19));let y21:=hid (ai (ae y16/ae y17));let y22:=hid (ai (ae y20/ae y17));let y23:=hid (ai (ae y21*ae y21));let y24:=hid (ai (ae y22*ae y22));match decide (okR b.1∧okR a.1)with|true=>(match decide (okR b.2∧okR a.2)with|true=>(match decide (okR c.1∧okR a.1)with|true=>(match decide (okR c.2∧okR a.2)with|true=>(match decide (okR y1∧okR y2)with|true=>(match decide (okR y3∧okR y4)with|true=>(match decide (okR y5∧okR y6)with|true=>(match decide (okR y7)with|true=>(match(aV (ae y7) 0)==0 with|true=>some [RV.d tO (((false,[]),(false,[])),(((false,[]),(false,[])),((false,[]),(false,[])))),RV.d ax8 6]|false=>(match decide (okR y7∧okR y7)with|true=>(match decide (okR y1∧okR y1)with|true=>(match decide (okR y3∧okR y3)with|true=>(match decide (okR y8∧okR y9)with|true=>(match decide (okR y4∧okR y4)with|true=>(match decide (okR y2∧okR y2)with|true=>(match decide (okR y10∧okR y11)with|true=>(match decide (okR y12∧okR y2)with|true=>(match decide (okR y13∧okR y3)with|true=>(match decide (okR y14∧okR y15)with|true=>(match decide (fD y16 y17)with|true=>(match decide (okR y13∧okR y1)with|true=>(match decide (okR y12∧okR y4)with|true=>(match decide (okR y18∧okR y19)with|true=>(match decide (fD y20 y17)with|true=>(match decide (okR a.1∧okR y21)with|true=>(match decide (okR a.2∧okR y22)with|true=>(match decide (okR y21∧okR y21)with|true=>(match decide (okR y22∧okR y22)with|true=>(match decide (okR y23∧okR y24)with|true=>some [RV.d tO (hid (ai (ae a.1+ae y21)),(hid (ai (ae a.2+ae y22)),hid (ai (ae y23+ae y24)))),RV.d ax8 0]|false=>none)|false=>none)|false=>none)|false=>none)|false=>none)|false=>none)|false=>none)|false=>none)|false=>none)|false=>none)|false=>none)|false=>none)|false=>none)|false=>none)|false=>none)|false=>none)|false=>none)|false=>none)|false=>none)|false=>none))|false=>none)|false=>none)|false=>none)|false=>none)|false=>none)|false=>none)|false=>none)|false=>none
theorem aip(a b c:BV):RS amk 130 [.d tV a,.d tV b,.d tV c] (YJ a b c):=rsX
theorem V2(a b c:BV)(h:ok (Rat×Rat) 100 a∧ok (Rat×Rat) 100 b∧ok (Rat×Rat) 100 c):Con Tryz.prog 130 [.d tV a,.d tV b,.d tV c] [.d tO (Xd (dec a) (dec b) (dec c)),.d ax8 (RH (dec a) (dec b) (dec c))]:=by
 refine aR qF (aip _ _ _ ⟨0,?_⟩)
 obtain⟨ha,hb,hc⟩:=h
 obtain⟨a,rfl,ba⟩:=aU ha
 obtain⟨b,rfl,bb⟩:=aU hb
 obtain⟨c,rfl,bc⟩:=aU hc
 have e0:(b.1-a.1)*(c.2-a.2)-(b.2-a.2)*(c.1-a.1)=eo a b c:=rfl
 have bD:Bd (eo a b c) 805:=inferInstanceAs (Bd ((b.1-a.1)*(c.2-a.2)-(b.2-a.2)*(c.1-a.1)) _)
 have eX:(((b.1-a.1)*(b.1-a.1)+(b.2-a.2)*(b.2-a.2))*(c.2-a.2)-((c.1-a.1)*(c.1-a.1)+(c.2-a.2)*(c.2-a.2))*(b.2-a.2))/(eo a b c+eo a b c)=vP a b c:=rfl
 have eY:(((c.1-a.1)*(c.1-a.1)+(c.2-a.2)*(c.2-a.2))*(b.1-a.1)-((b.1-a.1)*(b.1-a.1)+(b.2-a.2)*(b.2-a.2))*(c.1-a.1))/(eo a b c+eo a b c)=vZ a b c:=rfl
 have m1:Bd ((b.1-a.1)*(b.1-a.1)+(b.2-a.2)*(b.2-a.2)) _:=inferInstance
 have m2:Bd ((c.1-a.1)*(c.1-a.1)+(c.2-a.2)*(c.2-a.2)) _:=inferInstance
 have n1:Bd (((b.1-a.1)*(b.1-a.1)+(b.2-a.2)*(b.2-a.2))*(c.2-a.2)-((c.1-a.1)*(c.1-a.1)+(c.2-a.2)*(c.2-a.2))*(b.2-a.2)) _:=inferInstance
 have n2:Bd (((c.1-a.1)*(c.1-a.1)+(c.2-a.2)*(c.2-a.2))*(b.1-a.1)-((b.1-a.1)*(b.1-a.1)+(b.2-a.2)*(b.2-a.2))*(c.1-a.1)) _:=inferInstance
 have bX0:Bd ((((b.1-a.1)*(b.1-a.1)+(b.2-a.2)*(b.2-a.2))*(c.2-a.2)-((c.1-a.1)*(c.1-a.1)+(c.2-a.2)*(c.2-a.2))*(b.2-a.2))/(eo a b c+eo a b c)) _:=inferInstance
 have bX:Bd (vP a b c) 4000:=by rw[←eX];exact bX0.mono (by decide)
 have bY0:Bd ((((c.1-a.1)*(c.1-a.1)+(c.2-a.2)*(c.2-a.2))*(b.1-a.1)-((b.1-a.1)*(b.1-a.1)+(b.2-a.2)*(b.2-a.2))*(c.1-a.1))/(eo a b c+eo a b c)) _:=inferInstance
 have bY:Bd (vZ a b c) 4000:=by rw[←eY];exact bY0.mono (by decide)
 unfold YJ Xd RH
 simp only[ak,am,aI,aJ,aG,az,aX,au4,au6,Nat.reduceAdd,Nat.reduceLeDiff,aM,e0]
 by_cases hd:eo a b c=0
 ·rw[au1 hd]
  rfl
 ·have h2:eo a b c+eo a b c≠0:=by grind
  rw[au3 hd]
  simp only[aF,Nat.reduceAdd,Nat.reduceLeDiff,cond_false,h2,ne_eq,awK,eX,eY]
  rfl
def Md:aO:=spN false true [tV,tV] (fun x=>decide (ok (Rat×Rat) 100 x.1∧ok (Rat×Rat) 100 x.2.1)) (fun x=>[RV.d tO (hid (UU (dec x.1) (dec x.2.1))),RV.d ax8 (UQ (dec x.1) (dec x.2.1))])
theorem Oi:SpK 128 Md:=spX fun x h=>by simp only[ak];exact XC x.1 x.2.1 (au0 h)
def Us:aO:=spN true true [tV,tV,tV] (fun x=>decide (ok (Rat×Rat) 100 x.1∧ok (Rat×Rat) 100 x.2.1∧ok (Rat×Rat) 100 x.2.2.1)) (fun x=>[RV.d ax8 (ur (dec x.1) (dec x.2.1) (dec x.2.2.1))])
theorem WI:SpK 129 Us:=spX fun x h=>adw x.1 x.2.1 x.2.2.1 (au0 h)
def KQ:aO:=spN false true [tV,tV,tV] (fun x=>decide (ok (Rat×Rat) 100 x.1∧ok (Rat×Rat) 100 x.2.1∧ok (Rat×Rat) 100 x.2.2.1)) (fun x=>[RV.d tO (hid (Xd (dec x.1) (dec x.2.1) (dec x.2.2.1))),RV.d ax8 (RH (dec x.1) (dec x.2.1) (dec x.2.2.1))])
theorem MH:SpK 130 KQ:=spX fun x h=>by simp only[ak];exact V2 x.1 x.2.1 x.2.2.1 (au0 h)
def Sj:Env:=(128,Md)::(129,Us)::(130,KQ)::DQ
theorem Fg:EnvAll Tryz.prog Sj:=⟨Oi,WI,MH,qF⟩
def akJ:Ctx:=CX Sj []
def Yz(a b:BV)(_k:KT):Option (List RV):=match decide (ok (Rat×Rat) 100 a∧ok (Rat×Rat) 100 b)with|true=>(match(UQ (dec a) (dec b)) !=0 with|true=>some [RV.d tCU (false,((((false,[]),(false,[])),(((false,[]),(false,[])),((false,[]),(false,[])))),((((false,[]),(false,[])),(((false,[]),(false,[])),((false,[]),(false,[])))),(false,((((false,[]),(false,[])),(((false,[]),(false,[])),(((false,[]),(false,[])),(((false,[]),(false,[])),((false,[]),(false,[])))))),(((false,[]),(false,[])),(((false,[]),(false,[])),(((false,[]),(false,[])),(((false,[]),(false,[])),((false,[]),(false,[]))))))))))),RV.d ax8 6]|false=>(match decide (ok (Rat×Rat) 100000 a)with|true=>(match decide (ok (Rat×Rat) 100000 b)with|true=>some [RV.d tCU (false,(hid (UU (dec a) (dec b)),((((false,[]),(false,[])),(((false,[]),(false,[])),((false,[]),(false,[])))),(false,(hid (enc (atP (dec a))),hid (enc (atP (dec b)))))))),RV.d ax8 0]|false=>none)|false=>none))|false=>none
theorem akm(a b:BV):RS akJ 46 [.d tV a,.d tV b] (Yz a b):=rsX
theorem XY(a b:BV)(h:ok (Rat×Rat) 100 a∧ok (Rat×Rat) 100 b):Con Tryz.prog 46 [.d tV a,.d tV b] [.d tCU (ye (dec a) (dec b)),.d ax8 (jl (dec a) (dec b))]:=by
 refine aR Fg (akm _ _ ⟨0,?_⟩)
 obtain⟨ha,hb⟩:=h
 obtain⟨a,rfl,ba⟩:=aU ha
 obtain⟨b,rfl,bb⟩:=aU hb
 unfold Yz ye jl UQ UU
 simp only[ak,am,okd,au4,au6,Nat.reduceLeDiff]
 cases yu a b<;>rfl
def aiT:Ctx:=CX Sj []
def V1(a b c:BV)(_k:KT):Option (List RV):=match decide (ok (Rat×Rat) 100 a∧ok (Rat×Rat) 100 b∧ok (Rat×Rat) 100 c)with|true=>(match decide (ok (Rat×Rat) 100 a∧ok (Rat×Rat) 100 b∧ok (Rat×Rat) 100 c)with|true=>(match(ur (dec a) (dec b) (dec c))==0 with|true=>some [RV.d tCU (false,((((false,[]),(false,[])),(((false,[]),(false,[])),((false,[]),(false,[])))),((((false,[]),(false,[])),(((false,[]),(false,[])),((false,[]),(false,[])))),(false,((((false,[]),(false,[])),(((false,[]),(false,[])),(((false,[]),(false,[])),(((false,[]),(false,[])),((false,[]),(false,[])))))),(((false,[]),(false,[])),(((false,[]),(false,[])),(((false,[]),(false,[])),(((false,[]),(false,[])),((false,[]),(false,[]))))))))))),RV.d ax8 6]|false=>(match(RH (dec a) (dec b) (dec c)) !=0 with|true=>some [RV.d tCU (false,((((false,[]),(false,[])),(((false,[]),(false,[])),((false,[]),(false,[])))),((((false,[]),(false,[])),(((false,[]),(false,[])),((false,[]),(false,[])))),(false,((((false,[]),(false,[])),(((false,[]),(false,[])),(((false,[]),(false,[])),(((false,[]),(false,[])),((false,[]),(false,[])))))),(((false,[]),(false,[])),(((false,[]),(false,[])),(((false,[]),(false,[])),(((false,[]),(false,[])),((false,[]),(false,[]))))))))))),RV.d ax8 6]|false=>(match decide (ok (Rat×Rat) 100000 a)with|true=>(match decide (ok (Rat×Rat) 100000 c)with|true=>some [RV.d tCU (true,((((false,[]),(false,[])),(((false,[]),(false,[])),((false,[]),(false,[])))),(hid (Xd (dec a) (dec b) (dec c)),(decide ((ur (dec a) (dec b) (dec c))<0),(hid (enc (atP (dec a))),hid (enc (atP (dec c)))))))),RV.d ax8 0]|false=>none)|false=>none)))|false=>none)|false=>none
theorem akP(a b c:BV):RS aiT 48 [.d tV a,.d tV b,.d tV c] (V1 a b c):=rsX
theorem XQ(a b c:BV)(h:ok (Rat×Rat) 100 a∧ok (Rat×Rat) 100 b∧ok (Rat×Rat) 100 c):Con Tryz.prog 48 [.d tV a,.d tV b,.d tV c] [.d tCU (xo (dec a) (dec b) (dec c)),.d ax8 (jM (dec a) (dec b) (dec c))]:=by
 refine aR Fg (akP _ _ _ ⟨0,?_⟩)
 obtain⟨ha,hb,hc⟩:=h
 obtain⟨a,rfl,ba⟩:=aU ha
 obtain⟨b,rfl,bb⟩:=aU hb
 obtain⟨c,rfl,bc⟩:=aU hc
 unfold V1 xo jM
 simp only[ak,am,okd,au4,au6,Nat.reduceLeDiff]
 rw[aj3]
 unfold RH Xd
 cases decide (eo a b c=0)<;>rfl
def AR:aO:=spN false true [tV,tV] (fun x=>decide (ok (Rat×Rat) 100 x.1∧ok (Rat×Rat) 100 x.2.1)) (fun x=>[RV.d tCU (hid (ye (dec x.1) (dec x.2.1))),RV.d ax8 (jl (dec x.1) (dec x.2.1))])
theorem zS:SpK 46 AR:=spX fun x h=>by simp only[ak];exact XY x.1 x.2.1 (au0 h)
def A0:aO:=spN false true [tV,tV,tV] (fun x=>decide (ok (Rat×Rat) 100 x.1∧ok (Rat×Rat) 100 x.2.1∧ok (Rat×Rat) 100 x.2.2.1)) (fun x=>[RV.d tCU (hid (xo (dec x.1) (dec x.2.1) (dec x.2.2.1))),RV.d ax8 (jM (dec x.1) (dec x.2.1) (dec x.2.2.1))])
theorem Ao:SpK 48 A0:=spX fun x h=>by simp only[ak];exact XQ x.1 x.2.1 x.2.2.1 (au0 h)
def fq(c:Cv):List BP→BP→List BP
 |[],x=>[x]
 |y::r,x=>bif decide (cB c (dec y) (dec x)<0)then y::fq c r x else bif b9 (dec y) (dec x)==0 then y::r else x::y::r
def gk(c:Cv)(l:List BP):List BP:=l.foldl (fq c) []
def uy(c:BCU)(l:List BP):Prop:=okC 4000 c∧l.length≤1000000∧∀x∈l,okP 4000 x
instance (c:BCU) (l:List BP):Decidable (uy c l):=by unfold uy;infer_instance
theorem mS{c:Cv}{x y:BP}:∀{r:List BP},y∈fq c r x→y∈r∨y=x
 |[],h=>by simp only[fq,awZ]at h;exact .inr h
 |z::r,h=>by
  simp only[fq]at h
  cases h1:decide (cB c (dec z) (dec x)<0)<;>rw[h1]at h
  ·cases h2:b9 (dec z) (dec x)==0<;>rw[h2]at h
   ·rcases avz.1 h with h|h
    ·exact .inr h
    ·exact .inl h
   ·exact .inl h
  ·rcases avz.1 h with h|h
   ·exact .inl (by simp[h])
   ·rcases mS h with h|h
    ·exact .inl (avo _ h)
    ·exact .inr h
theorem xS(c:Cv)(x:BP):∀r:List BP,(fq c r x).length≤r.length+1
 |[]=>by simp[fq]
 |z::r=>by
  have:=xS c x r
  simp only[fq]
  cases decide (cB c (dec z) (dec x)<0)
  ·cases b9 (dec z) (dec x)==0<;>simp
  ·simp only[cond_true,avw];omega
theorem C2{c:Cv}:∀{l out:List BP} {y:BP},y∈l.foldl (fq c) out→y∈out∨y∈l
 |[],_,_,h=>.inl h
 |x::l,out,y,h=>by
  rcases C2 (l:=l) (out:=fq c out x) h with h|h
  ·rcases mS h with h|h
   ·exact .inl h
   ·exact .inr (by simp[h])
  ·exact .inr (avo _ h)
theorem uR(c:Cv):∀(l out:List BP),(l.foldl (fq c) out).length≤out.length+l.length
 |[],_=>avb _
 |x::l,out=>by
  have h1:=uR c l (fq c out x)
  have h2:=xS c x out
  simp only[List.foldl_cons,avw]
  omega
theorem Of{α:Type}{l:List α}{k:Nat}(h:k<l.length):l.take (k+1)=l.take k++[l[k]]:=by rw[List.take_succ_eq_append_getElem h]
def afF:Env:=[(81,wk),(19,rU),(122,Cc)]
theorem Zc:EnvAll Tryz.prog afF:=⟨rh,nz,zj,trivial⟩
def akO:NT:=[((95,8),{keep:=[1,2,5,6],pure_:=[(5,tP)],hl:=1}),((95,21),{keep:=[1,2,5,6,7],pure_:=[(5,tP)],hl:=1})]
def uq:Ctx:=CX afF akO
def jq(c:BCU)(l:List BP)(s6:Int)(s5:List BP):Cfg:=⟨95,[.blk 0,.seq 38],[(1,.d (.sl tP) l),(2,.box 0 0),(5,.d (.sl tP) s5),(6,SI s6)],[.box 43 [SB c.1,SB c.2.1.1.1.1,.d ax7 c.2.1.1.1.2,SB c.2.1.1.2.1,.d ax7 c.2.1.1.2.2,SB c.2.1.2.1.1.1,.d ax7 c.2.1.2.1.1.2,SB c.2.1.2.1.2.1,.d ax7 c.2.1.2.1.2.2,SB c.2.1.2.2.1.1,.d ax7 c.2.1.2.2.1.2,SB c.2.1.2.2.2.1,.d ax7 c.2.1.2.2.2.2,SB c.2.2.1.1.1.1,.d ax7 c.2.2.1.1.1.2,SB c.2.2.1.1.2.1,.d ax7 c.2.2.1.1.2.2,SB c.2.2.1.2.1.1.1,.d ax7 c.2.2.1.2.1.1.2,SB c.2.2.1.2.1.2.1,.d ax7 c.2.2.1.2.1.2.2,SB c.2.2.1.2.2.1.1,.d ax7 c.2.2.1.2.2.1.2,SB c.2.2.1.2.2.2.1,.d ax7 c.2.2.1.2.2.2.2,SB c.2.2.2.1,SB c.2.2.2.2.1.1.1.1,.d ax7 c.2.2.2.2.1.1.1.2,SB c.2.2.2.2.1.1.2.1,.d ax7 c.2.2.2.2.1.1.2.2,SB c.2.2.2.2.1.2.1.1.1,.d ax7 c.2.2.2.2.1.2.1.1.2,SB c.2.2.2.2.1.2.1.2.1,.d ax7 c.2.2.2.2.1.2.1.2.2,SB c.2.2.2.2.1.2.2.1.1.1,.d ax7 c.2.2.2.2.1.2.2.1.1.2,SB c.2.2.2.2.1.2.2.1.2.1,.d ax7 c.2.2.2.2.1.2.2.1.2.2,SB c.2.2.2.2.1.2.2.2.1.1.1,.d ax7 c.2.2.2.2.1.2.2.2.1.1.2,SB c.2.2.2.2.1.2.2.2.1.2.1,.d ax7 c.2.2.2.2.1.2.2.2.1.2.2,SB c.2.2.2.2.1.2.2.2.2.1.1,.d ax7 c.2.2.2.2.1.2.2.2.2.1.2,SB c.2.2.2.2.1.2.2.2.2.2.1,.d ax7 c.2.2.2.2.1.2.2.2.2.2.2,SB c.2.2.2.2.2.1.1.1,.d ax7 c.2.2.2.2.2.1.1.2,SB c.2.2.2.2.2.1.2.1,.d ax7 c.2.2.2.2.2.1.2.2,SB c.2.2.2.2.2.2.1.1.1,.d ax7 c.2.2.2.2.2.2.1.1.2,SB c.2.2.2.2.2.2.1.2.1,.d ax7 c.2.2.2.2.2.2.1.2.2,SB c.2.2.2.2.2.2.2.1.1.1,.d ax7 c.2.2.2.2.2.2.2.1.1.2,SB c.2.2.2.2.2.2.2.1.2.1,.d ax7 c.2.2.2.2.2.2.2.1.2.2,SB c.2.2.2.2.2.2.2.2.1.1.1,.d ax7 c.2.2.2.2.2.2.2.2.1.1.2,SB c.2.2.2.2.2.2.2.2.1.2.1,.d ax7 c.2.2.2.2.2.2.2.2.1.2.2,SB c.2.2.2.2.2.2.2.2.2.1.1,.d ax7 c.2.2.2.2.2.2.2.2.2.1.2,SB c.2.2.2.2.2.2.2.2.2.2.1,.d ax7 c.2.2.2.2.2.2.2.2.2.2.2]],0,[]⟩
def uA(c:BCU)(l s5:List BP)(s6 s7:Int):Cfg:=⟨95,[.blk 2,.seq 30,.blk 1,.seq 37,.lp 8,.blk 0,.seq 38],[(1,.d (.sl tP) l),(2,.box 0 0),(5,.d (.sl tP) s5),(6,SI s6),(7,SI s7)],[.box 43 [SB c.1,SB c.2.1.1.1.1,.d ax7 c.2.1.1.1.2,SB c.2.1.1.2.1,.d ax7 c.2.1.1.2.2,SB c.2.1.2.1.1.1,.d ax7 c.2.1.2.1.1.2,SB c.2.1.2.1.2.1,.d ax7 c.2.1.2.1.2.2,SB c.2.1.2.2.1.1,.d ax7 c.2.1.2.2.1.2,SB c.2.1.2.2.2.1,.d ax7 c.2.1.2.2.2.2,SB c.2.2.1.1.1.1,.d ax7 c.2.2.1.1.1.2,SB c.2.2.1.1.2.1,.d ax7 c.2.2.1.1.2.2,SB c.2.2.1.2.1.1.1,.d ax7 c.2.2.1.2.1.1.2,SB c.2.2.1.2.1.2.1,.d ax7 c.2.2.1.2.1.2.2,SB c.2.2.1.2.2.1.1,.d ax7 c.2.2.1.2.2.1.2,SB c.2.2.1.2.2.2.1,.d ax7 c.2.2.1.2.2.2.2,SB c.2.2.2.1,SB c.2.2.2.2.1.1.1.1,.d ax7 c.2.2.2.2.1.1.1.2,SB c.2.2.2.2.1.1.2.1,.d ax7 c.2.2.2.2.1.1.2.2,SB c.2.2.2.2.1.2.1.1.1,.d ax7 c.2.2.2.2.1.2.1.1.2,SB c.2.2.2.2.1.2.1.2.1,.d ax7 c.2.2.2.2.1.2.1.2.2,SB c.2.2.2.2.1.2.2.1.1.1,.d ax7 c.2.2.2.2.1.2.2.1.1.2,SB c.2.2.2.2.1.2.2.1.2.1,.d ax7 c.2.2.2.2.1.2.2.1.2.2,SB c.2.2.2.2.1.2.2.2.1.1.1,.d ax7 c.2.2.2.2.1.2.2.2.1.1.2,SB c.2.2.2.2.1.2.2.2.1.2.1,.d ax7 c.2.2.2.2.1.2.2.2.1.2.2,SB c.2.2.2.2.1.2.2.2.2.1.1,.d ax7 c.2.2.2.2.1.2.2.2.2.1.2,SB c.2.2.2.2.1.2.2.2.2.2.1,.d ax7 c.2.2.2.2.1.2.2.2.2.2.2,SB c.2.2.2.2.2.1.1.1,.d ax7 c.2.2.2.2.2.1.1.2,SB c.2.2.2.2.2.1.2.1,.d ax7 c.2.2.2.2.2.1.2.2,SB c.2.2.2.2.2.2.1.1.1,.d ax7 c.2.2.2.2.2.2.1.1.2,SB c.2.2.2.2.2.2.1.2.1,.d ax7 c.2.2.2.2.2.2.1.2.2,SB c.2.2.2.2.2.2.2.1.1.1,.d ax7 c.2.2.2.2.2.2.2.1.1.2,SB c.2.2.2.2.2.2.2.1.2.1,.d ax7 c.2.2.2.2.2.2.2.1.2.2,SB c.2.2.2.2.2.2.2.2.1.1.1,.d ax7 c.2.2.2.2.2.2.2.2.1.1.2,SB c.2.2.2.2.2.2.2.2.1.2.1,.d ax7 c.2.2.2.2.2.2.2.2.1.2.2,SB c.2.2.2.2.2.2.2.2.2.1.1,.d ax7 c.2.2.2.2.2.2.2.2.2.1.2,SB c.2.2.2.2.2.2.2.2.2.2.1,.d ax7 c.2.2.2.2.2.2.2.2.2.2.2]],0,[]⟩
def anJ(c:BCU)(l:List BP)(k:KT):Option (List RV):=k 8 (jq c l 0 ([]))
theorem apk(c:BCU)(l:List BP):RS uq 95 [.d tCU c,.d (.sl tP) l] (anJ c l):=rsX
def xV(c:BCU)(l:List BP)(s6:Int)(s5:List BP)(k:KT):Option (List RV):=match decide (s6<(l.length:Int))with|true=>k 21 (uA c l s5 s6 0)|false=>some [RV.d (.sl tP) s5]
theorem E7(c:BCU)(l:List BP)(s6:Int)(s5:List BP):RN uq 8 (jq c l s6 s5) (xV c l s6 s5):=rnX
def sL(c:BCU)(l s5:List BP)(s6 s7:Int)(k:KT):Option (List RV):=match decide (s7<(s5.length:Int))with|true=>(match bG s5 s7 with|some x1=>(match bG l s6 with|some x2=>(match decide (okC 4000 c∧okP 4000 x1∧okP 4000 x2)with|true=>(match decide ((cB (dC c) (dec x1) (dec x2))<0)with|true=>k 21 (uA c l s5 s6 (i64.wrap (s7+1)))|false=>(match decide (s7<(s5.length:Int))with|true=>(match bG s5 s7 with|some x3=>(match bG l s6 with|some x4=>(match decide (okP 4000 x3∧okP 4000 x4)with|true=>(match b9 (dec x3) (dec x4)==0 with|true=>k 8 (jq c l (i64.wrap (s6+1)) s5)|false=>(match decide ((0:Int)≤0∧0≤s7∧s7≤(s5.length:Int))with|true=>(match bG l s6 with|some x5=>(match decide ((0:Int)≤s7∧s7≤(s5.length:Int)∧(s5.length:Int)≤(s5.length:Int))with|true=>dup (.b (.b .l .l) .l) (match decide ((([]:List BP).length+((s5.take (s7).toNat).drop (0:Int).toNat).length)*320≤140737488355328∧([]:List BP).length+((s5.take (s7).toNat).drop (0:Int).toNat).length≤140737488355328)with|true=>(match decide (((([]:List BP)++((s5.take (s7).toNat).drop (0:Int).toNat)).length+([x5]).length)*320≤140737488355328∧(([]:List BP)++((s5.take (s7).toNat).drop (0:Int).toNat)).length+([x5]).length≤140737488355328)with|true=>(match decide ((((([]:List BP)++((s5.take (s7).toNat).drop (0:Int).toNat))++([x5])).length+((s5.take ((s5.length:Int)).toNat).drop (s7:Int).toNat).length)*320≤140737488355328∧((([]:List BP)++((s5.take (s7).toNat).drop (0:Int).toNat))++([x5])).length+((s5.take ((s5.length:Int)).toNat).drop (s7:Int).toNat).length≤140737488355328)with|true=>k 8 (jq c l (i64.wrap (s6+1)) (((([]:List BP)++((s5.take (s7).toNat).drop (0:Int).toNat))++([x5]))++((s5.take ((s5.length:Int)).toNat).drop (s7:Int).toNat)))|false=>none)|false=>none)|false=>none)|false=>none)|none=>none)|false=>none))|false=>none)|none=>none)|none=>none)|false=>(match decide ((0:Int)≤0∧0≤s7∧s7≤(s5.length:Int))with|true=>(match bG l s6 with|some x3=>(match decide ((0:Int)≤s7∧s7≤(s5.length:Int)∧(s5.length:Int)≤(s5.length:Int))with|true=>dup (.b (.b .l .l) .l) (match decide ((([]:List BP).length+((s5.take (s7).toNat).drop (0:Int).toNat).length)*320≤140737488355328∧([]:List BP).length+((s5.take (s7).toNat).drop (0:Int).toNat).length≤140737488355328)with|true=>(match decide (((([]:List BP)++((s5.take (s7).toNat).drop (0:Int).toNat)).length+([x3]).length)*320≤140737488355328∧(([]:List BP)++((s5.take (s7).toNat).drop (0:Int).toNat)).length+([x3]).length≤140737488355328)with|true=>(match decide ((((([]:List BP)++((s5.take (s7).toNat).drop (0:Int).toNat))++([x3])).length+((s5.take ((s5.length:Int)).toNat).drop (s7:Int).toNat).length)*320≤140737488355328∧((([]:List BP)++((s5.take (s7).toNat).drop (0:Int).toNat))++([x3])).length+((s5.take ((s5.length:Int)).toNat).drop (s7:Int).toNat).length≤140737488355328)with|true=>k 8 (jq c l (i64.wrap (s6+1)) (((([]:List BP)++((s5.take (s7).toNat).drop (0:Int).toNat))++([x3]))++((s5.take ((s5.length:Int)).toNat).drop (s7:Int).toNat)))|false=>none)|false=>none)|false=>none)|false=>none)|none=>none)|false=>none)))|false=>none)|none=>none)|none=>none)|false=>(match decide (s7<(s5.length:Int))with|true=>(match bG s5 s7 with|some x1=>(match bG l s6 with|some x2=>(match decide (okP 4000 x1∧okP 4000 x2)with|true=>(match b9 (dec x1) (dec x2)==0 with|true=>k 8 (jq c l (i64.wrap (s6+1)) s5)|false=>(match decide ((0:Int)≤0∧0≤s7∧s7≤(s5.length:Int))with|true=>(match bG l s6 with|some x3=>(match decide ((0:Int)≤s7∧s7≤(s5.length:Int)∧(s5.length:Int)≤(s5.length:Int))with|true=>dup (.b (.b .l .l) .l) (match decide ((([]:List BP).length+((s5.take (s7).toNat).drop (0:Int).toNat).length)*320≤140737488355328∧([]:List BP).length+((s5.take (s7).toNat).drop (0:Int).toNat).length≤140737488355328)with|true=>(match decide (((([]:List BP)++((s5.take (s7).toNat).drop (0:Int).toNat)).length+([x3]).length)*320≤140737488355328∧(([]:List BP)++((s5.take (s7).toNat).drop (0:Int).toNat)).length+([x3]).length≤140737488355328)with|true=>(match decide ((((([]:List BP)++((s5.take (s7).toNat).drop (0:Int).toNat))++([x3])).length+((s5.take ((s5.length:Int)).toNat).drop (s7:Int).toNat).length)*320≤140737488355328∧((([]:List BP)++((s5.take (s7).toNat).drop (0:Int).toNat))++([x3])).length+((s5.take ((s5.length:Int)).toNat).drop (s7:Int).toNat).length≤140737488355328)with|true=>k 8 (jq c l (i64.wrap (s6+1)) (((([]:List BP)++((s5.take (s7).toNat).drop (0:Int).toNat))++([x3]))++((s5.take ((s5.length:Int)).toNat).drop (s7:Int).toNat)))|false=>none)|false=>none)|false=>none)|false=>none)|none=>none)|false=>none))|false=>none)|none=>none)|none=>none)|false=>(match decide ((0:Int)≤0∧0≤s7∧s7≤(s5.length:Int))with|true=>(match bG l s6 with|some x1=>(match decide ((0:Int)≤s7∧s7≤(s5.length:Int)∧(s5.length:Int)≤(s5.length:Int))with|true=>dup (.b (.b .l .l) .l) (match decide ((([]:List BP).length+((s5.take (s7).toNat).drop (0:Int).toNat).length)*320≤140737488355328∧([]:List BP).length+((s5.take (s7).toNat).drop (0:Int).toNat).length≤140737488355328)with|true=>(match decide (((([]:List BP)++((s5.take (s7).toNat).drop (0:Int).toNat)).length+([x1]).length)*320≤140737488355328∧(([]:List BP)++((s5.take (s7).toNat).drop (0:Int).toNat)).length+([x1]).length≤140737488355328)with|true=>(match decide ((((([]:List BP)++((s5.take (s7).toNat).drop (0:Int).toNat))++([x1])).length+((s5.take ((s5.length:Int)).toNat).drop (s7:Int).toNat).length)*320≤140737488355328∧((([]:List BP)++((s5.take (s7).toNat).drop (0:Int).toNat))++([x1])).length+((s5.take ((s5.length:Int)).toNat).drop (s7:Int).toNat).length≤140737488355328)with|true=>k 8 (jq c l (i64.wrap (s6+1)) (((([]:List BP)++((s5.take (s7).toNat).drop (0:Int).toNat))++([x1]))++((s5.take ((s5.length:Int)).toNat).drop (s7:Int).toNat)))|false=>none)|false=>none)|false=>none)|false=>none)|none=>none)|false=>none))
theorem Ag(c:BCU)(l s5:List BP)(s6 s7:Int):RN uq 21 (uA c l s5 s6 s7) (sL c l s5 s6 s7):=rnX
theorem al7(c:BCU)(l:List BP)(hc:okC 4000 c)(hl:∀x∈l,okP 4000 x)(out:List BP)(ho:∀x∈out,okP 4000 x)(hlen:out.length≤1000000)(i:Nat)(hi:i<l.length)(hi2:i≤1000000)(r:List RV)(h:uq.Runs 8 (jq c l ((i+1:Nat):Int) (fq (dC c) out l[i])) r):
  ∀(j k:Nat),k+j=out.length→fq (dC c) out l[i]=out.take k++fq (dC c) (out.drop k) l[i]→uq.Runs 21 (uA c l out (i:Int) (k:Int)) r:=by
 have e0:i64.wrap ((i:Int)+1)=((i+1:Nat):Int):=cD (by omega)
 have gl:bG l (i:Int)=some l[i]:=by rw[aD,au2 hi]
 have hx:=hl _ (avF hi)
 have tl:out.take ((out.length:Int)).toNat=out:=by simp
 have put:∀k:Nat,k≤out.length→fq (dC c) out l[i]=out.take k++[l[i]]++out.drop k→∃n,(match decide ((0:Int)≤0∧0≤(k:Int)∧(k:Int)≤(out.length:Int))with
   |true=>(match bG l (i:Int)with
    |some x5=>(match decide ((0:Int)≤(k:Int)∧(k:Int)≤(out.length:Int)∧(out.length:Int)≤(out.length:Int))with
     |true=>(match decide ((([]:List BP).length+((out.take ((k:Int)).toNat).drop (0:Int).toNat).length)*320≤140737488355328∧([]:List BP).length+((out.take ((k:Int)).toNat).drop (0:Int).toNat).length≤140737488355328)with
      |true=>(match decide (((([]:List BP)++((out.take ((k:Int)).toNat).drop (0:Int).toNat)).length+([x5]).length)*320≤140737488355328∧(([]:List BP)++((out.take ((k:Int)).toNat).drop (0:Int).toNat)).length+([x5]).length≤140737488355328)with
       |true=>(match decide ((((([]:List BP)++((out.take ((k:Int)).toNat).drop (0:Int).toNat))++([x5])).length+((out.take ((out.length:Int)).toNat).drop ((k:Int)).toNat).length)*320≤140737488355328∧((([]:List BP)++((out.take ((k:Int)).toNat).drop (0:Int).toNat))++([x5])).length+((out.take ((out.length:Int)).toNat).drop ((k:Int)).toNat).length≤140737488355328)with
        |true=>uq.k n 8 (jq c l (i64.wrap ((i:Int)+1)) (((([]:List BP)++((out.take ((k:Int)).toNat).drop (0:Int).toNat))++([x5]))++((out.take ((out.length:Int)).toNat).drop ((k:Int)).toNat)))
        |false=>none)
       |false=>none)
      |false=>none)
     |false=>none)
    |none=>none)
   |false=>none)=some r:=by
  intro k hk he
  have e1:((out.take ((k:Int)).toNat).drop (0:Int).toNat)=out.take k:=by simp
  have e2:((out.take ((out.length:Int)).toNat).drop ((k:Int)).toNat)=out.drop k:=by simp
  have l1:(out.take k).length=k:=by simp;omega
  have l2:(out.drop k).length=out.length-k:=by simp
  obtain⟨n,hn⟩:=h
  refine⟨n,?_⟩
  rw[gl,dT (show(0:Int)≤0∧0≤(k:Int)∧(k:Int)≤(out.length:Int) by omega)]
  dsimp only
  rw[dT (show(0:Int)≤(k:Int)∧(k:Int)≤(out.length:Int)∧(out.length:Int)≤(out.length:Int) by omega)]
  simp only[e1,e2,axq,List.length_nil,avT,avw,l1,l2,avD]
  rw[dT (by omega),dT (by omega),dT (by omega),e0,←he]
  exact hn
 intro j
 induction j with
 |zero=>
  intro k hk he
  have hk:k=out.length:=by omega
  subst hk
  refine Ag _ _ _ _ _ ?_
  unfold sL
  rw[cC (by omega)]
  simp only[aP]
  refine put _ (avb _) ?_
  rw[he]
  simp[fq]
 |succ j ih=>
  intro k hk he
  have hkl:k<out.length:=by omega
  have go:bG out (k:Int)=some out[k]:=by rw[aD,au2 hkl]
  have ho1:=ho _ (avF hkl)
  have ek:i64.wrap ((k:Int)+1)=((k+1:Nat):Int):=cD (by omega)
  have hd:out.drop k=out[k]::out.drop (k+1):=avk hkl
  refine Ag _ _ _ _ _ ?_
  unfold sL
  simp only[aP,bS hkl,go,gl,dT (show okC 4000 c∧okP 4000 out[k]∧okP 4000 l[i] from⟨hc,ho1,hx⟩),dT (show okP 4000 out[k]∧okP 4000 l[i] from⟨ho1,hx⟩)]
  rw[hd]at he
  simp only[fq]at he
  cases h1:decide (cB (dC c) (dec out[k]) (dec l[i])<0)<;>rw[h1]at he
  ·simp only[cond_false]at he
   cases h2:b9 (dec out[k]) (dec l[i])==0<;>rw[h2]at he
   ·simp only[cond_false]at he
    have:=put k (by omega) (by rw[he,hd];simp)
    simp only[gl]at this
    exact this
   ·simp only[cond_true]at he
    rw[←hd,awr]at he
    obtain⟨n,hn⟩:=h
    refine⟨n,?_⟩
    rw[e0]
    rw[he]at hn
    exact hn
  ·simp only[cond_true]at he
   obtain⟨n,hn⟩:=ih (k+1) (by omega) (by rw[he,Of hkl,awd];rfl)
   refine⟨n,?_⟩
   rw[ek]
   exact hn
theorem acQ(c:BCU)(l:List BP)(hc:okC 4000 c)(hl:∀x∈l,okP 4000 x)(hle:l.length≤1000000):∀(j i:Nat),i+j=l.length→∀out:List BP,(∀x∈out,okP 4000 x)→out.length≤i→uq.Runs 8 (jq c l (i:Int) out) [.d (.sl tP) ((l.drop i).foldl (fq (dC c)) out)]:=by
 intro j
 induction j with
 |zero=>
  intro i hi out ho hlen
  refine E7 _ _ _ _ ⟨0,?_⟩
  unfold xV
  rw[cC (by omega),jk (by omega)]
  rfl
 |succ j ih=>
  intro i hi out ho hlen
  have hil:i<l.length:=by omega
  have h2:=ih (i+1) (by omega) (fq (dC c) out l[i]) (fun x hx=>by
   rcases mS hx with h|h
   ·exact ho x h
   ·rw[h];exact hl _ (avF hil)) (avm (xS _ _ _) (by omega))
  obtain⟨n,hn⟩:=al7 c l hc hl out ho (by omega) i hil (by omega) _ h2 out.length 0 (by omega) (by simp)
  refine E7 _ _ _ _ ⟨n,?_⟩
  unfold xV
  rw[bS hil,kC hil,List.foldl_cons]
  exact hn
theorem acG(c:BCU)(l:List BP)(h:uy c l):Con Tryz.prog 95 [.d tCU c,.d (.sl tP) l] [.d (.sl tP) (gk (dC c) l)]:=by
 obtain⟨hc,hle,hl⟩:=h
 refine aR Zc (show uq.Res _ _ _ from ?_)
 obtain⟨n,hn⟩:=acQ c l hc hl hle l.length 0 (by omega) [] (fun x hx=>by cases hx) (avb _)
 exact apk _ _ ⟨n,hn⟩
def H5:aO:=spN false false [tCU,(.sl tP)] (fun x=>decide (uy x.1 x.2.1)) (fun x=>[RV.d (.sl tP) (gk (dC x.1) x.2.1)])
theorem ET:SpK 95 H5:=spX fun x h=>acG x.1 x.2.1 (au0 h)
end Go.Proofs.YtlahabkjhgkkjaaGreat
end
