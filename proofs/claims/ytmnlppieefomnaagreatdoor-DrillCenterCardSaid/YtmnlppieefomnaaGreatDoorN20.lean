/- The law DrillCenter returns true. -/
import Derived.Test.YtmnlppieefomnaaGreatDoorN19
import Derived.Test.YtmnlppieefomnaaGreatDoorN16
import Derived.Stop.Joined
import Derived.Test.YtmnlppieefomnaaGreatDoorCards
import Derived.Test.YtmnlppieefomnaaGreatDoorTie
import Derived.Test.YtmnlppieefomnaaGreatDoorN2
import Derived.LaidMore
import Derived.SevenTiedAt
noncomputable section
namespace Go.Proofs.YtmnlppieefomnaaGreatDoor
open Go.RowKit Go.IntKind
section
open RE
def Vc(a:BR):Prop:=(∀l∈a.1.2,0<=l)/\∀l∈a.2.2,0<=l
def aeX(s:List Frm)(c:BO3):Prop:=(∀x∈s,KR x)/\Vc c.1/\Vc c.2.1/\Vc c.2.2
instance (s:List Frm) (c:BO3):Decidable (aeX s c):=Classical.propDecidable _
theorem GO{a:BR}(h:okR a/\(a.1.2.length:Int)<=3/\(a.2.2.length:Int)<=3){k:Nat}(hk:3<=k)(hk2:k<=480000):ok Rat k a:=by
 obtain⟨h1,h2,h3⟩:=h;obtain⟨q,rfl,_⟩:=fT h1;have h2:((ah q.num).2.length:Int)<=3:=h2;have h3:((ah (q.den:Int)).2.length:Int)<=3:=h3;have b:Bd q 3:=⟨⟨by show(ah q.num).2.length<=3;omega,by show(ah (q.den:Int)).2.length<=3;omega⟩⟩
 exact amj (okd (x:=q) hk hk2)
def LH:List En:=[enT af1,enL adv,enK aif,enL ajG,enL Vr,enL ah5]
def acI:NT:=[((3,6),{keep:=[0,2,4,22,23],hl:=99}),((3,57),{keep:=[62,63,64],pure_:=[(62,acZ)],hl:=0})]
def jS:Ctx:=CX (ens LH) acI
def wM(s:List Frm)(c:BO3)(kind:Int):Cfg:=⟨3,[.blk 0,.seq 25],[(0,.d (.sl (y9Y)) s),(2,SI kind),(4,.box 0 0),(22,.d tO c),(23,SI 0)],[.box 29 (Ty.split tO c)],0,[]⟩
def sC(s:List Frm)(c:BO3)(kind:Int):Cfg:=⟨3,[.blk 0,.seq 25],[(0,.d (.sl (y9Y)) s),(2,SI kind),(4,.box 0 0),(22,.d tO c),(23,SI 1)],[.box 29 (Ty.split tO c),.box 28 (Ty.split tR c.1)],0,[]⟩
def xV(s:List Frm)(c:BO3)(kind:Int):Cfg:=⟨3,[.blk 0,.seq 25],[(0,.d (.sl (y9Y)) s),(2,SI kind),(4,.box 0 0),(22,.d tO c),(23,SI 2)],[.box 29 (Ty.split tO c),.box 28 (Ty.split tR c.1),.box 28 (Ty.split tR c.2.1)],0,[]⟩
def sW(s:List Frm)(c:BO3)(kind:Int):Cfg:=⟨3,[.blk 0,.seq 25],[(0,.d (.sl (y9Y)) s),(2,SI kind),(4,.box 0 0),(22,.d tO c),(23,SI 3)],[.box 29 (Ty.split tO c),.box 28 (Ty.split tR c.1),.box 28 (Ty.split tR c.2.1),.box 28 (Ty.split tR c.2.2)],0,[]⟩
def jT(s62:List Ftr)(s63 s64:Int):Cfg:=⟨3,[.blk 2,.seq 80],[(62,.d (.sl (acZ)) s62),(63,SI s63),(64,SI s64)],[],0,[]⟩
def age(s:List Frm)(c:BO3)(kind:Int)(k:KT):OLR:=k 6 (wM s c kind)
theorem afG(s:List Frm)(c:BO3)(kind:Int):RS jS 3 [.d (.sl (y9Y)) s,.d tO c,SI kind] (age s c kind):=rsX
def nV(s:List Frm)(c:BO3)(kind:Int)(k:KT):OLR:=og (decide (qG c.1 (3:Int))) (match !(lP c.1 (3:Int))with|true=>some [RV.d .bool true]|false=>k 6 (sC s c kind))
theorem rD(s:List Frm)(c:BO3)(kind:Int):RN jS 6 (wM s c kind) (nV s c kind):=rnX
def qR(s:List Frm)(c:BO3)(kind:Int)(k:KT):OLR:=og (decide (qG c.2.1 (3:Int))) (match !(lP c.2.1 (3:Int))with|true=>some [RV.d .bool true]|false=>k 6 (xV s c kind))
theorem xA(s:List Frm)(c:BO3)(kind:Int):RN jS 6 (sC s c kind) (qR s c kind):=rnX
def rW(s:List Frm)(c:BO3)(kind:Int)(k:KT):OLR:=og (decide (qG c.2.2 (3:Int))) (match !(lP c.2.2 (3:Int))with|true=>some [RV.d .bool true]|false=>k 6 (sW s c kind))
theorem wT(s:List Frm)(c:BO3)(kind:Int):RN jS 6 (xV s c kind) (rW s c kind):=rnX
def iz(s:List Frm)(c:BO3)(kind:Int)(k:KT):OLR:=og (decide (KG s (8:Int))) (match(zq s (8:Int)).2 with|true=>(og (decide (vN (c.1,(c.2.1,c.2.2)))) (match zB (c.1,(c.2.1,c.2.2))==0 with|true=>k 57 (jT ([(⟨#[]⟩,(kind,(0,(zq s (8:Int)).1))),((hid (zu c.1 c.2.1 c.2.2 (1000:Int))).1,(kind,((hid (zu c.1 c.2.1 c.2.2 (1000:Int))).2).2))]) 2 0)|false=>k 57 (jT ([(⟨#[]⟩,(kind,(0,(zq s (8:Int)).1)))]) 1 0)))|false=>(og (decide (vN (c.1,(c.2.1,c.2.2)))) (match zB (c.1,(c.2.1,c.2.2))==0 with|true=>k 57 (jT ([((hid (zu c.1 c.2.1 c.2.2 (1000:Int))).1,(kind,((hid (zu c.1 c.2.1 c.2.2 (1000:Int))).2).2))]) 1 0)|false=>k 57 (jT ([]) 0 0))))
theorem F7(s:List Frm)(c:BO3)(kind:Int):RN jS 6 (sW s c kind) (iz s c kind):=rnX
def vd(s62:List Ftr)(s63 s64:Int)(k:KT):OLR:=match decide (s64<s63)with|true=>(match aH s62 s64 with|some x1=>(og (decide (zj x1)) (og (decide (zj x1)) (match !((((hid (DM x1)).1)==((hid (DM x1)).1))&&((((hid (DM x1)).2)==((hid (DM x1)).2))&&true))with|true=>some [RV.d .bool false]|false=>(match(K6 x1) !=(K6 x1)with|true=>some [RV.d .bool false]|false=>(match(Ke x1) !=(Ke x1)with|true=>some [RV.d .bool false]|false=>k 57 (jT s62 s63 (i64.wrap (s64+1))))))))|none=>none)|false=>some [RV.d .bool true]
theorem AY(s62:List Ftr)(s63 s64:Int):RN jS 57 (jT s62 s63 s64) (vd s62 s63 s64):=rnX
theorem adx{l:List Ftr}(h:∀f∈l,zj f)(hl:l.length<=10):∀(j i:Nat),i+j=l.length->jS.Runs 57 (jT l (l.length:Int) (i:Int)) [.d .bool true]:=by
 intro j;induction j with
 |zero=>
  intro i hi;refine AY _ _ _ ⟨0,?_⟩;unfold vd;rw[dF (show ¬(i:Int)<(l.length:Int) by omega)]
 |succ j ih=>
  intro i hi;have hil:i<l.length:=by omega
  obtain⟨n,hn⟩:=ih (i+1) (by omega);refine AY _ _ _ ⟨n,?_⟩;unfold vd;rw[dT (show(i:Int)<(l.length:Int) by omega),ai,amg hil,aT (by omega)];dsimp only;rw[dT (h _ (ams hil))];simp only[beq_self_eq_true,aoC];exact hn
def afY:Cn 3 [(.sl (y9Y)),tO,apE]:=cn λ(s:List Frm) (c:BO3) (kind:Int)=>lf (aeX s c) [.d .bool true] λh=>by
 obtain⟨hs,a1,a2,a3⟩:=h;have p1:qG c.1 3:=Co a1.1 a1.2 (by decide);have p2:qG c.2.1 3:=Co a2.1 a2.2 (by decide);have p3:qG c.2.2 3:=Co a3.1 a3.2 (by decide)
 have u3:jS.Runs 6 (sW s c kind) [.d .bool true]\/(lP c.1 3&&(lP c.2.1 3&&lP c.2.2 3))=false:=by
  cases q:lP c.1 3&&(lP c.2.1 3&&lP c.2.2 3)
  ·exact .inr rfl
  left;simp only[aml]at q;have d1:=GO (xS p1 q.1) (k:=4) (by decide) (by decide);have d2:=GO (xS p2 q.2.1) (k:=4) (by decide) (by decide);have d3:=GO (xS p3 q.2.2) (k:=13) (by decide) (by decide);have dp:vN (c.1,(c.2.1,c.2.2)):=⟨d1,d2,d3⟩
  have pb:KG s 8:=acY hs (by decide);obtain⟨b1,b2⟩:=Tl pb;have cB:zj ((⟨#[]⟩,(kind,(0,(zq s 8).1))):Ftr):=⟨b1,λe he=>(b2 e he).1.1⟩
  have cH:∀nm,zj ((nm,(kind,(1000,zx (c.1,(c.2.1,c.2.2))))):Ftr):=λnm=>by
   unfold zx;cases hq:decide ((0:Rat)<(dec ((c.1,(c.2.1,c.2.2)):BO3):Ln).2.2)
   ·exact⟨by simp,λe he=>by cases he⟩
   ·have hc:bi (c.1,(c.2.1,c.2.2)):=⟨d1,d2,d3,amj hq⟩
    refine⟨by simp,λe he=>?_⟩;have he:e=loN (c.1,(c.2.1,c.2.2))\/e=upN (c.1,(c.2.1,c.2.2)):=by simpa using he
    rcases he with e|e<;>rw[e]
    ·exact(kZ hc).1.1
    ·exact(IO hc).1
  have run:∀l:List Ftr,(∀f∈l,zj f)->l.length<=10->jS.Runs 57 (jT l (l.length:Int) 0) [.d .bool true]:=λl h hl=>adx h hl l.length 0 (amx _)
  have go:∀l:List Ftr,(∀f∈l,zj f)->l.length<=10->(∀n,iz s c kind (jS.k n)=jS.k n 57 (jT l (l.length:Int) 0))->jS.Runs 6 (sW s c kind) [.d .bool true]:=λl h hl e=>by
   obtain⟨n,hn⟩:=run l h hl;exact F7 _ _ _ ⟨n,(e n).trans hn⟩
  cases hb:(zq s 8).2<;>cases hd:zB (c.1,(c.2.1,c.2.2))==0
  ·refine go [] (λf hf=>by cases hf) (by simp) λn=>?_;unfold iz;rw[dT pb,hb,dT dp,hd];rfl
  ·refine go [((hid (zu c.1 c.2.1 c.2.2 1000)).1,(kind,((hid (zu c.1 c.2.1 c.2.2 1000)).2).2))] (λf hf=>by rw[amQ.1 hf,aQ];exact cH _) (by simp) λn=>?_;unfold iz;rw[dT pb,hb,dT dp,hd];rfl
  ·refine go [(⟨#[]⟩,(kind,(0,(zq s 8).1)))] (λf hf=>by rw[amQ.1 hf];exact cB) (by simp) λn=>?_;unfold iz;rw[dT pb,hb,dT dp,hd];rfl
  ·refine go [(⟨#[]⟩,(kind,(0,(zq s 8).1))),((hid (zu c.1 c.2.1 c.2.2 1000)).1,(kind,((hid (zu c.1 c.2.1 c.2.2 1000)).2).2))] (λf hf=>by
    rcases amy.1 hf with e|e
    ·rw[e];exact cB
    ·rw[amQ.1 e,aQ];exact cH _) (by simp) λn=>?_
   unfold iz;rw[dT pb,hb,dT dp,hd];rfl
 refine a8 LH (afG _ _ _ (show jS.Runs 6 (wM s c kind) [.d .bool true] from ?_));cases q1:lP c.1 3
 ·refine rD _ _ _ ⟨0,?_⟩;unfold nV;rw[dT p1,q1];rfl
 cases q2:lP c.2.1 3
 ·have u1:jS.Runs 6 (sC s c kind) [.d .bool true]:=xA _ _ _ ⟨0,by unfold qR;rw[dT p2,q2];rfl⟩;obtain⟨n,hn⟩:=u1;exact rD _ _ _ ⟨n,by unfold nV;rw[dT p1,q1];exact hn⟩
 have u2:jS.Runs 6 (xV s c kind) [.d .bool true]:=by
  cases q3:lP c.2.2 3
  ·exact wT _ _ _ ⟨0,by unfold rW;rw[dT p3,q3];rfl⟩
  ·obtain⟨n,hn⟩:=u3.resolve_right (λe=>by rw[q1,q2,q3]at e;cases e);exact wT _ _ _ ⟨n,by unfold rW;rw[dT p3,q3];exact hn⟩
 obtain⟨n,hn⟩:=u2;have u1:jS.Runs 6 (sC s c kind) [.d .bool true]:=xA _ _ _ ⟨n,by unfold qR;rw[dT p2,q2];exact hn⟩;obtain⟨n,hn⟩:=u1;exact rD _ _ _ ⟨n,by unfold nV;rw[dT p1,q1];exact hn⟩
end
section
open Go.ChangeShapes Go.WideShapes Go.ChangeAt Go.WideMaps Go.WideElems Go.RowKit Go.Maps
section
variable {H:Type} {enc:TypeId×Value->H} {P:Program}
theorem zA{f:Func}{s:ChangeSpec}{apart fresh handsOn again:Bool}{W W':World}{args:Array Value}{v:Value}{ds gs:List (DataW H)}{before pa pv:List MemPlace}
  (hW:DataW.Whole enc P f.params.toList s.vars apart W args.toList ds gs before)
  (hres:∀(b:Nat) (sp:Nat->Bool) (hd:Bool),DataW.TrodAll enc P W' b sp hd f.resultTypes.toList (v.resultList f.resultTypes.size) (s.fn H (ds++gs)).results [])
  (hargs:∀sp:Nat->Bool,(∀p∈before,sp p.block=true)->DataW.TrodAll enc P W' 0 sp true f.params.toList args.toList (s.fn H (ds++gs)).args pa)
  (hvars:∀sp:Nat->Bool,(∀p∈before,sp p.block=true)->DataW.TrodVars enc P W' sp s.vars (s.fn H (ds++gs)).vars pv)
  (hps:before=pa++pv) (hb:Below W.heap.size W W')
  (hok:∀(j:Nat) (t:TypeId) (r:Value),f.resultTypes[j]?=some t->(v.resultList f.resultTypes.size)[j]?=some r->Value.okWide P W' .any 0 t r):
  s.post enc P f apart fresh handsOn again W args v W':=by
 have hlt:∀p∈before,p.block<W.heap.size:=λp hp=>hW.lt p hp;have hold:∀p∈before,(λb=>decide (b<W.heap.size)) p.block=true:=λp hp=>by simpa using hlt p hp
 refine⟨ds,gs,before,[],pa,pv,hW,hres _ _ _,hargs _ hold,hvars _ hold,World.keptBut_mono (λp hp=>⟨hp,?_⟩) (hb.frame (·∈before)),λ_=>?_⟩
 ·grind
 ·obtain⟨_,_,_,_,_,hz,hn⟩:=hW;refine⟨hok,_,_,([]++pa)++pv,⟨[]++pa,pv,trodAll_append (hargs _ (λ_ _=>rfl)) (hres _ _ _),hvars _ (λ_ _=>rfl),rfl,?_,?_⟩,?_⟩
  ·intro b off hp;have hin:MemPlace.cell b off∈before:=by rw[hps];simpa using hp
   rw[hb.frozen (hlt _ hin)];exact hz b off hin
  ·grind
  grind
end
theorem P9:laidOutB Tryz.prog=true:=by kernel_rfl
theorem qJ{H:Type}{enc:TypeId×Value->H}{P:Program}(hl:laidOutB P=true){W W':World}{sp:Nat->Bool}:∀(ts:List TypeId) (vs:List Value) (ds:List (DataW H)) (ps:List MemPlace),
  (ts.all λt=>P.readableRec t&&Nat.ble (t+1) P.types.size)=true->DataW.TrodAll enc P W 0 (λ_=>true) true ts vs ds ps->(∀p∈ps,W.sameAt W' p)->(∀p∈ps,sp p.block=true)->DataW.TrodAll enc P W' 0 sp true ts vs ds ps
 |[],vs,ds,ps,_,h,_,_=>by obtain⟨rfl,rfl,rfl⟩:=trodAll_nil h;exact trodAll_mk0
 |t::ts,vs,ds,ps,ht,h,hs,hp=>by
  obtain⟨v,vs',d,ds',p,q,rfl,rfl,rfl,h0,h1⟩:=trodAll_cons h;simp only[anu,aml]at ht
  exact trodAll_cons_mk (Trod_stays hl ht.1.1 (amn ht.1.2) h0 (λx hx=>hs x (anU _ hx)) (λx hx=>hp x (anU _ hx)))
   (qJ hl ts vs' ds' q ht.2 h1 (λx hx=>hs x (an8 _ hx)) (λx hx=>hp x (an8 _ hx)))
set_option maxRecDepth 100000 in
theorem Th{H:Type}{enc:TypeId×Value->H}{f:Func}{s:ChangeSpec}{apart fresh handsOn again:Bool}{W W':World}{args:Array Value}{ds:List (DataW H)}{before:List MemPlace}
  (hW:DataW.Whole enc Tryz.prog f.params.toList s.vars apart W args.toList ds [] before) (hv:s.vars=[]) (hr:f.resultTypes= #[4]) (hfn:(s.fn H (ds++[])).results=[.lit (.bool true)]/\(s.fn H (ds++[])).args=ds/\(s.fn H (ds++[])).vars=[])
  (hp:(f.params.toList.all λt=>Tryz.prog.readableRec t&&Nat.ble (t+1) Tryz.prog.types.size)=true) (hb:Below W.heap.size W W'):s.post enc Tryz.prog f apart fresh handsOn again W args (.bool true) W':=by
 have hW':=hW;obtain⟨p,q,hA,hV,rfl,hfz,hnd⟩:=hW
 have hq:q=[]:=by
  rw[hv]at hV;exact(trodVars_none hV).2
 subst hq;have hlt:∀x∈p,x.block<W.heap.size:=λx hx=>hW'.lt x (by simpa using hx);refine zA (pa:=p) (pv:=[]) hW' ?_ ?_ ?_ rfl hb ?_
 ·intro b sp hd;rw[hr,hfn.1];exact trodAll_mk1 (shut_bool Tryz.underlying4 _)
 ·intro sp hsp;rw[hfn.2.1];exact qJ P9 _ _ _ _ hp hA (λx hx=>hb.same (hlt x hx)) (λx hx=>hsp x (by simpa using hx))
 ·intro sp _;rw[hv,hfn.2.2];rfl
 ·exact ok_one hr rfl (okWide_bool_mk (P:=Tryz.prog) Tryz.underlying4 true)
theorem Fd{P:Program}{w:World}{r:Reach}{base:Nat}{t e:TypeId}{n:Nat}{v:Value}(ht:P.underlying t=some (.array n e))(h:Value.okWide P w r base t v):∃cs,v=.agg cs/\cs.size=P.cellsOf t:=by
 simp only[Value.okWide,ht]at h;obtain⟨cs,h1,h2,_⟩:=h;exact⟨cs,h1,h2⟩
theorem Gn{P:Program}{w:World}{r:Reach}{base:Nat}{t:TypeId}{v:Value}(ht:P.underlying t=some .string)(h:Value.okWide P w r base t v):∃s,v=.string s:=by
 simp only[Value.okWide,ht,Cell.okWide]at h;cases v<;>simp_all [Cell.ok]
theorem yJ{H:Type}{enc:TypeId×Value->H}{P:Program}{w:World}{r:Reach}{b0 base:Nat}{spare:Nat->Bool}{held:Bool}{v:Value}{d:DataW H}{p:List MemPlace}{t:TypeId}(n:Nat)(ty:Ty)(hrep:rep P n t ty=true)(hv:Value.okWide P w r b0 t v)(h:DataW.Trod enc P w base spare held t v d p):
  ∃y:ty.D,Rel1 [] (λ_=>True) w (.d ty y) v/\ty.ok y:=by
 obtain⟨fuel,hf⟩:=h
 have fin:v.cells.toList.length=ty.n->v=mkV ty v.cells.toList->∃y:ty.D,Rel1 [] (λ_=>True) w (.d ty y) v/\ty.ok y:=λhl hm=>by
  obtain⟨y,h1,h2⟩:=(VK ty).1 n t hrep fuel _ _ hl hf;exact⟨y,⟨_,h1,hm⟩,h2⟩
 cases n with
 |zero=>simp[rep]at hrep
 |succ n=>
  have hrep':=hrep;unfold rep at hrep';split at hrep'<;>try (cases hrep';done)
  ·rename_i hu;obtain⟨m,rfl⟩:=okWide_int hu hv;exact fin rfl rfl
  ·rename_i hu;obtain⟨m,rfl⟩:=okWide_bool hu hv;exact fin rfl rfl
  ·rename_i hu;obtain⟨m,rfl⟩:=Gn hu hv;exact fin rfl rfl
  ·rename_i hu;obtain⟨q,m,c,rfl⟩:=okWide_slice hu hv;exact fin rfl rfl
  ·rename_i hu;obtain⟨cs,rfl,hsz⟩:=okWide_struct hu hv;simp only[aml]at hrep';exact fin (by simp only[Value.cells,Array.length_toList,hsz];exact amk hrep'.2) (by simp[mkV,Ty.isSt,Value.cells])
  ·rename_i hu;obtain⟨cs,rfl,hsz⟩:=Fd hu hv;simp only[aml]at hrep';exact fin (by simp only[Value.cells,Array.length_toList,hsz];exact amk hrep'.2) (by simp[mkV,Ty.isSt,Value.cells])
end
section
open Go.ChangeShapes Go.WideShapes Go.ChangeAt Go.WideMaps Go.WideElems Go.RowKit Go.Maps
theorem abs : Tryz.prog.globalNamed "swarf/tool.names" = some 0 := by kernel_rfl
theorem abV:(Tryz.prog.globals[0]?).map (·.type)=some 153:=by kernel_rfl
abbrev AG : List (String × DataW Unit) := [("swarf/tool.names", Rows.laid_swarf_tool_names)]
theorem O9(os:Os)(args:Array Value):laidMetH Tryz.prog AG ((World.doorLaid Tryz.prog 400 os).forCall (λ_ _=>0) ⟨#[],args,[]⟩).memory:=
 laidMetH_of_parts3 (fuel:=8) (laidMet_of_run' 8 (by kernel_rfl) (by kernel_rfl)) (by kernel_rfl) (by kernel_rfl)
set_option maxRecDepth 100000 in
theorem Ey{W:World}(h:laidMetH Tryz.prog AG W):Nms W:=by
 rw[MakeChecks.laidMetH_plain _ _ _ (by kernel_rfl)]at h;obtain⟨ps,⟨g0,t0,cs0,f0,p0,q0,hg0,ht0,hv0,hd0,_,_⟩,_,_⟩:=h;obtain rfl:=Option.some.inj (abs.symm.trans hg0);obtain rfl:=Option.some.inj (abV.symm.trans ht0);rcases open_map Tryz.underlying153 hd0 with⟨_,hx⟩|⟨bm,es,clock,m,rfl,hcs,hb,_,F,hx⟩
 ·simp[Rows.laid_swarf_tool_names]at hx
 simp only[amL]at hx
 have hcell:W.cell? ⟨0,0,none⟩=some (.map (some bm)):=by
  have:=World.var?_cell hg0 hv0 0;rw[Array.eq_one_of_toList hcs]at this;simpa using this
 have hown:=World.ownsMap_of_fit (R:=plainElem Tryz.prog 9) hb F (λx _ z hz=>elemAt_plainElem_string apa hz);rw[<-hx.1]at hown;exact⟨bm,_,hcell,World.block_lt_of_cell? W ⟨0,0,none⟩ hcell,hown⟩
end
end Go.Proofs.YtmnlppieefomnaaGreatDoor
end
namespace Go.Proofs.YtmnlppieefomnaaGreatDoor.lawCenter
open Go.ChangeShapes Go.WideShapes Go.ChangeAt Go.RowKit
theorem YH{n:Int}(h:(Lit.int .u8 n).wf=true):u8P n:=by
 have:=bounds_u8 h;exact this
theorem AK{n:Int}(h:(Lit.int .i8 n).wf=true):i8P n:=by
 have:=bounds_i8 h;exact this
theorem Sg{n:Int}(h:(Lit.int .u32 n).wf=true):0<=n:=by
 have:=bounds_u32 h;exact this.1
theorem con(s:List Frm)(c:BO3)(kind:Int)(k0:Ty.ok (.sl (.st (.pair (.int .u8) (.pair (.int .u8) (.pair (.int .i8) (.pair (.int .i8) (.pair (.int .i8) (.pair (.int .i8) (.sl (.st (.pair (.int .i8) (.int .i8)))))))))))) s)(k1:Ty.ok (.st (.pair (.st (.pair (.st (.pair .bool (.sl (.int .u32)))) (.st (.pair .bool (.sl (.int .u32)))))) (.pair (.st (.pair (.st (.pair .bool (.sl (.int .u32)))) (.st (.pair .bool (.sl (.int .u32)))))) (.st (.pair (.st (.pair .bool (.sl (.int .u32)))) (.st (.pair .bool (.sl (.int .u32))))))))) c)(_:Ty.ok (.int .i64) kind):CQq7 3 [.d (.sl (.st (.pair (.int .u8) (.pair (.int .u8) (.pair (.int .i8) (.pair (.int .i8) (.pair (.int .i8) (.pair (.int .i8) (.sl (.st (.pair (.int .i8) (.int .i8)))))))))))) s,.d (.st (.pair (.st (.pair (.st (.pair .bool (.sl (.int .u32)))) (.st (.pair .bool (.sl (.int .u32)))))) (.pair (.st (.pair (.st (.pair .bool (.sl (.int .u32)))) (.st (.pair .bool (.sl (.int .u32)))))) (.st (.pair (.st (.pair .bool (.sl (.int .u32)))) (.st (.pair .bool (.sl (.int .u32))))))))) c,.d (.int .i64) kind] [.d .bool true]:=by
 refine(afY.g s c kind).h ⟨λx hx=>?_,?_⟩
 ·obtain⟨a1,a2,a3,a4,a5,a6,a7⟩:=k0.2 x hx;exact⟨YH a1,YH a2,AK a3,AK a4,AK a5,AK a6,λz hz=>⟨AK (a7.2 z hz).1,AK (a7.2 z hz).2⟩⟩
 ·have q:∀{a:BR},Ty.ok tR a->Vc a:=λh=>⟨λl hl=>Sg (h.1.2.2 l hl),λl hl=>Sg (h.2.2.2 l hl)⟩
  exact⟨q k1.1,q k1.2.1,q k1.2.2⟩
set_option maxRecDepth 100000 in
theorem contract(H:Type)(enc:TypeId×Value->H)(W:World)(base:Nat)(args:Array Value)(ds gs:List (DataW H))(before:List MemPlace)
  (hval:∀(j:Nat) t v,Tryz.f3.params[j]?=some t->args[j]?=some v->Value.okWide Tryz.prog W .any base t v)
  (hW:DataW.Whole enc Tryz.prog Tryz.f3.params.toList Rows.drillCenterSpec.vars false W args.toList ds gs before) (hL:laidMetH Tryz.prog AG W):
  Calls Tryz.prog 3 args W λe W'=>∃v,e=.returned v/\Rows.drillCenterSpec.post enc Tryz.prog Tryz.f3 false true false false W args v W':=by
 have hW':=hW;obtain⟨p,q,hA0,hV,rfl,hfz,hnd⟩:=hW;have hA:DataW.TrodAll enc Tryz.prog W 0 (λ_=>true) true Tryz.f3.params.toList args.toList ds p:=hA0;rw[Tryz.params3]at hA hval;obtain⟨v0,vs0,d0,ds0,p0,q0,e0,rfl,rfl,h0,r0⟩:=trodAll_cons hA;obtain⟨v1,vs1,d1,ds1,p1,q1,e1,rfl,rfl,h1,r1⟩:=trodAll_cons r0;obtain⟨v2,vs2,d2,ds2,p2,q2,e2,rfl,rfl,h2,r2⟩:=trodAll_cons r1;obtain⟨en,rfl,rfl⟩:=trodAll_nil r2;obtain rfl:args= #[v0,v1,v2]:=by cases args;simp_all
 obtain⟨rfl,rfl⟩:=trodVars_none hV;obtain⟨y0,s0,k0⟩:=yJ 12 (.sl (.st (.pair (.int .u8) (.pair (.int .u8) (.pair (.int .i8) (.pair (.int .i8) (.pair (.int .i8) (.pair (.int .i8) (.sl (.st (.pair (.int .i8) (.int .i8)))))))))))) (by kernel_rfl) (hval 0 23 v0 rfl rfl) h0;obtain⟨y1,s1,k1⟩:=yJ 12 (.st (.pair (.st (.pair (.st (.pair .bool (.sl (.int .u32)))) (.st (.pair .bool (.sl (.int .u32)))))) (.pair (.st (.pair (.st (.pair .bool (.sl (.int .u32)))) (.st (.pair .bool (.sl (.int .u32)))))) (.st (.pair (.st (.pair .bool (.sl (.int .u32)))) (.st (.pair .bool (.sl (.int .u32))))))))) (by kernel_rfl) (hval 1 29 v1 rfl rfl) h1;obtain⟨y2,s2,k2⟩:=yJ 12 (.int .i64) (by kernel_rfl) (hval 2 3 v2 rfl rfl) h2;clear hA0;refine(con y0 y1 y2 k0 k1 k2 (λ_=>True) W [v0,v1,v2] (Ey hL) ⟨s0,s1,s2,trivial⟩).mono ?_;rintro e W' ⟨v,rfl,hb,hres⟩
 have hv:v=.bool true:=r9 (G:=[]) (dM hres);subst hv;exact⟨_,rfl,Th hW' rfl (by kernel_rfl) ⟨rfl,rfl,rfl⟩ (by kernel_rfl) hb⟩
set_option maxRecDepth 100000 in
theorem lifted(os:Os)(started:os.Started)(H:Type)(enc:TypeId×Value->H):
  ReturnsInHanded {} Tryz.checked os 3 .any (λw args=>(Rows.drillCenterSpec.pre enc Tryz.prog Tryz.f3 [] false w args/\laidMetH Tryz.prog AG w)/\sizedMet enc Tryz.prog Tryz.f3 (OpenSpec.ofChange Rows.drillCenterSpec) false w args)
   (Rows.drillCenterSpec.post enc Tryz.prog Tryz.f3 false true false false):=by
 refine returnsInHanded_of_change_and (C:=Tryz.checked) (X:=λw _=>laidMetH Tryz.prog AG w) (λ_ _ _ hh h=>h.of_heap hh) Pz started (by kernel_rfl) Tryz.func3
  (ChangeSpec.witness_shaped (enc:=enc) (C:=Tryz.checked) (os:=os) (X:=λw _=>laidMetH Tryz.prog AG w) false (World.doorLaid Tryz.prog 400 os) #[.slice none 0 0,.agg #[.bool false,.slice none 0 0,.bool false,.slice none 0 0,.bool false,.slice none 0 0,.bool false,.slice none 0 0,.bool false,.slice none 0 0,.bool false,.slice none 0 0],.int .i64 0] 8 rfl (World.shaped_of_RefB (by kernel_rfl) (by kernel_rfl)) (by kernel_rfl) (by kernel_rfl) (by kernel_rfl) (O9 os _)) ?_
 intro W base args ds gs before hval0 hW _ _ hL _;exact contract H enc W base args ds gs before hval0 hW hL
end Go.Proofs.YtmnlppieefomnaaGreatDoor.lawCenter
namespace Go.Proofs.YtmnlppieefomnaaGreatDoor.lawCenter
open Go.ChangeShapes Go.WideShapes Go.ChangeAt Go.RowKit
set_option maxRecDepth 100000 in
theorem ald:(Rows.drillCenterRow.inPlace==Tryz.prog.inPlace 3)=true:=by kernel_rfl
set_option maxRecDepth 100000 in
theorem alf:(Rows.drillCenterRow.unfollowed==Tryz.prog.unfollowed 3)=true:=by kernel_rfl
set_option maxRecDepth 100000 in
theorem alD:(Rows.drillCenterRow.recurses==Tryz.prog.recurses 3)=true:=by kernel_rfl
set_option maxRecDepth 100000 in
theorem ak6:(Rows.drillCenterRow.named==Tryz.prog.varsNamed 3)=true:=by kernel_rfl
set_option maxRecDepth 100000 in
theorem kf2:(laidOutB Tryz.prog)=true:=by kernel_rfl
set_option maxRecDepth 100000 in
theorem alC:(Tryz.prog.mayEnter)=true:=by kernel_rfl
theorem gr{a b:Bool}(h:a=true)(h':b=true):(a&&b)=true:=by rw[h,h'];rfl
set_option maxRecDepth 100000 in
theorem ab0:joinedFacts Tryz.prog 3 Tryz.f3 Rows.drillCenterSpec Rows.drillCenterRow=true:=by
 unfold joinedFacts;exact(gr (gr (gr (gr (gr (gr (gr (gr (gr (gr (gr (gr (gr (gr (gr (gr (gr (gr (gr (gr (gr (gr (gr (gr (gr (gr (gr (gr (gr (gr (gr (by kernel_rfl) kf2) (by kernel_rfl)) (by kernel_rfl)) (by kernel_rfl)) (by kernel_rfl)) (by kernel_rfl)) (by kernel_rfl)) (by kernel_rfl)) ald) alf) alD) ak6) (by kernel_rfl)) (by kernel_rfl)) (by kernel_rfl)) (by kernel_rfl)) (by kernel_rfl)) (by kernel_rfl)) (by kernel_rfl)) (by kernel_rfl)) (by kernel_rfl)) (by kernel_rfl)) (by kernel_rfl)) (by kernel_rfl)) alC) (by kernel_rfl)) (by kernel_rfl)) (by kernel_rfl)) (by kernel_rfl)) (by kernel_rfl)) (by kernel_rfl))
theorem alx:Rows.DrillCenterSaid:=
 OpenClaim.holds_of_wide 3 Tryz.f3 rfl rfl rfl rfl rfl rfl rfl ⟨rfl,rfl,rfl,rfl,rfl⟩ rfl rfl rfl rfl rfl (by kernel_rfl) Tryz.func3 ab0
  (of_decide_eq_true (by kernel_rfl)) (by unfold Func.isWrapper;first|(rw[if_pos (by decide+kernel)];kernel_rfl)|(rw[if_neg (by decide+kernel)];exact⟨rfl,rfl⟩))
  (λos started H enc _=>lifted os started H enc)
theorem plain (f : FuncId) (fn : Func) (hf : Tryz.pinned.checked.prog.funcNamed "swarf/swarflaw35.DrillCenter" = some f) (hfn : Tryz.pinned.checked.prog.funcs[f]? = some fn) :
  false=Tryz.pinned.checked.prog.looks []/\∀(j:Nat) t,fn.params[j]?=some t->Tryz.pinned.checked.prog.wantsStandIn t=false:=by
 obtain rfl : f = 3 := Option.some.inj ((show Tryz.prog.funcNamed "swarf/swarflaw35.DrillCenter" = some 3 by kernel_rfl).symm.trans hf) |>.symm
 obtain rfl:fn=Tryz.f3:=(Option.some.inj (Tryz.func3.symm.trans hfn)).symm;refine⟨by kernel_rfl,λj t ht=>?_⟩;rw[Tryz.params3]at ht;have hm:t∈[23,29,3]:=by simpa using Array.mem_of_getElem? ht
 have hall:([23,29,3].all λt=>Tryz.prog.wantsStandIn t==false)=true:=by kernel_rfl
 exact beq_iff_eq.1 (List.all_eq_true.1 hall t hm)
theorem proved:Rows.DrillCenterCardSaid:=
 Claim7.holds_tied_plain_at .later [] _ _ _ _ alx (λ_ h=>by cases h) (by kernel_rfl) (λ_ h=>by cases h) drillCenter_row_tie rfl ⟨rfl,rfl⟩ (by kernel_rfl) rfl plain (by kernel_rfl)
end Go.Proofs.YtmnlppieefomnaaGreatDoor.lawCenter
