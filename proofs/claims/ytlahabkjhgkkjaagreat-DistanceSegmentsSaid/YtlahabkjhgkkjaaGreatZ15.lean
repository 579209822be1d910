/- Points: plain. -/
import Derived.Test.YtlahabkjhgkkjaaGreatZ14
namespace Go.Proofs.YtlahabkjhgkkjaaGreat
open Go.RowKit
def xP(p:Pt):Rt:=coR p.1 p.2.1 p.2.2.2.2
def yP(p:Pt):Rt:=coR p.2.2.1 p.2.2.2.1 p.2.2.2.2
def atP(v:Rat×Rat):Pt:=(v.1,0,v.2,0,0)
def rdP(p:Pt):Pt:=(p.1,p.2.1,p.2.2.1,p.2.2.2.1,bif decide (p.2.1=0)&&decide (p.2.2.2.1=0)then 0 else p.2.2.2.2)
def mkP(x y:Rt):Pt:=rdP (x.1,x.2.1,y.1,y.2.1,bif decide (x.2.1=0)then y.2.2 else x.2.2)
def ug(x y:Rt):Prop:=x.2.1=0∨y.2.1=0∨x.2.2=y.2.2
instance (x y:Rt):Decidable (ug x y):=by unfold ug;infer_instance
def dS(p q:Pt):Int:=bif bK (xP p) (xP q)==0 then bK (yP p) (yP q)else bK (xP p) (xP q)
def trP(p:Pt)(v:Rat×Rat):Pt:=(p.1+v.1,p.2.1,p.2.2.1+v.2,p.2.2.2.1,p.2.2.2.2)
def bkV(v:Rat×Rat):Rat×Rat:=(-v.1,-v.2)
def sqA(p:Pt)(v:Rat×Rat):Rat:=(p.1-v.1)*(p.1-v.1)+(p.2.2.1-v.2)*(p.2.2.1-v.2)+(p.2.1*p.2.1+p.2.2.2.1*p.2.2.2.1)*p.2.2.2.2
def sqB(p:Pt)(v:Rat×Rat):Rat:=(p.1-v.1)*p.2.1+(p.2.2.1-v.2)*p.2.2.2.1+((p.1-v.1)*p.2.1+(p.2.2.1-v.2)*p.2.2.2.1)
def sqP(p:Pt)(v:Rat×Rat):Rt:=coR (sqA p v) (sqB p v) p.2.2.2.2
def HP(p:Pt):Prop:=(p.2.1=0∧p.2.2.2.1=0∧p.2.2.2.2=0)∨(¬(p.2.1=0∧p.2.2.2.1=0)∧0<p.2.2.2.2∧fw p.2.2.2.2=false)
instance (p:Pt):Decidable (HP p):=by unfold HP;infer_instance
class Rpd (p:Pt):Prop where
 rd:HP p
def okP(k:Nat)(x:BP):Prop:=ok Pt k x∧HP (dec x)
instance (k:Nat) (x:BP):Decidable (okP k x):=by unfold okP;infer_instance
theorem cC{k:Nat}{x:BP}(h:okP k x):∃v:Pt,x=enc v∧Bd v k∧Rpd v:=by
 obtain⟨h1,h2⟩:=h
 obtain⟨v,rfl,bv⟩:=aS h1
 rw[ak]at h2
 exact⟨v,rfl,bv,⟨h2⟩⟩
theorem bP{x:Pt}{j k:Nat}[h:Bd x j][r:Rpd x](hj:j≤k)(hk:k≤480000):decide (okP k (enc x))=true:=decide_eq_true ⟨of_decide_eq_true (okd hj hk),by rw[ak];exact r.rd⟩
theorem Rpd.ns{p:Pt}(h:Rpd p):Ns p.2.2.2.2:=⟨by rcases h.rd with h|h;exact .inl h.2.2;exact .inr h.2⟩
instance af0 {p:Pt} [h:Rpd p]:Ns p.2.2.2.2:=h.ns
theorem Rpd.nn{p:Pt}(h:Rpd p):0≤p.2.2.2.2:=h.ns.nn
theorem Pb{a b c:Rat}(h:Ns c)(hb:b=0∨c≠0):Rdd (coR a b c):=by
 refine⟨?_⟩
 unfold coR
 by_cases e:b=0
 ·rw[decide_eq_true e];exact .inl ⟨rfl,rfl⟩
 ·rw[decide_eq_false e]
  rcases h.ns with h|h
  ·rcases hb with hb|hb
   ·exact absurd hb e
   ·exact absurd h hb
  ·exact .inr ⟨e,h⟩
theorem Rpd.b0{p:Pt}(h:Rpd p):(p.2.1=0∧p.2.2.2.1=0)∨p.2.2.2.2≠0:=by
 rcases h.rd with h|h
 ·exact .inl ⟨h.1,h.2.1⟩
 ·exact .inr (by have:=h.2.1;grind)
instance af5 {p:Pt} [h:Rpd p]:Rdd (xP p):=Pb h.ns (by rcases h.b0 with h|h;exact .inl h.1;exact .inr h)
instance af4 {p:Pt} [h:Rpd p]:Rdd (yP p):=Pb h.ns (by rcases h.b0 with h|h;exact .inl h.2;exact .inr h)
instance afZ {p:Pt} {v:Rat×Rat} [h:Rpd p]:Rdd (sqP p v):=Pb h.ns (by
 rcases h.b0 with h|h
 ·refine .inl ?_
  unfold sqB
  rw[h.1,h.2]
  grind
 ·exact .inr h)
instance af3 {v:Rat×Rat}:Rpd (atP v):=⟨.inl ⟨rfl,rfl,rfl⟩⟩
instance af2 {p:Pt} {v:Rat×Rat} [h:Rpd p]:Rpd (trP p v):=⟨h.rd⟩
theorem adR{x y:Rt}(hx:Rdd x)(hy:Rdd y)(_h:ug x y):Rpd (mkP x y):=by
 refine⟨?_⟩
 unfold mkP rdP HP
 dsimp only
 rcases hx.rd with⟨a1,a2⟩|⟨a1,a2,a3⟩<;>rcases hy.rd with⟨b1,b2⟩|⟨b1,b2,b3⟩
 ·simp[a1,b1]
 ·simp[a1,b1,b2,b3]
 ·simp[a1,b1,a2,a3]
 ·simp[a1,b1,a2,a3]
section
variable {p:Pt} {j:Nat}
instance afV [h:Bd p j]:Bd (xP p) (mx j (mx j j)):=inferInstanceAs (Bd (coR p.1 p.2.1 p.2.2.2.2) _)
instance af1 [h:Bd p j]:Bd (yP p) (mx j (mx j j)):=inferInstanceAs (Bd (coR p.2.2.1 p.2.2.2.1 p.2.2.2.2) _)
instance afu {v:Rat×Rat} [h:Bd v j]:Bd (atP v) (mx j (mx 1 (mx j (mx 1 1)))):=inferInstanceAs (Bd ((v.1,0,v.2,0,0):Pt) _)
instance afN {v:Rat×Rat} {k:Nat} [h:Bd p j] [h':Bd v k]:Bd (trP p v) (mx (j+k+1) (mx j (mx (j+k+1) (mx j j)))):=inferInstanceAs (Bd ((p.1+v.1,p.2.1,p.2.2.1+v.2,p.2.2.2.1,p.2.2.2.2):Pt) _)
instance afS {v:Rat×Rat} [h:Bd v j]:Bd (bkV v) (mx j j):=inferInstanceAs (Bd ((-v.1,-v.2):Rat×Rat) _)
end
instance afE {p:Pt} {j:Nat} [h:Bd p j]:Bd (rdP p) (mx j (mx j (mx j (mx j (mx 1 j))))):=inferInstanceAs (Bd ((p.1,p.2.1,p.2.2.1,p.2.2.2.1,bif decide (p.2.1=0)&&decide (p.2.2.2.1=0)then 0 else p.2.2.2.2):Pt) _)
instance abx {x y:Rt} {j k:Nat} [h:Bd x j] [h':Bd y k]:Bd (mkP x y) (mx (mx j (mx j (mx k (mx k (mx k j))))) (mx (mx j (mx j (mx k (mx k (mx k j))))) (mx (mx j (mx j (mx k (mx k (mx k j))))) (mx (mx j (mx j (mx k (mx k (mx k j))))) (mx 1 (mx j (mx j (mx k (mx k (mx k j)))))))))):=inferInstanceAs (Bd (rdP (x.1,x.2.1,y.1,y.2.1,bif decide (x.2.1=0)then y.2.2 else x.2.2)) _)
theorem fp{j k n:Nat}(h1:j≤n)(h2:k≤n):mx j k≤n:=by
 unfold mx
 cases decide (j≤k)
 ·exact h1
 ·exact h2
section
variable {p:Pt} {v:Rat×Rat} {j k:Nat}
instance afD [h:Bd p j] [h':Bd v k]:Bd (sqA p v) (20*(j+k+1)):=by
 have a1:Bd (p.1-v.1) _:=inferInstance
 have a2:Bd (p.2.2.1-v.2) _:=inferInstance
 have a3:Bd (p.2.1*p.2.1+p.2.2.2.1*p.2.2.2.1) _:=inferInstance
 have i:Bd ((p.1-v.1)*(p.1-v.1)+(p.2.2.1-v.2)*(p.2.2.1-v.2)+(p.2.1*p.2.1+p.2.2.2.1*p.2.2.2.1)*p.2.2.2.2) _:=inferInstance
 exact i.mono (by omega)
instance afc [h:Bd p j] [h':Bd v k]:Bd (sqB p v) (20*(j+k+1)):=by
 have a1:Bd (p.1-v.1) _:=inferInstance
 have a2:Bd (p.2.2.1-v.2) _:=inferInstance
 have i:Bd ((p.1-v.1)*p.2.1+(p.2.2.1-v.2)*p.2.2.2.1+((p.1-v.1)*p.2.1+(p.2.2.1-v.2)*p.2.2.2.1)) _:=inferInstance
 exact i.mono (by omega)
instance afI [h:Bd p j] [h':Bd v k]:Bd (sqP p v) (20*(j+k+1)):=by
 have i:Bd (coR (sqA p v) (sqB p v) p.2.2.2.2) _:=inferInstance
 exact i.mono (fp (by omega) (fp (by omega) (by omega)))
end
namespace RE
noncomputable def pX(p:Pt):RE:=v2 p.1 p.2.1 p.2.2.2.2
noncomputable def pY(p:Pt):RE:=v2 p.2.2.1 p.2.2.2.1 p.2.2.2.2
theorem abq(x y s t c u w:RE):(x+s*c-u)*(x+s*c-u)+(y+t*c-w)*(y+t*c-w)=(x-u)*(x-u)+(y-w)*(y-w)+(s*s+t*t)*(c*c)+((x-u)*s+(y-w)*t+((x-u)*s+(y-w)*t))*c:=by
 induction x using Quotient.inductionOn
 induction y using Quotient.inductionOn
 induction s using Quotient.inductionOn
 induction t using Quotient.inductionOn
 induction c using Quotient.inductionOn
 induction u using Quotient.inductionOn
 induction w using Quotient.inductionOn
 exact snd fun n=>by
  simp only[RL.add,RL.mul,RL.neg]
  grind
theorem aby{p:Pt}{v:Rat×Rat}[h:Rpd p]:vR (sqP p v)=(pX p-of v.1)*(pX p-of v.1)+(pY p-of v.2)*(pY p-of v.2):=by
 unfold sqP pX pY
 rw[vR_co]
 unfold v2
 rw[abq,BT h.nn]
 unfold sqA sqB
 simp only[of_add,of_sub,dX]
end RE
end Go.Proofs.YtlahabkjhgkkjaaGreat
namespace Go.Proofs.YtlahabkjhgkkjaaGreat
open Go.RowKit
theorem iw(a b:Rat):(aQ a b !=0)=!decide (a=b):=by
 unfold bne
 rw[aP]
noncomputable def J3:Env:=[(76,fS),(148,gg),(149,iD),(147,gQ),(83,fP),(99,je),(146,pc)]
theorem B4:EnvAll Tryz.prog J3:=⟨d7,dY,fI,eO,ec,gH,nK,trivial⟩
noncomputable def UB:Ctx:=⟨Tryz.prog,ft,tys,J3,[]⟩
noncomputable def Ju(_k:KT):Option (List RV):=match decide (bh (0:Int))with|true=>some [RV.d tR (hid (ae ((0:Int):Rat)))]|false=>none
theorem aeo{rX:List RV}(hX:∃nX,Ju (UB.k nX)=some rX):UB.Res 152 [] rX:=aO (t:=fun k=>Ju k) (fun k=>show go2 Tryz.prog ft tys J3 [] k 4000 (az 152 []) (.node 0)=Ju k by kernel_rfl) hX
theorem VU:Con Tryz.prog 152 [] [.d tR (ae 0)]:=by
 refine Ctx.Res.con (C:=UB) (au B4) (aeo ⟨0,?_⟩) (fn:=Tryz.f152) (by kernel_rfl) (by kernel_rfl)
 unfold Ju
 rw[dT (show bh 0 by decide)]
 simp only[aj]
 rfl
noncomputable def F7:aL:=spN false true [] (fun _=>true) (fun _=>[RV.d tR (hid (ae 0))])
theorem O4:af Tryz.prog 152=true∧ao Tryz.prog 152 F7∧∀g,F7.mut_=some g→aK Tryz.prog 152 g:=aq (by kernel_rfl) fun _ _=>by simp only[aj];exact VU
noncomputable def qx:Env:=(152,F7)::J3
theorem ov:EnvAll Tryz.prog qx:=⟨O4,B4⟩
noncomputable def SP:Ctx:=⟨Tryz.prog,ft,tys,qx,[]⟩
noncomputable def Jx(_k:KT)(v:BV):Option (List RV):=some [RV.d tP (v.1,(hid (ae 0),(v.2,(hid (ae 0),hid (ae 0)))))]
theorem acG(v:BV){rX:List RV}(hX:∃nX,Jx (SP.k nX) v=some rX):SP.Res 68 [.d tV v] rX:=aO (t:=fun k=>Jx k v) (fun k=>show go2 Tryz.prog ft tys qx [] k 4000 (az 68 [.d tV v]) (.node 0)=Jx k v by kernel_rfl) hX
theorem Y3(v:BV)(h:ok (Rat×Rat) 100000 v):Con Tryz.prog 68 [.d tV v] [.d tP (enc (atP (dec v)))]:=by
 refine Ctx.Res.con (C:=SP) (au ov) (acG _ ⟨0,?_⟩) (fn:=Tryz.f68) (by kernel_rfl) (by kernel_rfl)
 have hv:=h
 obtain⟨v,rfl,bv⟩:=aS hv
 unfold Jx
 simp only[aj,ak,aF,aG,aD]
 try rfl
noncomputable def Qb:Ctx:=⟨Tryz.prog,ft,tys,qx,[]⟩
noncomputable def J1(_k:KT)(p:BP):Option (List RV):=match decide (okR p.2.1)with|true=>(match(aQ (aa p.2.1) 0)==0 with|true=>(match decide (okR p.2.2.2.1)with|true=>(match(aQ (aa p.2.2.2.1) 0)==0 with|true=>some [RV.d tP (p.1,(p.2.1,(p.2.2.1,(p.2.2.2.1,hid (ae 0)))))]|false=>some [RV.d tP p])|false=>none)|false=>some [RV.d tP p])|false=>none
theorem adD(p:BP){rX:List RV}(hX:∃nX,J1 (Qb.k nX) p=some rX):Qb.Res 171 [.d tP p] rX:=aO (t:=fun k=>J1 k p) (fun k=>show go2 Tryz.prog ft tys qx [] k 4000 (az 171 [.d tP p]) (.node 0)=J1 k p by kernel_rfl) hX
theorem V1(p:BP)(h:ok Pt 21000 p):Con Tryz.prog 171 [.d tP p] [.d tP (enc (rdP (dec p)))]:=by
 refine Ctx.Res.con (C:=Qb) (au ov) (adD _ ⟨0,?_⟩) (fn:=Tryz.f171) (by kernel_rfl) (by kernel_rfl)
 have hp:=h
 obtain⟨p,rfl,bp⟩:=aS hp
 unfold J1
 simp only[aj,ak,aF,aG,aD,aw,aX,Nat.reduceLeDiff,aP]
 unfold rdP
 by_cases h1:p.2.1=0
 ·by_cases h2:p.2.2.2.1=0
  ·rw[decide_eq_true h1,decide_eq_true h2];rfl
  ·rw[decide_eq_true h1,decide_eq_false h2];rfl
 ·rw[decide_eq_false h1];rfl
noncomputable def UA:Ctx:=⟨Tryz.prog,ft,tys,qx,[]⟩
noncomputable def IV(_k:KT)(a:BR)(b:BR)(c:BR):Option (List RV):=match decide (okR b)with|true=>(match(aQ (aa b) 0)==0 with|true=>some [RV.d tO (a,(b,hid (ae 0)))]|false=>some [RV.d tO (a,(b,c))])|false=>none
theorem ac9(a:BR)(b:BR)(c:BR){rX:List RV}(hX:∃nX,IV (UA.k nX) a b c=some rX):UA.Res 150 [.d tR a,.d tR b,.d tR c] rX:=aO (t:=fun k=>IV k a b c) (fun k=>show go2 Tryz.prog ft tys qx [] k 4000 (az 150 [.d tR a,.d tR b,.d tR c]) (.node 0)=IV k a b c by kernel_rfl) hX
theorem WL(a:BR)(b:BR)(c:BR)(h:okR a∧okR b∧okR c):Con Tryz.prog 150 [.d tR a,.d tR b,.d tR c] [.d tO (enc (coR (aa a) (aa b) (aa c)))]:=by
 refine Ctx.Res.con (C:=UA) (au ov) (ac9 _ _ _ ⟨0,?_⟩) (fn:=Tryz.f150) (by kernel_rfl) (by kernel_rfl)
 obtain⟨ha,hb,hc⟩:=h
 obtain⟨a,rfl,ba⟩:=dD ha
 obtain⟨b,rfl,bb⟩:=dD hb
 obtain⟨c,rfl,bc⟩:=dD hc
 unfold IV
 simp only[aj,aw,aX,Nat.reduceLeDiff,aP]
 unfold coR
 by_cases e:b=0
 ·subst e;rw[decide_eq_true rfl];rfl
 ·rw[decide_eq_false e];rfl
noncomputable def xZ:aL:=spN false true [tV] (fun x=>decide (ok (Rat×Rat) 100000 x.1)) (fun x=>[RV.d tP (hid (enc (atP (dec x.1))))])
theorem CV:af Tryz.prog 68=true∧ao Tryz.prog 68 xZ∧∀g,xZ.mut_=some g→aK Tryz.prog 68 g:=aq (by kernel_rfl) fun x h=>by simp only[aj];exact Y3 x.1 (of_decide_eq_true h)
noncomputable def G3:aL:=spN false true [tP] (fun x=>decide (ok Pt 21000 x.1)) (fun x=>[RV.d tP (hid (enc (rdP (dec x.1))))])
theorem Vi:af Tryz.prog 171=true∧ao Tryz.prog 171 G3∧∀g,G3.mut_=some g→aK Tryz.prog 171 g:=aq (by kernel_rfl) fun x h=>by simp only[aj];exact V1 x.1 (of_decide_eq_true h)
noncomputable def Fd:aL:=spN false true [tR,tR,tR] (fun x=>decide (okR x.1∧okR x.2.1∧okR x.2.2.1)) (fun x=>[RV.d tO (hid (enc (coR (aa x.1) (aa x.2.1) (aa x.2.2.1))))])
theorem Pq:af Tryz.prog 150=true∧ao Tryz.prog 150 Fd∧∀g,Fd.mut_=some g→aK Tryz.prog 150 g:=aq (by kernel_rfl) fun x h=>by simp only[aj];exact WL x.1 x.2.1 x.2.2.1 (of_decide_eq_true h)
noncomputable def mY:Env:=(68,xZ)::(171,G3)::(150,Fd)::qx
theorem lI:EnvAll Tryz.prog mY:=⟨CV,Vi,Pq,ov⟩
noncomputable def Su:Ctx:=⟨Tryz.prog,ft,tys,mY,[]⟩
noncomputable def Kb(_k:KT)(x:BO3)(y:BO3):Option (List RV):=match decide (okR x.2.1)with|true=>(match(aQ (aa x.2.1) 0)==0 with|true=>(match decide (ok Pt 21000 (x.1,(x.2.1,y)))with|true=>some [RV.d tP (hid (enc (rdP (dec (x.1,(x.2.1,y)))))),RV.d (.int .i64) 0]|false=>none)|false=>(match decide (okR y.2.1)with|true=>(match(aQ (aa y.2.1) 0) !=0 with|true=>(match decide (okR x.2.2∧okR y.2.2)with|true=>(match(aQ (aa x.2.2) (aa y.2.2)) !=0 with|true=>some [RV.d tP (((false,[]),(false,[])),(((false,[]),(false,[])),(((false,[]),(false,[])),(((false,[]),(false,[])),((false,[]),(false,[])))))),RV.d (.int .i64) 1]|false=>(match decide (ok Pt 21000 (x.1,(x.2.1,(y.1,(y.2.1,x.2.2)))))with|true=>some [RV.d tP (hid (enc (rdP (dec (x.1,(x.2.1,(y.1,(y.2.1,x.2.2)))))))),RV.d (.int .i64) 0]|false=>none))|false=>none)|false=>(match decide (ok Pt 21000 (x.1,(x.2.1,(y.1,(y.2.1,x.2.2)))))with|true=>some [RV.d tP (hid (enc (rdP (dec (x.1,(x.2.1,(y.1,(y.2.1,x.2.2)))))))),RV.d (.int .i64) 0]|false=>none))|false=>none))|false=>none
theorem acp(x:BO3)(y:BO3){rX:List RV}(hX:∃nX,Kb (Su.k nX) x y=some rX):Su.Res 88 [.d tO x,.d tO y] rX:=aO (t:=fun k=>Kb k x y) (fun k=>show go2 Tryz.prog ft tys mY [] k 4000 (az 88 [.d tO x,.d tO y]) (.node 0)=Kb k x y by kernel_rfl) hX
theorem Xe(x:BO3)(y:BO3)(h:okT 15000 x∧okT 15000 y∧ug (dec x) (dec y)):Con Tryz.prog 88 [.d tO x,.d tO y] [.d tP (enc (mkP (dec x) (dec y))),.d (.int .i64) 0]:=by
 refine Ctx.Res.con (C:=Su) (au lI) (acp _ _ ⟨0,?_⟩) (fn:=Tryz.f88) (by kernel_rfl) (by kernel_rfl)
 obtain⟨hx,hy,hy_2⟩:=h
 obtain⟨x,rfl,bx,rx⟩:=fJ hx
 obtain⟨y,rfl,b_y,ry⟩:=fJ hy
 have i1:decide (ok Pt 21000 (enc ((x.1,x.2.1,y):Pt)))=true:=okd (by decide) (by decide)
 have i2:decide (ok Pt 21000 (enc ((x.1,x.2.1,y.1,y.2.1,x.2.2):Pt)))=true:=okd (by decide) (by decide)
 have j1:(dec ((ae x.1,ae x.2.1,enc y):BP):Pt)=(x.1,x.2.1,y):=ak ((x.1,x.2.1,y):Pt)
 have j2:(dec ((ae x.1,ae x.2.1,ae y.1,ae y.2.1,ae x.2.2):BP):Pt)=(x.1,x.2.1,y.1,y.2.1,x.2.2):=ak ((x.1,x.2.1,y.1,y.2.1,x.2.2):Pt)
 have i1:decide (ok Pt 21000 ((ae x.1,ae x.2.1,enc y):BP))=true:=i1
 have i2:decide (ok Pt 21000 ((ae x.1,ae x.2.1,ae y.1,ae y.2.1,ae x.2.2):BP))=true:=i2
 have hm:=hy_2
 rw[ak,ak]at hm
 unfold Kb
 simp only[aj,ak,aF,aG,aD,aw,aX,Bool.decide_and,Bool.and_self,Nat.reduceLeDiff,aP,iw,i1,i2,j1,j2]
 unfold mkP
 by_cases e1:x.2.1=0
 ·rw[decide_eq_true e1];rfl
 ·rw[decide_eq_false e1]
  by_cases e2:y.2.1=0
  ·rw[decide_eq_true e2];rfl
  ·rw[decide_eq_false e2,decide_eq_true ((hm.resolve_left e1).resolve_left e2)];rfl
noncomputable def abP:Ctx:=⟨Tryz.prog,ft,tys,mY,[]⟩
noncomputable def WE(_k:KT)(p:BP):Option (List RV):=match decide (okR p.1∧okR p.2.1∧okR p.2.2.2.2)with|true=>some [RV.d tO (hid (enc (coR (aa p.1) (aa p.2.1) (aa p.2.2.2.2))))]|false=>none
theorem afk(p:BP){rX:List RV}(hX:∃nX,WE (abP.k nX) p=some rX):abP.Res 271 [.d tP p] rX:=aO (t:=fun k=>WE k p) (fun k=>show go2 Tryz.prog ft tys mY [] k 4000 (az 271 [.d tP p]) (.node 0)=WE k p by kernel_rfl) hX
theorem abH(p:BP)(h:okP 4000 p):Con Tryz.prog 271 [.d tP p] [.d tO (enc (xP (dec p)))]:=by
 refine Ctx.Res.con (C:=abP) (au lI) (afk _ ⟨0,?_⟩) (fn:=Tryz.f271) (by kernel_rfl) (by kernel_rfl)
 have hp:=h
 obtain⟨p,rfl,bp,rp⟩:=cC hp
 unfold WE
 simp only[aj,ak,aF,aG,aD,aw,aX,Bool.decide_and,Bool.and_self,Nat.reduceLeDiff]
 try rfl
noncomputable def ZM:Ctx:=⟨Tryz.prog,ft,tys,mY,[]⟩
noncomputable def Xi(_k:KT)(p:BP):Option (List RV):=match decide (okR p.2.2.1∧okR p.2.2.2.1∧okR p.2.2.2.2)with|true=>some [RV.d tO (hid (enc (coR (aa p.2.2.1) (aa p.2.2.2.1) (aa p.2.2.2.2))))]|false=>none
theorem afh(p:BP){rX:List RV}(hX:∃nX,Xi (ZM.k nX) p=some rX):ZM.Res 272 [.d tP p] rX:=aO (t:=fun k=>Xi k p) (fun k=>show go2 Tryz.prog ft tys mY [] k 4000 (az 272 [.d tP p]) (.node 0)=Xi k p by kernel_rfl) hX
theorem abJ(p:BP)(h:okP 4000 p):Con Tryz.prog 272 [.d tP p] [.d tO (enc (yP (dec p)))]:=by
 refine Ctx.Res.con (C:=ZM) (au lI) (afh _ ⟨0,?_⟩) (fn:=Tryz.f272) (by kernel_rfl) (by kernel_rfl)
 have hp:=h
 obtain⟨p,rfl,bp,rp⟩:=cC hp
 unfold Xi
 simp only[aj,ak,aF,aG,aD,aw,aX,Bool.decide_and,Bool.and_self,Nat.reduceLeDiff]
 try rfl
noncomputable def PU:Ctx:=⟨Tryz.prog,ft,tys,mY,[]⟩
noncomputable def JB(_k:KT)(p:BP)(v:BV):Option (List RV):=let y1:=hid (ae (aa p.1-aa v.1));let y2:=hid (ae (aa p.2.2.1-aa v.2));let y3:=hid (ae (aa y1*aa y1));let y4:=hid (ae (aa y2*aa y2));let y5:=hid (ae (aa p.2.1*aa p.2.1));let y6:=hid (ae (aa p.2.2.2.1*aa p.2.2.2.1));let y7:=hid (ae (aa y5+aa y6));let y8:=hid (ae (aa y3+aa y4));let y9:=hid (ae (aa y7*aa p.2.2.2.2));let y10:=hid (ae (aa y1*aa p.2.1));let y11:=hid (ae (aa y2*aa p.2.2.2.1));let y12:=hid (ae (aa y10+aa y11));let y13:=hid (ae (aa y8+aa y9));let y14:=hid (ae (aa y12+aa y12));let y15:Option (List RV):=match decide (okR y10∧okR y11)with|true=>(match decide (okR y12∧okR y12)with|true=>(match decide (okR y13∧okR y14∧okR p.2.2.2.2)with|true=>some [RV.d tO (hid (enc (coR (aa y13) (aa y14) (aa p.2.2.2.2))))]|false=>none)|false=>none)|false=>none;let y16:Option (List RV):=match decide (okR y2∧okR p.2.2.2.1)with|true=>y15|false=>none;let y17:Option (List RV):=match decide (okR y8∧okR y9)with|true=>cA (match decide (okR y1∧okR p.2.1)with|true=>cA (match decide (okR y2∧okR p.2.2.2.1)with|true=>dup (.b .l .l) y15|false=>none) y16|false=>none) (match decide (okR y1∧okR p.2.1)with|true=>y16|false=>none)|false=>none;let y18:Option (List RV):=match decide (okR y7∧okR p.2.2.2.2)with|true=>y17|false=>none;let y19:Option (List RV):=match decide (okR y5∧okR y6)with|true=>y18|false=>none;let y20:Option (List RV):=match decide (okR p.2.2.2.1∧okR p.2.2.2.1)with|true=>y19|false=>none;let y21:Option (List RV):=match decide (okR p.2.1∧okR p.2.1)with|true=>y20|false=>none;let y22:Option (List RV):=match decide (okR y3∧okR y4)with|true=>y21|false=>none;let y23:Option (List RV):=match decide (okR y2∧okR y2)with|true=>y22|false=>none;match decide (okR p.1∧okR v.1)with|true=>(match decide (okR p.2.2.1∧okR v.2)with|true=>cA (match decide (okR y1∧okR y1)with|true=>cA (match decide (okR y2∧okR y2)with|true=>cA (match decide (okR y3∧okR y4)with|true=>cA (match decide (okR p.2.1∧okR p.2.1)with|true=>cA (match decide (okR p.2.2.2.1∧okR p.2.2.2.1)with|true=>cA (match decide (okR y5∧okR y6)with|true=>cA (match decide (okR y7∧okR p.2.2.2.2)with|true=>dup (.b .l .l) y17|false=>none) y18|false=>none) y19|false=>none) y20|false=>none) y21|false=>none) y22|false=>none) y23|false=>none) (match decide (okR y1∧okR y1)with|true=>y23|false=>none)|false=>none)|false=>none
theorem acH(p:BP)(v:BV){rX:List RV}(hX:∃nX,JB (PU.k nX) p v=some rX):PU.Res 66 [.d tP p,.d tV v] rX:=aO (t:=fun k=>JB k p v) (fun k=>show go2 Tryz.prog ft tys mY [] k 4000 (az 66 [.d tP p,.d tV v]) (.node 0)=JB k p v by kernel_rfl) hX
theorem V4(p:BP)(v:BV)(h:okP 3500 p∧ok (Rat×Rat) 300 v):Con Tryz.prog 66 [.d tP p,.d tV v] [.d tO (enc (sqP (dec p) (dec v)))]:=by
 refine Ctx.Res.con (C:=PU) (au lI) (acH _ _ ⟨0,?_⟩) (fn:=Tryz.f66) (by kernel_rfl) (by kernel_rfl)
 obtain⟨hp,hv⟩:=h
 obtain⟨p,rfl,bp,rp⟩:=cC hp
 obtain⟨v,rfl,bv⟩:=aS hv
 unfold JB
 simp only[am,aJ,aj,ak,aF,aG,aD,aw,aX,Bool.decide_and,Bool.and_self,Nat.reduceAdd,Nat.reduceLeDiff]
 rfl
noncomputable def JE:aL:=spN false true [tP] (fun x=>decide (okP 4000 x.1)) (fun x=>[RV.d tO (hid (enc (xP (dec x.1))))])
theorem IM:af Tryz.prog 271=true∧ao Tryz.prog 271 JE∧∀g,JE.mut_=some g→aK Tryz.prog 271 g:=aq (by kernel_rfl) fun x h=>by simp only[aj];exact abH x.1 (of_decide_eq_true h)
noncomputable def I2:aL:=spN false true [tP] (fun x=>decide (okP 4000 x.1)) (fun x=>[RV.d tO (hid (enc (yP (dec x.1))))])
theorem IW:af Tryz.prog 272=true∧ao Tryz.prog 272 I2∧∀g,I2.mut_=some g→aK Tryz.prog 272 g:=aq (by kernel_rfl) fun x h=>by simp only[aj];exact abJ x.1 (of_decide_eq_true h)
noncomputable def SJ:Env:=(271,JE)::(272,I2)::mY
theorem TS:EnvAll Tryz.prog SJ:=⟨IM,IW,lI⟩
noncomputable def P0:Ctx:=⟨Tryz.prog,ft,tys,SJ,[]⟩
noncomputable def JA(_k:KT)(p:BP)(q:BP):Option (List RV):=match decide (okP 4000 p)with|true=>(match decide (okP 4000 q)with|true=>(match decide (okT 15000 (hid (enc (xP (dec p))))∧okT 15000 (hid (enc (xP (dec q)))))with|true=>(match(bK (dec (hid (enc (xP (dec p))))) (dec (hid (enc (xP (dec q)))))) !=0 with|true=>some [RV.d (.int .i64) (bK (dec (hid (enc (xP (dec p))))) (dec (hid (enc (xP (dec q))))))]|false=>(match decide (okP 4000 p)with|true=>(match decide (okP 4000 q)with|true=>(match decide (okT 15000 (hid (enc (yP (dec p))))∧okT 15000 (hid (enc (yP (dec q)))))with|true=>some [RV.d (.int .i64) (bK (dec (hid (enc (yP (dec p))))) (dec (hid (enc (yP (dec q))))))]|false=>none)|false=>none)|false=>none))|false=>none)|false=>none)|false=>none
theorem acB(p:BP)(q:BP){rX:List RV}(hX:∃nX,JA (P0.k nX) p q=some rX):P0.Res 232 [.d tP p,.d tP q] rX:=aO (t:=fun k=>JA k p q) (fun k=>show go2 Tryz.prog ft tys SJ [] k 4000 (az 232 [.d tP p,.d tP q]) (.node 0)=JA k p q by kernel_rfl) hX
theorem YU(p:BP)(q:BP)(h:okP 4000 p∧okP 4000 q):Con Tryz.prog 232 [.d tP p,.d tP q] [.d (.int .i64) (dS (dec p) (dec q))]:=by
 refine Ctx.Res.con (C:=P0) (au TS) (acB _ _ ⟨0,?_⟩) (fn:=Tryz.f232) (by kernel_rfl) (by kernel_rfl)
 obtain⟨hp,hq⟩:=h
 obtain⟨p,rfl,bp,rp⟩:=cC hp
 obtain⟨q,rfl,bq,rq⟩:=cC hq
 unfold JA
 simp only[aj,ak,Bool.decide_and,Bool.and_self,mx,Nat.reduceLeDiff,decide_true,cond_true,bH,bP]
 unfold dS bne
 cases bK (xP p) (xP q)==0<;>rfl
noncomputable def Gw:aL:=spN false true [tP,tV] (fun x=>decide (okP 3500 x.1∧ok (Rat×Rat) 300 x.2.1)) (fun x=>[RV.d tO (hid (enc (sqP (dec x.1) (dec x.2.1))))])
theorem QT:af Tryz.prog 66=true∧ao Tryz.prog 66 Gw∧∀g,Gw.mut_=some g→aK Tryz.prog 66 g:=aq (by kernel_rfl) fun x h=>by simp only[aj];exact V4 x.1 x.2.1 (of_decide_eq_true h)
noncomputable def Fg:aL:=spN false true [tO,tO] (fun x=>decide (okT 15000 x.1∧okT 15000 x.2.1∧ug (dec x.1) (dec x.2.1))) (fun x=>[RV.d tP (hid (enc (mkP (dec x.1) (dec x.2.1)))),RV.d (.int .i64) 0])
theorem SC:af Tryz.prog 88=true∧ao Tryz.prog 88 Fg∧∀g,Fg.mut_=some g→aK Tryz.prog 88 g:=aq (by kernel_rfl) fun x h=>by simp only[aj];exact Xe x.1 x.2.1 (of_decide_eq_true h)
def HU:aL:=spN true true [tP,tP] (fun x=>decide (okP 4000 x.1∧okP 4000 x.2.1)) (fun x=>[RV.d (.int .i64) (dS (dec x.1) (dec x.2.1))])
theorem U8:af Tryz.prog 232=true∧ao Tryz.prog 232 HU∧∀g,HU.mut_=some g→aK Tryz.prog 232 g:=aq (by kernel_rfl) fun x h=>YU x.1 x.2.1 (of_decide_eq_true h)
end Go.Proofs.YtlahabkjhgkkjaaGreat
namespace Go.Proofs.YtlahabkjhgkkjaaGreat
open Go.RowKit
def Nr(l:Ln)(p:Pt):Rat:=l.1*p.1+l.2.1*p.2.2.1-l.2.2
def M8(l:Ln)(p:Pt):Rat:=l.1*p.2.1+l.2.1*p.2.2.2.1
def qJ(l:Ln)(p:Pt):Int:=eD (Nr l p) (M8 l p) p.2.2.2.2
def ctr(c:Ln):Rat×Rat:=(c.1,c.2.1)
def nR(c:Ln)(p:Pt):Int:= -eD (sqA p (ctr c)-c.2.2) (sqB p (ctr c)) p.2.2.2.2
def qa(l:Ln)(v:Rat×Rat):Rat:=(l.1*v.1+l.2.1*v.2-l.2.2)/(l.1*l.1+l.2.1*l.2.1)
def lE(l:Ln)(v:Rat×Rat):Rat×Rat:=(v.1-qa l v*l.1,v.2-qa l v*l.2.1)
section
variable {l:Ln} {p:Pt} {v:Rat×Rat} {i j k:Nat}
instance afy [h:Bd l i]:Bd (ctr l) (mx i i):=inferInstanceAs (Bd ((l.1,l.2.1):Rat×Rat) _)
instance ae0 [h:Bd l i] [h':Bd p j]:Bd (Nr l p) ((i+j)+(i+j)+1+i+1):=inferInstanceAs (Bd (l.1*p.1+l.2.1*p.2.2.1-l.2.2) _)
instance ae7 [h:Bd l i] [h':Bd p j]:Bd (M8 l p) ((i+j)+(i+j)+1):=inferInstanceAs (Bd (l.1*p.2.1+l.2.1*p.2.2.2.1) _)
instance ae3 [h:Bd l i] [h':Bd v k]:Bd (qa l v) (((i+k)+(i+k)+1+i+1)+((i+i)+(i+i)+1)):=inferInstanceAs (Bd ((l.1*v.1+l.2.1*v.2-l.2.2)/(l.1*l.1+l.2.1*l.2.1)) _)
instance aea [h:Bd l i] [h':Bd v k]:Bd (lE l v) (8*i+3*k+4):=by
 have i1:Bd (v.1-qa l v*l.1) _:=inferInstance
 have i2:Bd (v.2-qa l v*l.2.1) _:=inferInstance
 have i3:Bd ((v.1-qa l v*l.1,v.2-qa l v*l.2.1):Rat×Rat) _:=inferInstance
 exact i3.mono (fp (by omega) (by omega))
end
theorem zZ{a b:Rat}(h:a≠0∨b≠0):a*a+b*b≠0:=by
 have ha:0≤a*a:=by
  rcases(by grind:0≤a∨0≤ -a)with h|h
  ·exact Rat.mul_nonneg h h
  ·have:=Rat.mul_nonneg h h;grind
 have hb:0≤b*b:=by
  rcases(by grind:0≤b∨0≤ -b)with h|h
  ·exact Rat.mul_nonneg h h
  ·have:=Rat.mul_nonneg h h;grind
 intro e
 have e1:a*a=0:=by grind
 have e2:b*b=0:=by grind
 rcases h with h|h
 ·exact h (by rcases Rat.mul_eq_zero.1 e1 with h|h<;>exact h)
 ·exact h (by rcases Rat.mul_eq_zero.1 e2 with h|h<;>exact h)
namespace RE
theorem abV(a b x s y t c r:RE):a*(x+s*r)+b*(y+t*r)+ -c=a*x+b*y-c+(a*s+b*t)*r:=by
 induction a using Quotient.inductionOn
 induction b using Quotient.inductionOn
 induction x using Quotient.inductionOn
 induction s using Quotient.inductionOn
 induction y using Quotient.inductionOn
 induction t using Quotient.inductionOn
 induction c using Quotient.inductionOn
 induction r using Quotient.inductionOn
 exact snd fun n=>by
  simp only[RL.add,RL.mul,RL.neg]
  grind
theorem aeS(a b q r:RE):a+b*r+ -q=a-q+b*r:=by
 induction a using Quotient.inductionOn
 induction b using Quotient.inductionOn
 induction q using Quotient.inductionOn
 induction r using Quotient.inductionOn
 exact snd fun n=>by
  simp only[RL.add,RL.mul,RL.neg]
  grind
theorem Vr(a b:RE):a+ -b=a-b:=rfl
theorem VP(l:Ln){p:Pt}[h:Rpd p]:qJ l p=sg (of l.1*pX p+of l.2.1*pY p+ -of l.2.2):=by
 unfold qJ pX pY
 rw[sgn2_re h.nn]
 unfold v2
 rw[abV]
 unfold Nr M8
 simp only[of_add,of_sub,dX]
theorem We(c:Ln){p:Pt}[h:Rpd p]:nR c p= -sg ((pX p-of c.1)*(pX p-of c.1)+(pY p-of c.2.1)*(pY p-of c.2.1)+ -of c.2.2):=by
 unfold nR
 have e:=aby (p:=p) (v:=ctr c)
 unfold sqP at e
 rw[vR_co]at e
 rw[sgn2_re h.nn]
 unfold v2 at e ⊢
 rw[of_sub,←aeS,e]
 rfl
theorem sidL_ok(l:Ln){p:Pt}[Rpd p](h:(pQ l p).2=true):(pQ l p).1=qJ l p:=by
 rw[VC h,VP]
 try rfl
theorem insC_ok(c:Ln){p:Pt}[Rpd p](h:(oM c p).2=true): -(oM c p).1=nR c p:=by
 rw[WS h,We]
 simp only[Vr]
 try rfl
end RE
end Go.Proofs.YtlahabkjhgkkjaaGreat
namespace Go.Proofs.YtlahabkjhgkkjaaGreat
open Go.RowKit
def gf(r s:Rt):Rat:=bif decide (r.2.1=0)then s.2.2 else r.2.2
def kY(r s:Rt):Bool:=decide (r.2.1=0)||(decide (s.2.1=0)||decide (r.2.2=s.2.2))
def jZ(r s:Rt):Rt:=ji (r.1*s.1+r.2.1*s.2.1*gf r s) (r.1*s.2.1+r.2.1*s.1) (gf r s)
def sC(r s:Rt):Rt:=ji (r.1+s.1) (r.2.1+s.2.1) (gf r s)
def arT(r:Rt)(a:Rat):Rt:=(r.1+a,r.2.1,r.2.2)
theorem dk(a b:Rat):(aQ a b !=0)=!decide (a=b):=by
 unfold bne
 rw[aP]
instance afr {r s:Rt} {i j:Nat} [h:Bd r i] [h':Bd s j]:Bd (gf r s) (mx j i):=inferInstanceAs (Bd (bif decide (r.2.1=0)then s.2.2 else r.2.2) _)
instance ae9 {a b c:Rat} {i j k:Nat} [ha:Bd a i] [hb:Bd b j] [hc:Bd c k]:Bd (ji a b c) (mx i (mx j k)):=by
 have h1:=Ds i (mx j k)
 have h2:=Db i (mx j k)
 have h3:=Ds j k
 have h4:=Db j k
 have h5:=ng ha.le
 have z:bdR (mx i (mx j k)) 0:=bI me.le (by omega)
 refine⟨?_⟩
 unfold ji
 cases decide (b=0)
 ·cases decide (c=0)
  ·exact⟨bI ha.le (by omega),bI hb.le (by omega),bI hc.le (by omega)⟩
  ·exact⟨bI ha.le (by omega),z,z⟩
 ·exact⟨bI ha.le (by omega),z,z⟩
theorem LB(r:Rt):kY r r=true:=by
 unfold kY
 rw[decide_eq_true (rfl:r.2.2=r.2.2)]
 simp
theorem Jq{p:Pt}{v:Rat×Rat}(h:Rpd p):kY (jZ (xP (trP p (bkV v))) (xP (trP p (bkV v)))) (jZ (yP (trP p (bkV v))) (yP (trP p (bkV v))))=true∧sC (jZ (xP (trP p (bkV v))) (xP (trP p (bkV v)))) (jZ (yP (trP p (bkV v))) (yP (trP p (bkV v))))=sqP p v:=by
 obtain⟨ax,bx,ay,b_,c⟩:=p
 have hr:=h.rd
 unfold HP at hr
 simp only at hr
 unfold sqP sqA sqB xP yP trP bkV
 simp only
 rw[show ax+ -v.1=ax-v.1 by grind,show ay+ -v.2=ay-v.2 by grind]
 generalize ax-v.1=x
 generalize ay-v.2=y
 rcases hr with⟨rfl,rfl,rfl⟩|⟨h1,h2,h3⟩
 ·have e0:∀a:Rat,coR a 0 0=(a,0,0):=fun a=>rfl
  have e1:∀a:Rat,jZ (a,0,0) (a,0,0)=(a*a,0,0):=fun a=>by
   unfold jZ gf ji
   simp
   grind
  rw[e0,e0,e1,e1]
  refine⟨rfl,?_⟩
  rw[show x*0+y*0+(x*0+y*0)=(0:Rat) by grind]
  unfold sC gf ji coR
  simp
  grind
 ·have hc:c≠0:=by grind
  have dc:decide (c=0)=false:=decide_eq_false hc
  have sq0:∀a:Rat,jZ (coR a 0 c) (coR a 0 c)=(a*a,0,0):=fun a=>by
   unfold coR
   rw[decide_eq_true rfl]
   unfold jZ gf ji
   simp
   grind
  have sq1:∀a b:Rat,b≠0→jZ (coR a b c) (coR a b c)=coR (a*a+b*b*c) (a*b+b*a) c:=fun a b hb=>by
   have e:coR a b c=(a,b,c):=by unfold coR;rw[decide_eq_false hb];rfl
   rw[e]
   unfold jZ gf ji coR
   simp only[decide_eq_false hb,cond_false,dc]
  have cR:∀a b:Rat,ji a b c=coR a b c:=fun a b=>by unfold ji coR;rw[dc];rfl
  have ad:∀a b d e:Rat,kY (coR a b c) (coR d e c)=true∧(b≠0∨e≠0→sC (coR a b c) (coR d e c)=coR (a+d) (b+e) c)∧(b=0→e=0→sC (coR a b c) (coR d e c)=(a+d,0,0)):=fun a b d e=>by
   by_cases hb:b=0
   ·subst hb
    by_cases he:e=0
    ·subst he
     refine⟨rfl,fun h=>by simp at h,fun _ _=>?_⟩
     unfold coR sC gf ji
     simp
    ·refine⟨rfl,fun _=>?_,fun _ h=>absurd h he⟩
     have e1:coR a 0 c=(a,0,0):=rfl
     have e2:coR d e c=(d,e,c):=by unfold coR;rw[decide_eq_false he];rfl
     rw[e1,e2]
     show ji (a+d) (0+e) c=_
     rw[cR]
   ·have e1:coR a b c=(a,b,c):=by unfold coR;rw[decide_eq_false hb];rfl
    by_cases he:e=0
    ·subst he
     have e2:coR d 0 c=(d,0,0):=rfl
     refine⟨by rw[e1,e2];simp[kY],fun _=>?_,fun h=>absurd h hb⟩
     rw[e1,e2]
     unfold sC gf
     simp only[decide_eq_false hb,cond_false]
     rw[cR]
    ·have e2:coR d e c=(d,e,c):=by unfold coR;rw[decide_eq_false he];rfl
     refine⟨by rw[e1,e2];simp[kY],fun _=>?_,fun h=>absurd h hb⟩
     rw[e1,e2]
     unfold sC gf
     simp only[decide_eq_false hb,cond_false]
     rw[cR]
  have c0:∀a:Rat,((a,0,0):Rt)=coR a 0 c:=fun a=>rfl
  by_cases hx:bx=0
  ·subst hx
   have hy:b_≠0:=fun e=>h1 ⟨rfl,e⟩
   rw[sq0,sq1 _ _ hy,c0]
   obtain⟨g1,g2,g3⟩:=ad (x*x) 0 (y*y+b_*b_*c) (y*b_+b_*y)
   refine⟨g1,?_⟩
   by_cases he:y*b_+b_*y=0
   ·rw[g3 rfl he,show x*0+y*b_+(x*0+y*b_)=0 by grind]
    show _=coR _ 0 c
    rw[←c0]
    congr 1
    grind
   ·rw[g2 (.inr he)]
    congr 1<;>grind
  ·by_cases hy:b_=0
   ·subst hy
    rw[sq0,sq1 _ _ hx,c0]
    obtain⟨g1,g2,g3⟩:=ad (x*x+bx*bx*c) (x*bx+bx*x) (y*y) 0
    refine⟨g1,?_⟩
    by_cases he:x*bx+bx*x=0
    ·rw[g3 he rfl,show x*bx+y*0+(x*bx+y*0)=0 by grind]
     show _=coR _ 0 c
     rw[←c0]
     congr 1
     grind
    ·rw[g2 (.inl he)]
     congr 1<;>grind
   ·rw[sq1 _ _ hx,sq1 _ _ hy]
    obtain⟨g1,g2,g3⟩:=ad (x*x+bx*bx*c) (x*bx+bx*x) (y*y+b_*b_*c) (y*b_+b_*y)
    refine⟨g1,?_⟩
    by_cases h0:x*bx+bx*x=0∧y*b_+b_*y=0
    ·rw[g3 h0.1 h0.2,show x*bx+y*b_+(x*bx+y*b_)=0 by grind]
     show _=coR _ 0 c
     rw[←c0]
     congr 1
     grind
    ·rw[g2 (by by_cases e:x*bx+bx*x=0;exact .inr (fun e'=>h0 ⟨e,e'⟩);exact .inl e)]
     congr 1<;>grind
end Go.Proofs.YtlahabkjhgkkjaaGreat
namespace Go.Proofs.YtlahabkjhgkkjaaGreat
open Go.RowKit
theorem Rpd.com{p:Pt}{v:Rat×Rat}(h:Rpd p):kY (jZ (xP (trP p (bkV v))) (xP (trP p (bkV v)))) (jZ (yP (trP p (bkV v))) (yP (trP p (bkV v))))=true:=(Jq h).1
instance ae8 {r s:Rt} {i j:Nat} [h:Bd r i] [h':Bd s j]:Bd (jZ r s) (2*(i+j)+(mx j i)+1):=by
 have m:Bd (gf r s) (mx j i):=inferInstance
 have a1:Bd (r.1*s.1+r.2.1*s.2.1*gf r s) _:=inferInstance
 have a2:Bd (r.1*s.2.1+r.2.1*s.1) _:=inferInstance
 have i1:Bd (ji (r.1*s.1+r.2.1*s.2.1*gf r s) (r.1*s.2.1+r.2.1*s.1) (gf r s)) _:=inferInstance
 exact i1.mono (fp (by omega) (fp (by omega) (by omega)))
instance ae5 {r s:Rt} {i j:Nat} [h:Bd r i] [h':Bd s j]:Bd (sC r s) (i+j+1):=by
 have i1:Bd (ji (r.1+s.1) (r.2.1+s.2.1) (gf r s)) _:=inferInstance
 exact i1.mono (fp (by omega) (fp (by omega) (fp (by omega) (by omega))))
instance afs {r:Rt} {a:Rat} {i j:Nat} [h:Bd r i] [h':Bd a j]:Bd (arT r a) (i+j+1):=by
 have i1:Bd ((r.1+a,r.2.1,r.2.2):Rt) _:=inferInstance
 exact i1.mono (fp (by omega) (fp (by omega) (by omega)))
def rn:aL:=spN true true [tO,tR] (fun x=>decide (okT 15000 x.1∧ok Rat 15000 x.2.1)) (fun x=>[RV.d (.int .i64) (d9 (dec x.1) (aa x.2.1))])
theorem vk:af Tryz.prog 85=true∧ao Tryz.prog 85 rn∧∀g,rn.mut_=some g→aK Tryz.prog 85 g:=aq (by kernel_rfl) fun x h=>Q0 x.1 x.2.1 (of_decide_eq_true h)
noncomputable def kX:Env:=[(78,gA),(50,gY),(127,iR),(132,gT),(107,iU),(124,mb),(145,rI),(57,rv),(133,ri),(119,nT),(85,rn)]
theorem kn:EnvAll Tryz.prog kX:=⟨fj,fU,ii,fZ,hU,mJ,wP,vB,ww,ph,vk,trivial⟩
noncomputable def Fh:Ctx:=⟨Tryz.prog,ft,tys,kX,[]⟩
noncomputable def zD(_k:KT)(r:BO3)(s:BO3):Option (List RV):=match decide (okR r.2.1)with|true=>(match(aQ (aa r.2.1) 0)==0 with|true=>some [RV.d tR s.2.2,RV.d .bool true]|false=>(match decide (okR s.2.1)with|true=>(match(aQ (aa s.2.1) 0)==0 with|true=>some [RV.d tR r.2.2,RV.d .bool true]|false=>(match decide (okR r.2.2∧okR s.2.2)with|true=>some [RV.d tR r.2.2,RV.d .bool ((aQ (aa r.2.2) (aa s.2.2))==0)]|false=>none))|false=>none))|false=>none
theorem Z5(r:BO3)(s:BO3){rX:List RV}(hX:∃nX,zD (Fh.k nX) r s=some rX):Fh.Res 215 [.d tO r,.d tO s] rX:=aO (t:=fun k=>zD k r s) (fun k=>show go2 Tryz.prog ft tys kX [] k 4000 (az 215 [.d tO r,.d tO s]) (.node 0)=zD k r s by kernel_rfl) hX
theorem R9(r:BO3)(s:BO3)(h:ok Rt 100000 r∧ok Rt 100000 s):Con Tryz.prog 215 [.d tO r,.d tO s] [.d tR (ae (gf (dec r) (dec s))),.d .bool (kY (dec r) (dec s))]:=by
 refine Ctx.Res.con (C:=Fh) (au kn) (Z5 _ _ ⟨0,?_⟩) (fn:=Tryz.f215) (by kernel_rfl) (by kernel_rfl)
 obtain⟨hr,hs⟩:=h
 obtain⟨r,rfl,br⟩:=aS hr
 obtain⟨s,rfl,bs⟩:=aS hs
 unfold zD
 simp only[ak,aF,aG,aD,aw,aX,Bool.decide_and,Bool.and_self,Nat.reduceLeDiff,aP]
 unfold gf kY
 cases decide (r.2.1=0)<;>cases decide (s.2.1=0)<;>rfl
noncomputable def Ft:Ctx:=⟨Tryz.prog,ft,tys,kX,[]⟩
noncomputable def zg(_k:KT)(r:BO3)(a:BR):Option (List RV):=match decide (okR r.1∧okR a)with|true=>some [RV.d tO (hid (ae (aa r.1+aa a)),r.2)]|false=>none
theorem ZZ(r:BO3)(a:BR){rX:List RV}(hX:∃nX,zg (Ft.k nX) r a=some rX):Ft.Res 266 [.d tO r,.d tR a] rX:=aO (t:=fun k=>zg k r a) (fun k=>show go2 Tryz.prog ft tys kX [] k 4000 (az 266 [.d tO r,.d tR a]) (.node 0)=zg k r a by kernel_rfl) hX
theorem RI(r:BO3)(a:BR)(h:ok Rt 100000 r∧ok Rat 100000 a):Con Tryz.prog 266 [.d tO r,.d tR a] [.d tO (enc (arT (dec r) (aa a)))]:=by
 refine Ctx.Res.con (C:=Ft) (au kn) (ZZ _ _ ⟨0,?_⟩) (fn:=Tryz.f266) (by kernel_rfl) (by kernel_rfl)
 obtain⟨hr,ha⟩:=h
 obtain⟨r,rfl,br⟩:=aS hr
 obtain⟨a,rfl,ba⟩:=aS ha
 unfold zg
 simp only[aj,ak,aF,aG,aD,aw,aX,Bool.decide_and,Bool.and_self,Nat.reduceLeDiff]
 rfl
noncomputable def GJ:Ctx:=⟨Tryz.prog,ft,tys,kX,[]⟩
noncomputable def Bo(_k:KT):Option (List RV):=match decide (bh (0:Int))with|true=>some [RV.d tR (hid (ae ((0:Int):Rat)))]|false=>none
theorem ZT{rX:List RV}(hX:∃nX,Bo (GJ.k nX)=some rX):GJ.Res 82 [] rX:=aO (t:=fun k=>Bo k) (fun k=>show go2 Tryz.prog ft tys kX [] k 4000 (az 82 []) (.node 0)=Bo k by kernel_rfl) hX
theorem OM:Con Tryz.prog 82 [] [.d tR (ae 0)]:=by
 refine Ctx.Res.con (C:=GJ) (au kn) (ZT ⟨0,?_⟩) (fn:=Tryz.f82) (by kernel_rfl) (by kernel_rfl)
 unfold Bo
 rw[dT (show bh 0 by decide)]
 simp only[aj]
 rfl
noncomputable def GP:Ctx:=⟨Tryz.prog,ft,tys,kX,[]⟩
noncomputable def xl(_k:KT)(p:BP)(v:BV):Option (List RV):=match decide (okR p.1∧okR v.1)with|true=>(match decide (okR p.2.2.1∧okR v.2)with|true=>some [RV.d tP (hid (ae (aa p.1+aa v.1)),(p.2.1,(hid (ae (aa p.2.2.1+aa v.2)),p.2.2.2)))]|false=>none)|false=>none
theorem aaX(p:BP)(v:BV){rX:List RV}(hX:∃nX,xl (GP.k nX) p v=some rX):GP.Res 45 [.d tP p,.d tV v] rX:=aO (t:=fun k=>xl k p v) (fun k=>show go2 Tryz.prog ft tys kX [] k 4000 (az 45 [.d tP p,.d tV v]) (.node 0)=xl k p v by kernel_rfl) hX
theorem OS(p:BP)(v:BV)(h:ok Pt 21000 p∧ok (Rat×Rat) 1000 v):Con Tryz.prog 45 [.d tP p,.d tV v] [.d tP (enc (trP (dec p) (dec v)))]:=by
 refine Ctx.Res.con (C:=GP) (au kn) (aaX _ _ ⟨0,?_⟩) (fn:=Tryz.f45) (by kernel_rfl) (by kernel_rfl)
 obtain⟨hp,hv⟩:=h
 obtain⟨p,rfl,bp⟩:=aS hp
 obtain⟨v,rfl,bv⟩:=aS hv
 unfold xl
 simp only[aj,ak,aF,aG,aD,aw,aX,Bool.decide_and,Bool.and_self,Nat.reduceLeDiff]
 rfl
noncomputable def Eb:Ctx:=⟨Tryz.prog,ft,tys,kX,[]⟩
noncomputable def Au(_k:KT)(v:BV):Option (List RV):=match decide (okR v.1)with|true=>(match decide (okR v.2)with|true=>some [RV.d tV (hid (ae (-aa v.1)),hid (ae (-aa v.2)))]|false=>none)|false=>none
theorem aa3(v:BV){rX:List RV}(hX:∃nX,Au (Eb.k nX) v=some rX):Eb.Res 136 [.d tV v] rX:=aO (t:=fun k=>Au k v) (fun k=>show go2 Tryz.prog ft tys kX [] k 4000 (az 136 [.d tV v]) (.node 0)=Au k v by kernel_rfl) hX
theorem PK(v:BV)(h:ok (Rat×Rat) 21000 v):Con Tryz.prog 136 [.d tV v] [.d tV (enc (bkV (dec v)))]:=by
 refine Ctx.Res.con (C:=Eb) (au kn) (aa3 _ ⟨0,?_⟩) (fn:=Tryz.f136) (by kernel_rfl) (by kernel_rfl)
 have hv:=h
 obtain⟨v,rfl,bv⟩:=aS hv
 unfold Au
 simp only[aj,ak,aF,aG,aD,aw,aX,Nat.reduceLeDiff]
 rfl
noncomputable def xY:aL:=spN false true [tO,tO] (fun x=>decide (ok Rt 100000 x.1∧ok Rt 100000 x.2.1)) (fun x=>[RV.d tR (hid (ae (gf (dec x.1) (dec x.2.1)))),RV.d .bool (kY (dec x.1) (dec x.2.1))])
theorem Mh:af Tryz.prog 215=true∧ao Tryz.prog 215 xY∧∀g,xY.mut_=some g→aK Tryz.prog 215 g:=aq (by kernel_rfl) fun x h=>by simp only[aj];exact R9 x.1 x.2.1 (of_decide_eq_true h)
noncomputable def qO:aL:=spN false true [tO,tR] (fun x=>decide (ok Rt 100000 x.1∧ok Rat 100000 x.2.1)) (fun x=>[RV.d tO (hid (enc (arT (dec x.1) (aa x.2.1))))])
theorem vY:af Tryz.prog 266=true∧ao Tryz.prog 266 qO∧∀g,qO.mut_=some g→aK Tryz.prog 266 g:=aq (by kernel_rfl) fun x h=>by simp only[aj];exact RI x.1 x.2.1 (of_decide_eq_true h)
noncomputable def As:aL:=spN false true [] (fun _=>true) (fun _=>[RV.d tR (hid (ae 0))])
theorem MJ:af Tryz.prog 82=true∧ao Tryz.prog 82 As∧∀g,As.mut_=some g→aK Tryz.prog 82 g:=aq (by kernel_rfl) fun _ _=>by simp only[aj];exact OM
noncomputable def yJ:aL:=spN false true [tP,tV] (fun x=>decide (ok Pt 21000 x.1∧ok (Rat×Rat) 1000 x.2.1)) (fun x=>[RV.d tP (hid (enc (trP (dec x.1) (dec x.2.1))))])
theorem LS:af Tryz.prog 45=true∧ao Tryz.prog 45 yJ∧∀g,yJ.mut_=some g→aK Tryz.prog 45 g:=aq (by kernel_rfl) fun x h=>by simp only[aj];exact OS x.1 x.2.1 (of_decide_eq_true h)
noncomputable def zC:aL:=spN false true [tV] (fun x=>decide (ok (Rat×Rat) 21000 x.1)) (fun x=>[RV.d tV (hid (enc (bkV (dec x.1))))])
theorem M3:af Tryz.prog 136=true∧ao Tryz.prog 136 zC∧∀g,zC.mut_=some g→aK Tryz.prog 136 g:=aq (by kernel_rfl) fun x h=>by simp only[aj];exact PK x.1 (of_decide_eq_true h)
noncomputable def uT:Env:=(215,xY)::(266,qO)::(82,As)::(45,yJ)::(136,zC)::kX
theorem tN:EnvAll Tryz.prog uT:=⟨Mh,vY,MJ,LS,M3,kn⟩
noncomputable def FP:Ctx:=⟨Tryz.prog,ft,tys,uT,[]⟩
noncomputable def AD(_k:KT)(r:BO3)(s:BO3):Option (List RV):=match decide (ok Rt 100000 r∧ok Rt 100000 s)with|true=>(match !(kY (dec r) (dec s))with|true=>some [RV.d tO (((false,[]),(false,[])),(((false,[]),(false,[])),((false,[]),(false,[])))),RV.d (.int .i64) 1]|false=>(match decide (okR r.1∧okR s.1)with|true=>(match decide (okR r.2.1∧okR s.2.1)with|true=>(match decide (okR (hid (ae (aa r.2.1*aa s.2.1)))∧okR (hid (ae (gf (dec r) (dec s)))))with|true=>(match decide (okR (hid (ae (aa r.1*aa s.1)))∧okR (hid (ae (aa (hid (ae (aa r.2.1*aa s.2.1)))*aa (hid (ae (gf (dec r) (dec s))))))))with|true=>(match decide (okR r.1∧okR s.2.1)with|true=>(match decide (okR r.2.1∧okR s.1)with|true=>(match decide (okR (hid (ae (aa r.1*aa s.2.1)))∧okR (hid (ae (aa r.2.1*aa s.1))))with|true=>(match decide (okR (hid (ae (aa (hid (ae (aa r.1*aa s.1)))+aa (hid (ae (aa (hid (ae (aa r.2.1*aa s.2.1)))*aa (hid (ae (gf (dec r) (dec s))))))))))∧okR (hid (ae (aa (hid (ae (aa r.1*aa s.2.1)))+aa (hid (ae (aa r.2.1*aa s.1))))))∧okR (hid (ae (gf (dec r) (dec s)))))with|true=>some [RV.d tO (hid (enc (ji (aa (hid (ae (aa (hid (ae (aa r.1*aa s.1)))+aa (hid (ae (aa (hid (ae (aa r.2.1*aa s.2.1)))*aa (hid (ae (gf (dec r) (dec s))))))))))) (aa (hid (ae (aa (hid (ae (aa r.1*aa s.2.1)))+aa (hid (ae (aa r.2.1*aa s.1))))))) (aa (hid (ae (gf (dec r) (dec s)))))))),RV.d (.int .i64) 0]|false=>none)|false=>none)|false=>none)|false=>none)|false=>none)|false=>none)|false=>none)|false=>none))|false=>none
theorem abn(r:BO3)(s:BO3){rX:List RV}(hX:∃nX,AD (FP.k nX) r s=some rX):FP.Res 209 [.d tO r,.d tO s] rX:=aO (t:=fun k=>AD k r s) (fun k=>show go2 Tryz.prog ft tys uT [] k 4000 (az 209 [.d tO r,.d tO s]) (.node 0)=AD k r s by kernel_rfl) hX
theorem Oe(r:BO3)(s:BO3)(h:ok Rt 50000 r∧ok Rt 50000 s∧kY (dec r) (dec s)=true):Con Tryz.prog 209 [.d tO r,.d tO s] [.d tO (enc (jZ (dec r) (dec s))),.d (.int .i64) 0]:=by
 refine Ctx.Res.con (C:=FP) (au tN) (abn _ _ ⟨0,?_⟩) (fn:=Tryz.f209) (by kernel_rfl) (by kernel_rfl)
 obtain⟨hr,hs,htrue⟩:=h
 obtain⟨r,rfl,br⟩:=aS hr
 obtain⟨s,rfl,bs⟩:=aS hs
 have hm:=htrue
 rw[ak,ak]at hm
 unfold AD
 simp only[aj,ak,aF,aG,aD,aw,okd,aX,Bool.decide_and,Bool.and_self,mx,Nat.reduceAdd,Nat.reduceLeDiff,decide_true,cond_true,hm,Bool.not_true]
 rfl
noncomputable def Ho:Ctx:=⟨Tryz.prog,ft,tys,uT,[]⟩
noncomputable def xj(_k:KT)(r:BO3)(s:BO3):Option (List RV):=match decide (ok Rt 100000 r∧ok Rt 100000 s)with|true=>(match !(kY (dec r) (dec s))with|true=>some [RV.d tO (((false,[]),(false,[])),(((false,[]),(false,[])),((false,[]),(false,[])))),RV.d (.int .i64) 1]|false=>(match decide (okR r.1∧okR s.1)with|true=>(match decide (okR r.2.1∧okR s.2.1)with|true=>(match decide (okR (hid (ae (aa r.1+aa s.1)))∧okR (hid (ae (aa r.2.1+aa s.2.1)))∧okR (hid (ae (gf (dec r) (dec s)))))with|true=>some [RV.d tO (hid (enc (ji (aa (hid (ae (aa r.1+aa s.1)))) (aa (hid (ae (aa r.2.1+aa s.2.1)))) (aa (hid (ae (gf (dec r) (dec s)))))))),RV.d (.int .i64) 0]|false=>none)|false=>none)|false=>none))|false=>none
theorem aaY(r:BO3)(s:BO3){rX:List RV}(hX:∃nX,xj (Ho.k nX) r s=some rX):Ho.Res 137 [.d tO r,.d tO s] rX:=aO (t:=fun k=>xj k r s) (fun k=>show go2 Tryz.prog ft tys uT [] k 4000 (az 137 [.d tO r,.d tO s]) (.node 0)=xj k r s by kernel_rfl) hX
theorem Rr(r:BO3)(s:BO3)(h:ok Rt 100000 r∧ok Rt 100000 s∧kY (dec r) (dec s)=true):Con Tryz.prog 137 [.d tO r,.d tO s] [.d tO (enc (sC (dec r) (dec s))),.d (.int .i64) 0]:=by
 refine Ctx.Res.con (C:=Ho) (au tN) (aaY _ _ ⟨0,?_⟩) (fn:=Tryz.f137) (by kernel_rfl) (by kernel_rfl)
 obtain⟨hr,hs,htrue⟩:=h
 obtain⟨r,rfl,br⟩:=aS hr
 obtain⟨s,rfl,bs⟩:=aS hs
 have hm:=htrue
 rw[ak,ak]at hm
 unfold xj
 simp only[aj,ak,aF,aG,aD,aw,okd,aX,Bool.decide_and,Bool.and_self,mx,Nat.reduceAdd,Nat.reduceLeDiff,decide_true,cond_true,hm,Bool.not_true]
 rfl
noncomputable def Bj:aL:=spN false true [tO,tO] (fun x=>decide (ok Rt 50000 x.1∧ok Rt 50000 x.2.1∧kY (dec x.1) (dec x.2.1)=true)) (fun x=>[RV.d tO (hid (enc (jZ (dec x.1) (dec x.2.1)))),RV.d (.int .i64) 0])
theorem LJ:af Tryz.prog 209=true∧ao Tryz.prog 209 Bj∧∀g,Bj.mut_=some g→aK Tryz.prog 209 g:=aq (by kernel_rfl) fun x h=>by simp only[aj];exact Oe x.1 x.2.1 (of_decide_eq_true h)
noncomputable def yp:aL:=spN false true [tO,tO] (fun x=>decide (ok Rt 100000 x.1∧ok Rt 100000 x.2.1∧kY (dec x.1) (dec x.2.1)=true)) (fun x=>[RV.d tO (hid (enc (sC (dec x.1) (dec x.2.1)))),RV.d (.int .i64) 0])
theorem Nf:af Tryz.prog 137=true∧ao Tryz.prog 137 yp∧∀g,yp.mut_=some g→aK Tryz.prog 137 g:=aq (by kernel_rfl) fun x h=>by simp only[aj];exact Rr x.1 x.2.1 (of_decide_eq_true h)
noncomputable def m6:Env:=(209,Bj)::(137,yp)::uT
theorem l4:EnvAll Tryz.prog m6:=⟨LJ,Nf,tN⟩
noncomputable def GT:Ctx:=⟨Tryz.prog,ft,tys,m6,[]⟩
noncomputable def yb(_k:KT)(r:BO3):Option (List RV):=match decide (ok Rt 50000 r∧ok Rt 50000 r∧kY (dec r) (dec r)=true)with|true=>some [RV.d tO (hid (enc (jZ (dec r) (dec r))))]|false=>none
theorem ZV(r:BO3){rX:List RV}(hX:∃nX,yb (GT.k nX) r=some rX):GT.Res 120 [.d tO r] rX:=aO (t:=fun k=>yb k r) (fun k=>show go2 Tryz.prog ft tys m6 [] k 4000 (az 120 [.d tO r]) (.node 0)=yb k r by kernel_rfl) hX
theorem QR(r:BO3)(h:ok Rt 50000 r):Con Tryz.prog 120 [.d tO r] [.d tO (enc (jZ (dec r) (dec r)))]:=by
 refine Ctx.Res.con (C:=GT) (au l4) (ZV _ ⟨0,?_⟩) (fn:=Tryz.f120) (by kernel_rfl) (by kernel_rfl)
 have hr:=h
 obtain⟨r,rfl,br⟩:=aS hr
 unfold yb
 simp only[aj,ak,okd,Bool.decide_and,Bool.and_self,Nat.reduceLeDiff,decide_true,LB]
noncomputable def Ek:Ctx:=⟨Tryz.prog,ft,tys,m6,[]⟩
noncomputable def zA(_k:KT)(v:BV):Option (List RV):=some [RV.d tP (v.1,(hid (ae 0),(v.2,(hid (ae 0),hid (ae 0)))))]
theorem abU(v:BV){rX:List RV}(hX:∃nX,zA (Ek.k nX) v=some rX):Ek.Res 20 [.d tV v] rX:=aO (t:=fun k=>zA k v) (fun k=>show go2 Tryz.prog ft tys m6 [] k 4000 (az 20 [.d tV v]) (.node 0)=zA k v by kernel_rfl) hX
theorem R8(v:BV)(h:ok (Rat×Rat) 100000 v):Con Tryz.prog 20 [.d tV v] [.d tP (enc (atP (dec v)))]:=by
 refine Ctx.Res.con (C:=Ek) (au l4) (abU _ ⟨0,?_⟩) (fn:=Tryz.f20) (by kernel_rfl) (by kernel_rfl)
 have hv:=h
 obtain⟨v,rfl,bv⟩:=aS hv
 unfold zA
 simp only[aj,ak,aF,aG,aD]
 try rfl
noncomputable def Hm:Ctx:=⟨Tryz.prog,ft,tys,m6,[]⟩
noncomputable def ye(_k:KT)(a:BR)(b:BR)(c:BR)(d:BR)(e:BR):Option (List RV):=match decide (okR b)with|true=>(match(aQ (aa b) 0)==0 with|true=>(match decide (okR d)with|true=>(match(aQ (aa d) 0)==0 with|true=>some [RV.d tP (a,(b,(c,(d,hid (ae 0)))))]|false=>some [RV.d tP (a,(b,(c,(d,e))))])|false=>none)|false=>some [RV.d tP (a,(b,(c,(d,e))))])|false=>none
theorem abD(a:BR)(b:BR)(c:BR)(d:BR)(e:BR){rX:List RV}(hX:∃nX,ye (Hm.k nX) a b c d e=some rX):Hm.Res 194 [.d tR a,.d tR b,.d tR c,.d tR d,.d tR e] rX:=aO (t:=fun k=>ye k a b c d e) (fun k=>show go2 Tryz.prog ft tys m6 [] k 4000 (az 194 [.d tR a,.d tR b,.d tR c,.d tR d,.d tR e]) (.node 0)=ye k a b c d e by kernel_rfl) hX
theorem Sa(a:BR)(b:BR)(c:BR)(d:BR)(e:BR)(h:okR a∧okR b∧okR c∧okR d∧okR e):Con Tryz.prog 194 [.d tR a,.d tR b,.d tR c,.d tR d,.d tR e] [.d tP (enc (rdP (aa a,aa b,aa c,aa d,aa e)))]:=by
 refine Ctx.Res.con (C:=Hm) (au l4) (abD _ _ _ _ _ ⟨0,?_⟩) (fn:=Tryz.f194) (by kernel_rfl) (by kernel_rfl)
 obtain⟨ha,hb,hc,hd,he⟩:=h
 obtain⟨a,rfl,ba⟩:=dD ha
 obtain⟨b,rfl,bb⟩:=dD hb
 obtain⟨c,rfl,bc⟩:=dD hc
 obtain⟨d,rfl,bd⟩:=dD hd
 obtain⟨e,rfl,be⟩:=dD he
 unfold ye
 simp only[aj,aw,aX,Nat.reduceLeDiff,aP]
 unfold rdP
 by_cases h1:b=0
 ·by_cases h2:d=0
  ·rw[decide_eq_true h1,decide_eq_true h2];rfl
  ·rw[decide_eq_true h1,decide_eq_false h2];rfl
 ·rw[decide_eq_false h1];rfl
noncomputable def HJ:Ctx:=⟨Tryz.prog,ft,tys,m6,[]⟩
noncomputable def zz(_k:KT)(a:BR)(b:BR)(c:BR):Option (List RV):=match decide (okR b)with|true=>(match(aQ (aa b) 0)==0 with|true=>(match decide (okR a)with|true=>some [RV.d tO (hid (enc ((aa a,0,0):Rt)))]|false=>none)|false=>some [RV.d tO (a,(b,c))])|false=>none
theorem aax(a:BR)(b:BR)(c:BR){rX:List RV}(hX:∃nX,zz (HJ.k nX) a b c=some rX):HJ.Res 216 [.d tR a,.d tR b,.d tR c] rX:=aO (t:=fun k=>zz k a b c) (fun k=>show go2 Tryz.prog ft tys m6 [] k 4000 (az 216 [.d tR a,.d tR b,.d tR c]) (.node 0)=zz k a b c by kernel_rfl) hX
theorem U1(a:BR)(b:BR)(c:BR)(h:okR a∧okR b∧okR c):Con Tryz.prog 216 [.d tR a,.d tR b,.d tR c] [.d tO (enc (coR (aa a) (aa b) (aa c)))]:=by
 refine Ctx.Res.con (C:=HJ) (au l4) (aax _ _ _ ⟨0,?_⟩) (fn:=Tryz.f216) (by kernel_rfl) (by kernel_rfl)
 obtain⟨ha,hb,hc⟩:=h
 obtain⟨a,rfl,ba⟩:=dD ha
 obtain⟨b,rfl,bb⟩:=dD hb
 obtain⟨c,rfl,bc⟩:=dD hc
 unfold zz
 simp only[aj,aR,aD,aw,aX,Nat.reduceLeDiff,aP]
 unfold coR
 by_cases e:b=0
 ·subst e;rw[decide_eq_true rfl];rfl
 ·rw[decide_eq_false e];rfl
noncomputable def xn:aL:=spN false true [tO] (fun x=>decide (ok Rt 50000 x.1)) (fun x=>[RV.d tO (hid (enc (jZ (dec x.1) (dec x.1))))])
theorem LK:af Tryz.prog 120=true∧ao Tryz.prog 120 xn∧∀g,xn.mut_=some g→aK Tryz.prog 120 g:=aq (by kernel_rfl) fun x h=>by simp only[aj];exact QR x.1 (of_decide_eq_true h)
noncomputable def oA:aL:=spN false true [tV] (fun x=>decide (ok (Rat×Rat) 100000 x.1)) (fun x=>[RV.d tP (hid (enc (atP (dec x.1))))])
theorem oY:af Tryz.prog 20=true∧ao Tryz.prog 20 oA∧∀g,oA.mut_=some g→aK Tryz.prog 20 g:=aq (by kernel_rfl) fun x h=>by simp only[aj];exact R8 x.1 (of_decide_eq_true h)
noncomputable def xE:aL:=spN false true [tR,tR,tR,tR,tR] (fun x=>decide (okR x.1∧okR x.2.1∧okR x.2.2.1∧okR x.2.2.2.1∧okR x.2.2.2.2.1)) (fun x=>[RV.d tP (hid (enc (rdP (aa x.1,aa x.2.1,aa x.2.2.1,aa x.2.2.2.1,aa x.2.2.2.2.1))))])
theorem Mb:af Tryz.prog 194=true∧ao Tryz.prog 194 xE∧∀g,xE.mut_=some g→aK Tryz.prog 194 g:=aq (by kernel_rfl) fun x h=>by simp only[aj];exact Sa x.1 x.2.1 x.2.2.1 x.2.2.2.1 x.2.2.2.2.1 (of_decide_eq_true h)
noncomputable def yR:aL:=spN false true [tR,tR,tR] (fun x=>decide (okR x.1∧okR x.2.1∧okR x.2.2.1)) (fun x=>[RV.d tO (hid (enc (coR (aa x.1) (aa x.2.1) (aa x.2.2.1))))])
theorem MY:af Tryz.prog 216=true∧ao Tryz.prog 216 yR∧∀g,yR.mut_=some g→aK Tryz.prog 216 g:=aq (by kernel_rfl) fun x h=>by simp only[aj];exact U1 x.1 x.2.1 x.2.2.1 (of_decide_eq_true h)
noncomputable def qw:Env:=(120,xn)::(20,oA)::(194,xE)::(216,yR)::m6
theorem oe:EnvAll Tryz.prog qw:=⟨LK,oY,Mb,MY,l4⟩
noncomputable def E4:Ctx:=⟨Tryz.prog,ft,tys,qw,[]⟩
noncomputable def Az(_k:KT)(x:BO3)(y:BO3):Option (List RV):=let y1:=aQ (aa x.2.1) 0;let y2:Option (List RV):=match decide (okR x.2.1)with|true=>(match y1==0 with|true=>(match decide (okR x.1∧okR x.2.1∧okR y.1∧okR y.2.1∧okR y.2.2)with|true=>some [RV.d tP (hid (enc (rdP (aa x.1,aa x.2.1,aa y.1,aa y.2.1,aa y.2.2)))),RV.d (.int .i64) 0]|false=>none)|false=>(match decide (okR x.1∧okR x.2.1∧okR y.1∧okR y.2.1∧okR x.2.2)with|true=>some [RV.d tP (hid (enc (rdP (aa x.1,aa x.2.1,aa y.1,aa y.2.1,aa x.2.2)))),RV.d (.int .i64) 0]|false=>none))|false=>none;match decide (okR x.2.1)with|true=>(match y1 !=0 with|true=>(match decide (okR y.2.1)with|true=>(match(aQ (aa y.2.1) 0) !=0 with|true=>(match decide (okR x.2.2∧okR y.2.2)with|true=>(match(aQ (aa x.2.2) (aa y.2.2)) !=0 with|true=>some [RV.d tP (((false,[]),(false,[])),(((false,[]),(false,[])),(((false,[]),(false,[])),(((false,[]),(false,[])),((false,[]),(false,[])))))),RV.d (.int .i64) 1]|false=>y2)|false=>none)|false=>y2)|false=>none)|false=>y2)|false=>none
theorem aaJ(x:BO3)(y:BO3){rX:List RV}(hX:∃nX,Az (E4.k nX) x y=some rX):E4.Res 109 [.d tO x,.d tO y] rX:=aO (t:=fun k=>Az k x y) (fun k=>show go2 Tryz.prog ft tys qw [] k 4000 (az 109 [.d tO x,.d tO y]) (.node 0)=Az k x y by kernel_rfl) hX
theorem Tq(x:BO3)(y:BO3)(h:okT 15000 x∧okT 15000 y∧ug (dec x) (dec y)):Con Tryz.prog 109 [.d tO x,.d tO y] [.d tP (enc (mkP (dec x) (dec y))),.d (.int .i64) 0]:=by
 refine Ctx.Res.con (C:=E4) (au oe) (aaJ _ _ ⟨0,?_⟩) (fn:=Tryz.f109) (by kernel_rfl) (by kernel_rfl)
 obtain⟨hx,hy,hy_2⟩:=h
 obtain⟨x,rfl,bx,rx⟩:=fJ hx
 obtain⟨y,rfl,b_y,ry⟩:=fJ hy
 have hm:=hy_2
 rw[ak,ak]at hm
 unfold Az
 simp only[aj,ak,aF,aG,aD,aw,aX,Bool.decide_and,Bool.and_self,Nat.reduceLeDiff,aP,dk]
 unfold mkP
 by_cases e1:x.2.1=0
 ·rw[decide_eq_true e1];rfl
 ·rw[decide_eq_false e1]
  by_cases e2:y.2.1=0
  ·rw[decide_eq_true e2];rfl
  ·rw[decide_eq_false e2,decide_eq_true ((hm.resolve_left e1).resolve_left e2)];rfl
noncomputable def SU:Ctx:=⟨Tryz.prog,ft,tys,qw,[]⟩
noncomputable def Ie(_k:KT)(p:BP):Option (List RV):=match decide (okR p.1∧okR p.2.1∧okR p.2.2.2.2)with|true=>some [RV.d tO (hid (enc (coR (aa p.1) (aa p.2.1) (aa p.2.2.2.2))))]|false=>none
theorem acu(p:BP){rX:List RV}(hX:∃nX,Ie (SU.k nX) p=some rX):SU.Res 138 [.d tP p] rX:=aO (t:=fun k=>Ie k p) (fun k=>show go2 Tryz.prog ft tys qw [] k 4000 (az 138 [.d tP p]) (.node 0)=Ie k p by kernel_rfl) hX
theorem Xa(p:BP)(h:okP 4000 p):Con Tryz.prog 138 [.d tP p] [.d tO (enc (xP (dec p)))]:=by
 refine Ctx.Res.con (C:=SU) (au oe) (acu _ ⟨0,?_⟩) (fn:=Tryz.f138) (by kernel_rfl) (by kernel_rfl)
 have hp:=h
 obtain⟨p,rfl,bp,rp⟩:=cC hp
 unfold Ie
 simp only[aj,ak,aF,aG,aD,aw,aX,Bool.decide_and,Bool.and_self,Nat.reduceLeDiff]
 try rfl
noncomputable def Q3:Ctx:=⟨Tryz.prog,ft,tys,qw,[]⟩
noncomputable def J7(_k:KT)(p:BP):Option (List RV):=match decide (okR p.2.2.1∧okR p.2.2.2.1∧okR p.2.2.2.2)with|true=>some [RV.d tO (hid (enc (coR (aa p.2.2.1) (aa p.2.2.2.1) (aa p.2.2.2.2))))]|false=>none
theorem adh(p:BP){rX:List RV}(hX:∃nX,J7 (Q3.k nX) p=some rX):Q3.Res 139 [.d tP p] rX:=aO (t:=fun k=>J7 k p) (fun k=>show go2 Tryz.prog ft tys qw [] k 4000 (az 139 [.d tP p]) (.node 0)=J7 k p by kernel_rfl) hX
theorem YH(p:BP)(h:okP 4000 p):Con Tryz.prog 139 [.d tP p] [.d tO (enc (yP (dec p)))]:=by
 refine Ctx.Res.con (C:=Q3) (au oe) (adh _ ⟨0,?_⟩) (fn:=Tryz.f139) (by kernel_rfl) (by kernel_rfl)
 have hp:=h
 obtain⟨p,rfl,bp,rp⟩:=cC hp
 unfold J7
 simp only[aj,ak,aF,aG,aD,aw,aX,Bool.decide_and,Bool.and_self,Nat.reduceLeDiff]
 try rfl
noncomputable def AL:aL:=spN false true [tP] (fun x=>decide (okP 4000 x.1)) (fun x=>[RV.d tO (hid (enc (xP (dec x.1))))])
theorem Cs:af Tryz.prog 138=true∧ao Tryz.prog 138 AL∧∀g,AL.mut_=some g→aK Tryz.prog 138 g:=aq (by kernel_rfl) fun x h=>by simp only[aj];exact Xa x.1 (of_decide_eq_true h)
noncomputable def Aj:aL:=spN false true [tP] (fun x=>decide (okP 4000 x.1)) (fun x=>[RV.d tO (hid (enc (yP (dec x.1))))])
theorem Cw:af Tryz.prog 139=true∧ao Tryz.prog 139 Aj∧∀g,Aj.mut_=some g→aK Tryz.prog 139 g:=aq (by kernel_rfl) fun x h=>by simp only[aj];exact YH x.1 (of_decide_eq_true h)
noncomputable def JS:Env:=(138,AL)::(139,Aj)::qw
theorem DA:EnvAll Tryz.prog JS:=⟨Cs,Cw,oe⟩
noncomputable def Eo:Ctx:=⟨Tryz.prog,ft,tys,JS,[]⟩
noncomputable def AA(_k:KT)(p:BP)(q:BP):Option (List RV):=match decide (okP 4000 p)with|true=>(match decide (okP 4000 q)with|true=>(match decide (okT 15000 (hid (enc (xP (dec p))))∧okT 15000 (hid (enc (xP (dec q)))))with|true=>(match(bK (dec (hid (enc (xP (dec p))))) (dec (hid (enc (xP (dec q)))))) !=0 with|true=>some [RV.d (.int .i64) (bK (dec (hid (enc (xP (dec p))))) (dec (hid (enc (xP (dec q))))))]|false=>(match decide (okP 4000 p)with|true=>(match decide (okP 4000 q)with|true=>(match decide (okT 15000 (hid (enc (yP (dec p))))∧okT 15000 (hid (enc (yP (dec q)))))with|true=>some [RV.d (.int .i64) (bK (dec (hid (enc (yP (dec p))))) (dec (hid (enc (yP (dec q))))))]|false=>none)|false=>none)|false=>none))|false=>none)|false=>none)|false=>none
theorem ab0(p:BP)(q:BP){rX:List RV}(hX:∃nX,AA (Eo.k nX) p q=some rX):Eo.Res 96 [.d tP p,.d tP q] rX:=aO (t:=fun k=>AA k p q) (fun k=>show go2 Tryz.prog ft tys JS [] k 4000 (az 96 [.d tP p,.d tP q]) (.node 0)=AA k p q by kernel_rfl) hX
theorem QU(p:BP)(q:BP)(h:okP 4000 p∧okP 4000 q):Con Tryz.prog 96 [.d tP p,.d tP q] [.d (.int .i64) (dS (dec p) (dec q))]:=by
 refine Ctx.Res.con (C:=Eo) (au DA) (ab0 _ _ ⟨0,?_⟩) (fn:=Tryz.f96) (by kernel_rfl) (by kernel_rfl)
 obtain⟨hp,hq⟩:=h
 obtain⟨p,rfl,bp,rp⟩:=cC hp
 obtain⟨q,rfl,bq,rq⟩:=cC hq
 unfold AA
 simp only[aj,ak,Bool.decide_and,Bool.and_self,mx,Nat.reduceLeDiff,decide_true,cond_true,bH,bP]
 unfold dS bne
 cases bK (xP p) (xP q)==0<;>rfl
noncomputable def xd:aL:=spN false true [tO,tO] (fun x=>decide (okT 15000 x.1∧okT 15000 x.2.1∧ug (dec x.1) (dec x.2.1))) (fun x=>[RV.d tP (hid (enc (mkP (dec x.1) (dec x.2.1)))),RV.d (.int .i64) 0])
theorem LO:af Tryz.prog 109=true∧ao Tryz.prog 109 xd∧∀g,xd.mut_=some g→aK Tryz.prog 109 g:=aq (by kernel_rfl) fun x h=>by simp only[aj];exact Tq x.1 x.2.1 (of_decide_eq_true h)
def oo:aL:=spN true true [tP,tP] (fun x=>decide (okP 4000 x.1∧okP 4000 x.2.1)) (fun x=>[RV.d (.int .i64) (dS (dec x.1) (dec x.2.1))])
theorem qk:af Tryz.prog 96=true∧ao Tryz.prog 96 oo∧∀g,oo.mut_=some g→aK Tryz.prog 96 g:=aq (by kernel_rfl) fun x h=>QU x.1 x.2.1 (of_decide_eq_true h)
noncomputable def CF:Env:=(109,xd)::(96,oo)::JS
theorem DW:EnvAll Tryz.prog CF:=⟨LO,qk,DA⟩
noncomputable def D6:Ctx:=⟨Tryz.prog,ft,tys,CF,[]⟩
noncomputable def xB(_k:KT)(p:BP)(q:BP):Option (List RV):=match decide (okP 4000 p∧okP 4000 q)with|true=>some [RV.d .bool ((dS (dec p) (dec q))==0)]|false=>none
theorem aaQ(p:BP)(q:BP){rX:List RV}(hX:∃nX,xB (D6.k nX) p q=some rX):D6.Res 122 [.d tP p,.d tP q] rX:=aO (t:=fun k=>xB k p q) (fun k=>show go2 Tryz.prog ft tys CF [] k 4000 (az 122 [.d tP p,.d tP q]) (.node 0)=xB k p q by kernel_rfl) hX
theorem S2(p:BP)(q:BP)(h:okP 4000 p∧okP 4000 q):Con Tryz.prog 122 [.d tP p,.d tP q] [.d .bool (dS (dec p) (dec q)==0)]:=by
 refine Ctx.Res.con (C:=D6) (au DW) (aaQ _ _ ⟨0,?_⟩) (fn:=Tryz.f122) (by kernel_rfl) (by kernel_rfl)
 unfold xB
 rw[dT h]
noncomputable def D7:Ctx:=⟨Tryz.prog,ft,tys,CF,[]⟩
noncomputable def yI(_k:KT)(p:BP)(v:BV):Option (List RV):=let y1:=hid (enc (bkV (dec v)));let y2:=hid (enc (trP (dec p) (dec y1)));let y3:=hid (enc (xP (dec y2)));let y4:=hid (enc (yP (dec y2)));let y5:=hid (enc (jZ (dec y3) (dec y3)));let y6:=hid (enc (jZ (dec y4) (dec y4)));match decide (ok (Rat×Rat) 21000 v)with|true=>(match decide (ok Pt 21000 p∧ok (Rat×Rat) 1000 y1)with|true=>(match decide (okP 4000 y2)with|true=>(match decide (ok Rt 50000 y3)with|true=>(match decide (okP 4000 y2)with|true=>(match decide (ok Rt 50000 y4)with|true=>(match decide (ok Rt 100000 y5∧ok Rt 100000 y6∧kY (dec y5) (dec y6)=true)with|true=>some [RV.d tO (hid (enc (sC (dec y5) (dec y6))))]|false=>none)|false=>none)|false=>none)|false=>none)|false=>none)|false=>none)|false=>none
theorem abb(p:BP)(v:BV){rX:List RV}(hX:∃nX,yI (D7.k nX) p v=some rX):D7.Res 54 [.d tP p,.d tV v] rX:=aO (t:=fun k=>yI k p v) (fun k=>show go2 Tryz.prog ft tys CF [] k 4000 (az 54 [.d tP p,.d tV v]) (.node 0)=yI k p v by kernel_rfl) hX
theorem SA(p:BP)(v:BV)(h:okP 3500 p∧ok (Rat×Rat) 300 v):Con Tryz.prog 54 [.d tP p,.d tV v] [.d tO (enc (sqP (dec p) (dec v)))]:=by
 refine Ctx.Res.con (C:=D7) (au DW) (abb _ _ ⟨0,?_⟩) (fn:=Tryz.f54) (by kernel_rfl) (by kernel_rfl)
 obtain⟨hp,hv⟩:=h
 obtain⟨p,rfl,bp,rp⟩:=cC hp
 obtain⟨v,rfl,bv⟩:=aS hv
 obtain⟨e1,e2⟩:=Jq (v:=v) rp
 unfold yI
 simp only[aj,ak,okd,Bool.decide_and,Bool.and_self,mx,Nat.reduceAdd,Nat.reduceMul,Nat.reduceLeDiff,decide_true,decide_false,cond_true,cond_false,bP,e1]
 rw[e2]
def rB:aL:=spN true true [tP,tP] (fun x=>decide (okP 4000 x.1∧okP 4000 x.2.1)) (fun x=>[RV.d .bool (dS (dec x.1) (dec x.2.1)==0)])
theorem wJ:af Tryz.prog 122=true∧ao Tryz.prog 122 rB∧∀g,rB.mut_=some g→aK Tryz.prog 122 g:=aq (by kernel_rfl) fun x h=>S2 x.1 x.2.1 (of_decide_eq_true h)
noncomputable def zL:aL:=spN false true [tP,tV] (fun x=>decide (okP 3500 x.1∧ok (Rat×Rat) 300 x.2.1)) (fun x=>[RV.d tO (hid (enc (sqP (dec x.1) (dec x.2.1))))])
theorem LG:af Tryz.prog 54=true∧ao Tryz.prog 54 zL∧∀g,zL.mut_=some g→aK Tryz.prog 54 g:=aq (by kernel_rfl) fun x h=>by simp only[aj];exact SA x.1 x.2.1 (of_decide_eq_true h)
end Go.Proofs.YtlahabkjhgkkjaaGreat
namespace Go.Proofs.YtlahabkjhgkkjaaGreat
open Go.RowKit
def C7(l:Ln)(p:Pt):Rt:=mkR (Nr l p) (M8 l p) p.2.2.2.2
def o8(c:Ln)(p:Pt):Rt:=arT (sqP p (ctr c)) (-c.2.2)
instance afq {r:Rt} {a:Rat} [h:Rdd r]:Rdd (arT r a):=⟨h.rd⟩
instance Zn {l:Ln} {p:Pt} [h:Rpd p]:Rdd (C7 l p):=by
 have:Nn p.2.2.2.2:=inferInstance
 exact BZ
instance ae4 {l:Ln} {p:Pt} {i j:Nat} [h:Bd l i] [h':Bd p j]:Bd (C7 l p) (5*i+5*j+5):=by
 have a1:Bd (Nr l p) _:=inferInstance
 have a2:Bd (M8 l p) _:=inferInstance
 have a3:Bd (mkR (Nr l p) (M8 l p) p.2.2.2.2) _:=inferInstance
 exact a3.mono (by omega)
theorem Y6{l:Ln}{p:Pt}[h:Rpd p]:sgR (C7 l p)=qJ l p:=by
 unfold qJ
 rw[U2 (Zn (l:=l) (p:=p)).nn,RE.sgn2_re h.nn]
 unfold C7
 rw[RE.vR_mk]
namespace RE
theorem Wa(a b q:RE):a+ -q+b=a+b-q:=by
 induction a using Quotient.inductionOn
 induction b using Quotient.inductionOn
 induction q using Quotient.inductionOn
 exact snd fun n=>by
  simp only[RL.add,RL.neg]
  grind
theorem Wb(a b q:RE):a-q+b=a+b-q:=by
 induction a using Quotient.inductionOn
 induction b using Quotient.inductionOn
 induction q using Quotient.inductionOn
 exact snd fun n=>by
  simp only[RL.add,RL.neg]
  grind
theorem shift_l(a b d q:RE)(h:a+b=a+d):a+ -q+b=a-q+d:=by
 rw[Wa,Wb,h]
end RE
theorem Xm{c:Ln}{p:Pt}[h:Rpd p]: -sgR (o8 c p)=nR c p:=by
 unfold nR
 have hr:Rdd (o8 c p):=inferInstanceAs (Rdd (arT (sqP p (ctr c)) (-c.2.2)))
 rw[U2 hr.nn,RE.sgn2_re h.nn]
 have e:RE.vR (o8 c p)=RE.v2 (sqA p (ctr c)-c.2.2) (sqB p (ctr c)) p.2.2.2.2:=by
  have e1:=RE.vR_co (sqA p (ctr c)) (sqB p (ctr c)) p.2.2.2.2
  unfold RE.vR RE.v2 at e1
  unfold o8 arT sqP RE.vR RE.v2
  simp only
  rw[RE.of_add,RE.of_neg,RE.of_sub]
  have e2:RE.of (coR (sqA p (ctr c)) (sqB p (ctr c)) p.2.2.2.2).1=RE.of (sqA p (ctr c)):=by
   unfold coR
   cases decide (sqB p (ctr c)=0)<;>rfl
  rw[e2]at e1 ⊢
  exact RE.shift_l _ _ _ _ e1
 rw[e]
theorem t8{q:Rat}(h:q≠0):aQ q 0=if 0<q then 1 else-1:=by
 rcases(by grind:q<0∨0<q)with h'|h'
 ·rw[cO h',if_neg (by grind)]
 ·rw[cH h',if_pos h']
noncomputable def xy:aL:=spN false true [tR,tR] (fun x=>decide (gh x.1 x.2.1)) (fun x=>[RV.d tR (hid (ae (aa x.1/aa x.2.1))),RV.d (.int .i64) 0])
theorem Mo:af Tryz.prog 217=true∧ao Tryz.prog 217 xy∧∀g,xy.mut_=some g→aK Tryz.prog 217 g:=aq (by kernel_rfl) fun x h=>by simp only[aj];exact DH x.1 x.2.1 (of_decide_eq_true h)
noncomputable def ru:aL:=spN false true [tR,tR,tR] (fun x=>decide (ok Rat 100000 x.1∧ok Rat 100000 x.2.1∧ok Rat 100000 x.2.2.1∧0≤aa x.2.2.1)) (fun x=>[RV.d tO (hid (enc (mkR (aa x.1) (aa x.2.1) (aa x.2.2.1)))),RV.d (.int .i64) 0])
theorem vX:af Tryz.prog 49=true∧ao Tryz.prog 49 ru∧∀g,ru.mut_=some g→aK Tryz.prog 49 g:=aq (by kernel_rfl) fun x h=>by simp only[aj];exact Ud x.1 x.2.1 x.2.2.1 (of_decide_eq_true h)
noncomputable def eZ:Env:=[(78,gA),(50,gY),(127,iR),(161,iS),(132,gT),(107,iU),(124,mb),(217,xy),(49,ru),(266,qO),(54,zL)]
theorem fR:EnvAll Tryz.prog eZ:=⟨fj,fU,ii,hZ,fZ,hU,mJ,Mo,vX,vY,LG,trivial⟩
noncomputable def Hj:Ctx:=⟨Tryz.prog,ft,tys,eZ,[]⟩
noncomputable def zm(_k:KT)(a:BR):Option (List RV):=match decide (okR a∧okR a)with|true=>some [RV.d tR (hid (ae (aa a*aa a)))]|false=>none
theorem aaG(a:BR){rX:List RV}(hX:∃nX,zm (Hj.k nX) a=some rX):Hj.Res 162 [.d tR a] rX:=aO (t:=fun k=>zm k a) (fun k=>show go2 Tryz.prog ft tys eZ [] k 4000 (az 162 [.d tR a]) (.node 0)=zm k a by kernel_rfl) hX
theorem OJ(a:BR)(h:okR a):Con Tryz.prog 162 [.d tR a] [.d tR (ae (aa a*aa a))]:=by
 refine Ctx.Res.con (C:=Hj) (au fR) (aaG _ ⟨0,?_⟩) (fn:=Tryz.f162) (by kernel_rfl) (by kernel_rfl)
 unfold zm
 rw[dT ⟨h,h⟩]
 simp only[aj]
noncomputable def Fs:Ctx:=⟨Tryz.prog,ft,tys,eZ,[]⟩
noncomputable def wV(_k:KT)(a:BR)(b:BR):Option (List RV):=match decide (okR a∧okR b)with|true=>some [RV.d tR (hid (ae (aa a+aa b)))]|false=>none
theorem ZY(a:BR)(b:BR){rX:List RV}(hX:∃nX,wV (Fs.k nX) a b=some rX):Fs.Res 140 [.d tR a,.d tR b] rX:=aO (t:=fun k=>wV k a b) (fun k=>show go2 Tryz.prog ft tys eZ [] k 4000 (az 140 [.d tR a,.d tR b]) (.node 0)=wV k a b by kernel_rfl) hX
theorem Qa(a:BR)(b:BR)(h:okR a∧okR b):Con Tryz.prog 140 [.d tR a,.d tR b] [.d tR (ae (aa a+aa b))]:=by
 refine Ctx.Res.con (C:=Fs) (au fR) (ZY _ _ ⟨0,?_⟩) (fn:=Tryz.f140) (by kernel_rfl) (by kernel_rfl)
 unfold wV
 rw[dT h]
 simp only[aj]
noncomputable def Gq:Ctx:=⟨Tryz.prog,ft,tys,eZ,[]⟩
noncomputable def z7(_k:KT)(a:BR)(b:BR):Option (List RV):=match decide (okR a∧okR b)with|true=>some [RV.d tR (hid (ae (aa a-aa b)))]|false=>none
theorem aay(a:BR)(b:BR){rX:List RV}(hX:∃nX,z7 (Gq.k nX) a b=some rX):Gq.Res 143 [.d tR a,.d tR b] rX:=aO (t:=fun k=>z7 k a b) (fun k=>show go2 Tryz.prog ft tys eZ [] k 4000 (az 143 [.d tR a,.d tR b]) (.node 0)=z7 k a b by kernel_rfl) hX
theorem TK(a:BR)(b:BR)(h:okR a∧okR b):Con Tryz.prog 143 [.d tR a,.d tR b] [.d tR (ae (aa a-aa b))]:=by
 refine Ctx.Res.con (C:=Gq) (au fR) (aay _ _ ⟨0,?_⟩) (fn:=Tryz.f143) (by kernel_rfl) (by kernel_rfl)
 unfold z7
 rw[dT h]
 simp only[aj]
noncomputable def GS:Ctx:=⟨Tryz.prog,ft,tys,eZ,[]⟩
noncomputable def yE(_k:KT)(a:BR)(b:BR):Option (List RV):=match decide (okR a∧okR b)with|true=>some [RV.d tR (hid (ae (aa a*aa b)))]|false=>none
theorem aah(a:BR)(b:BR){rX:List RV}(hX:∃nX,yE (GS.k nX) a b=some rX):GS.Res 141 [.d tR a,.d tR b] rX:=aO (t:=fun k=>yE k a b) (fun k=>show go2 Tryz.prog ft tys eZ [] k 4000 (az 141 [.d tR a,.d tR b]) (.node 0)=yE k a b by kernel_rfl) hX
theorem QS(a:BR)(b:BR)(h:okR a∧okR b):Con Tryz.prog 141 [.d tR a,.d tR b] [.d tR (ae (aa a*aa b))]:=by
 refine Ctx.Res.con (C:=GS) (au fR) (aah _ _ ⟨0,?_⟩) (fn:=Tryz.f141) (by kernel_rfl) (by kernel_rfl)
 unfold yE
 rw[dT h]
 simp only[aj]
noncomputable def EK:Ctx:=⟨Tryz.prog,ft,tys,eZ,[]⟩
noncomputable def AV(_k:KT)(a:BR)(b:BR):Option (List RV):=match decide (gh a b)with|true=>some [RV.d tR (hid (ae (aa a/aa b)))]|false=>none
theorem abh(a:BR)(b:BR){rX:List RV}(hX:∃nX,AV (EK.k nX) a b=some rX):EK.Res 142 [.d tR a,.d tR b] rX:=aO (t:=fun k=>AV k a b) (fun k=>show go2 Tryz.prog ft tys eZ [] k 4000 (az 142 [.d tR a,.d tR b]) (.node 0)=AV k a b by kernel_rfl) hX
theorem QX(a:BR)(b:BR)(h:gh a b):Con Tryz.prog 142 [.d tR a,.d tR b] [.d tR (ae (aa a/aa b))]:=by
 refine Ctx.Res.con (C:=EK) (au fR) (abh _ _ ⟨0,?_⟩) (fn:=Tryz.f142) (by kernel_rfl) (by kernel_rfl)
 unfold AV
 rw[dT h]
 simp only[aj]
noncomputable def xS:aL:=spN false true [tR] (fun x=>decide (okR x.1)) (fun x=>[RV.d tR (hid (ae (aa x.1*aa x.1)))])
theorem Nd:af Tryz.prog 162=true∧ao Tryz.prog 162 xS∧∀g,xS.mut_=some g→aK Tryz.prog 162 g:=aq (by kernel_rfl) fun x h=>by simp only[aj];exact OJ x.1 (of_decide_eq_true h)
noncomputable def qP:aL:=spN false true [tR,tR] (fun x=>decide (okR x.1∧okR x.2.1)) (fun x=>[RV.d tR (hid (ae (aa x.1+aa x.2.1)))])
theorem wg:af Tryz.prog 140=true∧ao Tryz.prog 140 qP∧∀g,qP.mut_=some g→aK Tryz.prog 140 g:=aq (by kernel_rfl) fun x h=>by simp only[aj];exact Qa x.1 x.2.1 (of_decide_eq_true h)
noncomputable def qT:aL:=spN false true [tR,tR] (fun x=>decide (okR x.1∧okR x.2.1)) (fun x=>[RV.d tR (hid (ae (aa x.1-aa x.2.1)))])
theorem v7:af Tryz.prog 143=true∧ao Tryz.prog 143 qT∧∀g,qT.mut_=some g→aK Tryz.prog 143 g:=aq (by kernel_rfl) fun x h=>by simp only[aj];exact TK x.1 x.2.1 (of_decide_eq_true h)
noncomputable def rG:aL:=spN false true [tR,tR] (fun x=>decide (okR x.1∧okR x.2.1)) (fun x=>[RV.d tR (hid (ae (aa x.1*aa x.2.1)))])
theorem wC:af Tryz.prog 141=true∧ao Tryz.prog 141 rG∧∀g,rG.mut_=some g→aK Tryz.prog 141 g:=aq (by kernel_rfl) fun x h=>by simp only[aj];exact QS x.1 x.2.1 (of_decide_eq_true h)
noncomputable def rJ:aL:=spN false true [tR,tR] (fun x=>decide (gh x.1 x.2.1)) (fun x=>[RV.d tR (hid (ae (aa x.1/aa x.2.1)))])
theorem uZ:af Tryz.prog 142=true∧ao Tryz.prog 142 rJ∧∀g,rJ.mut_=some g→aK Tryz.prog 142 g:=aq (by kernel_rfl) fun x h=>by simp only[aj];exact QX x.1 x.2.1 (of_decide_eq_true h)
noncomputable def gC:Env:=(162,xS)::(140,qP)::(143,qT)::(141,rG)::(142,rJ)::eZ
theorem iz:EnvAll Tryz.prog gC:=⟨Nd,wg,v7,wC,uZ,fR⟩
noncomputable def GM:Ctx:=⟨Tryz.prog,ft,tys,gC,[]⟩
noncomputable def wZ(_k:KT)(r:BO3):Option (List RV):=match decide (okR r.1)with|true=>(match decide (okR r.2.1)with|true=>(match decide (okR (hid (ae (aa r.2.1*aa r.2.1)))∧okR r.2.2)with|true=>(match decide (okR (hid (ae (aa r.1*aa r.1)))∧okR (hid (ae (aa (hid (ae (aa r.2.1*aa r.2.1)))*aa r.2.2))))with|true=>some [RV.d tR (hid (ae (aa (hid (ae (aa r.1*aa r.1)))-aa (hid (ae (aa (hid (ae (aa r.2.1*aa r.2.1)))*aa r.2.2))))))]|false=>none)|false=>none)|false=>none)|false=>none
theorem ZX(r:BO3){rX:List RV}(hX:∃nX,wZ (GM.k nX) r=some rX):GM.Res 79 [.d tO r] rX:=aO (t:=fun k=>wZ k r) (fun k=>show go2 Tryz.prog ft tys gC [] k 4000 (az 79 [.d tO r]) (.node 0)=wZ k r by kernel_rfl) hX
theorem Ry(r:BO3)(h:ok Rt 90000 r):Con Tryz.prog 79 [.d tO r] [.d tR (ae (noR (dec r)))]:=by
 refine Ctx.Res.con (C:=GM) (au iz) (ZX _ ⟨0,?_⟩) (fn:=Tryz.f79) (by kernel_rfl) (by kernel_rfl)
 have hr:=h
 obtain⟨r,rfl,br⟩:=aS hr
 unfold wZ
 simp only[aj,ak,aF,aG,aD,aw,aX,Bool.decide_and,Bool.and_self,Nat.reduceAdd,Nat.reduceLeDiff]
 rfl
noncomputable def ED:Ctx:=⟨Tryz.prog,ft,tys,gC,[]⟩
noncomputable def xU(_k:KT)(l:BO3)(p:BP):Option (List RV):=match decide (okR l.1∧okR p.1)with|true=>(match decide (okR l.2.1∧okR p.2.2.1)with|true=>(match decide (okR (hid (ae (aa l.1*aa p.1)))∧okR (hid (ae (aa l.2.1*aa p.2.2.1))))with|true=>(match decide (okR (hid (ae (aa (hid (ae (aa l.1*aa p.1)))+aa (hid (ae (aa l.2.1*aa p.2.2.1))))))∧okR l.2.2)with|true=>(match decide (okR l.1∧okR p.2.1)with|true=>(match decide (okR l.2.1∧okR p.2.2.2.1)with|true=>(match decide (okR (hid (ae (aa l.1*aa p.2.1)))∧okR (hid (ae (aa l.2.1*aa p.2.2.2.1))))with|true=>(match decide (ok Rat 100000 (hid (ae (aa (hid (ae (aa (hid (ae (aa l.1*aa p.1)))+aa (hid (ae (aa l.2.1*aa p.2.2.1))))))-aa l.2.2)))∧ok Rat 100000 (hid (ae (aa (hid (ae (aa l.1*aa p.2.1)))+aa (hid (ae (aa l.2.1*aa p.2.2.2.1))))))∧ok Rat 100000 p.2.2.2.2∧0≤aa p.2.2.2.2)with|true=>some [RV.d tO (hid (enc (mkR (aa (hid (ae (aa (hid (ae (aa (hid (ae (aa l.1*aa p.1)))+aa (hid (ae (aa l.2.1*aa p.2.2.1))))))-aa l.2.2)))) (aa (hid (ae (aa (hid (ae (aa l.1*aa p.2.1)))+aa (hid (ae (aa l.2.1*aa p.2.2.2.1))))))) (aa p.2.2.2.2))))]|false=>none)|false=>none)|false=>none)|false=>none)|false=>none)|false=>none)|false=>none)|false=>none
theorem Z9(l:BO3)(p:BP){rX:List RV}(hX:∃nX,xU (ED.k nX) l p=some rX):ED.Res 121 [.d tO l,.d tP p] rX:=aO (t:=fun k=>xU k l p) (fun k=>show go2 Tryz.prog ft tys gC [] k 4000 (az 121 [.d tO l,.d tP p]) (.node 0)=xU k l p by kernel_rfl) hX
theorem QC(l:BO3)(p:BP)(h:ok Ln 300 l∧okP 4000 p):Con Tryz.prog 121 [.d tO l,.d tP p] [.d tO (enc (C7 (dec l) (dec p)))]:=by
 refine Ctx.Res.con (C:=ED) (au iz) (Z9 _ _ ⟨0,?_⟩) (fn:=Tryz.f121) (by kernel_rfl) (by kernel_rfl)
 obtain⟨hl,hp⟩:=h
 obtain⟨l,rfl,bl⟩:=aS hl
 obtain⟨p,rfl,bp,rp⟩:=cC hp
 have hn:0≤p.2.2.2.2:=rp.nn
 unfold xU
 simp only[aj,ak,aF,aG,aD,aw,aC,aX,Bool.decide_and,Bool.and_self,Nat.reduceAdd,Nat.reduceLeDiff,dT hn]
 rfl
noncomputable def Fv:Ctx:=⟨Tryz.prog,ft,tys,gC,[]⟩
noncomputable def yo(_k:KT)(c:BO3)(p:BP):Option (List RV):=match decide (okP 3500 p∧ok (Rat×Rat) 300 (c.1,c.2.1))with|true=>(match decide (okR c.2.2)with|true=>(match decide (ok Rt 100000 (hid (enc (sqP (dec p) (dec (c.1,c.2.1)))))∧ok Rat 100000 (hid (ae (-aa c.2.2))))with|true=>some [RV.d tO (hid (enc (arT (dec (hid (enc (sqP (dec p) (dec (c.1,c.2.1)))))) (aa (hid (ae (-aa c.2.2)))))))]|false=>none)|false=>none)|false=>none
theorem aaE(c:BO3)(p:BP){rX:List RV}(hX:∃nX,yo (Fv.k nX) c p=some rX):Fv.Res 228 [.d tO c,.d tP p] rX:=aO (t:=fun k=>yo k c p) (fun k=>show go2 Tryz.prog ft tys gC [] k 4000 (az 228 [.d tO c,.d tP p]) (.node 0)=yo k c p by kernel_rfl) hX
theorem UO(c:BO3)(p:BP)(h:ok Ln 300 c∧okP 3500 p):Con Tryz.prog 228 [.d tO c,.d tP p] [.d tO (enc (o8 (dec c) (dec p)))]:=by
 refine Ctx.Res.con (C:=Fv) (au iz) (aaE _ _ ⟨0,?_⟩) (fn:=Tryz.f228) (by kernel_rfl) (by kernel_rfl)
 obtain⟨hc,hp⟩:=h
 obtain⟨c,rfl,bc⟩:=aS hc
 obtain⟨p,rfl,bp,rp⟩:=cC hp
 have e0:(dec ((ae c.1,ae c.2.1):BV):Rat×Rat)=ctr c:=ak (ctr c)
 have e1:decide (ok (Rat×Rat) 300 ((ae c.1,ae c.2.1):BV))=true:=okd (x:=ctr c) (by decide) (by decide)
 unfold yo
 simp only[aj,ak,aF,aG,aD,aw,okd,aC,aX,Bool.decide_and,Bool.and_self,mx,Nat.reduceAdd,Nat.reduceMul,Nat.reduceLeDiff,decide_true,cond_true,bP,e0,e1]
 rfl
noncomputable def E2:Ctx:=⟨Tryz.prog,ft,tys,gC,[]⟩
noncomputable def yK(_k:KT)(l:BO3)(v:BV):Option (List RV):=let y1:=hid (ae (aa l.1*aa l.1));let y2:=hid (ae (aa l.2.1*aa l.2.1));let y3:=hid (ae (aa l.1*aa v.1));let y4:=hid (ae (aa l.2.1*aa v.2));let y5:=hid (ae (aa y3+aa y4));let y6:=hid (ae (aa l.2.2-aa y5));let y7:=hid (ae (aa y1+aa y2));let y8:=hid (ae (aa y6/aa y7));let y9:=hid (ae (aa y8*aa l.1));let y10:=hid (ae (aa y8*aa l.2.1));match decide (okR l.1∧okR l.1)with|true=>(match decide (okR l.2.1∧okR l.2.1)with|true=>(match decide (okR y1∧okR y2)with|true=>(match decide (okR l.1∧okR v.1)with|true=>(match decide (okR l.2.1∧okR v.2)with|true=>(match decide (okR y3∧okR y4)with|true=>(match decide (okR l.2.2∧okR y5)with|true=>(match decide (gh y6 y7)with|true=>(match decide (okR y8∧okR l.1)with|true=>(match decide (okR v.1∧okR y9)with|true=>(match decide (okR y8∧okR l.2.1)with|true=>(match decide (okR v.2∧okR y10)with|true=>some [RV.d tV (hid (ae (aa v.1+aa y9)),hid (ae (aa v.2+aa y10)))]|false=>none)|false=>none)|false=>none)|false=>none)|false=>none)|false=>none)|false=>none)|false=>none)|false=>none)|false=>none)|false=>none)|false=>none
theorem abN(l:BO3)(v:BV){rX:List RV}(hX:∃nX,yK (E2.k nX) l v=some rX):E2.Res 55 [.d tO l,.d tV v] rX:=aO (t:=fun k=>yK k l v) (fun k=>show go2 Tryz.prog ft tys gC [] k 4000 (az 55 [.d tO l,.d tV v]) (.node 0)=yK k l v by kernel_rfl) hX
theorem P7(l:BO3)(v:BV)(h:ok Ln 300 l∧ok (Rat×Rat) 200 v∧((dec l:Ln).1≠0∨(dec l:Ln).2.1≠0)):Con Tryz.prog 55 [.d tO l,.d tV v] [.d tV (enc (lE (dec l) (dec v)))]:=by
 refine Ctx.Res.con (C:=E2) (au iz) (abN _ _ ⟨0,?_⟩) (fn:=Tryz.f55) (by kernel_rfl) (by kernel_rfl)
 obtain⟨hl,hv,h0⟩:=h
 obtain⟨l,rfl,bl⟩:=aS hl
 obtain⟨v,rfl,bv⟩:=aS hv
 have hn:l.1*l.1+l.2.1*l.2.1≠0:=zZ (by rw[ak]at h0;exact h0)
 have e:(l.2.2-(l.1*v.1+l.2.1*v.2))/(l.1*l.1+l.2.1*l.2.1)= -qa l v:=by
  unfold qa
  grind
 unfold yK
 simp only[aj,ak,aF,aG,aD,aw,aX,aE,Bool.decide_and,Bool.and_self,Nat.reduceAdd,Nat.reduceLeDiff,hn,ne_eq,not_false_eq_true]
 unfold lE
 rw[e,show v.1+ -qa l v*l.1=v.1-qa l v*l.1 by grind,show v.2+ -qa l v*l.2.1=v.2-qa l v*l.2.1 by grind]
 rfl
noncomputable def yz:aL:=spN false true [tO] (fun x=>decide (ok Rt 90000 x.1)) (fun x=>[RV.d tR (hid (ae (noR (dec x.1))))])
theorem Ny:af Tryz.prog 79=true∧ao Tryz.prog 79 yz∧∀g,yz.mut_=some g→aK Tryz.prog 79 g:=aq (by kernel_rfl) fun x h=>by simp only[aj];exact Ry x.1 (of_decide_eq_true h)
noncomputable def Bc:aL:=spN false true [tO,tP] (fun x=>decide (ok Ln 300 x.1∧okP 4000 x.2.1)) (fun x=>[RV.d tO (hid (enc (C7 (dec x.1) (dec x.2.1))))])
theorem M0:af Tryz.prog 121=true∧ao Tryz.prog 121 Bc∧∀g,Bc.mut_=some g→aK Tryz.prog 121 g:=aq (by kernel_rfl) fun x h=>by simp only[aj];exact QC x.1 x.2.1 (of_decide_eq_true h)
noncomputable def Ab:aL:=spN false true [tO,tP] (fun x=>decide (ok Ln 300 x.1∧okP 3500 x.2.1)) (fun x=>[RV.d tO (hid (enc (o8 (dec x.1) (dec x.2.1))))])
theorem Nl:af Tryz.prog 228=true∧ao Tryz.prog 228 Ab∧∀g,Ab.mut_=some g→aK Tryz.prog 228 g:=aq (by kernel_rfl) fun x h=>by simp only[aj];exact UO x.1 x.2.1 (of_decide_eq_true h)
noncomputable def xp:aL:=spN false true [tO,tV] (fun x=>decide (ok Ln 300 x.1∧ok (Rat×Rat) 200 x.2.1∧((dec x.1:Ln).1≠0∨(dec x.1:Ln).2.1≠0))) (fun x=>[RV.d tV (hid (enc (lE (dec x.1) (dec x.2.1))))])
theorem MQ:af Tryz.prog 55=true∧ao Tryz.prog 55 xp∧∀g,xp.mut_=some g→aK Tryz.prog 55 g:=aq (by kernel_rfl) fun x h=>by simp only[aj];exact P7 x.1 x.2.1 (of_decide_eq_true h)
noncomputable def rC:Env:=(79,yz)::(121,Bc)::(228,Ab)::(55,xp)::gC
theorem sV:EnvAll Tryz.prog rC:=⟨Ny,M0,Nl,MQ,iz⟩
noncomputable def FJ:Ctx:=⟨Tryz.prog,ft,tys,rC,[]⟩
noncomputable def xw(_k:KT)(r:BO3):Option (List RV):=match decide (okR r.1)with|true=>(match decide (okR r.2.1)with|true=>(match(aQ (aa r.1) 0)==(aQ (aa r.2.1) 0)with|true=>some [RV.d (.int .i64) (aQ (aa r.1) 0)]|false=>(match(aQ (aa r.2.1) 0)==0 with|true=>some [RV.d (.int .i64) (aQ (aa r.1) 0)]|false=>(match(aQ (aa r.1) 0)==0 with|true=>some [RV.d (.int .i64) (aQ (aa r.2.1) 0)]|false=>(match decide (ok Rt 90000 r)with|true=>(match decide (okR (hid (ae (noR (dec r)))))with|true=>(match decide ((aQ (aa (hid (ae (noR (dec r))))) 0)>0)with|true=>some [RV.d (.int .i64) (aQ (aa r.1) 0)]|false=>some [RV.d (.int .i64) (aQ (aa r.2.1) 0)])|false=>none)|false=>none))))|false=>none)|false=>none
theorem aaM(r:BO3){rX:List RV}(hX:∃nX,xw (FJ.k nX) r=some rX):FJ.Res 18 [.d tO r] rX:=aO (t:=fun k=>xw k r) (fun k=>show go2 Tryz.prog ft tys rC [] k 4000 (az 18 [.d tO r]) (.node 0)=xw k r by kernel_rfl) hX
theorem PW(r:BO3)(h:okT 90000 r):Con Tryz.prog 18 [.d tO r] [.d (.int .i64) (sgR (dec r))]:=by
 refine Ctx.Res.con (C:=FJ) (au sV) (aaM _ ⟨0,?_⟩) (fn:=Tryz.f18) (by kernel_rfl) (by kernel_rfl)
 have hr:=h
 obtain⟨r,rfl,br,rr⟩:=fJ hr
 unfold xw
 simp only[aj,ak,aF,aG,aD,aw,okd,aX,Nat.reduceAdd,Nat.reduceMul,Nat.reduceLeDiff,aP,aT]
 rw[adj rr]
 by_cases hb:r.2.1=0
 ·rw[decide_eq_true hb,hb,cY]
  by_cases ha:aQ r.1 0=0
  ·rw[ha];rfl
  ·rw[show(aQ r.1 0==0)=false by simp[ha]];rfl
 ·have hn:=ab4 rr hb
  have e2:=t8 hn
  have hb2:=t8 hb
  rw[decide_eq_false hb,show(aQ r.2.1 0==0)=false by rw[aP,decide_eq_false hb]]
  by_cases ha:r.1=0
  ·rw[decide_eq_true ha,ha,cY,show((0:Int)==aQ r.2.1 0)=false by rw[hb2];split<;>rfl]
   rfl
  ·have ha2:=t8 ha
   rw[decide_eq_false ha,show(aQ r.1 0==0)=false by rw[aP,decide_eq_false ha]]
   cases hq:(aQ r.1 0==aQ r.2.1 0)
   ·have hne:aQ r.1 0≠aQ r.2.1 0:=by simpa using hq
    rw[e2]
    by_cases hp:0<noR r
    ·rw[decide_eq_true hp,if_pos hp,Int.mul_one]
     rfl
    ·rw[decide_eq_false hp,if_neg hp]
     show some [RV.d (.int .i64) (aQ r.2.1 0)]=some [RV.d (.int .i64) (aQ r.1 0* -1)]
     rw[show aQ r.2.1 0=aQ r.1 0* -1 by
      rw[ha2,hb2]at hne ⊢
      split at hne<;>split at hne<;>simp_all]
   ·rfl
def AT:aL:=spN true true [tO] (fun x=>decide (okT 90000 x.1)) (fun x=>[RV.d (.int .i64) (sgR (dec x.1))])
theorem Mq:af Tryz.prog 18=true∧ao Tryz.prog 18 AT∧∀g,AT.mut_=some g→aK Tryz.prog 18 g:=aq (by kernel_rfl) fun x h=>PW x.1 (of_decide_eq_true h)
noncomputable def oc:Env:=(18,AT)::rC
theorem se:EnvAll Tryz.prog oc:=⟨Mq,sV⟩
noncomputable def HS:Ctx:=⟨Tryz.prog,ft,tys,oc,[]⟩
noncomputable def Ao(_k:KT)(l:BO3)(p:BP):Option (List RV):=match decide (ok Ln 300 l∧okP 4000 p)with|true=>(match decide (okT 90000 (hid (enc (C7 (dec l) (dec p)))))with|true=>some [RV.d (.int .i64) (sgR (dec (hid (enc (C7 (dec l) (dec p))))))]|false=>none)|false=>none
theorem ZL(l:BO3)(p:BP){rX:List RV}(hX:∃nX,Ao (HS.k nX) l p=some rX):HS.Res 164 [.d tO l,.d tP p] rX:=aO (t:=fun k=>Ao k l p) (fun k=>show go2 Tryz.prog ft tys oc [] k 4000 (az 164 [.d tO l,.d tP p]) (.node 0)=Ao k l p by kernel_rfl) hX
theorem SG(l:BO3)(p:BP)(h:ok Ln 300 l∧okP 4000 p):Con Tryz.prog 164 [.d tO l,.d tP p] [.d (.int .i64) (qJ (dec l) (dec p))]:=by
 refine Ctx.Res.con (C:=HS) (au se) (ZL _ _ ⟨0,?_⟩) (fn:=Tryz.f164) (by kernel_rfl) (by kernel_rfl)
 obtain⟨hl,hp⟩:=h
 obtain⟨l,rfl,bl⟩:=aS hl
 obtain⟨p,rfl,bp,rp⟩:=cC hp
 unfold Ao
 simp only[aj,ak,okd,Bool.decide_and,Bool.and_self,Nat.reduceAdd,Nat.reduceMul,Nat.reduceLeDiff,bH,bP]
 rw[Y6]
noncomputable def GL:Ctx:=⟨Tryz.prog,ft,tys,oc,[]⟩
noncomputable def yL(_k:KT)(c:BO3)(p:BP):Option (List RV):=match decide (ok Ln 300 c∧okP 3500 p)with|true=>(match decide (okT 90000 (hid (enc (o8 (dec c) (dec p)))))with|true=>some [RV.d (.int .i64) (IntKind.i64.wrap (0-(sgR (dec (hid (enc (o8 (dec c) (dec p))))))))]|false=>none)|false=>none
theorem aaI(c:BO3)(p:BP){rX:List RV}(hX:∃nX,yL (GL.k nX) c p=some rX):GL.Res 163 [.d tO c,.d tP p] rX:=aO (t:=fun k=>yL k c p) (fun k=>show go2 Tryz.prog ft tys oc [] k 4000 (az 163 [.d tO c,.d tP p]) (.node 0)=yL k c p by kernel_rfl) hX
theorem OD(c:BO3)(p:BP)(h:ok Ln 300 c∧okP 3500 p):Con Tryz.prog 163 [.d tO c,.d tP p] [.d (.int .i64) (nR (dec c) (dec p))]:=by
 refine Ctx.Res.con (C:=GL) (au se) (aaI _ _ ⟨0,?_⟩) (fn:=Tryz.f163) (by kernel_rfl) (by kernel_rfl)
 obtain⟨hc,hp⟩:=h
 obtain⟨c,rfl,bc⟩:=aS hc
 obtain⟨p,rfl,bp,rp⟩:=cC hp
 have hr:Rdd (o8 c p):=inferInstanceAs (Rdd (arT (sqP p (ctr c)) (-c.2.2)))
 have br:Bd (o8 c p) 90000:=(inferInstance:Bd (arT (sqP p (ctr c)) (-c.2.2)) _).mono (by decide)
 have hb: -1≤sgR (o8 c p)∧sgR (o8 c p)≤1:=jb _ _ _
 unfold yL
 simp only[aj,ak,okd,Bool.decide_and,Bool.and_self,Nat.reduceLeDiff,bH,bP,Int.zero_sub,bk (x:= -sgR (o8 c p)) (by omega) (by omega)]
 rw[Xm]
def zM:aL:=spN true true [tO,tP] (fun x=>decide (ok Ln 300 x.1∧okP 4000 x.2.1)) (fun x=>[RV.d (.int .i64) (qJ (dec x.1) (dec x.2.1))])
theorem M1:af Tryz.prog 164=true∧ao Tryz.prog 164 zM∧∀g,zM.mut_=some g→aK Tryz.prog 164 g:=aq (by kernel_rfl) fun x h=>SG x.1 x.2.1 (of_decide_eq_true h)
def xA:aL:=spN true true [tO,tP] (fun x=>decide (ok Ln 300 x.1∧okP 3500 x.2.1)) (fun x=>[RV.d (.int .i64) (nR (dec x.1) (dec x.2.1))])
theorem Md:af Tryz.prog 163=true∧ao Tryz.prog 163 xA∧∀g,xA.mut_=some g→aK Tryz.prog 163 g:=aq (by kernel_rfl) fun x h=>OD x.1 x.2.1 (of_decide_eq_true h)
end Go.Proofs.YtlahabkjhgkkjaaGreat
