/- Square roots and floors of fractions; sameness. -/
import Derived.Test.YtlahabkjhgkkjaaGreatZ12
namespace Go.Proofs.YtlahabkjhgkkjaaGreat
open Go.RowKit
def fw(q:Rat):Bool:=decide (bG q.num*bG q.num=q.num)&&decide (bG (q.den:Int)*bG (q.den:Int)=(q.den:Int))
def rtQ(q:Rat):Rat:=mkRat (bG q.num) (bG (q.den:Int)).toNat
theorem wT(z:Int):0≤bG z:=by unfold bG;omega
theorem yW{s:Int}(h:0≤s):bG (s*s)=s:=YR h (Int.le_refl _) (by grind)
theorem l8{z:Int}(h:z<0):bG z=0:=by
 unfold bG
 rw[show z.toNat=0 by omega]
 rfl
theorem aev{s t:Nat}(ht:0<t)(hg:(s*s).Coprime (t*t)):(mkRat (s:Int) t).num=(s:Int)∧(mkRat (s:Int) t).den=t:=by
 have hc:s.Coprime t:=Nat.Coprime.coprime_dvd_left (Nat.dvd_mul_left s s) (Nat.Coprime.coprime_dvd_right (Nat.dvd_mul_left t t) hg)
 rw[Rat.num_mkRat,Rat.den_mkRat,if_neg (by omega),if_neg (by omega),Int.natAbs_natCast,show t.gcd s=1 from hc.symm]
 simp
theorem Gn{q:Rat}(h:fw q=true):(rtQ q).num=bG q.num∧((rtQ q).den:Int)=bG (q.den:Int)∧rtQ q*rtQ q=q∧0≤rtQ q:=by
 unfold fw at h
 simp only[Bool.and_eq_true,decide_eq_true_eq]at h
 obtain⟨h1,h2⟩:=h
 have hd:=q.den_pos
 have hr:=q.reduced
 obtain⟨s,hs⟩:=Int.eq_ofNat_of_zero_le (wT q.num)
 obtain⟨t,ht⟩:=Int.eq_ofNat_of_zero_le (wT (q.den:Int))
 unfold rtQ
 rw[hs,ht,Int.toNat_natCast]
 rw[hs]at h1
 rw[ht]at h2
 have e1:q.num.natAbs=s*s:=by rw[←h1,←Int.natCast_mul,Int.natAbs_natCast]
 have e2:q.den=t*t:=by rw[←Int.natCast_mul]at h2;omega
 have hg:(s*s).Coprime (t*t):=by rw[←e1,←e2];exact hr
 have tp:0<t:=Nat.pos_of_ne_zero fun e=>by rw[e2,e]at hd;simp at hd
 obtain⟨g1,g2⟩:=aev tp hg
 refine⟨g1,by rw[g2],?_,?_⟩
 ·rw[Rat.mkRat_mul_mkRat,←e2,h1,Rat.mkRat_self]
 ·exact Rat.num_nonneg.1 (by rw[g1];omega)
theorem Wr(r:Rat):fw (r*r)=true:=by
 have hd:=r.den_pos
 have hc:(r.den*r.den).gcd (r.num*r.num).natAbs=1:=by
  rw[Int.natAbs_mul]
  have:=r.reduced.symm
  exact Nat.Coprime.mul_left (Nat.Coprime.mul_right this this) (Nat.Coprime.mul_right this this)
 have e1:(r*r).num=r.num*r.num:=by
  rw[Rat.mul_def',Rat.num_mkRat,hc,if_neg (Nat.mul_ne_zero (by omega) (by omega))]
  simp
 have e2:((r*r).den:Int)=(r.den:Int)*(r.den:Int):=by
  rw[Rat.mul_def',Rat.den_mkRat,hc,if_neg (Nat.mul_ne_zero (by omega) (by omega)),Nat.div_one,Int.natCast_mul]
 unfold fw
 rw[e1,e2,yW (s:=(r.den:Int)) (by omega)]
 rcases Int.lt_or_le r.num 0 with h|h
 ·rw[show r.num*r.num= -r.num* -r.num by grind,yW (by omega)]
  simp
 ·rw[yW h]
  simp
def rtB(q:Rat):BR:=bif fw q then ae (rtQ q)else((false,[]),(false,[]))
theorem zQ{x:BI}(h:okI x):dU x=ag (bG (ab x)):=by
 obtain⟨x0,x1,x2⟩:=cg h
 unfold dU
 cases hx:x.1
 ·rfl
 ·have:=x1 hx
  have hd:ab x= -val x.2:=by rw[bJ,hx];rfl
  rw[hd,l8 (by omega)]
  rfl
theorem IL{z:Int}(h:szI z≤1000000):szI (bG z)≤500000:=by
 have h1:=kv h
 have e:pw 1000000=pw 500000*pw 500000:=by rw[←dV]
 have hp:=bR 500000
 rcases Int.lt_or_le z 0 with h0|h0
 ·rw[l8 h0];exact dW (by omega) hp
 ·obtain⟨g0,g1,g2⟩:=er h0
  have:=sq_lt (a:=bG z) (b:=pw 500000) (by omega) (by omega)
  exact dW (by omega) this
theorem TN(a b:Int):(ag a==ag b)=decide (a=b):=by
 by_cases h:a=b
 ·rw[h,decide_eq_true rfl];simp
 ·rw[decide_eq_false h,beq_eq_false_iff_ne]
  intro e
  exact h (by rw[←dec_enc a,e,dec_enc])
theorem KP{x y:BI}(hx:okI x)(hy:okI y):(x==y)=decide (ab x=ab y):=by
 rw[fA hx,fA hy,TN,dec_enc,dec_enc]
def Bp:aL:=spN true true [tI,tI] (fun x=>decide (okI x.1∧okI x.2.1)) (fun x=>[RV.d (.int .i64) (b8 (ab x.1) (ab x.2.1))])
theorem Cd:af Tryz.prog 183=true∧ao Tryz.prog 183 Bp∧∀g,Bp.mut_=some g→aK Tryz.prog 183 g:=aq (by kernel_rfl) fun x h=>Iq x.1 x.2.1 (of_decide_eq_true h)
noncomputable def AP:aL:=spN false true [tI,tI] (fun x=>decide (okI x.1∧okI x.2.1)) (fun x=>[RV.d tI (hid (ag (ab x.1*ab x.2.1)))])
theorem Cc:af Tryz.prog 184=true∧ao Tryz.prog 184 AP∧∀g,AP.mut_=some g→aK Tryz.prog 184 g:=aq (by kernel_rfl) fun x h=>by simp only[aj];exact K6 x.1 x.2.1 (of_decide_eq_true h)
noncomputable def zi:aL:=spN false true [tI] (fun x=>decide (okI x.1)) (fun x=>[RV.d tI (hid (dU x.1)),RV.d (.int .i64) (nS x.1)])
theorem DN:af Tryz.prog 288=true∧ao Tryz.prog 288 zi∧∀g,zi.mut_=some g→aK Tryz.prog 288 g:=aq (by kernel_rfl) fun x h=>by simp only[aj];exact YV x.1 (of_decide_eq_true h)
noncomputable def Je:Env:=[(183,Bp),(184,AP),(288,zi)]
theorem DM:EnvAll Tryz.prog Je:=⟨Cd,Cc,DN,trivial⟩
noncomputable def Tb:Ctx:=⟨Tryz.prog,ft,tys,Je,[]⟩
noncomputable def II(_k:KT)(x:BI):Option (List RV):=match decide (okI x)with|true=>(match(nS x)==0 with|true=>(match decide (okI (hid (dU x))∧okI (hid (dU x)))with|true=>(match decide (okI (hid (ag (ab (hid (dU x))*ab (hid (dU x)))))∧okI x)with|true=>some [RV.d tI (hid (dU x)),RV.d .bool ((b8 (ab (hid (ag (ab (hid (dU x))*ab (hid (dU x)))))) (ab x))==0)]|false=>none)|false=>none)|false=>some [RV.d tI (hid (dU x)),RV.d .bool false])|false=>none
theorem adm(x:BI){rX:List RV}(hX:∃nX,II (Tb.k nX) x=some rX):Tb.Res 265 [.d tI x] rX:=aO (t:=fun k=>II k x) (fun k=>show go2 Tryz.prog ft tys Je [] k 4000 (az 265 [.d tI x]) (.node 0)=II k x by kernel_rfl) hX
theorem XZ(x:BI)(h:okI x):Con Tryz.prog 265 [.d tI x] [.d tI (ag (bG (ab x))),.d .bool (decide (bG (ab x)*bG (ab x)=ab x))]:=by
 refine Ctx.Res.con (C:=Tb) (au DM) (adm _ ⟨0,?_⟩) (fn:=Tryz.f265) (by kernel_rfl) (by kernel_rfl)
 have hs:=ge h
 have hz:szI (bG (ab x))≤500000:=IL hs
 have o1:okI (ag (bG (ab x))):=bj (by omega)
 have o2:okI (ag (bG (ab x)*bG (ab x))):=bj (by have:=cD hz hz;omega)
 have o3:okI (ag (bG (ab x)*bG (ab x)))∧okI x:=⟨o2,h⟩
 have o4:okI (ag (bG (ab x)))∧okI (ag (bG (ab x))):=⟨o1,o1⟩
 have hng:x.1=true→decide (bG (ab x)*bG (ab x)=ab x)=false:=fun e=>decide_eq_false (by
  have:=(cg h).2.1 e
  have hd:ab x= -val x.2:=by rw[bJ,e];rfl
  rw[l8 (by omega)]
  omega)
 unfold II
 simp only[aj,zQ h,dec_enc,dT h,dT o4,dT o3,jP]
 unfold nS
 cases e:x.1
 ·rfl
 ·rw[hng e];rfl
noncomputable def Gy:aL:=spN false true [tI] (fun x=>decide (okI x.1)) (fun x=>[RV.d tI (hid (ag (bG (ab x.1)))),RV.d .bool (decide (bG (ab x.1)*bG (ab x.1)=ab x.1))])
theorem QZ:af Tryz.prog 265=true∧ao Tryz.prog 265 Gy∧∀g,Gy.mut_=some g→aK Tryz.prog 265 g:=aq (by kernel_rfl) fun x h=>by simp only[aj];exact XZ x.1 (of_decide_eq_true h)
noncomputable def PD:Env:=(265,Gy)::Je
theorem Q9:EnvAll Tryz.prog PD:=⟨QZ,DM⟩
noncomputable def Rm:Ctx:=⟨Tryz.prog,ft,tys,PD,[]⟩
noncomputable def KO(_k:KT)(a:BR):Option (List RV):=match decide (okI a.1)with|true=>(match decide (bG (ab a.1)*bG (ab a.1)=ab a.1)with|true=>(match decide (okI a.2)with|true=>(match decide (bG (ab a.2)*bG (ab a.2)=ab a.2)with|true=>some [RV.d tR (hid (ag (bG (ab a.1))),hid (ag (bG (ab a.2)))),RV.d .bool true]|false=>some [RV.d tR ((false,[]),(false,[])),RV.d .bool false])|false=>none)|false=>some [RV.d tR ((false,[]),(false,[])),RV.d .bool false])|false=>none
theorem acO(a:BR){rX:List RV}(hX:∃nX,KO (Rm.k nX) a=some rX):Rm.Res 223 [.d tR a] rX:=aO (t:=fun k=>KO k a) (fun k=>show go2 Tryz.prog ft tys PD [] k 4000 (az 223 [.d tR a]) (.node 0)=KO k a by kernel_rfl) hX
theorem WN(a:BR)(h:okR a):Con Tryz.prog 223 [.d tR a] [.d tR (rtB (aa a)),.d .bool (fw (aa a))]:=by
 refine Ctx.Res.con (C:=Rm) (au Q9) (acO _ ⟨0,?_⟩) (fn:=Tryz.f223) (by kernel_rfl) (by kernel_rfl)
 obtain⟨a1,a2⟩:=cr h
 unfold KO rtB fw
 rw[dT h.1,dT h.2.1,a1,a2]
 simp only[aj]
 cases e1:decide (bG (ab a.1)*bG (ab a.1)=ab a.1)
 ·rfl
 ·cases e2:decide (bG (ab a.2)*bG (ab a.2)=ab a.2)
  ·rfl
  ·obtain⟨r1,r2,_⟩:=Gn (q:=aa a) (by unfold fw;rw[a1,a2,e1,e2];rfl)
   simp only[Bool.and_self,cond_true]
   unfold ae
   rw[r1,r2,a1,a2]
   try rfl
noncomputable def yj:aL:=spN false true [tI,tI] (fun x=>decide (okI x.1∧okI x.2.1)) (fun x=>[RV.d tI (hid (ag (ab x.1*ab x.2.1)))])
theorem Mx:af Tryz.prog 193=true∧ao Tryz.prog 193 yj∧∀g,yj.mut_=some g→aK Tryz.prog 193 g:=aq (by kernel_rfl) fun x h=>by simp only[aj];exact Dn x.1 x.2.1 (of_decide_eq_true h)
noncomputable def A9:aL:=spN false true [tI] (fun x=>decide (okI x.1)) (fun x=>[RV.d tI (hid (dU x.1)),RV.d (.int .i64) (nS x.1)])
theorem Nk:af Tryz.prog 256=true∧ao Tryz.prog 256 A9∧∀g,A9.mut_=some g→aK Tryz.prog 256 g:=aq (by kernel_rfl) fun x h=>by simp only[aj];exact TF x.1 (of_decide_eq_true h)
def re:aL:=spN true true [tI,tI] (fun x=>decide (okI x.1∧okI x.2.1)) (fun x=>[RV.d .bool (decide (ab x.1=ab x.2.1))])
theorem wo:af Tryz.prog 102=true∧ao Tryz.prog 102 re∧∀g,re.mut_=some g→aK Tryz.prog 102 g:=aq (by kernel_rfl) fun x h=>R6 x.1 x.2.1 (of_decide_eq_true h)
noncomputable def AQ:Env:=[(193,yj),(256,A9),(102,re)]
theorem we:EnvAll Tryz.prog AQ:=⟨Mx,Nk,wo,trivial⟩
noncomputable def EI:Ctx:=⟨Tryz.prog,ft,tys,AQ,[]⟩
noncomputable def yw(_k:KT)(x:BI):Option (List RV):=match decide (okI x)with|true=>(match(nS x)==0 with|true=>(match decide (okI (hid (dU x))∧okI (hid (dU x)))with|true=>(match decide (okI (hid (ag (ab (hid (dU x))*ab (hid (dU x)))))∧okI x)with|true=>some [RV.d tI (hid (dU x)),RV.d .bool (decide (ab (hid (ag (ab (hid (dU x))*ab (hid (dU x)))))=ab x))]|false=>none)|false=>none)|false=>some [RV.d tI (hid (dU x)),RV.d .bool false])|false=>none
theorem aa4(x:BI){rX:List RV}(hX:∃nX,yw (EI.k nX) x=some rX):EI.Res 213 [.d tI x] rX:=aO (t:=fun k=>yw k x) (fun k=>show go2 Tryz.prog ft tys AQ [] k 4000 (az 213 [.d tI x]) (.node 0)=yw k x by kernel_rfl) hX
theorem Of(x:BI)(h:okI x):Con Tryz.prog 213 [.d tI x] [.d tI (ag (bG (ab x))),.d .bool (decide (bG (ab x)*bG (ab x)=ab x))]:=by
 refine Ctx.Res.con (C:=EI) (au we) (aa4 _ ⟨0,?_⟩) (fn:=Tryz.f213) (by kernel_rfl) (by kernel_rfl)
 have hs:=ge h
 have hz:szI (bG (ab x))≤500000:=IL hs
 have o1:okI (ag (bG (ab x))):=bj (by omega)
 have o2:okI (ag (bG (ab x)*bG (ab x))):=bj (by have:=cD hz hz;omega)
 have o3:okI (ag (bG (ab x)*bG (ab x)))∧okI x:=⟨o2,h⟩
 have o4:okI (ag (bG (ab x)))∧okI (ag (bG (ab x))):=⟨o1,o1⟩
 have hng:x.1=true→decide (bG (ab x)*bG (ab x)=ab x)=false:=fun e=>decide_eq_false (by
  have:=(cg h).2.1 e
  have hd:ab x= -val x.2:=by rw[bJ,e];rfl
  rw[l8 (by omega)]
  omega)
 unfold yw
 simp only[aj,zQ h,dec_enc,dT h,dT o4,dT o3]
 unfold nS
 cases e:x.1
 ·rfl
 ·rw[hng e];rfl
noncomputable def yq:aL:=spN false true [tI] (fun x=>decide (okI x.1)) (fun x=>[RV.d tI (hid (ag (bG (ab x.1)))),RV.d .bool (decide (bG (ab x.1)*bG (ab x.1)=ab x.1))])
theorem L6:af Tryz.prog 213=true∧ao Tryz.prog 213 yq∧∀g,yq.mut_=some g→aK Tryz.prog 213 g:=aq (by kernel_rfl) fun x h=>by simp only[aj];exact Of x.1 (of_decide_eq_true h)
noncomputable def F8:Env:=(213,yq)::AQ
theorem LI:EnvAll Tryz.prog F8:=⟨L6,we⟩
noncomputable def Fe:Ctx:=⟨Tryz.prog,ft,tys,F8,[]⟩
noncomputable def wR(_k:KT)(a:BR):Option (List RV):=match decide (okI a.1)with|true=>(match decide (okI a.2)with|true=>(match !(decide (bG (ab a.1)*bG (ab a.1)=ab a.1))with|true=>some [RV.d tR ((false,[]),(false,[])),RV.d .bool false]|false=>(match !(decide (bG (ab a.2)*bG (ab a.2)=ab a.2))with|true=>some [RV.d tR ((false,[]),(false,[])),RV.d .bool false]|false=>some [RV.d tR (hid (ag (bG (ab a.1))),hid (ag (bG (ab a.2)))),RV.d .bool true]))|false=>none)|false=>none
theorem aaP(a:BR){rX:List RV}(hX:∃nX,wR (Fe.k nX) a=some rX):Fe.Res 131 [.d tR a] rX:=aO (t:=fun k=>wR k a) (fun k=>show go2 Tryz.prog ft tys F8 [] k 4000 (az 131 [.d tR a]) (.node 0)=wR k a by kernel_rfl) hX
theorem Rw(a:BR)(h:okR a):Con Tryz.prog 131 [.d tR a] [.d tR (rtB (aa a)),.d .bool (fw (aa a))]:=by
 refine Ctx.Res.con (C:=Fe) (au LI) (aaP _ ⟨0,?_⟩) (fn:=Tryz.f131) (by kernel_rfl) (by kernel_rfl)
 obtain⟨a1,a2⟩:=cr h
 unfold wR rtB fw
 rw[dT h.1,dT h.2.1,a1,a2]
 simp only[aj]
 cases e1:decide (bG (ab a.1)*bG (ab a.1)=ab a.1)
 ·rfl
 ·cases e2:decide (bG (ab a.2)*bG (ab a.2)=ab a.2)
  ·rfl
  ·obtain⟨r1,r2,_⟩:=Gn (q:=aa a) (by unfold fw;rw[a1,a2,e1,e2];rfl)
   simp only[Bool.and_self,cond_true]
   unfold ae
   rw[r1,r2,a1,a2]
   try rfl
noncomputable def Ef:aL:=spN false true [tI,tI] (fun x=>decide (dK x.1 x.2.1)) (fun x=>[RV.d tI (hid (ag (ab x.1/ab x.2.1))),RV.d tI (hid (ag (ab x.1%ab x.2.1))),RV.d (.int .i64) 0])
theorem Og:af Tryz.prog 287=true∧ao Tryz.prog 287 Ef∧∀g,Ef.mut_=some g→aK Tryz.prog 287 g:=aq (by kernel_rfl) fun x h=>by simp only[aj];exact Kx x.1 x.2.1 (of_decide_eq_true h)
noncomputable def S9:Env:=[(287,Ef)]
theorem P9:EnvAll Tryz.prog S9:=⟨Og,trivial⟩
noncomputable def Qt:Ctx:=⟨Tryz.prog,ft,tys,S9,[]⟩
noncomputable def Jj(_k:KT)(a:BR):Option (List RV):=match decide (dK a.1 a.2)with|true=>some [RV.d tI (hid (ag (ab a.1/ab a.2)))]|false=>none
theorem adT(a:BR){rX:List RV}(hX:∃nX,Jj (Qt.k nX) a=some rX):Qt.Res 296 [.d tR a] rX:=aO (t:=fun k=>Jj k a) (fun k=>show go2 Tryz.prog ft tys S9 [] k 4000 (az 296 [.d tR a]) (.node 0)=Jj k a by kernel_rfl) hX
theorem WT(a:BR)(h:okR a):Con Tryz.prog 296 [.d tR a] [.d tI (ag (aa a).floor)]:=by
 refine Ctx.Res.con (C:=Qt) (au P9) (adT _ ⟨0,?_⟩) (fn:=Tryz.f296) (by kernel_rfl) (by kernel_rfl)
 obtain⟨a1,a2⟩:=cr h
 unfold Jj
 rw[dT (show dK a.1 a.2 from⟨h.1,h.2.1,h.2.2.1⟩),Rat.floor_def,a1,a2]
 simp only[aj]
def Ig:Env:=[(185,kN)]
theorem RK:EnvAll Tryz.prog Ig:=⟨jy,trivial⟩
def xF:NT:=[((100,6),{keep:=[1,3],hl:=1})]
noncomputable def pi:Ctx:=⟨Tryz.prog,ft,tys,Ig,xF⟩
def mN(x:BI)(s3:Int):Cfg:=⟨100,[.blk 0,.seq 23],[(1,.box 0 0),(3,SI s3)],[.box 33 [SB x.1,.d (.sl (.int .u32)) x.2]],0,[]⟩
noncomputable def He(k:KT)(x:BI):Option (List RV):=k 6 (mN x 0)
theorem aa6(x:BI){rX:List RV}(hX:∃nX,He (pi.k nX) x=some rX):pi.Res 100 [.d tI x] rX:=aO (t:=fun k=>He k x) (fun k=>show go2 Tryz.prog ft tys Ig xF k 4000 (az 100 [.d tI x]) (.node 0)=He k x by kernel_rfl) hX
noncomputable def j9(k:KT)(x:BI)(s3:Int):Option (List RV):=match decide (s3<(x.2.length:Int))with|true=>(match bw x.2 s3 with|some x1=>(match decide (x1≥1000000000)with|true=>some [RV.d .bool false]|false=>k 6 (mN x (IntKind.i64.wrap (s3+1))))|none=>none)|false=>(match decide (a8 x.2)with|true=>(match((ac (val x.2).toNat).length:Int)==(x.2.length:Int)with|true=>(match !x.1 with|true=>some [RV.d .bool true]|false=>some [RV.d .bool (decide ((x.2.length:Int)>0))])|false=>some [RV.d .bool false])|false=>none)
theorem vh(x:BI)(s3:Int){rX:List RV}(hX:∃nX,j9 (pi.k nX) x s3=some rX):pi.Runs 6 (mN x s3) rX:=em (t:=fun k=>j9 k x s3) (fun k=>show go2 Tryz.prog ft tys Ig xF k 4000 {mN x s3 with K:=.lp 6::(mN x s3).K} (.node 7)=j9 k x s3 by kernel_rfl) hX
theorem L5(x:BI)(h:okI x):∀(j i:Nat),i+j=x.2.length→pi.Runs 6 (mN x (i:Int)) [.d .bool true]:=by
 obtain⟨x0,x1,x2⟩:=cg h
 have hlim:=eB h
 have hl:=h.2.2
 intro j
 induction j with
 |zero=>
  intro i hi
  refine vh _ _ ⟨0,?_⟩
  unfold j9
  have hc:ac (val x.2).toNat=x.2:=(lU h.1).symm
  rw[cN (by omega),dT hlim,hc,beq_self_eq_true]
  dsimp only
  cases e:x.1
  ·rfl
  ·have:=x1 e
   have:x.2≠[]:=fun e=>by rw[x2]at e;omega
   have:=List.length_pos_iff.2 this
   rw[decide_eq_true (by omega)]
   rfl
 |succ j ih=>
  intro i hi
  have hil:i<x.2.length:=by omega
  obtain⟨q,hq⟩:=ih (i+1) (by omega)
  refine vh _ _ ⟨q,?_⟩
  unfold j9
  have hb:=(hlim.1 x.2[i] (List.getElem_mem hil)).2
  rw[ct hil,aB,List.getElem?_eq_getElem hil,cI (by omega)]
  dsimp only
  rw[decide_eq_false (by omega)]
  exact hq
theorem Rk(x:BI)(h:okI x):Con Tryz.prog 100 [.d tI x] [.d .bool true]:=by
 refine Ctx.Res.con (C:=pi) (au RK) ?_ (fn:=Tryz.f100) (by kernel_rfl) (by kernel_rfl)
 obtain⟨q,hq⟩:=L5 x h x.2.length 0 (by omega)
 exact aa6 _ ⟨q,hq⟩
def A7:aL:=spN true true [tI] (fun x=>decide (okI x.1)) (fun _=>[RV.d .bool true])
theorem Mp:af Tryz.prog 100=true∧ao Tryz.prog 100 A7∧∀g,A7.mut_=some g→aK Tryz.prog 100 g:=aq (by kernel_rfl) fun x h=>Rk x.1 (of_decide_eq_true h)
def yx:aL:=spN true true [tI] (fun x=>decide (okI x.1)) (fun x=>[RV.d (.int .i64) (b8 (ab x.1) 0)])
theorem ND:af Tryz.prog 101=true∧ao Tryz.prog 101 yx∧∀g,yx.mut_=some g→aK Tryz.prog 101 g:=aq (by kernel_rfl) fun x h=>CU x.1 (of_decide_eq_true h)
noncomputable def Bi:aL:=spN false true [tI,tI] (fun x=>decide (okI x.1∧okI x.2.1)) (fun x=>[RV.d tI (hid (ag ((Int.gcd (ab x.1) (ab x.2.1):Nat):Int)))])
theorem Mz:af Tryz.prog 103=true∧ao Tryz.prog 103 Bi∧∀g,Bi.mut_=some g→aK Tryz.prog 103 g:=aq (by kernel_rfl) fun x h=>by simp only[aj];exact Cz x.1 x.2.1 (of_decide_eq_true h)
noncomputable def yh:aL:=spN false true [] (fun _=>true) (fun _=>[RV.d tI (hid (ag 1))])
theorem LU:af Tryz.prog 104=true∧ao Tryz.prog 104 yh∧∀g,yh.mut_=some g→aK Tryz.prog 104 g:=aq (by kernel_rfl) fun _ _=>by simp only[aj];exact Cn
noncomputable def Dy:Env:=[(102,re),(100,A7),(101,yx),(103,Bi),(104,yh)]
theorem BE:EnvAll Tryz.prog Dy:=⟨wo,Mp,ND,Mz,LU,trivial⟩
noncomputable def F6:Ctx:=⟨Tryz.prog,ft,tys,Dy,[]⟩
noncomputable def Bm(_k:KT)(a:BR):Option (List RV):=match decide (okI a.1)with|true=>(match decide (okI a.2)with|true=>(match decide (okI a.2)with|true=>(match(b8 (ab a.2) 0) !=1 with|true=>some [RV.d .bool false]|false=>(match decide (okI a.1∧okI a.2)with|true=>(match decide (okI (hid (ag ((Int.gcd (ab a.1) (ab a.2):Nat):Int)))∧okI (hid (ag 1)))with|true=>some [RV.d .bool (decide (ab (hid (ag ((Int.gcd (ab a.1) (ab a.2):Nat):Int)))=ab (hid (ag 1))))]|false=>none)|false=>none))|false=>none)|false=>none)|false=>none
theorem abp(a:BR){rX:List RV}(hX:∃nX,Bm (F6.k nX) a=some rX):F6.Res 31 [.d tR a] rX:=aO (t:=fun k=>Bm k a) (fun k=>show go2 Tryz.prog ft tys Dy [] k 4000 (az 31 [.d tR a]) (.node 0)=Bm k a by kernel_rfl) hX
theorem Te(a:BR)(h:okR a):Con Tryz.prog 31 [.d tR a] [.d .bool true]:=by
 refine Ctx.Res.con (C:=F6) (au BE) (abp _ ⟨0,?_⟩) (fn:=Tryz.f31) (by kernel_rfl) (by kernel_rfl)
 obtain⟨h1,h2,h3,h4,_⟩:=h
 have o1:okI (ag ((Int.gcd (ab a.1) (ab a.2):Nat):Int)):=by rw[h4];exact mf
 unfold Bm
 simp only[aj]
 rw[dT h1,dT h2,dT (show okI a.1∧okI a.2 from⟨h1,h2⟩),cz h3,dT (show okI (ag ((Int.gcd (ab a.1) (ab a.2):Nat):Int))∧okI (ag 1) from⟨o1,mf⟩),dec_enc,dec_enc,h4]
 rfl
noncomputable def HF:Ctx:=⟨Tryz.prog,ft,tys,Dy,[]⟩
noncomputable def Ae(_k:KT)(a:BR)(b:BR):Option (List RV):=match decide (okI a.1∧okI b.1)with|true=>(match decide (ab a.1=ab b.1)with|true=>(match decide (okI a.2∧okI b.2)with|true=>some [RV.d .bool (decide (ab a.2=ab b.2))]|false=>none)|false=>some [RV.d .bool false])|false=>none
theorem abl(a:BR)(b:BR){rX:List RV}(hX:∃nX,Ae (HF.k nX) a b=some rX):HF.Res 32 [.d tR a,.d tR b] rX:=aO (t:=fun k=>Ae k a b) (fun k=>show go2 Tryz.prog ft tys Dy [] k 4000 (az 32 [.d tR a,.d tR b]) (.node 0)=Ae k a b by kernel_rfl) hX
theorem P4(a:BR)(b:BR)(h:okR a∧okR b):Con Tryz.prog 32 [.d tR a,.d tR b] [.d .bool (decide (aa a=aa b))]:=by
 refine Ctx.Res.con (C:=HF) (au BE) (abl _ _ ⟨0,?_⟩) (fn:=Tryz.f32) (by kernel_rfl) (by kernel_rfl)
 obtain⟨ha,hb⟩:=h
 unfold Ae
 rw[dT (show okI a.1∧okI b.1 from⟨ha.1,hb.1⟩),dT (show okI a.2∧okI b.2 from⟨ha.2.1,hb.2.1⟩)]
 obtain⟨a1,a2⟩:=cr ha
 obtain⟨b1,b2⟩:=cr hb
 rw[←a1,←a2,←b1,←b2]
 by_cases e:aa a=aa b
 ·rw[e,decide_eq_true rfl,decide_eq_true rfl,decide_eq_true rfl]
 ·rw[decide_eq_false e]
  by_cases e1:(aa a).num=(aa b).num
  ·rw[decide_eq_true e1,decide_eq_false (fun e2=>e (Rat.ext e1 (by omega)))]
  ·rw[decide_eq_false e1]
end Go.Proofs.YtlahabkjhgkkjaaGreat
namespace Go.Proofs.YtlahabkjhgkkjaaGreat
open Go.RowKit
def mkR(a b c:Rat):Rt:=bif fw c then(a+b*rtQ c,0,0)else bif decide (b=0)then(a,0,0)else(a,b,c)
def coR(a b c:Rat):Rt:=bif decide (b=0)then(a,0,0)else(a,b,c)
class Nn (c:Rat):Prop where le:0≤c
def Wv(x:Rt):Prop:=(x.2.1=0∧x.2.2=0)∨(x.2.1≠0∧0<x.2.2∧fw x.2.2=false)
instance (x:Rt):Decidable (Wv x):=by unfold Wv;infer_instance
class Rdd (x:Rt):Prop where
 rd:Wv x
def okT(k:Nat)(x:BO3):Prop:=ok Rt k x∧Wv (dec x)
instance (k:Nat) (x:BO3):Decidable (okT k x):=by unfold okT;infer_instance
theorem fJ{k:Nat}{x:BO3}(h:okT k x):∃v:Rt,x=enc v∧Bd v k∧Rdd v:=by
 obtain⟨h1,h2⟩:=h
 obtain⟨v,rfl,bv⟩:=aS h1
 rw[ak]at h2
 exact⟨v,rfl,bv,⟨h2⟩⟩
theorem bH{x:Rt}{j k:Nat}[h:Bd x j][r:Rdd x](hj:j≤k)(hk:k≤480000):decide (okT k (enc x))=true:=decide_eq_true ⟨of_decide_eq_true (okd hj hk),by rw[ak];exact r.rd⟩
theorem Rdd.nn{x:Rt}(h:Rdd x):0≤x.2.2:=by
 rcases h.rd with h|h<;>grind
instance afU {x:Rt} [h:Rdd x]:Nn x.2.2:=⟨h.nn⟩
theorem nZ:fw 0=true:=by decide+kernel
theorem Yq{c:Rat}(h:0≤c)(hc:fw c=false):0<c:=by
 rcases(by grind:c=0∨0<c)with h|h
 ·rw[h,nZ]at hc;cases hc
 ·exact h
instance BZ {a b c:Rat} [h:Nn c]:Rdd (mkR a b c):=by
 refine⟨?_⟩
 unfold mkR
 cases hc:fw c
 ·simp only[cond_false]
  by_cases hb:b=0
  ·rw[decide_eq_true hb];exact .inl ⟨rfl,rfl⟩
  ·rw[decide_eq_false hb];exact .inr ⟨hb,Yq h.le hc,hc⟩
 ·exact .inl ⟨rfl,rfl⟩
instance aan {a:Rat}:Rdd (a,0,0):=⟨.inl ⟨rfl,rfl⟩⟩
namespace RE
theorem abt{c:Rat}(h:fw c=true):rq c=of (rtQ c):=by
 obtain⟨_,_,e,h0⟩:=Gn h
 refine aci _ _ (acV c) (oq.2 h0) ?_
 rw[BT (by rw[←e];exact Rat.mul_nonneg h0 h0),←dX,e]
theorem mo(a c:Rat):v2 a 0 c=of a:=by
 unfold v2
 rw[H4,zero_mul,add_zero]
theorem vR_mk(a b c:Rat):vR (mkR a b c)=v2 a b c:=by
 unfold mkR vR
 cases hc:fw c
 ·simp only[cond_false]
  by_cases hb:b=0
  ·rw[decide_eq_true hb];subst hb;show v2 a 0 0=_;rw[mo,mo]
  ·rw[decide_eq_false hb];rfl
 ·show v2 (a+b*rtQ c) 0 0=_
  rw[mo]
  unfold v2
  rw[abt hc,of_add,dX]
theorem vR_co(a b c:Rat):vR (coR a b c)=v2 a b c:=by
 unfold coR vR
 by_cases hb:b=0
 ·rw[decide_eq_true hb];subst hb;show v2 a 0 0=_;rw[mo,mo]
 ·rw[decide_eq_false hb];rfl
end RE
theorem Za{z:Int}(h:0≤z):bG z≤z:=by
 obtain⟨g0,g1,g2⟩:=er h
 rcases Int.lt_or_le (bG z) 1 with h'|h'
 ·omega
 ·have:bG z*1≤bG z*bG z:=Int.mul_le_mul_of_nonneg_left h' g0
  omega
theorem Dw(z:Int):szI (bG z)≤szI z:=by
 have h0:=wT z
 rcases Int.lt_or_le z 0 with h|h
 ·rw[l8 h];exact cS (by omega)
 ·have:=Za h
  exact cS (by omega)
instance afX {c:Rat} {k:Nat} [h:Bd c k]:Bd (rtQ c) k:=by
 have hd:=c.den_pos
 have h1:0<bG (c.den:Int):=by
  obtain⟨g0,g1,g2⟩:=er (show(0:Int)≤(c.den:Int) by omega)
  rcases Int.lt_or_le 0 (bG (c.den:Int))with h|h
  ·exact h
  ·rw[show bG (c.den:Int)=0 by omega]at g2;omega
 refine⟨pG (by omega) (Nat.le_trans (Dw _) h.le.1) ?_⟩
 rw[Int.toNat_of_nonneg (by omega)]
 exact Nat.le_trans (Dw _) h.le.2
instance afg {a b c:Rat} {i j k:Nat} [ha:Bd a i] [hb:Bd b j] [hc:Bd c k]:Bd (mkR a b c) (i+(j+k)+1):=by
 have z:bdR (i+(j+k)+1) 0:=bI me.le (by omega)
 refine⟨?_⟩
 unfold mkR
 cases fw c
 ·simp only[cond_false]
  cases decide (b=0)
  ·exact⟨bI ha.le (by omega),bI hb.le (by omega),bI hc.le (by omega)⟩
  ·exact⟨bI ha.le (by omega),z,z⟩
 ·exact⟨(inferInstance:Bd (a+b*rtQ c) (i+(j+k)+1)).le,z,z⟩
instance afn {a b c:Rat} {i j k:Nat} [ha:Bd a i] [hb:Bd b j] [hc:Bd c k]:Bd (coR a b c) (mx i (mx j k)):=by
 have h1:=Ds i (mx j k)
 have h2:=Db i (mx j k)
 have h3:=Ds j k
 have h4:=Db j k
 have h5:=ng ha.le
 have z:bdR (mx i (mx j k)) 0:=bI me.le (by omega)
 refine⟨?_⟩
 unfold coR
 cases decide (b=0)
 ·exact⟨bI ha.le (by omega),bI hb.le (by omega),bI hc.le (by omega)⟩
 ·exact⟨bI ha.le (by omega),z,z⟩
class Ns (c:Rat):Prop where ns:c=0∨(0<c∧fw c=false)
theorem Ns.nn{c:Rat}(h:Ns c):0≤c:=by rcases h.ns with h|h<;>grind
instance afR {c:Rat} [h:Ns c]:Nn c:=⟨h.nn⟩
theorem aa1{a b c:Rat}{i j k:Nat}[ha:Bd a i][hb:Bd b j][hc:Bd c k][hn:Ns c]:Bd (mkR a b c) (mx (i+j+2) k):=by
 have h1:=Ds (i+j+2) k
 have h2:=Db (i+j+2) k
 have z:bdR (mx (i+j+2) k) 0:=bI me.le (by omega)
 refine⟨?_⟩
 unfold mkR
 rcases hn.ns with h|h
 ·subst h
  rw[nZ]
  have e:rtQ 0=0:=by decide+kernel
  exact⟨by show bdR _ (a+b*rtQ 0);rw[e];exact bI (xV ha.le (xJ hb.le me.le)) (by omega),z,z⟩
 ·rw[h.2]
  simp only[cond_false]
  cases decide (b=0)
  ·exact⟨bI ha.le (by omega),bI hb.le (by omega),bI hc.le (by omega)⟩
  ·exact⟨bI ha.le (by omega),z,z⟩
def sgR(x:Rt):Int:=eD x.1 x.2.1 x.2.2
def noR(x:Rt):Rat:=x.1*x.1-x.2.1*x.2.1*x.2.2
theorem U2{x:Rt}(h:0≤x.2.2):sgR x=RE.sg (RE.vR x):=RE.sgn2_re h
def ji(a b c:Rat):Rt:=bif decide (b=0)then(a,0,0)else bif decide (c=0)then(a,0,0)else(a,b,c)
instance aft {x:Rt} {k:Nat} [h:Bd x k]:Bd (noR x) (5*k+1):=(inferInstance:Bd (x.1*x.1-x.2.1*x.2.1*x.2.2) (k+k+(k+k+k)+1)).mono (by omega)
theorem ZF{c:Rat}(h:fw c=true):rtB c=ae (rtQ c):=by unfold rtB;rw[h];rfl
theorem ab4{x:Rt}(h:Rdd x)(hb:x.2.1≠0):noR x≠0:=by
 intro e
 rcases h.rd with h|⟨_,h1,h2⟩
 ·exact hb h.1
 ·unfold noR at e
  have:x.2.2=x.1/x.2.1*(x.1/x.2.1):=by grind
  rw[this,Wr]at h2
  cases h2
theorem adj{x:Rt}(h:Rdd x):sgR x=bif aQ x.2.1 0==0 then aQ x.1 0 else bif aQ x.1 0==aQ x.2.1 0 then aQ x.1 0 else bif aQ x.1 0==0 then aQ x.2.1 0 else aQ x.1 0*aQ (noR x) 0:=by
 unfold sgR eD RE.addS
 rcases h.rd with⟨h1,h2⟩|⟨h0,h1,h2⟩
 ·rw[h1,cY]
  simp
 ·have hb:(aQ x.2.1 0==0)=false:=by rw[aP,decide_eq_false h0]
  rw[cH h1,Int.mul_one,hb]
  unfold noR
  rw[uj]
  rfl
noncomputable def Em:aL:=spN false true [tR] (fun x=>decide (okR x.1)) (fun x=>[RV.d tR (hid (rtB (aa x.1))),RV.d .bool (fw (aa x.1))])
theorem NO:af Tryz.prog 223=true∧ao Tryz.prog 223 Em∧∀g,Em.mut_=some g→aK Tryz.prog 223 g:=aq (by kernel_rfl) fun x h=>by simp only[aj];exact WN x.1 (of_decide_eq_true h)
noncomputable def KH:Env:=[(76,fS),(149,iD),(147,gQ),(148,gg),(83,fP),(223,Em)]
theorem CN:EnvAll Tryz.prog KH:=⟨d7,fI,eO,dY,ec,NO,trivial⟩
noncomputable def OH:Ctx:=⟨Tryz.prog,ft,tys,KH,[]⟩
noncomputable def Lh(_k:KT):Option (List RV):=match decide (bh (0:Int))with|true=>some [RV.d tR (hid (ae ((0:Int):Rat)))]|false=>none
theorem adF{rX:List RV}(hX:∃nX,Lh (OH.k nX)=some rX):OH.Res 157 [] rX:=aO (t:=fun k=>Lh k) (fun k=>show go2 Tryz.prog ft tys KH [] k 4000 (az 157 []) (.node 0)=Lh k by kernel_rfl) hX
theorem XD:Con Tryz.prog 157 [] [.d tR (ae 0)]:=by
 refine Ctx.Res.con (C:=OH) (au CN) (adF ⟨0,?_⟩) (fn:=Tryz.f157) (by kernel_rfl) (by kernel_rfl)
 unfold Lh
 rw[dT (show bh 0 by decide)]
 simp only[aj]
 rfl
noncomputable def GH:aL:=spN false true [] (fun _=>true) (fun _=>[RV.d tR (hid (ae 0))])
theorem S3:af Tryz.prog 157=true∧ao Tryz.prog 157 GH∧∀g,GH.mut_=some g→aK Tryz.prog 157 g:=aq (by kernel_rfl) fun _ _=>by simp only[aj];exact XD
noncomputable def vS:Env:=(157,GH)::KH
theorem uh:EnvAll Tryz.prog vS:=⟨S3,CN⟩
noncomputable def Rn:Ctx:=⟨Tryz.prog,ft,tys,vS,[]⟩
noncomputable def JP(_k:KT)(a:BR):Option (List RV):=some [RV.d tO (a,(hid (ae 0),hid (ae 0)))]
theorem adg(a:BR){rX:List RV}(hX:∃nX,JP (Rn.k nX) a=some rX):Rn.Res 71 [.d tR a] rX:=aO (t:=fun k=>JP k a) (fun k=>show go2 Tryz.prog ft tys vS [] k 4000 (az 71 [.d tR a]) (.node 0)=JP k a by kernel_rfl) hX
theorem YO(a:BR)(h:okR a):Con Tryz.prog 71 [.d tR a] [.d tO (enc ((aa a,0,0):Rt))]:=by
 refine Ctx.Res.con (C:=Rn) (au uh) (adg _ ⟨0,?_⟩) (fn:=Tryz.f71) (by kernel_rfl) (by kernel_rfl)
 have ha:=h
 obtain⟨a,rfl,ba⟩:=dD ha
 unfold JP
 simp only[aj,aR,aD,aw]
 try rfl
noncomputable def Qw:Ctx:=⟨Tryz.prog,ft,tys,vS,[]⟩
noncomputable def JQ(_k:KT)(a:BR)(b:BR)(c:BR):Option (List RV):=match decide (okR b)with|true=>(match(aQ (aa b) 0)==0 with|true=>some [RV.d tO (a,(b,hid (ae 0)))]|false=>some [RV.d tO (a,(b,c))])|false=>none
theorem aep(a:BR)(b:BR)(c:BR){rX:List RV}(hX:∃nX,JQ (Qw.k nX) a b c=some rX):Qw.Res 224 [.d tR a,.d tR b,.d tR c] rX:=aO (t:=fun k=>JQ k a b c) (fun k=>show go2 Tryz.prog ft tys vS [] k 4000 (az 224 [.d tR a,.d tR b,.d tR c]) (.node 0)=JQ k a b c by kernel_rfl) hX
theorem X9(a:BR)(b:BR)(c:BR)(h:okR a∧okR b∧okR c):Con Tryz.prog 224 [.d tR a,.d tR b,.d tR c] [.d tO (enc (coR (aa a) (aa b) (aa c)))]:=by
 refine Ctx.Res.con (C:=Qw) (au uh) (aep _ _ _ ⟨0,?_⟩) (fn:=Tryz.f224) (by kernel_rfl) (by kernel_rfl)
 obtain⟨ha,hb,hc⟩:=h
 obtain⟨a,rfl,ba⟩:=dD ha
 obtain⟨b,rfl,bb⟩:=dD hb
 obtain⟨c,rfl,bc⟩:=dD hc
 unfold JQ
 simp only[aj,aw,aX,Nat.reduceLeDiff,aP]
 unfold coR
 by_cases e:b=0
 ·subst e;rw[decide_eq_true rfl];rfl
 ·rw[decide_eq_false e];rfl
noncomputable def np:aL:=spN false true [tR] (fun x=>decide (okR x.1)) (fun x=>[RV.d tO (hid (enc ((aa x.1,0,0):Rt)))])
theorem l6:af Tryz.prog 71=true∧ao Tryz.prog 71 np∧∀g,np.mut_=some g→aK Tryz.prog 71 g:=aq (by kernel_rfl) fun x h=>by simp only[aj];exact YO x.1 (of_decide_eq_true h)
noncomputable def E9:aL:=spN false true [tR,tR,tR] (fun x=>decide (okR x.1∧okR x.2.1∧okR x.2.2.1)) (fun x=>[RV.d tO (hid (enc (coR (aa x.1) (aa x.2.1) (aa x.2.2.1))))])
theorem Va:af Tryz.prog 224=true∧ao Tryz.prog 224 E9∧∀g,E9.mut_=some g→aK Tryz.prog 224 g:=aq (by kernel_rfl) fun x h=>by simp only[aj];exact X9 x.1 x.2.1 x.2.2.1 (of_decide_eq_true h)
noncomputable def Sq:Env:=(71,np)::(224,E9)::vS
theorem Sb:EnvAll Tryz.prog Sq:=⟨l6,Va,uh⟩
noncomputable def PB:Ctx:=⟨Tryz.prog,ft,tys,Sq,[]⟩
noncomputable def Kf(_k:KT)(a:BR)(b:BR)(c:BR):Option (List RV):=match decide (okR c)with|true=>(match decide ((aQ (aa c) 0)<0)with|true=>some [RV.d tO (((false,[]),(false,[])),(((false,[]),(false,[])),((false,[]),(false,[])))),RV.d (.int .i64) 7]|false=>(match decide (okR c)with|true=>(match fw (aa c)with|true=>(match decide (okR b∧okR (hid (rtB (aa c))))with|true=>(match decide (okR a∧okR (hid (ae (aa b*aa (hid (rtB (aa c)))))))with|true=>(match decide (okR (hid (ae (aa a+aa (hid (ae (aa b*aa (hid (rtB (aa c))))))))))with|true=>some [RV.d tO (hid (enc ((aa (hid (ae (aa a+aa (hid (ae (aa b*aa (hid (rtB (aa c))))))))),0,0):Rt))),RV.d (.int .i64) 0]|false=>none)|false=>none)|false=>none)|false=>(match decide (okR a∧okR b∧okR c)with|true=>some [RV.d tO (hid (enc (coR (aa a) (aa b) (aa c)))),RV.d (.int .i64) 0]|false=>none))|false=>none))|false=>none
theorem aeN(a:BR)(b:BR)(c:BR){rX:List RV}(hX:∃nX,Kf (PB.k nX) a b c=some rX):PB.Res 158 [.d tR a,.d tR b,.d tR c] rX:=aO (t:=fun k=>Kf k a b c) (fun k=>show go2 Tryz.prog ft tys Sq [] k 4000 (az 158 [.d tR a,.d tR b,.d tR c]) (.node 0)=Kf k a b c by kernel_rfl) hX
theorem V6(a:BR)(b:BR)(c:BR)(h:ok Rat 100000 a∧ok Rat 100000 b∧ok Rat 100000 c∧0≤aa c):Con Tryz.prog 158 [.d tR a,.d tR b,.d tR c] [.d tO (enc (mkR (aa a) (aa b) (aa c))),.d (.int .i64) 0]:=by
 refine Ctx.Res.con (C:=PB) (au Sb) (aeN _ _ _ ⟨0,?_⟩) (fn:=Tryz.f158) (by kernel_rfl) (by kernel_rfl)
 obtain⟨ha,hb,hc,hc_3⟩:=h
 obtain⟨a,rfl,ba⟩:=aS ha
 obtain⟨b,rfl,bb⟩:=aS hb
 obtain⟨c,rfl,bc⟩:=aS hc
 rw[aD,aw]at hc_3
 unfold Kf
 simp only[aj,aR,aD,aw,aX,Bool.decide_and,Bool.and_self,Bool.true_and,Nat.reduceLeDiff,aN,decide_eq_false (show ¬c<0 by grind)]
 unfold mkR
 cases hq:fw c
 ·have hz:c≠0:=fun e=>by rw[e,nZ]at hq;cases hq
  simp only[cond_false]
  try rfl
 ·rw[ZF hq]
  simp only[aR,aD,aw,aX,Nat.reduceAdd,Nat.reduceLeDiff,cond_true]
  try rfl
noncomputable def rH:aL:=spN false true [tR] (fun x=>decide (okR x.1)) (fun x=>[RV.d tR (hid (rtB (aa x.1))),RV.d .bool (fw (aa x.1))])
theorem wd:af Tryz.prog 131=true∧ao Tryz.prog 131 rH∧∀g,rH.mut_=some g→aK Tryz.prog 131 g:=aq (by kernel_rfl) fun x h=>by simp only[aj];exact Rw x.1 (of_decide_eq_true h)
def nQ:aL:=spN true true [tR] (fun x=>decide (okR x.1)) (fun _=>[RV.d .bool true])
theorem oV:af Tryz.prog 31=true∧ao Tryz.prog 31 nQ∧∀g,nQ.mut_=some g→aK Tryz.prog 31 g:=aq (by kernel_rfl) fun x h=>Te x.1 (of_decide_eq_true h)
noncomputable def yO:Env:=[(50,gY),(127,iR),(161,iS),(132,gT),(78,gA),(131,rH),(31,nQ)]
theorem wu:EnvAll Tryz.prog yO:=⟨fU,ii,hZ,fZ,fj,wd,oV,trivial⟩
noncomputable def Ht:Ctx:=⟨Tryz.prog,ft,tys,yO,[]⟩
noncomputable def xc(_k:KT):Option (List RV):=match decide (bh (0:Int))with|true=>some [RV.d tR (hid (ae ((0:Int):Rat)))]|false=>none
theorem aa9{rX:List RV}(hX:∃nX,xc (Ht.k nX)=some rX):Ht.Res 145 [] rX:=aO (t:=fun k=>xc k) (fun k=>show go2 Tryz.prog ft tys yO [] k 4000 (az 145 []) (.node 0)=xc k by kernel_rfl) hX
theorem Qu:Con Tryz.prog 145 [] [.d tR (ae 0)]:=by
 refine Ctx.Res.con (C:=Ht) (au wu) (aa9 ⟨0,?_⟩) (fn:=Tryz.f145) (by kernel_rfl) (by kernel_rfl)
 unfold xc
 rw[dT (show bh 0 by decide)]
 simp only[aj]
 rfl
noncomputable def rI:aL:=spN false true [] (fun _=>true) (fun _=>[RV.d tR (hid (ae 0))])
theorem wP:af Tryz.prog 145=true∧ao Tryz.prog 145 rI∧∀g,rI.mut_=some g→aK Tryz.prog 145 g:=aq (by kernel_rfl) fun _ _=>by simp only[aj];exact Qu
noncomputable def wS:Env:=(145,rI)::yO
theorem vG:EnvAll Tryz.prog wS:=⟨wP,wu⟩
noncomputable def GI:Ctx:=⟨Tryz.prog,ft,tys,wS,[]⟩
noncomputable def A0(_k:KT)(a:BR):Option (List RV):=some [RV.d tO (a,(hid (ae 0),hid (ae 0)))]
theorem abC(a:BR){rX:List RV}(hX:∃nX,A0 (GI.k nX) a=some rX):GI.Res 57 [.d tR a] rX:=aO (t:=fun k=>A0 k a) (fun k=>show go2 Tryz.prog ft tys wS [] k 4000 (az 57 [.d tR a]) (.node 0)=A0 k a by kernel_rfl) hX
theorem Vm(a:BR)(h:okR a):Con Tryz.prog 57 [.d tR a] [.d tO (enc ((aa a,0,0):Rt))]:=by
 refine Ctx.Res.con (C:=GI) (au vG) (abC _ ⟨0,?_⟩) (fn:=Tryz.f57) (by kernel_rfl) (by kernel_rfl)
 have ha:=h
 obtain⟨a,rfl,ba⟩:=dD ha
 unfold A0
 simp only[aj,aR,aD,aw]
 try rfl
noncomputable def rv:aL:=spN false true [tR] (fun x=>decide (okR x.1)) (fun x=>[RV.d tO (hid (enc ((aa x.1,0,0):Rt)))])
theorem vB:af Tryz.prog 57=true∧ao Tryz.prog 57 rv∧∀g,rv.mut_=some g→aK Tryz.prog 57 g:=aq (by kernel_rfl) fun x h=>by simp only[aj];exact Vm x.1 (of_decide_eq_true h)
noncomputable def qn:Env:=(57,rv)::wS
theorem po:EnvAll Tryz.prog qn:=⟨vB,vG⟩
noncomputable def Hz:Ctx:=⟨Tryz.prog,ft,tys,qn,[]⟩
noncomputable def xo(_k:KT)(n:Int):Option (List RV):=match decide (bh n)with|true=>(match decide (okR (hid (ae (n:Rat))))with|true=>some [RV.d tO (hid (enc ((aa (hid (ae (n:Rat))),0,0):Rt)))]|false=>none)|false=>none
theorem abI(n:Int){rX:List RV}(hX:∃nX,xo (Hz.k nX) n=some rX):Hz.Res 51 [SI n] rX:=aO (t:=fun k=>xo k n) (fun k=>show go2 Tryz.prog ft tys qn [] k 4000 (az 51 [SI n]) (.node 0)=xo k n by kernel_rfl) hX
theorem Rz(n:Int)(h:bh n):Con Tryz.prog 51 [.d (.int .i64) n] [.d tO (enc (((n:Rat),0,0):Rt))]:=by
 refine Ctx.Res.con (C:=Hz) (au po) (abI _ ⟨0,?_⟩) (fn:=Tryz.f51) (by kernel_rfl) (by kernel_rfl)
 have hn:=h
 have bn:=lY hn
 unfold xo
 simp only[aj,aR,aD,aw,aX,Nat.reduceLeDiff,dT hn]
 try rfl
noncomputable def FZ:Ctx:=⟨Tryz.prog,ft,tys,qn,[]⟩
noncomputable def zG(_k:KT)(a:BR)(b:BR)(c:BR):Option (List RV):=match decide (okR b)with|true=>(match(aQ (aa b) 0)==0 with|true=>(match decide (okR a)with|true=>some [RV.d tO (hid (enc ((aa a,0,0):Rt)))]|false=>none)|false=>(match decide (okR c)with|true=>(match(aQ (aa c) 0)==0 with|true=>(match decide (okR a)with|true=>some [RV.d tO (hid (enc ((aa a,0,0):Rt)))]|false=>none)|false=>some [RV.d tO (a,(b,c))])|false=>none))|false=>none
theorem aa7(a:BR)(b:BR)(c:BR){rX:List RV}(hX:∃nX,zG (FZ.k nX) a b c=some rX):FZ.Res 133 [.d tR a,.d tR b,.d tR c] rX:=aO (t:=fun k=>zG k a b c) (fun k=>show go2 Tryz.prog ft tys qn [] k 4000 (az 133 [.d tR a,.d tR b,.d tR c]) (.node 0)=zG k a b c by kernel_rfl) hX
theorem SE(a:BR)(b:BR)(c:BR)(h:okR a∧okR b∧okR c):Con Tryz.prog 133 [.d tR a,.d tR b,.d tR c] [.d tO (enc (ji (aa a) (aa b) (aa c)))]:=by
 refine Ctx.Res.con (C:=FZ) (au po) (aa7 _ _ _ ⟨0,?_⟩) (fn:=Tryz.f133) (by kernel_rfl) (by kernel_rfl)
 obtain⟨ha,hb,hc⟩:=h
 obtain⟨a,rfl,ba⟩:=dD ha
 obtain⟨b,rfl,bb⟩:=dD hb
 obtain⟨c,rfl,bc⟩:=dD hc
 unfold zG
 simp only[aj,aR,aD,aw,aX,Nat.reduceLeDiff,aP]
 unfold ji
 by_cases e:b=0
 ·rw[decide_eq_true e];rfl
 ·rw[decide_eq_false e]
  by_cases e:c=0
  ·rw[decide_eq_true e];rfl
  ·rw[decide_eq_false e];rfl
noncomputable def ri:aL:=spN false true [tR,tR,tR] (fun x=>decide (okR x.1∧okR x.2.1∧okR x.2.2.1)) (fun x=>[RV.d tO (hid (enc (ji (aa x.1) (aa x.2.1) (aa x.2.2.1))))])
theorem ww:af Tryz.prog 133=true∧ao Tryz.prog 133 ri∧∀g,ri.mut_=some g→aK Tryz.prog 133 g:=aq (by kernel_rfl) fun x h=>by simp only[aj];exact SE x.1 x.2.1 x.2.2.1 (of_decide_eq_true h)
noncomputable def HI:Env:=(133,ri)::qn
theorem Nv:EnvAll Tryz.prog HI:=⟨ww,po⟩
noncomputable def GX:Ctx:=⟨Tryz.prog,ft,tys,HI,[]⟩
noncomputable def Ax(_k:KT)(a:BR)(b:BR)(c:BR):Option (List RV):=match decide (okR c)with|true=>(match decide ((aQ (aa c) 0)<0)with|true=>some [RV.d tO (((false,[]),(false,[])),(((false,[]),(false,[])),((false,[]),(false,[])))),RV.d (.int .i64) 7]|false=>(match decide (okR c)with|true=>(match fw (aa c)with|true=>(match decide (okR b∧okR (hid (rtB (aa c))))with|true=>(match decide (okR a∧okR (hid (ae (aa b*aa (hid (rtB (aa c)))))))with|true=>(match decide (okR (hid (ae (aa a+aa (hid (ae (aa b*aa (hid (rtB (aa c))))))))))with|true=>some [RV.d tO (hid (enc ((aa (hid (ae (aa a+aa (hid (ae (aa b*aa (hid (rtB (aa c))))))))),0,0):Rt))),RV.d (.int .i64) 0]|false=>none)|false=>none)|false=>none)|false=>(match decide (okR a∧okR b∧okR c)with|true=>some [RV.d tO (hid (enc (ji (aa a) (aa b) (aa c)))),RV.d (.int .i64) 0]|false=>none))|false=>none))|false=>none
theorem aaT(a:BR)(b:BR)(c:BR){rX:List RV}(hX:∃nX,Ax (GX.k nX) a b c=some rX):GX.Res 49 [.d tR a,.d tR b,.d tR c] rX:=aO (t:=fun k=>Ax k a b c) (fun k=>show go2 Tryz.prog ft tys HI [] k 4000 (az 49 [.d tR a,.d tR b,.d tR c]) (.node 0)=Ax k a b c by kernel_rfl) hX
theorem Ud(a:BR)(b:BR)(c:BR)(h:ok Rat 100000 a∧ok Rat 100000 b∧ok Rat 100000 c∧0≤aa c):Con Tryz.prog 49 [.d tR a,.d tR b,.d tR c] [.d tO (enc (mkR (aa a) (aa b) (aa c))),.d (.int .i64) 0]:=by
 refine Ctx.Res.con (C:=GX) (au Nv) (aaT _ _ _ ⟨0,?_⟩) (fn:=Tryz.f49) (by kernel_rfl) (by kernel_rfl)
 obtain⟨ha,hb,hc,hc_3⟩:=h
 obtain⟨a,rfl,ba⟩:=aS ha
 obtain⟨b,rfl,bb⟩:=aS hb
 obtain⟨c,rfl,bc⟩:=aS hc
 rw[aD,aw]at hc_3
 unfold Ax
 simp only[aj,aR,aD,aw,aX,Bool.decide_and,Bool.and_self,Bool.true_and,Nat.reduceLeDiff,aN,decide_eq_false (show ¬c<0 by grind)]
 unfold mkR
 cases hq:fw c
 ·have hz:c≠0:=fun e=>by rw[e,nZ]at hq;cases hq
  simp only[cond_false,ji,decide_eq_false hz]
  try rfl
 ·rw[ZF hq]
  simp only[aR,aD,aw,aX,Nat.reduceAdd,Nat.reduceLeDiff,cond_true]
  try rfl
end Go.Proofs.YtlahabkjhgkkjaaGreat
namespace Go.Proofs.YtlahabkjhgkkjaaGreat
open Go.RowKit
abbrev Iv:=Int×Int
def prI(i:Iv):Prop:= -2305843009213693952≤i.1∧i.1≤i.2∧i.2≤2305843009213693952
instance (i:Iv):Decidable (prI i):=by unfold prI;infer_instance
def iv0:Iv:=(0,0)
theorem ef:prI iv0:=by decide
def jr(lo hi:Int):Iv×Bool:=bif decide (lo< -2305843009213693952)then(iv0,false)else bif decide (hi>2305843009213693952)then(iv0,false)else((lo,hi),true)
theorem yA{lo hi:Int}(h:lo≤hi):prI (jr lo hi).1:=by
 unfold jr
 by_cases h1:lo< -2305843009213693952
 ·rw[decide_eq_true h1];exact ef
 ·rw[decide_eq_false h1]
  by_cases h2:hi>2305843009213693952
  ·rw[decide_eq_true h2];exact ef
  ·rw[decide_eq_false h2];exact⟨by show _≤lo;omega,h,by show hi≤_;omega⟩
theorem yf{lo hi:Int}(h:(jr lo hi).2=true):(jr lo hi).1=(lo,hi):=by
 unfold jr at h ⊢
 by_cases h1:lo< -2305843009213693952
 ·rw[decide_eq_true h1]at h;cases h
 ·rw[decide_eq_false h1]at h ⊢
  by_cases h2:hi>2305843009213693952
  ·rw[decide_eq_true h2]at h;cases h
  ·rw[decide_eq_false h2];rfl
def frF(q:Rat):Iv×Bool:=bif decide (bh (q*65536).floor)then bif decide (bh (-(-(q*65536)).floor))then jr (q*65536).floor (-(-(q*65536)).floor)else(iv0,false)else(iv0,false)
def cQ(a b:Iv):Iv×Bool:=jr (a.1+b.1) (a.2+b.2)
def jg(a:Iv):Iv:=(-a.2,-a.1)
def scF(x y:Int):(Int×Int)×Bool:=
 bif decide (x.natAbs*y.natAbs≥1208925819614629174706176)then((0,0),false)else bif decide (x.natAbs*y.natAbs/65536>2305843009213693952)then((0,0),false)
 else bif decide (x<0)==decide (y<0)then((((x.natAbs*y.natAbs/65536:Nat):Int),(((x.natAbs*y.natAbs+65535)/65536:Nat):Int)),decide ((x.natAbs*y.natAbs+65535)/65536≤2305843009213693952))
 else((-(((x.natAbs*y.natAbs+65535)/65536:Nat):Int),-((x.natAbs*y.natAbs/65536:Nat):Int)),decide ((x.natAbs*y.natAbs+65535)/65536≤2305843009213693952))
theorem abS{x y:Int}(h:(scF x y).2=true):(scF x y).1.1*65536≤x*y∧x*y≤(scF x y).1.2*65536∧ -2305843009213693952≤(scF x y).1.1∧(scF x y).1.2≤2305843009213693952:=by
 have ep:(((x.natAbs*y.natAbs:Nat)):Int)=(x.natAbs:Int)*(y.natAbs:Int):=Int.natCast_mul _ _
 have hs:(decide (x<0)==decide (y<0))=true→x*y=(((x.natAbs*y.natAbs:Nat)):Int):=fun e=>by
  rw[ep]
  by_cases hx:x<0<;>by_cases hy:y<0
  ·rw[show(x.natAbs:Int)= -x by omega,show(y.natAbs:Int)= -y by omega];grind
  ·simp[hx,hy]at e
  ·simp[hx,hy]at e
  ·rw[show(x.natAbs:Int)=x by omega,show(y.natAbs:Int)=y by omega]
 have hd:(decide (x<0)==decide (y<0))=false→x*y= -(((x.natAbs*y.natAbs:Nat)):Int):=fun e=>by
  rw[ep]
  by_cases hx:x<0<;>by_cases hy:y<0
  ·simp[hx,hy]at e
  ·rw[show(x.natAbs:Int)= -x by omega,show(y.natAbs:Int)=y by omega];grind
  ·rw[show(x.natAbs:Int)=x by omega,show(y.natAbs:Int)= -y by omega];grind
  ·simp[hx,hy]at e
 unfold scF at h ⊢
 generalize x.natAbs*y.natAbs=p at*
 by_cases h1:p≥1208925819614629174706176
 ·rw[decide_eq_true h1]at h;cases h
 rw[decide_eq_false h1]at h ⊢
 by_cases h2:p/65536>2305843009213693952
 ·rw[decide_eq_true h2]at h;cases h
 rw[decide_eq_false h2]at h ⊢
 cases e:(decide (x<0)==decide (y<0))<;>rw[e]at h<;>have h3:=of_decide_eq_true h
 ·rw[hd e]
  show-(((p+65535)/65536:Nat):Int)*65536≤_∧_≤ -((p/65536:Nat):Int)*65536∧_≤ -(((p+65535)/65536:Nat):Int)∧ -((p/65536:Nat):Int)≤_
  omega
 ·rw[hs e]
  show((p/65536:Nat):Int)*65536≤_∧_≤(((p+65535)/65536:Nat):Int)*65536∧_≤((p/65536:Nat):Int)∧(((p+65535)/65536:Nat):Int)≤_
  omega
def fE(s:Iv×Bool)(x y:Int):Iv×Bool:=bif s.2&&(scF x y).2 then((if(scF x y).1.1<s.1.1 then(scF x y).1.1 else s.1.1,if(scF x y).1.2>s.1.2 then(scF x y).1.2 else s.1.2),true)else(iv0,false)
def co(a b:Iv):Iv×Bool:=fE (fE (fE (fE ((2305843009213693952,-2305843009213693952),true) a.1 b.1) a.1 b.2) a.2 b.1) a.2 b.2
theorem i6{s:Iv×Bool}{x y:Int}(h:(fE s x y).2=true):s.2=true∧(fE s x y).1.1≤s.1.1∧s.1.2≤(fE s x y).1.2∧(fE s x y).1.1*65536≤x*y∧x*y≤(fE s x y).1.2*65536∧((-2305843009213693952≤s.1.1∧s.1.2≤2305843009213693952)→ -2305843009213693952≤(fE s x y).1.1∧(fE s x y).1.2≤2305843009213693952):=by
 unfold fE at h ⊢
 cases e:(s.2&&(scF x y).2)<;>rw[e]at h
 ·cases h
 ·obtain⟨e1,e2⟩:=Bool.and_eq_true_iff.1 e
  obtain⟨g1,g2,g3,g4⟩:=abS e2
  refine⟨e1,?_⟩
  simp only[cond_true]
  split<;>split<;>refine⟨by omega,by omega,by omega,by omega,fun h=>by omega⟩
theorem n9(a b:Iv):prI (co a b).1:=by
 cases h:(co a b).2
 ·unfold co fE at h ⊢
  revert h
  cases((_:Iv×Bool).2&&(scF a.2 b.2).2)
  ·intro _;exact ef
  ·intro h;cases h
 ·unfold co at h ⊢
  obtain⟨h3,a3,b3,c3,d3,e3⟩:=i6 h
  obtain⟨h2,a2,b2,c2,d2,e2⟩:=i6 h3
  obtain⟨h1,a1,b1,c1,d1,e1⟩:=i6 h2
  obtain⟨h0,a0,b0,c0,d0,e0⟩:=i6 h1
  have k:=e3 (e2 (e1 (e0 (by decide))))
  exact⟨k.1,by omega,k.2⟩
theorem Xj{a b:Iv}(h:(co a b).2=true):∀x y,(x=a.1∨x=a.2)→(y=b.1∨y=b.2)→(co a b).1.1*65536≤x*y∧x*y≤(co a b).1.2*65536:=by
 unfold co at h ⊢
 obtain⟨h3,a3,b3,c3,d3,e3⟩:=i6 h
 obtain⟨h2,a2,b2,c2,d2,e2⟩:=i6 h3
 obtain⟨h1,a1,b1,c1,d1,e1⟩:=i6 h2
 obtain⟨h0,a0,b0,c0,d0,e0⟩:=i6 h1
 intro x y hx hy
 rcases hx with rfl|rfl<;>rcases hy with rfl|rfl<;>constructor<;>omega
def c8(n:Int):Int:=bG (n*65536)
def sqF(a:Iv):Iv×Bool:=bif decide (a.2<0)then(iv0,false)else jr (c8 (if 0>a.1 then 0 else a.1)) (bif decide (c8 a.2*c8 a.2=a.2*65536)then c8 a.2 else c8 a.2+1)
def sgF(a:Iv):Int×Bool:=bif decide (a.1>0)then(1,true)else bif decide (a.2<0)then(-1,true)else(0,decide (a.1=0)&&decide (a.2=0))
namespace RE
def inI(i:Iv)(x:RE):Prop:=of (i.1:Rat)≤of 65536*x∧of 65536*x≤of (i.2:Rat)
theorem MN(a b u x y:RE):((a+b-(u*(x+y))))+((u*x-(a)))+((u*y-(b)))=0:=by
 induction a using Quotient.inductionOn
 induction b using Quotient.inductionOn
 induction u using Quotient.inductionOn
 induction x using Quotient.inductionOn
 induction y using Quotient.inductionOn
 exact snd fun n=>by
  simp only[RL.add,RL.mul,RL.neg,RL.const]
  grind
theorem XF(a b u x y:RE)(h1:a≤u*x)(h2:b≤u*y):a+b≤u*(x+y):=fun hg=>far (bu (bu (bW hg) (a9 h1)) (a9 h2)) (MN a b u x y)
theorem Mk(a b u x y:RE):((u*(x+y)-(a+b)))+((a-(u*x)))+((b-(u*y)))=0:=by
 induction a using Quotient.inductionOn
 induction b using Quotient.inductionOn
 induction u using Quotient.inductionOn
 induction x using Quotient.inductionOn
 induction y using Quotient.inductionOn
 exact snd fun n=>by
  simp only[RL.add,RL.mul,RL.neg,RL.const]
  grind
theorem YL(a b u x y:RE)(h1:u*x≤a)(h2:u*y≤b):u*(x+y)≤a+b:=fun hg=>far (bu (bu (bW hg) (a9 h1)) (a9 h2)) (Mk a b u x y)
theorem M2(a u x:RE):((-a-(u*(-x))))+((a-(u*x)))=0:=by
 induction a using Quotient.inductionOn
 induction u using Quotient.inductionOn
 induction x using Quotient.inductionOn
 exact snd fun n=>by
  simp only[RL.add,RL.mul,RL.neg,RL.const]
  grind
theorem VN(a u x:RE)(h1:u*x≤a): -a≤u*(-x):=fun hg=>far (bu (bW hg) (a9 h1)) (M2 a u x)
theorem MI(a u x:RE):((u*(-x)-(-a)))+((u*x-(a)))=0:=by
 induction a using Quotient.inductionOn
 induction u using Quotient.inductionOn
 induction x using Quotient.inductionOn
 exact snd fun n=>by
  simp only[RL.add,RL.mul,RL.neg,RL.const]
  grind
theorem Ys(a u x:RE)(h1:a≤u*x):u*(-x)≤ -a:=fun hg=>far (bu (bW hg) (a9 h1)) (MI a u x)
theorem XY(a c U V m:RE):((m-(U*V)))+((a*c-(m)))+((V-(0))*(U-(a)))+((a-(0))*(V-(c)))=0:=by
 induction a using Quotient.inductionOn
 induction c using Quotient.inductionOn
 induction U using Quotient.inductionOn
 induction V using Quotient.inductionOn
 induction m using Quotient.inductionOn
 exact snd fun n=>by
  simp only[RL.add,RL.mul,RL.neg,RL.const]
  grind
theorem acX(a c U V m:RE)(h1:0≤V)(h2:0≤a)(h3:a≤U)(h4:c≤V)(h5:m≤a*c):m≤U*V:=fun hg=>far (bu (bu (bu (bW hg) (a9 h5)) (cK (a9 h1) (a9 h3))) (cK (a9 h2) (a9 h4))) (XY a c U V m)
theorem Wo(a d U V m:RE):((m-(U*V)))+((a*d-(m)))+((V-(0))*(U-(a)))+((0-(a))*(d-(V)))=0:=by
 induction a using Quotient.inductionOn
 induction d using Quotient.inductionOn
 induction U using Quotient.inductionOn
 induction V using Quotient.inductionOn
 induction m using Quotient.inductionOn
 exact snd fun n=>by
  simp only[RL.add,RL.mul,RL.neg,RL.const]
  grind
theorem aeY(a d U V m:RE)(h1:0≤V)(h2:a≤0)(h3:a≤U)(h4:V≤d)(h5:m≤a*d):m≤U*V:=fun hg=>far (bu (bu (bu (bW hg) (a9 h5)) (cK (a9 h1) (a9 h3))) (cK (a9 h2) (a9 h4))) (Wo a d U V m)
theorem V7(b c U V m:RE):((m-(U*V)))+((b*c-(m)))+((0-(V))*(b-(U)))+((b-(0))*(V-(c)))=0:=by
 induction b using Quotient.inductionOn
 induction c using Quotient.inductionOn
 induction U using Quotient.inductionOn
 induction V using Quotient.inductionOn
 induction m using Quotient.inductionOn
 exact snd fun n=>by
  simp only[RL.add,RL.mul,RL.neg,RL.const]
  grind
theorem acn(b c U V m:RE)(h1:V≤0)(h2:0≤b)(h3:U≤b)(h4:c≤V)(h5:m≤b*c):m≤U*V:=fun hg=>far (bu (bu (bu (bW hg) (a9 h5)) (cK (a9 h1) (a9 h3))) (cK (a9 h2) (a9 h4))) (V7 b c U V m)
theorem VL(b d U V m:RE):((m-(U*V)))+((b*d-(m)))+((0-(V))*(b-(U)))+((0-(b))*(d-(V)))=0:=by
 induction b using Quotient.inductionOn
 induction d using Quotient.inductionOn
 induction U using Quotient.inductionOn
 induction V using Quotient.inductionOn
 induction m using Quotient.inductionOn
 exact snd fun n=>by
  simp only[RL.add,RL.mul,RL.neg,RL.const]
  grind
theorem adz(b d U V m:RE)(h1:V≤0)(h2:b≤0)(h3:U≤b)(h4:V≤d)(h5:m≤b*d):m≤U*V:=fun hg=>far (bu (bu (bu (bW hg) (a9 h5)) (cK (a9 h1) (a9 h3))) (cK (a9 h2) (a9 h4))) (VL b d U V m)
theorem Wq(b d U V m:RE):((U*V-(m)))+((m-(b*d)))+((V-(0))*(b-(U)))+((b-(0))*(d-(V)))=0:=by
 induction b using Quotient.inductionOn
 induction d using Quotient.inductionOn
 induction U using Quotient.inductionOn
 induction V using Quotient.inductionOn
 induction m using Quotient.inductionOn
 exact snd fun n=>by
  simp only[RL.add,RL.mul,RL.neg,RL.const]
  grind
theorem adc(b d U V m:RE)(h1:0≤V)(h2:0≤b)(h3:U≤b)(h4:V≤d)(h5:b*d≤m):U*V≤m:=fun hg=>far (bu (bu (bu (bW hg) (a9 h5)) (cK (a9 h1) (a9 h3))) (cK (a9 h2) (a9 h4))) (Wq b d U V m)
theorem XE(b c U V m:RE):((U*V-(m)))+((m-(b*c)))+((V-(0))*(b-(U)))+((0-(b))*(V-(c)))=0:=by
 induction b using Quotient.inductionOn
 induction c using Quotient.inductionOn
 induction U using Quotient.inductionOn
 induction V using Quotient.inductionOn
 induction m using Quotient.inductionOn
 exact snd fun n=>by
  simp only[RL.add,RL.mul,RL.neg,RL.const]
  grind
theorem aeR(b c U V m:RE)(h1:0≤V)(h2:b≤0)(h3:U≤b)(h4:c≤V)(h5:b*c≤m):U*V≤m:=fun hg=>far (bu (bu (bu (bW hg) (a9 h5)) (cK (a9 h1) (a9 h3))) (cK (a9 h2) (a9 h4))) (XE b c U V m)
theorem Yg(a d U V m:RE):((U*V-(m)))+((m-(a*d)))+((0-(V))*(U-(a)))+((a-(0))*(d-(V)))=0:=by
 induction a using Quotient.inductionOn
 induction d using Quotient.inductionOn
 induction U using Quotient.inductionOn
 induction V using Quotient.inductionOn
 induction m using Quotient.inductionOn
 exact snd fun n=>by
  simp only[RL.add,RL.mul,RL.neg,RL.const]
  grind
theorem adV(a d U V m:RE)(h1:V≤0)(h2:0≤a)(h3:a≤U)(h4:V≤d)(h5:a*d≤m):U*V≤m:=fun hg=>far (bu (bu (bu (bW hg) (a9 h5)) (cK (a9 h1) (a9 h3))) (cK (a9 h2) (a9 h4))) (Yg a d U V m)
theorem VB(a c U V m:RE):((U*V-(m)))+((m-(a*c)))+((0-(V))*(U-(a)))+((0-(a))*(V-(c)))=0:=by
 induction a using Quotient.inductionOn
 induction c using Quotient.inductionOn
 induction U using Quotient.inductionOn
 induction V using Quotient.inductionOn
 induction m using Quotient.inductionOn
 exact snd fun n=>by
  simp only[RL.add,RL.mul,RL.neg,RL.const]
  grind
theorem acq(a c U V m:RE)(h1:V≤0)(h2:a≤0)(h3:a≤U)(h4:c≤V)(h5:a*c≤m):U*V≤m:=fun hg=>far (bu (bu (bu (bW hg) (a9 h5)) (cK (a9 h1) (a9 h3))) (cK (a9 h2) (a9 h4))) (VB a c U V m)
theorem ZP(u x y:RE):u*x*(u*y)=u*(x*y)*u:=by
 induction u using Quotient.inductionOn
 induction x using Quotient.inductionOn
 induction y using Quotient.inductionOn
 exact snd fun n=>by
  simp only[RL.mul]
  grind
theorem WK(a b u:RE):((u-(0))*(a-(b)))+((b*u-(a*u)))=0:=by
 induction a using Quotient.inductionOn
 induction b using Quotient.inductionOn
 induction u using Quotient.inductionOn
 exact snd fun n=>by
  simp only[RL.add,RL.mul,RL.neg,RL.const]
  grind
theorem ZG(a b u:RE)(h1:0<u)(h2:a*u≤b*u):a≤b:=fun hg=>far (bu (mul_pos (bW h1) (bW hg)) (a9 h2)) (WK a b u)
theorem kT:0<of 65536:=lV (by decide+kernel)
end RE
end Go.Proofs.YtlahabkjhgkkjaaGreat
namespace Go.Proofs.YtlahabkjhgkkjaaGreat
open Go.RowKit
namespace RE
theorem jS{a b:Int}(h:a≤b):of (a:Rat)≤of (b:Rat):=oq.2 (Rat.intCast_le_intCast.2 h)
theorem fG{q:Rat}(h:(frF q).2=true):inI (frF q).1 (of q):=by
 have f1:((q*65536).floor:Rat)≤q*65536:=Rat.floor_le _
 have f2:((-(q*65536)).floor:Rat)≤ -(q*65536):=Rat.floor_le _
 unfold frF at h ⊢
 cases e1:decide (bh (q*65536).floor)
 ·rw[e1]at h;cases h
 ·cases e2:decide (bh (-(-(q*65536)).floor))
  ·rw[e1,e2]at h;cases h
  ·rw[e1,e2]at h
   simp only[cond_true]at h ⊢
   rw[yf h]
   refine⟨?_,?_⟩
   ·rw[←dX];exact oq.2 (by show(((q*65536).floor:Int):Rat)≤_;grind)
   ·rw[←dX];exact oq.2 (by show _≤((-(-(q*65536)).floor:Int):Rat);rw[Rat.intCast_neg];grind)
theorem frF_pr(q:Rat):prI (frF q).1:=by
 have f1:((q*65536).floor:Rat)≤q*65536:=Rat.floor_le _
 have f2:((-(q*65536)).floor:Rat)≤ -(q*65536):=Rat.floor_le _
 have f3:(q*65536).floor≤ -(-(q*65536)).floor:=by
  refine Rat.intCast_le_intCast.1 ?_
  rw[Rat.intCast_neg]
  grind
 unfold frF
 cases decide (bh (q*65536).floor)
 ·exact ef
 ·cases decide (bh (-(-(q*65536)).floor))
  ·exact ef
  ·exact yA f3
theorem gW{a b:Iv}{x y:RE}(ha:inI a x)(hb:inI b y)(h:(cQ a b).2=true):inI (cQ a b).1 (x+y):=by
 unfold cQ at h ⊢
 rw[yf h]
 refine⟨?_,?_⟩
 ·show of ((a.1+b.1:Int):Rat)≤_
  rw[Rat.intCast_add,of_add]
  exact XF _ _ _ _ _ ha.1 hb.1
 ·show _≤of ((a.2+b.2:Int):Rat)
  rw[Rat.intCast_add,of_add]
  exact YL _ _ _ _ _ ha.2 hb.2
theorem addF_pr{a b:Iv}(ha:prI a)(hb:prI b):prI (cQ a b).1:=yA (by have:=ha.2.1;have:=hb.2.1;omega)
theorem zX{a:Iv}{x:RE}(ha:inI a x):inI (jg a) (-x):=by
 refine⟨?_,?_⟩
 ·show of ((-a.2:Int):Rat)≤_
  rw[Rat.intCast_neg,of_neg]
  exact VN _ _ _ ha.2
 ·show _≤of ((-a.1:Int):Rat)
  rw[Rat.intCast_neg,of_neg]
  exact Ys _ _ _ ha.1
theorem negF_pr{a:Iv}(ha:prI a):prI (jg a):=⟨by show _≤ -a.2;have:=ha.2.2;omega,by show-a.2≤ -a.1;have:=ha.2.1;omega,by show-a.1≤_;have:=ha.1;omega⟩
theorem i7{a b:Iv}{x y:RE}(ha:inI a x)(hb:inI b y)(h:(co a b).2=true):inI (co a b).1 (x*y):=by
 have hc:=Xj h
 have c1:=hc a.1 b.1 (.inl rfl) (.inl rfl)
 have c2:=hc a.1 b.2 (.inl rfl) (.inr rfl)
 have c3:=hc a.2 b.1 (.inr rfl) (.inl rfl)
 have c4:=hc a.2 b.2 (.inr rfl) (.inr rfl)
 generalize (co a b).1=m at*
 have up:∀{p q r:Int},p*65536≤q*r→of (p:Rat)*of 65536≤of (q:Rat)*of (r:Rat):=fun{p q r} h=>by
  have:=jS h
  rw[Rat.intCast_mul,Rat.intCast_mul,dX,dX]at this
  exact this
 have dn:∀{p q r:Int},q*r≤p*65536→of (q:Rat)*of (r:Rat)≤of (p:Rat)*of 65536:=fun{p q r} h=>by
  have:=jS h
  rw[Rat.intCast_mul,Rat.intCast_mul,dX,dX]at this
  exact this
 obtain⟨a1,a2⟩:=ha
 obtain⟨b1,b2⟩:=hb
 have l:of (m.1:Rat)*of 65536≤of 65536*x*(of 65536*y):=by
  rcases lt_or_ge (of 65536*y) 0 with v|v
  ·rcases lt_or_ge (of (a.2:Rat)) 0 with s|s
   ·exact adz _ _ _ _ _ (le_of_lt v) (le_of_lt s) a2 b2 (up c4.1)
   ·exact acn _ _ _ _ _ (le_of_lt v) s a2 b1 (up c3.1)
  ·rcases lt_or_ge (of (a.1:Rat)) 0 with s|s
   ·exact aeY _ _ _ _ _ v (le_of_lt s) a1 b2 (up c2.1)
   ·exact acX _ _ _ _ _ v s a1 b1 (up c1.1)
 have u:of 65536*x*(of 65536*y)≤of (m.2:Rat)*of 65536:=by
  rcases lt_or_ge (of 65536*y) 0 with v|v
  ·rcases lt_or_ge (of (a.1:Rat)) 0 with s|s
   ·exact acq _ _ _ _ _ (le_of_lt v) (le_of_lt s) a1 b1 (dn c1.2)
   ·exact adV _ _ _ _ _ (le_of_lt v) s a1 b2 (dn c2.2)
  ·rcases lt_or_ge (of (a.2:Rat)) 0 with s|s
   ·exact aeR _ _ _ _ _ v (le_of_lt s) a2 b1 (dn c3.2)
   ·exact adc _ _ _ _ _ v s a2 b2 (dn c4.2)
 rw[ZP]at l u
 exact⟨ZG _ _ _ kT l,ZG _ _ _ kT u⟩
theorem aew(u s:RE):u*s*(u*s)=u*(s*s)*u:=by
 induction u using Quotient.inductionOn
 induction s using Quotient.inductionOn
 exact snd fun n=>by
  simp only[RL.mul]
  grind
theorem N7(r a u x:RE):((r-(u*x*u)))+((a*u-(r)))+((u*x-(a))*(u-(0)))=0:=by
 induction r using Quotient.inductionOn
 induction a using Quotient.inductionOn
 induction u using Quotient.inductionOn
 induction x using Quotient.inductionOn
 exact snd fun n=>by
  simp only[RL.add,RL.mul,RL.neg,RL.const]
  grind
theorem ab3(r a u x:RE)(h1:r≤a*u)(h2:a≤u*x)(h3:0<u):r≤u*x*u:=fun hg=>far (bu (bu (bW hg) (a9 h1)) (cK (a9 h2) (le_of_lt (bW h3)))) (N7 r a u x)
theorem Pc(r a u x:RE):((u*x*u-(r)))+((r-(a*u)))+((a-(u*x))*(u-(0)))=0:=by
 induction r using Quotient.inductionOn
 induction a using Quotient.inductionOn
 induction u using Quotient.inductionOn
 induction x using Quotient.inductionOn
 exact snd fun n=>by
  simp only[RL.add,RL.mul,RL.neg,RL.const]
  grind
theorem Oy(r a u x:RE)(h1:a*u≤r)(h2:u*x≤a)(h3:0<u):u*x*u≤r:=fun hg=>far (bu (bu (bW hg) (a9 h1)) (cK (a9 h2) (le_of_lt (bW h3)))) (Pc r a u x)
theorem sqF_pr{a:Iv}(ha:prI a):prI (sqF a).1:=by
 unfold sqF
 by_cases h:a.2<0
 ·rw[decide_eq_true h];exact ef
 ·rw[decide_eq_false h]
  simp only[cond_false]
  refine yA ?_
  have h1:(if 0>a.1 then 0 else a.1)≤a.2:=by have:=ha.2.1;split<;>omega
  have h0:0≤(if 0>a.1 then 0 else a.1):=by split<;>omega
  have hm:c8 (if 0>a.1 then 0 else a.1)≤c8 a.2:=by
   unfold c8
   obtain⟨_,g1,_⟩:=er (z:=(if 0>a.1 then 0 else a.1)*65536) (by omega)
   obtain⟨g0,_,g2⟩:=er (z:=a.2*65536) (by omega)
   have:=Go.Proofs.YtlahabkjhgkkjaaGreat.sq_lt (a:=bG ((if 0>a.1 then 0 else a.1)*65536)) (b:=bG (a.2*65536)+1) (by omega) (by omega)
   omega
  cases decide (c8 a.2*c8 a.2=a.2*65536)
  ·show _≤c8 a.2+1;omega
  ·exact hm
theorem tT{a:Iv}{x:RE}(ha:inI a x)(hx:0≤x)(h:(sqF a).2=true):inI (sqF a).1 (so x):=by
 obtain⟨a1,a2⟩:=ha
 have hs:=za hx
 have s0:0≤of 65536*so x:=cK (le_of_lt kT) (lz x)
 have e:of 65536*so x*(of 65536*so x)=of 65536*x*of 65536:=by rw[aew,hs]
 unfold sqF at h ⊢
 cases hn:decide (a.2<0)
 ·rw[hn]at h
  simp only[cond_false]at h ⊢
  have h2:=of_decide_eq_false hn
  rw[yf h]
  obtain⟨p0,p1,p2⟩:=er (z:=(if 0>a.1 then 0 else a.1)*65536) (by split<;>omega)
  obtain⟨q0,q1,q2⟩:=er (z:=a.2*65536) (by omega)
  have cm:∀{p q:Int},p*p≤q*65536→of (p:Rat)*of (p:Rat)≤of (q:Rat)*of 65536:=fun{p q} h=>by
   have:=jS h
   rw[Rat.intCast_mul,Rat.intCast_mul,dX,dX]at this
   exact this
  have cn:∀{p q:Int},q*65536≤p*p→of (q:Rat)*of 65536≤of (p:Rat)*of (p:Rat):=fun{p q} h=>by
   have:=jS h
   rw[Rat.intCast_mul,Rat.intCast_mul,dX,dX]at this
   exact this
  have nn:∀{p:Int},0≤p→0≤of (p:Rat):=fun h=>jS h
  refine⟨?_,?_⟩
  ·show of ((c8 _:Int):Rat)≤_
   refine Uz _ _ (nn p0) s0 ?_
   rw[e]
   refine ab3 _ (of (((if 0>a.1 then 0 else a.1:Int)):Rat)) _ _ (cm p1) ?_ kT
   split
   ·exact cK (le_of_lt kT) hx
   ·exact a1
  ·show _≤of (((bif _ then _ else _):Int):Rat)
   cases he:decide (c8 a.2*c8 a.2=a.2*65536)
   ·simp only[cond_false]
    refine Uz _ _ s0 (nn (by unfold c8;omega)) ?_
    rw[e]
    exact Oy _ _ _ _ (cn (by unfold c8;omega)) a2 kT
   ·simp only[cond_true]
    refine Uz _ _ s0 (nn q0) ?_
    rw[e]
    exact Oy _ _ _ _ (cn (by rw[of_decide_eq_true he];exact Int.le_refl _)) a2 kT
 ·rw[hn]at h;cases h
theorem EX{i:Iv}{x:RE}(hi:inI i x)(h:(sgF i).2=true):(sgF i).1=sg x:=by
 obtain⟨h1,h2⟩:=hi
 unfold sgF at h ⊢
 cases e1:decide (i.1>0)
 ·rw[e1]at h
  cases e2:decide (i.2<0)
  ·rw[e2]at h
   simp only[cond_false,Bool.and_eq_true,decide_eq_true_eq]at h ⊢
   rw[h.1]at h1
   rw[h.2]at h2
   have:of 65536*x=0:=le_antisymm h2 h1
   have:sg (of 65536*x)=0:=by rw[this,mr]
   rw[pK,jW kT]at this
   omega
  ·have e:=of_decide_eq_true e2
   have h3:of (i.2:Rat)<0:=lV (Rat.intCast_lt_intCast.2 e)
   simp only[cond_false,cond_true]
   have:sg (of 65536*x)= -1:=qB (by
    rcases lt_or_ge (of 65536*x) 0 with h|h
    ·exact h
    ·exact absurd (le_trans h h2) (jh.2 h3))
   rw[pK,jW kT]at this
   omega
 ·have e:=of_decide_eq_true e1
  have h3:0<of (i.1:Rat):=lV (Rat.intCast_lt_intCast.2 e)
  simp only[cond_true]
  have:sg (of 65536*x)=1:=jW (by
   rcases lt_or_ge 0 (of 65536*x)with h|h
   ·exact h
   ·exact absurd (le_trans h1 h) (jh.2 h3))
  rw[pK,jW kT]at this
  omega
end RE
end Go.Proofs.YtlahabkjhgkkjaaGreat
namespace Go.Proofs.YtlahabkjhgkkjaaGreat
open Go.RowKit
abbrev Qd:=Rat×Rat×Rat×Rat×Rat×Rat
def sgQ(q:Qd):Int:=xm q.1 q.2.1 q.2.2.1 q.2.2.2.1 q.2.2.2.2.1 q.2.2.2.2.2
def suT(x y:Rt):Qd:=(x.1-y.1,x.2.1,-y.2.1,0,x.2.2,y.2.2)
def d9(x:Rt)(q:Rat):Int:=eD (x.1-q) x.2.1 x.2.2
def okQ(q:BQ):Prop:=ok Rat 30001 q.1∧ok Rat 15000 q.2.1∧ok Rat 15000 q.2.2.1∧ok Rat 6000 q.2.2.2.1∧ok Rat 15000 q.2.2.2.2.1∧ok Rat 15000 q.2.2.2.2.2∧0≤aa q.2.2.2.2.1∧0≤aa q.2.2.2.2.2
instance (q:BQ):Decidable (okQ q):=by unfold okQ;infer_instance
theorem Hw{q:BQ}(h:okQ q):∃A B C D M N:Rat,q=enc ((A,B,C,D,M,N):Qd)∧Bd A 30001∧Bd B 15000∧Bd C 15000∧Bd D 6000∧Bd M 15000∧Bd N 15000∧0≤M∧0≤N:=by
 obtain⟨A,B,C,D,M,N⟩:=q
 obtain⟨h1,h2,h3,h4,h5,h6,h7,h8⟩:=h
 obtain⟨a,ha,b1⟩:=aS h1
 obtain⟨b,hb,b2⟩:=aS h2
 obtain⟨c,hc,b3⟩:=aS h3
 obtain⟨d,hd,b4⟩:=aS h4
 obtain⟨m,hm,b5⟩:=aS h5
 obtain⟨n,hn,b6⟩:=aS h6
 dsimp only at ha hb hc hd hm hn h7 h8
 subst ha hb hc hd hm hn
 rw[aD,aw]at h7 h8
 exact⟨a,b,c,d,m,n,rfl,b1,b2,b3,b4,b5,b6,h7,h8⟩
theorem Zq{A B C D M N:Rat}{a b c d m n:Nat}[h1:Bd A a][h2:Bd B b][h3:Bd C c][h4:Bd D d][h5:Bd M m][h6:Bd N n][h7:Nn M][h8:Nn N](ha:a≤30001)(hb:b≤15000)(hc:c≤15000)(hd:d≤6000)(hm:m≤15000)(hn:n≤15000):decide (okQ (enc ((A,B,C,D,M,N):Qd)))=true:=
 decide_eq_true ⟨of_decide_eq_true (aC ha (by decide)),of_decide_eq_true (aC hb (by decide)),of_decide_eq_true (aC hc (by decide)),of_decide_eq_true (aC hd (by decide)),of_decide_eq_true (aC hm (by decide)),of_decide_eq_true (aC hn (by decide)),by show 0≤aa (ae M);rw[aw];exact h7.le,by show 0≤aa (ae N);rw[aw];exact h8.le⟩
theorem OU{s t:Int}(hs: -1≤s∧s≤1)(ht: -1≤t∧t≤1):IntKind.i64.wrap (s*t)=s*t:=by
 have:=Ai hs ht
 exact bk (by omega) (by omega)
theorem n8{a b m x y:Rat}:IntKind.i64.wrap (eD a b m*aQ x y)=eD a b m*aQ x y:=OU (jb _ _ _) (mC _ _)
theorem oJ{a b m x y z:Rat}:IntKind.i64.wrap (eD a b m*eD x y z)=eD a b m*eD x y z:=OU (jb _ _ _) (jb _ _ _)
theorem Dm(s t u:Int):(match s==0 with|true=>(match s==0 with|true=>some [RV.d (.int .i64) t]|false=>some [RV.d (.int .i64) s])|false=>(match t==0 with|true=>(match s==0 with|true=>some [RV.d (.int .i64) t]|false=>some [RV.d (.int .i64) s])|false=>(match s==t with|true=>(match s==0 with|true=>some [RV.d (.int .i64) t]|false=>some [RV.d (.int .i64) s])|false=>some [RV.d (.int .i64) (s*u)])))=some [RV.d (.int .i64) (RE.addS s t u)]:=by
 unfold RE.addS
 cases h1:s==0
 ·cases h2:t==0
  ·cases h3:s==t<;>rfl
  ·rfl
 ·have e:=beq_iff_eq.1 h1
  subst e
  cases h2:t==0
  ·cases h3:(0:Int)==t
   ·rfl
   ·rw[←beq_iff_eq.1 h3];rfl
  ·rw[beq_iff_eq.1 h2];rfl
theorem zS(s t u:Int):(match t==0 with|true=>some [RV.d (.int .i64) s]|false=>(match s==t with|true=>some [RV.d (.int .i64) s]|false=>(match s==0 with|true=>some [RV.d (.int .i64) t]|false=>some [RV.d (.int .i64) (s*u)])))=some [RV.d (.int .i64) (RE.addS s t u)]:=by
 unfold RE.addS
 cases h2:t==0
 ·cases h3:s==t
  ·cases h1:s==0<;>rfl
  ·rfl
 ·rfl
noncomputable def mb:aL:=spN false true [tR] (fun x=>decide (okR x.1)) (fun x=>[RV.d tR (hid (ae (-aa x.1)))])
theorem mJ:af Tryz.prog 124=true∧ao Tryz.prog 124 mb∧∀g,mb.mut_=some g→aK Tryz.prog 124 g:=aq (by kernel_rfl) fun x h=>by simp only[aj];exact BM x.1 (of_decide_eq_true h)
noncomputable def qq:Env:=[(50,gY),(127,iR),(161,iS),(132,gT),(78,gA),(107,iU),(124,mb)]
theorem pP:EnvAll Tryz.prog qq:=⟨fU,ii,hZ,fZ,fj,hU,mJ,trivial⟩
noncomputable def EW:Ctx:=⟨Tryz.prog,ft,tys,qq,[]⟩
noncomputable def Am(_k:KT)(a:BR)(b:BR)(c:BR):Option (List RV):=match decide (okR a)with|true=>(match decide (okR b)with|true=>(match decide (okR c)with|true=>(match(aQ (aa a) 0)==0 with|true=>(match(aQ (aa a) 0)==0 with|true=>some [RV.d (.int .i64) (IntKind.i64.wrap ((aQ (aa b) 0)*(aQ (aa c) 0)))]|false=>some [RV.d (.int .i64) (aQ (aa a) 0)])|false=>(match(IntKind.i64.wrap ((aQ (aa b) 0)*(aQ (aa c) 0)))==0 with|true=>(match(aQ (aa a) 0)==0 with|true=>some [RV.d (.int .i64) (IntKind.i64.wrap ((aQ (aa b) 0)*(aQ (aa c) 0)))]|false=>some [RV.d (.int .i64) (aQ (aa a) 0)])|false=>(match(aQ (aa a) 0)==(IntKind.i64.wrap ((aQ (aa b) 0)*(aQ (aa c) 0)))with|true=>(match(aQ (aa a) 0)==0 with|true=>some [RV.d (.int .i64) (IntKind.i64.wrap ((aQ (aa b) 0)*(aQ (aa c) 0)))]|false=>some [RV.d (.int .i64) (aQ (aa a) 0)])|false=>(match decide (okR a∧okR a)with|true=>(match decide (okR b∧okR b)with|true=>(match decide (okR (hid (ae (aa b*aa b)))∧okR c)with|true=>(match decide (okR (hid (ae (aa a*aa a)))∧okR (hid (ae (aa (hid (ae (aa b*aa b)))*aa c))))with|true=>some [RV.d (.int .i64) (IntKind.i64.wrap ((aQ (aa a) 0)*(aQ (aa (hid (ae (aa a*aa a)))) (aa (hid (ae (aa (hid (ae (aa b*aa b)))*aa c)))))))]|false=>none)|false=>none)|false=>none)|false=>none))))|false=>none)|false=>none)|false=>none
theorem abX(a:BR)(b:BR)(c:BR){rX:List RV}(hX:∃nX,Am (EW.k nX) a b c=some rX):EW.Res 169 [.d tR a,.d tR b,.d tR c] rX:=aO (t:=fun k=>Am k a b c) (fun k=>show go2 Tryz.prog ft tys qq [] k 4000 (az 169 [.d tR a,.d tR b,.d tR c]) (.node 0)=Am k a b c by kernel_rfl) hX
theorem Vf(a:BR)(b:BR)(c:BR)(h:ok Rat 240000 a∧ok Rat 170000 b∧ok Rat 30000 c):Con Tryz.prog 169 [.d tR a,.d tR b,.d tR c] [.d (.int .i64) (eD (aa a) (aa b) (aa c))]:=by
 refine Ctx.Res.con (C:=EW) (au pP) (abX _ _ _ ⟨0,?_⟩) (fn:=Tryz.f169) (by kernel_rfl) (by kernel_rfl)
 obtain⟨ha,hb,hc⟩:=h
 obtain⟨a,rfl,ba⟩:=aS ha
 obtain⟨b,rfl,bb⟩:=aS hb
 obtain⟨c,rfl,bc⟩:=aS hc
 unfold Am
 simp only[aj,aD,aw,aX,Bool.decide_and,Bool.and_self,Nat.reduceAdd,Nat.reduceLeDiff,iV]
 exact Dm _ _ _
noncomputable def Gc:Ctx:=⟨Tryz.prog,ft,tys,qq,[]⟩
noncomputable def zE(_k:KT)(a:BO3)(b:BO3):Option (List RV):=match decide (okR a.1∧okR b.1)with|true=>(match decide (okR b.2.1)with|true=>(match decide (bh (0:Int))with|true=>some [RV.d tQ (hid (ae (aa a.1-aa b.1)),(a.2.1,(hid (ae (-aa b.2.1)),(hid (ae ((0:Int):Rat)),(a.2.2,b.2.2)))))]|false=>none)|false=>none)|false=>none
theorem abr(a:BO3)(b:BO3){rX:List RV}(hX:∃nX,zE (Gc.k nX) a b=some rX):Gc.Res 208 [.d tO a,.d tO b] rX:=aO (t:=fun k=>zE k a b) (fun k=>show go2 Tryz.prog ft tys qq [] k 4000 (az 208 [.d tO a,.d tO b]) (.node 0)=zE k a b by kernel_rfl) hX
theorem Ve(a:BO3)(b:BO3)(h:ok Rt 15000 a∧ok Rt 15000 b):Con Tryz.prog 208 [.d tO a,.d tO b] [.d tQ (enc (suT (dec a) (dec b)))]:=by
 refine Ctx.Res.con (C:=Gc) (au pP) (abr _ _ ⟨0,?_⟩) (fn:=Tryz.f208) (by kernel_rfl) (by kernel_rfl)
 obtain⟨ha,hb⟩:=h
 obtain⟨a,rfl,ba⟩:=aS ha
 obtain⟨b,rfl,bb⟩:=aS hb
 unfold zE
 simp only[aj,ak,aF,aG,aD,aw,aX,Bool.decide_and,Bool.and_self,Nat.reduceLeDiff]
 try rfl
def yv:aL:=spN true true [tR,tR,tR] (fun x=>decide (ok Rat 240000 x.1∧ok Rat 170000 x.2.1∧ok Rat 30000 x.2.2.1)) (fun x=>[RV.d (.int .i64) (eD (aa x.1) (aa x.2.1) (aa x.2.2.1))])
theorem Mm:af Tryz.prog 169=true∧ao Tryz.prog 169 yv∧∀g,yv.mut_=some g→aK Tryz.prog 169 g:=aq (by kernel_rfl) fun x h=>Vf x.1 x.2.1 x.2.2.1 (of_decide_eq_true h)
noncomputable def xM:aL:=spN false true [tO,tO] (fun x=>decide (ok Rt 15000 x.1∧ok Rt 15000 x.2.1)) (fun x=>[RV.d tQ (hid (enc (suT (dec x.1) (dec x.2.1))))])
theorem L4:af Tryz.prog 208=true∧ao Tryz.prog 208 xM∧∀g,xM.mut_=some g→aK Tryz.prog 208 g:=aq (by kernel_rfl) fun x h=>by simp only[aj];exact Ve x.1 x.2.1 (of_decide_eq_true h)
noncomputable def An:Env:=(169,yv)::(208,xM)::qq
theorem u9:EnvAll Tryz.prog An:=⟨Mm,L4,pP⟩
noncomputable def Ga:Ctx:=⟨Tryz.prog,ft,tys,An,[]⟩
noncomputable def Ba(_k:KT)(q:BQ):Option (List RV):=let y1:=aa q.2.2.2.2.1;let y2:=aQ (aa q.2.2.2.2.2) 0;let y3:=eD (aa q.1) (aa q.2.1) y1;let y4:=IntKind.i64.wrap ((eD (aa q.2.2.1) (aa q.2.2.2.1) y1)*y2);let y5:Option (List RV):=match y3==0 with|true=>some [RV.d (.int .i64) y4]|false=>some [RV.d (.int .i64) y3];let y6:=hid (ae (aa q.2.2.2.1*aa q.2.2.2.1));let y7:=hid (ae (aa q.2.2.1*aa q.2.2.1));let y8:=hid (ae (aa y6*aa q.2.2.2.2.1));let y9:=hid (ae (aa y7+aa y8));let y10:=hid (ae (aa q.2.1*aa q.2.1));let y11:=hid (ae (aa q.1*aa q.1));let y12:=hid (ae (aa y10*aa q.2.2.2.2.1));let y13:=hid (ae (aa y11+aa y12));let y14:=hid (ae (aa q.2.2.2.2.2*aa y9));let y15:=hid (ae (aa q.2.2.1*aa q.2.2.2.1));let y16:=hid (ae (aa q.1*aa q.2.1));let y17:=hid (ae (aa q.2.2.2.2.2*aa y15));let y18:=hid (ae (aa y16-aa y17));let y19:=hid (ae (aa y13-aa y14));let y20:=hid (ae (aa y18+aa y18));match decide (okR q.2.2.2.2.1)with|true=>(match decide ((aQ y1 0)<0)with|true=>some [RV.d (.int .i64) 0]|false=>(match decide (okR q.2.2.2.2.2)with|true=>(match decide (y2<0)with|true=>some [RV.d (.int .i64) 0]|false=>(match decide (ok Rat 240000 q.1∧ok Rat 170000 q.2.1∧ok Rat 30000 q.2.2.2.2.1)with|true=>(match decide (ok Rat 240000 q.2.2.1∧ok Rat 170000 q.2.2.2.1∧ok Rat 30000 q.2.2.2.2.1)with|true=>(match decide (okR q.2.2.2.2.2)with|true=>(match y3==0 with|true=>y5|false=>(match y4==0 with|true=>y5|false=>(match y3==y4 with|true=>y5|false=>(match decide (okR q.2.2.1∧okR q.2.2.1)with|true=>(match decide (okR q.2.2.2.1∧okR q.2.2.2.1)with|true=>(match decide (okR y6∧okR q.2.2.2.2.1)with|true=>(match decide (okR y7∧okR y8)with|true=>(match decide (okR q.2.2.2.2.2∧okR y9)with|true=>(match decide (okR q.1∧okR q.1)with|true=>(match decide (okR q.2.1∧okR q.2.1)with|true=>(match decide (okR y10∧okR q.2.2.2.2.1)with|true=>(match decide (okR y11∧okR y12)with|true=>(match decide (okR y13∧okR y14)with|true=>(match decide (okR q.1∧okR q.2.1)with|true=>(match decide (okR q.2.2.1∧okR q.2.2.2.1)with|true=>(match decide (okR q.2.2.2.2.2∧okR y15)with|true=>(match decide (okR y16∧okR y17)with|true=>(match decide (okR y18∧okR y18)with|true=>(match decide (ok Rat 240000 y19∧ok Rat 170000 y20∧ok Rat 30000 q.2.2.2.2.1)with|true=>some [RV.d (.int .i64) (IntKind.i64.wrap (y3*(eD (aa y19) (aa y20) y1)))]|false=>none)|false=>none)|false=>none)|false=>none)|false=>none)|false=>none)|false=>none)|false=>none)|false=>none)|false=>none)|false=>none)|false=>none)|false=>none)|false=>none)|false=>none)|false=>none))))|false=>none)|false=>none)|false=>none))|false=>none))|false=>none
theorem aad(q:BQ){rX:List RV}(hX:∃nX,Ba (Ga.k nX) q=some rX):Ga.Res 207 [.d tQ q] rX:=aO (t:=fun k=>Ba k q) (fun k=>show go2 Tryz.prog ft tys An [] k 4000 (az 207 [.d tQ q]) (.node 0)=Ba k q by kernel_rfl) hX
theorem TH(q:BQ)(h:okQ q):Con Tryz.prog 207 [.d tQ q] [.d (.int .i64) (sgQ (dec q))]:=by
 refine Ctx.Res.con (C:=Ga) (au u9) (aad _ ⟨0,?_⟩) (fn:=Tryz.f207) (by kernel_rfl) (by kernel_rfl)
 obtain⟨A,B,C,D,M,N,rfl,bA,bB,bC,bD,bM,bN,hM,hN⟩:=Hw h
 rw[ak]
 unfold Ba
 simp only[aj,aR,aD,aw,aC,aX,Bool.decide_and,Bool.and_self,Nat.reduceAdd,Nat.reduceLeDiff,n8,oJ,aN,decide_eq_false (show ¬M<0 by grind),decide_eq_false (show ¬N<0 by grind)]
 refine(Dm _ _ _).trans ?_
 unfold sgQ xm
 rw[decide_eq_false (show ¬M<0 by grind),decide_eq_false (show ¬N<0 by grind)]
 dsimp only[Bool.or_false,cond_false]
 rw[show A*B-N*(C*D)+(A*B-N*(C*D))=2*(A*B-N*(C*D)) by grind]
 rfl
def zw:aL:=spN true true [tQ] (fun x=>decide (okQ x.1)) (fun x=>[RV.d (.int .i64) (sgQ (dec x.1))])
theorem LZ:af Tryz.prog 207=true∧ao Tryz.prog 207 zw∧∀g,zw.mut_=some g→aK Tryz.prog 207 g:=aq (by kernel_rfl) fun x h=>TH x.1 (of_decide_eq_true h)
noncomputable def pL:Env:=(207,zw)::An
theorem qo:EnvAll Tryz.prog pL:=⟨LZ,u9⟩
noncomputable def EF:Ctx:=⟨Tryz.prog,ft,tys,pL,[]⟩
noncomputable def Ak(_k:KT)(a:BO3)(b:BO3):Option (List RV):=match decide (ok Rt 15000 a∧ok Rt 15000 b)with|true=>(match decide (okQ (hid (enc (suT (dec a) (dec b)))))with|true=>some [RV.d (.int .i64) (sgQ (dec (hid (enc (suT (dec a) (dec b))))))]|false=>none)|false=>none
theorem aa8(a:BO3)(b:BO3){rX:List RV}(hX:∃nX,Ak (EF.k nX) a b=some rX):EF.Res 119 [.d tO a,.d tO b] rX:=aO (t:=fun k=>Ak k a b) (fun k=>show go2 Tryz.prog ft tys pL [] k 4000 (az 119 [.d tO a,.d tO b]) (.node 0)=Ak k a b by kernel_rfl) hX
theorem TY(a:BO3)(b:BO3)(h:okT 15000 a∧okT 15000 b):Con Tryz.prog 119 [.d tO a,.d tO b] [.d (.int .i64) (bK (dec a) (dec b))]:=by
 refine Ctx.Res.con (C:=EF) (au qo) (aa8 _ _ ⟨0,?_⟩) (fn:=Tryz.f119) (by kernel_rfl) (by kernel_rfl)
 obtain⟨ha,hb⟩:=h
 obtain⟨a,rfl,ba,ra⟩:=fJ ha
 obtain⟨b,rfl,bb,rb⟩:=fJ hb
 have na:Nn a.2.2:=inferInstance
 have nb:Nn b.2.2:=inferInstance
 have e:decide (okQ (enc (suT a b)))=true:=Zq (by decide) (by decide) (by decide) (by decide) (by decide) (by decide)
 unfold Ak
 simp only[aj,ak,okd,Bool.decide_and,Bool.and_self,Nat.reduceLeDiff,e]
 rfl
noncomputable def EH:Ctx:=⟨Tryz.prog,ft,tys,pL,[]⟩
noncomputable def AU(_k:KT)(a:BO3)(b:BR):Option (List RV):=match decide (okR a.1∧okR b)with|true=>(match decide (ok Rat 240000 (hid (ae (aa a.1-aa b)))∧ok Rat 170000 a.2.1∧ok Rat 30000 a.2.2)with|true=>some [RV.d (.int .i64) (eD (aa (hid (ae (aa a.1-aa b)))) (aa a.2.1) (aa a.2.2))]|false=>none)|false=>none
theorem abT(a:BO3)(b:BR){rX:List RV}(hX:∃nX,AU (EH.k nX) a b=some rX):EH.Res 85 [.d tO a,.d tR b] rX:=aO (t:=fun k=>AU k a b) (fun k=>show go2 Tryz.prog ft tys pL [] k 4000 (az 85 [.d tO a,.d tR b]) (.node 0)=AU k a b by kernel_rfl) hX
theorem Q0(a:BO3)(b:BR)(h:okT 15000 a∧ok Rat 15000 b):Con Tryz.prog 85 [.d tO a,.d tR b] [.d (.int .i64) (d9 (dec a) (aa b))]:=by
 refine Ctx.Res.con (C:=EH) (au qo) (abT _ _ ⟨0,?_⟩) (fn:=Tryz.f85) (by kernel_rfl) (by kernel_rfl)
 obtain⟨ha,hb⟩:=h
 obtain⟨a,rfl,ba,ra⟩:=fJ ha
 obtain⟨b,rfl,bb⟩:=aS hb
 unfold AU
 simp only[aj,ak,aF,aG,aD,aw,aC,aX,Bool.decide_and,Bool.and_self,Nat.reduceAdd,Nat.reduceLeDiff]
 try rfl
def nT:aL:=spN true true [tO,tO] (fun x=>decide (okT 15000 x.1∧okT 15000 x.2.1)) (fun x=>[RV.d (.int .i64) (bK (dec x.1) (dec x.2.1))])
theorem ph:af Tryz.prog 119=true∧ao Tryz.prog 119 nT∧∀g,nT.mut_=some g→aK Tryz.prog 119 g:=aq (by kernel_rfl) fun x h=>TY x.1 x.2.1 (of_decide_eq_true h)
noncomputable def E0:Env:=(119,nT)::pL
theorem Nj:EnvAll Tryz.prog E0:=⟨ph,qo⟩
noncomputable def Fp:Ctx:=⟨Tryz.prog,ft,tys,E0,[]⟩
noncomputable def yu(_k:KT)(a:BO3)(b:BO3):Option (List RV):=match decide (okT 15000 a∧okT 15000 b)with|true=>some [RV.d .bool ((bK (dec a) (dec b))==0)]|false=>none
theorem abf(a:BO3)(b:BO3){rX:List RV}(hX:∃nX,yu (Fp.k nX) a b=some rX):Fp.Res 63 [.d tO a,.d tO b] rX:=aO (t:=fun k=>yu k a b) (fun k=>show go2 Tryz.prog ft tys E0 [] k 4000 (az 63 [.d tO a,.d tO b]) (.node 0)=yu k a b by kernel_rfl) hX
theorem Vl(a:BO3)(b:BO3)(h:okT 15000 a∧okT 15000 b):Con Tryz.prog 63 [.d tO a,.d tO b] [.d .bool (bK (dec a) (dec b)==0)]:=by
 refine Ctx.Res.con (C:=Fp) (au Nj) (abf _ _ ⟨0,?_⟩) (fn:=Tryz.f63) (by kernel_rfl) (by kernel_rfl)
 unfold yu
 rw[dT h]
noncomputable def lM:aL:=spN false true [tR] (fun x=>decide (okR x.1)) (fun x=>[RV.d tR (hid (ae (-aa x.1)))])
theorem jM:af Tryz.prog 202=true∧ao Tryz.prog 202 lM∧∀g,lM.mut_=some g→aK Tryz.prog 202 g:=aq (by kernel_rfl) fun x h=>by simp only[aj];exact JF x.1 (of_decide_eq_true h)
noncomputable def v8:Env:=[(76,fS),(149,iD),(147,gQ),(148,gg),(83,fP),(99,je),(202,lM)]
theorem ua:EnvAll Tryz.prog v8:=⟨d7,fI,eO,dY,ec,gH,jM,trivial⟩
noncomputable def RH:Ctx:=⟨Tryz.prog,ft,tys,v8,[]⟩
noncomputable def Jp(_k:KT)(a:BR)(b:BR)(c:BR):Option (List RV):=match decide (okR a)with|true=>(match decide (okR b)with|true=>(match decide (okR c)with|true=>(match(IntKind.i64.wrap ((aQ (aa b) 0)*(aQ (aa c) 0)))==0 with|true=>some [RV.d (.int .i64) (aQ (aa a) 0)]|false=>(match(aQ (aa a) 0)==(IntKind.i64.wrap ((aQ (aa b) 0)*(aQ (aa c) 0)))with|true=>some [RV.d (.int .i64) (aQ (aa a) 0)]|false=>(match(aQ (aa a) 0)==0 with|true=>some [RV.d (.int .i64) (IntKind.i64.wrap ((aQ (aa b) 0)*(aQ (aa c) 0)))]|false=>(match decide (okR a∧okR a)with|true=>(match decide (okR b∧okR b)with|true=>(match decide (okR (hid (ae (aa b*aa b)))∧okR c)with|true=>(match decide (okR (hid (ae (aa a*aa a)))∧okR (hid (ae (aa (hid (ae (aa b*aa b)))*aa c))))with|true=>some [RV.d (.int .i64) (IntKind.i64.wrap ((aQ (aa a) 0)*(aQ (aa (hid (ae (aa a*aa a)))) (aa (hid (ae (aa (hid (ae (aa b*aa b)))*aa c)))))))]|false=>none)|false=>none)|false=>none)|false=>none))))|false=>none)|false=>none)|false=>none
theorem adt(a:BR)(b:BR)(c:BR){rX:List RV}(hX:∃nX,Jp (RH.k nX) a b c=some rX):RH.Res 219 [.d tR a,.d tR b,.d tR c] rX:=aO (t:=fun k=>Jp k a b c) (fun k=>show go2 Tryz.prog ft tys v8 [] k 4000 (az 219 [.d tR a,.d tR b,.d tR c]) (.node 0)=Jp k a b c by kernel_rfl) hX
theorem X8(a:BR)(b:BR)(c:BR)(h:ok Rat 240000 a∧ok Rat 170000 b∧ok Rat 30000 c):Con Tryz.prog 219 [.d tR a,.d tR b,.d tR c] [.d (.int .i64) (eD (aa a) (aa b) (aa c))]:=by
 refine Ctx.Res.con (C:=RH) (au ua) (adt _ _ _ ⟨0,?_⟩) (fn:=Tryz.f219) (by kernel_rfl) (by kernel_rfl)
 obtain⟨ha,hb,hc⟩:=h
 obtain⟨a,rfl,ba⟩:=aS ha
 obtain⟨b,rfl,bb⟩:=aS hb
 obtain⟨c,rfl,bc⟩:=aS hc
 unfold Jp
 simp only[aj,aD,aw,aX,Bool.decide_and,Bool.and_self,Nat.reduceAdd,Nat.reduceLeDiff,iV]
 exact zS _ _ _
noncomputable def Qg:Ctx:=⟨Tryz.prog,ft,tys,v8,[]⟩
noncomputable def Jy(_k:KT)(a:BR):Option (List RV):=match decide (okR a)with|true=>(match decide (okR (hid (ae (-aa a))))with|true=>some [RV.d tR (hid (ae (-aa (hid (ae (-aa a))))))]|false=>none)|false=>none
theorem acy(a:BR){rX:List RV}(hX:∃nX,Jy (Qg.k nX) a=some rX):Qg.Res 260 [.d tR a] rX:=aO (t:=fun k=>Jy k a) (fun k=>show go2 Tryz.prog ft tys v8 [] k 4000 (az 260 [.d tR a]) (.node 0)=Jy k a by kernel_rfl) hX
theorem Xn(a:BR)(h:okR a):Con Tryz.prog 260 [.d tR a] [.d tR (ae (aa a))]:=by
 refine Ctx.Res.con (C:=Qg) (au ua) (acy _ ⟨0,?_⟩) (fn:=Tryz.f260) (by kernel_rfl) (by kernel_rfl)
 have ha:=h
 obtain⟨a,rfl,ba⟩:=dD ha
 unfold Jy
 simp only[aj,aw,aX,Nat.reduceLeDiff,Rat.neg_neg]
def nH:aL:=spN true true [tR,tR,tR] (fun x=>decide (ok Rat 240000 x.1∧ok Rat 170000 x.2.1∧ok Rat 30000 x.2.2.1)) (fun x=>[RV.d (.int .i64) (eD (aa x.1) (aa x.2.1) (aa x.2.2.1))])
theorem lD:af Tryz.prog 219=true∧ao Tryz.prog 219 nH∧∀g,nH.mut_=some g→aK Tryz.prog 219 g:=aq (by kernel_rfl) fun x h=>X8 x.1 x.2.1 x.2.2.1 (of_decide_eq_true h)
noncomputable def yX:aL:=spN false true [tR] (fun x=>decide (okR x.1)) (fun x=>[RV.d tR (hid (ae (aa x.1)))])
theorem Dk:af Tryz.prog 260=true∧ao Tryz.prog 260 yX∧∀g,yX.mut_=some g→aK Tryz.prog 260 g:=aq (by kernel_rfl) fun x h=>by simp only[aj];exact Xn x.1 (of_decide_eq_true h)
noncomputable def P2:Env:=(219,nH)::(260,yX)::v8
theorem UV:EnvAll Tryz.prog P2:=⟨lD,Dk,ua⟩
noncomputable def O9:Ctx:=⟨Tryz.prog,ft,tys,P2,[]⟩
noncomputable def Lj(_k:KT)(a:BO3)(b:BO3):Option (List RV):=match decide (okR a.1∧okR b.1)with|true=>(match decide (okR a.2.1)with|true=>(match decide (okR b.2.1)with|true=>(match decide (bh (0:Int))with|true=>(match decide (okR a.2.2)with|true=>(match decide (okR b.2.2)with|true=>some [RV.d tQ (hid (ae (aa a.1-aa b.1)),(hid (ae (aa a.2.1)),(hid (ae (-aa b.2.1)),(hid (ae ((0:Int):Rat)),(hid (ae (aa a.2.2)),hid (ae (aa b.2.2)))))))]|false=>none)|false=>none)|false=>none)|false=>none)|false=>none)|false=>none
theorem ado(a:BO3)(b:BO3){rX:List RV}(hX:∃nX,Lj (O9.k nX) a b=some rX):O9.Res 220 [.d tO a,.d tO b] rX:=aO (t:=fun k=>Lj k a b) (fun k=>show go2 Tryz.prog ft tys P2 [] k 4000 (az 220 [.d tO a,.d tO b]) (.node 0)=Lj k a b by kernel_rfl) hX
theorem VI(a:BO3)(b:BO3)(h:ok Rt 15000 a∧ok Rt 15000 b):Con Tryz.prog 220 [.d tO a,.d tO b] [.d tQ (enc (suT (dec a) (dec b)))]:=by
 refine Ctx.Res.con (C:=O9) (au UV) (ado _ _ ⟨0,?_⟩) (fn:=Tryz.f220) (by kernel_rfl) (by kernel_rfl)
 obtain⟨ha,hb⟩:=h
 obtain⟨a,rfl,ba⟩:=aS ha
 obtain⟨b,rfl,bb⟩:=aS hb
 unfold Lj
 simp only[aj,ak,aF,aG,aD,aw,aX,Bool.decide_and,Bool.and_self,Nat.reduceLeDiff]
 try rfl
end Go.Proofs.YtlahabkjhgkkjaaGreat
