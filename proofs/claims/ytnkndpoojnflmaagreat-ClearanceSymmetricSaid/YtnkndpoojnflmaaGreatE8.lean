/- integer: divide, its contract. -/
import Derived.Test.YtnkndpoojnflmaaGreatE7
noncomputable section
namespace Go.Proofs.YtnkndpoojnflmaaGreat
open Go.RowKit Go.IntKind
theorem alv:type_of% @Rat.mul_pos:=@Rat.mul_pos
theorem alF:type_of% @List.length_pos_iff:=@List.length_pos_iff
theorem al5:type_of% @Rat.num_divInt_den:=@Rat.num_divInt_den
theorem ama:type_of% @beq_iff_eq:=@beq_iff_eq
theorem amd:type_of% @Int.eq_ofNat_of_zero_le:=@Int.eq_ofNat_of_zero_le
theorem ami:type_of% @Quotient.inductionOn:=@Quotient.inductionOn
theorem amq:type_of% @Rat.mul_comm:=@Rat.mul_comm
theorem amD:type_of% @Int.natAbs_natCast:=@Int.natAbs_natCast
theorem amU:type_of% @Int.lt_or_lt_of_ne:=@Int.lt_or_lt_of_ne
theorem am1:type_of% @Rat.divInt_eq_div:=@Rat.divInt_eq_div
theorem am4:type_of% @Bool.decide_and:=@Bool.decide_and
theorem anf:type_of% @Nat.gcd_comm:=@Nat.gcd_comm
theorem ang:type_of% @Quotient.inductionOn₃:=@Quotient.inductionOn₃
theorem anx:type_of% @Rat.divInt_ofNat:=@Rat.divInt_ofNat
theorem anz:type_of% @Quotient.sound:=@Quotient.sound
theorem anB:type_of% @Rat.sub_eq_add_neg:=@Rat.sub_eq_add_neg
theorem anJ:type_of% @Nat.mul_ne_zero:=@Nat.mul_ne_zero
theorem anK:type_of% @Int.mul_ne_zero:=@Int.mul_ne_zero
theorem anL:type_of% @Rat.divInt_mul_divInt:=@Rat.divInt_mul_divInt
theorem anM:type_of% @Rat.div_def:=@Rat.div_def
theorem anN:type_of% @Quotient.inductionOn₂:=@Quotient.inductionOn₂
theorem anV:type_of% @Int.natAbs_mul:=@Int.natAbs_mul
theorem an6:type_of% @Rat.num_mkRat:=@Rat.num_mkRat
theorem an7:type_of% @Rat.den_mkRat:=@Rat.den_mkRat
theorem aoj:type_of% @Rat.inv_pos:=@Rat.inv_pos
def o8(a b:List Int):Prop:=(Lim a∧a.length≤100000000)∧(Lim b∧b.length≤100000000)∧0<val b
instance (a b:List Int):Decidable (o8 a b):=by unfold o8;infer_instance
structure aec (a b q r:List Int):Prop where
 lq:Lim q
 lr:Lim r
 sq:q.length≤200000000
 sr:r.length≤200000000
 q:val q=val a/val b
 r:val r=val a%val b
theorem vY(x:Int):val [x]=x:=by simp[val]
theorem uh{l:List Int}(h:can l){m:Nat}(hl:l.length=m+1):1≤l[m]:=by
 have h2:=h.2
 have h1:=h.1.get (show m<l.length by omega)
 grind
set_option maxHeartbeats 1000000 in
theorem Gf(a b:List Int)(h:o8 a b):∃q r,aec a b q r∧Con Tryz.prog 340 [.d aom a,.d aom b] [.d aom q,.d aom r]:=by
 obtain⟨⟨la,sa⟩,⟨lb,sb⟩,hb⟩:=h
 have ha:aQ a:=⟨la,by omega⟩
 have hb':aQ b:=⟨lb,by omega⟩
 have va:=bh (val a).toNat
 have vb:=bh (val b).toNat
 have na:=aP la
 have va':val (ag (val a).toNat)=val a:=by omega
 have vb':val (ag (val b).toNat)=val b:=by omega
 have lna:=j7 la
 have lnb:=j7 lb
 have ca:=eo (val a).toNat
 have cb:=eo (val b).toNat
 have hla:aQ (ag (val a).toNat):=⟨ca.1,by omega⟩
 have hlb:aQ (ag (val b).toNat):=⟨cb.1,by omega⟩
 have go:∀{q r},gN.Res 340 [.d aom a,.d aom b] [.d aom q,.d aom r]→Con Tryz.prog 340 [.d aom a,.d aom b] [.d aom q,.d aom r]:=fun hr=>fI JV hr
 have hb0:ag (val b).toNat≠[]:=fun e=>by rw[ia]at e;omega
 by_cases h1:(ag (val b).toNat).length=1
 ·have t1:=uh cb (m:=0) h1
  have t2:=cb.1.get (show 0<(ag (val b).toNat).length by omega)
  have e0:(ag (val b).toNat)[0]=val b:=by
   obtain⟨x,hx⟩:=List.length_eq_one_iff.1 h1
   have:=vb'
   rw[hx,vY]at this
   simp[hx,this]
  have hq0:0≤val a/val b:=al4 na (by omega)
  have hq1:val a/val b≤val a:=amW _ na
  have hr0:=al9 (val a) (show val b≠0 by omega)
  have hr1:=alM (val a) hb
  have hal:=bZ ca.1
  refine⟨dig (ag (val a).toNat).length (val a/val b),[val a%val b],⟨nU _ _,Lim.cons ⟨hr0,by omega⟩ Lim.nil,by rw[jm];omega,by simp,iy _ _ hq0 (by omega),vY _⟩,go (MQ _ _ ⟨0,?_⟩)⟩
  unfold Jk
  rw[ak3 ha,ak3 hb',h1,zT,ak4 (show 0<(ag (val b).toNat).length by omega),e0]
  dsimp only
  rw[ak3 (show Ex (ag (val a).toNat) (val b) from⟨hla,by omega,by omega⟩),va']
  rfl
 have hlen:2≤(ag (val b).toNat).length:=by
  rcases alJ (ag (val b).toNat).length 2 with h|h
  ·exfalso
   have:(ag (val b).toNat).length≠0:=fun e=>hb0 (amV e)
   omega
  ·exact h
 by_cases hlt:val a<val b
 ·refine⟨[],ag (val a).toNat,⟨Lim.nil,ca.1,by simp,by omega,?_,?_⟩,go (MQ _ _ ⟨0,?_⟩)⟩
  ·rw[aml na hlt];rfl
  ·rw[anl na hlt];exact va'
  ·unfold Jk
   rw[ak3 ha,ak3 hb',show(((ag (val b).toNat).length:Int)==1)=false by simp;omega,ak3 (show aQ (ag (val a).toNat)∧aQ (ag (val b).toNat) from⟨hla,hlb⟩),va',vb',db hlt,ak3 (show(ag (val a).toNat).length*4≤140737488355328∧(ag (val a).toNat).length≤140737488355328 by omega)]
   rfl
 ·obtain⟨m,hm⟩:∃m,(ag (val b).toNat).length=m+2:=⟨(ag (val b).toNat).length-2,by omega⟩
  have hxm:m+1<(ag (val b).toNat).length:=by omega
  have t1:=uh cb (m:=m+1) hm
  have t2:=cb.1.get hxm
  generalize hx2:(ag (val b).toNat)[m+1]=x2 at t1 t2
  obtain⟨s1,s2,s3,s4⟩:=NR t1 t2.2
  have esc:u32.wrap (u64.wrap (Int.tdiv 1000000000 (u64.wrap ((u64.wrap x2)+1))))=1000000000/(x2+1):=by
   rw[bj (x:=x2) (by omega) (by omega),bj (x:=x2+1) (by omega) (by omega),ii (by omega),bj (x:=1000000000/(x2+1)) (by omega) (by omega),cY (x:=1000000000/(x2+1)) (by omega) (by omega)]
  generalize hsc:1000000000/(x2+1)=sc at s1 s2 s3 s4 esc
  have hsl:aQ [sc]:=⟨Lim.cons ⟨by omega,by omega⟩ Lim.nil,by simp⟩
  have hbl:=bZ cb.1
  rw[vb',hm]at hbl
  have hP:=cp (m+1)
  have hbtop:=aX hxm
  rw[amj (by omega),vb',hx2]at hbtop
  have hbt0:=aP (cb.1.take (m+1))
  have hbt1:=bZ (cb.1.take (m+1))
  rw[alP,alR (by omega)]at hbt1
  have hVhi:val b*sc<pw (m+2):=by
   have e1:val b*sc<(pw (m+1)*(x2+1))*sc:=Int.mul_lt_mul_of_pos_right (by rw[aoi,ans];omega) (by omega)
   have e2:(pw (m+1)*(x2+1))*sc=pw (m+1)*((x2+1)*sc):=Int.mul_assoc _ _ _
   have e3:pw (m+1)*((x2+1)*sc)≤pw (m+1)*1000000000:=alb s3 (alK hP)
   rw[b9]
   omega
  have hVlo:pw (m+1)*500000000≤val b*sc:=by
   have e1:pw (m+1)*x2*sc≤val b*sc:=alf (by omega) (by omega)
   have e2:pw (m+1)*x2*sc=pw (m+1)*(x2*sc):=Int.mul_assoc _ _ _
   have e3:pw (m+1)*500000000≤pw (m+1)*(x2*sc):=alb s4 (alK hP)
   omega
  have hV0:0<val b*sc:=Int.mul_pos hb (by omega)
  have edv:val (dig (m+2+1) (val b*sc))=val b*sc:=iy _ _ (by omega) (by rw[b9];omega)
  obtain⟨v,hv⟩:∃v,ag (val b*sc).toNat=v:=⟨_,rfl⟩
  have cv:=eo (val b*sc).toNat
  have vv:=bh (val b*sc).toNat
  rw[hv]at cv vv
  have hvv:val v=val b*sc:=by omega
  have hvl:v.length=m+2:=by
   have h1:v.length≤m+2:=by rw[←hv];exact dt (by omega)
   have h2:m+1<v.length:=by rw[←hv];exact Bt (by omega)
   omega
  have htop:500000000≤v[m+1]:=by
   rcases alz v[m+1] 500000000 with hc|hc
   ·exfalso
    have e1:=aX (l:=v) (n:=m+1) (by omega)
    rw[amj (by omega),hvv]at e1
    have e2:=bZ (cv.1.take (m+1))
    rw[alP,alR (by omega)]at e2
    have e3:=alb (show v[m+1]≤499999999 by omega) (alK hP)
    omega
   ·exact hc
  have hal:=bZ ca.1
  rw[va']at hal
  have hA0:0≤val a*sc:=al1 na (by omega)
  have hA1:val a*sc<pw ((ag (val a).toNat).length+1):=by
   have e1:val a*sc≤pw (ag (val a).toNat).length*sc:=alf (by omega) (by omega)
   have e2:pw (ag (val a).toNat).length*sc<pw (ag (val a).toNat).length*1000000000:=Int.mul_lt_mul_of_pos_left (by omega) (cp _)
   rw[b9]
   omega
  have lab:m+2≤(ag (val a).toNat).length:=by
   rw[←hm]
   rcases alJ (ag (val a).toNat).length (ag (val b).toNat).length with hc|hc
   ·have:=wd hc;omega
   ·exact hc
  generalize hlA:(ag (val a).toNat).length=L at*
  have hdl:(dig (L+1) (val a*sc)++[0]).length=L+2:=by simp[jm]
  have hdv:val (dig (L+1) (val a*sc)++[0])=val a*sc:=by rw[dA,iy _ _ hA0 hA1];simp[val]
  have hmul:=hvv
  obtain⟨q,r,⟨f1,f2,f3,f4,f5,f6⟩,n,hrun⟩:=MN b x2 v m hm (by rw[esc,hm,vb',vY];simp only[alt];rw[edv];exact hv) cv.1 hvl sc esc s1 s2 htop (val a*sc) (L-m) (List.replicate (L-m) 0) (dig (L+1) (val a*sc)++[0])
   (Lim.rep _) ((nU _ _).append (Lim.cons (by decide) Lim.nil)) (by rw[hdl];simp;omega) (by rw[hdl];omega) (by simp) (by rw[gR,hdv];omega) (fun j hj _=>by simp) (by
    rw[hdv,hvv]
    have e1:pw (m+1)*500000000*pw (L-m)≤val b*sc*pw (L-m):=alf hVlo (alK (cp _))
    have e2:pw (m+1)*500000000*pw (L-m)=pw (L+1)*500000000:=by
     rw[show L+1=m+1+(L-m) by omega,fD (m+1) (L-m),Int.mul_right_comm]
    have:=cp (L+1)
    omega)
  have hq:val a*sc/(val b*sc)=val a/val b:=Int.mul_ediv_mul_of_pos_left _ _ (by omega)
  have hr:val a*sc%(val b*sc)/sc=val a%val b:=by
   rw[amR (val a),amR (val b),Int.mul_emod_mul_of_pos _ _ (by omega),amR]
   exact Int.mul_ediv_cancel _ (by omega)
  rw[hvv]at f5 f6
  rw[hq]at f5
  rw[hr]at f6
  refine⟨q,r,⟨f1,f2,by rw[f3];simp;omega,by omega,f5,f6⟩,go (MQ _ _ ⟨n,?_⟩)⟩
  unfold Jk
  have e1:i64.wrap (((m+2:Nat):Int)-1)=((m+1:Nat):Int):=by rw[aS (by omega) (by omega)];omega
  have e2:i64.wrap (((L+2:Nat):Int)-((m+2:Nat):Int))=((L-m:Nat):Int):=by rw[aS (by omega) (by omega)];omega
  have e3:i64.wrap (((L-m:Nat):Int)-1)=((L-m:Nat):Int)-1:=aS (by omega) (by omega)
  rw[ak3 ha,ak3 hb',hm,show(((m+2:Nat):Int)==1)=false by simp;omega,ak3 (show aQ (ag (val a).toNat)∧aQ (ag (val b).toNat) from⟨hla,hlb⟩),va',vb',show decide (cr (val a) (val b)<0)=false by
   rcases alz (val b) (val a)with hc|hc
   ·rw[cL hc];rfl
   ·rw[show val a=val b by omega,dW];rfl,e1,ao (ag (val b).toNat) (m+1),ak4 hxm,hx2]
  dsimp only
  rw[esc,bj (x:=x2) (by omega) (by omega),bj (x:=x2+1) (by omega) (by omega),ak5 (show ¬x2+1=0 by omega),ak3 (show aQ (ag (val a).toNat)∧aQ [sc] from⟨hla,hsl⟩),ak3 (show aQ (ag (val b).toNat)∧aQ [sc] from⟨hlb,hsl⟩),vY,hlA]
  rw[alt,alt,hdl,jm (L+1)]
  rw[ak3 (show(L+1+1)*4≤140737488355328∧L+1+1≤140737488355328 by omega),ak3 (show aQ (dig (m+2+1) (val b*sc)) from jF (by omega) _),e2,rX (by omega),aB,e3]
  exact hrun
abbrev BI:=Bool×List Int
def okI(x:BI):Prop:=can x.2∧(x.1=true→x.2≠[])∧x.2.length≤1000000
instance (x:BI):Decidable (okI x):=by unfold okI;infer_instance
theorem bO(x:BI):ae x=ce x.1 (val x.2):=rfl
theorem io{x:BI}(h:okI x):x=ai (ae x):=by
 obtain⟨h1,h2,h3⟩:=h
 grind [bO,mM,oS,val,eU]
def szI(z:Int):Nat:=(ag z.natAbs).length
theorem aT{z:Int}(h:szI z≤1000000):okI (ai z):=by
 refine⟨eo _,fun e=>?_,h⟩
 grind [ai,ia]
theorem fu{z:Int}{k:Nat}(h1: -pw k<z)(h2:z<pw k):szI z≤k:=dt (by omega)
theorem GI(z:Int): -pw (szI z)<z∧z<pw (szI z):=by
 have h:=bZ (b8 z.natAbs)
 grind [bh,szI]
theorem ng{z:Int}{k:Nat}(h:szI z≤k): -pw k<z∧z<pw k:=by
 have h1:=GI z
 have h2:=dl h
 omega
theorem jo(z:Int):szI (-z)=szI z:=by simp[szI]
theorem vP{a b:Int}{k:Nat}(h1:szI a≤k)(h2:szI b≤k):szI (a+b)≤k+1:=by
 have e1:=ng h1
 have e2:=ng h2
 exact fu (by rw[b9];omega) (by rw[b9];omega)
theorem cM{a b:Int}{j k:Nat}(h1:szI a≤j)(h2:szI b≤k):szI (a*b)≤j+k:=by
 have e1:=ng h1
 have e2:=ng h2
 have h:(a*b).natAbs<(pw (j+k)).toNat:=by
  rw[anV,fD]
  have:(pw j*pw k).toNat=(pw j).toNat*(pw k).toNat:=Int.toNat_mul (by omega) (by omega)
  rw[this]
  exact Nat.mul_lt_mul'' (by omega) (by omega)
 exact fu (by omega) (by omega)
theorem dB{a b:Int}(h:a.natAbs≤b.natAbs):szI a≤szI b:=by
 have:=GI b
 exact fu (by omega) (by omega)
theorem iO{x:BI}(h:okI x):szI (ae x)≤1000000:=by
 have:=io h
 have h3:=h.2.2
 rwa [this]at h3
theorem f0{x:BI}(h:okI x):aQ x.2:=⟨h.1.1,by have:=h.2.2;omega⟩
theorem cE{x:BI}(h:okI x):0≤val x.2∧(x.1=true→0<val x.2)∧(x.2=[]↔val x.2=0):=by
 refine⟨aP h.1.1,fun e=>eU h.1 (h.2.1 e),⟨fun e=>by rw[e];rfl,fun e=>?_⟩⟩
 rcases List.eq_nil_or_concat x.2 with h'|⟨l,y,h'⟩
 ·omega
 ·have:=eU h.1 (by rw[h'];simp)
  omega
def pI:eg:=spN false false [aon] (fun x=>decide (aG x.1)) (fun x=>[RV.d y2Y (ai x.1)])
theorem ky:SpK 210 pI:=spX fun x h=>Jc x.1 (ak6 h)
def dvQ(a b:List Int):List Int:=if h:o8 a b then Classical.choose (Gf a b h)else []
def dvR(a b:List Int):List Int:=if h:o8 a b then Classical.choose (amy (Gf a b h))else []
theorem VZ{a b:List Int}(h:o8 a b):aec a b (dvQ a b) (dvR a b):=by grind [dvQ,dvR]
theorem S9(a b:List Int)(h:o8 a b):Con Tryz.prog 340 [.d aom a,.d aom b] [.d aom (dvQ a b),.d aom (dvR a b)]:=by
 unfold dvQ dvR
 rw[dif_pos h,dif_pos h]
 exact(amy (amy (Gf a b h))).2
def E6:eg:=spN false false [aom,aom] (fun x=>decide (o8 x.1 x.2.1)) (fun x=>[RV.d aom (dvQ x.1 x.2.1),RV.d aom (dvR x.1 x.2.1)])
theorem DB:SpK 340 E6:=spX fun x h=>S9 x.1 x.2.1 (ak6 h)
def qQ:Env:=[(269,yu),(300,BF),(303,Gq),(304,FV),(270,FJ),(268,EV),(210,pI),(340,E6)]
theorem kr:EnvAll Tryz.prog qQ:=⟨sA,wU,CL,DG,DD,Ej,ky,DB,trivial⟩
def afn:Ctx:=CX qQ []
def Xh(x y:Bool×List Int)(_k:KT):Option (List RV):=match !(x.1==y.1)with|true=>(match x.1 with|true=>some [RV.d aon (-1)]|false=>some [RV.d aon 1])|false=>(match x.1 with|true=>(og (decide (aQ y.2∧aQ x.2)) (some [RV.d aon (cr (val y.2) (val x.2))]))|false=>(og (decide (aQ x.2∧aQ y.2)) (some [RV.d aon (cr (val x.2) (val y.2))])))
theorem adR(x y:Bool×List Int):RS afn 172 [.d y2Y x,.d y2Y y] (Xh x y):=rsX
def aeL:Ctx:=CX qQ []
def Zo(x y:Bool×List Int)(_k:KT):Option (List RV):=match x.1==y.1 with|true=>(og (decide (aQ x.2∧aQ y.2)) (og (decide (aQ (dig (max x.2.length y.2.length+1) (val x.2+val y.2)))) (some [RV.d y2Y (ai (ce x.1 (val (dig (max x.2.length y.2.length+1) (val x.2+val y.2)))))])))|false=>(og (decide (aQ x.2∧aQ y.2)) (match decide ((cr (val x.2) (val y.2))<0)with|true=>(og (decide (oA y.2 x.2)) (og (decide (aQ (dig y.2.length (val y.2-val x.2)))) (some [RV.d y2Y (ai (ce y.1 (val (dig y.2.length (val y.2-val x.2)))))])))|false=>(og (decide (oA x.2 y.2)) (og (decide (aQ (dig x.2.length (val x.2-val y.2)))) (some [RV.d y2Y (ai (ce x.1 (val (dig x.2.length (val x.2-val y.2)))))])))))
theorem agZ(x y:Bool×List Int):RS aeL 215 [.d y2Y x,.d y2Y y] (Zo x y):=rsX
def ae5:Ctx:=CX qQ []
def Ze(x y:Bool×List Int)(_k:KT):Option (List RV):=og (decide (aQ x.2∧aQ y.2)) (og (decide (aQ (dig (x.2.length+y.2.length) (val x.2*val y.2)))) (some [RV.d y2Y (ai (ce (!(x.1==y.1)) (val (dig (x.2.length+y.2.length) (val x.2*val y.2)))))]))
theorem ad0(x y:Bool×List Int):RS ae5 173 [.d y2Y x,.d y2Y y] (Ze x y):=rsX
def ait:Ctx:=CX qQ []
def Xd(x:Bool×List Int)(_k:KT):Option (List RV):=og (decide (x.2.length*4≤140737488355328∧x.2.length≤140737488355328)) (og (decide (aQ x.2)) (some [RV.d y2Y (ai (ce (!x.1) (val x.2)))]))
theorem afl(x:Bool×List Int):RS ait 216 [.d y2Y x] (Xd x):=rsX
def aia:Ctx:=CX qQ []
def Xv(x:Bool×List Int)(_k:KT):Option (List RV):=match x.1 with|true=>some [RV.d aon (-1)]|false=>(match decide ((x.2.length:Int)>0)with|true=>some [RV.d aon 1]|false=>some [RV.d aon 0])
theorem agM(x:Bool×List Int):RS aia 83 [.d y2Y x] (Xv x):=rsX
theorem Uo(x:BI)(h:okI x):Con Tryz.prog 83 [.d y2Y x] [.d aon (cr (ae x) 0)]:=by
 refine fI kr (agM _ ⟨0,?_⟩)
 obtain⟨h0,h1,h2⟩:=cE h
 unfold Xv
 rw[bO]
 unfold ce
 cases hx:x.1
 ·simp only[cond_false]
  rcases alz 0 (val x.2)with hc|hc
  ·have:x.2≠[]:=fun e=>by rw[h2]at e;omega
   have:=alF.2 this
   rw[ak3 (by omega),cL hc]
  ·have e:x.2=[]:=h2.2 (by omega)
   rw[e]
   rfl
 ·simp only[cond_true]
  rw[db (by have:=h1 hx;omega)]
theorem Jl{a b:Int}(_ha:0≤a)(_hb:0≤b):cr (-a) (-b)=cr b a:=by grind [cL,dW,db]
theorem Hq(x y:BI)(h:okI x∧okI y):Con Tryz.prog 172 [.d y2Y x,.d y2Y y] [.d aon (cr (ae x) (ae y))]:=by
 refine fI kr (adR _ _ ⟨0,?_⟩)
 obtain⟨hx,hy⟩:=h
 obtain⟨x0,x1,x2⟩:=cE hx
 obtain⟨y0,y1,y2⟩:=cE hy
 have lx:=f0 hx
 have ly:=f0 hy
 unfold Xh
 rw[bO,bO,ak3 (show aQ x.2∧aQ y.2 from⟨lx,ly⟩),ak3 (show aQ y.2∧aQ x.2 from⟨ly,lx⟩)]
 unfold ce
 cases ex:x.1<;>cases ey:y.1<;>simp only[cond_true,cond_false]
 ·rfl
 ·have:=y1 ey
  rw[cL (a:=val x.2) (b:= -val y.2) (by omega)]
  rfl
 ·have:=x1 ex
  rw[db (a:= -val x.2) (b:=val y.2) (by omega)]
  rfl
 ·rw[Jl x0 y0]
  rfl
theorem PS{a b:List Int}(ha:Lim a)(hb:Lim b):val (dig (max a.length b.length+1) (val a+val b))=val a+val b:=by
 have h1:=bZ ha
 have h2:=bZ hb
 have h3:=aP ha
 have h4:=aP hb
 have h5:=dl (Nat.le_max_left a.length b.length)
 have h6:=dl (Nat.le_max_right a.length b.length)
 grind [iy,b9]
theorem zA{a b:List Int}(ha:Lim a)(hb:Lim b)(hle:val b≤val a):val (dig a.length (val a-val b))=val a-val b:=by
 have h1:=bZ ha
 have h4:=aP hb
 grind [iy]
theorem Jy{a b:List Int}(ha:Lim a)(hb:Lim b):val (dig (a.length+b.length) (val a*val b))=val a*val b:=by
 have h1:=bZ ha
 have h2:=bZ hb
 have h3:=aP ha
 have h4:=aP hb
 refine iy _ _ (al1 h3 h4) ?_
 rw[fD]
 have e1:=alf (alK h1) h4
 have e2:=Int.mul_lt_mul_of_pos_left h2 (cp a.length)
 omega
theorem Ur(x y:BI)(h:okI x∧okI y):Con Tryz.prog 215 [.d y2Y x,.d y2Y y] [.d y2Y (ai (ae x+ae y))]:=by
 refine fI kr (agZ _ _ ⟨0,?_⟩)
 obtain⟨hx,hy⟩:=h
 obtain⟨x0,x1,x2⟩:=cE hx
 obtain⟨y0,y1,y2⟩:=cE hy
 have lx:=f0 hx
 have ly:=f0 hy
 have sx:=hx.2.2
 have sy:=hy.2.2
 unfold Zo
 rw[bO,bO,ak3 (show aQ x.2∧aQ y.2 from⟨lx,ly⟩),ak3 (show aQ (dig (max x.2.length y.2.length+1) (val x.2+val y.2)) from jF (by omega) _),PS lx.1 ly.1,ak3 (show aQ (dig x.2.length (val x.2-val y.2)) from jF (by omega) _),ak3 (show aQ (dig y.2.length (val y.2-val x.2)) from jF (by omega) _)]
 cases hs:x.1==y.1
 ·dsimp only
  rcases alz (val x.2) (val y.2)with hc|hc
  ·rw[db hc,ak3 (show(-1:Int)<0 by decide),ak3 (show oA y.2 x.2 from⟨ly,lx,by omega⟩),zA ly.1 lx.1 (by omega)]
   dsimp only
   unfold ce
   cases ex:x.1<;>cases ey:y.1<;>simp_all<;>congr 2<;>omega
  ·have hcm:decide (cr (val x.2) (val y.2)<0)=false:=by
    rcases alz (val y.2) (val x.2)with h|h
    ·rw[cL h];rfl
    ·rw[show val x.2=val y.2 by omega,dW];rfl
   rw[hcm,ak3 (show oA x.2 y.2 from⟨lx,ly,hc⟩),zA lx.1 ly.1 hc]
   dsimp only
   unfold ce
   cases ex:x.1<;>cases ey:y.1<;>simp_all<;>congr 2<;>omega
 ·dsimp only
  have e:=ama.1 hs
  rw[←e]
  unfold ce
  cases x.1
  ·rfl
  ·simp only[cond_true]
   rw[show-(val x.2+val y.2)= -val x.2+ -val y.2 by omega]
theorem Iy(x:BI)(h:okI x):Con Tryz.prog 216 [.d y2Y x] [.d y2Y (ai (-ae x))]:=by
 refine fI kr (afl _ ⟨0,?_⟩)
 have sx:=h.2.2
 unfold Xd
 rw[bO,ak3 (show x.2.length*4≤140737488355328∧x.2.length≤140737488355328 by omega),ak3 (f0 h)]
 unfold ce
 cases x.1<;>simp
theorem HZ(x y:BI)(h:okI x∧okI y):Con Tryz.prog 173 [.d y2Y x,.d y2Y y] [.d y2Y (ai (ae x*ae y))]:=by
 refine fI kr (ad0 _ _ ⟨0,?_⟩)
 obtain⟨hx,hy⟩:=h
 have lx:=f0 hx
 have ly:=f0 hy
 have sx:=hx.2.2
 have sy:=hy.2.2
 unfold Ze
 rw[bO,bO,ak3 (show aQ x.2∧aQ y.2 from⟨lx,ly⟩),ak3 (show aQ (dig (x.2.length+y.2.length) (val x.2*val y.2)) from jF (by omega) _),Jy lx.1 ly.1]
 unfold ce
 cases x.1<;>cases y.1<;>simp[Int.neg_mul,anX]
def pi:eg:=spN false false [y2Y,y2Y] (fun x=>decide (okI x.1∧okI x.2.1)) (fun x=>[RV.d y2Y (ai (ae x.1+ae x.2.1))])
theorem kC:SpK 215 pi:=spX fun x h=>Ur x.1 x.2.1 (ak6 h)
def Fv:Env:=(215,pi)::qQ
theorem zm:EnvAll Tryz.prog Fv:=⟨kC,kr⟩
def aho:Ctx:=CX Fv []
def ZH(x y:Bool×List Int)(_k:KT):Option (List RV):=match !y.1 with|true=>(og (decide (okI x∧okI (decide ((y.2.length:Int)>0),y.2))) (some [RV.d y2Y (ai (ae x+ae (decide ((y.2.length:Int)>0),y.2)))]))|false=>(og (decide (okI x∧okI (false,y.2))) (some [RV.d y2Y (ai (ae x+ae (false,y.2)))]))
theorem ah1(x y:Bool×List Int):RS aho 360 [.d y2Y x,.d y2Y y] (ZH x y):=rsX
theorem MI{y:BI}(h:okI y):okI (!y.1&&decide ((y.2.length:Int)>0),y.2)∧ae (!y.1&&decide ((y.2.length:Int)>0),y.2)= -ae y:=by
 refine⟨⟨h.1,fun e=>?_,h.2.2⟩,?_⟩
 ·grind
 grind [bO,ce,val,alF]
theorem Tz(x y:BI)(h:okI x∧okI y):Con Tryz.prog 360 [.d y2Y x,.d y2Y y] [.d y2Y (ai (ae x-ae y))]:=by
 refine fI zm (ah1 _ _ ⟨0,?_⟩)
 obtain⟨hx,hy⟩:=h
 obtain⟨f1,f2⟩:=MI hy
 rw[Int.sub_eq_add_neg,←f2]
 unfold ZH
 cases ey:y.1
 ·rw[ey]at f1
  simp only[Bool.not_false,amo]at f1 ⊢
  rw[ak3 ⟨hx,f1⟩]
 ·rw[ey]at f1
  simp only[Bool.not_true,Bool.false_and]at f1 ⊢
  rw[ak3 ⟨hx,f1⟩]
def LN:eg:=spN false false [y2Y,y2Y] (fun x=>decide (okI x.1∧okI x.2.1)) (fun x=>[RV.d y2Y (ai (ae x.1-ae x.2.1))])
theorem QJ:SpK 360 LN:=spX fun x h=>Tz x.1 x.2.1 (ak6 h)
def Qc:Env:=(360,LN)::Fv
theorem KD:EnvAll Tryz.prog Qc:=⟨QJ,zm⟩
def afH:Ctx:=CX Qc []
def WE(x y:Bool×List Int)(_k:KT):Option (List RV):=let y1:=aQ (dvQ x.2 y.2);let y2:=aQ (dvR x.2 y.2);let y3:=ai (ce x.1 (val (dvR x.2 y.2)));let y4:=ai (ce (!(x.1==y.1)) (val (dvQ x.2 y.2)));let y5:Option (List RV):=match decide (((y3.2).length:Int)>0)with|true=>(match !((y3.1)==y.1)with|true=>(og (decide (aG (1:Int))) (og (decide (okI y4∧okI (ai (1:Int)))) (og (decide (okI y3∧okI y)) (dup (.b .l .l) (some [RV.d y2Y (ai (ae y4-ae (ai (1:Int)))),RV.d y2Y (ai (ae y3+ae y)),RV.d aon 0])))))|false=>dup (.b .l .l) (some [RV.d y2Y y4,RV.d y2Y y3,RV.d aon 0]))|false=>dup (.b .l .l) (some [RV.d y2Y y4,RV.d y2Y y3,RV.d aon 0]);let y6:Option (List RV):=match decide y2 with|true=>y5|false=>none;match(y.2.length:Int)==0 with|true=>some [RV.d y2Y (false,[]),RV.d y2Y (false,[]),RV.d aon 6]|false=>(og (decide (o8 x.2 y.2)) (ct (og (decide y1) (ct (og (decide y2) (dup (.b .l .l) y5)) (dup (.b (.b .l .l) (.b .l .l)) y6))) (dup (.b .l .l) (ct (og (decide y1) (dup (.b .l .l) y6)) (og (decide y1) y6)))))
theorem agx(x y:Bool×List Int):RS afH 341 [.d y2Y x,.d y2Y y] (WE x y):=rsX
def fB(x y:BI):Prop:=okI x∧okI y∧0<ae y
instance (x y:BI):Decidable (fB x y):=by unfold fB;infer_instance
theorem Ik{a b:Int}(_ha:0≤a)(hb:0<b):(a%b=0→ -a/b= -(a/b)∧ -a%b=0)∧(0<a%b→ -a/b= -(a/b)-1∧ -a%b= -(a%b)+b):=by
 have h1:=al9 a (show b≠0 by omega)
 have h2:=alM a hb
 have h3:=alT a b
 constructor
 ·intro h
  have e: -a=b* -(a/b):=by rw[anX];omega
  constructor
  ·rw[e,anm _ (by omega)]
  ·rw[e,Int.mul_emod_right]
 ·intro h
  have e: -a=(b-a%b)+b*(-(a/b)-1):=by rw[Int.mul_sub,anX,ans];omega
  constructor
  ·rw[e,amQ _ _ (by omega),aml (by omega) (by omega)];omega
  ·rw[e,ana,anl (by omega) (by omega)];omega
theorem pP:okI (ai 1):=by decide
theorem A6(n:Bool){v:Int}:szI (ce n v)=szI v:=by unfold ce;cases n<;>simp[jo]
theorem HT(x y:BI)(h:fB x y):Con Tryz.prog 341 [.d y2Y x,.d y2Y y] [.d y2Y (ai (ae x/ae y)),.d y2Y (ai (ae x%ae y)),.d aon 0]:=by
 refine fI KD (agx _ _ ⟨0,?_⟩)
 obtain⟨hx,hy,hp⟩:=h
 obtain⟨x0,x1,x2⟩:=cE hx
 obtain⟨y0,y1,y2⟩:=cE hy
 have sx:=hx.2.2
 have sy:=hy.2.2
 have ey:y.1=false:=by
  cases e:y.1
  ·rfl
  ·rw[bO,e]at hp
   simp only[ce,cond_true]at hp
   omega
 have dy:ae y=val y.2:=by rw[bO,ey];rfl
 rw[dy]at hp
 have hdv:o8 x.2 y.2:=⟨⟨hx.1.1,by omega⟩,⟨hy.1.1,by omega⟩,hp⟩
 obtain⟨lq,lr,sq,sr,vq,vr⟩:=VZ hdv
 have hne:y.2≠[]:=fun e=>by rw[y2]at e;omega
 have hylen:=alF.2 hne
 have r0:=al9 (val x.2) (show val y.2≠0 by omega)
 have r1:=alM (val x.2) hp
 have q0:0≤val x.2/val y.2:=al4 x0 y0
 have q1:val x.2/val y.2≤val x.2:=amW _ x0
 have vx:=bZ hx.1.1
 have vy:=bZ hy.1.1
 have szq:szI (val x.2/val y.2)≤1000000:=fu (by have:=cp 1000000;omega) (by have:=dl sx;omega)
 have szr:szI (val x.2%val y.2)≤1000000:=fu (by have:=cp 1000000;omega) (by have:=dl sy;omega)
 unfold WE
 simp only[eZ]
 rw[show((y.2.length:Int)==0)=false by simp;omega,ak3 hdv,ak3 (show aQ (dvQ x.2 y.2) from⟨lq,by omega⟩),ak3 (show aQ (dvR x.2 y.2) from⟨lr,by omega⟩),ak3 (show aG 1 by decide),vq,vr,
  ak3 (show okI (ai (ce (!(x.1==y.1)) (val x.2/val y.2)))∧okI (ai (1:Int)) from⟨aT (by rw[A6];exact szq),pP⟩),ak3 (show okI (ai (ce x.1 (val x.2%val y.2)))∧okI y from⟨aT (by rw[A6];exact szr),hy⟩)]
 simp only[dec_enc,dy,cU]
 have hE1:(ai (ce x.1 (val x.2%val y.2))).1=(x.1&&decide (0<val x.2%val y.2)):=by rw[mM x.1 r0]
 have hE2:(ai (ce x.1 (val x.2%val y.2))).2=ag (val x.2%val y.2).toNat:=by rw[mM x.1 r0]
 rw[hE1,hE2,bO x,ey]
 have hlen:(((ag (val x.2%val y.2).toNat).length:Int)>0)↔0<val x.2%val y.2:=by
  constructor
  ·intro hl
   rcases alz 0 (val x.2%val y.2)with h|h
   ·exact h
   ·rw[show(val x.2%val y.2).toNat=0 by omega,fJ]at hl
    simp at hl
  ·intro hl
   have:ag (val x.2%val y.2).toNat≠[]:=fun e=>by rw[ia]at e;omega
   have:=alF.2 this
   omega
 obtain⟨n1,n2⟩:=Ik (a:=val x.2) (b:=val y.2) x0 hp
 rcases alz 0 (val x.2%val y.2)with hr|hr
 ·rw[ak3 (hlen.2 hr),ak3 hr]
  cases x.1
  ·rfl
  ·obtain⟨e1,e2⟩:=n2 hr
   simp only[ce,cond_true,Bool.not_false,amo,show((true==false):Bool)=false from rfl]
   rw[e1,e2]
 ·rw[ak5 (fun h'=>by have:=hlen.1 h';omega)]
  dsimp only
  have e0:val x.2%val y.2=0:=by omega
  cases x.1
  ·simp only[ce,cond_false,show((false==false):Bool)=true from rfl,Bool.not_true]
  ·obtain⟨e1,e2⟩:=n1 e0
   simp only[ce,cond_true,show((true==false):Bool)=false from rfl,Bool.not_false]
   rw[e1,e2,e0]
   rfl
def kJ(x:BI):Bool:=decide (x.2.length≤2)
def yF(x:BI):Int:=bif kJ x then val x.2 else 0
def afN:Ctx:=CX [] []
def Xl(x:Bool×List Int)(_k:KT):Option (List RV):=match(x.2.length:Int)==0 with|true=>some [RV.d (.int .u64) 0,RV.d .bool true]|false=>(match(x.2.length:Int)==1 with|true=>(match aR x.2 0 with|some x1=>some [RV.d (.int .u64) (u64.wrap x1),RV.d .bool true]|none=>none)|false=>(match(x.2.length:Int)==2 with|true=>(match aR x.2 1 with|some x2=>(match aR x.2 0 with|some x3=>some [RV.d (.int .u64) (u64.wrap ((u64.wrap ((u64.wrap x2)*1000000000))+(u64.wrap x3))),RV.d .bool true]|none=>none)|none=>none)|false=>some [RV.d (.int .u64) 0,RV.d .bool false]))
theorem agQ(x:Bool×List Int):RS afN 339 [.d y2Y x] (Xl x):=rsX
theorem Sf(x:BI)(h:okI x):Con Tryz.prog 339 [.d y2Y x] [.d (.int .u64) (yF x),.d .bool (kJ x)]:=by
 refine fI (E:=[]) trivial (agQ _ ⟨0,?_⟩)
 obtain⟨neg,l⟩:=x
 have hl:=h.1.1
 unfold Xl yF kJ
 match l,hl with
 |[],_=>rfl
 |[a],hl=>
  have:=hl.head
  simp only[alt,zT,al3]
  rw[bj (x:=a) (by omega) (by omega)]
  simp[val]
 |[a,b],hl=>
  have h1:=hl.head
  have h2:=hl.tail.head
  have e1:aR [a,b] 1=some b:=rfl
  have e0:aR [a,b] 0=some a:=rfl
  simp only[e1,e0,alj,List.length_nil]
  rw[bj (x:=a) (by omega) (by omega),bj (x:=b) (by omega) (by omega),bj (x:=b*1000000000) (by omega) (by omega),bj (x:=b*1000000000+a) (by omega) (by omega)]
  rw[show val [a,b]=b*1000000000+a by simp only[val];omega]
  rfl
 |a::b::c::l,hl=>
  have e:decide ((a::b::c::l).length≤2)=false:=ak5 (by simp)
  rw[e,show(((a::b::c::l).length:Int)==0)=false by simp;omega,show(((a::b::c::l).length:Int)==1)=false by simp;omega,show(((a::b::c::l).length:Int)==2)=false by simp;omega]
  rfl
def Nb:eg:=spN false false [y2Y] (fun x=>decide (okI x.1)) (fun x=>[RV.d (.int .u64) (yF x.1),RV.d .bool (kJ x.1)])
theorem NV:SpK 339 Nb:=spX fun x h=>Sf x.1 (ak6 h)
def Ou:Env:=[(269,yu),(300,BF),(340,E6),(339,Nb)]
theorem JE:EnvAll Tryz.prog Ou:=⟨sA,wU,DB,NV,trivial⟩
def adt:NT:=[((301,6),{keep:=[4,5,6],hl:=5}),((301,24),{keep:=[4,7,9],hl:=3})]
def iu:Ctx:=CX Ou adt
def lR(x y:Bool×List Int)(b3_0:Bool)(b3_1:List Int)(b4_0:Bool)(b4_1:List Int):Cfg:=⟨301,[.blk 0,.seq 40],[(4,.box 2 0),(5,.box 3 0),(6,.box 4 0)],[.box 29 [SB x.1,.d aom x.2],.box 29 [SB y.1,.d aom y.2],.box 29 [SB false,.nil],.box 29 [SB b3_0,.d aom b3_1],.box 29 [SB b4_0,.d aom b4_1]],0,[]⟩
def gJ(x y:Bool×List Int)(b3_0:Bool)(b3_1:List Int)(b4_0:Bool)(b4_1:List Int):Cfg:=⟨301,[.blk 0,.seq 40],[(4,.box 2 0),(5,.box 4 0),(6,.box 3 0)],[.box 29 [SB x.1,.d aom x.2],.box 29 [SB y.1,.d aom y.2],.box 29 [SB false,.nil],.box 29 [SB b3_0,.d aom b3_1],.box 29 [SB b4_0,.d aom b4_1]],0,[]⟩
def jg(x y:Bool×List Int)(s7 s9:Int):Cfg:=⟨301,[.blk 2,.seq 33,.seq 37,.blk 1,.lp 6,.blk 0,.seq 40],[(4,.box 2 0),(7,.d (.int .u64) s7),(9,.d (.int .u64) s9)],[.box 29 [SB x.1,.d aom x.2],.box 29 [SB y.1,.d aom y.2],.box 29 [SB false,.nil]],0,[]⟩
def XL(x y:Bool×List Int)(k:KT):Option (List RV):=let y1:=ai (ce false (val x.2));let y2:=ai (ce false (val y.2));let y3:=lR x y (y1.1) (y1.2) (y2.1) (y2.2);let y4:=gJ x y (y2.1) (y2.2) (y1.1) (y1.2);let y5:Option (List RV):=match decide (aQ y.2)with|true=>k 6 y3|false=>none;let y6:Option (List RV):=match decide (aQ y.2)with|true=>k 6 y4|false=>none;ct (og (decide (aQ x.2)) (ct (og (decide (aQ y.2)) (ct (k 6 y3) (k 6 y4))) (ct (dup (.b .l .l) y5) (dup (.b .l .l) y6)))) (ct (ct (og (decide (aQ x.2)) (dup (.b .l .l) y5)) (og (decide (aQ x.2)) y5)) (ct (og (decide (aQ x.2)) (dup (.b .l .l) y6)) (og (decide (aQ x.2)) y6)))
theorem ag1(x y:Bool×List Int):RS iu 301 [.d y2Y x,.d y2Y y] (XL x y):=rsX
def PN(x y:Bool×List Int)(b3_0:Bool)(b3_1:List Int)(b4_0:Bool)(b4_1:List Int)(k:KT):Option (List RV):=match decide ((b4_1.length:Int)>0)with|true=>(og (decide (okI (b3_0,b3_1))) (og (decide (okI (b4_0,b4_1))) (match kJ (b3_0,b3_1)with|true=>(match kJ (b4_0,b4_1)with|true=>k 24 (jg x y (yF (b3_0,b3_1)) (yF (b4_0,b4_1)))|false=>(og (decide (o8 b3_1 b4_1)) (og (decide (aQ (dvR b3_1 b4_1))) (k 6 (lR x y b4_0 b4_1 ((ai (ce false (val (dvR b3_1 b4_1)))).1) ((ai (ce false (val (dvR b3_1 b4_1)))).2))))))|false=>(og (decide (o8 b3_1 b4_1)) (og (decide (aQ (dvR b3_1 b4_1))) (k 6 (lR x y b4_0 b4_1 ((ai (ce false (val (dvR b3_1 b4_1)))).1) ((ai (ce false (val (dvR b3_1 b4_1)))).2))))))))|false=>(og (decide (b3_1.length*4≤140737488355328∧b3_1.length≤140737488355328)) (og (decide (aQ b3_1)) (some [RV.d y2Y (ai (ce false (val b3_1)))])))
theorem NM(x y:Bool×List Int)(b3_0:Bool)(b3_1:List Int)(b4_0:Bool)(b4_1:List Int):RL iu 6 (lR x y b3_0 b3_1 b4_0 b4_1) (PN x y b3_0 b3_1 b4_0 b4_1):=rlX
def Gm(x y:Bool×List Int)(b3_0:Bool)(b3_1:List Int)(b4_0:Bool)(b4_1:List Int)(k:KT):Option (List RV):=match decide ((b3_1.length:Int)>0)with|true=>(og (decide (okI (b4_0,b4_1))) (og (decide (okI (b3_0,b3_1))) (match kJ (b4_0,b4_1)with|true=>(match kJ (b3_0,b3_1)with|true=>k 24 (jg x y (yF (b4_0,b4_1)) (yF (b3_0,b3_1)))|false=>(og (decide (o8 b4_1 b3_1)) (og (decide (aQ (dvR b4_1 b3_1))) (k 6 (gJ x y ((ai (ce false (val (dvR b4_1 b3_1)))).1) ((ai (ce false (val (dvR b4_1 b3_1)))).2) b3_0 b3_1)))))|false=>(og (decide (o8 b4_1 b3_1)) (og (decide (aQ (dvR b4_1 b3_1))) (k 6 (gJ x y ((ai (ce false (val (dvR b4_1 b3_1)))).1) ((ai (ce false (val (dvR b4_1 b3_1)))).2) b3_0 b3_1)))))))|false=>(og (decide (b4_1.length*4≤140737488355328∧b4_1.length≤140737488355328)) (og (decide (aQ b4_1)) (some [RV.d y2Y (ai (ce false (val b4_1)))])))
theorem Fp(x y:Bool×List Int)(b3_0:Bool)(b3_1:List Int)(b4_0:Bool)(b4_1:List Int):RL iu 6 (gJ x y b3_0 b3_1 b4_0 b4_1) (Gm x y b3_0 b3_1 b4_0 b4_1):=rlX
def uD(x y:Bool×List Int)(s7 s9:Int)(k:KT):Option (List RV):=match decide (s9>0)with|true=>(match decide (s9=(0:Int))with|true=>none|false=>k 24 (jg x y s9 (Int.tmod s7 s9)))|false=>(og (decide (iI s7)) (og (decide (aQ (dig 3 s7))) (some [RV.d y2Y (ai (ce false (val (dig 3 s7))))])))
theorem yU(x y:Bool×List Int)(s7 s9:Int):RL iu 24 (jg x y s7 s9) (uD x y s7 s9):=rlX
theorem O6(x y:BI)(B:Nat)(hB:(B:Int)<18446744073709551616):∀(v u:Nat),u≤B→v≤B→iu.RunsE 24 (jg x y (u:Int) (v:Int)) [.d y2Y (ai ((Nat.gcd u v:Nat):Int))]:=by
 intro v
 induction v using Nat.strongRecOn with
 |ind v ih=>
  intro u hu hv
  rcases alY v with h0|h0
  ·refine yU _ _ _ _ ⟨0,fun n _=>?_⟩
   have hp:iI (u:Int):=⟨by omega,by omega⟩
   unfold uD
   rw[ak5 (show ¬(v:Int)>0 by omega),ak3 hp,ak3 (jF (n:=3) (by decide) (u:Int)),xf hp,show Nat.gcd u v=u by rw[h0];exact Nat.gcd_zero_right u]
   rfl
  ·obtain⟨n0,hn⟩:=ih (u%v) (anZ _ h0) v hv (alg (Nat.le_of_lt (anZ _ h0)) hv)
   refine yU _ _ _ _ ⟨n0,fun n hn'=>?_⟩
   unfold uD
   rw[ak3 (by omega),ak5 (by omega),jx (by omega)]
   dsimp only
   rw[show((u:Int)%(v:Int))=((u%v:Nat):Int) by simp,anf u v,Nat.gcd_rec v u,anf]
   exact hn n hn'
theorem zR(v:Int):ce false v=v:=rfl
theorem ja(u:Nat):ai (u:Int)=(false,ag u):=rfl
theorem yT{u:Nat}(h:(ag u).length≤2):u≤(pw 2).toNat:=by
 have h1:=bZ (b8 u)
 rw[bh]at h1
 have h2:=dl h
 omega
theorem acu:(((pw 2).toNat:Nat):Int)<18446744073709551616:=by decide
theorem DQ{k:Nat→Cfg→Option (List RV)}{u v:Nat}(hu:szI u≤1000000)(hv:szI v≤1000000){r:List RV}{H:Int→Int→Cfg}{D:Int→Cfg}
  (h1:v=0→r=[.d y2Y (ai (u:Int))]) (h2:v≠0→kJ (ai (u:Int))=true→kJ (ai (v:Int))=true→k 24 (H (u:Int) (v:Int))=some r) (h3:v≠0→k 6 (D ((u%v:Nat):Int))=some r) (D':List Int→Cfg) (hD:D' (dvR (ag u) (ag v))=D (val (dvR (ag u) (ag v)))):
  (match decide (((ag v).length:Int)>0)with
   |true=>(match decide (okI (ai (u:Int)))with
    |true=>(match decide (okI (ai (v:Int)))with
     |true=>(match kJ (ai (u:Int))with
      |true=>(match kJ (ai (v:Int))with
       |true=>k 24 (H (yF (ai (u:Int))) (yF (ai (v:Int))))
       |false=>(match decide (o8 (ag u) (ag v))with
        |true=>(match decide (aQ (dvR (ag u) (ag v)))with
         |true=>k 6 (D' (dvR (ag u) (ag v)))
         |false=>none)
        |false=>none))
      |false=>(match decide (o8 (ag u) (ag v))with
        |true=>(match decide (aQ (dvR (ag u) (ag v)))with
         |true=>k 6 (D' (dvR (ag u) (ag v)))
         |false=>none)
        |false=>none))
     |false=>none)
    |false=>none)
   |false=>(match decide ((ag u).length*4≤140737488355328∧(ag u).length≤140737488355328)with
    |true=>(match decide (aQ (ag u))with
     |true=>some [.d y2Y (ai (ce false (val (ag u))))]
     |false=>none)
    |false=>none))=some r:=by
 have lu:(ag u).length≤1000000:=by have:=hu;unfold szI at this;rwa [amD]at this
 have lv:(ag v).length≤1000000:=by have:=hv;unfold szI at this;rwa [amD]at this
 rcases alY v with h0|h0
 ·subst h0
  rw[h1 rfl,show decide (((ag 0).length:Int)>0)=false from rfl,ak3 (show(ag u).length*4≤140737488355328∧(ag u).length≤140737488355328 by omega),ak3 (show aQ (ag u) from⟨b8 u,by omega⟩),bh]
  rfl
 ·have hne:ag v≠[]:=fun e=>by rw[ia]at e;omega
  have hl:=alF.2 hne
  have hvv:=bh v
  have hvu:=bh u
  have hdv:o8 (ag u) (ag v):=⟨⟨b8 u,by omega⟩,⟨b8 v,by omega⟩,by omega⟩
  obtain⟨_,lr,_,sr,_,vr⟩:=VZ hdv
  have hD2:k 6 (D' (dvR (ag u) (ag v)))=some r:=by
   rw[hD,vr,hvv,hvu]
   exact h3 (by omega)
  rw[ak3 (by omega),ak3 (aT hu),ak3 (aT hv),ak3 hdv,ak3 (show aQ (dvR (ag u) (ag v)) from⟨lr,by omega⟩)]
  dsimp only
  cases hb1:kJ (ai (u:Int))
  ·exact hD2
  ·cases hb2:kJ (ai (v:Int))
   ·exact hD2
   ·dsimp only
    have:=h2 (by omega) hb1 hb2
    unfold yF
    rw[hb1,hb2]
    simp only[cond_true,ja]
    rw[hvv,hvu]
    exact this
theorem LQ(x y:BI):∀(v u:Nat),szI u≤1000000→szI v≤1000000→
  iu.RunsE 6 (lR x y false (ag u) false (ag v)) [.d y2Y (ai ((Nat.gcd u v:Nat):Int))]∧iu.RunsE 6 (gJ x y false (ag v) false (ag u)) [.d y2Y (ai ((Nat.gcd u v:Nat):Int))]:=by
 intro v
 induction v using Nat.strongRecOn with
 |ind v ih=>
  intro u hu hv
  have hw:kJ (ai (u:Int))=true→kJ (ai (v:Int))=true→iu.RunsE 24 (jg x y (u:Int) (v:Int)) [.d y2Y (ai ((Nat.gcd u v:Nat):Int))]:=fun h1 h2=>by
   unfold kJ at h1 h2
   rw[ja]at h1 h2
   exact O6 x y _ acu v u (yT (ak6 h1)) (yT (ak6 h2))
  have hd:v≠0→iu.RunsE 6 (lR x y false (ag v) false (ag (u%v))) [.d y2Y (ai ((Nat.gcd u v:Nat):Int))]∧iu.RunsE 6 (gJ x y false (ag (u%v)) false (ag v)) [.d y2Y (ai ((Nat.gcd u v:Nat):Int))]:=fun h0=>by
   have hm:=anZ u (Nat.pos_of_ne_zero h0)
   have:=ih (u%v) hm v hv (alg (dB (by omega)) hv)
   rw[anf u v,Nat.gcd_rec v u,anf (u%v) v]
   exact this
  have hcommon:∃n0,∀n,n0≤n→(kJ (ai (u:Int))=true→kJ (ai (v:Int))=true→iu.k n 24 (jg x y (u:Int) (v:Int))=some [.d y2Y (ai ((Nat.gcd u v:Nat):Int))])∧(v≠0→iu.k n 6 (lR x y false (ag v) false (ag (u%v)))=some [.d y2Y (ai ((Nat.gcd u v:Nat):Int))]∧iu.k n 6 (gJ x y false (ag (u%v)) false (ag v))=some [.d y2Y (ai ((Nat.gcd u v:Nat):Int))]):=by
   have g1:∃n1,∀n,n1≤n→(kJ (ai (u:Int))=true→kJ (ai (v:Int))=true→iu.k n 24 (jg x y (u:Int) (v:Int))=some [.d y2Y (ai ((Nat.gcd u v:Nat):Int))]):=by
    by_cases hb:kJ (ai (u:Int))=true∧kJ (ai (v:Int))=true
    ·obtain⟨n,h⟩:=hw hb.1 hb.2
     exact⟨n,fun m hm _ _=>h m hm⟩
    ·exact⟨0,fun n _ h1 h2=>absurd ⟨h1,h2⟩ hb⟩
   have g2:∃n1,∀n,n1≤n→(v≠0→iu.k n 6 (lR x y false (ag v) false (ag (u%v)))=some [.d y2Y (ai ((Nat.gcd u v:Nat):Int))]∧iu.k n 6 (gJ x y false (ag (u%v)) false (ag v))=some [.d y2Y (ai ((Nat.gcd u v:Nat):Int))]):=by
    by_cases hb:v=0
    ·exact⟨0,fun n _ h=>absurd hb h⟩
    ·obtain⟨⟨n1,h1⟩,⟨n2,h2⟩⟩:=hd hb
     exact⟨max n1 n2,fun n hn _=>⟨h1 n (by omega),h2 n (by omega)⟩⟩
   obtain⟨n1,h1⟩:=g1
   obtain⟨n2,h2⟩:=g2
   exact⟨max n1 n2,fun n hn=>⟨h1 n (by omega),h2 n (by omega)⟩⟩
  obtain⟨n0,hc⟩:=hcommon
  have hz:v=0→([.d y2Y (ai ((Nat.gcd u v:Nat):Int))]:List RV)=[.d y2Y (ai (u:Int))]:=fun e=>by subst e;rw[Nat.gcd_zero_right]
  constructor
  ·refine NM _ _ _ _ _ _ ⟨n0,fun n hn=>?_⟩
   have:=DQ (k:=iu.k n) hu hv (H:=fun a b=>jg x y a b) (D:=fun z=>lR x y false (ag v) (ai z).1 (ai z).2) hz (fun _ h1 h2=>(hc n hn).1 h1 h2) (fun h0=>by rw[ja];exact((hc n hn).2 h0).1) (fun l=>lR x y false (ag v) (ai (ce false (val l))).1 (ai (ce false (val l))).2) rfl
   rw[ja,ja]at this
   exact this
  ·refine Fp _ _ _ _ _ _ ⟨n0,fun n hn=>?_⟩
   have:=DQ (k:=iu.k n) hu hv (H:=fun a b=>jg x y a b) (D:=fun z=>gJ x y (ai z).1 (ai z).2 false (ag v)) hz (fun _ h1 h2=>(hc n hn).1 h1 h2) (fun h0=>by rw[ja];exact((hc n hn).2 h0).2) (fun l=>gJ x y (ai (ce false (val l))).1 (ai (ce false (val l))).2 false (ag v)) rfl
   rw[ja,ja]at this
   exact this
theorem Vo(x y:BI)(h:okI x∧okI y):Con Tryz.prog 301 [.d y2Y x,.d y2Y y] [.d y2Y (ai ((Int.gcd (ae x) (ae y):Nat):Int))]:=by
 refine fI JE (show iu.Res _ _ _ from ?_)
 obtain⟨hx,hy⟩:=h
 obtain⟨x0,_,_⟩:=cE hx
 obtain⟨y0,_,_⟩:=cE hy
 have ex:((ae x).natAbs:Int)=val x.2:=by rw[bO];unfold ce;cases x.1<;>simp<;>omega
 have ey:((ae y).natAbs:Int)=val y.2:=by rw[bO];unfold ce;cases y.1<;>simp<;>omega
 have szx:szI ((ae x).natAbs:Int)≤1000000:=alg (dB (by omega)) (iO hx)
 have szy:szI ((ae y).natAbs:Int)≤1000000:=alg (dB (by omega)) (iO hy)
 obtain⟨⟨n1,h1⟩,⟨n2,h2⟩⟩:=LQ x y (ae y).natAbs (ae x).natAbs szx szy
 refine ag1 _ _ ⟨max n1 n2,?_⟩
 have h1:=h1 (max n1 n2) (by omega)
 have h2:=h2 (max n1 n2) (by omega)
 unfold XL
 simp only[eZ]
 rw[ak3 (f0 hx),ak3 (f0 hy),zR,zR,←ex,←ey,ja,ja]
 dsimp only
 rw[h1,h2]
 simp only[cU]
 rfl
abbrev BR:=BI×BI
def am(q:Rat):BR:=(ai q.num,ai (q.den:Int))
def ah(x:BR):Rat:=mkRat (ae x.1) (ae x.2).toNat
theorem cB(q:Rat):ah (am q)=q:=by simp[ah,am,dec_enc]
def okR(x:BR):Prop:=okI x.1∧okI x.2∧0<ae x.2∧Int.gcd (ae x.1) (ae x.2)=1∧x.1.2.length≤480000∧x.2.2.length≤480000
instance (x:BR):Decidable (okR x):=by unfold okR;infer_instance
def o1(x:BR):Bool:=decide (okR x)
def o2(x y:BR):Bool:=decide (okR x∧okR y)
theorem agw(x:BR):o1 x=decide (okR x):=rfl
theorem ahR(x y:BR):o2 x y=(decide (okR x)&&decide (okR y)):=am4 _ _
theorem cO{x:BR}(h:okR x):(ah x).num=ae x.1∧((ah x).den:Int)=ae x.2:=by
 obtain⟨h1,h2,h3,h4,_⟩:=h
 unfold ah
 rw[an6,an7]
 have hg:(ae x.2).toNat.gcd (ae x.1).natAbs=1:=by
  rwa [anf,show(ae x.2).toNat=(ae x.2).natAbs by omega]
 grind
theorem LA{x:BR}(h:okR x):x=am (ah x):=by
 obtain⟨e1,e2⟩:=cO h
 unfold am
 rw[e1,e2,←io h.1,←io h.2.1]
def bdR(k:Nat)(q:Rat):Prop:=szI q.num≤k∧szI (q.den:Int)≤k
theorem pV{q:Rat}{k:Nat}(h:bdR k q)(hk:k≤480000):okR (am q):=by
 obtain⟨h1,h2⟩:=h
 have hd:=q.den_pos
 refine⟨aT (by omega),aT (by omega),?_,?_,by show szI q.num≤480000;omega,by show szI (q.den:Int)≤480000;omega⟩
 ·show 0<ae (ai (q.den:Int))
  grind [dec_enc]
 ·show Int.gcd (ae (ai q.num)) (ae (ai (q.den:Int)))=1
  rw[dec_enc,dec_enc]
  exact q.reduced
theorem Cf{x:BR}(h:okR x):bdR 480000 (ah x):=by
 obtain⟨e1,e2⟩:=cO h
 obtain⟨h1,h2,_,_,h5,h6⟩:=h
 unfold bdR szI
 rw[e1,e2]
 rw[io h1]at h5
 rw[io h2]at h6
 exact⟨h5,h6⟩
theorem bJ{j k:Nat}{q:Rat}(h:bdR j q)(hk:j≤k):bdR k q:=⟨alg h.1 hk,alg h.2 hk⟩
theorem HB(a:Int)(g:Nat):(a/(g:Int)).natAbs≤a.natAbs∨¬(g:Int)∣a:=by
 by_cases h:(g:Int)∣a
 ·obtain⟨k,rfl⟩:=h
  rcases alY g with h0|h0
  ·grind
  ·rw[anm _ (by omega),anV]
   simp_all [Nat.le_mul_of_pos_left]
 grind
theorem ue{n:Int}{d k:Nat}(hd:d≠0)(h1:szI n≤k)(h2:szI (d:Int)≤k):bdR k (mkRat n d):=by
 unfold bdR
 rw[an6,an7,alq hd,alq hd]
 constructor
 ·refine alg (dB ?_) h1
  grind [HB,Nat.gcd_dvd_right,Int.ofNat_dvd_left]
 ·exact alg (dB (by rw[amD,amD];exact Nat.div_le_self _ _)) h2
theorem vX{k:Nat}{a:Rat}(h:bdR k a):bdR k (-a):=by
 refine⟨?_,h.2⟩
 rw[Rat.neg_num,jo]
 exact h.1
theorem AV{j k:Nat}{a b:Rat}(ha:bdR j a)(hb:bdR k b):bdR (j+k+1) (a+b):=by
 rw[Rat.add_def']
 have d1:=a.den_pos
 have d2:=b.den_pos
 refine ue (anJ (by omega) (by omega)) (vP (cM ha.1 hb.2) ?_) ?_
 ·rw[Nat.add_comm];exact cM hb.1 ha.2
 ·rw[amB];exact alg (cM ha.2 hb.2) (by omega)
theorem Uk{j k:Nat}{a b:Rat}(ha:bdR j a)(hb:bdR k b):bdR (j+k+1) (a-b):=by grind [anB,AV,vX]
theorem Bh{j k:Nat}{a b:Rat}(ha:bdR j a)(hb:bdR k b):bdR (j+k) (a*b):=by
 rw[Rat.mul_def']
 have d1:=a.den_pos
 have d2:=b.den_pos
 refine ue (anJ (by omega) (by omega)) (cM ha.1 hb.1) ?_
 exact cM ha.2 hb.2
theorem S6{k:Nat}{a:Rat}(h:bdR k a)(h0:a≠0):bdR k a⁻¹:=by
 have hn:a.num≠0:=fun e=>h0 (Rat.num_eq_zero.1 e)
 rw[Rat.inv_def]
 rcases amU hn with h1|h1
 ·rw[←Rat.neg_divInt_neg,show-a.num=(((-a.num).toNat:Nat):Int) by omega,anx]
  refine ue (by omega) (by rw[jo];exact h.2) ?_
  rw[show(((-a.num).toNat:Nat):Int)= -a.num by omega,jo]
  exact h.1
 ·rw[show a.num=((a.num.toNat:Nat):Int) by omega,anx]
  refine ue (by omega) h.2 ?_
  rw[show((a.num.toNat:Nat):Int)=a.num by omega]
  exact h.1
theorem TM{j k:Nat}{a b:Rat}(ha:bdR j a)(hb:bdR k b)(h0:b≠0):bdR (j+k) (a/b):=by grind [Bh,S6]
def fx(x y:BI):BR:=am (Rat.divInt (ae x) (ae y))
def jS(x y:BI):Prop:=okI x∧okI y∧ae y≠0
instance (x y:BI):Decidable (jS x y):=by unfold jS;infer_instance
theorem nQ{n d:Int}(hd:0<d):am (Rat.divInt n d)=(ai (n/(Int.gcd n d:Int)),ai (d/(Int.gcd n d:Int))):=by
 obtain⟨D,rfl⟩:=amd (alK hd)
 unfold am
 rw[anx,an6,an7,alq (by omega),alq (by omega)]
 have e:Int.gcd n (D:Int)=D.gcd n.natAbs:=by rw[anf];rfl
 grind
def ur:eg:=spN true false [y2Y] (fun x=>decide (okI x.1)) (fun x=>[RV.d aon (cr (ae x.1) 0)])
theorem oB:SpK 83 ur:=spX fun x h=>Uo x.1 (ak6 h)
def ro:eg:=spN true false [y2Y,y2Y] (fun x=>decide (okI x.1∧okI x.2.1)) (fun x=>[RV.d aon (cr (ae x.1) (ae x.2.1))])
theorem mU:SpK 172 ro:=spX fun x h=>Hq x.1 x.2.1 (ak6 h)
def uI:eg:=spN false false [y2Y] (fun x=>decide (okI x.1)) (fun x=>[RV.d y2Y (ai (-ae x.1))])
theorem oE:SpK 216 uI:=spX fun x h=>Iy x.1 (ak6 h)
def um:eg:=spN false false [y2Y,y2Y] (fun x=>decide (okI x.1∧okI x.2.1)) (fun x=>[RV.d y2Y (ai (ae x.1*ae x.2.1))])
theorem pp:SpK 173 um:=spX fun x h=>HZ x.1 x.2.1 (ak6 h)
def AY:eg:=spN false false [y2Y,y2Y] (fun x=>decide (fB x.1 x.2.1)) (fun x=>[RV.d y2Y (ai (ae x.1/ae x.2.1)),RV.d y2Y (ai (ae x.1%ae x.2.1)),RV.d aon 0])
theorem xG:SpK 341 AY:=spX fun x h=>HT x.1 x.2.1 (ak6 h)
def Gt:eg:=spN false false [y2Y,y2Y] (fun x=>decide (okI x.1∧okI x.2.1)) (fun x=>[RV.d y2Y (ai ((Int.gcd (ae x.1) (ae x.2.1):Nat):Int))])
theorem CA:SpK 301 Gt:=spX fun x h=>Vo x.1 x.2.1 (ak6 h)
def Fg:Env:=[(210,pI),(83,ur),(172,ro),(215,pi),(216,uI),(173,um),(341,AY),(301,Gt)]
theorem zY:EnvAll Tryz.prog Fg:=⟨ky,oB,mU,kC,oE,pp,xG,CA,trivial⟩
def aht:Ctx:=CX Fg []
def ZJ(_k:KT):Option (List RV):=og (decide (aG (1:Int))) (some [RV.d y2Y (ai (1:Int))])
theorem ah4:RS aht 299 [] (ZJ):=rsX
def afR:Ctx:=CX Fg []
def Xk(x y:Bool×List Int)(_k:KT):Option (List RV):=og (decide (fB x y)) (some [RV.d y2Y (ai (ae x/ae y))])
theorem ag9(x y:Bool×List Int):RS afR 302 [.d y2Y x,.d y2Y y] (Xk x y):=rsX
theorem Sr:Con Tryz.prog 299 [] [.d y2Y (ai 1)]:=by
 refine fI zY (ah4 ⟨0,?_⟩)
 unfold ZJ
 rw[ak3 (show aG 1 by decide)]
theorem Ut(x y:BI)(h:fB x y):Con Tryz.prog 302 [.d y2Y x,.d y2Y y] [.d y2Y (ai (ae x/ae y))]:=by
 refine fI zY (ag9 _ _ ⟨0,?_⟩)
 unfold Xk
 rw[ak3 h]
def yh:eg:=spN false false [] (fun _=>true) (fun _=>[RV.d y2Y (ai 1)])
theorem sL:SpK 299 yh:=spX fun _ _=>Sr
def M3:eg:=spN false false [y2Y,y2Y] (fun x=>decide (fB x.1 x.2.1)) (fun x=>[RV.d y2Y (ai (ae x.1/ae x.2.1))])
theorem QD:SpK 302 M3:=spX fun x h=>Ut x.1 x.2.1 (ak6 h)
def PY:Env:=[(210,pI),(83,ur),(172,ro),(215,pi),(216,uI),(173,um),(341,AY),(301,Gt),(299,yh),(302,M3)]
theorem Kw:EnvAll Tryz.prog PY:=⟨ky,oB,mU,kC,oE,pp,xG,CA,sL,QD,trivial⟩
def ad2:Ctx:=CX PY []
def WL(x y:Bool×List Int)(_k:KT):Option (List RV):=match decide (okI y)with|true=>(match decide ((cr (ae y) 0)<0)with|true=>(match decide (okI x)with|true=>(match decide (okI y)with|true=>(match decide (okI (ai (-ae x))∧okI (ai (-ae y)))with|true=>(match decide (okI (ai ((Int.gcd (ae (ai (-ae x))) (ae (ai (-ae y))):Nat):Int))∧okI (ai 1))with|true=>(match(cr (ae (ai ((Int.gcd (ae (ai (-ae x))) (ae (ai (-ae y))):Nat):Int))) (ae (ai 1))) !=0 with|true=>(match decide (fB (ai (-ae x)) (ai ((Int.gcd (ae (ai (-ae x))) (ae (ai (-ae y))):Nat):Int)))with|true=>(match decide (fB (ai (-ae y)) (ai ((Int.gcd (ae (ai (-ae x))) (ae (ai (-ae y))):Nat):Int)))with|true=>some [RV.d (.st (.pair y2Y y2Y)) ((ai (ae (ai (-ae x))/ae (ai ((Int.gcd (ae (ai (-ae x))) (ae (ai (-ae y))):Nat):Int)))),(ai (ae (ai (-ae y))/ae (ai ((Int.gcd (ae (ai (-ae x))) (ae (ai (-ae y))):Nat):Int)))))]|false=>none)|false=>none)|false=>some [RV.d (.st (.pair y2Y y2Y)) ((ai (-ae x)),(ai (-ae y)))])|false=>none)|false=>none)|false=>none)|false=>none)|false=>(match decide (okI x∧okI y)with|true=>(match decide (okI (ai ((Int.gcd (ae x) (ae y):Nat):Int))∧okI (ai 1))with|true=>(match(cr (ae (ai ((Int.gcd (ae x) (ae y):Nat):Int))) (ae (ai 1))) !=0 with|true=>(match decide (fB x (ai ((Int.gcd (ae x) (ae y):Nat):Int)))with|true=>(match decide (fB y (ai ((Int.gcd (ae x) (ae y):Nat):Int)))with|true=>some [RV.d (.st (.pair y2Y y2Y)) ((ai (ae x/ae (ai ((Int.gcd (ae x) (ae y):Nat):Int)))),(ai (ae y/ae (ai ((Int.gcd (ae x) (ae y):Nat):Int)))))]|false=>none)|false=>none)|false=>some [RV.d (.st (.pair y2Y y2Y)) (x,y)])|false=>none)|false=>none))|false=>none
theorem aeG(x y:Bool×List Int):RS ad2 214 [.d y2Y x,.d y2Y y] (WL x y):=rsX
theorem Q9{a b:Int}(hb:b≠0){k:Nat}(h:szI b≤k):szI ((Int.gcd a b:Nat):Int)≤k:=by
 refine alg (dB ?_) h
 exact Nat.le_of_dvd (by omega) (Nat.gcd_dvd_right a.natAbs b.natAbs)
theorem VD(x y:BI)(h:jS x y):Con Tryz.prog 214 [.d y2Y x,.d y2Y y] [.d (.st (.pair y2Y y2Y)) (fx x y)]:=by
 refine fI Kw (aeG _ _ ⟨0,?_⟩)
 obtain⟨hx,hy,hne⟩:=h
 have sx:=iO hx
 have sy:=iO hy
 have hgp:0<Int.gcd (ae x) (ae y):=Nat.pos_of_ne_zero fun e=>hne (Int.gcd_eq_zero_iff.1 e).2
 have hgs:=Q9 (a:=ae x) hne sy
 unfold WL fx
 rw[ak3 hy]
 dsimp only
 rcases amU hne with hn|hn
 ·rw[db hn,ak3 (show(-1:Int)<0 by decide),ak3 hx]
  have o1:okI (ai (-ae x)):=aT (by rw[jo];exact sx)
  have o2:okI (ai (-ae y)):=aT (by rw[jo];exact sy)
  simp only[dec_enc,Int.gcd_neg,Int.neg_gcd]
  have og:okI (ai ((Int.gcd (ae x) (ae y):Nat):Int)):=aT hgs
  rw[ak3 (show okI (ai (-ae x))∧okI (ai (-ae y)) from⟨o1,o2⟩),ak3 (show okI (ai ((Int.gcd (ae x) (ae y):Nat):Int))∧okI (ai 1) from⟨og,pP⟩)]
  rw[←Rat.neg_divInt_neg,nQ (by omega),Int.gcd_neg,Int.neg_gcd]
  dsimp only
  by_cases h1:Int.gcd (ae x) (ae y)=1
  ·rw[h1]
   simp[dW]
  ·have hc:(cr ((Int.gcd (ae x) (ae y):Nat):Int) 1 !=0)=true:=by
    rw[cL (by omega)];rfl
   rw[hc,ak3 (show fB (ai (-ae x)) (ai ((Int.gcd (ae x) (ae y):Nat):Int)) from⟨o1,og,by rw[dec_enc];omega⟩),ak3 (show fB (ai (-ae y)) (ai ((Int.gcd (ae x) (ae y):Nat):Int)) from⟨o2,og,by rw[dec_enc];omega⟩)]
 ·rw[cL hn,ak5 (show ¬(1:Int)<0 by decide)]
  simp only[dec_enc]
  have og:okI (ai ((Int.gcd (ae x) (ae y):Nat):Int)):=aT hgs
  rw[ak3 (show okI x∧okI y from⟨hx,hy⟩),ak3 (show okI (ai ((Int.gcd (ae x) (ae y):Nat):Int))∧okI (ai 1) from⟨og,pP⟩),nQ hn]
  dsimp only
  by_cases h1:Int.gcd (ae x) (ae y)=1
  ·rw[h1]
   simp only[Int.natCast_one,dW,Int.ediv_one,←io hx,←io hy]
   rfl
  ·have hc:(cr ((Int.gcd (ae x) (ae y):Nat):Int) 1 !=0)=true:=by
    rw[cL (by omega)];rfl
   rw[hc,ak3 (show fB x (ai ((Int.gcd (ae x) (ae y):Nat):Int)) from⟨hx,og,by rw[dec_enc];omega⟩),ak3 (show fB y (ai ((Int.gcd (ae x) (ae y):Nat):Int)) from⟨hy,og,by rw[dec_enc];omega⟩)]
def aC(a b:Rat):Int:=bif decide (a<b)then-1 else bif decide (b<a)then 1 else 0
theorem dJ{a b:Rat}(h:a<b):aC a b= -1:=by grind [aC]
theorem dp{a b:Rat}(h:b<a):aC a b=1:=by grind [aC]
theorem dV(a:Rat):aC a a=0:=by simp[aC]
theorem ya(a b:Rat):cr (a.num*(b.den:Int)) (b.num*(a.den:Int))=aC a b:=by simp[cr,aC,Rat.lt_iff]
theorem uP(a:Rat):cr a.num 0=aC a 0:=by
 rw[←ya]
 simp
def Cd:eg:=spN false false [y2Y,y2Y] (fun x=>decide (jS x.1 x.2.1)) (fun x=>[RV.d (.st (.pair y2Y y2Y)) (fx x.1 x.2.1)])
theorem xN:SpK 214 Cd:=spX fun x h=>VD x.1 x.2.1 (ak6 h)
def abG:NT:=[((171,3),{keep:=[0,1,8],hl:=0}),((171,5),{keep:=[0,1,5,10],hl:=0})]
def aif:Ctx:=CX [] abG
def X4(x y:Int)(_k:KT):Option (List RV):=match x !=x with|true=>(match y !=y with|true=>some [RV.d aon 0]|false=>some [RV.d aon (-1)])|false=>(match y !=y with|true=>some [RV.d aon 1]|false=>(match decide (x<y)with|true=>some [RV.d aon (-1)]|false=>(match decide (x>y)with|true=>some [RV.d aon 1]|false=>some [RV.d aon 0])))
theorem ah2(x y:Int):RS aif 171 [SI x,SI y] (X4 x y):=rsX
theorem Up(x y:Int):Con Tryz.prog 171 [.d aon x,.d aon y] [.d aon (cr x y)]:=by
 refine fI (E:=[]) trivial (ah2 _ _ ⟨0,?_⟩)
 unfold X4
 rw[show(x !=x)=false by simp,show(y !=y)=false by simp]
 dsimp only
 rcases Int.lt_trichotomy x y with h|h|h
 ·rw[db h,ak3 h]
 ·subst h;rw[dW,ak5 (show ¬x<x by omega)]
 ·rw[cL h,ak5 (show ¬x<y by omega),ak3 (show x>y from h)]
def Bs:eg:=spN true false [aon,aon] (fun _=>true) (fun x=>[RV.d aon (cr x.1 x.2.1)])
theorem xW:SpK 171 Bs:=spX fun x _=>Up x.1 x.2.1
def F1:Env:=[(210,pI),(83,ur),(172,ro),(215,pi),(216,uI),(173,um),(299,yh),(214,Cd),(171,Bs)]
theorem za:EnvAll Tryz.prog F1:=⟨ky,oB,mU,kC,oE,pp,sL,xN,xW,trivial⟩
def ahV:Ctx:=CX F1 []
def aiz(x:Bool×List Int)(_k:KT):Option (List RV):=some [RV.d (.st (.pair y2Y y2Y)) (x,(ai 1))]
theorem af5(x:Bool×List Int):RS ahV 209 [.d y2Y x] (aiz x):=rsX
theorem Ul(x:BI):Con Tryz.prog 209 [.d y2Y x] [.d (.st (.pair y2Y y2Y)) (x,ai 1)]:=
 fI za (af5 _ ⟨0,rfl⟩)
def Gx:eg:=spN false false [y2Y] (fun _=>true) (fun x=>[RV.d (.st (.pair y2Y y2Y)) (x.1,ai 1)])
theorem Ed:SpK 209 Gx:=spX fun x _=>Ul x.1
def aem:Ctx:=CX F1 []
def WJ(a:(Bool×List Int)×Bool×List Int)(_k:KT):Option (List RV):=og (decide (okI a.1)) (some [RV.d aon (cr (ae a.1) 0)])
theorem agE(a:(Bool×List Int)×Bool×List Int):RS aem 41 [.d (.st (.pair y2Y y2Y)) a] (WJ a):=rsX
theorem I4(a:BR)(h:okR a):Con Tryz.prog 41 [.d (.st (.pair y2Y y2Y)) a] [.d aon (aC (ah a) 0)]:=by
 refine fI za (agE _ ⟨0,?_⟩)
 unfold WJ
 rw[ak3 h.1,←uP,(cO h).1]
def GP:eg:=spN true false [(.st (.pair y2Y y2Y))] (fun x=>decide (okR x.1)) (fun x=>[RV.d aon (aC (ah x.1) 0)])
theorem Di:SpK 41 GP:=spX fun x h=>I4 x.1 (ak6 h)
def nI:Env:=[(210,pI),(83,ur),(172,ro),(215,pi),(216,uI),(173,um),(299,yh),(214,Cd),(171,Bs),(209,Gx),(41,GP)]
theorem iU:EnvAll Tryz.prog nI:=⟨ky,oB,mU,kC,oE,pp,sL,xN,xW,Ed,Di,trivial⟩
def afI:Ctx:=CX nI []
def WZ(n:Int)(_k:KT):Option (List RV):=og (decide (aG n)) (some [RV.d (.st (.pair y2Y y2Y)) ((ai n),(ai 1))])
theorem aeM(n:Int):RS afI 99 [SI n] (WZ n):=rsX
def agh:Ctx:=CX nI []
def Y8(a b:(Bool×List Int)×Bool×List Int)(_k:KT):Option (List RV):=match decide (okR a)with|true=>(match decide (okR b)with|true=>(match(cr (aC (ah a) 0) (aC (ah b) 0)) !=0 with|true=>some [RV.d aon (cr (aC (ah a) 0) (aC (ah b) 0))]|false=>(match decide (okI a.1∧okI b.2)with|true=>(match decide (okI b.1∧okI a.2)with|true=>(match decide (okI (ai (ae a.1*ae b.2))∧okI (ai (ae b.1*ae a.2)))with|true=>some [RV.d aon (cr (ae (ai (ae a.1*ae b.2))) (ae (ai (ae b.1*ae a.2))))]|false=>none)|false=>none)|false=>none))|false=>none)|false=>none
theorem af1(a b:(Bool×List Int)×Bool×List Int):RS agh 73 [.d (.st (.pair y2Y y2Y)) a,.d (.st (.pair y2Y y2Y)) b] (Y8 a b):=rsX
def ahq:Ctx:=CX nI []
def XX(a b:(Bool×List Int)×Bool×List Int)(_k:KT):Option (List RV):=match decide (okI a.2∧okI b.2)with|true=>(match(cr (ae a.2) (ae b.2))==0 with|true=>(match decide (okI a.1∧okI b.1)with|true=>(match decide (jS (ai (ae a.1+ae b.1)) a.2)with|true=>some [RV.d (.st (.pair y2Y y2Y)) (((fx (ai (ae a.1+ae b.1)) a.2).1),((fx (ai (ae a.1+ae b.1)) a.2).2))]|false=>none)|false=>none)|false=>(match decide (okI a.1∧okI b.2)with|true=>(match decide (okI b.1∧okI a.2)with|true=>(match decide (okI (ai (ae a.1*ae b.2))∧okI (ai (ae b.1*ae a.2)))with|true=>(match decide (okI a.2∧okI b.2)with|true=>(match decide (jS (ai (ae (ai (ae a.1*ae b.2))+ae (ai (ae b.1*ae a.2)))) (ai (ae a.2*ae b.2)))with|true=>some [RV.d (.st (.pair y2Y y2Y)) (((fx (ai (ae (ai (ae a.1*ae b.2))+ae (ai (ae b.1*ae a.2)))) (ai (ae a.2*ae b.2))).1),((fx (ai (ae (ai (ae a.1*ae b.2))+ae (ai (ae b.1*ae a.2)))) (ai (ae a.2*ae b.2))).2))]|false=>none)|false=>none)|false=>none)|false=>none)|false=>none))|false=>none
theorem afp(a b:(Bool×List Int)×Bool×List Int):RS ahq 107 [.d (.st (.pair y2Y y2Y)) a,.d (.st (.pair y2Y y2Y)) b] (XX a b):=rsX
def ae2:Ctx:=CX nI []
def Yk(a:(Bool×List Int)×Bool×List Int)(_k:KT):Option (List RV):=og (decide (okI a.1)) (some [RV.d (.st (.pair y2Y y2Y)) ((ai (-ae a.1)),a.2)])
theorem afz(a:(Bool×List Int)×Bool×List Int):RS ae2 109 [.d (.st (.pair y2Y y2Y)) a] (Yk a):=rsX
def ahY:Ctx:=CX nI []
def XZ(a b:(Bool×List Int)×Bool×List Int)(_k:KT):Option (List RV):=og (decide (okI a.1∧okI b.1)) (og (decide (okI a.2∧okI b.2)) (og (decide (jS (ai (ae a.1*ae b.1)) (ai (ae a.2*ae b.2)))) (some [RV.d (.st (.pair y2Y y2Y)) (((fx (ai (ae a.1*ae b.1)) (ai (ae a.2*ae b.2))).1),((fx (ai (ae a.1*ae b.1)) (ai (ae a.2*ae b.2))).2))])))
theorem adF(a b:(Bool×List Int)×Bool×List Int):RS ahY 108 [.d (.st (.pair y2Y y2Y)) a,.d (.st (.pair y2Y y2Y)) b] (XZ a b):=rsX
def ag4:Ctx:=CX nI []
def X0(a b:(Bool×List Int)×Bool×List Int)(_k:KT):Option (List RV):=match decide (okR b)with|true=>(match(aC (ah b) 0)==0 with|true=>some [RV.d (.st (.pair y2Y y2Y)) ((false,[]),(false,[])),RV.d aon 6]|false=>(match decide (okI a.1∧okI b.2)with|true=>(match decide (okI a.2∧okI b.1)with|true=>(match decide (jS (ai (ae a.1*ae b.2)) (ai (ae a.2*ae b.1)))with|true=>some [RV.d (.st (.pair y2Y y2Y)) (((fx (ai (ae a.1*ae b.2)) (ai (ae a.2*ae b.1))).1),((fx (ai (ae a.1*ae b.2)) (ai (ae a.2*ae b.1))).2)),RV.d aon 0]|false=>none)|false=>none)|false=>none))|false=>none
theorem ae0(a b:(Bool×List Int)×Bool×List Int):RS ag4 305 [.d (.st (.pair y2Y y2Y)) a,.d (.st (.pair y2Y y2Y)) b] (X0 a b):=rsX
theorem SU(n:Int)(h:aG n):Con Tryz.prog 99 [.d aon n] [.d (.st (.pair y2Y y2Y)) (am (n:Rat))]:=by
 refine fI iU (aeM _ ⟨0,?_⟩)
 unfold WZ am
 rw[ak3 h,Rat.num_intCast,Rat.den_intCast]
 rfl
theorem gz{a:BR}(h:okR a):szI (ae a.1)≤480000∧szI (ae a.2)≤480000:=by
 have h1:=Cf h
 grind [cO,bdR]
theorem Kg(a b:Rat):(cr (aC a 0) (aC b 0)≠0→cr (aC a 0) (aC b 0)=aC a b):=by
 rcases(by grind:a<0∨a=0∨0<a)with h1|h1|h1<;>rcases(by grind:b<0∨b=0∨0<b)with h2|h2|h2
 ·grind [dJ,dW]
 ·rw[dJ h1,h2,dV,dJ h1];intro;rfl
 ·rw[dJ h1,dp h2,dJ (by grind)];intro;rfl
 ·rw[h1,dV,dJ h2,dp h2];intro;rfl
 ·grind [dV,dW]
 ·rw[h1,dV,dp h2,dJ h2];intro;rfl
 ·rw[dp h1,dJ h2,dp (by grind)];intro;rfl
 ·rw[dp h1,h2,dV,dp h1];intro;rfl
 grind [dp,dW]
theorem Tp(a b:BR)(h:okR a∧okR b):Con Tryz.prog 73 [.d (.st (.pair y2Y y2Y)) a,.d (.st (.pair y2Y y2Y)) b] [.d aon (aC (ah a) (ah b))]:=by
 refine fI iU (af1 _ _ ⟨0,?_⟩)
 obtain⟨ha,hb⟩:=h
 obtain⟨a1,a2⟩:=cO ha
 obtain⟨b1,b2⟩:=cO hb
 obtain⟨sa1,sa2⟩:=gz ha
 obtain⟨sb1,sb2⟩:=gz hb
 have h1:=cM sa1 sb2
 have h2:=cM sb1 sa2
 unfold Y8
 rw[ak3 ha,ak3 hb]
 dsimp only
 have hs:=Kg (ah a) (ah b)
 by_cases hc:cr (aC (ah a) 0) (aC (ah b) 0)=0
 ·rw[hc,ak3 (show okI a.1∧okI b.2 from⟨ha.1,hb.2.1⟩),ak3 (show okI b.1∧okI a.2 from⟨hb.1,ha.2.1⟩),ak3 (show okI (ai (ae a.1*ae b.2))∧okI (ai (ae b.1*ae a.2)) from⟨aT (by omega),aT (by omega)⟩),dec_enc,dec_enc,←a1,←a2,←b1,←b2,ya]
  rfl
 ·rw[show(cr (aC (ah a) 0) (aC (ah b) 0) !=0)=true by simpa using hc,hs hc]
theorem Ho(a:BR)(h:okR a):Con Tryz.prog 109 [.d (.st (.pair y2Y y2Y)) a] [.d (.st (.pair y2Y y2Y)) (am (-ah a))]:=by
 refine fI iU (afz _ ⟨0,?_⟩)
 obtain⟨a1,a2⟩:=cO h
 unfold Yk
 have e:am (-ah a)=(ai (-ae a.1),a.2):=by
  unfold am
  rw[Rat.neg_num,a1,show((-ah a).den:Int)=((ah a).den:Int) from rfl,a2,←io h.2.1]
 rw[ak3 h.1,e]
theorem IJ(a b:BR)(h:okR a∧okR b):Con Tryz.prog 107 [.d (.st (.pair y2Y y2Y)) a,.d (.st (.pair y2Y y2Y)) b] [.d (.st (.pair y2Y y2Y)) (am (ah a+ah b))]:=by
 refine fI iU (afp _ _ ⟨0,?_⟩)
 obtain⟨ha,hb⟩:=h
 obtain⟨a1,a2⟩:=cO ha
 obtain⟨b1,b2⟩:=cO hb
 obtain⟨sa1,sa2⟩:=gz ha
 obtain⟨sb1,sb2⟩:=gz hb
 have pa:=ha.2.2.1
 have pb:=hb.2.2.1
 have h1:=cM sa1 sb2
 have h2:=cM sb1 sa2
 have h3:=cM sa2 sb2
 have h4:=vP h1 h2
 have h5:=vP sa1 sb1
 have hda:ah a=Rat.divInt (ae a.1) (ae a.2):=by rw[←a1,←a2,al5]
 have hdb:ah b=Rat.divInt (ae b.1) (ae b.2):=by rw[←b1,←b2,al5]
 unfold XX
 rw[ak3 (show okI a.2∧okI b.2 from⟨ha.2.1,hb.2.1⟩)]
 dsimp only
 by_cases hc:ae a.2=ae b.2
 ·rw[hc,dW,ak3 (show okI a.1∧okI b.1 from⟨ha.1,hb.1⟩)]
  rw[ak3 (show jS (ai (ae a.1+ae b.1)) a.2 from⟨aT (by omega),ha.2.1,by omega⟩)]
  have e:fx (ai (ae a.1+ae b.1)) a.2=am (ah a+ah b):=by
   unfold fx
   rw[dec_enc,hda,hdb,←hc,am1,am1,am1,Rat.intCast_add]
   congr 1
   grind
  rw[e]
  rfl
 ·have hcm:(cr (ae a.2) (ae b.2)==0)=false:=by
   rcases amU hc with h|h
   ·rw[db h];rfl
   ·rw[cL h];rfl
  rw[hcm,ak3 (show okI a.1∧okI b.2 from⟨ha.1,hb.2.1⟩),ak3 (show okI b.1∧okI a.2 from⟨hb.1,ha.2.1⟩),ak3 (show okI (ai (ae a.1*ae b.2))∧okI (ai (ae b.1*ae a.2)) from⟨aT (by omega),aT (by omega)⟩)]
  simp only[dec_enc]
  rw[ak3 (show jS (ai (ae a.1*ae b.2+ae b.1*ae a.2)) (ai (ae a.2*ae b.2)) from⟨aT (by omega),aT (by omega),by rw[dec_enc];exact anK (by omega) (by omega)⟩)]
  have e:fx (ai (ae a.1*ae b.2+ae b.1*ae a.2)) (ai (ae a.2*ae b.2))=am (ah a+ah b):=by
   unfold fx
   rw[dec_enc,dec_enc,hda,hdb,Rat.divInt_add_divInt _ _ (by omega) (by omega)]
  rw[e]
theorem Uf(a b:BR)(h:okR a∧okR b):Con Tryz.prog 108 [.d (.st (.pair y2Y y2Y)) a,.d (.st (.pair y2Y y2Y)) b] [.d (.st (.pair y2Y y2Y)) (am (ah a*ah b))]:=by
 refine fI iU (adF _ _ ⟨0,?_⟩)
 obtain⟨ha,hb⟩:=h
 obtain⟨a1,a2⟩:=cO ha
 obtain⟨b1,b2⟩:=cO hb
 obtain⟨sa1,sa2⟩:=gz ha
 obtain⟨sb1,sb2⟩:=gz hb
 have pa:=ha.2.2.1
 have pb:=hb.2.2.1
 have h1:=cM sa1 sb1
 have h3:=cM sa2 sb2
 have hda:ah a=Rat.divInt (ae a.1) (ae a.2):=by rw[←a1,←a2,al5]
 have hdb:ah b=Rat.divInt (ae b.1) (ae b.2):=by rw[←b1,←b2,al5]
 unfold XZ
 rw[ak3 (show okI a.1∧okI b.1 from⟨ha.1,hb.1⟩),ak3 (show okI a.2∧okI b.2 from⟨ha.2.1,hb.2.1⟩),ak3 (show jS (ai (ae a.1*ae b.1)) (ai (ae a.2*ae b.2)) from⟨aT (by omega),aT (by omega),by rw[dec_enc];exact anK (by omega) (by omega)⟩)]
 have e:fx (ai (ae a.1*ae b.1)) (ai (ae a.2*ae b.2))=am (ah a*ah b):=by
  unfold fx
  rw[dec_enc,dec_enc,hda,hdb,anL]
 rw[e]
def iv(a b:BR):Prop:=okR a∧okR b∧ae b.1≠0
instance (a b:BR):Decidable (iv a b):=by unfold iv;infer_instance
theorem Tj(a b:BR)(h:iv a b):Con Tryz.prog 305 [.d (.st (.pair y2Y y2Y)) a,.d (.st (.pair y2Y y2Y)) b] [.d (.st (.pair y2Y y2Y)) (am (ah a/ah b)),.d aon 0]:=by
 refine fI iU (ae0 _ _ ⟨0,?_⟩)
 obtain⟨ha,hb,hne⟩:=h
 obtain⟨a1,a2⟩:=cO ha
 obtain⟨b1,b2⟩:=cO hb
 obtain⟨sa1,sa2⟩:=gz ha
 obtain⟨sb1,sb2⟩:=gz hb
 have pa:=ha.2.2.1
 have h1:=cM sa1 sb2
 have h3:=cM sa2 sb1
 have hda:ah a=Rat.divInt (ae a.1) (ae a.2):=by rw[←a1,←a2,al5]
 have hdb:ah b=Rat.divInt (ae b.1) (ae b.2):=by rw[←b1,←b2,al5]
 have hnz:(aC (ah b) 0==0)=false:=by
  rw[←uP,b1]
  rcases amU hne with h|h
  ·rw[db h];rfl
  ·rw[cL h];rfl
 unfold X0
 rw[ak3 hb,hnz,ak3 (show okI a.1∧okI b.2 from⟨ha.1,hb.2.1⟩),ak3 (show okI a.2∧okI b.1 from⟨ha.2.1,hb.1⟩),ak3 (show jS (ai (ae a.1*ae b.2)) (ai (ae a.2*ae b.1)) from⟨aT (by omega),aT (by omega),by rw[dec_enc];exact anK (by omega) hne⟩)]
 have e:fx (ai (ae a.1*ae b.2)) (ai (ae a.2*ae b.1))=am (ah a/ah b):=by
  unfold fx
  rw[dec_enc,dec_enc,hda,hdb,anM,Rat.inv_divInt,anL]
 rw[e]
def MH:eg:=spN false false [(.st (.pair y2Y y2Y)),(.st (.pair y2Y y2Y))] (fun x=>decide (okR x.1∧okR x.2.1)) (fun x=>[RV.d (.st (.pair y2Y y2Y)) (am (ah x.1+ah x.2.1))])
theorem Oc:SpK 107 MH:=spX fun x h=>IJ x.1 x.2.1 (ak6 h)
def PL:eg:=spN false false [(.st (.pair y2Y y2Y))] (fun x=>decide (okR x.1)) (fun x=>[RV.d (.st (.pair y2Y y2Y)) (am (-ah x.1))])
theorem NC:SpK 109 PL:=spX fun x h=>Ho x.1 (ak6 h)
def HO:Env:=[(210,pI),(83,ur),(172,ro),(215,pi),(216,uI),(173,um),(299,yh),(214,Cd),(171,Bs),(209,Gx),(41,GP),(107,MH),(109,PL)]
theorem FK:EnvAll Tryz.prog HO:=⟨ky,oB,mU,kC,oE,pp,sL,xN,xW,Ed,Di,Oc,NC,trivial⟩
def ah8:Ctx:=CX HO []
def Y0(a b:(Bool×List Int)×Bool×List Int)(_k:KT):Option (List RV):=match decide (okR b)with|true=>(match decide (okR a∧okR (am (-ah b)))with|true=>some [RV.d (.st (.pair y2Y y2Y)) (((am (ah a+ah (am (-ah b)))).1),((am (ah a+ah (am (-ah b)))).2))]|false=>none)|false=>none
theorem ahd(a b:(Bool×List Int)×Bool×List Int):RS ah8 106 [.d (.st (.pair y2Y y2Y)) a,.d (.st (.pair y2Y y2Y)) b] (Y0 a b):=rsX
theorem Tw(a b:BR)(h:okR a∧okR b):Con Tryz.prog 106 [.d (.st (.pair y2Y y2Y)) a,.d (.st (.pair y2Y y2Y)) b] [.d (.st (.pair y2Y y2Y)) (am (ah a-ah b))]:=by
 refine fI FK (ahd _ _ ⟨0,?_⟩)
 obtain⟨ha,hb⟩:=h
 unfold Y0
 rw[ak3 hb,cB,anB,ak3 (show okR a∧okR (am (-ah b)) from⟨ha,pV (vX (Cf hb)) (ak9 _)⟩)]
section
namespace RL
theorem ko{x y B e:Rat}(h1:x<B)(h2: -B<x)(h3:y<e)(h4: -e<y):x*y<B*e:=by
 have p:=alv (a:=B-x) (b:=e+y) (by grind) (by grind)
 have q:=alv (a:=B+x) (b:=e-y) (by grind) (by grind)
 grind
theorem XA{e:Rat}(h:0<e):0<e/2:=by grind
theorem zw{e B:Rat}(h:0<e)(hB:0<B):∃d,0<d∧B*d+B*d<e:=by
 refine⟨e/(4*B),?_,?_⟩
 ·exact alv h (aoj.2 (by grind))
 ·have:B*(e/(4*B))=e/4:=by grind
  grind
structure CS where
 f:Nat→Rat
 cau:∀e:Rat,0<e→∃N,∀m n,N≤m→N≤n→f m-f n<e
theorem CS.bd(a:CS):∃B:Rat,0<B∧∃N,∀n,N≤n→ -B<a.f n∧a.f n<B:=by
 obtain⟨N,h⟩:=a.cau 1 (by grind)
 refine⟨(if 0≤a.f N then a.f N else-a.f N)+1,?_,N,fun n hn=>?_⟩
 ·split<;>grind
 ·have h1:=h n N hn (ak9 _)
  have h2:=h N n (ak9 _) hn
  split<;>grind
def add(a b:CS):CS:=⟨fun n=>a.f n+b.f n,fun e he=>by
 obtain⟨N,h⟩:=a.cau (e/2) (by grind)
 obtain⟨M,h'⟩:=b.cau (e/2) (by grind)
 refine⟨max N M,fun m n hm hn=>?_⟩
 have:=h m n (by omega) (by omega)
 have:=h' m n (by omega) (by omega)
 grind⟩
def neg(a:CS):CS:=⟨fun n=> -a.f n,fun e he=>by
 obtain⟨N,h⟩:=a.cau e he
 exact⟨N,fun m n hm hn=>by have:=h n m hn hm;grind⟩⟩
theorem KY(a b:CS)(e:Rat)(he:0<e):∃N,∀m n,N≤m→N≤n→a.f m*b.f m-a.f n*b.f n<e:=by
 obtain⟨A,hA,N1,h1⟩:=a.bd
 obtain⟨B,hB,N2,h2⟩:=b.bd
 obtain⟨d,hd,hd'⟩:=zw (e:=e) (B:=A+B) he (by grind)
 obtain⟨N3,h3⟩:=a.cau d hd
 obtain⟨N4,h4⟩:=b.cau d hd
 refine⟨max (max N1 N2) (max N3 N4),fun m n hm hn=>?_⟩
 have a1:=h1 m (by omega)
 have b1:=h2 n (by omega)
 have p:=ko a1.2 a1.1 (h4 m n (by omega) (by omega)) (by have:=h4 n m (by omega) (by omega);grind)
 have q:=ko b1.2 b1.1 (h3 m n (by omega) (by omega)) (by have:=h3 n m (by omega) (by omega);grind)
 have r:=alv hA hd
 have s:=alv hB hd
 grind
def mul(a b:CS):CS:=⟨fun n=>a.f n*b.f n,KY a b⟩
def eqv(a b:CS):Prop:=∀e:Rat,0<e→∃N,∀n,N≤n→a.f n-b.f n<e∧b.f n-a.f n<e
instance st:Setoid CS where
 r:=eqv
 iseqv:=⟨fun a e he=>⟨0,fun n _=>by grind⟩,fun h e he=>by
   obtain⟨N,h⟩:=h e he
   exact⟨N,fun n hn=>⟨(h n hn).2,(h n hn).1⟩⟩,
  fun h h' e he=>by
   obtain⟨N,h⟩:=h (e/2) (by grind)
   obtain⟨M,h'⟩:=h' (e/2) (by grind)
   refine⟨max N M,fun n hn=>?_⟩
   have:=h n (by omega)
   have:=h' n (by omega)
   grind⟩
def const(q:Rat):CS:=⟨fun _=>q,fun e he=>⟨0,fun m n _ _=>by grind⟩⟩
end RL
def RE:Type:=Quotient RL.st
namespace RE
open RL
def of(q:Rat):RE:=Quotient.mk _ (const q)
theorem ZU(a b a' b':CS)(h:a≈a')(h':b≈b'):add a b≈add a' b':=fun e he=>by
 obtain⟨N,h⟩:=h (e/2) (by grind)
 obtain⟨M,h'⟩:=h' (e/2) (by grind)
 refine⟨max N M,fun n hn=>?_⟩
 have:=h n (by omega)
 have:=h' n (by omega)
 simp only[RL.add]
 grind
theorem adn(a a':CS)(h:a≈a'):neg a≈neg a':=fun e he=>by
 obtain⟨N,h⟩:=h e he
 refine⟨N,fun n hn=>?_⟩
 have:=h n (by omega)
 simp only[RL.neg]
 grind
theorem adl(a b a' b':CS)(h:a≈a')(h':b≈b'):mul a b≈mul a' b':=fun e he=>by
 obtain⟨A,hA,N1,h1⟩:=a.bd
 obtain⟨B,hB,N2,h2⟩:=b'.bd
 obtain⟨d,hd,hd'⟩:=zw (e:=e) (B:=A+B) he (by grind)
 obtain⟨N3,h3⟩:=h d hd
 obtain⟨N4,h4⟩:=h' d hd
 refine⟨max (max N1 N2) (max N3 N4),fun n hn=>?_⟩
 have a1:=h1 n (by omega)
 have b1:=h2 n (by omega)
 have a3:=h3 n (by omega)
 have b3:=h4 n (by omega)
 have p:=ko a1.2 a1.1 (y:=b.f n-b'.f n) b3.1 (by grind)
 have q:=ko b1.2 b1.1 (y:=a.f n-a'.f n) a3.1 (by grind)
 have p':=ko a1.2 a1.1 (y:=b'.f n-b.f n) b3.2 (by grind)
 have q':=ko b1.2 b1.1 (y:=a'.f n-a.f n) a3.2 (by grind)
 have r:=alv hA hd
 have s:=alv hB hd
 simp only[RL.mul]
 constructor<;>grind
instance:Add RE:=⟨Quotient.lift₂ (fun a b=>Quotient.mk _ (add a b)) (fun _ _ _ _ h h'=>anz (ZU _ _ _ _ h h'))⟩
instance:Neg RE:=⟨Quotient.lift (fun a=>Quotient.mk _ (neg a)) (fun _ _ h=>anz (adn _ _ h))⟩
instance:Sub RE:=⟨fun a b=>a+ -b⟩
instance:Mul RE:=⟨Quotient.lift₂ (fun a b=>Quotient.mk _ (mul a b)) (fun _ _ _ _ h h'=>anz (adl _ _ _ _ h h'))⟩
theorem snd{a b:CS}(h:∀n,a.f n=b.f n):(Quotient.mk st a:RE)=Quotient.mk st b:=
 anz fun e he=>⟨0,fun n _=>by rw[h n];grind⟩
instance (n:Nat):OfNat RE n:=⟨of (OfNat.ofNat n)⟩
theorem of_add(a b:Rat):of (a+b)=of a+of b:=rfl
theorem aH(a b:Rat):of (a*b)=of a*of b:=rfl
theorem of_neg(a:Rat):of (-a)= -of a:=rfl
theorem of_sub(a b:Rat):of (a-b)=of a-of b:=by rw[anB];rfl
theorem nf:of 0=0:=rfl
theorem Bf:of 1=1:=rfl
theorem add_zero(a:RE):a+0=a:=by
 induction a using ami;exact snd fun n=>Rat.add_zero _
theorem add_comm(a b:RE):a+b=b+a:=by
 induction a,b using anN;exact snd fun n=>Rat.add_comm _ _
theorem add_assoc(a b c:RE):a+b+c=a+(b+c):=by
 induction a,b,c using ang;exact snd fun n=>Rat.add_assoc _ _ _
theorem mul_assoc(a b c:RE):a*b*c=a*(b*c):=by
 induction a,b,c using ang;exact snd fun n=>Rat.mul_assoc _ _ _
theorem mul_comm(a b:RE):a*b=b*a:=by
 induction a,b using anN;exact snd fun n=>amq _ _
theorem mul_one(a:RE):a*1=a:=by
 induction a using ami;exact snd fun n=>Rat.mul_one _
theorem mul_zero(a:RE):a*0=0:=by
 induction a using ami;exact snd fun n=>Rat.mul_zero _
theorem left_distrib(a b c:RE):a*(b+c)=a*b+a*c:=by
 induction a,b,c using ang;exact snd fun n=>Rat.mul_add _ _ _
theorem wj(a:RE): -a+a=0:=by
 induction a using ami;exact snd fun n=>Rat.neg_add_cancel _
def clt(a b:CS):Prop:=∃e:Rat,0<e∧∃N,∀n,N≤n→a.f n+e<b.f n
theorem QS(a b a' b':CS)(h:a≈a')(h':b≈b')(hl:clt a b):clt a' b':=by
 obtain⟨e,he,N,hl⟩:=hl
 obtain⟨N1,h⟩:=h (e/4) (by grind)
 obtain⟨N2,h'⟩:=h' (e/4) (by grind)
 refine⟨e/2,by grind,max N (max N1 N2),fun n hn=>?_⟩
 have:=hl n (by omega)
 have:=h n (by omega)
 have:=h' n (by omega)
 grind
instance:LT RE:=⟨Quotient.lift₂ clt (fun _ _ _ _ h h'=>propext ⟨QS _ _ _ _ h h',QS _ _ _ _ (Setoid.symm h) (Setoid.symm h')⟩)⟩
instance:LE RE:=⟨fun a b=>¬b<a⟩
theorem lt_irrefl(a:RE):¬a<a:=by
 induction a using ami
 rintro ⟨e,he,N,h⟩
 have:=h N (ak9 _)
 grind
theorem cV{a b c:RE}:a<b→b<c→a<c:=by
 induction a,b,c using ang
 rintro ⟨e,he,N,h⟩ ⟨e',he',N',h'⟩
 refine⟨e,he,max N N',fun n hn=>?_⟩
 have:=h n (by omega)
 have:=h' n (by omega)
 grind
theorem mN(a b:RE):a<b∨a=b∨b<a:=by
 induction a,b using anN
 rename_i a b
 by_cases h1:clt a b
 ·exact .inl h1
 by_cases h2:clt b a
 ·exact .inr (.inr h2)
 refine .inr (.inl (anz fun e he=>?_))
 obtain⟨N,ha⟩:=a.cau (e/4) (by grind)
 obtain⟨M,hb⟩:=b.cau (e/4) (by grind)
 have g1:∃n,max N M≤n∧b.f n≤a.f n+e/4:=by
  apply aln
  intro hc
  exact h1 ⟨e/4,by grind,max N M,fun n hn=>by
   apply aln
   intro h
   exact hc ⟨n,hn,by grind⟩⟩
 have g2:∃n,max N M≤n∧a.f n≤b.f n+e/4:=by
  apply aln
  intro hc
  exact h2 ⟨e/4,by grind,max N M,fun n hn=>by
   apply aln
   intro h
   exact hc ⟨n,hn,by grind⟩⟩
 obtain⟨p,hp,gp⟩:=g1
 obtain⟨q,hq,gq⟩:=g2
 refine⟨max N M,fun n hn=>?_⟩
 have a1:=ha n q (by omega) (by omega)
 have b1:=hb q n (by omega) (by omega)
 have a2:=ha p n (by omega) (by omega)
 have b2:=hb n p (by omega) (by omega)
 constructor<;>grind
theorem ku{a b:RE}(c:RE):a<b→a+c<b+c:=by
 induction a,b,c using ang
 rintro ⟨e,he,N,h⟩
 refine⟨e,he,N,fun n hn=>?_⟩
 have:=h n hn
 simp only[RL.add]
 grind
theorem mul_pos{a b:RE}:0<a→0<b→0<a*b:=by
 induction a,b using anN
 rintro ⟨e,he,N,h⟩ ⟨e',he',N',h'⟩
 refine⟨e*e',alv he he',max N N',fun n hn=>?_⟩
 have h1:=h n (by omega)
 have h2:=h' n (by omega)
 simp only[RL.const]at h1 h2 ⊢
 rename_i a b
 have p:=alv (a:=a.f n-e) (b:=b.f n-e') (by grind) (by grind)
 have q:=alv (a:=a.f n-e) (b:=e') (by grind) (by grind)
 have r:=alv (a:=e) (b:=b.f n-e') (by grind) (by grind)
 simp only[RL.mul]
 grind
theorem hZ{a b:Rat}(h:a<b):of a<of b:=⟨(b-a)/2,by grind,0,fun n _=>by simp only[RL.const];grind⟩
theorem E7(a:RE):0<a→∃b,a*b=1:=by
 induction a using ami
 rename_i a
 rintro ⟨e,he,N,h⟩
 simp only[RL.const]at h
 have hp:∀n,N≤n→0<(a.f n)⁻¹∧(a.f n)⁻¹<e⁻¹:=fun n hn=>by
  have h1:=h n hn
  have h2:0<(a.f n)⁻¹:=aoj.2 (by grind)
  have h3:0<e⁻¹:=aoj.2 he
  refine⟨h2,?_⟩
  have h4:=alv (alv h2 h3) (show 0<a.f n-e by grind)
  have e1:(a.f n)⁻¹*e⁻¹*(a.f n-e)=e⁻¹-(a.f n)⁻¹:=by grind
  grind
 refine⟨Quotient.mk _ ⟨fun n=>(a.f n)⁻¹,fun d hd=>?_⟩,anz fun d hd=>⟨N,fun n hn=>?_⟩⟩
 ·have hE:0<e⁻¹:=aoj.2 he
  obtain⟨M,hM⟩:=a.cau (d*e*e) (alv (alv hd he) he)
  refine⟨max N M,fun m n hm hn=>?_⟩
  have h1:=hp m (by omega)
  have h2:=hp n (by omega)
  have h3:=hM n m (by omega) (by omega)
  have hm':=h m (by omega)
  have hn':=h n (by omega)
  have e1:(a.f m)⁻¹-(a.f n)⁻¹=((a.f m)⁻¹*(a.f n)⁻¹)*(a.f n-a.f m):=by grind
  rw[e1]
  have p1:=alv h1.1 h2.1
  have p2:=alv p1 (show 0<d*e*e-(a.f n-a.f m) by grind)
  have p3:=alv (show 0<e⁻¹-(a.f m)⁻¹ by grind) hE
  have p4:=alv h1.1 (show 0<e⁻¹-(a.f n)⁻¹ by grind)
  have p5:(a.f m)⁻¹*(a.f n)⁻¹<e⁻¹*e⁻¹:=by grind
  have p6:=alv (show 0<e⁻¹*e⁻¹-(a.f m)⁻¹*(a.f n)⁻¹ by grind) (alv (alv hd he) he)
  have p7:e⁻¹*e⁻¹*(d*e*e)=d:=by grind
  grind
 ·have:=h n hn
  simp only[RL.mul,RL.const]
  have:a.f n*(a.f n)⁻¹=1:=Rat.mul_inv_cancel _ (by grind)
  rw[this]
  grind
end RE
end
end Go.Proofs.YtnkndpoojnflmaaGreat
end
