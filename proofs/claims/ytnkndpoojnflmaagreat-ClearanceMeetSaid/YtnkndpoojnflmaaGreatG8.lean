/- integer: divide, its contract. -/
import Derived.Test.YtnkndpoojnflmaaGreatG7
noncomputable section
namespace Go.Proofs.YtnkndpoojnflmaaGreat
open Go.RowKit Go.IntKind
theorem alt:type_of% @Rat.mul_pos:=@Rat.mul_pos
theorem alB:type_of% @List.length_pos_iff:=@List.length_pos_iff
theorem al2:type_of% @Rat.num_divInt_den:=@Rat.num_divInt_den
theorem al9:type_of% @beq_iff_eq:=@beq_iff_eq
theorem ama:type_of% @Int.eq_ofNat_of_zero_le:=@Int.eq_ofNat_of_zero_le
theorem ame:type_of% @Quotient.inductionOn:=@Quotient.inductionOn
theorem amy:type_of% @Int.natAbs_natCast:=@Int.natAbs_natCast
theorem amO:type_of% @Rat.mul_comm:=@Rat.mul_comm
theorem amS:type_of% @Int.lt_or_lt_of_ne:=@Int.lt_or_lt_of_ne
theorem amY:type_of% @Bool.decide_and:=@Bool.decide_and
theorem am4:type_of% @Nat.gcd_comm:=@Nat.gcd_comm
theorem am5:type_of% @Quotient.inductionOn₃:=@Quotient.inductionOn₃
theorem anp:type_of% @Rat.divInt_ofNat:=@Rat.divInt_ofNat
theorem anq:type_of% @Quotient.sound:=@Quotient.sound
theorem anv:type_of% @Rat.sub_eq_add_neg:=@Rat.sub_eq_add_neg
theorem anE:type_of% @Nat.mul_ne_zero:=@Nat.mul_ne_zero
theorem anF:type_of% @Int.mul_ne_zero:=@Int.mul_ne_zero
theorem anG:type_of% @Rat.divInt_mul_divInt:=@Rat.divInt_mul_divInt
theorem anH:type_of% @Rat.div_def:=@Rat.div_def
theorem anI:type_of% @Quotient.inductionOn₂:=@Quotient.inductionOn₂
theorem anQ:type_of% @Int.natAbs_mul:=@Int.natAbs_mul
theorem an1:type_of% @Rat.num_mkRat:=@Rat.num_mkRat
theorem an2:type_of% @Rat.den_mkRat:=@Rat.den_mkRat
theorem aoe:type_of% @Rat.inv_pos:=@Rat.inv_pos
def pI(a b:List Int):Prop:=(Lim a∧a.length≤100000000)∧(Lim b∧b.length≤100000000)∧0<val b
instance (a b:List Int):Decidable (pI a b):=by unfold pI;infer_instance
structure afG (a b q r:List Int):Prop where
 lq:Lim q
 lr:Lim r
 sq:q.length≤200000000
 sr:r.length≤200000000
 q:val q=val a/val b
 r:val r=val a%val b
theorem wh(x:Int):val [x]=x:=by simp[val]
theorem uB{l:List Int}(h:can l){m:Nat}(hl:l.length=m+1):1≤l[m]:=by
 have h2:=h.2
 have h1:=h.1.get (show m<l.length by omega)
 grind
set_option maxHeartbeats 1000000 in
theorem Gg(a b:List Int)(h:pI a b):∃q r,afG a b q r∧Con Tryz.prog 340 [.d aoh a,.d aoh b] [.d aoh q,.d aoh r]:=by
 obtain⟨⟨la,sa⟩,⟨lb,sb⟩,hb⟩:=h
 have ha:aQ a:=⟨la,by omega⟩
 have hb':aQ b:=⟨lb,by omega⟩
 have va:=bi (val a).toNat
 have vb:=bi (val b).toNat
 have na:=aP la
 have va':val (ag (val a).toNat)=val a:=by omega
 have vb':val (ag (val b).toNat)=val b:=by omega
 have lna:=jX la
 have lnb:=jX lb
 have ca:=eg (val a).toNat
 have cb:=eg (val b).toNat
 have hla:aQ (ag (val a).toNat):=⟨ca.1,by omega⟩
 have hlb:aQ (ag (val b).toNat):=⟨cb.1,by omega⟩
 have go:∀{q r},gL.Res 340 [.d aoh a,.d aoh b] [.d aoh q,.d aoh r]→Con Tryz.prog 340 [.d aoh a,.d aoh b] [.d aoh q,.d aoh r]:=fun hr=>fW JX hr
 have hb0:ag (val b).toNat≠[]:=fun e=>by rw[ii]at e;omega
 by_cases h1:(ag (val b).toNat).length=1
 ·have t1:=uB cb (m:=0) h1
  have t2:=cb.1.get (show 0<(ag (val b).toNat).length by omega)
  have e0:(ag (val b).toNat)[0]=val b:=by
   obtain⟨x,hx⟩:=List.length_eq_one_iff.1 h1
   have:=vb'
   rw[hx,wh]at this
   simp[hx,this]
  have hq0:0≤val a/val b:=al1 na (by omega)
  have hq1:val a/val b≤val a:=amU _ na
  have hr0:=al6 (val a) (show val b≠0 by omega)
  have hr1:=alH (val a) hb
  have hal:=bW ca.1
  refine⟨dig (ag (val a).toNat).length (val a/val b),[val a%val b],⟨nX _ _,Lim.cons ⟨hr0,by omega⟩ Lim.nil,by rw[iY];omega,by simp,iG _ _ hq0 (by omega),wh _⟩,go (L7 _ _ ⟨0,?_⟩)⟩
  unfold IU
  rw[akY ha,akY hb',h1,Af,akZ (show 0<(ag (val b).toNat).length by omega),e0]
  dsimp only
  rw[akY (show Cy (ag (val a).toNat) (val b) from⟨hla,by omega,by omega⟩),va']
  rfl
 have hlen:2≤(ag (val b).toNat).length:=by
  rcases alF (ag (val b).toNat).length 2 with h|h
  ·exfalso
   have:(ag (val b).toNat).length≠0:=fun e=>hb0 (amT e)
   omega
  ·exact h
 by_cases hlt:val a<val b
 ·refine⟨[],ag (val a).toNat,⟨Lim.nil,ca.1,by simp,by omega,?_,?_⟩,go (L7 _ _ ⟨0,?_⟩)⟩
  ·rw[amh na hlt];rfl
  ·rw[anb na hlt];exact va'
  ·unfold IU
   rw[akY ha,akY hb',show(((ag (val b).toNat).length:Int)==1)=false by simp;omega,akY (show aQ (ag (val a).toNat)∧aQ (ag (val b).toNat) from⟨hla,hlb⟩),va',vb',df hlt,akY (show(ag (val a).toNat).length*4≤140737488355328∧(ag (val a).toNat).length≤140737488355328 by omega)]
   rfl
 ·obtain⟨m,hm⟩:∃m,(ag (val b).toNat).length=m+2:=⟨(ag (val b).toNat).length-2,by omega⟩
  have hxm:m+1<(ag (val b).toNat).length:=by omega
  have t1:=uB cb (m:=m+1) hm
  have t2:=cb.1.get hxm
  generalize hx2:(ag (val b).toNat)[m+1]=x2 at t1 t2
  obtain⟨s1,s2,s3,s4⟩:=OS t1 t2.2
  have esc:u32.wrap (u64.wrap (Int.tdiv 1000000000 (u64.wrap ((u64.wrap x2)+1))))=1000000000/(x2+1):=by
   rw[bj (x:=x2) (by omega) (by omega),bj (x:=x2+1) (by omega) (by omega),ic (by omega),bj (x:=1000000000/(x2+1)) (by omega) (by omega),c7 (x:=1000000000/(x2+1)) (by omega) (by omega)]
  generalize hsc:1000000000/(x2+1)=sc at s1 s2 s3 s4 esc
  have hsl:aQ [sc]:=⟨Lim.cons ⟨by omega,by omega⟩ Lim.nil,by simp⟩
  have hbl:=bW cb.1
  rw[vb',hm]at hbl
  have hP:=co (m+1)
  have hbtop:=aX hxm
  rw[amf (by omega),vb',hx2]at hbtop
  have hbt0:=aP (cb.1.take (m+1))
  have hbt1:=bW (cb.1.take (m+1))
  rw[alK,alM (by omega)]at hbt1
  have hVhi:val b*sc<pw (m+2):=by
   have e1:val b*sc<(pw (m+1)*(x2+1))*sc:=Int.mul_lt_mul_of_pos_right (by rw[aod,ank];omega) (by omega)
   have e2:(pw (m+1)*(x2+1))*sc=pw (m+1)*((x2+1)*sc):=Int.mul_assoc _ _ _
   have e3:pw (m+1)*((x2+1)*sc)≤pw (m+1)*1000000000:=ak6 s3 (alG hP)
   rw[b8]
   omega
  have hVlo:pw (m+1)*500000000≤val b*sc:=by
   have e1:pw (m+1)*x2*sc≤val b*sc:=alb (by omega) (by omega)
   have e2:pw (m+1)*x2*sc=pw (m+1)*(x2*sc):=Int.mul_assoc _ _ _
   have e3:pw (m+1)*500000000≤pw (m+1)*(x2*sc):=ak6 s4 (alG hP)
   omega
  have hV0:0<val b*sc:=Int.mul_pos hb (by omega)
  have edv:val (dig (m+2+1) (val b*sc))=val b*sc:=iG _ _ (by omega) (by rw[b8];omega)
  obtain⟨v,hv⟩:∃v,ag (val b*sc).toNat=v:=⟨_,rfl⟩
  have cv:=eg (val b*sc).toNat
  have vv:=bi (val b*sc).toNat
  rw[hv]at cv vv
  have hvv:val v=val b*sc:=by omega
  have hvl:v.length=m+2:=by
   have h1:v.length≤m+2:=by rw[←hv];exact dm (by omega)
   have h2:m+1<v.length:=by rw[←hv];exact AX (by omega)
   omega
  have htop:500000000≤v[m+1]:=by
   rcases alu v[m+1] 500000000 with hc|hc
   ·exfalso
    have e1:=aX (l:=v) (n:=m+1) (by omega)
    rw[amf (by omega),hvv]at e1
    have e2:=bW (cv.1.take (m+1))
    rw[alK,alM (by omega)]at e2
    have e3:=ak6 (show v[m+1]≤499999999 by omega) (alG hP)
    omega
   ·exact hc
  have hal:=bW ca.1
  rw[va']at hal
  have hA0:0≤val a*sc:=alW na (by omega)
  have hA1:val a*sc<pw ((ag (val a).toNat).length+1):=by
   have e1:val a*sc≤pw (ag (val a).toNat).length*sc:=alb (by omega) (by omega)
   have e2:pw (ag (val a).toNat).length*sc<pw (ag (val a).toNat).length*1000000000:=Int.mul_lt_mul_of_pos_left (by omega) (co _)
   rw[b8]
   omega
  have lab:m+2≤(ag (val a).toNat).length:=by
   rw[←hm]
   rcases alF (ag (val a).toNat).length (ag (val b).toNat).length with hc|hc
   ·have:=vW hc;omega
   ·exact hc
  generalize hlA:(ag (val a).toNat).length=L at*
  have hdl:(dig (L+1) (val a*sc)++[0]).length=L+2:=by simp[iY]
  have hdv:val (dig (L+1) (val a*sc)++[0])=val a*sc:=by rw[dG,iG _ _ hA0 hA1];simp[val]
  have hmul:=hvv
  obtain⟨q,r,⟨f1,f2,f3,f4,f5,f6⟩,n,hrun⟩:=Mi b x2 v m hm (by rw[esc,hm,vb',wh];simp only[alo];rw[edv];exact hv) cv.1 hvl sc esc s1 s2 htop (val a*sc) (L-m) (List.replicate (L-m) 0) (dig (L+1) (val a*sc)++[0])
   (Lim.rep _) ((nX _ _).append (Lim.cons (by decide) Lim.nil)) (by rw[hdl];simp;omega) (by rw[hdl];omega) (by simp) (by rw[gS,hdv];omega) (fun j hj _=>by simp) (by
    rw[hdv,hvv]
    have e1:pw (m+1)*500000000*pw (L-m)≤val b*sc*pw (L-m):=alb hVlo (alG (co _))
    have e2:pw (m+1)*500000000*pw (L-m)=pw (L+1)*500000000:=by
     rw[show L+1=m+1+(L-m) by omega,fB (m+1) (L-m),Int.mul_right_comm]
    have:=co (L+1)
    omega)
  have hq:val a*sc/(val b*sc)=val a/val b:=Int.mul_ediv_mul_of_pos_left _ _ (by omega)
  have hr:val a*sc%(val b*sc)/sc=val a%val b:=by
   rw[amN (val a),amN (val b),Int.mul_emod_mul_of_pos _ _ (by omega),amN]
   exact Int.mul_ediv_cancel _ (by omega)
  rw[hvv]at f5 f6
  rw[hq]at f5
  rw[hr]at f6
  refine⟨q,r,⟨f1,f2,by rw[f3];simp;omega,by omega,f5,f6⟩,go (L7 _ _ ⟨n,?_⟩)⟩
  unfold IU
  have e1:i64.wrap (((m+2:Nat):Int)-1)=((m+1:Nat):Int):=by rw[aS (by omega) (by omega)];omega
  have e2:i64.wrap (((L+2:Nat):Int)-((m+2:Nat):Int))=((L-m:Nat):Int):=by rw[aS (by omega) (by omega)];omega
  have e3:i64.wrap (((L-m:Nat):Int)-1)=((L-m:Nat):Int)-1:=aS (by omega) (by omega)
  rw[akY ha,akY hb',hm,show(((m+2:Nat):Int)==1)=false by simp;omega,akY (show aQ (ag (val a).toNat)∧aQ (ag (val b).toNat) from⟨hla,hlb⟩),va',vb',show decide (cp (val a) (val b)<0)=false by
   rcases alu (val b) (val a)with hc|hc
   ·rw[cO hc];rfl
   ·rw[show val a=val b by omega,d7];rfl,e1,ao (ag (val b).toNat) (m+1),akZ hxm,hx2]
  dsimp only
  rw[esc,bj (x:=x2) (by omega) (by omega),bj (x:=x2+1) (by omega) (by omega),ak0 (show ¬x2+1=0 by omega),akY (show aQ (ag (val a).toNat)∧aQ [sc] from⟨hla,hsl⟩),akY (show aQ (ag (val b).toNat)∧aQ [sc] from⟨hlb,hsl⟩),wh,hlA]
  rw[alo,alo,hdl,iY (L+1)]
  rw[akY (show(L+1+1)*4≤140737488355328∧L+1+1≤140737488355328 by omega),akY (show aQ (dig (m+2+1) (val b*sc)) from jE (by omega) _),e2,tC (by omega),aB,e3]
  exact hrun
abbrev BI:=Bool×List Int
def okI(x:BI):Prop:=can x.2∧(x.1=true→x.2≠[])∧x.2.length≤1000000
instance (x:BI):Decidable (okI x):=by unfold okI;infer_instance
theorem bL(x:BI):ae x=cd x.1 (val x.2):=rfl
theorem ip{x:BI}(h:okI x):x=ai (ae x):=by
 obtain⟨h1,h2,h3⟩:=h
 grind [bL,ml,oC,val,eU]
def szI(z:Int):Nat:=(ag z.natAbs).length
theorem aT{z:Int}(h:szI z≤1000000):okI (ai z):=by
 refine⟨eg _,fun e=>?_,h⟩
 grind [ai,ii]
theorem fu{z:Int}{k:Nat}(h1: -pw k<z)(h2:z<pw k):szI z≤k:=dm (by omega)
theorem GF(z:Int): -pw (szI z)<z∧z<pw (szI z):=by
 have h:=bW (bZ z.natAbs)
 grind [bi,szI]
theorem nh{z:Int}{k:Nat}(h:szI z≤k): -pw k<z∧z<pw k:=by
 have h1:=GF z
 have h2:=du h
 omega
theorem jk(z:Int):szI (-z)=szI z:=by simp[szI]
theorem wu{a b:Int}{k:Nat}(h1:szI a≤k)(h2:szI b≤k):szI (a+b)≤k+1:=by
 have e1:=nh h1
 have e2:=nh h2
 exact fu (by rw[b8];omega) (by rw[b8];omega)
theorem cN{a b:Int}{j k:Nat}(h1:szI a≤j)(h2:szI b≤k):szI (a*b)≤j+k:=by
 have e1:=nh h1
 have e2:=nh h2
 have h:(a*b).natAbs<(pw (j+k)).toNat:=by
  rw[anQ,fB]
  have:(pw j*pw k).toNat=(pw j).toNat*(pw k).toNat:=Int.toNat_mul (by omega) (by omega)
  rw[this]
  exact Nat.mul_lt_mul'' (by omega) (by omega)
 exact fu (by omega) (by omega)
theorem dD{a b:Int}(h:a.natAbs≤b.natAbs):szI a≤szI b:=by
 have:=GF b
 exact fu (by omega) (by omega)
theorem iN{x:BI}(h:okI x):szI (ae x)≤1000000:=by
 have:=ip h
 have h3:=h.2.2
 rwa [this]at h3
theorem gb{x:BI}(h:okI x):aQ x.2:=⟨h.1.1,by have:=h.2.2;omega⟩
theorem cE{x:BI}(h:okI x):0≤val x.2∧(x.1=true→0<val x.2)∧(x.2=[]↔val x.2=0):=by
 refine⟨aP h.1.1,fun e=>eU h.1 (h.2.1 e),⟨fun e=>by rw[e];rfl,fun e=>?_⟩⟩
 rcases List.eq_nil_or_concat x.2 with h'|⟨l,y,h'⟩
 ·omega
 ·have:=eU h.1 (by rw[h'];simp)
  omega
def pp:ef:=spN false false [aoi] (fun x=>decide (aH x.1)) (fun x=>[RV.d y2Y (ai x.1)])
theorem kz:SpK 210 pp:=spX fun x h=>HA x.1 (ak1 h)
def dvQ(a b:List Int):List Int:=if h:pI a b then Classical.choose (Gg a b h)else []
def dvR(a b:List Int):List Int:=if h:pI a b then Classical.choose (amt (Gg a b h))else []
theorem YE{a b:List Int}(h:pI a b):afG a b (dvQ a b) (dvR a b):=by grind [dvQ,dvR]
theorem ST(a b:List Int)(h:pI a b):Con Tryz.prog 340 [.d aoh a,.d aoh b] [.d aoh (dvQ a b),.d aoh (dvR a b)]:=by
 unfold dvQ dvR
 rw[dif_pos h,dif_pos h]
 exact(amt (amt (Gg a b h))).2
def EU:ef:=spN false false [aoh,aoh] (fun x=>decide (pI x.1 x.2.1)) (fun x=>[RV.d aoh (dvQ x.1 x.2.1),RV.d aoh (dvR x.1 x.2.1)])
theorem Cw:SpK 340 EU:=spX fun x h=>ST x.1 x.2.1 (ak1 h)
def rS:Env:=[(269,ya),(300,BJ),(303,GJ),(304,Fy),(270,FF),(268,FE),(210,pp),(340,EU)]
theorem kr:EnvAll Tryz.prog rS:=⟨t4,yq,Eb,Dx,Dn,CJ,kz,Cw,trivial⟩
def afP:Ctx:=CX rS []
def ZQ(x y:Bool×List Int)(_k:KT):Option (List RV):=match !(x.1==y.1)with|true=>(match x.1 with|true=>some [RV.d aoi (-1)]|false=>some [RV.d aoi 1])|false=>(match x.1 with|true=>(og (decide (aQ y.2∧aQ x.2)) (some [RV.d aoi (cp (val y.2) (val x.2))]))|false=>(og (decide (aQ x.2∧aQ y.2)) (some [RV.d aoi (cp (val x.2) (val y.2))])))
theorem adO(x y:Bool×List Int):RS afP 172 [.d y2Y x,.d y2Y y] (ZQ x y):=rsX
def adL:Ctx:=CX rS []
def XI(x y:Bool×List Int)(_k:KT):Option (List RV):=match x.1==y.1 with|true=>(og (decide (aQ x.2∧aQ y.2)) (og (decide (aQ (dig (max x.2.length y.2.length+1) (val x.2+val y.2)))) (some [RV.d y2Y (ai (cd x.1 (val (dig (max x.2.length y.2.length+1) (val x.2+val y.2)))))])))|false=>(og (decide (aQ x.2∧aQ y.2)) (match decide ((cp (val x.2) (val y.2))<0)with|true=>(og (decide (oz y.2 x.2)) (og (decide (aQ (dig y.2.length (val y.2-val x.2)))) (some [RV.d y2Y (ai (cd y.1 (val (dig y.2.length (val y.2-val x.2)))))])))|false=>(og (decide (oz x.2 y.2)) (og (decide (aQ (dig x.2.length (val x.2-val y.2)))) (some [RV.d y2Y (ai (cd x.1 (val (dig x.2.length (val x.2-val y.2)))))])))))
theorem aga(x y:Bool×List Int):RS adL 215 [.d y2Y x,.d y2Y y] (XI x y):=rsX
def aeS:Ctx:=CX rS []
def XM(x y:Bool×List Int)(_k:KT):Option (List RV):=og (decide (aQ x.2∧aQ y.2)) (og (decide (aQ (dig (x.2.length+y.2.length) (val x.2*val y.2)))) (some [RV.d y2Y (ai (cd (!(x.1==y.1)) (val (dig (x.2.length+y.2.length) (val x.2*val y.2)))))]))
theorem aeZ(x y:Bool×List Int):RS aeS 173 [.d y2Y x,.d y2Y y] (XM x y):=rsX
def afn:Ctx:=CX rS []
def WP(x:Bool×List Int)(_k:KT):Option (List RV):=og (decide (x.2.length*4≤140737488355328∧x.2.length≤140737488355328)) (og (decide (aQ x.2)) (some [RV.d y2Y (ai (cd (!x.1) (val x.2)))]))
theorem ahq(x:Bool×List Int):RS afn 216 [.d y2Y x] (WP x):=rsX
def aep:Ctx:=CX rS []
def Wq(x:Bool×List Int)(_k:KT):Option (List RV):=match x.1 with|true=>some [RV.d aoi (-1)]|false=>(match decide ((x.2.length:Int)>0)with|true=>some [RV.d aoi 1]|false=>some [RV.d aoi 0])
theorem aed(x:Bool×List Int):RS aep 83 [.d y2Y x] (Wq x):=rsX
theorem Tc(x:BI)(h:okI x):Con Tryz.prog 83 [.d y2Y x] [.d aoi (cp (ae x) 0)]:=by
 refine fW kr (aed _ ⟨0,?_⟩)
 obtain⟨h0,h1,h2⟩:=cE h
 unfold Wq
 rw[bL]
 unfold cd
 cases hx:x.1
 ·simp only[cond_false]
  rcases alu 0 (val x.2)with hc|hc
  ·have:x.2≠[]:=fun e=>by rw[h2]at e;omega
   have:=alB.2 this
   rw[akY (by omega),cO hc]
  ·have e:x.2=[]:=h2.2 (by omega)
   rw[e]
   rfl
 ·simp only[cond_true]
  rw[df (by have:=h1 hx;omega)]
theorem JA{a b:Int}(_ha:0≤a)(_hb:0≤b):cp (-a) (-b)=cp b a:=by grind [cO,d7,df]
theorem IB(x y:BI)(h:okI x∧okI y):Con Tryz.prog 172 [.d y2Y x,.d y2Y y] [.d aoi (cp (ae x) (ae y))]:=by
 refine fW kr (adO _ _ ⟨0,?_⟩)
 obtain⟨hx,hy⟩:=h
 obtain⟨x0,x1,x2⟩:=cE hx
 obtain⟨y0,y1,y2⟩:=cE hy
 have lx:=gb hx
 have ly:=gb hy
 unfold ZQ
 rw[bL,bL,akY (show aQ x.2∧aQ y.2 from⟨lx,ly⟩),akY (show aQ y.2∧aQ x.2 from⟨ly,lx⟩)]
 unfold cd
 cases ex:x.1<;>cases ey:y.1<;>simp only[cond_true,cond_false]
 ·rfl
 ·have:=y1 ey
  rw[cO (a:=val x.2) (b:= -val y.2) (by omega)]
  rfl
 ·have:=x1 ex
  rw[df (a:= -val x.2) (b:=val y.2) (by omega)]
  rfl
 ·rw[JA x0 y0]
  rfl
theorem QK{a b:List Int}(ha:Lim a)(hb:Lim b):val (dig (max a.length b.length+1) (val a+val b))=val a+val b:=by
 have h1:=bW ha
 have h2:=bW hb
 have h3:=aP ha
 have h4:=aP hb
 have h5:=du (Nat.le_max_left a.length b.length)
 have h6:=du (Nat.le_max_right a.length b.length)
 grind [iG,b8]
theorem zM{a b:List Int}(ha:Lim a)(hb:Lim b)(hle:val b≤val a):val (dig a.length (val a-val b))=val a-val b:=by
 have h1:=bW ha
 have h4:=aP hb
 grind [iG]
theorem Kc{a b:List Int}(ha:Lim a)(hb:Lim b):val (dig (a.length+b.length) (val a*val b))=val a*val b:=by
 have h1:=bW ha
 have h2:=bW hb
 have h3:=aP ha
 have h4:=aP hb
 refine iG _ _ (alW h3 h4) ?_
 rw[fB]
 have e1:=alb (alG h1) h4
 have e2:=Int.mul_lt_mul_of_pos_left h2 (co a.length)
 omega
theorem Us(x y:BI)(h:okI x∧okI y):Con Tryz.prog 215 [.d y2Y x,.d y2Y y] [.d y2Y (ai (ae x+ae y))]:=by
 refine fW kr (aga _ _ ⟨0,?_⟩)
 obtain⟨hx,hy⟩:=h
 obtain⟨x0,x1,x2⟩:=cE hx
 obtain⟨y0,y1,y2⟩:=cE hy
 have lx:=gb hx
 have ly:=gb hy
 have sx:=hx.2.2
 have sy:=hy.2.2
 unfold XI
 rw[bL,bL,akY (show aQ x.2∧aQ y.2 from⟨lx,ly⟩),akY (show aQ (dig (max x.2.length y.2.length+1) (val x.2+val y.2)) from jE (by omega) _),QK lx.1 ly.1,akY (show aQ (dig x.2.length (val x.2-val y.2)) from jE (by omega) _),akY (show aQ (dig y.2.length (val y.2-val x.2)) from jE (by omega) _)]
 cases hs:x.1==y.1
 ·dsimp only
  rcases alu (val x.2) (val y.2)with hc|hc
  ·rw[df hc,akY (show(-1:Int)<0 by decide),akY (show oz y.2 x.2 from⟨ly,lx,by omega⟩),zM ly.1 lx.1 (by omega)]
   dsimp only
   unfold cd
   cases ex:x.1<;>cases ey:y.1<;>simp_all<;>congr 2<;>omega
  ·have hcm:decide (cp (val x.2) (val y.2)<0)=false:=by
    rcases alu (val y.2) (val x.2)with h|h
    ·rw[cO h];rfl
    ·rw[show val x.2=val y.2 by omega,d7];rfl
   rw[hcm,akY (show oz x.2 y.2 from⟨lx,ly,hc⟩),zM lx.1 ly.1 hc]
   dsimp only
   unfold cd
   cases ex:x.1<;>cases ey:y.1<;>simp_all<;>congr 2<;>omega
 ·dsimp only
  have e:=al9.1 hs
  rw[←e]
  unfold cd
  cases x.1
  ·rfl
  ·simp only[cond_true]
   rw[show-(val x.2+val y.2)= -val x.2+ -val y.2 by omega]
theorem IA(x:BI)(h:okI x):Con Tryz.prog 216 [.d y2Y x] [.d y2Y (ai (-ae x))]:=by
 refine fW kr (ahq _ ⟨0,?_⟩)
 have sx:=h.2.2
 unfold WP
 rw[bL,akY (show x.2.length*4≤140737488355328∧x.2.length≤140737488355328 by omega),akY (gb h)]
 unfold cd
 cases x.1<;>simp
theorem Jp(x y:BI)(h:okI x∧okI y):Con Tryz.prog 173 [.d y2Y x,.d y2Y y] [.d y2Y (ai (ae x*ae y))]:=by
 refine fW kr (aeZ _ _ ⟨0,?_⟩)
 obtain⟨hx,hy⟩:=h
 have lx:=gb hx
 have ly:=gb hy
 have sx:=hx.2.2
 have sy:=hy.2.2
 unfold XM
 rw[bL,bL,akY (show aQ x.2∧aQ y.2 from⟨lx,ly⟩),akY (show aQ (dig (x.2.length+y.2.length) (val x.2*val y.2)) from jE (by omega) _),Kc lx.1 ly.1]
 unfold cd
 cases x.1<;>cases y.1<;>simp[Int.neg_mul,anS]
def oV:ef:=spN false false [y2Y,y2Y] (fun x=>decide (okI x.1∧okI x.2.1)) (fun x=>[RV.d y2Y (ai (ae x.1+ae x.2.1))])
theorem kR:SpK 215 oV:=spX fun x h=>Us x.1 x.2.1 (ak1 h)
def Fw:Env:=(215,oV)::rS
theorem zO:EnvAll Tryz.prog Fw:=⟨kR,kr⟩
def adQ:Ctx:=CX Fw []
def WK(x y:Bool×List Int)(_k:KT):Option (List RV):=match !y.1 with|true=>(og (decide (okI x∧okI (decide ((y.2.length:Int)>0),y.2))) (some [RV.d y2Y (ai (ae x+ae (decide ((y.2.length:Int)>0),y.2)))]))|false=>(og (decide (okI x∧okI (false,y.2))) (some [RV.d y2Y (ai (ae x+ae (false,y.2)))]))
theorem aiy(x y:Bool×List Int):RS adQ 360 [.d y2Y x,.d y2Y y] (WK x y):=rsX
theorem K4{y:BI}(h:okI y):okI (!y.1&&decide ((y.2.length:Int)>0),y.2)∧ae (!y.1&&decide ((y.2.length:Int)>0),y.2)= -ae y:=by
 refine⟨⟨h.1,fun e=>?_,h.2.2⟩,?_⟩
 ·grind
 grind [bL,cd,val,alB]
theorem Te(x y:BI)(h:okI x∧okI y):Con Tryz.prog 360 [.d y2Y x,.d y2Y y] [.d y2Y (ai (ae x-ae y))]:=by
 refine fW zO (aiy _ _ ⟨0,?_⟩)
 obtain⟨hx,hy⟩:=h
 obtain⟨f1,f2⟩:=K4 hy
 rw[Int.sub_eq_add_neg,←f2]
 unfold WK
 cases ey:y.1
 ·rw[ey]at f1
  simp only[Bool.not_false,amk]at f1 ⊢
  rw[akY ⟨hx,f1⟩]
 ·rw[ey]at f1
  simp only[Bool.not_true,Bool.false_and]at f1 ⊢
  rw[akY ⟨hx,f1⟩]
def MK:ef:=spN false false [y2Y,y2Y] (fun x=>decide (okI x.1∧okI x.2.1)) (fun x=>[RV.d y2Y (ai (ae x.1-ae x.2.1))])
theorem Lk:SpK 360 MK:=spX fun x h=>Te x.1 x.2.1 (ak1 h)
def R4:Env:=(360,MK)::Fw
theorem J8:EnvAll Tryz.prog R4:=⟨Lk,zO⟩
def ahu:Ctx:=CX R4 []
def Xa(x y:Bool×List Int)(_k:KT):Option (List RV):=let y1:=aQ (dvQ x.2 y.2);let y2:=aQ (dvR x.2 y.2);let y3:=ai (cd x.1 (val (dvR x.2 y.2)));let y4:=ai (cd (!(x.1==y.1)) (val (dvQ x.2 y.2)));let y5:Option (List RV):=match decide (((y3.2).length:Int)>0)with|true=>(match !((y3.1)==y.1)with|true=>(og (decide (aH (1:Int))) (og (decide (okI y4∧okI (ai (1:Int)))) (og (decide (okI y3∧okI y)) (dup (.b .l .l) (some [RV.d y2Y (ai (ae y4-ae (ai (1:Int)))),RV.d y2Y (ai (ae y3+ae y)),RV.d aoi 0])))))|false=>dup (.b .l .l) (some [RV.d y2Y y4,RV.d y2Y y3,RV.d aoi 0]))|false=>dup (.b .l .l) (some [RV.d y2Y y4,RV.d y2Y y3,RV.d aoi 0]);let y6:Option (List RV):=match decide y2 with|true=>y5|false=>none;match(y.2.length:Int)==0 with|true=>some [RV.d y2Y (false,[]),RV.d y2Y (false,[]),RV.d aoi 6]|false=>(og (decide (pI x.2 y.2)) (cr (og (decide y1) (cr (og (decide y2) (dup (.b .l .l) y5)) (dup (.b (.b .l .l) (.b .l .l)) y6))) (dup (.b .l .l) (cr (og (decide y1) (dup (.b .l .l) y6)) (og (decide y1) y6)))))
theorem aeQ(x y:Bool×List Int):RS ahu 341 [.d y2Y x,.d y2Y y] (Xa x y):=rsX
def fw(x y:BI):Prop:=okI x∧okI y∧0<ae y
instance (x y:BI):Decidable (fw x y):=by unfold fw;infer_instance
theorem Ia{a b:Int}(_ha:0≤a)(hb:0<b):(a%b=0→ -a/b= -(a/b)∧ -a%b=0)∧(0<a%b→ -a/b= -(a/b)-1∧ -a%b= -(a%b)+b):=by
 have h1:=al6 a (show b≠0 by omega)
 have h2:=alH a hb
 have h3:=alN a b
 constructor
 ·intro h
  have e: -a=b* -(a/b):=by rw[anS];omega
  constructor
  ·rw[e,anc _ (by omega)]
  ·rw[e,Int.mul_emod_right]
 ·intro h
  have e: -a=(b-a%b)+b*(-(a/b)-1):=by rw[Int.mul_sub,anS,ank];omega
  constructor
  ·rw[e,amM _ _ (by omega),amh (by omega) (by omega)];omega
  ·rw[e,am0,anb (by omega) (by omega)];omega
theorem pV:okI (ai 1):=by decide
theorem Bl(n:Bool){v:Int}:szI (cd n v)=szI v:=by unfold cd;cases n<;>simp[jk]
theorem Ho(x y:BI)(h:fw x y):Con Tryz.prog 341 [.d y2Y x,.d y2Y y] [.d y2Y (ai (ae x/ae y)),.d y2Y (ai (ae x%ae y)),.d aoi 0]:=by
 refine fW J8 (aeQ _ _ ⟨0,?_⟩)
 obtain⟨hx,hy,hp⟩:=h
 obtain⟨x0,x1,x2⟩:=cE hx
 obtain⟨y0,y1,y2⟩:=cE hy
 have sx:=hx.2.2
 have sy:=hy.2.2
 have ey:y.1=false:=by
  cases e:y.1
  ·rfl
  ·rw[bL,e]at hp
   simp only[cd,cond_true]at hp
   omega
 have dy:ae y=val y.2:=by rw[bL,ey];rfl
 rw[dy]at hp
 have hdv:pI x.2 y.2:=⟨⟨hx.1.1,by omega⟩,⟨hy.1.1,by omega⟩,hp⟩
 obtain⟨lq,lr,sq,sr,vq,vr⟩:=YE hdv
 have hne:y.2≠[]:=fun e=>by rw[y2]at e;omega
 have hylen:=alB.2 hne
 have r0:=al6 (val x.2) (show val y.2≠0 by omega)
 have r1:=alH (val x.2) hp
 have q0:0≤val x.2/val y.2:=al1 x0 y0
 have q1:val x.2/val y.2≤val x.2:=amU _ x0
 have vx:=bW hx.1.1
 have vy:=bW hy.1.1
 have szq:szI (val x.2/val y.2)≤1000000:=fu (by have:=co 1000000;omega) (by have:=du sx;omega)
 have szr:szI (val x.2%val y.2)≤1000000:=fu (by have:=co 1000000;omega) (by have:=du sy;omega)
 unfold Xa
 simp only[eZ]
 rw[show((y.2.length:Int)==0)=false by simp;omega,akY hdv,akY (show aQ (dvQ x.2 y.2) from⟨lq,by omega⟩),akY (show aQ (dvR x.2 y.2) from⟨lr,by omega⟩),akY (show aH 1 by decide),vq,vr,
  akY (show okI (ai (cd (!(x.1==y.1)) (val x.2/val y.2)))∧okI (ai (1:Int)) from⟨aT (by rw[Bl];exact szq),pV⟩),akY (show okI (ai (cd x.1 (val x.2%val y.2)))∧okI y from⟨aT (by rw[Bl];exact szr),hy⟩)]
 simp only[dec_enc,dy,cS]
 have hE1:(ai (cd x.1 (val x.2%val y.2))).1=(x.1&&decide (0<val x.2%val y.2)):=by rw[ml x.1 r0]
 have hE2:(ai (cd x.1 (val x.2%val y.2))).2=ag (val x.2%val y.2).toNat:=by rw[ml x.1 r0]
 rw[hE1,hE2,bL x,ey]
 have hlen:(((ag (val x.2%val y.2).toNat).length:Int)>0)↔0<val x.2%val y.2:=by
  constructor
  ·intro hl
   rcases alu 0 (val x.2%val y.2)with h|h
   ·exact h
   ·rw[show(val x.2%val y.2).toNat=0 by omega,fP]at hl
    simp at hl
  ·intro hl
   have:ag (val x.2%val y.2).toNat≠[]:=fun e=>by rw[ii]at e;omega
   have:=alB.2 this
   omega
 obtain⟨n1,n2⟩:=Ia (a:=val x.2) (b:=val y.2) x0 hp
 rcases alu 0 (val x.2%val y.2)with hr|hr
 ·rw[akY (hlen.2 hr),akY hr]
  cases x.1
  ·rfl
  ·obtain⟨e1,e2⟩:=n2 hr
   simp only[cd,cond_true,Bool.not_false,amk,show((true==false):Bool)=false from rfl]
   rw[e1,e2]
 ·rw[ak0 (fun h'=>by have:=hlen.1 h';omega)]
  dsimp only
  have e0:val x.2%val y.2=0:=by omega
  cases x.1
  ·simp only[cd,cond_false,show((false==false):Bool)=true from rfl,Bool.not_true]
  ·obtain⟨e1,e2⟩:=n1 e0
   simp only[cd,cond_true,show((true==false):Bool)=false from rfl,Bool.not_false]
   rw[e1,e2,e0]
   rfl
def kH(x:BI):Bool:=decide (x.2.length≤2)
def yI(x:BI):Int:=bif kH x then val x.2 else 0
def agw:Ctx:=CX [] []
def Yx(x:Bool×List Int)(_k:KT):Option (List RV):=match(x.2.length:Int)==0 with|true=>some [RV.d (.int .u64) 0,RV.d .bool true]|false=>(match(x.2.length:Int)==1 with|true=>(match aR x.2 0 with|some x1=>some [RV.d (.int .u64) (u64.wrap x1),RV.d .bool true]|none=>none)|false=>(match(x.2.length:Int)==2 with|true=>(match aR x.2 1 with|some x2=>(match aR x.2 0 with|some x3=>some [RV.d (.int .u64) (u64.wrap ((u64.wrap ((u64.wrap x2)*1000000000))+(u64.wrap x3))),RV.d .bool true]|none=>none)|none=>none)|false=>some [RV.d (.int .u64) 0,RV.d .bool false]))
theorem afF(x:Bool×List Int):RS agw 339 [.d y2Y x] (Yx x):=rsX
theorem T1(x:BI)(h:okI x):Con Tryz.prog 339 [.d y2Y x] [.d (.int .u64) (yI x),.d .bool (kH x)]:=by
 refine fW (E:=[]) trivial (afF _ ⟨0,?_⟩)
 obtain⟨neg,l⟩:=x
 have hl:=h.1.1
 unfold Yx yI kH
 match l,hl with
 |[],_=>rfl
 |[a],hl=>
  have:=hl.head
  simp only[alo,Af,al0]
  rw[bj (x:=a) (by omega) (by omega)]
  simp[val]
 |[a,b],hl=>
  have h1:=hl.head
  have h2:=hl.tail.head
  have e1:aR [a,b] 1=some b:=rfl
  have e0:aR [a,b] 0=some a:=rfl
  simp only[e1,e0,ale,List.length_nil]
  rw[bj (x:=a) (by omega) (by omega),bj (x:=b) (by omega) (by omega),bj (x:=b*1000000000) (by omega) (by omega),bj (x:=b*1000000000+a) (by omega) (by omega)]
  rw[show val [a,b]=b*1000000000+a by simp only[val];omega]
  rfl
 |a::b::c::l,hl=>
  have e:decide ((a::b::c::l).length≤2)=false:=ak0 (by simp)
  rw[e,show(((a::b::c::l).length:Int)==0)=false by simp;omega,show(((a::b::c::l).length:Int)==1)=false by simp;omega,show(((a::b::c::l).length:Int)==2)=false by simp;omega]
  rfl
def Pm:ef:=spN false false [y2Y] (fun x=>decide (okI x.1)) (fun x=>[RV.d (.int .u64) (yI x.1),RV.d .bool (kH x.1)])
theorem K3:SpK 339 Pm:=spX fun x h=>T1 x.1 (ak1 h)
def QD:Env:=[(269,ya),(300,BJ),(340,EU),(339,Pm)]
theorem JO:EnvAll Tryz.prog QD:=⟨t4,yq,Cw,K3,trivial⟩
def abV:NT:=[((301,6),{keep:=[4,5,6],hl:=5}),((301,24),{keep:=[4,7,9],hl:=3})]
def iv:Ctx:=CX QD abV
def me(x y:Bool×List Int)(b3_0:Bool)(b3_1:List Int)(b4_0:Bool)(b4_1:List Int):Cfg:=⟨301,[.blk 0,.seq 40],[(4,.box 2 0),(5,.box 3 0),(6,.box 4 0)],[.box 29 [SB x.1,.d aoh x.2],.box 29 [SB y.1,.d aoh y.2],.box 29 [SB false,.nil],.box 29 [SB b3_0,.d aoh b3_1],.box 29 [SB b4_0,.d aoh b4_1]],0,[]⟩
def gH(x y:Bool×List Int)(b3_0:Bool)(b3_1:List Int)(b4_0:Bool)(b4_1:List Int):Cfg:=⟨301,[.blk 0,.seq 40],[(4,.box 2 0),(5,.box 4 0),(6,.box 3 0)],[.box 29 [SB x.1,.d aoh x.2],.box 29 [SB y.1,.d aoh y.2],.box 29 [SB false,.nil],.box 29 [SB b3_0,.d aoh b3_1],.box 29 [SB b4_0,.d aoh b4_1]],0,[]⟩
def jn(x y:Bool×List Int)(s7 s9:Int):Cfg:=⟨301,[.blk 2,.seq 33,.seq 37,.blk 1,.lp 6,.blk 0,.seq 40],[(4,.box 2 0),(7,.d (.int .u64) s7),(9,.d (.int .u64) s9)],[.box 29 [SB x.1,.d aoh x.2],.box 29 [SB y.1,.d aoh y.2],.box 29 [SB false,.nil]],0,[]⟩
def W5(x y:Bool×List Int)(k:KT):Option (List RV):=let y1:=ai (cd false (val x.2));let y2:=ai (cd false (val y.2));let y3:=me x y (y1.1) (y1.2) (y2.1) (y2.2);let y4:=gH x y (y2.1) (y2.2) (y1.1) (y1.2);let y5:Option (List RV):=match decide (aQ y.2)with|true=>k 6 y3|false=>none;let y6:Option (List RV):=match decide (aQ y.2)with|true=>k 6 y4|false=>none;cr (og (decide (aQ x.2)) (cr (og (decide (aQ y.2)) (cr (k 6 y3) (k 6 y4))) (cr (dup (.b .l .l) y5) (dup (.b .l .l) y6)))) (cr (cr (og (decide (aQ x.2)) (dup (.b .l .l) y5)) (og (decide (aQ x.2)) y5)) (cr (og (decide (aQ x.2)) (dup (.b .l .l) y6)) (og (decide (aQ x.2)) y6)))
theorem afb(x y:Bool×List Int):RS iv 301 [.d y2Y x,.d y2Y y] (W5 x y):=rsX
def M4(x y:Bool×List Int)(b3_0:Bool)(b3_1:List Int)(b4_0:Bool)(b4_1:List Int)(k:KT):Option (List RV):=match decide ((b4_1.length:Int)>0)with|true=>(og (decide (okI (b3_0,b3_1))) (og (decide (okI (b4_0,b4_1))) (match kH (b3_0,b3_1)with|true=>(match kH (b4_0,b4_1)with|true=>k 24 (jn x y (yI (b3_0,b3_1)) (yI (b4_0,b4_1)))|false=>(og (decide (pI b3_1 b4_1)) (og (decide (aQ (dvR b3_1 b4_1))) (k 6 (me x y b4_0 b4_1 ((ai (cd false (val (dvR b3_1 b4_1)))).1) ((ai (cd false (val (dvR b3_1 b4_1)))).2))))))|false=>(og (decide (pI b3_1 b4_1)) (og (decide (aQ (dvR b3_1 b4_1))) (k 6 (me x y b4_0 b4_1 ((ai (cd false (val (dvR b3_1 b4_1)))).1) ((ai (cd false (val (dvR b3_1 b4_1)))).2))))))))|false=>(og (decide (b3_1.length*4≤140737488355328∧b3_1.length≤140737488355328)) (og (decide (aQ b3_1)) (some [RV.d y2Y (ai (cd false (val b3_1)))])))
theorem Lp(x y:Bool×List Int)(b3_0:Bool)(b3_1:List Int)(b4_0:Bool)(b4_1:List Int):RL iv 6 (me x y b3_0 b3_1 b4_0 b4_1) (M4 x y b3_0 b3_1 b4_0 b4_1):=rlX
def GD(x y:Bool×List Int)(b3_0:Bool)(b3_1:List Int)(b4_0:Bool)(b4_1:List Int)(k:KT):Option (List RV):=match decide ((b3_1.length:Int)>0)with|true=>(og (decide (okI (b4_0,b4_1))) (og (decide (okI (b3_0,b3_1))) (match kH (b4_0,b4_1)with|true=>(match kH (b3_0,b3_1)with|true=>k 24 (jn x y (yI (b4_0,b4_1)) (yI (b3_0,b3_1)))|false=>(og (decide (pI b4_1 b3_1)) (og (decide (aQ (dvR b4_1 b3_1))) (k 6 (gH x y ((ai (cd false (val (dvR b4_1 b3_1)))).1) ((ai (cd false (val (dvR b4_1 b3_1)))).2) b3_0 b3_1)))))|false=>(og (decide (pI b4_1 b3_1)) (og (decide (aQ (dvR b4_1 b3_1))) (k 6 (gH x y ((ai (cd false (val (dvR b4_1 b3_1)))).1) ((ai (cd false (val (dvR b4_1 b3_1)))).2) b3_0 b3_1)))))))|false=>(og (decide (b4_1.length*4≤140737488355328∧b4_1.length≤140737488355328)) (og (decide (aQ b4_1)) (some [RV.d y2Y (ai (cd false (val b4_1)))])))
theorem E4(x y:Bool×List Int)(b3_0:Bool)(b3_1:List Int)(b4_0:Bool)(b4_1:List Int):RL iv 6 (gH x y b3_0 b3_1 b4_0 b4_1) (GD x y b3_0 b3_1 b4_0 b4_1):=rlX
def uO(x y:Bool×List Int)(s7 s9:Int)(k:KT):Option (List RV):=match decide (s9>0)with|true=>(match decide (s9=(0:Int))with|true=>none|false=>k 24 (jn x y s9 (Int.tmod s7 s9)))|false=>(og (decide (iI s7)) (og (decide (aQ (dig 3 s7))) (some [RV.d y2Y (ai (cd false (val (dig 3 s7))))])))
theorem zR(x y:Bool×List Int)(s7 s9:Int):RL iv 24 (jn x y s7 s9) (uO x y s7 s9):=rlX
theorem Py(x y:BI)(B:Nat)(hB:(B:Int)<18446744073709551616):∀(v u:Nat),u≤B→v≤B→iv.RunsE 24 (jn x y (u:Int) (v:Int)) [.d y2Y (ai ((Nat.gcd u v:Nat):Int))]:=by
 intro v
 induction v using Nat.strongRecOn with
 |ind v ih=>
  intro u hu hv
  rcases alR v with h0|h0
  ·refine zR _ _ _ _ ⟨0,fun n _=>?_⟩
   have hp:iI (u:Int):=⟨by omega,by omega⟩
   unfold uO
   rw[ak0 (show ¬(v:Int)>0 by omega),akY hp,akY (jE (n:=3) (by decide) (u:Int)),w7 hp,show Nat.gcd u v=u by rw[h0];exact Nat.gcd_zero_right u]
   rfl
  ·obtain⟨n0,hn⟩:=ih (u%v) (anU _ h0) v hv (alc (Nat.le_of_lt (anU _ h0)) hv)
   refine zR _ _ _ _ ⟨n0,fun n hn'=>?_⟩
   unfold uO
   rw[akY (by omega),ak0 (by omega),jF (by omega)]
   dsimp only
   rw[show((u:Int)%(v:Int))=((u%v:Nat):Int) by simp,am4 u v,Nat.gcd_rec v u,am4]
   exact hn n hn'
theorem z4(v:Int):cd false v=v:=rfl
theorem jc(u:Nat):ai (u:Int)=(false,ag u):=rfl
theorem zG{u:Nat}(h:(ag u).length≤2):u≤(pw 2).toNat:=by
 have h1:=bW (bZ u)
 rw[bi]at h1
 have h2:=du h
 omega
theorem abe:(((pw 2).toNat:Nat):Int)<18446744073709551616:=by decide
theorem D5{k:Nat→Cfg→Option (List RV)}{u v:Nat}(hu:szI u≤1000000)(hv:szI v≤1000000){r:List RV}{H:Int→Int→Cfg}{D:Int→Cfg}
  (h1:v=0→r=[.d y2Y (ai (u:Int))]) (h2:v≠0→kH (ai (u:Int))=true→kH (ai (v:Int))=true→k 24 (H (u:Int) (v:Int))=some r) (h3:v≠0→k 6 (D ((u%v:Nat):Int))=some r) (D':List Int→Cfg) (hD:D' (dvR (ag u) (ag v))=D (val (dvR (ag u) (ag v)))):
  (match decide (((ag v).length:Int)>0)with
   |true=>(match decide (okI (ai (u:Int)))with
    |true=>(match decide (okI (ai (v:Int)))with
     |true=>(match kH (ai (u:Int))with
      |true=>(match kH (ai (v:Int))with
       |true=>k 24 (H (yI (ai (u:Int))) (yI (ai (v:Int))))
       |false=>(match decide (pI (ag u) (ag v))with
        |true=>(match decide (aQ (dvR (ag u) (ag v)))with
         |true=>k 6 (D' (dvR (ag u) (ag v)))
         |false=>none)
        |false=>none))
      |false=>(match decide (pI (ag u) (ag v))with
        |true=>(match decide (aQ (dvR (ag u) (ag v)))with
         |true=>k 6 (D' (dvR (ag u) (ag v)))
         |false=>none)
        |false=>none))
     |false=>none)
    |false=>none)
   |false=>(match decide ((ag u).length*4≤140737488355328∧(ag u).length≤140737488355328)with
    |true=>(match decide (aQ (ag u))with
     |true=>some [.d y2Y (ai (cd false (val (ag u))))]
     |false=>none)
    |false=>none))=some r:=by
 have lu:(ag u).length≤1000000:=by have:=hu;unfold szI at this;rwa [amy]at this
 have lv:(ag v).length≤1000000:=by have:=hv;unfold szI at this;rwa [amy]at this
 rcases alR v with h0|h0
 ·subst h0
  rw[h1 rfl,show decide (((ag 0).length:Int)>0)=false from rfl,akY (show(ag u).length*4≤140737488355328∧(ag u).length≤140737488355328 by omega),akY (show aQ (ag u) from⟨bZ u,by omega⟩),bi]
  rfl
 ·have hne:ag v≠[]:=fun e=>by rw[ii]at e;omega
  have hl:=alB.2 hne
  have hvv:=bi v
  have hvu:=bi u
  have hdv:pI (ag u) (ag v):=⟨⟨bZ u,by omega⟩,⟨bZ v,by omega⟩,by omega⟩
  obtain⟨_,lr,_,sr,_,vr⟩:=YE hdv
  have hD2:k 6 (D' (dvR (ag u) (ag v)))=some r:=by
   rw[hD,vr,hvv,hvu]
   exact h3 (by omega)
  rw[akY (by omega),akY (aT hu),akY (aT hv),akY hdv,akY (show aQ (dvR (ag u) (ag v)) from⟨lr,by omega⟩)]
  dsimp only
  cases hb1:kH (ai (u:Int))
  ·exact hD2
  ·cases hb2:kH (ai (v:Int))
   ·exact hD2
   ·dsimp only
    have:=h2 (by omega) hb1 hb2
    unfold yI
    rw[hb1,hb2]
    simp only[cond_true,jc]
    rw[hvv,hvu]
    exact this
theorem L5(x y:BI):∀(v u:Nat),szI u≤1000000→szI v≤1000000→
  iv.RunsE 6 (me x y false (ag u) false (ag v)) [.d y2Y (ai ((Nat.gcd u v:Nat):Int))]∧iv.RunsE 6 (gH x y false (ag v) false (ag u)) [.d y2Y (ai ((Nat.gcd u v:Nat):Int))]:=by
 intro v
 induction v using Nat.strongRecOn with
 |ind v ih=>
  intro u hu hv
  have hw:kH (ai (u:Int))=true→kH (ai (v:Int))=true→iv.RunsE 24 (jn x y (u:Int) (v:Int)) [.d y2Y (ai ((Nat.gcd u v:Nat):Int))]:=fun h1 h2=>by
   unfold kH at h1 h2
   rw[jc]at h1 h2
   exact Py x y _ abe v u (zG (ak1 h1)) (zG (ak1 h2))
  have hd:v≠0→iv.RunsE 6 (me x y false (ag v) false (ag (u%v))) [.d y2Y (ai ((Nat.gcd u v:Nat):Int))]∧iv.RunsE 6 (gH x y false (ag (u%v)) false (ag v)) [.d y2Y (ai ((Nat.gcd u v:Nat):Int))]:=fun h0=>by
   have hm:=anU u (Nat.pos_of_ne_zero h0)
   have:=ih (u%v) hm v hv (alc (dD (by omega)) hv)
   rw[am4 u v,Nat.gcd_rec v u,am4 (u%v) v]
   exact this
  have hcommon:∃n0,∀n,n0≤n→(kH (ai (u:Int))=true→kH (ai (v:Int))=true→iv.k n 24 (jn x y (u:Int) (v:Int))=some [.d y2Y (ai ((Nat.gcd u v:Nat):Int))])∧(v≠0→iv.k n 6 (me x y false (ag v) false (ag (u%v)))=some [.d y2Y (ai ((Nat.gcd u v:Nat):Int))]∧iv.k n 6 (gH x y false (ag (u%v)) false (ag v))=some [.d y2Y (ai ((Nat.gcd u v:Nat):Int))]):=by
   have g1:∃n1,∀n,n1≤n→(kH (ai (u:Int))=true→kH (ai (v:Int))=true→iv.k n 24 (jn x y (u:Int) (v:Int))=some [.d y2Y (ai ((Nat.gcd u v:Nat):Int))]):=by
    by_cases hb:kH (ai (u:Int))=true∧kH (ai (v:Int))=true
    ·obtain⟨n,h⟩:=hw hb.1 hb.2
     exact⟨n,fun m hm _ _=>h m hm⟩
    ·exact⟨0,fun n _ h1 h2=>absurd ⟨h1,h2⟩ hb⟩
   have g2:∃n1,∀n,n1≤n→(v≠0→iv.k n 6 (me x y false (ag v) false (ag (u%v)))=some [.d y2Y (ai ((Nat.gcd u v:Nat):Int))]∧iv.k n 6 (gH x y false (ag (u%v)) false (ag v))=some [.d y2Y (ai ((Nat.gcd u v:Nat):Int))]):=by
    by_cases hb:v=0
    ·exact⟨0,fun n _ h=>absurd hb h⟩
    ·obtain⟨⟨n1,h1⟩,⟨n2,h2⟩⟩:=hd hb
     exact⟨max n1 n2,fun n hn _=>⟨h1 n (by omega),h2 n (by omega)⟩⟩
   obtain⟨n1,h1⟩:=g1
   obtain⟨n2,h2⟩:=g2
   exact⟨max n1 n2,fun n hn=>⟨h1 n (by omega),h2 n (by omega)⟩⟩
  obtain⟨n0,hc⟩:=hcommon
  have hz:v=0→([.d y2Y (ai ((Nat.gcd u v:Nat):Int))]:List RV)=[.d y2Y (ai (u:Int))]:=fun e=>by subst e;rw[Nat.gcd_zero_right]
  constructor
  ·refine Lp _ _ _ _ _ _ ⟨n0,fun n hn=>?_⟩
   have:=D5 (k:=iv.k n) hu hv (H:=fun a b=>jn x y a b) (D:=fun z=>me x y false (ag v) (ai z).1 (ai z).2) hz (fun _ h1 h2=>(hc n hn).1 h1 h2) (fun h0=>by rw[jc];exact((hc n hn).2 h0).1) (fun l=>me x y false (ag v) (ai (cd false (val l))).1 (ai (cd false (val l))).2) rfl
   rw[jc,jc]at this
   exact this
  ·refine E4 _ _ _ _ _ _ ⟨n0,fun n hn=>?_⟩
   have:=D5 (k:=iv.k n) hu hv (H:=fun a b=>jn x y a b) (D:=fun z=>gH x y (ai z).1 (ai z).2 false (ag v)) hz (fun _ h1 h2=>(hc n hn).1 h1 h2) (fun h0=>by rw[jc];exact((hc n hn).2 h0).2) (fun l=>gH x y (ai (cd false (val l))).1 (ai (cd false (val l))).2 false (ag v)) rfl
   rw[jc,jc]at this
   exact this
theorem SX(x y:BI)(h:okI x∧okI y):Con Tryz.prog 301 [.d y2Y x,.d y2Y y] [.d y2Y (ai ((Int.gcd (ae x) (ae y):Nat):Int))]:=by
 refine fW JO (show iv.Res _ _ _ from ?_)
 obtain⟨hx,hy⟩:=h
 obtain⟨x0,_,_⟩:=cE hx
 obtain⟨y0,_,_⟩:=cE hy
 have ex:((ae x).natAbs:Int)=val x.2:=by rw[bL];unfold cd;cases x.1<;>simp<;>omega
 have ey:((ae y).natAbs:Int)=val y.2:=by rw[bL];unfold cd;cases y.1<;>simp<;>omega
 have szx:szI ((ae x).natAbs:Int)≤1000000:=alc (dD (by omega)) (iN hx)
 have szy:szI ((ae y).natAbs:Int)≤1000000:=alc (dD (by omega)) (iN hy)
 obtain⟨⟨n1,h1⟩,⟨n2,h2⟩⟩:=L5 x y (ae y).natAbs (ae x).natAbs szx szy
 refine afb _ _ ⟨max n1 n2,?_⟩
 have h1:=h1 (max n1 n2) (by omega)
 have h2:=h2 (max n1 n2) (by omega)
 unfold W5
 simp only[eZ]
 rw[akY (gb hx),akY (gb hy),z4,z4,←ex,←ey,jc,jc]
 dsimp only
 rw[h1,h2]
 simp only[cS]
 rfl
abbrev BR:=BI×BI
def am(q:Rat):BR:=(ai q.num,ai (q.den:Int))
def ah(x:BR):Rat:=mkRat (ae x.1) (ae x.2).toNat
theorem cA(q:Rat):ah (am q)=q:=by simp[ah,am,dec_enc]
def okR(x:BR):Prop:=okI x.1∧okI x.2∧0<ae x.2∧Int.gcd (ae x.1) (ae x.2)=1∧x.1.2.length≤480000∧x.2.2.length≤480000
instance (x:BR):Decidable (okR x):=by unfold okR;infer_instance
def o1(x:BR):Bool:=decide (okR x)
def o2(x y:BR):Bool:=decide (okR x∧okR y)
theorem agB(x:BR):o1 x=decide (okR x):=rfl
theorem af1(x y:BR):o2 x y=(decide (okR x)&&decide (okR y)):=amY _ _
theorem cM{x:BR}(h:okR x):(ah x).num=ae x.1∧((ah x).den:Int)=ae x.2:=by
 obtain⟨h1,h2,h3,h4,_⟩:=h
 unfold ah
 rw[an1,an2]
 have hg:(ae x.2).toNat.gcd (ae x.1).natAbs=1:=by
  rwa [am4,show(ae x.2).toNat=(ae x.2).natAbs by omega]
 grind
theorem Pv{x:BR}(h:okR x):x=am (ah x):=by
 obtain⟨e1,e2⟩:=cM h
 unfold am
 rw[e1,e2,←ip h.1,←ip h.2.1]
def bdR(k:Nat)(q:Rat):Prop:=szI q.num≤k∧szI (q.den:Int)≤k
theorem qm{q:Rat}{k:Nat}(h:bdR k q)(hk:k≤480000):okR (am q):=by
 obtain⟨h1,h2⟩:=h
 have hd:=q.den_pos
 refine⟨aT (by omega),aT (by omega),?_,?_,by show szI q.num≤480000;omega,by show szI (q.den:Int)≤480000;omega⟩
 ·show 0<ae (ai (q.den:Int))
  grind [dec_enc]
 ·show Int.gcd (ae (ai q.num)) (ae (ai (q.den:Int)))=1
  rw[dec_enc,dec_enc]
  exact q.reduced
theorem Ca{x:BR}(h:okR x):bdR 480000 (ah x):=by
 obtain⟨e1,e2⟩:=cM h
 obtain⟨h1,h2,_,_,h5,h6⟩:=h
 unfold bdR szI
 rw[e1,e2]
 rw[ip h1]at h5
 rw[ip h2]at h6
 exact⟨h5,h6⟩
theorem bI{j k:Nat}{q:Rat}(h:bdR j q)(hk:j≤k):bdR k q:=⟨alc h.1 hk,alc h.2 hk⟩
theorem IV(a:Int)(g:Nat):(a/(g:Int)).natAbs≤a.natAbs∨¬(g:Int)∣a:=by
 by_cases h:(g:Int)∣a
 ·obtain⟨k,rfl⟩:=h
  rcases alR g with h0|h0
  ·grind
  ·rw[anc _ (by omega),anQ]
   simp_all [Nat.le_mul_of_pos_left]
 grind
theorem u9{n:Int}{d k:Nat}(hd:d≠0)(h1:szI n≤k)(h2:szI (d:Int)≤k):bdR k (mkRat n d):=by
 unfold bdR
 rw[an1,an2,alm hd,alm hd]
 constructor
 ·refine alc (dD ?_) h1
  grind [IV,Nat.gcd_dvd_right,Int.ofNat_dvd_left]
 ·exact alc (dD (by rw[amy,amy];exact Nat.div_le_self _ _)) h2
theorem wB{k:Nat}{a:Rat}(h:bdR k a):bdR k (-a):=by
 refine⟨?_,h.2⟩
 rw[Rat.neg_num,jk]
 exact h.1
theorem AB{j k:Nat}{a b:Rat}(ha:bdR j a)(hb:bdR k b):bdR (j+k+1) (a+b):=by
 rw[Rat.add_def']
 have d1:=a.den_pos
 have d2:=b.den_pos
 refine u9 (anE (by omega) (by omega)) (wu (cN ha.1 hb.2) ?_) ?_
 ·rw[Nat.add_comm];exact cN hb.1 ha.2
 ·rw[amw];exact alc (cN ha.2 hb.2) (by omega)
theorem Sx{j k:Nat}{a b:Rat}(ha:bdR j a)(hb:bdR k b):bdR (j+k+1) (a-b):=by grind [anv,AB,wB]
theorem AL{j k:Nat}{a b:Rat}(ha:bdR j a)(hb:bdR k b):bdR (j+k) (a*b):=by
 rw[Rat.mul_def']
 have d1:=a.den_pos
 have d2:=b.den_pos
 refine u9 (anE (by omega) (by omega)) (cN ha.1 hb.1) ?_
 exact cN ha.2 hb.2
theorem TO{k:Nat}{a:Rat}(h:bdR k a)(h0:a≠0):bdR k a⁻¹:=by
 have hn:a.num≠0:=fun e=>h0 (Rat.num_eq_zero.1 e)
 rw[Rat.inv_def]
 rcases amS hn with h1|h1
 ·rw[←Rat.neg_divInt_neg,show-a.num=(((-a.num).toNat:Nat):Int) by omega,anp]
  refine u9 (by omega) (by rw[jk];exact h.2) ?_
  rw[show(((-a.num).toNat:Nat):Int)= -a.num by omega,jk]
  exact h.1
 ·rw[show a.num=((a.num.toNat:Nat):Int) by omega,anp]
  refine u9 (by omega) h.2 ?_
  rw[show((a.num.toNat:Nat):Int)=a.num by omega]
  exact h.1
theorem TD{j k:Nat}{a b:Rat}(ha:bdR j a)(hb:bdR k b)(h0:b≠0):bdR (j+k) (a/b):=by grind [AL,TO]
def fv(x y:BI):BR:=am (Rat.divInt (ae x) (ae y))
def jK(x y:BI):Prop:=okI x∧okI y∧ae y≠0
instance (x y:BI):Decidable (jK x y):=by unfold jK;infer_instance
theorem nJ{n d:Int}(hd:0<d):am (Rat.divInt n d)=(ai (n/(Int.gcd n d:Int)),ai (d/(Int.gcd n d:Int))):=by
 obtain⟨D,rfl⟩:=ama (alG hd)
 unfold am
 rw[anp,an1,an2,alm (by omega),alm (by omega)]
 have e:Int.gcd n (D:Int)=D.gcd n.natAbs:=by rw[am4];rfl
 grind
def uw:ef:=spN true false [y2Y] (fun x=>decide (okI x.1)) (fun x=>[RV.d aoi (cp (ae x.1) 0)])
theorem o8:SpK 83 uw:=spX fun x h=>Tc x.1 (ak1 h)
def rm:ef:=spN true false [y2Y,y2Y] (fun x=>decide (okI x.1∧okI x.2.1)) (fun x=>[RV.d aoi (cp (ae x.1) (ae x.2.1))])
theorem mp:SpK 172 rm:=spX fun x h=>IB x.1 x.2.1 (ak1 h)
def uL:ef:=spN false false [y2Y] (fun x=>decide (okI x.1)) (fun x=>[RV.d y2Y (ai (-ae x.1))])
theorem o9:SpK 216 uL:=spX fun x h=>IA x.1 (ak1 h)
def ue:ef:=spN false false [y2Y,y2Y] (fun x=>decide (okI x.1∧okI x.2.1)) (fun x=>[RV.d y2Y (ai (ae x.1*ae x.2.1))])
theorem pi:SpK 173 ue:=spX fun x h=>Jp x.1 x.2.1 (ak1 h)
def As:ef:=spN false false [y2Y,y2Y] (fun x=>decide (fw x.1 x.2.1)) (fun x=>[RV.d y2Y (ai (ae x.1/ae x.2.1)),RV.d y2Y (ai (ae x.1%ae x.2.1)),RV.d aoi 0])
theorem wH:SpK 341 As:=spX fun x h=>Ho x.1 x.2.1 (ak1 h)
def Gj:ef:=spN false false [y2Y,y2Y] (fun x=>decide (okI x.1∧okI x.2.1)) (fun x=>[RV.d y2Y (ai ((Int.gcd (ae x.1) (ae x.2.1):Nat):Int))])
theorem Do:SpK 301 Gj:=spX fun x h=>SX x.1 x.2.1 (ak1 h)
def Gc:Env:=[(210,pp),(83,uw),(172,rm),(215,oV),(216,uL),(173,ue),(341,As),(301,Gj)]
theorem Ab:EnvAll Tryz.prog Gc:=⟨kz,o8,mp,kR,o9,pi,wH,Do,trivial⟩
def afr:Ctx:=CX Gc []
def XT(_k:KT):Option (List RV):=og (decide (aH (1:Int))) (some [RV.d y2Y (ai (1:Int))])
theorem aes:RS afr 299 [] (XT):=rsX
def ahM:Ctx:=CX Gc []
def ZR(x y:Bool×List Int)(_k:KT):Option (List RV):=og (decide (fw x y)) (some [RV.d y2Y (ai (ae x/ae y))])
theorem aeR(x y:Bool×List Int):RS ahM 302 [.d y2Y x,.d y2Y y] (ZR x y):=rsX
theorem UE:Con Tryz.prog 299 [] [.d y2Y (ai 1)]:=by
 refine fW Ab (aes ⟨0,?_⟩)
 unfold XT
 rw[akY (show aH 1 by decide)]
theorem Ta(x y:BI)(h:fw x y):Con Tryz.prog 302 [.d y2Y x,.d y2Y y] [.d y2Y (ai (ae x/ae y))]:=by
 refine fW Ab (aeR _ _ ⟨0,?_⟩)
 unfold ZR
 rw[akY h]
def wW:ef:=spN false false [] (fun _=>true) (fun _=>[RV.d y2Y (ai 1)])
theorem sd:SpK 299 wW:=spX fun _ _=>UE
def NF:ef:=spN false false [y2Y,y2Y] (fun x=>decide (fw x.1 x.2.1)) (fun x=>[RV.d y2Y (ai (ae x.1/ae x.2.1))])
theorem Qw:SpK 302 NF:=spX fun x h=>Ta x.1 x.2.1 (ak1 h)
def Q1:Env:=[(210,pp),(83,uw),(172,rm),(215,oV),(216,uL),(173,ue),(341,As),(301,Gj),(299,wW),(302,NF)]
theorem Kv:EnvAll Tryz.prog Q1:=⟨kz,o8,mp,kR,o9,pi,wH,Do,sd,Qw,trivial⟩
def aex:Ctx:=CX Q1 []
def X9(x y:Bool×List Int)(_k:KT):Option (List RV):=match decide (okI y)with|true=>(match decide ((cp (ae y) 0)<0)with|true=>(match decide (okI x)with|true=>(match decide (okI y)with|true=>(match decide (okI (ai (-ae x))∧okI (ai (-ae y)))with|true=>(match decide (okI (ai ((Int.gcd (ae (ai (-ae x))) (ae (ai (-ae y))):Nat):Int))∧okI (ai 1))with|true=>(match(cp (ae (ai ((Int.gcd (ae (ai (-ae x))) (ae (ai (-ae y))):Nat):Int))) (ae (ai 1))) !=0 with|true=>(match decide (fw (ai (-ae x)) (ai ((Int.gcd (ae (ai (-ae x))) (ae (ai (-ae y))):Nat):Int)))with|true=>(match decide (fw (ai (-ae y)) (ai ((Int.gcd (ae (ai (-ae x))) (ae (ai (-ae y))):Nat):Int)))with|true=>some [RV.d (.st (.pair y2Y y2Y)) ((ai (ae (ai (-ae x))/ae (ai ((Int.gcd (ae (ai (-ae x))) (ae (ai (-ae y))):Nat):Int)))),(ai (ae (ai (-ae y))/ae (ai ((Int.gcd (ae (ai (-ae x))) (ae (ai (-ae y))):Nat):Int)))))]|false=>none)|false=>none)|false=>some [RV.d (.st (.pair y2Y y2Y)) ((ai (-ae x)),(ai (-ae y)))])|false=>none)|false=>none)|false=>none)|false=>none)|false=>(match decide (okI x∧okI y)with|true=>(match decide (okI (ai ((Int.gcd (ae x) (ae y):Nat):Int))∧okI (ai 1))with|true=>(match(cp (ae (ai ((Int.gcd (ae x) (ae y):Nat):Int))) (ae (ai 1))) !=0 with|true=>(match decide (fw x (ai ((Int.gcd (ae x) (ae y):Nat):Int)))with|true=>(match decide (fw y (ai ((Int.gcd (ae x) (ae y):Nat):Int)))with|true=>some [RV.d (.st (.pair y2Y y2Y)) ((ai (ae x/ae (ai ((Int.gcd (ae x) (ae y):Nat):Int)))),(ai (ae y/ae (ai ((Int.gcd (ae x) (ae y):Nat):Int)))))]|false=>none)|false=>none)|false=>some [RV.d (.st (.pair y2Y y2Y)) (x,y)])|false=>none)|false=>none))|false=>none
theorem aeD(x y:Bool×List Int):RS aex 214 [.d y2Y x,.d y2Y y] (X9 x y):=rsX
theorem Qr{a b:Int}(hb:b≠0){k:Nat}(h:szI b≤k):szI ((Int.gcd a b:Nat):Int)≤k:=by
 refine alc (dD ?_) h
 exact Nat.le_of_dvd (by omega) (Nat.gcd_dvd_right a.natAbs b.natAbs)
theorem Vh(x y:BI)(h:jK x y):Con Tryz.prog 214 [.d y2Y x,.d y2Y y] [.d (.st (.pair y2Y y2Y)) (fv x y)]:=by
 refine fW Kv (aeD _ _ ⟨0,?_⟩)
 obtain⟨hx,hy,hne⟩:=h
 have sx:=iN hx
 have sy:=iN hy
 have hgp:0<Int.gcd (ae x) (ae y):=Nat.pos_of_ne_zero fun e=>hne (Int.gcd_eq_zero_iff.1 e).2
 have hgs:=Qr (a:=ae x) hne sy
 unfold X9 fv
 rw[akY hy]
 dsimp only
 rcases amS hne with hn|hn
 ·rw[df hn,akY (show(-1:Int)<0 by decide),akY hx]
  have o1:okI (ai (-ae x)):=aT (by rw[jk];exact sx)
  have o2:okI (ai (-ae y)):=aT (by rw[jk];exact sy)
  simp only[dec_enc,Int.gcd_neg,Int.neg_gcd]
  have og:okI (ai ((Int.gcd (ae x) (ae y):Nat):Int)):=aT hgs
  rw[akY (show okI (ai (-ae x))∧okI (ai (-ae y)) from⟨o1,o2⟩),akY (show okI (ai ((Int.gcd (ae x) (ae y):Nat):Int))∧okI (ai 1) from⟨og,pV⟩)]
  rw[←Rat.neg_divInt_neg,nJ (by omega),Int.gcd_neg,Int.neg_gcd]
  dsimp only
  by_cases h1:Int.gcd (ae x) (ae y)=1
  ·rw[h1]
   simp[d7]
  ·have hc:(cp ((Int.gcd (ae x) (ae y):Nat):Int) 1 !=0)=true:=by
    rw[cO (by omega)];rfl
   rw[hc,akY (show fw (ai (-ae x)) (ai ((Int.gcd (ae x) (ae y):Nat):Int)) from⟨o1,og,by rw[dec_enc];omega⟩),akY (show fw (ai (-ae y)) (ai ((Int.gcd (ae x) (ae y):Nat):Int)) from⟨o2,og,by rw[dec_enc];omega⟩)]
 ·rw[cO hn,ak0 (show ¬(1:Int)<0 by decide)]
  simp only[dec_enc]
  have og:okI (ai ((Int.gcd (ae x) (ae y):Nat):Int)):=aT hgs
  rw[akY (show okI x∧okI y from⟨hx,hy⟩),akY (show okI (ai ((Int.gcd (ae x) (ae y):Nat):Int))∧okI (ai 1) from⟨og,pV⟩),nJ hn]
  dsimp only
  by_cases h1:Int.gcd (ae x) (ae y)=1
  ·rw[h1]
   simp only[Int.natCast_one,d7,Int.ediv_one,←ip hx,←ip hy]
   rfl
  ·have hc:(cp ((Int.gcd (ae x) (ae y):Nat):Int) 1 !=0)=true:=by
    rw[cO (by omega)];rfl
   rw[hc,akY (show fw x (ai ((Int.gcd (ae x) (ae y):Nat):Int)) from⟨hx,og,by rw[dec_enc];omega⟩),akY (show fw y (ai ((Int.gcd (ae x) (ae y):Nat):Int)) from⟨hy,og,by rw[dec_enc];omega⟩)]
def aD(a b:Rat):Int:=bif decide (a<b)then-1 else bif decide (b<a)then 1 else 0
theorem dK{a b:Rat}(h:a<b):aD a b= -1:=by grind [aD]
theorem dp{a b:Rat}(h:b<a):aD a b=1:=by grind [aD]
theorem dP(a:Rat):aD a a=0:=by simp[aD]
theorem yu(a b:Rat):cp (a.num*(b.den:Int)) (b.num*(a.den:Int))=aD a b:=by simp[cp,aD,Rat.lt_iff]
theorem uK(a:Rat):cp a.num 0=aD a 0:=by
 rw[←yu]
 simp
def Cp:ef:=spN false false [y2Y,y2Y] (fun x=>decide (jK x.1 x.2.1)) (fun x=>[RV.d (.st (.pair y2Y y2Y)) (fv x.1 x.2.1)])
theorem yB:SpK 214 Cp:=spX fun x h=>Vh x.1 x.2.1 (ak1 h)
def acf:NT:=[((171,3),{keep:=[0,1,8],hl:=0}),((171,5),{keep:=[0,1,5,10],hl:=0})]
def afM:Ctx:=CX [] acf
def WH(x y:Int)(_k:KT):Option (List RV):=match x !=x with|true=>(match y !=y with|true=>some [RV.d aoi 0]|false=>some [RV.d aoi (-1)])|false=>(match y !=y with|true=>some [RV.d aoi 1]|false=>(match decide (x<y)with|true=>some [RV.d aoi (-1)]|false=>(match decide (x>y)with|true=>some [RV.d aoi 1]|false=>some [RV.d aoi 0])))
theorem afc(x y:Int):RS afM 171 [SI x,SI y] (WH x y):=rsX
theorem VL(x y:Int):Con Tryz.prog 171 [.d aoi x,.d aoi y] [.d aoi (cp x y)]:=by
 refine fW (E:=[]) trivial (afc _ _ ⟨0,?_⟩)
 unfold WH
 rw[show(x !=x)=false by simp,show(y !=y)=false by simp]
 dsimp only
 rcases Int.lt_trichotomy x y with h|h|h
 ·rw[df h,akY h]
 ·subst h;rw[d7,ak0 (show ¬x<x by omega)]
 ·rw[cO h,ak0 (show ¬x<y by omega),akY (show x>y from h)]
def B9:ef:=spN true false [aoi,aoi] (fun _=>true) (fun x=>[RV.d aoi (cp x.1 x.2.1)])
theorem xg:SpK 171 B9:=spX fun x _=>VL x.1 x.2.1
def ET:Env:=[(210,pp),(83,uw),(172,rm),(215,oV),(216,uL),(173,ue),(299,wW),(214,Cp),(171,B9)]
theorem zn:EnvAll Tryz.prog ET:=⟨kz,o8,mp,kR,o9,pi,sd,yB,xg,trivial⟩
def aig:Ctx:=CX ET []
def aiA(x:Bool×List Int)(_k:KT):Option (List RV):=some [RV.d (.st (.pair y2Y y2Y)) (x,(ai 1))]
theorem ag4(x:Bool×List Int):RS aig 209 [.d y2Y x] (aiA x):=rsX
theorem TW(x:BI):Con Tryz.prog 209 [.d y2Y x] [.d (.st (.pair y2Y y2Y)) (x,ai 1)]:=
 fW zn (ag4 _ ⟨0,rfl⟩)
def EV:ef:=spN false false [y2Y] (fun _=>true) (fun x=>[RV.d (.st (.pair y2Y y2Y)) (x.1,ai 1)])
theorem D1:SpK 209 EV:=spX fun x _=>TW x.1
def aeT:Ctx:=CX ET []
def Zl(a:(Bool×List Int)×Bool×List Int)(_k:KT):Option (List RV):=og (decide (okI a.1)) (some [RV.d aoi (cp (ae a.1) 0)])
theorem ahD(a:(Bool×List Int)×Bool×List Int):RS aeT 41 [.d (.st (.pair y2Y y2Y)) a] (Zl a):=rsX
theorem Ju(a:BR)(h:okR a):Con Tryz.prog 41 [.d (.st (.pair y2Y y2Y)) a] [.d aoi (aD (ah a) 0)]:=by
 refine fW zn (ahD _ ⟨0,?_⟩)
 unfold Zl
 rw[akY h.1,←uK,(cM h).1]
def Ga:ef:=spN true false [(.st (.pair y2Y y2Y))] (fun x=>decide (okR x.1)) (fun x=>[RV.d aoi (aD (ah x.1) 0)])
theorem DY:SpK 41 Ga:=spX fun x h=>Ju x.1 (ak1 h)
def n4:Env:=[(210,pp),(83,uw),(172,rm),(215,oV),(216,uL),(173,ue),(299,wW),(214,Cp),(171,B9),(209,EV),(41,Ga)]
theorem iS:EnvAll Tryz.prog n4:=⟨kz,o8,mp,kR,o9,pi,sd,yB,xg,D1,DY,trivial⟩
def aic:Ctx:=CX n4 []
def Ww(n:Int)(_k:KT):Option (List RV):=og (decide (aH n)) (some [RV.d (.st (.pair y2Y y2Y)) ((ai n),(ai 1))])
theorem aeH(n:Int):RS aic 99 [SI n] (Ww n):=rsX
def aho:Ctx:=CX n4 []
def WW(a b:(Bool×List Int)×Bool×List Int)(_k:KT):Option (List RV):=match decide (okR a)with|true=>(match decide (okR b)with|true=>(match(cp (aD (ah a) 0) (aD (ah b) 0)) !=0 with|true=>some [RV.d aoi (cp (aD (ah a) 0) (aD (ah b) 0))]|false=>(match decide (okI a.1∧okI b.2)with|true=>(match decide (okI b.1∧okI a.2)with|true=>(match decide (okI (ai (ae a.1*ae b.2))∧okI (ai (ae b.1*ae a.2)))with|true=>some [RV.d aoi (cp (ae (ai (ae a.1*ae b.2))) (ae (ai (ae b.1*ae a.2))))]|false=>none)|false=>none)|false=>none))|false=>none)|false=>none
theorem aiq(a b:(Bool×List Int)×Bool×List Int):RS aho 73 [.d (.st (.pair y2Y y2Y)) a,.d (.st (.pair y2Y y2Y)) b] (WW a b):=rsX
def aiB:Ctx:=CX n4 []
def Xq(a b:(Bool×List Int)×Bool×List Int)(_k:KT):Option (List RV):=match decide (okI a.2∧okI b.2)with|true=>(match(cp (ae a.2) (ae b.2))==0 with|true=>(match decide (okI a.1∧okI b.1)with|true=>(match decide (jK (ai (ae a.1+ae b.1)) a.2)with|true=>some [RV.d (.st (.pair y2Y y2Y)) (((fv (ai (ae a.1+ae b.1)) a.2).1),((fv (ai (ae a.1+ae b.1)) a.2).2))]|false=>none)|false=>none)|false=>(match decide (okI a.1∧okI b.2)with|true=>(match decide (okI b.1∧okI a.2)with|true=>(match decide (okI (ai (ae a.1*ae b.2))∧okI (ai (ae b.1*ae a.2)))with|true=>(match decide (okI a.2∧okI b.2)with|true=>(match decide (jK (ai (ae (ai (ae a.1*ae b.2))+ae (ai (ae b.1*ae a.2)))) (ai (ae a.2*ae b.2)))with|true=>some [RV.d (.st (.pair y2Y y2Y)) (((fv (ai (ae (ai (ae a.1*ae b.2))+ae (ai (ae b.1*ae a.2)))) (ai (ae a.2*ae b.2))).1),((fv (ai (ae (ai (ae a.1*ae b.2))+ae (ai (ae b.1*ae a.2)))) (ai (ae a.2*ae b.2))).2))]|false=>none)|false=>none)|false=>none)|false=>none)|false=>none))|false=>none
theorem ahN(a b:(Bool×List Int)×Bool×List Int):RS aiB 107 [.d (.st (.pair y2Y y2Y)) a,.d (.st (.pair y2Y y2Y)) b] (Xq a b):=rsX
def agH:Ctx:=CX n4 []
def Y1(a:(Bool×List Int)×Bool×List Int)(_k:KT):Option (List RV):=og (decide (okI a.1)) (some [RV.d (.st (.pair y2Y y2Y)) ((ai (-ae a.1)),a.2)])
theorem ahV(a:(Bool×List Int)×Bool×List Int):RS agH 109 [.d (.st (.pair y2Y y2Y)) a] (Y1 a):=rsX
def agj:Ctx:=CX n4 []
def Wv(a b:(Bool×List Int)×Bool×List Int)(_k:KT):Option (List RV):=og (decide (okI a.1∧okI b.1)) (og (decide (okI a.2∧okI b.2)) (og (decide (jK (ai (ae a.1*ae b.1)) (ai (ae a.2*ae b.2)))) (some [RV.d (.st (.pair y2Y y2Y)) (((fv (ai (ae a.1*ae b.1)) (ai (ae a.2*ae b.2))).1),((fv (ai (ae a.1*ae b.1)) (ai (ae a.2*ae b.2))).2))])))
theorem aeB(a b:(Bool×List Int)×Bool×List Int):RS agj 108 [.d (.st (.pair y2Y y2Y)) a,.d (.st (.pair y2Y y2Y)) b] (Wv a b):=rsX
def ahE:Ctx:=CX n4 []
def Y8(a b:(Bool×List Int)×Bool×List Int)(_k:KT):Option (List RV):=match decide (okR b)with|true=>(match(aD (ah b) 0)==0 with|true=>some [RV.d (.st (.pair y2Y y2Y)) ((false,[]),(false,[])),RV.d aoi 6]|false=>(match decide (okI a.1∧okI b.2)with|true=>(match decide (okI a.2∧okI b.1)with|true=>(match decide (jK (ai (ae a.1*ae b.2)) (ai (ae a.2*ae b.1)))with|true=>some [RV.d (.st (.pair y2Y y2Y)) (((fv (ai (ae a.1*ae b.2)) (ai (ae a.2*ae b.1))).1),((fv (ai (ae a.1*ae b.2)) (ai (ae a.2*ae b.1))).2)),RV.d aoi 0]|false=>none)|false=>none)|false=>none))|false=>none
theorem afd(a b:(Bool×List Int)×Bool×List Int):RS ahE 305 [.d (.st (.pair y2Y y2Y)) a,.d (.st (.pair y2Y y2Y)) b] (Y8 a b):=rsX
theorem Tx(n:Int)(h:aH n):Con Tryz.prog 99 [.d aoi n] [.d (.st (.pair y2Y y2Y)) (am (n:Rat))]:=by
 refine fW iS (aeH _ ⟨0,?_⟩)
 unfold Ww am
 rw[akY h,Rat.num_intCast,Rat.den_intCast]
 rfl
theorem gr{a:BR}(h:okR a):szI (ae a.1)≤480000∧szI (ae a.2)≤480000:=by
 have h1:=Ca h
 grind [cM,bdR]
theorem J2(a b:Rat):(cp (aD a 0) (aD b 0)≠0→cp (aD a 0) (aD b 0)=aD a b):=by
 rcases(by grind:a<0∨a=0∨0<a)with h1|h1|h1<;>rcases(by grind:b<0∨b=0∨0<b)with h2|h2|h2
 ·grind [dK,d7]
 ·rw[dK h1,h2,dP,dK h1];intro;rfl
 ·rw[dK h1,dp h2,dK (by grind)];intro;rfl
 ·rw[h1,dP,dK h2,dp h2];intro;rfl
 ·grind [dP,d7]
 ·rw[h1,dP,dp h2,dK h2];intro;rfl
 ·rw[dp h1,dK h2,dp (by grind)];intro;rfl
 ·rw[dp h1,h2,dP,dp h1];intro;rfl
 grind [dp,d7]
theorem TE(a b:BR)(h:okR a∧okR b):Con Tryz.prog 73 [.d (.st (.pair y2Y y2Y)) a,.d (.st (.pair y2Y y2Y)) b] [.d aoi (aD (ah a) (ah b))]:=by
 refine fW iS (aiq _ _ ⟨0,?_⟩)
 obtain⟨ha,hb⟩:=h
 obtain⟨a1,a2⟩:=cM ha
 obtain⟨b1,b2⟩:=cM hb
 obtain⟨sa1,sa2⟩:=gr ha
 obtain⟨sb1,sb2⟩:=gr hb
 have h1:=cN sa1 sb2
 have h2:=cN sb1 sa2
 unfold WW
 rw[akY ha,akY hb]
 dsimp only
 have hs:=J2 (ah a) (ah b)
 by_cases hc:cp (aD (ah a) 0) (aD (ah b) 0)=0
 ·rw[hc,akY (show okI a.1∧okI b.2 from⟨ha.1,hb.2.1⟩),akY (show okI b.1∧okI a.2 from⟨hb.1,ha.2.1⟩),akY (show okI (ai (ae a.1*ae b.2))∧okI (ai (ae b.1*ae a.2)) from⟨aT (by omega),aT (by omega)⟩),dec_enc,dec_enc,←a1,←a2,←b1,←b2,yu]
  rfl
 ·rw[show(cp (aD (ah a) 0) (aD (ah b) 0) !=0)=true by simpa using hc,hs hc]
theorem IZ(a:BR)(h:okR a):Con Tryz.prog 109 [.d (.st (.pair y2Y y2Y)) a] [.d (.st (.pair y2Y y2Y)) (am (-ah a))]:=by
 refine fW iS (ahV _ ⟨0,?_⟩)
 obtain⟨a1,a2⟩:=cM h
 unfold Y1
 have e:am (-ah a)=(ai (-ae a.1),a.2):=by
  unfold am
  rw[Rat.neg_num,a1,show((-ah a).den:Int)=((ah a).den:Int) from rfl,a2,←ip h.2.1]
 rw[akY h.1,e]
theorem Ii(a b:BR)(h:okR a∧okR b):Con Tryz.prog 107 [.d (.st (.pair y2Y y2Y)) a,.d (.st (.pair y2Y y2Y)) b] [.d (.st (.pair y2Y y2Y)) (am (ah a+ah b))]:=by
 refine fW iS (ahN _ _ ⟨0,?_⟩)
 obtain⟨ha,hb⟩:=h
 obtain⟨a1,a2⟩:=cM ha
 obtain⟨b1,b2⟩:=cM hb
 obtain⟨sa1,sa2⟩:=gr ha
 obtain⟨sb1,sb2⟩:=gr hb
 have pa:=ha.2.2.1
 have pb:=hb.2.2.1
 have h1:=cN sa1 sb2
 have h2:=cN sb1 sa2
 have h3:=cN sa2 sb2
 have h4:=wu h1 h2
 have h5:=wu sa1 sb1
 have hda:ah a=Rat.divInt (ae a.1) (ae a.2):=by rw[←a1,←a2,al2]
 have hdb:ah b=Rat.divInt (ae b.1) (ae b.2):=by rw[←b1,←b2,al2]
 unfold Xq
 rw[akY (show okI a.2∧okI b.2 from⟨ha.2.1,hb.2.1⟩)]
 dsimp only
 by_cases hc:ae a.2=ae b.2
 ·rw[hc,d7,akY (show okI a.1∧okI b.1 from⟨ha.1,hb.1⟩)]
  rw[akY (show jK (ai (ae a.1+ae b.1)) a.2 from⟨aT (by omega),ha.2.1,by omega⟩)]
  have e:fv (ai (ae a.1+ae b.1)) a.2=am (ah a+ah b):=by
   unfold fv
   rw[dec_enc,hda,hdb,←hc,Rat.divInt_eq_div,Rat.divInt_eq_div,Rat.divInt_eq_div,Rat.intCast_add]
   congr 1
   grind
  rw[e]
  rfl
 ·have hcm:(cp (ae a.2) (ae b.2)==0)=false:=by
   rcases amS hc with h|h
   ·rw[df h];rfl
   ·rw[cO h];rfl
  rw[hcm,akY (show okI a.1∧okI b.2 from⟨ha.1,hb.2.1⟩),akY (show okI b.1∧okI a.2 from⟨hb.1,ha.2.1⟩),akY (show okI (ai (ae a.1*ae b.2))∧okI (ai (ae b.1*ae a.2)) from⟨aT (by omega),aT (by omega)⟩)]
  simp only[dec_enc]
  rw[akY (show jK (ai (ae a.1*ae b.2+ae b.1*ae a.2)) (ai (ae a.2*ae b.2)) from⟨aT (by omega),aT (by omega),by rw[dec_enc];exact anF (by omega) (by omega)⟩)]
  have e:fv (ai (ae a.1*ae b.2+ae b.1*ae a.2)) (ai (ae a.2*ae b.2))=am (ah a+ah b):=by
   unfold fv
   rw[dec_enc,dec_enc,hda,hdb,Rat.divInt_add_divInt _ _ (by omega) (by omega)]
  rw[e]
theorem VK(a b:BR)(h:okR a∧okR b):Con Tryz.prog 108 [.d (.st (.pair y2Y y2Y)) a,.d (.st (.pair y2Y y2Y)) b] [.d (.st (.pair y2Y y2Y)) (am (ah a*ah b))]:=by
 refine fW iS (aeB _ _ ⟨0,?_⟩)
 obtain⟨ha,hb⟩:=h
 obtain⟨a1,a2⟩:=cM ha
 obtain⟨b1,b2⟩:=cM hb
 obtain⟨sa1,sa2⟩:=gr ha
 obtain⟨sb1,sb2⟩:=gr hb
 have pa:=ha.2.2.1
 have pb:=hb.2.2.1
 have h1:=cN sa1 sb1
 have h3:=cN sa2 sb2
 have hda:ah a=Rat.divInt (ae a.1) (ae a.2):=by rw[←a1,←a2,al2]
 have hdb:ah b=Rat.divInt (ae b.1) (ae b.2):=by rw[←b1,←b2,al2]
 unfold Wv
 rw[akY (show okI a.1∧okI b.1 from⟨ha.1,hb.1⟩),akY (show okI a.2∧okI b.2 from⟨ha.2.1,hb.2.1⟩),akY (show jK (ai (ae a.1*ae b.1)) (ai (ae a.2*ae b.2)) from⟨aT (by omega),aT (by omega),by rw[dec_enc];exact anF (by omega) (by omega)⟩)]
 have e:fv (ai (ae a.1*ae b.1)) (ai (ae a.2*ae b.2))=am (ah a*ah b):=by
  unfold fv
  rw[dec_enc,dec_enc,hda,hdb,anG]
 rw[e]
def ir(a b:BR):Prop:=okR a∧okR b∧ae b.1≠0
instance (a b:BR):Decidable (ir a b):=by unfold ir;infer_instance
theorem S7(a b:BR)(h:ir a b):Con Tryz.prog 305 [.d (.st (.pair y2Y y2Y)) a,.d (.st (.pair y2Y y2Y)) b] [.d (.st (.pair y2Y y2Y)) (am (ah a/ah b)),.d aoi 0]:=by
 refine fW iS (afd _ _ ⟨0,?_⟩)
 obtain⟨ha,hb,hne⟩:=h
 obtain⟨a1,a2⟩:=cM ha
 obtain⟨b1,b2⟩:=cM hb
 obtain⟨sa1,sa2⟩:=gr ha
 obtain⟨sb1,sb2⟩:=gr hb
 have pa:=ha.2.2.1
 have h1:=cN sa1 sb2
 have h3:=cN sa2 sb1
 have hda:ah a=Rat.divInt (ae a.1) (ae a.2):=by rw[←a1,←a2,al2]
 have hdb:ah b=Rat.divInt (ae b.1) (ae b.2):=by rw[←b1,←b2,al2]
 have hnz:(aD (ah b) 0==0)=false:=by
  rw[←uK,b1]
  rcases amS hne with h|h
  ·rw[df h];rfl
  ·rw[cO h];rfl
 unfold Y8
 rw[akY hb,hnz,akY (show okI a.1∧okI b.2 from⟨ha.1,hb.2.1⟩),akY (show okI a.2∧okI b.1 from⟨ha.2.1,hb.1⟩),akY (show jK (ai (ae a.1*ae b.2)) (ai (ae a.2*ae b.1)) from⟨aT (by omega),aT (by omega),by rw[dec_enc];exact anF (by omega) hne⟩)]
 have e:fv (ai (ae a.1*ae b.2)) (ai (ae a.2*ae b.1))=am (ah a/ah b):=by
  unfold fv
  rw[dec_enc,dec_enc,hda,hdb,anH,Rat.inv_divInt,anG]
 rw[e]
def LI:ef:=spN false false [(.st (.pair y2Y y2Y)),(.st (.pair y2Y y2Y))] (fun x=>decide (okR x.1∧okR x.2.1)) (fun x=>[RV.d (.st (.pair y2Y y2Y)) (am (ah x.1+ah x.2.1))])
theorem L6:SpK 107 LI:=spX fun x h=>Ii x.1 x.2.1 (ak1 h)
def O7:ef:=spN false false [(.st (.pair y2Y y2Y))] (fun x=>decide (okR x.1)) (fun x=>[RV.d (.st (.pair y2Y y2Y)) (am (-ah x.1))])
theorem Lz:SpK 109 O7:=spX fun x h=>IZ x.1 (ak1 h)
def I7:Env:=[(210,pp),(83,uw),(172,rm),(215,oV),(216,uL),(173,ue),(299,wW),(214,Cp),(171,B9),(209,EV),(41,Ga),(107,LI),(109,O7)]
theorem GB:EnvAll Tryz.prog I7:=⟨kz,o8,mp,kR,o9,pi,sd,yB,xg,D1,DY,L6,Lz,trivial⟩
def af4:Ctx:=CX I7 []
def XA(a b:(Bool×List Int)×Bool×List Int)(_k:KT):Option (List RV):=match decide (okR b)with|true=>(match decide (okR a∧okR (am (-ah b)))with|true=>some [RV.d (.st (.pair y2Y y2Y)) (((am (ah a+ah (am (-ah b)))).1),((am (ah a+ah (am (-ah b)))).2))]|false=>none)|false=>none
theorem ah8(a b:(Bool×List Int)×Bool×List Int):RS af4 106 [.d (.st (.pair y2Y y2Y)) a,.d (.st (.pair y2Y y2Y)) b] (XA a b):=rsX
theorem Vs(a b:BR)(h:okR a∧okR b):Con Tryz.prog 106 [.d (.st (.pair y2Y y2Y)) a,.d (.st (.pair y2Y y2Y)) b] [.d (.st (.pair y2Y y2Y)) (am (ah a-ah b))]:=by
 refine fW GB (ah8 _ _ ⟨0,?_⟩)
 obtain⟨ha,hb⟩:=h
 unfold XA
 rw[akY hb,cA,anv,akY (show okR a∧okR (am (-ah b)) from⟨ha,qm (wB (Ca hb)) (ak4 _)⟩)]
section
namespace RL
theorem ki{x y B e:Rat}(h1:x<B)(h2: -B<x)(h3:y<e)(h4: -e<y):x*y<B*e:=by
 have p:=alt (a:=B-x) (b:=e+y) (by grind) (by grind)
 have q:=alt (a:=B+x) (b:=e-y) (by grind) (by grind)
 grind
theorem Xk{e:Rat}(h:0<e):0<e/2:=by grind
theorem Am{e B:Rat}(h:0<e)(hB:0<B):∃d,0<d∧B*d+B*d<e:=by
 refine⟨e/(4*B),?_,?_⟩
 ·exact alt h (aoe.2 (by grind))
 ·have:B*(e/(4*B))=e/4:=by grind
  grind
structure CS where
 f:Nat→Rat
 cau:∀e:Rat,0<e→∃N,∀m n,N≤m→N≤n→f m-f n<e
theorem CS.bd(a:CS):∃B:Rat,0<B∧∃N,∀n,N≤n→ -B<a.f n∧a.f n<B:=by
 obtain⟨N,h⟩:=a.cau 1 (by grind)
 refine⟨(if 0≤a.f N then a.f N else-a.f N)+1,?_,N,fun n hn=>?_⟩
 ·split<;>grind
 ·have h1:=h n N hn (ak4 _)
  have h2:=h N n (ak4 _) hn
  split<;>grind
def add(a b:CS):CS:=⟨fun n=>a.f n+b.f n,fun e he=>by
 obtain⟨N,h⟩:=a.cau (e/2) (by grind)
 obtain⟨M,h'⟩:=b.cau (e/2) (by grind)
 refine⟨max N M,fun m n hm hn=>?_⟩
 have:=h m n (by omega) (by omega)
 have:=h' m n (by omega) (by omega)
 grind⟩
def neg(a:CS):CS:=⟨fun n=> -a.f n,fun e he=>by
 obtain⟨N,h⟩:=a.cau e he
 exact⟨N,fun m n hm hn=>by have:=h n m hn hm;grind⟩⟩
theorem OV(a b:CS)(e:Rat)(he:0<e):∃N,∀m n,N≤m→N≤n→a.f m*b.f m-a.f n*b.f n<e:=by
 obtain⟨A,hA,N1,h1⟩:=a.bd
 obtain⟨B,hB,N2,h2⟩:=b.bd
 obtain⟨d,hd,hd'⟩:=Am (e:=e) (B:=A+B) he (by grind)
 obtain⟨N3,h3⟩:=a.cau d hd
 obtain⟨N4,h4⟩:=b.cau d hd
 refine⟨max (max N1 N2) (max N3 N4),fun m n hm hn=>?_⟩
 have a1:=h1 m (by omega)
 have b1:=h2 n (by omega)
 have p:=ki a1.2 a1.1 (h4 m n (by omega) (by omega)) (by have:=h4 n m (by omega) (by omega);grind)
 have q:=ki b1.2 b1.1 (h3 m n (by omega) (by omega)) (by have:=h3 n m (by omega) (by omega);grind)
 have r:=alt hA hd
 have s:=alt hB hd
 grind
def mul(a b:CS):CS:=⟨fun n=>a.f n*b.f n,OV a b⟩
def eqv(a b:CS):Prop:=∀e:Rat,0<e→∃N,∀n,N≤n→a.f n-b.f n<e∧b.f n-a.f n<e
instance st:Setoid CS where
 r:=eqv
 iseqv:=⟨fun a e he=>⟨0,fun n _=>by grind⟩,fun h e he=>by
   obtain⟨N,h⟩:=h e he
   exact⟨N,fun n hn=>⟨(h n hn).2,(h n hn).1⟩⟩,
  fun h h' e he=>by
   obtain⟨N,h⟩:=h (e/2) (by grind)
   obtain⟨M,h'⟩:=h' (e/2) (by grind)
   refine⟨max N M,fun n hn=>?_⟩
   have:=h n (by omega)
   have:=h' n (by omega)
   grind⟩
def const(q:Rat):CS:=⟨fun _=>q,fun e he=>⟨0,fun m n _ _=>by grind⟩⟩
end RL
def RE:Type:=Quotient RL.st
namespace RE
open RL
def of(q:Rat):RE:=Quotient.mk _ (const q)
theorem adl(a b a' b':CS)(h:a≈a')(h':b≈b'):add a b≈add a' b':=fun e he=>by
 obtain⟨N,h⟩:=h (e/2) (by grind)
 obtain⟨M,h'⟩:=h' (e/2) (by grind)
 refine⟨max N M,fun n hn=>?_⟩
 have:=h n (by omega)
 have:=h' n (by omega)
 simp only[RL.add]
 grind
theorem aaP(a a':CS)(h:a≈a'):neg a≈neg a':=fun e he=>by
 obtain⟨N,h⟩:=h e he
 refine⟨N,fun n hn=>?_⟩
 have:=h n (by omega)
 simp only[RL.neg]
 grind
theorem Z7(a b a' b':CS)(h:a≈a')(h':b≈b'):mul a b≈mul a' b':=fun e he=>by
 obtain⟨A,hA,N1,h1⟩:=a.bd
 obtain⟨B,hB,N2,h2⟩:=b'.bd
 obtain⟨d,hd,hd'⟩:=Am (e:=e) (B:=A+B) he (by grind)
 obtain⟨N3,h3⟩:=h d hd
 obtain⟨N4,h4⟩:=h' d hd
 refine⟨max (max N1 N2) (max N3 N4),fun n hn=>?_⟩
 have a1:=h1 n (by omega)
 have b1:=h2 n (by omega)
 have a3:=h3 n (by omega)
 have b3:=h4 n (by omega)
 have p:=ki a1.2 a1.1 (y:=b.f n-b'.f n) b3.1 (by grind)
 have q:=ki b1.2 b1.1 (y:=a.f n-a'.f n) a3.1 (by grind)
 have p':=ki a1.2 a1.1 (y:=b'.f n-b.f n) b3.2 (by grind)
 have q':=ki b1.2 b1.1 (y:=a'.f n-a.f n) a3.2 (by grind)
 have r:=alt hA hd
 have s:=alt hB hd
 simp only[RL.mul]
 constructor<;>grind
instance:Add RE:=⟨Quotient.lift₂ (fun a b=>Quotient.mk _ (add a b)) (fun _ _ _ _ h h'=>anq (adl _ _ _ _ h h'))⟩
instance:Neg RE:=⟨Quotient.lift (fun a=>Quotient.mk _ (neg a)) (fun _ _ h=>anq (aaP _ _ h))⟩
instance:Sub RE:=⟨fun a b=>a+ -b⟩
instance:Mul RE:=⟨Quotient.lift₂ (fun a b=>Quotient.mk _ (mul a b)) (fun _ _ _ _ h h'=>anq (Z7 _ _ _ _ h h'))⟩
theorem snd{a b:CS}(h:∀n,a.f n=b.f n):(Quotient.mk st a:RE)=Quotient.mk st b:=
 anq fun e he=>⟨0,fun n _=>by rw[h n];grind⟩
instance (n:Nat):OfNat RE n:=⟨of (OfNat.ofNat n)⟩
theorem of_add(a b:Rat):of (a+b)=of a+of b:=rfl
theorem aE(a b:Rat):of (a*b)=of a*of b:=rfl
theorem of_neg(a:Rat):of (-a)= -of a:=rfl
theorem of_sub(a b:Rat):of (a-b)=of a-of b:=by rw[anv];rfl
theorem nj:of 0=0:=rfl
theorem Ay:of 1=1:=rfl
theorem add_zero(a:RE):a+0=a:=by
 induction a using ame;exact snd fun n=>Rat.add_zero _
theorem add_comm(a b:RE):a+b=b+a:=by
 induction a,b using anI;exact snd fun n=>Rat.add_comm _ _
theorem add_assoc(a b c:RE):a+b+c=a+(b+c):=by
 induction a,b,c using am5;exact snd fun n=>Rat.add_assoc _ _ _
theorem mul_assoc(a b c:RE):a*b*c=a*(b*c):=by
 induction a,b,c using am5;exact snd fun n=>Rat.mul_assoc _ _ _
theorem mul_comm(a b:RE):a*b=b*a:=by
 induction a,b using anI;exact snd fun n=>amO _ _
theorem mul_one(a:RE):a*1=a:=by
 induction a using ame;exact snd fun n=>Rat.mul_one _
theorem mul_zero(a:RE):a*0=0:=by
 induction a using ame;exact snd fun n=>Rat.mul_zero _
theorem left_distrib(a b c:RE):a*(b+c)=a*b+a*c:=by
 induction a,b,c using am5;exact snd fun n=>Rat.mul_add _ _ _
theorem wj(a:RE): -a+a=0:=by
 induction a using ame;exact snd fun n=>Rat.neg_add_cancel _
def clt(a b:CS):Prop:=∃e:Rat,0<e∧∃N,∀n,N≤n→a.f n+e<b.f n
theorem Mg(a b a' b':CS)(h:a≈a')(h':b≈b')(hl:clt a b):clt a' b':=by
 obtain⟨e,he,N,hl⟩:=hl
 obtain⟨N1,h⟩:=h (e/4) (by grind)
 obtain⟨N2,h'⟩:=h' (e/4) (by grind)
 refine⟨e/2,by grind,max N (max N1 N2),fun n hn=>?_⟩
 have:=hl n (by omega)
 have:=h n (by omega)
 have:=h' n (by omega)
 grind
instance:LT RE:=⟨Quotient.lift₂ clt (fun _ _ _ _ h h'=>propext ⟨Mg _ _ _ _ h h',Mg _ _ _ _ (Setoid.symm h) (Setoid.symm h')⟩)⟩
instance:LE RE:=⟨fun a b=>¬b<a⟩
theorem lt_irrefl(a:RE):¬a<a:=by
 induction a using ame
 rintro ⟨e,he,N,h⟩
 have:=h N (ak4 _)
 grind
theorem cU{a b c:RE}:a<b→b<c→a<c:=by
 induction a,b,c using am5
 rintro ⟨e,he,N,h⟩ ⟨e',he',N',h'⟩
 refine⟨e,he,max N N',fun n hn=>?_⟩
 have:=h n (by omega)
 have:=h' n (by omega)
 grind
theorem mi(a b:RE):a<b∨a=b∨b<a:=by
 induction a,b using anI
 rename_i a b
 by_cases h1:clt a b
 ·exact .inl h1
 by_cases h2:clt b a
 ·exact .inr (.inr h2)
 refine .inr (.inl (anq fun e he=>?_))
 obtain⟨N,ha⟩:=a.cau (e/4) (by grind)
 obtain⟨M,hb⟩:=b.cau (e/4) (by grind)
 have g1:∃n,max N M≤n∧b.f n≤a.f n+e/4:=by
  apply alh
  intro hc
  exact h1 ⟨e/4,by grind,max N M,fun n hn=>by
   apply alh
   intro h
   exact hc ⟨n,hn,by grind⟩⟩
 have g2:∃n,max N M≤n∧a.f n≤b.f n+e/4:=by
  apply alh
  intro hc
  exact h2 ⟨e/4,by grind,max N M,fun n hn=>by
   apply alh
   intro h
   exact hc ⟨n,hn,by grind⟩⟩
 obtain⟨p,hp,gp⟩:=g1
 obtain⟨q,hq,gq⟩:=g2
 refine⟨max N M,fun n hn=>?_⟩
 have a1:=ha n q (by omega) (by omega)
 have b1:=hb q n (by omega) (by omega)
 have a2:=ha p n (by omega) (by omega)
 have b2:=hb n p (by omega) (by omega)
 constructor<;>grind
theorem ky{a b:RE}(c:RE):a<b→a+c<b+c:=by
 induction a,b,c using am5
 rintro ⟨e,he,N,h⟩
 refine⟨e,he,N,fun n hn=>?_⟩
 have:=h n hn
 simp only[RL.add]
 grind
theorem mul_pos{a b:RE}:0<a→0<b→0<a*b:=by
 induction a,b using anI
 rintro ⟨e,he,N,h⟩ ⟨e',he',N',h'⟩
 refine⟨e*e',alt he he',max N N',fun n hn=>?_⟩
 have h1:=h n (by omega)
 have h2:=h' n (by omega)
 simp only[RL.const]at h1 h2 ⊢
 rename_i a b
 have p:=alt (a:=a.f n-e) (b:=b.f n-e') (by grind) (by grind)
 have q:=alt (a:=a.f n-e) (b:=e') (by grind) (by grind)
 have r:=alt (a:=e) (b:=b.f n-e') (by grind) (by grind)
 simp only[RL.mul]
 grind
theorem io{a b:Rat}(h:a<b):of a<of b:=⟨(b-a)/2,by grind,0,fun n _=>by simp only[RL.const];grind⟩
theorem G8(a:RE):0<a→∃b,a*b=1:=by
 induction a using ame
 rename_i a
 rintro ⟨e,he,N,h⟩
 simp only[RL.const]at h
 have hp:∀n,N≤n→0<(a.f n)⁻¹∧(a.f n)⁻¹<e⁻¹:=fun n hn=>by
  have h1:=h n hn
  have h2:0<(a.f n)⁻¹:=aoe.2 (by grind)
  have h3:0<e⁻¹:=aoe.2 he
  refine⟨h2,?_⟩
  have h4:=alt (alt h2 h3) (show 0<a.f n-e by grind)
  have e1:(a.f n)⁻¹*e⁻¹*(a.f n-e)=e⁻¹-(a.f n)⁻¹:=by grind
  grind
 refine⟨Quotient.mk _ ⟨fun n=>(a.f n)⁻¹,fun d hd=>?_⟩,anq fun d hd=>⟨N,fun n hn=>?_⟩⟩
 ·have hE:0<e⁻¹:=aoe.2 he
  obtain⟨M,hM⟩:=a.cau (d*e*e) (alt (alt hd he) he)
  refine⟨max N M,fun m n hm hn=>?_⟩
  have h1:=hp m (by omega)
  have h2:=hp n (by omega)
  have h3:=hM n m (by omega) (by omega)
  have hm':=h m (by omega)
  have hn':=h n (by omega)
  have e1:(a.f m)⁻¹-(a.f n)⁻¹=((a.f m)⁻¹*(a.f n)⁻¹)*(a.f n-a.f m):=by grind
  rw[e1]
  have p1:=alt h1.1 h2.1
  have p2:=alt p1 (show 0<d*e*e-(a.f n-a.f m) by grind)
  have p3:=alt (show 0<e⁻¹-(a.f m)⁻¹ by grind) hE
  have p4:=alt h1.1 (show 0<e⁻¹-(a.f n)⁻¹ by grind)
  have p5:(a.f m)⁻¹*(a.f n)⁻¹<e⁻¹*e⁻¹:=by grind
  have p6:=alt (show 0<e⁻¹*e⁻¹-(a.f m)⁻¹*(a.f n)⁻¹ by grind) (alt (alt hd he) he)
  have p7:e⁻¹*e⁻¹*(d*e*e)=d:=by grind
  grind
 ·have:=h n hn
  simp only[RL.mul,RL.const]
  have:a.f n*(a.f n)⁻¹=1:=Rat.mul_inv_cancel _ (by grind)
  rw[this]
  grind
end RE
end
end Go.Proofs.YtnkndpoojnflmaaGreat
end
