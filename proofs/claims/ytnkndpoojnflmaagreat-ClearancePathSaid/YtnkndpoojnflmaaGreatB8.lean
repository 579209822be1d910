/- integer: divide, its contract. -/
import Derived.Test.YtnkndpoojnflmaaGreatB7
noncomputable section
namespace Go.Proofs.YtnkndpoojnflmaaGreat
open Go.RowKit Go.IntKind
theorem agF:type_of% @List.length_pos_iff:=@List.length_pos_iff
theorem agP:type_of% @Rat.mul_pos:=@Rat.mul_pos
theorem agX:type_of% @Rat.num_divInt_den:=@Rat.num_divInt_den
theorem aha:type_of% @beq_iff_eq:=@beq_iff_eq
theorem ahb:type_of% @Int.eq_ofNat_of_zero_le:=@Int.eq_ofNat_of_zero_le
theorem ahd:type_of% @Quotient.inductionOn:=@Quotient.inductionOn
theorem ahM:type_of% @Rat.mul_comm:=@Rat.mul_comm
theorem ahP:type_of% @Bool.decide_and:=@Bool.decide_and
theorem ahW:type_of% @Nat.gcd_comm:=@Nat.gcd_comm
theorem ahX:type_of% @Int.natAbs_natCast:=@Int.natAbs_natCast
theorem ahY:type_of% @Int.lt_or_lt_of_ne:=@Int.lt_or_lt_of_ne
theorem ahZ:type_of% @Quotient.inductionOn₃:=@Quotient.inductionOn₃
theorem aiw:type_of% @Int.mul_ne_zero:=@Int.mul_ne_zero
theorem aix:type_of% @Rat.divInt_mul_divInt:=@Rat.divInt_mul_divInt
theorem aiy:type_of% @Quotient.inductionOn₂:=@Quotient.inductionOn₂
theorem aiz:type_of% @Rat.intCast_neg:=@Rat.intCast_neg
theorem aiD:type_of% @Quotient.sound:=@Quotient.sound
theorem aiG:type_of% @Rat.div_def:=@Rat.div_def
def mY(a b:List Int):Prop:=(Lim a∧a.length≤100000000)∧(Lim b∧b.length≤100000000)∧0<val b
instance (a b:List Int):Decidable (mY a b):=by unfold mY;infer_instance
structure acn (a b q r:List Int):Prop where
 lq:Lim q
 lr:Lim r
 sq:q.length≤200000000
 sr:r.length≤200000000
 q:val q=val a/val b
 r:val r=val a%val b
theorem th(x:Int):val [x]=x:=by simp[val]
theorem rD{l:List Int}(h:can l){m:Nat}(hl:l.length=m+1):1≤l[m]:=by
 have h2:=h.2
 have h1:=h.1.get (show m<l.length by omega)
 grind
set_option maxHeartbeats 1000000 in
theorem CP(a b:List Int)(h:mY a b):∃q r,acn a b q r∧Con Tryz.prog 340 [.d ai1 a,.d ai1 b] [.d ai1 q,.d ai1 r]:=by
 obtain⟨⟨la,sa⟩,⟨lb,sb⟩,hb⟩:=h
 have ha:aM a:=⟨la,by omega⟩
 have hb':aM b:=⟨lb,by omega⟩
 have va:=aW (val a).toNat
 have vb:=aW (val b).toNat
 have na:=aL la
 have va':val (ag (val a).toNat)=val a:=by omega
 have vb':val (ag (val b).toNat)=val b:=by omega
 have lna:=jg la
 have lnb:=jg lb
 have ca:=dJ (val a).toNat
 have cb:=dJ (val b).toNat
 have hla:aM (ag (val a).toNat):=⟨ca.1,by omega⟩
 have hlb:aM (ag (val b).toNat):=⟨cb.1,by omega⟩
 have go:∀{q r},fY.Res 340 [.d ai1 a,.d ai1 b] [.d ai1 q,.d ai1 r]→Con Tryz.prog 340 [.d ai1 a,.d ai1 b] [.d ai1 q,.d ai1 r]:=fun hr=>fq He hr
 have hb0:ag (val b).toNat≠[]:=fun e=>by rw[gk]at e;omega
 by_cases h1:(ag (val b).toNat).length=1
 ·have t1:=rD cb (m:=0) h1
  have t2:=cb.1.get (show 0<(ag (val b).toNat).length by omega)
  have e0:(ag (val b).toNat)[0]=val b:=by
   obtain⟨x,hx⟩:=List.length_eq_one_iff.1 h1
   have:=vb'
   rw[hx,th]at this
   simp[hx,this]
  have hq0:0≤val a/val b:=agW na (by omega)
  have hq1:val a/val b≤val a:=ahJ _ na
  have hr0:=ag8 (val a) (show val b≠0 by omega)
  have hr1:=agM (val a) hb
  have hal:=bP ca.1
  refine⟨dig (ag (val a).toNat).length (val a/val b),[val a%val b],⟨lB _ _,Lim.cons ⟨hr0,by omega⟩ Lim.nil,by rw[iu];omega,by simp,gG _ _ hq0 (by omega),th _⟩,go (K7 _ _ ⟨0,?_⟩)⟩
  unfold Fx
  rw[afZ ha,afZ hb',h1,wq,af0 (show 0<(ag (val b).toNat).length by omega),e0]
  dsimp only
  rw[afZ (show Bb (ag (val a).toNat) (val b) from⟨hla,by omega,by omega⟩),va']
  rfl
 have hlen:2≤(ag (val b).toNat).length:=by
  rcases agA (ag (val b).toNat).length 2 with h|h
  ·exfalso
   have:(ag (val b).toNat).length≠0:=fun e=>hb0 (ahI e)
   omega
  ·exact h
 by_cases hlt:val a<val b
 ·refine⟨[],ag (val a).toNat,⟨Lim.nil,ca.1,by simp,by omega,?_,?_⟩,go (K7 _ _ ⟨0,?_⟩)⟩
  ·rw[ag5 na hlt];rfl
  ·rw[ah6 na hlt];exact va'
  ·unfold Fx
   rw[afZ ha,afZ hb',show(((ag (val b).toNat).length:Int)==1)=false by simp;omega,afZ (show aM (ag (val a).toNat)∧aM (ag (val b).toNat) from⟨hla,hlb⟩),va',vb',cQ hlt,afZ (show(ag (val a).toNat).length*4≤140737488355328∧(ag (val a).toNat).length≤140737488355328 by omega)]
   rfl
 ·obtain⟨m,hm⟩:∃m,(ag (val b).toNat).length=m+2:=⟨(ag (val b).toNat).length-2,by omega⟩
  have hxm:m+1<(ag (val b).toNat).length:=by omega
  have t1:=rD cb (m:=m+1) hm
  have t2:=cb.1.get hxm
  generalize hx2:(ag (val b).toNat)[m+1]=x2 at t1 t2
  obtain⟨s1,s2,s3,s4⟩:=Mb t1 t2.2
  have esc:u32.wrap (u64.wrap (Int.tdiv 1000000000 (u64.wrap ((u64.wrap x2)+1))))=1000000000/(x2+1):=by
   rw[aY (x:=x2) (by omega) (by omega),aY (x:=x2+1) (by omega) (by omega),gn (by omega),aY (x:=1000000000/(x2+1)) (by omega) (by omega),cM (x:=1000000000/(x2+1)) (by omega) (by omega)]
  generalize hsc:1000000000/(x2+1)=sc at s1 s2 s3 s4 esc
  have hsl:aM [sc]:=⟨Lim.cons ⟨by omega,by omega⟩ Lim.nil,by simp⟩
  have hbl:=bP cb.1
  rw[vb',hm]at hbl
  have hP:=b9 (m+1)
  have hbtop:=aT hxm
  rw[ag4 (by omega),vb',hx2]at hbtop
  have hbt0:=aL (cb.1.take (m+1))
  have hbt1:=bP (cb.1.take (m+1))
  rw[agG,agI (by omega)]at hbt1
  have hVhi:val b*sc<pw (m+2):=by
   have e1:val b*sc<(pw (m+1)*(x2+1))*sc:=Int.mul_lt_mul_of_pos_right (by rw[aiZ,aic];omega) (by omega)
   have e2:(pw (m+1)*(x2+1))*sc=pw (m+1)*((x2+1)*sc):=Int.mul_assoc _ _ _
   have e3:pw (m+1)*((x2+1)*sc)≤pw (m+1)*1000000000:=af7 s3 (agB hP)
   rw[bU]
   omega
  have hVlo:pw (m+1)*500000000≤val b*sc:=by
   have e1:pw (m+1)*x2*sc≤val b*sc:=aga (by omega) (by omega)
   have e2:pw (m+1)*x2*sc=pw (m+1)*(x2*sc):=Int.mul_assoc _ _ _
   have e3:pw (m+1)*500000000≤pw (m+1)*(x2*sc):=af7 s4 (agB hP)
   omega
  have hV0:0<val b*sc:=Int.mul_pos hb (by omega)
  have edv:val (dig (m+2+1) (val b*sc))=val b*sc:=gG _ _ (by omega) (by rw[bU];omega)
  obtain⟨v,hv⟩:∃v,ag (val b*sc).toNat=v:=⟨_,rfl⟩
  have cv:=dJ (val b*sc).toNat
  have vv:=aW (val b*sc).toNat
  rw[hv]at cv vv
  have hvv:val v=val b*sc:=by omega
  have hvl:v.length=m+2:=by
   have h1:v.length≤m+2:=by rw[←hv];exact cW (by omega)
   have h2:m+1<v.length:=by rw[←hv];exact yZ (by omega)
   omega
  have htop:500000000≤v[m+1]:=by
   rcases ags v[m+1] 500000000 with hc|hc
   ·exfalso
    have e1:=aT (l:=v) (n:=m+1) (by omega)
    rw[ag4 (by omega),hvv]at e1
    have e2:=bP (cv.1.take (m+1))
    rw[agG,agI (by omega)]at e2
    have e3:=af7 (show v[m+1]≤499999999 by omega) (agB hP)
    omega
   ·exact hc
  have hal:=bP ca.1
  rw[va']at hal
  have hA0:0≤val a*sc:=agT na (by omega)
  have hA1:val a*sc<pw ((ag (val a).toNat).length+1):=by
   have e1:val a*sc≤pw (ag (val a).toNat).length*sc:=aga (by omega) (by omega)
   have e2:pw (ag (val a).toNat).length*sc<pw (ag (val a).toNat).length*1000000000:=Int.mul_lt_mul_of_pos_left (by omega) (b9 _)
   rw[bU]
   omega
  have lab:m+2≤(ag (val a).toNat).length:=by
   rw[←hm]
   rcases agA (ag (val a).toNat).length (ag (val b).toNat).length with hc|hc
   ·have:=tC hc;omega
   ·exact hc
  generalize hlA:(ag (val a).toNat).length=L at*
  have hdl:(dig (L+1) (val a*sc)++[0]).length=L+2:=by simp[iu]
  have hdv:val (dig (L+1) (val a*sc)++[0])=val a*sc:=by rw[da,gG _ _ hA0 hA1];simp[val]
  have hmul:=hvv
  obtain⟨q,r,⟨f1,f2,f3,f4,f5,f6⟩,n,hrun⟩:=HP b x2 v m hm (by rw[esc,hm,vb',th];simp only[agb];rw[edv];exact hv) cv.1 hvl sc esc s1 s2 htop (val a*sc) (L-m) (List.replicate (L-m) 0) (dig (L+1) (val a*sc)++[0])
   (Lim.rep _) ((lB _ _).append (Lim.cons (by decide) Lim.nil)) (by rw[hdl];simp;omega) (by rw[hdl];omega) (by simp) (by rw[gf,hdv];omega) (fun j hj _=>by simp) (by
    rw[hdv,hvv]
    have e1:pw (m+1)*500000000*pw (L-m)≤val b*sc*pw (L-m):=aga hVlo (agB (b9 _))
    have e2:pw (m+1)*500000000*pw (L-m)=pw (L+1)*500000000:=by
     rw[show L+1=m+1+(L-m) by omega,fb (m+1) (L-m),Int.mul_right_comm]
    have:=b9 (L+1)
    omega)
  have hq:val a*sc/(val b*sc)=val a/val b:=Int.mul_ediv_mul_of_pos_left _ _ (by omega)
  have hr:val a*sc%(val b*sc)/sc=val a%val b:=by
   rw[ahE (val a),ahE (val b),Int.mul_emod_mul_of_pos _ _ (by omega),ahE]
   exact Int.mul_ediv_cancel _ (by omega)
  rw[hvv]at f5 f6
  rw[hq]at f5
  rw[hr]at f6
  refine⟨q,r,⟨f1,f2,by rw[f3];simp;omega,by omega,f5,f6⟩,go (K7 _ _ ⟨n,?_⟩)⟩
  unfold Fx
  have e1:i64.wrap (((m+2:Nat):Int)-1)=((m+1:Nat):Int):=by rw[aP (by omega) (by omega)];omega
  have e2:i64.wrap (((L+2:Nat):Int)-((m+2:Nat):Int))=((L-m:Nat):Int):=by rw[aP (by omega) (by omega)];omega
  have e3:i64.wrap (((L-m:Nat):Int)-1)=((L-m:Nat):Int)-1:=aP (by omega) (by omega)
  rw[afZ ha,afZ hb',hm,show(((m+2:Nat):Int)==1)=false by simp;omega,afZ (show aM (ag (val a).toNat)∧aM (ag (val b).toNat) from⟨hla,hlb⟩),va',vb',show decide (ce (val a) (val b)<0)=false by
   rcases ags (val b) (val a)with hc|hc
   ·rw[cC hc];rfl
   ·rw[show val a=val b by omega,dw];rfl,e1,ao (ag (val b).toNat) (m+1),af0 hxm,hx2]
  dsimp only
  rw[esc,aY (x:=x2) (by omega) (by omega),aY (x:=x2+1) (by omega) (by omega),af1 (show ¬x2+1=0 by omega),afZ (show aM (ag (val a).toNat)∧aM [sc] from⟨hla,hsl⟩),afZ (show aM (ag (val b).toNat)∧aM [sc] from⟨hlb,hsl⟩),th,hlA]
  rw[agb,agb,hdl,iu (L+1)]
  rw[afZ (show(L+1+1)*4≤140737488355328∧L+1+1≤140737488355328 by omega),afZ (show aM (dig (m+2+1) (val b*sc)) from iA (by omega) _),e2,pI (by omega),aE,e3]
  exact hrun
abbrev BI:=Bool×List Int
def okI(x:BI):Prop:=can x.2∧(x.1=true→x.2≠[])∧x.2.length≤1000000
instance (x:BI):Decidable (okI x):=by unfold okI;infer_instance
theorem bi(x:BI):ae x=bS x.1 (val x.2):=rfl
theorem gC{x:BI}(h:okI x):x=ai (ae x):=by
 obtain⟨h1,h2,h3⟩:=h
 grind [bi,kK,m4,val,d9]
def szI(z:Int):Nat:=(ag z.natAbs).length
theorem aR{z:Int}(h:szI z≤1000000):okI (ai z):=by
 refine⟨dJ _,fun e=>?_,h⟩
 grind [ai,gk]
theorem dX{z:Int}{k:Nat}(h1: -pw k<z)(h2:z<pw k):szI z≤k:=cW (by omega)
theorem DZ(z:Int): -pw (szI z)<z∧z<pw (szI z):=by
 have h:=bP (bR z.natAbs)
 grind [aW,szI]
theorem lQ{z:Int}{k:Nat}(h:szI z≤k): -pw k<z∧z<pw k:=by
 have h1:=DZ z
 have h2:=cX h
 omega
theorem io(z:Int):szI (-z)=szI z:=by simp[szI]
theorem tJ{a b:Int}{k:Nat}(h1:szI a≤k)(h2:szI b≤k):szI (a+b)≤k+1:=by
 have e1:=lQ h1
 have e2:=lQ h2
 exact dX (by rw[bU];omega) (by rw[bU];omega)
theorem cE{a b:Int}{j k:Nat}(h1:szI a≤j)(h2:szI b≤k):szI (a*b)≤j+k:=by
 have e1:=lQ h1
 have e2:=lQ h2
 have h:(a*b).natAbs<(pw (j+k)).toNat:=by
  rw[Int.natAbs_mul,fb]
  have:(pw j*pw k).toNat=(pw j).toNat*(pw k).toNat:=Int.toNat_mul (by omega) (by omega)
  rw[this]
  exact Nat.mul_lt_mul'' (by omega) (by omega)
 exact dX (by omega) (by omega)
theorem c8{a b:Int}(h:a.natAbs≤b.natAbs):szI a≤szI b:=by
 have:=DZ b
 exact dX (by omega) (by omega)
theorem ia{x:BI}(h:okI x):szI (ae x)≤1000000:=by
 have:=gC h
 have h3:=h.2.2
 rwa [this]at h3
theorem fJ{x:BI}(h:okI x):aM x.2:=⟨h.1.1,by have:=h.2.2;omega⟩
theorem cr{x:BI}(h:okI x):0≤val x.2∧(x.1=true→0<val x.2)∧(x.2=[]↔val x.2=0):=by
 refine⟨aL h.1.1,fun e=>d9 h.1 (h.2.1 e),⟨fun e=>by rw[e];rfl,fun e=>?_⟩⟩
 rcases List.eq_nil_or_concat x.2 with h'|⟨l,y,h'⟩
 ·omega
 ·have:=d9 h.1 (by rw[h'];simp)
  omega
def mU:dH:=spN false false [ai2] (fun x=>decide (aF x.1)) (fun x=>[RV.d y2Y (ai x.1)])
theorem jy:SpK 210 mU:=spX fun x h=>Fo x.1 (af2 h)
def dvQ(a b:List Int):List Int:=if h:mY a b then Classical.choose (CP a b h)else []
def dvR(a b:List Int):List Int:=if h:mY a b then Classical.choose (ahn (CP a b h))else []
theorem Un{a b:List Int}(h:mY a b):acn a b (dvQ a b) (dvR a b):=by grind [dvQ,dvR]
theorem Qg(a b:List Int)(h:mY a b):Con Tryz.prog 340 [.d ai1 a,.d ai1 b] [.d ai1 (dvQ a b),.d ai1 (dvR a b)]:=by
 unfold dvQ dvR
 rw[dif_pos h,dif_pos h]
 exact(ahn (ahn (CP a b h))).2
def Cf:dH:=spN false false [ai1,ai1] (fun x=>decide (mY x.1 x.2.1)) (fun x=>[RV.d ai1 (dvQ x.1 x.2.1),RV.d ai1 (dvR x.1 x.2.1)])
theorem AU:SpK 340 Cf:=spX fun x h=>Qg x.1 x.2.1 (af2 h)
def oQ:Env:=[(269,uL),(300,za),(303,Cl),(304,CW),(270,C8),(268,DL),(210,mU),(340,Cf)]
theorem jq:EnvAll Tryz.prog oQ:=⟨qQ,vN,Bj,Aq,AW,Bf,jy,AU,trivial⟩
def aaG:Ctx:=CX oQ []
def Uv(x y:Bool×List Int)(_k:KT):Option (List RV):=match !(x.1==y.1)with|true=>(match x.1 with|true=>some [RV.d ai2 (-1)]|false=>some [RV.d ai2 1])|false=>(match x.1 with|true=>(og (decide (aM y.2∧aM x.2)) (some [RV.d ai2 (ce (val y.2) (val x.2))]))|false=>(og (decide (aM x.2∧aM y.2)) (some [RV.d ai2 (ce (val x.2) (val y.2))])))
theorem aa3(x y:Bool×List Int):RS aaG 172 [.d y2Y x,.d y2Y y] (Uv x y):=rsX
def Zn:Ctx:=CX oQ []
def Vp(x y:Bool×List Int)(_k:KT):Option (List RV):=match x.1==y.1 with|true=>(og (decide (aM x.2∧aM y.2)) (og (decide (aM (dig (max x.2.length y.2.length+1) (val x.2+val y.2)))) (some [RV.d y2Y (ai (bS x.1 (val (dig (max x.2.length y.2.length+1) (val x.2+val y.2)))))])))|false=>(og (decide (aM x.2∧aM y.2)) (match decide ((ce (val x.2) (val y.2))<0)with|true=>(og (decide (mh y.2 x.2)) (og (decide (aM (dig y.2.length (val y.2-val x.2)))) (some [RV.d y2Y (ai (bS y.1 (val (dig y.2.length (val y.2-val x.2)))))])))|false=>(og (decide (mh x.2 y.2)) (og (decide (aM (dig x.2.length (val x.2-val y.2)))) (some [RV.d y2Y (ai (bS x.1 (val (dig x.2.length (val x.2-val y.2)))))])))))
theorem abZ(x y:Bool×List Int):RS Zn 215 [.d y2Y x,.d y2Y y] (Vp x y):=rsX
def Z8:Ctx:=CX oQ []
def Ul(x y:Bool×List Int)(_k:KT):Option (List RV):=og (decide (aM x.2∧aM y.2)) (og (decide (aM (dig (x.2.length+y.2.length) (val x.2*val y.2)))) (some [RV.d y2Y (ai (bS (!(x.1==y.1)) (val (dig (x.2.length+y.2.length) (val x.2*val y.2)))))]))
theorem abf(x y:Bool×List Int):RS Z8 173 [.d y2Y x,.d y2Y y] (Ul x y):=rsX
def Y7:Ctx:=CX oQ []
def Ux(x:Bool×List Int)(_k:KT):Option (List RV):=og (decide (x.2.length*4≤140737488355328∧x.2.length≤140737488355328)) (og (decide (aM x.2)) (some [RV.d y2Y (ai (bS (!x.1) (val x.2)))]))
theorem aaR(x:Bool×List Int):RS Y7 216 [.d y2Y x] (Ux x):=rsX
def adj:Ctx:=CX oQ []
def Vf(x:Bool×List Int)(_k:KT):Option (List RV):=match x.1 with|true=>some [RV.d ai2 (-1)]|false=>(match decide ((x.2.length:Int)>0)with|true=>some [RV.d ai2 1]|false=>some [RV.d ai2 0])
theorem Zf(x:Bool×List Int):RS adj 83 [.d y2Y x] (Vf x):=rsX
theorem QB(x:BI)(h:okI x):Con Tryz.prog 83 [.d y2Y x] [.d ai2 (ce (ae x) 0)]:=by
 refine fq jq (Zf _ ⟨0,?_⟩)
 obtain⟨h0,h1,h2⟩:=cr h
 unfold Vf
 rw[bi]
 unfold bS
 cases hx:x.1
 ·simp only[cond_false]
  rcases ags 0 (val x.2)with hc|hc
  ·have:x.2≠[]:=fun e=>by rw[h2]at e;omega
   have:=agF.2 this
   rw[afZ (by omega),cC hc]
  ·have e:x.2=[]:=h2.2 (by omega)
   rw[e]
   rfl
 ·simp only[agd]
  rw[cQ (by have:=h1 hx;omega)]
theorem EM{a b:Int}(_ha:0≤a)(_hb:0≤b):ce (-a) (-b)=ce b a:=by grind [cC,dw,cQ]
theorem EH(x y:BI)(h:okI x∧okI y):Con Tryz.prog 172 [.d y2Y x,.d y2Y y] [.d ai2 (ce (ae x) (ae y))]:=by
 refine fq jq (aa3 _ _ ⟨0,?_⟩)
 obtain⟨hx,hy⟩:=h
 obtain⟨x0,x1,x2⟩:=cr hx
 obtain⟨y0,y1,y2⟩:=cr hy
 have lx:=fJ hx
 have ly:=fJ hy
 unfold Uv
 rw[bi,bi,afZ (show aM x.2∧aM y.2 from⟨lx,ly⟩),afZ (show aM y.2∧aM x.2 from⟨ly,lx⟩)]
 unfold bS
 cases ex:x.1<;>cases ey:y.1<;>simp only[agd,cond_false]
 ·rfl
 ·have:=y1 ey
  rw[cC (a:=val x.2) (b:= -val y.2) (by omega)]
  rfl
 ·have:=x1 ex
  rw[cQ (a:= -val x.2) (b:=val y.2) (by omega)]
  rfl
 ·rw[EM x0 y0]
  rfl
theorem Ma{a b:List Int}(ha:Lim a)(hb:Lim b):val (dig (max a.length b.length+1) (val a+val b))=val a+val b:=by
 have h1:=bP ha
 have h2:=bP hb
 have h3:=aL ha
 have h4:=aL hb
 have h5:=cX (Nat.le_max_left a.length b.length)
 have h6:=cX (Nat.le_max_right a.length b.length)
 grind [gG,bU]
theorem xd{a b:List Int}(ha:Lim a)(hb:Lim b)(hle:val b≤val a):val (dig a.length (val a-val b))=val a-val b:=by
 have h1:=bP ha
 have h4:=aL hb
 grind [gG]
theorem GH{a b:List Int}(ha:Lim a)(hb:Lim b):val (dig (a.length+b.length) (val a*val b))=val a*val b:=by
 have h1:=bP ha
 have h2:=bP hb
 have h3:=aL ha
 have h4:=aL hb
 refine gG _ _ (agT h3 h4) ?_
 rw[fb]
 have e1:=aga (agB h1) h4
 have e2:=Int.mul_lt_mul_of_pos_left h2 (b9 a.length)
 omega
theorem Qq(x y:BI)(h:okI x∧okI y):Con Tryz.prog 215 [.d y2Y x,.d y2Y y] [.d y2Y (ai (ae x+ae y))]:=by
 refine fq jq (abZ _ _ ⟨0,?_⟩)
 obtain⟨hx,hy⟩:=h
 obtain⟨x0,x1,x2⟩:=cr hx
 obtain⟨y0,y1,y2⟩:=cr hy
 have lx:=fJ hx
 have ly:=fJ hy
 have sx:=hx.2.2
 have sy:=hy.2.2
 unfold Vp
 rw[bi,bi,afZ (show aM x.2∧aM y.2 from⟨lx,ly⟩),afZ (show aM (dig (max x.2.length y.2.length+1) (val x.2+val y.2)) from iA (by omega) _),Ma lx.1 ly.1,afZ (show aM (dig x.2.length (val x.2-val y.2)) from iA (by omega) _),afZ (show aM (dig y.2.length (val y.2-val x.2)) from iA (by omega) _)]
 cases hs:x.1==y.1
 ·dsimp only
  rcases ags (val x.2) (val y.2)with hc|hc
  ·rw[cQ hc,afZ (show(-1:Int)<0 by decide),afZ (show mh y.2 x.2 from⟨ly,lx,by omega⟩),xd ly.1 lx.1 (by omega)]
   dsimp only
   unfold bS
   cases ex:x.1<;>cases ey:y.1<;>simp_all<;>congr 2<;>omega
  ·have hcm:decide (ce (val x.2) (val y.2)<0)=false:=by
    rcases ags (val y.2) (val x.2)with h|h
    ·rw[cC h];rfl
    ·rw[show val x.2=val y.2 by omega,dw];rfl
   rw[hcm,afZ (show mh x.2 y.2 from⟨lx,ly,hc⟩),xd lx.1 ly.1 hc]
   dsimp only
   unfold bS
   cases ex:x.1<;>cases ey:y.1<;>simp_all<;>congr 2<;>omega
 ·dsimp only
  have e:=aha.1 hs
  rw[←e]
  unfold bS
  cases x.1
  ·rfl
  ·simp only[agd]
   rw[show-(val x.2+val y.2)= -val x.2+ -val y.2 by omega]
theorem EG(x:BI)(h:okI x):Con Tryz.prog 216 [.d y2Y x] [.d y2Y (ai (-ae x))]:=by
 refine fq jq (aaR _ ⟨0,?_⟩)
 have sx:=h.2.2
 unfold Ux
 rw[bi,afZ (show x.2.length*4≤140737488355328∧x.2.length≤140737488355328 by omega),afZ (fJ h)]
 unfold bS
 cases x.1<;>simp
theorem FU(x y:BI)(h:okI x∧okI y):Con Tryz.prog 173 [.d y2Y x,.d y2Y y] [.d y2Y (ai (ae x*ae y))]:=by
 refine fq jq (abf _ _ ⟨0,?_⟩)
 obtain⟨hx,hy⟩:=h
 have lx:=fJ hx
 have ly:=fJ hy
 have sx:=hx.2.2
 have sy:=hy.2.2
 unfold Ul
 rw[bi,bi,afZ (show aM x.2∧aM y.2 from⟨lx,ly⟩),afZ (show aM (dig (x.2.length+y.2.length) (val x.2*val y.2)) from iA (by omega) _),GH lx.1 ly.1]
 unfold bS
 cases x.1<;>cases y.1<;>simp[Int.neg_mul,aiF]
def ni:dH:=spN false false [y2Y,y2Y] (fun x=>decide (okI x.1∧okI x.2.1)) (fun x=>[RV.d y2Y (ai (ae x.1+ae x.2.1))])
theorem jD:SpK 215 ni:=spX fun x h=>Qq x.1 x.2.1 (af2 h)
def CQ:Env:=(215,ni)::oQ
theorem wD:EnvAll Tryz.prog CQ:=⟨jD,jq⟩
def abW:Ctx:=CX CQ []
def TN(x y:Bool×List Int)(_k:KT):Option (List RV):=match !y.1 with|true=>(og (decide (okI x∧okI (decide ((y.2.length:Int)>0),y.2))) (some [RV.d y2Y (ai (ae x+ae (decide ((y.2.length:Int)>0),y.2)))]))|false=>(og (decide (okI x∧okI (false,y.2))) (some [RV.d y2Y (ai (ae x+ae (false,y.2)))]))
theorem aaK(x y:Bool×List Int):RS abW 360 [.d y2Y x,.d y2Y y] (TN x y):=rsX
theorem Mg{y:BI}(h:okI y):okI (!y.1&&decide ((y.2.length:Int)>0),y.2)∧ae (!y.1&&decide ((y.2.length:Int)>0),y.2)= -ae y:=by
 refine⟨⟨h.1,fun e=>?_,h.2.2⟩,?_⟩
 ·grind
 grind [bi,bS,val,agF]
theorem Q4(x y:BI)(h:okI x∧okI y):Con Tryz.prog 360 [.d y2Y x,.d y2Y y] [.d y2Y (ai (ae x-ae y))]:=by
 refine fq wD (aaK _ _ ⟨0,?_⟩)
 obtain⟨hx,hy⟩:=h
 obtain⟨f1,f2⟩:=Mg hy
 rw[Int.sub_eq_add_neg,←f2]
 unfold TN
 cases ey:y.1
 ·rw[ey]at f1
  simp only[Bool.not_false,ahr]at f1 ⊢
  rw[afZ ⟨hx,f1⟩]
 ·rw[ey]at f1
  simp only[Bool.not_true,Bool.false_and]at f1 ⊢
  rw[afZ ⟨hx,f1⟩]
def Mo:dH:=spN false false [y2Y,y2Y] (fun x=>decide (okI x.1∧okI x.2.1)) (fun x=>[RV.d y2Y (ai (ae x.1-ae x.2.1))])
theorem Md:SpK 360 Mo:=spX fun x h=>Q4 x.1 x.2.1 (af2 h)
def Nh:Env:=(360,Mo)::CQ
theorem Gm:EnvAll Tryz.prog Nh:=⟨Md,wD⟩
def Z0:Ctx:=CX Nh []
def UK(x y:Bool×List Int)(_k:KT):Option (List RV):=let y1:=aM (dvQ x.2 y.2);let y2:=aM (dvR x.2 y.2);let y3:=ai (bS x.1 (val (dvR x.2 y.2)));let y4:=ai (bS (!(x.1==y.1)) (val (dvQ x.2 y.2)));let y5:Option (List RV):=match decide (((y3.2).length:Int)>0)with|true=>(match !((y3.1)==y.1)with|true=>(og (decide (aF (1:Int))) (og (decide (okI y4∧okI (ai (1:Int)))) (og (decide (okI y3∧okI y)) (dup (.b .l .l) (some [RV.d y2Y (ai (ae y4-ae (ai (1:Int)))),RV.d y2Y (ai (ae y3+ae y)),RV.d ai2 0])))))|false=>dup (.b .l .l) (some [RV.d y2Y y4,RV.d y2Y y3,RV.d ai2 0]))|false=>dup (.b .l .l) (some [RV.d y2Y y4,RV.d y2Y y3,RV.d ai2 0]);let y6:Option (List RV):=match decide y2 with|true=>y5|false=>none;match(y.2.length:Int)==0 with|true=>some [RV.d y2Y (false,[]),RV.d y2Y (false,[]),RV.d ai2 6]|false=>(og (decide (mY x.2 y.2)) (cd (og (decide y1) (cd (og (decide y2) (dup (.b .l .l) y5)) (dup (.b (.b .l .l) (.b .l .l)) y6))) (dup (.b .l .l) (cd (og (decide y1) (dup (.b .l .l) y6)) (og (decide y1) y6)))))
theorem Y8(x y:Bool×List Int):RS Z0 341 [.d y2Y x,.d y2Y y] (UK x y):=rsX
def eS(x y:BI):Prop:=okI x∧okI y∧0<ae y
instance (x y:BI):Decidable (eS x y):=by unfold eS;infer_instance
theorem E5{a b:Int}(_ha:0≤a)(hb:0<b):(a%b=0→ -a/b= -(a/b)∧ -a%b=0)∧(0<a%b→ -a/b= -(a/b)-1∧ -a%b= -(a%b)+b):=by
 have h1:=ag8 a (show b≠0 by omega)
 have h2:=agM a hb
 have h3:=agJ a b
 constructor
 ·intro h
  have e: -a=b* -(a/b):=by rw[aiF];omega
  constructor
  ·rw[e,ah7 _ (by omega)]
  ·rw[e,Int.mul_emod_right]
 ·intro h
  have e: -a=(b-a%b)+b*(-(a/b)-1):=by rw[Int.mul_sub,aiF,aic];omega
  constructor
  ·rw[e,ahD _ _ (by omega),ag5 (by omega) (by omega)];omega
  ·rw[e,ahR,ah6 (by omega) (by omega)];omega
theorem nV:okI (ai 1):=by decide
theorem yu(n:Bool){v:Int}:szI (bS n v)=szI v:=by unfold bS;cases n<;>simp[io]
theorem FO(x y:BI)(h:eS x y):Con Tryz.prog 341 [.d y2Y x,.d y2Y y] [.d y2Y (ai (ae x/ae y)),.d y2Y (ai (ae x%ae y)),.d ai2 0]:=by
 refine fq Gm (Y8 _ _ ⟨0,?_⟩)
 obtain⟨hx,hy,hp⟩:=h
 obtain⟨x0,x1,x2⟩:=cr hx
 obtain⟨y0,y1,y2⟩:=cr hy
 have sx:=hx.2.2
 have sy:=hy.2.2
 have ey:y.1=false:=by
  cases e:y.1
  ·rfl
  ·rw[bi,e]at hp
   simp only[bS,agd]at hp
   omega
 have dy:ae y=val y.2:=by rw[bi,ey];rfl
 rw[dy]at hp
 have hdv:mY x.2 y.2:=⟨⟨hx.1.1,by omega⟩,⟨hy.1.1,by omega⟩,hp⟩
 obtain⟨lq,lr,sq,sr,vq,vr⟩:=Un hdv
 have hne:y.2≠[]:=fun e=>by rw[y2]at e;omega
 have hylen:=agF.2 hne
 have r0:=ag8 (val x.2) (show val y.2≠0 by omega)
 have r1:=agM (val x.2) hp
 have q0:0≤val x.2/val y.2:=agW x0 y0
 have q1:val x.2/val y.2≤val x.2:=ahJ _ x0
 have vx:=bP hx.1.1
 have vy:=bP hy.1.1
 have szq:szI (val x.2/val y.2)≤1000000:=dX (by have:=b9 1000000;omega) (by have:=cX sx;omega)
 have szr:szI (val x.2%val y.2)≤1000000:=dX (by have:=b9 1000000;omega) (by have:=cX sy;omega)
 unfold UK
 simp only[eH]
 rw[show((y.2.length:Int)==0)=false by simp;omega,afZ hdv,afZ (show aM (dvQ x.2 y.2) from⟨lq,by omega⟩),afZ (show aM (dvR x.2 y.2) from⟨lr,by omega⟩),afZ (show aF 1 by decide),vq,vr,
  afZ (show okI (ai (bS (!(x.1==y.1)) (val x.2/val y.2)))∧okI (ai (1:Int)) from⟨aR (by rw[yu];exact szq),nV⟩),afZ (show okI (ai (bS x.1 (val x.2%val y.2)))∧okI y from⟨aR (by rw[yu];exact szr),hy⟩)]
 simp only[dec_enc,dy,cN]
 have hE1:(ai (bS x.1 (val x.2%val y.2))).1=(x.1&&decide (0<val x.2%val y.2)):=by rw[kK x.1 r0]
 have hE2:(ai (bS x.1 (val x.2%val y.2))).2=ag (val x.2%val y.2).toNat:=by rw[kK x.1 r0]
 rw[hE1,hE2,bi x,ey]
 have hlen:(((ag (val x.2%val y.2).toNat).length:Int)>0)↔0<val x.2%val y.2:=by
  constructor
  ·intro hl
   rcases ags 0 (val x.2%val y.2)with h|h
   ·exact h
   ·rw[show(val x.2%val y.2).toNat=0 by omega,fe]at hl
    simp at hl
  ·intro hl
   have:ag (val x.2%val y.2).toNat≠[]:=fun e=>by rw[gk]at e;omega
   have:=agF.2 this
   omega
 obtain⟨n1,n2⟩:=E5 (a:=val x.2) (b:=val y.2) x0 hp
 rcases ags 0 (val x.2%val y.2)with hr|hr
 ·rw[afZ (hlen.2 hr),afZ hr]
  cases x.1
  ·rfl
  ·obtain⟨e1,e2⟩:=n2 hr
   simp only[bS,agd,Bool.not_false,ahr,show((true==false):Bool)=false from rfl]
   rw[e1,e2]
 ·rw[af1 (fun h'=>by have:=hlen.1 h';omega)]
  dsimp only
  have e0:val x.2%val y.2=0:=by omega
  cases x.1
  ·simp only[bS,cond_false,show((false==false):Bool)=true from rfl,Bool.not_true]
  ·obtain⟨e1,e2⟩:=n1 e0
   simp only[bS,agd,show((true==false):Bool)=false from rfl,Bool.not_false]
   rw[e1,e2,e0]
   rfl
def jO(x:BI):Bool:=decide (x.2.length≤2)
def wb(x:BI):Int:=bif jO x then val x.2 else 0
def aci:Ctx:=CX [] []
def U3(x:Bool×List Int)(_k:KT):Option (List RV):=match(x.2.length:Int)==0 with|true=>some [RV.d (.int .u64) 0,RV.d .bool true]|false=>(match(x.2.length:Int)==1 with|true=>(match aN x.2 0 with|some x1=>some [RV.d (.int .u64) (u64.wrap x1),RV.d .bool true]|none=>none)|false=>(match(x.2.length:Int)==2 with|true=>(match aN x.2 1 with|some x2=>(match aN x.2 0 with|some x3=>some [RV.d (.int .u64) (u64.wrap ((u64.wrap ((u64.wrap x2)*1000000000))+(u64.wrap x3))),RV.d .bool true]|none=>none)|none=>none)|false=>some [RV.d (.int .u64) 0,RV.d .bool false]))
theorem ac7(x:Bool×List Int):RS aci 339 [.d y2Y x] (U3 x):=rsX
theorem QJ(x:BI)(h:okI x):Con Tryz.prog 339 [.d y2Y x] [.d (.int .u64) (wb x),.d .bool (jO x)]:=by
 refine fq (E:=[]) trivial (ac7 _ ⟨0,?_⟩)
 obtain⟨neg,l⟩:=x
 have hl:=h.1.1
 unfold U3 wb jO
 match l,hl with
 |[],_=>rfl
 |[a],hl=>
  have:=hl.head
  simp only[agb,wq,agV]
  rw[aY (x:=a) (by omega) (by omega)]
  simp[val]
 |[a,b],hl=>
  have h1:=hl.head
  have h2:=hl.tail.head
  have e1:aN [a,b] 1=some b:=rfl
  have e0:aN [a,b] 0=some a:=rfl
  simp only[e1,e0,agi,List.length_nil]
  rw[aY (x:=a) (by omega) (by omega),aY (x:=b) (by omega) (by omega),aY (x:=b*1000000000) (by omega) (by omega),aY (x:=b*1000000000+a) (by omega) (by omega)]
  rw[show val [a,b]=b*1000000000+a by simp only[val];omega]
  rfl
 |a::b::c::l,hl=>
  have e:decide ((a::b::c::l).length≤2)=false:=af1 (by simp)
  rw[e,show(((a::b::c::l).length:Int)==0)=false by simp;omega,show(((a::b::c::l).length:Int)==1)=false by simp;omega,show(((a::b::c::l).length:Int)==2)=false by simp;omega]
  rfl
def Jy:dH:=spN false false [y2Y] (fun x=>decide (okI x.1)) (fun x=>[RV.d (.int .u64) (wb x.1),RV.d .bool (jO x.1)])
theorem Np:SpK 339 Jy:=spX fun x h=>QJ x.1 (af2 h)
def K4:Env:=[(269,uL),(300,za),(340,Cf),(339,Jy)]
theorem GD:EnvAll Tryz.prog K4:=⟨qQ,vN,AU,Np,trivial⟩
def VN:NT:=[((301,6),{keep:=[4,5,6],hl:=5}),((301,24),{keep:=[4,7,9],hl:=3})]
def gE:Ctx:=CX K4 VN
def kw(x y:Bool×List Int)(b3_0:Bool)(b3_1:List Int)(b4_0:Bool)(b4_1:List Int):Cfg:=⟨301,[.blk 0,.seq 40],[(4,.box 2 0),(5,.box 3 0),(6,.box 4 0)],[.box 29 [SB x.1,.d ai1 x.2],.box 29 [SB y.1,.d ai1 y.2],.box 29 [SB false,.nil],.box 29 [SB b3_0,.d ai1 b3_1],.box 29 [SB b4_0,.d ai1 b4_1]],0,[]⟩
def fU(x y:Bool×List Int)(b3_0:Bool)(b3_1:List Int)(b4_0:Bool)(b4_1:List Int):Cfg:=⟨301,[.blk 0,.seq 40],[(4,.box 2 0),(5,.box 4 0),(6,.box 3 0)],[.box 29 [SB x.1,.d ai1 x.2],.box 29 [SB y.1,.d ai1 y.2],.box 29 [SB false,.nil],.box 29 [SB b3_0,.d ai1 b3_1],.box 29 [SB b4_0,.d ai1 b4_1]],0,[]⟩
def ir(x y:Bool×List Int)(s7 s9:Int):Cfg:=⟨301,[.blk 2,.seq 33,.seq 37,.blk 1,.lp 6,.blk 0,.seq 40],[(4,.box 2 0),(7,.d (.int .u64) s7),(9,.d (.int .u64) s9)],[.box 29 [SB x.1,.d ai1 x.2],.box 29 [SB y.1,.d ai1 y.2],.box 29 [SB false,.nil]],0,[]⟩
def T8(x y:Bool×List Int)(k:KT):Option (List RV):=let y1:=ai (bS false (val x.2));let y2:=ai (bS false (val y.2));let y3:=kw x y (y1.1) (y1.2) (y2.1) (y2.2);let y4:=fU x y (y2.1) (y2.2) (y1.1) (y1.2);let y5:Option (List RV):=match decide (aM y.2)with|true=>k 6 y3|false=>none;let y6:Option (List RV):=match decide (aM y.2)with|true=>k 6 y4|false=>none;cd (og (decide (aM x.2)) (cd (og (decide (aM y.2)) (cd (k 6 y3) (k 6 y4))) (cd (dup (.b .l .l) y5) (dup (.b .l .l) y6)))) (cd (cd (og (decide (aM x.2)) (dup (.b .l .l) y5)) (og (decide (aM x.2)) y5)) (cd (og (decide (aM x.2)) (dup (.b .l .l) y6)) (og (decide (aM x.2)) y6)))
theorem aa6(x y:Bool×List Int):RS gE 301 [.d y2Y x,.d y2Y y] (T8 x y):=rsX
def Jn(x y:Bool×List Int)(b3_0:Bool)(b3_1:List Int)(b4_0:Bool)(b4_1:List Int)(k:KT):Option (List RV):=match decide ((b4_1.length:Int)>0)with|true=>(og (decide (okI (b3_0,b3_1))) (og (decide (okI (b4_0,b4_1))) (match jO (b3_0,b3_1)with|true=>(match jO (b4_0,b4_1)with|true=>k 24 (ir x y (wb (b3_0,b3_1)) (wb (b4_0,b4_1)))|false=>(og (decide (mY b3_1 b4_1)) (og (decide (aM (dvR b3_1 b4_1))) (k 6 (kw x y b4_0 b4_1 ((ai (bS false (val (dvR b3_1 b4_1)))).1) ((ai (bS false (val (dvR b3_1 b4_1)))).2))))))|false=>(og (decide (mY b3_1 b4_1)) (og (decide (aM (dvR b3_1 b4_1))) (k 6 (kw x y b4_0 b4_1 ((ai (bS false (val (dvR b3_1 b4_1)))).1) ((ai (bS false (val (dvR b3_1 b4_1)))).2))))))))|false=>(og (decide (b3_1.length*4≤140737488355328∧b3_1.length≤140737488355328)) (og (decide (aM b3_1)) (some [RV.d y2Y (ai (bS false (val b3_1)))])))
theorem Ml(x y:Bool×List Int)(b3_0:Bool)(b3_1:List Int)(b4_0:Bool)(b4_1:List Int):RL gE 6 (kw x y b3_0 b3_1 b4_0 b4_1) (Jn x y b3_0 b3_1 b4_0 b4_1):=rlX
def DC(x y:Bool×List Int)(b3_0:Bool)(b3_1:List Int)(b4_0:Bool)(b4_1:List Int)(k:KT):Option (List RV):=match decide ((b3_1.length:Int)>0)with|true=>(og (decide (okI (b4_0,b4_1))) (og (decide (okI (b3_0,b3_1))) (match jO (b4_0,b4_1)with|true=>(match jO (b3_0,b3_1)with|true=>k 24 (ir x y (wb (b4_0,b4_1)) (wb (b3_0,b3_1)))|false=>(og (decide (mY b4_1 b3_1)) (og (decide (aM (dvR b4_1 b3_1))) (k 6 (fU x y ((ai (bS false (val (dvR b4_1 b3_1)))).1) ((ai (bS false (val (dvR b4_1 b3_1)))).2) b3_0 b3_1)))))|false=>(og (decide (mY b4_1 b3_1)) (og (decide (aM (dvR b4_1 b3_1))) (k 6 (fU x y ((ai (bS false (val (dvR b4_1 b3_1)))).1) ((ai (bS false (val (dvR b4_1 b3_1)))).2) b3_0 b3_1)))))))|false=>(og (decide (b4_1.length*4≤140737488355328∧b4_1.length≤140737488355328)) (og (decide (aM b4_1)) (some [RV.d y2Y (ai (bS false (val b4_1)))])))
theorem C9(x y:Bool×List Int)(b3_0:Bool)(b3_1:List Int)(b4_0:Bool)(b4_1:List Int):RL gE 6 (fU x y b3_0 b3_1 b4_0 b4_1) (DC x y b3_0 b3_1 b4_0 b4_1):=rlX
def rl(x y:Bool×List Int)(s7 s9:Int)(k:KT):Option (List RV):=match decide (s9>0)with|true=>(match decide (s9=(0:Int))with|true=>none|false=>k 24 (ir x y s9 (Int.tmod s7 s9)))|false=>(og (decide (gK s7)) (og (decide (aM (dig 3 s7))) (some [RV.d y2Y (ai (bS false (val (dig 3 s7))))])))
theorem xe(x y:Bool×List Int)(s7 s9:Int):RL gE 24 (ir x y s7 s9) (rl x y s7 s9):=rlX
theorem Id(x y:BI)(B:Nat)(hB:(B:Int)<18446744073709551616):∀(v u:Nat),u≤B→v≤B→gE.RunsE 24 (ir x y (u:Int) (v:Int)) [.d y2Y (ai ((Nat.gcd u v:Nat):Int))]:=by
 intro v
 induction v using Nat.strongRecOn with
 |ind v ih=>
  intro u hu hv
  rcases agQ v with h0|h0
  ·refine xe _ _ _ _ ⟨0,fun n _=>?_⟩
   have hp:gK (u:Int):=⟨by omega,by omega⟩
   unfold rl
   rw[af1 (show ¬(v:Int)>0 by omega),afZ hp,afZ (iA (n:=3) (by decide) (u:Int)),ug hp,show Nat.gcd u v=u by rw[h0];exact Nat.gcd_zero_right u]
   rfl
  ·obtain⟨n0,hn⟩:=ih (u%v) (aiJ _ h0) v hv (agj (Nat.le_of_lt (aiJ _ h0)) hv)
   refine xe _ _ _ _ ⟨n0,fun n hn'=>?_⟩
   unfold rl
   rw[afZ (by omega),af1 (by omega),iK (by omega)]
   dsimp only
   rw[show((u:Int)%(v:Int))=((u%v:Nat):Int) by simp,ahW u v,Nat.gcd_rec v u,ahW]
   exact hn n hn'
theorem wK(v:Int):bS false v=v:=rfl
theorem ib(u:Nat):ai (u:Int)=(false,ag u):=rfl
theorem wv{u:Nat}(h:(ag u).length≤2):u≤(pw 2).toNat:=by
 have h1:=bP (bR u)
 rw[aW]at h1
 have h2:=cX h
 omega
theorem Xp:(((pw 2).toNat:Nat):Int)<18446744073709551616:=by decide
theorem Bs{k:Nat→Cfg→Option (List RV)}{u v:Nat}(hu:szI u≤1000000)(hv:szI v≤1000000){r:List RV}{H:Int→Int→Cfg}{D:Int→Cfg}
  (h1:v=0→r=[.d y2Y (ai (u:Int))]) (h2:v≠0→jO (ai (u:Int))=true→jO (ai (v:Int))=true→k 24 (H (u:Int) (v:Int))=some r) (h3:v≠0→k 6 (D ((u%v:Nat):Int))=some r) (D':List Int→Cfg) (hD:D' (dvR (ag u) (ag v))=D (val (dvR (ag u) (ag v)))):
  (match decide (((ag v).length:Int)>0)with
   |true=>(match decide (okI (ai (u:Int)))with
    |true=>(match decide (okI (ai (v:Int)))with
     |true=>(match jO (ai (u:Int))with
      |true=>(match jO (ai (v:Int))with
       |true=>k 24 (H (wb (ai (u:Int))) (wb (ai (v:Int))))
       |false=>(match decide (mY (ag u) (ag v))with
        |true=>(match decide (aM (dvR (ag u) (ag v)))with
         |true=>k 6 (D' (dvR (ag u) (ag v)))
         |false=>none)
        |false=>none))
      |false=>(match decide (mY (ag u) (ag v))with
        |true=>(match decide (aM (dvR (ag u) (ag v)))with
         |true=>k 6 (D' (dvR (ag u) (ag v)))
         |false=>none)
        |false=>none))
     |false=>none)
    |false=>none)
   |false=>(match decide ((ag u).length*4≤140737488355328∧(ag u).length≤140737488355328)with
    |true=>(match decide (aM (ag u))with
     |true=>some [.d y2Y (ai (bS false (val (ag u))))]
     |false=>none)
    |false=>none))=some r:=by
 have lu:(ag u).length≤1000000:=by have:=hu;unfold szI at this;rwa [ahX]at this
 have lv:(ag v).length≤1000000:=by have:=hv;unfold szI at this;rwa [ahX]at this
 rcases agQ v with h0|h0
 ·subst h0
  rw[h1 rfl,show decide (((ag 0).length:Int)>0)=false from rfl,afZ (show(ag u).length*4≤140737488355328∧(ag u).length≤140737488355328 by omega),afZ (show aM (ag u) from⟨bR u,by omega⟩),aW]
  rfl
 ·have hne:ag v≠[]:=fun e=>by rw[gk]at e;omega
  have hl:=agF.2 hne
  have hvv:=aW v
  have hvu:=aW u
  have hdv:mY (ag u) (ag v):=⟨⟨bR u,by omega⟩,⟨bR v,by omega⟩,by omega⟩
  obtain⟨_,lr,_,sr,_,vr⟩:=Un hdv
  have hD2:k 6 (D' (dvR (ag u) (ag v)))=some r:=by
   rw[hD,vr,hvv,hvu]
   exact h3 (by omega)
  rw[afZ (by omega),afZ (aR hu),afZ (aR hv),afZ hdv,afZ (show aM (dvR (ag u) (ag v)) from⟨lr,by omega⟩)]
  dsimp only
  cases hb1:jO (ai (u:Int))
  ·exact hD2
  ·cases hb2:jO (ai (v:Int))
   ·exact hD2
   ·dsimp only
    have:=h2 (by omega) hb1 hb2
    unfold wb
    rw[hb1,hb2]
    simp only[agd,ib]
    rw[hvv,hvu]
    exact this
theorem NE(x y:BI):∀(v u:Nat),szI u≤1000000→szI v≤1000000→
  gE.RunsE 6 (kw x y false (ag u) false (ag v)) [.d y2Y (ai ((Nat.gcd u v:Nat):Int))]∧gE.RunsE 6 (fU x y false (ag v) false (ag u)) [.d y2Y (ai ((Nat.gcd u v:Nat):Int))]:=by
 intro v
 induction v using Nat.strongRecOn with
 |ind v ih=>
  intro u hu hv
  have hw:jO (ai (u:Int))=true→jO (ai (v:Int))=true→gE.RunsE 24 (ir x y (u:Int) (v:Int)) [.d y2Y (ai ((Nat.gcd u v:Nat):Int))]:=fun h1 h2=>by
   unfold jO at h1 h2
   rw[ib]at h1 h2
   exact Id x y _ Xp v u (wv (af2 h1)) (wv (af2 h2))
  have hd:v≠0→gE.RunsE 6 (kw x y false (ag v) false (ag (u%v))) [.d y2Y (ai ((Nat.gcd u v:Nat):Int))]∧gE.RunsE 6 (fU x y false (ag (u%v)) false (ag v)) [.d y2Y (ai ((Nat.gcd u v:Nat):Int))]:=fun h0=>by
   have hm:=aiJ u (Nat.pos_of_ne_zero h0)
   have:=ih (u%v) hm v hv (agj (c8 (by omega)) hv)
   rw[ahW u v,Nat.gcd_rec v u,ahW (u%v) v]
   exact this
  have hcommon:∃n0,∀n,n0≤n→(jO (ai (u:Int))=true→jO (ai (v:Int))=true→gE.k n 24 (ir x y (u:Int) (v:Int))=some [.d y2Y (ai ((Nat.gcd u v:Nat):Int))])∧(v≠0→gE.k n 6 (kw x y false (ag v) false (ag (u%v)))=some [.d y2Y (ai ((Nat.gcd u v:Nat):Int))]∧gE.k n 6 (fU x y false (ag (u%v)) false (ag v))=some [.d y2Y (ai ((Nat.gcd u v:Nat):Int))]):=by
   have g1:∃n1,∀n,n1≤n→(jO (ai (u:Int))=true→jO (ai (v:Int))=true→gE.k n 24 (ir x y (u:Int) (v:Int))=some [.d y2Y (ai ((Nat.gcd u v:Nat):Int))]):=by
    by_cases hb:jO (ai (u:Int))=true∧jO (ai (v:Int))=true
    ·obtain⟨n,h⟩:=hw hb.1 hb.2
     exact⟨n,fun m hm _ _=>h m hm⟩
    ·exact⟨0,fun n _ h1 h2=>absurd ⟨h1,h2⟩ hb⟩
   have g2:∃n1,∀n,n1≤n→(v≠0→gE.k n 6 (kw x y false (ag v) false (ag (u%v)))=some [.d y2Y (ai ((Nat.gcd u v:Nat):Int))]∧gE.k n 6 (fU x y false (ag (u%v)) false (ag v))=some [.d y2Y (ai ((Nat.gcd u v:Nat):Int))]):=by
    by_cases hb:v=0
    ·exact⟨0,fun n _ h=>absurd hb h⟩
    ·obtain⟨⟨n1,h1⟩,⟨n2,h2⟩⟩:=hd hb
     exact⟨max n1 n2,fun n hn _=>⟨h1 n (by omega),h2 n (by omega)⟩⟩
   obtain⟨n1,h1⟩:=g1
   obtain⟨n2,h2⟩:=g2
   exact⟨max n1 n2,fun n hn=>⟨h1 n (by omega),h2 n (by omega)⟩⟩
  obtain⟨n0,hc⟩:=hcommon
  have hz:v=0→([.d y2Y (ai ((Nat.gcd u v:Nat):Int))]:List RV)=[.d y2Y (ai (u:Int))]:=fun e=>by subst e;rw[Nat.gcd_zero_right]
  constructor
  ·refine Ml _ _ _ _ _ _ ⟨n0,fun n hn=>?_⟩
   have:=Bs (k:=gE.k n) hu hv (H:=fun a b=>ir x y a b) (D:=fun z=>kw x y false (ag v) (ai z).1 (ai z).2) hz (fun _ h1 h2=>(hc n hn).1 h1 h2) (fun h0=>by rw[ib];exact((hc n hn).2 h0).1) (fun l=>kw x y false (ag v) (ai (bS false (val l))).1 (ai (bS false (val l))).2) rfl
   rw[ib,ib]at this
   exact this
  ·refine C9 _ _ _ _ _ _ ⟨n0,fun n hn=>?_⟩
   have:=Bs (k:=gE.k n) hu hv (H:=fun a b=>ir x y a b) (D:=fun z=>fU x y (ai z).1 (ai z).2 false (ag v)) hz (fun _ h1 h2=>(hc n hn).1 h1 h2) (fun h0=>by rw[ib];exact((hc n hn).2 h0).2) (fun l=>fU x y (ai (bS false (val l))).1 (ai (bS false (val l))).2 false (ag v)) rfl
   rw[ib,ib]at this
   exact this
theorem QX(x y:BI)(h:okI x∧okI y):Con Tryz.prog 301 [.d y2Y x,.d y2Y y] [.d y2Y (ai ((Int.gcd (ae x) (ae y):Nat):Int))]:=by
 refine fq GD (show gE.Res _ _ _ from ?_)
 obtain⟨hx,hy⟩:=h
 obtain⟨x0,_,_⟩:=cr hx
 obtain⟨y0,_,_⟩:=cr hy
 have ex:((ae x).natAbs:Int)=val x.2:=by rw[bi];unfold bS;cases x.1<;>simp<;>omega
 have ey:((ae y).natAbs:Int)=val y.2:=by rw[bi];unfold bS;cases y.1<;>simp<;>omega
 have szx:szI ((ae x).natAbs:Int)≤1000000:=agj (c8 (by omega)) (ia hx)
 have szy:szI ((ae y).natAbs:Int)≤1000000:=agj (c8 (by omega)) (ia hy)
 obtain⟨⟨n1,h1⟩,⟨n2,h2⟩⟩:=NE x y (ae y).natAbs (ae x).natAbs szx szy
 refine aa6 _ _ ⟨max n1 n2,?_⟩
 have h1:=h1 (max n1 n2) (by omega)
 have h2:=h2 (max n1 n2) (by omega)
 unfold T8
 simp only[eH]
 rw[afZ (fJ hx),afZ (fJ hy),wK,wK,←ex,←ey,ib,ib]
 dsimp only
 rw[h1,h2]
 simp only[cN]
 rfl
abbrev BR:=BI×BI
def aq(q:Rat):BR:=(ai q.num,ai (q.den:Int))
def ah(x:BR):Rat:=mkRat (ae x.1) (ae x.2).toNat
theorem cj(q:Rat):ah (aq q)=q:=by simp[ah,aq,dec_enc]
def okR(x:BR):Prop:=okI x.1∧okI x.2∧0<ae x.2∧Int.gcd (ae x.1) (ae x.2)=1∧x.1.2.length≤480000∧x.2.2.length≤480000
instance (x:BR):Decidable (okR x):=by unfold okR;infer_instance
def o1(x:BR):Bool:=decide (okR x)
def o2(x y:BR):Bool:=decide (okR x∧okR y)
theorem acg(x:BR):o1 x=decide (okR x):=rfl
theorem ZU(x y:BR):o2 x y=(decide (okR x)&&decide (okR y)):=ahP _ _
theorem cD{x:BR}(h:okR x):(ah x).num=ae x.1∧((ah x).den:Int)=ae x.2:=by
 obtain⟨h1,h2,h3,h4,_⟩:=h
 unfold ah
 rw[Rat.num_mkRat,Rat.den_mkRat]
 have hg:(ae x.2).toNat.gcd (ae x.1).natAbs=1:=by
  rwa [ahW,show(ae x.2).toNat=(ae x.2).natAbs by omega]
 grind
theorem MF{x:BR}(h:okR x):x=aq (ah x):=by
 obtain⟨e1,e2⟩:=cD h
 unfold aq
 rw[e1,e2,←gC h.1,←gC h.2.1]
def bdR(k:Nat)(q:Rat):Prop:=szI q.num≤k∧szI (q.den:Int)≤k
theorem nG{q:Rat}{k:Nat}(h:bdR k q)(hk:k≤480000):okR (aq q):=by
 obtain⟨h1,h2⟩:=h
 have hd:=q.den_pos
 refine⟨aR (by omega),aR (by omega),?_,?_,by show szI q.num≤480000;omega,by show szI (q.den:Int)≤480000;omega⟩
 ·show 0<ae (ai (q.den:Int))
  grind [dec_enc]
 ·show Int.gcd (ae (ai q.num)) (ae (ai (q.den:Int)))=1
  rw[dec_enc,dec_enc]
  exact q.reduced
theorem yD{x:BR}(h:okR x):bdR 480000 (ah x):=by
 obtain⟨e1,e2⟩:=cD h
 obtain⟨h1,h2,_,_,h5,h6⟩:=h
 unfold bdR szI
 rw[e1,e2]
 rw[gC h1]at h5
 rw[gC h2]at h6
 exact⟨h5,h6⟩
theorem a9{j k:Nat}{q:Rat}(h:bdR j q)(hk:j≤k):bdR k q:=⟨agj h.1 hk,agj h.2 hk⟩
theorem P6(a:Int)(g:Nat):(a/(g:Int)).natAbs≤a.natAbs∨¬(g:Int)∣a:=by
 by_cases h:(g:Int)∣a
 ·obtain⟨k,rfl⟩:=h
  rcases agQ g with h0|h0
  ·grind
  ·rw[ah7 _ (by omega),Int.natAbs_mul]
   simp_all [Nat.le_mul_of_pos_left]
 grind
theorem oM{n:Int}{d k:Nat}(hd:d≠0)(h1:szI n≤k)(h2:szI (d:Int)≤k):bdR k (mkRat n d):=by
 unfold bdR
 rw[Rat.num_mkRat,Rat.den_mkRat,agk hd,agk hd]
 constructor
 ·refine agj (c8 ?_) h1
  grind [P6,Nat.gcd_dvd_right,Int.ofNat_dvd_left]
 ·exact agj (c8 (by rw[ahX,ahX];exact Nat.div_le_self _ _)) h2
theorem tM{k:Nat}{a:Rat}(h:bdR k a):bdR k (-a):=by
 refine⟨?_,h.2⟩
 rw[Rat.neg_num,io]
 exact h.1
theorem yJ{j k:Nat}{a b:Rat}(ha:bdR j a)(hb:bdR k b):bdR (j+k+1) (a+b):=by
 rw[Rat.add_def']
 have d1:=a.den_pos
 have d2:=b.den_pos
 refine oM (Nat.mul_ne_zero (by omega) (by omega)) (tJ (cE ha.1 hb.2) ?_) ?_
 ·rw[Nat.add_comm];exact cE hb.1 ha.2
 ·rw[ahB];exact agj (cE ha.2 hb.2) (by omega)
theorem P3{j k:Nat}{a b:Rat}(ha:bdR j a)(hb:bdR k b):bdR (j+k+1) (a-b):=by grind [Rat.sub_eq_add_neg,yJ,tM]
theorem xN{j k:Nat}{a b:Rat}(ha:bdR j a)(hb:bdR k b):bdR (j+k) (a*b):=by
 rw[Rat.mul_def']
 have d1:=a.den_pos
 have d2:=b.den_pos
 refine oM (Nat.mul_ne_zero (by omega) (by omega)) (cE ha.1 hb.1) ?_
 exact cE ha.2 hb.2
theorem Oi{k:Nat}{a:Rat}(h:bdR k a)(h0:a≠0):bdR k a⁻¹:=by
 have hn:a.num≠0:=fun e=>h0 (Rat.num_eq_zero.1 e)
 rw[Rat.inv_def]
 rcases ahY hn with h1|h1
 ·rw[←Rat.neg_divInt_neg,show-a.num=(((-a.num).toNat:Nat):Int) by omega,Rat.divInt_ofNat]
  refine oM (by omega) (by rw[io];exact h.2) ?_
  rw[show(((-a.num).toNat:Nat):Int)= -a.num by omega,io]
  exact h.1
 ·rw[show a.num=((a.num.toNat:Nat):Int) by omega,Rat.divInt_ofNat]
  refine oM (by omega) h.2 ?_
  rw[show((a.num.toNat:Nat):Int)=a.num by omega]
  exact h.1
theorem Qm{j k:Nat}{a b:Rat}(ha:bdR j a)(hb:bdR k b)(h0:b≠0):bdR (j+k) (a/b):=by grind [xN,Oi]
def eO(x y:BI):BR:=aq (Rat.divInt (ae x) (ae y))
def iX(x y:BI):Prop:=okI x∧okI y∧ae y≠0
instance (x y:BI):Decidable (iX x y):=by unfold iX;infer_instance
theorem l9{n d:Int}(hd:0<d):aq (Rat.divInt n d)=(ai (n/(Int.gcd n d:Int)),ai (d/(Int.gcd n d:Int))):=by
 obtain⟨D,rfl⟩:=ahb (agB hd)
 unfold aq
 rw[Rat.divInt_ofNat,Rat.num_mkRat,Rat.den_mkRat,agk (by omega),agk (by omega)]
 have e:Int.gcd n (D:Int)=D.gcd n.natAbs:=by rw[ahW];rfl
 grind
def sF:dH:=spN true false [y2Y] (fun x=>decide (okI x.1)) (fun x=>[RV.d ai2 (ce (ae x.1) 0)])
theorem m9:SpK 83 sF:=spX fun x h=>QB x.1 (af2 h)
def oG:dH:=spN true false [y2Y,y2Y] (fun x=>decide (okI x.1∧okI x.2.1)) (fun x=>[RV.d ai2 (ce (ae x.1) (ae x.2.1))])
theorem ll:SpK 172 oG:=spX fun x h=>EH x.1 x.2.1 (af2 h)
def qY:dH:=spN false false [y2Y] (fun x=>decide (okI x.1)) (fun x=>[RV.d y2Y (ai (-ae x.1))])
theorem m6:SpK 216 qY:=spX fun x h=>EG x.1 (af2 h)
def re:dH:=spN false false [y2Y,y2Y] (fun x=>decide (okI x.1∧okI x.2.1)) (fun x=>[RV.d y2Y (ai (ae x.1*ae x.2.1))])
theorem mH:SpK 173 re:=spX fun x h=>FU x.1 x.2.1 (af2 h)
def yU:dH:=spN false false [y2Y,y2Y] (fun x=>decide (eS x.1 x.2.1)) (fun x=>[RV.d y2Y (ai (ae x.1/ae x.2.1)),RV.d y2Y (ai (ae x.1%ae x.2.1)),RV.d ai2 0])
theorem vm:SpK 341 yU:=spX fun x h=>FO x.1 x.2.1 (af2 h)
def D4:dH:=spN false false [y2Y,y2Y] (fun x=>decide (okI x.1∧okI x.2.1)) (fun x=>[RV.d y2Y (ai ((Int.gcd (ae x.1) (ae x.2.1):Nat):Int))])
theorem zT:SpK 301 D4:=spX fun x h=>QX x.1 x.2.1 (af2 h)
def CE:Env:=[(210,mU),(83,sF),(172,oG),(215,ni),(216,qY),(173,re),(341,yU),(301,D4)]
theorem wQ:EnvAll Tryz.prog CE:=⟨jy,m9,ll,jD,m6,mH,vm,zT,trivial⟩
def adt:Ctx:=CX CE []
def Vi(_k:KT):Option (List RV):=og (decide (aF (1:Int))) (some [RV.d y2Y (ai (1:Int))])
theorem adI:RS adt 299 [] (Vi):=rsX
def adv:Ctx:=CX CE []
def UP(x y:Bool×List Int)(_k:KT):Option (List RV):=og (decide (eS x y)) (some [RV.d y2Y (ai (ae x/ae y))])
theorem ZN(x y:Bool×List Int):RS adv 302 [.d y2Y x,.d y2Y y] (UP x y):=rsX
theorem OE:Con Tryz.prog 299 [] [.d y2Y (ai 1)]:=by
 refine fq wQ (adI ⟨0,?_⟩)
 unfold Vi
 rw[afZ (show aF 1 by decide)]
theorem Pf(x y:BI)(h:eS x y):Con Tryz.prog 302 [.d y2Y x,.d y2Y y] [.d y2Y (ai (ae x/ae y))]:=by
 refine fq wQ (ZN _ _ ⟨0,?_⟩)
 unfold UP
 rw[afZ h]
def ve:dH:=spN false false [] (fun _=>true) (fun _=>[RV.d y2Y (ai 1)])
theorem pJ:SpK 299 ve:=spX fun _ _=>OE
def Ll:dH:=spN false false [y2Y,y2Y] (fun x=>decide (eS x.1 x.2.1)) (fun x=>[RV.d y2Y (ai (ae x.1/ae x.2.1))])
theorem Kd:SpK 302 Ll:=spX fun x h=>Pf x.1 x.2.1 (af2 h)
def NF:Env:=[(210,mU),(83,sF),(172,oG),(215,ni),(216,qY),(173,re),(341,yU),(301,D4),(299,ve),(302,Ll)]
theorem GA:EnvAll Tryz.prog NF:=⟨jy,m9,ll,jD,m6,mH,vm,zT,pJ,Kd,trivial⟩
def adn:Ctx:=CX NF []
def TF(x y:Bool×List Int)(_k:KT):Option (List RV):=match decide (okI y)with|true=>(match decide ((ce (ae y) 0)<0)with|true=>(match decide (okI x)with|true=>(match decide (okI y)with|true=>(match decide (okI (ai (-ae x))∧okI (ai (-ae y)))with|true=>(match decide (okI (ai ((Int.gcd (ae (ai (-ae x))) (ae (ai (-ae y))):Nat):Int))∧okI (ai 1))with|true=>(match(ce (ae (ai ((Int.gcd (ae (ai (-ae x))) (ae (ai (-ae y))):Nat):Int))) (ae (ai 1))) !=0 with|true=>(match decide (eS (ai (-ae x)) (ai ((Int.gcd (ae (ai (-ae x))) (ae (ai (-ae y))):Nat):Int)))with|true=>(match decide (eS (ai (-ae y)) (ai ((Int.gcd (ae (ai (-ae x))) (ae (ai (-ae y))):Nat):Int)))with|true=>some [RV.d (.st (.pair y2Y y2Y)) ((ai (ae (ai (-ae x))/ae (ai ((Int.gcd (ae (ai (-ae x))) (ae (ai (-ae y))):Nat):Int)))),(ai (ae (ai (-ae y))/ae (ai ((Int.gcd (ae (ai (-ae x))) (ae (ai (-ae y))):Nat):Int)))))]|false=>none)|false=>none)|false=>some [RV.d (.st (.pair y2Y y2Y)) ((ai (-ae x)),(ai (-ae y)))])|false=>none)|false=>none)|false=>none)|false=>none)|false=>(match decide (okI x∧okI y)with|true=>(match decide (okI (ai ((Int.gcd (ae x) (ae y):Nat):Int))∧okI (ai 1))with|true=>(match(ce (ae (ai ((Int.gcd (ae x) (ae y):Nat):Int))) (ae (ai 1))) !=0 with|true=>(match decide (eS x (ai ((Int.gcd (ae x) (ae y):Nat):Int)))with|true=>(match decide (eS y (ai ((Int.gcd (ae x) (ae y):Nat):Int)))with|true=>some [RV.d (.st (.pair y2Y y2Y)) ((ai (ae x/ae (ai ((Int.gcd (ae x) (ae y):Nat):Int)))),(ai (ae y/ae (ai ((Int.gcd (ae x) (ae y):Nat):Int)))))]|false=>none)|false=>none)|false=>some [RV.d (.st (.pair y2Y y2Y)) (x,y)])|false=>none)|false=>none))|false=>none
theorem ZE(x y:Bool×List Int):RS adn 214 [.d y2Y x,.d y2Y y] (TF x y):=rsX
theorem NZ{a b:Int}(hb:b≠0){k:Nat}(h:szI b≤k):szI ((Int.gcd a b:Nat):Int)≤k:=by
 refine agj (c8 ?_) h
 exact Nat.le_of_dvd (by omega) (Nat.gcd_dvd_right a.natAbs b.natAbs)
theorem Qt(x y:BI)(h:iX x y):Con Tryz.prog 214 [.d y2Y x,.d y2Y y] [.d (.st (.pair y2Y y2Y)) (eO x y)]:=by
 refine fq GA (ZE _ _ ⟨0,?_⟩)
 obtain⟨hx,hy,hne⟩:=h
 have sx:=ia hx
 have sy:=ia hy
 have hgp:0<Int.gcd (ae x) (ae y):=Nat.pos_of_ne_zero fun e=>hne (Int.gcd_eq_zero_iff.1 e).2
 have hgs:=NZ (a:=ae x) hne sy
 unfold TF eO
 rw[afZ hy]
 dsimp only
 rcases ahY hne with hn|hn
 ·rw[cQ hn,afZ (show(-1:Int)<0 by decide),afZ hx]
  have o1:okI (ai (-ae x)):=aR (by rw[io];exact sx)
  have o2:okI (ai (-ae y)):=aR (by rw[io];exact sy)
  simp only[dec_enc,Int.gcd_neg,Int.neg_gcd]
  have og:okI (ai ((Int.gcd (ae x) (ae y):Nat):Int)):=aR hgs
  rw[afZ (show okI (ai (-ae x))∧okI (ai (-ae y)) from⟨o1,o2⟩),afZ (show okI (ai ((Int.gcd (ae x) (ae y):Nat):Int))∧okI (ai 1) from⟨og,nV⟩)]
  rw[←Rat.neg_divInt_neg,l9 (by omega),Int.gcd_neg,Int.neg_gcd]
  dsimp only
  by_cases h1:Int.gcd (ae x) (ae y)=1
  ·rw[h1]
   simp[dw]
  ·have hc:(ce ((Int.gcd (ae x) (ae y):Nat):Int) 1 !=0)=true:=by
    rw[cC (by omega)];rfl
   rw[hc,afZ (show eS (ai (-ae x)) (ai ((Int.gcd (ae x) (ae y):Nat):Int)) from⟨o1,og,by rw[dec_enc];omega⟩),afZ (show eS (ai (-ae y)) (ai ((Int.gcd (ae x) (ae y):Nat):Int)) from⟨o2,og,by rw[dec_enc];omega⟩)]
 ·rw[cC hn,af1 (show ¬(1:Int)<0 by decide)]
  simp only[dec_enc]
  have og:okI (ai ((Int.gcd (ae x) (ae y):Nat):Int)):=aR hgs
  rw[afZ (show okI x∧okI y from⟨hx,hy⟩),afZ (show okI (ai ((Int.gcd (ae x) (ae y):Nat):Int))∧okI (ai 1) from⟨og,nV⟩),l9 hn]
  dsimp only
  by_cases h1:Int.gcd (ae x) (ae y)=1
  ·rw[h1]
   simp only[Int.natCast_one,dw,Int.ediv_one,←gC hx,←gC hy]
   rfl
  ·have hc:(ce ((Int.gcd (ae x) (ae y):Nat):Int) 1 !=0)=true:=by
    rw[cC (by omega)];rfl
   rw[hc,afZ (show eS x (ai ((Int.gcd (ae x) (ae y):Nat):Int)) from⟨hx,og,by rw[dec_enc];omega⟩),afZ (show eS y (ai ((Int.gcd (ae x) (ae y):Nat):Int)) from⟨hy,og,by rw[dec_enc];omega⟩)]
def aC(a b:Rat):Int:=bif decide (a<b)then-1 else bif decide (b<a)then 1 else 0
theorem dg{a b:Rat}(h:a<b):aC a b= -1:=by grind [aC]
theorem cV{a b:Rat}(h:b<a):aC a b=1:=by grind [aC]
theorem de(a:Rat):aC a a=0:=by simp[aC]
theorem uh(a b:Rat):ce (a.num*(b.den:Int)) (b.num*(a.den:Int))=aC a b:=by simp[ce,aC,Rat.lt_iff]
theorem rR(a:Rat):ce a.num 0=aC a 0:=by
 rw[←uh]
 simp
def yp:dH:=spN false false [y2Y,y2Y] (fun x=>decide (iX x.1 x.2.1)) (fun x=>[RV.d (.st (.pair y2Y y2Y)) (eO x.1 x.2.1)])
theorem uN:SpK 214 yp:=spX fun x h=>Qt x.1 x.2.1 (af2 h)
def Vx:NT:=[((171,3),{keep:=[0,1,8],hl:=0}),((171,5),{keep:=[0,1,5,10],hl:=0})]
def acB:Ctx:=CX [] Vx
def T7(x y:Int)(_k:KT):Option (List RV):=match x !=x with|true=>(match y !=y with|true=>some [RV.d ai2 0]|false=>some [RV.d ai2 (-1)])|false=>(match y !=y with|true=>some [RV.d ai2 1]|false=>(match decide (x<y)with|true=>some [RV.d ai2 (-1)]|false=>(match decide (x>y)with|true=>some [RV.d ai2 1]|false=>some [RV.d ai2 0])))
theorem Y2(x y:Int):RS acB 171 [SI x,SI y] (T7 x y):=rsX
theorem O7(x y:Int):Con Tryz.prog 171 [.d ai2 x,.d ai2 y] [.d ai2 (ce x y)]:=by
 refine fq (E:=[]) trivial (Y2 _ _ ⟨0,?_⟩)
 unfold T7
 rw[show(x !=x)=false by simp,show(y !=y)=false by simp]
 dsimp only
 rcases Int.lt_trichotomy x y with h|h|h
 ·rw[cQ h,afZ h]
 ·subst h;rw[dw,af1 (show ¬x<x by omega)]
 ·rw[cC h,af1 (show ¬x<y by omega),afZ (show x>y from h)]
def ye:dH:=spN true false [ai2,ai2] (fun _=>true) (fun x=>[RV.d ai2 (ce x.1 x.2.1)])
theorem uB:SpK 171 ye:=spX fun x _=>O7 x.1 x.2.1
def CD:Env:=[(210,mU),(83,sF),(172,oG),(215,ni),(216,qY),(173,re),(299,ve),(214,yp),(171,ye)]
theorem xm:EnvAll Tryz.prog CD:=⟨jy,m9,ll,jD,m6,mH,pJ,uN,uB,trivial⟩
def adl:Ctx:=CX CD []
def ac2(x:Bool×List Int)(_k:KT):Option (List RV):=some [RV.d (.st (.pair y2Y y2Y)) (x,(ai 1))]
theorem abO(x:Bool×List Int):RS adl 209 [.d y2Y x] (ac2 x):=rsX
theorem Qk(x:BI):Con Tryz.prog 209 [.d y2Y x] [.d (.st (.pair y2Y y2Y)) (x,ai 1)]:=
 fq xm (abO _ ⟨0,rfl⟩)
def C3:dH:=spN false false [y2Y] (fun _=>true) (fun x=>[RV.d (.st (.pair y2Y y2Y)) (x.1,ai 1)])
theorem AK:SpK 209 C3:=spX fun x _=>Qk x.1
def adO:Ctx:=CX CD []
def Sd(a:(Bool×List Int)×Bool×List Int)(_k:KT):Option (List RV):=og (decide (okI a.1)) (some [RV.d ai2 (ce (ae a.1) 0)])
theorem aaD(a:(Bool×List Int)×Bool×List Int):RS adO 41 [.d (.st (.pair y2Y y2Y)) a] (Sd a):=rsX
theorem ER(a:BR)(h:okR a):Con Tryz.prog 41 [.d (.st (.pair y2Y y2Y)) a] [.d ai2 (aC (ah a) 0)]:=by
 refine fq xm (aaD _ ⟨0,?_⟩)
 unfold Sd
 rw[afZ h.1,←rR,(cD h).1]
def DF:dH:=spN true false [(.st (.pair y2Y y2Y))] (fun x=>decide (okR x.1)) (fun x=>[RV.d ai2 (aC (ah x.1) 0)])
theorem AO:SpK 41 DF:=spX fun x h=>ER x.1 (af2 h)
def lW:Env:=[(210,mU),(83,sF),(172,oG),(215,ni),(216,qY),(173,re),(299,ve),(214,yp),(171,ye),(209,C3),(41,DF)]
theorem gX:EnvAll Tryz.prog lW:=⟨jy,m9,ll,jD,m6,mH,pJ,uN,uB,AK,AO,trivial⟩
def aas:Ctx:=CX lW []
def Ut(n:Int)(_k:KT):Option (List RV):=og (decide (aF n)) (some [RV.d (.st (.pair y2Y y2Y)) ((ai n),(ai 1))])
theorem adh(n:Int):RS aas 99 [SI n] (Ut n):=rsX
def abX:Ctx:=CX lW []
def Td(a b:(Bool×List Int)×Bool×List Int)(_k:KT):Option (List RV):=match decide (okR a)with|true=>(match decide (okR b)with|true=>(match(ce (aC (ah a) 0) (aC (ah b) 0)) !=0 with|true=>some [RV.d ai2 (ce (aC (ah a) 0) (aC (ah b) 0))]|false=>(match decide (okI a.1∧okI b.2)with|true=>(match decide (okI b.1∧okI a.2)with|true=>(match decide (okI (ai (ae a.1*ae b.2))∧okI (ai (ae b.1*ae a.2)))with|true=>some [RV.d ai2 (ce (ae (ai (ae a.1*ae b.2))) (ae (ai (ae b.1*ae a.2))))]|false=>none)|false=>none)|false=>none))|false=>none)|false=>none
theorem ZW(a b:(Bool×List Int)×Bool×List Int):RS abX 73 [.d (.st (.pair y2Y y2Y)) a,.d (.st (.pair y2Y y2Y)) b] (Td a b):=rsX
def ac6:Ctx:=CX lW []
def UG(a b:(Bool×List Int)×Bool×List Int)(_k:KT):Option (List RV):=match decide (okI a.2∧okI b.2)with|true=>(match(ce (ae a.2) (ae b.2))==0 with|true=>(match decide (okI a.1∧okI b.1)with|true=>(match decide (iX (ai (ae a.1+ae b.1)) a.2)with|true=>some [RV.d (.st (.pair y2Y y2Y)) (((eO (ai (ae a.1+ae b.1)) a.2).1),((eO (ai (ae a.1+ae b.1)) a.2).2))]|false=>none)|false=>none)|false=>(match decide (okI a.1∧okI b.2)with|true=>(match decide (okI b.1∧okI a.2)with|true=>(match decide (okI (ai (ae a.1*ae b.2))∧okI (ai (ae b.1*ae a.2)))with|true=>(match decide (okI a.2∧okI b.2)with|true=>(match decide (iX (ai (ae (ai (ae a.1*ae b.2))+ae (ai (ae b.1*ae a.2)))) (ai (ae a.2*ae b.2)))with|true=>some [RV.d (.st (.pair y2Y y2Y)) (((eO (ai (ae (ai (ae a.1*ae b.2))+ae (ai (ae b.1*ae a.2)))) (ai (ae a.2*ae b.2))).1),((eO (ai (ae (ai (ae a.1*ae b.2))+ae (ai (ae b.1*ae a.2)))) (ai (ae a.2*ae b.2))).2))]|false=>none)|false=>none)|false=>none)|false=>none)|false=>none))|false=>none
theorem abQ(a b:(Bool×List Int)×Bool×List Int):RS ac6 107 [.d (.st (.pair y2Y y2Y)) a,.d (.st (.pair y2Y y2Y)) b] (UG a b):=rsX
def aaC:Ctx:=CX lW []
def Sv(a:(Bool×List Int)×Bool×List Int)(_k:KT):Option (List RV):=og (decide (okI a.1)) (some [RV.d (.st (.pair y2Y y2Y)) ((ai (-ae a.1)),a.2)])
theorem Zm(a:(Bool×List Int)×Bool×List Int):RS aaC 109 [.d (.st (.pair y2Y y2Y)) a] (Sv a):=rsX
def aat:Ctx:=CX lW []
def RP(a b:(Bool×List Int)×Bool×List Int)(_k:KT):Option (List RV):=og (decide (okI a.1∧okI b.1)) (og (decide (okI a.2∧okI b.2)) (og (decide (iX (ai (ae a.1*ae b.1)) (ai (ae a.2*ae b.2)))) (some [RV.d (.st (.pair y2Y y2Y)) (((eO (ai (ae a.1*ae b.1)) (ai (ae a.2*ae b.2))).1),((eO (ai (ae a.1*ae b.1)) (ai (ae a.2*ae b.2))).2))])))
theorem aaa(a b:(Bool×List Int)×Bool×List Int):RS aat 108 [.d (.st (.pair y2Y y2Y)) a,.d (.st (.pair y2Y y2Y)) b] (RP a b):=rsX
def aaN:Ctx:=CX lW []
def RR(a b:(Bool×List Int)×Bool×List Int)(_k:KT):Option (List RV):=match decide (okR b)with|true=>(match(aC (ah b) 0)==0 with|true=>some [RV.d (.st (.pair y2Y y2Y)) ((false,[]),(false,[])),RV.d ai2 6]|false=>(match decide (okI a.1∧okI b.2)with|true=>(match decide (okI a.2∧okI b.1)with|true=>(match decide (iX (ai (ae a.1*ae b.2)) (ai (ae a.2*ae b.1)))with|true=>some [RV.d (.st (.pair y2Y y2Y)) (((eO (ai (ae a.1*ae b.2)) (ai (ae a.2*ae b.1))).1),((eO (ai (ae a.1*ae b.2)) (ai (ae a.2*ae b.1))).2)),RV.d ai2 0]|false=>none)|false=>none)|false=>none))|false=>none
theorem adm(a b:(Bool×List Int)×Bool×List Int):RS aaN 305 [.d (.st (.pair y2Y y2Y)) a,.d (.st (.pair y2Y y2Y)) b] (RR a b):=rsX
theorem QL(n:Int)(h:aF n):Con Tryz.prog 99 [.d ai2 n] [.d (.st (.pair y2Y y2Y)) (aq (n:Rat))]:=by
 refine fq gX (adh _ ⟨0,?_⟩)
 unfold Ut aq
 rw[afZ h,Rat.num_intCast,Rat.den_intCast]
 rfl
theorem fK{a:BR}(h:okR a):szI (ae a.1)≤480000∧szI (ae a.2)≤480000:=by
 have h1:=yD h
 grind [cD,bdR]
theorem Hm(a b:Rat):(ce (aC a 0) (aC b 0)≠0→ce (aC a 0) (aC b 0)=aC a b):=by
 rcases(by grind:a<0∨a=0∨0<a)with h1|h1|h1<;>rcases(by grind:b<0∨b=0∨0<b)with h2|h2|h2
 ·grind [dg,dw]
 ·rw[dg h1,h2,de,dg h1];intro;rfl
 ·rw[dg h1,cV h2,dg (by grind)];intro;rfl
 ·rw[h1,de,dg h2,cV h2];intro;rfl
 ·grind [de,dw]
 ·rw[h1,de,cV h2,dg h2];intro;rfl
 ·rw[cV h1,dg h2,cV (by grind)];intro;rfl
 ·rw[cV h1,h2,de,cV h1];intro;rfl
 grind [cV,dw]
theorem Qs(a b:BR)(h:okR a∧okR b):Con Tryz.prog 73 [.d (.st (.pair y2Y y2Y)) a,.d (.st (.pair y2Y y2Y)) b] [.d ai2 (aC (ah a) (ah b))]:=by
 refine fq gX (ZW _ _ ⟨0,?_⟩)
 obtain⟨ha,hb⟩:=h
 obtain⟨a1,a2⟩:=cD ha
 obtain⟨b1,b2⟩:=cD hb
 obtain⟨sa1,sa2⟩:=fK ha
 obtain⟨sb1,sb2⟩:=fK hb
 have h1:=cE sa1 sb2
 have h2:=cE sb1 sa2
 unfold Td
 rw[afZ ha,afZ hb]
 dsimp only
 have hs:=Hm (ah a) (ah b)
 by_cases hc:ce (aC (ah a) 0) (aC (ah b) 0)=0
 ·rw[hc,afZ (show okI a.1∧okI b.2 from⟨ha.1,hb.2.1⟩),afZ (show okI b.1∧okI a.2 from⟨hb.1,ha.2.1⟩),afZ (show okI (ai (ae a.1*ae b.2))∧okI (ai (ae b.1*ae a.2)) from⟨aR (by omega),aR (by omega)⟩),dec_enc,dec_enc,←a1,←a2,←b1,←b2,uh]
  rfl
 ·rw[show(ce (aC (ah a) 0) (aC (ah b) 0) !=0)=true by simpa using hc,hs hc]
theorem Fw(a:BR)(h:okR a):Con Tryz.prog 109 [.d (.st (.pair y2Y y2Y)) a] [.d (.st (.pair y2Y y2Y)) (aq (-ah a))]:=by
 refine fq gX (Zm _ ⟨0,?_⟩)
 obtain⟨a1,a2⟩:=cD h
 unfold Sv
 have e:aq (-ah a)=(ai (-ae a.1),a.2):=by
  unfold aq
  rw[Rat.neg_num,a1,show((-ah a).den:Int)=((ah a).den:Int) from rfl,a2,←gC h.2.1]
 rw[afZ h.1,e]
theorem Ff(a b:BR)(h:okR a∧okR b):Con Tryz.prog 107 [.d (.st (.pair y2Y y2Y)) a,.d (.st (.pair y2Y y2Y)) b] [.d (.st (.pair y2Y y2Y)) (aq (ah a+ah b))]:=by
 refine fq gX (abQ _ _ ⟨0,?_⟩)
 obtain⟨ha,hb⟩:=h
 obtain⟨a1,a2⟩:=cD ha
 obtain⟨b1,b2⟩:=cD hb
 obtain⟨sa1,sa2⟩:=fK ha
 obtain⟨sb1,sb2⟩:=fK hb
 have pa:=ha.2.2.1
 have pb:=hb.2.2.1
 have h1:=cE sa1 sb2
 have h2:=cE sb1 sa2
 have h3:=cE sa2 sb2
 have h4:=tJ h1 h2
 have h5:=tJ sa1 sb1
 have hda:ah a=Rat.divInt (ae a.1) (ae a.2):=by rw[←a1,←a2,agX]
 have hdb:ah b=Rat.divInt (ae b.1) (ae b.2):=by rw[←b1,←b2,agX]
 unfold UG
 rw[afZ (show okI a.2∧okI b.2 from⟨ha.2.1,hb.2.1⟩)]
 dsimp only
 by_cases hc:ae a.2=ae b.2
 ·rw[hc,dw,afZ (show okI a.1∧okI b.1 from⟨ha.1,hb.1⟩)]
  rw[afZ (show iX (ai (ae a.1+ae b.1)) a.2 from⟨aR (by omega),ha.2.1,by omega⟩)]
  have e:eO (ai (ae a.1+ae b.1)) a.2=aq (ah a+ah b):=by
   unfold eO
   rw[dec_enc,hda,hdb,←hc,Rat.divInt_eq_div,Rat.divInt_eq_div,Rat.divInt_eq_div,Rat.intCast_add]
   congr 1
   grind
  rw[e]
  rfl
 ·have hcm:(ce (ae a.2) (ae b.2)==0)=false:=by
   rcases ahY hc with h|h
   ·rw[cQ h];rfl
   ·rw[cC h];rfl
  rw[hcm,afZ (show okI a.1∧okI b.2 from⟨ha.1,hb.2.1⟩),afZ (show okI b.1∧okI a.2 from⟨hb.1,ha.2.1⟩),afZ (show okI (ai (ae a.1*ae b.2))∧okI (ai (ae b.1*ae a.2)) from⟨aR (by omega),aR (by omega)⟩)]
  simp only[dec_enc]
  rw[afZ (show iX (ai (ae a.1*ae b.2+ae b.1*ae a.2)) (ai (ae a.2*ae b.2)) from⟨aR (by omega),aR (by omega),by rw[dec_enc];exact aiw (by omega) (by omega)⟩)]
  have e:eO (ai (ae a.1*ae b.2+ae b.1*ae a.2)) (ai (ae a.2*ae b.2))=aq (ah a+ah b):=by
   unfold eO
   rw[dec_enc,dec_enc,hda,hdb,Rat.divInt_add_divInt _ _ (by omega) (by omega)]
  rw[e]
theorem PY(a b:BR)(h:okR a∧okR b):Con Tryz.prog 108 [.d (.st (.pair y2Y y2Y)) a,.d (.st (.pair y2Y y2Y)) b] [.d (.st (.pair y2Y y2Y)) (aq (ah a*ah b))]:=by
 refine fq gX (aaa _ _ ⟨0,?_⟩)
 obtain⟨ha,hb⟩:=h
 obtain⟨a1,a2⟩:=cD ha
 obtain⟨b1,b2⟩:=cD hb
 obtain⟨sa1,sa2⟩:=fK ha
 obtain⟨sb1,sb2⟩:=fK hb
 have pa:=ha.2.2.1
 have pb:=hb.2.2.1
 have h1:=cE sa1 sb1
 have h3:=cE sa2 sb2
 have hda:ah a=Rat.divInt (ae a.1) (ae a.2):=by rw[←a1,←a2,agX]
 have hdb:ah b=Rat.divInt (ae b.1) (ae b.2):=by rw[←b1,←b2,agX]
 unfold RP
 rw[afZ (show okI a.1∧okI b.1 from⟨ha.1,hb.1⟩),afZ (show okI a.2∧okI b.2 from⟨ha.2.1,hb.2.1⟩),afZ (show iX (ai (ae a.1*ae b.1)) (ai (ae a.2*ae b.2)) from⟨aR (by omega),aR (by omega),by rw[dec_enc];exact aiw (by omega) (by omega)⟩)]
 have e:eO (ai (ae a.1*ae b.1)) (ai (ae a.2*ae b.2))=aq (ah a*ah b):=by
  unfold eO
  rw[dec_enc,dec_enc,hda,hdb,aix]
 rw[e]
def gA(a b:BR):Prop:=okR a∧okR b∧ae b.1≠0
instance (a b:BR):Decidable (gA a b):=by unfold gA;infer_instance
theorem PK(a b:BR)(h:gA a b):Con Tryz.prog 305 [.d (.st (.pair y2Y y2Y)) a,.d (.st (.pair y2Y y2Y)) b] [.d (.st (.pair y2Y y2Y)) (aq (ah a/ah b)),.d ai2 0]:=by
 refine fq gX (adm _ _ ⟨0,?_⟩)
 obtain⟨ha,hb,hne⟩:=h
 obtain⟨a1,a2⟩:=cD ha
 obtain⟨b1,b2⟩:=cD hb
 obtain⟨sa1,sa2⟩:=fK ha
 obtain⟨sb1,sb2⟩:=fK hb
 have pa:=ha.2.2.1
 have h1:=cE sa1 sb2
 have h3:=cE sa2 sb1
 have hda:ah a=Rat.divInt (ae a.1) (ae a.2):=by rw[←a1,←a2,agX]
 have hdb:ah b=Rat.divInt (ae b.1) (ae b.2):=by rw[←b1,←b2,agX]
 have hnz:(aC (ah b) 0==0)=false:=by
  rw[←rR,b1]
  rcases ahY hne with h|h
  ·rw[cQ h];rfl
  ·rw[cC h];rfl
 unfold RR
 rw[afZ hb,hnz,afZ (show okI a.1∧okI b.2 from⟨ha.1,hb.2.1⟩),afZ (show okI a.2∧okI b.1 from⟨ha.2.1,hb.1⟩),afZ (show iX (ai (ae a.1*ae b.2)) (ai (ae a.2*ae b.1)) from⟨aR (by omega),aR (by omega),by rw[dec_enc];exact aiw (by omega) hne⟩)]
 have e:eO (ai (ae a.1*ae b.2)) (ai (ae a.2*ae b.1))=aq (ah a/ah b):=by
  unfold eO
  rw[dec_enc,dec_enc,hda,hdb,aiG,Rat.inv_divInt,aix]
 rw[e]
def LG:dH:=spN false false [(.st (.pair y2Y y2Y)),(.st (.pair y2Y y2Y))] (fun x=>decide (okR x.1∧okR x.2.1)) (fun x=>[RV.d (.st (.pair y2Y y2Y)) (aq (ah x.1+ah x.2.1))])
theorem Jm:SpK 107 LG:=spX fun x h=>Ff x.1 x.2.1 (af2 h)
def Kf:dH:=spN false false [(.st (.pair y2Y y2Y))] (fun x=>decide (okR x.1)) (fun x=>[RV.d (.st (.pair y2Y y2Y)) (aq (-ah x.1))])
theorem MZ:SpK 109 Kf:=spX fun x h=>Fw x.1 (af2 h)
def Ee:Env:=[(210,mU),(83,sF),(172,oG),(215,ni),(216,qY),(173,re),(299,ve),(214,yp),(171,ye),(209,C3),(41,DF),(107,LG),(109,Kf)]
theorem D2:EnvAll Tryz.prog Ee:=⟨jy,m9,ll,jD,m6,mH,pJ,uN,uB,AK,AO,Jm,MZ,trivial⟩
def aaP:Ctx:=CX Ee []
def Rw(a b:(Bool×List Int)×Bool×List Int)(_k:KT):Option (List RV):=match decide (okR b)with|true=>(match decide (okR a∧okR (aq (-ah b)))with|true=>some [RV.d (.st (.pair y2Y y2Y)) (((aq (ah a+ah (aq (-ah b)))).1),((aq (ah a+ah (aq (-ah b)))).2))]|false=>none)|false=>none
theorem aa7(a b:(Bool×List Int)×Bool×List Int):RS aaP 106 [.d (.st (.pair y2Y y2Y)) a,.d (.st (.pair y2Y y2Y)) b] (Rw a b):=rsX
theorem PX(a b:BR)(h:okR a∧okR b):Con Tryz.prog 106 [.d (.st (.pair y2Y y2Y)) a,.d (.st (.pair y2Y y2Y)) b] [.d (.st (.pair y2Y y2Y)) (aq (ah a-ah b))]:=by
 refine fq D2 (aa7 _ _ ⟨0,?_⟩)
 obtain⟨ha,hb⟩:=h
 unfold Rw
 rw[afZ hb,cj,Rat.sub_eq_add_neg,afZ (show okR a∧okR (aq (-ah b)) from⟨ha,nG (tM (yD hb)) (af6 _)⟩)]
section
namespace RL
theorem jn{x y B e:Rat}(h1:x<B)(h2: -B<x)(h3:y<e)(h4: -e<y):x*y<B*e:=by
 have p:=agP (a:=B-x) (b:=e+y) (by grind) (by grind)
 have q:=agP (a:=B+x) (b:=e-y) (by grind) (by grind)
 grind
theorem Sr{e:Rat}(h:0<e):0<e/2:=by grind
theorem xh{e B:Rat}(h:0<e)(hB:0<B):∃d,0<d∧B*d+B*d<e:=by
 refine⟨e/(4*B),?_,?_⟩
 ·exact agP h (Rat.inv_pos.2 (by grind))
 ·have:B*(e/(4*B))=e/4:=by grind
  grind
structure CS where
 f:Nat→Rat
 cau:∀e:Rat,0<e→∃N,∀m n,N≤m→N≤n→f m-f n<e
theorem CS.bd(a:CS):∃B:Rat,0<B∧∃N,∀n,N≤n→ -B<a.f n∧a.f n<B:=by
 obtain⟨N,h⟩:=a.cau 1 (by grind)
 refine⟨(if 0≤a.f N then a.f N else-a.f N)+1,?_,N,fun n hn=>?_⟩
 ·split<;>grind
 ·have h1:=h n N hn (af6 _)
  have h2:=h N n (af6 _) hn
  split<;>grind
def add(a b:CS):CS:=⟨fun n=>a.f n+b.f n,fun e he=>by
 obtain⟨N,h⟩:=a.cau (e/2) (by grind)
 obtain⟨M,h'⟩:=b.cau (e/2) (by grind)
 refine⟨max N M,fun m n hm hn=>?_⟩
 have:=h m n (by omega) (by omega)
 have:=h' m n (by omega) (by omega)
 grind⟩
def neg(a:CS):CS:=⟨fun n=> -a.f n,fun e he=>by
 obtain⟨N,h⟩:=a.cau e he
 exact⟨N,fun m n hm hn=>by have:=h n m hn hm;grind⟩⟩
theorem Nz(a b:CS)(e:Rat)(he:0<e):∃N,∀m n,N≤m→N≤n→a.f m*b.f m-a.f n*b.f n<e:=by
 obtain⟨A,hA,N1,h1⟩:=a.bd
 obtain⟨B,hB,N2,h2⟩:=b.bd
 obtain⟨d,hd,hd'⟩:=xh (e:=e) (B:=A+B) he (by grind)
 obtain⟨N3,h3⟩:=a.cau d hd
 obtain⟨N4,h4⟩:=b.cau d hd
 refine⟨max (max N1 N2) (max N3 N4),fun m n hm hn=>?_⟩
 have a1:=h1 m (by omega)
 have b1:=h2 n (by omega)
 have p:=jn a1.2 a1.1 (h4 m n (by omega) (by omega)) (by have:=h4 n m (by omega) (by omega);grind)
 have q:=jn b1.2 b1.1 (h3 m n (by omega) (by omega)) (by have:=h3 n m (by omega) (by omega);grind)
 have r:=agP hA hd
 have s:=agP hB hd
 grind
def mul(a b:CS):CS:=⟨fun n=>a.f n*b.f n,Nz a b⟩
def eqv(a b:CS):Prop:=∀e:Rat,0<e→∃N,∀n,N≤n→a.f n-b.f n<e∧b.f n-a.f n<e
instance st:Setoid CS where
 r:=eqv
 iseqv:=⟨fun a e he=>⟨0,fun n _=>by grind⟩,fun h e he=>by
   obtain⟨N,h⟩:=h e he
   exact⟨N,fun n hn=>⟨(h n hn).2,(h n hn).1⟩⟩,
  fun h h' e he=>by
   obtain⟨N,h⟩:=h (e/2) (by grind)
   obtain⟨M,h'⟩:=h' (e/2) (by grind)
   refine⟨max N M,fun n hn=>?_⟩
   have:=h n (by omega)
   have:=h' n (by omega)
   grind⟩
def const(q:Rat):CS:=⟨fun _=>q,fun e he=>⟨0,fun m n _ _=>by grind⟩⟩
end RL
def RE:Type:=Quotient RL.st
namespace RE
open RL
def of(q:Rat):RE:=Quotient.mk _ (const q)
theorem VQ(a b a' b':CS)(h:a≈a')(h':b≈b'):add a b≈add a' b':=fun e he=>by
 obtain⟨N,h⟩:=h (e/2) (by grind)
 obtain⟨M,h'⟩:=h' (e/2) (by grind)
 refine⟨max N M,fun n hn=>?_⟩
 have:=h n (by omega)
 have:=h' n (by omega)
 simp only[RL.add]
 grind
theorem WK(a a':CS)(h:a≈a'):neg a≈neg a':=fun e he=>by
 obtain⟨N,h⟩:=h e he
 refine⟨N,fun n hn=>?_⟩
 have:=h n (by omega)
 simp only[RL.neg]
 grind
theorem Xg(a b a' b':CS)(h:a≈a')(h':b≈b'):mul a b≈mul a' b':=fun e he=>by
 obtain⟨A,hA,N1,h1⟩:=a.bd
 obtain⟨B,hB,N2,h2⟩:=b'.bd
 obtain⟨d,hd,hd'⟩:=xh (e:=e) (B:=A+B) he (by grind)
 obtain⟨N3,h3⟩:=h d hd
 obtain⟨N4,h4⟩:=h' d hd
 refine⟨max (max N1 N2) (max N3 N4),fun n hn=>?_⟩
 have a1:=h1 n (by omega)
 have b1:=h2 n (by omega)
 have a3:=h3 n (by omega)
 have b3:=h4 n (by omega)
 have p:=jn a1.2 a1.1 (y:=b.f n-b'.f n) b3.1 (by grind)
 have q:=jn b1.2 b1.1 (y:=a.f n-a'.f n) a3.1 (by grind)
 have p':=jn a1.2 a1.1 (y:=b'.f n-b.f n) b3.2 (by grind)
 have q':=jn b1.2 b1.1 (y:=a'.f n-a.f n) a3.2 (by grind)
 have r:=agP hA hd
 have s:=agP hB hd
 simp only[RL.mul]
 constructor<;>grind
instance:Add RE:=⟨Quotient.lift₂ (fun a b=>Quotient.mk _ (add a b)) (fun _ _ _ _ h h'=>aiD (VQ _ _ _ _ h h'))⟩
instance:Neg RE:=⟨Quotient.lift (fun a=>Quotient.mk _ (neg a)) (fun _ _ h=>aiD (WK _ _ h))⟩
instance:Sub RE:=⟨fun a b=>a+ -b⟩
instance:Mul RE:=⟨Quotient.lift₂ (fun a b=>Quotient.mk _ (mul a b)) (fun _ _ _ _ h h'=>aiD (Xg _ _ _ _ h h'))⟩
theorem snd{a b:CS}(h:∀n,a.f n=b.f n):(Quotient.mk st a:RE)=Quotient.mk st b:=
 aiD fun e he=>⟨0,fun n _=>by rw[h n];grind⟩
instance (n:Nat):OfNat RE n:=⟨of (OfNat.ofNat n)⟩
theorem of_add(a b:Rat):of (a+b)=of a+of b:=rfl
theorem aS(a b:Rat):of (a*b)=of a*of b:=rfl
theorem of_neg(a:Rat):of (-a)= -of a:=rfl
theorem of_sub(a b:Rat):of (a-b)=of a-of b:=by rw[Rat.sub_eq_add_neg];rfl
theorem qx:of 0=0:=rfl
theorem VX:of 1=1:=rfl
theorem add_zero(a:RE):a+0=a:=by
 induction a using ahd;exact snd fun n=>Rat.add_zero _
theorem add_comm(a b:RE):a+b=b+a:=by
 induction a,b using aiy;exact snd fun n=>Rat.add_comm _ _
theorem add_assoc(a b c:RE):a+b+c=a+(b+c):=by
 induction a,b,c using ahZ;exact snd fun n=>Rat.add_assoc _ _ _
theorem mul_assoc(a b c:RE):a*b*c=a*(b*c):=by
 induction a,b,c using ahZ;exact snd fun n=>Rat.mul_assoc _ _ _
theorem mul_comm(a b:RE):a*b=b*a:=by
 induction a,b using aiy;exact snd fun n=>ahM _ _
theorem mul_one(a:RE):a*1=a:=by
 induction a using ahd;exact snd fun n=>Rat.mul_one _
theorem mul_zero(a:RE):a*0=0:=by
 induction a using ahd;exact snd fun n=>Rat.mul_zero _
theorem left_distrib(a b c:RE):a*(b+c)=a*b+a*c:=by
 induction a,b,c using ahZ;exact snd fun n=>Rat.mul_add _ _ _
theorem tD(a:RE): -a+a=0:=by
 induction a using ahd;exact snd fun n=>Rat.neg_add_cancel _
def clt(a b:CS):Prop:=∃e:Rat,0<e∧∃N,∀n,N≤n→a.f n+e<b.f n
theorem Ly(a b a' b':CS)(h:a≈a')(h':b≈b')(hl:clt a b):clt a' b':=by
 obtain⟨e,he,N,hl⟩:=hl
 obtain⟨N1,h⟩:=h (e/4) (by grind)
 obtain⟨N2,h'⟩:=h' (e/4) (by grind)
 refine⟨e/2,by grind,max N (max N1 N2),fun n hn=>?_⟩
 have:=hl n (by omega)
 have:=h n (by omega)
 have:=h' n (by omega)
 grind
instance:LT RE:=⟨Quotient.lift₂ clt (fun _ _ _ _ h h'=>propext ⟨Ly _ _ _ _ h h',Ly _ _ _ _ (Setoid.symm h) (Setoid.symm h')⟩)⟩
instance:LE RE:=⟨fun a b=>¬b<a⟩
theorem lt_irrefl(a:RE):¬a<a:=by
 induction a using ahd
 rintro ⟨e,he,N,h⟩
 have:=h N (af6 _)
 grind
theorem dK{a b c:RE}:a<b→b<c→a<c:=by
 induction a,b,c using ahZ
 rintro ⟨e,he,N,h⟩ ⟨e',he',N',h'⟩
 refine⟨e,he,max N N',fun n hn=>?_⟩
 have:=h n (by omega)
 have:=h' n (by omega)
 grind
theorem oB(a b:RE):a<b∨a=b∨b<a:=by
 induction a,b using aiy
 rename_i a b
 by_cases h1:clt a b
 ·exact .inl h1
 by_cases h2:clt b a
 ·exact .inr (.inr h2)
 refine .inr (.inl (aiD fun e he=>?_))
 obtain⟨N,ha⟩:=a.cau (e/4) (by grind)
 obtain⟨M,hb⟩:=b.cau (e/4) (by grind)
 have g1:∃n,max N M≤n∧b.f n≤a.f n+e/4:=by
  apply age
  intro hc
  exact h1 ⟨e/4,by grind,max N M,fun n hn=>by
   apply age
   intro h
   exact hc ⟨n,hn,by grind⟩⟩
 have g2:∃n,max N M≤n∧a.f n≤b.f n+e/4:=by
  apply age
  intro hc
  exact h2 ⟨e/4,by grind,max N M,fun n hn=>by
   apply age
   intro h
   exact hc ⟨n,hn,by grind⟩⟩
 obtain⟨p,hp,gp⟩:=g1
 obtain⟨q,hq,gq⟩:=g2
 refine⟨max N M,fun n hn=>?_⟩
 have a1:=ha n q (by omega) (by omega)
 have b1:=hb q n (by omega) (by omega)
 have a2:=ha p n (by omega) (by omega)
 have b2:=hb n p (by omega) (by omega)
 constructor<;>grind
theorem jr{a b:RE}(c:RE):a<b→a+c<b+c:=by
 induction a,b,c using ahZ
 rintro ⟨e,he,N,h⟩
 refine⟨e,he,N,fun n hn=>?_⟩
 have:=h n hn
 simp only[RL.add]
 grind
theorem mul_pos{a b:RE}:0<a→0<b→0<a*b:=by
 induction a,b using aiy
 rintro ⟨e,he,N,h⟩ ⟨e',he',N',h'⟩
 refine⟨e*e',agP he he',max N N',fun n hn=>?_⟩
 have h1:=h n (by omega)
 have h2:=h' n (by omega)
 simp only[RL.const]at h1 h2 ⊢
 rename_i a b
 have p:=agP (a:=a.f n-e) (b:=b.f n-e') (by grind) (by grind)
 have q:=agP (a:=a.f n-e) (b:=e') (by grind) (by grind)
 have r:=agP (a:=e) (b:=b.f n-e') (by grind) (by grind)
 simp only[RL.mul]
 grind
theorem lc{a b:Rat}(h:a<b):of a<of b:=⟨(b-a)/2,by grind,0,fun n _=>by simp only[RL.const];grind⟩
end RE
end
section
namespace RE
open RL
theorem KW(a b:RE):a≤b↔¬b<a:=Iff.rfl
theorem le_of_lt{a b:RE}(h:a<b):a≤b:=fun h'=>lt_irrefl a (dK h h')
theorem lt_or_ge(a b:RE):a<b∨b≤a:=by
 by_cases h:a<b
 ·exact .inl h
 ·exact .inr h
theorem le_antisymm{a b:RE}(h1:a≤b)(h2:b≤a):a=b:=by
 rcases oB a b with h|h|h
 ·exact absurd h h2
 ·exact h
 ·exact absurd h h1
theorem le_trans{a b c:RE}(h1:a≤b)(h2:b≤c):a≤c:=fun h=>by
 rcases oB a b with h'|h'|h'
 ·exact h2 (dK h h')
 ·subst h';exact h2 h
 ·exact h1 h'
theorem zero_lt_one:(0:RE)<1:=lc (by decide+kernel:(0:Rat)<1)
theorem j7(a:RE):a+ -a=0:=by rw[add_comm,tD]
theorem lI{a:RE}(h:a<0):0< -a:=by
 have:=jr (-a) h
 rw[j7,add_comm,add_zero]at this
 exact this
theorem VM{a:RE}(h:0<a): -a<0:=by
 have:=jr (-a) h
 rw[j7,add_comm,add_zero]at this
 exact this
instance:Std.IsLinearOrder RE where
 le_refl a:=lt_irrefl a
 le_trans _ _ _:=le_trans
 le_antisymm _ _:=le_antisymm
 le_total a b:=by
  rcases lt_or_ge a b with h|h
  ·exact .inl (le_of_lt h)
  ·exact .inr h
instance:Std.LawfulOrderLT RE where
 lt_iff a b:=⟨fun h=>⟨le_of_lt h,fun h'=>h' h⟩,fun h=>by
  rcases lt_or_ge a b with h'|h'
  ·exact h'
  ·exact absurd h' h.2⟩
theorem uX{a b:RE}:¬a≤b↔b<a:=⟨fun h=>by
  rcases lt_or_ge b a with h'|h'
  ·exact h'
  ·exact absurd h' h,fun h h'=>h' h⟩
theorem bH{a b:RE}(h:a<b):0<b-a:=by
 have:=jr (-a) h
 rw[j7]at this
 exact this
theorem Yr{a b:RE}(h:0<b-a):a<b:=by
 have:=jr a h
 have e:b-a+a=b:=by
  show b+ -a+a=b
  rw[add_assoc,tD,add_zero]
 rw[e,add_comm,add_zero]at this
 exact this
theorem aQ{a b:RE}(h:a≤b):0≤b-a:=fun h'=>h (by
 have:=jr a h'
 have e:b-a+a=b:=by
  show b+ -a+a=b
  rw[add_assoc,tD,add_zero]
 rw[e,add_comm,add_zero]at this
 exact this)
theorem ld{a:RE}(h:0≤a):0<a∨a=0:=by
 rcases oB 0 a with h'|h'|h'
 ·exact .inl h'
 ·exact .inr h'.symm
 ·exact absurd h' h
theorem le_refl(a:RE):a≤a:=lt_irrefl a
theorem MQ{a b:RE}(h:a=b):a≤b:=by rw[h];exact le_refl _
theorem I3{a b:RE}(h:a=b):b≤a:=by rw[h];exact le_refl _
theorem zero_mul(a:RE):0*a=0:=by rw[mul_comm,mul_zero]
theorem zero_add(a:RE):0+a=a:=by rw[add_comm,add_zero]
theorem one_mul(a:RE):1*a=a:=by rw[mul_comm,mul_one]
theorem cB{a b:RE}(h:0≤a)(h':0≤b):0≤a*b:=by
 rcases ld h with h1|h1
 ·rcases ld h' with h2|h2
  ·exact le_of_lt (mul_pos h1 h2)
  ·rw[h2,mul_zero];exact le_refl _
 ·rw[h1,zero_mul];exact le_refl _
theorem a8{a b:RE}(h:0<a)(h':0≤b):0<a+b:=by
 have:=jr b h
 rw[zero_add]at this
 rcases ld h' with h2|h2
 ·exact dK h2 this
 ·rw[h2,add_zero];exact h
theorem uD(a:RE):0≤a*a:=by
 rcases lt_or_ge a 0 with h|h
 ·have h1:=lI h
  have h2:=mul_pos h1 h1
  have e: -a* -a=a*a:=by
   induction a using ahd
   exact snd fun n=>by show-_* -_=_*_;grind
  rw[e]at h2
  exact le_of_lt h2
 ·exact cB h h
instance:NatCast RE:=⟨fun n=>of (n:Rat)⟩
instance:IntCast RE:=⟨fun n=>of (n:Rat)⟩
instance:SMul Nat RE:=⟨fun n a=>of (n:Rat)*a⟩
instance:SMul Int RE:=⟨fun n a=>of (n:Rat)*a⟩
def pw(a:RE):Nat→RE
 |0=>1
 |n+1=>pw a n*a
instance:Pow RE Nat:=⟨pw⟩
instance:Lean.Grind.CommRing RE where
 add_zero:=add_zero
 add_comm:=add_comm
 add_assoc:=add_assoc
 mul_assoc:=mul_assoc
 mul_one:=mul_one
 mul_comm:=mul_comm
 left_distrib:=left_distrib
 mul_zero:=mul_zero
 zero_mul:=zero_mul
 one_mul:=one_mul
 right_distrib a b c:=by rw[mul_comm,left_distrib,mul_comm c,mul_comm c]
 pow_zero _:=rfl
 pow_succ _ _:=rfl
 ofNat_succ n:=by
  show of ((OfNat.ofNat (n+1):Rat))=of ((OfNat.ofNat n:Rat))+of 1
  rw[←of_add]
  congr 1
  show(((n+1:Nat):Rat))=((n:Nat):Rat)+1
  rw[Rat.natCast_add]
  rfl
 ofNat_eq_natCast _:=rfl
 nsmul_eq_natCast_mul _ _:=rfl
 neg_add_cancel:=tD
 sub_eq_add_neg _ _:=rfl
 neg_zsmul i a:=by
  show of ((-i:Int):Rat)*a= -(of (i:Rat)*a)
  rw[aiz,of_neg]
  induction a using ahd
  exact snd fun n=>by show-_*_= -(_*_);grind
 zsmul_natCast_eq_nsmul _ _:=rfl
 intCast_ofNat _:=rfl
 intCast_neg i:=by show of _= -of _;rw[aiz,of_neg]
theorem FY{a b c:RE}(h:a<b)(hc:0<c):c*a<c*b:=by
 have h1:=jr (-a) h
 rw[j7]at h1
 have h2:=jr (c*a) (mul_pos hc h1)
 rwa [show c*(b+ -a)+c*a=c*b by grind,zero_add]at h2
instance:Lean.Grind.OrderedRing RE where
 add_le_left_iff {a b} c:=⟨fun h h'=>h (by
   have:=jr (-c) h'
   rw[add_assoc,add_assoc,j7,add_zero,add_zero]at this
   exact this),fun h h'=>h (jr c h')⟩
 zero_lt_one:=zero_lt_one
 mul_lt_mul_of_pos_left:=FY
 mul_lt_mul_of_pos_right {a b c} h hc:=by
  rw[mul_comm a,mul_comm b]
  exact FY h hc
theorem pU{c:Rat}(hc:(0:Rat)<c){a:RE}(h:0≤a):0≤of c*a:=cB (le_of_lt (lc hc)) h
theorem far{s:RE}(h:0<s)(e:s=0):False:=by rw[e]at h;exact lt_irrefl _ h
theorem Pd(x y:RE):((y*y-(x*x)))+((x-(0))*(x-(y)))+((y-(0))*(x-(y)))=0:=by grind
theorem sq_lt(x y:RE)(h1:0≤x)(h2:0≤y)(h3:x*x<y*y):x<y:=uX.1 fun hg=>far (a8 (a8 (bH h3) (cB (aQ h1) (aQ hg))) (cB (aQ h2) (aQ hg))) (Pd x y)
theorem PR(x y:RE):((x-(y))*(x-(y)))+((y*y-(x*x)))+2*((y-(0))*(x-(y)))=0:=by grind
theorem EI(x y:RE)(_h1:0≤x)(h2:0≤y)(h3:x*x≤y*y):x≤y:=fun hg=>far (a8 (a8 (mul_pos (bH hg) (bH hg)) (aQ h3)) (pU (by decide+kernel:(0:Rat)<2) (cB (aQ h2) (le_of_lt (bH hg))))) (PR x y)
theorem GG(x y:RE):((x*x-(y*y)))+2*((x-(0))*(y-(x)))+((y-(x))*(y-(x)))=0:=by grind
theorem qT(x y:RE)(h1:0≤x)(h2:x≤y):x*x≤y*y:=fun hg=>far (a8 (a8 (bH hg) (pU (by decide+kernel:(0:Rat)<2) (cB (aQ h1) (aQ h2)))) (cB (aQ h2) (aQ h2))) (GG x y)
theorem V8(x y:RE):((y-(x))*(y-(x)))+((x*x-(y*y)))+2*((x-(0))*(y-(x)))=0:=by grind
theorem IB(x y:RE):((x-(y))*(x-(y)))+((y*y-(x*x)))+2*((y-(0))*(x-(y)))=0:=by grind
theorem YZ(x y:RE)(_h1:0≤x)(h2:0≤y)(h3:x*x=y*y):x≤y:=fun hg=>far (a8 (a8 (mul_pos (bH hg) (bH hg)) (aQ (MQ h3))) (pU (by decide+kernel:(0:Rat)<2) (cB (aQ h2) (le_of_lt (bH hg))))) (IB x y)
theorem N6(x y:RE):((y-(x))*(y-(x)))+((x*x-(y*y)))+2*((x-(0))*(y-(x)))=0:=by grind
theorem Ws(x y:RE)(h1:0≤x)(_h2:0≤y)(h3:x*x=y*y):y≤x:=fun hg=>far (a8 (a8 (mul_pos (bH hg) (bH hg)) (aQ (I3 h3))) (pU (by decide+kernel:(0:Rat)<2) (cB (aQ h1) (le_of_lt (bH hg))))) (N6 x y)
theorem Ed(x y:RE)(h1:0≤x)(h2:0≤y)(h3:x*x=y*y):x=y:=le_antisymm (YZ x y h1 h2 h3) (Ws x y h1 h2 h3)
end RE
end
end Go.Proofs.YtnkndpoojnflmaaGreat
end
