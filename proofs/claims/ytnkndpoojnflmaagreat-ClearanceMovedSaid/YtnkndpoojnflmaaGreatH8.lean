/- integer: divide, its contract. -/
import Derived.Test.YtnkndpoojnflmaaGreatH7
noncomputable section
namespace Go.Proofs.YtnkndpoojnflmaaGreat
open Go.RowKit Go.IntKind
theorem ami:type_of% @List.length_pos_iff:=@List.length_pos_iff
theorem amy:type_of% @Rat.mul_pos:=@Rat.mul_pos
theorem amH:type_of% @Rat.num_divInt_den:=@Rat.num_divInt_den
theorem amO:type_of% @Int.eq_ofNat_of_zero_le:=@Int.eq_ofNat_of_zero_le
theorem amR:type_of% @beq_iff_eq:=@beq_iff_eq
theorem am0:type_of% @Quotient.inductionOn:=@Quotient.inductionOn
theorem ane:type_of% @Int.natAbs_natCast:=@Int.natAbs_natCast
theorem anu:type_of% @Rat.mul_comm:=@Rat.mul_comm
theorem anz:type_of% @Int.lt_or_lt_of_ne:=@Int.lt_or_lt_of_ne
theorem anG:type_of% @Bool.decide_and:=@Bool.decide_and
theorem anN:type_of% @Nat.gcd_comm:=@Nat.gcd_comm
theorem anO:type_of% @Quotient.inductionOn₃:=@Quotient.inductionOn₃
theorem an5:type_of% @Rat.divInt_ofNat:=@Rat.divInt_ofNat
theorem aoa:type_of% @Rat.sub_eq_add_neg:=@Rat.sub_eq_add_neg
theorem aoj:type_of% @Nat.mul_ne_zero:=@Nat.mul_ne_zero
theorem aok:type_of% @Int.mul_ne_zero:=@Int.mul_ne_zero
theorem aol:type_of% @Rat.divInt_mul_divInt:=@Rat.divInt_mul_divInt
theorem aom:type_of% @Rat.div_def:=@Rat.div_def
theorem aon:type_of% @Quotient.inductionOn₂:=@Quotient.inductionOn₂
theorem aoo:type_of% @Rat.intCast_neg:=@Rat.intCast_neg
theorem aov:type_of% @Int.natAbs_mul:=@Int.natAbs_mul
theorem aow:type_of% @Quotient.sound:=@Quotient.sound
theorem aoH:type_of% @Rat.num_mkRat:=@Rat.num_mkRat
theorem aoI:type_of% @Rat.den_mkRat:=@Rat.den_mkRat
def pE(a b:List Int):Prop:=(Lim a∧a.length≤100000000)∧(Lim b∧b.length≤100000000)∧0<val b
instance (a b:List Int):Decidable (pE a b):=by unfold pE;infer_instance
structure afl (a b q r:List Int):Prop where
 lq:Lim q
 lr:Lim r
 sq:q.length≤200000000
 sr:r.length≤200000000
 q:val q=val a/val b
 r:val r=val a%val b
theorem vL(x:Int):val [x]=x:=by simp[val]
theorem u7{l:List Int}(h:can l){m:Nat}(hl:l.length=m+1):1≤l[m]:=by
 have h2:=h.2
 have h1:=h.1.get (show m<l.length by omega)
 grind
set_option maxHeartbeats 1000000 in
theorem EX(a b:List Int)(h:pE a b):∃q r,afl a b q r∧Con Tryz.prog 340 [.d aoW a,.d aoW b] [.d aoW q,.d aoW r]:=by
 obtain⟨⟨la,sa⟩,⟨lb,sb⟩,hb⟩:=h
 have ha:aQ a:=⟨la,by omega⟩
 have hb':aQ b:=⟨lb,by omega⟩
 have va:=bg (val a).toNat
 have vb:=bg (val b).toNat
 have na:=aP la
 have va':val (ag (val a).toNat)=val a:=by omega
 have vb':val (ag (val b).toNat)=val b:=by omega
 have lna:=ka la
 have lnb:=ka lb
 have ca:=eh (val a).toNat
 have cb:=eh (val b).toNat
 have hla:aQ (ag (val a).toNat):=⟨ca.1,by omega⟩
 have hlb:aQ (ag (val b).toNat):=⟨cb.1,by omega⟩
 have go:∀{q r},gG.Res 340 [.d aoW a,.d aoW b] [.d aoW q,.d aoW r]→Con Tryz.prog 340 [.d aoW a,.d aoW b] [.d aoW q,.d aoW r]:=fun hr=>fK J5 hr
 have hb0:ag (val b).toNat≠[]:=fun e=>by rw[gU]at e;omega
 by_cases h1:(ag (val b).toNat).length=1
 ·have t1:=u7 cb (m:=0) h1
  have t2:=cb.1.get (show 0<(ag (val b).toNat).length by omega)
  have e0:(ag (val b).toNat)[0]=val b:=by
   obtain⟨x,hx⟩:=List.length_eq_one_iff.1 h1
   have:=vb'
   rw[hx,vL]at this
   simp[hx,this]
  have hq0:0≤val a/val b:=amG na (by omega)
  have hq1:val a/val b≤val a:=anB _ na
  have hr0:=amK (val a) (show val b≠0 by omega)
  have hr1:=amp (val a) hb
  have hal:=bW ca.1
  refine⟨dig (ag (val a).toNat).length (val a/val b),[val a%val b],⟨nM _ _,Lim.cons ⟨hr0,by omega⟩ Lim.nil,by rw[ji];omega,by simp,io _ _ hq0 (by omega),vL _⟩,go (K7 _ _ ⟨0,?_⟩)⟩
  unfold IG
  rw[alF ha,alF hb',h1,zg,alG (show 0<(ag (val b).toNat).length by omega),e0]
  dsimp only
  rw[alF (show D4 (ag (val a).toNat) (val b) from⟨hla,by omega,by omega⟩),va']
  rfl
 have hlen:2≤(ag (val b).toNat).length:=by
  rcases amm (ag (val b).toNat).length 2 with h|h
  ·exfalso
   have:(ag (val b).toNat).length≠0:=fun e=>hb0 (anA e)
   omega
  ·exact h
 by_cases hlt:val a<val b
 ·refine⟨[],ag (val a).toNat,⟨Lim.nil,ca.1,by simp,by omega,?_,?_⟩,go (K7 _ _ ⟨0,?_⟩)⟩
  ·rw[amU na hlt];rfl
  ·rw[anU na hlt];exact va'
  ·unfold IG
   rw[alF ha,alF hb',show(((ag (val b).toNat).length:Int)==1)=false by simp;omega,alF (show aQ (ag (val a).toNat)∧aQ (ag (val b).toNat) from⟨hla,hlb⟩),va',vb',c8 hlt,alF (show(ag (val a).toNat).length*4≤140737488355328∧(ag (val a).toNat).length≤140737488355328 by omega)]
   rfl
 ·obtain⟨m,hm⟩:∃m,(ag (val b).toNat).length=m+2:=⟨(ag (val b).toNat).length-2,by omega⟩
  have hxm:m+1<(ag (val b).toNat).length:=by omega
  have t1:=u7 cb (m:=m+1) hm
  have t2:=cb.1.get hxm
  generalize hx2:(ag (val b).toNat)[m+1]=x2 at t1 t2
  obtain⟨s1,s2,s3,s4⟩:=O8 t1 t2.2
  have esc:u32.wrap (u64.wrap (Int.tdiv 1000000000 (u64.wrap ((u64.wrap x2)+1))))=1000000000/(x2+1):=by
   rw[bj (x:=x2) (by omega) (by omega),bj (x:=x2+1) (by omega) (by omega),gX (by omega),bj (x:=1000000000/(x2+1)) (by omega) (by omega),c7 (x:=1000000000/(x2+1)) (by omega) (by omega)]
  generalize hsc:1000000000/(x2+1)=sc at s1 s2 s3 s4 esc
  have hsl:aQ [sc]:=⟨Lim.cons ⟨by omega,by omega⟩ Lim.nil,by simp⟩
  have hbl:=bW cb.1
  rw[vb',hm]at hbl
  have hP:=cp (m+1)
  have hbtop:=aW hxm
  rw[amT (by omega),vb',hx2]at hbtop
  have hbt0:=aP (cb.1.take (m+1))
  have hbt1:=bW (cb.1.take (m+1))
  rw[ams,amu (by omega)]at hbt1
  have hVhi:val b*sc<pw (m+2):=by
   have e1:val b*sc<(pw (m+1)*(x2+1))*sc:=Int.mul_lt_mul_of_pos_right (by rw[aoT,an1];omega) (by omega)
   have e2:(pw (m+1)*(x2+1))*sc=pw (m+1)*((x2+1)*sc):=Int.mul_assoc _ _ _
   have e3:pw (m+1)*((x2+1)*sc)≤pw (m+1)*1000000000:=alN s3 (amn hP)
   rw[b8]
   omega
  have hVlo:pw (m+1)*500000000≤val b*sc:=by
   have e1:pw (m+1)*x2*sc≤val b*sc:=alT (by omega) (by omega)
   have e2:pw (m+1)*x2*sc=pw (m+1)*(x2*sc):=Int.mul_assoc _ _ _
   have e3:pw (m+1)*500000000≤pw (m+1)*(x2*sc):=alN s4 (amn hP)
   omega
  have hV0:0<val b*sc:=Int.mul_pos hb (by omega)
  have edv:val (dig (m+2+1) (val b*sc))=val b*sc:=io _ _ (by omega) (by rw[b8];omega)
  obtain⟨v,hv⟩:∃v,ag (val b*sc).toNat=v:=⟨_,rfl⟩
  have cv:=eh (val b*sc).toNat
  have vv:=bg (val b*sc).toNat
  rw[hv]at cv vv
  have hvv:val v=val b*sc:=by omega
  have hvl:v.length=m+2:=by
   have h1:v.length≤m+2:=by rw[←hv];exact dl (by omega)
   have h2:m+1<v.length:=by rw[←hv];exact BY (by omega)
   omega
  have htop:500000000≤v[m+1]:=by
   rcases amd v[m+1] 500000000 with hc|hc
   ·exfalso
    have e1:=aW (l:=v) (n:=m+1) (by omega)
    rw[amT (by omega),hvv]at e1
    have e2:=bW (cv.1.take (m+1))
    rw[ams,amu (by omega)]at e2
    have e3:=alN (show v[m+1]≤499999999 by omega) (amn hP)
    omega
   ·exact hc
  have hal:=bW ca.1
  rw[va']at hal
  have hA0:0≤val a*sc:=amD na (by omega)
  have hA1:val a*sc<pw ((ag (val a).toNat).length+1):=by
   have e1:val a*sc≤pw (ag (val a).toNat).length*sc:=alT (by omega) (by omega)
   have e2:pw (ag (val a).toNat).length*sc<pw (ag (val a).toNat).length*1000000000:=Int.mul_lt_mul_of_pos_left (by omega) (cp _)
   rw[b8]
   omega
  have lab:m+2≤(ag (val a).toNat).length:=by
   rw[←hm]
   rcases amm (ag (val a).toNat).length (ag (val b).toNat).length with hc|hc
   ·have:=wm hc;omega
   ·exact hc
  generalize hlA:(ag (val a).toNat).length=L at*
  have hdl:(dig (L+1) (val a*sc)++[0]).length=L+2:=by simp[ji]
  have hdv:val (dig (L+1) (val a*sc)++[0])=val a*sc:=by rw[dB,io _ _ hA0 hA1];simp[val]
  have hmul:=hvv
  obtain⟨q,r,⟨f1,f2,f3,f4,f5,f6⟩,n,hrun⟩:=ME b x2 v m hm (by rw[esc,hm,vb',vL];simp only[al6];rw[edv];exact hv) cv.1 hvl sc esc s1 s2 htop (val a*sc) (L-m) (List.replicate (L-m) 0) (dig (L+1) (val a*sc)++[0])
   (Lim.rep _) ((nM _ _).append (Lim.cons (by decide) Lim.nil)) (by rw[hdl];simp;omega) (by rw[hdl];omega) (by simp) (by rw[gI,hdv];omega) (fun j hj _=>by simp) (by
    rw[hdv,hvv]
    have e1:pw (m+1)*500000000*pw (L-m)≤val b*sc*pw (L-m):=alT hVlo (amn (cp _))
    have e2:pw (m+1)*500000000*pw (L-m)=pw (L+1)*500000000:=by
     rw[show L+1=m+1+(L-m) by omega,fu (m+1) (L-m),Int.mul_right_comm]
    have:=cp (L+1)
    omega)
  have hq:val a*sc/(val b*sc)=val a/val b:=Int.mul_ediv_mul_of_pos_left _ _ (by omega)
  have hr:val a*sc%(val b*sc)/sc=val a%val b:=by
   rw[ant (val a),ant (val b),Int.mul_emod_mul_of_pos _ _ (by omega),ant]
   exact Int.mul_ediv_cancel _ (by omega)
  rw[hvv]at f5 f6
  rw[hq]at f5
  rw[hr]at f6
  refine⟨q,r,⟨f1,f2,by rw[f3];simp;omega,by omega,f5,f6⟩,go (K7 _ _ ⟨n,?_⟩)⟩
  unfold IG
  have e1:i64.wrap (((m+2:Nat):Int)-1)=((m+1:Nat):Int):=by rw[aT (by omega) (by omega)];omega
  have e2:i64.wrap (((L+2:Nat):Int)-((m+2:Nat):Int))=((L-m:Nat):Int):=by rw[aT (by omega) (by omega)];omega
  have e3:i64.wrap (((L-m:Nat):Int)-1)=((L-m:Nat):Int)-1:=aT (by omega) (by omega)
  rw[alF ha,alF hb',hm,show(((m+2:Nat):Int)==1)=false by simp;omega,alF (show aQ (ag (val a).toNat)∧aQ (ag (val b).toNat) from⟨hla,hlb⟩),va',vb',show decide (cr (val a) (val b)<0)=false by
   rcases amd (val b) (val a)with hc|hc
   ·rw[cM hc];rfl
   ·rw[show val a=val b by omega,dX];rfl,e1,ao (ag (val b).toNat) (m+1),alG hxm,hx2]
  dsimp only
  rw[esc,bj (x:=x2) (by omega) (by omega),bj (x:=x2+1) (by omega) (by omega),alH (show ¬x2+1=0 by omega),alF (show aQ (ag (val a).toNat)∧aQ [sc] from⟨hla,hsl⟩),alF (show aQ (ag (val b).toNat)∧aQ [sc] from⟨hlb,hsl⟩),vL,hlA]
  rw[al6,al6,hdl,ji (L+1)]
  rw[alF (show(L+1+1)*4≤140737488355328∧L+1+1≤140737488355328 by omega),alF (show aQ (dig (m+2+1) (val b*sc)) from jy (by omega) _),e2,tY (by omega),aD,e3]
  exact hrun
abbrev BI:=Bool×List Int
def okI(x:BI):Prop:=can x.2∧(x.1=true→x.2≠[])∧x.2.length≤1000000
instance (x:BI):Decidable (okI x):=by unfold okI;infer_instance
theorem bL(x:BI):ae x=cd x.1 (val x.2):=rfl
theorem iv{x:BI}(h:okI x):x=ai (ae x):=by
 obtain⟨h1,h2,h3⟩:=h
 grind [bL,mZ,po,val,eI]
def szI(z:Int):Nat:=(ag z.natAbs).length
theorem aU{z:Int}(h:szI z≤1000000):okI (ai z):=by
 refine⟨eh _,fun e=>?_,h⟩
 grind [ai,gU]
theorem fh{z:Int}{k:Nat}(h1: -pw k<z)(h2:z<pw k):szI z≤k:=dl (by omega)
theorem FX(z:Int): -pw (szI z)<z∧z<pw (szI z):=by
 have h:=bW (bZ z.natAbs)
 grind [bg,szI]
theorem nv{z:Int}{k:Nat}(h:szI z≤k): -pw k<z∧z<pw k:=by
 have h1:=FX z
 have h2:=dh h
 omega
theorem je(z:Int):szI (-z)=szI z:=by simp[szI]
theorem vW{a b:Int}{k:Nat}(h1:szI a≤k)(h2:szI b≤k):szI (a+b)≤k+1:=by
 have e1:=nv h1
 have e2:=nv h2
 exact fh (by rw[b8];omega) (by rw[b8];omega)
theorem cO{a b:Int}{j k:Nat}(h1:szI a≤j)(h2:szI b≤k):szI (a*b)≤j+k:=by
 have e1:=nv h1
 have e2:=nv h2
 have h:(a*b).natAbs<(pw (j+k)).toNat:=by
  rw[aov,fu]
  have:(pw j*pw k).toNat=(pw j).toNat*(pw k).toNat:=Int.toNat_mul (by omega) (by omega)
  rw[this]
  exact Nat.mul_lt_mul'' (by omega) (by omega)
 exact fh (by omega) (by omega)
theorem dw{a b:Int}(h:a.natAbs≤b.natAbs):szI a≤szI b:=by
 have:=FX b
 exact fh (by omega) (by omega)
theorem iS{x:BI}(h:okI x):szI (ae x)≤1000000:=by
 have:=iv h
 have h3:=h.2.2
 rwa [this]at h3
theorem fW{x:BI}(h:okI x):aQ x.2:=⟨h.1.1,by have:=h.2.2;omega⟩
theorem cE{x:BI}(h:okI x):0≤val x.2∧(x.1=true→0<val x.2)∧(x.2=[]↔val x.2=0):=by
 refine⟨aP h.1.1,fun e=>eI h.1 (h.2.1 e),⟨fun e=>by rw[e];rfl,fun e=>?_⟩⟩
 rcases List.eq_nil_or_concat x.2 with h'|⟨l,y,h'⟩
 ·omega
 ·have:=eI h.1 (by rw[h'];simp)
  omega
def oS:ef:=spN false false [aoX] (fun x=>decide (aH x.1)) (fun x=>[RV.d y2Y (ai x.1)])
theorem lg:SpK 210 oS:=spX fun x h=>HP x.1 (alI h)
def dvQ(a b:List Int):List Int:=if h:pE a b then Classical.choose (EX a b h)else []
def dvR(a b:List Int):List Int:=if h:pE a b then Classical.choose (am8 (EX a b h))else []
theorem Wz{a b:List Int}(h:pE a b):afl a b (dvQ a b) (dvR a b):=by grind [dvQ,dvR]
theorem Vh(a b:List Int)(h:pE a b):Con Tryz.prog 340 [.d aoW a,.d aoW b] [.d aoW (dvQ a b),.d aoW (dvR a b)]:=by
 unfold dvQ dvR
 rw[dif_pos h,dif_pos h]
 exact(am8 (am8 (EX a b h))).2
def GO:ef:=spN false false [aoW,aoW] (fun x=>decide (pE x.1 x.2.1)) (fun x=>[RV.d aoW (dvQ x.1 x.2.1),RV.d aoW (dvR x.1 x.2.1)])
theorem Du:SpK 340 GO:=spX fun x h=>Vh x.1 x.2.1 (alI h)
def rB:Env:=[(269,wI),(300,Bh),(303,GG),(304,GI),(270,GR),(268,EA),(210,oS),(340,GO)]
theorem kg:EnvAll Tryz.prog rB:=⟨sX,xV,CF,D0,De,CZ,lg,Du,trivial⟩
def aiL:Ctx:=CX rB []
def XF(x y:Bool×List Int)(_k:KT):Option (List RV):=match !(x.1==y.1)with|true=>(match x.1 with|true=>some [RV.d aoX (-1)]|false=>some [RV.d aoX 1])|false=>(match x.1 with|true=>(og (decide (aQ y.2∧aQ x.2)) (some [RV.d aoX (cr (val y.2) (val x.2))]))|false=>(og (decide (aQ x.2∧aQ y.2)) (some [RV.d aoX (cr (val x.2) (val y.2))])))
theorem agf(x y:Bool×List Int):RS aiL 172 [.d y2Y x,.d y2Y y] (XF x y):=rsX
def aed:Ctx:=CX rB []
def W5(x y:Bool×List Int)(_k:KT):Option (List RV):=match x.1==y.1 with|true=>(og (decide (aQ x.2∧aQ y.2)) (og (decide (aQ (dig (max x.2.length y.2.length+1) (val x.2+val y.2)))) (some [RV.d y2Y (ai (cd x.1 (val (dig (max x.2.length y.2.length+1) (val x.2+val y.2)))))])))|false=>(og (decide (aQ x.2∧aQ y.2)) (match decide ((cr (val x.2) (val y.2))<0)with|true=>(og (decide (oo y.2 x.2)) (og (decide (aQ (dig y.2.length (val y.2-val x.2)))) (some [RV.d y2Y (ai (cd y.1 (val (dig y.2.length (val y.2-val x.2)))))])))|false=>(og (decide (oo x.2 y.2)) (og (decide (aQ (dig x.2.length (val x.2-val y.2)))) (some [RV.d y2Y (ai (cd x.1 (val (dig x.2.length (val x.2-val y.2)))))])))))
theorem afN(x y:Bool×List Int):RS aed 215 [.d y2Y x,.d y2Y y] (W5 x y):=rsX
def aen:Ctx:=CX rB []
def YE(x y:Bool×List Int)(_k:KT):Option (List RV):=og (decide (aQ x.2∧aQ y.2)) (og (decide (aQ (dig (x.2.length+y.2.length) (val x.2*val y.2)))) (some [RV.d y2Y (ai (cd (!(x.1==y.1)) (val (dig (x.2.length+y.2.length) (val x.2*val y.2)))))]))
theorem agA(x y:Bool×List Int):RS aen 173 [.d y2Y x,.d y2Y y] (YE x y):=rsX
def ahf:Ctx:=CX rB []
def XO(x:Bool×List Int)(_k:KT):Option (List RV):=og (decide (x.2.length*4≤140737488355328∧x.2.length≤140737488355328)) (og (decide (aQ x.2)) (some [RV.d y2Y (ai (cd (!x.1) (val x.2)))]))
theorem aiP(x:Bool×List Int):RS ahf 216 [.d y2Y x] (XO x):=rsX
def agi:Ctx:=CX rB []
def ZP(x:Bool×List Int)(_k:KT):Option (List RV):=match x.1 with|true=>some [RV.d aoX (-1)]|false=>(match decide ((x.2.length:Int)>0)with|true=>some [RV.d aoX 1]|false=>some [RV.d aoX 0])
theorem af9(x:Bool×List Int):RS agi 83 [.d y2Y x] (ZP x):=rsX
theorem TU(x:BI)(h:okI x):Con Tryz.prog 83 [.d y2Y x] [.d aoX (cr (ae x) 0)]:=by
 refine fK kg (af9 _ ⟨0,?_⟩)
 obtain⟨h0,h1,h2⟩:=cE h
 unfold ZP
 rw[bL]
 unfold cd
 cases hx:x.1
 ·simp only[cond_false]
  rcases amd 0 (val x.2)with hc|hc
  ·have:x.2≠[]:=fun e=>by rw[h2]at e;omega
   have:=ami.2 this
   rw[alF (by omega),cM hc]
  ·have e:x.2=[]:=h2.2 (by omega)
   rw[e]
   rfl
 ·simp only[cond_true]
  rw[c8 (by have:=h1 hx;omega)]
theorem HO{a b:Int}(_ha:0≤a)(_hb:0≤b):cr (-a) (-b)=cr b a:=by grind [cM,dX,c8]
theorem HX(x y:BI)(h:okI x∧okI y):Con Tryz.prog 172 [.d y2Y x,.d y2Y y] [.d aoX (cr (ae x) (ae y))]:=by
 refine fK kg (agf _ _ ⟨0,?_⟩)
 obtain⟨hx,hy⟩:=h
 obtain⟨x0,x1,x2⟩:=cE hx
 obtain⟨y0,y1,y2⟩:=cE hy
 have lx:=fW hx
 have ly:=fW hy
 unfold XF
 rw[bL,bL,alF (show aQ x.2∧aQ y.2 from⟨lx,ly⟩),alF (show aQ y.2∧aQ x.2 from⟨ly,lx⟩)]
 unfold cd
 cases ex:x.1<;>cases ey:y.1<;>simp only[cond_true,cond_false]
 ·rfl
 ·have:=y1 ey
  rw[cM (a:=val x.2) (b:= -val y.2) (by omega)]
  rfl
 ·have:=x1 ex
  rw[c8 (a:= -val x.2) (b:=val y.2) (by omega)]
  rfl
 ·rw[HO x0 y0]
  rfl
theorem RR{a b:List Int}(ha:Lim a)(hb:Lim b):val (dig (max a.length b.length+1) (val a+val b))=val a+val b:=by
 have h1:=bW ha
 have h2:=bW hb
 have h3:=aP ha
 have h4:=aP hb
 have h5:=dh (Nat.le_max_left a.length b.length)
 have h6:=dh (Nat.le_max_right a.length b.length)
 grind [io,b8]
theorem zS{a b:List Int}(ha:Lim a)(hb:Lim b)(hle:val b≤val a):val (dig a.length (val a-val b))=val a-val b:=by
 have h1:=bW ha
 have h4:=aP hb
 grind [io]
theorem JW{a b:List Int}(ha:Lim a)(hb:Lim b):val (dig (a.length+b.length) (val a*val b))=val a*val b:=by
 have h1:=bW ha
 have h2:=bW hb
 have h3:=aP ha
 have h4:=aP hb
 refine io _ _ (amD h3 h4) ?_
 rw[fu]
 have e1:=alT (amn h1) h4
 have e2:=Int.mul_lt_mul_of_pos_left h2 (cp a.length)
 omega
theorem S6(x y:BI)(h:okI x∧okI y):Con Tryz.prog 215 [.d y2Y x,.d y2Y y] [.d y2Y (ai (ae x+ae y))]:=by
 refine fK kg (afN _ _ ⟨0,?_⟩)
 obtain⟨hx,hy⟩:=h
 obtain⟨x0,x1,x2⟩:=cE hx
 obtain⟨y0,y1,y2⟩:=cE hy
 have lx:=fW hx
 have ly:=fW hy
 have sx:=hx.2.2
 have sy:=hy.2.2
 unfold W5
 rw[bL,bL,alF (show aQ x.2∧aQ y.2 from⟨lx,ly⟩),alF (show aQ (dig (max x.2.length y.2.length+1) (val x.2+val y.2)) from jy (by omega) _),RR lx.1 ly.1,alF (show aQ (dig x.2.length (val x.2-val y.2)) from jy (by omega) _),alF (show aQ (dig y.2.length (val y.2-val x.2)) from jy (by omega) _)]
 cases hs:x.1==y.1
 ·dsimp only
  rcases amd (val x.2) (val y.2)with hc|hc
  ·rw[c8 hc,alF (show(-1:Int)<0 by decide),alF (show oo y.2 x.2 from⟨ly,lx,by omega⟩),zS ly.1 lx.1 (by omega)]
   dsimp only
   unfold cd
   cases ex:x.1<;>cases ey:y.1<;>simp_all<;>congr 2<;>omega
  ·have hcm:decide (cr (val x.2) (val y.2)<0)=false:=by
    rcases amd (val y.2) (val x.2)with h|h
    ·rw[cM h];rfl
    ·rw[show val x.2=val y.2 by omega,dX];rfl
   rw[hcm,alF (show oo x.2 y.2 from⟨lx,ly,hc⟩),zS lx.1 ly.1 hc]
   dsimp only
   unfold cd
   cases ex:x.1<;>cases ey:y.1<;>simp_all<;>congr 2<;>omega
 ·dsimp only
  have e:=amR.1 hs
  rw[←e]
  unfold cd
  cases x.1
  ·rfl
  ·simp only[cond_true]
   rw[show-(val x.2+val y.2)= -val x.2+ -val y.2 by omega]
theorem I0(x:BI)(h:okI x):Con Tryz.prog 216 [.d y2Y x] [.d y2Y (ai (-ae x))]:=by
 refine fK kg (aiP _ ⟨0,?_⟩)
 have sx:=h.2.2
 unfold XO
 rw[bL,alF (show x.2.length*4≤140737488355328∧x.2.length≤140737488355328 by omega),alF (fW h)]
 unfold cd
 cases x.1<;>simp
theorem Jr(x y:BI)(h:okI x∧okI y):Con Tryz.prog 173 [.d y2Y x,.d y2Y y] [.d y2Y (ai (ae x*ae y))]:=by
 refine fK kg (agA _ _ ⟨0,?_⟩)
 obtain⟨hx,hy⟩:=h
 have lx:=fW hx
 have ly:=fW hy
 have sx:=hx.2.2
 have sy:=hy.2.2
 unfold YE
 rw[bL,bL,alF (show aQ x.2∧aQ y.2 from⟨lx,ly⟩),alF (show aQ (dig (x.2.length+y.2.length) (val x.2*val y.2)) from jy (by omega) _),JW lx.1 ly.1]
 unfold cd
 cases x.1<;>cases y.1<;>simp[Int.neg_mul,aoy]
def oI:ef:=spN false false [y2Y,y2Y] (fun x=>decide (okI x.1∧okI x.2.1)) (fun x=>[RV.d y2Y (ai (ae x.1+ae x.2.1))])
theorem kZ:SpK 215 oI:=spX fun x h=>S6 x.1 x.2.1 (alI h)
def FI:Env:=(215,oI)::rB
theorem zm:EnvAll Tryz.prog FI:=⟨kZ,kg⟩
def ah3:Ctx:=CX FI []
def Wi(x y:Bool×List Int)(_k:KT):Option (List RV):=match !y.1 with|true=>(og (decide (okI x∧okI (decide ((y.2.length:Int)>0),y.2))) (some [RV.d y2Y (ai (ae x+ae (decide ((y.2.length:Int)>0),y.2)))]))|false=>(og (decide (okI x∧okI (false,y.2))) (some [RV.d y2Y (ai (ae x+ae (false,y.2)))]))
theorem afH(x y:Bool×List Int):RS ah3 360 [.d y2Y x,.d y2Y y] (Wi x y):=rsX
theorem Lo{y:BI}(h:okI y):okI (!y.1&&decide ((y.2.length:Int)>0),y.2)∧ae (!y.1&&decide ((y.2.length:Int)>0),y.2)= -ae y:=by
 refine⟨⟨h.1,fun e=>?_,h.2.2⟩,?_⟩
 ·grind
 grind [bL,cd,val,ami]
theorem Uv(x y:BI)(h:okI x∧okI y):Con Tryz.prog 360 [.d y2Y x,.d y2Y y] [.d y2Y (ai (ae x-ae y))]:=by
 refine fK zm (afH _ _ ⟨0,?_⟩)
 obtain⟨hx,hy⟩:=h
 obtain⟨f1,f2⟩:=Lo hy
 rw[Int.sub_eq_add_neg,←f2]
 unfold Wi
 cases ey:y.1
 ·rw[ey]at f1
  simp only[Bool.not_false,amN]at f1 ⊢
  rw[alF ⟨hx,f1⟩]
 ·rw[ey]at f1
  simp only[Bool.not_true,Bool.false_and]at f1 ⊢
  rw[alF ⟨hx,f1⟩]
def LO:ef:=spN false false [y2Y,y2Y] (fun x=>decide (okI x.1∧okI x.2.1)) (fun x=>[RV.d y2Y (ai (ae x.1-ae x.2.1))])
theorem Ob:SpK 360 LO:=spX fun x h=>Uv x.1 x.2.1 (alI h)
def MF:Env:=(360,LO)::FI
theorem Kr:EnvAll Tryz.prog MF:=⟨Ob,zm⟩
def ag0:Ctx:=CX MF []
def Zy(x y:Bool×List Int)(_k:KT):Option (List RV):=let y1:=aQ (dvQ x.2 y.2);let y2:=aQ (dvR x.2 y.2);let y3:=ai (cd x.1 (val (dvR x.2 y.2)));let y4:=ai (cd (!(x.1==y.1)) (val (dvQ x.2 y.2)));let y5:Option (List RV):=match decide (((y3.2).length:Int)>0)with|true=>(match !((y3.1)==y.1)with|true=>(og (decide (aH (1:Int))) (og (decide (okI y4∧okI (ai (1:Int)))) (og (decide (okI y3∧okI y)) (dup (.b .l .l) (some [RV.d y2Y (ai (ae y4-ae (ai (1:Int)))),RV.d y2Y (ai (ae y3+ae y)),RV.d aoX 0])))))|false=>dup (.b .l .l) (some [RV.d y2Y y4,RV.d y2Y y3,RV.d aoX 0]))|false=>dup (.b .l .l) (some [RV.d y2Y y4,RV.d y2Y y3,RV.d aoX 0]);let y6:Option (List RV):=match decide y2 with|true=>y5|false=>none;match(y.2.length:Int)==0 with|true=>some [RV.d y2Y (false,[]),RV.d y2Y (false,[]),RV.d aoX 6]|false=>(og (decide (pE x.2 y.2)) (ce (og (decide y1) (ce (og (decide y2) (dup (.b .l .l) y5)) (dup (.b (.b .l .l) (.b .l .l)) y6))) (dup (.b .l .l) (ce (og (decide y1) (dup (.b .l .l) y6)) (og (decide y1) y6)))))
theorem agU(x y:Bool×List Int):RS ag0 341 [.d y2Y x,.d y2Y y] (Zy x y):=rsX
def fp(x y:BI):Prop:=okI x∧okI y∧0<ae y
instance (x y:BI):Decidable (fp x y):=by unfold fp;infer_instance
theorem Ic{a b:Int}(_ha:0≤a)(hb:0<b):(a%b=0→ -a/b= -(a/b)∧ -a%b=0)∧(0<a%b→ -a/b= -(a/b)-1∧ -a%b= -(a%b)+b):=by
 have h1:=amK a (show b≠0 by omega)
 have h2:=amp a hb
 have h3:=amv a b
 constructor
 ·intro h
  have e: -a=b* -(a/b):=by rw[aoy];omega
  constructor
  ·rw[e,anV _ (by omega)]
  ·rw[e,Int.mul_emod_right]
 ·intro h
  have e: -a=(b-a%b)+b*(-(a/b)-1):=by rw[Int.mul_sub,aoy,an1];omega
  constructor
  ·rw[e,ans _ _ (by omega),amU (by omega) (by omega)];omega
  ·rw[e,anJ,anU (by omega) (by omega)];omega
theorem qs:okI (ai 1):=by decide
theorem BW(n:Bool){v:Int}:szI (cd n v)=szI v:=by unfold cd;cases n<;>simp[je]
theorem HU(x y:BI)(h:fp x y):Con Tryz.prog 341 [.d y2Y x,.d y2Y y] [.d y2Y (ai (ae x/ae y)),.d y2Y (ai (ae x%ae y)),.d aoX 0]:=by
 refine fK Kr (agU _ _ ⟨0,?_⟩)
 obtain⟨hx,hy,hp⟩:=h
 obtain⟨x0,x1,x2⟩:=cE hx
 obtain⟨y0,y1,y2⟩:=cE hy
 have sx:=hx.2.2
 have sy:=hy.2.2
 have ey:y.1=false:=by
  cases e:y.1
  ·rfl
  ·rw[bL,e]at hp
   simp only[cd,cond_true]at hp
   omega
 have dy:ae y=val y.2:=by rw[bL,ey];rfl
 rw[dy]at hp
 have hdv:pE x.2 y.2:=⟨⟨hx.1.1,by omega⟩,⟨hy.1.1,by omega⟩,hp⟩
 obtain⟨lq,lr,sq,sr,vq,vr⟩:=Wz hdv
 have hne:y.2≠[]:=fun e=>by rw[y2]at e;omega
 have hylen:=ami.2 hne
 have r0:=amK (val x.2) (show val y.2≠0 by omega)
 have r1:=amp (val x.2) hp
 have q0:0≤val x.2/val y.2:=amG x0 y0
 have q1:val x.2/val y.2≤val x.2:=anB _ x0
 have vx:=bW hx.1.1
 have vy:=bW hy.1.1
 have szq:szI (val x.2/val y.2)≤1000000:=fh (by have:=cp 1000000;omega) (by have:=dh sx;omega)
 have szr:szI (val x.2%val y.2)≤1000000:=fh (by have:=cp 1000000;omega) (by have:=dh sy;omega)
 unfold Zy
 simp only[eU]
 rw[show((y.2.length:Int)==0)=false by simp;omega,alF hdv,alF (show aQ (dvQ x.2 y.2) from⟨lq,by omega⟩),alF (show aQ (dvR x.2 y.2) from⟨lr,by omega⟩),alF (show aH 1 by decide),vq,vr,
  alF (show okI (ai (cd (!(x.1==y.1)) (val x.2/val y.2)))∧okI (ai (1:Int)) from⟨aU (by rw[BW];exact szq),qs⟩),alF (show okI (ai (cd x.1 (val x.2%val y.2)))∧okI y from⟨aU (by rw[BW];exact szr),hy⟩)]
 simp only[dec_enc,dy,cS]
 have hE1:(ai (cd x.1 (val x.2%val y.2))).1=(x.1&&decide (0<val x.2%val y.2)):=by rw[mZ x.1 r0]
 have hE2:(ai (cd x.1 (val x.2%val y.2))).2=ag (val x.2%val y.2).toNat:=by rw[mZ x.1 r0]
 rw[hE1,hE2,bL x,ey]
 have hlen:(((ag (val x.2%val y.2).toNat).length:Int)>0)↔0<val x.2%val y.2:=by
  constructor
  ·intro hl
   rcases amd 0 (val x.2%val y.2)with h|h
   ·exact h
   ·rw[show(val x.2%val y.2).toNat=0 by omega,fI]at hl
    simp at hl
  ·intro hl
   have:ag (val x.2%val y.2).toNat≠[]:=fun e=>by rw[gU]at e;omega
   have:=ami.2 this
   omega
 obtain⟨n1,n2⟩:=Ic (a:=val x.2) (b:=val y.2) x0 hp
 rcases amd 0 (val x.2%val y.2)with hr|hr
 ·rw[alF (hlen.2 hr),alF hr]
  cases x.1
  ·rfl
  ·obtain⟨e1,e2⟩:=n2 hr
   simp only[cd,cond_true,Bool.not_false,amN,show((true==false):Bool)=false from rfl]
   rw[e1,e2]
 ·rw[alH (fun h'=>by have:=hlen.1 h';omega)]
  dsimp only
  have e0:val x.2%val y.2=0:=by omega
  cases x.1
  ·simp only[cd,cond_false,show((false==false):Bool)=true from rfl,Bool.not_true]
  ·obtain⟨e1,e2⟩:=n1 e0
   simp only[cd,cond_true,show((true==false):Bool)=false from rfl,Bool.not_false]
   rw[e1,e2,e0]
   rfl
def kN(x:BI):Bool:=decide (x.2.length≤2)
def yN(x:BI):Int:=bif kN x then val x.2 else 0
def agm:Ctx:=CX [] []
def Yi(x:Bool×List Int)(_k:KT):Option (List RV):=match(x.2.length:Int)==0 with|true=>some [RV.d (.int .u64) 0,RV.d .bool true]|false=>(match(x.2.length:Int)==1 with|true=>(match aR x.2 0 with|some x1=>some [RV.d (.int .u64) (u64.wrap x1),RV.d .bool true]|none=>none)|false=>(match(x.2.length:Int)==2 with|true=>(match aR x.2 1 with|some x2=>(match aR x.2 0 with|some x3=>some [RV.d (.int .u64) (u64.wrap ((u64.wrap ((u64.wrap x2)*1000000000))+(u64.wrap x3))),RV.d .bool true]|none=>none)|none=>none)|false=>some [RV.d (.int .u64) 0,RV.d .bool false]))
theorem afz(x:Bool×List Int):RS agm 339 [.d y2Y x] (Yi x):=rsX
theorem VV(x:BI)(h:okI x):Con Tryz.prog 339 [.d y2Y x] [.d (.int .u64) (yN x),.d .bool (kN x)]:=by
 refine fK (E:=[]) trivial (afz _ ⟨0,?_⟩)
 obtain⟨neg,l⟩:=x
 have hl:=h.1.1
 unfold Yi yN kN
 match l,hl with
 |[],_=>rfl
 |[a],hl=>
  have:=hl.head
  simp only[al6,zg,amF]
  rw[bj (x:=a) (by omega) (by omega)]
  simp[val]
 |[a,b],hl=>
  have h1:=hl.head
  have h2:=hl.tail.head
  have e1:aR [a,b] 1=some b:=rfl
  have e0:aR [a,b] 0=some a:=rfl
  simp only[e1,e0,alY,List.length_nil]
  rw[bj (x:=a) (by omega) (by omega),bj (x:=b) (by omega) (by omega),bj (x:=b*1000000000) (by omega) (by omega),bj (x:=b*1000000000+a) (by omega) (by omega)]
  rw[show val [a,b]=b*1000000000+a by simp only[val];omega]
  rfl
 |a::b::c::l,hl=>
  have e:decide ((a::b::c::l).length≤2)=false:=alH (by simp)
  rw[e,show(((a::b::c::l).length:Int)==0)=false by simp;omega,show(((a::b::c::l).length:Int)==1)=false by simp;omega,show(((a::b::c::l).length:Int)==2)=false by simp;omega]
  rfl
def PC:ef:=spN false false [y2Y] (fun x=>decide (okI x.1)) (fun x=>[RV.d (.int .u64) (yN x.1),RV.d .bool (kN x.1)])
theorem Pi:SpK 339 PC:=spX fun x h=>VV x.1 (alI h)
def RB:Env:=[(269,wI),(300,Bh),(340,GO),(339,PC)]
theorem Kx:EnvAll Tryz.prog RB:=⟨sX,xV,Du,Pi,trivial⟩
def acf:NT:=[((301,6),{keep:=[4,5,6],hl:=5}),((301,24),{keep:=[4,7,9],hl:=3})]
def ii:Ctx:=CX RB acf
def lZ(x y:Bool×List Int)(b3_0:Bool)(b3_1:List Int)(b4_0:Bool)(b4_1:List Int):Cfg:=⟨301,[.blk 0,.seq 40],[(4,.box 2 0),(5,.box 3 0),(6,.box 4 0)],[.box 29 [SB x.1,.d aoW x.2],.box 29 [SB y.1,.d aoW y.2],.box 29 [SB false,.nil],.box 29 [SB b3_0,.d aoW b3_1],.box 29 [SB b4_0,.d aoW b4_1]],0,[]⟩
def gH(x y:Bool×List Int)(b3_0:Bool)(b3_1:List Int)(b4_0:Bool)(b4_1:List Int):Cfg:=⟨301,[.blk 0,.seq 40],[(4,.box 2 0),(5,.box 4 0),(6,.box 3 0)],[.box 29 [SB x.1,.d aoW x.2],.box 29 [SB y.1,.d aoW y.2],.box 29 [SB false,.nil],.box 29 [SB b3_0,.d aoW b3_1],.box 29 [SB b4_0,.d aoW b4_1]],0,[]⟩
def iU(x y:Bool×List Int)(s7 s9:Int):Cfg:=⟨301,[.blk 2,.seq 33,.seq 37,.blk 1,.lp 6,.blk 0,.seq 40],[(4,.box 2 0),(7,.d (.int .u64) s7),(9,.d (.int .u64) s9)],[.box 29 [SB x.1,.d aoW x.2],.box 29 [SB y.1,.d aoW y.2],.box 29 [SB false,.nil]],0,[]⟩
def YW(x y:Bool×List Int)(k:KT):Option (List RV):=let y1:=ai (cd false (val x.2));let y2:=ai (cd false (val y.2));let y3:=lZ x y (y1.1) (y1.2) (y2.1) (y2.2);let y4:=gH x y (y2.1) (y2.2) (y1.1) (y1.2);let y5:Option (List RV):=match decide (aQ y.2)with|true=>k 6 y3|false=>none;let y6:Option (List RV):=match decide (aQ y.2)with|true=>k 6 y4|false=>none;ce (og (decide (aQ x.2)) (ce (og (decide (aQ y.2)) (ce (k 6 y3) (k 6 y4))) (ce (dup (.b .l .l) y5) (dup (.b .l .l) y6)))) (ce (ce (og (decide (aQ x.2)) (dup (.b .l .l) y5)) (og (decide (aQ x.2)) y5)) (ce (og (decide (aQ x.2)) (dup (.b .l .l) y6)) (og (decide (aQ x.2)) y6)))
theorem ahj(x y:Bool×List Int):RS ii 301 [.d y2Y x,.d y2Y y] (YW x y):=rsX
def L8(x y:Bool×List Int)(b3_0:Bool)(b3_1:List Int)(b4_0:Bool)(b4_1:List Int)(k:KT):Option (List RV):=match decide ((b4_1.length:Int)>0)with|true=>(og (decide (okI (b3_0,b3_1))) (og (decide (okI (b4_0,b4_1))) (match kN (b3_0,b3_1)with|true=>(match kN (b4_0,b4_1)with|true=>k 24 (iU x y (yN (b3_0,b3_1)) (yN (b4_0,b4_1)))|false=>(og (decide (pE b3_1 b4_1)) (og (decide (aQ (dvR b3_1 b4_1))) (k 6 (lZ x y b4_0 b4_1 ((ai (cd false (val (dvR b3_1 b4_1)))).1) ((ai (cd false (val (dvR b3_1 b4_1)))).2))))))|false=>(og (decide (pE b3_1 b4_1)) (og (decide (aQ (dvR b3_1 b4_1))) (k 6 (lZ x y b4_0 b4_1 ((ai (cd false (val (dvR b3_1 b4_1)))).1) ((ai (cd false (val (dvR b3_1 b4_1)))).2))))))))|false=>(og (decide (b3_1.length*4≤140737488355328∧b3_1.length≤140737488355328)) (og (decide (aQ b3_1)) (some [RV.d y2Y (ai (cd false (val b3_1)))])))
theorem MA(x y:Bool×List Int)(b3_0:Bool)(b3_1:List Int)(b4_0:Bool)(b4_1:List Int):RL ii 6 (lZ x y b3_0 b3_1 b4_0 b4_1) (L8 x y b3_0 b3_1 b4_0 b4_1):=rlX
def Gm(x y:Bool×List Int)(b3_0:Bool)(b3_1:List Int)(b4_0:Bool)(b4_1:List Int)(k:KT):Option (List RV):=match decide ((b3_1.length:Int)>0)with|true=>(og (decide (okI (b4_0,b4_1))) (og (decide (okI (b3_0,b3_1))) (match kN (b4_0,b4_1)with|true=>(match kN (b3_0,b3_1)with|true=>k 24 (iU x y (yN (b4_0,b4_1)) (yN (b3_0,b3_1)))|false=>(og (decide (pE b4_1 b3_1)) (og (decide (aQ (dvR b4_1 b3_1))) (k 6 (gH x y ((ai (cd false (val (dvR b4_1 b3_1)))).1) ((ai (cd false (val (dvR b4_1 b3_1)))).2) b3_0 b3_1)))))|false=>(og (decide (pE b4_1 b3_1)) (og (decide (aQ (dvR b4_1 b3_1))) (k 6 (gH x y ((ai (cd false (val (dvR b4_1 b3_1)))).1) ((ai (cd false (val (dvR b4_1 b3_1)))).2) b3_0 b3_1)))))))|false=>(og (decide (b4_1.length*4≤140737488355328∧b4_1.length≤140737488355328)) (og (decide (aQ b4_1)) (some [RV.d y2Y (ai (cd false (val b4_1)))])))
theorem E1(x y:Bool×List Int)(b3_0:Bool)(b3_1:List Int)(b4_0:Bool)(b4_1:List Int):RL ii 6 (gH x y b3_0 b3_1 b4_0 b4_1) (Gm x y b3_0 b3_1 b4_0 b4_1):=rlX
def uq(x y:Bool×List Int)(s7 s9:Int)(k:KT):Option (List RV):=match decide (s9>0)with|true=>(match decide (s9=(0:Int))with|true=>none|false=>k 24 (iU x y s9 (Int.tmod s7 s9)))|false=>(og (decide (iC s7)) (og (decide (aQ (dig 3 s7))) (some [RV.d y2Y (ai (cd false (val (dig 3 s7))))])))
theorem z5(x y:Bool×List Int)(s7 s9:Int):RL ii 24 (iU x y s7 s9) (uq x y s7 s9):=rlX
theorem Np(x y:BI)(B:Nat)(hB:(B:Int)<18446744073709551616):∀(v u:Nat),u≤B→v≤B→ii.RunsE 24 (iU x y (u:Int) (v:Int)) [.d y2Y (ai ((Nat.gcd u v:Nat):Int))]:=by
 intro v
 induction v using Nat.strongRecOn with
 |ind v ih=>
  intro u hu hv
  rcases amA v with h0|h0
  ·refine z5 _ _ _ _ ⟨0,fun n _=>?_⟩
   have hp:iC (u:Int):=⟨by omega,by omega⟩
   unfold uq
   rw[alH (show ¬(v:Int)>0 by omega),alF hp,alF (jy (n:=3) (by decide) (u:Int)),wP hp,show Nat.gcd u v=u by rw[h0];exact Nat.gcd_zero_right u]
   rfl
  ·obtain⟨n0,hn⟩:=ih (u%v) (aoA _ h0) v hv (alU (Nat.le_of_lt (aoA _ h0)) hv)
   refine z5 _ _ _ _ ⟨n0,fun n hn'=>?_⟩
   unfold uq
   rw[alF (by omega),alH (by omega),jo (by omega)]
   dsimp only
   rw[show((u:Int)%(v:Int))=((u%v:Nat):Int) by simp,anN u v,Nat.gcd_rec v u,anN]
   exact hn n hn'
theorem Ac(v:Int):cd false v=v:=rfl
theorem iV(u:Nat):ai (u:Int)=(false,ag u):=rfl
theorem Ab{u:Nat}(h:(ag u).length≤2):u≤(pw 2).toNat:=by
 have h1:=bW (bZ u)
 rw[bg]at h1
 have h2:=dh h
 omega
theorem adl:(((pw 2).toNat:Nat):Int)<18446744073709551616:=by decide
theorem Co{k:Nat→Cfg→Option (List RV)}{u v:Nat}(hu:szI u≤1000000)(hv:szI v≤1000000){r:List RV}{H:Int→Int→Cfg}{D:Int→Cfg}
  (h1:v=0→r=[.d y2Y (ai (u:Int))]) (h2:v≠0→kN (ai (u:Int))=true→kN (ai (v:Int))=true→k 24 (H (u:Int) (v:Int))=some r) (h3:v≠0→k 6 (D ((u%v:Nat):Int))=some r) (D':List Int→Cfg) (hD:D' (dvR (ag u) (ag v))=D (val (dvR (ag u) (ag v)))):
  (match decide (((ag v).length:Int)>0)with
   |true=>(match decide (okI (ai (u:Int)))with
    |true=>(match decide (okI (ai (v:Int)))with
     |true=>(match kN (ai (u:Int))with
      |true=>(match kN (ai (v:Int))with
       |true=>k 24 (H (yN (ai (u:Int))) (yN (ai (v:Int))))
       |false=>(match decide (pE (ag u) (ag v))with
        |true=>(match decide (aQ (dvR (ag u) (ag v)))with
         |true=>k 6 (D' (dvR (ag u) (ag v)))
         |false=>none)
        |false=>none))
      |false=>(match decide (pE (ag u) (ag v))with
        |true=>(match decide (aQ (dvR (ag u) (ag v)))with
         |true=>k 6 (D' (dvR (ag u) (ag v)))
         |false=>none)
        |false=>none))
     |false=>none)
    |false=>none)
   |false=>(match decide ((ag u).length*4≤140737488355328∧(ag u).length≤140737488355328)with
    |true=>(match decide (aQ (ag u))with
     |true=>some [.d y2Y (ai (cd false (val (ag u))))]
     |false=>none)
    |false=>none))=some r:=by
 have lu:(ag u).length≤1000000:=by have:=hu;unfold szI at this;rwa [ane]at this
 have lv:(ag v).length≤1000000:=by have:=hv;unfold szI at this;rwa [ane]at this
 rcases amA v with h0|h0
 ·subst h0
  rw[h1 rfl,show decide (((ag 0).length:Int)>0)=false from rfl,alF (show(ag u).length*4≤140737488355328∧(ag u).length≤140737488355328 by omega),alF (show aQ (ag u) from⟨bZ u,by omega⟩),bg]
  rfl
 ·have hne:ag v≠[]:=fun e=>by rw[gU]at e;omega
  have hl:=ami.2 hne
  have hvv:=bg v
  have hvu:=bg u
  have hdv:pE (ag u) (ag v):=⟨⟨bZ u,by omega⟩,⟨bZ v,by omega⟩,by omega⟩
  obtain⟨_,lr,_,sr,_,vr⟩:=Wz hdv
  have hD2:k 6 (D' (dvR (ag u) (ag v)))=some r:=by
   rw[hD,vr,hvv,hvu]
   exact h3 (by omega)
  rw[alF (by omega),alF (aU hu),alF (aU hv),alF hdv,alF (show aQ (dvR (ag u) (ag v)) from⟨lr,by omega⟩)]
  dsimp only
  cases hb1:kN (ai (u:Int))
  ·exact hD2
  ·cases hb2:kN (ai (v:Int))
   ·exact hD2
   ·dsimp only
    have:=h2 (by omega) hb1 hb2
    unfold yN
    rw[hb1,hb2]
    simp only[cond_true,iV]
    rw[hvv,hvu]
    exact this
theorem R8(x y:BI):∀(v u:Nat),szI u≤1000000→szI v≤1000000→
  ii.RunsE 6 (lZ x y false (ag u) false (ag v)) [.d y2Y (ai ((Nat.gcd u v:Nat):Int))]∧ii.RunsE 6 (gH x y false (ag v) false (ag u)) [.d y2Y (ai ((Nat.gcd u v:Nat):Int))]:=by
 intro v
 induction v using Nat.strongRecOn with
 |ind v ih=>
  intro u hu hv
  have hw:kN (ai (u:Int))=true→kN (ai (v:Int))=true→ii.RunsE 24 (iU x y (u:Int) (v:Int)) [.d y2Y (ai ((Nat.gcd u v:Nat):Int))]:=fun h1 h2=>by
   unfold kN at h1 h2
   rw[iV]at h1 h2
   exact Np x y _ adl v u (Ab (alI h1)) (Ab (alI h2))
  have hd:v≠0→ii.RunsE 6 (lZ x y false (ag v) false (ag (u%v))) [.d y2Y (ai ((Nat.gcd u v:Nat):Int))]∧ii.RunsE 6 (gH x y false (ag (u%v)) false (ag v)) [.d y2Y (ai ((Nat.gcd u v:Nat):Int))]:=fun h0=>by
   have hm:=aoA u (Nat.pos_of_ne_zero h0)
   have:=ih (u%v) hm v hv (alU (dw (by omega)) hv)
   rw[anN u v,Nat.gcd_rec v u,anN (u%v) v]
   exact this
  have hcommon:∃n0,∀n,n0≤n→(kN (ai (u:Int))=true→kN (ai (v:Int))=true→ii.k n 24 (iU x y (u:Int) (v:Int))=some [.d y2Y (ai ((Nat.gcd u v:Nat):Int))])∧(v≠0→ii.k n 6 (lZ x y false (ag v) false (ag (u%v)))=some [.d y2Y (ai ((Nat.gcd u v:Nat):Int))]∧ii.k n 6 (gH x y false (ag (u%v)) false (ag v))=some [.d y2Y (ai ((Nat.gcd u v:Nat):Int))]):=by
   have g1:∃n1,∀n,n1≤n→(kN (ai (u:Int))=true→kN (ai (v:Int))=true→ii.k n 24 (iU x y (u:Int) (v:Int))=some [.d y2Y (ai ((Nat.gcd u v:Nat):Int))]):=by
    by_cases hb:kN (ai (u:Int))=true∧kN (ai (v:Int))=true
    ·obtain⟨n,h⟩:=hw hb.1 hb.2
     exact⟨n,fun m hm _ _=>h m hm⟩
    ·exact⟨0,fun n _ h1 h2=>absurd ⟨h1,h2⟩ hb⟩
   have g2:∃n1,∀n,n1≤n→(v≠0→ii.k n 6 (lZ x y false (ag v) false (ag (u%v)))=some [.d y2Y (ai ((Nat.gcd u v:Nat):Int))]∧ii.k n 6 (gH x y false (ag (u%v)) false (ag v))=some [.d y2Y (ai ((Nat.gcd u v:Nat):Int))]):=by
    by_cases hb:v=0
    ·exact⟨0,fun n _ h=>absurd hb h⟩
    ·obtain⟨⟨n1,h1⟩,⟨n2,h2⟩⟩:=hd hb
     exact⟨max n1 n2,fun n hn _=>⟨h1 n (by omega),h2 n (by omega)⟩⟩
   obtain⟨n1,h1⟩:=g1
   obtain⟨n2,h2⟩:=g2
   exact⟨max n1 n2,fun n hn=>⟨h1 n (by omega),h2 n (by omega)⟩⟩
  obtain⟨n0,hc⟩:=hcommon
  have hz:v=0→([.d y2Y (ai ((Nat.gcd u v:Nat):Int))]:List RV)=[.d y2Y (ai (u:Int))]:=fun e=>by subst e;rw[Nat.gcd_zero_right]
  constructor
  ·refine MA _ _ _ _ _ _ ⟨n0,fun n hn=>?_⟩
   have:=Co (k:=ii.k n) hu hv (H:=fun a b=>iU x y a b) (D:=fun z=>lZ x y false (ag v) (ai z).1 (ai z).2) hz (fun _ h1 h2=>(hc n hn).1 h1 h2) (fun h0=>by rw[iV];exact((hc n hn).2 h0).1) (fun l=>lZ x y false (ag v) (ai (cd false (val l))).1 (ai (cd false (val l))).2) rfl
   rw[iV,iV]at this
   exact this
  ·refine E1 _ _ _ _ _ _ ⟨n0,fun n hn=>?_⟩
   have:=Co (k:=ii.k n) hu hv (H:=fun a b=>iU x y a b) (D:=fun z=>gH x y (ai z).1 (ai z).2 false (ag v)) hz (fun _ h1 h2=>(hc n hn).1 h1 h2) (fun h0=>by rw[iV];exact((hc n hn).2 h0).2) (fun l=>gH x y (ai (cd false (val l))).1 (ai (cd false (val l))).2 false (ag v)) rfl
   rw[iV,iV]at this
   exact this
theorem Uo(x y:BI)(h:okI x∧okI y):Con Tryz.prog 301 [.d y2Y x,.d y2Y y] [.d y2Y (ai ((Int.gcd (ae x) (ae y):Nat):Int))]:=by
 refine fK Kx (show ii.Res _ _ _ from ?_)
 obtain⟨hx,hy⟩:=h
 obtain⟨x0,_,_⟩:=cE hx
 obtain⟨y0,_,_⟩:=cE hy
 have ex:((ae x).natAbs:Int)=val x.2:=by rw[bL];unfold cd;cases x.1<;>simp<;>omega
 have ey:((ae y).natAbs:Int)=val y.2:=by rw[bL];unfold cd;cases y.1<;>simp<;>omega
 have szx:szI ((ae x).natAbs:Int)≤1000000:=alU (dw (by omega)) (iS hx)
 have szy:szI ((ae y).natAbs:Int)≤1000000:=alU (dw (by omega)) (iS hy)
 obtain⟨⟨n1,h1⟩,⟨n2,h2⟩⟩:=R8 x y (ae y).natAbs (ae x).natAbs szx szy
 refine ahj _ _ ⟨max n1 n2,?_⟩
 have h1:=h1 (max n1 n2) (by omega)
 have h2:=h2 (max n1 n2) (by omega)
 unfold YW
 simp only[eU]
 rw[alF (fW hx),alF (fW hy),Ac,Ac,←ex,←ey,iV,iV]
 dsimp only
 rw[h1,h2]
 simp only[cS]
 rfl
abbrev BR:=BI×BI
def am(q:Rat):BR:=(ai q.num,ai (q.den:Int))
def ah(x:BR):Rat:=mkRat (ae x.1) (ae x.2).toNat
theorem cA(q:Rat):ah (am q)=q:=by simp[ah,am,dec_enc]
def okR(x:BR):Prop:=okI x.1∧okI x.2∧0<ae x.2∧Int.gcd (ae x.1) (ae x.2)=1∧x.1.2.length≤480000∧x.2.2.length≤480000
instance (x:BR):Decidable (okR x):=by unfold okR;infer_instance
def o1(x:BR):Bool:=decide (okR x)
def o2(x y:BR):Bool:=decide (okR x∧okR y)
theorem ai7(x:BR):o1 x=decide (okR x):=rfl
theorem aeo(x y:BR):o2 x y=(decide (okR x)&&decide (okR y)):=anG _ _
theorem cN{x:BR}(h:okR x):(ah x).num=ae x.1∧((ah x).den:Int)=ae x.2:=by
 obtain⟨h1,h2,h3,h4,_⟩:=h
 unfold ah
 rw[aoH,aoI]
 have hg:(ae x.2).toNat.gcd (ae x.1).natAbs=1:=by
  rwa [anN,show(ae x.2).toNat=(ae x.2).natAbs by omega]
 grind
theorem Q8{x:BR}(h:okR x):x=am (ah x):=by
 obtain⟨e1,e2⟩:=cN h
 unfold am
 rw[e1,e2,←iv h.1,←iv h.2.1]
def bdR(k:Nat)(q:Rat):Prop:=szI q.num≤k∧szI (q.den:Int)≤k
theorem pU{q:Rat}{k:Nat}(h:bdR k q)(hk:k≤480000):okR (am q):=by
 obtain⟨h1,h2⟩:=h
 have hd:=q.den_pos
 refine⟨aU (by omega),aU (by omega),?_,?_,by show szI q.num≤480000;omega,by show szI (q.den:Int)≤480000;omega⟩
 ·show 0<ae (ai (q.den:Int))
  grind [dec_enc]
 ·show Int.gcd (ae (ai q.num)) (ae (ai (q.den:Int)))=1
  rw[dec_enc,dec_enc]
  exact q.reduced
theorem BM{x:BR}(h:okR x):bdR 480000 (ah x):=by
 obtain⟨e1,e2⟩:=cN h
 obtain⟨h1,h2,_,_,h5,h6⟩:=h
 unfold bdR szI
 rw[e1,e2]
 rw[iv h1]at h5
 rw[iv h2]at h6
 exact⟨h5,h6⟩
theorem bJ{j k:Nat}{q:Rat}(h:bdR j q)(hk:j≤k):bdR k q:=⟨alU h.1 hk,alU h.2 hk⟩
theorem IJ(a:Int)(g:Nat):(a/(g:Int)).natAbs≤a.natAbs∨¬(g:Int)∣a:=by
 by_cases h:(g:Int)∣a
 ·obtain⟨k,rfl⟩:=h
  rcases amA g with h0|h0
  ·grind
  ·rw[anV _ (by omega),aov]
   simp_all [Nat.le_mul_of_pos_left]
 grind
theorem uA{n:Int}{d k:Nat}(hd:d≠0)(h1:szI n≤k)(h2:szI (d:Int)≤k):bdR k (mkRat n d):=by
 unfold bdR
 rw[aoH,aoI,al3 hd,al3 hd]
 constructor
 ·refine alU (dw ?_) h1
  grind [IJ,Nat.gcd_dvd_right,Int.ofNat_dvd_left]
 ·exact alU (dw (by rw[ane,ane];exact Nat.div_le_self _ _)) h2
theorem vS{k:Nat}{a:Rat}(h:bdR k a):bdR k (-a):=by
 refine⟨?_,h.2⟩
 rw[Rat.neg_num,je]
 exact h.1
theorem AW{j k:Nat}{a b:Rat}(ha:bdR j a)(hb:bdR k b):bdR (j+k+1) (a+b):=by
 rw[Rat.add_def']
 have d1:=a.den_pos
 have d2:=b.den_pos
 refine uA (aoj (by omega) (by omega)) (vW (cO ha.1 hb.2) ?_) ?_
 ·rw[Nat.add_comm];exact cO hb.1 ha.2
 ·rw[anb];exact alU (cO ha.2 hb.2) (by omega)
theorem Ub{j k:Nat}{a b:Rat}(ha:bdR j a)(hb:bdR k b):bdR (j+k+1) (a-b):=by grind [aoa,AW,vS]
theorem Ah{j k:Nat}{a b:Rat}(ha:bdR j a)(hb:bdR k b):bdR (j+k) (a*b):=by
 rw[Rat.mul_def']
 have d1:=a.den_pos
 have d2:=b.den_pos
 refine uA (aoj (by omega) (by omega)) (cO ha.1 hb.1) ?_
 exact cO ha.2 hb.2
theorem T6{k:Nat}{a:Rat}(h:bdR k a)(h0:a≠0):bdR k a⁻¹:=by
 have hn:a.num≠0:=fun e=>h0 (Rat.num_eq_zero.1 e)
 rw[Rat.inv_def]
 rcases anz hn with h1|h1
 ·rw[←Rat.neg_divInt_neg,show-a.num=(((-a.num).toNat:Nat):Int) by omega,an5]
  refine uA (by omega) (by rw[je];exact h.2) ?_
  rw[show(((-a.num).toNat:Nat):Int)= -a.num by omega,je]
  exact h.1
 ·rw[show a.num=((a.num.toNat:Nat):Int) by omega,an5]
  refine uA (by omega) h.2 ?_
  rw[show((a.num.toNat:Nat):Int)=a.num by omega]
  exact h.1
theorem Vp{j k:Nat}{a b:Rat}(ha:bdR j a)(hb:bdR k b)(h0:b≠0):bdR (j+k) (a/b):=by grind [Ah,T6]
def fi(x y:BI):BR:=am (Rat.divInt (ae x) (ae y))
def jK(x y:BI):Prop:=okI x∧okI y∧ae y≠0
instance (x y:BI):Decidable (jK x y):=by unfold jK;infer_instance
theorem n7{n d:Int}(hd:0<d):am (Rat.divInt n d)=(ai (n/(Int.gcd n d:Int)),ai (d/(Int.gcd n d:Int))):=by
 obtain⟨D,rfl⟩:=amO (amn hd)
 unfold am
 rw[an5,aoH,aoI,al3 (by omega),al3 (by omega)]
 have e:Int.gcd n (D:Int)=D.gcd n.natAbs:=by rw[anN];rfl
 grind
def uM:ef:=spN true false [y2Y] (fun x=>decide (okI x.1)) (fun x=>[RV.d aoX (cr (ae x.1) 0)])
theorem pN:SpK 83 uM:=spX fun x h=>TU x.1 (alI h)
def ri:ef:=spN true false [y2Y,y2Y] (fun x=>decide (okI x.1∧okI x.2.1)) (fun x=>[RV.d aoX (cr (ae x.1) (ae x.2.1))])
theorem mY:SpK 172 ri:=spX fun x h=>HX x.1 x.2.1 (alI h)
def uX:ef:=spN false false [y2Y] (fun x=>decide (okI x.1)) (fun x=>[RV.d y2Y (ai (-ae x.1))])
theorem pB:SpK 216 uX:=spX fun x h=>I0 x.1 (alI h)
def uZ:ef:=spN false false [y2Y,y2Y] (fun x=>decide (okI x.1∧okI x.2.1)) (fun x=>[RV.d y2Y (ai (ae x.1*ae x.2.1))])
theorem oV:SpK 173 uZ:=spX fun x h=>Jr x.1 x.2.1 (alI h)
def Az:ef:=spN false false [y2Y,y2Y] (fun x=>decide (fp x.1 x.2.1)) (fun x=>[RV.d y2Y (ai (ae x.1/ae x.2.1)),RV.d y2Y (ai (ae x.1%ae x.2.1)),RV.d aoX 0])
theorem xo:SpK 341 Az:=spX fun x h=>HU x.1 x.2.1 (alI h)
def GH:ef:=spN false false [y2Y,y2Y] (fun x=>decide (okI x.1∧okI x.2.1)) (fun x=>[RV.d y2Y (ai ((Int.gcd (ae x.1) (ae x.2.1):Nat):Int))])
theorem DF:SpK 301 GH:=spX fun x h=>Uo x.1 x.2.1 (alI h)
def FV:Env:=[(210,oS),(83,uM),(172,ri),(215,oI),(216,uX),(173,uZ),(341,Az),(301,GH)]
theorem zB:EnvAll Tryz.prog FV:=⟨lg,pN,mY,kZ,pB,oV,xo,DF,trivial⟩
def ai0:Ctx:=CX FV []
def XV(_k:KT):Option (List RV):=og (decide (aH (1:Int))) (some [RV.d y2Y (ai (1:Int))])
theorem ahm:RS ai0 299 [] (XV):=rsX
def ah8:Ctx:=CX FV []
def XP(x y:Bool×List Int)(_k:KT):Option (List RV):=og (decide (fp x y)) (some [RV.d y2Y (ai (ae x/ae y))])
theorem afU(x y:Bool×List Int):RS ah8 302 [.d y2Y x,.d y2Y y] (XP x y):=rsX
theorem UI:Con Tryz.prog 299 [] [.d y2Y (ai 1)]:=by
 refine fK zB (ahm ⟨0,?_⟩)
 unfold XV
 rw[alF (show aH 1 by decide)]
theorem VA(x y:BI)(h:fp x y):Con Tryz.prog 302 [.d y2Y x,.d y2Y y] [.d y2Y (ai (ae x/ae y))]:=by
 refine fK zB (afU _ _ ⟨0,?_⟩)
 unfold XP
 rw[alF h]
def xq:ef:=spN false false [] (fun _=>true) (fun _=>[RV.d y2Y (ai 1)])
theorem sI:SpK 299 xq:=spX fun _ _=>UI
def Sj:ef:=spN false false [y2Y,y2Y] (fun x=>decide (fp x.1 x.2.1)) (fun x=>[RV.d y2Y (ai (ae x.1/ae x.2.1))])
theorem QA:SpK 302 Sj:=spX fun x h=>VA x.1 x.2.1 (alI h)
def QF:Env:=[(210,oS),(83,uM),(172,ri),(215,oI),(216,uX),(173,uZ),(341,Az),(301,GH),(299,xq),(302,Sj)]
theorem Ky:EnvAll Tryz.prog QF:=⟨lg,pN,mY,kZ,pB,oV,xo,DF,sI,QA,trivial⟩
def aiE:Ctx:=CX QF []
def ZN(x y:Bool×List Int)(_k:KT):Option (List RV):=match decide (okI y)with|true=>(match decide ((cr (ae y) 0)<0)with|true=>(match decide (okI x)with|true=>(match decide (okI y)with|true=>(match decide (okI (ai (-ae x))∧okI (ai (-ae y)))with|true=>(match decide (okI (ai ((Int.gcd (ae (ai (-ae x))) (ae (ai (-ae y))):Nat):Int))∧okI (ai 1))with|true=>(match(cr (ae (ai ((Int.gcd (ae (ai (-ae x))) (ae (ai (-ae y))):Nat):Int))) (ae (ai 1))) !=0 with|true=>(match decide (fp (ai (-ae x)) (ai ((Int.gcd (ae (ai (-ae x))) (ae (ai (-ae y))):Nat):Int)))with|true=>(match decide (fp (ai (-ae y)) (ai ((Int.gcd (ae (ai (-ae x))) (ae (ai (-ae y))):Nat):Int)))with|true=>some [RV.d (.st (.pair y2Y y2Y)) ((ai (ae (ai (-ae x))/ae (ai ((Int.gcd (ae (ai (-ae x))) (ae (ai (-ae y))):Nat):Int)))),(ai (ae (ai (-ae y))/ae (ai ((Int.gcd (ae (ai (-ae x))) (ae (ai (-ae y))):Nat):Int)))))]|false=>none)|false=>none)|false=>some [RV.d (.st (.pair y2Y y2Y)) ((ai (-ae x)),(ai (-ae y)))])|false=>none)|false=>none)|false=>none)|false=>none)|false=>(match decide (okI x∧okI y)with|true=>(match decide (okI (ai ((Int.gcd (ae x) (ae y):Nat):Int))∧okI (ai 1))with|true=>(match(cr (ae (ai ((Int.gcd (ae x) (ae y):Nat):Int))) (ae (ai 1))) !=0 with|true=>(match decide (fp x (ai ((Int.gcd (ae x) (ae y):Nat):Int)))with|true=>(match decide (fp y (ai ((Int.gcd (ae x) (ae y):Nat):Int)))with|true=>some [RV.d (.st (.pair y2Y y2Y)) ((ai (ae x/ae (ai ((Int.gcd (ae x) (ae y):Nat):Int)))),(ai (ae y/ae (ai ((Int.gcd (ae x) (ae y):Nat):Int)))))]|false=>none)|false=>none)|false=>some [RV.d (.st (.pair y2Y y2Y)) (x,y)])|false=>none)|false=>none))|false=>none
theorem ai3(x y:Bool×List Int):RS aiE 214 [.d y2Y x,.d y2Y y] (ZN x y):=rsX
theorem Qf{a b:Int}(hb:b≠0){k:Nat}(h:szI b≤k):szI ((Int.gcd a b:Nat):Int)≤k:=by
 refine alU (dw ?_) h
 exact Nat.le_of_dvd (by omega) (Nat.gcd_dvd_right a.natAbs b.natAbs)
theorem UW(x y:BI)(h:jK x y):Con Tryz.prog 214 [.d y2Y x,.d y2Y y] [.d (.st (.pair y2Y y2Y)) (fi x y)]:=by
 refine fK Ky (ai3 _ _ ⟨0,?_⟩)
 obtain⟨hx,hy,hne⟩:=h
 have sx:=iS hx
 have sy:=iS hy
 have hgp:0<Int.gcd (ae x) (ae y):=Nat.pos_of_ne_zero fun e=>hne (Int.gcd_eq_zero_iff.1 e).2
 have hgs:=Qf (a:=ae x) hne sy
 unfold ZN fi
 rw[alF hy]
 dsimp only
 rcases anz hne with hn|hn
 ·rw[c8 hn,alF (show(-1:Int)<0 by decide),alF hx]
  have o1:okI (ai (-ae x)):=aU (by rw[je];exact sx)
  have o2:okI (ai (-ae y)):=aU (by rw[je];exact sy)
  simp only[dec_enc,Int.gcd_neg,Int.neg_gcd]
  have og:okI (ai ((Int.gcd (ae x) (ae y):Nat):Int)):=aU hgs
  rw[alF (show okI (ai (-ae x))∧okI (ai (-ae y)) from⟨o1,o2⟩),alF (show okI (ai ((Int.gcd (ae x) (ae y):Nat):Int))∧okI (ai 1) from⟨og,qs⟩)]
  rw[←Rat.neg_divInt_neg,n7 (by omega),Int.gcd_neg,Int.neg_gcd]
  dsimp only
  by_cases h1:Int.gcd (ae x) (ae y)=1
  ·rw[h1]
   simp[dX]
  ·have hc:(cr ((Int.gcd (ae x) (ae y):Nat):Int) 1 !=0)=true:=by
    rw[cM (by omega)];rfl
   rw[hc,alF (show fp (ai (-ae x)) (ai ((Int.gcd (ae x) (ae y):Nat):Int)) from⟨o1,og,by rw[dec_enc];omega⟩),alF (show fp (ai (-ae y)) (ai ((Int.gcd (ae x) (ae y):Nat):Int)) from⟨o2,og,by rw[dec_enc];omega⟩)]
 ·rw[cM hn,alH (show ¬(1:Int)<0 by decide)]
  simp only[dec_enc]
  have og:okI (ai ((Int.gcd (ae x) (ae y):Nat):Int)):=aU hgs
  rw[alF (show okI x∧okI y from⟨hx,hy⟩),alF (show okI (ai ((Int.gcd (ae x) (ae y):Nat):Int))∧okI (ai 1) from⟨og,qs⟩),n7 hn]
  dsimp only
  by_cases h1:Int.gcd (ae x) (ae y)=1
  ·rw[h1]
   simp only[Int.natCast_one,dX,Int.ediv_one,←iv hx,←iv hy]
   rfl
  ·have hc:(cr ((Int.gcd (ae x) (ae y):Nat):Int) 1 !=0)=true:=by
    rw[cM (by omega)];rfl
   rw[hc,alF (show fp x (ai ((Int.gcd (ae x) (ae y):Nat):Int)) from⟨hx,og,by rw[dec_enc];omega⟩),alF (show fp y (ai ((Int.gcd (ae x) (ae y):Nat):Int)) from⟨hy,og,by rw[dec_enc];omega⟩)]
def aG(a b:Rat):Int:=bif decide (a<b)then-1 else bif decide (b<a)then 1 else 0
theorem dE{a b:Rat}(h:a<b):aG a b= -1:=by grind [aG]
theorem dq{a b:Rat}(h:b<a):aG a b=1:=by grind [aG]
theorem d7(a:Rat):aG a a=0:=by simp[aG]
theorem xj(a b:Rat):cr (a.num*(b.den:Int)) (b.num*(a.den:Int))=aG a b:=by simp[cr,aG,Rat.lt_iff]
theorem uz(a:Rat):cr a.num 0=aG a 0:=by
 rw[←xj]
 simp
def Ce:ef:=spN false false [y2Y,y2Y] (fun x=>decide (jK x.1 x.2.1)) (fun x=>[RV.d (.st (.pair y2Y y2Y)) (fi x.1 x.2.1)])
theorem xC:SpK 214 Ce:=spX fun x h=>UW x.1 x.2.1 (alI h)
def acR:NT:=[((171,3),{keep:=[0,1,8],hl:=0}),((171,5),{keep:=[0,1,5,10],hl:=0})]
def agD:Ctx:=CX [] acR
def YJ(x y:Int)(_k:KT):Option (List RV):=match x !=x with|true=>(match y !=y with|true=>some [RV.d aoX 0]|false=>some [RV.d aoX (-1)])|false=>(match y !=y with|true=>some [RV.d aoX 1]|false=>(match decide (x<y)with|true=>some [RV.d aoX (-1)]|false=>(match decide (x>y)with|true=>some [RV.d aoX 1]|false=>some [RV.d aoX 0])))
theorem aiR(x y:Int):RS agD 171 [SI x,SI y] (YJ x y):=rsX
theorem Uq(x y:Int):Con Tryz.prog 171 [.d aoX x,.d aoX y] [.d aoX (cr x y)]:=by
 refine fK (E:=[]) trivial (aiR _ _ ⟨0,?_⟩)
 unfold YJ
 rw[show(x !=x)=false by simp,show(y !=y)=false by simp]
 dsimp only
 rcases Int.lt_trichotomy x y with h|h|h
 ·rw[c8 h,alF h]
 ·subst h;rw[dX,alH (show ¬x<x by omega)]
 ·rw[cM h,alH (show ¬x<y by omega),alF (show x>y from h)]
def A7:ef:=spN true false [aoX,aoX] (fun _=>true) (fun x=>[RV.d aoX (cr x.1 x.2.1)])
theorem wD:SpK 171 A7:=spX fun x _=>Uq x.1 x.2.1
def GB:Env:=[(210,oS),(83,uM),(172,ri),(215,oI),(216,uX),(173,uZ),(299,xq),(214,Ce),(171,A7)]
theorem yY:EnvAll Tryz.prog GB:=⟨lg,pN,mY,kZ,pB,oV,sI,xC,wD,trivial⟩
def aiI:Ctx:=CX GB []
def ahb(x:Bool×List Int)(_k:KT):Option (List RV):=some [RV.d (.st (.pair y2Y y2Y)) (x,(ai 1))]
theorem aet(x:Bool×List Int):RS aiI 209 [.d y2Y x] (ahb x):=rsX
theorem SU(x:BI):Con Tryz.prog 209 [.d y2Y x] [.d (.st (.pair y2Y y2Y)) (x,ai 1)]:=
 fK yY (aet _ ⟨0,rfl⟩)
def EW:ef:=spN false false [y2Y] (fun _=>true) (fun x=>[RV.d (.st (.pair y2Y y2Y)) (x.1,ai 1)])
theorem CA:SpK 209 EW:=spX fun x _=>SU x.1
def agG:Ctx:=CX GB []
def Xy(a:(Bool×List Int)×Bool×List Int)(_k:KT):Option (List RV):=og (decide (okI a.1)) (some [RV.d aoX (cr (ae a.1) 0)])
theorem agb(a:(Bool×List Int)×Bool×List Int):RS agG 41 [.d (.st (.pair y2Y y2Y)) a] (Xy a):=rsX
theorem Ir(a:BR)(h:okR a):Con Tryz.prog 41 [.d (.st (.pair y2Y y2Y)) a] [.d aoX (aG (ah a) 0)]:=by
 refine fK yY (agb _ ⟨0,?_⟩)
 unfold Xy
 rw[alF h.1,←uz,(cN h).1]
def Gc:ef:=spN true false [(.st (.pair y2Y y2Y))] (fun x=>decide (okR x.1)) (fun x=>[RV.d aoX (aG (ah x.1) 0)])
theorem D9:SpK 41 Gc:=spX fun x h=>Ir x.1 (alI h)
def n4:Env:=[(210,oS),(83,uM),(172,ri),(215,oI),(216,uX),(173,uZ),(299,xq),(214,Ce),(171,A7),(209,EW),(41,Gc)]
theorem iL:EnvAll Tryz.prog n4:=⟨lg,pN,mY,kZ,pB,oV,sI,xC,wD,CA,D9,trivial⟩
def afg:Ctx:=CX n4 []
def Wr(n:Int)(_k:KT):Option (List RV):=og (decide (aH n)) (some [RV.d (.st (.pair y2Y y2Y)) ((ai n),(ai 1))])
theorem agJ(n:Int):RS afg 99 [SI n] (Wr n):=rsX
def ag2:Ctx:=CX n4 []
def W2(a b:(Bool×List Int)×Bool×List Int)(_k:KT):Option (List RV):=match decide (okR a)with|true=>(match decide (okR b)with|true=>(match(cr (aG (ah a) 0) (aG (ah b) 0)) !=0 with|true=>some [RV.d aoX (cr (aG (ah a) 0) (aG (ah b) 0))]|false=>(match decide (okI a.1∧okI b.2)with|true=>(match decide (okI b.1∧okI a.2)with|true=>(match decide (okI (ai (ae a.1*ae b.2))∧okI (ai (ae b.1*ae a.2)))with|true=>some [RV.d aoX (cr (ae (ai (ae a.1*ae b.2))) (ae (ai (ae b.1*ae a.2))))]|false=>none)|false=>none)|false=>none))|false=>none)|false=>none
theorem ad8(a b:(Bool×List Int)×Bool×List Int):RS ag2 73 [.d (.st (.pair y2Y y2Y)) a,.d (.st (.pair y2Y y2Y)) b] (W2 a b):=rsX
def afP:Ctx:=CX n4 []
def ZY(a b:(Bool×List Int)×Bool×List Int)(_k:KT):Option (List RV):=match decide (okI a.2∧okI b.2)with|true=>(match(cr (ae a.2) (ae b.2))==0 with|true=>(match decide (okI a.1∧okI b.1)with|true=>(match decide (jK (ai (ae a.1+ae b.1)) a.2)with|true=>some [RV.d (.st (.pair y2Y y2Y)) (((fi (ai (ae a.1+ae b.1)) a.2).1),((fi (ai (ae a.1+ae b.1)) a.2).2))]|false=>none)|false=>none)|false=>(match decide (okI a.1∧okI b.2)with|true=>(match decide (okI b.1∧okI a.2)with|true=>(match decide (okI (ai (ae a.1*ae b.2))∧okI (ai (ae b.1*ae a.2)))with|true=>(match decide (okI a.2∧okI b.2)with|true=>(match decide (jK (ai (ae (ai (ae a.1*ae b.2))+ae (ai (ae b.1*ae a.2)))) (ai (ae a.2*ae b.2)))with|true=>some [RV.d (.st (.pair y2Y y2Y)) (((fi (ai (ae (ai (ae a.1*ae b.2))+ae (ai (ae b.1*ae a.2)))) (ai (ae a.2*ae b.2))).1),((fi (ai (ae (ai (ae a.1*ae b.2))+ae (ai (ae b.1*ae a.2)))) (ai (ae a.2*ae b.2))).2))]|false=>none)|false=>none)|false=>none)|false=>none)|false=>none))|false=>none
theorem aiF(a b:(Bool×List Int)×Bool×List Int):RS afP 107 [.d (.st (.pair y2Y y2Y)) a,.d (.st (.pair y2Y y2Y)) b] (ZY a b):=rsX
def ahD:Ctx:=CX n4 []
def Yc(a:(Bool×List Int)×Bool×List Int)(_k:KT):Option (List RV):=og (decide (okI a.1)) (some [RV.d (.st (.pair y2Y y2Y)) ((ai (-ae a.1)),a.2)])
theorem agj(a:(Bool×List Int)×Bool×List Int):RS ahD 109 [.d (.st (.pair y2Y y2Y)) a] (Yc a):=rsX
def aeA:Ctx:=CX n4 []
def Y7(a b:(Bool×List Int)×Bool×List Int)(_k:KT):Option (List RV):=og (decide (okI a.1∧okI b.1)) (og (decide (okI a.2∧okI b.2)) (og (decide (jK (ai (ae a.1*ae b.1)) (ai (ae a.2*ae b.2)))) (some [RV.d (.st (.pair y2Y y2Y)) (((fi (ai (ae a.1*ae b.1)) (ai (ae a.2*ae b.2))).1),((fi (ai (ae a.1*ae b.1)) (ai (ae a.2*ae b.2))).2))])))
theorem aeX(a b:(Bool×List Int)×Bool×List Int):RS aeA 108 [.d (.st (.pair y2Y y2Y)) a,.d (.st (.pair y2Y y2Y)) b] (Y7 a b):=rsX
def afW:Ctx:=CX n4 []
def YV(a b:(Bool×List Int)×Bool×List Int)(_k:KT):Option (List RV):=match decide (okR b)with|true=>(match(aG (ah b) 0)==0 with|true=>some [RV.d (.st (.pair y2Y y2Y)) ((false,[]),(false,[])),RV.d aoX 6]|false=>(match decide (okI a.1∧okI b.2)with|true=>(match decide (okI a.2∧okI b.1)with|true=>(match decide (jK (ai (ae a.1*ae b.2)) (ai (ae a.2*ae b.1)))with|true=>some [RV.d (.st (.pair y2Y y2Y)) (((fi (ai (ae a.1*ae b.2)) (ai (ae a.2*ae b.1))).1),((fi (ai (ae a.1*ae b.2)) (ai (ae a.2*ae b.1))).2)),RV.d aoX 0]|false=>none)|false=>none)|false=>none))|false=>none
theorem ae4(a b:(Bool×List Int)×Bool×List Int):RS afW 305 [.d (.st (.pair y2Y y2Y)) a,.d (.st (.pair y2Y y2Y)) b] (YV a b):=rsX
theorem S3(n:Int)(h:aH n):Con Tryz.prog 99 [.d aoX n] [.d (.st (.pair y2Y y2Y)) (am (n:Rat))]:=by
 refine fK iL (agJ _ ⟨0,?_⟩)
 unfold Wr am
 rw[alF h,Rat.num_intCast,Rat.den_intCast]
 rfl
theorem ga{a:BR}(h:okR a):szI (ae a.1)≤480000∧szI (ae a.2)≤480000:=by
 have h1:=BM h
 grind [cN,bdR]
theorem JL(a b:Rat):(cr (aG a 0) (aG b 0)≠0→cr (aG a 0) (aG b 0)=aG a b):=by
 rcases(by grind:a<0∨a=0∨0<a)with h1|h1|h1<;>rcases(by grind:b<0∨b=0∨0<b)with h2|h2|h2
 ·grind [dE,dX]
 ·rw[dE h1,h2,d7,dE h1];intro;rfl
 ·rw[dE h1,dq h2,dE (by grind)];intro;rfl
 ·rw[h1,d7,dE h2,dq h2];intro;rfl
 ·grind [d7,dX]
 ·rw[h1,d7,dq h2,dE h2];intro;rfl
 ·rw[dq h1,dE h2,dq (by grind)];intro;rfl
 ·rw[dq h1,h2,d7,dq h1];intro;rfl
 grind [dq,dX]
theorem Vz(a b:BR)(h:okR a∧okR b):Con Tryz.prog 73 [.d (.st (.pair y2Y y2Y)) a,.d (.st (.pair y2Y y2Y)) b] [.d aoX (aG (ah a) (ah b))]:=by
 refine fK iL (ad8 _ _ ⟨0,?_⟩)
 obtain⟨ha,hb⟩:=h
 obtain⟨a1,a2⟩:=cN ha
 obtain⟨b1,b2⟩:=cN hb
 obtain⟨sa1,sa2⟩:=ga ha
 obtain⟨sb1,sb2⟩:=ga hb
 have h1:=cO sa1 sb2
 have h2:=cO sb1 sa2
 unfold W2
 rw[alF ha,alF hb]
 dsimp only
 have hs:=JL (ah a) (ah b)
 by_cases hc:cr (aG (ah a) 0) (aG (ah b) 0)=0
 ·rw[hc,alF (show okI a.1∧okI b.2 from⟨ha.1,hb.2.1⟩),alF (show okI b.1∧okI a.2 from⟨hb.1,ha.2.1⟩),alF (show okI (ai (ae a.1*ae b.2))∧okI (ai (ae b.1*ae a.2)) from⟨aU (by omega),aU (by omega)⟩),dec_enc,dec_enc,←a1,←a2,←b1,←b2,xj]
  rfl
 ·rw[show(cr (aG (ah a) 0) (aG (ah b) 0) !=0)=true by simpa using hc,hs hc]
theorem HI(a:BR)(h:okR a):Con Tryz.prog 109 [.d (.st (.pair y2Y y2Y)) a] [.d (.st (.pair y2Y y2Y)) (am (-ah a))]:=by
 refine fK iL (agj _ ⟨0,?_⟩)
 obtain⟨a1,a2⟩:=cN h
 unfold Yc
 have e:am (-ah a)=(ai (-ae a.1),a.2):=by
  unfold am
  rw[Rat.neg_num,a1,show((-ah a).den:Int)=((ah a).den:Int) from rfl,a2,←iv h.2.1]
 rw[alF h.1,e]
theorem IV(a b:BR)(h:okR a∧okR b):Con Tryz.prog 107 [.d (.st (.pair y2Y y2Y)) a,.d (.st (.pair y2Y y2Y)) b] [.d (.st (.pair y2Y y2Y)) (am (ah a+ah b))]:=by
 refine fK iL (aiF _ _ ⟨0,?_⟩)
 obtain⟨ha,hb⟩:=h
 obtain⟨a1,a2⟩:=cN ha
 obtain⟨b1,b2⟩:=cN hb
 obtain⟨sa1,sa2⟩:=ga ha
 obtain⟨sb1,sb2⟩:=ga hb
 have pa:=ha.2.2.1
 have pb:=hb.2.2.1
 have h1:=cO sa1 sb2
 have h2:=cO sb1 sa2
 have h3:=cO sa2 sb2
 have h4:=vW h1 h2
 have h5:=vW sa1 sb1
 have hda:ah a=Rat.divInt (ae a.1) (ae a.2):=by rw[←a1,←a2,amH]
 have hdb:ah b=Rat.divInt (ae b.1) (ae b.2):=by rw[←b1,←b2,amH]
 unfold ZY
 rw[alF (show okI a.2∧okI b.2 from⟨ha.2.1,hb.2.1⟩)]
 dsimp only
 by_cases hc:ae a.2=ae b.2
 ·rw[hc,dX,alF (show okI a.1∧okI b.1 from⟨ha.1,hb.1⟩)]
  rw[alF (show jK (ai (ae a.1+ae b.1)) a.2 from⟨aU (by omega),ha.2.1,by omega⟩)]
  have e:fi (ai (ae a.1+ae b.1)) a.2=am (ah a+ah b):=by
   unfold fi
   rw[dec_enc,hda,hdb,←hc,Rat.divInt_eq_div,Rat.divInt_eq_div,Rat.divInt_eq_div,Rat.intCast_add]
   congr 1
   grind
  rw[e]
  rfl
 ·have hcm:(cr (ae a.2) (ae b.2)==0)=false:=by
   rcases anz hc with h|h
   ·rw[c8 h];rfl
   ·rw[cM h];rfl
  rw[hcm,alF (show okI a.1∧okI b.2 from⟨ha.1,hb.2.1⟩),alF (show okI b.1∧okI a.2 from⟨hb.1,ha.2.1⟩),alF (show okI (ai (ae a.1*ae b.2))∧okI (ai (ae b.1*ae a.2)) from⟨aU (by omega),aU (by omega)⟩)]
  simp only[dec_enc]
  rw[alF (show jK (ai (ae a.1*ae b.2+ae b.1*ae a.2)) (ai (ae a.2*ae b.2)) from⟨aU (by omega),aU (by omega),by rw[dec_enc];exact aok (by omega) (by omega)⟩)]
  have e:fi (ai (ae a.1*ae b.2+ae b.1*ae a.2)) (ai (ae a.2*ae b.2))=am (ah a+ah b):=by
   unfold fi
   rw[dec_enc,dec_enc,hda,hdb,Rat.divInt_add_divInt _ _ (by omega) (by omega)]
  rw[e]
theorem TP(a b:BR)(h:okR a∧okR b):Con Tryz.prog 108 [.d (.st (.pair y2Y y2Y)) a,.d (.st (.pair y2Y y2Y)) b] [.d (.st (.pair y2Y y2Y)) (am (ah a*ah b))]:=by
 refine fK iL (aeX _ _ ⟨0,?_⟩)
 obtain⟨ha,hb⟩:=h
 obtain⟨a1,a2⟩:=cN ha
 obtain⟨b1,b2⟩:=cN hb
 obtain⟨sa1,sa2⟩:=ga ha
 obtain⟨sb1,sb2⟩:=ga hb
 have pa:=ha.2.2.1
 have pb:=hb.2.2.1
 have h1:=cO sa1 sb1
 have h3:=cO sa2 sb2
 have hda:ah a=Rat.divInt (ae a.1) (ae a.2):=by rw[←a1,←a2,amH]
 have hdb:ah b=Rat.divInt (ae b.1) (ae b.2):=by rw[←b1,←b2,amH]
 unfold Y7
 rw[alF (show okI a.1∧okI b.1 from⟨ha.1,hb.1⟩),alF (show okI a.2∧okI b.2 from⟨ha.2.1,hb.2.1⟩),alF (show jK (ai (ae a.1*ae b.1)) (ai (ae a.2*ae b.2)) from⟨aU (by omega),aU (by omega),by rw[dec_enc];exact aok (by omega) (by omega)⟩)]
 have e:fi (ai (ae a.1*ae b.1)) (ai (ae a.2*ae b.2))=am (ah a*ah b):=by
  unfold fi
  rw[dec_enc,dec_enc,hda,hdb,aol]
 rw[e]
def ij(a b:BR):Prop:=okR a∧okR b∧ae b.1≠0
instance (a b:BR):Decidable (ij a b):=by unfold ij;infer_instance
theorem Ve(a b:BR)(h:ij a b):Con Tryz.prog 305 [.d (.st (.pair y2Y y2Y)) a,.d (.st (.pair y2Y y2Y)) b] [.d (.st (.pair y2Y y2Y)) (am (ah a/ah b)),.d aoX 0]:=by
 refine fK iL (ae4 _ _ ⟨0,?_⟩)
 obtain⟨ha,hb,hne⟩:=h
 obtain⟨a1,a2⟩:=cN ha
 obtain⟨b1,b2⟩:=cN hb
 obtain⟨sa1,sa2⟩:=ga ha
 obtain⟨sb1,sb2⟩:=ga hb
 have pa:=ha.2.2.1
 have h1:=cO sa1 sb2
 have h3:=cO sa2 sb1
 have hda:ah a=Rat.divInt (ae a.1) (ae a.2):=by rw[←a1,←a2,amH]
 have hdb:ah b=Rat.divInt (ae b.1) (ae b.2):=by rw[←b1,←b2,amH]
 have hnz:(aG (ah b) 0==0)=false:=by
  rw[←uz,b1]
  rcases anz hne with h|h
  ·rw[c8 h];rfl
  ·rw[cM h];rfl
 unfold YV
 rw[alF hb,hnz,alF (show okI a.1∧okI b.2 from⟨ha.1,hb.2.1⟩),alF (show okI a.2∧okI b.1 from⟨ha.2.1,hb.1⟩),alF (show jK (ai (ae a.1*ae b.2)) (ai (ae a.2*ae b.1)) from⟨aU (by omega),aU (by omega),by rw[dec_enc];exact aok (by omega) hne⟩)]
 have e:fi (ai (ae a.1*ae b.2)) (ai (ae a.2*ae b.1))=am (ah a/ah b):=by
  unfold fi
  rw[dec_enc,dec_enc,hda,hdb,aom,Rat.inv_divInt,aol]
 rw[e]
def Pd:ef:=spN false false [(.st (.pair y2Y y2Y)),(.st (.pair y2Y y2Y))] (fun x=>decide (okR x.1∧okR x.2.1)) (fun x=>[RV.d (.st (.pair y2Y y2Y)) (am (ah x.1+ah x.2.1))])
theorem QS:SpK 107 Pd:=spX fun x h=>IV x.1 x.2.1 (alI h)
def NG:ef:=spN false false [(.st (.pair y2Y y2Y))] (fun x=>decide (okR x.1)) (fun x=>[RV.d (.st (.pair y2Y y2Y)) (am (-ah x.1))])
theorem QM:SpK 109 NG:=spX fun x h=>HI x.1 (alI h)
def Hj:Env:=[(210,oS),(83,uM),(172,ri),(215,oI),(216,uX),(173,uZ),(299,xq),(214,Ce),(171,A7),(209,EW),(41,Gc),(107,Pd),(109,NG)]
theorem FW:EnvAll Tryz.prog Hj:=⟨lg,pN,mY,kZ,pB,oV,sI,xC,wD,CA,D9,QS,QM,trivial⟩
def af5:Ctx:=CX Hj []
def Xt(a b:(Bool×List Int)×Bool×List Int)(_k:KT):Option (List RV):=match decide (okR b)with|true=>(match decide (okR a∧okR (am (-ah b)))with|true=>some [RV.d (.st (.pair y2Y y2Y)) (((am (ah a+ah (am (-ah b)))).1),((am (ah a+ah (am (-ah b)))).2))]|false=>none)|false=>none
theorem agV(a b:(Bool×List Int)×Bool×List Int):RS af5 106 [.d (.st (.pair y2Y y2Y)) a,.d (.st (.pair y2Y y2Y)) b] (Xt a b):=rsX
theorem VK(a b:BR)(h:okR a∧okR b):Con Tryz.prog 106 [.d (.st (.pair y2Y y2Y)) a,.d (.st (.pair y2Y y2Y)) b] [.d (.st (.pair y2Y y2Y)) (am (ah a-ah b))]:=by
 refine fK FW (agV _ _ ⟨0,?_⟩)
 obtain⟨ha,hb⟩:=h
 unfold Xt
 rw[alF hb,cA,aoa,alF (show okR a∧okR (am (-ah b)) from⟨ha,pU (vS (BM hb)) (alL _)⟩)]
section
namespace RL
theorem kr{x y B e:Rat}(h1:x<B)(h2: -B<x)(h3:y<e)(h4: -e<y):x*y<B*e:=by
 have p:=amy (a:=B-x) (b:=e+y) (by grind) (by grind)
 have q:=amy (a:=B+x) (b:=e-y) (by grind) (by grind)
 grind
theorem YB{e:Rat}(h:0<e):0<e/2:=by grind
theorem zw{e B:Rat}(h:0<e)(hB:0<B):∃d,0<d∧B*d+B*d<e:=by
 refine⟨e/(4*B),?_,?_⟩
 ·exact amy h (Rat.inv_pos.2 (by grind))
 ·have:B*(e/(4*B))=e/4:=by grind
  grind
structure CS where
 f:Nat→Rat
 cau:∀e:Rat,0<e→∃N,∀m n,N≤m→N≤n→f m-f n<e
theorem CS.bd(a:CS):∃B:Rat,0<B∧∃N,∀n,N≤n→ -B<a.f n∧a.f n<B:=by
 obtain⟨N,h⟩:=a.cau 1 (by grind)
 refine⟨(if 0≤a.f N then a.f N else-a.f N)+1,?_,N,fun n hn=>?_⟩
 ·split<;>grind
 ·have h1:=h n N hn (alL _)
  have h2:=h N n (alL _) hn
  split<;>grind
def add(a b:CS):CS:=⟨fun n=>a.f n+b.f n,fun e he=>by
 obtain⟨N,h⟩:=a.cau (e/2) (by grind)
 obtain⟨M,h'⟩:=b.cau (e/2) (by grind)
 refine⟨max N M,fun m n hm hn=>?_⟩
 have:=h m n (by omega) (by omega)
 have:=h' m n (by omega) (by omega)
 grind⟩
def neg(a:CS):CS:=⟨fun n=> -a.f n,fun e he=>by
 obtain⟨N,h⟩:=a.cau e he
 exact⟨N,fun m n hm hn=>by have:=h n m hn hm;grind⟩⟩
theorem Nh(a b:CS)(e:Rat)(he:0<e):∃N,∀m n,N≤m→N≤n→a.f m*b.f m-a.f n*b.f n<e:=by
 obtain⟨A,hA,N1,h1⟩:=a.bd
 obtain⟨B,hB,N2,h2⟩:=b.bd
 obtain⟨d,hd,hd'⟩:=zw (e:=e) (B:=A+B) he (by grind)
 obtain⟨N3,h3⟩:=a.cau d hd
 obtain⟨N4,h4⟩:=b.cau d hd
 refine⟨max (max N1 N2) (max N3 N4),fun m n hm hn=>?_⟩
 have a1:=h1 m (by omega)
 have b1:=h2 n (by omega)
 have p:=kr a1.2 a1.1 (h4 m n (by omega) (by omega)) (by have:=h4 n m (by omega) (by omega);grind)
 have q:=kr b1.2 b1.1 (h3 m n (by omega) (by omega)) (by have:=h3 n m (by omega) (by omega);grind)
 have r:=amy hA hd
 have s:=amy hB hd
 grind
def mul(a b:CS):CS:=⟨fun n=>a.f n*b.f n,Nh a b⟩
def eqv(a b:CS):Prop:=∀e:Rat,0<e→∃N,∀n,N≤n→a.f n-b.f n<e∧b.f n-a.f n<e
instance st:Setoid CS where
 r:=eqv
 iseqv:=⟨fun a e he=>⟨0,fun n _=>by grind⟩,fun h e he=>by
   obtain⟨N,h⟩:=h e he
   exact⟨N,fun n hn=>⟨(h n hn).2,(h n hn).1⟩⟩,
  fun h h' e he=>by
   obtain⟨N,h⟩:=h (e/2) (by grind)
   obtain⟨M,h'⟩:=h' (e/2) (by grind)
   refine⟨max N M,fun n hn=>?_⟩
   have:=h n (by omega)
   have:=h' n (by omega)
   grind⟩
def const(q:Rat):CS:=⟨fun _=>q,fun e he=>⟨0,fun m n _ _=>by grind⟩⟩
end RL
def RE:Type:=Quotient RL.st
namespace RE
open RL
def of(q:Rat):RE:=Quotient.mk _ (const q)
theorem aa5(a b a' b':CS)(h:a≈a')(h':b≈b'):add a b≈add a' b':=fun e he=>by
 obtain⟨N,h⟩:=h (e/2) (by grind)
 obtain⟨M,h'⟩:=h' (e/2) (by grind)
 refine⟨max N M,fun n hn=>?_⟩
 have:=h n (by omega)
 have:=h' n (by omega)
 simp only[RL.add]
 grind
theorem acB(a a':CS)(h:a≈a'):neg a≈neg a':=fun e he=>by
 obtain⟨N,h⟩:=h e he
 refine⟨N,fun n hn=>?_⟩
 have:=h n (by omega)
 simp only[RL.neg]
 grind
theorem adw(a b a' b':CS)(h:a≈a')(h':b≈b'):mul a b≈mul a' b':=fun e he=>by
 obtain⟨A,hA,N1,h1⟩:=a.bd
 obtain⟨B,hB,N2,h2⟩:=b'.bd
 obtain⟨d,hd,hd'⟩:=zw (e:=e) (B:=A+B) he (by grind)
 obtain⟨N3,h3⟩:=h d hd
 obtain⟨N4,h4⟩:=h' d hd
 refine⟨max (max N1 N2) (max N3 N4),fun n hn=>?_⟩
 have a1:=h1 n (by omega)
 have b1:=h2 n (by omega)
 have a3:=h3 n (by omega)
 have b3:=h4 n (by omega)
 have p:=kr a1.2 a1.1 (y:=b.f n-b'.f n) b3.1 (by grind)
 have q:=kr b1.2 b1.1 (y:=a.f n-a'.f n) a3.1 (by grind)
 have p':=kr a1.2 a1.1 (y:=b'.f n-b.f n) b3.2 (by grind)
 have q':=kr b1.2 b1.1 (y:=a'.f n-a.f n) a3.2 (by grind)
 have r:=amy hA hd
 have s:=amy hB hd
 simp only[RL.mul]
 constructor<;>grind
instance:Add RE:=⟨Quotient.lift₂ (fun a b=>Quotient.mk _ (add a b)) (fun _ _ _ _ h h'=>aow (aa5 _ _ _ _ h h'))⟩
instance:Neg RE:=⟨Quotient.lift (fun a=>Quotient.mk _ (neg a)) (fun _ _ h=>aow (acB _ _ h))⟩
instance:Sub RE:=⟨fun a b=>a+ -b⟩
instance:Mul RE:=⟨Quotient.lift₂ (fun a b=>Quotient.mk _ (mul a b)) (fun _ _ _ _ h h'=>aow (adw _ _ _ _ h h'))⟩
theorem snd{a b:CS}(h:∀n,a.f n=b.f n):(Quotient.mk st a:RE)=Quotient.mk st b:=
 aow fun e he=>⟨0,fun n _=>by rw[h n];grind⟩
instance (n:Nat):OfNat RE n:=⟨of (OfNat.ofNat n)⟩
theorem of_add(a b:Rat):of (a+b)=of a+of b:=rfl
theorem aF(a b:Rat):of (a*b)=of a*of b:=rfl
theorem of_neg(a:Rat):of (-a)= -of a:=rfl
theorem of_sub(a b:Rat):of (a-b)=of a-of b:=by rw[aoa];rfl
theorem nS:of 0=0:=rfl
theorem As:of 1=1:=rfl
theorem add_zero(a:RE):a+0=a:=by
 induction a using am0;exact snd fun n=>Rat.add_zero _
theorem add_comm(a b:RE):a+b=b+a:=by
 induction a,b using aon;exact snd fun n=>Rat.add_comm _ _
theorem add_assoc(a b c:RE):a+b+c=a+(b+c):=by
 induction a,b,c using anO;exact snd fun n=>Rat.add_assoc _ _ _
theorem mul_assoc(a b c:RE):a*b*c=a*(b*c):=by
 induction a,b,c using anO;exact snd fun n=>Rat.mul_assoc _ _ _
theorem mul_comm(a b:RE):a*b=b*a:=by
 induction a,b using aon;exact snd fun n=>anu _ _
theorem mul_one(a:RE):a*1=a:=by
 induction a using am0;exact snd fun n=>Rat.mul_one _
theorem mul_zero(a:RE):a*0=0:=by
 induction a using am0;exact snd fun n=>Rat.mul_zero _
theorem left_distrib(a b c:RE):a*(b+c)=a*b+a*c:=by
 induction a,b,c using anO;exact snd fun n=>Rat.mul_add _ _ _
theorem vO(a:RE): -a+a=0:=by
 induction a using am0;exact snd fun n=>Rat.neg_add_cancel _
def clt(a b:CS):Prop:=∃e:Rat,0<e∧∃N,∀n,N≤n→a.f n+e<b.f n
theorem Nt(a b a' b':CS)(h:a≈a')(h':b≈b')(hl:clt a b):clt a' b':=by
 obtain⟨e,he,N,hl⟩:=hl
 obtain⟨N1,h⟩:=h (e/4) (by grind)
 obtain⟨N2,h'⟩:=h' (e/4) (by grind)
 refine⟨e/2,by grind,max N (max N1 N2),fun n hn=>?_⟩
 have:=hl n (by omega)
 have:=h n (by omega)
 have:=h' n (by omega)
 grind
instance:LT RE:=⟨Quotient.lift₂ clt (fun _ _ _ _ h h'=>propext ⟨Nt _ _ _ _ h h',Nt _ _ _ _ (Setoid.symm h) (Setoid.symm h')⟩)⟩
instance:LE RE:=⟨fun a b=>¬b<a⟩
theorem lt_irrefl(a:RE):¬a<a:=by
 induction a using am0
 rintro ⟨e,he,N,h⟩
 have:=h N (alL _)
 grind
theorem cW{a b c:RE}:a<b→b<c→a<c:=by
 induction a,b,c using anO
 rintro ⟨e,he,N,h⟩ ⟨e',he',N',h'⟩
 refine⟨e,he,max N N',fun n hn=>?_⟩
 have:=h n (by omega)
 have:=h' n (by omega)
 grind
theorem mp(a b:RE):a<b∨a=b∨b<a:=by
 induction a,b using aon
 rename_i a b
 by_cases h1:clt a b
 ·exact .inl h1
 by_cases h2:clt b a
 ·exact .inr (.inr h2)
 refine .inr (.inl (aow fun e he=>?_))
 obtain⟨N,ha⟩:=a.cau (e/4) (by grind)
 obtain⟨M,hb⟩:=b.cau (e/4) (by grind)
 have g1:∃n,max N M≤n∧b.f n≤a.f n+e/4:=by
  apply alW
  intro hc
  exact h1 ⟨e/4,by grind,max N M,fun n hn=>by
   apply alW
   intro h
   exact hc ⟨n,hn,by grind⟩⟩
 have g2:∃n,max N M≤n∧a.f n≤b.f n+e/4:=by
  apply alW
  intro hc
  exact h2 ⟨e/4,by grind,max N M,fun n hn=>by
   apply alW
   intro h
   exact hc ⟨n,hn,by grind⟩⟩
 obtain⟨p,hp,gp⟩:=g1
 obtain⟨q,hq,gq⟩:=g2
 refine⟨max N M,fun n hn=>?_⟩
 have a1:=ha n q (by omega) (by omega)
 have b1:=hb q n (by omega) (by omega)
 have a2:=ha p n (by omega) (by omega)
 have b2:=hb n p (by omega) (by omega)
 constructor<;>grind
theorem ku{a b:RE}(c:RE):a<b→a+c<b+c:=by
 induction a,b,c using anO
 rintro ⟨e,he,N,h⟩
 refine⟨e,he,N,fun n hn=>?_⟩
 have:=h n hn
 simp only[RL.add]
 grind
theorem mul_pos{a b:RE}:0<a→0<b→0<a*b:=by
 induction a,b using aon
 rintro ⟨e,he,N,h⟩ ⟨e',he',N',h'⟩
 refine⟨e*e',amy he he',max N N',fun n hn=>?_⟩
 have h1:=h n (by omega)
 have h2:=h' n (by omega)
 simp only[RL.const]at h1 h2 ⊢
 rename_i a b
 have p:=amy (a:=a.f n-e) (b:=b.f n-e') (by grind) (by grind)
 have q:=amy (a:=a.f n-e) (b:=e') (by grind) (by grind)
 have r:=amy (a:=e) (b:=b.f n-e') (by grind) (by grind)
 simp only[RL.mul]
 grind
theorem iz{a b:Rat}(h:a<b):of a<of b:=⟨(b-a)/2,by grind,0,fun n _=>by simp only[RL.const];grind⟩
end RE
end
section
namespace RE
open RL
theorem AF(a b:RE):a≤b↔¬b<a:=Iff.rfl
theorem le_of_lt{a b:RE}(h:a<b):a≤b:=fun h'=>lt_irrefl a (cW h h')
theorem lt_or_ge(a b:RE):a<b∨b≤a:=by
 by_cases h:a<b
 ·exact .inl h
 ·exact .inr h
theorem le_antisymm{a b:RE}(h1:a≤b)(h2:b≤a):a=b:=by
 rcases mp a b with h|h|h
 ·exact absurd h h2
 ·exact h
 ·exact absurd h h1
theorem le_trans{a b c:RE}(h1:a≤b)(h2:b≤c):a≤c:=fun h=>by
 rcases mp a b with h'|h'|h'
 ·exact h2 (cW h h')
 ·subst h';exact h2 h
 ·exact h1 h'
theorem zero_lt_one:(0:RE)<1:=iz (by decide+kernel:(0:Rat)<1)
theorem lD(a:RE):a+ -a=0:=by rw[add_comm,vO]
theorem jP{a:RE}(h:a<0):0< -a:=by
 have:=ku (-a) h
 rw[lD,add_comm,add_zero]at this
 exact this
theorem Ft{a:RE}(h:0<a): -a<0:=by
 have:=ku (-a) h
 rw[lD,add_comm,add_zero]at this
 exact this
instance:Std.IsLinearOrder RE where
 le_refl a:=lt_irrefl a
 le_trans _ _ _:=le_trans
 le_antisymm _ _:=le_antisymm
 le_total a b:=by
  rcases lt_or_ge a b with h|h
  ·exact .inl (le_of_lt h)
  ·exact .inr h
instance:Std.LawfulOrderLT RE where
 lt_iff a b:=⟨fun h=>⟨le_of_lt h,fun h'=>h' h⟩,fun h=>by
  rcases lt_or_ge a b with h'|h'
  ·exact h'
  ·exact absurd h' h.2⟩
theorem ru{a b:RE}:¬a≤b↔b<a:=⟨fun h=>by
  rcases lt_or_ge b a with h'|h'
  ·exact h'
  ·exact absurd h' h,fun h h'=>h' h⟩
theorem aK{a b:RE}(h:a<b):0<b-a:=by
 have:=ku (-a) h
 rw[lD]at this
 exact this
theorem adW{a b:RE}(h:0<b-a):a<b:=by
 have:=ku a h
 have e:b-a+a=b:=by
  show b+ -a+a=b
  rw[add_assoc,vO,add_zero]
 rw[e,add_comm,add_zero]at this
 exact this
theorem aE{a b:RE}(h:a≤b):0≤b-a:=fun h'=>h (by
 have:=ku a h'
 have e:b-a+a=b:=by
  show b+ -a+a=b
  rw[add_assoc,vO,add_zero]
 rw[e,add_comm,add_zero]at this
 exact this)
theorem iq{a:RE}(h:0≤a):0<a∨a=0:=by
 rcases mp 0 a with h'|h'|h'
 ·exact .inl h'
 ·exact .inr h'.symm
 ·exact absurd h' h
theorem le_refl(a:RE):a≤a:=lt_irrefl a
theorem oa{a b:RE}(h:a=b):a≤b:=by rw[h];exact le_refl _
theorem mM{a b:RE}(h:a=b):b≤a:=by rw[h];exact le_refl _
theorem zero_mul(a:RE):0*a=0:=by rw[mul_comm,mul_zero]
theorem zero_add(a:RE):0+a=a:=by rw[add_comm,add_zero]
theorem one_mul(a:RE):1*a=a:=by rw[mul_comm,mul_one]
theorem bi{a b:RE}(h:0≤a)(h':0≤b):0≤a*b:=by
 rcases iq h with h1|h1
 ·rcases iq h' with h2|h2
  ·exact le_of_lt (mul_pos h1 h2)
  ·rw[h2,mul_zero];exact le_refl _
 ·rw[h1,zero_mul];exact le_refl _
theorem aI{a b:RE}(h:0<a)(h':0≤b):0<a+b:=by
 have:=ku b h
 rw[zero_add]at this
 rcases iq h' with h2|h2
 ·exact cW h2 this
 ·rw[h2,add_zero];exact h
theorem ir(a:RE):0≤a*a:=by
 rcases lt_or_ge a 0 with h|h
 ·have h1:=jP h
  have h2:=mul_pos h1 h1
  have e: -a* -a=a*a:=by
   induction a using am0
   exact snd fun n=>by show-_* -_=_*_;grind
  rw[e]at h2
  exact le_of_lt h2
 ·exact bi h h
instance:NatCast RE:=⟨fun n=>of (n:Rat)⟩
instance:IntCast RE:=⟨fun n=>of (n:Rat)⟩
instance:SMul Nat RE:=⟨fun n a=>of (n:Rat)*a⟩
instance:SMul Int RE:=⟨fun n a=>of (n:Rat)*a⟩
def pw(a:RE):Nat→RE
 |0=>1
 |n+1=>pw a n*a
instance:Pow RE Nat:=⟨pw⟩
instance:Lean.Grind.CommRing RE where
 add_zero:=add_zero
 add_comm:=add_comm
 add_assoc:=add_assoc
 mul_assoc:=mul_assoc
 mul_one:=mul_one
 mul_comm:=mul_comm
 left_distrib:=left_distrib
 mul_zero:=mul_zero
 zero_mul:=zero_mul
 one_mul:=one_mul
 right_distrib a b c:=by rw[mul_comm,left_distrib,mul_comm c,mul_comm c]
 pow_zero _:=rfl
 pow_succ _ _:=rfl
 ofNat_succ n:=by
  show of ((OfNat.ofNat (n+1):Rat))=of ((OfNat.ofNat n:Rat))+of 1
  rw[←of_add]
  congr 1
  show(((n+1:Nat):Rat))=((n:Nat):Rat)+1
  rw[Rat.natCast_add]
  rfl
 ofNat_eq_natCast _:=rfl
 nsmul_eq_natCast_mul _ _:=rfl
 neg_add_cancel:=vO
 sub_eq_add_neg _ _:=rfl
 neg_zsmul i a:=by
  show of ((-i:Int):Rat)*a= -(of (i:Rat)*a)
  rw[aoo,of_neg]
  induction a using am0
  exact snd fun n=>by show-_*_= -(_*_);grind
 zsmul_natCast_eq_nsmul _ _:=rfl
 intCast_ofNat _:=rfl
 intCast_neg i:=by show of _= -of _;rw[aoo,of_neg]
theorem I5{a b c:RE}(h:a<b)(hc:0<c):c*a<c*b:=by
 have h1:=ku (-a) h
 rw[lD]at h1
 have h2:=ku (c*a) (mul_pos hc h1)
 rwa [show c*(b+ -a)+c*a=c*b by grind,zero_add]at h2
instance:Lean.Grind.OrderedRing RE where
 add_le_left_iff {a b} c:=⟨fun h h'=>h (by
   have:=ku (-c) h'
   rw[add_assoc,add_assoc,lD,add_zero,add_zero]at this
   exact this),fun h h'=>h (ku c h')⟩
 zero_lt_one:=zero_lt_one
 mul_lt_mul_of_pos_left:=I5
 mul_lt_mul_of_pos_right {a b c} h hc:=by
  rw[mul_comm a,mul_comm b]
  exact I5 h hc
theorem Jp{c:Rat}(hc:(0:Rat)<c){a:RE}(h:0<a):0<of c*a:=mul_pos (iz hc) h
theorem im{c:Rat}(hc:(0:Rat)<c){a:RE}(h:0≤a):0≤of c*a:=bi (le_of_lt (iz hc)) h
theorem far{s:RE}(h:0<s)(e:s=0):False:=by rw[e]at h;exact lt_irrefl _ h
theorem Uz(x y:RE):((y*y-(x*x)))+((x-(0))*(x-(y)))+((y-(0))*(x-(y)))=0:=by grind
theorem sq_lt(x y:RE)(h1:0≤x)(h2:0≤y)(h3:x*x<y*y):x<y:=ru.1 fun hg=>far (aI (aI (aK h3) (bi (aE h1) (aE hg))) (bi (aE h2) (aE hg))) (Uz x y)
theorem SK(x y:RE):((x-(y))*(x-(y)))+((y*y-(x*x)))+2*((y-(0))*(x-(y)))=0:=by grind
theorem Cq(x y:RE)(_h1:0≤x)(h2:0≤y)(h3:x*x≤y*y):x≤y:=fun hg=>far (aI (aI (mul_pos (aK hg) (aK hg)) (aE h3)) (im (by decide+kernel:(0:Rat)<2) (bi (aE h2) (le_of_lt (aK hg))))) (SK x y)
theorem Jz(x y:RE):((x*x-(y*y)))+2*((x-(0))*(y-(x)))+((y-(x))*(y-(x)))=0:=by grind
theorem sR(x y:RE)(h1:0≤x)(h2:x≤y):x*x≤y*y:=fun hg=>far (aI (aI (aK hg) (im (by decide+kernel:(0:Rat)<2) (bi (aE h1) (aE h2)))) (bi (aE h2) (aE h2))) (Jz x y)
theorem adL(x y:RE):((y-(x))*(y-(x)))+((x*x-(y*y)))+2*((x-(0))*(y-(x)))=0:=by grind
theorem KQ(x y:RE):((x-(y))*(x-(y)))+((y*y-(x*x)))+2*((y-(0))*(x-(y)))=0:=by grind
theorem aao(x y:RE)(_h1:0≤x)(h2:0≤y)(h3:x*x=y*y):x≤y:=fun hg=>far (aI (aI (mul_pos (aK hg) (aK hg)) (aE (oa h3))) (im (by decide+kernel:(0:Rat)<2) (bi (aE h2) (le_of_lt (aK hg))))) (KQ x y)
theorem Ni(x y:RE):((y-(x))*(y-(x)))+((x*x-(y*y)))+2*((x-(0))*(y-(x)))=0:=by grind
theorem ady(x y:RE)(h1:0≤x)(_h2:0≤y)(h3:x*x=y*y):y≤x:=fun hg=>far (aI (aI (mul_pos (aK hg) (aK hg)) (aE (mM h3))) (im (by decide+kernel:(0:Rat)<2) (bi (aE h1) (le_of_lt (aK hg))))) (Ni x y)
theorem Ji(x y:RE)(h1:0≤x)(h2:0≤y)(h3:x*x=y*y):x=y:=le_antisymm (aao x y h1 h2 h3) (ady x y h1 h2 h3)
end RE
end
end Go.Proofs.YtnkndpoojnflmaaGreat
end
