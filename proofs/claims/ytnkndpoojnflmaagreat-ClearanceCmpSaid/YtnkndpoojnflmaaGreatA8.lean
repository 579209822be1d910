/- integer: divide, its contract. -/
import Derived.Test.YtnkndpoojnflmaaGreatA7
noncomputable section
namespace Go.Proofs.YtnkndpoojnflmaaGreat
open Go.RowKit Go.IntKind
theorem am6:type_of% @Rat.mul_pos:=@Rat.mul_pos
theorem anm:type_of% @List.length_pos_iff:=@List.length_pos_iff
theorem anE:type_of% @beq_iff_eq:=@beq_iff_eq
theorem anI:type_of% @Rat.num_divInt_den:=@Rat.num_divInt_den
theorem anO:type_of% @Int.eq_ofNat_of_zero_le:=@Int.eq_ofNat_of_zero_le
theorem anR:type_of% @Quotient.inductionOn:=@Quotient.inductionOn
theorem aob:type_of% @Int.natAbs_natCast:=@Int.natAbs_natCast
theorem aot:type_of% @Int.lt_or_lt_of_ne:=@Int.lt_or_lt_of_ne
theorem aoz:type_of% @Bool.decide_and:=@Bool.decide_and
theorem aoJ:type_of% @Nat.gcd_comm:=@Nat.gcd_comm
theorem aoK:type_of% @Quotient.inductionOn₃:=@Quotient.inductionOn₃
theorem aoL:type_of% @Rat.mul_comm:=@Rat.mul_comm
theorem ao1:type_of% @Rat.divInt_ofNat:=@Rat.divInt_ofNat
theorem ao2:type_of% @Quotient.sound:=@Quotient.sound
theorem ao6:type_of% @Rat.sub_eq_add_neg:=@Rat.sub_eq_add_neg
theorem ape:type_of% @Nat.mul_ne_zero:=@Nat.mul_ne_zero
theorem apf:type_of% @Int.mul_ne_zero:=@Int.mul_ne_zero
theorem apg:type_of% @Rat.divInt_mul_divInt:=@Rat.divInt_mul_divInt
theorem aph:type_of% @Rat.div_def:=@Rat.div_def
theorem api:type_of% @Quotient.inductionOn₂:=@Quotient.inductionOn₂
theorem apr:type_of% @Int.natAbs_mul:=@Int.natAbs_mul
theorem apC:type_of% @Rat.num_mkRat:=@Rat.num_mkRat
theorem apD:type_of% @Rat.den_mkRat:=@Rat.den_mkRat
theorem apU:type_of% @Rat.inv_pos:=@Rat.inv_pos
def oM(a b:List Int):Prop:=(Lim a∧a.length≤100000000)∧(Lim b∧b.length≤100000000)∧0<val b
instance (a b:List Int):Decidable (oM a b):=by unfold oM;infer_instance
structure afT (a b q r:List Int):Prop where
 lq:Lim q
 lr:Lim r
 sq:q.length≤200000000
 sr:r.length≤200000000
 q:val q=val a/val b
 r:val r=val a%val b
theorem v5(x:Int):val [x]=x:=by simp[val]
theorem uO{l:List Int}(h:can l){m:Nat}(hl:l.length=m+1):1≤l[m]:=by
 have h2:=h.2;have h1:=h.1.get (show m<l.length by omega);grind
set_option maxHeartbeats 1000000 in
theorem E2(a b:List Int)(h:oM a b):∃q r,afT a b q r∧CQ 340 [.d apX a,.d apX b] [.d apX q,.d apX r]:=by
 obtain⟨⟨la,sa⟩,⟨lb,sb⟩,hb⟩:=h;have ha:aR a:=⟨la,by omega⟩
 have hb':aR b:=⟨lb,by omega⟩
 have va:=bj (val a).toNat
 have vb:=bj (val b).toNat
 have na:=aQ la;have va':val (ah (val a).toNat)=val a:=by omega
 have vb':val (ah (val b).toNat)=val b:=by omega
 have lna:=jW la;have lnb:=jW lb;have ca:=d9 (val a).toNat
 have cb:=d9 (val b).toNat
 have hla:aR (ah (val a).toNat):=⟨ca.1,by omega⟩
 have hlb:aR (ah (val b).toNat):=⟨cb.1,by omega⟩
 have go:∀{q r},gr.Res 340 [.d apX a,.d apX b] [.d apX q,.d apX r]→CQ 340 [.d apX a,.d apX b] [.d apX q,.d apX r]:=fun hr=>fV Kz hr;have hb0:ah (val b).toNat≠[]:=fun e=>by rw[gV]at e;omega
 by_cases h1:(ah (val b).toNat).length=1
 ·have t1:=uO cb (m:=0) h1;have t2:=cb.1.get (show 0<(ah (val b).toNat).length by omega)
  have e0:(ah (val b).toNat)[0]=val b:=by
   obtain⟨x,hx⟩:=List.length_eq_one_iff.1 h1;have:=vb';rw[hx,v5]at this;simp[hx,this]
  have hq0:0≤val a/val b:=anH na (by omega);have hq1:val a/val b≤val a:=aov _ na;have hr0:=anM (val a) (show val b≠0 by omega);have hr1:=anl (val a) hb;have hal:=b9 ca.1;refine⟨dig (ah (val a).toNat).length (val a/val b),[val a%val b],⟨m8 _ _,Lim.cons ⟨hr0,by omega⟩ Lim.nil,by rw[jd];omega,by simp,iz _ _ hq0 (by omega),v5 _⟩,go (Si _ _ ⟨0,?_⟩)⟩;unfold Id;rw[amE ha,amE hb',h1,ze,amF (show 0<(ah (val b).toNat).length by omega),e0];dsimp only;rw[amE (show C8 (ah (val a).toNat) (val b) from⟨hla,by omega,by omega⟩),va'];rfl
 have hlen:2≤(ah (val b).toNat).length:=by
  rcases anj (ah (val b).toNat).length 2 with h|h
  ·exfalso;have:(ah (val b).toNat).length≠0:=fun e=>hb0 (aou e);omega
  ·exact h
 by_cases hlt:val a<val b
 ·refine⟨[],ah (val a).toNat,⟨Lim.nil,ca.1,by simp,by omega,?_,?_⟩,go (Si _ _ ⟨0,?_⟩)⟩
  ·rw[anT na hlt];rfl
  ·rw[aoR na hlt];exact va'
  ·unfold Id;rw[amE ha,amE hb',show(((ah (val b).toNat).length:Int)==1)=false by simp;omega,amE (show aR (ah (val a).toNat)∧aR (ah (val b).toNat) from⟨hla,hlb⟩),va',vb',db hlt,amE (show(ah (val a).toNat).length*4≤140737488355328∧(ah (val a).toNat).length≤140737488355328 by omega)];rfl
 ·obtain⟨m,hm⟩:∃m,(ah (val b).toNat).length=m+2:=⟨(ah (val b).toNat).length-2,by omega⟩
  have hxm:m+1<(ah (val b).toNat).length:=by omega
  have t1:=uO cb (m:=m+1) hm;have t2:=cb.1.get hxm;generalize hx2:(ah (val b).toNat)[m+1]=x2 at t1 t2;obtain⟨s1,s2,s3,s4⟩:=MA t1 t2.2
  have esc:u32.wrap (u64.wrap (Int.tdiv 1000000000 (u64.wrap ((u64.wrap x2)+1))))=1000000000/(x2+1):=by
   rw[bG (x:=x2) (by omega) (by omega),bG (x:=x2+1) (by omega) (by omega),gW (by omega),bG (x:=1000000000/(x2+1)) (by omega) (by omega),da (x:=1000000000/(x2+1)) (by omega) (by omega)]
  generalize hsc:1000000000/(x2+1)=sc at s1 s2 s3 s4 esc;have hsl:aR [sc]:=⟨Lim.cons ⟨by omega,by omega⟩ Lim.nil,by simp⟩
  have hbl:=b9 cb.1;rw[vb',hm]at hbl;have hP:=cA (m+1);have hbtop:=a8 hxm;rw[anS (by omega),vb',hx2]at hbtop;have hbt0:=aQ (cb.1.take (m+1));have hbt1:=b9 (cb.1.take (m+1));rw[anp,ans (by omega)]at hbt1
  have hVhi:val b*sc<pw (m+2):=by
   have e1:val b*sc<(pw (m+1)*(x2+1))*sc:=Int.mul_lt_mul_of_pos_right (by rw[apT,aoX];omega) (by omega);have e2:(pw (m+1)*(x2+1))*sc=pw (m+1)*((x2+1)*sc):=Int.mul_assoc _ _ _;have e3:pw (m+1)*((x2+1)*sc)≤pw (m+1)*1000000000:=amM s3 (ank hP);rw[cf];omega
  have hVlo:pw (m+1)*500000000≤val b*sc:=by
   have e1:pw (m+1)*x2*sc≤val b*sc:=amR (by omega) (by omega);have e2:pw (m+1)*x2*sc=pw (m+1)*(x2*sc):=Int.mul_assoc _ _ _;have e3:pw (m+1)*500000000≤pw (m+1)*(x2*sc):=amM s4 (ank hP);omega
  have hV0:0<val b*sc:=Int.mul_pos hb (by omega);have edv:val (dig (m+2+1) (val b*sc))=val b*sc:=iz _ _ (by omega) (by rw[cf];omega);obtain⟨v,hv⟩:∃v,ah (val b*sc).toNat=v:=⟨_,rfl⟩
  have cv:=d9 (val b*sc).toNat
  have vv:=bj (val b*sc).toNat
  rw[hv]at cv vv;have hvv:val v=val b*sc:=by omega
  have hvl:v.length=m+2:=by
   have h1:v.length≤m+2:=by rw[←hv];exact dm (by omega)
   have h2:m+1<v.length:=by rw[←hv];exact A8 (by omega)
   omega
  have htop:500000000≤v[m+1]:=by
   rcases am8 v[m+1] 500000000 with hc|hc
   ·exfalso;have e1:=a8 (l:=v) (n:=m+1) (by omega);rw[anS (by omega),hvv]at e1;have e2:=b9 (cv.1.take (m+1));rw[anp,ans (by omega)]at e2;have e3:=amM (show v[m+1]≤499999999 by omega) (ank hP);omega
   ·exact hc
  have hal:=b9 ca.1;rw[va']at hal;have hA0:0≤val a*sc:=anC na (by omega)
  have hA1:val a*sc<pw ((ah (val a).toNat).length+1):=by
   have e1:val a*sc≤pw (ah (val a).toNat).length*sc:=amR (by omega) (by omega);have e2:pw (ah (val a).toNat).length*sc<pw (ah (val a).toNat).length*1000000000:=Int.mul_lt_mul_of_pos_left (by omega) (cA _);rw[cf];omega
  have lab:m+2≤(ah (val a).toNat).length:=by
   rw[←hm];rcases anj (ah (val a).toNat).length (ah (val b).toNat).length with hc|hc
   ·have:=wg hc;omega
   ·exact hc
  generalize hlA:(ah (val a).toNat).length=L at*;have hdl:(dig (L+1) (val a*sc)++[0]).length=L+2:=by simp[jd]
  have hdv:val (dig (L+1) (val a*sc)++[0])=val a*sc:=by rw[dw,iz _ _ hA0 hA1];simp[val]
  have hmul:=hvv
  obtain⟨q,r,⟨f1,f2,f3,f4,f5,f6⟩,n,hrun⟩:=M1 b x2 v m hm (by rw[esc,hm,vb',v5];simp only[am2];rw[edv];exact hv) cv.1 hvl sc esc s1 s2 htop (val a*sc) (L-m) (List.replicate (L-m) 0) (dig (L+1) (val a*sc)++[0])
   (Lim.rep _) ((m8 _ _).append (Lim.cons (by decide) Lim.nil)) (by rw[hdl];simp;omega) (by rw[hdl];omega) (by simp) (by rw[gJ,hdv];omega) (fun j hj _=>by simp) (by
    rw[hdv,hvv];have e1:pw (m+1)*500000000*pw (L-m)≤val b*sc*pw (L-m):=amR hVlo (ank (cA _))
    have e2:pw (m+1)*500000000*pw (L-m)=pw (L+1)*500000000:=by
     rw[show L+1=m+1+(L-m) by omega,fC (m+1) (L-m),Int.mul_right_comm]
    have:=cA (L+1);omega)
  have hq:val a*sc/(val b*sc)=val a/val b:=Int.mul_ediv_mul_of_pos_left _ _ (by omega)
  have hr:val a*sc%(val b*sc)/sc=val a%val b:=by
   rw[aoq (val a),aoq (val b),Int.mul_emod_mul_of_pos _ _ (by omega),aoq];exact Int.mul_ediv_cancel _ (by omega)
  rw[hvv]at f5 f6;rw[hq]at f5;rw[hr]at f6;refine⟨q,r,⟨f1,f2,by rw[f3];simp;omega,by omega,f5,f6⟩,go (Si _ _ ⟨n,?_⟩)⟩;unfold Id;have e1:i64.wrap (((m+2:Nat):Int)-1)=((m+1:Nat):Int):=by rw[aT (by omega) (by omega)];omega
  have e2:i64.wrap (((L+2:Nat):Int)-((m+2:Nat):Int))=((L-m:Nat):Int):=by rw[aT (by omega) (by omega)];omega
  have e3:i64.wrap (((L-m:Nat):Int)-1)=((L-m:Nat):Int)-1:=aT (by omega) (by omega)
  rw[amE ha,amE hb',hm,show(((m+2:Nat):Int)==1)=false by simp;omega,amE (show aR (ah (val a).toNat)∧aR (ah (val b).toNat) from⟨hla,hlb⟩),va',vb',show decide (cB (val a) (val b)<0)=false by
   rcases am8 (val b) (val a)with hc|hc
   ·rw[cV hc];rfl
   ·rw[show val a=val b by omega,dW];rfl,e1,av (ah (val b).toNat) (m+1),amF hxm,hx2]
  dsimp only;rw[esc,bG (x:=x2) (by omega) (by omega),bG (x:=x2+1) (by omega) (by omega),amG (show ¬x2+1=0 by omega),amE (show aR (ah (val a).toNat)∧aR [sc] from⟨hla,hsl⟩),amE (show aR (ah (val b).toNat)∧aR [sc] from⟨hlb,hsl⟩),v5,hlA];rw[am2,am2,hdl,jd (L+1)];rw[amE (show(L+1+1)*4≤140737488355328∧L+1+1≤140737488355328 by omega),amE (show aR (dig (m+2+1) (val b*sc)) from jp (by omega) _),e2,sB (by omega),aE,e3];exact hrun
abbrev BI:=Bool×List Int
def okI(x:BI):Prop:=can x.2∧(x.1=true→x.2≠[])∧x.2.length≤1000000
instance (x:BI):Decidable (okI x):=by unfold okI;infer_instance
theorem bO(x:BI):ae x=cg x.1 (val x.2):=rfl
theorem io{x:BI}(h:okI x):x=ai (ae x):=by
 obtain⟨h1,h2,h3⟩:=h;grind [bO,mq,pP,val,eK]
def szI(z:Int):Nat:=(ah z.natAbs).length
theorem aV{z:Int}(h:szI z≤1000000):okI (ai z):=by
 refine⟨d9 _,fun e=>?_,h⟩;grind [ai,gV]
theorem fk{z:Int}{k:Nat}(h1: -pw k<z)(h2:z<pw k):szI z≤k:=dm (by omega)
theorem GN(z:Int): -pw (szI z)<z∧z<pw (szI z):=by
 have h:=b9 (cd z.natAbs);grind [bj,szI]
theorem nt{z:Int}{k:Nat}(h:szI z≤k): -pw k<z∧z<pw k:=by
 have h1:=GN z;have h2:=dl h;omega
theorem je(z:Int):szI (-z)=szI z:=by simp[szI]
theorem wd{a b:Int}{k:Nat}(h1:szI a≤k)(h2:szI b≤k):szI (a+b)≤k+1:=by
 have e1:=nt h1;have e2:=nt h2;exact fk (by rw[cf];omega) (by rw[cf];omega)
theorem cW{a b:Int}{j k:Nat}(h1:szI a≤j)(h2:szI b≤k):szI (a*b)≤j+k:=by
 have e1:=nt h1;have e2:=nt h2
 have h:(a*b).natAbs<(pw (j+k)).toNat:=by
  rw[apr,fC];have:(pw j*pw k).toNat=(pw j).toNat*(pw k).toNat:=Int.toNat_mul (by omega) (by omega);rw[this];exact Nat.mul_lt_mul'' (by omega) (by omega)
 exact fk (by omega) (by omega)
theorem dA{a b:Int}(h:a.natAbs≤b.natAbs):szI a≤szI b:=by
 have:=GN b;exact fk (by omega) (by omega)
theorem iK{x:BI}(h:okI x):szI (ae x)≤1000000:=by
 have:=io h;have h3:=h.2.2;rwa [this]at h3
theorem ge{x:BI}(h:okI x):aR x.2:=⟨h.1.1,by have:=h.2.2;omega⟩
theorem cL{x:BI}(h:okI x):0≤val x.2∧(x.1=true→0<val x.2)∧(x.2=[]↔val x.2=0):=by
 refine⟨aQ h.1.1,fun e=>eK h.1 (h.2.1 e),⟨fun e=>by rw[e];rfl,fun e=>?_⟩⟩;rcases List.eq_nil_or_concat x.2 with h'|⟨l,y,h'⟩
 ·omega
 ·have:=eK h.1 (by rw[h'];simp);omega
def pN:eg:=spN false false [apY] (fun x=>decide (aG x.1)) (fun x=>[RV.d y2Y (ai x.1)])
theorem kS:SpK 210 pN:=spX fun x h=>HX x.1 (amH h)
def dvQ(a b:List Int):List Int:=if h:oM a b then Classical.choose (E2 a b h)else []
def dvR(a b:List Int):List Int:=if h:oM a b then Classical.choose (an7 (E2 a b h))else []
theorem XN{a b:List Int}(h:oM a b):afT a b (dvQ a b) (dvR a b):=by grind [dvQ,dvR]
theorem TC(a b:List Int)(h:oM a b):CQ 340 [.d apX a,.d apX b] [.d apX (dvQ a b),.d apX (dvR a b)]:=by
 unfold dvQ dvR;rw[dif_pos h,dif_pos h];exact(an7 (an7 (E2 a b h))).2
def GV:eg:=spN false false [apX,apX] (fun x=>decide (oM x.1 x.2.1)) (fun x=>[RV.d apX (dvQ x.1 x.2.1),RV.d apX (dvR x.1 x.2.1)])
theorem D9:SpK 340 GV:=spX fun x h=>TC x.1 x.2.1 (amH h)
def rR:Env:=[(269,xn),(300,AO),(303,Ho),(304,GS),(270,F5),(268,G9),(210,pN),(340,GV)]
theorem ks:EnvAll Tryz.prog rR:=⟨rZ,wT,Ei,Em,Ee,Ea,kS,D9,trivial⟩
def afv:Ctx:=CX rR []
def aaD(x y:Bool×List Int)(_k:KT):OLR:=match !(x.1==y.1)with|true=>(match x.1 with|true=>some [RV.d apY (-1)]|false=>some [RV.d apY 1])|false=>(match x.1 with|true=>(og (decide (aR y.2∧aR x.2)) (some [RV.d apY (cB (val y.2) (val x.2))]))|false=>(og (decide (aR x.2∧aR y.2)) (some [RV.d apY (cB (val x.2) (val y.2))])))
theorem agM(x y:Bool×List Int):RS afv 172 [.d y2Y x,.d y2Y y] (aaD x y):=rsX
def ai9:Ctx:=CX rR []
def Xw(x y:Bool×List Int)(_k:KT):OLR:=match x.1==y.1 with|true=>(og (decide (aR x.2∧aR y.2)) (og (decide (aR (dig (max x.2.length y.2.length+1) (val x.2+val y.2)))) (some [RV.d y2Y (ai (cg x.1 (val (dig (max x.2.length y.2.length+1) (val x.2+val y.2)))))])))|false=>(og (decide (aR x.2∧aR y.2)) (match decide ((cB (val x.2) (val y.2))<0)with|true=>(og (decide (oB y.2 x.2)) (og (decide (aR (dig y.2.length (val y.2-val x.2)))) (some [RV.d y2Y (ai (cg y.1 (val (dig y.2.length (val y.2-val x.2)))))])))|false=>(og (decide (oB x.2 y.2)) (og (decide (aR (dig x.2.length (val x.2-val y.2)))) (some [RV.d y2Y (ai (cg x.1 (val (dig x.2.length (val x.2-val y.2)))))])))))
theorem ajq(x y:Bool×List Int):RS ai9 215 [.d y2Y x,.d y2Y y] (Xw x y):=rsX
def aiC:Ctx:=CX rR []
def XS(x y:Bool×List Int)(_k:KT):OLR:=og (decide (aR x.2∧aR y.2)) (og (decide (aR (dig (x.2.length+y.2.length) (val x.2*val y.2)))) (some [RV.d y2Y (ai (cg (!(x.1==y.1)) (val (dig (x.2.length+y.2.length) (val x.2*val y.2)))))]))
theorem agX(x y:Bool×List Int):RS aiC 173 [.d y2Y x,.d y2Y y] (XS x y):=rsX
def aiO:Ctx:=CX rR []
def YS(x:Bool×List Int)(_k:KT):OLR:=og (decide (x.2.length*4≤140737488355328∧x.2.length≤140737488355328)) (og (decide (aR x.2)) (some [RV.d y2Y (ai (cg (!x.1) (val x.2)))]))
theorem aje(x:Bool×List Int):RS aiO 216 [.d y2Y x] (YS x):=rsX
def agh:Ctx:=CX rR []
def X6(x:Bool×List Int)(_k:KT):OLR:=match x.1 with|true=>some [RV.d apY (-1)]|false=>(match decide ((x.2.length:Int)>0)with|true=>some [RV.d apY 1]|false=>some [RV.d apY 0])
theorem afn(x:Bool×List Int):RS agh 83 [.d y2Y x] (X6 x):=rsX
theorem UA(x:BI)(h:okI x):CQ 83 [.d y2Y x] [.d apY (cB (ae x) 0)]:=by
 refine fV ks (afn _ ⟨0,?_⟩);obtain⟨h0,h1,h2⟩:=cL h;unfold X6;rw[bO];unfold cg;cases hx:x.1
 ·simp only[cond_false];rcases am8 0 (val x.2)with hc|hc
  ·have:x.2≠[]:=fun e=>by rw[h2]at e;omega
   have:=anm.2 this;rw[amE (by omega),cV hc]
  ·have e:x.2=[]:=h2.2 (by omega);rw[e];rfl
 ·simp only[cond_true];rw[db (by have:=h1 hx;omega)]
theorem Jq{a b:Int}(_ha:0≤a)(_hb:0≤b):cB (-a) (-b)=cB b a:=by grind [cV,dW,db]
theorem Ix(x y:BI)(h:okI x∧okI y):CQ 172 [.d y2Y x,.d y2Y y] [.d apY (cB (ae x) (ae y))]:=by
 refine fV ks (agM _ _ ⟨0,?_⟩);obtain⟨hx,hy⟩:=h;obtain⟨x0,x1,x2⟩:=cL hx;obtain⟨y0,y1,y2⟩:=cL hy;have lx:=ge hx;have ly:=ge hy;unfold aaD;rw[bO,bO,amE (show aR x.2∧aR y.2 from⟨lx,ly⟩),amE (show aR y.2∧aR x.2 from⟨ly,lx⟩)];unfold cg;cases ex:x.1<;>cases ey:y.1<;>simp only[cond_true,cond_false]
 ·rfl
 ·have:=y1 ey;rw[cV (a:=val x.2) (b:= -val y.2) (by omega)];rfl
 ·have:=x1 ex;rw[db (a:= -val x.2) (b:=val y.2) (by omega)];rfl
 ·rw[Jq x0 y0];rfl
theorem SO{a b:List Int}(ha:Lim a)(hb:Lim b):val (dig (max a.length b.length+1) (val a+val b))=val a+val b:=by
 have h1:=b9 ha;have h2:=b9 hb;have h3:=aQ ha;have h4:=aQ hb;have h5:=dl (Nat.le_max_left a.length b.length);have h6:=dl (Nat.le_max_right a.length b.length);grind [iz,cf]
theorem zE{a b:List Int}(ha:Lim a)(hb:Lim b)(hle:val b≤val a):val (dig a.length (val a-val b))=val a-val b:=by
 have h1:=b9 ha;have h4:=aQ hb;grind [iz]
theorem JR{a b:List Int}(ha:Lim a)(hb:Lim b):val (dig (a.length+b.length) (val a*val b))=val a*val b:=by
 have h1:=b9 ha;have h2:=b9 hb;have h3:=aQ ha;have h4:=aQ hb;refine iz _ _ (anC h3 h4) ?_;rw[fC];have e1:=amR (ank h1) h4;have e2:=Int.mul_lt_mul_of_pos_left h2 (cA a.length);omega
theorem U8(x y:BI)(h:okI x∧okI y):CQ 215 [.d y2Y x,.d y2Y y] [.d y2Y (ai (ae x+ae y))]:=by
 refine fV ks (ajq _ _ ⟨0,?_⟩);obtain⟨hx,hy⟩:=h;obtain⟨x0,x1,x2⟩:=cL hx;obtain⟨y0,y1,y2⟩:=cL hy;have lx:=ge hx;have ly:=ge hy;have sx:=hx.2.2;have sy:=hy.2.2;unfold Xw;rw[bO,bO,amE (show aR x.2∧aR y.2 from⟨lx,ly⟩),amE (show aR (dig (max x.2.length y.2.length+1) (val x.2+val y.2)) from jp (by omega) _),SO lx.1 ly.1,amE (show aR (dig x.2.length (val x.2-val y.2)) from jp (by omega) _),amE (show aR (dig y.2.length (val y.2-val x.2)) from jp (by omega) _)];cases hs:x.1==y.1
 ·dsimp only;rcases am8 (val x.2) (val y.2)with hc|hc
  ·rw[db hc,amE (show(-1:Int)<0 by decide),amE (show oB y.2 x.2 from⟨ly,lx,by omega⟩),zE ly.1 lx.1 (by omega)];dsimp only;unfold cg;cases ex:x.1<;>cases ey:y.1<;>simp_all<;>congr 2<;>omega
  ·have hcm:decide (cB (val x.2) (val y.2)<0)=false:=by
    rcases am8 (val y.2) (val x.2)with h|h
    ·rw[cV h];rfl
    ·rw[show val x.2=val y.2 by omega,dW];rfl
   rw[hcm,amE (show oB x.2 y.2 from⟨lx,ly,hc⟩),zE lx.1 ly.1 hc];dsimp only;unfold cg;cases ex:x.1<;>cases ey:y.1<;>simp_all<;>congr 2<;>omega
 ·dsimp only;have e:=anE.1 hs;rw[←e];unfold cg;cases x.1
  ·rfl
  ·simp only[cond_true];rw[show-(val x.2+val y.2)= -val x.2+ -val y.2 by omega]
theorem IR(x:BI)(h:okI x):CQ 216 [.d y2Y x] [.d y2Y (ai (-ae x))]:=by
 refine fV ks (aje _ ⟨0,?_⟩);have sx:=h.2.2;unfold YS;rw[bO,amE (show x.2.length*4≤140737488355328∧x.2.length≤140737488355328 by omega),amE (ge h)];unfold cg;cases x.1<;>simp
theorem Hw(x y:BI)(h:okI x∧okI y):CQ 173 [.d y2Y x,.d y2Y y] [.d y2Y (ai (ae x*ae y))]:=by
 refine fV ks (agX _ _ ⟨0,?_⟩);obtain⟨hx,hy⟩:=h;have lx:=ge hx;have ly:=ge hy;have sx:=hx.2.2;have sy:=hy.2.2;unfold XS;rw[bO,bO,amE (show aR x.2∧aR y.2 from⟨lx,ly⟩),amE (show aR (dig (x.2.length+y.2.length) (val x.2*val y.2)) from jp (by omega) _),JR lx.1 ly.1];unfold cg;cases x.1<;>cases y.1<;>simp[Int.neg_mul,apt]
def pS:eg:=spN false false [y2Y,y2Y] (fun x=>decide (okI x.1∧okI x.2.1)) (fun x=>[RV.d y2Y (ai (ae x.1+ae x.2.1))])
theorem kx:SpK 215 pS:=spX fun x h=>U8 x.1 x.2.1 (amH h)
def GP:Env:=(215,pS)::rR
theorem Ad:EnvAll Tryz.prog GP:=⟨kx,ks⟩
def af1:Ctx:=CX GP []
def ZZ(x y:Bool×List Int)(_k:KT):OLR:=match !y.1 with|true=>(og (decide (okI x∧okI (decide ((y.2.length:Int)>0),y.2))) (some [RV.d y2Y (ai (ae x+ae (decide ((y.2.length:Int)>0),y.2)))]))|false=>(og (decide (okI x∧okI (false,y.2))) (some [RV.d y2Y (ai (ae x+ae (false,y.2)))]))
theorem agb(x y:Bool×List Int):RS af1 360 [.d y2Y x,.d y2Y y] (ZZ x y):=rsX
theorem Qt{y:BI}(h:okI y):okI (!y.1&&decide ((y.2.length:Int)>0),y.2)∧ae (!y.1&&decide ((y.2.length:Int)>0),y.2)= -ae y:=by
 refine⟨⟨h.1,fun e=>?_,h.2.2⟩,?_⟩
 ·grind
 grind [bO,cg,val,anm]
theorem Ux(x y:BI)(h:okI x∧okI y):CQ 360 [.d y2Y x,.d y2Y y] [.d y2Y (ai (ae x-ae y))]:=by
 refine fV Ad (agb _ _ ⟨0,?_⟩);obtain⟨hx,hy⟩:=h;obtain⟨f1,f2⟩:=Qt hy;rw[Int.sub_eq_add_neg,←f2];unfold ZZ;cases ey:y.1
 ·rw[ey]at f1;simp only[Bool.not_false,anU]at f1 ⊢;rw[amE ⟨hx,f1⟩]
 ·rw[ey]at f1;simp only[Bool.not_true,apM]at f1 ⊢;rw[amE ⟨hx,f1⟩]
def Sf:eg:=spN false false [y2Y,y2Y] (fun x=>decide (okI x.1∧okI x.2.1)) (fun x=>[RV.d y2Y (ai (ae x.1-ae x.2.1))])
theorem OR:SpK 360 Sf:=spX fun x h=>Ux x.1 x.2.1 (amH h)
def N9:Env:=(360,Sf)::GP
theorem KK:EnvAll Tryz.prog N9:=⟨OR,Ad⟩
def ag9:Ctx:=CX N9 []
def aas(x y:Bool×List Int)(_k:KT):OLR:=let y1:=aR (dvQ x.2 y.2);let y2:=aR (dvR x.2 y.2);let y3:=ai (cg x.1 (val (dvR x.2 y.2)));let y4:=ai (cg (!(x.1==y.1)) (val (dvQ x.2 y.2)));let y5:OLR:=match decide (((y3.2).length:Int)>0)with|true=>(match !((y3.1)==y.1)with|true=>(og (decide (aG (1:Int))) (og (decide (okI y4∧okI (ai (1:Int)))) (og (decide (okI y3∧okI y)) (dup (.b .l .l) (some [RV.d y2Y (ai (ae y4-ae (ai (1:Int)))),RV.d y2Y (ai (ae y3+ae y)),RV.d apY 0])))))|false=>dup (.b .l .l) (some [RV.d y2Y y4,RV.d y2Y y3,RV.d apY 0]))|false=>dup (.b .l .l) (some [RV.d y2Y y4,RV.d y2Y y3,RV.d apY 0]);let y6:OLR:=match decide y2 with|true=>y5|false=>none;match(y.2.length:Int)==0 with|true=>some [RV.d y2Y (false,[]),RV.d y2Y (false,[]),RV.d apY 6]|false=>(og (decide (oM x.2 y.2)) (cj (og (decide y1) (cj (og (decide y2) (dup (.b .l .l) y5)) (dup (.b (.b .l .l) (.b .l .l)) y6))) (dup (.b .l .l) (cj (og (decide y1) (dup (.b .l .l) y6)) (og (decide y1) y6)))))
theorem ajK(x y:Bool×List Int):RS ag9 341 [.d y2Y x,.d y2Y y] (aas x y):=rsX
def fv(x y:BI):Prop:=okI x∧okI y∧0<ae y
instance (x y:BI):Decidable (fv x y):=by unfold fv;infer_instance
theorem Jk{a b:Int}(_ha:0≤a)(hb:0<b):(a%b=0→ -a/b= -(a/b)∧ -a%b=0)∧(0<a%b→ -a/b= -(a/b)-1∧ -a%b= -(a%b)+b):=by
 have h1:=anM a (show b≠0 by omega);have h2:=anl a hb;have h3:=ant a b;constructor
 ·intro h;have e: -a=b* -(a/b):=by rw[apt];omega
  constructor
  ·rw[e,aoS _ (by omega)]
  ·rw[e,Int.mul_emod_right]
 ·intro h;have e: -a=(b-a%b)+b*(-(a/b)-1):=by rw[Int.mul_sub,apt,aoX];omega
  constructor
  ·rw[e,aop _ _ (by omega),anT (by omega) (by omega)];omega
  ·rw[e,aoF,aoR (by omega) (by omega)];omega
theorem qA:okI (ai 1):=by decide
theorem Ck(n:Bool){v:Int}:szI (cg n v)=szI v:=by unfold cg;cases n<;>simp[je]
theorem Ja(x y:BI)(h:fv x y):CQ 341 [.d y2Y x,.d y2Y y] [.d y2Y (ai (ae x/ae y)),.d y2Y (ai (ae x%ae y)),.d apY 0]:=by
 refine fV KK (ajK _ _ ⟨0,?_⟩);obtain⟨hx,hy,hp⟩:=h;obtain⟨x0,x1,x2⟩:=cL hx;obtain⟨y0,y1,y2⟩:=cL hy;have sx:=hx.2.2;have sy:=hy.2.2
 have ey:y.1=false:=by
  cases e:y.1
  ·rfl
  ·rw[bO,e]at hp;simp only[cg,cond_true]at hp;omega
 have dy:ae y=val y.2:=by rw[bO,ey];rfl
 rw[dy]at hp;have hdv:oM x.2 y.2:=⟨⟨hx.1.1,by omega⟩,⟨hy.1.1,by omega⟩,hp⟩
 obtain⟨lq,lr,sq,sr,vq,vr⟩:=XN hdv;have hne:y.2≠[]:=fun e=>by rw[y2]at e;omega
 have hylen:=anm.2 hne;have r0:=anM (val x.2) (show val y.2≠0 by omega);have r1:=anl (val x.2) hp;have q0:0≤val x.2/val y.2:=anH x0 y0;have q1:val x.2/val y.2≤val x.2:=aov _ x0;have vx:=b9 hx.1.1;have vy:=b9 hy.1.1;have szq:szI (val x.2/val y.2)≤1000000:=fk (by have:=cA 1000000;omega) (by have:=dl sx;omega);have szr:szI (val x.2%val y.2)≤1000000:=fk (by have:=cA 1000000;omega) (by have:=dl sy;omega);unfold aas;simp only[eZ]
 rw[show((y.2.length:Int)==0)=false by simp;omega,amE hdv,amE (show aR (dvQ x.2 y.2) from⟨lq,by omega⟩),amE (show aR (dvR x.2 y.2) from⟨lr,by omega⟩),amE (show aG 1 by decide),vq,vr,
  amE (show okI (ai (cg (!(x.1==y.1)) (val x.2/val y.2)))∧okI (ai (1:Int)) from⟨aV (by rw[Ck];exact szq),qA⟩),amE (show okI (ai (cg x.1 (val x.2%val y.2)))∧okI y from⟨aV (by rw[Ck];exact szr),hy⟩)]
 simp only[dec_enc,dy,cX];have hE1:(ai (cg x.1 (val x.2%val y.2))).1=(x.1&&decide (0<val x.2%val y.2)):=by rw[mq x.1 r0]
 have hE2:(ai (cg x.1 (val x.2%val y.2))).2=ah (val x.2%val y.2).toNat:=by rw[mq x.1 r0]
 rw[hE1,hE2,bO x,ey]
 have hlen:(((ah (val x.2%val y.2).toNat).length:Int)>0)↔0<val x.2%val y.2:=by
  constructor
  ·intro hl;rcases am8 0 (val x.2%val y.2)with h|h
   ·exact h
   ·rw[show(val x.2%val y.2).toNat=0 by omega,fP]at hl;simp at hl
  ·intro hl;have:ah (val x.2%val y.2).toNat≠[]:=fun e=>by rw[gV]at e;omega
   have:=anm.2 this;omega
 obtain⟨n1,n2⟩:=Jk (a:=val x.2) (b:=val y.2) x0 hp;rcases am8 0 (val x.2%val y.2)with hr|hr
 ·rw[amE (hlen.2 hr),amE hr];cases x.1
  ·rfl
  ·obtain⟨e1,e2⟩:=n2 hr;simp only[cg,cond_true,Bool.not_false,anU,show((true==false):Bool)=false from rfl];rw[e1,e2]
 ·rw[amG (fun h'=>by have:=hlen.1 h';omega)];dsimp only;have e0:val x.2%val y.2=0:=by omega
  cases x.1
  ·simp only[cg,cond_false,show((false==false):Bool)=true from rfl,Bool.not_true]
  ·obtain⟨e1,e2⟩:=n1 e0;simp only[cg,cond_true,show((true==false):Bool)=false from rfl,Bool.not_false];rw[e1,e2,e0];rfl
def kE(x:BI):Bool:=decide (x.2.length≤2)
def yQ(x:BI):Int:=bif kE x then val x.2 else 0
def ahx:Ctx:=CX [] []
def WY(x:Bool×List Int)(_k:KT):OLR:=match(x.2.length:Int)==0 with|true=>some [RV.d (.int .u64) 0,RV.d .bool true]|false=>(match(x.2.length:Int)==1 with|true=>(match aS x.2 0 with|some x1=>some [RV.d (.int .u64) (u64.wrap x1),RV.d .bool true]|none=>none)|false=>(match(x.2.length:Int)==2 with|true=>(match aS x.2 1 with|some x2=>(match aS x.2 0 with|some x3=>some [RV.d (.int .u64) (u64.wrap ((u64.wrap ((u64.wrap x2)*1000000000))+(u64.wrap x3))),RV.d .bool true]|none=>none)|none=>none)|false=>some [RV.d (.int .u64) 0,RV.d .bool false]))
theorem afR(x:Bool×List Int):RS ahx 339 [.d y2Y x] (WY x):=rsX
theorem Vw(x:BI)(h:okI x):CQ 339 [.d y2Y x] [.d (.int .u64) (yQ x),.d .bool (kE x)]:=by
 refine fV (E:=[]) trivial (afR _ ⟨0,?_⟩);obtain⟨neg,l⟩:=x;have hl:=h.1.1;unfold WY yQ kE;match l,hl with
 |[],_=>rfl
 |[a],hl=>
  have:=hl.head;simp only[am2,ze,anG];rw[bG (x:=a) (by omega) (by omega)];simp[val]
 |[a,b],hl=>
  have h1:=hl.head;have h2:=hl.tail.head;have e1:aS [a,b] 1=some b:=rfl;have e0:aS [a,b] 0=some a:=rfl;simp only[e1,e0,amV,List.length_nil];rw[bG (x:=a) (by omega) (by omega),bG (x:=b) (by omega) (by omega),bG (x:=b*1000000000) (by omega) (by omega),bG (x:=b*1000000000+a) (by omega) (by omega)];rw[show val [a,b]=b*1000000000+a by simp only[val];omega];rfl
 |a::b::c::l,hl=>
  have e:decide ((a::b::c::l).length≤2)=false:=amG (by simp);rw[e,show(((a::b::c::l).length:Int)==0)=false by simp;omega,show(((a::b::c::l).length:Int)==1)=false by simp;omega,show(((a::b::c::l).length:Int)==2)=false by simp;omega];rfl
def QZ:eg:=spN false false [y2Y] (fun x=>decide (okI x.1)) (fun x=>[RV.d (.int .u64) (yQ x.1),RV.d .bool (kE x.1)])
theorem NC:SpK 339 QZ:=spX fun x h=>Vw x.1 (amH h)
def QI:Env:=[(269,xn),(300,AO),(340,GV),(339,QZ)]
theorem Kw:EnvAll Tryz.prog QI:=⟨rZ,wT,D9,NC,trivial⟩
def aet:NT:=[((301,6),{keep:=[4,5,6],hl:=5}),((301,24),{keep:=[4,7,9],hl:=3})]
def ir:Ctx:=CX QI aet
def mf(x y:Bool×List Int)(b3_0:Bool)(b3_1:List Int)(b4_0:Bool)(b4_1:List Int):Cfg:=⟨301,[.blk 0,.seq 40],[(4,.box 2 0),(5,.box 3 0),(6,.box 4 0)],[.box 29 [SB x.1,.d apX x.2],.box 29 [SB y.1,.d apX y.2],.box 29 [SB false,.nil],.box 29 [SB b3_0,.d apX b3_1],.box 29 [SB b4_0,.d apX b4_1]],0,[]⟩
def gn(x y:Bool×List Int)(b3_0:Bool)(b3_1:List Int)(b4_0:Bool)(b4_1:List Int):Cfg:=⟨301,[.blk 0,.seq 40],[(4,.box 2 0),(5,.box 4 0),(6,.box 3 0)],[.box 29 [SB x.1,.d apX x.2],.box 29 [SB y.1,.d apX y.2],.box 29 [SB false,.nil],.box 29 [SB b3_0,.d apX b3_1],.box 29 [SB b4_0,.d apX b4_1]],0,[]⟩
def jg(x y:Bool×List Int)(s7 s9:Int):Cfg:=⟨301,[.blk 2,.seq 33,.seq 37,.blk 1,.lp 6,.blk 0,.seq 40],[(4,.box 2 0),(7,.d (.int .u64) s7),(9,.d (.int .u64) s9)],[.box 29 [SB x.1,.d apX x.2],.box 29 [SB y.1,.d apX y.2],.box 29 [SB false,.nil]],0,[]⟩
def XA(x y:Bool×List Int)(k:KT):OLR:=let y1:=ai (cg false (val x.2));let y2:=ai (cg false (val y.2));let y3:=mf x y (y1.1) (y1.2) (y2.1) (y2.2);let y4:=gn x y (y2.1) (y2.2) (y1.1) (y1.2);let y5:OLR:=match decide (aR y.2)with|true=>k 6 y3|false=>none;let y6:OLR:=match decide (aR y.2)with|true=>k 6 y4|false=>none;cj (og (decide (aR x.2)) (cj (og (decide (aR y.2)) (cj (k 6 y3) (k 6 y4))) (cj (dup (.b .l .l) y5) (dup (.b .l .l) y6)))) (cj (cj (og (decide (aR x.2)) (dup (.b .l .l) y5)) (og (decide (aR x.2)) y5)) (cj (og (decide (aR x.2)) (dup (.b .l .l) y6)) (og (decide (aR x.2)) y6)))
theorem ahy(x y:Bool×List Int):RS ir 301 [.d y2Y x,.d y2Y y] (XA x y):=rsX
def LN(x y:Bool×List Int)(b3_0:Bool)(b3_1:List Int)(b4_0:Bool)(b4_1:List Int)(k:KT):OLR:=match decide ((b4_1.length:Int)>0)with|true=>(og (decide (okI (b3_0,b3_1))) (og (decide (okI (b4_0,b4_1))) (match kE (b3_0,b3_1)with|true=>(match kE (b4_0,b4_1)with|true=>k 24 (jg x y (yQ (b3_0,b3_1)) (yQ (b4_0,b4_1)))|false=>(og (decide (oM b3_1 b4_1)) (og (decide (aR (dvR b3_1 b4_1))) (k 6 (mf x y b4_0 b4_1 ((ai (cg false (val (dvR b3_1 b4_1)))).1) ((ai (cg false (val (dvR b3_1 b4_1)))).2))))))|false=>(og (decide (oM b3_1 b4_1)) (og (decide (aR (dvR b3_1 b4_1))) (k 6 (mf x y b4_0 b4_1 ((ai (cg false (val (dvR b3_1 b4_1)))).1) ((ai (cg false (val (dvR b3_1 b4_1)))).2))))))))|false=>(og (decide (b3_1.length*4≤140737488355328∧b3_1.length≤140737488355328)) (og (decide (aR b3_1)) (some [RV.d y2Y (ai (cg false (val b3_1)))])))
theorem Mu(x y:Bool×List Int)(b3_0:Bool)(b3_1:List Int)(b4_0:Bool)(b4_1:List Int):RL ir 6 (mf x y b3_0 b3_1 b4_0 b4_1) (LN x y b3_0 b3_1 b4_0 b4_1):=rlX
def Ge(x y:Bool×List Int)(b3_0:Bool)(b3_1:List Int)(b4_0:Bool)(b4_1:List Int)(k:KT):OLR:=match decide ((b3_1.length:Int)>0)with|true=>(og (decide (okI (b4_0,b4_1))) (og (decide (okI (b3_0,b3_1))) (match kE (b4_0,b4_1)with|true=>(match kE (b3_0,b3_1)with|true=>k 24 (jg x y (yQ (b4_0,b4_1)) (yQ (b3_0,b3_1)))|false=>(og (decide (oM b4_1 b3_1)) (og (decide (aR (dvR b4_1 b3_1))) (k 6 (gn x y ((ai (cg false (val (dvR b4_1 b3_1)))).1) ((ai (cg false (val (dvR b4_1 b3_1)))).2) b3_0 b3_1)))))|false=>(og (decide (oM b4_1 b3_1)) (og (decide (aR (dvR b4_1 b3_1))) (k 6 (gn x y ((ai (cg false (val (dvR b4_1 b3_1)))).1) ((ai (cg false (val (dvR b4_1 b3_1)))).2) b3_0 b3_1)))))))|false=>(og (decide (b4_1.length*4≤140737488355328∧b4_1.length≤140737488355328)) (og (decide (aR b4_1)) (some [RV.d y2Y (ai (cg false (val b4_1)))])))
theorem Fc(x y:Bool×List Int)(b3_0:Bool)(b3_1:List Int)(b4_0:Bool)(b4_1:List Int):RL ir 6 (gn x y b3_0 b3_1 b4_0 b4_1) (Ge x y b3_0 b3_1 b4_0 b4_1):=rlX
def ve(x y:Bool×List Int)(s7 s9:Int)(k:KT):OLR:=match decide (s9>0)with|true=>(match decide (s9=(0:Int))with|true=>none|false=>k 24 (jg x y s9 (Int.tmod s7 s9)))|false=>(og (decide (iB s7)) (og (decide (aR (dig 3 s7))) (some [RV.d y2Y (ai (cg false (val (dig 3 s7))))])))
theorem zF(x y:Bool×List Int)(s7 s9:Int):RL ir 24 (jg x y s7 s9) (ve x y s7 s9):=rlX
theorem PW(x y:BI)(B:Nat)(hB:(B:Int)<18446744073709551616):∀(v u:Nat),u≤B→v≤B→ir.RunsE 24 (jg x y (u:Int) (v:Int)) [.d y2Y (ai ((Nat.gcd u v:Nat):Int))]:=by
 intro v;induction v using Nat.strongRecOn with
 |ind v ih=>
  intro u hu hv;rcases anx v with h0|h0
  ·refine zF _ _ _ _ ⟨0,fun n _=>?_⟩;have hp:iB (u:Int):=⟨by omega,by omega⟩
   unfold ve;rw[amG (show ¬(v:Int)>0 by omega),amE hp,amE (jp (n:=3) (by decide) (u:Int)),yn hp,show Nat.gcd u v=u by rw[h0];exact Nat.gcd_zero_right u];rfl
  ·obtain⟨n0,hn⟩:=ih (u%v) (apv _ h0) v hv (amS (Nat.le_of_lt (apv _ h0)) hv);refine zF _ _ _ _ ⟨n0,fun n hn'=>?_⟩;unfold ve;rw[amE (by omega),amG (by omega),jD (by omega)];dsimp only;rw[show((u:Int)%(v:Int))=((u%v:Nat):Int) by simp,aoJ u v,Nat.gcd_rec v u,aoJ];exact hn n hn'
theorem zu(v:Int):cg false v=v:=rfl
theorem jl(u:Nat):ai (u:Int)=(false,ah u):=rfl
theorem zA{u:Nat}(h:(ah u).length≤2):u≤(pw 2).toNat:=by
 have h1:=b9 (cd u);rw[bj]at h1;have h2:=dl h;omega
theorem aeo:(((pw 2).toNat:Nat):Int)<18446744073709551616:=by decide
theorem CF{k:Nat→Cfg→OLR}{u v:Nat}(hu:szI u≤1000000)(hv:szI v≤1000000){r:List RV}{H:Int→Int→Cfg}{D:Int→Cfg}
  (h1:v=0→r=[.d y2Y (ai (u:Int))]) (h2:v≠0→kE (ai (u:Int))=true→kE (ai (v:Int))=true→k 24 (H (u:Int) (v:Int))=some r) (h3:v≠0→k 6 (D ((u%v:Nat):Int))=some r) (D':List Int→Cfg) (hD:D' (dvR (ah u) (ah v))=D (val (dvR (ah u) (ah v)))):
  (match decide (((ah v).length:Int)>0)with
   |true=>(match decide (okI (ai (u:Int)))with
    |true=>(match decide (okI (ai (v:Int)))with
     |true=>(match kE (ai (u:Int))with
      |true=>(match kE (ai (v:Int))with
       |true=>k 24 (H (yQ (ai (u:Int))) (yQ (ai (v:Int))))
       |false=>(match decide (oM (ah u) (ah v))with
        |true=>(match decide (aR (dvR (ah u) (ah v)))with
         |true=>k 6 (D' (dvR (ah u) (ah v)))
         |false=>none)
        |false=>none))
      |false=>(match decide (oM (ah u) (ah v))with
        |true=>(match decide (aR (dvR (ah u) (ah v)))with
         |true=>k 6 (D' (dvR (ah u) (ah v)))
         |false=>none)
        |false=>none))
     |false=>none)
    |false=>none)
   |false=>(match decide ((ah u).length*4≤140737488355328∧(ah u).length≤140737488355328)with
    |true=>(match decide (aR (ah u))with
     |true=>some [.d y2Y (ai (cg false (val (ah u))))]
     |false=>none)
    |false=>none))=some r:=by
 have lu:(ah u).length≤1000000:=by have:=hu;unfold szI at this;rwa [aob]at this
 have lv:(ah v).length≤1000000:=by have:=hv;unfold szI at this;rwa [aob]at this
 rcases anx v with h0|h0
 ·subst h0;rw[h1 rfl,show decide (((ah 0).length:Int)>0)=false from rfl,amE (show(ah u).length*4≤140737488355328∧(ah u).length≤140737488355328 by omega),amE (show aR (ah u) from⟨cd u,by omega⟩),bj];rfl
 ·have hne:ah v≠[]:=fun e=>by rw[gV]at e;omega
  have hl:=anm.2 hne;have hvv:=bj v;have hvu:=bj u;have hdv:oM (ah u) (ah v):=⟨⟨cd u,by omega⟩,⟨cd v,by omega⟩,by omega⟩
  obtain⟨_,lr,_,sr,_,vr⟩:=XN hdv
  have hD2:k 6 (D' (dvR (ah u) (ah v)))=some r:=by
   rw[hD,vr,hvv,hvu];exact h3 (by omega)
  rw[amE (by omega),amE (aV hu),amE (aV hv),amE hdv,amE (show aR (dvR (ah u) (ah v)) from⟨lr,by omega⟩)];dsimp only;cases hb1:kE (ai (u:Int))
  ·exact hD2
  ·cases hb2:kE (ai (v:Int))
   ·exact hD2
   ·dsimp only;have:=h2 (by omega) hb1 hb2;unfold yQ;rw[hb1,hb2];simp only[cond_true,jl];rw[hvv,hvu];exact this
theorem Rp(x y:BI):∀(v u:Nat),szI u≤1000000→szI v≤1000000→
  ir.RunsE 6 (mf x y false (ah u) false (ah v)) [.d y2Y (ai ((Nat.gcd u v:Nat):Int))]∧ir.RunsE 6 (gn x y false (ah v) false (ah u)) [.d y2Y (ai ((Nat.gcd u v:Nat):Int))]:=by
 intro v;induction v using Nat.strongRecOn with
 |ind v ih=>
  intro u hu hv
  have hw:kE (ai (u:Int))=true→kE (ai (v:Int))=true→ir.RunsE 24 (jg x y (u:Int) (v:Int)) [.d y2Y (ai ((Nat.gcd u v:Nat):Int))]:=fun h1 h2=>by
   unfold kE at h1 h2;rw[jl]at h1 h2;exact PW x y _ aeo v u (zA (amH h1)) (zA (amH h2))
  have hd:v≠0→ir.RunsE 6 (mf x y false (ah v) false (ah (u%v))) [.d y2Y (ai ((Nat.gcd u v:Nat):Int))]∧ir.RunsE 6 (gn x y false (ah (u%v)) false (ah v)) [.d y2Y (ai ((Nat.gcd u v:Nat):Int))]:=fun h0=>by
   have hm:=apv u (Nat.pos_of_ne_zero h0);have:=ih (u%v) hm v hv (amS (dA (by omega)) hv);rw[aoJ u v,Nat.gcd_rec v u,aoJ (u%v) v];exact this
  have hcommon:∃n0,∀n,n0≤n→(kE (ai (u:Int))=true→kE (ai (v:Int))=true→ir.k n 24 (jg x y (u:Int) (v:Int))=some [.d y2Y (ai ((Nat.gcd u v:Nat):Int))])∧(v≠0→ir.k n 6 (mf x y false (ah v) false (ah (u%v)))=some [.d y2Y (ai ((Nat.gcd u v:Nat):Int))]∧ir.k n 6 (gn x y false (ah (u%v)) false (ah v))=some [.d y2Y (ai ((Nat.gcd u v:Nat):Int))]):=by
   have g1:∃n1,∀n,n1≤n→(kE (ai (u:Int))=true→kE (ai (v:Int))=true→ir.k n 24 (jg x y (u:Int) (v:Int))=some [.d y2Y (ai ((Nat.gcd u v:Nat):Int))]):=by
    by_cases hb:kE (ai (u:Int))=true∧kE (ai (v:Int))=true
    ·obtain⟨n,h⟩:=hw hb.1 hb.2;exact⟨n,fun m hm _ _=>h m hm⟩
    ·exact⟨0,fun n _ h1 h2=>absurd ⟨h1,h2⟩ hb⟩
   have g2:∃n1,∀n,n1≤n→(v≠0→ir.k n 6 (mf x y false (ah v) false (ah (u%v)))=some [.d y2Y (ai ((Nat.gcd u v:Nat):Int))]∧ir.k n 6 (gn x y false (ah (u%v)) false (ah v))=some [.d y2Y (ai ((Nat.gcd u v:Nat):Int))]):=by
    by_cases hb:v=0
    ·exact⟨0,fun n _ h=>absurd hb h⟩
    ·obtain⟨⟨n1,h1⟩,⟨n2,h2⟩⟩:=hd hb;exact⟨max n1 n2,fun n hn _=>⟨h1 n (by omega),h2 n (by omega)⟩⟩
   obtain⟨n1,h1⟩:=g1;obtain⟨n2,h2⟩:=g2;exact⟨max n1 n2,fun n hn=>⟨h1 n (by omega),h2 n (by omega)⟩⟩
  obtain⟨n0,hc⟩:=hcommon;have hz:v=0→([.d y2Y (ai ((Nat.gcd u v:Nat):Int))]:List RV)=[.d y2Y (ai (u:Int))]:=fun e=>by subst e;rw[Nat.gcd_zero_right]
  constructor
  ·refine Mu _ _ _ _ _ _ ⟨n0,fun n hn=>?_⟩;have:=CF (k:=ir.k n) hu hv (H:=fun a b=>jg x y a b) (D:=fun z=>mf x y false (ah v) (ai z).1 (ai z).2) hz (fun _ h1 h2=>(hc n hn).1 h1 h2) (fun h0=>by rw[jl];exact((hc n hn).2 h0).1) (fun l=>mf x y false (ah v) (ai (cg false (val l))).1 (ai (cg false (val l))).2) rfl;rw[jl,jl]at this;exact this
  ·refine Fc _ _ _ _ _ _ ⟨n0,fun n hn=>?_⟩;have:=CF (k:=ir.k n) hu hv (H:=fun a b=>jg x y a b) (D:=fun z=>gn x y (ai z).1 (ai z).2 false (ah v)) hz (fun _ h1 h2=>(hc n hn).1 h1 h2) (fun h0=>by rw[jl];exact((hc n hn).2 h0).2) (fun l=>gn x y (ai (cg false (val l))).1 (ai (cg false (val l))).2 false (ah v)) rfl;rw[jl,jl]at this;exact this
theorem Un(x y:BI)(h:okI x∧okI y):CQ 301 [.d y2Y x,.d y2Y y] [.d y2Y (ai ((Int.gcd (ae x) (ae y):Nat):Int))]:=by
 refine fV Kw (show ir.Res _ _ _ from ?_);obtain⟨hx,hy⟩:=h;obtain⟨x0,_,_⟩:=cL hx;obtain⟨y0,_,_⟩:=cL hy;have ex:((ae x).natAbs:Int)=val x.2:=by rw[bO];unfold cg;cases x.1<;>simp<;>omega
 have ey:((ae y).natAbs:Int)=val y.2:=by rw[bO];unfold cg;cases y.1<;>simp<;>omega
 have szx:szI ((ae x).natAbs:Int)≤1000000:=amS (dA (by omega)) (iK hx);have szy:szI ((ae y).natAbs:Int)≤1000000:=amS (dA (by omega)) (iK hy);obtain⟨⟨n1,h1⟩,⟨n2,h2⟩⟩:=Rp x y (ae y).natAbs (ae x).natAbs szx szy;refine ahy _ _ ⟨max n1 n2,?_⟩;have h1:=h1 (max n1 n2) (by omega);have h2:=h2 (max n1 n2) (by omega);unfold XA;simp only[eZ];rw[amE (ge hx),amE (ge hy),zu,zu,←ex,←ey,jl,jl];dsimp only;rw[h1,h2];simp only[cX];rfl
abbrev BR:=BI×BI
def ak(q:Rat):BR:=(ai q.num,ai (q.den:Int))
def ag(x:BR):Rat:=mkRat (ae x.1) (ae x.2).toNat
theorem ck(q:Rat):ag (ak q)=q:=by simp[ag,ak,dec_enc]
def okR(x:BR):Prop:=okI x.1∧okI x.2∧0<ae x.2∧Int.gcd (ae x.1) (ae x.2)=1∧x.1.2.length≤480000∧x.2.2.length≤480000
instance (x:BR):Decidable (okR x):=by unfold okR;infer_instance
def o1(x:BR):Bool:=decide (okR x)
def o2(x y:BR):Bool:=decide (okR x∧okR y)
theorem aj2(x:BR):o1 x=decide (okR x):=rfl
theorem ake(x y:BR):o2 x y=(decide (okR x)&&decide (okR y)):=aoz _ _
theorem cS{x:BR}(h:okR x):(ag x).num=ae x.1∧((ag x).den:Int)=ae x.2:=by
 obtain⟨h1,h2,h3,h4,_⟩:=h;unfold ag;rw[apC,apD]
 have hg:(ae x.2).toNat.gcd (ae x.1).natAbs=1:=by
  rwa [aoJ,show(ae x.2).toNat=(ae x.2).natAbs by omega]
 grind
theorem Qg{x:BR}(h:okR x):x=ak (ag x):=by
 obtain⟨e1,e2⟩:=cS h;unfold ak;rw[e1,e2,←io h.1,←io h.2.1]
def bdR(k:Nat)(q:Rat):Prop:=szI q.num≤k∧szI (q.den:Int)≤k
theorem ql{q:Rat}{k:Nat}(h:bdR k q)(hk:k≤480000):okR (ak q):=by
 obtain⟨h1,h2⟩:=h;have hd:=q.den_pos;refine⟨aV (by omega),aV (by omega),?_,?_,by show szI q.num≤480000;omega,by show szI (q.den:Int)≤480000;omega⟩
 ·show 0<ae (ai (q.den:Int));grind [dec_enc]
 ·show Int.gcd (ae (ai q.num)) (ae (ai (q.den:Int)))=1;rw[dec_enc,dec_enc];exact q.reduced
theorem BU{x:BR}(h:okR x):bdR 480000 (ag x):=by
 obtain⟨e1,e2⟩:=cS h;obtain⟨h1,h2,_,_,h5,h6⟩:=h;unfold bdR szI;rw[e1,e2];rw[io h1]at h5;rw[io h2]at h6;exact⟨h5,h6⟩
theorem bJ{j k:Nat}{q:Rat}(h:bdR j q)(hk:j≤k):bdR k q:=⟨amS h.1 hk,amS h.2 hk⟩
theorem Jx(a:Int)(g:Nat):(a/(g:Int)).natAbs≤a.natAbs∨¬(g:Int)∣a:=by
 by_cases h:(g:Int)∣a
 ·obtain⟨k,rfl⟩:=h;rcases anx g with h0|h0
  ·grind
  ·rw[aoS _ (by omega),apr];simp_all [Nat.le_mul_of_pos_left]
 grind
theorem uD{n:Int}{d k:Nat}(hd:d≠0)(h1:szI n≤k)(h2:szI (d:Int)≤k):bdR k (mkRat n d):=by
 unfold bdR;rw[apC,apD,am0 hd,am0 hd];constructor
 ·refine amS (dA ?_) h1;grind [Jx,Nat.gcd_dvd_right,Int.ofNat_dvd_left]
 ·exact amS (dA (by rw[aob,aob];exact Nat.div_le_self _ _)) h2
theorem vU{k:Nat}{a:Rat}(h:bdR k a):bdR k (-a):=by
 refine⟨?_,h.2⟩;rw[Rat.neg_num,je];exact h.1
theorem A4{j k:Nat}{a b:Rat}(ha:bdR j a)(hb:bdR k b):bdR (j+k+1) (a+b):=by
 rw[Rat.add_def'];have d1:=a.den_pos;have d2:=b.den_pos;refine uD (ape (by omega) (by omega)) (wd (cW ha.1 hb.2) ?_) ?_
 ·rw[Nat.add_comm];exact cW hb.1 ha.2
 ·rw[an9];exact amS (cW ha.2 hb.2) (by omega)
theorem Te{j k:Nat}{a b:Rat}(ha:bdR j a)(hb:bdR k b):bdR (j+k+1) (a-b):=by grind [ao6,A4,vU]
theorem As{j k:Nat}{a b:Rat}(ha:bdR j a)(hb:bdR k b):bdR (j+k) (a*b):=by
 rw[Rat.mul_def'];have d1:=a.den_pos;have d2:=b.den_pos;refine uD (ape (by omega) (by omega)) (cW ha.1 hb.1) ?_;exact cW ha.2 hb.2
theorem Td{k:Nat}{a:Rat}(h:bdR k a)(h0:a≠0):bdR k a⁻¹:=by
 have hn:a.num≠0:=fun e=>h0 (Rat.num_eq_zero.1 e);rw[Rat.inv_def];rcases aot hn with h1|h1
 ·rw[←Rat.neg_divInt_neg,show-a.num=(((-a.num).toNat:Nat):Int) by omega,ao1];refine uD (by omega) (by rw[je];exact h.2) ?_;rw[show(((-a.num).toNat:Nat):Int)= -a.num by omega,je];exact h.1
 ·rw[show a.num=((a.num.toNat:Nat):Int) by omega,ao1];refine uD (by omega) h.2 ?_;rw[show((a.num.toNat:Nat):Int)=a.num by omega];exact h.1
theorem T4{j k:Nat}{a b:Rat}(ha:bdR j a)(hb:bdR k b)(h0:b≠0):bdR (j+k) (a/b):=by grind [As,Td]
def fp(x y:BI):BR:=ak (Rat.divInt (ae x) (ae y))
def jQ(x y:BI):Prop:=okI x∧okI y∧ae y≠0
instance (x y:BI):Decidable (jQ x y):=by unfold jQ;infer_instance
theorem nQ{n d:Int}(hd:0<d):ak (Rat.divInt n d)=(ai (n/(Int.gcd n d:Int)),ai (d/(Int.gcd n d:Int))):=by
 obtain⟨D,rfl⟩:=anO (ank hd);unfold ak;rw[ao1,apC,apD,am0 (by omega),am0 (by omega)];have e:Int.gcd n (D:Int)=D.gcd n.natAbs:=by rw[aoJ];rfl
 grind
def u7:eg:=spN true false [y2Y] (fun x=>decide (okI x.1)) (fun x=>[RV.d apY (cB (ae x.1) 0)])
theorem oO:SpK 83 u7:=spX fun x h=>UA x.1 (amH h)
def rF:eg:=spN true false [y2Y,y2Y] (fun x=>decide (okI x.1∧okI x.2.1)) (fun x=>[RV.d apY (cB (ae x.1) (ae x.2.1))])
theorem mS:SpK 172 rF:=spX fun x h=>Ix x.1 x.2.1 (amH h)
def uj:eg:=spN false false [y2Y] (fun x=>decide (okI x.1)) (fun x=>[RV.d y2Y (ai (-ae x.1))])
theorem pT:SpK 216 uj:=spX fun x h=>IR x.1 (amH h)
def uZ:eg:=spN false false [y2Y,y2Y] (fun x=>decide (okI x.1∧okI x.2.1)) (fun x=>[RV.d y2Y (ai (ae x.1*ae x.2.1))])
theorem pI:SpK 173 uZ:=spX fun x h=>Hw x.1 x.2.1 (amH h)
def Bw:eg:=spN false false [y2Y,y2Y] (fun x=>decide (fv x.1 x.2.1)) (fun x=>[RV.d y2Y (ai (ae x.1/ae x.2.1)),RV.d y2Y (ai (ae x.1%ae x.2.1)),RV.d apY 0])
theorem xF:SpK 341 Bw:=spX fun x h=>Ja x.1 x.2.1 (amH h)
def FQ:eg:=spN false false [y2Y,y2Y] (fun x=>decide (okI x.1∧okI x.2.1)) (fun x=>[RV.d y2Y (ai ((Int.gcd (ae x.1) (ae x.2.1):Nat):Int))])
theorem DJ:SpK 301 FQ:=spX fun x h=>Un x.1 x.2.1 (amH h)
def GC:Env:=[(210,pN),(83,u7),(172,rF),(215,pS),(216,uj),(173,uZ),(341,Bw),(301,FQ)]
theorem zP:EnvAll Tryz.prog GC:=⟨kS,oO,mS,kx,pT,pI,xF,DJ,trivial⟩
def agC:Ctx:=CX GC []
def YF(_k:KT):OLR:=og (decide (aG (1:Int))) (some [RV.d y2Y (ai (1:Int))])
theorem afL:RS agC 299 [] (YF):=rsX
def afo:Ctx:=CX GC []
def Zb(x y:Bool×List Int)(_k:KT):OLR:=og (decide (fv x y)) (some [RV.d y2Y (ai (ae x/ae y))])
theorem aie(x y:Bool×List Int):RS afo 302 [.d y2Y x,.d y2Y y] (Zb x y):=rsX
theorem UB:CQ 299 [] [.d y2Y (ai 1)]:=by
 refine fV zP (afL ⟨0,?_⟩);unfold YF;rw[amE (show aG 1 by decide)]
theorem Tn(x y:BI)(h:fv x y):CQ 302 [.d y2Y x,.d y2Y y] [.d y2Y (ai (ae x/ae y))]:=by
 refine fV zP (aie _ _ ⟨0,?_⟩);unfold Zb;rw[amE h]
def xg:eg:=spN false false [] (fun _=>true) (fun _=>[RV.d y2Y (ai 1)])
theorem r8:SpK 299 xg:=spX fun _ _=>UB
def Mp:eg:=spN false false [y2Y,y2Y] (fun x=>decide (fv x.1 x.2.1)) (fun x=>[RV.d y2Y (ai (ae x.1/ae x.2.1))])
theorem Qp:SpK 302 Mp:=spX fun x h=>Tn x.1 x.2.1 (amH h)
def SK:Env:=[(210,pN),(83,u7),(172,rF),(215,pS),(216,uj),(173,uZ),(341,Bw),(301,FQ),(299,xg),(302,Mp)]
theorem Kd:EnvAll Tryz.prog SK:=⟨kS,oO,mS,kx,pT,pI,xF,DJ,r8,Qp,trivial⟩
def ajR:Ctx:=CX SK []
def Zk(x y:Bool×List Int)(_k:KT):OLR:=match decide (okI y)with|true=>(match decide ((cB (ae y) 0)<0)with|true=>(match decide (okI x)with|true=>(match decide (okI y)with|true=>(match decide (okI (ai (-ae x))∧okI (ai (-ae y)))with|true=>(match decide (okI (ai ((Int.gcd (ae (ai (-ae x))) (ae (ai (-ae y))):Nat):Int))∧okI (ai 1))with|true=>(match(cB (ae (ai ((Int.gcd (ae (ai (-ae x))) (ae (ai (-ae y))):Nat):Int))) (ae (ai 1))) !=0 with|true=>(match decide (fv (ai (-ae x)) (ai ((Int.gcd (ae (ai (-ae x))) (ae (ai (-ae y))):Nat):Int)))with|true=>(match decide (fv (ai (-ae y)) (ai ((Int.gcd (ae (ai (-ae x))) (ae (ai (-ae y))):Nat):Int)))with|true=>some [RV.d (.st (.pair y2Y y2Y)) ((ai (ae (ai (-ae x))/ae (ai ((Int.gcd (ae (ai (-ae x))) (ae (ai (-ae y))):Nat):Int)))),(ai (ae (ai (-ae y))/ae (ai ((Int.gcd (ae (ai (-ae x))) (ae (ai (-ae y))):Nat):Int)))))]|false=>none)|false=>none)|false=>some [RV.d (.st (.pair y2Y y2Y)) ((ai (-ae x)),(ai (-ae y)))])|false=>none)|false=>none)|false=>none)|false=>none)|false=>(match decide (okI x∧okI y)with|true=>(match decide (okI (ai ((Int.gcd (ae x) (ae y):Nat):Int))∧okI (ai 1))with|true=>(match(cB (ae (ai ((Int.gcd (ae x) (ae y):Nat):Int))) (ae (ai 1))) !=0 with|true=>(match decide (fv x (ai ((Int.gcd (ae x) (ae y):Nat):Int)))with|true=>(match decide (fv y (ai ((Int.gcd (ae x) (ae y):Nat):Int)))with|true=>some [RV.d (.st (.pair y2Y y2Y)) ((ai (ae x/ae (ai ((Int.gcd (ae x) (ae y):Nat):Int)))),(ai (ae y/ae (ai ((Int.gcd (ae x) (ae y):Nat):Int)))))]|false=>none)|false=>none)|false=>some [RV.d (.st (.pair y2Y y2Y)) (x,y)])|false=>none)|false=>none))|false=>none
theorem agG(x y:Bool×List Int):RS ajR 214 [.d y2Y x,.d y2Y y] (Zk x y):=rsX
theorem Rb{a b:Int}(hb:b≠0){k:Nat}(h:szI b≤k):szI ((Int.gcd a b:Nat):Int)≤k:=by
 refine amS (dA ?_) h;exact Nat.le_of_dvd (by omega) (Nat.gcd_dvd_right a.natAbs b.natAbs)
theorem Ti(x y:BI)(h:jQ x y):CQ 214 [.d y2Y x,.d y2Y y] [.d (.st (.pair y2Y y2Y)) (fp x y)]:=by
 refine fV Kd (agG _ _ ⟨0,?_⟩);obtain⟨hx,hy,hne⟩:=h;have sx:=iK hx;have sy:=iK hy;have hgp:0<Int.gcd (ae x) (ae y):=Nat.pos_of_ne_zero fun e=>hne (Int.gcd_eq_zero_iff.1 e).2;have hgs:=Rb (a:=ae x) hne sy;unfold Zk fp;rw[amE hy];dsimp only;rcases aot hne with hn|hn
 ·rw[db hn,amE (show(-1:Int)<0 by decide),amE hx];have o1:okI (ai (-ae x)):=aV (by rw[je];exact sx);have o2:okI (ai (-ae y)):=aV (by rw[je];exact sy);simp only[dec_enc,Int.gcd_neg,Int.neg_gcd];have og:okI (ai ((Int.gcd (ae x) (ae y):Nat):Int)):=aV hgs;rw[amE (show okI (ai (-ae x))∧okI (ai (-ae y)) from⟨o1,o2⟩),amE (show okI (ai ((Int.gcd (ae x) (ae y):Nat):Int))∧okI (ai 1) from⟨og,qA⟩)];rw[←Rat.neg_divInt_neg,nQ (by omega),Int.gcd_neg,Int.neg_gcd];dsimp only;by_cases h1:Int.gcd (ae x) (ae y)=1
  ·rw[h1];simp[dW]
  ·have hc:(cB ((Int.gcd (ae x) (ae y):Nat):Int) 1 !=0)=true:=by
    rw[cV (by omega)];rfl
   rw[hc,amE (show fv (ai (-ae x)) (ai ((Int.gcd (ae x) (ae y):Nat):Int)) from⟨o1,og,by rw[dec_enc];omega⟩),amE (show fv (ai (-ae y)) (ai ((Int.gcd (ae x) (ae y):Nat):Int)) from⟨o2,og,by rw[dec_enc];omega⟩)]
 ·rw[cV hn,amG (show ¬(1:Int)<0 by decide)];simp only[dec_enc];have og:okI (ai ((Int.gcd (ae x) (ae y):Nat):Int)):=aV hgs;rw[amE (show okI x∧okI y from⟨hx,hy⟩),amE (show okI (ai ((Int.gcd (ae x) (ae y):Nat):Int))∧okI (ai 1) from⟨og,qA⟩),nQ hn];dsimp only;by_cases h1:Int.gcd (ae x) (ae y)=1
  ·rw[h1];simp only[Int.natCast_one,dW,Int.ediv_one,←io hx,←io hy];rfl
  ·have hc:(cB ((Int.gcd (ae x) (ae y):Nat):Int) 1 !=0)=true:=by
    rw[cV (by omega)];rfl
   rw[hc,amE (show fv x (ai ((Int.gcd (ae x) (ae y):Nat):Int)) from⟨hx,og,by rw[dec_enc];omega⟩),amE (show fv y (ai ((Int.gcd (ae x) (ae y):Nat):Int)) from⟨hy,og,by rw[dec_enc];omega⟩)]
def aD(a b:Rat):Int:=bif decide (a<b)then-1 else bif decide (b<a)then 1 else 0
theorem dH{a b:Rat}(h:a<b):aD a b= -1:=by grind [aD]
theorem dk{a b:Rat}(h:b<a):aD a b=1:=by grind [aD]
theorem d7(a:Rat):aD a a=0:=by simp[aD]
theorem yJ(a b:Rat):cB (a.num*(b.den:Int)) (b.num*(a.den:Int))=aD a b:=by simp[cB,aD,Rat.lt_iff]
theorem uU(a:Rat):cB a.num 0=aD a 0:=by
 rw[←yJ];simp
def Bn:eg:=spN false false [y2Y,y2Y] (fun x=>decide (jQ x.1 x.2.1)) (fun x=>[RV.d (.st (.pair y2Y y2Y)) (fp x.1 x.2.1)])
theorem yb:SpK 214 Bn:=spX fun x h=>Ti x.1 x.2.1 (amH h)
def abm:NT:=[((171,3),{keep:=[0,1,8],hl:=0}),((171,5),{keep:=[0,1,5,10],hl:=0})]
def agn:Ctx:=CX [] abm
def aaU(x y:Int)(_k:KT):OLR:=match x !=x with|true=>(match y !=y with|true=>some [RV.d apY 0]|false=>some [RV.d apY (-1)])|false=>(match y !=y with|true=>some [RV.d apY 1]|false=>(match decide (x<y)with|true=>some [RV.d apY (-1)]|false=>(match decide (x>y)with|true=>some [RV.d apY 1]|false=>some [RV.d apY 0])))
theorem ae3(x y:Int):RS agn 171 [SI x,SI y] (aaU x y):=rsX
theorem VE(x y:Int):CQ 171 [.d apY x,.d apY y] [.d apY (cB x y)]:=by
 refine fV (E:=[]) trivial (ae3 _ _ ⟨0,?_⟩);unfold aaU;rw[show(x !=x)=false by simp,show(y !=y)=false by simp];dsimp only;rcases Int.lt_trichotomy x y with h|h|h
 ·rw[db h,amE h]
 ·subst h;rw[dW,amG (show ¬x<x by omega)]
 ·rw[cV h,amG (show ¬x<y by omega),amE (show x>y from h)]
def Ar:eg:=spN true false [apY,apY] (fun _=>true) (fun x=>[RV.d apY (cB x.1 x.2.1)])
theorem xh:SpK 171 Ar:=spX fun x _=>VE x.1 x.2.1
def GA:Env:=[(210,pN),(83,u7),(172,rF),(215,pS),(216,uj),(173,uZ),(299,xg),(214,Bn),(171,Ar)]
theorem zS:EnvAll Tryz.prog GA:=⟨kS,oO,mS,kx,pT,pI,r8,yb,xh,trivial⟩
def ajP:Ctx:=CX GA []
def ae8(x:Bool×List Int)(_k:KT):OLR:=some [RV.d (.st (.pair y2Y y2Y)) (x,(ai 1))]
theorem aiP(x:Bool×List Int):RS ajP 209 [.d y2Y x] (ae8 x):=rsX
theorem TS(x:BI):CQ 209 [.d y2Y x] [.d (.st (.pair y2Y y2Y)) (x,ai 1)]:=
 fV zS (aiP _ ⟨0,rfl⟩)
def Fd:eg:=spN false false [y2Y] (fun _=>true) (fun x=>[RV.d (.st (.pair y2Y y2Y)) (x.1,ai 1)])
theorem C2:SpK 209 Fd:=spX fun x _=>TS x.1
def ajt:Ctx:=CX GA []
def Yt(a:(Bool×List Int)×Bool×List Int)(_k:KT):OLR:=og (decide (okI a.1)) (some [RV.d apY (cB (ae a.1) 0)])
theorem afK(a:(Bool×List Int)×Bool×List Int):RS ajt 41 [.d (.st (.pair y2Y y2Y)) a] (Yt a):=rsX
theorem In(a:BR)(h:okR a):CQ 41 [.d (.st (.pair y2Y y2Y)) a] [.d apY (aD (ag a) 0)]:=by
 refine fV zS (afK _ ⟨0,?_⟩);unfold Yt;rw[amE h.1,←uU,(cS h).1]
def Ft:eg:=spN true false [(.st (.pair y2Y y2Y))] (fun x=>decide (okR x.1)) (fun x=>[RV.d apY (aD (ag x.1) 0)])
theorem DV:SpK 41 Ft:=spX fun x h=>In x.1 (amH h)
def nW:Env:=[(210,pN),(83,u7),(172,rF),(215,pS),(216,uj),(173,uZ),(299,xg),(214,Bn),(171,Ar),(209,Fd),(41,Ft)]
theorem iI:EnvAll Tryz.prog nW:=⟨kS,oO,mS,kx,pT,pI,r8,yb,xh,C2,DV,trivial⟩
def aja:Ctx:=CX nW []
def Xg(n:Int)(_k:KT):OLR:=og (decide (aG n)) (some [RV.d (.st (.pair y2Y y2Y)) ((ai n),(ai 1))])
theorem agW(n:Int):RS aja 99 [SI n] (Xg n):=rsX
def af5:Ctx:=CX nW []
def Yy(a b:(Bool×List Int)×Bool×List Int)(_k:KT):OLR:=match decide (okR a)with|true=>(match decide (okR b)with|true=>(match(cB (aD (ag a) 0) (aD (ag b) 0)) !=0 with|true=>some [RV.d apY (cB (aD (ag a) 0) (aD (ag b) 0))]|false=>(match decide (okI a.1∧okI b.2)with|true=>(match decide (okI b.1∧okI a.2)with|true=>(match decide (okI (ai (ae a.1*ae b.2))∧okI (ai (ae b.1*ae a.2)))with|true=>some [RV.d apY (cB (ae (ai (ae a.1*ae b.2))) (ae (ai (ae b.1*ae a.2))))]|false=>none)|false=>none)|false=>none))|false=>none)|false=>none
theorem aiF(a b:(Bool×List Int)×Bool×List Int):RS af5 73 [.d (.st (.pair y2Y y2Y)) a,.d (.st (.pair y2Y y2Y)) b] (Yy a b):=rsX
def ahq:Ctx:=CX nW []
def Zn(a b:(Bool×List Int)×Bool×List Int)(_k:KT):OLR:=match decide (okI a.2∧okI b.2)with|true=>(match(cB (ae a.2) (ae b.2))==0 with|true=>(match decide (okI a.1∧okI b.1)with|true=>(match decide (jQ (ai (ae a.1+ae b.1)) a.2)with|true=>some [RV.d (.st (.pair y2Y y2Y)) (((fp (ai (ae a.1+ae b.1)) a.2).1),((fp (ai (ae a.1+ae b.1)) a.2).2))]|false=>none)|false=>none)|false=>(match decide (okI a.1∧okI b.2)with|true=>(match decide (okI b.1∧okI a.2)with|true=>(match decide (okI (ai (ae a.1*ae b.2))∧okI (ai (ae b.1*ae a.2)))with|true=>(match decide (okI a.2∧okI b.2)with|true=>(match decide (jQ (ai (ae (ai (ae a.1*ae b.2))+ae (ai (ae b.1*ae a.2)))) (ai (ae a.2*ae b.2)))with|true=>some [RV.d (.st (.pair y2Y y2Y)) (((fp (ai (ae (ai (ae a.1*ae b.2))+ae (ai (ae b.1*ae a.2)))) (ai (ae a.2*ae b.2))).1),((fp (ai (ae (ai (ae a.1*ae b.2))+ae (ai (ae b.1*ae a.2)))) (ai (ae a.2*ae b.2))).2))]|false=>none)|false=>none)|false=>none)|false=>none)|false=>none))|false=>none
theorem agF(a b:(Bool×List Int)×Bool×List Int):RS ahq 107 [.d (.st (.pair y2Y y2Y)) a,.d (.st (.pair y2Y y2Y)) b] (Zn a b):=rsX
def ajk:Ctx:=CX nW []
def Yp(a:(Bool×List Int)×Bool×List Int)(_k:KT):OLR:=og (decide (okI a.1)) (some [RV.d (.st (.pair y2Y y2Y)) ((ai (-ae a.1)),a.2)])
theorem aj3(a:(Bool×List Int)×Bool×List Int):RS ajk 109 [.d (.st (.pair y2Y y2Y)) a] (Yp a):=rsX
def ae0:Ctx:=CX nW []
def aaM(a b:(Bool×List Int)×Bool×List Int)(_k:KT):OLR:=og (decide (okI a.1∧okI b.1)) (og (decide (okI a.2∧okI b.2)) (og (decide (jQ (ai (ae a.1*ae b.1)) (ai (ae a.2*ae b.2)))) (some [RV.d (.st (.pair y2Y y2Y)) (((fp (ai (ae a.1*ae b.1)) (ai (ae a.2*ae b.2))).1),((fp (ai (ae a.1*ae b.1)) (ai (ae a.2*ae b.2))).2))])))
theorem ag0(a b:(Bool×List Int)×Bool×List Int):RS ae0 108 [.d (.st (.pair y2Y y2Y)) a,.d (.st (.pair y2Y y2Y)) b] (aaM a b):=rsX
def ajx:Ctx:=CX nW []
def W8(a b:(Bool×List Int)×Bool×List Int)(_k:KT):OLR:=match decide (okR b)with|true=>(match(aD (ag b) 0)==0 with|true=>some [RV.d (.st (.pair y2Y y2Y)) ((false,[]),(false,[])),RV.d apY 6]|false=>(match decide (okI a.1∧okI b.2)with|true=>(match decide (okI a.2∧okI b.1)with|true=>(match decide (jQ (ai (ae a.1*ae b.2)) (ai (ae a.2*ae b.1)))with|true=>some [RV.d (.st (.pair y2Y y2Y)) (((fp (ai (ae a.1*ae b.2)) (ai (ae a.2*ae b.1))).1),((fp (ai (ae a.1*ae b.2)) (ai (ae a.2*ae b.1))).2)),RV.d apY 0]|false=>none)|false=>none)|false=>none))|false=>none
theorem ah3(a b:(Bool×List Int)×Bool×List Int):RS ajx 305 [.d (.st (.pair y2Y y2Y)) a,.d (.st (.pair y2Y y2Y)) b] (W8 a b):=rsX
theorem Uu(n:Int)(h:aG n):CQ 99 [.d apY n] [.d (.st (.pair y2Y y2Y)) (ak (n:Rat))]:=by
 refine fV iI (agW _ ⟨0,?_⟩);unfold Xg ak;rw[amE h,Rat.num_intCast,Rat.den_intCast];rfl
theorem gf{a:BR}(h:okR a):szI (ae a.1)≤480000∧szI (ae a.2)≤480000:=by
 have h1:=BU h;grind [cS,bdR]
theorem KM(a b:Rat):(cB (aD a 0) (aD b 0)≠0→cB (aD a 0) (aD b 0)=aD a b):=by
 rcases(by grind:a<0∨a=0∨0<a)with h1|h1|h1<;>rcases(by grind:b<0∨b=0∨0<b)with h2|h2|h2
 ·grind [dH,dW]
 ·rw[dH h1,h2,d7,dH h1];intro;rfl
 ·rw[dH h1,dk h2,dH (by grind)];intro;rfl
 ·rw[h1,d7,dH h2,dk h2];intro;rfl
 ·grind [d7,dW]
 ·rw[h1,d7,dk h2,dH h2];intro;rfl
 ·rw[dk h1,dH h2,dk (by grind)];intro;rfl
 ·rw[dk h1,h2,d7,dk h1];intro;rfl
 grind [dk,dW]
theorem Uf(a b:BR)(h:okR a∧okR b):CQ 73 [.d (.st (.pair y2Y y2Y)) a,.d (.st (.pair y2Y y2Y)) b] [.d apY (aD (ag a) (ag b))]:=by
 refine fV iI (aiF _ _ ⟨0,?_⟩);obtain⟨ha,hb⟩:=h;obtain⟨a1,a2⟩:=cS ha;obtain⟨b1,b2⟩:=cS hb;obtain⟨sa1,sa2⟩:=gf ha;obtain⟨sb1,sb2⟩:=gf hb;have h1:=cW sa1 sb2;have h2:=cW sb1 sa2;unfold Yy;rw[amE ha,amE hb];dsimp only;have hs:=KM (ag a) (ag b);by_cases hc:cB (aD (ag a) 0) (aD (ag b) 0)=0
 ·rw[hc,amE (show okI a.1∧okI b.2 from⟨ha.1,hb.2.1⟩),amE (show okI b.1∧okI a.2 from⟨hb.1,ha.2.1⟩),amE (show okI (ai (ae a.1*ae b.2))∧okI (ai (ae b.1*ae a.2)) from⟨aV (by omega),aV (by omega)⟩),dec_enc,dec_enc,←a1,←a2,←b1,←b2,yJ];rfl
 ·rw[show(cB (aD (ag a) 0) (aD (ag b) 0) !=0)=true by simpa using hc,hs hc]
theorem HD(a:BR)(h:okR a):CQ 109 [.d (.st (.pair y2Y y2Y)) a] [.d (.st (.pair y2Y y2Y)) (ak (-ag a))]:=by
 refine fV iI (aj3 _ ⟨0,?_⟩);obtain⟨a1,a2⟩:=cS h;unfold Yp
 have e:ak (-ag a)=(ai (-ae a.1),a.2):=by
  unfold ak;rw[Rat.neg_num,a1,show((-ag a).den:Int)=((ag a).den:Int) from rfl,a2,←io h.2.1]
 rw[amE h.1,e]
theorem Ie(a b:BR)(h:okR a∧okR b):CQ 107 [.d (.st (.pair y2Y y2Y)) a,.d (.st (.pair y2Y y2Y)) b] [.d (.st (.pair y2Y y2Y)) (ak (ag a+ag b))]:=by
 refine fV iI (agF _ _ ⟨0,?_⟩);obtain⟨ha,hb⟩:=h;obtain⟨a1,a2⟩:=cS ha;obtain⟨b1,b2⟩:=cS hb;obtain⟨sa1,sa2⟩:=gf ha;obtain⟨sb1,sb2⟩:=gf hb;have pa:=ha.2.2.1;have pb:=hb.2.2.1;have h1:=cW sa1 sb2;have h2:=cW sb1 sa2;have h3:=cW sa2 sb2;have h4:=wd h1 h2;have h5:=wd sa1 sb1;have hda:ag a=Rat.divInt (ae a.1) (ae a.2):=by rw[←a1,←a2,anI]
 have hdb:ag b=Rat.divInt (ae b.1) (ae b.2):=by rw[←b1,←b2,anI]
 unfold Zn;rw[amE (show okI a.2∧okI b.2 from⟨ha.2.1,hb.2.1⟩)];dsimp only;by_cases hc:ae a.2=ae b.2
 ·rw[hc,dW,amE (show okI a.1∧okI b.1 from⟨ha.1,hb.1⟩)];rw[amE (show jQ (ai (ae a.1+ae b.1)) a.2 from⟨aV (by omega),ha.2.1,by omega⟩)]
  have e:fp (ai (ae a.1+ae b.1)) a.2=ak (ag a+ag b):=by
   unfold fp;rw[dec_enc,hda,hdb,←hc,Rat.divInt_eq_div,Rat.divInt_eq_div,Rat.divInt_eq_div,Rat.intCast_add];congr 1;grind
  rw[e];rfl
 ·have hcm:(cB (ae a.2) (ae b.2)==0)=false:=by
   rcases aot hc with h|h
   ·rw[db h];rfl
   ·rw[cV h];rfl
  rw[hcm,amE (show okI a.1∧okI b.2 from⟨ha.1,hb.2.1⟩),amE (show okI b.1∧okI a.2 from⟨hb.1,ha.2.1⟩),amE (show okI (ai (ae a.1*ae b.2))∧okI (ai (ae b.1*ae a.2)) from⟨aV (by omega),aV (by omega)⟩)];simp only[dec_enc];rw[amE (show jQ (ai (ae a.1*ae b.2+ae b.1*ae a.2)) (ai (ae a.2*ae b.2)) from⟨aV (by omega),aV (by omega),by rw[dec_enc];exact apf (by omega) (by omega)⟩)]
  have e:fp (ai (ae a.1*ae b.2+ae b.1*ae a.2)) (ai (ae a.2*ae b.2))=ak (ag a+ag b):=by
   unfold fp;rw[dec_enc,dec_enc,hda,hdb,Rat.divInt_add_divInt _ _ (by omega) (by omega)]
  rw[e]
theorem We(a b:BR)(h:okR a∧okR b):CQ 108 [.d (.st (.pair y2Y y2Y)) a,.d (.st (.pair y2Y y2Y)) b] [.d (.st (.pair y2Y y2Y)) (ak (ag a*ag b))]:=by
 refine fV iI (ag0 _ _ ⟨0,?_⟩);obtain⟨ha,hb⟩:=h;obtain⟨a1,a2⟩:=cS ha;obtain⟨b1,b2⟩:=cS hb;obtain⟨sa1,sa2⟩:=gf ha;obtain⟨sb1,sb2⟩:=gf hb;have pa:=ha.2.2.1;have pb:=hb.2.2.1;have h1:=cW sa1 sb1;have h3:=cW sa2 sb2;have hda:ag a=Rat.divInt (ae a.1) (ae a.2):=by rw[←a1,←a2,anI]
 have hdb:ag b=Rat.divInt (ae b.1) (ae b.2):=by rw[←b1,←b2,anI]
 unfold aaM;rw[amE (show okI a.1∧okI b.1 from⟨ha.1,hb.1⟩),amE (show okI a.2∧okI b.2 from⟨ha.2.1,hb.2.1⟩),amE (show jQ (ai (ae a.1*ae b.1)) (ai (ae a.2*ae b.2)) from⟨aV (by omega),aV (by omega),by rw[dec_enc];exact apf (by omega) (by omega)⟩)]
 have e:fp (ai (ae a.1*ae b.1)) (ai (ae a.2*ae b.2))=ak (ag a*ag b):=by
  unfold fp;rw[dec_enc,dec_enc,hda,hdb,apg]
 rw[e]
def hZ(a b:BR):Prop:=okR a∧okR b∧ae b.1≠0
instance (a b:BR):Decidable (hZ a b):=by unfold hZ;infer_instance
theorem Wf(a b:BR)(h:hZ a b):CQ 305 [.d (.st (.pair y2Y y2Y)) a,.d (.st (.pair y2Y y2Y)) b] [.d (.st (.pair y2Y y2Y)) (ak (ag a/ag b)),.d apY 0]:=by
 refine fV iI (ah3 _ _ ⟨0,?_⟩);obtain⟨ha,hb,hne⟩:=h;obtain⟨a1,a2⟩:=cS ha;obtain⟨b1,b2⟩:=cS hb;obtain⟨sa1,sa2⟩:=gf ha;obtain⟨sb1,sb2⟩:=gf hb;have pa:=ha.2.2.1;have h1:=cW sa1 sb2;have h3:=cW sa2 sb1;have hda:ag a=Rat.divInt (ae a.1) (ae a.2):=by rw[←a1,←a2,anI]
 have hdb:ag b=Rat.divInt (ae b.1) (ae b.2):=by rw[←b1,←b2,anI]
 have hnz:(aD (ag b) 0==0)=false:=by
  rw[←uU,b1];rcases aot hne with h|h
  ·rw[db h];rfl
  ·rw[cV h];rfl
 unfold W8;rw[amE hb,hnz,amE (show okI a.1∧okI b.2 from⟨ha.1,hb.2.1⟩),amE (show okI a.2∧okI b.1 from⟨ha.2.1,hb.1⟩),amE (show jQ (ai (ae a.1*ae b.2)) (ai (ae a.2*ae b.1)) from⟨aV (by omega),aV (by omega),by rw[dec_enc];exact apf (by omega) hne⟩)]
 have e:fp (ai (ae a.1*ae b.2)) (ai (ae a.2*ae b.1))=ak (ag a/ag b):=by
  unfold fp;rw[dec_enc,dec_enc,hda,hdb,aph,Rat.inv_divInt,apg]
 rw[e]
def Px:eg:=spN false false [(.st (.pair y2Y y2Y)),(.st (.pair y2Y y2Y))] (fun x=>decide (okR x.1∧okR x.2.1)) (fun x=>[RV.d (.st (.pair y2Y y2Y)) (ak (ag x.1+ag x.2.1))])
theorem LC:SpK 107 Px:=spX fun x h=>Ie x.1 x.2.1 (amH h)
def Q8:eg:=spN false false [(.st (.pair y2Y y2Y))] (fun x=>decide (okR x.1)) (fun x=>[RV.d (.st (.pair y2Y y2Y)) (ak (-ag x.1))])
theorem Oe:SpK 109 Q8:=spX fun x h=>HD x.1 (amH h)
def Ip:Env:=[(210,pN),(83,u7),(172,rF),(215,pS),(216,uj),(173,uZ),(299,xg),(214,Bn),(171,Ar),(209,Fd),(41,Ft),(107,Px),(109,Q8)]
theorem Gk:EnvAll Tryz.prog Ip:=⟨kS,oO,mS,kx,pT,pI,r8,yb,xh,C2,DV,LC,Oe,trivial⟩
def afh:Ctx:=CX Ip []
def XK(a b:(Bool×List Int)×Bool×List Int)(_k:KT):OLR:=match decide (okR b)with|true=>(match decide (okR a∧okR (ak (-ag b)))with|true=>some [RV.d (.st (.pair y2Y y2Y)) (((ak (ag a+ag (ak (-ag b)))).1),((ak (ag a+ag (ak (-ag b)))).2))]|false=>none)|false=>none
theorem ai3(a b:(Bool×List Int)×Bool×List Int):RS afh 106 [.d (.st (.pair y2Y y2Y)) a,.d (.st (.pair y2Y y2Y)) b] (XK a b):=rsX
theorem Wm(a b:BR)(h:okR a∧okR b):CQ 106 [.d (.st (.pair y2Y y2Y)) a,.d (.st (.pair y2Y y2Y)) b] [.d (.st (.pair y2Y y2Y)) (ak (ag a-ag b))]:=by
 refine fV Gk (ai3 _ _ ⟨0,?_⟩);obtain⟨ha,hb⟩:=h;unfold XK;rw[amE hb,ck,ao6,amE (show okR a∧okR (ak (-ag b)) from⟨ha,ql (vU (BU hb)) (amK _)⟩)]
section
namespace RL
theorem kj{x y B e:Rat}(h1:x<B)(h2: -B<x)(h3:y<e)(h4: -e<y):x*y<B*e:=by
 have p:=am6 (a:=B-x) (b:=e+y) (by grind) (by grind);have q:=am6 (a:=B+x) (b:=e-y) (by grind) (by grind);grind
theorem Zl{e:Rat}(h:0<e):0<e/2:=by grind
theorem z8{e B:Rat}(h:0<e)(hB:0<B):∃d,0<d∧B*d+B*d<e:=by
 refine⟨e/(4*B),?_,?_⟩
 ·exact am6 h (apU.2 (by grind))
 ·have:B*(e/(4*B))=e/4:=by grind
  grind
structure CS where
 f:Nat→Rat
 cau:∀e:Rat,0<e→∃N,∀m n,N≤m→N≤n→f m-f n<e
theorem CS.bd(a:CS):∃B:Rat,0<B∧∃N,∀n,N≤n→ -B<a.f n∧a.f n<B:=by
 obtain⟨N,h⟩:=a.cau 1 (by grind);refine⟨(if 0≤a.f N then a.f N else-a.f N)+1,?_,N,fun n hn=>?_⟩
 ·split<;>grind
 ·have h1:=h n N hn (amK _);have h2:=h N n (amK _) hn;split<;>grind
def add(a b:CS):CS:=⟨fun n=>a.f n+b.f n,fun e he=>by
 obtain⟨N,h⟩:=a.cau (e/2) (by grind);obtain⟨M,h'⟩:=b.cau (e/2) (by grind);refine⟨max N M,fun m n hm hn=>?_⟩;have:=h m n (by omega) (by omega);have:=h' m n (by omega) (by omega);grind⟩
def neg(a:CS):CS:=⟨fun n=> -a.f n,fun e he=>by
 obtain⟨N,h⟩:=a.cau e he;exact⟨N,fun m n hm hn=>by have:=h n m hn hm;grind⟩⟩
theorem LD(a b:CS)(e:Rat)(he:0<e):∃N,∀m n,N≤m→N≤n→a.f m*b.f m-a.f n*b.f n<e:=by
 obtain⟨A,hA,N1,h1⟩:=a.bd;obtain⟨B,hB,N2,h2⟩:=b.bd;obtain⟨d,hd,hd'⟩:=z8 (e:=e) (B:=A+B) he (by grind);obtain⟨N3,h3⟩:=a.cau d hd;obtain⟨N4,h4⟩:=b.cau d hd;refine⟨max (max N1 N2) (max N3 N4),fun m n hm hn=>?_⟩;have a1:=h1 m (by omega);have b1:=h2 n (by omega);have p:=kj a1.2 a1.1 (h4 m n (by omega) (by omega)) (by have:=h4 n m (by omega) (by omega);grind);have q:=kj b1.2 b1.1 (h3 m n (by omega) (by omega)) (by have:=h3 n m (by omega) (by omega);grind);have r:=am6 hA hd;have s:=am6 hB hd;grind
def mul(a b:CS):CS:=⟨fun n=>a.f n*b.f n,LD a b⟩
def eqv(a b:CS):Prop:=∀e:Rat,0<e→∃N,∀n,N≤n→a.f n-b.f n<e∧b.f n-a.f n<e
instance st:Setoid CS where
 r:=eqv
 iseqv:=⟨fun a e he=>⟨0,fun n _=>by grind⟩,fun h e he=>by
   obtain⟨N,h⟩:=h e he;exact⟨N,fun n hn=>⟨(h n hn).2,(h n hn).1⟩⟩,
  fun h h' e he=>by
   obtain⟨N,h⟩:=h (e/2) (by grind);obtain⟨M,h'⟩:=h' (e/2) (by grind);refine⟨max N M,fun n hn=>?_⟩;have:=h n (by omega);have:=h' n (by omega);grind⟩
def const(q:Rat):CS:=⟨fun _=>q,fun e he=>⟨0,fun m n _ _=>by grind⟩⟩
end RL
def RE:Type:=Quotient RL.st
namespace RE
open RL
def of(q:Rat):RE:=Quotient.mk _ (const q)
theorem abR(a b a' b':CS)(h:a≈a')(h':b≈b'):add a b≈add a' b':=fun e he=>by
 obtain⟨N,h⟩:=h (e/2) (by grind);obtain⟨M,h'⟩:=h' (e/2) (by grind);refine⟨max N M,fun n hn=>?_⟩;have:=h n (by omega);have:=h' n (by omega);simp only[RL.add];grind
theorem adH(a a':CS)(h:a≈a'):neg a≈neg a':=fun e he=>by
 obtain⟨N,h⟩:=h e he;refine⟨N,fun n hn=>?_⟩;have:=h n (by omega);simp only[RL.neg];grind
theorem ade(a b a' b':CS)(h:a≈a')(h':b≈b'):mul a b≈mul a' b':=fun e he=>by
 obtain⟨A,hA,N1,h1⟩:=a.bd;obtain⟨B,hB,N2,h2⟩:=b'.bd;obtain⟨d,hd,hd'⟩:=z8 (e:=e) (B:=A+B) he (by grind);obtain⟨N3,h3⟩:=h d hd;obtain⟨N4,h4⟩:=h' d hd;refine⟨max (max N1 N2) (max N3 N4),fun n hn=>?_⟩;have a1:=h1 n (by omega);have b1:=h2 n (by omega);have a3:=h3 n (by omega);have b3:=h4 n (by omega);have p:=kj a1.2 a1.1 (y:=b.f n-b'.f n) b3.1 (by grind);have q:=kj b1.2 b1.1 (y:=a.f n-a'.f n) a3.1 (by grind);have p':=kj a1.2 a1.1 (y:=b'.f n-b.f n) b3.2 (by grind);have q':=kj b1.2 b1.1 (y:=a'.f n-a.f n) a3.2 (by grind);have r:=am6 hA hd;have s:=am6 hB hd;simp only[RL.mul];constructor<;>grind
instance:Add RE:=⟨Quotient.lift₂ (fun a b=>Quotient.mk _ (add a b)) (fun _ _ _ _ h h'=>ao2 (abR _ _ _ _ h h'))⟩
instance:Neg RE:=⟨Quotient.lift (fun a=>Quotient.mk _ (neg a)) (fun _ _ h=>ao2 (adH _ _ h))⟩
instance:Sub RE:=⟨fun a b=>a+ -b⟩
instance:Mul RE:=⟨Quotient.lift₂ (fun a b=>Quotient.mk _ (mul a b)) (fun _ _ _ _ h h'=>ao2 (ade _ _ _ _ h h'))⟩
theorem snd{a b:CS}(h:∀n,a.f n=b.f n):(Quotient.mk st a:RE)=Quotient.mk st b:=
 ao2 fun e he=>⟨0,fun n _=>by rw[h n];grind⟩
instance (n:Nat):OfNat RE n:=⟨of (OfNat.ofNat n)⟩
theorem of_add(a b:Rat):of (a+b)=of a+of b:=rfl
theorem aJ(a b:Rat):of (a*b)=of a*of b:=rfl
theorem of_neg(a:Rat):of (-a)= -of a:=rfl
theorem of_sub(a b:Rat):of (a-b)=of a-of b:=by rw[ao6];rfl
theorem ta:of 0=0:=rfl
theorem Md:of 1=1:=rfl
theorem add_zero(a:RE):a+0=a:=by
 induction a using anR;exact snd fun n=>Rat.add_zero _
theorem add_comm(a b:RE):a+b=b+a:=by
 induction a,b using api;exact snd fun n=>Rat.add_comm _ _
theorem add_assoc(a b c:RE):a+b+c=a+(b+c):=by
 induction a,b,c using aoK;exact snd fun n=>Rat.add_assoc _ _ _
theorem mul_assoc(a b c:RE):a*b*c=a*(b*c):=by
 induction a,b,c using aoK;exact snd fun n=>Rat.mul_assoc _ _ _
theorem mul_comm(a b:RE):a*b=b*a:=by
 induction a,b using api;exact snd fun n=>aoL _ _
theorem mul_one(a:RE):a*1=a:=by
 induction a using anR;exact snd fun n=>Rat.mul_one _
theorem mul_zero(a:RE):a*0=0:=by
 induction a using anR;exact snd fun n=>Rat.mul_zero _
theorem left_distrib(a b c:RE):a*(b+c)=a*b+a*c:=by
 induction a,b,c using aoK;exact snd fun n=>Rat.mul_add _ _ _
theorem wy(a:RE): -a+a=0:=by
 induction a using anR;exact snd fun n=>Rat.neg_add_cancel _
def clt(a b:CS):Prop:=∃e:Rat,0<e∧∃N,∀n,N≤n→a.f n+e<b.f n
theorem OI(a b a' b':CS)(h:a≈a')(h':b≈b')(hl:clt a b):clt a' b':=by
 obtain⟨e,he,N,hl⟩:=hl;obtain⟨N1,h⟩:=h (e/4) (by grind);obtain⟨N2,h'⟩:=h' (e/4) (by grind);refine⟨e/2,by grind,max N (max N1 N2),fun n hn=>?_⟩;have:=hl n (by omega);have:=h n (by omega);have:=h' n (by omega);grind
instance:LT RE:=⟨Quotient.lift₂ clt (fun _ _ _ _ h h'=>propext ⟨OI _ _ _ _ h h',OI _ _ _ _ (Setoid.symm h) (Setoid.symm h')⟩)⟩
instance:LE RE:=⟨fun a b=>¬b<a⟩
theorem lt_irrefl(a:RE):¬a<a:=by
 induction a using anR
 rintro ⟨e,he,N,h⟩
 have:=h N (amK _);grind
theorem cO{a b c:RE}:a<b→b<c→a<c:=by
 induction a,b,c using aoK
 rintro ⟨e,he,N,h⟩ ⟨e',he',N',h'⟩
 refine⟨e,he,max N N',fun n hn=>?_⟩;have:=h n (by omega);have:=h' n (by omega);grind
theorem mW(a b:RE):a<b∨a=b∨b<a:=by
 induction a,b using api
 rename_i a b;by_cases h1:clt a b
 ·exact .inl h1
 by_cases h2:clt b a
 ·exact .inr (.inr h2)
 refine .inr (.inl (ao2 fun e he=>?_));obtain⟨N,ha⟩:=a.cau (e/4) (by grind);obtain⟨M,hb⟩:=b.cau (e/4) (by grind)
 have g1:∃n,max N M≤n∧b.f n≤a.f n+e/4:=by
  apply amY;intro hc
  exact h1 ⟨e/4,by grind,max N M,fun n hn=>by
   apply amY;intro h;exact hc ⟨n,hn,by grind⟩⟩
 have g2:∃n,max N M≤n∧a.f n≤b.f n+e/4:=by
  apply amY;intro hc
  exact h2 ⟨e/4,by grind,max N M,fun n hn=>by
   apply amY;intro h;exact hc ⟨n,hn,by grind⟩⟩
 obtain⟨p,hp,gp⟩:=g1;obtain⟨q,hq,gq⟩:=g2;refine⟨max N M,fun n hn=>?_⟩;have a1:=ha n q (by omega) (by omega);have b1:=hb q n (by omega) (by omega);have a2:=ha p n (by omega) (by omega);have b2:=hb n p (by omega) (by omega);constructor<;>grind
theorem kR{a b:RE}(c:RE):a<b→a+c<b+c:=by
 induction a,b,c using aoK
 rintro ⟨e,he,N,h⟩
 refine⟨e,he,N,fun n hn=>?_⟩;have:=h n hn;simp only[RL.add];grind
theorem mul_pos{a b:RE}:0<a→0<b→0<a*b:=by
 induction a,b using api
 rintro ⟨e,he,N,h⟩ ⟨e',he',N',h'⟩
 refine⟨e*e',am6 he he',max N N',fun n hn=>?_⟩;have h1:=h n (by omega);have h2:=h' n (by omega);simp only[RL.const]at h1 h2 ⊢;rename_i a b;have p:=am6 (a:=a.f n-e) (b:=b.f n-e') (by grind) (by grind);have q:=am6 (a:=a.f n-e) (b:=e') (by grind) (by grind);have r:=am6 (a:=e) (b:=b.f n-e') (by grind) (by grind);simp only[RL.mul];grind
theorem ik{a b:Rat}(h:a<b):of a<of b:=⟨(b-a)/2,by grind,0,fun n _=>by simp only[RL.const];grind⟩
theorem F8(a:RE):0<a→∃b,a*b=1:=by
 induction a using anR
 rename_i a;rintro ⟨e,he,N,h⟩
 simp only[RL.const]at h
 have hp:∀n,N≤n→0<(a.f n)⁻¹∧(a.f n)⁻¹<e⁻¹:=fun n hn=>by
  have h1:=h n hn;have h2:0<(a.f n)⁻¹:=apU.2 (by grind);have h3:0<e⁻¹:=apU.2 he;refine⟨h2,?_⟩;have h4:=am6 (am6 h2 h3) (show 0<a.f n-e by grind);have e1:(a.f n)⁻¹*e⁻¹*(a.f n-e)=e⁻¹-(a.f n)⁻¹:=by grind
  grind
 refine⟨Quotient.mk _ ⟨fun n=>(a.f n)⁻¹,fun d hd=>?_⟩,ao2 fun d hd=>⟨N,fun n hn=>?_⟩⟩
 ·have hE:0<e⁻¹:=apU.2 he;obtain⟨M,hM⟩:=a.cau (d*e*e) (am6 (am6 hd he) he);refine⟨max N M,fun m n hm hn=>?_⟩;have h1:=hp m (by omega);have h2:=hp n (by omega);have h3:=hM n m (by omega) (by omega);have hm':=h m (by omega);have hn':=h n (by omega);have e1:(a.f m)⁻¹-(a.f n)⁻¹=((a.f m)⁻¹*(a.f n)⁻¹)*(a.f n-a.f m):=by grind
  rw[e1];have p1:=am6 h1.1 h2.1;have p2:=am6 p1 (show 0<d*e*e-(a.f n-a.f m) by grind);have p3:=am6 (show 0<e⁻¹-(a.f m)⁻¹ by grind) hE;have p4:=am6 h1.1 (show 0<e⁻¹-(a.f n)⁻¹ by grind);have p5:(a.f m)⁻¹*(a.f n)⁻¹<e⁻¹*e⁻¹:=by grind
  have p6:=am6 (show 0<e⁻¹*e⁻¹-(a.f m)⁻¹*(a.f n)⁻¹ by grind) (am6 (am6 hd he) he);have p7:e⁻¹*e⁻¹*(d*e*e)=d:=by grind
  grind
 ·have:=h n hn;simp only[RL.mul,RL.const];have:a.f n*(a.f n)⁻¹=1:=Rat.mul_inv_cancel _ (by grind);rw[this];grind
end RE
end
end Go.Proofs.YtnkndpoojnflmaaGreat
end
