/- integer: divide, its contract. -/
import Derived.Test.YtnkndpoojnflmaaGreatF7
noncomputable section
namespace Go.Proofs.YtnkndpoojnflmaaGreat
open Go.RowKit Go.IntKind
theorem anA:type_of% @Rat.mul_pos:=@Rat.mul_pos
theorem anE:type_of% @List.length_pos_iff:=@List.length_pos_iff
theorem an3:type_of% @beq_iff_eq:=@beq_iff_eq
theorem aoa:type_of% @Rat.num_divInt_den:=@Rat.num_divInt_den
theorem aoh:type_of% @Quotient.inductionOn:=@Quotient.inductionOn
theorem aoo:type_of% @Int.eq_ofNat_of_zero_le:=@Int.eq_ofNat_of_zero_le
theorem aoC:type_of% @Int.natAbs_natCast:=@Int.natAbs_natCast
theorem aoU:type_of% @Int.lt_or_lt_of_ne:=@Int.lt_or_lt_of_ne
theorem ao0:type_of% @Rat.mul_comm:=@Rat.mul_comm
theorem ao4:type_of% @Bool.decide_and:=@Bool.decide_and
theorem apd:type_of% @Nat.gcd_comm:=@Nat.gcd_comm
theorem ape:type_of% @Quotient.inductionOn₃:=@Quotient.inductionOn₃
theorem apt:type_of% @Rat.divInt_ofNat:=@Rat.divInt_ofNat
theorem apu:type_of% @Quotient.sound:=@Quotient.sound
theorem apy:type_of% @Rat.sub_eq_add_neg:=@Rat.sub_eq_add_neg
theorem apH:type_of% @Nat.mul_ne_zero:=@Nat.mul_ne_zero
theorem apI:type_of% @Int.mul_ne_zero:=@Int.mul_ne_zero
theorem apJ:type_of% @Rat.divInt_mul_divInt:=@Rat.divInt_mul_divInt
theorem apK:type_of% @Rat.div_def:=@Rat.div_def
theorem apL:type_of% @Quotient.inductionOn₂:=@Quotient.inductionOn₂
theorem apW:type_of% @Int.natAbs_mul:=@Int.natAbs_mul
theorem ap9:type_of% @Rat.num_mkRat:=@Rat.num_mkRat
theorem aqa:type_of% @Rat.den_mkRat:=@Rat.den_mkRat
theorem aqp:type_of% @Rat.inv_pos:=@Rat.inv_pos
def pS(a b:List Int):Prop:=(Lim a∧a.length≤100000000)∧(Lim b∧b.length≤100000000)∧0<val b
instance (a b:List Int):Decidable (pS a b):=by unfold pS;infer_instance
structure ahA (a b q r:List Int):Prop where
 lq:Lim q
 lr:Lim r
 sq:q.length≤200000000
 sr:r.length≤200000000
 q:val q=val a/val b
 r:val r=val a%val b
theorem wm(x:Int):val [x]=x:=by simp[val]
theorem uA{l:List Int}(h:can l){m:Nat}(hl:l.length=m+1):1≤l[m]:=by
 have h2:=h.2;have h1:=h.1.get (show m<l.length by omega);grind
set_option maxHeartbeats 1000000 in
theorem Gr(a b:List Int)(h:pS a b):∃q r,ahA a b q r∧CQq7 340 [.d aqs a,.d aqs b] [.d aqs q,.d aqs r]:=by
 obtain⟨⟨la,sa⟩,⟨lb,sb⟩,hb⟩:=h;have ha:aR a:=⟨la,by omega⟩
 have hb':aR b:=⟨lb,by omega⟩
 have va:=bj (val a).toNat
 have vb:=bj (val b).toNat
 have na:=aQ la;have va':val (ah (val a).toNat)=val a:=by omega
 have vb':val (ah (val b).toNat)=val b:=by omega
 have lna:=kf la;have lnb:=kf lb;have ca:=eE (val a).toNat
 have cb:=eE (val b).toNat
 have hla:aR (ah (val a).toNat):=⟨ca.1,by omega⟩
 have hlb:aR (ah (val b).toNat):=⟨cb.1,by omega⟩
 have go:∀{q r},gL.Res 340 [.d aqs a,.d aqs b] [.d aqs q,.d aqs r]→CQq7 340 [.d aqs a,.d aqs b] [.d aqs q,.d aqs r]:=fun hr=>fY K6 hr;have hb0:ah (val b).toNat≠[]:=fun e=>by rw[ie]at e;omega
 by_cases h1:(ah (val b).toNat).length=1
 ·have t1:=uA cb (m:=0) h1;have t2:=cb.1.get (show 0<(ah (val b).toNat).length by omega)
  have e0:(ah (val b).toNat)[0]=val b:=by
   obtain⟨x,hx⟩:=List.length_eq_one_iff.1 h1;have:=vb';rw[hx,wm]at this;simp[hx,this]
  have hq0:0≤val a/val b:=an9 na (by omega);have hq1:val a/val b≤val a:=aoW _ na;have hr0:=aom (val a) (show val b≠0 by omega);have hr1:=anW (val a) hb;have hal:=b9 ca.1;refine⟨dig (ah (val a).toNat).length (val a/val b),[val a%val b],⟨ot _ _,Lim.cons ⟨hr0,by omega⟩ Lim.nil,by rw[ju];omega,by simp,iq _ _ hq0 (by omega),wm _⟩,go (OH _ _ ⟨0,?_⟩)⟩;unfold HP;rw[am5 ha,am5 hb',h1,Ac,am6 (show 0<(ah (val b).toNat).length by omega),e0];dsimp only;rw[am5 (show CJ (ah (val a).toNat) (val b) from⟨hla,by omega,by omega⟩),va'];rfl
 have hlen:2≤(ah (val b).toNat).length:=by
  rcases anG (ah (val b).toNat).length 2 with h|h
  ·exfalso;have:(ah (val b).toNat).length≠0:=fun e=>hb0 (aoV e);omega
  ·exact h
 by_cases hlt:val a<val b
 ·refine⟨[],ah (val a).toNat,⟨Lim.nil,ca.1,by simp,by omega,?_,?_⟩,go (OH _ _ ⟨0,?_⟩)⟩
  ·rw[aoi na hlt];rfl
  ·rw[api na hlt];exact va'
  ·unfold HP;rw[am5 ha,am5 hb',show(((ah (val b).toNat).length:Int)==1)=false by simp;omega,am5 (show aR (ah (val a).toNat)∧aR (ah (val b).toNat) from⟨hla,hlb⟩),va',vb',da hlt,am5 (show(ah (val a).toNat).length*4≤140737488355328∧(ah (val a).toNat).length≤140737488355328 by omega)];rfl
 ·obtain⟨m,hm⟩:∃m,(ah (val b).toNat).length=m+2:=⟨(ah (val b).toNat).length-2,by omega⟩
  have hxm:m+1<(ah (val b).toNat).length:=by omega
  have t1:=uA cb (m:=m+1) hm;have t2:=cb.1.get hxm;generalize hx2:(ah (val b).toNat)[m+1]=x2 at t1 t2;obtain⟨s1,s2,s3,s4⟩:=Mi t1 t2.2
  have esc:u32.wrap (u64.wrap (Int.tdiv 1000000000 (u64.wrap ((u64.wrap x2)+1))))=1000000000/(x2+1):=by
   rw[bH (x:=x2) (by omega) (by omega),bH (x:=x2+1) (by omega) (by omega),hU (by omega),bH (x:=1000000000/(x2+1)) (by omega) (by omega),c8 (x:=1000000000/(x2+1)) (by omega) (by omega)]
  generalize hsc:1000000000/(x2+1)=sc at s1 s2 s3 s4 esc;have hsl:aR [sc]:=⟨Lim.cons ⟨by omega,by omega⟩ Lim.nil,by simp⟩
  have hbl:=b9 cb.1;rw[vb',hm]at hbl;have hP:=cB (m+1);have hbtop:=a8 hxm;rw[anQ (by omega),vb',hx2]at hbtop;have hbt0:=aQ (cb.1.take (m+1));have hbt1:=b9 (cb.1.take (m+1));rw[anR,anT (by omega)]at hbt1
  have hVhi:val b*sc<pw (m+2):=by
   have e1:val b*sc<(pw (m+1)*(x2+1))*sc:=Int.mul_lt_mul_of_pos_right (by rw[aqo,app];omega) (by omega);have e2:(pw (m+1)*(x2+1))*sc=pw (m+1)*((x2+1)*sc):=Int.mul_assoc _ _ _;have e3:pw (m+1)*((x2+1)*sc)≤pw (m+1)*1000000000:=ane s3 (anO hP);rw[cg];omega
  have hVlo:pw (m+1)*500000000≤val b*sc:=by
   have e1:pw (m+1)*x2*sc≤val b*sc:=ani (by omega) (by omega);have e2:pw (m+1)*x2*sc=pw (m+1)*(x2*sc):=Int.mul_assoc _ _ _;have e3:pw (m+1)*500000000≤pw (m+1)*(x2*sc):=ane s4 (anO hP);omega
  have hV0:0<val b*sc:=Int.mul_pos hb (by omega);have edv:val (dig (m+2+1) (val b*sc))=val b*sc:=iq _ _ (by omega) (by rw[cg];omega);obtain⟨v,hv⟩:∃v,ah (val b*sc).toNat=v:=⟨_,rfl⟩
  have cv:=eE (val b*sc).toNat
  have vv:=bj (val b*sc).toNat
  rw[hv]at cv vv;have hvv:val v=val b*sc:=by omega
  have hvl:v.length=m+2:=by
   have h1:v.length≤m+2:=by rw[←hv];exact dl (by omega)
   have h2:m+1<v.length:=by rw[←hv];exact AQ (by omega)
   omega
  have htop:500000000≤v[m+1]:=by
   rcases anC v[m+1] 500000000 with hc|hc
   ·exfalso;have e1:=a8 (l:=v) (n:=m+1) (by omega);rw[anQ (by omega),hvv]at e1;have e2:=b9 (cv.1.take (m+1));rw[anR,anT (by omega)]at e2;have e3:=ane (show v[m+1]≤499999999 by omega) (anO hP);omega
   ·exact hc
  have hal:=b9 ca.1;rw[va']at hal;have hA0:0≤val a*sc:=an5 na (by omega)
  have hA1:val a*sc<pw ((ah (val a).toNat).length+1):=by
   have e1:val a*sc≤pw (ah (val a).toNat).length*sc:=ani (by omega) (by omega);have e2:pw (ah (val a).toNat).length*sc<pw (ah (val a).toNat).length*1000000000:=Int.mul_lt_mul_of_pos_left (by omega) (cB _);rw[cg];omega
  have lab:m+2≤(ah (val a).toNat).length:=by
   rw[←hm];rcases anG (ah (val a).toNat).length (ah (val b).toNat).length with hc|hc
   ·have:=wb hc;omega
   ·exact hc
  generalize hlA:(ah (val a).toNat).length=L at*
  have hdl:(dig (L+1) (val a*sc)++[0]).length=L+2:=by simp[ju]
  have hdv:val (dig (L+1) (val a*sc)++[0])=val a*sc:=by rw[dG,iq _ _ hA0 hA1];simp[val]
  have hmul:=hvv
  obtain⟨q,r,⟨f1,f2,f3,f4,f5,f6⟩,n,hrun⟩:=SO b x2 v m hm (by rw[esc,hm,vb',wm];simp only[anu];rw[edv];exact hv) cv.1 hvl sc esc s1 s2 htop (val a*sc) (L-m) (List.replicate (L-m) 0) (dig (L+1) (val a*sc)++[0])
   (Lim.rep _) ((ot _ _).append (Lim.cons (by decide) Lim.nil)) (by rw[hdl];simp;omega) (by rw[hdl];omega) (by simp) (by rw[gN,hdv];omega) (fun j hj _=>by simp) (by
    rw[hdv,hvv];have e1:pw (m+1)*500000000*pw (L-m)≤val b*sc*pw (L-m):=ani hVlo (anO (cB _))
    have e2:pw (m+1)*500000000*pw (L-m)=pw (L+1)*500000000:=by
     rw[show L+1=m+1+(L-m) by omega,fI (m+1) (L-m),Int.mul_right_comm]
    have:=cB (L+1);omega)
  have hq:val a*sc/(val b*sc)=val a/val b:=Int.mul_ediv_mul_of_pos_left _ _ (by omega)
  have hr:val a*sc%(val b*sc)/sc=val a%val b:=by
   rw[aoR (val a),aoR (val b),Int.mul_emod_mul_of_pos _ _ (by omega),aoR];exact Int.mul_ediv_cancel _ (by omega)
  rw[hvv]at f5 f6;rw[hq]at f5;rw[hr]at f6;refine⟨q,r,⟨f1,f2,by rw[f3];simp;omega,by omega,f5,f6⟩,go (OH _ _ ⟨n,?_⟩)⟩;unfold HP;have e1:i64.wrap (((m+2:Nat):Int)-1)=((m+1:Nat):Int):=by rw[aT (by omega) (by omega)];omega
  have e2:i64.wrap (((L+2:Nat):Int)-((m+2:Nat):Int))=((L-m:Nat):Int):=by rw[aT (by omega) (by omega)];omega
  have e3:i64.wrap (((L-m:Nat):Int)-1)=((L-m:Nat):Int)-1:=aT (by omega) (by omega)
  rw[am5 ha,am5 hb',hm,show(((m+2:Nat):Int)==1)=false by simp;omega,am5 (show aR (ah (val a).toNat)∧aR (ah (val b).toNat) from⟨hla,hlb⟩),va',vb',show decide (cC (val a) (val b)<0)=false by
   rcases anC (val b) (val a)with hc|hc
   ·rw[cU hc];rfl
   ·rw[show val a=val b by omega,d7];rfl,e1,av (ah (val b).toNat) (m+1),am6 hxm,hx2]
  dsimp only;rw[esc,bH (x:=x2) (by omega) (by omega),bH (x:=x2+1) (by omega) (by omega),am7 (show ¬x2+1=0 by omega),am5 (show aR (ah (val a).toNat)∧aR [sc] from⟨hla,hsl⟩),am5 (show aR (ah (val b).toNat)∧aR [sc] from⟨hlb,hsl⟩),wm,hlA];rw[anu,anu,hdl,ju (L+1)];rw[am5 (show(L+1+1)*4≤140737488355328∧L+1+1≤140737488355328 by omega),am5 (show aR (dig (m+2+1) (val b*sc)) from jz (by omega) _),e2,tW (by omega),aE,e3];exact hrun
abbrev BI:=Bool×List Int
def okI(x:BI):Prop:=can x.2∧(x.1=true→x.2≠[])∧x.2.length≤1000000
instance (x:BI):Decidable (okI x):=by unfold okI;infer_instance
theorem bO(x:BI):ag x=cj x.1 (val x.2):=rfl
theorem iA{x:BI}(h:okI x):x=ai (ag x):=by
 obtain⟨h1,h2,h3⟩:=h;grind [bO,mL,oW,val,eW]
def szI(z:Int):Nat:=(ah z.natAbs).length
theorem aV{z:Int}(h:szI z≤1000000):okI (ai z):=by
 refine⟨eE _,fun e=>?_,h⟩;grind [ai,ie]
theorem fu{z:Int}{k:Nat}(h1: -pw k<z)(h2:z<pw k):szI z≤k:=dl (by omega)
theorem GD(z:Int): -pw (szI z)<z∧z<pw (szI z):=by
 have h:=b9 (ce z.natAbs);grind [bj,szI]
theorem nS{z:Int}{k:Nat}(h:szI z≤k): -pw k<z∧z<pw k:=by
 have h1:=GD z;have h2:=dm h;omega
theorem jf(z:Int):szI (-z)=szI z:=by simp[szI]
theorem v7{a b:Int}{k:Nat}(h1:szI a≤k)(h2:szI b≤k):szI (a+b)≤k+1:=by
 have e1:=nS h1;have e2:=nS h2;exact fu (by rw[cg];omega) (by rw[cg];omega)
theorem cW{a b:Int}{j k:Nat}(h1:szI a≤j)(h2:szI b≤k):szI (a*b)≤j+k:=by
 have e1:=nS h1;have e2:=nS h2
 have h:(a*b).natAbs<(pw (j+k)).toNat:=by
  rw[apW,fI];have:(pw j*pw k).toNat=(pw j).toNat*(pw k).toNat:=Int.toNat_mul (by omega) (by omega);rw[this];exact Nat.mul_lt_mul'' (by omega) (by omega)
 exact fu (by omega) (by omega)
theorem dH{a b:Int}(h:a.natAbs≤b.natAbs):szI a≤szI b:=by
 have:=GD b;exact fu (by omega) (by omega)
theorem iZ{x:BI}(h:okI x):szI (ag x)≤1000000:=by
 have:=iA h;have h3:=h.2.2;rwa [this]at h3
theorem gf{x:BI}(h:okI x):aR x.2:=⟨h.1.1,by have:=h.2.2;omega⟩
theorem cK{x:BI}(h:okI x):0≤val x.2∧(x.1=true→0<val x.2)∧(x.2=[]↔val x.2=0):=by
 refine⟨aQ h.1.1,fun e=>eW h.1 (h.2.1 e),⟨fun e=>by rw[e];rfl,fun e=>?_⟩⟩;rcases List.eq_nil_or_concat x.2 with h'|⟨l,y,h'⟩
 ·omega
 ·have:=eW h.1 (by rw[h'];simp);omega
def pe:eo:=spN false false [aqt] (fun x=>decide (aH x.1)) (fun x=>[RV.d y2Y (ai x.1)])
theorem kL:SpK 210 pe:=spX fun x h=>JS x.1 (am8 h)
def dvQ(a b:List Int):List Int:=if h:pS a b then Classical.choose (Gr a b h)else []
def dvR(a b:List Int):List Int:=if h:pS a b then Classical.choose (aoy (Gr a b h))else []
theorem WY{a b:List Int}(h:pS a b):ahA a b (dvQ a b) (dvR a b):=by grind [dvQ,dvR]
theorem TS(a b:List Int)(h:pS a b):CQq7 340 [.d aqs a,.d aqs b] [.d aqs (dvQ a b),.d aqs (dvR a b)]:=by
 unfold dvQ dvR;rw[dif_pos h,dif_pos h];exact(aoy (aoy (Gr a b h))).2
def Hm:eo:=spN false false [aqs,aqs] (fun x=>decide (pS x.1 x.2.1)) (fun x=>[RV.d aqs (dvQ x.1 x.2.1),RV.d aqs (dvR x.1 x.2.1)])
theorem E5:SpK 340 Hm:=spX fun x h=>TS x.1 x.2.1 (am8 h)
def rH:Env:=[(269,xw),(300,CF),(303,FY),(304,Fo),(270,GO),(268,GC),(210,pe),(340,Hm)]
theorem kr:EnvAll Tryz.prog rH:=⟨sD,wN,DA,EA,Dh,Ed,kL,E5,trivial⟩
def ahf:Ctx:=CX rH []
def W8(x y:Bool×List Int)(_k:KT):OLR:=match !(x.1==y.1)with|true=>(match x.1 with|true=>some [RV.d aqt (-1)]|false=>some [RV.d aqt 1])|false=>(match x.1 with|true=>(og (decide (aR y.2∧aR x.2)) (some [RV.d aqt (cC (val y.2) (val x.2))]))|false=>(og (decide (aR x.2∧aR y.2)) (some [RV.d aqt (cC (val x.2) (val y.2))])))
theorem ai3(x y:Bool×List Int):RS ahf 172 [.d y2Y x,.d y2Y y] (W8 x y):=rsX
def akh:Ctx:=CX rH []
def Yh(x y:Bool×List Int)(_k:KT):OLR:=match x.1==y.1 with|true=>(og (decide (aR x.2∧aR y.2)) (og (decide (aR (dig (max x.2.length y.2.length+1) (val x.2+val y.2)))) (some [RV.d y2Y (ai (cj x.1 (val (dig (max x.2.length y.2.length+1) (val x.2+val y.2)))))])))|false=>(og (decide (aR x.2∧aR y.2)) (match decide ((cC (val x.2) (val y.2))<0)with|true=>(og (decide (oK y.2 x.2)) (og (decide (aR (dig y.2.length (val y.2-val x.2)))) (some [RV.d y2Y (ai (cj y.1 (val (dig y.2.length (val y.2-val x.2)))))])))|false=>(og (decide (oK x.2 y.2)) (og (decide (aR (dig x.2.length (val x.2-val y.2)))) (some [RV.d y2Y (ai (cj x.1 (val (dig x.2.length (val x.2-val y.2)))))])))))
theorem ag9(x y:Bool×List Int):RS akh 215 [.d y2Y x,.d y2Y y] (Yh x y):=rsX
def agq:Ctx:=CX rH []
def Y5(x y:Bool×List Int)(_k:KT):OLR:=og (decide (aR x.2∧aR y.2)) (og (decide (aR (dig (x.2.length+y.2.length) (val x.2*val y.2)))) (some [RV.d y2Y (ai (cj (!(x.1==y.1)) (val (dig (x.2.length+y.2.length) (val x.2*val y.2)))))]))
theorem ajw(x y:Bool×List Int):RS agq 173 [.d y2Y x,.d y2Y y] (Y5 x y):=rsX
def afy:Ctx:=CX rH []
def WF(x:Bool×List Int)(_k:KT):OLR:=og (decide (x.2.length*4≤140737488355328∧x.2.length≤140737488355328)) (og (decide (aR x.2)) (some [RV.d y2Y (ai (cj (!x.1) (val x.2)))]))
theorem ah3(x:Bool×List Int):RS afy 216 [.d y2Y x] (WF x):=rsX
def ahq:Ctx:=CX rH []
def ZT(x:Bool×List Int)(_k:KT):OLR:=match x.1 with|true=>some [RV.d aqt (-1)]|false=>(match decide ((x.2.length:Int)>0)with|true=>some [RV.d aqt 1]|false=>some [RV.d aqt 0])
theorem agp(x:Bool×List Int):RS ahq 83 [.d y2Y x] (ZT x):=rsX
theorem V1(x:BI)(h:okI x):CQq7 83 [.d y2Y x] [.d aqt (cC (ag x) 0)]:=by
 refine fY kr (agp _ ⟨0,?_⟩);obtain⟨h0,h1,h2⟩:=cK h;unfold ZT;rw[bO];unfold cj;cases hx:x.1
 ·simp only[cond_false];rcases anC 0 (val x.2)with hc|hc
  ·have:x.2≠[]:=fun e=>by rw[h2]at e;omega
   have:=anE.2 this;rw[am5 (by omega),cU hc]
  ·have e:x.2=[]:=h2.2 (by omega);rw[e];rfl
 ·simp only[cond_true];rw[da (by have:=h1 hx;omega)]
theorem Jx{a b:Int}(_ha:0≤a)(_hb:0≤b):cC (-a) (-b)=cC b a:=by grind [cU,d7,da]
theorem ID(x y:BI)(h:okI x∧okI y):CQq7 172 [.d y2Y x,.d y2Y y] [.d aqt (cC (ag x) (ag y))]:=by
 refine fY kr (ai3 _ _ ⟨0,?_⟩);obtain⟨hx,hy⟩:=h;obtain⟨x0,x1,x2⟩:=cK hx;obtain⟨y0,y1,y2⟩:=cK hy;have lx:=gf hx;have ly:=gf hy;unfold W8;rw[bO,bO,am5 (show aR x.2∧aR y.2 from⟨lx,ly⟩),am5 (show aR y.2∧aR x.2 from⟨ly,lx⟩)];unfold cj;cases ex:x.1<;>cases ey:y.1<;>simp only[cond_true,cond_false]
 ·rfl
 ·have:=y1 ey;rw[cU (a:=val x.2) (b:= -val y.2) (by omega)];rfl
 ·have:=x1 ex;rw[da (a:= -val x.2) (b:=val y.2) (by omega)];rfl
 ·rw[Jx x0 y0];rfl
theorem Nt{a b:List Int}(ha:Lim a)(hb:Lim b):val (dig (max a.length b.length+1) (val a+val b))=val a+val b:=by
 have h1:=b9 ha;have h2:=b9 hb;have h3:=aQ ha;have h4:=aQ hb;have h5:=dm (Nat.le_max_left a.length b.length);have h6:=dm (Nat.le_max_right a.length b.length);grind [iq,cg]
theorem zB{a b:List Int}(ha:Lim a)(hb:Lim b)(hle:val b≤val a):val (dig a.length (val a-val b))=val a-val b:=by
 have h1:=b9 ha;have h4:=aQ hb;grind [iq]
theorem K7{a b:List Int}(ha:Lim a)(hb:Lim b):val (dig (a.length+b.length) (val a*val b))=val a*val b:=by
 have h1:=b9 ha;have h2:=b9 hb;have h3:=aQ ha;have h4:=aQ hb;refine iq _ _ (an5 h3 h4) ?_;rw[fI];have e1:=ani (anO h1) h4;have e2:=Int.mul_lt_mul_of_pos_left h2 (cB a.length);omega
theorem VW(x y:BI)(h:okI x∧okI y):CQq7 215 [.d y2Y x,.d y2Y y] [.d y2Y (ai (ag x+ag y))]:=by
 refine fY kr (ag9 _ _ ⟨0,?_⟩);obtain⟨hx,hy⟩:=h;obtain⟨x0,x1,x2⟩:=cK hx;obtain⟨y0,y1,y2⟩:=cK hy;have lx:=gf hx;have ly:=gf hy;have sx:=hx.2.2;have sy:=hy.2.2;unfold Yh;rw[bO,bO,am5 (show aR x.2∧aR y.2 from⟨lx,ly⟩),am5 (show aR (dig (max x.2.length y.2.length+1) (val x.2+val y.2)) from jz (by omega) _),Nt lx.1 ly.1,am5 (show aR (dig x.2.length (val x.2-val y.2)) from jz (by omega) _),am5 (show aR (dig y.2.length (val y.2-val x.2)) from jz (by omega) _)];cases hs:x.1==y.1
 ·dsimp only;rcases anC (val x.2) (val y.2)with hc|hc
  ·rw[da hc,am5 (show(-1:Int)<0 by decide),am5 (show oK y.2 x.2 from⟨ly,lx,by omega⟩),zB ly.1 lx.1 (by omega)];dsimp only;unfold cj;cases ex:x.1<;>cases ey:y.1<;>simp_all<;>congr 2<;>omega
  ·have hcm:decide (cC (val x.2) (val y.2)<0)=false:=by
    rcases anC (val y.2) (val x.2)with h|h
    ·rw[cU h];rfl
    ·rw[show val x.2=val y.2 by omega,d7];rfl
   rw[hcm,am5 (show oK x.2 y.2 from⟨lx,ly,hc⟩),zB lx.1 ly.1 hc];dsimp only;unfold cj;cases ex:x.1<;>cases ey:y.1<;>simp_all<;>congr 2<;>omega
 ·dsimp only;have e:=an3.1 hs;rw[←e];unfold cj;cases x.1
  ·rfl
  ·simp only[cond_true];rw[show-(val x.2+val y.2)= -val x.2+ -val y.2 by omega]
theorem Is(x:BI)(h:okI x):CQq7 216 [.d y2Y x] [.d y2Y (ai (-ag x))]:=by
 refine fY kr (ah3 _ ⟨0,?_⟩);have sx:=h.2.2;unfold WF;rw[bO,am5 (show x.2.length*4≤140737488355328∧x.2.length≤140737488355328 by omega),am5 (gf h)];unfold cj;cases x.1<;>simp
theorem JV(x y:BI)(h:okI x∧okI y):CQq7 173 [.d y2Y x,.d y2Y y] [.d y2Y (ai (ag x*ag y))]:=by
 refine fY kr (ajw _ _ ⟨0,?_⟩);obtain⟨hx,hy⟩:=h;have lx:=gf hx;have ly:=gf hy;have sx:=hx.2.2;have sy:=hy.2.2;unfold Y5;rw[bO,bO,am5 (show aR x.2∧aR y.2 from⟨lx,ly⟩),am5 (show aR (dig (x.2.length+y.2.length) (val x.2*val y.2)) from jz (by omega) _),K7 lx.1 ly.1];unfold cj;cases x.1<;>cases y.1<;>simp[Int.neg_mul,apZ]
def pQ:eo:=spN false false [y2Y,y2Y] (fun x=>decide (okI x.1∧okI x.2.1)) (fun x=>[RV.d y2Y (ai (ag x.1+ag x.2.1))])
theorem kM:SpK 215 pQ:=spX fun x h=>VW x.1 x.2.1 (am8 h)
def FI:Env:=(215,pQ)::rH
theorem zO:EnvAll Tryz.prog FI:=⟨kM,kr⟩
def ah1:Ctx:=CX FI []
def aaF(x y:Bool×List Int)(_k:KT):OLR:=match !y.1 with|true=>(og (decide (okI x∧okI (decide ((y.2.length:Int)>0),y.2))) (some [RV.d y2Y (ai (ag x+ag (decide ((y.2.length:Int)>0),y.2)))]))|false=>(og (decide (okI x∧okI (false,y.2))) (some [RV.d y2Y (ai (ag x+ag (false,y.2)))]))
theorem agM(x y:Bool×List Int):RS ah1 360 [.d y2Y x,.d y2Y y] (aaF x y):=rsX
theorem M0{y:BI}(h:okI y):okI (!y.1&&decide ((y.2.length:Int)>0),y.2)∧ag (!y.1&&decide ((y.2.length:Int)>0),y.2)= -ag y:=by
 refine⟨⟨h.1,fun e=>?_,h.2.2⟩,?_⟩
 ·grind
 grind [bO,cj,val,anE]
theorem WC(x y:BI)(h:okI x∧okI y):CQq7 360 [.d y2Y x,.d y2Y y] [.d y2Y (ai (ag x-ag y))]:=by
 refine fY zO (agM _ _ ⟨0,?_⟩);obtain⟨hx,hy⟩:=h;obtain⟨f1,f2⟩:=M0 hy;rw[Int.sub_eq_add_neg,←f2];unfold aaF;cases ey:y.1
 ·rw[ey]at f1;simp only[Bool.not_false,aoj]at f1 ⊢;rw[am5 ⟨hx,f1⟩]
 ·rw[ey]at f1;simp only[Bool.not_true,aqh]at f1 ⊢;rw[am5 ⟨hx,f1⟩]
def QS:eo:=spN false false [y2Y,y2Y] (fun x=>decide (okI x.1∧okI x.2.1)) (fun x=>[RV.d y2Y (ai (ag x.1-ag x.2.1))])
theorem Q7:SpK 360 QS:=spX fun x h=>WC x.1 x.2.1 (am8 h)
def Qz:Env:=(360,QS)::FI
theorem KL:EnvAll Tryz.prog Qz:=⟨Q7,zO⟩
def aix:Ctx:=CX Qz []
def WT(x y:Bool×List Int)(_k:KT):OLR:=let y1:=aR (dvQ x.2 y.2);let y2:=aR (dvR x.2 y.2);let y3:=ai (cj x.1 (val (dvR x.2 y.2)));let y4:=ai (cj (!(x.1==y.1)) (val (dvQ x.2 y.2)));let y5:OLR:=match decide (((y3.2).length:Int)>0)with|true=>(match !((y3.1)==y.1)with|true=>(og (decide (aH (1:Int))) (og (decide (okI y4∧okI (ai (1:Int)))) (og (decide (okI y3∧okI y)) (dup (.b .l .l) (some [RV.d y2Y (ai (ag y4-ag (ai (1:Int)))),RV.d y2Y (ai (ag y3+ag y)),RV.d aqt 0])))))|false=>dup (.b .l .l) (some [RV.d y2Y y4,RV.d y2Y y3,RV.d aqt 0]))|false=>dup (.b .l .l) (some [RV.d y2Y y4,RV.d y2Y y3,RV.d aqt 0]);let y6:OLR:=match decide y2 with|true=>y5|false=>none;match(y.2.length:Int)==0 with|true=>some [RV.d y2Y (false,[]),RV.d y2Y (false,[]),RV.d aqt 6]|false=>(og (decide (pS x.2 y.2)) (ck (og (decide y1) (ck (og (decide y2) (dup (.b .l .l) y5)) (dup (.b (.b .l .l) (.b .l .l)) y6))) (dup (.b .l .l) (ck (og (decide y1) (dup (.b .l .l) y6)) (og (decide y1) y6)))))
theorem agB(x y:Bool×List Int):RS aix 341 [.d y2Y x,.d y2Y y] (WT x y):=rsX
def fy(x y:BI):Prop:=okI x∧okI y∧0<ag y
instance (x y:BI):Decidable (fy x y):=by unfold fy;infer_instance
theorem HT{a b:Int}(_ha:0≤a)(hb:0<b):(a%b=0→ -a/b= -(a/b)∧ -a%b=0)∧(0<a%b→ -a/b= -(a/b)-1∧ -a%b= -(a%b)+b):=by
 have h1:=aom a (show b≠0 by omega);have h2:=anW a hb;have h3:=anU a b;constructor
 ·intro h;have e: -a=b* -(a/b):=by rw[apZ];omega
  constructor
  ·rw[e,apj _ (by omega)]
  ·rw[e,Int.mul_emod_right]
 ·intro h;have e: -a=(b-a%b)+b*(-(a/b)-1):=by rw[Int.mul_sub,apZ,app];omega
  constructor
  ·rw[e,aoQ _ _ (by omega),aoi (by omega) (by omega)];omega
  ·rw[e,ao8,api (by omega) (by omega)];omega
theorem qG:okI (ai 1):=by decide
theorem A8(n:Bool){v:Int}:szI (cj n v)=szI v:=by unfold cj;cases n<;>simp[jf]
theorem Jv(x y:BI)(h:fy x y):CQq7 341 [.d y2Y x,.d y2Y y] [.d y2Y (ai (ag x/ag y)),.d y2Y (ai (ag x%ag y)),.d aqt 0]:=by
 refine fY KL (agB _ _ ⟨0,?_⟩);obtain⟨hx,hy,hp⟩:=h;obtain⟨x0,x1,x2⟩:=cK hx;obtain⟨y0,y1,y2⟩:=cK hy;have sx:=hx.2.2;have sy:=hy.2.2
 have ey:y.1=false:=by
  cases e:y.1
  ·rfl
  ·rw[bO,e]at hp;simp only[cj,cond_true]at hp;omega
 have dy:ag y=val y.2:=by rw[bO,ey];rfl
 rw[dy]at hp;have hdv:pS x.2 y.2:=⟨⟨hx.1.1,by omega⟩,⟨hy.1.1,by omega⟩,hp⟩
 obtain⟨lq,lr,sq,sr,vq,vr⟩:=WY hdv;have hne:y.2≠[]:=fun e=>by rw[y2]at e;omega
 have hylen:=anE.2 hne;have r0:=aom (val x.2) (show val y.2≠0 by omega);have r1:=anW (val x.2) hp;have q0:0≤val x.2/val y.2:=an9 x0 y0;have q1:val x.2/val y.2≤val x.2:=aoW _ x0;have vx:=b9 hx.1.1;have vy:=b9 hy.1.1;have szq:szI (val x.2/val y.2)≤1000000:=fu (by have:=cB 1000000;omega) (by have:=dm sx;omega);have szr:szI (val x.2%val y.2)≤1000000:=fu (by have:=cB 1000000;omega) (by have:=dm sy;omega);unfold WT;simp only[fa]
 rw[show((y.2.length:Int)==0)=false by simp;omega,am5 hdv,am5 (show aR (dvQ x.2 y.2) from⟨lq,by omega⟩),am5 (show aR (dvR x.2 y.2) from⟨lr,by omega⟩),am5 (show aH 1 by decide),vq,vr,
  am5 (show okI (ai (cj (!(x.1==y.1)) (val x.2/val y.2)))∧okI (ai (1:Int)) from⟨aV (by rw[A8];exact szq),qG⟩),am5 (show okI (ai (cj x.1 (val x.2%val y.2)))∧okI y from⟨aV (by rw[A8];exact szr),hy⟩)]
 simp only[dec_enc,dy,c9];have hE1:(ai (cj x.1 (val x.2%val y.2))).1=(x.1&&decide (0<val x.2%val y.2)):=by rw[mL x.1 r0]
 have hE2:(ai (cj x.1 (val x.2%val y.2))).2=ah (val x.2%val y.2).toNat:=by rw[mL x.1 r0]
 rw[hE1,hE2,bO x,ey]
 have hlen:(((ah (val x.2%val y.2).toNat).length:Int)>0)↔0<val x.2%val y.2:=by
  constructor
  ·intro hl;rcases anC 0 (val x.2%val y.2)with h|h
   ·exact h
   ·rw[show(val x.2%val y.2).toNat=0 by omega,fK]at hl;simp at hl
  ·intro hl;have:ah (val x.2%val y.2).toNat≠[]:=fun e=>by rw[ie]at e;omega
   have:=anE.2 this;omega
 obtain⟨n1,n2⟩:=HT (a:=val x.2) (b:=val y.2) x0 hp;rcases anC 0 (val x.2%val y.2)with hr|hr
 ·rw[am5 (hlen.2 hr),am5 hr];cases x.1
  ·rfl
  ·obtain⟨e1,e2⟩:=n2 hr;simp only[cj,cond_true,Bool.not_false,aoj,show((true==false):Bool)=false from rfl];rw[e1,e2]
 ·rw[am7 (fun h'=>by have:=hlen.1 h';omega)];dsimp only;have e0:val x.2%val y.2=0:=by omega
  cases x.1
  ·simp only[cj,cond_false,show((false==false):Bool)=true from rfl,Bool.not_true]
  ·obtain⟨e1,e2⟩:=n1 e0;simp only[cj,cond_true,show((true==false):Bool)=false from rfl,Bool.not_false];rw[e1,e2,e0];rfl
def lh(x:BI):Bool:=decide (x.2.length≤2)
def yS(x:BI):Int:=bif lh x then val x.2 else 0
def ai2:Ctx:=CX [] []
def Xf(x:Bool×List Int)(_k:KT):OLR:=match(x.2.length:Int)==0 with|true=>some [RV.d (.int .u64) 0,RV.d .bool true]|false=>(match(x.2.length:Int)==1 with|true=>(match aU x.2 0 with|some x1=>some [RV.d (.int .u64) (u64.wrap x1),RV.d .bool true]|none=>none)|false=>(match(x.2.length:Int)==2 with|true=>(match aU x.2 1 with|some x2=>(match aU x.2 0 with|some x3=>some [RV.d (.int .u64) (u64.wrap ((u64.wrap ((u64.wrap x2)*1000000000))+(u64.wrap x3))),RV.d .bool true]|none=>none)|none=>none)|false=>some [RV.d (.int .u64) 0,RV.d .bool false]))
theorem aiE(x:Bool×List Int):RS ai2 339 [.d y2Y x] (Xf x):=rsX
theorem Wu(x:BI)(h:okI x):CQq7 339 [.d y2Y x] [.d (.int .u64) (yS x),.d .bool (lh x)]:=by
 refine fY (E:=[]) trivial (aiE _ ⟨0,?_⟩);obtain⟨neg,l⟩:=x;have hl:=h.1.1;unfold Xf yS lh;match l,hl with
 |[],_=>rfl
 |[a],hl=>
  have:=hl.head;simp only[anu,Ac,anY];rw[bH (x:=a) (by omega) (by omega)];simp[val]
 |[a,b],hl=>
  have h1:=hl.head;have h2:=hl.tail.head;have e1:aU [a,b] 1=some b:=rfl;have e0:aU [a,b] 0=some a:=rfl;simp only[e1,e0,anp,List.length_nil];rw[bH (x:=a) (by omega) (by omega),bH (x:=b) (by omega) (by omega),bH (x:=b*1000000000) (by omega) (by omega),bH (x:=b*1000000000+a) (by omega) (by omega)];rw[show val [a,b]=b*1000000000+a by simp only[val];omega];rfl
 |a::b::c::l,hl=>
  have e:decide ((a::b::c::l).length≤2)=false:=am7 (by simp);rw[e,show(((a::b::c::l).length:Int)==0)=false by simp;omega,show(((a::b::c::l).length:Int)==1)=false by simp;omega,show(((a::b::c::l).length:Int)==2)=false by simp;omega];rfl
def SS:eo:=spN false false [y2Y] (fun x=>decide (okI x.1)) (fun x=>[RV.d (.int .u64) (yS x.1),RV.d .bool (lh x.1)])
theorem Q3:SpK 339 SS:=spX fun x h=>Wu x.1 (am8 h)
def LR:Env:=[(269,xw),(300,CF),(340,Hm),(339,SS)]
theorem KW:EnvAll Tryz.prog LR:=⟨sD,wN,E5,Q3,trivial⟩
def abQ:NT:=[((301,6),{keep:=[4,5,6],hl:=5}),((301,24),{keep:=[4,7,9],hl:=3})]
def iC:Ctx:=CX LR abQ
def mp(x y:Bool×List Int)(b3_0:Bool)(b3_1:List Int)(b4_0:Bool)(b4_1:List Int):Cfg:=⟨301,[.blk 0,.seq 40],[(4,.box 2 0),(5,.box 3 0),(6,.box 4 0)],[.box 29 [SB x.1,.d aqs x.2],.box 29 [SB y.1,.d aqs y.2],.box 29 [SB false,.nil],.box 29 [SB b3_0,.d aqs b3_1],.box 29 [SB b4_0,.d aqs b4_1]],0,[]⟩
def gA(x y:Bool×List Int)(b3_0:Bool)(b3_1:List Int)(b4_0:Bool)(b4_1:List Int):Cfg:=⟨301,[.blk 0,.seq 40],[(4,.box 2 0),(5,.box 4 0),(6,.box 3 0)],[.box 29 [SB x.1,.d aqs x.2],.box 29 [SB y.1,.d aqs y.2],.box 29 [SB false,.nil],.box 29 [SB b3_0,.d aqs b3_1],.box 29 [SB b4_0,.d aqs b4_1]],0,[]⟩
def jp(x y:Bool×List Int)(s7 s9:Int):Cfg:=⟨301,[.blk 2,.seq 33,.seq 37,.blk 1,.lp 6,.blk 0,.seq 40],[(4,.box 2 0),(7,.d (.int .u64) s7),(9,.d (.int .u64) s9)],[.box 29 [SB x.1,.d aqs x.2],.box 29 [SB y.1,.d aqs y.2],.box 29 [SB false,.nil]],0,[]⟩
def ZK(x y:Bool×List Int)(k:KT):OLR:=let y1:=ai (cj false (val x.2));let y2:=ai (cj false (val y.2));let y3:=mp x y (y1.1) (y1.2) (y2.1) (y2.2);let y4:=gA x y (y2.1) (y2.2) (y1.1) (y1.2);let y5:OLR:=match decide (aR y.2)with|true=>k 6 y3|false=>none;let y6:OLR:=match decide (aR y.2)with|true=>k 6 y4|false=>none;ck (og (decide (aR x.2)) (ck (og (decide (aR y.2)) (ck (k 6 y3) (k 6 y4))) (ck (dup (.b .l .l) y5) (dup (.b .l .l) y6)))) (ck (ck (og (decide (aR x.2)) (dup (.b .l .l) y5)) (og (decide (aR x.2)) y5)) (ck (og (decide (aR x.2)) (dup (.b .l .l) y6)) (og (decide (aR x.2)) y6)))
theorem agv(x y:Bool×List Int):RS iC 301 [.d y2Y x,.d y2Y y] (ZK x y):=rsX
def My(x y:Bool×List Int)(b3_0:Bool)(b3_1:List Int)(b4_0:Bool)(b4_1:List Int)(k:KT):OLR:=match decide ((b4_1.length:Int)>0)with|true=>(og (decide (okI (b3_0,b3_1))) (og (decide (okI (b4_0,b4_1))) (match lh (b3_0,b3_1)with|true=>(match lh (b4_0,b4_1)with|true=>k 24 (jp x y (yS (b3_0,b3_1)) (yS (b4_0,b4_1)))|false=>(og (decide (pS b3_1 b4_1)) (og (decide (aR (dvR b3_1 b4_1))) (k 6 (mp x y b4_0 b4_1 ((ai (cj false (val (dvR b3_1 b4_1)))).1) ((ai (cj false (val (dvR b3_1 b4_1)))).2))))))|false=>(og (decide (pS b3_1 b4_1)) (og (decide (aR (dvR b3_1 b4_1))) (k 6 (mp x y b4_0 b4_1 ((ai (cj false (val (dvR b3_1 b4_1)))).1) ((ai (cj false (val (dvR b3_1 b4_1)))).2))))))))|false=>(og (decide (b3_1.length*4≤140737488355328∧b3_1.length≤140737488355328)) (og (decide (aR b3_1)) (some [RV.d y2Y (ai (cj false (val b3_1)))])))
theorem M5(x y:Bool×List Int)(b3_0:Bool)(b3_1:List Int)(b4_0:Bool)(b4_1:List Int):RL iC 6 (mp x y b3_0 b3_1 b4_0 b4_1) (My x y b3_0 b3_1 b4_0 b4_1):=rlX
def GE(x y:Bool×List Int)(b3_0:Bool)(b3_1:List Int)(b4_0:Bool)(b4_1:List Int)(k:KT):OLR:=match decide ((b3_1.length:Int)>0)with|true=>(og (decide (okI (b4_0,b4_1))) (og (decide (okI (b3_0,b3_1))) (match lh (b4_0,b4_1)with|true=>(match lh (b3_0,b3_1)with|true=>k 24 (jp x y (yS (b4_0,b4_1)) (yS (b3_0,b3_1)))|false=>(og (decide (pS b4_1 b3_1)) (og (decide (aR (dvR b4_1 b3_1))) (k 6 (gA x y ((ai (cj false (val (dvR b4_1 b3_1)))).1) ((ai (cj false (val (dvR b4_1 b3_1)))).2) b3_0 b3_1)))))|false=>(og (decide (pS b4_1 b3_1)) (og (decide (aR (dvR b4_1 b3_1))) (k 6 (gA x y ((ai (cj false (val (dvR b4_1 b3_1)))).1) ((ai (cj false (val (dvR b4_1 b3_1)))).2) b3_0 b3_1)))))))|false=>(og (decide (b4_1.length*4≤140737488355328∧b4_1.length≤140737488355328)) (og (decide (aR b4_1)) (some [RV.d y2Y (ai (cj false (val b4_1)))])))
theorem Gh(x y:Bool×List Int)(b3_0:Bool)(b3_1:List Int)(b4_0:Bool)(b4_1:List Int):RL iC 6 (gA x y b3_0 b3_1 b4_0 b4_1) (GE x y b3_0 b3_1 b4_0 b4_1):=rlX
def uZ(x y:Bool×List Int)(s7 s9:Int)(k:KT):OLR:=match decide (s9>0)with|true=>(match decide (s9=(0:Int))with|true=>none|false=>k 24 (jp x y s9 (Int.tmod s7 s9)))|false=>(og (decide (iI s7)) (og (decide (aR (dig 3 s7))) (some [RV.d y2Y (ai (cj false (val (dig 3 s7))))])))
theorem zK(x y:Bool×List Int)(s7 s9:Int):RL iC 24 (jp x y s7 s9) (uZ x y s7 s9):=rlX
theorem Ol(x y:BI)(B:Nat)(hB:(B:Int)<18446744073709551616):∀(v u:Nat),u≤B→v≤B→iC.RunsE 24 (jp x y (u:Int) (v:Int)) [.d y2Y (ai ((Nat.gcd u v:Nat):Int))]:=by
 intro v;induction v using Nat.strongRecOn with
 |ind v ih=>
  intro u hu hv;rcases an0 v with h0|h0
  ·refine zK _ _ _ _ ⟨0,fun n _=>?_⟩;have hp:iI (u:Int):=⟨by omega,by omega⟩
   unfold uZ;rw[am7 (show ¬(v:Int)>0 by omega),am5 hp,am5 (jz (n:=3) (by decide) (u:Int)),xU hp,show Nat.gcd u v=u by rw[h0];exact Nat.gcd_zero_right u];rfl
  ·obtain⟨n0,hn⟩:=ih (u%v) (ap2 _ h0) v hv (ank (Nat.le_of_lt (ap2 _ h0)) hv);refine zK _ _ _ _ ⟨n0,fun n hn'=>?_⟩;unfold uZ;rw[am5 (by omega),am7 (by omega),jy (by omega)];dsimp only;rw[show((u:Int)%(v:Int))=((u%v:Nat):Int) by simp,apd u v,Nat.gcd_rec v u,apd];exact hn n hn'
theorem zM(v:Int):cj false v=v:=rfl
theorem ji(u:Nat):ai (u:Int)=(false,ah u):=rfl
theorem zU{u:Nat}(h:(ah u).length≤2):u≤(pw 2).toNat:=by
 have h1:=b9 (ce u);rw[bj]at h1;have h2:=dm h;omega
theorem ab6:(((pw 2).toNat:Nat):Int)<18446744073709551616:=by decide
theorem CN{k:Nat→Cfg→OLR}{u v:Nat}(hu:szI u≤1000000)(hv:szI v≤1000000){r:List RV}{H:Int→Int→Cfg}{D:Int→Cfg}
  (h1:v=0→r=[.d y2Y (ai (u:Int))]) (h2:v≠0→lh (ai (u:Int))=true→lh (ai (v:Int))=true→k 24 (H (u:Int) (v:Int))=some r) (h3:v≠0→k 6 (D ((u%v:Nat):Int))=some r) (D':List Int→Cfg) (hD:D' (dvR (ah u) (ah v))=D (val (dvR (ah u) (ah v)))):
  (match decide (((ah v).length:Int)>0)with
   |true=>(match decide (okI (ai (u:Int)))with
    |true=>(match decide (okI (ai (v:Int)))with
     |true=>(match lh (ai (u:Int))with
      |true=>(match lh (ai (v:Int))with
       |true=>k 24 (H (yS (ai (u:Int))) (yS (ai (v:Int))))
       |false=>(match decide (pS (ah u) (ah v))with
        |true=>(match decide (aR (dvR (ah u) (ah v)))with
         |true=>k 6 (D' (dvR (ah u) (ah v)))
         |false=>none)
        |false=>none))
      |false=>(match decide (pS (ah u) (ah v))with
        |true=>(match decide (aR (dvR (ah u) (ah v)))with
         |true=>k 6 (D' (dvR (ah u) (ah v)))
         |false=>none)
        |false=>none))
     |false=>none)
    |false=>none)
   |false=>(match decide ((ah u).length*4≤140737488355328∧(ah u).length≤140737488355328)with
    |true=>(match decide (aR (ah u))with
     |true=>some [.d y2Y (ai (cj false (val (ah u))))]
     |false=>none)
    |false=>none))=some r:=by
 have lu:(ah u).length≤1000000:=by have:=hu;unfold szI at this;rwa [aoC]at this
 have lv:(ah v).length≤1000000:=by have:=hv;unfold szI at this;rwa [aoC]at this
 rcases an0 v with h0|h0
 ·subst h0;rw[h1 rfl,show decide (((ah 0).length:Int)>0)=false from rfl,am5 (show(ah u).length*4≤140737488355328∧(ah u).length≤140737488355328 by omega),am5 (show aR (ah u) from⟨ce u,by omega⟩),bj];rfl
 ·have hne:ah v≠[]:=fun e=>by rw[ie]at e;omega
  have hl:=anE.2 hne;have hvv:=bj v;have hvu:=bj u;have hdv:pS (ah u) (ah v):=⟨⟨ce u,by omega⟩,⟨ce v,by omega⟩,by omega⟩
  obtain⟨_,lr,_,sr,_,vr⟩:=WY hdv
  have hD2:k 6 (D' (dvR (ah u) (ah v)))=some r:=by
   rw[hD,vr,hvv,hvu];exact h3 (by omega)
  rw[am5 (by omega),am5 (aV hu),am5 (aV hv),am5 hdv,am5 (show aR (dvR (ah u) (ah v)) from⟨lr,by omega⟩)];dsimp only;cases hb1:lh (ai (u:Int))
  ·exact hD2
  ·cases hb2:lh (ai (v:Int))
   ·exact hD2
   ·dsimp only;have:=h2 (by omega) hb1 hb2;unfold yS;rw[hb1,hb2];simp only[cond_true,ji];rw[hvv,hvu];exact this
theorem LH(x y:BI):∀(v u:Nat),szI u≤1000000→szI v≤1000000→
  iC.RunsE 6 (mp x y false (ah u) false (ah v)) [.d y2Y (ai ((Nat.gcd u v:Nat):Int))]∧iC.RunsE 6 (gA x y false (ah v) false (ah u)) [.d y2Y (ai ((Nat.gcd u v:Nat):Int))]:=by
 intro v;induction v using Nat.strongRecOn with
 |ind v ih=>
  intro u hu hv
  have hw:lh (ai (u:Int))=true→lh (ai (v:Int))=true→iC.RunsE 24 (jp x y (u:Int) (v:Int)) [.d y2Y (ai ((Nat.gcd u v:Nat):Int))]:=fun h1 h2=>by
   unfold lh at h1 h2;rw[ji]at h1 h2;exact Ol x y _ ab6 v u (zU (am8 h1)) (zU (am8 h2))
  have hd:v≠0→iC.RunsE 6 (mp x y false (ah v) false (ah (u%v))) [.d y2Y (ai ((Nat.gcd u v:Nat):Int))]∧iC.RunsE 6 (gA x y false (ah (u%v)) false (ah v)) [.d y2Y (ai ((Nat.gcd u v:Nat):Int))]:=fun h0=>by
   have hm:=ap2 u (Nat.pos_of_ne_zero h0);have:=ih (u%v) hm v hv (ank (dH (by omega)) hv);rw[apd u v,Nat.gcd_rec v u,apd (u%v) v];exact this
  have hcommon:∃n0,∀n,n0≤n→(lh (ai (u:Int))=true→lh (ai (v:Int))=true→iC.k n 24 (jp x y (u:Int) (v:Int))=some [.d y2Y (ai ((Nat.gcd u v:Nat):Int))])∧(v≠0→iC.k n 6 (mp x y false (ah v) false (ah (u%v)))=some [.d y2Y (ai ((Nat.gcd u v:Nat):Int))]∧iC.k n 6 (gA x y false (ah (u%v)) false (ah v))=some [.d y2Y (ai ((Nat.gcd u v:Nat):Int))]):=by
   have g1:∃n1,∀n,n1≤n→(lh (ai (u:Int))=true→lh (ai (v:Int))=true→iC.k n 24 (jp x y (u:Int) (v:Int))=some [.d y2Y (ai ((Nat.gcd u v:Nat):Int))]):=by
    by_cases hb:lh (ai (u:Int))=true∧lh (ai (v:Int))=true
    ·obtain⟨n,h⟩:=hw hb.1 hb.2;exact⟨n,fun m hm _ _=>h m hm⟩
    ·exact⟨0,fun n _ h1 h2=>absurd ⟨h1,h2⟩ hb⟩
   have g2:∃n1,∀n,n1≤n→(v≠0→iC.k n 6 (mp x y false (ah v) false (ah (u%v)))=some [.d y2Y (ai ((Nat.gcd u v:Nat):Int))]∧iC.k n 6 (gA x y false (ah (u%v)) false (ah v))=some [.d y2Y (ai ((Nat.gcd u v:Nat):Int))]):=by
    by_cases hb:v=0
    ·exact⟨0,fun n _ h=>absurd hb h⟩
    ·obtain⟨⟨n1,h1⟩,⟨n2,h2⟩⟩:=hd hb;exact⟨max n1 n2,fun n hn _=>⟨h1 n (by omega),h2 n (by omega)⟩⟩
   obtain⟨n1,h1⟩:=g1;obtain⟨n2,h2⟩:=g2;exact⟨max n1 n2,fun n hn=>⟨h1 n (by omega),h2 n (by omega)⟩⟩
  obtain⟨n0,hc⟩:=hcommon;have hz:v=0→([.d y2Y (ai ((Nat.gcd u v:Nat):Int))]:List RV)=[.d y2Y (ai (u:Int))]:=fun e=>by subst e;rw[Nat.gcd_zero_right]
  constructor
  ·refine M5 _ _ _ _ _ _ ⟨n0,fun n hn=>?_⟩;have:=CN (k:=iC.k n) hu hv (H:=fun a b=>jp x y a b) (D:=fun z=>mp x y false (ah v) (ai z).1 (ai z).2) hz (fun _ h1 h2=>(hc n hn).1 h1 h2) (fun h0=>by rw[ji];exact((hc n hn).2 h0).1) (fun l=>mp x y false (ah v) (ai (cj false (val l))).1 (ai (cj false (val l))).2) rfl;rw[ji,ji]at this;exact this
  ·refine Gh _ _ _ _ _ _ ⟨n0,fun n hn=>?_⟩;have:=CN (k:=iC.k n) hu hv (H:=fun a b=>jp x y a b) (D:=fun z=>gA x y (ai z).1 (ai z).2 false (ah v)) hz (fun _ h1 h2=>(hc n hn).1 h1 h2) (fun h0=>by rw[ji];exact((hc n hn).2 h0).2) (fun l=>gA x y (ai (cj false (val l))).1 (ai (cj false (val l))).2 false (ah v)) rfl;rw[ji,ji]at this;exact this
theorem VB(x y:BI)(h:okI x∧okI y):CQq7 301 [.d y2Y x,.d y2Y y] [.d y2Y (ai ((Int.gcd (ag x) (ag y):Nat):Int))]:=by
 refine fY KW (show iC.Res _ _ _ from ?_);obtain⟨hx,hy⟩:=h;obtain⟨x0,_,_⟩:=cK hx;obtain⟨y0,_,_⟩:=cK hy;have ex:((ag x).natAbs:Int)=val x.2:=by rw[bO];unfold cj;cases x.1<;>simp<;>omega
 have ey:((ag y).natAbs:Int)=val y.2:=by rw[bO];unfold cj;cases y.1<;>simp<;>omega
 have szx:szI ((ag x).natAbs:Int)≤1000000:=ank (dH (by omega)) (iZ hx);have szy:szI ((ag y).natAbs:Int)≤1000000:=ank (dH (by omega)) (iZ hy);obtain⟨⟨n1,h1⟩,⟨n2,h2⟩⟩:=LH x y (ag y).natAbs (ag x).natAbs szx szy;refine agv _ _ ⟨max n1 n2,?_⟩;have h1:=h1 (max n1 n2) (by omega);have h2:=h2 (max n1 n2) (by omega);unfold ZK;simp only[fa];rw[am5 (gf hx),am5 (gf hy),zM,zM,←ex,←ey,ji,ji];dsimp only;rw[h1,h2];simp only[c9];rfl
abbrev BR:=BI×BI
def aj(q:Rat):BR:=(ai q.num,ai (q.den:Int))
def ae(x:BR):Rat:=mkRat (ag x.1) (ag x.2).toNat
theorem co(q:Rat):ae (aj q)=q:=by simp[ae,aj,dec_enc]
def okR(x:BR):Prop:=okI x.1∧okI x.2∧0<ag x.2∧Int.gcd (ag x.1) (ag x.2)=1∧x.1.2.length≤480000∧x.2.2.length≤480000
instance (x:BR):Decidable (okR x):=by unfold okR;infer_instance
def o1(x:BR):Bool:=decide (okR x)
def o2(x y:BR):Bool:=decide (okR x∧okR y)
theorem akg(x:BR):o1 x=decide (okR x):=rfl
theorem afv(x y:BR):o2 x y=(decide (okR x)&&decide (okR y)):=ao4 _ _
theorem cV{x:BR}(h:okR x):(ae x).num=ag x.1∧((ae x).den:Int)=ag x.2:=by
 obtain⟨h1,h2,h3,h4,_⟩:=h;unfold ae;rw[ap9,aqa]
 have hg:(ag x.2).toNat.gcd (ag x.1).natAbs=1:=by
  rwa [apd,show(ag x.2).toNat=(ag x.2).natAbs by omega]
 grind
theorem PM{x:BR}(h:okR x):x=aj (ae x):=by
 obtain⟨e1,e2⟩:=cV h;unfold aj;rw[e1,e2,←iA h.1,←iA h.2.1]
def bdR(k:Nat)(q:Rat):Prop:=szI q.num≤k∧szI (q.den:Int)≤k
theorem qi{q:Rat}{k:Nat}(h:bdR k q)(hk:k≤480000):okR (aj q):=by
 obtain⟨h1,h2⟩:=h;have hd:=q.den_pos;refine⟨aV (by omega),aV (by omega),?_,?_,by show szI q.num≤480000;omega,by show szI (q.den:Int)≤480000;omega⟩
 ·show 0<ag (ai (q.den:Int));grind [dec_enc]
 ·show Int.gcd (ag (ai q.num)) (ag (ai (q.den:Int)))=1;rw[dec_enc,dec_enc];exact q.reduced
theorem BU{x:BR}(h:okR x):bdR 480000 (ae x):=by
 obtain⟨e1,e2⟩:=cV h;obtain⟨h1,h2,_,_,h5,h6⟩:=h;unfold bdR szI;rw[e1,e2];rw[iA h1]at h5;rw[iA h2]at h6;exact⟨h5,h6⟩
theorem bK{j k:Nat}{q:Rat}(h:bdR j q)(hk:j≤k):bdR k q:=⟨ank h.1 hk,ank h.2 hk⟩
theorem HS(a:Int)(g:Nat):(a/(g:Int)).natAbs≤a.natAbs∨¬(g:Int)∣a:=by
 by_cases h:(g:Int)∣a
 ·obtain⟨k,rfl⟩:=h;rcases an0 g with h0|h0
  ·grind
  ·rw[apj _ (by omega),apW];simp_all [Nat.le_mul_of_pos_left]
 grind
theorem uK{n:Int}{d k:Nat}(hd:d≠0)(h1:szI n≤k)(h2:szI (d:Int)≤k):bdR k (mkRat n d):=by
 unfold bdR;rw[ap9,aqa,anr hd,anr hd];constructor
 ·refine ank (dH ?_) h1;grind [HS,Nat.gcd_dvd_right,Int.ofNat_dvd_left]
 ·exact ank (dH (by rw[aoC,aoC];exact Nat.div_le_self _ _)) h2
theorem wv{k:Nat}{a:Rat}(h:bdR k a):bdR k (-a):=by
 refine⟨?_,h.2⟩;rw[Rat.neg_num,jf];exact h.1
theorem B9{j k:Nat}{a b:Rat}(ha:bdR j a)(hb:bdR k b):bdR (j+k+1) (a+b):=by
 rw[Rat.add_def'];have d1:=a.den_pos;have d2:=b.den_pos;refine uK (apH (by omega) (by omega)) (v7 (cW ha.1 hb.2) ?_) ?_
 ·rw[Nat.add_comm];exact cW hb.1 ha.2
 ·rw[aoA];exact ank (cW ha.2 hb.2) (by omega)
theorem We{j k:Nat}{a b:Rat}(ha:bdR j a)(hb:bdR k b):bdR (j+k+1) (a-b):=by grind [apy,B9,wv]
theorem CC{j k:Nat}{a b:Rat}(ha:bdR j a)(hb:bdR k b):bdR (j+k) (a*b):=by
 rw[Rat.mul_def'];have d1:=a.den_pos;have d2:=b.den_pos;refine uK (apH (by omega) (by omega)) (cW ha.1 hb.1) ?_;exact cW ha.2 hb.2
theorem Vm{k:Nat}{a:Rat}(h:bdR k a)(h0:a≠0):bdR k a⁻¹:=by
 have hn:a.num≠0:=fun e=>h0 (Rat.num_eq_zero.1 e);rw[Rat.inv_def];rcases aoU hn with h1|h1
 ·rw[←Rat.neg_divInt_neg,show-a.num=(((-a.num).toNat:Nat):Int) by omega,apt];refine uK (by omega) (by rw[jf];exact h.2) ?_;rw[show(((-a.num).toNat:Nat):Int)= -a.num by omega,jf];exact h.1
 ·rw[show a.num=((a.num.toNat:Nat):Int) by omega,apt];refine uK (by omega) h.2 ?_;rw[show((a.num.toNat:Nat):Int)=a.num by omega];exact h.1
theorem UC{j k:Nat}{a b:Rat}(ha:bdR j a)(hb:bdR k b)(h0:b≠0):bdR (j+k) (a/b):=by grind [CC,Vm]
def fw(x y:BI):BR:=aj (Rat.divInt (ag x) (ag y))
def jR(x y:BI):Prop:=okI x∧okI y∧ag y≠0
instance (x y:BI):Decidable (jR x y):=by unfold jR;infer_instance
theorem nt{n d:Int}(hd:0<d):aj (Rat.divInt n d)=(ai (n/(Int.gcd n d:Int)),ai (d/(Int.gcd n d:Int))):=by
 obtain⟨D,rfl⟩:=aoo (anO hd);unfold aj;rw[apt,ap9,aqa,anr (by omega),anr (by omega)];have e:Int.gcd n (D:Int)=D.gcd n.natAbs:=by rw[apd];rfl
 grind
def vt:eo:=spN true false [y2Y] (fun x=>decide (okI x.1)) (fun x=>[RV.d aqt (cC (ag x.1) 0)])
theorem pF:SpK 83 vt:=spX fun x h=>V1 x.1 (am8 h)
def rI:eo:=spN true false [y2Y,y2Y] (fun x=>decide (okI x.1∧okI x.2.1)) (fun x=>[RV.d aqt (cC (ag x.1) (ag x.2.1))])
theorem mY:SpK 172 rI:=spX fun x h=>ID x.1 x.2.1 (am8 h)
def uV:eo:=spN false false [y2Y] (fun x=>decide (okI x.1)) (fun x=>[RV.d y2Y (ai (-ag x.1))])
theorem ph:SpK 216 uV:=spX fun x h=>Is x.1 (am8 h)
def uM:eo:=spN false false [y2Y,y2Y] (fun x=>decide (okI x.1∧okI x.2.1)) (fun x=>[RV.d y2Y (ai (ag x.1*ag x.2.1))])
theorem pW:SpK 173 uM:=spX fun x h=>JV x.1 x.2.1 (am8 h)
def Cl:eo:=spN false false [y2Y,y2Y] (fun x=>decide (fy x.1 x.2.1)) (fun x=>[RV.d y2Y (ai (ag x.1/ag x.2.1)),RV.d y2Y (ai (ag x.1%ag x.2.1)),RV.d aqt 0])
theorem xo:SpK 341 Cl:=spX fun x h=>Jv x.1 x.2.1 (am8 h)
def Gd:eo:=spN false false [y2Y,y2Y] (fun x=>decide (okI x.1∧okI x.2.1)) (fun x=>[RV.d y2Y (ai ((Int.gcd (ag x.1) (ag x.2.1):Nat):Int))])
theorem E3:SpK 301 Gd:=spX fun x h=>VB x.1 x.2.1 (am8 h)
def FU:Env:=[(210,pe),(83,vt),(172,rI),(215,pQ),(216,uV),(173,uM),(341,Cl),(301,Gd)]
theorem zG:EnvAll Tryz.prog FU:=⟨kL,pF,mY,kM,ph,pW,xo,E3,trivial⟩
def agV:Ctx:=CX FU []
def aa5(_k:KT):OLR:=og (decide (aH (1:Int))) (some [RV.d y2Y (ai (1:Int))])
theorem ait:RS agV 299 [] (aa5):=rsX
def afH:Ctx:=CX FU []
def aar(x y:Bool×List Int)(_k:KT):OLR:=og (decide (fy x y)) (some [RV.d y2Y (ai (ag x/ag y))])
theorem agE(x y:Bool×List Int):RS afH 302 [.d y2Y x,.d y2Y y] (aar x y):=rsX
theorem Ve:CQq7 299 [] [.d y2Y (ai 1)]:=by
 refine fY zG (ait ⟨0,?_⟩);unfold aa5;rw[am5 (show aH 1 by decide)]
theorem Wx(x y:BI)(h:fy x y):CQq7 302 [.d y2Y x,.d y2Y y] [.d y2Y (ai (ag x/ag y))]:=by
 refine fY zG (agE _ _ ⟨0,?_⟩);unfold aar;rw[am5 h]
def xi:eo:=spN false false [] (fun _=>true) (fun _=>[RV.d y2Y (ai 1)])
theorem tM:SpK 299 xi:=spX fun _ _=>Ve
def LM:eo:=spN false false [y2Y,y2Y] (fun x=>decide (fy x.1 x.2.1)) (fun x=>[RV.d y2Y (ai (ag x.1/ag x.2.1))])
theorem Nq:SpK 302 LM:=spX fun x h=>Wx x.1 x.2.1 (am8 h)
def Lw:Env:=[(210,pe),(83,vt),(172,rI),(215,pQ),(216,uV),(173,uM),(341,Cl),(301,Gd),(299,xi),(302,LM)]
theorem KE:EnvAll Tryz.prog Lw:=⟨kL,pF,mY,kM,ph,pW,xo,E3,tM,Nq,trivial⟩
def ag0:Ctx:=CX Lw []
def W3(x y:Bool×List Int)(_k:KT):OLR:=match decide (okI y)with|true=>(match decide ((cC (ag y) 0)<0)with|true=>(match decide (okI x)with|true=>(match decide (okI y)with|true=>(match decide (okI (ai (-ag x))∧okI (ai (-ag y)))with|true=>(match decide (okI (ai ((Int.gcd (ag (ai (-ag x))) (ag (ai (-ag y))):Nat):Int))∧okI (ai 1))with|true=>(match(cC (ag (ai ((Int.gcd (ag (ai (-ag x))) (ag (ai (-ag y))):Nat):Int))) (ag (ai 1))) !=0 with|true=>(match decide (fy (ai (-ag x)) (ai ((Int.gcd (ag (ai (-ag x))) (ag (ai (-ag y))):Nat):Int)))with|true=>(match decide (fy (ai (-ag y)) (ai ((Int.gcd (ag (ai (-ag x))) (ag (ai (-ag y))):Nat):Int)))with|true=>some [RV.d (.st (.pair y2Y y2Y)) ((ai (ag (ai (-ag x))/ag (ai ((Int.gcd (ag (ai (-ag x))) (ag (ai (-ag y))):Nat):Int)))),(ai (ag (ai (-ag y))/ag (ai ((Int.gcd (ag (ai (-ag x))) (ag (ai (-ag y))):Nat):Int)))))]|false=>none)|false=>none)|false=>some [RV.d (.st (.pair y2Y y2Y)) ((ai (-ag x)),(ai (-ag y)))])|false=>none)|false=>none)|false=>none)|false=>none)|false=>(match decide (okI x∧okI y)with|true=>(match decide (okI (ai ((Int.gcd (ag x) (ag y):Nat):Int))∧okI (ai 1))with|true=>(match(cC (ag (ai ((Int.gcd (ag x) (ag y):Nat):Int))) (ag (ai 1))) !=0 with|true=>(match decide (fy x (ai ((Int.gcd (ag x) (ag y):Nat):Int)))with|true=>(match decide (fy y (ai ((Int.gcd (ag x) (ag y):Nat):Int)))with|true=>some [RV.d (.st (.pair y2Y y2Y)) ((ai (ag x/ag (ai ((Int.gcd (ag x) (ag y):Nat):Int)))),(ai (ag y/ag (ai ((Int.gcd (ag x) (ag y):Nat):Int)))))]|false=>none)|false=>none)|false=>some [RV.d (.st (.pair y2Y y2Y)) (x,y)])|false=>none)|false=>none))|false=>none
theorem aip(x y:Bool×List Int):RS ag0 214 [.d y2Y x,.d y2Y y] (W3 x y):=rsX
theorem NQ{a b:Int}(hb:b≠0){k:Nat}(h:szI b≤k):szI ((Int.gcd a b:Nat):Int)≤k:=by
 refine ank (dH ?_) h;exact Nat.le_of_dvd (by omega) (Nat.gcd_dvd_right a.natAbs b.natAbs)
theorem Un(x y:BI)(h:jR x y):CQq7 214 [.d y2Y x,.d y2Y y] [.d (.st (.pair y2Y y2Y)) (fw x y)]:=by
 refine fY KE (aip _ _ ⟨0,?_⟩);obtain⟨hx,hy,hne⟩:=h;have sx:=iZ hx;have sy:=iZ hy;have hgp:0<Int.gcd (ag x) (ag y):=Nat.pos_of_ne_zero fun e=>hne (Int.gcd_eq_zero_iff.1 e).2;have hgs:=NQ (a:=ag x) hne sy;unfold W3 fw;rw[am5 hy];dsimp only;rcases aoU hne with hn|hn
 ·rw[da hn,am5 (show(-1:Int)<0 by decide),am5 hx];have o1:okI (ai (-ag x)):=aV (by rw[jf];exact sx);have o2:okI (ai (-ag y)):=aV (by rw[jf];exact sy);simp only[dec_enc,Int.gcd_neg,Int.neg_gcd];have og:okI (ai ((Int.gcd (ag x) (ag y):Nat):Int)):=aV hgs;rw[am5 (show okI (ai (-ag x))∧okI (ai (-ag y)) from⟨o1,o2⟩),am5 (show okI (ai ((Int.gcd (ag x) (ag y):Nat):Int))∧okI (ai 1) from⟨og,qG⟩)];rw[←Rat.neg_divInt_neg,nt (by omega),Int.gcd_neg,Int.neg_gcd];dsimp only;by_cases h1:Int.gcd (ag x) (ag y)=1
  ·rw[h1];simp[d7]
  ·have hc:(cC ((Int.gcd (ag x) (ag y):Nat):Int) 1 !=0)=true:=by
    rw[cU (by omega)];rfl
   rw[hc,am5 (show fy (ai (-ag x)) (ai ((Int.gcd (ag x) (ag y):Nat):Int)) from⟨o1,og,by rw[dec_enc];omega⟩),am5 (show fy (ai (-ag y)) (ai ((Int.gcd (ag x) (ag y):Nat):Int)) from⟨o2,og,by rw[dec_enc];omega⟩)]
 ·rw[cU hn,am7 (show ¬(1:Int)<0 by decide)];simp only[dec_enc];have og:okI (ai ((Int.gcd (ag x) (ag y):Nat):Int)):=aV hgs;rw[am5 (show okI x∧okI y from⟨hx,hy⟩),am5 (show okI (ai ((Int.gcd (ag x) (ag y):Nat):Int))∧okI (ai 1) from⟨og,qG⟩),nt hn];dsimp only;by_cases h1:Int.gcd (ag x) (ag y)=1
  ·rw[h1];simp only[Int.natCast_one,d7,Int.ediv_one,←iA hx,←iA hy];rfl
  ·have hc:(cC ((Int.gcd (ag x) (ag y):Nat):Int) 1 !=0)=true:=by
    rw[cU (by omega)];rfl
   rw[hc,am5 (show fy x (ai ((Int.gcd (ag x) (ag y):Nat):Int)) from⟨hx,og,by rw[dec_enc];omega⟩),am5 (show fy y (ai ((Int.gcd (ag x) (ag y):Nat):Int)) from⟨hy,og,by rw[dec_enc];omega⟩)]
def aD(a b:Rat):Int:=bif decide (a<b)then-1 else bif decide (b<a)then 1 else 0
theorem dK{a b:Rat}(h:a<b):aD a b= -1:=by grind [aD]
theorem dp{a b:Rat}(h:b<a):aD a b=1:=by grind [aD]
theorem d8(a:Rat):aD a a=0:=by simp[aD]
theorem yL(a b:Rat):cC (a.num*(b.den:Int)) (b.num*(a.den:Int))=aD a b:=by simp[cC,aD,Rat.lt_iff]
theorem ux(a:Rat):cC a.num 0=aD a 0:=by
 rw[←yL];simp
def Cy:eo:=spN false false [y2Y,y2Y] (fun x=>decide (jR x.1 x.2.1)) (fun x=>[RV.d (.st (.pair y2Y y2Y)) (fw x.1 x.2.1)])
theorem xE:SpK 214 Cy:=spX fun x h=>Un x.1 x.2.1 (am8 h)
def ab1:NT:=[((171,3),{keep:=[0,1,8],hl:=0}),((171,5),{keep:=[0,1,5,10],hl:=0})]
def ajP:Ctx:=CX [] ab1
def Ym(x y:Int)(_k:KT):OLR:=match x !=x with|true=>(match y !=y with|true=>some [RV.d aqt 0]|false=>some [RV.d aqt (-1)])|false=>(match y !=y with|true=>some [RV.d aqt 1]|false=>(match decide (x<y)with|true=>some [RV.d aqt (-1)]|false=>(match decide (x>y)with|true=>some [RV.d aqt 1]|false=>some [RV.d aqt 0])))
theorem ajZ(x y:Int):RS ajP 171 [SI x,SI y] (Ym x y):=rsX
theorem Ts(x y:Int):CQq7 171 [.d aqt x,.d aqt y] [.d aqt (cC x y)]:=by
 refine fY (E:=[]) trivial (ajZ _ _ ⟨0,?_⟩);unfold Ym;rw[show(x !=x)=false by simp,show(y !=y)=false by simp];dsimp only;rcases Int.lt_trichotomy x y with h|h|h
 ·rw[da h,am5 h]
 ·subst h;rw[d7,am7 (show ¬x<x by omega)]
 ·rw[cU h,am7 (show ¬x<y by omega),am5 (show x>y from h)]
def A6:eo:=spN true false [aqt,aqt] (fun _=>true) (fun x=>[RV.d aqt (cC x.1 x.2.1)])
theorem yg:SpK 171 A6:=spX fun x _=>Ts x.1 x.2.1
def FS:Env:=[(210,pe),(83,vt),(172,rI),(215,pQ),(216,uV),(173,uM),(299,xi),(214,Cy),(171,A6)]
theorem zs:EnvAll Tryz.prog FS:=⟨kL,pF,mY,kM,ph,pW,tM,xE,yg,trivial⟩
def ahx:Ctx:=CX FS []
def aii(x:Bool×List Int)(_k:KT):OLR:=some [RV.d (.st (.pair y2Y y2Y)) (x,(ai 1))]
theorem aiu(x:Bool×List Int):RS ahx 209 [.d y2Y x] (aii x):=rsX
theorem Vg(x:BI):CQq7 209 [.d y2Y x] [.d (.st (.pair y2Y y2Y)) (x,ai 1)]:=
 fY zs (aiu _ ⟨0,rfl⟩)
def Hp:eo:=spN false false [y2Y] (fun _=>true) (fun x=>[RV.d (.st (.pair y2Y y2Y)) (x.1,ai 1)])
theorem C9:SpK 209 Hp:=spX fun x _=>Vg x.1
def ajB:Ctx:=CX FS []
def ZI(a:(Bool×List Int)×Bool×List Int)(_k:KT):OLR:=og (decide (okI a.1)) (some [RV.d aqt (cC (ag a.1) 0)])
theorem ais(a:(Bool×List Int)×Bool×List Int):RS ajB 41 [.d (.st (.pair y2Y y2Y)) a] (ZI a):=rsX
theorem I7(a:BR)(h:okR a):CQq7 41 [.d (.st (.pair y2Y y2Y)) a] [.d aqt (aD (ae a) 0)]:=by
 refine fY zs (ais _ ⟨0,?_⟩);unfold ZI;rw[am5 h.1,←ux,(cV h).1]
def F3:eo:=spN true false [(.st (.pair y2Y y2Y))] (fun x=>decide (okR x.1)) (fun x=>[RV.d aqt (aD (ae x.1) 0)])
theorem DJ:SpK 41 F3:=spX fun x h=>I7 x.1 (am8 h)
def nL:Env:=[(210,pe),(83,vt),(172,rI),(215,pQ),(216,uV),(173,uM),(299,xi),(214,Cy),(171,A6),(209,Hp),(41,F3)]
theorem ja:EnvAll Tryz.prog nL:=⟨kL,pF,mY,kM,ph,pW,tM,xE,yg,C9,DJ,trivial⟩
def afX:Ctx:=CX nL []
def Xd(n:Int)(_k:KT):OLR:=og (decide (aH n)) (some [RV.d (.st (.pair y2Y y2Y)) ((ai n),(ai 1))])
theorem afW(n:Int):RS afX 99 [SI n] (Xd n):=rsX
def ahZ:Ctx:=CX nL []
def XU(a b:(Bool×List Int)×Bool×List Int)(_k:KT):OLR:=match decide (okR a)with|true=>(match decide (okR b)with|true=>(match(cC (aD (ae a) 0) (aD (ae b) 0)) !=0 with|true=>some [RV.d aqt (cC (aD (ae a) 0) (aD (ae b) 0))]|false=>(match decide (okI a.1∧okI b.2)with|true=>(match decide (okI b.1∧okI a.2)with|true=>(match decide (okI (ai (ag a.1*ag b.2))∧okI (ai (ag b.1*ag a.2)))with|true=>some [RV.d aqt (cC (ag (ai (ag a.1*ag b.2))) (ag (ai (ag b.1*ag a.2))))]|false=>none)|false=>none)|false=>none))|false=>none)|false=>none
theorem afJ(a b:(Bool×List Int)×Bool×List Int):RS ahZ 73 [.d (.st (.pair y2Y y2Y)) a,.d (.st (.pair y2Y y2Y)) b] (XU a b):=rsX
def aj5:Ctx:=CX nL []
def aat(a b:(Bool×List Int)×Bool×List Int)(_k:KT):OLR:=match decide (okI a.2∧okI b.2)with|true=>(match(cC (ag a.2) (ag b.2))==0 with|true=>(match decide (okI a.1∧okI b.1)with|true=>(match decide (jR (ai (ag a.1+ag b.1)) a.2)with|true=>some [RV.d (.st (.pair y2Y y2Y)) (((fw (ai (ag a.1+ag b.1)) a.2).1),((fw (ai (ag a.1+ag b.1)) a.2).2))]|false=>none)|false=>none)|false=>(match decide (okI a.1∧okI b.2)with|true=>(match decide (okI b.1∧okI a.2)with|true=>(match decide (okI (ai (ag a.1*ag b.2))∧okI (ai (ag b.1*ag a.2)))with|true=>(match decide (okI a.2∧okI b.2)with|true=>(match decide (jR (ai (ag (ai (ag a.1*ag b.2))+ag (ai (ag b.1*ag a.2)))) (ai (ag a.2*ag b.2)))with|true=>some [RV.d (.st (.pair y2Y y2Y)) (((fw (ai (ag (ai (ag a.1*ag b.2))+ag (ai (ag b.1*ag a.2)))) (ai (ag a.2*ag b.2))).1),((fw (ai (ag (ai (ag a.1*ag b.2))+ag (ai (ag b.1*ag a.2)))) (ai (ag a.2*ag b.2))).2))]|false=>none)|false=>none)|false=>none)|false=>none)|false=>none))|false=>none
theorem aiA(a b:(Bool×List Int)×Bool×List Int):RS aj5 107 [.d (.st (.pair y2Y y2Y)) a,.d (.st (.pair y2Y y2Y)) b] (aat a b):=rsX
def aj7:Ctx:=CX nL []
def XJ(a:(Bool×List Int)×Bool×List Int)(_k:KT):OLR:=og (decide (okI a.1)) (some [RV.d (.st (.pair y2Y y2Y)) ((ai (-ag a.1)),a.2)])
theorem ajv(a:(Bool×List Int)×Bool×List Int):RS aj7 109 [.d (.st (.pair y2Y y2Y)) a] (XJ a):=rsX
def ajk:Ctx:=CX nL []
def Yq(a b:(Bool×List Int)×Bool×List Int)(_k:KT):OLR:=og (decide (okI a.1∧okI b.1)) (og (decide (okI a.2∧okI b.2)) (og (decide (jR (ai (ag a.1*ag b.1)) (ai (ag a.2*ag b.2)))) (some [RV.d (.st (.pair y2Y y2Y)) (((fw (ai (ag a.1*ag b.1)) (ai (ag a.2*ag b.2))).1),((fw (ai (ag a.1*ag b.1)) (ai (ag a.2*ag b.2))).2))])))
theorem afP(a b:(Bool×List Int)×Bool×List Int):RS ajk 108 [.d (.st (.pair y2Y y2Y)) a,.d (.st (.pair y2Y y2Y)) b] (Yq a b):=rsX
def akt:Ctx:=CX nL []
def Xu(a b:(Bool×List Int)×Bool×List Int)(_k:KT):OLR:=match decide (okR b)with|true=>(match(aD (ae b) 0)==0 with|true=>some [RV.d (.st (.pair y2Y y2Y)) ((false,[]),(false,[])),RV.d aqt 6]|false=>(match decide (okI a.1∧okI b.2)with|true=>(match decide (okI a.2∧okI b.1)with|true=>(match decide (jR (ai (ag a.1*ag b.2)) (ai (ag a.2*ag b.1)))with|true=>some [RV.d (.st (.pair y2Y y2Y)) (((fw (ai (ag a.1*ag b.2)) (ai (ag a.2*ag b.1))).1),((fw (ai (ag a.1*ag b.2)) (ai (ag a.2*ag b.1))).2)),RV.d aqt 0]|false=>none)|false=>none)|false=>none))|false=>none
theorem akd(a b:(Bool×List Int)×Bool×List Int):RS akt 305 [.d (.st (.pair y2Y y2Y)) a,.d (.st (.pair y2Y y2Y)) b] (Xu a b):=rsX
theorem Wj(n:Int)(h:aH n):CQq7 99 [.d aqt n] [.d (.st (.pair y2Y y2Y)) (aj (n:Rat))]:=by
 refine fY ja (afW _ ⟨0,?_⟩);unfold Xd aj;rw[am5 h,Rat.num_intCast,Rat.den_intCast];rfl
theorem gk{a:BR}(h:okR a):szI (ag a.1)≤480000∧szI (ag a.2)≤480000:=by
 have h1:=BU h;grind [cV,bdR]
theorem KC(a b:Rat):(cC (aD a 0) (aD b 0)≠0→cC (aD a 0) (aD b 0)=aD a b):=by
 rcases(by grind:a<0∨a=0∨0<a)with h1|h1|h1<;>rcases(by grind:b<0∨b=0∨0<b)with h2|h2|h2
 ·grind [dK,d7]
 ·rw[dK h1,h2,d8,dK h1];intro;rfl
 ·rw[dK h1,dp h2,dK (by grind)];intro;rfl
 ·rw[h1,d8,dK h2,dp h2];intro;rfl
 ·grind [d8,d7]
 ·rw[h1,d8,dp h2,dK h2];intro;rfl
 ·rw[dp h1,dK h2,dp (by grind)];intro;rfl
 ·rw[dp h1,h2,d8,dp h1];intro;rfl
 grind [dp,d7]
theorem S5(a b:BR)(h:okR a∧okR b):CQq7 73 [.d (.st (.pair y2Y y2Y)) a,.d (.st (.pair y2Y y2Y)) b] [.d aqt (aD (ae a) (ae b))]:=by
 refine fY ja (afJ _ _ ⟨0,?_⟩);obtain⟨ha,hb⟩:=h;obtain⟨a1,a2⟩:=cV ha;obtain⟨b1,b2⟩:=cV hb;obtain⟨sa1,sa2⟩:=gk ha;obtain⟨sb1,sb2⟩:=gk hb;have h1:=cW sa1 sb2;have h2:=cW sb1 sa2;unfold XU;rw[am5 ha,am5 hb];dsimp only;have hs:=KC (ae a) (ae b);by_cases hc:cC (aD (ae a) 0) (aD (ae b) 0)=0
 ·rw[hc,am5 (show okI a.1∧okI b.2 from⟨ha.1,hb.2.1⟩),am5 (show okI b.1∧okI a.2 from⟨hb.1,ha.2.1⟩),am5 (show okI (ai (ag a.1*ag b.2))∧okI (ai (ag b.1*ag a.2)) from⟨aV (by omega),aV (by omega)⟩),dec_enc,dec_enc,←a1,←a2,←b1,←b2,yL];rfl
 ·rw[show(cC (aD (ae a) 0) (aD (ae b) 0) !=0)=true by simpa using hc,hs hc]
theorem IC(a:BR)(h:okR a):CQq7 109 [.d (.st (.pair y2Y y2Y)) a] [.d (.st (.pair y2Y y2Y)) (aj (-ae a))]:=by
 refine fY ja (ajv _ ⟨0,?_⟩);obtain⟨a1,a2⟩:=cV h;unfold XJ
 have e:aj (-ae a)=(ai (-ag a.1),a.2):=by
  unfold aj;rw[Rat.neg_num,a1,show((-ae a).den:Int)=((ae a).den:Int) from rfl,a2,←iA h.2.1]
 rw[am5 h.1,e]
theorem H7(a b:BR)(h:okR a∧okR b):CQq7 107 [.d (.st (.pair y2Y y2Y)) a,.d (.st (.pair y2Y y2Y)) b] [.d (.st (.pair y2Y y2Y)) (aj (ae a+ae b))]:=by
 refine fY ja (aiA _ _ ⟨0,?_⟩);obtain⟨ha,hb⟩:=h;obtain⟨a1,a2⟩:=cV ha;obtain⟨b1,b2⟩:=cV hb;obtain⟨sa1,sa2⟩:=gk ha;obtain⟨sb1,sb2⟩:=gk hb;have pa:=ha.2.2.1;have pb:=hb.2.2.1;have h1:=cW sa1 sb2;have h2:=cW sb1 sa2;have h3:=cW sa2 sb2;have h4:=v7 h1 h2;have h5:=v7 sa1 sb1;have hda:ae a=Rat.divInt (ag a.1) (ag a.2):=by rw[←a1,←a2,aoa]
 have hdb:ae b=Rat.divInt (ag b.1) (ag b.2):=by rw[←b1,←b2,aoa]
 unfold aat
 rw[am5 (show okI a.2∧okI b.2 from⟨ha.2.1,hb.2.1⟩)];dsimp only;by_cases hc:ag a.2=ag b.2
 ·rw[hc,d7,am5 (show okI a.1∧okI b.1 from⟨ha.1,hb.1⟩)];rw[am5 (show jR (ai (ag a.1+ag b.1)) a.2 from⟨aV (by omega),ha.2.1,by omega⟩)]
  have e:fw (ai (ag a.1+ag b.1)) a.2=aj (ae a+ae b):=by
   unfold fw;rw[dec_enc,hda,hdb,←hc,Rat.divInt_eq_div,Rat.divInt_eq_div,Rat.divInt_eq_div,Rat.intCast_add];congr 1;grind
  rw[e];rfl
 ·have hcm:(cC (ag a.2) (ag b.2)==0)=false:=by
   rcases aoU hc with h|h
   ·rw[da h];rfl
   ·rw[cU h];rfl
  rw[hcm,am5 (show okI a.1∧okI b.2 from⟨ha.1,hb.2.1⟩),am5 (show okI b.1∧okI a.2 from⟨hb.1,ha.2.1⟩),am5 (show okI (ai (ag a.1*ag b.2))∧okI (ai (ag b.1*ag a.2)) from⟨aV (by omega),aV (by omega)⟩)];simp only[dec_enc];rw[am5 (show jR (ai (ag a.1*ag b.2+ag b.1*ag a.2)) (ai (ag a.2*ag b.2)) from⟨aV (by omega),aV (by omega),by rw[dec_enc];exact apI (by omega) (by omega)⟩)]
  have e:fw (ai (ag a.1*ag b.2+ag b.1*ag a.2)) (ai (ag a.2*ag b.2))=aj (ae a+ae b):=by
   unfold fw;rw[dec_enc,dec_enc,hda,hdb,Rat.divInt_add_divInt _ _ (by omega) (by omega)]
  rw[e]
theorem Um(a b:BR)(h:okR a∧okR b):CQq7 108 [.d (.st (.pair y2Y y2Y)) a,.d (.st (.pair y2Y y2Y)) b] [.d (.st (.pair y2Y y2Y)) (aj (ae a*ae b))]:=by
 refine fY ja (afP _ _ ⟨0,?_⟩);obtain⟨ha,hb⟩:=h;obtain⟨a1,a2⟩:=cV ha;obtain⟨b1,b2⟩:=cV hb;obtain⟨sa1,sa2⟩:=gk ha;obtain⟨sb1,sb2⟩:=gk hb;have pa:=ha.2.2.1;have pb:=hb.2.2.1;have h1:=cW sa1 sb1;have h3:=cW sa2 sb2;have hda:ae a=Rat.divInt (ag a.1) (ag a.2):=by rw[←a1,←a2,aoa]
 have hdb:ae b=Rat.divInt (ag b.1) (ag b.2):=by rw[←b1,←b2,aoa]
 unfold Yq;rw[am5 (show okI a.1∧okI b.1 from⟨ha.1,hb.1⟩),am5 (show okI a.2∧okI b.2 from⟨ha.2.1,hb.2.1⟩),am5 (show jR (ai (ag a.1*ag b.1)) (ai (ag a.2*ag b.2)) from⟨aV (by omega),aV (by omega),by rw[dec_enc];exact apI (by omega) (by omega)⟩)]
 have e:fw (ai (ag a.1*ag b.1)) (ai (ag a.2*ag b.2))=aj (ae a*ae b):=by
  unfold fw;rw[dec_enc,dec_enc,hda,hdb,apJ]
 rw[e]
def ij(a b:BR):Prop:=okR a∧okR b∧ag b.1≠0
instance (a b:BR):Decidable (ij a b):=by unfold ij;infer_instance
theorem Vj(a b:BR)(h:ij a b):CQq7 305 [.d (.st (.pair y2Y y2Y)) a,.d (.st (.pair y2Y y2Y)) b] [.d (.st (.pair y2Y y2Y)) (aj (ae a/ae b)),.d aqt 0]:=by
 refine fY ja (akd _ _ ⟨0,?_⟩);obtain⟨ha,hb,hne⟩:=h;obtain⟨a1,a2⟩:=cV ha;obtain⟨b1,b2⟩:=cV hb;obtain⟨sa1,sa2⟩:=gk ha;obtain⟨sb1,sb2⟩:=gk hb;have pa:=ha.2.2.1;have h1:=cW sa1 sb2;have h3:=cW sa2 sb1;have hda:ae a=Rat.divInt (ag a.1) (ag a.2):=by rw[←a1,←a2,aoa]
 have hdb:ae b=Rat.divInt (ag b.1) (ag b.2):=by rw[←b1,←b2,aoa]
 have hnz:(aD (ae b) 0==0)=false:=by
  rw[←ux,b1];rcases aoU hne with h|h
  ·rw[da h];rfl
  ·rw[cU h];rfl
 unfold Xu;rw[am5 hb,hnz,am5 (show okI a.1∧okI b.2 from⟨ha.1,hb.2.1⟩),am5 (show okI a.2∧okI b.1 from⟨ha.2.1,hb.1⟩),am5 (show jR (ai (ag a.1*ag b.2)) (ai (ag a.2*ag b.1)) from⟨aV (by omega),aV (by omega),by rw[dec_enc];exact apI (by omega) hne⟩)]
 have e:fw (ai (ag a.1*ag b.2)) (ai (ag a.2*ag b.1))=aj (ae a/ae b):=by
  unfold fw;rw[dec_enc,dec_enc,hda,hdb,apK,Rat.inv_divInt,apJ]
 rw[e]
def RY:eo:=spN false false [(.st (.pair y2Y y2Y)),(.st (.pair y2Y y2Y))] (fun x=>decide (okR x.1∧okR x.2.1)) (fun x=>[RV.d (.st (.pair y2Y y2Y)) (aj (ae x.1+ae x.2.1))])
theorem ON:SpK 107 RY:=spX fun x h=>H7 x.1 x.2.1 (am8 h)
def OG:eo:=spN false false [(.st (.pair y2Y y2Y))] (fun x=>decide (okR x.1)) (fun x=>[RV.d (.st (.pair y2Y y2Y)) (aj (-ae x.1))])
theorem Om:SpK 109 OG:=spX fun x h=>IC x.1 (am8 h)
def HN:Env:=[(210,pe),(83,vt),(172,rI),(215,pQ),(216,uV),(173,uM),(299,xi),(214,Cy),(171,A6),(209,Hp),(41,F3),(107,RY),(109,OG)]
theorem Hx:EnvAll Tryz.prog HN:=⟨kL,pF,mY,kM,ph,pW,tM,xE,yg,C9,DJ,ON,Om,trivial⟩
def afk:Ctx:=CX HN []
def Yf(a b:(Bool×List Int)×Bool×List Int)(_k:KT):OLR:=match decide (okR b)with|true=>(match decide (okR a∧okR (aj (-ae b)))with|true=>some [RV.d (.st (.pair y2Y y2Y)) (((aj (ae a+ae (aj (-ae b)))).1),((aj (ae a+ae (aj (-ae b)))).2))]|false=>none)|false=>none
theorem afa(a b:(Bool×List Int)×Bool×List Int):RS afk 106 [.d (.st (.pair y2Y y2Y)) a,.d (.st (.pair y2Y y2Y)) b] (Yf a b):=rsX
theorem TD(a b:BR)(h:okR a∧okR b):CQq7 106 [.d (.st (.pair y2Y y2Y)) a,.d (.st (.pair y2Y y2Y)) b] [.d (.st (.pair y2Y y2Y)) (aj (ae a-ae b))]:=by
 refine fY Hx (afa _ _ ⟨0,?_⟩);obtain⟨ha,hb⟩:=h;unfold Yf;rw[am5 hb,co,apy,am5 (show okR a∧okR (aj (-ae b)) from⟨ha,qi (wv (BU hb)) (anb _)⟩)]
section
namespace RL
theorem kw{x y B e:Rat}(h1:x<B)(h2: -B<x)(h3:y<e)(h4: -e<y):x*y<B*e:=by
 have p:=anA (a:=B-x) (b:=e+y) (by grind) (by grind);have q:=anA (a:=B+x) (b:=e-y) (by grind) (by grind);grind
theorem Xc{e:Rat}(h:0<e):0<e/2:=by grind
theorem zp{e B:Rat}(h:0<e)(hB:0<B):∃d,0<d∧B*d+B*d<e:=by
 refine⟨e/(4*B),?_,?_⟩
 ·exact anA h (aqp.2 (by grind))
 ·have:B*(e/(4*B))=e/4:=by grind
  grind
structure CS where
 f:Nat→Rat
 cau:∀e:Rat,0<e→∃N,∀m n,N≤m→N≤n→f m-f n<e
theorem CS.bd(a:CS):∃B:Rat,0<B∧∃N,∀n,N≤n→ -B<a.f n∧a.f n<B:=by
 obtain⟨N,h⟩:=a.cau 1 (by grind);refine⟨(if 0≤a.f N then a.f N else-a.f N)+1,?_,N,fun n hn=>?_⟩
 ·split<;>grind
 ·have h1:=h n N hn (anb _);have h2:=h N n (anb _) hn;split<;>grind
def add(a b:CS):CS:=⟨fun n=>a.f n+b.f n,fun e he=>by
 obtain⟨N,h⟩:=a.cau (e/2) (by grind);obtain⟨M,h'⟩:=b.cau (e/2) (by grind);refine⟨max N M,fun m n hm hn=>?_⟩;have:=h m n (by omega) (by omega);have:=h' m n (by omega) (by omega);grind⟩
def neg(a:CS):CS:=⟨fun n=> -a.f n,fun e he=>by
 obtain⟨N,h⟩:=a.cau e he;exact⟨N,fun m n hm hn=>by have:=h n m hn hm;grind⟩⟩
theorem ML(a b:CS)(e:Rat)(he:0<e):∃N,∀m n,N≤m→N≤n→a.f m*b.f m-a.f n*b.f n<e:=by
 obtain⟨A,hA,N1,h1⟩:=a.bd;obtain⟨B,hB,N2,h2⟩:=b.bd;obtain⟨d,hd,hd'⟩:=zp (e:=e) (B:=A+B) he (by grind);obtain⟨N3,h3⟩:=a.cau d hd;obtain⟨N4,h4⟩:=b.cau d hd;refine⟨max (max N1 N2) (max N3 N4),fun m n hm hn=>?_⟩;have a1:=h1 m (by omega);have b1:=h2 n (by omega);have p:=kw a1.2 a1.1 (h4 m n (by omega) (by omega)) (by have:=h4 n m (by omega) (by omega);grind);have q:=kw b1.2 b1.1 (h3 m n (by omega) (by omega)) (by have:=h3 n m (by omega) (by omega);grind);have r:=anA hA hd;have s:=anA hB hd;grind
def mul(a b:CS):CS:=⟨fun n=>a.f n*b.f n,ML a b⟩
def eqv(a b:CS):Prop:=∀e:Rat,0<e→∃N,∀n,N≤n→a.f n-b.f n<e∧b.f n-a.f n<e
instance st:Setoid CS where
 r:=eqv
 iseqv:=⟨fun a e he=>⟨0,fun n _=>by grind⟩,fun h e he=>by
   obtain⟨N,h⟩:=h e he;exact⟨N,fun n hn=>⟨(h n hn).2,(h n hn).1⟩⟩,
  fun h h' e he=>by
   obtain⟨N,h⟩:=h (e/2) (by grind);obtain⟨M,h'⟩:=h' (e/2) (by grind);refine⟨max N M,fun n hn=>?_⟩;have:=h n (by omega);have:=h' n (by omega);grind⟩
def const(q:Rat):CS:=⟨fun _=>q,fun e he=>⟨0,fun m n _ _=>by grind⟩⟩
end RL
def RE:Type:=Quotient RL.st
namespace RE
open RL
def of(q:Rat):RE:=Quotient.mk _ (const q)
theorem acV(a b a' b':CS)(h:a≈a')(h':b≈b'):add a b≈add a' b':=fun e he=>by
 obtain⟨N,h⟩:=h (e/2) (by grind);obtain⟨M,h'⟩:=h' (e/2) (by grind);refine⟨max N M,fun n hn=>?_⟩;have:=h n (by omega);have:=h' n (by omega);simp only[RL.add];grind
theorem abV(a a':CS)(h:a≈a'):neg a≈neg a':=fun e he=>by
 obtain⟨N,h⟩:=h e he;refine⟨N,fun n hn=>?_⟩;have:=h n (by omega);simp only[RL.neg];grind
theorem abU(a b a' b':CS)(h:a≈a')(h':b≈b'):mul a b≈mul a' b':=fun e he=>by
 obtain⟨A,hA,N1,h1⟩:=a.bd;obtain⟨B,hB,N2,h2⟩:=b'.bd;obtain⟨d,hd,hd'⟩:=zp (e:=e) (B:=A+B) he (by grind);obtain⟨N3,h3⟩:=h d hd;obtain⟨N4,h4⟩:=h' d hd;refine⟨max (max N1 N2) (max N3 N4),fun n hn=>?_⟩;have a1:=h1 n (by omega);have b1:=h2 n (by omega);have a3:=h3 n (by omega);have b3:=h4 n (by omega);have p:=kw a1.2 a1.1 (y:=b.f n-b'.f n) b3.1 (by grind);have q:=kw b1.2 b1.1 (y:=a.f n-a'.f n) a3.1 (by grind);have p':=kw a1.2 a1.1 (y:=b'.f n-b.f n) b3.2 (by grind);have q':=kw b1.2 b1.1 (y:=a'.f n-a.f n) a3.2 (by grind);have r:=anA hA hd;have s:=anA hB hd;simp only[RL.mul];constructor<;>grind
instance:Add RE:=⟨Quotient.lift₂ (fun a b=>Quotient.mk _ (add a b)) (fun _ _ _ _ h h'=>apu (acV _ _ _ _ h h'))⟩
instance:Neg RE:=⟨Quotient.lift (fun a=>Quotient.mk _ (neg a)) (fun _ _ h=>apu (abV _ _ h))⟩
instance:Sub RE:=⟨fun a b=>a+ -b⟩
instance:Mul RE:=⟨Quotient.lift₂ (fun a b=>Quotient.mk _ (mul a b)) (fun _ _ _ _ h h'=>apu (abU _ _ _ _ h h'))⟩
theorem snd{a b:CS}(h:∀n,a.f n=b.f n):(Quotient.mk st a:RE)=Quotient.mk st b:=
 apu fun e he=>⟨0,fun n _=>by rw[h n];grind⟩
instance (n:Nat):OfNat RE n:=⟨of (OfNat.ofNat n)⟩
theorem of_add(a b:Rat):of (a+b)=of a+of b:=rfl
theorem aG(a b:Rat):of (a*b)=of a*of b:=rfl
theorem of_neg(a:Rat):of (-a)= -of a:=rfl
theorem of_sub(a b:Rat):of (a-b)=of a-of b:=by rw[apy];rfl
theorem nj:of 0=0:=rfl
theorem CH:of 1=1:=rfl
theorem add_zero(a:RE):a+0=a:=by
 induction a using aoh;exact snd fun n=>Rat.add_zero _
theorem add_comm(a b:RE):a+b=b+a:=by
 induction a,b using apL;exact snd fun n=>Rat.add_comm _ _
theorem add_assoc(a b c:RE):a+b+c=a+(b+c):=by
 induction a,b,c using ape;exact snd fun n=>Rat.add_assoc _ _ _
theorem mul_assoc(a b c:RE):a*b*c=a*(b*c):=by
 induction a,b,c using ape;exact snd fun n=>Rat.mul_assoc _ _ _
theorem mul_comm(a b:RE):a*b=b*a:=by
 induction a,b using apL;exact snd fun n=>ao0 _ _
theorem mul_one(a:RE):a*1=a:=by
 induction a using aoh;exact snd fun n=>Rat.mul_one _
theorem mul_zero(a:RE):a*0=0:=by
 induction a using aoh;exact snd fun n=>Rat.mul_zero _
theorem left_distrib(a b c:RE):a*(b+c)=a*b+a*c:=by
 induction a,b,c using ape;exact snd fun n=>Rat.mul_add _ _ _
theorem wr(a:RE): -a+a=0:=by
 induction a using aoh;exact snd fun n=>Rat.neg_add_cancel _
def clt(a b:CS):Prop:=∃e:Rat,0<e∧∃N,∀n,N≤n→a.f n+e<b.f n
theorem Q0(a b a' b':CS)(h:a≈a')(h':b≈b')(hl:clt a b):clt a' b':=by
 obtain⟨e,he,N,hl⟩:=hl;obtain⟨N1,h⟩:=h (e/4) (by grind);obtain⟨N2,h'⟩:=h' (e/4) (by grind);refine⟨e/2,by grind,max N (max N1 N2),fun n hn=>?_⟩;have:=hl n (by omega);have:=h n (by omega);have:=h' n (by omega);grind
instance:LT RE:=⟨Quotient.lift₂ clt (fun _ _ _ _ h h'=>propext ⟨Q0 _ _ _ _ h h',Q0 _ _ _ _ (Setoid.symm h) (Setoid.symm h')⟩)⟩
instance:LE RE:=⟨fun a b=>¬b<a⟩
theorem lt_irrefl(a:RE):¬a<a:=by
 induction a using aoh
 rintro ⟨e,he,N,h⟩
 have:=h N (anb _);grind
theorem cO{a b c:RE}:a<b→b<c→a<c:=by
 induction a,b,c using ape
 rintro ⟨e,he,N,h⟩ ⟨e',he',N',h'⟩
 refine⟨e,he,max N N',fun n hn=>?_⟩;have:=h n (by omega);have:=h' n (by omega);grind
theorem m9(a b:RE):a<b∨a=b∨b<a:=by
 induction a,b using apL
 rename_i a b;by_cases h1:clt a b
 ·exact .inl h1
 by_cases h2:clt b a
 ·exact .inr (.inr h2)
 refine .inr (.inl (apu fun e he=>?_));obtain⟨N,ha⟩:=a.cau (e/4) (by grind);obtain⟨M,hb⟩:=b.cau (e/4) (by grind)
 have g1:∃n,max N M≤n∧b.f n≤a.f n+e/4:=by
  apply ano;intro hc
  exact h1 ⟨e/4,by grind,max N M,fun n hn=>by
   apply ano;intro h;exact hc ⟨n,hn,by grind⟩⟩
 have g2:∃n,max N M≤n∧a.f n≤b.f n+e/4:=by
  apply ano;intro hc
  exact h2 ⟨e/4,by grind,max N M,fun n hn=>by
   apply ano;intro h;exact hc ⟨n,hn,by grind⟩⟩
 obtain⟨p,hp,gp⟩:=g1;obtain⟨q,hq,gq⟩:=g2;refine⟨max N M,fun n hn=>?_⟩;have a1:=ha n q (by omega) (by omega);have b1:=hb q n (by omega) (by omega);have a2:=ha p n (by omega) (by omega);have b2:=hb n p (by omega) (by omega);constructor<;>grind
theorem kO{a b:RE}(c:RE):a<b→a+c<b+c:=by
 induction a,b,c using ape
 rintro ⟨e,he,N,h⟩
 refine⟨e,he,N,fun n hn=>?_⟩;have:=h n hn;simp only[RL.add];grind
theorem mul_pos{a b:RE}:0<a→0<b→0<a*b:=by
 induction a,b using apL
 rintro ⟨e,he,N,h⟩ ⟨e',he',N',h'⟩
 refine⟨e*e',anA he he',max N N',fun n hn=>?_⟩;have h1:=h n (by omega);have h2:=h' n (by omega);simp only[RL.const]at h1 h2 ⊢;rename_i a b;have p:=anA (a:=a.f n-e) (b:=b.f n-e') (by grind) (by grind);have q:=anA (a:=a.f n-e) (b:=e') (by grind) (by grind);have r:=anA (a:=e) (b:=b.f n-e') (by grind) (by grind);simp only[RL.mul];grind
theorem ib{a b:Rat}(h:a<b):of a<of b:=⟨(b-a)/2,by grind,0,fun n _=>by simp only[RL.const];grind⟩
theorem GQ(a:RE):0<a→∃b,a*b=1:=by
 induction a using aoh
 rename_i a;rintro ⟨e,he,N,h⟩
 simp only[RL.const]at h
 have hp:∀n,N≤n→0<(a.f n)⁻¹∧(a.f n)⁻¹<e⁻¹:=fun n hn=>by
  have h1:=h n hn;have h2:0<(a.f n)⁻¹:=aqp.2 (by grind);have h3:0<e⁻¹:=aqp.2 he;refine⟨h2,?_⟩;have h4:=anA (anA h2 h3) (show 0<a.f n-e by grind);have e1:(a.f n)⁻¹*e⁻¹*(a.f n-e)=e⁻¹-(a.f n)⁻¹:=by grind
  grind
 refine⟨Quotient.mk _ ⟨fun n=>(a.f n)⁻¹,fun d hd=>?_⟩,apu fun d hd=>⟨N,fun n hn=>?_⟩⟩
 ·have hE:0<e⁻¹:=aqp.2 he;obtain⟨M,hM⟩:=a.cau (d*e*e) (anA (anA hd he) he);refine⟨max N M,fun m n hm hn=>?_⟩;have h1:=hp m (by omega);have h2:=hp n (by omega);have h3:=hM n m (by omega) (by omega);have hm':=h m (by omega);have hn':=h n (by omega);have e1:(a.f m)⁻¹-(a.f n)⁻¹=((a.f m)⁻¹*(a.f n)⁻¹)*(a.f n-a.f m):=by grind
  rw[e1];have p1:=anA h1.1 h2.1;have p2:=anA p1 (show 0<d*e*e-(a.f n-a.f m) by grind);have p3:=anA (show 0<e⁻¹-(a.f m)⁻¹ by grind) hE;have p4:=anA h1.1 (show 0<e⁻¹-(a.f n)⁻¹ by grind);have p5:(a.f m)⁻¹*(a.f n)⁻¹<e⁻¹*e⁻¹:=by grind
  have p6:=anA (show 0<e⁻¹*e⁻¹-(a.f m)⁻¹*(a.f n)⁻¹ by grind) (anA (anA hd he) he);have p7:e⁻¹*e⁻¹*(d*e*e)=d:=by grind
  grind
 ·have:=h n hn;simp only[RL.mul,RL.const];have:a.f n*(a.f n)⁻¹=1:=Rat.mul_inv_cancel _ (by grind);rw[this];grind
end RE
end
end Go.Proofs.YtnkndpoojnflmaaGreat
end
