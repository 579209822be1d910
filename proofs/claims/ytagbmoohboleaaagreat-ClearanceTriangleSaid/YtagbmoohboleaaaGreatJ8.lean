/- integer: divide, its contract. -/
import Derived.Test.YtagbmoohboleaaaGreatJ7
noncomputable section
namespace Go.Proofs.YtagbmoohboleaaaGreat
open Go.RowKit Go.IntKind
theorem ano:type_of% @Rat.mul_pos:=@Rat.mul_pos
theorem anG:type_of% @List.length_pos_iff:=@List.length_pos_iff
theorem anU:type_of% @Quotient.inductionOn:=@Quotient.inductionOn
theorem anV:type_of% @beq_iff_eq:=@beq_iff_eq
theorem an0:type_of% @Rat.num_divInt_den:=@Rat.num_divInt_den
theorem an6:type_of% @Int.eq_ofNat_of_zero_le:=@Int.eq_ofNat_of_zero_le
theorem aot:type_of% @Int.natAbs_natCast:=@Int.natAbs_natCast
theorem aox:type_of% @Rat.mul_comm:=@Rat.mul_comm
theorem aoL:type_of% @Int.lt_or_lt_of_ne:=@Int.lt_or_lt_of_ne
theorem aoT:type_of% @Bool.decide_and:=@Bool.decide_and
theorem aoU:type_of% @Rat.div_def:=@Rat.div_def
theorem ao0:type_of% @Nat.gcd_comm:=@Nat.gcd_comm
theorem ao1:type_of% @Quotient.inductionOn₃:=@Quotient.inductionOn₃
theorem apk:type_of% @Rat.divInt_ofNat:=@Rat.divInt_ofNat
theorem apl:type_of% @Quotient.sound:=@Quotient.sound
theorem apq:type_of% @Rat.sub_eq_add_neg:=@Rat.sub_eq_add_neg
theorem apy:type_of% @Nat.mul_ne_zero:=@Nat.mul_ne_zero
theorem apz:type_of% @Int.mul_ne_zero:=@Int.mul_ne_zero
theorem apA:type_of% @Rat.divInt_mul_divInt:=@Rat.divInt_mul_divInt
theorem apB:type_of% @Rat.inv_pos:=@Rat.inv_pos
theorem apC:type_of% @Quotient.inductionOn₂:=@Quotient.inductionOn₂
theorem apN:type_of% @Int.natAbs_mul:=@Int.natAbs_mul
theorem apZ:type_of% @Rat.num_mkRat:=@Rat.num_mkRat
theorem ap0:type_of% @Rat.den_mkRat:=@Rat.den_mkRat
def qr(a b:List Int):Prop:=(Lim a/\a.length<=100000000)/\(Lim b/\b.length<=100000000)/\0<val b
instance (a b:List Int):Decidable (qr a b):=by unfold qr;infer_instance
structure ajm (a b q r:List Int):Prop where
 lq:Lim q
 lr:Lim r
 sq:q.length<=200000000
 sr:r.length<=200000000
 q:val q=val a/val b
 r:val r=val a%val b
theorem w9(x:Int):val [x]=x:=by simp[val]
theorem vU{l:List Int}(h:can l){m:Nat}(hl:l.length=m+1):1<=l[m]:=by
 have h2:=h.2;have h1:=h.1.get (show m<l.length by omega);grind
set_option maxHeartbeats 1000000 in
theorem HO(a b:List Int)(h:qr a b):∃q r,ajm a b q r/\CQq7 301 [.d aqg a,.d aqg b] [.d aqg q,.d aqg r]:=by
 obtain⟨⟨la,sa⟩,⟨lb,sb⟩,hb⟩:=h;have ha:aS a:=⟨la,by omega⟩
 have hb':aS b:=⟨lb,by omega⟩
 have va:=bj (val a).toNat
 have vb:=bj (val b).toNat
 have na:=aR la;have va':val (ag (val a).toNat)=val a:=by omega
 have vb':val (ag (val b).toNat)=val b:=by omega
 have lna:=kV la;have lnb:=kV lb;have ca:=eK (val a).toNat
 have cb:=eK (val b).toNat
 have hla:aS (ag (val a).toNat):=⟨ca.1,by omega⟩
 have hlb:aS (ag (val b).toNat):=⟨cb.1,by omega⟩
 have go:∀{q r},gZ.Res 301 [.d aqg a,.d aqg b] [.d aqg q,.d aqg r]->CQq7 301 [.d aqg a,.d aqg b] [.d aqg q,.d aqg r]:=λhr=>gg Lk hr;have hb0:ag (val b).toNat≠[]:=λe=>by rw[iK]at e;omega
 by_cases h1:(ag (val b).toNat).length=1
 ·have t1:=vU cb (m:=0) h1;have t2:=cb.1.get (show 0<(ag (val b).toNat).length by omega)
  have e0:(ag (val b).toNat)[0]=val b:=by
   obtain⟨x,hx⟩:=List.length_eq_one_iff.1 h1;have:=vb';rw[hx,w9]at this;simp[hx,this]
  have hq0:0<=val a/val b:=anZ na (by omega);have hq1:val a/val b<=val a:=aoN _ na;have hr0:=an3 (val a) (show val b≠0 by omega);have hr1:=anF (val a) hb;have hal:=b8 ca.1;refine⟨dig (ag (val a).toNat).length (val a/val b),[val a%val b],⟨oI _ _,Lim.cons ⟨hr0,by omega⟩ Lim.nil,by rw[jG];omega,by simp,jb _ _ hq0 (by omega),w9 _⟩,go (Rx _ _ ⟨0,?_⟩)⟩;unfold JQ;rw[amW ha,amW hb',h1,Au,amX (show 0<(ag (val b).toNat).length by omega),e0];dsimp only;rw[amW (show Fd (ag (val a).toNat) (val b) from⟨hla,by omega,by omega⟩),va'];rfl
 have hlen:2<=(ag (val b).toNat).length:=by
  rcases anC (ag (val b).toNat).length 2 with h|h
  ·exfalso;have:(ag (val b).toNat).length≠0:=λe=>hb0 (aoM e);omega
  ·exact h
 by_cases hlt:val a<val b
 ·refine⟨[],ag (val a).toNat,⟨Lim.nil,ca.1,by simp,by omega,?_,?_⟩,go (Rx _ _ ⟨0,?_⟩)⟩
  ·rw[aod na hlt];rfl
  ·rw[ao7 na hlt];exact va'
  ·unfold JQ;rw[amW ha,amW hb',show(((ag (val b).toNat).length:Int)==1)=false by simp;omega,amW (show aS (ag (val a).toNat)/\aS (ag (val b).toNat) from⟨hla,hlb⟩),va',vb',dl hlt,amW (show(ag (val a).toNat).length*4<=140737488355328/\(ag (val a).toNat).length<=140737488355328 by omega)];rfl
 ·obtain⟨m,hm⟩:∃m,(ag (val b).toNat).length=m+2:=⟨(ag (val b).toNat).length-2,by omega⟩
  have hxm:m+1<(ag (val b).toNat).length:=by omega
  have t1:=vU cb (m:=m+1) hm;have t2:=cb.1.get hxm;generalize hx2:(ag (val b).toNat)[m+1]=x2 at t1 t2;obtain⟨s1,s2,s3,s4⟩:=MA t1 t2.2
  have esc:u32.wrap (u64.wrap (Int.tdiv 1000000000 (u64.wrap ((u64.wrap x2)+1))))=1000000000/(x2+1):=by
   rw[bG (x:=x2) (by omega) (by omega),bG (x:=x2+1) (by omega) (by omega),iI (by omega),bG (x:=1000000000/(x2+1)) (by omega) (by omega),dg (x:=1000000000/(x2+1)) (by omega) (by omega)]
  generalize hsc:1000000000/(x2+1)=sc at s1 s2 s3 s4 esc;have hsl:aS [sc]:=⟨Lim.cons ⟨by omega,by omega⟩ Lim.nil,by simp⟩
  have hbl:=b8 cb.1;rw[vb',hm]at hbl;have hP:=cp (m+1);have hbtop:=a9 hxm;rw[aob (by omega),vb',hx2]at hbtop;have hbt0:=aR (cb.1.take (m+1));have hbt1:=b8 (cb.1.take (m+1));rw[anJ,anL (by omega)]at hbt1
  have hVhi:val b*sc<pw (m+2):=by
   have e1:val b*sc<(pw (m+1)*(x2+1))*sc:=Int.mul_lt_mul_of_pos_right (by rw[aqd,apf];omega) (by omega);have e2:(pw (m+1)*(x2+1))*sc=pw (m+1)*((x2+1)*sc):=Int.mul_assoc _ _ _;have e3:pw (m+1)*((x2+1)*sc)<=pw (m+1)*1000000000:=am4 s3 (anD hP);rw[ce];omega
  have hVlo:pw (m+1)*500000000<=val b*sc:=by
   have e1:pw (m+1)*x2*sc<=val b*sc:=am8 (by omega) (by omega);have e2:pw (m+1)*x2*sc=pw (m+1)*(x2*sc):=Int.mul_assoc _ _ _;have e3:pw (m+1)*500000000<=pw (m+1)*(x2*sc):=am4 s4 (anD hP);omega
  have hV0:0<val b*sc:=Int.mul_pos hb (by omega);have edv:val (dig (m+2+1) (val b*sc))=val b*sc:=jb _ _ (by omega) (by rw[ce];omega);obtain⟨v,hv⟩:∃v,ag (val b*sc).toNat=v:=⟨_,rfl⟩
  have cv:=eK (val b*sc).toNat
  have vv:=bj (val b*sc).toNat
  rw[hv]at cv vv;have hvv:val v=val b*sc:=by omega
  have hvl:v.length=m+2:=by
   have h1:v.length<=m+2:=by rw[<-hv];exact dD (by omega)
   have h2:m+1<v.length:=by rw[<-hv];exact B7 (by omega)
   omega
  have htop:500000000<=v[m+1]:=by
   rcases ans v[m+1] 500000000 with hc|hc
   ·exfalso;have e1:=a9 (l:=v) (n:=m+1) (by omega);rw[aob (by omega),hvv]at e1;have e2:=b8 (cv.1.take (m+1));rw[anJ,anL (by omega)]at e2;have e3:=am4 (show v[m+1]<=499999999 by omega) (anD hP);omega
   ·exact hc
  have hal:=b8 ca.1;rw[va']at hal;have hA0:0<=val a*sc:=anT na (by omega)
  have hA1:val a*sc<pw ((ag (val a).toNat).length+1):=by
   have e1:val a*sc<=pw (ag (val a).toNat).length*sc:=am8 (by omega) (by omega);have e2:pw (ag (val a).toNat).length*sc<pw (ag (val a).toNat).length*1000000000:=Int.mul_lt_mul_of_pos_left (by omega) (cp _);rw[ce];omega
  have lab:m+2<=(ag (val a).toNat).length:=by
   rw[<-hm];rcases anC (ag (val a).toNat).length (ag (val b).toNat).length with hc|hc
   ·have:=xq hc;omega
   ·exact hc
  generalize hlA:(ag (val a).toNat).length=L at*
  have hdl:(dig (L+1) (val a*sc)++[0]).length=L+2:=by simp[jG]
  have hdv:val (dig (L+1) (val a*sc)++[0])=val a*sc:=by rw[dN,jb _ _ hA0 hA1];simp[val]
  have hmul:=hvv
  obtain⟨q,r,⟨f1,f2,f3,f4,f5,f6⟩,n,hrun⟩:=RD b x2 v m hm (by rw[esc,hm,vb',w9];simp only[anm];rw[edv];exact hv) cv.1 hvl sc esc s1 s2 htop (val a*sc) (L-m) (List.replicate (L-m) 0) (dig (L+1) (val a*sc)++[0])
   (Lim.rep _) ((oI _ _).append (Lim.cons (by decide) Lim.nil)) (by rw[hdl];simp;omega) (by rw[hdl];omega) (by simp) (by rw[io,hdv];omega) (λj hj _=>by simp) (by
    rw[hdv,hvv];have e1:pw (m+1)*500000000*pw (L-m)<=val b*sc*pw (L-m):=am8 hVlo (anD (cp _))
    have e2:pw (m+1)*500000000*pw (L-m)=pw (L+1)*500000000:=by
     rw[show L+1=m+1+(L-m) by omega,fW (m+1) (L-m),Int.mul_right_comm]
    have:=cp (L+1);omega)
  have hq:val a*sc/(val b*sc)=val a/val b:=Int.mul_ediv_mul_of_pos_left _ _ (by omega)
  have hr:val a*sc%(val b*sc)/sc=val a%val b:=by
   rw[aoI (val a),aoI (val b),Int.mul_emod_mul_of_pos _ _ (by omega),aoI];exact Int.mul_ediv_cancel _ (by omega)
  rw[hvv]at f5 f6;rw[hq]at f5;rw[hr]at f6;refine⟨q,r,⟨f1,f2,by rw[f3];simp;omega,by omega,f5,f6⟩,go (Rx _ _ ⟨n,?_⟩)⟩;unfold JQ;have e1:i64.wrap (((m+2:Nat):Int)-1)=((m+1:Nat):Int):=by rw[aV (by omega) (by omega)];omega
  have e2:i64.wrap (((L+2:Nat):Int)-((m+2:Nat):Int))=((L-m:Nat):Int):=by rw[aV (by omega) (by omega)];omega
  have e3:i64.wrap (((L-m:Nat):Int)-1)=((L-m:Nat):Int)-1:=aV (by omega) (by omega)
  rw[amW ha,amW hb',hm,show(((m+2:Nat):Int)==1)=false by simp;omega,amW (show aS (ag (val a).toNat)/\aS (ag (val b).toNat) from⟨hla,hlb⟩),va',vb',show decide (cr (val a) (val b)<0)=false by
   rcases ans (val b) (val a)with hc|hc
   ·rw[cU hc];rfl
   ·rw[show val a=val b by omega,eH];rfl,e1,av (ag (val b).toNat) (m+1),amX hxm,hx2]
  dsimp only;rw[esc,bG (x:=x2) (by omega) (by omega),bG (x:=x2+1) (by omega) (by omega),amY (show ¬x2+1=0 by omega),amW (show aS (ag (val a).toNat)/\aS [sc] from⟨hla,hsl⟩),amW (show aS (ag (val b).toNat)/\aS [sc] from⟨hlb,hsl⟩),w9,hlA];rw[anm,anm,hdl,jG (L+1)];rw[amW (show(L+1+1)*4<=140737488355328/\L+1+1<=140737488355328 by omega),amW (show aS (dig (m+2+1) (val b*sc)) from jU (by omega) _),e2,uH (by omega),aF,e3];exact hrun
abbrev BI:=Bool×List Int
def okI(x:BI):Prop:=can x.2/\(x.1=true->x.2≠[])/\x.2.length<=1000000
instance (x:BI):Decidable (okI x):=by unfold okI;infer_instance
theorem bO(x:BI):ae x=cf x.1 (val x.2):=rfl
theorem iY{x:BI}(h:okI x):x=ai (ae x):=by
 obtain⟨h1,h2,h3⟩:=h;grind [bO,nJ,qg,val,fh]
def szI(z:Int):Nat:=(ag z.natAbs).length
theorem aX{z:Int}(h:szI z<=1000000):okI (ai z):=by
 refine⟨eK _,λe=>?_,h⟩;grind [ai,iK]
theorem fL{z:Int}{k:Nat}(h1: -pw k<z)(h2:z<pw k):szI z<=k:=dD (by omega)
theorem Hq(z:Int): -pw (szI z)<z/\z<pw (szI z):=by
 have h:=b8 (b9 z.natAbs);grind [bj,szI]
theorem pk{z:Int}{k:Nat}(h:szI z<=k): -pw k<z/\z<pw k:=by
 have h1:=Hq z;have h2:=dH h;omega
theorem jI(z:Int):szI (-z)=szI z:=by simp[szI]
theorem xj{a b:Int}{k:Nat}(h1:szI a<=k)(h2:szI b<=k):szI (a+b)<=k+1:=by
 have e1:=pk h1;have e2:=pk h2;exact fL (by rw[ce];omega) (by rw[ce];omega)
theorem cV{a b:Int}{j k:Nat}(h1:szI a<=j)(h2:szI b<=k):szI (a*b)<=j+k:=by
 have e1:=pk h1;have e2:=pk h2
 have h:(a*b).natAbs<(pw (j+k)).toNat:=by
  rw[apN,fW];have:(pw j*pw k).toNat=(pw j).toNat*(pw k).toNat:=Int.toNat_mul (by omega) (by omega);rw[this];exact Nat.mul_lt_mul'' (by omega) (by omega)
 exact fL (by omega) (by omega)
theorem dM{a b:Int}(h:a.natAbs<=b.natAbs):szI a<=szI b:=by
 have:=Hq b;exact fL (by omega) (by omega)
theorem jA{x:BI}(h:okI x):szI (ae x)<=1000000:=by
 have:=iY h;have h3:=h.2.2;rwa [this]at h3
theorem gH{x:BI}(h:okI x):aS x.2:=⟨h.1.1,by have:=h.2.2;omega⟩
theorem cH{x:BI}(h:okI x):0<=val x.2/\(x.1=true->0<val x.2)/\(x.2=[]↔val x.2=0):=by
 refine⟨aR h.1.1,λe=>fh h.1 (h.2.1 e),⟨λe=>by rw[e];rfl,λe=>?_⟩⟩;rcases List.eq_nil_or_concat x.2 with h'|⟨l,y,h'⟩
 ·omega
 ·have:=fh h.1 (by rw[h'];simp);omega
def qm:eM:=spN false false [aqh] (λx=>decide (aI x.1)) (λx=>[RV.d y2Y (ai x.1)])
theorem l7:SpK 223 qm:=spX λx h=>Ic x.1 (amZ h)
def dvQ(a b:List Int):List Int:=if h:qr a b then Classical.choose (HO a b h)else []
def dvR(a b:List Int):List Int:=if h:qr a b then Classical.choose (anY (HO a b h))else []
theorem ZV{a b:List Int}(h:qr a b):ajm a b (dvQ a b) (dvR a b):=by grind [dvQ,dvR]
theorem WI(a b:List Int)(h:qr a b):CQq7 301 [.d aqg a,.d aqg b] [.d aqg (dvQ a b),.d aqg (dvR a b)]:=by
 unfold dvQ dvR;rw[dif_pos h,dif_pos h];exact(anY (anY (HO a b h))).2
def HV:eM:=spN false false [aqg,aqg] (λx=>decide (qr x.1 x.2.1)) (λx=>[RV.d aqg (dvQ x.1 x.2.1),RV.d aqg (dvR x.1 x.2.1)])
theorem E1:SpK 301 HV:=spX λx h=>WI x.1 x.2.1 (amZ h)
def sJ:Env:=[(248,zn),(287,Cz),(288,Ge),(289,HE),(249,GC),(247,GX),(223,qm),(301,HV)]
theorem lh:EnvAll Tryz.prog sJ:=⟨uS,yK,DQ,Fs,EU,El,l7,E1,trivial⟩
def ajY:Ctx:=CX sJ []
def ZA(x y:Bool×List Int)(_k:KT):OLR:=match !(x.1==y.1)with|true=>(match x.1 with|true=>some [RV.d aqh (-1)]|false=>some [RV.d aqh 1])|false=>(match x.1 with|true=>(og (decide (aS y.2/\aS x.2)) (some [RV.d aqh (cr (val y.2) (val x.2))]))|false=>(og (decide (aS x.2/\aS y.2)) (some [RV.d aqh (cr (val x.2) (val y.2))])))
theorem ajt(x y:Bool×List Int):RS ajY 163 [.d y2Y x,.d y2Y y] (ZA x y):=rsX
def agk:Ctx:=CX sJ []
def YJ(x y:Bool×List Int)(_k:KT):OLR:=match x.1==y.1 with|true=>(og (decide (aS x.2/\aS y.2)) (og (decide (aS (dig (max x.2.length y.2.length+1) (val x.2+val y.2)))) (some [RV.d y2Y (ai (cf x.1 (val (dig (max x.2.length y.2.length+1) (val x.2+val y.2)))))])))|false=>(og (decide (aS x.2/\aS y.2)) (match decide ((cr (val x.2) (val y.2))<0)with|true=>(og (decide (pZ y.2 x.2)) (og (decide (aS (dig y.2.length (val y.2-val x.2)))) (some [RV.d y2Y (ai (cf y.1 (val (dig y.2.length (val y.2-val x.2)))))])))|false=>(og (decide (pZ x.2 y.2)) (og (decide (aS (dig x.2.length (val x.2-val y.2)))) (some [RV.d y2Y (ai (cf x.1 (val (dig x.2.length (val x.2-val y.2)))))])))))
theorem aiO(x y:Bool×List Int):RS agk 227 [.d y2Y x,.d y2Y y] (YJ x y):=rsX
def akk:Ctx:=CX sJ []
def Y5(x y:Bool×List Int)(_k:KT):OLR:=og (decide (aS x.2/\aS y.2)) (og (decide (aS (dig (x.2.length+y.2.length) (val x.2*val y.2)))) (some [RV.d y2Y (ai (cf (!(x.1==y.1)) (val (dig (x.2.length+y.2.length) (val x.2*val y.2)))))]))
theorem age(x y:Bool×List Int):RS akk 164 [.d y2Y x,.d y2Y y] (Y5 x y):=rsX
def ail:Ctx:=CX sJ []
def abr(x:Bool×List Int)(_k:KT):OLR:=og (decide (x.2.length*4<=140737488355328/\x.2.length<=140737488355328)) (og (decide (aS x.2)) (some [RV.d y2Y (ai (cf (!x.1) (val x.2)))]))
theorem af3(x:Bool×List Int):RS ail 228 [.d y2Y x] (abr x):=rsX
def ag1:Ctx:=CX sJ []
def aaF(x:Bool×List Int)(_k:KT):OLR:=match x.1 with|true=>some [RV.d aqh (-1)]|false=>(match decide ((x.2.length:Int)>0)with|true=>some [RV.d aqh 1]|false=>some [RV.d aqh 0])
theorem aj4(x:Bool×List Int):RS ag1 117 [.d y2Y x] (aaF x):=rsX
theorem UX(x:BI)(h:okI x):CQq7 117 [.d y2Y x] [.d aqh (cr (ae x) 0)]:=by
 refine gg lh (aj4 _ ⟨0,?_⟩);obtain⟨h0,h1,h2⟩:=cH h;unfold aaF;rw[bO];unfold cf;cases hx:x.1
 ·simp only[cond_false];rcases ans 0 (val x.2)with hc|hc
  ·have:x.2≠[]:=λe=>by rw[h2]at e;omega
   have:=anG.2 this;rw[amW (by omega),cU hc]
  ·have e:x.2=[]:=h2.2 (by omega);rw[e];rfl
 ·simp only[cond_true];rw[dl (by have:=h1 hx;omega)]
theorem IZ{a b:Int}(_ha:0<=a)(_hb:0<=b):cr (-a) (-b)=cr b a:=by grind [cU,eH,dl]
theorem Iu(x y:BI)(h:okI x/\okI y):CQq7 163 [.d y2Y x,.d y2Y y] [.d aqh (cr (ae x) (ae y))]:=by
 refine gg lh (ajt _ _ ⟨0,?_⟩);obtain⟨hx,hy⟩:=h;obtain⟨x0,x1,x2⟩:=cH hx;obtain⟨y0,y1,y2⟩:=cH hy;have lx:=gH hx;have ly:=gH hy;unfold ZA;rw[bO,bO,amW (show aS x.2/\aS y.2 from⟨lx,ly⟩),amW (show aS y.2/\aS x.2 from⟨ly,lx⟩)];unfold cf;cases ex:x.1<;>cases ey:y.1<;>simp only[cond_true,cond_false]
 ·rfl
 ·have:=y1 ey;rw[cU (a:=val x.2) (b:= -val y.2) (by omega)];rfl
 ·have:=x1 ex;rw[dl (a:= -val x.2) (b:=val y.2) (by omega)];rfl
 ·rw[IZ x0 y0];rfl
theorem Ry{a b:List Int}(ha:Lim a)(hb:Lim b):val (dig (max a.length b.length+1) (val a+val b))=val a+val b:=by
 have h1:=b8 ha;have h2:=b8 hb;have h3:=aR ha;have h4:=aR hb;have h5:=dH (Nat.le_max_left a.length b.length);have h6:=dH (Nat.le_max_right a.length b.length);grind [jb,ce]
theorem AL{a b:List Int}(ha:Lim a)(hb:Lim b)(hle:val b<=val a):val (dig a.length (val a-val b))=val a-val b:=by
 have h1:=b8 ha;have h4:=aR hb;grind [jb]
theorem LL{a b:List Int}(ha:Lim a)(hb:Lim b):val (dig (a.length+b.length) (val a*val b))=val a*val b:=by
 have h1:=b8 ha;have h2:=b8 hb;have h3:=aR ha;have h4:=aR hb;refine jb _ _ (anT h3 h4) ?_;rw[fW];have e1:=am8 (anD h1) h4;have e2:=Int.mul_lt_mul_of_pos_left h2 (cp a.length);omega
theorem Uq(x y:BI)(h:okI x/\okI y):CQq7 227 [.d y2Y x,.d y2Y y] [.d y2Y (ai (ae x+ae y))]:=by
 refine gg lh (aiO _ _ ⟨0,?_⟩);obtain⟨hx,hy⟩:=h;obtain⟨x0,x1,x2⟩:=cH hx;obtain⟨y0,y1,y2⟩:=cH hy;have lx:=gH hx;have ly:=gH hy;have sx:=hx.2.2;have sy:=hy.2.2;unfold YJ;rw[bO,bO,amW (show aS x.2/\aS y.2 from⟨lx,ly⟩),amW (show aS (dig (max x.2.length y.2.length+1) (val x.2+val y.2)) from jU (by omega) _),Ry lx.1 ly.1,amW (show aS (dig x.2.length (val x.2-val y.2)) from jU (by omega) _),amW (show aS (dig y.2.length (val y.2-val x.2)) from jU (by omega) _)];cases hs:x.1==y.1
 ·dsimp only;rcases ans (val x.2) (val y.2)with hc|hc
  ·rw[dl hc,amW (show(-1:Int)<0 by decide),amW (show pZ y.2 x.2 from⟨ly,lx,by omega⟩),AL ly.1 lx.1 (by omega)];dsimp only;unfold cf;cases ex:x.1<;>cases ey:y.1<;>simp_all<;>congr 2<;>omega
  ·have hcm:decide (cr (val x.2) (val y.2)<0)=false:=by
    rcases ans (val y.2) (val x.2)with h|h
    ·rw[cU h];rfl
    ·rw[show val x.2=val y.2 by omega,eH];rfl
   rw[hcm,amW (show pZ x.2 y.2 from⟨lx,ly,hc⟩),AL lx.1 ly.1 hc];dsimp only;unfold cf;cases ex:x.1<;>cases ey:y.1<;>simp_all<;>congr 2<;>omega
 ·dsimp only;have e:=anV.1 hs;rw[<-e];unfold cf;cases x.1
  ·rfl
  ·simp only[cond_true];rw[show-(val x.2+val y.2)= -val x.2+ -val y.2 by omega]
theorem Kl(x:BI)(h:okI x):CQq7 228 [.d y2Y x] [.d y2Y (ai (-ae x))]:=by
 refine gg lh (af3 _ ⟨0,?_⟩);have sx:=h.2.2;unfold abr;rw[bO,amW (show x.2.length*4<=140737488355328/\x.2.length<=140737488355328 by omega),amW (gH h)];unfold cf;cases x.1<;>simp
theorem IU(x y:BI)(h:okI x/\okI y):CQq7 164 [.d y2Y x,.d y2Y y] [.d y2Y (ai (ae x*ae y))]:=by
 refine gg lh (age _ _ ⟨0,?_⟩);obtain⟨hx,hy⟩:=h;have lx:=gH hx;have ly:=gH hy;have sx:=hx.2.2;have sy:=hy.2.2;unfold Y5;rw[bO,bO,amW (show aS x.2/\aS y.2 from⟨lx,ly⟩),amW (show aS (dig (x.2.length+y.2.length) (val x.2*val y.2)) from jU (by omega) _),LL lx.1 ly.1];unfold cf;cases x.1<;>cases y.1<;>simp[Int.neg_mul,apP]
def qI:eM:=spN false false [y2Y,y2Y] (λx=>decide (okI x.1/\okI x.2.1)) (λx=>[RV.d y2Y (ai (ae x.1+ae x.2.1))])
theorem lL:SpK 227 qI:=spX λx h=>Uq x.1 x.2.1 (amZ h)
def Hw:Env:=(227,qI)::sJ
theorem Ap:EnvAll Tryz.prog Hw:=⟨lL,lh⟩
def ajA:Ctx:=CX Hw []
def YD(x y:Bool×List Int)(_k:KT):OLR:=match !y.1 with|true=>(og (decide (okI x/\okI (decide ((y.2.length:Int)>0),y.2))) (some [RV.d y2Y (ai (ae x+ae (decide ((y.2.length:Int)>0),y.2)))]))|false=>(og (decide (okI x/\okI (false,y.2))) (some [RV.d y2Y (ai (ae x+ae (false,y.2)))]))
theorem aiW(x y:Bool×List Int):RS ajA 325 [.d y2Y x,.d y2Y y] (YD x y):=rsX
theorem OX{y:BI}(h:okI y):okI (!y.1&&decide ((y.2.length:Int)>0),y.2)/\ae (!y.1&&decide ((y.2.length:Int)>0),y.2)= -ae y:=by
 refine⟨⟨h.1,λe=>?_,h.2.2⟩,?_⟩
 ·grind
 grind [bO,cf,val,anG]
theorem W3(x y:BI)(h:okI x/\okI y):CQq7 325 [.d y2Y x,.d y2Y y] [.d y2Y (ai (ae x-ae y))]:=by
 refine gg Ap (aiW _ _ ⟨0,?_⟩);obtain⟨hx,hy⟩:=h;obtain⟨f1,f2⟩:=OX hy;rw[Int.sub_eq_add_neg,<-f2];unfold YD;cases ey:y.1
 ·rw[ey]at f1;simp only[Bool.not_false,aog]at f1 ⊢;rw[amW ⟨hx,f1⟩]
 ·rw[ey]at f1;simp only[Bool.not_true,Bool.false_and]at f1 ⊢;rw[amW ⟨hx,f1⟩]
def Te:eM:=spN false false [y2Y,y2Y] (λx=>decide (okI x.1/\okI x.2.1)) (λx=>[RV.d y2Y (ai (ae x.1-ae x.2.1))])
theorem Qp:SpK 325 Te:=spX λx h=>W3 x.1 x.2.1 (amZ h)
def Th:Env:=(325,Te)::Hw
theorem LM:EnvAll Tryz.prog Th:=⟨Qp,Ap⟩
def ajR:Ctx:=CX Th []
def XV(x y:Bool×List Int)(_k:KT):OLR:=let y1:=aS (dvQ x.2 y.2);let y2:=aS (dvR x.2 y.2);let y3:=ai (cf x.1 (val (dvR x.2 y.2)));let y4:=ai (cf (!(x.1==y.1)) (val (dvQ x.2 y.2)));let y5:OLR:=match decide (((y3.2).length:Int)>0)with|true=>(match !((y3.1)==y.1)with|true=>(og (decide (aI (1:Int))) (og (decide (okI y4/\okI (ai (1:Int)))) (og (decide (okI y3/\okI y)) (dup (.b .l .l) (some [RV.d y2Y (ai (ae y4-ae (ai (1:Int)))),RV.d y2Y (ai (ae y3+ae y)),RV.d aqh 0])))))|false=>dup (.b .l .l) (some [RV.d y2Y y4,RV.d y2Y y3,RV.d aqh 0]))|false=>dup (.b .l .l) (some [RV.d y2Y y4,RV.d y2Y y3,RV.d aqh 0]);let y6:OLR:=match decide y2 with|true=>y5|false=>none;match(y.2.length:Int)==0 with|true=>some [RV.d y2Y (false,[]),RV.d y2Y (false,[]),RV.d aqh 6]|false=>(og (decide (qr x.2 y.2)) (cA (og (decide y1) (cA (og (decide y2) (dup (.b .l .l) y5)) (dup (.b (.b .l .l) (.b .l .l)) y6))) (dup (.b .l .l) (cA (og (decide y1) (dup (.b .l .l) y6)) (og (decide y1) y6)))))
theorem akh(x y:Bool×List Int):RS ajR 302 [.d y2Y x,.d y2Y y] (XV x y):=rsX
def fN(x y:BI):Prop:=okI x/\okI y/\0<ae y
instance (x y:BI):Decidable (fN x y):=by unfold fN;infer_instance
theorem Iw{a b:Int}(_ha:0<=a)(hb:0<b):(a%b=0-> -a/b= -(a/b)/\ -a%b=0)/\(0<a%b-> -a/b= -(a/b)-1/\ -a%b= -(a%b)+b):=by
 have h1:=an3 a (show b≠0 by omega);have h2:=anF a hb;have h3:=anM a b;constructor
 ·intro h;have e: -a=b* -(a/b):=by rw[apP];omega
  constructor
  ·rw[e,ao8 _ (by omega)]
  ·rw[e,Int.mul_emod_right]
 ·intro h;have e: -a=(b-a%b)+b*(-(a/b)-1):=by rw[Int.mul_sub,apP,apf];omega
  constructor
  ·rw[e,aoH _ _ (by omega),aod (by omega) (by omega)];omega
  ·rw[e,aoW,ao7 (by omega) (by omega)];omega
theorem re:okI (ai 1):=by decide
theorem Do(n:Bool){v:Int}:szI (cf n v)=szI v:=by unfold cf;cases n<;>simp[jI]
theorem Jd(x y:BI)(h:fN x y):CQq7 302 [.d y2Y x,.d y2Y y] [.d y2Y (ai (ae x/ae y)),.d y2Y (ai (ae x%ae y)),.d aqh 0]:=by
 refine gg LM (akh _ _ ⟨0,?_⟩);obtain⟨hx,hy,hp⟩:=h;obtain⟨x0,x1,x2⟩:=cH hx;obtain⟨y0,y1,y2⟩:=cH hy;have sx:=hx.2.2;have sy:=hy.2.2
 have ey:y.1=false:=by
  cases e:y.1
  ·rfl
  ·rw[bO,e]at hp;simp only[cf,cond_true]at hp;omega
 have dy:ae y=val y.2:=by rw[bO,ey];rfl
 rw[dy]at hp;have hdv:qr x.2 y.2:=⟨⟨hx.1.1,by omega⟩,⟨hy.1.1,by omega⟩,hp⟩
 obtain⟨lq,lr,sq,sr,vq,vr⟩:=ZV hdv;have hne:y.2≠[]:=λe=>by rw[y2]at e;omega
 have hylen:=anG.2 hne;have r0:=an3 (val x.2) (show val y.2≠0 by omega);have r1:=anF (val x.2) hp;have q0:0<=val x.2/val y.2:=anZ x0 y0;have q1:val x.2/val y.2<=val x.2:=aoN _ x0;have vx:=b8 hx.1.1;have vy:=b8 hy.1.1;have szq:szI (val x.2/val y.2)<=1000000:=fL (by have:=cp 1000000;omega) (by have:=dH sx;omega);have szr:szI (val x.2%val y.2)<=1000000:=fL (by have:=cp 1000000;omega) (by have:=dH sy;omega);unfold XV;simp only[fy]
 rw[show((y.2.length:Int)==0)=false by simp;omega,amW hdv,amW (show aS (dvQ x.2 y.2) from⟨lq,by omega⟩),amW (show aS (dvR x.2 y.2) from⟨lr,by omega⟩),amW (show aI 1 by decide),vq,vr,
  amW (show okI (ai (cf (!(x.1==y.1)) (val x.2/val y.2)))/\okI (ai (1:Int)) from⟨aX (by rw[Do];exact szq),re⟩),amW (show okI (ai (cf x.1 (val x.2%val y.2)))/\okI y from⟨aX (by rw[Do];exact szr),hy⟩)]
 simp only[dec_enc,dy,cX];have hE1:(ai (cf x.1 (val x.2%val y.2))).1=(x.1&&decide (0<val x.2%val y.2)):=by rw[nJ x.1 r0]
 have hE2:(ai (cf x.1 (val x.2%val y.2))).2=ag (val x.2%val y.2).toNat:=by rw[nJ x.1 r0]
 rw[hE1,hE2,bO x,ey]
 have hlen:(((ag (val x.2%val y.2).toNat).length:Int)>0)↔0<val x.2%val y.2:=by
  constructor
  ·intro hl;rcases ans 0 (val x.2%val y.2)with h|h
   ·exact h
   ·rw[show(val x.2%val y.2).toNat=0 by omega,gv]at hl;simp at hl
  ·intro hl;have:ag (val x.2%val y.2).toNat≠[]:=λe=>by rw[iK]at e;omega
   have:=anG.2 this;omega
 obtain⟨n1,n2⟩:=Iw (a:=val x.2) (b:=val y.2) x0 hp;rcases ans 0 (val x.2%val y.2)with hr|hr
 ·rw[amW (hlen.2 hr),amW hr];cases x.1
  ·rfl
  ·obtain⟨e1,e2⟩:=n2 hr;simp only[cf,cond_true,Bool.not_false,aog,show((true==false):Bool)=false from rfl];rw[e1,e2]
 ·rw[amY (λh'=>by have:=hlen.1 h';omega)];dsimp only;have e0:val x.2%val y.2=0:=by omega
  cases x.1
  ·simp only[cf,cond_false,show((false==false):Bool)=true from rfl,Bool.not_true]
  ·obtain⟨e1,e2⟩:=n1 e0;simp only[cf,cond_true,show((true==false):Bool)=false from rfl,Bool.not_false];rw[e1,e2,e0];rfl
def l6(x:BI):Bool:=decide (x.2.length<=2)
def z9(x:BI):Int:=bif l6 x then val x.2 else 0
def afL:Ctx:=CX [] []
def Y8(x:Bool×List Int)(_k:KT):OLR:=match(x.2.length:Int)==0 with|true=>some [RV.d (.int .u64) 0,RV.d .bool true]|false=>(match(x.2.length:Int)==1 with|true=>(match aT x.2 0 with|some x1=>some [RV.d (.int .u64) (u64.wrap x1),RV.d .bool true]|none=>none)|false=>(match(x.2.length:Int)==2 with|true=>(match aT x.2 1 with|some x2=>(match aT x.2 0 with|some x3=>some [RV.d (.int .u64) (u64.wrap ((u64.wrap ((u64.wrap x2)*1000000000))+(u64.wrap x3))),RV.d .bool true]|none=>none)|none=>none)|false=>some [RV.d (.int .u64) 0,RV.d .bool false]))
theorem akt(x:Bool×List Int):RS afL 300 [.d y2Y x] (Y8 x):=rsX
theorem VV(x:BI)(h:okI x):CQq7 300 [.d y2Y x] [.d (.int .u64) (z9 x),.d .bool (l6 x)]:=by
 refine gg (E:=[]) trivial (akt _ ⟨0,?_⟩);obtain⟨neg,l⟩:=x;have hl:=h.1.1;unfold Y8 z9 l6;match l,hl with
 |[],_=>rfl
 |[a],hl=>
  have:=hl.head;simp only[anm,Au,anX];rw[bG (x:=a) (by omega) (by omega)];simp[val]
 |[a,b],hl=>
  have h1:=hl.head;have h2:=hl.tail.head;have e1:aT [a,b] 1=some b:=rfl;have e0:aT [a,b] 0=some a:=rfl;simp only[e1,e0,anb,List.length_nil];rw[bG (x:=a) (by omega) (by omega),bG (x:=b) (by omega) (by omega),bG (x:=b*1000000000) (by omega) (by omega),bG (x:=b*1000000000+a) (by omega) (by omega)];rw[show val [a,b]=b*1000000000+a by simp only[val];omega];rfl
 |a::b::c::l,hl=>
  have e:decide ((a::b::c::l).length<=2)=false:=amY (by simp);rw[e,show(((a::b::c::l).length:Int)==0)=false by simp;omega,show(((a::b::c::l).length:Int)==1)=false by simp;omega,show(((a::b::c::l).length:Int)==2)=false by simp;omega];rfl
def OP:eM:=spN false false [y2Y] (λx=>decide (okI x.1)) (λx=>[RV.d (.int .u64) (z9 x.1),RV.d .bool (l6 x.1)])
theorem Tq:SpK 300 OP:=spX λx h=>VV x.1 (amZ h)
def QZ:Env:=[(248,zn),(287,Cz),(301,HV),(300,OP)]
theorem Lh:EnvAll Tryz.prog QZ:=⟨uS,yK,E1,Tq,trivial⟩
def acL:NT:=[((250,6),{keep:=[4,5,6],hl:=5}),((250,24),{keep:=[4,7,9],hl:=3})]
def i7:Ctx:=CX QZ acL
def mV(x y:Bool×List Int)(b3_0:Bool)(b3_1:List Int)(b4_0:Bool)(b4_1:List Int):Cfg:=⟨250,[.blk 0,.seq 40],[(4,.box 2 0),(5,.box 3 0),(6,.box 4 0)],[.box 29 [SB x.1,.d aqg x.2],.box 29 [SB y.1,.d aqg y.2],.box 29 [SB false,.nil],.box 29 [SB b3_0,.d aqg b3_1],.box 29 [SB b4_0,.d aqg b4_1]],0,[]⟩
def hU(x y:Bool×List Int)(b3_0:Bool)(b3_1:List Int)(b4_0:Bool)(b4_1:List Int):Cfg:=⟨250,[.blk 0,.seq 40],[(4,.box 2 0),(5,.box 4 0),(6,.box 3 0)],[.box 29 [SB x.1,.d aqg x.2],.box 29 [SB y.1,.d aqg y.2],.box 29 [SB false,.nil],.box 29 [SB b3_0,.d aqg b3_1],.box 29 [SB b4_0,.d aqg b4_1]],0,[]⟩
def jR(x y:Bool×List Int)(s7 s9:Int):Cfg:=⟨250,[.blk 2,.seq 33,.seq 37,.blk 1,.lp 6,.blk 0,.seq 40],[(4,.box 2 0),(7,.d (.int .u64) s7),(9,.d (.int .u64) s9)],[.box 29 [SB x.1,.d aqg x.2],.box 29 [SB y.1,.d aqg y.2],.box 29 [SB false,.nil]],0,[]⟩
def Zq(x y:Bool×List Int)(k:KT):OLR:=let y1:=ai (cf false (val x.2));let y2:=ai (cf false (val y.2));let y3:=mV x y (y1.1) (y1.2) (y2.1) (y2.2);let y4:=hU x y (y2.1) (y2.2) (y1.1) (y1.2);let y5:OLR:=match decide (aS y.2)with|true=>k 6 y3|false=>none;let y6:OLR:=match decide (aS y.2)with|true=>k 6 y4|false=>none;cA (og (decide (aS x.2)) (cA (og (decide (aS y.2)) (cA (k 6 y3) (k 6 y4))) (cA (dup (.b .l .l) y5) (dup (.b .l .l) y6)))) (cA (cA (og (decide (aS x.2)) (dup (.b .l .l) y5)) (og (decide (aS x.2)) y5)) (cA (og (decide (aS x.2)) (dup (.b .l .l) y6)) (og (decide (aS x.2)) y6)))
theorem afW(x y:Bool×List Int):RS i7 250 [.d y2Y x,.d y2Y y] (Zq x y):=rsX
def Nv(x y:Bool×List Int)(b3_0:Bool)(b3_1:List Int)(b4_0:Bool)(b4_1:List Int)(k:KT):OLR:=match decide ((b4_1.length:Int)>0)with|true=>(og (decide (okI (b3_0,b3_1))) (og (decide (okI (b4_0,b4_1))) (match l6 (b3_0,b3_1)with|true=>(match l6 (b4_0,b4_1)with|true=>k 24 (jR x y (z9 (b3_0,b3_1)) (z9 (b4_0,b4_1)))|false=>(og (decide (qr b3_1 b4_1)) (og (decide (aS (dvR b3_1 b4_1))) (k 6 (mV x y b4_0 b4_1 ((ai (cf false (val (dvR b3_1 b4_1)))).1) ((ai (cf false (val (dvR b3_1 b4_1)))).2))))))|false=>(og (decide (qr b3_1 b4_1)) (og (decide (aS (dvR b3_1 b4_1))) (k 6 (mV x y b4_0 b4_1 ((ai (cf false (val (dvR b3_1 b4_1)))).1) ((ai (cf false (val (dvR b3_1 b4_1)))).2))))))))|false=>(og (decide (b3_1.length*4<=140737488355328/\b3_1.length<=140737488355328)) (og (decide (aS b3_1)) (some [RV.d y2Y (ai (cf false (val b3_1)))])))
theorem SD(x y:Bool×List Int)(b3_0:Bool)(b3_1:List Int)(b4_0:Bool)(b4_1:List Int):RL i7 6 (mV x y b3_0 b3_1 b4_0 b4_1) (Nv x y b3_0 b3_1 b4_0 b4_1):=rlX
def Hz(x y:Bool×List Int)(b3_0:Bool)(b3_1:List Int)(b4_0:Bool)(b4_1:List Int)(k:KT):OLR:=match decide ((b3_1.length:Int)>0)with|true=>(og (decide (okI (b4_0,b4_1))) (og (decide (okI (b3_0,b3_1))) (match l6 (b4_0,b4_1)with|true=>(match l6 (b3_0,b3_1)with|true=>k 24 (jR x y (z9 (b4_0,b4_1)) (z9 (b3_0,b3_1)))|false=>(og (decide (qr b4_1 b3_1)) (og (decide (aS (dvR b4_1 b3_1))) (k 6 (hU x y ((ai (cf false (val (dvR b4_1 b3_1)))).1) ((ai (cf false (val (dvR b4_1 b3_1)))).2) b3_0 b3_1)))))|false=>(og (decide (qr b4_1 b3_1)) (og (decide (aS (dvR b4_1 b3_1))) (k 6 (hU x y ((ai (cf false (val (dvR b4_1 b3_1)))).1) ((ai (cf false (val (dvR b4_1 b3_1)))).2) b3_0 b3_1)))))))|false=>(og (decide (b4_1.length*4<=140737488355328/\b4_1.length<=140737488355328)) (og (decide (aS b4_1)) (some [RV.d y2Y (ai (cf false (val b4_1)))])))
theorem Hd(x y:Bool×List Int)(b3_0:Bool)(b3_1:List Int)(b4_0:Bool)(b4_1:List Int):RL i7 6 (hU x y b3_0 b3_1 b4_0 b4_1) (Hz x y b3_0 b3_1 b4_0 b4_1):=rlX
def vH(x y:Bool×List Int)(s7 s9:Int)(k:KT):OLR:=match decide (s9>0)with|true=>(match decide (s9=(0:Int))with|true=>none|false=>k 24 (jR x y s9 (Int.tmod s7 s9)))|false=>(og (decide (jm s7)) (og (decide (aS (dig 3 s7))) (some [RV.d y2Y (ai (cf false (val (dig 3 s7))))])))
theorem AE(x y:Bool×List Int)(s7 s9:Int):RL i7 24 (jR x y s7 s9) (vH x y s7 s9):=rlX
theorem P4(x y:BI)(B:Nat)(hB:(B:Int)<18446744073709551616):∀(v u:Nat),u<=B->v<=B->i7.RunsE 24 (jR x y (u:Int) (v:Int)) [.d y2Y (ai ((Nat.gcd u v:Nat):Int))]:=by
 intro v;induction v using Nat.strongRecOn with
 |ind v ih=>
  intro u hu hv;rcases anQ v with h0|h0
  ·refine AE _ _ _ _ ⟨0,λn _=>?_⟩;have hp:jm (u:Int):=⟨by omega,by omega⟩
   unfold vH;rw[amY (show ¬(v:Int)>0 by omega),amW hp,amW (jU (n:=3) (by decide) (u:Int)),ym hp,show Nat.gcd u v=u by rw[h0];exact Nat.gcd_zero_right u];rfl
  ·obtain⟨n0,hn⟩:=ih (u%v) (apS _ h0) v hv (am9 (Nat.le_of_lt (apS _ h0)) hv);refine AE _ _ _ _ ⟨n0,λn hn'=>?_⟩;unfold vH;rw[amW (by omega),amY (by omega),ke (by omega)];dsimp only;rw[show((u:Int)%(v:Int))=((u%v:Nat):Int) by simp,ao0 u v,Nat.gcd_rec v u,ao0];exact hn n hn'
theorem AG(v:Int):cf false v=v:=rfl
theorem jF(u:Nat):ai (u:Int)=(false,ag u):=rfl
theorem AQ{u:Nat}(h:(ag u).length<=2):u<=(pw 2).toNat:=by
 have h1:=b8 (b9 u);rw[bj]at h1;have h2:=dH h;omega
theorem adN:(((pw 2).toNat:Nat):Int)<18446744073709551616:=by decide
theorem Ff{k:Nat->Cfg->OLR}{u v:Nat}(hu:szI u<=1000000)(hv:szI v<=1000000){r:List RV}{H:Int->Int->Cfg}{D:Int->Cfg}
  (h1:v=0->r=[.d y2Y (ai (u:Int))]) (h2:v≠0->l6 (ai (u:Int))=true->l6 (ai (v:Int))=true->k 24 (H (u:Int) (v:Int))=some r) (h3:v≠0->k 6 (D ((u%v:Nat):Int))=some r) (D':List Int->Cfg) (hD:D' (dvR (ag u) (ag v))=D (val (dvR (ag u) (ag v)))):
  (match decide (((ag v).length:Int)>0)with
   |true=>(match decide (okI (ai (u:Int)))with
    |true=>(match decide (okI (ai (v:Int)))with
     |true=>(match l6 (ai (u:Int))with
      |true=>(match l6 (ai (v:Int))with
       |true=>k 24 (H (z9 (ai (u:Int))) (z9 (ai (v:Int))))
       |false=>(match decide (qr (ag u) (ag v))with
        |true=>(match decide (aS (dvR (ag u) (ag v)))with
         |true=>k 6 (D' (dvR (ag u) (ag v)))
         |false=>none)
        |false=>none))
      |false=>(match decide (qr (ag u) (ag v))with
        |true=>(match decide (aS (dvR (ag u) (ag v)))with
         |true=>k 6 (D' (dvR (ag u) (ag v)))
         |false=>none)
        |false=>none))
     |false=>none)
    |false=>none)
   |false=>(match decide ((ag u).length*4<=140737488355328/\(ag u).length<=140737488355328)with
    |true=>(match decide (aS (ag u))with
     |true=>some [.d y2Y (ai (cf false (val (ag u))))]
     |false=>none)
    |false=>none))=some r:=by
 have lu:(ag u).length<=1000000:=by have:=hu;unfold szI at this;rwa [aot]at this
 have lv:(ag v).length<=1000000:=by have:=hv;unfold szI at this;rwa [aot]at this
 rcases anQ v with h0|h0
 ·subst h0;rw[h1 rfl,show decide (((ag 0).length:Int)>0)=false from rfl,amW (show(ag u).length*4<=140737488355328/\(ag u).length<=140737488355328 by omega),amW (show aS (ag u) from⟨b9 u,by omega⟩),bj];rfl
 ·have hne:ag v≠[]:=λe=>by rw[iK]at e;omega
  have hl:=anG.2 hne;have hvv:=bj v;have hvu:=bj u;have hdv:qr (ag u) (ag v):=⟨⟨b9 u,by omega⟩,⟨b9 v,by omega⟩,by omega⟩
  obtain⟨_,lr,_,sr,_,vr⟩:=ZV hdv
  have hD2:k 6 (D' (dvR (ag u) (ag v)))=some r:=by
   rw[hD,vr,hvv,hvu];exact h3 (by omega)
  rw[amW (by omega),amW (aX hu),amW (aX hv),amW hdv,amW (show aS (dvR (ag u) (ag v)) from⟨lr,by omega⟩)];dsimp only;cases hb1:l6 (ai (u:Int))
  ·exact hD2
  ·cases hb2:l6 (ai (v:Int))
   ·exact hD2
   ·dsimp only;have:=h2 (by omega) hb1 hb2;unfold z9;rw[hb1,hb2];simp only[cond_true,jF];rw[hvv,hvu];exact this
theorem Nm(x y:BI):∀(v u:Nat),szI u<=1000000->szI v<=1000000->
  i7.RunsE 6 (mV x y false (ag u) false (ag v)) [.d y2Y (ai ((Nat.gcd u v:Nat):Int))]/\i7.RunsE 6 (hU x y false (ag v) false (ag u)) [.d y2Y (ai ((Nat.gcd u v:Nat):Int))]:=by
 intro v;induction v using Nat.strongRecOn with
 |ind v ih=>
  intro u hu hv
  have hw:l6 (ai (u:Int))=true->l6 (ai (v:Int))=true->i7.RunsE 24 (jR x y (u:Int) (v:Int)) [.d y2Y (ai ((Nat.gcd u v:Nat):Int))]:=λh1 h2=>by
   unfold l6 at h1 h2;rw[jF]at h1 h2;exact P4 x y _ adN v u (AQ (amZ h1)) (AQ (amZ h2))
  have hd:v≠0->i7.RunsE 6 (mV x y false (ag v) false (ag (u%v))) [.d y2Y (ai ((Nat.gcd u v:Nat):Int))]/\i7.RunsE 6 (hU x y false (ag (u%v)) false (ag v)) [.d y2Y (ai ((Nat.gcd u v:Nat):Int))]:=λh0=>by
   have hm:=apS u (Nat.pos_of_ne_zero h0);have:=ih (u%v) hm v hv (am9 (dM (by omega)) hv);rw[ao0 u v,Nat.gcd_rec v u,ao0 (u%v) v];exact this
  have hcommon:∃n0,∀n,n0<=n->(l6 (ai (u:Int))=true->l6 (ai (v:Int))=true->i7.k n 24 (jR x y (u:Int) (v:Int))=some [.d y2Y (ai ((Nat.gcd u v:Nat):Int))])/\(v≠0->i7.k n 6 (mV x y false (ag v) false (ag (u%v)))=some [.d y2Y (ai ((Nat.gcd u v:Nat):Int))]/\i7.k n 6 (hU x y false (ag (u%v)) false (ag v))=some [.d y2Y (ai ((Nat.gcd u v:Nat):Int))]):=by
   have g1:∃n1,∀n,n1<=n->(l6 (ai (u:Int))=true->l6 (ai (v:Int))=true->i7.k n 24 (jR x y (u:Int) (v:Int))=some [.d y2Y (ai ((Nat.gcd u v:Nat):Int))]):=by
    by_cases hb:l6 (ai (u:Int))=true/\l6 (ai (v:Int))=true
    ·obtain⟨n,h⟩:=hw hb.1 hb.2;exact⟨n,λm hm _ _=>h m hm⟩
    ·exact⟨0,λn _ h1 h2=>absurd ⟨h1,h2⟩ hb⟩
   have g2:∃n1,∀n,n1<=n->(v≠0->i7.k n 6 (mV x y false (ag v) false (ag (u%v)))=some [.d y2Y (ai ((Nat.gcd u v:Nat):Int))]/\i7.k n 6 (hU x y false (ag (u%v)) false (ag v))=some [.d y2Y (ai ((Nat.gcd u v:Nat):Int))]):=by
    by_cases hb:v=0
    ·exact⟨0,λn _ h=>absurd hb h⟩
    ·obtain⟨⟨n1,h1⟩,⟨n2,h2⟩⟩:=hd hb;exact⟨max n1 n2,λn hn _=>⟨h1 n (by omega),h2 n (by omega)⟩⟩
   obtain⟨n1,h1⟩:=g1;obtain⟨n2,h2⟩:=g2;exact⟨max n1 n2,λn hn=>⟨h1 n (by omega),h2 n (by omega)⟩⟩
  obtain⟨n0,hc⟩:=hcommon;have hz:v=0->([.d y2Y (ai ((Nat.gcd u v:Nat):Int))]:List RV)=[.d y2Y (ai (u:Int))]:=λe=>by subst e;rw[Nat.gcd_zero_right]
  constructor
  ·refine SD _ _ _ _ _ _ ⟨n0,λn hn=>?_⟩;have:=Ff (k:=i7.k n) hu hv (H:=λa b=>jR x y a b) (D:=λz=>mV x y false (ag v) (ai z).1 (ai z).2) hz (λ_ h1 h2=>(hc n hn).1 h1 h2) (λh0=>by rw[jF];exact((hc n hn).2 h0).1) (λl=>mV x y false (ag v) (ai (cf false (val l))).1 (ai (cf false (val l))).2) rfl;rw[jF,jF]at this;exact this
  ·refine Hd _ _ _ _ _ _ ⟨n0,λn hn=>?_⟩;have:=Ff (k:=i7.k n) hu hv (H:=λa b=>jR x y a b) (D:=λz=>hU x y (ai z).1 (ai z).2 false (ag v)) hz (λ_ h1 h2=>(hc n hn).1 h1 h2) (λh0=>by rw[jF];exact((hc n hn).2 h0).2) (λl=>hU x y (ai (cf false (val l))).1 (ai (cf false (val l))).2 false (ag v)) rfl;rw[jF,jF]at this;exact this
theorem Xj(x y:BI)(h:okI x/\okI y):CQq7 250 [.d y2Y x,.d y2Y y] [.d y2Y (ai ((Int.gcd (ae x) (ae y):Nat):Int))]:=by
 refine gg Lh (show i7.Res _ _ _ from ?_);obtain⟨hx,hy⟩:=h;obtain⟨x0,_,_⟩:=cH hx;obtain⟨y0,_,_⟩:=cH hy;have ex:((ae x).natAbs:Int)=val x.2:=by rw[bO];unfold cf;cases x.1<;>simp<;>omega
 have ey:((ae y).natAbs:Int)=val y.2:=by rw[bO];unfold cf;cases y.1<;>simp<;>omega
 have szx:szI ((ae x).natAbs:Int)<=1000000:=am9 (dM (by omega)) (jA hx);have szy:szI ((ae y).natAbs:Int)<=1000000:=am9 (dM (by omega)) (jA hy);obtain⟨⟨n1,h1⟩,⟨n2,h2⟩⟩:=Nm x y (ae y).natAbs (ae x).natAbs szx szy;refine afW _ _ ⟨max n1 n2,?_⟩;have h1:=h1 (max n1 n2) (by omega);have h2:=h2 (max n1 n2) (by omega);unfold Zq;simp only[fy];rw[amW (gH hx),amW (gH hy),AG,AG,<-ex,<-ey,jF,jF];dsimp only;rw[h1,h2];simp only[cX];rfl
abbrev BR:=BI×BI
def ao(q:Rat):BR:=(ai q.num,ai (q.den:Int))
def ah(x:BR):Rat:=mkRat (ae x.1) (ae x.2).toNat
theorem ct(q:Rat):ah (ao q)=q:=by simp[ah,ao,dec_enc]
def okR(x:BR):Prop:=okI x.1/\okI x.2/\0<ae x.2/\Int.gcd (ae x.1) (ae x.2)=1/\x.1.2.length<=480000/\x.2.2.length<=480000
instance (x:BR):Decidable (okR x):=by unfold okR;infer_instance
def o1(x:BR):Bool:=decide (okR x)
def o2(x y:BR):Bool:=decide (okR x/\okR y)
theorem aj9(x:BR):o1 x=decide (okR x):=rfl
theorem aiz(x y:BR):o2 x y=(decide (okR x)&&decide (okR y)):=aoT _ _
theorem cS{x:BR}(h:okR x):(ah x).num=ae x.1/\((ah x).den:Int)=ae x.2:=by
 obtain⟨h1,h2,h3,h4,_⟩:=h;unfold ah;rw[apZ,ap0]
 have hg:(ae x.2).toNat.gcd (ae x.1).natAbs=1:=by
  rwa [ao0,show(ae x.2).toNat=(ae x.2).natAbs by omega]
 grind
theorem Ra{x:BR}(h:okR x):x=ao (ah x):=by
 obtain⟨e1,e2⟩:=cS h;unfold ao;rw[e1,e2,<-iY h.1,<-iY h.2.1]
def bdR(k:Nat)(q:Rat):Prop:=szI q.num<=k/\szI (q.den:Int)<=k
theorem rD{q:Rat}{k:Nat}(h:bdR k q)(hk:k<=480000):okR (ao q):=by
 obtain⟨h1,h2⟩:=h;have hd:=q.den_pos;refine⟨aX (by omega),aX (by omega),?_,?_,by show szI q.num<=480000;omega,by show szI (q.den:Int)<=480000;omega⟩
 ·show 0<ae (ai (q.den:Int));grind [dec_enc]
 ·show Int.gcd (ae (ai q.num)) (ae (ai (q.den:Int)))=1;rw[dec_enc,dec_enc];exact q.reduced
theorem Da{x:BR}(h:okR x):bdR 480000 (ah x):=by
 obtain⟨e1,e2⟩:=cS h;obtain⟨h1,h2,_,_,h5,h6⟩:=h;unfold bdR szI;rw[e1,e2];rw[iY h1]at h5;rw[iY h2]at h6;exact⟨h5,h6⟩
theorem bJ{j k:Nat}{q:Rat}(h:bdR j q)(hk:j<=k):bdR k q:=⟨am9 h.1 hk,am9 h.2 hk⟩
theorem JW(a:Int)(g:Nat):(a/(g:Int)).natAbs<=a.natAbs\/¬(g:Int)∣a:=by
 by_cases h:(g:Int)∣a
 ·obtain⟨k,rfl⟩:=h;rcases anQ g with h0|h0
  ·grind
  ·rw[ao8 _ (by omega),apN];simp_all [Nat.le_mul_of_pos_left]
 grind
theorem vw{n:Int}{d k:Nat}(hd:d≠0)(h1:szI n<=k)(h2:szI (d:Int)<=k):bdR k (mkRat n d):=by
 unfold bdR;rw[apZ,ap0,ank hd,ank hd];constructor
 ·refine am9 (dM ?_) h1;grind [JW,Nat.gcd_dvd_right,Int.ofNat_dvd_left]
 ·exact am9 (dM (by rw[aot,aot];exact Nat.div_le_self _ _)) h2
theorem w7{k:Nat}{a:Rat}(h:bdR k a):bdR k (-a):=by
 refine⟨?_,h.2⟩;rw[Rat.neg_num,jI];exact h.1
theorem C7{j k:Nat}{a b:Rat}(ha:bdR j a)(hb:bdR k b):bdR (j+k+1) (a+b):=by
 rw[Rat.add_def'];have d1:=a.den_pos;have d2:=b.den_pos;refine vw (apy (by omega) (by omega)) (xj (cV ha.1 hb.2) ?_) ?_
 ·rw[Nat.add_comm];exact cV hb.1 ha.2
 ·rw[aor];exact am9 (cV ha.2 hb.2) (by omega)
theorem UO{j k:Nat}{a b:Rat}(ha:bdR j a)(hb:bdR k b):bdR (j+k+1) (a-b):=by grind [apq,C7,w7]
theorem C8{j k:Nat}{a b:Rat}(ha:bdR j a)(hb:bdR k b):bdR (j+k) (a*b):=by
 rw[Rat.mul_def'];have d1:=a.den_pos;have d2:=b.den_pos;refine vw (apy (by omega) (by omega)) (cV ha.1 hb.1) ?_;exact cV ha.2 hb.2
theorem Uv{k:Nat}{a:Rat}(h:bdR k a)(h0:a≠0):bdR k a⁻¹:=by
 have hn:a.num≠0:=λe=>h0 (Rat.num_eq_zero.1 e);rw[Rat.inv_def];rcases aoL hn with h1|h1
 ·rw[<-Rat.neg_divInt_neg,show-a.num=(((-a.num).toNat:Nat):Int) by omega,apk];refine vw (by omega) (by rw[jI];exact h.2) ?_;rw[show(((-a.num).toNat:Nat):Int)= -a.num by omega,jI];exact h.1
 ·rw[show a.num=((a.num.toNat:Nat):Int) by omega,apk];refine vw (by omega) h.2 ?_;rw[show((a.num.toNat:Nat):Int)=a.num by omega];exact h.1
theorem WL{j k:Nat}{a b:Rat}(ha:bdR j a)(hb:bdR k b)(h0:b≠0):bdR (j+k) (a/b):=by grind [C8,Uv]
def fJ(x y:BI):BR:=ao (Rat.divInt (ae x) (ae y))
def kz(x y:BI):Prop:=okI x/\okI y/\ae y≠0
instance (x y:BI):Decidable (kz x y):=by unfold kz;infer_instance
theorem pz{n d:Int}(hd:0<d):ao (Rat.divInt n d)=(ai (n/(Int.gcd n d:Int)),ai (d/(Int.gcd n d:Int))):=by
 obtain⟨D,rfl⟩:=an6 (anD hd);unfold ao;rw[apk,apZ,ap0,ank (by omega),ank (by omega)];have e:Int.gcd n (D:Int)=D.gcd n.natAbs:=by rw[ao0];rfl
 grind
def wj:eM:=spN true false [y2Y] (λx=>decide (okI x.1)) (λx=>[RV.d aqh (cr (ae x.1) 0)])
theorem qw:SpK 117 wj:=spX λx h=>UX x.1 (amZ h)
def sD:eM:=spN true false [y2Y,y2Y] (λx=>decide (okI x.1/\okI x.2.1)) (λx=>[RV.d aqh (cr (ae x.1) (ae x.2.1))])
theorem n8:SpK 163 sD:=spX λx h=>Iu x.1 x.2.1 (amZ h)
def v5:eM:=spN false false [y2Y] (λx=>decide (okI x.1)) (λx=>[RV.d y2Y (ai (-ae x.1))])
theorem qi:SpK 228 v5:=spX λx h=>Kl x.1 (amZ h)
def vn:eM:=spN false false [y2Y,y2Y] (λx=>decide (okI x.1/\okI x.2.1)) (λx=>[RV.d y2Y (ai (ae x.1*ae x.2.1))])
theorem qJ:SpK 164 vn:=spX λx h=>IU x.1 x.2.1 (amZ h)
def B5:eM:=spN false false [y2Y,y2Y] (λx=>decide (fN x.1 x.2.1)) (λx=>[RV.d y2Y (ai (ae x.1/ae x.2.1)),RV.d y2Y (ai (ae x.1%ae x.2.1)),RV.d aqh 0])
theorem zq:SpK 302 B5:=spX λx h=>Jd x.1 x.2.1 (amZ h)
def HZ:eM:=spN false false [y2Y,y2Y] (λx=>decide (okI x.1/\okI x.2.1)) (λx=>[RV.d y2Y (ai ((Int.gcd (ae x.1) (ae x.2.1):Nat):Int))])
theorem Ek:SpK 250 HZ:=spX λx h=>Xj x.1 x.2.1 (amZ h)
def F6:Env:=[(223,qm),(117,wj),(163,sD),(227,qI),(228,v5),(164,vn),(302,B5),(250,HZ)]
theorem Ao:EnvAll Tryz.prog F6:=⟨l7,qw,n8,lL,qi,qJ,zq,Ek,trivial⟩
def ajJ:Ctx:=CX F6 []
def Zp(_k:KT):OLR:=og (decide (aI (1:Int))) (some [RV.d y2Y (ai (1:Int))])
theorem aiB:RS ajJ 251 [] (Zp):=rsX
def afu:Ctx:=CX F6 []
def aaU(x y:Bool×List Int)(_k:KT):OLR:=og (decide (fN x y)) (some [RV.d y2Y (ai (ae x/ae y))])
theorem afr(x y:Bool×List Int):RS afu 252 [.d y2Y x,.d y2Y y] (aaU x y):=rsX
theorem T8:CQq7 251 [] [.d y2Y (ai 1)]:=by
 refine gg Ao (aiB ⟨0,?_⟩);unfold Zp;rw[amW (show aI 1 by decide)]
theorem TX(x y:BI)(h:fN x y):CQq7 252 [.d y2Y x,.d y2Y y] [.d y2Y (ai (ae x/ae y))]:=by
 refine gg Ao (afr _ _ ⟨0,?_⟩);unfold aaU;rw[amW h]
def xR:eM:=spN false false [] (λ_=>true) (λ_=>[RV.d y2Y (ai 1)])
theorem ua:SpK 251 xR:=spX λ_ _=>T8
def Mt:eM:=spN false false [y2Y,y2Y] (λx=>decide (fN x.1 x.2.1)) (λx=>[RV.d y2Y (ai (ae x.1/ae x.2.1))])
theorem MF:SpK 252 Mt:=spX λx h=>TX x.1 x.2.1 (amZ h)
def Po:Env:=[(223,qm),(117,wj),(163,sD),(227,qI),(228,v5),(164,vn),(302,B5),(250,HZ),(251,xR),(252,Mt)]
theorem KA:EnvAll Tryz.prog Po:=⟨l7,qw,n8,lL,qi,qJ,zq,Ek,ua,MF,trivial⟩
def ai8:Ctx:=CX Po []
def ZL(x y:Bool×List Int)(_k:KT):OLR:=match decide (okI y)with|true=>(match decide ((cr (ae y) 0)<0)with|true=>(match decide (okI x)with|true=>(match decide (okI y)with|true=>(match decide (okI (ai (-ae x))/\okI (ai (-ae y)))with|true=>(match decide (okI (ai ((Int.gcd (ae (ai (-ae x))) (ae (ai (-ae y))):Nat):Int))/\okI (ai 1))with|true=>(match(cr (ae (ai ((Int.gcd (ae (ai (-ae x))) (ae (ai (-ae y))):Nat):Int))) (ae (ai 1))) !=0 with|true=>(match decide (fN (ai (-ae x)) (ai ((Int.gcd (ae (ai (-ae x))) (ae (ai (-ae y))):Nat):Int)))with|true=>(match decide (fN (ai (-ae y)) (ai ((Int.gcd (ae (ai (-ae x))) (ae (ai (-ae y))):Nat):Int)))with|true=>some [RV.d (.st (.pair y2Y y2Y)) ((ai (ae (ai (-ae x))/ae (ai ((Int.gcd (ae (ai (-ae x))) (ae (ai (-ae y))):Nat):Int)))),(ai (ae (ai (-ae y))/ae (ai ((Int.gcd (ae (ai (-ae x))) (ae (ai (-ae y))):Nat):Int)))))]|false=>none)|false=>none)|false=>some [RV.d (.st (.pair y2Y y2Y)) ((ai (-ae x)),(ai (-ae y)))])|false=>none)|false=>none)|false=>none)|false=>none)|false=>(match decide (okI x/\okI y)with|true=>(match decide (okI (ai ((Int.gcd (ae x) (ae y):Nat):Int))/\okI (ai 1))with|true=>(match(cr (ae (ai ((Int.gcd (ae x) (ae y):Nat):Int))) (ae (ai 1))) !=0 with|true=>(match decide (fN x (ai ((Int.gcd (ae x) (ae y):Nat):Int)))with|true=>(match decide (fN y (ai ((Int.gcd (ae x) (ae y):Nat):Int)))with|true=>some [RV.d (.st (.pair y2Y y2Y)) ((ai (ae x/ae (ai ((Int.gcd (ae x) (ae y):Nat):Int)))),(ai (ae y/ae (ai ((Int.gcd (ae x) (ae y):Nat):Int)))))]|false=>none)|false=>none)|false=>some [RV.d (.st (.pair y2Y y2Y)) (x,y)])|false=>none)|false=>none))|false=>none
theorem aiC(x y:Bool×List Int):RS ai8 165 [.d y2Y x,.d y2Y y] (ZL x y):=rsX
theorem M8{a b:Int}(hb:b≠0){k:Nat}(h:szI b<=k):szI ((Int.gcd a b:Nat):Int)<=k:=by
 refine am9 (dM ?_) h;exact Nat.le_of_dvd (by omega) (Nat.gcd_dvd_right a.natAbs b.natAbs)
theorem VR(x y:BI)(h:kz x y):CQq7 165 [.d y2Y x,.d y2Y y] [.d (.st (.pair y2Y y2Y)) (fJ x y)]:=by
 refine gg KA (aiC _ _ ⟨0,?_⟩);obtain⟨hx,hy,hne⟩:=h;have sx:=jA hx;have sy:=jA hy;have hgp:0<Int.gcd (ae x) (ae y):=Nat.pos_of_ne_zero λe=>hne (Int.gcd_eq_zero_iff.1 e).2;have hgs:=M8 (a:=ae x) hne sy;unfold ZL fJ;rw[amW hy];dsimp only;rcases aoL hne with hn|hn
 ·rw[dl hn,amW (show(-1:Int)<0 by decide),amW hx];have o1:okI (ai (-ae x)):=aX (by rw[jI];exact sx);have o2:okI (ai (-ae y)):=aX (by rw[jI];exact sy);simp only[dec_enc,Int.gcd_neg,Int.neg_gcd];have og:okI (ai ((Int.gcd (ae x) (ae y):Nat):Int)):=aX hgs;rw[amW (show okI (ai (-ae x))/\okI (ai (-ae y)) from⟨o1,o2⟩),amW (show okI (ai ((Int.gcd (ae x) (ae y):Nat):Int))/\okI (ai 1) from⟨og,re⟩)];rw[<-Rat.neg_divInt_neg,pz (by omega),Int.gcd_neg,Int.neg_gcd];dsimp only;by_cases h1:Int.gcd (ae x) (ae y)=1
  ·rw[h1];simp[eH]
  ·have hc:(cr ((Int.gcd (ae x) (ae y):Nat):Int) 1 !=0)=true:=by
    rw[cU (by omega)];rfl
   rw[hc,amW (show fN (ai (-ae x)) (ai ((Int.gcd (ae x) (ae y):Nat):Int)) from⟨o1,og,by rw[dec_enc];omega⟩),amW (show fN (ai (-ae y)) (ai ((Int.gcd (ae x) (ae y):Nat):Int)) from⟨o2,og,by rw[dec_enc];omega⟩)]
 ·rw[cU hn,amY (show ¬(1:Int)<0 by decide)];simp only[dec_enc];have og:okI (ai ((Int.gcd (ae x) (ae y):Nat):Int)):=aX hgs;rw[amW (show okI x/\okI y from⟨hx,hy⟩),amW (show okI (ai ((Int.gcd (ae x) (ae y):Nat):Int))/\okI (ai 1) from⟨og,re⟩),pz hn];dsimp only;by_cases h1:Int.gcd (ae x) (ae y)=1
  ·rw[h1];simp only[Int.natCast_one,eH,Int.ediv_one,<-iY hx,<-iY hy];rfl
  ·have hc:(cr ((Int.gcd (ae x) (ae y):Nat):Int) 1 !=0)=true:=by
    rw[cU (by omega)];rfl
   rw[hc,amW (show fN x (ai ((Int.gcd (ae x) (ae y):Nat):Int)) from⟨hx,og,by rw[dec_enc];omega⟩),amW (show fN y (ai ((Int.gcd (ae x) (ae y):Nat):Int)) from⟨hy,og,by rw[dec_enc];omega⟩)]
def aE(a b:Rat):Int:=bif decide (a<b)then-1 else bif decide (b<a)then 1 else 0
theorem dQ{a b:Rat}(h:a<b):aE a b= -1:=by grind [aE]
theorem dJ{a b:Rat}(h:b<a):aE a b=1:=by grind [aE]
theorem eE(a:Rat):aE a a=0:=by simp[aE]
theorem xO(a b:Rat):cr (a.num*(b.den:Int)) (b.num*(a.den:Int))=aE a b:=by simp[cr,aE,Rat.lt_iff]
theorem vK(a:Rat):cr a.num 0=aE a 0:=by
 rw[<-xO];simp
def CQ:eM:=spN false false [y2Y,y2Y] (λx=>decide (kz x.1 x.2.1)) (λx=>[RV.d (.st (.pair y2Y y2Y)) (fJ x.1 x.2.1)])
theorem xS:SpK 165 CQ:=spX λx h=>VR x.1 x.2.1 (amZ h)
def acO:NT:=[((162,3),{keep:=[0,1,8],hl:=0}),((162,5),{keep:=[0,1,5,10],hl:=0})]
def agq:Ctx:=CX [] acO
def XZ(x y:Int)(_k:KT):OLR:=match x !=x with|true=>(match y !=y with|true=>some [RV.d aqh 0]|false=>some [RV.d aqh (-1)])|false=>(match y !=y with|true=>some [RV.d aqh 1]|false=>(match decide (x<y)with|true=>some [RV.d aqh (-1)]|false=>(match decide (x>y)with|true=>some [RV.d aqh 1]|false=>some [RV.d aqh 0])))
theorem ah9(x y:Int):RS agq 162 [SI x,SI y] (XZ x y):=rsX
theorem UN(x y:Int):CQq7 162 [.d aqh x,.d aqh y] [.d aqh (cr x y)]:=by
 refine gg (E:=[]) trivial (ah9 _ _ ⟨0,?_⟩);unfold XZ;rw[show(x !=x)=false by simp,show(y !=y)=false by simp];dsimp only;rcases Int.lt_trichotomy x y with h|h|h
 ·rw[dl h,amW h]
 ·subst h;rw[eH,amY (show ¬x<x by omega)]
 ·rw[cU h,amY (show ¬x<y by omega),amW (show x>y from h)]
def CO:eM:=spN true false [aqh,aqh] (λ_=>true) (λx=>[RV.d aqh (cr x.1 x.2.1)])
theorem yg:SpK 162 CO:=spX λx _=>UN x.1 x.2.1
def HY:Env:=[(223,qm),(117,wj),(163,sD),(227,qI),(228,v5),(164,vn),(251,xR),(165,CQ),(162,CO)]
theorem A7:EnvAll Tryz.prog HY:=⟨l7,qw,n8,lL,qi,qJ,ua,xS,yg,trivial⟩
def ahC:Ctx:=CX HY []
def ahE(x:Bool×List Int)(_k:KT):OLR:=some [RV.d (.st (.pair y2Y y2Y)) (x,(ai 1))]
theorem aiU(x:Bool×List Int):RS ahC 222 [.d y2Y x] (ahE x):=rsX
theorem VG(x:BI):CQq7 222 [.d y2Y x] [.d (.st (.pair y2Y y2Y)) (x,ai 1)]:=
 gg A7 (aiU _ ⟨0,rfl⟩)
def GK:eM:=spN false false [y2Y] (λ_=>true) (λx=>[RV.d (.st (.pair y2Y y2Y)) (x.1,ai 1)])
theorem Ei:SpK 222 GK:=spX λx _=>VG x.1
def afY:Ctx:=CX HY []
def YA(a:(Bool×List Int)×Bool×List Int)(_k:KT):OLR:=og (decide (okI a.1)) (some [RV.d aqh (cr (ae a.1) 0)])
theorem agu(a:(Bool×List Int)×Bool×List Int):RS afY 54 [.d (.st (.pair y2Y y2Y)) a] (YA a):=rsX
theorem JN(a:BR)(h:okR a):CQq7 54 [.d (.st (.pair y2Y y2Y)) a] [.d aqh (aE (ah a) 0)]:=by
 refine gg A7 (agu _ ⟨0,?_⟩);unfold YA;rw[amW h.1,<-vK,(cS h).1]
def FO:eM:=spN true false [(.st (.pair y2Y y2Y))] (λx=>decide (okR x.1)) (λx=>[RV.d aqh (aE (ah x.1) 0)])
theorem FG:SpK 54 FO:=spX λx h=>JN x.1 (amZ h)
def pj:Env:=[(223,qm),(117,wj),(163,sD),(227,qI),(228,v5),(164,vn),(251,xR),(165,CQ),(162,CO),(222,GK),(54,FO)]
theorem jC:EnvAll Tryz.prog pj:=⟨l7,qw,n8,lL,qi,qJ,ua,xS,yg,Ei,FG,trivial⟩
def aiS:Ctx:=CX pj []
def Y0(n:Int)(_k:KT):OLR:=og (decide (aI n)) (some [RV.d (.st (.pair y2Y y2Y)) ((ai n),(ai 1))])
theorem ajX(n:Int):RS aiS 125 [SI n] (Y0 n):=rsX
def ajf:Ctx:=CX pj []
def XL(a b:(Bool×List Int)×Bool×List Int)(_k:KT):OLR:=match decide (okR a)with|true=>(match decide (okR b)with|true=>(match(cr (aE (ah a) 0) (aE (ah b) 0)) !=0 with|true=>some [RV.d aqh (cr (aE (ah a) 0) (aE (ah b) 0))]|false=>(match decide (okI a.1/\okI b.2)with|true=>(match decide (okI b.1/\okI a.2)with|true=>(match decide (okI (ai (ae a.1*ae b.2))/\okI (ai (ae b.1*ae a.2)))with|true=>some [RV.d aqh (cr (ae (ai (ae a.1*ae b.2))) (ae (ai (ae b.1*ae a.2))))]|false=>none)|false=>none)|false=>none))|false=>none)|false=>none
theorem aiI(a b:(Bool×List Int)×Bool×List Int):RS ajf 66 [.d (.st (.pair y2Y y2Y)) a,.d (.st (.pair y2Y y2Y)) b] (XL a b):=rsX
def afQ:Ctx:=CX pj []
def XB(a b:(Bool×List Int)×Bool×List Int)(_k:KT):OLR:=match decide (okI a.2/\okI b.2)with|true=>(match(cr (ae a.2) (ae b.2))==0 with|true=>(match decide (okI a.1/\okI b.1)with|true=>(match decide (kz (ai (ae a.1+ae b.1)) a.2)with|true=>some [RV.d (.st (.pair y2Y y2Y)) (((fJ (ai (ae a.1+ae b.1)) a.2).1),((fJ (ai (ae a.1+ae b.1)) a.2).2))]|false=>none)|false=>none)|false=>(match decide (okI a.1/\okI b.2)with|true=>(match decide (okI b.1/\okI a.2)with|true=>(match decide (okI (ai (ae a.1*ae b.2))/\okI (ai (ae b.1*ae a.2)))with|true=>(match decide (okI a.2/\okI b.2)with|true=>(match decide (kz (ai (ae (ai (ae a.1*ae b.2))+ae (ai (ae b.1*ae a.2)))) (ai (ae a.2*ae b.2)))with|true=>some [RV.d (.st (.pair y2Y y2Y)) (((fJ (ai (ae (ai (ae a.1*ae b.2))+ae (ai (ae b.1*ae a.2)))) (ai (ae a.2*ae b.2))).1),((fJ (ai (ae (ai (ae a.1*ae b.2))+ae (ai (ae b.1*ae a.2)))) (ai (ae a.2*ae b.2))).2))]|false=>none)|false=>none)|false=>none)|false=>none)|false=>none))|false=>none
theorem afA(a b:(Bool×List Int)×Bool×List Int):RS afQ 132 [.d (.st (.pair y2Y y2Y)) a,.d (.st (.pair y2Y y2Y)) b] (XB a b):=rsX
def afy:Ctx:=CX pj []
def aaW(a:(Bool×List Int)×Bool×List Int)(_k:KT):OLR:=og (decide (okI a.1)) (some [RV.d (.st (.pair y2Y y2Y)) ((ai (-ae a.1)),a.2)])
theorem ahi(a:(Bool×List Int)×Bool×List Int):RS afy 133 [.d (.st (.pair y2Y y2Y)) a] (aaW a):=rsX
def ajo:Ctx:=CX pj []
def Xn(a b:(Bool×List Int)×Bool×List Int)(_k:KT):OLR:=og (decide (okI a.1/\okI b.1)) (og (decide (okI a.2/\okI b.2)) (og (decide (kz (ai (ae a.1*ae b.1)) (ai (ae a.2*ae b.2)))) (some [RV.d (.st (.pair y2Y y2Y)) (((fJ (ai (ae a.1*ae b.1)) (ai (ae a.2*ae b.2))).1),((fJ (ai (ae a.1*ae b.1)) (ai (ae a.2*ae b.2))).2))])))
theorem aho(a b:(Bool×List Int)×Bool×List Int):RS ajo 67 [.d (.st (.pair y2Y y2Y)) a,.d (.st (.pair y2Y y2Y)) b] (Xn a b):=rsX
def ajT:Ctx:=CX pj []
def Yz(a b:(Bool×List Int)×Bool×List Int)(_k:KT):OLR:=match decide (okR b)with|true=>(match(aE (ah b) 0)==0 with|true=>some [RV.d (.st (.pair y2Y y2Y)) ((false,[]),(false,[])),RV.d aqh 6]|false=>(match decide (okI a.1/\okI b.2)with|true=>(match decide (okI a.2/\okI b.1)with|true=>(match decide (kz (ai (ae a.1*ae b.2)) (ai (ae a.2*ae b.1)))with|true=>some [RV.d (.st (.pair y2Y y2Y)) (((fJ (ai (ae a.1*ae b.2)) (ai (ae a.2*ae b.1))).1),((fJ (ai (ae a.1*ae b.2)) (ai (ae a.2*ae b.1))).2)),RV.d aqh 0]|false=>none)|false=>none)|false=>none))|false=>none
theorem ai1(a b:(Bool×List Int)×Bool×List Int):RS ajT 245 [.d (.st (.pair y2Y y2Y)) a,.d (.st (.pair y2Y y2Y)) b] (Yz a b):=rsX
theorem WC(n:Int)(h:aI n):CQq7 125 [.d aqh n] [.d (.st (.pair y2Y y2Y)) (ao (n:Rat))]:=by
 refine gg jC (ajX _ ⟨0,?_⟩);unfold Y0 ao;rw[amW h,Rat.num_intCast,Rat.den_intCast];rfl
theorem gS{a:BR}(h:okR a):szI (ae a.1)<=480000/\szI (ae a.2)<=480000:=by
 have h1:=Da h;grind [cS,bdR]
theorem Lg(a b:Rat):(cr (aE a 0) (aE b 0)≠0->cr (aE a 0) (aE b 0)=aE a b):=by
 rcases(by grind:a<0\/a=0\/0<a)with h1|h1|h1<;>rcases(by grind:b<0\/b=0\/0<b)with h2|h2|h2
 ·grind [dQ,eH]
 ·rw[dQ h1,h2,eE,dQ h1];intro;rfl
 ·rw[dQ h1,dJ h2,dQ (by grind)];intro;rfl
 ·rw[h1,eE,dQ h2,dJ h2];intro;rfl
 ·grind [eE,eH]
 ·rw[h1,eE,dJ h2,dQ h2];intro;rfl
 ·rw[dJ h1,dQ h2,dJ (by grind)];intro;rfl
 ·rw[dJ h1,h2,eE,dJ h1];intro;rfl
 grind [dJ,eH]
theorem V9(a b:BR)(h:okR a/\okR b):CQq7 66 [.d (.st (.pair y2Y y2Y)) a,.d (.st (.pair y2Y y2Y)) b] [.d aqh (aE (ah a) (ah b))]:=by
 refine gg jC (aiI _ _ ⟨0,?_⟩);obtain⟨ha,hb⟩:=h;obtain⟨a1,a2⟩:=cS ha;obtain⟨b1,b2⟩:=cS hb;obtain⟨sa1,sa2⟩:=gS ha;obtain⟨sb1,sb2⟩:=gS hb;have h1:=cV sa1 sb2;have h2:=cV sb1 sa2;unfold XL;rw[amW ha,amW hb];dsimp only;have hs:=Lg (ah a) (ah b);by_cases hc:cr (aE (ah a) 0) (aE (ah b) 0)=0
 ·rw[hc,amW (show okI a.1/\okI b.2 from⟨ha.1,hb.2.1⟩),amW (show okI b.1/\okI a.2 from⟨hb.1,ha.2.1⟩),amW (show okI (ai (ae a.1*ae b.2))/\okI (ai (ae b.1*ae a.2)) from⟨aX (by omega),aX (by omega)⟩),dec_enc,dec_enc,<-a1,<-a2,<-b1,<-b2,xO];rfl
 ·rw[show(cr (aE (ah a) 0) (aE (ah b) 0) !=0)=true by simpa using hc,hs hc]
theorem JR(a:BR)(h:okR a):CQq7 133 [.d (.st (.pair y2Y y2Y)) a] [.d (.st (.pair y2Y y2Y)) (ao (-ah a))]:=by
 refine gg jC (ahi _ ⟨0,?_⟩);obtain⟨a1,a2⟩:=cS h;unfold aaW
 have e:ao (-ah a)=(ai (-ae a.1),a.2):=by
  unfold ao;rw[Rat.neg_num,a1,show((-ah a).den:Int)=((ah a).den:Int) from rfl,a2,<-iY h.2.1]
 rw[amW h.1,e]
theorem Kt(a b:BR)(h:okR a/\okR b):CQq7 132 [.d (.st (.pair y2Y y2Y)) a,.d (.st (.pair y2Y y2Y)) b] [.d (.st (.pair y2Y y2Y)) (ao (ah a+ah b))]:=by
 refine gg jC (afA _ _ ⟨0,?_⟩);obtain⟨ha,hb⟩:=h;obtain⟨a1,a2⟩:=cS ha;obtain⟨b1,b2⟩:=cS hb;obtain⟨sa1,sa2⟩:=gS ha;obtain⟨sb1,sb2⟩:=gS hb;have pa:=ha.2.2.1;have pb:=hb.2.2.1;have h1:=cV sa1 sb2;have h2:=cV sb1 sa2;have h3:=cV sa2 sb2;have h4:=xj h1 h2;have h5:=xj sa1 sb1;have hda:ah a=Rat.divInt (ae a.1) (ae a.2):=by rw[<-a1,<-a2,an0]
 have hdb:ah b=Rat.divInt (ae b.1) (ae b.2):=by rw[<-b1,<-b2,an0]
 unfold XB;rw[amW (show okI a.2/\okI b.2 from⟨ha.2.1,hb.2.1⟩)];dsimp only;by_cases hc:ae a.2=ae b.2
 ·rw[hc,eH,amW (show okI a.1/\okI b.1 from⟨ha.1,hb.1⟩)];rw[amW (show kz (ai (ae a.1+ae b.1)) a.2 from⟨aX (by omega),ha.2.1,by omega⟩)]
  have e:fJ (ai (ae a.1+ae b.1)) a.2=ao (ah a+ah b):=by
   unfold fJ;rw[dec_enc,hda,hdb,<-hc,Rat.divInt_eq_div,Rat.divInt_eq_div,Rat.divInt_eq_div,Rat.intCast_add];congr 1;grind
  rw[e];rfl
 ·have hcm:(cr (ae a.2) (ae b.2)==0)=false:=by
   rcases aoL hc with h|h
   ·rw[dl h];rfl
   ·rw[cU h];rfl
  rw[hcm,amW (show okI a.1/\okI b.2 from⟨ha.1,hb.2.1⟩),amW (show okI b.1/\okI a.2 from⟨hb.1,ha.2.1⟩),amW (show okI (ai (ae a.1*ae b.2))/\okI (ai (ae b.1*ae a.2)) from⟨aX (by omega),aX (by omega)⟩)];simp only[dec_enc];rw[amW (show kz (ai (ae a.1*ae b.2+ae b.1*ae a.2)) (ai (ae a.2*ae b.2)) from⟨aX (by omega),aX (by omega),by rw[dec_enc];exact apz (by omega) (by omega)⟩)]
  have e:fJ (ai (ae a.1*ae b.2+ae b.1*ae a.2)) (ai (ae a.2*ae b.2))=ao (ah a+ah b):=by
   unfold fJ;rw[dec_enc,dec_enc,hda,hdb,Rat.divInt_add_divInt _ _ (by omega) (by omega)]
  rw[e]
theorem UZ(a b:BR)(h:okR a/\okR b):CQq7 67 [.d (.st (.pair y2Y y2Y)) a,.d (.st (.pair y2Y y2Y)) b] [.d (.st (.pair y2Y y2Y)) (ao (ah a*ah b))]:=by
 refine gg jC (aho _ _ ⟨0,?_⟩);obtain⟨ha,hb⟩:=h;obtain⟨a1,a2⟩:=cS ha;obtain⟨b1,b2⟩:=cS hb;obtain⟨sa1,sa2⟩:=gS ha;obtain⟨sb1,sb2⟩:=gS hb;have pa:=ha.2.2.1;have pb:=hb.2.2.1;have h1:=cV sa1 sb1;have h3:=cV sa2 sb2;have hda:ah a=Rat.divInt (ae a.1) (ae a.2):=by rw[<-a1,<-a2,an0]
 have hdb:ah b=Rat.divInt (ae b.1) (ae b.2):=by rw[<-b1,<-b2,an0]
 unfold Xn;rw[amW (show okI a.1/\okI b.1 from⟨ha.1,hb.1⟩),amW (show okI a.2/\okI b.2 from⟨ha.2.1,hb.2.1⟩),amW (show kz (ai (ae a.1*ae b.1)) (ai (ae a.2*ae b.2)) from⟨aX (by omega),aX (by omega),by rw[dec_enc];exact apz (by omega) (by omega)⟩)]
 have e:fJ (ai (ae a.1*ae b.1)) (ai (ae a.2*ae b.2))=ao (ah a*ah b):=by
  unfold fJ;rw[dec_enc,dec_enc,hda,hdb,apA]
 rw[e]
def iS(a b:BR):Prop:=okR a/\okR b/\ae b.1≠0
instance (a b:BR):Decidable (iS a b):=by unfold iS;infer_instance
theorem Xd(a b:BR)(h:iS a b):CQq7 245 [.d (.st (.pair y2Y y2Y)) a,.d (.st (.pair y2Y y2Y)) b] [.d (.st (.pair y2Y y2Y)) (ao (ah a/ah b)),.d aqh 0]:=by
 refine gg jC (ai1 _ _ ⟨0,?_⟩);obtain⟨ha,hb,hne⟩:=h;obtain⟨a1,a2⟩:=cS ha;obtain⟨b1,b2⟩:=cS hb;obtain⟨sa1,sa2⟩:=gS ha;obtain⟨sb1,sb2⟩:=gS hb;have pa:=ha.2.2.1;have h1:=cV sa1 sb2;have h3:=cV sa2 sb1;have hda:ah a=Rat.divInt (ae a.1) (ae a.2):=by rw[<-a1,<-a2,an0]
 have hdb:ah b=Rat.divInt (ae b.1) (ae b.2):=by rw[<-b1,<-b2,an0]
 have hnz:(aE (ah b) 0==0)=false:=by
  rw[<-vK,b1];rcases aoL hne with h|h
  ·rw[dl h];rfl
  ·rw[cU h];rfl
 unfold Yz;rw[amW hb,hnz,amW (show okI a.1/\okI b.2 from⟨ha.1,hb.2.1⟩),amW (show okI a.2/\okI b.1 from⟨ha.2.1,hb.1⟩),amW (show kz (ai (ae a.1*ae b.2)) (ai (ae a.2*ae b.1)) from⟨aX (by omega),aX (by omega),by rw[dec_enc];exact apz (by omega) hne⟩)]
 have e:fJ (ai (ae a.1*ae b.2)) (ai (ae a.2*ae b.1))=ao (ah a/ah b):=by
  unfold fJ;rw[dec_enc,dec_enc,hda,hdb,aoU,Rat.inv_divInt,apA]
 rw[e]
def MG:eM:=spN false false [(.st (.pair y2Y y2Y)),(.st (.pair y2Y y2Y))] (λx=>decide (okR x.1/\okR x.2.1)) (λx=>[RV.d (.st (.pair y2Y y2Y)) (ao (ah x.1+ah x.2.1))])
theorem OQ:SpK 132 MG:=spX λx h=>Kt x.1 x.2.1 (amZ h)
def Mq:eM:=spN false false [(.st (.pair y2Y y2Y))] (λx=>decide (okR x.1)) (λx=>[RV.d (.st (.pair y2Y y2Y)) (ao (-ah x.1))])
theorem MO:SpK 133 Mq:=spX λx h=>JR x.1 (amZ h)
def Kh:Env:=[(223,qm),(117,wj),(163,sD),(227,qI),(228,v5),(164,vn),(251,xR),(165,CQ),(162,CO),(222,GK),(54,FO),(132,MG),(133,Mq)]
theorem Hv:EnvAll Tryz.prog Kh:=⟨l7,qw,n8,lL,qi,qJ,ua,xS,yg,Ei,FG,OQ,MO,trivial⟩
def ahl:Ctx:=CX Kh []
def aaz(a b:(Bool×List Int)×Bool×List Int)(_k:KT):OLR:=match decide (okR b)with|true=>(match decide (okR a/\okR (ao (-ah b)))with|true=>some [RV.d (.st (.pair y2Y y2Y)) (((ao (ah a+ah (ao (-ah b)))).1),((ao (ah a+ah (ao (-ah b)))).2))]|false=>none)|false=>none
theorem af1(a b:(Bool×List Int)×Bool×List Int):RS ahl 65 [.d (.st (.pair y2Y y2Y)) a,.d (.st (.pair y2Y y2Y)) b] (aaz a b):=rsX
theorem WP(a b:BR)(h:okR a/\okR b):CQq7 65 [.d (.st (.pair y2Y y2Y)) a,.d (.st (.pair y2Y y2Y)) b] [.d (.st (.pair y2Y y2Y)) (ao (ah a-ah b))]:=by
 refine gg Hv (af1 _ _ ⟨0,?_⟩);obtain⟨ha,hb⟩:=h;unfold aaz;rw[amW hb,ct,apq,amW (show okR a/\okR (ao (-ah b)) from⟨ha,rD (w7 (Da hb)) (am2 _)⟩)]
section
namespace RL
theorem lk{x y B e:Rat}(h1:x<B)(h2: -B<x)(h3:y<e)(h4: -e<y):x*y<B*e:=by
 have p:=ano (a:=B-x) (b:=e+y) (by grind) (by grind);have q:=ano (a:=B+x) (b:=e-y) (by grind) (by grind);grind
theorem aaD{e:Rat}(h:0<e):0<e/2:=by grind
theorem Ay{e B:Rat}(h:0<e)(hB:0<B):∃d,0<d/\B*d+B*d<e:=by
 refine⟨e/(4*B),?_,?_⟩
 ·exact ano h (apB.2 (by grind))
 ·have:B*(e/(4*B))=e/4:=by grind
  grind
structure CS where
 f:Nat->Rat
 cau:∀e:Rat,0<e->∃N,∀m n,N<=m->N<=n->f m-f n<e
theorem CS.bd(a:CS):∃B:Rat,0<B/\∃N,∀n,N<=n-> -B<a.f n/\a.f n<B:=by
 obtain⟨N,h⟩:=a.cau 1 (by grind);refine⟨(if 0<=a.f N then a.f N else-a.f N)+1,?_,N,λn hn=>?_⟩
 ·split<;>grind
 ·have h1:=h n N hn (am2 _);have h2:=h N n (am2 _) hn;split<;>grind
def add(a b:CS):CS:=⟨λn=>a.f n+b.f n,λe he=>by
 obtain⟨N,h⟩:=a.cau (e/2) (by grind);obtain⟨M,h'⟩:=b.cau (e/2) (by grind);refine⟨max N M,λm n hm hn=>?_⟩;have:=h m n (by omega) (by omega);have:=h' m n (by omega) (by omega);grind⟩
def neg(a:CS):CS:=⟨λn=> -a.f n,λe he=>by
 obtain⟨N,h⟩:=a.cau e he;exact⟨N,λm n hm hn=>by have:=h n m hn hm;grind⟩⟩
theorem Mx(a b:CS)(e:Rat)(he:0<e):∃N,∀m n,N<=m->N<=n->a.f m*b.f m-a.f n*b.f n<e:=by
 obtain⟨A,hA,N1,h1⟩:=a.bd;obtain⟨B,hB,N2,h2⟩:=b.bd;obtain⟨d,hd,hd'⟩:=Ay (e:=e) (B:=A+B) he (by grind);obtain⟨N3,h3⟩:=a.cau d hd;obtain⟨N4,h4⟩:=b.cau d hd;refine⟨max (max N1 N2) (max N3 N4),λm n hm hn=>?_⟩;have a1:=h1 m (by omega);have b1:=h2 n (by omega);have p:=lk a1.2 a1.1 (h4 m n (by omega) (by omega)) (by have:=h4 n m (by omega) (by omega);grind);have q:=lk b1.2 b1.1 (h3 m n (by omega) (by omega)) (by have:=h3 n m (by omega) (by omega);grind);have r:=ano hA hd;have s:=ano hB hd;grind
def mul(a b:CS):CS:=⟨λn=>a.f n*b.f n,Mx a b⟩
def eqv(a b:CS):Prop:=∀e:Rat,0<e->∃N,∀n,N<=n->a.f n-b.f n<e/\b.f n-a.f n<e
instance st:Setoid CS where
 r:=eqv
 iseqv:=⟨λa e he=>⟨0,λn _=>by grind⟩,λh e he=>by
   obtain⟨N,h⟩:=h e he;exact⟨N,λn hn=>⟨(h n hn).2,(h n hn).1⟩⟩,
  λh h' e he=>by
  obtain⟨N,h⟩:=h (e/2) (by grind);obtain⟨M,h'⟩:=h' (e/2) (by grind);refine⟨max N M,λn hn=>?_⟩;have:=h n (by omega);have:=h' n (by omega);grind⟩
def const(q:Rat):CS:=⟨λ_=>q,λe he=>⟨0,λm n _ _=>by grind⟩⟩
end RL
def RE:Type:=Quotient RL.st
namespace RE
open RL
def of(q:Rat):RE:=Quotient.mk _ (const q)
theorem ac8(a b a' b':CS)(h:a≈a')(h':b≈b'):add a b≈add a' b':=λe he=>by
 obtain⟨N,h⟩:=h (e/2) (by grind);obtain⟨M,h'⟩:=h' (e/2) (by grind);refine⟨max N M,λn hn=>?_⟩;have:=h n (by omega);have:=h' n (by omega);simp only[RL.add];grind
theorem aeb(a a':CS)(h:a≈a'):neg a≈neg a':=λe he=>by
 obtain⟨N,h⟩:=h e he;refine⟨N,λn hn=>?_⟩;have:=h n (by omega);simp only[RL.neg];grind
theorem aea(a b a' b':CS)(h:a≈a')(h':b≈b'):mul a b≈mul a' b':=λe he=>by
 obtain⟨A,hA,N1,h1⟩:=a.bd;obtain⟨B,hB,N2,h2⟩:=b'.bd;obtain⟨d,hd,hd'⟩:=Ay (e:=e) (B:=A+B) he (by grind);obtain⟨N3,h3⟩:=h d hd;obtain⟨N4,h4⟩:=h' d hd;refine⟨max (max N1 N2) (max N3 N4),λn hn=>?_⟩;have a1:=h1 n (by omega);have b1:=h2 n (by omega);have a3:=h3 n (by omega);have b3:=h4 n (by omega);have p:=lk a1.2 a1.1 (y:=b.f n-b'.f n) b3.1 (by grind);have q:=lk b1.2 b1.1 (y:=a.f n-a'.f n) a3.1 (by grind);have p':=lk a1.2 a1.1 (y:=b'.f n-b.f n) b3.2 (by grind);have q':=lk b1.2 b1.1 (y:=a'.f n-a.f n) a3.2 (by grind);have r:=ano hA hd;have s:=ano hB hd;simp only[RL.mul];constructor<;>grind
instance:Add RE:=⟨Quotient.lift₂ (λa b=>Quotient.mk _ (add a b)) (λ_ _ _ _ h h'=>apl (ac8 _ _ _ _ h h'))⟩
instance:Neg RE:=⟨Quotient.lift (λa=>Quotient.mk _ (neg a)) (λ_ _ h=>apl (aeb _ _ h))⟩
instance:Sub RE:=⟨λa b=>a+ -b⟩
instance:Mul RE:=⟨Quotient.lift₂ (λa b=>Quotient.mk _ (mul a b)) (λ_ _ _ _ h h'=>apl (aea _ _ _ _ h h'))⟩
theorem snd{a b:CS}(h:∀n,a.f n=b.f n):(Quotient.mk st a:RE)=Quotient.mk st b:=
 apl λe he=>⟨0,λn _=>by rw[h n];grind⟩
instance (n:Nat):OfNat RE n:=⟨of (OfNat.ofNat n)⟩
theorem of_add(a b:Rat):of (a+b)=of a+of b:=rfl
theorem of_mul(a b:Rat):of (a*b)=of a*of b:=rfl
theorem of_neg(a:Rat):of (-a)= -of a:=rfl
theorem of_sub(a b:Rat):of (a-b)=of a-of b:=by rw[apq];rfl
theorem pg:of 0=0:=rfl
theorem CA:of 1=1:=rfl
theorem add_zero(a:RE):a+0=a:=by
 induction a using anU;exact snd λn=>Rat.add_zero _
theorem add_comm(a b:RE):a+b=b+a:=by
 induction a,b using apC;exact snd λn=>Rat.add_comm _ _
theorem add_assoc(a b c:RE):a+b+c=a+(b+c):=by
 induction a,b,c using ao1;exact snd λn=>Rat.add_assoc _ _ _
theorem mul_assoc(a b c:RE):a*b*c=a*(b*c):=by
 induction a,b,c using ao1;exact snd λn=>Rat.mul_assoc _ _ _
theorem mul_comm(a b:RE):a*b=b*a:=by
 induction a,b using apC;exact snd λn=>aox _ _
theorem mul_one(a:RE):a*1=a:=by
 induction a using anU;exact snd λn=>Rat.mul_one _
theorem mul_zero(a:RE):a*0=0:=by
 induction a using anU;exact snd λn=>Rat.mul_zero _
theorem left_distrib(a b c:RE):a*(b+c)=a*b+a*c:=by
 induction a,b,c using ao1;exact snd λn=>Rat.mul_add _ _ _
theorem xn(a:RE): -a+a=0:=by
 induction a using anU;exact snd λn=>Rat.neg_add_cancel _
def clt(a b:CS):Prop:=∃e:Rat,0<e/\∃N,∀n,N<=n->a.f n+e<b.f n
theorem QS(a b a' b':CS)(h:a≈a')(h':b≈b')(hl:clt a b):clt a' b':=by
 obtain⟨e,he,N,hl⟩:=hl;obtain⟨N1,h⟩:=h (e/4) (by grind);obtain⟨N2,h'⟩:=h' (e/4) (by grind);refine⟨e/2,by grind,max N (max N1 N2),λn hn=>?_⟩;have:=hl n (by omega);have:=h n (by omega);have:=h' n (by omega);grind
instance:LT RE:=⟨Quotient.lift₂ clt (λ_ _ _ _ h h'=>propext ⟨QS _ _ _ _ h h',QS _ _ _ _ (Setoid.symm h) (Setoid.symm h')⟩)⟩
instance:LE RE:=⟨λa b=>¬b<a⟩
theorem lt_irrefl(a:RE):¬a<a:=by
 induction a using anU
 rintro ⟨e,he,N,h⟩
 have:=h N (am2 _);grind
theorem c7{a b c:RE}:a<b->b<c->a<c:=by
 induction a,b,c using ao1
 rintro ⟨e,he,N,h⟩ ⟨e',he',N',h'⟩
 refine⟨e,he,max N N',λn hn=>?_⟩;have:=h n (by omega);have:=h' n (by omega);grind
theorem nZ(a b:RE):a<b\/a=b\/b<a:=by
 induction a,b using apC
 rename_i a b;by_cases h1:clt a b
 ·exact .inl h1
 by_cases h2:clt b a
 ·exact .inr (.inr h2)
 refine .inr (.inl (apl λe he=>?_));obtain⟨N,ha⟩:=a.cau (e/4) (by grind);obtain⟨M,hb⟩:=b.cau (e/4) (by grind)
 have g1:∃n,max N M<=n/\b.f n<=a.f n+e/4:=by
  apply ang;intro hc
  exact h1 ⟨e/4,by grind,max N M,λn hn=>by
   apply ang;intro h;exact hc ⟨n,hn,by grind⟩⟩
 have g2:∃n,max N M<=n/\a.f n<=b.f n+e/4:=by
  apply ang;intro hc
  exact h2 ⟨e/4,by grind,max N M,λn hn=>by
   apply ang;intro h;exact hc ⟨n,hn,by grind⟩⟩
 obtain⟨p,hp,gp⟩:=g1;obtain⟨q,hq,gq⟩:=g2;refine⟨max N M,λn hn=>?_⟩;have a1:=ha n q (by omega) (by omega);have b1:=hb q n (by omega) (by omega);have a2:=ha p n (by omega) (by omega);have b2:=hb n p (by omega) (by omega);constructor<;>grind
theorem ln{a b:RE}(c:RE):a<b->a+c<b+c:=by
 induction a,b,c using ao1
 rintro ⟨e,he,N,h⟩
 refine⟨e,he,N,λn hn=>?_⟩;have:=h n hn;simp only[RL.add];grind
theorem mul_pos{a b:RE}:0<a->0<b->0<a*b:=by
 induction a,b using apC
 rintro ⟨e,he,N,h⟩ ⟨e',he',N',h'⟩
 refine⟨e*e',ano he he',max N N',λn hn=>?_⟩;have h1:=h n (by omega);have h2:=h' n (by omega);simp only[RL.const]at h1 h2 ⊢;rename_i a b;have p:=ano (a:=a.f n-e) (b:=b.f n-e') (by grind) (by grind);have q:=ano (a:=a.f n-e) (b:=e') (by grind) (by grind);have r:=ano (a:=e) (b:=b.f n-e') (by grind) (by grind);simp only[RL.mul];grind
theorem fX{a b:Rat}(h:a<b):of a<of b:=⟨(b-a)/2,by grind,0,λn _=>by simp only[RL.const];grind⟩
theorem GE(a:RE):0<a->∃b,a*b=1:=by
 induction a using anU
 rename_i a;rintro ⟨e,he,N,h⟩
 simp only[RL.const]at h
 have hp:∀n,N<=n->0<(a.f n)⁻¹/\(a.f n)⁻¹<e⁻¹:=λn hn=>by
  have h1:=h n hn;have h2:0<(a.f n)⁻¹:=apB.2 (by grind);have h3:0<e⁻¹:=apB.2 he;refine⟨h2,?_⟩;have h4:=ano (ano h2 h3) (show 0<a.f n-e by grind);have e1:(a.f n)⁻¹*e⁻¹*(a.f n-e)=e⁻¹-(a.f n)⁻¹:=by grind
  grind
 refine⟨Quotient.mk _ ⟨λn=>(a.f n)⁻¹,λd hd=>?_⟩,apl λd hd=>⟨N,λn hn=>?_⟩⟩
 ·have hE:0<e⁻¹:=apB.2 he;obtain⟨M,hM⟩:=a.cau (d*e*e) (ano (ano hd he) he);refine⟨max N M,λm n hm hn=>?_⟩;have h1:=hp m (by omega);have h2:=hp n (by omega);have h3:=hM n m (by omega) (by omega);have hm':=h m (by omega);have hn':=h n (by omega);have e1:(a.f m)⁻¹-(a.f n)⁻¹=((a.f m)⁻¹*(a.f n)⁻¹)*(a.f n-a.f m):=by grind
  rw[e1];have p1:=ano h1.1 h2.1;have p2:=ano p1 (show 0<d*e*e-(a.f n-a.f m) by grind);have p3:=ano (show 0<e⁻¹-(a.f m)⁻¹ by grind) hE;have p4:=ano h1.1 (show 0<e⁻¹-(a.f n)⁻¹ by grind);have p5:(a.f m)⁻¹*(a.f n)⁻¹<e⁻¹*e⁻¹:=by grind
  have p6:=ano (show 0<e⁻¹*e⁻¹-(a.f m)⁻¹*(a.f n)⁻¹ by grind) (ano (ano hd he) he);have p7:e⁻¹*e⁻¹*(d*e*e)=d:=by grind
  grind
 ·have:=h n hn;simp only[RL.mul,RL.const];have:a.f n*(a.f n)⁻¹=1:=Rat.mul_inv_cancel _ (by grind);rw[this];grind
end RE
end
end Go.Proofs.YtagbmoohboleaaaGreat
end
