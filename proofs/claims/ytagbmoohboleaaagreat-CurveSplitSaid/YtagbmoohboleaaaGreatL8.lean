/- integer: divide, its contract. -/
import Derived.Test.YtagbmoohboleaaaGreatL7
noncomputable section
namespace Go.Proofs.YtagbmoohboleaaaGreat
open Go.RowKit Go.IntKind
theorem af4:type_of% @List.length_pos_iff:=@List.length_pos_iff
theorem agf:type_of% @Rat.mul_pos:=@Rat.mul_pos
theorem agl:type_of% @beq_iff_eq:=@beq_iff_eq
theorem agq:type_of% @Rat.num_divInt_den:=@Rat.num_divInt_den
theorem agw:type_of% @Int.eq_ofNat_of_zero_le:=@Int.eq_ofNat_of_zero_le
theorem agD:type_of% @Quotient.inductionOn:=@Quotient.inductionOn
theorem agU:type_of% @Int.natAbs_natCast:=@Int.natAbs_natCast
theorem ahe:type_of% @Int.lt_or_lt_of_ne:=@Int.lt_or_lt_of_ne
theorem ahk:type_of% @Rat.mul_comm:=@Rat.mul_comm
theorem ahp:type_of% @Bool.decide_and:=@Bool.decide_and
theorem ahu:type_of% @Nat.gcd_comm:=@Nat.gcd_comm
theorem ahv:type_of% @Quotient.inductionOn₃:=@Quotient.inductionOn₃
theorem ahC:type_of% @List.length_nil:=@List.length_nil
theorem ahI:type_of% @Rat.divInt_ofNat:=@Rat.divInt_ofNat
theorem ahO:type_of% @Rat.sub_eq_add_neg:=@Rat.sub_eq_add_neg
theorem ahZ:type_of% @Nat.mul_ne_zero:=@Nat.mul_ne_zero
theorem ah0:type_of% @Int.mul_ne_zero:=@Int.mul_ne_zero
theorem ah1:type_of% @Rat.divInt_mul_divInt:=@Rat.divInt_mul_divInt
theorem ah2:type_of% @Quotient.inductionOn₂:=@Quotient.inductionOn₂
theorem ah3:type_of% @Rat.intCast_neg:=@Rat.intCast_neg
theorem aia:type_of% @Int.natAbs_mul:=@Int.natAbs_mul
theorem aib:type_of% @Quotient.sound:=@Quotient.sound
theorem aij:type_of% @Rat.num_mkRat:=@Rat.num_mkRat
theorem aik:type_of% @Rat.den_mkRat:=@Rat.den_mkRat
theorem aiu:type_of% @Rat.div_def:=@Rat.div_def
def nN(a b:List Int):Prop:=(Lim a/\a.length<=100000000)/\(Lim b/\b.length<=100000000)/\0<val b
instance (a b:List Int):Decidable (nN a b):=by unfold nN;infer_instance
structure ack (a b q r:List Int):Prop where
 lq:Lim q
 lr:Lim r
 sq:q.length<=200000000
 sr:r.length<=200000000
 q:val q=val a/val b
 r:val r=val a%val b
theorem vG(x:Int):val [x]=x:=by simp[val]
theorem tt{l:List Int}(h:can l){m:Nat}(hl:l.length=m+1):1<=l[m]:=by
 have h2:=h.2;have h1:=h.1.get (show m<l.length by omega);grind
set_option maxHeartbeats 1000000 in
theorem E5(a b:List Int)(h:nN a b):∃q r,ack a b q r/\CQq7 301 [.d aix a,.d aix b] [.d aix q,.d aix r]:=by
 obtain⟨⟨la,sa⟩,⟨lb,sb⟩,hb⟩:=h;have ha:aO a:=⟨la,by omega⟩
 have hb':aO b:=⟨lb,by omega⟩
 have va:=aZ (val a).toNat
 have vb:=aZ (val b).toNat
 have na:=aN la;have va':val (ag (val a).toNat)=val a:=by omega
 have vb':val (ag (val b).toNat)=val b:=by omega
 have lna:=jN la;have lnb:=jN lb;have ca:=dU (val a).toNat
 have cb:=dU (val b).toNat
 have hla:aO (ag (val a).toNat):=⟨ca.1,by omega⟩
 have hlb:aO (ag (val b).toNat):=⟨cb.1,by omega⟩
 have go:∀{q r},gk.Res 301 [.d aix a,.d aix b] [.d aix q,.d aix r]->CQq7 301 [.d aix a,.d aix b] [.d aix q,.d aix r]:=λhr=>fE IZ hr;have hb0:ag (val b).toNat≠[]:=λe=>by rw[gO]at e;omega
 by_cases h1:(ag (val b).toNat).length=1
 ·have t1:=tt cb (m:=0) h1;have t2:=cb.1.get (show 0<(ag (val b).toNat).length by omega)
  have e0:(ag (val b).toNat)[0]=val b:=by
   obtain⟨x,hx⟩:=List.length_eq_one_iff.1 h1;have:=vb';rw[hx,vG]at this;simp[hx,this]
  have hq0:0<=val a/val b:=agp na (by omega);have hq1:val a/val b<=val a:=ahg _ na;have hr0:=agu (val a) (show val b≠0 by omega);have hr1:=af1 (val a) hb;have hal:=b8 ca.1;refine⟨dig (ag (val a).toNat).length (val a/val b),[val a%val b],⟨mN _ _,Lim.cons ⟨hr0,by omega⟩ Lim.nil,by rw[iN];omega,by simp,gY _ _ hq0 (by omega),vG _⟩,go (OW _ _ ⟨0,?_⟩)⟩;unfold Id;rw[afm ha,afm hb',h1,zr,afn (show 0<(ag (val b).toNat).length by omega),e0];dsimp only;rw[afm (show Dw (ag (val a).toNat) (val b) from⟨hla,by omega,by omega⟩),va'];rfl
 have hlen:2<=(ag (val b).toNat).length:=by
  rcases afZ (ag (val b).toNat).length 2 with h|h
  ·exfalso;have:(ag (val b).toNat).length≠0:=λe=>hb0 (ahf e);omega
  ·exact h
 by_cases hlt:val a<val b
 ·refine⟨[],ag (val a).toNat,⟨Lim.nil,ca.1,by simp,by omega,?_,?_⟩,go (OW _ _ ⟨0,?_⟩)⟩
  ·rw[agz na hlt];rfl
  ·rw[ahA na hlt];exact va'
  ·unfold Id;rw[afm ha,afm hb',show(((ag (val b).toNat).length:Int)==1)=false by simp;omega,afm (show aO (ag (val a).toNat)/\aO (ag (val b).toNat) from⟨hla,hlb⟩),va',vb',cW hlt,afm (show(ag (val a).toNat).length*4<=140737488355328/\(ag (val a).toNat).length<=140737488355328 by omega)];rfl
 ·obtain⟨m,hm⟩:∃m,(ag (val b).toNat).length=m+2:=⟨(ag (val b).toNat).length-2,by omega⟩
  have hxm:m+1<(ag (val b).toNat).length:=by omega
  have t1:=tt cb (m:=m+1) hm;have t2:=cb.1.get hxm;generalize hx2:(ag (val b).toNat)[m+1]=x2 at t1 t2;obtain⟨s1,s2,s3,s4⟩:=JO t1 t2.2
  have esc:u32.wrap (u64.wrap (Int.tdiv 1000000000 (u64.wrap ((u64.wrap x2)+1))))=1000000000/(x2+1):=by
   rw[a8 (x:=x2) (by omega) (by omega),a8 (x:=x2+1) (by omega) (by omega),gR (by omega),a8 (x:=1000000000/(x2+1)) (by omega) (by omega),cU (x:=1000000000/(x2+1)) (by omega) (by omega)]
  generalize hsc:1000000000/(x2+1)=sc at s1 s2 s3 s4 esc;have hsl:aO [sc]:=⟨Lim.cons ⟨by omega,by omega⟩ Lim.nil,by simp⟩
  have hbl:=b8 cb.1;rw[vb',hm]at hbl;have hP:=co (m+1);have hbtop:=aT hxm;rw[agy (by omega),vb',hx2]at hbtop;have hbt0:=aN (cb.1.take (m+1));have hbt1:=b8 (cb.1.take (m+1));rw[af3,af7 (by omega)]at hbt1
  have hVhi:val b*sc<pw (m+2):=by
   have e1:val b*sc<(pw (m+1)*(x2+1))*sc:=Int.mul_lt_mul_of_pos_right (by rw[ait,ahX];omega) (by omega);have e2:(pw (m+1)*(x2+1))*sc=pw (m+1)*((x2+1)*sc):=Int.mul_assoc _ _ _;have e3:pw (m+1)*((x2+1)*sc)<=pw (m+1)*1000000000:=afu s3 (af0 hP);rw[ce];omega
  have hVlo:pw (m+1)*500000000<=val b*sc:=by
   have e1:pw (m+1)*x2*sc<=val b*sc:=afB (by omega) (by omega);have e2:pw (m+1)*x2*sc=pw (m+1)*(x2*sc):=Int.mul_assoc _ _ _;have e3:pw (m+1)*500000000<=pw (m+1)*(x2*sc):=afu s4 (af0 hP);omega
  have hV0:0<val b*sc:=Int.mul_pos hb (by omega);have edv:val (dig (m+2+1) (val b*sc))=val b*sc:=gY _ _ (by omega) (by rw[ce];omega);obtain⟨v,hv⟩:∃v,ag (val b*sc).toNat=v:=⟨_,rfl⟩
  have cv:=dU (val b*sc).toNat
  have vv:=aZ (val b*sc).toNat
  rw[hv]at cv vv;have hvv:val v=val b*sc:=by omega
  have hvl:v.length=m+2:=by
   have h1:v.length<=m+2:=by rw[<-hv];exact c7 (by omega)
   have h2:m+1<v.length:=by rw[<-hv];exact Bo (by omega)
   omega
  have htop:500000000<=v[m+1]:=by
   rcases afT v[m+1] 500000000 with hc|hc
   ·exfalso;have e1:=aT (l:=v) (n:=m+1) (by omega);rw[agy (by omega),hvv]at e1;have e2:=b8 (cv.1.take (m+1));rw[af3,af7 (by omega)]at e2;have e3:=afu (show v[m+1]<=499999999 by omega) (af0 hP);omega
   ·exact hc
  have hal:=b8 ca.1;rw[va']at hal;have hA0:0<=val a*sc:=agk na (by omega)
  have hA1:val a*sc<pw ((ag (val a).toNat).length+1):=by
   have e1:val a*sc<=pw (ag (val a).toNat).length*sc:=afB (by omega) (by omega);have e2:pw (ag (val a).toNat).length*sc<pw (ag (val a).toNat).length*1000000000:=Int.mul_lt_mul_of_pos_left (by omega) (co _);rw[ce];omega
  have lab:m+2<=(ag (val a).toNat).length:=by
   rw[<-hm];rcases afZ (ag (val a).toNat).length (ag (val b).toNat).length with hc|hc
   ·have:=vd hc;omega
   ·exact hc
  generalize hlA:(ag (val a).toNat).length=L at*
  have hdl:(dig (L+1) (val a*sc)++[0]).length=L+2:=by simp[iN]
  have hdv:val (dig (L+1) (val a*sc)++[0])=val a*sc:=by rw[dh,gY _ _ hA0 hA1];simp[val]
  have hmul:=hvv
  obtain⟨q,r,⟨f1,f2,f3,f4,f5,f6⟩,n,hrun⟩:=Pi b x2 v m hm (by rw[esc,hm,vb',vG];simp only[afH];rw[edv];exact hv) cv.1 hvl sc esc s1 s2 htop (val a*sc) (L-m) (List.replicate (L-m) 0) (dig (L+1) (val a*sc)++[0])
   (Lim.rep _) ((mN _ _).append (Lim.cons (by decide) Lim.nil)) (by rw[hdl];simp;omega) (by rw[hdl];omega) (by simp) (by rw[gC,hdv];omega) (λj hj _=>by simp) (by
    rw[hdv,hvv];have e1:pw (m+1)*500000000*pw (L-m)<=val b*sc*pw (L-m):=afB hVlo (af0 (co _))
    have e2:pw (m+1)*500000000*pw (L-m)=pw (L+1)*500000000:=by
     rw[show L+1=m+1+(L-m) by omega,fe (m+1) (L-m),Int.mul_right_comm]
    have:=co (L+1);omega)
  have hq:val a*sc/(val b*sc)=val a/val b:=Int.mul_ediv_mul_of_pos_left _ _ (by omega)
  have hr:val a*sc%(val b*sc)/sc=val a%val b:=by
   rw[ahb (val a),ahb (val b),Int.mul_emod_mul_of_pos _ _ (by omega),ahb];exact Int.mul_ediv_cancel _ (by omega)
  rw[hvv]at f5 f6;rw[hq]at f5;rw[hr]at f6;refine⟨q,r,⟨f1,f2,by rw[f3];simp;omega,by omega,f5,f6⟩,go (OW _ _ ⟨n,?_⟩)⟩;unfold Id;have e1:i64.wrap (((m+2:Nat):Int)-1)=((m+1:Nat):Int):=by rw[aM (by omega) (by omega)];omega
  have e2:i64.wrap (((L+2:Nat):Int)-((m+2:Nat):Int))=((L-m:Nat):Int):=by rw[aM (by omega) (by omega)];omega
  have e3:i64.wrap (((L-m:Nat):Int)-1)=((L-m:Nat):Int)-1:=aM (by omega) (by omega)
  rw[afm ha,afm hb',hm,show(((m+2:Nat):Int)==1)=false by simp;omega,afm (show aO (ag (val a).toNat)/\aO (ag (val b).toNat) from⟨hla,hlb⟩),va',vb',show decide (cq (val a) (val b)<0)=false by
   rcases afT (val b) (val a)with hc|hc
   ·rw[cH hc];rfl
   ·rw[show val a=val b by omega,dO];rfl,e1,am (ag (val b).toNat) (m+1),afn hxm,hx2]
  dsimp only;rw[esc,a8 (x:=x2) (by omega) (by omega),a8 (x:=x2+1) (by omega) (by omega),afo (show ¬x2+1=0 by omega),afm (show aO (ag (val a).toNat)/\aO [sc] from⟨hla,hsl⟩),afm (show aO (ag (val b).toNat)/\aO [sc] from⟨hlb,hsl⟩),vG,hlA];rw[afH,afH,hdl,iN (L+1)];rw[afm (show(L+1+1)*4<=140737488355328/\L+1+1<=140737488355328 by omega),afm (show aO (dig (m+2+1) (val b*sc)) from jn (by omega) _),e2,sG (by omega),aA,e3];exact hrun
abbrev BI:=Bool×List Int
def okI(x:BI):Prop:=can x.2/\(x.1=true->x.2≠[])/\x.2.length<=1000000
instance (x:BI):Decidable (okI x):=by unfold okI;infer_instance
theorem bK(x:BI):ae x=cf x.1 (val x.2):=rfl
theorem ic{x:BI}(h:okI x):x=ai (ae x):=by
 obtain⟨h1,h2,h3⟩:=h;grind [bK,mj,nJ,val,eo]
def szI(z:Int):Nat:=(ag z.natAbs).length
theorem aR{z:Int}(h:szI z<=1000000):okI (ai z):=by
 refine⟨dU _,λe=>?_,h⟩;grind [ai,gO]
theorem eV{z:Int}{k:Nat}(h1: -pw k<z)(h2:z<pw k):szI z<=k:=c7 (by omega)
theorem Ej(z:Int): -pw (szI z)<z/\z<pw (szI z):=by
 have h:=b8 (cd z.natAbs);grind [aZ,szI]
theorem mC{z:Int}{k:Nat}(h:szI z<=k): -pw k<z/\z<pw k:=by
 have h1:=Ej z;have h2:=c8 h;omega
theorem iJ(z:Int):szI (-z)=szI z:=by simp[szI]
theorem u5{a b:Int}{k:Nat}(h1:szI a<=k)(h2:szI b<=k):szI (a+b)<=k+1:=by
 have e1:=mC h1;have e2:=mC h2;exact eV (by rw[ce];omega) (by rw[ce];omega)
theorem cJ{a b:Int}{j k:Nat}(h1:szI a<=j)(h2:szI b<=k):szI (a*b)<=j+k:=by
 have e1:=mC h1;have e2:=mC h2
 have h:(a*b).natAbs<(pw (j+k)).toNat:=by
  rw[aia,fe];have:(pw j*pw k).toNat=(pw j).toNat*(pw k).toNat:=Int.toNat_mul (by omega) (by omega);rw[this];exact Nat.mul_lt_mul'' (by omega) (by omega)
 exact eV (by omega) (by omega)
theorem dg{a b:Int}(h:a.natAbs<=b.natAbs):szI a<=szI b:=by
 have:=Ej b;exact eV (by omega) (by omega)
theorem ir{x:BI}(h:okI x):szI (ae x)<=1000000:=by
 have:=ic h;have h3:=h.2.2;rwa [this]at h3
theorem fT{x:BI}(h:okI x):aO x.2:=⟨h.1.1,by have:=h.2.2;omega⟩
theorem cC{x:BI}(h:okI x):0<=val x.2/\(x.1=true->0<val x.2)/\(x.2=[]↔val x.2=0):=by
 refine⟨aN h.1.1,λe=>eo h.1 (h.2.1 e),⟨λe=>by rw[e];rfl,λe=>?_⟩⟩;rcases List.eq_nil_or_concat x.2 with h'|⟨l,y,h'⟩
 ·omega
 ·have:=eo h.1 (by rw[h'];simp);omega
def nM:dK:=spN false false [aiy] (λx=>decide (a9 x.1)) (λx=>[RV.d y2Y (ai x.1)])
theorem kq:SpK 223 nM:=spX λx h=>Ii x.1 (afp h)
def dvQ(a b:List Int):List Int:=if h:nN a b then Classical.choose (E5 a b h)else []
def dvR(a b:List Int):List Int:=if h:nN a b then Classical.choose (agN (E5 a b h))else []
theorem Tj{a b:List Int}(h:nN a b):ack a b (dvQ a b) (dvR a b):=by grind [dvQ,dvR]
theorem Qp(a b:List Int)(h:nN a b):CQq7 301 [.d aix a,.d aix b] [.d aix (dvQ a b),.d aix (dvR a b)]:=by
 unfold dvQ dvR;rw[dif_pos h,dif_pos h];exact(agN (agN (E5 a b h))).2
def EL:dK:=spN false false [aix,aix] (λx=>decide (nN x.1 x.2.1)) (λx=>[RV.d aix (dvQ x.1 x.2.1),RV.d aix (dvR x.1 x.2.1)])
theorem CI:SpK 301 EL:=spX λx h=>Qp x.1 x.2.1 (afp h)
def qR:Env:=[(248,xZ),(287,Bl),(288,Fo),(289,E6),(249,E7),(247,FK),(223,nM),(301,EL)]
theorem jS:EnvAll Tryz.prog qR:=⟨sO,xD,Ds,Ce,DH,BG,kq,CI,trivial⟩
def acG:Ctx:=CX qR []
def Ui(x y:Bool×List Int)(_k:KT):OLR:=match !(x.1==y.1)with|true=>(match x.1 with|true=>some [RV.d aiy (-1)]|false=>some [RV.d aiy 1])|false=>(match x.1 with|true=>(og (decide (aO y.2/\aO x.2)) (some [RV.d aiy (cq (val y.2) (val x.2))]))|false=>(og (decide (aO x.2/\aO y.2)) (some [RV.d aiy (cq (val x.2) (val y.2))])))
theorem ZJ(x y:Bool×List Int):RS acG 163 [.d y2Y x,.d y2Y y] (Ui x y):=rsX
def Z5:Ctx:=CX qR []
def Tc(x y:Bool×List Int)(_k:KT):OLR:=match x.1==y.1 with|true=>(og (decide (aO x.2/\aO y.2)) (og (decide (aO (dig (max x.2.length y.2.length+1) (val x.2+val y.2)))) (some [RV.d y2Y (ai (cf x.1 (val (dig (max x.2.length y.2.length+1) (val x.2+val y.2)))))])))|false=>(og (decide (aO x.2/\aO y.2)) (match decide ((cq (val x.2) (val y.2))<0)with|true=>(og (decide (nB y.2 x.2)) (og (decide (aO (dig y.2.length (val y.2-val x.2)))) (some [RV.d y2Y (ai (cf y.1 (val (dig y.2.length (val y.2-val x.2)))))])))|false=>(og (decide (nB x.2 y.2)) (og (decide (aO (dig x.2.length (val x.2-val y.2)))) (some [RV.d y2Y (ai (cf x.1 (val (dig x.2.length (val x.2-val y.2)))))])))))
theorem Zx(x y:Bool×List Int):RS Z5 227 [.d y2Y x,.d y2Y y] (Tc x y):=rsX
def ac2:Ctx:=CX qR []
def Uq(x y:Bool×List Int)(_k:KT):OLR:=og (decide (aO x.2/\aO y.2)) (og (decide (aO (dig (x.2.length+y.2.length) (val x.2*val y.2)))) (some [RV.d y2Y (ai (cf (!(x.1==y.1)) (val (dig (x.2.length+y.2.length) (val x.2*val y.2)))))]))
theorem acY(x y:Bool×List Int):RS ac2 164 [.d y2Y x,.d y2Y y] (Uq x y):=rsX
def aaq:Ctx:=CX qR []
def Uh(x:Bool×List Int)(_k:KT):OLR:=og (decide (x.2.length*4<=140737488355328/\x.2.length<=140737488355328)) (og (decide (aO x.2)) (some [RV.d y2Y (ai (cf (!x.1) (val x.2)))]))
theorem Zv(x:Bool×List Int):RS aaq 228 [.d y2Y x] (Uh x):=rsX
def adI:Ctx:=CX qR []
def Tr(x:Bool×List Int)(_k:KT):OLR:=match x.1 with|true=>some [RV.d aiy (-1)]|false=>(match decide ((x.2.length:Int)>0)with|true=>some [RV.d aiy 1]|false=>some [RV.d aiy 0])
theorem abf(x:Bool×List Int):RS adI 117 [.d y2Y x] (Tr x):=rsX
theorem PG(x:BI)(h:okI x):CQq7 117 [.d y2Y x] [.d aiy (cq (ae x) 0)]:=by
 refine fE jS (abf _ ⟨0,?_⟩);obtain⟨h0,h1,h2⟩:=cC h;unfold Tr;rw[bK];unfold cf;cases hx:x.1
 ·simp only[cond_false];rcases afT 0 (val x.2)with hc|hc
  ·have:x.2≠[]:=λe=>by rw[h2]at e;omega
   have:=af4.2 this;rw[afm (by omega),cH hc]
  ·have e:x.2=[]:=h2.2 (by omega);rw[e];rfl
 ·simp only[cond_true];rw[cW (by have:=h1 hx;omega)]
theorem F6{a b:Int}(_ha:0<=a)(_hb:0<=b):cq (-a) (-b)=cq b a:=by grind [cH,dO,cW]
theorem Gg(x y:BI)(h:okI x/\okI y):CQq7 163 [.d y2Y x,.d y2Y y] [.d aiy (cq (ae x) (ae y))]:=by
 refine fE jS (ZJ _ _ ⟨0,?_⟩);obtain⟨hx,hy⟩:=h;obtain⟨x0,x1,x2⟩:=cC hx;obtain⟨y0,y1,y2⟩:=cC hy;have lx:=fT hx;have ly:=fT hy;unfold Ui;rw[bK,bK,afm (show aO x.2/\aO y.2 from⟨lx,ly⟩),afm (show aO y.2/\aO x.2 from⟨ly,lx⟩)];unfold cf;cases ex:x.1<;>cases ey:y.1<;>simp only[cond_true,cond_false]
 ·rfl
 ·have:=y1 ey;rw[cH (a:=val x.2) (b:= -val y.2) (by omega)];rfl
 ·have:=x1 ex;rw[cW (a:= -val x.2) (b:=val y.2) (by omega)];rfl
 ·rw[F6 x0 y0];rfl
theorem Mq{a b:List Int}(ha:Lim a)(hb:Lim b):val (dig (max a.length b.length+1) (val a+val b))=val a+val b:=by
 have h1:=b8 ha;have h2:=b8 hb;have h3:=aN ha;have h4:=aN hb;have h5:=c8 (Nat.le_max_left a.length b.length);have h6:=c8 (Nat.le_max_right a.length b.length);grind [gY,ce]
theorem yV{a b:List Int}(ha:Lim a)(hb:Lim b)(hle:val b<=val a):val (dig a.length (val a-val b))=val a-val b:=by
 have h1:=b8 ha;have h4:=aN hb;grind [gY]
theorem Iy{a b:List Int}(ha:Lim a)(hb:Lim b):val (dig (a.length+b.length) (val a*val b))=val a*val b:=by
 have h1:=b8 ha;have h2:=b8 hb;have h3:=aN ha;have h4:=aN hb;refine gY _ _ (agk h3 h4) ?_;rw[fe];have e1:=afB (af0 h1) h4;have e2:=Int.mul_lt_mul_of_pos_left h2 (co a.length);omega
theorem RU(x y:BI)(h:okI x/\okI y):CQq7 227 [.d y2Y x,.d y2Y y] [.d y2Y (ai (ae x+ae y))]:=by
 refine fE jS (Zx _ _ ⟨0,?_⟩);obtain⟨hx,hy⟩:=h;obtain⟨x0,x1,x2⟩:=cC hx;obtain⟨y0,y1,y2⟩:=cC hy;have lx:=fT hx;have ly:=fT hy;have sx:=hx.2.2;have sy:=hy.2.2;unfold Tc;rw[bK,bK,afm (show aO x.2/\aO y.2 from⟨lx,ly⟩),afm (show aO (dig (max x.2.length y.2.length+1) (val x.2+val y.2)) from jn (by omega) _),Mq lx.1 ly.1,afm (show aO (dig x.2.length (val x.2-val y.2)) from jn (by omega) _),afm (show aO (dig y.2.length (val y.2-val x.2)) from jn (by omega) _)];cases hs:x.1==y.1
 ·dsimp only;rcases afT (val x.2) (val y.2)with hc|hc
  ·rw[cW hc,afm (show(-1:Int)<0 by decide),afm (show nB y.2 x.2 from⟨ly,lx,by omega⟩),yV ly.1 lx.1 (by omega)];dsimp only;unfold cf;cases ex:x.1<;>cases ey:y.1<;>simp_all<;>congr 2<;>omega
  ·have hcm:decide (cq (val x.2) (val y.2)<0)=false:=by
    rcases afT (val y.2) (val x.2)with h|h
    ·rw[cH h];rfl
    ·rw[show val x.2=val y.2 by omega,dO];rfl
   rw[hcm,afm (show nB x.2 y.2 from⟨lx,ly,hc⟩),yV lx.1 ly.1 hc];dsimp only;unfold cf;cases ex:x.1<;>cases ey:y.1<;>simp_all<;>congr 2<;>omega
 ·dsimp only;have e:=agl.1 hs;rw[<-e];unfold cf;cases x.1
  ·rfl
  ·simp only[cond_true];rw[show-(val x.2+val y.2)= -val x.2+ -val y.2 by omega]
theorem HN(x:BI)(h:okI x):CQq7 228 [.d y2Y x] [.d y2Y (ai (-ae x))]:=by
 refine fE jS (Zv _ ⟨0,?_⟩);have sx:=h.2.2;unfold Uh;rw[bK,afm (show x.2.length*4<=140737488355328/\x.2.length<=140737488355328 by omega),afm (fT h)];unfold cf;cases x.1<;>simp
theorem HD(x y:BI)(h:okI x/\okI y):CQq7 164 [.d y2Y x,.d y2Y y] [.d y2Y (ai (ae x*ae y))]:=by
 refine fE jS (acY _ _ ⟨0,?_⟩);obtain⟨hx,hy⟩:=h;have lx:=fT hx;have ly:=fT hy;have sx:=hx.2.2;have sy:=hy.2.2;unfold Uq;rw[bK,bK,afm (show aO x.2/\aO y.2 from⟨lx,ly⟩),afm (show aO (dig (x.2.length+y.2.length) (val x.2*val y.2)) from jn (by omega) _),Iy lx.1 ly.1];unfold cf;cases x.1<;>cases y.1<;>simp[Int.neg_mul,ain]
def oO:dK:=spN false false [y2Y,y2Y] (λx=>decide (okI x.1/\okI x.2.1)) (λx=>[RV.d y2Y (ai (ae x.1+ae x.2.1))])
theorem ky:SpK 227 oO:=spX λx h=>RU x.1 x.2.1 (afp h)
def Ft:Env:=(227,oO)::qR
theorem yD:EnvAll Tryz.prog Ft:=⟨ky,jS⟩
def aaY:Ctx:=CX Ft []
def TS(x y:Bool×List Int)(_k:KT):OLR:=match !y.1 with|true=>(og (decide (okI x/\okI (decide ((y.2.length:Int)>0),y.2))) (some [RV.d y2Y (ai (ae x+ae (decide ((y.2.length:Int)>0),y.2)))]))|false=>(og (decide (okI x/\okI (false,y.2))) (some [RV.d y2Y (ai (ae x+ae (false,y.2)))]))
theorem ZH(x y:Bool×List Int):RS aaY 325 [.d y2Y x,.d y2Y y] (TS x y):=rsX
theorem Jw{y:BI}(h:okI y):okI (!y.1&&decide ((y.2.length:Int)>0),y.2)/\ae (!y.1&&decide ((y.2.length:Int)>0),y.2)= -ae y:=by
 refine⟨⟨h.1,λe=>?_,h.2.2⟩,?_⟩
 ·grind
 grind [bK,cf,val,af4]
theorem R9(x y:BI)(h:okI x/\okI y):CQq7 325 [.d y2Y x,.d y2Y y] [.d y2Y (ai (ae x-ae y))]:=by
 refine fE yD (ZH _ _ ⟨0,?_⟩);obtain⟨hx,hy⟩:=h;obtain⟨f1,f2⟩:=Jw hy;rw[Int.sub_eq_add_neg,<-f2];unfold TS;cases ey:y.1
 ·rw[ey]at f1;simp only[Bool.not_false,agc]at f1 ⊢;rw[afm ⟨hx,f1⟩]
 ·rw[ey]at f1;simp only[Bool.not_true,Bool.false_and]at f1 ⊢;rw[afm ⟨hx,f1⟩]
def Mw:dK:=spN false false [y2Y,y2Y] (λx=>decide (okI x.1/\okI x.2.1)) (λx=>[RV.d y2Y (ai (ae x.1-ae x.2.1))])
theorem LC:SpK 325 Mw:=spX λx h=>R9 x.1 x.2.1 (afp h)
def M8:Env:=(325,Mw)::Ft
theorem I9:EnvAll Tryz.prog M8:=⟨LC,yD⟩
def ZT:Ctx:=CX M8 []
def VM(x y:Bool×List Int)(_k:KT):OLR:=let y1:=aO (dvQ x.2 y.2);let y2:=aO (dvR x.2 y.2);let y3:=ai (cf x.1 (val (dvR x.2 y.2)));let y4:=ai (cf (!(x.1==y.1)) (val (dvQ x.2 y.2)));let y5:OLR:=match decide (((y3.2).length:Int)>0)with|true=>(match !((y3.1)==y.1)with|true=>(og (decide (a9 (1:Int))) (og (decide (okI y4/\okI (ai (1:Int)))) (og (decide (okI y3/\okI y)) (dup (.b .l .l) (some [RV.d y2Y (ai (ae y4-ae (ai (1:Int)))),RV.d y2Y (ai (ae y3+ae y)),RV.d aiy 0])))))|false=>dup (.b .l .l) (some [RV.d y2Y y4,RV.d y2Y y3,RV.d aiy 0]))|false=>dup (.b .l .l) (some [RV.d y2Y y4,RV.d y2Y y3,RV.d aiy 0]);let y6:OLR:=match decide y2 with|true=>y5|false=>none;match(y.2.length:Int)==0 with|true=>some [RV.d y2Y (false,[]),RV.d y2Y (false,[]),RV.d aiy 6]|false=>(og (decide (nN x.2 y.2)) (cS (og (decide y1) (cS (og (decide y2) (dup (.b .l .l) y5)) (dup (.b (.b .l .l) (.b .l .l)) y6))) (dup (.b .l .l) (cS (og (decide y1) (dup (.b .l .l) y6)) (og (decide y1) y6)))))
theorem aaJ(x y:Bool×List Int):RS ZT 302 [.d y2Y x,.d y2Y y] (VM x y):=rsX
def eZ(x y:BI):Prop:=okI x/\okI y/\0<ae y
instance (x y:BI):Decidable (eZ x y):=by unfold eZ;infer_instance
theorem Ij{a b:Int}(_ha:0<=a)(hb:0<b):(a%b=0-> -a/b= -(a/b)/\ -a%b=0)/\(0<a%b-> -a/b= -(a/b)-1/\ -a%b= -(a%b)+b):=by
 have h1:=agu a (show b≠0 by omega);have h2:=af1 a hb;have h3:=af8 a b;constructor
 ·intro h;have e: -a=b* -(a/b):=by rw[ain];omega
  constructor
  ·rw[e,ahB _ (by omega)]
  ·rw[e,Int.mul_emod_right]
 ·intro h;have e: -a=(b-a%b)+b*(-(a/b)-1):=by rw[Int.mul_sub,ain,ahX];omega
  constructor
  ·rw[e,aha _ _ (by omega),agz (by omega) (by omega)];omega
  ·rw[e,ahr,ahA (by omega) (by omega)];omega
theorem ph:okI (ai 1):=by decide
theorem A4(n:Bool){v:Int}:szI (cf n v)=szI v:=by unfold cf;cases n<;>simp[iJ]
theorem Gj(x y:BI)(h:eZ x y):CQq7 302 [.d y2Y x,.d y2Y y] [.d y2Y (ai (ae x/ae y)),.d y2Y (ai (ae x%ae y)),.d aiy 0]:=by
 refine fE I9 (aaJ _ _ ⟨0,?_⟩);obtain⟨hx,hy,hp⟩:=h;obtain⟨x0,x1,x2⟩:=cC hx;obtain⟨y0,y1,y2⟩:=cC hy;have sx:=hx.2.2;have sy:=hy.2.2
 have ey:y.1=false:=by
  cases e:y.1
  ·rfl
  ·rw[bK,e]at hp;simp only[cf,cond_true]at hp;omega
 have dy:ae y=val y.2:=by rw[bK,ey];rfl
 rw[dy]at hp;have hdv:nN x.2 y.2:=⟨⟨hx.1.1,by omega⟩,⟨hy.1.1,by omega⟩,hp⟩
 obtain⟨lq,lr,sq,sr,vq,vr⟩:=Tj hdv;have hne:y.2≠[]:=λe=>by rw[y2]at e;omega
 have hylen:=af4.2 hne;have r0:=agu (val x.2) (show val y.2≠0 by omega);have r1:=af1 (val x.2) hp;have q0:0<=val x.2/val y.2:=agp x0 y0;have q1:val x.2/val y.2<=val x.2:=ahg _ x0;have vx:=b8 hx.1.1;have vy:=b8 hy.1.1;have szq:szI (val x.2/val y.2)<=1000000:=eV (by have:=co 1000000;omega) (by have:=c8 sx;omega);have szr:szI (val x.2%val y.2)<=1000000:=eV (by have:=co 1000000;omega) (by have:=c8 sy;omega);unfold VM;simp only[dV]
 rw[show((y.2.length:Int)==0)=false by simp;omega,afm hdv,afm (show aO (dvQ x.2 y.2) from⟨lq,by omega⟩),afm (show aO (dvR x.2 y.2) from⟨lr,by omega⟩),afm (show a9 1 by decide),vq,vr,
  afm (show okI (ai (cf (!(x.1==y.1)) (val x.2/val y.2)))/\okI (ai (1:Int)) from⟨aR (by rw[A4];exact szq),ph⟩),afm (show okI (ai (cf x.1 (val x.2%val y.2)))/\okI y from⟨aR (by rw[A4];exact szr),hy⟩)]
 simp only[dec_enc,dy,cM];have hE1:(ai (cf x.1 (val x.2%val y.2))).1=(x.1&&decide (0<val x.2%val y.2)):=by rw[mj x.1 r0]
 have hE2:(ai (cf x.1 (val x.2%val y.2))).2=ag (val x.2%val y.2).toNat:=by rw[mj x.1 r0]
 rw[hE1,hE2,bK x,ey]
 have hlen:(((ag (val x.2%val y.2).toNat).length:Int)>0)↔0<val x.2%val y.2:=by
  constructor
  ·intro hl;rcases afT 0 (val x.2%val y.2)with h|h
   ·exact h
   ·rw[show(val x.2%val y.2).toNat=0 by omega,fG]at hl;simp at hl
  ·intro hl;have:ag (val x.2%val y.2).toNat≠[]:=λe=>by rw[gO]at e;omega
   have:=af4.2 this;omega
 obtain⟨n1,n2⟩:=Ij (a:=val x.2) (b:=val y.2) x0 hp;rcases afT 0 (val x.2%val y.2)with hr|hr
 ·rw[afm (hlen.2 hr),afm hr];cases x.1
  ·rfl
  ·obtain⟨e1,e2⟩:=n2 hr;simp only[cf,cond_true,Bool.not_false,agc,show((true==false):Bool)=false from rfl];rw[e1,e2]
 ·rw[afo (λh'=>by have:=hlen.1 h';omega)];dsimp only;have e0:val x.2%val y.2=0:=by omega
  cases x.1
  ·simp only[cf,cond_false,show((false==false):Bool)=true from rfl,Bool.not_true]
  ·obtain⟨e1,e2⟩:=n1 e0;simp only[cf,cond_true,show((true==false):Bool)=false from rfl,Bool.not_false];rw[e1,e2,e0];rfl
def kH(x:BI):Bool:=decide (x.2.length<=2)
def yd(x:BI):Int:=bif kH x then val x.2 else 0
def acz:Ctx:=CX [] []
def U8(x:Bool×List Int)(_k:KT):OLR:=match(x.2.length:Int)==0 with|true=>some [RV.d (.int .u64) 0,RV.d .bool true]|false=>(match(x.2.length:Int)==1 with|true=>(match aG x.2 0 with|some x1=>some [RV.d (.int .u64) (u64.wrap x1),RV.d .bool true]|none=>none)|false=>(match(x.2.length:Int)==2 with|true=>(match aG x.2 1 with|some x2=>(match aG x.2 0 with|some x3=>some [RV.d (.int .u64) (u64.wrap ((u64.wrap ((u64.wrap x2)*1000000000))+(u64.wrap x3))),RV.d .bool true]|none=>none)|none=>none)|false=>some [RV.d (.int .u64) 0,RV.d .bool false]))
theorem acv(x:Bool×List Int):RS acz 300 [.d y2Y x] (U8 x):=rsX
theorem PD(x:BI)(h:okI x):CQq7 300 [.d y2Y x] [.d (.int .u64) (yd x),.d .bool (kH x)]:=by
 refine fE (E:=[]) trivial (acv _ ⟨0,?_⟩);obtain⟨neg,l⟩:=x;have hl:=h.1.1;unfold U8 yd kH;match l,hl with
 |[],_=>rfl
 |[a],hl=>
  have:=hl.head;simp only[afH,zr,agb];rw[a8 (x:=a) (by omega) (by omega)];simp[val]
 |[a,b],hl=>
  have h1:=hl.head;have h2:=hl.tail.head;have e1:aG [a,b] 1=some b:=rfl;have e0:aG [a,b] 0=some a:=rfl;simp only[e1,e0,afD,ahC];rw[a8 (x:=a) (by omega) (by omega),a8 (x:=b) (by omega) (by omega),a8 (x:=b*1000000000) (by omega) (by omega),a8 (x:=b*1000000000+a) (by omega) (by omega)];rw[show val [a,b]=b*1000000000+a by simp only[val];omega];rfl
 |a::b::c::l,hl=>
  have e:decide ((a::b::c::l).length<=2)=false:=afo (by simp);rw[e,show(((a::b::c::l).length:Int)==0)=false by simp;omega,show(((a::b::c::l).length:Int)==1)=false by simp;omega,show(((a::b::c::l).length:Int)==2)=false by simp;omega];rfl
def Kq:dK:=spN false false [y2Y] (λx=>decide (okI x.1)) (λx=>[RV.d (.int .u64) (yd x.1),RV.d .bool (kH x.1)])
theorem Nr:SpK 300 Kq:=spX λx h=>PD x.1 (afp h)
def Kg:Env:=[(248,xZ),(287,Bl),(301,EL),(300,Kq)]
theorem IM:EnvAll Tryz.prog Kg:=⟨sO,xD,CI,Nr,trivial⟩
def Ze:NT:=[((250,6),{keep:=[4,5,6],hl:=5}),((250,24),{keep:=[4,7,9],hl:=3})]
def ii:Ctx:=CX Kg Ze
def lA(x y:Bool×List Int)(b3_0:Bool)(b3_1:List Int)(b4_0:Bool)(b4_1:List Int):Cfg:=⟨250,[.blk 0,.seq 40],[(4,.box 2 0),(5,.box 3 0),(6,.box 4 0)],[.box 29 [SB x.1,.d aix x.2],.box 29 [SB y.1,.d aix y.2],.box 29 [SB false,.nil],.box 29 [SB b3_0,.d aix b3_1],.box 29 [SB b4_0,.d aix b4_1]],0,[]⟩
def gj(x y:Bool×List Int)(b3_0:Bool)(b3_1:List Int)(b4_0:Bool)(b4_1:List Int):Cfg:=⟨250,[.blk 0,.seq 40],[(4,.box 2 0),(5,.box 4 0),(6,.box 3 0)],[.box 29 [SB x.1,.d aix x.2],.box 29 [SB y.1,.d aix y.2],.box 29 [SB false,.nil],.box 29 [SB b3_0,.d aix b3_1],.box 29 [SB b4_0,.d aix b4_1]],0,[]⟩
def iI(x y:Bool×List Int)(s7 s9:Int):Cfg:=⟨250,[.blk 2,.seq 33,.seq 37,.blk 1,.lp 6,.blk 0,.seq 40],[(4,.box 2 0),(7,.d (.int .u64) s7),(9,.d (.int .u64) s9)],[.box 29 [SB x.1,.d aix x.2],.box 29 [SB y.1,.d aix y.2],.box 29 [SB false,.nil]],0,[]⟩
def VR(x y:Bool×List Int)(k:KT):OLR:=let y1:=ai (cf false (val x.2));let y2:=ai (cf false (val y.2));let y3:=lA x y (y1.1) (y1.2) (y2.1) (y2.2);let y4:=gj x y (y2.1) (y2.2) (y1.1) (y1.2);let y5:OLR:=match decide (aO y.2)with|true=>k 6 y3|false=>none;let y6:OLR:=match decide (aO y.2)with|true=>k 6 y4|false=>none;cS (og (decide (aO x.2)) (cS (og (decide (aO y.2)) (cS (k 6 y3) (k 6 y4))) (cS (dup (.b .l .l) y5) (dup (.b .l .l) y6)))) (cS (cS (og (decide (aO x.2)) (dup (.b .l .l) y5)) (og (decide (aO x.2)) y5)) (cS (og (decide (aO x.2)) (dup (.b .l .l) y6)) (og (decide (aO x.2)) y6)))
theorem adj(x y:Bool×List Int):RS ii 250 [.d y2Y x,.d y2Y y] (VR x y):=rsX
def K4(x y:Bool×List Int)(b3_0:Bool)(b3_1:List Int)(b4_0:Bool)(b4_1:List Int)(k:KT):OLR:=match decide ((b4_1.length:Int)>0)with|true=>(og (decide (okI (b3_0,b3_1))) (og (decide (okI (b4_0,b4_1))) (match kH (b3_0,b3_1)with|true=>(match kH (b4_0,b4_1)with|true=>k 24 (iI x y (yd (b3_0,b3_1)) (yd (b4_0,b4_1)))|false=>(og (decide (nN b3_1 b4_1)) (og (decide (aO (dvR b3_1 b4_1))) (k 6 (lA x y b4_0 b4_1 ((ai (cf false (val (dvR b3_1 b4_1)))).1) ((ai (cf false (val (dvR b3_1 b4_1)))).2))))))|false=>(og (decide (nN b3_1 b4_1)) (og (decide (aO (dvR b3_1 b4_1))) (k 6 (lA x y b4_0 b4_1 ((ai (cf false (val (dvR b3_1 b4_1)))).1) ((ai (cf false (val (dvR b3_1 b4_1)))).2))))))))|false=>(og (decide (b3_1.length*4<=140737488355328/\b3_1.length<=140737488355328)) (og (decide (aO b3_1)) (some [RV.d y2Y (ai (cf false (val b3_1)))])))
theorem OX(x y:Bool×List Int)(b3_0:Bool)(b3_1:List Int)(b4_0:Bool)(b4_1:List Int):RL ii 6 (lA x y b3_0 b3_1 b4_0 b4_1) (K4 x y b3_0 b3_1 b4_0 b4_1):=rlX
def Fa(x y:Bool×List Int)(b3_0:Bool)(b3_1:List Int)(b4_0:Bool)(b4_1:List Int)(k:KT):OLR:=match decide ((b3_1.length:Int)>0)with|true=>(og (decide (okI (b4_0,b4_1))) (og (decide (okI (b3_0,b3_1))) (match kH (b4_0,b4_1)with|true=>(match kH (b3_0,b3_1)with|true=>k 24 (iI x y (yd (b4_0,b4_1)) (yd (b3_0,b3_1)))|false=>(og (decide (nN b4_1 b3_1)) (og (decide (aO (dvR b4_1 b3_1))) (k 6 (gj x y ((ai (cf false (val (dvR b4_1 b3_1)))).1) ((ai (cf false (val (dvR b4_1 b3_1)))).2) b3_0 b3_1)))))|false=>(og (decide (nN b4_1 b3_1)) (og (decide (aO (dvR b4_1 b3_1))) (k 6 (gj x y ((ai (cf false (val (dvR b4_1 b3_1)))).1) ((ai (cf false (val (dvR b4_1 b3_1)))).2) b3_0 b3_1)))))))|false=>(og (decide (b4_1.length*4<=140737488355328/\b4_1.length<=140737488355328)) (og (decide (aO b4_1)) (some [RV.d y2Y (ai (cf false (val b4_1)))])))
theorem EU(x y:Bool×List Int)(b3_0:Bool)(b3_1:List Int)(b4_0:Bool)(b4_1:List Int):RL ii 6 (gj x y b3_0 b3_1 b4_0 b4_1) (Fa x y b3_0 b3_1 b4_0 b4_1):=rlX
def tW(x y:Bool×List Int)(s7 s9:Int)(k:KT):OLR:=match decide (s9>0)with|true=>(match decide (s9=(0:Int))with|true=>none|false=>k 24 (iI x y s9 (Int.tmod s7 s9)))|false=>(og (decide (im s7)) (og (decide (aO (dig 3 s7))) (some [RV.d y2Y (ai (cf false (val (dig 3 s7))))])))
theorem yX(x y:Bool×List Int)(s7 s9:Int):RL ii 24 (iI x y s7 s9) (tW x y s7 s9):=rlX
theorem Nm(x y:BI)(B:Nat)(hB:(B:Int)<18446744073709551616):∀(v u:Nat),u<=B->v<=B->ii.RunsE 24 (iI x y (u:Int) (v:Int)) [.d y2Y (ai ((Nat.gcd u v:Nat):Int))]:=by
 intro v;induction v using Nat.strongRecOn with
 |ind v ih=>
  intro u hu hv;rcases age v with h0|h0
  ·refine yX _ _ _ _ ⟨0,λn _=>?_⟩;have hp:im (u:Int):=⟨by omega,by omega⟩
   unfold tW;rw[afo (show ¬(v:Int)>0 by omega),afm hp,afm (jn (n:=3) (by decide) (u:Int)),wN hp,show Nat.gcd u v=u by rw[h0];exact Nat.gcd_zero_right u];rfl
  ·obtain⟨n0,hn⟩:=ih (u%v) (aif _ h0) v hv (afA (Nat.le_of_lt (aif _ h0)) hv);refine yX _ _ _ _ ⟨n0,λn hn'=>?_⟩;unfold tW;rw[afm (by omega),afo (by omega),jl (by omega)];dsimp only;rw[show((u:Int)%(v:Int))=((u%v:Nat):Int) by simp,ahu u v,Nat.gcd_rec v u,ahu];exact hn n hn'
theorem yS(v:Int):cf false v=v:=rfl
theorem iK(u:Nat):ai (u:Int)=(false,ag u):=rfl
theorem zB{u:Nat}(h:(ag u).length<=2):u<=(pw 2).toNat:=by
 have h1:=b8 (cd u);rw[aZ]at h1;have h2:=c8 h;omega
theorem Zh:(((pw 2).toNat:Nat):Int)<18446744073709551616:=by decide
theorem C1{k:Nat->Cfg->OLR}{u v:Nat}(hu:szI u<=1000000)(hv:szI v<=1000000){r:List RV}{H:Int->Int->Cfg}{D:Int->Cfg}
  (h1:v=0->r=[.d y2Y (ai (u:Int))]) (h2:v≠0->kH (ai (u:Int))=true->kH (ai (v:Int))=true->k 24 (H (u:Int) (v:Int))=some r) (h3:v≠0->k 6 (D ((u%v:Nat):Int))=some r) (D':List Int->Cfg) (hD:D' (dvR (ag u) (ag v))=D (val (dvR (ag u) (ag v)))):
  (match decide (((ag v).length:Int)>0)with
   |true=>(match decide (okI (ai (u:Int)))with
    |true=>(match decide (okI (ai (v:Int)))with
     |true=>(match kH (ai (u:Int))with
      |true=>(match kH (ai (v:Int))with
       |true=>k 24 (H (yd (ai (u:Int))) (yd (ai (v:Int))))
       |false=>(match decide (nN (ag u) (ag v))with
        |true=>(match decide (aO (dvR (ag u) (ag v)))with
         |true=>k 6 (D' (dvR (ag u) (ag v)))
         |false=>none)
        |false=>none))
      |false=>(match decide (nN (ag u) (ag v))with
        |true=>(match decide (aO (dvR (ag u) (ag v)))with
         |true=>k 6 (D' (dvR (ag u) (ag v)))
         |false=>none)
        |false=>none))
     |false=>none)
    |false=>none)
   |false=>(match decide ((ag u).length*4<=140737488355328/\(ag u).length<=140737488355328)with
    |true=>(match decide (aO (ag u))with
     |true=>some [.d y2Y (ai (cf false (val (ag u))))]
     |false=>none)
    |false=>none))=some r:=by
 have lu:(ag u).length<=1000000:=by have:=hu;unfold szI at this;rwa [agU]at this
 have lv:(ag v).length<=1000000:=by have:=hv;unfold szI at this;rwa [agU]at this
 rcases age v with h0|h0
 ·subst h0;rw[h1 rfl,show decide (((ag 0).length:Int)>0)=false from rfl,afm (show(ag u).length*4<=140737488355328/\(ag u).length<=140737488355328 by omega),afm (show aO (ag u) from⟨cd u,by omega⟩),aZ];rfl
 ·have hne:ag v≠[]:=λe=>by rw[gO]at e;omega
  have hl:=af4.2 hne;have hvv:=aZ v;have hvu:=aZ u;have hdv:nN (ag u) (ag v):=⟨⟨cd u,by omega⟩,⟨cd v,by omega⟩,by omega⟩
  obtain⟨_,lr,_,sr,_,vr⟩:=Tj hdv
  have hD2:k 6 (D' (dvR (ag u) (ag v)))=some r:=by
   rw[hD,vr,hvv,hvu];exact h3 (by omega)
  rw[afm (by omega),afm (aR hu),afm (aR hv),afm hdv,afm (show aO (dvR (ag u) (ag v)) from⟨lr,by omega⟩)];dsimp only;cases hb1:kH (ai (u:Int))
  ·exact hD2
  ·cases hb2:kH (ai (v:Int))
   ·exact hD2
   ·dsimp only;have:=h2 (by omega) hb1 hb2;unfold yd;rw[hb1,hb2];simp only[cond_true,iK];rw[hvv,hvu];exact this
theorem Og(x y:BI):∀(v u:Nat),szI u<=1000000->szI v<=1000000->
  ii.RunsE 6 (lA x y false (ag u) false (ag v)) [.d y2Y (ai ((Nat.gcd u v:Nat):Int))]/\ii.RunsE 6 (gj x y false (ag v) false (ag u)) [.d y2Y (ai ((Nat.gcd u v:Nat):Int))]:=by
 intro v;induction v using Nat.strongRecOn with
 |ind v ih=>
  intro u hu hv
  have hw:kH (ai (u:Int))=true->kH (ai (v:Int))=true->ii.RunsE 24 (iI x y (u:Int) (v:Int)) [.d y2Y (ai ((Nat.gcd u v:Nat):Int))]:=λh1 h2=>by
   unfold kH at h1 h2;rw[iK]at h1 h2;exact Nm x y _ Zh v u (zB (afp h1)) (zB (afp h2))
  have hd:v≠0->ii.RunsE 6 (lA x y false (ag v) false (ag (u%v))) [.d y2Y (ai ((Nat.gcd u v:Nat):Int))]/\ii.RunsE 6 (gj x y false (ag (u%v)) false (ag v)) [.d y2Y (ai ((Nat.gcd u v:Nat):Int))]:=λh0=>by
   have hm:=aif u (Nat.pos_of_ne_zero h0);have:=ih (u%v) hm v hv (afA (dg (by omega)) hv);rw[ahu u v,Nat.gcd_rec v u,ahu (u%v) v];exact this
  have hcommon:∃n0,∀n,n0<=n->(kH (ai (u:Int))=true->kH (ai (v:Int))=true->ii.k n 24 (iI x y (u:Int) (v:Int))=some [.d y2Y (ai ((Nat.gcd u v:Nat):Int))])/\(v≠0->ii.k n 6 (lA x y false (ag v) false (ag (u%v)))=some [.d y2Y (ai ((Nat.gcd u v:Nat):Int))]/\ii.k n 6 (gj x y false (ag (u%v)) false (ag v))=some [.d y2Y (ai ((Nat.gcd u v:Nat):Int))]):=by
   have g1:∃n1,∀n,n1<=n->(kH (ai (u:Int))=true->kH (ai (v:Int))=true->ii.k n 24 (iI x y (u:Int) (v:Int))=some [.d y2Y (ai ((Nat.gcd u v:Nat):Int))]):=by
    by_cases hb:kH (ai (u:Int))=true/\kH (ai (v:Int))=true
    ·obtain⟨n,h⟩:=hw hb.1 hb.2;exact⟨n,λm hm _ _=>h m hm⟩
    ·exact⟨0,λn _ h1 h2=>absurd ⟨h1,h2⟩ hb⟩
   have g2:∃n1,∀n,n1<=n->(v≠0->ii.k n 6 (lA x y false (ag v) false (ag (u%v)))=some [.d y2Y (ai ((Nat.gcd u v:Nat):Int))]/\ii.k n 6 (gj x y false (ag (u%v)) false (ag v))=some [.d y2Y (ai ((Nat.gcd u v:Nat):Int))]):=by
    by_cases hb:v=0
    ·exact⟨0,λn _ h=>absurd hb h⟩
    ·obtain⟨⟨n1,h1⟩,⟨n2,h2⟩⟩:=hd hb;exact⟨max n1 n2,λn hn _=>⟨h1 n (by omega),h2 n (by omega)⟩⟩
   obtain⟨n1,h1⟩:=g1;obtain⟨n2,h2⟩:=g2;exact⟨max n1 n2,λn hn=>⟨h1 n (by omega),h2 n (by omega)⟩⟩
  obtain⟨n0,hc⟩:=hcommon;have hz:v=0->([.d y2Y (ai ((Nat.gcd u v:Nat):Int))]:List RV)=[.d y2Y (ai (u:Int))]:=λe=>by subst e;rw[Nat.gcd_zero_right]
  constructor
  ·refine OX _ _ _ _ _ _ ⟨n0,λn hn=>?_⟩;have:=C1 (k:=ii.k n) hu hv (H:=λa b=>iI x y a b) (D:=λz=>lA x y false (ag v) (ai z).1 (ai z).2) hz (λ_ h1 h2=>(hc n hn).1 h1 h2) (λh0=>by rw[iK];exact((hc n hn).2 h0).1) (λl=>lA x y false (ag v) (ai (cf false (val l))).1 (ai (cf false (val l))).2) rfl;rw[iK,iK]at this;exact this
  ·refine EU _ _ _ _ _ _ ⟨n0,λn hn=>?_⟩;have:=C1 (k:=ii.k n) hu hv (H:=λa b=>iI x y a b) (D:=λz=>gj x y (ai z).1 (ai z).2 false (ag v)) hz (λ_ h1 h2=>(hc n hn).1 h1 h2) (λh0=>by rw[iK];exact((hc n hn).2 h0).2) (λl=>gj x y (ai (cf false (val l))).1 (ai (cf false (val l))).2 false (ag v)) rfl;rw[iK,iK]at this;exact this
theorem QR(x y:BI)(h:okI x/\okI y):CQq7 250 [.d y2Y x,.d y2Y y] [.d y2Y (ai ((Int.gcd (ae x) (ae y):Nat):Int))]:=by
 refine fE IM (show ii.Res _ _ _ from ?_);obtain⟨hx,hy⟩:=h;obtain⟨x0,_,_⟩:=cC hx;obtain⟨y0,_,_⟩:=cC hy;have ex:((ae x).natAbs:Int)=val x.2:=by rw[bK];unfold cf;cases x.1<;>simp<;>omega
 have ey:((ae y).natAbs:Int)=val y.2:=by rw[bK];unfold cf;cases y.1<;>simp<;>omega
 have szx:szI ((ae x).natAbs:Int)<=1000000:=afA (dg (by omega)) (ir hx);have szy:szI ((ae y).natAbs:Int)<=1000000:=afA (dg (by omega)) (ir hy);obtain⟨⟨n1,h1⟩,⟨n2,h2⟩⟩:=Og x y (ae y).natAbs (ae x).natAbs szx szy;refine adj _ _ ⟨max n1 n2,?_⟩;have h1:=h1 (max n1 n2) (by omega);have h2:=h2 (max n1 n2) (by omega);unfold VR;simp only[dV];rw[afm (fT hx),afm (fT hy),yS,yS,<-ex,<-ey,iK,iK];dsimp only;rw[h1,h2];simp only[cM];rfl
abbrev BR:=BI×BI
def ao(q:Rat):BR:=(ai q.num,ai (q.den:Int))
def ah(x:BR):Rat:=mkRat (ae x.1) (ae x.2).toNat
theorem fB(q:Rat):ah (ao q)=q:=by simp[ah,ao,dec_enc]
def okR(x:BR):Prop:=okI x.1/\okI x.2/\0<ae x.2/\Int.gcd (ae x.1) (ae x.2)=1/\x.1.2.length<=480000/\x.2.2.length<=480000
instance (x:BR):Decidable (okR x):=by unfold okR;infer_instance
def o1(x:BR):Bool:=decide (okR x)
def o2(x y:BR):Bool:=decide (okR x/\okR y)
theorem adK(x:BR):o1 x=decide (okR x):=rfl
theorem abw(x y:BR):o2 x y=(decide (okR x)&&decide (okR y)):=ahp _ _
theorem cK{x:BR}(h:okR x):(ah x).num=ae x.1/\((ah x).den:Int)=ae x.2:=by
 obtain⟨h1,h2,h3,h4,_⟩:=h;unfold ah;rw[aij,aik]
 have hg:(ae x.2).toNat.gcd (ae x.1).natAbs=1:=by
  rwa [ahu,show(ae x.2).toNat=(ae x.2).natAbs by omega]
 grind
theorem Me{x:BR}(h:okR x):x=ao (ah x):=by
 obtain⟨e1,e2⟩:=cK h;unfold ao;rw[e1,e2,<-ic h.1,<-ic h.2.1]
def bdR(k:Nat)(q:Rat):Prop:=szI q.num<=k/\szI (q.den:Int)<=k
theorem oZ{q:Rat}{k:Nat}(h:bdR k q)(hk:k<=480000):okR (ao q):=by
 obtain⟨h1,h2⟩:=h;have hd:=q.den_pos;refine⟨aR (by omega),aR (by omega),?_,?_,by show szI q.num<=480000;omega,by show szI (q.den:Int)<=480000;omega⟩
 ·show 0<ae (ai (q.den:Int));grind [dec_enc]
 ·show Int.gcd (ae (ai q.num)) (ae (ai (q.den:Int)))=1;rw[dec_enc,dec_enc];exact q.reduced
theorem As{x:BR}(h:okR x):bdR 480000 (ah x):=by
 obtain⟨e1,e2⟩:=cK h;obtain⟨h1,h2,_,_,h5,h6⟩:=h;unfold bdR szI;rw[e1,e2];rw[ic h1]at h5;rw[ic h2]at h6;exact⟨h5,h6⟩
theorem cj{j k:Nat}{q:Rat}(h:bdR j q)(hk:j<=k):bdR k q:=⟨afA h.1 hk,afA h.2 hk⟩
theorem GW(a:Int)(g:Nat):(a/(g:Int)).natAbs<=a.natAbs\/¬(g:Int)∣a:=by
 by_cases h:(g:Int)∣a
 ·obtain⟨k,rfl⟩:=h;rcases age g with h0|h0
  ·grind
  ·rw[ahB _ (by omega),aia];simp_all [Nat.le_mul_of_pos_left]
 grind
theorem uw{n:Int}{d k:Nat}(hd:d≠0)(h1:szI n<=k)(h2:szI (d:Int)<=k):bdR k (mkRat n d):=by
 unfold bdR;rw[aij,aik,afQ hd,afQ hd];constructor
 ·refine afA (dg ?_) h1;grind [GW,Nat.gcd_dvd_right,Int.ofNat_dvd_left]
 ·exact afA (dg (by rw[agU,agU];exact Nat.div_le_self _ _)) h2
theorem vu{k:Nat}{a:Rat}(h:bdR k a):bdR k (-a):=by
 refine⟨?_,h.2⟩;rw[Rat.neg_num,iJ];exact h.1
theorem Ic{j k:Nat}{a b:Rat}(ha:bdR j a)(hb:bdR k b):bdR (j+k+1) (a+b):=by
 rw[Rat.add_def'];have d1:=a.den_pos;have d2:=b.den_pos;refine uw (ahZ (by omega) (by omega)) (u5 (cJ ha.1 hb.2) ?_) ?_
 ·rw[Nat.add_comm];exact cJ hb.1 ha.2
 ·rw[agR];exact afA (cJ ha.2 hb.2) (by omega)
theorem P7{j k:Nat}{a b:Rat}(ha:bdR j a)(hb:bdR k b):bdR (j+k+1) (a-b):=by grind [ahO,Ic,vu]
theorem Hh{j k:Nat}{a b:Rat}(ha:bdR j a)(hb:bdR k b):bdR (j+k) (a*b):=by
 rw[Rat.mul_def'];have d1:=a.den_pos;have d2:=b.den_pos;refine uw (ahZ (by omega) (by omega)) (cJ ha.1 hb.1) ?_;exact cJ ha.2 hb.2
theorem RJ{k:Nat}{a:Rat}(h:bdR k a)(h0:a≠0):bdR k a⁻¹:=by
 have hn:a.num≠0:=λe=>h0 (Rat.num_eq_zero.1 e);rw[Rat.inv_def];rcases ahe hn with h1|h1
 ·rw[<-Rat.neg_divInt_neg,show-a.num=(((-a.num).toNat:Nat):Int) by omega,ahI];refine uw (by omega) (by rw[iJ];exact h.2) ?_;rw[show(((-a.num).toNat:Nat):Int)= -a.num by omega,iJ];exact h.1
 ·rw[show a.num=((a.num.toNat:Nat):Int) by omega,ahI];refine uw (by omega) h.2 ?_;rw[show((a.num.toNat:Nat):Int)=a.num by omega];exact h.1
theorem Ql{j k:Nat}{a b:Rat}(ha:bdR j a)(hb:bdR k b)(h0:b≠0):bdR (j+k) (a/b):=by grind [Hh,RJ]
def eW(x y:BI):BR:=ao (Rat.divInt (ae x) (ae y))
def jx(x y:BI):Prop:=okI x/\okI y/\ae y≠0
instance (x y:BI):Decidable (jx x y):=by unfold jx;infer_instance
theorem mE{n d:Int}(hd:0<d):ao (Rat.divInt n d)=(ai (n/(Int.gcd n d:Int)),ai (d/(Int.gcd n d:Int))):=by
 obtain⟨D,rfl⟩:=agw (af0 hd);unfold ao;rw[ahI,aij,aik,afQ (by omega),afQ (by omega)];have e:Int.gcd n (D:Int)=D.gcd n.natAbs:=by rw[ahu];rfl
 grind
def ti:dK:=spN true false [y2Y] (λx=>decide (okI x.1)) (λx=>[RV.d aiy (cq (ae x.1) 0)])
theorem nS:SpK 117 ti:=spX λx h=>PG x.1 (afp h)
def qU:dK:=spN true false [y2Y,y2Y] (λx=>decide (okI x.1/\okI x.2.1)) (λx=>[RV.d aiy (cq (ae x.1) (ae x.2.1))])
theorem lV:SpK 163 qU:=spX λx h=>Gg x.1 x.2.1 (afp h)
def uk:dK:=spN false false [y2Y] (λx=>decide (okI x.1)) (λx=>[RV.d y2Y (ai (-ae x.1))])
theorem ou:SpK 228 uk:=spX λx h=>HN x.1 (afp h)
def un:dK:=spN false false [y2Y,y2Y] (λx=>decide (okI x.1/\okI x.2.1)) (λx=>[RV.d y2Y (ai (ae x.1*ae x.2.1))])
theorem nP:SpK 164 un:=spX λx h=>HD x.1 x.2.1 (afp h)
def A0:dK:=spN false false [y2Y,y2Y] (λx=>decide (eZ x.1 x.2.1)) (λx=>[RV.d y2Y (ai (ae x.1/ae x.2.1)),RV.d y2Y (ai (ae x.1%ae x.2.1)),RV.d aiy 0])
theorem wP:SpK 302 A0:=spX λx h=>Gj x.1 x.2.1 (afp h)
def EP:dK:=spN false false [y2Y,y2Y] (λx=>decide (okI x.1/\okI x.2.1)) (λx=>[RV.d y2Y (ai ((Int.gcd (ae x.1) (ae x.2.1):Nat):Int))])
theorem BC:SpK 250 EP:=spX λx h=>QR x.1 x.2.1 (afp h)
def Eo:Env:=[(223,nM),(117,ti),(163,qU),(227,oO),(228,uk),(164,un),(302,A0),(250,EP)]
theorem zv:EnvAll Tryz.prog Eo:=⟨kq,nS,lV,ky,ou,nP,wP,BC,trivial⟩
def adb:Ctx:=CX Eo []
def UN(_k:KT):OLR:=og (decide (a9 (1:Int))) (some [RV.d y2Y (ai (1:Int))])
theorem aa5:RS adb 251 [] (UN):=rsX
def abq:Ctx:=CX Eo []
def TE(x y:Bool×List Int)(_k:KT):OLR:=og (decide (eZ x y)) (some [RV.d y2Y (ai (ae x/ae y))])
theorem Z1(x y:Bool×List Int):RS abq 252 [.d y2Y x,.d y2Y y] (TE x y):=rsX
theorem Sg:CQq7 251 [] [.d y2Y (ai 1)]:=by
 refine fE zv (aa5 ⟨0,?_⟩);unfold UN;rw[afm (show a9 1 by decide)]
theorem Sf(x y:BI)(h:eZ x y):CQq7 252 [.d y2Y x,.d y2Y y] [.d y2Y (ai (ae x/ae y))]:=by
 refine fE zv (Z1 _ _ ⟨0,?_⟩);unfold TE;rw[afm h]
def wy:dK:=spN false false [] (λ_=>true) (λ_=>[RV.d y2Y (ai 1)])
theorem sf:SpK 251 wy:=spX λ_ _=>Sg
def Pv:dK:=spN false false [y2Y,y2Y] (λx=>decide (eZ x.1 x.2.1)) (λx=>[RV.d y2Y (ai (ae x.1/ae x.2.1))])
theorem Oh:SpK 252 Pv:=spX λx h=>Sf x.1 x.2.1 (afp h)
def OF:Env:=[(223,nM),(117,ti),(163,qU),(227,oO),(228,uk),(164,un),(302,A0),(250,EP),(251,wy),(252,Pv)]
theorem IO:EnvAll Tryz.prog OF:=⟨kq,nS,lV,ky,ou,nP,wP,BC,sf,Oh,trivial⟩
def abY:Ctx:=CX OF []
def ST(x y:Bool×List Int)(_k:KT):OLR:=match decide (okI y)with|true=>(match decide ((cq (ae y) 0)<0)with|true=>(match decide (okI x)with|true=>(match decide (okI y)with|true=>(match decide (okI (ai (-ae x))/\okI (ai (-ae y)))with|true=>(match decide (okI (ai ((Int.gcd (ae (ai (-ae x))) (ae (ai (-ae y))):Nat):Int))/\okI (ai 1))with|true=>(match(cq (ae (ai ((Int.gcd (ae (ai (-ae x))) (ae (ai (-ae y))):Nat):Int))) (ae (ai 1))) !=0 with|true=>(match decide (eZ (ai (-ae x)) (ai ((Int.gcd (ae (ai (-ae x))) (ae (ai (-ae y))):Nat):Int)))with|true=>(match decide (eZ (ai (-ae y)) (ai ((Int.gcd (ae (ai (-ae x))) (ae (ai (-ae y))):Nat):Int)))with|true=>some [RV.d (.st (.pair y2Y y2Y)) ((ai (ae (ai (-ae x))/ae (ai ((Int.gcd (ae (ai (-ae x))) (ae (ai (-ae y))):Nat):Int)))),(ai (ae (ai (-ae y))/ae (ai ((Int.gcd (ae (ai (-ae x))) (ae (ai (-ae y))):Nat):Int)))))]|false=>none)|false=>none)|false=>some [RV.d (.st (.pair y2Y y2Y)) ((ai (-ae x)),(ai (-ae y)))])|false=>none)|false=>none)|false=>none)|false=>none)|false=>(match decide (okI x/\okI y)with|true=>(match decide (okI (ai ((Int.gcd (ae x) (ae y):Nat):Int))/\okI (ai 1))with|true=>(match(cq (ae (ai ((Int.gcd (ae x) (ae y):Nat):Int))) (ae (ai 1))) !=0 with|true=>(match decide (eZ x (ai ((Int.gcd (ae x) (ae y):Nat):Int)))with|true=>(match decide (eZ y (ai ((Int.gcd (ae x) (ae y):Nat):Int)))with|true=>some [RV.d (.st (.pair y2Y y2Y)) ((ai (ae x/ae (ai ((Int.gcd (ae x) (ae y):Nat):Int)))),(ai (ae y/ae (ai ((Int.gcd (ae x) (ae y):Nat):Int)))))]|false=>none)|false=>none)|false=>some [RV.d (.st (.pair y2Y y2Y)) (x,y)])|false=>none)|false=>none))|false=>none
theorem abH(x y:Bool×List Int):RS abY 165 [.d y2Y x,.d y2Y y] (ST x y):=rsX
theorem JP{a b:Int}(hb:b≠0){k:Nat}(h:szI b<=k):szI ((Int.gcd a b:Nat):Int)<=k:=by
 refine afA (dg ?_) h;exact Nat.le_of_dvd (by omega) (Nat.gcd_dvd_right a.natAbs b.natAbs)
theorem Qw(x y:BI)(h:jx x y):CQq7 165 [.d y2Y x,.d y2Y y] [.d (.st (.pair y2Y y2Y)) (eW x y)]:=by
 refine fE IO (abH _ _ ⟨0,?_⟩);obtain⟨hx,hy,hne⟩:=h;have sx:=ir hx;have sy:=ir hy;have hgp:0<Int.gcd (ae x) (ae y):=Nat.pos_of_ne_zero λe=>hne (Int.gcd_eq_zero_iff.1 e).2;have hgs:=JP (a:=ae x) hne sy;unfold ST eW;rw[afm hy];dsimp only;rcases ahe hne with hn|hn
 ·rw[cW hn,afm (show(-1:Int)<0 by decide),afm hx];have o1:okI (ai (-ae x)):=aR (by rw[iJ];exact sx);have o2:okI (ai (-ae y)):=aR (by rw[iJ];exact sy);simp only[dec_enc,Int.gcd_neg,Int.neg_gcd];have og:okI (ai ((Int.gcd (ae x) (ae y):Nat):Int)):=aR hgs;rw[afm (show okI (ai (-ae x))/\okI (ai (-ae y)) from⟨o1,o2⟩),afm (show okI (ai ((Int.gcd (ae x) (ae y):Nat):Int))/\okI (ai 1) from⟨og,ph⟩)];rw[<-Rat.neg_divInt_neg,mE (by omega),Int.gcd_neg,Int.neg_gcd];dsimp only;by_cases h1:Int.gcd (ae x) (ae y)=1
  ·rw[h1];simp[dO]
  ·have hc:(cq ((Int.gcd (ae x) (ae y):Nat):Int) 1 !=0)=true:=by
    rw[cH (by omega)];rfl
   rw[hc,afm (show eZ (ai (-ae x)) (ai ((Int.gcd (ae x) (ae y):Nat):Int)) from⟨o1,og,by rw[dec_enc];omega⟩),afm (show eZ (ai (-ae y)) (ai ((Int.gcd (ae x) (ae y):Nat):Int)) from⟨o2,og,by rw[dec_enc];omega⟩)]
 ·rw[cH hn,afo (show ¬(1:Int)<0 by decide)];simp only[dec_enc];have og:okI (ai ((Int.gcd (ae x) (ae y):Nat):Int)):=aR hgs;rw[afm (show okI x/\okI y from⟨hx,hy⟩),afm (show okI (ai ((Int.gcd (ae x) (ae y):Nat):Int))/\okI (ai 1) from⟨og,ph⟩),mE hn];dsimp only;by_cases h1:Int.gcd (ae x) (ae y)=1
  ·rw[h1];simp only[Int.natCast_one,dO,Int.ediv_one,<-ic hx,<-ic hy];rfl
  ·have hc:(cq ((Int.gcd (ae x) (ae y):Nat):Int) 1 !=0)=true:=by
    rw[cH (by omega)];rfl
   rw[hc,afm (show eZ x (ai ((Int.gcd (ae x) (ae y):Nat):Int)) from⟨hx,og,by rw[dec_enc];omega⟩),afm (show eZ y (ai ((Int.gcd (ae x) (ae y):Nat):Int)) from⟨hy,og,by rw[dec_enc];omega⟩)]
def aE(a b:Rat):Int:=bif decide (a<b)then-1 else bif decide (b<a)then 1 else 0
theorem dD{a b:Rat}(h:a<b):aE a b= -1:=by grind [aE]
theorem dq{a b:Rat}(h:b<a):aE a b=1:=by grind [aE]
theorem dP(a:Rat):aE a a=0:=by simp[aE]
theorem xf(a b:Rat):cq (a.num*(b.den:Int)) (b.num*(a.den:Int))=aE a b:=by simp[cq,aE,Rat.lt_iff]
theorem uy(a:Rat):cq a.num 0=aE a 0:=by
 rw[<-xf];simp
def AT:dK:=spN false false [y2Y,y2Y] (λx=>decide (jx x.1 x.2.1)) (λx=>[RV.d (.st (.pair y2Y y2Y)) (eW x.1 x.2.1)])
theorem wG:SpK 165 AT:=spX λx h=>Qw x.1 x.2.1 (afp h)
def Xm:NT:=[((162,3),{keep:=[0,1,8],hl:=0}),((162,5),{keep:=[0,1,5,10],hl:=0})]
def adE:Ctx:=CX [] Xm
def SC(x y:Int)(_k:KT):OLR:=match x !=x with|true=>(match y !=y with|true=>some [RV.d aiy 0]|false=>some [RV.d aiy (-1)])|false=>(match y !=y with|true=>some [RV.d aiy 1]|false=>(match decide (x<y)with|true=>some [RV.d aiy (-1)]|false=>(match decide (x>y)with|true=>some [RV.d aiy 1]|false=>some [RV.d aiy 0])))
theorem aaw(x y:Int):RS adE 162 [SI x,SI y] (SC x y):=rsX
theorem RR(x y:Int):CQq7 162 [.d aiy x,.d aiy y] [.d aiy (cq x y)]:=by
 refine fE (E:=[]) trivial (aaw _ _ ⟨0,?_⟩);unfold SC;rw[show(x !=x)=false by simp,show(y !=y)=false by simp];dsimp only;rcases Int.lt_trichotomy x y with h|h|h
 ·rw[cW h,afm h]
 ·subst h;rw[dO,afo (show ¬x<x by omega)]
 ·rw[cH h,afo (show ¬x<y by omega),afm (show x>y from h)]
def AF:dK:=spN true false [aiy,aiy] (λ_=>true) (λx=>[RV.d aiy (cq x.1 x.2.1)])
theorem wC:SpK 162 AF:=spX λx _=>RR x.1 x.2.1
def ES:Env:=[(223,nM),(117,ti),(163,qU),(227,oO),(228,uk),(164,un),(251,wy),(165,AT),(162,AF)]
theorem zg:EnvAll Tryz.prog ES:=⟨kq,nS,lV,ky,ou,nP,sf,wG,wC,trivial⟩
def ab4:Ctx:=CX ES []
def aaH(x:Bool×List Int)(_k:KT):OLR:=some [RV.d (.st (.pair y2Y y2Y)) (x,(ai 1))]
theorem abk(x:Bool×List Int):RS ab4 222 [.d y2Y x] (aaH x):=rsX
theorem QX(x:BI):CQq7 222 [.d y2Y x] [.d (.st (.pair y2Y y2Y)) (x,ai 1)]:=
 fE zg (abk _ ⟨0,rfl⟩)
def Fq:dK:=spN false false [y2Y] (λ_=>true) (λx=>[RV.d (.st (.pair y2Y y2Y)) (x.1,ai 1)])
theorem CK:SpK 222 Fq:=spX λx _=>QX x.1
def acZ:Ctx:=CX ES []
def TB(a:(Bool×List Int)×Bool×List Int)(_k:KT):OLR:=og (decide (okI a.1)) (some [RV.d aiy (cq (ae a.1) 0)])
theorem adq(a:(Bool×List Int)×Bool×List Int):RS acZ 54 [.d (.st (.pair y2Y y2Y)) a] (TB a):=rsX
theorem F5(a:BR)(h:okR a):CQq7 54 [.d (.st (.pair y2Y y2Y)) a] [.d aiy (aE (ah a) 0)]:=by
 refine fE zg (adq _ ⟨0,?_⟩);unfold TB;rw[afm h.1,<-uy,(cK h).1]
def Ew:dK:=spN true false [(.st (.pair y2Y y2Y))] (λx=>decide (okR x.1)) (λx=>[RV.d aiy (aE (ah x.1) 0)])
theorem CF:SpK 54 Ew:=spX λx h=>F5 x.1 (afp h)
def nf:Env:=[(223,nM),(117,ti),(163,qU),(227,oO),(228,uk),(164,un),(251,wy),(165,AT),(162,AF),(222,Fq),(54,Ew)]
theorem iy:EnvAll Tryz.prog nf:=⟨kq,nS,lV,ky,ou,nP,sf,wG,wC,CK,CF,trivial⟩
def ZG:Ctx:=CX nf []
def TR(n:Int)(_k:KT):OLR:=og (decide (a9 n)) (some [RV.d (.st (.pair y2Y y2Y)) ((ai n),(ai 1))])
theorem adr(n:Int):RS ZG 125 [SI n] (TR n):=rsX
def adC:Ctx:=CX nf []
def Ud(a b:(Bool×List Int)×Bool×List Int)(_k:KT):OLR:=match decide (okR a)with|true=>(match decide (okR b)with|true=>(match(cq (aE (ah a) 0) (aE (ah b) 0)) !=0 with|true=>some [RV.d aiy (cq (aE (ah a) 0) (aE (ah b) 0))]|false=>(match decide (okI a.1/\okI b.2)with|true=>(match decide (okI b.1/\okI a.2)with|true=>(match decide (okI (ai (ae a.1*ae b.2))/\okI (ai (ae b.1*ae a.2)))with|true=>some [RV.d aiy (cq (ae (ai (ae a.1*ae b.2))) (ae (ai (ae b.1*ae a.2))))]|false=>none)|false=>none)|false=>none))|false=>none)|false=>none
theorem acJ(a b:(Bool×List Int)×Bool×List Int):RS adC 66 [.d (.st (.pair y2Y y2Y)) a,.d (.st (.pair y2Y y2Y)) b] (Ud a b):=rsX
def abU:Ctx:=CX nf []
def Vo(a b:(Bool×List Int)×Bool×List Int)(_k:KT):OLR:=match decide (okI a.2/\okI b.2)with|true=>(match(cq (ae a.2) (ae b.2))==0 with|true=>(match decide (okI a.1/\okI b.1)with|true=>(match decide (jx (ai (ae a.1+ae b.1)) a.2)with|true=>some [RV.d (.st (.pair y2Y y2Y)) (((eW (ai (ae a.1+ae b.1)) a.2).1),((eW (ai (ae a.1+ae b.1)) a.2).2))]|false=>none)|false=>none)|false=>(match decide (okI a.1/\okI b.2)with|true=>(match decide (okI b.1/\okI a.2)with|true=>(match decide (okI (ai (ae a.1*ae b.2))/\okI (ai (ae b.1*ae a.2)))with|true=>(match decide (okI a.2/\okI b.2)with|true=>(match decide (jx (ai (ae (ai (ae a.1*ae b.2))+ae (ai (ae b.1*ae a.2)))) (ai (ae a.2*ae b.2)))with|true=>some [RV.d (.st (.pair y2Y y2Y)) (((eW (ai (ae (ai (ae a.1*ae b.2))+ae (ai (ae b.1*ae a.2)))) (ai (ae a.2*ae b.2))).1),((eW (ai (ae (ai (ae a.1*ae b.2))+ae (ai (ae b.1*ae a.2)))) (ai (ae a.2*ae b.2))).2))]|false=>none)|false=>none)|false=>none)|false=>none)|false=>none))|false=>none
theorem ab8(a b:(Bool×List Int)×Bool×List Int):RS abU 132 [.d (.st (.pair y2Y y2Y)) a,.d (.st (.pair y2Y y2Y)) b] (Vo a b):=rsX
def adv:Ctx:=CX nf []
def Tu(a:(Bool×List Int)×Bool×List Int)(_k:KT):OLR:=og (decide (okI a.1)) (some [RV.d (.st (.pair y2Y y2Y)) ((ai (-ae a.1)),a.2)])
theorem adP(a:(Bool×List Int)×Bool×List Int):RS adv 133 [.d (.st (.pair y2Y y2Y)) a] (Tu a):=rsX
def Zy:Ctx:=CX nf []
def Tp(a b:(Bool×List Int)×Bool×List Int)(_k:KT):OLR:=og (decide (okI a.1/\okI b.1)) (og (decide (okI a.2/\okI b.2)) (og (decide (jx (ai (ae a.1*ae b.1)) (ai (ae a.2*ae b.2)))) (some [RV.d (.st (.pair y2Y y2Y)) (((eW (ai (ae a.1*ae b.1)) (ai (ae a.2*ae b.2))).1),((eW (ai (ae a.1*ae b.1)) (ai (ae a.2*ae b.2))).2))])))
theorem ace(a b:(Bool×List Int)×Bool×List Int):RS Zy 67 [.d (.st (.pair y2Y y2Y)) a,.d (.st (.pair y2Y y2Y)) b] (Tp a b):=rsX
def aab:Ctx:=CX nf []
def Tx(a b:(Bool×List Int)×Bool×List Int)(_k:KT):OLR:=match decide (okR b)with|true=>(match(aE (ah b) 0)==0 with|true=>some [RV.d (.st (.pair y2Y y2Y)) ((false,[]),(false,[])),RV.d aiy 6]|false=>(match decide (okI a.1/\okI b.2)with|true=>(match decide (okI a.2/\okI b.1)with|true=>(match decide (jx (ai (ae a.1*ae b.2)) (ai (ae a.2*ae b.1)))with|true=>some [RV.d (.st (.pair y2Y y2Y)) (((eW (ai (ae a.1*ae b.2)) (ai (ae a.2*ae b.1))).1),((eW (ai (ae a.1*ae b.2)) (ai (ae a.2*ae b.1))).2)),RV.d aiy 0]|false=>none)|false=>none)|false=>none))|false=>none
theorem aax(a b:(Bool×List Int)×Bool×List Int):RS aab 245 [.d (.st (.pair y2Y y2Y)) a,.d (.st (.pair y2Y y2Y)) b] (Tx a b):=rsX
theorem PC(n:Int)(h:a9 n):CQq7 125 [.d aiy n] [.d (.st (.pair y2Y y2Y)) (ao (n:Rat))]:=by
 refine fE iy (adr _ ⟨0,?_⟩);unfold TR ao;rw[afm h,Rat.num_intCast,Rat.den_intCast];rfl
theorem fZ{a:BR}(h:okR a):szI (ae a.1)<=480000/\szI (ae a.2)<=480000:=by
 have h1:=As h;grind [cK,bdR]
theorem Jh(a b:Rat):(cq (aE a 0) (aE b 0)≠0->cq (aE a 0) (aE b 0)=aE a b):=by
 rcases(by grind:a<0\/a=0\/0<a)with h1|h1|h1<;>rcases(by grind:b<0\/b=0\/0<b)with h2|h2|h2
 ·grind [dD,dO]
 ·rw[dD h1,h2,dP,dD h1];intro;rfl
 ·rw[dD h1,dq h2,dD (by grind)];intro;rfl
 ·rw[h1,dP,dD h2,dq h2];intro;rfl
 ·grind [dP,dO]
 ·rw[h1,dP,dq h2,dD h2];intro;rfl
 ·rw[dq h1,dD h2,dq (by grind)];intro;rfl
 ·rw[dq h1,h2,dP,dq h1];intro;rfl
 grind [dq,dO]
theorem PI(a b:BR)(h:okR a/\okR b):CQq7 66 [.d (.st (.pair y2Y y2Y)) a,.d (.st (.pair y2Y y2Y)) b] [.d aiy (aE (ah a) (ah b))]:=by
 refine fE iy (acJ _ _ ⟨0,?_⟩);obtain⟨ha,hb⟩:=h;obtain⟨a1,a2⟩:=cK ha;obtain⟨b1,b2⟩:=cK hb;obtain⟨sa1,sa2⟩:=fZ ha;obtain⟨sb1,sb2⟩:=fZ hb;have h1:=cJ sa1 sb2;have h2:=cJ sb1 sa2;unfold Ud;rw[afm ha,afm hb];dsimp only;have hs:=Jh (ah a) (ah b);by_cases hc:cq (aE (ah a) 0) (aE (ah b) 0)=0
 ·rw[hc,afm (show okI a.1/\okI b.2 from⟨ha.1,hb.2.1⟩),afm (show okI b.1/\okI a.2 from⟨hb.1,ha.2.1⟩),afm (show okI (ai (ae a.1*ae b.2))/\okI (ai (ae b.1*ae a.2)) from⟨aR (by omega),aR (by omega)⟩),dec_enc,dec_enc,<-a1,<-a2,<-b1,<-b2,xf];rfl
 ·rw[show(cq (aE (ah a) 0) (aE (ah b) 0) !=0)=true by simpa using hc,hs hc]
theorem GU(a:BR)(h:okR a):CQq7 133 [.d (.st (.pair y2Y y2Y)) a] [.d (.st (.pair y2Y y2Y)) (ao (-ah a))]:=by
 refine fE iy (adP _ ⟨0,?_⟩);obtain⟨a1,a2⟩:=cK h;unfold Tu
 have e:ao (-ah a)=(ai (-ae a.1),a.2):=by
  unfold ao;rw[Rat.neg_num,a1,show((-ah a).den:Int)=((ah a).den:Int) from rfl,a2,<-ic h.2.1]
 rw[afm h.1,e]
theorem GT(a b:BR)(h:okR a/\okR b):CQq7 132 [.d (.st (.pair y2Y y2Y)) a,.d (.st (.pair y2Y y2Y)) b] [.d (.st (.pair y2Y y2Y)) (ao (ah a+ah b))]:=by
 refine fE iy (ab8 _ _ ⟨0,?_⟩);obtain⟨ha,hb⟩:=h;obtain⟨a1,a2⟩:=cK ha;obtain⟨b1,b2⟩:=cK hb;obtain⟨sa1,sa2⟩:=fZ ha;obtain⟨sb1,sb2⟩:=fZ hb;have pa:=ha.2.2.1;have pb:=hb.2.2.1;have h1:=cJ sa1 sb2;have h2:=cJ sb1 sa2;have h3:=cJ sa2 sb2;have h4:=u5 h1 h2;have h5:=u5 sa1 sb1;have hda:ah a=Rat.divInt (ae a.1) (ae a.2):=by rw[<-a1,<-a2,agq]
 have hdb:ah b=Rat.divInt (ae b.1) (ae b.2):=by rw[<-b1,<-b2,agq]
 unfold Vo;rw[afm (show okI a.2/\okI b.2 from⟨ha.2.1,hb.2.1⟩)];dsimp only;by_cases hc:ae a.2=ae b.2
 ·rw[hc,dO,afm (show okI a.1/\okI b.1 from⟨ha.1,hb.1⟩)];rw[afm (show jx (ai (ae a.1+ae b.1)) a.2 from⟨aR (by omega),ha.2.1,by omega⟩)]
  have e:eW (ai (ae a.1+ae b.1)) a.2=ao (ah a+ah b):=by
   unfold eW;rw[dec_enc,hda,hdb,<-hc,Rat.divInt_eq_div,Rat.divInt_eq_div,Rat.divInt_eq_div,Rat.intCast_add];congr 1;grind
  rw[e];rfl
 ·have hcm:(cq (ae a.2) (ae b.2)==0)=false:=by
   rcases ahe hc with h|h
   ·rw[cW h];rfl
   ·rw[cH h];rfl
  rw[hcm,afm (show okI a.1/\okI b.2 from⟨ha.1,hb.2.1⟩),afm (show okI b.1/\okI a.2 from⟨hb.1,ha.2.1⟩),afm (show okI (ai (ae a.1*ae b.2))/\okI (ai (ae b.1*ae a.2)) from⟨aR (by omega),aR (by omega)⟩)];simp only[dec_enc];rw[afm (show jx (ai (ae a.1*ae b.2+ae b.1*ae a.2)) (ai (ae a.2*ae b.2)) from⟨aR (by omega),aR (by omega),by rw[dec_enc];exact ah0 (by omega) (by omega)⟩)]
  have e:eW (ai (ae a.1*ae b.2+ae b.1*ae a.2)) (ai (ae a.2*ae b.2))=ao (ah a+ah b):=by
   unfold eW;rw[dec_enc,dec_enc,hda,hdb,Rat.divInt_add_divInt _ _ (by omega) (by omega)]
  rw[e]
theorem PK(a b:BR)(h:okR a/\okR b):CQq7 67 [.d (.st (.pair y2Y y2Y)) a,.d (.st (.pair y2Y y2Y)) b] [.d (.st (.pair y2Y y2Y)) (ao (ah a*ah b))]:=by
 refine fE iy (ace _ _ ⟨0,?_⟩);obtain⟨ha,hb⟩:=h;obtain⟨a1,a2⟩:=cK ha;obtain⟨b1,b2⟩:=cK hb;obtain⟨sa1,sa2⟩:=fZ ha;obtain⟨sb1,sb2⟩:=fZ hb;have pa:=ha.2.2.1;have pb:=hb.2.2.1;have h1:=cJ sa1 sb1;have h3:=cJ sa2 sb2;have hda:ah a=Rat.divInt (ae a.1) (ae a.2):=by rw[<-a1,<-a2,agq]
 have hdb:ah b=Rat.divInt (ae b.1) (ae b.2):=by rw[<-b1,<-b2,agq]
 unfold Tp;rw[afm (show okI a.1/\okI b.1 from⟨ha.1,hb.1⟩),afm (show okI a.2/\okI b.2 from⟨ha.2.1,hb.2.1⟩),afm (show jx (ai (ae a.1*ae b.1)) (ai (ae a.2*ae b.2)) from⟨aR (by omega),aR (by omega),by rw[dec_enc];exact ah0 (by omega) (by omega)⟩)]
 have e:eW (ai (ae a.1*ae b.1)) (ai (ae a.2*ae b.2))=ao (ah a*ah b):=by
  unfold eW;rw[dec_enc,dec_enc,hda,hdb,ah1]
 rw[e]
def ij(a b:BR):Prop:=okR a/\okR b/\ae b.1≠0
instance (a b:BR):Decidable (ij a b):=by unfold ij;infer_instance
theorem Sr(a b:BR)(h:ij a b):CQq7 245 [.d (.st (.pair y2Y y2Y)) a,.d (.st (.pair y2Y y2Y)) b] [.d (.st (.pair y2Y y2Y)) (ao (ah a/ah b)),.d aiy 0]:=by
 refine fE iy (aax _ _ ⟨0,?_⟩);obtain⟨ha,hb,hne⟩:=h;obtain⟨a1,a2⟩:=cK ha;obtain⟨b1,b2⟩:=cK hb;obtain⟨sa1,sa2⟩:=fZ ha;obtain⟨sb1,sb2⟩:=fZ hb;have pa:=ha.2.2.1;have h1:=cJ sa1 sb2;have h3:=cJ sa2 sb1;have hda:ah a=Rat.divInt (ae a.1) (ae a.2):=by rw[<-a1,<-a2,agq]
 have hdb:ah b=Rat.divInt (ae b.1) (ae b.2):=by rw[<-b1,<-b2,agq]
 have hnz:(aE (ah b) 0==0)=false:=by
  rw[<-uy,b1];rcases ahe hne with h|h
  ·rw[cW h];rfl
  ·rw[cH h];rfl
 unfold Tx;rw[afm hb,hnz,afm (show okI a.1/\okI b.2 from⟨ha.1,hb.2.1⟩),afm (show okI a.2/\okI b.1 from⟨ha.2.1,hb.1⟩),afm (show jx (ai (ae a.1*ae b.2)) (ai (ae a.2*ae b.1)) from⟨aR (by omega),aR (by omega),by rw[dec_enc];exact ah0 (by omega) hne⟩)]
 have e:eW (ai (ae a.1*ae b.2)) (ai (ae a.2*ae b.1))=ao (ah a/ah b):=by
  unfold eW;rw[dec_enc,dec_enc,hda,hdb,aiu,Rat.inv_divInt,ah1]
 rw[e]
def LI:dK:=spN false false [(.st (.pair y2Y y2Y)),(.st (.pair y2Y y2Y))] (λx=>decide (okR x.1/\okR x.2.1)) (λx=>[RV.d (.st (.pair y2Y y2Y)) (ao (ah x.1+ah x.2.1))])
theorem LF:SpK 132 LI:=spX λx h=>GT x.1 x.2.1 (afp h)
def KZ:dK:=spN false false [(.st (.pair y2Y y2Y))] (λx=>decide (okR x.1)) (λx=>[RV.d (.st (.pair y2Y y2Y)) (ao (-ah x.1))])
theorem Kd:SpK 133 KZ:=spX λx h=>GU x.1 (afp h)
def Hw:Env:=[(223,nM),(117,ti),(163,qU),(227,oO),(228,uk),(164,un),(251,wy),(165,AT),(162,AF),(222,Fq),(54,Ew),(132,LI),(133,KZ)]
theorem EI:EnvAll Tryz.prog Hw:=⟨kq,nS,lV,ky,ou,nP,sf,wG,wC,CK,CF,LF,Kd,trivial⟩
def aaB:Ctx:=CX Hw []
def UI(a b:(Bool×List Int)×Bool×List Int)(_k:KT):OLR:=match decide (okR b)with|true=>(match decide (okR a/\okR (ao (-ah b)))with|true=>some [RV.d (.st (.pair y2Y y2Y)) (((ao (ah a+ah (ao (-ah b)))).1),((ao (ah a+ah (ao (-ah b)))).2))]|false=>none)|false=>none
theorem acT(a b:(Bool×List Int)×Bool×List Int):RS aaB 65 [.d (.st (.pair y2Y y2Y)) a,.d (.st (.pair y2Y y2Y)) b] (UI a b):=rsX
theorem P4(a b:BR)(h:okR a/\okR b):CQq7 65 [.d (.st (.pair y2Y y2Y)) a,.d (.st (.pair y2Y y2Y)) b] [.d (.st (.pair y2Y y2Y)) (ao (ah a-ah b))]:=by
 refine fE EI (acT _ _ ⟨0,?_⟩);obtain⟨ha,hb⟩:=h;unfold UI;rw[afm hb,fB,ahO,afm (show okR a/\okR (ao (-ah b)) from⟨ha,oZ (vu (As hb)) (afs _)⟩)]
section
namespace RL
theorem jW{x y B e:Rat}(h1:x<B)(h2: -B<x)(h3:y<e)(h4: -e<y):x*y<B*e:=by
 have p:=agf (a:=B-x) (b:=e+y) (by grind) (by grind);have q:=agf (a:=B+x) (b:=e-y) (by grind) (by grind);grind
theorem TH{e:Rat}(h:0<e):0<e/2:=by grind
theorem yO{e B:Rat}(h:0<e)(hB:0<B):∃d,0<d/\B*d+B*d<e:=by
 refine⟨e/(4*B),?_,?_⟩
 ·exact agf h (Rat.inv_pos.2 (by grind))
 ·have:B*(e/(4*B))=e/4:=by grind
  grind
structure CS where
 f:Nat->Rat
 cau:∀e:Rat,0<e->∃N,∀m n,N<=m->N<=n->f m-f n<e
theorem CS.bd(a:CS):∃B:Rat,0<B/\∃N,∀n,N<=n-> -B<a.f n/\a.f n<B:=by
 obtain⟨N,h⟩:=a.cau 1 (by grind);refine⟨(if 0<=a.f N then a.f N else-a.f N)+1,?_,N,λn hn=>?_⟩
 ·split<;>grind
 ·have h1:=h n N hn (afs _);have h2:=h N n (afs _) hn;split<;>grind
def add(a b:CS):CS:=⟨λn=>a.f n+b.f n,λe he=>by
 obtain⟨N,h⟩:=a.cau (e/2) (by grind);obtain⟨M,h'⟩:=b.cau (e/2) (by grind);refine⟨max N M,λm n hm hn=>?_⟩;have:=h m n (by omega) (by omega);have:=h' m n (by omega) (by omega);grind⟩
def neg(a:CS):CS:=⟨λn=> -a.f n,λe he=>by
 obtain⟨N,h⟩:=a.cau e he;exact⟨N,λm n hm hn=>by have:=h n m hn hm;grind⟩⟩
theorem JY(a b:CS)(e:Rat)(he:0<e):∃N,∀m n,N<=m->N<=n->a.f m*b.f m-a.f n*b.f n<e:=by
 obtain⟨A,hA,N1,h1⟩:=a.bd;obtain⟨B,hB,N2,h2⟩:=b.bd;obtain⟨d,hd,hd'⟩:=yO (e:=e) (B:=A+B) he (by grind);obtain⟨N3,h3⟩:=a.cau d hd;obtain⟨N4,h4⟩:=b.cau d hd;refine⟨max (max N1 N2) (max N3 N4),λm n hm hn=>?_⟩;have a1:=h1 m (by omega);have b1:=h2 n (by omega);have p:=jW a1.2 a1.1 (h4 m n (by omega) (by omega)) (by have:=h4 n m (by omega) (by omega);grind);have q:=jW b1.2 b1.1 (h3 m n (by omega) (by omega)) (by have:=h3 n m (by omega) (by omega);grind);have r:=agf hA hd;have s:=agf hB hd;grind
def mul(a b:CS):CS:=⟨λn=>a.f n*b.f n,JY a b⟩
def eqv(a b:CS):Prop:=∀e:Rat,0<e->∃N,∀n,N<=n->a.f n-b.f n<e/\b.f n-a.f n<e
instance st:Setoid CS where
 r:=eqv
 iseqv:=⟨λa e he=>⟨0,λn _=>by grind⟩,λh e he=>by
   obtain⟨N,h⟩:=h e he;exact⟨N,λn hn=>⟨(h n hn).2,(h n hn).1⟩⟩,
  λh h' e he=>by
  obtain⟨N,h⟩:=h (e/2) (by grind);obtain⟨M,h'⟩:=h' (e/2) (by grind);refine⟨max N M,λn hn=>?_⟩;have:=h n (by omega);have:=h' n (by omega);grind⟩
def const(q:Rat):CS:=⟨λ_=>q,λe he=>⟨0,λm n _ _=>by grind⟩⟩
end RL
def RE:Type:=Quotient RL.st
namespace RE
open RL
def of(q:Rat):RE:=Quotient.mk _ (const q)
theorem V8(a b a' b':CS)(h:a≈a')(h':b≈b'):add a b≈add a' b':=λe he=>by
 obtain⟨N,h⟩:=h (e/2) (by grind);obtain⟨M,h'⟩:=h' (e/2) (by grind);refine⟨max N M,λn hn=>?_⟩;have:=h n (by omega);have:=h' n (by omega);simp only[RL.add];grind
theorem Zc(a a':CS)(h:a≈a'):neg a≈neg a':=λe he=>by
 obtain⟨N,h⟩:=h e he;refine⟨N,λn hn=>?_⟩;have:=h n (by omega);simp only[RL.neg];grind
theorem Xq(a b a' b':CS)(h:a≈a')(h':b≈b'):mul a b≈mul a' b':=λe he=>by
 obtain⟨A,hA,N1,h1⟩:=a.bd;obtain⟨B,hB,N2,h2⟩:=b'.bd;obtain⟨d,hd,hd'⟩:=yO (e:=e) (B:=A+B) he (by grind);obtain⟨N3,h3⟩:=h d hd;obtain⟨N4,h4⟩:=h' d hd;refine⟨max (max N1 N2) (max N3 N4),λn hn=>?_⟩;have a1:=h1 n (by omega);have b1:=h2 n (by omega);have a3:=h3 n (by omega);have b3:=h4 n (by omega);have p:=jW a1.2 a1.1 (y:=b.f n-b'.f n) b3.1 (by grind);have q:=jW b1.2 b1.1 (y:=a.f n-a'.f n) a3.1 (by grind);have p':=jW a1.2 a1.1 (y:=b'.f n-b.f n) b3.2 (by grind);have q':=jW b1.2 b1.1 (y:=a'.f n-a.f n) a3.2 (by grind);have r:=agf hA hd;have s:=agf hB hd;simp only[RL.mul];constructor<;>grind
instance:Add RE:=⟨Quotient.lift₂ (λa b=>Quotient.mk _ (add a b)) (λ_ _ _ _ h h'=>aib (V8 _ _ _ _ h h'))⟩
instance:Neg RE:=⟨Quotient.lift (λa=>Quotient.mk _ (neg a)) (λ_ _ h=>aib (Zc _ _ h))⟩
instance:Sub RE:=⟨λa b=>a+ -b⟩
instance:Mul RE:=⟨Quotient.lift₂ (λa b=>Quotient.mk _ (mul a b)) (λ_ _ _ _ h h'=>aib (Xq _ _ _ _ h h'))⟩
theorem snd{a b:CS}(h:∀n,a.f n=b.f n):(Quotient.mk st a:RE)=Quotient.mk st b:=
 aib λe he=>⟨0,λn _=>by rw[h n];grind⟩
instance (n:Nat):OfNat RE n:=⟨of (OfNat.ofNat n)⟩
theorem of_add(a b:Rat):of (a+b)=of a+of b:=rfl
theorem bS(a b:Rat):of (a*b)=of a*of b:=rfl
theorem of_neg(a:Rat):of (-a)= -of a:=rfl
theorem of_sub(a b:Rat):of (a-b)=of a-of b:=by rw[ahO];rfl
theorem vw:of 0=0:=rfl
theorem Jz:of 1=1:=rfl
theorem add_zero(a:RE):a+0=a:=by
 induction a using agD;exact snd λn=>Rat.add_zero _
theorem add_comm(a b:RE):a+b=b+a:=by
 induction a,b using ah2;exact snd λn=>Rat.add_comm _ _
theorem add_assoc(a b c:RE):a+b+c=a+(b+c):=by
 induction a,b,c using ahv;exact snd λn=>Rat.add_assoc _ _ _
theorem mul_assoc(a b c:RE):a*b*c=a*(b*c):=by
 induction a,b,c using ahv;exact snd λn=>Rat.mul_assoc _ _ _
theorem mul_comm(a b:RE):a*b=b*a:=by
 induction a,b using ah2;exact snd λn=>ahk _ _
theorem mul_one(a:RE):a*1=a:=by
 induction a using agD;exact snd λn=>Rat.mul_one _
theorem mul_zero(a:RE):a*0=0:=by
 induction a using agD;exact snd λn=>Rat.mul_zero _
theorem left_distrib(a b c:RE):a*(b+c)=a*b+a*c:=by
 induction a,b,c using ahv;exact snd λn=>Rat.mul_add _ _ _
theorem AO(a:RE): -a+a=0:=by
 induction a using agD;exact snd λn=>Rat.neg_add_cancel _
def clt(a b:CS):Prop:=∃e:Rat,0<e/\∃N,∀n,N<=n->a.f n+e<b.f n
theorem LO(a b a' b':CS)(h:a≈a')(h':b≈b')(hl:clt a b):clt a' b':=by
 obtain⟨e,he,N,hl⟩:=hl;obtain⟨N1,h⟩:=h (e/4) (by grind);obtain⟨N2,h'⟩:=h' (e/4) (by grind);refine⟨e/2,by grind,max N (max N1 N2),λn hn=>?_⟩;have:=hl n (by omega);have:=h n (by omega);have:=h' n (by omega);grind
instance:LT RE:=⟨Quotient.lift₂ clt (λ_ _ _ _ h h'=>propext ⟨LO _ _ _ _ h h',LO _ _ _ _ (Setoid.symm h) (Setoid.symm h')⟩)⟩
instance:LE RE:=⟨λa b=>¬b<a⟩
theorem lt_irrefl(a:RE):¬a<a:=by
 induction a using agD
 rintro ⟨e,he,N,h⟩
 have:=h N (afs _);grind
theorem fF{a b c:RE}:a<b->b<c->a<c:=by
 induction a,b,c using ahv
 rintro ⟨e,he,N,h⟩ ⟨e',he',N',h'⟩
 refine⟨e,he,max N N',λn hn=>?_⟩;have:=h n (by omega);have:=h' n (by omega);grind
theorem nO(a b:RE):a<b\/a=b\/b<a:=by
 induction a,b using ah2
 rename_i a b;by_cases h1:clt a b
 ·exact .inl h1
 by_cases h2:clt b a
 ·exact .inr (.inr h2)
 refine .inr (.inl (aib λe he=>?_));obtain⟨N,ha⟩:=a.cau (e/4) (by grind);obtain⟨M,hb⟩:=b.cau (e/4) (by grind)
 have g1:∃n,max N M<=n/\b.f n<=a.f n+e/4:=by
  apply afF;intro hc
  exact h1 ⟨e/4,by grind,max N M,λn hn=>by
   apply afF;intro h;exact hc ⟨n,hn,by grind⟩⟩
 have g2:∃n,max N M<=n/\a.f n<=b.f n+e/4:=by
  apply afF;intro hc
  exact h2 ⟨e/4,by grind,max N M,λn hn=>by
   apply afF;intro h;exact hc ⟨n,hn,by grind⟩⟩
 obtain⟨p,hp,gp⟩:=g1;obtain⟨q,hq,gq⟩:=g2;refine⟨max N M,λn hn=>?_⟩;have a1:=ha n q (by omega) (by omega);have b1:=hb q n (by omega) (by omega);have a2:=ha p n (by omega) (by omega);have b2:=hb n p (by omega) (by omega);constructor<;>grind
theorem mM{a b:RE}(c:RE):a<b->a+c<b+c:=by
 induction a,b,c using ahv
 rintro ⟨e,he,N,h⟩
 refine⟨e,he,N,λn hn=>?_⟩;have:=h n hn;simp only[RL.add];grind
theorem mul_pos{a b:RE}:0<a->0<b->0<a*b:=by
 induction a,b using ah2
 rintro ⟨e,he,N,h⟩ ⟨e',he',N',h'⟩
 refine⟨e*e',agf he he',max N N',λn hn=>?_⟩;have h1:=h n (by omega);have h2:=h' n (by omega);simp only[RL.const]at h1 h2 ⊢;rename_i a b;have p:=agf (a:=a.f n-e) (b:=b.f n-e') (by grind) (by grind);have q:=agf (a:=a.f n-e) (b:=e') (by grind) (by grind);have r:=agf (a:=e) (b:=b.f n-e') (by grind) (by grind);simp only[RL.mul];grind
theorem jF{a b:Rat}(h:a<b):of a<of b:=⟨(b-a)/2,by grind,0,λn _=>by simp only[RL.const];grind⟩
end RE
end
section
namespace RE
open RL
theorem Bq(a b:RE):a<=b↔¬b<a:=Iff.rfl
theorem le_of_lt{a b:RE}(h:a<b):a<=b:=λh'=>lt_irrefl a (fF h h')
theorem lt_or_ge(a b:RE):a<b\/b<=a:=by
 by_cases h:a<b
 ·exact .inl h
 ·exact .inr h
theorem le_antisymm{a b:RE}(h1:a<=b)(h2:b<=a):a=b:=by
 rcases nO a b with h|h|h
 ·exact absurd h h2
 ·exact h
 ·exact absurd h h1
theorem le_trans{a b c:RE}(h1:a<=b)(h2:b<=c):a<=c:=λh=>by
 rcases nO a b with h'|h'|h'
 ·exact h2 (fF h h')
 ·subst h';exact h2 h
 ·exact h1 h'
theorem zero_lt_one:(0:RE)<1:=jF (by decide+kernel:(0:Rat)<1)
theorem kZ(a:RE):a+ -a=0:=by rw[add_comm,AO]
theorem uc{a:RE}(h:a<0):0< -a:=by
 have:=mM (-a) h;rw[kZ,add_comm,add_zero]at this;exact this
theorem Ys{a:RE}(h:0<a): -a<0:=by
 have:=mM (-a) h;rw[kZ,add_comm,add_zero]at this;exact this
instance:Std.IsLinearOrder RE where
 le_refl a:=lt_irrefl a
 le_trans _ _ _:=le_trans
 le_antisymm _ _:=le_antisymm
 le_total a b:=by
  rcases lt_or_ge a b with h|h
  ·exact .inl (le_of_lt h)
  ·exact .inr h
instance:Std.LawfulOrderLT RE where
 lt_iff a b:=⟨λh=>⟨le_of_lt h,λh'=>h' h⟩,λh=>by
  rcases lt_or_ge a b with h'|h'
  ·exact h'
  ·exact absurd h' h.2⟩
theorem xN{a b:RE}:¬a<=b↔b<a:=⟨λh=>by
  rcases lt_or_ge b a with h'|h'
  ·exact h'
  ·exact absurd h' h,λh h'=>h' h⟩
theorem aX{a b:RE}(h:a<b):0<b-a:=by
 have:=mM (-a) h;rw[kZ]at this;exact this
theorem aK{a b:RE}(h:a<=b):0<=b-a:=λh'=>h (by
 have:=mM a h'
 have e:b-a+a=b:=by
  show b+ -a+a=b;rw[add_assoc,AO,add_zero]
 rw[e,add_comm,add_zero]at this;exact this)
theorem n4{a:RE}(h:0<=a):0<a\/a=0:=by
 rcases nO 0 a with h'|h'|h'
 ·exact .inl h'
 ·exact .inr h'.symm
 ·exact absurd h' h
theorem le_refl(a:RE):a<=a:=lt_irrefl a
theorem sC{a b:RE}(h:a=b):a<=b:=by rw[h];exact le_refl _
theorem rE{a b:RE}(h:a=b):b<=a:=by rw[h];exact le_refl _
theorem zero_mul(a:RE):0*a=0:=by rw[mul_comm,mul_zero]
theorem zero_add(a:RE):0+a=a:=by rw[add_comm,add_zero]
theorem one_mul(a:RE):1*a=a:=by rw[mul_comm,mul_one]
theorem cz{a b:RE}(h:0<=a)(h':0<=b):0<=a*b:=by
 rcases n4 h with h1|h1
 ·rcases n4 h' with h2|h2
  ·exact le_of_lt (mul_pos h1 h2)
  ·rw[h2,mul_zero];exact le_refl _
 ·rw[h1,zero_mul];exact le_refl _
theorem aS{a b:RE}(h:0<a)(h':0<=b):0<a+b:=by
 have:=mM b h;rw[zero_add]at this;rcases n4 h' with h2|h2
 ·exact fF h2 this
 ·rw[h2,add_zero];exact h
theorem Fd(a:RE):0<=a*a:=by
 rcases lt_or_ge a 0 with h|h
 ·have h1:=uc h;have h2:=mul_pos h1 h1
  have e: -a* -a=a*a:=by
   induction a using agD
   exact snd λn=>by show-_* -_=_*_;grind
  rw[e]at h2;exact le_of_lt h2
 ·exact cz h h
instance:NatCast RE:=⟨λn=>of (n:Rat)⟩
instance:IntCast RE:=⟨λn=>of (n:Rat)⟩
instance:SMul Nat RE:=⟨λn a=>of (n:Rat)*a⟩
instance:SMul Int RE:=⟨λn a=>of (n:Rat)*a⟩
def pw(a:RE):Nat->RE
 |0=>1
 |n+1=>pw a n*a
instance:Pow RE Nat:=⟨pw⟩
instance:Lean.Grind.CommRing RE where
 add_zero:=add_zero
 add_comm:=add_comm
 add_assoc:=add_assoc
 mul_assoc:=mul_assoc
 mul_one:=mul_one
 mul_comm:=mul_comm
 left_distrib:=left_distrib
 mul_zero:=mul_zero
 zero_mul:=zero_mul
 one_mul:=one_mul
 right_distrib a b c:=by rw[mul_comm,left_distrib,mul_comm c,mul_comm c]
 pow_zero _:=rfl
 pow_succ _ _:=rfl
 ofNat_succ n:=by
  show of ((OfNat.ofNat (n+1):Rat))=of ((OfNat.ofNat n:Rat))+of 1;rw[<-of_add];congr 1;show(((n+1:Nat):Rat))=((n:Nat):Rat)+1;rw[Rat.natCast_add];rfl
 ofNat_eq_natCast _:=rfl
 nsmul_eq_natCast_mul _ _:=rfl
 neg_add_cancel:=AO
 sub_eq_add_neg _ _:=rfl
 neg_zsmul i a:=by
  show of ((-i:Int):Rat)*a= -(of (i:Rat)*a)
  rw[ah3,of_neg];induction a using agD
  exact snd λn=>by show-_*_= -(_*_);grind
 zsmul_natCast_eq_nsmul _ _:=rfl
 intCast_ofNat _:=rfl
 intCast_neg i:=by show of _= -of _;rw[ah3,of_neg]
theorem GH{a b c:RE}(h:a<b)(hc:0<c):c*a<c*b:=by
 have h1:=mM (-a) h;rw[kZ]at h1;have h2:=mM (c*a) (mul_pos hc h1);rwa [show c*(b+ -a)+c*a=c*b by grind,zero_add]at h2
instance:Lean.Grind.OrderedRing RE where
 add_le_left_iff {a b} c:=⟨λh h'=>h (by
   have:=mM (-c) h';rw[add_assoc,add_assoc,kZ,add_zero,add_zero]at this;exact this),λh h'=>h (mM c h')⟩
 zero_lt_one:=zero_lt_one
 mul_lt_mul_of_pos_left:=GH
 mul_lt_mul_of_pos_right {a b c} h hc:=by
  rw[mul_comm a,mul_comm b];exact GH h hc
theorem HA{c:Rat}(hc:(0:Rat)<c){a:RE}(h:0<a):0<of c*a:=mul_pos (jF hc) h
theorem ld{c:Rat}(hc:(0:Rat)<c){a:RE}(h:0<=a):0<=of c*a:=cz (le_of_lt (jF hc)) h
theorem far{s:RE}(h:0<s)(e:s=0):False:=by rw[e]at h;exact lt_irrefl _ h
theorem PJ(x y:RE):((y*y-(x*x)))+((x-(0))*(x-(y)))+((y-(0))*(x-(y)))=0:=by grind
theorem sq_lt(x y:RE)(h1:0<=x)(h2:0<=y)(h3:x*x<y*y):x<y:=xN.1 λhg=>far (aS (aS (aX h3) (cz (aK h1) (aK hg))) (cz (aK h2) (aK hg))) (PJ x y)
theorem Si(x y:RE):((x-(y))*(x-(y)))+((y*y-(x*x)))+2*((y-(0))*(x-(y)))=0:=by grind
theorem Ny(x y:RE)(_h1:0<=x)(h2:0<=y)(h3:x*x<=y*y):x<=y:=λhg=>far (aS (aS (mul_pos (aX hg) (aX hg)) (aK h3)) (ld (by decide+kernel:(0:Rat)<2) (cz (aK h2) (le_of_lt (aX hg))))) (Si x y)
theorem I4(x y:RE):((x*x-(y*y)))+2*((x-(0))*(y-(x)))+((y-(x))*(y-(x)))=0:=by grind
theorem sh(x y:RE)(h1:0<=x)(h2:x<=y):x*x<=y*y:=λhg=>far (aS (aS (aX hg) (ld (by decide+kernel:(0:Rat)<2) (cz (aK h1) (aK h2)))) (cz (aK h2) (aK h2))) (I4 x y)
theorem Zo(x y:RE):((y-(x))*(y-(x)))+((x*x-(y*y)))+2*((x-(0))*(y-(x)))=0:=by grind
theorem Nb(x y:RE):((x-(y))*(x-(y)))+((y*y-(x*x)))+2*((y-(0))*(x-(y)))=0:=by grind
theorem X4(x y:RE)(_h1:0<=x)(h2:0<=y)(h3:x*x=y*y):x<=y:=λhg=>far (aS (aS (mul_pos (aX hg) (aX hg)) (aK (sC h3))) (ld (by decide+kernel:(0:Rat)<2) (cz (aK h2) (le_of_lt (aX hg))))) (Nb x y)
theorem JH(x y:RE):((y-(x))*(y-(x)))+((x*x-(y*y)))+2*((x-(0))*(y-(x)))=0:=by grind
theorem Y0(x y:RE)(h1:0<=x)(_h2:0<=y)(h3:x*x=y*y):y<=x:=λhg=>far (aS (aS (mul_pos (aX hg) (aX hg)) (aK (rE h3))) (ld (by decide+kernel:(0:Rat)<2) (cz (aK h1) (le_of_lt (aX hg))))) (JH x y)
theorem SP(x y:RE)(h1:0<=x)(h2:0<=y)(h3:x*x=y*y):x=y:=le_antisymm (X4 x y h1 h2 h3) (Y0 x y h1 h2 h3)
end RE
end
end Go.Proofs.YtagbmoohboleaaaGreat
end
