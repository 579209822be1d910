/- integer: divide, its contract. -/
import Derived.Test.YtagbmoohboleaaaGreatK7
noncomputable section
namespace Go.Proofs.YtagbmoohboleaaaGreat
open Go.RowKit Go.IntKind
theorem anE:type_of% @Rat.mul_pos:=@Rat.mul_pos
theorem anW:type_of% @List.length_pos_iff:=@List.length_pos_iff
theorem aoa:type_of% @Quotient.inductionOn:=@Quotient.inductionOn
theorem aof:type_of% @Rat.num_divInt_den:=@Rat.num_divInt_den
theorem aol:type_of% @Int.eq_ofNat_of_zero_le:=@Int.eq_ofNat_of_zero_le
theorem aop:type_of% @beq_iff_eq:=@beq_iff_eq
theorem aoJ:type_of% @Int.natAbs_natCast:=@Int.natAbs_natCast
theorem aoN:type_of% @Rat.mul_comm:=@Rat.mul_comm
theorem ao1:type_of% @Int.lt_or_lt_of_ne:=@Int.lt_or_lt_of_ne
theorem apa:type_of% @Bool.decide_and:=@Bool.decide_and
theorem apb:type_of% @Rat.div_def:=@Rat.div_def
theorem api:type_of% @Nat.gcd_comm:=@Nat.gcd_comm
theorem apj:type_of% @Quotient.inductionOn₃:=@Quotient.inductionOn₃
theorem apA:type_of% @Rat.divInt_ofNat:=@Rat.divInt_ofNat
theorem apB:type_of% @Quotient.sound:=@Quotient.sound
theorem apG:type_of% @Rat.sub_eq_add_neg:=@Rat.sub_eq_add_neg
theorem apO:type_of% @Nat.mul_ne_zero:=@Nat.mul_ne_zero
theorem apP:type_of% @Int.mul_ne_zero:=@Int.mul_ne_zero
theorem apR:type_of% @Rat.divInt_mul_divInt:=@Rat.divInt_mul_divInt
theorem apS:type_of% @Rat.inv_pos:=@Rat.inv_pos
theorem apT:type_of% @Quotient.inductionOn₂:=@Quotient.inductionOn₂
theorem ap4:type_of% @Int.natAbs_mul:=@Int.natAbs_mul
theorem aqf:type_of% @Rat.num_mkRat:=@Rat.num_mkRat
theorem aqg:type_of% @Rat.den_mkRat:=@Rat.den_mkRat
def qM(a b:List Int):Prop:=(Lim a/\a.length<=100000000)/\(Lim b/\b.length<=100000000)/\0<val b
instance (a b:List Int):Decidable (qM a b):=by unfold qM;infer_instance
structure afT (a b q r:List Int):Prop where
 lq:Lim q
 lr:Lim r
 sq:q.length<=200000000
 sr:r.length<=200000000
 q:val q=val a/val b
 r:val r=val a%val b
theorem xX(x:Int):val [x]=x:=by simp[val]
theorem wF{l:List Int}(h:can l){m:Nat}(hl:l.length=m+1):1<=l[m]:=by
 have h2:=h.2;have h1:=h.1.get (show m<l.length by omega);grind
set_option maxHeartbeats 1000000 in
theorem HJ(a b:List Int)(h:qM a b):∃q r,afT a b q r/\CQq7 301 [.d aqv a,.d aqv b] [.d aqv q,.d aqv r]:=by
 obtain⟨⟨la,sa⟩,⟨lb,sb⟩,hb⟩:=h;have ha:aU a:=⟨la,by omega⟩
 have hb':aU b:=⟨lb,by omega⟩
 have va:=bG (val a).toNat
 have vb:=bG (val b).toNat
 have na:=aT la;have va':val (ag (val a).toNat)=val a:=by omega
 have vb':val (ag (val b).toNat)=val b:=by omega
 have lna:=ld la;have lnb:=ld lb;have ca:=fc (val a).toNat
 have cb:=fc (val b).toNat
 have hla:aU (ag (val a).toNat):=⟨ca.1,by omega⟩
 have hlb:aU (ag (val b).toNat):=⟨cb.1,by omega⟩
 have go:∀{q r},iD.Res 301 [.d aqv a,.d aqv b] [.d aqv q,.d aqv r]->CQq7 301 [.d aqv a,.d aqv b] [.d aqv q,.d aqv r]:=λhr=>gJ Lm hr;have hb0:ag (val b).toNat≠[]:=λe=>by rw[ja]at e;omega
 by_cases h1:(ag (val b).toNat).length=1
 ·have t1:=wF cb (m:=0) h1;have t2:=cb.1.get (show 0<(ag (val b).toNat).length by omega)
  have e0:(ag (val b).toNat)[0]=val b:=by
   obtain⟨x,hx⟩:=List.length_eq_one_iff.1 h1;have:=vb';rw[hx,xX]at this;simp[hx,this]
  have hq0:0<=val a/val b:=aoe na (by omega);have hq1:val a/val b<=val a:=ao3 _ na;have hr0:=aoj (val a) (show val b≠0 by omega);have hr1:=anV (val a) hb;have hal:=b9 ca.1;refine⟨dig (ag (val a).toNat).length (val a/val b),[val a%val b],⟨oS _ _,Lim.cons ⟨hr0,by omega⟩ Lim.nil,by rw[jV];omega,by simp,jr _ _ hq0 (by omega),xX _⟩,go (MK _ _ ⟨0,?_⟩)⟩;unfold KN;rw[anb ha,anb hb',h1,AT,anc (show 0<(ag (val b).toNat).length by omega),e0];dsimp only;rw[anb (show Fa (ag (val a).toNat) (val b) from⟨hla,by omega,by omega⟩),va'];rfl
 have hlen:2<=(ag (val b).toNat).length:=by
  rcases anT (ag (val b).toNat).length 2 with h|h
  ·exfalso;have:(ag (val b).toNat).length≠0:=λe=>hb0 (ao2 e);omega
  ·exact h
 by_cases hlt:val a<val b
 ·refine⟨[],ag (val a).toNat,⟨Lim.nil,ca.1,by simp,by omega,?_,?_⟩,go (MK _ _ ⟨0,?_⟩)⟩
  ·rw[aos na hlt];rfl
  ·rw[apo na hlt];exact va'
  ·unfold KN;rw[anb ha,anb hb',show(((ag (val b).toNat).length:Int)==1)=false by simp;omega,anb (show aU (ag (val a).toNat)/\aU (ag (val b).toNat) from⟨hla,hlb⟩),va',vb',dl hlt,anb (show(ag (val a).toNat).length*4<=140737488355328/\(ag (val a).toNat).length<=140737488355328 by omega)];rfl
 ·obtain⟨m,hm⟩:∃m,(ag (val b).toNat).length=m+2:=⟨(ag (val b).toNat).length-2,by omega⟩
  have hxm:m+1<(ag (val b).toNat).length:=by omega
  have t1:=wF cb (m:=m+1) hm;have t2:=cb.1.get hxm;generalize hx2:(ag (val b).toNat)[m+1]=x2 at t1 t2;obtain⟨s1,s2,s3,s4⟩:=PX t1 t2.2
  have esc:u32.wrap (u64.wrap (Int.tdiv 1000000000 (u64.wrap ((u64.wrap x2)+1))))=1000000000/(x2+1):=by
   rw[bI (x:=x2) (by omega) (by omega),bI (x:=x2+1) (by omega) (by omega),iZ (by omega),bI (x:=1000000000/(x2+1)) (by omega) (by omega),dh (x:=1000000000/(x2+1)) (by omega) (by omega)]
  generalize hsc:1000000000/(x2+1)=sc at s1 s2 s3 s4 esc;have hsl:aU [sc]:=⟨Lim.cons ⟨by omega,by omega⟩ Lim.nil,by simp⟩
  have hbl:=b9 cb.1;rw[vb',hm]at hbl;have hP:=cB (m+1);have hbtop:=a8 hxm;rw[aog (by omega),vb',hx2]at hbtop;have hbt0:=aT (cb.1.take (m+1));have hbt1:=b9 (cb.1.take (m+1));rw[anY,an0 (by omega)]at hbt1
  have hVhi:val b*sc<pw (m+2):=by
   have e1:val b*sc<(pw (m+1)*(x2+1))*sc:=Int.mul_lt_mul_of_pos_right (by rw[aqs,apw];omega) (by omega);have e2:(pw (m+1)*(x2+1))*sc=pw (m+1)*((x2+1)*sc):=Int.mul_assoc _ _ _;have e3:pw (m+1)*((x2+1)*sc)<=pw (m+1)*1000000000:=ank s3 (anU hP);rw[ce];omega
  have hVlo:pw (m+1)*500000000<=val b*sc:=by
   have e1:pw (m+1)*x2*sc<=val b*sc:=anp (by omega) (by omega);have e2:pw (m+1)*x2*sc=pw (m+1)*(x2*sc):=Int.mul_assoc _ _ _;have e3:pw (m+1)*500000000<=pw (m+1)*(x2*sc):=ank s4 (anU hP);omega
  have hV0:0<val b*sc:=Int.mul_pos hb (by omega);have edv:val (dig (m+2+1) (val b*sc))=val b*sc:=jr _ _ (by omega) (by rw[ce];omega);obtain⟨v,hv⟩:∃v,ag (val b*sc).toNat=v:=⟨_,rfl⟩
  have cv:=fc (val b*sc).toNat
  have vv:=bG (val b*sc).toNat
  rw[hv]at cv vv;have hvv:val v=val b*sc:=by omega
  have hvl:v.length=m+2:=by
   have h1:v.length<=m+2:=by rw[<-hv];exact dJ (by omega)
   have h2:m+1<v.length:=by rw[<-hv];exact DC (by omega)
   omega
  have htop:500000000<=v[m+1]:=by
   rcases anL v[m+1] 500000000 with hc|hc
   ·exfalso;have e1:=a8 (l:=v) (n:=m+1) (by omega);rw[aog (by omega),hvv]at e1;have e2:=b9 (cv.1.take (m+1));rw[anY,an0 (by omega)]at e2;have e3:=ank (show v[m+1]<=499999999 by omega) (anU hP);omega
   ·exact hc
  have hal:=b9 ca.1;rw[va']at hal;have hA0:0<=val a*sc:=an9 na (by omega)
  have hA1:val a*sc<pw ((ag (val a).toNat).length+1):=by
   have e1:val a*sc<=pw (ag (val a).toNat).length*sc:=anp (by omega) (by omega);have e2:pw (ag (val a).toNat).length*sc<pw (ag (val a).toNat).length*1000000000:=Int.mul_lt_mul_of_pos_left (by omega) (cB _);rw[ce];omega
  have lab:m+2<=(ag (val a).toNat).length:=by
   rw[<-hm];rcases anT (ag (val a).toNat).length (ag (val b).toNat).length with hc|hc
   ·have:=yg hc;omega
   ·exact hc
  generalize hlA:(ag (val a).toNat).length=L at*
  have hdl:(dig (L+1) (val a*sc)++[0]).length=L+2:=by simp[jV]
  have hdv:val (dig (L+1) (val a*sc)++[0])=val a*sc:=by rw[dO,jr _ _ hA0 hA1];simp[val]
  have hmul:=hvv
  obtain⟨q,r,⟨f1,f2,f3,f4,f5,f6⟩,n,hrun⟩:=PV b x2 v m hm (by rw[esc,hm,vb',xX];simp only[anC];rw[edv];exact hv) cv.1 hvl sc esc s1 s2 htop (val a*sc) (L-m) (List.replicate (L-m) 0) (dig (L+1) (val a*sc)++[0])
   (Lim.rep _) ((oS _ _).append (Lim.cons (by decide) Lim.nil)) (by rw[hdl];simp;omega) (by rw[hdl];omega) (by simp) (by rw[iK,hdv];omega) (λj hj _=>by simp) (by
    rw[hdv,hvv];have e1:pw (m+1)*500000000*pw (L-m)<=val b*sc*pw (L-m):=anp hVlo (anU (cB _))
    have e2:pw (m+1)*500000000*pw (L-m)=pw (L+1)*500000000:=by
     rw[show L+1=m+1+(L-m) by omega,gh (m+1) (L-m),Int.mul_right_comm]
    have:=cB (L+1);omega)
  have hq:val a*sc/(val b*sc)=val a/val b:=Int.mul_ediv_mul_of_pos_left _ _ (by omega)
  have hr:val a*sc%(val b*sc)/sc=val a%val b:=by
   rw[aoY (val a),aoY (val b),Int.mul_emod_mul_of_pos _ _ (by omega),aoY];exact Int.mul_ediv_cancel _ (by omega)
  rw[hvv]at f5 f6;rw[hq]at f5;rw[hr]at f6;refine⟨q,r,⟨f1,f2,by rw[f3];simp;omega,by omega,f5,f6⟩,go (MK _ _ ⟨n,?_⟩)⟩;unfold KN;have e1:i64.wrap (((m+2:Nat):Int)-1)=((m+1:Nat):Int):=by rw[aV (by omega) (by omega)];omega
  have e2:i64.wrap (((L+2:Nat):Int)-((m+2:Nat):Int))=((L-m:Nat):Int):=by rw[aV (by omega) (by omega)];omega
  have e3:i64.wrap (((L-m:Nat):Int)-1)=((L-m:Nat):Int)-1:=aV (by omega) (by omega)
  rw[anb ha,anb hb',hm,show(((m+2:Nat):Int)==1)=false by simp;omega,anb (show aU (ag (val a).toNat)/\aU (ag (val b).toNat) from⟨hla,hlb⟩),va',vb',show decide (cE (val a) (val b)<0)=false by
   rcases anL (val b) (val a)with hc|hc
   ·rw[cX hc];rfl
   ·rw[show val a=val b by omega,eM];rfl,e1,aq (ag (val b).toNat) (m+1),anc hxm,hx2]
  dsimp only;rw[esc,bI (x:=x2) (by omega) (by omega),bI (x:=x2+1) (by omega) (by omega),ane (show ¬x2+1=0 by omega),anb (show aU (ag (val a).toNat)/\aU [sc] from⟨hla,hsl⟩),anb (show aU (ag (val b).toNat)/\aU [sc] from⟨hlb,hsl⟩),xX,hlA];rw[anC,anC,hdl,jV (L+1)];rw[anb (show(L+1+1)*4<=140737488355328/\L+1+1<=140737488355328 by omega),anb (show aU (dig (m+2+1) (val b*sc)) from kv (by omega) _),e2,vw (by omega),aE,e3];exact hrun
abbrev BI:=Bool×List Int
def okI(x:BI):Prop:=can x.2/\(x.1=true->x.2≠[])/\x.2.length<=1000000
instance (x:BI):Decidable (okI x):=by unfold okI;infer_instance
theorem bR(x:BI):ae x=cg x.1 (val x.2):=rfl
theorem jw{x:BI}(h:okI x):x=ai (ae x):=by
 obtain⟨h1,h2,h3⟩:=h;grind [bR,oJ,ro,val,fC]
def szI(z:Int):Nat:=(ag z.natAbs).length
theorem aW{z:Int}(h:szI z<=1000000):okI (ai z):=by
 refine⟨fc _,λe=>?_,h⟩;grind [ai,ja]
theorem fV{z:Int}{k:Nat}(h1: -pw k<z)(h2:z<pw k):szI z<=k:=dJ (by omega)
theorem IE(z:Int): -pw (szI z)<z/\z<pw (szI z):=by
 have h:=b9 (cd z.natAbs);grind [bG,szI]
theorem pD{z:Int}{k:Nat}(h:szI z<=k): -pw k<z/\z<pw k:=by
 have h1:=IE z;have h2:=dH h;omega
theorem ke(z:Int):szI (-z)=szI z:=by simp[szI]
theorem xT{a b:Int}{k:Nat}(h1:szI a<=k)(h2:szI b<=k):szI (a+b)<=k+1:=by
 have e1:=pD h1;have e2:=pD h2;exact fV (by rw[ce];omega) (by rw[ce];omega)
theorem cY{a b:Int}{j k:Nat}(h1:szI a<=j)(h2:szI b<=k):szI (a*b)<=j+k:=by
 have e1:=pD h1;have e2:=pD h2
 have h:(a*b).natAbs<(pw (j+k)).toNat:=by
  rw[ap4,gh];have:(pw j*pw k).toNat=(pw j).toNat*(pw k).toNat:=Int.toNat_mul (by omega) (by omega);rw[this];exact Nat.mul_lt_mul'' (by omega) (by omega)
 exact fV (by omega) (by omega)
theorem dP{a b:Int}(h:a.natAbs<=b.natAbs):szI a<=szI b:=by
 have:=IE b;exact fV (by omega) (by omega)
theorem jJ{x:BI}(h:okI x):szI (ae x)<=1000000:=by
 have:=jw h;have h3:=h.2.2;rwa [this]at h3
theorem gY{x:BI}(h:okI x):aU x.2:=⟨h.1.1,by have:=h.2.2;omega⟩
theorem cN{x:BI}(h:okI x):0<=val x.2/\(x.1=true->0<val x.2)/\(x.2=[]↔val x.2=0):=by
 refine⟨aT h.1.1,λe=>fC h.1 (h.2.1 e),⟨λe=>by rw[e];rfl,λe=>?_⟩⟩;rcases List.eq_nil_or_concat x.2 with h'|⟨l,y,h'⟩
 ·omega
 ·have:=fC h.1 (by rw[h'];simp);omega
def qv:fb:=spN false false [aqw] (λx=>decide (aJ x.1)) (λx=>[RV.d y2Y (ai x.1)])
theorem lW:SpK 223 qv:=spX λx h=>KA x.1 (anf h)
def dvQ(a b:List Int):List Int:=if h:qM a b then Classical.choose (HJ a b h)else []
def dvR(a b:List Int):List Int:=if h:qM a b then Classical.choose (aod (HJ a b h))else []
theorem ZZ{a b:List Int}(h:qM a b):afT a b (dvQ a b) (dvR a b):=by grind [dvQ,dvR]
theorem XG(a b:List Int)(h:qM a b):CQq7 301 [.d aqv a,.d aqv b] [.d aqv (dvQ a b),.d aqv (dvR a b)]:=by
 unfold dvQ dvR;rw[dif_pos h,dif_pos h];exact(aod (aod (HJ a b h))).2
def Ht:fb:=spN false false [aqv,aqv] (λx=>decide (qM x.1 x.2.1)) (λx=>[RV.d aqv (dvQ x.1 x.2.1),RV.d aqv (dvR x.1 x.2.1)])
theorem Ec:SpK 301 Ht:=spX λx h=>XG x.1 x.2.1 (anf h)
def t6:Env:=[(248,zS),(287,DJ),(288,Id),(289,He),(249,HS),(247,Gy),(223,qv),(301,Ht)]
theorem lw:EnvAll Tryz.prog t6:=⟨u7,yS,Gc,FW,F0,Gj,lW,Ec,trivial⟩
def ahK:Ctx:=CX t6 []
def Ze(x y:Bool×List Int)(_k:KT):OLR:=match !(x.1==y.1)with|true=>(match x.1 with|true=>some [RV.d aqw (-1)]|false=>some [RV.d aqw 1])|false=>(match x.1 with|true=>(og (decide (aU y.2/\aU x.2)) (some [RV.d aqw (cE (val y.2) (val x.2))]))|false=>(og (decide (aU x.2/\aU y.2)) (some [RV.d aqw (cE (val x.2) (val y.2))])))
theorem aku(x y:Bool×List Int):RS ahK 163 [.d y2Y x,.d y2Y y] (Ze x y):=rsX
def agy:Ctx:=CX t6 []
def XY(x y:Bool×List Int)(_k:KT):OLR:=match x.1==y.1 with|true=>(og (decide (aU x.2/\aU y.2)) (og (decide (aU (dig (max x.2.length y.2.length+1) (val x.2+val y.2)))) (some [RV.d y2Y (ai (cg x.1 (val (dig (max x.2.length y.2.length+1) (val x.2+val y.2)))))])))|false=>(og (decide (aU x.2/\aU y.2)) (match decide ((cE (val x.2) (val y.2))<0)with|true=>(og (decide (ql y.2 x.2)) (og (decide (aU (dig y.2.length (val y.2-val x.2)))) (some [RV.d y2Y (ai (cg y.1 (val (dig y.2.length (val y.2-val x.2)))))])))|false=>(og (decide (ql x.2 y.2)) (og (decide (aU (dig x.2.length (val x.2-val y.2)))) (some [RV.d y2Y (ai (cg x.1 (val (dig x.2.length (val x.2-val y.2)))))])))))
theorem aiP(x y:Bool×List Int):RS agy 227 [.d y2Y x,.d y2Y y] (XY x y):=rsX
def ahS:Ctx:=CX t6 []
def XZ(x y:Bool×List Int)(_k:KT):OLR:=og (decide (aU x.2/\aU y.2)) (og (decide (aU (dig (x.2.length+y.2.length) (val x.2*val y.2)))) (some [RV.d y2Y (ai (cg (!(x.1==y.1)) (val (dig (x.2.length+y.2.length) (val x.2*val y.2)))))]))
theorem agW(x y:Bool×List Int):RS ahS 164 [.d y2Y x,.d y2Y y] (XZ x y):=rsX
def age:Ctx:=CX t6 []
def aaD(x:Bool×List Int)(_k:KT):OLR:=og (decide (x.2.length*4<=140737488355328/\x.2.length<=140737488355328)) (og (decide (aU x.2)) (some [RV.d y2Y (ai (cg (!x.1) (val x.2)))]))
theorem agi(x:Bool×List Int):RS age 228 [.d y2Y x] (aaD x):=rsX
def afX:Ctx:=CX t6 []
def XW(x:Bool×List Int)(_k:KT):OLR:=match x.1 with|true=>some [RV.d aqw (-1)]|false=>(match decide ((x.2.length:Int)>0)with|true=>some [RV.d aqw 1]|false=>some [RV.d aqw 0])
theorem agT(x:Bool×List Int):RS afX 117 [.d y2Y x] (XW x):=rsX
theorem Vb(x:BI)(h:okI x):CQq7 117 [.d y2Y x] [.d aqw (cE (ae x) 0)]:=by
 refine gJ lw (agT _ ⟨0,?_⟩);obtain⟨h0,h1,h2⟩:=cN h;unfold XW;rw[bR];unfold cg;cases hx:x.1
 ·simp only[cond_false];rcases anL 0 (val x.2)with hc|hc
  ·have:x.2≠[]:=λe=>by rw[h2]at e;omega
   have:=anW.2 this;rw[anb (by omega),cX hc]
  ·have e:x.2=[]:=h2.2 (by omega);rw[e];rfl
 ·simp only[cond_true];rw[dl (by have:=h1 hx;omega)]
theorem KO{a b:Int}(_ha:0<=a)(_hb:0<=b):cE (-a) (-b)=cE b a:=by grind [cX,eM,dl]
theorem Jc(x y:BI)(h:okI x/\okI y):CQq7 163 [.d y2Y x,.d y2Y y] [.d aqw (cE (ae x) (ae y))]:=by
 refine gJ lw (aku _ _ ⟨0,?_⟩);obtain⟨hx,hy⟩:=h;obtain⟨x0,x1,x2⟩:=cN hx;obtain⟨y0,y1,y2⟩:=cN hy;have lx:=gY hx;have ly:=gY hy;unfold Ze;rw[bR,bR,anb (show aU x.2/\aU y.2 from⟨lx,ly⟩),anb (show aU y.2/\aU x.2 from⟨ly,lx⟩)];unfold cg;cases ex:x.1<;>cases ey:y.1<;>simp only[cond_true,cond_false]
 ·rfl
 ·have:=y1 ey;rw[cX (a:=val x.2) (b:= -val y.2) (by omega)];rfl
 ·have:=x1 ex;rw[dl (a:= -val x.2) (b:=val y.2) (by omega)];rfl
 ·rw[KO x0 y0];rfl
theorem R5{a b:List Int}(ha:Lim a)(hb:Lim b):val (dig (max a.length b.length+1) (val a+val b))=val a+val b:=by
 have h1:=b9 ha;have h2:=b9 hb;have h3:=aT ha;have h4:=aT hb;have h5:=dH (Nat.le_max_left a.length b.length);have h6:=dH (Nat.le_max_right a.length b.length);grind [jr,ce]
theorem Bu{a b:List Int}(ha:Lim a)(hb:Lim b)(hle:val b<=val a):val (dig a.length (val a-val b))=val a-val b:=by
 have h1:=b9 ha;have h4:=aT hb;grind [jr]
theorem Ma{a b:List Int}(ha:Lim a)(hb:Lim b):val (dig (a.length+b.length) (val a*val b))=val a*val b:=by
 have h1:=b9 ha;have h2:=b9 hb;have h3:=aT ha;have h4:=aT hb;refine jr _ _ (an9 h3 h4) ?_;rw[gh];have e1:=anp (anU h1) h4;have e2:=Int.mul_lt_mul_of_pos_left h2 (cB a.length);omega
theorem Vx(x y:BI)(h:okI x/\okI y):CQq7 227 [.d y2Y x,.d y2Y y] [.d y2Y (ai (ae x+ae y))]:=by
 refine gJ lw (aiP _ _ ⟨0,?_⟩);obtain⟨hx,hy⟩:=h;obtain⟨x0,x1,x2⟩:=cN hx;obtain⟨y0,y1,y2⟩:=cN hy;have lx:=gY hx;have ly:=gY hy;have sx:=hx.2.2;have sy:=hy.2.2;unfold XY;rw[bR,bR,anb (show aU x.2/\aU y.2 from⟨lx,ly⟩),anb (show aU (dig (max x.2.length y.2.length+1) (val x.2+val y.2)) from kv (by omega) _),R5 lx.1 ly.1,anb (show aU (dig x.2.length (val x.2-val y.2)) from kv (by omega) _),anb (show aU (dig y.2.length (val y.2-val x.2)) from kv (by omega) _)];cases hs:x.1==y.1
 ·dsimp only;rcases anL (val x.2) (val y.2)with hc|hc
  ·rw[dl hc,anb (show(-1:Int)<0 by decide),anb (show ql y.2 x.2 from⟨ly,lx,by omega⟩),Bu ly.1 lx.1 (by omega)];dsimp only;unfold cg;cases ex:x.1<;>cases ey:y.1<;>simp_all<;>congr 2<;>omega
  ·have hcm:decide (cE (val x.2) (val y.2)<0)=false:=by
    rcases anL (val y.2) (val x.2)with h|h
    ·rw[cX h];rfl
    ·rw[show val x.2=val y.2 by omega,eM];rfl
   rw[hcm,anb (show ql x.2 y.2 from⟨lx,ly,hc⟩),Bu lx.1 ly.1 hc];dsimp only;unfold cg;cases ex:x.1<;>cases ey:y.1<;>simp_all<;>congr 2<;>omega
 ·dsimp only;have e:=aop.1 hs;rw[<-e];unfold cg;cases x.1
  ·rfl
  ·simp only[cond_true];rw[show-(val x.2+val y.2)= -val x.2+ -val y.2 by omega]
theorem KZ(x:BI)(h:okI x):CQq7 228 [.d y2Y x] [.d y2Y (ai (-ae x))]:=by
 refine gJ lw (agi _ ⟨0,?_⟩);have sx:=h.2.2;unfold aaD;rw[bR,anb (show x.2.length*4<=140737488355328/\x.2.length<=140737488355328 by omega),anb (gY h)];unfold cg;cases x.1<;>simp
theorem Ka(x y:BI)(h:okI x/\okI y):CQq7 164 [.d y2Y x,.d y2Y y] [.d y2Y (ai (ae x*ae y))]:=by
 refine gJ lw (agW _ _ ⟨0,?_⟩);obtain⟨hx,hy⟩:=h;have lx:=gY hx;have ly:=gY hy;have sx:=hx.2.2;have sy:=hy.2.2;unfold XZ;rw[bR,bR,anb (show aU x.2/\aU y.2 from⟨lx,ly⟩),anb (show aU (dig (x.2.length+y.2.length) (val x.2*val y.2)) from kv (by omega) _),Ma lx.1 ly.1];unfold cg;cases x.1<;>cases y.1<;>simp[Int.neg_mul,ap6]
def qQ:fb:=spN false false [y2Y,y2Y] (λx=>decide (okI x.1/\okI x.2.1)) (λx=>[RV.d y2Y (ai (ae x.1+ae x.2.1))])
theorem lN:SpK 227 qQ:=spX λx h=>Vx x.1 x.2.1 (anf h)
def HL:Env:=(227,qQ)::t6
theorem AO:EnvAll Tryz.prog HL:=⟨lN,lw⟩
def ag2:Ctx:=CX HL []
def Zx(x y:Bool×List Int)(_k:KT):OLR:=match !y.1 with|true=>(og (decide (okI x/\okI (decide ((y.2.length:Int)>0),y.2))) (some [RV.d y2Y (ai (ae x+ae (decide ((y.2.length:Int)>0),y.2)))]))|false=>(og (decide (okI x/\okI (false,y.2))) (some [RV.d y2Y (ai (ae x+ae (false,y.2)))]))
theorem aj5(x y:Bool×List Int):RS ag2 325 [.d y2Y x,.d y2Y y] (Zx x y):=rsX
theorem QW{y:BI}(h:okI y):okI (!y.1&&decide ((y.2.length:Int)>0),y.2)/\ae (!y.1&&decide ((y.2.length:Int)>0),y.2)= -ae y:=by
 refine⟨⟨h.1,λe=>?_,h.2.2⟩,?_⟩
 ·grind
 grind [bR,cg,val,anW]
theorem Vq(x y:BI)(h:okI x/\okI y):CQq7 325 [.d y2Y x,.d y2Y y] [.d y2Y (ai (ae x-ae y))]:=by
 refine gJ AO (aj5 _ _ ⟨0,?_⟩);obtain⟨hx,hy⟩:=h;obtain⟨f1,f2⟩:=QW hy;rw[Int.sub_eq_add_neg,<-f2];unfold Zx;cases ey:y.1
 ·rw[ey]at f1;simp only[Bool.not_false,aow]at f1 ⊢;rw[anb ⟨hx,f1⟩]
 ·rw[ey]at f1;simp only[Bool.not_true,Bool.false_and]at f1 ⊢;rw[anb ⟨hx,f1⟩]
def MV:fb:=spN false false [y2Y,y2Y] (λx=>decide (okI x.1/\okI x.2.1)) (λx=>[RV.d y2Y (ai (ae x.1-ae x.2.1))])
theorem P3:SpK 325 MV:=spX λx h=>Vq x.1 x.2.1 (anf h)
def ST:Env:=(325,MV)::HL
theorem Mt:EnvAll Tryz.prog ST:=⟨P3,AO⟩
def af7:Ctx:=CX ST []
def aak(x y:Bool×List Int)(_k:KT):OLR:=let y1:=aU (dvQ x.2 y.2);let y2:=aU (dvR x.2 y.2);let y3:=ai (cg x.1 (val (dvR x.2 y.2)));let y4:=ai (cg (!(x.1==y.1)) (val (dvQ x.2 y.2)));let y5:OLR:=match decide (((y3.2).length:Int)>0)with|true=>(match !((y3.1)==y.1)with|true=>(og (decide (aJ (1:Int))) (og (decide (okI y4/\okI (ai (1:Int)))) (og (decide (okI y3/\okI y)) (dup (.b .l .l) (some [RV.d y2Y (ai (ae y4-ae (ai (1:Int)))),RV.d y2Y (ai (ae y3+ae y)),RV.d aqw 0])))))|false=>dup (.b .l .l) (some [RV.d y2Y y4,RV.d y2Y y3,RV.d aqw 0]))|false=>dup (.b .l .l) (some [RV.d y2Y y4,RV.d y2Y y3,RV.d aqw 0]);let y6:OLR:=match decide y2 with|true=>y5|false=>none;match(y.2.length:Int)==0 with|true=>some [RV.d y2Y (false,[]),RV.d y2Y (false,[]),RV.d aqw 6]|false=>(og (decide (qM x.2 y.2)) (cD (og (decide y1) (cD (og (decide y2) (dup (.b .l .l) y5)) (dup (.b (.b .l .l) (.b .l .l)) y6))) (dup (.b .l .l) (cD (og (decide y1) (dup (.b .l .l) y6)) (og (decide y1) y6)))))
theorem aif(x y:Bool×List Int):RS af7 302 [.d y2Y x,.d y2Y y] (aak x y):=rsX
def ga(x y:BI):Prop:=okI x/\okI y/\0<ae y
instance (x y:BI):Decidable (ga x y):=by unfold ga;infer_instance
theorem JO{a b:Int}(_ha:0<=a)(hb:0<b):(a%b=0-> -a/b= -(a/b)/\ -a%b=0)/\(0<a%b-> -a/b= -(a/b)-1/\ -a%b= -(a%b)+b):=by
 have h1:=aoj a (show b≠0 by omega);have h2:=anV a hb;have h3:=an1 a b;constructor
 ·intro h;have e: -a=b* -(a/b):=by rw[ap6];omega
  constructor
  ·rw[e,app _ (by omega)]
  ·rw[e,Int.mul_emod_right]
 ·intro h;have e: -a=(b-a%b)+b*(-(a/b)-1):=by rw[Int.mul_sub,ap6,apw];omega
  constructor
  ·rw[e,aoX _ _ (by omega),aos (by omega) (by omega)];omega
  ·rw[e,ape,apo (by omega) (by omega)];omega
theorem rK:okI (ai 1):=by decide
theorem DD(n:Bool){v:Int}:szI (cg n v)=szI v:=by unfold cg;cases n<;>simp[ke]
theorem J5(x y:BI)(h:ga x y):CQq7 302 [.d y2Y x,.d y2Y y] [.d y2Y (ai (ae x/ae y)),.d y2Y (ai (ae x%ae y)),.d aqw 0]:=by
 refine gJ Mt (aif _ _ ⟨0,?_⟩);obtain⟨hx,hy,hp⟩:=h;obtain⟨x0,x1,x2⟩:=cN hx;obtain⟨y0,y1,y2⟩:=cN hy;have sx:=hx.2.2;have sy:=hy.2.2
 have ey:y.1=false:=by
  cases e:y.1
  ·rfl
  ·rw[bR,e]at hp;simp only[cg,cond_true]at hp;omega
 have dy:ae y=val y.2:=by rw[bR,ey];rfl
 rw[dy]at hp;have hdv:qM x.2 y.2:=⟨⟨hx.1.1,by omega⟩,⟨hy.1.1,by omega⟩,hp⟩
 obtain⟨lq,lr,sq,sr,vq,vr⟩:=ZZ hdv;have hne:y.2≠[]:=λe=>by rw[y2]at e;omega
 have hylen:=anW.2 hne;have r0:=aoj (val x.2) (show val y.2≠0 by omega);have r1:=anV (val x.2) hp;have q0:0<=val x.2/val y.2:=aoe x0 y0;have q1:val x.2/val y.2<=val x.2:=ao3 _ x0;have vx:=b9 hx.1.1;have vy:=b9 hy.1.1;have szq:szI (val x.2/val y.2)<=1000000:=fV (by have:=cB 1000000;omega) (by have:=dH sx;omega);have szr:szI (val x.2%val y.2)<=1000000:=fV (by have:=cB 1000000;omega) (by have:=dH sy;omega);unfold aak;simp only[fE]
 rw[show((y.2.length:Int)==0)=false by simp;omega,anb hdv,anb (show aU (dvQ x.2 y.2) from⟨lq,by omega⟩),anb (show aU (dvR x.2 y.2) from⟨lr,by omega⟩),anb (show aJ 1 by decide),vq,vr,
  anb (show okI (ai (cg (!(x.1==y.1)) (val x.2/val y.2)))/\okI (ai (1:Int)) from⟨aW (by rw[DD];exact szq),rK⟩),anb (show okI (ai (cg x.1 (val x.2%val y.2)))/\okI y from⟨aW (by rw[DD];exact szr),hy⟩)]
 simp only[dec_enc,dy,c8];have hE1:(ai (cg x.1 (val x.2%val y.2))).1=(x.1&&decide (0<val x.2%val y.2)):=by rw[oJ x.1 r0]
 have hE2:(ai (cg x.1 (val x.2%val y.2))).2=ag (val x.2%val y.2).toNat:=by rw[oJ x.1 r0]
 rw[hE1,hE2,bR x,ey]
 have hlen:(((ag (val x.2%val y.2).toNat).length:Int)>0)↔0<val x.2%val y.2:=by
  constructor
  ·intro hl;rcases anL 0 (val x.2%val y.2)with h|h
   ·exact h
   ·rw[show(val x.2%val y.2).toNat=0 by omega,gz]at hl;simp at hl
  ·intro hl;have:ag (val x.2%val y.2).toNat≠[]:=λe=>by rw[ja]at e;omega
   have:=anW.2 this;omega
 obtain⟨n1,n2⟩:=JO (a:=val x.2) (b:=val y.2) x0 hp;rcases anL 0 (val x.2%val y.2)with hr|hr
 ·rw[anb (hlen.2 hr),anb hr];cases x.1
  ·rfl
  ·obtain⟨e1,e2⟩:=n2 hr;simp only[cg,cond_true,Bool.not_false,aow,show((true==false):Bool)=false from rfl];rw[e1,e2]
 ·rw[ane (λh'=>by have:=hlen.1 h';omega)];dsimp only;have e0:val x.2%val y.2=0:=by omega
  cases x.1
  ·simp only[cg,cond_false,show((false==false):Bool)=true from rfl,Bool.not_true]
  ·obtain⟨e1,e2⟩:=n1 e0;simp only[cg,cond_true,show((true==false):Bool)=false from rfl,Bool.not_false];rw[e1,e2,e0];rfl
def lR(x:BI):Bool:=decide (x.2.length<=2)
def AC(x:BI):Int:=bif lR x then val x.2 else 0
def aiO:Ctx:=CX [] []
def abz(x:Bool×List Int)(_k:KT):OLR:=match(x.2.length:Int)==0 with|true=>some [RV.d (.int .u64) 0,RV.d .bool true]|false=>(match(x.2.length:Int)==1 with|true=>(match aS x.2 0 with|some x1=>some [RV.d (.int .u64) (u64.wrap x1),RV.d .bool true]|none=>none)|false=>(match(x.2.length:Int)==2 with|true=>(match aS x.2 1 with|some x2=>(match aS x.2 0 with|some x3=>some [RV.d (.int .u64) (u64.wrap ((u64.wrap ((u64.wrap x2)*1000000000))+(u64.wrap x3))),RV.d .bool true]|none=>none)|none=>none)|false=>some [RV.d (.int .u64) 0,RV.d .bool false]))
theorem ajz(x:Bool×List Int):RS aiO 300 [.d y2Y x] (abz x):=rsX
theorem UV(x:BI)(h:okI x):CQq7 300 [.d y2Y x] [.d (.int .u64) (AC x),.d .bool (lR x)]:=by
 refine gJ (E:=[]) trivial (ajz _ ⟨0,?_⟩);obtain⟨neg,l⟩:=x;have hl:=h.1.1;unfold abz AC lR;match l,hl with
 |[],_=>rfl
 |[a],hl=>
  have:=hl.head;simp only[anC,AT,aoc];rw[bI (x:=a) (by omega) (by omega)];simp[val]
 |[a,b],hl=>
  have h1:=hl.head;have h2:=hl.tail.head;have e1:aS [a,b] 1=some b:=rfl;have e0:aS [a,b] 0=some a:=rfl;simp only[e1,e0,ans,List.length_nil];rw[bI (x:=a) (by omega) (by omega),bI (x:=b) (by omega) (by omega),bI (x:=b*1000000000) (by omega) (by omega),bI (x:=b*1000000000+a) (by omega) (by omega)];rw[show val [a,b]=b*1000000000+a by simp only[val];omega];rfl
 |a::b::c::l,hl=>
  have e:decide ((a::b::c::l).length<=2)=false:=ane (by simp);rw[e,show(((a::b::c::l).length:Int)==0)=false by simp;omega,show(((a::b::c::l).length:Int)==1)=false by simp;omega,show(((a::b::c::l).length:Int)==2)=false by simp;omega];rfl
def Sx:fb:=spN false false [y2Y] (λx=>decide (okI x.1)) (λx=>[RV.d (.int .u64) (AC x.1),RV.d .bool (lR x.1)])
theorem O7:SpK 300 Sx:=spX λx h=>UV x.1 (anf h)
def P7:Env:=[(248,zS),(287,DJ),(301,Ht),(300,Sx)]
theorem LW:EnvAll Tryz.prog P7:=⟨u7,yS,Ec,O7,trivial⟩
def aeg:NT:=[((250,6),{keep:=[4,5,6],hl:=5}),((250,24),{keep:=[4,7,9],hl:=3})]
def jy:Ctx:=CX P7 aeg
def nF(x y:Bool×List Int)(b3_0:Bool)(b3_1:List Int)(b4_0:Bool)(b4_1:List Int):Cfg:=⟨250,[.blk 0,.seq 40],[(4,.box 2 0),(5,.box 3 0),(6,.box 4 0)],[.box 29 [SB x.1,.d aqv x.2],.box 29 [SB y.1,.d aqv y.2],.box 29 [SB false,.nil],.box 29 [SB b3_0,.d aqv b3_1],.box 29 [SB b4_0,.d aqv b4_1]],0,[]⟩
def io(x y:Bool×List Int)(b3_0:Bool)(b3_1:List Int)(b4_0:Bool)(b4_1:List Int):Cfg:=⟨250,[.blk 0,.seq 40],[(4,.box 2 0),(5,.box 4 0),(6,.box 3 0)],[.box 29 [SB x.1,.d aqv x.2],.box 29 [SB y.1,.d aqv y.2],.box 29 [SB false,.nil],.box 29 [SB b3_0,.d aqv b3_1],.box 29 [SB b4_0,.d aqv b4_1]],0,[]⟩
def jW(x y:Bool×List Int)(s7 s9:Int):Cfg:=⟨250,[.blk 2,.seq 33,.seq 37,.blk 1,.lp 6,.blk 0,.seq 40],[(4,.box 2 0),(7,.d (.int .u64) s7),(9,.d (.int .u64) s9)],[.box 29 [SB x.1,.d aqv x.2],.box 29 [SB y.1,.d aqv y.2],.box 29 [SB false,.nil]],0,[]⟩
def aaw(x y:Bool×List Int)(k:KT):OLR:=let y1:=ai (cg false (val x.2));let y2:=ai (cg false (val y.2));let y3:=nF x y (y1.1) (y1.2) (y2.1) (y2.2);let y4:=io x y (y2.1) (y2.2) (y1.1) (y1.2);let y5:OLR:=match decide (aU y.2)with|true=>k 6 y3|false=>none;let y6:OLR:=match decide (aU y.2)with|true=>k 6 y4|false=>none;cD (og (decide (aU x.2)) (cD (og (decide (aU y.2)) (cD (k 6 y3) (k 6 y4))) (cD (dup (.b .l .l) y5) (dup (.b .l .l) y6)))) (cD (cD (og (decide (aU x.2)) (dup (.b .l .l) y5)) (og (decide (aU x.2)) y5)) (cD (og (decide (aU x.2)) (dup (.b .l .l) y6)) (og (decide (aU x.2)) y6)))
theorem aiB(x y:Bool×List Int):RS jy 250 [.d y2Y x,.d y2Y y] (aaw x y):=rsX
def SU(x y:Bool×List Int)(b3_0:Bool)(b3_1:List Int)(b4_0:Bool)(b4_1:List Int)(k:KT):OLR:=match decide ((b4_1.length:Int)>0)with|true=>(og (decide (okI (b3_0,b3_1))) (og (decide (okI (b4_0,b4_1))) (match lR (b3_0,b3_1)with|true=>(match lR (b4_0,b4_1)with|true=>k 24 (jW x y (AC (b3_0,b3_1)) (AC (b4_0,b4_1)))|false=>(og (decide (qM b3_1 b4_1)) (og (decide (aU (dvR b3_1 b4_1))) (k 6 (nF x y b4_0 b4_1 ((ai (cg false (val (dvR b3_1 b4_1)))).1) ((ai (cg false (val (dvR b3_1 b4_1)))).2))))))|false=>(og (decide (qM b3_1 b4_1)) (og (decide (aU (dvR b3_1 b4_1))) (k 6 (nF x y b4_0 b4_1 ((ai (cg false (val (dvR b3_1 b4_1)))).1) ((ai (cg false (val (dvR b3_1 b4_1)))).2))))))))|false=>(og (decide (b3_1.length*4<=140737488355328/\b3_1.length<=140737488355328)) (og (decide (aU b3_1)) (some [RV.d y2Y (ai (cg false (val b3_1)))])))
theorem QZ(x y:Bool×List Int)(b3_0:Bool)(b3_1:List Int)(b4_0:Bool)(b4_1:List Int):RL jy 6 (nF x y b3_0 b3_1 b4_0 b4_1) (SU x y b3_0 b3_1 b4_0 b4_1):=rlX
def Hx(x y:Bool×List Int)(b3_0:Bool)(b3_1:List Int)(b4_0:Bool)(b4_1:List Int)(k:KT):OLR:=match decide ((b3_1.length:Int)>0)with|true=>(og (decide (okI (b4_0,b4_1))) (og (decide (okI (b3_0,b3_1))) (match lR (b4_0,b4_1)with|true=>(match lR (b3_0,b3_1)with|true=>k 24 (jW x y (AC (b4_0,b4_1)) (AC (b3_0,b3_1)))|false=>(og (decide (qM b4_1 b3_1)) (og (decide (aU (dvR b4_1 b3_1))) (k 6 (io x y ((ai (cg false (val (dvR b4_1 b3_1)))).1) ((ai (cg false (val (dvR b4_1 b3_1)))).2) b3_0 b3_1)))))|false=>(og (decide (qM b4_1 b3_1)) (og (decide (aU (dvR b4_1 b3_1))) (k 6 (io x y ((ai (cg false (val (dvR b4_1 b3_1)))).1) ((ai (cg false (val (dvR b4_1 b3_1)))).2) b3_0 b3_1)))))))|false=>(og (decide (b4_1.length*4<=140737488355328/\b4_1.length<=140737488355328)) (og (decide (aU b4_1)) (some [RV.d y2Y (ai (cg false (val b4_1)))])))
theorem GW(x y:Bool×List Int)(b3_0:Bool)(b3_1:List Int)(b4_0:Bool)(b4_1:List Int):RL jy 6 (io x y b3_0 b3_1 b4_0 b4_1) (Hx x y b3_0 b3_1 b4_0 b4_1):=rlX
def wR(x y:Bool×List Int)(s7 s9:Int)(k:KT):OLR:=match decide (s9>0)with|true=>(match decide (s9=(0:Int))with|true=>none|false=>k 24 (jW x y s9 (Int.tmod s7 s9)))|false=>(og (decide (jD s7)) (og (decide (aU (dig 3 s7))) (some [RV.d y2Y (ai (cg false (val (dig 3 s7))))])))
theorem Br(x y:Bool×List Int)(s7 s9:Int):RL jy 24 (jW x y s7 s9) (wR x y s7 s9):=rlX
theorem Rq(x y:BI)(B:Nat)(hB:(B:Int)<18446744073709551616):∀(v u:Nat),u<=B->v<=B->jy.RunsE 24 (jW x y (u:Int) (v:Int)) [.d y2Y (ai ((Nat.gcd u v:Nat):Int))]:=by
 intro v;induction v using Nat.strongRecOn with
 |ind v ih=>
  intro u hu hv;rcases an5 v with h0|h0
  ·refine Br _ _ _ _ ⟨0,λn _=>?_⟩;have hp:jD (u:Int):=⟨by omega,by omega⟩
   unfold wR;rw[ane (show ¬(v:Int)>0 by omega),anb hp,anb (kv (n:=3) (by decide) (u:Int)),Ar hp,show Nat.gcd u v=u by rw[h0];exact Nat.gcd_zero_right u];rfl
  ·obtain⟨n0,hn⟩:=ih (u%v) (ap8 _ h0) v hv (anq (Nat.le_of_lt (ap8 _ h0)) hv);refine Br _ _ _ _ ⟨n0,λn hn'=>?_⟩;unfold wR;rw[anb (by omega),ane (by omega),kw (by omega)];dsimp only;rw[show((u:Int)%(v:Int))=((u%v:Nat):Int) by simp,api u v,Nat.gcd_rec v u,api];exact hn n hn'
theorem BS(v:Int):cg false v=v:=rfl
theorem j7(u:Nat):ai (u:Int)=(false,ag u):=rfl
theorem BB{u:Nat}(h:(ag u).length<=2):u<=(pw 2).toNat:=by
 have h1:=b9 (cd u);rw[bG]at h1;have h2:=dH h;omega
theorem aeP:(((pw 2).toNat:Nat):Int)<18446744073709551616:=by decide
theorem Fu{k:Nat->Cfg->OLR}{u v:Nat}(hu:szI u<=1000000)(hv:szI v<=1000000){r:List RV}{H:Int->Int->Cfg}{D:Int->Cfg}
  (h1:v=0->r=[.d y2Y (ai (u:Int))]) (h2:v≠0->lR (ai (u:Int))=true->lR (ai (v:Int))=true->k 24 (H (u:Int) (v:Int))=some r) (h3:v≠0->k 6 (D ((u%v:Nat):Int))=some r) (D':List Int->Cfg) (hD:D' (dvR (ag u) (ag v))=D (val (dvR (ag u) (ag v)))):
  (match decide (((ag v).length:Int)>0)with
   |true=>(match decide (okI (ai (u:Int)))with
    |true=>(match decide (okI (ai (v:Int)))with
     |true=>(match lR (ai (u:Int))with
      |true=>(match lR (ai (v:Int))with
       |true=>k 24 (H (AC (ai (u:Int))) (AC (ai (v:Int))))
       |false=>(match decide (qM (ag u) (ag v))with
        |true=>(match decide (aU (dvR (ag u) (ag v)))with
         |true=>k 6 (D' (dvR (ag u) (ag v)))
         |false=>none)
        |false=>none))
      |false=>(match decide (qM (ag u) (ag v))with
        |true=>(match decide (aU (dvR (ag u) (ag v)))with
         |true=>k 6 (D' (dvR (ag u) (ag v)))
         |false=>none)
        |false=>none))
     |false=>none)
    |false=>none)
   |false=>(match decide ((ag u).length*4<=140737488355328/\(ag u).length<=140737488355328)with
    |true=>(match decide (aU (ag u))with
     |true=>some [.d y2Y (ai (cg false (val (ag u))))]
     |false=>none)
    |false=>none))=some r:=by
 have lu:(ag u).length<=1000000:=by have:=hu;unfold szI at this;rwa [aoJ]at this
 have lv:(ag v).length<=1000000:=by have:=hv;unfold szI at this;rwa [aoJ]at this
 rcases an5 v with h0|h0
 ·subst h0;rw[h1 rfl,show decide (((ag 0).length:Int)>0)=false from rfl,anb (show(ag u).length*4<=140737488355328/\(ag u).length<=140737488355328 by omega),anb (show aU (ag u) from⟨cd u,by omega⟩),bG];rfl
 ·have hne:ag v≠[]:=λe=>by rw[ja]at e;omega
  have hl:=anW.2 hne;have hvv:=bG v;have hvu:=bG u;have hdv:qM (ag u) (ag v):=⟨⟨cd u,by omega⟩,⟨cd v,by omega⟩,by omega⟩
  obtain⟨_,lr,_,sr,_,vr⟩:=ZZ hdv
  have hD2:k 6 (D' (dvR (ag u) (ag v)))=some r:=by
   rw[hD,vr,hvv,hvu];exact h3 (by omega)
  rw[anb (by omega),anb (aW hu),anb (aW hv),anb hdv,anb (show aU (dvR (ag u) (ag v)) from⟨lr,by omega⟩)];dsimp only;cases hb1:lR (ai (u:Int))
  ·exact hD2
  ·cases hb2:lR (ai (v:Int))
   ·exact hD2
   ·dsimp only;have:=h2 (by omega) hb1 hb2;unfold AC;rw[hb1,hb2];simp only[cond_true,j7];rw[hvv,hvu];exact this
theorem Pb(x y:BI):∀(v u:Nat),szI u<=1000000->szI v<=1000000->
  jy.RunsE 6 (nF x y false (ag u) false (ag v)) [.d y2Y (ai ((Nat.gcd u v:Nat):Int))]/\jy.RunsE 6 (io x y false (ag v) false (ag u)) [.d y2Y (ai ((Nat.gcd u v:Nat):Int))]:=by
 intro v;induction v using Nat.strongRecOn with
 |ind v ih=>
  intro u hu hv
  have hw:lR (ai (u:Int))=true->lR (ai (v:Int))=true->jy.RunsE 24 (jW x y (u:Int) (v:Int)) [.d y2Y (ai ((Nat.gcd u v:Nat):Int))]:=λh1 h2=>by
   unfold lR at h1 h2;rw[j7]at h1 h2;exact Rq x y _ aeP v u (BB (anf h1)) (BB (anf h2))
  have hd:v≠0->jy.RunsE 6 (nF x y false (ag v) false (ag (u%v))) [.d y2Y (ai ((Nat.gcd u v:Nat):Int))]/\jy.RunsE 6 (io x y false (ag (u%v)) false (ag v)) [.d y2Y (ai ((Nat.gcd u v:Nat):Int))]:=λh0=>by
   have hm:=ap8 u (Nat.pos_of_ne_zero h0);have:=ih (u%v) hm v hv (anq (dP (by omega)) hv);rw[api u v,Nat.gcd_rec v u,api (u%v) v];exact this
  have hcommon:∃n0,∀n,n0<=n->(lR (ai (u:Int))=true->lR (ai (v:Int))=true->jy.k n 24 (jW x y (u:Int) (v:Int))=some [.d y2Y (ai ((Nat.gcd u v:Nat):Int))])/\(v≠0->jy.k n 6 (nF x y false (ag v) false (ag (u%v)))=some [.d y2Y (ai ((Nat.gcd u v:Nat):Int))]/\jy.k n 6 (io x y false (ag (u%v)) false (ag v))=some [.d y2Y (ai ((Nat.gcd u v:Nat):Int))]):=by
   have g1:∃n1,∀n,n1<=n->(lR (ai (u:Int))=true->lR (ai (v:Int))=true->jy.k n 24 (jW x y (u:Int) (v:Int))=some [.d y2Y (ai ((Nat.gcd u v:Nat):Int))]):=by
    by_cases hb:lR (ai (u:Int))=true/\lR (ai (v:Int))=true
    ·obtain⟨n,h⟩:=hw hb.1 hb.2;exact⟨n,λm hm _ _=>h m hm⟩
    ·exact⟨0,λn _ h1 h2=>absurd ⟨h1,h2⟩ hb⟩
   have g2:∃n1,∀n,n1<=n->(v≠0->jy.k n 6 (nF x y false (ag v) false (ag (u%v)))=some [.d y2Y (ai ((Nat.gcd u v:Nat):Int))]/\jy.k n 6 (io x y false (ag (u%v)) false (ag v))=some [.d y2Y (ai ((Nat.gcd u v:Nat):Int))]):=by
    by_cases hb:v=0
    ·exact⟨0,λn _ h=>absurd hb h⟩
    ·obtain⟨⟨n1,h1⟩,⟨n2,h2⟩⟩:=hd hb;exact⟨max n1 n2,λn hn _=>⟨h1 n (by omega),h2 n (by omega)⟩⟩
   obtain⟨n1,h1⟩:=g1;obtain⟨n2,h2⟩:=g2;exact⟨max n1 n2,λn hn=>⟨h1 n (by omega),h2 n (by omega)⟩⟩
  obtain⟨n0,hc⟩:=hcommon;have hz:v=0->([.d y2Y (ai ((Nat.gcd u v:Nat):Int))]:List RV)=[.d y2Y (ai (u:Int))]:=λe=>by subst e;rw[Nat.gcd_zero_right]
  constructor
  ·refine QZ _ _ _ _ _ _ ⟨n0,λn hn=>?_⟩;have:=Fu (k:=jy.k n) hu hv (H:=λa b=>jW x y a b) (D:=λz=>nF x y false (ag v) (ai z).1 (ai z).2) hz (λ_ h1 h2=>(hc n hn).1 h1 h2) (λh0=>by rw[j7];exact((hc n hn).2 h0).1) (λl=>nF x y false (ag v) (ai (cg false (val l))).1 (ai (cg false (val l))).2) rfl;rw[j7,j7]at this;exact this
  ·refine GW _ _ _ _ _ _ ⟨n0,λn hn=>?_⟩;have:=Fu (k:=jy.k n) hu hv (H:=λa b=>jW x y a b) (D:=λz=>io x y (ai z).1 (ai z).2 false (ag v)) hz (λ_ h1 h2=>(hc n hn).1 h1 h2) (λh0=>by rw[j7];exact((hc n hn).2 h0).2) (λl=>io x y (ai (cg false (val l))).1 (ai (cg false (val l))).2 false (ag v)) rfl;rw[j7,j7]at this;exact this
theorem Uw(x y:BI)(h:okI x/\okI y):CQq7 250 [.d y2Y x,.d y2Y y] [.d y2Y (ai ((Int.gcd (ae x) (ae y):Nat):Int))]:=by
 refine gJ LW (show jy.Res _ _ _ from ?_);obtain⟨hx,hy⟩:=h;obtain⟨x0,_,_⟩:=cN hx;obtain⟨y0,_,_⟩:=cN hy;have ex:((ae x).natAbs:Int)=val x.2:=by rw[bR];unfold cg;cases x.1<;>simp<;>omega
 have ey:((ae y).natAbs:Int)=val y.2:=by rw[bR];unfold cg;cases y.1<;>simp<;>omega
 have szx:szI ((ae x).natAbs:Int)<=1000000:=anq (dP (by omega)) (jJ hx);have szy:szI ((ae y).natAbs:Int)<=1000000:=anq (dP (by omega)) (jJ hy);obtain⟨⟨n1,h1⟩,⟨n2,h2⟩⟩:=Pb x y (ae y).natAbs (ae x).natAbs szx szy;refine aiB _ _ ⟨max n1 n2,?_⟩;have h1:=h1 (max n1 n2) (by omega);have h2:=h2 (max n1 n2) (by omega);unfold aaw;simp only[fE];rw[anb (gY hx),anb (gY hy),BS,BS,<-ex,<-ey,j7,j7];dsimp only;rw[h1,h2];simp only[c8];rfl
abbrev BR:=BI×BI
def ao(q:Rat):BR:=(ai q.num,ai (q.den:Int))
def ah(x:BR):Rat:=mkRat (ae x.1) (ae x.2).toNat
theorem cC(q:Rat):ah (ao q)=q:=by simp[ah,ao,dec_enc]
def okR(x:BR):Prop:=okI x.1/\okI x.2/\0<ae x.2/\Int.gcd (ae x.1) (ae x.2)=1/\x.1.2.length<=480000/\x.2.2.length<=480000
instance (x:BR):Decidable (okR x):=by unfold okR;infer_instance
def o1(x:BR):Bool:=decide (okR x)
def o2(x y:BR):Bool:=decide (okR x/\okR y)
theorem ahW(x:BR):o1 x=decide (okR x):=rfl
theorem aiE(x y:BR):o2 x y=(decide (okR x)&&decide (okR y)):=apa _ _
theorem cW{x:BR}(h:okR x):(ah x).num=ae x.1/\((ah x).den:Int)=ae x.2:=by
 obtain⟨h1,h2,h3,h4,_⟩:=h;unfold ah;rw[aqf,aqg]
 have hg:(ae x.2).toNat.gcd (ae x.1).natAbs=1:=by
  rwa [api,show(ae x.2).toNat=(ae x.2).natAbs by omega]
 grind
theorem SZ{x:BR}(h:okR x):x=ao (ah x):=by
 obtain⟨e1,e2⟩:=cW h;unfold ao;rw[e1,e2,<-jw h.1,<-jw h.2.1]
def bdR(k:Nat)(q:Rat):Prop:=szI q.num<=k/\szI (q.den:Int)<=k
theorem rT{q:Rat}{k:Nat}(h:bdR k q)(hk:k<=480000):okR (ao q):=by
 obtain⟨h1,h2⟩:=h;have hd:=q.den_pos;refine⟨aW (by omega),aW (by omega),?_,?_,by show szI q.num<=480000;omega,by show szI (q.den:Int)<=480000;omega⟩
 ·show 0<ae (ai (q.den:Int));grind [dec_enc]
 ·show Int.gcd (ae (ai q.num)) (ae (ai (q.den:Int)))=1;rw[dec_enc,dec_enc];exact q.reduced
theorem DX{x:BR}(h:okR x):bdR 480000 (ah x):=by
 obtain⟨e1,e2⟩:=cW h;obtain⟨h1,h2,_,_,h5,h6⟩:=h;unfold bdR szI;rw[e1,e2];rw[jw h1]at h5;rw[jw h2]at h6;exact⟨h5,h6⟩
theorem bK{j k:Nat}{q:Rat}(h:bdR j q)(hk:j<=k):bdR k q:=⟨anq h.1 hk,anq h.2 hk⟩
theorem Jn(a:Int)(g:Nat):(a/(g:Int)).natAbs<=a.natAbs\/¬(g:Int)∣a:=by
 by_cases h:(g:Int)∣a
 ·obtain⟨k,rfl⟩:=h;rcases an5 g with h0|h0
  ·grind
  ·rw[app _ (by omega),ap4];simp_all [Nat.le_mul_of_pos_left]
 grind
theorem wD{n:Int}{d k:Nat}(hd:d≠0)(h1:szI n<=k)(h2:szI (d:Int)<=k):bdR k (mkRat n d):=by
 unfold bdR;rw[aqf,aqg,anA hd,anA hd];constructor
 ·refine anq (dP ?_) h1;grind [Jn,Nat.gcd_dvd_right,Int.ofNat_dvd_left]
 ·exact anq (dP (by rw[aoJ,aoJ];exact Nat.div_le_self _ _)) h2
theorem ya{k:Nat}{a:Rat}(h:bdR k a):bdR k (-a):=by
 refine⟨?_,h.2⟩;rw[Rat.neg_num,ke];exact h.1
theorem DG{j k:Nat}{a b:Rat}(ha:bdR j a)(hb:bdR k b):bdR (j+k+1) (a+b):=by
 rw[Rat.add_def'];have d1:=a.den_pos;have d2:=b.den_pos;refine wD (apO (by omega) (by omega)) (xT (cY ha.1 hb.2) ?_) ?_
 ·rw[Nat.add_comm];exact cY hb.1 ha.2
 ·rw[aoH];exact anq (cY ha.2 hb.2) (by omega)
theorem Wi{j k:Nat}{a b:Rat}(ha:bdR j a)(hb:bdR k b):bdR (j+k+1) (a-b):=by grind [apG,DG,ya]
theorem Cc{j k:Nat}{a b:Rat}(ha:bdR j a)(hb:bdR k b):bdR (j+k) (a*b):=by
 rw[Rat.mul_def'];have d1:=a.den_pos;have d2:=b.den_pos;refine wD (apO (by omega) (by omega)) (cY ha.1 hb.1) ?_;exact cY ha.2 hb.2
theorem XR{k:Nat}{a:Rat}(h:bdR k a)(h0:a≠0):bdR k a⁻¹:=by
 have hn:a.num≠0:=λe=>h0 (Rat.num_eq_zero.1 e);rw[Rat.inv_def];rcases ao1 hn with h1|h1
 ·rw[<-Rat.neg_divInt_neg,show-a.num=(((-a.num).toNat:Nat):Int) by omega,apA];refine wD (by omega) (by rw[ke];exact h.2) ?_;rw[show(((-a.num).toNat:Nat):Int)= -a.num by omega,ke];exact h.1
 ·rw[show a.num=((a.num.toNat:Nat):Int) by omega,apA];refine wD (by omega) h.2 ?_;rw[show((a.num.toNat:Nat):Int)=a.num by omega];exact h.1
theorem VY{j k:Nat}{a b:Rat}(ha:bdR j a)(hb:bdR k b)(h0:b≠0):bdR (j+k) (a/b):=by grind [Cc,XR]
def f0(x y:BI):BR:=ao (Rat.divInt (ae x) (ae y))
def kL(x y:BI):Prop:=okI x/\okI y/\ae y≠0
instance (x y:BI):Decidable (kL x y):=by unfold kL;infer_instance
theorem qf{n d:Int}(hd:0<d):ao (Rat.divInt n d)=(ai (n/(Int.gcd n d:Int)),ai (d/(Int.gcd n d:Int))):=by
 obtain⟨D,rfl⟩:=aol (anU hd);unfold ao;rw[apA,aqf,aqg,anA (by omega),anA (by omega)];have e:Int.gcd n (D:Int)=D.gcd n.natAbs:=by rw[api];rfl
 grind
def vV:fb:=spN true false [y2Y] (λx=>decide (okI x.1)) (λx=>[RV.d aqw (cE (ae x.1) 0)])
theorem qz:SpK 117 vV:=spX λx h=>Vb x.1 (anf h)
def te:fb:=spN true false [y2Y,y2Y] (λx=>decide (okI x.1/\okI x.2.1)) (λx=>[RV.d aqw (cE (ae x.1) (ae x.2.1))])
theorem oD:SpK 163 te:=spX λx h=>Jc x.1 x.2.1 (anf h)
def vJ:fb:=spN false false [y2Y] (λx=>decide (okI x.1)) (λx=>[RV.d y2Y (ai (-ae x.1))])
theorem qR:SpK 228 vJ:=spX λx h=>KZ x.1 (anf h)
def wM:fb:=spN false false [y2Y,y2Y] (λx=>decide (okI x.1/\okI x.2.1)) (λx=>[RV.d y2Y (ai (ae x.1*ae x.2.1))])
theorem rj:SpK 164 wM:=spX λx h=>Ka x.1 x.2.1 (anf h)
def B0:fb:=spN false false [y2Y,y2Y] (λx=>decide (ga x.1 x.2.1)) (λx=>[RV.d y2Y (ai (ae x.1/ae x.2.1)),RV.d y2Y (ai (ae x.1%ae x.2.1)),RV.d aqw 0])
theorem yQ:SpK 302 B0:=spX λx h=>J5 x.1 x.2.1 (anf h)
def Hh:fb:=spN false false [y2Y,y2Y] (λx=>decide (okI x.1/\okI x.2.1)) (λx=>[RV.d y2Y (ai ((Int.gcd (ae x.1) (ae x.2.1):Nat):Int))])
theorem EF:SpK 250 Hh:=spX λx h=>Uw x.1 x.2.1 (anf h)
def H8:Env:=[(223,qv),(117,vV),(163,te),(227,qQ),(228,vJ),(164,wM),(302,B0),(250,Hh)]
theorem BX:EnvAll Tryz.prog H8:=⟨lW,qz,oD,lN,qR,rj,yQ,EF,trivial⟩
def ajk:Ctx:=CX H8 []
def ZJ(_k:KT):OLR:=og (decide (aJ (1:Int))) (some [RV.d y2Y (ai (1:Int))])
theorem agK:RS ajk 251 [] (ZJ):=rsX
def ahJ:Ctx:=CX H8 []
def X2(x y:Bool×List Int)(_k:KT):OLR:=og (decide (ga x y)) (some [RV.d y2Y (ai (ae x/ae y))])
theorem agc(x y:Bool×List Int):RS ahJ 252 [.d y2Y x,.d y2Y y] (X2 x y):=rsX
theorem Ud:CQq7 251 [] [.d y2Y (ai 1)]:=by
 refine gJ BX (agK ⟨0,?_⟩);unfold ZJ;rw[anb (show aJ 1 by decide)]
theorem V1(x y:BI)(h:ga x y):CQq7 252 [.d y2Y x,.d y2Y y] [.d y2Y (ai (ae x/ae y))]:=by
 refine gJ BX (agc _ _ ⟨0,?_⟩);unfold X2;rw[anb h]
def yx:fb:=spN false false [] (λ_=>true) (λ_=>[RV.d y2Y (ai 1)])
theorem vz:SpK 251 yx:=spX λ_ _=>Ud
def RM:fb:=spN false false [y2Y,y2Y] (λx=>decide (ga x.1 x.2.1)) (λx=>[RV.d y2Y (ai (ae x.1/ae x.2.1))])
theorem TS:SpK 252 RM:=spX λx h=>V1 x.1 x.2.1 (anf h)
def Ng:Env:=[(223,qv),(117,vV),(163,te),(227,qQ),(228,vJ),(164,wM),(302,B0),(250,Hh),(251,yx),(252,RM)]
theorem Li:EnvAll Tryz.prog Ng:=⟨lW,qz,oD,lN,qR,rj,yQ,EF,vz,TS,trivial⟩
def ah3:Ctx:=CX Ng []
def abG(x y:Bool×List Int)(_k:KT):OLR:=match decide (okI y)with|true=>(match decide ((cE (ae y) 0)<0)with|true=>(match decide (okI x)with|true=>(match decide (okI y)with|true=>(match decide (okI (ai (-ae x))/\okI (ai (-ae y)))with|true=>(match decide (okI (ai ((Int.gcd (ae (ai (-ae x))) (ae (ai (-ae y))):Nat):Int))/\okI (ai 1))with|true=>(match(cE (ae (ai ((Int.gcd (ae (ai (-ae x))) (ae (ai (-ae y))):Nat):Int))) (ae (ai 1))) !=0 with|true=>(match decide (ga (ai (-ae x)) (ai ((Int.gcd (ae (ai (-ae x))) (ae (ai (-ae y))):Nat):Int)))with|true=>(match decide (ga (ai (-ae y)) (ai ((Int.gcd (ae (ai (-ae x))) (ae (ai (-ae y))):Nat):Int)))with|true=>some [RV.d (.st (.pair y2Y y2Y)) ((ai (ae (ai (-ae x))/ae (ai ((Int.gcd (ae (ai (-ae x))) (ae (ai (-ae y))):Nat):Int)))),(ai (ae (ai (-ae y))/ae (ai ((Int.gcd (ae (ai (-ae x))) (ae (ai (-ae y))):Nat):Int)))))]|false=>none)|false=>none)|false=>some [RV.d (.st (.pair y2Y y2Y)) ((ai (-ae x)),(ai (-ae y)))])|false=>none)|false=>none)|false=>none)|false=>none)|false=>(match decide (okI x/\okI y)with|true=>(match decide (okI (ai ((Int.gcd (ae x) (ae y):Nat):Int))/\okI (ai 1))with|true=>(match(cE (ae (ai ((Int.gcd (ae x) (ae y):Nat):Int))) (ae (ai 1))) !=0 with|true=>(match decide (ga x (ai ((Int.gcd (ae x) (ae y):Nat):Int)))with|true=>(match decide (ga y (ai ((Int.gcd (ae x) (ae y):Nat):Int)))with|true=>some [RV.d (.st (.pair y2Y y2Y)) ((ai (ae x/ae (ai ((Int.gcd (ae x) (ae y):Nat):Int)))),(ai (ae y/ae (ai ((Int.gcd (ae x) (ae y):Nat):Int)))))]|false=>none)|false=>none)|false=>some [RV.d (.st (.pair y2Y y2Y)) (x,y)])|false=>none)|false=>none))|false=>none
theorem ahu(x y:Bool×List Int):RS ah3 165 [.d y2Y x,.d y2Y y] (abG x y):=rsX
theorem N6{a b:Int}(hb:b≠0){k:Nat}(h:szI b<=k):szI ((Int.gcd a b:Nat):Int)<=k:=by
 refine anq (dP ?_) h;exact Nat.le_of_dvd (by omega) (Nat.gcd_dvd_right a.natAbs b.natAbs)
theorem VS(x y:BI)(h:kL x y):CQq7 165 [.d y2Y x,.d y2Y y] [.d (.st (.pair y2Y y2Y)) (f0 x y)]:=by
 refine gJ Li (ahu _ _ ⟨0,?_⟩);obtain⟨hx,hy,hne⟩:=h;have sx:=jJ hx;have sy:=jJ hy;have hgp:0<Int.gcd (ae x) (ae y):=Nat.pos_of_ne_zero λe=>hne (Int.gcd_eq_zero_iff.1 e).2;have hgs:=N6 (a:=ae x) hne sy;unfold abG f0;rw[anb hy];dsimp only;rcases ao1 hne with hn|hn
 ·rw[dl hn,anb (show(-1:Int)<0 by decide),anb hx];have o1:okI (ai (-ae x)):=aW (by rw[ke];exact sx);have o2:okI (ai (-ae y)):=aW (by rw[ke];exact sy);simp only[dec_enc,Int.gcd_neg,Int.neg_gcd];have og:okI (ai ((Int.gcd (ae x) (ae y):Nat):Int)):=aW hgs;rw[anb (show okI (ai (-ae x))/\okI (ai (-ae y)) from⟨o1,o2⟩),anb (show okI (ai ((Int.gcd (ae x) (ae y):Nat):Int))/\okI (ai 1) from⟨og,rK⟩)];rw[<-Rat.neg_divInt_neg,qf (by omega),Int.gcd_neg,Int.neg_gcd];dsimp only;by_cases h1:Int.gcd (ae x) (ae y)=1
  ·rw[h1];simp[eM]
  ·have hc:(cE ((Int.gcd (ae x) (ae y):Nat):Int) 1 !=0)=true:=by
    rw[cX (by omega)];rfl
   rw[hc,anb (show ga (ai (-ae x)) (ai ((Int.gcd (ae x) (ae y):Nat):Int)) from⟨o1,og,by rw[dec_enc];omega⟩),anb (show ga (ai (-ae y)) (ai ((Int.gcd (ae x) (ae y):Nat):Int)) from⟨o2,og,by rw[dec_enc];omega⟩)]
 ·rw[cX hn,ane (show ¬(1:Int)<0 by decide)];simp only[dec_enc];have og:okI (ai ((Int.gcd (ae x) (ae y):Nat):Int)):=aW hgs;rw[anb (show okI x/\okI y from⟨hx,hy⟩),anb (show okI (ai ((Int.gcd (ae x) (ae y):Nat):Int))/\okI (ai 1) from⟨og,rK⟩),qf hn];dsimp only;by_cases h1:Int.gcd (ae x) (ae y)=1
  ·rw[h1];simp only[Int.natCast_one,eM,Int.ediv_one,<-jw hx,<-jw hy];rfl
  ·have hc:(cE ((Int.gcd (ae x) (ae y):Nat):Int) 1 !=0)=true:=by
    rw[cX (by omega)];rfl
   rw[hc,anb (show ga x (ai ((Int.gcd (ae x) (ae y):Nat):Int)) from⟨hx,og,by rw[dec_enc];omega⟩),anb (show ga y (ai ((Int.gcd (ae x) (ae y):Nat):Int)) from⟨hy,og,by rw[dec_enc];omega⟩)]
def aF(a b:Rat):Int:=bif decide (a<b)then-1 else bif decide (b<a)then 1 else 0
theorem dU{a b:Rat}(h:a<b):aF a b= -1:=by grind [aF]
theorem dG{a b:Rat}(h:b<a):aF a b=1:=by grind [aF]
theorem eU(a:Rat):aF a a=0:=by simp[aF]
theorem An(a b:Rat):cE (a.num*(b.den:Int)) (b.num*(a.den:Int))=aF a b:=by simp[cE,aF,Rat.lt_iff]
theorem wH(a:Rat):cE a.num 0=aF a 0:=by
 rw[<-An];simp
def CD:fb:=spN false false [y2Y,y2Y] (λx=>decide (kL x.1 x.2.1)) (λx=>[RV.d (.st (.pair y2Y y2Y)) (f0 x.1 x.2.1)])
theorem Au:SpK 165 CD:=spX λx h=>VS x.1 x.2.1 (anf h)
def aet:NT:=[((162,3),{keep:=[0,1,8],hl:=0}),((162,5),{keep:=[0,1,5,10],hl:=0})]
def ahs:Ctx:=CX [] aet
def ZG(x y:Int)(_k:KT):OLR:=match x !=x with|true=>(match y !=y with|true=>some [RV.d aqw 0]|false=>some [RV.d aqw (-1)])|false=>(match y !=y with|true=>some [RV.d aqw 1]|false=>(match decide (x<y)with|true=>some [RV.d aqw (-1)]|false=>(match decide (x>y)with|true=>some [RV.d aqw 1]|false=>some [RV.d aqw 0])))
theorem ajZ(x y:Int):RS ahs 162 [SI x,SI y] (ZG x y):=rsX
theorem Ul(x y:Int):CQq7 162 [.d aqw x,.d aqw y] [.d aqw (cE x y)]:=by
 refine gJ (E:=[]) trivial (ajZ _ _ ⟨0,?_⟩);unfold ZG;rw[show(x !=x)=false by simp,show(y !=y)=false by simp];dsimp only;rcases Int.lt_trichotomy x y with h|h|h
 ·rw[dl h,anb h]
 ·subst h;rw[eM,ane (show ¬x<x by omega)]
 ·rw[cX h,ane (show ¬x<y by omega),anb (show x>y from h)]
def CU:fb:=spN true false [aqw,aqw] (λ_=>true) (λx=>[RV.d aqw (cE x.1 x.2.1)])
theorem zR:SpK 162 CU:=spX λx _=>Ul x.1 x.2.1
def HO:Env:=[(223,qv),(117,vV),(163,te),(227,qQ),(228,vJ),(164,wM),(251,yx),(165,CD),(162,CU)]
theorem BJ:EnvAll Tryz.prog HO:=⟨lW,qz,oD,lN,qR,rj,vz,Au,zR,trivial⟩
def ajQ:Ctx:=CX HO []
def afK(x:Bool×List Int)(_k:KT):OLR:=some [RV.d (.st (.pair y2Y y2Y)) (x,(ai 1))]
theorem agQ(x:Bool×List Int):RS ajQ 222 [.d y2Y x] (afK x):=rsX
theorem UE(x:BI):CQq7 222 [.d y2Y x] [.d (.st (.pair y2Y y2Y)) (x,ai 1)]:=
 gJ BJ (agQ _ ⟨0,rfl⟩)
def Ij:fb:=spN false false [y2Y] (λ_=>true) (λx=>[RV.d (.st (.pair y2Y y2Y)) (x.1,ai 1)])
theorem F7:SpK 222 Ij:=spX λx _=>UE x.1
def agY:Ctx:=CX HO []
def aap(a:(Bool×List Int)×Bool×List Int)(_k:KT):OLR:=og (decide (okI a.1)) (some [RV.d aqw (cE (ae a.1) 0)])
theorem ahM(a:(Bool×List Int)×Bool×List Int):RS agY 54 [.d (.st (.pair y2Y y2Y)) a] (aap a):=rsX
theorem K7(a:BR)(h:okR a):CQq7 54 [.d (.st (.pair y2Y y2Y)) a] [.d aqw (aF (ah a) 0)]:=by
 refine gJ BJ (ahM _ ⟨0,?_⟩);unfold aap;rw[anb h.1,<-wH,(cW h).1]
def GZ:fb:=spN true false [(.st (.pair y2Y y2Y))] (λx=>decide (okR x.1)) (λx=>[RV.d aqw (aF (ah x.1) 0)])
theorem EX:SpK 54 GZ:=spX λx h=>K7 x.1 (anf h)
def pH:Env:=[(223,qv),(117,vV),(163,te),(227,qQ),(228,vJ),(164,wM),(251,yx),(165,CD),(162,CU),(222,Ij),(54,GZ)]
theorem jP:EnvAll Tryz.prog pH:=⟨lW,qz,oD,lN,qR,rj,vz,Au,zR,F7,EX,trivial⟩
def ahe:Ctx:=CX pH []
def aa9(n:Int)(_k:KT):OLR:=og (decide (aJ n)) (some [RV.d (.st (.pair y2Y y2Y)) ((ai n),(ai 1))])
theorem aj0(n:Int):RS ahe 125 [SI n] (aa9 n):=rsX
def akq:Ctx:=CX pH []
def abl(a b:(Bool×List Int)×Bool×List Int)(_k:KT):OLR:=match decide (okR a)with|true=>(match decide (okR b)with|true=>(match(cE (aF (ah a) 0) (aF (ah b) 0)) !=0 with|true=>some [RV.d aqw (cE (aF (ah a) 0) (aF (ah b) 0))]|false=>(match decide (okI a.1/\okI b.2)with|true=>(match decide (okI b.1/\okI a.2)with|true=>(match decide (okI (ai (ae a.1*ae b.2))/\okI (ai (ae b.1*ae a.2)))with|true=>some [RV.d aqw (cE (ae (ai (ae a.1*ae b.2))) (ae (ai (ae b.1*ae a.2))))]|false=>none)|false=>none)|false=>none))|false=>none)|false=>none
theorem akC(a b:(Bool×List Int)×Bool×List Int):RS akq 66 [.d (.st (.pair y2Y y2Y)) a,.d (.st (.pair y2Y y2Y)) b] (abl a b):=rsX
def akc:Ctx:=CX pH []
def Zj(a b:(Bool×List Int)×Bool×List Int)(_k:KT):OLR:=match decide (okI a.2/\okI b.2)with|true=>(match(cE (ae a.2) (ae b.2))==0 with|true=>(match decide (okI a.1/\okI b.1)with|true=>(match decide (kL (ai (ae a.1+ae b.1)) a.2)with|true=>some [RV.d (.st (.pair y2Y y2Y)) (((f0 (ai (ae a.1+ae b.1)) a.2).1),((f0 (ai (ae a.1+ae b.1)) a.2).2))]|false=>none)|false=>none)|false=>(match decide (okI a.1/\okI b.2)with|true=>(match decide (okI b.1/\okI a.2)with|true=>(match decide (okI (ai (ae a.1*ae b.2))/\okI (ai (ae b.1*ae a.2)))with|true=>(match decide (okI a.2/\okI b.2)with|true=>(match decide (kL (ai (ae (ai (ae a.1*ae b.2))+ae (ai (ae b.1*ae a.2)))) (ai (ae a.2*ae b.2)))with|true=>some [RV.d (.st (.pair y2Y y2Y)) (((f0 (ai (ae (ai (ae a.1*ae b.2))+ae (ai (ae b.1*ae a.2)))) (ai (ae a.2*ae b.2))).1),((f0 (ai (ae (ai (ae a.1*ae b.2))+ae (ai (ae b.1*ae a.2)))) (ai (ae a.2*ae b.2))).2))]|false=>none)|false=>none)|false=>none)|false=>none)|false=>none))|false=>none
theorem aje(a b:(Bool×List Int)×Bool×List Int):RS akc 132 [.d (.st (.pair y2Y y2Y)) a,.d (.st (.pair y2Y y2Y)) b] (Zj a b):=rsX
def aiy:Ctx:=CX pH []
def X7(a:(Bool×List Int)×Bool×List Int)(_k:KT):OLR:=og (decide (okI a.1)) (some [RV.d (.st (.pair y2Y y2Y)) ((ai (-ae a.1)),a.2)])
theorem ag0(a:(Bool×List Int)×Bool×List Int):RS aiy 133 [.d (.st (.pair y2Y y2Y)) a] (X7 a):=rsX
def ahX:Ctx:=CX pH []
def YU(a b:(Bool×List Int)×Bool×List Int)(_k:KT):OLR:=og (decide (okI a.1/\okI b.1)) (og (decide (okI a.2/\okI b.2)) (og (decide (kL (ai (ae a.1*ae b.1)) (ai (ae a.2*ae b.2)))) (some [RV.d (.st (.pair y2Y y2Y)) (((f0 (ai (ae a.1*ae b.1)) (ai (ae a.2*ae b.2))).1),((f0 (ai (ae a.1*ae b.1)) (ai (ae a.2*ae b.2))).2))])))
theorem ahB(a b:(Bool×List Int)×Bool×List Int):RS ahX 67 [.d (.st (.pair y2Y y2Y)) a,.d (.st (.pair y2Y y2Y)) b] (YU a b):=rsX
def ajg:Ctx:=CX pH []
def ZW(a b:(Bool×List Int)×Bool×List Int)(_k:KT):OLR:=match decide (okR b)with|true=>(match(aF (ah b) 0)==0 with|true=>some [RV.d (.st (.pair y2Y y2Y)) ((false,[]),(false,[])),RV.d aqw 6]|false=>(match decide (okI a.1/\okI b.2)with|true=>(match decide (okI a.2/\okI b.1)with|true=>(match decide (kL (ai (ae a.1*ae b.2)) (ai (ae a.2*ae b.1)))with|true=>some [RV.d (.st (.pair y2Y y2Y)) (((f0 (ai (ae a.1*ae b.2)) (ai (ae a.2*ae b.1))).1),((f0 (ai (ae a.1*ae b.2)) (ai (ae a.2*ae b.1))).2)),RV.d aqw 0]|false=>none)|false=>none)|false=>none))|false=>none
theorem ai8(a b:(Bool×List Int)×Bool×List Int):RS ajg 245 [.d (.st (.pair y2Y y2Y)) a,.d (.st (.pair y2Y y2Y)) b] (ZW a b):=rsX
theorem U9(n:Int)(h:aJ n):CQq7 125 [.d aqw n] [.d (.st (.pair y2Y y2Y)) (ao (n:Rat))]:=by
 refine gJ jP (aj0 _ ⟨0,?_⟩);unfold aa9 ao;rw[anb h,Rat.num_intCast,Rat.den_intCast];rfl
theorem ik{a:BR}(h:okR a):szI (ae a.1)<=480000/\szI (ae a.2)<=480000:=by
 have h1:=DX h;grind [cW,bdR]
theorem Me(a b:Rat):(cE (aF a 0) (aF b 0)≠0->cE (aF a 0) (aF b 0)=aF a b):=by
 rcases(by grind:a<0\/a=0\/0<a)with h1|h1|h1<;>rcases(by grind:b<0\/b=0\/0<b)with h2|h2|h2
 ·grind [dU,eM]
 ·rw[dU h1,h2,eU,dU h1];intro;rfl
 ·rw[dU h1,dG h2,dU (by grind)];intro;rfl
 ·rw[h1,eU,dU h2,dG h2];intro;rfl
 ·grind [eU,eM]
 ·rw[h1,eU,dG h2,dU h2];intro;rfl
 ·rw[dG h1,dU h2,dG (by grind)];intro;rfl
 ·rw[dG h1,h2,eU,dG h1];intro;rfl
 grind [dG,eM]
theorem WX(a b:BR)(h:okR a/\okR b):CQq7 66 [.d (.st (.pair y2Y y2Y)) a,.d (.st (.pair y2Y y2Y)) b] [.d aqw (aF (ah a) (ah b))]:=by
 refine gJ jP (akC _ _ ⟨0,?_⟩);obtain⟨ha,hb⟩:=h;obtain⟨a1,a2⟩:=cW ha;obtain⟨b1,b2⟩:=cW hb;obtain⟨sa1,sa2⟩:=ik ha;obtain⟨sb1,sb2⟩:=ik hb;have h1:=cY sa1 sb2;have h2:=cY sb1 sa2;unfold abl;rw[anb ha,anb hb];dsimp only;have hs:=Me (ah a) (ah b);by_cases hc:cE (aF (ah a) 0) (aF (ah b) 0)=0
 ·rw[hc,anb (show okI a.1/\okI b.2 from⟨ha.1,hb.2.1⟩),anb (show okI b.1/\okI a.2 from⟨hb.1,ha.2.1⟩),anb (show okI (ai (ae a.1*ae b.2))/\okI (ai (ae b.1*ae a.2)) from⟨aW (by omega),aW (by omega)⟩),dec_enc,dec_enc,<-a1,<-a2,<-b1,<-b2,An];rfl
 ·rw[show(cE (aF (ah a) 0) (aF (ah b) 0) !=0)=true by simpa using hc,hs hc]
theorem Kw(a:BR)(h:okR a):CQq7 133 [.d (.st (.pair y2Y y2Y)) a] [.d (.st (.pair y2Y y2Y)) (ao (-ah a))]:=by
 refine gJ jP (ag0 _ ⟨0,?_⟩);obtain⟨a1,a2⟩:=cW h;unfold X7
 have e:ao (-ah a)=(ai (-ae a.1),a.2):=by
  unfold ao;rw[Rat.neg_num,a1,show((-ah a).den:Int)=((ah a).den:Int) from rfl,a2,<-jw h.2.1]
 rw[anb h.1,e]
theorem J0(a b:BR)(h:okR a/\okR b):CQq7 132 [.d (.st (.pair y2Y y2Y)) a,.d (.st (.pair y2Y y2Y)) b] [.d (.st (.pair y2Y y2Y)) (ao (ah a+ah b))]:=by
 refine gJ jP (aje _ _ ⟨0,?_⟩);obtain⟨ha,hb⟩:=h;obtain⟨a1,a2⟩:=cW ha;obtain⟨b1,b2⟩:=cW hb;obtain⟨sa1,sa2⟩:=ik ha;obtain⟨sb1,sb2⟩:=ik hb;have pa:=ha.2.2.1;have pb:=hb.2.2.1;have h1:=cY sa1 sb2;have h2:=cY sb1 sa2;have h3:=cY sa2 sb2;have h4:=xT h1 h2;have h5:=xT sa1 sb1;have hda:ah a=Rat.divInt (ae a.1) (ae a.2):=by rw[<-a1,<-a2,aof]
 have hdb:ah b=Rat.divInt (ae b.1) (ae b.2):=by rw[<-b1,<-b2,aof]
 unfold Zj;rw[anb (show okI a.2/\okI b.2 from⟨ha.2.1,hb.2.1⟩)];dsimp only;by_cases hc:ae a.2=ae b.2
 ·rw[hc,eM,anb (show okI a.1/\okI b.1 from⟨ha.1,hb.1⟩)];rw[anb (show kL (ai (ae a.1+ae b.1)) a.2 from⟨aW (by omega),ha.2.1,by omega⟩)]
  have e:f0 (ai (ae a.1+ae b.1)) a.2=ao (ah a+ah b):=by
   unfold f0;rw[dec_enc,hda,hdb,<-hc,Rat.divInt_eq_div,Rat.divInt_eq_div,Rat.divInt_eq_div,Rat.intCast_add];congr 1;grind
  rw[e];rfl
 ·have hcm:(cE (ae a.2) (ae b.2)==0)=false:=by
   rcases ao1 hc with h|h
   ·rw[dl h];rfl
   ·rw[cX h];rfl
  rw[hcm,anb (show okI a.1/\okI b.2 from⟨ha.1,hb.2.1⟩),anb (show okI b.1/\okI a.2 from⟨hb.1,ha.2.1⟩),anb (show okI (ai (ae a.1*ae b.2))/\okI (ai (ae b.1*ae a.2)) from⟨aW (by omega),aW (by omega)⟩)];simp only[dec_enc];rw[anb (show kL (ai (ae a.1*ae b.2+ae b.1*ae a.2)) (ai (ae a.2*ae b.2)) from⟨aW (by omega),aW (by omega),by rw[dec_enc];exact apP (by omega) (by omega)⟩)]
  have e:f0 (ai (ae a.1*ae b.2+ae b.1*ae a.2)) (ai (ae a.2*ae b.2))=ao (ah a+ah b):=by
   unfold f0;rw[dec_enc,dec_enc,hda,hdb,Rat.divInt_add_divInt _ _ (by omega) (by omega)]
  rw[e]
theorem UH(a b:BR)(h:okR a/\okR b):CQq7 67 [.d (.st (.pair y2Y y2Y)) a,.d (.st (.pair y2Y y2Y)) b] [.d (.st (.pair y2Y y2Y)) (ao (ah a*ah b))]:=by
 refine gJ jP (ahB _ _ ⟨0,?_⟩);obtain⟨ha,hb⟩:=h;obtain⟨a1,a2⟩:=cW ha;obtain⟨b1,b2⟩:=cW hb;obtain⟨sa1,sa2⟩:=ik ha;obtain⟨sb1,sb2⟩:=ik hb;have pa:=ha.2.2.1;have pb:=hb.2.2.1;have h1:=cY sa1 sb1;have h3:=cY sa2 sb2;have hda:ah a=Rat.divInt (ae a.1) (ae a.2):=by rw[<-a1,<-a2,aof]
 have hdb:ah b=Rat.divInt (ae b.1) (ae b.2):=by rw[<-b1,<-b2,aof]
 unfold YU;rw[anb (show okI a.1/\okI b.1 from⟨ha.1,hb.1⟩),anb (show okI a.2/\okI b.2 from⟨ha.2.1,hb.2.1⟩),anb (show kL (ai (ae a.1*ae b.1)) (ai (ae a.2*ae b.2)) from⟨aW (by omega),aW (by omega),by rw[dec_enc];exact apP (by omega) (by omega)⟩)]
 have e:f0 (ai (ae a.1*ae b.1)) (ai (ae a.2*ae b.2))=ao (ah a*ah b):=by
  unfold f0;rw[dec_enc,dec_enc,hda,hdb,apR]
 rw[e]
def ju(a b:BR):Prop:=okR a/\okR b/\ae b.1≠0
instance (a b:BR):Decidable (ju a b):=by unfold ju;infer_instance
theorem Xy(a b:BR)(h:ju a b):CQq7 245 [.d (.st (.pair y2Y y2Y)) a,.d (.st (.pair y2Y y2Y)) b] [.d (.st (.pair y2Y y2Y)) (ao (ah a/ah b)),.d aqw 0]:=by
 refine gJ jP (ai8 _ _ ⟨0,?_⟩);obtain⟨ha,hb,hne⟩:=h;obtain⟨a1,a2⟩:=cW ha;obtain⟨b1,b2⟩:=cW hb;obtain⟨sa1,sa2⟩:=ik ha;obtain⟨sb1,sb2⟩:=ik hb;have pa:=ha.2.2.1;have h1:=cY sa1 sb2;have h3:=cY sa2 sb1;have hda:ah a=Rat.divInt (ae a.1) (ae a.2):=by rw[<-a1,<-a2,aof]
 have hdb:ah b=Rat.divInt (ae b.1) (ae b.2):=by rw[<-b1,<-b2,aof]
 have hnz:(aF (ah b) 0==0)=false:=by
  rw[<-wH,b1];rcases ao1 hne with h|h
  ·rw[dl h];rfl
  ·rw[cX h];rfl
 unfold ZW;rw[anb hb,hnz,anb (show okI a.1/\okI b.2 from⟨ha.1,hb.2.1⟩),anb (show okI a.2/\okI b.1 from⟨ha.2.1,hb.1⟩),anb (show kL (ai (ae a.1*ae b.2)) (ai (ae a.2*ae b.1)) from⟨aW (by omega),aW (by omega),by rw[dec_enc];exact apP (by omega) hne⟩)]
 have e:f0 (ai (ae a.1*ae b.2)) (ai (ae a.2*ae b.1))=ao (ah a/ah b):=by
  unfold f0;rw[dec_enc,dec_enc,hda,hdb,apb,Rat.inv_divInt,apR]
 rw[e]
def NF:fb:=spN false false [(.st (.pair y2Y y2Y)),(.st (.pair y2Y y2Y))] (λx=>decide (okR x.1/\okR x.2.1)) (λx=>[RV.d (.st (.pair y2Y y2Y)) (ao (ah x.1+ah x.2.1))])
theorem NE:SpK 132 NF:=spX λx h=>J0 x.1 x.2.1 (anf h)
def Qi:fb:=spN false false [(.st (.pair y2Y y2Y))] (λx=>decide (okR x.1)) (λx=>[RV.d (.st (.pair y2Y y2Y)) (ao (-ah x.1))])
theorem Nm:SpK 133 Qi:=spX λx h=>Kw x.1 (anf h)
def I0:Env:=[(223,qv),(117,vV),(163,te),(227,qQ),(228,vJ),(164,wM),(251,yx),(165,CD),(162,CU),(222,Ij),(54,GZ),(132,NF),(133,Qi)]
theorem IA:EnvAll Tryz.prog I0:=⟨lW,qz,oD,lN,qR,rj,vz,Au,zR,F7,EX,NE,Nm,trivial⟩
def aga:Ctx:=CX I0 []
def YR(a b:(Bool×List Int)×Bool×List Int)(_k:KT):OLR:=match decide (okR b)with|true=>(match decide (okR a/\okR (ao (-ah b)))with|true=>some [RV.d (.st (.pair y2Y y2Y)) (((ao (ah a+ah (ao (-ah b)))).1),((ao (ah a+ah (ao (-ah b)))).2))]|false=>none)|false=>none
theorem agx(a b:(Bool×List Int)×Bool×List Int):RS aga 65 [.d (.st (.pair y2Y y2Y)) a,.d (.st (.pair y2Y y2Y)) b] (YR a b):=rsX
theorem Vi(a b:BR)(h:okR a/\okR b):CQq7 65 [.d (.st (.pair y2Y y2Y)) a,.d (.st (.pair y2Y y2Y)) b] [.d (.st (.pair y2Y y2Y)) (ao (ah a-ah b))]:=by
 refine gJ IA (agx _ _ ⟨0,?_⟩);obtain⟨ha,hb⟩:=h;unfold YR;rw[anb hb,cC,apG,anb (show okR a/\okR (ao (-ah b)) from⟨ha,rT (ya (DX hb)) (ani _)⟩)]
section
namespace RL
theorem lD{x y B e:Rat}(h1:x<B)(h2: -B<x)(h3:y<e)(h4: -e<y):x*y<B*e:=by
 have p:=anE (a:=B-x) (b:=e+y) (by grind) (by grind);have q:=anE (a:=B+x) (b:=e-y) (by grind) (by grind);grind
theorem aa0{e:Rat}(h:0<e):0<e/2:=by grind
theorem BN{e B:Rat}(h:0<e)(hB:0<B):∃d,0<d/\B*d+B*d<e:=by
 refine⟨e/(4*B),?_,?_⟩
 ·exact anE h (apS.2 (by grind))
 ·have:B*(e/(4*B))=e/4:=by grind
  grind
structure CS where
 f:Nat->Rat
 cau:∀e:Rat,0<e->∃N,∀m n,N<=m->N<=n->f m-f n<e
theorem CS.bd(a:CS):∃B:Rat,0<B/\∃N,∀n,N<=n-> -B<a.f n/\a.f n<B:=by
 obtain⟨N,h⟩:=a.cau 1 (by grind);refine⟨(if 0<=a.f N then a.f N else-a.f N)+1,?_,N,λn hn=>?_⟩
 ·split<;>grind
 ·have h1:=h n N hn (ani _);have h2:=h N n (ani _) hn;split<;>grind
def add(a b:CS):CS:=⟨λn=>a.f n+b.f n,λe he=>by
 obtain⟨N,h⟩:=a.cau (e/2) (by grind);obtain⟨M,h'⟩:=b.cau (e/2) (by grind);refine⟨max N M,λm n hm hn=>?_⟩;have:=h m n (by omega) (by omega);have:=h' m n (by omega) (by omega);grind⟩
def neg(a:CS):CS:=⟨λn=> -a.f n,λe he=>by
 obtain⟨N,h⟩:=a.cau e he;exact⟨N,λm n hm hn=>by have:=h n m hn hm;grind⟩⟩
theorem Ov(a b:CS)(e:Rat)(he:0<e):∃N,∀m n,N<=m->N<=n->a.f m*b.f m-a.f n*b.f n<e:=by
 obtain⟨A,hA,N1,h1⟩:=a.bd;obtain⟨B,hB,N2,h2⟩:=b.bd;obtain⟨d,hd,hd'⟩:=BN (e:=e) (B:=A+B) he (by grind);obtain⟨N3,h3⟩:=a.cau d hd;obtain⟨N4,h4⟩:=b.cau d hd;refine⟨max (max N1 N2) (max N3 N4),λm n hm hn=>?_⟩;have a1:=h1 m (by omega);have b1:=h2 n (by omega);have p:=lD a1.2 a1.1 (h4 m n (by omega) (by omega)) (by have:=h4 n m (by omega) (by omega);grind);have q:=lD b1.2 b1.1 (h3 m n (by omega) (by omega)) (by have:=h3 n m (by omega) (by omega);grind);have r:=anE hA hd;have s:=anE hB hd;grind
def mul(a b:CS):CS:=⟨λn=>a.f n*b.f n,Ov a b⟩
def eqv(a b:CS):Prop:=∀e:Rat,0<e->∃N,∀n,N<=n->a.f n-b.f n<e/\b.f n-a.f n<e
instance st:Setoid CS where
 r:=eqv
 iseqv:=⟨λa e he=>⟨0,λn _=>by grind⟩,λh e he=>by
   obtain⟨N,h⟩:=h e he;exact⟨N,λn hn=>⟨(h n hn).2,(h n hn).1⟩⟩,
  λh h' e he=>by
  obtain⟨N,h⟩:=h (e/2) (by grind);obtain⟨M,h'⟩:=h' (e/2) (by grind);refine⟨max N M,λn hn=>?_⟩;have:=h n (by omega);have:=h' n (by omega);grind⟩
def const(q:Rat):CS:=⟨λ_=>q,λe he=>⟨0,λm n _ _=>by grind⟩⟩
end RL
def RE:Type:=Quotient RL.st
namespace RE
open RL
def of(q:Rat):RE:=Quotient.mk _ (const q)
theorem adl(a b a' b':CS)(h:a≈a')(h':b≈b'):add a b≈add a' b':=λe he=>by
 obtain⟨N,h⟩:=h (e/2) (by grind);obtain⟨M,h'⟩:=h' (e/2) (by grind);refine⟨max N M,λn hn=>?_⟩;have:=h n (by omega);have:=h' n (by omega);simp only[RL.add];grind
theorem aeC(a a':CS)(h:a≈a'):neg a≈neg a':=λe he=>by
 obtain⟨N,h⟩:=h e he;refine⟨N,λn hn=>?_⟩;have:=h n (by omega);simp only[RL.neg];grind
theorem acI(a b a' b':CS)(h:a≈a')(h':b≈b'):mul a b≈mul a' b':=λe he=>by
 obtain⟨A,hA,N1,h1⟩:=a.bd;obtain⟨B,hB,N2,h2⟩:=b'.bd;obtain⟨d,hd,hd'⟩:=BN (e:=e) (B:=A+B) he (by grind);obtain⟨N3,h3⟩:=h d hd;obtain⟨N4,h4⟩:=h' d hd;refine⟨max (max N1 N2) (max N3 N4),λn hn=>?_⟩;have a1:=h1 n (by omega);have b1:=h2 n (by omega);have a3:=h3 n (by omega);have b3:=h4 n (by omega);have p:=lD a1.2 a1.1 (y:=b.f n-b'.f n) b3.1 (by grind);have q:=lD b1.2 b1.1 (y:=a.f n-a'.f n) a3.1 (by grind);have p':=lD a1.2 a1.1 (y:=b'.f n-b.f n) b3.2 (by grind);have q':=lD b1.2 b1.1 (y:=a'.f n-a.f n) a3.2 (by grind);have r:=anE hA hd;have s:=anE hB hd;simp only[RL.mul];constructor<;>grind
instance:Add RE:=⟨Quotient.lift₂ (λa b=>Quotient.mk _ (add a b)) (λ_ _ _ _ h h'=>apB (adl _ _ _ _ h h'))⟩
instance:Neg RE:=⟨Quotient.lift (λa=>Quotient.mk _ (neg a)) (λ_ _ h=>apB (aeC _ _ h))⟩
instance:Sub RE:=⟨λa b=>a+ -b⟩
instance:Mul RE:=⟨Quotient.lift₂ (λa b=>Quotient.mk _ (mul a b)) (λ_ _ _ _ h h'=>apB (acI _ _ _ _ h h'))⟩
theorem snd{a b:CS}(h:∀n,a.f n=b.f n):(Quotient.mk st a:RE)=Quotient.mk st b:=
 apB λe he=>⟨0,λn _=>by rw[h n];grind⟩
instance (n:Nat):OfNat RE n:=⟨of (OfNat.ofNat n)⟩
theorem of_add(a b:Rat):of (a+b)=of a+of b:=rfl
theorem aC(a b:Rat):of (a*b)=of a*of b:=rfl
theorem of_neg(a:Rat):of (-a)= -of a:=rfl
theorem of_sub(a b:Rat):of (a-b)=of a-of b:=by rw[apG];rfl
theorem pI:of 0=0:=rfl
theorem Ds:of 1=1:=rfl
theorem add_zero(a:RE):a+0=a:=by
 induction a using aoa;exact snd λn=>Rat.add_zero _
theorem add_comm(a b:RE):a+b=b+a:=by
 induction a,b using apT;exact snd λn=>Rat.add_comm _ _
theorem add_assoc(a b c:RE):a+b+c=a+(b+c):=by
 induction a,b,c using apj;exact snd λn=>Rat.add_assoc _ _ _
theorem mul_assoc(a b c:RE):a*b*c=a*(b*c):=by
 induction a,b,c using apj;exact snd λn=>Rat.mul_assoc _ _ _
theorem mul_comm(a b:RE):a*b=b*a:=by
 induction a,b using apT;exact snd λn=>aoN _ _
theorem mul_one(a:RE):a*1=a:=by
 induction a using aoa;exact snd λn=>Rat.mul_one _
theorem mul_zero(a:RE):a*0=0:=by
 induction a using aoa;exact snd λn=>Rat.mul_zero _
theorem left_distrib(a b c:RE):a*(b+c)=a*b+a*c:=by
 induction a,b,c using apj;exact snd λn=>Rat.mul_add _ _ _
theorem xE(a:RE): -a+a=0:=by
 induction a using aoa;exact snd λn=>Rat.neg_add_cancel _
def clt(a b:CS):Prop:=∃e:Rat,0<e/\∃N,∀n,N<=n->a.f n+e<b.f n
theorem SG(a b a' b':CS)(h:a≈a')(h':b≈b')(hl:clt a b):clt a' b':=by
 obtain⟨e,he,N,hl⟩:=hl;obtain⟨N1,h⟩:=h (e/4) (by grind);obtain⟨N2,h'⟩:=h' (e/4) (by grind);refine⟨e/2,by grind,max N (max N1 N2),λn hn=>?_⟩;have:=hl n (by omega);have:=h n (by omega);have:=h' n (by omega);grind
instance:LT RE:=⟨Quotient.lift₂ clt (λ_ _ _ _ h h'=>propext ⟨SG _ _ _ _ h h',SG _ _ _ _ (Setoid.symm h) (Setoid.symm h')⟩)⟩
instance:LE RE:=⟨λa b=>¬b<a⟩
theorem lt_irrefl(a:RE):¬a<a:=by
 induction a using aoa
 rintro ⟨e,he,N,h⟩
 have:=h N (ani _);grind
theorem da{a b c:RE}:a<b->b<c->a<c:=by
 induction a,b,c using apj
 rintro ⟨e,he,N,h⟩ ⟨e',he',N',h'⟩
 refine⟨e,he,max N N',λn hn=>?_⟩;have:=h n (by omega);have:=h' n (by omega);grind
theorem n8(a b:RE):a<b\/a=b\/b<a:=by
 induction a,b using apT
 rename_i a b;by_cases h1:clt a b
 ·exact .inl h1
 by_cases h2:clt b a
 ·exact .inr (.inr h2)
 refine .inr (.inl (apB λe he=>?_));obtain⟨N,ha⟩:=a.cau (e/4) (by grind);obtain⟨M,hb⟩:=b.cau (e/4) (by grind)
 have g1:∃n,max N M<=n/\b.f n<=a.f n+e/4:=by
  apply anv;intro hc
  exact h1 ⟨e/4,by grind,max N M,λn hn=>by
   apply anv;intro h;exact hc ⟨n,hn,by grind⟩⟩
 have g2:∃n,max N M<=n/\a.f n<=b.f n+e/4:=by
  apply anv;intro hc
  exact h2 ⟨e/4,by grind,max N M,λn hn=>by
   apply anv;intro h;exact hc ⟨n,hn,by grind⟩⟩
 obtain⟨p,hp,gp⟩:=g1;obtain⟨q,hq,gq⟩:=g2;refine⟨max N M,λn hn=>?_⟩;have a1:=ha n q (by omega) (by omega);have b1:=hb q n (by omega) (by omega);have a2:=ha p n (by omega) (by omega);have b2:=hb n p (by omega) (by omega);constructor<;>grind
theorem l7{a b:RE}(c:RE):a<b->a+c<b+c:=by
 induction a,b,c using apj
 rintro ⟨e,he,N,h⟩
 refine⟨e,he,N,λn hn=>?_⟩;have:=h n hn;simp only[RL.add];grind
theorem mul_pos{a b:RE}:0<a->0<b->0<a*b:=by
 induction a,b using apT
 rintro ⟨e,he,N,h⟩ ⟨e',he',N',h'⟩
 refine⟨e*e',anE he he',max N N',λn hn=>?_⟩;have h1:=h n (by omega);have h2:=h' n (by omega);simp only[RL.const]at h1 h2 ⊢;rename_i a b;have p:=anE (a:=a.f n-e) (b:=b.f n-e') (by grind) (by grind);have q:=anE (a:=a.f n-e) (b:=e') (by grind) (by grind);have r:=anE (a:=e) (b:=b.f n-e') (by grind) (by grind);simp only[RL.mul];grind
theorem fS{a b:Rat}(h:a<b):of a<of b:=⟨(b-a)/2,by grind,0,λn _=>by simp only[RL.const];grind⟩
theorem IB(a:RE):0<a->∃b,a*b=1:=by
 induction a using aoa
 rename_i a;rintro ⟨e,he,N,h⟩
 simp only[RL.const]at h
 have hp:∀n,N<=n->0<(a.f n)⁻¹/\(a.f n)⁻¹<e⁻¹:=λn hn=>by
  have h1:=h n hn;have h2:0<(a.f n)⁻¹:=apS.2 (by grind);have h3:0<e⁻¹:=apS.2 he;refine⟨h2,?_⟩;have h4:=anE (anE h2 h3) (show 0<a.f n-e by grind);have e1:(a.f n)⁻¹*e⁻¹*(a.f n-e)=e⁻¹-(a.f n)⁻¹:=by grind
  grind
 refine⟨Quotient.mk _ ⟨λn=>(a.f n)⁻¹,λd hd=>?_⟩,apB λd hd=>⟨N,λn hn=>?_⟩⟩
 ·have hE:0<e⁻¹:=apS.2 he;obtain⟨M,hM⟩:=a.cau (d*e*e) (anE (anE hd he) he);refine⟨max N M,λm n hm hn=>?_⟩;have h1:=hp m (by omega);have h2:=hp n (by omega);have h3:=hM n m (by omega) (by omega);have hm':=h m (by omega);have hn':=h n (by omega);have e1:(a.f m)⁻¹-(a.f n)⁻¹=((a.f m)⁻¹*(a.f n)⁻¹)*(a.f n-a.f m):=by grind
  rw[e1];have p1:=anE h1.1 h2.1;have p2:=anE p1 (show 0<d*e*e-(a.f n-a.f m) by grind);have p3:=anE (show 0<e⁻¹-(a.f m)⁻¹ by grind) hE;have p4:=anE h1.1 (show 0<e⁻¹-(a.f n)⁻¹ by grind);have p5:(a.f m)⁻¹*(a.f n)⁻¹<e⁻¹*e⁻¹:=by grind
  have p6:=anE (show 0<e⁻¹*e⁻¹-(a.f m)⁻¹*(a.f n)⁻¹ by grind) (anE (anE hd he) he);have p7:e⁻¹*e⁻¹*(d*e*e)=d:=by grind
  grind
 ·have:=h n hn;simp only[RL.mul,RL.const];have:a.f n*(a.f n)⁻¹=1:=Rat.mul_inv_cancel _ (by grind);rw[this];grind
end RE
end
end Go.Proofs.YtagbmoohboleaaaGreat
end
