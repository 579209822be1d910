/- The reference's Sqrt and Same. -/
import Derived.Test.YtagbmoohboleaaaGreatJ10
noncomputable section
namespace Go.Proofs.YtagbmoohboleaaaGreat
open Go.RowKit Go.IntKind
theorem am6:type_of% @Bool.and_eq_true_iff:=@Bool.and_eq_true_iff
theorem aoQ:type_of% @Int.zero_sub:=@Int.zero_sub
theorem aoV:type_of% @Rat.intCast_mul:=@Rat.intCast_mul
theorem ao9:type_of% @decide_eq_true_eq:=@decide_eq_true_eq
theorem aph:type_of% @beq_eq_false_iff_ne:=@beq_eq_false_iff_ne
theorem apn:type_of% @Rat.intCast_lt_intCast:=@Rat.intCast_lt_intCast
theorem apE:type_of% @Rat.neg_neg:=@Rat.neg_neg
theorem ap7:type_of% @Rat.le_refl:=@Rat.le_refl
theorem nW(a b:Int):(cr a b==0)=decide (a=b):=by
 rcases Int.lt_trichotomy a b with h|h|h
 ·rw[dl h,amY (by omega)];rfl
 ·rw[h,eH,amW rfl];rfl
 ·rw[cU h,amY (by omega)];rfl
def Qo:List En:=[enK Cs,enF QC,enK C9,enK Gr,enK M3]
def UT:NT:=[((264,23),{keep:=[1,2,4,5],hl:=6})]
def Dk:Ctx:=CX (ens Qo) UT
def lP(x:Bool×List Int)(b4_0:Bool)(b4_1:List Int):Cfg:=⟨264,[.blk 0],[(1,.box 0 0),(2,.box 1 0),(4,.box 4 0),(5,.box 5 0)],[.box 29 [SB x.1,.d aqg x.2],.box 29 [SB false,.nil],.gone,.row 200 aqi ([1]),.box 29 [SB b4_0,.d aqg b4_1],.box 29 [SB ((ai (2:Int)).1),.d aqg ((ai (2:Int)).2)]],0,[]⟩
def BD(x:Bool×List Int)(k:KT):OLR:=match x.1 with|true=>some [RV.d y2Y (false,[]),RV.d aqh 7]|false=>(match(x.2.length:Int)==0 with|true=>some [RV.d y2Y (false,[]),RV.d aqh 0]|false=>(og (decide ((0:Int)<=i64.wrap (Int.tdiv (i64.wrap ((x.2.length:Int)+1)) 2)/\(i64.wrap (Int.tdiv (i64.wrap ((x.2.length:Int)+1)) 2))*((4:Nat):Int)<=140737488355328/\i64.wrap (Int.tdiv (i64.wrap ((x.2.length:Int)+1)) 2)<=140737488355328)) (og (decide (((List.replicate (i64.wrap (Int.tdiv (i64.wrap ((x.2.length:Int)+1)) 2)).toNat (0:Int)).length+([1]).length)*4<=140737488355328/\(List.replicate (i64.wrap (Int.tdiv (i64.wrap ((x.2.length:Int)+1)) 2)).toNat (0:Int)).length+([1]).length<=140737488355328)) (og (decide (aI (2:Int))) (k 23 (lP x false ((List.replicate (i64.wrap (Int.tdiv (i64.wrap ((x.2.length:Int)+1)) 2)).toNat (0:Int))++([1]))))))))
theorem GM(x:Bool×List Int):RS Dk 264 [.d y2Y x] (BD x):=rsX
def tc(x:Bool×List Int)(b4_0:Bool)(b4_1:List Int)(k:KT):OLR:=og (decide (fN x (b4_0,b4_1))) (cA (og (decide (okI (b4_0,b4_1)/\okI (ai (ae x/ae (b4_0,b4_1))))) (cA (og (decide (fN (ai (ae (b4_0,b4_1)+ae (ai (ae x/ae (b4_0,b4_1))))) (ai (2:Int)))) (dup (.b .l .l) (og (decide (okI (ai (ae (ai (ae (b4_0,b4_1)+ae (ai (ae x/ae (b4_0,b4_1)))))/ae (ai (2:Int))))/\okI (b4_0,b4_1))) (match decide ((cr (ae (ai (ae (ai (ae (b4_0,b4_1)+ae (ai (ae x/ae (b4_0,b4_1)))))/ae (ai (2:Int))))) (ae (b4_0,b4_1)))>=0)with|true=>some [RV.d y2Y (b4_0,b4_1),RV.d aqh 0]|false=>k 23 (lP x ((ai (ae (ai (ae (b4_0,b4_1)+ae (ai (ae x/ae (b4_0,b4_1)))))/ae (ai (2:Int)))).1) ((ai (ae (ai (ae (b4_0,b4_1)+ae (ai (ae x/ae (b4_0,b4_1)))))/ae (ai (2:Int)))).2)))))) (dup (.b (.b .l .l) (.b .l .l)) (og (decide (fN (ai (ae (b4_0,b4_1)+ae (ai (ae x/ae (b4_0,b4_1))))) (ai (2:Int)))) (og (decide (okI (ai (ae (ai (ae (b4_0,b4_1)+ae (ai (ae x/ae (b4_0,b4_1)))))/ae (ai (2:Int))))/\okI (b4_0,b4_1))) (match decide ((cr (ae (ai (ae (ai (ae (b4_0,b4_1)+ae (ai (ae x/ae (b4_0,b4_1)))))/ae (ai (2:Int))))) (ae (b4_0,b4_1)))>=0)with|true=>some [RV.d y2Y (b4_0,b4_1),RV.d aqh 0]|false=>k 23 (lP x ((ai (ae (ai (ae (b4_0,b4_1)+ae (ai (ae x/ae (b4_0,b4_1)))))/ae (ai (2:Int)))).1) ((ai (ae (ai (ae (b4_0,b4_1)+ae (ai (ae x/ae (b4_0,b4_1)))))/ae (ai (2:Int)))).2)))))))) (dup (.b .l .l) (cA (og (decide (okI (b4_0,b4_1)/\okI (ai (ae x/ae (b4_0,b4_1))))) (dup (.b .l .l) (og (decide (fN (ai (ae (b4_0,b4_1)+ae (ai (ae x/ae (b4_0,b4_1))))) (ai (2:Int)))) (og (decide (okI (ai (ae (ai (ae (b4_0,b4_1)+ae (ai (ae x/ae (b4_0,b4_1)))))/ae (ai (2:Int))))/\okI (b4_0,b4_1))) (match decide ((cr (ae (ai (ae (ai (ae (b4_0,b4_1)+ae (ai (ae x/ae (b4_0,b4_1)))))/ae (ai (2:Int))))) (ae (b4_0,b4_1)))>=0)with|true=>some [RV.d y2Y (b4_0,b4_1),RV.d aqh 0]|false=>k 23 (lP x ((ai (ae (ai (ae (b4_0,b4_1)+ae (ai (ae x/ae (b4_0,b4_1)))))/ae (ai (2:Int)))).1) ((ai (ae (ai (ae (b4_0,b4_1)+ae (ai (ae x/ae (b4_0,b4_1)))))/ae (ai (2:Int)))).2))))))) (og (decide (okI (b4_0,b4_1)/\okI (ai (ae x/ae (b4_0,b4_1))))) (og (decide (fN (ai (ae (b4_0,b4_1)+ae (ai (ae x/ae (b4_0,b4_1))))) (ai (2:Int)))) (og (decide (okI (ai (ae (ai (ae (b4_0,b4_1)+ae (ai (ae x/ae (b4_0,b4_1)))))/ae (ai (2:Int))))/\okI (b4_0,b4_1))) (match decide ((cr (ae (ai (ae (ai (ae (b4_0,b4_1)+ae (ai (ae x/ae (b4_0,b4_1)))))/ae (ai (2:Int))))) (ae (b4_0,b4_1)))>=0)with|true=>some [RV.d y2Y (b4_0,b4_1),RV.d aqh 0]|false=>k 23 (lP x ((ai (ae (ai (ae (b4_0,b4_1)+ae (ai (ae x/ae (b4_0,b4_1)))))/ae (ai (2:Int)))).1) ((ai (ae (ai (ae (b4_0,b4_1)+ae (ai (ae x/ae (b4_0,b4_1)))))/ae (ai (2:Int)))).2)))))))))
theorem ya(x:Bool×List Int)(b4_0:Bool)(b4_1:List Int):RN Dk 23 (lP x b4_0 b4_1) (tc x b4_0 b4_1):=rnX
theorem LB(x:BI)(hx:okI x)(h0:0<ae x):∀(m:Nat) (X:Int),X.toNat=m->0<X->bK (ae x)<=X->szI X<=900000->Dk.Runs 23 (lP x (ai X).1 (ai X).2) [.d y2Y (ai (bK (ae x))),.d aqh 0]:=by
 intro m;induction m using Nat.strongRecOn with
 |ind m ih=>
  intro X hm hX hs hsz;obtain⟨g0,g1,g2⟩:=gN (anD h0);have hq0:0<=ae x/X:=anZ (by omega) (by omega);have hq1:ae x/X<=ae x:=aoN _ (by omega);have oX:okI (ai X):=aX (by omega);have sq:szI (ae x/X)<=1000000:=am9 (dM (by omega)) (jA hx);have p1:fN x (ai X):=⟨hx,oX,by rw[dec_enc];exact hX⟩
  have ssum:szI (X+ae x/X)<=1000000:=by
   have b1:=pk hsz;have b2:=pk (jA hx);have e:pw 1000000=pw 900000*pw 100000:=by rw[<-fW]
   have p9:(1000:Int)<=pw 100000:=by
    have:pw 100000=pw 99999*1000000000:=ce 99999;have:=cp 99999;omega
   have p8:=cp 900000;have h8:pw 900000*1000<=pw 900000*pw 100000:=am4 p9 (by omega);rcases ans X 2 with hX1|hX1
   ·-- X=1:then the number is less than 4
    have:X=1:=by omega
    subst this;have:bK (ae x)<=1:=hs
    have h4:ae x<4:=by
     have:=sq_mono (a:=bK (ae x)+1) (b:=2) (by omega) (by omega);omega
    refine fL ?_ ?_<;>(rw[e,Int.ediv_one];omega)
   ·have hq2:ae x/X<=ae x/2:=by
     have:=Int.ediv_mul_le (ae x) (show X≠0 by omega);have h2:ae x/X*2<=ae x/X*X:=am4 hX1 hq0;omega
    refine fL ?_ ?_<;>(rw[e]at b2 ⊢;omega)
  have o1:okI (ai X)/\okI (ai (ae x/X)):=⟨oX,aX sq⟩
  have p2:fN (ai (X+ae x/X)) (ai 2):=⟨aX ssum,by decide,by rw[dec_enc];decide⟩
  have hn:=Mk hX g0 g1;have o2:okI (ai ((X+ae x/X)/2))/\okI (ai X):=⟨aX (am9 (dM (by omega)) ssum),oX⟩
  by_cases hc:X<=(X+ae x/X)/2
  ·have hXs:=zK hX hs g1 g2 g0 hc;refine ya _ _ _ ⟨0,?_⟩;unfold tc;simp only[cX,fy];have e:∀z:Int,((ai z).1,(ai z).2)=ai z:=λz=>rfl;simp only[e,dec_enc,amW p1,amW o1,amW p2,amW o2]
   have hg:decide (cr ((X+ae x/X)/2) X>=0)=true:=by
    rcases Int.lt_or_eq_of_le hc with h|h
    ·rw[cU h];rfl
    ·rw[<-h,eH];rfl
   rw[hg,hXs]
  ·obtain⟨n,hN⟩:=ih ((X+ae x/X)/2).toNat (by omega) ((X+ae x/X)/2) rfl (by
    rcases ans 0 (bK (ae x))with h|h
    ·omega
    ·exfalso;have:bK (ae x)=0:=by omega
     rw[this]at g2;omega) hn (am9 (dM (by omega)) hsz)
   refine ya _ _ _ ⟨n,?_⟩;unfold tc;simp only[cX,fy];have e:∀z:Int,((ai z).1,(ai z).2)=ai z:=λz=>rfl;simp only[e,dec_enc,amW p1,amW o1,amW p2,amW o2];rw[dl (by omega)];exact hN
def ae1:Cn 264 [y2Y]:=cn λ(x:Bool×List Int)=>lf (okI x) [.d y2Y (ge x),.d aqh (wD x)] λh=>by
 refine da Qo (show Dk.Res _ _ _ from ?_);obtain⟨x0,x1,x2⟩:=cH h;have hl:=h.2.2;cases hn:x.1
 ·by_cases hz:x.2=[]
  ·refine GM _ ⟨0,?_⟩;unfold BD ge wD;have:ae x=0:=by unfold ae;rw[hn,hz];rfl
   rw[hn,hz,this];rfl
  ·have hp:0<val x.2:=fh h.1 hz;have hd:ae x=val x.2:=by unfold ae;rw[hn];rfl
   have hlen:=anG.2 hz
   have hk:i64.wrap (Int.tdiv (i64.wrap ((x.2.length:Int)+1)) 2)=(((x.2.length+1)/2:Nat):Int):=by
    rw[bW (by omega),iI (by omega),aV (by omega) (by omega)];omega
   have hv:val (List.replicate ((x.2.length+1)/2) 0++[1])=pw ((x.2.length+1)/2):=by
    rw[dN,io,apu];simp[val]
   have hL:aS (List.replicate ((x.2.length+1)/2) 0++[1]):=by
    refine⟨λy hy=>?_,by simp;omega⟩;rcases anI.1 hy with hy|hy
    ·have:=List.eq_of_mem_replicate hy;omega
    ·simp at hy;omega
   have hpos:=cp ((x.2.length+1)/2)
   obtain⟨n,hN⟩:=LB x h (by omega) _ (pw ((x.2.length+1)/2)) rfl hpos (by
     obtain⟨g0,g1,g2⟩:=gN (show 0<=ae x by omega);have hlt:=b8 h.1.1;have hm:=dH (show x.2.length<=(x.2.length+1)/2+(x.2.length+1)/2 by omega);rw[fW]at hm;have:=sq_lt (a:=bK (ae x)) (b:=pw ((x.2.length+1)/2)) (by omega) (by omega)
     omega) (fL (k:=900000) (by have:=cp 900000;omega) (by
      have:=dH (show(x.2.length+1)/2+1<=900000 by omega);rw[ce]at this;omega))
   refine GM _ ⟨n,?_⟩;unfold BD ge wD;simp only[hk];rw[hn,show((x.2.length:Int)==0)=false by simp;omega];simp only[aoC];rw[amW (show(0:Int)<=(((x.2.length+1)/2:Nat):Int)/\(((x.2.length+1)/2:Nat):Int)*((4:Nat):Int)<=140737488355328/\(((x.2.length+1)/2:Nat):Int)<=140737488355328 by omega)];rw[amW (show((List.replicate ((x.2.length+1)/2) (0:Int)).length+([1]:List Nat).length)*4<=140737488355328/\(List.replicate ((x.2.length+1)/2) (0:Int)).length+([1]:List Nat).length<=140737488355328 by simp;omega)];rw[amW (show aI 2 by decide)]
   have he:ai (pw ((x.2.length+1)/2))=(false,List.replicate ((x.2.length+1)/2) 0++[1]):=by
    have ho:okI ((false,List.replicate ((x.2.length+1)/2) 0++[1]):BI):=⟨⟨hL.1,by simp⟩,(λe=>by cases e),(by simp;omega)⟩
    rw[iY ho];congr 1;exact hv.symm
   rw[he]at hN;exact hN
 ·refine GM _ ⟨0,?_⟩;unfold BD ge wD;rw[hn];rfl
def aih:List En:=enF zA::Qo
def Sx(x y:Bool×List Int)(_k:KT):OLR:=match x.1==y.1 with|true=>(og (decide (sY x.2 y.2)) (some [RV.d .bool ((cr (val x.2) (val y.2))==0)]))|false=>some [RV.d .bool false]
def Tf:Cn 265 [y2Y,y2Y]:=cn λ(x y:Bool×List Int)=>lf (okI x/\okI y) [.d .bool (decide (ae x=ae y))] λh=>by
 refine aB aih (Sx x y) ⟨0,?_⟩;obtain⟨hx,hy⟩:=h;obtain⟨x0,x1,x2⟩:=cH hx;obtain⟨y0,y1,y2⟩:=cH hy;unfold Sx;rw[dT (show sY x.2 y.2 from⟨⟨hx.1,by have:=hx.2.2;omega⟩,⟨hy.1,by have:=hy.2.2;omega⟩⟩)];rw[bO,bO];unfold cf;cases ex:x.1<;>cases ey:y.1<;>simp only[cond_true,cond_false]
 ·show some [RV.d .bool (cr (val x.2) (val y.2)==0)]=_;rw[nW]
 ·have:=y1 ey;rw[amY (show ¬val x.2= -val y.2 by omega)];rfl
 ·have:=x1 ex;rw[amY (show ¬ -val x.2=val y.2 by omega)];rfl
 ·show some [RV.d .bool (cr (val x.2) (val y.2)==0)]=_;rw[nW,show decide (val x.2=val y.2)=decide (-val x.2= -val y.2) from an7.2 (by omega)]
def ga(q:Rat):Bool:=decide (bK q.num*bK q.num=q.num)&&decide (bK (q.den:Int)*bK (q.den:Int)=(q.den:Int))
def rtQ(q:Rat):Rat:=mkRat (bK q.num) (bK (q.den:Int)).toNat
theorem De(z:Int):0<=bK z:=by unfold bK;omega
theorem Cr{s:Int}(h:0<=s):bK (s*s)=s:=UC h (Int.le_refl _) (by grind)
theorem qP{z:Int}(h:z<0):bK z=0:=by
 unfold bK;rw[show z.toNat=0 by omega];rfl
theorem ah7{s t:Nat}(ht:0<t)(hg:(s*s).Coprime (t*t)):(mkRat (s:Int) t).num=(s:Int)/\(mkRat (s:Int) t).den=t:=by
 have hc:s.Coprime t:=Nat.Coprime.coprime_dvd_left (Nat.dvd_mul_left s s) (Nat.Coprime.coprime_dvd_right (Nat.dvd_mul_left t t) hg);rw[apZ,ap0,ank (by omega),ank (by omega),aot,show t.gcd s=1 from hc.symm];simp
theorem Gh{q:Rat}(h:ga q=true):(rtQ q).num=bK q.num/\((rtQ q).den:Int)=bK (q.den:Int)/\rtQ q*rtQ q=q/\0<=rtQ q:=by
 unfold ga at h;simp only[am0,ao9]at h;obtain⟨h1,h2⟩:=h;have hd:=q.den_pos;have hr:=q.reduced;obtain⟨s,hs⟩:=an6 (De q.num);obtain⟨t,ht⟩:=an6 (De (q.den:Int));unfold rtQ;rw[hs,ht,aoC];rw[hs]at h1;rw[ht]at h2;have e1:q.num.natAbs=s*s:=by rw[<-h1,<-aor,aot]
 have e2:q.den=t*t:=by rw[<-aor]at h2;omega
 have hg:(s*s).Coprime (t*t):=by rw[<-e1,<-e2];exact hr
 have tp:0<t:=Nat.pos_of_ne_zero λe=>by rw[e2,e]at hd;simp at hd
 obtain⟨g1,g2⟩:=ah7 tp hg;refine⟨g1,by rw[g2],?_,?_⟩
 ·rw[Rat.mkRat_mul_mkRat,<-e2,h1,Rat.mkRat_self]
 ·exact Rat.num_nonneg.1 (by rw[g1];omega)
theorem WA(r:Rat):ga (r*r)=true:=by
 have hd:=r.den_pos
 have hc:(r.den*r.den).gcd (r.num*r.num).natAbs=1:=by
  rw[apN];have:=r.reduced.symm;exact Nat.Coprime.mul_left (Nat.Coprime.mul_right this this) (Nat.Coprime.mul_right this this)
 have e1:(r*r).num=r.num*r.num:=by
  rw[Rat.mul_def',apZ,hc,ank (apy (by omega) (by omega))];simp
 have e2:((r*r).den:Int)=(r.den:Int)*(r.den:Int):=by
  rw[Rat.mul_def',ap0,hc,ank (apy (by omega) (by omega)),Nat.div_one,aor]
 unfold ga;rw[e1,e2,Cr (s:=(r.den:Int)) (by omega)];rcases ans r.num 0 with h|h
 ·rw[show r.num*r.num= -r.num* -r.num by grind,Cr (by omega)];simp
 ·rw[Cr h];simp
def rtB(q:Rat):BR:=bif ga q then ao (rtQ q)else((false,[]),(false,[]))
theorem BA{x:BI}(h:okI x):ge x=ai (bK (ae x)):=by
 obtain⟨x0,x1,x2⟩:=cH h;unfold ge;cases hx:x.1
 ·rfl
 ·have:=x1 hx;have hd:ae x= -val x.2:=by rw[bO,hx];rfl
  rw[hd,qP (by omega)];rfl
theorem IH{z:Int}(h:szI z<=1000000):szI (bK z)<=500000:=by
 have h1:=pk h;have e:pw 1000000=pw 500000*pw 500000:=by rw[<-fW]
 have hp:=cp 500000;rcases ans z 0 with h0|h0
 ·rw[qP h0];exact fL (by omega) hp
 ·obtain⟨g0,g1,g2⟩:=gN h0;have:=sq_lt (a:=bK z) (b:=pw 500000) (by omega) (by omega);exact fL (by omega) this
theorem S3(a b:Int):(ai a==ai b)=decide (a=b):=by
 by_cases h:a=b
 ·rw[h,amW rfl];simp
 ·rw[amY h,aph];intro e;exact h (by rw[<-dec_enc a,e,dec_enc])
theorem Ir{x y:BI}(hx:okI x)(hy:okI y):(x==y)=decide (ae x=ae y):=by
 rw[iY hx,iY hy,S3,dec_enc,dec_enc]
def HL:eM:=spN true true [tI,tI] (λx=>decide (okI x.1/\okI x.2.1)) (λx=>[RV.d aqh (cr (ae x.1) (ae x.2.1))])
theorem Ew:SpK 163 HL:=spX λx h=>Iu x.1 x.2.1 (amZ h)
def He:eM:=spN false true [tI,tI] (λx=>decide (okI x.1/\okI x.2.1)) (λx=>[RV.d tI (hid (ai (ae x.1*ae x.2.1)))])
theorem Dq:SpK 164 He:=spX λx h=>by simp only[bL];exact IU x.1 x.2.1 (amZ h)
def YO:List En:=[⟨163,HL,Ew⟩,⟨164,He,Dq⟩,enL Xq]
def Yc(x:BI)(_k:KT):OLR:=og (decide (okI x)) (match(wD x)==0 with|true=>(og (decide (okI (hid (ge x))/\okI (hid (ge x)))) (og (decide (okI (hid (ai (ae (hid (ge x))*ae (hid (ge x)))))/\okI x)) (some [RV.d tI (hid (ge x)),RV.d .bool ((cr (ae (hid (ai (ae (hid (ge x))*ae (hid (ge x)))))) (ae x))==0)])))|false=>some [RV.d tI (hid (ge x)),RV.d .bool false])
def aiT:Cn 318 [tI]:=cn λ(x:BI)=>lf (okI x) [.d tI (ai (bK (ae x))),.d .bool (decide (bK (ae x)*bK (ae x)=ae x))] λh=>by
 refine aB YO (Yc x) ⟨0,?_⟩;have hs:=jA h;have hz:szI (bK (ae x))<=500000:=IH hs;have o1:okI (ai (bK (ae x))):=aX (by omega);have o2:okI (ai (bK (ae x)*bK (ae x))):=aX (by have:=cV hz hz;omega);have o3:okI (ai (bK (ae x)*bK (ae x)))/\okI x:=⟨o2,h⟩
 have o4:okI (ai (bK (ae x)))/\okI (ai (bK (ae x))):=⟨o1,o1⟩
 have hng:x.1=true->decide (bK (ae x)*bK (ae x)=ae x)=false:=λe=>amY (by
  have:=(cH h).2.1 e;have hd:ae x= -val x.2:=by rw[bO,e];rfl
  rw[qP (by omega)];omega)
 unfold Yc;simp only[bL,BA h,dec_enc,dT h,dT o4,dT o3,nW];unfold wD;cases e:x.1
 ·rfl
 ·rw[hng e];rfl
def aj1:List En:=enL aiT::YO
def ZJ(a:BR)(_k:KT):OLR:=og (decide (okI a.1)) (match decide (bK (ae a.1)*bK (ae a.1)=ae a.1)with|true=>(og (decide (okI a.2)) (match decide (bK (ae a.2)*bK (ae a.2)=ae a.2)with|true=>some [RV.d tR (hid (ai (bK (ae a.1))),hid (ai (bK (ae a.2)))),RV.d .bool true]|false=>some [RV.d tR ((false,[]),(false,[])),RV.d .bool false]))|false=>some [RV.d tR ((false,[]),(false,[])),RV.d .bool false])
def abq:Cn 282 [tR]:=cn λ(a:BR)=>lf (okR a) [.d tR (rtB (ah a)),.d .bool (ga (ah a))] λh=>by
 refine aB aj1 (ZJ a) ⟨0,?_⟩;obtain⟨a1,a2⟩:=cS h;unfold ZJ rtB ga;rw[dT h.1,dT h.2.1,a1,a2];simp only[bL];cases e1:decide (bK (ae a.1)*bK (ae a.1)=ae a.1)
 ·rfl
 ·cases e2:decide (bK (ae a.2)*bK (ae a.2)=ae a.2)
  ·rfl
  ·obtain⟨r1,r2,_⟩:=Gh (q:=ah a) (by unfold ga;rw[a1,a2,e1,e2];rfl);simp only[aos,cond_true];unfold ao;rw[r1,r2,a1,a2];try rfl
def QO:List En:=[enL LV,enL ae1,enT Tf]
def S6(x:BI)(_k:KT):OLR:=og (decide (okI x)) (match(wD x)==0 with|true=>(og (decide (okI (hid (ge x))/\okI (hid (ge x)))) (og (decide (okI (hid (ai (ae (hid (ge x))*ae (hid (ge x)))))/\okI x)) (some [RV.d tI (hid (ge x)),RV.d .bool (decide (ae (hid (ai (ae (hid (ge x))*ae (hid (ge x)))))=ae x))])))|false=>some [RV.d tI (hid (ge x)),RV.d .bool false])
def acQ:Cn 179 [tI]:=cn λ(x:BI)=>lf (okI x) [.d tI (ai (bK (ae x))),.d .bool (decide (bK (ae x)*bK (ae x)=ae x))] λh=>by
 refine aB QO (S6 x) ⟨0,?_⟩;have hs:=jA h;have hz:szI (bK (ae x))<=500000:=IH hs;have o1:okI (ai (bK (ae x))):=aX (by omega);have o2:okI (ai (bK (ae x)*bK (ae x))):=aX (by have:=cV hz hz;omega);have o3:okI (ai (bK (ae x)*bK (ae x)))/\okI x:=⟨o2,h⟩
 have o4:okI (ai (bK (ae x)))/\okI (ai (bK (ae x))):=⟨o1,o1⟩
 have hng:x.1=true->decide (bK (ae x)*bK (ae x)=ae x)=false:=λe=>amY (by
  have:=(cH h).2.1 e;have hd:ae x= -val x.2:=by rw[bO,e];rfl
  rw[qP (by omega)];omega)
 unfold S6;simp only[bL,BA h,dec_enc,dT h,dT o4,dT o3];unfold wD;cases e:x.1
 ·rfl
 ·rw[hng e];rfl
def acY:List En:=enL acQ::QO
def Oz(a:BR)(_k:KT):OLR:=og (decide (okI a.1)) (og (decide (okI a.2)) (match !(decide (bK (ae a.1)*bK (ae a.1)=ae a.1))with|true=>some [RV.d tR ((false,[]),(false,[])),RV.d .bool false]|false=>(match !(decide (bK (ae a.2)*bK (ae a.2)=ae a.2))with|true=>some [RV.d tR ((false,[]),(false,[])),RV.d .bool false]|false=>some [RV.d tR (hid (ai (bK (ae a.1))),hid (ai (bK (ae a.2)))),RV.d .bool true])))
def Pp:Cn 81 [tR]:=cn λ(a:BR)=>lf (okR a) [.d tR (rtB (ah a)),.d .bool (ga (ah a))] λh=>by
 refine aB acY (Oz a) ⟨0,?_⟩;obtain⟨a1,a2⟩:=cS h;unfold Oz rtB ga;rw[dT h.1,dT h.2.1,a1,a2];simp only[bL];cases e1:decide (bK (ae a.1)*bK (ae a.1)=ae a.1)
 ·rfl
 ·cases e2:decide (bK (ae a.2)*bK (ae a.2)=ae a.2)
  ·rfl
  ·obtain⟨r1,r2,_⟩:=Gh (q:=ah a) (by unfold ga;rw[a1,a2,e1,e2];rfl);simp only[aos,cond_true];unfold ao;rw[r1,r2,a1,a2];try rfl
def Md:eM:=spN false true [tI,tI] (λx=>decide (fN x.1 x.2.1)) (λx=>[RV.d tI (hid (ai (ae x.1/ae x.2.1))),RV.d tI (hid (ai (ae x.1%ae x.2.1))),RV.d aqh 0])
theorem Rz:SpK 302 Md:=spX λx h=>by simp only[bL];exact Jd x.1 x.2.1 (amZ h)
def ahz:List En:=[⟨302,Md,Rz⟩]
def YG(a:BR)(_k:KT):OLR:=og (decide (fN a.1 a.2)) (some [RV.d tI (hid (ai (ae a.1/ae a.2)))])
def MS:Cn 327 [tR]:=cn λ(a:BR)=>lf (okR a) [.d tI (ai (ah a).floor)] λh=>by
 refine aB ahz (YG a) ⟨0,?_⟩;obtain⟨a1,a2⟩:=cS h;unfold YG;rw[dT (show fN a.1 a.2 from⟨h.1,h.2.1,h.2.2.1⟩),Rat.floor_def,a1,a2];simp only[bL]
def abm:List En:=[enK zP]
def VS:NT:=[((278,6),{keep:=[1,3],hl:=1})]
def Df:Ctx:=CX (ens abm) VS
def wX(x:BI)(s3:Int):Cfg:=⟨278,[.blk 0,.seq 23],[(1,.box 0 0),(3,SI s3)],[.box 29 [SB x.1,.d aqg x.2]],0,[]⟩
def adV(x:BI)(k:KT):OLR:=k 6 (wX x 0)
theorem acq(x:BI):RS Df 278 [.d tI x] (adV x):=rsX
def vG(x:BI)(s3:Int)(k:KT):OLR:=match decide (s3<(x.2.length:Int))with|true=>(match aT x.2 s3 with|some x1=>(match decide (x1>=1000000000)with|true=>some [RV.d .bool false]|false=>k 6 (wX x (i64.wrap (s3+1))))|none=>none)|false=>(og (decide (aS x.2)) (match((ag (val x.2).toNat).length:Int)==(x.2.length:Int)with|true=>(match !x.1 with|true=>some [RV.d .bool true]|false=>some [RV.d .bool (decide ((x.2.length:Int)>0))])|false=>some [RV.d .bool false]))
theorem Aw(x:BI)(s3:Int):RN Df 6 (wX x s3) (vG x s3):=rnX
theorem Lm(x:BI)(h:okI x):∀(j i:Nat),i+j=x.2.length->Df.Runs 6 (wX x (i:Int)) [.d .bool true]:=by
 obtain⟨x0,x1,x2⟩:=cH h;have hlim:=gH h;have hl:=h.2.2;intro j;induction j with
 |zero=>
  intro i hi;refine Aw _ _ ⟨0,?_⟩;unfold vG;have hc:ag (val x.2).toNat=x.2:=(qg h.1).symm;rw[cd (by omega),dT hlim,hc,beq_self_eq_true];dsimp only;cases e:x.1
  ·rfl
  ·have:=x1 e;have:x.2≠[]:=λe=>by rw[x2]at e;omega
   have:=anG.2 this;rw[amW (by omega)];rfl
 |succ j ih=>
  intro i hi;have hil:i<x.2.length:=by omega
  obtain⟨q,hq⟩:=ih (i+1) (by omega);refine Aw _ _ ⟨q,?_⟩;unfold vG;have hb:=(hlim.1 x.2[i] (anw hil)).2;rw[bI hil,av,amX hil,bW (by omega)];dsimp only;rw[amY (by omega)];exact hq
def abz:Cn 278 [tI]:=cn λ(x:BI)=>lf (okI x) [.d .bool true] λh=>by
 refine da abm (show Df.Res _ _ _ from ?_);obtain⟨q,hq⟩:=Lm x h x.2.length 0 (by omega);exact acq _ ⟨q,hq⟩
def aje:List En:=[enT Tf,enT abz,enT Px,enL RY,enL NM]
def Ol(a:BR)(_k:KT):OLR:=og (decide (okI a.1)) (og (decide (okI a.2)) (og (decide (okI a.2)) (match(cr (ae a.2) 0) !=1 with|true=>some [RV.d .bool false]|false=>(og (decide (okI a.1/\okI a.2)) (og (decide (okI (hid (ai ((Int.gcd (ae a.1) (ae a.2):Nat):Int)))/\okI (hid (ai 1)))) (some [RV.d .bool (decide (ae (hid (ai ((Int.gcd (ae a.1) (ae a.2):Nat):Int)))=ae (hid (ai 1))))]))))))
def aeE:Cn 204 [tR]:=cn λ(a:BR)=>lf (okR a) [.d .bool true] λh=>by
 refine aB aje (Ol a) ⟨0,?_⟩;obtain⟨h1,h2,h3,h4,_⟩:=h;have o1:okI (ai ((Int.gcd (ae a.1) (ae a.2):Nat):Int)):=by rw[h4];exact re
 unfold Ol;simp only[bL];rw[dT h1,dT h2,dT (show okI a.1/\okI a.2 from⟨h1,h2⟩),cU h3,dT (show okI (ai ((Int.gcd (ae a.1) (ae a.2):Nat):Int))/\okI (ai 1) from⟨o1,re⟩),dec_enc,dec_enc,h4];rfl
def mkR(a b c:Rat):Rt:=bif ga c then(a+b*rtQ c,0,0)else bif decide (b=0)then(a,0,0)else(a,b,c)
def coR(a b c:Rat):Rt:=bif decide (b=0)then(a,0,0)else(a,b,c)
class Nn (c:Rat):Prop where le:0<=c
def WE(x:Rt):Prop:=(x.2.1=0/\x.2.2=0)\/(x.2.1≠0/\0<x.2.2/\ga x.2.2=false)
instance (x:Rt):Decidable (WE x):=by unfold WE;infer_instance
class Rdd (x:Rt):Prop where
 rd:WE x
def okT(k:Nat)(x:BO3):Prop:=ok Rt k x/\WE (dec x)
instance (k:Nat) (x:BO3):Decidable (okT k x):=by unfold okT;infer_instance
theorem fU{k:Nat}{x:BO3}(h:okT k x):∃v:Rt,x=enc v/\Bd v k/\Rdd v:=by
 obtain⟨h1,h2⟩:=h;obtain⟨v,rfl,bv⟩:=aD h1;rw[aA]at h2;exact⟨v,rfl,bv,⟨h2⟩⟩
theorem aK{x:Rt}{j k:Nat}[h:Bd x j][r:Rdd x](hj:j<=k)(hk:k<=480000):decide (okT k (enc x))=true:=amW ⟨amZ (okd hj hk),by rw[aA];exact r.rd⟩
theorem Rdd.nn{x:Rt}(h:Rdd x):0<=x.2.2:=by
 rcases h.rd with h|h<;>grind
instance amM {x:Rt} [h:Rdd x]:Nn x.2.2:=⟨h.nn⟩
theorem t8:ga 0=true:=by decide+kernel
theorem Jb{c:Rat}(h:0<=c)(hc:ga c=false):0<c:=by
 rcases(by grind:c=0\/0<c)with h|h
 ·rw[h,t8]at hc;cases hc
 ·exact h
instance u7 {a b c:Rat} [h:Nn c]:Rdd (mkR a b c):=by
 refine⟨?_⟩;unfold mkR;cases hc:ga c
 ·simp only[cond_false];by_cases hb:b=0
  ·rw[amW hb];exact .inl ⟨rfl,rfl⟩
  ·rw[amY hb];exact .inr ⟨hb,Jb h.le hc,hc⟩
 ·exact .inl ⟨rfl,rfl⟩
instance ae7 {a:Rat}:Rdd (a,0,0):=⟨.inl ⟨rfl,rfl⟩⟩
namespace RE
theorem L8{c:Rat}(h:ga c=true):rq c=of (rtQ c):=by
 obtain⟨_,_,e,h0⟩:=Gh h;refine EW _ _ (gf c) (fQ.2 h0) ?_;rw[dB (by rw[<-e];exact anh h0 h0),<-of_mul,e]
theorem Ko:rq 0=0:=by
 have:=dB (ap7:(0:Rat)<=0);rcases cO (gf 0)with h|h
 ·have:=mul_pos h h;rw[dB ap7]at this;exact absurd this (lt_irrefl _)
 ·exact h
theorem dZ(a c:Rat):v2 a 0 c=of a:=by
 unfold v2;rw[pg,zero_mul,add_zero]
theorem vR_mk(a b c:Rat):vR (mkR a b c)=v2 a b c:=by
 unfold mkR vR;cases hc:ga c
 ·simp only[cond_false];by_cases hb:b=0
  ·rw[amW hb];subst hb;show v2 a 0 0=_;rw[dZ,dZ]
  ·rw[amY hb];rfl
 ·show v2 (a+b*rtQ c) 0 0=_;rw[dZ];unfold v2;rw[L8 hc,of_add,of_mul]
theorem vR_co(a b c:Rat):vR (coR a b c)=v2 a b c:=by
 unfold coR vR;by_cases hb:b=0
 ·rw[amW hb];subst hb;show v2 a 0 0=_;rw[dZ,dZ]
 ·rw[amY hb];rfl
end RE
theorem Vu{z:Int}(h:0<=z):bK z<=z:=by
 obtain⟨g0,g1,g2⟩:=gN h;rcases ans (bK z) 1 with h'|h'
 ·omega
 ·have:bK z*1<=bK z*bK z:=am4 h' g0;omega
theorem D9(z:Int):szI (bK z)<=szI z:=by
 have h0:=De z;rcases ans z 0 with h|h
 ·rw[qP h];exact dM (by omega)
 ·have:=Vu h;exact dM (by omega)
instance amJ {c:Rat} {k:Nat} [h:Bd c k]:Bd (rtQ c) k:=by
 have hd:=c.den_pos
 have h1:0<bK (c.den:Int):=by
  obtain⟨g0,g1,g2⟩:=gN (show(0:Int)<=(c.den:Int) by omega);rcases ans 0 (bK (c.den:Int))with h|h
  ·exact h
  ·rw[show bK (c.den:Int)=0 by omega]at g2;omega
 refine⟨vw (by omega) (am9 (D9 _) h.le.1) ?_⟩;rw[Int.toNat_of_nonneg (by omega)];exact am9 (D9 _) h.le.2
instance ak3 {a b c:Rat} {i j k:Nat} [ha:Bd a i] [hb:Bd b j] [hc:Bd c k]:Bd (mkR a b c) (i+(j+k)+1):=by
 have z:bdR (i+(j+k)+1) 0:=bJ mN.le (by omega);refine⟨?_⟩;unfold mkR;cases ga c
 ·simp only[cond_false];cases decide (b=0)
  ·exact⟨bJ ha.le (by omega),bJ hb.le (by omega),bJ hc.le (by omega)⟩
  ·exact⟨bJ ha.le (by omega),z,z⟩
 ·exact⟨(inferInstance:Bd (a+b*rtQ c) (i+(j+k)+1)).le,z,z⟩
instance al4 {a b c:Rat} {i j k:Nat} [ha:Bd a i] [hb:Bd b j] [hc:Bd c k]:Bd (coR a b c) (mx i (mx j k)):=by
 have h1:=Bo i (mx j k);have h2:=B9 i (mx j k);have h3:=Bo j k;have h4:=B9 j k;have h5:=pK ha.le;have z:bdR (mx i (mx j k)) 0:=bJ mN.le (by omega);refine⟨?_⟩;unfold coR;cases decide (b=0)
 ·exact⟨bJ ha.le (by omega),bJ hb.le (by omega),bJ hc.le (by omega)⟩
 ·exact⟨bJ ha.le (by omega),z,z⟩
class Ns (c:Rat):Prop where ns:c=0\/(0<c/\ga c=false)
theorem Ns.nn{c:Rat}(h:Ns c):0<=c:=by rcases h.ns with h|h<;>grind
instance amN {c:Rat} [h:Ns c]:Nn c:=⟨h.nn⟩
theorem acG{a b c:Rat}{i j k:Nat}[ha:Bd a i][hb:Bd b j][hc:Bd c k][hn:Ns c]:Bd (mkR a b c) (mx (i+j+2) k):=by
 have h1:=Bo (i+j+2) k;have h2:=B9 (i+j+2) k;have z:bdR (mx (i+j+2) k) 0:=bJ mN.le (by omega);refine⟨?_⟩;unfold mkR;rcases hn.ns with h|h
 ·subst h;rw[t8];have e:rtQ 0=0:=by decide+kernel
  exact⟨by show bdR _ (a+b*rtQ 0);rw[e];exact bJ (C7 ha.le (C8 hb.le mN.le)) (by omega),z,z⟩
 ·rw[h.2];simp only[cond_false];cases decide (b=0)
  ·exact⟨bJ ha.le (by omega),bJ hb.le (by omega),bJ hc.le (by omega)⟩
  ·exact⟨bJ ha.le (by omega),z,z⟩
def sgR(x:Rt):Int:=il x.1 x.2.1 x.2.2
def noR(x:Rt):Rat:=x.1*x.1-x.2.1*x.2.1*x.2.2
theorem G8{x:Rt}(h:0<=x.2.2):sgR x=RE.sg (RE.vR x):=RE.sgn2_re h
def nL(a b c:Rat):Rt:=bif decide (b=0)then(a,0,0)else bif decide (c=0)then(a,0,0)else(a,b,c)
instance alD {x:Rt} {k:Nat} [h:Bd x k]:Bd (noR x) (5*k+1):=(inferInstance:Bd (x.1*x.1-x.2.1*x.2.1*x.2.2) (k+k+(k+k+k)+1)).mono (by omega)
theorem Nu{c:Rat}(h:ga c=true):rtB c=ao (rtQ c):=by unfold rtB;rw[h];rfl
theorem aed{x:Rt}(h:Rdd x)(hb:x.2.1≠0):noR x≠0:=by
 intro e;rcases h.rd with h|⟨_,h1,h2⟩
 ·exact hb h.1
 ·unfold noR at e;have:x.2.2=x.1/x.2.1*(x.1/x.2.1):=by grind
  rw[this,WA]at h2;cases h2
theorem abp{x:Rt}(h:Rdd x):sgR x=bif aE x.2.1 0==0 then aE x.1 0 else bif aE x.1 0==aE x.2.1 0 then aE x.1 0 else bif aE x.1 0==0 then aE x.2.1 0 else aE x.1 0*aE (noR x) 0:=by
 unfold sgR il RE.addS;rcases h.rd with⟨h1,h2⟩|⟨h0,h1,h2⟩
 ·rw[h1,eE];simp
 ·have hb:(aE x.2.1 0==0)=false:=by rw[aq,amY h0]
  rw[dJ h1,apf,hb];unfold noR;rw[ue];rfl
def No:List En:=[⟨125,jh,fE⟩,⟨132,jw,fO⟩,⟨65,je,fH⟩,⟨67,iA,fi⟩,⟨54,gi,eg⟩,enL abq]
def Yg(_k:KT):OLR:=og (decide (aI (0:Int))) (some [RV.d tR (hid (ao ((0:Int):Rat)))])
def aix:Cn 286 []:=cn<|lf True [.d tR (ao 0)] λ_=>by
 refine aB No (Yg) ⟨0,?_⟩;unfold Yg;rw[dT (show aI 0 by decide)];simp only[bL];rfl
def RJ:List En:=enL aix::No
def Z3(a:BR)(_k:KT):OLR:=some [RV.d tO (a,(hid (ao 0),hid (ao 0)))]
def A8:Cn 221 [tR]:=cn λ(a:BR)=>lf (okR a) [.d tO (enc ((ah a,0,0):Rt))] λh=>by
 refine aB RJ (Z3 a) ⟨0,?_⟩;have ha:=h;obtain⟨a,rfl,ba⟩:=fD ha;unfold Z3;simp only[aU,aC];try rfl
def abt(a b c:BR)(_k:KT):OLR:=og (o1 b) (match(aE (ah b) 0)==0 with|true=>some [RV.d tO (a,(b,hid (ao 0)))]|false=>some [RV.d tO (a,(b,c))])
def ahG:Cn 285 [tR,tR,tR]:=cn λ(a b c:BR)=>lf (okR a/\okR b/\okR c) [.d tO (enc (coR (ah a) (ah b) (ah c)))] λh=>by
 refine aB RJ (abt a b c) ⟨0,?_⟩;obtain⟨ha,hb,hc⟩:=h;obtain⟨a,rfl,ba⟩:=fD ha;obtain⟨b,rfl,bb⟩:=fD hb;obtain⟨c,rfl,bc⟩:=fD hc;unfold abt;simp only[aU,Nat.reduceLeDiff,aq];unfold coR;by_cases e:b=0
 ·subst e;rw[amW rfl];rfl
 ·rw[amY e];rfl
def aif:List En:=enL A8::enL ahG::RJ
def XF(a b c:BR)(_k:KT):OLR:=og (o1 c) (match decide ((aE (ah c) 0)<0)with|true=>some [RV.d tO (((false,[]),(false,[])),(((false,[]),(false,[])),((false,[]),(false,[])))),RV.d aqh 7]|false=>(og (o1 c) (match ga (ah c)with|true=>(og (o2 b (hid (rtB (ah c)))) (og (o2 a (hMu b (hid (rtB (ah c))))) (og (o1 (hAd a (hMu b (hid (rtB (ah c)))))) (some [RV.d tO (hid (enc ((ah (hAd a (hMu b (hid (rtB (ah c))))),0,0):Rt))),RV.d aqh 0]))))|false=>(og (decide (okR a/\okR b/\okR c)) (some [RV.d tO (hid (enc (coR (ah a) (ah b) (ah c)))),RV.d aqh 0])))))
def Zn:Cn 220 [tR,tR,tR]:=cn λ(a b c:BR)=>lf (ok Rat 100000 a/\ok Rat 100000 b/\ok Rat 100000 c/\0<=ah c) [.d tO (enc (mkR (ah a) (ah b) (ah c))),.d aqh 0] λh=>by
 refine aB aif (XF a b c) ⟨0,?_⟩;obtain⟨ha,hb,hc,hc_3⟩:=h;obtain⟨a,rfl,ba⟩:=aD ha;obtain⟨b,rfl,bb⟩:=aD hb;obtain⟨c,rfl,bc⟩:=aD hc;rw[fd,ct]at hc_3;unfold XF;simp only[aU,aC,Nat.reduceLeDiff,au,amY (show ¬c<0 by grind)];unfold mkR;cases hq:ga c
 ·have hz:c≠0:=λe=>by rw[e,t8]at hq;cases hq
  simp only[aU];try rfl
 ·rw[Nu hq];simp only[aU,aC,Nat.reduceAdd,Nat.reduceLeDiff];try rfl
def OM:List En:=[enL n9,enL oN,enL sL,enL qH,enT pJ,enL Pp,enT aeE]
def Pg(_k:KT):OLR:=og (decide (aI (0:Int))) (some [RV.d tR (hid (ao ((0:Int):Rat)))])
def RZ:Cn 180 []:=cn<|lf True [.d tR (ao 0)] λ_=>by
 refine aB OM (Pg) ⟨0,?_⟩;unfold Pg;rw[dT (show aI 0 by decide)];simp only[bL];rfl
def Tm:List En:=enL RZ::OM
def QN(a:BR)(_k:KT):OLR:=some [RV.d tO (a,(hid (ao 0),hid (ao 0)))]
def GT:Cn 82 [tR]:=cn λ(a:BR)=>lf (okR a) [.d tO (enc ((ah a,0,0):Rt))] λh=>by
 refine aB Tm (QN a) ⟨0,?_⟩;have ha:=h;obtain⟨a,rfl,ba⟩:=fD ha;unfold QN;simp only[aU,aC];try rfl
def MV:List En:=enL GT::Tm
def Mv(a b c:BR)(_k:KT):OLR:=og (o1 b) (match(aE (ah b) 0)==0 with|true=>(og (o1 a) (some [RV.d tO (hid (enc ((ah a,0,0):Rt)))]))|false=>(og (o1 c) (match(aE (ah c) 0)==0 with|true=>(og (o1 a) (some [RV.d tO (hid (enc ((ah a,0,0):Rt)))]))|false=>some [RV.d tO (a,(b,c))])))
def P7:Cn 84 [tR,tR,tR]:=cn λ(a b c:BR)=>lf (okR a/\okR b/\okR c) [.d tO (enc (nL (ah a) (ah b) (ah c)))] λh=>by
 refine aB MV (Mv a b c) ⟨0,?_⟩;obtain⟨ha,hb,hc⟩:=h;obtain⟨a,rfl,ba⟩:=fD ha;obtain⟨b,rfl,bb⟩:=fD hb;obtain⟨c,rfl,bc⟩:=fD hc;unfold Mv;simp only[aU,aC,Nat.reduceLeDiff,aq];unfold nL;by_cases e:b=0
 ·rw[amW e];rfl
 ·rw[amY e];by_cases e:c=0
  ·rw[amW e];rfl
  ·rw[amY e];rfl
def aeW:List En:=enL P7::MV
def Rv(a b c:BR)(_k:KT):OLR:=og (o1 c) (match decide ((aE (ah c) 0)<0)with|true=>some [RV.d tO (((false,[]),(false,[])),(((false,[]),(false,[])),((false,[]),(false,[])))),RV.d aqh 7]|false=>(og (o1 c) (match ga (ah c)with|true=>(og (o2 b (hid (rtB (ah c)))) (og (o2 a (hMu b (hid (rtB (ah c))))) (og (o1 (hAd a (hMu b (hid (rtB (ah c)))))) (some [RV.d tO (hid (enc ((ah (hAd a (hMu b (hid (rtB (ah c))))),0,0):Rt))),RV.d aqh 0]))))|false=>(og (decide (okR a/\okR b/\okR c)) (some [RV.d tO (hid (enc (nL (ah a) (ah b) (ah c)))),RV.d aqh 0])))))
def RP:Cn 26 [tR,tR,tR]:=cn λ(a b c:BR)=>lf (ok Rat 100000 a/\ok Rat 100000 b/\ok Rat 100000 c/\0<=ah c) [.d tO (enc (mkR (ah a) (ah b) (ah c))),.d aqh 0] λh=>by
 refine aB aeW (Rv a b c) ⟨0,?_⟩;obtain⟨ha,hb,hc,hc_3⟩:=h;obtain⟨a,rfl,ba⟩:=aD ha;obtain⟨b,rfl,bb⟩:=aD hb;obtain⟨c,rfl,bc⟩:=aD hc;rw[fd,ct]at hc_3;unfold Rv;simp only[aU,aC,Nat.reduceLeDiff,au,amY (show ¬c<0 by grind)];unfold mkR;cases hq:ga c
 ·have hz:c≠0:=λe=>by rw[e,t8]at hq;cases hq
  simp only[aU,nL,amY hz];try rfl
 ·rw[Nu hq];simp only[aU,aC,Nat.reduceAdd,Nat.reduceLeDiff];try rfl
def aaG(r:BO3)(_k:KT):OLR:=og (o2 r.1 r.1) (og (o2 r.2.1 r.2.1) (og (o2 (hMu r.2.1 r.2.1) r.2.2) (og (o2 (hMu r.1 r.1) (hMu (hMu r.2.1 r.2.1) r.2.2)) (some [RV.d tR (hSu (hMu r.1 r.1) (hMu (hMu r.2.1 r.2.1) r.2.2))]))))
def akg:Cn 225 [tO]:=cn λ(r:BO3)=>lf (ok Rt 15000 r) [.d tR (ao (noR (dec r)))] λh=>by
 refine aB No (aaG r) ⟨0,?_⟩;have hr:=h;obtain⟨r,rfl,br⟩:=aD hr;unfold aaG;simp only[aU,Nat.reduceAdd,Nat.reduceLeDiff];try rfl
abbrev Iv:=Int×Int
def prI(i:Iv):Prop:= -2305843009213693952<=i.1/\i.1<=i.2/\i.2<=2305843009213693952
instance (i:Iv):Decidable (prI i):=by unfold prI;infer_instance
def iv0:Iv:=(0,0)
theorem gh:prI iv0:=by decide
def pQ(lo hi:Int):Iv×Bool:=bif decide (lo< -2305843009213693952)then(iv0,false)else bif decide (hi>2305843009213693952)then(iv0,false)else((lo,hi),true)
theorem Cj{lo hi:Int}(h:lo<=hi):prI (pQ lo hi).1:=by
 unfold pQ;by_cases h1:lo< -2305843009213693952
 ·rw[amW h1];exact gh
 ·rw[amY h1];by_cases h2:hi>2305843009213693952
  ·rw[amW h2];exact gh
  ·rw[amY h2];exact⟨by show _<=lo;omega,h,by show hi<=_;omega⟩
theorem CL{lo hi:Int}(h:(pQ lo hi).2=true):(pQ lo hi).1=(lo,hi):=by
 unfold pQ at h ⊢;by_cases h1:lo< -2305843009213693952
 ·rw[amW h1]at h;cases h
 ·rw[amY h1]at h ⊢;by_cases h2:hi>2305843009213693952
  ·rw[amW h2]at h;cases h
  ·rw[amY h2];rfl
def frF(q:Rat):Iv×Bool:=bif decide (aI (q*65536).floor)then bif decide (aI (-(-(q*65536)).floor))then pQ (q*65536).floor (-(-(q*65536)).floor)else(iv0,false)else(iv0,false)
def dW(a b:Iv):Iv×Bool:=pQ (a.1+b.1) (a.2+b.2)
def nh(a:Iv):Iv:=(-a.2,-a.1)
def scF(x y:Int):(Int×Int)×Bool:=
 bif decide (x.natAbs*y.natAbs>=1208925819614629174706176)then((0,0),false)else bif decide (x.natAbs*y.natAbs/65536>2305843009213693952)then((0,0),false)
 else bif decide (x<0)==decide (y<0)then((((x.natAbs*y.natAbs/65536:Nat):Int),(((x.natAbs*y.natAbs+65535)/65536:Nat):Int)),decide ((x.natAbs*y.natAbs+65535)/65536<=2305843009213693952))
 else((-(((x.natAbs*y.natAbs+65535)/65536:Nat):Int),-((x.natAbs*y.natAbs/65536:Nat):Int)),decide ((x.natAbs*y.natAbs+65535)/65536<=2305843009213693952))
theorem aeP{x y:Int}(h:(scF x y).2=true):(scF x y).1.1*65536<=x*y/\x*y<=(scF x y).1.2*65536/\ -2305843009213693952<=(scF x y).1.1/\(scF x y).1.2<=2305843009213693952:=by
 have ep:(((x.natAbs*y.natAbs:Nat)):Int)=(x.natAbs:Int)*(y.natAbs:Int):=aor _ _
 have hs:(decide (x<0)==decide (y<0))=true->x*y=(((x.natAbs*y.natAbs:Nat)):Int):=λe=>by
  rw[ep];by_cases hx:x<0<;>by_cases hy:y<0
  ·rw[show(x.natAbs:Int)= -x by omega,show(y.natAbs:Int)= -y by omega];grind
  ·simp[hx,hy]at e
  ·simp[hx,hy]at e
  ·rw[show(x.natAbs:Int)=x by omega,show(y.natAbs:Int)=y by omega]
 have hd:(decide (x<0)==decide (y<0))=false->x*y= -(((x.natAbs*y.natAbs:Nat)):Int):=λe=>by
  rw[ep];by_cases hx:x<0<;>by_cases hy:y<0
  ·simp[hx,hy]at e
  ·rw[show(x.natAbs:Int)= -x by omega,show(y.natAbs:Int)=y by omega];grind
  ·rw[show(x.natAbs:Int)=x by omega,show(y.natAbs:Int)= -y by omega];grind
  ·simp[hx,hy]at e
 unfold scF at h ⊢;generalize x.natAbs*y.natAbs=p at*
 by_cases h1:p>=1208925819614629174706176
 ·rw[amW h1]at h;cases h
 rw[amY h1]at h ⊢;by_cases h2:p/65536>2305843009213693952
 ·rw[amW h2]at h;cases h
 rw[amY h2]at h ⊢;cases e:(decide (x<0)==decide (y<0))<;>rw[e]at h<;>have h3:=amZ h
 ·rw[hd e];show-(((p+65535)/65536:Nat):Int)*65536<=_/\_<= -((p/65536:Nat):Int)*65536/\_<= -(((p+65535)/65536:Nat):Int)/\ -((p/65536:Nat):Int)<=_;omega
 ·rw[hs e];show((p/65536:Nat):Int)*65536<=_/\_<=(((p+65535)/65536:Nat):Int)*65536/\_<=((p/65536:Nat):Int)/\(((p+65535)/65536:Nat):Int)<=_;omega
def jd(s:Iv×Bool)(x y:Int):Iv×Bool:=bif s.2&&(scF x y).2 then((if(scF x y).1.1<s.1.1 then(scF x y).1.1 else s.1.1,if(scF x y).1.2>s.1.2 then(scF x y).1.2 else s.1.2),true)else(iv0,false)
def cK(a b:Iv):Iv×Bool:=jd (jd (jd (jd ((2305843009213693952,-2305843009213693952),true) a.1 b.1) a.1 b.2) a.2 b.1) a.2 b.2
theorem mE{s:Iv×Bool}{x y:Int}(h:(jd s x y).2=true):s.2=true/\(jd s x y).1.1<=s.1.1/\s.1.2<=(jd s x y).1.2/\(jd s x y).1.1*65536<=x*y/\x*y<=(jd s x y).1.2*65536/\((-2305843009213693952<=s.1.1/\s.1.2<=2305843009213693952)-> -2305843009213693952<=(jd s x y).1.1/\(jd s x y).1.2<=2305843009213693952):=by
 unfold jd at h ⊢;cases e:(s.2&&(scF x y).2)<;>rw[e]at h
 ·cases h
 ·obtain⟨e1,e2⟩:=am6.1 e;obtain⟨g1,g2,g3,g4⟩:=aeP e2;refine⟨e1,?_⟩;simp only[cond_true];split<;>split<;>refine⟨by omega,by omega,by omega,by omega,λh=>by omega⟩
theorem uI(a b:Iv):prI (cK a b).1:=by
 cases h:(cK a b).2
 ·unfold cK jd at h ⊢;revert h;cases((_:Iv×Bool).2&&(scF a.2 b.2).2)
  ·intro _;exact gh
  ·intro h;cases h
 ·unfold cK at h ⊢;obtain⟨h3,a3,b3,c3,d3,e3⟩:=mE h;obtain⟨h2,a2,b2,c2,d2,e2⟩:=mE h3;obtain⟨h1,a1,b1,c1,d1,e1⟩:=mE h2;obtain⟨h0,a0,b0,c0,d0,e0⟩:=mE h1;have k:=e3 (e2 (e1 (e0 (by decide))));exact⟨k.1,by omega,k.2⟩
theorem V5{a b:Iv}(h:(cK a b).2=true):∀x y,(x=a.1\/x=a.2)->(y=b.1\/y=b.2)->(cK a b).1.1*65536<=x*y/\x*y<=(cK a b).1.2*65536:=by
 unfold cK at h ⊢;obtain⟨h3,a3,b3,c3,d3,e3⟩:=mE h;obtain⟨h2,a2,b2,c2,d2,e2⟩:=mE h3;obtain⟨h1,a1,b1,c1,d1,e1⟩:=mE h2;obtain⟨h0,a0,b0,c0,d0,e0⟩:=mE h1;intro x y hx hy;rcases hx with rfl|rfl<;>rcases hy with rfl|rfl<;>constructor<;>omega
def fe(n:Int):Int:=bK (n*65536)
def sqF(a:Iv):Iv×Bool:=bif decide (a.2<0)then(iv0,false)else pQ (fe (if 0>a.1 then 0 else a.1)) (bif decide (fe a.2*fe a.2=a.2*65536)then fe a.2 else fe a.2+1)
def sgF(a:Iv):Int×Bool:=bif decide (a.1>0)then(1,true)else bif decide (a.2<0)then(-1,true)else(0,decide (a.1=0)&&decide (a.2=0))
namespace RE
def inI(i:Iv)(x:RE):Prop:=of (i.1:Rat)<=of 65536*x/\of 65536*x<=of (i.2:Rat)
theorem TV(a b u x y:RE)(h1:a<=u*x)(h2:b<=u*y):a+b<=u*(x+y):=by grind
theorem TR(a b u x y:RE)(h1:u*x<=a)(h2:u*y<=b):u*(x+y)<=a+b:=by grind
theorem Wf(a u x:RE)(h1:u*x<=a): -a<=u*(-x):=by grind
theorem UV(a u x:RE)(h1:a<=u*x):u*(-x)<= -a:=by grind
theorem TG(a c U V m:RE):((m-(U*V)))+((a*c-(m)))+((V-(0))*(U-(a)))+((a-(0))*(V-(c)))=0:=by grind
theorem afs(a c U V m:RE)(h1:0<=V)(h2:0<=a)(h3:a<=U)(h4:c<=V)(h5:m<=a*c):m<=U*V:=λhg=>far (aJ (aJ (aJ (aM hg) (aG h5)) (aH (aG h1) (aG h3))) (aH (aG h2) (aG h4))) (TG a c U V m)
theorem Wj(a d U V m:RE):((m-(U*V)))+((a*d-(m)))+((V-(0))*(U-(a)))+((0-(a))*(d-(V)))=0:=by grind
theorem aio(a d U V m:RE)(h1:0<=V)(h2:a<=0)(h3:a<=U)(h4:V<=d)(h5:m<=a*d):m<=U*V:=λhg=>far (aJ (aJ (aJ (aM hg) (aG h5)) (aH (aG h1) (aG h3))) (aH (aG h2) (aG h4))) (Wj a d U V m)
theorem Wr(b c U V m:RE):((m-(U*V)))+((b*c-(m)))+((0-(V))*(b-(U)))+((b-(0))*(V-(c)))=0:=by grind
theorem agG(b c U V m:RE)(h1:V<=0)(h2:0<=b)(h3:U<=b)(h4:c<=V)(h5:m<=b*c):m<=U*V:=λhg=>far (aJ (aJ (aJ (aM hg) (aG h5)) (aH (aG h1) (aG h3))) (aH (aG h2) (aG h4))) (Wr b c U V m)
theorem UD(b d U V m:RE):((m-(U*V)))+((b*d-(m)))+((0-(V))*(b-(U)))+((0-(b))*(d-(V)))=0:=by grind
theorem ahe(b d U V m:RE)(h1:V<=0)(h2:b<=0)(h3:U<=b)(h4:V<=d)(h5:m<=b*d):m<=U*V:=λhg=>far (aJ (aJ (aJ (aM hg) (aG h5)) (aH (aG h1) (aG h3))) (aH (aG h2) (aG h4))) (UD b d U V m)
theorem T4(b d U V m:RE):((U*V-(m)))+((m-(b*d)))+((V-(0))*(b-(U)))+((b-(0))*(d-(V)))=0:=by grind
theorem agM(b d U V m:RE)(h1:0<=V)(h2:0<=b)(h3:U<=b)(h4:V<=d)(h5:b*d<=m):U*V<=m:=λhg=>far (aJ (aJ (aJ (aM hg) (aG h5)) (aH (aG h1) (aG h3))) (aH (aG h2) (aG h4))) (T4 b d U V m)
theorem Wm(b c U V m:RE):((U*V-(m)))+((m-(b*c)))+((V-(0))*(b-(U)))+((0-(b))*(V-(c)))=0:=by grind
theorem akb(b c U V m:RE)(h1:0<=V)(h2:b<=0)(h3:U<=b)(h4:c<=V)(h5:b*c<=m):U*V<=m:=λhg=>far (aJ (aJ (aJ (aM hg) (aG h5)) (aH (aG h1) (aG h3))) (aH (aG h2) (aG h4))) (Wm b c U V m)
theorem Wl(a d U V m:RE):((U*V-(m)))+((m-(a*d)))+((0-(V))*(U-(a)))+((a-(0))*(d-(V)))=0:=by grind
theorem agC(a d U V m:RE)(h1:V<=0)(h2:0<=a)(h3:a<=U)(h4:V<=d)(h5:a*d<=m):U*V<=m:=λhg=>far (aJ (aJ (aJ (aM hg) (aG h5)) (aH (aG h1) (aG h3))) (aH (aG h2) (aG h4))) (Wl a d U V m)
theorem W2(a c U V m:RE):((U*V-(m)))+((m-(a*c)))+((0-(V))*(U-(a)))+((0-(a))*(V-(c)))=0:=by grind
theorem ag0(a c U V m:RE)(h1:V<=0)(h2:a<=0)(h3:a<=U)(h4:c<=V)(h5:a*c<=m):U*V<=m:=λhg=>far (aJ (aJ (aJ (aM hg) (aG h5)) (aH (aG h1) (aG h3))) (aH (aG h2) (aG h4))) (W2 a c U V m)
theorem acN(u x y:RE):u*x*(u*y)=u*(x*y)*u:=by grind
theorem T6(a b u:RE):((u-(0))*(a-(b)))+((b*u-(a*u)))=0:=by grind
theorem aaR(a b u:RE)(h1:0<u)(h2:a*u<=b*u):a<=b:=λhg=>far (aJ (mul_pos (aM h1) (aM hg)) (aG h2)) (T6 a b u)
theorem pL:0<of 65536:=fX (by decide+kernel)
end RE
namespace RE
theorem ng{a b:Int}(h:a<=b):of (a:Rat)<=of (b:Rat):=fQ.2 (apm.2 h)
theorem iX{q:Rat}(h:(frF q).2=true):inI (frF q).1 (of q):=by
 have f1:((q*65536).floor:Rat)<=q*65536:=Rat.floor_le _;have f2:((-(q*65536)).floor:Rat)<= -(q*65536):=Rat.floor_le _;unfold frF at h ⊢;cases e1:decide (aI (q*65536).floor)
 ·rw[e1]at h;cases h
 ·cases e2:decide (aI (-(-(q*65536)).floor))
  ·rw[e1,e2]at h;cases h
  ·rw[e1,e2]at h;simp only[cond_true]at h ⊢;rw[CL h];refine⟨?_,?_⟩
   ·rw[<-of_mul];exact fQ.2 (by show(((q*65536).floor:Int):Rat)<=_;grind)
   ·rw[<-of_mul];exact fQ.2 (by show _<=((-(-(q*65536)).floor:Int):Rat);rw[apD];grind)
theorem frF_pr(q:Rat):prI (frF q).1:=by
 have f1:((q*65536).floor:Rat)<=q*65536:=Rat.floor_le _;have f2:((-(q*65536)).floor:Rat)<= -(q*65536):=Rat.floor_le _
 have f3:(q*65536).floor<= -(-(q*65536)).floor:=by
  refine apm.1 ?_;rw[apD];grind
 unfold frF;cases decide (aI (q*65536).floor)
 ·exact gh
 ·cases decide (aI (-(-(q*65536)).floor))
  ·exact gh
  ·exact Cj f3
theorem kG{a b:Iv}{x y:RE}(ha:inI a x)(hb:inI b y)(h:(dW a b).2=true):inI (dW a b).1 (x+y):=by
 unfold dW at h ⊢;rw[CL h];refine⟨?_,?_⟩
 ·show of ((a.1+b.1:Int):Rat)<=_;rw[Rat.intCast_add,of_add];exact TV _ _ _ _ _ ha.1 hb.1
 ·show _<=of ((a.2+b.2:Int):Rat);rw[Rat.intCast_add,of_add];exact TR _ _ _ _ _ ha.2 hb.2
theorem addF_pr{a b:Iv}(ha:prI a)(hb:prI b):prI (dW a b).1:=Cj (by have:=ha.2.1;have:=hb.2.1;omega)
theorem Cc{a:Iv}{x:RE}(ha:inI a x):inI (nh a) (-x):=by
 refine⟨?_,?_⟩
 ·show of ((-a.2:Int):Rat)<=_;rw[apD,of_neg];exact Wf _ _ _ ha.2
 ·show _<=of ((-a.1:Int):Rat);rw[apD,of_neg];exact UV _ _ _ ha.1
theorem negF_pr{a:Iv}(ha:prI a):prI (nh a):=⟨by show _<= -a.2;have:=ha.2.2;omega,by show-a.2<= -a.1;have:=ha.2.1;omega,by show-a.1<=_;have:=ha.1;omega⟩
theorem mM{a b:Iv}{x y:RE}(ha:inI a x)(hb:inI b y)(h:(cK a b).2=true):inI (cK a b).1 (x*y):=by
 have hc:=V5 h;have c1:=hc a.1 b.1 (.inl rfl) (.inl rfl);have c2:=hc a.1 b.2 (.inl rfl) (.inr rfl);have c3:=hc a.2 b.1 (.inr rfl) (.inl rfl);have c4:=hc a.2 b.2 (.inr rfl) (.inr rfl);generalize (cK a b).1=m at*
 have up:∀{p q r:Int},p*65536<=q*r->of (p:Rat)*of 65536<=of (q:Rat)*of (r:Rat):=λ{p q r} h=>by
  have:=ng h;rw[aoV,aoV,of_mul,of_mul]at this;exact this
 have dn:∀{p q r:Int},q*r<=p*65536->of (q:Rat)*of (r:Rat)<=of (p:Rat)*of 65536:=λ{p q r} h=>by
  have:=ng h;rw[aoV,aoV,of_mul,of_mul]at this;exact this
 obtain⟨a1,a2⟩:=ha;obtain⟨b1,b2⟩:=hb
 have l:of (m.1:Rat)*of 65536<=of 65536*x*(of 65536*y):=by
  rcases lt_or_ge (of 65536*y) 0 with v|v
  ·rcases lt_or_ge (of (a.2:Rat)) 0 with s|s
   ·exact ahe _ _ _ _ _ (le_of_lt v) (le_of_lt s) a2 b2 (up c4.1)
   ·exact agG _ _ _ _ _ (le_of_lt v) s a2 b1 (up c3.1)
  ·rcases lt_or_ge (of (a.1:Rat)) 0 with s|s
   ·exact aio _ _ _ _ _ v (le_of_lt s) a1 b2 (up c2.1)
   ·exact afs _ _ _ _ _ v s a1 b1 (up c1.1)
 have u:of 65536*x*(of 65536*y)<=of (m.2:Rat)*of 65536:=by
  rcases lt_or_ge (of 65536*y) 0 with v|v
  ·rcases lt_or_ge (of (a.1:Rat)) 0 with s|s
   ·exact ag0 _ _ _ _ _ (le_of_lt v) (le_of_lt s) a1 b1 (dn c1.2)
   ·exact agC _ _ _ _ _ (le_of_lt v) s a1 b2 (dn c2.2)
  ·rcases lt_or_ge (of (a.2:Rat)) 0 with s|s
   ·exact akb _ _ _ _ _ v (le_of_lt s) a2 b1 (dn c3.2)
   ·exact agM _ _ _ _ _ v s a2 b2 (dn c4.2)
 rw[acN]at l u;exact⟨aaR _ _ _ pL l,aaR _ _ _ pL u⟩
theorem afT(u s:RE):u*s*(u*s)=u*(s*s)*u:=by grind
theorem Nl(r a u x:RE):((r-(u*x*u)))+((a*u-(r)))+((u*x-(a))*(u-(0)))=0:=by grind
theorem adi(r a u x:RE)(h1:r<=a*u)(h2:a<=u*x)(h3:0<u):r<=u*x*u:=λhg=>far (aJ (aJ (aM hg) (aG h1)) (aH (aG h2) (le_of_lt (aM h3)))) (Nl r a u x)
theorem QL(r a u x:RE):((u*x*u-(r)))+((r-(a*u)))+((a-(u*x))*(u-(0)))=0:=by grind
theorem Q3(r a u x:RE)(h1:a*u<=r)(h2:u*x<=a)(h3:0<u):u*x*u<=r:=λhg=>far (aJ (aJ (aM hg) (aG h1)) (aH (aG h2) (le_of_lt (aM h3)))) (QL r a u x)
theorem sqF_pr{a:Iv}(ha:prI a):prI (sqF a).1:=by
 unfold sqF;by_cases h:a.2<0
 ·rw[amW h];exact gh
 ·rw[amY h];simp only[cond_false];refine Cj ?_;have h1:(if 0>a.1 then 0 else a.1)<=a.2:=by have:=ha.2.1;split<;>omega
  have h0:0<=(if 0>a.1 then 0 else a.1):=by split<;>omega
  have hm:fe (if 0>a.1 then 0 else a.1)<=fe a.2:=by
   unfold fe;obtain⟨_,g1,_⟩:=gN (z:=(if 0>a.1 then 0 else a.1)*65536) (by omega);obtain⟨g0,_,g2⟩:=gN (z:=a.2*65536) (by omega);have:=Go.Proofs.YtagbmoohboleaaaGreat.sq_lt (a:=bK ((if 0>a.1 then 0 else a.1)*65536)) (b:=bK (a.2*65536)+1) (by omega) (by omega);omega
  cases decide (fe a.2*fe a.2=a.2*65536)
  ·show _<=fe a.2+1;omega
  ·exact hm
theorem zB{a:Iv}{x:RE}(ha:inI a x)(hx:0<=x)(h:(sqF a).2=true):inI (sqF a).1 (kH x):=by
 obtain⟨a1,a2⟩:=ha;have hs:=gI hx;have s0:0<=of 65536*kH x:=aH (le_of_lt pL) (dK x);have e:of 65536*kH x*(of 65536*kH x)=of 65536*x*of 65536:=by rw[afT,hs]
 unfold sqF at h ⊢;cases hn:decide (a.2<0)
 ·rw[hn]at h;simp only[cond_false]at h ⊢;have h2:=anP hn;rw[CL h];obtain⟨p0,p1,p2⟩:=gN (z:=(if 0>a.1 then 0 else a.1)*65536) (by split<;>omega);obtain⟨q0,q1,q2⟩:=gN (z:=a.2*65536) (by omega)
  have cm:∀{p q:Int},p*p<=q*65536->of (p:Rat)*of (p:Rat)<=of (q:Rat)*of 65536:=λ{p q} h=>by
   have:=ng h;rw[aoV,aoV,of_mul,of_mul]at this;exact this
  have cn:∀{p q:Int},q*65536<=p*p->of (q:Rat)*of 65536<=of (p:Rat)*of (p:Rat):=λ{p q} h=>by
   have:=ng h;rw[aoV,aoV,of_mul,of_mul]at this;exact this
  have nn:∀{p:Int},0<=p->0<=of (p:Rat):=λh=>ng h;refine⟨?_,?_⟩
  ·show of ((fe _:Int):Rat)<=_;refine sd _ _ (nn p0) s0 ?_;rw[e];refine adi _ (of (((if 0>a.1 then 0 else a.1:Int)):Rat)) _ _ (cm p1) ?_ pL;split
   ·exact aH (le_of_lt pL) hx
   ·exact a1
  ·show _<=of (((bif _ then _ else _):Int):Rat);cases he:decide (fe a.2*fe a.2=a.2*65536)
   ·simp only[cond_false];refine sd _ _ s0 (nn (by unfold fe;omega)) ?_;rw[e];exact Q3 _ _ _ _ (cn (by unfold fe;omega)) a2 pL
   ·simp only[cond_true];refine sd _ _ s0 (nn q0) ?_;rw[e];exact Q3 _ _ _ _ (cn (by rw[amZ he];exact Int.le_refl _)) a2 pL
 ·rw[hn]at h;cases h
theorem HU{i:Iv}{x:RE}(hi:inI i x)(h:(sgF i).2=true):(sgF i).1=sg x:=by
 obtain⟨h1,h2⟩:=hi;unfold sgF at h ⊢;cases e1:decide (i.1>0)
 ·rw[e1]at h;cases e2:decide (i.2<0)
  ·rw[e2]at h;simp only[cond_false,am0,ao9]at h ⊢;rw[h.1]at h1;rw[h.2]at h2;have:of 65536*x=0:=le_antisymm h2 h1;have:sg (of 65536*x)=0:=by rw[this,dm]
   rw[dp,dA pL]at this;omega
  ·have e:=amZ e2;have h3:of (i.2:Rat)<0:=fX (apn.2 e);simp only[cond_false,cond_true]
   have:sg (of 65536*x)= -1:=ii (by
    rcases lt_or_ge (of 65536*x) 0 with h|h
    ·exact h
    ·exact absurd (le_trans h h2) (tv.2 h3))
   rw[dp,dA pL]at this;omega
 ·have e:=amZ e1;have h3:0<of (i.1:Rat):=fX (apn.2 e);simp only[cond_true]
  have:sg (of 65536*x)=1:=dA (by
   rcases lt_or_ge 0 (of 65536*x)with h|h
   ·exact h
   ·exact absurd (le_trans h1 h) (tv.2 h3))
  rw[dp,dA pL]at this;omega
end RE
abbrev Qd:=Rat×Rat×Rat×Rat×Rat×Rat
def sgQ(q:Qd):Int:=BM q.1 q.2.1 q.2.2.1 q.2.2.2.1 q.2.2.2.2.1 q.2.2.2.2.2
def suT(x y:Rt):Qd:=(x.1-y.1,x.2.1,-y.2.1,0,x.2.2,y.2.2)
def fY(x:Rt)(q:Rat):Int:=il (x.1-q) x.2.1 x.2.2
def okQ(q:BQ):Prop:=ok Rat 30001 q.1/\ok Rat 15000 q.2.1/\ok Rat 15000 q.2.2.1/\ok Rat 6000 q.2.2.2.1/\ok Rat 15000 q.2.2.2.2.1/\ok Rat 15000 q.2.2.2.2.2/\0<=ah q.2.2.2.2.1/\0<=ah q.2.2.2.2.2
instance (q:BQ):Decidable (okQ q):=by unfold okQ;infer_instance
theorem GY{q:BQ}(h:okQ q):∃A B C D M N:Rat,q=enc ((A,B,C,D,M,N):Qd)/\Bd A 30001/\Bd B 15000/\Bd C 15000/\Bd D 6000/\Bd M 15000/\Bd N 15000/\0<=M/\0<=N:=by
 obtain⟨A,B,C,D,M,N⟩:=q;obtain⟨h1,h2,h3,h4,h5,h6,h7,h8⟩:=h;obtain⟨a,ha,b1⟩:=aD h1;obtain⟨b,hb,b2⟩:=aD h2;obtain⟨c,hc,b3⟩:=aD h3;obtain⟨d,hd,b4⟩:=aD h4;obtain⟨m,hm,b5⟩:=aD h5;obtain⟨n,hn,b6⟩:=aD h6;dsimp only at ha hb hc hd hm hn h7 h8;subst ha hb hc hd hm hn;rw[fd,ct]at h7 h8;exact⟨a,b,c,d,m,n,rfl,b1,b2,b3,b4,b5,b6,h7,h8⟩
theorem AA{A B C D M N:Rat}{a b c d m n:Nat}[h1:Bd A a][h2:Bd B b][h3:Bd C c][h4:Bd D d][h5:Bd M m][h6:Bd N n][h7:Nn M][h8:Nn N](ha:a<=30001)(hb:b<=15000)(hc:c<=15000)(hd:d<=6000)(hm:m<=15000)(hn:n<=15000):decide (okQ (enc ((A,B,C,D,M,N):Qd)))=true:=
 amW ⟨amZ (mK ha (by decide)),amZ (mK hb (by decide)),amZ (mK hc (by decide)),amZ (mK hd (by decide)),amZ (mK hm (by decide)),amZ (mK hn (by decide)),by show 0<=ah (ao M);rw[ct];exact h7.le,by show 0<=ah (ao N);rw[ct];exact h8.le⟩
theorem Ca{s t:Int}(hs: -1<=s/\s<=1)(ht: -1<=t/\t<=1):i64.wrap (s*t)=s*t:=by
 have:=B4 hs ht;exact aV (by omega) (by omega)
theorem uJ{a b m x y:Rat}:i64.wrap (il a b m*aE x y)=il a b m*aE x y:=Ca (mA _ _ _) (kI _ _)
theorem uN{a b m x y z:Rat}:i64.wrap (il a b m*il x y z)=il a b m*il x y z:=Ca (mA _ _ _) (mA _ _ _)
theorem Fz(s t u:Int):(match s==0 with|true=>(match s==0 with|true=>some [RV.d aqh t]|false=>some [RV.d aqh s])|false=>(match t==0 with|true=>(match s==0 with|true=>some [RV.d aqh t]|false=>some [RV.d aqh s])|false=>(match s==t with|true=>(match s==0 with|true=>some [RV.d aqh t]|false=>some [RV.d aqh s])|false=>some [RV.d aqh (s*u)])))=some [RV.d aqh (RE.addS s t u)]:=by
 unfold RE.addS;cases h1:s==0
 ·cases h2:t==0
  ·cases h3:s==t<;>rfl
  ·rfl
 ·have e:=anV.1 h1;subst e;cases h2:t==0
  ·cases h3:(0:Int)==t
   ·rfl
   ·rw[<-anV.1 h3];rfl
  ·rw[anV.1 h2];rfl
theorem Cw(s t u:Int):(match t==0 with|true=>some [RV.d aqh s]|false=>(match s==t with|true=>some [RV.d aqh s]|false=>(match s==0 with|true=>some [RV.d aqh t]|false=>some [RV.d aqh (s*u)])))=some [RV.d aqh (RE.addS s t u)]:=by
 unfold RE.addS;cases h2:t==0
 ·cases h3:s==t
  ·cases h1:s==0<;>rfl
  ·rfl
 ·rfl
def Hy:List En:=[enL n9,enL oN,enL sL,enL qH,enT pJ,enT wq,enL tC]
def Rf(a b c:BR)(_k:KT):OLR:=og (o1 a) (og (o1 b) (og (o1 c) (match(aE (ah a) 0)==0 with|true=>(match(aE (ah a) 0)==0 with|true=>some [RV.d aqh (i64.wrap ((aE (ah b) 0)*(aE (ah c) 0)))]|false=>some [RV.d aqh (aE (ah a) 0)])|false=>(match(i64.wrap ((aE (ah b) 0)*(aE (ah c) 0)))==0 with|true=>(match(aE (ah a) 0)==0 with|true=>some [RV.d aqh (i64.wrap ((aE (ah b) 0)*(aE (ah c) 0)))]|false=>some [RV.d aqh (aE (ah a) 0)])|false=>(match(aE (ah a) 0)==(i64.wrap ((aE (ah b) 0)*(aE (ah c) 0)))with|true=>(match(aE (ah a) 0)==0 with|true=>some [RV.d aqh (i64.wrap ((aE (ah b) 0)*(aE (ah c) 0)))]|false=>some [RV.d aqh (aE (ah a) 0)])|false=>(og (o2 a a) (og (o2 b b) (og (o2 (hMu b b) c) (og (o2 (hMu a a) (hMu (hMu b b) c)) (some [RV.d aqh (i64.wrap ((aE (ah a) 0)*(aE (ah (hMu a a)) (ah (hMu (hMu b b) c)))))]))))))))))
def acW:Cn 139 [tR,tR,tR]:=cn λ(a b c:BR)=>lf (ok Rat 240000 a/\ok Rat 170000 b/\ok Rat 30000 c) [.d aqh (il (ah a) (ah b) (ah c))] λh=>by
 refine aB Hy (Rf a b c) ⟨0,?_⟩;obtain⟨ha,hb,hc⟩:=h;obtain⟨a,rfl,ba⟩:=aD ha;obtain⟨b,rfl,bb⟩:=aD hb;obtain⟨c,rfl,bc⟩:=aD hc;unfold Rf;simp only[aU,Nat.reduceAdd,Nat.reduceLeDiff,qT];exact Fz _ _ _
def SZ(a b:BO3)(_k:KT):OLR:=og (o2 a.1 b.1) (og (o1 b.2.1) (og (decide (aI (0:Int))) (some [RV.d tQ (hSu a.1 b.1,(a.2.1,(hNe b.2.1,(hid (ao ((0:Int):Rat)),(a.2.2,b.2.2)))))])))
def ac5:Cn 184 [tO,tO]:=cn λ(a b:BO3)=>lf (ok Rt 15000 a/\ok Rt 15000 b) [.d tQ (enc (suT (dec a) (dec b)))] λh=>by
 refine aB Hy (SZ a b) ⟨0,?_⟩;obtain⟨ha,hb⟩:=h;obtain⟨a,rfl,ba⟩:=aD ha;obtain⟨b,rfl,bb⟩:=aD hb;unfold SZ;simp only[aU,Nat.reduceLeDiff];try rfl
def RQ:List En:=enT acW::enL ac5::Hy
def QQ(q:BQ)(_k:KT):OLR:=let y1:=ah q.2.2.2.2.1;let y2:=aE (ah q.2.2.2.2.2) 0;let y3:=il (ah q.1) (ah q.2.1) y1;let y4:=i64.wrap ((il (ah q.2.2.1) (ah q.2.2.2.1) y1)*y2);let y5:OLR:=match y3==0 with|true=>some [RV.d aqh y4]|false=>some [RV.d aqh y3];let y6:=hMu q.2.2.2.1 q.2.2.2.1;let y7:=hMu q.2.2.1 q.2.2.1;let y8:=hMu y6 q.2.2.2.2.1;let y9:=hMu (hMu q.2.1 q.2.1) q.2.2.2.2.1;let y10:=hAd (hMu q.1 q.1) y9;let y11:=hMu q.2.2.2.2.2 (hAd y7 y8);let y12:=hMu q.2.2.1 q.2.2.2.1;let y13:=hMu q.2.2.2.2.2 y12;let y14:=hSu (hMu q.1 q.2.1) y13;og (o1 q.2.2.2.2.1) (match decide ((aE y1 0)<0)with|true=>some [RV.d aqh 0]|false=>(og (o1 q.2.2.2.2.2) (match decide (y2<0)with|true=>some [RV.d aqh 0]|false=>(og (decide (ok Rat 240000 q.1/\ok Rat 170000 q.2.1/\ok Rat 30000 q.2.2.2.2.1)) (og (decide (ok Rat 240000 q.2.2.1/\ok Rat 170000 q.2.2.2.1/\ok Rat 30000 q.2.2.2.2.1)) (og (o1 q.2.2.2.2.2) (match y3==0 with|true=>y5|false=>(match y4==0 with|true=>y5|false=>(match y3==y4 with|true=>y5|false=>(og (o2 q.2.2.1 q.2.2.1) (og (o2 q.2.2.2.1 q.2.2.2.1) (og (o2 y6 q.2.2.2.2.1) (og (o2 y7 y8) (og (o2 q.2.2.2.2.2 (hAd y7 y8)) (og (o2 q.1 q.1) (og (o2 q.2.1 q.2.1) (og (o2 (hMu q.2.1 q.2.1) q.2.2.2.2.1) (og (o2 (hMu q.1 q.1) y9) (og (o2 y10 y11) (og (o2 q.1 q.2.1) (og (o2 q.2.2.1 q.2.2.2.1) (og (o2 q.2.2.2.2.2 y12) (og (o2 (hMu q.1 q.2.1) y13) (og (o2 y14 y14) (og (decide (ok Rat 240000 (hSu y10 y11)/\ok Rat 170000 (hAd y14 y14)/\ok Rat 30000 q.2.2.2.2.1)) (some [RV.d aqh (i64.wrap (y3*(il (ah (hSu y10 y11)) (ah (hAd y14 y14)) y1)))]))))))))))))))))))))))))))
def adr:Cn 183 [tQ]:=cn λ(q:BQ)=>lf (okQ q) [.d aqh (sgQ (dec q))] λh=>by
 refine aB RQ (QQ q) ⟨0,?_⟩;obtain⟨A,B,C,D,M,N,rfl,bA,bB,bC,bD,bM,bN,hM,hN⟩:=GY h;rw[aA];unfold QQ;simp only[aU,aC,Nat.reduceAdd,Nat.reduceLeDiff,uJ,uN,au,amY (show ¬M<0 by grind),amY (show ¬N<0 by grind)];refine(Fz _ _ _).trans ?_;unfold sgQ BM;rw[amY (show ¬M<0 by grind),amY (show ¬N<0 by grind)];dsimp only[Bool.or_false,cond_false];rw[show A*B-N*(C*D)+(A*B-N*(C*D))=2*(A*B-N*(C*D)) by grind];rfl
def ML:List En:=enT adr::RQ
def QW(a b:BO3)(_k:KT):OLR:=og (decide (ok Rt 15000 a/\ok Rt 15000 b)) (og (decide (okQ (hid (enc (suT (dec a) (dec b)))))) (some [RV.d aqh (sgQ (dec (hid (enc (suT (dec a) (dec b))))))]))
def FL:Cn 87 [tO,tO]:=cn λ(a b:BO3)=>lf (okT 15000 a/\okT 15000 b) [.d aqh (bh (dec a) (dec b))] λh=>by
 refine aB ML (QW a b) ⟨0,?_⟩;obtain⟨ha,hb⟩:=h;obtain⟨a,rfl,ba,ra⟩:=fU ha;obtain⟨b,rfl,bb,rb⟩:=fU hb;have na:Nn a.2.2:=inferInstance;have nb:Nn b.2.2:=inferInstance;have e:decide (okQ (enc (suT a b)))=true:=AA (by decide) (by decide) (by decide) (by decide) (by decide) (by decide);unfold QW;simp only[aU,Nat.reduceLeDiff,e];rfl
def Sg(a:BO3)(b:BR)(_k:KT):OLR:=og (o2 a.1 b) (og (decide (ok Rat 240000 (hSu a.1 b)/\ok Rat 170000 a.2.1/\ok Rat 30000 a.2.2)) (some [RV.d aqh (il (ah (hSu a.1 b)) (ah a.2.1) (ah a.2.2))]))
def HH:Cn 58 [tO,tR]:=cn λ(a:BO3) (b:BR)=>lf (okT 15000 a/\ok Rat 15000 b) [.d aqh (fY (dec a) (ah b))] λh=>by
 refine aB ML (Sg a b) ⟨0,?_⟩;obtain⟨ha,hb⟩:=h;obtain⟨a,rfl,ba,ra⟩:=fU ha;obtain⟨b,rfl,bb⟩:=aD hb;unfold Sg;simp only[aU,Nat.reduceAdd,Nat.reduceLeDiff];try rfl
def lU:eM:=spN false true [tR] (λx=>decide (okR x.1)) (λx=>[RV.d tR (hNe x.1)])
theorem ib:SpK 133 lU:=spX λx h=>by simp only[bL];exact JR x.1 (amZ h)
def SU:List En:=[⟨125,jh,fE⟩,⟨132,jw,fO⟩,⟨65,je,fH⟩,⟨67,iA,fi⟩,⟨54,gi,eg⟩,⟨66,mX,ji⟩,⟨133,lU,ib⟩]
def abh(a b c:BR)(_k:KT):OLR:=og (o1 a) (og (o1 b) (og (o1 c) (match(i64.wrap ((aE (ah b) 0)*(aE (ah c) 0)))==0 with|true=>some [RV.d aqh (aE (ah a) 0)]|false=>(match(aE (ah a) 0)==(i64.wrap ((aE (ah b) 0)*(aE (ah c) 0)))with|true=>some [RV.d aqh (aE (ah a) 0)]|false=>(match(aE (ah a) 0)==0 with|true=>some [RV.d aqh (i64.wrap ((aE (ah b) 0)*(aE (ah c) 0)))]|false=>(og (o2 a a) (og (o2 b b) (og (o2 (hMu b b) c) (og (o2 (hMu a a) (hMu (hMu b b) c)) (some [RV.d aqh (i64.wrap ((aE (ah a) 0)*(aE (ah (hMu a a)) (ah (hMu (hMu b b) c)))))]))))))))))
def DB:Cn 276 [tR,tR,tR]:=cn λ(a b c:BR)=>lf (ok Rat 240000 a/\ok Rat 170000 b/\ok Rat 30000 c) [.d aqh (il (ah a) (ah b) (ah c))] λh=>by
 refine aB SU (abh a b c) ⟨0,?_⟩;obtain⟨ha,hb,hc⟩:=h;obtain⟨a,rfl,ba⟩:=aD ha;obtain⟨b,rfl,bb⟩:=aD hb;obtain⟨c,rfl,bc⟩:=aD hc;unfold abh;simp only[aU,Nat.reduceAdd,Nat.reduceLeDiff,qT];exact Cw _ _ _
def aaS(a:BR)(_k:KT):OLR:=og (o1 a) (og (o1 (hNe a)) (some [RV.d tR (hNe (hNe a))]))
def Zx:Cn 316 [tR]:=cn λ(a:BR)=>lf (okR a) [.d tR (ao (ah a))] λh=>by
 refine aB SU (aaS a) ⟨0,?_⟩;have ha:=h;obtain⟨a,rfl,ba⟩:=fD ha;unfold aaS;simp only[aU,Nat.reduceLeDiff,apE]
def agW:List En:=enT DB::enL Zx::SU
def YN(a b:BO3)(_k:KT):OLR:=og (o2 a.1 b.1) (og (o1 a.2.1) (og (o1 b.2.1) (og (decide (aI (0:Int))) (og (o1 a.2.2) (og (o1 b.2.2) (some [RV.d tQ (hSu a.1 b.1,(hid (ao (ah a.2.1)),(hNe b.2.1,(hid (ao ((0:Int):Rat)),(hid (ao (ah a.2.2)),hid (ao (ah b.2.2)))))))]))))))
def Sa:Cn 277 [tO,tO]:=cn λ(a b:BO3)=>lf (ok Rt 15000 a/\ok Rt 15000 b) [.d tQ (enc (suT (dec a) (dec b)))] λh=>by
 refine aB agW (YN a b) ⟨0,?_⟩;obtain⟨ha,hb⟩:=h;obtain⟨a,rfl,ba⟩:=aD ha;obtain⟨b,rfl,bb⟩:=aD hb;unfold YN;simp only[aU,Nat.reduceLeDiff];try rfl
theorem kU{n:Int}(h:aI n):szI n<=3:=by
 have:pw 3=1000000000000000000000000000:=by decide
 exact fL (by have:=h.1;omega) (by have:=h.2;omega)
theorem MX{q:Rat}{k:Nat}(h:Bd q k)(hk:k<=480000):okI (ai q.floor)/\okI (ai (-q.floor)):=by
 have e:szI q.floor<=k:=by
  refine am9 (dM ?_) h.le.1;rw[Rat.floor_def];exact Int.natAbs_ediv_le_natAbs _ _
 exact⟨aX (by omega),aX (by rw[jI];omega)⟩
theorem ak9:Bd (65536:Rat) 1:=⟨⟨by decide+kernel,by decide+kernel⟩⟩
theorem adg:((65536:Int):Rat)=65536:=rfl
theorem p48:(2:Int)^(min (48:Int).toNat 64)=281474976710656:=by decide
theorem p32:(2:Int)^(min (32:Int).toNat 64)=4294967296:=by decide
theorem p16:(2:Int)^(min (16:Int).toNat 64)=65536:=by decide
theorem fdv{a b:Int}(h:0<=b):Int.fdiv a b=a/b:=Int.fdiv_eq_ediv_of_nonneg a h
theorem Y2(n k:Nat)(hn:n<18446744073709551616)(hk:2^k-1<18446744073709551616):BitVec.toNat (BitVec.ofInt 64 (n:Int)&&&BitVec.ofInt 64 ((2^k-1:Nat):Int))=n%2^k:=by
 rw[BitVec.toNat_and,BitVec.toNat_ofInt,BitVec.toNat_ofInt];have e1:((n:Int)%((2^64:Nat):Int)).toNat=n:=by omega
 have e2:(((2^k-1:Nat):Int)%((2^64:Nat):Int)).toNat=2^k-1:=by omega
 rw[e1,e2,Nat.and_two_pow_sub_one_eq_mod]
theorem ajq(n:Nat)(hn:n<18446744073709551616):u64.wrap (BitVec.toNat (BitVec.ofInt 64 (n:Int)&&&BitVec.ofInt 64 65535))=((n%65536:Nat):Int):=by
 rw[show(65535:Int)=((2^16-1:Nat):Int) from rfl,Y2 n 16 hn (by decide),anO];omega
theorem O8(n:Nat)(hn:n<18446744073709551616):u64.wrap (BitVec.toNat (BitVec.ofInt 64 (n:Int)&&&BitVec.ofInt 64 4294967295))=((n%4294967296:Nat):Int):=by
 rw[show(4294967295:Int)=((2^32-1:Nat):Int) from rfl,Y2 n 32 hn (by decide),anO];omega
theorem amz{h l:Nat}(hh:h<65536)(hl:l<281474976710656):u64.wrap (BitVec.toNat (BitVec.ofInt 64 (u64.wrap ((h:Int)*281474976710656)) ||| BitVec.ofInt 64 (l:Int)))=((h*281474976710656+l:Nat):Int):=by
 rw[BitVec.toNat_or,BitVec.toNat_ofInt,BitVec.toNat_ofInt,anO,anO]
 have e1:((h:Int)*281474976710656%18446744073709551616%((2^64:Nat):Int)).toNat=h <<< 48:=by
  rw[Nat.shiftLeft_eq];omega
 have e2:((l:Int)%((2^64:Nat):Int)).toNat=l:=by omega
 rw[e1,e2,<-Nat.shiftLeft_add_eq_or_of_lt (by omega),Nat.shiftLeft_eq];omega
def scP(x y:Int):Prop:=x.natAbs<=2305843009213693952/\y.natAbs<=2305843009213693952
instance (x y:Int):Decidable (scP x y):=by unfold scP;infer_instance
def DK(n:Int):Prop:=0<=n/\n<=2305843009213693952
instance (n:Int):Decidable (DK n):=by unfold DK;infer_instance
def akf:Ctx:=CX [] []
def Xt(x y:Int)(_k:KT):OLR:=match decide (x<(-2305843009213693952))with|true=>some [RV.d tG (0,0),RV.d .bool false]|false=>(match decide (y>2305843009213693952)with|true=>some [RV.d tG (0,0),RV.d .bool false]|false=>some [RV.d tG (x,y),RV.d .bool true])
theorem ahX(x y:Int):RS akf 328 [SI x,SI y] (Xt x y):=rsX
def M6:Cn 328 [aqh,aqh]:=cn λ(x y:Int)=>lf True [.d tG ((pQ x y).1),.d .bool ((pQ x y).2)] λ_=>by
 refine gg (E:=[]) trivial (ahX _ _ ⟨0,?_⟩);unfold Xt pQ;cases decide (x< -2305843009213693952)
 ·cases decide (y>2305843009213693952)<;>rfl
 ·rfl
def G5:eM:=spN false true [tI] (λx=>decide (okI x.1)) (λx=>[RV.d tI (hid (ai (-ae x.1)))])
theorem EL:SpK 228 G5:=spX λx h=>by simp only[bL];exact Kl x.1 (amZ h)
def Ag:List En:=[⟨125,jh,fE⟩,⟨67,iA,fi⟩,⟨133,lU,ib⟩,enL MS,enT Zc,⟨228,G5,EL⟩,enL M6]
def aar(a:BR)(_k:KT):OLR:=let y1:=hid (ao ((65536:Int):Rat));let y2:=hid (ai (ah (hMu a y1)).floor);let y3:=hid (ai (ah (hNe (hMu a y1))).floor);let y4:=hid (ai (-ae y3));let y5:=pQ (bif decide (aI (ae y2))then ae y2 else 0) (bif decide (aI (ae y4))then ae y4 else 0);og (decide (aI (65536:Int))) (og (o2 a y1) (og (o1 (hMu a y1)) (og (decide (okI y2)) (og (o1 (hMu a y1)) (og (o1 (hNe (hMu a y1))) (og (decide (okI y3)) (og (decide (okI y4)) (match !(decide (aI (ae y2)))with|true=>some [RV.d tG (0,0),RV.d .bool false]|false=>(match !(decide (aI (ae y4)))with|true=>some [RV.d tG (0,0),RV.d .bool false]|false=>some [RV.d tG (hid (y5.1)),RV.d .bool (y5.2)])))))))))
def S5:Cn 307 [tR]:=cn λ(a:BR)=>lf (ok Rat 200000 a) [.d tG ((frF (ah a)).1),.d .bool ((frF (ah a)).2)] λh=>by
 refine aB Ag (aar a) ⟨0,?_⟩;have ha:=h;obtain⟨a,rfl,ba⟩:=aD ha;have hk:=ak9;have h6:aI 65536:=by decide
 have f1:=MX (inferInstance:Bd (a*65536) _) (by decide);have f2:=MX (inferInstance:Bd (-(a*65536)) _) (by decide);unfold aar;simp only[adg,aU,Nat.reduceAdd,Nat.reduceLeDiff,dec_enc,dT h6,dT f1.1,dT f2.1,dT f2.2];unfold frF;cases e1:decide (aI (a*65536).floor)
 ·rfl
 ·cases e2:decide (aI (-(-(a*65536)).floor))
  ·rfl
  ·rfl
def Yv(a b:(Int×Int))(_k:KT):OLR:=some [RV.d tG (hid ((pQ (i64.wrap (a.1+b.1)) (i64.wrap (a.2+b.2))).1)),RV.d .bool ((pQ (i64.wrap (a.1+b.1)) (i64.wrap (a.2+b.2))).2)]
def Pd:Cn 309 [tG,tG]:=cn λ(a b:(Int×Int))=>lf (prI a/\prI b) [.d tG ((dW a b).1),.d .bool ((dW a b).2)] λh=>by
 refine aB Ag (Yv a b) ⟨0,?_⟩;obtain⟨⟨a1,a2,a3⟩,⟨b1,b2,b3⟩⟩:=h;unfold Yv dW;rw[aV (by omega) (by omega),aV (by omega) (by omega)];simp only[bL]
def YI(a:(Int×Int))(_k:KT):OLR:=some [RV.d tG (i64.wrap (0-a.2),i64.wrap (0-a.1))]
def Qq:Cn 310 [tG]:=cn λ(a:(Int×Int))=>lf (prI a) [.d tG (nh a)] λh=>by
 refine aB Ag (YI a) ⟨0,?_⟩;obtain⟨a1,a2,a3⟩:=h;unfold YI nh;rw[aV (by omega) (by omega),aV (by omega) (by omega),aoQ,aoQ]
def X8(n:Int)(_k:KT):OLR:=match decide (n<0)with|true=>some [RV.d (.int .u64) (u64.wrap (0-(u64.wrap n)))]|false=>some [RV.d (.int .u64) (u64.wrap n)]
def NV:Cn 334 [aqh]:=cn λ(n:Int)=>lf (aI n) [.d (.int .u64) (n.natAbs:Int)] λh=>by
 refine aB Ag (X8 n) ⟨0,?_⟩;obtain⟨h1,h2⟩:=h;unfold X8;rw[anO,anO];by_cases hn:n<0
 ·rw[amW hn,show(0-n%18446744073709551616)%18446744073709551616=(n.natAbs:Int) by omega]
 ·rw[amY hn,show n%18446744073709551616=(n.natAbs:Int) by omega]
def Xy(x y:Int)(_k:KT):OLR:=match decide (32<(0:Int))with|true=>none|false=>(match decide (32<(0:Int))with|true=>none|false=>(match decide (32<(0:Int))with|true=>none|false=>(match decide (32<(0:Int))with|true=>none|false=>(match decide (32<(0:Int))with|true=>none|false=>some [RV.d (.int .u64) (u64.wrap ((u64.wrap ((u64.wrap ((Int.fdiv x (2^(min (32:Int).toNat 64)))*(Int.fdiv y (2^(min (32:Int).toNat 64)))))+(Int.fdiv (u64.wrap ((u64.wrap ((Int.fdiv x (2^(min (32:Int).toNat 64)))*(u64.wrap (BitVec.toNat (BitVec.ofInt 64 y&&&BitVec.ofInt 64 4294967295)))))+(Int.fdiv (u64.wrap ((u64.wrap (BitVec.toNat (BitVec.ofInt 64 x&&&BitVec.ofInt 64 4294967295)))*(u64.wrap (BitVec.toNat (BitVec.ofInt 64 y&&&BitVec.ofInt 64 4294967295))))) (2^(min (32:Int).toNat 64))))) (2^(min (32:Int).toNat 64)))))+(Int.fdiv (u64.wrap ((u64.wrap (BitVec.toNat (BitVec.ofInt 64 (u64.wrap ((u64.wrap ((Int.fdiv x (2^(min (32:Int).toNat 64)))*(u64.wrap (BitVec.toNat (BitVec.ofInt 64 y&&&BitVec.ofInt 64 4294967295)))))+(Int.fdiv (u64.wrap ((u64.wrap (BitVec.toNat (BitVec.ofInt 64 x&&&BitVec.ofInt 64 4294967295)))*(u64.wrap (BitVec.toNat (BitVec.ofInt 64 y&&&BitVec.ofInt 64 4294967295))))) (2^(min (32:Int).toNat 64)))))&&&BitVec.ofInt 64 4294967295)))+(u64.wrap ((u64.wrap (BitVec.toNat (BitVec.ofInt 64 x&&&BitVec.ofInt 64 4294967295)))*(Int.fdiv y (2^(min (32:Int).toNat 64))))))) (2^(min (32:Int).toNat 64))))),RV.d (.int .u64) (u64.wrap (x*y))]))))
def SW:Cn 333 [(.int .u64),(.int .u64)]:=cn λ(x y:Int)=>lf (jm x/\jm y) [.d (.int .u64) (x*y/18446744073709551616),.d (.int .u64) (x*y%18446744073709551616)] λh=>by
 refine aB Ag (Xy x y) ⟨0,?_⟩;obtain⟨h1,h2⟩:=h;obtain⟨X,rfl⟩:=an6 h1.1;obtain⟨Y,rfl⟩:=an6 h2.1;have hX:X<18446744073709551616:=by have:=h1.2;omega
 have hY:Y<18446744073709551616:=by have:=h2.2;omega
 have wn:∀n:Nat,n<18446744073709551616->u64.wrap (n:Int)=(n:Int):=λn hn=>by rw[anO];omega
 have eX:(X:Int)/4294967296=((X/4294967296:Nat):Int):=by omega
 have eY:(Y:Int)/4294967296=((Y/4294967296:Nat):Int):=by omega
 unfold Xy;simp only[p32,fdv (show(0:Int)<=4294967296 by decide),O8 X hX,O8 Y hY,eX,eY]
 have hXY:X*Y=X/4294967296*(Y/4294967296)*18446744073709551616+(X/4294967296*(Y%4294967296)+X%4294967296*(Y/4294967296))*4294967296+X%4294967296*(Y%4294967296):=by
  have a:=Nat.div_add_mod X 4294967296;have b:=Nat.div_add_mod Y 4294967296;generalize X/4294967296=x1 at*
  generalize X%4294967296=x0 at*
  generalize Y/4294967296=y1 at*
  generalize Y%4294967296=y0 at*
  subst a b;grind
 have x0:X%4294967296<=4294967295:=by omega
 have y0:Y%4294967296<=4294967295:=by omega
 have x1:X/4294967296<=4294967295:=by omega
 have y1:Y/4294967296<=4294967295:=by omega
 have q00:=ao2 x0 y0;have q10:=ao2 x1 y0;have q01:=ao2 x0 y1;have q11:=ao2 x1 y1;simp only[<-aor];rw[hXY];generalize X%4294967296*(Y%4294967296)=p00 at*
 generalize X/4294967296*(Y%4294967296)=p10 at*
 generalize X%4294967296*(Y/4294967296)=p01 at*
 generalize X/4294967296*(Y/4294967296)=p11 at*
 have t0:u64.wrap (u64.wrap (p10:Int)+u64.wrap (p00:Int)/4294967296)=((p10+p00/4294967296:Nat):Int):=by
  rw[wn p10 (by omega),wn p00 (by omega),show(p10:Int)+(p00:Int)/4294967296=((p10+p00/4294967296:Nat):Int) by omega,wn _ (by omega)]
 rw[t0,O8 _ (by omega)]
 have t1:u64.wrap (((p10+p00/4294967296)%4294967296:Nat)+u64.wrap (p01:Int))=(((p10+p00/4294967296)%4294967296+p01:Nat):Int):=by
  rw[wn p01 (by omega),<-Int.natCast_add,wn _ (by omega)]
 rw[t1,wn p11 (by omega)];rw[amY (show ¬(32:Int)<0 by decide)];dsimp only
 have hi:u64.wrap (u64.wrap ((p11:Int)+((p10+p00/4294967296:Nat):Int)/4294967296)+(((p10+p00/4294967296)%4294967296+p01:Nat):Int)/4294967296)=((p11*18446744073709551616+(p10+p01)*4294967296+p00:Nat):Int)/18446744073709551616:=by
  rw[anO,anO];omega
 rw[hi,anO]
def aik:List En:=enA NV::enA SW::Ag
def ZY(x y:Int)(_k:KT):OLR:=let y1:=hid ((x.natAbs:Int));let y2:=hid ((y.natAbs:Int));let y3:=hid (y1*y2/18446744073709551616);let y4:=hid (y1*y2%18446744073709551616);let y5:=u64.wrap (BitVec.toNat (BitVec.ofInt 64 (u64.wrap (y3*2^(min (48:Int).toNat 64))) ||| BitVec.ofInt 64 (Int.fdiv y4 (2^(min (16:Int).toNat 64)))));let y6:=i64.wrap y5;let y7:=i64.wrap (y6+1);let y8:=i64.wrap (0-y7);let y9:=i64.wrap (0-y6);let y10:=decide (y9<=2305843009213693952);og (decide (aI x)) (og (decide (aI y)) (og (decide (jm y1/\jm y2)) (match decide (16<(0:Int))with|true=>none|false=>(match(Int.fdiv y3 (2^(min (16:Int).toNat 64))) !=0 with|true=>some [RV.d aqh 0,RV.d aqh 0,RV.d .bool false]|false=>(match decide (48<(0:Int))with|true=>none|false=>(match decide (16<(0:Int))with|true=>none|false=>(match decide (y5>2305843009213693952)with|true=>some [RV.d aqh 0,RV.d aqh 0,RV.d .bool false]|false=>(match(u64.wrap (BitVec.toNat (BitVec.ofInt 64 y4&&&BitVec.ofInt 64 65535))) !=0 with|true=>(match !((decide (x<0))==(decide (y<0)))with|true=>(match decide (y8>=(-2305843009213693952))with|true=>some [RV.d aqh y8,RV.d aqh y9,RV.d .bool y10]|false=>some [RV.d aqh y8,RV.d aqh y9,RV.d .bool false])|false=>(match decide (y6>=(-2305843009213693952))with|true=>some [RV.d aqh y6,RV.d aqh y7,RV.d .bool (decide (y7<=2305843009213693952))]|false=>some [RV.d aqh y6,RV.d aqh y7,RV.d .bool false]))|false=>(match !((decide (x<0))==(decide (y<0)))with|true=>(match decide (y9>=(-2305843009213693952))with|true=>some [RV.d aqh y9,RV.d aqh y9,RV.d .bool y10]|false=>some [RV.d aqh y9,RV.d aqh y9,RV.d .bool false])|false=>(match decide (y6>=(-2305843009213693952))with|true=>some [RV.d aqh y6,RV.d aqh y6,RV.d .bool (decide (y6<=2305843009213693952))]|false=>some [RV.d aqh y6,RV.d aqh y6,RV.d .bool false]))))))))))
def aac:Cn 329 [aqh,aqh]:=cn λ(x y:Int)=>lf (scP x y) [.d aqh ((scF x y).1.1),.d aqh ((scF x y).1.2),.d .bool ((scF x y).2)] λh=>by
 refine aB aik (ZY x y) ⟨0,?_⟩;obtain⟨hx,hy⟩:=h;have h1:aI x:=⟨by omega,by omega⟩
 have h2:aI y:=⟨by omega,by omega⟩
 have h3:jm (x.natAbs:Int)/\jm (y.natAbs:Int):=⟨⟨by omega,by omega⟩,⟨by omega,by omega⟩⟩
 unfold ZY scF;simp only[bL];rw[dT h1,dT h2,dT h3];have hp:=ao2 hx hy;simp only[<-aor,p16,p48,fdv (show(0:Int)<=65536 by decide)];generalize x.natAbs*y.natAbs=p at*
 rw[amY (show ¬(16:Int)<0 by decide),amY (show ¬(48:Int)<0 by decide),show(p:Int)/18446744073709551616=((p/18446744073709551616:Nat):Int) by omega,show(p:Int)%18446744073709551616=((p%18446744073709551616:Nat):Int) by omega,show((p%18446744073709551616:Nat):Int)/65536=((p%18446744073709551616/65536:Nat):Int) by omega,ajq _ (by omega),show p%18446744073709551616%65536=p%65536 by omega];by_cases hc:p>=1208925819614629174706176
 ·rw[amW hc,show(((p/18446744073709551616:Nat):Int)/65536 !=0)=true by simp;omega];rfl
 ·rw[amY hc,show(((p/18446744073709551616:Nat):Int)/65536 !=0)=false by simp;omega,amz (by omega) (by omega),show p/18446744073709551616*281474976710656+p%18446744073709551616/65536=p/65536 by omega];have hdm:=Nat.div_add_mod p 65536;have hml:=apS p (show 65536>0 by decide);have hru:(p+65535)/65536=if p%65536=0 then p/65536 else p/65536+1:=by split<;>omega
  rw[hru];clear hru;generalize p/65536=q at*
  generalize p%65536=m at*
  have e1:decide ((q:Int)>2305843009213693952)=decide (q>2305843009213693952):=an7.2 (by omega);rw[e1];by_cases hd:q>2305843009213693952
  ·rw[amW hd];rfl
  rw[amY hd,aV (x:=(q:Int)) (by omega) (by omega),aV (x:=(q:Int)+1) (by omega) (by omega),aV (x:=0-(q:Int)) (by omega) (by omega),aV (x:=0-((q:Int)+1)) (by omega) (by omega)];have e2:((m:Int) !=0)=!decide (m=0):=by by_cases h:m=0<;>simp[h]
  have e3:decide (0-(q:Int)>= -2305843009213693952)=true:=amW (by omega);have e4:decide (0-(q:Int)<=2305843009213693952)=true:=amW (by omega);have e5:decide ((q:Int)>= -2305843009213693952)=true:=amW (by omega);have e6:decide ((q:Int)<=2305843009213693952)=true:=amW (by omega);have e7:decide (0-((q:Int)+1)>= -2305843009213693952)=decide (q+1<=2305843009213693952):=an7.2 (by omega);have e8:decide ((q:Int)+1<=2305843009213693952)=decide (q+1<=2305843009213693952):=an7.2 (by omega);have e9:decide (q<=2305843009213693952)=true:=amW (by omega);rw[e2,e3,e4,e5,e6,e7,e8];have f2:((q+1:Nat):Int)=(q:Int)+1:=by omega
  have f3:decide (m=0)=true->m=0:=amZ;have f4:decide (m=0)=false->m≠0:=anP;generalize decide (m=0)=d2 at*
  generalize (decide (x<0)==decide (y<0))=d3 at*
  cases d2
  ·rw[ank (f4 rfl),f2];generalize decide (q+1<=2305843009213693952)=d4 at*
   cases d3<;>cases d4<;>simp
  ·rw[anp (f3 rfl),e9];cases d3<;>simp
def bH(r:Rt):Iv×Bool:=
 bif !(frF r.1).2||decide (r.2.1=0)then frF r.1
 else bif !(frF r.2.1).2||!(frF r.2.2).2||decide (r.2.2<0)then(iv0,false)
 else bif !(sqF (frF r.2.2).1).2 then(iv0,false)
 else bif !(cK (frF r.2.1).1 (sqF (frF r.2.2).1).1).2 then(iv0,false)
 else dW (frF r.1).1 (cK (frF r.2.1).1 (sqF (frF r.2.2).1).1).1
def ku(n:Rat)(a:Iv)(k:Bool):Iv×Bool:=bif !k||!(frF n).2 then(iv0,false)else cK (frF n).1 a
def apF(a b:Rt):Int×Bool:=
 bif !(bH a).2||!(bH b).2 then(0,false)else bif decide ((bH a).1.2<(bH b).1.1)then(-1,true)else bif decide ((bH a).1.1>(bH b).1.2)then(1,true)else(0,false)
abbrev Pt:=Rat×Rat×Rat×Rat×Rat
abbrev Ln:=Rat×Rat×Rat
def pxR(p:Pt):Rt:=(p.1,p.2.1,p.2.2.2.2)
def pyR(p:Pt):Rt:=(p.2.2.1,p.2.2.2.1,p.2.2.2.2)
def yr(l:Ln)(p:Pt):Int×Bool:=
 bif !(ku l.1 (bH (pxR p)).1 (bH (pxR p)).2).2||!(ku l.2.1 (bH (pyR p)).1 (bH (pyR p)).2).2||!(frF l.2.2).2 then(0,false)
 else bif !(dW (ku l.1 (bH (pxR p)).1 (bH (pxR p)).2).1 (ku l.2.1 (bH (pyR p)).1 (bH (pyR p)).2).1).2 then(0,false)
 else bif !(dW (dW (ku l.1 (bH (pxR p)).1 (bH (pxR p)).2).1 (ku l.2.1 (bH (pyR p)).1 (bH (pyR p)).2).1).1 (nh (frF l.2.2).1)).2 then(0,false)
 else sgF (dW (dW (ku l.1 (bH (pxR p)).1 (bH (pxR p)).2).1 (ku l.2.1 (bH (pyR p)).1 (bH (pyR p)).2).1).1 (nh (frF l.2.2).1)).1
def fM(r:Rt)(q:Rat):Iv×Bool:=bif !(bH r).2||!(frF q).2 then(iv0,false)else dW (bH r).1 (nh (frF q).1)
def vu(c:Ln)(p:Pt):Int×Bool:=
 bif !(fM (pxR p) c.1).2||!(fM (pyR p) c.2.1).2||!(frF c.2.2).2 then(0,false)
 else bif !(cK (fM (pxR p) c.1).1 (fM (pxR p) c.1).1).2||!(cK (fM (pyR p) c.2.1).1 (fM (pyR p) c.2.1).1).2 then(0,false)
 else bif !(dW (cK (fM (pxR p) c.1).1 (fM (pxR p) c.1).1).1 (cK (fM (pyR p) c.2.1).1 (fM (pyR p) c.2.1).1).1).2 then(0,false)
 else bif !(dW (dW (cK (fM (pxR p) c.1).1 (fM (pxR p) c.1).1).1 (cK (fM (pyR p) c.2.1).1 (fM (pyR p) c.2.1).1).1).1 (nh (frF c.2.2).1)).2 then(0,false)
 else sgF (dW (dW (cK (fM (pxR p) c.1).1 (fM (pxR p) c.1).1).1 (cK (fM (pyR p) c.2.1).1 (fM (pyR p) c.2.1).1).1).1 (nh (frF c.2.2).1)).1
def sfF(m:Rat):Iv:=(sqF (frF m).1).1
def mfF(b:Rat)(i:Iv):Iv:=(cK (frF b).1 i).1
def qu1(q:Qd):Bool:=(frF q.2.2.2.2.1).2&&(sqF (frF q.2.2.2.2.1).1).2&&(frF q.2.2.2.2.2).2&&(sqF (frF q.2.2.2.2.2).1).2
def qu2(q:Qd):Bool:=(frF q.2.1).2&&(cK (frF q.2.1).1 (sfF q.2.2.2.2.1)).2&&(frF q.2.2.1).2&&(cK (frF q.2.2.1).1 (sfF q.2.2.2.2.2)).2&&(frF q.2.2.2.1).2&&(cK (sfF q.2.2.2.2.1) (sfF q.2.2.2.2.2)).2&&(cK (frF q.2.2.2.1).1 (cK (sfF q.2.2.2.2.1) (sfF q.2.2.2.2.2)).1).2
def quA(q:Qd):Iv×Bool:=dW (frF q.1).1 (mfF q.2.1 (sfF q.2.2.2.2.1))
def quB(q:Qd):Iv×Bool:=dW (mfF q.2.2.1 (sfF q.2.2.2.2.2)) (mfF q.2.2.2.1 (cK (sfF q.2.2.2.2.1) (sfF q.2.2.2.2.2)).1)
def qu3(q:Qd):Bool:=(frF q.1).2&&(quA q).2&&(quB q).2&&(dW (quA q).1 (quB q).1).2
def quF(q:Qd):Int×Bool:=bif !(qu1 q)then(0,false)else bif !(qu2 q)then(0,false)else bif !(qu3 q)then(0,false)else sgF (dW (quA q).1 (quB q).1).1
theorem zT(r:Rt):prI (bH r).1:=by
 unfold bH;cases !(frF r.1).2||decide (r.2.1=0)
 ·cases !(frF r.2.1).2||!(frF r.2.2).2||decide (r.2.2<0)
  ·cases !(sqF (frF r.2.2).1).2
   ·cases !(cK (frF r.2.1).1 (sqF (frF r.2.2).1).1).2
    ·exact RE.addF_pr (RE.frF_pr _) (uI _ _)
    ·exact gh
   ·exact gh
  ·exact gh
 ·exact RE.frF_pr _
theorem US(n:Rat)(a:Iv)(k:Bool):prI (ku n a k).1:=by
 unfold ku;cases !k||!(frF n).2
 ·exact uI _ _
 ·exact gh
theorem Xe(r:Rt)(q:Rat):prI (fM r q).1:=by
 unfold fM;cases !(bH r).2||!(frF q).2
 ·exact RE.addF_pr (zT _) (RE.negF_pr (RE.frF_pr _))
 ·exact gh
namespace RE
theorem qk{r:Rt}(h:(bH r).2=true):inI (bH r).1 (v2 r.1 r.2.1 r.2.2):=by
 unfold bH at h ⊢;cases e1:(frF r.1).2
 ·rw[e1]at h;simp only[Bool.not_false,Bool.true_or,cond_true]at h;rw[e1]at h;cases h
 ·rw[e1]at h;by_cases hb:r.2.1=0
  ·rw[amW hb]at h ⊢;simp only[Bool.not_true,Bool.false_or,cond_true];unfold v2;rw[hb,pg,zero_mul,add_zero];exact iX e1
  ·rw[amY hb]at h ⊢;cases e2:(frF r.2.1).2<;>cases e3:(frF r.2.2).2<;>cases e4:decide (r.2.2<0)<;>rw[e2,e3,e4]at h<;>try (cases h;done)
   cases e5:(sqF (frF r.2.2).1).2<;>rw[e5]at h<;>try (cases h;done)
   cases e6:(cK (frF r.2.1).1 (sqF (frF r.2.2).1).1).2<;>rw[e6]at h<;>try (cases h;done)
   have hn:(0:RE)<=of r.2.2:=fQ.2 (by have:=anP e4;grind);exact kG (iX e1) (mM (iX e2) (zB (iX e3) hn e5) e6) h
theorem Ia{n:Rat}{a:Iv}{k:Bool}{x:RE}(ha:k=true->inI a x)(h:(ku n a k).2=true):inI (ku n a k).1 (of n*x):=by
 unfold ku at h ⊢;cases k
 ·cases h
 ·cases e:(frF n).2<;>rw[e]at h
  ·cases h
  ·exact mM (iX e) (ha rfl) h
theorem JM{r:Rt}{q:Rat}(h:(fM r q).2=true):inI (fM r q).1 (v2 r.1 r.2.1 r.2.2+ -of q):=by
 unfold fM at h ⊢;cases e1:(bH r).2<;>cases e2:(frF q).2<;>rw[e1,e2]at h<;>try (cases h;done)
 exact kG (qk e1) (Cc (iX e2)) h
theorem TU(x y:RE)(h1:x<y):x-y<0:=by grind
theorem agc(u x y a b:RE):((b-(a)))+((a-(u*x)))+((u*y-(b)))+((u-(0))*(x-(y)))=0:=by grind
theorem ap1(u x y a b:RE)(h1:0<u)(h2:u*x<=a)(h3:a<b)(h4:b<=u*y):x<y:=tv.1 λhg=>far (aJ (aJ (aJ (aM h3) (aG h2)) (aG h4)) (aH (le_of_lt (aM h1)) (aG hg))) (agc u x y a b)
theorem apF_ok{a b:Rt}(h:(apF a b).2=true):(apF a b).1=sg (vR a-vR b):=by
 unfold apF at h ⊢;cases e1:(bH a).2<;>cases e2:(bH b).2<;>rw[e1,e2]at h<;>try (cases h;done)
 obtain⟨a1,a2⟩:=qk e1;obtain⟨b1,b2⟩:=qk e2;cases e3:decide ((bH a).1.2<(bH b).1.1)<;>rw[e3]at h
 ·cases e4:decide ((bH a).1.1>(bH b).1.2)<;>rw[e4]at h
  ·cases h
  ·have h4:of ((bH b).1.2:Rat)<of ((bH a).1.1:Rat):=fX (apn.2 (amZ e4));exact(dA (aM (ap1 _ _ _ _ _ pL b2 h4 a1))).symm
 ·have h4:of ((bH a).1.2:Rat)<of ((bH b).1.1:Rat):=fX (apn.2 (amZ e3));exact(ii (TU _ _ (ap1 _ _ _ _ _ pL a2 h4 b1))).symm
theorem WS{l:Ln}{p:Pt}(h:(yr l p).2=true):(yr l p).1=sg (of l.1*v2 p.1 p.2.1 p.2.2.2.2+of l.2.1*v2 p.2.2.1 p.2.2.2.1 p.2.2.2.2+ -of l.2.2):=by
 unfold yr at h ⊢;cases e1:(ku l.1 (bH (pxR p)).1 (bH (pxR p)).2).2<;>cases e2:(ku l.2.1 (bH (pyR p)).1 (bH (pyR p)).2).2<;>cases e3:(frF l.2.2).2<;>rw[e1,e2,e3]at h<;>try (cases h;done)
 have i1:=Ia (x:=v2 p.1 p.2.1 p.2.2.2.2) (λe=>qk (r:=pxR p) e) e1;have i2:=Ia (x:=v2 p.2.2.1 p.2.2.2.1 p.2.2.2.2) (λe=>qk (r:=pyR p) e) e2;revert h i1 i2;generalize ku l.1 (bH (pxR p)).1 (bH (pxR p)).2=X;generalize ku l.2.1 (bH (pyR p)).1 (bH (pyR p)).2=Y;intro h i1 i2;cases e4:(dW X.1 Y.1).2<;>rw[e4]at h<;>try (cases h;done)
 cases e5:(dW (dW X.1 Y.1).1 (nh (frF l.2.2).1)).2<;>rw[e5]at h<;>try (cases h;done)
 exact HU (kG (kG i1 i2 e4) (Cc (iX e3)) e5) h
theorem Xc{c:Ln}{p:Pt}(h:(vu c p).2=true):(vu c p).1=sg ((v2 p.1 p.2.1 p.2.2.2.2+ -of c.1)*(v2 p.1 p.2.1 p.2.2.2.2+ -of c.1)+(v2 p.2.2.1 p.2.2.2.1 p.2.2.2.2+ -of c.2.1)*(v2 p.2.2.1 p.2.2.2.1 p.2.2.2.2+ -of c.2.1)+ -of c.2.2):=by
 unfold vu at h ⊢;cases e1:(fM (pxR p) c.1).2<;>cases e2:(fM (pyR p) c.2.1).2<;>cases e3:(frF c.2.2).2<;>rw[e1,e2,e3]at h<;>try (cases h;done)
 have i1:=JM e1;have i2:=JM e2;revert h;generalize fM (pxR p) c.1=X at*
 generalize fM (pyR p) c.2.1=Y at*
 intro h;cases e4:(cK X.1 X.1).2<;>cases e5:(cK Y.1 Y.1).2<;>rw[e4,e5]at h<;>try (cases h;done)
 cases e6:(dW (cK X.1 X.1).1 (cK Y.1 Y.1).1).2<;>rw[e6]at h<;>try (cases h;done)
 cases e7:(dW (dW (cK X.1 X.1).1 (cK Y.1 Y.1).1).1 (nh (frF c.2.2).1)).2<;>rw[e7]at h<;>try (cases h;done)
 exact HU (kG (kG (mM i1 i1 e4) (mM i2 i2 e5) e6) (Cc (iX e3)) e7) h
theorem agP(a b c d:RE):a+b+(c+d)=a+b+c+d:=by grind
theorem quF_ok{q:Qd}(hM:0<=q.2.2.2.2.1)(hN:0<=q.2.2.2.2.2)(h:(quF q).2=true):(quF q).1=sg (vQ q.1 q.2.1 q.2.2.1 q.2.2.2.1 q.2.2.2.2.1 q.2.2.2.2.2):=by
 unfold quF at h ⊢;cases e1:qu1 q<;>rw[e1]at h<;>try (cases h;done)
 cases e2:qu2 q<;>rw[e2]at h<;>try (cases h;done)
 cases e3:qu3 q<;>rw[e3]at h<;>try (cases h;done)
 unfold qu1 at e1;unfold qu2 at e2;unfold qu3 at e3;simp only[am0]at e1 e2 e3;obtain⟨⟨⟨a1,a2⟩,a3⟩,a4⟩:=e1;obtain⟨⟨⟨⟨⟨⟨b1,b2⟩,b3⟩,b4⟩,b5⟩,b6⟩,b7⟩:=e2;obtain⟨⟨⟨c1,c2⟩,c3⟩,c4⟩:=e3;have i1:inI (sfF q.2.2.2.2.1) (rq q.2.2.2.2.1):=zB (iX a1) (fQ.2 hM) a2;have i2:inI (sfF q.2.2.2.2.2) (rq q.2.2.2.2.2):=zB (iX a3) (fQ.2 hN) a4
 have hq:inI (dW (quA q).1 (quB q).1).1 (vQ q.1 q.2.1 q.2.2.1 q.2.2.2.1 q.2.2.2.2.1 q.2.2.2.2.2):=by
  have:=kG (kG (iX c1) (mM (iX b1) i1 b2) c2) (kG (mM (iX b3) i2 b4) (mM (iX b5) (mM i1 i2 b6) b7) c3) c4;rw[agP]at this;exact this
 exact HU hq h
end RE
end Go.Proofs.YtagbmoohboleaaaGreat
end
