/- The reference's Sqrt and Same. -/
import Derived.Test.YtagbmoohboleaaaGreatK10
noncomputable section
namespace Go.Proofs.YtagbmoohboleaaaGreat
open Go.RowKit Go.IntKind
theorem anm:type_of% @Bool.and_eq_true_iff:=@Bool.and_eq_true_iff
theorem ao7:type_of% @Int.zero_sub:=@Int.zero_sub
theorem apc:type_of% @beq_eq_false_iff_ne:=@beq_eq_false_iff_ne
theorem apd:type_of% @Rat.intCast_mul:=@Rat.intCast_mul
theorem apq:type_of% @decide_eq_true_eq:=@decide_eq_true_eq
theorem apD:type_of% @Rat.intCast_lt_intCast:=@Rat.intCast_lt_intCast
theorem apV:type_of% @Rat.neg_neg:=@Rat.neg_neg
theorem aqm:type_of% @Rat.le_refl:=@Rat.le_refl
theorem nU(a b:Int):(cE a b==0)=decide (a=b):=by
 rcases Int.lt_trichotomy a b with h|h|h
 ·rw[dl h,ane (by omega)];rfl
 ·rw[h,eM,anb rfl];rfl
 ·rw[cX h,ane (by omega)];rfl
def Qa:List En:=[enK Cj,enF PP,enK CE,enK GY,enK Pe]
def XS:NT:=[((264,23),{keep:=[1,2,4,5],hl:=6})]
def CO:Ctx:=CX (ens Qa) XS
def lJ(x:Bool×List Int)(b4_0:Bool)(b4_1:List Int):Cfg:=⟨264,[.blk 0],[(1,.box 0 0),(2,.box 1 0),(4,.box 4 0),(5,.box 5 0)],[.box 29 [SB x.1,.d aqv x.2],.box 29 [SB false,.nil],.gone,.row 200 aqx ([1]),.box 29 [SB b4_0,.d aqv b4_1],.box 29 [SB ((ai (2:Int)).1),.d aqv ((ai (2:Int)).2)]],0,[]⟩
def DS(x:Bool×List Int)(k:KT):OLR:=match x.1 with|true=>some [RV.d y2Y (false,[]),RV.d aqw 7]|false=>(match(x.2.length:Int)==0 with|true=>some [RV.d y2Y (false,[]),RV.d aqw 0]|false=>(og (decide ((0:Int)<=i64.wrap (Int.tdiv (i64.wrap ((x.2.length:Int)+1)) 2)/\(i64.wrap (Int.tdiv (i64.wrap ((x.2.length:Int)+1)) 2))*((4:Nat):Int)<=140737488355328/\i64.wrap (Int.tdiv (i64.wrap ((x.2.length:Int)+1)) 2)<=140737488355328)) (og (decide (((List.replicate (i64.wrap (Int.tdiv (i64.wrap ((x.2.length:Int)+1)) 2)).toNat (0:Int)).length+([1]).length)*4<=140737488355328/\(List.replicate (i64.wrap (Int.tdiv (i64.wrap ((x.2.length:Int)+1)) 2)).toNat (0:Int)).length+([1]).length<=140737488355328)) (og (decide (aJ (2:Int))) (k 23 (lJ x false ((List.replicate (i64.wrap (Int.tdiv (i64.wrap ((x.2.length:Int)+1)) 2)).toNat (0:Int))++([1]))))))))
theorem G7(x:Bool×List Int):RS CO 264 [.d y2Y x] (DS x):=rsX
def t4(x:Bool×List Int)(b4_0:Bool)(b4_1:List Int)(k:KT):OLR:=og (decide (ga x (b4_0,b4_1))) (cD (og (decide (okI (b4_0,b4_1)/\okI (ai (ae x/ae (b4_0,b4_1))))) (cD (og (decide (ga (ai (ae (b4_0,b4_1)+ae (ai (ae x/ae (b4_0,b4_1))))) (ai (2:Int)))) (dup (.b .l .l) (og (decide (okI (ai (ae (ai (ae (b4_0,b4_1)+ae (ai (ae x/ae (b4_0,b4_1)))))/ae (ai (2:Int))))/\okI (b4_0,b4_1))) (match decide ((cE (ae (ai (ae (ai (ae (b4_0,b4_1)+ae (ai (ae x/ae (b4_0,b4_1)))))/ae (ai (2:Int))))) (ae (b4_0,b4_1)))>=0)with|true=>some [RV.d y2Y (b4_0,b4_1),RV.d aqw 0]|false=>k 23 (lJ x ((ai (ae (ai (ae (b4_0,b4_1)+ae (ai (ae x/ae (b4_0,b4_1)))))/ae (ai (2:Int)))).1) ((ai (ae (ai (ae (b4_0,b4_1)+ae (ai (ae x/ae (b4_0,b4_1)))))/ae (ai (2:Int)))).2)))))) (dup (.b (.b .l .l) (.b .l .l)) (og (decide (ga (ai (ae (b4_0,b4_1)+ae (ai (ae x/ae (b4_0,b4_1))))) (ai (2:Int)))) (og (decide (okI (ai (ae (ai (ae (b4_0,b4_1)+ae (ai (ae x/ae (b4_0,b4_1)))))/ae (ai (2:Int))))/\okI (b4_0,b4_1))) (match decide ((cE (ae (ai (ae (ai (ae (b4_0,b4_1)+ae (ai (ae x/ae (b4_0,b4_1)))))/ae (ai (2:Int))))) (ae (b4_0,b4_1)))>=0)with|true=>some [RV.d y2Y (b4_0,b4_1),RV.d aqw 0]|false=>k 23 (lJ x ((ai (ae (ai (ae (b4_0,b4_1)+ae (ai (ae x/ae (b4_0,b4_1)))))/ae (ai (2:Int)))).1) ((ai (ae (ai (ae (b4_0,b4_1)+ae (ai (ae x/ae (b4_0,b4_1)))))/ae (ai (2:Int)))).2)))))))) (dup (.b .l .l) (cD (og (decide (okI (b4_0,b4_1)/\okI (ai (ae x/ae (b4_0,b4_1))))) (dup (.b .l .l) (og (decide (ga (ai (ae (b4_0,b4_1)+ae (ai (ae x/ae (b4_0,b4_1))))) (ai (2:Int)))) (og (decide (okI (ai (ae (ai (ae (b4_0,b4_1)+ae (ai (ae x/ae (b4_0,b4_1)))))/ae (ai (2:Int))))/\okI (b4_0,b4_1))) (match decide ((cE (ae (ai (ae (ai (ae (b4_0,b4_1)+ae (ai (ae x/ae (b4_0,b4_1)))))/ae (ai (2:Int))))) (ae (b4_0,b4_1)))>=0)with|true=>some [RV.d y2Y (b4_0,b4_1),RV.d aqw 0]|false=>k 23 (lJ x ((ai (ae (ai (ae (b4_0,b4_1)+ae (ai (ae x/ae (b4_0,b4_1)))))/ae (ai (2:Int)))).1) ((ai (ae (ai (ae (b4_0,b4_1)+ae (ai (ae x/ae (b4_0,b4_1)))))/ae (ai (2:Int)))).2))))))) (og (decide (okI (b4_0,b4_1)/\okI (ai (ae x/ae (b4_0,b4_1))))) (og (decide (ga (ai (ae (b4_0,b4_1)+ae (ai (ae x/ae (b4_0,b4_1))))) (ai (2:Int)))) (og (decide (okI (ai (ae (ai (ae (b4_0,b4_1)+ae (ai (ae x/ae (b4_0,b4_1)))))/ae (ai (2:Int))))/\okI (b4_0,b4_1))) (match decide ((cE (ae (ai (ae (ai (ae (b4_0,b4_1)+ae (ai (ae x/ae (b4_0,b4_1)))))/ae (ai (2:Int))))) (ae (b4_0,b4_1)))>=0)with|true=>some [RV.d y2Y (b4_0,b4_1),RV.d aqw 0]|false=>k 23 (lJ x ((ai (ae (ai (ae (b4_0,b4_1)+ae (ai (ae x/ae (b4_0,b4_1)))))/ae (ai (2:Int)))).1) ((ai (ae (ai (ae (b4_0,b4_1)+ae (ai (ae x/ae (b4_0,b4_1)))))/ae (ai (2:Int)))).2)))))))))
theorem zD(x:Bool×List Int)(b4_0:Bool)(b4_1:List Int):RN CO 23 (lJ x b4_0 b4_1) (t4 x b4_0 b4_1):=rnX
theorem Lj(x:BI)(hx:okI x)(h0:0<ae x):∀(m:Nat) (X:Int),X.toNat=m->0<X->bO (ae x)<=X->szI X<=900000->CO.Runs 23 (lJ x (ai X).1 (ai X).2) [.d y2Y (ai (bO (ae x))),.d aqw 0]:=by
 intro m;induction m using Nat.strongRecOn with
 |ind m ih=>
  intro X hm hX hs hsz;obtain⟨g0,g1,g2⟩:=ic (anU h0);have hq0:0<=ae x/X:=aoe (by omega) (by omega);have hq1:ae x/X<=ae x:=ao3 _ (by omega);have oX:okI (ai X):=aW (by omega);have sq:szI (ae x/X)<=1000000:=anq (dP (by omega)) (jJ hx);have p1:ga x (ai X):=⟨hx,oX,by rw[dec_enc];exact hX⟩
  have ssum:szI (X+ae x/X)<=1000000:=by
   have b1:=pD hsz;have b2:=pD (jJ hx);have e:pw 1000000=pw 900000*pw 100000:=by rw[<-gh]
   have p9:(1000:Int)<=pw 100000:=by
    have:pw 100000=pw 99999*1000000000:=ce 99999;have:=cB 99999;omega
   have p8:=cB 900000;have h8:pw 900000*1000<=pw 900000*pw 100000:=ank p9 (by omega);rcases anL X 2 with hX1|hX1
   ·-- X=1:then the number is less than 4
    have:X=1:=by omega
    subst this;have:bO (ae x)<=1:=hs
    have h4:ae x<4:=by
     have:=sq_mono (a:=bO (ae x)+1) (b:=2) (by omega) (by omega);omega
    refine fV ?_ ?_<;>(rw[e,Int.ediv_one];omega)
   ·have hq2:ae x/X<=ae x/2:=by
     have:=Int.ediv_mul_le (ae x) (show X≠0 by omega);have h2:ae x/X*2<=ae x/X*X:=ank hX1 hq0;omega
    refine fV ?_ ?_<;>(rw[e]at b2 ⊢;omega)
  have o1:okI (ai X)/\okI (ai (ae x/X)):=⟨oX,aW sq⟩
  have p2:ga (ai (X+ae x/X)) (ai 2):=⟨aW ssum,by decide,by rw[dec_enc];decide⟩
  have hn:=QG hX g0 g1;have o2:okI (ai ((X+ae x/X)/2))/\okI (ai X):=⟨aW (anq (dP (by omega)) ssum),oX⟩
  by_cases hc:X<=(X+ae x/X)/2
  ·have hXs:=yv hX hs g1 g2 g0 hc;refine zD _ _ _ ⟨0,?_⟩;unfold t4;simp only[c8,fE];have e:∀z:Int,((ai z).1,(ai z).2)=ai z:=λz=>rfl;simp only[e,dec_enc,anb p1,anb o1,anb p2,anb o2]
   have hg:decide (cE ((X+ae x/X)/2) X>=0)=true:=by
    rcases Int.lt_or_eq_of_le hc with h|h
    ·rw[cX h];rfl
    ·rw[<-h,eM];rfl
   rw[hg,hXs]
  ·obtain⟨n,hN⟩:=ih ((X+ae x/X)/2).toNat (by omega) ((X+ae x/X)/2) rfl (by
    rcases anL 0 (bO (ae x))with h|h
    ·omega
    ·exfalso;have:bO (ae x)=0:=by omega
     rw[this]at g2;omega) hn (anq (dP (by omega)) hsz)
   refine zD _ _ _ ⟨n,?_⟩;unfold t4;simp only[c8,fE];have e:∀z:Int,((ai z).1,(ai z).2)=ai z:=λz=>rfl;simp only[e,dec_enc,anb p1,anb o1,anb p2,anb o2];rw[dl (by omega)];exact hN
def afg:Cn 264 [y2Y]:=cn λ(x:Bool×List Int)=>lf (okI x) [.d y2Y (gO x),.d aqw (xd x)] λh=>by
 refine dk Qa (show CO.Res _ _ _ from ?_);obtain⟨x0,x1,x2⟩:=cN h;have hl:=h.2.2;cases hn:x.1
 ·by_cases hz:x.2=[]
  ·refine G7 _ ⟨0,?_⟩;unfold DS gO xd;have:ae x=0:=by unfold ae;rw[hn,hz];rfl
   rw[hn,hz,this];rfl
  ·have hp:0<val x.2:=fC h.1 hz;have hd:ae x=val x.2:=by unfold ae;rw[hn];rfl
   have hlen:=anW.2 hz
   have hk:i64.wrap (Int.tdiv (i64.wrap ((x.2.length:Int)+1)) 2)=(((x.2.length+1)/2:Nat):Int):=by
    rw[bW (by omega),iZ (by omega),aV (by omega) (by omega)];omega
   have hv:val (List.replicate ((x.2.length+1)/2) 0++[1])=pw ((x.2.length+1)/2):=by
    rw[dO,iK,apK];simp[val]
   have hL:aU (List.replicate ((x.2.length+1)/2) 0++[1]):=by
    refine⟨λy hy=>?_,by simp;omega⟩;rcases anR.1 hy with hy|hy
    ·have:=List.eq_of_mem_replicate hy;omega
    ·simp at hy;omega
   have hpos:=cB ((x.2.length+1)/2)
   obtain⟨n,hN⟩:=Lj x h (by omega) _ (pw ((x.2.length+1)/2)) rfl hpos (by
     obtain⟨g0,g1,g2⟩:=ic (show 0<=ae x by omega);have hlt:=b9 h.1.1;have hm:=dH (show x.2.length<=(x.2.length+1)/2+(x.2.length+1)/2 by omega);rw[gh]at hm;have:=sq_lt (a:=bO (ae x)) (b:=pw ((x.2.length+1)/2)) (by omega) (by omega)
     omega) (fV (k:=900000) (by have:=cB 900000;omega) (by
      have:=dH (show(x.2.length+1)/2+1<=900000 by omega);rw[ce]at this;omega))
   refine G7 _ ⟨n,?_⟩;unfold DS gO xd;simp only[hk];rw[hn,show((x.2.length:Int)==0)=false by simp;omega];simp only[aoS];rw[anb (show(0:Int)<=(((x.2.length+1)/2:Nat):Int)/\(((x.2.length+1)/2:Nat):Int)*((4:Nat):Int)<=140737488355328/\(((x.2.length+1)/2:Nat):Int)<=140737488355328 by omega)];rw[anb (show((List.replicate ((x.2.length+1)/2) (0:Int)).length+([1]:List Nat).length)*4<=140737488355328/\(List.replicate ((x.2.length+1)/2) (0:Int)).length+([1]:List Nat).length<=140737488355328 by simp;omega)];rw[anb (show aJ 2 by decide)]
   have he:ai (pw ((x.2.length+1)/2))=(false,List.replicate ((x.2.length+1)/2) 0++[1]):=by
    have ho:okI ((false,List.replicate ((x.2.length+1)/2) 0++[1]):BI):=⟨⟨hL.1,by simp⟩,(λe=>by cases e),(by simp;omega)⟩
    rw[jw ho];congr 1;exact hv.symm
   rw[he]at hN;exact hN
 ·refine G7 _ ⟨0,?_⟩;unfold DS gO xd;rw[hn];rfl
def ajs:List En:=enF yF::Qa
def QN(x y:Bool×List Int)(_k:KT):OLR:=match x.1==y.1 with|true=>(og (decide (t5 x.2 y.2)) (some [RV.d .bool ((cE (val x.2) (val y.2))==0)]))|false=>some [RV.d .bool false]
def MG:Cn 265 [y2Y,y2Y]:=cn λ(x y:Bool×List Int)=>lf (okI x/\okI y) [.d .bool (decide (ae x=ae y))] λh=>by
 refine aB ajs (QN x y) ⟨0,?_⟩;obtain⟨hx,hy⟩:=h;obtain⟨x0,x1,x2⟩:=cN hx;obtain⟨y0,y1,y2⟩:=cN hy;unfold QN;rw[dT (show t5 x.2 y.2 from⟨⟨hx.1,by have:=hx.2.2;omega⟩,⟨hy.1,by have:=hy.2.2;omega⟩⟩)];rw[bR,bR];unfold cg;cases ex:x.1<;>cases ey:y.1<;>simp only[cond_true,cond_false]
 ·show some [RV.d .bool (cE (val x.2) (val y.2)==0)]=_;rw[nU]
 ·have:=y1 ey;rw[ane (show ¬val x.2= -val y.2 by omega)];rfl
 ·have:=x1 ex;rw[ane (show ¬ -val x.2=val y.2 by omega)];rfl
 ·show some [RV.d .bool (cE (val x.2) (val y.2)==0)]=_;rw[nU,show decide (val x.2=val y.2)=decide (-val x.2= -val y.2) from aom.2 (by omega)]
def gR(q:Rat):Bool:=decide (bO q.num*bO q.num=q.num)&&decide (bO (q.den:Int)*bO (q.den:Int)=(q.den:Int))
def rtQ(q:Rat):Rat:=mkRat (bO q.num) (bO (q.den:Int)).toNat
theorem B6(z:Int):0<=bO z:=by unfold bO;omega
theorem DY{s:Int}(h:0<=s):bO (s*s)=s:=WD h (Int.le_refl _) (by grind)
theorem rl{z:Int}(h:z<0):bO z=0:=by
 unfold bO;rw[show z.toNat=0 by omega];rfl
theorem ajx{s t:Nat}(ht:0<t)(hg:(s*s).Coprime (t*t)):(mkRat (s:Int) t).num=(s:Int)/\(mkRat (s:Int) t).den=t:=by
 have hc:s.Coprime t:=Nat.Coprime.coprime_dvd_left (Nat.dvd_mul_left s s) (Nat.Coprime.coprime_dvd_right (Nat.dvd_mul_left t t) hg);rw[aqf,aqg,anA (by omega),anA (by omega),aoJ,show t.gcd s=1 from hc.symm];simp
theorem Ig{q:Rat}(h:gR q=true):(rtQ q).num=bO q.num/\((rtQ q).den:Int)=bO (q.den:Int)/\rtQ q*rtQ q=q/\0<=rtQ q:=by
 unfold gR at h;simp only[ang,apq]at h;obtain⟨h1,h2⟩:=h;have hd:=q.den_pos;have hr:=q.reduced;obtain⟨s,hs⟩:=aol (B6 q.num);obtain⟨t,ht⟩:=aol (B6 (q.den:Int));unfold rtQ;rw[hs,ht,aoS];rw[hs]at h1;rw[ht]at h2;have e1:q.num.natAbs=s*s:=by rw[<-h1,<-aoH,aoJ]
 have e2:q.den=t*t:=by rw[<-aoH]at h2;omega
 have hg:(s*s).Coprime (t*t):=by rw[<-e1,<-e2];exact hr
 have tp:0<t:=Nat.pos_of_ne_zero λe=>by rw[e2,e]at hd;simp at hd
 obtain⟨g1,g2⟩:=ajx tp hg;refine⟨g1,by rw[g2],?_,?_⟩
 ·rw[Rat.mkRat_mul_mkRat,<-e2,h1,Rat.mkRat_self]
 ·exact Rat.num_nonneg.1 (by rw[g1];omega)
theorem V5(r:Rat):gR (r*r)=true:=by
 have hd:=r.den_pos
 have hc:(r.den*r.den).gcd (r.num*r.num).natAbs=1:=by
  rw[ap4];have:=r.reduced.symm;exact Nat.Coprime.mul_left (Nat.Coprime.mul_right this this) (Nat.Coprime.mul_right this this)
 have e1:(r*r).num=r.num*r.num:=by
  rw[Rat.mul_def',aqf,hc,anA (apO (by omega) (by omega))];simp
 have e2:((r*r).den:Int)=(r.den:Int)*(r.den:Int):=by
  rw[Rat.mul_def',aqg,hc,anA (apO (by omega) (by omega)),Nat.div_one,aoH]
 unfold gR;rw[e1,e2,DY (s:=(r.den:Int)) (by omega)];rcases anL r.num 0 with h|h
 ·rw[show r.num*r.num= -r.num* -r.num by grind,DY (by omega)];simp
 ·rw[DY h];simp
def rtB(q:Rat):BR:=bif gR q then ao (rtQ q)else((false,[]),(false,[]))
theorem Dq{x:BI}(h:okI x):gO x=ai (bO (ae x)):=by
 obtain⟨x0,x1,x2⟩:=cN h;unfold gO;cases hx:x.1
 ·rfl
 ·have:=x1 hx;have hd:ae x= -val x.2:=by rw[bR,hx];rfl
  rw[hd,rl (by omega)];rfl
theorem KP{z:Int}(h:szI z<=1000000):szI (bO z)<=500000:=by
 have h1:=pD h;have e:pw 1000000=pw 500000*pw 500000:=by rw[<-gh]
 have hp:=cB 500000;rcases anL z 0 with h0|h0
 ·rw[rl h0];exact fV (by omega) hp
 ·obtain⟨g0,g1,g2⟩:=ic h0;have:=sq_lt (a:=bO z) (b:=pw 500000) (by omega) (by omega);exact fV (by omega) this
theorem QQ(a b:Int):(ai a==ai b)=decide (a=b):=by
 by_cases h:a=b
 ·rw[h,anb rfl];simp
 ·rw[ane h,apc];intro e;exact h (by rw[<-dec_enc a,e,dec_enc])
theorem KG{x y:BI}(hx:okI x)(hy:okI y):(x==y)=decide (ae x=ae y):=by
 rw[jw hx,jw hy,QQ,dec_enc,dec_enc]
def IC:fb:=spN true true [tI,tI] (λx=>decide (okI x.1/\okI x.2.1)) (λx=>[RV.d aqw (cE (ae x.1) (ae x.2.1))])
theorem Eb:SpK 163 IC:=spX λx h=>Jc x.1 x.2.1 (anf h)
def H6:fb:=spN false true [tI,tI] (λx=>decide (okI x.1/\okI x.2.1)) (λx=>[RV.d tI (hid (ai (ae x.1*ae x.2.1)))])
theorem Fv:SpK 164 H6:=spX λx h=>by simp only[bL];exact Ka x.1 x.2.1 (anf h)
def aaK:List En:=[⟨163,IC,Eb⟩,⟨164,H6,Fv⟩,enL ZH]
def ZT(x:BI)(_k:KT):OLR:=og (decide (okI x)) (match(xd x)==0 with|true=>(og (decide (okI (hid (gO x))/\okI (hid (gO x)))) (og (decide (okI (hid (ai (ae (hid (gO x))*ae (hid (gO x)))))/\okI x)) (some [RV.d tI (hid (gO x)),RV.d .bool ((cE (ae (hid (ai (ae (hid (gO x))*ae (hid (gO x)))))) (ae x))==0)])))|false=>some [RV.d tI (hid (gO x)),RV.d .bool false])
def ait:Cn 318 [tI]:=cn λ(x:BI)=>lf (okI x) [.d tI (ai (bO (ae x))),.d .bool (decide (bO (ae x)*bO (ae x)=ae x))] λh=>by
 refine aB aaK (ZT x) ⟨0,?_⟩;have hs:=jJ h;have hz:szI (bO (ae x))<=500000:=KP hs;have o1:okI (ai (bO (ae x))):=aW (by omega);have o2:okI (ai (bO (ae x)*bO (ae x))):=aW (by have:=cY hz hz;omega);have o3:okI (ai (bO (ae x)*bO (ae x)))/\okI x:=⟨o2,h⟩
 have o4:okI (ai (bO (ae x)))/\okI (ai (bO (ae x))):=⟨o1,o1⟩
 have hng:x.1=true->decide (bO (ae x)*bO (ae x)=ae x)=false:=λe=>ane (by
  have:=(cN h).2.1 e;have hd:ae x= -val x.2:=by rw[bR,e];rfl
  rw[rl (by omega)];omega)
 unfold ZT;simp only[bL,Dq h,dec_enc,dT h,dT o4,dT o3,nU];unfold xd;cases e:x.1
 ·rfl
 ·rw[hng e];rfl
def ag5:List En:=enL ait::aaK
def Z9(a:BR)(_k:KT):OLR:=og (decide (okI a.1)) (match decide (bO (ae a.1)*bO (ae a.1)=ae a.1)with|true=>(og (decide (okI a.2)) (match decide (bO (ae a.2)*bO (ae a.2)=ae a.2)with|true=>some [RV.d tR (hid (ai (bO (ae a.1))),hid (ai (bO (ae a.2)))),RV.d .bool true]|false=>some [RV.d tR ((false,[]),(false,[])),RV.d .bool false]))|false=>some [RV.d tR ((false,[]),(false,[])),RV.d .bool false])
def Zo:Cn 282 [tR]:=cn λ(a:BR)=>lf (okR a) [.d tR (rtB (ah a)),.d .bool (gR (ah a))] λh=>by
 refine aB ag5 (Z9 a) ⟨0,?_⟩;obtain⟨a1,a2⟩:=cW h;unfold Z9 rtB gR;rw[dT h.1,dT h.2.1,a1,a2];simp only[bL];cases e1:decide (bO (ae a.1)*bO (ae a.1)=ae a.1)
 ·rfl
 ·cases e2:decide (bO (ae a.2)*bO (ae a.2)=ae a.2)
  ·rfl
  ·obtain⟨r1,r2,_⟩:=Ig (q:=ah a) (by unfold gR;rw[a1,a2,e1,e2];rfl);simp only[aoI,cond_true];unfold ao;rw[r1,r2,a1,a2];try rfl
def Nk:List En:=[enL Re,enL afg,enT MG]
def Tr(x:BI)(_k:KT):OLR:=og (decide (okI x)) (match(xd x)==0 with|true=>(og (decide (okI (hid (gO x))/\okI (hid (gO x)))) (og (decide (okI (hid (ai (ae (hid (gO x))*ae (hid (gO x)))))/\okI x)) (some [RV.d tI (hid (gO x)),RV.d .bool (decide (ae (hid (ai (ae (hid (gO x))*ae (hid (gO x)))))=ae x))])))|false=>some [RV.d tI (hid (gO x)),RV.d .bool false])
def aca:Cn 179 [tI]:=cn λ(x:BI)=>lf (okI x) [.d tI (ai (bO (ae x))),.d .bool (decide (bO (ae x)*bO (ae x)=ae x))] λh=>by
 refine aB Nk (Tr x) ⟨0,?_⟩;have hs:=jJ h;have hz:szI (bO (ae x))<=500000:=KP hs;have o1:okI (ai (bO (ae x))):=aW (by omega);have o2:okI (ai (bO (ae x)*bO (ae x))):=aW (by have:=cY hz hz;omega);have o3:okI (ai (bO (ae x)*bO (ae x)))/\okI x:=⟨o2,h⟩
 have o4:okI (ai (bO (ae x)))/\okI (ai (bO (ae x))):=⟨o1,o1⟩
 have hng:x.1=true->decide (bO (ae x)*bO (ae x)=ae x)=false:=λe=>ane (by
  have:=(cN h).2.1 e;have hd:ae x= -val x.2:=by rw[bR,e];rfl
  rw[rl (by omega)];omega)
 unfold Tr;simp only[bL,Dq h,dec_enc,dT h,dT o4,dT o3];unfold xd;cases e:x.1
 ·rfl
 ·rw[hng e];rfl
def adw:List En:=enL aca::Nk
def Rj(a:BR)(_k:KT):OLR:=og (decide (okI a.1)) (og (decide (okI a.2)) (match !(decide (bO (ae a.1)*bO (ae a.1)=ae a.1))with|true=>some [RV.d tR ((false,[]),(false,[])),RV.d .bool false]|false=>(match !(decide (bO (ae a.2)*bO (ae a.2)=ae a.2))with|true=>some [RV.d tR ((false,[]),(false,[])),RV.d .bool false]|false=>some [RV.d tR (hid (ai (bO (ae a.1))),hid (ai (bO (ae a.2)))),RV.d .bool true])))
def PT:Cn 81 [tR]:=cn λ(a:BR)=>lf (okR a) [.d tR (rtB (ah a)),.d .bool (gR (ah a))] λh=>by
 refine aB adw (Rj a) ⟨0,?_⟩;obtain⟨a1,a2⟩:=cW h;unfold Rj rtB gR;rw[dT h.1,dT h.2.1,a1,a2];simp only[bL];cases e1:decide (bO (ae a.1)*bO (ae a.1)=ae a.1)
 ·rfl
 ·cases e2:decide (bO (ae a.2)*bO (ae a.2)=ae a.2)
  ·rfl
  ·obtain⟨r1,r2,_⟩:=Ig (q:=ah a) (by unfold gR;rw[a1,a2,e1,e2];rfl);simp only[aoI,cond_true];unfold ao;rw[r1,r2,a1,a2];try rfl
def Sw:fb:=spN false true [tI,tI] (λx=>decide (ga x.1 x.2.1)) (λx=>[RV.d tI (hid (ai (ae x.1/ae x.2.1))),RV.d tI (hid (ai (ae x.1%ae x.2.1))),RV.d aqw 0])
theorem O6:SpK 302 Sw:=spX λx h=>by simp only[bL];exact J5 x.1 x.2.1 (anf h)
def afO:List En:=[⟨302,Sw,O6⟩]
def Yi(a:BR)(_k:KT):OLR:=og (decide (ga a.1 a.2)) (some [RV.d tI (hid (ai (ae a.1/ae a.2)))])
def Pw:Cn 327 [tR]:=cn λ(a:BR)=>lf (okR a) [.d tI (ai (ah a).floor)] λh=>by
 refine aB afO (Yi a) ⟨0,?_⟩;obtain⟨a1,a2⟩:=cW h;unfold Yi;rw[dT (show ga a.1 a.2 from⟨h.1,h.2.1,h.2.2.1⟩),Rat.floor_def,a1,a2];simp only[bL]
def YG:List En:=[enK yJ]
def VC:NT:=[((278,6),{keep:=[1,3],hl:=1})]
def C6:Ctx:=CX (ens YG) VC
def xO(x:BI)(s3:Int):Cfg:=⟨278,[.blk 0,.seq 23],[(1,.box 0 0),(3,SI s3)],[.box 29 [SB x.1,.d aqv x.2]],0,[]⟩
def aea(x:BI)(k:KT):OLR:=k 6 (xO x 0)
theorem aeY(x:BI):RS C6 278 [.d tI x] (aea x):=rsX
def ww(x:BI)(s3:Int)(k:KT):OLR:=match decide (s3<(x.2.length:Int))with|true=>(match aS x.2 s3 with|some x1=>(match decide (x1>=1000000000)with|true=>some [RV.d .bool false]|false=>k 6 (xO x (i64.wrap (s3+1))))|none=>none)|false=>(og (decide (aU x.2)) (match((ag (val x.2).toNat).length:Int)==(x.2.length:Int)with|true=>(match !x.1 with|true=>some [RV.d .bool true]|false=>some [RV.d .bool (decide ((x.2.length:Int)>0))])|false=>some [RV.d .bool false]))
theorem BU(x:BI)(s3:Int):RN C6 6 (xO x s3) (ww x s3):=rnX
theorem Le(x:BI)(h:okI x):∀(j i:Nat),i+j=x.2.length->C6.Runs 6 (xO x (i:Int)) [.d .bool true]:=by
 obtain⟨x0,x1,x2⟩:=cN h;have hlim:=gY h;have hl:=h.2.2;intro j;induction j with
 |zero=>
  intro i hi;refine BU _ _ ⟨0,?_⟩;unfold ww;have hc:ag (val x.2).toNat=x.2:=(ro h.1).symm;rw[b8 (by omega),dT hlim,hc,beq_self_eq_true];dsimp only;cases e:x.1
  ·rfl
  ·have:=x1 e;have:x.2≠[]:=λe=>by rw[x2]at e;omega
   have:=anW.2 this;rw[anb (by omega)];rfl
 |succ j ih=>
  intro i hi;have hil:i<x.2.length:=by omega
  obtain⟨q,hq⟩:=ih (i+1) (by omega);refine BU _ _ ⟨q,?_⟩;unfold ww;have hb:=(hlim.1 x.2[i] (anG hil)).2;rw[bH hil,aq,anc hil,bW (by omega)];dsimp only;rw[ane (by omega)];exact hq
def acj:Cn 278 [tI]:=cn λ(x:BI)=>lf (okI x) [.d .bool true] λh=>by
 refine dk YG (show C6.Res _ _ _ from ?_);obtain⟨q,hq⟩:=Le x h x.2.length 0 (by omega);exact aeY _ ⟨q,hq⟩
def akp:List En:=[enT MG,enT acj,enT Ot,enL S8,enL RQ]
def O9(a:BR)(_k:KT):OLR:=og (decide (okI a.1)) (og (decide (okI a.2)) (og (decide (okI a.2)) (match(cE (ae a.2) 0) !=1 with|true=>some [RV.d .bool false]|false=>(og (decide (okI a.1/\okI a.2)) (og (decide (okI (hid (ai ((Int.gcd (ae a.1) (ae a.2):Nat):Int)))/\okI (hid (ai 1)))) (some [RV.d .bool (decide (ae (hid (ai ((Int.gcd (ae a.1) (ae a.2):Nat):Int)))=ae (hid (ai 1))))]))))))
def acn:Cn 204 [tR]:=cn λ(a:BR)=>lf (okR a) [.d .bool true] λh=>by
 refine aB akp (O9 a) ⟨0,?_⟩;obtain⟨h1,h2,h3,h4,_⟩:=h;have o1:okI (ai ((Int.gcd (ae a.1) (ae a.2):Nat):Int)):=by rw[h4];exact rK
 unfold O9;simp only[bL];rw[dT h1,dT h2,dT (show okI a.1/\okI a.2 from⟨h1,h2⟩),cX h3,dT (show okI (ai ((Int.gcd (ae a.1) (ae a.2):Nat):Int))/\okI (ai 1) from⟨o1,rK⟩),dec_enc,dec_enc,h4];rfl
def mkR(a b c:Rat):Rt:=bif gR c then(a+b*rtQ c,0,0)else bif decide (b=0)then(a,0,0)else(a,b,c)
def coR(a b c:Rat):Rt:=bif decide (b=0)then(a,0,0)else(a,b,c)
class Nn (c:Rat):Prop where le:0<=c
def UR(x:Rt):Prop:=(x.2.1=0/\x.2.2=0)\/(x.2.1≠0/\0<x.2.2/\gR x.2.2=false)
instance (x:Rt):Decidable (UR x):=by unfold UR;infer_instance
class Rdd (x:Rt):Prop where
 rd:UR x
def okT(k:Nat)(x:BO3):Prop:=ok Rt k x/\UR (dec x)
instance (k:Nat) (x:BO3):Decidable (okT k x):=by unfold okT;infer_instance
theorem ii{k:Nat}{x:BO3}(h:okT k x):∃v:Rt,x=enc v/\Bd v k/\Rdd v:=by
 obtain⟨h1,h2⟩:=h;obtain⟨v,rfl,bv⟩:=aI h1;rw[aA]at h2;exact⟨v,rfl,bv,⟨h2⟩⟩
theorem aP{x:Rt}{j k:Nat}[h:Bd x j][r:Rdd x](hj:j<=k)(hk:k<=480000):decide (okT k (enc x))=true:=anb ⟨anf (okd hj hk),by rw[aA];exact r.rd⟩
theorem Rdd.nn{x:Rt}(h:Rdd x):0<=x.2.2:=by
 rcases h.rd with h|h<;>grind
instance amU {x:Rt} [h:Rdd x]:Nn x.2.2:=⟨h.nn⟩
theorem vu:gR 0=true:=by decide+kernel
theorem JM{c:Rat}(h:0<=c)(hc:gR c=false):0<c:=by
 rcases(by grind:c=0\/0<c)with h|h
 ·rw[h,vu]at hc;cases hc
 ·exact h
instance uQ {a b c:Rat} [h:Nn c]:Rdd (mkR a b c):=by
 refine⟨?_⟩;unfold mkR;cases hc:gR c
 ·simp only[cond_false];by_cases hb:b=0
  ·rw[anb hb];exact .inl ⟨rfl,rfl⟩
  ·rw[ane hb];exact .inr ⟨hb,JM h.le hc,hc⟩
 ·exact .inl ⟨rfl,rfl⟩
instance aft {a:Rat}:Rdd (a,0,0):=⟨.inl ⟨rfl,rfl⟩⟩
namespace RE
theorem Nt{c:Rat}(h:gR c=true):rq c=of (rtQ c):=by
 obtain⟨_,_,e,h0⟩:=Ig h;refine Ex _ _ (gS c) (gr.2 h0) ?_;rw[dE (by rw[<-e];exact anw h0 h0),<-aC,e]
theorem Ji:rq 0=0:=by
 have:=dE (aqm:(0:Rat)<=0);rcases cJ (gS 0)with h|h
 ·have:=mul_pos h h;rw[dE aqm]at this;exact absurd this (lt_irrefl _)
 ·exact h
theorem d7(a c:Rat):v2 a 0 c=of a:=by
 unfold v2;rw[pI,zero_mul,add_zero]
theorem vR_mk(a b c:Rat):vR (mkR a b c)=v2 a b c:=by
 unfold mkR vR;cases hc:gR c
 ·simp only[cond_false];by_cases hb:b=0
  ·rw[anb hb];subst hb;show v2 a 0 0=_;rw[d7,d7]
  ·rw[ane hb];rfl
 ·show v2 (a+b*rtQ c) 0 0=_;rw[d7];unfold v2;rw[Nt hc,of_add,aC]
theorem vR_co(a b c:Rat):vR (coR a b c)=v2 a b c:=by
 unfold coR vR;by_cases hb:b=0
 ·rw[anb hb];subst hb;show v2 a 0 0=_;rw[d7,d7]
 ·rw[ane hb];rfl
end RE
theorem Xq{z:Int}(h:0<=z):bO z<=z:=by
 obtain⟨g0,g1,g2⟩:=ic h;rcases anL (bO z) 1 with h'|h'
 ·omega
 ·have:bO z*1<=bO z*bO z:=ank h' g0;omega
theorem FI(z:Int):szI (bO z)<=szI z:=by
 have h0:=B6 z;rcases anL z 0 with h|h
 ·rw[rl h];exact dP (by omega)
 ·have:=Xq h;exact dP (by omega)
instance amW {c:Rat} {k:Nat} [h:Bd c k]:Bd (rtQ c) k:=by
 have hd:=c.den_pos
 have h1:0<bO (c.den:Int):=by
  obtain⟨g0,g1,g2⟩:=ic (show(0:Int)<=(c.den:Int) by omega);rcases anL 0 (bO (c.den:Int))with h|h
  ·exact h
  ·rw[show bO (c.den:Int)=0 by omega]at g2;omega
 refine⟨wD (by omega) (anq (FI _) h.le.1) ?_⟩;rw[Int.toNat_of_nonneg (by omega)];exact anq (FI _) h.le.2
instance akV {a b c:Rat} {i j k:Nat} [ha:Bd a i] [hb:Bd b j] [hc:Bd c k]:Bd (mkR a b c) (i+(j+k)+1):=by
 have z:bdR (i+(j+k)+1) 0:=bK mM.le (by omega);refine⟨?_⟩;unfold mkR;cases gR c
 ·simp only[cond_false];cases decide (b=0)
  ·exact⟨bK ha.le (by omega),bK hb.le (by omega),bK hc.le (by omega)⟩
  ·exact⟨bK ha.le (by omega),z,z⟩
 ·exact⟨(inferInstance:Bd (a+b*rtQ c) (i+(j+k)+1)).le,z,z⟩
instance akY {a b c:Rat} {i j k:Nat} [ha:Bd a i] [hb:Bd b j] [hc:Bd c k]:Bd (coR a b c) (mx i (mx j k)):=by
 have h1:=CL i (mx j k);have h2:=C4 i (mx j k);have h3:=CL j k;have h4:=C4 j k;have h5:=pj ha.le;have z:bdR (mx i (mx j k)) 0:=bK mM.le (by omega);refine⟨?_⟩;unfold coR;cases decide (b=0)
 ·exact⟨bK ha.le (by omega),bK hb.le (by omega),bK hc.le (by omega)⟩
 ·exact⟨bK ha.le (by omega),z,z⟩
class Ns (c:Rat):Prop where ns:c=0\/(0<c/\gR c=false)
theorem Ns.nn{c:Rat}(h:Ns c):0<=c:=by rcases h.ns with h|h<;>grind
instance amY {c:Rat} [h:Ns c]:Nn c:=⟨h.nn⟩
theorem acQ{a b c:Rat}{i j k:Nat}[ha:Bd a i][hb:Bd b j][hc:Bd c k][hn:Ns c]:Bd (mkR a b c) (mx (i+j+2) k):=by
 have h1:=CL (i+j+2) k;have h2:=C4 (i+j+2) k;have z:bdR (mx (i+j+2) k) 0:=bK mM.le (by omega);refine⟨?_⟩;unfold mkR;rcases hn.ns with h|h
 ·subst h;rw[vu];have e:rtQ 0=0:=by decide+kernel
  exact⟨by show bdR _ (a+b*rtQ 0);rw[e];exact bK (DG ha.le (Cc hb.le mM.le)) (by omega),z,z⟩
 ·rw[h.2];simp only[cond_false];cases decide (b=0)
  ·exact⟨bK ha.le (by omega),bK hb.le (by omega),bK hc.le (by omega)⟩
  ·exact⟨bK ha.le (by omega),z,z⟩
def sgR(x:Rt):Int:=iy x.1 x.2.1 x.2.2
def noR(x:Rt):Rat:=x.1*x.1-x.2.1*x.2.1*x.2.2
theorem Il{x:Rt}(h:0<=x.2.2):sgR x=RE.sg (RE.vR x):=RE.sgn2_re h
def oB(a b c:Rat):Rt:=bif decide (b=0)then(a,0,0)else bif decide (c=0)then(a,0,0)else(a,b,c)
instance alM {x:Rt} {k:Nat} [h:Bd x k]:Bd (noR x) (5*k+1):=(inferInstance:Bd (x.1*x.1-x.2.1*x.2.1*x.2.2) (k+k+(k+k+k)+1)).mono (by omega)
theorem Px{c:Rat}(h:gR c=true):rtB c=ao (rtQ c):=by unfold rtB;rw[h];rfl
theorem adA{x:Rt}(h:Rdd x)(hb:x.2.1≠0):noR x≠0:=by
 intro e;rcases h.rd with h|⟨_,h1,h2⟩
 ·exact hb h.1
 ·unfold noR at e;have:x.2.2=x.1/x.2.1*(x.1/x.2.1):=by grind
  rw[this,V5]at h2;cases h2
theorem Zy{x:Rt}(h:Rdd x):sgR x=bif aF x.2.1 0==0 then aF x.1 0 else bif aF x.1 0==aF x.2.1 0 then aF x.1 0 else bif aF x.1 0==0 then aF x.2.1 0 else aF x.1 0*aF (noR x) 0:=by
 unfold sgR iy RE.addS;rcases h.rd with⟨h1,h2⟩|⟨h0,h1,h2⟩
 ·rw[h1,eU];simp
 ·have hb:(aF x.2.1 0==0)=false:=by rw[au,ane h0]
  rw[dG h1,apw,hb];unfold noR;rw[vf];rfl
def RF:List En:=[⟨125,jn,fO⟩,⟨132,jR,gb⟩,⟨65,jx,fM⟩,⟨67,iV,fA⟩,⟨54,gK,eH⟩,enL Zo]
def Zg(_k:KT):OLR:=og (decide (aJ (0:Int))) (some [RV.d tR (hid (ao ((0:Int):Rat)))])
def afL:Cn 286 []:=cn<|lf True [.d tR (ao 0)] λ_=>by
 refine aB RF (Zg) ⟨0,?_⟩;unfold Zg;rw[dT (show aJ 0 by decide)];simp only[bL];rfl
def RT:List En:=enL afL::RF
def aaO(a:BR)(_k:KT):OLR:=some [RV.d tO (a,(hid (ao 0),hid (ao 0)))]
def Bf:Cn 221 [tR]:=cn λ(a:BR)=>lf (okR a) [.d tO (enc ((ah a,0,0):Rt))] λh=>by
 refine aB RT (aaO a) ⟨0,?_⟩;have ha:=h;obtain⟨a,rfl,ba⟩:=fL ha;unfold aaO;simp only[aX,aH];try rfl
def aaG(a b c:BR)(_k:KT):OLR:=og (o1 b) (match(aF (ah b) 0)==0 with|true=>some [RV.d tO (a,(b,hid (ao 0)))]|false=>some [RV.d tO (a,(b,c))])
def ahx:Cn 285 [tR,tR,tR]:=cn λ(a b c:BR)=>lf (okR a/\okR b/\okR c) [.d tO (enc (coR (ah a) (ah b) (ah c)))] λh=>by
 refine aB RT (aaG a b c) ⟨0,?_⟩;obtain⟨ha,hb,hc⟩:=h;obtain⟨a,rfl,ba⟩:=fL ha;obtain⟨b,rfl,bb⟩:=fL hb;obtain⟨c,rfl,bc⟩:=fL hc;unfold aaG;simp only[aX,Nat.reduceLeDiff,au];unfold coR;by_cases e:b=0
 ·subst e;rw[anb rfl];rfl
 ·rw[ane e];rfl
def agl:List En:=enL Bf::enL ahx::RT
def aa6(a b c:BR)(_k:KT):OLR:=og (o1 c) (match decide ((aF (ah c) 0)<0)with|true=>some [RV.d tO (((false,[]),(false,[])),(((false,[]),(false,[])),((false,[]),(false,[])))),RV.d aqw 7]|false=>(og (o1 c) (match gR (ah c)with|true=>(og (o2 b (hid (rtB (ah c)))) (og (o2 a (hMu b (hid (rtB (ah c))))) (og (o1 (hAd a (hMu b (hid (rtB (ah c)))))) (some [RV.d tO (hid (enc ((ah (hAd a (hMu b (hid (rtB (ah c))))),0,0):Rt))),RV.d aqw 0]))))|false=>(og (decide (okR a/\okR b/\okR c)) (some [RV.d tO (hid (enc (coR (ah a) (ah b) (ah c)))),RV.d aqw 0])))))
def abM:Cn 220 [tR,tR,tR]:=cn λ(a b c:BR)=>lf (ok Rat 100000 a/\ok Rat 100000 b/\ok Rat 100000 c/\0<=ah c) [.d tO (enc (mkR (ah a) (ah b) (ah c))),.d aqw 0] λh=>by
 refine aB agl (aa6 a b c) ⟨0,?_⟩;obtain⟨ha,hb,hc,hc_3⟩:=h;obtain⟨a,rfl,ba⟩:=aI ha;obtain⟨b,rfl,bb⟩:=aI hb;obtain⟨c,rfl,bc⟩:=aI hc;rw[fk,cC]at hc_3;unfold aa6;simp only[aX,aH,Nat.reduceLeDiff,av,ane (show ¬c<0 by grind)];unfold mkR;cases hq:gR c
 ·have hz:c≠0:=λe=>by rw[e,vu]at hq;cases hq
  simp only[aX];try rfl
 ·rw[Px hq];simp only[aX,aH,Nat.reduceAdd,Nat.reduceLeDiff];try rfl
def Pz:List En:=[enL qy,enL ti,enL wE,enL sZ,enT qZ,enL PT,enT acn]
def TU(_k:KT):OLR:=og (decide (aJ (0:Int))) (some [RV.d tR (hid (ao ((0:Int):Rat)))])
def Sr:Cn 180 []:=cn<|lf True [.d tR (ao 0)] λ_=>by
 refine aB Pz (TU) ⟨0,?_⟩;unfold TU;rw[dT (show aJ 0 by decide)];simp only[bL];rfl
def TV:List En:=enL Sr::Pz
def SO(a:BR)(_k:KT):OLR:=some [RV.d tO (a,(hid (ao 0),hid (ao 0)))]
def Pv:Cn 82 [tR]:=cn λ(a:BR)=>lf (okR a) [.d tO (enc ((ah a,0,0):Rt))] λh=>by
 refine aB TV (SO a) ⟨0,?_⟩;have ha:=h;obtain⟨a,rfl,ba⟩:=fL ha;unfold SO;simp only[aX,aH];try rfl
def Nx:List En:=enL Pv::TV
def OF(a b c:BR)(_k:KT):OLR:=og (o1 b) (match(aF (ah b) 0)==0 with|true=>(og (o1 a) (some [RV.d tO (hid (enc ((ah a,0,0):Rt)))]))|false=>(og (o1 c) (match(aF (ah c) 0)==0 with|true=>(og (o1 a) (some [RV.d tO (hid (enc ((ah a,0,0):Rt)))]))|false=>some [RV.d tO (a,(b,c))])))
def Qf:Cn 84 [tR,tR,tR]:=cn λ(a b c:BR)=>lf (okR a/\okR b/\okR c) [.d tO (enc (oB (ah a) (ah b) (ah c)))] λh=>by
 refine aB Nx (OF a b c) ⟨0,?_⟩;obtain⟨ha,hb,hc⟩:=h;obtain⟨a,rfl,ba⟩:=fL ha;obtain⟨b,rfl,bb⟩:=fL hb;obtain⟨c,rfl,bc⟩:=fL hc;unfold OF;simp only[aX,aH,Nat.reduceLeDiff,au];unfold oB;by_cases e:b=0
 ·rw[anb e];rfl
 ·rw[ane e];by_cases e:c=0
  ·rw[anb e];rfl
  ·rw[ane e];rfl
def ac9:List En:=enL Qf::Nx
def Nu(a b c:BR)(_k:KT):OLR:=og (o1 c) (match decide ((aF (ah c) 0)<0)with|true=>some [RV.d tO (((false,[]),(false,[])),(((false,[]),(false,[])),((false,[]),(false,[])))),RV.d aqw 7]|false=>(og (o1 c) (match gR (ah c)with|true=>(og (o2 b (hid (rtB (ah c)))) (og (o2 a (hMu b (hid (rtB (ah c))))) (og (o1 (hAd a (hMu b (hid (rtB (ah c)))))) (some [RV.d tO (hid (enc ((ah (hAd a (hMu b (hid (rtB (ah c))))),0,0):Rt))),RV.d aqw 0]))))|false=>(og (decide (okR a/\okR b/\okR c)) (some [RV.d tO (hid (enc (oB (ah a) (ah b) (ah c)))),RV.d aqw 0])))))
def acd:Cn 26 [tR,tR,tR]:=cn λ(a b c:BR)=>lf (ok Rat 100000 a/\ok Rat 100000 b/\ok Rat 100000 c/\0<=ah c) [.d tO (enc (mkR (ah a) (ah b) (ah c))),.d aqw 0] λh=>by
 refine aB ac9 (Nu a b c) ⟨0,?_⟩;obtain⟨ha,hb,hc,hc_3⟩:=h;obtain⟨a,rfl,ba⟩:=aI ha;obtain⟨b,rfl,bb⟩:=aI hb;obtain⟨c,rfl,bc⟩:=aI hc;rw[fk,cC]at hc_3;unfold Nu;simp only[aX,aH,Nat.reduceLeDiff,av,ane (show ¬c<0 by grind)];unfold mkR;cases hq:gR c
 ·have hz:c≠0:=λe=>by rw[e,vu]at hq;cases hq
  simp only[aX,oB,ane hz];try rfl
 ·rw[Px hq];simp only[aX,aH,Nat.reduceAdd,Nat.reduceLeDiff];try rfl
def aaM(r:BO3)(_k:KT):OLR:=og (o2 r.1 r.1) (og (o2 r.2.1 r.2.1) (og (o2 (hMu r.2.1 r.2.1) r.2.2) (og (o2 (hMu r.1 r.1) (hMu (hMu r.2.1 r.2.1) r.2.2)) (some [RV.d tR (hSu (hMu r.1 r.1) (hMu (hMu r.2.1 r.2.1) r.2.2))]))))
def aj7:Cn 225 [tO]:=cn λ(r:BO3)=>lf (ok Rt 15000 r) [.d tR (ao (noR (dec r)))] λh=>by
 refine aB RF (aaM r) ⟨0,?_⟩;have hr:=h;obtain⟨r,rfl,br⟩:=aI hr;unfold aaM;simp only[aX,Nat.reduceAdd,Nat.reduceLeDiff];try rfl
abbrev Iv:=Int×Int
def prI(i:Iv):Prop:= -2305843009213693952<=i.1/\i.1<=i.2/\i.2<=2305843009213693952
instance (i:Iv):Decidable (prI i):=by unfold prI;infer_instance
def iv0:Iv:=(0,0)
theorem gE:prI iv0:=by decide
def qs(lo hi:Int):Iv×Bool:=bif decide (lo< -2305843009213693952)then(iv0,false)else bif decide (hi>2305843009213693952)then(iv0,false)else((lo,hi),true)
theorem B7{lo hi:Int}(h:lo<=hi):prI (qs lo hi).1:=by
 unfold qs;by_cases h1:lo< -2305843009213693952
 ·rw[anb h1];exact gE
 ·rw[ane h1];by_cases h2:hi>2305843009213693952
  ·rw[anb h2];exact gE
  ·rw[ane h2];exact⟨by show _<=lo;omega,h,by show hi<=_;omega⟩
theorem Ct{lo hi:Int}(h:(qs lo hi).2=true):(qs lo hi).1=(lo,hi):=by
 unfold qs at h ⊢;by_cases h1:lo< -2305843009213693952
 ·rw[anb h1]at h;cases h
 ·rw[ane h1]at h ⊢;by_cases h2:hi>2305843009213693952
  ·rw[anb h2]at h;cases h
  ·rw[ane h2];rfl
def frF(q:Rat):Iv×Bool:=bif decide (aJ (q*65536).floor)then bif decide (aJ (-(-(q*65536)).floor))then qs (q*65536).floor (-(-(q*65536)).floor)else(iv0,false)else(iv0,false)
def dY(a b:Iv):Iv×Bool:=qs (a.1+b.1) (a.2+b.2)
def ot(a:Iv):Iv:=(-a.2,-a.1)
def scF(x y:Int):(Int×Int)×Bool:=
 bif decide (x.natAbs*y.natAbs>=1208925819614629174706176)then((0,0),false)else bif decide (x.natAbs*y.natAbs/65536>2305843009213693952)then((0,0),false)
 else bif decide (x<0)==decide (y<0)then((((x.natAbs*y.natAbs/65536:Nat):Int),(((x.natAbs*y.natAbs+65535)/65536:Nat):Int)),decide ((x.natAbs*y.natAbs+65535)/65536<=2305843009213693952))
 else((-(((x.natAbs*y.natAbs+65535)/65536:Nat):Int),-((x.natAbs*y.natAbs/65536:Nat):Int)),decide ((x.natAbs*y.natAbs+65535)/65536<=2305843009213693952))
theorem aem{x y:Int}(h:(scF x y).2=true):(scF x y).1.1*65536<=x*y/\x*y<=(scF x y).1.2*65536/\ -2305843009213693952<=(scF x y).1.1/\(scF x y).1.2<=2305843009213693952:=by
 have ep:(((x.natAbs*y.natAbs:Nat)):Int)=(x.natAbs:Int)*(y.natAbs:Int):=aoH _ _
 have hs:(decide (x<0)==decide (y<0))=true->x*y=(((x.natAbs*y.natAbs:Nat)):Int):=λe=>by
  rw[ep];by_cases hx:x<0<;>by_cases hy:y<0
  ·rw[show(x.natAbs:Int)= -x by omega,show(y.natAbs:Int)= -y by omega];grind
  ·simp[hx,hy]at e
  ·simp[hx,hy]at e
  ·rw[show(x.natAbs:Int)=x by omega,show(y.natAbs:Int)=y by omega]
 have hd:(decide (x<0)==decide (y<0))=false->x*y= -(((x.natAbs*y.natAbs:Nat)):Int):=λe=>by
  rw[ep];by_cases hx:x<0<;>by_cases hy:y<0
  ·simp[hx,hy]at e
  ·rw[show(x.natAbs:Int)= -x by omega,show(y.natAbs:Int)=y by omega];grind
  ·rw[show(x.natAbs:Int)=x by omega,show(y.natAbs:Int)= -y by omega];grind
  ·simp[hx,hy]at e
 unfold scF at h ⊢;generalize x.natAbs*y.natAbs=p at*
 by_cases h1:p>=1208925819614629174706176
 ·rw[anb h1]at h;cases h
 rw[ane h1]at h ⊢;by_cases h2:p/65536>2305843009213693952
 ·rw[anb h2]at h;cases h
 rw[ane h2]at h ⊢;cases e:(decide (x<0)==decide (y<0))<;>rw[e]at h<;>have h3:=anf h
 ·rw[hd e];show-(((p+65535)/65536:Nat):Int)*65536<=_/\_<= -((p/65536:Nat):Int)*65536/\_<= -(((p+65535)/65536:Nat):Int)/\ -((p/65536:Nat):Int)<=_;omega
 ·rw[hs e];show((p/65536:Nat):Int)*65536<=_/\_<=(((p+65535)/65536:Nat):Int)*65536/\_<=((p/65536:Nat):Int)/\(((p+65535)/65536:Nat):Int)<=_;omega
def jp(s:Iv×Bool)(x y:Int):Iv×Bool:=bif s.2&&(scF x y).2 then((if(scF x y).1.1<s.1.1 then(scF x y).1.1 else s.1.1,if(scF x y).1.2>s.1.2 then(scF x y).1.2 else s.1.2),true)else(iv0,false)
def cO(a b:Iv):Iv×Bool:=jp (jp (jp (jp ((2305843009213693952,-2305843009213693952),true) a.1 b.1) a.1 b.2) a.2 b.1) a.2 b.2
theorem mK{s:Iv×Bool}{x y:Int}(h:(jp s x y).2=true):s.2=true/\(jp s x y).1.1<=s.1.1/\s.1.2<=(jp s x y).1.2/\(jp s x y).1.1*65536<=x*y/\x*y<=(jp s x y).1.2*65536/\((-2305843009213693952<=s.1.1/\s.1.2<=2305843009213693952)-> -2305843009213693952<=(jp s x y).1.1/\(jp s x y).1.2<=2305843009213693952):=by
 unfold jp at h ⊢;cases e:(s.2&&(scF x y).2)<;>rw[e]at h
 ·cases h
 ·obtain⟨e1,e2⟩:=anm.1 e;obtain⟨g1,g2,g3,g4⟩:=aem e2;refine⟨e1,?_⟩;simp only[cond_true];split<;>split<;>refine⟨by omega,by omega,by omega,by omega,λh=>by omega⟩
theorem uK(a b:Iv):prI (cO a b).1:=by
 cases h:(cO a b).2
 ·unfold cO jp at h ⊢;revert h;cases((_:Iv×Bool).2&&(scF a.2 b.2).2)
  ·intro _;exact gE
  ·intro h;cases h
 ·unfold cO at h ⊢;obtain⟨h3,a3,b3,c3,d3,e3⟩:=mK h;obtain⟨h2,a2,b2,c2,d2,e2⟩:=mK h3;obtain⟨h1,a1,b1,c1,d1,e1⟩:=mK h2;obtain⟨h0,a0,b0,c0,d0,e0⟩:=mK h1;have k:=e3 (e2 (e1 (e0 (by decide))));exact⟨k.1,by omega,k.2⟩
theorem UW{a b:Iv}(h:(cO a b).2=true):∀x y,(x=a.1\/x=a.2)->(y=b.1\/y=b.2)->(cO a b).1.1*65536<=x*y/\x*y<=(cO a b).1.2*65536:=by
 unfold cO at h ⊢;obtain⟨h3,a3,b3,c3,d3,e3⟩:=mK h;obtain⟨h2,a2,b2,c2,d2,e2⟩:=mK h3;obtain⟨h1,a1,b1,c1,d1,e1⟩:=mK h2;obtain⟨h0,a0,b0,c0,d0,e0⟩:=mK h1;intro x y hx hy;rcases hx with rfl|rfl<;>rcases hy with rfl|rfl<;>constructor<;>omega
def fo(n:Int):Int:=bO (n*65536)
def sqF(a:Iv):Iv×Bool:=bif decide (a.2<0)then(iv0,false)else qs (fo (if 0>a.1 then 0 else a.1)) (bif decide (fo a.2*fo a.2=a.2*65536)then fo a.2 else fo a.2+1)
def sgF(a:Iv):Int×Bool:=bif decide (a.1>0)then(1,true)else bif decide (a.2<0)then(-1,true)else(0,decide (a.1=0)&&decide (a.2=0))
namespace RE
def inI(i:Iv)(x:RE):Prop:=of (i.1:Rat)<=of 65536*x/\of 65536*x<=of (i.2:Rat)
theorem WJ(a b u x y:RE)(h1:a<=u*x)(h2:b<=u*y):a+b<=u*(x+y):=by grind
theorem Wa(a b u x y:RE)(h1:u*x<=a)(h2:u*y<=b):u*(x+y)<=a+b:=by grind
theorem Va(a u x:RE)(h1:u*x<=a): -a<=u*(-x):=by grind
theorem Xr(a u x:RE)(h1:a<=u*x):u*(-x)<= -a:=by grind
theorem Wv(a c U V m:RE):((m-(U*V)))+((a*c-(m)))+((V-(0))*(U-(a)))+((a-(0))*(V-(c)))=0:=by grind
theorem aks(a c U V m:RE)(h1:0<=V)(h2:0<=a)(h3:a<=U)(h4:c<=V)(h5:m<=a*c):m<=U*V:=λhg=>far (aK (aK (aK (aL hg) (aG h5)) (aD (aG h1) (aG h3))) (aD (aG h2) (aG h4))) (Wv a c U V m)
theorem Wg(a d U V m:RE):((m-(U*V)))+((a*d-(m)))+((V-(0))*(U-(a)))+((0-(a))*(d-(V)))=0:=by grind
theorem air(a d U V m:RE)(h1:0<=V)(h2:a<=0)(h3:a<=U)(h4:V<=d)(h5:m<=a*d):m<=U*V:=λhg=>far (aK (aK (aK (aL hg) (aG h5)) (aD (aG h1) (aG h3))) (aD (aG h2) (aG h4))) (Wg a d U V m)
theorem Xv(b c U V m:RE):((m-(U*V)))+((b*c-(m)))+((0-(V))*(b-(U)))+((b-(0))*(V-(c)))=0:=by grind
theorem ako(b c U V m:RE)(h1:V<=0)(h2:0<=b)(h3:U<=b)(h4:c<=V)(h5:m<=b*c):m<=U*V:=λhg=>far (aK (aK (aK (aL hg) (aG h5)) (aD (aG h1) (aG h3))) (aD (aG h2) (aG h4))) (Xv b c U V m)
theorem Us(b d U V m:RE):((m-(U*V)))+((b*d-(m)))+((0-(V))*(b-(U)))+((0-(b))*(d-(V)))=0:=by grind
theorem ajB(b d U V m:RE)(h1:V<=0)(h2:b<=0)(h3:U<=b)(h4:V<=d)(h5:m<=b*d):m<=U*V:=λhg=>far (aK (aK (aK (aL hg) (aG h5)) (aD (aG h1) (aG h3))) (aD (aG h2) (aG h4))) (Us b d U V m)
theorem W7(b d U V m:RE):((U*V-(m)))+((m-(b*d)))+((V-(0))*(b-(U)))+((b-(0))*(d-(V)))=0:=by grind
theorem agB(b d U V m:RE)(h1:0<=V)(h2:0<=b)(h3:U<=b)(h4:V<=d)(h5:b*d<=m):U*V<=m:=λhg=>far (aK (aK (aK (aL hg) (aG h5)) (aD (aG h1) (aG h3))) (aD (aG h2) (aG h4))) (W7 b d U V m)
theorem UZ(b c U V m:RE):((U*V-(m)))+((m-(b*c)))+((V-(0))*(b-(U)))+((0-(b))*(V-(c)))=0:=by grind
theorem ajf(b c U V m:RE)(h1:0<=V)(h2:b<=0)(h3:U<=b)(h4:c<=V)(h5:b*c<=m):U*V<=m:=λhg=>far (aK (aK (aK (aL hg) (aG h5)) (aD (aG h1) (aG h3))) (aD (aG h2) (aG h4))) (UZ b c U V m)
theorem Wl(a d U V m:RE):((U*V-(m)))+((m-(a*d)))+((0-(V))*(U-(a)))+((a-(0))*(d-(V)))=0:=by grind
theorem akv(a d U V m:RE)(h1:V<=0)(h2:0<=a)(h3:a<=U)(h4:V<=d)(h5:a*d<=m):U*V<=m:=λhg=>far (aK (aK (aK (aL hg) (aG h5)) (aD (aG h1) (aG h3))) (aD (aG h2) (aG h4))) (Wl a d U V m)
theorem UL(a c U V m:RE):((U*V-(m)))+((m-(a*c)))+((0-(V))*(U-(a)))+((0-(a))*(V-(c)))=0:=by grind
theorem ake(a c U V m:RE)(h1:V<=0)(h2:a<=0)(h3:a<=U)(h4:c<=V)(h5:a*c<=m):U*V<=m:=λhg=>far (aK (aK (aK (aL hg) (aG h5)) (aD (aG h1) (aG h3))) (aD (aG h2) (aG h4))) (UL a c U V m)
theorem afv(u x y:RE):u*x*(u*y)=u*(x*y)*u:=by grind
theorem Wj(a b u:RE):((u-(0))*(a-(b)))+((b*u-(a*u)))=0:=by grind
theorem aby(a b u:RE)(h1:0<u)(h2:a*u<=b*u):a<=b:=λhg=>far (aK (mul_pos (aL h1) (aL hg)) (aG h2)) (Wj a b u)
theorem qi:0<of 65536:=fS (by decide+kernel)
end RE
namespace RE
theorem ob{a b:Int}(h:a<=b):of (a:Rat)<=of (b:Rat):=gr.2 (apC.2 h)
theorem jl{q:Rat}(h:(frF q).2=true):inI (frF q).1 (of q):=by
 have f1:((q*65536).floor:Rat)<=q*65536:=Rat.floor_le _;have f2:((-(q*65536)).floor:Rat)<= -(q*65536):=Rat.floor_le _;unfold frF at h ⊢;cases e1:decide (aJ (q*65536).floor)
 ·rw[e1]at h;cases h
 ·cases e2:decide (aJ (-(-(q*65536)).floor))
  ·rw[e1,e2]at h;cases h
  ·rw[e1,e2]at h;simp only[cond_true]at h ⊢;rw[Ct h];refine⟨?_,?_⟩
   ·rw[<-aC];exact gr.2 (by show(((q*65536).floor:Int):Rat)<=_;grind)
   ·rw[<-aC];exact gr.2 (by show _<=((-(-(q*65536)).floor:Int):Rat);rw[apU];grind)
theorem frF_pr(q:Rat):prI (frF q).1:=by
 have f1:((q*65536).floor:Rat)<=q*65536:=Rat.floor_le _;have f2:((-(q*65536)).floor:Rat)<= -(q*65536):=Rat.floor_le _
 have f3:(q*65536).floor<= -(-(q*65536)).floor:=by
  refine apC.1 ?_;rw[apU];grind
 unfold frF;cases decide (aJ (q*65536).floor)
 ·exact gE
 ·cases decide (aJ (-(-(q*65536)).floor))
  ·exact gE
  ·exact B7 f3
theorem kX{a b:Iv}{x y:RE}(ha:inI a x)(hb:inI b y)(h:(dY a b).2=true):inI (dY a b).1 (x+y):=by
 unfold dY at h ⊢;rw[Ct h];refine⟨?_,?_⟩
 ·show of ((a.1+b.1:Int):Rat)<=_;rw[Rat.intCast_add,of_add];exact WJ _ _ _ _ _ ha.1 hb.1
 ·show _<=of ((a.2+b.2:Int):Rat);rw[Rat.intCast_add,of_add];exact Wa _ _ _ _ _ ha.2 hb.2
theorem addF_pr{a b:Iv}(ha:prI a)(hb:prI b):prI (dY a b).1:=B7 (by have:=ha.2.1;have:=hb.2.1;omega)
theorem DM{a:Iv}{x:RE}(ha:inI a x):inI (ot a) (-x):=by
 refine⟨?_,?_⟩
 ·show of ((-a.2:Int):Rat)<=_;rw[apU,of_neg];exact Va _ _ _ ha.2
 ·show _<=of ((-a.1:Int):Rat);rw[apU,of_neg];exact Xr _ _ _ ha.1
theorem negF_pr{a:Iv}(ha:prI a):prI (ot a):=⟨by show _<= -a.2;have:=ha.2.2;omega,by show-a.2<= -a.1;have:=ha.2.1;omega,by show-a.1<=_;have:=ha.1;omega⟩
theorem mY{a b:Iv}{x y:RE}(ha:inI a x)(hb:inI b y)(h:(cO a b).2=true):inI (cO a b).1 (x*y):=by
 have hc:=UW h;have c1:=hc a.1 b.1 (.inl rfl) (.inl rfl);have c2:=hc a.1 b.2 (.inl rfl) (.inr rfl);have c3:=hc a.2 b.1 (.inr rfl) (.inl rfl);have c4:=hc a.2 b.2 (.inr rfl) (.inr rfl);generalize (cO a b).1=m at*
 have up:∀{p q r:Int},p*65536<=q*r->of (p:Rat)*of 65536<=of (q:Rat)*of (r:Rat):=λ{p q r} h=>by
  have:=ob h;rw[apd,apd,aC,aC]at this;exact this
 have dn:∀{p q r:Int},q*r<=p*65536->of (q:Rat)*of (r:Rat)<=of (p:Rat)*of 65536:=λ{p q r} h=>by
  have:=ob h;rw[apd,apd,aC,aC]at this;exact this
 obtain⟨a1,a2⟩:=ha;obtain⟨b1,b2⟩:=hb
 have l:of (m.1:Rat)*of 65536<=of 65536*x*(of 65536*y):=by
  rcases lt_or_ge (of 65536*y) 0 with v|v
  ·rcases lt_or_ge (of (a.2:Rat)) 0 with s|s
   ·exact ajB _ _ _ _ _ (le_of_lt v) (le_of_lt s) a2 b2 (up c4.1)
   ·exact ako _ _ _ _ _ (le_of_lt v) s a2 b1 (up c3.1)
  ·rcases lt_or_ge (of (a.1:Rat)) 0 with s|s
   ·exact air _ _ _ _ _ v (le_of_lt s) a1 b2 (up c2.1)
   ·exact aks _ _ _ _ _ v s a1 b1 (up c1.1)
 have u:of 65536*x*(of 65536*y)<=of (m.2:Rat)*of 65536:=by
  rcases lt_or_ge (of 65536*y) 0 with v|v
  ·rcases lt_or_ge (of (a.1:Rat)) 0 with s|s
   ·exact ake _ _ _ _ _ (le_of_lt v) (le_of_lt s) a1 b1 (dn c1.2)
   ·exact akv _ _ _ _ _ (le_of_lt v) s a1 b2 (dn c2.2)
  ·rcases lt_or_ge (of (a.2:Rat)) 0 with s|s
   ·exact ajf _ _ _ _ _ v (le_of_lt s) a2 b1 (dn c3.2)
   ·exact agB _ _ _ _ _ v s a2 b2 (dn c4.2)
 rw[afv]at l u;exact⟨aby _ _ _ qi l,aby _ _ _ qi u⟩
theorem ajT(u s:RE):u*s*(u*s)=u*(s*s)*u:=by grind
theorem TB(r a u x:RE):((r-(u*x*u)))+((a*u-(r)))+((u*x-(a))*(u-(0)))=0:=by grind
theorem ad6(r a u x:RE)(h1:r<=a*u)(h2:a<=u*x)(h3:0<u):r<=u*x*u:=λhg=>far (aK (aK (aL hg) (aG h1)) (aD (aG h2) (le_of_lt (aL h3)))) (TB r a u x)
theorem Nz(r a u x:RE):((u*x*u-(r)))+((r-(a*u)))+((a-(u*x))*(u-(0)))=0:=by grind
theorem Sv(r a u x:RE)(h1:a*u<=r)(h2:u*x<=a)(h3:0<u):u*x*u<=r:=λhg=>far (aK (aK (aL hg) (aG h1)) (aD (aG h2) (le_of_lt (aL h3)))) (Nz r a u x)
theorem sqF_pr{a:Iv}(ha:prI a):prI (sqF a).1:=by
 unfold sqF;by_cases h:a.2<0
 ·rw[anb h];exact gE
 ·rw[ane h];simp only[cond_false];refine B7 ?_;have h1:(if 0>a.1 then 0 else a.1)<=a.2:=by have:=ha.2.1;split<;>omega
  have h0:0<=(if 0>a.1 then 0 else a.1):=by split<;>omega
  have hm:fo (if 0>a.1 then 0 else a.1)<=fo a.2:=by
   unfold fo;obtain⟨_,g1,_⟩:=ic (z:=(if 0>a.1 then 0 else a.1)*65536) (by omega);obtain⟨g0,_,g2⟩:=ic (z:=a.2*65536) (by omega);have:=Go.Proofs.YtagbmoohboleaaaGreat.sq_lt (a:=bO ((if 0>a.1 then 0 else a.1)*65536)) (b:=bO (a.2*65536)+1) (by omega) (by omega);omega
  cases decide (fo a.2*fo a.2=a.2*65536)
  ·show _<=fo a.2+1;omega
  ·exact hm
theorem zp{a:Iv}{x:RE}(ha:inI a x)(hx:0<=x)(h:(sqF a).2=true):inI (sqF a).1 (mb x):=by
 obtain⟨a1,a2⟩:=ha;have hs:=jo hx;have s0:0<=of 65536*mb x:=aD (le_of_lt qi) (eV x);have e:of 65536*mb x*(of 65536*mb x)=of 65536*x*of 65536:=by rw[ajT,hs]
 unfold sqF at h ⊢;cases hn:decide (a.2<0)
 ·rw[hn]at h;simp only[cond_false]at h ⊢;have h2:=an4 hn;rw[Ct h];obtain⟨p0,p1,p2⟩:=ic (z:=(if 0>a.1 then 0 else a.1)*65536) (by split<;>omega);obtain⟨q0,q1,q2⟩:=ic (z:=a.2*65536) (by omega)
  have cm:∀{p q:Int},p*p<=q*65536->of (p:Rat)*of (p:Rat)<=of (q:Rat)*of 65536:=λ{p q} h=>by
   have:=ob h;rw[apd,apd,aC,aC]at this;exact this
  have cn:∀{p q:Int},q*65536<=p*p->of (q:Rat)*of 65536<=of (p:Rat)*of (p:Rat):=λ{p q} h=>by
   have:=ob h;rw[apd,apd,aC,aC]at this;exact this
  have nn:∀{p:Int},0<=p->0<=of (p:Rat):=λh=>ob h;refine⟨?_,?_⟩
  ·show of ((fo _:Int):Rat)<=_;refine uP _ _ (nn p0) s0 ?_;rw[e];refine ad6 _ (of (((if 0>a.1 then 0 else a.1:Int)):Rat)) _ _ (cm p1) ?_ qi;split
   ·exact aD (le_of_lt qi) hx
   ·exact a1
  ·show _<=of (((bif _ then _ else _):Int):Rat);cases he:decide (fo a.2*fo a.2=a.2*65536)
   ·simp only[cond_false];refine uP _ _ s0 (nn (by unfold fo;omega)) ?_;rw[e];exact Sv _ _ _ _ (cn (by unfold fo;omega)) a2 qi
   ·simp only[cond_true];refine uP _ _ s0 (nn q0) ?_;rw[e];exact Sv _ _ _ _ (cn (by rw[anf he];exact Int.le_refl _)) a2 qi
 ·rw[hn]at h;cases h
theorem G9{i:Iv}{x:RE}(hi:inI i x)(h:(sgF i).2=true):(sgF i).1=sg x:=by
 obtain⟨h1,h2⟩:=hi;unfold sgF at h ⊢;cases e1:decide (i.1>0)
 ·rw[e1]at h;cases e2:decide (i.2<0)
  ·rw[e2]at h;simp only[cond_false,ang,apq]at h ⊢;rw[h.1]at h1;rw[h.2]at h2;have:of 65536*x=0:=le_antisymm h2 h1;have:sg (of 65536*x)=0:=by rw[this,du]
   rw[dA,dD qi]at this;omega
  ·have e:=anf e2;have h3:of (i.2:Rat)<0:=fS (apD.2 e);simp only[cond_false,cond_true]
   have:sg (of 65536*x)= -1:=iw (by
    rcases lt_or_ge (of 65536*x) 0 with h|h
    ·exact h
    ·exact absurd (le_trans h h2) (td.2 h3))
   rw[dA,dD qi]at this;omega
 ·have e:=anf e1;have h3:0<of (i.1:Rat):=fS (apD.2 e);simp only[cond_true]
  have:sg (of 65536*x)=1:=dD (by
   rcases lt_or_ge 0 (of 65536*x)with h|h
   ·exact h
   ·exact absurd (le_trans h1 h) (td.2 h3))
  rw[dA,dD qi]at this;omega
end RE
abbrev Qd:=Rat×Rat×Rat×Rat×Rat×Rat
def sgQ(q:Qd):Int:=C3 q.1 q.2.1 q.2.2.1 q.2.2.2.1 q.2.2.2.2.1 q.2.2.2.2.2
def suT(x y:Rt):Qd:=(x.1-y.1,x.2.1,-y.2.1,0,x.2.2,y.2.2)
def gQ(x:Rt)(q:Rat):Int:=iy (x.1-q) x.2.1 x.2.2
def okQ(q:BQ):Prop:=ok Rat 30001 q.1/\ok Rat 15000 q.2.1/\ok Rat 15000 q.2.2.1/\ok Rat 6000 q.2.2.2.1/\ok Rat 15000 q.2.2.2.2.1/\ok Rat 15000 q.2.2.2.2.2/\0<=ah q.2.2.2.2.1/\0<=ah q.2.2.2.2.2
instance (q:BQ):Decidable (okQ q):=by unfold okQ;infer_instance
theorem IG{q:BQ}(h:okQ q):∃A B C D M N:Rat,q=enc ((A,B,C,D,M,N):Qd)/\Bd A 30001/\Bd B 15000/\Bd C 15000/\Bd D 6000/\Bd M 15000/\Bd N 15000/\0<=M/\0<=N:=by
 obtain⟨A,B,C,D,M,N⟩:=q;obtain⟨h1,h2,h3,h4,h5,h6,h7,h8⟩:=h;obtain⟨a,ha,b1⟩:=aI h1;obtain⟨b,hb,b2⟩:=aI h2;obtain⟨c,hc,b3⟩:=aI h3;obtain⟨d,hd,b4⟩:=aI h4;obtain⟨m,hm,b5⟩:=aI h5;obtain⟨n,hn,b6⟩:=aI h6;dsimp only at ha hb hc hd hm hn h7 h8;subst ha hb hc hd hm hn;rw[fk,cC]at h7 h8;exact⟨a,b,c,d,m,n,rfl,b1,b2,b3,b4,b5,b6,h7,h8⟩
theorem BM{A B C D M N:Rat}{a b c d m n:Nat}[h1:Bd A a][h2:Bd B b][h3:Bd C c][h4:Bd D d][h5:Bd M m][h6:Bd N n][h7:Nn M][h8:Nn N](ha:a<=30001)(hb:b<=15000)(hc:c<=15000)(hd:d<=6000)(hm:m<=15000)(hn:n<=15000):decide (okQ (enc ((A,B,C,D,M,N):Qd)))=true:=
 anb ⟨anf (ng ha (by decide)),anf (ng hb (by decide)),anf (ng hc (by decide)),anf (ng hd (by decide)),anf (ng hm (by decide)),anf (ng hn (by decide)),by show 0<=ah (ao M);rw[cC];exact h7.le,by show 0<=ah (ao N);rw[cC];exact h8.le⟩
theorem CV{s t:Int}(hs: -1<=s/\s<=1)(ht: -1<=t/\t<=1):i64.wrap (s*t)=s*t:=by
 have:=Df hs ht;exact aV (by omega) (by omega)
theorem vd{a b m x y:Rat}:i64.wrap (iy a b m*aF x y)=iy a b m*aF x y:=CV (m6 _ _ _) (kY _ _)
theorem vj{a b m x y z:Rat}:i64.wrap (iy a b m*iy x y z)=iy a b m*iy x y z:=CV (m6 _ _ _) (m6 _ _ _)
theorem FF(s t u:Int):(match s==0 with|true=>(match s==0 with|true=>some [RV.d aqw t]|false=>some [RV.d aqw s])|false=>(match t==0 with|true=>(match s==0 with|true=>some [RV.d aqw t]|false=>some [RV.d aqw s])|false=>(match s==t with|true=>(match s==0 with|true=>some [RV.d aqw t]|false=>some [RV.d aqw s])|false=>some [RV.d aqw (s*u)])))=some [RV.d aqw (RE.addS s t u)]:=by
 unfold RE.addS;cases h1:s==0
 ·cases h2:t==0
  ·cases h3:s==t<;>rfl
  ·rfl
 ·have e:=aop.1 h1;subst e;cases h2:t==0
  ·cases h3:(0:Int)==t
   ·rfl
   ·rw[<-aop.1 h3];rfl
  ·rw[aop.1 h2];rfl
theorem Cy(s t u:Int):(match t==0 with|true=>some [RV.d aqw s]|false=>(match s==t with|true=>some [RV.d aqw s]|false=>(match s==0 with|true=>some [RV.d aqw t]|false=>some [RV.d aqw (s*u)])))=some [RV.d aqw (RE.addS s t u)]:=by
 unfold RE.addS;cases h2:t==0
 ·cases h3:s==t
  ·cases h1:s==0<;>rfl
  ·rfl
 ·rfl
def Gv:List En:=[enL qy,enL ti,enL wE,enL sZ,enT qZ,enT wL,enL wG]
def Sy(a b c:BR)(_k:KT):OLR:=og (o1 a) (og (o1 b) (og (o1 c) (match(aF (ah a) 0)==0 with|true=>(match(aF (ah a) 0)==0 with|true=>some [RV.d aqw (i64.wrap ((aF (ah b) 0)*(aF (ah c) 0)))]|false=>some [RV.d aqw (aF (ah a) 0)])|false=>(match(i64.wrap ((aF (ah b) 0)*(aF (ah c) 0)))==0 with|true=>(match(aF (ah a) 0)==0 with|true=>some [RV.d aqw (i64.wrap ((aF (ah b) 0)*(aF (ah c) 0)))]|false=>some [RV.d aqw (aF (ah a) 0)])|false=>(match(aF (ah a) 0)==(i64.wrap ((aF (ah b) 0)*(aF (ah c) 0)))with|true=>(match(aF (ah a) 0)==0 with|true=>some [RV.d aqw (i64.wrap ((aF (ah b) 0)*(aF (ah c) 0)))]|false=>some [RV.d aqw (aF (ah a) 0)])|false=>(og (o2 a a) (og (o2 b b) (og (o2 (hMu b b) c) (og (o2 (hMu a a) (hMu (hMu b b) c)) (some [RV.d aqw (i64.wrap ((aF (ah a) 0)*(aF (ah (hMu a a)) (ah (hMu (hMu b b) c)))))]))))))))))
def ado:Cn 139 [tR,tR,tR]:=cn λ(a b c:BR)=>lf (ok Rat 240000 a/\ok Rat 170000 b/\ok Rat 30000 c) [.d aqw (iy (ah a) (ah b) (ah c))] λh=>by
 refine aB Gv (Sy a b c) ⟨0,?_⟩;obtain⟨ha,hb,hc⟩:=h;obtain⟨a,rfl,ba⟩:=aI ha;obtain⟨b,rfl,bb⟩:=aI hb;obtain⟨c,rfl,bc⟩:=aI hc;unfold Sy;simp only[aX,Nat.reduceAdd,Nat.reduceLeDiff,rR];exact FF _ _ _
def Tn(a b:BO3)(_k:KT):OLR:=og (o2 a.1 b.1) (og (o1 b.2.1) (og (decide (aJ (0:Int))) (some [RV.d tQ (hSu a.1 b.1,(a.2.1,(hNe b.2.1,(hid (ao ((0:Int):Rat)),(a.2.2,b.2.2)))))])))
def adq:Cn 184 [tO,tO]:=cn λ(a b:BO3)=>lf (ok Rt 15000 a/\ok Rt 15000 b) [.d tQ (enc (suT (dec a) (dec b)))] λh=>by
 refine aB Gv (Tn a b) ⟨0,?_⟩;obtain⟨ha,hb⟩:=h;obtain⟨a,rfl,ba⟩:=aI ha;obtain⟨b,rfl,bb⟩:=aI hb;unfold Tn;simp only[aX,Nat.reduceLeDiff];try rfl
def Nf:List En:=enT ado::enL adq::Gv
def Pr(q:BQ)(_k:KT):OLR:=let y1:=ah q.2.2.2.2.1;let y2:=aF (ah q.2.2.2.2.2) 0;let y3:=iy (ah q.1) (ah q.2.1) y1;let y4:=i64.wrap ((iy (ah q.2.2.1) (ah q.2.2.2.1) y1)*y2);let y5:OLR:=match y3==0 with|true=>some [RV.d aqw y4]|false=>some [RV.d aqw y3];let y6:=hMu q.2.2.2.1 q.2.2.2.1;let y7:=hMu q.2.2.1 q.2.2.1;let y8:=hMu y6 q.2.2.2.2.1;let y9:=hMu (hMu q.2.1 q.2.1) q.2.2.2.2.1;let y10:=hAd (hMu q.1 q.1) y9;let y11:=hMu q.2.2.2.2.2 (hAd y7 y8);let y12:=hMu q.2.2.1 q.2.2.2.1;let y13:=hMu q.2.2.2.2.2 y12;let y14:=hSu (hMu q.1 q.2.1) y13;og (o1 q.2.2.2.2.1) (match decide ((aF y1 0)<0)with|true=>some [RV.d aqw 0]|false=>(og (o1 q.2.2.2.2.2) (match decide (y2<0)with|true=>some [RV.d aqw 0]|false=>(og (decide (ok Rat 240000 q.1/\ok Rat 170000 q.2.1/\ok Rat 30000 q.2.2.2.2.1)) (og (decide (ok Rat 240000 q.2.2.1/\ok Rat 170000 q.2.2.2.1/\ok Rat 30000 q.2.2.2.2.1)) (og (o1 q.2.2.2.2.2) (match y3==0 with|true=>y5|false=>(match y4==0 with|true=>y5|false=>(match y3==y4 with|true=>y5|false=>(og (o2 q.2.2.1 q.2.2.1) (og (o2 q.2.2.2.1 q.2.2.2.1) (og (o2 y6 q.2.2.2.2.1) (og (o2 y7 y8) (og (o2 q.2.2.2.2.2 (hAd y7 y8)) (og (o2 q.1 q.1) (og (o2 q.2.1 q.2.1) (og (o2 (hMu q.2.1 q.2.1) q.2.2.2.2.1) (og (o2 (hMu q.1 q.1) y9) (og (o2 y10 y11) (og (o2 q.1 q.2.1) (og (o2 q.2.2.1 q.2.2.2.1) (og (o2 q.2.2.2.2.2 y12) (og (o2 (hMu q.1 q.2.1) y13) (og (o2 y14 y14) (og (decide (ok Rat 240000 (hSu y10 y11)/\ok Rat 170000 (hAd y14 y14)/\ok Rat 30000 q.2.2.2.2.1)) (some [RV.d aqw (i64.wrap (y3*(iy (ah (hSu y10 y11)) (ah (hAd y14 y14)) y1)))]))))))))))))))))))))))))))
def adG:Cn 183 [tQ]:=cn λ(q:BQ)=>lf (okQ q) [.d aqw (sgQ (dec q))] λh=>by
 refine aB Nf (Pr q) ⟨0,?_⟩;obtain⟨A,B,C,D,M,N,rfl,bA,bB,bC,bD,bM,bN,hM,hN⟩:=IG h;rw[aA];unfold Pr;simp only[aX,aH,Nat.reduceAdd,Nat.reduceLeDiff,vd,vj,av,ane (show ¬M<0 by grind),ane (show ¬N<0 by grind)];refine(FF _ _ _).trans ?_;unfold sgQ C3;rw[ane (show ¬M<0 by grind),ane (show ¬N<0 by grind)];dsimp only[Bool.or_false,cond_false];rw[show A*B-N*(C*D)+(A*B-N*(C*D))=2*(A*B-N*(C*D)) by grind];rfl
def Na:List En:=enT adG::Nf
def Oz(a b:BO3)(_k:KT):OLR:=og (decide (ok Rt 15000 a/\ok Rt 15000 b)) (og (decide (okQ (hid (enc (suT (dec a) (dec b)))))) (some [RV.d aqw (sgQ (dec (hid (enc (suT (dec a) (dec b))))))]))
def TE:Cn 87 [tO,tO]:=cn λ(a b:BO3)=>lf (okT 15000 a/\okT 15000 b) [.d aqw (bi (dec a) (dec b))] λh=>by
 refine aB Na (Oz a b) ⟨0,?_⟩;obtain⟨ha,hb⟩:=h;obtain⟨a,rfl,ba,ra⟩:=ii ha;obtain⟨b,rfl,bb,rb⟩:=ii hb;have na:Nn a.2.2:=inferInstance;have nb:Nn b.2.2:=inferInstance;have e:decide (okQ (enc (suT a b)))=true:=BM (by decide) (by decide) (by decide) (by decide) (by decide) (by decide);unfold Oz;simp only[aX,Nat.reduceLeDiff,e];rfl
def Qo(a:BO3)(b:BR)(_k:KT):OLR:=og (o2 a.1 b) (og (decide (ok Rat 240000 (hSu a.1 b)/\ok Rat 170000 a.2.1/\ok Rat 30000 a.2.2)) (some [RV.d aqw (iy (ah (hSu a.1 b)) (ah a.2.1) (ah a.2.2))]))
def OR:Cn 58 [tO,tR]:=cn λ(a:BO3) (b:BR)=>lf (okT 15000 a/\ok Rat 15000 b) [.d aqw (gQ (dec a) (ah b))] λh=>by
 refine aB Na (Qo a b) ⟨0,?_⟩;obtain⟨ha,hb⟩:=h;obtain⟨a,rfl,ba,ra⟩:=ii ha;obtain⟨b,rfl,bb⟩:=aI hb;unfold Qo;simp only[aX,Nat.reduceAdd,Nat.reduceLeDiff];try rfl
def mv:fb:=spN false true [tR] (λx=>decide (okR x.1)) (λx=>[RV.d tR (hNe x.1)])
theorem iu:SpK 133 mv:=spX λx h=>by simp only[bL];exact Kw x.1 (anf h)
def P6:List En:=[⟨125,jn,fO⟩,⟨132,jR,gb⟩,⟨65,jx,fM⟩,⟨67,iV,fA⟩,⟨54,gK,eH⟩,⟨66,nA,jk⟩,⟨133,mv,iu⟩]
def aaJ(a b c:BR)(_k:KT):OLR:=og (o1 a) (og (o1 b) (og (o1 c) (match(i64.wrap ((aF (ah b) 0)*(aF (ah c) 0)))==0 with|true=>some [RV.d aqw (aF (ah a) 0)]|false=>(match(aF (ah a) 0)==(i64.wrap ((aF (ah b) 0)*(aF (ah c) 0)))with|true=>some [RV.d aqw (aF (ah a) 0)]|false=>(match(aF (ah a) 0)==0 with|true=>some [RV.d aqw (i64.wrap ((aF (ah b) 0)*(aF (ah c) 0)))]|false=>(og (o2 a a) (og (o2 b b) (og (o2 (hMu b b) c) (og (o2 (hMu a a) (hMu (hMu b b) c)) (some [RV.d aqw (i64.wrap ((aF (ah a) 0)*(aF (ah (hMu a a)) (ah (hMu (hMu b b) c)))))]))))))))))
def Ep:Cn 276 [tR,tR,tR]:=cn λ(a b c:BR)=>lf (ok Rat 240000 a/\ok Rat 170000 b/\ok Rat 30000 c) [.d aqw (iy (ah a) (ah b) (ah c))] λh=>by
 refine aB P6 (aaJ a b c) ⟨0,?_⟩;obtain⟨ha,hb,hc⟩:=h;obtain⟨a,rfl,ba⟩:=aI ha;obtain⟨b,rfl,bb⟩:=aI hb;obtain⟨c,rfl,bc⟩:=aI hc;unfold aaJ;simp only[aX,Nat.reduceAdd,Nat.reduceLeDiff,rR];exact Cy _ _ _
def ZI(a:BR)(_k:KT):OLR:=og (o1 a) (og (o1 (hNe a)) (some [RV.d tR (hNe (hNe a))]))
def YQ:Cn 316 [tR]:=cn λ(a:BR)=>lf (okR a) [.d tR (ao (ah a))] λh=>by
 refine aB P6 (ZI a) ⟨0,?_⟩;have ha:=h;obtain⟨a,rfl,ba⟩:=fL ha;unfold ZI;simp only[aX,Nat.reduceLeDiff,apV]
def aiM:List En:=enT Ep::enL YQ::P6
def abH(a b:BO3)(_k:KT):OLR:=og (o2 a.1 b.1) (og (o1 a.2.1) (og (o1 b.2.1) (og (decide (aJ (0:Int))) (og (o1 a.2.2) (og (o1 b.2.2) (some [RV.d tQ (hSu a.1 b.1,(hid (ao (ah a.2.1)),(hNe b.2.1,(hid (ao ((0:Int):Rat)),(hid (ao (ah a.2.2)),hid (ao (ah b.2.2)))))))]))))))
def Nj:Cn 277 [tO,tO]:=cn λ(a b:BO3)=>lf (ok Rt 15000 a/\ok Rt 15000 b) [.d tQ (enc (suT (dec a) (dec b)))] λh=>by
 refine aB aiM (abH a b) ⟨0,?_⟩;obtain⟨ha,hb⟩:=h;obtain⟨a,rfl,ba⟩:=aI ha;obtain⟨b,rfl,bb⟩:=aI hb;unfold abH;simp only[aX,Nat.reduceLeDiff];try rfl
theorem lh{n:Int}(h:aJ n):szI n<=3:=by
 have:pw 3=1000000000000000000000000000:=by decide
 exact fV (by have:=h.1;omega) (by have:=h.2;omega)
theorem OE{q:Rat}{k:Nat}(h:Bd q k)(hk:k<=480000):okI (ai q.floor)/\okI (ai (-q.floor)):=by
 have e:szI q.floor<=k:=by
  refine anq (dP ?_) h.le.1;rw[Rat.floor_def];exact Int.natAbs_ediv_le_natAbs _ _
 exact⟨aW (by omega),aW (by rw[ke];omega)⟩
theorem alD:Bd (65536:Rat) 1:=⟨⟨by decide+kernel,by decide+kernel⟩⟩
theorem aff:((65536:Int):Rat)=65536:=rfl
theorem p48:(2:Int)^(min (48:Int).toNat 64)=281474976710656:=by decide
theorem p32:(2:Int)^(min (32:Int).toNat 64)=4294967296:=by decide
theorem p16:(2:Int)^(min (16:Int).toNat 64)=65536:=by decide
theorem fdv{a b:Int}(h:0<=b):Int.fdiv a b=a/b:=Int.fdiv_eq_ediv_of_nonneg a h
theorem abN(n k:Nat)(hn:n<18446744073709551616)(hk:2^k-1<18446744073709551616):BitVec.toNat (BitVec.ofInt 64 (n:Int)&&&BitVec.ofInt 64 ((2^k-1:Nat):Int))=n%2^k:=by
 rw[BitVec.toNat_and,BitVec.toNat_ofInt,BitVec.toNat_ofInt];have e1:((n:Int)%((2^64:Nat):Int)).toNat=n:=by omega
 have e2:(((2^k-1:Nat):Int)%((2^64:Nat):Int)).toNat=2^k-1:=by omega
 rw[e1,e2,Nat.and_two_pow_sub_one_eq_mod]
theorem agD(n:Nat)(hn:n<18446744073709551616):u64.wrap (BitVec.toNat (BitVec.ofInt 64 (n:Int)&&&BitVec.ofInt 64 65535))=((n%65536:Nat):Int):=by
 rw[show(65535:Int)=((2^16-1:Nat):Int) from rfl,abN n 16 hn (by decide),an3];omega
theorem MH(n:Nat)(hn:n<18446744073709551616):u64.wrap (BitVec.toNat (BitVec.ofInt 64 (n:Int)&&&BitVec.ofInt 64 4294967295))=((n%4294967296:Nat):Int):=by
 rw[show(4294967295:Int)=((2^32-1:Nat):Int) from rfl,abN n 32 hn (by decide),an3];omega
theorem alu{h l:Nat}(hh:h<65536)(hl:l<281474976710656):u64.wrap (BitVec.toNat (BitVec.ofInt 64 (u64.wrap ((h:Int)*281474976710656)) ||| BitVec.ofInt 64 (l:Int)))=((h*281474976710656+l:Nat):Int):=by
 rw[BitVec.toNat_or,BitVec.toNat_ofInt,BitVec.toNat_ofInt,an3,an3]
 have e1:((h:Int)*281474976710656%18446744073709551616%((2^64:Nat):Int)).toNat=h <<< 48:=by
  rw[Nat.shiftLeft_eq];omega
 have e2:((l:Int)%((2^64:Nat):Int)).toNat=l:=by omega
 rw[e1,e2,<-Nat.shiftLeft_add_eq_or_of_lt (by omega),Nat.shiftLeft_eq];omega
def scP(x y:Int):Prop:=x.natAbs<=2305843009213693952/\y.natAbs<=2305843009213693952
instance (x y:Int):Decidable (scP x y):=by unfold scP;infer_instance
def Ee(n:Int):Prop:=0<=n/\n<=2305843009213693952
instance (n:Int):Decidable (Ee n):=by unfold Ee;infer_instance
def ajH:Ctx:=CX [] []
def abm(x y:Int)(_k:KT):OLR:=match decide (x<(-2305843009213693952))with|true=>some [RV.d tG (0,0),RV.d .bool false]|false=>(match decide (y>2305843009213693952)with|true=>some [RV.d tG (0,0),RV.d .bool false]|false=>some [RV.d tG (x,y),RV.d .bool true])
theorem akm(x y:Int):RS ajH 328 [SI x,SI y] (abm x y):=rsX
def Tb:Cn 328 [aqw,aqw]:=cn λ(x y:Int)=>lf True [.d tG ((qs x y).1),.d .bool ((qs x y).2)] λ_=>by
 refine gJ (E:=[]) trivial (akm _ _ ⟨0,?_⟩);unfold abm qs;cases decide (x< -2305843009213693952)
 ·cases decide (y>2305843009213693952)<;>rfl
 ·rfl
def IK:fb:=spN false true [tI] (λx=>decide (okI x.1)) (λx=>[RV.d tI (hid (ai (-ae x.1)))])
theorem EW:SpK 228 IK:=spX λx h=>by simp only[bL];exact KZ x.1 (anf h)
def Bq:List En:=[⟨125,jn,fO⟩,⟨67,iV,fA⟩,⟨133,mv,iu⟩,enL Pw,enT YL,⟨228,IK,EW⟩,enL Tb]
def aas(a:BR)(_k:KT):OLR:=let y1:=hid (ao ((65536:Int):Rat));let y2:=hid (ai (ah (hMu a y1)).floor);let y3:=hid (ai (ah (hNe (hMu a y1))).floor);let y4:=hid (ai (-ae y3));let y5:=qs (bif decide (aJ (ae y2))then ae y2 else 0) (bif decide (aJ (ae y4))then ae y4 else 0);og (decide (aJ (65536:Int))) (og (o2 a y1) (og (o1 (hMu a y1)) (og (decide (okI y2)) (og (o1 (hMu a y1)) (og (o1 (hNe (hMu a y1))) (og (decide (okI y3)) (og (decide (okI y4)) (match !(decide (aJ (ae y2)))with|true=>some [RV.d tG (0,0),RV.d .bool false]|false=>(match !(decide (aJ (ae y4)))with|true=>some [RV.d tG (0,0),RV.d .bool false]|false=>some [RV.d tG (hid (y5.1)),RV.d .bool (y5.2)])))))))))
def RB:Cn 307 [tR]:=cn λ(a:BR)=>lf (ok Rat 200000 a) [.d tG ((frF (ah a)).1),.d .bool ((frF (ah a)).2)] λh=>by
 refine aB Bq (aas a) ⟨0,?_⟩;have ha:=h;obtain⟨a,rfl,ba⟩:=aI ha;have hk:=alD;have h6:aJ 65536:=by decide
 have f1:=OE (inferInstance:Bd (a*65536) _) (by decide);have f2:=OE (inferInstance:Bd (-(a*65536)) _) (by decide);unfold aas;simp only[aff,aX,Nat.reduceAdd,Nat.reduceLeDiff,dec_enc,dT h6,dT f1.1,dT f2.1,dT f2.2];unfold frF;cases e1:decide (aJ (a*65536).floor)
 ·rfl
 ·cases e2:decide (aJ (-(-(a*65536)).floor))
  ·rfl
  ·rfl
def YN(a b:(Int×Int))(_k:KT):OLR:=some [RV.d tG (hid ((qs (i64.wrap (a.1+b.1)) (i64.wrap (a.2+b.2))).1)),RV.d .bool ((qs (i64.wrap (a.1+b.1)) (i64.wrap (a.2+b.2))).2)]
def OT:Cn 309 [tG,tG]:=cn λ(a b:(Int×Int))=>lf (prI a/\prI b) [.d tG ((dY a b).1),.d .bool ((dY a b).2)] λh=>by
 refine aB Bq (YN a b) ⟨0,?_⟩;obtain⟨⟨a1,a2,a3⟩,⟨b1,b2,b3⟩⟩:=h;unfold YN dY;rw[aV (by omega) (by omega),aV (by omega) (by omega)];simp only[bL]
def aab(a:(Int×Int))(_k:KT):OLR:=some [RV.d tG (i64.wrap (0-a.2),i64.wrap (0-a.1))]
def PH:Cn 310 [tG]:=cn λ(a:(Int×Int))=>lf (prI a) [.d tG (ot a)] λh=>by
 refine aB Bq (aab a) ⟨0,?_⟩;obtain⟨a1,a2,a3⟩:=h;unfold aab ot;rw[aV (by omega) (by omega),aV (by omega) (by omega),ao7,ao7]
def X4(n:Int)(_k:KT):OLR:=match decide (n<0)with|true=>some [RV.d (.int .u64) (u64.wrap (0-(u64.wrap n)))]|false=>some [RV.d (.int .u64) (u64.wrap n)]
def Nl:Cn 334 [aqw]:=cn λ(n:Int)=>lf (aJ n) [.d (.int .u64) (n.natAbs:Int)] λh=>by
 refine aB Bq (X4 n) ⟨0,?_⟩;obtain⟨h1,h2⟩:=h;unfold X4;rw[an3,an3];by_cases hn:n<0
 ·rw[anb hn,show(0-n%18446744073709551616)%18446744073709551616=(n.natAbs:Int) by omega]
 ·rw[ane hn,show n%18446744073709551616=(n.natAbs:Int) by omega]
def aaH(x y:Int)(_k:KT):OLR:=match decide (32<(0:Int))with|true=>none|false=>(match decide (32<(0:Int))with|true=>none|false=>(match decide (32<(0:Int))with|true=>none|false=>(match decide (32<(0:Int))with|true=>none|false=>(match decide (32<(0:Int))with|true=>none|false=>some [RV.d (.int .u64) (u64.wrap ((u64.wrap ((u64.wrap ((Int.fdiv x (2^(min (32:Int).toNat 64)))*(Int.fdiv y (2^(min (32:Int).toNat 64)))))+(Int.fdiv (u64.wrap ((u64.wrap ((Int.fdiv x (2^(min (32:Int).toNat 64)))*(u64.wrap (BitVec.toNat (BitVec.ofInt 64 y&&&BitVec.ofInt 64 4294967295)))))+(Int.fdiv (u64.wrap ((u64.wrap (BitVec.toNat (BitVec.ofInt 64 x&&&BitVec.ofInt 64 4294967295)))*(u64.wrap (BitVec.toNat (BitVec.ofInt 64 y&&&BitVec.ofInt 64 4294967295))))) (2^(min (32:Int).toNat 64))))) (2^(min (32:Int).toNat 64)))))+(Int.fdiv (u64.wrap ((u64.wrap (BitVec.toNat (BitVec.ofInt 64 (u64.wrap ((u64.wrap ((Int.fdiv x (2^(min (32:Int).toNat 64)))*(u64.wrap (BitVec.toNat (BitVec.ofInt 64 y&&&BitVec.ofInt 64 4294967295)))))+(Int.fdiv (u64.wrap ((u64.wrap (BitVec.toNat (BitVec.ofInt 64 x&&&BitVec.ofInt 64 4294967295)))*(u64.wrap (BitVec.toNat (BitVec.ofInt 64 y&&&BitVec.ofInt 64 4294967295))))) (2^(min (32:Int).toNat 64)))))&&&BitVec.ofInt 64 4294967295)))+(u64.wrap ((u64.wrap (BitVec.toNat (BitVec.ofInt 64 x&&&BitVec.ofInt 64 4294967295)))*(Int.fdiv y (2^(min (32:Int).toNat 64))))))) (2^(min (32:Int).toNat 64))))),RV.d (.int .u64) (u64.wrap (x*y))]))))
def Oh:Cn 333 [(.int .u64),(.int .u64)]:=cn λ(x y:Int)=>lf (jD x/\jD y) [.d (.int .u64) (x*y/18446744073709551616),.d (.int .u64) (x*y%18446744073709551616)] λh=>by
 refine aB Bq (aaH x y) ⟨0,?_⟩;obtain⟨h1,h2⟩:=h;obtain⟨X,rfl⟩:=aol h1.1;obtain⟨Y,rfl⟩:=aol h2.1;have hX:X<18446744073709551616:=by have:=h1.2;omega
 have hY:Y<18446744073709551616:=by have:=h2.2;omega
 have wn:∀n:Nat,n<18446744073709551616->u64.wrap (n:Int)=(n:Int):=λn hn=>by rw[an3];omega
 have eX:(X:Int)/4294967296=((X/4294967296:Nat):Int):=by omega
 have eY:(Y:Int)/4294967296=((Y/4294967296:Nat):Int):=by omega
 unfold aaH;simp only[p32,fdv (show(0:Int)<=4294967296 by decide),MH X hX,MH Y hY,eX,eY]
 have hXY:X*Y=X/4294967296*(Y/4294967296)*18446744073709551616+(X/4294967296*(Y%4294967296)+X%4294967296*(Y/4294967296))*4294967296+X%4294967296*(Y%4294967296):=by
  have a:=Nat.div_add_mod X 4294967296;have b:=Nat.div_add_mod Y 4294967296;generalize X/4294967296=x1 at*
  generalize X%4294967296=x0 at*
  generalize Y/4294967296=y1 at*
  generalize Y%4294967296=y0 at*
  subst a b;grind
 have x0:X%4294967296<=4294967295:=by omega
 have y0:Y%4294967296<=4294967295:=by omega
 have x1:X/4294967296<=4294967295:=by omega
 have y1:Y/4294967296<=4294967295:=by omega
 have q00:=ao6 x0 y0;have q10:=ao6 x1 y0;have q01:=ao6 x0 y1;have q11:=ao6 x1 y1;simp only[<-aoH];rw[hXY];generalize X%4294967296*(Y%4294967296)=p00 at*
 generalize X/4294967296*(Y%4294967296)=p10 at*
 generalize X%4294967296*(Y/4294967296)=p01 at*
 generalize X/4294967296*(Y/4294967296)=p11 at*
 have t0:u64.wrap (u64.wrap (p10:Int)+u64.wrap (p00:Int)/4294967296)=((p10+p00/4294967296:Nat):Int):=by
  rw[wn p10 (by omega),wn p00 (by omega),show(p10:Int)+(p00:Int)/4294967296=((p10+p00/4294967296:Nat):Int) by omega,wn _ (by omega)]
 rw[t0,MH _ (by omega)]
 have t1:u64.wrap (((p10+p00/4294967296)%4294967296:Nat)+u64.wrap (p01:Int))=(((p10+p00/4294967296)%4294967296+p01:Nat):Int):=by
  rw[wn p01 (by omega),<-Int.natCast_add,wn _ (by omega)]
 rw[t1,wn p11 (by omega)];rw[ane (show ¬(32:Int)<0 by decide)];dsimp only
 have hi:u64.wrap (u64.wrap ((p11:Int)+((p10+p00/4294967296:Nat):Int)/4294967296)+(((p10+p00/4294967296)%4294967296+p01:Nat):Int)/4294967296)=((p11*18446744073709551616+(p10+p01)*4294967296+p00:Nat):Int)/18446744073709551616:=by
  rw[an3,an3];omega
 rw[hi,an3]
def ajP:List En:=enA Nl::enA Oh::Bq
def ZE(x y:Int)(_k:KT):OLR:=let y1:=hid ((x.natAbs:Int));let y2:=hid ((y.natAbs:Int));let y3:=hid (y1*y2/18446744073709551616);let y4:=hid (y1*y2%18446744073709551616);let y5:=u64.wrap (BitVec.toNat (BitVec.ofInt 64 (u64.wrap (y3*2^(min (48:Int).toNat 64))) ||| BitVec.ofInt 64 (Int.fdiv y4 (2^(min (16:Int).toNat 64)))));let y6:=i64.wrap y5;let y7:=i64.wrap (y6+1);let y8:=i64.wrap (0-y7);let y9:=i64.wrap (0-y6);let y10:=decide (y9<=2305843009213693952);og (decide (aJ x)) (og (decide (aJ y)) (og (decide (jD y1/\jD y2)) (match decide (16<(0:Int))with|true=>none|false=>(match(Int.fdiv y3 (2^(min (16:Int).toNat 64))) !=0 with|true=>some [RV.d aqw 0,RV.d aqw 0,RV.d .bool false]|false=>(match decide (48<(0:Int))with|true=>none|false=>(match decide (16<(0:Int))with|true=>none|false=>(match decide (y5>2305843009213693952)with|true=>some [RV.d aqw 0,RV.d aqw 0,RV.d .bool false]|false=>(match(u64.wrap (BitVec.toNat (BitVec.ofInt 64 y4&&&BitVec.ofInt 64 65535))) !=0 with|true=>(match !((decide (x<0))==(decide (y<0)))with|true=>(match decide (y8>=(-2305843009213693952))with|true=>some [RV.d aqw y8,RV.d aqw y9,RV.d .bool y10]|false=>some [RV.d aqw y8,RV.d aqw y9,RV.d .bool false])|false=>(match decide (y6>=(-2305843009213693952))with|true=>some [RV.d aqw y6,RV.d aqw y7,RV.d .bool (decide (y7<=2305843009213693952))]|false=>some [RV.d aqw y6,RV.d aqw y7,RV.d .bool false]))|false=>(match !((decide (x<0))==(decide (y<0)))with|true=>(match decide (y9>=(-2305843009213693952))with|true=>some [RV.d aqw y9,RV.d aqw y9,RV.d .bool y10]|false=>some [RV.d aqw y9,RV.d aqw y9,RV.d .bool false])|false=>(match decide (y6>=(-2305843009213693952))with|true=>some [RV.d aqw y6,RV.d aqw y6,RV.d .bool (decide (y6<=2305843009213693952))]|false=>some [RV.d aqw y6,RV.d aqw y6,RV.d .bool false]))))))))))
def abi:Cn 329 [aqw,aqw]:=cn λ(x y:Int)=>lf (scP x y) [.d aqw ((scF x y).1.1),.d aqw ((scF x y).1.2),.d .bool ((scF x y).2)] λh=>by
 refine aB ajP (ZE x y) ⟨0,?_⟩;obtain⟨hx,hy⟩:=h;have h1:aJ x:=⟨by omega,by omega⟩
 have h2:aJ y:=⟨by omega,by omega⟩
 have h3:jD (x.natAbs:Int)/\jD (y.natAbs:Int):=⟨⟨by omega,by omega⟩,⟨by omega,by omega⟩⟩
 unfold ZE scF;simp only[bL];rw[dT h1,dT h2,dT h3];have hp:=ao6 hx hy;simp only[<-aoH,p16,p48,fdv (show(0:Int)<=65536 by decide)];generalize x.natAbs*y.natAbs=p at*
 rw[ane (show ¬(16:Int)<0 by decide),ane (show ¬(48:Int)<0 by decide),show(p:Int)/18446744073709551616=((p/18446744073709551616:Nat):Int) by omega,show(p:Int)%18446744073709551616=((p%18446744073709551616:Nat):Int) by omega,show((p%18446744073709551616:Nat):Int)/65536=((p%18446744073709551616/65536:Nat):Int) by omega,agD _ (by omega),show p%18446744073709551616%65536=p%65536 by omega];by_cases hc:p>=1208925819614629174706176
 ·rw[anb hc,show(((p/18446744073709551616:Nat):Int)/65536 !=0)=true by simp;omega];rfl
 ·rw[ane hc,show(((p/18446744073709551616:Nat):Int)/65536 !=0)=false by simp;omega,alu (by omega) (by omega),show p/18446744073709551616*281474976710656+p%18446744073709551616/65536=p/65536 by omega];have hdm:=Nat.div_add_mod p 65536;have hml:=ap8 p (show 65536>0 by decide);have hru:(p+65535)/65536=if p%65536=0 then p/65536 else p/65536+1:=by split<;>omega
  rw[hru];clear hru;generalize p/65536=q at*
  generalize p%65536=m at*
  have e1:decide ((q:Int)>2305843009213693952)=decide (q>2305843009213693952):=aom.2 (by omega);rw[e1];by_cases hd:q>2305843009213693952
  ·rw[anb hd];rfl
  rw[ane hd,aV (x:=(q:Int)) (by omega) (by omega),aV (x:=(q:Int)+1) (by omega) (by omega),aV (x:=0-(q:Int)) (by omega) (by omega),aV (x:=0-((q:Int)+1)) (by omega) (by omega)];have e2:((m:Int) !=0)=!decide (m=0):=by by_cases h:m=0<;>simp[h]
  have e3:decide (0-(q:Int)>= -2305843009213693952)=true:=anb (by omega);have e4:decide (0-(q:Int)<=2305843009213693952)=true:=anb (by omega);have e5:decide ((q:Int)>= -2305843009213693952)=true:=anb (by omega);have e6:decide ((q:Int)<=2305843009213693952)=true:=anb (by omega);have e7:decide (0-((q:Int)+1)>= -2305843009213693952)=decide (q+1<=2305843009213693952):=aom.2 (by omega);have e8:decide ((q:Int)+1<=2305843009213693952)=decide (q+1<=2305843009213693952):=aom.2 (by omega);have e9:decide (q<=2305843009213693952)=true:=anb (by omega);rw[e2,e3,e4,e5,e6,e7,e8];have f2:((q+1:Nat):Int)=(q:Int)+1:=by omega
  have f3:decide (m=0)=true->m=0:=anf;have f4:decide (m=0)=false->m≠0:=an4;generalize decide (m=0)=d2 at*
  generalize (decide (x<0)==decide (y<0))=d3 at*
  cases d2
  ·rw[anA (f4 rfl),f2];generalize decide (q+1<=2305843009213693952)=d4 at*
   cases d3<;>cases d4<;>simp
  ·rw[anH (f3 rfl),e9];cases d3<;>simp
def bJ(r:Rt):Iv×Bool:=
 bif !(frF r.1).2||decide (r.2.1=0)then frF r.1
 else bif !(frF r.2.1).2||!(frF r.2.2).2||decide (r.2.2<0)then(iv0,false)
 else bif !(sqF (frF r.2.2).1).2 then(iv0,false)
 else bif !(cO (frF r.2.1).1 (sqF (frF r.2.2).1).1).2 then(iv0,false)
 else dY (frF r.1).1 (cO (frF r.2.1).1 (sqF (frF r.2.2).1).1).1
def kJ(n:Rat)(a:Iv)(k:Bool):Iv×Bool:=bif !k||!(frF n).2 then(iv0,false)else cO (frF n).1 a
def apF(a b:Rt):Int×Bool:=
 bif !(bJ a).2||!(bJ b).2 then(0,false)else bif decide ((bJ a).1.2<(bJ b).1.1)then(-1,true)else bif decide ((bJ a).1.1>(bJ b).1.2)then(1,true)else(0,false)
abbrev Pt:=Rat×Rat×Rat×Rat×Rat
abbrev Ln:=Rat×Rat×Rat
def pxR(p:Pt):Rt:=(p.1,p.2.1,p.2.2.2.2)
def pyR(p:Pt):Rt:=(p.2.2.1,p.2.2.2.1,p.2.2.2.2)
def zU(l:Ln)(p:Pt):Int×Bool:=
 bif !(kJ l.1 (bJ (pxR p)).1 (bJ (pxR p)).2).2||!(kJ l.2.1 (bJ (pyR p)).1 (bJ (pyR p)).2).2||!(frF l.2.2).2 then(0,false)
 else bif !(dY (kJ l.1 (bJ (pxR p)).1 (bJ (pxR p)).2).1 (kJ l.2.1 (bJ (pyR p)).1 (bJ (pyR p)).2).1).2 then(0,false)
 else bif !(dY (dY (kJ l.1 (bJ (pxR p)).1 (bJ (pxR p)).2).1 (kJ l.2.1 (bJ (pyR p)).1 (bJ (pyR p)).2).1).1 (ot (frF l.2.2).1)).2 then(0,false)
 else sgF (dY (dY (kJ l.1 (bJ (pxR p)).1 (bJ (pxR p)).2).1 (kJ l.2.1 (bJ (pyR p)).1 (bJ (pyR p)).2).1).1 (ot (frF l.2.2).1)).1
def fW(r:Rt)(q:Rat):Iv×Bool:=bif !(bJ r).2||!(frF q).2 then(iv0,false)else dY (bJ r).1 (ot (frF q).1)
def wm(c:Ln)(p:Pt):Int×Bool:=
 bif !(fW (pxR p) c.1).2||!(fW (pyR p) c.2.1).2||!(frF c.2.2).2 then(0,false)
 else bif !(cO (fW (pxR p) c.1).1 (fW (pxR p) c.1).1).2||!(cO (fW (pyR p) c.2.1).1 (fW (pyR p) c.2.1).1).2 then(0,false)
 else bif !(dY (cO (fW (pxR p) c.1).1 (fW (pxR p) c.1).1).1 (cO (fW (pyR p) c.2.1).1 (fW (pyR p) c.2.1).1).1).2 then(0,false)
 else bif !(dY (dY (cO (fW (pxR p) c.1).1 (fW (pxR p) c.1).1).1 (cO (fW (pyR p) c.2.1).1 (fW (pyR p) c.2.1).1).1).1 (ot (frF c.2.2).1)).2 then(0,false)
 else sgF (dY (dY (cO (fW (pxR p) c.1).1 (fW (pxR p) c.1).1).1 (cO (fW (pyR p) c.2.1).1 (fW (pyR p) c.2.1).1).1).1 (ot (frF c.2.2).1)).1
def sfF(m:Rat):Iv:=(sqF (frF m).1).1
def mfF(b:Rat)(i:Iv):Iv:=(cO (frF b).1 i).1
def qu1(q:Qd):Bool:=(frF q.2.2.2.2.1).2&&(sqF (frF q.2.2.2.2.1).1).2&&(frF q.2.2.2.2.2).2&&(sqF (frF q.2.2.2.2.2).1).2
def qu2(q:Qd):Bool:=(frF q.2.1).2&&(cO (frF q.2.1).1 (sfF q.2.2.2.2.1)).2&&(frF q.2.2.1).2&&(cO (frF q.2.2.1).1 (sfF q.2.2.2.2.2)).2&&(frF q.2.2.2.1).2&&(cO (sfF q.2.2.2.2.1) (sfF q.2.2.2.2.2)).2&&(cO (frF q.2.2.2.1).1 (cO (sfF q.2.2.2.2.1) (sfF q.2.2.2.2.2)).1).2
def quA(q:Qd):Iv×Bool:=dY (frF q.1).1 (mfF q.2.1 (sfF q.2.2.2.2.1))
def quB(q:Qd):Iv×Bool:=dY (mfF q.2.2.1 (sfF q.2.2.2.2.2)) (mfF q.2.2.2.1 (cO (sfF q.2.2.2.2.1) (sfF q.2.2.2.2.2)).1)
def qu3(q:Qd):Bool:=(frF q.1).2&&(quA q).2&&(quB q).2&&(dY (quA q).1 (quB q).1).2
def quF(q:Qd):Int×Bool:=bif !(qu1 q)then(0,false)else bif !(qu2 q)then(0,false)else bif !(qu3 q)then(0,false)else sgF (dY (quA q).1 (quB q).1).1
theorem zX(r:Rt):prI (bJ r).1:=by
 unfold bJ;cases !(frF r.1).2||decide (r.2.1=0)
 ·cases !(frF r.2.1).2||!(frF r.2.2).2||decide (r.2.2<0)
  ·cases !(sqF (frF r.2.2).1).2
   ·cases !(cO (frF r.2.1).1 (sqF (frF r.2.2).1).1).2
    ·exact RE.addF_pr (RE.frF_pr _) (uK _ _)
    ·exact gE
   ·exact gE
  ·exact gE
 ·exact RE.frF_pr _
theorem Xt(n:Rat)(a:Iv)(k:Bool):prI (kJ n a k).1:=by
 unfold kJ;cases !k||!(frF n).2
 ·exact uK _ _
 ·exact gE
theorem Ve(r:Rt)(q:Rat):prI (fW r q).1:=by
 unfold fW;cases !(bJ r).2||!(frF q).2
 ·exact RE.addF_pr (zX _) (RE.negF_pr (RE.frF_pr _))
 ·exact gE
namespace RE
theorem qu{r:Rt}(h:(bJ r).2=true):inI (bJ r).1 (v2 r.1 r.2.1 r.2.2):=by
 unfold bJ at h ⊢;cases e1:(frF r.1).2
 ·rw[e1]at h;simp only[Bool.not_false,Bool.true_or,cond_true]at h;rw[e1]at h;cases h
 ·rw[e1]at h;by_cases hb:r.2.1=0
  ·rw[anb hb]at h ⊢;simp only[Bool.not_true,Bool.false_or,cond_true];unfold v2;rw[hb,pI,zero_mul,add_zero];exact jl e1
  ·rw[ane hb]at h ⊢;cases e2:(frF r.2.1).2<;>cases e3:(frF r.2.2).2<;>cases e4:decide (r.2.2<0)<;>rw[e2,e3,e4]at h<;>try (cases h;done)
   cases e5:(sqF (frF r.2.2).1).2<;>rw[e5]at h<;>try (cases h;done)
   cases e6:(cO (frF r.2.1).1 (sqF (frF r.2.2).1).1).2<;>rw[e6]at h<;>try (cases h;done)
   have hn:(0:RE)<=of r.2.2:=gr.2 (by have:=an4 e4;grind);exact kX (jl e1) (mY (jl e2) (zp (jl e3) hn e5) e6) h
theorem Js{n:Rat}{a:Iv}{k:Bool}{x:RE}(ha:k=true->inI a x)(h:(kJ n a k).2=true):inI (kJ n a k).1 (of n*x):=by
 unfold kJ at h ⊢;cases k
 ·cases h
 ·cases e:(frF n).2<;>rw[e]at h
  ·cases h
  ·exact mY (jl e) (ha rfl) h
theorem I2{r:Rt}{q:Rat}(h:(fW r q).2=true):inI (fW r q).1 (v2 r.1 r.2.1 r.2.2+ -of q):=by
 unfold fW at h ⊢;cases e1:(bJ r).2<;>cases e2:(frF q).2<;>rw[e1,e2]at h<;>try (cases h;done)
 exact kX (qu e1) (DM (jl e2)) h
theorem WC(x y:RE)(h1:x<y):x-y<0:=by grind
theorem agI(u x y a b:RE):((b-(a)))+((a-(u*x)))+((u*y-(b)))+((u-(0))*(x-(y)))=0:=by grind
theorem ap1(u x y a b:RE)(h1:0<u)(h2:u*x<=a)(h3:a<b)(h4:b<=u*y):x<y:=td.1 λhg=>far (aK (aK (aK (aL h3) (aG h2)) (aG h4)) (aD (le_of_lt (aL h1)) (aG hg))) (agI u x y a b)
theorem apF_ok{a b:Rt}(h:(apF a b).2=true):(apF a b).1=sg (vR a-vR b):=by
 unfold apF at h ⊢;cases e1:(bJ a).2<;>cases e2:(bJ b).2<;>rw[e1,e2]at h<;>try (cases h;done)
 obtain⟨a1,a2⟩:=qu e1;obtain⟨b1,b2⟩:=qu e2;cases e3:decide ((bJ a).1.2<(bJ b).1.1)<;>rw[e3]at h
 ·cases e4:decide ((bJ a).1.1>(bJ b).1.2)<;>rw[e4]at h
  ·cases h
  ·have h4:of ((bJ b).1.2:Rat)<of ((bJ a).1.1:Rat):=fS (apD.2 (anf e4));exact(dD (aL (ap1 _ _ _ _ _ qi b2 h4 a1))).symm
 ·have h4:of ((bJ a).1.2:Rat)<of ((bJ b).1.1:Rat):=fS (apD.2 (anf e3));exact(iw (WC _ _ (ap1 _ _ _ _ _ qi a2 h4 b1))).symm
theorem W2{l:Ln}{p:Pt}(h:(zU l p).2=true):(zU l p).1=sg (of l.1*v2 p.1 p.2.1 p.2.2.2.2+of l.2.1*v2 p.2.2.1 p.2.2.2.1 p.2.2.2.2+ -of l.2.2):=by
 unfold zU at h ⊢;cases e1:(kJ l.1 (bJ (pxR p)).1 (bJ (pxR p)).2).2<;>cases e2:(kJ l.2.1 (bJ (pyR p)).1 (bJ (pyR p)).2).2<;>cases e3:(frF l.2.2).2<;>rw[e1,e2,e3]at h<;>try (cases h;done)
 have i1:=Js (x:=v2 p.1 p.2.1 p.2.2.2.2) (λe=>qu (r:=pxR p) e) e1;have i2:=Js (x:=v2 p.2.2.1 p.2.2.2.1 p.2.2.2.2) (λe=>qu (r:=pyR p) e) e2;revert h i1 i2;generalize kJ l.1 (bJ (pxR p)).1 (bJ (pxR p)).2=X;generalize kJ l.2.1 (bJ (pyR p)).1 (bJ (pyR p)).2=Y;intro h i1 i2;cases e4:(dY X.1 Y.1).2<;>rw[e4]at h<;>try (cases h;done)
 cases e5:(dY (dY X.1 Y.1).1 (ot (frF l.2.2).1)).2<;>rw[e5]at h<;>try (cases h;done)
 exact G9 (kX (kX i1 i2 e4) (DM (jl e3)) e5) h
theorem UJ{c:Ln}{p:Pt}(h:(wm c p).2=true):(wm c p).1=sg ((v2 p.1 p.2.1 p.2.2.2.2+ -of c.1)*(v2 p.1 p.2.1 p.2.2.2.2+ -of c.1)+(v2 p.2.2.1 p.2.2.2.1 p.2.2.2.2+ -of c.2.1)*(v2 p.2.2.1 p.2.2.2.1 p.2.2.2.2+ -of c.2.1)+ -of c.2.2):=by
 unfold wm at h ⊢;cases e1:(fW (pxR p) c.1).2<;>cases e2:(fW (pyR p) c.2.1).2<;>cases e3:(frF c.2.2).2<;>rw[e1,e2,e3]at h<;>try (cases h;done)
 have i1:=I2 e1;have i2:=I2 e2;revert h;generalize fW (pxR p) c.1=X at*
 generalize fW (pyR p) c.2.1=Y at*
 intro h;cases e4:(cO X.1 X.1).2<;>cases e5:(cO Y.1 Y.1).2<;>rw[e4,e5]at h<;>try (cases h;done)
 cases e6:(dY (cO X.1 X.1).1 (cO Y.1 Y.1).1).2<;>rw[e6]at h<;>try (cases h;done)
 cases e7:(dY (dY (cO X.1 X.1).1 (cO Y.1 Y.1).1).1 (ot (frF c.2.2).1)).2<;>rw[e7]at h<;>try (cases h;done)
 exact G9 (kX (kX (mY i1 i1 e4) (mY i2 i2 e5) e6) (DM (jl e3)) e7) h
theorem afY(a b c d:RE):a+b+(c+d)=a+b+c+d:=by grind
theorem quF_ok{q:Qd}(hM:0<=q.2.2.2.2.1)(hN:0<=q.2.2.2.2.2)(h:(quF q).2=true):(quF q).1=sg (vQ q.1 q.2.1 q.2.2.1 q.2.2.2.1 q.2.2.2.2.1 q.2.2.2.2.2):=by
 unfold quF at h ⊢;cases e1:qu1 q<;>rw[e1]at h<;>try (cases h;done)
 cases e2:qu2 q<;>rw[e2]at h<;>try (cases h;done)
 cases e3:qu3 q<;>rw[e3]at h<;>try (cases h;done)
 unfold qu1 at e1;unfold qu2 at e2;unfold qu3 at e3;simp only[ang]at e1 e2 e3;obtain⟨⟨⟨a1,a2⟩,a3⟩,a4⟩:=e1;obtain⟨⟨⟨⟨⟨⟨b1,b2⟩,b3⟩,b4⟩,b5⟩,b6⟩,b7⟩:=e2;obtain⟨⟨⟨c1,c2⟩,c3⟩,c4⟩:=e3;have i1:inI (sfF q.2.2.2.2.1) (rq q.2.2.2.2.1):=zp (jl a1) (gr.2 hM) a2;have i2:inI (sfF q.2.2.2.2.2) (rq q.2.2.2.2.2):=zp (jl a3) (gr.2 hN) a4
 have hq:inI (dY (quA q).1 (quB q).1).1 (vQ q.1 q.2.1 q.2.2.1 q.2.2.2.1 q.2.2.2.2.1 q.2.2.2.2.2):=by
  have:=kX (kX (jl c1) (mY (jl b1) i1 b2) c2) (kX (mY (jl b3) i2 b4) (mY (jl b5) (mY i1 i2 b6) b7) c3) c4;rw[afY]at this;exact this
 exact G9 hq h
end RE
end Go.Proofs.YtagbmoohboleaaaGreat
end
