/- The reference's Sqrt and Same. -/
import Derived.Test.YtnkndpoojnflmaaGreatA10
noncomputable section
namespace Go.Proofs.YtnkndpoojnflmaaGreat
open Go.RowKit Go.IntKind
theorem amP:type_of% @Bool.and_eq_true_iff:=@Bool.and_eq_true_iff
theorem aox:type_of% @Int.zero_sub:=@Int.zero_sub
theorem aoA:type_of% @beq_eq_false_iff_ne:=@beq_eq_false_iff_ne
theorem aoB:type_of% @Rat.intCast_mul:=@Rat.intCast_mul
theorem aoT:type_of% @decide_eq_true_eq:=@decide_eq_true_eq
theorem ao4:type_of% @Rat.intCast_lt_intCast:=@Rat.intCast_lt_intCast
theorem mU(a b:Int):(cB a b==0)=decide (a=b):=by
 rcases Int.lt_trichotomy a b with h|h|h
 ·rw[db h,amG (by omega)];rfl
 ·rw[h,dW,amE rfl];rfl
 ·rw[cV h,amG (by omega)];rfl
def PM:List En:=[enK AN,enF PF,enK BT,enK E0,enK Ri]
def V3:NT:=[((345,23),{keep:=[1,2,4,5],hl:=6})]
def AU:Ctx:=CX (ens PM) V3
def kU(x:Bool×List Int)(b4_0:Bool)(b4_1:List Int):Cfg:=⟨345,[.blk 0],[(1,.box 0 0),(2,.box 1 0),(4,.box 4 0),(5,.box 5 0)],[.box 29 [SB x.1,.d apX x.2],.box 29 [SB false,.nil],.gone,.row 225 apZ ([1]),.box 29 [SB b4_0,.d apX b4_1],.box 29 [SB ((ai (2:Int)).1),.d apX ((ai (2:Int)).2)]],0,[]⟩
def Co(x:Bool×List Int)(k:KT):OLR:=match x.1 with|true=>some [RV.d y2Y (false,[]),RV.d apY 7]|false=>(match(x.2.length:Int)==0 with|true=>some [RV.d y2Y (false,[]),RV.d apY 0]|false=>(og (decide ((0:Int)≤i64.wrap (Int.tdiv (i64.wrap ((x.2.length:Int)+1)) 2)∧(i64.wrap (Int.tdiv (i64.wrap ((x.2.length:Int)+1)) 2))*((4:Nat):Int)≤140737488355328∧i64.wrap (Int.tdiv (i64.wrap ((x.2.length:Int)+1)) 2)≤140737488355328)) (og (decide (((List.replicate (i64.wrap (Int.tdiv (i64.wrap ((x.2.length:Int)+1)) 2)).toNat (0:Int)).length+([1]).length)*4≤140737488355328∧(List.replicate (i64.wrap (Int.tdiv (i64.wrap ((x.2.length:Int)+1)) 2)).toNat (0:Int)).length+([1]).length≤140737488355328)) (og (decide (aG (2:Int))) (k 23 (kU x false ((List.replicate (i64.wrap (Int.tdiv (i64.wrap ((x.2.length:Int)+1)) 2)).toNat (0:Int))++([1]))))))))
theorem Fz(x:Bool×List Int):RS AU 345 [.d y2Y x] (Co x):=rsX
def ro(x:Bool×List Int)(b4_0:Bool)(b4_1:List Int)(k:KT):OLR:=og (decide (fv x (b4_0,b4_1))) (cj (og (decide (okI (b4_0,b4_1)∧okI (ai (ae x/ae (b4_0,b4_1))))) (cj (og (decide (fv (ai (ae (b4_0,b4_1)+ae (ai (ae x/ae (b4_0,b4_1))))) (ai (2:Int)))) (dup (.b .l .l) (og (decide (okI (ai (ae (ai (ae (b4_0,b4_1)+ae (ai (ae x/ae (b4_0,b4_1)))))/ae (ai (2:Int))))∧okI (b4_0,b4_1))) (match decide ((cB (ae (ai (ae (ai (ae (b4_0,b4_1)+ae (ai (ae x/ae (b4_0,b4_1)))))/ae (ai (2:Int))))) (ae (b4_0,b4_1)))≥0)with|true=>some [RV.d y2Y (b4_0,b4_1),RV.d apY 0]|false=>k 23 (kU x ((ai (ae (ai (ae (b4_0,b4_1)+ae (ai (ae x/ae (b4_0,b4_1)))))/ae (ai (2:Int)))).1) ((ai (ae (ai (ae (b4_0,b4_1)+ae (ai (ae x/ae (b4_0,b4_1)))))/ae (ai (2:Int)))).2)))))) (dup (.b (.b .l .l) (.b .l .l)) (og (decide (fv (ai (ae (b4_0,b4_1)+ae (ai (ae x/ae (b4_0,b4_1))))) (ai (2:Int)))) (og (decide (okI (ai (ae (ai (ae (b4_0,b4_1)+ae (ai (ae x/ae (b4_0,b4_1)))))/ae (ai (2:Int))))∧okI (b4_0,b4_1))) (match decide ((cB (ae (ai (ae (ai (ae (b4_0,b4_1)+ae (ai (ae x/ae (b4_0,b4_1)))))/ae (ai (2:Int))))) (ae (b4_0,b4_1)))≥0)with|true=>some [RV.d y2Y (b4_0,b4_1),RV.d apY 0]|false=>k 23 (kU x ((ai (ae (ai (ae (b4_0,b4_1)+ae (ai (ae x/ae (b4_0,b4_1)))))/ae (ai (2:Int)))).1) ((ai (ae (ai (ae (b4_0,b4_1)+ae (ai (ae x/ae (b4_0,b4_1)))))/ae (ai (2:Int)))).2)))))))) (dup (.b .l .l) (cj (og (decide (okI (b4_0,b4_1)∧okI (ai (ae x/ae (b4_0,b4_1))))) (dup (.b .l .l) (og (decide (fv (ai (ae (b4_0,b4_1)+ae (ai (ae x/ae (b4_0,b4_1))))) (ai (2:Int)))) (og (decide (okI (ai (ae (ai (ae (b4_0,b4_1)+ae (ai (ae x/ae (b4_0,b4_1)))))/ae (ai (2:Int))))∧okI (b4_0,b4_1))) (match decide ((cB (ae (ai (ae (ai (ae (b4_0,b4_1)+ae (ai (ae x/ae (b4_0,b4_1)))))/ae (ai (2:Int))))) (ae (b4_0,b4_1)))≥0)with|true=>some [RV.d y2Y (b4_0,b4_1),RV.d apY 0]|false=>k 23 (kU x ((ai (ae (ai (ae (b4_0,b4_1)+ae (ai (ae x/ae (b4_0,b4_1)))))/ae (ai (2:Int)))).1) ((ai (ae (ai (ae (b4_0,b4_1)+ae (ai (ae x/ae (b4_0,b4_1)))))/ae (ai (2:Int)))).2))))))) (og (decide (okI (b4_0,b4_1)∧okI (ai (ae x/ae (b4_0,b4_1))))) (og (decide (fv (ai (ae (b4_0,b4_1)+ae (ai (ae x/ae (b4_0,b4_1))))) (ai (2:Int)))) (og (decide (okI (ai (ae (ai (ae (b4_0,b4_1)+ae (ai (ae x/ae (b4_0,b4_1)))))/ae (ai (2:Int))))∧okI (b4_0,b4_1))) (match decide ((cB (ae (ai (ae (ai (ae (b4_0,b4_1)+ae (ai (ae x/ae (b4_0,b4_1)))))/ae (ai (2:Int))))) (ae (b4_0,b4_1)))≥0)with|true=>some [RV.d y2Y (b4_0,b4_1),RV.d apY 0]|false=>k 23 (kU x ((ai (ae (ai (ae (b4_0,b4_1)+ae (ai (ae x/ae (b4_0,b4_1)))))/ae (ai (2:Int)))).1) ((ai (ae (ai (ae (b4_0,b4_1)+ae (ai (ae x/ae (b4_0,b4_1)))))/ae (ai (2:Int)))).2)))))))))
theorem ya(x:Bool×List Int)(b4_0:Bool)(b4_1:List Int):RN AU 23 (kU x b4_0 b4_1) (ro x b4_0 b4_1):=rnX
theorem Kc(x:BI)(hx:okI x)(h0:0<ae x):∀(m:Nat) (X:Int),X.toNat=m→0<X→bL (ae x)≤X→szI X≤900000→AU.Runs 23 (kU x (ai X).1 (ai X).2) [.d y2Y (ai (bL (ae x))),.d apY 0]:=by
 intro m;induction m using Nat.strongRecOn with
 |ind m ih=>
  intro X hm hX hs hsz;obtain⟨g0,g1,g2⟩:=gb (ank h0);have hq0:0≤ae x/X:=anH (by omega) (by omega);have hq1:ae x/X≤ae x:=aov _ (by omega);have oX:okI (ai X):=aV (by omega);have sq:szI (ae x/X)≤1000000:=amS (dA (by omega)) (iK hx);have p1:fv x (ai X):=⟨hx,oX,by rw[dec_enc];exact hX⟩
  have ssum:szI (X+ae x/X)≤1000000:=by
   have b1:=nt hsz;have b2:=nt (iK hx);have e:pw 1000000=pw 900000*pw 100000:=by rw[←fC]
   have p9:(1000:Int)≤pw 100000:=by
    have:pw 100000=pw 99999*1000000000:=cf 99999;have:=cA 99999;omega
   have p8:=cA 900000;have h8:pw 900000*1000≤pw 900000*pw 100000:=amM p9 (by omega);rcases am8 X 2 with hX1|hX1
   ·-- X=1:then the number is less than 4
    have:X=1:=by omega
    subst this;have:bL (ae x)≤1:=hs
    have h4:ae x<4:=by
     have:=sq_mono (a:=bL (ae x)+1) (b:=2) (by omega) (by omega);omega
    refine fk ?_ ?_<;>(rw[e,Int.ediv_one];omega)
   ·have hq2:ae x/X≤ae x/2:=by
     have:=Int.ediv_mul_le (ae x) (show X≠0 by omega);have h2:ae x/X*2≤ae x/X*X:=amM hX1 hq0;omega
    refine fk ?_ ?_<;>(rw[e]at b2 ⊢;omega)
  have o1:okI (ai X)∧okI (ai (ae x/X)):=⟨oX,aV sq⟩
  have p2:fv (ai (X+ae x/X)) (ai 2):=⟨aV ssum,by decide,by rw[dec_enc];decide⟩
  have hn:=Lo hX g0 g1;have o2:okI (ai ((X+ae x/X)/2))∧okI (ai X):=⟨aV (amS (dA (by omega)) ssum),oX⟩
  by_cases hc:X≤(X+ae x/X)/2
  ·have hXs:=xR hX hs g1 g2 g0 hc;refine ya _ _ _ ⟨0,?_⟩;unfold ro;simp only[cX,eZ];have e:∀z:Int,((ai z).1,(ai z).2)=ai z:=fun z=>rfl;simp only[e,dec_enc,amE p1,amE o1,amE p2,amE o2]
   have hg:decide (cB ((X+ae x/X)/2) X≥0)=true:=by
    rcases Int.lt_or_eq_of_le hc with h|h
    ·rw[cV h];rfl
    ·rw[←h,dW];rfl
   rw[hg,hXs]
  ·obtain⟨n,hN⟩:=ih ((X+ae x/X)/2).toNat (by omega) ((X+ae x/X)/2) rfl (by
    rcases am8 0 (bL (ae x))with h|h
    ·omega
    ·exfalso;have:bL (ae x)=0:=by omega
     rw[this]at g2;omega) hn (amS (dA (by omega)) hsz)
   refine ya _ _ _ ⟨n,?_⟩;unfold ro;simp only[cX,eZ];have e:∀z:Int,((ai z).1,(ai z).2)=ai z:=fun z=>rfl;simp only[e,dec_enc,amE p1,amE o1,amE p2,amE o2];rw[db (by omega)];exact hN
def acD:Cn 345 [y2Y]:=cn fun(x:Bool×List Int)=>lf (okI x) [.d y2Y (fO x),.d apY (vN x)] fun h=>by
 refine c8 PM (show AU.Res _ _ _ from ?_);obtain⟨x0,x1,x2⟩:=cL h;have hl:=h.2.2;cases hn:x.1
 ·by_cases hz:x.2=[]
  ·refine Fz _ ⟨0,?_⟩;unfold Co fO vN;have:ae x=0:=by unfold ae;rw[hn,hz];rfl
   rw[hn,hz,this];rfl
  ·have hp:0<val x.2:=eK h.1 hz;have hd:ae x=val x.2:=by unfold ae;rw[hn];rfl
   have hlen:=anm.2 hz
   have hk:i64.wrap (Int.tdiv (i64.wrap ((x.2.length:Int)+1)) 2)=(((x.2.length+1)/2:Nat):Int):=by
    rw[b8 (by omega),gW (by omega),aT (by omega) (by omega)];omega
   have hv:val (List.replicate ((x.2.length+1)/2) 0++[1])=pw ((x.2.length+1)/2):=by
    rw[dw,gJ,apa];simp[val]
   have hL:aR (List.replicate ((x.2.length+1)/2) 0++[1]):=by
    refine⟨fun y hy=>?_,by simp;omega⟩;rcases ano.1 hy with hy|hy
    ·have:=List.eq_of_mem_replicate hy;omega
    ·simp at hy;omega
   have hpos:=cA ((x.2.length+1)/2)
   obtain⟨n,hN⟩:=Kc x h (by omega) _ (pw ((x.2.length+1)/2)) rfl hpos (by
     obtain⟨g0,g1,g2⟩:=gb (show 0≤ae x by omega);have hlt:=b9 h.1.1;have hm:=dl (show x.2.length≤(x.2.length+1)/2+(x.2.length+1)/2 by omega);rw[fC]at hm;have:=sq_lt (a:=bL (ae x)) (b:=pw ((x.2.length+1)/2)) (by omega) (by omega)
     omega) (fk (k:=900000) (by have:=cA 900000;omega) (by
      have:=dl (show(x.2.length+1)/2+1≤900000 by omega);rw[cf]at this;omega))
   refine Fz _ ⟨n,?_⟩;unfold Co fO vN;simp only[hk];rw[hn,show((x.2.length:Int)==0)=false by simp;omega];simp only[aoi];rw[amE (show(0:Int)≤(((x.2.length+1)/2:Nat):Int)∧(((x.2.length+1)/2:Nat):Int)*((4:Nat):Int)≤140737488355328∧(((x.2.length+1)/2:Nat):Int)≤140737488355328 by omega)];rw[amE (show((List.replicate ((x.2.length+1)/2) (0:Int)).length+([1]:List Nat).length)*4≤140737488355328∧(List.replicate ((x.2.length+1)/2) (0:Int)).length+([1]:List Nat).length≤140737488355328 by simp;omega)];rw[amE (show aG 2 by decide)]
   have he:ai (pw ((x.2.length+1)/2))=(false,List.replicate ((x.2.length+1)/2) 0++[1]):=by
    have ho:okI ((false,List.replicate ((x.2.length+1)/2) 0++[1]):BI):=⟨⟨hL.1,by simp⟩,(fun e=>by cases e),(by simp;omega)⟩
    rw[io ho];congr 1;exact hv.symm
   rw[he]at hN;exact hN
 ·refine Fz _ ⟨0,?_⟩;unfold Co fO vN;rw[hn];rfl
def afX:List En:=enF xp::PM
def Pz(x y:Bool×List Int)(_k:KT):OLR:=match x.1==y.1 with|true=>(og (decide (ru x.2 y.2)) (some [RV.d .bool ((cB (val x.2) (val y.2))==0)]))|false=>some [RV.d .bool false]
def Qi:Cn 324 [y2Y,y2Y]:=cn fun(x y:Bool×List Int)=>lf (okI x∧okI y) [.d .bool (decide (ae x=ae y))] fun h=>by
 refine aA afX (Pz x y) ⟨0,?_⟩;obtain⟨hx,hy⟩:=h;obtain⟨x0,x1,x2⟩:=cL hx;obtain⟨y0,y1,y2⟩:=cL hy;unfold Pz;rw[dT (show ru x.2 y.2 from⟨⟨hx.1,by have:=hx.2.2;omega⟩,⟨hy.1,by have:=hy.2.2;omega⟩⟩)];rw[bO,bO];unfold cg;cases ex:x.1<;>cases ey:y.1<;>simp only[cond_true,cond_false]
 ·show some [RV.d .bool (cB (val x.2) (val y.2)==0)]=_;rw[mU]
 ·have:=y1 ey;rw[amG (show ¬val x.2= -val y.2 by omega)];rfl
 ·have:=x1 ex;rw[amG (show ¬ -val x.2=val y.2 by omega)];rfl
 ·show some [RV.d .bool (cB (val x.2) (val y.2)==0)]=_;rw[mU,show decide (val x.2=val y.2)=decide (-val x.2= -val y.2) from anq.2 (by omega)]
def fA(q:Rat):Bool:=decide (bL q.num*bL q.num=q.num)&&decide (bL (q.den:Int)*bL (q.den:Int)=(q.den:Int))
def rtQ(q:Rat):Rat:=mkRat (bL q.num) (bL (q.den:Int)).toNat
theorem BJ(z:Int):0≤bL z:=by unfold bL;omega
theorem BB{s:Int}(h:0≤s):bL (s*s)=s:=UG h (Int.le_refl _) (by grind)
theorem pK{z:Int}(h:z<0):bL z=0:=by
 unfold bL;rw[show z.toNat=0 by omega];rfl
theorem afa{s t:Nat}(ht:0<t)(hg:(s*s).Coprime (t*t)):(mkRat (s:Int) t).num=(s:Int)∧(mkRat (s:Int) t).den=t:=by
 have hc:s.Coprime t:=Nat.Coprime.coprime_dvd_left (Nat.dvd_mul_left s s) (Nat.Coprime.coprime_dvd_right (Nat.dvd_mul_left t t) hg);rw[apC,apD,am0 (by omega),am0 (by omega),aob,show t.gcd s=1 from hc.symm];simp
theorem FX{q:Rat}(h:fA q=true):(rtQ q).num=bL q.num∧((rtQ q).den:Int)=bL (q.den:Int)∧rtQ q*rtQ q=q∧0≤rtQ q:=by
 unfold fA at h;simp only[amI,aoT]at h;obtain⟨h1,h2⟩:=h;have hd:=q.den_pos;have hr:=q.reduced;obtain⟨s,hs⟩:=anO (BJ q.num);obtain⟨t,ht⟩:=anO (BJ (q.den:Int));unfold rtQ;rw[hs,ht,aoi];rw[hs]at h1;rw[ht]at h2;have e1:q.num.natAbs=s*s:=by rw[←h1,←an9,aob]
 have e2:q.den=t*t:=by rw[←an9]at h2;omega
 have hg:(s*s).Coprime (t*t):=by rw[←e1,←e2];exact hr
 have tp:0<t:=Nat.pos_of_ne_zero fun e=>by rw[e2,e]at hd;simp at hd
 obtain⟨g1,g2⟩:=afa tp hg;refine⟨g1,by rw[g2],?_,?_⟩
 ·rw[Rat.mkRat_mul_mkRat,←e2,h1,Rat.mkRat_self]
 ·exact Rat.num_nonneg.1 (by rw[g1];omega)
theorem Vh(r:Rat):fA (r*r)=true:=by
 have hd:=r.den_pos
 have hc:(r.den*r.den).gcd (r.num*r.num).natAbs=1:=by
  rw[apr];have:=r.reduced.symm;exact Nat.Coprime.mul_left (Nat.Coprime.mul_right this this) (Nat.Coprime.mul_right this this)
 have e1:(r*r).num=r.num*r.num:=by
  rw[Rat.mul_def',apC,hc,am0 (ape (by omega) (by omega))];simp
 have e2:((r*r).den:Int)=(r.den:Int)*(r.den:Int):=by
  rw[Rat.mul_def',apD,hc,am0 (ape (by omega) (by omega)),Nat.div_one,an9]
 unfold fA;rw[e1,e2,BB (s:=(r.den:Int)) (by omega)];rcases am8 r.num 0 with h|h
 ·rw[show r.num*r.num= -r.num* -r.num by grind,BB (by omega)];simp
 ·rw[BB h];simp
def rtB(q:Rat):BR:=bif fA q then ak (rtQ q)else((false,[]),(false,[]))
theorem Bf{x:BI}(h:okI x):fO x=ai (bL (ae x)):=by
 obtain⟨x0,x1,x2⟩:=cL h;unfold fO;cases hx:x.1
 ·rfl
 ·have:=x1 hx;have hd:ae x= -val x.2:=by rw[bO,hx];rfl
  rw[hd,pK (by omega)];rfl
theorem Js{z:Int}(h:szI z≤1000000):szI (bL z)≤500000:=by
 have h1:=nt h;have e:pw 1000000=pw 500000*pw 500000:=by rw[←fC]
 have hp:=cA 500000;rcases am8 z 0 with h0|h0
 ·rw[pK h0];exact fk (by omega) hp
 ·obtain⟨g0,g1,g2⟩:=gb h0;have:=sq_lt (a:=bL z) (b:=pw 500000) (by omega) (by omega);exact fk (by omega) this
theorem NQ(a b:Int):(ai a==ai b)=decide (a=b):=by
 by_cases h:a=b
 ·rw[h,amE rfl];simp
 ·rw[amG h,aoA];intro e;exact h (by rw[←dec_enc a,e,dec_enc])
theorem Hx{x y:BI}(hx:okI x)(hy:okI y):(x==y)=decide (ae x=ae y):=by
 rw[io hx,io hy,NQ,dec_enc,dec_enc]
def E3:eg:=spN true true [tI,tI] (fun x=>decide (okI x.1∧okI x.2.1)) (fun x=>[RV.d apY (cB (ae x.1) (ae x.2.1))])
theorem D6:SpK 172 E3:=spX fun x h=>Ix x.1 x.2.1 (amH h)
def GM:eg:=spN false true [tI,tI] (fun x=>decide (okI x.1∧okI x.2.1)) (fun x=>[RV.d tI (hid (ai (ae x.1*ae x.2.1)))])
theorem ET:SpK 173 GM:=spX fun x h=>by simp only[bK];exact Hw x.1 x.2.1 (amH h)
def XG:List En:=[⟨172,E3,D6⟩,⟨173,GM,ET⟩,enL WW]
def aak(x:BI)(_k:KT):OLR:=og (decide (okI x)) (match(vN x)==0 with|true=>(og (decide (okI (hid (fO x))∧okI (hid (fO x)))) (og (decide (okI (hid (ai (ae (hid (fO x))*ae (hid (fO x)))))∧okI x)) (some [RV.d tI (hid (fO x)),RV.d .bool ((cB (ae (hid (ai (ae (hid (fO x))*ae (hid (fO x)))))) (ae x))==0)])))|false=>some [RV.d tI (hid (fO x)),RV.d .bool false])
def ae9:Cn 330 [tI]:=cn fun(x:BI)=>lf (okI x) [.d tI (ai (bL (ae x))),.d .bool (decide (bL (ae x)*bL (ae x)=ae x))] fun h=>by
 refine aA XG (aak x) ⟨0,?_⟩;have hs:=iK h;have hz:szI (bL (ae x))≤500000:=Js hs;have o1:okI (ai (bL (ae x))):=aV (by omega);have o2:okI (ai (bL (ae x)*bL (ae x))):=aV (by have:=cW hz hz;omega);have o3:okI (ai (bL (ae x)*bL (ae x)))∧okI x:=⟨o2,h⟩
 have o4:okI (ai (bL (ae x)))∧okI (ai (bL (ae x))):=⟨o1,o1⟩
 have hng:x.1=true→decide (bL (ae x)*bL (ae x)=ae x)=false:=fun e=>amG (by
  have:=(cL h).2.1 e;have hd:ae x= -val x.2:=by rw[bO,e];rfl
  rw[pK (by omega)];omega)
 unfold aak;simp only[bK,Bf h,dec_enc,dT h,dT o4,dT o3,mU];unfold vN;cases e:x.1
 ·rfl
 ·rw[hng e];rfl
def ai8:List En:=enL ae9::XG
def Yd(a:BR)(_k:KT):OLR:=og (decide (okI a.1)) (match decide (bL (ae a.1)*bL (ae a.1)=ae a.1)with|true=>(og (decide (okI a.2)) (match decide (bL (ae a.2)*bL (ae a.2)=ae a.2)with|true=>some [RV.d tR (hid (ai (bL (ae a.1))),hid (ai (bL (ae a.2)))),RV.d .bool true]|false=>some [RV.d tR ((false,[]),(false,[])),RV.d .bool false]))|false=>some [RV.d tR ((false,[]),(false,[])),RV.d .bool false])
def Xf:Cn 291 [tR]:=cn fun(a:BR)=>lf (okR a) [.d tR (rtB (ag a)),.d .bool (fA (ag a))] fun h=>by
 refine aA ai8 (Yd a) ⟨0,?_⟩;obtain⟨a1,a2⟩:=cS h;unfold Yd rtB fA;rw[dT h.1,dT h.2.1,a1,a2];simp only[bK];cases e1:decide (bL (ae a.1)*bL (ae a.1)=ae a.1)
 ·rfl
 ·cases e2:decide (bL (ae a.2)*bL (ae a.2)=ae a.2)
  ·rfl
  ·obtain⟨r1,r2,_⟩:=FX (q:=ag a) (by unfold fA;rw[a1,a2,e1,e2];rfl);simp only[aoa,cond_true];unfold ak;rw[r1,r2,a1,a2];try rfl
def Ov:List En:=[enL OZ,enL acD,enT Qi]
def On(x:BI)(_k:KT):OLR:=og (decide (okI x)) (match(vN x)==0 with|true=>(og (decide (okI (hid (fO x))∧okI (hid (fO x)))) (og (decide (okI (hid (ai (ae (hid (fO x))*ae (hid (fO x)))))∧okI x)) (some [RV.d tI (hid (fO x)),RV.d .bool (decide (ae (hid (ai (ae (hid (fO x))*ae (hid (fO x)))))=ae x))])))|false=>some [RV.d tI (hid (fO x)),RV.d .bool false])
def acj:Cn 313 [tI]:=cn fun(x:BI)=>lf (okI x) [.d tI (ai (bL (ae x))),.d .bool (decide (bL (ae x)*bL (ae x)=ae x))] fun h=>by
 refine aA Ov (On x) ⟨0,?_⟩;have hs:=iK h;have hz:szI (bL (ae x))≤500000:=Js hs;have o1:okI (ai (bL (ae x))):=aV (by omega);have o2:okI (ai (bL (ae x)*bL (ae x))):=aV (by have:=cW hz hz;omega);have o3:okI (ai (bL (ae x)*bL (ae x)))∧okI x:=⟨o2,h⟩
 have o4:okI (ai (bL (ae x)))∧okI (ai (bL (ae x))):=⟨o1,o1⟩
 have hng:x.1=true→decide (bL (ae x)*bL (ae x)=ae x)=false:=fun e=>amG (by
  have:=(cL h).2.1 e;have hd:ae x= -val x.2:=by rw[bO,e];rfl
  rw[pK (by omega)];omega)
 unfold On;simp only[bK,Bf h,dec_enc,dT h,dT o4,dT o3];unfold vN;cases e:x.1
 ·rfl
 ·rw[hng e];rfl
def aez:List En:=enL acj::Ov
def N5(a:BR)(_k:KT):OLR:=og (decide (okI a.1)) (og (decide (okI a.2)) (match !(decide (bL (ae a.1)*bL (ae a.1)=ae a.1))with|true=>some [RV.d tR ((false,[]),(false,[])),RV.d .bool false]|false=>(match !(decide (bL (ae a.2)*bL (ae a.2)=ae a.2))with|true=>some [RV.d tR ((false,[]),(false,[])),RV.d .bool false]|false=>some [RV.d tR (hid (ai (bL (ae a.1))),hid (ai (bL (ae a.2)))),RV.d .bool true])))
def Qo:Cn 242 [tR]:=cn fun(a:BR)=>lf (okR a) [.d tR (rtB (ag a)),.d .bool (fA (ag a))] fun h=>by
 refine aA aez (N5 a) ⟨0,?_⟩;obtain⟨a1,a2⟩:=cS h;unfold N5 rtB fA;rw[dT h.1,dT h.2.1,a1,a2];simp only[bK];cases e1:decide (bL (ae a.1)*bL (ae a.1)=ae a.1)
 ·rfl
 ·cases e2:decide (bL (ae a.2)*bL (ae a.2)=ae a.2)
  ·rfl
  ·obtain⟨r1,r2,_⟩:=FX (q:=ag a) (by unfold fA;rw[a1,a2,e1,e2];rfl);simp only[aoa,cond_true];unfold ak;rw[r1,r2,a1,a2];try rfl
def Oj:eg:=spN false true [tI,tI] (fun x=>decide (fv x.1 x.2.1)) (fun x=>[RV.d tI (hid (ai (ae x.1/ae x.2.1))),RV.d tI (hid (ai (ae x.1%ae x.2.1))),RV.d apY 0])
theorem Rx:SpK 341 Oj:=spX fun x h=>by simp only[bK];exact Ja x.1 x.2.1 (amH h)
def ahJ:List En:=[⟨341,Oj,Rx⟩]
def Yj(a:BR)(_k:KT):OLR:=og (decide (fv a.1 a.2)) (some [RV.d tI (hid (ai (ae a.1/ae a.2)))])
def Rw:Cn 355 [tR]:=cn fun(a:BR)=>lf (okR a) [.d tI (ai (ag a).floor)] fun h=>by
 refine aA ahJ (Yj a) ⟨0,?_⟩;obtain⟨a1,a2⟩:=cS h;unfold Yj;rw[dT (show fv a.1 a.2 from⟨h.1,h.2.1,h.2.2.1⟩),Rat.floor_def,a1,a2];simp only[bK]
def Z1:List En:=[enK xf]
def TL:NT:=[((323,6),{keep:=[1,3],hl:=1})]
def A6:Ctx:=CX (ens Z1) TL
def ww(x:BI)(s3:Int):Cfg:=⟨323,[.blk 0,.seq 23],[(1,.box 0 0),(3,SI s3)],[.box 29 [SB x.1,.d apX x.2]],0,[]⟩
def aeg(x:BI)(k:KT):OLR:=k 6 (ww x 0)
theorem aei(x:BI):RS A6 323 [.d tI x] (aeg x):=rsX
def uA(x:BI)(s3:Int)(k:KT):OLR:=match decide (s3<(x.2.length:Int))with|true=>(match aS x.2 s3 with|some x1=>(match decide (x1≥1000000000)with|true=>some [RV.d .bool false]|false=>k 6 (ww x (i64.wrap (s3+1))))|none=>none)|false=>(og (decide (aR x.2)) (match((ah (val x.2).toNat).length:Int)==(x.2.length:Int)with|true=>(match !x.1 with|true=>some [RV.d .bool true]|false=>some [RV.d .bool (decide ((x.2.length:Int)>0))])|false=>some [RV.d .bool false]))
theorem zM(x:BI)(s3:Int):RN A6 6 (ww x s3) (uA x s3):=rnX
theorem J9(x:BI)(h:okI x):∀(j i:Nat),i+j=x.2.length→A6.Runs 6 (ww x (i:Int)) [.d .bool true]:=by
 obtain⟨x0,x1,x2⟩:=cL h;have hlim:=ge h;have hl:=h.2.2;intro j;induction j with
 |zero=>
  intro i hi;refine zM _ _ ⟨0,?_⟩;unfold uA;have hc:ah (val x.2).toNat=x.2:=(pP h.1).symm;rw[ce (by omega),dT hlim,hc,beq_self_eq_true];dsimp only;cases e:x.1
  ·rfl
  ·have:=x1 e;have:x.2≠[]:=fun e=>by rw[x2]at e;omega
   have:=anm.2 this;rw[amE (by omega)];rfl
 |succ j ih=>
  intro i hi;have hil:i<x.2.length:=by omega
  obtain⟨q,hq⟩:=ih (i+1) (by omega);refine zM _ _ ⟨q,?_⟩;unfold uA;have hb:=(hlim.1 x.2[i] (ane hil)).2;rw[bI hil,av,amF hil,b8 (by omega)];dsimp only;rw[amG (by omega)];exact hq
def adC:Cn 323 [tI]:=cn fun(x:BI)=>lf (okI x) [.d .bool true] fun h=>by
 refine c8 Z1 (show A6.Res _ _ _ from ?_);obtain⟨q,hq⟩:=J9 x h x.2.length 0 (by omega);exact aei _ ⟨q,hq⟩
def aha:List En:=[enT Qi,enT adC,enT Pa,enL K8,enL MW]
def SQ(a:BR)(_k:KT):OLR:=og (decide (okI a.1)) (og (decide (okI a.2)) (og (decide (okI a.2)) (match(cB (ae a.2) 0) !=1 with|true=>some [RV.d .bool false]|false=>(og (decide (okI a.1∧okI a.2)) (og (decide (okI (hid (ai ((Int.gcd (ae a.1) (ae a.2):Nat):Int)))∧okI (hid (ai 1)))) (some [RV.d .bool (decide (ae (hid (ai ((Int.gcd (ae a.1) (ae a.2):Nat):Int)))=ae (hid (ai 1))))]))))))
def acy:Cn 272 [tR]:=cn fun(a:BR)=>lf (okR a) [.d .bool true] fun h=>by
 refine aA aha (SQ a) ⟨0,?_⟩;obtain⟨h1,h2,h3,h4,_⟩:=h;have o1:okI (ai ((Int.gcd (ae a.1) (ae a.2):Nat):Int)):=by rw[h4];exact qA
 unfold SQ;simp only[bK];rw[dT h1,dT h2,dT (show okI a.1∧okI a.2 from⟨h1,h2⟩),cV h3,dT (show okI (ai ((Int.gcd (ae a.1) (ae a.2):Nat):Int))∧okI (ai 1) from⟨o1,qA⟩),dec_enc,dec_enc,h4];rfl
def mkR(a b c:Rat):Rt:=bif fA c then(a+b*rtQ c,0,0)else bif decide (b=0)then(a,0,0)else(a,b,c)
def coR(a b c:Rat):Rt:=bif decide (b=0)then(a,0,0)else(a,b,c)
class Nn (c:Rat):Prop where le:0≤c
def Wd(x:Rt):Prop:=(x.2.1=0∧x.2.2=0)∨(x.2.1≠0∧0<x.2.2∧fA x.2.2=false)
instance (x:Rt):Decidable (Wd x):=by unfold Wd;infer_instance
class Rdd (x:Rt):Prop where
 rd:Wd x
def okT(k:Nat)(x:BO3):Prop:=ok Rt k x∧Wd (dec x)
instance (k:Nat) (x:BO3):Decidable (okT k x):=by unfold okT;infer_instance
theorem fB{k:Nat}{x:BO3}(h:okT k x):∃v:Rt,x=enc v∧Bd v k∧Rdd v:=by
 obtain⟨h1,h2⟩:=h;obtain⟨v,rfl,bv⟩:=aB h1;rw[az]at h2;exact⟨v,rfl,bv,⟨h2⟩⟩
theorem aH{x:Rt}{j k:Nat}[h:Bd x j][r:Rdd x](hj:j≤k)(hk:k≤480000):decide (okT k (enc x))=true:=amE ⟨amH (okd hj hk),by rw[az];exact r.rd⟩
theorem Rdd.nn{x:Rt}(h:Rdd x):0≤x.2.2:=by
 rcases h.rd with h|h<;>grind
instance amu {x:Rt} [h:Rdd x]:Nn x.2.2:=⟨h.nn⟩
theorem sP:fA 0=true:=by decide+kernel
theorem Iy{c:Rat}(h:0≤c)(hc:fA c=false):0<c:=by
 rcases(by grind:c=0∨0<c)with h|h
 ·rw[h,sP]at hc;cases hc
 ·exact h
instance pO {a b c:Rat} [h:Nn c]:Rdd (mkR a b c):=by
 refine⟨?_⟩;unfold mkR;cases hc:fA c
 ·simp only[cond_false];by_cases hb:b=0
  ·rw[amE hb];exact .inl ⟨rfl,rfl⟩
  ·rw[amG hb];exact .inr ⟨hb,Iy h.le hc,hc⟩
 ·exact .inl ⟨rfl,rfl⟩
instance acH {a:Rat}:Rdd (a,0,0):=⟨.inl ⟨rfl,rfl⟩⟩
namespace RE
theorem QH{c:Rat}(h:fA c=true):rq c=of (rtQ c):=by
 obtain⟨_,_,e,h0⟩:=FX h;refine D1 _ _ (eO c) (fu.2 h0) ?_;rw[cQ (by rw[←e];exact amU h0 h0),←aJ,e]
theorem HQ:rq 0=0:=by
 have:=cQ (Rat.le_refl:(0:Rat)≤0);rcases fU (eO 0)with h|h
 ·have:=mul_pos h h;rw[cQ Rat.le_refl]at this;exact absurd this (lt_irrefl _)
 ·exact h
theorem dv(a c:Rat):v2 a 0 c=of a:=by
 unfold v2;rw[ta,zero_mul,add_zero]
theorem vR_mk(a b c:Rat):vR (mkR a b c)=v2 a b c:=by
 unfold mkR vR;cases hc:fA c
 ·simp only[cond_false];by_cases hb:b=0
  ·rw[amE hb];subst hb;show v2 a 0 0=_;rw[dv,dv]
  ·rw[amG hb];rfl
 ·show v2 (a+b*rtQ c) 0 0=_;rw[dv];unfold v2;rw[QH hc,of_add,aJ]
theorem vR_co(a b c:Rat):vR (coR a b c)=v2 a b c:=by
 unfold coR vR;by_cases hb:b=0
 ·rw[amE hb];subst hb;show v2 a 0 0=_;rw[dv,dv]
 ·rw[amG hb];rfl
end RE
theorem U0{z:Int}(h:0≤z):bL z≤z:=by
 obtain⟨g0,g1,g2⟩:=gb h;rcases am8 (bL z) 1 with h'|h'
 ·omega
 ·have:bL z*1≤bL z*bL z:=amM h' g0;omega
theorem Ez(z:Int):szI (bL z)≤szI z:=by
 have h0:=BJ z;rcases am8 z 0 with h|h
 ·rw[pK h];exact dA (by omega)
 ·have:=U0 h;exact dA (by omega)
instance amm {c:Rat} {k:Nat} [h:Bd c k]:Bd (rtQ c) k:=by
 have hd:=c.den_pos
 have h1:0<bL (c.den:Int):=by
  obtain⟨g0,g1,g2⟩:=gb (show(0:Int)≤(c.den:Int) by omega);rcases am8 0 (bL (c.den:Int))with h|h
  ·exact h
  ·rw[show bL (c.den:Int)=0 by omega]at g2;omega
 refine⟨uD (by omega) (amS (Ez _) h.le.1) ?_⟩;rw[Int.toNat_of_nonneg (by omega)];exact amS (Ez _) h.le.2
instance akW {a b c:Rat} {i j k:Nat} [ha:Bd a i] [hb:Bd b j] [hc:Bd c k]:Bd (mkR a b c) (i+(j+k)+1):=by
 have z:bdR (i+(j+k)+1) 0:=bJ lD.le (by omega);refine⟨?_⟩;unfold mkR;cases fA c
 ·simp only[cond_false];cases decide (b=0)
  ·exact⟨bJ ha.le (by omega),bJ hb.le (by omega),bJ hc.le (by omega)⟩
  ·exact⟨bJ ha.le (by omega),z,z⟩
 ·exact⟨(inferInstance:Bd (a+b*rtQ c) (i+(j+k)+1)).le,z,z⟩
instance ak8 {a b c:Rat} {i j k:Nat} [ha:Bd a i] [hb:Bd b j] [hc:Bd c k]:Bd (coR a b c) (mx i (mx j k)):=by
 have h1:=Cw i (mx j k);have h2:=BX i (mx j k);have h3:=Cw j k;have h4:=BX j k;have h5:=nN ha.le;have z:bdR (mx i (mx j k)) 0:=bJ lD.le (by omega);refine⟨?_⟩;unfold coR;cases decide (b=0)
 ·exact⟨bJ ha.le (by omega),bJ hb.le (by omega),bJ hc.le (by omega)⟩
 ·exact⟨bJ ha.le (by omega),z,z⟩
class Ns (c:Rat):Prop where ns:c=0∨(0<c∧fA c=false)
theorem Ns.nn{c:Rat}(h:Ns c):0≤c:=by rcases h.ns with h|h<;>grind
instance amk {c:Rat} [h:Ns c]:Nn c:=⟨h.nn⟩
theorem acn{a b c:Rat}{i j k:Nat}[ha:Bd a i][hb:Bd b j][hc:Bd c k][hn:Ns c]:Bd (mkR a b c) (mx (i+j+2) k):=by
 have h1:=Cw (i+j+2) k;have h2:=BX (i+j+2) k;have z:bdR (mx (i+j+2) k) 0:=bJ lD.le (by omega);refine⟨?_⟩;unfold mkR;rcases hn.ns with h|h
 ·subst h;rw[sP];have e:rtQ 0=0:=by decide+kernel
  exact⟨by show bdR _ (a+b*rtQ 0);rw[e];exact bJ (A4 ha.le (As hb.le lD.le)) (by omega),z,z⟩
 ·rw[h.2];simp only[cond_false];cases decide (b=0)
  ·exact⟨bJ ha.le (by omega),bJ hb.le (by omega),bJ hc.le (by omega)⟩
  ·exact⟨bJ ha.le (by omega),z,z⟩
def sgR(x:Rt):Int:=gv x.1 x.2.1 x.2.2
def noR(x:Rt):Rat:=x.1*x.1-x.2.1*x.2.1*x.2.2
theorem Fy{x:Rt}(h:0≤x.2.2):sgR x=RE.sg (RE.vR x):=RE.sgn2_re h
def kO(a b c:Rat):Rt:=bif decide (b=0)then(a,0,0)else bif decide (c=0)then(a,0,0)else(a,b,c)
instance alV {x:Rt} {k:Nat} [h:Bd x k]:Bd (noR x) (5*k+1):=(inferInstance:Bd (x.1*x.1-x.2.1*x.2.1*x.2.2) (k+k+(k+k+k)+1)).mono (by omega)
theorem PP{c:Rat}(h:fA c=true):rtB c=ak (rtQ c):=by unfold rtB;rw[h];rfl
theorem ad6{x:Rt}(h:Rdd x)(hb:x.2.1≠0):noR x≠0:=by
 intro e;rcases h.rd with h|⟨_,h1,h2⟩
 ·exact hb h.1
 ·unfold noR at e;have:x.2.2=x.1/x.2.1*(x.1/x.2.1):=by grind
  rw[this,Vh]at h2;cases h2
theorem Yv{x:Rt}(h:Rdd x):sgR x=bif aD x.2.1 0==0 then aD x.1 0 else bif aD x.1 0==aD x.2.1 0 then aD x.1 0 else bif aD x.1 0==0 then aD x.2.1 0 else aD x.1 0*aD (noR x) 0:=by
 unfold sgR gv RE.addS;rcases h.rd with⟨h1,h2⟩|⟨h0,h1,h2⟩
 ·rw[h1,d7];simp
 ·have hb:(aD x.2.1 0==0)=false:=by rw[ao,amG h0]
  rw[dk h1,aoX,hb];unfold noR;rw[tC];rfl
def Nx:List En:=[⟨99,ij,fa⟩,⟨107,iL,fw⟩,⟨106,ip,fi⟩,⟨108,gS,eT⟩,⟨41,fQ,dU⟩,enL Xf]
def WD(_k:KT):OLR:=og (decide (aG (0:Int))) (some [RV.d tR (hid (ak ((0:Int):Rat)))])
def ahh:Cn 298 []:=cn<|lf True [.d tR (ak 0)] fun _=>by
 refine aA Nx (WD) ⟨0,?_⟩;unfold WD;rw[dT (show aG 0 by decide)];simp only[bK];rfl
def NU:List En:=enL ahh::Nx
def Xl(a:BR)(_k:KT):OLR:=some [RV.d tO (a,(hid (ak 0),hid (ak 0)))]
def zq:Cn 208 [tR]:=cn fun(a:BR)=>lf (okR a) [.d tO (enc ((ag a,0,0):Rt))] fun h=>by
 refine aA NU (Xl a) ⟨0,?_⟩;have ha:=h;obtain⟨a,rfl,ba⟩:=ff ha;unfold Xl;simp only[aO,aC];try rfl
def aal(a b c:BR)(_k:KT):OLR:=og (o1 b) (match(aD (ag b) 0)==0 with|true=>some [RV.d tO (a,(b,hid (ak 0)))]|false=>some [RV.d tO (a,(b,c))])
def afx:Cn 297 [tR,tR,tR]:=cn fun(a b c:BR)=>lf (okR a∧okR b∧okR c) [.d tO (enc (coR (ag a) (ag b) (ag c)))] fun h=>by
 refine aA NU (aal a b c) ⟨0,?_⟩;obtain⟨ha,hb,hc⟩:=h;obtain⟨a,rfl,ba⟩:=ff ha;obtain⟨b,rfl,bb⟩:=ff hb;obtain⟨c,rfl,bc⟩:=ff hc;unfold aal;simp only[aO,Nat.reduceLeDiff,ao];unfold coR;by_cases e:b=0
 ·subst e;rw[amE rfl];rfl
 ·rw[amG e];rfl
def aeT:List En:=enL zq::enL afx::NU
def aaV(a b c:BR)(_k:KT):OLR:=og (o1 c) (match decide ((aD (ag c) 0)<0)with|true=>some [RV.d tO (((false,[]),(false,[])),(((false,[]),(false,[])),((false,[]),(false,[])))),RV.d apY 7]|false=>(og (o1 c) (match fA (ag c)with|true=>(og (o2 b (hid (rtB (ag c)))) (og (o2 a (hMu b (hid (rtB (ag c))))) (og (o1 (hAd a (hMu b (hid (rtB (ag c)))))) (some [RV.d tO (hid (enc ((ag (hAd a (hMu b (hid (rtB (ag c))))),0,0):Rt))),RV.d apY 0]))))|false=>(og (decide (okR a∧okR b∧okR c)) (some [RV.d tO (hid (enc (coR (ag a) (ag b) (ag c)))),RV.d apY 0])))))
def Zf:Cn 207 [tR,tR,tR]:=cn fun(a b c:BR)=>lf (ok Rat 100000 a∧ok Rat 100000 b∧ok Rat 100000 c∧0≤ag c) [.d tO (enc (mkR (ag a) (ag b) (ag c))),.d apY 0] fun h=>by
 refine aA aeT (aaV a b c) ⟨0,?_⟩;obtain⟨ha,hb,hc,hc_3⟩:=h;obtain⟨a,rfl,ba⟩:=aB ha;obtain⟨b,rfl,bb⟩:=aB hb;obtain⟨c,rfl,bc⟩:=aB hc;rw[dN,ck]at hc_3;unfold aaV;simp only[aO,aC,Nat.reduceLeDiff,aq,amG (show ¬c<0 by grind)];unfold mkR;cases hq:fA c
 ·have hz:c≠0:=fun e=>by rw[e,sP]at hq;cases hq
  simp only[aO];try rfl
 ·rw[PP hq];simp only[aO,aC,Nat.reduceAdd,Nat.reduceLeDiff];try rfl
def PR:List En:=[enL kD,enL lV,enL m7,enL lT,enT iV,enL Qo,enT acy]
def Lk(_k:KT):OLR:=og (decide (aG (0:Int))) (some [RV.d tR (hid (ak ((0:Int):Rat)))])
def Ng:Cn 262 []:=cn<|lf True [.d tR (ak 0)] fun _=>by
 refine aA PR (Lk) ⟨0,?_⟩;unfold Lk;rw[dT (show aG 0 by decide)];simp only[bK];rfl
def PS:List En:=enL Ng::PR
def Py(a:BR)(_k:KT):OLR:=some [RV.d tO (a,(hid (ak 0),hid (ak 0)))]
def E1:Cn 159 [tR]:=cn fun(a:BR)=>lf (okR a) [.d tO (enc ((ag a,0,0):Rt))] fun h=>by
 refine aA PS (Py a) ⟨0,?_⟩;have ha:=h;obtain⟨a,rfl,ba⟩:=ff ha;unfold Py;simp only[aO,aC];try rfl
def Rn:List En:=enL E1::PS
def MQ(a b c:BR)(_k:KT):OLR:=og (o1 b) (match(aD (ag b) 0)==0 with|true=>(og (o1 a) (some [RV.d tO (hid (enc ((ag a,0,0):Rt)))]))|false=>(og (o1 c) (match(aD (ag c) 0)==0 with|true=>(og (o1 a) (some [RV.d tO (hid (enc ((ag a,0,0):Rt)))]))|false=>some [RV.d tO (a,(b,c))])))
def QP:Cn 243 [tR,tR,tR]:=cn fun(a b c:BR)=>lf (okR a∧okR b∧okR c) [.d tO (enc (kO (ag a) (ag b) (ag c)))] fun h=>by
 refine aA Rn (MQ a b c) ⟨0,?_⟩;obtain⟨ha,hb,hc⟩:=h;obtain⟨a,rfl,ba⟩:=ff ha;obtain⟨b,rfl,bb⟩:=ff hb;obtain⟨c,rfl,bc⟩:=ff hc;unfold MQ;simp only[aO,aC,Nat.reduceLeDiff,ao];unfold kO;by_cases e:b=0
 ·rw[amE e];rfl
 ·rw[amG e];by_cases e:c=0
  ·rw[amE e];rfl
  ·rw[amG e];rfl
def abk:List En:=enL QP::Rn
def Oq(a b c:BR)(_k:KT):OLR:=og (o1 c) (match decide ((aD (ag c) 0)<0)with|true=>some [RV.d tO (((false,[]),(false,[])),(((false,[]),(false,[])),((false,[]),(false,[])))),RV.d apY 7]|false=>(og (o1 c) (match fA (ag c)with|true=>(og (o2 b (hid (rtB (ag c)))) (og (o2 a (hMu b (hid (rtB (ag c))))) (og (o1 (hAd a (hMu b (hid (rtB (ag c)))))) (some [RV.d tO (hid (enc ((ag (hAd a (hMu b (hid (rtB (ag c))))),0,0):Rt))),RV.d apY 0]))))|false=>(og (decide (okR a∧okR b∧okR c)) (some [RV.d tO (hid (enc (kO (ag a) (ag b) (ag c)))),RV.d apY 0])))))
def GK:Cn 130 [tR,tR,tR]:=cn fun(a b c:BR)=>lf (ok Rat 100000 a∧ok Rat 100000 b∧ok Rat 100000 c∧0≤ag c) [.d tO (enc (mkR (ag a) (ag b) (ag c))),.d apY 0] fun h=>by
 refine aA abk (Oq a b c) ⟨0,?_⟩;obtain⟨ha,hb,hc,hc_3⟩:=h;obtain⟨a,rfl,ba⟩:=aB ha;obtain⟨b,rfl,bb⟩:=aB hb;obtain⟨c,rfl,bc⟩:=aB hc;rw[dN,ck]at hc_3;unfold Oq;simp only[aO,aC,Nat.reduceLeDiff,aq,amG (show ¬c<0 by grind)];unfold mkR;cases hq:fA c
 ·have hz:c≠0:=fun e=>by rw[e,sP]at hq;cases hq
  simp only[aO,kO,amG hz];try rfl
 ·rw[PP hq];simp only[aO,aC,Nat.reduceAdd,Nat.reduceLeDiff];try rfl
def ZH(r:BO3)(_k:KT):OLR:=og (o2 r.1 r.1) (og (o2 r.2.1 r.2.1) (og (o2 (hMu r.2.1 r.2.1) r.2.2) (og (o2 (hMu r.1 r.1) (hMu (hMu r.2.1 r.2.1) r.2.2)) (some [RV.d tR (hSu (hMu r.1 r.1) (hMu (hMu r.2.1 r.2.1) r.2.2))]))))
def ajA:Cn 212 [tO]:=cn fun(r:BO3)=>lf (ok Rt 15000 r) [.d tR (ak (noR (dec r)))] fun h=>by
 refine aA Nx (ZH r) ⟨0,?_⟩;have hr:=h;obtain⟨r,rfl,br⟩:=aB hr;unfold ZH;simp only[aO,Nat.reduceAdd,Nat.reduceLeDiff];try rfl
abbrev Iv:=Int×Int
def prI(i:Iv):Prop:= -2305843009213693952≤i.1∧i.1≤i.2∧i.2≤2305843009213693952
instance (i:Iv):Decidable (prI i):=by unfold prI;infer_instance
def iv0:Iv:=(0,0)
theorem fS:prI iv0:=by decide
def oA(lo hi:Int):Iv×Bool:=bif decide (lo< -2305843009213693952)then(iv0,false)else bif decide (hi>2305843009213693952)then(iv0,false)else((lo,hi),true)
theorem B8{lo hi:Int}(h:lo≤hi):prI (oA lo hi).1:=by
 unfold oA;by_cases h1:lo< -2305843009213693952
 ·rw[amE h1];exact fS
 ·rw[amG h1];by_cases h2:hi>2305843009213693952
  ·rw[amE h2];exact fS
  ·rw[amG h2];exact⟨by show _≤lo;omega,h,by show hi≤_;omega⟩
theorem Bj{lo hi:Int}(h:(oA lo hi).2=true):(oA lo hi).1=(lo,hi):=by
 unfold oA at h ⊢;by_cases h1:lo< -2305843009213693952
 ·rw[amE h1]at h;cases h
 ·rw[amG h1]at h ⊢;by_cases h2:hi>2305843009213693952
  ·rw[amE h2]at h;cases h
  ·rw[amG h2];rfl
def frF(q:Rat):Iv×Bool:=bif decide (aG (q*65536).floor)then bif decide (aG (-(-(q*65536)).floor))then oA (q*65536).floor (-(-(q*65536)).floor)else(iv0,false)else(iv0,false)
def dL(a b:Iv):Iv×Bool:=oA (a.1+b.1) (a.2+b.2)
def mR(a:Iv):Iv:=(-a.2,-a.1)
def scF(x y:Int):(Int×Int)×Bool:=
 bif decide (x.natAbs*y.natAbs≥1208925819614629174706176)then((0,0),false)else bif decide (x.natAbs*y.natAbs/65536>2305843009213693952)then((0,0),false)
 else bif decide (x<0)==decide (y<0)then((((x.natAbs*y.natAbs/65536:Nat):Int),(((x.natAbs*y.natAbs+65535)/65536:Nat):Int)),decide ((x.natAbs*y.natAbs+65535)/65536≤2305843009213693952))
 else((-(((x.natAbs*y.natAbs+65535)/65536:Nat):Int),-((x.natAbs*y.natAbs/65536:Nat):Int)),decide ((x.natAbs*y.natAbs+65535)/65536≤2305843009213693952))
theorem acO{x y:Int}(h:(scF x y).2=true):(scF x y).1.1*65536≤x*y∧x*y≤(scF x y).1.2*65536∧ -2305843009213693952≤(scF x y).1.1∧(scF x y).1.2≤2305843009213693952:=by
 have ep:(((x.natAbs*y.natAbs:Nat)):Int)=(x.natAbs:Int)*(y.natAbs:Int):=an9 _ _
 have hs:(decide (x<0)==decide (y<0))=true→x*y=(((x.natAbs*y.natAbs:Nat)):Int):=fun e=>by
  rw[ep];by_cases hx:x<0<;>by_cases hy:y<0
  ·rw[show(x.natAbs:Int)= -x by omega,show(y.natAbs:Int)= -y by omega];grind
  ·simp[hx,hy]at e
  ·simp[hx,hy]at e
  ·rw[show(x.natAbs:Int)=x by omega,show(y.natAbs:Int)=y by omega]
 have hd:(decide (x<0)==decide (y<0))=false→x*y= -(((x.natAbs*y.natAbs:Nat)):Int):=fun e=>by
  rw[ep];by_cases hx:x<0<;>by_cases hy:y<0
  ·simp[hx,hy]at e
  ·rw[show(x.natAbs:Int)= -x by omega,show(y.natAbs:Int)=y by omega];grind
  ·rw[show(x.natAbs:Int)=x by omega,show(y.natAbs:Int)= -y by omega];grind
  ·simp[hx,hy]at e
 unfold scF at h ⊢;generalize x.natAbs*y.natAbs=p at*;by_cases h1:p≥1208925819614629174706176
 ·rw[amE h1]at h;cases h
 rw[amG h1]at h ⊢;by_cases h2:p/65536>2305843009213693952
 ·rw[amE h2]at h;cases h
 rw[amG h2]at h ⊢;cases e:(decide (x<0)==decide (y<0))<;>rw[e]at h<;>have h3:=amH h
 ·rw[hd e];show-(((p+65535)/65536:Nat):Int)*65536≤_∧_≤ -((p/65536:Nat):Int)*65536∧_≤ -(((p+65535)/65536:Nat):Int)∧ -((p/65536:Nat):Int)≤_;omega
 ·rw[hs e];show((p/65536:Nat):Int)*65536≤_∧_≤(((p+65535)/65536:Nat):Int)*65536∧_≤((p/65536:Nat):Int)∧(((p+65535)/65536:Nat):Int)≤_;omega
def ic(s:Iv×Bool)(x y:Int):Iv×Bool:=bif s.2&&(scF x y).2 then((if(scF x y).1.1<s.1.1 then(scF x y).1.1 else s.1.1,if(scF x y).1.2>s.1.2 then(scF x y).1.2 else s.1.2),true)else(iv0,false)
def cM(a b:Iv):Iv×Bool:=ic (ic (ic (ic ((2305843009213693952,-2305843009213693952),true) a.1 b.1) a.1 b.2) a.2 b.1) a.2 b.2
theorem lL{s:Iv×Bool}{x y:Int}(h:(ic s x y).2=true):s.2=true∧(ic s x y).1.1≤s.1.1∧s.1.2≤(ic s x y).1.2∧(ic s x y).1.1*65536≤x*y∧x*y≤(ic s x y).1.2*65536∧((-2305843009213693952≤s.1.1∧s.1.2≤2305843009213693952)→ -2305843009213693952≤(ic s x y).1.1∧(ic s x y).1.2≤2305843009213693952):=by
 unfold ic at h ⊢;cases e:(s.2&&(scF x y).2)<;>rw[e]at h
 ·cases h
 ·obtain⟨e1,e2⟩:=amP.1 e;obtain⟨g1,g2,g3,g4⟩:=acO e2;refine⟨e1,?_⟩;simp only[cond_true];split<;>split<;>refine⟨by omega,by omega,by omega,by omega,fun h=>by omega⟩
theorem sR(a b:Iv):prI (cM a b).1:=by
 cases h:(cM a b).2
 ·unfold cM ic at h ⊢;revert h;cases((_:Iv×Bool).2&&(scF a.2 b.2).2)
  ·intro _;exact fS
  ·intro h;cases h
 ·unfold cM at h ⊢;obtain⟨h3,a3,b3,c3,d3,e3⟩:=lL h;obtain⟨h2,a2,b2,c2,d2,e2⟩:=lL h3;obtain⟨h1,a1,b1,c1,d1,e1⟩:=lL h2;obtain⟨h0,a0,b0,c0,d0,e0⟩:=lL h1;have k:=e3 (e2 (e1 (e0 (by decide))));exact⟨k.1,by omega,k.2⟩
theorem VS{a b:Iv}(h:(cM a b).2=true):∀x y,(x=a.1∨x=a.2)→(y=b.1∨y=b.2)→(cM a b).1.1*65536≤x*y∧x*y≤(cM a b).1.2*65536:=by
 unfold cM at h ⊢;obtain⟨h3,a3,b3,c3,d3,e3⟩:=lL h;obtain⟨h2,a2,b2,c2,d2,e2⟩:=lL h3;obtain⟨h1,a1,b1,c1,d1,e1⟩:=lL h2;obtain⟨h0,a0,b0,c0,d0,e0⟩:=lL h1;intro x y hx hy;rcases hx with rfl|rfl<;>rcases hy with rfl|rfl<;>constructor<;>omega
def eG(n:Int):Int:=bL (n*65536)
def sqF(a:Iv):Iv×Bool:=bif decide (a.2<0)then(iv0,false)else oA (eG (if 0>a.1 then 0 else a.1)) (bif decide (eG a.2*eG a.2=a.2*65536)then eG a.2 else eG a.2+1)
def sgF(a:Iv):Int×Bool:=bif decide (a.1>0)then(1,true)else bif decide (a.2<0)then(-1,true)else(0,decide (a.1=0)&&decide (a.2=0))
namespace RE
def inI(i:Iv)(x:RE):Prop:=of (i.1:Rat)≤of 65536*x∧of 65536*x≤of (i.2:Rat)
theorem T8(a b u x y:RE)(h1:a≤u*x)(h2:b≤u*y):a+b≤u*(x+y):=by grind
theorem Um(a b u x y:RE)(h1:u*x≤a)(h2:u*y≤b):u*(x+y)≤a+b:=by grind
theorem TF(a u x:RE)(h1:u*x≤a): -a≤u*(-x):=by grind
theorem Ud(a u x:RE)(h1:a≤u*x):u*(-x)≤ -a:=by grind
theorem TN(a c U V m:RE):((m-(U*V)))+((a*c-(m)))+((V-(0))*(U-(a)))+((a-(0))*(V-(c)))=0:=by grind
theorem ag2(a c U V m:RE)(h1:0≤V)(h2:0≤a)(h3:a≤U)(h4:c≤V)(h5:m≤a*c):m≤U*V:=fun hg=>far (aK (aK (aK (aL hg) (aF h5)) (bg (aF h1) (aF h3))) (bg (aF h2) (aF h4))) (TN a c U V m)
theorem Vz(a d U V m:RE):((m-(U*V)))+((a*d-(m)))+((V-(0))*(U-(a)))+((0-(a))*(d-(V)))=0:=by grind
theorem ajm(a d U V m:RE)(h1:0≤V)(h2:a≤0)(h3:a≤U)(h4:V≤d)(h5:m≤a*d):m≤U*V:=fun hg=>far (aK (aK (aK (aL hg) (aF h5)) (bg (aF h1) (aF h3))) (bg (aF h2) (aF h4))) (Vz a d U V m)
theorem VA(b c U V m:RE):((m-(U*V)))+((b*c-(m)))+((0-(V))*(b-(U)))+((b-(0))*(V-(c)))=0:=by grind
theorem ahU(b c U V m:RE)(h1:V≤0)(h2:0≤b)(h3:U≤b)(h4:c≤V)(h5:m≤b*c):m≤U*V:=fun hg=>far (aK (aK (aK (aL hg) (aF h5)) (bg (aF h1) (aF h3))) (bg (aF h2) (aF h4))) (VA b c U V m)
theorem Wo(b d U V m:RE):((m-(U*V)))+((b*d-(m)))+((0-(V))*(b-(U)))+((0-(b))*(d-(V)))=0:=by grind
theorem ahk(b d U V m:RE)(h1:V≤0)(h2:b≤0)(h3:U≤b)(h4:V≤d)(h5:m≤b*d):m≤U*V:=fun hg=>far (aK (aK (aK (aL hg) (aF h5)) (bg (aF h1) (aF h3))) (bg (aF h2) (aF h4))) (Wo b d U V m)
theorem UC(b d U V m:RE):((U*V-(m)))+((m-(b*d)))+((V-(0))*(b-(U)))+((b-(0))*(d-(V)))=0:=by grind
theorem ahZ(b d U V m:RE)(h1:0≤V)(h2:0≤b)(h3:U≤b)(h4:V≤d)(h5:b*d≤m):U*V≤m:=fun hg=>far (aK (aK (aK (aL hg) (aF h5)) (bg (aF h1) (aF h3))) (bg (aF h2) (aF h4))) (UC b d U V m)
theorem VY(b c U V m:RE):((U*V-(m)))+((m-(b*c)))+((V-(0))*(b-(U)))+((0-(b))*(V-(c)))=0:=by grind
theorem agc(b c U V m:RE)(h1:0≤V)(h2:b≤0)(h3:U≤b)(h4:c≤V)(h5:b*c≤m):U*V≤m:=fun hg=>far (aK (aK (aK (aL hg) (aF h5)) (bg (aF h1) (aF h3))) (bg (aF h2) (aF h4))) (VY b c U V m)
theorem Tl(a d U V m:RE):((U*V-(m)))+((m-(a*d)))+((0-(V))*(U-(a)))+((a-(0))*(d-(V)))=0:=by grind
theorem af9(a d U V m:RE)(h1:V≤0)(h2:0≤a)(h3:a≤U)(h4:V≤d)(h5:a*d≤m):U*V≤m:=fun hg=>far (aK (aK (aK (aL hg) (aF h5)) (bg (aF h1) (aF h3))) (bg (aF h2) (aF h4))) (Tl a d U V m)
theorem UJ(a c U V m:RE):((U*V-(m)))+((m-(a*c)))+((0-(V))*(U-(a)))+((0-(a))*(V-(c)))=0:=by grind
theorem agl(a c U V m:RE)(h1:V≤0)(h2:a≤0)(h3:a≤U)(h4:c≤V)(h5:a*c≤m):U*V≤m:=fun hg=>far (aK (aK (aK (aL hg) (aF h5)) (bg (aF h1) (aF h3))) (bg (aF h2) (aF h4))) (UJ a c U V m)
theorem aep(u x y:RE):u*x*(u*y)=u*(x*y)*u:=by grind
theorem Tb(a b u:RE):((u-(0))*(a-(b)))+((b*u-(a*u)))=0:=by grind
theorem Zq(a b u:RE)(h1:0<u)(h2:a*u≤b*u):a≤b:=fun hg=>far (aK (mul_pos (aL h1) (aL hg)) (aF h2)) (Tb a b u)
theorem oa:0<of 65536:=ik (by decide+kernel)
end RE
namespace RE
theorem mM{a b:Int}(h:a≤b):of (a:Rat)≤of (b:Rat):=fu.2 (ao3.2 h)
theorem iw{q:Rat}(h:(frF q).2=true):inI (frF q).1 (of q):=by
 have f1:((q*65536).floor:Rat)≤q*65536:=Rat.floor_le _;have f2:((-(q*65536)).floor:Rat)≤ -(q*65536):=Rat.floor_le _;unfold frF at h ⊢;cases e1:decide (aG (q*65536).floor)
 ·rw[e1]at h;cases h
 ·cases e2:decide (aG (-(-(q*65536)).floor))
  ·rw[e1,e2]at h;cases h
  ·rw[e1,e2]at h;simp only[cond_true]at h ⊢;rw[Bj h];refine⟨?_,?_⟩
   ·rw[←aJ];exact fu.2 (by show(((q*65536).floor:Int):Rat)≤_;grind)
   ·rw[←aJ];exact fu.2 (by show _≤((-(-(q*65536)).floor:Int):Rat);rw[apj];grind)
theorem frF_pr(q:Rat):prI (frF q).1:=by
 have f1:((q*65536).floor:Rat)≤q*65536:=Rat.floor_le _;have f2:((-(q*65536)).floor:Rat)≤ -(q*65536):=Rat.floor_le _
 have f3:(q*65536).floor≤ -(-(q*65536)).floor:=by
  refine ao3.1 ?_;rw[apj];grind
 unfold frF;cases decide (aG (q*65536).floor)
 ·exact fS
 ·cases decide (aG (-(-(q*65536)).floor))
  ·exact fS
  ·exact B8 f3
theorem j8{a b:Iv}{x y:RE}(ha:inI a x)(hb:inI b y)(h:(dL a b).2=true):inI (dL a b).1 (x+y):=by
 unfold dL at h ⊢;rw[Bj h];refine⟨?_,?_⟩
 ·show of ((a.1+b.1:Int):Rat)≤_;rw[Rat.intCast_add,of_add];exact T8 _ _ _ _ _ ha.1 hb.1
 ·show _≤of ((a.2+b.2:Int):Rat);rw[Rat.intCast_add,of_add];exact Um _ _ _ _ _ ha.2 hb.2
theorem addF_pr{a b:Iv}(ha:prI a)(hb:prI b):prI (dL a b).1:=B8 (by have:=ha.2.1;have:=hb.2.1;omega)
theorem AY{a:Iv}{x:RE}(ha:inI a x):inI (mR a) (-x):=by
 refine⟨?_,?_⟩
 ·show of ((-a.2:Int):Rat)≤_;rw[apj,of_neg];exact TF _ _ _ ha.2
 ·show _≤of ((-a.1:Int):Rat);rw[apj,of_neg];exact Ud _ _ _ ha.1
theorem negF_pr{a:Iv}(ha:prI a):prI (mR a):=⟨by show _≤ -a.2;have:=ha.2.2;omega,by show-a.2≤ -a.1;have:=ha.2.1;omega,by show-a.1≤_;have:=ha.1;omega⟩
theorem lC{a b:Iv}{x y:RE}(ha:inI a x)(hb:inI b y)(h:(cM a b).2=true):inI (cM a b).1 (x*y):=by
 have hc:=VS h;have c1:=hc a.1 b.1 (.inl rfl) (.inl rfl);have c2:=hc a.1 b.2 (.inl rfl) (.inr rfl);have c3:=hc a.2 b.1 (.inr rfl) (.inl rfl);have c4:=hc a.2 b.2 (.inr rfl) (.inr rfl);generalize (cM a b).1=m at*
 have up:∀{p q r:Int},p*65536≤q*r→of (p:Rat)*of 65536≤of (q:Rat)*of (r:Rat):=fun{p q r} h=>by
  have:=mM h;rw[aoB,aoB,aJ,aJ]at this;exact this
 have dn:∀{p q r:Int},q*r≤p*65536→of (q:Rat)*of (r:Rat)≤of (p:Rat)*of 65536:=fun{p q r} h=>by
  have:=mM h;rw[aoB,aoB,aJ,aJ]at this;exact this
 obtain⟨a1,a2⟩:=ha;obtain⟨b1,b2⟩:=hb
 have l:of (m.1:Rat)*of 65536≤of 65536*x*(of 65536*y):=by
  rcases lt_or_ge (of 65536*y) 0 with v|v
  ·rcases lt_or_ge (of (a.2:Rat)) 0 with s|s
   ·exact ahk _ _ _ _ _ (le_of_lt v) (le_of_lt s) a2 b2 (up c4.1)
   ·exact ahU _ _ _ _ _ (le_of_lt v) s a2 b1 (up c3.1)
  ·rcases lt_or_ge (of (a.1:Rat)) 0 with s|s
   ·exact ajm _ _ _ _ _ v (le_of_lt s) a1 b2 (up c2.1)
   ·exact ag2 _ _ _ _ _ v s a1 b1 (up c1.1)
 have u:of 65536*x*(of 65536*y)≤of (m.2:Rat)*of 65536:=by
  rcases lt_or_ge (of 65536*y) 0 with v|v
  ·rcases lt_or_ge (of (a.1:Rat)) 0 with s|s
   ·exact agl _ _ _ _ _ (le_of_lt v) (le_of_lt s) a1 b1 (dn c1.2)
   ·exact af9 _ _ _ _ _ (le_of_lt v) s a1 b2 (dn c2.2)
  ·rcases lt_or_ge (of (a.2:Rat)) 0 with s|s
   ·exact agc _ _ _ _ _ v (le_of_lt s) a2 b1 (dn c3.2)
   ·exact ahZ _ _ _ _ _ v s a2 b2 (dn c4.2)
 rw[aep]at l u;exact⟨Zq _ _ _ oa l,Zq _ _ _ oa u⟩
theorem af7(u s:RE):u*s*(u*s)=u*(s*s)*u:=by grind
theorem QN(r a u x:RE):((r-(u*x*u)))+((a*u-(r)))+((u*x-(a))*(u-(0)))=0:=by grind
theorem ac5(r a u x:RE)(h1:r≤a*u)(h2:a≤u*x)(h3:0<u):r≤u*x*u:=fun hg=>far (aK (aK (aL hg) (aF h1)) (bg (aF h2) (le_of_lt (aL h3)))) (QN r a u x)
theorem Q4(r a u x:RE):((u*x*u-(r)))+((r-(a*u)))+((a-(u*x))*(u-(0)))=0:=by grind
theorem LU(r a u x:RE)(h1:a*u≤r)(h2:u*x≤a)(h3:0<u):u*x*u≤r:=fun hg=>far (aK (aK (aL hg) (aF h1)) (bg (aF h2) (le_of_lt (aL h3)))) (Q4 r a u x)
theorem sqF_pr{a:Iv}(ha:prI a):prI (sqF a).1:=by
 unfold sqF;by_cases h:a.2<0
 ·rw[amE h];exact fS
 ·rw[amG h];simp only[cond_false];refine B8 ?_;have h1:(if 0>a.1 then 0 else a.1)≤a.2:=by have:=ha.2.1;split<;>omega
  have h0:0≤(if 0>a.1 then 0 else a.1):=by split<;>omega
  have hm:eG (if 0>a.1 then 0 else a.1)≤eG a.2:=by
   unfold eG;obtain⟨_,g1,_⟩:=gb (z:=(if 0>a.1 then 0 else a.1)*65536) (by omega);obtain⟨g0,_,g2⟩:=gb (z:=a.2*65536) (by omega);have:=Go.Proofs.YtnkndpoojnflmaaGreat.sq_lt (a:=bL ((if 0>a.1 then 0 else a.1)*65536)) (b:=bL (a.2*65536)+1) (by omega) (by omega);omega
  cases decide (eG a.2*eG a.2=a.2*65536)
  ·show _≤eG a.2+1;omega
  ·exact hm
theorem xm{a:Iv}{x:RE}(ha:inI a x)(hx:0≤x)(h:(sqF a).2=true):inI (sqF a).1 (vF x):=by
 obtain⟨a1,a2⟩:=ha;have hs:=sY hx;have s0:0≤of 65536*vF x:=bg (le_of_lt oa) (jF x);have e:of 65536*vF x*(of 65536*vF x)=of 65536*x*of 65536:=by rw[af7,hs]
 unfold sqF at h ⊢;cases hn:decide (a.2<0)
 ·rw[hn]at h;simp only[cond_false]at h ⊢;have h2:=anw hn;rw[Bj h];obtain⟨p0,p1,p2⟩:=gb (z:=(if 0>a.1 then 0 else a.1)*65536) (by split<;>omega);obtain⟨q0,q1,q2⟩:=gb (z:=a.2*65536) (by omega)
  have cm:∀{p q:Int},p*p≤q*65536→of (p:Rat)*of (p:Rat)≤of (q:Rat)*of 65536:=fun{p q} h=>by
   have:=mM h;rw[aoB,aoB,aJ,aJ]at this;exact this
  have cn:∀{p q:Int},q*65536≤p*p→of (q:Rat)*of 65536≤of (p:Rat)*of (p:Rat):=fun{p q} h=>by
   have:=mM h;rw[aoB,aoB,aJ,aJ]at this;exact this
  have nn:∀{p:Int},0≤p→0≤of (p:Rat):=fun h=>mM h;refine⟨?_,?_⟩
  ·show of ((eG _:Int):Rat)≤_;refine t7 _ _ (nn p0) s0 ?_;rw[e];refine ac5 _ (of (((if 0>a.1 then 0 else a.1:Int)):Rat)) _ _ (cm p1) ?_ oa;split
   ·exact bg (le_of_lt oa) hx
   ·exact a1
  ·show _≤of (((bif _ then _ else _):Int):Rat);cases he:decide (eG a.2*eG a.2=a.2*65536)
   ·simp only[cond_false];refine t7 _ _ s0 (nn (by unfold eG;omega)) ?_;rw[e];exact LU _ _ _ _ (cn (by unfold eG;omega)) a2 oa
   ·simp only[cond_true];refine t7 _ _ s0 (nn q0) ?_;rw[e];exact LU _ _ _ _ (cn (by rw[amH he];exact Int.le_refl _)) a2 oa
 ·rw[hn]at h;cases h
theorem Fp{i:Iv}{x:RE}(hi:inI i x)(h:(sgF i).2=true):(sgF i).1=sg x:=by
 obtain⟨h1,h2⟩:=hi;unfold sgF at h ⊢;cases e1:decide (i.1>0)
 ·rw[e1]at h;cases e2:decide (i.2<0)
  ·rw[e2]at h;simp only[cond_false,amI,aoT]at h ⊢;rw[h.1]at h1;rw[h.2]at h2;have:of 65536*x=0:=le_antisymm h2 h1;have:sg (of 65536*x)=0:=by rw[this,dZ]
   rw[dQ,dM oa]at this;omega
  ·have e:=amH e2;have h3:of (i.2:Rat)<0:=ik (ao4.2 e);simp only[cond_false,cond_true]
   have:sg (of 65536*x)= -1:=ju (by
    rcases lt_or_ge (of 65536*x) 0 with h|h
    ·exact h
    ·exact absurd (le_trans h h2) (re.2 h3))
   rw[dQ,dM oa]at this;omega
 ·have e:=amH e1;have h3:0<of (i.1:Rat):=ik (ao4.2 e);simp only[cond_true]
  have:sg (of 65536*x)=1:=dM (by
   rcases lt_or_ge 0 (of 65536*x)with h|h
   ·exact h
   ·exact absurd (le_trans h1 h) (re.2 h3))
  rw[dQ,dM oa]at this;omega
end RE
abbrev Qd:=Rat×Rat×Rat×Rat×Rat×Rat
def sgQ(q:Qd):Int:=Cu q.1 q.2.1 q.2.2.1 q.2.2.2.1 q.2.2.2.2.1 q.2.2.2.2.2
def suT(x y:Rt):Qd:=(x.1-y.1,x.2.1,-y.2.1,0,x.2.2,y.2.2)
def fq(x:Rt)(q:Rat):Int:=gv (x.1-q) x.2.1 x.2.2
def okQ(q:BQ):Prop:=ok Rat 30001 q.1∧ok Rat 15000 q.2.1∧ok Rat 15000 q.2.2.1∧ok Rat 6000 q.2.2.2.1∧ok Rat 15000 q.2.2.2.2.1∧ok Rat 15000 q.2.2.2.2.2∧0≤ag q.2.2.2.2.1∧0≤ag q.2.2.2.2.2
instance (q:BQ):Decidable (okQ q):=by unfold okQ;infer_instance
theorem Hn{q:BQ}(h:okQ q):∃A B C D M N:Rat,q=enc ((A,B,C,D,M,N):Qd)∧Bd A 30001∧Bd B 15000∧Bd C 15000∧Bd D 6000∧Bd M 15000∧Bd N 15000∧0≤M∧0≤N:=by
 obtain⟨A,B,C,D,M,N⟩:=q;obtain⟨h1,h2,h3,h4,h5,h6,h7,h8⟩:=h;obtain⟨a,ha,b1⟩:=aB h1;obtain⟨b,hb,b2⟩:=aB h2;obtain⟨c,hc,b3⟩:=aB h3;obtain⟨d,hd,b4⟩:=aB h4;obtain⟨m,hm,b5⟩:=aB h5;obtain⟨n,hn,b6⟩:=aB h6;dsimp only at ha hb hc hd hm hn h7 h8;subst ha hb hc hd hm hn;rw[dN,ck]at h7 h8;exact⟨a,b,c,d,m,n,rfl,b1,b2,b3,b4,b5,b6,h7,h8⟩
theorem qN{A B C D M N:Rat}{a b c d m n:Nat}[h1:Bd A a][h2:Bd B b][h3:Bd C c][h4:Bd D d][h5:Bd M m][h6:Bd N n][h7:Nn M][h8:Nn N](ha:a≤30001)(hb:b≤15000)(hc:c≤15000)(hd:d≤6000)(hm:m≤15000)(hn:n≤15000):decide (okQ (enc ((A,B,C,D,M,N):Qd)))=true:=
 amE ⟨amH (lN ha (by decide)),amH (lN hb (by decide)),amH (lN hc (by decide)),amH (lN hd (by decide)),amH (lN hm (by decide)),amH (lN hn (by decide)),by show 0≤ag (ak M);rw[ck];exact h7.le,by show 0≤ag (ak N);rw[ck];exact h8.le⟩
theorem Ax{s t:Int}(hs: -1≤s∧s≤1)(ht: -1≤t∧t≤1):i64.wrap (s*t)=s*t:=by
 have:=B3 hs ht;exact aT (by omega) (by omega)
theorem tn{a b m x y:Rat}:i64.wrap (gv a b m*aD x y)=gv a b m*aD x y:=Ax (lP _ _ _) (jk _ _)
theorem sA{a b m x y z:Rat}:i64.wrap (gv a b m*gv x y z)=gv a b m*gv x y z:=Ax (lP _ _ _) (lP _ _ _)
theorem EM(s t u:Int):(match s==0 with|true=>(match s==0 with|true=>some [RV.d apY t]|false=>some [RV.d apY s])|false=>(match t==0 with|true=>(match s==0 with|true=>some [RV.d apY t]|false=>some [RV.d apY s])|false=>(match s==t with|true=>(match s==0 with|true=>some [RV.d apY t]|false=>some [RV.d apY s])|false=>some [RV.d apY (s*u)])))=some [RV.d apY (RE.addS s t u)]:=by
 unfold RE.addS;cases h1:s==0
 ·cases h2:t==0
  ·cases h3:s==t<;>rfl
  ·rfl
 ·have e:=anE.1 h1;subst e;cases h2:t==0
  ·cases h3:(0:Int)==t
   ·rfl
   ·rw[←anE.1 h3];rfl
  ·rw[anE.1 h2];rfl
theorem Bu(s t u:Int):(match t==0 with|true=>some [RV.d apY s]|false=>(match s==t with|true=>some [RV.d apY s]|false=>(match s==0 with|true=>some [RV.d apY t]|false=>some [RV.d apY (s*u)])))=some [RV.d apY (RE.addS s t u)]:=by
 unfold RE.addS;cases h2:t==0
 ·cases h3:s==t
  ·cases h1:s==0<;>rfl
  ·rfl
 ·rfl
def Gm:List En:=[enL kD,enL lV,enL m7,enL lT,enT iV,enT pu,enL o8]
def MP(a b c:BR)(_k:KT):OLR:=og (o1 a) (og (o1 b) (og (o1 c) (match(aD (ag a) 0)==0 with|true=>(match(aD (ag a) 0)==0 with|true=>some [RV.d apY (i64.wrap ((aD (ag b) 0)*(aD (ag c) 0)))]|false=>some [RV.d apY (aD (ag a) 0)])|false=>(match(i64.wrap ((aD (ag b) 0)*(aD (ag c) 0)))==0 with|true=>(match(aD (ag a) 0)==0 with|true=>some [RV.d apY (i64.wrap ((aD (ag b) 0)*(aD (ag c) 0)))]|false=>some [RV.d apY (aD (ag a) 0)])|false=>(match(aD (ag a) 0)==(i64.wrap ((aD (ag b) 0)*(aD (ag c) 0)))with|true=>(match(aD (ag a) 0)==0 with|true=>some [RV.d apY (i64.wrap ((aD (ag b) 0)*(aD (ag c) 0)))]|false=>some [RV.d apY (aD (ag a) 0)])|false=>(og (o2 a a) (og (o2 b b) (og (o2 (hMu b b) c) (og (o2 (hMu a a) (hMu (hMu b b) c)) (some [RV.d apY (i64.wrap ((aD (ag a) 0)*(aD (ag (hMu a a)) (ag (hMu (hMu b b) c)))))]))))))))))
def abf:Cn 156 [tR,tR,tR]:=cn fun(a b c:BR)=>lf (ok Rat 240000 a∧ok Rat 170000 b∧ok Rat 30000 c) [.d apY (gv (ag a) (ag b) (ag c))] fun h=>by
 refine aA Gm (MP a b c) ⟨0,?_⟩;obtain⟨ha,hb,hc⟩:=h;obtain⟨a,rfl,ba⟩:=aB ha;obtain⟨b,rfl,bb⟩:=aB hb;obtain⟨c,rfl,bc⟩:=aB hc;unfold MP;simp only[aO,Nat.reduceAdd,Nat.reduceLeDiff,qo];exact EM _ _ _
def Ql(a b:BO3)(_k:KT):OLR:=og (o2 a.1 b.1) (og (o1 b.2.1) (og (decide (aG (0:Int))) (some [RV.d tQ (hSu a.1 b.1,(a.2.1,(hNe b.2.1,(hid (ak ((0:Int):Rat)),(a.2.2,b.2.2)))))])))
def acb:Cn 236 [tO,tO]:=cn fun(a b:BO3)=>lf (ok Rt 15000 a∧ok Rt 15000 b) [.d tQ (enc (suT (dec a) (dec b)))] fun h=>by
 refine aA Gm (Ql a b) ⟨0,?_⟩;obtain⟨ha,hb⟩:=h;obtain⟨a,rfl,ba⟩:=aB ha;obtain⟨b,rfl,bb⟩:=aB hb;unfold Ql;simp only[aO,Nat.reduceLeDiff];try rfl
def R7:List En:=enT abf::enL acb::Gm
def NR(q:BQ)(_k:KT):OLR:=let y1:=ag q.2.2.2.2.1;let y2:=aD (ag q.2.2.2.2.2) 0;let y3:=gv (ag q.1) (ag q.2.1) y1;let y4:=i64.wrap ((gv (ag q.2.2.1) (ag q.2.2.2.1) y1)*y2);let y5:OLR:=match y3==0 with|true=>some [RV.d apY y4]|false=>some [RV.d apY y3];let y6:=hMu q.2.2.2.1 q.2.2.2.1;let y7:=hMu q.2.2.1 q.2.2.1;let y8:=hMu y6 q.2.2.2.2.1;let y9:=hMu (hMu q.2.1 q.2.1) q.2.2.2.2.1;let y10:=hAd (hMu q.1 q.1) y9;let y11:=hMu q.2.2.2.2.2 (hAd y7 y8);let y12:=hMu q.2.2.1 q.2.2.2.1;let y13:=hMu q.2.2.2.2.2 y12;let y14:=hSu (hMu q.1 q.2.1) y13;og (o1 q.2.2.2.2.1) (match decide ((aD y1 0)<0)with|true=>some [RV.d apY 0]|false=>(og (o1 q.2.2.2.2.2) (match decide (y2<0)with|true=>some [RV.d apY 0]|false=>(og (decide (ok Rat 240000 q.1∧ok Rat 170000 q.2.1∧ok Rat 30000 q.2.2.2.2.1)) (og (decide (ok Rat 240000 q.2.2.1∧ok Rat 170000 q.2.2.2.1∧ok Rat 30000 q.2.2.2.2.1)) (og (o1 q.2.2.2.2.2) (match y3==0 with|true=>y5|false=>(match y4==0 with|true=>y5|false=>(match y3==y4 with|true=>y5|false=>(og (o2 q.2.2.1 q.2.2.1) (og (o2 q.2.2.2.1 q.2.2.2.1) (og (o2 y6 q.2.2.2.2.1) (og (o2 y7 y8) (og (o2 q.2.2.2.2.2 (hAd y7 y8)) (og (o2 q.1 q.1) (og (o2 q.2.1 q.2.1) (og (o2 (hMu q.2.1 q.2.1) q.2.2.2.2.1) (og (o2 (hMu q.1 q.1) y9) (og (o2 y10 y11) (og (o2 q.1 q.2.1) (og (o2 q.2.2.1 q.2.2.2.1) (og (o2 q.2.2.2.2.2 y12) (og (o2 (hMu q.1 q.2.1) y13) (og (o2 y14 y14) (og (decide (ok Rat 240000 (hSu y10 y11)∧ok Rat 170000 (hAd y14 y14)∧ok Rat 30000 q.2.2.2.2.1)) (some [RV.d apY (i64.wrap (y3*(gv (ag (hSu y10 y11)) (ag (hAd y14 y14)) y1)))]))))))))))))))))))))))))))
def Gd:Cn 234 [tQ]:=cn fun(q:BQ)=>lf (okQ q) [.d apY (sgQ (dec q))] fun h=>by
 refine aA R7 (NR q) ⟨0,?_⟩;obtain⟨A,B,C,D,M,N,rfl,bA,bB,bC,bD,bM,bN,hM,hN⟩:=Hn h;rw[az];unfold NR;simp only[aO,aC,Nat.reduceAdd,Nat.reduceLeDiff,tn,sA,aq,amG (show ¬M<0 by grind),amG (show ¬N<0 by grind)];refine(EM _ _ _).trans ?_;unfold sgQ Cu;rw[amG (show ¬M<0 by grind),amG (show ¬N<0 by grind)];dsimp only[Bool.or_false,cond_false];rw[show A*B-N*(C*D)+(A*B-N*(C*D))=2*(A*B-N*(C*D)) by grind];rfl
def Sn:List En:=enT Gd::R7
def NH(a b:BO3)(_k:KT):OLR:=og (decide (ok Rt 15000 a∧ok Rt 15000 b)) (og (decide (okQ (hid (enc (suT (dec a) (dec b)))))) (some [RV.d apY (sgQ (dec (hid (enc (suT (dec a) (dec b))))))]))
def Bx:Cn 121 [tO,tO]:=cn fun(a b:BO3)=>lf (okT 15000 a∧okT 15000 b) [.d apY (aW (dec a) (dec b))] fun h=>by
 refine aA Sn (NH a b) ⟨0,?_⟩;obtain⟨ha,hb⟩:=h;obtain⟨a,rfl,ba,ra⟩:=fB ha;obtain⟨b,rfl,bb,rb⟩:=fB hb;have na:Nn a.2.2:=inferInstance;have nb:Nn b.2.2:=inferInstance;have e:decide (okQ (enc (suT a b)))=true:=qN (by decide) (by decide) (by decide) (by decide) (by decide) (by decide);unfold NH;simp only[aO,Nat.reduceLeDiff,e];rfl
def L5(a:BO3)(b:BR)(_k:KT):OLR:=og (o2 a.1 b) (og (decide (ok Rat 240000 (hSu a.1 b)∧ok Rat 170000 a.2.1∧ok Rat 30000 a.2.2)) (some [RV.d apY (gv (ag (hSu a.1 b)) (ag a.2.1) (ag a.2.2))]))
def Ba:Cn 62 [tO,tR]:=cn fun(a:BO3) (b:BR)=>lf (okT 15000 a∧ok Rat 15000 b) [.d apY (fq (dec a) (ag b))] fun h=>by
 refine aA Sn (L5 a b) ⟨0,?_⟩;obtain⟨ha,hb⟩:=h;obtain⟨a,rfl,ba,ra⟩:=fB ha;obtain⟨b,rfl,bb⟩:=aB hb;unfold L5;simp only[aO,Nat.reduceAdd,Nat.reduceLeDiff];try rfl
def kY:eg:=spN false true [tR] (fun x=>decide (okR x.1)) (fun x=>[RV.d tR (hNe x.1)])
theorem gD:SpK 109 kY:=spX fun x h=>by simp only[bK];exact HD x.1 (amH h)
def MV:List En:=[⟨99,ij,fa⟩,⟨107,iL,fw⟩,⟨106,ip,fi⟩,⟨108,gS,eT⟩,⟨41,fQ,dU⟩,⟨73,mj,iv⟩,⟨109,kY,gD⟩]
def WZ(a b c:BR)(_k:KT):OLR:=og (o1 a) (og (o1 b) (og (o1 c) (match(i64.wrap ((aD (ag b) 0)*(aD (ag c) 0)))==0 with|true=>some [RV.d apY (aD (ag a) 0)]|false=>(match(aD (ag a) 0)==(i64.wrap ((aD (ag b) 0)*(aD (ag c) 0)))with|true=>some [RV.d apY (aD (ag a) 0)]|false=>(match(aD (ag a) 0)==0 with|true=>some [RV.d apY (i64.wrap ((aD (ag b) 0)*(aD (ag c) 0)))]|false=>(og (o2 a a) (og (o2 b b) (og (o2 (hMu b b) c) (og (o2 (hMu a a) (hMu (hMu b b) c)) (some [RV.d apY (i64.wrap ((aD (ag a) 0)*(aD (ag (hMu a a)) (ag (hMu (hMu b b) c)))))]))))))))))
def DO:Cn 293 [tR,tR,tR]:=cn fun(a b c:BR)=>lf (ok Rat 240000 a∧ok Rat 170000 b∧ok Rat 30000 c) [.d apY (gv (ag a) (ag b) (ag c))] fun h=>by
 refine aA MV (WZ a b c) ⟨0,?_⟩;obtain⟨ha,hb,hc⟩:=h;obtain⟨a,rfl,ba⟩:=aB ha;obtain⟨b,rfl,bb⟩:=aB hb;obtain⟨c,rfl,bc⟩:=aB hc;unfold WZ;simp only[aO,Nat.reduceAdd,Nat.reduceLeDiff,qo];exact Bu _ _ _
def Xz(a:BR)(_k:KT):OLR:=og (o1 a) (og (o1 (hNe a)) (some [RV.d tR (hNe (hNe a))]))
def YZ:Cn 338 [tR]:=cn fun(a:BR)=>lf (okR a) [.d tR (ak (ag a))] fun h=>by
 refine aA MV (Xz a) ⟨0,?_⟩;have ha:=h;obtain⟨a,rfl,ba⟩:=ff ha;unfold Xz;simp only[aO,Nat.reduceLeDiff,Rat.neg_neg]
def afi:List En:=enT DO::enL YZ::MV
def Yo(a b:BO3)(_k:KT):OLR:=og (o2 a.1 b.1) (og (o1 a.2.1) (og (o1 b.2.1) (og (decide (aG (0:Int))) (og (o1 a.2.2) (og (o1 b.2.2) (some [RV.d tQ (hSu a.1 b.1,(hid (ak (ag a.2.1)),(hNe b.2.1,(hid (ak ((0:Int):Rat)),(hid (ak (ag a.2.2)),hid (ak (ag b.2.2)))))))]))))))
def PU:Cn 296 [tO,tO]:=cn fun(a b:BO3)=>lf (ok Rt 15000 a∧ok Rt 15000 b) [.d tQ (enc (suT (dec a) (dec b)))] fun h=>by
 refine aA afi (Yo a b) ⟨0,?_⟩;obtain⟨ha,hb⟩:=h;obtain⟨a,rfl,ba⟩:=aB ha;obtain⟨b,rfl,bb⟩:=aB hb;unfold Yo;simp only[aO,Nat.reduceLeDiff];try rfl
theorem jX{n:Int}(h:aG n):szI n≤3:=by
 have:pw 3=1000000000000000000000000000:=by decide
 exact fk (by have:=h.1;omega) (by have:=h.2;omega)
theorem QT{q:Rat}{k:Nat}(h:Bd q k)(hk:k≤480000):okI (ai q.floor)∧okI (ai (-q.floor)):=by
 have e:szI q.floor≤k:=by
  refine amS (dA ?_) h.le.1;rw[Rat.floor_def];exact Int.natAbs_ediv_le_natAbs _ _
 exact⟨aV (by omega),aV (by rw[je];omega)⟩
theorem alx:Bd (65536:Rat) 1:=⟨⟨by decide+kernel,by decide+kernel⟩⟩
theorem abD:((65536:Int):Rat)=65536:=rfl
theorem p48:(2:Int)^(min (48:Int).toNat 64)=281474976710656:=by decide
theorem p32:(2:Int)^(min (32:Int).toNat 64)=4294967296:=by decide
theorem p16:(2:Int)^(min (16:Int).toNat 64)=65536:=by decide
theorem fdv{a b:Int}(h:0≤b):Int.fdiv a b=a/b:=Int.fdiv_eq_ediv_of_nonneg a h
theorem ZI(n k:Nat)(hn:n<18446744073709551616)(hk:2^k-1<18446744073709551616):BitVec.toNat (BitVec.ofInt 64 (n:Int)&&&BitVec.ofInt 64 ((2^k-1:Nat):Int))=n%2^k:=by
 rw[BitVec.toNat_and,BitVec.toNat_ofInt,BitVec.toNat_ofInt];have e1:((n:Int)%((2^64:Nat):Int)).toNat=n:=by omega
 have e2:(((2^k-1:Nat):Int)%((2^64:Nat):Int)).toNat=2^k-1:=by omega
 rw[e1,e2,Nat.and_two_pow_sub_one_eq_mod]
theorem agd(n:Nat)(hn:n<18446744073709551616):u64.wrap (BitVec.toNat (BitVec.ofInt 64 (n:Int)&&&BitVec.ofInt 64 65535))=((n%65536:Nat):Int):=by
 rw[show(65535:Int)=((2^16-1:Nat):Int) from rfl,ZI n 16 hn (by decide),anv];omega
theorem Of(n:Nat)(hn:n<18446744073709551616):u64.wrap (BitVec.toNat (BitVec.ofInt 64 (n:Int)&&&BitVec.ofInt 64 4294967295))=((n%4294967296:Nat):Int):=by
 rw[show(4294967295:Int)=((2^32-1:Nat):Int) from rfl,ZI n 32 hn (by decide),anv];omega
theorem ak5{h l:Nat}(hh:h<65536)(hl:l<281474976710656):u64.wrap (BitVec.toNat (BitVec.ofInt 64 (u64.wrap ((h:Int)*281474976710656)) ||| BitVec.ofInt 64 (l:Int)))=((h*281474976710656+l:Nat):Int):=by
 rw[BitVec.toNat_or,BitVec.toNat_ofInt,BitVec.toNat_ofInt,anv,anv]
 have e1:((h:Int)*281474976710656%18446744073709551616%((2^64:Nat):Int)).toNat=h <<< 48:=by
  rw[Nat.shiftLeft_eq];omega
 have e2:((l:Int)%((2^64:Nat):Int)).toNat=l:=by omega
 rw[e1,e2,←Nat.shiftLeft_add_eq_or_of_lt (by omega),Nat.shiftLeft_eq];omega
def scP(x y:Int):Prop:=x.natAbs≤2305843009213693952∧y.natAbs≤2305843009213693952
instance (x y:Int):Decidable (scP x y):=by unfold scP;infer_instance
def EV(n:Int):Prop:=0≤n∧n≤2305843009213693952
instance (n:Int):Decidable (EV n):=by unfold EV;infer_instance
def ahf:Ctx:=CX [] []
def aau(x y:Int)(_k:KT):OLR:=match decide (x<(-2305843009213693952))with|true=>some [RV.d tG (0,0),RV.d .bool false]|false=>(match decide (y>2305843009213693952)with|true=>some [RV.d tG (0,0),RV.d .bool false]|false=>some [RV.d tG (x,y),RV.d .bool true])
theorem aiR(x y:Int):RS ahf 353 [SI x,SI y] (aau x y):=rsX
def Nd:Cn 353 [apY,apY]:=cn fun(x y:Int)=>lf True [.d tG ((oA x y).1),.d .bool ((oA x y).2)] fun _=>by
 refine fV (E:=[]) trivial (aiR _ _ ⟨0,?_⟩);unfold aau oA;cases decide (x< -2305843009213693952)
 ·cases decide (y>2305843009213693952)<;>rfl
 ·rfl
def FE:eg:=spN false true [tI] (fun x=>decide (okI x.1)) (fun x=>[RV.d tI (hid (ai (-ae x.1)))])
theorem CC:SpK 216 FE:=spX fun x h=>by simp only[bK];exact IR x.1 (amH h)
def Am:List En:=[⟨99,ij,fa⟩,⟨108,gS,eT⟩,⟨109,kY,gD⟩,enL Rw,enT XO,⟨216,FE,CC⟩,enL Nd]
def YI(a:BR)(_k:KT):OLR:=let y1:=hid (ak ((65536:Int):Rat));let y2:=hid (ai (ag (hMu a y1)).floor);let y3:=hid (ai (ag (hNe (hMu a y1))).floor);let y4:=hid (ai (-ae y3));let y5:=oA (bif decide (aG (ae y2))then ae y2 else 0) (bif decide (aG (ae y4))then ae y4 else 0);og (decide (aG (65536:Int))) (og (o2 a y1) (og (o1 (hMu a y1)) (og (decide (okI y2)) (og (o1 (hMu a y1)) (og (o1 (hNe (hMu a y1))) (og (decide (okI y3)) (og (decide (okI y4)) (match !(decide (aG (ae y2)))with|true=>some [RV.d tG (0,0),RV.d .bool false]|false=>(match !(decide (aG (ae y4)))with|true=>some [RV.d tG (0,0),RV.d .bool false]|false=>some [RV.d tG (hid (y5.1)),RV.d .bool (y5.2)])))))))))
def Qf:Cn 333 [tR]:=cn fun(a:BR)=>lf (ok Rat 200000 a) [.d tG ((frF (ag a)).1),.d .bool ((frF (ag a)).2)] fun h=>by
 refine aA Am (YI a) ⟨0,?_⟩;have ha:=h;obtain⟨a,rfl,ba⟩:=aB ha;have hk:=alx;have h6:aG 65536:=by decide
 have f1:=QT (inferInstance:Bd (a*65536) _) (by decide);have f2:=QT (inferInstance:Bd (-(a*65536)) _) (by decide);unfold YI;simp only[abD,aO,Nat.reduceAdd,Nat.reduceLeDiff,dec_enc,dT h6,dT f1.1,dT f2.1,dT f2.2];unfold frF;cases e1:decide (aG (a*65536).floor)
 ·rfl
 ·cases e2:decide (aG (-(-(a*65536)).floor))
  ·rfl
  ·rfl
def YT(a b:(Int×Int))(_k:KT):OLR:=some [RV.d tG (hid ((oA (i64.wrap (a.1+b.1)) (i64.wrap (a.2+b.2))).1)),RV.d .bool ((oA (i64.wrap (a.1+b.1)) (i64.wrap (a.2+b.2))).2)]
def Mm:Cn 335 [tG,tG]:=cn fun(a b:(Int×Int))=>lf (prI a∧prI b) [.d tG ((dL a b).1),.d .bool ((dL a b).2)] fun h=>by
 refine aA Am (YT a b) ⟨0,?_⟩;obtain⟨⟨a1,a2,a3⟩,⟨b1,b2,b3⟩⟩:=h;unfold YT dL;rw[aT (by omega) (by omega),aT (by omega) (by omega)];simp only[bK]
def Wv(a:(Int×Int))(_k:KT):OLR:=some [RV.d tG (i64.wrap (0-a.2),i64.wrap (0-a.1))]
def Ll:Cn 362 [tG]:=cn fun(a:(Int×Int))=>lf (prI a) [.d tG (mR a)] fun h=>by
 refine aA Am (Wv a) ⟨0,?_⟩;obtain⟨a1,a2,a3⟩:=h;unfold Wv mR;rw[aT (by omega) (by omega),aT (by omega) (by omega),aox,aox]
def aaC(n:Int)(_k:KT):OLR:=match decide (n<0)with|true=>some [RV.d (.int .u64) (u64.wrap (0-(u64.wrap n)))]|false=>some [RV.d (.int .u64) (u64.wrap n)]
def Pu:Cn 367 [apY]:=cn fun(n:Int)=>lf (aG n) [.d (.int .u64) (n.natAbs:Int)] fun h=>by
 refine aA Am (aaC n) ⟨0,?_⟩;obtain⟨h1,h2⟩:=h;unfold aaC;rw[anv,anv];by_cases hn:n<0
 ·rw[amE hn,show(0-n%18446744073709551616)%18446744073709551616=(n.natAbs:Int) by omega]
 ·rw[amG hn,show n%18446744073709551616=(n.natAbs:Int) by omega]
def ZD(x y:Int)(_k:KT):OLR:=match decide (32<(0:Int))with|true=>none|false=>(match decide (32<(0:Int))with|true=>none|false=>(match decide (32<(0:Int))with|true=>none|false=>(match decide (32<(0:Int))with|true=>none|false=>(match decide (32<(0:Int))with|true=>none|false=>some [RV.d (.int .u64) (u64.wrap ((u64.wrap ((u64.wrap ((Int.fdiv x (2^(min (32:Int).toNat 64)))*(Int.fdiv y (2^(min (32:Int).toNat 64)))))+(Int.fdiv (u64.wrap ((u64.wrap ((Int.fdiv x (2^(min (32:Int).toNat 64)))*(u64.wrap (BitVec.toNat (BitVec.ofInt 64 y&&&BitVec.ofInt 64 4294967295)))))+(Int.fdiv (u64.wrap ((u64.wrap (BitVec.toNat (BitVec.ofInt 64 x&&&BitVec.ofInt 64 4294967295)))*(u64.wrap (BitVec.toNat (BitVec.ofInt 64 y&&&BitVec.ofInt 64 4294967295))))) (2^(min (32:Int).toNat 64))))) (2^(min (32:Int).toNat 64)))))+(Int.fdiv (u64.wrap ((u64.wrap (BitVec.toNat (BitVec.ofInt 64 (u64.wrap ((u64.wrap ((Int.fdiv x (2^(min (32:Int).toNat 64)))*(u64.wrap (BitVec.toNat (BitVec.ofInt 64 y&&&BitVec.ofInt 64 4294967295)))))+(Int.fdiv (u64.wrap ((u64.wrap (BitVec.toNat (BitVec.ofInt 64 x&&&BitVec.ofInt 64 4294967295)))*(u64.wrap (BitVec.toNat (BitVec.ofInt 64 y&&&BitVec.ofInt 64 4294967295))))) (2^(min (32:Int).toNat 64)))))&&&BitVec.ofInt 64 4294967295)))+(u64.wrap ((u64.wrap (BitVec.toNat (BitVec.ofInt 64 x&&&BitVec.ofInt 64 4294967295)))*(Int.fdiv y (2^(min (32:Int).toNat 64))))))) (2^(min (32:Int).toNat 64))))),RV.d (.int .u64) (u64.wrap (x*y))]))))
def R9:Cn 366 [(.int .u64),(.int .u64)]:=cn fun(x y:Int)=>lf (iB x∧iB y) [.d (.int .u64) (x*y/18446744073709551616),.d (.int .u64) (x*y%18446744073709551616)] fun h=>by
 refine aA Am (ZD x y) ⟨0,?_⟩;obtain⟨h1,h2⟩:=h;obtain⟨X,rfl⟩:=anO h1.1;obtain⟨Y,rfl⟩:=anO h2.1;have hX:X<18446744073709551616:=by have:=h1.2;omega
 have hY:Y<18446744073709551616:=by have:=h2.2;omega
 have wn:∀n:Nat,n<18446744073709551616→u64.wrap (n:Int)=(n:Int):=fun n hn=>by rw[anv];omega
 have eX:(X:Int)/4294967296=((X/4294967296:Nat):Int):=by omega
 have eY:(Y:Int)/4294967296=((Y/4294967296:Nat):Int):=by omega
 unfold ZD;simp only[p32,fdv (show(0:Int)≤4294967296 by decide),Of X hX,Of Y hY,eX,eY]
 have hXY:X*Y=X/4294967296*(Y/4294967296)*18446744073709551616+(X/4294967296*(Y%4294967296)+X%4294967296*(Y/4294967296))*4294967296+X%4294967296*(Y%4294967296):=by
  have a:=Nat.div_add_mod X 4294967296;have b:=Nat.div_add_mod Y 4294967296;generalize X/4294967296=x1 at*;generalize X%4294967296=x0 at*;generalize Y/4294967296=y1 at*;generalize Y%4294967296=y0 at*;subst a b;grind
 have x0:X%4294967296≤4294967295:=by omega
 have y0:Y%4294967296≤4294967295:=by omega
 have x1:X/4294967296≤4294967295:=by omega
 have y1:Y/4294967296≤4294967295:=by omega
 have q00:=aoM x0 y0;have q10:=aoM x1 y0;have q01:=aoM x0 y1;have q11:=aoM x1 y1;simp only[←an9];rw[hXY];generalize X%4294967296*(Y%4294967296)=p00 at*;generalize X/4294967296*(Y%4294967296)=p10 at*;generalize X%4294967296*(Y/4294967296)=p01 at*;generalize X/4294967296*(Y/4294967296)=p11 at*
 have t0:u64.wrap (u64.wrap (p10:Int)+u64.wrap (p00:Int)/4294967296)=((p10+p00/4294967296:Nat):Int):=by
  rw[wn p10 (by omega),wn p00 (by omega),show(p10:Int)+(p00:Int)/4294967296=((p10+p00/4294967296:Nat):Int) by omega,wn _ (by omega)]
 rw[t0,Of _ (by omega)]
 have t1:u64.wrap (((p10+p00/4294967296)%4294967296:Nat)+u64.wrap (p01:Int))=(((p10+p00/4294967296)%4294967296+p01:Nat):Int):=by
  rw[wn p01 (by omega),←Int.natCast_add,wn _ (by omega)]
 rw[t1,wn p11 (by omega)];rw[amG (show ¬(32:Int)<0 by decide)];dsimp only
 have hi:u64.wrap (u64.wrap ((p11:Int)+((p10+p00/4294967296:Nat):Int)/4294967296)+(((p10+p00/4294967296)%4294967296+p01:Nat):Int)/4294967296)=((p11*18446744073709551616+(p10+p01)*4294967296+p00:Nat):Int)/18446744073709551616:=by
  rw[anv,anv];omega
 rw[hi,anv]
def afG:List En:=enA Pu::enA R9::Am
def Yw(x y:Int)(_k:KT):OLR:=let y1:=hid ((x.natAbs:Int));let y2:=hid ((y.natAbs:Int));let y3:=hid (y1*y2/18446744073709551616);let y4:=hid (y1*y2%18446744073709551616);let y5:=u64.wrap (BitVec.toNat (BitVec.ofInt 64 (u64.wrap (y3*2^(min (48:Int).toNat 64))) ||| BitVec.ofInt 64 (Int.fdiv y4 (2^(min (16:Int).toNat 64)))));let y6:=i64.wrap y5;let y7:=i64.wrap (y6+1);let y8:=i64.wrap (0-y7);let y9:=i64.wrap (0-y6);let y10:=decide (y9≤2305843009213693952);og (decide (aG x)) (og (decide (aG y)) (og (decide (iB y1∧iB y2)) (match decide (16<(0:Int))with|true=>none|false=>(match(Int.fdiv y3 (2^(min (16:Int).toNat 64))) !=0 with|true=>some [RV.d apY 0,RV.d apY 0,RV.d .bool false]|false=>(match decide (48<(0:Int))with|true=>none|false=>(match decide (16<(0:Int))with|true=>none|false=>(match decide (y5>2305843009213693952)with|true=>some [RV.d apY 0,RV.d apY 0,RV.d .bool false]|false=>(match(u64.wrap (BitVec.toNat (BitVec.ofInt 64 y4&&&BitVec.ofInt 64 65535))) !=0 with|true=>(match !((decide (x<0))==(decide (y<0)))with|true=>(match decide (y8≥(-2305843009213693952))with|true=>some [RV.d apY y8,RV.d apY y9,RV.d .bool y10]|false=>some [RV.d apY y8,RV.d apY y9,RV.d .bool false])|false=>(match decide (y6≥(-2305843009213693952))with|true=>some [RV.d apY y6,RV.d apY y7,RV.d .bool (decide (y7≤2305843009213693952))]|false=>some [RV.d apY y6,RV.d apY y7,RV.d .bool false]))|false=>(match !((decide (x<0))==(decide (y<0)))with|true=>(match decide (y9≥(-2305843009213693952))with|true=>some [RV.d apY y9,RV.d apY y9,RV.d .bool y10]|false=>some [RV.d apY y9,RV.d apY y9,RV.d .bool false])|false=>(match decide (y6≥(-2305843009213693952))with|true=>some [RV.d apY y6,RV.d apY y6,RV.d .bool (decide (y6≤2305843009213693952))]|false=>some [RV.d apY y6,RV.d apY y6,RV.d .bool false]))))))))))
def W6:Cn 356 [apY,apY]:=cn fun(x y:Int)=>lf (scP x y) [.d apY ((scF x y).1.1),.d apY ((scF x y).1.2),.d .bool ((scF x y).2)] fun h=>by
 refine aA afG (Yw x y) ⟨0,?_⟩;obtain⟨hx,hy⟩:=h;have h1:aG x:=⟨by omega,by omega⟩
 have h2:aG y:=⟨by omega,by omega⟩
 have h3:iB (x.natAbs:Int)∧iB (y.natAbs:Int):=⟨⟨by omega,by omega⟩,⟨by omega,by omega⟩⟩
 unfold Yw scF;simp only[bK];rw[dT h1,dT h2,dT h3];have hp:=aoM hx hy;simp only[←an9,p16,p48,fdv (show(0:Int)≤65536 by decide)];generalize x.natAbs*y.natAbs=p at*;rw[amG (show ¬(16:Int)<0 by decide),amG (show ¬(48:Int)<0 by decide),show(p:Int)/18446744073709551616=((p/18446744073709551616:Nat):Int) by omega,show(p:Int)%18446744073709551616=((p%18446744073709551616:Nat):Int) by omega,show((p%18446744073709551616:Nat):Int)/65536=((p%18446744073709551616/65536:Nat):Int) by omega,agd _ (by omega),show p%18446744073709551616%65536=p%65536 by omega];by_cases hc:p≥1208925819614629174706176
 ·rw[amE hc,show(((p/18446744073709551616:Nat):Int)/65536 !=0)=true by simp;omega];rfl
 ·rw[amG hc,show(((p/18446744073709551616:Nat):Int)/65536 !=0)=false by simp;omega,ak5 (by omega) (by omega),show p/18446744073709551616*281474976710656+p%18446744073709551616/65536=p/65536 by omega];have hdm:=Nat.div_add_mod p 65536;have hml:=apv p (show 65536>0 by decide);have hru:(p+65535)/65536=if p%65536=0 then p/65536 else p/65536+1:=by split<;>omega
  rw[hru];clear hru;generalize p/65536=q at*;generalize p%65536=m at*;have e1:decide ((q:Int)>2305843009213693952)=decide (q>2305843009213693952):=anq.2 (by omega);rw[e1];by_cases hd:q>2305843009213693952
  ·rw[amE hd];rfl
  rw[amG hd,aT (x:=(q:Int)) (by omega) (by omega),aT (x:=(q:Int)+1) (by omega) (by omega),aT (x:=0-(q:Int)) (by omega) (by omega),aT (x:=0-((q:Int)+1)) (by omega) (by omega)];have e2:((m:Int) !=0)=!decide (m=0):=by by_cases h:m=0<;>simp[h]
  have e3:decide (0-(q:Int)≥ -2305843009213693952)=true:=amE (by omega);have e4:decide (0-(q:Int)≤2305843009213693952)=true:=amE (by omega);have e5:decide ((q:Int)≥ -2305843009213693952)=true:=amE (by omega);have e6:decide ((q:Int)≤2305843009213693952)=true:=amE (by omega);have e7:decide (0-((q:Int)+1)≥ -2305843009213693952)=decide (q+1≤2305843009213693952):=anq.2 (by omega);have e8:decide ((q:Int)+1≤2305843009213693952)=decide (q+1≤2305843009213693952):=anq.2 (by omega);have e9:decide (q≤2305843009213693952)=true:=amE (by omega);rw[e2,e3,e4,e5,e6,e7,e8];have f2:((q+1:Nat):Int)=(q:Int)+1:=by omega
  have f3:decide (m=0)=true→m=0:=amH;have f4:decide (m=0)=false→m≠0:=anw;generalize decide (m=0)=d2 at*;generalize (decide (x<0)==decide (y<0))=d3 at*;cases d2
  ·rw[am0 (f4 rfl),f2];generalize decide (q+1≤2305843009213693952)=d4 at*;cases d3<;>cases d4<;>simp
  ·rw[am7 (f3 rfl),e9];cases d3<;>simp
def bH(r:Rt):Iv×Bool:=
 bif !(frF r.1).2||decide (r.2.1=0)then frF r.1
 else bif !(frF r.2.1).2||!(frF r.2.2).2||decide (r.2.2<0)then(iv0,false)
 else bif !(sqF (frF r.2.2).1).2 then(iv0,false)
 else bif !(cM (frF r.2.1).1 (sqF (frF r.2.2).1).1).2 then(iv0,false)
 else dL (frF r.1).1 (cM (frF r.2.1).1 (sqF (frF r.2.2).1).1).1
def jJ(n:Rat)(a:Iv)(k:Bool):Iv×Bool:=bif !k||!(frF n).2 then(iv0,false)else cM (frF n).1 a
def apF(a b:Rt):Int×Bool:=
 bif !(bH a).2||!(bH b).2 then(0,false)else bif decide ((bH a).1.2<(bH b).1.1)then(-1,true)else bif decide ((bH a).1.1>(bH b).1.2)then(1,true)else(0,false)
abbrev Pt:=Rat×Rat×Rat×Rat×Rat
abbrev Ln:=Rat×Rat×Rat
def pxR(p:Pt):Rt:=(p.1,p.2.1,p.2.2.2.2)
def pyR(p:Pt):Rt:=(p.2.2.1,p.2.2.2.1,p.2.2.2.2)
def xV(l:Ln)(p:Pt):Int×Bool:=
 bif !(jJ l.1 (bH (pxR p)).1 (bH (pxR p)).2).2||!(jJ l.2.1 (bH (pyR p)).1 (bH (pyR p)).2).2||!(frF l.2.2).2 then(0,false)
 else bif !(dL (jJ l.1 (bH (pxR p)).1 (bH (pxR p)).2).1 (jJ l.2.1 (bH (pyR p)).1 (bH (pyR p)).2).1).2 then(0,false)
 else bif !(dL (dL (jJ l.1 (bH (pxR p)).1 (bH (pxR p)).2).1 (jJ l.2.1 (bH (pyR p)).1 (bH (pyR p)).2).1).1 (mR (frF l.2.2).1)).2 then(0,false)
 else sgF (dL (dL (jJ l.1 (bH (pxR p)).1 (bH (pxR p)).2).1 (jJ l.2.1 (bH (pyR p)).1 (bH (pyR p)).2).1).1 (mR (frF l.2.2).1)).1
def fo(r:Rt)(q:Rat):Iv×Bool:=bif !(bH r).2||!(frF q).2 then(iv0,false)else dL (bH r).1 (mR (frF q).1)
def uR(c:Ln)(p:Pt):Int×Bool:=
 bif !(fo (pxR p) c.1).2||!(fo (pyR p) c.2.1).2||!(frF c.2.2).2 then(0,false)
 else bif !(cM (fo (pxR p) c.1).1 (fo (pxR p) c.1).1).2||!(cM (fo (pyR p) c.2.1).1 (fo (pyR p) c.2.1).1).2 then(0,false)
 else bif !(dL (cM (fo (pxR p) c.1).1 (fo (pxR p) c.1).1).1 (cM (fo (pyR p) c.2.1).1 (fo (pyR p) c.2.1).1).1).2 then(0,false)
 else bif !(dL (dL (cM (fo (pxR p) c.1).1 (fo (pxR p) c.1).1).1 (cM (fo (pyR p) c.2.1).1 (fo (pyR p) c.2.1).1).1).1 (mR (frF c.2.2).1)).2 then(0,false)
 else sgF (dL (dL (cM (fo (pxR p) c.1).1 (fo (pxR p) c.1).1).1 (cM (fo (pyR p) c.2.1).1 (fo (pyR p) c.2.1).1).1).1 (mR (frF c.2.2).1)).1
def sfF(m:Rat):Iv:=(sqF (frF m).1).1
def mfF(b:Rat)(i:Iv):Iv:=(cM (frF b).1 i).1
def qu1(q:Qd):Bool:=(frF q.2.2.2.2.1).2&&(sqF (frF q.2.2.2.2.1).1).2&&(frF q.2.2.2.2.2).2&&(sqF (frF q.2.2.2.2.2).1).2
def qu2(q:Qd):Bool:=(frF q.2.1).2&&(cM (frF q.2.1).1 (sfF q.2.2.2.2.1)).2&&(frF q.2.2.1).2&&(cM (frF q.2.2.1).1 (sfF q.2.2.2.2.2)).2&&(frF q.2.2.2.1).2&&(cM (sfF q.2.2.2.2.1) (sfF q.2.2.2.2.2)).2&&(cM (frF q.2.2.2.1).1 (cM (sfF q.2.2.2.2.1) (sfF q.2.2.2.2.2)).1).2
def quA(q:Qd):Iv×Bool:=dL (frF q.1).1 (mfF q.2.1 (sfF q.2.2.2.2.1))
def quB(q:Qd):Iv×Bool:=dL (mfF q.2.2.1 (sfF q.2.2.2.2.2)) (mfF q.2.2.2.1 (cM (sfF q.2.2.2.2.1) (sfF q.2.2.2.2.2)).1)
def qu3(q:Qd):Bool:=(frF q.1).2&&(quA q).2&&(quB q).2&&(dL (quA q).1 (quB q).1).2
def quF(q:Qd):Int×Bool:=bif !(qu1 q)then(0,false)else bif !(qu2 q)then(0,false)else bif !(qu3 q)then(0,false)else sgF (dL (quA q).1 (quB q).1).1
theorem yo(r:Rt):prI (bH r).1:=by
 unfold bH;cases !(frF r.1).2||decide (r.2.1=0)
 ·cases !(frF r.2.1).2||!(frF r.2.2).2||decide (r.2.2<0)
  ·cases !(sqF (frF r.2.2).1).2
   ·cases !(cM (frF r.2.1).1 (sqF (frF r.2.2).1).1).2
    ·exact RE.addF_pr (RE.frF_pr _) (sR _ _)
    ·exact fS
   ·exact fS
  ·exact fS
 ·exact RE.frF_pr _
theorem Wh(n:Rat)(a:Iv)(k:Bool):prI (jJ n a k).1:=by
 unfold jJ;cases !k||!(frF n).2
 ·exact sR _ _
 ·exact fS
theorem V0(r:Rt)(q:Rat):prI (fo r q).1:=by
 unfold fo;cases !(bH r).2||!(frF q).2
 ·exact RE.addF_pr (yo _) (RE.negF_pr (RE.frF_pr _))
 ·exact fS
namespace RE
theorem po{r:Rt}(h:(bH r).2=true):inI (bH r).1 (v2 r.1 r.2.1 r.2.2):=by
 unfold bH at h ⊢;cases e1:(frF r.1).2
 ·rw[e1]at h;simp only[Bool.not_false,Bool.true_or,cond_true]at h;rw[e1]at h;cases h
 ·rw[e1]at h;by_cases hb:r.2.1=0
  ·rw[amE hb]at h ⊢;simp only[Bool.not_true,Bool.false_or,cond_true];unfold v2;rw[hb,ta,zero_mul,add_zero];exact iw e1
  ·rw[amG hb]at h ⊢;cases e2:(frF r.2.1).2<;>cases e3:(frF r.2.2).2<;>cases e4:decide (r.2.2<0)<;>rw[e2,e3,e4]at h<;>try (cases h;done)
   cases e5:(sqF (frF r.2.2).1).2<;>rw[e5]at h<;>try (cases h;done)
   cases e6:(cM (frF r.2.1).1 (sqF (frF r.2.2).1).1).2<;>rw[e6]at h<;>try (cases h;done)
   have hn:(0:RE)≤of r.2.2:=fu.2 (by have:=anw e4;grind);exact j8 (iw e1) (lC (iw e2) (xm (iw e3) hn e5) e6) h
theorem H9{n:Rat}{a:Iv}{k:Bool}{x:RE}(ha:k=true→inI a x)(h:(jJ n a k).2=true):inI (jJ n a k).1 (of n*x):=by
 unfold jJ at h ⊢;cases k
 ·cases h
 ·cases e:(frF n).2<;>rw[e]at h
  ·cases h
  ·exact lC (iw e) (ha rfl) h
theorem H6{r:Rt}{q:Rat}(h:(fo r q).2=true):inI (fo r q).1 (v2 r.1 r.2.1 r.2.2+ -of q):=by
 unfold fo at h ⊢;cases e1:(bH r).2<;>cases e2:(frF q).2<;>rw[e1,e2]at h<;>try (cases h;done)
 exact j8 (po e1) (AY (iw e2)) h
theorem UK(x y:RE)(h1:x<y):x-y<0:=by grind
theorem af4(u x y a b:RE):((b-(a)))+((a-(u*x)))+((u*y-(b)))+((u-(0))*(x-(y)))=0:=by grind
theorem ap1(u x y a b:RE)(h1:0<u)(h2:u*x≤a)(h3:a<b)(h4:b≤u*y):x<y:=re.1 fun hg=>far (aK (aK (aK (aL h3) (aF h2)) (aF h4)) (bg (le_of_lt (aL h1)) (aF hg))) (af4 u x y a b)
theorem apF_ok{a b:Rt}(h:(apF a b).2=true):(apF a b).1=sg (vR a-vR b):=by
 unfold apF at h ⊢;cases e1:(bH a).2<;>cases e2:(bH b).2<;>rw[e1,e2]at h<;>try (cases h;done)
 obtain⟨a1,a2⟩:=po e1;obtain⟨b1,b2⟩:=po e2;cases e3:decide ((bH a).1.2<(bH b).1.1)<;>rw[e3]at h
 ·cases e4:decide ((bH a).1.1>(bH b).1.2)<;>rw[e4]at h
  ·cases h
  ·have h4:of ((bH b).1.2:Rat)<of ((bH a).1.1:Rat):=ik (ao4.2 (amH e4));exact(dM (aL (ap1 _ _ _ _ _ oa b2 h4 a1))).symm
 ·have h4:of ((bH a).1.2:Rat)<of ((bH b).1.1:Rat):=ik (ao4.2 (amH e3));exact(ju (UK _ _ (ap1 _ _ _ _ _ oa a2 h4 b1))).symm
theorem UN{l:Ln}{p:Pt}(h:(xV l p).2=true):(xV l p).1=sg (of l.1*v2 p.1 p.2.1 p.2.2.2.2+of l.2.1*v2 p.2.2.1 p.2.2.2.1 p.2.2.2.2+ -of l.2.2):=by
 unfold xV at h ⊢;cases e1:(jJ l.1 (bH (pxR p)).1 (bH (pxR p)).2).2<;>cases e2:(jJ l.2.1 (bH (pyR p)).1 (bH (pyR p)).2).2<;>cases e3:(frF l.2.2).2<;>rw[e1,e2,e3]at h<;>try (cases h;done)
 have i1:=H9 (x:=v2 p.1 p.2.1 p.2.2.2.2) (fun e=>po (r:=pxR p) e) e1;have i2:=H9 (x:=v2 p.2.2.1 p.2.2.2.1 p.2.2.2.2) (fun e=>po (r:=pyR p) e) e2;revert h i1 i2;generalize jJ l.1 (bH (pxR p)).1 (bH (pxR p)).2=X;generalize jJ l.2.1 (bH (pyR p)).1 (bH (pyR p)).2=Y;intro h i1 i2;cases e4:(dL X.1 Y.1).2<;>rw[e4]at h<;>try (cases h;done)
 cases e5:(dL (dL X.1 Y.1).1 (mR (frF l.2.2).1)).2<;>rw[e5]at h<;>try (cases h;done)
 exact Fp (j8 (j8 i1 i2 e4) (AY (iw e3)) e5) h
theorem Wg{c:Ln}{p:Pt}(h:(uR c p).2=true):(uR c p).1=sg ((v2 p.1 p.2.1 p.2.2.2.2+ -of c.1)*(v2 p.1 p.2.1 p.2.2.2.2+ -of c.1)+(v2 p.2.2.1 p.2.2.2.1 p.2.2.2.2+ -of c.2.1)*(v2 p.2.2.1 p.2.2.2.1 p.2.2.2.2+ -of c.2.1)+ -of c.2.2):=by
 unfold uR at h ⊢;cases e1:(fo (pxR p) c.1).2<;>cases e2:(fo (pyR p) c.2.1).2<;>cases e3:(frF c.2.2).2<;>rw[e1,e2,e3]at h<;>try (cases h;done)
 have i1:=H6 e1;have i2:=H6 e2;revert h;generalize fo (pxR p) c.1=X at*;generalize fo (pyR p) c.2.1=Y at*;intro h;cases e4:(cM X.1 X.1).2<;>cases e5:(cM Y.1 Y.1).2<;>rw[e4,e5]at h<;>try (cases h;done)
 cases e6:(dL (cM X.1 X.1).1 (cM Y.1 Y.1).1).2<;>rw[e6]at h<;>try (cases h;done)
 cases e7:(dL (dL (cM X.1 X.1).1 (cM Y.1 Y.1).1).1 (mR (frF c.2.2).1)).2<;>rw[e7]at h<;>try (cases h;done)
 exact Fp (j8 (j8 (lC i1 i1 e4) (lC i2 i2 e5) e6) (AY (iw e3)) e7) h
theorem ajg(a b c d:RE):a+b+(c+d)=a+b+c+d:=by grind
theorem quF_ok{q:Qd}(hM:0≤q.2.2.2.2.1)(hN:0≤q.2.2.2.2.2)(h:(quF q).2=true):(quF q).1=sg (vQ q.1 q.2.1 q.2.2.1 q.2.2.2.1 q.2.2.2.2.1 q.2.2.2.2.2):=by
 unfold quF at h ⊢;cases e1:qu1 q<;>rw[e1]at h<;>try (cases h;done)
 cases e2:qu2 q<;>rw[e2]at h<;>try (cases h;done)
 cases e3:qu3 q<;>rw[e3]at h<;>try (cases h;done)
 unfold qu1 at e1;unfold qu2 at e2;unfold qu3 at e3;simp only[amI]at e1 e2 e3;obtain⟨⟨⟨a1,a2⟩,a3⟩,a4⟩:=e1;obtain⟨⟨⟨⟨⟨⟨b1,b2⟩,b3⟩,b4⟩,b5⟩,b6⟩,b7⟩:=e2;obtain⟨⟨⟨c1,c2⟩,c3⟩,c4⟩:=e3;have i1:inI (sfF q.2.2.2.2.1) (rq q.2.2.2.2.1):=xm (iw a1) (fu.2 hM) a2;have i2:inI (sfF q.2.2.2.2.2) (rq q.2.2.2.2.2):=xm (iw a3) (fu.2 hN) a4
 have hq:inI (dL (quA q).1 (quB q).1).1 (vQ q.1 q.2.1 q.2.2.1 q.2.2.2.1 q.2.2.2.2.1 q.2.2.2.2.2):=by
  have:=j8 (j8 (iw c1) (lC (iw b1) i1 b2) c2) (j8 (lC (iw b3) i2 b4) (lC (iw b5) (lC i1 i2 b6) b7) c3) c4;rw[ajg]at this;exact this
 exact Fp hq h
end RE
end Go.Proofs.YtnkndpoojnflmaaGreat
end
