/- The reference's Sqrt and Same. -/
import Derived.Test.YtnkndpoojnflmaaGreatF10
noncomputable section
namespace Go.Proofs.YtnkndpoojnflmaaGreat
open Go.RowKit Go.IntKind
theorem anh:type_of% @Bool.and_eq_true_iff:=@Bool.and_eq_true_iff
theorem ao1:type_of% @Int.zero_sub:=@Int.zero_sub
theorem ao3:type_of% @decide_eq_true_eq:=@decide_eq_true_eq
theorem ao5:type_of% @Rat.intCast_mul:=@Rat.intCast_mul
theorem apr:type_of% @beq_eq_false_iff_ne:=@beq_eq_false_iff_ne
theorem apw:type_of% @Rat.intCast_lt_intCast:=@Rat.intCast_lt_intCast
theorem apN:type_of% @Rat.neg_neg:=@Rat.neg_neg
theorem apY:type_of% @beq_self_eq_true:=@beq_self_eq_true
theorem aqk:type_of% @Bool.true_or:=@Bool.true_or
theorem mW(a b:Int):(cC a b==0)=decide (a=b):=by
 rcases Int.lt_trichotomy a b with h|h|h
 ·rw[da h,am7 (by omega)];rfl
 ·rw[h,d7,am5 rfl];rfl
 ·rw[cU h,am7 (by omega)];rfl
def Sw:List En:=[enK BW,enF Ox,enK AE,enK Gk,enK Oc]
def VQ:NT:=[((345,23),{keep:=[1,2,4,5],hl:=6})]
def BZ:Ctx:=CX (ens Sw) VQ
def kJ(x:Bool×List Int)(b4_0:Bool)(b4_1:List Int):Cfg:=⟨345,[.blk 0],[(1,.box 0 0),(2,.box 1 0),(4,.box 4 0),(5,.box 5 0)],[.box 29 [SB x.1,.d aqs x.2],.box 29 [SB false,.nil],.gone,.row 225 aqu ([1]),.box 29 [SB b4_0,.d aqs b4_1],.box 29 [SB ((ai (2:Int)).1),.d aqs ((ai (2:Int)).2)]],0,[]⟩
def CI(x:Bool×List Int)(k:KT):OLR:=match x.1 with|true=>some [RV.d y2Y (false,[]),RV.d aqt 7]|false=>(match(x.2.length:Int)==0 with|true=>some [RV.d y2Y (false,[]),RV.d aqt 0]|false=>(og (decide ((0:Int)≤i64.wrap (Int.tdiv (i64.wrap ((x.2.length:Int)+1)) 2)∧(i64.wrap (Int.tdiv (i64.wrap ((x.2.length:Int)+1)) 2))*((4:Nat):Int)≤140737488355328∧i64.wrap (Int.tdiv (i64.wrap ((x.2.length:Int)+1)) 2)≤140737488355328)) (og (decide (((List.replicate (i64.wrap (Int.tdiv (i64.wrap ((x.2.length:Int)+1)) 2)).toNat (0:Int)).length+([1]).length)*4≤140737488355328∧(List.replicate (i64.wrap (Int.tdiv (i64.wrap ((x.2.length:Int)+1)) 2)).toNat (0:Int)).length+([1]).length≤140737488355328)) (og (decide (aH (2:Int))) (k 23 (kJ x false ((List.replicate (i64.wrap (Int.tdiv (i64.wrap ((x.2.length:Int)+1)) 2)).toNat (0:Int))++([1]))))))))
theorem F7(x:Bool×List Int):RS BZ 345 [.d y2Y x] (CI x):=rsX
def rQ(x:Bool×List Int)(b4_0:Bool)(b4_1:List Int)(k:KT):OLR:=og (decide (fy x (b4_0,b4_1))) (ck (og (decide (okI (b4_0,b4_1)∧okI (ai (ag x/ag (b4_0,b4_1))))) (ck (og (decide (fy (ai (ag (b4_0,b4_1)+ag (ai (ag x/ag (b4_0,b4_1))))) (ai (2:Int)))) (dup (.b .l .l) (og (decide (okI (ai (ag (ai (ag (b4_0,b4_1)+ag (ai (ag x/ag (b4_0,b4_1)))))/ag (ai (2:Int))))∧okI (b4_0,b4_1))) (match decide ((cC (ag (ai (ag (ai (ag (b4_0,b4_1)+ag (ai (ag x/ag (b4_0,b4_1)))))/ag (ai (2:Int))))) (ag (b4_0,b4_1)))≥0)with|true=>some [RV.d y2Y (b4_0,b4_1),RV.d aqt 0]|false=>k 23 (kJ x ((ai (ag (ai (ag (b4_0,b4_1)+ag (ai (ag x/ag (b4_0,b4_1)))))/ag (ai (2:Int)))).1) ((ai (ag (ai (ag (b4_0,b4_1)+ag (ai (ag x/ag (b4_0,b4_1)))))/ag (ai (2:Int)))).2)))))) (dup (.b (.b .l .l) (.b .l .l)) (og (decide (fy (ai (ag (b4_0,b4_1)+ag (ai (ag x/ag (b4_0,b4_1))))) (ai (2:Int)))) (og (decide (okI (ai (ag (ai (ag (b4_0,b4_1)+ag (ai (ag x/ag (b4_0,b4_1)))))/ag (ai (2:Int))))∧okI (b4_0,b4_1))) (match decide ((cC (ag (ai (ag (ai (ag (b4_0,b4_1)+ag (ai (ag x/ag (b4_0,b4_1)))))/ag (ai (2:Int))))) (ag (b4_0,b4_1)))≥0)with|true=>some [RV.d y2Y (b4_0,b4_1),RV.d aqt 0]|false=>k 23 (kJ x ((ai (ag (ai (ag (b4_0,b4_1)+ag (ai (ag x/ag (b4_0,b4_1)))))/ag (ai (2:Int)))).1) ((ai (ag (ai (ag (b4_0,b4_1)+ag (ai (ag x/ag (b4_0,b4_1)))))/ag (ai (2:Int)))).2)))))))) (dup (.b .l .l) (ck (og (decide (okI (b4_0,b4_1)∧okI (ai (ag x/ag (b4_0,b4_1))))) (dup (.b .l .l) (og (decide (fy (ai (ag (b4_0,b4_1)+ag (ai (ag x/ag (b4_0,b4_1))))) (ai (2:Int)))) (og (decide (okI (ai (ag (ai (ag (b4_0,b4_1)+ag (ai (ag x/ag (b4_0,b4_1)))))/ag (ai (2:Int))))∧okI (b4_0,b4_1))) (match decide ((cC (ag (ai (ag (ai (ag (b4_0,b4_1)+ag (ai (ag x/ag (b4_0,b4_1)))))/ag (ai (2:Int))))) (ag (b4_0,b4_1)))≥0)with|true=>some [RV.d y2Y (b4_0,b4_1),RV.d aqt 0]|false=>k 23 (kJ x ((ai (ag (ai (ag (b4_0,b4_1)+ag (ai (ag x/ag (b4_0,b4_1)))))/ag (ai (2:Int)))).1) ((ai (ag (ai (ag (b4_0,b4_1)+ag (ai (ag x/ag (b4_0,b4_1)))))/ag (ai (2:Int)))).2))))))) (og (decide (okI (b4_0,b4_1)∧okI (ai (ag x/ag (b4_0,b4_1))))) (og (decide (fy (ai (ag (b4_0,b4_1)+ag (ai (ag x/ag (b4_0,b4_1))))) (ai (2:Int)))) (og (decide (okI (ai (ag (ai (ag (b4_0,b4_1)+ag (ai (ag x/ag (b4_0,b4_1)))))/ag (ai (2:Int))))∧okI (b4_0,b4_1))) (match decide ((cC (ag (ai (ag (ai (ag (b4_0,b4_1)+ag (ai (ag x/ag (b4_0,b4_1)))))/ag (ai (2:Int))))) (ag (b4_0,b4_1)))≥0)with|true=>some [RV.d y2Y (b4_0,b4_1),RV.d aqt 0]|false=>k 23 (kJ x ((ai (ag (ai (ag (b4_0,b4_1)+ag (ai (ag x/ag (b4_0,b4_1)))))/ag (ai (2:Int)))).1) ((ai (ag (ai (ag (b4_0,b4_1)+ag (ai (ag x/ag (b4_0,b4_1)))))/ag (ai (2:Int)))).2)))))))))
theorem xj(x:Bool×List Int)(b4_0:Bool)(b4_1:List Int):RN BZ 23 (kJ x b4_0 b4_1) (rQ x b4_0 b4_1):=rnX
theorem J2(x:BI)(hx:okI x)(h0:0<ag x):∀(m:Nat) (X:Int),X.toNat=m→0<X→bL (ag x)≤X→szI X≤900000→BZ.Runs 23 (kJ x (ai X).1 (ai X).2) [.d y2Y (ai (bL (ag x))),.d aqt 0]:=by
 intro m;induction m using Nat.strongRecOn with
 |ind m ih=>
  intro X hm hX hs hsz;obtain⟨g0,g1,g2⟩:=gh (anO h0);have hq0:0≤ag x/X:=an9 (by omega) (by omega);have hq1:ag x/X≤ag x:=aoW _ (by omega);have oX:okI (ai X):=aV (by omega);have sq:szI (ag x/X)≤1000000:=ank (dH (by omega)) (iZ hx);have p1:fy x (ai X):=⟨hx,oX,by rw[dec_enc];exact hX⟩
  have ssum:szI (X+ag x/X)≤1000000:=by
   have b1:=nS hsz;have b2:=nS (iZ hx);have e:pw 1000000=pw 900000*pw 100000:=by rw[←fI]
   have p9:(1000:Int)≤pw 100000:=by
    have:pw 100000=pw 99999*1000000000:=cg 99999;have:=cB 99999;omega
   have p8:=cB 900000;have h8:pw 900000*1000≤pw 900000*pw 100000:=ane p9 (by omega);rcases anC X 2 with hX1|hX1
   ·-- X=1:then the number is less than 4
    have:X=1:=by omega
    subst this;have:bL (ag x)≤1:=hs
    have h4:ag x<4:=by
     have:=sq_mono (a:=bL (ag x)+1) (b:=2) (by omega) (by omega);omega
    refine fu ?_ ?_<;>(rw[e,Int.ediv_one];omega)
   ·have hq2:ag x/X≤ag x/2:=by
     have:=Int.ediv_mul_le (ag x) (show X≠0 by omega);have h2:ag x/X*2≤ag x/X*X:=ane hX1 hq0;omega
    refine fu ?_ ?_<;>(rw[e]at b2 ⊢;omega)
  have o1:okI (ai X)∧okI (ai (ag x/X)):=⟨oX,aV sq⟩
  have p2:fy (ai (X+ag x/X)) (ai 2):=⟨aV ssum,by decide,by rw[dec_enc];decide⟩
  have hn:=Rv hX g0 g1;have o2:okI (ai ((X+ag x/X)/2))∧okI (ai X):=⟨aV (ank (dH (by omega)) ssum),oX⟩
  by_cases hc:X≤(X+ag x/X)/2
  ·have hXs:=wV hX hs g1 g2 g0 hc;refine xj _ _ _ ⟨0,?_⟩;unfold rQ;simp only[c9,fa];have e:∀z:Int,((ai z).1,(ai z).2)=ai z:=fun z=>rfl;simp only[e,dec_enc,am5 p1,am5 o1,am5 p2,am5 o2]
   have hg:decide (cC ((X+ag x/X)/2) X≥0)=true:=by
    rcases Int.lt_or_eq_of_le hc with h|h
    ·rw[cU h];rfl
    ·rw[←h,d7];rfl
   rw[hg,hXs]
  ·obtain⟨n,hN⟩:=ih ((X+ag x/X)/2).toNat (by omega) ((X+ag x/X)/2) rfl (by
    rcases anC 0 (bL (ag x))with h|h
    ·omega
    ·exfalso;have:bL (ag x)=0:=by omega
     rw[this]at g2;omega) hn (ank (dH (by omega)) hsz)
   refine xj _ _ _ ⟨n,?_⟩;unfold rQ;simp only[c9,fa];have e:∀z:Int,((ai z).1,(ai z).2)=ai z:=fun z=>rfl;simp only[e,dec_enc,am5 p1,am5 o1,am5 p2,am5 o2];rw[da (by omega)];exact hN
def abj:Cn 345 [y2Y]:=cn fun(x:Bool×List Int)=>lf (okI x) [.d y2Y (fN x),.d aqt (vS x)] fun h=>by
 refine cY Sw (show BZ.Res _ _ _ from ?_);obtain⟨x0,x1,x2⟩:=cK h;have hl:=h.2.2;cases hn:x.1
 ·by_cases hz:x.2=[]
  ·refine F7 _ ⟨0,?_⟩;unfold CI fN vS;have:ag x=0:=by unfold ag;rw[hn,hz];rfl
   rw[hn,hz,this];rfl
  ·have hp:0<val x.2:=eW h.1 hz;have hd:ag x=val x.2:=by unfold ag;rw[hn];rfl
   have hlen:=anE.2 hz
   have hk:i64.wrap (Int.tdiv (i64.wrap ((x.2.length:Int)+1)) 2)=(((x.2.length+1)/2:Nat):Int):=by
    rw[bW (by omega),hU (by omega),aT (by omega) (by omega)];omega
   have hv:val (List.replicate ((x.2.length+1)/2) 0++[1])=pw ((x.2.length+1)/2):=by
    rw[dG,gN,apC];simp[val]
   have hL:aR (List.replicate ((x.2.length+1)/2) 0++[1]):=by
    refine⟨fun y hy=>?_,by simp;omega⟩;rcases aoe.1 hy with hy|hy
    ·have:=List.eq_of_mem_replicate hy;omega
    ·simp at hy;omega
   have hpos:=cB ((x.2.length+1)/2)
   obtain⟨n,hN⟩:=J2 x h (by omega) _ (pw ((x.2.length+1)/2)) rfl hpos (by
     obtain⟨g0,g1,g2⟩:=gh (show 0≤ag x by omega);have hlt:=b9 h.1.1;have hm:=dm (show x.2.length≤(x.2.length+1)/2+(x.2.length+1)/2 by omega);rw[fI]at hm;have:=sq_lt (a:=bL (ag x)) (b:=pw ((x.2.length+1)/2)) (by omega) (by omega)
     omega) (fu (k:=900000) (by have:=cB 900000;omega) (by
      have:=dm (show(x.2.length+1)/2+1≤900000 by omega);rw[cg]at this;omega))
   refine F7 _ ⟨n,?_⟩;unfold CI fN vS;simp only[hk];rw[hn,show((x.2.length:Int)==0)=false by simp;omega];simp only[ao2];rw[am5 (show(0:Int)≤(((x.2.length+1)/2:Nat):Int)∧(((x.2.length+1)/2:Nat):Int)*((4:Nat):Int)≤140737488355328∧(((x.2.length+1)/2:Nat):Int)≤140737488355328 by omega)];rw[am5 (show((List.replicate ((x.2.length+1)/2) (0:Int)).length+([1]:List Nat).length)*4≤140737488355328∧(List.replicate ((x.2.length+1)/2) (0:Int)).length+([1]:List Nat).length≤140737488355328 by simp;omega)];rw[am5 (show aH 2 by decide)]
   have he:ai (pw ((x.2.length+1)/2))=(false,List.replicate ((x.2.length+1)/2) 0++[1]):=by
    have ho:okI ((false,List.replicate ((x.2.length+1)/2) 0++[1]):BI):=⟨⟨hL.1,by simp⟩,(fun e=>by cases e),(by simp;omega)⟩
    rw[iA ho];congr 1;exact hv.symm
   rw[he]at hN;exact hN
 ·refine F7 _ ⟨0,?_⟩;unfold CI fN vS;rw[hn];rfl
def aiR:List En:=enF xp::Sw
def PK(x y:Bool×List Int)(_k:KT):OLR:=match x.1==y.1 with|true=>(og (decide (rB x.2 y.2)) (some [RV.d .bool ((cC (val x.2) (val y.2))==0)]))|false=>some [RV.d .bool false]
def Pe:Cn 324 [y2Y,y2Y]:=cn fun(x y:Bool×List Int)=>lf (okI x∧okI y) [.d .bool (decide (ag x=ag y))] fun h=>by
 refine aA aiR (PK x y) ⟨0,?_⟩;obtain⟨hx,hy⟩:=h;obtain⟨x0,x1,x2⟩:=cK hx;obtain⟨y0,y1,y2⟩:=cK hy;unfold PK;rw[dT (show rB x.2 y.2 from⟨⟨hx.1,by have:=hx.2.2;omega⟩,⟨hy.1,by have:=hy.2.2;omega⟩⟩)];rw[bO,bO];unfold cj;cases ex:x.1<;>cases ey:y.1<;>simp only[cond_true,cond_false]
 ·show some [RV.d .bool (cC (val x.2) (val y.2)==0)]=_;rw[mW]
 ·have:=y1 ey;rw[am7 (show ¬val x.2= -val y.2 by omega)];rfl
 ·have:=x1 ex;rw[am7 (show ¬ -val x.2=val y.2 by omega)];rfl
 ·show some [RV.d .bool (cC (val x.2) (val y.2)==0)]=_;rw[mW,show decide (val x.2=val y.2)=decide (-val x.2= -val y.2) from anI.2 (by omega)]
def fE(q:Rat):Bool:=decide (bL q.num*bL q.num=q.num)&&decide (bL (q.den:Int)*bL (q.den:Int)=(q.den:Int))
def rtQ(q:Rat):Rat:=mkRat (bL q.num) (bL (q.den:Int)).toNat
theorem AA(z:Int):0≤bL z:=by unfold bL;omega
theorem CB{s:Int}(h:0≤s):bL (s*s)=s:=Vs h (Int.le_refl _) (by grind)
theorem pq{z:Int}(h:z<0):bL z=0:=by
 unfold bL;rw[show z.toNat=0 by omega];rfl
theorem agD{s t:Nat}(ht:0<t)(hg:(s*s).Coprime (t*t)):(mkRat (s:Int) t).num=(s:Int)∧(mkRat (s:Int) t).den=t:=by
 have hc:s.Coprime t:=Nat.Coprime.coprime_dvd_left (Nat.dvd_mul_left s s) (Nat.Coprime.coprime_dvd_right (Nat.dvd_mul_left t t) hg);rw[ap9,aqa,anr (by omega),anr (by omega),aoC,show t.gcd s=1 from hc.symm];simp
theorem GJ{q:Rat}(h:fE q=true):(rtQ q).num=bL q.num∧((rtQ q).den:Int)=bL (q.den:Int)∧rtQ q*rtQ q=q∧0≤rtQ q:=by
 unfold fE at h;simp only[am9,ao3]at h;obtain⟨h1,h2⟩:=h;have hd:=q.den_pos;have hr:=q.reduced;obtain⟨s,hs⟩:=aoo (AA q.num);obtain⟨t,ht⟩:=aoo (AA (q.den:Int));unfold rtQ;rw[hs,ht,ao2];rw[hs]at h1;rw[ht]at h2;have e1:q.num.natAbs=s*s:=by rw[←h1,←aoA,aoC]
 have e2:q.den=t*t:=by rw[←aoA]at h2;omega
 have hg:(s*s).Coprime (t*t):=by rw[←e1,←e2];exact hr
 have tp:0<t:=Nat.pos_of_ne_zero fun e=>by rw[e2,e]at hd;simp at hd
 obtain⟨g1,g2⟩:=agD tp hg;refine⟨g1,by rw[g2],?_,?_⟩
 ·rw[Rat.mkRat_mul_mkRat,←e2,h1,Rat.mkRat_self]
 ·exact Rat.num_nonneg.1 (by rw[g1];omega)
theorem TU(r:Rat):fE (r*r)=true:=by
 have hd:=r.den_pos
 have hc:(r.den*r.den).gcd (r.num*r.num).natAbs=1:=by
  rw[apW];have:=r.reduced.symm;exact Nat.Coprime.mul_left (Nat.Coprime.mul_right this this) (Nat.Coprime.mul_right this this)
 have e1:(r*r).num=r.num*r.num:=by
  rw[Rat.mul_def',ap9,hc,anr (apH (by omega) (by omega))];simp
 have e2:((r*r).den:Int)=(r.den:Int)*(r.den:Int):=by
  rw[Rat.mul_def',aqa,hc,anr (apH (by omega) (by omega)),Nat.div_one,aoA]
 unfold fE;rw[e1,e2,CB (s:=(r.den:Int)) (by omega)];rcases anC r.num 0 with h|h
 ·rw[show r.num*r.num= -r.num* -r.num by grind,CB (by omega)];simp
 ·rw[CB h];simp
def rtB(q:Rat):BR:=bif fE q then aj (rtQ q)else((false,[]),(false,[]))
theorem Be{x:BI}(h:okI x):fN x=ai (bL (ag x)):=by
 obtain⟨x0,x1,x2⟩:=cK h;unfold fN;cases hx:x.1
 ·rfl
 ·have:=x1 hx;have hd:ag x= -val x.2:=by rw[bO,hx];rfl
  rw[hd,pq (by omega)];rfl
theorem HM{z:Int}(h:szI z≤1000000):szI (bL z)≤500000:=by
 have h1:=nS h;have e:pw 1000000=pw 500000*pw 500000:=by rw[←fI]
 have hp:=cB 500000;rcases anC z 0 with h0|h0
 ·rw[pq h0];exact fu (by omega) hp
 ·obtain⟨g0,g1,g2⟩:=gh h0;have:=sq_lt (a:=bL z) (b:=pw 500000) (by omega) (by omega);exact fu (by omega) this
theorem OI(a b:Int):(ai a==ai b)=decide (a=b):=by
 by_cases h:a=b
 ·rw[h,am5 rfl];simp
 ·rw[am7 h,apr];intro e;exact h (by rw[←dec_enc a,e,dec_enc])
theorem JX{x y:BI}(hx:okI x)(hy:okI y):(x==y)=decide (ag x=ag y):=by
 rw[iA hx,iA hy,OI,dec_enc,dec_enc]
def Fz:eo:=spN true true [tI,tI] (fun x=>decide (okI x.1∧okI x.2.1)) (fun x=>[RV.d aqt (cC (ag x.1) (ag x.2.1))])
theorem EW:SpK 172 Fz:=spX fun x h=>ID x.1 x.2.1 (am8 h)
def E8:eo:=spN false true [tI,tI] (fun x=>decide (okI x.1∧okI x.2.1)) (fun x=>[RV.d tI (hid (ai (ag x.1*ag x.2.1)))])
theorem CO:SpK 173 E8:=spX fun x h=>by simp only[bJ];exact JV x.1 x.2.1 (am8 h)
def Yj:List En:=[⟨172,Fz,EW⟩,⟨173,E8,CO⟩,enL Xe]
def XB(x:BI)(_k:KT):OLR:=og (decide (okI x)) (match(vS x)==0 with|true=>(og (decide (okI (hid (fN x))∧okI (hid (fN x)))) (og (decide (okI (hid (ai (ag (hid (fN x))*ag (hid (fN x)))))∧okI x)) (some [RV.d tI (hid (fN x)),RV.d .bool ((cC (ag (hid (ai (ag (hid (fN x))*ag (hid (fN x)))))) (ag x))==0)])))|false=>some [RV.d tI (hid (fN x)),RV.d .bool false])
def ai8:Cn 330 [tI]:=cn fun(x:BI)=>lf (okI x) [.d tI (ai (bL (ag x))),.d .bool (decide (bL (ag x)*bL (ag x)=ag x))] fun h=>by
 refine aA Yj (XB x) ⟨0,?_⟩;have hs:=iZ h;have hz:szI (bL (ag x))≤500000:=HM hs;have o1:okI (ai (bL (ag x))):=aV (by omega);have o2:okI (ai (bL (ag x)*bL (ag x))):=aV (by have:=cW hz hz;omega);have o3:okI (ai (bL (ag x)*bL (ag x)))∧okI x:=⟨o2,h⟩
 have o4:okI (ai (bL (ag x)))∧okI (ai (bL (ag x))):=⟨o1,o1⟩
 have hng:x.1=true→decide (bL (ag x)*bL (ag x)=ag x)=false:=fun e=>am7 (by
  have:=(cK h).2.1 e;have hd:ag x= -val x.2:=by rw[bO,e];rfl
  rw[pq (by omega)];omega)
 unfold XB;simp only[bJ,Be h,dec_enc,dT h,dT o4,dT o3,mW];unfold vS;cases e:x.1
 ·rfl
 ·rw[hng e];rfl
def agn:List En:=enL ai8::Yj
def Yb(a:BR)(_k:KT):OLR:=og (decide (okI a.1)) (match decide (bL (ag a.1)*bL (ag a.1)=ag a.1)with|true=>(og (decide (okI a.2)) (match decide (bL (ag a.2)*bL (ag a.2)=ag a.2)with|true=>some [RV.d tR (hid (ai (bL (ag a.1))),hid (ai (bL (ag a.2)))),RV.d .bool true]|false=>some [RV.d tR ((false,[]),(false,[])),RV.d .bool false]))|false=>some [RV.d tR ((false,[]),(false,[])),RV.d .bool false])
def WO:Cn 291 [tR]:=cn fun(a:BR)=>lf (okR a) [.d tR (rtB (ae a)),.d .bool (fE (ae a))] fun h=>by
 refine aA agn (Yb a) ⟨0,?_⟩;obtain⟨a1,a2⟩:=cV h;unfold Yb rtB fE;rw[dT h.1,dT h.2.1,a1,a2];simp only[bJ];cases e1:decide (bL (ag a.1)*bL (ag a.1)=ag a.1)
 ·rfl
 ·cases e2:decide (bL (ag a.2)*bL (ag a.2)=ag a.2)
  ·rfl
  ·obtain⟨r1,r2,_⟩:=GJ (q:=ae a) (by unfold fE;rw[a1,a2,e1,e2];rfl);simp only[aoB,cond_true];unfold aj;rw[r1,r2,a1,a2];try rfl
def PW:List En:=[enL M1,enL abj,enT Pe]
def Rx(x:BI)(_k:KT):OLR:=og (decide (okI x)) (match(vS x)==0 with|true=>(og (decide (okI (hid (fN x))∧okI (hid (fN x)))) (og (decide (okI (hid (ai (ag (hid (fN x))*ag (hid (fN x)))))∧okI x)) (some [RV.d tI (hid (fN x)),RV.d .bool (decide (ag (hid (ai (ag (hid (fN x))*ag (hid (fN x)))))=ag x))])))|false=>some [RV.d tI (hid (fN x)),RV.d .bool false])
def adw:Cn 313 [tI]:=cn fun(x:BI)=>lf (okI x) [.d tI (ai (bL (ag x))),.d .bool (decide (bL (ag x)*bL (ag x)=ag x))] fun h=>by
 refine aA PW (Rx x) ⟨0,?_⟩;have hs:=iZ h;have hz:szI (bL (ag x))≤500000:=HM hs;have o1:okI (ai (bL (ag x))):=aV (by omega);have o2:okI (ai (bL (ag x)*bL (ag x))):=aV (by have:=cW hz hz;omega);have o3:okI (ai (bL (ag x)*bL (ag x)))∧okI x:=⟨o2,h⟩
 have o4:okI (ai (bL (ag x)))∧okI (ai (bL (ag x))):=⟨o1,o1⟩
 have hng:x.1=true→decide (bL (ag x)*bL (ag x)=ag x)=false:=fun e=>am7 (by
  have:=(cK h).2.1 e;have hd:ag x= -val x.2:=by rw[bO,e];rfl
  rw[pq (by omega)];omega)
 unfold Rx;simp only[bJ,Be h,dec_enc,dT h,dT o4,dT o3];unfold vS;cases e:x.1
 ·rfl
 ·rw[hng e];rfl
def aa7:List En:=enL adw::PW
def Sj(a:BR)(_k:KT):OLR:=og (decide (okI a.1)) (og (decide (okI a.2)) (match !(decide (bL (ag a.1)*bL (ag a.1)=ag a.1))with|true=>some [RV.d tR ((false,[]),(false,[])),RV.d .bool false]|false=>(match !(decide (bL (ag a.2)*bL (ag a.2)=ag a.2))with|true=>some [RV.d tR ((false,[]),(false,[])),RV.d .bool false]|false=>some [RV.d tR (hid (ai (bL (ag a.1))),hid (ai (bL (ag a.2)))),RV.d .bool true])))
def O7:Cn 242 [tR]:=cn fun(a:BR)=>lf (okR a) [.d tR (rtB (ae a)),.d .bool (fE (ae a))] fun h=>by
 refine aA aa7 (Sj a) ⟨0,?_⟩;obtain⟨a1,a2⟩:=cV h;unfold Sj rtB fE;rw[dT h.1,dT h.2.1,a1,a2];simp only[bJ];cases e1:decide (bL (ag a.1)*bL (ag a.1)=ag a.1)
 ·rfl
 ·cases e2:decide (bL (ag a.2)*bL (ag a.2)=ag a.2)
  ·rfl
  ·obtain⟨r1,r2,_⟩:=GJ (q:=ae a) (by unfold fE;rw[a1,a2,e1,e2];rfl);simp only[aoB,cond_true];unfold aj;rw[r1,r2,a1,a2];try rfl
def Lp:eo:=spN false true [tI,tI] (fun x=>decide (fy x.1 x.2.1)) (fun x=>[RV.d tI (hid (ai (ag x.1/ag x.2.1))),RV.d tI (hid (ai (ag x.1%ag x.2.1))),RV.d aqt 0])
theorem Po:SpK 341 Lp:=spX fun x h=>by simp only[bJ];exact Jv x.1 x.2.1 (am8 h)
def aiI:List En:=[⟨341,Lp,Po⟩]
def Z6(a:BR)(_k:KT):OLR:=og (decide (fy a.1 a.2)) (some [RV.d tI (hid (ai (ag a.1/ag a.2)))])
def Q8:Cn 355 [tR]:=cn fun(a:BR)=>lf (okR a) [.d tI (ai (ae a).floor)] fun h=>by
 refine aA aiI (Z6 a) ⟨0,?_⟩;obtain⟨a1,a2⟩:=cV h;unfold Z6;rw[dT (show fy a.1 a.2 from⟨h.1,h.2.1,h.2.2.1⟩),Rat.floor_def,a1,a2];simp only[bJ]
def WI:List En:=[enK wP]
def Vd:NT:=[((323,6),{keep:=[1,3],hl:=1})]
def Cw:Ctx:=CX (ens WI) Vd
def wz(x:BI)(s3:Int):Cfg:=⟨323,[.blk 0,.seq 23],[(1,.box 0 0),(3,SI s3)],[.box 29 [SB x.1,.d aqs x.2]],0,[]⟩
def ack(x:BI)(k:KT):OLR:=k 6 (wz x 0)
theorem abL(x:BI):RS Cw 323 [.d tI x] (ack x):=rsX
def uW(x:BI)(s3:Int)(k:KT):OLR:=match decide (s3<(x.2.length:Int))with|true=>(match aU x.2 s3 with|some x1=>(match decide (x1≥1000000000)with|true=>some [RV.d .bool false]|false=>k 6 (wz x (i64.wrap (s3+1))))|none=>none)|false=>(og (decide (aR x.2)) (match((ah (val x.2).toNat).length:Int)==(x.2.length:Int)with|true=>(match !x.1 with|true=>some [RV.d .bool true]|false=>some [RV.d .bool (decide ((x.2.length:Int)>0))])|false=>some [RV.d .bool false]))
theorem zu(x:BI)(s3:Int):RN Cw 6 (wz x s3) (uW x s3):=rnX
theorem J3(x:BI)(h:okI x):∀(j i:Nat),i+j=x.2.length→Cw.Runs 6 (wz x (i:Int)) [.d .bool true]:=by
 obtain⟨x0,x1,x2⟩:=cK h;have hlim:=gf h;have hl:=h.2.2;intro j;induction j with
 |zero=>
  intro i hi;refine zu _ _ ⟨0,?_⟩;unfold uW;have hc:ah (val x.2).toNat=x.2:=(oW h.1).symm;rw[cd (by omega),dT hlim,hc,apY];dsimp only;cases e:x.1
  ·rfl
  ·have:=x1 e;have:x.2≠[]:=fun e=>by rw[x2]at e;omega
   have:=anE.2 this;rw[am5 (by omega)];rfl
 |succ j ih=>
  intro i hi;have hil:i<x.2.length:=by omega
  obtain⟨q,hq⟩:=ih (i+1) (by omega);refine zu _ _ ⟨q,?_⟩;unfold uW;have hb:=(hlim.1 x.2[i] (anD hil)).2;rw[bG hil,av,am6 hil,bW (by omega)];dsimp only;rw[am7 (by omega)];exact hq
def ae1:Cn 323 [tI]:=cn fun(x:BI)=>lf (okI x) [.d .bool true] fun h=>by
 refine cY WI (show Cw.Res _ _ _ from ?_);obtain⟨q,hq⟩:=J3 x h x.2.length 0 (by omega);exact abL _ ⟨q,hq⟩
def akm:List En:=[enT Pe,enT ae1,enT M7,enL NO,enL SF]
def OO(a:BR)(_k:KT):OLR:=og (decide (okI a.1)) (og (decide (okI a.2)) (og (decide (okI a.2)) (match(cC (ag a.2) 0) !=1 with|true=>some [RV.d .bool false]|false=>(og (decide (okI a.1∧okI a.2)) (og (decide (okI (hid (ai ((Int.gcd (ag a.1) (ag a.2):Nat):Int)))∧okI (hid (ai 1)))) (some [RV.d .bool (decide (ag (hid (ai ((Int.gcd (ag a.1) (ag a.2):Nat):Int)))=ag (hid (ai 1))))]))))))
def adu:Cn 272 [tR]:=cn fun(a:BR)=>lf (okR a) [.d .bool true] fun h=>by
 refine aA akm (OO a) ⟨0,?_⟩;obtain⟨h1,h2,h3,h4,_⟩:=h;have o1:okI (ai ((Int.gcd (ag a.1) (ag a.2):Nat):Int)):=by rw[h4];exact qG
 unfold OO;simp only[bJ];rw[dT h1,dT h2,dT (show okI a.1∧okI a.2 from⟨h1,h2⟩),cU h3,dT (show okI (ai ((Int.gcd (ag a.1) (ag a.2):Nat):Int))∧okI (ai 1) from⟨o1,qG⟩),dec_enc,dec_enc,h4];rfl
def mkR(a b c:Rat):Rt:=bif fE c then(a+b*rtQ c,0,0)else bif decide (b=0)then(a,0,0)else(a,b,c)
def coR(a b c:Rat):Rt:=bif decide (b=0)then(a,0,0)else(a,b,c)
class Nn (c:Rat):Prop where le:0≤c
def WA(x:Rt):Prop:=(x.2.1=0∧x.2.2=0)∨(x.2.1≠0∧0<x.2.2∧fE x.2.2=false)
instance (x:Rt):Decidable (WA x):=by unfold WA;infer_instance
class Rdd (x:Rt):Prop where
 rd:WA x
def okT(k:Nat)(x:BO3):Prop:=ok Rt k x∧WA (dec x)
instance (k:Nat) (x:BO3):Decidable (okT k x):=by unfold okT;infer_instance
theorem fH{k:Nat}{x:BO3}(h:okT k x):∃v:Rt,x=enc v∧Bd v k∧Rdd v:=by
 obtain⟨h1,h2⟩:=h;obtain⟨v,rfl,bv⟩:=aB h1;rw[az]at h2;exact⟨v,rfl,bv,⟨h2⟩⟩
theorem aI{x:Rt}{j k:Nat}[h:Bd x j][r:Rdd x](hj:j≤k)(hk:k≤480000):decide (okT k (enc x))=true:=am5 ⟨am8 (okd hj hk),by rw[az];exact r.rd⟩
theorem Rdd.nn{x:Rt}(h:Rdd x):0≤x.2.2:=by
 rcases h.rd with h|h<;>grind
instance amV {x:Rt} [h:Rdd x]:Nn x.2.2:=⟨h.nn⟩
theorem sU:fE 0=true:=by decide+kernel
theorem IP{c:Rat}(h:0≤c)(hc:fE c=false):0<c:=by
 rcases(by grind:c=0∨0<c)with h|h
 ·rw[h,sU]at hc;cases hc
 ·exact h
instance o8 {a b c:Rat} [h:Nn c]:Rdd (mkR a b c):=by
 refine⟨?_⟩;unfold mkR;cases hc:fE c
 ·simp only[cond_false];by_cases hb:b=0
  ·rw[am5 hb];exact .inl ⟨rfl,rfl⟩
  ·rw[am7 hb];exact .inr ⟨hb,IP h.le hc,hc⟩
 ·exact .inl ⟨rfl,rfl⟩
instance acI {a:Rat}:Rdd (a,0,0):=⟨.inl ⟨rfl,rfl⟩⟩
namespace RE
theorem Lt{c:Rat}(h:fE c=true):rq c=of (rtQ c):=by
 obtain⟨_,_,e,h0⟩:=GJ h;refine EM _ _ (eT c) (fx.2 h0) ?_;rw[cQ (by rw[←e];exact anl h0 h0),←aG,e]
theorem IB:rq 0=0:=by
 have:=cQ (Rat.le_refl:(0:Rat)≤0);rcases fS (eT 0)with h|h
 ·have:=mul_pos h h;rw[cQ Rat.le_refl]at this;exact absurd this (lt_irrefl _)
 ·exact h
theorem dD(a c:Rat):v2 a 0 c=of a:=by
 unfold v2;rw[nj,zero_mul,add_zero]
theorem vR_mk(a b c:Rat):vR (mkR a b c)=v2 a b c:=by
 unfold mkR vR;cases hc:fE c
 ·simp only[cond_false];by_cases hb:b=0
  ·rw[am5 hb];subst hb;show v2 a 0 0=_;rw[dD,dD]
  ·rw[am7 hb];rfl
 ·show v2 (a+b*rtQ c) 0 0=_;rw[dD];unfold v2;rw[Lt hc,of_add,aG]
theorem vR_co(a b c:Rat):vR (coR a b c)=v2 a b c:=by
 unfold coR vR;by_cases hb:b=0
 ·rw[am5 hb];subst hb;show v2 a 0 0=_;rw[dD,dD]
 ·rw[am7 hb];rfl
end RE
theorem Wg{z:Int}(h:0≤z):bL z≤z:=by
 obtain⟨g0,g1,g2⟩:=gh h;rcases anC (bL z) 1 with h'|h'
 ·omega
 ·have:bL z*1≤bL z*bL z:=ane h' g0;omega
theorem EN(z:Int):szI (bL z)≤szI z:=by
 have h0:=AA z;rcases anC z 0 with h|h
 ·rw[pq h];exact dH (by omega)
 ·have:=Wg h;exact dH (by omega)
instance amT {c:Rat} {k:Nat} [h:Bd c k]:Bd (rtQ c) k:=by
 have hd:=c.den_pos
 have h1:0<bL (c.den:Int):=by
  obtain⟨g0,g1,g2⟩:=gh (show(0:Int)≤(c.den:Int) by omega);rcases anC 0 (bL (c.den:Int))with h|h
  ·exact h
  ·rw[show bL (c.den:Int)=0 by omega]at g2;omega
 refine⟨uK (by omega) (ank (EN _) h.le.1) ?_⟩;rw[Int.toNat_of_nonneg (by omega)];exact ank (EN _) h.le.2
instance alx {a b c:Rat} {i j k:Nat} [ha:Bd a i] [hb:Bd b j] [hc:Bd c k]:Bd (mkR a b c) (i+(j+k)+1):=by
 have z:bdR (i+(j+k)+1) 0:=bK lS.le (by omega);refine⟨?_⟩;unfold mkR;cases fE c
 ·simp only[cond_false];cases decide (b=0)
  ·exact⟨bK ha.le (by omega),bK hb.le (by omega),bK hc.le (by omega)⟩
  ·exact⟨bK ha.le (by omega),z,z⟩
 ·exact⟨(inferInstance:Bd (a+b*rtQ c) (i+(j+k)+1)).le,z,z⟩
instance al4 {a b c:Rat} {i j k:Nat} [ha:Bd a i] [hb:Bd b j] [hc:Bd c k]:Bd (coR a b c) (mx i (mx j k)):=by
 have h1:=A7 i (mx j k);have h2:=Cx i (mx j k);have h3:=A7 j k;have h4:=Cx j k;have h5:=nv ha.le;have z:bdR (mx i (mx j k)) 0:=bK lS.le (by omega);refine⟨?_⟩;unfold coR;cases decide (b=0)
 ·exact⟨bK ha.le (by omega),bK hb.le (by omega),bK hc.le (by omega)⟩
 ·exact⟨bK ha.le (by omega),z,z⟩
class Ns (c:Rat):Prop where ns:c=0∨(0<c∧fE c=false)
theorem Ns.nn{c:Rat}(h:Ns c):0≤c:=by rcases h.ns with h|h<;>grind
instance amL {c:Rat} [h:Ns c]:Nn c:=⟨h.nn⟩
theorem adr{a b c:Rat}{i j k:Nat}[ha:Bd a i][hb:Bd b j][hc:Bd c k][hn:Ns c]:Bd (mkR a b c) (mx (i+j+2) k):=by
 have h1:=A7 (i+j+2) k;have h2:=Cx (i+j+2) k;have z:bdR (mx (i+j+2) k) 0:=bK lS.le (by omega);refine⟨?_⟩;unfold mkR;rcases hn.ns with h|h
 ·subst h;rw[sU];have e:rtQ 0=0:=by decide+kernel
  exact⟨by show bdR _ (a+b*rtQ 0);rw[e];exact bK (B9 ha.le (CC hb.le lS.le)) (by omega),z,z⟩
 ·rw[h.2];simp only[cond_false];cases decide (b=0)
  ·exact⟨bK ha.le (by omega),bK hb.le (by omega),bK hc.le (by omega)⟩
  ·exact⟨bK ha.le (by omega),z,z⟩
def sgR(x:Rt):Int:=gJ x.1 x.2.1 x.2.2
def noR(x:Rt):Rat:=x.1*x.1-x.2.1*x.2.1*x.2.2
theorem E7{x:Rt}(h:0≤x.2.2):sgR x=RE.sg (RE.vR x):=RE.sgn2_re h
def kN(a b c:Rat):Rt:=bif decide (b=0)then(a,0,0)else bif decide (c=0)then(a,0,0)else(a,b,c)
instance ala {x:Rt} {k:Nat} [h:Bd x k]:Bd (noR x) (5*k+1):=(inferInstance:Bd (x.1*x.1-x.2.1*x.2.1*x.2.2) (k+k+(k+k+k)+1)).mono (by omega)
theorem RX{c:Rat}(h:fE c=true):rtB c=aj (rtQ c):=by unfold rtB;rw[h];rfl
theorem aeH{x:Rt}(h:Rdd x)(hb:x.2.1≠0):noR x≠0:=by
 intro e;rcases h.rd with h|⟨_,h1,h2⟩
 ·exact hb h.1
 ·unfold noR at e;have:x.2.2=x.1/x.2.1*(x.1/x.2.1):=by grind
  rw[this,TU]at h2;cases h2
theorem Y4{x:Rt}(h:Rdd x):sgR x=bif aD x.2.1 0==0 then aD x.1 0 else bif aD x.1 0==aD x.2.1 0 then aD x.1 0 else bif aD x.1 0==0 then aD x.2.1 0 else aD x.1 0*aD (noR x) 0:=by
 unfold sgR gJ RE.addS;rcases h.rd with⟨h1,h2⟩|⟨h0,h1,h2⟩
 ·rw[h1,d8];simp
 ·have hb:(aD x.2.1 0==0)=false:=by rw[ao,am7 h0]
  rw[dp h1,app,hb];unfold noR;rw[ta];rfl
def Qj:List En:=[⟨99,iy,fi⟩,⟨107,iS,fB⟩,⟨106,iE,ff⟩,⟨108,gV,eU⟩,⟨41,fM,dW⟩,enL WO]
def Xj(_k:KT):OLR:=og (decide (aH (0:Int))) (some [RV.d tR (hid (aj ((0:Int):Rat)))])
def ahy:Cn 298 []:=cn<|lf True [.d tR (aj 0)] fun _=>by
 refine aA Qj (Xj) ⟨0,?_⟩;unfold Xj;rw[dT (show aH 0 by decide)];simp only[bJ];rfl
def Ry:List En:=enL ahy::Qj
def YL(a:BR)(_k:KT):OLR:=some [RV.d tO (a,(hid (aj 0),hid (aj 0)))]
def Ag:Cn 208 [tR]:=cn fun(a:BR)=>lf (okR a) [.d tO (enc ((ae a,0,0):Rt))] fun h=>by
 refine aA Ry (YL a) ⟨0,?_⟩;have ha:=h;obtain⟨a,rfl,ba⟩:=fe ha;unfold YL;simp only[aO,aC];try rfl
def W9(a b c:BR)(_k:KT):OLR:=og (o1 b) (match(aD (ae b) 0)==0 with|true=>some [RV.d tO (a,(b,hid (aj 0)))]|false=>some [RV.d tO (a,(b,c))])
def afb:Cn 297 [tR,tR,tR]:=cn fun(a b c:BR)=>lf (okR a∧okR b∧okR c) [.d tO (enc (coR (ae a) (ae b) (ae c)))] fun h=>by
 refine aA Ry (W9 a b c) ⟨0,?_⟩;obtain⟨ha,hb,hc⟩:=h;obtain⟨a,rfl,ba⟩:=fe ha;obtain⟨b,rfl,bb⟩:=fe hb;obtain⟨c,rfl,bc⟩:=fe hc;unfold W9;simp only[aO,Nat.reduceLeDiff,ao];unfold coR;by_cases e:b=0
 ·subst e;rw[am5 rfl];rfl
 ·rw[am7 e];rfl
def ae6:List En:=enL Ag::enL afb::Ry
def XS(a b c:BR)(_k:KT):OLR:=og (o1 c) (match decide ((aD (ae c) 0)<0)with|true=>some [RV.d tO (((false,[]),(false,[])),(((false,[]),(false,[])),((false,[]),(false,[])))),RV.d aqt 7]|false=>(og (o1 c) (match fE (ae c)with|true=>(og (o2 b (hid (rtB (ae c)))) (og (o2 a (hMu b (hid (rtB (ae c))))) (og (o1 (hAd a (hMu b (hid (rtB (ae c)))))) (some [RV.d tO (hid (enc ((ae (hAd a (hMu b (hid (rtB (ae c))))),0,0):Rt))),RV.d aqt 0]))))|false=>(og (decide (okR a∧okR b∧okR c)) (some [RV.d tO (hid (enc (coR (ae a) (ae b) (ae c)))),RV.d aqt 0])))))
def ZD:Cn 207 [tR,tR,tR]:=cn fun(a b c:BR)=>lf (ok Rat 100000 a∧ok Rat 100000 b∧ok Rat 100000 c∧0≤ae c) [.d tO (enc (mkR (ae a) (ae b) (ae c))),.d aqt 0] fun h=>by
 refine aA ae6 (XS a b c) ⟨0,?_⟩;obtain⟨ha,hb,hc,hc_3⟩:=h;obtain⟨a,rfl,ba⟩:=aB ha;obtain⟨b,rfl,bb⟩:=aB hb;obtain⟨c,rfl,bc⟩:=aB hc;rw[dQ,co]at hc_3;unfold XS;simp only[aO,aC,Nat.reduceLeDiff,aq,am7 (show ¬c<0 by grind)];unfold mkR;cases hq:fE c
 ·have hz:c≠0:=fun e=>by rw[e,sU]at hq;cases hq
  simp only[aO];try rfl
 ·rw[RX hq];simp only[aO,aC,Nat.reduceAdd,Nat.reduceLeDiff];try rfl
def RI:List En:=[enL lj,enL lY,enL n8,enL mh,enT iY,enL O7,enT adu]
def S2(_k:KT):OLR:=og (decide (aH (0:Int))) (some [RV.d tR (hid (aj ((0:Int):Rat)))])
def RR:Cn 262 []:=cn<|lf True [.d tR (aj 0)] fun _=>by
 refine aA RI (S2) ⟨0,?_⟩;unfold S2;rw[dT (show aH 0 by decide)];simp only[bJ];rfl
def Oe:List En:=enL RR::RI
def O9(a:BR)(_k:KT):OLR:=some [RV.d tO (a,(hid (aj 0),hid (aj 0)))]
def Ff:Cn 159 [tR]:=cn fun(a:BR)=>lf (okR a) [.d tO (enc ((ae a,0,0):Rt))] fun h=>by
 refine aA Oe (O9 a) ⟨0,?_⟩;have ha:=h;obtain⟨a,rfl,ba⟩:=fe ha;unfold O9;simp only[aO,aC];try rfl
def SJ:List En:=enL Ff::Oe
def Mj(a b c:BR)(_k:KT):OLR:=og (o1 b) (match(aD (ae b) 0)==0 with|true=>(og (o1 a) (some [RV.d tO (hid (enc ((ae a,0,0):Rt)))]))|false=>(og (o1 c) (match(aD (ae c) 0)==0 with|true=>(og (o1 a) (some [RV.d tO (hid (enc ((ae a,0,0):Rt)))]))|false=>some [RV.d tO (a,(b,c))])))
def LQ:Cn 243 [tR,tR,tR]:=cn fun(a b c:BR)=>lf (okR a∧okR b∧okR c) [.d tO (enc (kN (ae a) (ae b) (ae c)))] fun h=>by
 refine aA SJ (Mj a b c) ⟨0,?_⟩;obtain⟨ha,hb,hc⟩:=h;obtain⟨a,rfl,ba⟩:=fe ha;obtain⟨b,rfl,bb⟩:=fe hb;obtain⟨c,rfl,bc⟩:=fe hc;unfold Mj;simp only[aO,aC,Nat.reduceLeDiff,ao];unfold kN;by_cases e:b=0
 ·rw[am5 e];rfl
 ·rw[am7 e];by_cases e:c=0
  ·rw[am5 e];rfl
  ·rw[am7 e];rfl
def abv:List En:=enL LQ::SJ
def Oj(a b c:BR)(_k:KT):OLR:=og (o1 c) (match decide ((aD (ae c) 0)<0)with|true=>some [RV.d tO (((false,[]),(false,[])),(((false,[]),(false,[])),((false,[]),(false,[])))),RV.d aqt 7]|false=>(og (o1 c) (match fE (ae c)with|true=>(og (o2 b (hid (rtB (ae c)))) (og (o2 a (hMu b (hid (rtB (ae c))))) (og (o1 (hAd a (hMu b (hid (rtB (ae c)))))) (some [RV.d tO (hid (enc ((ae (hAd a (hMu b (hid (rtB (ae c))))),0,0):Rt))),RV.d aqt 0]))))|false=>(og (decide (okR a∧okR b∧okR c)) (some [RV.d tO (hid (enc (kN (ae a) (ae b) (ae c)))),RV.d aqt 0])))))
def Fl:Cn 130 [tR,tR,tR]:=cn fun(a b c:BR)=>lf (ok Rat 100000 a∧ok Rat 100000 b∧ok Rat 100000 c∧0≤ae c) [.d tO (enc (mkR (ae a) (ae b) (ae c))),.d aqt 0] fun h=>by
 refine aA abv (Oj a b c) ⟨0,?_⟩;obtain⟨ha,hb,hc,hc_3⟩:=h;obtain⟨a,rfl,ba⟩:=aB ha;obtain⟨b,rfl,bb⟩:=aB hb;obtain⟨c,rfl,bc⟩:=aB hc;rw[dQ,co]at hc_3;unfold Oj;simp only[aO,aC,Nat.reduceLeDiff,aq,am7 (show ¬c<0 by grind)];unfold mkR;cases hq:fE c
 ·have hz:c≠0:=fun e=>by rw[e,sU]at hq;cases hq
  simp only[aO,kN,am7 hz];try rfl
 ·rw[RX hq];simp only[aO,aC,Nat.reduceAdd,Nat.reduceLeDiff];try rfl
def YC(r:BO3)(_k:KT):OLR:=og (o2 r.1 r.1) (og (o2 r.2.1 r.2.1) (og (o2 (hMu r.2.1 r.2.1) r.2.2) (og (o2 (hMu r.1 r.1) (hMu (hMu r.2.1 r.2.1) r.2.2)) (some [RV.d tR (hSu (hMu r.1 r.1) (hMu (hMu r.2.1 r.2.1) r.2.2))]))))
def afx:Cn 212 [tO]:=cn fun(r:BO3)=>lf (ok Rt 15000 r) [.d tR (aj (noR (dec r)))] fun h=>by
 refine aA Qj (YC r) ⟨0,?_⟩;have hr:=h;obtain⟨r,rfl,br⟩:=aB hr;unfold YC;simp only[aO,Nat.reduceAdd,Nat.reduceLeDiff];try rfl
abbrev Iv:=Int×Int
def prI(i:Iv):Prop:= -2305843009213693952≤i.1∧i.1≤i.2∧i.2≤2305843009213693952
instance (i:Iv):Decidable (prI i):=by unfold prI;infer_instance
def iv0:Iv:=(0,0)
theorem fO:prI iv0:=by decide
def oJ(lo hi:Int):Iv×Bool:=bif decide (lo< -2305843009213693952)then(iv0,false)else bif decide (hi>2305843009213693952)then(iv0,false)else((lo,hi),true)
theorem AN{lo hi:Int}(h:lo≤hi):prI (oJ lo hi).1:=by
 unfold oJ;by_cases h1:lo< -2305843009213693952
 ·rw[am5 h1];exact fO
 ·rw[am7 h1];by_cases h2:hi>2305843009213693952
  ·rw[am5 h2];exact fO
  ·rw[am7 h2];exact⟨by show _≤lo;omega,h,by show hi≤_;omega⟩
theorem Cu{lo hi:Int}(h:(oJ lo hi).2=true):(oJ lo hi).1=(lo,hi):=by
 unfold oJ at h ⊢;by_cases h1:lo< -2305843009213693952
 ·rw[am5 h1]at h;cases h
 ·rw[am7 h1]at h ⊢;by_cases h2:hi>2305843009213693952
  ·rw[am5 h2]at h;cases h
  ·rw[am7 h2];rfl
def frF(q:Rat):Iv×Bool:=bif decide (aH (q*65536).floor)then bif decide (aH (-(-(q*65536)).floor))then oJ (q*65536).floor (-(-(q*65536)).floor)else(iv0,false)else(iv0,false)
def dO(a b:Iv):Iv×Bool:=oJ (a.1+b.1) (a.2+b.2)
def nf(a:Iv):Iv:=(-a.2,-a.1)
def scF(x y:Int):(Int×Int)×Bool:=
 bif decide (x.natAbs*y.natAbs≥1208925819614629174706176)then((0,0),false)else bif decide (x.natAbs*y.natAbs/65536>2305843009213693952)then((0,0),false)
 else bif decide (x<0)==decide (y<0)then((((x.natAbs*y.natAbs/65536:Nat):Int),(((x.natAbs*y.natAbs+65535)/65536:Nat):Int)),decide ((x.natAbs*y.natAbs+65535)/65536≤2305843009213693952))
 else((-(((x.natAbs*y.natAbs+65535)/65536:Nat):Int),-((x.natAbs*y.natAbs/65536:Nat):Int)),decide ((x.natAbs*y.natAbs+65535)/65536≤2305843009213693952))
theorem ade{x y:Int}(h:(scF x y).2=true):(scF x y).1.1*65536≤x*y∧x*y≤(scF x y).1.2*65536∧ -2305843009213693952≤(scF x y).1.1∧(scF x y).1.2≤2305843009213693952:=by
 have ep:(((x.natAbs*y.natAbs:Nat)):Int)=(x.natAbs:Int)*(y.natAbs:Int):=aoA _ _
 have hs:(decide (x<0)==decide (y<0))=true→x*y=(((x.natAbs*y.natAbs:Nat)):Int):=fun e=>by
  rw[ep];by_cases hx:x<0<;>by_cases hy:y<0
  ·rw[show(x.natAbs:Int)= -x by omega,show(y.natAbs:Int)= -y by omega];grind
  ·simp[hx,hy]at e
  ·simp[hx,hy]at e
  ·rw[show(x.natAbs:Int)=x by omega,show(y.natAbs:Int)=y by omega]
 have hd:(decide (x<0)==decide (y<0))=false→x*y= -(((x.natAbs*y.natAbs:Nat)):Int):=fun e=>by
  rw[ep];by_cases hx:x<0<;>by_cases hy:y<0
  ·simp[hx,hy]at e
  ·rw[show(x.natAbs:Int)= -x by omega,show(y.natAbs:Int)=y by omega];grind
  ·rw[show(x.natAbs:Int)=x by omega,show(y.natAbs:Int)= -y by omega];grind
  ·simp[hx,hy]at e
 unfold scF at h ⊢;generalize x.natAbs*y.natAbs=p at*
 by_cases h1:p≥1208925819614629174706176
 ·rw[am5 h1]at h;cases h
 rw[am7 h1]at h ⊢;by_cases h2:p/65536>2305843009213693952
 ·rw[am5 h2]at h;cases h
 rw[am7 h2]at h ⊢;cases e:(decide (x<0)==decide (y<0))<;>rw[e]at h<;>have h3:=am8 h
 ·rw[hd e];show-(((p+65535)/65536:Nat):Int)*65536≤_∧_≤ -((p/65536:Nat):Int)*65536∧_≤ -(((p+65535)/65536:Nat):Int)∧ -((p/65536:Nat):Int)≤_;omega
 ·rw[hs e];show((p/65536:Nat):Int)*65536≤_∧_≤(((p+65535)/65536:Nat):Int)*65536∧_≤((p/65536:Nat):Int)∧(((p+65535)/65536:Nat):Int)≤_;omega
def iG(s:Iv×Bool)(x y:Int):Iv×Bool:=bif s.2&&(scF x y).2 then((if(scF x y).1.1<s.1.1 then(scF x y).1.1 else s.1.1,if(scF x y).1.2>s.1.2 then(scF x y).1.2 else s.1.2),true)else(iv0,false)
def cM(a b:Iv):Iv×Bool:=iG (iG (iG (iG ((2305843009213693952,-2305843009213693952),true) a.1 b.1) a.1 b.2) a.2 b.1) a.2 b.2
theorem lM{s:Iv×Bool}{x y:Int}(h:(iG s x y).2=true):s.2=true∧(iG s x y).1.1≤s.1.1∧s.1.2≤(iG s x y).1.2∧(iG s x y).1.1*65536≤x*y∧x*y≤(iG s x y).1.2*65536∧((-2305843009213693952≤s.1.1∧s.1.2≤2305843009213693952)→ -2305843009213693952≤(iG s x y).1.1∧(iG s x y).1.2≤2305843009213693952):=by
 unfold iG at h ⊢;cases e:(s.2&&(scF x y).2)<;>rw[e]at h
 ·cases h
 ·obtain⟨e1,e2⟩:=anh.1 e;obtain⟨g1,g2,g3,g4⟩:=ade e2;refine⟨e1,?_⟩;simp only[cond_true];split<;>split<;>refine⟨by omega,by omega,by omega,by omega,fun h=>by omega⟩
theorem uk(a b:Iv):prI (cM a b).1:=by
 cases h:(cM a b).2
 ·unfold cM iG at h ⊢;revert h;cases((_:Iv×Bool).2&&(scF a.2 b.2).2)
  ·intro _;exact fO
  ·intro h;cases h
 ·unfold cM at h ⊢;obtain⟨h3,a3,b3,c3,d3,e3⟩:=lM h;obtain⟨h2,a2,b2,c2,d2,e2⟩:=lM h3;obtain⟨h1,a1,b1,c1,d1,e1⟩:=lM h2;obtain⟨h0,a0,b0,c0,d0,e0⟩:=lM h1;have k:=e3 (e2 (e1 (e0 (by decide))));exact⟨k.1,by omega,k.2⟩
theorem V4{a b:Iv}(h:(cM a b).2=true):∀x y,(x=a.1∨x=a.2)→(y=b.1∨y=b.2)→(cM a b).1.1*65536≤x*y∧x*y≤(cM a b).1.2*65536:=by
 unfold cM at h ⊢;obtain⟨h3,a3,b3,c3,d3,e3⟩:=lM h;obtain⟨h2,a2,b2,c2,d2,e2⟩:=lM h3;obtain⟨h1,a1,b1,c1,d1,e1⟩:=lM h2;obtain⟨h0,a0,b0,c0,d0,e0⟩:=lM h1;intro x y hx hy;rcases hx with rfl|rfl<;>rcases hy with rfl|rfl<;>constructor<;>omega
def eL(n:Int):Int:=bL (n*65536)
def sqF(a:Iv):Iv×Bool:=bif decide (a.2<0)then(iv0,false)else oJ (eL (if 0>a.1 then 0 else a.1)) (bif decide (eL a.2*eL a.2=a.2*65536)then eL a.2 else eL a.2+1)
def sgF(a:Iv):Int×Bool:=bif decide (a.1>0)then(1,true)else bif decide (a.2<0)then(-1,true)else(0,decide (a.1=0)&&decide (a.2=0))
namespace RE
def inI(i:Iv)(x:RE):Prop:=of (i.1:Rat)≤of 65536*x∧of 65536*x≤of (i.2:Rat)
theorem Tv(a b u x y:RE)(h1:a≤u*x)(h2:b≤u*y):a+b≤u*(x+y):=by grind
theorem Vf(a b u x y:RE)(h1:u*x≤a)(h2:u*y≤b):u*(x+y)≤a+b:=by grind
theorem Wo(a u x:RE)(h1:u*x≤a): -a≤u*(-x):=by grind
theorem Tz(a u x:RE)(h1:a≤u*x):u*(-x)≤ -a:=by grind
theorem TN(a c U V m:RE):((m-(U*V)))+((a*c-(m)))+((V-(0))*(U-(a)))+((a-(0))*(V-(c)))=0:=by grind
theorem ajI(a c U V m:RE)(h1:0≤V)(h2:0≤a)(h3:a≤U)(h4:c≤V)(h5:m≤a*c):m≤U*V:=fun hg=>far (aK (aK (aK (aL hg) (aF h5)) (bg (aF h1) (aF h3))) (bg (aF h2) (aF h4))) (TN a c U V m)
theorem VC(a d U V m:RE):((m-(U*V)))+((a*d-(m)))+((V-(0))*(U-(a)))+((0-(a))*(d-(V)))=0:=by grind
theorem af9(a d U V m:RE)(h1:0≤V)(h2:a≤0)(h3:a≤U)(h4:V≤d)(h5:m≤a*d):m≤U*V:=fun hg=>far (aK (aK (aK (aL hg) (aF h5)) (bg (aF h1) (aF h3))) (bg (aF h2) (aF h4))) (VC a d U V m)
theorem U4(b c U V m:RE):((m-(U*V)))+((b*c-(m)))+((0-(V))*(b-(U)))+((b-(0))*(V-(c)))=0:=by grind
theorem afA(b c U V m:RE)(h1:V≤0)(h2:0≤b)(h3:U≤b)(h4:c≤V)(h5:m≤b*c):m≤U*V:=fun hg=>far (aK (aK (aK (aL hg) (aF h5)) (bg (aF h1) (aF h3))) (bg (aF h2) (aF h4))) (U4 b c U V m)
theorem UB(b d U V m:RE):((m-(U*V)))+((b*d-(m)))+((0-(V))*(b-(U)))+((0-(b))*(d-(V)))=0:=by grind
theorem aks(b d U V m:RE)(h1:V≤0)(h2:b≤0)(h3:U≤b)(h4:V≤d)(h5:m≤b*d):m≤U*V:=fun hg=>far (aK (aK (aK (aL hg) (aF h5)) (bg (aF h1) (aF h3))) (bg (aF h2) (aF h4))) (UB b d U V m)
theorem VO(b d U V m:RE):((U*V-(m)))+((m-(b*d)))+((V-(0))*(b-(U)))+((b-(0))*(d-(V)))=0:=by grind
theorem ahn(b d U V m:RE)(h1:0≤V)(h2:0≤b)(h3:U≤b)(h4:V≤d)(h5:b*d≤m):U*V≤m:=fun hg=>far (aK (aK (aK (aL hg) (aF h5)) (bg (aF h1) (aF h3))) (bg (aF h2) (aF h4))) (VO b d U V m)
theorem Vp(b c U V m:RE):((U*V-(m)))+((m-(b*c)))+((V-(0))*(b-(U)))+((0-(b))*(V-(c)))=0:=by grind
theorem ags(b c U V m:RE)(h1:0≤V)(h2:b≤0)(h3:U≤b)(h4:c≤V)(h5:b*c≤m):U*V≤m:=fun hg=>far (aK (aK (aK (aL hg) (aF h5)) (bg (aF h1) (aF h3))) (bg (aF h2) (aF h4))) (Vp b c U V m)
theorem Ur(a d U V m:RE):((U*V-(m)))+((m-(a*d)))+((0-(V))*(U-(a)))+((a-(0))*(d-(V)))=0:=by grind
theorem aiq(a d U V m:RE)(h1:V≤0)(h2:0≤a)(h3:a≤U)(h4:V≤d)(h5:a*d≤m):U*V≤m:=fun hg=>far (aK (aK (aK (aL hg) (aF h5)) (bg (aF h1) (aF h3))) (bg (aF h2) (aF h4))) (Ur a d U V m)
theorem U5(a c U V m:RE):((U*V-(m)))+((m-(a*c)))+((0-(V))*(U-(a)))+((0-(a))*(V-(c)))=0:=by grind
theorem ai6(a c U V m:RE)(h1:V≤0)(h2:a≤0)(h3:a≤U)(h4:c≤V)(h5:a*c≤m):U*V≤m:=fun hg=>far (aK (aK (aK (aL hg) (aF h5)) (bg (aF h1) (aF h3))) (bg (aF h2) (aF h4))) (U5 a c U V m)
theorem acu(u x y:RE):u*x*(u*y)=u*(x*y)*u:=by grind
theorem Wa(a b u:RE):((u-(0))*(a-(b)))+((b*u-(a*u)))=0:=by grind
theorem WK(a b u:RE)(h1:0<u)(h2:a*u≤b*u):a≤b:=fun hg=>far (aK (mul_pos (aL h1) (aL hg)) (aF h2)) (Wa a b u)
theorem ov:0<of 65536:=ib (by decide+kernel)
end RE
namespace RE
theorem mA{a b:Int}(h:a≤b):of (a:Rat)≤of (b:Rat):=fx.2 (apv.2 h)
theorem iB{q:Rat}(h:(frF q).2=true):inI (frF q).1 (of q):=by
 have f1:((q*65536).floor:Rat)≤q*65536:=Rat.floor_le _;have f2:((-(q*65536)).floor:Rat)≤ -(q*65536):=Rat.floor_le _;unfold frF at h ⊢;cases e1:decide (aH (q*65536).floor)
 ·rw[e1]at h;cases h
 ·cases e2:decide (aH (-(-(q*65536)).floor))
  ·rw[e1,e2]at h;cases h
  ·rw[e1,e2]at h;simp only[cond_true]at h ⊢;rw[Cu h];refine⟨?_,?_⟩
   ·rw[←aG];exact fx.2 (by show(((q*65536).floor:Int):Rat)≤_;grind)
   ·rw[←aG];exact fx.2 (by show _≤((-(-(q*65536)).floor:Int):Rat);rw[apM];grind)
theorem frF_pr(q:Rat):prI (frF q).1:=by
 have f1:((q*65536).floor:Rat)≤q*65536:=Rat.floor_le _;have f2:((-(q*65536)).floor:Rat)≤ -(q*65536):=Rat.floor_le _
 have f3:(q*65536).floor≤ -(-(q*65536)).floor:=by
  refine apv.1 ?_;rw[apM];grind
 unfold frF;cases decide (aH (q*65536).floor)
 ·exact fO
 ·cases decide (aH (-(-(q*65536)).floor))
  ·exact fO
  ·exact AN f3
theorem j9{a b:Iv}{x y:RE}(ha:inI a x)(hb:inI b y)(h:(dO a b).2=true):inI (dO a b).1 (x+y):=by
 unfold dO at h ⊢;rw[Cu h];refine⟨?_,?_⟩
 ·show of ((a.1+b.1:Int):Rat)≤_;rw[Rat.intCast_add,of_add];exact Tv _ _ _ _ _ ha.1 hb.1
 ·show _≤of ((a.2+b.2:Int):Rat);rw[Rat.intCast_add,of_add];exact Vf _ _ _ _ _ ha.2 hb.2
theorem addF_pr{a b:Iv}(ha:prI a)(hb:prI b):prI (dO a b).1:=AN (by have:=ha.2.1;have:=hb.2.1;omega)
theorem Cq{a:Iv}{x:RE}(ha:inI a x):inI (nf a) (-x):=by
 refine⟨?_,?_⟩
 ·show of ((-a.2:Int):Rat)≤_;rw[apM,of_neg];exact Wo _ _ _ ha.2
 ·show _≤of ((-a.1:Int):Rat);rw[apM,of_neg];exact Tz _ _ _ ha.1
theorem negF_pr{a:Iv}(ha:prI a):prI (nf a):=⟨by show _≤ -a.2;have:=ha.2.2;omega,by show-a.2≤ -a.1;have:=ha.2.1;omega,by show-a.1≤_;have:=ha.1;omega⟩
theorem lU{a b:Iv}{x y:RE}(ha:inI a x)(hb:inI b y)(h:(cM a b).2=true):inI (cM a b).1 (x*y):=by
 have hc:=V4 h;have c1:=hc a.1 b.1 (.inl rfl) (.inl rfl);have c2:=hc a.1 b.2 (.inl rfl) (.inr rfl);have c3:=hc a.2 b.1 (.inr rfl) (.inl rfl);have c4:=hc a.2 b.2 (.inr rfl) (.inr rfl);generalize (cM a b).1=m at*
 have up:∀{p q r:Int},p*65536≤q*r→of (p:Rat)*of 65536≤of (q:Rat)*of (r:Rat):=fun{p q r} h=>by
  have:=mA h;rw[ao5,ao5,aG,aG]at this;exact this
 have dn:∀{p q r:Int},q*r≤p*65536→of (q:Rat)*of (r:Rat)≤of (p:Rat)*of 65536:=fun{p q r} h=>by
  have:=mA h;rw[ao5,ao5,aG,aG]at this;exact this
 obtain⟨a1,a2⟩:=ha;obtain⟨b1,b2⟩:=hb
 have l:of (m.1:Rat)*of 65536≤of 65536*x*(of 65536*y):=by
  rcases lt_or_ge (of 65536*y) 0 with v|v
  ·rcases lt_or_ge (of (a.2:Rat)) 0 with s|s
   ·exact aks _ _ _ _ _ (le_of_lt v) (le_of_lt s) a2 b2 (up c4.1)
   ·exact afA _ _ _ _ _ (le_of_lt v) s a2 b1 (up c3.1)
  ·rcases lt_or_ge (of (a.1:Rat)) 0 with s|s
   ·exact af9 _ _ _ _ _ v (le_of_lt s) a1 b2 (up c2.1)
   ·exact ajI _ _ _ _ _ v s a1 b1 (up c1.1)
 have u:of 65536*x*(of 65536*y)≤of (m.2:Rat)*of 65536:=by
  rcases lt_or_ge (of 65536*y) 0 with v|v
  ·rcases lt_or_ge (of (a.1:Rat)) 0 with s|s
   ·exact ai6 _ _ _ _ _ (le_of_lt v) (le_of_lt s) a1 b1 (dn c1.2)
   ·exact aiq _ _ _ _ _ (le_of_lt v) s a1 b2 (dn c2.2)
  ·rcases lt_or_ge (of (a.2:Rat)) 0 with s|s
   ·exact ags _ _ _ _ _ v (le_of_lt s) a2 b1 (dn c3.2)
   ·exact ahn _ _ _ _ _ v s a2 b2 (dn c4.2)
 rw[acu]at l u;exact⟨WK _ _ _ ov l,WK _ _ _ ov u⟩
theorem ag5(u s:RE):u*s*(u*s)=u*(s*s)*u:=by grind
theorem NL(r a u x:RE):((r-(u*x*u)))+((a*u-(r)))+((u*x-(a))*(u-(0)))=0:=by grind
theorem aej(r a u x:RE)(h1:r≤a*u)(h2:a≤u*x)(h3:0<u):r≤u*x*u:=fun hg=>far (aK (aK (aL hg) (aF h1)) (bg (aF h2) (le_of_lt (aL h3)))) (NL r a u x)
theorem N8(r a u x:RE):((u*x*u-(r)))+((r-(a*u)))+((a-(u*x))*(u-(0)))=0:=by grind
theorem NK(r a u x:RE)(h1:a*u≤r)(h2:u*x≤a)(h3:0<u):u*x*u≤r:=fun hg=>far (aK (aK (aL hg) (aF h1)) (bg (aF h2) (le_of_lt (aL h3)))) (N8 r a u x)
theorem sqF_pr{a:Iv}(ha:prI a):prI (sqF a).1:=by
 unfold sqF;by_cases h:a.2<0
 ·rw[am5 h];exact fO
 ·rw[am7 h];simp only[cond_false];refine AN ?_;have h1:(if 0>a.1 then 0 else a.1)≤a.2:=by have:=ha.2.1;split<;>omega
  have h0:0≤(if 0>a.1 then 0 else a.1):=by split<;>omega
  have hm:eL (if 0>a.1 then 0 else a.1)≤eL a.2:=by
   unfold eL;obtain⟨_,g1,_⟩:=gh (z:=(if 0>a.1 then 0 else a.1)*65536) (by omega);obtain⟨g0,_,g2⟩:=gh (z:=a.2*65536) (by omega);have:=Go.Proofs.YtnkndpoojnflmaaGreat.sq_lt (a:=bL ((if 0>a.1 then 0 else a.1)*65536)) (b:=bL (a.2*65536)+1) (by omega) (by omega);omega
  cases decide (eL a.2*eL a.2=a.2*65536)
  ·show _≤eL a.2+1;omega
  ·exact hm
theorem xg{a:Iv}{x:RE}(ha:inI a x)(hx:0≤x)(h:(sqF a).2=true):inI (sqF a).1 (vY x):=by
 obtain⟨a1,a2⟩:=ha;have hs:=sI hx;have s0:0≤of 65536*vY x:=bg (le_of_lt ov) (jD x);have e:of 65536*vY x*(of 65536*vY x)=of 65536*x*of 65536:=by rw[ag5,hs]
 unfold sqF at h ⊢;cases hn:decide (a.2<0)
 ·rw[hn]at h;simp only[cond_false]at h ⊢;have h2:=anZ hn;rw[Cu h];obtain⟨p0,p1,p2⟩:=gh (z:=(if 0>a.1 then 0 else a.1)*65536) (by split<;>omega);obtain⟨q0,q1,q2⟩:=gh (z:=a.2*65536) (by omega)
  have cm:∀{p q:Int},p*p≤q*65536→of (p:Rat)*of (p:Rat)≤of (q:Rat)*of 65536:=fun{p q} h=>by
   have:=mA h;rw[ao5,ao5,aG,aG]at this;exact this
  have cn:∀{p q:Int},q*65536≤p*p→of (q:Rat)*of 65536≤of (p:Rat)*of (p:Rat):=fun{p q} h=>by
   have:=mA h;rw[ao5,ao5,aG,aG]at this;exact this
  have nn:∀{p:Int},0≤p→0≤of (p:Rat):=fun h=>mA h;refine⟨?_,?_⟩
  ·show of ((eL _:Int):Rat)≤_;refine sO _ _ (nn p0) s0 ?_;rw[e];refine aej _ (of (((if 0>a.1 then 0 else a.1:Int)):Rat)) _ _ (cm p1) ?_ ov;split
   ·exact bg (le_of_lt ov) hx
   ·exact a1
  ·show _≤of (((bif _ then _ else _):Int):Rat);cases he:decide (eL a.2*eL a.2=a.2*65536)
   ·simp only[cond_false];refine sO _ _ s0 (nn (by unfold eL;omega)) ?_;rw[e];exact NK _ _ _ _ (cn (by unfold eL;omega)) a2 ov
   ·simp only[cond_true];refine sO _ _ s0 (nn q0) ?_;rw[e];exact NK _ _ _ _ (cn (by rw[am8 he];exact Int.le_refl _)) a2 ov
 ·rw[hn]at h;cases h
theorem Hg{i:Iv}{x:RE}(hi:inI i x)(h:(sgF i).2=true):(sgF i).1=sg x:=by
 obtain⟨h1,h2⟩:=hi;unfold sgF at h ⊢;cases e1:decide (i.1>0)
 ·rw[e1]at h;cases e2:decide (i.2<0)
  ·rw[e2]at h;simp only[cond_false,am9,ao3]at h ⊢;rw[h.1]at h1;rw[h.2]at h2;have:of 65536*x=0:=le_antisymm h2 h1;have:sg (of 65536*x)=0:=by rw[this,dg]
   rw[dA,dB ov]at this;omega
  ·have e:=am8 e2;have h3:of (i.2:Rat)<0:=ib (apw.2 e);simp only[cond_false,cond_true]
   have:sg (of 65536*x)= -1:=gE (by
    rcases lt_or_ge (of 65536*x) 0 with h|h
    ·exact h
    ·exact absurd (le_trans h h2) (rX.2 h3))
   rw[dA,dB ov]at this;omega
 ·have e:=am8 e1;have h3:0<of (i.1:Rat):=ib (apw.2 e);simp only[cond_true]
  have:sg (of 65536*x)=1:=dB (by
   rcases lt_or_ge 0 (of 65536*x)with h|h
   ·exact h
   ·exact absurd (le_trans h1 h) (rX.2 h3))
  rw[dA,dB ov]at this;omega
end RE
abbrev Qd:=Rat×Rat×Rat×Rat×Rat×Rat
def sgQ(q:Qd):Int:=BX q.1 q.2.1 q.2.2.1 q.2.2.2.1 q.2.2.2.2.1 q.2.2.2.2.2
def suT(x y:Rt):Qd:=(x.1-y.1,x.2.1,-y.2.1,0,x.2.2,y.2.2)
def fC(x:Rt)(q:Rat):Int:=gJ (x.1-q) x.2.1 x.2.2
def okQ(q:BQ):Prop:=ok Rat 30001 q.1∧ok Rat 15000 q.2.1∧ok Rat 15000 q.2.2.1∧ok Rat 6000 q.2.2.2.1∧ok Rat 15000 q.2.2.2.2.1∧ok Rat 15000 q.2.2.2.2.2∧0≤ae q.2.2.2.2.1∧0≤ae q.2.2.2.2.2
instance (q:BQ):Decidable (okQ q):=by unfold okQ;infer_instance
theorem Hv{q:BQ}(h:okQ q):∃A B C D M N:Rat,q=enc ((A,B,C,D,M,N):Qd)∧Bd A 30001∧Bd B 15000∧Bd C 15000∧Bd D 6000∧Bd M 15000∧Bd N 15000∧0≤M∧0≤N:=by
 obtain⟨A,B,C,D,M,N⟩:=q;obtain⟨h1,h2,h3,h4,h5,h6,h7,h8⟩:=h;obtain⟨a,ha,b1⟩:=aB h1;obtain⟨b,hb,b2⟩:=aB h2;obtain⟨c,hc,b3⟩:=aB h3;obtain⟨d,hd,b4⟩:=aB h4;obtain⟨m,hm,b5⟩:=aB h5;obtain⟨n,hn,b6⟩:=aB h6;dsimp only at ha hb hc hd hm hn h7 h8;subst ha hb hc hd hm hn;rw[dQ,co]at h7 h8;exact⟨a,b,c,d,m,n,rfl,b1,b2,b3,b4,b5,b6,h7,h8⟩
theorem rn{A B C D M N:Rat}{a b c d m n:Nat}[h1:Bd A a][h2:Bd B b][h3:Bd C c][h4:Bd D d][h5:Bd M m][h6:Bd N n][h7:Nn M][h8:Nn N](ha:a≤30001)(hb:b≤15000)(hc:c≤15000)(hd:d≤6000)(hm:m≤15000)(hn:n≤15000):decide (okQ (enc ((A,B,C,D,M,N):Qd)))=true:=
 am5 ⟨am8 (lX ha (by decide)),am8 (lX hb (by decide)),am8 (lX hc (by decide)),am8 (lX hd (by decide)),am8 (lX hm (by decide)),am8 (lX hn (by decide)),by show 0≤ae (aj M);rw[co];exact h7.le,by show 0≤ae (aj N);rw[co];exact h8.le⟩
theorem Bp{s t:Int}(hs: -1≤s∧s≤1)(ht: -1≤t∧t≤1):i64.wrap (s*t)=s*t:=by
 have:=BJ hs ht;exact aT (by omega) (by omega)
theorem tZ{a b m x y:Rat}:i64.wrap (gJ a b m*aD x y)=gJ a b m*aD x y:=Bp (lN _ _ _) (je _ _)
theorem sG{a b m x y z:Rat}:i64.wrap (gJ a b m*gJ x y z)=gJ a b m*gJ x y z:=Bp (lN _ _ _) (lN _ _ _)
theorem Dn(s t u:Int):(match s==0 with|true=>(match s==0 with|true=>some [RV.d aqt t]|false=>some [RV.d aqt s])|false=>(match t==0 with|true=>(match s==0 with|true=>some [RV.d aqt t]|false=>some [RV.d aqt s])|false=>(match s==t with|true=>(match s==0 with|true=>some [RV.d aqt t]|false=>some [RV.d aqt s])|false=>some [RV.d aqt (s*u)])))=some [RV.d aqt (RE.addS s t u)]:=by
 unfold RE.addS;cases h1:s==0
 ·cases h2:t==0
  ·cases h3:s==t<;>rfl
  ·rfl
 ·have e:=an3.1 h1;subst e;cases h2:t==0
  ·cases h3:(0:Int)==t
   ·rfl
   ·rw[←an3.1 h3];rfl
  ·rw[an3.1 h2];rfl
theorem Bx(s t u:Int):(match t==0 with|true=>some [RV.d aqt s]|false=>(match s==t with|true=>some [RV.d aqt s]|false=>(match s==0 with|true=>some [RV.d aqt t]|false=>some [RV.d aqt (s*u)])))=some [RV.d aqt (RE.addS s t u)]:=by
 unfold RE.addS;cases h2:t==0
 ·cases h3:s==t
  ·cases h1:s==0<;>rfl
  ·rfl
 ·rfl
def G6:List En:=[enL lj,enL lY,enL n8,enL mh,enT iY,enT qf,enL pI]
def RP(a b c:BR)(_k:KT):OLR:=og (o1 a) (og (o1 b) (og (o1 c) (match(aD (ae a) 0)==0 with|true=>(match(aD (ae a) 0)==0 with|true=>some [RV.d aqt (i64.wrap ((aD (ae b) 0)*(aD (ae c) 0)))]|false=>some [RV.d aqt (aD (ae a) 0)])|false=>(match(i64.wrap ((aD (ae b) 0)*(aD (ae c) 0)))==0 with|true=>(match(aD (ae a) 0)==0 with|true=>some [RV.d aqt (i64.wrap ((aD (ae b) 0)*(aD (ae c) 0)))]|false=>some [RV.d aqt (aD (ae a) 0)])|false=>(match(aD (ae a) 0)==(i64.wrap ((aD (ae b) 0)*(aD (ae c) 0)))with|true=>(match(aD (ae a) 0)==0 with|true=>some [RV.d aqt (i64.wrap ((aD (ae b) 0)*(aD (ae c) 0)))]|false=>some [RV.d aqt (aD (ae a) 0)])|false=>(og (o2 a a) (og (o2 b b) (og (o2 (hMu b b) c) (og (o2 (hMu a a) (hMu (hMu b b) c)) (some [RV.d aqt (i64.wrap ((aD (ae a) 0)*(aD (ae (hMu a a)) (ae (hMu (hMu b b) c)))))]))))))))))
def ac5:Cn 156 [tR,tR,tR]:=cn fun(a b c:BR)=>lf (ok Rat 240000 a∧ok Rat 170000 b∧ok Rat 30000 c) [.d aqt (gJ (ae a) (ae b) (ae c))] fun h=>by
 refine aA G6 (RP a b c) ⟨0,?_⟩;obtain⟨ha,hb,hc⟩:=h;obtain⟨a,rfl,ba⟩:=aB ha;obtain⟨b,rfl,bb⟩:=aB hb;obtain⟨c,rfl,bc⟩:=aB hc;unfold RP;simp only[aO,Nat.reduceAdd,Nat.reduceLeDiff,qs];exact Dn _ _ _
def Nd(a b:BO3)(_k:KT):OLR:=og (o2 a.1 b.1) (og (o1 b.2.1) (og (decide (aH (0:Int))) (some [RV.d tQ (hSu a.1 b.1,(a.2.1,(hNe b.2.1,(hid (aj ((0:Int):Rat)),(a.2.2,b.2.2)))))])))
def adv:Cn 236 [tO,tO]:=cn fun(a b:BO3)=>lf (ok Rt 15000 a∧ok Rt 15000 b) [.d tQ (enc (suT (dec a) (dec b)))] fun h=>by
 refine aA G6 (Nd a b) ⟨0,?_⟩;obtain⟨ha,hb⟩:=h;obtain⟨a,rfl,ba⟩:=aB ha;obtain⟨b,rfl,bb⟩:=aB hb;unfold Nd;simp only[aO,Nat.reduceLeDiff];try rfl
def QW:List En:=enT ac5::enL adv::G6
def SZ(q:BQ)(_k:KT):OLR:=let y1:=ae q.2.2.2.2.1;let y2:=aD (ae q.2.2.2.2.2) 0;let y3:=gJ (ae q.1) (ae q.2.1) y1;let y4:=i64.wrap ((gJ (ae q.2.2.1) (ae q.2.2.2.1) y1)*y2);let y5:OLR:=match y3==0 with|true=>some [RV.d aqt y4]|false=>some [RV.d aqt y3];let y6:=hMu q.2.2.2.1 q.2.2.2.1;let y7:=hMu q.2.2.1 q.2.2.1;let y8:=hMu y6 q.2.2.2.2.1;let y9:=hMu (hMu q.2.1 q.2.1) q.2.2.2.2.1;let y10:=hAd (hMu q.1 q.1) y9;let y11:=hMu q.2.2.2.2.2 (hAd y7 y8);let y12:=hMu q.2.2.1 q.2.2.2.1;let y13:=hMu q.2.2.2.2.2 y12;let y14:=hSu (hMu q.1 q.2.1) y13;og (o1 q.2.2.2.2.1) (match decide ((aD y1 0)<0)with|true=>some [RV.d aqt 0]|false=>(og (o1 q.2.2.2.2.2) (match decide (y2<0)with|true=>some [RV.d aqt 0]|false=>(og (decide (ok Rat 240000 q.1∧ok Rat 170000 q.2.1∧ok Rat 30000 q.2.2.2.2.1)) (og (decide (ok Rat 240000 q.2.2.1∧ok Rat 170000 q.2.2.2.1∧ok Rat 30000 q.2.2.2.2.1)) (og (o1 q.2.2.2.2.2) (match y3==0 with|true=>y5|false=>(match y4==0 with|true=>y5|false=>(match y3==y4 with|true=>y5|false=>(og (o2 q.2.2.1 q.2.2.1) (og (o2 q.2.2.2.1 q.2.2.2.1) (og (o2 y6 q.2.2.2.2.1) (og (o2 y7 y8) (og (o2 q.2.2.2.2.2 (hAd y7 y8)) (og (o2 q.1 q.1) (og (o2 q.2.1 q.2.1) (og (o2 (hMu q.2.1 q.2.1) q.2.2.2.2.1) (og (o2 (hMu q.1 q.1) y9) (og (o2 y10 y11) (og (o2 q.1 q.2.1) (og (o2 q.2.2.1 q.2.2.2.1) (og (o2 q.2.2.2.2.2 y12) (og (o2 (hMu q.1 q.2.1) y13) (og (o2 y14 y14) (og (decide (ok Rat 240000 (hSu y10 y11)∧ok Rat 170000 (hAd y14 y14)∧ok Rat 30000 q.2.2.2.2.1)) (some [RV.d aqt (i64.wrap (y3*(gJ (ae (hSu y10 y11)) (ae (hAd y14 y14)) y1)))]))))))))))))))))))))))))))
def Hn:Cn 234 [tQ]:=cn fun(q:BQ)=>lf (okQ q) [.d aqt (sgQ (dec q))] fun h=>by
 refine aA QW (SZ q) ⟨0,?_⟩;obtain⟨A,B,C,D,M,N,rfl,bA,bB,bC,bD,bM,bN,hM,hN⟩:=Hv h;rw[az];unfold SZ;simp only[aO,aC,Nat.reduceAdd,Nat.reduceLeDiff,tZ,sG,aq,am7 (show ¬M<0 by grind),am7 (show ¬N<0 by grind)];refine(Dn _ _ _).trans ?_;unfold sgQ BX;rw[am7 (show ¬M<0 by grind),am7 (show ¬N<0 by grind)];dsimp only[Bool.or_false,cond_false];rw[show A*B-N*(C*D)+(A*B-N*(C*D))=2*(A*B-N*(C*D)) by grind];rfl
def Nv:List En:=enT Hn::QW
def Rw(a b:BO3)(_k:KT):OLR:=og (decide (ok Rt 15000 a∧ok Rt 15000 b)) (og (decide (okQ (hid (enc (suT (dec a) (dec b)))))) (some [RV.d aqt (sgQ (dec (hid (enc (suT (dec a) (dec b))))))]))
def Cm:Cn 121 [tO,tO]:=cn fun(a b:BO3)=>lf (okT 15000 a∧okT 15000 b) [.d aqt (aW (dec a) (dec b))] fun h=>by
 refine aA Nv (Rw a b) ⟨0,?_⟩;obtain⟨ha,hb⟩:=h;obtain⟨a,rfl,ba,ra⟩:=fH ha;obtain⟨b,rfl,bb,rb⟩:=fH hb;have na:Nn a.2.2:=inferInstance;have nb:Nn b.2.2:=inferInstance;have e:decide (okQ (enc (suT a b)))=true:=rn (by decide) (by decide) (by decide) (by decide) (by decide) (by decide);unfold Rw;simp only[aO,Nat.reduceLeDiff,e];rfl
def Oh(a:BO3)(b:BR)(_k:KT):OLR:=og (o2 a.1 b) (og (decide (ok Rat 240000 (hSu a.1 b)∧ok Rat 170000 a.2.1∧ok Rat 30000 a.2.2)) (some [RV.d aqt (gJ (ae (hSu a.1 b)) (ae a.2.1) (ae a.2.2))]))
def Bn:Cn 62 [tO,tR]:=cn fun(a:BO3) (b:BR)=>lf (okT 15000 a∧ok Rat 15000 b) [.d aqt (fC (dec a) (ae b))] fun h=>by
 refine aA Nv (Oh a b) ⟨0,?_⟩;obtain⟨ha,hb⟩:=h;obtain⟨a,rfl,ba,ra⟩:=fH ha;obtain⟨b,rfl,bb⟩:=aB hb;unfold Oh;simp only[aO,Nat.reduceAdd,Nat.reduceLeDiff];try rfl
def kH:eo:=spN false true [tR] (fun x=>decide (okR x.1)) (fun x=>[RV.d tR (hNe x.1)])
theorem gH:SpK 109 kH:=spX fun x h=>by simp only[bJ];exact IC x.1 (am8 h)
def Ps:List En:=[⟨99,iy,fi⟩,⟨107,iS,fB⟩,⟨106,iE,ff⟩,⟨108,gV,eU⟩,⟨41,fM,dW⟩,⟨73,mr,iu⟩,⟨109,kH,gH⟩]
def ZB(a b c:BR)(_k:KT):OLR:=og (o1 a) (og (o1 b) (og (o1 c) (match(i64.wrap ((aD (ae b) 0)*(aD (ae c) 0)))==0 with|true=>some [RV.d aqt (aD (ae a) 0)]|false=>(match(aD (ae a) 0)==(i64.wrap ((aD (ae b) 0)*(aD (ae c) 0)))with|true=>some [RV.d aqt (aD (ae a) 0)]|false=>(match(aD (ae a) 0)==0 with|true=>some [RV.d aqt (i64.wrap ((aD (ae b) 0)*(aD (ae c) 0)))]|false=>(og (o2 a a) (og (o2 b b) (og (o2 (hMu b b) c) (og (o2 (hMu a a) (hMu (hMu b b) c)) (some [RV.d aqt (i64.wrap ((aD (ae a) 0)*(aD (ae (hMu a a)) (ae (hMu (hMu b b) c)))))]))))))))))
def Dg:Cn 293 [tR,tR,tR]:=cn fun(a b c:BR)=>lf (ok Rat 240000 a∧ok Rat 170000 b∧ok Rat 30000 c) [.d aqt (gJ (ae a) (ae b) (ae c))] fun h=>by
 refine aA Ps (ZB a b c) ⟨0,?_⟩;obtain⟨ha,hb,hc⟩:=h;obtain⟨a,rfl,ba⟩:=aB ha;obtain⟨b,rfl,bb⟩:=aB hb;obtain⟨c,rfl,bc⟩:=aB hc;unfold ZB;simp only[aO,Nat.reduceAdd,Nat.reduceLeDiff,qs];exact Bx _ _ _
def W1(a:BR)(_k:KT):OLR:=og (o1 a) (og (o1 (hNe a)) (some [RV.d tR (hNe (hNe a))]))
def aac:Cn 338 [tR]:=cn fun(a:BR)=>lf (okR a) [.d tR (aj (ae a))] fun h=>by
 refine aA Ps (W1 a) ⟨0,?_⟩;have ha:=h;obtain⟨a,rfl,ba⟩:=fe ha;unfold W1;simp only[aO,Nat.reduceLeDiff,apN]
def ajC:List En:=enT Dg::enL aac::Ps
def YZ(a b:BO3)(_k:KT):OLR:=og (o2 a.1 b.1) (og (o1 a.2.1) (og (o1 b.2.1) (og (decide (aH (0:Int))) (og (o1 a.2.2) (og (o1 b.2.2) (some [RV.d tQ (hSu a.1 b.1,(hid (aj (ae a.2.1)),(hNe b.2.1,(hid (aj ((0:Int):Rat)),(hid (aj (ae a.2.2)),hid (aj (ae b.2.2)))))))]))))))
def OC:Cn 296 [tO,tO]:=cn fun(a b:BO3)=>lf (ok Rt 15000 a∧ok Rt 15000 b) [.d tQ (enc (suT (dec a) (dec b)))] fun h=>by
 refine aA ajC (YZ a b) ⟨0,?_⟩;obtain⟨ha,hb⟩:=h;obtain⟨a,rfl,ba⟩:=aB ha;obtain⟨b,rfl,bb⟩:=aB hb;unfold YZ;simp only[aO,Nat.reduceLeDiff];try rfl
theorem ki{n:Int}(h:aH n):szI n≤3:=by
 have:pw 3=1000000000000000000000000000:=by decide
 exact fu (by have:=h.1;omega) (by have:=h.2;omega)
theorem P8{q:Rat}{k:Nat}(h:Bd q k)(hk:k≤480000):okI (ai q.floor)∧okI (ai (-q.floor)):=by
 have e:szI q.floor≤k:=by
  refine ank (dH ?_) h.le.1;rw[Rat.floor_def];exact Int.natAbs_ediv_le_natAbs _ _
 exact⟨aV (by omega),aV (by rw[jf];omega)⟩
theorem amb:Bd (65536:Rat) 1:=⟨⟨by decide+kernel,by decide+kernel⟩⟩
theorem acm:((65536:Int):Rat)=65536:=rfl
theorem p48:(2:Int)^(min (48:Int).toNat 64)=281474976710656:=by decide
theorem p32:(2:Int)^(min (32:Int).toNat 64)=4294967296:=by decide
theorem p16:(2:Int)^(min (16:Int).toNat 64)=65536:=by decide
theorem fdv{a b:Int}(h:0≤b):Int.fdiv a b=a/b:=Int.fdiv_eq_ediv_of_nonneg a h
theorem X6(n k:Nat)(hn:n<18446744073709551616)(hk:2^k-1<18446744073709551616):BitVec.toNat (BitVec.ofInt 64 (n:Int)&&&BitVec.ofInt 64 ((2^k-1:Nat):Int))=n%2^k:=by
 rw[BitVec.toNat_and,BitVec.toNat_ofInt,BitVec.toNat_ofInt];have e1:((n:Int)%((2^64:Nat):Int)).toNat=n:=by omega
 have e2:(((2^k-1:Nat):Int)%((2^64:Nat):Int)).toNat=2^k-1:=by omega
 rw[e1,e2,Nat.and_two_pow_sub_one_eq_mod]
theorem afh(n:Nat)(hn:n<18446744073709551616):u64.wrap (BitVec.toNat (BitVec.ofInt 64 (n:Int)&&&BitVec.ofInt 64 65535))=((n%65536:Nat):Int):=by
 rw[show(65535:Int)=((2^16-1:Nat):Int) from rfl,X6 n 16 hn (by decide),anX];omega
theorem Qp(n:Nat)(hn:n<18446744073709551616):u64.wrap (BitVec.toNat (BitVec.ofInt 64 (n:Int)&&&BitVec.ofInt 64 4294967295))=((n%4294967296:Nat):Int):=by
 rw[show(4294967295:Int)=((2^32-1:Nat):Int) from rfl,X6 n 32 hn (by decide),anX];omega
theorem alo{h l:Nat}(hh:h<65536)(hl:l<281474976710656):u64.wrap (BitVec.toNat (BitVec.ofInt 64 (u64.wrap ((h:Int)*281474976710656)) ||| BitVec.ofInt 64 (l:Int)))=((h*281474976710656+l:Nat):Int):=by
 rw[BitVec.toNat_or,BitVec.toNat_ofInt,BitVec.toNat_ofInt,anX,anX]
 have e1:((h:Int)*281474976710656%18446744073709551616%((2^64:Nat):Int)).toNat=h <<< 48:=by
  rw[Nat.shiftLeft_eq];omega
 have e2:((l:Int)%((2^64:Nat):Int)).toNat=l:=by omega
 rw[e1,e2,←Nat.shiftLeft_add_eq_or_of_lt (by omega),Nat.shiftLeft_eq];omega
def scP(x y:Int):Prop:=x.natAbs≤2305843009213693952∧y.natAbs≤2305843009213693952
instance (x y:Int):Decidable (scP x y):=by unfold scP;infer_instance
def C8(n:Int):Prop:=0≤n∧n≤2305843009213693952
instance (n:Int):Decidable (C8 n):=by unfold C8;infer_instance
def akj:Ctx:=CX [] []
def aaQ(x y:Int)(_k:KT):OLR:=match decide (x<(-2305843009213693952))with|true=>some [RV.d tG (0,0),RV.d .bool false]|false=>(match decide (y>2305843009213693952)with|true=>some [RV.d tG (0,0),RV.d .bool false]|false=>some [RV.d tG (x,y),RV.d .bool true])
theorem ah9(x y:Int):RS akj 353 [SI x,SI y] (aaQ x y):=rsX
def MJ:Cn 353 [aqt,aqt]:=cn fun(x y:Int)=>lf True [.d tG ((oJ x y).1),.d .bool ((oJ x y).2)] fun _=>by
 refine fY (E:=[]) trivial (ah9 _ _ ⟨0,?_⟩);unfold aaQ oJ;cases decide (x< -2305843009213693952)
 ·cases decide (y>2305843009213693952)<;>rfl
 ·rfl
def GU:eo:=spN false true [tI] (fun x=>decide (okI x.1)) (fun x=>[RV.d tI (hid (ai (-ag x.1)))])
theorem DH:SpK 216 GU:=spX fun x h=>by simp only[bJ];exact Is x.1 (am8 h)
def zD:List En:=[⟨99,iy,fi⟩,⟨108,gV,eU⟩,⟨109,kH,gH⟩,enL Q8,enT aaD,⟨216,GU,DH⟩,enL MJ]
def Yg(a:BR)(_k:KT):OLR:=let y1:=hid (aj ((65536:Int):Rat));let y2:=hid (ai (ae (hMu a y1)).floor);let y3:=hid (ai (ae (hNe (hMu a y1))).floor);let y4:=hid (ai (-ag y3));let y5:=oJ (bif decide (aH (ag y2))then ag y2 else 0) (bif decide (aH (ag y4))then ag y4 else 0);og (decide (aH (65536:Int))) (og (o2 a y1) (og (o1 (hMu a y1)) (og (decide (okI y2)) (og (o1 (hMu a y1)) (og (o1 (hNe (hMu a y1))) (og (decide (okI y3)) (og (decide (okI y4)) (match !(decide (aH (ag y2)))with|true=>some [RV.d tG (0,0),RV.d .bool false]|false=>(match !(decide (aH (ag y4)))with|true=>some [RV.d tG (0,0),RV.d .bool false]|false=>some [RV.d tG (hid (y5.1)),RV.d .bool (y5.2)])))))))))
def Pf:Cn 333 [tR]:=cn fun(a:BR)=>lf (ok Rat 200000 a) [.d tG ((frF (ae a)).1),.d .bool ((frF (ae a)).2)] fun h=>by
 refine aA zD (Yg a) ⟨0,?_⟩;have ha:=h;obtain⟨a,rfl,ba⟩:=aB ha;have hk:=amb;have h6:aH 65536:=by decide
 have f1:=P8 (inferInstance:Bd (a*65536) _) (by decide);have f2:=P8 (inferInstance:Bd (-(a*65536)) _) (by decide);unfold Yg;simp only[acm,aO,Nat.reduceAdd,Nat.reduceLeDiff,dec_enc,dT h6,dT f1.1,dT f2.1,dT f2.2];unfold frF;cases e1:decide (aH (a*65536).floor)
 ·rfl
 ·cases e2:decide (aH (-(-(a*65536)).floor))
  ·rfl
  ·rfl
def aas(a b:(Int×Int))(_k:KT):OLR:=some [RV.d tG (hid ((oJ (i64.wrap (a.1+b.1)) (i64.wrap (a.2+b.2))).1)),RV.d .bool ((oJ (i64.wrap (a.1+b.1)) (i64.wrap (a.2+b.2))).2)]
def M8:Cn 335 [tG,tG]:=cn fun(a b:(Int×Int))=>lf (prI a∧prI b) [.d tG ((dO a b).1),.d .bool ((dO a b).2)] fun h=>by
 refine aA zD (aas a b) ⟨0,?_⟩;obtain⟨⟨a1,a2,a3⟩,⟨b1,b2,b3⟩⟩:=h;unfold aas dO;rw[aT (by omega) (by omega),aT (by omega) (by omega)];simp only[bJ]
def ZC(a:(Int×Int))(_k:KT):OLR:=some [RV.d tG (i64.wrap (0-a.2),i64.wrap (0-a.1))]
def Nj:Cn 362 [tG]:=cn fun(a:(Int×Int))=>lf (prI a) [.d tG (nf a)] fun h=>by
 refine aA zD (ZC a) ⟨0,?_⟩;obtain⟨a1,a2,a3⟩:=h;unfold ZC nf;rw[aT (by omega) (by omega),aT (by omega) (by omega),ao1,ao1]
def Yz(n:Int)(_k:KT):OLR:=match decide (n<0)with|true=>some [RV.d (.int .u64) (u64.wrap (0-(u64.wrap n)))]|false=>some [RV.d (.int .u64) (u64.wrap n)]
def RB:Cn 367 [aqt]:=cn fun(n:Int)=>lf (aH n) [.d (.int .u64) (n.natAbs:Int)] fun h=>by
 refine aA zD (Yz n) ⟨0,?_⟩;obtain⟨h1,h2⟩:=h;unfold Yz;rw[anX,anX];by_cases hn:n<0
 ·rw[am5 hn,show(0-n%18446744073709551616)%18446744073709551616=(n.natAbs:Int) by omega]
 ·rw[am7 hn,show n%18446744073709551616=(n.natAbs:Int) by omega]
def Zz(x y:Int)(_k:KT):OLR:=match decide (32<(0:Int))with|true=>none|false=>(match decide (32<(0:Int))with|true=>none|false=>(match decide (32<(0:Int))with|true=>none|false=>(match decide (32<(0:Int))with|true=>none|false=>(match decide (32<(0:Int))with|true=>none|false=>some [RV.d (.int .u64) (u64.wrap ((u64.wrap ((u64.wrap ((Int.fdiv x (2^(min (32:Int).toNat 64)))*(Int.fdiv y (2^(min (32:Int).toNat 64)))))+(Int.fdiv (u64.wrap ((u64.wrap ((Int.fdiv x (2^(min (32:Int).toNat 64)))*(u64.wrap (BitVec.toNat (BitVec.ofInt 64 y&&&BitVec.ofInt 64 4294967295)))))+(Int.fdiv (u64.wrap ((u64.wrap (BitVec.toNat (BitVec.ofInt 64 x&&&BitVec.ofInt 64 4294967295)))*(u64.wrap (BitVec.toNat (BitVec.ofInt 64 y&&&BitVec.ofInt 64 4294967295))))) (2^(min (32:Int).toNat 64))))) (2^(min (32:Int).toNat 64)))))+(Int.fdiv (u64.wrap ((u64.wrap (BitVec.toNat (BitVec.ofInt 64 (u64.wrap ((u64.wrap ((Int.fdiv x (2^(min (32:Int).toNat 64)))*(u64.wrap (BitVec.toNat (BitVec.ofInt 64 y&&&BitVec.ofInt 64 4294967295)))))+(Int.fdiv (u64.wrap ((u64.wrap (BitVec.toNat (BitVec.ofInt 64 x&&&BitVec.ofInt 64 4294967295)))*(u64.wrap (BitVec.toNat (BitVec.ofInt 64 y&&&BitVec.ofInt 64 4294967295))))) (2^(min (32:Int).toNat 64)))))&&&BitVec.ofInt 64 4294967295)))+(u64.wrap ((u64.wrap (BitVec.toNat (BitVec.ofInt 64 x&&&BitVec.ofInt 64 4294967295)))*(Int.fdiv y (2^(min (32:Int).toNat 64))))))) (2^(min (32:Int).toNat 64))))),RV.d (.int .u64) (u64.wrap (x*y))]))))
def Sg:Cn 366 [(.int .u64),(.int .u64)]:=cn fun(x y:Int)=>lf (iI x∧iI y) [.d (.int .u64) (x*y/18446744073709551616),.d (.int .u64) (x*y%18446744073709551616)] fun h=>by
 refine aA zD (Zz x y) ⟨0,?_⟩;obtain⟨h1,h2⟩:=h;obtain⟨X,rfl⟩:=aoo h1.1;obtain⟨Y,rfl⟩:=aoo h2.1;have hX:X<18446744073709551616:=by have:=h1.2;omega
 have hY:Y<18446744073709551616:=by have:=h2.2;omega
 have wn:∀n:Nat,n<18446744073709551616→u64.wrap (n:Int)=(n:Int):=fun n hn=>by rw[anX];omega
 have eX:(X:Int)/4294967296=((X/4294967296:Nat):Int):=by omega
 have eY:(Y:Int)/4294967296=((Y/4294967296:Nat):Int):=by omega
 unfold Zz;simp only[p32,fdv (show(0:Int)≤4294967296 by decide),Qp X hX,Qp Y hY,eX,eY]
 have hXY:X*Y=X/4294967296*(Y/4294967296)*18446744073709551616+(X/4294967296*(Y%4294967296)+X%4294967296*(Y/4294967296))*4294967296+X%4294967296*(Y%4294967296):=by
  have a:=Nat.div_add_mod X 4294967296;have b:=Nat.div_add_mod Y 4294967296;generalize X/4294967296=x1 at*
  generalize X%4294967296=x0 at*
  generalize Y/4294967296=y1 at*
  generalize Y%4294967296=y0 at*
  subst a b;grind
 have x0:X%4294967296≤4294967295:=by omega
 have y0:Y%4294967296≤4294967295:=by omega
 have x1:X/4294967296≤4294967295:=by omega
 have y1:Y/4294967296≤4294967295:=by omega
 have q00:=aoZ x0 y0;have q10:=aoZ x1 y0;have q01:=aoZ x0 y1;have q11:=aoZ x1 y1;simp only[←aoA];rw[hXY];generalize X%4294967296*(Y%4294967296)=p00 at*
 generalize X/4294967296*(Y%4294967296)=p10 at*
 generalize X%4294967296*(Y/4294967296)=p01 at*
 generalize X/4294967296*(Y/4294967296)=p11 at*
 have t0:u64.wrap (u64.wrap (p10:Int)+u64.wrap (p00:Int)/4294967296)=((p10+p00/4294967296:Nat):Int):=by
  rw[wn p10 (by omega),wn p00 (by omega),show(p10:Int)+(p00:Int)/4294967296=((p10+p00/4294967296:Nat):Int) by omega,wn _ (by omega)]
 rw[t0,Qp _ (by omega)]
 have t1:u64.wrap (((p10+p00/4294967296)%4294967296:Nat)+u64.wrap (p01:Int))=(((p10+p00/4294967296)%4294967296+p01:Nat):Int):=by
  rw[wn p01 (by omega),←Int.natCast_add,wn _ (by omega)]
 rw[t1,wn p11 (by omega)];rw[am7 (show ¬(32:Int)<0 by decide)];dsimp only
 have hi:u64.wrap (u64.wrap ((p11:Int)+((p10+p00/4294967296:Nat):Int)/4294967296)+(((p10+p00/4294967296)%4294967296+p01:Nat):Int)/4294967296)=((p11*18446744073709551616+(p10+p01)*4294967296+p00:Nat):Int)/18446744073709551616:=by
  rw[anX,anX];omega
 rw[hi,anX]
def aid:List En:=enA RB::enA Sg::zD
def Zg(x y:Int)(_k:KT):OLR:=let y1:=hid ((x.natAbs:Int));let y2:=hid ((y.natAbs:Int));let y3:=hid (y1*y2/18446744073709551616);let y4:=hid (y1*y2%18446744073709551616);let y5:=u64.wrap (BitVec.toNat (BitVec.ofInt 64 (u64.wrap (y3*2^(min (48:Int).toNat 64))) ||| BitVec.ofInt 64 (Int.fdiv y4 (2^(min (16:Int).toNat 64)))));let y6:=i64.wrap y5;let y7:=i64.wrap (y6+1);let y8:=i64.wrap (0-y7);let y9:=i64.wrap (0-y6);let y10:=decide (y9≤2305843009213693952);og (decide (aH x)) (og (decide (aH y)) (og (decide (iI y1∧iI y2)) (match decide (16<(0:Int))with|true=>none|false=>(match(Int.fdiv y3 (2^(min (16:Int).toNat 64))) !=0 with|true=>some [RV.d aqt 0,RV.d aqt 0,RV.d .bool false]|false=>(match decide (48<(0:Int))with|true=>none|false=>(match decide (16<(0:Int))with|true=>none|false=>(match decide (y5>2305843009213693952)with|true=>some [RV.d aqt 0,RV.d aqt 0,RV.d .bool false]|false=>(match(u64.wrap (BitVec.toNat (BitVec.ofInt 64 y4&&&BitVec.ofInt 64 65535))) !=0 with|true=>(match !((decide (x<0))==(decide (y<0)))with|true=>(match decide (y8≥(-2305843009213693952))with|true=>some [RV.d aqt y8,RV.d aqt y9,RV.d .bool y10]|false=>some [RV.d aqt y8,RV.d aqt y9,RV.d .bool false])|false=>(match decide (y6≥(-2305843009213693952))with|true=>some [RV.d aqt y6,RV.d aqt y7,RV.d .bool (decide (y7≤2305843009213693952))]|false=>some [RV.d aqt y6,RV.d aqt y7,RV.d .bool false]))|false=>(match !((decide (x<0))==(decide (y<0)))with|true=>(match decide (y9≥(-2305843009213693952))with|true=>some [RV.d aqt y9,RV.d aqt y9,RV.d .bool y10]|false=>some [RV.d aqt y9,RV.d aqt y9,RV.d .bool false])|false=>(match decide (y6≥(-2305843009213693952))with|true=>some [RV.d aqt y6,RV.d aqt y6,RV.d .bool (decide (y6≤2305843009213693952))]|false=>some [RV.d aqt y6,RV.d aqt y6,RV.d .bool false]))))))))))
def aaB:Cn 356 [aqt,aqt]:=cn fun(x y:Int)=>lf (scP x y) [.d aqt ((scF x y).1.1),.d aqt ((scF x y).1.2),.d .bool ((scF x y).2)] fun h=>by
 refine aA aid (Zg x y) ⟨0,?_⟩;obtain⟨hx,hy⟩:=h;have h1:aH x:=⟨by omega,by omega⟩
 have h2:aH y:=⟨by omega,by omega⟩
 have h3:iI (x.natAbs:Int)∧iI (y.natAbs:Int):=⟨⟨by omega,by omega⟩,⟨by omega,by omega⟩⟩
 unfold Zg scF;simp only[bJ];rw[dT h1,dT h2,dT h3];have hp:=aoZ hx hy;simp only[←aoA,p16,p48,fdv (show(0:Int)≤65536 by decide)];generalize x.natAbs*y.natAbs=p at*
 rw[am7 (show ¬(16:Int)<0 by decide),am7 (show ¬(48:Int)<0 by decide),show(p:Int)/18446744073709551616=((p/18446744073709551616:Nat):Int) by omega,show(p:Int)%18446744073709551616=((p%18446744073709551616:Nat):Int) by omega,show((p%18446744073709551616:Nat):Int)/65536=((p%18446744073709551616/65536:Nat):Int) by omega,afh _ (by omega),show p%18446744073709551616%65536=p%65536 by omega];by_cases hc:p≥1208925819614629174706176
 ·rw[am5 hc,show(((p/18446744073709551616:Nat):Int)/65536 !=0)=true by simp;omega];rfl
 ·rw[am7 hc,show(((p/18446744073709551616:Nat):Int)/65536 !=0)=false by simp;omega,alo (by omega) (by omega),show p/18446744073709551616*281474976710656+p%18446744073709551616/65536=p/65536 by omega];have hdm:=Nat.div_add_mod p 65536;have hml:=ap2 p (show 65536>0 by decide);have hru:(p+65535)/65536=if p%65536=0 then p/65536 else p/65536+1:=by split<;>omega
  rw[hru];clear hru;generalize p/65536=q at*
  generalize p%65536=m at*
  have e1:decide ((q:Int)>2305843009213693952)=decide (q>2305843009213693952):=anI.2 (by omega);rw[e1];by_cases hd:q>2305843009213693952
  ·rw[am5 hd];rfl
  rw[am7 hd,aT (x:=(q:Int)) (by omega) (by omega),aT (x:=(q:Int)+1) (by omega) (by omega),aT (x:=0-(q:Int)) (by omega) (by omega),aT (x:=0-((q:Int)+1)) (by omega) (by omega)];have e2:((m:Int) !=0)=!decide (m=0):=by by_cases h:m=0<;>simp[h]
  have e3:decide (0-(q:Int)≥ -2305843009213693952)=true:=am5 (by omega);have e4:decide (0-(q:Int)≤2305843009213693952)=true:=am5 (by omega);have e5:decide ((q:Int)≥ -2305843009213693952)=true:=am5 (by omega);have e6:decide ((q:Int)≤2305843009213693952)=true:=am5 (by omega);have e7:decide (0-((q:Int)+1)≥ -2305843009213693952)=decide (q+1≤2305843009213693952):=anI.2 (by omega);have e8:decide ((q:Int)+1≤2305843009213693952)=decide (q+1≤2305843009213693952):=anI.2 (by omega);have e9:decide (q≤2305843009213693952)=true:=am5 (by omega);rw[e2,e3,e4,e5,e6,e7,e8];have f2:((q+1:Nat):Int)=(q:Int)+1:=by omega
  have f3:decide (m=0)=true→m=0:=am8;have f4:decide (m=0)=false→m≠0:=anZ;generalize decide (m=0)=d2 at*
  generalize (decide (x<0)==decide (y<0))=d3 at*
  cases d2
  ·rw[anr (f4 rfl),f2];generalize decide (q+1≤2305843009213693952)=d4 at*
   cases d3<;>cases d4<;>simp
  ·rw[anB (f3 rfl),e9];cases d3<;>simp
def bI(r:Rt):Iv×Bool:=
 bif !(frF r.1).2||decide (r.2.1=0)then frF r.1
 else bif !(frF r.2.1).2||!(frF r.2.2).2||decide (r.2.2<0)then(iv0,false)
 else bif !(sqF (frF r.2.2).1).2 then(iv0,false)
 else bif !(cM (frF r.2.1).1 (sqF (frF r.2.2).1).1).2 then(iv0,false)
 else dO (frF r.1).1 (cM (frF r.2.1).1 (sqF (frF r.2.2).1).1).1
def jW(n:Rat)(a:Iv)(k:Bool):Iv×Bool:=bif !k||!(frF n).2 then(iv0,false)else cM (frF n).1 a
def apF(a b:Rt):Int×Bool:=
 bif !(bI a).2||!(bI b).2 then(0,false)else bif decide ((bI a).1.2<(bI b).1.1)then(-1,true)else bif decide ((bI a).1.1>(bI b).1.2)then(1,true)else(0,false)
abbrev Pt:=Rat×Rat×Rat×Rat×Rat
abbrev Ln:=Rat×Rat×Rat
def pxR(p:Pt):Rt:=(p.1,p.2.1,p.2.2.2.2)
def pyR(p:Pt):Rt:=(p.2.2.1,p.2.2.2.1,p.2.2.2.2)
def xe(l:Ln)(p:Pt):Int×Bool:=
 bif !(jW l.1 (bI (pxR p)).1 (bI (pxR p)).2).2||!(jW l.2.1 (bI (pyR p)).1 (bI (pyR p)).2).2||!(frF l.2.2).2 then(0,false)
 else bif !(dO (jW l.1 (bI (pxR p)).1 (bI (pxR p)).2).1 (jW l.2.1 (bI (pyR p)).1 (bI (pyR p)).2).1).2 then(0,false)
 else bif !(dO (dO (jW l.1 (bI (pxR p)).1 (bI (pxR p)).2).1 (jW l.2.1 (bI (pyR p)).1 (bI (pyR p)).2).1).1 (nf (frF l.2.2).1)).2 then(0,false)
 else sgF (dO (dO (jW l.1 (bI (pxR p)).1 (bI (pxR p)).2).1 (jW l.2.1 (bI (pyR p)).1 (bI (pyR p)).2).1).1 (nf (frF l.2.2).1)).1
def fv(r:Rt)(q:Rat):Iv×Bool:=bif !(bI r).2||!(frF q).2 then(iv0,false)else dO (bI r).1 (nf (frF q).1)
def uJ(c:Ln)(p:Pt):Int×Bool:=
 bif !(fv (pxR p) c.1).2||!(fv (pyR p) c.2.1).2||!(frF c.2.2).2 then(0,false)
 else bif !(cM (fv (pxR p) c.1).1 (fv (pxR p) c.1).1).2||!(cM (fv (pyR p) c.2.1).1 (fv (pyR p) c.2.1).1).2 then(0,false)
 else bif !(dO (cM (fv (pxR p) c.1).1 (fv (pxR p) c.1).1).1 (cM (fv (pyR p) c.2.1).1 (fv (pyR p) c.2.1).1).1).2 then(0,false)
 else bif !(dO (dO (cM (fv (pxR p) c.1).1 (fv (pxR p) c.1).1).1 (cM (fv (pyR p) c.2.1).1 (fv (pyR p) c.2.1).1).1).1 (nf (frF c.2.2).1)).2 then(0,false)
 else sgF (dO (dO (cM (fv (pxR p) c.1).1 (fv (pxR p) c.1).1).1 (cM (fv (pyR p) c.2.1).1 (fv (pyR p) c.2.1).1).1).1 (nf (frF c.2.2).1)).1
def sfF(m:Rat):Iv:=(sqF (frF m).1).1
def mfF(b:Rat)(i:Iv):Iv:=(cM (frF b).1 i).1
def qu1(q:Qd):Bool:=(frF q.2.2.2.2.1).2&&(sqF (frF q.2.2.2.2.1).1).2&&(frF q.2.2.2.2.2).2&&(sqF (frF q.2.2.2.2.2).1).2
def qu2(q:Qd):Bool:=(frF q.2.1).2&&(cM (frF q.2.1).1 (sfF q.2.2.2.2.1)).2&&(frF q.2.2.1).2&&(cM (frF q.2.2.1).1 (sfF q.2.2.2.2.2)).2&&(frF q.2.2.2.1).2&&(cM (sfF q.2.2.2.2.1) (sfF q.2.2.2.2.2)).2&&(cM (frF q.2.2.2.1).1 (cM (sfF q.2.2.2.2.1) (sfF q.2.2.2.2.2)).1).2
def quA(q:Qd):Iv×Bool:=dO (frF q.1).1 (mfF q.2.1 (sfF q.2.2.2.2.1))
def quB(q:Qd):Iv×Bool:=dO (mfF q.2.2.1 (sfF q.2.2.2.2.2)) (mfF q.2.2.2.1 (cM (sfF q.2.2.2.2.1) (sfF q.2.2.2.2.2)).1)
def qu3(q:Qd):Bool:=(frF q.1).2&&(quA q).2&&(quB q).2&&(dO (quA q).1 (quB q).1).2
def quF(q:Qd):Int×Bool:=bif !(qu1 q)then(0,false)else bif !(qu2 q)then(0,false)else bif !(qu3 q)then(0,false)else sgF (dO (quA q).1 (quB q).1).1
theorem yf(r:Rt):prI (bI r).1:=by
 unfold bI;cases !(frF r.1).2||decide (r.2.1=0)
 ·cases !(frF r.2.1).2||!(frF r.2.2).2||decide (r.2.2<0)
  ·cases !(sqF (frF r.2.2).1).2
   ·cases !(cM (frF r.2.1).1 (sqF (frF r.2.2).1).1).2
    ·exact RE.addF_pr (RE.frF_pr _) (uk _ _)
    ·exact fO
   ·exact fO
  ·exact fO
 ·exact RE.frF_pr _
theorem Wf(n:Rat)(a:Iv)(k:Bool):prI (jW n a k).1:=by
 unfold jW;cases !k||!(frF n).2
 ·exact uk _ _
 ·exact fO
theorem Uq(r:Rt)(q:Rat):prI (fv r q).1:=by
 unfold fv;cases !(bI r).2||!(frF q).2
 ·exact RE.addF_pr (yf _) (RE.negF_pr (RE.frF_pr _))
 ·exact fO
namespace RE
theorem pM{r:Rt}(h:(bI r).2=true):inI (bI r).1 (v2 r.1 r.2.1 r.2.2):=by
 unfold bI at h ⊢;cases e1:(frF r.1).2
 ·rw[e1]at h;simp only[Bool.not_false,aqk,cond_true]at h;rw[e1]at h;cases h
 ·rw[e1]at h;by_cases hb:r.2.1=0
  ·rw[am5 hb]at h ⊢;simp only[Bool.not_true,Bool.false_or,cond_true];unfold v2;rw[hb,nj,zero_mul,add_zero];exact iB e1
  ·rw[am7 hb]at h ⊢;cases e2:(frF r.2.1).2<;>cases e3:(frF r.2.2).2<;>cases e4:decide (r.2.2<0)<;>rw[e2,e3,e4]at h<;>try (cases h;done)
   cases e5:(sqF (frF r.2.2).1).2<;>rw[e5]at h<;>try (cases h;done)
   cases e6:(cM (frF r.2.1).1 (sqF (frF r.2.2).1).1).2<;>rw[e6]at h<;>try (cases h;done)
   have hn:(0:RE)≤of r.2.2:=fx.2 (by have:=anZ e4;grind);exact j9 (iB e1) (lU (iB e2) (xg (iB e3) hn e5) e6) h
theorem Il{n:Rat}{a:Iv}{k:Bool}{x:RE}(ha:k=true→inI a x)(h:(jW n a k).2=true):inI (jW n a k).1 (of n*x):=by
 unfold jW at h ⊢;cases k
 ·cases h
 ·cases e:(frF n).2<;>rw[e]at h
  ·cases h
  ·exact lU (iB e) (ha rfl) h
theorem Jp{r:Rt}{q:Rat}(h:(fv r q).2=true):inI (fv r q).1 (v2 r.1 r.2.1 r.2.2+ -of q):=by
 unfold fv at h ⊢;cases e1:(bI r).2<;>cases e2:(frF q).2<;>rw[e1,e2]at h<;>try (cases h;done)
 exact j9 (pM e1) (Cq (iB e2)) h
theorem WB(x y:RE)(h1:x<y):x-y<0:=by grind
theorem akr(u x y a b:RE):((b-(a)))+((a-(u*x)))+((u*y-(b)))+((u-(0))*(x-(y)))=0:=by grind
theorem ap1(u x y a b:RE)(h1:0<u)(h2:u*x≤a)(h3:a<b)(h4:b≤u*y):x<y:=rX.1 fun hg=>far (aK (aK (aK (aL h3) (aF h2)) (aF h4)) (bg (le_of_lt (aL h1)) (aF hg))) (akr u x y a b)
theorem apF_ok{a b:Rt}(h:(apF a b).2=true):(apF a b).1=sg (vR a-vR b):=by
 unfold apF at h ⊢;cases e1:(bI a).2<;>cases e2:(bI b).2<;>rw[e1,e2]at h<;>try (cases h;done)
 obtain⟨a1,a2⟩:=pM e1;obtain⟨b1,b2⟩:=pM e2;cases e3:decide ((bI a).1.2<(bI b).1.1)<;>rw[e3]at h
 ·cases e4:decide ((bI a).1.1>(bI b).1.2)<;>rw[e4]at h
  ·cases h
  ·have h4:of ((bI b).1.2:Rat)<of ((bI a).1.1:Rat):=ib (apw.2 (am8 e4));exact(dB (aL (ap1 _ _ _ _ _ ov b2 h4 a1))).symm
 ·have h4:of ((bI a).1.2:Rat)<of ((bI b).1.1:Rat):=ib (apw.2 (am8 e3));exact(gE (WB _ _ (ap1 _ _ _ _ _ ov a2 h4 b1))).symm
theorem Vk{l:Ln}{p:Pt}(h:(xe l p).2=true):(xe l p).1=sg (of l.1*v2 p.1 p.2.1 p.2.2.2.2+of l.2.1*v2 p.2.2.1 p.2.2.2.1 p.2.2.2.2+ -of l.2.2):=by
 unfold xe at h ⊢;cases e1:(jW l.1 (bI (pxR p)).1 (bI (pxR p)).2).2<;>cases e2:(jW l.2.1 (bI (pyR p)).1 (bI (pyR p)).2).2<;>cases e3:(frF l.2.2).2<;>rw[e1,e2,e3]at h<;>try (cases h;done)
 have i1:=Il (x:=v2 p.1 p.2.1 p.2.2.2.2) (fun e=>pM (r:=pxR p) e) e1;have i2:=Il (x:=v2 p.2.2.1 p.2.2.2.1 p.2.2.2.2) (fun e=>pM (r:=pyR p) e) e2;revert h i1 i2;generalize jW l.1 (bI (pxR p)).1 (bI (pxR p)).2=X;generalize jW l.2.1 (bI (pyR p)).1 (bI (pyR p)).2=Y;intro h i1 i2;cases e4:(dO X.1 Y.1).2<;>rw[e4]at h<;>try (cases h;done)
 cases e5:(dO (dO X.1 Y.1).1 (nf (frF l.2.2).1)).2<;>rw[e5]at h<;>try (cases h;done)
 exact Hg (j9 (j9 i1 i2 e4) (Cq (iB e3)) e5) h
theorem UV{c:Ln}{p:Pt}(h:(uJ c p).2=true):(uJ c p).1=sg ((v2 p.1 p.2.1 p.2.2.2.2+ -of c.1)*(v2 p.1 p.2.1 p.2.2.2.2+ -of c.1)+(v2 p.2.2.1 p.2.2.2.1 p.2.2.2.2+ -of c.2.1)*(v2 p.2.2.1 p.2.2.2.1 p.2.2.2.2+ -of c.2.1)+ -of c.2.2):=by
 unfold uJ at h ⊢;cases e1:(fv (pxR p) c.1).2<;>cases e2:(fv (pyR p) c.2.1).2<;>cases e3:(frF c.2.2).2<;>rw[e1,e2,e3]at h<;>try (cases h;done)
 have i1:=Jp e1;have i2:=Jp e2;revert h;generalize fv (pxR p) c.1=X at*
 generalize fv (pyR p) c.2.1=Y at*
 intro h;cases e4:(cM X.1 X.1).2<;>cases e5:(cM Y.1 Y.1).2<;>rw[e4,e5]at h<;>try (cases h;done)
 cases e6:(dO (cM X.1 X.1).1 (cM Y.1 Y.1).1).2<;>rw[e6]at h<;>try (cases h;done)
 cases e7:(dO (dO (cM X.1 X.1).1 (cM Y.1 Y.1).1).1 (nf (frF c.2.2).1)).2<;>rw[e7]at h<;>try (cases h;done)
 exact Hg (j9 (j9 (lU i1 i1 e4) (lU i2 i2 e5) e6) (Cq (iB e3)) e7) h
theorem ajD(a b c d:RE):a+b+(c+d)=a+b+c+d:=by grind
theorem quF_ok{q:Qd}(hM:0≤q.2.2.2.2.1)(hN:0≤q.2.2.2.2.2)(h:(quF q).2=true):(quF q).1=sg (vQ q.1 q.2.1 q.2.2.1 q.2.2.2.1 q.2.2.2.2.1 q.2.2.2.2.2):=by
 unfold quF at h ⊢;cases e1:qu1 q<;>rw[e1]at h<;>try (cases h;done)
 cases e2:qu2 q<;>rw[e2]at h<;>try (cases h;done)
 cases e3:qu3 q<;>rw[e3]at h<;>try (cases h;done)
 unfold qu1 at e1;unfold qu2 at e2;unfold qu3 at e3;simp only[am9]at e1 e2 e3;obtain⟨⟨⟨a1,a2⟩,a3⟩,a4⟩:=e1;obtain⟨⟨⟨⟨⟨⟨b1,b2⟩,b3⟩,b4⟩,b5⟩,b6⟩,b7⟩:=e2;obtain⟨⟨⟨c1,c2⟩,c3⟩,c4⟩:=e3;have i1:inI (sfF q.2.2.2.2.1) (rq q.2.2.2.2.1):=xg (iB a1) (fx.2 hM) a2;have i2:inI (sfF q.2.2.2.2.2) (rq q.2.2.2.2.2):=xg (iB a3) (fx.2 hN) a4
 have hq:inI (dO (quA q).1 (quB q).1).1 (vQ q.1 q.2.1 q.2.2.1 q.2.2.2.1 q.2.2.2.2.1 q.2.2.2.2.2):=by
  have:=j9 (j9 (iB c1) (lU (iB b1) i1 b2) c2) (j9 (lU (iB b3) i2 b4) (lU (iB b5) (lU i1 i2 b6) b7) c3) c4;rw[ajD]at this;exact this
 exact Hg hq h
end RE
end Go.Proofs.YtnkndpoojnflmaaGreat
end
