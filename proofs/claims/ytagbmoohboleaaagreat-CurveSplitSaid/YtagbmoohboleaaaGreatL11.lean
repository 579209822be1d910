/- The reference's Sqrt and Same. -/
import Derived.Test.YtagbmoohboleaaaGreatL10
noncomputable section
namespace Go.Proofs.YtagbmoohboleaaaGreat
open Go.RowKit Go.IntKind
theorem afz:type_of% @Bool.and_eq_true_iff:=@Bool.and_eq_true_iff
theorem ag5:type_of% @beq_eq_false_iff_ne:=@beq_eq_false_iff_ne
theorem ahl:type_of% @Int.zero_sub:=@Int.zero_sub
theorem ahq:type_of% @Rat.intCast_mul:=@Rat.intCast_mul
theorem ahL:type_of% @Rat.intCast_lt_intCast:=@Rat.intCast_lt_intCast
theorem mf(a b:Int):(cq a b==0)=decide (a=b):=by
 rcases Int.lt_trichotomy a b with h|h|h
 ·rw[cW h,afo (by omega)];rfl
 ·rw[h,dO,afm rfl];rfl
 ·rw[cH h,afo (by omega)];rfl
def M4:List En:=[enK A9,enF Lu,enK Ar,enK EE,enK NW]
def Sw:NT:=[((264,23),{keep:=[1,2,4,5],hl:=6})]
def zW:Ctx:=CX (ens M4) Sw
def j8(x:Bool×List Int)(b4_0:Bool)(b4_1:List Int):Cfg:=⟨264,[.blk 0],[(1,.box 0 0),(2,.box 1 0),(4,.box 4 0),(5,.box 5 0)],[.box 29 [SB x.1,.d aix x.2],.box 29 [SB false,.nil],.gone,.row 200 aiz ([1]),.box 29 [SB b4_0,.d aix b4_1],.box 29 [SB ((ai (2:Int)).1),.d aix ((ai (2:Int)).2)]],0,[]⟩
def A7(x:Bool×List Int)(k:KT):OLR:=match x.1 with|true=>some [RV.d y2Y (false,[]),RV.d aiy 7]|false=>(match(x.2.length:Int)==0 with|true=>some [RV.d y2Y (false,[]),RV.d aiy 0]|false=>(og (decide ((0:Int)<=i64.wrap (Int.tdiv (i64.wrap ((x.2.length:Int)+1)) 2)/\(i64.wrap (Int.tdiv (i64.wrap ((x.2.length:Int)+1)) 2))*((4:Nat):Int)<=140737488355328/\i64.wrap (Int.tdiv (i64.wrap ((x.2.length:Int)+1)) 2)<=140737488355328)) (og (decide (((List.replicate (i64.wrap (Int.tdiv (i64.wrap ((x.2.length:Int)+1)) 2)).toNat (0:Int)).length+([1]).length)*4<=140737488355328/\(List.replicate (i64.wrap (Int.tdiv (i64.wrap ((x.2.length:Int)+1)) 2)).toNat (0:Int)).length+([1]).length<=140737488355328)) (og (decide (a9 (2:Int))) (k 23 (j8 x false ((List.replicate (i64.wrap (Int.tdiv (i64.wrap ((x.2.length:Int)+1)) 2)).toNat (0:Int))++([1]))))))))
theorem FJ(x:Bool×List Int):RS zW 264 [.d y2Y x] (A7 x):=rsX
def qN(x:Bool×List Int)(b4_0:Bool)(b4_1:List Int)(k:KT):OLR:=og (decide (eZ x (b4_0,b4_1))) (cS (og (decide (okI (b4_0,b4_1)/\okI (ai (ae x/ae (b4_0,b4_1))))) (cS (og (decide (eZ (ai (ae (b4_0,b4_1)+ae (ai (ae x/ae (b4_0,b4_1))))) (ai (2:Int)))) (dup (.b .l .l) (og (decide (okI (ai (ae (ai (ae (b4_0,b4_1)+ae (ai (ae x/ae (b4_0,b4_1)))))/ae (ai (2:Int))))/\okI (b4_0,b4_1))) (match decide ((cq (ae (ai (ae (ai (ae (b4_0,b4_1)+ae (ai (ae x/ae (b4_0,b4_1)))))/ae (ai (2:Int))))) (ae (b4_0,b4_1)))>=0)with|true=>some [RV.d y2Y (b4_0,b4_1),RV.d aiy 0]|false=>k 23 (j8 x ((ai (ae (ai (ae (b4_0,b4_1)+ae (ai (ae x/ae (b4_0,b4_1)))))/ae (ai (2:Int)))).1) ((ai (ae (ai (ae (b4_0,b4_1)+ae (ai (ae x/ae (b4_0,b4_1)))))/ae (ai (2:Int)))).2)))))) (dup (.b (.b .l .l) (.b .l .l)) (og (decide (eZ (ai (ae (b4_0,b4_1)+ae (ai (ae x/ae (b4_0,b4_1))))) (ai (2:Int)))) (og (decide (okI (ai (ae (ai (ae (b4_0,b4_1)+ae (ai (ae x/ae (b4_0,b4_1)))))/ae (ai (2:Int))))/\okI (b4_0,b4_1))) (match decide ((cq (ae (ai (ae (ai (ae (b4_0,b4_1)+ae (ai (ae x/ae (b4_0,b4_1)))))/ae (ai (2:Int))))) (ae (b4_0,b4_1)))>=0)with|true=>some [RV.d y2Y (b4_0,b4_1),RV.d aiy 0]|false=>k 23 (j8 x ((ai (ae (ai (ae (b4_0,b4_1)+ae (ai (ae x/ae (b4_0,b4_1)))))/ae (ai (2:Int)))).1) ((ai (ae (ai (ae (b4_0,b4_1)+ae (ai (ae x/ae (b4_0,b4_1)))))/ae (ai (2:Int)))).2)))))))) (dup (.b .l .l) (cS (og (decide (okI (b4_0,b4_1)/\okI (ai (ae x/ae (b4_0,b4_1))))) (dup (.b .l .l) (og (decide (eZ (ai (ae (b4_0,b4_1)+ae (ai (ae x/ae (b4_0,b4_1))))) (ai (2:Int)))) (og (decide (okI (ai (ae (ai (ae (b4_0,b4_1)+ae (ai (ae x/ae (b4_0,b4_1)))))/ae (ai (2:Int))))/\okI (b4_0,b4_1))) (match decide ((cq (ae (ai (ae (ai (ae (b4_0,b4_1)+ae (ai (ae x/ae (b4_0,b4_1)))))/ae (ai (2:Int))))) (ae (b4_0,b4_1)))>=0)with|true=>some [RV.d y2Y (b4_0,b4_1),RV.d aiy 0]|false=>k 23 (j8 x ((ai (ae (ai (ae (b4_0,b4_1)+ae (ai (ae x/ae (b4_0,b4_1)))))/ae (ai (2:Int)))).1) ((ai (ae (ai (ae (b4_0,b4_1)+ae (ai (ae x/ae (b4_0,b4_1)))))/ae (ai (2:Int)))).2))))))) (og (decide (okI (b4_0,b4_1)/\okI (ai (ae x/ae (b4_0,b4_1))))) (og (decide (eZ (ai (ae (b4_0,b4_1)+ae (ai (ae x/ae (b4_0,b4_1))))) (ai (2:Int)))) (og (decide (okI (ai (ae (ai (ae (b4_0,b4_1)+ae (ai (ae x/ae (b4_0,b4_1)))))/ae (ai (2:Int))))/\okI (b4_0,b4_1))) (match decide ((cq (ae (ai (ae (ai (ae (b4_0,b4_1)+ae (ai (ae x/ae (b4_0,b4_1)))))/ae (ai (2:Int))))) (ae (b4_0,b4_1)))>=0)with|true=>some [RV.d y2Y (b4_0,b4_1),RV.d aiy 0]|false=>k 23 (j8 x ((ai (ae (ai (ae (b4_0,b4_1)+ae (ai (ae x/ae (b4_0,b4_1)))))/ae (ai (2:Int)))).1) ((ai (ae (ai (ae (b4_0,b4_1)+ae (ai (ae x/ae (b4_0,b4_1)))))/ae (ai (2:Int)))).2)))))))))
theorem w7(x:Bool×List Int)(b4_0:Bool)(b4_1:List Int):RN zW 23 (j8 x b4_0 b4_1) (qN x b4_0 b4_1):=rnX
theorem IC(x:BI)(hx:okI x)(h0:0<ae x):∀(m:Nat) (X:Int),X.toNat=m->0<X->bJ (ae x)<=X->szI X<=900000->zW.Runs 23 (j8 x (ai X).1 (ai X).2) [.d y2Y (ai (bJ (ae x))),.d aiy 0]:=by
 intro m;induction m using Nat.strongRecOn with
 |ind m ih=>
  intro X hm hX hs hsz;obtain⟨g0,g1,g2⟩:=fK (af0 h0);have hq0:0<=ae x/X:=agp (by omega) (by omega);have hq1:ae x/X<=ae x:=ahg _ (by omega);have oX:okI (ai X):=aR (by omega);have sq:szI (ae x/X)<=1000000:=afA (dg (by omega)) (ir hx);have p1:eZ x (ai X):=⟨hx,oX,by rw[dec_enc];exact hX⟩
  have ssum:szI (X+ae x/X)<=1000000:=by
   have b1:=mC hsz;have b2:=mC (ir hx);have e:pw 1000000=pw 900000*pw 100000:=by rw[<-fe]
   have p9:(1000:Int)<=pw 100000:=by
    have:pw 100000=pw 99999*1000000000:=ce 99999;have:=co 99999;omega
   have p8:=co 900000;have h8:pw 900000*1000<=pw 900000*pw 100000:=afu p9 (by omega);rcases afT X 2 with hX1|hX1
   ·-- X=1:then the number is less than 4
    have:X=1:=by omega
    subst this;have:bJ (ae x)<=1:=hs
    have h4:ae x<4:=by
     have:=sh (a:=bJ (ae x)+1) (b:=2) (by omega) (by omega);omega
    refine eV ?_ ?_<;>(rw[e,Int.ediv_one];omega)
   ·have hq2:ae x/X<=ae x/2:=by
     have:=Int.ediv_mul_le (ae x) (show X≠0 by omega);have h2:ae x/X*2<=ae x/X*X:=afu hX1 hq0;omega
    refine eV ?_ ?_<;>(rw[e]at b2 ⊢;omega)
  have o1:okI (ai X)/\okI (ai (ae x/X)):=⟨oX,aR sq⟩
  have p2:eZ (ai (X+ae x/X)) (ai 2):=⟨aR ssum,by decide,by rw[dec_enc];decide⟩
  have hn:=OU hX g0 g1;have o2:okI (ai ((X+ae x/X)/2))/\okI (ai X):=⟨aR (afA (dg (by omega)) ssum),oX⟩
  by_cases hc:X<=(X+ae x/X)/2
  ·have hXs:=xY hX hs g1 g2 g0 hc;refine w7 _ _ _ ⟨0,?_⟩;unfold qN;simp only[cM,dV];have e:∀z:Int,((ai z).1,(ai z).2)=ai z:=λz=>rfl;simp only[e,dec_enc,afm p1,afm o1,afm p2,afm o2]
   have hg:decide (cq ((X+ae x/X)/2) X>=0)=true:=by
    rcases Int.lt_or_eq_of_le hc with h|h
    ·rw[cH h];rfl
    ·rw[<-h,dO];rfl
   rw[hg,hXs]
  ·obtain⟨n,hN⟩:=ih ((X+ae x/X)/2).toNat (by omega) ((X+ae x/X)/2) rfl (by
    rcases afT 0 (bJ (ae x))with h|h
    ·omega
    ·exfalso;have:bJ (ae x)=0:=by omega
     rw[this]at g2;omega) hn (afA (dg (by omega)) hsz)
   refine w7 _ _ _ ⟨n,?_⟩;unfold qN;simp only[cM,dV];have e:∀z:Int,((ai z).1,(ai z).2)=ai z:=λz=>rfl;simp only[e,dec_enc,afm p1,afm o1,afm p2,afm o2];rw[cW (by omega)];exact hN
def Xa:Cn 264 [y2Y]:=cn λ(x:Bool×List Int)=>lf (okI x) [.d y2Y (fJ x),.d aiy (uR x)] λh=>by
 refine dm M4 (show zW.Res _ _ _ from ?_);obtain⟨x0,x1,x2⟩:=cC h;have hl:=h.2.2;cases hn:x.1
 ·by_cases hz:x.2=[]
  ·refine FJ _ ⟨0,?_⟩;unfold A7 fJ uR;have:ae x=0:=by unfold ae;rw[hn,hz];rfl
   rw[hn,hz,this];rfl
  ·have hp:0<val x.2:=eo h.1 hz;have hd:ae x=val x.2:=by unfold ae;rw[hn];rfl
   have hlen:=af4.2 hz
   have hk:i64.wrap (Int.tdiv (i64.wrap ((x.2.length:Int)+1)) 2)=(((x.2.length+1)/2:Nat):Int):=by
    rw[bH (by omega),gR (by omega),aM (by omega) (by omega)];omega
   have hv:val (List.replicate ((x.2.length+1)/2) 0++[1])=pw ((x.2.length+1)/2):=by
    rw[dh,gC,ahS];simp[val]
   have hL:aO (List.replicate ((x.2.length+1)/2) 0++[1]):=by
    refine⟨λy hy=>?_,by simp;omega⟩;rcases afL.1 hy with hy|hy
    ·have:=List.eq_of_mem_replicate hy;omega
    ·simp at hy;omega
   have hpos:=co ((x.2.length+1)/2)
   obtain⟨n,hN⟩:=IC x h (by omega) _ (pw ((x.2.length+1)/2)) rfl hpos (by
     obtain⟨g0,g1,g2⟩:=fK (show 0<=ae x by omega);have hlt:=b8 h.1.1;have hm:=c8 (show x.2.length<=(x.2.length+1)/2+(x.2.length+1)/2 by omega);rw[fe]at hm;have:=sq_lt (a:=bJ (ae x)) (b:=pw ((x.2.length+1)/2)) (by omega) (by omega)
     omega) (eV (k:=900000) (by have:=co 900000;omega) (by
      have:=c8 (show(x.2.length+1)/2+1<=900000 by omega);rw[ce]at this;omega))
   refine FJ _ ⟨n,?_⟩;unfold A7 fJ uR;simp only[hk];rw[hn,show((x.2.length:Int)==0)=false by simp;omega];simp only[ahm];rw[afm (show(0:Int)<=(((x.2.length+1)/2:Nat):Int)/\(((x.2.length+1)/2:Nat):Int)*((4:Nat):Int)<=140737488355328/\(((x.2.length+1)/2:Nat):Int)<=140737488355328 by omega)];rw[afm (show((List.replicate ((x.2.length+1)/2) (0:Int)).length+([1]:List Nat).length)*4<=140737488355328/\(List.replicate ((x.2.length+1)/2) (0:Int)).length+([1]:List Nat).length<=140737488355328 by simp;omega)];rw[afm (show a9 2 by decide)]
   have he:ai (pw ((x.2.length+1)/2))=(false,List.replicate ((x.2.length+1)/2) 0++[1]):=by
    have ho:okI ((false,List.replicate ((x.2.length+1)/2) 0++[1]):BI):=⟨⟨hL.1,by simp⟩,(λe=>by cases e),(by simp;omega)⟩
    rw[ic ho];congr 1;exact hv.symm
   rw[he]at hN;exact hN
 ·refine FJ _ ⟨0,?_⟩;unfold A7 fJ uR;rw[hn];rfl
def acS:List En:=enF xR::M4
def Px(x y:Bool×List Int)(_k:KT):OLR:=match x.1==y.1 with|true=>(og (decide (qi x.2 y.2)) (some [RV.d .bool ((cq (val x.2) (val y.2))==0)]))|false=>some [RV.d .bool false]
def Ov:Cn 265 [y2Y,y2Y]:=cn λ(x y:Bool×List Int)=>lf (okI x/\okI y) [.d .bool (decide (ae x=ae y))] λh=>by
 refine az acS (Px x y) ⟨0,?_⟩;obtain⟨hx,hy⟩:=h;obtain⟨x0,x1,x2⟩:=cC hx;obtain⟨y0,y1,y2⟩:=cC hy;unfold Px;rw[dT (show qi x.2 y.2 from⟨⟨hx.1,by have:=hx.2.2;omega⟩,⟨hy.1,by have:=hy.2.2;omega⟩⟩)];rw[bK,bK];unfold cf;cases ex:x.1<;>cases ey:y.1<;>simp only[cond_true,cond_false]
 ·show some [RV.d .bool (cq (val x.2) (val y.2)==0)]=_;rw[mf]
 ·have:=y1 ey;rw[afo (show ¬val x.2= -val y.2 by omega)];rfl
 ·have:=x1 ex;rw[afo (show ¬ -val x.2=val y.2 by omega)];rfl
 ·show some [RV.d .bool (cq (val x.2) (val y.2)==0)]=_;rw[mf,show decide (val x.2=val y.2)=decide (-val x.2= -val y.2) from ahJ.2 (by omega)]
def fi(q:Rat):Bool:=decide (bJ q.num*bJ q.num=q.num)&&decide (bJ (q.den:Int)*bJ (q.den:Int)=(q.den:Int))
def rtQ(q:Rat):Rat:=mkRat (bJ q.num) (bJ (q.den:Int)).toNat
theorem Bu(z:Int):0<=bJ z:=by unfold bJ;omega
theorem Bf{s:Int}(h:0<=s):bJ (s*s)=s:=Su h (Int.le_refl _) (by grind)
theorem nQ{z:Int}(h:z<0):bJ z=0:=by
 unfold bJ;rw[show z.toNat=0 by omega];rfl
theorem abp{s t:Nat}(ht:0<t)(hg:(s*s).Coprime (t*t)):(mkRat (s:Int) t).num=(s:Int)/\(mkRat (s:Int) t).den=t:=by
 have hc:s.Coprime t:=Nat.Coprime.coprime_dvd_left (Nat.dvd_mul_left s s) (Nat.Coprime.coprime_dvd_right (Nat.dvd_mul_left t t) hg);rw[aij,aik,afQ (by omega),afQ (by omega),agU,show t.gcd s=1 from hc.symm];simp
theorem EB{q:Rat}(h:fi q=true):(rtQ q).num=bJ q.num/\((rtQ q).den:Int)=bJ (q.den:Int)/\rtQ q*rtQ q=q/\0<=rtQ q:=by
 unfold fi at h;simp only[afr,decide_eq_true_eq]at h;obtain⟨h1,h2⟩:=h;have hd:=q.den_pos;have hr:=q.reduced;obtain⟨s,hs⟩:=agw (Bu q.num);obtain⟨t,ht⟩:=agw (Bu (q.den:Int));unfold rtQ;rw[hs,ht,ahm];rw[hs]at h1;rw[ht]at h2;have e1:q.num.natAbs=s*s:=by rw[<-h1,<-agR,agU]
 have e2:q.den=t*t:=by rw[<-agR]at h2;omega
 have hg:(s*s).Coprime (t*t):=by rw[<-e1,<-e2];exact hr
 have tp:0<t:=Nat.pos_of_ne_zero λe=>by rw[e2,e]at hd;simp at hd
 obtain⟨g1,g2⟩:=abp tp hg;refine⟨g1,by rw[g2],?_,?_⟩
 ·rw[Rat.mkRat_mul_mkRat,<-e2,h1,Rat.mkRat_self]
 ·exact Rat.num_nonneg.1 (by rw[g1];omega)
theorem QH(r:Rat):fi (r*r)=true:=by
 have hd:=r.den_pos
 have hc:(r.den*r.den).gcd (r.num*r.num).natAbs=1:=by
  rw[aia];have:=r.reduced.symm;exact Nat.Coprime.mul_left (Nat.Coprime.mul_right this this) (Nat.Coprime.mul_right this this)
 have e1:(r*r).num=r.num*r.num:=by
  rw[Rat.mul_def',aij,hc,afQ (ahZ (by omega) (by omega))];simp
 have e2:((r*r).den:Int)=(r.den:Int)*(r.den:Int):=by
  rw[Rat.mul_def',aik,hc,afQ (ahZ (by omega) (by omega)),Nat.div_one,agR]
 unfold fi;rw[e1,e2,Bf (s:=(r.den:Int)) (by omega)];rcases afT r.num 0 with h|h
 ·rw[show r.num*r.num= -r.num* -r.num by grind,Bf (by omega)];simp
 ·rw[Bf h];simp
def rtB(q:Rat):BR:=bif fi q then ao (rtQ q)else((false,[]),(false,[]))
theorem Ab{x:BI}(h:okI x):fJ x=ai (bJ (ae x)):=by
 obtain⟨x0,x1,x2⟩:=cC h;unfold fJ;cases hx:x.1
 ·rfl
 ·have:=x1 hx;have hd:ae x= -val x.2:=by rw[bK,hx];rfl
  rw[hd,nQ (by omega)];rfl
theorem Gh{z:Int}(h:szI z<=1000000):szI (bJ z)<=500000:=by
 have h1:=mC h;have e:pw 1000000=pw 500000*pw 500000:=by rw[<-fe]
 have hp:=co 500000;rcases afT z 0 with h0|h0
 ·rw[nQ h0];exact eV (by omega) hp
 ·obtain⟨g0,g1,g2⟩:=fK h0;have:=sq_lt (a:=bJ z) (b:=pw 500000) (by omega) (by omega);exact eV (by omega) this
theorem J8(a b:Int):(ai a==ai b)=decide (a=b):=by
 by_cases h:a=b
 ·rw[h,afm rfl];simp
 ·rw[afo h,ag5];intro e;exact h (by rw[<-dec_enc a,e,dec_enc])
theorem GA{x y:BI}(hx:okI x)(hy:okI y):(x==y)=decide (ae x=ae y):=by
 rw[ic hx,ic hy,J8,dec_enc,dec_enc]
def FY:dK:=spN true true [tI,tI] (λx=>decide (okI x.1/\okI x.2.1)) (λx=>[RV.d aiy (cq (ae x.1) (ae x.2.1))])
theorem CL:SpK 163 FY:=spX λx h=>Gg x.1 x.2.1 (afp h)
def Fz:dK:=spN false true [tI,tI] (λx=>decide (okI x.1/\okI x.2.1)) (λx=>[RV.d tI (hid (ai (ae x.1*ae x.2.1)))])
theorem C2:SpK 164 Fz:=spX λx h=>by simp only[bL];exact HD x.1 x.2.1 (afp h)
def UY:List En:=[⟨163,FY,CL⟩,⟨164,Fz,C2⟩,enL UZ]
def TY(x:BI)(_k:KT):OLR:=og (decide (okI x)) (match(uR x)==0 with|true=>(og (decide (okI (hid (fJ x))/\okI (hid (fJ x)))) (og (decide (okI (hid (ai (ae (hid (fJ x))*ae (hid (fJ x)))))/\okI x)) (some [RV.d tI (hid (fJ x)),RV.d .bool ((cq (ae (hid (ai (ae (hid (fJ x))*ae (hid (fJ x)))))) (ae x))==0)])))|false=>some [RV.d tI (hid (fJ x)),RV.d .bool false])
def aaK:Cn 318 [tI]:=cn λ(x:BI)=>lf (okI x) [.d tI (ai (bJ (ae x))),.d .bool (decide (bJ (ae x)*bJ (ae x)=ae x))] λh=>by
 refine az UY (TY x) ⟨0,?_⟩;have hs:=ir h;have hz:szI (bJ (ae x))<=500000:=Gh hs;have o1:okI (ai (bJ (ae x))):=aR (by omega);have o2:okI (ai (bJ (ae x)*bJ (ae x))):=aR (by have:=cJ hz hz;omega);have o3:okI (ai (bJ (ae x)*bJ (ae x)))/\okI x:=⟨o2,h⟩
 have o4:okI (ai (bJ (ae x)))/\okI (ai (bJ (ae x))):=⟨o1,o1⟩
 have hng:x.1=true->decide (bJ (ae x)*bJ (ae x)=ae x)=false:=λe=>afo (by
  have:=(cC h).2.1 e;have hd:ae x= -val x.2:=by rw[bK,e];rfl
  rw[nQ (by omega)];omega)
 unfold TY;simp only[bL,Ab h,dec_enc,dT h,dT o4,dT o3,mf];unfold uR;cases e:x.1
 ·rfl
 ·rw[hng e];rfl
def adA:List En:=enL aaK::UY
def Vq(a:BR)(_k:KT):OLR:=og (decide (okI a.1)) (match decide (bJ (ae a.1)*bJ (ae a.1)=ae a.1)with|true=>(og (decide (okI a.2)) (match decide (bJ (ae a.2)*bJ (ae a.2)=ae a.2)with|true=>some [RV.d tR (hid (ai (bJ (ae a.1))),hid (ai (bJ (ae a.2)))),RV.d .bool true]|false=>some [RV.d tR ((false,[]),(false,[])),RV.d .bool false]))|false=>some [RV.d tR ((false,[]),(false,[])),RV.d .bool false])
def aar:Cn 282 [tR]:=cn λ(a:BR)=>lf (okR a) [.d tR (rtB (ah a)),.d .bool (fi (ah a))] λh=>by
 refine az adA (Vq a) ⟨0,?_⟩;obtain⟨a1,a2⟩:=cK h;unfold Vq rtB fi;rw[dT h.1,dT h.2.1,a1,a2];simp only[bL];cases e1:decide (bJ (ae a.1)*bJ (ae a.1)=ae a.1)
 ·rfl
 ·cases e2:decide (bJ (ae a.2)*bJ (ae a.2)=ae a.2)
  ·rfl
  ·obtain⟨r1,r2,_⟩:=EB (q:=ah a) (by unfold fi;rw[a1,a2,e1,e2];rfl);simp only[agT,cond_true];unfold ao;rw[r1,r2,a1,a2];try rfl
def Ng:List En:=[enL OO,enL Xa,enT Ov]
def MK(x:BI)(_k:KT):OLR:=og (decide (okI x)) (match(uR x)==0 with|true=>(og (decide (okI (hid (fJ x))/\okI (hid (fJ x)))) (og (decide (okI (hid (ai (ae (hid (fJ x))*ae (hid (fJ x)))))/\okI x)) (some [RV.d tI (hid (fJ x)),RV.d .bool (decide (ae (hid (ai (ae (hid (fJ x))*ae (hid (fJ x)))))=ae x))])))|false=>some [RV.d tI (hid (fJ x)),RV.d .bool false])
def WN:Cn 179 [tI]:=cn λ(x:BI)=>lf (okI x) [.d tI (ai (bJ (ae x))),.d .bool (decide (bJ (ae x)*bJ (ae x)=ae x))] λh=>by
 refine az Ng (MK x) ⟨0,?_⟩;have hs:=ir h;have hz:szI (bJ (ae x))<=500000:=Gh hs;have o1:okI (ai (bJ (ae x))):=aR (by omega);have o2:okI (ai (bJ (ae x)*bJ (ae x))):=aR (by have:=cJ hz hz;omega);have o3:okI (ai (bJ (ae x)*bJ (ae x)))/\okI x:=⟨o2,h⟩
 have o4:okI (ai (bJ (ae x)))/\okI (ai (bJ (ae x))):=⟨o1,o1⟩
 have hng:x.1=true->decide (bJ (ae x)*bJ (ae x)=ae x)=false:=λe=>afo (by
  have:=(cC h).2.1 e;have hd:ae x= -val x.2:=by rw[bK,e];rfl
  rw[nQ (by omega)];omega)
 unfold MK;simp only[bL,Ab h,dec_enc,dT h,dT o4,dT o3];unfold uR;cases e:x.1
 ·rfl
 ·rw[hng e];rfl
def Wo:List En:=enL WN::Ng
def OK(a:BR)(_k:KT):OLR:=og (decide (okI a.1)) (og (decide (okI a.2)) (match !(decide (bJ (ae a.1)*bJ (ae a.1)=ae a.1))with|true=>some [RV.d tR ((false,[]),(false,[])),RV.d .bool false]|false=>(match !(decide (bJ (ae a.2)*bJ (ae a.2)=ae a.2))with|true=>some [RV.d tR ((false,[]),(false,[])),RV.d .bool false]|false=>some [RV.d tR (hid (ai (bJ (ae a.1))),hid (ai (bJ (ae a.2)))),RV.d .bool true])))
def F3:Cn 81 [tR]:=cn λ(a:BR)=>lf (okR a) [.d tR (rtB (ah a)),.d .bool (fi (ah a))] λh=>by
 refine az Wo (OK a) ⟨0,?_⟩;obtain⟨a1,a2⟩:=cK h;unfold OK rtB fi;rw[dT h.1,dT h.2.1,a1,a2];simp only[bL];cases e1:decide (bJ (ae a.1)*bJ (ae a.1)=ae a.1)
 ·rfl
 ·cases e2:decide (bJ (ae a.2)*bJ (ae a.2)=ae a.2)
  ·rfl
  ·obtain⟨r1,r2,_⟩:=EB (q:=ah a) (by unfold fi;rw[a1,a2,e1,e2];rfl);simp only[agT,cond_true];unfold ao;rw[r1,r2,a1,a2];try rfl
def J3:dK:=spN false true [tI,tI] (λx=>decide (eZ x.1 x.2.1)) (λx=>[RV.d tI (hid (ai (ae x.1/ae x.2.1))),RV.d tI (hid (ai (ae x.1%ae x.2.1))),RV.d aiy 0])
theorem Ka:SpK 302 J3:=spX λx h=>by simp only[bL];exact Gj x.1 x.2.1 (afp h)
def ZB:List En:=[⟨302,J3,Ka⟩]
def Tq(a:BR)(_k:KT):OLR:=og (decide (eZ a.1 a.2)) (some [RV.d tI (hid (ai (ae a.1/ae a.2)))])
def OS:Cn 327 [tR]:=cn λ(a:BR)=>lf (okR a) [.d tI (ai (ah a).floor)] λh=>by
 refine az ZB (Tq a) ⟨0,?_⟩;obtain⟨a1,a2⟩:=cK h;unfold Tq;rw[dT (show eZ a.1 a.2 from⟨h.1,h.2.1,h.2.2.1⟩),Rat.floor_def,a1,a2];simp only[bL]
def Vm:List En:=[enK xK]
def P3:NT:=[((278,6),{keep:=[1,3],hl:=1})]
def AY:Ctx:=CX (ens Vm) P3
def vf(x:BI)(s3:Int):Cfg:=⟨278,[.blk 0,.seq 23],[(1,.box 0 0),(3,SI s3)],[.box 29 [SB x.1,.d aix x.2]],0,[]⟩
def Y7(x:BI)(k:KT):OLR:=k 6 (vf x 0)
theorem Wb(x:BI):RS AY 278 [.d tI x] (Y7 x):=rsX
def sY(x:BI)(s3:Int)(k:KT):OLR:=match decide (s3<(x.2.length:Int))with|true=>(match aG x.2 s3 with|some x1=>(match decide (x1>=1000000000)with|true=>some [RV.d .bool false]|false=>k 6 (vf x (i64.wrap (s3+1))))|none=>none)|false=>(og (decide (aO x.2)) (match((ag (val x.2).toNat).length:Int)==(x.2.length:Int)with|true=>(match !x.1 with|true=>some [RV.d .bool true]|false=>some [RV.d .bool (decide ((x.2.length:Int)>0))])|false=>some [RV.d .bool false]))
theorem yZ(x:BI)(s3:Int):RN AY 6 (vf x s3) (sY x s3):=rnX
theorem Io(x:BI)(h:okI x):∀(j i:Nat),i+j=x.2.length->AY.Runs 6 (vf x (i:Int)) [.d .bool true]:=by
 obtain⟨x0,x1,x2⟩:=cC h;have hlim:=fT h;have hl:=h.2.2;intro j;induction j with
 |zero=>
  intro i hi;refine yZ _ _ ⟨0,?_⟩;unfold sY;have hc:ag (val x.2).toNat=x.2:=(nJ h.1).symm;rw[bO (by omega),dT hlim,hc,beq_self_eq_true];dsimp only;cases e:x.1
  ·rfl
  ·have:=x1 e;have:x.2≠[]:=λe=>by rw[x2]at e;omega
   have:=af4.2 this;rw[afm (by omega)];rfl
 |succ j ih=>
  intro i hi;have hil:i<x.2.length:=by omega
  obtain⟨q,hq⟩:=ih (i+1) (by omega);refine yZ _ _ ⟨q,?_⟩;unfold sY;have hb:=(hlim.1 x.2[i] (afU hil)).2;rw[aY hil,am,afn hil,bH (by omega)];dsimp only;rw[afo (by omega)];exact hq
def Za:Cn 278 [tI]:=cn λ(x:BI)=>lf (okI x) [.d .bool true] λh=>by
 refine dm Vm (show AY.Res _ _ _ from ?_);obtain⟨q,hq⟩:=Io x h x.2.length 0 (by omega);exact Wb _ ⟨q,hq⟩
def abS:List En:=[enT Ov,enT Za,enT Pd,enL Ni,enL MY]
def Pq(a:BR)(_k:KT):OLR:=og (decide (okI a.1)) (og (decide (okI a.2)) (og (decide (okI a.2)) (match(cq (ae a.2) 0) !=1 with|true=>some [RV.d .bool false]|false=>(og (decide (okI a.1/\okI a.2)) (og (decide (okI (hid (ai ((Int.gcd (ae a.1) (ae a.2):Nat):Int)))/\okI (hid (ai 1)))) (some [RV.d .bool (decide (ae (hid (ai ((Int.gcd (ae a.1) (ae a.2):Nat):Int)))=ae (hid (ai 1))))]))))))
def JC:Cn 204 [tR]:=cn λ(a:BR)=>lf (okR a) [.d .bool true] λh=>by
 refine az abS (Pq a) ⟨0,?_⟩;obtain⟨h1,h2,h3,h4,_⟩:=h;have o1:okI (ai ((Int.gcd (ae a.1) (ae a.2):Nat):Int)):=by rw[h4];exact ph
 unfold Pq;simp only[bL];rw[dT h1,dT h2,dT (show okI a.1/\okI a.2 from⟨h1,h2⟩),cH h3,dT (show okI (ai ((Int.gcd (ae a.1) (ae a.2):Nat):Int))/\okI (ai 1) from⟨o1,ph⟩),dec_enc,dec_enc,h4];rfl
def mkR(a b c:Rat):Rt:=bif fi c then(a+b*rtQ c,0,0)else bif decide (b=0)then(a,0,0)else(a,b,c)
def coR(a b c:Rat):Rt:=bif decide (b=0)then(a,0,0)else(a,b,c)
class Nn (c:Rat):Prop where le:0<=c
def QC(x:Rt):Prop:=(x.2.1=0/\x.2.2=0)\/(x.2.1≠0/\0<x.2.2/\fi x.2.2=false)
instance (x:Rt):Decidable (QC x):=by unfold QC;infer_instance
class Rdd (x:Rt):Prop where
 rd:QC x
def okT(k:Nat)(x:BO3):Prop:=ok Rt k x/\QC (dec x)
instance (k:Nat) (x:BO3):Decidable (okT k x):=by unfold okT;infer_instance
theorem kv{k:Nat}{x:BO3}(h:okT k x):∃v:Rt,x=enc v/\Bd v k/\Rdd v:=by
 obtain⟨h1,h2⟩:=h;obtain⟨v,rfl,bv⟩:=aH h1;rw[aB]at h2;exact⟨v,rfl,bv,⟨h2⟩⟩
theorem aP{x:Rt}{j k:Nat}[h:Bd x j][r:Rdd x](hj:j<=k)(hk:k<=480000):decide (okT k (enc x))=true:=afm ⟨afp (okd hj hk),by rw[aB];exact r.rd⟩
theorem Rdd.nn{x:Rt}(h:Rdd x):0<=x.2.2:=by
 rcases h.rd with h|h<;>grind
instance ae2 {x:Rt} [h:Rdd x]:Nn x.2.2:=⟨h.nn⟩
theorem xV:fi 0=true:=by decide+kernel
theorem Ie{c:Rat}(h:0<=c)(hc:fi c=false):0<c:=by
 rcases(by grind:c=0\/0<c)with h|h
 ·rw[h,xV]at hc;cases hc
 ·exact h
instance J1 {a b c:Rat} [h:Nn c]:Rdd (mkR a b c):=by
 refine⟨?_⟩;unfold mkR;cases hc:fi c
 ·simp only[cond_false];by_cases hb:b=0
  ·rw[afm hb];exact .inl ⟨rfl,rfl⟩
  ·rw[afo hb];exact .inr ⟨hb,Ie h.le hc,hc⟩
 ·exact .inl ⟨rfl,rfl⟩
instance aeG {a:Rat}:Rdd (a,0,0):=⟨.inl ⟨rfl,rfl⟩⟩
namespace RE
theorem NV{c:Rat}(h:fi c=true):rq c=of (rtQ c):=by
 obtain⟨_,_,e,h0⟩:=EB h;refine SP _ _ (OV c) (nt.2 h0) ?_;rw[pZ (by rw[<-e];exact af6 h0 h0),<-bS,e]
theorem d9(a c:Rat):v2 a 0 c=of a:=by
 unfold v2;rw[vw,zero_mul,add_zero]
theorem vR_mk(a b c:Rat):vR (mkR a b c)=v2 a b c:=by
 unfold mkR vR;cases hc:fi c
 ·simp only[cond_false];by_cases hb:b=0
  ·rw[afm hb];subst hb;show v2 a 0 0=_;rw[d9,d9]
  ·rw[afo hb];rfl
 ·show v2 (a+b*rtQ c) 0 0=_;rw[d9];unfold v2;rw[NV hc,of_add,bS]
theorem vR_co(a b c:Rat):vR (coR a b c)=v2 a b c:=by
 unfold coR vR;by_cases hb:b=0
 ·rw[afm hb];subst hb;show v2 a 0 0=_;rw[d9,d9]
 ·rw[afo hb];rfl
end RE
theorem PY{z:Int}(h:0<=z):bJ z<=z:=by
 obtain⟨g0,g1,g2⟩:=fK h;rcases afT (bJ z) 1 with h'|h'
 ·omega
 ·have:bJ z*1<=bJ z*bJ z:=afu h' g0;omega
theorem Dt(z:Int):szI (bJ z)<=szI z:=by
 have h0:=Bu z;rcases afT z 0 with h|h
 ·rw[nQ h];exact dg (by omega)
 ·have:=PY h;exact dg (by omega)
instance ae4 {c:Rat} {k:Nat} [h:Bd c k]:Bd (rtQ c) k:=by
 have hd:=c.den_pos
 have h1:0<bJ (c.den:Int):=by
  obtain⟨g0,g1,g2⟩:=fK (show(0:Int)<=(c.den:Int) by omega);rcases afT 0 (bJ (c.den:Int))with h|h
  ·exact h
  ·rw[show bJ (c.den:Int)=0 by omega]at g2;omega
 refine⟨uw (by omega) (afA (Dt _) h.le.1) ?_⟩;rw[Int.toNat_of_nonneg (by omega)];exact afA (Dt _) h.le.2
instance aeL {a b c:Rat} {i j k:Nat} [ha:Bd a i] [hb:Bd b j] [hc:Bd c k]:Bd (mkR a b c) (i+(j+k)+1):=by
 have z:bdR (i+(j+k)+1) 0:=cj rB.le (by omega);refine⟨?_⟩;unfold mkR;cases fi c
 ·simp only[cond_false];cases decide (b=0)
  ·exact⟨cj ha.le (by omega),cj hb.le (by omega),cj hc.le (by omega)⟩
  ·exact⟨cj ha.le (by omega),z,z⟩
 ·exact⟨(inferInstance:Bd (a+b*rtQ c) (i+(j+k)+1)).le,z,z⟩
instance aeM {a b c:Rat} {i j k:Nat} [ha:Bd a i] [hb:Bd b j] [hc:Bd c k]:Bd (coR a b c) (mx i (mx j k)):=by
 have h1:=FV i (mx j k);have h2:=EG i (mx j k);have h3:=FV j k;have h4:=EG j k;have h5:=ri ha.le;have z:bdR (mx i (mx j k)) 0:=cj rB.le (by omega);refine⟨?_⟩;unfold coR;cases decide (b=0)
 ·exact⟨cj ha.le (by omega),cj hb.le (by omega),cj hc.le (by omega)⟩
 ·exact⟨cj ha.le (by omega),z,z⟩
class Ns (c:Rat):Prop where ns:c=0\/(0<c/\fi c=false)
theorem Ns.nn{c:Rat}(h:Ns c):0<=c:=by rcases h.ns with h|h<;>grind
instance ae7 {c:Rat} [h:Ns c]:Nn c:=⟨h.nn⟩
def sgR(x:Rt):Int:=gn x.1 x.2.1 x.2.2
def noR(x:Rt):Rat:=x.1*x.1-x.2.1*x.2.1*x.2.2
theorem NM{x:Rt}(h:0<=x.2.2):sgR x=RE.sg (RE.vR x):=RE.sgn2_re h
def l7(a b c:Rat):Rt:=bif decide (b=0)then(a,0,0)else bif decide (c=0)then(a,0,0)else(a,b,c)
instance aeC {x:Rt} {k:Nat} [h:Bd x k]:Bd (noR x) (5*k+1):=(inferInstance:Bd (x.1*x.1-x.2.1*x.2.1*x.2.2) (k+k+(k+k+k)+1)).mono (by omega)
theorem N9{c:Rat}(h:fi c=true):rtB c=ao (rtQ c):=by unfold rtB;rw[h];rfl
theorem Wz{x:Rt}(h:Rdd x)(hb:x.2.1≠0):noR x≠0:=by
 intro e;rcases h.rd with h|⟨_,h1,h2⟩
 ·exact hb h.1
 ·unfold noR at e;have:x.2.2=x.1/x.2.1*(x.1/x.2.1):=by grind
  rw[this,QH]at h2;cases h2
theorem ZW{x:Rt}(h:Rdd x):sgR x=bif aE x.2.1 0==0 then aE x.1 0 else bif aE x.1 0==aE x.2.1 0 then aE x.1 0 else bif aE x.1 0==0 then aE x.2.1 0 else aE x.1 0*aE (noR x) 0:=by
 unfold sgR gn RE.addS;rcases h.rd with⟨h1,h2⟩|⟨h0,h1,h2⟩
 ·rw[h1,dP];simp
 ·have hb:(aE x.2.1 0==0)=false:=by rw[aq,afo h0]
  rw[dq h1,ahX,hb];unfold noR;rw[wa];rfl
def VI:List En:=[⟨125,ju,fq⟩,⟨132,mA,jk⟩,⟨65,kp,gu⟩,⟨67,jC,fI⟩,⟨54,jA,fH⟩,enL aar]
def T2(_k:KT):OLR:=og (decide (a9 (0:Int))) (some [RV.d tR (hid (ao ((0:Int):Rat)))])
def adw:Cn 286 []:=cn<|lf True [.d tR (ao 0)] λ_=>by
 refine az VI (T2) ⟨0,?_⟩;unfold T2;rw[dT (show a9 0 by decide)];simp only[bL];rfl
def Nu:List En:=enL adw::VI
def S8(a:BR)(_k:KT):OLR:=some [RV.d tO (a,(hid (ao 0),hid (ao 0)))]
def G6:Cn 221 [tR]:=cn λ(a:BR)=>lf (okR a) [.d tO (enc ((ah a,0,0):Rt))] λh=>by
 refine az Nu (S8 a) ⟨0,?_⟩;have ha:=h;obtain⟨a,rfl,ba⟩:=eL ha;unfold S8;simp only[aW,aD];try rfl
def Vp(a b c:BR)(_k:KT):OLR:=og (o1 b) (match(aE (ah b) 0)==0 with|true=>some [RV.d tO (a,(b,hid (ao 0)))]|false=>some [RV.d tO (a,(b,c))])
def adL:Cn 285 [tR,tR,tR]:=cn λ(a b c:BR)=>lf (okR a/\okR b/\okR c) [.d tO (enc (coR (ah a) (ah b) (ah c)))] λh=>by
 refine az Nu (Vp a b c) ⟨0,?_⟩;obtain⟨ha,hb,hc⟩:=h;obtain⟨a,rfl,ba⟩:=eL ha;obtain⟨b,rfl,bb⟩:=eL hb;obtain⟨c,rfl,bc⟩:=eL hc;unfold Vp;simp only[aW,Nat.reduceLeDiff,aq];unfold coR;by_cases e:b=0
 ·subst e;rw[afm rfl];rfl
 ·rw[afo e];rfl
def adf:List En:=enL G6::enL adL::Nu
def Uz(a b c:BR)(_k:KT):OLR:=og (o1 c) (match decide ((aE (ah c) 0)<0)with|true=>some [RV.d tO (((false,[]),(false,[])),(((false,[]),(false,[])),((false,[]),(false,[])))),RV.d aiy 7]|false=>(og (o1 c) (match fi (ah c)with|true=>(og (o2 b (hid (rtB (ah c)))) (og (o2 a (hMu b (hid (rtB (ah c))))) (og (o1 (hAd a (hMu b (hid (rtB (ah c)))))) (some [RV.d tO (hid (enc ((ah (hAd a (hMu b (hid (rtB (ah c))))),0,0):Rt))),RV.d aiy 0]))))|false=>(og (decide (okR a/\okR b/\okR c)) (some [RV.d tO (hid (enc (coR (ah a) (ah b) (ah c)))),RV.d aiy 0])))))
def adH:Cn 220 [tR,tR,tR]:=cn λ(a b c:BR)=>lf (ok Rat 100000 a/\ok Rat 100000 b/\ok Rat 100000 c/\0<=ah c) [.d tO (enc (mkR (ah a) (ah b) (ah c))),.d aiy 0] λh=>by
 refine az adf (Uz a b c) ⟨0,?_⟩;obtain⟨ha,hb,hc,hc_3⟩:=h;obtain⟨a,rfl,ba⟩:=aH ha;obtain⟨b,rfl,bb⟩:=aH hb;obtain⟨c,rfl,bc⟩:=aH hc;rw[ng,fB]at hc_3;unfold Uz;simp only[aW,aD,Nat.reduceLeDiff,au,afo (show ¬c<0 by grind)];unfold mkR;cases hq:fi c
 ·have hz:c≠0:=λe=>by rw[e,xV]at hq;cases hq
  simp only[aW];try rfl
 ·rw[N9 hq];simp only[aW,aD,Nat.reduceAdd,Nat.reduceLeDiff];try rfl
def JQ:List En:=[enL qx,enL re,enL uo,enL qr,enT nh,enL F3,enT JC]
def Lk(_k:KT):OLR:=og (decide (a9 (0:Int))) (some [RV.d tR (hid (ao ((0:Int):Rat)))])
def Ks:Cn 180 []:=cn<|lf True [.d tR (ao 0)] λ_=>by
 refine az JQ (Lk) ⟨0,?_⟩;unfold Lk;rw[dT (show a9 0 by decide)];simp only[bL];rfl
def OR:List En:=enL Ks::JQ
def Ly(a:BR)(_k:KT):OLR:=some [RV.d tO (a,(hid (ao 0),hid (ao 0)))]
def Ou:Cn 82 [tR]:=cn λ(a:BR)=>lf (okR a) [.d tO (enc ((ah a,0,0):Rt))] λh=>by
 refine az OR (Ly a) ⟨0,?_⟩;have ha:=h;obtain⟨a,rfl,ba⟩:=eL ha;unfold Ly;simp only[aW,aD];try rfl
def Mn:List En:=enL Ou::OR
def Jn(a b c:BR)(_k:KT):OLR:=og (o1 b) (match(aE (ah b) 0)==0 with|true=>(og (o1 a) (some [RV.d tO (hid (enc ((ah a,0,0):Rt)))]))|false=>(og (o1 c) (match(aE (ah c) 0)==0 with|true=>(og (o1 a) (some [RV.d tO (hid (enc ((ah a,0,0):Rt)))]))|false=>some [RV.d tO (a,(b,c))])))
def Kc:Cn 84 [tR,tR,tR]:=cn λ(a b c:BR)=>lf (okR a/\okR b/\okR c) [.d tO (enc (l7 (ah a) (ah b) (ah c)))] λh=>by
 refine az Mn (Jn a b c) ⟨0,?_⟩;obtain⟨ha,hb,hc⟩:=h;obtain⟨a,rfl,ba⟩:=eL ha;obtain⟨b,rfl,bb⟩:=eL hb;obtain⟨c,rfl,bc⟩:=eL hc;unfold Jn;simp only[aW,aD,Nat.reduceLeDiff,aq];unfold l7;by_cases e:b=0
 ·rw[afm e];rfl
 ·rw[afo e];by_cases e:c=0
  ·rw[afm e];rfl
  ·rw[afo e];rfl
def XO:List En:=enL Kc::Mn
def JM(a b c:BR)(_k:KT):OLR:=og (o1 c) (match decide ((aE (ah c) 0)<0)with|true=>some [RV.d tO (((false,[]),(false,[])),(((false,[]),(false,[])),((false,[]),(false,[])))),RV.d aiy 7]|false=>(og (o1 c) (match fi (ah c)with|true=>(og (o2 b (hid (rtB (ah c)))) (og (o2 a (hMu b (hid (rtB (ah c))))) (og (o1 (hAd a (hMu b (hid (rtB (ah c)))))) (some [RV.d tO (hid (enc ((ah (hAd a (hMu b (hid (rtB (ah c))))),0,0):Rt))),RV.d aiy 0]))))|false=>(og (decide (okR a/\okR b/\okR c)) (some [RV.d tO (hid (enc (l7 (ah a) (ah b) (ah c)))),RV.d aiy 0])))))
def N8:Cn 26 [tR,tR,tR]:=cn λ(a b c:BR)=>lf (ok Rat 100000 a/\ok Rat 100000 b/\ok Rat 100000 c/\0<=ah c) [.d tO (enc (mkR (ah a) (ah b) (ah c))),.d aiy 0] λh=>by
 refine az XO (JM a b c) ⟨0,?_⟩;obtain⟨ha,hb,hc,hc_3⟩:=h;obtain⟨a,rfl,ba⟩:=aH ha;obtain⟨b,rfl,bb⟩:=aH hb;obtain⟨c,rfl,bc⟩:=aH hc;rw[ng,fB]at hc_3;unfold JM;simp only[aW,aD,Nat.reduceLeDiff,au,afo (show ¬c<0 by grind)];unfold mkR;cases hq:fi c
 ·have hz:c≠0:=λe=>by rw[e,xV]at hq;cases hq
  simp only[aW,l7,afo hz];try rfl
 ·rw[N9 hq];simp only[aW,aD,Nat.reduceAdd,Nat.reduceLeDiff];try rfl
abbrev Iv:=Int×Int
def prI(i:Iv):Prop:= -2305843009213693952<=i.1/\i.1<=i.2/\i.2<=2305843009213693952
instance (i:Iv):Decidable (prI i):=by unfold prI;infer_instance
def iv0:Iv:=(0,0)
theorem fv:prI iv0:=by decide
def nG(lo hi:Int):Iv×Bool:=bif decide (lo< -2305843009213693952)then(iv0,false)else bif decide (hi>2305843009213693952)then(iv0,false)else((lo,hi),true)
theorem AS{lo hi:Int}(h:lo<=hi):prI (nG lo hi).1:=by
 unfold nG;by_cases h1:lo< -2305843009213693952
 ·rw[afm h1];exact fv
 ·rw[afo h1];by_cases h2:hi>2305843009213693952
  ·rw[afm h2];exact fv
  ·rw[afo h2];exact⟨by show _<=lo;omega,h,by show hi<=_;omega⟩
theorem AQ{lo hi:Int}(h:(nG lo hi).2=true):(nG lo hi).1=(lo,hi):=by
 unfold nG at h ⊢;by_cases h1:lo< -2305843009213693952
 ·rw[afm h1]at h;cases h
 ·rw[afo h1]at h ⊢;by_cases h2:hi>2305843009213693952
  ·rw[afm h2]at h;cases h
  ·rw[afo h2];rfl
def frF(q:Rat):Iv×Bool:=bif decide (a9 (q*65536).floor)then bif decide (a9 (-(-(q*65536)).floor))then nG (q*65536).floor (-(-(q*65536)).floor)else(iv0,false)else(iv0,false)
def dA(a b:Iv):Iv×Bool:=nG (a.1+b.1) (a.2+b.2)
def lW(a:Iv):Iv:=(-a.2,-a.1)
def scF(x y:Int):(Int×Int)×Bool:=
 bif decide (x.natAbs*y.natAbs>=1208925819614629174706176)then((0,0),false)else bif decide (x.natAbs*y.natAbs/65536>2305843009213693952)then((0,0),false)
 else bif decide (x<0)==decide (y<0)then((((x.natAbs*y.natAbs/65536:Nat):Int),(((x.natAbs*y.natAbs+65535)/65536:Nat):Int)),decide ((x.natAbs*y.natAbs+65535)/65536<=2305843009213693952))
 else((-(((x.natAbs*y.natAbs+65535)/65536:Nat):Int),-((x.natAbs*y.natAbs/65536:Nat):Int)),decide ((x.natAbs*y.natAbs+65535)/65536<=2305843009213693952))
theorem Y8{x y:Int}(h:(scF x y).2=true):(scF x y).1.1*65536<=x*y/\x*y<=(scF x y).1.2*65536/\ -2305843009213693952<=(scF x y).1.1/\(scF x y).1.2<=2305843009213693952:=by
 have ep:(((x.natAbs*y.natAbs:Nat)):Int)=(x.natAbs:Int)*(y.natAbs:Int):=agR _ _
 have hs:(decide (x<0)==decide (y<0))=true->x*y=(((x.natAbs*y.natAbs:Nat)):Int):=λe=>by
  rw[ep];by_cases hx:x<0<;>by_cases hy:y<0
  ·rw[show(x.natAbs:Int)= -x by omega,show(y.natAbs:Int)= -y by omega];grind
  ·simp[hx,hy]at e
  ·simp[hx,hy]at e
  ·rw[show(x.natAbs:Int)=x by omega,show(y.natAbs:Int)=y by omega]
 have hd:(decide (x<0)==decide (y<0))=false->x*y= -(((x.natAbs*y.natAbs:Nat)):Int):=λe=>by
  rw[ep];by_cases hx:x<0<;>by_cases hy:y<0
  ·simp[hx,hy]at e
  ·rw[show(x.natAbs:Int)= -x by omega,show(y.natAbs:Int)=y by omega];grind
  ·rw[show(x.natAbs:Int)=x by omega,show(y.natAbs:Int)= -y by omega];grind
  ·simp[hx,hy]at e
 unfold scF at h ⊢;generalize x.natAbs*y.natAbs=p at*
 by_cases h1:p>=1208925819614629174706176
 ·rw[afm h1]at h;cases h
 rw[afo h1]at h ⊢;by_cases h2:p/65536>2305843009213693952
 ·rw[afm h2]at h;cases h
 rw[afo h2]at h ⊢;cases e:(decide (x<0)==decide (y<0))<;>rw[e]at h<;>have h3:=afp h
 ·rw[hd e];show-(((p+65535)/65536:Nat):Int)*65536<=_/\_<= -((p/65536:Nat):Int)*65536/\_<= -(((p+65535)/65536:Nat):Int)/\ -((p/65536:Nat):Int)<=_;omega
 ·rw[hs e];show((p/65536:Nat):Int)*65536<=_/\_<=(((p+65535)/65536:Nat):Int)*65536/\_<=((p/65536:Nat):Int)/\(((p+65535)/65536:Nat):Int)<=_;omega
def ie(s:Iv×Bool)(x y:Int):Iv×Bool:=bif s.2&&(scF x y).2 then((if(scF x y).1.1<s.1.1 then(scF x y).1.1 else s.1.1,if(scF x y).1.2>s.1.2 then(scF x y).1.2 else s.1.2),true)else(iv0,false)
def cD(a b:Iv):Iv×Bool:=ie (ie (ie (ie ((2305843009213693952,-2305843009213693952),true) a.1 b.1) a.1 b.2) a.2 b.1) a.2 b.2
theorem ll{s:Iv×Bool}{x y:Int}(h:(ie s x y).2=true):s.2=true/\(ie s x y).1.1<=s.1.1/\s.1.2<=(ie s x y).1.2/\(ie s x y).1.1*65536<=x*y/\x*y<=(ie s x y).1.2*65536/\((-2305843009213693952<=s.1.1/\s.1.2<=2305843009213693952)-> -2305843009213693952<=(ie s x y).1.1/\(ie s x y).1.2<=2305843009213693952):=by
 unfold ie at h ⊢;cases e:(s.2&&(scF x y).2)<;>rw[e]at h
 ·cases h
 ·obtain⟨e1,e2⟩:=afz.1 e;obtain⟨g1,g2,g3,g4⟩:=Y8 e2;refine⟨e1,?_⟩;simp only[cond_true];split<;>split<;>refine⟨by omega,by omega,by omega,by omega,λh=>by omega⟩
theorem rI(a b:Iv):prI (cD a b).1:=by
 cases h:(cD a b).2
 ·unfold cD ie at h ⊢;revert h;cases((_:Iv×Bool).2&&(scF a.2 b.2).2)
  ·intro _;exact fv
  ·intro h;cases h
 ·unfold cD at h ⊢;obtain⟨h3,a3,b3,c3,d3,e3⟩:=ll h;obtain⟨h2,a2,b2,c2,d2,e2⟩:=ll h3;obtain⟨h1,a1,b1,c1,d1,e1⟩:=ll h2;obtain⟨h0,a0,b0,c0,d0,e0⟩:=ll h1;have k:=e3 (e2 (e1 (e0 (by decide))));exact⟨k.1,by omega,k.2⟩
theorem Qc{a b:Iv}(h:(cD a b).2=true):∀x y,(x=a.1\/x=a.2)->(y=b.1\/y=b.2)->(cD a b).1.1*65536<=x*y/\x*y<=(cD a b).1.2*65536:=by
 unfold cD at h ⊢;obtain⟨h3,a3,b3,c3,d3,e3⟩:=ll h;obtain⟨h2,a2,b2,c2,d2,e2⟩:=ll h3;obtain⟨h1,a1,b1,c1,d1,e1⟩:=ll h2;obtain⟨h0,a0,b0,c0,d0,e0⟩:=ll h1;intro x y hx hy;rcases hx with rfl|rfl<;>rcases hy with rfl|rfl<;>constructor<;>omega
def eg(n:Int):Int:=bJ (n*65536)
def sqF(a:Iv):Iv×Bool:=bif decide (a.2<0)then(iv0,false)else nG (eg (if 0>a.1 then 0 else a.1)) (bif decide (eg a.2*eg a.2=a.2*65536)then eg a.2 else eg a.2+1)
def sgF(a:Iv):Int×Bool:=bif decide (a.1>0)then(1,true)else bif decide (a.2<0)then(-1,true)else(0,decide (a.1=0)&&decide (a.2=0))
namespace RE
def inI(i:Iv)(x:RE):Prop:=of (i.1:Rat)<=of 65536*x/\of 65536*x<=of (i.2:Rat)
theorem Rz(a b u x y:RE)(h1:a<=u*x)(h2:b<=u*y):a+b<=u*(x+y):=by grind
theorem Rs(a b u x y:RE)(h1:u*x<=a)(h2:u*y<=b):u*(x+y)<=a+b:=by grind
theorem PF(a u x:RE)(h1:u*x<=a): -a<=u*(-x):=by grind
theorem Qq(a u x:RE)(h1:a<=u*x):u*(-x)<= -a:=by grind
theorem PR(a c U V m:RE):((m-(U*V)))+((a*c-(m)))+((V-(0))*(U-(a)))+((a-(0))*(V-(c)))=0:=by grind
theorem abB(a c U V m:RE)(h1:0<=V)(h2:0<=a)(h3:a<=U)(h4:c<=V)(h5:m<=a*c):m<=U*V:=λhg=>far (aS (aS (aS (aX hg) (aK h5)) (cz (aK h1) (aK h3))) (cz (aK h2) (aK h4))) (PR a c U V m)
theorem QT(a d U V m:RE):((m-(U*V)))+((a*d-(m)))+((V-(0))*(U-(a)))+((0-(a))*(d-(V)))=0:=by grind
theorem aai(a d U V m:RE)(h1:0<=V)(h2:a<=0)(h3:a<=U)(h4:V<=d)(h5:m<=a*d):m<=U*V:=λhg=>far (aS (aS (aS (aX hg) (aK h5)) (cz (aK h1) (aK h3))) (cz (aK h2) (aK h4))) (QT a d U V m)
theorem QG(b c U V m:RE):((m-(U*V)))+((b*c-(m)))+((0-(V))*(b-(U)))+((b-(0))*(V-(c)))=0:=by grind
theorem abn(b c U V m:RE)(h1:V<=0)(h2:0<=b)(h3:U<=b)(h4:c<=V)(h5:m<=b*c):m<=U*V:=λhg=>far (aS (aS (aS (aX hg) (aK h5)) (cz (aK h1) (aK h3))) (cz (aK h2) (aK h4))) (QG b c U V m)
theorem QZ(b d U V m:RE):((m-(U*V)))+((b*d-(m)))+((0-(V))*(b-(U)))+((0-(b))*(d-(V)))=0:=by grind
theorem abG(b d U V m:RE)(h1:V<=0)(h2:b<=0)(h3:U<=b)(h4:V<=d)(h5:m<=b*d):m<=U*V:=λhg=>far (aS (aS (aS (aX hg) (aK h5)) (cz (aK h1) (aK h3))) (cz (aK h2) (aK h4))) (QZ b d U V m)
theorem Q9(b d U V m:RE):((U*V-(m)))+((m-(b*d)))+((V-(0))*(b-(U)))+((b-(0))*(d-(V)))=0:=by grind
theorem acH(b d U V m:RE)(h1:0<=V)(h2:0<=b)(h3:U<=b)(h4:V<=d)(h5:b*d<=m):U*V<=m:=λhg=>far (aS (aS (aS (aX hg) (aK h5)) (cz (aK h1) (aK h3))) (cz (aK h2) (aK h4))) (Q9 b d U V m)
theorem So(b c U V m:RE):((U*V-(m)))+((m-(b*c)))+((V-(0))*(b-(U)))+((0-(b))*(V-(c)))=0:=by grind
theorem adS(b c U V m:RE)(h1:0<=V)(h2:b<=0)(h3:U<=b)(h4:c<=V)(h5:b*c<=m):U*V<=m:=λhg=>far (aS (aS (aS (aX hg) (aK h5)) (cz (aK h1) (aK h3))) (cz (aK h2) (aK h4))) (So b c U V m)
theorem RW(a d U V m:RE):((U*V-(m)))+((m-(a*d)))+((0-(V))*(U-(a)))+((a-(0))*(d-(V)))=0:=by grind
theorem ab0(a d U V m:RE)(h1:V<=0)(h2:0<=a)(h3:a<=U)(h4:V<=d)(h5:a*d<=m):U*V<=m:=λhg=>far (aS (aS (aS (aX hg) (aK h5)) (cz (aK h1) (aK h3))) (cz (aK h2) (aK h4))) (RW a d U V m)
theorem Q6(a c U V m:RE):((U*V-(m)))+((m-(a*c)))+((0-(V))*(U-(a)))+((0-(a))*(V-(c)))=0:=by grind
theorem ab7(a c U V m:RE)(h1:V<=0)(h2:a<=0)(h3:a<=U)(h4:c<=V)(h5:a*c<=m):U*V<=m:=λhg=>far (aS (aS (aS (aX hg) (aK h5)) (cz (aK h1) (aK h3))) (cz (aK h2) (aK h4))) (Q6 a c U V m)
theorem WM(u x y:RE):u*x*(u*y)=u*(x*y)*u:=by grind
theorem RD(a b u:RE):((u-(0))*(a-(b)))+((b*u-(a*u)))=0:=by grind
theorem Uu(a b u:RE)(h1:0<u)(h2:a*u<=b*u):a<=b:=λhg=>far (aS (mul_pos (aX h1) (aX hg)) (aK h2)) (RD a b u)
theorem nq:0<of 65536:=jF (by decide+kernel)
end RE
namespace RE
theorem lR{a b:Int}(h:a<=b):of (a:Rat)<=of (b:Rat):=nt.2 (ahK.2 h)
theorem gZ{q:Rat}(h:(frF q).2=true):inI (frF q).1 (of q):=by
 have f1:((q*65536).floor:Rat)<=q*65536:=Rat.floor_le _;have f2:((-(q*65536)).floor:Rat)<= -(q*65536):=Rat.floor_le _;unfold frF at h ⊢;cases e1:decide (a9 (q*65536).floor)
 ·rw[e1]at h;cases h
 ·cases e2:decide (a9 (-(-(q*65536)).floor))
  ·rw[e1,e2]at h;cases h
  ·rw[e1,e2]at h;simp only[cond_true]at h ⊢;rw[AQ h];refine⟨?_,?_⟩
   ·rw[<-bS];exact nt.2 (by show(((q*65536).floor:Int):Rat)<=_;grind)
   ·rw[<-bS];exact nt.2 (by show _<=((-(-(q*65536)).floor:Int):Rat);rw[ah3];grind)
theorem frF_pr(q:Rat):prI (frF q).1:=by
 have f1:((q*65536).floor:Rat)<=q*65536:=Rat.floor_le _;have f2:((-(q*65536)).floor:Rat)<= -(q*65536):=Rat.floor_le _
 have f3:(q*65536).floor<= -(-(q*65536)).floor:=by
  refine ahK.1 ?_;rw[ah3];grind
 unfold frF;cases decide (a9 (q*65536).floor)
 ·exact fv
 ·cases decide (a9 (-(-(q*65536)).floor))
  ·exact fv
  ·exact AS f3
theorem jP{a b:Iv}{x y:RE}(ha:inI a x)(hb:inI b y)(h:(dA a b).2=true):inI (dA a b).1 (x+y):=by
 unfold dA at h ⊢;rw[AQ h];refine⟨?_,?_⟩
 ·show of ((a.1+b.1:Int):Rat)<=_;rw[Rat.intCast_add,of_add];exact Rz _ _ _ _ _ ha.1 hb.1
 ·show _<=of ((a.2+b.2:Int):Rat);rw[Rat.intCast_add,of_add];exact Rs _ _ _ _ _ ha.2 hb.2
theorem addF_pr{a b:Iv}(ha:prI a)(hb:prI b):prI (dA a b).1:=AS (by have:=ha.2.1;have:=hb.2.1;omega)
theorem z6{a:Iv}{x:RE}(ha:inI a x):inI (lW a) (-x):=by
 refine⟨?_,?_⟩
 ·show of ((-a.2:Int):Rat)<=_;rw[ah3,of_neg];exact PF _ _ _ ha.2
 ·show _<=of ((-a.1:Int):Rat);rw[ah3,of_neg];exact Qq _ _ _ ha.1
theorem negF_pr{a:Iv}(ha:prI a):prI (lW a):=⟨by show _<= -a.2;have:=ha.2.2;omega,by show-a.2<= -a.1;have:=ha.2.1;omega,by show-a.1<=_;have:=ha.1;omega⟩
theorem kY{a b:Iv}{x y:RE}(ha:inI a x)(hb:inI b y)(h:(cD a b).2=true):inI (cD a b).1 (x*y):=by
 have hc:=Qc h;have c1:=hc a.1 b.1 (.inl rfl) (.inl rfl);have c2:=hc a.1 b.2 (.inl rfl) (.inr rfl);have c3:=hc a.2 b.1 (.inr rfl) (.inl rfl);have c4:=hc a.2 b.2 (.inr rfl) (.inr rfl);generalize (cD a b).1=m at*
 have up:∀{p q r:Int},p*65536<=q*r->of (p:Rat)*of 65536<=of (q:Rat)*of (r:Rat):=λ{p q r} h=>by
  have:=lR h;rw[ahq,ahq,bS,bS]at this;exact this
 have dn:∀{p q r:Int},q*r<=p*65536->of (q:Rat)*of (r:Rat)<=of (p:Rat)*of 65536:=λ{p q r} h=>by
  have:=lR h;rw[ahq,ahq,bS,bS]at this;exact this
 obtain⟨a1,a2⟩:=ha;obtain⟨b1,b2⟩:=hb
 have l:of (m.1:Rat)*of 65536<=of 65536*x*(of 65536*y):=by
  rcases lt_or_ge (of 65536*y) 0 with v|v
  ·rcases lt_or_ge (of (a.2:Rat)) 0 with s|s
   ·exact abG _ _ _ _ _ (le_of_lt v) (le_of_lt s) a2 b2 (up c4.1)
   ·exact abn _ _ _ _ _ (le_of_lt v) s a2 b1 (up c3.1)
  ·rcases lt_or_ge (of (a.1:Rat)) 0 with s|s
   ·exact aai _ _ _ _ _ v (le_of_lt s) a1 b2 (up c2.1)
   ·exact abB _ _ _ _ _ v s a1 b1 (up c1.1)
 have u:of 65536*x*(of 65536*y)<=of (m.2:Rat)*of 65536:=by
  rcases lt_or_ge (of 65536*y) 0 with v|v
  ·rcases lt_or_ge (of (a.1:Rat)) 0 with s|s
   ·exact ab7 _ _ _ _ _ (le_of_lt v) (le_of_lt s) a1 b1 (dn c1.2)
   ·exact ab0 _ _ _ _ _ (le_of_lt v) s a1 b2 (dn c2.2)
  ·rcases lt_or_ge (of (a.2:Rat)) 0 with s|s
   ·exact adS _ _ _ _ _ v (le_of_lt s) a2 b1 (dn c3.2)
   ·exact acH _ _ _ _ _ v s a2 b2 (dn c4.2)
 rw[WM]at l u;exact⟨Uu _ _ _ nq l,Uu _ _ _ nq u⟩
theorem ach(u s:RE):u*s*(u*s)=u*(s*s)*u:=by grind
theorem LS(r a u x:RE):((r-(u*x*u)))+((a*u-(r)))+((u*x-(a))*(u-(0)))=0:=by grind
theorem Yn(r a u x:RE)(h1:r<=a*u)(h2:a<=u*x)(h3:0<u):r<=u*x*u:=λhg=>far (aS (aS (aX hg) (aK h1)) (cz (aK h2) (le_of_lt (aX h3)))) (LS r a u x)
theorem LN(r a u x:RE):((u*x*u-(r)))+((r-(a*u)))+((a-(u*x))*(u-(0)))=0:=by grind
theorem KD(r a u x:RE)(h1:a*u<=r)(h2:u*x<=a)(h3:0<u):u*x*u<=r:=λhg=>far (aS (aS (aX hg) (aK h1)) (cz (aK h2) (le_of_lt (aX h3)))) (LN r a u x)
theorem sqF_pr{a:Iv}(ha:prI a):prI (sqF a).1:=by
 unfold sqF;by_cases h:a.2<0
 ·rw[afm h];exact fv
 ·rw[afo h];simp only[cond_false];refine AS ?_;have h1:(if 0>a.1 then 0 else a.1)<=a.2:=by have:=ha.2.1;split<;>omega
  have h0:0<=(if 0>a.1 then 0 else a.1):=by split<;>omega
  have hm:eg (if 0>a.1 then 0 else a.1)<=eg a.2:=by
   unfold eg;obtain⟨_,g1,_⟩:=fK (z:=(if 0>a.1 then 0 else a.1)*65536) (by omega);obtain⟨g0,_,g2⟩:=fK (z:=a.2*65536) (by omega);have:=Go.Proofs.YtagbmoohboleaaaGreat.sq_lt (a:=bJ ((if 0>a.1 then 0 else a.1)*65536)) (b:=bJ (a.2*65536)+1) (by omega) (by omega);omega
  cases decide (eg a.2*eg a.2=a.2*65536)
  ·show _<=eg a.2+1;omega
  ·exact hm
theorem wj{a:Iv}{x:RE}(ha:inI a x)(hx:0<=x)(h:(sqF a).2=true):inI (sqF a).1 (wH x):=by
 obtain⟨a1,a2⟩:=ha;have hs:=Af hx;have s0:0<=of 65536*wH x:=cz (le_of_lt nq) (nX x);have e:of 65536*wH x*(of 65536*wH x)=of 65536*x*of 65536:=by rw[ach,hs]
 unfold sqF at h ⊢;cases hn:decide (a.2<0)
 ·rw[hn]at h;simp only[cond_false]at h ⊢;have h2:=agn hn;rw[AQ h];obtain⟨p0,p1,p2⟩:=fK (z:=(if 0>a.1 then 0 else a.1)*65536) (by split<;>omega);obtain⟨q0,q1,q2⟩:=fK (z:=a.2*65536) (by omega)
  have cm:∀{p q:Int},p*p<=q*65536->of (p:Rat)*of (p:Rat)<=of (q:Rat)*of 65536:=λ{p q} h=>by
   have:=lR h;rw[ahq,ahq,bS,bS]at this;exact this
  have cn:∀{p q:Int},q*65536<=p*p->of (q:Rat)*of 65536<=of (p:Rat)*of (p:Rat):=λ{p q} h=>by
   have:=lR h;rw[ahq,ahq,bS,bS]at this;exact this
  have nn:∀{p:Int},0<=p->0<=of (p:Rat):=λh=>lR h;refine⟨?_,?_⟩
  ·show of ((eg _:Int):Rat)<=_;refine Ny _ _ (nn p0) s0 ?_;rw[e];refine Yn _ (of (((if 0>a.1 then 0 else a.1:Int)):Rat)) _ _ (cm p1) ?_ nq;split
   ·exact cz (le_of_lt nq) hx
   ·exact a1
  ·show _<=of (((bif _ then _ else _):Int):Rat);cases he:decide (eg a.2*eg a.2=a.2*65536)
   ·simp only[cond_false];refine Ny _ _ s0 (nn (by unfold eg;omega)) ?_;rw[e];exact KD _ _ _ _ (cn (by unfold eg;omega)) a2 nq
   ·simp only[cond_true];refine Ny _ _ s0 (nn q0) ?_;rw[e];exact KD _ _ _ _ (cn (by rw[afp he];exact Int.le_refl _)) a2 nq
 ·rw[hn]at h;cases h
theorem F1{i:Iv}{x:RE}(hi:inI i x)(h:(sgF i).2=true):(sgF i).1=sg x:=by
 obtain⟨h1,h2⟩:=hi;unfold sgF at h ⊢;cases e1:decide (i.1>0)
 ·rw[e1]at h;cases e2:decide (i.2<0)
  ·rw[e2]at h;simp only[cond_false,afr,decide_eq_true_eq]at h ⊢;rw[h.1]at h1;rw[h.2]at h2;have:of 65536*x=0:=le_antisymm h2 h1;have:sg (of 65536*x)=0:=by rw[this,fR]
   rw[tM,jm nq]at this;omega
  ·have e:=afp e2;have h3:of (i.2:Rat)<0:=jF (ahL.2 e);simp only[cond_false,cond_true]
   have:sg (of 65536*x)= -1:=nw (by
    rcases lt_or_ge (of 65536*x) 0 with h|h
    ·exact h
    ·exact absurd (le_trans h h2) (xN.2 h3))
   rw[tM,jm nq]at this;omega
 ·have e:=afp e1;have h3:0<of (i.1:Rat):=jF (ahL.2 e);simp only[cond_true]
  have:sg (of 65536*x)=1:=jm (by
   rcases lt_or_ge 0 (of 65536*x)with h|h
   ·exact h
   ·exact absurd (le_trans h1 h) (xN.2 h3))
  rw[tM,jm nq]at this;omega
end RE
abbrev Qd:=Rat×Rat×Rat×Rat×Rat×Rat
def sgQ(q:Qd):Int:=Au q.1 q.2.1 q.2.2.1 q.2.2.2.1 q.2.2.2.2.1 q.2.2.2.2.2
def suT(x y:Rt):Qd:=(x.1-y.1,x.2.1,-y.2.1,0,x.2.2,y.2.2)
def hZ(x:Rt)(q:Rat):Int:=gn (x.1-q) x.2.1 x.2.2
def okQ(q:BQ):Prop:=ok Rat 30001 q.1/\ok Rat 15000 q.2.1/\ok Rat 15000 q.2.2.1/\ok Rat 6000 q.2.2.2.1/\ok Rat 15000 q.2.2.2.2.1/\ok Rat 15000 q.2.2.2.2.2/\0<=ah q.2.2.2.2.1/\0<=ah q.2.2.2.2.2
instance (q:BQ):Decidable (okQ q):=by unfold okQ;infer_instance
theorem EO{q:BQ}(h:okQ q):∃A B C D M N:Rat,q=enc ((A,B,C,D,M,N):Qd)/\Bd A 30001/\Bd B 15000/\Bd C 15000/\Bd D 6000/\Bd M 15000/\Bd N 15000/\0<=M/\0<=N:=by
 obtain⟨A,B,C,D,M,N⟩:=q;obtain⟨h1,h2,h3,h4,h5,h6,h7,h8⟩:=h;obtain⟨a,ha,b1⟩:=aH h1;obtain⟨b,hb,b2⟩:=aH h2;obtain⟨c,hc,b3⟩:=aH h3;obtain⟨d,hd,b4⟩:=aH h4;obtain⟨m,hm,b5⟩:=aH h5;obtain⟨n,hn,b6⟩:=aH h6;dsimp only at ha hb hc hd hm hn h7 h8;subst ha hb hc hd hm hn;rw[ng,fB]at h7 h8;exact⟨a,b,c,d,m,n,rfl,b1,b2,b3,b4,b5,b6,h7,h8⟩
theorem Tn{A B C D M N:Rat}{a b c d m n:Nat}[h1:Bd A a][h2:Bd B b][h3:Bd C c][h4:Bd D d][h5:Bd M m][h6:Bd N n][h7:Nn M][h8:Nn N](ha:a<=30001)(hb:b<=15000)(hc:c<=15000)(hd:d<=6000)(hm:m<=15000)(hn:n<=15000):decide (okQ (enc ((A,B,C,D,M,N):Qd)))=true:=
 afm ⟨afp (lg ha (by decide)),afp (lg hb (by decide)),afp (lg hc (by decide)),afp (lg hd (by decide)),afp (lg hm (by decide)),afp (lg hn (by decide)),by show 0<=ah (ao M);rw[fB];exact h7.le,by show 0<=ah (ao N);rw[fB];exact h8.le⟩
theorem E2{s t:Int}(hs: -1<=s/\s<=1)(ht: -1<=t/\t<=1):i64.wrap (s*t)=s*t:=by
 have:=z8 hs ht;exact aM (by omega) (by omega)
theorem sE{a b m x y:Rat}:i64.wrap (gn a b m*aE x y)=gn a b m*aE x y:=E2 (k9 _ _ _) (pp _ _)
theorem rZ{a b m x y z:Rat}:i64.wrap (gn a b m*gn x y z)=gn a b m*gn x y z:=E2 (k9 _ _ _) (k9 _ _ _)
theorem DX(s t u:Int):(match s==0 with|true=>(match s==0 with|true=>some [RV.d aiy t]|false=>some [RV.d aiy s])|false=>(match t==0 with|true=>(match s==0 with|true=>some [RV.d aiy t]|false=>some [RV.d aiy s])|false=>(match s==t with|true=>(match s==0 with|true=>some [RV.d aiy t]|false=>some [RV.d aiy s])|false=>some [RV.d aiy (s*u)])))=some [RV.d aiy (RE.addS s t u)]:=by
 unfold RE.addS;cases h1:s==0
 ·cases h2:t==0
  ·cases h3:s==t<;>rfl
  ·rfl
 ·have e:=agl.1 h1;subst e;cases h2:t==0
  ·cases h3:(0:Int)==t
   ·rfl
   ·rw[<-agl.1 h3];rfl
  ·rw[agl.1 h2];rfl
theorem Bn(s t u:Int):(match t==0 with|true=>some [RV.d aiy s]|false=>(match s==t with|true=>some [RV.d aiy s]|false=>(match s==0 with|true=>some [RV.d aiy t]|false=>some [RV.d aiy (s*u)])))=some [RV.d aiy (RE.addS s t u)]:=by
 unfold RE.addS;cases h2:t==0
 ·cases h3:s==t
  ·cases h1:s==0<;>rfl
  ·rfl
 ·rfl
def Fl:List En:=[enL qx,enL re,enL uo,enL qr,enT nh,enT tC,enL ux]
def MR(a b c:BR)(_k:KT):OLR:=og (o1 a) (og (o1 b) (og (o1 c) (match(aE (ah a) 0)==0 with|true=>(match(aE (ah a) 0)==0 with|true=>some [RV.d aiy (i64.wrap ((aE (ah b) 0)*(aE (ah c) 0)))]|false=>some [RV.d aiy (aE (ah a) 0)])|false=>(match(i64.wrap ((aE (ah b) 0)*(aE (ah c) 0)))==0 with|true=>(match(aE (ah a) 0)==0 with|true=>some [RV.d aiy (i64.wrap ((aE (ah b) 0)*(aE (ah c) 0)))]|false=>some [RV.d aiy (aE (ah a) 0)])|false=>(match(aE (ah a) 0)==(i64.wrap ((aE (ah b) 0)*(aE (ah c) 0)))with|true=>(match(aE (ah a) 0)==0 with|true=>some [RV.d aiy (i64.wrap ((aE (ah b) 0)*(aE (ah c) 0)))]|false=>some [RV.d aiy (aE (ah a) 0)])|false=>(og (o2 a a) (og (o2 b b) (og (o2 (hMu b b) c) (og (o2 (hMu a a) (hMu (hMu b b) c)) (some [RV.d aiy (i64.wrap ((aE (ah a) 0)*(aE (ah (hMu a a)) (ah (hMu (hMu b b) c)))))]))))))))))
def XU:Cn 139 [tR,tR,tR]:=cn λ(a b c:BR)=>lf (ok Rat 240000 a/\ok Rat 170000 b/\ok Rat 30000 c) [.d aiy (gn (ah a) (ah b) (ah c))] λh=>by
 refine az Fl (MR a b c) ⟨0,?_⟩;obtain⟨ha,hb,hc⟩:=h;obtain⟨a,rfl,ba⟩:=aH ha;obtain⟨b,rfl,bb⟩:=aH hb;obtain⟨c,rfl,bc⟩:=aH hc;unfold MR;simp only[aW,Nat.reduceAdd,Nat.reduceLeDiff,pG];exact DX _ _ _
def Ll(a b:BO3)(_k:KT):OLR:=og (o2 a.1 b.1) (og (o1 b.2.1) (og (decide (a9 (0:Int))) (some [RV.d tQ (hSu a.1 b.1,(a.2.1,(hNe b.2.1,(hid (ao ((0:Int):Rat)),(a.2.2,b.2.2)))))])))
def Yu:Cn 184 [tO,tO]:=cn λ(a b:BO3)=>lf (ok Rt 15000 a/\ok Rt 15000 b) [.d tQ (enc (suT (dec a) (dec b)))] λh=>by
 refine az Fl (Ll a b) ⟨0,?_⟩;obtain⟨ha,hb⟩:=h;obtain⟨a,rfl,ba⟩:=aH ha;obtain⟨b,rfl,bb⟩:=aH hb;unfold Ll;simp only[aW,Nat.reduceLeDiff];try rfl
def JD:List En:=enT XU::enL Yu::Fl
def NE(q:BQ)(_k:KT):OLR:=let y1:=ah q.2.2.2.2.1;let y2:=aE (ah q.2.2.2.2.2) 0;let y3:=gn (ah q.1) (ah q.2.1) y1;let y4:=i64.wrap ((gn (ah q.2.2.1) (ah q.2.2.2.1) y1)*y2);let y5:OLR:=match y3==0 with|true=>some [RV.d aiy y4]|false=>some [RV.d aiy y3];let y6:=hMu q.2.2.2.1 q.2.2.2.1;let y7:=hMu q.2.2.1 q.2.2.1;let y8:=hMu y6 q.2.2.2.2.1;let y9:=hMu (hMu q.2.1 q.2.1) q.2.2.2.2.1;let y10:=hAd (hMu q.1 q.1) y9;let y11:=hMu q.2.2.2.2.2 (hAd y7 y8);let y12:=hMu q.2.2.1 q.2.2.2.1;let y13:=hMu q.2.2.2.2.2 y12;let y14:=hSu (hMu q.1 q.2.1) y13;og (o1 q.2.2.2.2.1) (match decide ((aE y1 0)<0)with|true=>some [RV.d aiy 0]|false=>(og (o1 q.2.2.2.2.2) (match decide (y2<0)with|true=>some [RV.d aiy 0]|false=>(og (decide (ok Rat 240000 q.1/\ok Rat 170000 q.2.1/\ok Rat 30000 q.2.2.2.2.1)) (og (decide (ok Rat 240000 q.2.2.1/\ok Rat 170000 q.2.2.2.1/\ok Rat 30000 q.2.2.2.2.1)) (og (o1 q.2.2.2.2.2) (match y3==0 with|true=>y5|false=>(match y4==0 with|true=>y5|false=>(match y3==y4 with|true=>y5|false=>(og (o2 q.2.2.1 q.2.2.1) (og (o2 q.2.2.2.1 q.2.2.2.1) (og (o2 y6 q.2.2.2.2.1) (og (o2 y7 y8) (og (o2 q.2.2.2.2.2 (hAd y7 y8)) (og (o2 q.1 q.1) (og (o2 q.2.1 q.2.1) (og (o2 (hMu q.2.1 q.2.1) q.2.2.2.2.1) (og (o2 (hMu q.1 q.1) y9) (og (o2 y10 y11) (og (o2 q.1 q.2.1) (og (o2 q.2.2.1 q.2.2.2.1) (og (o2 q.2.2.2.2.2 y12) (og (o2 (hMu q.1 q.2.1) y13) (og (o2 y14 y14) (og (decide (ok Rat 240000 (hSu y10 y11)/\ok Rat 170000 (hAd y14 y14)/\ok Rat 30000 q.2.2.2.2.1)) (some [RV.d aiy (i64.wrap (y3*(gn (ah (hSu y10 y11)) (ah (hAd y14 y14)) y1)))]))))))))))))))))))))))))))
def Wi:Cn 183 [tQ]:=cn λ(q:BQ)=>lf (okQ q) [.d aiy (sgQ (dec q))] λh=>by
 refine az JD (NE q) ⟨0,?_⟩;obtain⟨A,B,C,D,M,N,rfl,bA,bB,bC,bD,bM,bN,hM,hN⟩:=EO h;rw[aB];unfold NE;simp only[aW,aD,Nat.reduceAdd,Nat.reduceLeDiff,sE,rZ,au,afo (show ¬M<0 by grind),afo (show ¬N<0 by grind)];refine(DX _ _ _).trans ?_;unfold sgQ Au;rw[afo (show ¬M<0 by grind),afo (show ¬N<0 by grind)];dsimp only[Bool.or_false,cond_false];rw[show A*B-N*(C*D)+(A*B-N*(C*D))=2*(A*B-N*(C*D)) by grind];rfl
def FF:List En:=enT Wi::JD
def OQ(a b:BO3)(_k:KT):OLR:=og (decide (ok Rt 15000 a/\ok Rt 15000 b)) (og (decide (okQ (hid (enc (suT (dec a) (dec b)))))) (some [RV.d aiy (sgQ (dec (hid (enc (suT (dec a) (dec b))))))]))
def Fe:Cn 87 [tO,tO]:=cn λ(a b:BO3)=>lf (okT 15000 a/\okT 15000 b) [.d aiy (bj (dec a) (dec b))] λh=>by
 refine az FF (OQ a b) ⟨0,?_⟩;obtain⟨ha,hb⟩:=h;obtain⟨a,rfl,ba,ra⟩:=kv ha;obtain⟨b,rfl,bb,rb⟩:=kv hb;have na:Nn a.2.2:=inferInstance;have nb:Nn b.2.2:=inferInstance;have e:decide (okQ (enc (suT a b)))=true:=Tn (by decide) (by decide) (by decide) (by decide) (by decide) (by decide);unfold OQ;simp only[aW,Nat.reduceLeDiff,e];rfl
def MT(a:BO3)(b:BR)(_k:KT):OLR:=og (o2 a.1 b) (og (decide (ok Rat 240000 (hSu a.1 b)/\ok Rat 170000 a.2.1/\ok Rat 30000 a.2.2)) (some [RV.d aiy (gn (ah (hSu a.1 b)) (ah a.2.1) (ah a.2.2))]))
def N7:Cn 58 [tO,tR]:=cn λ(a:BO3) (b:BR)=>lf (okT 15000 a/\ok Rat 15000 b) [.d aiy (hZ (dec a) (ah b))] λh=>by
 refine az FF (MT a b) ⟨0,?_⟩;obtain⟨ha,hb⟩:=h;obtain⟨a,rfl,ba,ra⟩:=kv ha;obtain⟨b,rfl,bb⟩:=aH hb;unfold MT;simp only[aW,Nat.reduceAdd,Nat.reduceLeDiff];try rfl
def Ye:List En:=enT Fe::FF
def J9(a b:BO3)(_k:KT):OLR:=og (decide (okT 15000 a/\okT 15000 b)) (some [RV.d .bool ((bj (dec a) (dec b))==0)])
def Wm:Cn 30 [tO,tO]:=cn λ(a b:BO3)=>lf (okT 15000 a/\okT 15000 b) [.d .bool (bj (dec a) (dec b)==0)] λh=>by
 refine az Ye (J9 a b) ⟨0,?_⟩;unfold J9;rw[dT h]
def qO:dK:=spN false true [tR] (λx=>decide (okR x.1)) (λx=>[RV.d tR (hNe x.1)])
theorem l4:SpK 133 qO:=spX λx h=>by simp only[bL];exact GU x.1 (afp h)
def JL:List En:=[⟨125,ju,fq⟩,⟨132,mA,jk⟩,⟨65,kp,gu⟩,⟨67,jC,fI⟩,⟨54,jA,fH⟩,⟨66,lI,ik⟩,⟨133,qO,l4⟩]
def SA(a b c:BR)(_k:KT):OLR:=og (o1 a) (og (o1 b) (og (o1 c) (match(i64.wrap ((aE (ah b) 0)*(aE (ah c) 0)))==0 with|true=>some [RV.d aiy (aE (ah a) 0)]|false=>(match(aE (ah a) 0)==(i64.wrap ((aE (ah b) 0)*(aE (ah c) 0)))with|true=>some [RV.d aiy (aE (ah a) 0)]|false=>(match(aE (ah a) 0)==0 with|true=>some [RV.d aiy (i64.wrap ((aE (ah b) 0)*(aE (ah c) 0)))]|false=>(og (o2 a a) (og (o2 b b) (og (o2 (hMu b b) c) (og (o2 (hMu a a) (hMu (hMu b b) c)) (some [RV.d aiy (i64.wrap ((aE (ah a) 0)*(aE (ah (hMu a a)) (ah (hMu (hMu b b) c)))))]))))))))))
def CZ:Cn 276 [tR,tR,tR]:=cn λ(a b c:BR)=>lf (ok Rat 240000 a/\ok Rat 170000 b/\ok Rat 30000 c) [.d aiy (gn (ah a) (ah b) (ah c))] λh=>by
 refine az JL (SA a b c) ⟨0,?_⟩;obtain⟨ha,hb,hc⟩:=h;obtain⟨a,rfl,ba⟩:=aH ha;obtain⟨b,rfl,bb⟩:=aH hb;obtain⟨c,rfl,bc⟩:=aH hc;unfold SA;simp only[aW,Nat.reduceAdd,Nat.reduceLeDiff,pG];exact Bn _ _ _
def Um(a:BR)(_k:KT):OLR:=og (o1 a) (og (o1 (hNe a)) (some [RV.d tR (hNe (hNe a))]))
def VA:Cn 316 [tR]:=cn λ(a:BR)=>lf (okR a) [.d tR (ao (ah a))] λh=>by
 refine az JL (Um a) ⟨0,?_⟩;have ha:=h;obtain⟨a,rfl,ba⟩:=eL ha;unfold Um;simp only[aW,Nat.reduceLeDiff,Rat.neg_neg]
def ac1:List En:=enT CZ::enL VA::JL
def VT(a b:BO3)(_k:KT):OLR:=og (o2 a.1 b.1) (og (o1 a.2.1) (og (o1 b.2.1) (og (decide (a9 (0:Int))) (og (o1 a.2.2) (og (o1 b.2.2) (some [RV.d tQ (hSu a.1 b.1,(hid (ao (ah a.2.1)),(hNe b.2.1,(hid (ao ((0:Int):Rat)),(hid (ao (ah a.2.2)),hid (ao (ah b.2.2)))))))]))))))
def K6:Cn 277 [tO,tO]:=cn λ(a b:BO3)=>lf (ok Rt 15000 a/\ok Rt 15000 b) [.d tQ (enc (suT (dec a) (dec b)))] λh=>by
 refine az ac1 (VT a b) ⟨0,?_⟩;obtain⟨ha,hb⟩:=h;obtain⟨a,rfl,ba⟩:=aH ha;obtain⟨b,rfl,bb⟩:=aH hb;unfold VT;simp only[aW,Nat.reduceLeDiff];try rfl
theorem jI{n:Int}(h:a9 n):szI n<=3:=by
 have:pw 3=1000000000000000000000000000:=by decide
 exact eV (by have:=h.1;omega) (by have:=h.2;omega)
theorem Lj{q:Rat}{k:Nat}(h:Bd q k)(hk:k<=480000):okI (ai q.floor)/\okI (ai (-q.floor)):=by
 have e:szI q.floor<=k:=by
  refine afA (dg ?_) h.le.1;rw[Rat.floor_def];exact Int.natAbs_ediv_le_natAbs _ _
 exact⟨aR (by omega),aR (by rw[iJ];omega)⟩
theorem ae0:Bd (65536:Rat) 1:=⟨⟨by decide+kernel,by decide+kernel⟩⟩
theorem YG:((65536:Int):Rat)=65536:=rfl
theorem p48:(2:Int)^(min (48:Int).toNat 64)=281474976710656:=by decide
theorem p32:(2:Int)^(min (32:Int).toNat 64)=4294967296:=by decide
theorem p16:(2:Int)^(min (16:Int).toNat 64)=65536:=by decide
theorem fdv{a b:Int}(h:0<=b):Int.fdiv a b=a/b:=Int.fdiv_eq_ediv_of_nonneg a h
theorem Tw(n k:Nat)(hn:n<18446744073709551616)(hk:2^k-1<18446744073709551616):BitVec.toNat (BitVec.ofInt 64 (n:Int)&&&BitVec.ofInt 64 ((2^k-1:Nat):Int))=n%2^k:=by
 rw[BitVec.toNat_and,BitVec.toNat_ofInt,BitVec.toNat_ofInt];have e1:((n:Int)%((2^64:Nat):Int)).toNat=n:=by omega
 have e2:(((2^k-1:Nat):Int)%((2^64:Nat):Int)).toNat=2^k-1:=by omega
 rw[e1,e2,Nat.and_two_pow_sub_one_eq_mod]
theorem ac5(n:Nat)(hn:n<18446744073709551616):u64.wrap (BitVec.toNat (BitVec.ofInt 64 (n:Int)&&&BitVec.ofInt 64 65535))=((n%65536:Nat):Int):=by
 rw[show(65535:Int)=((2^16-1:Nat):Int) from rfl,Tw n 16 hn (by decide),aga];omega
theorem KU(n:Nat)(hn:n<18446744073709551616):u64.wrap (BitVec.toNat (BitVec.ofInt 64 (n:Int)&&&BitVec.ofInt 64 4294967295))=((n%4294967296:Nat):Int):=by
 rw[show(4294967295:Int)=((2^32-1:Nat):Int) from rfl,Tw n 32 hn (by decide),aga];omega
theorem aea{h l:Nat}(hh:h<65536)(hl:l<281474976710656):u64.wrap (BitVec.toNat (BitVec.ofInt 64 (u64.wrap ((h:Int)*281474976710656)) ||| BitVec.ofInt 64 (l:Int)))=((h*281474976710656+l:Nat):Int):=by
 rw[BitVec.toNat_or,BitVec.toNat_ofInt,BitVec.toNat_ofInt,aga,aga]
 have e1:((h:Int)*281474976710656%18446744073709551616%((2^64:Nat):Int)).toNat=h <<< 48:=by
  rw[Nat.shiftLeft_eq];omega
 have e2:((l:Int)%((2^64:Nat):Int)).toNat=l:=by omega
 rw[e1,e2,<-Nat.shiftLeft_add_eq_or_of_lt (by omega),Nat.shiftLeft_eq];omega
def scP(x y:Int):Prop:=x.natAbs<=2305843009213693952/\y.natAbs<=2305843009213693952
instance (x y:Int):Decidable (scP x y):=by unfold scP;infer_instance
def Dg(n:Int):Prop:=0<=n/\n<=2305843009213693952
instance (n:Int):Decidable (Dg n):=by unfold Dg;infer_instance
def acf:Ctx:=CX [] []
def UT(x y:Int)(_k:KT):OLR:=match decide (x<(-2305843009213693952))with|true=>some [RV.d tG (0,0),RV.d .bool false]|false=>(match decide (y>2305843009213693952)with|true=>some [RV.d tG (0,0),RV.d .bool false]|false=>some [RV.d tG (x,y),RV.d .bool true])
theorem abR(x y:Int):RS acf 328 [SI x,SI y] (UT x y):=rsX
def JU:Cn 328 [aiy,aiy]:=cn λ(x y:Int)=>lf True [.d tG ((nG x y).1),.d .bool ((nG x y).2)] λ_=>by
 refine fE (E:=[]) trivial (abR _ _ ⟨0,?_⟩);unfold UT nG;cases decide (x< -2305843009213693952)
 ·cases decide (y>2305843009213693952)<;>rfl
 ·rfl
def ED:dK:=spN false true [tI] (λx=>decide (okI x.1)) (λx=>[RV.d tI (hid (ai (-ae x.1)))])
theorem Dn:SpK 228 ED:=spX λx h=>by simp only[bL];exact HN x.1 (afp h)
def ze:List En:=[⟨125,ju,fq⟩,⟨67,jC,fI⟩,⟨133,qO,l4⟩,enL OS,enT Vl,⟨228,ED,Dn⟩,enL JU]
def Tg(a:BR)(_k:KT):OLR:=let y1:=hid (ao ((65536:Int):Rat));let y2:=hid (ai (ah (hMu a y1)).floor);let y3:=hid (ai (ah (hNe (hMu a y1))).floor);let y4:=hid (ai (-ae y3));let y5:=nG (bif decide (a9 (ae y2))then ae y2 else 0) (bif decide (a9 (ae y4))then ae y4 else 0);og (decide (a9 (65536:Int))) (og (o2 a y1) (og (o1 (hMu a y1)) (og (decide (okI y2)) (og (o1 (hMu a y1)) (og (o1 (hNe (hMu a y1))) (og (decide (okI y3)) (og (decide (okI y4)) (match !(decide (a9 (ae y2)))with|true=>some [RV.d tG (0,0),RV.d .bool false]|false=>(match !(decide (a9 (ae y4)))with|true=>some [RV.d tG (0,0),RV.d .bool false]|false=>some [RV.d tG (hid (y5.1)),RV.d .bool (y5.2)])))))))))
def Lg:Cn 307 [tR]:=cn λ(a:BR)=>lf (ok Rat 200000 a) [.d tG ((frF (ah a)).1),.d .bool ((frF (ah a)).2)] λh=>by
 refine az ze (Tg a) ⟨0,?_⟩;have ha:=h;obtain⟨a,rfl,ba⟩:=aH ha;have hk:=ae0;have h6:a9 65536:=by decide
 have f1:=Lj (inferInstance:Bd (a*65536) _) (by decide);have f2:=Lj (inferInstance:Bd (-(a*65536)) _) (by decide);unfold Tg;simp only[YG,aW,Nat.reduceAdd,Nat.reduceLeDiff,dec_enc,dT h6,dT f1.1,dT f2.1,dT f2.2];unfold frF;cases e1:decide (a9 (a*65536).floor)
 ·rfl
 ·cases e2:decide (a9 (-(-(a*65536)).floor))
  ·rfl
  ·rfl
def Vw(a b:(Int×Int))(_k:KT):OLR:=some [RV.d tG (hid ((nG (i64.wrap (a.1+b.1)) (i64.wrap (a.2+b.2))).1)),RV.d .bool ((nG (i64.wrap (a.1+b.1)) (i64.wrap (a.2+b.2))).2)]
def M1:Cn 309 [tG,tG]:=cn λ(a b:(Int×Int))=>lf (prI a/\prI b) [.d tG ((dA a b).1),.d .bool ((dA a b).2)] λh=>by
 refine az ze (Vw a b) ⟨0,?_⟩;obtain⟨⟨a1,a2,a3⟩,⟨b1,b2,b3⟩⟩:=h;unfold Vw dA;rw[aM (by omega) (by omega),aM (by omega) (by omega)];simp only[bL]
def SQ(a:(Int×Int))(_k:KT):OLR:=some [RV.d tG (i64.wrap (0-a.2),i64.wrap (0-a.1))]
def LH:Cn 310 [tG]:=cn λ(a:(Int×Int))=>lf (prI a) [.d tG (lW a)] λh=>by
 refine az ze (SQ a) ⟨0,?_⟩;obtain⟨a1,a2,a3⟩:=h;unfold SQ lW;rw[aM (by omega) (by omega),aM (by omega) (by omega),ahl,ahl]
def V0(n:Int)(_k:KT):OLR:=match decide (n<0)with|true=>some [RV.d (.int .u64) (u64.wrap (0-(u64.wrap n)))]|false=>some [RV.d (.int .u64) (u64.wrap n)]
def Jx:Cn 334 [aiy]:=cn λ(n:Int)=>lf (a9 n) [.d (.int .u64) (n.natAbs:Int)] λh=>by
 refine az ze (V0 n) ⟨0,?_⟩;obtain⟨h1,h2⟩:=h;unfold V0;rw[aga,aga];by_cases hn:n<0
 ·rw[afm hn,show(0-n%18446744073709551616)%18446744073709551616=(n.natAbs:Int) by omega]
 ·rw[afo hn,show n%18446744073709551616=(n.natAbs:Int) by omega]
def Ul(x y:Int)(_k:KT):OLR:=match decide (32<(0:Int))with|true=>none|false=>(match decide (32<(0:Int))with|true=>none|false=>(match decide (32<(0:Int))with|true=>none|false=>(match decide (32<(0:Int))with|true=>none|false=>(match decide (32<(0:Int))with|true=>none|false=>some [RV.d (.int .u64) (u64.wrap ((u64.wrap ((u64.wrap ((Int.fdiv x (2^(min (32:Int).toNat 64)))*(Int.fdiv y (2^(min (32:Int).toNat 64)))))+(Int.fdiv (u64.wrap ((u64.wrap ((Int.fdiv x (2^(min (32:Int).toNat 64)))*(u64.wrap (BitVec.toNat (BitVec.ofInt 64 y&&&BitVec.ofInt 64 4294967295)))))+(Int.fdiv (u64.wrap ((u64.wrap (BitVec.toNat (BitVec.ofInt 64 x&&&BitVec.ofInt 64 4294967295)))*(u64.wrap (BitVec.toNat (BitVec.ofInt 64 y&&&BitVec.ofInt 64 4294967295))))) (2^(min (32:Int).toNat 64))))) (2^(min (32:Int).toNat 64)))))+(Int.fdiv (u64.wrap ((u64.wrap (BitVec.toNat (BitVec.ofInt 64 (u64.wrap ((u64.wrap ((Int.fdiv x (2^(min (32:Int).toNat 64)))*(u64.wrap (BitVec.toNat (BitVec.ofInt 64 y&&&BitVec.ofInt 64 4294967295)))))+(Int.fdiv (u64.wrap ((u64.wrap (BitVec.toNat (BitVec.ofInt 64 x&&&BitVec.ofInt 64 4294967295)))*(u64.wrap (BitVec.toNat (BitVec.ofInt 64 y&&&BitVec.ofInt 64 4294967295))))) (2^(min (32:Int).toNat 64)))))&&&BitVec.ofInt 64 4294967295)))+(u64.wrap ((u64.wrap (BitVec.toNat (BitVec.ofInt 64 x&&&BitVec.ofInt 64 4294967295)))*(Int.fdiv y (2^(min (32:Int).toNat 64))))))) (2^(min (32:Int).toNat 64))))),RV.d (.int .u64) (u64.wrap (x*y))]))))
def Ke:Cn 333 [(.int .u64),(.int .u64)]:=cn λ(x y:Int)=>lf (im x/\im y) [.d (.int .u64) (x*y/18446744073709551616),.d (.int .u64) (x*y%18446744073709551616)] λh=>by
 refine az ze (Ul x y) ⟨0,?_⟩;obtain⟨h1,h2⟩:=h;obtain⟨X,rfl⟩:=agw h1.1;obtain⟨Y,rfl⟩:=agw h2.1;have hX:X<18446744073709551616:=by have:=h1.2;omega
 have hY:Y<18446744073709551616:=by have:=h2.2;omega
 have wn:∀n:Nat,n<18446744073709551616->u64.wrap (n:Int)=(n:Int):=λn hn=>by rw[aga];omega
 have eX:(X:Int)/4294967296=((X/4294967296:Nat):Int):=by omega
 have eY:(Y:Int)/4294967296=((Y/4294967296:Nat):Int):=by omega
 unfold Ul;simp only[p32,fdv (show(0:Int)<=4294967296 by decide),KU X hX,KU Y hY,eX,eY]
 have hXY:X*Y=X/4294967296*(Y/4294967296)*18446744073709551616+(X/4294967296*(Y%4294967296)+X%4294967296*(Y/4294967296))*4294967296+X%4294967296*(Y%4294967296):=by
  have a:=Nat.div_add_mod X 4294967296;have b:=Nat.div_add_mod Y 4294967296;generalize X/4294967296=x1 at*
  generalize X%4294967296=x0 at*
  generalize Y/4294967296=y1 at*
  generalize Y%4294967296=y0 at*
  subst a b;grind
 have x0:X%4294967296<=4294967295:=by omega
 have y0:Y%4294967296<=4294967295:=by omega
 have x1:X/4294967296<=4294967295:=by omega
 have y1:Y/4294967296<=4294967295:=by omega
 have q00:=ahj x0 y0;have q10:=ahj x1 y0;have q01:=ahj x0 y1;have q11:=ahj x1 y1;simp only[<-agR];rw[hXY];generalize X%4294967296*(Y%4294967296)=p00 at*
 generalize X/4294967296*(Y%4294967296)=p10 at*
 generalize X%4294967296*(Y/4294967296)=p01 at*
 generalize X/4294967296*(Y/4294967296)=p11 at*
 have t0:u64.wrap (u64.wrap (p10:Int)+u64.wrap (p00:Int)/4294967296)=((p10+p00/4294967296:Nat):Int):=by
  rw[wn p10 (by omega),wn p00 (by omega),show(p10:Int)+(p00:Int)/4294967296=((p10+p00/4294967296:Nat):Int) by omega,wn _ (by omega)]
 rw[t0,KU _ (by omega)]
 have t1:u64.wrap (((p10+p00/4294967296)%4294967296:Nat)+u64.wrap (p01:Int))=(((p10+p00/4294967296)%4294967296+p01:Nat):Int):=by
  rw[wn p01 (by omega),<-Int.natCast_add,wn _ (by omega)]
 rw[t1,wn p11 (by omega)];rw[afo (show ¬(32:Int)<0 by decide)];dsimp only
 have hi:u64.wrap (u64.wrap ((p11:Int)+((p10+p00/4294967296:Nat):Int)/4294967296)+(((p10+p00/4294967296)%4294967296+p01:Nat):Int)/4294967296)=((p11*18446744073709551616+(p10+p01)*4294967296+p00:Nat):Int)/18446744073709551616:=by
  rw[aga,aga];omega
 rw[hi,aga]
def adn:List En:=enA Jx::enA Ke::ze
def S7(x y:Int)(_k:KT):OLR:=let y1:=hid ((x.natAbs:Int));let y2:=hid ((y.natAbs:Int));let y3:=hid (y1*y2/18446744073709551616);let y4:=hid (y1*y2%18446744073709551616);let y5:=u64.wrap (BitVec.toNat (BitVec.ofInt 64 (u64.wrap (y3*2^(min (48:Int).toNat 64))) ||| BitVec.ofInt 64 (Int.fdiv y4 (2^(min (16:Int).toNat 64)))));let y6:=i64.wrap y5;let y7:=i64.wrap (y6+1);let y8:=i64.wrap (0-y7);let y9:=i64.wrap (0-y6);let y10:=decide (y9<=2305843009213693952);og (decide (a9 x)) (og (decide (a9 y)) (og (decide (im y1/\im y2)) (match decide (16<(0:Int))with|true=>none|false=>(match(Int.fdiv y3 (2^(min (16:Int).toNat 64))) !=0 with|true=>some [RV.d aiy 0,RV.d aiy 0,RV.d .bool false]|false=>(match decide (48<(0:Int))with|true=>none|false=>(match decide (16<(0:Int))with|true=>none|false=>(match decide (y5>2305843009213693952)with|true=>some [RV.d aiy 0,RV.d aiy 0,RV.d .bool false]|false=>(match(u64.wrap (BitVec.toNat (BitVec.ofInt 64 y4&&&BitVec.ofInt 64 65535))) !=0 with|true=>(match !((decide (x<0))==(decide (y<0)))with|true=>(match decide (y8>=(-2305843009213693952))with|true=>some [RV.d aiy y8,RV.d aiy y9,RV.d .bool y10]|false=>some [RV.d aiy y8,RV.d aiy y9,RV.d .bool false])|false=>(match decide (y6>=(-2305843009213693952))with|true=>some [RV.d aiy y6,RV.d aiy y7,RV.d .bool (decide (y7<=2305843009213693952))]|false=>some [RV.d aiy y6,RV.d aiy y7,RV.d .bool false]))|false=>(match !((decide (x<0))==(decide (y<0)))with|true=>(match decide (y9>=(-2305843009213693952))with|true=>some [RV.d aiy y9,RV.d aiy y9,RV.d .bool y10]|false=>some [RV.d aiy y9,RV.d aiy y9,RV.d .bool false])|false=>(match decide (y6>=(-2305843009213693952))with|true=>some [RV.d aiy y6,RV.d aiy y6,RV.d .bool (decide (y6<=2305843009213693952))]|false=>some [RV.d aiy y6,RV.d aiy y6,RV.d .bool false]))))))))))
def Uw:Cn 329 [aiy,aiy]:=cn λ(x y:Int)=>lf (scP x y) [.d aiy ((scF x y).1.1),.d aiy ((scF x y).1.2),.d .bool ((scF x y).2)] λh=>by
 refine az adn (S7 x y) ⟨0,?_⟩;obtain⟨hx,hy⟩:=h;have h1:a9 x:=⟨by omega,by omega⟩
 have h2:a9 y:=⟨by omega,by omega⟩
 have h3:im (x.natAbs:Int)/\im (y.natAbs:Int):=⟨⟨by omega,by omega⟩,⟨by omega,by omega⟩⟩
 unfold S7 scF;simp only[bL];rw[dT h1,dT h2,dT h3];have hp:=ahj hx hy;simp only[<-agR,p16,p48,fdv (show(0:Int)<=65536 by decide)];generalize x.natAbs*y.natAbs=p at*
 rw[afo (show ¬(16:Int)<0 by decide),afo (show ¬(48:Int)<0 by decide),show(p:Int)/18446744073709551616=((p/18446744073709551616:Nat):Int) by omega,show(p:Int)%18446744073709551616=((p%18446744073709551616:Nat):Int) by omega,show((p%18446744073709551616:Nat):Int)/65536=((p%18446744073709551616/65536:Nat):Int) by omega,ac5 _ (by omega),show p%18446744073709551616%65536=p%65536 by omega];by_cases hc:p>=1208925819614629174706176
 ·rw[afm hc,show(((p/18446744073709551616:Nat):Int)/65536 !=0)=true by simp;omega];rfl
 ·rw[afo hc,show(((p/18446744073709551616:Nat):Int)/65536 !=0)=false by simp;omega,aea (by omega) (by omega),show p/18446744073709551616*281474976710656+p%18446744073709551616/65536=p/65536 by omega];have hdm:=Nat.div_add_mod p 65536;have hml:=aif p (show 65536>0 by decide);have hru:(p+65535)/65536=if p%65536=0 then p/65536 else p/65536+1:=by split<;>omega
  rw[hru];clear hru;generalize p/65536=q at*
  generalize p%65536=m at*
  have e1:decide ((q:Int)>2305843009213693952)=decide (q>2305843009213693952):=ahJ.2 (by omega);rw[e1];by_cases hd:q>2305843009213693952
  ·rw[afm hd];rfl
  rw[afo hd,aM (x:=(q:Int)) (by omega) (by omega),aM (x:=(q:Int)+1) (by omega) (by omega),aM (x:=0-(q:Int)) (by omega) (by omega),aM (x:=0-((q:Int)+1)) (by omega) (by omega)];have e2:((m:Int) !=0)=!decide (m=0):=by by_cases h:m=0<;>simp[h]
  have e3:decide (0-(q:Int)>= -2305843009213693952)=true:=afm (by omega);have e4:decide (0-(q:Int)<=2305843009213693952)=true:=afm (by omega);have e5:decide ((q:Int)>= -2305843009213693952)=true:=afm (by omega);have e6:decide ((q:Int)<=2305843009213693952)=true:=afm (by omega);have e7:decide (0-((q:Int)+1)>= -2305843009213693952)=decide (q+1<=2305843009213693952):=ahJ.2 (by omega);have e8:decide ((q:Int)+1<=2305843009213693952)=decide (q+1<=2305843009213693952):=ahJ.2 (by omega);have e9:decide (q<=2305843009213693952)=true:=afm (by omega);rw[e2,e3,e4,e5,e6,e7,e8];have f2:((q+1:Nat):Int)=(q:Int)+1:=by omega
  have f3:decide (m=0)=true->m=0:=afp;have f4:decide (m=0)=false->m≠0:=agn;generalize decide (m=0)=d2 at*
  generalize (decide (x<0)==decide (y<0))=d3 at*
  cases d2
  ·rw[afQ (f4 rfl),f2];generalize decide (q+1<=2305843009213693952)=d4 at*
   cases d3<;>cases d4<;>simp
  ·rw[af2 (f3 rfl),e9];cases d3<;>simp
def bi(r:Rt):Iv×Bool:=
 bif !(frF r.1).2||decide (r.2.1=0)then frF r.1
 else bif !(frF r.2.1).2||!(frF r.2.2).2||decide (r.2.2<0)then(iv0,false)
 else bif !(sqF (frF r.2.2).1).2 then(iv0,false)
 else bif !(cD (frF r.2.1).1 (sqF (frF r.2.2).1).1).2 then(iv0,false)
 else dA (frF r.1).1 (cD (frF r.2.1).1 (sqF (frF r.2.2).1).1).1
def jw(n:Rat)(a:Iv)(k:Bool):Iv×Bool:=bif !k||!(frF n).2 then(iv0,false)else cD (frF n).1 a
def apF(a b:Rt):Int×Bool:=
 bif !(bi a).2||!(bi b).2 then(0,false)else bif decide ((bi a).1.2<(bi b).1.1)then(-1,true)else bif decide ((bi a).1.1>(bi b).1.2)then(1,true)else(0,false)
abbrev Pt:=Rat×Rat×Rat×Rat×Rat
abbrev Ln:=Rat×Rat×Rat
def pxR(p:Pt):Rt:=(p.1,p.2.1,p.2.2.2.2)
def pyR(p:Pt):Rt:=(p.2.2.1,p.2.2.2.1,p.2.2.2.2)
def wX(l:Ln)(p:Pt):Int×Bool:=
 bif !(jw l.1 (bi (pxR p)).1 (bi (pxR p)).2).2||!(jw l.2.1 (bi (pyR p)).1 (bi (pyR p)).2).2||!(frF l.2.2).2 then(0,false)
 else bif !(dA (jw l.1 (bi (pxR p)).1 (bi (pxR p)).2).1 (jw l.2.1 (bi (pyR p)).1 (bi (pyR p)).2).1).2 then(0,false)
 else bif !(dA (dA (jw l.1 (bi (pxR p)).1 (bi (pxR p)).2).1 (jw l.2.1 (bi (pyR p)).1 (bi (pyR p)).2).1).1 (lW (frF l.2.2).1)).2 then(0,false)
 else sgF (dA (dA (jw l.1 (bi (pxR p)).1 (bi (pxR p)).2).1 (jw l.2.1 (bi (pyR p)).1 (bi (pyR p)).2).1).1 (lW (frF l.2.2).1)).1
def eT(r:Rt)(q:Rat):Iv×Bool:=bif !(bi r).2||!(frF q).2 then(iv0,false)else dA (bi r).1 (lW (frF q).1)
def tJ(c:Ln)(p:Pt):Int×Bool:=
 bif !(eT (pxR p) c.1).2||!(eT (pyR p) c.2.1).2||!(frF c.2.2).2 then(0,false)
 else bif !(cD (eT (pxR p) c.1).1 (eT (pxR p) c.1).1).2||!(cD (eT (pyR p) c.2.1).1 (eT (pyR p) c.2.1).1).2 then(0,false)
 else bif !(dA (cD (eT (pxR p) c.1).1 (eT (pxR p) c.1).1).1 (cD (eT (pyR p) c.2.1).1 (eT (pyR p) c.2.1).1).1).2 then(0,false)
 else bif !(dA (dA (cD (eT (pxR p) c.1).1 (eT (pxR p) c.1).1).1 (cD (eT (pyR p) c.2.1).1 (eT (pyR p) c.2.1).1).1).1 (lW (frF c.2.2).1)).2 then(0,false)
 else sgF (dA (dA (cD (eT (pxR p) c.1).1 (eT (pxR p) c.1).1).1 (cD (eT (pyR p) c.2.1).1 (eT (pyR p) c.2.1).1).1).1 (lW (frF c.2.2).1)).1
def sfF(m:Rat):Iv:=(sqF (frF m).1).1
def mfF(b:Rat)(i:Iv):Iv:=(cD (frF b).1 i).1
def qu1(q:Qd):Bool:=(frF q.2.2.2.2.1).2&&(sqF (frF q.2.2.2.2.1).1).2&&(frF q.2.2.2.2.2).2&&(sqF (frF q.2.2.2.2.2).1).2
def qu2(q:Qd):Bool:=(frF q.2.1).2&&(cD (frF q.2.1).1 (sfF q.2.2.2.2.1)).2&&(frF q.2.2.1).2&&(cD (frF q.2.2.1).1 (sfF q.2.2.2.2.2)).2&&(frF q.2.2.2.1).2&&(cD (sfF q.2.2.2.2.1) (sfF q.2.2.2.2.2)).2&&(cD (frF q.2.2.2.1).1 (cD (sfF q.2.2.2.2.1) (sfF q.2.2.2.2.2)).1).2
def quA(q:Qd):Iv×Bool:=dA (frF q.1).1 (mfF q.2.1 (sfF q.2.2.2.2.1))
def quB(q:Qd):Iv×Bool:=dA (mfF q.2.2.1 (sfF q.2.2.2.2.2)) (mfF q.2.2.2.1 (cD (sfF q.2.2.2.2.1) (sfF q.2.2.2.2.2)).1)
def qu3(q:Qd):Bool:=(frF q.1).2&&(quA q).2&&(quB q).2&&(dA (quA q).1 (quB q).1).2
def quF(q:Qd):Int×Bool:=bif !(qu1 q)then(0,false)else bif !(qu2 q)then(0,false)else bif !(qu3 q)then(0,false)else sgF (dA (quA q).1 (quB q).1).1
theorem xx(r:Rt):prI (bi r).1:=by
 unfold bi;cases !(frF r.1).2||decide (r.2.1=0)
 ·cases !(frF r.2.1).2||!(frF r.2.2).2||decide (r.2.2<0)
  ·cases !(sqF (frF r.2.2).1).2
   ·cases !(cD (frF r.2.1).1 (sqF (frF r.2.2).1).1).2
    ·exact RE.addF_pr (RE.frF_pr _) (rI _ _)
    ·exact fv
   ·exact fv
  ·exact fv
 ·exact RE.frF_pr _
theorem PW(n:Rat)(a:Iv)(k:Bool):prI (jw n a k).1:=by
 unfold jw;cases !k||!(frF n).2
 ·exact rI _ _
 ·exact fv
theorem Rv(r:Rt)(q:Rat):prI (eT r q).1:=by
 unfold eT;cases !(bi r).2||!(frF q).2
 ·exact RE.addF_pr (xx _) (RE.negF_pr (RE.frF_pr _))
 ·exact fv
namespace RE
theorem oJ{r:Rt}(h:(bi r).2=true):inI (bi r).1 (v2 r.1 r.2.1 r.2.2):=by
 unfold bi at h ⊢;cases e1:(frF r.1).2
 ·rw[e1]at h;simp only[Bool.not_false,Bool.true_or,cond_true]at h;rw[e1]at h;cases h
 ·rw[e1]at h;by_cases hb:r.2.1=0
  ·rw[afm hb]at h ⊢;simp only[Bool.not_true,Bool.false_or,cond_true];unfold v2;rw[hb,vw,zero_mul,add_zero];exact gZ e1
  ·rw[afo hb]at h ⊢;cases e2:(frF r.2.1).2<;>cases e3:(frF r.2.2).2<;>cases e4:decide (r.2.2<0)<;>rw[e2,e3,e4]at h<;>try (cases h;done)
   cases e5:(sqF (frF r.2.2).1).2<;>rw[e5]at h<;>try (cases h;done)
   cases e6:(cD (frF r.2.1).1 (sqF (frF r.2.2).1).1).2<;>rw[e6]at h<;>try (cases h;done)
   have hn:(0:RE)<=of r.2.2:=nt.2 (by have:=agn e4;grind);exact jP (gZ e1) (kY (gZ e2) (wj (gZ e3) hn e5) e6) h
theorem G4{n:Rat}{a:Iv}{k:Bool}{x:RE}(ha:k=true->inI a x)(h:(jw n a k).2=true):inI (jw n a k).1 (of n*x):=by
 unfold jw at h ⊢;cases k
 ·cases h
 ·cases e:(frF n).2<;>rw[e]at h
  ·cases h
  ·exact kY (gZ e) (ha rfl) h
theorem HJ{r:Rt}{q:Rat}(h:(eT r q).2=true):inI (eT r q).1 (v2 r.1 r.2.1 r.2.2+ -of q):=by
 unfold eT at h ⊢;cases e1:(bi r).2<;>cases e2:(frF q).2<;>rw[e1,e2]at h<;>try (cases h;done)
 exact jP (oJ e1) (z6 (gZ e2)) h
theorem RF(x y:RE)(h1:x<y):x-y<0:=by grind
theorem adl(u x y a b:RE):((b-(a)))+((a-(u*x)))+((u*y-(b)))+((u-(0))*(x-(y)))=0:=by grind
theorem ap1(u x y a b:RE)(h1:0<u)(h2:u*x<=a)(h3:a<b)(h4:b<=u*y):x<y:=xN.1 λhg=>far (aS (aS (aS (aX h3) (aK h2)) (aK h4)) (cz (le_of_lt (aX h1)) (aK hg))) (adl u x y a b)
theorem apF_ok{a b:Rt}(h:(apF a b).2=true):(apF a b).1=sg (vR a-vR b):=by
 unfold apF at h ⊢;cases e1:(bi a).2<;>cases e2:(bi b).2<;>rw[e1,e2]at h<;>try (cases h;done)
 obtain⟨a1,a2⟩:=oJ e1;obtain⟨b1,b2⟩:=oJ e2;cases e3:decide ((bi a).1.2<(bi b).1.1)<;>rw[e3]at h
 ·cases e4:decide ((bi a).1.1>(bi b).1.2)<;>rw[e4]at h
  ·cases h
  ·have h4:of ((bi b).1.2:Rat)<of ((bi a).1.1:Rat):=jF (ahL.2 (afp e4));exact(jm (aX (ap1 _ _ _ _ _ nq b2 h4 a1))).symm
 ·have h4:of ((bi a).1.2:Rat)<of ((bi b).1.1:Rat):=jF (ahL.2 (afp e3));exact(nw (RF _ _ (ap1 _ _ _ _ _ nq a2 h4 b1))).symm
theorem QK{l:Ln}{p:Pt}(h:(wX l p).2=true):(wX l p).1=sg (of l.1*v2 p.1 p.2.1 p.2.2.2.2+of l.2.1*v2 p.2.2.1 p.2.2.2.1 p.2.2.2.2+ -of l.2.2):=by
 unfold wX at h ⊢;cases e1:(jw l.1 (bi (pxR p)).1 (bi (pxR p)).2).2<;>cases e2:(jw l.2.1 (bi (pyR p)).1 (bi (pyR p)).2).2<;>cases e3:(frF l.2.2).2<;>rw[e1,e2,e3]at h<;>try (cases h;done)
 have i1:=G4 (x:=v2 p.1 p.2.1 p.2.2.2.2) (λe=>oJ (r:=pxR p) e) e1;have i2:=G4 (x:=v2 p.2.2.1 p.2.2.2.1 p.2.2.2.2) (λe=>oJ (r:=pyR p) e) e2;revert h i1 i2;generalize jw l.1 (bi (pxR p)).1 (bi (pxR p)).2=X;generalize jw l.2.1 (bi (pyR p)).1 (bi (pyR p)).2=Y;intro h i1 i2;cases e4:(dA X.1 Y.1).2<;>rw[e4]at h<;>try (cases h;done)
 cases e5:(dA (dA X.1 Y.1).1 (lW (frF l.2.2).1)).2<;>rw[e5]at h<;>try (cases h;done)
 exact F1 (jP (jP i1 i2 e4) (z6 (gZ e3)) e5) h
theorem RH{c:Ln}{p:Pt}(h:(tJ c p).2=true):(tJ c p).1=sg ((v2 p.1 p.2.1 p.2.2.2.2+ -of c.1)*(v2 p.1 p.2.1 p.2.2.2.2+ -of c.1)+(v2 p.2.2.1 p.2.2.2.1 p.2.2.2.2+ -of c.2.1)*(v2 p.2.2.1 p.2.2.2.1 p.2.2.2.2+ -of c.2.1)+ -of c.2.2):=by
 unfold tJ at h ⊢;cases e1:(eT (pxR p) c.1).2<;>cases e2:(eT (pyR p) c.2.1).2<;>cases e3:(frF c.2.2).2<;>rw[e1,e2,e3]at h<;>try (cases h;done)
 have i1:=HJ e1;have i2:=HJ e2;revert h;generalize eT (pxR p) c.1=X at*
 generalize eT (pyR p) c.2.1=Y at*
 intro h;cases e4:(cD X.1 X.1).2<;>cases e5:(cD Y.1 Y.1).2<;>rw[e4,e5]at h<;>try (cases h;done)
 cases e6:(dA (cD X.1 X.1).1 (cD Y.1 Y.1).1).2<;>rw[e6]at h<;>try (cases h;done)
 cases e7:(dA (dA (cD X.1 X.1).1 (cD Y.1 Y.1).1).1 (lW (frF c.2.2).1)).2<;>rw[e7]at h<;>try (cases h;done)
 exact F1 (jP (jP (kY i1 i1 e4) (kY i2 i2 e5) e6) (z6 (gZ e3)) e7) h
theorem Z6(a b c d:RE):a+b+(c+d)=a+b+c+d:=by grind
theorem quF_ok{q:Qd}(hM:0<=q.2.2.2.2.1)(hN:0<=q.2.2.2.2.2)(h:(quF q).2=true):(quF q).1=sg (vQ q.1 q.2.1 q.2.2.1 q.2.2.2.1 q.2.2.2.2.1 q.2.2.2.2.2):=by
 unfold quF at h ⊢;cases e1:qu1 q<;>rw[e1]at h<;>try (cases h;done)
 cases e2:qu2 q<;>rw[e2]at h<;>try (cases h;done)
 cases e3:qu3 q<;>rw[e3]at h<;>try (cases h;done)
 unfold qu1 at e1;unfold qu2 at e2;unfold qu3 at e3;simp only[afr]at e1 e2 e3;obtain⟨⟨⟨a1,a2⟩,a3⟩,a4⟩:=e1;obtain⟨⟨⟨⟨⟨⟨b1,b2⟩,b3⟩,b4⟩,b5⟩,b6⟩,b7⟩:=e2;obtain⟨⟨⟨c1,c2⟩,c3⟩,c4⟩:=e3;have i1:inI (sfF q.2.2.2.2.1) (rq q.2.2.2.2.1):=wj (gZ a1) (nt.2 hM) a2;have i2:inI (sfF q.2.2.2.2.2) (rq q.2.2.2.2.2):=wj (gZ a3) (nt.2 hN) a4
 have hq:inI (dA (quA q).1 (quB q).1).1 (vQ q.1 q.2.1 q.2.2.1 q.2.2.2.1 q.2.2.2.2.1 q.2.2.2.2.2):=by
  have:=jP (jP (gZ c1) (kY (gZ b1) i1 b2) c2) (jP (kY (gZ b3) i2 b4) (kY (gZ b5) (kY i1 i2 b6) b7) c3) c4;rw[Z6]at this;exact this
 exact F1 hq h
end RE
end Go.Proofs.YtagbmoohboleaaaGreat
end
