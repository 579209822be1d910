/- The reference's Sqrt and Same. -/
import Derived.Test.YtnkndpoojnflmaaGreatG10
noncomputable section
namespace Go.Proofs.YtnkndpoojnflmaaGreat
open Go.RowKit Go.IntKind
theorem ak8:type_of% @Bool.and_eq_true_iff:=@Bool.and_eq_true_iff
theorem amW:type_of% @Int.zero_sub:=@Int.zero_sub
theorem amZ:type_of% @Rat.intCast_mul:=@Rat.intCast_mul
theorem ane:type_of% @decide_eq_true_eq:=@decide_eq_true_eq
theorem anm:type_of% @beq_eq_false_iff_ne:=@beq_eq_false_iff_ne
theorem ans:type_of% @Rat.intCast_lt_intCast:=@Rat.intCast_lt_intCast
theorem an7:type_of% @Rat.neg_neg:=@Rat.neg_neg
theorem mU(a b:Int):(cp a b==0)=decide (a=b):=by
 rcases Int.lt_trichotomy a b with h|h|h
 ·rw[df h,ak0 (by omega)];rfl
 ·rw[h,d7,akY rfl];rfl
 ·rw[cO h,ak0 (by omega)];rfl
def NU:List En:=[enK Ch,enF MA,enK Bi,enK FO,enK Rs]
def To:NT:=[((345,23),{keep:=[1,2,4,5],hl:=6})]
def AE:Ctx:=CX (ens NU) To
def kC(x:Bool×List Int)(b4_0:Bool)(b4_1:List Int):Cfg:=⟨345,[.blk 0],[(1,.box 0 0),(2,.box 1 0),(4,.box 4 0),(5,.box 5 0)],[.box 29 [SB x.1,.d aoh x.2],.box 29 [SB false,.nil],.gone,.row 225 aoj ([1]),.box 29 [SB b4_0,.d aoh b4_1],.box 29 [SB ((ai (2:Int)).1),.d aoh ((ai (2:Int)).2)]],0,[]⟩
def B4(x:Bool×List Int)(k:KT):Option (List RV):=match x.1 with|true=>some [RV.d y2Y (false,[]),RV.d aoi 7]|false=>(match(x.2.length:Int)==0 with|true=>some [RV.d y2Y (false,[]),RV.d aoi 0]|false=>(og (decide ((0:Int)≤i64.wrap (Int.tdiv (i64.wrap ((x.2.length:Int)+1)) 2)∧(i64.wrap (Int.tdiv (i64.wrap ((x.2.length:Int)+1)) 2))*((4:Nat):Int)≤140737488355328∧i64.wrap (Int.tdiv (i64.wrap ((x.2.length:Int)+1)) 2)≤140737488355328)) (og (decide (((List.replicate (i64.wrap (Int.tdiv (i64.wrap ((x.2.length:Int)+1)) 2)).toNat (0:Int)).length+([1]).length)*4≤140737488355328∧(List.replicate (i64.wrap (Int.tdiv (i64.wrap ((x.2.length:Int)+1)) 2)).toNat (0:Int)).length+([1]).length≤140737488355328)) (og (decide (aH (2:Int))) (k 23 (kC x false ((List.replicate (i64.wrap (Int.tdiv (i64.wrap ((x.2.length:Int)+1)) 2)).toNat (0:Int))++([1]))))))))
theorem Ge(x:Bool×List Int):RS AE 345 [.d y2Y x] (B4 x):=rsX
def rN(x:Bool×List Int)(b4_0:Bool)(b4_1:List Int)(k:KT):Option (List RV):=og (decide (fw x (b4_0,b4_1))) (cr (og (decide (okI (b4_0,b4_1)∧okI (ai (ae x/ae (b4_0,b4_1))))) (cr (og (decide (fw (ai (ae (b4_0,b4_1)+ae (ai (ae x/ae (b4_0,b4_1))))) (ai (2:Int)))) (dup (.b .l .l) (og (decide (okI (ai (ae (ai (ae (b4_0,b4_1)+ae (ai (ae x/ae (b4_0,b4_1)))))/ae (ai (2:Int))))∧okI (b4_0,b4_1))) (match decide ((cp (ae (ai (ae (ai (ae (b4_0,b4_1)+ae (ai (ae x/ae (b4_0,b4_1)))))/ae (ai (2:Int))))) (ae (b4_0,b4_1)))≥0)with|true=>some [RV.d y2Y (b4_0,b4_1),RV.d aoi 0]|false=>k 23 (kC x ((ai (ae (ai (ae (b4_0,b4_1)+ae (ai (ae x/ae (b4_0,b4_1)))))/ae (ai (2:Int)))).1) ((ai (ae (ai (ae (b4_0,b4_1)+ae (ai (ae x/ae (b4_0,b4_1)))))/ae (ai (2:Int)))).2)))))) (dup (.b (.b .l .l) (.b .l .l)) (og (decide (fw (ai (ae (b4_0,b4_1)+ae (ai (ae x/ae (b4_0,b4_1))))) (ai (2:Int)))) (og (decide (okI (ai (ae (ai (ae (b4_0,b4_1)+ae (ai (ae x/ae (b4_0,b4_1)))))/ae (ai (2:Int))))∧okI (b4_0,b4_1))) (match decide ((cp (ae (ai (ae (ai (ae (b4_0,b4_1)+ae (ai (ae x/ae (b4_0,b4_1)))))/ae (ai (2:Int))))) (ae (b4_0,b4_1)))≥0)with|true=>some [RV.d y2Y (b4_0,b4_1),RV.d aoi 0]|false=>k 23 (kC x ((ai (ae (ai (ae (b4_0,b4_1)+ae (ai (ae x/ae (b4_0,b4_1)))))/ae (ai (2:Int)))).1) ((ai (ae (ai (ae (b4_0,b4_1)+ae (ai (ae x/ae (b4_0,b4_1)))))/ae (ai (2:Int)))).2)))))))) (dup (.b .l .l) (cr (og (decide (okI (b4_0,b4_1)∧okI (ai (ae x/ae (b4_0,b4_1))))) (dup (.b .l .l) (og (decide (fw (ai (ae (b4_0,b4_1)+ae (ai (ae x/ae (b4_0,b4_1))))) (ai (2:Int)))) (og (decide (okI (ai (ae (ai (ae (b4_0,b4_1)+ae (ai (ae x/ae (b4_0,b4_1)))))/ae (ai (2:Int))))∧okI (b4_0,b4_1))) (match decide ((cp (ae (ai (ae (ai (ae (b4_0,b4_1)+ae (ai (ae x/ae (b4_0,b4_1)))))/ae (ai (2:Int))))) (ae (b4_0,b4_1)))≥0)with|true=>some [RV.d y2Y (b4_0,b4_1),RV.d aoi 0]|false=>k 23 (kC x ((ai (ae (ai (ae (b4_0,b4_1)+ae (ai (ae x/ae (b4_0,b4_1)))))/ae (ai (2:Int)))).1) ((ai (ae (ai (ae (b4_0,b4_1)+ae (ai (ae x/ae (b4_0,b4_1)))))/ae (ai (2:Int)))).2))))))) (og (decide (okI (b4_0,b4_1)∧okI (ai (ae x/ae (b4_0,b4_1))))) (og (decide (fw (ai (ae (b4_0,b4_1)+ae (ai (ae x/ae (b4_0,b4_1))))) (ai (2:Int)))) (og (decide (okI (ai (ae (ai (ae (b4_0,b4_1)+ae (ai (ae x/ae (b4_0,b4_1)))))/ae (ai (2:Int))))∧okI (b4_0,b4_1))) (match decide ((cp (ae (ai (ae (ai (ae (b4_0,b4_1)+ae (ai (ae x/ae (b4_0,b4_1)))))/ae (ai (2:Int))))) (ae (b4_0,b4_1)))≥0)with|true=>some [RV.d y2Y (b4_0,b4_1),RV.d aoi 0]|false=>k 23 (kC x ((ai (ae (ai (ae (b4_0,b4_1)+ae (ai (ae x/ae (b4_0,b4_1)))))/ae (ai (2:Int)))).1) ((ai (ae (ai (ae (b4_0,b4_1)+ae (ai (ae x/ae (b4_0,b4_1)))))/ae (ai (2:Int)))).2)))))))))
theorem wX(x:Bool×List Int)(b4_0:Bool)(b4_1:List Int):RN AE 23 (kC x b4_0 b4_1) (rN x b4_0 b4_1):=rnX
theorem KM(x:BI)(hx:okI x)(h0:0<ae x):∀(m:Nat) (X:Int),X.toNat=m→0<X→bJ (ae x)≤X→szI X≤900000→AE.Runs 23 (kC x (ai X).1 (ai X).2) [.d y2Y (ai (bJ (ae x))),.d aoi 0]:=by
 intro m
 induction m using Nat.strongRecOn with
 |ind m ih=>
  intro X hm hX hs hsz
  obtain⟨g0,g1,g2⟩:=gg (alG h0)
  have hq0:0≤ae x/X:=al1 (by omega) (by omega)
  have hq1:ae x/X≤ae x:=amU _ (by omega)
  have oX:okI (ai X):=aT (by omega)
  have sq:szI (ae x/X)≤1000000:=alc (dD (by omega)) (iN hx)
  have p1:fw x (ai X):=⟨hx,oX,by rw[dec_enc];exact hX⟩
  have ssum:szI (X+ae x/X)≤1000000:=by
   have b1:=nh hsz
   have b2:=nh (iN hx)
   have e:pw 1000000=pw 900000*pw 100000:=by rw[←fB]
   have p9:(1000:Int)≤pw 100000:=by
    have:pw 100000=pw 99999*1000000000:=b8 99999
    have:=co 99999
    omega
   have p8:=co 900000
   have h8:pw 900000*1000≤pw 900000*pw 100000:=ak6 p9 (by omega)
   rcases alu X 2 with hX1|hX1
   ·-- X=1:then the number is less than 4
    have:X=1:=by omega
    subst this
    have:bJ (ae x)≤1:=hs
    have h4:ae x<4:=by
     have:=tc (a:=bJ (ae x)+1) (b:=2) (by omega) (by omega)
     omega
    refine fu ?_ ?_<;>(rw[e,Int.ediv_one];omega)
   ·have hq2:ae x/X≤ae x/2:=by
     have:=Int.ediv_mul_le (ae x) (show X≠0 by omega)
     have h2:ae x/X*2≤ae x/X*X:=ak6 hX1 hq0
     omega
    refine fu ?_ ?_<;>(rw[e]at b2 ⊢;omega)
  have o1:okI (ai X)∧okI (ai (ae x/X)):=⟨oX,aT sq⟩
  have p2:fw (ai (X+ae x/X)) (ai 2):=⟨aT ssum,by decide,by rw[dec_enc];decide⟩
  have hn:=RA hX g0 g1
  have o2:okI (ai ((X+ae x/X)/2))∧okI (ai X):=⟨aT (alc (dD (by omega)) ssum),oX⟩
  by_cases hc:X≤(X+ae x/X)/2
  ·have hXs:=wZ hX hs g1 g2 g0 hc
   refine wX _ _ _ ⟨0,?_⟩
   unfold rN
   simp only[cS,eZ]
   have e:∀z:Int,((ai z).1,(ai z).2)=ai z:=fun z=>rfl
   simp only[e,dec_enc,akY p1,akY o1,akY p2,akY o2]
   have hg:decide (cp ((X+ae x/X)/2) X≥0)=true:=by
    rcases Int.lt_or_eq_of_le hc with h|h
    ·rw[cO h];rfl
    ·rw[←h,d7];rfl
   rw[hg,hXs]
  ·obtain⟨n,hN⟩:=ih ((X+ae x/X)/2).toNat (by omega) ((X+ae x/X)/2) rfl (by
    rcases alu 0 (bJ (ae x))with h|h
    ·omega
    ·exfalso
     have:bJ (ae x)=0:=by omega
     rw[this]at g2
     omega) hn (alc (dD (by omega)) hsz)
   refine wX _ _ _ ⟨n,?_⟩
   unfold rN
   simp only[cS,eZ]
   have e:∀z:Int,((ai z).1,(ai z).2)=ai z:=fun z=>rfl
   simp only[e,dec_enc,akY p1,akY o1,akY p2,akY o2]
   rw[df (by omega)]
   exact hN
def aav:Cn 345 [y2Y]:=cn fun(x:Bool×List Int)=>lf (okI x) [.d y2Y (fE x),.d aoi (vL x)] fun h=>by
 refine c8 NU (show AE.Res _ _ _ from ?_)
 obtain⟨x0,x1,x2⟩:=cE h
 have hl:=h.2.2
 cases hn:x.1
 ·by_cases hz:x.2=[]
  ·refine Ge _ ⟨0,?_⟩
   unfold B4 fE vL
   have:ae x=0:=by unfold ae;rw[hn,hz];rfl
   rw[hn,hz,this]
   rfl
  ·have hp:0<val x.2:=eU h.1 hz
   have hd:ae x=val x.2:=by unfold ae;rw[hn];rfl
   have hlen:=alB.2 hz
   have hk:i64.wrap (Int.tdiv (i64.wrap ((x.2.length:Int)+1)) 2)=(((x.2.length+1)/2:Nat):Int):=by
    rw[bV (by omega),ic (by omega),aS (by omega) (by omega)]
    omega
   have hv:val (List.replicate ((x.2.length+1)/2) 0++[1])=pw ((x.2.length+1)/2):=by
    rw[dG,gS,anA]
    simp[val]
   have hL:aQ (List.replicate ((x.2.length+1)/2) 0++[1]):=by
    refine⟨fun y hy=>?_,by simp;omega⟩
    rcases alJ.1 hy with hy|hy
    ·have:=List.eq_of_mem_replicate hy;omega
    ·simp at hy;omega
   have hpos:=co ((x.2.length+1)/2)
   obtain⟨n,hN⟩:=KM x h (by omega) _ (pw ((x.2.length+1)/2)) rfl hpos (by
     obtain⟨g0,g1,g2⟩:=gg (show 0≤ae x by omega)
     have hlt:=bW h.1.1
     have hm:=du (show x.2.length≤(x.2.length+1)/2+(x.2.length+1)/2 by omega)
     rw[fB]at hm
     have:=sq_lt (a:=bJ (ae x)) (b:=pw ((x.2.length+1)/2)) (by omega) (by omega)
     omega) (fu (k:=900000) (by have:=co 900000;omega) (by
      have:=du (show(x.2.length+1)/2+1≤900000 by omega)
      rw[b8]at this
      omega))
   refine Ge _ ⟨n,?_⟩
   unfold B4 fE vL
   simp only[hk]
   rw[hn,show((x.2.length:Int)==0)=false by simp;omega]
   simp only[amF]
   rw[akY (show(0:Int)≤(((x.2.length+1)/2:Nat):Int)∧(((x.2.length+1)/2:Nat):Int)*((4:Nat):Int)≤140737488355328∧(((x.2.length+1)/2:Nat):Int)≤140737488355328 by omega)]
   rw[akY (show((List.replicate ((x.2.length+1)/2) (0:Int)).length+([1]:List Nat).length)*4≤140737488355328∧(List.replicate ((x.2.length+1)/2) (0:Int)).length+([1]:List Nat).length≤140737488355328 by simp;omega)]
   rw[akY (show aH 2 by decide)]
   have he:ai (pw ((x.2.length+1)/2))=(false,List.replicate ((x.2.length+1)/2) 0++[1]):=by
    have ho:okI ((false,List.replicate ((x.2.length+1)/2) 0++[1]):BI):=⟨⟨hL.1,by simp⟩,(fun e=>by cases e),(by simp;omega)⟩
    rw[ip ho]
    congr 1
    exact hv.symm
   rw[he]at hN
   exact hN
 ·refine Ge _ ⟨0,?_⟩
  unfold B4 fE vL
  rw[hn]
  rfl
def afE:List En:=enF xC::NU
def LP(x y:Bool×List Int)(_k:KT):Option (List RV):=match x.1==y.1 with|true=>(og (decide (qY x.2 y.2)) (some [RV.d .bool ((cp (val x.2) (val y.2))==0)]))|false=>some [RV.d .bool false]
def Qe:Cn 324 [y2Y,y2Y]:=cn fun(x y:Bool×List Int)=>lf (okI x∧okI y) [.d .bool (decide (ae x=ae y))] fun h=>by
 refine aA afE (LP x y) ⟨0,?_⟩
 obtain⟨hx,hy⟩:=h
 obtain⟨x0,x1,x2⟩:=cE hx
 obtain⟨y0,y1,y2⟩:=cE hy
 unfold LP
 rw[dT (show qY x.2 y.2 from⟨⟨hx.1,by have:=hx.2.2;omega⟩,⟨hy.1,by have:=hy.2.2;omega⟩⟩)]
 rw[bL,bL]
 unfold cd
 cases ex:x.1<;>cases ey:y.1<;>simp only[cond_true,cond_false]
 ·show some [RV.d .bool (cp (val x.2) (val y.2)==0)]=_
  rw[mU]
 ·have:=y1 ey
  rw[ak0 (show ¬val x.2= -val y.2 by omega)]
  rfl
 ·have:=x1 ex
  rw[ak0 (show ¬ -val x.2=val y.2 by omega)]
  rfl
 ·show some [RV.d .bool (cp (val x.2) (val y.2)==0)]=_
  rw[mU,show decide (val x.2=val y.2)=decide (-val x.2= -val y.2) from amb.2 (by omega)]
def fD(q:Rat):Bool:=decide (bJ q.num*bJ q.num=q.num)&&decide (bJ (q.den:Int)*bJ (q.den:Int)=(q.den:Int))
def rtQ(q:Rat):Rat:=mkRat (bJ q.num) (bJ (q.den:Int)).toNat
theorem AM(z:Int):0≤bJ z:=by unfold bJ;omega
theorem Bc{s:Int}(h:0≤s):bJ (s*s)=s:=UP h (Int.le_refl _) (by grind)
theorem oS{z:Int}(h:z<0):bJ z=0:=by
 unfold bJ
 rw[show z.toNat=0 by omega]
 rfl
theorem aeV{s t:Nat}(ht:0<t)(hg:(s*s).Coprime (t*t)):(mkRat (s:Int) t).num=(s:Int)∧(mkRat (s:Int) t).den=t:=by
 have hc:s.Coprime t:=Nat.Coprime.coprime_dvd_left (Nat.dvd_mul_left s s) (Nat.Coprime.coprime_dvd_right (Nat.dvd_mul_left t t) hg)
 rw[an1,an2,alm (by omega),alm (by omega),amy,show t.gcd s=1 from hc.symm]
 simp
theorem GZ{q:Rat}(h:fD q=true):(rtQ q).num=bJ q.num∧((rtQ q).den:Int)=bJ (q.den:Int)∧rtQ q*rtQ q=q∧0≤rtQ q:=by
 unfold fD at h
 simp only[ak2,ane]at h
 obtain⟨h1,h2⟩:=h
 have hd:=q.den_pos
 have hr:=q.reduced
 obtain⟨s,hs⟩:=ama (AM q.num)
 obtain⟨t,ht⟩:=ama (AM (q.den:Int))
 unfold rtQ
 rw[hs,ht,amF]
 rw[hs]at h1
 rw[ht]at h2
 have e1:q.num.natAbs=s*s:=by rw[←h1,←amw,amy]
 have e2:q.den=t*t:=by rw[←amw]at h2;omega
 have hg:(s*s).Coprime (t*t):=by rw[←e1,←e2];exact hr
 have tp:0<t:=Nat.pos_of_ne_zero fun e=>by rw[e2,e]at hd;simp at hd
 obtain⟨g1,g2⟩:=aeV tp hg
 refine⟨g1,by rw[g2],?_,?_⟩
 ·rw[Rat.mkRat_mul_mkRat,←e2,h1,Rat.mkRat_self]
 ·exact Rat.num_nonneg.1 (by rw[g1];omega)
theorem TR(r:Rat):fD (r*r)=true:=by
 have hd:=r.den_pos
 have hc:(r.den*r.den).gcd (r.num*r.num).natAbs=1:=by
  rw[anQ]
  have:=r.reduced.symm
  exact Nat.Coprime.mul_left (Nat.Coprime.mul_right this this) (Nat.Coprime.mul_right this this)
 have e1:(r*r).num=r.num*r.num:=by
  rw[Rat.mul_def',an1,hc,alm (anE (by omega) (by omega))]
  simp
 have e2:((r*r).den:Int)=(r.den:Int)*(r.den:Int):=by
  rw[Rat.mul_def',an2,hc,alm (anE (by omega) (by omega)),Nat.div_one,amw]
 unfold fD
 rw[e1,e2,Bc (s:=(r.den:Int)) (by omega)]
 rcases alu r.num 0 with h|h
 ·rw[show r.num*r.num= -r.num* -r.num by grind,Bc (by omega)]
  simp
 ·rw[Bc h]
  simp
def rtB(q:Rat):BR:=bif fD q then am (rtQ q)else((false,[]),(false,[]))
theorem Aq{x:BI}(h:okI x):fE x=ai (bJ (ae x)):=by
 obtain⟨x0,x1,x2⟩:=cE h
 unfold fE
 cases hx:x.1
 ·rfl
 ·have:=x1 hx
  have hd:ae x= -val x.2:=by rw[bL,hx];rfl
  rw[hd,oS (by omega)]
  rfl
theorem IJ{z:Int}(h:szI z≤1000000):szI (bJ z)≤500000:=by
 have h1:=nh h
 have e:pw 1000000=pw 500000*pw 500000:=by rw[←fB]
 have hp:=co 500000
 rcases alu z 0 with h0|h0
 ·rw[oS h0];exact fu (by omega) hp
 ·obtain⟨g0,g1,g2⟩:=gg h0
  have:=sq_lt (a:=bJ z) (b:=pw 500000) (by omega) (by omega)
  exact fu (by omega) this
theorem Nm(a b:Int):(ai a==ai b)=decide (a=b):=by
 by_cases h:a=b
 ·rw[h,akY rfl];simp
 ·rw[ak0 h,anm]
  intro e
  exact h (by rw[←dec_enc a,e,dec_enc])
theorem Hn{x y:BI}(hx:okI x)(hy:okI y):(x==y)=decide (ae x=ae y):=by
 rw[ip hx,ip hy,Nm,dec_enc,dec_enc]
def Gw:ef:=spN true true [tI,tI] (fun x=>decide (okI x.1∧okI x.2.1)) (fun x=>[RV.d aoi (cp (ae x.1) (ae x.2.1))])
theorem Eu:SpK 172 Gw:=spX fun x h=>IB x.1 x.2.1 (ak1 h)
def Ff:ef:=spN false true [tI,tI] (fun x=>decide (okI x.1∧okI x.2.1)) (fun x=>[RV.d tI (hid (ai (ae x.1*ae x.2.1)))])
theorem Ds:SpK 173 Ff:=spX fun x h=>by simp only[bK];exact Jp x.1 x.2.1 (ak1 h)
def YZ:List En:=[⟨172,Gw,Eu⟩,⟨173,Ff,Ds⟩,enL Zi]
def X2(x:BI)(_k:KT):Option (List RV):=og (decide (okI x)) (match(vL x)==0 with|true=>(og (decide (okI (hid (fE x))∧okI (hid (fE x)))) (og (decide (okI (hid (ai (ae (hid (fE x))*ae (hid (fE x)))))∧okI x)) (some [RV.d tI (hid (fE x)),RV.d .bool ((cp (ae (hid (ai (ae (hid (fE x))*ae (hid (fE x)))))) (ae x))==0)])))|false=>some [RV.d tI (hid (fE x)),RV.d .bool false])
def adP:Cn 330 [tI]:=cn fun(x:BI)=>lf (okI x) [.d tI (ai (bJ (ae x))),.d .bool (decide (bJ (ae x)*bJ (ae x)=ae x))] fun h=>by
 refine aA YZ (X2 x) ⟨0,?_⟩
 have hs:=iN h
 have hz:szI (bJ (ae x))≤500000:=IJ hs
 have o1:okI (ai (bJ (ae x))):=aT (by omega)
 have o2:okI (ai (bJ (ae x)*bJ (ae x))):=aT (by have:=cN hz hz;omega)
 have o3:okI (ai (bJ (ae x)*bJ (ae x)))∧okI x:=⟨o2,h⟩
 have o4:okI (ai (bJ (ae x)))∧okI (ai (bJ (ae x))):=⟨o1,o1⟩
 have hng:x.1=true→decide (bJ (ae x)*bJ (ae x)=ae x)=false:=fun e=>ak0 (by
  have:=(cE h).2.1 e
  have hd:ae x= -val x.2:=by rw[bL,e];rfl
  rw[oS (by omega)]
  omega)
 unfold X2
 simp only[bK,Aq h,dec_enc,dT h,dT o4,dT o3,mU]
 unfold vL
 cases e:x.1
 ·rfl
 ·rw[hng e];rfl
def agJ:List En:=enL adP::YZ
def WO(a:BR)(_k:KT):Option (List RV):=og (decide (okI a.1)) (match decide (bJ (ae a.1)*bJ (ae a.1)=ae a.1)with|true=>(og (decide (okI a.2)) (match decide (bJ (ae a.2)*bJ (ae a.2)=ae a.2)with|true=>some [RV.d tR (hid (ai (bJ (ae a.1))),hid (ai (bJ (ae a.2)))),RV.d .bool true]|false=>some [RV.d tR ((false,[]),(false,[])),RV.d .bool false]))|false=>some [RV.d tR ((false,[]),(false,[])),RV.d .bool false])
def ZM:Cn 291 [tR]:=cn fun(a:BR)=>lf (okR a) [.d tR (rtB (ah a)),.d .bool (fD (ah a))] fun h=>by
 refine aA agJ (WO a) ⟨0,?_⟩
 obtain⟨a1,a2⟩:=cM h
 unfold WO rtB fD
 rw[dT h.1,dT h.2.1,a1,a2]
 simp only[bK]
 cases e1:decide (bJ (ae a.1)*bJ (ae a.1)=ae a.1)
 ·rfl
 ·cases e2:decide (bJ (ae a.2)*bJ (ae a.2)=ae a.2)
  ·rfl
  ·obtain⟨r1,r2,_⟩:=GZ (q:=ah a) (by unfold fD;rw[a1,a2,e1,e2];rfl)
   simp only[amx,cond_true]
   unfold am
   rw[r1,r2,a1,a2]
   try rfl
def N5:List En:=[enL Sf,enL aav,enT Qe]
def Rn(x:BI)(_k:KT):Option (List RV):=og (decide (okI x)) (match(vL x)==0 with|true=>(og (decide (okI (hid (fE x))∧okI (hid (fE x)))) (og (decide (okI (hid (ai (ae (hid (fE x))*ae (hid (fE x)))))∧okI x)) (some [RV.d tI (hid (fE x)),RV.d .bool (decide (ae (hid (ai (ae (hid (fE x))*ae (hid (fE x)))))=ae x))])))|false=>some [RV.d tI (hid (fE x)),RV.d .bool false])
def aae:Cn 313 [tI]:=cn fun(x:BI)=>lf (okI x) [.d tI (ai (bJ (ae x))),.d .bool (decide (bJ (ae x)*bJ (ae x)=ae x))] fun h=>by
 refine aA N5 (Rn x) ⟨0,?_⟩
 have hs:=iN h
 have hz:szI (bJ (ae x))≤500000:=IJ hs
 have o1:okI (ai (bJ (ae x))):=aT (by omega)
 have o2:okI (ai (bJ (ae x)*bJ (ae x))):=aT (by have:=cN hz hz;omega)
 have o3:okI (ai (bJ (ae x)*bJ (ae x)))∧okI x:=⟨o2,h⟩
 have o4:okI (ai (bJ (ae x)))∧okI (ai (bJ (ae x))):=⟨o1,o1⟩
 have hng:x.1=true→decide (bJ (ae x)*bJ (ae x)=ae x)=false:=fun e=>ak0 (by
  have:=(cE h).2.1 e
  have hd:ae x= -val x.2:=by rw[bL,e];rfl
  rw[oS (by omega)]
  omega)
 unfold Rn
 simp only[bK,Aq h,dec_enc,dT h,dT o4,dT o3]
 unfold vL
 cases e:x.1
 ·rfl
 ·rw[hng e];rfl
def abf:List En:=enL aae::N5
def OU(a:BR)(_k:KT):Option (List RV):=og (decide (okI a.1)) (og (decide (okI a.2)) (match !(decide (bJ (ae a.1)*bJ (ae a.1)=ae a.1))with|true=>some [RV.d tR ((false,[]),(false,[])),RV.d .bool false]|false=>(match !(decide (bJ (ae a.2)*bJ (ae a.2)=ae a.2))with|true=>some [RV.d tR ((false,[]),(false,[])),RV.d .bool false]|false=>some [RV.d tR (hid (ai (bJ (ae a.1))),hid (ai (bJ (ae a.2)))),RV.d .bool true])))
def Ot:Cn 242 [tR]:=cn fun(a:BR)=>lf (okR a) [.d tR (rtB (ah a)),.d .bool (fD (ah a))] fun h=>by
 refine aA abf (OU a) ⟨0,?_⟩
 obtain⟨a1,a2⟩:=cM h
 unfold OU rtB fD
 rw[dT h.1,dT h.2.1,a1,a2]
 simp only[bK]
 cases e1:decide (bJ (ae a.1)*bJ (ae a.1)=ae a.1)
 ·rfl
 ·cases e2:decide (bJ (ae a.2)*bJ (ae a.2)=ae a.2)
  ·rfl
  ·obtain⟨r1,r2,_⟩:=GZ (q:=ah a) (by unfold fD;rw[a1,a2,e1,e2];rfl)
   simp only[amx,cond_true]
   unfold am
   rw[r1,r2,a1,a2]
   try rfl
def K9:ef:=spN false true [tI,tI] (fun x=>decide (fw x.1 x.2.1)) (fun x=>[RV.d tI (hid (ai (ae x.1/ae x.2.1))),RV.d tI (hid (ai (ae x.1%ae x.2.1))),RV.d aoi 0])
theorem NV:SpK 341 K9:=spX fun x h=>by simp only[bK];exact Ho x.1 x.2.1 (ak1 h)
def aif:List En:=[⟨341,K9,NV⟩]
def Ze(a:BR)(_k:KT):Option (List RV):=og (decide (fw a.1 a.2)) (some [RV.d tI (hid (ai (ae a.1/ae a.2)))])
def Mw:Cn 355 [tR]:=cn fun(a:BR)=>lf (okR a) [.d tI (ai (ah a).floor)] fun h=>by
 refine aA aif (Ze a) ⟨0,?_⟩
 obtain⟨a1,a2⟩:=cM h
 unfold Ze
 rw[dT (show fw a.1 a.2 from⟨h.1,h.2.1,h.2.2.1⟩),Rat.floor_def,a1,a2]
 simp only[bK]
def YI:List En:=[enK xI]
def VB:NT:=[((323,6),{keep:=[1,3],hl:=1})]
def AS:Ctx:=CX (ens YI) VB
def wr(x:BI)(s3:Int):Cfg:=⟨323,[.blk 0,.seq 23],[(1,.box 0 0),(3,SI s3)],[.box 29 [SB x.1,.d aoh x.2]],0,[]⟩
def abF(x:BI)(k:KT):Option (List RV):=k 6 (wr x 0)
theorem abL(x:BI):RS AS 323 [.d tI x] (abF x):=rsX
def vg(x:BI)(s3:Int)(k:KT):Option (List RV):=match decide (s3<(x.2.length:Int))with|true=>(match aR x.2 s3 with|some x1=>(match decide (x1≥1000000000)with|true=>some [RV.d .bool false]|false=>k 6 (wr x (i64.wrap (s3+1))))|none=>none)|false=>(og (decide (aQ x.2)) (match((ag (val x.2).toNat).length:Int)==(x.2.length:Int)with|true=>(match !x.1 with|true=>some [RV.d .bool true]|false=>some [RV.d .bool (decide ((x.2.length:Int)>0))])|false=>some [RV.d .bool false]))
theorem yU(x:BI)(s3:Int):RN AS 6 (wr x s3) (vg x s3):=rnX
theorem KD(x:BI)(h:okI x):∀(j i:Nat),i+j=x.2.length→AS.Runs 6 (wr x (i:Int)) [.d .bool true]:=by
 obtain⟨x0,x1,x2⟩:=cE h
 have hlim:=gb h
 have hl:=h.2.2
 intro j
 induction j with
 |zero=>
  intro i hi
  refine yU _ _ ⟨0,?_⟩
  unfold vg
  have hc:ag (val x.2).toNat=x.2:=(oC h.1).symm
  rw[b9 (by omega),dT hlim,hc,beq_self_eq_true]
  dsimp only
  cases e:x.1
  ·rfl
  ·have:=x1 e
   have:x.2≠[]:=fun e=>by rw[x2]at e;omega
   have:=alB.2 this
   rw[akY (by omega)]
   rfl
 |succ j ih=>
  intro i hi
  have hil:i<x.2.length:=by omega
  obtain⟨q,hq⟩:=ih (i+1) (by omega)
  refine yU _ _ ⟨q,?_⟩
  unfold vg
  have hb:=(hlim.1 x.2[i] (alz hil)).2
  rw[bH hil,ao,akZ hil,bV (by omega)]
  dsimp only
  rw[ak0 (by omega)]
  exact hq
def acg:Cn 323 [tI]:=cn fun(x:BI)=>lf (okI x) [.d .bool true] fun h=>by
 refine c8 YI (show AS.Res _ _ _ from ?_)
 obtain⟨q,hq⟩:=KD x h x.2.length 0 (by omega)
 exact abL _ ⟨q,hq⟩
def ahz:List En:=[enT Qe,enT acg,enT Q6,enL KS,enL N9]
def Lq(a:BR)(_k:KT):Option (List RV):=og (decide (okI a.1)) (og (decide (okI a.2)) (og (decide (okI a.2)) (match(cp (ae a.2) 0) !=1 with|true=>some [RV.d .bool false]|false=>(og (decide (okI a.1∧okI a.2)) (og (decide (okI (hid (ai ((Int.gcd (ae a.1) (ae a.2):Nat):Int)))∧okI (hid (ai 1)))) (some [RV.d .bool (decide (ae (hid (ai ((Int.gcd (ae a.1) (ae a.2):Nat):Int)))=ae (hid (ai 1))))]))))))
def aaN:Cn 272 [tR]:=cn fun(a:BR)=>lf (okR a) [.d .bool true] fun h=>by
 refine aA ahz (Lq a) ⟨0,?_⟩
 obtain⟨h1,h2,h3,h4,_⟩:=h
 have o1:okI (ai ((Int.gcd (ae a.1) (ae a.2):Nat):Int)):=by rw[h4];exact pV
 unfold Lq
 simp only[bK]
 rw[dT h1,dT h2,dT (show okI a.1∧okI a.2 from⟨h1,h2⟩),cO h3,dT (show okI (ai ((Int.gcd (ae a.1) (ae a.2):Nat):Int))∧okI (ai 1) from⟨o1,pV⟩),dec_enc,dec_enc,h4]
 rfl
def mkR(a b c:Rat):Rt:=bif fD c then(a+b*rtQ c,0,0)else bif decide (b=0)then(a,0,0)else(a,b,c)
def coR(a b c:Rat):Rt:=bif decide (b=0)then(a,0,0)else(a,b,c)
class Nn (c:Rat):Prop where le:0≤c
def TK(x:Rt):Prop:=(x.2.1=0∧x.2.2=0)∨(x.2.1≠0∧0<x.2.2∧fD x.2.2=false)
instance (x:Rt):Decidable (TK x):=by unfold TK;infer_instance
class Rdd (x:Rt):Prop where
 rd:TK x
def okT(k:Nat)(x:BO3):Prop:=ok Rt k x∧TK (dec x)
instance (k:Nat) (x:BO3):Decidable (okT k x):=by unfold okT;infer_instance
theorem gn{k:Nat}{x:BO3}(h:okT k x):∃v:Rt,x=enc v∧Bd v k∧Rdd v:=by
 obtain⟨h1,h2⟩:=h
 obtain⟨v,rfl,bv⟩:=aG h1
 rw[az]at h2
 exact⟨v,rfl,bv,⟨h2⟩⟩
theorem aM{x:Rt}{j k:Nat}[h:Bd x j][r:Rdd x](hj:j≤k)(hk:k≤480000):decide (okT k (enc x))=true:=akY ⟨ak1 (okd hj hk),by rw[az];exact r.rd⟩
theorem Rdd.nn{x:Rt}(h:Rdd x):0≤x.2.2:=by
 rcases h.rd with h|h<;>grind
instance akO {x:Rt} [h:Rdd x]:Nn x.2.2:=⟨h.nn⟩
theorem tM:fD 0=true:=by decide+kernel
theorem Jr{c:Rat}(h:0≤c)(hc:fD c=false):0<c:=by
 rcases(by grind:c=0∨0<c)with h|h
 ·rw[h,tM]at hc;cases hc
 ·exact h
instance sS {a b c:Rat} [h:Nn c]:Rdd (mkR a b c):=by
 refine⟨?_⟩
 unfold mkR
 cases hc:fD c
 ·simp only[cond_false]
  by_cases hb:b=0
  ·rw[akY hb];exact .inl ⟨rfl,rfl⟩
  ·rw[ak0 hb];exact .inr ⟨hb,Jr h.le hc,hc⟩
 ·exact .inl ⟨rfl,rfl⟩
instance ada {a:Rat}:Rdd (a,0,0):=⟨.inl ⟨rfl,rfl⟩⟩
namespace RE
theorem Rm{c:Rat}(h:fD c=true):rq c=of (rtQ c):=by
 obtain⟨_,_,e,h0⟩:=GZ h
 refine Dt _ _ (gh c) (gN.2 h0) ?_
 rw[dB (by rw[←e];exact alj h0 h0),←aE,e]
theorem Ip:rq 0=0:=by
 have:=dB (Rat.le_refl:(0:Rat)≤0)
 rcases fh (gh 0)with h|h
 ·have:=mul_pos h h
  rw[dB Rat.le_refl]at this
  exact absurd this (lt_irrefl _)
 ·exact h
theorem dS(a c:Rat):v2 a 0 c=of a:=by
 unfold v2
 rw[nj,zero_mul,add_zero]
theorem vR_mk(a b c:Rat):vR (mkR a b c)=v2 a b c:=by
 unfold mkR vR
 cases hc:fD c
 ·simp only[cond_false]
  by_cases hb:b=0
  ·rw[akY hb];subst hb;show v2 a 0 0=_;rw[dS,dS]
  ·rw[ak0 hb];rfl
 ·show v2 (a+b*rtQ c) 0 0=_
  rw[dS]
  unfold v2
  rw[Rm hc,of_add,aE]
theorem vR_co(a b c:Rat):vR (coR a b c)=v2 a b c:=by
 unfold coR vR
 by_cases hb:b=0
 ·rw[akY hb];subst hb;show v2 a 0 0=_;rw[dS,dS]
 ·rw[ak0 hb];rfl
end RE
theorem U9{z:Int}(h:0≤z):bJ z≤z:=by
 obtain⟨g0,g1,g2⟩:=gg h
 rcases alu (bJ z) 1 with h'|h'
 ·omega
 ·have:bJ z*1≤bJ z*bJ z:=ak6 h' g0
  omega
theorem DN(z:Int):szI (bJ z)≤szI z:=by
 have h0:=AM z
 rcases alu z 0 with h|h
 ·rw[oS h];exact dD (by omega)
 ·have:=U9 h
  exact dD (by omega)
instance akI {c:Rat} {k:Nat} [h:Bd c k]:Bd (rtQ c) k:=by
 have hd:=c.den_pos
 have h1:0<bJ (c.den:Int):=by
  obtain⟨g0,g1,g2⟩:=gg (show(0:Int)≤(c.den:Int) by omega)
  rcases alu 0 (bJ (c.den:Int))with h|h
  ·exact h
  ·rw[show bJ (c.den:Int)=0 by omega]at g2;omega
 refine⟨u9 (by omega) (alc (DN _) h.le.1) ?_⟩
 rw[Int.toNat_of_nonneg (by omega)]
 exact alc (DN _) h.le.2
instance ajr {a b c:Rat} {i j k:Nat} [ha:Bd a i] [hb:Bd b j] [hc:Bd c k]:Bd (mkR a b c) (i+(j+k)+1):=by
 have z:bdR (i+(j+k)+1) 0:=bI ls.le (by omega)
 refine⟨?_⟩
 unfold mkR
 cases fD c
 ·simp only[cond_false]
  cases decide (b=0)
  ·exact⟨bI ha.le (by omega),bI hb.le (by omega),bI hc.le (by omega)⟩
  ·exact⟨bI ha.le (by omega),z,z⟩
 ·exact⟨(inferInstance:Bd (a+b*rtQ c) (i+(j+k)+1)).le,z,z⟩
instance akw {a b c:Rat} {i j k:Nat} [ha:Bd a i] [hb:Bd b j] [hc:Bd c k]:Bd (coR a b c) (mx i (mx j k)):=by
 have h1:=BZ i (mx j k)
 have h2:=BL i (mx j k)
 have h3:=BZ j k
 have h4:=BL j k
 have h5:=nf ha.le
 have z:bdR (mx i (mx j k)) 0:=bI ls.le (by omega)
 refine⟨?_⟩
 unfold coR
 cases decide (b=0)
 ·exact⟨bI ha.le (by omega),bI hb.le (by omega),bI hc.le (by omega)⟩
 ·exact⟨bI ha.le (by omega),z,z⟩
class Ns (c:Rat):Prop where ns:c=0∨(0<c∧fD c=false)
theorem Ns.nn{c:Rat}(h:Ns c):0≤c:=by rcases h.ns with h|h<;>grind
instance akG {c:Rat} [h:Ns c]:Nn c:=⟨h.nn⟩
theorem acC{a b c:Rat}{i j k:Nat}[ha:Bd a i][hb:Bd b j][hc:Bd c k][hn:Ns c]:Bd (mkR a b c) (mx (i+j+2) k):=by
 have h1:=BZ (i+j+2) k
 have h2:=BL (i+j+2) k
 have z:bdR (mx (i+j+2) k) 0:=bI ls.le (by omega)
 refine⟨?_⟩
 unfold mkR
 rcases hn.ns with h|h
 ·subst h
  rw[tM]
  have e:rtQ 0=0:=by decide+kernel
  exact⟨by show bdR _ (a+b*rtQ 0);rw[e];exact bI (AB ha.le (AL hb.le ls.le)) (by omega),z,z⟩
 ·rw[h.2]
  simp only[cond_false]
  cases decide (b=0)
  ·exact⟨bI ha.le (by omega),bI hb.le (by omega),bI hc.le (by omega)⟩
  ·exact⟨bI ha.le (by omega),z,z⟩
def sgR(x:Rt):Int:=gE x.1 x.2.1 x.2.2
def noR(x:Rt):Rat:=x.1*x.1-x.2.1*x.2.1*x.2.2
theorem Ft{x:Rt}(h:0≤x.2.2):sgR x=RE.sg (RE.vR x):=RE.sgn2_re h
def mz(a b c:Rat):Rt:=bif decide (b=0)then(a,0,0)else bif decide (c=0)then(a,0,0)else(a,b,c)
instance aiR {x:Rt} {k:Nat} [h:Bd x k]:Bd (noR x) (5*k+1):=(inferInstance:Bd (x.1*x.1-x.2.1*x.2.1*x.2.2) (k+k+(k+k+k)+1)).mono (by omega)
theorem NM{c:Rat}(h:fD c=true):rtB c=am (rtQ c):=by unfold rtB;rw[h];rfl
theorem Z8{x:Rt}(h:Rdd x)(hb:x.2.1≠0):noR x≠0:=by
 intro e
 rcases h.rd with h|⟨_,h1,h2⟩
 ·exact hb h.1
 ·unfold noR at e
  have:x.2.2=x.1/x.2.1*(x.1/x.2.1):=by grind
  rw[this,TR]at h2
  cases h2
theorem Zo{x:Rt}(h:Rdd x):sgR x=bif aD x.2.1 0==0 then aD x.1 0 else bif aD x.1 0==aD x.2.1 0 then aD x.1 0 else bif aD x.1 0==0 then aD x.2.1 0 else aD x.1 0*aD (noR x) 0:=by
 unfold sgR gE RE.addS
 rcases h.rd with⟨h1,h2⟩|⟨h0,h1,h2⟩
 ·rw[h1,dP]
  simp
 ·have hb:(aD x.2.1 0==0)=false:=by rw[aq,ak0 h0]
  rw[dp h1,ank,hb]
  unfold noR
  rw[sJ]
  rfl
def QL:List En:=[⟨99,iA,fe⟩,⟨107,iR,fx⟩,⟨106,iD,ff⟩,⟨108,gU,eO⟩,⟨41,fM,dX⟩,enL ZM]
def XW(_k:KT):Option (List RV):=og (decide (aH (0:Int))) (some [RV.d tR (hid (am ((0:Int):Rat)))])
def adZ:Cn 298 []:=cn<|lf True [.d tR (am 0)] fun _=>by
 refine aA QL (XW) ⟨0,?_⟩
 unfold XW
 rw[dT (show aH 0 by decide)]
 simp only[bK]
 rfl
def P3:List En:=enL adZ::QL
def Yt(a:BR)(_k:KT):Option (List RV):=some [RV.d tO (a,(hid (am 0),hid (am 0)))]
def yX:Cn 208 [tR]:=cn fun(a:BR)=>lf (okR a) [.d tO (enc ((ah a,0,0):Rt))] fun h=>by
 refine aA P3 (Yt a) ⟨0,?_⟩
 have ha:=h
 obtain⟨a,rfl,ba⟩:=fk ha
 unfold Yt
 simp only[aU,aF]
 try rfl
def YH(a b c:BR)(_k:KT):Option (List RV):=og (o1 b) (match(aD (ah b) 0)==0 with|true=>some [RV.d tO (a,(b,hid (am 0)))]|false=>some [RV.d tO (a,(b,c))])
def afX:Cn 297 [tR,tR,tR]:=cn fun(a b c:BR)=>lf (okR a∧okR b∧okR c) [.d tO (enc (coR (ah a) (ah b) (ah c)))] fun h=>by
 refine aA P3 (YH a b c) ⟨0,?_⟩
 obtain⟨ha,hb,hc⟩:=h
 obtain⟨a,rfl,ba⟩:=fk ha
 obtain⟨b,rfl,bb⟩:=fk hb
 obtain⟨c,rfl,bc⟩:=fk hc
 unfold YH
 simp only[aU,Nat.reduceLeDiff,aq]
 unfold coR
 by_cases e:b=0
 ·subst e;rw[akY rfl];rfl
 ·rw[ak0 e];rfl
def ae7:List En:=enL yX::enL afX::P3
def ZL(a b c:BR)(_k:KT):Option (List RV):=og (o1 c) (match decide ((aD (ah c) 0)<0)with|true=>some [RV.d tO (((false,[]),(false,[])),(((false,[]),(false,[])),((false,[]),(false,[])))),RV.d aoi 7]|false=>(og (o1 c) (match fD (ah c)with|true=>(og (o2 b (hid (rtB (ah c)))) (og (o2 a (hMu b (hid (rtB (ah c))))) (og (o1 (hAd a (hMu b (hid (rtB (ah c)))))) (some [RV.d tO (hid (enc ((ah (hAd a (hMu b (hid (rtB (ah c))))),0,0):Rt))),RV.d aoi 0]))))|false=>(og (decide (okR a∧okR b∧okR c)) (some [RV.d tO (hid (enc (coR (ah a) (ah b) (ah c)))),RV.d aoi 0])))))
def X1:Cn 207 [tR,tR,tR]:=cn fun(a b c:BR)=>lf (ok Rat 100000 a∧ok Rat 100000 b∧ok Rat 100000 c∧0≤ah c) [.d tO (enc (mkR (ah a) (ah b) (ah c))),.d aoi 0] fun h=>by
 refine aA ae7 (ZL a b c) ⟨0,?_⟩
 obtain⟨ha,hb,hc,hc_3⟩:=h
 obtain⟨a,rfl,ba⟩:=aG ha
 obtain⟨b,rfl,bb⟩:=aG hb
 obtain⟨c,rfl,bc⟩:=aG hc
 rw[eT,cA]at hc_3
 unfold ZL
 simp only[aU,aF,Nat.reduceLeDiff,au,ak0 (show ¬c<0 by grind)]
 unfold mkR
 cases hq:fD c
 ·have hz:c≠0:=fun e=>by rw[e,tM]at hq;cases hq
  simp only[aU]
  try rfl
 ·rw[NM hq]
  simp only[aU,aF,Nat.reduceAdd,Nat.reduceLeDiff]
  try rfl
def Ri:List En:=[enL nF,enL rn,enL uZ,enL re,enT oB,enL Ot,enT aaN]
def LQ(_k:KT):Option (List RV):=og (decide (aH (0:Int))) (some [RV.d tR (hid (am ((0:Int):Rat)))])
def Nb:Cn 262 []:=cn<|lf True [.d tR (am 0)] fun _=>by
 refine aA Ri (LQ) ⟨0,?_⟩
 unfold LQ
 rw[dT (show aH 0 by decide)]
 simp only[bK]
 rfl
def P8:List En:=enL Nb::Ri
def Oq(a:BR)(_k:KT):Option (List RV):=some [RV.d tO (a,(hid (am 0),hid (am 0)))]
def RU:Cn 159 [tR]:=cn fun(a:BR)=>lf (okR a) [.d tO (enc ((ah a,0,0):Rt))] fun h=>by
 refine aA P8 (Oq a) ⟨0,?_⟩
 have ha:=h
 obtain⟨a,rfl,ba⟩:=fk ha
 unfold Oq
 simp only[aU,aF]
 try rfl
def OG:List En:=enL RU::P8
def Sa(a b c:BR)(_k:KT):Option (List RV):=og (o1 b) (match(aD (ah b) 0)==0 with|true=>(og (o1 a) (some [RV.d tO (hid (enc ((ah a,0,0):Rt)))]))|false=>(og (o1 c) (match(aD (ah c) 0)==0 with|true=>(og (o1 a) (some [RV.d tO (hid (enc ((ah a,0,0):Rt)))]))|false=>some [RV.d tO (a,(b,c))])))
def Ry:Cn 243 [tR,tR,tR]:=cn fun(a b c:BR)=>lf (okR a∧okR b∧okR c) [.d tO (enc (mz (ah a) (ah b) (ah c)))] fun h=>by
 refine aA OG (Sa a b c) ⟨0,?_⟩
 obtain⟨ha,hb,hc⟩:=h
 obtain⟨a,rfl,ba⟩:=fk ha
 obtain⟨b,rfl,bb⟩:=fk hb
 obtain⟨c,rfl,bc⟩:=fk hc
 unfold Sa
 simp only[aU,aF,Nat.reduceLeDiff,aq]
 unfold mz
 by_cases e:b=0
 ·rw[akY e];rfl
 ·rw[ak0 e]
  by_cases e:c=0
  ·rw[akY e];rfl
  ·rw[ak0 e];rfl
def adb:List En:=enL Ry::OG
def Mj(a b c:BR)(_k:KT):Option (List RV):=og (o1 c) (match decide ((aD (ah c) 0)<0)with|true=>some [RV.d tO (((false,[]),(false,[])),(((false,[]),(false,[])),((false,[]),(false,[])))),RV.d aoi 7]|false=>(og (o1 c) (match fD (ah c)with|true=>(og (o2 b (hid (rtB (ah c)))) (og (o2 a (hMu b (hid (rtB (ah c))))) (og (o1 (hAd a (hMu b (hid (rtB (ah c)))))) (some [RV.d tO (hid (enc ((ah (hAd a (hMu b (hid (rtB (ah c))))),0,0):Rt))),RV.d aoi 0]))))|false=>(og (decide (okR a∧okR b∧okR c)) (some [RV.d tO (hid (enc (mz (ah a) (ah b) (ah c)))),RV.d aoi 0])))))
def abx:Cn 130 [tR,tR,tR]:=cn fun(a b c:BR)=>lf (ok Rat 100000 a∧ok Rat 100000 b∧ok Rat 100000 c∧0≤ah c) [.d tO (enc (mkR (ah a) (ah b) (ah c))),.d aoi 0] fun h=>by
 refine aA adb (Mj a b c) ⟨0,?_⟩
 obtain⟨ha,hb,hc,hc_3⟩:=h
 obtain⟨a,rfl,ba⟩:=aG ha
 obtain⟨b,rfl,bb⟩:=aG hb
 obtain⟨c,rfl,bc⟩:=aG hc
 rw[eT,cA]at hc_3
 unfold Mj
 simp only[aU,aF,Nat.reduceLeDiff,au,ak0 (show ¬c<0 by grind)]
 unfold mkR
 cases hq:fD c
 ·have hz:c≠0:=fun e=>by rw[e,tM]at hq;cases hq
  simp only[aU,mz,ak0 hz]
  try rfl
 ·rw[NM hq]
  simp only[aU,aF,Nat.reduceAdd,Nat.reduceLeDiff]
  try rfl
def V5(r:BO3)(_k:KT):Option (List RV):=og (o2 r.1 r.1) (og (o2 r.2.1 r.2.1) (og (o2 (hMu r.2.1 r.2.1) r.2.2) (og (o2 (hMu r.1 r.1) (hMu (hMu r.2.1 r.2.1) r.2.2)) (some [RV.d tR (hSu (hMu r.1 r.1) (hMu (hMu r.2.1 r.2.1) r.2.2))]))))
def ahn:Cn 212 [tO]:=cn fun(r:BO3)=>lf (ok Rt 15000 r) [.d tR (am (noR (dec r)))] fun h=>by
 refine aA QL (V5 r) ⟨0,?_⟩
 have hr:=h
 obtain⟨r,rfl,br⟩:=aG hr
 unfold V5
 simp only[aU,Nat.reduceAdd,Nat.reduceLeDiff]
 try rfl
abbrev Iv:=Int×Int
def prI(i:Iv):Prop:= -2305843009213693952≤i.1∧i.1≤i.2∧i.2≤2305843009213693952
instance (i:Iv):Decidable (prI i):=by unfold prI;infer_instance
def iv0:Iv:=(0,0)
theorem fK:prI iv0:=by decide
def ov(lo hi:Int):Iv×Bool:=bif decide (lo< -2305843009213693952)then(iv0,false)else bif decide (hi>2305843009213693952)then(iv0,false)else((lo,hi),true)
theorem Br{lo hi:Int}(h:lo≤hi):prI (ov lo hi).1:=by
 unfold ov
 by_cases h1:lo< -2305843009213693952
 ·rw[akY h1];exact fK
 ·rw[ak0 h1]
  by_cases h2:hi>2305843009213693952
  ·rw[akY h2];exact fK
  ·rw[ak0 h2];exact⟨by show _≤lo;omega,h,by show hi≤_;omega⟩
theorem AK{lo hi:Int}(h:(ov lo hi).2=true):(ov lo hi).1=(lo,hi):=by
 unfold ov at h ⊢
 by_cases h1:lo< -2305843009213693952
 ·rw[akY h1]at h;cases h
 ·rw[ak0 h1]at h ⊢
  by_cases h2:hi>2305843009213693952
  ·rw[akY h2]at h;cases h
  ·rw[ak0 h2];rfl
def frF(q:Rat):Iv×Bool:=bif decide (aH (q*65536).floor)then bif decide (aH (-(-(q*65536)).floor))then ov (q*65536).floor (-(-(q*65536)).floor)else(iv0,false)else(iv0,false)
def dO(a b:Iv):Iv×Bool:=ov (a.1+b.1) (a.2+b.2)
def mo(a:Iv):Iv:=(-a.2,-a.1)
def scF(x y:Int):(Int×Int)×Bool:=
 bif decide (x.natAbs*y.natAbs≥1208925819614629174706176)then((0,0),false)else bif decide (x.natAbs*y.natAbs/65536>2305843009213693952)then((0,0),false)
 else bif decide (x<0)==decide (y<0)then((((x.natAbs*y.natAbs/65536:Nat):Int),(((x.natAbs*y.natAbs+65535)/65536:Nat):Int)),decide ((x.natAbs*y.natAbs+65535)/65536≤2305843009213693952))
 else((-(((x.natAbs*y.natAbs+65535)/65536:Nat):Int),-((x.natAbs*y.natAbs/65536:Nat):Int)),decide ((x.natAbs*y.natAbs+65535)/65536≤2305843009213693952))
theorem aba{x y:Int}(h:(scF x y).2=true):(scF x y).1.1*65536≤x*y∧x*y≤(scF x y).1.2*65536∧ -2305843009213693952≤(scF x y).1.1∧(scF x y).1.2≤2305843009213693952:=by
 have ep:(((x.natAbs*y.natAbs:Nat)):Int)=(x.natAbs:Int)*(y.natAbs:Int):=amw _ _
 have hs:(decide (x<0)==decide (y<0))=true→x*y=(((x.natAbs*y.natAbs:Nat)):Int):=fun e=>by
  rw[ep]
  by_cases hx:x<0<;>by_cases hy:y<0
  ·rw[show(x.natAbs:Int)= -x by omega,show(y.natAbs:Int)= -y by omega];grind
  ·simp[hx,hy]at e
  ·simp[hx,hy]at e
  ·rw[show(x.natAbs:Int)=x by omega,show(y.natAbs:Int)=y by omega]
 have hd:(decide (x<0)==decide (y<0))=false→x*y= -(((x.natAbs*y.natAbs:Nat)):Int):=fun e=>by
  rw[ep]
  by_cases hx:x<0<;>by_cases hy:y<0
  ·simp[hx,hy]at e
  ·rw[show(x.natAbs:Int)= -x by omega,show(y.natAbs:Int)=y by omega];grind
  ·rw[show(x.natAbs:Int)=x by omega,show(y.natAbs:Int)= -y by omega];grind
  ·simp[hx,hy]at e
 unfold scF at h ⊢
 generalize x.natAbs*y.natAbs=p at*
 by_cases h1:p≥1208925819614629174706176
 ·rw[akY h1]at h;cases h
 rw[ak0 h1]at h ⊢
 by_cases h2:p/65536>2305843009213693952
 ·rw[akY h2]at h;cases h
 rw[ak0 h2]at h ⊢
 cases e:(decide (x<0)==decide (y<0))<;>rw[e]at h<;>have h3:=ak1 h
 ·rw[hd e]
  show-(((p+65535)/65536:Nat):Int)*65536≤_∧_≤ -((p/65536:Nat):Int)*65536∧_≤ -(((p+65535)/65536:Nat):Int)∧ -((p/65536:Nat):Int)≤_
  omega
 ·rw[hs e]
  show((p/65536:Nat):Int)*65536≤_∧_≤(((p+65535)/65536:Nat):Int)*65536∧_≤((p/65536:Nat):Int)∧(((p+65535)/65536:Nat):Int)≤_
  omega
def iB(s:Iv×Bool)(x y:Int):Iv×Bool:=bif s.2&&(scF x y).2 then((if(scF x y).1.1<s.1.1 then(scF x y).1.1 else s.1.1,if(scF x y).1.2>s.1.2 then(scF x y).1.2 else s.1.2),true)else(iv0,false)
def cH(a b:Iv):Iv×Bool:=iB (iB (iB (iB ((2305843009213693952,-2305843009213693952),true) a.1 b.1) a.1 b.2) a.2 b.1) a.2 b.2
theorem ll{s:Iv×Bool}{x y:Int}(h:(iB s x y).2=true):s.2=true∧(iB s x y).1.1≤s.1.1∧s.1.2≤(iB s x y).1.2∧(iB s x y).1.1*65536≤x*y∧x*y≤(iB s x y).1.2*65536∧((-2305843009213693952≤s.1.1∧s.1.2≤2305843009213693952)→ -2305843009213693952≤(iB s x y).1.1∧(iB s x y).1.2≤2305843009213693952):=by
 unfold iB at h ⊢
 cases e:(s.2&&(scF x y).2)<;>rw[e]at h
 ·cases h
 ·obtain⟨e1,e2⟩:=ak8.1 e
  obtain⟨g1,g2,g3,g4⟩:=aba e2
  refine⟨e1,?_⟩
  simp only[cond_true]
  split<;>split<;>refine⟨by omega,by omega,by omega,by omega,fun h=>by omega⟩
theorem sh(a b:Iv):prI (cH a b).1:=by
 cases h:(cH a b).2
 ·unfold cH iB at h ⊢
  revert h
  cases((_:Iv×Bool).2&&(scF a.2 b.2).2)
  ·intro _;exact fK
  ·intro h;cases h
 ·unfold cH at h ⊢
  obtain⟨h3,a3,b3,c3,d3,e3⟩:=ll h
  obtain⟨h2,a2,b2,c2,d2,e2⟩:=ll h3
  obtain⟨h1,a1,b1,c1,d1,e1⟩:=ll h2
  obtain⟨h0,a0,b0,c0,d0,e0⟩:=ll h1
  have k:=e3 (e2 (e1 (e0 (by decide))))
  exact⟨k.1,by omega,k.2⟩
theorem U1{a b:Iv}(h:(cH a b).2=true):∀x y,(x=a.1∨x=a.2)→(y=b.1∨y=b.2)→(cH a b).1.1*65536≤x*y∧x*y≤(cH a b).1.2*65536:=by
 unfold cH at h ⊢
 obtain⟨h3,a3,b3,c3,d3,e3⟩:=ll h
 obtain⟨h2,a2,b2,c2,d2,e2⟩:=ll h3
 obtain⟨h1,a1,b1,c1,d1,e1⟩:=ll h2
 obtain⟨h0,a0,b0,c0,d0,e0⟩:=ll h1
 intro x y hx hy
 rcases hx with rfl|rfl<;>rcases hy with rfl|rfl<;>constructor<;>omega
def eH(n:Int):Int:=bJ (n*65536)
def sqF(a:Iv):Iv×Bool:=bif decide (a.2<0)then(iv0,false)else ov (eH (if 0>a.1 then 0 else a.1)) (bif decide (eH a.2*eH a.2=a.2*65536)then eH a.2 else eH a.2+1)
def sgF(a:Iv):Int×Bool:=bif decide (a.1>0)then(1,true)else bif decide (a.2<0)then(-1,true)else(0,decide (a.1=0)&&decide (a.2=0))
namespace RE
def inI(i:Iv)(x:RE):Prop:=of (i.1:Rat)≤of 65536*x∧of 65536*x≤of (i.2:Rat)
theorem Vt(a b u x y:RE)(h1:a≤u*x)(h2:b≤u*y):a+b≤u*(x+y):=by grind
theorem Sz(a b u x y:RE)(h1:u*x≤a)(h2:u*y≤b):u*(x+y)≤a+b:=by grind
theorem Tl(a u x:RE)(h1:u*x≤a): -a≤u*(-x):=by grind
theorem UT(a u x:RE)(h1:a≤u*x):u*(-x)≤ -a:=by grind
theorem S8(a c U V m:RE):((m-(U*V)))+((a*c-(m)))+((V-(0))*(U-(a)))+((a-(0))*(V-(c)))=0:=by grind
theorem aej(a c U V m:RE)(h1:0≤V)(h2:0≤a)(h3:a≤U)(h4:c≤V)(h5:m≤a*c):m≤U*V:=fun hg=>far (aI (aI (aI (aJ hg) (aC h5)) (bg (aC h1) (aC h3))) (bg (aC h2) (aC h4))) (S8 a c U V m)
theorem V0(a d U V m:RE):((m-(U*V)))+((a*d-(m)))+((V-(0))*(U-(a)))+((0-(a))*(d-(V)))=0:=by grind
theorem ae3(a d U V m:RE)(h1:0≤V)(h2:a≤0)(h3:a≤U)(h4:V≤d)(h5:m≤a*d):m≤U*V:=fun hg=>far (aI (aI (aI (aJ hg) (aC h5)) (bg (aC h1) (aC h3))) (bg (aC h2) (aC h4))) (V0 a d U V m)
theorem Ub(b c U V m:RE):((m-(U*V)))+((b*c-(m)))+((0-(V))*(b-(U)))+((b-(0))*(V-(c)))=0:=by grind
theorem agW(b c U V m:RE)(h1:V≤0)(h2:0≤b)(h3:U≤b)(h4:c≤V)(h5:m≤b*c):m≤U*V:=fun hg=>far (aI (aI (aI (aJ hg) (aC h5)) (bg (aC h1) (aC h3))) (bg (aC h2) (aC h4))) (Ub b c U V m)
theorem Vl(b d U V m:RE):((m-(U*V)))+((b*d-(m)))+((0-(V))*(b-(U)))+((0-(b))*(d-(V)))=0:=by grind
theorem ag7(b d U V m:RE)(h1:V≤0)(h2:b≤0)(h3:U≤b)(h4:V≤d)(h5:m≤b*d):m≤U*V:=fun hg=>far (aI (aI (aI (aJ hg) (aC h5)) (bg (aC h1) (aC h3))) (bg (aC h2) (aC h4))) (Vl b d U V m)
theorem Uc(b d U V m:RE):((U*V-(m)))+((m-(b*d)))+((V-(0))*(b-(U)))+((b-(0))*(d-(V)))=0:=by grind
theorem afu(b d U V m:RE)(h1:0≤V)(h2:0≤b)(h3:U≤b)(h4:V≤d)(h5:b*d≤m):U*V≤m:=fun hg=>far (aI (aI (aI (aJ hg) (aC h5)) (bg (aC h1) (aC h3))) (bg (aC h2) (aC h4))) (Uc b d U V m)
theorem Vd(b c U V m:RE):((U*V-(m)))+((m-(b*c)))+((V-(0))*(b-(U)))+((0-(b))*(V-(c)))=0:=by grind
theorem air(b c U V m:RE)(h1:0≤V)(h2:b≤0)(h3:U≤b)(h4:c≤V)(h5:b*c≤m):U*V≤m:=fun hg=>far (aI (aI (aI (aJ hg) (aC h5)) (bg (aC h1) (aC h3))) (bg (aC h2) (aC h4))) (Vd b c U V m)
theorem UF(a d U V m:RE):((U*V-(m)))+((m-(a*d)))+((0-(V))*(U-(a)))+((a-(0))*(d-(V)))=0:=by grind
theorem aeW(a d U V m:RE)(h1:V≤0)(h2:0≤a)(h3:a≤U)(h4:V≤d)(h5:a*d≤m):U*V≤m:=fun hg=>far (aI (aI (aI (aJ hg) (aC h5)) (bg (aC h1) (aC h3))) (bg (aC h2) (aC h4))) (UF a d U V m)
theorem Sv(a c U V m:RE):((U*V-(m)))+((m-(a*c)))+((0-(V))*(U-(a)))+((0-(a))*(V-(c)))=0:=by grind
theorem ad3(a c U V m:RE)(h1:V≤0)(h2:a≤0)(h3:a≤U)(h4:c≤V)(h5:a*c≤m):U*V≤m:=fun hg=>far (aI (aI (aI (aJ hg) (aC h5)) (bg (aC h1) (aC h3))) (bg (aC h2) (aC h4))) (Sv a c U V m)
theorem adA(u x y:RE):u*x*(u*y)=u*(x*y)*u:=by grind
theorem Vv(a b u:RE):((u-(0))*(a-(b)))+((b*u-(a*u)))=0:=by grind
theorem Zg(a b u:RE)(h1:0<u)(h2:a*u≤b*u):a≤b:=fun hg=>far (aI (mul_pos (aJ h1) (aJ hg)) (aC h2)) (Vv a b u)
theorem oe:0<of 65536:=io (by decide+kernel)
end RE
namespace RE
theorem mL{a b:Int}(h:a≤b):of (a:Rat)≤of (b:Rat):=gN.2 (anr.2 h)
theorem iE{q:Rat}(h:(frF q).2=true):inI (frF q).1 (of q):=by
 have f1:((q*65536).floor:Rat)≤q*65536:=Rat.floor_le _
 have f2:((-(q*65536)).floor:Rat)≤ -(q*65536):=Rat.floor_le _
 unfold frF at h ⊢
 cases e1:decide (aH (q*65536).floor)
 ·rw[e1]at h;cases h
 ·cases e2:decide (aH (-(-(q*65536)).floor))
  ·rw[e1,e2]at h;cases h
  ·rw[e1,e2]at h
   simp only[cond_true]at h ⊢
   rw[AK h]
   refine⟨?_,?_⟩
   ·rw[←aE];exact gN.2 (by show(((q*65536).floor:Int):Rat)≤_;grind)
   ·rw[←aE];exact gN.2 (by show _≤((-(-(q*65536)).floor:Int):Rat);rw[anJ];grind)
theorem frF_pr(q:Rat):prI (frF q).1:=by
 have f1:((q*65536).floor:Rat)≤q*65536:=Rat.floor_le _
 have f2:((-(q*65536)).floor:Rat)≤ -(q*65536):=Rat.floor_le _
 have f3:(q*65536).floor≤ -(-(q*65536)).floor:=by
  refine anr.1 ?_
  rw[anJ]
  grind
 unfold frF
 cases decide (aH (q*65536).floor)
 ·exact fK
 ·cases decide (aH (-(-(q*65536)).floor))
  ·exact fK
  ·exact Br f3
theorem j8{a b:Iv}{x y:RE}(ha:inI a x)(hb:inI b y)(h:(dO a b).2=true):inI (dO a b).1 (x+y):=by
 unfold dO at h ⊢
 rw[AK h]
 refine⟨?_,?_⟩
 ·show of ((a.1+b.1:Int):Rat)≤_
  rw[Rat.intCast_add,of_add]
  exact Vt _ _ _ _ _ ha.1 hb.1
 ·show _≤of ((a.2+b.2:Int):Rat)
  rw[Rat.intCast_add,of_add]
  exact Sz _ _ _ _ _ ha.2 hb.2
theorem addF_pr{a b:Iv}(ha:prI a)(hb:prI b):prI (dO a b).1:=Br (by have:=ha.2.1;have:=hb.2.1;omega)
theorem Bf{a:Iv}{x:RE}(ha:inI a x):inI (mo a) (-x):=by
 refine⟨?_,?_⟩
 ·show of ((-a.2:Int):Rat)≤_
  rw[anJ,of_neg]
  exact Tl _ _ _ ha.2
 ·show _≤of ((-a.1:Int):Rat)
  rw[anJ,of_neg]
  exact UT _ _ _ ha.1
theorem negF_pr{a:Iv}(ha:prI a):prI (mo a):=⟨by show _≤ -a.2;have:=ha.2.2;omega,by show-a.2≤ -a.1;have:=ha.2.1;omega,by show-a.1≤_;have:=ha.1;omega⟩
theorem lC{a b:Iv}{x y:RE}(ha:inI a x)(hb:inI b y)(h:(cH a b).2=true):inI (cH a b).1 (x*y):=by
 have hc:=U1 h
 have c1:=hc a.1 b.1 (.inl rfl) (.inl rfl)
 have c2:=hc a.1 b.2 (.inl rfl) (.inr rfl)
 have c3:=hc a.2 b.1 (.inr rfl) (.inl rfl)
 have c4:=hc a.2 b.2 (.inr rfl) (.inr rfl)
 generalize (cH a b).1=m at*
 have up:∀{p q r:Int},p*65536≤q*r→of (p:Rat)*of 65536≤of (q:Rat)*of (r:Rat):=fun{p q r} h=>by
  have:=mL h
  rw[amZ,amZ,aE,aE]at this
  exact this
 have dn:∀{p q r:Int},q*r≤p*65536→of (q:Rat)*of (r:Rat)≤of (p:Rat)*of 65536:=fun{p q r} h=>by
  have:=mL h
  rw[amZ,amZ,aE,aE]at this
  exact this
 obtain⟨a1,a2⟩:=ha
 obtain⟨b1,b2⟩:=hb
 have l:of (m.1:Rat)*of 65536≤of 65536*x*(of 65536*y):=by
  rcases lt_or_ge (of 65536*y) 0 with v|v
  ·rcases lt_or_ge (of (a.2:Rat)) 0 with s|s
   ·exact ag7 _ _ _ _ _ (le_of_lt v) (le_of_lt s) a2 b2 (up c4.1)
   ·exact agW _ _ _ _ _ (le_of_lt v) s a2 b1 (up c3.1)
  ·rcases lt_or_ge (of (a.1:Rat)) 0 with s|s
   ·exact ae3 _ _ _ _ _ v (le_of_lt s) a1 b2 (up c2.1)
   ·exact aej _ _ _ _ _ v s a1 b1 (up c1.1)
 have u:of 65536*x*(of 65536*y)≤of (m.2:Rat)*of 65536:=by
  rcases lt_or_ge (of 65536*y) 0 with v|v
  ·rcases lt_or_ge (of (a.1:Rat)) 0 with s|s
   ·exact ad3 _ _ _ _ _ (le_of_lt v) (le_of_lt s) a1 b1 (dn c1.2)
   ·exact aeW _ _ _ _ _ (le_of_lt v) s a1 b2 (dn c2.2)
  ·rcases lt_or_ge (of (a.2:Rat)) 0 with s|s
   ·exact air _ _ _ _ _ v (le_of_lt s) a2 b1 (dn c3.2)
   ·exact afu _ _ _ _ _ v s a2 b2 (dn c4.2)
 rw[adA]at l u
 exact⟨Zg _ _ _ oe l,Zg _ _ _ oe u⟩
theorem af8(u s:RE):u*s*(u*s)=u*(s*s)*u:=by grind
theorem PF(r a u x:RE):((r-(u*x*u)))+((a*u-(r)))+((u*x-(a))*(u-(0)))=0:=by grind
theorem adC(r a u x:RE)(h1:r≤a*u)(h2:a≤u*x)(h3:0<u):r≤u*x*u:=fun hg=>far (aI (aI (aJ hg) (aC h1)) (bg (aC h2) (le_of_lt (aJ h3)))) (PF r a u x)
theorem OF(r a u x:RE):((u*x*u-(r)))+((r-(a*u)))+((a-(u*x))*(u-(0)))=0:=by grind
theorem Nd(r a u x:RE)(h1:a*u≤r)(h2:u*x≤a)(h3:0<u):u*x*u≤r:=fun hg=>far (aI (aI (aJ hg) (aC h1)) (bg (aC h2) (le_of_lt (aJ h3)))) (OF r a u x)
theorem sqF_pr{a:Iv}(ha:prI a):prI (sqF a).1:=by
 unfold sqF
 by_cases h:a.2<0
 ·rw[akY h];exact fK
 ·rw[ak0 h]
  simp only[cond_false]
  refine Br ?_
  have h1:(if 0>a.1 then 0 else a.1)≤a.2:=by have:=ha.2.1;split<;>omega
  have h0:0≤(if 0>a.1 then 0 else a.1):=by split<;>omega
  have hm:eH (if 0>a.1 then 0 else a.1)≤eH a.2:=by
   unfold eH
   obtain⟨_,g1,_⟩:=gg (z:=(if 0>a.1 then 0 else a.1)*65536) (by omega)
   obtain⟨g0,_,g2⟩:=gg (z:=a.2*65536) (by omega)
   have:=Go.Proofs.YtnkndpoojnflmaaGreat.sq_lt (a:=bJ ((if 0>a.1 then 0 else a.1)*65536)) (b:=bJ (a.2*65536)+1) (by omega) (by omega)
   omega
  cases decide (eH a.2*eH a.2=a.2*65536)
  ·show _≤eH a.2+1;omega
  ·exact hm
theorem wS{a:Iv}{x:RE}(ha:inI a x)(hx:0≤x)(h:(sqF a).2=true):inI (sqF a).1 (vN x):=by
 obtain⟨a1,a2⟩:=ha
 have hs:=vO hx
 have s0:0≤of 65536*vN x:=bg (le_of_lt oe) (lD x)
 have e:of 65536*vN x*(of 65536*vN x)=of 65536*x*of 65536:=by rw[af8,hs]
 unfold sqF at h ⊢
 cases hn:decide (a.2<0)
 ·rw[hn]at h
  simp only[cond_false]at h ⊢
  have h2:=alQ hn
  rw[AK h]
  obtain⟨p0,p1,p2⟩:=gg (z:=(if 0>a.1 then 0 else a.1)*65536) (by split<;>omega)
  obtain⟨q0,q1,q2⟩:=gg (z:=a.2*65536) (by omega)
  have cm:∀{p q:Int},p*p≤q*65536→of (p:Rat)*of (p:Rat)≤of (q:Rat)*of 65536:=fun{p q} h=>by
   have:=mL h
   rw[amZ,amZ,aE,aE]at this
   exact this
  have cn:∀{p q:Int},q*65536≤p*p→of (q:Rat)*of 65536≤of (p:Rat)*of (p:Rat):=fun{p q} h=>by
   have:=mL h
   rw[amZ,amZ,aE,aE]at this
   exact this
  have nn:∀{p:Int},0≤p→0≤of (p:Rat):=fun h=>mL h
  refine⟨?_,?_⟩
  ·show of ((eH _:Int):Rat)≤_
   refine Aa _ _ (nn p0) s0 ?_
   rw[e]
   refine adC _ (of (((if 0>a.1 then 0 else a.1:Int)):Rat)) _ _ (cm p1) ?_ oe
   split
   ·exact bg (le_of_lt oe) hx
   ·exact a1
  ·show _≤of (((bif _ then _ else _):Int):Rat)
   cases he:decide (eH a.2*eH a.2=a.2*65536)
   ·simp only[cond_false]
    refine Aa _ _ s0 (nn (by unfold eH;omega)) ?_
    rw[e]
    exact Nd _ _ _ _ (cn (by unfold eH;omega)) a2 oe
   ·simp only[cond_true]
    refine Aa _ _ s0 (nn q0) ?_
    rw[e]
    exact Nd _ _ _ _ (cn (by rw[ak1 he];exact Int.le_refl _)) a2 oe
 ·rw[hn]at h;cases h
theorem GX{i:Iv}{x:RE}(hi:inI i x)(h:(sgF i).2=true):(sgF i).1=sg x:=by
 obtain⟨h1,h2⟩:=hi
 unfold sgF at h ⊢
 cases e1:decide (i.1>0)
 ·rw[e1]at h
  cases e2:decide (i.2<0)
  ·rw[e2]at h
   simp only[cond_false,ak2,ane]at h ⊢
   rw[h.1]at h1
   rw[h.2]at h2
   have:of 65536*x=0:=le_antisymm h2 h1
   have:sg (of 65536*x)=0:=by rw[this,dg]
   rw[dk,cY oe]at this
   omega
  ·have e:=ak1 e2
   have h3:of (i.2:Rat)<0:=io (ans.2 e)
   simp only[cond_false,cond_true]
   have:sg (of 65536*x)= -1:=gu (by
    rcases lt_or_ge (of 65536*x) 0 with h|h
    ·exact h
    ·exact absurd (le_trans h h2) (r8.2 h3))
   rw[dk,cY oe]at this
   omega
 ·have e:=ak1 e1
  have h3:0<of (i.1:Rat):=io (ans.2 e)
  simp only[cond_true]
  have:sg (of 65536*x)=1:=cY (by
   rcases lt_or_ge 0 (of 65536*x)with h|h
   ·exact h
   ·exact absurd (le_trans h1 h) (r8.2 h3))
  rw[dk,cY oe]at this
  omega
end RE
abbrev Qd:=Rat×Rat×Rat×Rat×Rat×Rat
def sgQ(q:Qd):Int:=Bj q.1 q.2.1 q.2.2.1 q.2.2.2.1 q.2.2.2.2.1 q.2.2.2.2.2
def suT(x y:Rt):Qd:=(x.1-y.1,x.2.1,-y.2.1,0,x.2.2,y.2.2)
def fH(x:Rt)(q:Rat):Int:=gE (x.1-q) x.2.1 x.2.2
def okQ(q:BQ):Prop:=ok Rat 30001 q.1∧ok Rat 15000 q.2.1∧ok Rat 15000 q.2.2.1∧ok Rat 6000 q.2.2.2.1∧ok Rat 15000 q.2.2.2.2.1∧ok Rat 15000 q.2.2.2.2.2∧0≤ah q.2.2.2.2.1∧0≤ah q.2.2.2.2.2
instance (q:BQ):Decidable (okQ q):=by unfold okQ;infer_instance
theorem F5{q:BQ}(h:okQ q):∃A B C D M N:Rat,q=enc ((A,B,C,D,M,N):Qd)∧Bd A 30001∧Bd B 15000∧Bd C 15000∧Bd D 6000∧Bd M 15000∧Bd N 15000∧0≤M∧0≤N:=by
 obtain⟨A,B,C,D,M,N⟩:=q
 obtain⟨h1,h2,h3,h4,h5,h6,h7,h8⟩:=h
 obtain⟨a,ha,b1⟩:=aG h1
 obtain⟨b,hb,b2⟩:=aG h2
 obtain⟨c,hc,b3⟩:=aG h3
 obtain⟨d,hd,b4⟩:=aG h4
 obtain⟨m,hm,b5⟩:=aG h5
 obtain⟨n,hn,b6⟩:=aG h6
 dsimp only at ha hb hc hd hm hn h7 h8
 subst ha hb hc hd hm hn
 rw[eT,cA]at h7 h8
 exact⟨a,b,c,d,m,n,rfl,b1,b2,b3,b4,b5,b6,h7,h8⟩
theorem zh{A B C D M N:Rat}{a b c d m n:Nat}[h1:Bd A a][h2:Bd B b][h3:Bd C c][h4:Bd D d][h5:Bd M m][h6:Bd N n][h7:Nn M][h8:Nn N](ha:a≤30001)(hb:b≤15000)(hc:c≤15000)(hd:d≤6000)(hm:m≤15000)(hn:n≤15000):decide (okQ (enc ((A,B,C,D,M,N):Qd)))=true:=
 akY ⟨ak1 (lm ha (by decide)),ak1 (lm hb (by decide)),ak1 (lm hc (by decide)),ak1 (lm hd (by decide)),ak1 (lm hm (by decide)),ak1 (lm hn (by decide)),by show 0≤ah (am M);rw[cA];exact h7.le,by show 0≤ah (am N);rw[cA];exact h8.le⟩
theorem A7{s t:Int}(hs: -1≤s∧s≤1)(ht: -1≤t∧t≤1):i64.wrap (s*t)=s*t:=by
 have:=Au hs ht
 exact aS (by omega) (by omega)
theorem te{a b m x y:Rat}:i64.wrap (gE a b m*aD x y)=gE a b m*aD x y:=A7 (lN _ _ _) (ka _ _)
theorem sf{a b m x y z:Rat}:i64.wrap (gE a b m*gE x y z)=gE a b m*gE x y z:=A7 (lN _ _ _) (lN _ _ _)
theorem Cs(s t u:Int):(match s==0 with|true=>(match s==0 with|true=>some [RV.d aoi t]|false=>some [RV.d aoi s])|false=>(match t==0 with|true=>(match s==0 with|true=>some [RV.d aoi t]|false=>some [RV.d aoi s])|false=>(match s==t with|true=>(match s==0 with|true=>some [RV.d aoi t]|false=>some [RV.d aoi s])|false=>some [RV.d aoi (s*u)])))=some [RV.d aoi (RE.addS s t u)]:=by
 unfold RE.addS
 cases h1:s==0
 ·cases h2:t==0
  ·cases h3:s==t<;>rfl
  ·rfl
 ·have e:=al9.1 h1
  subst e
  cases h2:t==0
  ·cases h3:(0:Int)==t
   ·rfl
   ·rw[←al9.1 h3];rfl
  ·rw[al9.1 h2];rfl
theorem Bs(s t u:Int):(match t==0 with|true=>some [RV.d aoi s]|false=>(match s==t with|true=>some [RV.d aoi s]|false=>(match s==0 with|true=>some [RV.d aoi t]|false=>some [RV.d aoi (s*u)])))=some [RV.d aoi (RE.addS s t u)]:=by
 unfold RE.addS
 cases h2:t==0
 ·cases h3:s==t
  ·cases h1:s==0<;>rfl
  ·rfl
 ·rfl
def Gr:List En:=[enL nF,enL rn,enL uZ,enL re,enT oB,enT uC,enL uW]
def Pi(a b c:BR)(_k:KT):Option (List RV):=og (o1 a) (og (o1 b) (og (o1 c) (match(aD (ah a) 0)==0 with|true=>(match(aD (ah a) 0)==0 with|true=>some [RV.d aoi (i64.wrap ((aD (ah b) 0)*(aD (ah c) 0)))]|false=>some [RV.d aoi (aD (ah a) 0)])|false=>(match(i64.wrap ((aD (ah b) 0)*(aD (ah c) 0)))==0 with|true=>(match(aD (ah a) 0)==0 with|true=>some [RV.d aoi (i64.wrap ((aD (ah b) 0)*(aD (ah c) 0)))]|false=>some [RV.d aoi (aD (ah a) 0)])|false=>(match(aD (ah a) 0)==(i64.wrap ((aD (ah b) 0)*(aD (ah c) 0)))with|true=>(match(aD (ah a) 0)==0 with|true=>some [RV.d aoi (i64.wrap ((aD (ah b) 0)*(aD (ah c) 0)))]|false=>some [RV.d aoi (aD (ah a) 0)])|false=>(og (o2 a a) (og (o2 b b) (og (o2 (hMu b b) c) (og (o2 (hMu a a) (hMu (hMu b b) c)) (some [RV.d aoi (i64.wrap ((aD (ah a) 0)*(aD (ah (hMu a a)) (ah (hMu (hMu b b) c)))))]))))))))))
def abd:Cn 156 [tR,tR,tR]:=cn fun(a b c:BR)=>lf (ok Rat 240000 a∧ok Rat 170000 b∧ok Rat 30000 c) [.d aoi (gE (ah a) (ah b) (ah c))] fun h=>by
 refine aA Gr (Pi a b c) ⟨0,?_⟩
 obtain⟨ha,hb,hc⟩:=h
 obtain⟨a,rfl,ba⟩:=aG ha
 obtain⟨b,rfl,bb⟩:=aG hb
 obtain⟨c,rfl,bc⟩:=aG hc
 unfold Pi
 simp only[aU,Nat.reduceAdd,Nat.reduceLeDiff,qa]
 exact Cs _ _ _
def Ps(a b:BO3)(_k:KT):Option (List RV):=og (o2 a.1 b.1) (og (o1 b.2.1) (og (decide (aH (0:Int))) (some [RV.d tQ (hSu a.1 b.1,(a.2.1,(hNe b.2.1,(hid (am ((0:Int):Rat)),(a.2.2,b.2.2)))))])))
def abR:Cn 236 [tO,tO]:=cn fun(a b:BO3)=>lf (ok Rt 15000 a∧ok Rt 15000 b) [.d tQ (enc (suT (dec a) (dec b)))] fun h=>by
 refine aA Gr (Ps a b) ⟨0,?_⟩
 obtain⟨ha,hb⟩:=h
 obtain⟨a,rfl,ba⟩:=aG ha
 obtain⟨b,rfl,bb⟩:=aG hb
 unfold Ps
 simp only[aU,Nat.reduceLeDiff]
 try rfl
def Mq:List En:=enT abd::enL abR::Gr
def NH(q:BQ)(_k:KT):Option (List RV):=let y1:=ah q.2.2.2.2.1;let y2:=aD (ah q.2.2.2.2.2) 0;let y3:=gE (ah q.1) (ah q.2.1) y1;let y4:=i64.wrap ((gE (ah q.2.2.1) (ah q.2.2.2.1) y1)*y2);let y5:Option (List RV):=match y3==0 with|true=>some [RV.d aoi y4]|false=>some [RV.d aoi y3];let y6:=hMu q.2.2.2.1 q.2.2.2.1;let y7:=hMu q.2.2.1 q.2.2.1;let y8:=hMu y6 q.2.2.2.2.1;let y9:=hMu (hMu q.2.1 q.2.1) q.2.2.2.2.1;let y10:=hAd (hMu q.1 q.1) y9;let y11:=hMu q.2.2.2.2.2 (hAd y7 y8);let y12:=hMu q.2.2.1 q.2.2.2.1;let y13:=hMu q.2.2.2.2.2 y12;let y14:=hSu (hMu q.1 q.2.1) y13;og (o1 q.2.2.2.2.1) (match decide ((aD y1 0)<0)with|true=>some [RV.d aoi 0]|false=>(og (o1 q.2.2.2.2.2) (match decide (y2<0)with|true=>some [RV.d aoi 0]|false=>(og (decide (ok Rat 240000 q.1∧ok Rat 170000 q.2.1∧ok Rat 30000 q.2.2.2.2.1)) (og (decide (ok Rat 240000 q.2.2.1∧ok Rat 170000 q.2.2.2.1∧ok Rat 30000 q.2.2.2.2.1)) (og (o1 q.2.2.2.2.2) (match y3==0 with|true=>y5|false=>(match y4==0 with|true=>y5|false=>(match y3==y4 with|true=>y5|false=>(og (o2 q.2.2.1 q.2.2.1) (og (o2 q.2.2.2.1 q.2.2.2.1) (og (o2 y6 q.2.2.2.2.1) (og (o2 y7 y8) (og (o2 q.2.2.2.2.2 (hAd y7 y8)) (og (o2 q.1 q.1) (og (o2 q.2.1 q.2.1) (og (o2 (hMu q.2.1 q.2.1) q.2.2.2.2.1) (og (o2 (hMu q.1 q.1) y9) (og (o2 y10 y11) (og (o2 q.1 q.2.1) (og (o2 q.2.2.1 q.2.2.2.1) (og (o2 q.2.2.2.2.2 y12) (og (o2 (hMu q.1 q.2.1) y13) (og (o2 y14 y14) (og (decide (ok Rat 240000 (hSu y10 y11)∧ok Rat 170000 (hAd y14 y14)∧ok Rat 30000 q.2.2.2.2.1)) (some [RV.d aoi (i64.wrap (y3*(gE (ah (hSu y10 y11)) (ah (hAd y14 y14)) y1)))]))))))))))))))))))))))))))
def adE:Cn 234 [tQ]:=cn fun(q:BQ)=>lf (okQ q) [.d aoi (sgQ (dec q))] fun h=>by
 refine aA Mq (NH q) ⟨0,?_⟩
 obtain⟨A,B,C,D,M,N,rfl,bA,bB,bC,bD,bM,bN,hM,hN⟩:=F5 h
 rw[az]
 unfold NH
 simp only[aU,aF,Nat.reduceAdd,Nat.reduceLeDiff,te,sf,au,ak0 (show ¬M<0 by grind),ak0 (show ¬N<0 by grind)]
 refine(Cs _ _ _).trans ?_
 unfold sgQ Bj
 rw[ak0 (show ¬M<0 by grind),ak0 (show ¬N<0 by grind)]
 dsimp only[Bool.or_false,cond_false]
 rw[show A*B-N*(C*D)+(A*B-N*(C*D))=2*(A*B-N*(C*D)) by grind]
 rfl
def KX:List En:=enT adE::Mq
def LU(a b:BO3)(_k:KT):Option (List RV):=og (decide (ok Rt 15000 a∧ok Rt 15000 b)) (og (decide (okQ (hid (enc (suT (dec a) (dec b)))))) (some [RV.d aoi (sgQ (dec (hid (enc (suT (dec a) (dec b))))))]))
def Od:Cn 121 [tO,tO]:=cn fun(a b:BO3)=>lf (okT 15000 a∧okT 15000 b) [.d aoi (a9 (dec a) (dec b))] fun h=>by
 refine aA KX (LU a b) ⟨0,?_⟩
 obtain⟨ha,hb⟩:=h
 obtain⟨a,rfl,ba,ra⟩:=gn ha
 obtain⟨b,rfl,bb,rb⟩:=gn hb
 have na:Nn a.2.2:=inferInstance
 have nb:Nn b.2.2:=inferInstance
 have e:decide (okQ (enc (suT a b)))=true:=zh (by decide) (by decide) (by decide) (by decide) (by decide) (by decide)
 unfold LU
 simp only[aU,Nat.reduceLeDiff,e]
 rfl
def Oa(a:BO3)(b:BR)(_k:KT):Option (List RV):=og (o2 a.1 b) (og (decide (ok Rat 240000 (hSu a.1 b)∧ok Rat 170000 a.2.1∧ok Rat 30000 a.2.2)) (some [RV.d aoi (gE (ah (hSu a.1 b)) (ah a.2.1) (ah a.2.2))]))
def QB:Cn 62 [tO,tR]:=cn fun(a:BO3) (b:BR)=>lf (okT 15000 a∧ok Rat 15000 b) [.d aoi (fH (dec a) (ah b))] fun h=>by
 refine aA KX (Oa a b) ⟨0,?_⟩
 obtain⟨ha,hb⟩:=h
 obtain⟨a,rfl,ba,ra⟩:=gn ha
 obtain⟨b,rfl,bb⟩:=aG hb
 unfold Oa
 simp only[aU,Nat.reduceAdd,Nat.reduceLeDiff]
 try rfl
def kX:ef:=spN false true [tR] (fun x=>decide (okR x.1)) (fun x=>[RV.d tR (hNe x.1)])
theorem gJ:SpK 109 kX:=spX fun x h=>by simp only[bK];exact IZ x.1 (ak1 h)
def MF:List En:=[⟨99,iA,fe⟩,⟨107,iR,fx⟩,⟨106,iD,ff⟩,⟨108,gU,eO⟩,⟨41,fM,dX⟩,⟨73,l6,iy⟩,⟨109,kX,gJ⟩]
def Ys(a b c:BR)(_k:KT):Option (List RV):=og (o1 a) (og (o1 b) (og (o1 c) (match(i64.wrap ((aD (ah b) 0)*(aD (ah c) 0)))==0 with|true=>some [RV.d aoi (aD (ah a) 0)]|false=>(match(aD (ah a) 0)==(i64.wrap ((aD (ah b) 0)*(aD (ah c) 0)))with|true=>some [RV.d aoi (aD (ah a) 0)]|false=>(match(aD (ah a) 0)==0 with|true=>some [RV.d aoi (i64.wrap ((aD (ah b) 0)*(aD (ah c) 0)))]|false=>(og (o2 a a) (og (o2 b b) (og (o2 (hMu b b) c) (og (o2 (hMu a a) (hMu (hMu b b) c)) (some [RV.d aoi (i64.wrap ((aD (ah a) 0)*(aD (ah (hMu a a)) (ah (hMu (hMu b b) c)))))]))))))))))
def Cr:Cn 293 [tR,tR,tR]:=cn fun(a b c:BR)=>lf (ok Rat 240000 a∧ok Rat 170000 b∧ok Rat 30000 c) [.d aoi (gE (ah a) (ah b) (ah c))] fun h=>by
 refine aA MF (Ys a b c) ⟨0,?_⟩
 obtain⟨ha,hb,hc⟩:=h
 obtain⟨a,rfl,ba⟩:=aG ha
 obtain⟨b,rfl,bb⟩:=aG hb
 obtain⟨c,rfl,bc⟩:=aG hc
 unfold Ys
 simp only[aU,Nat.reduceAdd,Nat.reduceLeDiff,qa]
 exact Bs _ _ _
def YU(a:BR)(_k:KT):Option (List RV):=og (o1 a) (og (o1 (hNe a)) (some [RV.d tR (hNe (hNe a))]))
def V8:Cn 338 [tR]:=cn fun(a:BR)=>lf (okR a) [.d tR (am (ah a))] fun h=>by
 refine aA MF (YU a) ⟨0,?_⟩
 have ha:=h
 obtain⟨a,rfl,ba⟩:=fk ha
 unfold YU
 simp only[aU,Nat.reduceLeDiff,an7]
def ahB:List En:=enT Cr::enL V8::MF
def Zp(a b:BO3)(_k:KT):Option (List RV):=og (o2 a.1 b.1) (og (o1 a.2.1) (og (o1 b.2.1) (og (decide (aH (0:Int))) (og (o1 a.2.2) (og (o1 b.2.2) (some [RV.d tQ (hSu a.1 b.1,(hid (am (ah a.2.1)),(hNe b.2.1,(hid (am ((0:Int):Rat)),(hid (am (ah a.2.2)),hid (am (ah b.2.2)))))))]))))))
def PS:Cn 296 [tO,tO]:=cn fun(a b:BO3)=>lf (ok Rt 15000 a∧ok Rt 15000 b) [.d tQ (enc (suT (dec a) (dec b)))] fun h=>by
 refine aA ahB (Zp a b) ⟨0,?_⟩
 obtain⟨ha,hb⟩:=h
 obtain⟨a,rfl,ba⟩:=aG ha
 obtain⟨b,rfl,bb⟩:=aG hb
 unfold Zp
 simp only[aU,Nat.reduceLeDiff]
 try rfl
theorem kb{n:Int}(h:aH n):szI n≤3:=by
 have:pw 3=1000000000000000000000000000:=by decide
 exact fu (by have:=h.1;omega) (by have:=h.2;omega)
theorem OM{q:Rat}{k:Nat}(h:Bd q k)(hk:k≤480000):okI (ai q.floor)∧okI (ai (-q.floor)):=by
 have e:szI q.floor≤k:=by
  refine alc (dD ?_) h.le.1
  rw[Rat.floor_def]
  exact Int.natAbs_ediv_le_natAbs _ _
 exact⟨aT (by omega),aT (by rw[jk];omega)⟩
theorem ajd:Bd (65536:Rat) 1:=⟨⟨by decide+kernel,by decide+kernel⟩⟩
theorem act:((65536:Int):Rat)=65536:=rfl
theorem p48:(2:Int)^(min (48:Int).toNat 64)=281474976710656:=by decide
theorem p32:(2:Int)^(min (32:Int).toNat 64)=4294967296:=by decide
theorem p16:(2:Int)^(min (16:Int).toNat 64)=65536:=by decide
theorem fdv{a b:Int}(h:0≤b):Int.fdiv a b=a/b:=Int.fdiv_eq_ediv_of_nonneg a h
theorem XF(n k:Nat)(hn:n<18446744073709551616)(hk:2^k-1<18446744073709551616):BitVec.toNat (BitVec.ofInt 64 (n:Int)&&&BitVec.ofInt 64 ((2^k-1:Nat):Int))=n%2^k:=by
 rw[BitVec.toNat_and,BitVec.toNat_ofInt,BitVec.toNat_ofInt]
 have e1:((n:Int)%((2^64:Nat):Int)).toNat=n:=by omega
 have e2:(((2^k-1:Nat):Int)%((2^64:Nat):Int)).toNat=2^k-1:=by omega
 rw[e1,e2,Nat.and_two_pow_sub_one_eq_mod]
theorem ahH(n:Nat)(hn:n<18446744073709551616):u64.wrap (BitVec.toNat (BitVec.ofInt 64 (n:Int)&&&BitVec.ofInt 64 65535))=((n%65536:Nat):Int):=by
 rw[show(65535:Int)=((2^16-1:Nat):Int) from rfl,XF n 16 hn (by decide),alP]
 omega
theorem Rp(n:Nat)(hn:n<18446744073709551616):u64.wrap (BitVec.toNat (BitVec.ofInt 64 (n:Int)&&&BitVec.ofInt 64 4294967295))=((n%4294967296:Nat):Int):=by
 rw[show(4294967295:Int)=((2^32-1:Nat):Int) from rfl,XF n 32 hn (by decide),alP]
 omega
theorem ai1{h l:Nat}(hh:h<65536)(hl:l<281474976710656):u64.wrap (BitVec.toNat (BitVec.ofInt 64 (u64.wrap ((h:Int)*281474976710656)) ||| BitVec.ofInt 64 (l:Int)))=((h*281474976710656+l:Nat):Int):=by
 rw[BitVec.toNat_or,BitVec.toNat_ofInt,BitVec.toNat_ofInt,alP,alP]
 have e1:((h:Int)*281474976710656%18446744073709551616%((2^64:Nat):Int)).toNat=h <<< 48:=by
  rw[Nat.shiftLeft_eq]
  omega
 have e2:((l:Int)%((2^64:Nat):Int)).toNat=l:=by omega
 rw[e1,e2,←Nat.shiftLeft_add_eq_or_of_lt (by omega),Nat.shiftLeft_eq]
 omega
def scP(x y:Int):Prop:=x.natAbs≤2305843009213693952∧y.natAbs≤2305843009213693952
instance (x y:Int):Decidable (scP x y):=by unfold scP;infer_instance
def D8(n:Int):Prop:=0≤n∧n≤2305843009213693952
instance (n:Int):Decidable (D8 n):=by unfold D8;infer_instance
def ahX:Ctx:=CX [] []
def Yq(x y:Int)(_k:KT):Option (List RV):=match decide (x<(-2305843009213693952))with|true=>some [RV.d tG (0,0),RV.d .bool false]|false=>(match decide (y>2305843009213693952)with|true=>some [RV.d tG (0,0),RV.d .bool false]|false=>some [RV.d tG (x,y),RV.d .bool true])
theorem ag9(x y:Int):RS ahX 353 [SI x,SI y] (Yq x y):=rsX
def MN:Cn 353 [aoi,aoi]:=cn fun(x y:Int)=>lf True [.d tG ((ov x y).1),.d .bool ((ov x y).2)] fun _=>by
 refine fW (E:=[]) trivial (ag9 _ _ ⟨0,?_⟩)
 unfold Yq ov
 cases decide (x< -2305843009213693952)
 ·cases decide (y>2305843009213693952)<;>rfl
 ·rfl
def FW:ef:=spN false true [tI] (fun x=>decide (okI x.1)) (fun x=>[RV.d tI (hid (ai (-ae x.1)))])
theorem EP:SpK 216 FW:=spX fun x h=>by simp only[bK];exact IA x.1 (ak1 h)
def zx:List En:=[⟨99,iA,fe⟩,⟨108,gU,eO⟩,⟨109,kX,gJ⟩,enL Mw,enT ZF,⟨216,FW,EP⟩,enL MN]
def Wr(a:BR)(_k:KT):Option (List RV):=let y1:=hid (am ((65536:Int):Rat));let y2:=hid (ai (ah (hMu a y1)).floor);let y3:=hid (ai (ah (hNe (hMu a y1))).floor);let y4:=hid (ai (-ae y3));let y5:=ov (bif decide (aH (ae y2))then ae y2 else 0) (bif decide (aH (ae y4))then ae y4 else 0);og (decide (aH (65536:Int))) (og (o2 a y1) (og (o1 (hMu a y1)) (og (decide (okI y2)) (og (o1 (hMu a y1)) (og (o1 (hNe (hMu a y1))) (og (decide (okI y3)) (og (decide (okI y4)) (match !(decide (aH (ae y2)))with|true=>some [RV.d tG (0,0),RV.d .bool false]|false=>(match !(decide (aH (ae y4)))with|true=>some [RV.d tG (0,0),RV.d .bool false]|false=>some [RV.d tG (hid (y5.1)),RV.d .bool (y5.2)])))))))))
def Mr:Cn 333 [tR]:=cn fun(a:BR)=>lf (ok Rat 200000 a) [.d tG ((frF (ah a)).1),.d .bool ((frF (ah a)).2)] fun h=>by
 refine aA zx (Wr a) ⟨0,?_⟩
 have ha:=h
 obtain⟨a,rfl,ba⟩:=aG ha
 have hk:=ajd
 have h6:aH 65536:=by decide
 have f1:=OM (inferInstance:Bd (a*65536) _) (by decide)
 have f2:=OM (inferInstance:Bd (-(a*65536)) _) (by decide)
 unfold Wr
 simp only[act,aU,Nat.reduceAdd,Nat.reduceLeDiff,dec_enc,dT h6,dT f1.1,dT f2.1,dT f2.2]
 unfold frF
 cases e1:decide (aH (a*65536).floor)
 ·rfl
 ·cases e2:decide (aH (-(-(a*65536)).floor))
  ·rfl
  ·rfl
def Xy(a b:(Int×Int))(_k:KT):Option (List RV):=some [RV.d tG (hid ((ov (i64.wrap (a.1+b.1)) (i64.wrap (a.2+b.2))).1)),RV.d .bool ((ov (i64.wrap (a.1+b.1)) (i64.wrap (a.2+b.2))).2)]
def Lc:Cn 335 [tG,tG]:=cn fun(a b:(Int×Int))=>lf (prI a∧prI b) [.d tG ((dO a b).1),.d .bool ((dO a b).2)] fun h=>by
 refine aA zx (Xy a b) ⟨0,?_⟩
 obtain⟨⟨a1,a2,a3⟩,⟨b1,b2,b3⟩⟩:=h
 unfold Xy dO
 rw[aS (by omega) (by omega),aS (by omega) (by omega)]
 simp only[bK]
def Xf(a:(Int×Int))(_k:KT):Option (List RV):=some [RV.d tG (i64.wrap (0-a.2),i64.wrap (0-a.1))]
def PU:Cn 362 [tG]:=cn fun(a:(Int×Int))=>lf (prI a) [.d tG (mo a)] fun h=>by
 refine aA zx (Xf a) ⟨0,?_⟩
 obtain⟨a1,a2,a3⟩:=h
 unfold Xf mo
 rw[aS (by omega) (by omega),aS (by omega) (by omega),amW,amW]
def YW(n:Int)(_k:KT):Option (List RV):=match decide (n<0)with|true=>some [RV.d (.int .u64) (u64.wrap (0-(u64.wrap n)))]|false=>some [RV.d (.int .u64) (u64.wrap n)]
def Nw:Cn 367 [aoi]:=cn fun(n:Int)=>lf (aH n) [.d (.int .u64) (n.natAbs:Int)] fun h=>by
 refine aA zx (YW n) ⟨0,?_⟩
 obtain⟨h1,h2⟩:=h
 unfold YW
 rw[alP,alP]
 by_cases hn:n<0
 ·rw[akY hn,show(0-n%18446744073709551616)%18446744073709551616=(n.natAbs:Int) by omega]
 ·rw[ak0 hn,show n%18446744073709551616=(n.natAbs:Int) by omega]
def W1(x y:Int)(_k:KT):Option (List RV):=match decide (32<(0:Int))with|true=>none|false=>(match decide (32<(0:Int))with|true=>none|false=>(match decide (32<(0:Int))with|true=>none|false=>(match decide (32<(0:Int))with|true=>none|false=>(match decide (32<(0:Int))with|true=>none|false=>some [RV.d (.int .u64) (u64.wrap ((u64.wrap ((u64.wrap ((Int.fdiv x (2^(min (32:Int).toNat 64)))*(Int.fdiv y (2^(min (32:Int).toNat 64)))))+(Int.fdiv (u64.wrap ((u64.wrap ((Int.fdiv x (2^(min (32:Int).toNat 64)))*(u64.wrap (BitVec.toNat (BitVec.ofInt 64 y&&&BitVec.ofInt 64 4294967295)))))+(Int.fdiv (u64.wrap ((u64.wrap (BitVec.toNat (BitVec.ofInt 64 x&&&BitVec.ofInt 64 4294967295)))*(u64.wrap (BitVec.toNat (BitVec.ofInt 64 y&&&BitVec.ofInt 64 4294967295))))) (2^(min (32:Int).toNat 64))))) (2^(min (32:Int).toNat 64)))))+(Int.fdiv (u64.wrap ((u64.wrap (BitVec.toNat (BitVec.ofInt 64 (u64.wrap ((u64.wrap ((Int.fdiv x (2^(min (32:Int).toNat 64)))*(u64.wrap (BitVec.toNat (BitVec.ofInt 64 y&&&BitVec.ofInt 64 4294967295)))))+(Int.fdiv (u64.wrap ((u64.wrap (BitVec.toNat (BitVec.ofInt 64 x&&&BitVec.ofInt 64 4294967295)))*(u64.wrap (BitVec.toNat (BitVec.ofInt 64 y&&&BitVec.ofInt 64 4294967295))))) (2^(min (32:Int).toNat 64)))))&&&BitVec.ofInt 64 4294967295)))+(u64.wrap ((u64.wrap (BitVec.toNat (BitVec.ofInt 64 x&&&BitVec.ofInt 64 4294967295)))*(Int.fdiv y (2^(min (32:Int).toNat 64))))))) (2^(min (32:Int).toNat 64))))),RV.d (.int .u64) (u64.wrap (x*y))]))))
def N8:Cn 366 [(.int .u64),(.int .u64)]:=cn fun(x y:Int)=>lf (iI x∧iI y) [.d (.int .u64) (x*y/18446744073709551616),.d (.int .u64) (x*y%18446744073709551616)] fun h=>by
 refine aA zx (W1 x y) ⟨0,?_⟩
 obtain⟨h1,h2⟩:=h
 obtain⟨X,rfl⟩:=ama h1.1
 obtain⟨Y,rfl⟩:=ama h2.1
 have hX:X<18446744073709551616:=by have:=h1.2;omega
 have hY:Y<18446744073709551616:=by have:=h2.2;omega
 have wn:∀n:Nat,n<18446744073709551616→u64.wrap (n:Int)=(n:Int):=fun n hn=>by rw[alP];omega
 have eX:(X:Int)/4294967296=((X/4294967296:Nat):Int):=by omega
 have eY:(Y:Int)/4294967296=((Y/4294967296:Nat):Int):=by omega
 unfold W1
 simp only[p32,fdv (show(0:Int)≤4294967296 by decide),Rp X hX,Rp Y hY,eX,eY]
 have hXY:X*Y=X/4294967296*(Y/4294967296)*18446744073709551616+(X/4294967296*(Y%4294967296)+X%4294967296*(Y/4294967296))*4294967296+X%4294967296*(Y%4294967296):=by
  have a:=Nat.div_add_mod X 4294967296
  have b:=Nat.div_add_mod Y 4294967296
  generalize X/4294967296=x1 at*
  generalize X%4294967296=x0 at*
  generalize Y/4294967296=y1 at*
  generalize Y%4294967296=y0 at*
  subst a b
  grind
 have x0:X%4294967296≤4294967295:=by omega
 have y0:Y%4294967296≤4294967295:=by omega
 have x1:X/4294967296≤4294967295:=by omega
 have y1:Y/4294967296≤4294967295:=by omega
 have q00:=am6 x0 y0
 have q10:=am6 x1 y0
 have q01:=am6 x0 y1
 have q11:=am6 x1 y1
 simp only[←amw]
 rw[hXY]
 generalize X%4294967296*(Y%4294967296)=p00 at*
 generalize X/4294967296*(Y%4294967296)=p10 at*
 generalize X%4294967296*(Y/4294967296)=p01 at*
 generalize X/4294967296*(Y/4294967296)=p11 at*
 have t0:u64.wrap (u64.wrap (p10:Int)+u64.wrap (p00:Int)/4294967296)=((p10+p00/4294967296:Nat):Int):=by
  rw[wn p10 (by omega),wn p00 (by omega),show(p10:Int)+(p00:Int)/4294967296=((p10+p00/4294967296:Nat):Int) by omega,wn _ (by omega)]
 rw[t0,Rp _ (by omega)]
 have t1:u64.wrap (((p10+p00/4294967296)%4294967296:Nat)+u64.wrap (p01:Int))=(((p10+p00/4294967296)%4294967296+p01:Nat):Int):=by
  rw[wn p01 (by omega),←Int.natCast_add,wn _ (by omega)]
 rw[t1,wn p11 (by omega)]
 rw[ak0 (show ¬(32:Int)<0 by decide)]
 dsimp only
 have hi:u64.wrap (u64.wrap ((p11:Int)+((p10+p00/4294967296:Nat):Int)/4294967296)+(((p10+p00/4294967296)%4294967296+p01:Nat):Int)/4294967296)=((p11*18446744073709551616+(p10+p01)*4294967296+p00:Nat):Int)/18446744073709551616:=by
  rw[alP,alP]
  omega
 rw[hi,alP]
def aeX:List En:=enA Nw::enA N8::zx
def X0(x y:Int)(_k:KT):Option (List RV):=let y1:=hid ((x.natAbs:Int));let y2:=hid ((y.natAbs:Int));let y3:=hid (y1*y2/18446744073709551616);let y4:=hid (y1*y2%18446744073709551616);let y5:=u64.wrap (BitVec.toNat (BitVec.ofInt 64 (u64.wrap (y3*2^(min (48:Int).toNat 64))) ||| BitVec.ofInt 64 (Int.fdiv y4 (2^(min (16:Int).toNat 64)))));let y6:=i64.wrap y5;let y7:=i64.wrap (y6+1);let y8:=i64.wrap (0-y7);let y9:=i64.wrap (0-y6);let y10:=decide (y9≤2305843009213693952);og (decide (aH x)) (og (decide (aH y)) (og (decide (iI y1∧iI y2)) (match decide (16<(0:Int))with|true=>none|false=>(match(Int.fdiv y3 (2^(min (16:Int).toNat 64))) !=0 with|true=>some [RV.d aoi 0,RV.d aoi 0,RV.d .bool false]|false=>(match decide (48<(0:Int))with|true=>none|false=>(match decide (16<(0:Int))with|true=>none|false=>(match decide (y5>2305843009213693952)with|true=>some [RV.d aoi 0,RV.d aoi 0,RV.d .bool false]|false=>(match(u64.wrap (BitVec.toNat (BitVec.ofInt 64 y4&&&BitVec.ofInt 64 65535))) !=0 with|true=>(match !((decide (x<0))==(decide (y<0)))with|true=>(match decide (y8≥(-2305843009213693952))with|true=>some [RV.d aoi y8,RV.d aoi y9,RV.d .bool y10]|false=>some [RV.d aoi y8,RV.d aoi y9,RV.d .bool false])|false=>(match decide (y6≥(-2305843009213693952))with|true=>some [RV.d aoi y6,RV.d aoi y7,RV.d .bool (decide (y7≤2305843009213693952))]|false=>some [RV.d aoi y6,RV.d aoi y7,RV.d .bool false]))|false=>(match !((decide (x<0))==(decide (y<0)))with|true=>(match decide (y9≥(-2305843009213693952))with|true=>some [RV.d aoi y9,RV.d aoi y9,RV.d .bool y10]|false=>some [RV.d aoi y9,RV.d aoi y9,RV.d .bool false])|false=>(match decide (y6≥(-2305843009213693952))with|true=>some [RV.d aoi y6,RV.d aoi y6,RV.d .bool (decide (y6≤2305843009213693952))]|false=>some [RV.d aoi y6,RV.d aoi y6,RV.d .bool false]))))))))))
def Yv:Cn 356 [aoi,aoi]:=cn fun(x y:Int)=>lf (scP x y) [.d aoi ((scF x y).1.1),.d aoi ((scF x y).1.2),.d .bool ((scF x y).2)] fun h=>by
 refine aA aeX (X0 x y) ⟨0,?_⟩
 obtain⟨hx,hy⟩:=h
 have h1:aH x:=⟨by omega,by omega⟩
 have h2:aH y:=⟨by omega,by omega⟩
 have h3:iI (x.natAbs:Int)∧iI (y.natAbs:Int):=⟨⟨by omega,by omega⟩,⟨by omega,by omega⟩⟩
 unfold X0 scF
 simp only[bK]
 rw[dT h1,dT h2,dT h3]
 have hp:=am6 hx hy
 simp only[←amw,p16,p48,fdv (show(0:Int)≤65536 by decide)]
 generalize x.natAbs*y.natAbs=p at*
 rw[ak0 (show ¬(16:Int)<0 by decide),ak0 (show ¬(48:Int)<0 by decide),show(p:Int)/18446744073709551616=((p/18446744073709551616:Nat):Int) by omega,show(p:Int)%18446744073709551616=((p%18446744073709551616:Nat):Int) by omega,show((p%18446744073709551616:Nat):Int)/65536=((p%18446744073709551616/65536:Nat):Int) by omega,ahH _ (by omega),show p%18446744073709551616%65536=p%65536 by omega]
 by_cases hc:p≥1208925819614629174706176
 ·rw[akY hc,show(((p/18446744073709551616:Nat):Int)/65536 !=0)=true by simp;omega]
  rfl
 ·rw[ak0 hc,show(((p/18446744073709551616:Nat):Int)/65536 !=0)=false by simp;omega,ai1 (by omega) (by omega),show p/18446744073709551616*281474976710656+p%18446744073709551616/65536=p/65536 by omega]
  have hdm:=Nat.div_add_mod p 65536
  have hml:=anU p (show 65536>0 by decide)
  have hru:(p+65535)/65536=if p%65536=0 then p/65536 else p/65536+1:=by split<;>omega
  rw[hru]
  clear hru
  generalize p/65536=q at*
  generalize p%65536=m at*
  have e1:decide ((q:Int)>2305843009213693952)=decide (q>2305843009213693952):=amb.2 (by omega)
  rw[e1]
  by_cases hd:q>2305843009213693952
  ·rw[akY hd]
   rfl
  rw[ak0 hd,aS (x:=(q:Int)) (by omega) (by omega),aS (x:=(q:Int)+1) (by omega) (by omega),aS (x:=0-(q:Int)) (by omega) (by omega),aS (x:=0-((q:Int)+1)) (by omega) (by omega)]
  have e2:((m:Int) !=0)=!decide (m=0):=by by_cases h:m=0<;>simp[h]
  have e3:decide (0-(q:Int)≥ -2305843009213693952)=true:=akY (by omega)
  have e4:decide (0-(q:Int)≤2305843009213693952)=true:=akY (by omega)
  have e5:decide ((q:Int)≥ -2305843009213693952)=true:=akY (by omega)
  have e6:decide ((q:Int)≤2305843009213693952)=true:=akY (by omega)
  have e7:decide (0-((q:Int)+1)≥ -2305843009213693952)=decide (q+1≤2305843009213693952):=amb.2 (by omega)
  have e8:decide ((q:Int)+1≤2305843009213693952)=decide (q+1≤2305843009213693952):=amb.2 (by omega)
  have e9:decide (q≤2305843009213693952)=true:=akY (by omega)
  rw[e2,e3,e4,e5,e6,e7,e8]
  have f2:((q+1:Nat):Int)=(q:Int)+1:=by omega
  have f3:decide (m=0)=true→m=0:=ak1
  have f4:decide (m=0)=false→m≠0:=alQ
  generalize decide (m=0)=d2 at*
  generalize (decide (x<0)==decide (y<0))=d3 at*
  cases d2
  ·rw[alm (f4 rfl),f2]
   generalize decide (q+1≤2305843009213693952)=d4 at*
   cases d3<;>cases d4<;>simp
  ·rw[alr (f3 rfl),e9]
   cases d3<;>simp
def bG(r:Rt):Iv×Bool:=
 bif !(frF r.1).2||decide (r.2.1=0)then frF r.1
 else bif !(frF r.2.1).2||!(frF r.2.2).2||decide (r.2.2<0)then(iv0,false)
 else bif !(sqF (frF r.2.2).1).2 then(iv0,false)
 else bif !(cH (frF r.2.1).1 (sqF (frF r.2.2).1).1).2 then(iv0,false)
 else dO (frF r.1).1 (cH (frF r.2.1).1 (sqF (frF r.2.2).1).1).1
def jN(n:Rat)(a:Iv)(k:Bool):Iv×Bool:=bif !k||!(frF n).2 then(iv0,false)else cH (frF n).1 a
def apF(a b:Rt):Int×Bool:=
 bif !(bG a).2||!(bG b).2 then(0,false)else bif decide ((bG a).1.2<(bG b).1.1)then(-1,true)else bif decide ((bG a).1.1>(bG b).1.2)then(1,true)else(0,false)
abbrev Pt:=Rat×Rat×Rat×Rat×Rat
abbrev Ln:=Rat×Rat×Rat
def pxR(p:Pt):Rt:=(p.1,p.2.1,p.2.2.2.2)
def pyR(p:Pt):Rt:=(p.2.2.1,p.2.2.2.1,p.2.2.2.2)
def wJ(l:Ln)(p:Pt):Int×Bool:=
 bif !(jN l.1 (bG (pxR p)).1 (bG (pxR p)).2).2||!(jN l.2.1 (bG (pyR p)).1 (bG (pyR p)).2).2||!(frF l.2.2).2 then(0,false)
 else bif !(dO (jN l.1 (bG (pxR p)).1 (bG (pxR p)).2).1 (jN l.2.1 (bG (pyR p)).1 (bG (pyR p)).2).1).2 then(0,false)
 else bif !(dO (dO (jN l.1 (bG (pxR p)).1 (bG (pxR p)).2).1 (jN l.2.1 (bG (pyR p)).1 (bG (pyR p)).2).1).1 (mo (frF l.2.2).1)).2 then(0,false)
 else sgF (dO (dO (jN l.1 (bG (pxR p)).1 (bG (pxR p)).2).1 (jN l.2.1 (bG (pyR p)).1 (bG (pyR p)).2).1).1 (mo (frF l.2.2).1)).1
def fq(r:Rt)(q:Rat):Iv×Bool:=bif !(bG r).2||!(frF q).2 then(iv0,false)else dO (bG r).1 (mo (frF q).1)
def ud(c:Ln)(p:Pt):Int×Bool:=
 bif !(fq (pxR p) c.1).2||!(fq (pyR p) c.2.1).2||!(frF c.2.2).2 then(0,false)
 else bif !(cH (fq (pxR p) c.1).1 (fq (pxR p) c.1).1).2||!(cH (fq (pyR p) c.2.1).1 (fq (pyR p) c.2.1).1).2 then(0,false)
 else bif !(dO (cH (fq (pxR p) c.1).1 (fq (pxR p) c.1).1).1 (cH (fq (pyR p) c.2.1).1 (fq (pyR p) c.2.1).1).1).2 then(0,false)
 else bif !(dO (dO (cH (fq (pxR p) c.1).1 (fq (pxR p) c.1).1).1 (cH (fq (pyR p) c.2.1).1 (fq (pyR p) c.2.1).1).1).1 (mo (frF c.2.2).1)).2 then(0,false)
 else sgF (dO (dO (cH (fq (pxR p) c.1).1 (fq (pxR p) c.1).1).1 (cH (fq (pyR p) c.2.1).1 (fq (pyR p) c.2.1).1).1).1 (mo (frF c.2.2).1)).1
def sfF(m:Rat):Iv:=(sqF (frF m).1).1
def mfF(b:Rat)(i:Iv):Iv:=(cH (frF b).1 i).1
def qu1(q:Qd):Bool:=(frF q.2.2.2.2.1).2&&(sqF (frF q.2.2.2.2.1).1).2&&(frF q.2.2.2.2.2).2&&(sqF (frF q.2.2.2.2.2).1).2
def qu2(q:Qd):Bool:=(frF q.2.1).2&&(cH (frF q.2.1).1 (sfF q.2.2.2.2.1)).2&&(frF q.2.2.1).2&&(cH (frF q.2.2.1).1 (sfF q.2.2.2.2.2)).2&&(frF q.2.2.2.1).2&&(cH (sfF q.2.2.2.2.1) (sfF q.2.2.2.2.2)).2&&(cH (frF q.2.2.2.1).1 (cH (sfF q.2.2.2.2.1) (sfF q.2.2.2.2.2)).1).2
def quA(q:Qd):Iv×Bool:=dO (frF q.1).1 (mfF q.2.1 (sfF q.2.2.2.2.1))
def quB(q:Qd):Iv×Bool:=dO (mfF q.2.2.1 (sfF q.2.2.2.2.2)) (mfF q.2.2.2.1 (cH (sfF q.2.2.2.2.1) (sfF q.2.2.2.2.2)).1)
def qu3(q:Qd):Bool:=(frF q.1).2&&(quA q).2&&(quB q).2&&(dO (quA q).1 (quB q).1).2
def quF(q:Qd):Int×Bool:=bif !(qu1 q)then(0,false)else bif !(qu2 q)then(0,false)else bif !(qu3 q)then(0,false)else sgF (dO (quA q).1 (quB q).1).1
theorem wU(r:Rt):prI (bG r).1:=by
 unfold bG
 cases !(frF r.1).2||decide (r.2.1=0)
 ·cases !(frF r.2.1).2||!(frF r.2.2).2||decide (r.2.2<0)
  ·cases !(sqF (frF r.2.2).1).2
   ·cases !(cH (frF r.2.1).1 (sqF (frF r.2.2).1).1).2
    ·exact RE.addF_pr (RE.frF_pr _) (sh _ _)
    ·exact fK
   ·exact fK
  ·exact fK
 ·exact RE.frF_pr _
theorem Tv(n:Rat)(a:Iv)(k:Bool):prI (jN n a k).1:=by
 unfold jN
 cases !k||!(frF n).2
 ·exact sh _ _
 ·exact fK
theorem VG(r:Rt)(q:Rat):prI (fq r q).1:=by
 unfold fq
 cases !(bG r).2||!(frF q).2
 ·exact RE.addF_pr (wU _) (RE.negF_pr (RE.frF_pr _))
 ·exact fK
namespace RE
theorem ph{r:Rt}(h:(bG r).2=true):inI (bG r).1 (v2 r.1 r.2.1 r.2.2):=by
 unfold bG at h ⊢
 cases e1:(frF r.1).2
 ·rw[e1]at h
  simp only[Bool.not_false,Bool.true_or,cond_true]at h
  rw[e1]at h
  cases h
 ·rw[e1]at h
  by_cases hb:r.2.1=0
  ·rw[akY hb]at h ⊢
   simp only[Bool.not_true,Bool.false_or,cond_true]
   unfold v2
   rw[hb,nj,zero_mul,add_zero]
   exact iE e1
  ·rw[ak0 hb]at h ⊢
   cases e2:(frF r.2.1).2<;>cases e3:(frF r.2.2).2<;>cases e4:decide (r.2.2<0)<;>rw[e2,e3,e4]at h<;>try (cases h;done)
   cases e5:(sqF (frF r.2.2).1).2<;>rw[e5]at h<;>try (cases h;done)
   cases e6:(cH (frF r.2.1).1 (sqF (frF r.2.2).1).1).2<;>rw[e6]at h<;>try (cases h;done)
   have hn:(0:RE)≤of r.2.2:=gN.2 (by have:=alQ e4;grind)
   exact j8 (iE e1) (lC (iE e2) (wS (iE e3) hn e5) e6) h
theorem IP{n:Rat}{a:Iv}{k:Bool}{x:RE}(ha:k=true→inI a x)(h:(jN n a k).2=true):inI (jN n a k).1 (of n*x):=by
 unfold jN at h ⊢
 cases k
 ·cases h
 ·cases e:(frF n).2<;>rw[e]at h
  ·cases h
  ·exact lC (iE e) (ha rfl) h
theorem IH{r:Rt}{q:Rat}(h:(fq r q).2=true):inI (fq r q).1 (v2 r.1 r.2.1 r.2.2+ -of q):=by
 unfold fq at h ⊢
 cases e1:(bG r).2<;>cases e2:(frF q).2<;>rw[e1,e2]at h<;>try (cases h;done)
 exact j8 (ph e1) (Bf (iE e2)) h
theorem TG(x y:RE)(h1:x<y):x-y<0:=by grind
theorem aia(u x y a b:RE):((b-(a)))+((a-(u*x)))+((u*y-(b)))+((u-(0))*(x-(y)))=0:=by grind
theorem ap1(u x y a b:RE)(h1:0<u)(h2:u*x≤a)(h3:a<b)(h4:b≤u*y):x<y:=r8.1 fun hg=>far (aI (aI (aI (aJ h3) (aC h2)) (aC h4)) (bg (le_of_lt (aJ h1)) (aC hg))) (aia u x y a b)
theorem apF_ok{a b:Rt}(h:(apF a b).2=true):(apF a b).1=sg (vR a-vR b):=by
 unfold apF at h ⊢
 cases e1:(bG a).2<;>cases e2:(bG b).2<;>rw[e1,e2]at h<;>try (cases h;done)
 obtain⟨a1,a2⟩:=ph e1
 obtain⟨b1,b2⟩:=ph e2
 cases e3:decide ((bG a).1.2<(bG b).1.1)<;>rw[e3]at h
 ·cases e4:decide ((bG a).1.1>(bG b).1.2)<;>rw[e4]at h
  ·cases h
  ·have h4:of ((bG b).1.2:Rat)<of ((bG a).1.1:Rat):=io (ans.2 (ak1 e4))
   exact(cY (aJ (ap1 _ _ _ _ _ oe b2 h4 a1))).symm
 ·have h4:of ((bG a).1.2:Rat)<of ((bG b).1.1:Rat):=io (ans.2 (ak1 e3))
  exact(gu (TG _ _ (ap1 _ _ _ _ _ oe a2 h4 b1))).symm
theorem SW{l:Ln}{p:Pt}(h:(wJ l p).2=true):(wJ l p).1=sg (of l.1*v2 p.1 p.2.1 p.2.2.2.2+of l.2.1*v2 p.2.2.1 p.2.2.2.1 p.2.2.2.2+ -of l.2.2):=by
 unfold wJ at h ⊢
 cases e1:(jN l.1 (bG (pxR p)).1 (bG (pxR p)).2).2<;>cases e2:(jN l.2.1 (bG (pyR p)).1 (bG (pyR p)).2).2<;>cases e3:(frF l.2.2).2<;>rw[e1,e2,e3]at h<;>try (cases h;done)
 have i1:=IP (x:=v2 p.1 p.2.1 p.2.2.2.2) (fun e=>ph (r:=pxR p) e) e1
 have i2:=IP (x:=v2 p.2.2.1 p.2.2.2.1 p.2.2.2.2) (fun e=>ph (r:=pyR p) e) e2
 revert h i1 i2
 generalize jN l.1 (bG (pxR p)).1 (bG (pxR p)).2=X
 generalize jN l.2.1 (bG (pyR p)).1 (bG (pyR p)).2=Y
 intro h i1 i2
 cases e4:(dO X.1 Y.1).2<;>rw[e4]at h<;>try (cases h;done)
 cases e5:(dO (dO X.1 Y.1).1 (mo (frF l.2.2).1)).2<;>rw[e5]at h<;>try (cases h;done)
 exact GX (j8 (j8 i1 i2 e4) (Bf (iE e3)) e5) h
theorem TF{c:Ln}{p:Pt}(h:(ud c p).2=true):(ud c p).1=sg ((v2 p.1 p.2.1 p.2.2.2.2+ -of c.1)*(v2 p.1 p.2.1 p.2.2.2.2+ -of c.1)+(v2 p.2.2.1 p.2.2.2.1 p.2.2.2.2+ -of c.2.1)*(v2 p.2.2.1 p.2.2.2.1 p.2.2.2.2+ -of c.2.1)+ -of c.2.2):=by
 unfold ud at h ⊢
 cases e1:(fq (pxR p) c.1).2<;>cases e2:(fq (pyR p) c.2.1).2<;>cases e3:(frF c.2.2).2<;>rw[e1,e2,e3]at h<;>try (cases h;done)
 have i1:=IH e1
 have i2:=IH e2
 revert h
 generalize fq (pxR p) c.1=X at*
 generalize fq (pyR p) c.2.1=Y at*
 intro h
 cases e4:(cH X.1 X.1).2<;>cases e5:(cH Y.1 Y.1).2<;>rw[e4,e5]at h<;>try (cases h;done)
 cases e6:(dO (cH X.1 X.1).1 (cH Y.1 Y.1).1).2<;>rw[e6]at h<;>try (cases h;done)
 cases e7:(dO (dO (cH X.1 X.1).1 (cH Y.1 Y.1).1).1 (mo (frF c.2.2).1)).2<;>rw[e7]at h<;>try (cases h;done)
 exact GX (j8 (j8 (lC i1 i1 e4) (lC i2 i2 e5) e6) (Bf (iE e3)) e7) h
theorem ahJ(a b c d:RE):a+b+(c+d)=a+b+c+d:=by grind
theorem quF_ok{q:Qd}(hM:0≤q.2.2.2.2.1)(hN:0≤q.2.2.2.2.2)(h:(quF q).2=true):(quF q).1=sg (vQ q.1 q.2.1 q.2.2.1 q.2.2.2.1 q.2.2.2.2.1 q.2.2.2.2.2):=by
 unfold quF at h ⊢
 cases e1:qu1 q<;>rw[e1]at h<;>try (cases h;done)
 cases e2:qu2 q<;>rw[e2]at h<;>try (cases h;done)
 cases e3:qu3 q<;>rw[e3]at h<;>try (cases h;done)
 unfold qu1 at e1
 unfold qu2 at e2
 unfold qu3 at e3
 simp only[ak2]at e1 e2 e3
 obtain⟨⟨⟨a1,a2⟩,a3⟩,a4⟩:=e1
 obtain⟨⟨⟨⟨⟨⟨b1,b2⟩,b3⟩,b4⟩,b5⟩,b6⟩,b7⟩:=e2
 obtain⟨⟨⟨c1,c2⟩,c3⟩,c4⟩:=e3
 have i1:inI (sfF q.2.2.2.2.1) (rq q.2.2.2.2.1):=wS (iE a1) (gN.2 hM) a2
 have i2:inI (sfF q.2.2.2.2.2) (rq q.2.2.2.2.2):=wS (iE a3) (gN.2 hN) a4
 have hq:inI (dO (quA q).1 (quB q).1).1 (vQ q.1 q.2.1 q.2.2.1 q.2.2.2.1 q.2.2.2.2.1 q.2.2.2.2.2):=by
  have:=j8 (j8 (iE c1) (lC (iE b1) i1 b2) c2) (j8 (lC (iE b3) i2 b4) (lC (iE b5) (lC i1 i2 b6) b7) c3) c4
  rw[ahJ]at this
  exact this
 exact GX hq h
end RE
end Go.Proofs.YtnkndpoojnflmaaGreat
end
