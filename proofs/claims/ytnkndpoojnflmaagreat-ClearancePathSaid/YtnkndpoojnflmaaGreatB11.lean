/- The reference's Sqrt and Same. -/
import Derived.Test.YtnkndpoojnflmaaGreatB10
noncomputable section
namespace Go.Proofs.YtnkndpoojnflmaaGreat
open Go.RowKit Go.IntKind
theorem ahN:type_of% @Int.zero_sub:=@Int.zero_sub
theorem ahQ:type_of% @Rat.intCast_mul:=@Rat.intCast_mul
theorem ah3:type_of% @Bool.and_eq_true_iff:=@Bool.and_eq_true_iff
theorem ah8:type_of% @decide_eq_true_eq:=@decide_eq_true_eq
theorem aij:type_of% @Rat.intCast_lt_intCast:=@Rat.intCast_lt_intCast
theorem aiH:type_of% @beq_eq_false_iff_ne:=@beq_eq_false_iff_ne
theorem kO(a b:Int):(ce a b==0)=decide (a=b):=by
 rcases Int.lt_trichotomy a b with h|h|h
 ·rw[cQ h,af1 (by omega)];rfl
 ·rw[h,dw,afZ rfl];rfl
 ·rw[cC h,af1 (by omega)];rfl
def Mv:List En:=[enK yb,enF IX,enK yG,enK CL,enK M4]
def PP:NT:=[((345,23),{keep:=[1,2,4,5],hl:=6})]
def zl:Ctx:=CX (ens Mv) PP
def jT(x:Bool×List Int)(b4_0:Bool)(b4_1:List Int):Cfg:=⟨345,[.blk 0],[(1,.box 0 0),(2,.box 1 0),(4,.box 4 0),(5,.box 5 0)],[.box 29 [SB x.1,.d ai1 x.2],.box 29 [SB false,.nil],.gone,.row 225 ai3 ([1]),.box 29 [SB b4_0,.d ai1 b4_1],.box 29 [SB ((ai (2:Int)).1),.d ai1 ((ai (2:Int)).2)]],0,[]⟩
def zu(x:Bool×List Int)(k:KT):Option (List RV):=match x.1 with|true=>some [RV.d y2Y (false,[]),RV.d ai2 7]|false=>(match(x.2.length:Int)==0 with|true=>some [RV.d y2Y (false,[]),RV.d ai2 0]|false=>(og (decide ((0:Int)≤i64.wrap (Int.tdiv (i64.wrap ((x.2.length:Int)+1)) 2)∧(i64.wrap (Int.tdiv (i64.wrap ((x.2.length:Int)+1)) 2))*((4:Nat):Int)≤140737488355328∧i64.wrap (Int.tdiv (i64.wrap ((x.2.length:Int)+1)) 2)≤140737488355328)) (og (decide (((List.replicate (i64.wrap (Int.tdiv (i64.wrap ((x.2.length:Int)+1)) 2)).toNat (0:Int)).length+([1]).length)*4≤140737488355328∧(List.replicate (i64.wrap (Int.tdiv (i64.wrap ((x.2.length:Int)+1)) 2)).toNat (0:Int)).length+([1]).length≤140737488355328)) (og (decide (aF (2:Int))) (k 23 (jT x false ((List.replicate (i64.wrap (Int.tdiv (i64.wrap ((x.2.length:Int)+1)) 2)).toNat (0:Int))++([1]))))))))
theorem Cm(x:Bool×List Int):RS zl 345 [.d y2Y x] (zu x):=rsX
def pA(x:Bool×List Int)(b4_0:Bool)(b4_1:List Int)(k:KT):Option (List RV):=og (decide (eS x (b4_0,b4_1))) (cd (og (decide (okI (b4_0,b4_1)∧okI (ai (ae x/ae (b4_0,b4_1))))) (cd (og (decide (eS (ai (ae (b4_0,b4_1)+ae (ai (ae x/ae (b4_0,b4_1))))) (ai (2:Int)))) (dup (.b .l .l) (og (decide (okI (ai (ae (ai (ae (b4_0,b4_1)+ae (ai (ae x/ae (b4_0,b4_1)))))/ae (ai (2:Int))))∧okI (b4_0,b4_1))) (match decide ((ce (ae (ai (ae (ai (ae (b4_0,b4_1)+ae (ai (ae x/ae (b4_0,b4_1)))))/ae (ai (2:Int))))) (ae (b4_0,b4_1)))≥0)with|true=>some [RV.d y2Y (b4_0,b4_1),RV.d ai2 0]|false=>k 23 (jT x ((ai (ae (ai (ae (b4_0,b4_1)+ae (ai (ae x/ae (b4_0,b4_1)))))/ae (ai (2:Int)))).1) ((ai (ae (ai (ae (b4_0,b4_1)+ae (ai (ae x/ae (b4_0,b4_1)))))/ae (ai (2:Int)))).2)))))) (dup (.b (.b .l .l) (.b .l .l)) (og (decide (eS (ai (ae (b4_0,b4_1)+ae (ai (ae x/ae (b4_0,b4_1))))) (ai (2:Int)))) (og (decide (okI (ai (ae (ai (ae (b4_0,b4_1)+ae (ai (ae x/ae (b4_0,b4_1)))))/ae (ai (2:Int))))∧okI (b4_0,b4_1))) (match decide ((ce (ae (ai (ae (ai (ae (b4_0,b4_1)+ae (ai (ae x/ae (b4_0,b4_1)))))/ae (ai (2:Int))))) (ae (b4_0,b4_1)))≥0)with|true=>some [RV.d y2Y (b4_0,b4_1),RV.d ai2 0]|false=>k 23 (jT x ((ai (ae (ai (ae (b4_0,b4_1)+ae (ai (ae x/ae (b4_0,b4_1)))))/ae (ai (2:Int)))).1) ((ai (ae (ai (ae (b4_0,b4_1)+ae (ai (ae x/ae (b4_0,b4_1)))))/ae (ai (2:Int)))).2)))))))) (dup (.b .l .l) (cd (og (decide (okI (b4_0,b4_1)∧okI (ai (ae x/ae (b4_0,b4_1))))) (dup (.b .l .l) (og (decide (eS (ai (ae (b4_0,b4_1)+ae (ai (ae x/ae (b4_0,b4_1))))) (ai (2:Int)))) (og (decide (okI (ai (ae (ai (ae (b4_0,b4_1)+ae (ai (ae x/ae (b4_0,b4_1)))))/ae (ai (2:Int))))∧okI (b4_0,b4_1))) (match decide ((ce (ae (ai (ae (ai (ae (b4_0,b4_1)+ae (ai (ae x/ae (b4_0,b4_1)))))/ae (ai (2:Int))))) (ae (b4_0,b4_1)))≥0)with|true=>some [RV.d y2Y (b4_0,b4_1),RV.d ai2 0]|false=>k 23 (jT x ((ai (ae (ai (ae (b4_0,b4_1)+ae (ai (ae x/ae (b4_0,b4_1)))))/ae (ai (2:Int)))).1) ((ai (ae (ai (ae (b4_0,b4_1)+ae (ai (ae x/ae (b4_0,b4_1)))))/ae (ai (2:Int)))).2))))))) (og (decide (okI (b4_0,b4_1)∧okI (ai (ae x/ae (b4_0,b4_1))))) (og (decide (eS (ai (ae (b4_0,b4_1)+ae (ai (ae x/ae (b4_0,b4_1))))) (ai (2:Int)))) (og (decide (okI (ai (ae (ai (ae (b4_0,b4_1)+ae (ai (ae x/ae (b4_0,b4_1)))))/ae (ai (2:Int))))∧okI (b4_0,b4_1))) (match decide ((ce (ae (ai (ae (ai (ae (b4_0,b4_1)+ae (ai (ae x/ae (b4_0,b4_1)))))/ae (ai (2:Int))))) (ae (b4_0,b4_1)))≥0)with|true=>some [RV.d y2Y (b4_0,b4_1),RV.d ai2 0]|false=>k 23 (jT x ((ai (ae (ai (ae (b4_0,b4_1)+ae (ai (ae x/ae (b4_0,b4_1)))))/ae (ai (2:Int)))).1) ((ai (ae (ai (ae (b4_0,b4_1)+ae (ai (ae x/ae (b4_0,b4_1)))))/ae (ai (2:Int)))).2)))))))))
theorem vY(x:Bool×List Int)(b4_0:Bool)(b4_1:List Int):RN zl 23 (jT x b4_0 b4_1) (pA x b4_0 b4_1):=rnX
theorem G8(x:BI)(hx:okI x)(h0:0<ae x):∀(m:Nat) (X:Int),X.toNat=m→0<X→bg (ae x)≤X→szI X≤900000→zl.Runs 23 (jT x (ai X).1 (ai X).2) [.d y2Y (ai (bg (ae x))),.d ai2 0]:=by
 intro m
 induction m using Nat.strongRecOn with
 |ind m ih=>
  intro X hm hX hs hsz
  obtain⟨g0,g1,g2⟩:=fC (agB h0)
  have hq0:0≤ae x/X:=agW (by omega) (by omega)
  have hq1:ae x/X≤ae x:=ahJ _ (by omega)
  have oX:okI (ai X):=aR (by omega)
  have sq:szI (ae x/X)≤1000000:=agj (c8 (by omega)) (ia hx)
  have p1:eS x (ai X):=⟨hx,oX,by rw[dec_enc];exact hX⟩
  have ssum:szI (X+ae x/X)≤1000000:=by
   have b1:=lQ hsz
   have b2:=lQ (ia hx)
   have e:pw 1000000=pw 900000*pw 100000:=by rw[←fb]
   have p9:(1000:Int)≤pw 100000:=by
    have:pw 100000=pw 99999*1000000000:=bU 99999
    have:=b9 99999
    omega
   have p8:=b9 900000
   have h8:pw 900000*1000≤pw 900000*pw 100000:=af7 p9 (by omega)
   rcases ags X 2 with hX1|hX1
   ·-- X=1:then the number is less than 4
    have:X=1:=by omega
    subst this
    have:bg (ae x)≤1:=hs
    have h4:ae x<4:=by
     have:=qT (a:=bg (ae x)+1) (b:=2) (by omega) (by omega)
     omega
    refine dX ?_ ?_<;>(rw[e,Int.ediv_one];omega)
   ·have hq2:ae x/X≤ae x/2:=by
     have:=Int.ediv_mul_le (ae x) (show X≠0 by omega)
     have h2:ae x/X*2≤ae x/X*X:=af7 hX1 hq0
     omega
    refine dX ?_ ?_<;>(rw[e]at b2 ⊢;omega)
  have o1:okI (ai X)∧okI (ai (ae x/X)):=⟨oX,aR sq⟩
  have p2:eS (ai (X+ae x/X)) (ai 2):=⟨aR ssum,by decide,by rw[dec_enc];decide⟩
  have hn:=L8 hX g0 g1
  have o2:okI (ai ((X+ae x/X)/2))∧okI (ai X):=⟨aR (agj (c8 (by omega)) ssum),oX⟩
  by_cases hc:X≤(X+ae x/X)/2
  ·have hXs:=vi hX hs g1 g2 g0 hc
   refine vY _ _ _ ⟨0,?_⟩
   unfold pA
   simp only[cN,eH]
   have e:∀z:Int,((ai z).1,(ai z).2)=ai z:=fun z=>rfl
   simp only[e,dec_enc,afZ p1,afZ o1,afZ p2,afZ o2]
   have hg:decide (ce ((X+ae x/X)/2) X≥0)=true:=by
    rcases Int.lt_or_eq_of_le hc with h|h
    ·rw[cC h];rfl
    ·rw[←h,dw];rfl
   rw[hg,hXs]
  ·obtain⟨n,hN⟩:=ih ((X+ae x/X)/2).toNat (by omega) ((X+ae x/X)/2) rfl (by
    rcases ags 0 (bg (ae x))with h|h
    ·omega
    ·exfalso
     have:bg (ae x)=0:=by omega
     rw[this]at g2
     omega) hn (agj (c8 (by omega)) hsz)
   refine vY _ _ _ ⟨n,?_⟩
   unfold pA
   simp only[cN,eH]
   have e:∀z:Int,((ai z).1,(ai z).2)=ai z:=fun z=>rfl
   simp only[e,dec_enc,afZ p1,afZ o1,afZ p2,afZ o2]
   rw[cQ (by omega)]
   exact hN
def Xi:Cn 345 [y2Y]:=cn fun(x:Bool×List Int)=>lf (okI x) [.d y2Y (fp x),.d ai2 (sV x)] fun h=>by
 refine cJ Mv (show zl.Res _ _ _ from ?_)
 obtain⟨x0,x1,x2⟩:=cr h
 have hl:=h.2.2
 cases hn:x.1
 ·by_cases hz:x.2=[]
  ·refine Cm _ ⟨0,?_⟩
   unfold zu fp sV
   have:ae x=0:=by unfold ae;rw[hn,hz];rfl
   rw[hn,hz,this]
   rfl
  ·have hp:0<val x.2:=d9 h.1 hz
   have hd:ae x=val x.2:=by unfold ae;rw[hn];rfl
   have hlen:=agF.2 hz
   have hk:i64.wrap (Int.tdiv (i64.wrap ((x.2.length:Int)+1)) 2)=(((x.2.length+1)/2:Nat):Int):=by
    rw[bK (by omega),gn (by omega),aP (by omega) (by omega)]
    omega
   have hv:val (List.replicate ((x.2.length+1)/2) 0++[1])=pw ((x.2.length+1)/2):=by
    rw[da,gf,ais]
    simp[val]
   have hL:aM (List.replicate ((x.2.length+1)/2) 0++[1]):=by
    refine⟨fun y hy=>?_,by simp;omega⟩
    rcases ag7.1 hy with hy|hy
    ·have:=List.eq_of_mem_replicate hy;omega
    ·simp at hy;omega
   have hpos:=b9 ((x.2.length+1)/2)
   obtain⟨n,hN⟩:=G8 x h (by omega) _ (pw ((x.2.length+1)/2)) rfl hpos (by
     obtain⟨g0,g1,g2⟩:=fC (show 0≤ae x by omega)
     have hlt:=bP h.1.1
     have hm:=cX (show x.2.length≤(x.2.length+1)/2+(x.2.length+1)/2 by omega)
     rw[fb]at hm
     have:=sq_lt (a:=bg (ae x)) (b:=pw ((x.2.length+1)/2)) (by omega) (by omega)
     omega) (dX (k:=900000) (by have:=b9 900000;omega) (by
      have:=cX (show(x.2.length+1)/2+1≤900000 by omega)
      rw[bU]at this
      omega))
   refine Cm _ ⟨n,?_⟩
   unfold zu fp sV
   simp only[hk]
   rw[hn,show((x.2.length:Int)==0)=false by simp;omega]
   simp only[ahm]
   rw[afZ (show(0:Int)≤(((x.2.length+1)/2:Nat):Int)∧(((x.2.length+1)/2:Nat):Int)*((4:Nat):Int)≤140737488355328∧(((x.2.length+1)/2:Nat):Int)≤140737488355328 by omega)]
   rw[afZ (show((List.replicate ((x.2.length+1)/2) (0:Int)).length+([1]:List Nat).length)*4≤140737488355328∧(List.replicate ((x.2.length+1)/2) (0:Int)).length+([1]:List Nat).length≤140737488355328 by simp;omega)]
   rw[afZ (show aF 2 by decide)]
   have he:ai (pw ((x.2.length+1)/2))=(false,List.replicate ((x.2.length+1)/2) 0++[1]):=by
    have ho:okI ((false,List.replicate ((x.2.length+1)/2) 0++[1]):BI):=⟨⟨hL.1,by simp⟩,(fun e=>by cases e),(by simp;omega)⟩
    rw[gC ho]
    congr 1
    exact hv.symm
   rw[he]at hN
   exact hN
 ·refine Cm _ ⟨0,?_⟩
  unfold zu fp sV
  rw[hn]
  rfl
def adk:List En:=enF vU::Mv
def Im(x y:Bool×List Int)(_k:KT):Option (List RV):=match x.1==y.1 with|true=>(og (decide (pj x.2 y.2)) (some [RV.d .bool ((ce (val x.2) (val y.2))==0)]))|false=>some [RV.d .bool false]
def IP:Cn 324 [y2Y,y2Y]:=cn fun(x y:Bool×List Int)=>lf (okI x∧okI y) [.d .bool (decide (ae x=ae y))] fun h=>by
 refine az adk (Im x y) ⟨0,?_⟩
 obtain⟨hx,hy⟩:=h
 obtain⟨x0,x1,x2⟩:=cr hx
 obtain⟨y0,y1,y2⟩:=cr hy
 unfold Im
 rw[dT (show pj x.2 y.2 from⟨⟨hx.1,by have:=hx.2.2;omega⟩,⟨hy.1,by have:=hy.2.2;omega⟩⟩)]
 rw[bi,bi]
 unfold bS
 cases ex:x.1<;>cases ey:y.1<;>simp only[agd,cond_false]
 ·show some [RV.d .bool (ce (val x.2) (val y.2)==0)]=_
  rw[kO]
 ·have:=y1 ey
  rw[af1 (show ¬val x.2= -val y.2 by omega)]
  rfl
 ·have:=x1 ex
  rw[af1 (show ¬ -val x.2=val y.2 by omega)]
  rfl
 ·show some [RV.d .bool (ce (val x.2) (val y.2)==0)]=_
  rw[kO,show decide (val x.2=val y.2)=decide (-val x.2= -val y.2) from ahe.2 (by omega)]
def eZ(q:Rat):Bool:=decide (bg q.num*bg q.num=q.num)&&decide (bg (q.den:Int)*bg (q.den:Int)=(q.den:Int))
def rtQ(q:Rat):Rat:=mkRat (bg q.num) (bg (q.den:Int)).toNat
theorem yg(z:Int):0≤bg z:=by unfold bg;omega
theorem zo{s:Int}(h:0≤s):bg (s*s)=s:=OR h (Int.le_refl _) (by grind)
theorem nf{z:Int}(h:z<0):bg z=0:=by
 unfold bg
 rw[show z.toNat=0 by omega]
 rfl
theorem ZQ{s t:Nat}(ht:0<t)(hg:(s*s).Coprime (t*t)):(mkRat (s:Int) t).num=(s:Int)∧(mkRat (s:Int) t).den=t:=by
 have hc:s.Coprime t:=Nat.Coprime.coprime_dvd_left (Nat.dvd_mul_left s s) (Nat.Coprime.coprime_dvd_right (Nat.dvd_mul_left t t) hg)
 rw[Rat.num_mkRat,Rat.den_mkRat,agk (by omega),agk (by omega),ahX,show t.gcd s=1 from hc.symm]
 simp
theorem DQ{q:Rat}(h:eZ q=true):(rtQ q).num=bg q.num∧((rtQ q).den:Int)=bg (q.den:Int)∧rtQ q*rtQ q=q∧0≤rtQ q:=by
 unfold eZ at h
 simp only[af3,ah8]at h
 obtain⟨h1,h2⟩:=h
 have hd:=q.den_pos
 have hr:=q.reduced
 obtain⟨s,hs⟩:=ahb (yg q.num)
 obtain⟨t,ht⟩:=ahb (yg (q.den:Int))
 unfold rtQ
 rw[hs,ht,ahm]
 rw[hs]at h1
 rw[ht]at h2
 have e1:q.num.natAbs=s*s:=by rw[←h1,←ahB,ahX]
 have e2:q.den=t*t:=by rw[←ahB]at h2;omega
 have hg:(s*s).Coprime (t*t):=by rw[←e1,←e2];exact hr
 have tp:0<t:=Nat.pos_of_ne_zero fun e=>by rw[e2,e]at hd;simp at hd
 obtain⟨g1,g2⟩:=ZQ tp hg
 refine⟨g1,by rw[g2],?_,?_⟩
 ·rw[Rat.mkRat_mul_mkRat,←e2,h1,Rat.mkRat_self]
 ·exact Rat.num_nonneg.1 (by rw[g1];omega)
theorem OP(r:Rat):eZ (r*r)=true:=by
 have hd:=r.den_pos
 have hc:(r.den*r.den).gcd (r.num*r.num).natAbs=1:=by
  rw[Int.natAbs_mul]
  have:=r.reduced.symm
  exact Nat.Coprime.mul_left (Nat.Coprime.mul_right this this) (Nat.Coprime.mul_right this this)
 have e1:(r*r).num=r.num*r.num:=by
  rw[Rat.mul_def',Rat.num_mkRat,hc,agk (Nat.mul_ne_zero (by omega) (by omega))]
  simp
 have e2:((r*r).den:Int)=(r.den:Int)*(r.den:Int):=by
  rw[Rat.mul_def',Rat.den_mkRat,hc,agk (Nat.mul_ne_zero (by omega) (by omega)),Nat.div_one,ahB]
 unfold eZ
 rw[e1,e2,zo (s:=(r.den:Int)) (by omega)]
 rcases ags r.num 0 with h|h
 ·rw[show r.num*r.num= -r.num* -r.num by grind,zo (by omega)]
  simp
 ·rw[zo h]
  simp
def rtB(q:Rat):BR:=bif eZ q then aq (rtQ q)else((false,[]),(false,[]))
theorem zL{x:BI}(h:okI x):fp x=ai (bg (ae x)):=by
 obtain⟨x0,x1,x2⟩:=cr h
 unfold fp
 cases hx:x.1
 ·rfl
 ·have:=x1 hx
  have hd:ae x= -val x.2:=by rw[bi,hx];rfl
  rw[hd,nf (by omega)]
  rfl
theorem FF{z:Int}(h:szI z≤1000000):szI (bg z)≤500000:=by
 have h1:=lQ h
 have e:pw 1000000=pw 500000*pw 500000:=by rw[←fb]
 have hp:=b9 500000
 rcases ags z 0 with h0|h0
 ·rw[nf h0];exact dX (by omega) hp
 ·obtain⟨g0,g1,g2⟩:=fC h0
  have:=sq_lt (a:=bg z) (b:=pw 500000) (by omega) (by omega)
  exact dX (by omega) this
theorem NP(a b:Int):(ai a==ai b)=decide (a=b):=by
 by_cases h:a=b
 ·rw[h,afZ rfl];simp
 ·rw[af1 h,aiH]
  intro e
  exact h (by rw[←dec_enc a,e,dec_enc])
theorem Fq{x y:BI}(hx:okI x)(hy:okI y):(x==y)=decide (ae x=ae y):=by
 rw[gC hx,gC hy,NP,dec_enc,dec_enc]
def DN:dH:=spN true true [tI,tI] (fun x=>decide (okI x.1∧okI x.2.1)) (fun x=>[RV.d ai2 (ce (ae x.1) (ae x.2.1))])
theorem An:SpK 172 DN:=spX fun x h=>EH x.1 x.2.1 (af2 h)
def CK:dH:=spN false true [tI,tI] (fun x=>decide (okI x.1∧okI x.2.1)) (fun x=>[RV.d tI (hid (ai (ae x.1*ae x.2.1)))])
theorem BZ:SpK 173 CK:=spX fun x h=>by simp only[aX];exact FU x.1 x.2.1 (af2 h)
def S3:List En:=[⟨172,DN,An⟩,⟨173,CK,BZ⟩,enL UQ]
def Rq(x:BI)(_k:KT):Option (List RV):=og (decide (okI x)) (match(sV x)==0 with|true=>(og (decide (okI (hid (fp x))∧okI (hid (fp x)))) (og (decide (okI (hid (ai (ae (hid (fp x))*ae (hid (fp x)))))∧okI x)) (some [RV.d tI (hid (fp x)),RV.d .bool ((ce (ae (hid (ai (ae (hid (fp x))*ae (hid (fp x)))))) (ae x))==0)])))|false=>some [RV.d tI (hid (fp x)),RV.d .bool false])
def abh:Cn 330 [tI]:=cn fun(x:BI)=>lf (okI x) [.d tI (ai (bg (ae x))),.d .bool (decide (bg (ae x)*bg (ae x)=ae x))] fun h=>by
 refine az S3 (Rq x) ⟨0,?_⟩
 have hs:=ia h
 have hz:szI (bg (ae x))≤500000:=FF hs
 have o1:okI (ai (bg (ae x))):=aR (by omega)
 have o2:okI (ai (bg (ae x)*bg (ae x))):=aR (by have:=cE hz hz;omega)
 have o3:okI (ai (bg (ae x)*bg (ae x)))∧okI x:=⟨o2,h⟩
 have o4:okI (ai (bg (ae x)))∧okI (ai (bg (ae x))):=⟨o1,o1⟩
 have hng:x.1=true→decide (bg (ae x)*bg (ae x)=ae x)=false:=fun e=>af1 (by
  have:=(cr h).2.1 e
  have hd:ae x= -val x.2:=by rw[bi,e];rfl
  rw[nf (by omega)]
  omega)
 unfold Rq
 simp only[aX,zL h,dec_enc,dT h,dT o4,dT o3,kO]
 unfold sV
 cases e:x.1
 ·rfl
 ·rw[hng e];rfl
def acz:List En:=enL abh::S3
def T6(a:BR)(_k:KT):Option (List RV):=og (decide (okI a.1)) (match decide (bg (ae a.1)*bg (ae a.1)=ae a.1)with|true=>(og (decide (okI a.2)) (match decide (bg (ae a.2)*bg (ae a.2)=ae a.2)with|true=>some [RV.d tR (hid (ai (bg (ae a.1))),hid (ai (bg (ae a.2)))),RV.d .bool true]|false=>some [RV.d tR ((false,[]),(false,[])),RV.d .bool false]))|false=>some [RV.d tR ((false,[]),(false,[])),RV.d .bool false])
def UC:Cn 291 [tR]:=cn fun(a:BR)=>lf (okR a) [.d tR (rtB (ah a)),.d .bool (eZ (ah a))] fun h=>by
 refine az acz (T6 a) ⟨0,?_⟩
 obtain⟨a1,a2⟩:=cD h
 unfold T6 rtB eZ
 rw[dT h.1,dT h.2.1,a1,a2]
 simp only[aX]
 cases e1:decide (bg (ae a.1)*bg (ae a.1)=ae a.1)
 ·rfl
 ·cases e2:decide (bg (ae a.2)*bg (ae a.2)=ae a.2)
  ·rfl
  ·obtain⟨r1,r2,_⟩:=DQ (q:=ah a) (by unfold eZ;rw[a1,a2,e1,e2];rfl)
   simp only[ahq,agd]
   unfold aq
   rw[r1,r2,a1,a2]
   try rfl
def K0:List En:=[enL MS,enL Xi,enT IP]
def IZ(x:BI)(_k:KT):Option (List RV):=og (decide (okI x)) (match(sV x)==0 with|true=>(og (decide (okI (hid (fp x))∧okI (hid (fp x)))) (og (decide (okI (hid (ai (ae (hid (fp x))*ae (hid (fp x)))))∧okI x)) (some [RV.d tI (hid (fp x)),RV.d .bool (decide (ae (hid (ai (ae (hid (fp x))*ae (hid (fp x)))))=ae x))])))|false=>some [RV.d tI (hid (fp x)),RV.d .bool false])
def Xs:Cn 313 [tI]:=cn fun(x:BI)=>lf (okI x) [.d tI (ai (bg (ae x))),.d .bool (decide (bg (ae x)*bg (ae x)=ae x))] fun h=>by
 refine az K0 (IZ x) ⟨0,?_⟩
 have hs:=ia h
 have hz:szI (bg (ae x))≤500000:=FF hs
 have o1:okI (ai (bg (ae x))):=aR (by omega)
 have o2:okI (ai (bg (ae x)*bg (ae x))):=aR (by have:=cE hz hz;omega)
 have o3:okI (ai (bg (ae x)*bg (ae x)))∧okI x:=⟨o2,h⟩
 have o4:okI (ai (bg (ae x)))∧okI (ai (bg (ae x))):=⟨o1,o1⟩
 have hng:x.1=true→decide (bg (ae x)*bg (ae x)=ae x)=false:=fun e=>af1 (by
  have:=(cr h).2.1 e
  have hd:ae x= -val x.2:=by rw[bi,e];rfl
  rw[nf (by omega)]
  omega)
 unfold IZ
 simp only[aX,zL h,dec_enc,dT h,dT o4,dT o3]
 unfold sV
 cases e:x.1
 ·rfl
 ·rw[hng e];rfl
def VW:List En:=enL Xs::K0
def Lq(a:BR)(_k:KT):Option (List RV):=og (decide (okI a.1)) (og (decide (okI a.2)) (match !(decide (bg (ae a.1)*bg (ae a.1)=ae a.1))with|true=>some [RV.d tR ((false,[]),(false,[])),RV.d .bool false]|false=>(match !(decide (bg (ae a.2)*bg (ae a.2)=ae a.2))with|true=>some [RV.d tR ((false,[]),(false,[])),RV.d .bool false]|false=>some [RV.d tR (hid (ai (bg (ae a.1))),hid (ai (bg (ae a.2)))),RV.d .bool true])))
def Dr:Cn 242 [tR]:=cn fun(a:BR)=>lf (okR a) [.d tR (rtB (ah a)),.d .bool (eZ (ah a))] fun h=>by
 refine az VW (Lq a) ⟨0,?_⟩
 obtain⟨a1,a2⟩:=cD h
 unfold Lq rtB eZ
 rw[dT h.1,dT h.2.1,a1,a2]
 simp only[aX]
 cases e1:decide (bg (ae a.1)*bg (ae a.1)=ae a.1)
 ·rfl
 ·cases e2:decide (bg (ae a.2)*bg (ae a.2)=ae a.2)
  ·rfl
  ·obtain⟨r1,r2,_⟩:=DQ (q:=ah a) (by unfold eZ;rw[a1,a2,e1,e2];rfl)
   simp only[ahq,agd]
   unfold aq
   rw[r1,r2,a1,a2]
   try rfl
def Nu:dH:=spN false true [tI,tI] (fun x=>decide (eS x.1 x.2.1)) (fun x=>[RV.d tI (hid (ai (ae x.1/ae x.2.1))),RV.d tI (hid (ai (ae x.1%ae x.2.1))),RV.d ai2 0])
theorem Hy:SpK 341 Nu:=spX fun x h=>by simp only[aX];exact FO x.1 x.2.1 (af2 h)
def acP:List En:=[⟨341,Nu,Hy⟩]
def US(a:BR)(_k:KT):Option (List RV):=og (decide (eS a.1 a.2)) (some [RV.d tI (hid (ai (ae a.1/ae a.2)))])
def IJ:Cn 355 [tR]:=cn fun(a:BR)=>lf (okR a) [.d tI (ai (ah a).floor)] fun h=>by
 refine az acP (US a) ⟨0,?_⟩
 obtain⟨a1,a2⟩:=cD h
 unfold US
 rw[dT (show eS a.1 a.2 from⟨h.1,h.2.1,h.2.2.1⟩),Rat.floor_def,a1,a2]
 simp only[aX]
def Uf:List En:=[enK uO]
def Qp:NT:=[((323,6),{keep:=[1,3],hl:=1})]
def yd:Ctx:=CX (ens Uf) Qp
def tu(x:BI)(s3:Int):Cfg:=⟨323,[.blk 0,.seq 23],[(1,.box 0 0),(3,SI s3)],[.box 29 [SB x.1,.d ai1 x.2]],0,[]⟩
def W4(x:BI)(k:KT):Option (List RV):=k 6 (tu x 0)
theorem Yk(x:BI):RS yd 323 [.d tI x] (W4 x):=rsX
def rG(x:BI)(s3:Int)(k:KT):Option (List RV):=match decide (s3<(x.2.length:Int))with|true=>(match aN x.2 s3 with|some x1=>(match decide (x1≥1000000000)with|true=>some [RV.d .bool false]|false=>k 6 (tu x (i64.wrap (s3+1))))|none=>none)|false=>(og (decide (aM x.2)) (match((ag (val x.2).toNat).length:Int)==(x.2.length:Int)with|true=>(match !x.1 with|true=>some [RV.d .bool true]|false=>some [RV.d .bool (decide ((x.2.length:Int)>0))])|false=>some [RV.d .bool false]))
theorem xG(x:BI)(s3:Int):RN yd 6 (tu x s3) (rG x s3):=rnX
theorem Hd(x:BI)(h:okI x):∀(j i:Nat),i+j=x.2.length→yd.Runs 6 (tu x (i:Int)) [.d .bool true]:=by
 obtain⟨x0,x1,x2⟩:=cr h
 have hlim:=fJ h
 have hl:=h.2.2
 intro j
 induction j with
 |zero=>
  intro i hi
  refine xG _ _ ⟨0,?_⟩
  unfold rG
  have hc:ag (val x.2).toNat=x.2:=(m4 h.1).symm
  rw[bV (by omega),dT hlim,hc,beq_self_eq_true]
  dsimp only
  cases e:x.1
  ·rfl
  ·have:=x1 e
   have:x.2≠[]:=fun e=>by rw[x2]at e;omega
   have:=agF.2 this
   rw[afZ (by omega)]
   rfl
 |succ j ih=>
  intro i hi
  have hil:i<x.2.length:=by omega
  obtain⟨q,hq⟩:=ih (i+1) (by omega)
  refine xG _ _ ⟨q,?_⟩
  unfold rG
  have hb:=(hlim.1 x.2[i] (agz hil)).2
  rw[bh hil,ao,af0 hil,bK (by omega)]
  dsimp only
  rw[af1 (by omega)]
  exact hq
def Yg:Cn 323 [tI]:=cn fun(x:BI)=>lf (okI x) [.d .bool true] fun h=>by
 refine cJ Uf (show yd.Res _ _ _ from ?_)
 obtain⟨q,hq⟩:=Hd x h x.2.length 0 (by omega)
 exact Yk _ ⟨q,hq⟩
def acX:List En:=[enT IP,enT Yg,enT ME,enL IL,enL LP]
def KQ(a:BR)(_k:KT):Option (List RV):=og (decide (okI a.1)) (og (decide (okI a.2)) (og (decide (okI a.2)) (match(ce (ae a.2) 0) !=1 with|true=>some [RV.d .bool false]|false=>(og (decide (okI a.1∧okI a.2)) (og (decide (okI (hid (ai ((Int.gcd (ae a.1) (ae a.2):Nat):Int)))∧okI (hid (ai 1)))) (some [RV.d .bool (decide (ae (hid (ai ((Int.gcd (ae a.1) (ae a.2):Nat):Int)))=ae (hid (ai 1))))]))))))
def JJ:Cn 272 [tR]:=cn fun(a:BR)=>lf (okR a) [.d .bool true] fun h=>by
 refine az acX (KQ a) ⟨0,?_⟩
 obtain⟨h1,h2,h3,h4,_⟩:=h
 have o1:okI (ai ((Int.gcd (ae a.1) (ae a.2):Nat):Int)):=by rw[h4];exact nV
 unfold KQ
 simp only[aX]
 rw[dT h1,dT h2,dT (show okI a.1∧okI a.2 from⟨h1,h2⟩),cC h3,dT (show okI (ai ((Int.gcd (ae a.1) (ae a.2):Nat):Int))∧okI (ai 1) from⟨o1,nV⟩),dec_enc,dec_enc,h4]
 rfl
def mkR(a b c:Rat):Rt:=bif eZ c then(a+b*rtQ c,0,0)else bif decide (b=0)then(a,0,0)else(a,b,c)
def coR(a b c:Rat):Rt:=bif decide (b=0)then(a,0,0)else(a,b,c)
class Nn (c:Rat):Prop where le:0≤c
def Ov(x:Rt):Prop:=(x.2.1=0∧x.2.2=0)∨(x.2.1≠0∧0<x.2.2∧eZ x.2.2=false)
instance (x:Rt):Decidable (Ov x):=by unfold Ov;infer_instance
class Rdd (x:Rt):Prop where
 rd:Ov x
def okT(k:Nat)(x:BO3):Prop:=ok Rt k x∧Ov (dec x)
instance (k:Nat) (x:BO3):Decidable (okT k x):=by unfold okT;infer_instance
theorem fN{k:Nat}{x:BO3}(h:okT k x):∃v:Rt,x=enc v∧Bd v k∧Rdd v:=by
 obtain⟨h1,h2⟩:=h
 obtain⟨v,rfl,bv⟩:=aB h1
 rw[aA]at h2
 exact⟨v,rfl,bv,⟨h2⟩⟩
theorem aH{x:Rt}{j k:Nat}[h:Bd x j][r:Rdd x](hj:j≤k)(hk:k≤480000):decide (okT k (enc x))=true:=afZ ⟨af2 (okd hj hk),by rw[aA];exact r.rd⟩
theorem Rdd.nn{x:Rt}(h:Rdd x):0≤x.2.2:=by
 rcases h.rd with h|h<;>grind
instance afJ {x:Rt} [h:Rdd x]:Nn x.2.2:=⟨h.nn⟩
theorem qJ:eZ 0=true:=by decide+kernel
theorem Fb{c:Rat}(h:0≤c)(hc:eZ c=false):0<c:=by
 rcases(by grind:c=0∨0<c)with h|h
 ·rw[h,qJ]at hc;cases hc
 ·exact h
instance pF {a b c:Rat} [h:Nn c]:Rdd (mkR a b c):=by
 refine⟨?_⟩
 unfold mkR
 cases hc:eZ c
 ·simp only[cond_false]
  by_cases hb:b=0
  ·rw[afZ hb];exact .inl ⟨rfl,rfl⟩
  ·rw[af1 hb];exact .inr ⟨hb,Fb h.le hc,hc⟩
 ·exact .inl ⟨rfl,rfl⟩
instance Yc {a:Rat}:Rdd (a,0,0):=⟨.inl ⟨rfl,rfl⟩⟩
namespace RE
theorem LL{c:Rat}(h:eZ c=true):rq c=of (rtQ c):=by
 obtain⟨_,_,e,h0⟩:=DQ h
 refine Ed _ _ (pQ c) (iZ.2 h0) ?_
 rw[fX (by rw[←e];exact agm h0 h0),←aS,e]
theorem On:rq 0=0:=by
 have:=fX (Rat.le_refl:(0:Rat)≤0)
 rcases ld (pQ 0)with h|h
 ·have:=mul_pos h h
  rw[fX Rat.le_refl]at this
  exact absurd this (lt_irrefl _)
 ·exact h
theorem dA(a c:Rat):v2 a 0 c=of a:=by
 unfold v2
 rw[qx,zero_mul,add_zero]
theorem vR_mk(a b c:Rat):vR (mkR a b c)=v2 a b c:=by
 unfold mkR vR
 cases hc:eZ c
 ·simp only[cond_false]
  by_cases hb:b=0
  ·rw[afZ hb];subst hb;show v2 a 0 0=_;rw[dA,dA]
  ·rw[af1 hb];rfl
 ·show v2 (a+b*rtQ c) 0 0=_
  rw[dA]
  unfold v2
  rw[LL hc,of_add,aS]
theorem vR_co(a b c:Rat):vR (coR a b c)=v2 a b c:=by
 unfold coR vR
 by_cases hb:b=0
 ·rw[afZ hb];subst hb;show v2 a 0 0=_;rw[dA,dA]
 ·rw[af1 hb];rfl
end RE
theorem QQ{z:Int}(h:0≤z):bg z≤z:=by
 obtain⟨g0,g1,g2⟩:=fC h
 rcases ags (bg z) 1 with h'|h'
 ·omega
 ·have:bg z*1≤bg z*bg z:=af7 h' g0
  omega
theorem AR(z:Int):szI (bg z)≤szI z:=by
 have h0:=yg z
 rcases ags z 0 with h|h
 ·rw[nf h];exact c8 (by omega)
 ·have:=QQ h
  exact c8 (by omega)
instance afI {c:Rat} {k:Nat} [h:Bd c k]:Bd (rtQ c) k:=by
 have hd:=c.den_pos
 have h1:0<bg (c.den:Int):=by
  obtain⟨g0,g1,g2⟩:=fC (show(0:Int)≤(c.den:Int) by omega)
  rcases ags 0 (bg (c.den:Int))with h|h
  ·exact h
  ·rw[show bg (c.den:Int)=0 by omega]at g2;omega
 refine⟨oM (by omega) (agj (AR _) h.le.1) ?_⟩
 rw[Int.toNat_of_nonneg (by omega)]
 exact agj (AR _) h.le.2
instance afv {a b c:Rat} {i j k:Nat} [ha:Bd a i] [hb:Bd b j] [hc:Bd c k]:Bd (mkR a b c) (i+(j+k)+1):=by
 have z:bdR (i+(j+k)+1) 0:=a9 ki.le (by omega)
 refine⟨?_⟩
 unfold mkR
 cases eZ c
 ·simp only[cond_false]
  cases decide (b=0)
  ·exact⟨a9 ha.le (by omega),a9 hb.le (by omega),a9 hc.le (by omega)⟩
  ·exact⟨a9 ha.le (by omega),z,z⟩
 ·exact⟨(inferInstance:Bd (a+b*rtQ c) (i+(j+k)+1)).le,z,z⟩
instance aeF {a b c:Rat} {i j k:Nat} [ha:Bd a i] [hb:Bd b j] [hc:Bd c k]:Bd (coR a b c) (mx i (mx j k)):=by
 have h1:=z7 i (mx j k)
 have h2:=zZ i (mx j k)
 have h3:=z7 j k
 have h4:=zZ j k
 have h5:=lH ha.le
 have z:bdR (mx i (mx j k)) 0:=a9 ki.le (by omega)
 refine⟨?_⟩
 unfold coR
 cases decide (b=0)
 ·exact⟨a9 ha.le (by omega),a9 hb.le (by omega),a9 hc.le (by omega)⟩
 ·exact⟨a9 ha.le (by omega),z,z⟩
class Ns (c:Rat):Prop where ns:c=0∨(0<c∧eZ c=false)
theorem Ns.nn{c:Rat}(h:Ns c):0≤c:=by rcases h.ns with h|h<;>grind
instance afL {c:Rat} [h:Ns c]:Nn c:=⟨h.nn⟩
theorem XM{a b c:Rat}{i j k:Nat}[ha:Bd a i][hb:Bd b j][hc:Bd c k][hn:Ns c]:Bd (mkR a b c) (mx (i+j+2) k):=by
 have h1:=z7 (i+j+2) k
 have h2:=zZ (i+j+2) k
 have z:bdR (mx (i+j+2) k) 0:=a9 ki.le (by omega)
 refine⟨?_⟩
 unfold mkR
 rcases hn.ns with h|h
 ·subst h
  rw[qJ]
  have e:rtQ 0=0:=by decide+kernel
  exact⟨by show bdR _ (a+b*rtQ 0);rw[e];exact a9 (yJ ha.le (xN hb.le ki.le)) (by omega),z,z⟩
 ·rw[h.2]
  simp only[cond_false]
  cases decide (b=0)
  ·exact⟨a9 ha.le (by omega),a9 hb.le (by omega),a9 hc.le (by omega)⟩
  ·exact⟨a9 ha.le (by omega),z,z⟩
def sgR(x:Rt):Int:=fS x.1 x.2.1 x.2.2
def noR(x:Rt):Rat:=x.1*x.1-x.2.1*x.2.1*x.2.2
theorem CI{x:Rt}(h:0≤x.2.2):sgR x=RE.sg (RE.vR x):=RE.sgn2_re h
def kQ(a b c:Rat):Rt:=bif decide (b=0)then(a,0,0)else bif decide (c=0)then(a,0,0)else(a,b,c)
instance afw {x:Rt} {k:Nat} [h:Bd x k]:Bd (noR x) (5*k+1):=(inferInstance:Bd (x.1*x.1-x.2.1*x.2.1*x.2.2) (k+k+(k+k+k)+1)).mono (by omega)
theorem Lu{c:Rat}(h:eZ c=true):rtB c=aq (rtQ c):=by unfold rtB;rw[h];rfl
theorem Xk{x:Rt}(h:Rdd x)(hb:x.2.1≠0):noR x≠0:=by
 intro e
 rcases h.rd with h|⟨_,h1,h2⟩
 ·exact hb h.1
 ·unfold noR at e
  have:x.2.2=x.1/x.2.1*(x.1/x.2.1):=by grind
  rw[this,OP]at h2
  cases h2
theorem UY{x:Rt}(h:Rdd x):sgR x=bif aC x.2.1 0==0 then aC x.1 0 else bif aC x.1 0==aC x.2.1 0 then aC x.1 0 else bif aC x.1 0==0 then aC x.2.1 0 else aC x.1 0*aC (noR x) 0:=by
 unfold sgR fS RE.addS
 rcases h.rd with⟨h1,h2⟩|⟨h0,h1,h2⟩
 ·rw[h1,de]
  simp
 ·have hb:(aC x.2.1 0==0)=false:=by rw[am,af1 h0]
  rw[cV h1,aic,hb]
  unfold noR
  rw[qf]
  rfl
def KN:List En:=[⟨99,fM,dS⟩,⟨107,gS,eU⟩,⟨106,gi,dY⟩,⟨108,fO,dP⟩,⟨41,eW,dk⟩,enL UC]
def TW(_k:KT):Option (List RV):=og (decide (aF (0:Int))) (some [RV.d tR (hid (aq ((0:Int):Rat)))])
def aaf:Cn 298 []:=cn<|lf True [.d tR (aq 0)] fun _=>by
 refine az KN (TW) ⟨0,?_⟩
 unfold TW
 rw[dT (show aF 0 by decide)]
 simp only[aX]
 rfl
def No:List En:=enL aaf::KN
def U6(a:BR)(_k:KT):Option (List RV):=some [RV.d tO (a,(hid (aq 0),hid (aq 0)))]
def xc:Cn 208 [tR]:=cn fun(a:BR)=>lf (okR a) [.d tO (enc ((ah a,0,0):Rt))] fun h=>by
 refine az No (U6 a) ⟨0,?_⟩
 have ha:=h
 obtain⟨a,rfl,ba⟩:=eu ha
 unfold U6
 simp only[aO,aD]
 try rfl
def S4(a b c:BR)(_k:KT):Option (List RV):=og (o1 b) (match(aC (ah b) 0)==0 with|true=>some [RV.d tO (a,(b,hid (aq 0)))]|false=>some [RV.d tO (a,(b,c))])
def acC:Cn 297 [tR,tR,tR]:=cn fun(a b c:BR)=>lf (okR a∧okR b∧okR c) [.d tO (enc (coR (ah a) (ah b) (ah c)))] fun h=>by
 refine az No (S4 a b c) ⟨0,?_⟩
 obtain⟨ha,hb,hc⟩:=h
 obtain⟨a,rfl,ba⟩:=eu ha
 obtain⟨b,rfl,bb⟩:=eu hb
 obtain⟨c,rfl,bc⟩:=eu hc
 unfold S4
 simp only[aO,Nat.reduceLeDiff,am]
 unfold coR
 by_cases e:b=0
 ·subst e;rw[afZ rfl];rfl
 ·rw[af1 e];rfl
def aaJ:List En:=enL xc::enL acC::No
def Ti(a b c:BR)(_k:KT):Option (List RV):=og (o1 c) (match decide ((aC (ah c) 0)<0)with|true=>some [RV.d tO (((false,[]),(false,[])),(((false,[]),(false,[])),((false,[]),(false,[])))),RV.d ai2 7]|false=>(og (o1 c) (match eZ (ah c)with|true=>(og (o2 b (hid (rtB (ah c)))) (og (o2 a (hMu b (hid (rtB (ah c))))) (og (o1 (hAd a (hMu b (hid (rtB (ah c)))))) (some [RV.d tO (hid (enc ((ah (hAd a (hMu b (hid (rtB (ah c))))),0,0):Rt))),RV.d ai2 0]))))|false=>(og (decide (okR a∧okR b∧okR c)) (some [RV.d tO (hid (enc (coR (ah a) (ah b) (ah c)))),RV.d ai2 0])))))
def Vm:Cn 207 [tR,tR,tR]:=cn fun(a b c:BR)=>lf (ok Rat 100000 a∧ok Rat 100000 b∧ok Rat 100000 c∧0≤ah c) [.d tO (enc (mkR (ah a) (ah b) (ah c))),.d ai2 0] fun h=>by
 refine az aaJ (Ti a b c) ⟨0,?_⟩
 obtain⟨ha,hb,hc,hc_3⟩:=h
 obtain⟨a,rfl,ba⟩:=aB ha
 obtain⟨b,rfl,bb⟩:=aB hb
 obtain⟨c,rfl,bc⟩:=aB hc
 rw[d7,cj]at hc_3
 unfold Ti
 simp only[aO,aD,Nat.reduceLeDiff,au,af1 (show ¬c<0 by grind)]
 unfold mkR
 cases hq:eZ c
 ·have hz:c≠0:=fun e=>by rw[e,qJ]at hq;cases hq
  simp only[aO]
  try rfl
 ·rw[Lu hq]
  simp only[aO,aD,Nat.reduceAdd,Nat.reduceLeDiff]
  try rfl
def MW:List En:=[enL mE,enL oZ,enL rC,enL pi,enT lS,enL Dr,enT JJ]
def LY(_k:KT):Option (List RV):=og (decide (aF (0:Int))) (some [RV.d tR (hid (aq ((0:Int):Rat)))])
def HE:Cn 262 []:=cn<|lf True [.d tR (aq 0)] fun _=>by
 refine az MW (LY) ⟨0,?_⟩
 unfold LY
 rw[dT (show aF 0 by decide)]
 simp only[aX]
 rfl
def J1:List En:=enL HE::MW
def Jr(a:BR)(_k:KT):Option (List RV):=some [RV.d tO (a,(hid (aq 0),hid (aq 0)))]
def Jf:Cn 159 [tR]:=cn fun(a:BR)=>lf (okR a) [.d tO (enc ((ah a,0,0):Rt))] fun h=>by
 refine az J1 (Jr a) ⟨0,?_⟩
 have ha:=h
 obtain⟨a,rfl,ba⟩:=eu ha
 unfold Jr
 simp only[aO,aD]
 try rfl
def LK:List En:=enL Jf::J1
def KR(a b c:BR)(_k:KT):Option (List RV):=og (o1 b) (match(aC (ah b) 0)==0 with|true=>(og (o1 a) (some [RV.d tO (hid (enc ((ah a,0,0):Rt)))]))|false=>(og (o1 c) (match(aC (ah c) 0)==0 with|true=>(og (o1 a) (some [RV.d tO (hid (enc ((ah a,0,0):Rt)))]))|false=>some [RV.d tO (a,(b,c))])))
def LS:Cn 243 [tR,tR,tR]:=cn fun(a b c:BR)=>lf (okR a∧okR b∧okR c) [.d tO (enc (kQ (ah a) (ah b) (ah c)))] fun h=>by
 refine az LK (KR a b c) ⟨0,?_⟩
 obtain⟨ha,hb,hc⟩:=h
 obtain⟨a,rfl,ba⟩:=eu ha
 obtain⟨b,rfl,bb⟩:=eu hb
 obtain⟨c,rfl,bc⟩:=eu hc
 unfold KR
 simp only[aO,aD,Nat.reduceLeDiff,am]
 unfold kQ
 by_cases e:b=0
 ·rw[afZ e];rfl
 ·rw[af1 e]
  by_cases e:c=0
  ·rw[afZ e];rfl
  ·rw[af1 e];rfl
def VO:List En:=enL LS::LK
def Mc(a b c:BR)(_k:KT):Option (List RV):=og (o1 c) (match decide ((aC (ah c) 0)<0)with|true=>some [RV.d tO (((false,[]),(false,[])),(((false,[]),(false,[])),((false,[]),(false,[])))),RV.d ai2 7]|false=>(og (o1 c) (match eZ (ah c)with|true=>(og (o2 b (hid (rtB (ah c)))) (og (o2 a (hMu b (hid (rtB (ah c))))) (og (o1 (hAd a (hMu b (hid (rtB (ah c)))))) (some [RV.d tO (hid (enc ((ah (hAd a (hMu b (hid (rtB (ah c))))),0,0):Rt))),RV.d ai2 0]))))|false=>(og (decide (okR a∧okR b∧okR c)) (some [RV.d tO (hid (enc (kQ (ah a) (ah b) (ah c)))),RV.d ai2 0])))))
def VS:Cn 130 [tR,tR,tR]:=cn fun(a b c:BR)=>lf (ok Rat 100000 a∧ok Rat 100000 b∧ok Rat 100000 c∧0≤ah c) [.d tO (enc (mkR (ah a) (ah b) (ah c))),.d ai2 0] fun h=>by
 refine az VO (Mc a b c) ⟨0,?_⟩
 obtain⟨ha,hb,hc,hc_3⟩:=h
 obtain⟨a,rfl,ba⟩:=aB ha
 obtain⟨b,rfl,bb⟩:=aB hb
 obtain⟨c,rfl,bc⟩:=aB hc
 rw[d7,cj]at hc_3
 unfold Mc
 simp only[aO,aD,Nat.reduceLeDiff,au,af1 (show ¬c<0 by grind)]
 unfold mkR
 cases hq:eZ c
 ·have hz:c≠0:=fun e=>by rw[e,qJ]at hq;cases hq
  simp only[aO,kQ,af1 hz]
  try rfl
 ·rw[Lu hq]
  simp only[aO,aD,Nat.reduceAdd,Nat.reduceLeDiff]
  try rfl
def Tv(r:BO3)(_k:KT):Option (List RV):=og (o2 r.1 r.1) (og (o2 r.2.1 r.2.1) (og (o2 (hMu r.2.1 r.2.1) r.2.2) (og (o2 (hMu r.1 r.1) (hMu (hMu r.2.1 r.2.1) r.2.2)) (some [RV.d tR (hSu (hMu r.1 r.1) (hMu (hMu r.2.1 r.2.1) r.2.2))]))))
def abK:Cn 212 [tO]:=cn fun(r:BO3)=>lf (ok Rt 15000 r) [.d tR (aq (noR (dec r)))] fun h=>by
 refine az KN (Tv r) ⟨0,?_⟩
 have hr:=h
 obtain⟨r,rfl,br⟩:=aB hr
 unfold Tv
 simp only[aO,Nat.reduceAdd,Nat.reduceLeDiff]
 try rfl
abbrev Iv:=Int×Int
def prI(i:Iv):Prop:= -2305843009213693952≤i.1∧i.1≤i.2∧i.2≤2305843009213693952
instance (i:Iv):Decidable (prI i):=by unfold prI;infer_instance
def iv0:Iv:=(0,0)
theorem fj:prI iv0:=by decide
def mi(lo hi:Int):Iv×Bool:=bif decide (lo< -2305843009213693952)then(iv0,false)else bif decide (hi>2305843009213693952)then(iv0,false)else((lo,hi),true)
theorem yy{lo hi:Int}(h:lo≤hi):prI (mi lo hi).1:=by
 unfold mi
 by_cases h1:lo< -2305843009213693952
 ·rw[afZ h1];exact fj
 ·rw[af1 h1]
  by_cases h2:hi>2305843009213693952
  ·rw[afZ h2];exact fj
  ·rw[af1 h2];exact⟨by show _≤lo;omega,h,by show hi≤_;omega⟩
theorem yL{lo hi:Int}(h:(mi lo hi).2=true):(mi lo hi).1=(lo,hi):=by
 unfold mi at h ⊢
 by_cases h1:lo< -2305843009213693952
 ·rw[afZ h1]at h;cases h
 ·rw[af1 h1]at h ⊢
  by_cases h2:hi>2305843009213693952
  ·rw[afZ h2]at h;cases h
  ·rw[af1 h2];rfl
def frF(q:Rat):Iv×Bool:=bif decide (aF (q*65536).floor)then bif decide (aF (-(-(q*65536)).floor))then mi (q*65536).floor (-(-(q*65536)).floor)else(iv0,false)else(iv0,false)
def dl(a b:Iv):Iv×Bool:=mi (a.1+b.1) (a.2+b.2)
def lm(a:Iv):Iv:=(-a.2,-a.1)
def scF(x y:Int):(Int×Int)×Bool:=
 bif decide (x.natAbs*y.natAbs≥1208925819614629174706176)then((0,0),false)else bif decide (x.natAbs*y.natAbs/65536>2305843009213693952)then((0,0),false)
 else bif decide (x<0)==decide (y<0)then((((x.natAbs*y.natAbs/65536:Nat):Int),(((x.natAbs*y.natAbs+65535)/65536:Nat):Int)),decide ((x.natAbs*y.natAbs+65535)/65536≤2305843009213693952))
 else((-(((x.natAbs*y.natAbs+65535)/65536:Nat):Int),-((x.natAbs*y.natAbs/65536:Nat):Int)),decide ((x.natAbs*y.natAbs+65535)/65536≤2305843009213693952))
theorem YU{x y:Int}(h:(scF x y).2=true):(scF x y).1.1*65536≤x*y∧x*y≤(scF x y).1.2*65536∧ -2305843009213693952≤(scF x y).1.1∧(scF x y).1.2≤2305843009213693952:=by
 have ep:(((x.natAbs*y.natAbs:Nat)):Int)=(x.natAbs:Int)*(y.natAbs:Int):=ahB _ _
 have hs:(decide (x<0)==decide (y<0))=true→x*y=(((x.natAbs*y.natAbs:Nat)):Int):=fun e=>by
  rw[ep]
  by_cases hx:x<0<;>by_cases hy:y<0
  ·rw[show(x.natAbs:Int)= -x by omega,show(y.natAbs:Int)= -y by omega];grind
  ·simp[hx,hy]at e
  ·simp[hx,hy]at e
  ·rw[show(x.natAbs:Int)=x by omega,show(y.natAbs:Int)=y by omega]
 have hd:(decide (x<0)==decide (y<0))=false→x*y= -(((x.natAbs*y.natAbs:Nat)):Int):=fun e=>by
  rw[ep]
  by_cases hx:x<0<;>by_cases hy:y<0
  ·simp[hx,hy]at e
  ·rw[show(x.natAbs:Int)= -x by omega,show(y.natAbs:Int)=y by omega];grind
  ·rw[show(x.natAbs:Int)=x by omega,show(y.natAbs:Int)= -y by omega];grind
  ·simp[hx,hy]at e
 unfold scF at h ⊢
 generalize x.natAbs*y.natAbs=p at*
 by_cases h1:p≥1208925819614629174706176
 ·rw[afZ h1]at h;cases h
 rw[af1 h1]at h ⊢
 by_cases h2:p/65536>2305843009213693952
 ·rw[afZ h2]at h;cases h
 rw[af1 h2]at h ⊢
 cases e:(decide (x<0)==decide (y<0))<;>rw[e]at h<;>have h3:=af2 h
 ·rw[hd e]
  show-(((p+65535)/65536:Nat):Int)*65536≤_∧_≤ -((p/65536:Nat):Int)*65536∧_≤ -(((p+65535)/65536:Nat):Int)∧ -((p/65536:Nat):Int)≤_
  omega
 ·rw[hs e]
  show((p/65536:Nat):Int)*65536≤_∧_≤(((p+65535)/65536:Nat):Int)*65536∧_≤((p/65536:Nat):Int)∧(((p+65535)/65536:Nat):Int)≤_
  omega
def gz(s:Iv×Bool)(x y:Int):Iv×Bool:=bif s.2&&(scF x y).2 then((if(scF x y).1.1<s.1.1 then(scF x y).1.1 else s.1.1,if(scF x y).1.2>s.1.2 then(scF x y).1.2 else s.1.2),true)else(iv0,false)
def ct(a b:Iv):Iv×Bool:=gz (gz (gz (gz ((2305843009213693952,-2305843009213693952),true) a.1 b.1) a.1 b.2) a.2 b.1) a.2 b.2
theorem kg{s:Iv×Bool}{x y:Int}(h:(gz s x y).2=true):s.2=true∧(gz s x y).1.1≤s.1.1∧s.1.2≤(gz s x y).1.2∧(gz s x y).1.1*65536≤x*y∧x*y≤(gz s x y).1.2*65536∧((-2305843009213693952≤s.1.1∧s.1.2≤2305843009213693952)→ -2305843009213693952≤(gz s x y).1.1∧(gz s x y).1.2≤2305843009213693952):=by
 unfold gz at h ⊢
 cases e:(s.2&&(scF x y).2)<;>rw[e]at h
 ·cases h
 ·obtain⟨e1,e2⟩:=ah3.1 e
  obtain⟨g1,g2,g3,g4⟩:=YU e2
  refine⟨e1,?_⟩
  simp only[agd]
  split<;>split<;>refine⟨by omega,by omega,by omega,by omega,fun h=>by omega⟩
theorem qt(a b:Iv):prI (ct a b).1:=by
 cases h:(ct a b).2
 ·unfold ct gz at h ⊢
  revert h
  cases((_:Iv×Bool).2&&(scF a.2 b.2).2)
  ·intro _;exact fj
  ·intro h;cases h
 ·unfold ct at h ⊢
  obtain⟨h3,a3,b3,c3,d3,e3⟩:=kg h
  obtain⟨h2,a2,b2,c2,d2,e2⟩:=kg h3
  obtain⟨h1,a1,b1,c1,d1,e1⟩:=kg h2
  obtain⟨h0,a0,b0,c0,d0,e0⟩:=kg h1
  have k:=e3 (e2 (e1 (e0 (by decide))))
  exact⟨k.1,by omega,k.2⟩
theorem OU{a b:Iv}(h:(ct a b).2=true):∀x y,(x=a.1∨x=a.2)→(y=b.1∨y=b.2)→(ct a b).1.1*65536≤x*y∧x*y≤(ct a b).1.2*65536:=by
 unfold ct at h ⊢
 obtain⟨h3,a3,b3,c3,d3,e3⟩:=kg h
 obtain⟨h2,a2,b2,c2,d2,e2⟩:=kg h3
 obtain⟨h1,a1,b1,c1,d1,e1⟩:=kg h2
 obtain⟨h0,a0,b0,c0,d0,e0⟩:=kg h1
 intro x y hx hy
 rcases hx with rfl|rfl<;>rcases hy with rfl|rfl<;>constructor<;>omega
def dV(n:Int):Int:=bg (n*65536)
def sqF(a:Iv):Iv×Bool:=bif decide (a.2<0)then(iv0,false)else mi (dV (if 0>a.1 then 0 else a.1)) (bif decide (dV a.2*dV a.2=a.2*65536)then dV a.2 else dV a.2+1)
def sgF(a:Iv):Int×Bool:=bif decide (a.1>0)then(1,true)else bif decide (a.2<0)then(-1,true)else(0,decide (a.1=0)&&decide (a.2=0))
namespace RE
def inI(i:Iv)(x:RE):Prop:=of (i.1:Rat)≤of 65536*x∧of 65536*x≤of (i.2:Rat)
theorem PB(a b u x y:RE)(h1:a≤u*x)(h2:b≤u*y):a+b≤u*(x+y):=by grind
theorem PI(a b u x y:RE)(h1:u*x≤a)(h2:u*y≤b):u*(x+y)≤a+b:=by grind
theorem Pk(a u x:RE)(h1:u*x≤a): -a≤u*(-x):=by grind
theorem Qz(a u x:RE)(h1:a≤u*x):u*(-x)≤ -a:=by grind
theorem Pq(a c U V m:RE):((m-(U*V)))+((a*c-(m)))+((V-(0))*(U-(a)))+((a-(0))*(V-(c)))=0:=by grind
theorem aaH(a c U V m:RE)(h1:0≤V)(h2:0≤a)(h3:a≤U)(h4:c≤V)(h5:m≤a*c):m≤U*V:=fun hg=>far (a8 (a8 (a8 (bH hg) (aQ h5)) (cB (aQ h1) (aQ h3))) (cB (aQ h2) (aQ h4))) (Pq a c U V m)
theorem OH(a d U V m:RE):((m-(U*V)))+((a*d-(m)))+((V-(0))*(U-(a)))+((0-(a))*(d-(V)))=0:=by grind
theorem acR(a d U V m:RE)(h1:0≤V)(h2:a≤0)(h3:a≤U)(h4:V≤d)(h5:m≤a*d):m≤U*V:=fun hg=>far (a8 (a8 (a8 (bH hg) (aQ h5)) (cB (aQ h1) (aQ h3))) (cB (aQ h2) (aQ h4))) (OH a d U V m)
theorem Qb(b c U V m:RE):((m-(U*V)))+((b*c-(m)))+((0-(V))*(b-(U)))+((b-(0))*(V-(c)))=0:=by grind
theorem acI(b c U V m:RE)(h1:V≤0)(h2:0≤b)(h3:U≤b)(h4:c≤V)(h5:m≤b*c):m≤U*V:=fun hg=>far (a8 (a8 (a8 (bH hg) (aQ h5)) (cB (aQ h1) (aQ h3))) (cB (aQ h2) (aQ h4))) (Qb b c U V m)
theorem Qo(b d U V m:RE):((m-(U*V)))+((b*d-(m)))+((0-(V))*(b-(U)))+((0-(b))*(d-(V)))=0:=by grind
theorem ZO(b d U V m:RE)(h1:V≤0)(h2:b≤0)(h3:U≤b)(h4:V≤d)(h5:m≤b*d):m≤U*V:=fun hg=>far (a8 (a8 (a8 (bH hg) (aQ h5)) (cB (aQ h1) (aQ h3))) (cB (aQ h2) (aQ h4))) (Qo b d U V m)
theorem Pc(b d U V m:RE):((U*V-(m)))+((m-(b*d)))+((V-(0))*(b-(U)))+((b-(0))*(d-(V)))=0:=by grind
theorem aaY(b d U V m:RE)(h1:0≤V)(h2:0≤b)(h3:U≤b)(h4:V≤d)(h5:b*d≤m):U*V≤m:=fun hg=>far (a8 (a8 (a8 (bH hg) (aQ h5)) (cB (aQ h1) (aQ h3))) (cB (aQ h2) (aQ h4))) (Pc b d U V m)
theorem OC(b c U V m:RE):((U*V-(m)))+((m-(b*c)))+((V-(0))*(b-(U)))+((0-(b))*(V-(c)))=0:=by grind
theorem ada(b c U V m:RE)(h1:0≤V)(h2:b≤0)(h3:U≤b)(h4:c≤V)(h5:b*c≤m):U*V≤m:=fun hg=>far (a8 (a8 (a8 (bH hg) (aQ h5)) (cB (aQ h1) (aQ h3))) (cB (aQ h2) (aQ h4))) (OC b c U V m)
theorem O4(a d U V m:RE):((U*V-(m)))+((m-(a*d)))+((0-(V))*(U-(a)))+((a-(0))*(d-(V)))=0:=by grind
theorem abv(a d U V m:RE)(h1:V≤0)(h2:0≤a)(h3:a≤U)(h4:V≤d)(h5:a*d≤m):U*V≤m:=fun hg=>far (a8 (a8 (a8 (bH hg) (aQ h5)) (cB (aQ h1) (aQ h3))) (cB (aQ h2) (aQ h4))) (O4 a d U V m)
theorem OF(a c U V m:RE):((U*V-(m)))+((m-(a*c)))+((0-(V))*(U-(a)))+((0-(a))*(V-(c)))=0:=by grind
theorem abg(a c U V m:RE)(h1:V≤0)(h2:a≤0)(h3:a≤U)(h4:c≤V)(h5:a*c≤m):U*V≤m:=fun hg=>far (a8 (a8 (a8 (bH hg) (aQ h5)) (cB (aQ h1) (aQ h3))) (cB (aQ h2) (aQ h4))) (OF a c U V m)
theorem YG(u x y:RE):u*x*(u*y)=u*(x*y)*u:=by grind
theorem Qh(a b u:RE):((u-(0))*(a-(b)))+((b*u-(a*u)))=0:=by grind
theorem Uc(a b u:RE)(h1:0<u)(h2:a*u≤b*u):a≤b:=fun hg=>far (a8 (mul_pos (bH h1) (bH hg)) (aQ h2)) (Qh a b u)
theorem ma:0<of 65536:=lc (by decide+kernel)
end RE
namespace RE
theorem k9{a b:Int}(h:a≤b):of (a:Rat)≤of (b:Rat):=iZ.2 (aii.2 h)
theorem gI{q:Rat}(h:(frF q).2=true):inI (frF q).1 (of q):=by
 have f1:((q*65536).floor:Rat)≤q*65536:=Rat.floor_le _
 have f2:((-(q*65536)).floor:Rat)≤ -(q*65536):=Rat.floor_le _
 unfold frF at h ⊢
 cases e1:decide (aF (q*65536).floor)
 ·rw[e1]at h;cases h
 ·cases e2:decide (aF (-(-(q*65536)).floor))
  ·rw[e1,e2]at h;cases h
  ·rw[e1,e2]at h
   simp only[agd]at h ⊢
   rw[yL h]
   refine⟨?_,?_⟩
   ·rw[←aS];exact iZ.2 (by show(((q*65536).floor:Int):Rat)≤_;grind)
   ·rw[←aS];exact iZ.2 (by show _≤((-(-(q*65536)).floor:Int):Rat);rw[aiz];grind)
theorem frF_pr(q:Rat):prI (frF q).1:=by
 have f1:((q*65536).floor:Rat)≤q*65536:=Rat.floor_le _
 have f2:((-(q*65536)).floor:Rat)≤ -(q*65536):=Rat.floor_le _
 have f3:(q*65536).floor≤ -(-(q*65536)).floor:=by
  refine aii.1 ?_
  rw[aiz]
  grind
 unfold frF
 cases decide (aF (q*65536).floor)
 ·exact fj
 ·cases decide (aF (-(-(q*65536)).floor))
  ·exact fj
  ·exact yy f3
theorem jb{a b:Iv}{x y:RE}(ha:inI a x)(hb:inI b y)(h:(dl a b).2=true):inI (dl a b).1 (x+y):=by
 unfold dl at h ⊢
 rw[yL h]
 refine⟨?_,?_⟩
 ·show of ((a.1+b.1:Int):Rat)≤_
  rw[Rat.intCast_add,of_add]
  exact PB _ _ _ _ _ ha.1 hb.1
 ·show _≤of ((a.2+b.2:Int):Rat)
  rw[Rat.intCast_add,of_add]
  exact PI _ _ _ _ _ ha.2 hb.2
theorem addF_pr{a b:Iv}(ha:prI a)(hb:prI b):prI (dl a b).1:=yy (by have:=ha.2.1;have:=hb.2.1;omega)
theorem yq{a:Iv}{x:RE}(ha:inI a x):inI (lm a) (-x):=by
 refine⟨?_,?_⟩
 ·show of ((-a.2:Int):Rat)≤_
  rw[aiz,of_neg]
  exact Pk _ _ _ ha.2
 ·show _≤of ((-a.1:Int):Rat)
  rw[aiz,of_neg]
  exact Qz _ _ _ ha.1
theorem negF_pr{a:Iv}(ha:prI a):prI (lm a):=⟨by show _≤ -a.2;have:=ha.2.2;omega,by show-a.2≤ -a.1;have:=ha.2.1;omega,by show-a.1≤_;have:=ha.1;omega⟩
theorem kb{a b:Iv}{x y:RE}(ha:inI a x)(hb:inI b y)(h:(ct a b).2=true):inI (ct a b).1 (x*y):=by
 have hc:=OU h
 have c1:=hc a.1 b.1 (.inl rfl) (.inl rfl)
 have c2:=hc a.1 b.2 (.inl rfl) (.inr rfl)
 have c3:=hc a.2 b.1 (.inr rfl) (.inl rfl)
 have c4:=hc a.2 b.2 (.inr rfl) (.inr rfl)
 generalize (ct a b).1=m at*
 have up:∀{p q r:Int},p*65536≤q*r→of (p:Rat)*of 65536≤of (q:Rat)*of (r:Rat):=fun{p q r} h=>by
  have:=k9 h
  rw[ahQ,ahQ,aS,aS]at this
  exact this
 have dn:∀{p q r:Int},q*r≤p*65536→of (q:Rat)*of (r:Rat)≤of (p:Rat)*of 65536:=fun{p q r} h=>by
  have:=k9 h
  rw[ahQ,ahQ,aS,aS]at this
  exact this
 obtain⟨a1,a2⟩:=ha
 obtain⟨b1,b2⟩:=hb
 have l:of (m.1:Rat)*of 65536≤of 65536*x*(of 65536*y):=by
  rcases lt_or_ge (of 65536*y) 0 with v|v
  ·rcases lt_or_ge (of (a.2:Rat)) 0 with s|s
   ·exact ZO _ _ _ _ _ (le_of_lt v) (le_of_lt s) a2 b2 (up c4.1)
   ·exact acI _ _ _ _ _ (le_of_lt v) s a2 b1 (up c3.1)
  ·rcases lt_or_ge (of (a.1:Rat)) 0 with s|s
   ·exact acR _ _ _ _ _ v (le_of_lt s) a1 b2 (up c2.1)
   ·exact aaH _ _ _ _ _ v s a1 b1 (up c1.1)
 have u:of 65536*x*(of 65536*y)≤of (m.2:Rat)*of 65536:=by
  rcases lt_or_ge (of 65536*y) 0 with v|v
  ·rcases lt_or_ge (of (a.1:Rat)) 0 with s|s
   ·exact abg _ _ _ _ _ (le_of_lt v) (le_of_lt s) a1 b1 (dn c1.2)
   ·exact abv _ _ _ _ _ (le_of_lt v) s a1 b2 (dn c2.2)
  ·rcases lt_or_ge (of (a.2:Rat)) 0 with s|s
   ·exact ada _ _ _ _ _ v (le_of_lt s) a2 b1 (dn c3.2)
   ·exact aaY _ _ _ _ _ v s a2 b2 (dn c4.2)
 rw[YG]at l u
 exact⟨Uc _ _ _ ma l,Uc _ _ _ ma u⟩
theorem acj(u s:RE):u*s*(u*s)=u*(s*s)*u:=by grind
theorem NJ(r a u x:RE):((r-(u*x*u)))+((a*u-(r)))+((u*x-(a))*(u-(0)))=0:=by grind
theorem XO(r a u x:RE)(h1:r≤a*u)(h2:a≤u*x)(h3:0<u):r≤u*x*u:=fun hg=>far (a8 (a8 (bH hg) (aQ h1)) (cB (aQ h2) (le_of_lt (bH h3)))) (NJ r a u x)
theorem KF(r a u x:RE):((u*x*u-(r)))+((r-(a*u)))+((a-(u*x))*(u-(0)))=0:=by grind
theorem II(r a u x:RE)(h1:a*u≤r)(h2:u*x≤a)(h3:0<u):u*x*u≤r:=fun hg=>far (a8 (a8 (bH hg) (aQ h1)) (cB (aQ h2) (le_of_lt (bH h3)))) (KF r a u x)
theorem sqF_pr{a:Iv}(ha:prI a):prI (sqF a).1:=by
 unfold sqF
 by_cases h:a.2<0
 ·rw[afZ h];exact fj
 ·rw[af1 h]
  simp only[cond_false]
  refine yy ?_
  have h1:(if 0>a.1 then 0 else a.1)≤a.2:=by have:=ha.2.1;split<;>omega
  have h0:0≤(if 0>a.1 then 0 else a.1):=by split<;>omega
  have hm:dV (if 0>a.1 then 0 else a.1)≤dV a.2:=by
   unfold dV
   obtain⟨_,g1,_⟩:=fC (z:=(if 0>a.1 then 0 else a.1)*65536) (by omega)
   obtain⟨g0,_,g2⟩:=fC (z:=a.2*65536) (by omega)
   have:=Go.Proofs.YtnkndpoojnflmaaGreat.sq_lt (a:=bg ((if 0>a.1 then 0 else a.1)*65536)) (b:=bg (a.2*65536)+1) (by omega) (by omega)
   omega
  cases decide (dV a.2*dV a.2=a.2*65536)
  ·show _≤dV a.2+1;omega
  ·exact hm
theorem vp{a:Iv}{x:RE}(ha:inI a x)(hx:0≤x)(h:(sqF a).2=true):inI (sqF a).1 (uF x):=by
 obtain⟨a1,a2⟩:=ha
 have hs:=yR hx
 have s0:0≤of 65536*uF x:=cB (le_of_lt ma) (mX x)
 have e:of 65536*uF x*(of 65536*uF x)=of 65536*x*of 65536:=by rw[acj,hs]
 unfold sqF at h ⊢
 cases hn:decide (a.2<0)
 ·rw[hn]at h
  simp only[cond_false]at h ⊢
  have h2:=agK hn
  rw[yL h]
  obtain⟨p0,p1,p2⟩:=fC (z:=(if 0>a.1 then 0 else a.1)*65536) (by split<;>omega)
  obtain⟨q0,q1,q2⟩:=fC (z:=a.2*65536) (by omega)
  have cm:∀{p q:Int},p*p≤q*65536→of (p:Rat)*of (p:Rat)≤of (q:Rat)*of 65536:=fun{p q} h=>by
   have:=k9 h
   rw[ahQ,ahQ,aS,aS]at this
   exact this
  have cn:∀{p q:Int},q*65536≤p*p→of (q:Rat)*of 65536≤of (p:Rat)*of (p:Rat):=fun{p q} h=>by
   have:=k9 h
   rw[ahQ,ahQ,aS,aS]at this
   exact this
  have nn:∀{p:Int},0≤p→0≤of (p:Rat):=fun h=>k9 h
  refine⟨?_,?_⟩
  ·show of ((dV _:Int):Rat)≤_
   refine EI _ _ (nn p0) s0 ?_
   rw[e]
   refine XO _ (of (((if 0>a.1 then 0 else a.1:Int)):Rat)) _ _ (cm p1) ?_ ma
   split
   ·exact cB (le_of_lt ma) hx
   ·exact a1
  ·show _≤of (((bif _ then _ else _):Int):Rat)
   cases he:decide (dV a.2*dV a.2=a.2*65536)
   ·simp only[cond_false]
    refine EI _ _ s0 (nn (by unfold dV;omega)) ?_
    rw[e]
    exact II _ _ _ _ (cn (by unfold dV;omega)) a2 ma
   ·simp only[agd]
    refine EI _ _ s0 (nn q0) ?_
    rw[e]
    exact II _ _ _ _ (cn (by rw[af2 he];exact Int.le_refl _)) a2 ma
 ·rw[hn]at h;cases h
theorem Db{i:Iv}{x:RE}(hi:inI i x)(h:(sgF i).2=true):(sgF i).1=sg x:=by
 obtain⟨h1,h2⟩:=hi
 unfold sgF at h ⊢
 cases e1:decide (i.1>0)
 ·rw[e1]at h
  cases e2:decide (i.2<0)
  ·rw[e2]at h
   simp only[cond_false,af3,ah8]at h ⊢
   rw[h.1]at h1
   rw[h.2]at h2
   have:of 65536*x=0:=le_antisymm h2 h1
   have:sg (of 65536*x)=0:=by rw[this,dU]
   rw[dN,dE ma]at this
   omega
  ·have e:=af2 e2
   have h3:of (i.2:Rat)<0:=lc (aij.2 e)
   simp only[cond_false,agd]
   have:sg (of 65536*x)= -1:=iM (by
    rcases lt_or_ge (of 65536*x) 0 with h|h
    ·exact h
    ·exact absurd (le_trans h h2) (uX.2 h3))
   rw[dN,dE ma]at this
   omega
 ·have e:=af2 e1
  have h3:0<of (i.1:Rat):=lc (aij.2 e)
  simp only[agd]
  have:sg (of 65536*x)=1:=dE (by
   rcases lt_or_ge 0 (of 65536*x)with h|h
   ·exact h
   ·exact absurd (le_trans h1 h) (uX.2 h3))
  rw[dN,dE ma]at this
  omega
end RE
abbrev Qd:=Rat×Rat×Rat×Rat×Rat×Rat
def sgQ(q:Qd):Int:=zb q.1 q.2.1 q.2.2.1 q.2.2.2.1 q.2.2.2.2.1 q.2.2.2.2.2
def suT(x y:Rt):Qd:=(x.1-y.1,x.2.1,-y.2.1,0,x.2.2,y.2.2)
def fv(x:Rt)(q:Rat):Int:=fS (x.1-q) x.2.1 x.2.2
def okQ(q:BQ):Prop:=ok Rat 30001 q.1∧ok Rat 15000 q.2.1∧ok Rat 15000 q.2.2.1∧ok Rat 6000 q.2.2.2.1∧ok Rat 15000 q.2.2.2.2.1∧ok Rat 15000 q.2.2.2.2.2∧0≤ah q.2.2.2.2.1∧0≤ah q.2.2.2.2.2
instance (q:BQ):Decidable (okQ q):=by unfold okQ;infer_instance
theorem CJ{q:BQ}(h:okQ q):∃A B C D M N:Rat,q=enc ((A,B,C,D,M,N):Qd)∧Bd A 30001∧Bd B 15000∧Bd C 15000∧Bd D 6000∧Bd M 15000∧Bd N 15000∧0≤M∧0≤N:=by
 obtain⟨A,B,C,D,M,N⟩:=q
 obtain⟨h1,h2,h3,h4,h5,h6,h7,h8⟩:=h
 obtain⟨a,ha,b1⟩:=aB h1
 obtain⟨b,hb,b2⟩:=aB h2
 obtain⟨c,hc,b3⟩:=aB h3
 obtain⟨d,hd,b4⟩:=aB h4
 obtain⟨m,hm,b5⟩:=aB h5
 obtain⟨n,hn,b6⟩:=aB h6
 dsimp only at ha hb hc hd hm hn h7 h8
 subst ha hb hc hd hm hn
 rw[d7,cj]at h7 h8
 exact⟨a,b,c,d,m,n,rfl,b1,b2,b3,b4,b5,b6,h7,h8⟩
theorem wU{A B C D M N:Rat}{a b c d m n:Nat}[h1:Bd A a][h2:Bd B b][h3:Bd C c][h4:Bd D d][h5:Bd M m][h6:Bd N n][h7:Nn M][h8:Nn N](ha:a≤30001)(hb:b≤15000)(hc:c≤15000)(hd:d≤6000)(hm:m≤15000)(hn:n≤15000):decide (okQ (enc ((A,B,C,D,M,N):Qd)))=true:=
 afZ ⟨af2 (jY ha (by decide)),af2 (jY hb (by decide)),af2 (jY hc (by decide)),af2 (jY hd (by decide)),af2 (jY hm (by decide)),af2 (jY hn (by decide)),by show 0≤ah (aq M);rw[cj];exact h7.le,by show 0≤ah (aq N);rw[cj];exact h8.le⟩
theorem yv{s t:Int}(hs: -1≤s∧s≤1)(ht: -1≤t∧t≤1):i64.wrap (s*t)=s*t:=by
 have:=xO hs ht
 exact aP (by omega) (by omega)
theorem qz{a b m x y:Rat}:i64.wrap (fS a b m*aC x y)=fS a b m*aC x y:=yv (kf _ _ _) (jc _ _)
theorem qO{a b m x y z:Rat}:i64.wrap (fS a b m*fS x y z)=fS a b m*fS x y z:=yv (kf _ _ _) (kf _ _ _)
theorem Bn(s t u:Int):(match s==0 with|true=>(match s==0 with|true=>some [RV.d ai2 t]|false=>some [RV.d ai2 s])|false=>(match t==0 with|true=>(match s==0 with|true=>some [RV.d ai2 t]|false=>some [RV.d ai2 s])|false=>(match s==t with|true=>(match s==0 with|true=>some [RV.d ai2 t]|false=>some [RV.d ai2 s])|false=>some [RV.d ai2 (s*u)])))=some [RV.d ai2 (RE.addS s t u)]:=by
 unfold RE.addS
 cases h1:s==0
 ·cases h2:t==0
  ·cases h3:s==t<;>rfl
  ·rfl
 ·have e:=aha.1 h1
  subst e
  cases h2:t==0
  ·cases h3:(0:Int)==t
   ·rfl
   ·rw[←aha.1 h3];rfl
  ·rw[aha.1 h2];rfl
theorem xZ(s t u:Int):(match t==0 with|true=>some [RV.d ai2 s]|false=>(match s==t with|true=>some [RV.d ai2 s]|false=>(match s==0 with|true=>some [RV.d ai2 t]|false=>some [RV.d ai2 (s*u)])))=some [RV.d ai2 (RE.addS s t u)]:=by
 unfold RE.addS
 cases h2:t==0
 ·cases h3:s==t
  ·cases h1:s==0<;>rfl
  ·rfl
 ·rfl
def Dh:List En:=[enL mE,enL oZ,enL rC,enL pi,enT lS,enT pg,enL sH]
def I8(a b c:BR)(_k:KT):Option (List RV):=og (o1 a) (og (o1 b) (og (o1 c) (match(aC (ah a) 0)==0 with|true=>(match(aC (ah a) 0)==0 with|true=>some [RV.d ai2 (i64.wrap ((aC (ah b) 0)*(aC (ah c) 0)))]|false=>some [RV.d ai2 (aC (ah a) 0)])|false=>(match(i64.wrap ((aC (ah b) 0)*(aC (ah c) 0)))==0 with|true=>(match(aC (ah a) 0)==0 with|true=>some [RV.d ai2 (i64.wrap ((aC (ah b) 0)*(aC (ah c) 0)))]|false=>some [RV.d ai2 (aC (ah a) 0)])|false=>(match(aC (ah a) 0)==(i64.wrap ((aC (ah b) 0)*(aC (ah c) 0)))with|true=>(match(aC (ah a) 0)==0 with|true=>some [RV.d ai2 (i64.wrap ((aC (ah b) 0)*(aC (ah c) 0)))]|false=>some [RV.d ai2 (aC (ah a) 0)])|false=>(og (o2 a a) (og (o2 b b) (og (o2 (hMu b b) c) (og (o2 (hMu a a) (hMu (hMu b b) c)) (some [RV.d ai2 (i64.wrap ((aC (ah a) 0)*(aC (ah (hMu a a)) (ah (hMu (hMu b b) c)))))]))))))))))
def Xy:Cn 156 [tR,tR,tR]:=cn fun(a b c:BR)=>lf (ok Rat 240000 a∧ok Rat 170000 b∧ok Rat 30000 c) [.d ai2 (fS (ah a) (ah b) (ah c))] fun h=>by
 refine az Dh (I8 a b c) ⟨0,?_⟩
 obtain⟨ha,hb,hc⟩:=h
 obtain⟨a,rfl,ba⟩:=aB ha
 obtain⟨b,rfl,bb⟩:=aB hb
 obtain⟨c,rfl,bc⟩:=aB hc
 unfold I8
 simp only[aO,Nat.reduceAdd,Nat.reduceLeDiff,n8]
 exact Bn _ _ _
def Ka(a b:BO3)(_k:KT):Option (List RV):=og (o2 a.1 b.1) (og (o1 b.2.1) (og (decide (aF (0:Int))) (some [RV.d tQ (hSu a.1 b.1,(a.2.1,(hNe b.2.1,(hid (aq ((0:Int):Rat)),(a.2.2,b.2.2)))))])))
def Xm:Cn 236 [tO,tO]:=cn fun(a b:BO3)=>lf (ok Rt 15000 a∧ok Rt 15000 b) [.d tQ (enc (suT (dec a) (dec b)))] fun h=>by
 refine az Dh (Ka a b) ⟨0,?_⟩
 obtain⟨ha,hb⟩:=h
 obtain⟨a,rfl,ba⟩:=aB ha
 obtain⟨b,rfl,bb⟩:=aB hb
 unfold Ka
 simp only[aO,Nat.reduceLeDiff]
 try rfl
def LZ:List En:=enT Xy::enL Xm::Dh
def Jq(q:BQ)(_k:KT):Option (List RV):=let y1:=ah q.2.2.2.2.1;let y2:=aC (ah q.2.2.2.2.2) 0;let y3:=fS (ah q.1) (ah q.2.1) y1;let y4:=i64.wrap ((fS (ah q.2.2.1) (ah q.2.2.2.1) y1)*y2);let y5:Option (List RV):=match y3==0 with|true=>some [RV.d ai2 y4]|false=>some [RV.d ai2 y3];let y6:=hMu q.2.2.2.1 q.2.2.2.1;let y7:=hMu q.2.2.1 q.2.2.1;let y8:=hMu y6 q.2.2.2.2.1;let y9:=hMu (hMu q.2.1 q.2.1) q.2.2.2.2.1;let y10:=hAd (hMu q.1 q.1) y9;let y11:=hMu q.2.2.2.2.2 (hAd y7 y8);let y12:=hMu q.2.2.1 q.2.2.2.1;let y13:=hMu q.2.2.2.2.2 y12;let y14:=hSu (hMu q.1 q.2.1) y13;og (o1 q.2.2.2.2.1) (match decide ((aC y1 0)<0)with|true=>some [RV.d ai2 0]|false=>(og (o1 q.2.2.2.2.2) (match decide (y2<0)with|true=>some [RV.d ai2 0]|false=>(og (decide (ok Rat 240000 q.1∧ok Rat 170000 q.2.1∧ok Rat 30000 q.2.2.2.2.1)) (og (decide (ok Rat 240000 q.2.2.1∧ok Rat 170000 q.2.2.2.1∧ok Rat 30000 q.2.2.2.2.1)) (og (o1 q.2.2.2.2.2) (match y3==0 with|true=>y5|false=>(match y4==0 with|true=>y5|false=>(match y3==y4 with|true=>y5|false=>(og (o2 q.2.2.1 q.2.2.1) (og (o2 q.2.2.2.1 q.2.2.2.1) (og (o2 y6 q.2.2.2.2.1) (og (o2 y7 y8) (og (o2 q.2.2.2.2.2 (hAd y7 y8)) (og (o2 q.1 q.1) (og (o2 q.2.1 q.2.1) (og (o2 (hMu q.2.1 q.2.1) q.2.2.2.2.1) (og (o2 (hMu q.1 q.1) y9) (og (o2 y10 y11) (og (o2 q.1 q.2.1) (og (o2 q.2.2.1 q.2.2.2.1) (og (o2 q.2.2.2.2.2 y12) (og (o2 (hMu q.1 q.2.1) y13) (og (o2 y14 y14) (og (decide (ok Rat 240000 (hSu y10 y11)∧ok Rat 170000 (hAd y14 y14)∧ok Rat 30000 q.2.2.2.2.1)) (some [RV.d ai2 (i64.wrap (y3*(fS (ah (hSu y10 y11)) (ah (hAd y14 y14)) y1)))]))))))))))))))))))))))))))
def XF:Cn 234 [tQ]:=cn fun(q:BQ)=>lf (okQ q) [.d ai2 (sgQ (dec q))] fun h=>by
 refine az LZ (Jq q) ⟨0,?_⟩
 obtain⟨A,B,C,D,M,N,rfl,bA,bB,bC,bD,bM,bN,hM,hN⟩:=CJ h
 rw[aA]
 unfold Jq
 simp only[aO,aD,Nat.reduceAdd,Nat.reduceLeDiff,qz,qO,au,af1 (show ¬M<0 by grind),af1 (show ¬N<0 by grind)]
 refine(Bn _ _ _).trans ?_
 unfold sgQ zb
 rw[af1 (show ¬M<0 by grind),af1 (show ¬N<0 by grind)]
 dsimp only[Bool.or_false,cond_false]
 rw[show A*B-N*(C*D)+(A*B-N*(C*D))=2*(A*B-N*(C*D)) by grind]
 rfl
def LA:List En:=enT XF::LZ
def LQ(a b:BO3)(_k:KT):Option (List RV):=og (decide (ok Rt 15000 a∧ok Rt 15000 b)) (og (decide (okQ (hid (enc (suT (dec a) (dec b)))))) (some [RV.d ai2 (sgQ (dec (hid (enc (suT (dec a) (dec b))))))]))
def Ht:Cn 121 [tO,tO]:=cn fun(a b:BO3)=>lf (okT 15000 a∧okT 15000 b) [.d ai2 (bI (dec a) (dec b))] fun h=>by
 refine az LA (LQ a b) ⟨0,?_⟩
 obtain⟨ha,hb⟩:=h
 obtain⟨a,rfl,ba,ra⟩:=fN ha
 obtain⟨b,rfl,bb,rb⟩:=fN hb
 have na:Nn a.2.2:=inferInstance
 have nb:Nn b.2.2:=inferInstance
 have e:decide (okQ (enc (suT a b)))=true:=wU (by decide) (by decide) (by decide) (by decide) (by decide) (by decide)
 unfold LQ
 simp only[aO,Nat.reduceLeDiff,e]
 rfl
def H8(a:BO3)(b:BR)(_k:KT):Option (List RV):=og (o2 a.1 b) (og (decide (ok Rat 240000 (hSu a.1 b)∧ok Rat 170000 a.2.1∧ok Rat 30000 a.2.2)) (some [RV.d ai2 (fS (ah (hSu a.1 b)) (ah a.2.1) (ah a.2.2))]))
def Kg:Cn 62 [tO,tR]:=cn fun(a:BO3) (b:BR)=>lf (okT 15000 a∧ok Rat 15000 b) [.d ai2 (fv (dec a) (ah b))] fun h=>by
 refine az LA (H8 a b) ⟨0,?_⟩
 obtain⟨ha,hb⟩:=h
 obtain⟨a,rfl,ba,ra⟩:=fN ha
 obtain⟨b,rfl,bb⟩:=aB hb
 unfold H8
 simp only[aO,Nat.reduceAdd,Nat.reduceLeDiff]
 try rfl
def jN:dH:=spN false true [tR] (fun x=>decide (okR x.1)) (fun x=>[RV.d tR (hNe x.1)])
theorem f0:SpK 109 jN:=spX fun x h=>by simp only[aX];exact Fw x.1 (af2 h)
def Jl:List En:=[⟨99,fM,dS⟩,⟨107,gS,eU⟩,⟨106,gi,dY⟩,⟨108,fO,dP⟩,⟨41,eW,dk⟩,⟨73,iY,fx⟩,⟨109,jN,f0⟩]
def TX(a b c:BR)(_k:KT):Option (List RV):=og (o1 a) (og (o1 b) (og (o1 c) (match(i64.wrap ((aC (ah b) 0)*(aC (ah c) 0)))==0 with|true=>some [RV.d ai2 (aC (ah a) 0)]|false=>(match(aC (ah a) 0)==(i64.wrap ((aC (ah b) 0)*(aC (ah c) 0)))with|true=>some [RV.d ai2 (aC (ah a) 0)]|false=>(match(aC (ah a) 0)==0 with|true=>some [RV.d ai2 (i64.wrap ((aC (ah b) 0)*(aC (ah c) 0)))]|false=>(og (o2 a a) (og (o2 b b) (og (o2 (hMu b b) c) (og (o2 (hMu a a) (hMu (hMu b b) c)) (some [RV.d ai2 (i64.wrap ((aC (ah a) 0)*(aC (ah (hMu a a)) (ah (hMu (hMu b b) c)))))]))))))))))
def Ax:Cn 293 [tR,tR,tR]:=cn fun(a b c:BR)=>lf (ok Rat 240000 a∧ok Rat 170000 b∧ok Rat 30000 c) [.d ai2 (fS (ah a) (ah b) (ah c))] fun h=>by
 refine az Jl (TX a b c) ⟨0,?_⟩
 obtain⟨ha,hb,hc⟩:=h
 obtain⟨a,rfl,ba⟩:=aB ha
 obtain⟨b,rfl,bb⟩:=aB hb
 obtain⟨c,rfl,bc⟩:=aB hc
 unfold TX
 simp only[aO,Nat.reduceAdd,Nat.reduceLeDiff,n8]
 exact xZ _ _ _
def RF(a:BR)(_k:KT):Option (List RV):=og (o1 a) (og (o1 (hNe a)) (some [RV.d tR (hNe (hNe a))]))
def R4:Cn 338 [tR]:=cn fun(a:BR)=>lf (okR a) [.d tR (aq (ah a))] fun h=>by
 refine az Jl (RF a) ⟨0,?_⟩
 have ha:=h
 obtain⟨a,rfl,ba⟩:=eu ha
 unfold RF
 simp only[aO,Nat.reduceLeDiff,Rat.neg_neg]
def abk:List En:=enT Ax::enL R4::Jl
def Up(a b:BO3)(_k:KT):Option (List RV):=og (o2 a.1 b.1) (og (o1 a.2.1) (og (o1 b.2.1) (og (decide (aF (0:Int))) (og (o1 a.2.2) (og (o1 b.2.2) (some [RV.d tQ (hSu a.1 b.1,(hid (aq (ah a.2.1)),(hNe b.2.1,(hid (aq ((0:Int):Rat)),(hid (aq (ah a.2.2)),hid (aq (ah b.2.2)))))))]))))))
def Je:Cn 296 [tO,tO]:=cn fun(a b:BO3)=>lf (ok Rt 15000 a∧ok Rt 15000 b) [.d tQ (enc (suT (dec a) (dec b)))] fun h=>by
 refine az abk (Up a b) ⟨0,?_⟩
 obtain⟨ha,hb⟩:=h
 obtain⟨a,rfl,ba⟩:=aB ha
 obtain⟨b,rfl,bb⟩:=aB hb
 unfold Up
 simp only[aO,Nat.reduceLeDiff]
 try rfl
theorem je{n:Int}(h:aF n):szI n≤3:=by
 have:pw 3=1000000000000000000000000000:=by decide
 exact dX (by have:=h.1;omega) (by have:=h.2;omega)
theorem Ng{q:Rat}{k:Nat}(h:Bd q k)(hk:k≤480000):okI (ai q.floor)∧okI (ai (-q.floor)):=by
 have e:szI q.floor≤k:=by
  refine agj (c8 ?_) h.le.1
  rw[Rat.floor_def]
  exact Int.natAbs_ediv_le_natAbs _ _
 exact⟨aR (by omega),aR (by rw[io];omega)⟩
theorem afb:Bd (65536:Rat) 1:=⟨⟨by decide+kernel,by decide+kernel⟩⟩
theorem YE:((65536:Int):Rat)=65536:=rfl
theorem p48:(2:Int)^(min (48:Int).toNat 64)=281474976710656:=by decide
theorem p32:(2:Int)^(min (32:Int).toNat 64)=4294967296:=by decide
theorem p16:(2:Int)^(min (16:Int).toNat 64)=65536:=by decide
theorem fdv{a b:Int}(h:0≤b):Int.fdiv a b=a/b:=Int.fdiv_eq_ediv_of_nonneg a h
theorem Uo(n k:Nat)(hn:n<18446744073709551616)(hk:2^k-1<18446744073709551616):BitVec.toNat (BitVec.ofInt 64 (n:Int)&&&BitVec.ofInt 64 ((2^k-1:Nat):Int))=n%2^k:=by
 rw[BitVec.toNat_and,BitVec.toNat_ofInt,BitVec.toNat_ofInt]
 have e1:((n:Int)%((2^64:Nat):Int)).toNat=n:=by omega
 have e2:(((2^k-1:Nat):Int)%((2^64:Nat):Int)).toNat=2^k-1:=by omega
 rw[e1,e2,Nat.and_two_pow_sub_one_eq_mod]
theorem Z2(n:Nat)(hn:n<18446744073709551616):u64.wrap (BitVec.toNat (BitVec.ofInt 64 (n:Int)&&&BitVec.ofInt 64 65535))=((n%65536:Nat):Int):=by
 rw[show(65535:Int)=((2^16-1:Nat):Int) from rfl,Uo n 16 hn (by decide),agN]
 omega
theorem ID(n:Nat)(hn:n<18446744073709551616):u64.wrap (BitVec.toNat (BitVec.ofInt 64 (n:Int)&&&BitVec.ofInt 64 4294967295))=((n%4294967296:Nat):Int):=by
 rw[show(4294967295:Int)=((2^32-1:Nat):Int) from rfl,Uo n 32 hn (by decide),agN]
 omega
theorem aev{h l:Nat}(hh:h<65536)(hl:l<281474976710656):u64.wrap (BitVec.toNat (BitVec.ofInt 64 (u64.wrap ((h:Int)*281474976710656)) ||| BitVec.ofInt 64 (l:Int)))=((h*281474976710656+l:Nat):Int):=by
 rw[BitVec.toNat_or,BitVec.toNat_ofInt,BitVec.toNat_ofInt,agN,agN]
 have e1:((h:Int)*281474976710656%18446744073709551616%((2^64:Nat):Int)).toNat=h <<< 48:=by
  rw[Nat.shiftLeft_eq]
  omega
 have e2:((l:Int)%((2^64:Nat):Int)).toNat=l:=by omega
 rw[e1,e2,←Nat.shiftLeft_add_eq_or_of_lt (by omega),Nat.shiftLeft_eq]
 omega
def scP(x y:Int):Prop:=x.natAbs≤2305843009213693952∧y.natAbs≤2305843009213693952
instance (x y:Int):Decidable (scP x y):=by unfold scP;infer_instance
def Ac(n:Int):Prop:=0≤n∧n≤2305843009213693952
instance (n:Int):Decidable (Ac n):=by unfold Ac;infer_instance
def adZ:Ctx:=CX [] []
def T0(x y:Int)(_k:KT):Option (List RV):=match decide (x<(-2305843009213693952))with|true=>some [RV.d tG (0,0),RV.d .bool false]|false=>(match decide (y>2305843009213693952)with|true=>some [RV.d tG (0,0),RV.d .bool false]|false=>some [RV.d tG (x,y),RV.d .bool true])
theorem ad7(x y:Int):RS adZ 353 [SI x,SI y] (T0 x y):=rsX
def Lw:Cn 353 [ai2,ai2]:=cn fun(x y:Int)=>lf True [.d tG ((mi x y).1),.d .bool ((mi x y).2)] fun _=>by
 refine fq (E:=[]) trivial (ad7 _ _ ⟨0,?_⟩)
 unfold T0 mi
 cases decide (x< -2305843009213693952)
 ·cases decide (y>2305843009213693952)<;>rfl
 ·rfl
def Ch:dH:=spN false true [tI] (fun x=>decide (okI x.1)) (fun x=>[RV.d tI (hid (ai (-ae x.1)))])
theorem Bh:SpK 216 Ch:=spX fun x h=>by simp only[aX];exact EG x.1 (af2 h)
def wz:List En:=[⟨99,fM,dS⟩,⟨108,fO,dP⟩,⟨109,jN,f0⟩,enL IJ,enT Rn,⟨216,Ch,Bh⟩,enL Lw]
def TB(a:BR)(_k:KT):Option (List RV):=let y1:=hid (aq ((65536:Int):Rat));let y2:=hid (ai (ah (hMu a y1)).floor);let y3:=hid (ai (ah (hNe (hMu a y1))).floor);let y4:=hid (ai (-ae y3));let y5:=mi (bif decide (aF (ae y2))then ae y2 else 0) (bif decide (aF (ae y4))then ae y4 else 0);og (decide (aF (65536:Int))) (og (o2 a y1) (og (o1 (hMu a y1)) (og (decide (okI y2)) (og (o1 (hMu a y1)) (og (o1 (hNe (hMu a y1))) (og (decide (okI y3)) (og (decide (okI y4)) (match !(decide (aF (ae y2)))with|true=>some [RV.d tG (0,0),RV.d .bool false]|false=>(match !(decide (aF (ae y4)))with|true=>some [RV.d tG (0,0),RV.d .bool false]|false=>some [RV.d tG (hid (y5.1)),RV.d .bool (y5.2)])))))))))
def Ju:Cn 333 [tR]:=cn fun(a:BR)=>lf (ok Rat 200000 a) [.d tG ((frF (ah a)).1),.d .bool ((frF (ah a)).2)] fun h=>by
 refine az wz (TB a) ⟨0,?_⟩
 have ha:=h
 obtain⟨a,rfl,ba⟩:=aB ha
 have hk:=afb
 have h6:aF 65536:=by decide
 have f1:=Ng (inferInstance:Bd (a*65536) _) (by decide)
 have f2:=Ng (inferInstance:Bd (-(a*65536)) _) (by decide)
 unfold TB
 simp only[YE,aO,Nat.reduceAdd,Nat.reduceLeDiff,dec_enc,dT h6,dT f1.1,dT f2.1,dT f2.2]
 unfold frF
 cases e1:decide (aF (a*65536).floor)
 ·rfl
 ·cases e2:decide (aF (-(-(a*65536)).floor))
  ·rfl
  ·rfl
def Um(a b:(Int×Int))(_k:KT):Option (List RV):=some [RV.d tG (hid ((mi (i64.wrap (a.1+b.1)) (i64.wrap (a.2+b.2))).1)),RV.d .bool ((mi (i64.wrap (a.1+b.1)) (i64.wrap (a.2+b.2))).2)]
def KX:Cn 335 [tG,tG]:=cn fun(a b:(Int×Int))=>lf (prI a∧prI b) [.d tG ((dl a b).1),.d .bool ((dl a b).2)] fun h=>by
 refine az wz (Um a b) ⟨0,?_⟩
 obtain⟨⟨a1,a2,a3⟩,⟨b1,b2,b3⟩⟩:=h
 unfold Um dl
 rw[aP (by omega) (by omega),aP (by omega) (by omega)]
 simp only[aX]
def Rl(a:(Int×Int))(_k:KT):Option (List RV):=some [RV.d tG (i64.wrap (0-a.2),i64.wrap (0-a.1))]
def Kk:Cn 362 [tG]:=cn fun(a:(Int×Int))=>lf (prI a) [.d tG (lm a)] fun h=>by
 refine az wz (Rl a) ⟨0,?_⟩
 obtain⟨a1,a2,a3⟩:=h
 unfold Rl lm
 rw[aP (by omega) (by omega),aP (by omega) (by omega),ahN,ahN]
def U0(n:Int)(_k:KT):Option (List RV):=match decide (n<0)with|true=>some [RV.d (.int .u64) (u64.wrap (0-(u64.wrap n)))]|false=>some [RV.d (.int .u64) (u64.wrap n)]
def Ii:Cn 367 [ai2]:=cn fun(n:Int)=>lf (aF n) [.d (.int .u64) (n.natAbs:Int)] fun h=>by
 refine az wz (U0 n) ⟨0,?_⟩
 obtain⟨h1,h2⟩:=h
 unfold U0
 rw[agN,agN]
 by_cases hn:n<0
 ·rw[afZ hn,show(0-n%18446744073709551616)%18446744073709551616=(n.natAbs:Int) by omega]
 ·rw[af1 hn,show n%18446744073709551616=(n.natAbs:Int) by omega]
def RO(x y:Int)(_k:KT):Option (List RV):=match decide (32<(0:Int))with|true=>none|false=>(match decide (32<(0:Int))with|true=>none|false=>(match decide (32<(0:Int))with|true=>none|false=>(match decide (32<(0:Int))with|true=>none|false=>(match decide (32<(0:Int))with|true=>none|false=>some [RV.d (.int .u64) (u64.wrap ((u64.wrap ((u64.wrap ((Int.fdiv x (2^(min (32:Int).toNat 64)))*(Int.fdiv y (2^(min (32:Int).toNat 64)))))+(Int.fdiv (u64.wrap ((u64.wrap ((Int.fdiv x (2^(min (32:Int).toNat 64)))*(u64.wrap (BitVec.toNat (BitVec.ofInt 64 y&&&BitVec.ofInt 64 4294967295)))))+(Int.fdiv (u64.wrap ((u64.wrap (BitVec.toNat (BitVec.ofInt 64 x&&&BitVec.ofInt 64 4294967295)))*(u64.wrap (BitVec.toNat (BitVec.ofInt 64 y&&&BitVec.ofInt 64 4294967295))))) (2^(min (32:Int).toNat 64))))) (2^(min (32:Int).toNat 64)))))+(Int.fdiv (u64.wrap ((u64.wrap (BitVec.toNat (BitVec.ofInt 64 (u64.wrap ((u64.wrap ((Int.fdiv x (2^(min (32:Int).toNat 64)))*(u64.wrap (BitVec.toNat (BitVec.ofInt 64 y&&&BitVec.ofInt 64 4294967295)))))+(Int.fdiv (u64.wrap ((u64.wrap (BitVec.toNat (BitVec.ofInt 64 x&&&BitVec.ofInt 64 4294967295)))*(u64.wrap (BitVec.toNat (BitVec.ofInt 64 y&&&BitVec.ofInt 64 4294967295))))) (2^(min (32:Int).toNat 64)))))&&&BitVec.ofInt 64 4294967295)))+(u64.wrap ((u64.wrap (BitVec.toNat (BitVec.ofInt 64 x&&&BitVec.ofInt 64 4294967295)))*(Int.fdiv y (2^(min (32:Int).toNat 64))))))) (2^(min (32:Int).toNat 64))))),RV.d (.int .u64) (u64.wrap (x*y))]))))
def LM:Cn 366 [(.int .u64),(.int .u64)]:=cn fun(x y:Int)=>lf (gK x∧gK y) [.d (.int .u64) (x*y/18446744073709551616),.d (.int .u64) (x*y%18446744073709551616)] fun h=>by
 refine az wz (RO x y) ⟨0,?_⟩
 obtain⟨h1,h2⟩:=h
 obtain⟨X,rfl⟩:=ahb h1.1
 obtain⟨Y,rfl⟩:=ahb h2.1
 have hX:X<18446744073709551616:=by have:=h1.2;omega
 have hY:Y<18446744073709551616:=by have:=h2.2;omega
 have wn:∀n:Nat,n<18446744073709551616→u64.wrap (n:Int)=(n:Int):=fun n hn=>by rw[agN];omega
 have eX:(X:Int)/4294967296=((X/4294967296:Nat):Int):=by omega
 have eY:(Y:Int)/4294967296=((Y/4294967296:Nat):Int):=by omega
 unfold RO
 simp only[p32,fdv (show(0:Int)≤4294967296 by decide),ID X hX,ID Y hY,eX,eY]
 have hXY:X*Y=X/4294967296*(Y/4294967296)*18446744073709551616+(X/4294967296*(Y%4294967296)+X%4294967296*(Y/4294967296))*4294967296+X%4294967296*(Y%4294967296):=by
  have a:=Nat.div_add_mod X 4294967296
  have b:=Nat.div_add_mod Y 4294967296
  generalize X/4294967296=x1 at*
  generalize X%4294967296=x0 at*
  generalize Y/4294967296=y1 at*
  generalize Y%4294967296=y0 at*
  subst a b
  grind
 have x0:X%4294967296≤4294967295:=by omega
 have y0:Y%4294967296≤4294967295:=by omega
 have x1:X/4294967296≤4294967295:=by omega
 have y1:Y/4294967296≤4294967295:=by omega
 have q00:=aih x0 y0
 have q10:=aih x1 y0
 have q01:=aih x0 y1
 have q11:=aih x1 y1
 simp only[←ahB]
 rw[hXY]
 generalize X%4294967296*(Y%4294967296)=p00 at*
 generalize X/4294967296*(Y%4294967296)=p10 at*
 generalize X%4294967296*(Y/4294967296)=p01 at*
 generalize X/4294967296*(Y/4294967296)=p11 at*
 have t0:u64.wrap (u64.wrap (p10:Int)+u64.wrap (p00:Int)/4294967296)=((p10+p00/4294967296:Nat):Int):=by
  rw[wn p10 (by omega),wn p00 (by omega),show(p10:Int)+(p00:Int)/4294967296=((p10+p00/4294967296:Nat):Int) by omega,wn _ (by omega)]
 rw[t0,ID _ (by omega)]
 have t1:u64.wrap (((p10+p00/4294967296)%4294967296:Nat)+u64.wrap (p01:Int))=(((p10+p00/4294967296)%4294967296+p01:Nat):Int):=by
  rw[wn p01 (by omega),←Int.natCast_add,wn _ (by omega)]
 rw[t1,wn p11 (by omega)]
 rw[af1 (show ¬(32:Int)<0 by decide)]
 dsimp only
 have hi:u64.wrap (u64.wrap ((p11:Int)+((p10+p00/4294967296:Nat):Int)/4294967296)+(((p10+p00/4294967296)%4294967296+p01:Nat):Int)/4294967296)=((p11*18446744073709551616+(p10+p01)*4294967296+p00:Nat):Int)/18446744073709551616:=by
  rw[agN,agN]
  omega
 rw[hi,agN]
def Zu:List En:=enA Ii::enA LM::wz
def Tm(x y:Int)(_k:KT):Option (List RV):=let y1:=hid ((x.natAbs:Int));let y2:=hid ((y.natAbs:Int));let y3:=hid (y1*y2/18446744073709551616);let y4:=hid (y1*y2%18446744073709551616);let y5:=u64.wrap (BitVec.toNat (BitVec.ofInt 64 (u64.wrap (y3*2^(min (48:Int).toNat 64))) ||| BitVec.ofInt 64 (Int.fdiv y4 (2^(min (16:Int).toNat 64)))));let y6:=i64.wrap y5;let y7:=i64.wrap (y6+1);let y8:=i64.wrap (0-y7);let y9:=i64.wrap (0-y6);let y10:=decide (y9≤2305843009213693952);og (decide (aF x)) (og (decide (aF y)) (og (decide (gK y1∧gK y2)) (match decide (16<(0:Int))with|true=>none|false=>(match(Int.fdiv y3 (2^(min (16:Int).toNat 64))) !=0 with|true=>some [RV.d ai2 0,RV.d ai2 0,RV.d .bool false]|false=>(match decide (48<(0:Int))with|true=>none|false=>(match decide (16<(0:Int))with|true=>none|false=>(match decide (y5>2305843009213693952)with|true=>some [RV.d ai2 0,RV.d ai2 0,RV.d .bool false]|false=>(match(u64.wrap (BitVec.toNat (BitVec.ofInt 64 y4&&&BitVec.ofInt 64 65535))) !=0 with|true=>(match !((decide (x<0))==(decide (y<0)))with|true=>(match decide (y8≥(-2305843009213693952))with|true=>some [RV.d ai2 y8,RV.d ai2 y9,RV.d .bool y10]|false=>some [RV.d ai2 y8,RV.d ai2 y9,RV.d .bool false])|false=>(match decide (y6≥(-2305843009213693952))with|true=>some [RV.d ai2 y6,RV.d ai2 y7,RV.d .bool (decide (y7≤2305843009213693952))]|false=>some [RV.d ai2 y6,RV.d ai2 y7,RV.d .bool false]))|false=>(match !((decide (x<0))==(decide (y<0)))with|true=>(match decide (y9≥(-2305843009213693952))with|true=>some [RV.d ai2 y9,RV.d ai2 y9,RV.d .bool y10]|false=>some [RV.d ai2 y9,RV.d ai2 y9,RV.d .bool false])|false=>(match decide (y6≥(-2305843009213693952))with|true=>some [RV.d ai2 y6,RV.d ai2 y6,RV.d .bool (decide (y6≤2305843009213693952))]|false=>some [RV.d ai2 y6,RV.d ai2 y6,RV.d .bool false]))))))))))
def SX:Cn 356 [ai2,ai2]:=cn fun(x y:Int)=>lf (scP x y) [.d ai2 ((scF x y).1.1),.d ai2 ((scF x y).1.2),.d .bool ((scF x y).2)] fun h=>by
 refine az Zu (Tm x y) ⟨0,?_⟩
 obtain⟨hx,hy⟩:=h
 have h1:aF x:=⟨by omega,by omega⟩
 have h2:aF y:=⟨by omega,by omega⟩
 have h3:gK (x.natAbs:Int)∧gK (y.natAbs:Int):=⟨⟨by omega,by omega⟩,⟨by omega,by omega⟩⟩
 unfold Tm scF
 simp only[aX]
 rw[dT h1,dT h2,dT h3]
 have hp:=aih hx hy
 simp only[←ahB,p16,p48,fdv (show(0:Int)≤65536 by decide)]
 generalize x.natAbs*y.natAbs=p at*
 rw[af1 (show ¬(16:Int)<0 by decide),af1 (show ¬(48:Int)<0 by decide),show(p:Int)/18446744073709551616=((p/18446744073709551616:Nat):Int) by omega,show(p:Int)%18446744073709551616=((p%18446744073709551616:Nat):Int) by omega,show((p%18446744073709551616:Nat):Int)/65536=((p%18446744073709551616/65536:Nat):Int) by omega,Z2 _ (by omega),show p%18446744073709551616%65536=p%65536 by omega]
 by_cases hc:p≥1208925819614629174706176
 ·rw[afZ hc,show(((p/18446744073709551616:Nat):Int)/65536 !=0)=true by simp;omega]
  rfl
 ·rw[af1 hc,show(((p/18446744073709551616:Nat):Int)/65536 !=0)=false by simp;omega,aev (by omega) (by omega),show p/18446744073709551616*281474976710656+p%18446744073709551616/65536=p/65536 by omega]
  have hdm:=Nat.div_add_mod p 65536
  have hml:=aiJ p (show 65536>0 by decide)
  have hru:(p+65535)/65536=if p%65536=0 then p/65536 else p/65536+1:=by split<;>omega
  rw[hru]
  clear hru
  generalize p/65536=q at*
  generalize p%65536=m at*
  have e1:decide ((q:Int)>2305843009213693952)=decide (q>2305843009213693952):=ahe.2 (by omega)
  rw[e1]
  by_cases hd:q>2305843009213693952
  ·rw[afZ hd]
   rfl
  rw[af1 hd,aP (x:=(q:Int)) (by omega) (by omega),aP (x:=(q:Int)+1) (by omega) (by omega),aP (x:=0-(q:Int)) (by omega) (by omega),aP (x:=0-((q:Int)+1)) (by omega) (by omega)]
  have e2:((m:Int) !=0)=!decide (m=0):=by by_cases h:m=0<;>simp[h]
  have e3:decide (0-(q:Int)≥ -2305843009213693952)=true:=afZ (by omega)
  have e4:decide (0-(q:Int)≤2305843009213693952)=true:=afZ (by omega)
  have e5:decide ((q:Int)≥ -2305843009213693952)=true:=afZ (by omega)
  have e6:decide ((q:Int)≤2305843009213693952)=true:=afZ (by omega)
  have e7:decide (0-((q:Int)+1)≥ -2305843009213693952)=decide (q+1≤2305843009213693952):=ahe.2 (by omega)
  have e8:decide ((q:Int)+1≤2305843009213693952)=decide (q+1≤2305843009213693952):=ahe.2 (by omega)
  have e9:decide (q≤2305843009213693952)=true:=afZ (by omega)
  rw[e2,e3,e4,e5,e6,e7,e8]
  have f2:((q+1:Nat):Int)=(q:Int)+1:=by omega
  have f3:decide (m=0)=true→m=0:=af2
  have f4:decide (m=0)=false→m≠0:=agK
  generalize decide (m=0)=d2 at*
  generalize (decide (x<0)==decide (y<0))=d3 at*
  cases d2
  ·rw[agk (f4 rfl),f2]
   generalize decide (q+1≤2305843009213693952)=d4 at*
   cases d3<;>cases d4<;>simp
  ·rw[agu (f3 rfl),e9]
   cases d3<;>simp
def aZ(r:Rt):Iv×Bool:=
 bif !(frF r.1).2||decide (r.2.1=0)then frF r.1
 else bif !(frF r.2.1).2||!(frF r.2.2).2||decide (r.2.2<0)then(iv0,false)
 else bif !(sqF (frF r.2.2).1).2 then(iv0,false)
 else bif !(ct (frF r.2.1).1 (sqF (frF r.2.2).1).1).2 then(iv0,false)
 else dl (frF r.1).1 (ct (frF r.2.1).1 (sqF (frF r.2.2).1).1).1
def iU(n:Rat)(a:Iv)(k:Bool):Iv×Bool:=bif !k||!(frF n).2 then(iv0,false)else ct (frF n).1 a
def apF(a b:Rt):Int×Bool:=
 bif !(aZ a).2||!(aZ b).2 then(0,false)else bif decide ((aZ a).1.2<(aZ b).1.1)then(-1,true)else bif decide ((aZ a).1.1>(aZ b).1.2)then(1,true)else(0,false)
abbrev Pt:=Rat×Rat×Rat×Rat×Rat
abbrev Ln:=Rat×Rat×Rat
def pxR(p:Pt):Rt:=(p.1,p.2.1,p.2.2.2.2)
def pyR(p:Pt):Rt:=(p.2.2.1,p.2.2.2.1,p.2.2.2.2)
def vL(l:Ln)(p:Pt):Int×Bool:=
 bif !(iU l.1 (aZ (pxR p)).1 (aZ (pxR p)).2).2||!(iU l.2.1 (aZ (pyR p)).1 (aZ (pyR p)).2).2||!(frF l.2.2).2 then(0,false)
 else bif !(dl (iU l.1 (aZ (pxR p)).1 (aZ (pxR p)).2).1 (iU l.2.1 (aZ (pyR p)).1 (aZ (pyR p)).2).1).2 then(0,false)
 else bif !(dl (dl (iU l.1 (aZ (pxR p)).1 (aZ (pxR p)).2).1 (iU l.2.1 (aZ (pyR p)).1 (aZ (pyR p)).2).1).1 (lm (frF l.2.2).1)).2 then(0,false)
 else sgF (dl (dl (iU l.1 (aZ (pxR p)).1 (aZ (pxR p)).2).1 (iU l.2.1 (aZ (pyR p)).1 (aZ (pyR p)).2).1).1 (lm (frF l.2.2).1)).1
def eK(r:Rt)(q:Rat):Iv×Bool:=bif !(aZ r).2||!(frF q).2 then(iv0,false)else dl (aZ r).1 (lm (frF q).1)
def rh(c:Ln)(p:Pt):Int×Bool:=
 bif !(eK (pxR p) c.1).2||!(eK (pyR p) c.2.1).2||!(frF c.2.2).2 then(0,false)
 else bif !(ct (eK (pxR p) c.1).1 (eK (pxR p) c.1).1).2||!(ct (eK (pyR p) c.2.1).1 (eK (pyR p) c.2.1).1).2 then(0,false)
 else bif !(dl (ct (eK (pxR p) c.1).1 (eK (pxR p) c.1).1).1 (ct (eK (pyR p) c.2.1).1 (eK (pyR p) c.2.1).1).1).2 then(0,false)
 else bif !(dl (dl (ct (eK (pxR p) c.1).1 (eK (pxR p) c.1).1).1 (ct (eK (pyR p) c.2.1).1 (eK (pyR p) c.2.1).1).1).1 (lm (frF c.2.2).1)).2 then(0,false)
 else sgF (dl (dl (ct (eK (pxR p) c.1).1 (eK (pxR p) c.1).1).1 (ct (eK (pyR p) c.2.1).1 (eK (pyR p) c.2.1).1).1).1 (lm (frF c.2.2).1)).1
def sfF(m:Rat):Iv:=(sqF (frF m).1).1
def mfF(b:Rat)(i:Iv):Iv:=(ct (frF b).1 i).1
def qu1(q:Qd):Bool:=(frF q.2.2.2.2.1).2&&(sqF (frF q.2.2.2.2.1).1).2&&(frF q.2.2.2.2.2).2&&(sqF (frF q.2.2.2.2.2).1).2
def qu2(q:Qd):Bool:=(frF q.2.1).2&&(ct (frF q.2.1).1 (sfF q.2.2.2.2.1)).2&&(frF q.2.2.1).2&&(ct (frF q.2.2.1).1 (sfF q.2.2.2.2.2)).2&&(frF q.2.2.2.1).2&&(ct (sfF q.2.2.2.2.1) (sfF q.2.2.2.2.2)).2&&(ct (frF q.2.2.2.1).1 (ct (sfF q.2.2.2.2.1) (sfF q.2.2.2.2.2)).1).2
def quA(q:Qd):Iv×Bool:=dl (frF q.1).1 (mfF q.2.1 (sfF q.2.2.2.2.1))
def quB(q:Qd):Iv×Bool:=dl (mfF q.2.2.1 (sfF q.2.2.2.2.2)) (mfF q.2.2.2.1 (ct (sfF q.2.2.2.2.1) (sfF q.2.2.2.2.2)).1)
def qu3(q:Qd):Bool:=(frF q.1).2&&(quA q).2&&(quB q).2&&(dl (quA q).1 (quB q).1).2
def quF(q:Qd):Int×Bool:=bif !(qu1 q)then(0,false)else bif !(qu2 q)then(0,false)else bif !(qu3 q)then(0,false)else sgF (dl (quA q).1 (quB q).1).1
theorem vF(r:Rt):prI (aZ r).1:=by
 unfold aZ
 cases !(frF r.1).2||decide (r.2.1=0)
 ·cases !(frF r.2.1).2||!(frF r.2.2).2||decide (r.2.2<0)
  ·cases !(sqF (frF r.2.2).1).2
   ·cases !(ct (frF r.2.1).1 (sqF (frF r.2.2).1).1).2
    ·exact RE.addF_pr (RE.frF_pr _) (qt _ _)
    ·exact fj
   ·exact fj
  ·exact fj
 ·exact RE.frF_pr _
theorem PN(n:Rat)(a:Iv)(k:Bool):prI (iU n a k).1:=by
 unfold iU
 cases !k||!(frF n).2
 ·exact qt _ _
 ·exact fj
theorem P4(r:Rt)(q:Rat):prI (eK r q).1:=by
 unfold eK
 cases !(aZ r).2||!(frF q).2
 ·exact RE.addF_pr (vF _) (RE.negF_pr (RE.frF_pr _))
 ·exact fj
namespace RE
theorem mW{r:Rt}(h:(aZ r).2=true):inI (aZ r).1 (v2 r.1 r.2.1 r.2.2):=by
 unfold aZ at h ⊢
 cases e1:(frF r.1).2
 ·rw[e1]at h
  simp only[Bool.not_false,Bool.true_or,agd]at h
  rw[e1]at h
  cases h
 ·rw[e1]at h
  by_cases hb:r.2.1=0
  ·rw[afZ hb]at h ⊢
   simp only[Bool.not_true,Bool.false_or,agd]
   unfold v2
   rw[hb,qx,zero_mul,add_zero]
   exact gI e1
  ·rw[af1 hb]at h ⊢
   cases e2:(frF r.2.1).2<;>cases e3:(frF r.2.2).2<;>cases e4:decide (r.2.2<0)<;>rw[e2,e3,e4]at h<;>try (cases h;done)
   cases e5:(sqF (frF r.2.2).1).2<;>rw[e5]at h<;>try (cases h;done)
   cases e6:(ct (frF r.2.1).1 (sqF (frF r.2.2).1).1).2<;>rw[e6]at h<;>try (cases h;done)
   have hn:(0:RE)≤of r.2.2:=iZ.2 (by have:=agK e4;grind)
   exact jb (gI e1) (kb (gI e2) (vp (gI e3) hn e5) e6) h
theorem Eo{n:Rat}{a:Iv}{k:Bool}{x:RE}(ha:k=true→inI a x)(h:(iU n a k).2=true):inI (iU n a k).1 (of n*x):=by
 unfold iU at h ⊢
 cases k
 ·cases h
 ·cases e:(frF n).2<;>rw[e]at h
  ·cases h
  ·exact kb (gI e) (ha rfl) h
theorem E8{r:Rt}{q:Rat}(h:(eK r q).2=true):inI (eK r q).1 (v2 r.1 r.2.1 r.2.2+ -of q):=by
 unfold eK at h ⊢
 cases e1:(aZ r).2<;>cases e2:(frF q).2<;>rw[e1,e2]at h<;>try (cases h;done)
 exact jb (mW e1) (yq (gI e2)) h
theorem OT(x y:RE)(h1:x<y):x-y<0:=by grind
theorem adb(u x y a b:RE):((b-(a)))+((a-(u*x)))+((u*y-(b)))+((u-(0))*(x-(y)))=0:=by grind
theorem ap1(u x y a b:RE)(h1:0<u)(h2:u*x≤a)(h3:a<b)(h4:b≤u*y):x<y:=uX.1 fun hg=>far (a8 (a8 (a8 (bH h3) (aQ h2)) (aQ h4)) (cB (le_of_lt (bH h1)) (aQ hg))) (adb u x y a b)
theorem apF_ok{a b:Rt}(h:(apF a b).2=true):(apF a b).1=sg (vR a-vR b):=by
 unfold apF at h ⊢
 cases e1:(aZ a).2<;>cases e2:(aZ b).2<;>rw[e1,e2]at h<;>try (cases h;done)
 obtain⟨a1,a2⟩:=mW e1
 obtain⟨b1,b2⟩:=mW e2
 cases e3:decide ((aZ a).1.2<(aZ b).1.1)<;>rw[e3]at h
 ·cases e4:decide ((aZ a).1.1>(aZ b).1.2)<;>rw[e4]at h
  ·cases h
  ·have h4:of ((aZ b).1.2:Rat)<of ((aZ a).1.1:Rat):=lc (aij.2 (af2 e4))
   exact(dE (bH (ap1 _ _ _ _ _ ma b2 h4 a1))).symm
 ·have h4:of ((aZ a).1.2:Rat)<of ((aZ b).1.1:Rat):=lc (aij.2 (af2 e3))
  exact(iM (OT _ _ (ap1 _ _ _ _ _ ma a2 h4 b1))).symm
theorem Qc{l:Ln}{p:Pt}(h:(vL l p).2=true):(vL l p).1=sg (of l.1*v2 p.1 p.2.1 p.2.2.2.2+of l.2.1*v2 p.2.2.1 p.2.2.2.1 p.2.2.2.2+ -of l.2.2):=by
 unfold vL at h ⊢
 cases e1:(iU l.1 (aZ (pxR p)).1 (aZ (pxR p)).2).2<;>cases e2:(iU l.2.1 (aZ (pyR p)).1 (aZ (pyR p)).2).2<;>cases e3:(frF l.2.2).2<;>rw[e1,e2,e3]at h<;>try (cases h;done)
 have i1:=Eo (x:=v2 p.1 p.2.1 p.2.2.2.2) (fun e=>mW (r:=pxR p) e) e1
 have i2:=Eo (x:=v2 p.2.2.1 p.2.2.2.1 p.2.2.2.2) (fun e=>mW (r:=pyR p) e) e2
 revert h i1 i2
 generalize iU l.1 (aZ (pxR p)).1 (aZ (pxR p)).2=X
 generalize iU l.2.1 (aZ (pyR p)).1 (aZ (pyR p)).2=Y
 intro h i1 i2
 cases e4:(dl X.1 Y.1).2<;>rw[e4]at h<;>try (cases h;done)
 cases e5:(dl (dl X.1 Y.1).1 (lm (frF l.2.2).1)).2<;>rw[e5]at h<;>try (cases h;done)
 exact Db (jb (jb i1 i2 e4) (yq (gI e3)) e5) h
theorem P0{c:Ln}{p:Pt}(h:(rh c p).2=true):(rh c p).1=sg ((v2 p.1 p.2.1 p.2.2.2.2+ -of c.1)*(v2 p.1 p.2.1 p.2.2.2.2+ -of c.1)+(v2 p.2.2.1 p.2.2.2.1 p.2.2.2.2+ -of c.2.1)*(v2 p.2.2.1 p.2.2.2.1 p.2.2.2.2+ -of c.2.1)+ -of c.2.2):=by
 unfold rh at h ⊢
 cases e1:(eK (pxR p) c.1).2<;>cases e2:(eK (pyR p) c.2.1).2<;>cases e3:(frF c.2.2).2<;>rw[e1,e2,e3]at h<;>try (cases h;done)
 have i1:=E8 e1
 have i2:=E8 e2
 revert h
 generalize eK (pxR p) c.1=X at*
 generalize eK (pyR p) c.2.1=Y at*
 intro h
 cases e4:(ct X.1 X.1).2<;>cases e5:(ct Y.1 Y.1).2<;>rw[e4,e5]at h<;>try (cases h;done)
 cases e6:(dl (ct X.1 X.1).1 (ct Y.1 Y.1).1).2<;>rw[e6]at h<;>try (cases h;done)
 cases e7:(dl (dl (ct X.1 X.1).1 (ct Y.1 Y.1).1).1 (lm (frF c.2.2).1)).2<;>rw[e7]at h<;>try (cases h;done)
 exact Db (jb (jb (kb i1 i1 e4) (kb i2 i2 e5) e6) (yq (gI e3)) e7) h
theorem aap(a b c d:RE):a+b+(c+d)=a+b+c+d:=by grind
theorem quF_ok{q:Qd}(hM:0≤q.2.2.2.2.1)(hN:0≤q.2.2.2.2.2)(h:(quF q).2=true):(quF q).1=sg (vQ q.1 q.2.1 q.2.2.1 q.2.2.2.1 q.2.2.2.2.1 q.2.2.2.2.2):=by
 unfold quF at h ⊢
 cases e1:qu1 q<;>rw[e1]at h<;>try (cases h;done)
 cases e2:qu2 q<;>rw[e2]at h<;>try (cases h;done)
 cases e3:qu3 q<;>rw[e3]at h<;>try (cases h;done)
 unfold qu1 at e1
 unfold qu2 at e2
 unfold qu3 at e3
 simp only[af3]at e1 e2 e3
 obtain⟨⟨⟨a1,a2⟩,a3⟩,a4⟩:=e1
 obtain⟨⟨⟨⟨⟨⟨b1,b2⟩,b3⟩,b4⟩,b5⟩,b6⟩,b7⟩:=e2
 obtain⟨⟨⟨c1,c2⟩,c3⟩,c4⟩:=e3
 have i1:inI (sfF q.2.2.2.2.1) (rq q.2.2.2.2.1):=vp (gI a1) (iZ.2 hM) a2
 have i2:inI (sfF q.2.2.2.2.2) (rq q.2.2.2.2.2):=vp (gI a3) (iZ.2 hN) a4
 have hq:inI (dl (quA q).1 (quB q).1).1 (vQ q.1 q.2.1 q.2.2.1 q.2.2.2.1 q.2.2.2.2.1 q.2.2.2.2.2):=by
  have:=jb (jb (gI c1) (kb (gI b1) i1 b2) c2) (jb (kb (gI b3) i2 b4) (kb (gI b5) (kb i1 i2 b6) b7) c3) c4
  rw[aap]at this
  exact this
 exact Db hq h
end RE
end Go.Proofs.YtnkndpoojnflmaaGreat
end
