/- integer: Sqrt, Int64. -/
import Derived.Test.YtlahabkjhgkkjaaGreatW9
noncomputable section
namespace Go.Proofs.YtlahabkjhgkkjaaGreat
open Go.RowKit Go.IntKind
def qh:Nat→Nat→Nat
 |0,_=>0
 |f+1,n=>bif decide (n=0)then 0 else bif decide ((2*qh f (n/4)+1)*(2*qh f (n/4)+1)≤n)then 2*qh f (n/4)+1 else 2*qh f (n/4)
def AB(n:Nat):Nat:=qh (n.log2+1) n
theorem HD:∀(f n:Nat),n<2^f→qh f n*qh f n≤n∧n<(qh f n+1)*(qh f n+1)
 |0,n,h=>by
  have:n=0:=by simpa using h
  subst this
  exact⟨aqE _,by decide⟩
 |f+1,n,h=>by
  rcases aq3 n with h0|h0
  ·subst h0
   show qh (f+1) 0*qh (f+1) 0≤0∧_
   exact⟨aqE _,by show 0<(0+1)*(0+1);decide⟩
  ·have h4:n/4<2^f:=by
    rw[Nat.pow_succ]at h
    omega
   obtain⟨h1,h2⟩:=HD f (n/4) h4
   simp only[qh]
   rw[aqu (show ¬n=0 by omega)]
   generalize qh f (n/4)=s at h1 h2
   have e1:(2*s)*(2*s)=4*(s*s):=by grind
   have e2:(2*s+1+1)*(2*s+1+1)=4*((s+1)*(s+1)):=by grind
   by_cases hc:(2*s+1)*(2*s+1)≤n
   ·rw[aqs hc]
    exact⟨hc,by show n<(2*s+1+1)*(2*s+1+1);rw[e2];omega⟩
   ·rw[aqu hc]
    exact⟨by show(2*s)*(2*s)≤n;rw[e1];omega,by show n<(2*s+1)*(2*s+1);omega⟩
theorem Yy(n:Nat):AB n*AB n≤n∧n<(AB n+1)*(AB n+1):=HD _ n Nat.lt_log2_self
def bK(z:Int):Int:=(AB z.toNat:Int)
theorem fa{z:Int}(h:0≤z):0≤bK z∧bK z*bK z≤z∧z<(bK z+1)*(bK z+1):=by
 obtain⟨h1,h2⟩:=Yy z.toNat
 unfold bK
 have h3:((AB z.toNat*AB z.toNat:Nat):Int)≤(z.toNat:Int):=by omega
 have h4:(z.toNat:Int)<(((AB z.toNat+1)*(AB z.toNat+1):Nat):Int):=by omega
 rw[arQ]at h3 h4
 exact⟨by omega,by omega,by simp only[Int.natCast_add,Int.natCast_one]at h4;omega⟩
theorem pL{a b:Int}(ha:0≤a)(h:a≤b):a*a≤b*b:=asr h h ha (by omega)
theorem sq_lt{a b:Int}(hb:0≤b)(h:a*a<b*b):a<b:=by
 apply aqN
 intro hc
 have:=pL hb (show b≤a by omega)
 omega
theorem aad{z s:Int}(h0:0≤s)(h1:s*s≤z)(h2:z<(s+1)*(s+1)):bK z=s:=by
 obtain⟨g0,g1,g2⟩:=fa (show 0≤z by have:=pL (a:=0) (by omega) h0;omega)
 have a1:=sq_lt (b:=s+1) (a:=bK z) (by omega) (by omega)
 have a2:=sq_lt (b:=bK z+1) (a:=s) (by omega) (by omega)
 omega
theorem UU{a x s:Int}(hx:0<x)(_hs:0≤s)(h1:s*s≤a):s≤(x+a/x)/2:=by
 have hq:=arg a x
 have hm:=aq4 a hx
 apply aqN
 intro hc
 have h2:a/x≤2*s-x-1:=by omega
 have h3:x*(a/x)≤x*(2*s-x-1):=aqH h2 (by omega)
 have h4:0≤(s-x)*(s-x):=by
  rcases Int.le_total 0 (s-x)with h|h
  ·exact arq h h
  ·exact Int.mul_nonneg_of_nonpos_of_nonpos h h
 grind
theorem un{a x s:Int}(hx:0<x)(hs:s≤x)(_h1:s*s≤a)(h2:a<(s+1)*(s+1))(h3:0≤s)(h:x≤(x+a/x)/2):x=s:=by
 have hq:=arg a x
 have hm:=arD a (show x≠0 by omega)
 have h4:x≤a/x:=by omega
 have h5:x*x≤x*(a/x):=aqH h4 (by omega)
 have:=sq_lt (a:=x) (b:=s+1) (by omega) (by omega)
 omega
def em(x:BI):BI:=bif x.1 then(false,[])else ai (bK (ae x))
def pI(x:BI):Int:=bif x.1 then 7 else 0
def ze:Env:=[(160,lV),(183,nU),(222,lW),(226,uw),(287,Ah)]
theorem tw:EnvAll Tryz.prog ze:=⟨iF,kf,iR,oM,vS,trivial⟩
def adV:NT:=[((288,25),{keep:=[1,2,5,6],hl:=6})]
def GB:Ctx:=CX ze adV
def kH(x:Bool×List Int)(b4_0:Bool)(b4_1:List Int):Cfg:=⟨288,[.blk 0],[(1,.box 0 0),(2,.box 1 0),(5,.box 4 0),(6,.box 5 0)],[.box 33 [SB x.1,.d atA x.2],.box 33 [SB false,.nil],.gone,.row 183 atC ([1]),.box 33 [SB b4_0,.d atA b4_1],.box 33 [SB ((ai (2:Int)).1),.d atA ((ai (2:Int)).2)]],0,[]⟩
def HF(x:Bool×List Int)(k:KT):Option (List RV):=match x.1 with|true=>some [RV.d y2Y (false,[]),RV.d atB 7]|false=>(match(x.2.length:Int)==0 with|true=>some [RV.d y2Y (false,[]),RV.d atB 0]|false=>(match decide ((0:Int)≤i64.wrap (Int.tdiv (i64.wrap ((x.2.length:Int)+1)) 2)∧(i64.wrap (Int.tdiv (i64.wrap ((x.2.length:Int)+1)) 2))*((4:Nat):Int)≤140737488355328∧i64.wrap (Int.tdiv (i64.wrap ((x.2.length:Int)+1)) 2)≤140737488355328)with|true=>(match decide (((List.replicate (i64.wrap (Int.tdiv (i64.wrap ((x.2.length:Int)+1)) 2)).toNat (0:Int)).length+([1]).length)*4≤140737488355328∧(List.replicate (i64.wrap (Int.tdiv (i64.wrap ((x.2.length:Int)+1)) 2)).toNat (0:Int)).length+([1]).length≤140737488355328)with|true=>(match decide (a9 ((List.replicate (i64.wrap (Int.tdiv (i64.wrap ((x.2.length:Int)+1)) 2)).toNat (0:Int))++([1])))with|true=>(match decide (aX (2:Int))with|true=>k 25 (kH x ((ai (bZ false (val ((List.replicate (i64.wrap (Int.tdiv (i64.wrap ((x.2.length:Int)+1)) 2)).toNat (0:Int))++([1]))))).1) ((ai (bZ false (val ((List.replicate (i64.wrap (Int.tdiv (i64.wrap ((x.2.length:Int)+1)) 2)).toNat (0:Int))++([1]))))).2))|false=>none)|false=>none)|false=>none)|false=>none))
theorem Mt(x:Bool×List Int):RS GB 288 [.d y2Y x] (HF x):=rsX
def qg(x:Bool×List Int)(b4_0:Bool)(b4_1:List Int)(k:KT):Option (List RV):=match decide (dZ x (b4_0,b4_1))with|true=>cg (match decide (okI (b4_0,b4_1)∧okI (ai (ae x/ae (b4_0,b4_1))))with|true=>cg (match decide (dZ (ai (ae (b4_0,b4_1)+ae (ai (ae x/ae (b4_0,b4_1))))) (ai (2:Int)))with|true=>dup (.b .l .l) (match decide (okI (ai (ae (ai (ae (b4_0,b4_1)+ae (ai (ae x/ae (b4_0,b4_1)))))/ae (ai (2:Int))))∧okI (b4_0,b4_1))with|true=>(match decide ((ce (ae (ai (ae (ai (ae (b4_0,b4_1)+ae (ai (ae x/ae (b4_0,b4_1)))))/ae (ai (2:Int))))) (ae (b4_0,b4_1)))≥0)with|true=>some [RV.d y2Y (b4_0,b4_1),RV.d atB 0]|false=>k 25 (kH x ((ai (ae (ai (ae (b4_0,b4_1)+ae (ai (ae x/ae (b4_0,b4_1)))))/ae (ai (2:Int)))).1) ((ai (ae (ai (ae (b4_0,b4_1)+ae (ai (ae x/ae (b4_0,b4_1)))))/ae (ai (2:Int)))).2)))|false=>none)|false=>none) (dup (.b (.b .l .l) (.b .l .l)) (match decide (dZ (ai (ae (b4_0,b4_1)+ae (ai (ae x/ae (b4_0,b4_1))))) (ai (2:Int)))with|true=>(match decide (okI (ai (ae (ai (ae (b4_0,b4_1)+ae (ai (ae x/ae (b4_0,b4_1)))))/ae (ai (2:Int))))∧okI (b4_0,b4_1))with|true=>(match decide ((ce (ae (ai (ae (ai (ae (b4_0,b4_1)+ae (ai (ae x/ae (b4_0,b4_1)))))/ae (ai (2:Int))))) (ae (b4_0,b4_1)))≥0)with|true=>some [RV.d y2Y (b4_0,b4_1),RV.d atB 0]|false=>k 25 (kH x ((ai (ae (ai (ae (b4_0,b4_1)+ae (ai (ae x/ae (b4_0,b4_1)))))/ae (ai (2:Int)))).1) ((ai (ae (ai (ae (b4_0,b4_1)+ae (ai (ae x/ae (b4_0,b4_1)))))/ae (ai (2:Int)))).2)))|false=>none)|false=>none))|false=>none) (dup (.b .l .l) (cg (match decide (okI (b4_0,b4_1)∧okI (ai (ae x/ae (b4_0,b4_1))))with|true=>dup (.b .l .l) (match decide (dZ (ai (ae (b4_0,b4_1)+ae (ai (ae x/ae (b4_0,b4_1))))) (ai (2:Int)))with|true=>(match decide (okI (ai (ae (ai (ae (b4_0,b4_1)+ae (ai (ae x/ae (b4_0,b4_1)))))/ae (ai (2:Int))))∧okI (b4_0,b4_1))with|true=>(match decide ((ce (ae (ai (ae (ai (ae (b4_0,b4_1)+ae (ai (ae x/ae (b4_0,b4_1)))))/ae (ai (2:Int))))) (ae (b4_0,b4_1)))≥0)with|true=>some [RV.d y2Y (b4_0,b4_1),RV.d atB 0]|false=>k 25 (kH x ((ai (ae (ai (ae (b4_0,b4_1)+ae (ai (ae x/ae (b4_0,b4_1)))))/ae (ai (2:Int)))).1) ((ai (ae (ai (ae (b4_0,b4_1)+ae (ai (ae x/ae (b4_0,b4_1)))))/ae (ai (2:Int)))).2)))|false=>none)|false=>none)|false=>none) (match decide (okI (b4_0,b4_1)∧okI (ai (ae x/ae (b4_0,b4_1))))with|true=>(match decide (dZ (ai (ae (b4_0,b4_1)+ae (ai (ae x/ae (b4_0,b4_1))))) (ai (2:Int)))with|true=>(match decide (okI (ai (ae (ai (ae (b4_0,b4_1)+ae (ai (ae x/ae (b4_0,b4_1)))))/ae (ai (2:Int))))∧okI (b4_0,b4_1))with|true=>(match decide ((ce (ae (ai (ae (ai (ae (b4_0,b4_1)+ae (ai (ae x/ae (b4_0,b4_1)))))/ae (ai (2:Int))))) (ae (b4_0,b4_1)))≥0)with|true=>some [RV.d y2Y (b4_0,b4_1),RV.d atB 0]|false=>k 25 (kH x ((ai (ae (ai (ae (b4_0,b4_1)+ae (ai (ae x/ae (b4_0,b4_1)))))/ae (ai (2:Int)))).1) ((ai (ae (ai (ae (b4_0,b4_1)+ae (ai (ae x/ae (b4_0,b4_1)))))/ae (ai (2:Int)))).2)))|false=>none)|false=>none)|false=>none)))|false=>none
theorem wH(x:Bool×List Int)(b4_0:Bool)(b4_1:List Int):RN GB 25 (kH x b4_0 b4_1) (qg x b4_0 b4_1):=rnX
def aeV:NT:=[((295,16),{keep:=[1,4,5],hl:=1})]
def GC:Ctx:=CX ze aeV
def sQ(x:Bool×List Int)(s4 s5:Int):Cfg:=⟨295,[.blk 0,.seq 27],[(1,.box 0 0),(4,.d (.int .u64) s4),(5,SI s5)],[.box 33 [SB x.1,.d atA x.2]],0,[]⟩
def HX(x:Bool×List Int)(k:KT):Option (List RV):=match decide (aX ((-9223372036854775808):Int))with|true=>(match decide (okI x∧okI (ai ((-9223372036854775808):Int)))with|true=>dup (.b .l .l) (match decide ((ce (ae x) (ae (ai ((-9223372036854775808):Int))))<0)with|true=>some [RV.d atB 0,RV.d .bool false]|false=>(match decide (aX (9223372036854775807:Int))with|true=>(match decide (okI x∧okI (ai (9223372036854775807:Int)))with|true=>(match decide ((ce (ae x) (ae (ai (9223372036854775807:Int))))>0)with|true=>some [RV.d atB 0,RV.d .bool false]|false=>k 16 (sQ x 0 (i64.wrap ((x.2.length:Int)-1))))|false=>none)|false=>none))|false=>none)|false=>none
theorem TO(x:Bool×List Int):RS GC 295 [.d y2Y x] (HX x):=rsX
def qQ(x:Bool×List Int)(s4 s5:Int)(k:KT):Option (List RV):=match decide (s5≥0)with|true=>(match bu x.2 s5 with|some x1=>k 16 (sQ x (u64.wrap ((u64.wrap (s4*1000000000))+(u64.wrap x1))) (i64.wrap (s5-1)))|none=>none)|false=>(match x.1 with|true=>some [RV.d atB (i64.wrap (u64.wrap (0-s4))),RV.d .bool true]|false=>some [RV.d atB (i64.wrap s4),RV.d .bool true])
theorem wL(x:Bool×List Int)(s4 s5:Int):RN GC 16 (sQ x s4 s5) (qQ x s4 s5):=rnX
theorem LM(x:BI)(hx:okI x)(h0:0<ae x):∀(m:Nat) (X:Int),X.toNat=m→0<X→bK (ae x)≤X→szI X≤900000→GB.Runs 25 (kH x (ai X).1 (ai X).2) [.d y2Y (ai (bK (ae x))),.d atB 0]:=by
 intro m
 induction m using Nat.strongRecOn with
 |ind m ih=>
  intro X hm hX hs hsz
  obtain⟨g0,g1,g2⟩:=fa (aq2 h0)
  have hq0:0≤ae x/X:=ary (by omega) (by omega)
  have hq1:ae x/X≤ae x:=asf _ (by omega)
  have oX:okI (ai X):=bk (by omega)
  have sq:szI (ae x/X)≤1000000:=aqM (cU (by omega)) (gg hx)
  have p1:dZ x (ai X):=⟨hx,oX,by rw[dec_enc];exact hX⟩
  have ssum:szI (X+ae x/X)≤1000000:=by
   have b1:=kP hsz
   have b2:=kP (gg hx)
   have e:pw 1000000=pw 900000*pw 100000:=by rw[←eo]
   have p9:(1000:Int)≤pw 100000:=by
    have:pw 100000=pw 99999*1000000000:=b8 99999
    have:=bU 99999
    omega
   have p8:=bU 900000
   have h8:pw 900000*1000≤pw 900000*pw 100000:=aqH p9 (by omega)
   rcases aqX X 2 with hX1|hX1
   ·-- X=1:then the number is less than 4
    have:X=1:=by omega
    subst this
    have:bK (ae x)≤1:=hs
    have h4:ae x<4:=by
     have:=pL (a:=bK (ae x)+1) (b:=2) (by omega) (by omega)
     omega
    refine d7 ?_ ?_<;>(rw[e,Int.ediv_one];omega)
   ·have hq2:ae x/X≤ae x/2:=by
     have:=Int.ediv_mul_le (ae x) (show X≠0 by omega)
     have h2:ae x/X*2≤ae x/X*X:=aqH hX1 hq0
     omega
    refine d7 ?_ ?_<;>(rw[e]at b2 ⊢;omega)
  have o1:okI (ai X)∧okI (ai (ae x/X)):=⟨oX,bk sq⟩
  have p2:dZ (ai (X+ae x/X)) (ai 2):=⟨bk ssum,by decide,by rw[dec_enc];decide⟩
  have hn:=UU hX g0 g1
  have o2:okI (ai ((X+ae x/X)/2))∧okI (ai X):=⟨bk (aqM (cU (by omega)) ssum),oX⟩
  by_cases hc:X≤(X+ae x/X)/2
  ·have hXs:=un hX hs g1 g2 g0 hc
   refine wH _ _ _ ⟨0,?_⟩
   unfold qg
   simp only[ao,aK]
   have e:∀z:Int,((ai z).1,(ai z).2)=ai z:=fun z=>rfl
   simp only[e,dec_enc,aqs p1,aqs o1,aqs p2,aqs o2]
   have hg:decide (ce ((X+ae x/X)/2) X≥0)=true:=by
    rcases Int.lt_or_eq_of_le hc with h|h
    ·rw[cA h];rfl
    ·rw[←h,dg];rfl
   rw[hg,hXs]
  ·obtain⟨n,hN⟩:=ih ((X+ae x/X)/2).toNat (by omega) ((X+ae x/X)/2) rfl (by
    rcases aqX 0 (bK (ae x))with h|h
    ·omega
    ·exfalso
     have:bK (ae x)=0:=by omega
     rw[this]at g2
     omega) hn (aqM (cU (by omega)) hsz)
   refine wH _ _ _ ⟨n,?_⟩
   unfold qg
   simp only[ao,aK]
   have e:∀z:Int,((ai z).1,(ai z).2)=ai z:=fun z=>rfl
   simp only[e,dec_enc,aqs p1,aqs o1,aqs p2,aqs o2]
   rw[cK (by omega)]
   exact hN
theorem Y5(x:Bool×List Int)(h:okI x):Con Tryz.prog 288 [.d y2Y x] [.d y2Y (em x),.d atB (pI x)]:=by
 refine aN tw (show GB.Res _ _ _ from ?_)
 obtain⟨x0,x1,x2⟩:=co h
 have hl:=h.2.2
 cases hn:x.1
 ·by_cases hz:x.2=[]
  ·refine Mt _ ⟨0,?_⟩
   unfold HF em pI
   have:ae x=0:=by unfold ae;rw[hn,hz];rfl
   rw[hn,hz,this]
   rfl
  ·have hp:0<val x.2:=dI h.1 hz
   have hd:ae x=val x.2:=by unfold ae;rw[hn];rfl
   have hlen:=ara.2 hz
   have hk:i64.wrap (Int.tdiv (i64.wrap ((x.2.length:Int)+1)) 2)=(((x.2.length+1)/2:Nat):Int):=by
    rw[cG (by omega),fe (by omega),bi (by omega) (by omega)]
    omega
   have hv:val (List.replicate ((x.2.length+1)/2) 0++[1])=pw ((x.2.length+1)/2):=by
    rw[cX,fq,asP]
    simp[val]
   have hL:a9 (List.replicate ((x.2.length+1)/2) 0++[1]):=by
    refine⟨fun y hy=>?_,by simp;omega⟩
    rcases aq7.1 hy with hy|hy
    ·have:=List.eq_of_mem_replicate hy;omega
    ·simp at hy;omega
   have hpos:=bU ((x.2.length+1)/2)
   obtain⟨n,hN⟩:=LM x h (by omega) _ (pw ((x.2.length+1)/2)) rfl hpos (by
     obtain⟨g0,g1,g2⟩:=fa (show 0≤ae x by omega)
     have hlt:=bV h.1.1
     have hm:=cQ (show x.2.length≤(x.2.length+1)/2+(x.2.length+1)/2 by omega)
     rw[eo]at hm
     have:=sq_lt (a:=bK (ae x)) (b:=pw ((x.2.length+1)/2)) (by omega) (by omega)
     omega) (d7 (k:=900000) (by have:=bU 900000;omega) (by
      have:=cQ (show(x.2.length+1)/2+1≤900000 by omega)
      rw[b8]at this
      omega))
   refine Mt _ ⟨n,?_⟩
   unfold HF em pI
   simp only[hk]
   rw[hn,show((x.2.length:Int)==0)=false by simp;omega]
   simp only[ar8]
   rw[aqs (show(0:Int)≤(((x.2.length+1)/2:Nat):Int)∧(((x.2.length+1)/2:Nat):Int)*((4:Nat):Int)≤140737488355328∧(((x.2.length+1)/2:Nat):Int)≤140737488355328 by omega)]
   rw[aqs (show((List.replicate ((x.2.length+1)/2) (0:Int)).length+([1]:List Nat).length)*4≤140737488355328∧(List.replicate ((x.2.length+1)/2) (0:Int)).length+([1]:List Nat).length≤140737488355328 by simp;omega)]
   rw[aqs hL,aqs (show aX 2 by decide),hv]
   exact hN
 ·refine Mt _ ⟨0,?_⟩
  unfold HF em pI
  rw[hn]
  rfl
theorem CJ(x:BI)(hx:okI x)(hv:val x.2≤9223372036854775808):∀(i:Nat),i≤x.2.length→GC.Runs 16 (sQ x (val (x.2.drop i)) ((i:Int)-1)) [.d atB (i64.wrap (bif x.1 then u64.wrap (0-val x.2)else val x.2)),.d .bool true]
 |0,_=>by
  refine wL _ _ _ ⟨0,?_⟩
  unfold qQ
  rw[aqu (by omega),asg]
  cases x.1<;>rfl
 |i+1,hi=>by
  obtain⟨n,ih⟩:=CJ x hx hv i (by omega)
  have h0:=hx.2.2
  have hlim:=hx.1.1
  have hd:x.2.drop i=x.2[i]::x.2.drop (i+1):=jS (by omega)
  have hle:∀j,val (x.2.drop j)≤9223372036854775808∧0≤val (x.2.drop j):=fun j=>by
   have l1:Lim (x.2.drop j):=fun y hy=>hlim y (ast hy)
   have l2:Lim (x.2.take j):=fun y hy=>hlim y (ass hy)
   have:=cX (x.2.take j) (x.2.drop j)
   rw[arP]at this
   have n1:=aY l1
   have n2:=aY l2
   have p:=bU (x.2.take j).length
   have:val (x.2.drop j)≤pw (x.2.take j).length*val (x.2.drop j):=by
    have:=aqL (show 1≤pw (x.2.take j).length by omega) n1
    omega
   omega
  have hb:=hlim x.2[i] (ars _)
  have hv1:=hle i
  have hv2:=hle (i+1)
  rw[hd]at hv1 ih
  simp only[val]at hv1 ih
  refine wL _ _ _ ⟨n,?_⟩
  unfold qQ
  rw[show(((i+1:Nat):Int)-1)=(i:Int) by omega,aqs (by omega),aI,aqt (by omega)]
  dsimp only
  rw[bH (x:=val (x.2.drop (i+1))*1000000000) (by omega) (by omega),bH (x:=x.2[i]) (by omega) (by omega),bH (by omega) (by omega),bi (by omega) (by omega)]
  rw[show val (x.2.drop (i+1))*1000000000+x.2[i]=x.2[i]+1000000000*val (x.2.drop (i+1)) by omega]
  exact ih
theorem Yc(x:Bool×List Int)(h:okI x):Con Tryz.prog 295 [.d y2Y x] [.d atB (bif decide (aX (ae x))then ae x else 0),.d .bool (decide (aX (ae x)))]:=by
 refine aN tw (show GC.Res _ _ _ from ?_)
 obtain⟨x0,x1,x2⟩:=co h
 have o1:okI x∧okI (ai (-9223372036854775808)):=⟨h,by decide⟩
 have o2:okI x∧okI (ai 9223372036854775807):=⟨h,by decide⟩
 have hl:=h.2.2
 by_cases h1:ae x< -9223372036854775808
 ·refine TO _ ⟨0,?_⟩
  unfold HX
  simp only[aK,dec_enc,aqs o1]
  rw[aqs (show aX (-9223372036854775808) by decide),cK h1,aqu (show ¬aX (ae x) from fun g=>by have:=g.1;omega)]
  rfl
 ·have c1:decide (ce (ae x) (-9223372036854775808)<0)=false:=by
   rcases Int.lt_or_eq_of_le (show-9223372036854775808≤ae x by omega)with g|g
   ·rw[cA g];rfl
   ·rw[←g,dg];rfl
  by_cases h2:9223372036854775807<ae x
  ·refine TO _ ⟨0,?_⟩
   unfold HX
   simp only[aK,dec_enc,aqs o1,aqs o2]
   rw[aqs (show aX (-9223372036854775808) by decide),c1,aqs (show aX 9223372036854775807 by decide),cA h2,aqu (show ¬aX (ae x) from fun g=>by have:=g.2;omega)]
   rfl
  ·have c2:decide (ce (ae x) 9223372036854775807>0)=false:=by
    rcases Int.lt_or_eq_of_le (show ae x≤9223372036854775807 by omega)with g|g
    ·rw[cK g];rfl
    ·rw[g,dg];rfl
   have hp:aX (ae x):=⟨by omega,by omega⟩
   have hvv:val x.2≤9223372036854775808:=by
    have g1:=hp.1
    have g2:=hp.2
    have hd:ae x=bif x.1 then-val x.2 else val x.2:=rfl
    cases hb:x.1<;>rw[hb]at hd<;>simp only[cond_true,cond_false]at hd<;>omega
   obtain⟨n,hN⟩:=CJ x h hvv x.2.length (aqE _)
   refine TO _ ⟨n,?_⟩
   unfold HX
   simp only[aK,dec_enc,aqs o1,aqs o2]
   rw[aqs (show aX (-9223372036854775808) by decide),c1,aqs (show aX 9223372036854775807 by decide),c2,aqs hp]
   rw[asF]at hN
   rw[bi (by omega) (by omega)]
   refine hN.trans ?_
   have hr:i64.wrap (bif x.1 then u64.wrap (0-val x.2)else val x.2)=ae x:=by
    have hd:ae x=bif x.1 then-val x.2 else val x.2:=rfl
    have:=hp.1
    have:=hp.2
    cases hb:x.1<;>rw[hb]at hd<;>simp only[cond_true,cond_false]at hd ⊢
    ·rw[bi (by omega) (by omega)];omega
    ·have:=x1 hb
     rw[arj,IntKind.wrap_i64]
     omega
   rw[hr]
   rfl
def nO(a:List Int):Prop:=a9 a∧val a<18446744073709551616
instance (a:List Int):Decidable (nO a):=by unfold nO;infer_instance
def ng(a b:List Int):Prop:=(can a∧a.length≤1000000000)∧(can b∧b.length≤1000000000)
instance (a b:List Int):Decidable (ng a b):=by unfold ng;infer_instance
def fK(l:List Int):Prop:=Lim l∧l.length≤10000000
instance (l:List Int):Decidable (fK l):=by unfold fK;infer_instance
theorem ct{n:Nat}(h:(ah n).length≤1000000000):a9 (ah n):=⟨bW n,h⟩
theorem bT{v:Int}(h:0≤v):val (ah v.toNat)=v:=by rw[bI];omega
theorem cp{v:Int}{k:Nat}(h0:0≤v)(h:v<pw k):(ah v.toNat).length≤k:=cO (by omega)
def rz:Env:=[]
theorem jI:EnvAll Tryz.prog rz:=trivial
def YU:NT:=[((185,4),{keep:=[0],pure_:=[(0,.int .u32)],hl:=0})]
def AA:Ctx:=CX rz YU
def sM(s0:List Int):Cfg:=⟨185,[.blk 0,.seq 13],[(0,.d atA s0)],[],0,[]⟩
def ad9(a:List Int)(k:KT):Option (List RV):=k 4 (sM a)
theorem afd(a:List Int):RS AA 185 [.d atA a] (ad9 a):=rsX
def qp(s0:List Int)(k:KT):Option (List RV):=match decide ((s0.length:Int)>0)with|true=>(match bu s0 (i64.wrap ((s0.length:Int)-1))with|some x1=>(match x1==0 with|true=>(match decide ((0:Int)≤0∧0≤i64.wrap ((s0.length:Int)-1)∧i64.wrap ((s0.length:Int)-1)≤(s0.length:Int))with|true=>k 4 (sM ((s0.take (i64.wrap ((s0.length:Int)-1)).toNat).drop (0:Int).toNat))|false=>none)|false=>some [RV.d atA s0])|none=>none)|false=>some [RV.d atA s0]
theorem qD(s0:List Int):RN AA 4 (sM s0) (qp s0):=rnX
def VN:NT:=[((189,8),{keep:=[0,3,4],hl:=0})]
def zz:Ctx:=CX rz VN
def sS(a:List Int)(s3 s4:Int):Cfg:=⟨189,[.blk 0,.seq 19],[(0,.d atA a),(3,.d (.int .u64) s3),(4,SI s4)],[],0,[]⟩
def Qn(a:List Int)(k:KT):Option (List RV):=k 8 (sS a 0 (i64.wrap ((a.length:Int)-1)))
theorem ahm(a:List Int):RS zz 189 [.d atA a] (Qn a):=rsX
def qJ(a:List Int)(s3 s4:Int)(k:KT):Option (List RV):=match decide (s4≥0)with|true=>(match bu a s4 with|some x1=>k 8 (sS a (u64.wrap ((u64.wrap (s3*1000000000))+(u64.wrap x1))) (i64.wrap (s4-1)))|none=>none)|false=>some [RV.d (.int .u64) s3]
theorem xi(a:List Int)(s3 s4:Int):RN zz 8 (sS a s3 s4) (qJ a s3 s4):=rnX
def ZX:NT:=[((190,6),{keep:=[0,3],own:=[(3,183,.int .u32)],hl:=1})]
def z7:Ctx:=CX rz ZX
def sK(s0:Int)(r0:List Int):Cfg:=⟨190,[.blk 0,.seq 17],[(0,.d (.int .u64) s0),(3,.own 0)],[.row 183 atC r0],0,[]⟩
def ad4(u:Int)(k:KT):Option (List RV):=k 6 (sK u ([]))
theorem ah3(u:Int):RS z7 190 [.d (.int .u64) u] (ad4 u):=rsX
def qE(s0:Int)(r0:List Int)(k:KT):Option (List RV):=match decide (s0>0)with|true=>(match decide ((r0.length+([u32.wrap (Int.tmod s0 1000000000)]).length)*4≤140737488355328∧r0.length+([u32.wrap (Int.tmod s0 1000000000)]).length≤140737488355328)with|true=>k 6 (sK (u64.wrap (Int.tdiv s0 1000000000)) (r0++([u32.wrap (Int.tmod s0 1000000000)])))|false=>none)|false=>some [RV.new 183 atC r0]
theorem wC(s0:Int)(r0:List Int):RN z7 6 (sK s0 r0) (qE s0 r0):=rnX
def X5:NT:=[((186,22),{keep:=[0,1,5],hl:=0})]
def yA:Ctx:=CX rz X5
def oZ(a b:List Int)(s5:Int):Cfg:=⟨186,[.blk 0,.seq 47],[(0,.d atA a),(1,.d atA b),(5,SI s5)],[],0,[]⟩
def DL(a b:List Int)(k:KT):Option (List RV):=match(a.length:Int) !=(b.length:Int)with|true=>(match decide ((a.length:Int)<(b.length:Int))with|true=>some [RV.d atB (-1)]|false=>some [RV.d atB 1])|false=>k 22 (oZ a b (i64.wrap ((a.length:Int)-1)))
theorem Uh(a b:List Int):RS yA 186 [.d atA a,.d atA b] (DL a b):=rsX
def iL(a b:List Int)(s5:Int)(k:KT):Option (List RV):=match decide (s5≥0)with|true=>(match bu a s5 with|some x1=>(match bu b s5 with|some x2=>(match decide (x1<x2)with|true=>some [RV.d atB (-1)]|false=>(match bu a s5 with|some x3=>(match bu b s5 with|some x4=>(match decide (x3>x4)with|true=>some [RV.d atB 1]|false=>k 22 (oZ a b (i64.wrap (s5-1))))|none=>none)|none=>none))|none=>none)|none=>none)|false=>some [RV.d atB 0]
theorem kw(a b:List Int)(s5:Int):RN yA 22 (oZ a b s5) (iL a b s5):=rnX
theorem Jm(l:List Int)(hl:Lim l)(hs:l.length≤1000000000):∀(n:Nat),n≤l.length→(∀j (hj:j<l.length),n≤j→l[j]=0)→AA.Runs 4 (sM (l.take n)) [.d atA (ah (val l).toNat)]:=by
 intro n
 induction n with
 |zero=>
  intro _ h
  refine qD _ ⟨0,?_⟩
  rw[←kb hl (atl _) h (.inl rfl)]
  rfl
 |succ n ih=>
  intro hn h
  have hlen:(l.take (n+1)).length=n+1:=by rw[arb,aq0 hn]
  have hget:(l.take (n+1))[n]?=some l[n]:=by rw[List.getElem?_take_of_lt (by omega),aqt (by omega)]
  by_cases hz:l[n]=0
  ·obtain⟨q,hq⟩:=ih (by omega) fun j hj hk=>by
    rcases Nat.eq_or_lt_of_le hk with e|e
    ·subst e;exact hz
    ·exact h j hj e
   refine qD _ ⟨q,?_⟩
   unfold qp
   rw[hlen,aqs (by omega),JZ (by omega) (by omega),aI,show n+1-1=n from rfl,hget]
   dsimp only
   rw[hz,aqs (show(0:Int)≤0∧(0:Int)≤(n:Int)∧(n:Int)≤((n+1:Nat):Int) by omega),aO,List.take_take,aq0 (by omega)]
   exact hq
  ·refine qD _ ⟨0,?_⟩
   unfold qp
   rw[hlen,aqs (by omega),JZ (by omega) (by omega),aI,show n+1-1=n from rfl,hget]
   dsimp only
   rw[show(l[n]==0)=false by simpa using hz,←kb hl hn h (.inr ⟨Nat.lt_of_succ_le hn,hz⟩)]
theorem QW(a:List Int)(h:a9 a):Con Tryz.prog 185 [.d atA a] [.d atA (ah (val a).toNat)]:=by
 refine aN jI (show AA.Res _ _ _ from ?_)
 obtain⟨q,hq⟩:=Jm a h.1 h.2 a.length (aqE _) (fun j hj hk=>by omega)
 rw[arH]at hq
 exact afd _ ⟨q,hq⟩
theorem Jb(u:Nat):∀(r:List Int),(u:Int)<18446744073709551616→r.length+3≤1000+3-(ah u).length→z7.Runs 6 (sK (u:Int) r) [.new 183 atC (r++ah u)]:=by
 induction u using mS with
 |h0=>
  intro r _ _
  refine wC _ _ ⟨0,?_⟩
  unfold qE
  rw[dY,ark]
  rfl
 |h1 n hn ih=>
  intro r hu hr
  rw[fB hn]at hr
  simp only[aq1]at hr
  obtain⟨q,hq⟩:=ih (r++[((n%1000000000:Nat):Int)]) (by omega) (by rw[arN];simp only[aqZ];omega)
  refine wC _ _ ⟨q,?_⟩
  unfold qE
  rw[aqs (by omega),gI (by omega),fe (by omega),bH (x:=(n:Int)/1000000000) (by omega) (by omega),cM (x:=(n:Int)%1000000000) (by omega) (by omega)]
  simp only[aqZ]
  rw[ah4 (by omega) (by omega),fB hn]
  rw[show((n:Int)%1000000000)=((n%1000000000:Nat):Int) by omega,show((n:Int)/1000000000)=((n/1000000000:Nat):Int) by omega]
  rw[arR]at hq
  exact hq
theorem Uq(u:Int)(h:fw u):Con Tryz.prog 190 [.d (.int .u64) u] [.new 183 atC (ah u.toNat)]:=by
 refine aN jI (show z7.Res _ _ _ from ?_)
 have h0:=h.1
 have h1:=h.2
 have hl:=cO (n:=u.toNat) (k:=3) (asM (show(u.toNat:Int)<18446744073709551616 by omega) (by decide))
 obtain⟨q,hq⟩:=Jb u.toNat [] (by omega) (by simp;omega)
 rw[show((u.toNat:Nat):Int)=u by omega]at hq
 exact ah3 _ ⟨q,hq⟩
theorem yf(a:List Int)(h:nO a):∀(i:Nat),i≤a.length→zz.Runs 8 (sS a (val (a.drop i)) ((i:Int)-1)) [.d (.int .u64) (val a)]
 |0,_=>by
  refine xi _ _ _ ⟨0,?_⟩
  unfold qJ
  rw[aqu (by omega),asg]
 |i+1,hi=>by
  obtain⟨n,ih⟩:=yf a h i (by omega)
  have h0:=h.1.2
  have hlim:=h.1.1
  have hlt:=h.2
  have hd:a.drop i=a[i]::a.drop (i+1):=jS (by omega)
  have hle:∀j,val (a.drop j)≤val a∧0≤val (a.drop j):=fun j=>by
   have l1:Lim (a.drop j):=fun y hy=>hlim y (ast hy)
   have l2:Lim (a.take j):=fun y hy=>hlim y (ass hy)
   have:=cX (a.take j) (a.drop j)
   rw[arP]at this
   have n1:=aY l1
   have n2:=aY l2
   have p:=bU (a.take j).length
   have:val (a.drop j)≤pw (a.take j).length*val (a.drop j):=by
    have:=aqL (show 1≤pw (a.take j).length by omega) n1
    omega
   omega
  have hb:=hlim a[i] (ars _)
  have hv1:=hle i
  have hv2:=hle (i+1)
  rw[hd]at hv1 ih
  simp only[val]at hv1 ih
  refine xi _ _ _ ⟨n,?_⟩
  unfold qJ
  rw[show(((i+1:Nat):Int)-1)=(i:Int) by omega,aqs (by omega),aI,aqt (by omega)]
  dsimp only
  rw[bH (x:=val (a.drop (i+1))*1000000000) (by omega) (by omega),bH (x:=a[i]) (by omega) (by omega),bH (by omega) (by omega),bi (by omega) (by omega)]
  rw[show val (a.drop (i+1))*1000000000+a[i]=a[i]+1000000000*val (a.drop (i+1)) by omega]
  exact ih
theorem OJ(a:List Int)(h:nO a):Con Tryz.prog 189 [.d atA a] [.d (.int .u64) (val a)]:=by
 refine aN jI (show zz.Res _ _ _ from ?_)
 obtain⟨n,hn⟩:=yf a h a.length (aqE _)
 have h0:=h.1.2
 refine ahm _ ⟨n,?_⟩
 unfold Qn
 rw[asF]at hn
 rw[bi (by omega) (by omega)]
 exact hn
theorem J5(a b:List Int)(la:Lim a)(lb:Lim b)(hl:a.length=b.length)(hs:a.length≤1000000000):∀(n:Nat),n≤a.length→a.drop n=b.drop n→
  yA.Runs 22 (oZ a b ((n:Int)-1)) [.d atB (ce (val a) (val b))]:=by
 intro n
 induction n with
 |zero=>
  intro _ h
  refine kw _ _ _ ⟨0,?_⟩
  have e:val a=val b:=by simp only[asg]at h;rw[h]
  unfold iL
  rw[aqu (by omega),e,dg]
 |succ n ih=>
  intro hn h
  have h1:n<a.length:=by omega
  have h2:n<b.length:=by omega
  rcases ash a[n] b[n]with hc|hc|hc
  ·refine kw _ _ _ ⟨0,?_⟩
   have:=yx la lb h1 h2 h hc
   unfold iL
   rw[show((n+1:Nat):Int)-1=(n:Int) by omega,aqs (by omega),aI,aI,aqt h1,aqt h2]
   dsimp only
   rw[aqs hc,cK (by omega)]
  ·obtain⟨q,hq⟩:=ih (by omega) (by rw[aqP h1,aqP h2,hc,h])
   refine kw _ _ _ ⟨q,?_⟩
   unfold iL
   rw[show((n+1:Nat):Int)-1=(n:Int) by omega,aqs (by omega),aI,aI,aqt h1,aqt h2]
   dsimp only
   rw[aqu (by omega),aqu (by omega),bi (x:=(n:Int)-1) (by omega) (by omega)]
   exact hq
  ·refine kw _ _ _ ⟨0,?_⟩
   have:=yx lb la h2 h1 h.symm hc
   unfold iL
   rw[show((n+1:Nat):Int)-1=(n:Int) by omega,aqs (by omega),aI,aI,aqt h1,aqt h2]
   dsimp only
   rw[aqu (by omega),aqs hc,cA (by omega)]
theorem ID{a b:List Int}(ha:can a)(hb:can b)(h:a.length<b.length):val a<val b:=by
 have ea:=lD ha
 have eb:=lD hb
 have:=r9 (a:=(val a).toNat) (b:=(val b).toNat) (by rw[←ea,←eb];exact h)
 have:=aY ha.1
 omega
theorem Qq(a b:List Int)(h:ng a b):Con Tryz.prog 186 [.d atA a,.d atA b] [.d atB (ce (val a) (val b))]:=by
 refine aN jI (show yA.Res _ _ _ from ?_)
 obtain⟨⟨ha,sa⟩,hb,sb⟩:=h
 by_cases hl:a.length=b.length
 ·obtain⟨q,hq⟩:=J5 a b ha.1 hb.1 hl sa _ (aqE _) (by rw[asF,hl,asF])
  refine Uh _ _ ⟨q,?_⟩
  unfold DL
  rw[show((a.length:Int) !=(b.length:Int))=false by simp[hl],bi (x:=(a.length:Int)-1) (by omega) (by omega)]
  exact hq
 ·refine Uh _ _ ⟨0,?_⟩
  unfold DL
  rw[show((a.length:Int) !=(b.length:Int))=true by simp;omega]
  dsimp only
  rcases Nat.lt_or_gt_of_ne hl with h1|h1
  ·have:=ID ha hb h1
   rw[aqs (by omega),cK (by omega)]
  ·have:=ID hb ha h1
   rw[aqu (by omega),cA (by omega)]
def mq:aM:=spN false false [atA] (fun x=>decide (a9 x.1)) (fun x=>[RV.d atA (ah (val x.1).toNat)])
theorem jz:SpK 185 mq:=spX fun x h=>QW x.1 (aqr h)
def pc:aM:=spN false false [(.int .u64)] (fun x=>decide (fw x.1)) (fun x=>[RV.new 183 atC (ah x.1.toNat)])
theorem mE:SpK 190 pc:=spX fun x h=>Uq x.1 (aqr h)
def oD:aM:=spN true false [atA] (fun x=>decide (nO x.1)) (fun x=>[RV.d (.int .u64) (val x.1)])
theorem mw:SpK 189 oD:=spX fun x h=>OJ x.1 (aqr h)
def mj:aM:=spN true false [atA,atA] (fun x=>decide (ng x.1 x.2.1)) (fun x=>[RV.d atB (ce (val x.1) (val x.2.1))])
theorem jB:SpK 186 mj:=spX fun x h=>Qq x.1 x.2.1 (aqr h)
def uz:Env:=(185,mq)::(190,pc)::(189,oD)::(186,mj)::rz
theorem mz:EnvAll Tryz.prog uz:=⟨jz,mE,mw,jB,jI⟩
def ahQ:Ctx:=CX uz []
def NH(neg:Bool)(l:List Int)(_k:KT):Option (List RV):=match decide (a9 l)with|true=>(match neg with|true=>some [RV.d y2Y (decide (((ah (val l).toNat).length:Int)>0),ah (val l).toNat)]|false=>some [RV.d y2Y (false,ah (val l).toNat)])|false=>none
theorem ah2(neg:Bool)(l:List Int):RS ahQ 188 [SB neg,.d atA l] (NH neg l):=rsX
def ZG:NT:=[((255,16),{keep:=[0,1,5,6,7],hl:=1})]
def t9:Ctx:=CX uz ZG
def iB(s0 s1 r0:List Int)(s6 s7:Int):Cfg:=⟨255,[.blk 0,.seq 37],[(0,.d atA s0),(1,.d atA s1),(5,.own 0),(6,.d atC s6),(7,SI s7)],[.row 183 atC r0],0,[]⟩
def Fa(a b:List Int)(k:KT):Option (List RV):=match decide ((a.length:Int)<(b.length:Int))with|true=>(match decide ((0:Int)≤i64.wrap ((b.length:Int)+1)∧(i64.wrap ((b.length:Int)+1))*((4:Nat):Int)≤140737488355328∧i64.wrap ((b.length:Int)+1)≤140737488355328)with|true=>k 16 (iB b a (List.replicate (i64.wrap ((b.length:Int)+1)).toNat (0:Int)) 0 0)|false=>none)|false=>(match decide ((0:Int)≤i64.wrap ((a.length:Int)+1)∧(i64.wrap ((a.length:Int)+1))*((4:Nat):Int)≤140737488355328∧i64.wrap ((a.length:Int)+1)≤140737488355328)with|true=>k 16 (iB a b (List.replicate (i64.wrap ((a.length:Int)+1)).toNat (0:Int)) 0 0)|false=>none)
theorem Oe(a b:List Int):RS t9 255 [.d atA a,.d atA b] (Fa a b):=rsX
def kF(s0 s1 r0:List Int)(s6 s7:Int)(k:KT):Option (List RV):=match decide (s7<(s0.length:Int))with|true=>(match bu s0 s7 with|some x1=>(match decide (s7<(s1.length:Int))with|true=>(match bu s1 s7 with|some x2=>(match bu r0 s7 with|some _=>(match true,r0[(s7).toNat]? with|true,some _=>k 16 (iB s0 s1 (r0.set ((s7).toNat) (Int.tmod (u32.wrap ((u32.wrap (s6+x1))+x2)) 1000000000)) (u32.wrap (Int.tdiv (u32.wrap ((u32.wrap (s6+x1))+x2)) 1000000000)) (i64.wrap (s7+1)))|_,_=>none)|none=>none)|none=>none)|false=>(match bu r0 s7 with|some _=>(match true,r0[(s7).toNat]? with|true,some _x2=>k 16 (iB s0 s1 (r0.set ((s7).toNat) (Int.tmod (u32.wrap (s6+x1)) 1000000000)) (u32.wrap (Int.tdiv (u32.wrap (s6+x1)) 1000000000)) (i64.wrap (s7+1)))|_,_=>none)|none=>none))|none=>none)|false=>(match bu r0 (s0.length:Int)with|some _=>(match true,r0[((s0.length:Int)).toNat]? with|true,some _x1=>(match decide (a9 (r0.set (((s0.length:Int)).toNat) s6))with|true=>some [RV.d atA (ah (val (r0.set (((s0.length:Int)).toNat) s6)).toNat)]|false=>none)|_,_=>none)|none=>none)
theorem nE(s0 s1 r0:List Int)(s6 s7:Int):RN t9 16 (iB s0 s1 r0 s6 s7) (kF s0 s1 r0 s6 s7):=rnX
def ZL:NT:=[((250,10),{keep:=[0,1,5,6,7],hl:=1})]
def u7:Ctx:=CX uz ZL
def gP(a b:List Int)(s7:Int)(r0:List Int)(s6:Int):Cfg:=⟨250,[.blk 0,.seq 37],[(0,.d atA a),(1,.d atA b),(5,.own 0),(6,.d atC s6),(7,SI s7)],[.row 183 atC r0],0,[]⟩
def OP(a b:List Int)(k:KT):Option (List RV):=match decide ((0:Int)≤(a.length:Int)∧(a.length:Int)*((4:Nat):Int)≤140737488355328∧(a.length:Int)≤140737488355328)with|true=>k 10 (gP a b 0 (List.replicate ((a.length:Int)).toNat (0:Int)) 0)|false=>none
theorem ag0(a b:List Int):RS u7 250 [.d atA a,.d atA b] (OP a b):=rsX
def gf(a b:List Int)(s7:Int)(r0:List Int)(s6:Int)(k:KT):Option (List RV):=match decide (s7<(a.length:Int))with|true=>(match bu a s7 with|some x1=>(match decide (s7<(b.length:Int))with|true=>(match bu b s7 with|some x2=>(match decide ((u32.wrap ((u32.wrap ((u32.wrap (x1+1000000000))-s6))-x2))≥1000000000)with|true=>(match bu r0 s7 with|some _=>(match true,r0[(s7).toNat]? with|true,some _x3=>k 10 (gP a b (i64.wrap (s7+1)) (r0.set ((s7).toNat) (u32.wrap ((u32.wrap ((u32.wrap ((u32.wrap (x1+1000000000))-s6))-x2))-1000000000))) 0)|_,_=>none)|none=>none)|false=>(match bu r0 s7 with|some _=>(match true,r0[(s7).toNat]? with|true,some _x3=>k 10 (gP a b (i64.wrap (s7+1)) (r0.set ((s7).toNat) (u32.wrap ((u32.wrap ((u32.wrap (x1+1000000000))-s6))-x2))) 1)|_,_=>none)|none=>none))|none=>none)|false=>(match decide ((u32.wrap ((u32.wrap (x1+1000000000))-s6))≥1000000000)with|true=>(match bu r0 s7 with|some _=>(match true,r0[(s7).toNat]? with|true,some _x2=>k 10 (gP a b (i64.wrap (s7+1)) (r0.set ((s7).toNat) (u32.wrap ((u32.wrap ((u32.wrap (x1+1000000000))-s6))-1000000000))) 0)|_,_=>none)|none=>none)|false=>(match bu r0 s7 with|some _=>(match true,r0[(s7).toNat]? with|true,some _x2=>k 10 (gP a b (i64.wrap (s7+1)) (r0.set ((s7).toNat) (u32.wrap ((u32.wrap (x1+1000000000))-s6))) 1)|_,_=>none)|none=>none)))|none=>none)|false=>(match decide (a9 r0)with|true=>some [RV.d atA (ah (val r0).toNat)]|false=>none)
theorem iS(a b:List Int)(s7:Int)(r0:List Int)(s6:Int):RN u7 10 (gP a b s7 r0 s6) (gf a b s7 r0 s6):=rnX
def Y3:NT:=[((251,8),{keep:=[0,1,5,6],hl:=1}),((251,23),{keep:=[0,1,5,6,7,8],hl:=1})]
def n4:Ctx:=CX uz Y3
def oN(a b:List Int)(s6:Int)(r0:List Int):Cfg:=⟨251,[.blk 0,.seq 40],[(0,.d atA a),(1,.d atA b),(5,.own 0),(6,SI s6)],[.row 183 atC r0],0,[]⟩
def o8(a b:List Int)(s6 s7 s8:Int)(r0:List Int):Cfg:=⟨251,[.blk 2,.seq 38,.blk 1,.seq 39,.lp 8,.blk 0,.seq 40],[(0,.d atA a),(1,.d atA b),(5,.own 0),(6,SI s6),(7,.d (.int .u64) s7),(8,SI s8)],[.row 183 atC r0],0,[]⟩
def SE(a b:List Int)(k:KT):Option (List RV):=match decide ((0:Int)≤i64.wrap ((a.length:Int)+(b.length:Int))∧(i64.wrap ((a.length:Int)+(b.length:Int)))*((4:Nat):Int)≤140737488355328∧i64.wrap ((a.length:Int)+(b.length:Int))≤140737488355328)with|true=>k 8 (oN a b 0 (List.replicate (i64.wrap ((a.length:Int)+(b.length:Int))).toNat (0:Int)))|false=>none
theorem agl(a b:List Int):RS n4 251 [.d atA a,.d atA b] (SE a b):=rsX
def qY(a b:List Int)(s6:Int)(r0:List Int)(k:KT):Option (List RV):=match decide (s6<(a.length:Int))with|true=>k 23 (o8 a b s6 0 0 r0)|false=>(match decide (a9 r0)with|true=>some [RV.d atA (ah (val r0).toNat)]|false=>none)
theorem wR(a b:List Int)(s6:Int)(r0:List Int):RN n4 8 (oN a b s6 r0) (qY a b s6 r0):=rnX
def nQ(a b:List Int)(s6 s7 s8:Int)(r0:List Int)(k:KT):Option (List RV):=match decide (s8<(b.length:Int))with|true=>(match bu r0 (i64.wrap (s6+s8))with|some _=>(match true,r0[(i64.wrap (s6+s8)).toNat]? with|true,some x1=>(match bu a s6 with|some x2=>(match bu b s8 with|some x3=>(match bu r0 (i64.wrap (s6+s8))with|some _=>(match true,r0[(i64.wrap (s6+s8)).toNat]? with|true,some _=>k 23 (o8 a b s6 (u64.wrap (Int.tdiv (u64.wrap ((u64.wrap (s7+(u64.wrap x1)))+(u64.wrap ((u64.wrap x2)*(u64.wrap x3))))) 1000000000)) (i64.wrap (s8+1)) (r0.set ((i64.wrap (s6+s8)).toNat) (u32.wrap (Int.tmod (u64.wrap ((u64.wrap (s7+(u64.wrap x1)))+(u64.wrap ((u64.wrap x2)*(u64.wrap x3))))) 1000000000))))|_,_=>none)|none=>none)|none=>none)|none=>none)|_,_=>none)|none=>none)|false=>(match bu r0 (i64.wrap (s6+(b.length:Int)))with|some _=>(match true,r0[(i64.wrap (s6+(b.length:Int))).toNat]? with|true,some _x1=>k 8 (oN a b (i64.wrap (s6+1)) (r0.set ((i64.wrap (s6+(b.length:Int))).toNat) (u32.wrap s7)))|_,_=>none)|none=>none)
theorem tF(a b:List Int)(s6 s7 s8:Int)(r0:List Int):RN n4 23 (o8 a b s6 s7 s8 r0) (nQ a b s6 s7 s8 r0):=rnX
theorem RA(neg:Bool)(l:List Int)(h:a9 l):Con Tryz.prog 188 [.d .bool neg,.d atA l] [.d y2Y (ai (bZ neg (val l)))]:=by
 refine aN mz (ah2 _ _ ⟨0,?_⟩)
 have hv:=aY h.1
 have hp:decide (((ah (val l).toNat).length:Int)>0)=decide (0<val l):=by
  refine aq6.2 ⟨fun g=>?_,fun g=>?_⟩
  ·apply aqN
   intro hc
   rw[show(val l).toNat=0 by omega,dY]at g
   simp at g
  ·have:ah (val l).toNat≠[]:=fun e=>by rw[fF]at e;omega
   have:=ara.2 this
   omega
 unfold NH
 rw[aqs h,jK neg hv,hp]
 cases neg<;>rfl
theorem xC(a b:List Int)(ha:fK a)(hb:fK b)(hab:b.length≤a.length):∀(j i:Nat) (c:Int) (r:List Int),i+j=a.length→0≤c→c≤1→Lim r→r.length=a.length+1→(∀k (hk:k<r.length),i≤k→r[k]=0)→val r+pw i*c=val (a.take i)+val (b.take i)→
  t9.Runs 16 (iB a b r c (i:Int)) [.d atA (ah (val a+val b).toNat)]:=by
 have hsa:=ha.2
 intro j
 induction j with
 |zero=>
  intro i c r hi c0 c1 hr hl hz hv
  obtain rfl:i=a.length:=by omega
  have hir:a.length<r.length:=by omega
  have hr0:=hz _ hir (aqE _)
  have e:val (r.set a.length c)=val a+val b:=by
   rw[dW hir,hr0]
   rw[arH,arh hab]at hv
   grind
  refine nE _ _ _ _ _ ⟨0,?_⟩
  unfold kF
  rw[cF (aqE _),aI r,aO,aqt hir]
  dsimp only
  rw[aqs (show a9 (r.set a.length c) from⟨hr.set _ ⟨c0,by omega⟩,by simp;omega⟩),e]
 |succ j ih=>
  intro i c r hi c0 c1 hr hl hz hv
  have hia:i<a.length:=by omega
  have hir:i<r.length:=by omega
  have xa:=ha.1.get hia
  have hr0:=hz i hir (aqE _)
  have step:∀(t:Int),0≤t→t<2000000000→val (b.take (i+1))=val (b.take i)+pw i*(t-a[i]-c)→t9.Runs 16 (iB a b (r.set i (t%1000000000)) (t/1000000000) ((i+1:Nat):Int)) [.d atA (ah (val a+val b).toNat)]:=by
   intro t t0 t1 hb'
   refine ih (i+1) (t/1000000000) (r.set i (t%1000000000)) (by omega) (by omega) (by omega) (hr.set i ⟨by omega,by omega⟩) (by simpa using hl) (ma hz) ?_
   rw[dW hir,hr0,bj hia,hb',b8]
   have:=Int.emod_add_mul_ediv t 1000000000
   grind
  by_cases hib:i<b.length
  ·have xb:=hb.1.get hib
   have ht:=bj hib
   obtain⟨q,hq⟩:=step (c+a[i]+b[i]) (by omega) (by omega) (by rw[ht];grind)
   refine nE _ _ _ _ _ ⟨q,?_⟩
   unfold kF
   rw[cd hia,aI,aqt hia,cd hib,aI,aqt hib,aI r i,aO,aqt hir]
   dsimp only
   rw[cM (x:=c+a[i]) (by omega) (by omega),cM (x:=c+a[i]+b[i]) (by omega) (by omega),gI (by omega),fe (by omega),cM (x:=(c+a[i]+b[i])/1000000000) (by omega) (by omega),cG (by omega)]
   exact hq
  ·have ht:=ib (b:=b) (i:=i) (by omega)
   obtain⟨q,hq⟩:=step (c+a[i]) (by omega) (by omega) (by rw[ht];grind)
   refine nE _ _ _ _ _ ⟨q,?_⟩
   unfold kF
   rw[cd hia,aI,aqt hia,cF (show b.length≤i by omega),aI r i,aO,aqt hir]
   dsimp only
   rw[cM (x:=c+a[i]) (by omega) (by omega),gI (by omega),fe (by omega),cM (x:=(c+a[i])/1000000000) (by omega) (by omega),cG (by omega)]
   exact hq
theorem QI(a b:List Int)(h:fK a∧fK b):Con Tryz.prog 255 [.d atA a,.d atA b] [.d atA (ah (val a+val b).toNat)]:=by
 refine aN mz (show t9.Res _ _ _ from ?_)
 obtain⟨ha,hb⟩:=h
 have hsa:=ha.2
 have hsb:=hb.2
 by_cases hc:a.length<b.length
 ·obtain⟨q,hq⟩:=xC b a hb ha (by omega) b.length 0 0 (List.replicate (b.length+1) 0) (by omega) (by omega) (by omega) (Lim.rep _) (by simp) (fun k hk _=>by simp) (by simp[val,fq])
  refine Oe _ _ ⟨q,?_⟩
  unfold Fa
  rw[cd hc,cG (by omega),o9 (by omega),aO,atd (val a)]
  exact hq
 ·obtain⟨q,hq⟩:=xC a b ha hb (by omega) a.length 0 0 (List.replicate (a.length+1) 0) (by omega) (by omega) (by omega) (Lim.rep _) (by simp) (fun k hk _=>by simp) (by simp[val,fq])
  refine Oe _ _ ⟨q,?_⟩
  unfold Fa
  rw[cF (by omega),cG (k:=a.length) (by omega),o9 (n:=a.length+1) (by omega),aO]
  exact hq
theorem Jr(a b:List Int)(ha:a9 a)(hb:a9 b)(hle:val b≤val a):∀(j i:Nat) (c:Int) (r:List Int),i+j=a.length→0≤c→c≤1→Lim r→r.length=a.length→(∀k (hk:k<r.length),i≤k→r[k]=0)→val r+val (b.take i)=val (a.take i)+pw i*c→
  u7.Runs 10 (gP a b (i:Int) r c) [.d atA (ah (val a-val b).toNat)]:=by
 have hsa:=ha.2
 intro j
 induction j with
 |zero=>
  intro i c r hi c0 c1 hr hl hz hv
  obtain rfl:i=a.length:=by omega
  refine iS _ _ _ _ _ ⟨0,?_⟩
  unfold gf
  rw[cF (aqE _)]
  have hrl:=bV hr
  rw[hl]at hrl
  have hb2:val b=val (b.take a.length)+pw (min a.length b.length)*val (b.drop a.length):=eN b a.length
  have hbd:0≤val (b.drop a.length):=aY (hb.1.drop _)
  have hal:=bV ha.1
  have hbt:=aY (hb.1.take a.length)
  rw[arH]at hv
  have hz0:val (b.drop a.length)=0:=by
   rcases aqT a.length b.length with h1|h1
   ·rw[aq0 (by omega)]at hb2
    rcases aqX 0 (val (b.drop a.length))with h2|h2
    ·have hp:=bU a.length
     have:=aqH (show 1≤val (b.drop a.length) by omega) (aq2 hp)
     omega
    ·omega
   ·rw[arm h1];rfl
  rw[hz0,asA,atc]at hb2
  have hc0:c=0:=by
   have hp:=bU a.length
   rcases(show c=0∨c=1 by omega)with h|h
   ·exact h
   ·subst h;rw[asC]at hv;omega
  subst hc0
  rw[asA]at hv
  rw[aqs (show a9 r from⟨hr,by omega⟩),show val r=val a-val b by omega]
 |succ j ih=>
  intro i c r hi c0 c1 hr hl hz hv
  have hia:i<a.length:=by omega
  have hir:i<r.length:=by omega
  have xa:=ha.1.get hia
  have hr0:=hz i hir (aqE _)
  have step:∀(y c':Int),0≤y→y<1000000000→0≤c'→c'≤1→val (b.take (i+1))=val (b.take i)+pw i*(a[i]+1000000000*c'-y-c)→u7.Runs 10 (gP a b ((i+1:Nat):Int) (r.set i y) c') [.d atA (ah (val a-val b).toNat)]:=by
   intro y c' y0 y1 k0 k1 hb'
   refine ih (i+1) c' (r.set i y) (by omega) k0 k1 (hr.set i ⟨y0,y1⟩) (by simpa using hl) (ma hz) ?_
   rw[dW hir,hr0,bj hia,hb',b8]
   grind
  by_cases hib:i<b.length
  ·have xb:=hb.1.get hib
   have ht:=bj hib
   by_cases hc:a[i]+1000000000-c-b[i]≥1000000000
   ·obtain⟨q,hq⟩:=step (a[i]+1000000000-c-b[i]-1000000000) 0 (by omega) (by omega) (by omega) (by omega) (by rw[ht];grind)
    refine iS _ _ _ _ _ ⟨q,?_⟩
    unfold gf
    rw[cd hia,aI,aqt hia,cd hib,aI,aqt hib,aI,aO,aqt hir]
    dsimp only
    rw[cM (x:=a[i]+1000000000) (by omega) (by omega),cM (x:=a[i]+1000000000-c) (by omega) (by omega),cM (x:=a[i]+1000000000-c-b[i]) (by omega) (by omega),aqs hc,cM (x:=a[i]+1000000000-c-b[i]-1000000000) (by omega) (by omega),cG (by omega)]
    exact hq
   ·obtain⟨q,hq⟩:=step (a[i]+1000000000-c-b[i]) 1 (by omega) (by omega) (by omega) (by omega) (by rw[ht];grind)
    refine iS _ _ _ _ _ ⟨q,?_⟩
    unfold gf
    rw[cd hia,aI,aqt hia,cd hib,aI,aqt hib,aI,aO,aqt hir]
    dsimp only
    rw[cM (x:=a[i]+1000000000) (by omega) (by omega),cM (x:=a[i]+1000000000-c) (by omega) (by omega),cM (x:=a[i]+1000000000-c-b[i]) (by omega) (by omega),aqu hc,cG (by omega)]
    exact hq
  ·have ht:=ib (b:=b) (i:=i) (by omega)
   by_cases hc:a[i]+1000000000-c≥1000000000
   ·obtain⟨q,hq⟩:=step (a[i]+1000000000-c-1000000000) 0 (by omega) (by omega) (by omega) (by omega) (by rw[ht];grind)
    refine iS _ _ _ _ _ ⟨q,?_⟩
    unfold gf
    rw[cd hia,aI,aqt hia,cF (show b.length≤i by omega),aI r i,aO,aqt hir]
    dsimp only
    rw[cM (x:=a[i]+1000000000) (by omega) (by omega),cM (x:=a[i]+1000000000-c) (by omega) (by omega),aqs hc,cM (x:=a[i]+1000000000-c-1000000000) (by omega) (by omega),cG (by omega)]
    exact hq
   ·obtain⟨q,hq⟩:=step (a[i]+1000000000-c) 1 (by omega) (by omega) (by omega) (by omega) (by rw[ht];grind)
    refine iS _ _ _ _ _ ⟨q,?_⟩
    unfold gf
    rw[cd hia,aI,aqt hia,cF (show b.length≤i by omega),aI r i,aO,aqt hir]
    dsimp only
    rw[cM (x:=a[i]+1000000000) (by omega) (by omega),cM (x:=a[i]+1000000000-c) (by omega) (by omega),aqu hc,cG (by omega)]
    exact hq
theorem Ur(a b:List Int)(h:kS a b):Con Tryz.prog 250 [.d atA a,.d atA b] [.d atA (ah (val a-val b).toNat)]:=by
 refine aN mz (show u7.Res _ _ _ from ?_)
 obtain⟨ha,hb,hle⟩:=h
 have hsa:=ha.2
 obtain⟨q,hq⟩:=Jr a b ha hb hle a.length 0 0 (List.replicate a.length 0) (by omega) (by omega) (by omega) (Lim.rep _) (by simp) (fun k hk _=>by simp) (by simp[val,fq])
 refine ag0 _ _ ⟨q,?_⟩
 unfold OP
 rw[o9 (by omega),aO]
 exact hq
theorem Eu(a b:List Int)(ha:fK a)(hb:fK b)(i:Nat)(hi:i<a.length)
  (hout:∀r,Lim r→r.length=a.length+b.length→(∀k (hk:k<r.length),i+1+b.length≤k→r[k]=0)→val r=val (a.take (i+1))*val b→n4.Runs 8 (oN a b ((i+1:Nat):Int) r) [.d atA (ah (val a*val b).toNat)]):
  ∀(j k:Nat) (c:Int) (r:List Int),k+j=b.length→0≤c→c<1000000000→Lim r→r.length=a.length+b.length→(∀q (hq:q<r.length),i+b.length≤q→r[q]=0)→val r+pw (i+k)*c=val (a.take i)*val b+pw i*a[i]*val (b.take k)→
  n4.Runs 23 (o8 a b (i:Int) c (k:Int) r) [.d atA (ah (val a*val b).toNat)]:=by
 have hsa:=ha.2
 have hsb:=hb.2
 have xa:=ha.1.get hi
 intro j
 induction j with
 |zero=>
  intro k c r hk c0 c1 hr hl hz hv
  obtain rfl:k=b.length:=by omega
  have hir:i+b.length<r.length:=by omega
  have hr0:=hz _ hir (aqE _)
  obtain⟨q,hq⟩:=hout (r.set (i+b.length) c) (hr.set _ ⟨c0,c1⟩) (by simpa using hl) (by rw[show i+1+b.length=i+b.length+1 by omega];exact ma hz) (by
   rw[dW hir,hr0,bj hi]
   rw[arH]at hv
   grind)
  refine tF _ _ _ _ _ _ ⟨q,?_⟩
  have hw:i64.wrap ((i:Int)+(b.length:Int))=((i+b.length:Nat):Int):=by rw[bi (by omega) (by omega)];simp
  unfold nQ
  rw[cF (aqE _),hw,aI r (i+b.length),aO,aqt hir,cM (x:=c) (by omega) (by omega),cG (k:=i) (by omega)]
  exact hq
 |succ j ih=>
  intro k c r hk c0 c1 hr hl hz hv
  have hkb:k<b.length:=by omega
  have hir:i+k<r.length:=by omega
  have xb:=hb.1.get hkb
  have xr:=hr.get hir
  have hbd:=Fs xr xa xb ⟨c0,c1⟩
  obtain⟨q,hq⟩:=ih (k+1) ((r[i+k]+a[i]*b[k]+c)/1000000000) (r.set (i+k) ((r[i+k]+a[i]*b[k]+c)%1000000000)) (by omega) hbd.2.2.1 hbd.2.2.2 (hr.set _ (by omega)) (by simpa using hl)
   (fun m hm hq=>by rw[arV (by omega)];exact hz m (by simpa using hm) hq) (by
    rw[dW hir,bj hkb,show i+(k+1)=i+k+1 by omega,b8,eo]
    rw[eo]at hv
    have e:=Int.emod_add_mul_ediv (r[i+k]+a[i]*b[k]+c) 1000000000
    grind)
  refine tF _ _ _ _ _ _ ⟨q,?_⟩
  have hw:i64.wrap ((i:Int)+(k:Int))=((i+k:Nat):Int):=by rw[bi (by omega) (by omega)];simp
  unfold nQ
  rw[cd hkb,hw,aI b k,aqt hkb,aI a i,aqt hi,aI r (i+k),aO,aqt hir]
  dsimp only
  rw[bH (x:=r[i+k]) (by omega) (by omega),bH (x:=a[i]) (by omega) (by omega),bH (x:=b[k]) (by omega) (by omega),bH (x:=a[i]*b[k]) (by omega) (by omega),bH (x:=c+r[i+k]) (by omega) (by omega),bH (x:=c+r[i+k]+a[i]*b[k]) (by omega) (by omega),show c+r[i+k]+a[i]*b[k]=r[i+k]+a[i]*b[k]+c by omega,fe (a:=r[i+k]+a[i]*b[k]+c) (by omega),gI (a:=r[i+k]+a[i]*b[k]+c) (by omega),bH (x:=(r[i+k]+a[i]*b[k]+c)/1000000000) (by omega) (by omega),cM (x:=(r[i+k]+a[i]*b[k]+c)%1000000000) (by omega) (by omega),cG (k:=k) (by omega)]
  exact hq
theorem ED(a b:List Int)(ha:fK a)(hb:fK b):∀(j i:Nat) (r:List Int),i+j=a.length→Lim r→r.length=a.length+b.length→(∀k (hk:k<r.length),i+b.length≤k→r[k]=0)→val r=val (a.take i)*val b→
  n4.Runs 8 (oN a b (i:Int) r) [.d atA (ah (val a*val b).toNat)]:=by
 have hsa:=ha.2
 have hsb:=hb.2
 intro j
 induction j with
 |zero=>
  intro i r hi hr hl hz hv
  obtain rfl:i=a.length:=by omega
  refine wR _ _ _ _ ⟨0,?_⟩
  unfold qY
  rw[arH]at hv
  rw[cF (aqE _),aqs (show a9 r from⟨hr,by omega⟩),hv]
 |succ j ih=>
  intro i r hi hr hl hz hv
  have hia:i<a.length:=by omega
  obtain⟨q,hq⟩:=Eu a b ha hb i hia (fun r' h1 h2 h3 h4=>ih (i+1) r' (by omega) h1 h2 h3 h4) b.length 0 0 r (by omega) (by omega) (by omega) hr hl hz (by simp[val,hv])
  refine wR _ _ _ _ ⟨q,?_⟩
  unfold qY
  rw[cd hia]
  exact hq
theorem P2(a b:List Int)(h:fK a∧fK b):Con Tryz.prog 251 [.d atA a,.d atA b] [.d atA (ah (val a*val b).toNat)]:=by
 refine aN mz (show n4.Res _ _ _ from ?_)
 obtain⟨ha,hb⟩:=h
 have hsa:=ha.2
 have hsb:=hb.2
 obtain⟨q,hq⟩:=ED a b ha hb a.length 0 (List.replicate (a.length+b.length) 0) (by omega) (Lim.rep _) (by simp) (fun k hk _=>by simp) (by simp[val,fq])
 refine agl _ _ ⟨q,?_⟩
 have hw:i64.wrap ((a.length:Int)+(b.length:Int))=((a.length+b.length:Nat):Int):=by rw[bi (by omega) (by omega)];simp
 unfold SE
 rw[hw,o9 (by omega),aO]
 exact hq
theorem pg{x:BI}(h:okI x):fK x.2:=⟨h.1.1,by have:=h.2.2;omega⟩
theorem Y7(a b:Int):decide (ce a b≥0)=decide (b≤a):=by
 rcases ash a b with h|h|h
 ·rw[cK h,aqu (show ¬b≤a by omega)];rfl
 ·subst h;rw[dg,aqs (Int.le_refl a)];rfl
 ·rw[cA h,aqs (show b≤a by omega)];rfl
theorem ui(a b:Int):decide (ce a b>0)=decide (b<a):=by
 rcases ash a b with h|h|h
 ·rw[cK h,aqu (show ¬b<a by omega)];rfl
 ·subst h;rw[dg,aqu (show ¬a<a by omega)];rfl
 ·rw[cA h,aqs h];rfl
def sU:aM:=spN false false [.bool,atA] (fun x=>decide (a9 x.2.1)) (fun x=>[RV.d y2Y (ai (bZ x.1 (val x.2.1)))])
theorem qe:SpK 188 sU:=spX fun x h=>RA x.1 x.2.1 (aqr h)
def Gb:aM:=spN false false [atA,atA] (fun x=>decide (fK x.1∧fK x.2.1)) (fun x=>[RV.d atA (ah (val x.1+val x.2.1).toNat)])
theorem Jc:SpK 255 Gb:=spX fun x h=>QI x.1 x.2.1 (aqr h)
def sF:aM:=spN false false [atA,atA] (fun x=>decide (kS x.1 x.2.1)) (fun x=>[RV.d atA (ah (val x.1-val x.2.1).toNat)])
theorem ru:SpK 250 sF:=spX fun x h=>Ur x.1 x.2.1 (aqr h)
def Ir:aM:=spN false false [atA,atA] (fun x=>decide (fK x.1∧fK x.2.1)) (fun x=>[RV.d atA (ah (val x.1*val x.2.1).toNat)])
theorem J9:SpK 251 Ir:=spX fun x h=>P2 x.1 x.2.1 (aqr h)
def kA:Env:=[(185,mq),(190,pc),(189,oD),(186,mj),(188,sU),(255,Gb),(250,sF),(251,Ir)]
theorem fE:EnvAll Tryz.prog kA:=⟨jz,mE,mw,jB,qe,Jc,ru,J9,trivial⟩
def ahj:Ctx:=CX kA []
def MV(n:Int)(_k:KT):Option (List RV):=match decide (n<0)with|true=>(match decide (fw (u64.wrap (0-(u64.wrap n))))with|true=>(match decide (a9 (ah (u64.wrap (0-(u64.wrap n))).toNat))with|true=>some [RV.d y2Y (ai (bZ true (val (ah (u64.wrap (0-(u64.wrap n))).toNat))))]|false=>none)|false=>none)|false=>(match decide (fw (u64.wrap n))with|true=>(match decide (a9 (ah (u64.wrap n).toNat))with|true=>some [RV.d y2Y (ai (bZ false (val (ah (u64.wrap n).toNat))))]|false=>none)|false=>none)
theorem aeA(n:Int):RS ahj 134 [SI n] (MV n):=rsX
def ae8:Ctx:=CX kA []
def Ux(x:Bool×List Int)(_k:KT):Option (List RV):=match(x.2.length:Int)==0 with|true=>some [RV.d atB 0]|false=>(match x.1 with|true=>some [RV.d atB (-1)]|false=>some [RV.d atB 1])
theorem ae3(x:Bool×List Int):RS ae8 101 [.d y2Y x] (Ux x):=rsX
def agL:Ctx:=CX kA []
def KD(x y:Bool×List Int)(_k:KT):Option (List RV):=match !(x.1==y.1)with|true=>(match x.1 with|true=>some [RV.d atB (-1)]|false=>some [RV.d atB 1])|false=>(match x.1 with|true=>(match decide (ng y.2 x.2)with|true=>some [RV.d atB (ce (val y.2) (val x.2))]|false=>none)|false=>(match decide (ng x.2 y.2)with|true=>some [RV.d atB (ce (val x.2) (val y.2))]|false=>none))
theorem aeD(x y:Bool×List Int):RS agL 192 [.d y2Y x,.d y2Y y] (KD x y):=rsX
def aib:Ctx:=CX kA []
def Oq(x y:Bool×List Int)(_k:KT):Option (List RV):=match x.1==y.1 with|true=>(match decide (fK x.2∧fK y.2)with|true=>(match decide (a9 (ah (val x.2+val y.2).toNat))with|true=>some [RV.d y2Y (ai (bZ x.1 (val (ah (val x.2+val y.2).toNat))))]|false=>none)|false=>none)|false=>(match decide (ng x.2 y.2)with|true=>(match decide ((ce (val x.2) (val y.2))≥0)with|true=>(match decide (kS x.2 y.2)with|true=>(match decide (a9 (ah (val x.2-val y.2).toNat))with|true=>some [RV.d y2Y (ai (bZ x.1 (val (ah (val x.2-val y.2).toNat))))]|false=>none)|false=>none)|false=>(match decide (kS y.2 x.2)with|true=>(match decide (a9 (ah (val y.2-val x.2).toNat))with|true=>some [RV.d y2Y (ai (bZ y.1 (val (ah (val y.2-val x.2).toNat))))]|false=>none)|false=>none))|false=>none)
theorem afb(x y:Bool×List Int):RS aib 212 [.d y2Y x,.d y2Y y] (Oq x y):=rsX
def aef:Ctx:=CX kA []
def LQ(x:Bool×List Int)(_k:KT):Option (List RV):=match decide (a9 x.2)with|true=>some [RV.d y2Y (ai (bZ (!x.1) (val x.2)))]|false=>none
theorem ae6(x:Bool×List Int):RS aef 211 [.d y2Y x] (LQ x):=rsX
def afk:Ctx:=CX kA []
def Nc(x y:Bool×List Int)(_k:KT):Option (List RV):=match decide (fK x.2∧fK y.2)with|true=>(match decide (a9 (ah (val x.2*val y.2).toNat))with|true=>some [RV.d y2Y (ai (bZ (!(x.1==y.1)) (val (ah (val x.2*val y.2).toNat))))]|false=>none)|false=>none
theorem aha(x y:Bool×List Int):RS afk 193 [.d y2Y x,.d y2Y y] (Nc x y):=rsX
def amH:Ctx:=CX kA []
def abK(a:List Int)(n:Int)(_k:KT):Option (List RV):=match decide (a9 ([n]))with|true=>(match decide (fK a∧fK (ah (val ([n])).toNat))with|true=>some [RV.d atA (ah (val a*val (ah (val ([n])).toNat)).toNat)]|false=>none)|false=>none
theorem aiA(a:List Int)(n:Int):RS amH 249 [.d atA a,.d atC n] (abK a n):=rsX
theorem Cu(n:Int)(h:aX n):Con Tryz.prog 134 [.d atB n] [.d y2Y (ai n)]:=by
 refine aN fE (aeA _ ⟨0,?_⟩)
 have h1:=h.1
 have h2:=h.2
 unfold MV
 by_cases hn:n<0
 ·have e:u64.wrap (0-u64.wrap n)= -n:=by rw[arj,arj];omega
  have hl:(ah (-n).toNat).length≤3:=cp (by omega) (asM (show-n<18446744073709551616 by omega) (by decide))
  rw[aqs hn]
  dsimp only
  rw[e,aqs (show fw (-n) from⟨by omega,by omega⟩),aqs (ct (n:=(-n).toNat) (by omega)),bT (v:= -n) (by omega)]
  dsimp only
  rw[show bZ true (-n)=n by unfold bZ;simp]
 ·have e:u64.wrap n=n:=bH (by omega) (by omega)
  have hl:(ah n.toNat).length≤3:=cp (by omega) (asM (show n<18446744073709551616 by omega) (by decide))
  rw[aqu hn]
  dsimp only
  rw[e,aqs (show fw n from⟨by omega,by omega⟩),aqs (ct (n:=n.toNat) (by omega)),bT (v:=n) (by omega)]
  rfl
theorem Dq(x:Bool×List Int)(h:okI x):Con Tryz.prog 101 [.d y2Y x] [.d atB (ce (ae x) 0)]:=by
 refine aN fE (ae3 _ ⟨0,?_⟩)
 obtain⟨h0,h1,h2⟩:=co h
 unfold Ux
 rw[bO]
 unfold bZ
 by_cases he:x.2=[]
 ·have e0:=h2.1 he
  have ex:x.1=false:=by
   cases hx:x.1
   ·rfl
   ·have:=h1 hx;omega
  rw[ex,e0,he]
  rfl
 ·have hp:0<val x.2:=dI h.1 he
  have:=ara.2 he
  rw[show((x.2.length:Int)==0)=false by simp;omega]
  cases x.1
  ·simp only[cond_false];rw[cA hp]
  ·simp only[cond_true];rw[cK (by omega)]
theorem Pz(x y:Bool×List Int)(h:okI x∧okI y):Con Tryz.prog 192 [.d y2Y x,.d y2Y y] [.d atB (ce (ae x) (ae y))]:=by
 refine aN fE (aeD _ _ ⟨0,?_⟩)
 obtain⟨hx,hy⟩:=h
 obtain⟨x0,x1,x2⟩:=co hx
 obtain⟨y0,y1,y2⟩:=co hy
 have sx:=hx.2.2
 have sy:=hy.2.2
 unfold KD
 rw[bO,bO,aqs (show ng y.2 x.2 from⟨⟨hy.1,by omega⟩,hx.1,by omega⟩),aqs (show ng x.2 y.2 from⟨⟨hx.1,by omega⟩,hy.1,by omega⟩)]
 unfold bZ
 cases ex:x.1<;>cases ey:y.1
 ·rfl
 ·have:=y1 ey
  simp only[cond_true,cond_false]
  rw[show ce (val x.2) (-val y.2)=1 from cA (by omega)]
  rfl
 ·have:=x1 ex
  simp only[cond_true,cond_false]
  rw[show ce (-val x.2) (val y.2)= -1 from cK (by omega)]
  rfl
 ·simp only[cond_true]
  rw[Iy x0 y0]
  rfl
theorem PB(x y:Bool×List Int)(h:okI x∧okI y):Con Tryz.prog 212 [.d y2Y x,.d y2Y y] [.d y2Y (ai (ae x+ae y))]:=by
 refine aN fE (afb _ _ ⟨0,?_⟩)
 obtain⟨hx,hy⟩:=h
 obtain⟨x0,x1,x2⟩:=co hx
 obtain⟨y0,y1,y2⟩:=co hy
 have lx:=eW hx
 have ly:=eW hy
 have tx:=pg hx
 have ty:=pg hy
 have sx:=hx.2.2
 have sy:=hy.2.2
 have bx:=bV hx.1.1
 have by':=bV hy.1.1
 have px:=cQ (show x.2.length≤1000000 by omega)
 have py:=cQ (show y.2.length≤1000000 by omega)
 have l1:(ah (val x.2+val y.2).toNat).length≤1000001:=cp (by omega) (by rw[b8];omega)
 have l2:(ah (val x.2-val y.2).toNat).length≤1000000:=cO (by have:=bU 1000000;omega)
 have l3:(ah (val y.2-val x.2).toNat).length≤1000000:=cO (by have:=bU 1000000;omega)
 unfold Oq
 rw[bO,bO,aqs (show fK x.2∧fK y.2 from⟨tx,ty⟩),aqs (ct (n:=(val x.2+val y.2).toNat) (by omega)),aqs (ct (n:=(val x.2-val y.2).toNat) (by omega)),aqs (ct (n:=(val y.2-val x.2).toNat) (by omega)),bT (v:=val x.2+val y.2) (by omega),
  aqs (show ng x.2 y.2 from⟨⟨hx.1,by omega⟩,hy.1,by omega⟩),Y7]
 cases hs:x.1==y.1
 ·dsimp only
  rcases aqX (val x.2) (val y.2)with hc|hc
  ·rw[aqu (show ¬val y.2≤val x.2 by omega),aqs (show kS y.2 x.2 from⟨ly,lx,by omega⟩),bT (v:=val y.2-val x.2) (by omega)]
   dsimp only
   unfold bZ
   cases ex:x.1<;>cases ey:y.1<;>simp_all<;>congr 2<;>omega
  ·rw[aqs hc,aqs (show kS x.2 y.2 from⟨lx,ly,hc⟩),bT (v:=val x.2-val y.2) (by omega)]
   dsimp only
   unfold bZ
   cases ex:x.1<;>cases ey:y.1<;>simp_all<;>congr 2<;>omega
 ·dsimp only
  have e:=asi.1 hs
  rw[←e]
  unfold bZ
  cases x.1
  ·rfl
  ·simp only[cond_true]
   rw[show-(val x.2+val y.2)= -val x.2+ -val y.2 by omega]
theorem LP(x:Bool×List Int)(h:okI x):Con Tryz.prog 211 [.d y2Y x] [.d y2Y (ai (-ae x))]:=by
 refine aN fE (ae6 _ ⟨0,?_⟩)
 unfold LQ
 rw[bO,aqs (eW h)]
 unfold bZ
 cases x.1<;>simp
theorem C9(x y:Bool×List Int)(h:okI x∧okI y):Con Tryz.prog 193 [.d y2Y x,.d y2Y y] [.d y2Y (ai (ae x*ae y))]:=by
 refine aN fE (aha _ _ ⟨0,?_⟩)
 obtain⟨hx,hy⟩:=h
 obtain⟨x0,x1,x2⟩:=co hx
 obtain⟨y0,y1,y2⟩:=co hy
 have bx:=bV hx.1.1
 have by':=bV hy.1.1
 have sx:=hx.2.2
 have sy:=hy.2.2
 have hm:0≤val x.2*val y.2:=arq x0 y0
 have l1:(ah (val x.2*val y.2).toNat).length≤x.2.length+y.2.length:=cp hm (by
  rw[eo]
  have p1:=bU x.2.length
  have p2:=bU y.2.length
  have:=asr (show val x.2≤pw x.2.length-1 by omega) (show val y.2≤pw y.2.length-1 by omega) y0 (by omega)
  grind)
 unfold Nc
 rw[bO,bO,aqs (show fK x.2∧fK y.2 from⟨pg hx,pg hy⟩),aqs (ct (n:=(val x.2*val y.2).toNat) (by omega)),bT hm]
 unfold bZ
 cases x.1<;>cases y.1<;>simp[Int.neg_mul,atp]
def byP(a:List Int)(n:Int):Prop:=fK a∧0≤n∧n<1000000000
instance (a:List Int) (n:Int):Decidable (byP a n):=by unfold byP;infer_instance
theorem Xt(a:List Int)(n:Int)(h:byP a n):Con Tryz.prog 249 [.d atA a,.d atC n] [.d atA (ah (val a*n).toNat)]:=by
 refine aN fE (aiA _ _ ⟨0,?_⟩)
 obtain⟨ha,h1,h2⟩:=h
 have hl:(ah n.toNat).length≤1:=cp (by omega) (by show n<pw 1;simp[pw];exact h2)
 have e:val [n]=n:=by simp[val]
 unfold abK
 rw[e,aqs (show a9 [n] from⟨Lim.cons ⟨by omega,h2⟩ Lim.nil,by simp⟩),aqs (show fK a∧fK (ah n.toNat) from⟨ha,bW _,by omega⟩),bT (by omega)]
def oK:aM:=spN false false [y2Y,y2Y] (fun x=>decide (okI x.1∧okI x.2.1)) (fun x=>[RV.d y2Y (ai (ae x.1+ae x.2.1))])
theorem m6:SpK 212 oK:=spX fun x h=>PB x.1 x.2.1 (aqr h)
def yJ:aM:=spN false false [y2Y] (fun x=>decide (okI x.1)) (fun x=>[RV.d y2Y (ai (-ae x.1))])
theorem wK:SpK 211 yJ:=spX fun x h=>LP x.1 (aqr h)
def O5:Env:=(212,oK)::(211,yJ)::kA
theorem Ji:EnvAll Tryz.prog O5:=⟨m6,wK,fE⟩
def ahc:Ctx:=CX O5 []
def Sc(x y:Bool×List Int)(_k:KT):Option (List RV):=match decide (okI y)with|true=>(match decide (okI x∧okI (ai (-ae y)))with|true=>some [RV.d y2Y (ai (ae x+ae (ai (-ae y))))]|false=>none)|false=>none
theorem aeR(x y:Bool×List Int):RS ahc 257 [.d y2Y x,.d y2Y y] (Sc x y):=rsX
theorem S8(x y:Bool×List Int)(h:okI x∧okI y):Con Tryz.prog 257 [.d y2Y x,.d y2Y y] [.d y2Y (ai (ae x-ae y))]:=by
 refine aN Ji (aeR _ _ ⟨0,?_⟩)
 obtain⟨hx,hy⟩:=h
 unfold Sc
 rw[aqs hy,aqs (show okI x∧okI (ai (-ae y)) from⟨hx,bk (by rw[gv];exact gg hy)⟩),dec_enc,Int.sub_eq_add_neg]
end Go.Proofs.YtlahabkjhgkkjaaGreat
end
