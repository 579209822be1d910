/- integer: Sqrt, Int64. -/
import Derived.Test.YtlahabkjhgkkjaaGreatY9
noncomputable section
namespace Go.Proofs.YtlahabkjhgkkjaaGreat
open Go.RowKit Go.IntKind
def rV:Nat→Nat→Nat
 |0,_=>0
 |f+1,n=>bif decide (n=0)then 0 else bif decide ((2*rV f (n/4)+1)*(2*rV f (n/4)+1)≤n)then 2*rV f (n/4)+1 else 2*rV f (n/4)
def CW(n:Nat):Nat:=rV (n.log2+1) n
theorem KY:∀(f n:Nat),n<2^f→rV f n*rV f n≤n∧n<(rV f n+1)*(rV f n+1)
 |0,n,h=>by
  have:n=0:=by simpa using h
  subst this
  exact⟨avb _,by decide⟩
 |f+1,n,h=>by
  rcases avN n with h0|h0
  ·subst h0
   show rV (f+1) 0*rV (f+1) 0≤0∧_
   exact⟨avb _,by show 0<(0+1)*(0+1);decide⟩
  ·have h4:n/4<2^f:=by
    rw[Nat.pow_succ]at h
    omega
   obtain⟨h1,h2⟩:=KY f (n/4) h4
   simp only[rV]
   rw[au3 (show ¬n=0 by omega)]
   generalize rV f (n/4)=s at h1 h2
   have e1:(2*s)*(2*s)=4*(s*s):=by grind
   have e2:(2*s+1+1)*(2*s+1+1)=4*((s+1)*(s+1)):=by grind
   by_cases hc:(2*s+1)*(2*s+1)≤n
   ·rw[au1 hc]
    exact⟨hc,by show n<(2*s+1+1)*(2*s+1+1);rw[e2];omega⟩
   ·rw[au3 hc]
    exact⟨by show(2*s)*(2*s)≤n;rw[e1];omega,by show n<(2*s+1)*(2*s+1);omega⟩
theorem ach(n:Nat):CW n*CW n≤n∧n<(CW n+1)*(CW n+1):=KY _ n Nat.lt_log2_self
def bR(z:Int):Int:=(CW z.toNat:Int)
theorem fw{z:Int}(h:0≤z):0≤bR z∧bR z*bR z≤z∧z<(bR z+1)*(bR z+1):=by
 obtain⟨h1,h2⟩:=ach z.toNat
 unfold bR
 have h3:((CW z.toNat*CW z.toNat:Nat):Int)≤(z.toNat:Int):=by omega
 have h4:(z.toNat:Int)<(((CW z.toNat+1)*(CW z.toNat+1):Nat):Int):=by omega
 rw[aws]at h3 h4
 exact⟨by omega,by omega,by simp only[Int.natCast_add,Int.natCast_one]at h4;omega⟩
theorem qu{a b:Int}(ha:0≤a)(h:a≤b):a*a≤b*b:=aw7 h h ha (by omega)
theorem sq_lt{a b:Int}(hb:0≤b)(h:a*a<b*b):a<b:=by
 apply avp
 intro hc
 have:=qu hb (show b≤a by omega)
 omega
theorem ac7{z s:Int}(h0:0≤s)(h1:s*s≤z)(h2:z<(s+1)*(s+1)):bR z=s:=by
 obtain⟨g0,g1,g2⟩:=fw (show 0≤z by have:=qu (a:=0) (by omega) h0;omega)
 have a1:=sq_lt (b:=s+1) (a:=bR z) (by omega) (by omega)
 have a2:=sq_lt (b:=bR z+1) (a:=s) (by omega) (by omega)
 omega
theorem QL{a x s:Int}(hx:0<x)(_hs:0≤s)(h1:s*s≤a):s≤(x+a/x)/2:=by
 have hq:=avS a x
 have hm:=avJ a hx
 apply avp
 intro hc
 have h2:a/x≤2*s-x-1:=by omega
 have h3:x*(a/x)≤x*(2*s-x-1):=avg h2 (by omega)
 have h4:0≤(s-x)*(s-x):=by
  rcases Int.le_total 0 (s-x)with h|h
  ·exact av2 h h
  ·exact Int.mul_nonneg_of_nonpos_of_nonpos h h
 grind
theorem xi{a x s:Int}(hx:0<x)(hs:s≤x)(_h1:s*s≤a)(h2:a<(s+1)*(s+1))(h3:0≤s)(h:x≤(x+a/x)/2):x=s:=by
 have hq:=avS a x
 have hm:=awe a (show x≠0 by omega)
 have h4:x≤a/x:=by omega
 have h5:x*x≤x*(a/x):=avg h4 (by omega)
 have:=sq_lt (a:=x) (b:=s+1) (by omega) (by omega)
 omega
def fe(x:BI):BI:=bif x.1 then(false,[])else aj (bR (ag x))
def rn(x:BI):Int:=bif x.1 then 7 else 0
def AH:Env:=[(160,nR),(183,qd),(222,nF),(226,xX),(287,BF)]
theorem wo:EnvAll Tryz.prog AH:=⟨jv,kH,jC,re,wY,trivial⟩
def amS:NT:=[((288,25),{keep:=[1,2,5,6],hl:=6})]
def Ks:Ctx:=CX AH amS
def lH(x:Bool×List Int)(b4_0:Bool)(b4_1:List Int):Cfg:=⟨288,[.blk 0],[(1,.box 0 0),(2,.box 1 0),(5,.box 4 0),(6,.box 5 0)],[.box 33 [SB x.1,.d ax7 x.2],.box 33 [SB false,.nil],.gone,.row 183 ax9 ([1]),.box 33 [SB b4_0,.d ax7 b4_1],.box 33 [SB ((aj (2:Int)).1),.d ax7 ((aj (2:Int)).2)]],0,[]⟩
def KO(x:Bool×List Int)(k:KT):Option (List RV):=match x.1 with|true=>some [RV.d y2Y (false,[]),RV.d ax8 7]|false=>(match(x.2.length:Int)==0 with|true=>some [RV.d y2Y (false,[]),RV.d ax8 0]|false=>(match decide ((0:Int)≤i64.wrap (Int.tdiv (i64.wrap ((x.2.length:Int)+1)) 2)∧(i64.wrap (Int.tdiv (i64.wrap ((x.2.length:Int)+1)) 2))*((4:Nat):Int)≤140737488355328∧i64.wrap (Int.tdiv (i64.wrap ((x.2.length:Int)+1)) 2)≤140737488355328)with|true=>(match decide (((List.replicate (i64.wrap (Int.tdiv (i64.wrap ((x.2.length:Int)+1)) 2)).toNat (0:Int)).length+([1]).length)*4≤140737488355328∧(List.replicate (i64.wrap (Int.tdiv (i64.wrap ((x.2.length:Int)+1)) 2)).toNat (0:Int)).length+([1]).length≤140737488355328)with|true=>(match decide (a9 ((List.replicate (i64.wrap (Int.tdiv (i64.wrap ((x.2.length:Int)+1)) 2)).toNat (0:Int))++([1])))with|true=>(match decide (bg (2:Int))with|true=>k 25 (lH x ((aj (cp false (val ((List.replicate (i64.wrap (Int.tdiv (i64.wrap ((x.2.length:Int)+1)) 2)).toNat (0:Int))++([1]))))).1) ((aj (cp false (val ((List.replicate (i64.wrap (Int.tdiv (i64.wrap ((x.2.length:Int)+1)) 2)).toNat (0:Int))++([1]))))).2))|false=>none)|false=>none)|false=>none)|false=>none))
theorem UT(x:Bool×List Int):RS Ks 288 [.d y2Y x] (KO x):=rsX
def t6(x:Bool×List Int)(b4_0:Bool)(b4_1:List Int)(k:KT):Option (List RV):=match decide (eT x (b4_0,b4_1))with|true=>cQ (match decide (okI (b4_0,b4_1)∧okI (aj (ag x/ag (b4_0,b4_1))))with|true=>cQ (match decide (eT (aj (ag (b4_0,b4_1)+ag (aj (ag x/ag (b4_0,b4_1))))) (aj (2:Int)))with|true=>dup (.b .l .l) (match decide (okI (aj (ag (aj (ag (b4_0,b4_1)+ag (aj (ag x/ag (b4_0,b4_1)))))/ag (aj (2:Int))))∧okI (b4_0,b4_1))with|true=>(match decide ((ct (ag (aj (ag (aj (ag (b4_0,b4_1)+ag (aj (ag x/ag (b4_0,b4_1)))))/ag (aj (2:Int))))) (ag (b4_0,b4_1)))≥0)with|true=>some [RV.d y2Y (b4_0,b4_1),RV.d ax8 0]|false=>k 25 (lH x ((aj (ag (aj (ag (b4_0,b4_1)+ag (aj (ag x/ag (b4_0,b4_1)))))/ag (aj (2:Int)))).1) ((aj (ag (aj (ag (b4_0,b4_1)+ag (aj (ag x/ag (b4_0,b4_1)))))/ag (aj (2:Int)))).2)))|false=>none)|false=>none) (dup (.b (.b .l .l) (.b .l .l)) (match decide (eT (aj (ag (b4_0,b4_1)+ag (aj (ag x/ag (b4_0,b4_1))))) (aj (2:Int)))with|true=>(match decide (okI (aj (ag (aj (ag (b4_0,b4_1)+ag (aj (ag x/ag (b4_0,b4_1)))))/ag (aj (2:Int))))∧okI (b4_0,b4_1))with|true=>(match decide ((ct (ag (aj (ag (aj (ag (b4_0,b4_1)+ag (aj (ag x/ag (b4_0,b4_1)))))/ag (aj (2:Int))))) (ag (b4_0,b4_1)))≥0)with|true=>some [RV.d y2Y (b4_0,b4_1),RV.d ax8 0]|false=>k 25 (lH x ((aj (ag (aj (ag (b4_0,b4_1)+ag (aj (ag x/ag (b4_0,b4_1)))))/ag (aj (2:Int)))).1) ((aj (ag (aj (ag (b4_0,b4_1)+ag (aj (ag x/ag (b4_0,b4_1)))))/ag (aj (2:Int)))).2)))|false=>none)|false=>none))|false=>none) (dup (.b .l .l) (cQ (match decide (okI (b4_0,b4_1)∧okI (aj (ag x/ag (b4_0,b4_1))))with|true=>dup (.b .l .l) (match decide (eT (aj (ag (b4_0,b4_1)+ag (aj (ag x/ag (b4_0,b4_1))))) (aj (2:Int)))with|true=>(match decide (okI (aj (ag (aj (ag (b4_0,b4_1)+ag (aj (ag x/ag (b4_0,b4_1)))))/ag (aj (2:Int))))∧okI (b4_0,b4_1))with|true=>(match decide ((ct (ag (aj (ag (aj (ag (b4_0,b4_1)+ag (aj (ag x/ag (b4_0,b4_1)))))/ag (aj (2:Int))))) (ag (b4_0,b4_1)))≥0)with|true=>some [RV.d y2Y (b4_0,b4_1),RV.d ax8 0]|false=>k 25 (lH x ((aj (ag (aj (ag (b4_0,b4_1)+ag (aj (ag x/ag (b4_0,b4_1)))))/ag (aj (2:Int)))).1) ((aj (ag (aj (ag (b4_0,b4_1)+ag (aj (ag x/ag (b4_0,b4_1)))))/ag (aj (2:Int)))).2)))|false=>none)|false=>none)|false=>none) (match decide (okI (b4_0,b4_1)∧okI (aj (ag x/ag (b4_0,b4_1))))with|true=>(match decide (eT (aj (ag (b4_0,b4_1)+ag (aj (ag x/ag (b4_0,b4_1))))) (aj (2:Int)))with|true=>(match decide (okI (aj (ag (aj (ag (b4_0,b4_1)+ag (aj (ag x/ag (b4_0,b4_1)))))/ag (aj (2:Int))))∧okI (b4_0,b4_1))with|true=>(match decide ((ct (ag (aj (ag (aj (ag (b4_0,b4_1)+ag (aj (ag x/ag (b4_0,b4_1)))))/ag (aj (2:Int))))) (ag (b4_0,b4_1)))≥0)with|true=>some [RV.d y2Y (b4_0,b4_1),RV.d ax8 0]|false=>k 25 (lH x ((aj (ag (aj (ag (b4_0,b4_1)+ag (aj (ag x/ag (b4_0,b4_1)))))/ag (aj (2:Int)))).1) ((aj (ag (aj (ag (b4_0,b4_1)+ag (aj (ag x/ag (b4_0,b4_1)))))/ag (aj (2:Int)))).2)))|false=>none)|false=>none)|false=>none)))|false=>none
theorem AD(x:Bool×List Int)(b4_0:Bool)(b4_1:List Int):RN Ks 25 (lH x b4_0 b4_1) (t6 x b4_0 b4_1):=rnX
def amF:NT:=[((295,16),{keep:=[1,4,5],hl:=1})]
def J2:Ctx:=CX AH amF
def uJ(x:Bool×List Int)(s4 s5:Int):Cfg:=⟨295,[.blk 0,.seq 27],[(1,.box 0 0),(4,.d (.int .u64) s4),(5,SI s5)],[.box 33 [SB x.1,.d ax7 x.2]],0,[]⟩
def Kh(x:Bool×List Int)(k:KT):Option (List RV):=match decide (bg ((-9223372036854775808):Int))with|true=>(match decide (okI x∧okI (aj ((-9223372036854775808):Int)))with|true=>dup (.b .l .l) (match decide ((ct (ag x) (ag (aj ((-9223372036854775808):Int))))<0)with|true=>some [RV.d ax8 0,RV.d .bool false]|false=>(match decide (bg (9223372036854775807:Int))with|true=>(match decide (okI x∧okI (aj (9223372036854775807:Int)))with|true=>(match decide ((ct (ag x) (ag (aj (9223372036854775807:Int))))>0)with|true=>some [RV.d ax8 0,RV.d .bool false]|false=>k 16 (uJ x 0 (i64.wrap ((x.2.length:Int)-1))))|false=>none)|false=>none))|false=>none)|false=>none
theorem Tz(x:Bool×List Int):RS J2 295 [.d y2Y x] (Kh x):=rsX
def td(x:Bool×List Int)(s4 s5:Int)(k:KT):Option (List RV):=match decide (s5≥0)with|true=>(match bG x.2 s5 with|some x1=>k 16 (uJ x (u64.wrap ((u64.wrap (s4*1000000000))+(u64.wrap x1))) (i64.wrap (s5-1)))|none=>none)|false=>(match x.1 with|true=>some [RV.d ax8 (i64.wrap (u64.wrap (0-s4))),RV.d .bool true]|false=>some [RV.d ax8 (i64.wrap s4),RV.d .bool true])
theorem yJ(x:Bool×List Int)(s4 s5:Int):RN J2 16 (uJ x s4 s5) (td x s4 s5):=rnX
theorem SD(x:BI)(hx:okI x)(h0:0<ag x):∀(m:Nat) (X:Int),X.toNat=m→0<X→bR (ag x)≤X→szI X≤900000→Ks.Runs 25 (lH x (aj X).1 (aj X).2) [.d y2Y (aj (bR (ag x))),.d ax8 0]:=by
 intro m
 induction m using Nat.strongRecOn with
 |ind m ih=>
  intro X hm hX hs hsz
  obtain⟨g0,g1,g2⟩:=fw (avH h0)
  have hq0:0≤ag x/X:=av9 (by omega) (by omega)
  have hq1:ag x/X≤ag x:=awS _ (by omega)
  have oX:okI (aj X):=bk (by omega)
  have sq:szI (ag x/X)≤1000000:=avm (dq (by omega)) (gZ hx)
  have p1:eT x (aj X):=⟨hx,oX,by rw[dec_enc];exact hX⟩
  have ssum:szI (X+ag x/X)≤1000000:=by
   have b1:=me hsz
   have b2:=me (gZ hx)
   have e:pw 1000000=pw 900000*pw 100000:=by rw[←ff]
   have p9:(1000:Int)≤pw 100000:=by
    have:pw 100000=pw 99999*1000000000:=cr 99999
    have:=ck 99999
    omega
   have p8:=ck 900000
   have h8:pw 900000*1000≤pw 900000*pw 100000:=avg p9 (by omega)
   rcases avA X 2 with hX1|hX1
   ·-- X=1:then the number is less than 4
    have:X=1:=by omega
    subst this
    have:bR (ag x)≤1:=hs
    have h4:ag x<4:=by
     have:=qu (a:=bR (ag x)+1) (b:=2) (by omega) (by omega)
     omega
    refine eL ?_ ?_<;>(rw[e,Int.ediv_one];omega)
   ·have hq2:ag x/X≤ag x/2:=by
     have:=Int.ediv_mul_le (ag x) (show X≠0 by omega)
     have h2:ag x/X*2≤ag x/X*X:=avg hX1 hq0
     omega
    refine eL ?_ ?_<;>(rw[e]at b2 ⊢;omega)
  have o1:okI (aj X)∧okI (aj (ag x/X)):=⟨oX,bk sq⟩
  have p2:eT (aj (X+ag x/X)) (aj 2):=⟨bk ssum,by decide,by rw[dec_enc];decide⟩
  have hn:=QL hX g0 g1
  have o2:okI (aj ((X+ag x/X)/2))∧okI (aj X):=⟨bk (avm (dq (by omega)) ssum),oX⟩
  by_cases hc:X≤(X+ag x/X)/2
  ·have hXs:=xi hX hs g1 g2 g0 hc
   refine AD _ _ _ ⟨0,?_⟩
   unfold t6
   simp only[au,aP]
   have e:∀z:Int,((aj z).1,(aj z).2)=aj z:=fun z=>rfl
   simp only[e,dec_enc,au1 p1,au1 o1,au1 p2,au1 o2]
   have hg:decide (ct ((X+ag x/X)/2) X≥0)=true:=by
    rcases Int.lt_or_eq_of_le hc with h|h
    ·rw[cS h];rfl
    ·rw[←h,dG];rfl
   rw[hg,hXs]
  ·obtain⟨n,hN⟩:=ih ((X+ag x/X)/2).toNat (by omega) ((X+ag x/X)/2) rfl (by
    rcases avA 0 (bR (ag x))with h|h
    ·omega
    ·exfalso
     have:bR (ag x)=0:=by omega
     rw[this]at g2
     omega) hn (avm (dq (by omega)) hsz)
   refine AD _ _ _ ⟨n,?_⟩
   unfold t6
   simp only[au,aP]
   have e:∀z:Int,((aj z).1,(aj z).2)=aj z:=fun z=>rfl
   simp only[e,dec_enc,au1 p1,au1 o1,au1 p2,au1 o2]
   rw[cX (by omega)]
   exact hN
theorem adX(x:Bool×List Int)(h:okI x):Con Tryz.prog 288 [.d y2Y x] [.d y2Y (fe x),.d ax8 (rn x)]:=by
 refine aR wo (show Ks.Res _ _ _ from ?_)
 obtain⟨x0,x1,x2⟩:=cJ h
 have hl:=h.2.2
 cases hn:x.1
 ·by_cases hz:x.2=[]
  ·refine UT _ ⟨0,?_⟩
   unfold KO fe rn
   have:ag x=0:=by unfold ag;rw[hn,hz];rfl
   rw[hn,hz,this]
   rfl
  ·have hp:0<val x.2:=em h.1 hz
   have hd:ag x=val x.2:=by unfold ag;rw[hn];rfl
   have hlen:=avO.2 hz
   have hk:i64.wrap (Int.tdiv (i64.wrap ((x.2.length:Int)+1)) 2)=(((x.2.length+1)/2:Nat):Int):=by
    rw[cD (by omega),fN (by omega),bi (by omega) (by omega)]
    omega
   have hv:val (List.replicate ((x.2.length+1)/2) 0++[1])=pw ((x.2.length+1)/2):=by
    rw[dt,fV,axr]
    simp[val]
   have hL:a9 (List.replicate ((x.2.length+1)/2) 0++[1]):=by
    refine⟨fun y hy=>?_,by simp;omega⟩
    rcases avI.1 hy with hy|hy
    ·have:=List.eq_of_mem_replicate hy;omega
    ·simp at hy;omega
   have hpos:=ck ((x.2.length+1)/2)
   obtain⟨n,hN⟩:=SD x h (by omega) _ (pw ((x.2.length+1)/2)) rfl hpos (by
     obtain⟨g0,g1,g2⟩:=fw (show 0≤ag x by omega)
     have hlt:=cj h.1.1
     have hm:=db (show x.2.length≤(x.2.length+1)/2+(x.2.length+1)/2 by omega)
     rw[ff]at hm
     have:=sq_lt (a:=bR (ag x)) (b:=pw ((x.2.length+1)/2)) (by omega) (by omega)
     omega) (eL (k:=900000) (by have:=ck 900000;omega) (by
      have:=db (show(x.2.length+1)/2+1≤900000 by omega)
      rw[cr]at this
      omega))
   refine UT _ ⟨n,?_⟩
   unfold KO fe rn
   simp only[hk]
   rw[hn,show((x.2.length:Int)==0)=false by simp;omega]
   simp only[awA]
   rw[au1 (show(0:Int)≤(((x.2.length+1)/2:Nat):Int)∧(((x.2.length+1)/2:Nat):Int)*((4:Nat):Int)≤140737488355328∧(((x.2.length+1)/2:Nat):Int)≤140737488355328 by omega)]
   rw[au1 (show((List.replicate ((x.2.length+1)/2) (0:Int)).length+([1]:List Nat).length)*4≤140737488355328∧(List.replicate ((x.2.length+1)/2) (0:Int)).length+([1]:List Nat).length≤140737488355328 by simp;omega)]
   rw[au1 hL,au1 (show bg 2 by decide),hv]
   exact hN
 ·refine UT _ ⟨0,?_⟩
  unfold KO fe rn
  rw[hn]
  rfl
theorem DV(x:BI)(hx:okI x)(hv:val x.2≤9223372036854775808):∀(i:Nat),i≤x.2.length→J2.Runs 16 (uJ x (val (x.2.drop i)) ((i:Int)-1)) [.d ax8 (i64.wrap (bif x.1 then u64.wrap (0-val x.2)else val x.2)),.d .bool true]
 |0,_=>by
  refine yJ _ _ _ ⟨0,?_⟩
  unfold td
  rw[au3 (by omega),awU]
  cases x.1<;>rfl
 |i+1,hi=>by
  obtain⟨n,ih⟩:=DV x hx hv i (by omega)
  have h0:=hx.2.2
  have hlim:=hx.1.1
  have hd:x.2.drop i=x.2[i]::x.2.drop (i+1):=kC (by omega)
  have hle:∀j,val (x.2.drop j)≤9223372036854775808∧0≤val (x.2.drop j):=fun j=>by
   have l1:Lim (x.2.drop j):=fun y hy=>hlim y (aw8 hy)
   have l2:Lim (x.2.take j):=fun y hy=>hlim y (awT hy)
   have:=dt (x.2.take j) (x.2.drop j)
   rw[awr]at this
   have n1:=aZ l1
   have n2:=aZ l2
   have p:=ck (x.2.take j).length
   have:val (x.2.drop j)≤pw (x.2.take j).length*val (x.2.drop j):=by
    have:=avl (show 1≤pw (x.2.take j).length by omega) n1
    omega
   omega
  have hb:=hlim x.2[i] (avF _)
  have hv1:=hle i
  have hv2:=hle (i+1)
  rw[hd]at hv1 ih
  simp only[val]at hv1 ih
  refine yJ _ _ _ ⟨n,?_⟩
  unfold td
  rw[show(((i+1:Nat):Int)-1)=(i:Int) by omega,au1 (by omega),aD,au2 (by omega)]
  dsimp only
  rw[bO (x:=val (x.2.drop (i+1))*1000000000) (by omega) (by omega),bO (x:=x.2[i]) (by omega) (by omega),bO (by omega) (by omega),bi (by omega) (by omega)]
  rw[show val (x.2.drop (i+1))*1000000000+x.2[i]=x.2[i]+1000000000*val (x.2.drop (i+1)) by omega]
  exact ih
theorem adG(x:Bool×List Int)(h:okI x):Con Tryz.prog 295 [.d y2Y x] [.d ax8 (bif decide (bg (ag x))then ag x else 0),.d .bool (decide (bg (ag x)))]:=by
 refine aR wo (show J2.Res _ _ _ from ?_)
 obtain⟨x0,x1,x2⟩:=cJ h
 have o1:okI x∧okI (aj (-9223372036854775808)):=⟨h,by decide⟩
 have o2:okI x∧okI (aj 9223372036854775807):=⟨h,by decide⟩
 have hl:=h.2.2
 by_cases h1:ag x< -9223372036854775808
 ·refine Tz _ ⟨0,?_⟩
  unfold Kh
  simp only[aP,dec_enc,au1 o1]
  rw[au1 (show bg (-9223372036854775808) by decide),cX h1,au3 (show ¬bg (ag x) from fun g=>by have:=g.1;omega)]
  rfl
 ·have c1:decide (ct (ag x) (-9223372036854775808)<0)=false:=by
   rcases Int.lt_or_eq_of_le (show-9223372036854775808≤ag x by omega)with g|g
   ·rw[cS g];rfl
   ·rw[←g,dG];rfl
  by_cases h2:9223372036854775807<ag x
  ·refine Tz _ ⟨0,?_⟩
   unfold Kh
   simp only[aP,dec_enc,au1 o1,au1 o2]
   rw[au1 (show bg (-9223372036854775808) by decide),c1,au1 (show bg 9223372036854775807 by decide),cS h2,au3 (show ¬bg (ag x) from fun g=>by have:=g.2;omega)]
   rfl
  ·have c2:decide (ct (ag x) 9223372036854775807>0)=false:=by
    rcases Int.lt_or_eq_of_le (show ag x≤9223372036854775807 by omega)with g|g
    ·rw[cX g];rfl
    ·rw[g,dG];rfl
   have hp:bg (ag x):=⟨by omega,by omega⟩
   have hvv:val x.2≤9223372036854775808:=by
    have g1:=hp.1
    have g2:=hp.2
    have hd:ag x=bif x.1 then-val x.2 else val x.2:=rfl
    cases hb:x.1<;>rw[hb]at hd<;>simp only[cond_true,cond_false]at hd<;>omega
   obtain⟨n,hN⟩:=DV x h hvv x.2.length (avb _)
   refine Tz _ ⟨n,?_⟩
   unfold Kh
   simp only[aP,dec_enc,au1 o1,au1 o2]
   rw[au1 (show bg (-9223372036854775808) by decide),c1,au1 (show bg 9223372036854775807 by decide),c2,au1 hp]
   rw[axi]at hN
   rw[bi (by omega) (by omega)]
   refine hN.trans ?_
   have hr:i64.wrap (bif x.1 then u64.wrap (0-val x.2)else val x.2)=ag x:=by
    have hd:ag x=bif x.1 then-val x.2 else val x.2:=rfl
    have:=hp.1
    have:=hp.2
    cases hb:x.1<;>rw[hb]at hd<;>simp only[cond_true,cond_false]at hd ⊢
    ·rw[bi (by omega) (by omega)];omega
    ·have:=x1 hb
     rw[avV,IntKind.wrap_i64]
     omega
   rw[hr]
   rfl
def qh(a:List Int):Prop:=a9 a∧val a<18446744073709551616
instance (a:List Int):Decidable (qh a):=by unfold qh;infer_instance
def oZ(a b:List Int):Prop:=(can a∧a.length≤1000000000)∧(can b∧b.length≤1000000000)
instance (a b:List Int):Decidable (oZ a b):=by unfold oZ;infer_instance
def gr(l:List Int):Prop:=Lim l∧l.length≤10000000
instance (l:List Int):Decidable (gr l):=by unfold gr;infer_instance
theorem cM{n:Nat}(h:(ah n).length≤1000000000):a9 (ah n):=⟨co n,h⟩
theorem cf{v:Int}(h:0≤v):val (ah v.toNat)=v:=by rw[bL];omega
theorem cK{v:Int}{k:Nat}(h0:0≤v)(h:v<pw k):(ah v.toNat).length≤k:=da (by omega)
def sY:Env:=[]
theorem kB:EnvAll Tryz.prog sY:=trivial
def aei:NT:=[((185,4),{keep:=[0],pure_:=[(0,.int .u32)],hl:=0})]
def CJ:Ctx:=CX sY aei
def uC(s0:List Int):Cfg:=⟨185,[.blk 0,.seq 13],[(0,.d ax7 s0)],[],0,[]⟩
def ajA(a:List Int)(k:KT):Option (List RV):=k 4 (uC a)
theorem amD(a:List Int):RS CJ 185 [.d ax7 a] (ajA a):=rsX
def uf(s0:List Int)(k:KT):Option (List RV):=match decide ((s0.length:Int)>0)with|true=>(match bG s0 (i64.wrap ((s0.length:Int)-1))with|some x1=>(match x1==0 with|true=>(match decide ((0:Int)≤0∧0≤i64.wrap ((s0.length:Int)-1)∧i64.wrap ((s0.length:Int)-1)≤(s0.length:Int))with|true=>k 4 (uC ((s0.take (i64.wrap ((s0.length:Int)-1)).toNat).drop (0:Int).toNat))|false=>none)|false=>some [RV.d ax7 s0])|none=>none)|false=>some [RV.d ax7 s0]
theorem tB(s0:List Int):RN CJ 4 (uC s0) (uf s0):=rnX
def aaP:NT:=[((189,8),{keep:=[0,3,4],hl:=0})]
def Cw:Ctx:=CX sY aaP
def vj(a:List Int)(s3 s4:Int):Cfg:=⟨189,[.blk 0,.seq 19],[(0,.d ax7 a),(3,.d (.int .u64) s3),(4,SI s4)],[],0,[]⟩
def XS(a:List Int)(k:KT):Option (List RV):=k 8 (vj a 0 (i64.wrap ((a.length:Int)-1)))
theorem amL(a:List Int):RS Cw 189 [.d ax7 a] (XS a):=rsX
def tg(a:List Int)(s3 s4:Int)(k:KT):Option (List RV):=match decide (s4≥0)with|true=>(match bG a s4 with|some x1=>k 8 (vj a (u64.wrap ((u64.wrap (s3*1000000000))+(u64.wrap x1))) (i64.wrap (s4-1)))|none=>none)|false=>some [RV.d (.int .u64) s3]
theorem yG(a:List Int)(s3 s4:Int):RN Cw 8 (vj a s3 s4) (tg a s3 s4):=rnX
def adP:NT:=[((190,6),{keep:=[0,3],own:=[(3,183,.int .u32)],hl:=1})]
def AJ:Ctx:=CX sY adP
def uF(s0:Int)(r0:List Int):Cfg:=⟨190,[.blk 0,.seq 17],[(0,.d (.int .u64) s0),(3,.own 0)],[.row 183 ax9 r0],0,[]⟩
def aln(u:Int)(k:KT):Option (List RV):=k 6 (uF u ([]))
theorem als(u:Int):RS AJ 190 [.d (.int .u64) u] (aln u):=rsX
def sH(s0:Int)(r0:List Int)(k:KT):Option (List RV):=match decide (s0>0)with|true=>(match decide ((r0.length+([u32.wrap (Int.tmod s0 1000000000)]).length)*4≤140737488355328∧r0.length+([u32.wrap (Int.tmod s0 1000000000)]).length≤140737488355328)with|true=>k 6 (uF (u64.wrap (Int.tdiv s0 1000000000)) (r0++([u32.wrap (Int.tmod s0 1000000000)])))|false=>none)|false=>some [RV.new 183 ax9 r0]
theorem yY(s0:Int)(r0:List Int):RN AJ 6 (uF s0 r0) (sH s0 r0):=rnX
def ac9:NT:=[((186,22),{keep:=[0,1,5],hl:=0})]
def Cg:Ctx:=CX sY ac9
def qw(a b:List Int)(s5:Int):Cfg:=⟨186,[.blk 0,.seq 47],[(0,.d ax7 a),(1,.d ax7 b),(5,SI s5)],[],0,[]⟩
def GN(a b:List Int)(k:KT):Option (List RV):=match(a.length:Int) !=(b.length:Int)with|true=>(match decide ((a.length:Int)<(b.length:Int))with|true=>some [RV.d ax8 (-1)]|false=>some [RV.d ax8 1])|false=>k 22 (qw a b (i64.wrap ((a.length:Int)-1)))
theorem Yo(a b:List Int):RS Cg 186 [.d ax7 a,.d ax7 b] (GN a b):=rsX
def jy(a b:List Int)(s5:Int)(k:KT):Option (List RV):=match decide (s5≥0)with|true=>(match bG a s5 with|some x1=>(match bG b s5 with|some x2=>(match decide (x1<x2)with|true=>some [RV.d ax8 (-1)]|false=>(match bG a s5 with|some x3=>(match bG b s5 with|some x4=>(match decide (x3>x4)with|true=>some [RV.d ax8 1]|false=>k 22 (qw a b (i64.wrap (s5-1))))|none=>none)|none=>none))|none=>none)|none=>none)|false=>some [RV.d ax8 0]
theorem lN(a b:List Int)(s5:Int):RN Cg 22 (qw a b s5) (jy a b s5):=rnX
theorem OE(l:List Int)(hl:Lim l)(hs:l.length≤1000000000):∀(n:Nat),n≤l.length→(∀j (hj:j<l.length),n≤j→l[j]=0)→CJ.Runs 4 (uC (l.take n)) [.d ax7 (ah (val l).toNat)]:=by
 intro n
 induction n with
 |zero=>
  intro _ h
  refine tB _ ⟨0,?_⟩
  rw[←kx hl (axU _) h (.inl rfl)]
  rfl
 |succ n ih=>
  intro hn h
  have hlen:(l.take (n+1)).length=n+1:=by rw[avU,avG hn]
  have hget:(l.take (n+1))[n]?=some l[n]:=by rw[List.getElem?_take_of_lt (by omega),au2 (by omega)]
  by_cases hz:l[n]=0
  ·obtain⟨q,hq⟩:=ih (by omega) fun j hj hk=>by
    rcases Nat.eq_or_lt_of_le hk with e|e
    ·subst e;exact hz
    ·exact h j hj e
   refine tB _ ⟨q,?_⟩
   unfold uf
   rw[hlen,au1 (by omega),Mw (by omega) (by omega),aD,show n+1-1=n from rfl,hget]
   dsimp only
   rw[hz,au1 (show(0:Int)≤0∧(0:Int)≤(n:Int)∧(n:Int)≤((n+1:Nat):Int) by omega),aS,List.take_take,avG (by omega)]
   exact hq
  ·refine tB _ ⟨0,?_⟩
   unfold uf
   rw[hlen,au1 (by omega),Mw (by omega) (by omega),aD,show n+1-1=n from rfl,hget]
   dsimp only
   rw[show(l[n]==0)=false by simpa using hz,←kx hl hn h (.inr ⟨Nat.lt_of_succ_le hn,hz⟩)]
theorem O5(a:List Int)(h:a9 a):Con Tryz.prog 185 [.d ax7 a] [.d ax7 (ah (val a).toNat)]:=by
 refine aR kB (show CJ.Res _ _ _ from ?_)
 obtain⟨q,hq⟩:=OE a h.1 h.2 a.length (avb _) (fun j hj hk=>by omega)
 rw[awc]at hq
 exact amD _ ⟨q,hq⟩
theorem N8(u:Nat):∀(r:List Int),(u:Int)<18446744073709551616→r.length+3≤1000+3-(ah u).length→AJ.Runs 6 (uF (u:Int) r) [.new 183 ax9 (r++ah u)]:=by
 induction u using nU with
 |h0=>
  intro r _ _
  refine yY _ _ ⟨0,?_⟩
  unfold sH
  rw[eU,avR]
  rfl
 |h1 n hn ih=>
  intro r hu hr
  rw[gc hn]at hr
  simp only[avw]at hr
  obtain⟨q,hq⟩:=ih (r++[((n%1000000000:Nat):Int)]) (by omega) (by rw[avT];simp only[avu];omega)
  refine yY _ _ ⟨q,?_⟩
  unfold sH
  rw[au1 (by omega),ir (by omega),fN (by omega),bO (x:=(n:Int)/1000000000) (by omega) (by omega),cZ (x:=(n:Int)%1000000000) (by omega) (by omega)]
  simp only[avu]
  rw[akt (by omega) (by omega),gc hn]
  rw[show((n:Int)%1000000000)=((n%1000000000:Nat):Int) by omega,show((n:Int)/1000000000)=((n/1000000000:Nat):Int) by omega]
  rw[awd]at hq
  exact hq
theorem Q1(u:Int)(h:fX u):Con Tryz.prog 190 [.d (.int .u64) u] [.new 183 ax9 (ah u.toNat)]:=by
 refine aR kB (show AJ.Res _ _ _ from ?_)
 have h0:=h.1
 have h1:=h.2
 have hl:=da (n:=u.toNat) (k:=3) (axo (show(u.toNat:Int)<18446744073709551616 by omega) (by decide))
 obtain⟨q,hq⟩:=N8 u.toNat [] (by omega) (by simp;omega)
 rw[show((u.toNat:Nat):Int)=u by omega]at hq
 exact als _ ⟨q,hq⟩
theorem AE(a:List Int)(h:qh a):∀(i:Nat),i≤a.length→Cw.Runs 8 (vj a (val (a.drop i)) ((i:Int)-1)) [.d (.int .u64) (val a)]
 |0,_=>by
  refine yG _ _ _ ⟨0,?_⟩
  unfold tg
  rw[au3 (by omega),awU]
 |i+1,hi=>by
  obtain⟨n,ih⟩:=AE a h i (by omega)
  have h0:=h.1.2
  have hlim:=h.1.1
  have hlt:=h.2
  have hd:a.drop i=a[i]::a.drop (i+1):=kC (by omega)
  have hle:∀j,val (a.drop j)≤val a∧0≤val (a.drop j):=fun j=>by
   have l1:Lim (a.drop j):=fun y hy=>hlim y (aw8 hy)
   have l2:Lim (a.take j):=fun y hy=>hlim y (awT hy)
   have:=dt (a.take j) (a.drop j)
   rw[awr]at this
   have n1:=aZ l1
   have n2:=aZ l2
   have p:=ck (a.take j).length
   have:val (a.drop j)≤pw (a.take j).length*val (a.drop j):=by
    have:=avl (show 1≤pw (a.take j).length by omega) n1
    omega
   omega
  have hb:=hlim a[i] (avF _)
  have hv1:=hle i
  have hv2:=hle (i+1)
  rw[hd]at hv1 ih
  simp only[val]at hv1 ih
  refine yG _ _ _ ⟨n,?_⟩
  unfold tg
  rw[show(((i+1:Nat):Int)-1)=(i:Int) by omega,au1 (by omega),aD,au2 (by omega)]
  dsimp only
  rw[bO (x:=val (a.drop (i+1))*1000000000) (by omega) (by omega),bO (x:=a[i]) (by omega) (by omega),bO (by omega) (by omega),bi (by omega) (by omega)]
  rw[show val (a.drop (i+1))*1000000000+a[i]=a[i]+1000000000*val (a.drop (i+1)) by omega]
  exact ih
theorem UZ(a:List Int)(h:qh a):Con Tryz.prog 189 [.d ax7 a] [.d (.int .u64) (val a)]:=by
 refine aR kB (show Cw.Res _ _ _ from ?_)
 obtain⟨n,hn⟩:=AE a h a.length (avb _)
 have h0:=h.1.2
 refine amL _ ⟨n,?_⟩
 unfold XS
 rw[axi]at hn
 rw[bi (by omega) (by omega)]
 exact hn
theorem OO(a b:List Int)(la:Lim a)(lb:Lim b)(hl:a.length=b.length)(hs:a.length≤1000000000):∀(n:Nat),n≤a.length→a.drop n=b.drop n→
  Cg.Runs 22 (qw a b ((n:Int)-1)) [.d ax8 (ct (val a) (val b))]:=by
 intro n
 induction n with
 |zero=>
  intro _ h
  refine lN _ _ _ ⟨0,?_⟩
  have e:val a=val b:=by simp only[awU]at h;rw[h]
  unfold jy
  rw[au3 (by omega),e,dG]
 |succ n ih=>
  intro hn h
  have h1:n<a.length:=by omega
  have h2:n<b.length:=by omega
  rcases awV a[n] b[n]with hc|hc|hc
  ·refine lN _ _ _ ⟨0,?_⟩
   have:=C3 la lb h1 h2 h hc
   unfold jy
   rw[show((n+1:Nat):Int)-1=(n:Int) by omega,au1 (by omega),aD,aD,au2 h1,au2 h2]
   dsimp only
   rw[au1 hc,cX (by omega)]
  ·obtain⟨q,hq⟩:=ih (by omega) (by rw[avk h1,avk h2,hc,h])
   refine lN _ _ _ ⟨q,?_⟩
   unfold jy
   rw[show((n+1:Nat):Int)-1=(n:Int) by omega,au1 (by omega),aD,aD,au2 h1,au2 h2]
   dsimp only
   rw[au3 (by omega),au3 (by omega),bi (x:=(n:Int)-1) (by omega) (by omega)]
   exact hq
  ·refine lN _ _ _ ⟨0,?_⟩
   have:=C3 lb la h2 h1 h.symm hc
   unfold jy
   rw[show((n+1:Nat):Int)-1=(n:Int) by omega,au1 (by omega),aD,aD,au2 h1,au2 h2]
   dsimp only
   rw[au3 (by omega),au1 hc,cS (by omega)]
theorem Ma{a b:List Int}(ha:can a)(hb:can b)(h:a.length<b.length):val a<val b:=by
 have ea:=nt ha
 have eb:=nt hb
 have:=vd (a:=(val a).toNat) (b:=(val b).toNat) (by rw[←ea,←eb];exact h)
 have:=aZ ha.1
 omega
theorem Xi(a b:List Int)(h:oZ a b):Con Tryz.prog 186 [.d ax7 a,.d ax7 b] [.d ax8 (ct (val a) (val b))]:=by
 refine aR kB (show Cg.Res _ _ _ from ?_)
 obtain⟨⟨ha,sa⟩,hb,sb⟩:=h
 by_cases hl:a.length=b.length
 ·obtain⟨q,hq⟩:=OO a b ha.1 hb.1 hl sa _ (avb _) (by rw[axi,hl,axi])
  refine Yo _ _ ⟨q,?_⟩
  unfold GN
  rw[show((a.length:Int) !=(b.length:Int))=false by simp[hl],bi (x:=(a.length:Int)-1) (by omega) (by omega)]
  exact hq
 ·refine Yo _ _ ⟨0,?_⟩
  unfold GN
  rw[show((a.length:Int) !=(b.length:Int))=true by simp;omega]
  dsimp only
  rcases Nat.lt_or_gt_of_ne hl with h1|h1
  ·have:=Ma ha hb h1
   rw[au1 (by omega),cX (by omega)]
  ·have:=Ma hb ha h1
   rw[au3 (by omega),cS (by omega)]
def oC:aO:=spN false false [ax7] (fun x=>decide (a9 x.1)) (fun x=>[RV.d ax7 (ah (val x.1).toNat)])
theorem ky:SpK 185 oC:=spX fun x h=>O5 x.1 (au0 h)
def qz:aO:=spN false false [(.int .u64)] (fun x=>decide (fX x.1)) (fun x=>[RV.new 183 ax9 (ah x.1.toNat)])
theorem oo:SpK 190 qz:=spX fun x h=>Q1 x.1 (au0 h)
def rG:aO:=spN true false [ax7] (fun x=>decide (qh x.1)) (fun x=>[RV.d (.int .u64) (val x.1)])
theorem oO:SpK 189 rG:=spX fun x h=>UZ x.1 (au0 h)
def oz:aO:=spN true false [ax7,ax7] (fun x=>decide (oZ x.1 x.2.1)) (fun x=>[RV.d ax8 (ct (val x.1) (val x.2.1))])
theorem kS:SpK 186 oz:=spX fun x h=>Xi x.1 x.2.1 (au0 h)
def wR:Env:=(185,oC)::(190,qz)::(189,rG)::(186,oz)::sY
theorem nS:EnvAll Tryz.prog wR:=⟨ky,oo,oO,kS,kB⟩
def akC:Ctx:=CX wR []
def Sc(neg:Bool)(l:List Int)(_k:KT):Option (List RV):=match decide (a9 l)with|true=>(match neg with|true=>some [RV.d y2Y (decide (((ah (val l).toNat).length:Int)>0),ah (val l).toNat)]|false=>some [RV.d y2Y (false,ah (val l).toNat)])|false=>none
theorem aik(neg:Bool)(l:List Int):RS akC 188 [SB neg,.d ax7 l] (Sc neg l):=rsX
def ab9:NT:=[((255,16),{keep:=[0,1,5,6,7],hl:=1})]
def xN:Ctx:=CX wR ab9
def je(s0 s1 r0:List Int)(s6 s7:Int):Cfg:=⟨255,[.blk 0,.seq 37],[(0,.d ax7 s0),(1,.d ax7 s1),(5,.own 0),(6,.d ax9 s6),(7,SI s7)],[.row 183 ax9 r0],0,[]⟩
def GZ(a b:List Int)(k:KT):Option (List RV):=match decide ((a.length:Int)<(b.length:Int))with|true=>(match decide ((0:Int)≤i64.wrap ((b.length:Int)+1)∧(i64.wrap ((b.length:Int)+1))*((4:Nat):Int)≤140737488355328∧i64.wrap ((b.length:Int)+1)≤140737488355328)with|true=>k 16 (je b a (List.replicate (i64.wrap ((b.length:Int)+1)).toNat (0:Int)) 0 0)|false=>none)|false=>(match decide ((0:Int)≤i64.wrap ((a.length:Int)+1)∧(i64.wrap ((a.length:Int)+1))*((4:Nat):Int)≤140737488355328∧i64.wrap ((a.length:Int)+1)≤140737488355328)with|true=>k 16 (je a b (List.replicate (i64.wrap ((a.length:Int)+1)).toNat (0:Int)) 0 0)|false=>none)
theorem PN(a b:List Int):RS xN 255 [.d ax7 a,.d ax7 b] (GZ a b):=rsX
def lL(s0 s1 r0:List Int)(s6 s7:Int)(k:KT):Option (List RV):=match decide (s7<(s0.length:Int))with|true=>(match bG s0 s7 with|some x1=>(match decide (s7<(s1.length:Int))with|true=>(match bG s1 s7 with|some x2=>(match bG r0 s7 with|some _=>(match true,r0[(s7).toNat]? with|true,some _=>k 16 (je s0 s1 (r0.set ((s7).toNat) (Int.tmod (u32.wrap ((u32.wrap (s6+x1))+x2)) 1000000000)) (u32.wrap (Int.tdiv (u32.wrap ((u32.wrap (s6+x1))+x2)) 1000000000)) (i64.wrap (s7+1)))|_,_=>none)|none=>none)|none=>none)|false=>(match bG r0 s7 with|some _=>(match true,r0[(s7).toNat]? with|true,some _x2=>k 16 (je s0 s1 (r0.set ((s7).toNat) (Int.tmod (u32.wrap (s6+x1)) 1000000000)) (u32.wrap (Int.tdiv (u32.wrap (s6+x1)) 1000000000)) (i64.wrap (s7+1)))|_,_=>none)|none=>none))|none=>none)|false=>(match bG r0 (s0.length:Int)with|some _=>(match true,r0[((s0.length:Int)).toNat]? with|true,some _x1=>(match decide (a9 (r0.set (((s0.length:Int)).toNat) s6))with|true=>some [RV.d ax7 (ah (val (r0.set (((s0.length:Int)).toNat) s6)).toNat)]|false=>none)|_,_=>none)|none=>none)
theorem pC(s0 s1 r0:List Int)(s6 s7:Int):RN xN 16 (je s0 s1 r0 s6 s7) (lL s0 s1 r0 s6 s7):=rnX
def ZU:NT:=[((250,10),{keep:=[0,1,5,6,7],hl:=1})]
def vF:Ctx:=CX wR ZU
def iq(a b:List Int)(s7:Int)(r0:List Int)(s6:Int):Cfg:=⟨250,[.blk 0,.seq 37],[(0,.d ax7 a),(1,.d ax7 b),(5,.own 0),(6,.d ax9 s6),(7,SI s7)],[.row 183 ax9 r0],0,[]⟩
def Qz(a b:List Int)(k:KT):Option (List RV):=match decide ((0:Int)≤(a.length:Int)∧(a.length:Int)*((4:Nat):Int)≤140737488355328∧(a.length:Int)≤140737488355328)with|true=>k 10 (iq a b 0 (List.replicate ((a.length:Int)).toNat (0:Int)) 0)|false=>none
theorem ajd(a b:List Int):RS vF 250 [.d ax7 a,.d ax7 b] (Qz a b):=rsX
def gN(a b:List Int)(s7:Int)(r0:List Int)(s6:Int)(k:KT):Option (List RV):=match decide (s7<(a.length:Int))with|true=>(match bG a s7 with|some x1=>(match decide (s7<(b.length:Int))with|true=>(match bG b s7 with|some x2=>(match decide ((u32.wrap ((u32.wrap ((u32.wrap (x1+1000000000))-s6))-x2))≥1000000000)with|true=>(match bG r0 s7 with|some _=>(match true,r0[(s7).toNat]? with|true,some _x3=>k 10 (iq a b (i64.wrap (s7+1)) (r0.set ((s7).toNat) (u32.wrap ((u32.wrap ((u32.wrap ((u32.wrap (x1+1000000000))-s6))-x2))-1000000000))) 0)|_,_=>none)|none=>none)|false=>(match bG r0 s7 with|some _=>(match true,r0[(s7).toNat]? with|true,some _x3=>k 10 (iq a b (i64.wrap (s7+1)) (r0.set ((s7).toNat) (u32.wrap ((u32.wrap ((u32.wrap (x1+1000000000))-s6))-x2))) 1)|_,_=>none)|none=>none))|none=>none)|false=>(match decide ((u32.wrap ((u32.wrap (x1+1000000000))-s6))≥1000000000)with|true=>(match bG r0 s7 with|some _=>(match true,r0[(s7).toNat]? with|true,some _x2=>k 10 (iq a b (i64.wrap (s7+1)) (r0.set ((s7).toNat) (u32.wrap ((u32.wrap ((u32.wrap (x1+1000000000))-s6))-1000000000))) 0)|_,_=>none)|none=>none)|false=>(match bG r0 s7 with|some _=>(match true,r0[(s7).toNat]? with|true,some _x2=>k 10 (iq a b (i64.wrap (s7+1)) (r0.set ((s7).toNat) (u32.wrap ((u32.wrap (x1+1000000000))-s6))) 1)|_,_=>none)|none=>none)))|none=>none)|false=>(match decide (a9 r0)with|true=>some [RV.d ax7 (ah (val r0).toNat)]|false=>none)
theorem jn(a b:List Int)(s7:Int)(r0:List Int)(s6:Int):RN vF 10 (iq a b s7 r0 s6) (gN a b s7 r0 s6):=rnX
def aa3:NT:=[((251,8),{keep:=[0,1,5,6],hl:=1}),((251,23),{keep:=[0,1,5,6,7,8],hl:=1})]
def pI:Ctx:=CX wR aa3
def qp(a b:List Int)(s6:Int)(r0:List Int):Cfg:=⟨251,[.blk 0,.seq 40],[(0,.d ax7 a),(1,.d ax7 b),(5,.own 0),(6,SI s6)],[.row 183 ax9 r0],0,[]⟩
def qi(a b:List Int)(s6 s7 s8:Int)(r0:List Int):Cfg:=⟨251,[.blk 2,.seq 38,.blk 1,.seq 39,.lp 8,.blk 0,.seq 40],[(0,.d ax7 a),(1,.d ax7 b),(5,.own 0),(6,SI s6),(7,.d (.int .u64) s7),(8,SI s8)],[.row 183 ax9 r0],0,[]⟩
def VV(a b:List Int)(k:KT):Option (List RV):=match decide ((0:Int)≤i64.wrap ((a.length:Int)+(b.length:Int))∧(i64.wrap ((a.length:Int)+(b.length:Int)))*((4:Nat):Int)≤140737488355328∧i64.wrap ((a.length:Int)+(b.length:Int))≤140737488355328)with|true=>k 8 (qp a b 0 (List.replicate (i64.wrap ((a.length:Int)+(b.length:Int))).toNat (0:Int)))|false=>none
theorem alV(a b:List Int):RS pI 251 [.d ax7 a,.d ax7 b] (VV a b):=rsX
def tF(a b:List Int)(s6:Int)(r0:List Int)(k:KT):Option (List RV):=match decide (s6<(a.length:Int))with|true=>k 23 (qi a b s6 0 0 r0)|false=>(match decide (a9 r0)with|true=>some [RV.d ax7 (ah (val r0).toNat)]|false=>none)
theorem zm(a b:List Int)(s6:Int)(r0:List Int):RN pI 8 (qp a b s6 r0) (tF a b s6 r0):=rnX
def pH(a b:List Int)(s6 s7 s8:Int)(r0:List Int)(k:KT):Option (List RV):=match decide (s8<(b.length:Int))with|true=>(match bG r0 (i64.wrap (s6+s8))with|some _=>(match true,r0[(i64.wrap (s6+s8)).toNat]? with|true,some x1=>(match bG a s6 with|some x2=>(match bG b s8 with|some x3=>(match bG r0 (i64.wrap (s6+s8))with|some _=>(match true,r0[(i64.wrap (s6+s8)).toNat]? with|true,some _=>k 23 (qi a b s6 (u64.wrap (Int.tdiv (u64.wrap ((u64.wrap (s7+(u64.wrap x1)))+(u64.wrap ((u64.wrap x2)*(u64.wrap x3))))) 1000000000)) (i64.wrap (s8+1)) (r0.set ((i64.wrap (s6+s8)).toNat) (u32.wrap (Int.tmod (u64.wrap ((u64.wrap (s7+(u64.wrap x1)))+(u64.wrap ((u64.wrap x2)*(u64.wrap x3))))) 1000000000))))|_,_=>none)|none=>none)|none=>none)|none=>none)|_,_=>none)|none=>none)|false=>(match bG r0 (i64.wrap (s6+(b.length:Int)))with|some _=>(match true,r0[(i64.wrap (s6+(b.length:Int))).toNat]? with|true,some _x1=>k 8 (qp a b (i64.wrap (s6+1)) (r0.set ((i64.wrap (s6+(b.length:Int))).toNat) (u32.wrap s7)))|_,_=>none)|none=>none)
theorem xp(a b:List Int)(s6 s7 s8:Int)(r0:List Int):RN pI 23 (qi a b s6 s7 s8 r0) (pH a b s6 s7 s8 r0):=rnX
theorem QJ(neg:Bool)(l:List Int)(h:a9 l):Con Tryz.prog 188 [.d .bool neg,.d ax7 l] [.d y2Y (aj (cp neg (val l)))]:=by
 refine aR nS (aik _ _ ⟨0,?_⟩)
 have hv:=aZ h.1
 have hp:decide (((ah (val l).toNat).length:Int)>0)=decide (0<val l):=by
  refine awF.2 ⟨fun g=>?_,fun g=>?_⟩
  ·apply avp
   intro hc
   rw[show(val l).toNat=0 by omega,eU]at g
   simp at g
  ·have:ah (val l).toNat≠[]:=fun e=>by rw[ge]at e;omega
   have:=avO.2 this
   omega
 unfold Sc
 rw[au1 h,kO neg hv,hp]
 cases neg<;>rfl
theorem zT(a b:List Int)(ha:gr a)(hb:gr b)(hab:b.length≤a.length):∀(j i:Nat) (c:Int) (r:List Int),i+j=a.length→0≤c→c≤1→Lim r→r.length=a.length+1→(∀k (hk:k<r.length),i≤k→r[k]=0)→val r+pw i*c=val (a.take i)+val (b.take i)→
  xN.Runs 16 (je a b r c (i:Int)) [.d ax7 (ah (val a+val b).toNat)]:=by
 have hsa:=ha.2
 intro j
 induction j with
 |zero=>
  intro i c r hi c0 c1 hr hl hz hv
  obtain rfl:i=a.length:=by omega
  have hir:a.length<r.length:=by omega
  have hr0:=hz _ hir (avb _)
  have e:val (r.set a.length c)=val a+val b:=by
   rw[eN hir,hr0]
   rw[awc,avB hab]at hv
   grind
  refine pC _ _ _ _ _ ⟨0,?_⟩
  unfold lL
  rw[cC (avb _),aD r,aS,au2 hir]
  dsimp only
  rw[au1 (show a9 (r.set a.length c) from⟨hr.set _ ⟨c0,by omega⟩,by simp;omega⟩),e]
 |succ j ih=>
  intro i c r hi c0 c1 hr hl hz hv
  have hia:i<a.length:=by omega
  have hir:i<r.length:=by omega
  have xa:=ha.1.get hia
  have hr0:=hz i hir (avb _)
  have step:∀(t:Int),0≤t→t<2000000000→val (b.take (i+1))=val (b.take i)+pw i*(t-a[i]-c)→xN.Runs 16 (je a b (r.set i (t%1000000000)) (t/1000000000) ((i+1:Nat):Int)) [.d ax7 (ah (val a+val b).toNat)]:=by
   intro t t0 t1 hb'
   refine ih (i+1) (t/1000000000) (r.set i (t%1000000000)) (by omega) (by omega) (by omega) (hr.set i ⟨by omega,by omega⟩) (by simpa using hl) (mE hz) ?_
   rw[eN hir,hr0,bj hia,hb',cr]
   have:=Int.emod_add_mul_ediv t 1000000000
   grind
  by_cases hib:i<b.length
  ·have xb:=hb.1.get hib
   have ht:=bj hib
   obtain⟨q,hq⟩:=step (c+a[i]+b[i]) (by omega) (by omega) (by rw[ht];grind)
   refine pC _ _ _ _ _ ⟨q,?_⟩
   unfold lL
   rw[bS hia,aD,au2 hia,bS hib,aD,au2 hib,aD r i,aS,au2 hir]
   dsimp only
   rw[cZ (x:=c+a[i]) (by omega) (by omega),cZ (x:=c+a[i]+b[i]) (by omega) (by omega),ir (by omega),fN (by omega),cZ (x:=(c+a[i]+b[i])/1000000000) (by omega) (by omega),cD (by omega)]
   exact hq
  ·have ht:=ja (b:=b) (i:=i) (by omega)
   obtain⟨q,hq⟩:=step (c+a[i]) (by omega) (by omega) (by rw[ht];grind)
   refine pC _ _ _ _ _ ⟨q,?_⟩
   unfold lL
   rw[bS hia,aD,au2 hia,cC (show b.length≤i by omega),aD r i,aS,au2 hir]
   dsimp only
   rw[cZ (x:=c+a[i]) (by omega) (by omega),ir (by omega),fN (by omega),cZ (x:=(c+a[i])/1000000000) (by omega) (by omega),cD (by omega)]
   exact hq
theorem RT(a b:List Int)(h:gr a∧gr b):Con Tryz.prog 255 [.d ax7 a,.d ax7 b] [.d ax7 (ah (val a+val b).toNat)]:=by
 refine aR nS (show xN.Res _ _ _ from ?_)
 obtain⟨ha,hb⟩:=h
 have hsa:=ha.2
 have hsb:=hb.2
 by_cases hc:a.length<b.length
 ·obtain⟨q,hq⟩:=zT b a hb ha (by omega) b.length 0 0 (List.replicate (b.length+1) 0) (by omega) (by omega) (by omega) (Lim.rep _) (by simp) (fun k hk _=>by simp) (by simp[val,fV])
  refine PN _ _ ⟨q,?_⟩
  unfold GZ
  rw[bS hc,cD (by omega),qP (by omega),aS,axN (val a)]
  exact hq
 ·obtain⟨q,hq⟩:=zT a b ha hb (by omega) a.length 0 0 (List.replicate (a.length+1) 0) (by omega) (by omega) (by omega) (Lim.rep _) (by simp) (fun k hk _=>by simp) (by simp[val,fV])
  refine PN _ _ ⟨q,?_⟩
  unfold GZ
  rw[cC (by omega),cD (k:=a.length) (by omega),qP (n:=a.length+1) (by omega),aS]
  exact hq
theorem M2(a b:List Int)(ha:a9 a)(hb:a9 b)(hle:val b≤val a):∀(j i:Nat) (c:Int) (r:List Int),i+j=a.length→0≤c→c≤1→Lim r→r.length=a.length→(∀k (hk:k<r.length),i≤k→r[k]=0)→val r+val (b.take i)=val (a.take i)+pw i*c→
  vF.Runs 10 (iq a b (i:Int) r c) [.d ax7 (ah (val a-val b).toNat)]:=by
 have hsa:=ha.2
 intro j
 induction j with
 |zero=>
  intro i c r hi c0 c1 hr hl hz hv
  obtain rfl:i=a.length:=by omega
  refine jn _ _ _ _ _ ⟨0,?_⟩
  unfold gN
  rw[cC (avb _)]
  have hrl:=cj hr
  rw[hl]at hrl
  have hb2:val b=val (b.take a.length)+pw (min a.length b.length)*val (b.drop a.length):=fA b a.length
  have hbd:0≤val (b.drop a.length):=aZ (hb.1.drop _)
  have hal:=cj ha.1
  have hbt:=aZ (hb.1.take a.length)
  rw[awc]at hv
  have hz0:val (b.drop a.length)=0:=by
   rcases avt a.length b.length with h1|h1
   ·rw[avG (by omega)]at hb2
    rcases avA 0 (val (b.drop a.length))with h2|h2
    ·have hp:=ck a.length
     have:=avg (show 1≤val (b.drop a.length) by omega) (avH hp)
     omega
    ·omega
   ·rw[avY h1];rfl
  rw[hz0,aw1,axM]at hb2
  have hc0:c=0:=by
   have hp:=ck a.length
   rcases(show c=0∨c=1 by omega)with h|h
   ·exact h
   ·subst h;rw[aw6]at hv;omega
  subst hc0
  rw[aw1]at hv
  rw[au1 (show a9 r from⟨hr,by omega⟩),show val r=val a-val b by omega]
 |succ j ih=>
  intro i c r hi c0 c1 hr hl hz hv
  have hia:i<a.length:=by omega
  have hir:i<r.length:=by omega
  have xa:=ha.1.get hia
  have hr0:=hz i hir (avb _)
  have step:∀(y c':Int),0≤y→y<1000000000→0≤c'→c'≤1→val (b.take (i+1))=val (b.take i)+pw i*(a[i]+1000000000*c'-y-c)→vF.Runs 10 (iq a b ((i+1:Nat):Int) (r.set i y) c') [.d ax7 (ah (val a-val b).toNat)]:=by
   intro y c' y0 y1 k0 k1 hb'
   refine ih (i+1) c' (r.set i y) (by omega) k0 k1 (hr.set i ⟨y0,y1⟩) (by simpa using hl) (mE hz) ?_
   rw[eN hir,hr0,bj hia,hb',cr]
   grind
  by_cases hib:i<b.length
  ·have xb:=hb.1.get hib
   have ht:=bj hib
   by_cases hc:a[i]+1000000000-c-b[i]≥1000000000
   ·obtain⟨q,hq⟩:=step (a[i]+1000000000-c-b[i]-1000000000) 0 (by omega) (by omega) (by omega) (by omega) (by rw[ht];grind)
    refine jn _ _ _ _ _ ⟨q,?_⟩
    unfold gN
    rw[bS hia,aD,au2 hia,bS hib,aD,au2 hib,aD,aS,au2 hir]
    dsimp only
    rw[cZ (x:=a[i]+1000000000) (by omega) (by omega),cZ (x:=a[i]+1000000000-c) (by omega) (by omega),cZ (x:=a[i]+1000000000-c-b[i]) (by omega) (by omega),au1 hc,cZ (x:=a[i]+1000000000-c-b[i]-1000000000) (by omega) (by omega),cD (by omega)]
    exact hq
   ·obtain⟨q,hq⟩:=step (a[i]+1000000000-c-b[i]) 1 (by omega) (by omega) (by omega) (by omega) (by rw[ht];grind)
    refine jn _ _ _ _ _ ⟨q,?_⟩
    unfold gN
    rw[bS hia,aD,au2 hia,bS hib,aD,au2 hib,aD,aS,au2 hir]
    dsimp only
    rw[cZ (x:=a[i]+1000000000) (by omega) (by omega),cZ (x:=a[i]+1000000000-c) (by omega) (by omega),cZ (x:=a[i]+1000000000-c-b[i]) (by omega) (by omega),au3 hc,cD (by omega)]
    exact hq
  ·have ht:=ja (b:=b) (i:=i) (by omega)
   by_cases hc:a[i]+1000000000-c≥1000000000
   ·obtain⟨q,hq⟩:=step (a[i]+1000000000-c-1000000000) 0 (by omega) (by omega) (by omega) (by omega) (by rw[ht];grind)
    refine jn _ _ _ _ _ ⟨q,?_⟩
    unfold gN
    rw[bS hia,aD,au2 hia,cC (show b.length≤i by omega),aD r i,aS,au2 hir]
    dsimp only
    rw[cZ (x:=a[i]+1000000000) (by omega) (by omega),cZ (x:=a[i]+1000000000-c) (by omega) (by omega),au1 hc,cZ (x:=a[i]+1000000000-c-1000000000) (by omega) (by omega),cD (by omega)]
    exact hq
   ·obtain⟨q,hq⟩:=step (a[i]+1000000000-c) 1 (by omega) (by omega) (by omega) (by omega) (by rw[ht];grind)
    refine jn _ _ _ _ _ ⟨q,?_⟩
    unfold gN
    rw[bS hia,aD,au2 hia,cC (show b.length≤i by omega),aD r i,aS,au2 hir]
    dsimp only
    rw[cZ (x:=a[i]+1000000000) (by omega) (by omega),cZ (x:=a[i]+1000000000-c) (by omega) (by omega),au3 hc,cD (by omega)]
    exact hq
theorem Va(a b:List Int)(h:lD a b):Con Tryz.prog 250 [.d ax7 a,.d ax7 b] [.d ax7 (ah (val a-val b).toNat)]:=by
 refine aR nS (show vF.Res _ _ _ from ?_)
 obtain⟨ha,hb,hle⟩:=h
 have hsa:=ha.2
 obtain⟨q,hq⟩:=M2 a b ha hb hle a.length 0 0 (List.replicate a.length 0) (by omega) (by omega) (by omega) (Lim.rep _) (by simp) (fun k hk _=>by simp) (by simp[val,fV])
 refine ajd _ _ ⟨q,?_⟩
 unfold Qz
 rw[qP (by omega),aS]
 exact hq
theorem HN(a b:List Int)(ha:gr a)(hb:gr b)(i:Nat)(hi:i<a.length)
  (hout:∀r,Lim r→r.length=a.length+b.length→(∀k (hk:k<r.length),i+1+b.length≤k→r[k]=0)→val r=val (a.take (i+1))*val b→pI.Runs 8 (qp a b ((i+1:Nat):Int) r) [.d ax7 (ah (val a*val b).toNat)]):
  ∀(j k:Nat) (c:Int) (r:List Int),k+j=b.length→0≤c→c<1000000000→Lim r→r.length=a.length+b.length→(∀q (hq:q<r.length),i+b.length≤q→r[q]=0)→val r+pw (i+k)*c=val (a.take i)*val b+pw i*a[i]*val (b.take k)→
  pI.Runs 23 (qi a b (i:Int) c (k:Int) r) [.d ax7 (ah (val a*val b).toNat)]:=by
 have hsa:=ha.2
 have hsb:=hb.2
 have xa:=ha.1.get hi
 intro j
 induction j with
 |zero=>
  intro k c r hk c0 c1 hr hl hz hv
  obtain rfl:k=b.length:=by omega
  have hir:i+b.length<r.length:=by omega
  have hr0:=hz _ hir (avb _)
  obtain⟨q,hq⟩:=hout (r.set (i+b.length) c) (hr.set _ ⟨c0,c1⟩) (by simpa using hl) (by rw[show i+1+b.length=i+b.length+1 by omega];exact mE hz) (by
   rw[eN hir,hr0,bj hi]
   rw[awc]at hv
   grind)
  refine xp _ _ _ _ _ _ ⟨q,?_⟩
  have hw:i64.wrap ((i:Int)+(b.length:Int))=((i+b.length:Nat):Int):=by rw[bi (by omega) (by omega)];simp
  unfold pH
  rw[cC (avb _),hw,aD r (i+b.length),aS,au2 hir,cZ (x:=c) (by omega) (by omega),cD (k:=i) (by omega)]
  exact hq
 |succ j ih=>
  intro k c r hk c0 c1 hr hl hz hv
  have hkb:k<b.length:=by omega
  have hir:i+k<r.length:=by omega
  have xb:=hb.1.get hkb
  have xr:=hr.get hir
  have hbd:=HB xr xa xb ⟨c0,c1⟩
  obtain⟨q,hq⟩:=ih (k+1) ((r[i+k]+a[i]*b[k]+c)/1000000000) (r.set (i+k) ((r[i+k]+a[i]*b[k]+c)%1000000000)) (by omega) hbd.2.2.1 hbd.2.2.2 (hr.set _ (by omega)) (by simpa using hl)
   (fun m hm hq=>by rw[awv (by omega)];exact hz m (by simpa using hm) hq) (by
    rw[eN hir,bj hkb,show i+(k+1)=i+k+1 by omega,cr,ff]
    rw[ff]at hv
    have e:=Int.emod_add_mul_ediv (r[i+k]+a[i]*b[k]+c) 1000000000
    grind)
  refine xp _ _ _ _ _ _ ⟨q,?_⟩
  have hw:i64.wrap ((i:Int)+(k:Int))=((i+k:Nat):Int):=by rw[bi (by omega) (by omega)];simp
  unfold pH
  rw[bS hkb,hw,aD b k,au2 hkb,aD a i,au2 hi,aD r (i+k),aS,au2 hir]
  dsimp only
  rw[bO (x:=r[i+k]) (by omega) (by omega),bO (x:=a[i]) (by omega) (by omega),bO (x:=b[k]) (by omega) (by omega),bO (x:=a[i]*b[k]) (by omega) (by omega),bO (x:=c+r[i+k]) (by omega) (by omega),bO (x:=c+r[i+k]+a[i]*b[k]) (by omega) (by omega),show c+r[i+k]+a[i]*b[k]=r[i+k]+a[i]*b[k]+c by omega,fN (a:=r[i+k]+a[i]*b[k]+c) (by omega),ir (a:=r[i+k]+a[i]*b[k]+c) (by omega),bO (x:=(r[i+k]+a[i]*b[k]+c)/1000000000) (by omega) (by omega),cZ (x:=(r[i+k]+a[i]*b[k]+c)%1000000000) (by omega) (by omega),cD (k:=k) (by omega)]
  exact hq
theorem H4(a b:List Int)(ha:gr a)(hb:gr b):∀(j i:Nat) (r:List Int),i+j=a.length→Lim r→r.length=a.length+b.length→(∀k (hk:k<r.length),i+b.length≤k→r[k]=0)→val r=val (a.take i)*val b→
  pI.Runs 8 (qp a b (i:Int) r) [.d ax7 (ah (val a*val b).toNat)]:=by
 have hsa:=ha.2
 have hsb:=hb.2
 intro j
 induction j with
 |zero=>
  intro i r hi hr hl hz hv
  obtain rfl:i=a.length:=by omega
  refine zm _ _ _ _ ⟨0,?_⟩
  unfold tF
  rw[awc]at hv
  rw[cC (avb _),au1 (show a9 r from⟨hr,by omega⟩),hv]
 |succ j ih=>
  intro i r hi hr hl hz hv
  have hia:i<a.length:=by omega
  obtain⟨q,hq⟩:=HN a b ha hb i hia (fun r' h1 h2 h3 h4=>ih (i+1) r' (by omega) h1 h2 h3 h4) b.length 0 0 r (by omega) (by omega) (by omega) hr hl hz (by simp[val,hv])
  refine zm _ _ _ _ ⟨q,?_⟩
  unfold tF
  rw[bS hia]
  exact hq
theorem Rs(a b:List Int)(h:gr a∧gr b):Con Tryz.prog 251 [.d ax7 a,.d ax7 b] [.d ax7 (ah (val a*val b).toNat)]:=by
 refine aR nS (show pI.Res _ _ _ from ?_)
 obtain⟨ha,hb⟩:=h
 have hsa:=ha.2
 have hsb:=hb.2
 obtain⟨q,hq⟩:=H4 a b ha hb a.length 0 (List.replicate (a.length+b.length) 0) (by omega) (Lim.rep _) (by simp) (fun k hk _=>by simp) (by simp[val,fV])
 refine alV _ _ ⟨q,?_⟩
 have hw:i64.wrap ((a.length:Int)+(b.length:Int))=((a.length+b.length:Nat):Int):=by rw[bi (by omega) (by omega)];simp
 unfold VV
 rw[hw,qP (by omega),aS]
 exact hq
theorem qX{x:BI}(h:okI x):gr x.2:=⟨h.1.1,by have:=h.2.2;omega⟩
theorem Zv(a b:Int):decide (ct a b≥0)=decide (b≤a):=by
 rcases awV a b with h|h|h
 ·rw[cX h,au3 (show ¬b≤a by omega)];rfl
 ·subst h;rw[dG,au1 (Int.le_refl a)];rfl
 ·rw[cS h,au1 (show b≤a by omega)];rfl
theorem xH(a b:Int):decide (ct a b>0)=decide (b<a):=by
 rcases awV a b with h|h|h
 ·rw[cX h,au3 (show ¬b<a by omega)];rfl
 ·subst h;rw[dG,au3 (show ¬a<a by omega)];rfl
 ·rw[cS h,au1 h];rfl
def uG:aO:=spN false false [.bool,ax7] (fun x=>decide (a9 x.2.1)) (fun x=>[RV.d y2Y (aj (cp x.1 (val x.2.1)))])
theorem so:SpK 188 uG:=spX fun x h=>QJ x.1 x.2.1 (au0 h)
def Lh:aO:=spN false false [ax7,ax7] (fun x=>decide (gr x.1∧gr x.2.1)) (fun x=>[RV.d ax7 (ah (val x.1+val x.2.1).toNat)])
theorem MV:SpK 255 Lh:=spX fun x h=>RT x.1 x.2.1 (au0 h)
def vh:aO:=spN false false [ax7,ax7] (fun x=>decide (lD x.1 x.2.1)) (fun x=>[RV.d ax7 (ah (val x.1-val x.2.1).toNat)])
theorem sX:SpK 250 vh:=spX fun x h=>Va x.1 x.2.1 (au0 h)
def Lk:aO:=spN false false [ax7,ax7] (fun x=>decide (gr x.1∧gr x.2.1)) (fun x=>[RV.d ax7 (ah (val x.1*val x.2.1).toNat)])
theorem OM:SpK 251 Lk:=spX fun x h=>Rs x.1 x.2.1 (au0 h)
def mc:Env:=[(185,oC),(190,qz),(189,rG),(186,oz),(188,uG),(255,Lh),(250,vh),(251,Lk)]
theorem gh:EnvAll Tryz.prog mc:=⟨ky,oo,oO,kS,so,MV,sX,OM,trivial⟩
def ak9:Ctx:=CX mc []
def Rv(n:Int)(_k:KT):Option (List RV):=match decide (n<0)with|true=>(match decide (fX (u64.wrap (0-(u64.wrap n))))with|true=>(match decide (a9 (ah (u64.wrap (0-(u64.wrap n))).toNat))with|true=>some [RV.d y2Y (aj (cp true (val (ah (u64.wrap (0-(u64.wrap n))).toNat))))]|false=>none)|false=>none)|false=>(match decide (fX (u64.wrap n))with|true=>(match decide (a9 (ah (u64.wrap n).toNat))with|true=>some [RV.d y2Y (aj (cp false (val (ah (u64.wrap n).toNat))))]|false=>none)|false=>none)
theorem akn(n:Int):RS ak9 134 [SI n] (Rv n):=rsX
def akg:Ctx:=CX mc []
def Sr(x:Bool×List Int)(_k:KT):Option (List RV):=match(x.2.length:Int)==0 with|true=>some [RV.d ax8 0]|false=>(match x.1 with|true=>some [RV.d ax8 (-1)]|false=>some [RV.d ax8 1])
theorem ajw(x:Bool×List Int):RS akg 101 [.d y2Y x] (Sr x):=rsX
def aiS:Ctx:=CX mc []
def TH(x y:Bool×List Int)(_k:KT):Option (List RV):=match !(x.1==y.1)with|true=>(match x.1 with|true=>some [RV.d ax8 (-1)]|false=>some [RV.d ax8 1])|false=>(match x.1 with|true=>(match decide (oZ y.2 x.2)with|true=>some [RV.d ax8 (ct (val y.2) (val x.2))]|false=>none)|false=>(match decide (oZ x.2 y.2)with|true=>some [RV.d ax8 (ct (val x.2) (val y.2))]|false=>none))
theorem amU(x y:Bool×List Int):RS aiS 192 [.d y2Y x,.d y2Y y] (TH x y):=rsX
def ak8:Ctx:=CX mc []
def Xo(x y:Bool×List Int)(_k:KT):Option (List RV):=match x.1==y.1 with|true=>(match decide (gr x.2∧gr y.2)with|true=>(match decide (a9 (ah (val x.2+val y.2).toNat))with|true=>some [RV.d y2Y (aj (cp x.1 (val (ah (val x.2+val y.2).toNat))))]|false=>none)|false=>none)|false=>(match decide (oZ x.2 y.2)with|true=>(match decide ((ct (val x.2) (val y.2))≥0)with|true=>(match decide (lD x.2 y.2)with|true=>(match decide (a9 (ah (val x.2-val y.2).toNat))with|true=>some [RV.d y2Y (aj (cp x.1 (val (ah (val x.2-val y.2).toNat))))]|false=>none)|false=>none)|false=>(match decide (lD y.2 x.2)with|true=>(match decide (a9 (ah (val y.2-val x.2).toNat))with|true=>some [RV.d y2Y (aj (cp y.1 (val (ah (val y.2-val x.2).toNat))))]|false=>none)|false=>none))|false=>none)
theorem amg(x y:Bool×List Int):RS ak8 212 [.d y2Y x,.d y2Y y] (Xo x y):=rsX
def aka:Ctx:=CX mc []
def Pn(x:Bool×List Int)(_k:KT):Option (List RV):=match decide (a9 x.2)with|true=>some [RV.d y2Y (aj (cp (!x.1) (val x.2)))]|false=>none
theorem akY(x:Bool×List Int):RS aka 211 [.d y2Y x] (Pn x):=rsX
def ai7:Ctx:=CX mc []
def Vg(x y:Bool×List Int)(_k:KT):Option (List RV):=match decide (gr x.2∧gr y.2)with|true=>(match decide (a9 (ah (val x.2*val y.2).toNat))with|true=>some [RV.d y2Y (aj (cp (!(x.1==y.1)) (val (ah (val x.2*val y.2).toNat))))]|false=>none)|false=>none
theorem akK(x y:Bool×List Int):RS ai7 193 [.d y2Y x,.d y2Y y] (Vg x y):=rsX
def asX:Ctx:=CX mc []
def agY(a:List Int)(n:Int)(_k:KT):Option (List RV):=match decide (a9 ([n]))with|true=>(match decide (gr a∧gr (ah (val ([n])).toNat))with|true=>some [RV.d ax7 (ah (val a*val (ah (val ([n])).toNat)).toNat)]|false=>none)|false=>none
theorem ata(a:List Int)(n:Int):RS asX 249 [.d ax7 a,.d ax9 n] (agY a n):=rsX
theorem F9(n:Int)(h:bg n):Con Tryz.prog 134 [.d ax8 n] [.d y2Y (aj n)]:=by
 refine aR gh (akn _ ⟨0,?_⟩)
 have h1:=h.1
 have h2:=h.2
 unfold Rv
 by_cases hn:n<0
 ·have e:u64.wrap (0-u64.wrap n)= -n:=by rw[avV,avV];omega
  have hl:(ah (-n).toNat).length≤3:=cK (by omega) (axo (show-n<18446744073709551616 by omega) (by decide))
  rw[au1 hn]
  dsimp only
  rw[e,au1 (show fX (-n) from⟨by omega,by omega⟩),au1 (cM (n:=(-n).toNat) (by omega)),cf (v:= -n) (by omega)]
  dsimp only
  rw[show cp true (-n)=n by unfold cp;simp]
 ·have e:u64.wrap n=n:=bO (by omega) (by omega)
  have hl:(ah n.toNat).length≤3:=cK (by omega) (axo (show n<18446744073709551616 by omega) (by decide))
  rw[au3 hn]
  dsimp only
  rw[e,au1 (show fX n from⟨by omega,by omega⟩),au1 (cM (n:=n.toNat) (by omega)),cf (v:=n) (by omega)]
  rfl
theorem D1(x:Bool×List Int)(h:okI x):Con Tryz.prog 101 [.d y2Y x] [.d ax8 (ct (ag x) 0)]:=by
 refine aR gh (ajw _ ⟨0,?_⟩)
 obtain⟨h0,h1,h2⟩:=cJ h
 unfold Sr
 rw[bU]
 unfold cp
 by_cases he:x.2=[]
 ·have e0:=h2.1 he
  have ex:x.1=false:=by
   cases hx:x.1
   ·rfl
   ·have:=h1 hx;omega
  rw[ex,e0,he]
  rfl
 ·have hp:0<val x.2:=em h.1 he
  have:=avO.2 he
  rw[show((x.2.length:Int)==0)=false by simp;omega]
  cases x.1
  ·simp only[cond_false];rw[cS hp]
  ·simp only[cond_true];rw[cX (by omega)]
theorem Uu(x y:Bool×List Int)(h:okI x∧okI y):Con Tryz.prog 192 [.d y2Y x,.d y2Y y] [.d ax8 (ct (ag x) (ag y))]:=by
 refine aR gh (amU _ _ ⟨0,?_⟩)
 obtain⟨hx,hy⟩:=h
 obtain⟨x0,x1,x2⟩:=cJ hx
 obtain⟨y0,y1,y2⟩:=cJ hy
 have sx:=hx.2.2
 have sy:=hy.2.2
 unfold TH
 rw[bU,bU,au1 (show oZ y.2 x.2 from⟨⟨hy.1,by omega⟩,hx.1,by omega⟩),au1 (show oZ x.2 y.2 from⟨⟨hx.1,by omega⟩,hy.1,by omega⟩)]
 unfold cp
 cases ex:x.1<;>cases ey:y.1
 ·rfl
 ·have:=y1 ey
  simp only[cond_true,cond_false]
  rw[show ct (val x.2) (-val y.2)=1 from cS (by omega)]
  rfl
 ·have:=x1 ex
  simp only[cond_true,cond_false]
  rw[show ct (-val x.2) (val y.2)= -1 from cX (by omega)]
  rfl
 ·simp only[cond_true]
  rw[K4 x0 y0]
  rfl
theorem QQ(x y:Bool×List Int)(h:okI x∧okI y):Con Tryz.prog 212 [.d y2Y x,.d y2Y y] [.d y2Y (aj (ag x+ag y))]:=by
 refine aR gh (amg _ _ ⟨0,?_⟩)
 obtain⟨hx,hy⟩:=h
 obtain⟨x0,x1,x2⟩:=cJ hx
 obtain⟨y0,y1,y2⟩:=cJ hy
 have lx:=fx hx
 have ly:=fx hy
 have tx:=qX hx
 have ty:=qX hy
 have sx:=hx.2.2
 have sy:=hy.2.2
 have bx:=cj hx.1.1
 have by':=cj hy.1.1
 have px:=db (show x.2.length≤1000000 by omega)
 have py:=db (show y.2.length≤1000000 by omega)
 have l1:(ah (val x.2+val y.2).toNat).length≤1000001:=cK (by omega) (by rw[cr];omega)
 have l2:(ah (val x.2-val y.2).toNat).length≤1000000:=da (by have:=ck 1000000;omega)
 have l3:(ah (val y.2-val x.2).toNat).length≤1000000:=da (by have:=ck 1000000;omega)
 unfold Xo
 rw[bU,bU,au1 (show gr x.2∧gr y.2 from⟨tx,ty⟩),au1 (cM (n:=(val x.2+val y.2).toNat) (by omega)),au1 (cM (n:=(val x.2-val y.2).toNat) (by omega)),au1 (cM (n:=(val y.2-val x.2).toNat) (by omega)),cf (v:=val x.2+val y.2) (by omega),
  au1 (show oZ x.2 y.2 from⟨⟨hx.1,by omega⟩,hy.1,by omega⟩),Zv]
 cases hs:x.1==y.1
 ·dsimp only
  rcases avA (val x.2) (val y.2)with hc|hc
  ·rw[au3 (show ¬val y.2≤val x.2 by omega),au1 (show lD y.2 x.2 from⟨ly,lx,by omega⟩),cf (v:=val y.2-val x.2) (by omega)]
   dsimp only
   unfold cp
   cases ex:x.1<;>cases ey:y.1<;>simp_all<;>congr 2<;>omega
  ·rw[au1 hc,au1 (show lD x.2 y.2 from⟨lx,ly,hc⟩),cf (v:=val x.2-val y.2) (by omega)]
   dsimp only
   unfold cp
   cases ex:x.1<;>cases ey:y.1<;>simp_all<;>congr 2<;>omega
 ·dsimp only
  have e:=awf.1 hs
  rw[←e]
  unfold cp
  cases x.1
  ·rfl
  ·simp only[cond_true]
   rw[show-(val x.2+val y.2)= -val x.2+ -val y.2 by omega]
theorem X0(x:Bool×List Int)(h:okI x):Con Tryz.prog 211 [.d y2Y x] [.d y2Y (aj (-ag x))]:=by
 refine aR gh (akY _ ⟨0,?_⟩)
 unfold Pn
 rw[bU,au1 (fx h)]
 unfold cp
 cases x.1<;>simp
theorem EZ(x y:Bool×List Int)(h:okI x∧okI y):Con Tryz.prog 193 [.d y2Y x,.d y2Y y] [.d y2Y (aj (ag x*ag y))]:=by
 refine aR gh (akK _ _ ⟨0,?_⟩)
 obtain⟨hx,hy⟩:=h
 obtain⟨x0,x1,x2⟩:=cJ hx
 obtain⟨y0,y1,y2⟩:=cJ hy
 have bx:=cj hx.1.1
 have by':=cj hy.1.1
 have sx:=hx.2.2
 have sy:=hy.2.2
 have hm:0≤val x.2*val y.2:=av2 x0 y0
 have l1:(ah (val x.2*val y.2).toNat).length≤x.2.length+y.2.length:=cK hm (by
  rw[ff]
  have p1:=ck x.2.length
  have p2:=ck y.2.length
  have:=aw7 (show val x.2≤pw x.2.length-1 by omega) (show val y.2≤pw y.2.length-1 by omega) y0 (by omega)
  grind)
 unfold Vg
 rw[bU,bU,au1 (show gr x.2∧gr y.2 from⟨qX hx,qX hy⟩),au1 (cM (n:=(val x.2*val y.2).toNat) (by omega)),cf hm]
 unfold cp
 cases x.1<;>cases y.1<;>simp[Int.neg_mul,axI]
def byP(a:List Int)(n:Int):Prop:=gr a∧0≤n∧n<1000000000
instance (a:List Int) (n:Int):Decidable (byP a n):=by unfold byP;infer_instance
theorem abM(a:List Int)(n:Int)(h:byP a n):Con Tryz.prog 249 [.d ax7 a,.d ax9 n] [.d ax7 (ah (val a*n).toNat)]:=by
 refine aR gh (ata _ _ ⟨0,?_⟩)
 obtain⟨ha,h1,h2⟩:=h
 have hl:(ah n.toNat).length≤1:=cK (by omega) (by show n<pw 1;simp[pw];exact h2)
 have e:val [n]=n:=by simp[val]
 unfold agY
 rw[e,au1 (show a9 [n] from⟨Lim.cons ⟨by omega,h2⟩ Lim.nil,by simp⟩),au1 (show gr a∧gr (ah n.toNat) from⟨ha,co _,by omega⟩),cf (by omega)]
def qC:aO:=spN false false [y2Y,y2Y] (fun x=>decide (okI x.1∧okI x.2.1)) (fun x=>[RV.d y2Y (aj (ag x.1+ag x.2.1))])
theorem n5:SpK 212 qC:=spX fun x h=>QQ x.1 x.2.1 (au0 h)
def AF:aO:=spN false false [y2Y] (fun x=>decide (okI x.1)) (fun x=>[RV.d y2Y (aj (-ag x.1))])
theorem zo:SpK 211 AF:=spX fun x h=>X0 x.1 (au0 h)
def Uk:Env:=(212,qC)::(211,AF)::mc
theorem Mu:EnvAll Tryz.prog Uk:=⟨n5,zo,gh⟩
def akx:Ctx:=CX Uk []
def QD(x y:Bool×List Int)(_k:KT):Option (List RV):=match decide (okI y)with|true=>(match decide (okI x∧okI (aj (-ag y)))with|true=>some [RV.d y2Y (aj (ag x+ag (aj (-ag y))))]|false=>none)|false=>none
theorem aiX(x y:Bool×List Int):RS akx 257 [.d y2Y x,.d y2Y y] (QD x y):=rsX
theorem Ul(x y:Bool×List Int)(h:okI x∧okI y):Con Tryz.prog 257 [.d y2Y x,.d y2Y y] [.d y2Y (aj (ag x-ag y))]:=by
 refine aR Mu (aiX _ _ ⟨0,?_⟩)
 obtain⟨hx,hy⟩:=h
 unfold QD
 rw[au1 hy,au1 (show okI x∧okI (aj (-ag y)) from⟨hx,bk (by rw[ik];exact gZ hy)⟩),dec_enc,Int.sub_eq_add_neg]
end Go.Proofs.YtlahabkjhgkkjaaGreat
end
