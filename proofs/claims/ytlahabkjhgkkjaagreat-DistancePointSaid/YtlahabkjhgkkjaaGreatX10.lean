/- integer: Sqrt, Int64. -/
import Derived.Test.YtlahabkjhgkkjaaGreatX9
noncomputable section
namespace Go.Proofs.YtlahabkjhgkkjaaGreat
open Go.RowKit Go.IntKind
def rX:Nat→Nat→Nat
 |0,_=>0
 |f+1,n=>bif decide (n=0)then 0 else bif decide ((2*rX f (n/4)+1)*(2*rX f (n/4)+1)≤n)then 2*rX f (n/4)+1 else 2*rX f (n/4)
def zJ(n:Nat):Nat:=rX (n.log2+1) n
theorem JD:∀(f n:Nat),n<2^f→rX f n*rX f n≤n∧n<(rX f n+1)*(rX f n+1)
 |0,n,h=>by
  have:n=0:=by simpa using h
  subst this
  exact⟨auj _,by decide⟩
 |f+1,n,h=>by
  rcases auQ n with h0|h0
  ·subst h0
   show rX (f+1) 0*rX (f+1) 0≤0∧_
   exact⟨auj _,by show 0<(0+1)*(0+1);decide⟩
  ·have h4:n/4<2^f:=by
    rw[Nat.pow_succ]at h
    omega
   obtain⟨h1,h2⟩:=JD f (n/4) h4
   simp only[rX]
   rw[at9 (show ¬n=0 by omega)]
   generalize rX f (n/4)=s at h1 h2
   have e1:(2*s)*(2*s)=4*(s*s):=by grind
   have e2:(2*s+1+1)*(2*s+1+1)=4*((s+1)*(s+1)):=by grind
   by_cases hc:(2*s+1)*(2*s+1)≤n
   ·rw[at7 hc]
    exact⟨hc,by show n<(2*s+1+1)*(2*s+1+1);rw[e2];omega⟩
   ·rw[at9 hc]
    exact⟨by show(2*s)*(2*s)≤n;rw[e1];omega,by show n<(2*s+1)*(2*s+1);omega⟩
theorem aak(n:Nat):zJ n*zJ n≤n∧n<(zJ n+1)*(zJ n+1):=JD _ n Nat.lt_log2_self
def bQ(z:Int):Int:=(zJ z.toNat:Int)
theorem fd{z:Int}(h:0≤z):0≤bQ z∧bQ z*bQ z≤z∧z<(bQ z+1)*(bQ z+1):=by
 obtain⟨h1,h2⟩:=aak z.toNat
 unfold bQ
 have h3:((zJ z.toNat*zJ z.toNat:Nat):Int)≤(z.toNat:Int):=by omega
 have h4:(z.toNat:Int)<(((zJ z.toNat+1)*(zJ z.toNat+1):Nat):Int):=by omega
 rw[avv]at h3 h4
 exact⟨by omega,by omega,by simp only[Int.natCast_add,Int.natCast_one]at h4;omega⟩
theorem pO{a b:Int}(ha:0≤a)(h:a≤b):a*a≤b*b:=awa h h ha (by omega)
theorem sq_lt{a b:Int}(hb:0≤b)(h:a*a<b*b):a<b:=by
 apply aut
 intro hc
 have:=pO hb (show b≤a by omega)
 omega
theorem Yl{z s:Int}(h0:0≤s)(h1:s*s≤z)(h2:z<(s+1)*(s+1)):bQ z=s:=by
 obtain⟨g0,g1,g2⟩:=fd (show 0≤z by have:=pO (a:=0) (by omega) h0;omega)
 have a1:=sq_lt (b:=s+1) (a:=bQ z) (by omega) (by omega)
 have a2:=sq_lt (b:=bQ z+1) (a:=s) (by omega) (by omega)
 omega
theorem Pi{a x s:Int}(hx:0<x)(_hs:0≤s)(h1:s*s≤a):s≤(x+a/x)/2:=by
 have hq:=auU a x
 have hm:=auL a hx
 apply aut
 intro hc
 have h2:a/x≤2*s-x-1:=by omega
 have h3:x*(a/x)≤x*(2*s-x-1):=aum h2 (by omega)
 have h4:0≤(s-x)*(s-x):=by
  rcases Int.le_total 0 (s-x)with h|h
  ·exact au5 h h
  ·exact Int.mul_nonneg_of_nonpos_of_nonpos h h
 grind
theorem wM{a x s:Int}(hx:0<x)(hs:s≤x)(_h1:s*s≤a)(h2:a<(s+1)*(s+1))(h3:0≤s)(h:x≤(x+a/x)/2):x=s:=by
 have hq:=auU a x
 have hm:=avi a (show x≠0 by omega)
 have h4:x≤a/x:=by omega
 have h5:x*x≤x*(a/x):=aum h4 (by omega)
 have:=sq_lt (a:=x) (b:=s+1) (by omega) (by omega)
 omega
def eP(x:BI):BI:=bif x.1 then(false,[])else ak (bQ (ah x))
def qO(x:BI):Int:=bif x.1 then 7 else 0
def Cc:Env:=[(160,mU),(183,pu),(222,mX),(226,wO),(287,Cd)]
theorem vZ:EnvAll Tryz.prog Cc:=⟨je,jY,i9,qy,uQ,trivial⟩
def aiL:NT:=[((288,25),{keep:=[1,2,5,6],hl:=6})]
def IU:Ctx:=CX Cc aiL
def lM(x:Bool×List Int)(b4_0:Bool)(b4_1:List Int):Cfg:=⟨288,[.blk 0],[(1,.box 0 0),(2,.box 1 0),(5,.box 4 0),(6,.box 5 0)],[.box 33 [SB x.1,.d axe x.2],.box 33 [SB false,.nil],.gone,.row 183 axg ([1]),.box 33 [SB b4_0,.d axe b4_1],.box 33 [SB ((ak (2:Int)).1),.d axe ((ak (2:Int)).2)]],0,[]⟩
def Jh(x:Bool×List Int)(k:KT):Option (List RV):=match x.1 with|true=>some [RV.d y2Y (false,[]),RV.d axf 7]|false=>(match(x.2.length:Int)==0 with|true=>some [RV.d y2Y (false,[]),RV.d axf 0]|false=>(match decide ((0:Int)≤i64.wrap (Int.tdiv (i64.wrap ((x.2.length:Int)+1)) 2)∧(i64.wrap (Int.tdiv (i64.wrap ((x.2.length:Int)+1)) 2))*((4:Nat):Int)≤140737488355328∧i64.wrap (Int.tdiv (i64.wrap ((x.2.length:Int)+1)) 2)≤140737488355328)with|true=>(match decide (((List.replicate (i64.wrap (Int.tdiv (i64.wrap ((x.2.length:Int)+1)) 2)).toNat (0:Int)).length+([1]).length)*4≤140737488355328∧(List.replicate (i64.wrap (Int.tdiv (i64.wrap ((x.2.length:Int)+1)) 2)).toNat (0:Int)).length+([1]).length≤140737488355328)with|true=>(match decide (bi ((List.replicate (i64.wrap (Int.tdiv (i64.wrap ((x.2.length:Int)+1)) 2)).toNat (0:Int))++([1])))with|true=>(match decide (aY (2:Int))with|true=>k 25 (lM x ((ak (cf false (val ((List.replicate (i64.wrap (Int.tdiv (i64.wrap ((x.2.length:Int)+1)) 2)).toNat (0:Int))++([1]))))).1) ((ak (cf false (val ((List.replicate (i64.wrap (Int.tdiv (i64.wrap ((x.2.length:Int)+1)) 2)).toNat (0:Int))++([1]))))).2))|false=>none)|false=>none)|false=>none)|false=>none))
theorem XQ(x:Bool×List Int):RS IU 288 [.d y2Y x] (Jh x):=rsX
def sM(x:Bool×List Int)(b4_0:Bool)(b4_1:List Int)(k:KT):Option (List RV):=match decide (eH x (b4_0,b4_1))with|true=>cp (match decide (okI (b4_0,b4_1)∧okI (ak (ah x/ah (b4_0,b4_1))))with|true=>cp (match decide (eH (ak (ah (b4_0,b4_1)+ah (ak (ah x/ah (b4_0,b4_1))))) (ak (2:Int)))with|true=>dup (.b .l .l) (match decide (okI (ak (ah (ak (ah (b4_0,b4_1)+ah (ak (ah x/ah (b4_0,b4_1)))))/ah (ak (2:Int))))∧okI (b4_0,b4_1))with|true=>(match decide ((ck (ah (ak (ah (ak (ah (b4_0,b4_1)+ah (ak (ah x/ah (b4_0,b4_1)))))/ah (ak (2:Int))))) (ah (b4_0,b4_1)))≥0)with|true=>some [RV.d y2Y (b4_0,b4_1),RV.d axf 0]|false=>k 25 (lM x ((ak (ah (ak (ah (b4_0,b4_1)+ah (ak (ah x/ah (b4_0,b4_1)))))/ah (ak (2:Int)))).1) ((ak (ah (ak (ah (b4_0,b4_1)+ah (ak (ah x/ah (b4_0,b4_1)))))/ah (ak (2:Int)))).2)))|false=>none)|false=>none) (dup (.b (.b .l .l) (.b .l .l)) (match decide (eH (ak (ah (b4_0,b4_1)+ah (ak (ah x/ah (b4_0,b4_1))))) (ak (2:Int)))with|true=>(match decide (okI (ak (ah (ak (ah (b4_0,b4_1)+ah (ak (ah x/ah (b4_0,b4_1)))))/ah (ak (2:Int))))∧okI (b4_0,b4_1))with|true=>(match decide ((ck (ah (ak (ah (ak (ah (b4_0,b4_1)+ah (ak (ah x/ah (b4_0,b4_1)))))/ah (ak (2:Int))))) (ah (b4_0,b4_1)))≥0)with|true=>some [RV.d y2Y (b4_0,b4_1),RV.d axf 0]|false=>k 25 (lM x ((ak (ah (ak (ah (b4_0,b4_1)+ah (ak (ah x/ah (b4_0,b4_1)))))/ah (ak (2:Int)))).1) ((ak (ah (ak (ah (b4_0,b4_1)+ah (ak (ah x/ah (b4_0,b4_1)))))/ah (ak (2:Int)))).2)))|false=>none)|false=>none))|false=>none) (dup (.b .l .l) (cp (match decide (okI (b4_0,b4_1)∧okI (ak (ah x/ah (b4_0,b4_1))))with|true=>dup (.b .l .l) (match decide (eH (ak (ah (b4_0,b4_1)+ah (ak (ah x/ah (b4_0,b4_1))))) (ak (2:Int)))with|true=>(match decide (okI (ak (ah (ak (ah (b4_0,b4_1)+ah (ak (ah x/ah (b4_0,b4_1)))))/ah (ak (2:Int))))∧okI (b4_0,b4_1))with|true=>(match decide ((ck (ah (ak (ah (ak (ah (b4_0,b4_1)+ah (ak (ah x/ah (b4_0,b4_1)))))/ah (ak (2:Int))))) (ah (b4_0,b4_1)))≥0)with|true=>some [RV.d y2Y (b4_0,b4_1),RV.d axf 0]|false=>k 25 (lM x ((ak (ah (ak (ah (b4_0,b4_1)+ah (ak (ah x/ah (b4_0,b4_1)))))/ah (ak (2:Int)))).1) ((ak (ah (ak (ah (b4_0,b4_1)+ah (ak (ah x/ah (b4_0,b4_1)))))/ah (ak (2:Int)))).2)))|false=>none)|false=>none)|false=>none) (match decide (okI (b4_0,b4_1)∧okI (ak (ah x/ah (b4_0,b4_1))))with|true=>(match decide (eH (ak (ah (b4_0,b4_1)+ah (ak (ah x/ah (b4_0,b4_1))))) (ak (2:Int)))with|true=>(match decide (okI (ak (ah (ak (ah (b4_0,b4_1)+ah (ak (ah x/ah (b4_0,b4_1)))))/ah (ak (2:Int))))∧okI (b4_0,b4_1))with|true=>(match decide ((ck (ah (ak (ah (ak (ah (b4_0,b4_1)+ah (ak (ah x/ah (b4_0,b4_1)))))/ah (ak (2:Int))))) (ah (b4_0,b4_1)))≥0)with|true=>some [RV.d y2Y (b4_0,b4_1),RV.d axf 0]|false=>k 25 (lM x ((ak (ah (ak (ah (b4_0,b4_1)+ah (ak (ah x/ah (b4_0,b4_1)))))/ah (ak (2:Int)))).1) ((ak (ah (ak (ah (b4_0,b4_1)+ah (ak (ah x/ah (b4_0,b4_1)))))/ah (ak (2:Int)))).2)))|false=>none)|false=>none)|false=>none)))|false=>none
theorem yQ(x:Bool×List Int)(b4_0:Bool)(b4_1:List Int):RN IU 25 (lM x b4_0 b4_1) (sM x b4_0 b4_1):=rnX
def ahR:NT:=[((295,16),{keep:=[1,4,5],hl:=1})]
def IH:Ctx:=CX Cc ahR
def tF(x:Bool×List Int)(s4 s5:Int):Cfg:=⟨295,[.blk 0,.seq 27],[(1,.box 0 0),(4,.d (.int .u64) s4),(5,SI s5)],[.box 33 [SB x.1,.d axe x.2]],0,[]⟩
def I3(x:Bool×List Int)(k:KT):Option (List RV):=match decide (aY ((-9223372036854775808):Int))with|true=>(match decide (okI x∧okI (ak ((-9223372036854775808):Int)))with|true=>dup (.b .l .l) (match decide ((ck (ah x) (ah (ak ((-9223372036854775808):Int))))<0)with|true=>some [RV.d axf 0,RV.d .bool false]|false=>(match decide (aY (9223372036854775807:Int))with|true=>(match decide (okI x∧okI (ak (9223372036854775807:Int)))with|true=>(match decide ((ck (ah x) (ah (ak (9223372036854775807:Int))))>0)with|true=>some [RV.d axf 0,RV.d .bool false]|false=>k 16 (tF x 0 (i64.wrap ((x.2.length:Int)-1))))|false=>none)|false=>none))|false=>none)|false=>none
theorem PC(x:Bool×List Int):RS IH 295 [.d y2Y x] (I3 x):=rsX
def sB(x:Bool×List Int)(s4 s5:Int)(k:KT):Option (List RV):=match decide (s5≥0)with|true=>(match bH x.2 s5 with|some x1=>k 16 (tF x (u64.wrap ((u64.wrap (s4*1000000000))+(u64.wrap x1))) (i64.wrap (s5-1)))|none=>none)|false=>(match x.1 with|true=>some [RV.d axf (i64.wrap (u64.wrap (0-s4))),RV.d .bool true]|false=>some [RV.d axf (i64.wrap s4),RV.d .bool true])
theorem yr(x:Bool×List Int)(s4 s5:Int):RN IH 16 (tF x s4 s5) (sB x s4 s5):=rnX
theorem OQ(x:BI)(hx:okI x)(h0:0<ah x):∀(m:Nat) (X:Int),X.toNat=m→0<X→bQ (ah x)≤X→szI X≤900000→IU.Runs 25 (lM x (ak X).1 (ak X).2) [.d y2Y (ak (bQ (ah x))),.d axf 0]:=by
 intro m
 induction m using Nat.strongRecOn with
 |ind m ih=>
  intro X hm hX hs hsz
  obtain⟨g0,g1,g2⟩:=fd (auJ h0)
  have hq0:0≤ah x/X:=avd (by omega) (by omega)
  have hq1:ah x/X≤ah x:=avW _ (by omega)
  have oX:okI (ak X):=bu (by omega)
  have sq:szI (ah x/X)≤1000000:=aur (dl (by omega)) (gJ hx)
  have p1:eH x (ak X):=⟨hx,oX,by rw[dec_enc];exact hX⟩
  have ssum:szI (X+ah x/X)≤1000000:=by
   have b1:=lm hsz
   have b2:=lm (gJ hx)
   have e:pw 1000000=pw 900000*pw 100000:=by rw[←eO]
   have p9:(1000:Int)≤pw 100000:=by
    have:pw 100000=pw 99999*1000000000:=ce 99999
    have:=b8 99999
    omega
   have p8:=b8 900000
   have h8:pw 900000*1000≤pw 900000*pw 100000:=aum p9 (by omega)
   rcases auC X 2 with hX1|hX1
   ·-- X=1:then the number is less than 4
    have:X=1:=by omega
    subst this
    have:bQ (ah x)≤1:=hs
    have h4:ah x<4:=by
     have:=pO (a:=bQ (ah x)+1) (b:=2) (by omega) (by omega)
     omega
    refine eE ?_ ?_<;>(rw[e,Int.ediv_one];omega)
   ·have hq2:ah x/X≤ah x/2:=by
     have:=Int.ediv_mul_le (ah x) (show X≠0 by omega)
     have h2:ah x/X*2≤ah x/X*X:=aum hX1 hq0
     omega
    refine eE ?_ ?_<;>(rw[e]at b2 ⊢;omega)
  have o1:okI (ak X)∧okI (ak (ah x/X)):=⟨oX,bu sq⟩
  have p2:eH (ak (X+ah x/X)) (ak 2):=⟨bu ssum,by decide,by rw[dec_enc];decide⟩
  have hn:=Pi hX g0 g1
  have o2:okI (ak ((X+ah x/X)/2))∧okI (ak X):=⟨bu (aur (dl (by omega)) ssum),oX⟩
  by_cases hc:X≤(X+ah x/X)/2
  ·have hXs:=wM hX hs g1 g2 g0 hc
   refine yQ _ _ _ ⟨0,?_⟩
   unfold sM
   simp only[ao,aK]
   have e:∀z:Int,((ak z).1,(ak z).2)=ak z:=fun z=>rfl
   simp only[e,dec_enc,at7 p1,at7 o1,at7 p2,at7 o2]
   have hg:decide (ck ((X+ah x/X)/2) X≥0)=true:=by
    rcases Int.lt_or_eq_of_le hc with h|h
    ·rw[cH h];rfl
    ·rw[←h,dB];rfl
   rw[hg,hXs]
  ·obtain⟨n,hN⟩:=ih ((X+ah x/X)/2).toNat (by omega) ((X+ah x/X)/2) rfl (by
    rcases auC 0 (bQ (ah x))with h|h
    ·omega
    ·exfalso
     have:bQ (ah x)=0:=by omega
     rw[this]at g2
     omega) hn (aur (dl (by omega)) hsz)
   refine yQ _ _ _ ⟨n,?_⟩
   unfold sM
   simp only[ao,aK]
   have e:∀z:Int,((ak z).1,(ak z).2)=ak z:=fun z=>rfl
   simp only[e,dec_enc,at7 p1,at7 o1,at7 p2,at7 o2]
   rw[cQ (by omega)]
   exact hN
theorem acV(x:Bool×List Int)(h:okI x):Con Tryz.prog 288 [.d y2Y x] [.d y2Y (eP x),.d axf (qO x)]:=by
 refine aP vZ (show IU.Res _ _ _ from ?_)
 obtain⟨x0,x1,x2⟩:=cA h
 have hl:=h.2.2
 cases hn:x.1
 ·by_cases hz:x.2=[]
  ·refine XQ _ ⟨0,?_⟩
   unfold Jh eP qO
   have:ah x=0:=by unfold ah;rw[hn,hz];rfl
   rw[hn,hz,this]
   rfl
  ·have hp:0<val x.2:=d7 h.1 hz
   have hd:ah x=val x.2:=by unfold ah;rw[hn];rfl
   have hlen:=auR.2 hz
   have hk:i64.wrap (Int.tdiv (i64.wrap ((x.2.length:Int)+1)) 2)=(((x.2.length+1)/2:Nat):Int):=by
    rw[cO (by omega),fA (by omega),bj (by omega) (by omega)]
    omega
   have hv:val (List.replicate ((x.2.length+1)/2) 0++[1])=pw ((x.2.length+1)/2):=by
    rw[dh,fJ,aww]
    simp[val]
   have hL:bi (List.replicate ((x.2.length+1)/2) 0++[1]):=by
    refine⟨fun y hy=>?_,by simp;omega⟩
    rcases auN.1 hy with hy|hy
    ·have:=List.eq_of_mem_replicate hy;omega
    ·simp at hy;omega
   have hpos:=b8 ((x.2.length+1)/2)
   obtain⟨n,hN⟩:=OQ x h (by omega) _ (pw ((x.2.length+1)/2)) rfl hpos (by
     obtain⟨g0,g1,g2⟩:=fd (show 0≤ah x by omega)
     have hlt:=bZ h.1.1
     have hm:=c7 (show x.2.length≤(x.2.length+1)/2+(x.2.length+1)/2 by omega)
     rw[eO]at hm
     have:=sq_lt (a:=bQ (ah x)) (b:=pw ((x.2.length+1)/2)) (by omega) (by omega)
     omega) (eE (k:=900000) (by have:=b8 900000;omega) (by
      have:=c7 (show(x.2.length+1)/2+1≤900000 by omega)
      rw[ce]at this
      omega))
   refine XQ _ ⟨n,?_⟩
   unfold Jh eP qO
   simp only[hk]
   rw[hn,show((x.2.length:Int)==0)=false by simp;omega]
   simp only[avP]
   rw[at7 (show(0:Int)≤(((x.2.length+1)/2:Nat):Int)∧(((x.2.length+1)/2:Nat):Int)*((4:Nat):Int)≤140737488355328∧(((x.2.length+1)/2:Nat):Int)≤140737488355328 by omega)]
   rw[at7 (show((List.replicate ((x.2.length+1)/2) (0:Int)).length+([1]:List Nat).length)*4≤140737488355328∧(List.replicate ((x.2.length+1)/2) (0:Int)).length+([1]:List Nat).length≤140737488355328 by simp;omega)]
   rw[at7 hL,at7 (show aY 2 by decide),hv]
   exact hN
 ·refine XQ _ ⟨0,?_⟩
  unfold Jh eP qO
  rw[hn]
  rfl
theorem Dx(x:BI)(hx:okI x)(hv:val x.2≤9223372036854775808):∀(i:Nat),i≤x.2.length→IH.Runs 16 (tF x (val (x.2.drop i)) ((i:Int)-1)) [.d axf (i64.wrap (bif x.1 then u64.wrap (0-val x.2)else val x.2)),.d .bool true]
 |0,_=>by
  refine yr _ _ _ ⟨0,?_⟩
  unfold sB
  rw[at9 (by omega),avX]
  cases x.1<;>rfl
 |i+1,hi=>by
  obtain⟨n,ih⟩:=Dx x hx hv i (by omega)
  have h0:=hx.2.2
  have hlim:=hx.1.1
  have hd:x.2.drop i=x.2[i]::x.2.drop (i+1):=kn (by omega)
  have hle:∀j,val (x.2.drop j)≤9223372036854775808∧0≤val (x.2.drop j):=fun j=>by
   have l1:Lim (x.2.drop j):=fun y hy=>hlim y (awc hy)
   have l2:Lim (x.2.take j):=fun y hy=>hlim y (awb hy)
   have:=dh (x.2.take j) (x.2.drop j)
   rw[avu]at this
   have n1:=bg l1
   have n2:=bg l2
   have p:=b8 (x.2.take j).length
   have:val (x.2.drop j)≤pw (x.2.take j).length*val (x.2.drop j):=by
    have:=auq (show 1≤pw (x.2.take j).length by omega) n1
    omega
   omega
  have hb:=hlim x.2[i] (au7 _)
  have hv1:=hle i
  have hv2:=hle (i+1)
  rw[hd]at hv1 ih
  simp only[val]at hv1 ih
  refine yr _ _ _ ⟨n,?_⟩
  unfold sB
  rw[show(((i+1:Nat):Int)-1)=(i:Int) by omega,at7 (by omega),aM,at8 (by omega)]
  dsimp only
  rw[bK (x:=val (x.2.drop (i+1))*1000000000) (by omega) (by omega),bK (x:=x.2[i]) (by omega) (by omega),bK (by omega) (by omega),bj (by omega) (by omega)]
  rw[show val (x.2.drop (i+1))*1000000000+x.2[i]=x.2[i]+1000000000*val (x.2.drop (i+1)) by omega]
  exact ih
theorem abR(x:Bool×List Int)(h:okI x):Con Tryz.prog 295 [.d y2Y x] [.d axf (bif decide (aY (ah x))then ah x else 0),.d .bool (decide (aY (ah x)))]:=by
 refine aP vZ (show IH.Res _ _ _ from ?_)
 obtain⟨x0,x1,x2⟩:=cA h
 have o1:okI x∧okI (ak (-9223372036854775808)):=⟨h,by decide⟩
 have o2:okI x∧okI (ak 9223372036854775807):=⟨h,by decide⟩
 have hl:=h.2.2
 by_cases h1:ah x< -9223372036854775808
 ·refine PC _ ⟨0,?_⟩
  unfold I3
  simp only[aK,dec_enc,at7 o1]
  rw[at7 (show aY (-9223372036854775808) by decide),cQ h1,at9 (show ¬aY (ah x) from fun g=>by have:=g.1;omega)]
  rfl
 ·have c1:decide (ck (ah x) (-9223372036854775808)<0)=false:=by
   rcases Int.lt_or_eq_of_le (show-9223372036854775808≤ah x by omega)with g|g
   ·rw[cH g];rfl
   ·rw[←g,dB];rfl
  by_cases h2:9223372036854775807<ah x
  ·refine PC _ ⟨0,?_⟩
   unfold I3
   simp only[aK,dec_enc,at7 o1,at7 o2]
   rw[at7 (show aY (-9223372036854775808) by decide),c1,at7 (show aY 9223372036854775807 by decide),cH h2,at9 (show ¬aY (ah x) from fun g=>by have:=g.2;omega)]
   rfl
  ·have c2:decide (ck (ah x) 9223372036854775807>0)=false:=by
    rcases Int.lt_or_eq_of_le (show ah x≤9223372036854775807 by omega)with g|g
    ·rw[cQ g];rfl
    ·rw[g,dB];rfl
   have hp:aY (ah x):=⟨by omega,by omega⟩
   have hvv:val x.2≤9223372036854775808:=by
    have g1:=hp.1
    have g2:=hp.2
    have hd:ah x=bif x.1 then-val x.2 else val x.2:=rfl
    cases hb:x.1<;>rw[hb]at hd<;>simp only[cond_true,cond_false]at hd<;>omega
   obtain⟨n,hN⟩:=Dx x h hvv x.2.length (auj _)
   refine PC _ ⟨n,?_⟩
   unfold I3
   simp only[aK,dec_enc,at7 o1,at7 o2]
   rw[at7 (show aY (-9223372036854775808) by decide),c1,at7 (show aY 9223372036854775807 by decide),c2,at7 hp]
   rw[awl]at hN
   rw[bj (by omega) (by omega)]
   refine hN.trans ?_
   have hr:i64.wrap (bif x.1 then u64.wrap (0-val x.2)else val x.2)=ah x:=by
    have hd:ah x=bif x.1 then-val x.2 else val x.2:=rfl
    have:=hp.1
    have:=hp.2
    cases hb:x.1<;>rw[hb]at hd<;>simp only[cond_true,cond_false]at hd ⊢
    ·rw[bj (by omega) (by omega)];omega
    ·have:=x1 hb
     rw[auX,IntKind.wrap_i64]
     omega
   rw[hr]
   rfl
def pg(a:List Int):Prop:=bi a∧val a<18446744073709551616
instance (a:List Int):Decidable (pg a):=by unfold pg;infer_instance
def nZ(a b:List Int):Prop:=(can a∧a.length≤1000000000)∧(can b∧b.length≤1000000000)
instance (a b:List Int):Decidable (nZ a b):=by unfold nZ;infer_instance
def fW(l:List Int):Prop:=Lim l∧l.length≤10000000
instance (l:List Int):Decidable (fW l):=by unfold fW;infer_instance
theorem cD{n:Nat}(h:(ai n).length≤1000000000):bi (ai n):=⟨b9 n,h⟩
theorem bV{v:Int}(h:0≤v):val (ai v.toNat)=v:=by rw[bL];omega
theorem cB{v:Int}{k:Nat}(h0:0≤v)(h:v<pw k):(ai v.toNat).length≤k:=c8 (by omega)
def re:Env:=[]
theorem ks:EnvAll Tryz.prog re:=trivial
def X4:NT:=[((185,4),{keep:=[0],pure_:=[(0,.int .u32)],hl:=0})]
def AI:Ctx:=CX re X4
def tK(s0:List Int):Cfg:=⟨185,[.blk 0,.seq 13],[(0,.d axe s0)],[],0,[]⟩
def ahZ(a:List Int)(k:KT):Option (List RV):=k 4 (tK a)
theorem aiH(a:List Int):RS AI 185 [.d axe a] (ahZ a):=rsX
def rh(s0:List Int)(k:KT):Option (List RV):=match decide ((s0.length:Int)>0)with|true=>(match bH s0 (i64.wrap ((s0.length:Int)-1))with|some x1=>(match x1==0 with|true=>(match decide ((0:Int)≤0∧0≤i64.wrap ((s0.length:Int)-1)∧i64.wrap ((s0.length:Int)-1)≤(s0.length:Int))with|true=>k 4 (tK ((s0.take (i64.wrap ((s0.length:Int)-1)).toNat).drop (0:Int).toNat))|false=>none)|false=>some [RV.d axe s0])|none=>none)|false=>some [RV.d axe s0]
theorem rB(s0:List Int):RN AI 4 (tK s0) (rh s0):=rnX
def aca:NT:=[((189,8),{keep:=[0,3,4],hl:=0})]
def zW:Ctx:=CX re aca
def t5(a:List Int)(s3 s4:Int):Cfg:=⟨189,[.blk 0,.seq 19],[(0,.d axe a),(3,.d (.int .u64) s3),(4,SI s4)],[],0,[]⟩
def Nb(a:List Int)(k:KT):Option (List RV):=k 8 (t5 a 0 (i64.wrap ((a.length:Int)-1)))
theorem ajH(a:List Int):RS zW 189 [.d axe a] (Nb a):=rsX
def rO(a:List Int)(s3 s4:Int)(k:KT):Option (List RV):=match decide (s4≥0)with|true=>(match bH a s4 with|some x1=>k 8 (t5 a (u64.wrap ((u64.wrap (s3*1000000000))+(u64.wrap x1))) (i64.wrap (s4-1)))|none=>none)|false=>some [RV.d (.int .u64) s3]
theorem xL(a:List Int)(s3 s4:Int):RN zW 8 (t5 a s3 s4) (rO a s3 s4):=rnX
def aaZ:NT:=[((190,6),{keep:=[0,3],own:=[(3,183,.int .u32)],hl:=1})]
def zS:Ctx:=CX re aaZ
def tn(s0:Int)(r0:List Int):Cfg:=⟨190,[.blk 0,.seq 17],[(0,.d (.int .u64) s0),(3,.own 0)],[.row 183 axg r0],0,[]⟩
def aih(u:Int)(k:KT):Option (List RV):=k 6 (tn u ([]))
theorem akL(u:Int):RS zS 190 [.d (.int .u64) u] (aih u):=rsX
def ru(s0:Int)(r0:List Int)(k:KT):Option (List RV):=match decide (s0>0)with|true=>(match decide ((r0.length+([u32.wrap (Int.tmod s0 1000000000)]).length)*4≤140737488355328∧r0.length+([u32.wrap (Int.tmod s0 1000000000)]).length≤140737488355328)with|true=>k 6 (tn (u64.wrap (Int.tdiv s0 1000000000)) (r0++([u32.wrap (Int.tmod s0 1000000000)])))|false=>none)|false=>some [RV.new 183 axg r0]
theorem xW(s0:Int)(r0:List Int):RN zS 6 (tn s0 r0) (ru s0 r0):=rnX
def YJ:NT:=[((186,22),{keep:=[0,1,5],hl:=0})]
def Bs:Ctx:=CX re YJ
def pZ(a b:List Int)(s5:Int):Cfg:=⟨186,[.blk 0,.seq 47],[(0,.d axe a),(1,.d axe b),(5,SI s5)],[],0,[]⟩
def Hx(a b:List Int)(k:KT):Option (List RV):=match(a.length:Int) !=(b.length:Int)with|true=>(match decide ((a.length:Int)<(b.length:Int))with|true=>some [RV.d axf (-1)]|false=>some [RV.d axf 1])|false=>k 22 (pZ a b (i64.wrap ((a.length:Int)-1)))
theorem Po(a b:List Int):RS Bs 186 [.d axe a,.d axe b] (Hx a b):=rsX
def ji(a b:List Int)(s5:Int)(k:KT):Option (List RV):=match decide (s5≥0)with|true=>(match bH a s5 with|some x1=>(match bH b s5 with|some x2=>(match decide (x1<x2)with|true=>some [RV.d axf (-1)]|false=>(match bH a s5 with|some x3=>(match bH b s5 with|some x4=>(match decide (x3>x4)with|true=>some [RV.d axf 1]|false=>k 22 (pZ a b (i64.wrap (s5-1))))|none=>none)|none=>none))|none=>none)|none=>none)|false=>some [RV.d axf 0]
theorem lK(a b:List Int)(s5:Int):RN Bs 22 (pZ a b s5) (ji a b s5):=rnX
theorem Kw(l:List Int)(hl:Lim l)(hs:l.length≤1000000000):∀(n:Nat),n≤l.length→(∀j (hj:j<l.length),n≤j→l[j]=0)→AI.Runs 4 (tK (l.take n)) [.d axe (ai (val l).toNat)]:=by
 intro n
 induction n with
 |zero=>
  intro _ h
  refine rB _ ⟨0,?_⟩
  rw[←j9 hl (aw1 _) h (.inl rfl)]
  rfl
 |succ n ih=>
  intro hn h
  have hlen:(l.take (n+1)).length=n+1:=by rw[auW,auI hn]
  have hget:(l.take (n+1))[n]?=some l[n]:=by rw[List.getElem?_take_of_lt (by omega),at8 (by omega)]
  by_cases hz:l[n]=0
  ·obtain⟨q,hq⟩:=ih (by omega) fun j hj hk=>by
    rcases Nat.eq_or_lt_of_le hk with e|e
    ·subst e;exact hz
    ·exact h j hj e
   refine rB _ ⟨q,?_⟩
   unfold rh
   rw[hlen,at7 (by omega),KQ (by omega) (by omega),aM,show n+1-1=n from rfl,hget]
   dsimp only
   rw[hz,at7 (show(0:Int)≤0∧(0:Int)≤(n:Int)∧(n:Int)≤((n+1:Nat):Int) by omega),aR,List.take_take,auI (by omega)]
   exact hq
  ·refine rB _ ⟨0,?_⟩
   unfold rh
   rw[hlen,at7 (by omega),KQ (by omega) (by omega),aM,show n+1-1=n from rfl,hget]
   dsimp only
   rw[show(l[n]==0)=false by simpa using hz,←j9 hl hn h (.inr ⟨Nat.lt_of_succ_le hn,hz⟩)]
theorem NX(a:List Int)(h:bi a):Con Tryz.prog 185 [.d axe a] [.d axe (ai (val a).toNat)]:=by
 refine aP ks (show AI.Res _ _ _ from ?_)
 obtain⟨q,hq⟩:=Kw a h.1 h.2 a.length (auj _) (fun j hj hk=>by omega)
 rw[avm]at hq
 exact aiH _ ⟨q,hq⟩
theorem Mt(u:Nat):∀(r:List Int),(u:Int)<18446744073709551616→r.length+3≤1000+3-(ai u).length→zS.Runs 6 (tn (u:Int) r) [.new 183 axg (r++ai u)]:=by
 induction u using nF with
 |h0=>
  intro r _ _
  refine xW _ _ ⟨0,?_⟩
  unfold ru
  rw[eD,auZ]
  rfl
 |h1 n hn ih=>
  intro r hu hr
  rw[fR hn]at hr
  simp only[auD]at hr
  obtain⟨q,hq⟩:=ih (r++[((n%1000000000:Nat):Int)]) (by omega) (by rw[avs];simp only[auH];omega)
  refine xW _ _ ⟨q,?_⟩
  unfold ru
  rw[at7 (by omega),ic (by omega),fA (by omega),bK (x:=(n:Int)/1000000000) (by omega) (by omega),cV (x:=(n:Int)%1000000000) (by omega) (by omega)]
  simp only[auH]
  rw[ald (by omega) (by omega),fR hn]
  rw[show((n:Int)%1000000000)=((n%1000000000:Nat):Int) by omega,show((n:Int)/1000000000)=((n/1000000000:Nat):Int) by omega]
  rw[avw]at hq
  exact hq
theorem Sq(u:Int)(h:fN u):Con Tryz.prog 190 [.d (.int .u64) u] [.new 183 axg (ai u.toNat)]:=by
 refine aP ks (show zS.Res _ _ _ from ?_)
 have h0:=h.1
 have h1:=h.2
 have hl:=c8 (n:=u.toNat) (k:=3) (aws (show(u.toNat:Int)<18446744073709551616 by omega) (by decide))
 obtain⟨q,hq⟩:=Mt u.toNat [] (by omega) (by simp;omega)
 rw[show((u.toNat:Nat):Int)=u by omega]at hq
 exact akL _ ⟨q,hq⟩
theorem zk(a:List Int)(h:pg a):∀(i:Nat),i≤a.length→zW.Runs 8 (t5 a (val (a.drop i)) ((i:Int)-1)) [.d (.int .u64) (val a)]
 |0,_=>by
  refine xL _ _ _ ⟨0,?_⟩
  unfold rO
  rw[at9 (by omega),avX]
 |i+1,hi=>by
  obtain⟨n,ih⟩:=zk a h i (by omega)
  have h0:=h.1.2
  have hlim:=h.1.1
  have hlt:=h.2
  have hd:a.drop i=a[i]::a.drop (i+1):=kn (by omega)
  have hle:∀j,val (a.drop j)≤val a∧0≤val (a.drop j):=fun j=>by
   have l1:Lim (a.drop j):=fun y hy=>hlim y (awc hy)
   have l2:Lim (a.take j):=fun y hy=>hlim y (awb hy)
   have:=dh (a.take j) (a.drop j)
   rw[avu]at this
   have n1:=bg l1
   have n2:=bg l2
   have p:=b8 (a.take j).length
   have:val (a.drop j)≤pw (a.take j).length*val (a.drop j):=by
    have:=auq (show 1≤pw (a.take j).length by omega) n1
    omega
   omega
  have hb:=hlim a[i] (au7 _)
  have hv1:=hle i
  have hv2:=hle (i+1)
  rw[hd]at hv1 ih
  simp only[val]at hv1 ih
  refine xL _ _ _ ⟨n,?_⟩
  unfold rO
  rw[show(((i+1:Nat):Int)-1)=(i:Int) by omega,at7 (by omega),aM,at8 (by omega)]
  dsimp only
  rw[bK (x:=val (a.drop (i+1))*1000000000) (by omega) (by omega),bK (x:=a[i]) (by omega) (by omega),bK (by omega) (by omega),bj (by omega) (by omega)]
  rw[show val (a.drop (i+1))*1000000000+a[i]=a[i]+1000000000*val (a.drop (i+1)) by omega]
  exact ih
theorem NH(a:List Int)(h:pg a):Con Tryz.prog 189 [.d axe a] [.d (.int .u64) (val a)]:=by
 refine aP ks (show zW.Res _ _ _ from ?_)
 obtain⟨n,hn⟩:=zk a h a.length (auj _)
 have h0:=h.1.2
 refine ajH _ ⟨n,?_⟩
 unfold Nb
 rw[awl]at hn
 rw[bj (by omega) (by omega)]
 exact hn
theorem Kz(a b:List Int)(la:Lim a)(lb:Lim b)(hl:a.length=b.length)(hs:a.length≤1000000000):∀(n:Nat),n≤a.length→a.drop n=b.drop n→
  Bs.Runs 22 (pZ a b ((n:Int)-1)) [.d axf (ck (val a) (val b))]:=by
 intro n
 induction n with
 |zero=>
  intro _ h
  refine lK _ _ _ ⟨0,?_⟩
  have e:val a=val b:=by simp only[avX]at h;rw[h]
  unfold ji
  rw[at9 (by omega),e,dB]
 |succ n ih=>
  intro hn h
  have h1:n<a.length:=by omega
  have h2:n<b.length:=by omega
  rcases avY a[n] b[n]with hc|hc|hc
  ·refine lK _ _ _ ⟨0,?_⟩
   have:=Ad la lb h1 h2 h hc
   unfold ji
   rw[show((n+1:Nat):Int)-1=(n:Int) by omega,at7 (by omega),aM,aM,at8 h1,at8 h2]
   dsimp only
   rw[at7 hc,cQ (by omega)]
  ·obtain⟨q,hq⟩:=ih (by omega) (by rw[auv h1,auv h2,hc,h])
   refine lK _ _ _ ⟨q,?_⟩
   unfold ji
   rw[show((n+1:Nat):Int)-1=(n:Int) by omega,at7 (by omega),aM,aM,at8 h1,at8 h2]
   dsimp only
   rw[at9 (by omega),at9 (by omega),bj (x:=(n:Int)-1) (by omega) (by omega)]
   exact hq
  ·refine lK _ _ _ ⟨0,?_⟩
   have:=Ad lb la h2 h1 h.symm hc
   unfold ji
   rw[show((n+1:Nat):Int)-1=(n:Int) by omega,at7 (by omega),aM,aM,at8 h1,at8 h2]
   dsimp only
   rw[at9 (by omega),at7 hc,cH (by omega)]
theorem IQ{a b:List Int}(ha:can a)(hb:can b)(h:a.length<b.length):val a<val b:=by
 have ea:=l7 ha
 have eb:=l7 hb
 have:=ue (a:=(val a).toNat) (b:=(val b).toNat) (by rw[←ea,←eb];exact h)
 have:=bg ha.1
 omega
theorem Wn(a b:List Int)(h:nZ a b):Con Tryz.prog 186 [.d axe a,.d axe b] [.d axf (ck (val a) (val b))]:=by
 refine aP ks (show Bs.Res _ _ _ from ?_)
 obtain⟨⟨ha,sa⟩,hb,sb⟩:=h
 by_cases hl:a.length=b.length
 ·obtain⟨q,hq⟩:=Kz a b ha.1 hb.1 hl sa _ (auj _) (by rw[awl,hl,awl])
  refine Po _ _ ⟨q,?_⟩
  unfold Hx
  rw[show((a.length:Int) !=(b.length:Int))=false by simp[hl],bj (x:=(a.length:Int)-1) (by omega) (by omega)]
  exact hq
 ·refine Po _ _ ⟨0,?_⟩
  unfold Hx
  rw[show((a.length:Int) !=(b.length:Int))=true by simp;omega]
  dsimp only
  rcases Nat.lt_or_gt_of_ne hl with h1|h1
  ·have:=IQ ha hb h1
   rw[at7 (by omega),cQ (by omega)]
  ·have:=IQ hb ha h1
   rw[at9 (by omega),cH (by omega)]
def nE:aN:=spN false false [axe] (fun x=>decide (bi x.1)) (fun x=>[RV.d axe (ai (val x.1).toNat)])
theorem kq:SpK 185 nE:=spX fun x h=>NX x.1 (at6 h)
def pW:aN:=spN false false [(.int .u64)] (fun x=>decide (fN x.1)) (fun x=>[RV.new 183 axg (ai x.1.toNat)])
theorem nY:SpK 190 pW:=spX fun x h=>Sq x.1 (at6 h)
def qs:aN:=spN true false [axe] (fun x=>decide (pg x.1)) (fun x=>[RV.d (.int .u64) (val x.1)])
theorem ny:SpK 189 qs:=spX fun x h=>NH x.1 (at6 h)
def nM:aN:=spN true false [axe,axe] (fun x=>decide (nZ x.1 x.2.1)) (fun x=>[RV.d axf (ck (val x.1) (val x.2.1))])
theorem kB:SpK 186 nM:=spX fun x h=>Wn x.1 x.2.1 (at6 h)
def w8:Env:=(185,nE)::(190,pW)::(189,qs)::(186,nM)::re
theorem m9:EnvAll Tryz.prog w8:=⟨kq,nY,ny,kB,ks⟩
def ahM:Ctx:=CX w8 []
def Om(neg:Bool)(l:List Int)(_k:KT):Option (List RV):=match decide (bi l)with|true=>(match neg with|true=>some [RV.d y2Y (decide (((ai (val l).toNat).length:Int)>0),ai (val l).toNat)]|false=>some [RV.d y2Y (false,ai (val l).toNat)])|false=>none
theorem ajR(neg:Bool)(l:List Int):RS ahM 188 [SB neg,.d axe l] (Om neg l):=rsX
def aaw:NT:=[((255,16),{keep:=[0,1,5,6,7],hl:=1})]
def wo:Ctx:=CX w8 aaw
def jo(s0 s1 r0:List Int)(s6 s7:Int):Cfg:=⟨255,[.blk 0,.seq 37],[(0,.d axe s0),(1,.d axe s1),(5,.own 0),(6,.d axg s6),(7,SI s7)],[.row 183 axg r0],0,[]⟩
def G7(a b:List Int)(k:KT):Option (List RV):=match decide ((a.length:Int)<(b.length:Int))with|true=>(match decide ((0:Int)≤i64.wrap ((b.length:Int)+1)∧(i64.wrap ((b.length:Int)+1))*((4:Nat):Int)≤140737488355328∧i64.wrap ((b.length:Int)+1)≤140737488355328)with|true=>k 16 (jo b a (List.replicate (i64.wrap ((b.length:Int)+1)).toNat (0:Int)) 0 0)|false=>none)|false=>(match decide ((0:Int)≤i64.wrap ((a.length:Int)+1)∧(i64.wrap ((a.length:Int)+1))*((4:Nat):Int)≤140737488355328∧i64.wrap ((a.length:Int)+1)≤140737488355328)with|true=>k 16 (jo a b (List.replicate (i64.wrap ((a.length:Int)+1)).toNat (0:Int)) 0 0)|false=>none)
theorem Tq(a b:List Int):RS wo 255 [.d axe a,.d axe b] (G7 a b):=rsX
def lj(s0 s1 r0:List Int)(s6 s7:Int)(k:KT):Option (List RV):=match decide (s7<(s0.length:Int))with|true=>(match bH s0 s7 with|some x1=>(match decide (s7<(s1.length:Int))with|true=>(match bH s1 s7 with|some x2=>(match bH r0 s7 with|some _=>(match true,r0[(s7).toNat]? with|true,some _=>k 16 (jo s0 s1 (r0.set ((s7).toNat) (Int.tmod (u32.wrap ((u32.wrap (s6+x1))+x2)) 1000000000)) (u32.wrap (Int.tdiv (u32.wrap ((u32.wrap (s6+x1))+x2)) 1000000000)) (i64.wrap (s7+1)))|_,_=>none)|none=>none)|none=>none)|false=>(match bH r0 s7 with|some _=>(match true,r0[(s7).toNat]? with|true,some _x2=>k 16 (jo s0 s1 (r0.set ((s7).toNat) (Int.tmod (u32.wrap (s6+x1)) 1000000000)) (u32.wrap (Int.tdiv (u32.wrap (s6+x1)) 1000000000)) (i64.wrap (s7+1)))|_,_=>none)|none=>none))|none=>none)|false=>(match bH r0 (s0.length:Int)with|some _=>(match true,r0[((s0.length:Int)).toNat]? with|true,some _x1=>(match decide (bi (r0.set (((s0.length:Int)).toNat) s6))with|true=>some [RV.d axe (ai (val (r0.set (((s0.length:Int)).toNat) s6)).toNat)]|false=>none)|_,_=>none)|none=>none)
theorem oJ(s0 s1 r0:List Int)(s6 s7:Int):RN wo 16 (jo s0 s1 r0 s6 s7) (lj s0 s1 r0 s6 s7):=rnX
def aai:NT:=[((250,10),{keep:=[0,1,5,6,7],hl:=1})]
def un:Ctx:=CX w8 aai
def gZ(a b:List Int)(s7:Int)(r0:List Int)(s6:Int):Cfg:=⟨250,[.blk 0,.seq 37],[(0,.d axe a),(1,.d axe b),(5,.own 0),(6,.d axg s6),(7,SI s7)],[.row 183 axg r0],0,[]⟩
def Tt(a b:List Int)(k:KT):Option (List RV):=match decide ((0:Int)≤(a.length:Int)∧(a.length:Int)*((4:Nat):Int)≤140737488355328∧(a.length:Int)≤140737488355328)with|true=>k 10 (gZ a b 0 (List.replicate ((a.length:Int)).toNat (0:Int)) 0)|false=>none
theorem aiM(a b:List Int):RS un 250 [.d axe a,.d axe b] (Tt a b):=rsX
def gF(a b:List Int)(s7:Int)(r0:List Int)(s6:Int)(k:KT):Option (List RV):=match decide (s7<(a.length:Int))with|true=>(match bH a s7 with|some x1=>(match decide (s7<(b.length:Int))with|true=>(match bH b s7 with|some x2=>(match decide ((u32.wrap ((u32.wrap ((u32.wrap (x1+1000000000))-s6))-x2))≥1000000000)with|true=>(match bH r0 s7 with|some _=>(match true,r0[(s7).toNat]? with|true,some _x3=>k 10 (gZ a b (i64.wrap (s7+1)) (r0.set ((s7).toNat) (u32.wrap ((u32.wrap ((u32.wrap ((u32.wrap (x1+1000000000))-s6))-x2))-1000000000))) 0)|_,_=>none)|none=>none)|false=>(match bH r0 s7 with|some _=>(match true,r0[(s7).toNat]? with|true,some _x3=>k 10 (gZ a b (i64.wrap (s7+1)) (r0.set ((s7).toNat) (u32.wrap ((u32.wrap ((u32.wrap (x1+1000000000))-s6))-x2))) 1)|_,_=>none)|none=>none))|none=>none)|false=>(match decide ((u32.wrap ((u32.wrap (x1+1000000000))-s6))≥1000000000)with|true=>(match bH r0 s7 with|some _=>(match true,r0[(s7).toNat]? with|true,some _x2=>k 10 (gZ a b (i64.wrap (s7+1)) (r0.set ((s7).toNat) (u32.wrap ((u32.wrap ((u32.wrap (x1+1000000000))-s6))-1000000000))) 0)|_,_=>none)|none=>none)|false=>(match bH r0 s7 with|some _=>(match true,r0[(s7).toNat]? with|true,some _x2=>k 10 (gZ a b (i64.wrap (s7+1)) (r0.set ((s7).toNat) (u32.wrap ((u32.wrap (x1+1000000000))-s6))) 1)|_,_=>none)|none=>none)))|none=>none)|false=>(match decide (bi r0)with|true=>some [RV.d axe (ai (val r0).toNat)]|false=>none)
theorem iV(a b:List Int)(s7:Int)(r0:List Int)(s6:Int):RN un 10 (gZ a b s7 r0 s6) (gF a b s7 r0 s6):=rnX
def abZ:NT:=[((251,8),{keep:=[0,1,5,6],hl:=1}),((251,23),{keep:=[0,1,5,6,7,8],hl:=1})]
def oC:Ctx:=CX w8 abZ
def qg(a b:List Int)(s6:Int)(r0:List Int):Cfg:=⟨251,[.blk 0,.seq 40],[(0,.d axe a),(1,.d axe b),(5,.own 0),(6,SI s6)],[.row 183 axg r0],0,[]⟩
def qp(a b:List Int)(s6 s7 s8:Int)(r0:List Int):Cfg:=⟨251,[.blk 2,.seq 38,.blk 1,.seq 39,.lp 8,.blk 0,.seq 40],[(0,.d axe a),(1,.d axe b),(5,.own 0),(6,SI s6),(7,.d (.int .u64) s7),(8,SI s8)],[.row 183 axg r0],0,[]⟩
def Ti(a b:List Int)(k:KT):Option (List RV):=match decide ((0:Int)≤i64.wrap ((a.length:Int)+(b.length:Int))∧(i64.wrap ((a.length:Int)+(b.length:Int)))*((4:Nat):Int)≤140737488355328∧i64.wrap ((a.length:Int)+(b.length:Int))≤140737488355328)with|true=>k 8 (qg a b 0 (List.replicate (i64.wrap ((a.length:Int)+(b.length:Int))).toNat (0:Int)))|false=>none
theorem ag3(a b:List Int):RS oC 251 [.d axe a,.d axe b] (Ti a b):=rsX
def sw(a b:List Int)(s6:Int)(r0:List Int)(k:KT):Option (List RV):=match decide (s6<(a.length:Int))with|true=>k 23 (qp a b s6 0 0 r0)|false=>(match decide (bi r0)with|true=>some [RV.d axe (ai (val r0).toNat)]|false=>none)
theorem yu(a b:List Int)(s6:Int)(r0:List Int):RN oC 8 (qg a b s6 r0) (sw a b s6 r0):=rnX
def ph(a b:List Int)(s6 s7 s8:Int)(r0:List Int)(k:KT):Option (List RV):=match decide (s8<(b.length:Int))with|true=>(match bH r0 (i64.wrap (s6+s8))with|some _=>(match true,r0[(i64.wrap (s6+s8)).toNat]? with|true,some x1=>(match bH a s6 with|some x2=>(match bH b s8 with|some x3=>(match bH r0 (i64.wrap (s6+s8))with|some _=>(match true,r0[(i64.wrap (s6+s8)).toNat]? with|true,some _=>k 23 (qp a b s6 (u64.wrap (Int.tdiv (u64.wrap ((u64.wrap (s7+(u64.wrap x1)))+(u64.wrap ((u64.wrap x2)*(u64.wrap x3))))) 1000000000)) (i64.wrap (s8+1)) (r0.set ((i64.wrap (s6+s8)).toNat) (u32.wrap (Int.tmod (u64.wrap ((u64.wrap (s7+(u64.wrap x1)))+(u64.wrap ((u64.wrap x2)*(u64.wrap x3))))) 1000000000))))|_,_=>none)|none=>none)|none=>none)|none=>none)|_,_=>none)|none=>none)|false=>(match bH r0 (i64.wrap (s6+(b.length:Int)))with|some _=>(match true,r0[(i64.wrap (s6+(b.length:Int))).toNat]? with|true,some _x1=>k 8 (qg a b (i64.wrap (s6+1)) (r0.set ((i64.wrap (s6+(b.length:Int))).toNat) (u32.wrap s7)))|_,_=>none)|none=>none)
theorem v6(a b:List Int)(s6 s7 s8:Int)(r0:List Int):RN oC 23 (qp a b s6 s7 s8 r0) (ph a b s6 s7 s8 r0):=rnX
theorem Ui(neg:Bool)(l:List Int)(h:bi l):Con Tryz.prog 188 [.d .bool neg,.d axe l] [.d y2Y (ak (cf neg (val l)))]:=by
 refine aP m9 (ajR _ _ ⟨0,?_⟩)
 have hv:=bg h.1
 have hp:decide (((ai (val l).toNat).length:Int)>0)=decide (0<val l):=by
  refine auE.2 ⟨fun g=>?_,fun g=>?_⟩
  ·apply aut
   intro hc
   rw[show(val l).toNat=0 by omega,eD]at g
   simp at g
  ·have:ai (val l).toNat≠[]:=fun e=>by rw[fU]at e;omega
   have:=auR.2 this
   omega
 unfold Om
 rw[at7 h,kJ neg hv,hp]
 cases neg<;>rfl
theorem yU(a b:List Int)(ha:fW a)(hb:fW b)(hab:b.length≤a.length):∀(j i:Nat) (c:Int) (r:List Int),i+j=a.length→0≤c→c≤1→Lim r→r.length=a.length+1→(∀k (hk:k<r.length),i≤k→r[k]=0)→val r+pw i*c=val (a.take i)+val (b.take i)→
  wo.Runs 16 (jo a b r c (i:Int)) [.d axe (ai (val a+val b).toNat)]:=by
 have hsa:=ha.2
 intro j
 induction j with
 |zero=>
  intro i c r hi c0 c1 hr hl hz hv
  obtain rfl:i=a.length:=by omega
  have hir:a.length<r.length:=by omega
  have hr0:=hz _ hir (auj _)
  have e:val (r.set a.length c)=val a+val b:=by
   rw[eF hir,hr0]
   rw[avm,auV hab]at hv
   grind
  refine oJ _ _ _ _ _ ⟨0,?_⟩
  unfold lj
  rw[cN (auj _),aM r,aR,at8 hir]
  dsimp only
  rw[at7 (show bi (r.set a.length c) from⟨hr.set _ ⟨c0,by omega⟩,by simp;omega⟩),e]
 |succ j ih=>
  intro i c r hi c0 c1 hr hl hz hv
  have hia:i<a.length:=by omega
  have hir:i<r.length:=by omega
  have xa:=ha.1.get hia
  have hr0:=hz i hir (auj _)
  have step:∀(t:Int),0≤t→t<2000000000→val (b.take (i+1))=val (b.take i)+pw i*(t-a[i]-c)→wo.Runs 16 (jo a b (r.set i (t%1000000000)) (t/1000000000) ((i+1:Nat):Int)) [.d axe (ai (val a+val b).toNat)]:=by
   intro t t0 t1 hb'
   refine ih (i+1) (t/1000000000) (r.set i (t%1000000000)) (by omega) (by omega) (by omega) (hr.set i ⟨by omega,by omega⟩) (by simpa using hl) (mc hz) ?_
   rw[eF hir,hr0,bk hia,hb',ce]
   have:=Int.emod_add_mul_ediv t 1000000000
   grind
  by_cases hib:i<b.length
  ·have xb:=hb.1.get hib
   have ht:=bk hib
   obtain⟨q,hq⟩:=step (c+a[i]+b[i]) (by omega) (by omega) (by rw[ht];grind)
   refine oJ _ _ _ _ _ ⟨q,?_⟩
   unfold lj
   rw[cg hia,aM,at8 hia,cg hib,aM,at8 hib,aM r i,aR,at8 hir]
   dsimp only
   rw[cV (x:=c+a[i]) (by omega) (by omega),cV (x:=c+a[i]+b[i]) (by omega) (by omega),ic (by omega),fA (by omega),cV (x:=(c+a[i]+b[i])/1000000000) (by omega) (by omega),cO (by omega)]
   exact hq
  ·have ht:=iD (b:=b) (i:=i) (by omega)
   obtain⟨q,hq⟩:=step (c+a[i]) (by omega) (by omega) (by rw[ht];grind)
   refine oJ _ _ _ _ _ ⟨q,?_⟩
   unfold lj
   rw[cg hia,aM,at8 hia,cN (show b.length≤i by omega),aM r i,aR,at8 hir]
   dsimp only
   rw[cV (x:=c+a[i]) (by omega) (by omega),ic (by omega),fA (by omega),cV (x:=(c+a[i])/1000000000) (by omega) (by omega),cO (by omega)]
   exact hq
theorem Vd(a b:List Int)(h:fW a∧fW b):Con Tryz.prog 255 [.d axe a,.d axe b] [.d axe (ai (val a+val b).toNat)]:=by
 refine aP m9 (show wo.Res _ _ _ from ?_)
 obtain⟨ha,hb⟩:=h
 have hsa:=ha.2
 have hsb:=hb.2
 by_cases hc:a.length<b.length
 ·obtain⟨q,hq⟩:=yU b a hb ha (by omega) b.length 0 0 (List.replicate (b.length+1) 0) (by omega) (by omega) (by omega) (Lim.rep _) (by simp) (fun k hk _=>by simp) (by simp[val,fJ])
  refine Tq _ _ ⟨q,?_⟩
  unfold G7
  rw[cg hc,cO (by omega),pH (by omega),aR,awT (val a)]
  exact hq
 ·obtain⟨q,hq⟩:=yU a b ha hb (by omega) a.length 0 0 (List.replicate (a.length+1) 0) (by omega) (by omega) (by omega) (Lim.rep _) (by simp) (fun k hk _=>by simp) (by simp[val,fJ])
  refine Tq _ _ ⟨q,?_⟩
  unfold G7
  rw[cN (by omega),cO (k:=a.length) (by omega),pH (n:=a.length+1) (by omega),aR]
  exact hq
theorem LU(a b:List Int)(ha:bi a)(hb:bi b)(hle:val b≤val a):∀(j i:Nat) (c:Int) (r:List Int),i+j=a.length→0≤c→c≤1→Lim r→r.length=a.length→(∀k (hk:k<r.length),i≤k→r[k]=0)→val r+val (b.take i)=val (a.take i)+pw i*c→
  un.Runs 10 (gZ a b (i:Int) r c) [.d axe (ai (val a-val b).toNat)]:=by
 have hsa:=ha.2
 intro j
 induction j with
 |zero=>
  intro i c r hi c0 c1 hr hl hz hv
  obtain rfl:i=a.length:=by omega
  refine iV _ _ _ _ _ ⟨0,?_⟩
  unfold gF
  rw[cN (auj _)]
  have hrl:=bZ hr
  rw[hl]at hrl
  have hb2:val b=val (b.take a.length)+pw (min a.length b.length)*val (b.drop a.length):=fe b a.length
  have hbd:0≤val (b.drop a.length):=bg (hb.1.drop _)
  have hal:=bZ ha.1
  have hbt:=bg (hb.1.take a.length)
  rw[avm]at hv
  have hz0:val (b.drop a.length)=0:=by
   rcases auz a.length b.length with h1|h1
   ·rw[auI (by omega)]at hb2
    rcases auC 0 (val (b.drop a.length))with h2|h2
    ·have hp:=b8 a.length
     have:=aum (show 1≤val (b.drop a.length) by omega) (auJ hp)
     omega
    ·omega
   ·rw[au1 h1];rfl
  rw[hz0,av5,awS]at hb2
  have hc0:c=0:=by
   have hp:=b8 a.length
   rcases(show c=0∨c=1 by omega)with h|h
   ·exact h
   ·subst h;rw[av9]at hv;omega
  subst hc0
  rw[av5]at hv
  rw[at7 (show bi r from⟨hr,by omega⟩),show val r=val a-val b by omega]
 |succ j ih=>
  intro i c r hi c0 c1 hr hl hz hv
  have hia:i<a.length:=by omega
  have hir:i<r.length:=by omega
  have xa:=ha.1.get hia
  have hr0:=hz i hir (auj _)
  have step:∀(y c':Int),0≤y→y<1000000000→0≤c'→c'≤1→val (b.take (i+1))=val (b.take i)+pw i*(a[i]+1000000000*c'-y-c)→un.Runs 10 (gZ a b ((i+1:Nat):Int) (r.set i y) c') [.d axe (ai (val a-val b).toNat)]:=by
   intro y c' y0 y1 k0 k1 hb'
   refine ih (i+1) c' (r.set i y) (by omega) k0 k1 (hr.set i ⟨y0,y1⟩) (by simpa using hl) (mc hz) ?_
   rw[eF hir,hr0,bk hia,hb',ce]
   grind
  by_cases hib:i<b.length
  ·have xb:=hb.1.get hib
   have ht:=bk hib
   by_cases hc:a[i]+1000000000-c-b[i]≥1000000000
   ·obtain⟨q,hq⟩:=step (a[i]+1000000000-c-b[i]-1000000000) 0 (by omega) (by omega) (by omega) (by omega) (by rw[ht];grind)
    refine iV _ _ _ _ _ ⟨q,?_⟩
    unfold gF
    rw[cg hia,aM,at8 hia,cg hib,aM,at8 hib,aM,aR,at8 hir]
    dsimp only
    rw[cV (x:=a[i]+1000000000) (by omega) (by omega),cV (x:=a[i]+1000000000-c) (by omega) (by omega),cV (x:=a[i]+1000000000-c-b[i]) (by omega) (by omega),at7 hc,cV (x:=a[i]+1000000000-c-b[i]-1000000000) (by omega) (by omega),cO (by omega)]
    exact hq
   ·obtain⟨q,hq⟩:=step (a[i]+1000000000-c-b[i]) 1 (by omega) (by omega) (by omega) (by omega) (by rw[ht];grind)
    refine iV _ _ _ _ _ ⟨q,?_⟩
    unfold gF
    rw[cg hia,aM,at8 hia,cg hib,aM,at8 hib,aM,aR,at8 hir]
    dsimp only
    rw[cV (x:=a[i]+1000000000) (by omega) (by omega),cV (x:=a[i]+1000000000-c) (by omega) (by omega),cV (x:=a[i]+1000000000-c-b[i]) (by omega) (by omega),at9 hc,cO (by omega)]
    exact hq
  ·have ht:=iD (b:=b) (i:=i) (by omega)
   by_cases hc:a[i]+1000000000-c≥1000000000
   ·obtain⟨q,hq⟩:=step (a[i]+1000000000-c-1000000000) 0 (by omega) (by omega) (by omega) (by omega) (by rw[ht];grind)
    refine iV _ _ _ _ _ ⟨q,?_⟩
    unfold gF
    rw[cg hia,aM,at8 hia,cN (show b.length≤i by omega),aM r i,aR,at8 hir]
    dsimp only
    rw[cV (x:=a[i]+1000000000) (by omega) (by omega),cV (x:=a[i]+1000000000-c) (by omega) (by omega),at7 hc,cV (x:=a[i]+1000000000-c-1000000000) (by omega) (by omega),cO (by omega)]
    exact hq
   ·obtain⟨q,hq⟩:=step (a[i]+1000000000-c) 1 (by omega) (by omega) (by omega) (by omega) (by rw[ht];grind)
    refine iV _ _ _ _ _ ⟨q,?_⟩
    unfold gF
    rw[cg hia,aM,at8 hia,cN (show b.length≤i by omega),aM r i,aR,at8 hir]
    dsimp only
    rw[cV (x:=a[i]+1000000000) (by omega) (by omega),cV (x:=a[i]+1000000000-c) (by omega) (by omega),at9 hc,cO (by omega)]
    exact hq
theorem Wj(a b:List Int)(h:lL a b):Con Tryz.prog 250 [.d axe a,.d axe b] [.d axe (ai (val a-val b).toNat)]:=by
 refine aP m9 (show un.Res _ _ _ from ?_)
 obtain⟨ha,hb,hle⟩:=h
 have hsa:=ha.2
 obtain⟨q,hq⟩:=LU a b ha hb hle a.length 0 0 (List.replicate a.length 0) (by omega) (by omega) (by omega) (Lim.rep _) (by simp) (fun k hk _=>by simp) (by simp[val,fJ])
 refine aiM _ _ ⟨q,?_⟩
 unfold Tt
 rw[pH (by omega),aR]
 exact hq
theorem GS(a b:List Int)(ha:fW a)(hb:fW b)(i:Nat)(hi:i<a.length)
  (hout:∀r,Lim r→r.length=a.length+b.length→(∀k (hk:k<r.length),i+1+b.length≤k→r[k]=0)→val r=val (a.take (i+1))*val b→oC.Runs 8 (qg a b ((i+1:Nat):Int) r) [.d axe (ai (val a*val b).toNat)]):
  ∀(j k:Nat) (c:Int) (r:List Int),k+j=b.length→0≤c→c<1000000000→Lim r→r.length=a.length+b.length→(∀q (hq:q<r.length),i+b.length≤q→r[q]=0)→val r+pw (i+k)*c=val (a.take i)*val b+pw i*a[i]*val (b.take k)→
  oC.Runs 23 (qp a b (i:Int) c (k:Int) r) [.d axe (ai (val a*val b).toNat)]:=by
 have hsa:=ha.2
 have hsb:=hb.2
 have xa:=ha.1.get hi
 intro j
 induction j with
 |zero=>
  intro k c r hk c0 c1 hr hl hz hv
  obtain rfl:k=b.length:=by omega
  have hir:i+b.length<r.length:=by omega
  have hr0:=hz _ hir (auj _)
  obtain⟨q,hq⟩:=hout (r.set (i+b.length) c) (hr.set _ ⟨c0,c1⟩) (by simpa using hl) (by rw[show i+1+b.length=i+b.length+1 by omega];exact mc hz) (by
   rw[eF hir,hr0,bk hi]
   rw[avm]at hv
   grind)
  refine v6 _ _ _ _ _ _ ⟨q,?_⟩
  have hw:i64.wrap ((i:Int)+(b.length:Int))=((i+b.length:Nat):Int):=by rw[bj (by omega) (by omega)];simp
  unfold ph
  rw[cN (auj _),hw,aM r (i+b.length),aR,at8 hir,cV (x:=c) (by omega) (by omega),cO (k:=i) (by omega)]
  exact hq
 |succ j ih=>
  intro k c r hk c0 c1 hr hl hz hv
  have hkb:k<b.length:=by omega
  have hir:i+k<r.length:=by omega
  have xb:=hb.1.get hkb
  have xr:=hr.get hir
  have hbd:=Fy xr xa xb ⟨c0,c1⟩
  obtain⟨q,hq⟩:=ih (k+1) ((r[i+k]+a[i]*b[k]+c)/1000000000) (r.set (i+k) ((r[i+k]+a[i]*b[k]+c)%1000000000)) (by omega) hbd.2.2.1 hbd.2.2.2 (hr.set _ (by omega)) (by simpa using hl)
   (fun m hm hq=>by rw[avB (by omega)];exact hz m (by simpa using hm) hq) (by
    rw[eF hir,bk hkb,show i+(k+1)=i+k+1 by omega,ce,eO]
    rw[eO]at hv
    have e:=Int.emod_add_mul_ediv (r[i+k]+a[i]*b[k]+c) 1000000000
    grind)
  refine v6 _ _ _ _ _ _ ⟨q,?_⟩
  have hw:i64.wrap ((i:Int)+(k:Int))=((i+k:Nat):Int):=by rw[bj (by omega) (by omega)];simp
  unfold ph
  rw[cg hkb,hw,aM b k,at8 hkb,aM a i,at8 hi,aM r (i+k),aR,at8 hir]
  dsimp only
  rw[bK (x:=r[i+k]) (by omega) (by omega),bK (x:=a[i]) (by omega) (by omega),bK (x:=b[k]) (by omega) (by omega),bK (x:=a[i]*b[k]) (by omega) (by omega),bK (x:=c+r[i+k]) (by omega) (by omega),bK (x:=c+r[i+k]+a[i]*b[k]) (by omega) (by omega),show c+r[i+k]+a[i]*b[k]=r[i+k]+a[i]*b[k]+c by omega,fA (a:=r[i+k]+a[i]*b[k]+c) (by omega),ic (a:=r[i+k]+a[i]*b[k]+c) (by omega),bK (x:=(r[i+k]+a[i]*b[k]+c)/1000000000) (by omega) (by omega),cV (x:=(r[i+k]+a[i]*b[k]+c)%1000000000) (by omega) (by omega),cO (k:=k) (by omega)]
  exact hq
theorem Gt(a b:List Int)(ha:fW a)(hb:fW b):∀(j i:Nat) (r:List Int),i+j=a.length→Lim r→r.length=a.length+b.length→(∀k (hk:k<r.length),i+b.length≤k→r[k]=0)→val r=val (a.take i)*val b→
  oC.Runs 8 (qg a b (i:Int) r) [.d axe (ai (val a*val b).toNat)]:=by
 have hsa:=ha.2
 have hsb:=hb.2
 intro j
 induction j with
 |zero=>
  intro i r hi hr hl hz hv
  obtain rfl:i=a.length:=by omega
  refine yu _ _ _ _ ⟨0,?_⟩
  unfold sw
  rw[avm]at hv
  rw[cN (auj _),at7 (show bi r from⟨hr,by omega⟩),hv]
 |succ j ih=>
  intro i r hi hr hl hz hv
  have hia:i<a.length:=by omega
  obtain⟨q,hq⟩:=GS a b ha hb i hia (fun r' h1 h2 h3 h4=>ih (i+1) r' (by omega) h1 h2 h3 h4) b.length 0 0 r (by omega) (by omega) (by omega) hr hl hz (by simp[val,hv])
  refine yu _ _ _ _ ⟨q,?_⟩
  unfold sw
  rw[cg hia]
  exact hq
theorem Ue(a b:List Int)(h:fW a∧fW b):Con Tryz.prog 251 [.d axe a,.d axe b] [.d axe (ai (val a*val b).toNat)]:=by
 refine aP m9 (show oC.Res _ _ _ from ?_)
 obtain⟨ha,hb⟩:=h
 have hsa:=ha.2
 have hsb:=hb.2
 obtain⟨q,hq⟩:=Gt a b ha hb a.length 0 (List.replicate (a.length+b.length) 0) (by omega) (Lim.rep _) (by simp) (fun k hk _=>by simp) (by simp[val,fJ])
 refine ag3 _ _ ⟨q,?_⟩
 have hw:i64.wrap ((a.length:Int)+(b.length:Int))=((a.length+b.length:Nat):Int):=by rw[bj (by omega) (by omega)];simp
 unfold Ti
 rw[hw,pH (by omega),aR]
 exact hq
theorem p7{x:BI}(h:okI x):fW x.2:=⟨h.1.1,by have:=h.2.2;omega⟩
theorem Yn(a b:Int):decide (ck a b≥0)=decide (b≤a):=by
 rcases avY a b with h|h|h
 ·rw[cQ h,at9 (show ¬b≤a by omega)];rfl
 ·subst h;rw[dB,at7 (Int.le_refl a)];rfl
 ·rw[cH h,at7 (show b≤a by omega)];rfl
theorem vJ(a b:Int):decide (ck a b>0)=decide (b<a):=by
 rcases avY a b with h|h|h
 ·rw[cQ h,at9 (show ¬b<a by omega)];rfl
 ·subst h;rw[dB,at9 (show ¬a<a by omega)];rfl
 ·rw[cH h,at7 h];rfl
def tj:aN:=spN false false [.bool,axe] (fun x=>decide (bi x.2.1)) (fun x=>[RV.d y2Y (ak (cf x.1 (val x.2.1)))])
theorem rM:SpK 188 tj:=spX fun x h=>Ui x.1 x.2.1 (at6 h)
def II:aN:=spN false false [axe,axe] (fun x=>decide (fW x.1∧fW x.2.1)) (fun x=>[RV.d axe (ai (val x.1+val x.2.1).toNat)])
theorem Lk:SpK 255 II:=spX fun x h=>Vd x.1 x.2.1 (at6 h)
def tW:aN:=spN false false [axe,axe] (fun x=>decide (lL x.1 x.2.1)) (fun x=>[RV.d axe (ai (val x.1-val x.2.1).toNat)])
theorem sJ:SpK 250 tW:=spX fun x h=>Wj x.1 x.2.1 (at6 h)
def Ko:aN:=spN false false [axe,axe] (fun x=>decide (fW x.1∧fW x.2.1)) (fun x=>[RV.d axe (ai (val x.1*val x.2.1).toNat)])
theorem Mh:SpK 251 Ko:=spX fun x h=>Ue x.1 x.2.1 (at6 h)
def lg:Env:=[(185,nE),(190,pW),(189,qs),(186,nM),(188,tj),(255,II),(250,tW),(251,Ko)]
theorem fV:EnvAll Tryz.prog lg:=⟨kq,nY,ny,kB,rM,Lk,sJ,Mh,trivial⟩
def akZ:Ctx:=CX lg []
def WC(n:Int)(_k:KT):Option (List RV):=match decide (n<0)with|true=>(match decide (fN (u64.wrap (0-(u64.wrap n))))with|true=>(match decide (bi (ai (u64.wrap (0-(u64.wrap n))).toNat))with|true=>some [RV.d y2Y (ak (cf true (val (ai (u64.wrap (0-(u64.wrap n))).toNat))))]|false=>none)|false=>none)|false=>(match decide (fN (u64.wrap n))with|true=>(match decide (bi (ai (u64.wrap n).toNat))with|true=>some [RV.d y2Y (ak (cf false (val (ai (u64.wrap n).toNat))))]|false=>none)|false=>none)
theorem aji(n:Int):RS akZ 134 [SI n] (WC n):=rsX
def akH:Ctx:=CX lg []
def Th(x:Bool×List Int)(_k:KT):Option (List RV):=match(x.2.length:Int)==0 with|true=>some [RV.d axf 0]|false=>(match x.1 with|true=>some [RV.d axf (-1)]|false=>some [RV.d axf 1])
theorem aka(x:Bool×List Int):RS akH 101 [.d y2Y x] (Th x):=rsX
def ake:Ctx:=CX lg []
def VP(x y:Bool×List Int)(_k:KT):Option (List RV):=match !(x.1==y.1)with|true=>(match x.1 with|true=>some [RV.d axf (-1)]|false=>some [RV.d axf 1])|false=>(match x.1 with|true=>(match decide (nZ y.2 x.2)with|true=>some [RV.d axf (ck (val y.2) (val x.2))]|false=>none)|false=>(match decide (nZ x.2 y.2)with|true=>some [RV.d axf (ck (val x.2) (val y.2))]|false=>none))
theorem ahg(x y:Bool×List Int):RS ake 192 [.d y2Y x,.d y2Y y] (VP x y):=rsX
def ak3:Ctx:=CX lg []
def Ua(x y:Bool×List Int)(_k:KT):Option (List RV):=match x.1==y.1 with|true=>(match decide (fW x.2∧fW y.2)with|true=>(match decide (bi (ai (val x.2+val y.2).toNat))with|true=>some [RV.d y2Y (ak (cf x.1 (val (ai (val x.2+val y.2).toNat))))]|false=>none)|false=>none)|false=>(match decide (nZ x.2 y.2)with|true=>(match decide ((ck (val x.2) (val y.2))≥0)with|true=>(match decide (lL x.2 y.2)with|true=>(match decide (bi (ai (val x.2-val y.2).toNat))with|true=>some [RV.d y2Y (ak (cf x.1 (val (ai (val x.2-val y.2).toNat))))]|false=>none)|false=>none)|false=>(match decide (lL y.2 x.2)with|true=>(match decide (bi (ai (val y.2-val x.2).toNat))with|true=>some [RV.d y2Y (ak (cf y.1 (val (ai (val y.2-val x.2).toNat))))]|false=>none)|false=>none))|false=>none)
theorem akt(x y:Bool×List Int):RS ak3 212 [.d y2Y x,.d y2Y y] (Ua x y):=rsX
def alf:Ctx:=CX lg []
def MZ(x:Bool×List Int)(_k:KT):Option (List RV):=match decide (bi x.2)with|true=>some [RV.d y2Y (ak (cf (!x.1) (val x.2)))]|false=>none
theorem ahJ(x:Bool×List Int):RS alf 211 [.d y2Y x] (MZ x):=rsX
def agW:Ctx:=CX lg []
def U5(x y:Bool×List Int)(_k:KT):Option (List RV):=match decide (fW x.2∧fW y.2)with|true=>(match decide (bi (ai (val x.2*val y.2).toNat))with|true=>some [RV.d y2Y (ak (cf (!(x.1==y.1)) (val (ai (val x.2*val y.2).toNat))))]|false=>none)|false=>none
theorem agS(x y:Bool×List Int):RS agW 193 [.d y2Y x,.d y2Y y] (U5 x y):=rsX
def aoE:Ctx:=CX lg []
def age(a:List Int)(n:Int)(_k:KT):Option (List RV):=match decide (bi ([n]))with|true=>(match decide (fW a∧fW (ai (val ([n])).toNat))with|true=>some [RV.d axe (ai (val a*val (ai (val ([n])).toNat)).toNat)]|false=>none)|false=>none
theorem alN(a:List Int)(n:Int):RS aoE 249 [.d axe a,.d axg n] (age a n):=rsX
theorem Ci(n:Int)(h:aY n):Con Tryz.prog 134 [.d axf n] [.d y2Y (ak n)]:=by
 refine aP fV (aji _ ⟨0,?_⟩)
 have h1:=h.1
 have h2:=h.2
 unfold WC
 by_cases hn:n<0
 ·have e:u64.wrap (0-u64.wrap n)= -n:=by rw[auX,auX];omega
  have hl:(ai (-n).toNat).length≤3:=cB (by omega) (aws (show-n<18446744073709551616 by omega) (by decide))
  rw[at7 hn]
  dsimp only
  rw[e,at7 (show fN (-n) from⟨by omega,by omega⟩),at7 (cD (n:=(-n).toNat) (by omega)),bV (v:= -n) (by omega)]
  dsimp only
  rw[show cf true (-n)=n by unfold cf;simp]
 ·have e:u64.wrap n=n:=bK (by omega) (by omega)
  have hl:(ai n.toNat).length≤3:=cB (by omega) (aws (show n<18446744073709551616 by omega) (by decide))
  rw[at9 hn]
  dsimp only
  rw[e,at7 (show fN n from⟨by omega,by omega⟩),at7 (cD (n:=n.toNat) (by omega)),bV (v:=n) (by omega)]
  rfl
theorem Dw(x:Bool×List Int)(h:okI x):Con Tryz.prog 101 [.d y2Y x] [.d axf (ck (ah x) 0)]:=by
 refine aP fV (aka _ ⟨0,?_⟩)
 obtain⟨h0,h1,h2⟩:=cA h
 unfold Th
 rw[bS]
 unfold cf
 by_cases he:x.2=[]
 ·have e0:=h2.1 he
  have ex:x.1=false:=by
   cases hx:x.1
   ·rfl
   ·have:=h1 hx;omega
  rw[ex,e0,he]
  rfl
 ·have hp:0<val x.2:=d7 h.1 he
  have:=auR.2 he
  rw[show((x.2.length:Int)==0)=false by simp;omega]
  cases x.1
  ·simp only[cond_false];rw[cH hp]
  ·simp only[cond_true];rw[cQ (by omega)]
theorem V4(x y:Bool×List Int)(h:okI x∧okI y):Con Tryz.prog 192 [.d y2Y x,.d y2Y y] [.d axf (ck (ah x) (ah y))]:=by
 refine aP fV (ahg _ _ ⟨0,?_⟩)
 obtain⟨hx,hy⟩:=h
 obtain⟨x0,x1,x2⟩:=cA hx
 obtain⟨y0,y1,y2⟩:=cA hy
 have sx:=hx.2.2
 have sy:=hy.2.2
 unfold VP
 rw[bS,bS,at7 (show nZ y.2 x.2 from⟨⟨hy.1,by omega⟩,hx.1,by omega⟩),at7 (show nZ x.2 y.2 from⟨⟨hx.1,by omega⟩,hy.1,by omega⟩)]
 unfold cf
 cases ex:x.1<;>cases ey:y.1
 ·rfl
 ·have:=y1 ey
  simp only[cond_true,cond_false]
  rw[show ck (val x.2) (-val y.2)=1 from cH (by omega)]
  rfl
 ·have:=x1 ex
  simp only[cond_true,cond_false]
  rw[show ck (-val x.2) (val y.2)= -1 from cQ (by omega)]
  rfl
 ·simp only[cond_true]
  rw[IX x0 y0]
  rfl
theorem OL(x y:Bool×List Int)(h:okI x∧okI y):Con Tryz.prog 212 [.d y2Y x,.d y2Y y] [.d y2Y (ak (ah x+ah y))]:=by
 refine aP fV (akt _ _ ⟨0,?_⟩)
 obtain⟨hx,hy⟩:=h
 obtain⟨x0,x1,x2⟩:=cA hx
 obtain⟨y0,y1,y2⟩:=cA hy
 have lx:=fi hx
 have ly:=fi hy
 have tx:=p7 hx
 have ty:=p7 hy
 have sx:=hx.2.2
 have sy:=hy.2.2
 have bx:=bZ hx.1.1
 have by':=bZ hy.1.1
 have px:=c7 (show x.2.length≤1000000 by omega)
 have py:=c7 (show y.2.length≤1000000 by omega)
 have l1:(ai (val x.2+val y.2).toNat).length≤1000001:=cB (by omega) (by rw[ce];omega)
 have l2:(ai (val x.2-val y.2).toNat).length≤1000000:=c8 (by have:=b8 1000000;omega)
 have l3:(ai (val y.2-val x.2).toNat).length≤1000000:=c8 (by have:=b8 1000000;omega)
 unfold Ua
 rw[bS,bS,at7 (show fW x.2∧fW y.2 from⟨tx,ty⟩),at7 (cD (n:=(val x.2+val y.2).toNat) (by omega)),at7 (cD (n:=(val x.2-val y.2).toNat) (by omega)),at7 (cD (n:=(val y.2-val x.2).toNat) (by omega)),bV (v:=val x.2+val y.2) (by omega),
  at7 (show nZ x.2 y.2 from⟨⟨hx.1,by omega⟩,hy.1,by omega⟩),Yn]
 cases hs:x.1==y.1
 ·dsimp only
  rcases auC (val x.2) (val y.2)with hc|hc
  ·rw[at9 (show ¬val y.2≤val x.2 by omega),at7 (show lL y.2 x.2 from⟨ly,lx,by omega⟩),bV (v:=val y.2-val x.2) (by omega)]
   dsimp only
   unfold cf
   cases ex:x.1<;>cases ey:y.1<;>simp_all<;>congr 2<;>omega
  ·rw[at7 hc,at7 (show lL x.2 y.2 from⟨lx,ly,hc⟩),bV (v:=val x.2-val y.2) (by omega)]
   dsimp only
   unfold cf
   cases ex:x.1<;>cases ey:y.1<;>simp_all<;>congr 2<;>omega
 ·dsimp only
  have e:=avx.1 hs
  rw[←e]
  unfold cf
  cases x.1
  ·rfl
  ·simp only[cond_true]
   rw[show-(val x.2+val y.2)= -val x.2+ -val y.2 by omega]
theorem Q9(x:Bool×List Int)(h:okI x):Con Tryz.prog 211 [.d y2Y x] [.d y2Y (ak (-ah x))]:=by
 refine aP fV (ahJ _ ⟨0,?_⟩)
 unfold MZ
 rw[bS,at7 (fi h)]
 unfold cf
 cases x.1<;>simp
theorem EB(x y:Bool×List Int)(h:okI x∧okI y):Con Tryz.prog 193 [.d y2Y x,.d y2Y y] [.d y2Y (ak (ah x*ah y))]:=by
 refine aP fV (agS _ _ ⟨0,?_⟩)
 obtain⟨hx,hy⟩:=h
 obtain⟨x0,x1,x2⟩:=cA hx
 obtain⟨y0,y1,y2⟩:=cA hy
 have bx:=bZ hx.1.1
 have by':=bZ hy.1.1
 have sx:=hx.2.2
 have sy:=hy.2.2
 have hm:0≤val x.2*val y.2:=au5 x0 y0
 have l1:(ai (val x.2*val y.2).toNat).length≤x.2.length+y.2.length:=cB hm (by
  rw[eO]
  have p1:=b8 x.2.length
  have p2:=b8 y.2.length
  have:=awa (show val x.2≤pw x.2.length-1 by omega) (show val y.2≤pw y.2.length-1 by omega) y0 (by omega)
  grind)
 unfold U5
 rw[bS,bS,at7 (show fW x.2∧fW y.2 from⟨p7 hx,p7 hy⟩),at7 (cD (n:=(val x.2*val y.2).toNat) (by omega)),bV hm]
 unfold cf
 cases x.1<;>cases y.1<;>simp[Int.neg_mul,awM]
def byP(a:List Int)(n:Int):Prop:=fW a∧0≤n∧n<1000000000
instance (a:List Int) (n:Int):Decidable (byP a n):=by unfold byP;infer_instance
theorem ab1(a:List Int)(n:Int)(h:byP a n):Con Tryz.prog 249 [.d axe a,.d axg n] [.d axe (ai (val a*n).toNat)]:=by
 refine aP fV (alN _ _ ⟨0,?_⟩)
 obtain⟨ha,h1,h2⟩:=h
 have hl:(ai n.toNat).length≤1:=cB (by omega) (by show n<pw 1;simp[pw];exact h2)
 have e:val [n]=n:=by simp[val]
 unfold age
 rw[e,at7 (show bi [n] from⟨Lim.cons ⟨by omega,h2⟩ Lim.nil,by simp⟩),at7 (show fW a∧fW (ai n.toNat) from⟨ha,b9 _,by omega⟩),bV (by omega)]
def qe:aN:=spN false false [y2Y,y2Y] (fun x=>decide (okI x.1∧okI x.2.1)) (fun x=>[RV.d y2Y (ak (ah x.1+ah x.2.1))])
theorem m7:SpK 212 qe:=spX fun x h=>OL x.1 x.2.1 (at6 h)
def Aw:aN:=spN false false [y2Y] (fun x=>decide (okI x.1)) (fun x=>[RV.d y2Y (ak (-ah x.1))])
theorem yZ:SpK 211 Aw:=spX fun x h=>Q9 x.1 (at6 h)
def Xu:Env:=(212,qe)::(211,Aw)::lg
theorem Lp:EnvAll Tryz.prog Xu:=⟨m7,yZ,fV⟩
def akb:Ctx:=CX Xu []
def PK(x y:Bool×List Int)(_k:KT):Option (List RV):=match decide (okI y)with|true=>(match decide (okI x∧okI (ak (-ah y)))with|true=>some [RV.d y2Y (ak (ah x+ah (ak (-ah y))))]|false=>none)|false=>none
theorem ah9(x y:Bool×List Int):RS akb 257 [.d y2Y x,.d y2Y y] (PK x y):=rsX
theorem WG(x y:Bool×List Int)(h:okI x∧okI y):Con Tryz.prog 257 [.d y2Y x,.d y2Y y] [.d y2Y (ak (ah x-ah y))]:=by
 refine aP Lp (ah9 _ _ ⟨0,?_⟩)
 obtain⟨hx,hy⟩:=h
 unfold PK
 rw[at7 hy,at7 (show okI x∧okI (ak (-ah y)) from⟨hx,bu (by rw[gP];exact gJ hy)⟩),dec_enc,Int.sub_eq_add_neg]
end Go.Proofs.YtlahabkjhgkkjaaGreat
end
