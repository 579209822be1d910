/- The reference's Sqrt and Same. -/
import Derived.Test.YtnkndpoojnflmaaGreatE10
noncomputable section
namespace Go.Proofs.YtnkndpoojnflmaaGreat
open Go.RowKit Go.IntKind
theorem ale:type_of% @Bool.and_eq_true_iff:=@Bool.and_eq_true_iff
theorem amZ:type_of% @Int.zero_sub:=@Int.zero_sub
theorem am5:type_of% @beq_eq_false_iff_ne:=@beq_eq_false_iff_ne
theorem am6:type_of% @Rat.intCast_mul:=@Rat.intCast_mul
theorem am9:type_of% @Rat.intCast_lt_intCast:=@Rat.intCast_lt_intCast
theorem ann:type_of% @decide_eq_true_eq:=@decide_eq_true_eq
theorem anP:type_of% @Rat.neg_neg:=@Rat.neg_neg
theorem mW(a b:Int):(cr a b==0)=decide (a=b):=by
 rcases Int.lt_trichotomy a b with h|h|h
 ·rw[db h,ak5 (by omega)];rfl
 ·rw[h,dW,ak3 rfl];rfl
 ·rw[cL h,ak5 (by omega)];rfl
def OC:List En:=[enK BC,enF Qi,enK B5,enK EG,enK M7]
def UM:NT:=[((345,23),{keep:=[1,2,4,5],hl:=6})]
def A8:Ctx:=CX (ens OC) UM
def kN(x:Bool×List Int)(b4_0:Bool)(b4_1:List Int):Cfg:=⟨345,[.blk 0],[(1,.box 0 0),(2,.box 1 0),(4,.box 4 0),(5,.box 5 0)],[.box 29 [SB x.1,.d aom x.2],.box 29 [SB false,.nil],.gone,.row 225 aoo ([1]),.box 29 [SB b4_0,.d aom b4_1],.box 29 [SB ((ai (2:Int)).1),.d aom ((ai (2:Int)).2)]],0,[]⟩
def Am(x:Bool×List Int)(k:KT):Option (List RV):=match x.1 with|true=>some [RV.d y2Y (false,[]),RV.d aon 7]|false=>(match(x.2.length:Int)==0 with|true=>some [RV.d y2Y (false,[]),RV.d aon 0]|false=>(og (decide ((0:Int)≤i64.wrap (Int.tdiv (i64.wrap ((x.2.length:Int)+1)) 2)∧(i64.wrap (Int.tdiv (i64.wrap ((x.2.length:Int)+1)) 2))*((4:Nat):Int)≤140737488355328∧i64.wrap (Int.tdiv (i64.wrap ((x.2.length:Int)+1)) 2)≤140737488355328)) (og (decide (((List.replicate (i64.wrap (Int.tdiv (i64.wrap ((x.2.length:Int)+1)) 2)).toNat (0:Int)).length+([1]).length)*4≤140737488355328∧(List.replicate (i64.wrap (Int.tdiv (i64.wrap ((x.2.length:Int)+1)) 2)).toNat (0:Int)).length+([1]).length≤140737488355328)) (og (decide (aG (2:Int))) (k 23 (kN x false ((List.replicate (i64.wrap (Int.tdiv (i64.wrap ((x.2.length:Int)+1)) 2)).toNat (0:Int))++([1]))))))))
theorem F3(x:Bool×List Int):RS A8 345 [.d y2Y x] (Am x):=rsX
def qN(x:Bool×List Int)(b4_0:Bool)(b4_1:List Int)(k:KT):Option (List RV):=og (decide (fB x (b4_0,b4_1))) (ct (og (decide (okI (b4_0,b4_1)∧okI (ai (ae x/ae (b4_0,b4_1))))) (ct (og (decide (fB (ai (ae (b4_0,b4_1)+ae (ai (ae x/ae (b4_0,b4_1))))) (ai (2:Int)))) (dup (.b .l .l) (og (decide (okI (ai (ae (ai (ae (b4_0,b4_1)+ae (ai (ae x/ae (b4_0,b4_1)))))/ae (ai (2:Int))))∧okI (b4_0,b4_1))) (match decide ((cr (ae (ai (ae (ai (ae (b4_0,b4_1)+ae (ai (ae x/ae (b4_0,b4_1)))))/ae (ai (2:Int))))) (ae (b4_0,b4_1)))≥0)with|true=>some [RV.d y2Y (b4_0,b4_1),RV.d aon 0]|false=>k 23 (kN x ((ai (ae (ai (ae (b4_0,b4_1)+ae (ai (ae x/ae (b4_0,b4_1)))))/ae (ai (2:Int)))).1) ((ai (ae (ai (ae (b4_0,b4_1)+ae (ai (ae x/ae (b4_0,b4_1)))))/ae (ai (2:Int)))).2)))))) (dup (.b (.b .l .l) (.b .l .l)) (og (decide (fB (ai (ae (b4_0,b4_1)+ae (ai (ae x/ae (b4_0,b4_1))))) (ai (2:Int)))) (og (decide (okI (ai (ae (ai (ae (b4_0,b4_1)+ae (ai (ae x/ae (b4_0,b4_1)))))/ae (ai (2:Int))))∧okI (b4_0,b4_1))) (match decide ((cr (ae (ai (ae (ai (ae (b4_0,b4_1)+ae (ai (ae x/ae (b4_0,b4_1)))))/ae (ai (2:Int))))) (ae (b4_0,b4_1)))≥0)with|true=>some [RV.d y2Y (b4_0,b4_1),RV.d aon 0]|false=>k 23 (kN x ((ai (ae (ai (ae (b4_0,b4_1)+ae (ai (ae x/ae (b4_0,b4_1)))))/ae (ai (2:Int)))).1) ((ai (ae (ai (ae (b4_0,b4_1)+ae (ai (ae x/ae (b4_0,b4_1)))))/ae (ai (2:Int)))).2)))))))) (dup (.b .l .l) (ct (og (decide (okI (b4_0,b4_1)∧okI (ai (ae x/ae (b4_0,b4_1))))) (dup (.b .l .l) (og (decide (fB (ai (ae (b4_0,b4_1)+ae (ai (ae x/ae (b4_0,b4_1))))) (ai (2:Int)))) (og (decide (okI (ai (ae (ai (ae (b4_0,b4_1)+ae (ai (ae x/ae (b4_0,b4_1)))))/ae (ai (2:Int))))∧okI (b4_0,b4_1))) (match decide ((cr (ae (ai (ae (ai (ae (b4_0,b4_1)+ae (ai (ae x/ae (b4_0,b4_1)))))/ae (ai (2:Int))))) (ae (b4_0,b4_1)))≥0)with|true=>some [RV.d y2Y (b4_0,b4_1),RV.d aon 0]|false=>k 23 (kN x ((ai (ae (ai (ae (b4_0,b4_1)+ae (ai (ae x/ae (b4_0,b4_1)))))/ae (ai (2:Int)))).1) ((ai (ae (ai (ae (b4_0,b4_1)+ae (ai (ae x/ae (b4_0,b4_1)))))/ae (ai (2:Int)))).2))))))) (og (decide (okI (b4_0,b4_1)∧okI (ai (ae x/ae (b4_0,b4_1))))) (og (decide (fB (ai (ae (b4_0,b4_1)+ae (ai (ae x/ae (b4_0,b4_1))))) (ai (2:Int)))) (og (decide (okI (ai (ae (ai (ae (b4_0,b4_1)+ae (ai (ae x/ae (b4_0,b4_1)))))/ae (ai (2:Int))))∧okI (b4_0,b4_1))) (match decide ((cr (ae (ai (ae (ai (ae (b4_0,b4_1)+ae (ai (ae x/ae (b4_0,b4_1)))))/ae (ai (2:Int))))) (ae (b4_0,b4_1)))≥0)with|true=>some [RV.d y2Y (b4_0,b4_1),RV.d aon 0]|false=>k 23 (kN x ((ai (ae (ai (ae (b4_0,b4_1)+ae (ai (ae x/ae (b4_0,b4_1)))))/ae (ai (2:Int)))).1) ((ai (ae (ai (ae (b4_0,b4_1)+ae (ai (ae x/ae (b4_0,b4_1)))))/ae (ai (2:Int)))).2)))))))))
theorem yl(x:Bool×List Int)(b4_0:Bool)(b4_1:List Int):RN A8 23 (kN x b4_0 b4_1) (qN x b4_0 b4_1):=rnX
theorem KH(x:BI)(hx:okI x)(h0:0<ae x):∀(m:Nat) (X:Int),X.toNat=m→0<X→bK (ae x)≤X→szI X≤900000→A8.Runs 23 (kN x (ai X).1 (ai X).2) [.d y2Y (ai (bK (ae x))),.d aon 0]:=by
 intro m
 induction m using Nat.strongRecOn with
 |ind m ih=>
  intro X hm hX hs hsz
  obtain⟨g0,g1,g2⟩:=gf (alK h0)
  have hq0:0≤ae x/X:=al4 (by omega) (by omega)
  have hq1:ae x/X≤ae x:=amW _ (by omega)
  have oX:okI (ai X):=aT (by omega)
  have sq:szI (ae x/X)≤1000000:=alg (dB (by omega)) (iO hx)
  have p1:fB x (ai X):=⟨hx,oX,by rw[dec_enc];exact hX⟩
  have ssum:szI (X+ae x/X)≤1000000:=by
   have b1:=ng hsz
   have b2:=ng (iO hx)
   have e:pw 1000000=pw 900000*pw 100000:=by rw[←fD]
   have p9:(1000:Int)≤pw 100000:=by
    have:pw 100000=pw 99999*1000000000:=b9 99999
    have:=cp 99999
    omega
   have p8:=cp 900000
   have h8:pw 900000*1000≤pw 900000*pw 100000:=alb p9 (by omega)
   rcases alz X 2 with hX1|hX1
   ·-- X=1:then the number is less than 4
    have:X=1:=by omega
    subst this
    have:bK (ae x)≤1:=hs
    have h4:ae x<4:=by
     have:=sV (a:=bK (ae x)+1) (b:=2) (by omega) (by omega)
     omega
    refine fu ?_ ?_<;>(rw[e,Int.ediv_one];omega)
   ·have hq2:ae x/X≤ae x/2:=by
     have:=Int.ediv_mul_le (ae x) (show X≠0 by omega)
     have h2:ae x/X*2≤ae x/X*X:=alb hX1 hq0
     omega
    refine fu ?_ ?_<;>(rw[e]at b2 ⊢;omega)
  have o1:okI (ai X)∧okI (ai (ae x/X)):=⟨oX,aT sq⟩
  have p2:fB (ai (X+ae x/X)) (ai 2):=⟨aT ssum,by decide,by rw[dec_enc];decide⟩
  have hn:=QT hX g0 g1
  have o2:okI (ai ((X+ae x/X)/2))∧okI (ai X):=⟨aT (alg (dB (by omega)) ssum),oX⟩
  by_cases hc:X≤(X+ae x/X)/2
  ·have hXs:=xi hX hs g1 g2 g0 hc
   refine yl _ _ _ ⟨0,?_⟩
   unfold qN
   simp only[cU,eZ]
   have e:∀z:Int,((ai z).1,(ai z).2)=ai z:=fun z=>rfl
   simp only[e,dec_enc,ak3 p1,ak3 o1,ak3 p2,ak3 o2]
   have hg:decide (cr ((X+ae x/X)/2) X≥0)=true:=by
    rcases Int.lt_or_eq_of_le hc with h|h
    ·rw[cL h];rfl
    ·rw[←h,dW];rfl
   rw[hg,hXs]
  ·obtain⟨n,hN⟩:=ih ((X+ae x/X)/2).toNat (by omega) ((X+ae x/X)/2) rfl (by
    rcases alz 0 (bK (ae x))with h|h
    ·omega
    ·exfalso
     have:bK (ae x)=0:=by omega
     rw[this]at g2
     omega) hn (alg (dB (by omega)) hsz)
   refine yl _ _ _ ⟨n,?_⟩
   unfold qN
   simp only[cU,eZ]
   have e:∀z:Int,((ai z).1,(ai z).2)=ai z:=fun z=>rfl
   simp only[e,dec_enc,ak3 p1,ak3 o1,ak3 p2,ak3 o2]
   rw[db (by omega)]
   exact hN
def aa4:Cn 345 [y2Y]:=cn fun(x:Bool×List Int)=>lf (okI x) [.d y2Y (fY x),.d aon (vn x)] fun h=>by
 refine c7 OC (show A8.Res _ _ _ from ?_)
 obtain⟨x0,x1,x2⟩:=cE h
 have hl:=h.2.2
 cases hn:x.1
 ·by_cases hz:x.2=[]
  ·refine F3 _ ⟨0,?_⟩
   unfold Am fY vn
   have:ae x=0:=by unfold ae;rw[hn,hz];rfl
   rw[hn,hz,this]
   rfl
  ·have hp:0<val x.2:=eU h.1 hz
   have hd:ae x=val x.2:=by unfold ae;rw[hn];rfl
   have hlen:=alF.2 hz
   have hk:i64.wrap (Int.tdiv (i64.wrap ((x.2.length:Int)+1)) 2)=(((x.2.length+1)/2:Nat):Int):=by
    rw[bW (by omega),ii (by omega),aS (by omega) (by omega)]
    omega
   have hv:val (List.replicate ((x.2.length+1)/2) 0++[1])=pw ((x.2.length+1)/2):=by
    rw[dA,gR,anF]
    simp[val]
   have hL:aQ (List.replicate ((x.2.length+1)/2) 0++[1]):=by
    refine⟨fun y hy=>?_,by simp;omega⟩
    rcases alO.1 hy with hy|hy
    ·have:=List.eq_of_mem_replicate hy;omega
    ·simp at hy;omega
   have hpos:=cp ((x.2.length+1)/2)
   obtain⟨n,hN⟩:=KH x h (by omega) _ (pw ((x.2.length+1)/2)) rfl hpos (by
     obtain⟨g0,g1,g2⟩:=gf (show 0≤ae x by omega)
     have hlt:=bZ h.1.1
     have hm:=dl (show x.2.length≤(x.2.length+1)/2+(x.2.length+1)/2 by omega)
     rw[fD]at hm
     have:=sq_lt (a:=bK (ae x)) (b:=pw ((x.2.length+1)/2)) (by omega) (by omega)
     omega) (fu (k:=900000) (by have:=cp 900000;omega) (by
      have:=dl (show(x.2.length+1)/2+1≤900000 by omega)
      rw[b9]at this
      omega))
   refine F3 _ ⟨n,?_⟩
   unfold Am fY vn
   simp only[hk]
   rw[hn,show((x.2.length:Int)==0)=false by simp;omega]
   simp only[amK]
   rw[ak3 (show(0:Int)≤(((x.2.length+1)/2:Nat):Int)∧(((x.2.length+1)/2:Nat):Int)*((4:Nat):Int)≤140737488355328∧(((x.2.length+1)/2:Nat):Int)≤140737488355328 by omega)]
   rw[ak3 (show((List.replicate ((x.2.length+1)/2) (0:Int)).length+([1]:List Nat).length)*4≤140737488355328∧(List.replicate ((x.2.length+1)/2) (0:Int)).length+([1]:List Nat).length≤140737488355328 by simp;omega)]
   rw[ak3 (show aG 2 by decide)]
   have he:ai (pw ((x.2.length+1)/2))=(false,List.replicate ((x.2.length+1)/2) 0++[1]):=by
    have ho:okI ((false,List.replicate ((x.2.length+1)/2) 0++[1]):BI):=⟨⟨hL.1,by simp⟩,(fun e=>by cases e),(by simp;omega)⟩
    rw[io ho]
    congr 1
    exact hv.symm
   rw[he]at hN
   exact hN
 ·refine F3 _ ⟨0,?_⟩
  unfold Am fY vn
  rw[hn]
  rfl
def ad9:List En:=enF yx::OC
def K9(x y:Bool×List Int)(_k:KT):Option (List RV):=match x.1==y.1 with|true=>(og (decide (rg x.2 y.2)) (some [RV.d .bool ((cr (val x.2) (val y.2))==0)]))|false=>some [RV.d .bool false]
def Qz:Cn 324 [y2Y,y2Y]:=cn fun(x y:Bool×List Int)=>lf (okI x∧okI y) [.d .bool (decide (ae x=ae y))] fun h=>by
 refine aA ad9 (K9 x y) ⟨0,?_⟩
 obtain⟨hx,hy⟩:=h
 obtain⟨x0,x1,x2⟩:=cE hx
 obtain⟨y0,y1,y2⟩:=cE hy
 unfold K9
 rw[dT (show rg x.2 y.2 from⟨⟨hx.1,by have:=hx.2.2;omega⟩,⟨hy.1,by have:=hy.2.2;omega⟩⟩)]
 rw[bO,bO]
 unfold ce
 cases ex:x.1<;>cases ey:y.1<;>simp only[cond_true,cond_false]
 ·show some [RV.d .bool (cr (val x.2) (val y.2)==0)]=_
  rw[mW]
 ·have:=y1 ey
  rw[ak5 (show ¬val x.2= -val y.2 by omega)]
  rfl
 ·have:=x1 ex
  rw[ak5 (show ¬ -val x.2=val y.2 by omega)]
  rfl
 ·show some [RV.d .bool (cr (val x.2) (val y.2)==0)]=_
  rw[mW,show decide (val x.2=val y.2)=decide (-val x.2= -val y.2) from al6.2 (by omega)]
def fN(q:Rat):Bool:=decide (bK q.num*bK q.num=q.num)&&decide (bK (q.den:Int)*bK (q.den:Int)=(q.den:Int))
def rtQ(q:Rat):Rat:=mkRat (bK q.num) (bK (q.den:Int)).toNat
theorem AF(z:Int):0≤bK z:=by unfold bK;omega
theorem AX{s:Int}(h:0≤s):bK (s*s)=s:=UH h (Int.le_refl _) (by grind)
theorem pC{z:Int}(h:z<0):bK z=0:=by
 unfold bK
 rw[show z.toNat=0 by omega]
 rfl
theorem ahw{s t:Nat}(ht:0<t)(hg:(s*s).Coprime (t*t)):(mkRat (s:Int) t).num=(s:Int)∧(mkRat (s:Int) t).den=t:=by
 have hc:s.Coprime t:=Nat.Coprime.coprime_dvd_left (Nat.dvd_mul_left s s) (Nat.Coprime.coprime_dvd_right (Nat.dvd_mul_left t t) hg)
 rw[an6,an7,alq (by omega),alq (by omega),amD,show t.gcd s=1 from hc.symm]
 simp
theorem ED{q:Rat}(h:fN q=true):(rtQ q).num=bK q.num∧((rtQ q).den:Int)=bK (q.den:Int)∧rtQ q*rtQ q=q∧0≤rtQ q:=by
 unfold fN at h
 simp only[ak7,ann]at h
 obtain⟨h1,h2⟩:=h
 have hd:=q.den_pos
 have hr:=q.reduced
 obtain⟨s,hs⟩:=amd (AF q.num)
 obtain⟨t,ht⟩:=amd (AF (q.den:Int))
 unfold rtQ
 rw[hs,ht,amK]
 rw[hs]at h1
 rw[ht]at h2
 have e1:q.num.natAbs=s*s:=by rw[←h1,←amB,amD]
 have e2:q.den=t*t:=by rw[←amB]at h2;omega
 have hg:(s*s).Coprime (t*t):=by rw[←e1,←e2];exact hr
 have tp:0<t:=Nat.pos_of_ne_zero fun e=>by rw[e2,e]at hd;simp at hd
 obtain⟨g1,g2⟩:=ahw tp hg
 refine⟨g1,by rw[g2],?_,?_⟩
 ·rw[Rat.mkRat_mul_mkRat,←e2,h1,Rat.mkRat_self]
 ·exact Rat.num_nonneg.1 (by rw[g1];omega)
theorem Uz(r:Rat):fN (r*r)=true:=by
 have hd:=r.den_pos
 have hc:(r.den*r.den).gcd (r.num*r.num).natAbs=1:=by
  rw[anV]
  have:=r.reduced.symm
  exact Nat.Coprime.mul_left (Nat.Coprime.mul_right this this) (Nat.Coprime.mul_right this this)
 have e1:(r*r).num=r.num*r.num:=by
  rw[Rat.mul_def',an6,hc,alq (anJ (by omega) (by omega))]
  simp
 have e2:((r*r).den:Int)=(r.den:Int)*(r.den:Int):=by
  rw[Rat.mul_def',an7,hc,alq (anJ (by omega) (by omega)),Nat.div_one,amB]
 unfold fN
 rw[e1,e2,AX (s:=(r.den:Int)) (by omega)]
 rcases alz r.num 0 with h|h
 ·rw[show r.num*r.num= -r.num* -r.num by grind,AX (by omega)]
  simp
 ·rw[AX h]
  simp
def rtB(q:Rat):BR:=bif fN q then am (rtQ q)else((false,[]),(false,[]))
theorem Al{x:BI}(h:okI x):fY x=ai (bK (ae x)):=by
 obtain⟨x0,x1,x2⟩:=cE h
 unfold fY
 cases hx:x.1
 ·rfl
 ·have:=x1 hx
  have hd:ae x= -val x.2:=by rw[bO,hx];rfl
  rw[hd,pC (by omega)]
  rfl
theorem Im{z:Int}(h:szI z≤1000000):szI (bK z)≤500000:=by
 have h1:=ng h
 have e:pw 1000000=pw 500000*pw 500000:=by rw[←fD]
 have hp:=cp 500000
 rcases alz z 0 with h0|h0
 ·rw[pC h0];exact fu (by omega) hp
 ·obtain⟨g0,g1,g2⟩:=gf h0
  have:=sq_lt (a:=bK z) (b:=pw 500000) (by omega) (by omega)
  exact fu (by omega) this
theorem MJ(a b:Int):(ai a==ai b)=decide (a=b):=by
 by_cases h:a=b
 ·rw[h,ak3 rfl];simp
 ·rw[ak5 h,am5]
  intro e
  exact h (by rw[←dec_enc a,e,dec_enc])
theorem Hm{x y:BI}(hx:okI x)(hy:okI y):(x==y)=decide (ae x=ae y):=by
 rw[io hx,io hy,MJ,dec_enc,dec_enc]
def F5:eg:=spN true true [tI,tI] (fun x=>decide (okI x.1∧okI x.2.1)) (fun x=>[RV.d aon (cr (ae x.1) (ae x.2.1))])
theorem CH:SpK 172 F5:=spX fun x h=>Hq x.1 x.2.1 (ak6 h)
def E9:eg:=spN false true [tI,tI] (fun x=>decide (okI x.1∧okI x.2.1)) (fun x=>[RV.d tI (hid (ai (ae x.1*ae x.2.1)))])
theorem CT:SpK 173 E9:=spX fun x h=>by simp only[bL];exact HZ x.1 x.2.1 (ak6 h)
def Wf:List En:=[⟨172,F5,CH⟩,⟨173,E9,CT⟩,enL XO]
def WT(x:BI)(_k:KT):Option (List RV):=og (decide (okI x)) (match(vn x)==0 with|true=>(og (decide (okI (hid (fY x))∧okI (hid (fY x)))) (og (decide (okI (hid (ai (ae (hid (fY x))*ae (hid (fY x)))))∧okI x)) (some [RV.d tI (hid (fY x)),RV.d .bool ((cr (ae (hid (ai (ae (hid (fY x))*ae (hid (fY x)))))) (ae x))==0)])))|false=>some [RV.d tI (hid (fY x)),RV.d .bool false])
def aiE:Cn 330 [tI]:=cn fun(x:BI)=>lf (okI x) [.d tI (ai (bK (ae x))),.d .bool (decide (bK (ae x)*bK (ae x)=ae x))] fun h=>by
 refine aA Wf (WT x) ⟨0,?_⟩
 have hs:=iO h
 have hz:szI (bK (ae x))≤500000:=Im hs
 have o1:okI (ai (bK (ae x))):=aT (by omega)
 have o2:okI (ai (bK (ae x)*bK (ae x))):=aT (by have:=cM hz hz;omega)
 have o3:okI (ai (bK (ae x)*bK (ae x)))∧okI x:=⟨o2,h⟩
 have o4:okI (ai (bK (ae x)))∧okI (ai (bK (ae x))):=⟨o1,o1⟩
 have hng:x.1=true→decide (bK (ae x)*bK (ae x)=ae x)=false:=fun e=>ak5 (by
  have:=(cE h).2.1 e
  have hd:ae x= -val x.2:=by rw[bO,e];rfl
  rw[pC (by omega)]
  omega)
 unfold WT
 simp only[bL,Al h,dec_enc,dT h,dT o4,dT o3,mW]
 unfold vn
 cases e:x.1
 ·rfl
 ·rw[hng e];rfl
def aeg:List En:=enL aiE::Wf
def YB(a:BR)(_k:KT):Option (List RV):=og (decide (okI a.1)) (match decide (bK (ae a.1)*bK (ae a.1)=ae a.1)with|true=>(og (decide (okI a.2)) (match decide (bK (ae a.2)*bK (ae a.2)=ae a.2)with|true=>some [RV.d tR (hid (ai (bK (ae a.1))),hid (ai (bK (ae a.2)))),RV.d .bool true]|false=>some [RV.d tR ((false,[]),(false,[])),RV.d .bool false]))|false=>some [RV.d tR ((false,[]),(false,[])),RV.d .bool false])
def YK:Cn 291 [tR]:=cn fun(a:BR)=>lf (okR a) [.d tR (rtB (ah a)),.d .bool (fN (ah a))] fun h=>by
 refine aA aeg (YB a) ⟨0,?_⟩
 obtain⟨a1,a2⟩:=cO h
 unfold YB rtB fN
 rw[dT h.1,dT h.2.1,a1,a2]
 simp only[bL]
 cases e1:decide (bK (ae a.1)*bK (ae a.1)=ae a.1)
 ·rfl
 ·cases e2:decide (bK (ae a.2)*bK (ae a.2)=ae a.2)
  ·rfl
  ·obtain⟨r1,r2,_⟩:=ED (q:=ah a) (by unfold fN;rw[a1,a2,e1,e2];rfl)
   simp only[amC,cond_true]
   unfold am
   rw[r1,r2,a1,a2]
   try rfl
def R5:List En:=[enL Oh,enL aa4,enT Qz]
def QG(x:BI)(_k:KT):Option (List RV):=og (decide (okI x)) (match(vn x)==0 with|true=>(og (decide (okI (hid (fY x))∧okI (hid (fY x)))) (og (decide (okI (hid (ai (ae (hid (fY x))*ae (hid (fY x)))))∧okI x)) (some [RV.d tI (hid (fY x)),RV.d .bool (decide (ae (hid (ai (ae (hid (fY x))*ae (hid (fY x)))))=ae x))])))|false=>some [RV.d tI (hid (fY x)),RV.d .bool false])
def acb:Cn 313 [tI]:=cn fun(x:BI)=>lf (okI x) [.d tI (ai (bK (ae x))),.d .bool (decide (bK (ae x)*bK (ae x)=ae x))] fun h=>by
 refine aA R5 (QG x) ⟨0,?_⟩
 have hs:=iO h
 have hz:szI (bK (ae x))≤500000:=Im hs
 have o1:okI (ai (bK (ae x))):=aT (by omega)
 have o2:okI (ai (bK (ae x)*bK (ae x))):=aT (by have:=cM hz hz;omega)
 have o3:okI (ai (bK (ae x)*bK (ae x)))∧okI x:=⟨o2,h⟩
 have o4:okI (ai (bK (ae x)))∧okI (ai (bK (ae x))):=⟨o1,o1⟩
 have hng:x.1=true→decide (bK (ae x)*bK (ae x)=ae x)=false:=fun e=>ak5 (by
  have:=(cE h).2.1 e
  have hd:ae x= -val x.2:=by rw[bO,e];rfl
  rw[pC (by omega)]
  omega)
 unfold QG
 simp only[bL,Al h,dec_enc,dT h,dT o4,dT o3]
 unfold vn
 cases e:x.1
 ·rfl
 ·rw[hng e];rfl
def ab9:List En:=enL acb::R5
def Mx(a:BR)(_k:KT):Option (List RV):=og (decide (okI a.1)) (og (decide (okI a.2)) (match !(decide (bK (ae a.1)*bK (ae a.1)=ae a.1))with|true=>some [RV.d tR ((false,[]),(false,[])),RV.d .bool false]|false=>(match !(decide (bK (ae a.2)*bK (ae a.2)=ae a.2))with|true=>some [RV.d tR ((false,[]),(false,[])),RV.d .bool false]|false=>some [RV.d tR (hid (ai (bK (ae a.1))),hid (ai (bK (ae a.2)))),RV.d .bool true])))
def Od:Cn 242 [tR]:=cn fun(a:BR)=>lf (okR a) [.d tR (rtB (ah a)),.d .bool (fN (ah a))] fun h=>by
 refine aA ab9 (Mx a) ⟨0,?_⟩
 obtain⟨a1,a2⟩:=cO h
 unfold Mx rtB fN
 rw[dT h.1,dT h.2.1,a1,a2]
 simp only[bL]
 cases e1:decide (bK (ae a.1)*bK (ae a.1)=ae a.1)
 ·rfl
 ·cases e2:decide (bK (ae a.2)*bK (ae a.2)=ae a.2)
  ·rfl
  ·obtain⟨r1,r2,_⟩:=ED (q:=ah a) (by unfold fN;rw[a1,a2,e1,e2];rfl)
   simp only[amC,cond_true]
   unfold am
   rw[r1,r2,a1,a2]
   try rfl
def LH:eg:=spN false true [tI,tI] (fun x=>decide (fB x.1 x.2.1)) (fun x=>[RV.d tI (hid (ai (ae x.1/ae x.2.1))),RV.d tI (hid (ai (ae x.1%ae x.2.1))),RV.d aon 0])
theorem MW:SpK 341 LH:=spX fun x h=>by simp only[bL];exact HT x.1 x.2.1 (ak6 h)
def aeb:List En:=[⟨341,LH,MW⟩]
def XQ(a:BR)(_k:KT):Option (List RV):=og (decide (fB a.1 a.2)) (some [RV.d tI (hid (ai (ae a.1/ae a.2)))])
def Lp:Cn 355 [tR]:=cn fun(a:BR)=>lf (okR a) [.d tI (ai (ah a).floor)] fun h=>by
 refine aA aeb (XQ a) ⟨0,?_⟩
 obtain⟨a1,a2⟩:=cO h
 unfold XQ
 rw[dT (show fB a.1 a.2 from⟨h.1,h.2.1,h.2.2.1⟩),Rat.floor_def,a1,a2]
 simp only[bL]
def Zt:List En:=[enK wG]
def TX:NT:=[((323,6),{keep:=[1,3],hl:=1})]
def BN:Ctx:=CX (ens Zt) TX
def v6(x:BI)(s3:Int):Cfg:=⟨323,[.blk 0,.seq 23],[(1,.box 0 0),(3,SI s3)],[.box 29 [SB x.1,.d aom x.2]],0,[]⟩
def ada(x:BI)(k:KT):Option (List RV):=k 6 (v6 x 0)
theorem adi(x:BI):RS BN 323 [.d tI x] (ada x):=rsX
def uY(x:BI)(s3:Int)(k:KT):Option (List RV):=match decide (s3<(x.2.length:Int))with|true=>(match aR x.2 s3 with|some x1=>(match decide (x1≥1000000000)with|true=>some [RV.d .bool false]|false=>k 6 (v6 x (i64.wrap (s3+1))))|none=>none)|false=>(og (decide (aQ x.2)) (match((ag (val x.2).toNat).length:Int)==(x.2.length:Int)with|true=>(match !x.1 with|true=>some [RV.d .bool true]|false=>some [RV.d .bool (decide ((x.2.length:Int)>0))])|false=>some [RV.d .bool false]))
theorem zP(x:BI)(s3:Int):RN BN 6 (v6 x s3) (uY x s3):=rnX
theorem Kl(x:BI)(h:okI x):∀(j i:Nat),i+j=x.2.length→BN.Runs 6 (v6 x (i:Int)) [.d .bool true]:=by
 obtain⟨x0,x1,x2⟩:=cE h
 have hlim:=f0 h
 have hl:=h.2.2
 intro j
 induction j with
 |zero=>
  intro i hi
  refine zP _ _ ⟨0,?_⟩
  unfold uY
  have hc:ag (val x.2).toNat=x.2:=(oS h.1).symm
  rw[cd (by omega),dT hlim,hc,beq_self_eq_true]
  dsimp only
  cases e:x.1
  ·rfl
  ·have:=x1 e
   have:x.2≠[]:=fun e=>by rw[x2]at e;omega
   have:=alF.2 this
   rw[ak3 (by omega)]
   rfl
 |succ j ih=>
  intro i hi
  have hil:i<x.2.length:=by omega
  obtain⟨q,hq⟩:=ih (i+1) (by omega)
  refine zP _ _ ⟨q,?_⟩
  unfold uY
  have hb:=(hlim.1 x.2[i] (alE hil)).2
  rw[bH hil,ao,ak4 hil,bW (by omega)]
  dsimp only
  rw[ak5 (by omega)]
  exact hq
def acT:Cn 323 [tI]:=cn fun(x:BI)=>lf (okI x) [.d .bool true] fun h=>by
 refine c7 Zt (show BN.Res _ _ _ from ?_)
 obtain⟨q,hq⟩:=Kl x h x.2.length 0 (by omega)
 exact adi _ ⟨q,hq⟩
def aeV:List En:=[enT Qz,enT acT,enT Oq,enL Mj,enL Rc]
def OZ(a:BR)(_k:KT):Option (List RV):=og (decide (okI a.1)) (og (decide (okI a.2)) (og (decide (okI a.2)) (match(cr (ae a.2) 0) !=1 with|true=>some [RV.d .bool false]|false=>(og (decide (okI a.1∧okI a.2)) (og (decide (okI (hid (ai ((Int.gcd (ae a.1) (ae a.2):Nat):Int)))∧okI (hid (ai 1)))) (some [RV.d .bool (decide (ae (hid (ai ((Int.gcd (ae a.1) (ae a.2):Nat):Int)))=ae (hid (ai 1))))]))))))
def ab6:Cn 272 [tR]:=cn fun(a:BR)=>lf (okR a) [.d .bool true] fun h=>by
 refine aA aeV (OZ a) ⟨0,?_⟩
 obtain⟨h1,h2,h3,h4,_⟩:=h
 have o1:okI (ai ((Int.gcd (ae a.1) (ae a.2):Nat):Int)):=by rw[h4];exact pP
 unfold OZ
 simp only[bL]
 rw[dT h1,dT h2,dT (show okI a.1∧okI a.2 from⟨h1,h2⟩),cL h3,dT (show okI (ai ((Int.gcd (ae a.1) (ae a.2):Nat):Int))∧okI (ai 1) from⟨o1,pP⟩),dec_enc,dec_enc,h4]
 rfl
def mkR(a b c:Rat):Rt:=bif fN c then(a+b*rtQ c,0,0)else bif decide (b=0)then(a,0,0)else(a,b,c)
def coR(a b c:Rat):Rt:=bif decide (b=0)then(a,0,0)else(a,b,c)
class Nn (c:Rat):Prop where le:0≤c
def TU(x:Rt):Prop:=(x.2.1=0∧x.2.2=0)∨(x.2.1≠0∧0<x.2.2∧fN x.2.2=false)
instance (x:Rt):Decidable (TU x):=by unfold TU;infer_instance
class Rdd (x:Rt):Prop where
 rd:TU x
def okT(k:Nat)(x:BO3):Prop:=ok Rt k x∧TU (dec x)
instance (k:Nat) (x:BO3):Decidable (okT k x):=by unfold okT;infer_instance
theorem gk{k:Nat}{x:BO3}(h:okT k x):∃v:Rt,x=enc v∧Bd v k∧Rdd v:=by
 obtain⟨h1,h2⟩:=h
 obtain⟨v,rfl,bv⟩:=aF h1
 rw[az]at h2
 exact⟨v,rfl,bv,⟨h2⟩⟩
theorem aM{x:Rt}{j k:Nat}[h:Bd x j][r:Rdd x](hj:j≤k)(hk:k≤480000):decide (okT k (enc x))=true:=ak3 ⟨ak6 (okd hj hk),by rw[az];exact r.rd⟩
theorem Rdd.nn{x:Rt}(h:Rdd x):0≤x.2.2:=by
 rcases h.rd with h|h<;>grind
instance akK {x:Rt} [h:Rdd x]:Nn x.2.2:=⟨h.nn⟩
theorem rV:fN 0=true:=by decide+kernel
theorem I0{c:Rat}(h:0≤c)(hc:fN c=false):0<c:=by
 rcases(by grind:c=0∨0<c)with h|h
 ·rw[h,rV]at hc;cases hc
 ·exact h
instance sO {a b c:Rat} [h:Nn c]:Rdd (mkR a b c):=by
 refine⟨?_⟩
 unfold mkR
 cases hc:fN c
 ·simp only[cond_false]
  by_cases hb:b=0
  ·rw[ak3 hb];exact .inl ⟨rfl,rfl⟩
  ·rw[ak5 hb];exact .inr ⟨hb,I0 h.le hc,hc⟩
 ·exact .inl ⟨rfl,rfl⟩
instance acv {a:Rat}:Rdd (a,0,0):=⟨.inl ⟨rfl,rfl⟩⟩
namespace RE
theorem OW{c:Rat}(h:fN c=true):rq c=of (rtQ c):=by
 obtain⟨_,_,e,h0⟩:=ED h
 refine C0 _ _ (gj c) (gi.2 h0) ?_
 rw[dw (by rw[←e];exact alp h0 h0),←aH,e]
theorem IZ:rq 0=0:=by
 have:=dw (Rat.le_refl:(0:Rat)≤0)
 rcases fO (gj 0)with h|h
 ·have:=mul_pos h h
  rw[dw Rat.le_refl]at this
  exact absurd this (lt_irrefl _)
 ·exact h
theorem dP(a c:Rat):v2 a 0 c=of a:=by
 unfold v2
 rw[nf,zero_mul,add_zero]
theorem vR_mk(a b c:Rat):vR (mkR a b c)=v2 a b c:=by
 unfold mkR vR
 cases hc:fN c
 ·simp only[cond_false]
  by_cases hb:b=0
  ·rw[ak3 hb];subst hb;show v2 a 0 0=_;rw[dP,dP]
  ·rw[ak5 hb];rfl
 ·show v2 (a+b*rtQ c) 0 0=_
  rw[dP]
  unfold v2
  rw[OW hc,of_add,aH]
theorem vR_co(a b c:Rat):vR (coR a b c)=v2 a b c:=by
 unfold coR vR
 by_cases hb:b=0
 ·rw[ak3 hb];subst hb;show v2 a 0 0=_;rw[dP,dP]
 ·rw[ak5 hb];rfl
end RE
theorem Ui{z:Int}(h:0≤z):bK z≤z:=by
 obtain⟨g0,g1,g2⟩:=gf h
 rcases alz (bK z) 1 with h'|h'
 ·omega
 ·have:bK z*1≤bK z*bK z:=alb h' g0
  omega
theorem Ew(z:Int):szI (bK z)≤szI z:=by
 have h0:=AF z
 rcases alz z 0 with h|h
 ·rw[pC h];exact dB (by omega)
 ·have:=Ui h
  exact dB (by omega)
instance akI {c:Rat} {k:Nat} [h:Bd c k]:Bd (rtQ c) k:=by
 have hd:=c.den_pos
 have h1:0<bK (c.den:Int):=by
  obtain⟨g0,g1,g2⟩:=gf (show(0:Int)≤(c.den:Int) by omega)
  rcases alz 0 (bK (c.den:Int))with h|h
  ·exact h
  ·rw[show bK (c.den:Int)=0 by omega]at g2;omega
 refine⟨ue (by omega) (alg (Ew _) h.le.1) ?_⟩
 rw[Int.toNat_of_nonneg (by omega)]
 exact alg (Ew _) h.le.2
instance ajs {a b c:Rat} {i j k:Nat} [ha:Bd a i] [hb:Bd b j] [hc:Bd c k]:Bd (mkR a b c) (i+(j+k)+1):=by
 have z:bdR (i+(j+k)+1) 0:=bJ ls.le (by omega)
 refine⟨?_⟩
 unfold mkR
 cases fN c
 ·simp only[cond_false]
  cases decide (b=0)
  ·exact⟨bJ ha.le (by omega),bJ hb.le (by omega),bJ hc.le (by omega)⟩
  ·exact⟨bJ ha.le (by omega),z,z⟩
 ·exact⟨(inferInstance:Bd (a+b*rtQ c) (i+(j+k)+1)).le,z,z⟩
instance akf {a b c:Rat} {i j k:Nat} [ha:Bd a i] [hb:Bd b j] [hc:Bd c k]:Bd (coR a b c) (mx i (mx j k)):=by
 have h1:=Bn i (mx j k)
 have h2:=Bl i (mx j k)
 have h3:=Bn j k
 have h4:=Bl j k
 have h5:=nK ha.le
 have z:bdR (mx i (mx j k)) 0:=bJ ls.le (by omega)
 refine⟨?_⟩
 unfold coR
 cases decide (b=0)
 ·exact⟨bJ ha.le (by omega),bJ hb.le (by omega),bJ hc.le (by omega)⟩
 ·exact⟨bJ ha.le (by omega),z,z⟩
class Ns (c:Rat):Prop where ns:c=0∨(0<c∧fN c=false)
theorem Ns.nn{c:Rat}(h:Ns c):0≤c:=by rcases h.ns with h|h<;>grind
instance akJ {c:Rat} [h:Ns c]:Nn c:=⟨h.nn⟩
theorem aay{a b c:Rat}{i j k:Nat}[ha:Bd a i][hb:Bd b j][hc:Bd c k][hn:Ns c]:Bd (mkR a b c) (mx (i+j+2) k):=by
 have h1:=Bn (i+j+2) k
 have h2:=Bl (i+j+2) k
 have z:bdR (mx (i+j+2) k) 0:=bJ ls.le (by omega)
 refine⟨?_⟩
 unfold mkR
 rcases hn.ns with h|h
 ·subst h
  rw[rV]
  have e:rtQ 0=0:=by decide+kernel
  exact⟨by show bdR _ (a+b*rtQ 0);rw[e];exact bJ (AV ha.le (Bh hb.le ls.le)) (by omega),z,z⟩
 ·rw[h.2]
  simp only[cond_false]
  cases decide (b=0)
  ·exact⟨bJ ha.le (by omega),bJ hb.le (by omega),bJ hc.le (by omega)⟩
  ·exact⟨bJ ha.le (by omega),z,z⟩
def sgR(x:Rt):Int:=gG x.1 x.2.1 x.2.2
def noR(x:Rt):Rat:=x.1*x.1-x.2.1*x.2.1*x.2.2
theorem E3{x:Rt}(h:0≤x.2.2):sgR x=RE.sg (RE.vR x):=RE.sgn2_re h
def mE(a b c:Rat):Rt:=bif decide (b=0)then(a,0,0)else bif decide (c=0)then(a,0,0)else(a,b,c)
instance ajN {x:Rt} {k:Nat} [h:Bd x k]:Bd (noR x) (5*k+1):=(inferInstance:Bd (x.1*x.1-x.2.1*x.2.1*x.2.2) (k+k+(k+k+k)+1)).mono (by omega)
theorem LJ{c:Rat}(h:fN c=true):rtB c=am (rtQ c):=by unfold rtB;rw[h];rfl
theorem aaF{x:Rt}(h:Rdd x)(hb:x.2.1≠0):noR x≠0:=by
 intro e
 rcases h.rd with h|⟨_,h1,h2⟩
 ·exact hb h.1
 ·unfold noR at e
  have:x.2.2=x.1/x.2.1*(x.1/x.2.1):=by grind
  rw[this,Uz]at h2
  cases h2
theorem YX{x:Rt}(h:Rdd x):sgR x=bif aC x.2.1 0==0 then aC x.1 0 else bif aC x.1 0==aC x.2.1 0 then aC x.1 0 else bif aC x.1 0==0 then aC x.2.1 0 else aC x.1 0*aC (noR x) 0:=by
 unfold sgR gG RE.addS
 rcases h.rd with⟨h1,h2⟩|⟨h0,h1,h2⟩
 ·rw[h1,dV]
  simp
 ·have hb:(aC x.2.1 0==0)=false:=by rw[aq,ak5 h0]
  rw[dp h1,ans,hb]
  unfold noR
  rw[sM]
  rfl
def NQ:List En:=[⟨99,iq,fe⟩,⟨107,iW,fy⟩,⟨106,ir,fh⟩,⟨108,gU,eP⟩,⟨41,fX,dU⟩,enL YK]
def YN(_k:KT):Option (List RV):=og (decide (aG (0:Int))) (some [RV.d tR (hid (am ((0:Int):Rat)))])
def aef:Cn 298 []:=cn<|lf True [.d tR (am 0)] fun _=>by
 refine aA NQ (YN) ⟨0,?_⟩
 unfold YN
 rw[dT (show aG 0 by decide)]
 simp only[bL]
 rfl
def Px:List En:=enL aef::NQ
def V8(a:BR)(_k:KT):Option (List RV):=some [RV.d tO (a,(hid (am 0),hid (am 0)))]
def zX:Cn 208 [tR]:=cn fun(a:BR)=>lf (okR a) [.d tO (enc ((ah a,0,0):Rt))] fun h=>by
 refine aA Px (V8 a) ⟨0,?_⟩
 have ha:=h
 obtain⟨a,rfl,ba⟩:=fk ha
 unfold V8
 simp only[aU,aE]
 try rfl
def Zb(a b c:BR)(_k:KT):Option (List RV):=og (o1 b) (match(aC (ah b) 0)==0 with|true=>some [RV.d tO (a,(b,hid (am 0)))]|false=>some [RV.d tO (a,(b,c))])
def agk:Cn 297 [tR,tR,tR]:=cn fun(a b c:BR)=>lf (okR a∧okR b∧okR c) [.d tO (enc (coR (ah a) (ah b) (ah c)))] fun h=>by
 refine aA Px (Zb a b c) ⟨0,?_⟩
 obtain⟨ha,hb,hc⟩:=h
 obtain⟨a,rfl,ba⟩:=fk ha
 obtain⟨b,rfl,bb⟩:=fk hb
 obtain⟨c,rfl,bc⟩:=fk hc
 unfold Zb
 simp only[aU,Nat.reduceLeDiff,aq]
 unfold coR
 by_cases e:b=0
 ·subst e;rw[ak3 rfl];rfl
 ·rw[ak5 e];rfl
def afU:List En:=enL zX::enL agk::Px
def Ym(a b c:BR)(_k:KT):Option (List RV):=og (o1 c) (match decide ((aC (ah c) 0)<0)with|true=>some [RV.d tO (((false,[]),(false,[])),(((false,[]),(false,[])),((false,[]),(false,[])))),RV.d aon 7]|false=>(og (o1 c) (match fN (ah c)with|true=>(og (o2 b (hid (rtB (ah c)))) (og (o2 a (hMu b (hid (rtB (ah c))))) (og (o1 (hAd a (hMu b (hid (rtB (ah c)))))) (some [RV.d tO (hid (enc ((ah (hAd a (hMu b (hid (rtB (ah c))))),0,0):Rt))),RV.d aon 0]))))|false=>(og (decide (okR a∧okR b∧okR c)) (some [RV.d tO (hid (enc (coR (ah a) (ah b) (ah c)))),RV.d aon 0])))))
def Wx:Cn 207 [tR,tR,tR]:=cn fun(a b c:BR)=>lf (ok Rat 100000 a∧ok Rat 100000 b∧ok Rat 100000 c∧0≤ah c) [.d tO (enc (mkR (ah a) (ah b) (ah c))),.d aon 0] fun h=>by
 refine aA afU (Ym a b c) ⟨0,?_⟩
 obtain⟨ha,hb,hc,hc_3⟩:=h
 obtain⟨a,rfl,ba⟩:=aF ha
 obtain⟨b,rfl,bb⟩:=aF hb
 obtain⟨c,rfl,bc⟩:=aF hc
 rw[eT,cB]at hc_3
 unfold Ym
 simp only[aU,aE,Nat.reduceLeDiff,au,ak5 (show ¬c<0 by grind)]
 unfold mkR
 cases hq:fN c
 ·have hz:c≠0:=fun e=>by rw[e,rV]at hq;cases hq
  simp only[aU]
  try rfl
 ·rw[LJ hq]
  simp only[aU,aE,Nat.reduceAdd,Nat.reduceLeDiff]
  try rfl
def LK:List En:=[enL oG,enL re,enL ux,enL rK,enT pg,enL Od,enT ab6]
def Ni(_k:KT):Option (List RV):=og (decide (aG (0:Int))) (some [RV.d tR (hid (am ((0:Int):Rat)))])
def Nq:Cn 262 []:=cn<|lf True [.d tR (am 0)] fun _=>by
 refine aA LK (Ni) ⟨0,?_⟩
 unfold Ni
 rw[dT (show aG 0 by decide)]
 simp only[bL]
 rfl
def Rg:List En:=enL Nq::LK
def Pr(a:BR)(_k:KT):Option (List RV):=some [RV.d tO (a,(hid (am 0),hid (am 0)))]
def Qf:Cn 159 [tR]:=cn fun(a:BR)=>lf (okR a) [.d tO (enc ((ah a,0,0):Rt))] fun h=>by
 refine aA Rg (Pr a) ⟨0,?_⟩
 have ha:=h
 obtain⟨a,rfl,ba⟩:=fk ha
 unfold Pr
 simp only[aU,aE]
 try rfl
def L9:List En:=enL Qf::Rg
def Rk(a b c:BR)(_k:KT):Option (List RV):=og (o1 b) (match(aC (ah b) 0)==0 with|true=>(og (o1 a) (some [RV.d tO (hid (enc ((ah a,0,0):Rt)))]))|false=>(og (o1 c) (match(aC (ah c) 0)==0 with|true=>(og (o1 a) (some [RV.d tO (hid (enc ((ah a,0,0):Rt)))]))|false=>some [RV.d tO (a,(b,c))])))
def LD:Cn 243 [tR,tR,tR]:=cn fun(a b c:BR)=>lf (okR a∧okR b∧okR c) [.d tO (enc (mE (ah a) (ah b) (ah c)))] fun h=>by
 refine aA L9 (Rk a b c) ⟨0,?_⟩
 obtain⟨ha,hb,hc⟩:=h
 obtain⟨a,rfl,ba⟩:=fk ha
 obtain⟨b,rfl,bb⟩:=fk hb
 obtain⟨c,rfl,bc⟩:=fk hc
 unfold Rk
 simp only[aU,aE,Nat.reduceLeDiff,aq]
 unfold mE
 by_cases e:b=0
 ·rw[ak3 e];rfl
 ·rw[ak5 e]
  by_cases e:c=0
  ·rw[ak3 e];rfl
  ·rw[ak5 e];rfl
def aas:List En:=enL LD::L9
def Oz(a b c:BR)(_k:KT):Option (List RV):=og (o1 c) (match decide ((aC (ah c) 0)<0)with|true=>some [RV.d tO (((false,[]),(false,[])),(((false,[]),(false,[])),((false,[]),(false,[])))),RV.d aon 7]|false=>(og (o1 c) (match fN (ah c)with|true=>(og (o2 b (hid (rtB (ah c)))) (og (o2 a (hMu b (hid (rtB (ah c))))) (og (o1 (hAd a (hMu b (hid (rtB (ah c)))))) (some [RV.d tO (hid (enc ((ah (hAd a (hMu b (hid (rtB (ah c))))),0,0):Rt))),RV.d aon 0]))))|false=>(og (decide (okR a∧okR b∧okR c)) (some [RV.d tO (hid (enc (mE (ah a) (ah b) (ah c)))),RV.d aon 0])))))
def ac0:Cn 130 [tR,tR,tR]:=cn fun(a b c:BR)=>lf (ok Rat 100000 a∧ok Rat 100000 b∧ok Rat 100000 c∧0≤ah c) [.d tO (enc (mkR (ah a) (ah b) (ah c))),.d aon 0] fun h=>by
 refine aA aas (Oz a b c) ⟨0,?_⟩
 obtain⟨ha,hb,hc,hc_3⟩:=h
 obtain⟨a,rfl,ba⟩:=aF ha
 obtain⟨b,rfl,bb⟩:=aF hb
 obtain⟨c,rfl,bc⟩:=aF hc
 rw[eT,cB]at hc_3
 unfold Oz
 simp only[aU,aE,Nat.reduceLeDiff,au,ak5 (show ¬c<0 by grind)]
 unfold mkR
 cases hq:fN c
 ·have hz:c≠0:=fun e=>by rw[e,rV]at hq;cases hq
  simp only[aU,mE,ak5 hz]
  try rfl
 ·rw[LJ hq]
  simp only[aU,aE,Nat.reduceAdd,Nat.reduceLeDiff]
  try rfl
def Xz(r:BO3)(_k:KT):Option (List RV):=og (o2 r.1 r.1) (og (o2 r.2.1 r.2.1) (og (o2 (hMu r.2.1 r.2.1) r.2.2) (og (o2 (hMu r.1 r.1) (hMu (hMu r.2.1 r.2.1) r.2.2)) (some [RV.d tR (hSu (hMu r.1 r.1) (hMu (hMu r.2.1 r.2.1) r.2.2))]))))
def afs:Cn 212 [tO]:=cn fun(r:BO3)=>lf (ok Rt 15000 r) [.d tR (am (noR (dec r)))] fun h=>by
 refine aA NQ (Xz r) ⟨0,?_⟩
 have hr:=h
 obtain⟨r,rfl,br⟩:=aF hr
 unfold Xz
 simp only[aU,Nat.reduceAdd,Nat.reduceLeDiff]
 try rfl
abbrev Iv:=Int×Int
def prI(i:Iv):Prop:= -2305843009213693952≤i.1∧i.1≤i.2∧i.2≤2305843009213693952
instance (i:Iv):Decidable (prI i):=by unfold prI;infer_instance
def iv0:Iv:=(0,0)
theorem fQ:prI iv0:=by decide
def ou(lo hi:Int):Iv×Bool:=bif decide (lo< -2305843009213693952)then(iv0,false)else bif decide (hi>2305843009213693952)then(iv0,false)else((lo,hi),true)
theorem Ca{lo hi:Int}(h:lo≤hi):prI (ou lo hi).1:=by
 unfold ou
 by_cases h1:lo< -2305843009213693952
 ·rw[ak3 h1];exact fQ
 ·rw[ak5 h1]
  by_cases h2:hi>2305843009213693952
  ·rw[ak3 h2];exact fQ
  ·rw[ak5 h2];exact⟨by show _≤lo;omega,h,by show hi≤_;omega⟩
theorem Ai{lo hi:Int}(h:(ou lo hi).2=true):(ou lo hi).1=(lo,hi):=by
 unfold ou at h ⊢
 by_cases h1:lo< -2305843009213693952
 ·rw[ak3 h1]at h;cases h
 ·rw[ak5 h1]at h ⊢
  by_cases h2:hi>2305843009213693952
  ·rw[ak3 h2]at h;cases h
  ·rw[ak5 h2];rfl
def frF(q:Rat):Iv×Bool:=bif decide (aG (q*65536).floor)then bif decide (aG (-(-(q*65536)).floor))then ou (q*65536).floor (-(-(q*65536)).floor)else(iv0,false)else(iv0,false)
def dL(a b:Iv):Iv×Bool:=ou (a.1+b.1) (a.2+b.2)
def mi(a:Iv):Iv:=(-a.2,-a.1)
def scF(x y:Int):(Int×Int)×Bool:=
 bif decide (x.natAbs*y.natAbs≥1208925819614629174706176)then((0,0),false)else bif decide (x.natAbs*y.natAbs/65536>2305843009213693952)then((0,0),false)
 else bif decide (x<0)==decide (y<0)then((((x.natAbs*y.natAbs/65536:Nat):Int),(((x.natAbs*y.natAbs+65535)/65536:Nat):Int)),decide ((x.natAbs*y.natAbs+65535)/65536≤2305843009213693952))
 else((-(((x.natAbs*y.natAbs+65535)/65536:Nat):Int),-((x.natAbs*y.natAbs/65536:Nat):Int)),decide ((x.natAbs*y.natAbs+65535)/65536≤2305843009213693952))
theorem Z5{x y:Int}(h:(scF x y).2=true):(scF x y).1.1*65536≤x*y∧x*y≤(scF x y).1.2*65536∧ -2305843009213693952≤(scF x y).1.1∧(scF x y).1.2≤2305843009213693952:=by
 have ep:(((x.natAbs*y.natAbs:Nat)):Int)=(x.natAbs:Int)*(y.natAbs:Int):=amB _ _
 have hs:(decide (x<0)==decide (y<0))=true→x*y=(((x.natAbs*y.natAbs:Nat)):Int):=fun e=>by
  rw[ep]
  by_cases hx:x<0<;>by_cases hy:y<0
  ·rw[show(x.natAbs:Int)= -x by omega,show(y.natAbs:Int)= -y by omega];grind
  ·simp[hx,hy]at e
  ·simp[hx,hy]at e
  ·rw[show(x.natAbs:Int)=x by omega,show(y.natAbs:Int)=y by omega]
 have hd:(decide (x<0)==decide (y<0))=false→x*y= -(((x.natAbs*y.natAbs:Nat)):Int):=fun e=>by
  rw[ep]
  by_cases hx:x<0<;>by_cases hy:y<0
  ·simp[hx,hy]at e
  ·rw[show(x.natAbs:Int)= -x by omega,show(y.natAbs:Int)=y by omega];grind
  ·rw[show(x.natAbs:Int)=x by omega,show(y.natAbs:Int)= -y by omega];grind
  ·simp[hx,hy]at e
 unfold scF at h ⊢
 generalize x.natAbs*y.natAbs=p at*
 by_cases h1:p≥1208925819614629174706176
 ·rw[ak3 h1]at h;cases h
 rw[ak5 h1]at h ⊢
 by_cases h2:p/65536>2305843009213693952
 ·rw[ak3 h2]at h;cases h
 rw[ak5 h2]at h ⊢
 cases e:(decide (x<0)==decide (y<0))<;>rw[e]at h<;>have h3:=ak6 h
 ·rw[hd e]
  show-(((p+65535)/65536:Nat):Int)*65536≤_∧_≤ -((p/65536:Nat):Int)*65536∧_≤ -(((p+65535)/65536:Nat):Int)∧ -((p/65536:Nat):Int)≤_
  omega
 ·rw[hs e]
  show((p/65536:Nat):Int)*65536≤_∧_≤(((p+65535)/65536:Nat):Int)*65536∧_≤((p/65536:Nat):Int)∧(((p+65535)/65536:Nat):Int)≤_
  omega
def iB(s:Iv×Bool)(x y:Int):Iv×Bool:=bif s.2&&(scF x y).2 then((if(scF x y).1.1<s.1.1 then(scF x y).1.1 else s.1.1,if(scF x y).1.2>s.1.2 then(scF x y).1.2 else s.1.2),true)else(iv0,false)
def cH(a b:Iv):Iv×Bool:=iB (iB (iB (iB ((2305843009213693952,-2305843009213693952),true) a.1 b.1) a.1 b.2) a.2 b.1) a.2 b.2
theorem lg{s:Iv×Bool}{x y:Int}(h:(iB s x y).2=true):s.2=true∧(iB s x y).1.1≤s.1.1∧s.1.2≤(iB s x y).1.2∧(iB s x y).1.1*65536≤x*y∧x*y≤(iB s x y).1.2*65536∧((-2305843009213693952≤s.1.1∧s.1.2≤2305843009213693952)→ -2305843009213693952≤(iB s x y).1.1∧(iB s x y).1.2≤2305843009213693952):=by
 unfold iB at h ⊢
 cases e:(s.2&&(scF x y).2)<;>rw[e]at h
 ·cases h
 ·obtain⟨e1,e2⟩:=ale.1 e
  obtain⟨g1,g2,g3,g4⟩:=Z5 e2
  refine⟨e1,?_⟩
  simp only[cond_true]
  split<;>split<;>refine⟨by omega,by omega,by omega,by omega,fun h=>by omega⟩
theorem sE(a b:Iv):prI (cH a b).1:=by
 cases h:(cH a b).2
 ·unfold cH iB at h ⊢
  revert h
  cases((_:Iv×Bool).2&&(scF a.2 b.2).2)
  ·intro _;exact fQ
  ·intro h;cases h
 ·unfold cH at h ⊢
  obtain⟨h3,a3,b3,c3,d3,e3⟩:=lg h
  obtain⟨h2,a2,b2,c2,d2,e2⟩:=lg h3
  obtain⟨h1,a1,b1,c1,d1,e1⟩:=lg h2
  obtain⟨h0,a0,b0,c0,d0,e0⟩:=lg h1
  have k:=e3 (e2 (e1 (e0 (by decide))))
  exact⟨k.1,by omega,k.2⟩
theorem UG{a b:Iv}(h:(cH a b).2=true):∀x y,(x=a.1∨x=a.2)→(y=b.1∨y=b.2)→(cH a b).1.1*65536≤x*y∧x*y≤(cH a b).1.2*65536:=by
 unfold cH at h ⊢
 obtain⟨h3,a3,b3,c3,d3,e3⟩:=lg h
 obtain⟨h2,a2,b2,c2,d2,e2⟩:=lg h3
 obtain⟨h1,a1,b1,c1,d1,e1⟩:=lg h2
 obtain⟨h0,a0,b0,c0,d0,e0⟩:=lg h1
 intro x y hx hy
 rcases hx with rfl|rfl<;>rcases hy with rfl|rfl<;>constructor<;>omega
def eK(n:Int):Int:=bK (n*65536)
def sqF(a:Iv):Iv×Bool:=bif decide (a.2<0)then(iv0,false)else ou (eK (if 0>a.1 then 0 else a.1)) (bif decide (eK a.2*eK a.2=a.2*65536)then eK a.2 else eK a.2+1)
def sgF(a:Iv):Int×Bool:=bif decide (a.1>0)then(1,true)else bif decide (a.2<0)then(-1,true)else(0,decide (a.1=0)&&decide (a.2=0))
namespace RE
def inI(i:Iv)(x:RE):Prop:=of (i.1:Rat)≤of 65536*x∧of 65536*x≤of (i.2:Rat)
theorem Vn(a b u x y:RE)(h1:a≤u*x)(h2:b≤u*y):a+b≤u*(x+y):=by grind
theorem UV(a b u x y:RE)(h1:u*x≤a)(h2:u*y≤b):u*(x+y)≤a+b:=by grind
theorem TV(a u x:RE)(h1:u*x≤a): -a≤u*(-x):=by grind
theorem UP(a u x:RE)(h1:a≤u*x):u*(-x)≤ -a:=by grind
theorem Uu(a c U V m:RE):((m-(U*V)))+((a*c-(m)))+((V-(0))*(U-(a)))+((a-(0))*(V-(c)))=0:=by grind
theorem aeo(a c U V m:RE)(h1:0≤V)(h2:0≤a)(h3:a≤U)(h4:c≤V)(h5:m≤a*c):m≤U*V:=fun hg=>far (aI (aI (aI (aJ hg) (aD h5)) (a9 (aD h1) (aD h3))) (a9 (aD h2) (aD h4))) (Uu a c U V m)
theorem Sx(a d U V m:RE):((m-(U*V)))+((a*d-(m)))+((V-(0))*(U-(a)))+((0-(a))*(d-(V)))=0:=by grind
theorem ad5(a d U V m:RE)(h1:0≤V)(h2:a≤0)(h3:a≤U)(h4:V≤d)(h5:m≤a*d):m≤U*V:=fun hg=>far (aI (aI (aI (aJ hg) (aD h5)) (a9 (aD h1) (aD h3))) (a9 (aD h2) (aD h4))) (Sx a d U V m)
theorem U4(b c U V m:RE):((m-(U*V)))+((b*c-(m)))+((0-(V))*(b-(U)))+((b-(0))*(V-(c)))=0:=by grind
theorem agv(b c U V m:RE)(h1:V≤0)(h2:0≤b)(h3:U≤b)(h4:c≤V)(h5:m≤b*c):m≤U*V:=fun hg=>far (aI (aI (aI (aJ hg) (aD h5)) (a9 (aD h1) (aD h3))) (a9 (aD h2) (aD h4))) (U4 b c U V m)
theorem Sy(b d U V m:RE):((m-(U*V)))+((b*d-(m)))+((0-(V))*(b-(U)))+((0-(b))*(d-(V)))=0:=by grind
theorem ahz(b d U V m:RE)(h1:V≤0)(h2:b≤0)(h3:U≤b)(h4:V≤d)(h5:m≤b*d):m≤U*V:=fun hg=>far (aI (aI (aI (aJ hg) (aD h5)) (a9 (aD h1) (aD h3))) (a9 (aD h2) (aD h4))) (Sy b d U V m)
theorem TD(b d U V m:RE):((U*V-(m)))+((m-(b*d)))+((V-(0))*(b-(U)))+((b-(0))*(d-(V)))=0:=by grind
theorem aes(b d U V m:RE)(h1:0≤V)(h2:0≤b)(h3:U≤b)(h4:V≤d)(h5:b*d≤m):U*V≤m:=fun hg=>far (aI (aI (aI (aJ hg) (aD h5)) (a9 (aD h1) (aD h3))) (a9 (aD h2) (aD h4))) (TD b d U V m)
theorem Uj(b c U V m:RE):((U*V-(m)))+((m-(b*c)))+((V-(0))*(b-(U)))+((0-(b))*(V-(c)))=0:=by grind
theorem ahh(b c U V m:RE)(h1:0≤V)(h2:b≤0)(h3:U≤b)(h4:c≤V)(h5:b*c≤m):U*V≤m:=fun hg=>far (aI (aI (aI (aJ hg) (aD h5)) (a9 (aD h1) (aD h3))) (a9 (aD h2) (aD h4))) (Uj b c U V m)
theorem U9(a d U V m:RE):((U*V-(m)))+((m-(a*d)))+((0-(V))*(U-(a)))+((a-(0))*(d-(V)))=0:=by grind
theorem ahl(a d U V m:RE)(h1:V≤0)(h2:0≤a)(h3:a≤U)(h4:V≤d)(h5:a*d≤m):U*V≤m:=fun hg=>far (aI (aI (aI (aJ hg) (aD h5)) (a9 (aD h1) (aD h3))) (a9 (aD h2) (aD h4))) (U9 a d U V m)
theorem Uw(a c U V m:RE):((U*V-(m)))+((m-(a*c)))+((0-(V))*(U-(a)))+((0-(a))*(V-(c)))=0:=by grind
theorem ag8(a c U V m:RE)(h1:V≤0)(h2:a≤0)(h3:a≤U)(h4:c≤V)(h5:a*c≤m):U*V≤m:=fun hg=>far (aI (aI (aI (aJ hg) (aD h5)) (a9 (aD h1) (aD h3))) (a9 (aD h2) (aD h4))) (Uw a c U V m)
theorem ZX(u x y:RE):u*x*(u*y)=u*(x*y)*u:=by grind
theorem Vy(a b u:RE):((u-(0))*(a-(b)))+((b*u-(a*u)))=0:=by grind
theorem XK(a b u:RE)(h1:0<u)(h2:a*u≤b*u):a≤b:=fun hg=>far (aI (mul_pos (aJ h1) (aJ hg)) (aD h2)) (Vy a b u)
theorem oa:0<of 65536:=hZ (by decide+kernel)
end RE
namespace RE
theorem mB{a b:Int}(h:a≤b):of (a:Rat)≤of (b:Rat):=gi.2 (am8.2 h)
theorem iC{q:Rat}(h:(frF q).2=true):inI (frF q).1 (of q):=by
 have f1:((q*65536).floor:Rat)≤q*65536:=Rat.floor_le _
 have f2:((-(q*65536)).floor:Rat)≤ -(q*65536):=Rat.floor_le _
 unfold frF at h ⊢
 cases e1:decide (aG (q*65536).floor)
 ·rw[e1]at h;cases h
 ·cases e2:decide (aG (-(-(q*65536)).floor))
  ·rw[e1,e2]at h;cases h
  ·rw[e1,e2]at h
   simp only[cond_true]at h ⊢
   rw[Ai h]
   refine⟨?_,?_⟩
   ·rw[←aH];exact gi.2 (by show(((q*65536).floor:Int):Rat)≤_;grind)
   ·rw[←aH];exact gi.2 (by show _≤((-(-(q*65536)).floor:Int):Rat);rw[anO];grind)
theorem frF_pr(q:Rat):prI (frF q).1:=by
 have f1:((q*65536).floor:Rat)≤q*65536:=Rat.floor_le _
 have f2:((-(q*65536)).floor:Rat)≤ -(q*65536):=Rat.floor_le _
 have f3:(q*65536).floor≤ -(-(q*65536)).floor:=by
  refine am8.1 ?_
  rw[anO]
  grind
 unfold frF
 cases decide (aG (q*65536).floor)
 ·exact fQ
 ·cases decide (aG (-(-(q*65536)).floor))
  ·exact fQ
  ·exact Ca f3
theorem jV{a b:Iv}{x y:RE}(ha:inI a x)(hb:inI b y)(h:(dL a b).2=true):inI (dL a b).1 (x+y):=by
 unfold dL at h ⊢
 rw[Ai h]
 refine⟨?_,?_⟩
 ·show of ((a.1+b.1:Int):Rat)≤_
  rw[Rat.intCast_add,of_add]
  exact Vn _ _ _ _ _ ha.1 hb.1
 ·show _≤of ((a.2+b.2:Int):Rat)
  rw[Rat.intCast_add,of_add]
  exact UV _ _ _ _ _ ha.2 hb.2
theorem addF_pr{a b:Iv}(ha:prI a)(hb:prI b):prI (dL a b).1:=Ca (by have:=ha.2.1;have:=hb.2.1;omega)
theorem AT{a:Iv}{x:RE}(ha:inI a x):inI (mi a) (-x):=by
 refine⟨?_,?_⟩
 ·show of ((-a.2:Int):Rat)≤_
  rw[anO,of_neg]
  exact TV _ _ _ ha.2
 ·show _≤of ((-a.1:Int):Rat)
  rw[anO,of_neg]
  exact UP _ _ _ ha.1
theorem negF_pr{a:Iv}(ha:prI a):prI (mi a):=⟨by show _≤ -a.2;have:=ha.2.2;omega,by show-a.2≤ -a.1;have:=ha.2.1;omega,by show-a.1≤_;have:=ha.1;omega⟩
theorem lz{a b:Iv}{x y:RE}(ha:inI a x)(hb:inI b y)(h:(cH a b).2=true):inI (cH a b).1 (x*y):=by
 have hc:=UG h
 have c1:=hc a.1 b.1 (.inl rfl) (.inl rfl)
 have c2:=hc a.1 b.2 (.inl rfl) (.inr rfl)
 have c3:=hc a.2 b.1 (.inr rfl) (.inl rfl)
 have c4:=hc a.2 b.2 (.inr rfl) (.inr rfl)
 generalize (cH a b).1=m at*
 have up:∀{p q r:Int},p*65536≤q*r→of (p:Rat)*of 65536≤of (q:Rat)*of (r:Rat):=fun{p q r} h=>by
  have:=mB h
  rw[am6,am6,aH,aH]at this
  exact this
 have dn:∀{p q r:Int},q*r≤p*65536→of (q:Rat)*of (r:Rat)≤of (p:Rat)*of 65536:=fun{p q r} h=>by
  have:=mB h
  rw[am6,am6,aH,aH]at this
  exact this
 obtain⟨a1,a2⟩:=ha
 obtain⟨b1,b2⟩:=hb
 have l:of (m.1:Rat)*of 65536≤of 65536*x*(of 65536*y):=by
  rcases lt_or_ge (of 65536*y) 0 with v|v
  ·rcases lt_or_ge (of (a.2:Rat)) 0 with s|s
   ·exact ahz _ _ _ _ _ (le_of_lt v) (le_of_lt s) a2 b2 (up c4.1)
   ·exact agv _ _ _ _ _ (le_of_lt v) s a2 b1 (up c3.1)
  ·rcases lt_or_ge (of (a.1:Rat)) 0 with s|s
   ·exact ad5 _ _ _ _ _ v (le_of_lt s) a1 b2 (up c2.1)
   ·exact aeo _ _ _ _ _ v s a1 b1 (up c1.1)
 have u:of 65536*x*(of 65536*y)≤of (m.2:Rat)*of 65536:=by
  rcases lt_or_ge (of 65536*y) 0 with v|v
  ·rcases lt_or_ge (of (a.1:Rat)) 0 with s|s
   ·exact ag8 _ _ _ _ _ (le_of_lt v) (le_of_lt s) a1 b1 (dn c1.2)
   ·exact ahl _ _ _ _ _ (le_of_lt v) s a1 b2 (dn c2.2)
  ·rcases lt_or_ge (of (a.2:Rat)) 0 with s|s
   ·exact ahh _ _ _ _ _ v (le_of_lt s) a2 b1 (dn c3.2)
   ·exact aes _ _ _ _ _ v s a2 b2 (dn c4.2)
 rw[ZX]at l u
 exact⟨XK _ _ _ oa l,XK _ _ _ oa u⟩
theorem aee(u s:RE):u*s*(u*s)=u*(s*s)*u:=by grind
theorem O3(r a u x:RE):((r-(u*x*u)))+((a*u-(r)))+((u*x-(a))*(u-(0)))=0:=by grind
theorem acx(r a u x:RE)(h1:r≤a*u)(h2:a≤u*x)(h3:0<u):r≤u*x*u:=fun hg=>far (aI (aI (aJ hg) (aD h1)) (a9 (aD h2) (le_of_lt (aJ h3)))) (O3 r a u x)
theorem Po(r a u x:RE):((u*x*u-(r)))+((r-(a*u)))+((a-(u*x))*(u-(0)))=0:=by grind
theorem Rs(r a u x:RE)(h1:a*u≤r)(h2:u*x≤a)(h3:0<u):u*x*u≤r:=fun hg=>far (aI (aI (aJ hg) (aD h1)) (a9 (aD h2) (le_of_lt (aJ h3)))) (Po r a u x)
theorem sqF_pr{a:Iv}(ha:prI a):prI (sqF a).1:=by
 unfold sqF
 by_cases h:a.2<0
 ·rw[ak3 h];exact fQ
 ·rw[ak5 h]
  simp only[cond_false]
  refine Ca ?_
  have h1:(if 0>a.1 then 0 else a.1)≤a.2:=by have:=ha.2.1;split<;>omega
  have h0:0≤(if 0>a.1 then 0 else a.1):=by split<;>omega
  have hm:eK (if 0>a.1 then 0 else a.1)≤eK a.2:=by
   unfold eK
   obtain⟨_,g1,_⟩:=gf (z:=(if 0>a.1 then 0 else a.1)*65536) (by omega)
   obtain⟨g0,_,g2⟩:=gf (z:=a.2*65536) (by omega)
   have:=Go.Proofs.YtnkndpoojnflmaaGreat.sq_lt (a:=bK ((if 0>a.1 then 0 else a.1)*65536)) (b:=bK (a.2*65536)+1) (by omega) (by omega)
   omega
  cases decide (eK a.2*eK a.2=a.2*65536)
  ·show _≤eK a.2+1;omega
  ·exact hm
theorem xg{a:Iv}{x:RE}(ha:inI a x)(hx:0≤x)(h:(sqF a).2=true):inI (sqF a).1 (vt x):=by
 obtain⟨a1,a2⟩:=ha
 have hs:=vW hx
 have s0:0≤of 65536*vt x:=a9 (le_of_lt oa) (lk x)
 have e:of 65536*vt x*(of 65536*vt x)=of 65536*x*of 65536:=by rw[aee,hs]
 unfold sqF at h ⊢
 cases hn:decide (a.2<0)
 ·rw[hn]at h
  simp only[cond_false]at h ⊢
  have h2:=alW hn
  rw[Ai h]
  obtain⟨p0,p1,p2⟩:=gf (z:=(if 0>a.1 then 0 else a.1)*65536) (by split<;>omega)
  obtain⟨q0,q1,q2⟩:=gf (z:=a.2*65536) (by omega)
  have cm:∀{p q:Int},p*p≤q*65536→of (p:Rat)*of (p:Rat)≤of (q:Rat)*of 65536:=fun{p q} h=>by
   have:=mB h
   rw[am6,am6,aH,aH]at this
   exact this
  have cn:∀{p q:Int},q*65536≤p*p→of (q:Rat)*of 65536≤of (p:Rat)*of (p:Rat):=fun{p q} h=>by
   have:=mB h
   rw[am6,am6,aH,aH]at this
   exact this
  have nn:∀{p:Int},0≤p→0≤of (p:Rat):=fun h=>mB h
  refine⟨?_,?_⟩
  ·show of ((eK _:Int):Rat)≤_
   refine zp _ _ (nn p0) s0 ?_
   rw[e]
   refine acx _ (of (((if 0>a.1 then 0 else a.1:Int)):Rat)) _ _ (cm p1) ?_ oa
   split
   ·exact a9 (le_of_lt oa) hx
   ·exact a1
  ·show _≤of (((bif _ then _ else _):Int):Rat)
   cases he:decide (eK a.2*eK a.2=a.2*65536)
   ·simp only[cond_false]
    refine zp _ _ s0 (nn (by unfold eK;omega)) ?_
    rw[e]
    exact Rs _ _ _ _ (cn (by unfold eK;omega)) a2 oa
   ·simp only[cond_true]
    refine zp _ _ s0 (nn q0) ?_
    rw[e]
    exact Rs _ _ _ _ (cn (by rw[ak6 he];exact Int.le_refl _)) a2 oa
 ·rw[hn]at h;cases h
theorem E4{i:Iv}{x:RE}(hi:inI i x)(h:(sgF i).2=true):(sgF i).1=sg x:=by
 obtain⟨h1,h2⟩:=hi
 unfold sgF at h ⊢
 cases e1:decide (i.1>0)
 ·rw[e1]at h
  cases e2:decide (i.2<0)
  ·rw[e2]at h
   simp only[cond_false,ak7,ann]at h ⊢
   rw[h.1]at h1
   rw[h.2]at h2
   have:of 65536*x=0:=le_antisymm h2 h1
   have:sg (of 65536*x)=0:=by rw[this,da]
   rw[dh,dk oa]at this
   omega
  ·have e:=ak6 e2
   have h3:of (i.2:Rat)<0:=hZ (am9.2 e)
   simp only[cond_false,cond_true]
   have:sg (of 65536*x)= -1:=gh (by
    rcases lt_or_ge (of 65536*x) 0 with h|h
    ·exact h
    ·exact absurd (le_trans h h2) (qV.2 h3))
   rw[dh,dk oa]at this
   omega
 ·have e:=ak6 e1
  have h3:0<of (i.1:Rat):=hZ (am9.2 e)
  simp only[cond_true]
  have:sg (of 65536*x)=1:=dk (by
   rcases lt_or_ge 0 (of 65536*x)with h|h
   ·exact h
   ·exact absurd (le_trans h1 h) (qV.2 h3))
  rw[dh,dk oa]at this
  omega
end RE
abbrev Qd:=Rat×Rat×Rat×Rat×Rat×Rat
def sgQ(q:Qd):Int:=Ce q.1 q.2.1 q.2.2.1 q.2.2.2.1 q.2.2.2.2.1 q.2.2.2.2.2
def suT(x y:Rt):Qd:=(x.1-y.1,x.2.1,-y.2.1,0,x.2.2,y.2.2)
def fR(x:Rt)(q:Rat):Int:=gG (x.1-q) x.2.1 x.2.2
def okQ(q:BQ):Prop:=ok Rat 30001 q.1∧ok Rat 15000 q.2.1∧ok Rat 15000 q.2.2.1∧ok Rat 6000 q.2.2.2.1∧ok Rat 15000 q.2.2.2.2.1∧ok Rat 15000 q.2.2.2.2.2∧0≤ah q.2.2.2.2.1∧0≤ah q.2.2.2.2.2
instance (q:BQ):Decidable (okQ q):=by unfold okQ;infer_instance
theorem FH{q:BQ}(h:okQ q):∃A B C D M N:Rat,q=enc ((A,B,C,D,M,N):Qd)∧Bd A 30001∧Bd B 15000∧Bd C 15000∧Bd D 6000∧Bd M 15000∧Bd N 15000∧0≤M∧0≤N:=by
 obtain⟨A,B,C,D,M,N⟩:=q
 obtain⟨h1,h2,h3,h4,h5,h6,h7,h8⟩:=h
 obtain⟨a,ha,b1⟩:=aF h1
 obtain⟨b,hb,b2⟩:=aF h2
 obtain⟨c,hc,b3⟩:=aF h3
 obtain⟨d,hd,b4⟩:=aF h4
 obtain⟨m,hm,b5⟩:=aF h5
 obtain⟨n,hn,b6⟩:=aF h6
 dsimp only at ha hb hc hd hm hn h7 h8
 subst ha hb hc hd hm hn
 rw[eT,cB]at h7 h8
 exact⟨a,b,c,d,m,n,rfl,b1,b2,b3,b4,b5,b6,h7,h8⟩
theorem zg{A B C D M N:Rat}{a b c d m n:Nat}[h1:Bd A a][h2:Bd B b][h3:Bd C c][h4:Bd D d][h5:Bd M m][h6:Bd N n][h7:Nn M][h8:Nn N](ha:a≤30001)(hb:b≤15000)(hc:c≤15000)(hd:d≤6000)(hm:m≤15000)(hn:n≤15000):decide (okQ (enc ((A,B,C,D,M,N):Qd)))=true:=
 ak3 ⟨ak6 (lK ha (by decide)),ak6 (lK hb (by decide)),ak6 (lK hc (by decide)),ak6 (lK hd (by decide)),ak6 (lK hm (by decide)),ak6 (lK hn (by decide)),by show 0≤ah (am M);rw[cB];exact h7.le,by show 0≤ah (am N);rw[cB];exact h8.le⟩
theorem AI{s t:Int}(hs: -1≤s∧s≤1)(ht: -1≤t∧t≤1):i64.wrap (s*t)=s*t:=by
 have:=AM hs ht
 exact aS (by omega) (by omega)
theorem se{a b m x y:Rat}:i64.wrap (gG a b m*aC x y)=gG a b m*aC x y:=AI (ld _ _ _) (jW _ _)
theorem ta{a b m x y z:Rat}:i64.wrap (gG a b m*gG x y z)=gG a b m*gG x y z:=AI (ld _ _ _) (ld _ _ _)
theorem Dj(s t u:Int):(match s==0 with|true=>(match s==0 with|true=>some [RV.d aon t]|false=>some [RV.d aon s])|false=>(match t==0 with|true=>(match s==0 with|true=>some [RV.d aon t]|false=>some [RV.d aon s])|false=>(match s==t with|true=>(match s==0 with|true=>some [RV.d aon t]|false=>some [RV.d aon s])|false=>some [RV.d aon (s*u)])))=some [RV.d aon (RE.addS s t u)]:=by
 unfold RE.addS
 cases h1:s==0
 ·cases h2:t==0
  ·cases h3:s==t<;>rfl
  ·rfl
 ·have e:=ama.1 h1
  subst e
  cases h2:t==0
  ·cases h3:(0:Int)==t
   ·rfl
   ·rw[←ama.1 h3];rfl
  ·rw[ama.1 h2];rfl
theorem By(s t u:Int):(match t==0 with|true=>some [RV.d aon s]|false=>(match s==t with|true=>some [RV.d aon s]|false=>(match s==0 with|true=>some [RV.d aon t]|false=>some [RV.d aon (s*u)])))=some [RV.d aon (RE.addS s t u)]:=by
 unfold RE.addS
 cases h2:t==0
 ·cases h3:s==t
  ·cases h1:s==0<;>rfl
  ·rfl
 ·rfl
def GC:List En:=[enL oG,enL re,enL ux,enL rK,enT pg,enT uk,enL uz]
def PG(a b c:BR)(_k:KT):Option (List RV):=og (o1 a) (og (o1 b) (og (o1 c) (match(aC (ah a) 0)==0 with|true=>(match(aC (ah a) 0)==0 with|true=>some [RV.d aon (i64.wrap ((aC (ah b) 0)*(aC (ah c) 0)))]|false=>some [RV.d aon (aC (ah a) 0)])|false=>(match(i64.wrap ((aC (ah b) 0)*(aC (ah c) 0)))==0 with|true=>(match(aC (ah a) 0)==0 with|true=>some [RV.d aon (i64.wrap ((aC (ah b) 0)*(aC (ah c) 0)))]|false=>some [RV.d aon (aC (ah a) 0)])|false=>(match(aC (ah a) 0)==(i64.wrap ((aC (ah b) 0)*(aC (ah c) 0)))with|true=>(match(aC (ah a) 0)==0 with|true=>some [RV.d aon (i64.wrap ((aC (ah b) 0)*(aC (ah c) 0)))]|false=>some [RV.d aon (aC (ah a) 0)])|false=>(og (o2 a a) (og (o2 b b) (og (o2 (hMu b b) c) (og (o2 (hMu a a) (hMu (hMu b b) c)) (some [RV.d aon (i64.wrap ((aC (ah a) 0)*(aC (ah (hMu a a)) (ah (hMu (hMu b b) c)))))]))))))))))
def Z2:Cn 156 [tR,tR,tR]:=cn fun(a b c:BR)=>lf (ok Rat 240000 a∧ok Rat 170000 b∧ok Rat 30000 c) [.d aon (gG (ah a) (ah b) (ah c))] fun h=>by
 refine aA GC (PG a b c) ⟨0,?_⟩
 obtain⟨ha,hb,hc⟩:=h
 obtain⟨a,rfl,ba⟩:=aF ha
 obtain⟨b,rfl,bb⟩:=aF hb
 obtain⟨c,rfl,bc⟩:=aF hc
 unfold PG
 simp only[aU,Nat.reduceAdd,Nat.reduceLeDiff,pT]
 exact Dj _ _ _
def OJ(a b:BO3)(_k:KT):Option (List RV):=og (o2 a.1 b.1) (og (o1 b.2.1) (og (decide (aG (0:Int))) (some [RV.d tQ (hSu a.1 b.1,(a.2.1,(hNe b.2.1,(hid (am ((0:Int):Rat)),(a.2.2,b.2.2)))))])))
def aaV:Cn 236 [tO,tO]:=cn fun(a b:BO3)=>lf (ok Rt 15000 a∧ok Rt 15000 b) [.d tQ (enc (suT (dec a) (dec b)))] fun h=>by
 refine aA GC (OJ a b) ⟨0,?_⟩
 obtain⟨ha,hb⟩:=h
 obtain⟨a,rfl,ba⟩:=aF ha
 obtain⟨b,rfl,bb⟩:=aF hb
 unfold OJ
 simp only[aU,Nat.reduceLeDiff]
 try rfl
def KU:List En:=enT Z2::enL aaV::GC
def Qm(q:BQ)(_k:KT):Option (List RV):=let y1:=ah q.2.2.2.2.1;let y2:=aC (ah q.2.2.2.2.2) 0;let y3:=gG (ah q.1) (ah q.2.1) y1;let y4:=i64.wrap ((gG (ah q.2.2.1) (ah q.2.2.2.1) y1)*y2);let y5:Option (List RV):=match y3==0 with|true=>some [RV.d aon y4]|false=>some [RV.d aon y3];let y6:=hMu q.2.2.2.1 q.2.2.2.1;let y7:=hMu q.2.2.1 q.2.2.1;let y8:=hMu y6 q.2.2.2.2.1;let y9:=hMu (hMu q.2.1 q.2.1) q.2.2.2.2.1;let y10:=hAd (hMu q.1 q.1) y9;let y11:=hMu q.2.2.2.2.2 (hAd y7 y8);let y12:=hMu q.2.2.1 q.2.2.2.1;let y13:=hMu q.2.2.2.2.2 y12;let y14:=hSu (hMu q.1 q.2.1) y13;og (o1 q.2.2.2.2.1) (match decide ((aC y1 0)<0)with|true=>some [RV.d aon 0]|false=>(og (o1 q.2.2.2.2.2) (match decide (y2<0)with|true=>some [RV.d aon 0]|false=>(og (decide (ok Rat 240000 q.1∧ok Rat 170000 q.2.1∧ok Rat 30000 q.2.2.2.2.1)) (og (decide (ok Rat 240000 q.2.2.1∧ok Rat 170000 q.2.2.2.1∧ok Rat 30000 q.2.2.2.2.1)) (og (o1 q.2.2.2.2.2) (match y3==0 with|true=>y5|false=>(match y4==0 with|true=>y5|false=>(match y3==y4 with|true=>y5|false=>(og (o2 q.2.2.1 q.2.2.1) (og (o2 q.2.2.2.1 q.2.2.2.1) (og (o2 y6 q.2.2.2.2.1) (og (o2 y7 y8) (og (o2 q.2.2.2.2.2 (hAd y7 y8)) (og (o2 q.1 q.1) (og (o2 q.2.1 q.2.1) (og (o2 (hMu q.2.1 q.2.1) q.2.2.2.2.1) (og (o2 (hMu q.1 q.1) y9) (og (o2 y10 y11) (og (o2 q.1 q.2.1) (og (o2 q.2.2.1 q.2.2.2.1) (og (o2 q.2.2.2.2.2 y12) (og (o2 (hMu q.1 q.2.1) y13) (og (o2 y14 y14) (og (decide (ok Rat 240000 (hSu y10 y11)∧ok Rat 170000 (hAd y14 y14)∧ok Rat 30000 q.2.2.2.2.1)) (some [RV.d aon (i64.wrap (y3*(gG (ah (hSu y10 y11)) (ah (hAd y14 y14)) y1)))]))))))))))))))))))))))))))
def aai:Cn 234 [tQ]:=cn fun(q:BQ)=>lf (okQ q) [.d aon (sgQ (dec q))] fun h=>by
 refine aA KU (Qm q) ⟨0,?_⟩
 obtain⟨A,B,C,D,M,N,rfl,bA,bB,bC,bD,bM,bN,hM,hN⟩:=FH h
 rw[az]
 unfold Qm
 simp only[aU,aE,Nat.reduceAdd,Nat.reduceLeDiff,se,ta,au,ak5 (show ¬M<0 by grind),ak5 (show ¬N<0 by grind)]
 refine(Dj _ _ _).trans ?_
 unfold sgQ Ce
 rw[ak5 (show ¬M<0 by grind),ak5 (show ¬N<0 by grind)]
 dsimp only[Bool.or_false,cond_false]
 rw[show A*B-N*(C*D)+(A*B-N*(C*D))=2*(A*B-N*(C*D)) by grind]
 rfl
def Pc:List En:=enT aai::KU
def Pk(a b:BO3)(_k:KT):Option (List RV):=og (decide (ok Rt 15000 a∧ok Rt 15000 b)) (og (decide (okQ (hid (enc (suT (dec a) (dec b)))))) (some [RV.d aon (sgQ (dec (hid (enc (suT (dec a) (dec b))))))]))
def N8:Cn 121 [tO,tO]:=cn fun(a b:BO3)=>lf (okT 15000 a∧okT 15000 b) [.d aon (a8 (dec a) (dec b))] fun h=>by
 refine aA Pc (Pk a b) ⟨0,?_⟩
 obtain⟨ha,hb⟩:=h
 obtain⟨a,rfl,ba,ra⟩:=gk ha
 obtain⟨b,rfl,bb,rb⟩:=gk hb
 have na:Nn a.2.2:=inferInstance
 have nb:Nn b.2.2:=inferInstance
 have e:decide (okQ (enc (suT a b)))=true:=zg (by decide) (by decide) (by decide) (by decide) (by decide) (by decide)
 unfold Pk
 simp only[aU,Nat.reduceLeDiff,e]
 rfl
def PX(a:BO3)(b:BR)(_k:KT):Option (List RV):=og (o2 a.1 b) (og (decide (ok Rat 240000 (hSu a.1 b)∧ok Rat 170000 a.2.1∧ok Rat 30000 a.2.2)) (some [RV.d aon (gG (ah (hSu a.1 b)) (ah a.2.1) (ah a.2.2))]))
def R4:Cn 62 [tO,tR]:=cn fun(a:BO3) (b:BR)=>lf (okT 15000 a∧ok Rat 15000 b) [.d aon (fR (dec a) (ah b))] fun h=>by
 refine aA Pc (PX a b) ⟨0,?_⟩
 obtain⟨ha,hb⟩:=h
 obtain⟨a,rfl,ba,ra⟩:=gk ha
 obtain⟨b,rfl,bb⟩:=aF hb
 unfold PX
 simp only[aU,Nat.reduceAdd,Nat.reduceLeDiff]
 try rfl
def kO:eg:=spN false true [tR] (fun x=>decide (okR x.1)) (fun x=>[RV.d tR (hNe x.1)])
theorem gH:SpK 109 kO:=spX fun x h=>by simp only[bL];exact Ho x.1 (ak6 h)
def MZ:List En:=[⟨99,iq,fe⟩,⟨107,iW,fy⟩,⟨106,ir,fh⟩,⟨108,gU,eP⟩,⟨41,fX,dU⟩,⟨73,lQ,ip⟩,⟨109,kO,gH⟩]
def ZB(a b c:BR)(_k:KT):Option (List RV):=og (o1 a) (og (o1 b) (og (o1 c) (match(i64.wrap ((aC (ah b) 0)*(aC (ah c) 0)))==0 with|true=>some [RV.d aon (aC (ah a) 0)]|false=>(match(aC (ah a) 0)==(i64.wrap ((aC (ah b) 0)*(aC (ah c) 0)))with|true=>some [RV.d aon (aC (ah a) 0)]|false=>(match(aC (ah a) 0)==0 with|true=>some [RV.d aon (i64.wrap ((aC (ah b) 0)*(aC (ah c) 0)))]|false=>(og (o2 a a) (og (o2 b b) (og (o2 (hMu b b) c) (og (o2 (hMu a a) (hMu (hMu b b) c)) (some [RV.d aon (i64.wrap ((aC (ah a) 0)*(aC (ah (hMu a a)) (ah (hMu (hMu b b) c)))))]))))))))))
def Dm:Cn 293 [tR,tR,tR]:=cn fun(a b c:BR)=>lf (ok Rat 240000 a∧ok Rat 170000 b∧ok Rat 30000 c) [.d aon (gG (ah a) (ah b) (ah c))] fun h=>by
 refine aA MZ (ZB a b c) ⟨0,?_⟩
 obtain⟨ha,hb,hc⟩:=h
 obtain⟨a,rfl,ba⟩:=aF ha
 obtain⟨b,rfl,bb⟩:=aF hb
 obtain⟨c,rfl,bc⟩:=aF hc
 unfold ZB
 simp only[aU,Nat.reduceAdd,Nat.reduceLeDiff,pT]
 exact By _ _ _
def V1(a:BR)(_k:KT):Option (List RV):=og (o1 a) (og (o1 (hNe a)) (some [RV.d tR (hNe (hNe a))]))
def ZE:Cn 338 [tR]:=cn fun(a:BR)=>lf (okR a) [.d tR (am (ah a))] fun h=>by
 refine aA MZ (V1 a) ⟨0,?_⟩
 have ha:=h
 obtain⟨a,rfl,ba⟩:=fk ha
 unfold V1
 simp only[aU,Nat.reduceLeDiff,anP]
def aiq:List En:=enT Dm::enL ZE::MZ
def Yn(a b:BO3)(_k:KT):Option (List RV):=og (o2 a.1 b.1) (og (o1 a.2.1) (og (o1 b.2.1) (og (decide (aG (0:Int))) (og (o1 a.2.2) (og (o1 b.2.2) (some [RV.d tQ (hSu a.1 b.1,(hid (am (ah a.2.1)),(hNe b.2.1,(hid (am ((0:Int):Rat)),(hid (am (ah a.2.2)),hid (am (ah b.2.2)))))))]))))))
def Ma:Cn 296 [tO,tO]:=cn fun(a b:BO3)=>lf (ok Rt 15000 a∧ok Rt 15000 b) [.d tQ (enc (suT (dec a) (dec b)))] fun h=>by
 refine aA aiq (Yn a b) ⟨0,?_⟩
 obtain⟨ha,hb⟩:=h
 obtain⟨a,rfl,ba⟩:=aF ha
 obtain⟨b,rfl,bb⟩:=aF hb
 unfold Yn
 simp only[aU,Nat.reduceLeDiff]
 try rfl
theorem jX{n:Int}(h:aG n):szI n≤3:=by
 have:pw 3=1000000000000000000000000000:=by decide
 exact fu (by have:=h.1;omega) (by have:=h.2;omega)
theorem Lu{q:Rat}{k:Nat}(h:Bd q k)(hk:k≤480000):okI (ai q.floor)∧okI (ai (-q.floor)):=by
 have e:szI q.floor≤k:=by
  refine alg (dB ?_) h.le.1
  rw[Rat.floor_def]
  exact Int.natAbs_ediv_le_natAbs _ _
 exact⟨aT (by omega),aT (by rw[jo];omega)⟩
theorem aky:Bd (65536:Rat) 1:=⟨⟨by decide+kernel,by decide+kernel⟩⟩
theorem ach:((65536:Int):Rat)=65536:=rfl
theorem p48:(2:Int)^(min (48:Int).toNat 64)=281474976710656:=by decide
theorem p32:(2:Int)^(min (32:Int).toNat 64)=4294967296:=by decide
theorem p16:(2:Int)^(min (16:Int).toNat 64)=65536:=by decide
theorem fdv{a b:Int}(h:0≤b):Int.fdiv a b=a/b:=Int.fdiv_eq_ediv_of_nonneg a h
theorem X1(n k:Nat)(hn:n<18446744073709551616)(hk:2^k-1<18446744073709551616):BitVec.toNat (BitVec.ofInt 64 (n:Int)&&&BitVec.ofInt 64 ((2^k-1:Nat):Int))=n%2^k:=by
 rw[BitVec.toNat_and,BitVec.toNat_ofInt,BitVec.toNat_ofInt]
 have e1:((n:Int)%((2^64:Nat):Int)).toNat=n:=by omega
 have e2:(((2^k-1:Nat):Int)%((2^64:Nat):Int)).toNat=2^k-1:=by omega
 rw[e1,e2,Nat.and_two_pow_sub_one_eq_mod]
theorem agU(n:Nat)(hn:n<18446744073709551616):u64.wrap (BitVec.toNat (BitVec.ofInt 64 (n:Int)&&&BitVec.ofInt 64 65535))=((n%65536:Nat):Int):=by
 rw[show(65535:Int)=((2^16-1:Nat):Int) from rfl,X1 n 16 hn (by decide),alV]
 omega
theorem Oe(n:Nat)(hn:n<18446744073709551616):u64.wrap (BitVec.toNat (BitVec.ofInt 64 (n:Int)&&&BitVec.ofInt 64 4294967295))=((n%4294967296:Nat):Int):=by
 rw[show(4294967295:Int)=((2^32-1:Nat):Int) from rfl,X1 n 32 hn (by decide),alV]
 omega
theorem aja{h l:Nat}(hh:h<65536)(hl:l<281474976710656):u64.wrap (BitVec.toNat (BitVec.ofInt 64 (u64.wrap ((h:Int)*281474976710656)) ||| BitVec.ofInt 64 (l:Int)))=((h*281474976710656+l:Nat):Int):=by
 rw[BitVec.toNat_or,BitVec.toNat_ofInt,BitVec.toNat_ofInt,alV,alV]
 have e1:((h:Int)*281474976710656%18446744073709551616%((2^64:Nat):Int)).toNat=h <<< 48:=by
  rw[Nat.shiftLeft_eq]
  omega
 have e2:((l:Int)%((2^64:Nat):Int)).toNat=l:=by omega
 rw[e1,e2,←Nat.shiftLeft_add_eq_or_of_lt (by omega),Nat.shiftLeft_eq]
 omega
def scP(x y:Int):Prop:=x.natAbs≤2305843009213693952∧y.natAbs≤2305843009213693952
instance (x y:Int):Decidable (scP x y):=by unfold scP;infer_instance
def C6(n:Int):Prop:=0≤n∧n≤2305843009213693952
instance (n:Int):Decidable (C6 n):=by unfold C6;infer_instance
def afO:Ctx:=CX [] []
def YE(x y:Int)(_k:KT):Option (List RV):=match decide (x<(-2305843009213693952))with|true=>some [RV.d tG (0,0),RV.d .bool false]|false=>(match decide (y>2305843009213693952)with|true=>some [RV.d tG (0,0),RV.d .bool false]|false=>some [RV.d tG (x,y),RV.d .bool true])
theorem ahP(x y:Int):RS afO 353 [SI x,SI y] (YE x y):=rsX
def R7:Cn 353 [aon,aon]:=cn fun(x y:Int)=>lf True [.d tG ((ou x y).1),.d .bool ((ou x y).2)] fun _=>by
 refine fI (E:=[]) trivial (ahP _ _ ⟨0,?_⟩)
 unfold YE ou
 cases decide (x< -2305843009213693952)
 ·cases decide (y>2305843009213693952)<;>rfl
 ·rfl
def Gy:eg:=spN false true [tI] (fun x=>decide (okI x.1)) (fun x=>[RV.d tI (hid (ai (-ae x.1)))])
theorem De:SpK 216 Gy:=spX fun x h=>by simp only[bL];exact Iy x.1 (ak6 h)
def zV:List En:=[⟨99,iq,fe⟩,⟨108,gU,eP⟩,⟨109,kO,gH⟩,enL Lp,enT Wq,⟨216,Gy,De⟩,enL R7]
def Yj(a:BR)(_k:KT):Option (List RV):=let y1:=hid (am ((65536:Int):Rat));let y2:=hid (ai (ah (hMu a y1)).floor);let y3:=hid (ai (ah (hNe (hMu a y1))).floor);let y4:=hid (ai (-ae y3));let y5:=ou (bif decide (aG (ae y2))then ae y2 else 0) (bif decide (aG (ae y4))then ae y4 else 0);og (decide (aG (65536:Int))) (og (o2 a y1) (og (o1 (hMu a y1)) (og (decide (okI y2)) (og (o1 (hMu a y1)) (og (o1 (hNe (hMu a y1))) (og (decide (okI y3)) (og (decide (okI y4)) (match !(decide (aG (ae y2)))with|true=>some [RV.d tG (0,0),RV.d .bool false]|false=>(match !(decide (aG (ae y4)))with|true=>some [RV.d tG (0,0),RV.d .bool false]|false=>some [RV.d tG (hid (y5.1)),RV.d .bool (y5.2)])))))))))
def MY:Cn 333 [tR]:=cn fun(a:BR)=>lf (ok Rat 200000 a) [.d tG ((frF (ah a)).1),.d .bool ((frF (ah a)).2)] fun h=>by
 refine aA zV (Yj a) ⟨0,?_⟩
 have ha:=h
 obtain⟨a,rfl,ba⟩:=aF ha
 have hk:=aky
 have h6:aG 65536:=by decide
 have f1:=Lu (inferInstance:Bd (a*65536) _) (by decide)
 have f2:=Lu (inferInstance:Bd (-(a*65536)) _) (by decide)
 unfold Yj
 simp only[ach,aU,Nat.reduceAdd,Nat.reduceLeDiff,dec_enc,dT h6,dT f1.1,dT f2.1,dT f2.2]
 unfold frF
 cases e1:decide (aG (a*65536).floor)
 ·rfl
 ·cases e2:decide (aG (-(-(a*65536)).floor))
  ·rfl
  ·rfl
def Yd(a b:(Int×Int))(_k:KT):Option (List RV):=some [RV.d tG (hid ((ou (i64.wrap (a.1+b.1)) (i64.wrap (a.2+b.2))).1)),RV.d .bool ((ou (i64.wrap (a.1+b.1)) (i64.wrap (a.2+b.2))).2)]
def PI:Cn 335 [tG,tG]:=cn fun(a b:(Int×Int))=>lf (prI a∧prI b) [.d tG ((dL a b).1),.d .bool ((dL a b).2)] fun h=>by
 refine aA zV (Yd a b) ⟨0,?_⟩
 obtain⟨⟨a1,a2,a3⟩,⟨b1,b2,b3⟩⟩:=h
 unfold Yd dL
 rw[aS (by omega) (by omega),aS (by omega) (by omega)]
 simp only[bL]
def V5(a:(Int×Int))(_k:KT):Option (List RV):=some [RV.d tG (i64.wrap (0-a.2),i64.wrap (0-a.1))]
def Pu:Cn 362 [tG]:=cn fun(a:(Int×Int))=>lf (prI a) [.d tG (mi a)] fun h=>by
 refine aA zV (V5 a) ⟨0,?_⟩
 obtain⟨a1,a2,a3⟩:=h
 unfold V5 mi
 rw[aS (by omega) (by omega),aS (by omega) (by omega),amZ,amZ]
def XY(n:Int)(_k:KT):Option (List RV):=match decide (n<0)with|true=>some [RV.d (.int .u64) (u64.wrap (0-(u64.wrap n)))]|false=>some [RV.d (.int .u64) (u64.wrap n)]
def Of:Cn 367 [aon]:=cn fun(n:Int)=>lf (aG n) [.d (.int .u64) (n.natAbs:Int)] fun h=>by
 refine aA zV (XY n) ⟨0,?_⟩
 obtain⟨h1,h2⟩:=h
 unfold XY
 rw[alV,alV]
 by_cases hn:n<0
 ·rw[ak3 hn,show(0-n%18446744073709551616)%18446744073709551616=(n.natAbs:Int) by omega]
 ·rw[ak5 hn,show n%18446744073709551616=(n.natAbs:Int) by omega]
def Xe(x y:Int)(_k:KT):Option (List RV):=match decide (32<(0:Int))with|true=>none|false=>(match decide (32<(0:Int))with|true=>none|false=>(match decide (32<(0:Int))with|true=>none|false=>(match decide (32<(0:Int))with|true=>none|false=>(match decide (32<(0:Int))with|true=>none|false=>some [RV.d (.int .u64) (u64.wrap ((u64.wrap ((u64.wrap ((Int.fdiv x (2^(min (32:Int).toNat 64)))*(Int.fdiv y (2^(min (32:Int).toNat 64)))))+(Int.fdiv (u64.wrap ((u64.wrap ((Int.fdiv x (2^(min (32:Int).toNat 64)))*(u64.wrap (BitVec.toNat (BitVec.ofInt 64 y&&&BitVec.ofInt 64 4294967295)))))+(Int.fdiv (u64.wrap ((u64.wrap (BitVec.toNat (BitVec.ofInt 64 x&&&BitVec.ofInt 64 4294967295)))*(u64.wrap (BitVec.toNat (BitVec.ofInt 64 y&&&BitVec.ofInt 64 4294967295))))) (2^(min (32:Int).toNat 64))))) (2^(min (32:Int).toNat 64)))))+(Int.fdiv (u64.wrap ((u64.wrap (BitVec.toNat (BitVec.ofInt 64 (u64.wrap ((u64.wrap ((Int.fdiv x (2^(min (32:Int).toNat 64)))*(u64.wrap (BitVec.toNat (BitVec.ofInt 64 y&&&BitVec.ofInt 64 4294967295)))))+(Int.fdiv (u64.wrap ((u64.wrap (BitVec.toNat (BitVec.ofInt 64 x&&&BitVec.ofInt 64 4294967295)))*(u64.wrap (BitVec.toNat (BitVec.ofInt 64 y&&&BitVec.ofInt 64 4294967295))))) (2^(min (32:Int).toNat 64)))))&&&BitVec.ofInt 64 4294967295)))+(u64.wrap ((u64.wrap (BitVec.toNat (BitVec.ofInt 64 x&&&BitVec.ofInt 64 4294967295)))*(Int.fdiv y (2^(min (32:Int).toNat 64))))))) (2^(min (32:Int).toNat 64))))),RV.d (.int .u64) (u64.wrap (x*y))]))))
def No:Cn 366 [(.int .u64),(.int .u64)]:=cn fun(x y:Int)=>lf (iI x∧iI y) [.d (.int .u64) (x*y/18446744073709551616),.d (.int .u64) (x*y%18446744073709551616)] fun h=>by
 refine aA zV (Xe x y) ⟨0,?_⟩
 obtain⟨h1,h2⟩:=h
 obtain⟨X,rfl⟩:=amd h1.1
 obtain⟨Y,rfl⟩:=amd h2.1
 have hX:X<18446744073709551616:=by have:=h1.2;omega
 have hY:Y<18446744073709551616:=by have:=h2.2;omega
 have wn:∀n:Nat,n<18446744073709551616→u64.wrap (n:Int)=(n:Int):=fun n hn=>by rw[alV];omega
 have eX:(X:Int)/4294967296=((X/4294967296:Nat):Int):=by omega
 have eY:(Y:Int)/4294967296=((Y/4294967296:Nat):Int):=by omega
 unfold Xe
 simp only[p32,fdv (show(0:Int)≤4294967296 by decide),Oe X hX,Oe Y hY,eX,eY]
 have hXY:X*Y=X/4294967296*(Y/4294967296)*18446744073709551616+(X/4294967296*(Y%4294967296)+X%4294967296*(Y/4294967296))*4294967296+X%4294967296*(Y%4294967296):=by
  have a:=Nat.div_add_mod X 4294967296
  have b:=Nat.div_add_mod Y 4294967296
  generalize X/4294967296=x1 at*
  generalize X%4294967296=x0 at*
  generalize Y/4294967296=y1 at*
  generalize Y%4294967296=y0 at*
  subst a b
  grind
 have x0:X%4294967296≤4294967295:=by omega
 have y0:Y%4294967296≤4294967295:=by omega
 have x1:X/4294967296≤4294967295:=by omega
 have y1:Y/4294967296≤4294967295:=by omega
 have q00:=anh x0 y0
 have q10:=anh x1 y0
 have q01:=anh x0 y1
 have q11:=anh x1 y1
 simp only[←amB]
 rw[hXY]
 generalize X%4294967296*(Y%4294967296)=p00 at*
 generalize X/4294967296*(Y%4294967296)=p10 at*
 generalize X%4294967296*(Y/4294967296)=p01 at*
 generalize X/4294967296*(Y/4294967296)=p11 at*
 have t0:u64.wrap (u64.wrap (p10:Int)+u64.wrap (p00:Int)/4294967296)=((p10+p00/4294967296:Nat):Int):=by
  rw[wn p10 (by omega),wn p00 (by omega),show(p10:Int)+(p00:Int)/4294967296=((p10+p00/4294967296:Nat):Int) by omega,wn _ (by omega)]
 rw[t0,Oe _ (by omega)]
 have t1:u64.wrap (((p10+p00/4294967296)%4294967296:Nat)+u64.wrap (p01:Int))=(((p10+p00/4294967296)%4294967296+p01:Nat):Int):=by
  rw[wn p01 (by omega),←Int.natCast_add,wn _ (by omega)]
 rw[t1,wn p11 (by omega)]
 rw[ak5 (show ¬(32:Int)<0 by decide)]
 dsimp only
 have hi:u64.wrap (u64.wrap ((p11:Int)+((p10+p00/4294967296:Nat):Int)/4294967296)+(((p10+p00/4294967296)%4294967296+p01:Nat):Int)/4294967296)=((p11*18446744073709551616+(p10+p01)*4294967296+p00:Nat):Int)/18446744073709551616:=by
  rw[alV,alV]
  omega
 rw[hi,alV]
def agK:List En:=enA Of::enA No::zV
def ZI(x y:Int)(_k:KT):Option (List RV):=let y1:=hid ((x.natAbs:Int));let y2:=hid ((y.natAbs:Int));let y3:=hid (y1*y2/18446744073709551616);let y4:=hid (y1*y2%18446744073709551616);let y5:=u64.wrap (BitVec.toNat (BitVec.ofInt 64 (u64.wrap (y3*2^(min (48:Int).toNat 64))) ||| BitVec.ofInt 64 (Int.fdiv y4 (2^(min (16:Int).toNat 64)))));let y6:=i64.wrap y5;let y7:=i64.wrap (y6+1);let y8:=i64.wrap (0-y7);let y9:=i64.wrap (0-y6);let y10:=decide (y9≤2305843009213693952);og (decide (aG x)) (og (decide (aG y)) (og (decide (iI y1∧iI y2)) (match decide (16<(0:Int))with|true=>none|false=>(match(Int.fdiv y3 (2^(min (16:Int).toNat 64))) !=0 with|true=>some [RV.d aon 0,RV.d aon 0,RV.d .bool false]|false=>(match decide (48<(0:Int))with|true=>none|false=>(match decide (16<(0:Int))with|true=>none|false=>(match decide (y5>2305843009213693952)with|true=>some [RV.d aon 0,RV.d aon 0,RV.d .bool false]|false=>(match(u64.wrap (BitVec.toNat (BitVec.ofInt 64 y4&&&BitVec.ofInt 64 65535))) !=0 with|true=>(match !((decide (x<0))==(decide (y<0)))with|true=>(match decide (y8≥(-2305843009213693952))with|true=>some [RV.d aon y8,RV.d aon y9,RV.d .bool y10]|false=>some [RV.d aon y8,RV.d aon y9,RV.d .bool false])|false=>(match decide (y6≥(-2305843009213693952))with|true=>some [RV.d aon y6,RV.d aon y7,RV.d .bool (decide (y7≤2305843009213693952))]|false=>some [RV.d aon y6,RV.d aon y7,RV.d .bool false]))|false=>(match !((decide (x<0))==(decide (y<0)))with|true=>(match decide (y9≥(-2305843009213693952))with|true=>some [RV.d aon y9,RV.d aon y9,RV.d .bool y10]|false=>some [RV.d aon y9,RV.d aon y9,RV.d .bool false])|false=>(match decide (y6≥(-2305843009213693952))with|true=>some [RV.d aon y6,RV.d aon y6,RV.d .bool (decide (y6≤2305843009213693952))]|false=>some [RV.d aon y6,RV.d aon y6,RV.d .bool false]))))))))))
def Yb:Cn 356 [aon,aon]:=cn fun(x y:Int)=>lf (scP x y) [.d aon ((scF x y).1.1),.d aon ((scF x y).1.2),.d .bool ((scF x y).2)] fun h=>by
 refine aA agK (ZI x y) ⟨0,?_⟩
 obtain⟨hx,hy⟩:=h
 have h1:aG x:=⟨by omega,by omega⟩
 have h2:aG y:=⟨by omega,by omega⟩
 have h3:iI (x.natAbs:Int)∧iI (y.natAbs:Int):=⟨⟨by omega,by omega⟩,⟨by omega,by omega⟩⟩
 unfold ZI scF
 simp only[bL]
 rw[dT h1,dT h2,dT h3]
 have hp:=anh hx hy
 simp only[←amB,p16,p48,fdv (show(0:Int)≤65536 by decide)]
 generalize x.natAbs*y.natAbs=p at*
 rw[ak5 (show ¬(16:Int)<0 by decide),ak5 (show ¬(48:Int)<0 by decide),show(p:Int)/18446744073709551616=((p/18446744073709551616:Nat):Int) by omega,show(p:Int)%18446744073709551616=((p%18446744073709551616:Nat):Int) by omega,show((p%18446744073709551616:Nat):Int)/65536=((p%18446744073709551616/65536:Nat):Int) by omega,agU _ (by omega),show p%18446744073709551616%65536=p%65536 by omega]
 by_cases hc:p≥1208925819614629174706176
 ·rw[ak3 hc,show(((p/18446744073709551616:Nat):Int)/65536 !=0)=true by simp;omega]
  rfl
 ·rw[ak5 hc,show(((p/18446744073709551616:Nat):Int)/65536 !=0)=false by simp;omega,aja (by omega) (by omega),show p/18446744073709551616*281474976710656+p%18446744073709551616/65536=p/65536 by omega]
  have hdm:=Nat.div_add_mod p 65536
  have hml:=anZ p (show 65536>0 by decide)
  have hru:(p+65535)/65536=if p%65536=0 then p/65536 else p/65536+1:=by split<;>omega
  rw[hru]
  clear hru
  generalize p/65536=q at*
  generalize p%65536=m at*
  have e1:decide ((q:Int)>2305843009213693952)=decide (q>2305843009213693952):=al6.2 (by omega)
  rw[e1]
  by_cases hd:q>2305843009213693952
  ·rw[ak3 hd]
   rfl
  rw[ak5 hd,aS (x:=(q:Int)) (by omega) (by omega),aS (x:=(q:Int)+1) (by omega) (by omega),aS (x:=0-(q:Int)) (by omega) (by omega),aS (x:=0-((q:Int)+1)) (by omega) (by omega)]
  have e2:((m:Int) !=0)=!decide (m=0):=by by_cases h:m=0<;>simp[h]
  have e3:decide (0-(q:Int)≥ -2305843009213693952)=true:=ak3 (by omega)
  have e4:decide (0-(q:Int)≤2305843009213693952)=true:=ak3 (by omega)
  have e5:decide ((q:Int)≥ -2305843009213693952)=true:=ak3 (by omega)
  have e6:decide ((q:Int)≤2305843009213693952)=true:=ak3 (by omega)
  have e7:decide (0-((q:Int)+1)≥ -2305843009213693952)=decide (q+1≤2305843009213693952):=al6.2 (by omega)
  have e8:decide ((q:Int)+1≤2305843009213693952)=decide (q+1≤2305843009213693952):=al6.2 (by omega)
  have e9:decide (q≤2305843009213693952)=true:=ak3 (by omega)
  rw[e2,e3,e4,e5,e6,e7,e8]
  have f2:((q+1:Nat):Int)=(q:Int)+1:=by omega
  have f3:decide (m=0)=true→m=0:=ak6
  have f4:decide (m=0)=false→m≠0:=alW
  generalize decide (m=0)=d2 at*
  generalize (decide (x<0)==decide (y<0))=d3 at*
  cases d2
  ·rw[alq (f4 rfl),f2]
   generalize decide (q+1≤2305843009213693952)=d4 at*
   cases d3<;>cases d4<;>simp
  ·rw[alx (f3 rfl),e9]
   cases d3<;>simp
def bG(r:Rt):Iv×Bool:=
 bif !(frF r.1).2||decide (r.2.1=0)then frF r.1
 else bif !(frF r.2.1).2||!(frF r.2.2).2||decide (r.2.2<0)then(iv0,false)
 else bif !(sqF (frF r.2.2).1).2 then(iv0,false)
 else bif !(cH (frF r.2.1).1 (sqF (frF r.2.2).1).1).2 then(iv0,false)
 else dL (frF r.1).1 (cH (frF r.2.1).1 (sqF (frF r.2.2).1).1).1
def jL(n:Rat)(a:Iv)(k:Bool):Iv×Bool:=bif !k||!(frF n).2 then(iv0,false)else cH (frF n).1 a
def apF(a b:Rt):Int×Bool:=
 bif !(bG a).2||!(bG b).2 then(0,false)else bif decide ((bG a).1.2<(bG b).1.1)then(-1,true)else bif decide ((bG a).1.1>(bG b).1.2)then(1,true)else(0,false)
abbrev Pt:=Rat×Rat×Rat×Rat×Rat
abbrev Ln:=Rat×Rat×Rat
def pxR(p:Pt):Rt:=(p.1,p.2.1,p.2.2.2.2)
def pyR(p:Pt):Rt:=(p.2.2.1,p.2.2.2.1,p.2.2.2.2)
def xV(l:Ln)(p:Pt):Int×Bool:=
 bif !(jL l.1 (bG (pxR p)).1 (bG (pxR p)).2).2||!(jL l.2.1 (bG (pyR p)).1 (bG (pyR p)).2).2||!(frF l.2.2).2 then(0,false)
 else bif !(dL (jL l.1 (bG (pxR p)).1 (bG (pxR p)).2).1 (jL l.2.1 (bG (pyR p)).1 (bG (pyR p)).2).1).2 then(0,false)
 else bif !(dL (dL (jL l.1 (bG (pxR p)).1 (bG (pxR p)).2).1 (jL l.2.1 (bG (pyR p)).1 (bG (pyR p)).2).1).1 (mi (frF l.2.2).1)).2 then(0,false)
 else sgF (dL (dL (jL l.1 (bG (pxR p)).1 (bG (pxR p)).2).1 (jL l.2.1 (bG (pyR p)).1 (bG (pyR p)).2).1).1 (mi (frF l.2.2).1)).1
def fw(r:Rt)(q:Rat):Iv×Bool:=bif !(bG r).2||!(frF q).2 then(iv0,false)else dL (bG r).1 (mi (frF q).1)
def uK(c:Ln)(p:Pt):Int×Bool:=
 bif !(fw (pxR p) c.1).2||!(fw (pyR p) c.2.1).2||!(frF c.2.2).2 then(0,false)
 else bif !(cH (fw (pxR p) c.1).1 (fw (pxR p) c.1).1).2||!(cH (fw (pyR p) c.2.1).1 (fw (pyR p) c.2.1).1).2 then(0,false)
 else bif !(dL (cH (fw (pxR p) c.1).1 (fw (pxR p) c.1).1).1 (cH (fw (pyR p) c.2.1).1 (fw (pyR p) c.2.1).1).1).2 then(0,false)
 else bif !(dL (dL (cH (fw (pxR p) c.1).1 (fw (pxR p) c.1).1).1 (cH (fw (pyR p) c.2.1).1 (fw (pyR p) c.2.1).1).1).1 (mi (frF c.2.2).1)).2 then(0,false)
 else sgF (dL (dL (cH (fw (pxR p) c.1).1 (fw (pxR p) c.1).1).1 (cH (fw (pyR p) c.2.1).1 (fw (pyR p) c.2.1).1).1).1 (mi (frF c.2.2).1)).1
def sfF(m:Rat):Iv:=(sqF (frF m).1).1
def mfF(b:Rat)(i:Iv):Iv:=(cH (frF b).1 i).1
def qu1(q:Qd):Bool:=(frF q.2.2.2.2.1).2&&(sqF (frF q.2.2.2.2.1).1).2&&(frF q.2.2.2.2.2).2&&(sqF (frF q.2.2.2.2.2).1).2
def qu2(q:Qd):Bool:=(frF q.2.1).2&&(cH (frF q.2.1).1 (sfF q.2.2.2.2.1)).2&&(frF q.2.2.1).2&&(cH (frF q.2.2.1).1 (sfF q.2.2.2.2.2)).2&&(frF q.2.2.2.1).2&&(cH (sfF q.2.2.2.2.1) (sfF q.2.2.2.2.2)).2&&(cH (frF q.2.2.2.1).1 (cH (sfF q.2.2.2.2.1) (sfF q.2.2.2.2.2)).1).2
def quA(q:Qd):Iv×Bool:=dL (frF q.1).1 (mfF q.2.1 (sfF q.2.2.2.2.1))
def quB(q:Qd):Iv×Bool:=dL (mfF q.2.2.1 (sfF q.2.2.2.2.2)) (mfF q.2.2.2.1 (cH (sfF q.2.2.2.2.1) (sfF q.2.2.2.2.2)).1)
def qu3(q:Qd):Bool:=(frF q.1).2&&(quA q).2&&(quB q).2&&(dL (quA q).1 (quB q).1).2
def quF(q:Qd):Int×Bool:=bif !(qu1 q)then(0,false)else bif !(qu2 q)then(0,false)else bif !(qu3 q)then(0,false)else sgF (dL (quA q).1 (quB q).1).1
theorem xe(r:Rt):prI (bG r).1:=by
 unfold bG
 cases !(frF r.1).2||decide (r.2.1=0)
 ·cases !(frF r.2.1).2||!(frF r.2.2).2||decide (r.2.2<0)
  ·cases !(sqF (frF r.2.2).1).2
   ·cases !(cH (frF r.2.1).1 (sqF (frF r.2.2).1).1).2
    ·exact RE.addF_pr (RE.frF_pr _) (sE _ _)
    ·exact fQ
   ·exact fQ
  ·exact fQ
 ·exact RE.frF_pr _
theorem VA(n:Rat)(a:Iv)(k:Bool):prI (jL n a k).1:=by
 unfold jL
 cases !k||!(frF n).2
 ·exact sE _ _
 ·exact fQ
theorem VQ(r:Rt)(q:Rat):prI (fw r q).1:=by
 unfold fw
 cases !(bG r).2||!(frF q).2
 ·exact RE.addF_pr (xe _) (RE.negF_pr (RE.frF_pr _))
 ·exact fQ
namespace RE
theorem pJ{r:Rt}(h:(bG r).2=true):inI (bG r).1 (v2 r.1 r.2.1 r.2.2):=by
 unfold bG at h ⊢
 cases e1:(frF r.1).2
 ·rw[e1]at h
  simp only[Bool.not_false,Bool.true_or,cond_true]at h
  rw[e1]at h
  cases h
 ·rw[e1]at h
  by_cases hb:r.2.1=0
  ·rw[ak3 hb]at h ⊢
   simp only[Bool.not_true,Bool.false_or,cond_true]
   unfold v2
   rw[hb,nf,zero_mul,add_zero]
   exact iC e1
  ·rw[ak5 hb]at h ⊢
   cases e2:(frF r.2.1).2<;>cases e3:(frF r.2.2).2<;>cases e4:decide (r.2.2<0)<;>rw[e2,e3,e4]at h<;>try (cases h;done)
   cases e5:(sqF (frF r.2.2).1).2<;>rw[e5]at h<;>try (cases h;done)
   cases e6:(cH (frF r.2.1).1 (sqF (frF r.2.2).1).1).2<;>rw[e6]at h<;>try (cases h;done)
   have hn:(0:RE)≤of r.2.2:=gi.2 (by have:=alW e4;grind)
   exact jV (iC e1) (lz (iC e2) (xg (iC e3) hn e5) e6) h
theorem IX{n:Rat}{a:Iv}{k:Bool}{x:RE}(ha:k=true→inI a x)(h:(jL n a k).2=true):inI (jL n a k).1 (of n*x):=by
 unfold jL at h ⊢
 cases k
 ·cases h
 ·cases e:(frF n).2<;>rw[e]at h
  ·cases h
  ·exact lz (iC e) (ha rfl) h
theorem IC{r:Rt}{q:Rat}(h:(fw r q).2=true):inI (fw r q).1 (v2 r.1 r.2.1 r.2.2+ -of q):=by
 unfold fw at h ⊢
 cases e1:(bG r).2<;>cases e2:(frF q).2<;>rw[e1,e2]at h<;>try (cases h;done)
 exact jV (pJ e1) (AT (iC e2)) h
theorem Vz(x y:RE)(h1:x<y):x-y<0:=by grind
theorem agG(u x y a b:RE):((b-(a)))+((a-(u*x)))+((u*y-(b)))+((u-(0))*(x-(y)))=0:=by grind
theorem ap1(u x y a b:RE)(h1:0<u)(h2:u*x≤a)(h3:a<b)(h4:b≤u*y):x<y:=qV.1 fun hg=>far (aI (aI (aI (aJ h3) (aD h2)) (aD h4)) (a9 (le_of_lt (aJ h1)) (aD hg))) (agG u x y a b)
theorem apF_ok{a b:Rt}(h:(apF a b).2=true):(apF a b).1=sg (vR a-vR b):=by
 unfold apF at h ⊢
 cases e1:(bG a).2<;>cases e2:(bG b).2<;>rw[e1,e2]at h<;>try (cases h;done)
 obtain⟨a1,a2⟩:=pJ e1
 obtain⟨b1,b2⟩:=pJ e2
 cases e3:decide ((bG a).1.2<(bG b).1.1)<;>rw[e3]at h
 ·cases e4:decide ((bG a).1.1>(bG b).1.2)<;>rw[e4]at h
  ·cases h
  ·have h4:of ((bG b).1.2:Rat)<of ((bG a).1.1:Rat):=hZ (am9.2 (ak6 e4))
   exact(dk (aJ (ap1 _ _ _ _ _ oa b2 h4 a1))).symm
 ·have h4:of ((bG a).1.2:Rat)<of ((bG b).1.1:Rat):=hZ (am9.2 (ak6 e3))
  exact(gh (Vz _ _ (ap1 _ _ _ _ _ oa a2 h4 b1))).symm
theorem Tt{l:Ln}{p:Pt}(h:(xV l p).2=true):(xV l p).1=sg (of l.1*v2 p.1 p.2.1 p.2.2.2.2+of l.2.1*v2 p.2.2.1 p.2.2.2.1 p.2.2.2.2+ -of l.2.2):=by
 unfold xV at h ⊢
 cases e1:(jL l.1 (bG (pxR p)).1 (bG (pxR p)).2).2<;>cases e2:(jL l.2.1 (bG (pyR p)).1 (bG (pyR p)).2).2<;>cases e3:(frF l.2.2).2<;>rw[e1,e2,e3]at h<;>try (cases h;done)
 have i1:=IX (x:=v2 p.1 p.2.1 p.2.2.2.2) (fun e=>pJ (r:=pxR p) e) e1
 have i2:=IX (x:=v2 p.2.2.1 p.2.2.2.1 p.2.2.2.2) (fun e=>pJ (r:=pyR p) e) e2
 revert h i1 i2
 generalize jL l.1 (bG (pxR p)).1 (bG (pxR p)).2=X
 generalize jL l.2.1 (bG (pyR p)).1 (bG (pyR p)).2=Y
 intro h i1 i2
 cases e4:(dL X.1 Y.1).2<;>rw[e4]at h<;>try (cases h;done)
 cases e5:(dL (dL X.1 Y.1).1 (mi (frF l.2.2).1)).2<;>rw[e5]at h<;>try (cases h;done)
 exact E4 (jV (jV i1 i2 e4) (AT (iC e3)) e5) h
theorem Vi{c:Ln}{p:Pt}(h:(uK c p).2=true):(uK c p).1=sg ((v2 p.1 p.2.1 p.2.2.2.2+ -of c.1)*(v2 p.1 p.2.1 p.2.2.2.2+ -of c.1)+(v2 p.2.2.1 p.2.2.2.1 p.2.2.2.2+ -of c.2.1)*(v2 p.2.2.1 p.2.2.2.1 p.2.2.2.2+ -of c.2.1)+ -of c.2.2):=by
 unfold uK at h ⊢
 cases e1:(fw (pxR p) c.1).2<;>cases e2:(fw (pyR p) c.2.1).2<;>cases e3:(frF c.2.2).2<;>rw[e1,e2,e3]at h<;>try (cases h;done)
 have i1:=IC e1
 have i2:=IC e2
 revert h
 generalize fw (pxR p) c.1=X at*
 generalize fw (pyR p) c.2.1=Y at*
 intro h
 cases e4:(cH X.1 X.1).2<;>cases e5:(cH Y.1 Y.1).2<;>rw[e4,e5]at h<;>try (cases h;done)
 cases e6:(dL (cH X.1 X.1).1 (cH Y.1 Y.1).1).2<;>rw[e6]at h<;>try (cases h;done)
 cases e7:(dL (dL (cH X.1 X.1).1 (cH Y.1 Y.1).1).1 (mi (frF c.2.2).1)).2<;>rw[e7]at h<;>try (cases h;done)
 exact E4 (jV (jV (lz i1 i1 e4) (lz i2 i2 e5) e6) (AT (iC e3)) e7) h
theorem ahf(a b c d:RE):a+b+(c+d)=a+b+c+d:=by grind
theorem quF_ok{q:Qd}(hM:0≤q.2.2.2.2.1)(hN:0≤q.2.2.2.2.2)(h:(quF q).2=true):(quF q).1=sg (vQ q.1 q.2.1 q.2.2.1 q.2.2.2.1 q.2.2.2.2.1 q.2.2.2.2.2):=by
 unfold quF at h ⊢
 cases e1:qu1 q<;>rw[e1]at h<;>try (cases h;done)
 cases e2:qu2 q<;>rw[e2]at h<;>try (cases h;done)
 cases e3:qu3 q<;>rw[e3]at h<;>try (cases h;done)
 unfold qu1 at e1
 unfold qu2 at e2
 unfold qu3 at e3
 simp only[ak7]at e1 e2 e3
 obtain⟨⟨⟨a1,a2⟩,a3⟩,a4⟩:=e1
 obtain⟨⟨⟨⟨⟨⟨b1,b2⟩,b3⟩,b4⟩,b5⟩,b6⟩,b7⟩:=e2
 obtain⟨⟨⟨c1,c2⟩,c3⟩,c4⟩:=e3
 have i1:inI (sfF q.2.2.2.2.1) (rq q.2.2.2.2.1):=xg (iC a1) (gi.2 hM) a2
 have i2:inI (sfF q.2.2.2.2.2) (rq q.2.2.2.2.2):=xg (iC a3) (gi.2 hN) a4
 have hq:inI (dL (quA q).1 (quB q).1).1 (vQ q.1 q.2.1 q.2.2.1 q.2.2.2.1 q.2.2.2.2.1 q.2.2.2.2.2):=by
  have:=jV (jV (iC c1) (lz (iC b1) i1 b2) c2) (jV (lz (iC b3) i2 b4) (lz (iC b5) (lz i1 i2 b6) b7) c3) c4
  rw[ahf]at this
  exact this
 exact E4 hq h
end RE
end Go.Proofs.YtnkndpoojnflmaaGreat
end
