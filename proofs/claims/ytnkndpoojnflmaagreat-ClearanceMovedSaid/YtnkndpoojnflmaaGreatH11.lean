/- The reference's Sqrt and Same. -/
import Derived.Test.YtnkndpoojnflmaaGreatH10
noncomputable section
namespace Go.Proofs.YtnkndpoojnflmaaGreat
open Go.RowKit Go.IntKind
theorem alQ:type_of% @Bool.and_eq_true_iff:=@Bool.and_eq_true_iff
theorem anD:type_of% @Int.zero_sub:=@Int.zero_sub
theorem anH:type_of% @beq_eq_false_iff_ne:=@beq_eq_false_iff_ne
theorem anI:type_of% @Rat.intCast_mul:=@Rat.intCast_mul
theorem anW:type_of% @decide_eq_true_eq:=@decide_eq_true_eq
theorem an7:type_of% @Rat.intCast_lt_intCast:=@Rat.intCast_lt_intCast
theorem aoN:type_of% @Rat.neg_neg:=@Rat.neg_neg
theorem mn(a b:Int):(cr a b==0)=decide (a=b):=by
 rcases Int.lt_trichotomy a b with h|h|h
 ·rw[c8 h,alH (by omega)];rfl
 ·rw[h,dX,alF rfl];rfl
 ·rw[cM h,alH (by omega)];rfl
def PB:List En:=[enK AS,enF Sk,enK BD,enK Gq,enK Ol]
def VJ:NT:=[((345,23),{keep:=[1,2,4,5],hl:=6})]
def Ak:Ctx:=CX (ens PB) VJ
def kw(x:Bool×List Int)(b4_0:Bool)(b4_1:List Int):Cfg:=⟨345,[.blk 0],[(1,.box 0 0),(2,.box 1 0),(4,.box 4 0),(5,.box 5 0)],[.box 29 [SB x.1,.d aoW x.2],.box 29 [SB false,.nil],.gone,.row 225 aoY ([1]),.box 29 [SB b4_0,.d aoW b4_1],.box 29 [SB ((ai (2:Int)).1),.d aoW ((ai (2:Int)).2)]],0,[]⟩
def AY(x:Bool×List Int)(k:KT):Option (List RV):=match x.1 with|true=>some [RV.d y2Y (false,[]),RV.d aoX 7]|false=>(match(x.2.length:Int)==0 with|true=>some [RV.d y2Y (false,[]),RV.d aoX 0]|false=>(og (decide ((0:Int)≤i64.wrap (Int.tdiv (i64.wrap ((x.2.length:Int)+1)) 2)∧(i64.wrap (Int.tdiv (i64.wrap ((x.2.length:Int)+1)) 2))*((4:Nat):Int)≤140737488355328∧i64.wrap (Int.tdiv (i64.wrap ((x.2.length:Int)+1)) 2)≤140737488355328)) (og (decide (((List.replicate (i64.wrap (Int.tdiv (i64.wrap ((x.2.length:Int)+1)) 2)).toNat (0:Int)).length+([1]).length)*4≤140737488355328∧(List.replicate (i64.wrap (Int.tdiv (i64.wrap ((x.2.length:Int)+1)) 2)).toNat (0:Int)).length+([1]).length≤140737488355328)) (og (decide (aH (2:Int))) (k 23 (kw x false ((List.replicate (i64.wrap (Int.tdiv (i64.wrap ((x.2.length:Int)+1)) 2)).toNat (0:Int))++([1]))))))))
theorem GD(x:Bool×List Int):RS Ak 345 [.d y2Y x] (AY x):=rsX
def rH(x:Bool×List Int)(b4_0:Bool)(b4_1:List Int)(k:KT):Option (List RV):=og (decide (fp x (b4_0,b4_1))) (ce (og (decide (okI (b4_0,b4_1)∧okI (ai (ae x/ae (b4_0,b4_1))))) (ce (og (decide (fp (ai (ae (b4_0,b4_1)+ae (ai (ae x/ae (b4_0,b4_1))))) (ai (2:Int)))) (dup (.b .l .l) (og (decide (okI (ai (ae (ai (ae (b4_0,b4_1)+ae (ai (ae x/ae (b4_0,b4_1)))))/ae (ai (2:Int))))∧okI (b4_0,b4_1))) (match decide ((cr (ae (ai (ae (ai (ae (b4_0,b4_1)+ae (ai (ae x/ae (b4_0,b4_1)))))/ae (ai (2:Int))))) (ae (b4_0,b4_1)))≥0)with|true=>some [RV.d y2Y (b4_0,b4_1),RV.d aoX 0]|false=>k 23 (kw x ((ai (ae (ai (ae (b4_0,b4_1)+ae (ai (ae x/ae (b4_0,b4_1)))))/ae (ai (2:Int)))).1) ((ai (ae (ai (ae (b4_0,b4_1)+ae (ai (ae x/ae (b4_0,b4_1)))))/ae (ai (2:Int)))).2)))))) (dup (.b (.b .l .l) (.b .l .l)) (og (decide (fp (ai (ae (b4_0,b4_1)+ae (ai (ae x/ae (b4_0,b4_1))))) (ai (2:Int)))) (og (decide (okI (ai (ae (ai (ae (b4_0,b4_1)+ae (ai (ae x/ae (b4_0,b4_1)))))/ae (ai (2:Int))))∧okI (b4_0,b4_1))) (match decide ((cr (ae (ai (ae (ai (ae (b4_0,b4_1)+ae (ai (ae x/ae (b4_0,b4_1)))))/ae (ai (2:Int))))) (ae (b4_0,b4_1)))≥0)with|true=>some [RV.d y2Y (b4_0,b4_1),RV.d aoX 0]|false=>k 23 (kw x ((ai (ae (ai (ae (b4_0,b4_1)+ae (ai (ae x/ae (b4_0,b4_1)))))/ae (ai (2:Int)))).1) ((ai (ae (ai (ae (b4_0,b4_1)+ae (ai (ae x/ae (b4_0,b4_1)))))/ae (ai (2:Int)))).2)))))))) (dup (.b .l .l) (ce (og (decide (okI (b4_0,b4_1)∧okI (ai (ae x/ae (b4_0,b4_1))))) (dup (.b .l .l) (og (decide (fp (ai (ae (b4_0,b4_1)+ae (ai (ae x/ae (b4_0,b4_1))))) (ai (2:Int)))) (og (decide (okI (ai (ae (ai (ae (b4_0,b4_1)+ae (ai (ae x/ae (b4_0,b4_1)))))/ae (ai (2:Int))))∧okI (b4_0,b4_1))) (match decide ((cr (ae (ai (ae (ai (ae (b4_0,b4_1)+ae (ai (ae x/ae (b4_0,b4_1)))))/ae (ai (2:Int))))) (ae (b4_0,b4_1)))≥0)with|true=>some [RV.d y2Y (b4_0,b4_1),RV.d aoX 0]|false=>k 23 (kw x ((ai (ae (ai (ae (b4_0,b4_1)+ae (ai (ae x/ae (b4_0,b4_1)))))/ae (ai (2:Int)))).1) ((ai (ae (ai (ae (b4_0,b4_1)+ae (ai (ae x/ae (b4_0,b4_1)))))/ae (ai (2:Int)))).2))))))) (og (decide (okI (b4_0,b4_1)∧okI (ai (ae x/ae (b4_0,b4_1))))) (og (decide (fp (ai (ae (b4_0,b4_1)+ae (ai (ae x/ae (b4_0,b4_1))))) (ai (2:Int)))) (og (decide (okI (ai (ae (ai (ae (b4_0,b4_1)+ae (ai (ae x/ae (b4_0,b4_1)))))/ae (ai (2:Int))))∧okI (b4_0,b4_1))) (match decide ((cr (ae (ai (ae (ai (ae (b4_0,b4_1)+ae (ai (ae x/ae (b4_0,b4_1)))))/ae (ai (2:Int))))) (ae (b4_0,b4_1)))≥0)with|true=>some [RV.d y2Y (b4_0,b4_1),RV.d aoX 0]|false=>k 23 (kw x ((ai (ae (ai (ae (b4_0,b4_1)+ae (ai (ae x/ae (b4_0,b4_1)))))/ae (ai (2:Int)))).1) ((ai (ae (ai (ae (b4_0,b4_1)+ae (ai (ae x/ae (b4_0,b4_1)))))/ae (ai (2:Int)))).2)))))))))
theorem xh(x:Bool×List Int)(b4_0:Bool)(b4_1:List Int):RN Ak 23 (kw x b4_0 b4_1) (rH x b4_0 b4_1):=rnX
theorem Ka(x:BI)(hx:okI x)(h0:0<ae x):∀(m:Nat) (X:Int),X.toNat=m→0<X→bK (ae x)≤X→szI X≤900000→Ak.Runs 23 (kw x (ai X).1 (ai X).2) [.d y2Y (ai (bK (ae x))),.d aoX 0]:=by
 intro m
 induction m using Nat.strongRecOn with
 |ind m ih=>
  intro X hm hX hs hsz
  obtain⟨g0,g1,g2⟩:=fU (amn h0)
  have hq0:0≤ae x/X:=amG (by omega) (by omega)
  have hq1:ae x/X≤ae x:=anB _ (by omega)
  have oX:okI (ai X):=aU (by omega)
  have sq:szI (ae x/X)≤1000000:=alU (dw (by omega)) (iS hx)
  have p1:fp x (ai X):=⟨hx,oX,by rw[dec_enc];exact hX⟩
  have ssum:szI (X+ae x/X)≤1000000:=by
   have b1:=nv hsz
   have b2:=nv (iS hx)
   have e:pw 1000000=pw 900000*pw 100000:=by rw[←fu]
   have p9:(1000:Int)≤pw 100000:=by
    have:pw 100000=pw 99999*1000000000:=b8 99999
    have:=cp 99999
    omega
   have p8:=cp 900000
   have h8:pw 900000*1000≤pw 900000*pw 100000:=alN p9 (by omega)
   rcases amd X 2 with hX1|hX1
   ·-- X=1:then the number is less than 4
    have:X=1:=by omega
    subst this
    have:bK (ae x)≤1:=hs
    have h4:ae x<4:=by
     have:=sR (a:=bK (ae x)+1) (b:=2) (by omega) (by omega)
     omega
    refine fh ?_ ?_<;>(rw[e,Int.ediv_one];omega)
   ·have hq2:ae x/X≤ae x/2:=by
     have:=Int.ediv_mul_le (ae x) (show X≠0 by omega)
     have h2:ae x/X*2≤ae x/X*X:=alN hX1 hq0
     omega
    refine fh ?_ ?_<;>(rw[e]at b2 ⊢;omega)
  have o1:okI (ai X)∧okI (ai (ae x/X)):=⟨oX,aU sq⟩
  have p2:fp (ai (X+ae x/X)) (ai 2):=⟨aU ssum,by decide,by rw[dec_enc];decide⟩
  have hn:=Lm hX g0 g1
  have o2:okI (ai ((X+ae x/X)/2))∧okI (ai X):=⟨aU (alU (dw (by omega)) ssum),oX⟩
  by_cases hc:X≤(X+ae x/X)/2
  ·have hXs:=wX hX hs g1 g2 g0 hc
   refine xh _ _ _ ⟨0,?_⟩
   unfold rH
   simp only[cS,eU]
   have e:∀z:Int,((ai z).1,(ai z).2)=ai z:=fun z=>rfl
   simp only[e,dec_enc,alF p1,alF o1,alF p2,alF o2]
   have hg:decide (cr ((X+ae x/X)/2) X≥0)=true:=by
    rcases Int.lt_or_eq_of_le hc with h|h
    ·rw[cM h];rfl
    ·rw[←h,dX];rfl
   rw[hg,hXs]
  ·obtain⟨n,hN⟩:=ih ((X+ae x/X)/2).toNat (by omega) ((X+ae x/X)/2) rfl (by
    rcases amd 0 (bK (ae x))with h|h
    ·omega
    ·exfalso
     have:bK (ae x)=0:=by omega
     rw[this]at g2
     omega) hn (alU (dw (by omega)) hsz)
   refine xh _ _ _ ⟨n,?_⟩
   unfold rH
   simp only[cS,eU]
   have e:∀z:Int,((ai z).1,(ai z).2)=ai z:=fun z=>rfl
   simp only[e,dec_enc,alF p1,alF o1,alF p2,alF o2]
   rw[c8 (by omega)]
   exact hN
def aa4:Cn 345 [y2Y]:=cn fun(x:Bool×List Int)=>lf (okI x) [.d y2Y (fy x),.d aoX (vt x)] fun h=>by
 refine cZ PB (show Ak.Res _ _ _ from ?_)
 obtain⟨x0,x1,x2⟩:=cE h
 have hl:=h.2.2
 cases hn:x.1
 ·by_cases hz:x.2=[]
  ·refine GD _ ⟨0,?_⟩
   unfold AY fy vt
   have:ae x=0:=by unfold ae;rw[hn,hz];rfl
   rw[hn,hz,this]
   rfl
  ·have hp:0<val x.2:=eI h.1 hz
   have hd:ae x=val x.2:=by unfold ae;rw[hn];rfl
   have hlen:=ami.2 hz
   have hk:i64.wrap (Int.tdiv (i64.wrap ((x.2.length:Int)+1)) 2)=(((x.2.length+1)/2:Nat):Int):=by
    rw[bV (by omega),gX (by omega),aT (by omega) (by omega)]
    omega
   have hv:val (List.replicate ((x.2.length+1)/2) 0++[1])=pw ((x.2.length+1)/2):=by
    rw[dB,gI,aof]
    simp[val]
   have hL:aQ (List.replicate ((x.2.length+1)/2) 0++[1]):=by
    refine⟨fun y hy=>?_,by simp;omega⟩
    rcases amr.1 hy with hy|hy
    ·have:=List.eq_of_mem_replicate hy;omega
    ·simp at hy;omega
   have hpos:=cp ((x.2.length+1)/2)
   obtain⟨n,hN⟩:=Ka x h (by omega) _ (pw ((x.2.length+1)/2)) rfl hpos (by
     obtain⟨g0,g1,g2⟩:=fU (show 0≤ae x by omega)
     have hlt:=bW h.1.1
     have hm:=dh (show x.2.length≤(x.2.length+1)/2+(x.2.length+1)/2 by omega)
     rw[fu]at hm
     have:=sq_lt (a:=bK (ae x)) (b:=pw ((x.2.length+1)/2)) (by omega) (by omega)
     omega) (fh (k:=900000) (by have:=cp 900000;omega) (by
      have:=dh (show(x.2.length+1)/2+1≤900000 by omega)
      rw[b8]at this
      omega))
   refine GD _ ⟨n,?_⟩
   unfold AY fy vt
   simp only[hk]
   rw[hn,show((x.2.length:Int)==0)=false by simp;omega]
   simp only[anm]
   rw[alF (show(0:Int)≤(((x.2.length+1)/2:Nat):Int)∧(((x.2.length+1)/2:Nat):Int)*((4:Nat):Int)≤140737488355328∧(((x.2.length+1)/2:Nat):Int)≤140737488355328 by omega)]
   rw[alF (show((List.replicate ((x.2.length+1)/2) (0:Int)).length+([1]:List Nat).length)*4≤140737488355328∧(List.replicate ((x.2.length+1)/2) (0:Int)).length+([1]:List Nat).length≤140737488355328 by simp;omega)]
   rw[alF (show aH 2 by decide)]
   have he:ai (pw ((x.2.length+1)/2))=(false,List.replicate ((x.2.length+1)/2) 0++[1]):=by
    have ho:okI ((false,List.replicate ((x.2.length+1)/2) 0++[1]):BI):=⟨⟨hL.1,by simp⟩,(fun e=>by cases e),(by simp;omega)⟩
    rw[iv ho]
    congr 1
    exact hv.symm
   rw[he]at hN
   exact hN
 ·refine GD _ ⟨0,?_⟩
  unfold AY fy vt
  rw[hn]
  rfl
def aes:List En:=enF xU::PB
def N5(x y:Bool×List Int)(_k:KT):Option (List RV):=match x.1==y.1 with|true=>(og (decide (rn x.2 y.2)) (some [RV.d .bool ((cr (val x.2) (val y.2))==0)]))|false=>some [RV.d .bool false]
def Qe:Cn 324 [y2Y,y2Y]:=cn fun(x y:Bool×List Int)=>lf (okI x∧okI y) [.d .bool (decide (ae x=ae y))] fun h=>by
 refine aA aes (N5 x y) ⟨0,?_⟩
 obtain⟨hx,hy⟩:=h
 obtain⟨x0,x1,x2⟩:=cE hx
 obtain⟨y0,y1,y2⟩:=cE hy
 unfold N5
 rw[dT (show rn x.2 y.2 from⟨⟨hx.1,by have:=hx.2.2;omega⟩,⟨hy.1,by have:=hy.2.2;omega⟩⟩)]
 rw[bL,bL]
 unfold cd
 cases ex:x.1<;>cases ey:y.1<;>simp only[cond_true,cond_false]
 ·show some [RV.d .bool (cr (val x.2) (val y.2)==0)]=_
  rw[mn]
 ·have:=y1 ey
  rw[alH (show ¬val x.2= -val y.2 by omega)]
  rfl
 ·have:=x1 ex
  rw[alH (show ¬ -val x.2=val y.2 by omega)]
  rfl
 ·show some [RV.d .bool (cr (val x.2) (val y.2)==0)]=_
  rw[mn,show decide (val x.2=val y.2)=decide (-val x.2= -val y.2) from amc.2 (by omega)]
def fM(q:Rat):Bool:=decide (bK q.num*bK q.num=q.num)&&decide (bK (q.den:Int)*bK (q.den:Int)=(q.den:Int))
def rtQ(q:Rat):Rat:=mkRat (bK q.num) (bK (q.den:Int)).toNat
theorem BA(z:Int):0≤bK z:=by unfold bK;omega
theorem AK{s:Int}(h:0≤s):bK (s*s)=s:=TF h (Int.le_refl _) (by grind)
theorem pj{z:Int}(h:z<0):bK z=0:=by
 unfold bK
 rw[show z.toNat=0 by omega]
 rfl
theorem ahH{s t:Nat}(ht:0<t)(hg:(s*s).Coprime (t*t)):(mkRat (s:Int) t).num=(s:Int)∧(mkRat (s:Int) t).den=t:=by
 have hc:s.Coprime t:=Nat.Coprime.coprime_dvd_left (Nat.dvd_mul_left s s) (Nat.Coprime.coprime_dvd_right (Nat.dvd_mul_left t t) hg)
 rw[aoH,aoI,al3 (by omega),al3 (by omega),ane,show t.gcd s=1 from hc.symm]
 simp
theorem Fr{q:Rat}(h:fM q=true):(rtQ q).num=bK q.num∧((rtQ q).den:Int)=bK (q.den:Int)∧rtQ q*rtQ q=q∧0≤rtQ q:=by
 unfold fM at h
 simp only[alJ,anW]at h
 obtain⟨h1,h2⟩:=h
 have hd:=q.den_pos
 have hr:=q.reduced
 obtain⟨s,hs⟩:=amO (BA q.num)
 obtain⟨t,ht⟩:=amO (BA (q.den:Int))
 unfold rtQ
 rw[hs,ht,anm]
 rw[hs]at h1
 rw[ht]at h2
 have e1:q.num.natAbs=s*s:=by rw[←h1,←anb,ane]
 have e2:q.den=t*t:=by rw[←anb]at h2;omega
 have hg:(s*s).Coprime (t*t):=by rw[←e1,←e2];exact hr
 have tp:0<t:=Nat.pos_of_ne_zero fun e=>by rw[e2,e]at hd;simp at hd
 obtain⟨g1,g2⟩:=ahH tp hg
 refine⟨g1,by rw[g2],?_,?_⟩
 ·rw[Rat.mkRat_mul_mkRat,←e2,h1,Rat.mkRat_self]
 ·exact Rat.num_nonneg.1 (by rw[g1];omega)
theorem V5(r:Rat):fM (r*r)=true:=by
 have hd:=r.den_pos
 have hc:(r.den*r.den).gcd (r.num*r.num).natAbs=1:=by
  rw[aov]
  have:=r.reduced.symm
  exact Nat.Coprime.mul_left (Nat.Coprime.mul_right this this) (Nat.Coprime.mul_right this this)
 have e1:(r*r).num=r.num*r.num:=by
  rw[Rat.mul_def',aoH,hc,al3 (aoj (by omega) (by omega))]
  simp
 have e2:((r*r).den:Int)=(r.den:Int)*(r.den:Int):=by
  rw[Rat.mul_def',aoI,hc,al3 (aoj (by omega) (by omega)),Nat.div_one,anb]
 unfold fM
 rw[e1,e2,AK (s:=(r.den:Int)) (by omega)]
 rcases amd r.num 0 with h|h
 ·rw[show r.num*r.num= -r.num* -r.num by grind,AK (by omega)]
  simp
 ·rw[AK h]
  simp
def rtB(q:Rat):BR:=bif fM q then am (rtQ q)else((false,[]),(false,[]))
theorem B9{x:BI}(h:okI x):fy x=ai (bK (ae x)):=by
 obtain⟨x0,x1,x2⟩:=cE h
 unfold fy
 cases hx:x.1
 ·rfl
 ·have:=x1 hx
  have hd:ae x= -val x.2:=by rw[bL,hx];rfl
  rw[hd,pj (by omega)]
  rfl
theorem Ju{z:Int}(h:szI z≤1000000):szI (bK z)≤500000:=by
 have h1:=nv h
 have e:pw 1000000=pw 500000*pw 500000:=by rw[←fu]
 have hp:=cp 500000
 rcases amd z 0 with h0|h0
 ·rw[pj h0];exact fh (by omega) hp
 ·obtain⟨g0,g1,g2⟩:=fU h0
  have:=sq_lt (a:=bK z) (b:=pw 500000) (by omega) (by omega)
  exact fh (by omega) this
theorem RF(a b:Int):(ai a==ai b)=decide (a=b):=by
 by_cases h:a=b
 ·rw[h,alF rfl];simp
 ·rw[alH h,anH]
  intro e
  exact h (by rw[←dec_enc a,e,dec_enc])
theorem I3{x y:BI}(hx:okI x)(hy:okI y):(x==y)=decide (ae x=ae y):=by
 rw[iv hx,iv hy,RF,dec_enc,dec_enc]
def Fb:ef:=spN true true [tI,tI] (fun x=>decide (okI x.1∧okI x.2.1)) (fun x=>[RV.d aoX (cr (ae x.1) (ae x.2.1))])
theorem Dh:SpK 172 Fb:=spX fun x h=>HX x.1 x.2.1 (alI h)
def GF:ef:=spN false true [tI,tI] (fun x=>decide (okI x.1∧okI x.2.1)) (fun x=>[RV.d tI (hid (ai (ae x.1*ae x.2.1)))])
theorem Cy:SpK 173 GF:=spX fun x h=>by simp only[bO];exact Jr x.1 x.2.1 (alI h)
def WM:List En:=[⟨172,Fb,Dh⟩,⟨173,GF,Cy⟩,enL Zz]
def ZV(x:BI)(_k:KT):Option (List RV):=og (decide (okI x)) (match(vt x)==0 with|true=>(og (decide (okI (hid (fy x))∧okI (hid (fy x)))) (og (decide (okI (hid (ai (ae (hid (fy x))*ae (hid (fy x)))))∧okI x)) (some [RV.d tI (hid (fy x)),RV.d .bool ((cr (ae (hid (ai (ae (hid (fy x))*ae (hid (fy x)))))) (ae x))==0)])))|false=>some [RV.d tI (hid (fy x)),RV.d .bool false])
def ag9:Cn 330 [tI]:=cn fun(x:BI)=>lf (okI x) [.d tI (ai (bK (ae x))),.d .bool (decide (bK (ae x)*bK (ae x)=ae x))] fun h=>by
 refine aA WM (ZV x) ⟨0,?_⟩
 have hs:=iS h
 have hz:szI (bK (ae x))≤500000:=Ju hs
 have o1:okI (ai (bK (ae x))):=aU (by omega)
 have o2:okI (ai (bK (ae x)*bK (ae x))):=aU (by have:=cO hz hz;omega)
 have o3:okI (ai (bK (ae x)*bK (ae x)))∧okI x:=⟨o2,h⟩
 have o4:okI (ai (bK (ae x)))∧okI (ai (bK (ae x))):=⟨o1,o1⟩
 have hng:x.1=true→decide (bK (ae x)*bK (ae x)=ae x)=false:=fun e=>alH (by
  have:=(cE h).2.1 e
  have hd:ae x= -val x.2:=by rw[bL,e];rfl
  rw[pj (by omega)]
  omega)
 unfold ZV
 simp only[bO,B9 h,dec_enc,dT h,dT o4,dT o3,mn]
 unfold vt
 cases e:x.1
 ·rfl
 ·rw[hng e];rfl
def ae1:List En:=enL ag9::WM
def WX(a:BR)(_k:KT):Option (List RV):=og (decide (okI a.1)) (match decide (bK (ae a.1)*bK (ae a.1)=ae a.1)with|true=>(og (decide (okI a.2)) (match decide (bK (ae a.2)*bK (ae a.2)=ae a.2)with|true=>some [RV.d tR (hid (ai (bK (ae a.1))),hid (ai (bK (ae a.2)))),RV.d .bool true]|false=>some [RV.d tR ((false,[]),(false,[])),RV.d .bool false]))|false=>some [RV.d tR ((false,[]),(false,[])),RV.d .bool false])
def Wq:Cn 291 [tR]:=cn fun(a:BR)=>lf (okR a) [.d tR (rtB (ah a)),.d .bool (fM (ah a))] fun h=>by
 refine aA ae1 (WX a) ⟨0,?_⟩
 obtain⟨a1,a2⟩:=cN h
 unfold WX rtB fM
 rw[dT h.1,dT h.2.1,a1,a2]
 simp only[bO]
 cases e1:decide (bK (ae a.1)*bK (ae a.1)=ae a.1)
 ·rfl
 ·cases e2:decide (bK (ae a.2)*bK (ae a.2)=ae a.2)
  ·rfl
  ·obtain⟨r1,r2,_⟩:=Fr (q:=ah a) (by unfold fM;rw[a1,a2,e1,e2];rfl)
   simp only[anc,cond_true]
   unfold am
   rw[r1,r2,a1,a2]
   try rfl
def Mf:List En:=[enL O4,enL aa4,enT Qe]
def Mw(x:BI)(_k:KT):Option (List RV):=og (decide (okI x)) (match(vt x)==0 with|true=>(og (decide (okI (hid (fy x))∧okI (hid (fy x)))) (og (decide (okI (hid (ai (ae (hid (fy x))*ae (hid (fy x)))))∧okI x)) (some [RV.d tI (hid (fy x)),RV.d .bool (decide (ae (hid (ai (ae (hid (fy x))*ae (hid (fy x)))))=ae x))])))|false=>some [RV.d tI (hid (fy x)),RV.d .bool false])
def abk:Cn 313 [tI]:=cn fun(x:BI)=>lf (okI x) [.d tI (ai (bK (ae x))),.d .bool (decide (bK (ae x)*bK (ae x)=ae x))] fun h=>by
 refine aA Mf (Mw x) ⟨0,?_⟩
 have hs:=iS h
 have hz:szI (bK (ae x))≤500000:=Ju hs
 have o1:okI (ai (bK (ae x))):=aU (by omega)
 have o2:okI (ai (bK (ae x)*bK (ae x))):=aU (by have:=cO hz hz;omega)
 have o3:okI (ai (bK (ae x)*bK (ae x)))∧okI x:=⟨o2,h⟩
 have o4:okI (ai (bK (ae x)))∧okI (ai (bK (ae x))):=⟨o1,o1⟩
 have hng:x.1=true→decide (bK (ae x)*bK (ae x)=ae x)=false:=fun e=>alH (by
  have:=(cE h).2.1 e
  have hd:ae x= -val x.2:=by rw[bL,e];rfl
  rw[pj (by omega)]
  omega)
 unfold Mw
 simp only[bO,B9 h,dec_enc,dT h,dT o4,dT o3]
 unfold vt
 cases e:x.1
 ·rfl
 ·rw[hng e];rfl
def adI:List En:=enL abk::Mf
def Ow(a:BR)(_k:KT):Option (List RV):=og (decide (okI a.1)) (og (decide (okI a.2)) (match !(decide (bK (ae a.1)*bK (ae a.1)=ae a.1))with|true=>some [RV.d tR ((false,[]),(false,[])),RV.d .bool false]|false=>(match !(decide (bK (ae a.2)*bK (ae a.2)=ae a.2))with|true=>some [RV.d tR ((false,[]),(false,[])),RV.d .bool false]|false=>some [RV.d tR (hid (ai (bK (ae a.1))),hid (ai (bK (ae a.2)))),RV.d .bool true])))
def RA:Cn 242 [tR]:=cn fun(a:BR)=>lf (okR a) [.d tR (rtB (ah a)),.d .bool (fM (ah a))] fun h=>by
 refine aA adI (Ow a) ⟨0,?_⟩
 obtain⟨a1,a2⟩:=cN h
 unfold Ow rtB fM
 rw[dT h.1,dT h.2.1,a1,a2]
 simp only[bO]
 cases e1:decide (bK (ae a.1)*bK (ae a.1)=ae a.1)
 ·rfl
 ·cases e2:decide (bK (ae a.2)*bK (ae a.2)=ae a.2)
  ·rfl
  ·obtain⟨r1,r2,_⟩:=Fr (q:=ah a) (by unfold fM;rw[a1,a2,e1,e2];rfl)
   simp only[anc,cond_true]
   unfold am
   rw[r1,r2,a1,a2]
   try rfl
def Rx:ef:=spN false true [tI,tI] (fun x=>decide (fp x.1 x.2.1)) (fun x=>[RV.d tI (hid (ai (ae x.1/ae x.2.1))),RV.d tI (hid (ai (ae x.1%ae x.2.1))),RV.d aoX 0])
theorem Oz:SpK 341 Rx:=spX fun x h=>by simp only[bO];exact HU x.1 x.2.1 (alI h)
def ahP:List En:=[⟨341,Rx,Oz⟩]
def Xi(a:BR)(_k:KT):Option (List RV):=og (decide (fp a.1 a.2)) (some [RV.d tI (hid (ai (ae a.1/ae a.2)))])
def Sd:Cn 355 [tR]:=cn fun(a:BR)=>lf (okR a) [.d tI (ai (ah a).floor)] fun h=>by
 refine aA ahP (Xi a) ⟨0,?_⟩
 obtain⟨a1,a2⟩:=cN h
 unfold Xi
 rw[dT (show fp a.1 a.2 from⟨h.1,h.2.1,h.2.2.1⟩),Rat.floor_def,a1,a2]
 simp only[bO]
def Zp:List En:=[enK xl]
def TH:NT:=[((323,6),{keep:=[1,3],hl:=1})]
def BX:Ctx:=CX (ens Zp) TH
def v6(x:BI)(s3:Int):Cfg:=⟨323,[.blk 0,.seq 23],[(1,.box 0 0),(3,SI s3)],[.box 29 [SB x.1,.d aoW x.2]],0,[]⟩
def adv(x:BI)(k:KT):Option (List RV):=k 6 (v6 x 0)
theorem aay(x:BI):RS BX 323 [.d tI x] (adv x):=rsX
def uI(x:BI)(s3:Int)(k:KT):Option (List RV):=match decide (s3<(x.2.length:Int))with|true=>(match aR x.2 s3 with|some x1=>(match decide (x1≥1000000000)with|true=>some [RV.d .bool false]|false=>k 6 (v6 x (i64.wrap (s3+1))))|none=>none)|false=>(og (decide (aQ x.2)) (match((ag (val x.2).toNat).length:Int)==(x.2.length:Int)with|true=>(match !x.1 with|true=>some [RV.d .bool true]|false=>some [RV.d .bool (decide ((x.2.length:Int)>0))])|false=>some [RV.d .bool false]))
theorem zz(x:BI)(s3:Int):RN BX 6 (v6 x s3) (uI x s3):=rnX
theorem J1(x:BI)(h:okI x):∀(j i:Nat),i+j=x.2.length→BX.Runs 6 (v6 x (i:Int)) [.d .bool true]:=by
 obtain⟨x0,x1,x2⟩:=cE h
 have hlim:=fW h
 have hl:=h.2.2
 intro j
 induction j with
 |zero=>
  intro i hi
  refine zz _ _ ⟨0,?_⟩
  unfold uI
  have hc:ag (val x.2).toNat=x.2:=(po h.1).symm
  rw[b9 (by omega),dT hlim,hc,beq_self_eq_true]
  dsimp only
  cases e:x.1
  ·rfl
  ·have:=x1 e
   have:x.2≠[]:=fun e=>by rw[x2]at e;omega
   have:=ami.2 this
   rw[alF (by omega)]
   rfl
 |succ j ih=>
  intro i hi
  have hil:i<x.2.length:=by omega
  obtain⟨q,hq⟩:=ih (i+1) (by omega)
  refine zz _ _ ⟨q,?_⟩
  unfold uI
  have hb:=(hlim.1 x.2[i] (amh hil)).2
  rw[bH hil,ao,alG hil,bV (by omega)]
  dsimp only
  rw[alH (by omega)]
  exact hq
def acF:Cn 323 [tI]:=cn fun(x:BI)=>lf (okI x) [.d .bool true] fun h=>by
 refine cZ Zp (show BX.Res _ _ _ from ?_)
 obtain⟨q,hq⟩:=J1 x h x.2.length 0 (by omega)
 exact aay _ ⟨q,hq⟩
def ai6:List En:=[enT Qe,enT acF,enT RU,enL Om,enL Py]
def M3(a:BR)(_k:KT):Option (List RV):=og (decide (okI a.1)) (og (decide (okI a.2)) (og (decide (okI a.2)) (match(cr (ae a.2) 0) !=1 with|true=>some [RV.d .bool false]|false=>(og (decide (okI a.1∧okI a.2)) (og (decide (okI (hid (ai ((Int.gcd (ae a.1) (ae a.2):Nat):Int)))∧okI (hid (ai 1)))) (some [RV.d .bool (decide (ae (hid (ai ((Int.gcd (ae a.1) (ae a.2):Nat):Int)))=ae (hid (ai 1))))]))))))
def acE:Cn 272 [tR]:=cn fun(a:BR)=>lf (okR a) [.d .bool true] fun h=>by
 refine aA ai6 (M3 a) ⟨0,?_⟩
 obtain⟨h1,h2,h3,h4,_⟩:=h
 have o1:okI (ai ((Int.gcd (ae a.1) (ae a.2):Nat):Int)):=by rw[h4];exact qs
 unfold M3
 simp only[bO]
 rw[dT h1,dT h2,dT (show okI a.1∧okI a.2 from⟨h1,h2⟩),cM h3,dT (show okI (ai ((Int.gcd (ae a.1) (ae a.2):Nat):Int))∧okI (ai 1) from⟨o1,qs⟩),dec_enc,dec_enc,h4]
 rfl
def mkR(a b c:Rat):Rt:=bif fM c then(a+b*rtQ c,0,0)else bif decide (b=0)then(a,0,0)else(a,b,c)
def coR(a b c:Rat):Rt:=bif decide (b=0)then(a,0,0)else(a,b,c)
class Nn (c:Rat):Prop where le:0≤c
def UN(x:Rt):Prop:=(x.2.1=0∧x.2.2=0)∨(x.2.1≠0∧0<x.2.2∧fM x.2.2=false)
instance (x:Rt):Decidable (UN x):=by unfold UN;infer_instance
class Rdd (x:Rt):Prop where
 rd:UN x
def okT(k:Nat)(x:BO3):Prop:=ok Rt k x∧UN (dec x)
instance (k:Nat) (x:BO3):Decidable (okT k x):=by unfold okT;infer_instance
theorem gg{k:Nat}{x:BO3}(h:okT k x):∃v:Rt,x=enc v∧Bd v k∧Rdd v:=by
 obtain⟨h1,h2⟩:=h
 obtain⟨v,rfl,bv⟩:=aB h1
 rw[az]at h2
 exact⟨v,rfl,bv,⟨h2⟩⟩
theorem aM{x:Rt}{j k:Nat}[h:Bd x j][r:Rdd x](hj:j≤k)(hk:k≤480000):decide (okT k (enc x))=true:=alF ⟨alI (okd hj hk),by rw[az];exact r.rd⟩
theorem Rdd.nn{x:Rt}(h:Rdd x):0≤x.2.2:=by
 rcases h.rd with h|h<;>grind
instance alu {x:Rt} [h:Rdd x]:Nn x.2.2:=⟨h.nn⟩
theorem sY:fM 0=true:=by decide+kernel
theorem G3{c:Rat}(h:0≤c)(hc:fM c=false):0<c:=by
 rcases(by grind:c=0∨0<c)with h|h
 ·rw[h,sY]at hc;cases hc
 ·exact h
instance tW {a b c:Rat} [h:Nn c]:Rdd (mkR a b c):=by
 refine⟨?_⟩
 unfold mkR
 cases hc:fM c
 ·simp only[cond_false]
  by_cases hb:b=0
  ·rw[alF hb];exact .inl ⟨rfl,rfl⟩
  ·rw[alH hb];exact .inr ⟨hb,G3 h.le hc,hc⟩
 ·exact .inl ⟨rfl,rfl⟩
instance adj {a:Rat}:Rdd (a,0,0):=⟨.inl ⟨rfl,rfl⟩⟩
namespace RE
theorem Pa{c:Rat}(h:fM c=true):rq c=of (rtQ c):=by
 obtain⟨_,_,e,h0⟩:=Fr h
 refine Ji _ _ (qM c) (jQ.2 h0) ?_
 rw[fS (by rw[←e];exact al8 h0 h0),←aF,e]
theorem IY:rq 0=0:=by
 have:=fS (Rat.le_refl:(0:Rat)≤0)
 rcases iq (qM 0)with h|h
 ·have:=mul_pos h h
  rw[fS Rat.le_refl]at this
  exact absurd this (lt_irrefl _)
 ·exact h
theorem dN(a c:Rat):v2 a 0 c=of a:=by
 unfold v2
 rw[nS,zero_mul,add_zero]
theorem vR_mk(a b c:Rat):vR (mkR a b c)=v2 a b c:=by
 unfold mkR vR
 cases hc:fM c
 ·simp only[cond_false]
  by_cases hb:b=0
  ·rw[alF hb];subst hb;show v2 a 0 0=_;rw[dN,dN]
  ·rw[alH hb];rfl
 ·show v2 (a+b*rtQ c) 0 0=_
  rw[dN]
  unfold v2
  rw[Pa hc,of_add,aF]
theorem vR_co(a b c:Rat):vR (coR a b c)=v2 a b c:=by
 unfold coR vR
 by_cases hb:b=0
 ·rw[alF hb];subst hb;show v2 a 0 0=_;rw[dN,dN]
 ·rw[alH hb];rfl
end RE
theorem Tz{z:Int}(h:0≤z):bK z≤z:=by
 obtain⟨g0,g1,g2⟩:=fU h
 rcases amd (bK z) 1 with h'|h'
 ·omega
 ·have:bK z*1≤bK z*bK z:=alN h' g0
  omega
theorem DY(z:Int):szI (bK z)≤szI z:=by
 have h0:=BA z
 rcases amd z 0 with h|h
 ·rw[pj h];exact dw (by omega)
 ·have:=Tz h
  exact dw (by omega)
instance alp {c:Rat} {k:Nat} [h:Bd c k]:Bd (rtQ c) k:=by
 have hd:=c.den_pos
 have h1:0<bK (c.den:Int):=by
  obtain⟨g0,g1,g2⟩:=fU (show(0:Int)≤(c.den:Int) by omega)
  rcases amd 0 (bK (c.den:Int))with h|h
  ·exact h
  ·rw[show bK (c.den:Int)=0 by omega]at g2;omega
 refine⟨uA (by omega) (alU (DY _) h.le.1) ?_⟩
 rw[Int.toNat_of_nonneg (by omega)]
 exact alU (DY _) h.le.2
instance aj1 {a b c:Rat} {i j k:Nat} [ha:Bd a i] [hb:Bd b j] [hc:Bd c k]:Bd (mkR a b c) (i+(j+k)+1):=by
 have z:bdR (i+(j+k)+1) 0:=bJ lR.le (by omega)
 refine⟨?_⟩
 unfold mkR
 cases fM c
 ·simp only[cond_false]
  cases decide (b=0)
  ·exact⟨bJ ha.le (by omega),bJ hb.le (by omega),bJ hc.le (by omega)⟩
  ·exact⟨bJ ha.le (by omega),z,z⟩
 ·exact⟨(inferInstance:Bd (a+b*rtQ c) (i+(j+k)+1)).le,z,z⟩
instance akF {a b c:Rat} {i j k:Nat} [ha:Bd a i] [hb:Bd b j] [hc:Bd c k]:Bd (coR a b c) (mx i (mx j k)):=by
 have h1:=AI i (mx j k)
 have h2:=Bp i (mx j k)
 have h3:=AI j k
 have h4:=Bp j k
 have h5:=nI ha.le
 have z:bdR (mx i (mx j k)) 0:=bJ lR.le (by omega)
 refine⟨?_⟩
 unfold coR
 cases decide (b=0)
 ·exact⟨bJ ha.le (by omega),bJ hb.le (by omega),bJ hc.le (by omega)⟩
 ·exact⟨bJ ha.le (by omega),z,z⟩
class Ns (c:Rat):Prop where ns:c=0∨(0<c∧fM c=false)
theorem Ns.nn{c:Rat}(h:Ns c):0≤c:=by rcases h.ns with h|h<;>grind
instance alk {c:Rat} [h:Ns c]:Nn c:=⟨h.nn⟩
theorem adq{a b c:Rat}{i j k:Nat}[ha:Bd a i][hb:Bd b j][hc:Bd c k][hn:Ns c]:Bd (mkR a b c) (mx (i+j+2) k):=by
 have h1:=AI (i+j+2) k
 have h2:=Bp (i+j+2) k
 have z:bdR (mx (i+j+2) k) 0:=bJ lR.le (by omega)
 refine⟨?_⟩
 unfold mkR
 rcases hn.ns with h|h
 ·subst h
  rw[sY]
  have e:rtQ 0=0:=by decide+kernel
  exact⟨by show bdR _ (a+b*rtQ 0);rw[e];exact bJ (AW ha.le (Ah hb.le lR.le)) (by omega),z,z⟩
 ·rw[h.2]
  simp only[cond_false]
  cases decide (b=0)
  ·exact⟨bJ ha.le (by omega),bJ hb.le (by omega),bJ hc.le (by omega)⟩
  ·exact⟨bJ ha.le (by omega),z,z⟩
def sgR(x:Rt):Int:=gz x.1 x.2.1 x.2.2
def noR(x:Rt):Rat:=x.1*x.1-x.2.1*x.2.1*x.2.2
theorem E5{x:Rt}(h:0≤x.2.2):sgR x=RE.sg (RE.vR x):=RE.sgn2_re h
def mB(a b c:Rat):Rt:=bif decide (b=0)then(a,0,0)else bif decide (c=0)then(a,0,0)else(a,b,c)
instance akr {x:Rt} {k:Nat} [h:Bd x k]:Bd (noR x) (5*k+1):=(inferInstance:Bd (x.1*x.1-x.2.1*x.2.1*x.2.2) (k+k+(k+k+k)+1)).mono (by omega)
theorem PI{c:Rat}(h:fM c=true):rtB c=am (rtQ c):=by unfold rtB;rw[h];rfl
theorem adc{x:Rt}(h:Rdd x)(hb:x.2.1≠0):noR x≠0:=by
 intro e
 rcases h.rd with h|⟨_,h1,h2⟩
 ·exact hb h.1
 ·unfold noR at e
  have:x.2.2=x.1/x.2.1*(x.1/x.2.1):=by grind
  rw[this,V5]at h2
  cases h2
theorem WN{x:Rt}(h:Rdd x):sgR x=bif aG x.2.1 0==0 then aG x.1 0 else bif aG x.1 0==aG x.2.1 0 then aG x.1 0 else bif aG x.1 0==0 then aG x.2.1 0 else aG x.1 0*aG (noR x) 0:=by
 unfold sgR gz RE.addS
 rcases h.rd with⟨h1,h2⟩|⟨h0,h1,h2⟩
 ·rw[h1,d7]
  simp
 ·have hb:(aG x.2.1 0==0)=false:=by rw[aq,alH h0]
  rw[dq h1,an1,hb]
  unfold noR
  rw[ta]
  rfl
def LH:List En:=[⟨99,iA,eW⟩,⟨107,iO,fk⟩,⟨106,ie,fc⟩,⟨108,gO,eM⟩,⟨41,fC,dQ⟩,enL Wq]
def Ws(_k:KT):Option (List RV):=og (decide (aH (0:Int))) (some [RV.d tR (hid (am ((0:Int):Rat)))])
def afi:Cn 298 []:=cn<|lf True [.d tR (am 0)] fun _=>by
 refine aA LH (Ws) ⟨0,?_⟩
 unfold Ws
 rw[dT (show aH 0 by decide)]
 simp only[bO]
 rfl
def KN:List En:=enL afi::LH
def Xj(a:BR)(_k:KT):Option (List RV):=some [RV.d tO (a,(hid (am 0),hid (am 0)))]
def zv:Cn 208 [tR]:=cn fun(a:BR)=>lf (okR a) [.d tO (enc ((ah a,0,0):Rt))] fun h=>by
 refine aA KN (Xj a) ⟨0,?_⟩
 have ha:=h
 obtain⟨a,rfl,ba⟩:=fd ha
 unfold Xj
 simp only[aS,aC]
 try rfl
def Yb(a b c:BR)(_k:KT):Option (List RV):=og (o1 b) (match(aG (ah b) 0)==0 with|true=>some [RV.d tO (a,(b,hid (am 0)))]|false=>some [RV.d tO (a,(b,c))])
def aeU:Cn 297 [tR,tR,tR]:=cn fun(a b c:BR)=>lf (okR a∧okR b∧okR c) [.d tO (enc (coR (ah a) (ah b) (ah c)))] fun h=>by
 refine aA KN (Yb a b c) ⟨0,?_⟩
 obtain⟨ha,hb,hc⟩:=h
 obtain⟨a,rfl,ba⟩:=fd ha
 obtain⟨b,rfl,bb⟩:=fd hb
 obtain⟨c,rfl,bc⟩:=fd hc
 unfold Yb
 simp only[aS,Nat.reduceLeDiff,aq]
 unfold coR
 by_cases e:b=0
 ·subst e;rw[alF rfl];rfl
 ·rw[alH e];rfl
def ad9:List En:=enL zv::enL aeU::KN
def Yj(a b c:BR)(_k:KT):Option (List RV):=og (o1 c) (match decide ((aG (ah c) 0)<0)with|true=>some [RV.d tO (((false,[]),(false,[])),(((false,[]),(false,[])),((false,[]),(false,[])))),RV.d aoX 7]|false=>(og (o1 c) (match fM (ah c)with|true=>(og (o2 b (hid (rtB (ah c)))) (og (o2 a (hMu b (hid (rtB (ah c))))) (og (o1 (hAd a (hMu b (hid (rtB (ah c)))))) (some [RV.d tO (hid (enc ((ah (hAd a (hMu b (hid (rtB (ah c))))),0,0):Rt))),RV.d aoX 0]))))|false=>(og (decide (okR a∧okR b∧okR c)) (some [RV.d tO (hid (enc (coR (ah a) (ah b) (ah c)))),RV.d aoX 0])))))
def ZT:Cn 207 [tR,tR,tR]:=cn fun(a b c:BR)=>lf (ok Rat 100000 a∧ok Rat 100000 b∧ok Rat 100000 c∧0≤ah c) [.d tO (enc (mkR (ah a) (ah b) (ah c))),.d aoX 0] fun h=>by
 refine aA ad9 (Yj a b c) ⟨0,?_⟩
 obtain⟨ha,hb,hc,hc_3⟩:=h
 obtain⟨a,rfl,ba⟩:=aB ha
 obtain⟨b,rfl,bb⟩:=aB hb
 obtain⟨c,rfl,bc⟩:=aB hc
 rw[eO,cA]at hc_3
 unfold Yj
 simp only[aS,aC,Nat.reduceLeDiff,au,alH (show ¬c<0 by grind)]
 unfold mkR
 cases hq:fM c
 ·have hz:c≠0:=fun e=>by rw[e,sY]at hq;cases hq
  simp only[aS]
  try rfl
 ·rw[PI hq]
  simp only[aS,aC,Nat.reduceAdd,Nat.reduceLeDiff]
  try rfl
def KX:List En:=[enL l7,enL m7,enL oH,enL ng,enT lT,enL RA,enT acE]
def Lk(_k:KT):Option (List RV):=og (decide (aH (0:Int))) (some [RV.d tR (hid (am ((0:Int):Rat)))])
def QH:Cn 262 []:=cn<|lf True [.d tR (am 0)] fun _=>by
 refine aA KX (Lk) ⟨0,?_⟩
 unfold Lk
 rw[dT (show aH 0 by decide)]
 simp only[bO]
 rfl
def Mz:List En:=enL QH::KX
def OZ(a:BR)(_k:KT):Option (List RV):=some [RV.d tO (a,(hid (am 0),hid (am 0)))]
def Fo:Cn 159 [tR]:=cn fun(a:BR)=>lf (okR a) [.d tO (enc ((ah a,0,0):Rt))] fun h=>by
 refine aA Mz (OZ a) ⟨0,?_⟩
 have ha:=h
 obtain⟨a,rfl,ba⟩:=fd ha
 unfold OZ
 simp only[aS,aC]
 try rfl
def Oh:List En:=enL Fo::Mz
def Q2(a b c:BR)(_k:KT):Option (List RV):=og (o1 b) (match(aG (ah b) 0)==0 with|true=>(og (o1 a) (some [RV.d tO (hid (enc ((ah a,0,0):Rt)))]))|false=>(og (o1 c) (match(aG (ah c) 0)==0 with|true=>(og (o1 a) (some [RV.d tO (hid (enc ((ah a,0,0):Rt)))]))|false=>some [RV.d tO (a,(b,c))])))
def LP:Cn 243 [tR,tR,tR]:=cn fun(a b c:BR)=>lf (okR a∧okR b∧okR c) [.d tO (enc (mB (ah a) (ah b) (ah c)))] fun h=>by
 refine aA Oh (Q2 a b c) ⟨0,?_⟩
 obtain⟨ha,hb,hc⟩:=h
 obtain⟨a,rfl,ba⟩:=fd ha
 obtain⟨b,rfl,bb⟩:=fd hb
 obtain⟨c,rfl,bc⟩:=fd hc
 unfold Q2
 simp only[aS,aC,Nat.reduceLeDiff,aq]
 unfold mB
 by_cases e:b=0
 ·rw[alF e];rfl
 ·rw[alH e]
  by_cases e:c=0
  ·rw[alF e];rfl
  ·rw[alH e];rfl
def aa8:List En:=enL LP::Oh
def OK(a b c:BR)(_k:KT):Option (List RV):=og (o1 c) (match decide ((aG (ah c) 0)<0)with|true=>some [RV.d tO (((false,[]),(false,[])),(((false,[]),(false,[])),((false,[]),(false,[])))),RV.d aoX 7]|false=>(og (o1 c) (match fM (ah c)with|true=>(og (o2 b (hid (rtB (ah c)))) (og (o2 a (hMu b (hid (rtB (ah c))))) (og (o1 (hAd a (hMu b (hid (rtB (ah c)))))) (some [RV.d tO (hid (enc ((ah (hAd a (hMu b (hid (rtB (ah c))))),0,0):Rt))),RV.d aoX 0]))))|false=>(og (decide (okR a∧okR b∧okR c)) (some [RV.d tO (hid (enc (mB (ah a) (ah b) (ah c)))),RV.d aoX 0])))))
def F3:Cn 130 [tR,tR,tR]:=cn fun(a b c:BR)=>lf (ok Rat 100000 a∧ok Rat 100000 b∧ok Rat 100000 c∧0≤ah c) [.d tO (enc (mkR (ah a) (ah b) (ah c))),.d aoX 0] fun h=>by
 refine aA aa8 (OK a b c) ⟨0,?_⟩
 obtain⟨ha,hb,hc,hc_3⟩:=h
 obtain⟨a,rfl,ba⟩:=aB ha
 obtain⟨b,rfl,bb⟩:=aB hb
 obtain⟨c,rfl,bc⟩:=aB hc
 rw[eO,cA]at hc_3
 unfold OK
 simp only[aS,aC,Nat.reduceLeDiff,au,alH (show ¬c<0 by grind)]
 unfold mkR
 cases hq:fM c
 ·have hz:c≠0:=fun e=>by rw[e,sY]at hq;cases hq
  simp only[aS,mB,alH hz]
  try rfl
 ·rw[PI hq]
  simp only[aS,aC,Nat.reduceAdd,Nat.reduceLeDiff]
  try rfl
def Y8(r:BO3)(_k:KT):Option (List RV):=og (o2 r.1 r.1) (og (o2 r.2.1 r.2.1) (og (o2 (hMu r.2.1 r.2.1) r.2.2) (og (o2 (hMu r.1 r.1) (hMu (hMu r.2.1 r.2.1) r.2.2)) (some [RV.d tR (hSu (hMu r.1 r.1) (hMu (hMu r.2.1 r.2.1) r.2.2))]))))
def afu:Cn 212 [tO]:=cn fun(r:BO3)=>lf (ok Rt 15000 r) [.d tR (am (noR (dec r)))] fun h=>by
 refine aA LH (Y8 r) ⟨0,?_⟩
 have hr:=h
 obtain⟨r,rfl,br⟩:=aB hr
 unfold Y8
 simp only[aS,Nat.reduceAdd,Nat.reduceLeDiff]
 try rfl
abbrev Iv:=Int×Int
def prI(i:Iv):Prop:= -2305843009213693952≤i.1∧i.1≤i.2∧i.2≤2305843009213693952
instance (i:Iv):Decidable (prI i):=by unfold prI;infer_instance
def iv0:Iv:=(0,0)
theorem fL:prI iv0:=by decide
def oz(lo hi:Int):Iv×Bool:=bif decide (lo< -2305843009213693952)then(iv0,false)else bif decide (hi>2305843009213693952)then(iv0,false)else((lo,hi),true)
theorem BS{lo hi:Int}(h:lo≤hi):prI (oz lo hi).1:=by
 unfold oz
 by_cases h1:lo< -2305843009213693952
 ·rw[alF h1];exact fL
 ·rw[alH h1]
  by_cases h2:hi>2305843009213693952
  ·rw[alF h2];exact fL
  ·rw[alH h2];exact⟨by show _≤lo;omega,h,by show hi≤_;omega⟩
theorem Be{lo hi:Int}(h:(oz lo hi).2=true):(oz lo hi).1=(lo,hi):=by
 unfold oz at h ⊢
 by_cases h1:lo< -2305843009213693952
 ·rw[alF h1]at h;cases h
 ·rw[alH h1]at h ⊢
  by_cases h2:hi>2305843009213693952
  ·rw[alF h2]at h;cases h
  ·rw[alH h2];rfl
def frF(q:Rat):Iv×Bool:=bif decide (aH (q*65536).floor)then bif decide (aH (-(-(q*65536)).floor))then oz (q*65536).floor (-(-(q*65536)).floor)else(iv0,false)else(iv0,false)
def dJ(a b:Iv):Iv×Bool:=oz (a.1+b.1) (a.2+b.2)
def mA(a:Iv):Iv:=(-a.2,-a.1)
def scF(x y:Int):(Int×Int)×Bool:=
 bif decide (x.natAbs*y.natAbs≥1208925819614629174706176)then((0,0),false)else bif decide (x.natAbs*y.natAbs/65536>2305843009213693952)then((0,0),false)
 else bif decide (x<0)==decide (y<0)then((((x.natAbs*y.natAbs/65536:Nat):Int),(((x.natAbs*y.natAbs+65535)/65536:Nat):Int)),decide ((x.natAbs*y.natAbs+65535)/65536≤2305843009213693952))
 else((-(((x.natAbs*y.natAbs+65535)/65536:Nat):Int),-((x.natAbs*y.natAbs/65536:Nat):Int)),decide ((x.natAbs*y.natAbs+65535)/65536≤2305843009213693952))
theorem aaB{x y:Int}(h:(scF x y).2=true):(scF x y).1.1*65536≤x*y∧x*y≤(scF x y).1.2*65536∧ -2305843009213693952≤(scF x y).1.1∧(scF x y).1.2≤2305843009213693952:=by
 have ep:(((x.natAbs*y.natAbs:Nat)):Int)=(x.natAbs:Int)*(y.natAbs:Int):=anb _ _
 have hs:(decide (x<0)==decide (y<0))=true→x*y=(((x.natAbs*y.natAbs:Nat)):Int):=fun e=>by
  rw[ep]
  by_cases hx:x<0<;>by_cases hy:y<0
  ·rw[show(x.natAbs:Int)= -x by omega,show(y.natAbs:Int)= -y by omega];grind
  ·simp[hx,hy]at e
  ·simp[hx,hy]at e
  ·rw[show(x.natAbs:Int)=x by omega,show(y.natAbs:Int)=y by omega]
 have hd:(decide (x<0)==decide (y<0))=false→x*y= -(((x.natAbs*y.natAbs:Nat)):Int):=fun e=>by
  rw[ep]
  by_cases hx:x<0<;>by_cases hy:y<0
  ·simp[hx,hy]at e
  ·rw[show(x.natAbs:Int)= -x by omega,show(y.natAbs:Int)=y by omega];grind
  ·rw[show(x.natAbs:Int)=x by omega,show(y.natAbs:Int)= -y by omega];grind
  ·simp[hx,hy]at e
 unfold scF at h ⊢
 generalize x.natAbs*y.natAbs=p at*
 by_cases h1:p≥1208925819614629174706176
 ·rw[alF h1]at h;cases h
 rw[alH h1]at h ⊢
 by_cases h2:p/65536>2305843009213693952
 ·rw[alF h2]at h;cases h
 rw[alH h2]at h ⊢
 cases e:(decide (x<0)==decide (y<0))<;>rw[e]at h<;>have h3:=alI h
 ·rw[hd e]
  show-(((p+65535)/65536:Nat):Int)*65536≤_∧_≤ -((p/65536:Nat):Int)*65536∧_≤ -(((p+65535)/65536:Nat):Int)∧ -((p/65536:Nat):Int)≤_
  omega
 ·rw[hs e]
  show((p/65536:Nat):Int)*65536≤_∧_≤(((p+65535)/65536:Nat):Int)*65536∧_≤((p/65536:Nat):Int)∧(((p+65535)/65536:Nat):Int)≤_
  omega
def iy(s:Iv×Bool)(x y:Int):Iv×Bool:=bif s.2&&(scF x y).2 then((if(scF x y).1.1<s.1.1 then(scF x y).1.1 else s.1.1,if(scF x y).1.2>s.1.2 then(scF x y).1.2 else s.1.2),true)else(iv0,false)
def cH(a b:Iv):Iv×Bool:=iy (iy (iy (iy ((2305843009213693952,-2305843009213693952),true) a.1 b.1) a.1 b.2) a.2 b.1) a.2 b.2
theorem lw{s:Iv×Bool}{x y:Int}(h:(iy s x y).2=true):s.2=true∧(iy s x y).1.1≤s.1.1∧s.1.2≤(iy s x y).1.2∧(iy s x y).1.1*65536≤x*y∧x*y≤(iy s x y).1.2*65536∧((-2305843009213693952≤s.1.1∧s.1.2≤2305843009213693952)→ -2305843009213693952≤(iy s x y).1.1∧(iy s x y).1.2≤2305843009213693952):=by
 unfold iy at h ⊢
 cases e:(s.2&&(scF x y).2)<;>rw[e]at h
 ·cases h
 ·obtain⟨e1,e2⟩:=alQ.1 e
  obtain⟨g1,g2,g3,g4⟩:=aaB e2
  refine⟨e1,?_⟩
  simp only[cond_true]
  split<;>split<;>refine⟨by omega,by omega,by omega,by omega,fun h=>by omega⟩
theorem r7(a b:Iv):prI (cH a b).1:=by
 cases h:(cH a b).2
 ·unfold cH iy at h ⊢
  revert h
  cases((_:Iv×Bool).2&&(scF a.2 b.2).2)
  ·intro _;exact fL
  ·intro h;cases h
 ·unfold cH at h ⊢
  obtain⟨h3,a3,b3,c3,d3,e3⟩:=lw h
  obtain⟨h2,a2,b2,c2,d2,e2⟩:=lw h3
  obtain⟨h1,a1,b1,c1,d1,e1⟩:=lw h2
  obtain⟨h0,a0,b0,c0,d0,e0⟩:=lw h1
  have k:=e3 (e2 (e1 (e0 (by decide))))
  exact⟨k.1,by omega,k.2⟩
theorem UK{a b:Iv}(h:(cH a b).2=true):∀x y,(x=a.1∨x=a.2)→(y=b.1∨y=b.2)→(cH a b).1.1*65536≤x*y∧x*y≤(cH a b).1.2*65536:=by
 unfold cH at h ⊢
 obtain⟨h3,a3,b3,c3,d3,e3⟩:=lw h
 obtain⟨h2,a2,b2,c2,d2,e2⟩:=lw h3
 obtain⟨h1,a1,b1,c1,d1,e1⟩:=lw h2
 obtain⟨h0,a0,b0,c0,d0,e0⟩:=lw h1
 intro x y hx hy
 rcases hx with rfl|rfl<;>rcases hy with rfl|rfl<;>constructor<;>omega
def eE(n:Int):Int:=bK (n*65536)
def sqF(a:Iv):Iv×Bool:=bif decide (a.2<0)then(iv0,false)else oz (eE (if 0>a.1 then 0 else a.1)) (bif decide (eE a.2*eE a.2=a.2*65536)then eE a.2 else eE a.2+1)
def sgF(a:Iv):Int×Bool:=bif decide (a.1>0)then(1,true)else bif decide (a.2<0)then(-1,true)else(0,decide (a.1=0)&&decide (a.2=0))
namespace RE
def inI(i:Iv)(x:RE):Prop:=of (i.1:Rat)≤of 65536*x∧of 65536*x≤of (i.2:Rat)
theorem UG(a b u x y:RE)(h1:a≤u*x)(h2:b≤u*y):a+b≤u*(x+y):=by grind
theorem V3(a b u x y:RE)(h1:u*x≤a)(h2:u*y≤b):u*(x+y)≤a+b:=by grind
theorem UA(a u x:RE)(h1:u*x≤a): -a≤u*(-x):=by grind
theorem Us(a u x:RE)(h1:a≤u*x):u*(-x)≤ -a:=by grind
theorem Ut(a c U V m:RE):((m-(U*V)))+((a*c-(m)))+((V-(0))*(U-(a)))+((a-(0))*(V-(c)))=0:=by grind
theorem afX(a c U V m:RE)(h1:0≤V)(h2:0≤a)(h3:a≤U)(h4:c≤V)(h5:m≤a*c):m≤U*V:=fun hg=>far (aI (aI (aI (aK hg) (aE h5)) (bi (aE h1) (aE h3))) (bi (aE h2) (aE h4))) (Ut a c U V m)
theorem Tk(a d U V m:RE):((m-(U*V)))+((a*d-(m)))+((V-(0))*(U-(a)))+((0-(a))*(d-(V)))=0:=by grind
theorem ai4(a d U V m:RE)(h1:0≤V)(h2:a≤0)(h3:a≤U)(h4:V≤d)(h5:m≤a*d):m≤U*V:=fun hg=>far (aI (aI (aI (aK hg) (aE h5)) (bi (aE h1) (aE h3))) (bi (aE h2) (aE h4))) (Tk a d U V m)
theorem Uu(b c U V m:RE):((m-(U*V)))+((b*c-(m)))+((0-(V))*(b-(U)))+((b-(0))*(V-(c)))=0:=by grind
theorem ahQ(b c U V m:RE)(h1:V≤0)(h2:0≤b)(h3:U≤b)(h4:c≤V)(h5:m≤b*c):m≤U*V:=fun hg=>far (aI (aI (aI (aK hg) (aE h5)) (bi (aE h1) (aE h3))) (bi (aE h2) (aE h4))) (Uu b c U V m)
theorem TD(b d U V m:RE):((m-(U*V)))+((b*d-(m)))+((0-(V))*(b-(U)))+((0-(b))*(d-(V)))=0:=by grind
theorem aeO(b d U V m:RE)(h1:V≤0)(h2:b≤0)(h3:U≤b)(h4:V≤d)(h5:m≤b*d):m≤U*V:=fun hg=>far (aI (aI (aI (aK hg) (aE h5)) (bi (aE h1) (aE h3))) (bi (aE h2) (aE h4))) (TD b d U V m)
theorem T2(b d U V m:RE):((U*V-(m)))+((m-(b*d)))+((V-(0))*(b-(U)))+((b-(0))*(d-(V)))=0:=by grind
theorem afh(b d U V m:RE)(h1:0≤V)(h2:0≤b)(h3:U≤b)(h4:V≤d)(h5:b*d≤m):U*V≤m:=fun hg=>far (aI (aI (aI (aK hg) (aE h5)) (bi (aE h1) (aE h3))) (bi (aE h2) (aE h4))) (T2 b d U V m)
theorem UD(b c U V m:RE):((U*V-(m)))+((m-(b*c)))+((V-(0))*(b-(U)))+((0-(b))*(V-(c)))=0:=by grind
theorem ae6(b c U V m:RE)(h1:0≤V)(h2:b≤0)(h3:U≤b)(h4:c≤V)(h5:b*c≤m):U*V≤m:=fun hg=>far (aI (aI (aI (aK hg) (aE h5)) (bi (aE h1) (aE h3))) (bi (aE h2) (aE h4))) (UD b c U V m)
theorem VI(a d U V m:RE):((U*V-(m)))+((m-(a*d)))+((0-(V))*(U-(a)))+((a-(0))*(d-(V)))=0:=by grind
theorem agC(a d U V m:RE)(h1:V≤0)(h2:0≤a)(h3:a≤U)(h4:V≤d)(h5:a*d≤m):U*V≤m:=fun hg=>far (aI (aI (aI (aK hg) (aE h5)) (bi (aE h1) (aE h3))) (bi (aE h2) (aE h4))) (VI a d U V m)
theorem SE(a c U V m:RE):((U*V-(m)))+((m-(a*c)))+((0-(V))*(U-(a)))+((0-(a))*(V-(c)))=0:=by grind
theorem afq(a c U V m:RE)(h1:V≤0)(h2:a≤0)(h3:a≤U)(h4:c≤V)(h5:a*c≤m):U*V≤m:=fun hg=>far (aI (aI (aI (aK hg) (aE h5)) (bi (aE h1) (aE h3))) (bi (aE h2) (aE h4))) (SE a c U V m)
theorem aaZ(u x y:RE):u*x*(u*y)=u*(x*y)*u:=by grind
theorem VT(a b u:RE):((u-(0))*(a-(b)))+((b*u-(a*u)))=0:=by grind
theorem W9(a b u:RE)(h1:0<u)(h2:a*u≤b*u):a≤b:=fun hg=>far (aI (mul_pos (aK h1) (aK hg)) (aE h2)) (VT a b u)
theorem ob:0<of 65536:=iz (by decide+kernel)
end RE
namespace RE
theorem mK{a b:Int}(h:a≤b):of (a:Rat)≤of (b:Rat):=jQ.2 (an6.2 h)
theorem ip{q:Rat}(h:(frF q).2=true):inI (frF q).1 (of q):=by
 have f1:((q*65536).floor:Rat)≤q*65536:=Rat.floor_le _
 have f2:((-(q*65536)).floor:Rat)≤ -(q*65536):=Rat.floor_le _
 unfold frF at h ⊢
 cases e1:decide (aH (q*65536).floor)
 ·rw[e1]at h;cases h
 ·cases e2:decide (aH (-(-(q*65536)).floor))
  ·rw[e1,e2]at h;cases h
  ·rw[e1,e2]at h
   simp only[cond_true]at h ⊢
   rw[Be h]
   refine⟨?_,?_⟩
   ·rw[←aF];exact jQ.2 (by show(((q*65536).floor:Int):Rat)≤_;grind)
   ·rw[←aF];exact jQ.2 (by show _≤((-(-(q*65536)).floor:Int):Rat);rw[aoo];grind)
theorem frF_pr(q:Rat):prI (frF q).1:=by
 have f1:((q*65536).floor:Rat)≤q*65536:=Rat.floor_le _
 have f2:((-(q*65536)).floor:Rat)≤ -(q*65536):=Rat.floor_le _
 have f3:(q*65536).floor≤ -(-(q*65536)).floor:=by
  refine an6.1 ?_
  rw[aoo]
  grind
 unfold frF
 cases decide (aH (q*65536).floor)
 ·exact fL
 ·cases decide (aH (-(-(q*65536)).floor))
  ·exact fL
  ·exact BS f3
theorem jZ{a b:Iv}{x y:RE}(ha:inI a x)(hb:inI b y)(h:(dJ a b).2=true):inI (dJ a b).1 (x+y):=by
 unfold dJ at h ⊢
 rw[Be h]
 refine⟨?_,?_⟩
 ·show of ((a.1+b.1:Int):Rat)≤_
  rw[Rat.intCast_add,of_add]
  exact UG _ _ _ _ _ ha.1 hb.1
 ·show _≤of ((a.2+b.2:Int):Rat)
  rw[Rat.intCast_add,of_add]
  exact V3 _ _ _ _ _ ha.2 hb.2
theorem addF_pr{a b:Iv}(ha:prI a)(hb:prI b):prI (dJ a b).1:=BS (by have:=ha.2.1;have:=hb.2.1;omega)
theorem AM{a:Iv}{x:RE}(ha:inI a x):inI (mA a) (-x):=by
 refine⟨?_,?_⟩
 ·show of ((-a.2:Int):Rat)≤_
  rw[aoo,of_neg]
  exact UA _ _ _ ha.2
 ·show _≤of ((-a.1:Int):Rat)
  rw[aoo,of_neg]
  exact Us _ _ _ ha.1
theorem negF_pr{a:Iv}(ha:prI a):prI (mA a):=⟨by show _≤ -a.2;have:=ha.2.2;omega,by show-a.2≤ -a.1;have:=ha.2.1;omega,by show-a.1≤_;have:=ha.1;omega⟩
theorem ls{a b:Iv}{x y:RE}(ha:inI a x)(hb:inI b y)(h:(cH a b).2=true):inI (cH a b).1 (x*y):=by
 have hc:=UK h
 have c1:=hc a.1 b.1 (.inl rfl) (.inl rfl)
 have c2:=hc a.1 b.2 (.inl rfl) (.inr rfl)
 have c3:=hc a.2 b.1 (.inr rfl) (.inl rfl)
 have c4:=hc a.2 b.2 (.inr rfl) (.inr rfl)
 generalize (cH a b).1=m at*
 have up:∀{p q r:Int},p*65536≤q*r→of (p:Rat)*of 65536≤of (q:Rat)*of (r:Rat):=fun{p q r} h=>by
  have:=mK h
  rw[anI,anI,aF,aF]at this
  exact this
 have dn:∀{p q r:Int},q*r≤p*65536→of (q:Rat)*of (r:Rat)≤of (p:Rat)*of 65536:=fun{p q r} h=>by
  have:=mK h
  rw[anI,anI,aF,aF]at this
  exact this
 obtain⟨a1,a2⟩:=ha
 obtain⟨b1,b2⟩:=hb
 have l:of (m.1:Rat)*of 65536≤of 65536*x*(of 65536*y):=by
  rcases lt_or_ge (of 65536*y) 0 with v|v
  ·rcases lt_or_ge (of (a.2:Rat)) 0 with s|s
   ·exact aeO _ _ _ _ _ (le_of_lt v) (le_of_lt s) a2 b2 (up c4.1)
   ·exact ahQ _ _ _ _ _ (le_of_lt v) s a2 b1 (up c3.1)
  ·rcases lt_or_ge (of (a.1:Rat)) 0 with s|s
   ·exact ai4 _ _ _ _ _ v (le_of_lt s) a1 b2 (up c2.1)
   ·exact afX _ _ _ _ _ v s a1 b1 (up c1.1)
 have u:of 65536*x*(of 65536*y)≤of (m.2:Rat)*of 65536:=by
  rcases lt_or_ge (of 65536*y) 0 with v|v
  ·rcases lt_or_ge (of (a.1:Rat)) 0 with s|s
   ·exact afq _ _ _ _ _ (le_of_lt v) (le_of_lt s) a1 b1 (dn c1.2)
   ·exact agC _ _ _ _ _ (le_of_lt v) s a1 b2 (dn c2.2)
  ·rcases lt_or_ge (of (a.2:Rat)) 0 with s|s
   ·exact ae6 _ _ _ _ _ v (le_of_lt s) a2 b1 (dn c3.2)
   ·exact afh _ _ _ _ _ v s a2 b2 (dn c4.2)
 rw[aaZ]at l u
 exact⟨W9 _ _ _ ob l,W9 _ _ _ ob u⟩
theorem ahL(u s:RE):u*s*(u*s)=u*(s*s)*u:=by grind
theorem QT(r a u x:RE):((r-(u*x*u)))+((a*u-(r)))+((u*x-(a))*(u-(0)))=0:=by grind
theorem ado(r a u x:RE)(h1:r≤a*u)(h2:a≤u*x)(h3:0<u):r≤u*x*u:=fun hg=>far (aI (aI (aK hg) (aE h1)) (bi (aE h2) (le_of_lt (aK h3)))) (QT r a u x)
theorem Nw(r a u x:RE):((u*x*u-(r)))+((r-(a*u)))+((a-(u*x))*(u-(0)))=0:=by grind
theorem Lz(r a u x:RE)(h1:a*u≤r)(h2:u*x≤a)(h3:0<u):u*x*u≤r:=fun hg=>far (aI (aI (aK hg) (aE h1)) (bi (aE h2) (le_of_lt (aK h3)))) (Nw r a u x)
theorem sqF_pr{a:Iv}(ha:prI a):prI (sqF a).1:=by
 unfold sqF
 by_cases h:a.2<0
 ·rw[alF h];exact fL
 ·rw[alH h]
  simp only[cond_false]
  refine BS ?_
  have h1:(if 0>a.1 then 0 else a.1)≤a.2:=by have:=ha.2.1;split<;>omega
  have h0:0≤(if 0>a.1 then 0 else a.1):=by split<;>omega
  have hm:eE (if 0>a.1 then 0 else a.1)≤eE a.2:=by
   unfold eE
   obtain⟨_,g1,_⟩:=fU (z:=(if 0>a.1 then 0 else a.1)*65536) (by omega)
   obtain⟨g0,_,g2⟩:=fU (z:=a.2*65536) (by omega)
   have:=Go.Proofs.YtnkndpoojnflmaaGreat.sq_lt (a:=bK ((if 0>a.1 then 0 else a.1)*65536)) (b:=bK (a.2*65536)+1) (by omega) (by omega)
   omega
  cases decide (eE a.2*eE a.2=a.2*65536)
  ·show _≤eE a.2+1;omega
  ·exact hm
theorem yv{a:Iv}{x:RE}(ha:inI a x)(hx:0≤x)(h:(sqF a).2=true):inI (sqF a).1 (yl x):=by
 obtain⟨a1,a2⟩:=ha
 have hs:=Cb hx
 have s0:0≤of 65536*yl x:=bi (le_of_lt ob) (pI x)
 have e:of 65536*yl x*(of 65536*yl x)=of 65536*x*of 65536:=by rw[ahL,hs]
 unfold sqF at h ⊢
 cases hn:decide (a.2<0)
 ·rw[hn]at h
  simp only[cond_false]at h ⊢
  have h2:=amz hn
  rw[Be h]
  obtain⟨p0,p1,p2⟩:=fU (z:=(if 0>a.1 then 0 else a.1)*65536) (by split<;>omega)
  obtain⟨q0,q1,q2⟩:=fU (z:=a.2*65536) (by omega)
  have cm:∀{p q:Int},p*p≤q*65536→of (p:Rat)*of (p:Rat)≤of (q:Rat)*of 65536:=fun{p q} h=>by
   have:=mK h
   rw[anI,anI,aF,aF]at this
   exact this
  have cn:∀{p q:Int},q*65536≤p*p→of (q:Rat)*of 65536≤of (p:Rat)*of (p:Rat):=fun{p q} h=>by
   have:=mK h
   rw[anI,anI,aF,aF]at this
   exact this
  have nn:∀{p:Int},0≤p→0≤of (p:Rat):=fun h=>mK h
  refine⟨?_,?_⟩
  ·show of ((eE _:Int):Rat)≤_
   refine Cq _ _ (nn p0) s0 ?_
   rw[e]
   refine ado _ (of (((if 0>a.1 then 0 else a.1:Int)):Rat)) _ _ (cm p1) ?_ ob
   split
   ·exact bi (le_of_lt ob) hx
   ·exact a1
  ·show _≤of (((bif _ then _ else _):Int):Rat)
   cases he:decide (eE a.2*eE a.2=a.2*65536)
   ·simp only[cond_false]
    refine Cq _ _ s0 (nn (by unfold eE;omega)) ?_
    rw[e]
    exact Lz _ _ _ _ (cn (by unfold eE;omega)) a2 ob
   ·simp only[cond_true]
    refine Cq _ _ s0 (nn q0) ?_
    rw[e]
    exact Lz _ _ _ _ (cn (by rw[alI he];exact Int.le_refl _)) a2 ob
 ·rw[hn]at h;cases h
theorem E8{i:Iv}{x:RE}(hi:inI i x)(h:(sgF i).2=true):(sgF i).1=sg x:=by
 obtain⟨h1,h2⟩:=hi
 unfold sgF at h ⊢
 cases e1:decide (i.1>0)
 ·rw[e1]at h
  cases e2:decide (i.2<0)
  ·rw[e2]at h
   simp only[cond_false,alJ,anW]at h ⊢
   rw[h.1]at h1
   rw[h.2]at h2
   have:of 65536*x=0:=le_antisymm h2 h1
   have:sg (of 65536*x)=0:=by rw[this,db]
   rw[dp,dt ob]at this
   omega
  ·have e:=alI e2
   have h3:of (i.2:Rat)<0:=iz (an7.2 e)
   simp only[cond_false,cond_true]
   have:sg (of 65536*x)= -1:=gk (by
    rcases lt_or_ge (of 65536*x) 0 with h|h
    ·exact h
    ·exact absurd (le_trans h h2) (ru.2 h3))
   rw[dp,dt ob]at this
   omega
 ·have e:=alI e1
  have h3:0<of (i.1:Rat):=iz (an7.2 e)
  simp only[cond_true]
  have:sg (of 65536*x)=1:=dt (by
   rcases lt_or_ge 0 (of 65536*x)with h|h
   ·exact h
   ·exact absurd (le_trans h1 h) (ru.2 h3))
  rw[dp,dt ob]at this
  omega
end RE
abbrev Qd:=Rat×Rat×Rat×Rat×Rat×Rat
def sgQ(q:Qd):Int:=AQ q.1 q.2.1 q.2.2.1 q.2.2.2.1 q.2.2.2.2.1 q.2.2.2.2.2
def suT(x y:Rt):Qd:=(x.1-y.1,x.2.1,-y.2.1,0,x.2.2,y.2.2)
def fN(x:Rt)(q:Rat):Int:=gz (x.1-q) x.2.1 x.2.2
def okQ(q:BQ):Prop:=ok Rat 30001 q.1∧ok Rat 15000 q.2.1∧ok Rat 15000 q.2.2.1∧ok Rat 6000 q.2.2.2.1∧ok Rat 15000 q.2.2.2.2.1∧ok Rat 15000 q.2.2.2.2.2∧0≤ah q.2.2.2.2.1∧0≤ah q.2.2.2.2.2
instance (q:BQ):Decidable (okQ q):=by unfold okQ;infer_instance
theorem E2{q:BQ}(h:okQ q):∃A B C D M N:Rat,q=enc ((A,B,C,D,M,N):Qd)∧Bd A 30001∧Bd B 15000∧Bd C 15000∧Bd D 6000∧Bd M 15000∧Bd N 15000∧0≤M∧0≤N:=by
 obtain⟨A,B,C,D,M,N⟩:=q
 obtain⟨h1,h2,h3,h4,h5,h6,h7,h8⟩:=h
 obtain⟨a,ha,b1⟩:=aB h1
 obtain⟨b,hb,b2⟩:=aB h2
 obtain⟨c,hc,b3⟩:=aB h3
 obtain⟨d,hd,b4⟩:=aB h4
 obtain⟨m,hm,b5⟩:=aB h5
 obtain⟨n,hn,b6⟩:=aB h6
 dsimp only at ha hb hc hd hm hn h7 h8
 subst ha hb hc hd hm hn
 rw[eO,cA]at h7 h8
 exact⟨a,b,c,d,m,n,rfl,b1,b2,b3,b4,b5,b6,h7,h8⟩
theorem zQ{A B C D M N:Rat}{a b c d m n:Nat}[h1:Bd A a][h2:Bd B b][h3:Bd C c][h4:Bd D d][h5:Bd M m][h6:Bd N n][h7:Nn M][h8:Nn N](ha:a≤30001)(hb:b≤15000)(hc:c≤15000)(hd:d≤6000)(hm:m≤15000)(hn:n≤15000):decide (okQ (enc ((A,B,C,D,M,N):Qd)))=true:=
 alF ⟨alI (lO ha (by decide)),alI (lO hb (by decide)),alI (lO hc (by decide)),alI (lO hd (by decide)),alI (lO hm (by decide)),alI (lO hn (by decide)),by show 0≤ah (am M);rw[cA];exact h7.le,by show 0≤ah (am N);rw[cA];exact h8.le⟩
theorem AO{s t:Int}(hs: -1≤s∧s≤1)(ht: -1≤t∧t≤1):i64.wrap (s*t)=s*t:=by
 have:=Af hs ht
 exact aT (by omega) (by omega)
theorem sZ{a b m x y:Rat}:i64.wrap (gz a b m*aG x y)=gz a b m*aG x y:=AO (lQ _ _ _) (jX _ _)
theorem sP{a b m x y z:Rat}:i64.wrap (gz a b m*gz x y z)=gz a b m*gz x y z:=AO (lQ _ _ _) (lQ _ _ _)
theorem Dw(s t u:Int):(match s==0 with|true=>(match s==0 with|true=>some [RV.d aoX t]|false=>some [RV.d aoX s])|false=>(match t==0 with|true=>(match s==0 with|true=>some [RV.d aoX t]|false=>some [RV.d aoX s])|false=>(match s==t with|true=>(match s==0 with|true=>some [RV.d aoX t]|false=>some [RV.d aoX s])|false=>some [RV.d aoX (s*u)])))=some [RV.d aoX (RE.addS s t u)]:=by
 unfold RE.addS
 cases h1:s==0
 ·cases h2:t==0
  ·cases h3:s==t<;>rfl
  ·rfl
 ·have e:=amR.1 h1
  subst e
  cases h2:t==0
  ·cases h3:(0:Int)==t
   ·rfl
   ·rw[←amR.1 h3];rfl
  ·rw[amR.1 h2];rfl
theorem A5(s t u:Int):(match t==0 with|true=>some [RV.d aoX s]|false=>(match s==t with|true=>some [RV.d aoX s]|false=>(match s==0 with|true=>some [RV.d aoX t]|false=>some [RV.d aoX (s*u)])))=some [RV.d aoX (RE.addS s t u)]:=by
 unfold RE.addS
 cases h2:t==0
 ·cases h3:s==t
  ·cases h1:s==0<;>rfl
  ·rfl
 ·rfl
def EF:List En:=[enL l7,enL m7,enL oH,enL ng,enT lT,enT rQ,enL oK]
def QY(a b c:BR)(_k:KT):Option (List RV):=og (o1 a) (og (o1 b) (og (o1 c) (match(aG (ah a) 0)==0 with|true=>(match(aG (ah a) 0)==0 with|true=>some [RV.d aoX (i64.wrap ((aG (ah b) 0)*(aG (ah c) 0)))]|false=>some [RV.d aoX (aG (ah a) 0)])|false=>(match(i64.wrap ((aG (ah b) 0)*(aG (ah c) 0)))==0 with|true=>(match(aG (ah a) 0)==0 with|true=>some [RV.d aoX (i64.wrap ((aG (ah b) 0)*(aG (ah c) 0)))]|false=>some [RV.d aoX (aG (ah a) 0)])|false=>(match(aG (ah a) 0)==(i64.wrap ((aG (ah b) 0)*(aG (ah c) 0)))with|true=>(match(aG (ah a) 0)==0 with|true=>some [RV.d aoX (i64.wrap ((aG (ah b) 0)*(aG (ah c) 0)))]|false=>some [RV.d aoX (aG (ah a) 0)])|false=>(og (o2 a a) (og (o2 b b) (og (o2 (hMu b b) c) (og (o2 (hMu a a) (hMu (hMu b b) c)) (some [RV.d aoX (i64.wrap ((aG (ah a) 0)*(aG (ah (hMu a a)) (ah (hMu (hMu b b) c)))))]))))))))))
def ab5:Cn 156 [tR,tR,tR]:=cn fun(a b c:BR)=>lf (ok Rat 240000 a∧ok Rat 170000 b∧ok Rat 30000 c) [.d aoX (gz (ah a) (ah b) (ah c))] fun h=>by
 refine aA EF (QY a b c) ⟨0,?_⟩
 obtain⟨ha,hb,hc⟩:=h
 obtain⟨a,rfl,ba⟩:=aB ha
 obtain⟨b,rfl,bb⟩:=aB hb
 obtain⟨c,rfl,bc⟩:=aB hc
 unfold QY
 simp only[aS,Nat.reduceAdd,Nat.reduceLeDiff,qo]
 exact Dw _ _ _
def Qn(a b:BO3)(_k:KT):Option (List RV):=og (o2 a.1 b.1) (og (o1 b.2.1) (og (decide (aH (0:Int))) (some [RV.d tQ (hSu a.1 b.1,(a.2.1,(hNe b.2.1,(hid (am ((0:Int):Rat)),(a.2.2,b.2.2)))))])))
def aaV:Cn 236 [tO,tO]:=cn fun(a b:BO3)=>lf (ok Rt 15000 a∧ok Rt 15000 b) [.d tQ (enc (suT (dec a) (dec b)))] fun h=>by
 refine aA EF (Qn a b) ⟨0,?_⟩
 obtain⟨ha,hb⟩:=h
 obtain⟨a,rfl,ba⟩:=aB ha
 obtain⟨b,rfl,bb⟩:=aB hb
 unfold Qn
 simp only[aS,Nat.reduceLeDiff]
 try rfl
def OR:List En:=enT ab5::enL aaV::EF
def Qj(q:BQ)(_k:KT):Option (List RV):=let y1:=ah q.2.2.2.2.1;let y2:=aG (ah q.2.2.2.2.2) 0;let y3:=gz (ah q.1) (ah q.2.1) y1;let y4:=i64.wrap ((gz (ah q.2.2.1) (ah q.2.2.2.1) y1)*y2);let y5:Option (List RV):=match y3==0 with|true=>some [RV.d aoX y4]|false=>some [RV.d aoX y3];let y6:=hMu q.2.2.2.1 q.2.2.2.1;let y7:=hMu q.2.2.1 q.2.2.1;let y8:=hMu y6 q.2.2.2.2.1;let y9:=hMu (hMu q.2.1 q.2.1) q.2.2.2.2.1;let y10:=hAd (hMu q.1 q.1) y9;let y11:=hMu q.2.2.2.2.2 (hAd y7 y8);let y12:=hMu q.2.2.1 q.2.2.2.1;let y13:=hMu q.2.2.2.2.2 y12;let y14:=hSu (hMu q.1 q.2.1) y13;og (o1 q.2.2.2.2.1) (match decide ((aG y1 0)<0)with|true=>some [RV.d aoX 0]|false=>(og (o1 q.2.2.2.2.2) (match decide (y2<0)with|true=>some [RV.d aoX 0]|false=>(og (decide (ok Rat 240000 q.1∧ok Rat 170000 q.2.1∧ok Rat 30000 q.2.2.2.2.1)) (og (decide (ok Rat 240000 q.2.2.1∧ok Rat 170000 q.2.2.2.1∧ok Rat 30000 q.2.2.2.2.1)) (og (o1 q.2.2.2.2.2) (match y3==0 with|true=>y5|false=>(match y4==0 with|true=>y5|false=>(match y3==y4 with|true=>y5|false=>(og (o2 q.2.2.1 q.2.2.1) (og (o2 q.2.2.2.1 q.2.2.2.1) (og (o2 y6 q.2.2.2.2.1) (og (o2 y7 y8) (og (o2 q.2.2.2.2.2 (hAd y7 y8)) (og (o2 q.1 q.1) (og (o2 q.2.1 q.2.1) (og (o2 (hMu q.2.1 q.2.1) q.2.2.2.2.1) (og (o2 (hMu q.1 q.1) y9) (og (o2 y10 y11) (og (o2 q.1 q.2.1) (og (o2 q.2.2.1 q.2.2.2.1) (og (o2 q.2.2.2.2.2 y12) (og (o2 (hMu q.1 q.2.1) y13) (og (o2 y14 y14) (og (decide (ok Rat 240000 (hSu y10 y11)∧ok Rat 170000 (hAd y14 y14)∧ok Rat 30000 q.2.2.2.2.1)) (some [RV.d aoX (i64.wrap (y3*(gz (ah (hSu y10 y11)) (ah (hAd y14 y14)) y1)))]))))))))))))))))))))))))))
def Le:Cn 234 [tQ]:=cn fun(q:BQ)=>lf (okQ q) [.d aoX (sgQ (dec q))] fun h=>by
 refine aA OR (Qj q) ⟨0,?_⟩
 obtain⟨A,B,C,D,M,N,rfl,bA,bB,bC,bD,bM,bN,hM,hN⟩:=E2 h
 rw[az]
 unfold Qj
 simp only[aS,aC,Nat.reduceAdd,Nat.reduceLeDiff,sZ,sP,au,alH (show ¬M<0 by grind),alH (show ¬N<0 by grind)]
 refine(Dw _ _ _).trans ?_
 unfold sgQ AQ
 rw[alH (show ¬M<0 by grind),alH (show ¬N<0 by grind)]
 dsimp only[Bool.or_false,cond_false]
 rw[show A*B-N*(C*D)+(A*B-N*(C*D))=2*(A*B-N*(C*D)) by grind]
 rfl
def L4:List En:=enT Le::OR
def N8(a b:BO3)(_k:KT):Option (List RV):=og (decide (ok Rt 15000 a∧ok Rt 15000 b)) (og (decide (okQ (hid (enc (suT (dec a) (dec b)))))) (some [RV.d aoX (sgQ (dec (hid (enc (suT (dec a) (dec b))))))]))
def Aq:Cn 121 [tO,tO]:=cn fun(a b:BO3)=>lf (okT 15000 a∧okT 15000 b) [.d aoX (a8 (dec a) (dec b))] fun h=>by
 refine aA L4 (N8 a b) ⟨0,?_⟩
 obtain⟨ha,hb⟩:=h
 obtain⟨a,rfl,ba,ra⟩:=gg ha
 obtain⟨b,rfl,bb,rb⟩:=gg hb
 have na:Nn a.2.2:=inferInstance
 have nb:Nn b.2.2:=inferInstance
 have e:decide (okQ (enc (suT a b)))=true:=zQ (by decide) (by decide) (by decide) (by decide) (by decide) (by decide)
 unfold N8
 simp only[aS,Nat.reduceLeDiff,e]
 rfl
def Mh(a:BO3)(b:BR)(_k:KT):Option (List RV):=og (o2 a.1 b) (og (decide (ok Rat 240000 (hSu a.1 b)∧ok Rat 170000 a.2.1∧ok Rat 30000 a.2.2)) (some [RV.d aoX (gz (ah (hSu a.1 b)) (ah a.2.1) (ah a.2.2))]))
def AA:Cn 62 [tO,tR]:=cn fun(a:BO3) (b:BR)=>lf (okT 15000 a∧ok Rat 15000 b) [.d aoX (fN (dec a) (ah b))] fun h=>by
 refine aA L4 (Mh a b) ⟨0,?_⟩
 obtain⟨ha,hb⟩:=h
 obtain⟨a,rfl,ba,ra⟩:=gg ha
 obtain⟨b,rfl,bb⟩:=aB hb
 unfold Mh
 simp only[aS,Nat.reduceAdd,Nat.reduceLeDiff]
 try rfl
def kG:ef:=spN false true [tR] (fun x=>decide (okR x.1)) (fun x=>[RV.d tR (hNe x.1)])
theorem gD:SpK 109 kG:=spX fun x h=>by simp only[bO];exact HI x.1 (alI h)
def K3:List En:=[⟨99,iA,eW⟩,⟨107,iO,fk⟩,⟨106,ie,fc⟩,⟨108,gO,eM⟩,⟨41,fC,dQ⟩,⟨73,lY,iu⟩,⟨109,kG,gD⟩]
def XH(a b c:BR)(_k:KT):Option (List RV):=og (o1 a) (og (o1 b) (og (o1 c) (match(i64.wrap ((aG (ah b) 0)*(aG (ah c) 0)))==0 with|true=>some [RV.d aoX (aG (ah a) 0)]|false=>(match(aG (ah a) 0)==(i64.wrap ((aG (ah b) 0)*(aG (ah c) 0)))with|true=>some [RV.d aoX (aG (ah a) 0)]|false=>(match(aG (ah a) 0)==0 with|true=>some [RV.d aoX (i64.wrap ((aG (ah b) 0)*(aG (ah c) 0)))]|false=>(og (o2 a a) (og (o2 b b) (og (o2 (hMu b b) c) (og (o2 (hMu a a) (hMu (hMu b b) c)) (some [RV.d aoX (i64.wrap ((aG (ah a) 0)*(aG (ah (hMu a a)) (ah (hMu (hMu b b) c)))))]))))))))))
def DN:Cn 293 [tR,tR,tR]:=cn fun(a b c:BR)=>lf (ok Rat 240000 a∧ok Rat 170000 b∧ok Rat 30000 c) [.d aoX (gz (ah a) (ah b) (ah c))] fun h=>by
 refine aA K3 (XH a b c) ⟨0,?_⟩
 obtain⟨ha,hb,hc⟩:=h
 obtain⟨a,rfl,ba⟩:=aB ha
 obtain⟨b,rfl,bb⟩:=aB hb
 obtain⟨c,rfl,bc⟩:=aB hc
 unfold XH
 simp only[aS,Nat.reduceAdd,Nat.reduceLeDiff,qo]
 exact A5 _ _ _
def Za(a:BR)(_k:KT):Option (List RV):=og (o1 a) (og (o1 (hNe a)) (some [RV.d tR (hNe (hNe a))]))
def ZH:Cn 338 [tR]:=cn fun(a:BR)=>lf (okR a) [.d tR (am (ah a))] fun h=>by
 refine aA K3 (Za a) ⟨0,?_⟩
 have ha:=h
 obtain⟨a,rfl,ba⟩:=fd ha
 unfold Za
 simp only[aS,Nat.reduceLeDiff,aoN]
def aiS:List En:=enT DN::enL ZH::K3
def Xo(a b:BO3)(_k:KT):Option (List RV):=og (o2 a.1 b.1) (og (o1 a.2.1) (og (o1 b.2.1) (og (decide (aH (0:Int))) (og (o1 a.2.2) (og (o1 b.2.2) (some [RV.d tQ (hSu a.1 b.1,(hid (am (ah a.2.1)),(hNe b.2.1,(hid (am ((0:Int):Rat)),(hid (am (ah a.2.2)),hid (am (ah b.2.2)))))))]))))))
def Qm:Cn 296 [tO,tO]:=cn fun(a b:BO3)=>lf (ok Rt 15000 a∧ok Rt 15000 b) [.d tQ (enc (suT (dec a) (dec b)))] fun h=>by
 refine aA aiS (Xo a b) ⟨0,?_⟩
 obtain⟨ha,hb⟩:=h
 obtain⟨a,rfl,ba⟩:=aB ha
 obtain⟨b,rfl,bb⟩:=aB hb
 unfold Xo
 simp only[aS,Nat.reduceLeDiff]
 try rfl
theorem j9{n:Int}(h:aH n):szI n≤3:=by
 have:pw 3=1000000000000000000000000000:=by decide
 exact fh (by have:=h.1;omega) (by have:=h.2;omega)
theorem Nz{q:Rat}{k:Nat}(h:Bd q k)(hk:k≤480000):okI (ai q.floor)∧okI (ai (-q.floor)):=by
 have e:szI q.floor≤k:=by
  refine alU (dw ?_) h.le.1
  rw[Rat.floor_def]
  exact Int.natAbs_ediv_le_natAbs _ _
 exact⟨aU (by omega),aU (by rw[je];omega)⟩
theorem akJ:Bd (65536:Rat) 1:=⟨⟨by decide+kernel,by decide+kernel⟩⟩
theorem adH:((65536:Int):Rat)=65536:=rfl
theorem p48:(2:Int)^(min (48:Int).toNat 64)=281474976710656:=by decide
theorem p32:(2:Int)^(min (32:Int).toNat 64)=4294967296:=by decide
theorem p16:(2:Int)^(min (16:Int).toNat 64)=65536:=by decide
theorem fdv{a b:Int}(h:0≤b):Int.fdiv a b=a/b:=Int.fdiv_eq_ediv_of_nonneg a h
theorem X5(n k:Nat)(hn:n<18446744073709551616)(hk:2^k-1<18446744073709551616):BitVec.toNat (BitVec.ofInt 64 (n:Int)&&&BitVec.ofInt 64 ((2^k-1:Nat):Int))=n%2^k:=by
 rw[BitVec.toNat_and,BitVec.toNat_ofInt,BitVec.toNat_ofInt]
 have e1:((n:Int)%((2^64:Nat):Int)).toNat=n:=by omega
 have e2:(((2^k-1:Nat):Int)%((2^64:Nat):Int)).toNat=2^k-1:=by omega
 rw[e1,e2,Nat.and_two_pow_sub_one_eq_mod]
theorem ag4(n:Nat)(hn:n<18446744073709551616):u64.wrap (BitVec.toNat (BitVec.ofInt 64 (n:Int)&&&BitVec.ofInt 64 65535))=((n%65536:Nat):Int):=by
 rw[show(65535:Int)=((2^16-1:Nat):Int) from rfl,X5 n 16 hn (by decide),amx]
 omega
theorem NP(n:Nat)(hn:n<18446744073709551616):u64.wrap (BitVec.toNat (BitVec.ofInt 64 (n:Int)&&&BitVec.ofInt 64 4294967295))=((n%4294967296:Nat):Int):=by
 rw[show(4294967295:Int)=((2^32-1:Nat):Int) from rfl,X5 n 32 hn (by decide),amx]
 omega
theorem ald{h l:Nat}(hh:h<65536)(hl:l<281474976710656):u64.wrap (BitVec.toNat (BitVec.ofInt 64 (u64.wrap ((h:Int)*281474976710656)) ||| BitVec.ofInt 64 (l:Int)))=((h*281474976710656+l:Nat):Int):=by
 rw[BitVec.toNat_or,BitVec.toNat_ofInt,BitVec.toNat_ofInt,amx,amx]
 have e1:((h:Int)*281474976710656%18446744073709551616%((2^64:Nat):Int)).toNat=h <<< 48:=by
  rw[Nat.shiftLeft_eq]
  omega
 have e2:((l:Int)%((2^64:Nat):Int)).toNat=l:=by omega
 rw[e1,e2,←Nat.shiftLeft_add_eq_or_of_lt (by omega),Nat.shiftLeft_eq]
 omega
def scP(x y:Int):Prop:=x.natAbs≤2305843009213693952∧y.natAbs≤2305843009213693952
instance (x y:Int):Decidable (scP x y):=by unfold scP;infer_instance
def CT(n:Int):Prop:=0≤n∧n≤2305843009213693952
instance (n:Int):Decidable (CT n):=by unfold CT;infer_instance
def ah9:Ctx:=CX [] []
def Wl(x y:Int)(_k:KT):Option (List RV):=match decide (x<(-2305843009213693952))with|true=>some [RV.d tG (0,0),RV.d .bool false]|false=>(match decide (y>2305843009213693952)with|true=>some [RV.d tG (0,0),RV.d .bool false]|false=>some [RV.d tG (x,y),RV.d .bool true])
theorem agL(x y:Int):RS ah9 353 [SI x,SI y] (Wl x y):=rsX
def OF:Cn 353 [aoX,aoX]:=cn fun(x y:Int)=>lf True [.d tG ((oz x y).1),.d .bool ((oz x y).2)] fun _=>by
 refine fK (E:=[]) trivial (agL _ _ ⟨0,?_⟩)
 unfold Wl oz
 cases decide (x< -2305843009213693952)
 ·cases decide (y>2305843009213693952)<;>rfl
 ·rfl
def Fx:ef:=spN false true [tI] (fun x=>decide (okI x.1)) (fun x=>[RV.d tI (hid (ai (-ae x.1)))])
theorem CM:SpK 216 Fx:=spX fun x h=>by simp only[bO];exact I0 x.1 (alI h)
def zn:List En:=[⟨99,iA,eW⟩,⟨108,gO,eM⟩,⟨109,kG,gD⟩,enL Sd,enT ZL,⟨216,Fx,CM⟩,enL OF]
def Xr(a:BR)(_k:KT):Option (List RV):=let y1:=hid (am ((65536:Int):Rat));let y2:=hid (ai (ah (hMu a y1)).floor);let y3:=hid (ai (ah (hNe (hMu a y1))).floor);let y4:=hid (ai (-ae y3));let y5:=oz (bif decide (aH (ae y2))then ae y2 else 0) (bif decide (aH (ae y4))then ae y4 else 0);og (decide (aH (65536:Int))) (og (o2 a y1) (og (o1 (hMu a y1)) (og (decide (okI y2)) (og (o1 (hMu a y1)) (og (o1 (hNe (hMu a y1))) (og (decide (okI y3)) (og (decide (okI y4)) (match !(decide (aH (ae y2)))with|true=>some [RV.d tG (0,0),RV.d .bool false]|false=>(match !(decide (aH (ae y4)))with|true=>some [RV.d tG (0,0),RV.d .bool false]|false=>some [RV.d tG (hid (y5.1)),RV.d .bool (y5.2)])))))))))
def PV:Cn 333 [tR]:=cn fun(a:BR)=>lf (ok Rat 200000 a) [.d tG ((frF (ah a)).1),.d .bool ((frF (ah a)).2)] fun h=>by
 refine aA zn (Xr a) ⟨0,?_⟩
 have ha:=h
 obtain⟨a,rfl,ba⟩:=aB ha
 have hk:=akJ
 have h6:aH 65536:=by decide
 have f1:=Nz (inferInstance:Bd (a*65536) _) (by decide)
 have f2:=Nz (inferInstance:Bd (-(a*65536)) _) (by decide)
 unfold Xr
 simp only[adH,aS,Nat.reduceAdd,Nat.reduceLeDiff,dec_enc,dT h6,dT f1.1,dT f2.1,dT f2.2]
 unfold frF
 cases e1:decide (aH (a*65536).floor)
 ·rfl
 ·cases e2:decide (aH (-(-(a*65536)).floor))
  ·rfl
  ·rfl
def Zj(a b:(Int×Int))(_k:KT):Option (List RV):=some [RV.d tG (hid ((oz (i64.wrap (a.1+b.1)) (i64.wrap (a.2+b.2))).1)),RV.d .bool ((oz (i64.wrap (a.1+b.1)) (i64.wrap (a.2+b.2))).2)]
def Qg:Cn 335 [tG,tG]:=cn fun(a b:(Int×Int))=>lf (prI a∧prI b) [.d tG ((dJ a b).1),.d .bool ((dJ a b).2)] fun h=>by
 refine aA zn (Zj a b) ⟨0,?_⟩
 obtain⟨⟨a1,a2,a3⟩,⟨b1,b2,b3⟩⟩:=h
 unfold Zj dJ
 rw[aT (by omega) (by omega),aT (by omega) (by omega)]
 simp only[bO]
def Yw(a:(Int×Int))(_k:KT):Option (List RV):=some [RV.d tG (i64.wrap (0-a.2),i64.wrap (0-a.1))]
def Pc:Cn 362 [tG]:=cn fun(a:(Int×Int))=>lf (prI a) [.d tG (mA a)] fun h=>by
 refine aA zn (Yw a) ⟨0,?_⟩
 obtain⟨a1,a2,a3⟩:=h
 unfold Yw mA
 rw[aT (by omega) (by omega),aT (by omega) (by omega),anD,anD]
def X6(n:Int)(_k:KT):Option (List RV):=match decide (n<0)with|true=>some [RV.d (.int .u64) (u64.wrap (0-(u64.wrap n)))]|false=>some [RV.d (.int .u64) (u64.wrap n)]
def OS:Cn 367 [aoX]:=cn fun(n:Int)=>lf (aH n) [.d (.int .u64) (n.natAbs:Int)] fun h=>by
 refine aA zn (X6 n) ⟨0,?_⟩
 obtain⟨h1,h2⟩:=h
 unfold X6
 rw[amx,amx]
 by_cases hn:n<0
 ·rw[alF hn,show(0-n%18446744073709551616)%18446744073709551616=(n.natAbs:Int) by omega]
 ·rw[alH hn,show n%18446744073709551616=(n.natAbs:Int) by omega]
def aad(x y:Int)(_k:KT):Option (List RV):=match decide (32<(0:Int))with|true=>none|false=>(match decide (32<(0:Int))with|true=>none|false=>(match decide (32<(0:Int))with|true=>none|false=>(match decide (32<(0:Int))with|true=>none|false=>(match decide (32<(0:Int))with|true=>none|false=>some [RV.d (.int .u64) (u64.wrap ((u64.wrap ((u64.wrap ((Int.fdiv x (2^(min (32:Int).toNat 64)))*(Int.fdiv y (2^(min (32:Int).toNat 64)))))+(Int.fdiv (u64.wrap ((u64.wrap ((Int.fdiv x (2^(min (32:Int).toNat 64)))*(u64.wrap (BitVec.toNat (BitVec.ofInt 64 y&&&BitVec.ofInt 64 4294967295)))))+(Int.fdiv (u64.wrap ((u64.wrap (BitVec.toNat (BitVec.ofInt 64 x&&&BitVec.ofInt 64 4294967295)))*(u64.wrap (BitVec.toNat (BitVec.ofInt 64 y&&&BitVec.ofInt 64 4294967295))))) (2^(min (32:Int).toNat 64))))) (2^(min (32:Int).toNat 64)))))+(Int.fdiv (u64.wrap ((u64.wrap (BitVec.toNat (BitVec.ofInt 64 (u64.wrap ((u64.wrap ((Int.fdiv x (2^(min (32:Int).toNat 64)))*(u64.wrap (BitVec.toNat (BitVec.ofInt 64 y&&&BitVec.ofInt 64 4294967295)))))+(Int.fdiv (u64.wrap ((u64.wrap (BitVec.toNat (BitVec.ofInt 64 x&&&BitVec.ofInt 64 4294967295)))*(u64.wrap (BitVec.toNat (BitVec.ofInt 64 y&&&BitVec.ofInt 64 4294967295))))) (2^(min (32:Int).toNat 64)))))&&&BitVec.ofInt 64 4294967295)))+(u64.wrap ((u64.wrap (BitVec.toNat (BitVec.ofInt 64 x&&&BitVec.ofInt 64 4294967295)))*(Int.fdiv y (2^(min (32:Int).toNat 64))))))) (2^(min (32:Int).toNat 64))))),RV.d (.int .u64) (u64.wrap (x*y))]))))
def MU:Cn 366 [(.int .u64),(.int .u64)]:=cn fun(x y:Int)=>lf (iC x∧iC y) [.d (.int .u64) (x*y/18446744073709551616),.d (.int .u64) (x*y%18446744073709551616)] fun h=>by
 refine aA zn (aad x y) ⟨0,?_⟩
 obtain⟨h1,h2⟩:=h
 obtain⟨X,rfl⟩:=amO h1.1
 obtain⟨Y,rfl⟩:=amO h2.1
 have hX:X<18446744073709551616:=by have:=h1.2;omega
 have hY:Y<18446744073709551616:=by have:=h2.2;omega
 have wn:∀n:Nat,n<18446744073709551616→u64.wrap (n:Int)=(n:Int):=fun n hn=>by rw[amx];omega
 have eX:(X:Int)/4294967296=((X/4294967296:Nat):Int):=by omega
 have eY:(Y:Int)/4294967296=((Y/4294967296:Nat):Int):=by omega
 unfold aad
 simp only[p32,fdv (show(0:Int)≤4294967296 by decide),NP X hX,NP Y hY,eX,eY]
 have hXY:X*Y=X/4294967296*(Y/4294967296)*18446744073709551616+(X/4294967296*(Y%4294967296)+X%4294967296*(Y/4294967296))*4294967296+X%4294967296*(Y%4294967296):=by
  have a:=Nat.div_add_mod X 4294967296
  have b:=Nat.div_add_mod Y 4294967296
  generalize X/4294967296=x1 at*
  generalize X%4294967296=x0 at*
  generalize Y/4294967296=y1 at*
  generalize Y%4294967296=y0 at*
  subst a b
  grind
 have x0:X%4294967296≤4294967295:=by omega
 have y0:Y%4294967296≤4294967295:=by omega
 have x1:X/4294967296≤4294967295:=by omega
 have y1:Y/4294967296≤4294967295:=by omega
 have q00:=anP x0 y0
 have q10:=anP x1 y0
 have q01:=anP x0 y1
 have q11:=anP x1 y1
 simp only[←anb]
 rw[hXY]
 generalize X%4294967296*(Y%4294967296)=p00 at*
 generalize X/4294967296*(Y%4294967296)=p10 at*
 generalize X%4294967296*(Y/4294967296)=p01 at*
 generalize X/4294967296*(Y/4294967296)=p11 at*
 have t0:u64.wrap (u64.wrap (p10:Int)+u64.wrap (p00:Int)/4294967296)=((p10+p00/4294967296:Nat):Int):=by
  rw[wn p10 (by omega),wn p00 (by omega),show(p10:Int)+(p00:Int)/4294967296=((p10+p00/4294967296:Nat):Int) by omega,wn _ (by omega)]
 rw[t0,NP _ (by omega)]
 have t1:u64.wrap (((p10+p00/4294967296)%4294967296:Nat)+u64.wrap (p01:Int))=(((p10+p00/4294967296)%4294967296+p01:Nat):Int):=by
  rw[wn p01 (by omega),←Int.natCast_add,wn _ (by omega)]
 rw[t1,wn p11 (by omega)]
 rw[alH (show ¬(32:Int)<0 by decide)]
 dsimp only
 have hi:u64.wrap (u64.wrap ((p11:Int)+((p10+p00/4294967296:Nat):Int)/4294967296)+(((p10+p00/4294967296)%4294967296+p01:Nat):Int)/4294967296)=((p11*18446744073709551616+(p10+p01)*4294967296+p00:Nat):Int)/18446744073709551616:=by
  rw[amx,amx]
  omega
 rw[hi,amx]
def ahC:List En:=enA OS::enA MU::zn
def Xf(x y:Int)(_k:KT):Option (List RV):=let y1:=hid ((x.natAbs:Int));let y2:=hid ((y.natAbs:Int));let y3:=hid (y1*y2/18446744073709551616);let y4:=hid (y1*y2%18446744073709551616);let y5:=u64.wrap (BitVec.toNat (BitVec.ofInt 64 (u64.wrap (y3*2^(min (48:Int).toNat 64))) ||| BitVec.ofInt 64 (Int.fdiv y4 (2^(min (16:Int).toNat 64)))));let y6:=i64.wrap y5;let y7:=i64.wrap (y6+1);let y8:=i64.wrap (0-y7);let y9:=i64.wrap (0-y6);let y10:=decide (y9≤2305843009213693952);og (decide (aH x)) (og (decide (aH y)) (og (decide (iC y1∧iC y2)) (match decide (16<(0:Int))with|true=>none|false=>(match(Int.fdiv y3 (2^(min (16:Int).toNat 64))) !=0 with|true=>some [RV.d aoX 0,RV.d aoX 0,RV.d .bool false]|false=>(match decide (48<(0:Int))with|true=>none|false=>(match decide (16<(0:Int))with|true=>none|false=>(match decide (y5>2305843009213693952)with|true=>some [RV.d aoX 0,RV.d aoX 0,RV.d .bool false]|false=>(match(u64.wrap (BitVec.toNat (BitVec.ofInt 64 y4&&&BitVec.ofInt 64 65535))) !=0 with|true=>(match !((decide (x<0))==(decide (y<0)))with|true=>(match decide (y8≥(-2305843009213693952))with|true=>some [RV.d aoX y8,RV.d aoX y9,RV.d .bool y10]|false=>some [RV.d aoX y8,RV.d aoX y9,RV.d .bool false])|false=>(match decide (y6≥(-2305843009213693952))with|true=>some [RV.d aoX y6,RV.d aoX y7,RV.d .bool (decide (y7≤2305843009213693952))]|false=>some [RV.d aoX y6,RV.d aoX y7,RV.d .bool false]))|false=>(match !((decide (x<0))==(decide (y<0)))with|true=>(match decide (y9≥(-2305843009213693952))with|true=>some [RV.d aoX y9,RV.d aoX y9,RV.d .bool y10]|false=>some [RV.d aoX y9,RV.d aoX y9,RV.d .bool false])|false=>(match decide (y6≥(-2305843009213693952))with|true=>some [RV.d aoX y6,RV.d aoX y6,RV.d .bool (decide (y6≤2305843009213693952))]|false=>some [RV.d aoX y6,RV.d aoX y6,RV.d .bool false]))))))))))
def YN:Cn 356 [aoX,aoX]:=cn fun(x y:Int)=>lf (scP x y) [.d aoX ((scF x y).1.1),.d aoX ((scF x y).1.2),.d .bool ((scF x y).2)] fun h=>by
 refine aA ahC (Xf x y) ⟨0,?_⟩
 obtain⟨hx,hy⟩:=h
 have h1:aH x:=⟨by omega,by omega⟩
 have h2:aH y:=⟨by omega,by omega⟩
 have h3:iC (x.natAbs:Int)∧iC (y.natAbs:Int):=⟨⟨by omega,by omega⟩,⟨by omega,by omega⟩⟩
 unfold Xf scF
 simp only[bO]
 rw[dT h1,dT h2,dT h3]
 have hp:=anP hx hy
 simp only[←anb,p16,p48,fdv (show(0:Int)≤65536 by decide)]
 generalize x.natAbs*y.natAbs=p at*
 rw[alH (show ¬(16:Int)<0 by decide),alH (show ¬(48:Int)<0 by decide),show(p:Int)/18446744073709551616=((p/18446744073709551616:Nat):Int) by omega,show(p:Int)%18446744073709551616=((p%18446744073709551616:Nat):Int) by omega,show((p%18446744073709551616:Nat):Int)/65536=((p%18446744073709551616/65536:Nat):Int) by omega,ag4 _ (by omega),show p%18446744073709551616%65536=p%65536 by omega]
 by_cases hc:p≥1208925819614629174706176
 ·rw[alF hc,show(((p/18446744073709551616:Nat):Int)/65536 !=0)=true by simp;omega]
  rfl
 ·rw[alH hc,show(((p/18446744073709551616:Nat):Int)/65536 !=0)=false by simp;omega,ald (by omega) (by omega),show p/18446744073709551616*281474976710656+p%18446744073709551616/65536=p/65536 by omega]
  have hdm:=Nat.div_add_mod p 65536
  have hml:=aoA p (show 65536>0 by decide)
  have hru:(p+65535)/65536=if p%65536=0 then p/65536 else p/65536+1:=by split<;>omega
  rw[hru]
  clear hru
  generalize p/65536=q at*
  generalize p%65536=m at*
  have e1:decide ((q:Int)>2305843009213693952)=decide (q>2305843009213693952):=amc.2 (by omega)
  rw[e1]
  by_cases hd:q>2305843009213693952
  ·rw[alF hd]
   rfl
  rw[alH hd,aT (x:=(q:Int)) (by omega) (by omega),aT (x:=(q:Int)+1) (by omega) (by omega),aT (x:=0-(q:Int)) (by omega) (by omega),aT (x:=0-((q:Int)+1)) (by omega) (by omega)]
  have e2:((m:Int) !=0)=!decide (m=0):=by by_cases h:m=0<;>simp[h]
  have e3:decide (0-(q:Int)≥ -2305843009213693952)=true:=alF (by omega)
  have e4:decide (0-(q:Int)≤2305843009213693952)=true:=alF (by omega)
  have e5:decide ((q:Int)≥ -2305843009213693952)=true:=alF (by omega)
  have e6:decide ((q:Int)≤2305843009213693952)=true:=alF (by omega)
  have e7:decide (0-((q:Int)+1)≥ -2305843009213693952)=decide (q+1≤2305843009213693952):=amc.2 (by omega)
  have e8:decide ((q:Int)+1≤2305843009213693952)=decide (q+1≤2305843009213693952):=amc.2 (by omega)
  have e9:decide (q≤2305843009213693952)=true:=alF (by omega)
  rw[e2,e3,e4,e5,e6,e7,e8]
  have f2:((q+1:Nat):Int)=(q:Int)+1:=by omega
  have f3:decide (m=0)=true→m=0:=alI
  have f4:decide (m=0)=false→m≠0:=amz
  generalize decide (m=0)=d2 at*
  generalize (decide (x<0)==decide (y<0))=d3 at*
  cases d2
  ·rw[al3 (f4 rfl),f2]
   generalize decide (q+1≤2305843009213693952)=d4 at*
   cases d3<;>cases d4<;>simp
  ·rw[ama (f3 rfl),e9]
   cases d3<;>simp
def bG(r:Rt):Iv×Bool:=
 bif !(frF r.1).2||decide (r.2.1=0)then frF r.1
 else bif !(frF r.2.1).2||!(frF r.2.2).2||decide (r.2.2<0)then(iv0,false)
 else bif !(sqF (frF r.2.2).1).2 then(iv0,false)
 else bif !(cH (frF r.2.1).1 (sqF (frF r.2.2).1).1).2 then(iv0,false)
 else dJ (frF r.1).1 (cH (frF r.2.1).1 (sqF (frF r.2.2).1).1).1
def jN(n:Rat)(a:Iv)(k:Bool):Iv×Bool:=bif !k||!(frF n).2 then(iv0,false)else cH (frF n).1 a
def apF(a b:Rt):Int×Bool:=
 bif !(bG a).2||!(bG b).2 then(0,false)else bif decide ((bG a).1.2<(bG b).1.1)then(-1,true)else bif decide ((bG a).1.1>(bG b).1.2)then(1,true)else(0,false)
abbrev Pt:=Rat×Rat×Rat×Rat×Rat
abbrev Ln:=Rat×Rat×Rat
def pxR(p:Pt):Rt:=(p.1,p.2.1,p.2.2.2.2)
def pyR(p:Pt):Rt:=(p.2.2.1,p.2.2.2.1,p.2.2.2.2)
def yf(l:Ln)(p:Pt):Int×Bool:=
 bif !(jN l.1 (bG (pxR p)).1 (bG (pxR p)).2).2||!(jN l.2.1 (bG (pyR p)).1 (bG (pyR p)).2).2||!(frF l.2.2).2 then(0,false)
 else bif !(dJ (jN l.1 (bG (pxR p)).1 (bG (pxR p)).2).1 (jN l.2.1 (bG (pyR p)).1 (bG (pyR p)).2).1).2 then(0,false)
 else bif !(dJ (dJ (jN l.1 (bG (pxR p)).1 (bG (pxR p)).2).1 (jN l.2.1 (bG (pyR p)).1 (bG (pyR p)).2).1).1 (mA (frF l.2.2).1)).2 then(0,false)
 else sgF (dJ (dJ (jN l.1 (bG (pxR p)).1 (bG (pxR p)).2).1 (jN l.2.1 (bG (pyR p)).1 (bG (pyR p)).2).1).1 (mA (frF l.2.2).1)).1
def ff(r:Rt)(q:Rat):Iv×Bool:=bif !(bG r).2||!(frF q).2 then(iv0,false)else dJ (bG r).1 (mA (frF q).1)
def t5(c:Ln)(p:Pt):Int×Bool:=
 bif !(ff (pxR p) c.1).2||!(ff (pyR p) c.2.1).2||!(frF c.2.2).2 then(0,false)
 else bif !(cH (ff (pxR p) c.1).1 (ff (pxR p) c.1).1).2||!(cH (ff (pyR p) c.2.1).1 (ff (pyR p) c.2.1).1).2 then(0,false)
 else bif !(dJ (cH (ff (pxR p) c.1).1 (ff (pxR p) c.1).1).1 (cH (ff (pyR p) c.2.1).1 (ff (pyR p) c.2.1).1).1).2 then(0,false)
 else bif !(dJ (dJ (cH (ff (pxR p) c.1).1 (ff (pxR p) c.1).1).1 (cH (ff (pyR p) c.2.1).1 (ff (pyR p) c.2.1).1).1).1 (mA (frF c.2.2).1)).2 then(0,false)
 else sgF (dJ (dJ (cH (ff (pxR p) c.1).1 (ff (pxR p) c.1).1).1 (cH (ff (pyR p) c.2.1).1 (ff (pyR p) c.2.1).1).1).1 (mA (frF c.2.2).1)).1
def sfF(m:Rat):Iv:=(sqF (frF m).1).1
def mfF(b:Rat)(i:Iv):Iv:=(cH (frF b).1 i).1
def qu1(q:Qd):Bool:=(frF q.2.2.2.2.1).2&&(sqF (frF q.2.2.2.2.1).1).2&&(frF q.2.2.2.2.2).2&&(sqF (frF q.2.2.2.2.2).1).2
def qu2(q:Qd):Bool:=(frF q.2.1).2&&(cH (frF q.2.1).1 (sfF q.2.2.2.2.1)).2&&(frF q.2.2.1).2&&(cH (frF q.2.2.1).1 (sfF q.2.2.2.2.2)).2&&(frF q.2.2.2.1).2&&(cH (sfF q.2.2.2.2.1) (sfF q.2.2.2.2.2)).2&&(cH (frF q.2.2.2.1).1 (cH (sfF q.2.2.2.2.1) (sfF q.2.2.2.2.2)).1).2
def quA(q:Qd):Iv×Bool:=dJ (frF q.1).1 (mfF q.2.1 (sfF q.2.2.2.2.1))
def quB(q:Qd):Iv×Bool:=dJ (mfF q.2.2.1 (sfF q.2.2.2.2.2)) (mfF q.2.2.2.1 (cH (sfF q.2.2.2.2.1) (sfF q.2.2.2.2.2)).1)
def qu3(q:Qd):Bool:=(frF q.1).2&&(quA q).2&&(quB q).2&&(dJ (quA q).1 (quB q).1).2
def quF(q:Qd):Int×Bool:=bif !(qu1 q)then(0,false)else bif !(qu2 q)then(0,false)else bif !(qu3 q)then(0,false)else sgF (dJ (quA q).1 (quB q).1).1
theorem xm(r:Rt):prI (bG r).1:=by
 unfold bG
 cases !(frF r.1).2||decide (r.2.1=0)
 ·cases !(frF r.2.1).2||!(frF r.2.2).2||decide (r.2.2<0)
  ·cases !(sqF (frF r.2.2).1).2
   ·cases !(cH (frF r.2.1).1 (sqF (frF r.2.2).1).1).2
    ·exact RE.addF_pr (RE.frF_pr _) (r7 _ _)
    ·exact fL
   ·exact fL
  ·exact fL
 ·exact RE.frF_pr _
theorem S7(n:Rat)(a:Iv)(k:Bool):prI (jN n a k).1:=by
 unfold jN
 cases !k||!(frF n).2
 ·exact r7 _ _
 ·exact fL
theorem T8(r:Rt)(q:Rat):prI (ff r q).1:=by
 unfold ff
 cases !(bG r).2||!(frF q).2
 ·exact RE.addF_pr (xm _) (RE.negF_pr (RE.frF_pr _))
 ·exact fL
namespace RE
theorem pJ{r:Rt}(h:(bG r).2=true):inI (bG r).1 (v2 r.1 r.2.1 r.2.2):=by
 unfold bG at h ⊢
 cases e1:(frF r.1).2
 ·rw[e1]at h
  simp only[Bool.not_false,Bool.true_or,cond_true]at h
  rw[e1]at h
  cases h
 ·rw[e1]at h
  by_cases hb:r.2.1=0
  ·rw[alF hb]at h ⊢
   simp only[Bool.not_true,Bool.false_or,cond_true]
   unfold v2
   rw[hb,nS,zero_mul,add_zero]
   exact ip e1
  ·rw[alH hb]at h ⊢
   cases e2:(frF r.2.1).2<;>cases e3:(frF r.2.2).2<;>cases e4:decide (r.2.2<0)<;>rw[e2,e3,e4]at h<;>try (cases h;done)
   cases e5:(sqF (frF r.2.2).1).2<;>rw[e5]at h<;>try (cases h;done)
   cases e6:(cH (frF r.2.1).1 (sqF (frF r.2.2).1).1).2<;>rw[e6]at h<;>try (cases h;done)
   have hn:(0:RE)≤of r.2.2:=jQ.2 (by have:=amz e4;grind)
   exact jZ (ip e1) (ls (ip e2) (yv (ip e3) hn e5) e6) h
theorem H3{n:Rat}{a:Iv}{k:Bool}{x:RE}(ha:k=true→inI a x)(h:(jN n a k).2=true):inI (jN n a k).1 (of n*x):=by
 unfold jN at h ⊢
 cases k
 ·cases h
 ·cases e:(frF n).2<;>rw[e]at h
  ·cases h
  ·exact ls (ip e) (ha rfl) h
theorem HR{r:Rt}{q:Rat}(h:(ff r q).2=true):inI (ff r q).1 (v2 r.1 r.2.1 r.2.2+ -of q):=by
 unfold ff at h ⊢
 cases e1:(bG r).2<;>cases e2:(frF q).2<;>rw[e1,e2]at h<;>try (cases h;done)
 exact jZ (pJ e1) (AM (ip e2)) h
theorem UF(x y:RE)(h1:x<y):x-y<0:=by grind
theorem aeQ(u x y a b:RE):((b-(a)))+((a-(u*x)))+((u*y-(b)))+((u-(0))*(x-(y)))=0:=by grind
theorem ap1(u x y a b:RE)(h1:0<u)(h2:u*x≤a)(h3:a<b)(h4:b≤u*y):x<y:=ru.1 fun hg=>far (aI (aI (aI (aK h3) (aE h2)) (aE h4)) (bi (le_of_lt (aK h1)) (aE hg))) (aeQ u x y a b)
theorem apF_ok{a b:Rt}(h:(apF a b).2=true):(apF a b).1=sg (vR a-vR b):=by
 unfold apF at h ⊢
 cases e1:(bG a).2<;>cases e2:(bG b).2<;>rw[e1,e2]at h<;>try (cases h;done)
 obtain⟨a1,a2⟩:=pJ e1
 obtain⟨b1,b2⟩:=pJ e2
 cases e3:decide ((bG a).1.2<(bG b).1.1)<;>rw[e3]at h
 ·cases e4:decide ((bG a).1.1>(bG b).1.2)<;>rw[e4]at h
  ·cases h
  ·have h4:of ((bG b).1.2:Rat)<of ((bG a).1.1:Rat):=iz (an7.2 (alI e4))
   exact(dt (aK (ap1 _ _ _ _ _ ob b2 h4 a1))).symm
 ·have h4:of ((bG a).1.2:Rat)<of ((bG b).1.1:Rat):=iz (an7.2 (alI e3))
  exact(gk (UF _ _ (ap1 _ _ _ _ _ ob a2 h4 b1))).symm
theorem US{l:Ln}{p:Pt}(h:(yf l p).2=true):(yf l p).1=sg (of l.1*v2 p.1 p.2.1 p.2.2.2.2+of l.2.1*v2 p.2.2.1 p.2.2.2.1 p.2.2.2.2+ -of l.2.2):=by
 unfold yf at h ⊢
 cases e1:(jN l.1 (bG (pxR p)).1 (bG (pxR p)).2).2<;>cases e2:(jN l.2.1 (bG (pyR p)).1 (bG (pyR p)).2).2<;>cases e3:(frF l.2.2).2<;>rw[e1,e2,e3]at h<;>try (cases h;done)
 have i1:=H3 (x:=v2 p.1 p.2.1 p.2.2.2.2) (fun e=>pJ (r:=pxR p) e) e1
 have i2:=H3 (x:=v2 p.2.2.1 p.2.2.2.1 p.2.2.2.2) (fun e=>pJ (r:=pyR p) e) e2
 revert h i1 i2
 generalize jN l.1 (bG (pxR p)).1 (bG (pxR p)).2=X
 generalize jN l.2.1 (bG (pyR p)).1 (bG (pyR p)).2=Y
 intro h i1 i2
 cases e4:(dJ X.1 Y.1).2<;>rw[e4]at h<;>try (cases h;done)
 cases e5:(dJ (dJ X.1 Y.1).1 (mA (frF l.2.2).1)).2<;>rw[e5]at h<;>try (cases h;done)
 exact E8 (jZ (jZ i1 i2 e4) (AM (ip e3)) e5) h
theorem SG{c:Ln}{p:Pt}(h:(t5 c p).2=true):(t5 c p).1=sg ((v2 p.1 p.2.1 p.2.2.2.2+ -of c.1)*(v2 p.1 p.2.1 p.2.2.2.2+ -of c.1)+(v2 p.2.2.1 p.2.2.2.1 p.2.2.2.2+ -of c.2.1)*(v2 p.2.2.1 p.2.2.2.1 p.2.2.2.2+ -of c.2.1)+ -of c.2.2):=by
 unfold t5 at h ⊢
 cases e1:(ff (pxR p) c.1).2<;>cases e2:(ff (pyR p) c.2.1).2<;>cases e3:(frF c.2.2).2<;>rw[e1,e2,e3]at h<;>try (cases h;done)
 have i1:=HR e1
 have i2:=HR e2
 revert h
 generalize ff (pxR p) c.1=X at*
 generalize ff (pyR p) c.2.1=Y at*
 intro h
 cases e4:(cH X.1 X.1).2<;>cases e5:(cH Y.1 Y.1).2<;>rw[e4,e5]at h<;>try (cases h;done)
 cases e6:(dJ (cH X.1 X.1).1 (cH Y.1 Y.1).1).2<;>rw[e6]at h<;>try (cases h;done)
 cases e7:(dJ (dJ (cH X.1 X.1).1 (cH Y.1 Y.1).1).1 (mA (frF c.2.2).1)).2<;>rw[e7]at h<;>try (cases h;done)
 exact E8 (jZ (jZ (ls i1 i1 e4) (ls i2 i2 e5) e6) (AM (ip e3)) e7) h
theorem ahZ(a b c d:RE):a+b+(c+d)=a+b+c+d:=by grind
theorem quF_ok{q:Qd}(hM:0≤q.2.2.2.2.1)(hN:0≤q.2.2.2.2.2)(h:(quF q).2=true):(quF q).1=sg (vQ q.1 q.2.1 q.2.2.1 q.2.2.2.1 q.2.2.2.2.1 q.2.2.2.2.2):=by
 unfold quF at h ⊢
 cases e1:qu1 q<;>rw[e1]at h<;>try (cases h;done)
 cases e2:qu2 q<;>rw[e2]at h<;>try (cases h;done)
 cases e3:qu3 q<;>rw[e3]at h<;>try (cases h;done)
 unfold qu1 at e1
 unfold qu2 at e2
 unfold qu3 at e3
 simp only[alJ]at e1 e2 e3
 obtain⟨⟨⟨a1,a2⟩,a3⟩,a4⟩:=e1
 obtain⟨⟨⟨⟨⟨⟨b1,b2⟩,b3⟩,b4⟩,b5⟩,b6⟩,b7⟩:=e2
 obtain⟨⟨⟨c1,c2⟩,c3⟩,c4⟩:=e3
 have i1:inI (sfF q.2.2.2.2.1) (rq q.2.2.2.2.1):=yv (ip a1) (jQ.2 hM) a2
 have i2:inI (sfF q.2.2.2.2.2) (rq q.2.2.2.2.2):=yv (ip a3) (jQ.2 hN) a4
 have hq:inI (dJ (quA q).1 (quB q).1).1 (vQ q.1 q.2.1 q.2.2.1 q.2.2.2.1 q.2.2.2.2.1 q.2.2.2.2.2):=by
  have:=jZ (jZ (ip c1) (ls (ip b1) i1 b2) c2) (jZ (ls (ip b3) i2 b4) (ls (ip b5) (ls i1 i2 b6) b7) c3) c4
  rw[ahZ]at this
  exact this
 exact E8 hq h
end RE
end Go.Proofs.YtnkndpoojnflmaaGreat
end
