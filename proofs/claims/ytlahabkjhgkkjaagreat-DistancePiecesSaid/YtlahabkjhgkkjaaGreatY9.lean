/- integer: DivMod, word. -/
import Derived.Test.YtlahabkjhgkkjaaGreatY8
noncomputable section
namespace Go.Proofs.YtlahabkjhgkkjaaGreat
open Go.RowKit Go.IntKind
theorem auZ:type_of% @Quotient.inductionOn:=@Quotient.inductionOn
theorem avC:type_of% @Rat.mul_nonneg:=@Rat.mul_nonneg
theorem awa:type_of% @Rat.num_divInt_den:=@Rat.num_divInt_den
theorem awb:type_of% @Rat.mul_pos:=@Rat.mul_pos
theorem awj:type_of% @Int.eq_ofNat_of_zero_le:=@Int.eq_ofNat_of_zero_le
theorem awp:type_of% @Int.natAbs_natCast:=@Int.natAbs_natCast
theorem awF:type_of% @decide_eq_decide:=@decide_eq_decide
theorem awP:type_of% @Int.lt_or_lt_of_ne:=@Int.lt_or_lt_of_ne
theorem aw2:type_of% @Nat.gcd_comm:=@Nat.gcd_comm
theorem axf:type_of% @Rat.intCast_natCast:=@Rat.intCast_natCast
theorem axj:type_of% @Rat.divInt_ofNat:=@Rat.divInt_ofNat
theorem axk:type_of% @Rat.intCast_le_intCast:=@Rat.intCast_le_intCast
theorem axp:type_of% @Rat.sub_eq_add_neg:=@Rat.sub_eq_add_neg
theorem axw:type_of% @Nat.mul_ne_zero:=@Nat.mul_ne_zero
theorem axx:type_of% @Int.mul_ne_zero:=@Int.mul_ne_zero
theorem axy:type_of% @Rat.divInt_mul_divInt:=@Rat.divInt_mul_divInt
theorem axz:type_of% @Quotient.inductionOn₂:=@Quotient.inductionOn₂
theorem axA:type_of% @Quotient.inductionOn₃:=@Quotient.inductionOn₃
theorem axH:type_of% @Quotient.sound:=@Quotient.sound
theorem axJ:type_of% @Rat.div_def:=@Rat.div_def
theorem axR:type_of% @Rat.num_mkRat:=@Rat.num_mkRat
theorem axS:type_of% @Rat.den_mkRat:=@Rat.den_mkRat
def eT(x y:BI):Prop:=okI x∧okI y∧0<ag y
instance (x y:BI):Decidable (eT x y):=by unfold eT;infer_instance
theorem LW{a b:Int}(_ha:0≤a)(hb:0<b):(a%b=0→ -a/b= -(a/b)∧ -a%b=0)∧(0<a%b→ -a/b= -(a/b)-1∧ -a%b= -(a%b)+b):=by
 have h1:=awe a (show b≠0 by omega)
 have h2:=avJ a hb
 have h3:=avS a b
 constructor
 ·intro h
  have e: -a=b* -(a/b):=by rw[axI];omega
  constructor
  ·rw[e,axc _ (by omega)]
  ·rw[e,Int.mul_emod_right]
 ·intro h
  have e: -a=(b-a%b)+b*(-(a/b)-1):=by rw[Int.mul_sub,axI,aw6];omega
  constructor
  ·rw[e,awN _ _ (by omega),awn (by omega) (by omega)];omega
  ·rw[e,awY,axb (by omega) (by omega)];omega
theorem nY:okI (aj 1):=by decide
theorem AK(n:Bool){v:Int}:szI (cp n v)=szI v:=by unfold cp;cases n<;>simp[ik]
theorem Kr(x y:BI)(h:eT x y):Con Tryz.prog 287 [.d y2Y x,.d y2Y y] [.d y2Y (aj (ag x/ag y)),.d y2Y (aj (ag x%ag y)),.d ax8 0]:=by
 refine aR NE (anM _ _ ⟨0,?_⟩)
 obtain⟨hx,hy,hp⟩:=h
 obtain⟨x0,x1,x2⟩:=cJ hx
 obtain⟨y0,y1,y2⟩:=cJ hy
 have sx:=hx.2.2
 have sy:=hy.2.2
 have ey:y.1=false:=by
  cases e:y.1
  ·rfl
  ·rw[bU,e]at hp
   simp only[cp,cond_true]at hp
   omega
 have dy:ag y=val y.2:=by rw[bU,ey];rfl
 rw[dy]at hp
 have hdv:mQ x.2 y.2:=⟨⟨hx.1.1,by omega⟩,⟨hy.1.1,by omega⟩,hp⟩
 obtain⟨lq,lr,sq,sr,vq,vr⟩:=agO hdv
 have hne:y.2≠[]:=fun e=>by rw[y2]at e;omega
 have hylen:=avO.2 hne
 have r0:=awe (val x.2) (show val y.2≠0 by omega)
 have r1:=avJ (val x.2) hp
 have q0:0≤val x.2/val y.2:=av9 x0 y0
 have q1:val x.2/val y.2≤val x.2:=awS _ x0
 have vx:=cj hx.1.1
 have vy:=cj hy.1.1
 have szq:szI (val x.2/val y.2)≤1000000:=eL (by have:=ck 1000000;omega) (by have:=db sx;omega)
 have szr:szI (val x.2%val y.2)≤1000000:=eL (by have:=ck 1000000;omega) (by have:=db sy;omega)
 unfold ahu
 simp only[aP]
 rw[show((y.2.length:Int)==0)=false by simp;omega,au1 hdv,au1 (show a9 (dvQ x.2 y.2) from⟨lq,by omega⟩),au1 (show a9 (dvR x.2 y.2) from⟨lr,by omega⟩),au1 (show bg 1 by decide),vq,vr,
  au1 (show okI (aj (cp (!(x.1==y.1)) (val x.2/val y.2)))∧okI (aj (1:Int)) from⟨bk (by rw[AK];exact szq),nY⟩),au1 (show okI (aj (cp x.1 (val x.2%val y.2)))∧okI y from⟨bk (by rw[AK];exact szr),hy⟩)]
 simp only[dec_enc,dy,au]
 have hE1:(aj (cp x.1 (val x.2%val y.2))).1=(x.1&&decide (0<val x.2%val y.2)):=by rw[kO x.1 r0]
 have hE2:(aj (cp x.1 (val x.2%val y.2))).2=ah (val x.2%val y.2).toNat:=by rw[kO x.1 r0]
 rw[hE1,hE2,bU x,ey]
 have hlen:(((ah (val x.2%val y.2).toNat).length:Int)>0)↔0<val x.2%val y.2:=by
  constructor
  ·intro hl
   rcases avA 0 (val x.2%val y.2)with h|h
   ·exact h
   ·rw[show(val x.2%val y.2).toNat=0 by omega,eU]at hl
    simp at hl
  ·intro hl
   have:ah (val x.2%val y.2).toNat≠[]:=fun e=>by rw[ge]at e;omega
   have:=avO.2 this
   omega
 obtain⟨n1,n2⟩:=LW (a:=val x.2) (b:=val y.2) x0 hp
 rcases avA 0 (val x.2%val y.2)with hr|hr
 ·rw[au1 (hlen.2 hr),au1 hr]
  cases x.1
  ·rfl
  ·obtain⟨e1,e2⟩:=n2 hr
   simp only[cp,cond_true,Bool.not_false,au5,show((true==false):Bool)=false from rfl]
   rw[e1,e2]
 ·rw[au3 (fun h'=>by have:=hlen.1 h';omega)]
  dsimp only
  have e0:val x.2%val y.2=0:=by omega
  cases x.1
  ·simp only[cp,cond_false,show((false==false):Bool)=true from rfl,Bool.not_true]
  ·obtain⟨e1,e2⟩:=n1 e0
   simp only[cp,cond_true,show((true==false):Bool)=false from rfl,Bool.not_false]
   rw[e1,e2,e0]
   rfl
def jh(x:BI):Bool:=decide (x.2.length≤2)
def yy(x:BI):Int:=bif jh x then val x.2 else 0
def apR:Ctx:=CX [] []
def afE(x:Bool×List Int)(_k:KT):Option (List RV):=match(x.2.length:Int)==0 with|true=>some [RV.d (.int .u64) 0,RV.d .bool true]|false=>(match(x.2.length:Int)==1 with|true=>(match bG x.2 0 with|some x1=>some [RV.d (.int .u64) (u64.wrap x1),RV.d .bool true]|none=>none)|false=>(match(x.2.length:Int)==2 with|true=>(match bG x.2 1 with|some x2=>(match bG x.2 0 with|some x3=>some [RV.d (.int .u64) (u64.wrap ((u64.wrap ((u64.wrap x2)*1000000000))+(u64.wrap x3))),RV.d .bool true]|none=>none)|none=>none)|false=>some [RV.d (.int .u64) 0,RV.d .bool false]))
theorem am7(x:Bool×List Int):RS apR 285 [.d y2Y x] (afE x):=rsX
theorem ad3(x:BI)(h:okI x):Con Tryz.prog 285 [.d y2Y x] [.d (.int .u64) (yy x),.d .bool (jh x)]:=by
 refine aR (E:=[]) trivial (am7 _ ⟨0,?_⟩)
 obtain⟨neg,l⟩:=x
 have hl:=h.1.1
 unfold afE yy jh
 match l,hl with
 |[],_=>rfl
 |[a],hl=>
  have:=hl.head
  simp only[avu,Aj,avP]
  rw[bO (x:=a) (by omega) (by omega)]
  simp[val]
 |[a,b],hl=>
  have h1:=hl.head
  have h2:=hl.tail.head
  have e1:bG [a,b] 1=some b:=rfl
  have e0:bG [a,b] 0=some a:=rfl
  simp only[e1,e0,avw,List.length_nil]
  rw[bO (x:=a) (by omega) (by omega),bO (x:=b) (by omega) (by omega),bO (x:=b*1000000000) (by omega) (by omega),bO (x:=b*1000000000+a) (by omega) (by omega)]
  rw[show val [a,b]=b*1000000000+a by simp only[val];omega]
  rfl
 |a::b::c::l,hl=>
  have e:decide ((a::b::c::l).length≤2)=false:=au3 (by simp)
  rw[e,show(((a::b::c::l).length:Int)==0)=false by simp;omega,show(((a::b::c::l).length:Int)==1)=false by simp;omega,show(((a::b::c::l).length:Int)==2)=false by simp;omega]
  rfl
def VI:aO:=spN false false [y2Y] (fun x=>decide (okI x.1)) (fun x=>[RV.d (.int .u64) (yy x.1),RV.d .bool (jh x.1)])
theorem YE:SpK 285 VI:=spX fun x h=>ad3 x.1 (au0 h)
def Yg:Env:=[(226,xX),(227,B6),(286,GY),(285,VI)]
theorem Nk:EnvAll Tryz.prog Yg:=⟨re,yf,DI,YE,trivial⟩
def akv:NT:=[((261,6),{keep:=[4,5,6],hl:=5}),((261,24),{keep:=[4,7,9],hl:=3})]
def gH:Ctx:=CX Yg akv
def kw(x y:Bool×List Int)(b3_0:Bool)(b3_1:List Int)(b4_0:Bool)(b4_1:List Int):Cfg:=⟨261,[.blk 0,.seq 40],[(4,.box 2 0),(5,.box 3 0),(6,.box 4 0)],[.box 33 [SB x.1,.d ax7 x.2],.box 33 [SB y.1,.d ax7 y.2],.box 33 [SB false,.nil],.box 33 [SB b3_0,.d ax7 b3_1],.box 33 [SB b4_0,.d ax7 b4_1]],0,[]⟩
def fS(x y:Bool×List Int)(b3_0:Bool)(b3_1:List Int)(b4_0:Bool)(b4_1:List Int):Cfg:=⟨261,[.blk 0,.seq 40],[(4,.box 2 0),(5,.box 4 0),(6,.box 3 0)],[.box 33 [SB x.1,.d ax7 x.2],.box 33 [SB y.1,.d ax7 y.2],.box 33 [SB false,.nil],.box 33 [SB b3_0,.d ax7 b3_1],.box 33 [SB b4_0,.d ax7 b4_1]],0,[]⟩
def ia(x y:Bool×List Int)(s7 s9:Int):Cfg:=⟨261,[.blk 2,.seq 33,.seq 37,.blk 1,.lp 6,.blk 0,.seq 40],[(4,.box 2 0),(7,.d (.int .u64) s7),(9,.d (.int .u64) s9)],[.box 33 [SB x.1,.d ax7 x.2],.box 33 [SB y.1,.d ax7 y.2],.box 33 [SB false,.nil]],0,[]⟩
def ahx(x y:Bool×List Int)(k:KT):Option (List RV):=let y1:=aj (cp false (val x.2));let y2:=aj (cp false (val y.2));let y3:=kw x y (y1.1) (y1.2) (y2.1) (y2.2);let y4:=fS x y (y2.1) (y2.2) (y1.1) (y1.2);let y5:Option (List RV):=match decide (a9 y.2)with|true=>k 6 y3|false=>none;let y6:Option (List RV):=match decide (a9 y.2)with|true=>k 6 y4|false=>none;cQ (match decide (a9 x.2)with|true=>cQ (match decide (a9 y.2)with|true=>cQ (k 6 y3) (k 6 y4)|false=>none) (cQ (dup (.b .l .l) y5) (dup (.b .l .l) y6))|false=>none) (cQ (cQ (match decide (a9 x.2)with|true=>dup (.b .l .l) y5|false=>none) (match decide (a9 x.2)with|true=>y5|false=>none)) (cQ (match decide (a9 x.2)with|true=>dup (.b .l .l) y6|false=>none) (match decide (a9 x.2)with|true=>y6|false=>none)))
theorem aqM(x y:Bool×List Int):RS gH 261 [.d y2Y x,.d y2Y y] (ahx x y):=rsX
def Qm(x y:Bool×List Int)(b3_0:Bool)(b3_1:List Int)(b4_0:Bool)(b4_1:List Int)(k:KT):Option (List RV):=match decide ((b4_1.length:Int)>0)with|true=>(match decide (okI (b3_0,b3_1))with|true=>(match decide (okI (b4_0,b4_1))with|true=>(match jh (b3_0,b3_1)with|true=>(match jh (b4_0,b4_1)with|true=>k 24 (ia x y (yy (b3_0,b3_1)) (yy (b4_0,b4_1)))|false=>(match decide (mQ b3_1 b4_1)with|true=>(match decide (a9 (dvR b3_1 b4_1))with|true=>k 6 (kw x y b4_0 b4_1 ((aj (cp false (val (dvR b3_1 b4_1)))).1) ((aj (cp false (val (dvR b3_1 b4_1)))).2))|false=>none)|false=>none))|false=>(match decide (mQ b3_1 b4_1)with|true=>(match decide (a9 (dvR b3_1 b4_1))with|true=>k 6 (kw x y b4_0 b4_1 ((aj (cp false (val (dvR b3_1 b4_1)))).1) ((aj (cp false (val (dvR b3_1 b4_1)))).2))|false=>none)|false=>none))|false=>none)|false=>none)|false=>(match decide (b3_1.length*4≤140737488355328∧b3_1.length≤140737488355328)with|true=>(match decide (a9 b3_1)with|true=>some [RV.d y2Y (aj (cp false (val b3_1)))]|false=>none)|false=>none)
theorem UX(x y:Bool×List Int)(b3_0:Bool)(b3_1:List Int)(b4_0:Bool)(b4_1:List Int):RL gH 6 (kw x y b3_0 b3_1 b4_0 b4_1) (Qm x y b3_0 b3_1 b4_0 b4_1):=rlX
def GE(x y:Bool×List Int)(b3_0:Bool)(b3_1:List Int)(b4_0:Bool)(b4_1:List Int)(k:KT):Option (List RV):=match decide ((b3_1.length:Int)>0)with|true=>(match decide (okI (b4_0,b4_1))with|true=>(match decide (okI (b3_0,b3_1))with|true=>(match jh (b4_0,b4_1)with|true=>(match jh (b3_0,b3_1)with|true=>k 24 (ia x y (yy (b4_0,b4_1)) (yy (b3_0,b3_1)))|false=>(match decide (mQ b4_1 b3_1)with|true=>(match decide (a9 (dvR b4_1 b3_1))with|true=>k 6 (fS x y ((aj (cp false (val (dvR b4_1 b3_1)))).1) ((aj (cp false (val (dvR b4_1 b3_1)))).2) b3_0 b3_1)|false=>none)|false=>none))|false=>(match decide (mQ b4_1 b3_1)with|true=>(match decide (a9 (dvR b4_1 b3_1))with|true=>k 6 (fS x y ((aj (cp false (val (dvR b4_1 b3_1)))).1) ((aj (cp false (val (dvR b4_1 b3_1)))).2) b3_0 b3_1)|false=>none)|false=>none))|false=>none)|false=>none)|false=>(match decide (b4_1.length*4≤140737488355328∧b4_1.length≤140737488355328)with|true=>(match decide (a9 b4_1)with|true=>some [RV.d y2Y (aj (cp false (val b4_1)))]|false=>none)|false=>none)
theorem IU(x y:Bool×List Int)(b3_0:Bool)(b3_1:List Int)(b4_0:Bool)(b4_1:List Int):RL gH 6 (fS x y b3_0 b3_1 b4_0 b4_1) (GE x y b3_0 b3_1 b4_0 b4_1):=rlX
def sS(x y:Bool×List Int)(s7 s9:Int)(k:KT):Option (List RV):=match decide (s9>0)with|true=>(match decide (s9=(0:Int))with|true=>none|false=>k 24 (ia x y s9 (Int.tmod s7 s9)))|false=>(match decide (fX s7)with|true=>(match decide (a9 (dig 3 s7))with|true=>some [RV.d y2Y (aj (cp false (val (dig 3 s7))))]|false=>none)|false=>none)
theorem zA(x y:Bool×List Int)(s7 s9:Int):RL gH 24 (ia x y s7 s9) (sS x y s7 s9):=rlX
theorem TO(x y:BI)(B:Nat)(hB:(B:Int)<18446744073709551616):∀(v u:Nat),u≤B→v≤B→gH.RunsE 24 (ia x y (u:Int) (v:Int)) [.d y2Y (aj ((Nat.gcd u v:Nat):Int))]:=by
 intro v
 induction v using Nat.strongRecOn with
 |ind v ih=>
  intro u hu hv
  rcases avN v with h0|h0
  ·refine zA _ _ _ _ ⟨0,fun n _=>?_⟩
   have hp:fX (u:Int):=⟨by omega,by omega⟩
   unfold sS
   rw[au3 (show ¬(v:Int)>0 by omega),au1 hp,au1 (iu (n:=3) (by decide) (u:Int)),xx hp,show Nat.gcd u v=u by rw[h0];exact Nat.gcd_zero_right u]
   rfl
  ·obtain⟨n0,hn⟩:=ih (u%v) (axK _ h0) v hv (avm (Nat.le_of_lt (axK _ h0)) hv)
   refine zA _ _ _ _ ⟨n0,fun n hn'=>?_⟩
   unfold sS
   rw[au1 (by omega),au3 (by omega),ir (by omega)]
   dsimp only
   rw[show((u:Int)%(v:Int))=((u%v:Nat):Int) by simp,aw2 u v,Nat.gcd_rec v u,aw2]
   exact hn n hn'
theorem yW(v:Int):cp false v=v:=rfl
theorem ic(u:Nat):aj (u:Int)=(false,ah u):=by unfold aj;rw[au3 (by omega),awp]
theorem Ah{u:Nat}(h:(ah u).length≤2):u≤(pw 2).toNat:=by
 have h1:=cj (co u)
 rw[bL]at h1
 have h2:=db h
 omega
theorem am3:(((pw 2).toNat:Nat):Int)<18446744073709551616:=by
 have h3:pw 2=1000000000000000000:=by decide
 rw[h3]
 decide
theorem E4{k:Nat→Cfg→Option (List RV)}{u v:Nat}(hu:szI u≤1000000)(hv:szI v≤1000000){r:List RV}{H:Int→Int→Cfg}{D:Int→Cfg}
  (h1:v=0→r=[.d y2Y (aj (u:Int))]) (h2:v≠0→jh (aj (u:Int))=true→jh (aj (v:Int))=true→k 24 (H (u:Int) (v:Int))=some r) (h3:v≠0→k 6 (D ((u%v:Nat):Int))=some r) (D':List Int→Cfg) (hD:D' (dvR (ah u) (ah v))=D (val (dvR (ah u) (ah v)))):
  (match decide (((ah v).length:Int)>0)with
   |true=>(match decide (okI (aj (u:Int)))with
    |true=>(match decide (okI (aj (v:Int)))with
     |true=>(match jh (aj (u:Int))with
      |true=>(match jh (aj (v:Int))with
       |true=>k 24 (H (yy (aj (u:Int))) (yy (aj (v:Int))))
       |false=>(match decide (mQ (ah u) (ah v))with
        |true=>(match decide (a9 (dvR (ah u) (ah v)))with
         |true=>k 6 (D' (dvR (ah u) (ah v)))
         |false=>none)
        |false=>none))
      |false=>(match decide (mQ (ah u) (ah v))with
        |true=>(match decide (a9 (dvR (ah u) (ah v)))with
         |true=>k 6 (D' (dvR (ah u) (ah v)))
         |false=>none)
        |false=>none))
     |false=>none)
    |false=>none)
   |false=>(match decide ((ah u).length*4≤140737488355328∧(ah u).length≤140737488355328)with
    |true=>(match decide (a9 (ah u))with
     |true=>some [.d y2Y (aj (cp false (val (ah u))))]
     |false=>none)
    |false=>none))=some r:=by
 have lu:(ah u).length≤1000000:=by have:=hu;unfold szI at this;rwa [awp]at this
 have lv:(ah v).length≤1000000:=by have:=hv;unfold szI at this;rwa [awp]at this
 rcases avN v with h0|h0
 ·subst h0
  rw[h1 rfl,show decide (((ah 0).length:Int)>0)=false from rfl,au1 (show(ah u).length*4≤140737488355328∧(ah u).length≤140737488355328 by omega),au1 (show a9 (ah u) from⟨co u,by omega⟩),bL]
  rfl
 ·have hne:ah v≠[]:=fun e=>by rw[ge]at e;omega
  have hl:=avO.2 hne
  have hvv:=bL v
  have hvu:=bL u
  have hdv:mQ (ah u) (ah v):=⟨⟨co u,by omega⟩,⟨co v,by omega⟩,by omega⟩
  obtain⟨_,lr,_,sr,_,vr⟩:=agO hdv
  have hD2:k 6 (D' (dvR (ah u) (ah v)))=some r:=by
   rw[hD,vr,hvv,hvu]
   exact h3 (by omega)
  rw[au1 (by omega),au1 (bk hu),au1 (bk hv),au1 hdv,au1 (show a9 (dvR (ah u) (ah v)) from⟨lr,by omega⟩)]
  dsimp only
  cases hb1:jh (aj (u:Int))
  ·exact hD2
  ·cases hb2:jh (aj (v:Int))
   ·exact hD2
   ·dsimp only
    have:=h2 (by omega) hb1 hb2
    unfold yy
    rw[hb1,hb2]
    simp only[cond_true,ic]
    rw[hvv,hvu]
    exact this
theorem To(x y:BI):∀(v u:Nat),szI u≤1000000→szI v≤1000000→
  gH.RunsE 6 (kw x y false (ah u) false (ah v)) [.d y2Y (aj ((Nat.gcd u v:Nat):Int))]∧gH.RunsE 6 (fS x y false (ah v) false (ah u)) [.d y2Y (aj ((Nat.gcd u v:Nat):Int))]:=by
 intro v
 induction v using Nat.strongRecOn with
 |ind v ih=>
  intro u hu hv
  have hw:jh (aj (u:Int))=true→jh (aj (v:Int))=true→gH.RunsE 24 (ia x y (u:Int) (v:Int)) [.d y2Y (aj ((Nat.gcd u v:Nat):Int))]:=fun h1 h2=>by
   unfold jh at h1 h2
   rw[ic]at h1 h2
   exact TO x y _ am3 v u (Ah (au0 h1)) (Ah (au0 h2))
  have hd:v≠0→gH.RunsE 6 (kw x y false (ah v) false (ah (u%v))) [.d y2Y (aj ((Nat.gcd u v:Nat):Int))]∧gH.RunsE 6 (fS x y false (ah (u%v)) false (ah v)) [.d y2Y (aj ((Nat.gcd u v:Nat):Int))]:=fun h0=>by
   have hm:=axK u (Nat.pos_of_ne_zero h0)
   have:=ih (u%v) hm v hv (avm (dq (by omega)) hv)
   rw[aw2 u v,Nat.gcd_rec v u,aw2 (u%v) v]
   exact this
  have hcommon:∃n0,∀n,n0≤n→(jh (aj (u:Int))=true→jh (aj (v:Int))=true→gH.k n 24 (ia x y (u:Int) (v:Int))=some [.d y2Y (aj ((Nat.gcd u v:Nat):Int))])∧(v≠0→gH.k n 6 (kw x y false (ah v) false (ah (u%v)))=some [.d y2Y (aj ((Nat.gcd u v:Nat):Int))]∧gH.k n 6 (fS x y false (ah (u%v)) false (ah v))=some [.d y2Y (aj ((Nat.gcd u v:Nat):Int))]):=by
   have g1:∃n1,∀n,n1≤n→(jh (aj (u:Int))=true→jh (aj (v:Int))=true→gH.k n 24 (ia x y (u:Int) (v:Int))=some [.d y2Y (aj ((Nat.gcd u v:Nat):Int))]):=by
    by_cases hb:jh (aj (u:Int))=true∧jh (aj (v:Int))=true
    ·obtain⟨n,h⟩:=hw hb.1 hb.2
     exact⟨n,fun m hm _ _=>h m hm⟩
    ·exact⟨0,fun n _ h1 h2=>absurd ⟨h1,h2⟩ hb⟩
   have g2:∃n1,∀n,n1≤n→(v≠0→gH.k n 6 (kw x y false (ah v) false (ah (u%v)))=some [.d y2Y (aj ((Nat.gcd u v:Nat):Int))]∧gH.k n 6 (fS x y false (ah (u%v)) false (ah v))=some [.d y2Y (aj ((Nat.gcd u v:Nat):Int))]):=by
    by_cases hb:v=0
    ·exact⟨0,fun n _ h=>absurd hb h⟩
    ·obtain⟨⟨n1,h1⟩,⟨n2,h2⟩⟩:=hd hb
     exact⟨max n1 n2,fun n hn _=>⟨h1 n (by omega),h2 n (by omega)⟩⟩
   obtain⟨n1,h1⟩:=g1
   obtain⟨n2,h2⟩:=g2
   exact⟨max n1 n2,fun n hn=>⟨h1 n (by omega),h2 n (by omega)⟩⟩
  obtain⟨n0,hc⟩:=hcommon
  have hz:v=0→([.d y2Y (aj ((Nat.gcd u v:Nat):Int))]:List RV)=[.d y2Y (aj (u:Int))]:=fun e=>by subst e;rw[Nat.gcd_zero_right]
  constructor
  ·refine UX _ _ _ _ _ _ ⟨n0,fun n hn=>?_⟩
   have:=E4 (k:=gH.k n) hu hv (H:=fun a b=>ia x y a b) (D:=fun z=>kw x y false (ah v) (aj z).1 (aj z).2) hz (fun _ h1 h2=>(hc n hn).1 h1 h2) (fun h0=>by rw[ic];exact((hc n hn).2 h0).1) (fun l=>kw x y false (ah v) (aj (cp false (val l))).1 (aj (cp false (val l))).2) rfl
   rw[ic,ic]at this
   exact this
  ·refine IU _ _ _ _ _ _ ⟨n0,fun n hn=>?_⟩
   have:=E4 (k:=gH.k n) hu hv (H:=fun a b=>ia x y a b) (D:=fun z=>fS x y (aj z).1 (aj z).2 false (ah v)) hz (fun _ h1 h2=>(hc n hn).1 h1 h2) (fun h0=>by rw[ic];exact((hc n hn).2 h0).2) (fun l=>fS x y (aj (cp false (val l))).1 (aj (cp false (val l))).2 false (ah v)) rfl
   rw[ic,ic]at this
   exact this
theorem adb(x y:BI)(h:okI x∧okI y):Con Tryz.prog 261 [.d y2Y x,.d y2Y y] [.d y2Y (aj ((Int.gcd (ag x) (ag y):Nat):Int))]:=by
 refine aR Nk (show gH.Res _ _ _ from ?_)
 obtain⟨hx,hy⟩:=h
 obtain⟨x0,_,_⟩:=cJ hx
 obtain⟨y0,_,_⟩:=cJ hy
 have ex:((ag x).natAbs:Int)=val x.2:=by rw[bU];unfold cp;cases x.1<;>simp<;>omega
 have ey:((ag y).natAbs:Int)=val y.2:=by rw[bU];unfold cp;cases y.1<;>simp<;>omega
 have szx:szI ((ag x).natAbs:Int)≤1000000:=avm (dq (by omega)) (gZ hx)
 have szy:szI ((ag y).natAbs:Int)≤1000000:=avm (dq (by omega)) (gZ hy)
 obtain⟨⟨n1,h1⟩,⟨n2,h2⟩⟩:=To x y (ag y).natAbs (ag x).natAbs szx szy
 refine aqM _ _ ⟨max n1 n2,?_⟩
 have h1:=h1 (max n1 n2) (by omega)
 have h2:=h2 (max n1 n2) (by omega)
 unfold ahx
 simp only[aP]
 rw[au1 (fx hx),au1 (fx hy),yW,yW,←ex,←ey,ic,ic]
 dsimp only
 rw[h1,h2]
 simp only[au]
 rfl
abbrev BR:=BI×BI
def ai(q:Rat):BR:=(aj q.num,aj (q.den:Int))
def ae(x:BR):Rat:=mkRat (ag x.1) (ag x.2).toNat
theorem az(q:Rat):ae (ai q)=q:=by
 unfold ae ai
 dsimp only
 rw[dec_enc,dec_enc,awA,Rat.mkRat_self]
def okR(x:BR):Prop:=okI x.1∧okI x.2∧0<ag x.2∧Int.gcd (ag x.1) (ag x.2)=1∧x.1.2.length≤480000∧x.2.2.length≤480000
instance (x:BR):Decidable (okR x):=by unfold okR;infer_instance
theorem cV{x:BR}(h:okR x):(ae x).num=ag x.1∧((ae x).den:Int)=ag x.2:=by
 obtain⟨h1,h2,h3,h4,_⟩:=h
 unfold ae
 rw[axR,axS]
 have hg:(ag x.2).toNat.gcd (ag x.1).natAbs=1:=by
  rw[aw2,show(ag x.2).toNat=(ag x.2).natAbs by omega]
  exact h4
 rw[hg,avn (by omega),avn (by omega)]
 constructor
 ·simp
 ·rw[Nat.div_one];omega
theorem Up{x:BR}(h:okR x):x=ai (ae x):=by
 obtain⟨e1,e2⟩:=cV h
 unfold ai
 rw[e1,e2,←gu h.1,←gu h.2.1]
def bdR(k:Nat)(q:Rat):Prop:=szI q.num≤k∧szI (q.den:Int)≤k
theorem nT{q:Rat}{k:Nat}(h:bdR k q)(hk:k≤480000):okR (ai q):=by
 obtain⟨h1,h2⟩:=h
 have hd:=q.den_pos
 refine⟨bk (by omega),bk (by omega),?_,?_,by show szI q.num≤480000;omega,by show szI (q.den:Int)≤480000;omega⟩
 ·show 0<ag (aj (q.den:Int))
  rw[dec_enc];omega
 ·show Int.gcd (ag (aj q.num)) (ag (aj (q.den:Int)))=1
  rw[dec_enc,dec_enc]
  exact q.reduced
theorem Cz{x:BR}(h:okR x):bdR 480000 (ae x):=by
 obtain⟨e1,e2⟩:=cV h
 obtain⟨h1,h2,_,_,h5,h6⟩:=h
 unfold bdR szI
 rw[e1,e2]
 rw[gu h1]at h5
 rw[gu h2]at h6
 exact⟨h5,h6⟩
theorem bW{j k:Nat}{q:Rat}(h:bdR j q)(hk:j≤k):bdR k q:=⟨avm h.1 hk,avm h.2 hk⟩
theorem KU(a:Int)(g:Nat):(a/(g:Int)).natAbs≤a.natAbs∨¬(g:Int)∣a:=by
 by_cases h:(g:Int)∣a
 ·left
  obtain⟨k,rfl⟩:=h
  rcases avN g with h0|h0
  ·subst h0;simp
  ·rw[axc _ (by omega),axG]
   exact Nat.le_mul_of_pos_left _ (by omega)
 ·exact .inr h
theorem tX{n:Int}{d k:Nat}(hd:d≠0)(h1:szI n≤k)(h2:szI (d:Int)≤k):bdR k (mkRat n d):=by
 unfold bdR
 rw[axR,axS,avn hd,avn hd]
 constructor
 ·refine avm (dq ?_) h1
  refine(KU n (d.gcd n.natAbs)).resolve_right (fun h=>h ?_)
  have:=Nat.gcd_dvd_right d n.natAbs
  exact Int.ofNat_dvd_left.2 this
 ·exact avm (dq (by rw[awp,awp];exact Nat.div_le_self _ _)) h2
theorem uH{k:Nat}{a:Rat}(h:bdR k a):bdR k (-a):=by
 refine⟨?_,h.2⟩
 rw[Rat.neg_num,ik]
 exact h.1
theorem BZ{j k:Nat}{a b:Rat}(ha:bdR j a)(hb:bdR k b):bdR (j+k+1) (a+b):=by
 rw[Rat.add_def']
 have d1:=a.den_pos
 have d2:=b.den_pos
 refine tX (axw (by omega) (by omega)) (uM (cU ha.1 hb.2) ?_) ?_
 ·rw[Nat.add_comm];exact cU hb.1 ha.2
 ·rw[aws];exact avm (cU ha.2 hb.2) (by omega)
theorem abZ{j k:Nat}{a b:Rat}(ha:bdR j a)(hb:bdR k b):bdR (j+k+1) (a-b):=by
 rw[axp];exact BZ ha (uH hb)
theorem AO{j k:Nat}{a b:Rat}(ha:bdR j a)(hb:bdR k b):bdR (j+k) (a*b):=by
 rw[Rat.mul_def']
 have d1:=a.den_pos
 have d2:=b.den_pos
 refine tX (axw (by omega) (by omega)) (cU ha.1 hb.1) ?_
 rw[aws]
 exact cU ha.2 hb.2
theorem aaw{k:Nat}{a:Rat}(h:bdR k a)(h0:a≠0):bdR k a⁻¹:=by
 have hn:a.num≠0:=fun e=>h0 (Rat.num_eq_zero.1 e)
 rw[Rat.inv_def]
 rcases awP hn with h1|h1
 ·rw[←Rat.neg_divInt_neg,show-a.num=(((-a.num).toNat:Nat):Int) by omega,axj]
  refine tX (by omega) (by rw[ik];exact h.2) ?_
  rw[show(((-a.num).toNat:Nat):Int)= -a.num by omega,ik]
  exact h.1
 ·rw[show a.num=((a.num.toNat:Nat):Int) by omega,axj]
  refine tX (by omega) h.2 ?_
  rw[show((a.num.toNat:Nat):Int)=a.num by omega]
  exact h.1
theorem adU{j k:Nat}{a b:Rat}(ha:bdR j a)(hb:bdR k b)(h0:b≠0):bdR (j+k) (a/b):=by
 rw[axJ];exact AO ha (aaw hb h0)
def eD(x y:BI):BR:=ai (Rat.divInt (ag x) (ag y))
def gM(x y:BI):Prop:=okI x∧okI y∧ag y≠0
instance (x y:BI):Decidable (gM x y):=by unfold gM;infer_instance
theorem lT{n d:Int}(hd:0<d):ai (Rat.divInt n d)=(aj (n/(Int.gcd n d:Int)),aj (d/(Int.gcd n d:Int))):=by
 obtain⟨D,rfl⟩:=awj (avH hd)
 unfold ai
 rw[axj,axR,axS,avn (by omega),avn (by omega)]
 have e:Int.gcd n (D:Int)=D.gcd n.natAbs:=by rw[aw2];rfl
 rw[e,Int.natCast_ediv]
def uk:aO:=spN true false [y2Y] (fun x=>decide (okI x.1)) (fun x=>[RV.d ax8 (ct (ag x.1) 0)])
theorem mz:SpK 168 uk:=spX fun x h=>aaS x.1 (au0 h)
def qd:aO:=spN true false [y2Y,y2Y] (fun x=>decide (okI x.1∧okI x.2.1)) (fun x=>[RV.d ax8 (ct (ag x.1) (ag x.2.1))])
theorem kH:SpK 183 qd:=spX fun x h=>JA x.1 x.2.1 (au0 h)
def tu:aO:=spN false false [y2Y] (fun x=>decide (okI x.1)) (fun x=>[RV.d y2Y (aj (-ag x.1))])
theorem mZ:SpK 254 tu:=spX fun x h=>KK x.1 (au0 h)
def sG:aO:=spN false false [y2Y,y2Y] (fun x=>decide (okI x.1∧okI x.2.1)) (fun x=>[RV.d y2Y (aj (ag x.1*ag x.2.1))])
theorem mO:SpK 184 sG:=spX fun x h=>Lj x.1 x.2.1 (au0 h)
def BF:aO:=spN false false [y2Y,y2Y] (fun x=>decide (eT x.1 x.2.1)) (fun x=>[RV.d y2Y (aj (ag x.1/ag x.2.1)),RV.d y2Y (aj (ag x.1%ag x.2.1)),RV.d ax8 0])
theorem wY:SpK 287 BF:=spX fun x h=>Kr x.1 x.2.1 (au0 h)
def Hw:aO:=spN false false [y2Y,y2Y] (fun x=>decide (okI x.1∧okI x.2.1)) (fun x=>[RV.d y2Y (aj ((Int.gcd (ag x.1) (ag x.2.1):Nat):Int))])
theorem Eu:SpK 261 Hw:=spX fun x h=>adb x.1 x.2.1 (au0 h)
def G3:Env:=[(160,nR),(168,uk),(183,qd),(222,nF),(254,tu),(184,sG),(287,BF),(261,Hw)]
theorem zx:EnvAll Tryz.prog G3:=⟨jv,mz,kH,jC,mZ,mO,wY,Eu,trivial⟩
def aq5:Ctx:=CX G3 []
def aeS(_k:KT):Option (List RV):=match decide (bg (1:Int))with|true=>some [RV.d y2Y (aj (1:Int))]|false=>none
theorem as8:RS aq5 225 [] (aeS):=rsX
def anV:Ctx:=CX G3 []
def aho(x y:Bool×List Int)(_k:KT):Option (List RV):=match decide (eT x y)with|true=>some [RV.d y2Y (aj (ag x/ag y))]|false=>none
theorem apQ(x y:Bool×List Int):RS anV 262 [.d y2Y x,.d y2Y y] (aho x y):=rsX
theorem aev:Con Tryz.prog 225 [] [.d y2Y (aj 1)]:=by
 refine aR zx (as8 ⟨0,?_⟩)
 unfold aeS
 rw[au1 (show bg 1 by decide)]
theorem abC(x y:BI)(h:eT x y):Con Tryz.prog 262 [.d y2Y x,.d y2Y y] [.d y2Y (aj (ag x/ag y))]:=by
 refine aR zx (apQ _ _ ⟨0,?_⟩)
 unfold aho
 rw[au1 h]
def wq:aO:=spN false false [] (fun _=>true) (fun _=>[RV.d y2Y (aj 1)])
theorem qE:SpK 225 wq:=spX fun _ _=>aev
def UD:aO:=spN false false [y2Y,y2Y] (fun x=>decide (eT x.1 x.2.1)) (fun x=>[RV.d y2Y (aj (ag x.1/ag x.2.1))])
theorem VL:SpK 262 UD:=spX fun x h=>abC x.1 x.2.1 (au0 h)
def Uz:Env:=[(160,nR),(168,uk),(183,qd),(222,nF),(254,tu),(184,sG),(287,BF),(261,Hw),(225,wq),(262,UD)]
theorem Nx:EnvAll Tryz.prog Uz:=⟨jv,mz,kH,jC,mZ,mO,wY,Eu,qE,VL,trivial⟩
def apN:Ctx:=CX Uz []
def ahr(x y:Bool×List Int)(_k:KT):Option (List RV):=match decide (okI y)with|true=>(match decide ((ct (ag y) 0)<0)with|true=>(match decide (okI x)with|true=>(match decide (okI y)with|true=>(match decide (okI (aj (-ag x))∧okI (aj (-ag y)))with|true=>(match decide (okI (aj ((Int.gcd (ag (aj (-ag x))) (ag (aj (-ag y))):Nat):Int))∧okI (aj 1))with|true=>(match(ct (ag (aj ((Int.gcd (ag (aj (-ag x))) (ag (aj (-ag y))):Nat):Int))) (ag (aj 1))) !=0 with|true=>(match decide (eT (aj (-ag x)) (aj ((Int.gcd (ag (aj (-ag x))) (ag (aj (-ag y))):Nat):Int)))with|true=>(match decide (eT (aj (-ag y)) (aj ((Int.gcd (ag (aj (-ag x))) (ag (aj (-ag y))):Nat):Int)))with|true=>some [RV.d (.st (.pair y2Y y2Y)) ((aj (ag (aj (-ag x))/ag (aj ((Int.gcd (ag (aj (-ag x))) (ag (aj (-ag y))):Nat):Int)))),(aj (ag (aj (-ag y))/ag (aj ((Int.gcd (ag (aj (-ag x))) (ag (aj (-ag y))):Nat):Int)))))]|false=>none)|false=>none)|false=>some [RV.d (.st (.pair y2Y y2Y)) ((aj (-ag x)),(aj (-ag y)))])|false=>none)|false=>none)|false=>none)|false=>none)|false=>(match decide (okI x∧okI y)with|true=>(match decide (okI (aj ((Int.gcd (ag x) (ag y):Nat):Int))∧okI (aj 1))with|true=>(match(ct (ag (aj ((Int.gcd (ag x) (ag y):Nat):Int))) (ag (aj 1))) !=0 with|true=>(match decide (eT x (aj ((Int.gcd (ag x) (ag y):Nat):Int)))with|true=>(match decide (eT y (aj ((Int.gcd (ag x) (ag y):Nat):Int)))with|true=>some [RV.d (.st (.pair y2Y y2Y)) ((aj (ag x/ag (aj ((Int.gcd (ag x) (ag y):Nat):Int)))),(aj (ag y/ag (aj ((Int.gcd (ag x) (ag y):Nat):Int)))))]|false=>none)|false=>none)|false=>some [RV.d (.st (.pair y2Y y2Y)) (x,y)])|false=>none)|false=>none))|false=>none
theorem aqF(x y:Bool×List Int):RS apN 221 [.d y2Y x,.d y2Y y] (ahr x y):=rsX
theorem Uf{a b:Int}(hb:b≠0){k:Nat}(h:szI b≤k):szI ((Int.gcd a b:Nat):Int)≤k:=by
 refine avm (dq ?_) h
 rw[awp]
 exact Nat.le_of_dvd (by omega) (Nat.gcd_dvd_right a.natAbs b.natAbs)
theorem ad1(x y:BI)(h:gM x y):Con Tryz.prog 221 [.d y2Y x,.d y2Y y] [.d (.st (.pair y2Y y2Y)) (eD x y)]:=by
 refine aR Nx (aqF _ _ ⟨0,?_⟩)
 obtain⟨hx,hy,hne⟩:=h
 have sx:=gZ hx
 have sy:=gZ hy
 have hgp:0<Int.gcd (ag x) (ag y):=Nat.pos_of_ne_zero fun e=>hne (Int.gcd_eq_zero_iff.1 e).2
 have hgs:=Uf (a:=ag x) hne sy
 unfold ahr eD
 rw[au1 hy]
 dsimp only
 rcases awP hne with hn|hn
 ·rw[cX hn,au1 (show(-1:Int)<0 by decide),au1 hx]
  have o1:okI (aj (-ag x)):=bk (by rw[ik];exact sx)
  have o2:okI (aj (-ag y)):=bk (by rw[ik];exact sy)
  simp only[dec_enc,Int.gcd_neg,Int.neg_gcd]
  have og:okI (aj ((Int.gcd (ag x) (ag y):Nat):Int)):=bk hgs
  rw[au1 (show okI (aj (-ag x))∧okI (aj (-ag y)) from⟨o1,o2⟩),au1 (show okI (aj ((Int.gcd (ag x) (ag y):Nat):Int))∧okI (aj 1) from⟨og,nY⟩)]
  rw[←Rat.neg_divInt_neg,lT (by omega),Int.gcd_neg,Int.neg_gcd]
  dsimp only
  by_cases h1:Int.gcd (ag x) (ag y)=1
  ·rw[h1]
   simp[dG]
  ·have hc:(ct ((Int.gcd (ag x) (ag y):Nat):Int) 1 !=0)=true:=by
    rw[cS (by omega)];rfl
   rw[hc,au1 (show eT (aj (-ag x)) (aj ((Int.gcd (ag x) (ag y):Nat):Int)) from⟨o1,og,by rw[dec_enc];omega⟩),au1 (show eT (aj (-ag y)) (aj ((Int.gcd (ag x) (ag y):Nat):Int)) from⟨o2,og,by rw[dec_enc];omega⟩)]
 ·rw[cS hn,au3 (show ¬(1:Int)<0 by decide)]
  simp only[dec_enc]
  have og:okI (aj ((Int.gcd (ag x) (ag y):Nat):Int)):=bk hgs
  rw[au1 (show okI x∧okI y from⟨hx,hy⟩),au1 (show okI (aj ((Int.gcd (ag x) (ag y):Nat):Int))∧okI (aj 1) from⟨og,nY⟩),lT hn]
  dsimp only
  by_cases h1:Int.gcd (ag x) (ag y)=1
  ·rw[h1]
   simp only[Int.natCast_one,dG,Int.ediv_one,←gu hx,←gu hy]
   rfl
  ·have hc:(ct ((Int.gcd (ag x) (ag y):Nat):Int) 1 !=0)=true:=by
    rw[cS (by omega)];rfl
   rw[hc,au1 (show eT x (aj ((Int.gcd (ag x) (ag y):Nat):Int)) from⟨hx,og,by rw[dec_enc];omega⟩),au1 (show eT y (aj ((Int.gcd (ag x) (ag y):Nat):Int)) from⟨hy,og,by rw[dec_enc];omega⟩)]
def aV(a b:Rat):Int:=bif decide (a<b)then-1 else bif decide (b<a)then 1 else 0
theorem dh{a b:Rat}(h:a<b):aV a b= -1:=by unfold aV;rw[au1 h];rfl
theorem c9{a b:Rat}(h:b<a):aV a b=1:=by unfold aV;rw[au3 (by grind),au1 h];rfl
theorem dN(a:Rat):aV a a=0:=by unfold aV;rw[au3 (by grind)];rfl
theorem xz(a b:Rat):ct (a.num*(b.den:Int)) (b.num*(a.den:Int))=aV a b:=by
 unfold ct aV
 rw[show decide (a.num*(b.den:Int)<b.num*(a.den:Int))=decide (a<b) from awF.2 (Rat.lt_iff a b).symm,show decide (b.num*(a.den:Int)<a.num*(b.den:Int))=decide (b<a) from awF.2 (Rat.lt_iff b a).symm]
theorem sE(a:Rat):ct a.num 0=aV a 0:=by
 rw[←xz]
 simp
def BO:aO:=spN false false [y2Y,y2Y] (fun x=>decide (gM x.1 x.2.1)) (fun x=>[RV.d (.st (.pair y2Y y2Y)) (eD x.1 x.2.1)])
theorem wb:SpK 221 BO:=spX fun x h=>ad1 x.1 x.2.1 (au0 h)
def al0:NT:=[((182,3),{keep:=[0,1,8],hl:=0}),((182,5),{keep:=[0,1,5,10],hl:=0})]
def apP:Ctx:=CX [] al0
def afg(x y:Int)(_k:KT):Option (List RV):=match x !=x with|true=>(match y !=y with|true=>some [RV.d ax8 0]|false=>some [RV.d ax8 (-1)])|false=>(match y !=y with|true=>some [RV.d ax8 1]|false=>(match decide (x<y)with|true=>some [RV.d ax8 (-1)]|false=>(match decide (x>y)with|true=>some [RV.d ax8 1]|false=>some [RV.d ax8 0])))
theorem aq6(x y:Int):RS apP 182 [SI x,SI y] (afg x y):=rsX
theorem acC(x y:Int):Con Tryz.prog 182 [.d ax8 x,.d ax8 y] [.d ax8 (ct x y)]:=by
 refine aR (E:=[]) trivial (aq6 _ _ ⟨0,?_⟩)
 unfold afg
 rw[show(x !=x)=false by simp,show(y !=y)=false by simp]
 dsimp only
 rcases awV x y with h|h|h
 ·rw[cX h,au1 h]
 ·subst h;rw[dG,au3 (show ¬x<x by omega)]
 ·rw[cS h,au3 (show ¬x<y by omega),au1 (show x>y from h)]
def BB:aO:=spN true false [ax8,ax8] (fun _=>true) (fun x=>[RV.d ax8 (ct x.1 x.2.1)])
theorem xk:SpK 182 BB:=spX fun x _=>acC x.1 x.2.1
def H7:Env:=[(160,nR),(168,uk),(183,qd),(222,nF),(254,tu),(184,sG),(225,wq),(221,BO),(182,BB)]
theorem yQ:EnvAll Tryz.prog H7:=⟨jv,mz,kH,jC,mZ,mO,qE,wb,xk,trivial⟩
def aqW:Ctx:=CX H7 []
def arp(x:Bool×List Int)(_k:KT):Option (List RV):=some [RV.d (.st (.pair y2Y y2Y)) (x,(aj 1))]
theorem aq4(x:Bool×List Int):RS aqW 159 [.d y2Y x] (arp x):=rsX
theorem acZ(x:BI):Con Tryz.prog 159 [.d y2Y x] [.d (.st (.pair y2Y y2Y)) (x,aj 1)]:=
 aR yQ (aq4 _ ⟨0,rfl⟩)
def GH:aO:=spN false false [y2Y] (fun _=>true) (fun x=>[RV.d (.st (.pair y2Y y2Y)) (x.1,aj 1)])
theorem EB:SpK 159 GH:=spX fun x _=>acZ x.1
def aoP:Ctx:=CX H7 []
def agc(a:(Bool×List Int)×Bool×List Int)(_k:KT):Option (List RV):=match decide (okI a.1)with|true=>some [RV.d ax8 (ct (ag a.1) 0)]|false=>none
theorem ari(a:(Bool×List Int)×Bool×List Int):RS aoP 83 [.d (.st (.pair y2Y y2Y)) a] (agc a):=rsX
theorem Jp(a:BR)(h:okR a):Con Tryz.prog 83 [.d (.st (.pair y2Y y2Y)) a] [.d ax8 (aV (ae a) 0)]:=by
 refine aR yQ (ari _ ⟨0,?_⟩)
 unfold agc
 rw[au1 h.1,←sE,(cV h).1]
def GQ:aO:=spN true false [(.st (.pair y2Y y2Y))] (fun x=>decide (okR x.1)) (fun x=>[RV.d ax8 (aV (ae x.1) 0)])
theorem Eg:SpK 83 GQ:=spX fun x h=>Jp x.1 (au0 h)
def mf:Env:=[(160,nR),(168,uk),(183,qd),(222,nF),(254,tu),(184,sG),(225,wq),(221,BO),(182,BB),(159,GH),(83,GQ)]
theorem gW:EnvAll Tryz.prog mf:=⟨jv,mz,kH,jC,mZ,mO,qE,wb,xk,EB,Eg,trivial⟩
def asz:Ctx:=CX mf []
def afh(n:Int)(_k:KT):Option (List RV):=match decide (bg n)with|true=>some [RV.d (.st (.pair y2Y y2Y)) ((aj n),(aj 1))]|false=>none
theorem ar9(n:Int):RS asz 76 [SI n] (afh n):=rsX
def apJ:Ctx:=CX mf []
def ag4(a b:(Bool×List Int)×Bool×List Int)(_k:KT):Option (List RV):=match decide (okR a)with|true=>(match decide (okR b)with|true=>(match(ct (aV (ae a) 0) (aV (ae b) 0)) !=0 with|true=>some [RV.d ax8 (ct (aV (ae a) 0) (aV (ae b) 0))]|false=>(match decide (okI a.1∧okI b.2)with|true=>(match decide (okI b.1∧okI a.2)with|true=>(match decide (okI (aj (ag a.1*ag b.2))∧okI (aj (ag b.1*ag a.2)))with|true=>some [RV.d ax8 (ct (ag (aj (ag a.1*ag b.2))) (ag (aj (ag b.1*ag a.2))))]|false=>none)|false=>none)|false=>none))|false=>none)|false=>none
theorem an7(a b:(Bool×List Int)×Bool×List Int):RS apJ 99 [.d (.st (.pair y2Y y2Y)) a,.d (.st (.pair y2Y y2Y)) b] (ag4 a b):=rsX
def anp:Ctx:=CX mf []
def agH(a b:(Bool×List Int)×Bool×List Int)(_k:KT):Option (List RV):=match decide (okI a.2∧okI b.2)with|true=>(match(ct (ag a.2) (ag b.2))==0 with|true=>(match decide (okI a.1∧okI b.1)with|true=>(match decide (gM (aj (ag a.1+ag b.1)) a.2)with|true=>some [RV.d (.st (.pair y2Y y2Y)) (((eD (aj (ag a.1+ag b.1)) a.2).1),((eD (aj (ag a.1+ag b.1)) a.2).2))]|false=>none)|false=>none)|false=>(match decide (okI a.1∧okI b.2)with|true=>(match decide (okI b.1∧okI a.2)with|true=>(match decide (okI (aj (ag a.1*ag b.2))∧okI (aj (ag b.1*ag a.2)))with|true=>(match decide (okI a.2∧okI b.2)with|true=>(match decide (gM (aj (ag (aj (ag a.1*ag b.2))+ag (aj (ag b.1*ag a.2)))) (aj (ag a.2*ag b.2)))with|true=>some [RV.d (.st (.pair y2Y y2Y)) (((eD (aj (ag (aj (ag a.1*ag b.2))+ag (aj (ag b.1*ag a.2)))) (aj (ag a.2*ag b.2))).1),((eD (aj (ag (aj (ag a.1*ag b.2))+ag (aj (ag b.1*ag a.2)))) (aj (ag a.2*ag b.2))).2))]|false=>none)|false=>none)|false=>none)|false=>none)|false=>none))|false=>none
theorem ao7(a b:(Bool×List Int)×Bool×List Int):RS anp 149 [.d (.st (.pair y2Y y2Y)) a,.d (.st (.pair y2Y y2Y)) b] (agH a b):=rsX
def arg:Ctx:=CX mf []
def afw(a:(Bool×List Int)×Bool×List Int)(_k:KT):Option (List RV):=match decide (okI a.1)with|true=>some [RV.d (.st (.pair y2Y y2Y)) ((aj (-ag a.1)),a.2)]|false=>none
theorem aog(a:(Bool×List Int)×Bool×List Int):RS arg 202 [.d (.st (.pair y2Y y2Y)) a] (afw a):=rsX
def asB:Ctx:=CX mf []
def ago(a b:(Bool×List Int)×Bool×List Int)(_k:KT):Option (List RV):=match decide (okI a.1∧okI b.1)with|true=>(match decide (okI a.2∧okI b.2)with|true=>(match decide (gM (aj (ag a.1*ag b.1)) (aj (ag a.2*ag b.2)))with|true=>some [RV.d (.st (.pair y2Y y2Y)) (((eD (aj (ag a.1*ag b.1)) (aj (ag a.2*ag b.2))).1),((eD (aj (ag a.1*ag b.1)) (aj (ag a.2*ag b.2))).2))]|false=>none)|false=>none)|false=>none
theorem aqK(a b:(Bool×List Int)×Bool×List Int):RS asB 148 [.d (.st (.pair y2Y y2Y)) a,.d (.st (.pair y2Y y2Y)) b] (ago a b):=rsX
def ant:Ctx:=CX mf []
def agW(a b:(Bool×List Int)×Bool×List Int)(_k:KT):Option (List RV):=match decide (okR b)with|true=>(match(aV (ae b) 0)==0 with|true=>some [RV.d (.st (.pair y2Y y2Y)) ((false,[]),(false,[])),RV.d ax8 6]|false=>(match decide (okI a.1∧okI b.2)with|true=>(match decide (okI a.2∧okI b.1)with|true=>(match decide (gM (aj (ag a.1*ag b.2)) (aj (ag a.2*ag b.1)))with|true=>some [RV.d (.st (.pair y2Y y2Y)) (((eD (aj (ag a.1*ag b.2)) (aj (ag a.2*ag b.1))).1),((eD (aj (ag a.1*ag b.2)) (aj (ag a.2*ag b.1))).2)),RV.d ax8 0]|false=>none)|false=>none)|false=>none))|false=>none
theorem arw(a b:(Bool×List Int)×Bool×List Int):RS ant 170 [.d (.st (.pair y2Y y2Y)) a,.d (.st (.pair y2Y y2Y)) b] (agW a b):=rsX
theorem aeF(n:Int)(h:bg n):Con Tryz.prog 76 [.d ax8 n] [.d (.st (.pair y2Y y2Y)) (ai (n:Rat))]:=by
 refine aR gW (ar9 _ ⟨0,?_⟩)
 unfold afh ai
 rw[au1 h,Rat.num_intCast,Rat.den_intCast]
 rfl
theorem fH{a:BR}(h:okR a):szI (ag a.1)≤480000∧szI (ag a.2)≤480000:=by
 have h1:=Cz h
 obtain⟨e1,e2⟩:=cV h
 unfold bdR at h1
 rw[e1,e2]at h1
 exact h1
theorem Ms(a b:Rat):(ct (aV a 0) (aV b 0)≠0→ct (aV a 0) (aV b 0)=aV a b):=by
 rcases(by grind:a<0∨a=0∨0<a)with h1|h1|h1<;>rcases(by grind:b<0∨b=0∨0<b)with h2|h2|h2
 ·rw[dh h1,dh h2];intro h;exact absurd (dG _) h
 ·rw[dh h1,h2,dN,dh h1];intro;rfl
 ·rw[dh h1,c9 h2,dh (by grind)];intro;rfl
 ·rw[h1,dN,dh h2,c9 h2];intro;rfl
 ·rw[h1,h2,dN];intro h;exact absurd (dG _) h
 ·rw[h1,dN,c9 h2,dh h2];intro;rfl
 ·rw[c9 h1,dh h2,c9 (by grind)];intro;rfl
 ·rw[c9 h1,h2,dN,c9 h1];intro;rfl
 ·rw[c9 h1,c9 h2];intro h;exact absurd (dG _) h
theorem aa5(a b:BR)(h:okR a∧okR b):Con Tryz.prog 99 [.d (.st (.pair y2Y y2Y)) a,.d (.st (.pair y2Y y2Y)) b] [.d ax8 (aV (ae a) (ae b))]:=by
 refine aR gW (an7 _ _ ⟨0,?_⟩)
 obtain⟨ha,hb⟩:=h
 obtain⟨a1,a2⟩:=cV ha
 obtain⟨b1,b2⟩:=cV hb
 obtain⟨sa1,sa2⟩:=fH ha
 obtain⟨sb1,sb2⟩:=fH hb
 have h1:=cU sa1 sb2
 have h2:=cU sb1 sa2
 unfold ag4
 rw[au1 ha,au1 hb]
 dsimp only
 have hs:=Ms (ae a) (ae b)
 by_cases hc:ct (aV (ae a) 0) (aV (ae b) 0)=0
 ·rw[hc,au1 (show okI a.1∧okI b.2 from⟨ha.1,hb.2.1⟩),au1 (show okI b.1∧okI a.2 from⟨hb.1,ha.2.1⟩),au1 (show okI (aj (ag a.1*ag b.2))∧okI (aj (ag b.1*ag a.2)) from⟨bk (by omega),bk (by omega)⟩),dec_enc,dec_enc,←a1,←a2,←b1,←b2,xz]
  rfl
 ·rw[show(ct (aV (ae a) 0) (aV (ae b) 0) !=0)=true by simpa using hc,hs hc]
theorem Mh(a:BR)(h:okR a):Con Tryz.prog 202 [.d (.st (.pair y2Y y2Y)) a] [.d (.st (.pair y2Y y2Y)) (ai (-ae a))]:=by
 refine aR gW (aog _ ⟨0,?_⟩)
 obtain⟨a1,a2⟩:=cV h
 unfold afw
 have e:ai (-ae a)=(aj (-ag a.1),a.2):=by
  unfold ai
  rw[Rat.neg_num,a1,show((-ae a).den:Int)=((ae a).den:Int) from rfl,a2,←gu h.2.1]
 rw[au1 h.1,e]
theorem LL(a b:BR)(h:okR a∧okR b):Con Tryz.prog 149 [.d (.st (.pair y2Y y2Y)) a,.d (.st (.pair y2Y y2Y)) b] [.d (.st (.pair y2Y y2Y)) (ai (ae a+ae b))]:=by
 refine aR gW (ao7 _ _ ⟨0,?_⟩)
 obtain⟨ha,hb⟩:=h
 obtain⟨a1,a2⟩:=cV ha
 obtain⟨b1,b2⟩:=cV hb
 obtain⟨sa1,sa2⟩:=fH ha
 obtain⟨sb1,sb2⟩:=fH hb
 have pa:=ha.2.2.1
 have pb:=hb.2.2.1
 have h1:=cU sa1 sb2
 have h2:=cU sb1 sa2
 have h3:=cU sa2 sb2
 have h4:=uM h1 h2
 have h5:=uM sa1 sb1
 have hda:ae a=Rat.divInt (ag a.1) (ag a.2):=by rw[←a1,←a2,awa]
 have hdb:ae b=Rat.divInt (ag b.1) (ag b.2):=by rw[←b1,←b2,awa]
 unfold agH
 rw[au1 (show okI a.2∧okI b.2 from⟨ha.2.1,hb.2.1⟩)]
 dsimp only
 by_cases hc:ag a.2=ag b.2
 ·rw[hc,dG,au1 (show okI a.1∧okI b.1 from⟨ha.1,hb.1⟩)]
  rw[au1 (show gM (aj (ag a.1+ag b.1)) a.2 from⟨bk (by omega),ha.2.1,by omega⟩)]
  have e:eD (aj (ag a.1+ag b.1)) a.2=ai (ae a+ae b):=by
   unfold eD
   rw[dec_enc,hda,hdb,←hc,Rat.divInt_eq_div,Rat.divInt_eq_div,Rat.divInt_eq_div,Rat.intCast_add]
   congr 1
   grind
  rw[e]
  rfl
 ·have hcm:(ct (ag a.2) (ag b.2)==0)=false:=by
   rcases awP hc with h|h
   ·rw[cX h];rfl
   ·rw[cS h];rfl
  rw[hcm,au1 (show okI a.1∧okI b.2 from⟨ha.1,hb.2.1⟩),au1 (show okI b.1∧okI a.2 from⟨hb.1,ha.2.1⟩),au1 (show okI (aj (ag a.1*ag b.2))∧okI (aj (ag b.1*ag a.2)) from⟨bk (by omega),bk (by omega)⟩)]
  simp only[dec_enc]
  rw[au1 (show gM (aj (ag a.1*ag b.2+ag b.1*ag a.2)) (aj (ag a.2*ag b.2)) from⟨bk (by omega),bk (by omega),by rw[dec_enc];exact axx (by omega) (by omega)⟩)]
  have e:eD (aj (ag a.1*ag b.2+ag b.1*ag a.2)) (aj (ag a.2*ag b.2))=ai (ae a+ae b):=by
   unfold eD
   rw[dec_enc,dec_enc,hda,hdb,Rat.divInt_add_divInt _ _ (by omega) (by omega)]
  rw[e]
theorem Z5(a b:BR)(h:okR a∧okR b):Con Tryz.prog 148 [.d (.st (.pair y2Y y2Y)) a,.d (.st (.pair y2Y y2Y)) b] [.d (.st (.pair y2Y y2Y)) (ai (ae a*ae b))]:=by
 refine aR gW (aqK _ _ ⟨0,?_⟩)
 obtain⟨ha,hb⟩:=h
 obtain⟨a1,a2⟩:=cV ha
 obtain⟨b1,b2⟩:=cV hb
 obtain⟨sa1,sa2⟩:=fH ha
 obtain⟨sb1,sb2⟩:=fH hb
 have pa:=ha.2.2.1
 have pb:=hb.2.2.1
 have h1:=cU sa1 sb1
 have h3:=cU sa2 sb2
 have hda:ae a=Rat.divInt (ag a.1) (ag a.2):=by rw[←a1,←a2,awa]
 have hdb:ae b=Rat.divInt (ag b.1) (ag b.2):=by rw[←b1,←b2,awa]
 unfold ago
 rw[au1 (show okI a.1∧okI b.1 from⟨ha.1,hb.1⟩),au1 (show okI a.2∧okI b.2 from⟨ha.2.1,hb.2.1⟩),au1 (show gM (aj (ag a.1*ag b.1)) (aj (ag a.2*ag b.2)) from⟨bk (by omega),bk (by omega),by rw[dec_enc];exact axx (by omega) (by omega)⟩)]
 have e:eD (aj (ag a.1*ag b.1)) (aj (ag a.2*ag b.2))=ai (ae a*ae b):=by
  unfold eD
  rw[dec_enc,dec_enc,hda,hdb,axy]
 rw[e]
def fD(a b:BR):Prop:=okR a∧okR b∧ag b.1≠0
instance (a b:BR):Decidable (fD a b):=by unfold fD;infer_instance
theorem acv(a b:BR)(h:fD a b):Con Tryz.prog 170 [.d (.st (.pair y2Y y2Y)) a,.d (.st (.pair y2Y y2Y)) b] [.d (.st (.pair y2Y y2Y)) (ai (ae a/ae b)),.d ax8 0]:=by
 refine aR gW (arw _ _ ⟨0,?_⟩)
 obtain⟨ha,hb,hne⟩:=h
 obtain⟨a1,a2⟩:=cV ha
 obtain⟨b1,b2⟩:=cV hb
 obtain⟨sa1,sa2⟩:=fH ha
 obtain⟨sb1,sb2⟩:=fH hb
 have pa:=ha.2.2.1
 have h1:=cU sa1 sb2
 have h3:=cU sa2 sb1
 have hda:ae a=Rat.divInt (ag a.1) (ag a.2):=by rw[←a1,←a2,awa]
 have hdb:ae b=Rat.divInt (ag b.1) (ag b.2):=by rw[←b1,←b2,awa]
 have hnz:(aV (ae b) 0==0)=false:=by
  rw[←sE,b1]
  rcases awP hne with h|h
  ·rw[cX h];rfl
  ·rw[cS h];rfl
 unfold agW
 rw[au1 hb,hnz,au1 (show okI a.1∧okI b.2 from⟨ha.1,hb.2.1⟩),au1 (show okI a.2∧okI b.1 from⟨ha.2.1,hb.1⟩),au1 (show gM (aj (ag a.1*ag b.2)) (aj (ag a.2*ag b.1)) from⟨bk (by omega),bk (by omega),by rw[dec_enc];exact axx (by omega) hne⟩)]
 have e:eD (aj (ag a.1*ag b.2)) (aj (ag a.2*ag b.1))=ai (ae a/ae b):=by
  unfold eD
  rw[dec_enc,dec_enc,hda,hdb,axJ,Rat.inv_divInt,axy]
 rw[e]
def Su:aO:=spN false false [(.st (.pair y2Y y2Y)),(.st (.pair y2Y y2Y))] (fun x=>decide (okR x.1∧okR x.2.1)) (fun x=>[RV.d (.st (.pair y2Y y2Y)) (ai (ae x.1+ae x.2.1))])
theorem Qi:SpK 149 Su:=spX fun x h=>LL x.1 x.2.1 (au0 h)
def U8:aO:=spN false false [(.st (.pair y2Y y2Y))] (fun x=>decide (okR x.1)) (fun x=>[RV.d (.st (.pair y2Y y2Y)) (ai (-ae x.1))])
theorem YL:SpK 202 U8:=spX fun x h=>Mh x.1 (au0 h)
def LV:Env:=[(160,nR),(168,uk),(183,qd),(222,nF),(254,tu),(184,sG),(225,wq),(221,BO),(182,BB),(159,GH),(83,GQ),(149,Su),(202,U8)]
theorem IN:EnvAll Tryz.prog LV:=⟨jv,mz,kH,jC,mZ,mO,qE,wb,xk,EB,Eg,Qi,YL,trivial⟩
def aqm:Ctx:=CX LV []
def agb(a b:(Bool×List Int)×Bool×List Int)(_k:KT):Option (List RV):=match decide (okR b)with|true=>(match decide (okR a∧okR (ai (-ae b)))with|true=>some [RV.d (.st (.pair y2Y y2Y)) (((ai (ae a+ae (ai (-ae b)))).1),((ai (ae a+ae (ai (-ae b)))).2))]|false=>none)|false=>none
theorem aoi(a b:(Bool×List Int)×Bool×List Int):RS aqm 147 [.d (.st (.pair y2Y y2Y)) a,.d (.st (.pair y2Y y2Y)) b] (agb a b):=rsX
theorem acj(a b:BR)(h:okR a∧okR b):Con Tryz.prog 147 [.d (.st (.pair y2Y y2Y)) a,.d (.st (.pair y2Y y2Y)) b] [.d (.st (.pair y2Y y2Y)) (ai (ae a-ae b))]:=by
 refine aR IN (aoi _ _ ⟨0,?_⟩)
 obtain⟨ha,hb⟩:=h
 unfold agb
 rw[au1 hb,az,axp,au1 (show okR a∧okR (ai (-ae b)) from⟨ha,nT (uH (Cz hb)) (avb _)⟩)]
section
namespace RL
theorem iU{x y B e:Rat}(h1:x<B)(h2: -B<x)(h3:y<e)(h4: -e<y):x*y<B*e:=by
 have p:=awb (a:=B-x) (b:=e+y) (by grind) (by grind)
 have q:=awb (a:=B+x) (b:=e-y) (by grind) (by grind)
 grind
theorem ahH{e:Rat}(h:0<e):0<e/2:=by grind
theorem An{e B:Rat}(h:0<e)(hB:0<B):∃d,0<d∧B*d+B*d<e:=by
 refine⟨e/(4*B),?_,?_⟩
 ·exact awb h (Rat.inv_pos.2 (by grind))
 ·have:B*(e/(4*B))=e/4:=by grind
  grind
structure CS where
 f:Nat→Rat
 cau:∀e:Rat,0<e→∃N,∀m n,N≤m→N≤n→f m-f n<e
theorem CS.bd(a:CS):∃B:Rat,0<B∧∃N,∀n,N≤n→ -B<a.f n∧a.f n<B:=by
 obtain⟨N,h⟩:=a.cau 1 (by grind)
 refine⟨(if 0≤a.f N then a.f N else-a.f N)+1,?_,N,fun n hn=>?_⟩
 ·split<;>grind
 ·have h1:=h n N hn (avb _)
  have h2:=h N n (avb _) hn
  split<;>grind
def add(a b:CS):CS:=⟨fun n=>a.f n+b.f n,fun e he=>by
 obtain⟨N,h⟩:=a.cau (e/2) (by grind)
 obtain⟨M,h'⟩:=b.cau (e/2) (by grind)
 refine⟨max N M,fun m n hm hn=>?_⟩
 have:=h m n (by omega) (by omega)
 have:=h' m n (by omega) (by omega)
 grind⟩
def neg(a:CS):CS:=⟨fun n=> -a.f n,fun e he=>by
 obtain⟨N,h⟩:=a.cau e he
 exact⟨N,fun m n hm hn=>by have:=h n m hn hm;grind⟩⟩
theorem Rc(a b:CS)(e:Rat)(he:0<e):∃N,∀m n,N≤m→N≤n→a.f m*b.f m-a.f n*b.f n<e:=by
 obtain⟨A,hA,N1,h1⟩:=a.bd
 obtain⟨B,hB,N2,h2⟩:=b.bd
 obtain⟨d,hd,hd'⟩:=An (e:=e) (B:=A+B) he (by grind)
 obtain⟨N3,h3⟩:=a.cau d hd
 obtain⟨N4,h4⟩:=b.cau d hd
 refine⟨max (max N1 N2) (max N3 N4),fun m n hm hn=>?_⟩
 have a1:=h1 m (by omega)
 have b1:=h2 n (by omega)
 have p:=iU a1.2 a1.1 (h4 m n (by omega) (by omega)) (by have:=h4 n m (by omega) (by omega);grind)
 have q:=iU b1.2 b1.1 (h3 m n (by omega) (by omega)) (by have:=h3 n m (by omega) (by omega);grind)
 have r:=awb hA hd
 have s:=awb hB hd
 grind
def mul(a b:CS):CS:=⟨fun n=>a.f n*b.f n,Rc a b⟩
def eqv(a b:CS):Prop:=∀e:Rat,0<e→∃N,∀n,N≤n→a.f n-b.f n<e∧b.f n-a.f n<e
instance st:Setoid CS where
 r:=eqv
 iseqv:=⟨fun a e he=>⟨0,fun n _=>by grind⟩,fun h e he=>by
   obtain⟨N,h⟩:=h e he
   exact⟨N,fun n hn=>⟨(h n hn).2,(h n hn).1⟩⟩,
  fun h h' e he=>by
   obtain⟨N,h⟩:=h (e/2) (by grind)
   obtain⟨M,h'⟩:=h' (e/2) (by grind)
   refine⟨max N M,fun n hn=>?_⟩
   have:=h n (by omega)
   have:=h' n (by omega)
   grind⟩
def const(q:Rat):CS:=⟨fun _=>q,fun e he=>⟨0,fun m n _ _=>by grind⟩⟩
end RL
def RE:Type:=Quotient RL.st
namespace RE
open RL
def of(q:Rat):RE:=Quotient.mk _ (const q)
theorem akw(a b a' b':CS)(h:a≈a')(h':b≈b'):add a b≈add a' b':=fun e he=>by
 obtain⟨N,h⟩:=h (e/2) (by grind)
 obtain⟨M,h'⟩:=h' (e/2) (by grind)
 refine⟨max N M,fun n hn=>?_⟩
 have:=h n (by omega)
 have:=h' n (by omega)
 simp only[RL.add]
 grind
theorem am0(a a':CS)(h:a≈a'):neg a≈neg a':=fun e he=>by
 obtain⟨N,h⟩:=h e he
 refine⟨N,fun n hn=>?_⟩
 have:=h n (by omega)
 simp only[RL.neg]
 grind
theorem aju(a b a' b':CS)(h:a≈a')(h':b≈b'):mul a b≈mul a' b':=fun e he=>by
 obtain⟨A,hA,N1,h1⟩:=a.bd
 obtain⟨B,hB,N2,h2⟩:=b'.bd
 obtain⟨d,hd,hd'⟩:=An (e:=e) (B:=A+B) he (by grind)
 obtain⟨N3,h3⟩:=h d hd
 obtain⟨N4,h4⟩:=h' d hd
 refine⟨max (max N1 N2) (max N3 N4),fun n hn=>?_⟩
 have a1:=h1 n (by omega)
 have b1:=h2 n (by omega)
 have a3:=h3 n (by omega)
 have b3:=h4 n (by omega)
 have p:=iU a1.2 a1.1 (y:=b.f n-b'.f n) b3.1 (by grind)
 have q:=iU b1.2 b1.1 (y:=a.f n-a'.f n) a3.1 (by grind)
 have p':=iU a1.2 a1.1 (y:=b'.f n-b.f n) b3.2 (by grind)
 have q':=iU b1.2 b1.1 (y:=a'.f n-a.f n) a3.2 (by grind)
 have r:=awb hA hd
 have s:=awb hB hd
 simp only[RL.mul]
 constructor<;>grind
instance:Add RE:=⟨Quotient.lift₂ (fun a b=>Quotient.mk _ (add a b)) (fun _ _ _ _ h h'=>axH (akw _ _ _ _ h h'))⟩
instance:Neg RE:=⟨Quotient.lift (fun a=>Quotient.mk _ (neg a)) (fun _ _ h=>axH (am0 _ _ h))⟩
instance:Sub RE:=⟨fun a b=>a+ -b⟩
instance:Mul RE:=⟨Quotient.lift₂ (fun a b=>Quotient.mk _ (mul a b)) (fun _ _ _ _ h h'=>axH (aju _ _ _ _ h h'))⟩
theorem snd{a b:CS}(h:∀n,a.f n=b.f n):(Quotient.mk st a:RE)=Quotient.mk st b:=
 axH fun e he=>⟨0,fun n _=>by rw[h n];grind⟩
instance (n:Nat):OfNat RE n:=⟨of (OfNat.ofNat n)⟩
theorem of_add(a b:Rat):of (a+b)=of a+of b:=rfl
theorem of_mul(a b:Rat):of (a*b)=of a*of b:=rfl
theorem of_neg(a:Rat):of (-a)= -of a:=rfl
theorem of_sub(a b:Rat):of (a-b)=of a-of b:=by rw[axp];rfl
theorem AW:of 0=0:=rfl
theorem add_zero(a:RE):a+0=a:=by
 induction a using auZ;exact snd fun n=>Rat.add_zero _
theorem add_comm(a b:RE):a+b=b+a:=by
 induction a,b using axz;exact snd fun n=>Rat.add_comm _ _
theorem add_assoc(a b c:RE):a+b+c=a+(b+c):=by
 induction a,b,c using axA;exact snd fun n=>Rat.add_assoc _ _ _
theorem mul_assoc(a b c:RE):a*b*c=a*(b*c):=by
 induction a,b,c using axA;exact snd fun n=>Rat.mul_assoc _ _ _
theorem mul_comm(a b:RE):a*b=b*a:=by
 induction a,b using axz;exact snd fun n=>Rat.mul_comm _ _
theorem mul_one(a:RE):a*1=a:=by
 induction a using auZ;exact snd fun n=>Rat.mul_one _
theorem mul_zero(a:RE):a*0=0:=by
 induction a using auZ;exact snd fun n=>Rat.mul_zero _
theorem Db(a:RE): -a+a=0:=by
 induction a using auZ;exact snd fun n=>Rat.neg_add_cancel _
def clt(a b:CS):Prop:=∃e:Rat,0<e∧∃N,∀n,N≤n→a.f n+e<b.f n
theorem YD(a b a' b':CS)(h:a≈a')(h':b≈b')(hl:clt a b):clt a' b':=by
 obtain⟨e,he,N,hl⟩:=hl
 obtain⟨N1,h⟩:=h (e/4) (by grind)
 obtain⟨N2,h'⟩:=h' (e/4) (by grind)
 refine⟨e/2,by grind,max N (max N1 N2),fun n hn=>?_⟩
 have:=hl n (by omega)
 have:=h n (by omega)
 have:=h' n (by omega)
 grind
instance:LT RE:=⟨Quotient.lift₂ clt (fun _ _ _ _ h h'=>propext ⟨YD _ _ _ _ h h',YD _ _ _ _ (Setoid.symm h) (Setoid.symm h')⟩)⟩
instance:LE RE:=⟨fun a b=>¬b<a⟩
theorem lt_irrefl(a:RE):¬a<a:=by
 induction a using auZ
 rintro ⟨e,he,N,h⟩
 have:=h N (avb _)
 grind
theorem c7{a b c:RE}:a<b→b<c→a<c:=by
 induction a,b,c using axA
 rintro ⟨e,he,N,h⟩ ⟨e',he',N',h'⟩
 refine⟨e,he,max N N',fun n hn=>?_⟩
 have:=h n (by omega)
 have:=h' n (by omega)
 grind
theorem kV(a b:RE):a<b∨a=b∨b<a:=by
 induction a,b using axz
 rename_i a b
 by_cases h1:clt a b
 ·exact .inl h1
 by_cases h2:clt b a
 ·exact .inr (.inr h2)
 refine .inr (.inl (axH fun e he=>?_))
 obtain⟨N,ha⟩:=a.cau (e/4) (by grind)
 obtain⟨M,hb⟩:=b.cau (e/4) (by grind)
 have g1:∃n,max N M≤n∧b.f n≤a.f n+e/4:=by
  apply avp
  intro hc
  exact h1 ⟨e/4,by grind,max N M,fun n hn=>by
   apply avp
   intro h
   exact hc ⟨n,hn,by grind⟩⟩
 have g2:∃n,max N M≤n∧a.f n≤b.f n+e/4:=by
  apply avp
  intro hc
  exact h2 ⟨e/4,by grind,max N M,fun n hn=>by
   apply avp
   intro h
   exact hc ⟨n,hn,by grind⟩⟩
 obtain⟨p,hp,gp⟩:=g1
 obtain⟨q,hq,gq⟩:=g2
 refine⟨max N M,fun n hn=>?_⟩
 have a1:=ha n q (by omega) (by omega)
 have b1:=hb q n (by omega) (by omega)
 have a2:=ha p n (by omega) (by omega)
 have b2:=hb n p (by omega) (by omega)
 constructor<;>grind
theorem pP{a b:RE}(c:RE):a<b→a+c<b+c:=by
 induction a,b,c using axA
 rintro ⟨e,he,N,h⟩
 refine⟨e,he,N,fun n hn=>?_⟩
 have:=h n hn
 simp only[RL.add]
 grind
theorem mul_pos{a b:RE}:0<a→0<b→0<a*b:=by
 induction a,b using axz
 rintro ⟨e,he,N,h⟩ ⟨e',he',N',h'⟩
 refine⟨e*e',awb he he',max N N',fun n hn=>?_⟩
 have h1:=h n (by omega)
 have h2:=h' n (by omega)
 simp only[RL.const]at h1 h2 ⊢
 rename_i a b
 have p:=awb (a:=a.f n-e) (b:=b.f n-e') (by grind) (by grind)
 have q:=awb (a:=a.f n-e) (b:=e') (by grind) (by grind)
 have r:=awb (a:=e) (b:=b.f n-e') (by grind) (by grind)
 simp only[RL.mul]
 grind
theorem iI{a b:Rat}(h:a<b):of a<of b:=⟨(b-a)/2,by grind,0,fun n _=>by simp only[RL.const];grind⟩
end RE
end
section
namespace RE
open RL
theorem Bp(a b:RE):a≤b↔¬b<a:=Iff.rfl
theorem le_of_lt{a b:RE}(h:a<b):a≤b:=fun h'=>lt_irrefl a (c7 h h')
theorem lt_or_ge(a b:RE):a<b∨b≤a:=by
 by_cases h:a<b
 ·exact .inl h
 ·exact .inr h
theorem le_antisymm{a b:RE}(h1:a≤b)(h2:b≤a):a=b:=by
 rcases kV a b with h|h|h
 ·exact absurd h h2
 ·exact h
 ·exact absurd h h1
theorem le_trans{a b c:RE}(h1:a≤b)(h2:b≤c):a≤c:=fun h=>by
 rcases kV a b with h'|h'|h'
 ·exact h2 (c7 h h')
 ·subst h';exact h2 h
 ·exact h1 h'
theorem zero_lt_one:(0:RE)<1:=iI (by decide+kernel:(0:Rat)<1)
theorem ot(a:RE):a+ -a=0:=by rw[add_comm,Db]
theorem iD{a:RE}(h:a<0):0< -a:=by
 have:=pP (-a) h
 rw[ot,add_comm,add_zero]at this
 exact this
theorem Hk{a:RE}(h:0<a): -a<0:=by
 have:=pP (-a) h
 rw[ot,add_comm,add_zero]at this
 exact this
instance:Std.IsLinearOrder RE where
 le_refl a:=lt_irrefl a
 le_trans _ _ _:=le_trans
 le_antisymm _ _:=le_antisymm
 le_total a b:=by
  rcases lt_or_ge a b with h|h
  ·exact .inl (le_of_lt h)
  ·exact .inr h
instance:Std.LawfulOrderLT RE where
 lt_iff a b:=⟨fun h=>⟨le_of_lt h,fun h'=>h' h⟩,fun h=>by
  rcases lt_or_ge a b with h'|h'
  ·exact h'
  ·exact absurd h' h.2⟩
theorem d9{a b:RE}:¬a≤b↔b<a:=⟨fun h=>by
  rcases lt_or_ge b a with h'|h'
  ·exact h'
  ·exact absurd h' h,fun h h'=>h' h⟩
theorem aE{a b:RE}(h:a<b):0<b-a:=by
 have:=pP (-a) h
 rw[ot]at this
 exact this
theorem ajf{a b:RE}(h:0<b-a):a<b:=by
 have:=pP a h
 have e:b-a+a=b:=by
  show b+ -a+a=b
  rw[add_assoc,Db,add_zero]
 rw[e,add_comm,add_zero]at this
 exact this
theorem aA{a b:RE}(h:a≤b):0≤b-a:=fun h'=>h (by
 have:=pP a h'
 have e:b-a+a=b:=by
  show b+ -a+a=b
  rw[add_assoc,Db,add_zero]
 rw[e,add_comm,add_zero]at this
 exact this)
theorem gF{a:RE}(h:0≤a):0<a∨a=0:=by
 rcases kV 0 a with h'|h'|h'
 ·exact .inl h'
 ·exact .inr h'.symm
 ·exact absurd h' h
theorem le_refl(a:RE):a≤a:=lt_irrefl a
theorem dP{a b:RE}(h:a=b):a≤b:=by rw[h];exact le_refl _
theorem d7{a b:RE}(h:a=b):b≤a:=by rw[h];exact le_refl _
theorem zero_mul(a:RE):0*a=0:=by rw[mul_comm,mul_zero]
theorem zero_add(a:RE):0+a=a:=by rw[add_comm,add_zero]
theorem one_mul(a:RE):1*a=a:=by rw[mul_comm,mul_one]
theorem bV{a b:RE}(h:0≤a)(h':0≤b):0≤a*b:=by
 rcases gF h with h1|h1
 ·rcases gF h' with h2|h2
  ·exact le_of_lt (mul_pos h1 h2)
  ·rw[h2,mul_zero];exact le_refl _
 ·rw[h1,zero_mul];exact le_refl _
theorem aB{a b:RE}(h:0<a)(h':0≤b):0<a+b:=by
 have:=pP b h
 rw[zero_add]at this
 rcases gF h' with h2|h2
 ·exact c7 h2 this
 ·rw[h2,add_zero];exact h
theorem gY(a:RE):0≤a*a:=by
 rcases lt_or_ge a 0 with h|h
 ·have h1:=iD h
  have h2:=mul_pos h1 h1
  have e: -a* -a=a*a:=by
   induction a using auZ
   exact snd fun n=>by show-_* -_=_*_;grind
  rw[e]at h2
  exact le_of_lt h2
 ·exact bV h h
theorem qR{c:Rat}(hc:(0:Rat)<c){a:RE}(h:0<a):0<of c*a:=mul_pos (iI hc) h
theorem eK{c:Rat}(hc:(0:Rat)<c){a:RE}(h:0≤a):0≤of c*a:=bV (le_of_lt (iI hc)) h
theorem far{s:RE}(h:0<s)(e:s=0):False:=by rw[e]at h;exact lt_irrefl _ h
theorem aeC(x y:RE):((y*y-(x*x)))+((x-(0))*(x-(y)))+((y-(0))*(x-(y)))=0:=by
 induction x using auZ
 induction y using auZ
 exact snd fun n=>by
  simp only[RL.add,RL.mul,RL.neg,RL.const]
  grind
theorem sq_lt(x y:RE)(h1:0≤x)(h2:0≤y)(h3:x*x<y*y):x<y:=d9.1 fun hg=>far (aB (aB (aE h3) (bV (aA h1) (aA hg))) (bV (aA h2) (aA hg))) (aeC x y)
theorem aaJ(x y:RE):((x-(y))*(x-(y)))+((y*y-(x*x)))+of 2*((y-(0))*(x-(y)))=0:=by
 induction x using auZ
 induction y using auZ
 exact snd fun n=>by
  simp only[RL.add,RL.mul,RL.neg,RL.const]
  grind
theorem LD(x y:RE)(_h1:0≤x)(h2:0≤y)(h3:x*x≤y*y):x≤y:=fun hg=>far (aB (aB (mul_pos (aE hg) (aE hg)) (aA h3)) (eK (by decide+kernel:(0:Rat)<2) (bV (aA h2) (le_of_lt (aE hg))))) (aaJ x y)
theorem Nm(x y:RE):((x*x-(y*y)))+of 2*((x-(0))*(y-(x)))+((y-(x))*(y-(x)))=0:=by
 induction x using auZ
 induction y using auZ
 exact snd fun n=>by
  simp only[RL.add,RL.mul,RL.neg,RL.const]
  grind
theorem qu(x y:RE)(h1:0≤x)(h2:x≤y):x*x≤y*y:=fun hg=>far (aB (aB (aE hg) (eK (by decide+kernel:(0:Rat)<2) (bV (aA h1) (aA h2)))) (bV (aA h2) (aA h2))) (Nm x y)
theorem alr(x y:RE):((y-(x))*(y-(x)))+((x*x-(y*y)))+of 2*((x-(0))*(y-(x)))=0:=by
 induction x using auZ
 induction y using auZ
 exact snd fun n=>by
  simp only[RL.add,RL.mul,RL.neg,RL.const]
  grind
theorem TU(x y:RE):((x-(y))*(x-(y)))+((y*y-(x*x)))+of 2*((y-(0))*(x-(y)))=0:=by
 induction x using auZ
 induction y using auZ
 exact snd fun n=>by
  simp only[RL.add,RL.mul,RL.neg,RL.const]
  grind
theorem aj0(x y:RE)(_h1:0≤x)(h2:0≤y)(h3:x*x=y*y):x≤y:=fun hg=>far (aB (aB (mul_pos (aE hg) (aE hg)) (aA (dP h3))) (eK (by decide+kernel:(0:Rat)<2) (bV (aA h2) (le_of_lt (aE hg))))) (TU x y)
theorem X7(x y:RE):((y-(x))*(y-(x)))+((x*x-(y*y)))+of 2*((x-(0))*(y-(x)))=0:=by
 induction x using auZ
 induction y using auZ
 exact snd fun n=>by
  simp only[RL.add,RL.mul,RL.neg,RL.const]
  grind
theorem ajI(x y:RE)(h1:0≤x)(_h2:0≤y)(h3:x*x=y*y):y≤x:=fun hg=>far (aB (aB (mul_pos (aE hg) (aE hg)) (aA (d7 h3))) (eK (by decide+kernel:(0:Rat)<2) (bV (aA h1) (le_of_lt (aE hg))))) (X7 x y)
theorem ahe(x y:RE)(h1:0≤x)(h2:0≤y)(h3:x*x=y*y):x=y:=le_antisymm (aj0 x y h1 h2 h3) (ajI x y h1 h2 h3)
end RE
end
section
namespace RE
open RL
theorem apl(q:Rat):∃k:Nat,q<(k:Rat):=by
 refine⟨(q.floor+1).toNat,?_⟩
 have h1:q<((q.floor+1:Int):Rat):=(Rat.floor_lt_iff).1 (by omega)
 have h2:((q.floor+1:Int):Rat)≤(((q.floor+1).toNat:Int):Rat):=axk.2 (by omega)
 have h3:(((q.floor+1).toNat:Int):Rat)=(((q.floor+1).toNat:Nat):Rat):=axf _
 rw[h3]at h2
 grind
theorem aa9(g d:Rat)(hg:0≤g)(hd:0<d):∃s:Rat,0≤s∧s*s≤g∧g<(s+d)*(s+d):=by
 apply avp
 intro hn
 have step:∀k:Nat,((k:Rat)*d)*((k:Rat)*d)≤g:=by
  intro k
  induction k with
  |zero=>rw[show((0:Nat):Rat)=0 from rfl];grind
  |succ k ih=>
   apply avp
   intro hc
   refine hn ⟨(k:Rat)*d,?_,ih,?_⟩
   ·have:(0:Rat)≤(k:Rat):=by
     have:=Rat.intCast_nonneg.2 (show(0:Int)≤(k:Int) by omega)
     rwa [axf]at this
    exact avC this (by grind)
   ·have e:(((k+1:Nat)):Rat)=(k:Rat)+1:=by rw[Rat.natCast_add];rfl
    rw[e]at hc
    grind
 obtain⟨k,hk⟩:=apl ((g+1)/d)
 have h1:g+1<(k:Rat)*d:=by
  have:=awb (show 0<(k:Rat)-(g+1)/d by grind) hd
  have e:((k:Rat)-(g+1)/d)*d=(k:Rat)*d-(g+1):=by grind
  grind
 have h2:=step k
 have h3:=awb (show 0<(k:Rat)*d-(g+1) by grind) (show 0<(k:Rat)*d by grind)
 have h4:=awb (show 0<(k:Rat)*d-(g+1) by grind) (show 0<g+1 by grind)
 have h5:=avC hg hg
 clear hn step hk
 generalize (k:Rat)*d=t at h1 h2 h3 h4
 grind
def eps(n:Nat):Rat:=1/((n:Rat)+1)
theorem pN(n:Nat):(0:Rat)≤(n:Rat):=by
 have:=Rat.intCast_nonneg.2 (show(0:Int)≤(n:Int) by omega)
 rwa [axf]at this
theorem rQ(n:Nat):0<eps n:=by
 have:=pN n
 exact awb (by grind) (Rat.inv_pos.2 (by grind))
theorem za(e:Rat)(he:0<e):∃N,∀n,N≤n→eps n<e:=by
 obtain⟨N,hN⟩:=apl (1/e)
 refine⟨N,fun n hn=>?_⟩
 have h0:=pN n
 have h1:(N:Rat)≤(n:Rat):=by
  have:=axk.2 (show(N:Int)≤(n:Int) by omega)
  rwa [axf,axf]at this
 have h2:1/e<(n:Rat)+1:=by grind
 have h3:=awb (show 0<(n:Rat)+1-1/e by grind) (awb he (rQ n))
 unfold eps at h3 ⊢
 have e1:((n:Rat)+1-1/e)*(e*(1/((n:Rat)+1)))=e-1/((n:Rat)+1):=by
  have:(n:Rat)+1≠0:=by grind
  have:e≠0:=by grind
  grind
 grind
theorem IX(n:Nat):eps n≤1:=by
 have h0:=pN n
 have:=rQ n
 unfold eps at*
 have h3:=avC h0 (show(0:Rat)≤1/((n:Rat)+1) by grind)
 have e1:(n:Rat)*(1/((n:Rat)+1))=1-1/((n:Rat)+1):=by
  have:(n:Rat)+1≠0:=by grind
  grind
 grind
theorem Qw{a b:Rat}(ha:0≤a)(hb:0≤b)(h:a*a<b*b):a<b:=by
 apply avp
 intro hc
 have:=avC (show 0≤a-b by grind) (show 0≤a+b by grind)
 grind
theorem BG(x:RE)(hx:0≤x):∃y:RE,0≤y∧y*y=x:=by
 induction x using auZ
 rename_i f
 have hc:∀n,∃s:Rat,0≤s∧s*s≤(if 0≤f.f n then f.f n else 0)∧(if 0≤f.f n then f.f n else 0)<(s+eps n)*(s+eps n):=fun n=>
  aa9 _ _ (by split<;>grind) (rQ n)
 let g:Nat→Rat:=fun n=>if 0≤f.f n then f.f n else 0
 let s:Nat→Rat:=fun n=>Classical.choose (hc n)
 have hs:∀n,0≤s n∧s n*s n≤g n∧g n<(s n+eps n)*(s n+eps n):=fun n=>awi (hc n)
 have hg:∀m n,g m-g n≤(if 0≤f.f m-f.f n then f.f m-f.f n else 0):=fun m n=>by
  show(if 0≤f.f m then f.f m else 0)-(if 0≤f.f n then f.f n else 0)≤_
  split<;>split<;>split<;>grind
 obtain⟨B,hB,NB,hBn⟩:=f.bd
 have hgB:∀n,NB≤n→g n<B:=fun n hn=>by
  show(if 0≤f.f n then f.f n else 0)<B
  have:=hBn n hn
  split<;>grind
 have hsB:∀n,NB≤n→s n<B+1:=fun n hn=>by
  have h1:=hs n
  have h2:=hgB n hn
  refine Qw h1.1 (by grind) ?_
  have:=avC (show 0≤B by grind) (show 0≤B by grind)
  grind
 have hcau:∀e:Rat,0<e→∃N,∀m n,N≤m→N≤n→s m-s n<e:=by
  intro e he
  obtain⟨N1,h1⟩:=f.cau (e*e/4) (by have:=awb he he;grind)
  obtain⟨N2,h2⟩:=za (e/2) (by grind)
  refine⟨max N1 N2,fun m n hm hn=>?_⟩
  apply avp
  intro hne
  have a1:=hs m
  have a2:=hs n
  have a3:=h1 m n (by omega) (by omega)
  have a4:=h2 n (by omega)
  have a5:=hg m n
  have a6:=rQ n
  have p1:=avC (show 0≤s m-(s n+e) by grind) (show 0≤s m+(s n+e) by grind)
  have p2:=avC (show 0≤e/2-eps n by grind) (show 0≤(s n+e/2)+(s n+eps n) by grind)
  have p3:=avC (show 0≤e by grind) a2.1
  have p4:=awb he he
  split at a5<;>grind
 refine⟨Quotient.mk _ ⟨s,hcau⟩,?_,axH fun e he=>?_⟩
 ·rintro ⟨e,he,N,h⟩
  have h1:=h N (avb _)
  have h2:=(hs N).1
  simp only[RL.const]at h1
  grind
 ·-- s n*s n is near to f n
  have hneg:∃N,∀n,N≤n→ -(e/4)<f.f n:=by
   apply avp
   intro hne
   obtain⟨M,hM⟩:=f.cau (e/8) (by grind)
   refine hx ⟨e/16,by grind,M,fun n hn=>?_⟩
   apply avp
   intro hge
   refine hne ⟨M,fun k hk=>?_⟩
   have:=hM n k hn hk
   simp only[RL.const]at hge
   grind
  obtain⟨N1,h1⟩:=hneg
  obtain⟨N2,h2⟩:=za (e/(4*(B+2))) (awb he (Rat.inv_pos.2 (by grind)))
  refine⟨max (max N1 N2) NB,fun n hn=>?_⟩
  have a1:=hs n
  have a2:=h1 n (by omega)
  have a3:=h2 n (by omega)
  have a4:=hsB n (by omega)
  have a5:=rQ n
  have a6:=IX n
  have hgf:f.f n≤g n∧g n<f.f n+e/4:=by
   show f.f n≤(if 0≤f.f n then f.f n else 0)∧(if 0≤f.f n then f.f n else 0)<_
   split<;>constructor<;>grind
  have p1:=avC (show 0≤eps n by grind) (show 0≤2*(B+2)-(2*s n+eps n) by grind)
  have p2:eps n*(2*(B+2))<e/2:=by
   have:=awb (show 0<e/(4*(B+2))-eps n by grind) (show 0<2*(B+2) by grind)
   have e1:(e/(4*(B+2))-eps n)*(2*(B+2))=e/2-eps n*(2*(B+2)):=by
    have:B+2≠0:=by grind
    grind
   grind
  simp only[RL.mul]
  constructor<;>grind
open Classical in
def wS(x:RE):RE:=if h:0≤x then Classical.choose (BG x h)else 0
theorem m7(x:RE):0≤wS x:=by
 unfold wS
 split
 ·rename_i h;exact(awi (BG x h)).1
 ·exact lt_irrefl 0
theorem Cr{x:RE}(h:0≤x):wS x*wS x=x:=by
 unfold wS
 rw[dif_pos h]
 exact(awi (BG x h)).2
theorem mj{a b:Rat}:of a≤of b↔a≤b:=by
 constructor
 ·intro h
  apply avp
  intro hc
  exact h (iI (by grind))
 ·intro h h'
  rcases(by grind:a<b∨a=b)with h1|h1
  ·exact lt_irrefl _ (c7 h' (iI h1))
  ·rw[h1]at h';exact lt_irrefl _ h'
theorem I7{a b:Rat}(h:of a=of b):a=b:=by
 have h1:=mj.1 (show of a≤of b by rw[h];exact lt_irrefl _)
 have h2:=mj.1 (show of b≤of a by rw[h];exact lt_irrefl _)
 grind
end RE
end
section
namespace RE
open RL
open Classical in
def sg(x:RE):Int:=if 0<x then 1 else if x<0 then-1 else 0
theorem dR{x:RE}(h:0<x):sg x=1:=avr h
theorem im{x:RE}(h:x<0):sg x= -1:=by unfold sg;rw[avn (fun h'=>lt_irrefl _ (c7 h h')),avr h]
theorem dE:sg 0=0:=by unfold sg;rw[avn (lt_irrefl _),avn (lt_irrefl _)]
theorem bZ(x:RE):(0<x∧sg x=1)∨(x=0∧sg x=0)∨(x<0∧sg x= -1):=by
 rcases kV 0 x with h|h|h
 ·exact .inl ⟨h,dR h⟩
 ·exact .inr (.inl ⟨h.symm,by rw[←h,dE]⟩)
 ·exact .inr (.inr ⟨h,im h⟩)
theorem l4{x:RE}:sg x=0↔x=0:=by
 rcases bZ x with⟨h,e⟩|⟨h,e⟩|⟨h,e⟩<;>rw[e]
 ·exact⟨fun h'=>by omega,fun h'=>by rw[h']at h;exact absurd h (lt_irrefl _)⟩
 ·exact⟨fun _=>h,fun _=>rfl⟩
 ·exact⟨fun h'=>by omega,fun h'=>by rw[h']at h;exact absurd h (lt_irrefl _)⟩
theorem GX{x:RE}:sg x=1↔0<x:=by
 rcases bZ x with⟨h,e⟩|⟨h,e⟩|⟨h,e⟩<;>rw[e]
 ·exact⟨fun _=>h,fun _=>rfl⟩
 ·exact⟨fun h'=>by omega,fun h'=>by rw[h]at h';exact absurd h' (lt_irrefl _)⟩
 ·exact⟨fun h'=>by omega,fun h'=>absurd (c7 h h') (lt_irrefl _)⟩
theorem amm{x:RE}:sg x= -1↔x<0:=by
 rcases bZ x with⟨h,e⟩|⟨h,e⟩|⟨h,e⟩<;>rw[e]
 ·exact⟨fun h'=>by omega,fun h'=>absurd (c7 h h') (lt_irrefl _)⟩
 ·exact⟨fun h'=>by omega,fun h'=>by rw[h]at h';exact absurd h' (lt_irrefl _)⟩
 ·exact⟨fun _=>h,fun _=>rfl⟩
theorem PK{x:RE}:0≤sg x↔0≤x:=by
 rcases bZ x with⟨h,e⟩|⟨h,e⟩|⟨h,e⟩<;>rw[e]
 ·exact⟨fun _=>le_of_lt h,fun _=>by omega⟩
 ·exact⟨fun _=>by rw[h];exact le_refl _,fun _=>by omega⟩
 ·exact⟨fun h'=>by omega,fun h'=>absurd h h'⟩
theorem atk{x:RE}:sg x≤0↔x≤0:=by
 rcases bZ x with⟨h,e⟩|⟨h,e⟩|⟨h,e⟩<;>rw[e]
 ·exact⟨fun h'=>by omega,fun h'=>absurd h h'⟩
 ·exact⟨fun _=>by rw[h];exact le_refl _,fun _=>by omega⟩
 ·exact⟨fun _=>le_of_lt h,fun _=>by omega⟩
theorem neg_mul(a b:RE): -a*b= -(a*b):=by
 induction a using auZ
 induction b using auZ
 exact snd fun n=>by
  simp only[RL.mul,RL.neg]
  grind
theorem mul_neg(a b:RE):a* -b= -(a*b):=by
 induction a using auZ
 induction b using auZ
 exact snd fun n=>by
  simp only[RL.mul,RL.neg]
  grind
theorem neg_neg(a:RE): - -a=a:=by
 induction a using auZ
 exact snd fun n=>by
  simp only[RL.neg]
  grind
theorem sub_self(a:RE):a-a=0:=by
 induction a using auZ
 exact snd fun n=>by
  simp only[RL.add,RL.neg,RL.const]
  grind
theorem aaB(a b:RE): -(a-b)=b-a:=by
 induction a using auZ
 induction b using auZ
 exact snd fun n=>by
  simp only[RL.add,RL.neg]
  grind
theorem Gw(x y:RE):(x+y)*(x-y)=x*x-y*y:=by
 induction x using auZ
 induction y using auZ
 exact snd fun n=>by
  simp only[RL.add,RL.mul,RL.neg]
  grind
theorem Yn(x y:RE):((x-(0))*(0-(y)))+((x*y-(0)))=0:=by
 induction x using auZ
 induction y using auZ
 exact snd fun n=>by
  simp only[RL.add,RL.mul,RL.neg,RL.const]
  grind
theorem Hx(x y:RE)(h1:0<x)(h2:y<0):x*y<0:=d9.1 fun hg=>far (aB (mul_pos (aE h1) (aE h2)) (aA hg)) (Yn x y)
theorem VZ(x y:RE):((0-(x)))+((0-(y)))+((x+y-(0)))=0:=by
 induction x using auZ
 induction y using auZ
 exact snd fun n=>by
  simp only[RL.add,RL.neg,RL.const]
  grind
theorem ami(x y:RE)(h1:x<0)(h2:y<0):x+y<0:=d9.1 fun hg=>far (aB (aB (aE h1) (le_of_lt (aE h2))) (aA hg)) (VZ x y)
theorem T4(x y:RE):((x-(0)))+((0-(y)))+((0-(x-y)))=0:=by
 induction x using auZ
 induction y using auZ
 exact snd fun n=>by
  simp only[RL.add,RL.neg,RL.const]
  grind
theorem OX(x y:RE)(h1:0<x)(h2:y<0):0<x-y:=d9.1 fun hg=>far (aB (aB (aE h1) (le_of_lt (aE h2))) (aA hg)) (T4 x y)
theorem XU(x y:RE):((0-(x)))+((y-(0)))+((x-y-(0)))=0:=by
 induction x using auZ
 induction y using auZ
 exact snd fun n=>by
  simp only[RL.add,RL.neg,RL.const]
  grind
theorem SE(x y:RE)(h1:x<0)(h2:0<y):x-y<0:=d9.1 fun hg=>far (aB (aB (aE h1) (le_of_lt (aE h2))) (aA hg)) (XU x y)
theorem Sb(x y:RE):((x-(0)))+((y-(0)))+((0-(x+y)))=0:=by
 induction x using auZ
 induction y using auZ
 exact snd fun n=>by
  simp only[RL.add,RL.neg,RL.const]
  grind
theorem Qn(x y:RE)(h1:0<x)(h2:0<y):0<x+y:=d9.1 fun hg=>far (aB (aB (aE h1) (le_of_lt (aE h2))) (aA hg)) (Sb x y)
theorem DO: -(0:RE)=0:=by rw[←zero_add (-0),ot]
theorem tc(x:RE):sg (-x)= -sg x:=by
 rcases bZ x with⟨h,e⟩|⟨h,e⟩|⟨h,e⟩<;>rw[e]
 ·exact im (Hk h)
 ·rw[h,DO,dE];rfl
 ·exact dR (iD h)
theorem dU(x y:RE):sg (x*y)=sg x*sg y:=by
 rcases bZ x with⟨h,e⟩|⟨h,e⟩|⟨h,e⟩<;>rw[e]
 ·rcases bZ y with⟨h',e'⟩|⟨h',e'⟩|⟨h',e'⟩<;>rw[e']
  ·exact dR (mul_pos h h')
  ·rw[h',mul_zero,dE];rfl
  ·exact im (Hx _ _ h h')
 ·rw[h,zero_mul,dE];omega
 ·rcases bZ y with⟨h',e'⟩|⟨h',e'⟩|⟨h',e'⟩<;>rw[e']
  ·rw[mul_comm];exact im (Hx _ _ h' h)
  ·rw[h',mul_zero,dE];rfl
  ·have:=mul_pos (iD h) (iD h')
   rw[neg_mul,mul_neg,neg_neg]at this
   exact dR this
theorem sg_of(q:Rat):sg (of q)=aV q 0:=by
 rcases(by grind:q<0∨q=0∨0<q)with h|h|h
 ·rw[dh h];exact im (iI h)
 ·rw[h,dN];exact dE
 ·rw[c9 h];exact dR (iI h)
def addS(s t d:Int):Int:=bif t==0||s==t then s else bif s==0 then t else s*d
theorem IQ(x y:RE):sg (x+y)=addS (sg x) (sg y) (sg (x*x-y*y)):=by
 rw[←Gw,dU]
 rcases bZ x with⟨h,e⟩|⟨h,e⟩|⟨h,e⟩<;>rw[e]
 ·rcases bZ y with⟨h',e'⟩|⟨h',e'⟩|⟨h',e'⟩<;>rw[e']
  ·exact dR (Qn _ _ h h')
  ·rw[h',add_zero,e];rfl
  ·rw[dR (OX _ _ h h')]
   show _=1*(_*1)
   omega
 ·rcases bZ y with⟨h',e'⟩|⟨h',e'⟩|⟨h',e'⟩<;>rw[e',h,zero_add,e']<;>rfl
 ·rcases bZ y with⟨h',e'⟩|⟨h',e'⟩|⟨h',e'⟩<;>rw[e']
  ·rw[im (SE _ _ h h')]
   show _= -1*(_* -1)
   omega
  ·rw[h',add_zero,e];rfl
  ·exact im (ami _ _ h h')
theorem aqH(x:RE): -1≤sg x∧sg x≤1:=by rcases bZ x with⟨_,e⟩|⟨_,e⟩|⟨_,e⟩<;>rw[e]<;>omega
end RE
end
end Go.Proofs.YtlahabkjhgkkjaaGreat
end
