/- integer: DivMod, word. -/
import Derived.Test.YtlahabkjhgkkjaaGreatX8
noncomputable section
namespace Go.Proofs.YtlahabkjhgkkjaaGreat
open Go.RowKit Go.IntKind
theorem at5:type_of% @Quotient.inductionOn:=@Quotient.inductionOn
theorem auE:type_of% @decide_eq_decide:=@decide_eq_decide
theorem auF:type_of% @Rat.mul_nonneg:=@Rat.mul_nonneg
theorem ave:type_of% @Rat.num_divInt_den:=@Rat.num_divInt_den
theorem avf:type_of% @Rat.mul_pos:=@Rat.mul_pos
theorem avl:type_of% @Int.eq_ofNat_of_zero_le:=@Int.eq_ofNat_of_zero_le
theorem avt:type_of% @Int.natAbs_natCast:=@Int.natAbs_natCast
theorem avU:type_of% @Int.lt_or_lt_of_ne:=@Int.lt_or_lt_of_ne
theorem av6:type_of% @Nat.gcd_comm:=@Nat.gcd_comm
theorem awj:type_of% @Rat.intCast_natCast:=@Rat.intCast_natCast
theorem awm:type_of% @Rat.divInt_ofNat:=@Rat.divInt_ofNat
theorem awo:type_of% @Rat.intCast_le_intCast:=@Rat.intCast_le_intCast
theorem awu:type_of% @Rat.sub_eq_add_neg:=@Rat.sub_eq_add_neg
theorem awA:type_of% @Nat.mul_ne_zero:=@Nat.mul_ne_zero
theorem awB:type_of% @Int.mul_ne_zero:=@Int.mul_ne_zero
theorem awC:type_of% @Rat.divInt_mul_divInt:=@Rat.divInt_mul_divInt
theorem awD:type_of% @Quotient.inductionOn₂:=@Quotient.inductionOn₂
theorem awE:type_of% @Quotient.inductionOn₃:=@Quotient.inductionOn₃
theorem awL:type_of% @Quotient.sound:=@Quotient.sound
theorem awN:type_of% @Rat.div_def:=@Rat.div_def
theorem awY:type_of% @Rat.num_mkRat:=@Rat.num_mkRat
theorem awZ:type_of% @Rat.den_mkRat:=@Rat.den_mkRat
def eH(x y:BI):Prop:=okI x∧okI y∧0<ah y
instance (x y:BI):Decidable (eH x y):=by unfold eH;infer_instance
theorem HP{a b:Int}(_ha:0≤a)(hb:0<b):(a%b=0→ -a/b= -(a/b)∧ -a%b=0)∧(0<a%b→ -a/b= -(a/b)-1∧ -a%b= -(a%b)+b):=by
 have h1:=avi a (show b≠0 by omega)
 have h2:=auL a hb
 have h3:=auU a b
 constructor
 ·intro h
  have e: -a=b* -(a/b):=by rw[awM];omega
  constructor
  ·rw[e,awg _ (by omega)]
  ·rw[e,Int.mul_emod_right]
 ·intro h
  have e: -a=(b-a%b)+b*(-(a/b)-1):=by rw[Int.mul_sub,awM,av9];omega
  constructor
  ·rw[e,avS _ _ (by omega),avq (by omega) (by omega)];omega
  ·rw[e,av3,awf (by omega) (by omega)];omega
theorem m6:okI (ak 1):=by decide
theorem Au(n:Bool){v:Int}:szI (cf n v)=szI v:=by unfold cf;cases n<;>simp[gP]
theorem J2(x y:BI)(h:eH x y):Con Tryz.prog 287 [.d y2Y x,.d y2Y y] [.d y2Y (ak (ah x/ah y)),.d y2Y (ak (ah x%ah y)),.d axf 0]:=by
 refine aP K0 (anU _ _ ⟨0,?_⟩)
 obtain⟨hx,hy,hp⟩:=h
 obtain⟨x0,x1,x2⟩:=cA hx
 obtain⟨y0,y1,y2⟩:=cA hy
 have sx:=hx.2.2
 have sy:=hy.2.2
 have ey:y.1=false:=by
  cases e:y.1
  ·rfl
  ·rw[bS,e]at hp
   simp only[cf,cond_true]at hp
   omega
 have dy:ah y=val y.2:=by rw[bS,ey];rfl
 rw[dy]at hp
 have hdv:lY x.2 y.2:=⟨⟨hx.1.1,by omega⟩,⟨hy.1.1,by omega⟩,hp⟩
 obtain⟨lq,lr,sq,sr,vq,vr⟩:=ac3 hdv
 have hne:y.2≠[]:=fun e=>by rw[y2]at e;omega
 have hylen:=auR.2 hne
 have r0:=avi (val x.2) (show val y.2≠0 by omega)
 have r1:=auL (val x.2) hp
 have q0:0≤val x.2/val y.2:=avd x0 y0
 have q1:val x.2/val y.2≤val x.2:=avW _ x0
 have vx:=bZ hx.1.1
 have vy:=bZ hy.1.1
 have szq:szI (val x.2/val y.2)≤1000000:=eE (by have:=b8 1000000;omega) (by have:=c7 sx;omega)
 have szr:szI (val x.2%val y.2)≤1000000:=eE (by have:=b8 1000000;omega) (by have:=c7 sy;omega)
 unfold ac7
 simp only[aK]
 rw[show((y.2.length:Int)==0)=false by simp;omega,at7 hdv,at7 (show bi (dvQ x.2 y.2) from⟨lq,by omega⟩),at7 (show bi (dvR x.2 y.2) from⟨lr,by omega⟩),at7 (show aY 1 by decide),vq,vr,
  at7 (show okI (ak (cf (!(x.1==y.1)) (val x.2/val y.2)))∧okI (ak (1:Int)) from⟨bu (by rw[Au];exact szq),m6⟩),at7 (show okI (ak (cf x.1 (val x.2%val y.2)))∧okI y from⟨bu (by rw[Au];exact szr),hy⟩)]
 simp only[dec_enc,dy,ao]
 have hE1:(ak (cf x.1 (val x.2%val y.2))).1=(x.1&&decide (0<val x.2%val y.2)):=by rw[kJ x.1 r0]
 have hE2:(ak (cf x.1 (val x.2%val y.2))).2=ai (val x.2%val y.2).toNat:=by rw[kJ x.1 r0]
 rw[hE1,hE2,bS x,ey]
 have hlen:(((ai (val x.2%val y.2).toNat).length:Int)>0)↔0<val x.2%val y.2:=by
  constructor
  ·intro hl
   rcases auC 0 (val x.2%val y.2)with h|h
   ·exact h
   ·rw[show(val x.2%val y.2).toNat=0 by omega,eD]at hl
    simp at hl
  ·intro hl
   have:ai (val x.2%val y.2).toNat≠[]:=fun e=>by rw[fU]at e;omega
   have:=auR.2 this
   omega
 obtain⟨n1,n2⟩:=HP (a:=val x.2) (b:=val y.2) x0 hp
 rcases auC 0 (val x.2%val y.2)with hr|hr
 ·rw[at7 (hlen.2 hr),at7 hr]
  cases x.1
  ·rfl
  ·obtain⟨e1,e2⟩:=n2 hr
   simp only[cf,cond_true,Bool.not_false,auc,show((true==false):Bool)=false from rfl]
   rw[e1,e2]
 ·rw[at9 (fun h'=>by have:=hlen.1 h';omega)]
  dsimp only
  have e0:val x.2%val y.2=0:=by omega
  cases x.1
  ·simp only[cf,cond_false,show((false==false):Bool)=true from rfl,Bool.not_true]
  ·obtain⟨e1,e2⟩:=n1 e0
   simp only[cf,cond_true,show((true==false):Bool)=false from rfl,Bool.not_false]
   rw[e1,e2,e0]
   rfl
def ja(x:BI):Bool:=decide (x.2.length≤2)
def xk(x:BI):Int:=bif ja x then val x.2 else 0
def ane:Ctx:=CX [] []
def afY(x:Bool×List Int)(_k:KT):Option (List RV):=match(x.2.length:Int)==0 with|true=>some [RV.d (.int .u64) 0,RV.d .bool true]|false=>(match(x.2.length:Int)==1 with|true=>(match bH x.2 0 with|some x1=>some [RV.d (.int .u64) (u64.wrap x1),RV.d .bool true]|none=>none)|false=>(match(x.2.length:Int)==2 with|true=>(match bH x.2 1 with|some x2=>(match bH x.2 0 with|some x3=>some [RV.d (.int .u64) (u64.wrap ((u64.wrap ((u64.wrap x2)*1000000000))+(u64.wrap x3))),RV.d .bool true]|none=>none)|none=>none)|false=>some [RV.d (.int .u64) 0,RV.d .bool false]))
theorem alH(x:Bool×List Int):RS ane 285 [.d y2Y x] (afY x):=rsX
theorem XY(x:BI)(h:okI x):Con Tryz.prog 285 [.d y2Y x] [.d (.int .u64) (xk x),.d .bool (ja x)]:=by
 refine aP (E:=[]) trivial (alH _ ⟨0,?_⟩)
 obtain⟨neg,l⟩:=x
 have hl:=h.1.1
 unfold afY xk ja
 match l,hl with
 |[],_=>rfl
 |[a],hl=>
  have:=hl.head
  simp only[auH,yL,auS]
  rw[bK (x:=a) (by omega) (by omega)]
  simp[val]
 |[a,b],hl=>
  have h1:=hl.head
  have h2:=hl.tail.head
  have e1:bH [a,b] 1=some b:=rfl
  have e0:bH [a,b] 0=some a:=rfl
  simp only[e1,e0,auD,List.length_nil]
  rw[bK (x:=a) (by omega) (by omega),bK (x:=b) (by omega) (by omega),bK (x:=b*1000000000) (by omega) (by omega),bK (x:=b*1000000000+a) (by omega) (by omega)]
  rw[show val [a,b]=b*1000000000+a by simp only[val];omega]
  rfl
 |a::b::c::l,hl=>
  have e:decide ((a::b::c::l).length≤2)=false:=at9 (by simp)
  rw[e,show(((a::b::c::l).length:Int)==0)=false by simp;omega,show(((a::b::c::l).length:Int)==1)=false by simp;omega,show(((a::b::c::l).length:Int)==2)=false by simp;omega]
  rfl
def Sj:aN:=spN false false [y2Y] (fun x=>decide (okI x.1)) (fun x=>[RV.d (.int .u64) (xk x.1),RV.d .bool (ja x.1)])
theorem W8:SpK 285 Sj:=spX fun x h=>XY x.1 (at6 h)
def MQ:Env:=[(226,wO),(227,BW),(286,Hu),(285,Sj)]
theorem Lu:EnvAll Tryz.prog MQ:=⟨qy,xg,Ct,W8,trivial⟩
def agO:NT:=[((261,6),{keep:=[4,5,6],hl:=5}),((261,24),{keep:=[4,7,9],hl:=3})]
def gb:Ctx:=CX MQ agO
def jS(x y:Bool×List Int)(b3_0:Bool)(b3_1:List Int)(b4_0:Bool)(b4_1:List Int):Cfg:=⟨261,[.blk 0,.seq 40],[(4,.box 2 0),(5,.box 3 0),(6,.box 4 0)],[.box 33 [SB x.1,.d axe x.2],.box 33 [SB y.1,.d axe y.2],.box 33 [SB false,.nil],.box 33 [SB b3_0,.d axe b3_1],.box 33 [SB b4_0,.d axe b4_1]],0,[]⟩
def fE(x y:Bool×List Int)(b3_0:Bool)(b3_1:List Int)(b4_0:Bool)(b4_1:List Int):Cfg:=⟨261,[.blk 0,.seq 40],[(4,.box 2 0),(5,.box 4 0),(6,.box 3 0)],[.box 33 [SB x.1,.d axe x.2],.box 33 [SB y.1,.d axe y.2],.box 33 [SB false,.nil],.box 33 [SB b3_0,.d axe b3_1],.box 33 [SB b4_0,.d axe b4_1]],0,[]⟩
def gS(x y:Bool×List Int)(s7 s9:Int):Cfg:=⟨261,[.blk 2,.seq 33,.seq 37,.blk 1,.lp 6,.blk 0,.seq 40],[(4,.box 2 0),(7,.d (.int .u64) s7),(9,.d (.int .u64) s9)],[.box 33 [SB x.1,.d axe x.2],.box 33 [SB y.1,.d axe y.2],.box 33 [SB false,.nil]],0,[]⟩
def afk(x y:Bool×List Int)(k:KT):Option (List RV):=let y1:=ak (cf false (val x.2));let y2:=ak (cf false (val y.2));let y3:=jS x y (y1.1) (y1.2) (y2.1) (y2.2);let y4:=fE x y (y2.1) (y2.2) (y1.1) (y1.2);let y5:Option (List RV):=match decide (bi y.2)with|true=>k 6 y3|false=>none;let y6:Option (List RV):=match decide (bi y.2)with|true=>k 6 y4|false=>none;cp (match decide (bi x.2)with|true=>cp (match decide (bi y.2)with|true=>cp (k 6 y3) (k 6 y4)|false=>none) (cp (dup (.b .l .l) y5) (dup (.b .l .l) y6))|false=>none) (cp (cp (match decide (bi x.2)with|true=>dup (.b .l .l) y5|false=>none) (match decide (bi x.2)with|true=>y5|false=>none)) (cp (match decide (bi x.2)with|true=>dup (.b .l .l) y6|false=>none) (match decide (bi x.2)with|true=>y6|false=>none)))
theorem aly(x y:Bool×List Int):RS gb 261 [.d y2Y x,.d y2Y y] (afk x y):=rsX
def Up(x y:Bool×List Int)(b3_0:Bool)(b3_1:List Int)(b4_0:Bool)(b4_1:List Int)(k:KT):Option (List RV):=match decide ((b4_1.length:Int)>0)with|true=>(match decide (okI (b3_0,b3_1))with|true=>(match decide (okI (b4_0,b4_1))with|true=>(match ja (b3_0,b3_1)with|true=>(match ja (b4_0,b4_1)with|true=>k 24 (gS x y (xk (b3_0,b3_1)) (xk (b4_0,b4_1)))|false=>(match decide (lY b3_1 b4_1)with|true=>(match decide (bi (dvR b3_1 b4_1))with|true=>k 6 (jS x y b4_0 b4_1 ((ak (cf false (val (dvR b3_1 b4_1)))).1) ((ak (cf false (val (dvR b3_1 b4_1)))).2))|false=>none)|false=>none))|false=>(match decide (lY b3_1 b4_1)with|true=>(match decide (bi (dvR b3_1 b4_1))with|true=>k 6 (jS x y b4_0 b4_1 ((ak (cf false (val (dvR b3_1 b4_1)))).1) ((ak (cf false (val (dvR b3_1 b4_1)))).2))|false=>none)|false=>none))|false=>none)|false=>none)|false=>(match decide (b3_1.length*4≤140737488355328∧b3_1.length≤140737488355328)with|true=>(match decide (bi b3_1)with|true=>some [RV.d y2Y (ak (cf false (val b3_1)))]|false=>none)|false=>none)
theorem Xl(x y:Bool×List Int)(b3_0:Bool)(b3_1:List Int)(b4_0:Bool)(b4_1:List Int):RL gb 6 (jS x y b3_0 b3_1 b4_0 b4_1) (Up x y b3_0 b3_1 b4_0 b4_1):=rlX
def FG(x y:Bool×List Int)(b3_0:Bool)(b3_1:List Int)(b4_0:Bool)(b4_1:List Int)(k:KT):Option (List RV):=match decide ((b3_1.length:Int)>0)with|true=>(match decide (okI (b4_0,b4_1))with|true=>(match decide (okI (b3_0,b3_1))with|true=>(match ja (b4_0,b4_1)with|true=>(match ja (b3_0,b3_1)with|true=>k 24 (gS x y (xk (b4_0,b4_1)) (xk (b3_0,b3_1)))|false=>(match decide (lY b4_1 b3_1)with|true=>(match decide (bi (dvR b4_1 b3_1))with|true=>k 6 (fE x y ((ak (cf false (val (dvR b4_1 b3_1)))).1) ((ak (cf false (val (dvR b4_1 b3_1)))).2) b3_0 b3_1)|false=>none)|false=>none))|false=>(match decide (lY b4_1 b3_1)with|true=>(match decide (bi (dvR b4_1 b3_1))with|true=>k 6 (fE x y ((ak (cf false (val (dvR b4_1 b3_1)))).1) ((ak (cf false (val (dvR b4_1 b3_1)))).2) b3_0 b3_1)|false=>none)|false=>none))|false=>none)|false=>none)|false=>(match decide (b4_1.length*4≤140737488355328∧b4_1.length≤140737488355328)with|true=>(match decide (bi b4_1)with|true=>some [RV.d y2Y (ak (cf false (val b4_1)))]|false=>none)|false=>none)
theorem E7(x y:Bool×List Int)(b3_0:Bool)(b3_1:List Int)(b4_0:Bool)(b4_1:List Int):RL gb 6 (fE x y b3_0 b3_1 b4_0 b4_1) (FG x y b3_0 b3_1 b4_0 b4_1):=rlX
def sh(x y:Bool×List Int)(s7 s9:Int)(k:KT):Option (List RV):=match decide (s9>0)with|true=>(match decide (s9=(0:Int))with|true=>none|false=>k 24 (gS x y s9 (Int.tmod s7 s9)))|false=>(match decide (fN s7)with|true=>(match decide (bi (dig 3 s7))with|true=>some [RV.d y2Y (ak (cf false (val (dig 3 s7))))]|false=>none)|false=>none)
theorem yq(x y:Bool×List Int)(s7 s9:Int):RL gb 24 (gS x y s7 s9) (sh x y s7 s9):=rlX
theorem R8(x y:BI)(B:Nat)(hB:(B:Int)<18446744073709551616):∀(v u:Nat),u≤B→v≤B→gb.RunsE 24 (gS x y (u:Int) (v:Int)) [.d y2Y (ak ((Nat.gcd u v:Nat):Int))]:=by
 intro v
 induction v using Nat.strongRecOn with
 |ind v ih=>
  intro u hu hv
  rcases auQ v with h0|h0
  ·refine yq _ _ _ _ ⟨0,fun n _=>?_⟩
   have hp:fN (u:Int):=⟨by omega,by omega⟩
   unfold sh
   rw[at9 (show ¬(v:Int)>0 by omega),at7 hp,at7 (hZ (n:=3) (by decide) (u:Int)),uK hp,show Nat.gcd u v=u by rw[h0];exact Nat.gcd_zero_right u]
   rfl
  ·obtain⟨n0,hn⟩:=ih (u%v) (awP _ h0) v hv (aur (Nat.le_of_lt (awP _ h0)) hv)
   refine yq _ _ _ _ ⟨n0,fun n hn'=>?_⟩
   unfold sh
   rw[at7 (by omega),at9 (by omega),ic (by omega)]
   dsimp only
   rw[show((u:Int)%(v:Int))=((u%v:Nat):Int) by simp,av6 u v,Nat.gcd_rec v u,av6]
   exact hn n hn'
theorem zs(v:Int):cf false v=v:=rfl
theorem gV(u:Nat):ak (u:Int)=(false,ai u):=by unfold ak;rw[at9 (by omega),avt]
theorem yE{u:Nat}(h:(ai u).length≤2):u≤(pw 2).toNat:=by
 have h1:=bZ (b9 u)
 rw[bL]at h1
 have h2:=c7 h
 omega
theorem akD:(((pw 2).toNat:Nat):Int)<18446744073709551616:=by
 have h3:pw 2=1000000000000000000:=by decide
 rw[h3]
 decide
theorem Dj{k:Nat→Cfg→Option (List RV)}{u v:Nat}(hu:szI u≤1000000)(hv:szI v≤1000000){r:List RV}{H:Int→Int→Cfg}{D:Int→Cfg}
  (h1:v=0→r=[.d y2Y (ak (u:Int))]) (h2:v≠0→ja (ak (u:Int))=true→ja (ak (v:Int))=true→k 24 (H (u:Int) (v:Int))=some r) (h3:v≠0→k 6 (D ((u%v:Nat):Int))=some r) (D':List Int→Cfg) (hD:D' (dvR (ai u) (ai v))=D (val (dvR (ai u) (ai v)))):
  (match decide (((ai v).length:Int)>0)with
   |true=>(match decide (okI (ak (u:Int)))with
    |true=>(match decide (okI (ak (v:Int)))with
     |true=>(match ja (ak (u:Int))with
      |true=>(match ja (ak (v:Int))with
       |true=>k 24 (H (xk (ak (u:Int))) (xk (ak (v:Int))))
       |false=>(match decide (lY (ai u) (ai v))with
        |true=>(match decide (bi (dvR (ai u) (ai v)))with
         |true=>k 6 (D' (dvR (ai u) (ai v)))
         |false=>none)
        |false=>none))
      |false=>(match decide (lY (ai u) (ai v))with
        |true=>(match decide (bi (dvR (ai u) (ai v)))with
         |true=>k 6 (D' (dvR (ai u) (ai v)))
         |false=>none)
        |false=>none))
     |false=>none)
    |false=>none)
   |false=>(match decide ((ai u).length*4≤140737488355328∧(ai u).length≤140737488355328)with
    |true=>(match decide (bi (ai u))with
     |true=>some [.d y2Y (ak (cf false (val (ai u))))]
     |false=>none)
    |false=>none))=some r:=by
 have lu:(ai u).length≤1000000:=by have:=hu;unfold szI at this;rwa [avt]at this
 have lv:(ai v).length≤1000000:=by have:=hv;unfold szI at this;rwa [avt]at this
 rcases auQ v with h0|h0
 ·subst h0
  rw[h1 rfl,show decide (((ai 0).length:Int)>0)=false from rfl,at7 (show(ai u).length*4≤140737488355328∧(ai u).length≤140737488355328 by omega),at7 (show bi (ai u) from⟨b9 u,by omega⟩),bL]
  rfl
 ·have hne:ai v≠[]:=fun e=>by rw[fU]at e;omega
  have hl:=auR.2 hne
  have hvv:=bL v
  have hvu:=bL u
  have hdv:lY (ai u) (ai v):=⟨⟨b9 u,by omega⟩,⟨b9 v,by omega⟩,by omega⟩
  obtain⟨_,lr,_,sr,_,vr⟩:=ac3 hdv
  have hD2:k 6 (D' (dvR (ai u) (ai v)))=some r:=by
   rw[hD,vr,hvv,hvu]
   exact h3 (by omega)
  rw[at7 (by omega),at7 (bu hu),at7 (bu hv),at7 hdv,at7 (show bi (dvR (ai u) (ai v)) from⟨lr,by omega⟩)]
  dsimp only
  cases hb1:ja (ak (u:Int))
  ·exact hD2
  ·cases hb2:ja (ak (v:Int))
   ·exact hD2
   ·dsimp only
    have:=h2 (by omega) hb1 hb2
    unfold xk
    rw[hb1,hb2]
    simp only[cond_true,gV]
    rw[hvv,hvu]
    exact this
theorem M3(x y:BI):∀(v u:Nat),szI u≤1000000→szI v≤1000000→
  gb.RunsE 6 (jS x y false (ai u) false (ai v)) [.d y2Y (ak ((Nat.gcd u v:Nat):Int))]∧gb.RunsE 6 (fE x y false (ai v) false (ai u)) [.d y2Y (ak ((Nat.gcd u v:Nat):Int))]:=by
 intro v
 induction v using Nat.strongRecOn with
 |ind v ih=>
  intro u hu hv
  have hw:ja (ak (u:Int))=true→ja (ak (v:Int))=true→gb.RunsE 24 (gS x y (u:Int) (v:Int)) [.d y2Y (ak ((Nat.gcd u v:Nat):Int))]:=fun h1 h2=>by
   unfold ja at h1 h2
   rw[gV]at h1 h2
   exact R8 x y _ akD v u (yE (at6 h1)) (yE (at6 h2))
  have hd:v≠0→gb.RunsE 6 (jS x y false (ai v) false (ai (u%v))) [.d y2Y (ak ((Nat.gcd u v:Nat):Int))]∧gb.RunsE 6 (fE x y false (ai (u%v)) false (ai v)) [.d y2Y (ak ((Nat.gcd u v:Nat):Int))]:=fun h0=>by
   have hm:=awP u (Nat.pos_of_ne_zero h0)
   have:=ih (u%v) hm v hv (aur (dl (by omega)) hv)
   rw[av6 u v,Nat.gcd_rec v u,av6 (u%v) v]
   exact this
  have hcommon:∃n0,∀n,n0≤n→(ja (ak (u:Int))=true→ja (ak (v:Int))=true→gb.k n 24 (gS x y (u:Int) (v:Int))=some [.d y2Y (ak ((Nat.gcd u v:Nat):Int))])∧(v≠0→gb.k n 6 (jS x y false (ai v) false (ai (u%v)))=some [.d y2Y (ak ((Nat.gcd u v:Nat):Int))]∧gb.k n 6 (fE x y false (ai (u%v)) false (ai v))=some [.d y2Y (ak ((Nat.gcd u v:Nat):Int))]):=by
   have g1:∃n1,∀n,n1≤n→(ja (ak (u:Int))=true→ja (ak (v:Int))=true→gb.k n 24 (gS x y (u:Int) (v:Int))=some [.d y2Y (ak ((Nat.gcd u v:Nat):Int))]):=by
    by_cases hb:ja (ak (u:Int))=true∧ja (ak (v:Int))=true
    ·obtain⟨n,h⟩:=hw hb.1 hb.2
     exact⟨n,fun m hm _ _=>h m hm⟩
    ·exact⟨0,fun n _ h1 h2=>absurd ⟨h1,h2⟩ hb⟩
   have g2:∃n1,∀n,n1≤n→(v≠0→gb.k n 6 (jS x y false (ai v) false (ai (u%v)))=some [.d y2Y (ak ((Nat.gcd u v:Nat):Int))]∧gb.k n 6 (fE x y false (ai (u%v)) false (ai v))=some [.d y2Y (ak ((Nat.gcd u v:Nat):Int))]):=by
    by_cases hb:v=0
    ·exact⟨0,fun n _ h=>absurd hb h⟩
    ·obtain⟨⟨n1,h1⟩,⟨n2,h2⟩⟩:=hd hb
     exact⟨max n1 n2,fun n hn _=>⟨h1 n (by omega),h2 n (by omega)⟩⟩
   obtain⟨n1,h1⟩:=g1
   obtain⟨n2,h2⟩:=g2
   exact⟨max n1 n2,fun n hn=>⟨h1 n (by omega),h2 n (by omega)⟩⟩
  obtain⟨n0,hc⟩:=hcommon
  have hz:v=0→([.d y2Y (ak ((Nat.gcd u v:Nat):Int))]:List RV)=[.d y2Y (ak (u:Int))]:=fun e=>by subst e;rw[Nat.gcd_zero_right]
  constructor
  ·refine Xl _ _ _ _ _ _ ⟨n0,fun n hn=>?_⟩
   have:=Dj (k:=gb.k n) hu hv (H:=fun a b=>gS x y a b) (D:=fun z=>jS x y false (ai v) (ak z).1 (ak z).2) hz (fun _ h1 h2=>(hc n hn).1 h1 h2) (fun h0=>by rw[gV];exact((hc n hn).2 h0).1) (fun l=>jS x y false (ai v) (ak (cf false (val l))).1 (ak (cf false (val l))).2) rfl
   rw[gV,gV]at this
   exact this
  ·refine E7 _ _ _ _ _ _ ⟨n0,fun n hn=>?_⟩
   have:=Dj (k:=gb.k n) hu hv (H:=fun a b=>gS x y a b) (D:=fun z=>fE x y (ak z).1 (ak z).2 false (ai v)) hz (fun _ h1 h2=>(hc n hn).1 h1 h2) (fun h0=>by rw[gV];exact((hc n hn).2 h0).2) (fun l=>fE x y (ak (cf false (val l))).1 (ak (cf false (val l))).2 false (ai v)) rfl
   rw[gV,gV]at this
   exact this
theorem Yx(x y:BI)(h:okI x∧okI y):Con Tryz.prog 261 [.d y2Y x,.d y2Y y] [.d y2Y (ak ((Int.gcd (ah x) (ah y):Nat):Int))]:=by
 refine aP Lu (show gb.Res _ _ _ from ?_)
 obtain⟨hx,hy⟩:=h
 obtain⟨x0,_,_⟩:=cA hx
 obtain⟨y0,_,_⟩:=cA hy
 have ex:((ah x).natAbs:Int)=val x.2:=by rw[bS];unfold cf;cases x.1<;>simp<;>omega
 have ey:((ah y).natAbs:Int)=val y.2:=by rw[bS];unfold cf;cases y.1<;>simp<;>omega
 have szx:szI ((ah x).natAbs:Int)≤1000000:=aur (dl (by omega)) (gJ hx)
 have szy:szI ((ah y).natAbs:Int)≤1000000:=aur (dl (by omega)) (gJ hy)
 obtain⟨⟨n1,h1⟩,⟨n2,h2⟩⟩:=M3 x y (ah y).natAbs (ah x).natAbs szx szy
 refine aly _ _ ⟨max n1 n2,?_⟩
 have h1:=h1 (max n1 n2) (by omega)
 have h2:=h2 (max n1 n2) (by omega)
 unfold afk
 simp only[aK]
 rw[at7 (fi hx),at7 (fi hy),zs,zs,←ex,←ey,gV,gV]
 dsimp only
 rw[h1,h2]
 simp only[ao]
 rfl
abbrev BR:=BI×BI
def ag(q:Rat):BR:=(ak q.num,ak (q.den:Int))
def ae(x:BR):Rat:=mkRat (ah x.1) (ah x.2).toNat
theorem az(q:Rat):ae (ag q)=q:=by
 unfold ae ag
 dsimp only
 rw[dec_enc,dec_enc,avP,Rat.mkRat_self]
def okR(x:BR):Prop:=okI x.1∧okI x.2∧0<ah x.2∧Int.gcd (ah x.1) (ah x.2)=1∧x.1.2.length≤480000∧x.2.2.length≤480000
instance (x:BR):Decidable (okR x):=by unfold okR;infer_instance
theorem cL{x:BR}(h:okR x):(ae x).num=ah x.1∧((ae x).den:Int)=ah x.2:=by
 obtain⟨h1,h2,h3,h4,_⟩:=h
 unfold ae
 rw[awY,awZ]
 have hg:(ah x.2).toNat.gcd (ah x.1).natAbs=1:=by
  rw[av6,show(ah x.2).toNat=(ah x.2).natAbs by omega]
  exact h4
 rw[hg,aus (by omega),aus (by omega)]
 constructor
 ·simp
 ·rw[Nat.div_one];omega
theorem XN{x:BR}(h:okR x):x=ag (ae x):=by
 obtain⟨e1,e2⟩:=cL h
 unfold ag
 rw[e1,e2,←ge h.1,←ge h.2.1]
def bdR(k:Nat)(q:Rat):Prop:=szI q.num≤k∧szI (q.den:Int)≤k
theorem nO{q:Rat}{k:Nat}(h:bdR k q)(hk:k≤480000):okR (ag q):=by
 obtain⟨h1,h2⟩:=h
 have hd:=q.den_pos
 refine⟨bu (by omega),bu (by omega),?_,?_,by show szI q.num≤480000;omega,by show szI (q.den:Int)≤480000;omega⟩
 ·show 0<ah (ak (q.den:Int))
  rw[dec_enc];omega
 ·show Int.gcd (ah (ak q.num)) (ah (ak (q.den:Int)))=1
  rw[dec_enc,dec_enc]
  exact q.reduced
theorem Ae{x:BR}(h:okR x):bdR 480000 (ae x):=by
 obtain⟨e1,e2⟩:=cL h
 obtain⟨h1,h2,_,_,h5,h6⟩:=h
 unfold bdR szI
 rw[e1,e2]
 rw[ge h1]at h5
 rw[ge h2]at h6
 exact⟨h5,h6⟩
theorem bT{j k:Nat}{q:Rat}(h:bdR j q)(hk:j≤k):bdR k q:=⟨aur h.1 hk,aur h.2 hk⟩
theorem Jo(a:Int)(g:Nat):(a/(g:Int)).natAbs≤a.natAbs∨¬(g:Int)∣a:=by
 by_cases h:(g:Int)∣a
 ·left
  obtain⟨k,rfl⟩:=h
  rcases auQ g with h0|h0
  ·subst h0;simp
  ·rw[awg _ (by omega),awK]
   exact Nat.le_mul_of_pos_left _ (by omega)
 ·exact .inr h
theorem sN{n:Int}{d k:Nat}(hd:d≠0)(h1:szI n≤k)(h2:szI (d:Int)≤k):bdR k (mkRat n d):=by
 unfold bdR
 rw[awY,awZ,aus hd,aus hd]
 constructor
 ·refine aur (dl ?_) h1
  refine(Jo n (d.gcd n.natAbs)).resolve_right (fun h=>h ?_)
  have:=Nat.gcd_dvd_right d n.natAbs
  exact Int.ofNat_dvd_left.2 this
 ·exact aur (dl (by rw[avt,avt];exact Nat.div_le_self _ _)) h2
theorem tY{k:Nat}{a:Rat}(h:bdR k a):bdR k (-a):=by
 refine⟨?_,h.2⟩
 rw[Rat.neg_num,gP]
 exact h.1
theorem zX{j k:Nat}{a b:Rat}(ha:bdR j a)(hb:bdR k b):bdR (j+k+1) (a+b):=by
 rw[Rat.add_def']
 have d1:=a.den_pos
 have d2:=b.den_pos
 refine sN (awA (by omega) (by omega)) (um (cK ha.1 hb.2) ?_) ?_
 ·rw[Nat.add_comm];exact cK hb.1 ha.2
 ·rw[avv];exact aur (cK ha.2 hb.2) (by omega)
theorem ZZ{j k:Nat}{a b:Rat}(ha:bdR j a)(hb:bdR k b):bdR (j+k+1) (a-b):=by
 rw[awu];exact zX ha (tY hb)
theorem AW{j k:Nat}{a b:Rat}(ha:bdR j a)(hb:bdR k b):bdR (j+k) (a*b):=by
 rw[Rat.mul_def']
 have d1:=a.den_pos
 have d2:=b.den_pos
 refine sN (awA (by omega) (by omega)) (cK ha.1 hb.1) ?_
 rw[avv]
 exact cK ha.2 hb.2
theorem abs{k:Nat}{a:Rat}(h:bdR k a)(h0:a≠0):bdR k a⁻¹:=by
 have hn:a.num≠0:=fun e=>h0 (Rat.num_eq_zero.1 e)
 rw[Rat.inv_def]
 rcases avU hn with h1|h1
 ·rw[←Rat.neg_divInt_neg,show-a.num=(((-a.num).toNat:Nat):Int) by omega,awm]
  refine sN (by omega) (by rw[gP];exact h.2) ?_
  rw[show(((-a.num).toNat:Nat):Int)= -a.num by omega,gP]
  exact h.1
 ·rw[show a.num=((a.num.toNat:Nat):Int) by omega,awm]
  refine sN (by omega) h.2 ?_
  rw[show((a.num.toNat:Nat):Int)=a.num by omega]
  exact h.1
theorem ab4{j k:Nat}{a b:Rat}(ha:bdR j a)(hb:bdR k b)(h0:b≠0):bdR (j+k) (a/b):=by
 rw[awN];exact AW ha (abs hb h0)
def eg(x y:BI):BR:=ag (Rat.divInt (ah x) (ah y))
def gi(x y:BI):Prop:=okI x∧okI y∧ah y≠0
instance (x y:BI):Decidable (gi x y):=by unfold gi;infer_instance
theorem lw{n d:Int}(hd:0<d):ag (Rat.divInt n d)=(ak (n/(Int.gcd n d:Int)),ak (d/(Int.gcd n d:Int))):=by
 obtain⟨D,rfl⟩:=avl (auJ hd)
 unfold ag
 rw[awm,awY,awZ,aus (by omega),aus (by omega)]
 have e:Int.gcd n (D:Int)=D.gcd n.natAbs:=by rw[av6];rfl
 rw[e,Int.natCast_ediv]
def r7:aN:=spN true false [y2Y] (fun x=>decide (okI x.1)) (fun x=>[RV.d axf (ck (ah x.1) 0)])
theorem mg:SpK 168 r7:=spX fun x h=>Zb x.1 (at6 h)
def pu:aN:=spN true false [y2Y,y2Y] (fun x=>decide (okI x.1∧okI x.2.1)) (fun x=>[RV.d axf (ck (ah x.1) (ah x.2.1))])
theorem jY:SpK 183 pu:=spX fun x h=>JB x.1 x.2.1 (at6 h)
def so:aN:=spN false false [y2Y] (fun x=>decide (okI x.1)) (fun x=>[RV.d y2Y (ak (-ah x.1))])
theorem mn:SpK 254 so:=spX fun x h=>JV x.1 (at6 h)
def qV:aN:=spN false false [y2Y,y2Y] (fun x=>decide (okI x.1∧okI x.2.1)) (fun x=>[RV.d y2Y (ak (ah x.1*ah x.2.1))])
theorem ma:SpK 184 qV:=spX fun x h=>Jm x.1 x.2.1 (at6 h)
def Cd:aN:=spN false false [y2Y,y2Y] (fun x=>decide (eH x.1 x.2.1)) (fun x=>[RV.d y2Y (ak (ah x.1/ah x.2.1)),RV.d y2Y (ak (ah x.1%ah x.2.1)),RV.d axf 0])
theorem uQ:SpK 287 Cd:=spX fun x h=>J2 x.1 x.2.1 (at6 h)
def Fz:aN:=spN false false [y2Y,y2Y] (fun x=>decide (okI x.1∧okI x.2.1)) (fun x=>[RV.d y2Y (ak ((Int.gcd (ah x.1) (ah x.2.1):Nat):Int))])
theorem Dt:SpK 261 Fz:=spX fun x h=>Yx x.1 x.2.1 (at6 h)
def GO:Env:=[(160,mU),(168,r7),(183,pu),(222,mX),(254,so),(184,qV),(287,Cd),(261,Fz)]
theorem yT:EnvAll Tryz.prog GO:=⟨je,mg,jY,i9,mn,ma,uQ,Dt,trivial⟩
def aqh:Ctx:=CX GO []
def afE(_k:KT):Option (List RV):=match decide (aY (1:Int))with|true=>some [RV.d y2Y (ak (1:Int))]|false=>none
theorem aoI:RS aqh 225 [] (afE):=rsX
def ark:Ctx:=CX GO []
def agt(x y:Bool×List Int)(_k:KT):Option (List RV):=match decide (eH x y)with|true=>some [RV.d y2Y (ak (ah x/ah y))]|false=>none
theorem anF(x y:Bool×List Int):RS ark 262 [.d y2Y x,.d y2Y y] (agt x y):=rsX
theorem acr:Con Tryz.prog 225 [] [.d y2Y (ak 1)]:=by
 refine aP yT (aoI ⟨0,?_⟩)
 unfold afE
 rw[at7 (show aY 1 by decide)]
theorem YR(x y:BI)(h:eH x y):Con Tryz.prog 262 [.d y2Y x,.d y2Y y] [.d y2Y (ak (ah x/ah y))]:=by
 refine aP yT (anF _ _ ⟨0,?_⟩)
 unfold agt
 rw[at7 h]
def wd:aN:=spN false false [] (fun _=>true) (fun _=>[RV.d y2Y (ak 1)])
theorem pA:SpK 225 wd:=spX fun _ _=>acr
def M7:aN:=spN false false [y2Y,y2Y] (fun x=>decide (eH x.1 x.2.1)) (fun x=>[RV.d y2Y (ak (ah x.1/ah x.2.1))])
theorem XI:SpK 262 M7:=spX fun x h=>YR x.1 x.2.1 (at6 h)
def Qp:Env:=[(160,mU),(168,r7),(183,pu),(222,mX),(254,so),(184,qV),(287,Cd),(261,Fz),(225,wd),(262,M7)]
theorem Kx:EnvAll Tryz.prog Qp:=⟨je,mg,jY,i9,mn,ma,uQ,Dt,pA,XI,trivial⟩
def arF:Ctx:=CX Qp []
def ae4(x y:Bool×List Int)(_k:KT):Option (List RV):=match decide (okI y)with|true=>(match decide ((ck (ah y) 0)<0)with|true=>(match decide (okI x)with|true=>(match decide (okI y)with|true=>(match decide (okI (ak (-ah x))∧okI (ak (-ah y)))with|true=>(match decide (okI (ak ((Int.gcd (ah (ak (-ah x))) (ah (ak (-ah y))):Nat):Int))∧okI (ak 1))with|true=>(match(ck (ah (ak ((Int.gcd (ah (ak (-ah x))) (ah (ak (-ah y))):Nat):Int))) (ah (ak 1))) !=0 with|true=>(match decide (eH (ak (-ah x)) (ak ((Int.gcd (ah (ak (-ah x))) (ah (ak (-ah y))):Nat):Int)))with|true=>(match decide (eH (ak (-ah y)) (ak ((Int.gcd (ah (ak (-ah x))) (ah (ak (-ah y))):Nat):Int)))with|true=>some [RV.d (.st (.pair y2Y y2Y)) ((ak (ah (ak (-ah x))/ah (ak ((Int.gcd (ah (ak (-ah x))) (ah (ak (-ah y))):Nat):Int)))),(ak (ah (ak (-ah y))/ah (ak ((Int.gcd (ah (ak (-ah x))) (ah (ak (-ah y))):Nat):Int)))))]|false=>none)|false=>none)|false=>some [RV.d (.st (.pair y2Y y2Y)) ((ak (-ah x)),(ak (-ah y)))])|false=>none)|false=>none)|false=>none)|false=>none)|false=>(match decide (okI x∧okI y)with|true=>(match decide (okI (ak ((Int.gcd (ah x) (ah y):Nat):Int))∧okI (ak 1))with|true=>(match(ck (ah (ak ((Int.gcd (ah x) (ah y):Nat):Int))) (ah (ak 1))) !=0 with|true=>(match decide (eH x (ak ((Int.gcd (ah x) (ah y):Nat):Int)))with|true=>(match decide (eH y (ak ((Int.gcd (ah x) (ah y):Nat):Int)))with|true=>some [RV.d (.st (.pair y2Y y2Y)) ((ak (ah x/ah (ak ((Int.gcd (ah x) (ah y):Nat):Int)))),(ak (ah y/ah (ak ((Int.gcd (ah x) (ah y):Nat):Int)))))]|false=>none)|false=>none)|false=>some [RV.d (.st (.pair y2Y y2Y)) (x,y)])|false=>none)|false=>none))|false=>none
theorem aqm(x y:Bool×List Int):RS arF 221 [.d y2Y x,.d y2Y y] (ae4 x y):=rsX
theorem W9{a b:Int}(hb:b≠0){k:Nat}(h:szI b≤k):szI ((Int.gcd a b:Nat):Int)≤k:=by
 refine aur (dl ?_) h
 rw[avt]
 exact Nat.le_of_dvd (by omega) (Nat.gcd_dvd_right a.natAbs b.natAbs)
theorem ZE(x y:BI)(h:gi x y):Con Tryz.prog 221 [.d y2Y x,.d y2Y y] [.d (.st (.pair y2Y y2Y)) (eg x y)]:=by
 refine aP Kx (aqm _ _ ⟨0,?_⟩)
 obtain⟨hx,hy,hne⟩:=h
 have sx:=gJ hx
 have sy:=gJ hy
 have hgp:0<Int.gcd (ah x) (ah y):=Nat.pos_of_ne_zero fun e=>hne (Int.gcd_eq_zero_iff.1 e).2
 have hgs:=W9 (a:=ah x) hne sy
 unfold ae4 eg
 rw[at7 hy]
 dsimp only
 rcases avU hne with hn|hn
 ·rw[cQ hn,at7 (show(-1:Int)<0 by decide),at7 hx]
  have o1:okI (ak (-ah x)):=bu (by rw[gP];exact sx)
  have o2:okI (ak (-ah y)):=bu (by rw[gP];exact sy)
  simp only[dec_enc,Int.gcd_neg,Int.neg_gcd]
  have og:okI (ak ((Int.gcd (ah x) (ah y):Nat):Int)):=bu hgs
  rw[at7 (show okI (ak (-ah x))∧okI (ak (-ah y)) from⟨o1,o2⟩),at7 (show okI (ak ((Int.gcd (ah x) (ah y):Nat):Int))∧okI (ak 1) from⟨og,m6⟩)]
  rw[←Rat.neg_divInt_neg,lw (by omega),Int.gcd_neg,Int.neg_gcd]
  dsimp only
  by_cases h1:Int.gcd (ah x) (ah y)=1
  ·rw[h1]
   simp[dB]
  ·have hc:(ck ((Int.gcd (ah x) (ah y):Nat):Int) 1 !=0)=true:=by
    rw[cH (by omega)];rfl
   rw[hc,at7 (show eH (ak (-ah x)) (ak ((Int.gcd (ah x) (ah y):Nat):Int)) from⟨o1,og,by rw[dec_enc];omega⟩),at7 (show eH (ak (-ah y)) (ak ((Int.gcd (ah x) (ah y):Nat):Int)) from⟨o2,og,by rw[dec_enc];omega⟩)]
 ·rw[cH hn,at9 (show ¬(1:Int)<0 by decide)]
  simp only[dec_enc]
  have og:okI (ak ((Int.gcd (ah x) (ah y):Nat):Int)):=bu hgs
  rw[at7 (show okI x∧okI y from⟨hx,hy⟩),at7 (show okI (ak ((Int.gcd (ah x) (ah y):Nat):Int))∧okI (ak 1) from⟨og,m6⟩),lw hn]
  dsimp only
  by_cases h1:Int.gcd (ah x) (ah y)=1
  ·rw[h1]
   simp only[Int.natCast_one,dB,Int.ediv_one,←ge hx,←ge hy]
   rfl
  ·have hc:(ck ((Int.gcd (ah x) (ah y):Nat):Int) 1 !=0)=true:=by
    rw[cH (by omega)];rfl
   rw[hc,at7 (show eH x (ak ((Int.gcd (ah x) (ah y):Nat):Int)) from⟨hx,og,by rw[dec_enc];omega⟩),at7 (show eH y (ak ((Int.gcd (ah x) (ah y):Nat):Int)) from⟨hy,og,by rw[dec_enc];omega⟩)]
def aU(a b:Rat):Int:=bif decide (a<b)then-1 else bif decide (b<a)then 1 else 0
theorem c9{a b:Rat}(h:a<b):aU a b= -1:=by unfold aU;rw[at7 h];rfl
theorem cX{a b:Rat}(h:b<a):aU a b=1:=by unfold aU;rw[at9 (by grind),at7 h];rfl
theorem dH(a:Rat):aU a a=0:=by unfold aU;rw[at9 (by grind)];rfl
theorem uE(a b:Rat):ck (a.num*(b.den:Int)) (b.num*(a.den:Int))=aU a b:=by
 unfold ck aU
 rw[show decide (a.num*(b.den:Int)<b.num*(a.den:Int))=decide (a<b) from auE.2 (Rat.lt_iff a b).symm,show decide (b.num*(a.den:Int)<a.num*(b.den:Int))=decide (b<a) from auE.2 (Rat.lt_iff b a).symm]
theorem qY(a:Rat):ck a.num 0=aU a 0:=by
 rw[←uE]
 simp
def Cg:aN:=spN false false [y2Y,y2Y] (fun x=>decide (gi x.1 x.2.1)) (fun x=>[RV.d (.st (.pair y2Y y2Y)) (eg x.1 x.2.1)])
theorem wS:SpK 221 Cg:=spX fun x h=>ZE x.1 x.2.1 (at6 h)
def aiY:NT:=[((182,3),{keep:=[0,1,8],hl:=0}),((182,5),{keep:=[0,1,5,10],hl:=0})]
def arc:Ctx:=CX [] aiY
def ad0(x y:Int)(_k:KT):Option (List RV):=match x !=x with|true=>(match y !=y with|true=>some [RV.d axf 0]|false=>some [RV.d axf (-1)])|false=>(match y !=y with|true=>some [RV.d axf 1]|false=>(match decide (x<y)with|true=>some [RV.d axf (-1)]|false=>(match decide (x>y)with|true=>some [RV.d axf 1]|false=>some [RV.d axf 0])))
theorem aoO(x y:Int):RS arc 182 [SI x,SI y] (ad0 x y):=rsX
theorem ZI(x y:Int):Con Tryz.prog 182 [.d axf x,.d axf y] [.d axf (ck x y)]:=by
 refine aP (E:=[]) trivial (aoO _ _ ⟨0,?_⟩)
 unfold ad0
 rw[show(x !=x)=false by simp,show(y !=y)=false by simp]
 dsimp only
 rcases avY x y with h|h|h
 ·rw[cQ h,at7 h]
 ·subst h;rw[dB,at9 (show ¬x<x by omega)]
 ·rw[cH h,at9 (show ¬x<y by omega),at7 (show x>y from h)]
def zY:aN:=spN true false [axf,axf] (fun _=>true) (fun x=>[RV.d axf (ck x.1 x.2.1)])
theorem vW:SpK 182 zY:=spX fun x _=>ZI x.1 x.2.1
def Ht:Env:=[(160,mU),(168,r7),(183,pu),(222,mX),(254,so),(184,qV),(225,wd),(221,Cg),(182,zY)]
theorem yY:EnvAll Tryz.prog Ht:=⟨je,mg,jY,i9,mn,ma,pA,wS,vW,trivial⟩
def arN:Ctx:=CX Ht []
def aow(x:Bool×List Int)(_k:KT):Option (List RV):=some [RV.d (.st (.pair y2Y y2Y)) (x,(ak 1))]
theorem aoh(x:Bool×List Int):RS arN 159 [.d y2Y x] (aow x):=rsX
theorem abn(x:BI):Con Tryz.prog 159 [.d y2Y x] [.d (.st (.pair y2Y y2Y)) (x,ak 1)]:=
 aP yY (aoh _ ⟨0,rfl⟩)
def Hw:aN:=spN false false [y2Y] (fun _=>true) (fun x=>[RV.d (.st (.pair y2Y y2Y)) (x.1,ak 1)])
theorem Ek:SpK 159 Hw:=spX fun x _=>abn x.1
def an8:Ctx:=CX Ht []
def afM(a:(Bool×List Int)×Bool×List Int)(_k:KT):Option (List RV):=match decide (okI a.1)with|true=>some [RV.d axf (ck (ah a.1) 0)]|false=>none
theorem aoS(a:(Bool×List Int)×Bool×List Int):RS an8 83 [.d (.st (.pair y2Y y2Y)) a] (afM a):=rsX
theorem IR(a:BR)(h:okR a):Con Tryz.prog 83 [.d (.st (.pair y2Y y2Y)) a] [.d axf (aU (ae a) 0)]:=by
 refine aP yY (aoS _ ⟨0,?_⟩)
 unfold afM
 rw[at7 h.1,←qY,(cL h).1]
def Fp:aN:=spN true false [(.st (.pair y2Y y2Y))] (fun x=>decide (okR x.1)) (fun x=>[RV.d axf (aU (ae x.1) 0)])
theorem CO:SpK 83 Fp:=spX fun x h=>IR x.1 (at6 h)
def lJ:Env:=[(160,mU),(168,r7),(183,pu),(222,mX),(254,so),(184,qV),(225,wd),(221,Cg),(182,zY),(159,Hw),(83,Fp)]
theorem gD:EnvAll Tryz.prog lJ:=⟨je,mg,jY,i9,mn,ma,pA,wS,vW,Ek,CO,trivial⟩
def arn:Ctx:=CX lJ []
def aeg(n:Int)(_k:KT):Option (List RV):=match decide (aY n)with|true=>some [RV.d (.st (.pair y2Y y2Y)) ((ak n),(ak 1))]|false=>none
theorem ap9(n:Int):RS arn 76 [SI n] (aeg n):=rsX
def aoC:Ctx:=CX lJ []
def adF(a b:(Bool×List Int)×Bool×List Int)(_k:KT):Option (List RV):=match decide (okR a)with|true=>(match decide (okR b)with|true=>(match(ck (aU (ae a) 0) (aU (ae b) 0)) !=0 with|true=>some [RV.d axf (ck (aU (ae a) 0) (aU (ae b) 0))]|false=>(match decide (okI a.1∧okI b.2)with|true=>(match decide (okI b.1∧okI a.2)with|true=>(match decide (okI (ak (ah a.1*ah b.2))∧okI (ak (ah b.1*ah a.2)))with|true=>some [RV.d axf (ck (ah (ak (ah a.1*ah b.2))) (ah (ak (ah b.1*ah a.2))))]|false=>none)|false=>none)|false=>none))|false=>none)|false=>none
theorem aru(a b:(Bool×List Int)×Bool×List Int):RS aoC 99 [.d (.st (.pair y2Y y2Y)) a,.d (.st (.pair y2Y y2Y)) b] (adF a b):=rsX
def apu:Ctx:=CX lJ []
def aeQ(a b:(Bool×List Int)×Bool×List Int)(_k:KT):Option (List RV):=match decide (okI a.2∧okI b.2)with|true=>(match(ck (ah a.2) (ah b.2))==0 with|true=>(match decide (okI a.1∧okI b.1)with|true=>(match decide (gi (ak (ah a.1+ah b.1)) a.2)with|true=>some [RV.d (.st (.pair y2Y y2Y)) (((eg (ak (ah a.1+ah b.1)) a.2).1),((eg (ak (ah a.1+ah b.1)) a.2).2))]|false=>none)|false=>none)|false=>(match decide (okI a.1∧okI b.2)with|true=>(match decide (okI b.1∧okI a.2)with|true=>(match decide (okI (ak (ah a.1*ah b.2))∧okI (ak (ah b.1*ah a.2)))with|true=>(match decide (okI a.2∧okI b.2)with|true=>(match decide (gi (ak (ah (ak (ah a.1*ah b.2))+ah (ak (ah b.1*ah a.2)))) (ak (ah a.2*ah b.2)))with|true=>some [RV.d (.st (.pair y2Y y2Y)) (((eg (ak (ah (ak (ah a.1*ah b.2))+ah (ak (ah b.1*ah a.2)))) (ak (ah a.2*ah b.2))).1),((eg (ak (ah (ak (ah a.1*ah b.2))+ah (ak (ah b.1*ah a.2)))) (ak (ah a.2*ah b.2))).2))]|false=>none)|false=>none)|false=>none)|false=>none)|false=>none))|false=>none
theorem amG(a b:(Bool×List Int)×Bool×List Int):RS apu 149 [.d (.st (.pair y2Y y2Y)) a,.d (.st (.pair y2Y y2Y)) b] (aeQ a b):=rsX
def aok:Ctx:=CX lJ []
def adl(a:(Bool×List Int)×Bool×List Int)(_k:KT):Option (List RV):=match decide (okI a.1)with|true=>some [RV.d (.st (.pair y2Y y2Y)) ((ak (-ah a.1)),a.2)]|false=>none
theorem an2(a:(Bool×List Int)×Bool×List Int):RS aok 202 [.d (.st (.pair y2Y y2Y)) a] (adl a):=rsX
def ars:Ctx:=CX lJ []
def afO(a b:(Bool×List Int)×Bool×List Int)(_k:KT):Option (List RV):=match decide (okI a.1∧okI b.1)with|true=>(match decide (okI a.2∧okI b.2)with|true=>(match decide (gi (ak (ah a.1*ah b.1)) (ak (ah a.2*ah b.2)))with|true=>some [RV.d (.st (.pair y2Y y2Y)) (((eg (ak (ah a.1*ah b.1)) (ak (ah a.2*ah b.2))).1),((eg (ak (ah a.1*ah b.1)) (ak (ah a.2*ah b.2))).2))]|false=>none)|false=>none)|false=>none
theorem alT(a b:(Bool×List Int)×Bool×List Int):RS ars 148 [.d (.st (.pair y2Y y2Y)) a,.d (.st (.pair y2Y y2Y)) b] (afO a b):=rsX
def aq8:Ctx:=CX lJ []
def adE(a b:(Bool×List Int)×Bool×List Int)(_k:KT):Option (List RV):=match decide (okR b)with|true=>(match(aU (ae b) 0)==0 with|true=>some [RV.d (.st (.pair y2Y y2Y)) ((false,[]),(false,[])),RV.d axf 6]|false=>(match decide (okI a.1∧okI b.2)with|true=>(match decide (okI a.2∧okI b.1)with|true=>(match decide (gi (ak (ah a.1*ah b.2)) (ak (ah a.2*ah b.1)))with|true=>some [RV.d (.st (.pair y2Y y2Y)) (((eg (ak (ah a.1*ah b.2)) (ak (ah a.2*ah b.1))).1),((eg (ak (ah a.1*ah b.2)) (ak (ah a.2*ah b.1))).2)),RV.d axf 0]|false=>none)|false=>none)|false=>none))|false=>none
theorem ao2(a b:(Bool×List Int)×Bool×List Int):RS aq8 170 [.d (.st (.pair y2Y y2Y)) a,.d (.st (.pair y2Y y2Y)) b] (adE a b):=rsX
theorem Z2(n:Int)(h:aY n):Con Tryz.prog 76 [.d axf n] [.d (.st (.pair y2Y y2Y)) (ag (n:Rat))]:=by
 refine aP gD (ap9 _ ⟨0,?_⟩)
 unfold aeg ag
 rw[at7 h,Rat.num_intCast,Rat.den_intCast]
 rfl
theorem fx{a:BR}(h:okR a):szI (ah a.1)≤480000∧szI (ah a.2)≤480000:=by
 have h1:=Ae h
 obtain⟨e1,e2⟩:=cL h
 unfold bdR at h1
 rw[e1,e2]at h1
 exact h1
theorem Mk(a b:Rat):(ck (aU a 0) (aU b 0)≠0→ck (aU a 0) (aU b 0)=aU a b):=by
 rcases(by grind:a<0∨a=0∨0<a)with h1|h1|h1<;>rcases(by grind:b<0∨b=0∨0<b)with h2|h2|h2
 ·rw[c9 h1,c9 h2];intro h;exact absurd (dB _) h
 ·rw[c9 h1,h2,dH,c9 h1];intro;rfl
 ·rw[c9 h1,cX h2,c9 (by grind)];intro;rfl
 ·rw[h1,dH,c9 h2,cX h2];intro;rfl
 ·rw[h1,h2,dH];intro h;exact absurd (dB _) h
 ·rw[h1,dH,cX h2,c9 h2];intro;rfl
 ·rw[cX h1,c9 h2,cX (by grind)];intro;rfl
 ·rw[cX h1,h2,dH,cX h1];intro;rfl
 ·rw[cX h1,cX h2];intro h;exact absurd (dB _) h
theorem Zp(a b:BR)(h:okR a∧okR b):Con Tryz.prog 99 [.d (.st (.pair y2Y y2Y)) a,.d (.st (.pair y2Y y2Y)) b] [.d axf (aU (ae a) (ae b))]:=by
 refine aP gD (aru _ _ ⟨0,?_⟩)
 obtain⟨ha,hb⟩:=h
 obtain⟨a1,a2⟩:=cL ha
 obtain⟨b1,b2⟩:=cL hb
 obtain⟨sa1,sa2⟩:=fx ha
 obtain⟨sb1,sb2⟩:=fx hb
 have h1:=cK sa1 sb2
 have h2:=cK sb1 sa2
 unfold adF
 rw[at7 ha,at7 hb]
 dsimp only
 have hs:=Mk (ae a) (ae b)
 by_cases hc:ck (aU (ae a) 0) (aU (ae b) 0)=0
 ·rw[hc,at7 (show okI a.1∧okI b.2 from⟨ha.1,hb.2.1⟩),at7 (show okI b.1∧okI a.2 from⟨hb.1,ha.2.1⟩),at7 (show okI (ak (ah a.1*ah b.2))∧okI (ak (ah b.1*ah a.2)) from⟨bu (by omega),bu (by omega)⟩),dec_enc,dec_enc,←a1,←a2,←b1,←b2,uE]
  rfl
 ·rw[show(ck (aU (ae a) 0) (aU (ae b) 0) !=0)=true by simpa using hc,hs hc]
theorem Im(a:BR)(h:okR a):Con Tryz.prog 202 [.d (.st (.pair y2Y y2Y)) a] [.d (.st (.pair y2Y y2Y)) (ag (-ae a))]:=by
 refine aP gD (an2 _ ⟨0,?_⟩)
 obtain⟨a1,a2⟩:=cL h
 unfold adl
 have e:ag (-ae a)=(ak (-ah a.1),a.2):=by
  unfold ag
  rw[Rat.neg_num,a1,show((-ae a).den:Int)=((ae a).den:Int) from rfl,a2,←ge h.2.1]
 rw[at7 h.1,e]
theorem IO(a b:BR)(h:okR a∧okR b):Con Tryz.prog 149 [.d (.st (.pair y2Y y2Y)) a,.d (.st (.pair y2Y y2Y)) b] [.d (.st (.pair y2Y y2Y)) (ag (ae a+ae b))]:=by
 refine aP gD (amG _ _ ⟨0,?_⟩)
 obtain⟨ha,hb⟩:=h
 obtain⟨a1,a2⟩:=cL ha
 obtain⟨b1,b2⟩:=cL hb
 obtain⟨sa1,sa2⟩:=fx ha
 obtain⟨sb1,sb2⟩:=fx hb
 have pa:=ha.2.2.1
 have pb:=hb.2.2.1
 have h1:=cK sa1 sb2
 have h2:=cK sb1 sa2
 have h3:=cK sa2 sb2
 have h4:=um h1 h2
 have h5:=um sa1 sb1
 have hda:ae a=Rat.divInt (ah a.1) (ah a.2):=by rw[←a1,←a2,ave]
 have hdb:ae b=Rat.divInt (ah b.1) (ah b.2):=by rw[←b1,←b2,ave]
 unfold aeQ
 rw[at7 (show okI a.2∧okI b.2 from⟨ha.2.1,hb.2.1⟩)]
 dsimp only
 by_cases hc:ah a.2=ah b.2
 ·rw[hc,dB,at7 (show okI a.1∧okI b.1 from⟨ha.1,hb.1⟩)]
  rw[at7 (show gi (ak (ah a.1+ah b.1)) a.2 from⟨bu (by omega),ha.2.1,by omega⟩)]
  have e:eg (ak (ah a.1+ah b.1)) a.2=ag (ae a+ae b):=by
   unfold eg
   rw[dec_enc,hda,hdb,←hc,Rat.divInt_eq_div,Rat.divInt_eq_div,Rat.divInt_eq_div,Rat.intCast_add]
   congr 1
   grind
  rw[e]
  rfl
 ·have hcm:(ck (ah a.2) (ah b.2)==0)=false:=by
   rcases avU hc with h|h
   ·rw[cQ h];rfl
   ·rw[cH h];rfl
  rw[hcm,at7 (show okI a.1∧okI b.2 from⟨ha.1,hb.2.1⟩),at7 (show okI b.1∧okI a.2 from⟨hb.1,ha.2.1⟩),at7 (show okI (ak (ah a.1*ah b.2))∧okI (ak (ah b.1*ah a.2)) from⟨bu (by omega),bu (by omega)⟩)]
  simp only[dec_enc]
  rw[at7 (show gi (ak (ah a.1*ah b.2+ah b.1*ah a.2)) (ak (ah a.2*ah b.2)) from⟨bu (by omega),bu (by omega),by rw[dec_enc];exact awB (by omega) (by omega)⟩)]
  have e:eg (ak (ah a.1*ah b.2+ah b.1*ah a.2)) (ak (ah a.2*ah b.2))=ag (ae a+ae b):=by
   unfold eg
   rw[dec_enc,dec_enc,hda,hdb,Rat.divInt_add_divInt _ _ (by omega) (by omega)]
  rw[e]
theorem acM(a b:BR)(h:okR a∧okR b):Con Tryz.prog 148 [.d (.st (.pair y2Y y2Y)) a,.d (.st (.pair y2Y y2Y)) b] [.d (.st (.pair y2Y y2Y)) (ag (ae a*ae b))]:=by
 refine aP gD (alT _ _ ⟨0,?_⟩)
 obtain⟨ha,hb⟩:=h
 obtain⟨a1,a2⟩:=cL ha
 obtain⟨b1,b2⟩:=cL hb
 obtain⟨sa1,sa2⟩:=fx ha
 obtain⟨sb1,sb2⟩:=fx hb
 have pa:=ha.2.2.1
 have pb:=hb.2.2.1
 have h1:=cK sa1 sb1
 have h3:=cK sa2 sb2
 have hda:ae a=Rat.divInt (ah a.1) (ah a.2):=by rw[←a1,←a2,ave]
 have hdb:ae b=Rat.divInt (ah b.1) (ah b.2):=by rw[←b1,←b2,ave]
 unfold afO
 rw[at7 (show okI a.1∧okI b.1 from⟨ha.1,hb.1⟩),at7 (show okI a.2∧okI b.2 from⟨ha.2.1,hb.2.1⟩),at7 (show gi (ak (ah a.1*ah b.1)) (ak (ah a.2*ah b.2)) from⟨bu (by omega),bu (by omega),by rw[dec_enc];exact awB (by omega) (by omega)⟩)]
 have e:eg (ak (ah a.1*ah b.1)) (ak (ah a.2*ah b.2))=ag (ae a*ae b):=by
  unfold eg
  rw[dec_enc,dec_enc,hda,hdb,awC]
 rw[e]
def fh(a b:BR):Prop:=okR a∧okR b∧ah b.1≠0
instance (a b:BR):Decidable (fh a b):=by unfold fh;infer_instance
theorem ace(a b:BR)(h:fh a b):Con Tryz.prog 170 [.d (.st (.pair y2Y y2Y)) a,.d (.st (.pair y2Y y2Y)) b] [.d (.st (.pair y2Y y2Y)) (ag (ae a/ae b)),.d axf 0]:=by
 refine aP gD (ao2 _ _ ⟨0,?_⟩)
 obtain⟨ha,hb,hne⟩:=h
 obtain⟨a1,a2⟩:=cL ha
 obtain⟨b1,b2⟩:=cL hb
 obtain⟨sa1,sa2⟩:=fx ha
 obtain⟨sb1,sb2⟩:=fx hb
 have pa:=ha.2.2.1
 have h1:=cK sa1 sb2
 have h3:=cK sa2 sb1
 have hda:ae a=Rat.divInt (ah a.1) (ah a.2):=by rw[←a1,←a2,ave]
 have hdb:ae b=Rat.divInt (ah b.1) (ah b.2):=by rw[←b1,←b2,ave]
 have hnz:(aU (ae b) 0==0)=false:=by
  rw[←qY,b1]
  rcases avU hne with h|h
  ·rw[cQ h];rfl
  ·rw[cH h];rfl
 unfold adE
 rw[at7 hb,hnz,at7 (show okI a.1∧okI b.2 from⟨ha.1,hb.2.1⟩),at7 (show okI a.2∧okI b.1 from⟨ha.2.1,hb.1⟩),at7 (show gi (ak (ah a.1*ah b.2)) (ak (ah a.2*ah b.1)) from⟨bu (by omega),bu (by omega),by rw[dec_enc];exact awB (by omega) hne⟩)]
 have e:eg (ak (ah a.1*ah b.2)) (ak (ah a.2*ah b.1))=ag (ae a/ae b):=by
  unfold eg
  rw[dec_enc,dec_enc,hda,hdb,awN,Rat.inv_divInt,awC]
 rw[e]
def UZ:aN:=spN false false [(.st (.pair y2Y y2Y)),(.st (.pair y2Y y2Y))] (fun x=>decide (okR x.1∧okR x.2.1)) (fun x=>[RV.d (.st (.pair y2Y y2Y)) (ag (ae x.1+ae x.2.1))])
theorem RB:SpK 149 UZ:=spX fun x h=>IO x.1 x.2.1 (at6 h)
def Vj:aN:=spN false false [(.st (.pair y2Y y2Y))] (fun x=>decide (okR x.1)) (fun x=>[RV.d (.st (.pair y2Y y2Y)) (ag (-ae x.1))])
theorem Nm:SpK 202 Vj:=spX fun x h=>Im x.1 (at6 h)
def JF:Env:=[(160,mU),(168,r7),(183,pu),(222,mX),(254,so),(184,qV),(225,wd),(221,Cg),(182,zY),(159,Hw),(83,Fp),(149,UZ),(202,Vj)]
theorem Gb:EnvAll Tryz.prog JF:=⟨je,mg,jY,i9,mn,ma,pA,wS,vW,Ek,CO,RB,Nm,trivial⟩
def aot:Ctx:=CX JF []
def adv(a b:(Bool×List Int)×Bool×List Int)(_k:KT):Option (List RV):=match decide (okR b)with|true=>(match decide (okR a∧okR (ag (-ae b)))with|true=>some [RV.d (.st (.pair y2Y y2Y)) (((ag (ae a+ae (ag (-ae b)))).1),((ag (ae a+ae (ag (-ae b)))).2))]|false=>none)|false=>none
theorem alu(a b:(Bool×List Int)×Bool×List Int):RS aot 147 [.d (.st (.pair y2Y y2Y)) a,.d (.st (.pair y2Y y2Y)) b] (adv a b):=rsX
theorem YY(a b:BR)(h:okR a∧okR b):Con Tryz.prog 147 [.d (.st (.pair y2Y y2Y)) a,.d (.st (.pair y2Y y2Y)) b] [.d (.st (.pair y2Y y2Y)) (ag (ae a-ae b))]:=by
 refine aP Gb (alu _ _ ⟨0,?_⟩)
 obtain⟨ha,hb⟩:=h
 unfold adv
 rw[at7 hb,az,awu,at7 (show okR a∧okR (ag (-ae b)) from⟨ha,nO (tY (Ae hb)) (auj _)⟩)]
section
namespace RL
theorem iM{x y B e:Rat}(h1:x<B)(h2: -B<x)(h3:y<e)(h4: -e<y):x*y<B*e:=by
 have p:=avf (a:=B-x) (b:=e+y) (by grind) (by grind)
 have q:=avf (a:=B+x) (b:=e-y) (by grind) (by grind)
 grind
theorem agy{e:Rat}(h:0<e):0<e/2:=by grind
theorem zx{e B:Rat}(h:0<e)(hB:0<B):∃d,0<d∧B*d+B*d<e:=by
 refine⟨e/(4*B),?_,?_⟩
 ·exact avf h (Rat.inv_pos.2 (by grind))
 ·have:B*(e/(4*B))=e/4:=by grind
  grind
structure CS where
 f:Nat→Rat
 cau:∀e:Rat,0<e→∃N,∀m n,N≤m→N≤n→f m-f n<e
theorem CS.bd(a:CS):∃B:Rat,0<B∧∃N,∀n,N≤n→ -B<a.f n∧a.f n<B:=by
 obtain⟨N,h⟩:=a.cau 1 (by grind)
 refine⟨(if 0≤a.f N then a.f N else-a.f N)+1,?_,N,fun n hn=>?_⟩
 ·split<;>grind
 ·have h1:=h n N hn (auj _)
  have h2:=h N n (auj _) hn
  split<;>grind
def add(a b:CS):CS:=⟨fun n=>a.f n+b.f n,fun e he=>by
 obtain⟨N,h⟩:=a.cau (e/2) (by grind)
 obtain⟨M,h'⟩:=b.cau (e/2) (by grind)
 refine⟨max N M,fun m n hm hn=>?_⟩
 have:=h m n (by omega) (by omega)
 have:=h' m n (by omega) (by omega)
 grind⟩
def neg(a:CS):CS:=⟨fun n=> -a.f n,fun e he=>by
 obtain⟨N,h⟩:=a.cau e he
 exact⟨N,fun m n hm hn=>by have:=h n m hn hm;grind⟩⟩
theorem VS(a b:CS)(e:Rat)(he:0<e):∃N,∀m n,N≤m→N≤n→a.f m*b.f m-a.f n*b.f n<e:=by
 obtain⟨A,hA,N1,h1⟩:=a.bd
 obtain⟨B,hB,N2,h2⟩:=b.bd
 obtain⟨d,hd,hd'⟩:=zx (e:=e) (B:=A+B) he (by grind)
 obtain⟨N3,h3⟩:=a.cau d hd
 obtain⟨N4,h4⟩:=b.cau d hd
 refine⟨max (max N1 N2) (max N3 N4),fun m n hm hn=>?_⟩
 have a1:=h1 m (by omega)
 have b1:=h2 n (by omega)
 have p:=iM a1.2 a1.1 (h4 m n (by omega) (by omega)) (by have:=h4 n m (by omega) (by omega);grind)
 have q:=iM b1.2 b1.1 (h3 m n (by omega) (by omega)) (by have:=h3 n m (by omega) (by omega);grind)
 have r:=avf hA hd
 have s:=avf hB hd
 grind
def mul(a b:CS):CS:=⟨fun n=>a.f n*b.f n,VS a b⟩
def eqv(a b:CS):Prop:=∀e:Rat,0<e→∃N,∀n,N≤n→a.f n-b.f n<e∧b.f n-a.f n<e
instance st:Setoid CS where
 r:=eqv
 iseqv:=⟨fun a e he=>⟨0,fun n _=>by grind⟩,fun h e he=>by
   obtain⟨N,h⟩:=h e he
   exact⟨N,fun n hn=>⟨(h n hn).2,(h n hn).1⟩⟩,
  fun h h' e he=>by
   obtain⟨N,h⟩:=h (e/2) (by grind)
   obtain⟨M,h'⟩:=h' (e/2) (by grind)
   refine⟨max N M,fun n hn=>?_⟩
   have:=h n (by omega)
   have:=h' n (by omega)
   grind⟩
def const(q:Rat):CS:=⟨fun _=>q,fun e he=>⟨0,fun m n _ _=>by grind⟩⟩
end RL
def RE:Type:=Quotient RL.st
namespace RE
open RL
def of(q:Rat):RE:=Quotient.mk _ (const q)
theorem ahf(a b a' b':CS)(h:a≈a')(h':b≈b'):add a b≈add a' b':=fun e he=>by
 obtain⟨N,h⟩:=h (e/2) (by grind)
 obtain⟨M,h'⟩:=h' (e/2) (by grind)
 refine⟨max N M,fun n hn=>?_⟩
 have:=h n (by omega)
 have:=h' n (by omega)
 simp only[RL.add]
 grind
theorem ajV(a a':CS)(h:a≈a'):neg a≈neg a':=fun e he=>by
 obtain⟨N,h⟩:=h e he
 refine⟨N,fun n hn=>?_⟩
 have:=h n (by omega)
 simp only[RL.neg]
 grind
theorem ahT(a b a' b':CS)(h:a≈a')(h':b≈b'):mul a b≈mul a' b':=fun e he=>by
 obtain⟨A,hA,N1,h1⟩:=a.bd
 obtain⟨B,hB,N2,h2⟩:=b'.bd
 obtain⟨d,hd,hd'⟩:=zx (e:=e) (B:=A+B) he (by grind)
 obtain⟨N3,h3⟩:=h d hd
 obtain⟨N4,h4⟩:=h' d hd
 refine⟨max (max N1 N2) (max N3 N4),fun n hn=>?_⟩
 have a1:=h1 n (by omega)
 have b1:=h2 n (by omega)
 have a3:=h3 n (by omega)
 have b3:=h4 n (by omega)
 have p:=iM a1.2 a1.1 (y:=b.f n-b'.f n) b3.1 (by grind)
 have q:=iM b1.2 b1.1 (y:=a.f n-a'.f n) a3.1 (by grind)
 have p':=iM a1.2 a1.1 (y:=b'.f n-b.f n) b3.2 (by grind)
 have q':=iM b1.2 b1.1 (y:=a'.f n-a.f n) a3.2 (by grind)
 have r:=avf hA hd
 have s:=avf hB hd
 simp only[RL.mul]
 constructor<;>grind
instance:Add RE:=⟨Quotient.lift₂ (fun a b=>Quotient.mk _ (add a b)) (fun _ _ _ _ h h'=>awL (ahf _ _ _ _ h h'))⟩
instance:Neg RE:=⟨Quotient.lift (fun a=>Quotient.mk _ (neg a)) (fun _ _ h=>awL (ajV _ _ h))⟩
instance:Sub RE:=⟨fun a b=>a+ -b⟩
instance:Mul RE:=⟨Quotient.lift₂ (fun a b=>Quotient.mk _ (mul a b)) (fun _ _ _ _ h h'=>awL (ahT _ _ _ _ h h'))⟩
theorem snd{a b:CS}(h:∀n,a.f n=b.f n):(Quotient.mk st a:RE)=Quotient.mk st b:=
 awL fun e he=>⟨0,fun n _=>by rw[h n];grind⟩
instance (n:Nat):OfNat RE n:=⟨of (OfNat.ofNat n)⟩
theorem of_add(a b:Rat):of (a+b)=of a+of b:=rfl
theorem bJ(a b:Rat):of (a*b)=of a*of b:=rfl
theorem of_neg(a:Rat):of (-a)= -of a:=rfl
theorem of_sub(a b:Rat):of (a-b)=of a-of b:=by rw[awu];rfl
theorem B4:of 0=0:=rfl
theorem add_zero(a:RE):a+0=a:=by
 induction a using at5;exact snd fun n=>Rat.add_zero _
theorem add_comm(a b:RE):a+b=b+a:=by
 induction a,b using awD;exact snd fun n=>Rat.add_comm _ _
theorem add_assoc(a b c:RE):a+b+c=a+(b+c):=by
 induction a,b,c using awE;exact snd fun n=>Rat.add_assoc _ _ _
theorem mul_assoc(a b c:RE):a*b*c=a*(b*c):=by
 induction a,b,c using awE;exact snd fun n=>Rat.mul_assoc _ _ _
theorem mul_comm(a b:RE):a*b=b*a:=by
 induction a,b using awD;exact snd fun n=>Rat.mul_comm _ _
theorem mul_one(a:RE):a*1=a:=by
 induction a using at5;exact snd fun n=>Rat.mul_one _
theorem mul_zero(a:RE):a*0=0:=by
 induction a using at5;exact snd fun n=>Rat.mul_zero _
theorem Bf(a:RE): -a+a=0:=by
 induction a using at5;exact snd fun n=>Rat.neg_add_cancel _
def clt(a b:CS):Prop:=∃e:Rat,0<e∧∃N,∀n,N≤n→a.f n+e<b.f n
theorem NN(a b a' b':CS)(h:a≈a')(h':b≈b')(hl:clt a b):clt a' b':=by
 obtain⟨e,he,N,hl⟩:=hl
 obtain⟨N1,h⟩:=h (e/4) (by grind)
 obtain⟨N2,h'⟩:=h' (e/4) (by grind)
 refine⟨e/2,by grind,max N (max N1 N2),fun n hn=>?_⟩
 have:=hl n (by omega)
 have:=h n (by omega)
 have:=h' n (by omega)
 grind
instance:LT RE:=⟨Quotient.lift₂ clt (fun _ _ _ _ h h'=>propext ⟨NN _ _ _ _ h h',NN _ _ _ _ (Setoid.symm h) (Setoid.symm h')⟩)⟩
instance:LE RE:=⟨fun a b=>¬b<a⟩
theorem lt_irrefl(a:RE):¬a<a:=by
 induction a using at5
 rintro ⟨e,he,N,h⟩
 have:=h N (auj _)
 grind
theorem dq{a b c:RE}:a<b→b<c→a<c:=by
 induction a,b,c using awE
 rintro ⟨e,he,N,h⟩ ⟨e',he',N',h'⟩
 refine⟨e,he,max N N',fun n hn=>?_⟩
 have:=h n (by omega)
 have:=h' n (by omega)
 grind
theorem ou(a b:RE):a<b∨a=b∨b<a:=by
 induction a,b using awD
 rename_i a b
 by_cases h1:clt a b
 ·exact .inl h1
 by_cases h2:clt b a
 ·exact .inr (.inr h2)
 refine .inr (.inl (awL fun e he=>?_))
 obtain⟨N,ha⟩:=a.cau (e/4) (by grind)
 obtain⟨M,hb⟩:=b.cau (e/4) (by grind)
 have g1:∃n,max N M≤n∧b.f n≤a.f n+e/4:=by
  apply aut
  intro hc
  exact h1 ⟨e/4,by grind,max N M,fun n hn=>by
   apply aut
   intro h
   exact hc ⟨n,hn,by grind⟩⟩
 have g2:∃n,max N M≤n∧a.f n≤b.f n+e/4:=by
  apply aut
  intro hc
  exact h2 ⟨e/4,by grind,max N M,fun n hn=>by
   apply aut
   intro h
   exact hc ⟨n,hn,by grind⟩⟩
 obtain⟨p,hp,gp⟩:=g1
 obtain⟨q,hq,gq⟩:=g2
 refine⟨max N M,fun n hn=>?_⟩
 have a1:=ha n q (by omega) (by omega)
 have b1:=hb q n (by omega) (by omega)
 have a2:=ha p n (by omega) (by omega)
 have b2:=hb n p (by omega) (by omega)
 constructor<;>grind
theorem oE{a b:RE}(c:RE):a<b→a+c<b+c:=by
 induction a,b,c using awE
 rintro ⟨e,he,N,h⟩
 refine⟨e,he,N,fun n hn=>?_⟩
 have:=h n hn
 simp only[RL.add]
 grind
theorem mul_pos{a b:RE}:0<a→0<b→0<a*b:=by
 induction a,b using awD
 rintro ⟨e,he,N,h⟩ ⟨e',he',N',h'⟩
 refine⟨e*e',avf he he',max N N',fun n hn=>?_⟩
 have h1:=h n (by omega)
 have h2:=h' n (by omega)
 simp only[RL.const]at h1 h2 ⊢
 rename_i a b
 have p:=avf (a:=a.f n-e) (b:=b.f n-e') (by grind) (by grind)
 have q:=avf (a:=a.f n-e) (b:=e') (by grind) (by grind)
 have r:=avf (a:=e) (b:=b.f n-e') (by grind) (by grind)
 simp only[RL.mul]
 grind
theorem i7{a b:Rat}(h:a<b):of a<of b:=⟨(b-a)/2,by grind,0,fun n _=>by simp only[RL.const];grind⟩
end RE
end
section
namespace RE
open RL
theorem Od(a b:RE):a≤b↔¬b<a:=Iff.rfl
theorem le_of_lt{a b:RE}(h:a<b):a≤b:=fun h'=>lt_irrefl a (dq h h')
theorem lt_or_ge(a b:RE):a<b∨b≤a:=by
 by_cases h:a<b
 ·exact .inl h
 ·exact .inr h
theorem le_antisymm{a b:RE}(h1:a≤b)(h2:b≤a):a=b:=by
 rcases ou a b with h|h|h
 ·exact absurd h h2
 ·exact h
 ·exact absurd h h1
theorem le_trans{a b c:RE}(h1:a≤b)(h2:b≤c):a≤c:=fun h=>by
 rcases ou a b with h'|h'|h'
 ·exact h2 (dq h h')
 ·subst h';exact h2 h
 ·exact h1 h'
theorem zero_lt_one:(0:RE)<1:=i7 (by decide+kernel:(0:Rat)<1)
theorem nG(a:RE):a+ -a=0:=by rw[add_comm,Bf]
theorem lF{a:RE}(h:a<0):0< -a:=by
 have:=oE (-a) h
 rw[nG,add_comm,add_zero]at this
 exact this
theorem ajW{a:RE}(h:0<a): -a<0:=by
 have:=oE (-a) h
 rw[nG,add_comm,add_zero]at this
 exact this
instance:Std.IsLinearOrder RE where
 le_refl a:=lt_irrefl a
 le_trans _ _ _:=le_trans
 le_antisymm _ _:=le_antisymm
 le_total a b:=by
  rcases lt_or_ge a b with h|h
  ·exact .inl (le_of_lt h)
  ·exact .inr h
instance:Std.LawfulOrderLT RE where
 lt_iff a b:=⟨fun h=>⟨le_of_lt h,fun h'=>h' h⟩,fun h=>by
  rcases lt_or_ge a b with h'|h'
  ·exact h'
  ·exact absurd h' h.2⟩
theorem ec{a b:RE}:¬a≤b↔b<a:=⟨fun h=>by
  rcases lt_or_ge b a with h'|h'
  ·exact h'
  ·exact absurd h' h,fun h h'=>h' h⟩
theorem aV{a b:RE}(h:a<b):0<b-a:=by
 have:=oE (-a) h
 rw[nG]at this
 exact this
theorem ajQ{a b:RE}(h:0<b-a):a<b:=by
 have:=oE a h
 have e:b-a+a=b:=by
  show b+ -a+a=b
  rw[add_assoc,Bf,add_zero]
 rw[e,add_comm,add_zero]at this
 exact this
theorem aO{a b:RE}(h:a≤b):0≤b-a:=fun h'=>h (by
 have:=oE a h'
 have e:b-a+a=b:=by
  show b+ -a+a=b
  rw[add_assoc,Bf,add_zero]
 rw[e,add_comm,add_zero]at this
 exact this)
theorem ku{a:RE}(h:0≤a):0<a∨a=0:=by
 rcases ou 0 a with h'|h'|h'
 ·exact .inl h'
 ·exact .inr h'.symm
 ·exact absurd h' h
theorem le_refl(a:RE):a≤a:=lt_irrefl a
theorem iq{a b:RE}(h:a=b):a≤b:=by rw[h];exact le_refl _
theorem jA{a b:RE}(h:a=b):b≤a:=by rw[h];exact le_refl _
theorem zero_mul(a:RE):0*a=0:=by rw[mul_comm,mul_zero]
theorem zero_add(a:RE):0+a=a:=by rw[add_comm,add_zero]
theorem one_mul(a:RE):1*a=a:=by rw[mul_comm,mul_one]
theorem cE{a b:RE}(h:0≤a)(h':0≤b):0≤a*b:=by
 rcases ku h with h1|h1
 ·rcases ku h' with h2|h2
  ·exact le_of_lt (mul_pos h1 h2)
  ·rw[h2,mul_zero];exact le_refl _
 ·rw[h1,zero_mul];exact le_refl _
theorem aQ{a b:RE}(h:0<a)(h':0≤b):0<a+b:=by
 have:=oE b h
 rw[zero_add]at this
 rcases ku h' with h2|h2
 ·exact dq h2 this
 ·rw[h2,add_zero];exact h
theorem pn(a:RE):0≤a*a:=by
 rcases lt_or_ge a 0 with h|h
 ·have h1:=lF h
  have h2:=mul_pos h1 h1
  have e: -a* -a=a*a:=by
   induction a using at5
   exact snd fun n=>by show-_* -_=_*_;grind
  rw[e]at h2
  exact le_of_lt h2
 ·exact cE h h
theorem J9{c:Rat}(hc:(0:Rat)<c){a:RE}(h:0<a):0<of c*a:=mul_pos (i7 hc) h
theorem gT{c:Rat}(hc:(0:Rat)<c){a:RE}(h:0≤a):0≤of c*a:=cE (le_of_lt (i7 hc)) h
theorem far{s:RE}(h:0<s)(e:s=0):False:=by rw[e]at h;exact lt_irrefl _ h
theorem ab5(x y:RE):((y*y-(x*x)))+((x-(0))*(x-(y)))+((y-(0))*(x-(y)))=0:=by
 induction x using at5
 induction y using at5
 exact snd fun n=>by
  simp only[RL.add,RL.mul,RL.neg,RL.const]
  grind
theorem sq_lt(x y:RE)(h1:0≤x)(h2:0≤y)(h3:x*x<y*y):x<y:=ec.1 fun hg=>far (aQ (aQ (aV h3) (cE (aO h1) (aO hg))) (cE (aO h2) (aO hg))) (ab5 x y)
theorem Zr(x y:RE):((x-(y))*(x-(y)))+((y*y-(x*x)))+of 2*((y-(0))*(x-(y)))=0:=by
 induction x using at5
 induction y using at5
 exact snd fun n=>by
  simp only[RL.add,RL.mul,RL.neg,RL.const]
  grind
theorem Is(x y:RE)(_h1:0≤x)(h2:0≤y)(h3:x*x≤y*y):x≤y:=fun hg=>far (aQ (aQ (mul_pos (aV hg) (aV hg)) (aO h3)) (gT (by decide+kernel:(0:Rat)<2) (cE (aO h2) (le_of_lt (aV hg))))) (Zr x y)
theorem Mz(x y:RE):((x*x-(y*y)))+of 2*((x-(0))*(y-(x)))+((y-(x))*(y-(x)))=0:=by
 induction x using at5
 induction y using at5
 exact snd fun n=>by
  simp only[RL.add,RL.mul,RL.neg,RL.const]
  grind
theorem pO(x y:RE)(h1:0≤x)(h2:x≤y):x*x≤y*y:=fun hg=>far (aQ (aQ (aV hg) (gT (by decide+kernel:(0:Rat)<2) (cE (aO h1) (aO h2)))) (cE (aO h2) (aO h2))) (Mz x y)
theorem ag9(x y:RE):((y-(x))*(y-(x)))+((x*x-(y*y)))+of 2*((x-(0))*(y-(x)))=0:=by
 induction x using at5
 induction y using at5
 exact snd fun n=>by
  simp only[RL.add,RL.mul,RL.neg,RL.const]
  grind
theorem RY(x y:RE):((x-(y))*(x-(y)))+((y*y-(x*x)))+of 2*((y-(0))*(x-(y)))=0:=by
 induction x using at5
 induction y using at5
 exact snd fun n=>by
  simp only[RL.add,RL.mul,RL.neg,RL.const]
  grind
theorem ahL(x y:RE)(_h1:0≤x)(h2:0≤y)(h3:x*x=y*y):x≤y:=fun hg=>far (aQ (aQ (mul_pos (aV hg) (aV hg)) (aO (iq h3))) (gT (by decide+kernel:(0:Rat)<2) (cE (aO h2) (le_of_lt (aV hg))))) (RY x y)
theorem M2(x y:RE):((y-(x))*(y-(x)))+((x*x-(y*y)))+of 2*((x-(0))*(y-(x)))=0:=by
 induction x using at5
 induction y using at5
 exact snd fun n=>by
  simp only[RL.add,RL.mul,RL.neg,RL.const]
  grind
theorem aip(x y:RE)(h1:0≤x)(_h2:0≤y)(h3:x*x=y*y):y≤x:=fun hg=>far (aQ (aQ (mul_pos (aV hg) (aV hg)) (aO (jA h3))) (gT (by decide+kernel:(0:Rat)<2) (cE (aO h1) (le_of_lt (aV hg))))) (M2 x y)
theorem agw(x y:RE)(h1:0≤x)(h2:0≤y)(h3:x*x=y*y):x=y:=le_antisymm (ahL x y h1 h2 h3) (aip x y h1 h2 h3)
end RE
end
section
namespace RE
open RL
theorem arz(q:Rat):∃k:Nat,q<(k:Rat):=by
 refine⟨(q.floor+1).toNat,?_⟩
 have h1:q<((q.floor+1:Int):Rat):=(Rat.floor_lt_iff).1 (by omega)
 have h2:((q.floor+1:Int):Rat)≤(((q.floor+1).toNat:Int):Rat):=awo.2 (by omega)
 have h3:(((q.floor+1).toNat:Int):Rat)=(((q.floor+1).toNat:Nat):Rat):=awj _
 rw[h3]at h2
 grind
theorem aaE(g d:Rat)(hg:0≤g)(hd:0<d):∃s:Rat,0≤s∧s*s≤g∧g<(s+d)*(s+d):=by
 apply aut
 intro hn
 have step:∀k:Nat,((k:Rat)*d)*((k:Rat)*d)≤g:=by
  intro k
  induction k with
  |zero=>rw[show((0:Nat):Rat)=0 from rfl];grind
  |succ k ih=>
   apply aut
   intro hc
   refine hn ⟨(k:Rat)*d,?_,ih,?_⟩
   ·have:(0:Rat)≤(k:Rat):=by
     have:=Rat.intCast_nonneg.2 (show(0:Int)≤(k:Int) by omega)
     rwa [awj]at this
    exact auF this (by grind)
   ·have e:(((k+1:Nat)):Rat)=(k:Rat)+1:=by rw[Rat.natCast_add];rfl
    rw[e]at hc
    grind
 obtain⟨k,hk⟩:=arz ((g+1)/d)
 have h1:g+1<(k:Rat)*d:=by
  have:=avf (show 0<(k:Rat)-(g+1)/d by grind) hd
  have e:((k:Rat)-(g+1)/d)*d=(k:Rat)*d-(g+1):=by grind
  grind
 have h2:=step k
 have h3:=avf (show 0<(k:Rat)*d-(g+1) by grind) (show 0<(k:Rat)*d by grind)
 have h4:=avf (show 0<(k:Rat)*d-(g+1) by grind) (show 0<g+1 by grind)
 have h5:=auF hg hg
 clear hn step hk
 generalize (k:Rat)*d=t at h1 h2 h3 h4
 grind
def eps(n:Nat):Rat:=1/((n:Rat)+1)
theorem pp(n:Nat):(0:Rat)≤(n:Rat):=by
 have:=Rat.intCast_nonneg.2 (show(0:Int)≤(n:Int) by omega)
 rwa [awj]at this
theorem qi(n:Nat):0<eps n:=by
 have:=pp n
 exact avf (by grind) (Rat.inv_pos.2 (by grind))
theorem yp(e:Rat)(he:0<e):∃N,∀n,N≤n→eps n<e:=by
 obtain⟨N,hN⟩:=arz (1/e)
 refine⟨N,fun n hn=>?_⟩
 have h0:=pp n
 have h1:(N:Rat)≤(n:Rat):=by
  have:=awo.2 (show(N:Int)≤(n:Int) by omega)
  rwa [awj,awj]at this
 have h2:1/e<(n:Rat)+1:=by grind
 have h3:=avf (show 0<(n:Rat)+1-1/e by grind) (avf he (qi n))
 unfold eps at h3 ⊢
 have e1:((n:Rat)+1-1/e)*(e*(1/((n:Rat)+1)))=e-1/((n:Rat)+1):=by
  have:(n:Rat)+1≠0:=by grind
  have:e≠0:=by grind
  grind
 grind
theorem Hg(n:Nat):eps n≤1:=by
 have h0:=pp n
 have:=qi n
 unfold eps at*
 have h3:=auF h0 (show(0:Rat)≤1/((n:Rat)+1) by grind)
 have e1:(n:Rat)*(1/((n:Rat)+1))=1-1/((n:Rat)+1):=by
  have:(n:Rat)+1≠0:=by grind
  grind
 grind
theorem PD{a b:Rat}(ha:0≤a)(hb:0≤b)(h:a*a<b*b):a<b:=by
 apply aut
 intro hc
 have:=auF (show 0≤a-b by grind) (show 0≤a+b by grind)
 grind
theorem Ap(x:RE)(hx:0≤x):∃y:RE,0≤y∧y*y=x:=by
 induction x using at5
 rename_i f
 have hc:∀n,∃s:Rat,0≤s∧s*s≤(if 0≤f.f n then f.f n else 0)∧(if 0≤f.f n then f.f n else 0)<(s+eps n)*(s+eps n):=fun n=>
  aaE _ _ (by split<;>grind) (qi n)
 let g:Nat→Rat:=fun n=>if 0≤f.f n then f.f n else 0
 let s:Nat→Rat:=fun n=>Classical.choose (hc n)
 have hs:∀n,0≤s n∧s n*s n≤g n∧g n<(s n+eps n)*(s n+eps n):=fun n=>avk (hc n)
 have hg:∀m n,g m-g n≤(if 0≤f.f m-f.f n then f.f m-f.f n else 0):=fun m n=>by
  show(if 0≤f.f m then f.f m else 0)-(if 0≤f.f n then f.f n else 0)≤_
  split<;>split<;>split<;>grind
 obtain⟨B,hB,NB,hBn⟩:=f.bd
 have hgB:∀n,NB≤n→g n<B:=fun n hn=>by
  show(if 0≤f.f n then f.f n else 0)<B
  have:=hBn n hn
  split<;>grind
 have hsB:∀n,NB≤n→s n<B+1:=fun n hn=>by
  have h1:=hs n
  have h2:=hgB n hn
  refine PD h1.1 (by grind) ?_
  have:=auF (show 0≤B by grind) (show 0≤B by grind)
  grind
 have hcau:∀e:Rat,0<e→∃N,∀m n,N≤m→N≤n→s m-s n<e:=by
  intro e he
  obtain⟨N1,h1⟩:=f.cau (e*e/4) (by have:=avf he he;grind)
  obtain⟨N2,h2⟩:=yp (e/2) (by grind)
  refine⟨max N1 N2,fun m n hm hn=>?_⟩
  apply aut
  intro hne
  have a1:=hs m
  have a2:=hs n
  have a3:=h1 m n (by omega) (by omega)
  have a4:=h2 n (by omega)
  have a5:=hg m n
  have a6:=qi n
  have p1:=auF (show 0≤s m-(s n+e) by grind) (show 0≤s m+(s n+e) by grind)
  have p2:=auF (show 0≤e/2-eps n by grind) (show 0≤(s n+e/2)+(s n+eps n) by grind)
  have p3:=auF (show 0≤e by grind) a2.1
  have p4:=avf he he
  split at a5<;>grind
 refine⟨Quotient.mk _ ⟨s,hcau⟩,?_,awL fun e he=>?_⟩
 ·rintro ⟨e,he,N,h⟩
  have h1:=h N (auj _)
  have h2:=(hs N).1
  simp only[RL.const]at h1
  grind
 ·-- s n*s n is near to f n
  have hneg:∃N,∀n,N≤n→ -(e/4)<f.f n:=by
   apply aut
   intro hne
   obtain⟨M,hM⟩:=f.cau (e/8) (by grind)
   refine hx ⟨e/16,by grind,M,fun n hn=>?_⟩
   apply aut
   intro hge
   refine hne ⟨M,fun k hk=>?_⟩
   have:=hM n k hn hk
   simp only[RL.const]at hge
   grind
  obtain⟨N1,h1⟩:=hneg
  obtain⟨N2,h2⟩:=yp (e/(4*(B+2))) (avf he (Rat.inv_pos.2 (by grind)))
  refine⟨max (max N1 N2) NB,fun n hn=>?_⟩
  have a1:=hs n
  have a2:=h1 n (by omega)
  have a3:=h2 n (by omega)
  have a4:=hsB n (by omega)
  have a5:=qi n
  have a6:=Hg n
  have hgf:f.f n≤g n∧g n<f.f n+e/4:=by
   show f.f n≤(if 0≤f.f n then f.f n else 0)∧(if 0≤f.f n then f.f n else 0)<_
   split<;>constructor<;>grind
  have p1:=auF (show 0≤eps n by grind) (show 0≤2*(B+2)-(2*s n+eps n) by grind)
  have p2:eps n*(2*(B+2))<e/2:=by
   have:=avf (show 0<e/(4*(B+2))-eps n by grind) (show 0<2*(B+2) by grind)
   have e1:(e/(4*(B+2))-eps n)*(2*(B+2))=e/2-eps n*(2*(B+2)):=by
    have:B+2≠0:=by grind
    grind
   grind
  simp only[RL.mul]
  constructor<;>grind
open Classical in
def we(x:RE):RE:=if h:0≤x then Classical.choose (Ap x h)else 0
theorem me(x:RE):0≤we x:=by
 unfold we
 split
 ·rename_i h;exact(avk (Ap x h)).1
 ·exact lt_irrefl 0
theorem As{x:RE}(h:0≤x):we x*we x=x:=by
 unfold we
 rw[dif_pos h]
 exact(avk (Ap x h)).2
theorem jx{a b:Rat}:of a≤of b↔a≤b:=by
 constructor
 ·intro h
  apply aut
  intro hc
  exact h (i7 (by grind))
 ·intro h h'
  rcases(by grind:a<b∨a=b)with h1|h1
  ·exact lt_irrefl _ (dq h' (i7 h1))
  ·rw[h1]at h';exact lt_irrefl _ h'
theorem vH{a b:Rat}(h:of a=of b):a=b:=by
 have h1:=jx.1 (show of a≤of b by rw[h];exact lt_irrefl _)
 have h2:=jx.1 (show of b≤of a by rw[h];exact lt_irrefl _)
 grind
end RE
end
section
namespace RE
open RL
open Classical in
def sg(x:RE):Int:=if 0<x then 1 else if x<0 then-1 else 0
theorem dJ{x:RE}(h:0<x):sg x=1:=auw h
theorem ij{x:RE}(h:x<0):sg x= -1:=by unfold sg;rw[aus (fun h'=>lt_irrefl _ (dq h h')),auw h]
theorem dG:sg 0=0:=by unfold sg;rw[aus (lt_irrefl _),aus (lt_irrefl _)]
theorem bP(x:RE):(0<x∧sg x=1)∨(x=0∧sg x=0)∨(x<0∧sg x= -1):=by
 rcases ou 0 x with h|h|h
 ·exact .inl ⟨h,dJ h⟩
 ·exact .inr (.inl ⟨h.symm,by rw[←h,dG]⟩)
 ·exact .inr (.inr ⟨h,ij h⟩)
theorem sT{x:RE}:sg x=0↔x=0:=by
 rcases bP x with⟨h,e⟩|⟨h,e⟩|⟨h,e⟩<;>rw[e]
 ·exact⟨fun h'=>by omega,fun h'=>by rw[h']at h;exact absurd h (lt_irrefl _)⟩
 ·exact⟨fun _=>h,fun _=>rfl⟩
 ·exact⟨fun h'=>by omega,fun h'=>by rw[h']at h;exact absurd h (lt_irrefl _)⟩
theorem Tb{x:RE}:sg x=1↔0<x:=by
 rcases bP x with⟨h,e⟩|⟨h,e⟩|⟨h,e⟩<;>rw[e]
 ·exact⟨fun _=>h,fun _=>rfl⟩
 ·exact⟨fun h'=>by omega,fun h'=>by rw[h]at h';exact absurd h' (lt_irrefl _)⟩
 ·exact⟨fun h'=>by omega,fun h'=>absurd (dq h h') (lt_irrefl _)⟩
theorem ak7{x:RE}:sg x= -1↔x<0:=by
 rcases bP x with⟨h,e⟩|⟨h,e⟩|⟨h,e⟩<;>rw[e]
 ·exact⟨fun h'=>by omega,fun h'=>absurd (dq h h') (lt_irrefl _)⟩
 ·exact⟨fun h'=>by omega,fun h'=>by rw[h]at h';exact absurd h' (lt_irrefl _)⟩
 ·exact⟨fun _=>h,fun _=>rfl⟩
theorem atU{x:RE}:0≤sg x↔0≤x:=by
 rcases bP x with⟨h,e⟩|⟨h,e⟩|⟨h,e⟩<;>rw[e]
 ·exact⟨fun _=>le_of_lt h,fun _=>by omega⟩
 ·exact⟨fun _=>by rw[h];exact le_refl _,fun _=>by omega⟩
 ·exact⟨fun h'=>by omega,fun h'=>absurd h h'⟩
theorem arg{x:RE}:sg x≤0↔x≤0:=by
 rcases bP x with⟨h,e⟩|⟨h,e⟩|⟨h,e⟩<;>rw[e]
 ·exact⟨fun h'=>by omega,fun h'=>absurd h h'⟩
 ·exact⟨fun _=>by rw[h];exact le_refl _,fun _=>by omega⟩
 ·exact⟨fun _=>le_of_lt h,fun _=>by omega⟩
theorem neg_mul(a b:RE): -a*b= -(a*b):=by
 induction a using at5
 induction b using at5
 exact snd fun n=>by
  simp only[RL.mul,RL.neg]
  grind
theorem mul_neg(a b:RE):a* -b= -(a*b):=by
 induction a using at5
 induction b using at5
 exact snd fun n=>by
  simp only[RL.mul,RL.neg]
  grind
theorem neg_neg(a:RE): - -a=a:=by
 induction a using at5
 exact snd fun n=>by
  simp only[RL.neg]
  grind
theorem sub_self(a:RE):a-a=0:=by
 induction a using at5
 exact snd fun n=>by
  simp only[RL.add,RL.neg,RL.const]
  grind
theorem Ic(a b:RE): -(a-b)=b-a:=by
 induction a using at5
 induction b using at5
 exact snd fun n=>by
  simp only[RL.add,RL.neg]
  grind
theorem FK(x y:RE):(x+y)*(x-y)=x*x-y*y:=by
 induction x using at5
 induction y using at5
 exact snd fun n=>by
  simp only[RL.add,RL.mul,RL.neg]
  grind
theorem UE(x y:RE):((x-(0))*(0-(y)))+((x*y-(0)))=0:=by
 induction x using at5
 induction y using at5
 exact snd fun n=>by
  simp only[RL.add,RL.mul,RL.neg,RL.const]
  grind
theorem Ow(x y:RE)(h1:0<x)(h2:y<0):x*y<0:=ec.1 fun hg=>far (aQ (mul_pos (aV h1) (aV h2)) (aO hg)) (UE x y)
theorem Pv(x y:RE):((0-(x)))+((0-(y)))+((x+y-(0)))=0:=by
 induction x using at5
 induction y using at5
 exact snd fun n=>by
  simp only[RL.add,RL.neg,RL.const]
  grind
theorem aln(x y:RE)(h1:x<0)(h2:y<0):x+y<0:=ec.1 fun hg=>far (aQ (aQ (aV h1) (le_of_lt (aV h2))) (aO hg)) (Pv x y)
theorem Wb(x y:RE):((x-(0)))+((0-(y)))+((0-(x-y)))=0:=by
 induction x using at5
 induction y using at5
 exact snd fun n=>by
  simp only[RL.add,RL.neg,RL.const]
  grind
theorem QF(x y:RE)(h1:0<x)(h2:y<0):0<x-y:=ec.1 fun hg=>far (aQ (aQ (aV h1) (le_of_lt (aV h2))) (aO hg)) (Wb x y)
theorem T8(x y:RE):((0-(x)))+((y-(0)))+((x-y-(0)))=0:=by
 induction x using at5
 induction y using at5
 exact snd fun n=>by
  simp only[RL.add,RL.neg,RL.const]
  grind
theorem TD(x y:RE)(h1:x<0)(h2:0<y):x-y<0:=ec.1 fun hg=>far (aQ (aQ (aV h1) (le_of_lt (aV h2))) (aO hg)) (T8 x y)
theorem Vg(x y:RE):((x-(0)))+((y-(0)))+((0-(x+y)))=0:=by
 induction x using at5
 induction y using at5
 exact snd fun n=>by
  simp only[RL.add,RL.neg,RL.const]
  grind
theorem QG(x y:RE)(h1:0<x)(h2:0<y):0<x+y:=ec.1 fun hg=>far (aQ (aQ (aV h1) (le_of_lt (aV h2))) (aO hg)) (Vg x y)
theorem Du: -(0:RE)=0:=by rw[←zero_add (-0),nG]
theorem l4(x:RE):sg (-x)= -sg x:=by
 rcases bP x with⟨h,e⟩|⟨h,e⟩|⟨h,e⟩<;>rw[e]
 ·exact ij (ajW h)
 ·rw[h,Du,dG];rfl
 ·exact dJ (lF h)
theorem dP(x y:RE):sg (x*y)=sg x*sg y:=by
 rcases bP x with⟨h,e⟩|⟨h,e⟩|⟨h,e⟩<;>rw[e]
 ·rcases bP y with⟨h',e'⟩|⟨h',e'⟩|⟨h',e'⟩<;>rw[e']
  ·exact dJ (mul_pos h h')
  ·rw[h',mul_zero,dG];rfl
  ·exact ij (Ow _ _ h h')
 ·rw[h,zero_mul,dG];omega
 ·rcases bP y with⟨h',e'⟩|⟨h',e'⟩|⟨h',e'⟩<;>rw[e']
  ·rw[mul_comm];exact ij (Ow _ _ h' h)
  ·rw[h',mul_zero,dG];rfl
  ·have:=mul_pos (lF h) (lF h')
   rw[neg_mul,mul_neg,neg_neg]at this
   exact dJ this
theorem sg_of(q:Rat):sg (of q)=aU q 0:=by
 rcases(by grind:q<0∨q=0∨0<q)with h|h|h
 ·rw[c9 h];exact ij (i7 h)
 ·rw[h,dH];exact dG
 ·rw[cX h];exact dJ (i7 h)
def addS(s t d:Int):Int:=bif t==0||s==t then s else bif s==0 then t else s*d
theorem Gr(x y:RE):sg (x+y)=addS (sg x) (sg y) (sg (x*x-y*y)):=by
 rw[←FK,dP]
 rcases bP x with⟨h,e⟩|⟨h,e⟩|⟨h,e⟩<;>rw[e]
 ·rcases bP y with⟨h',e'⟩|⟨h',e'⟩|⟨h',e'⟩<;>rw[e']
  ·exact dJ (QG _ _ h h')
  ·rw[h',add_zero,e];rfl
  ·rw[dJ (QF _ _ h h')]
   show _=1*(_*1)
   omega
 ·rcases bP y with⟨h',e'⟩|⟨h',e'⟩|⟨h',e'⟩<;>rw[e',h,zero_add,e']<;>rfl
 ·rcases bP y with⟨h',e'⟩|⟨h',e'⟩|⟨h',e'⟩<;>rw[e']
  ·rw[ij (TD _ _ h h')]
   show _= -1*(_* -1)
   omega
  ·rw[h',add_zero,e];rfl
  ·exact ij (aln _ _ h h')
theorem apI(x:RE): -1≤sg x∧sg x≤1:=by rcases bP x with⟨_,e⟩|⟨_,e⟩|⟨_,e⟩<;>rw[e]<;>omega
end RE
end
end Go.Proofs.YtlahabkjhgkkjaaGreat
end
