/- integer: DivMod, word. -/
import Derived.Test.YtlahabkjhgkkjaaGreatW8
noncomputable section
namespace Go.Proofs.YtlahabkjhgkkjaaGreat
open Go.RowKit Go.IntKind
theorem aqq:type_of% @Quotient.inductionOn:=@Quotient.inductionOn
theorem aq6:type_of% @decide_eq_decide:=@decide_eq_decide
theorem ari:type_of% @Rat.mul_nonneg:=@Rat.mul_nonneg
theorem arz:type_of% @Rat.num_divInt_den:=@Rat.num_divInt_den
theorem arB:type_of% @Rat.mul_pos:=@Rat.mul_pos
theorem arG:type_of% @Int.eq_ofNat_of_zero_le:=@Int.eq_ofNat_of_zero_le
theorem arO:type_of% @Int.natAbs_natCast:=@Int.natAbs_natCast
theorem asd:type_of% @Int.lt_or_lt_of_ne:=@Int.lt_or_lt_of_ne
theorem aso:type_of% @Nat.gcd_comm:=@Nat.gcd_comm
theorem asD:type_of% @Rat.intCast_natCast:=@Rat.intCast_natCast
theorem asG:type_of% @Rat.divInt_ofNat:=@Rat.divInt_ofNat
theorem asI:type_of% @Rat.intCast_le_intCast:=@Rat.intCast_le_intCast
theorem asN:type_of% @Rat.sub_eq_add_neg:=@Rat.sub_eq_add_neg
theorem asT:type_of% @Nat.mul_ne_zero:=@Nat.mul_ne_zero
theorem asU:type_of% @Int.mul_ne_zero:=@Int.mul_ne_zero
theorem asV:type_of% @Rat.divInt_mul_divInt:=@Rat.divInt_mul_divInt
theorem asW:type_of% @Quotient.inductionOn₂:=@Quotient.inductionOn₂
theorem asX:type_of% @Quotient.inductionOn₃:=@Quotient.inductionOn₃
theorem as5:type_of% @Quotient.sound:=@Quotient.sound
theorem ati:type_of% @Rat.num_mkRat:=@Rat.num_mkRat
theorem atj:type_of% @Rat.den_mkRat:=@Rat.den_mkRat
theorem atx:type_of% @Rat.div_def:=@Rat.div_def
def dZ(x y:BI):Prop:=okI x∧okI y∧0<ae y
instance (x y:BI):Decidable (dZ x y):=by unfold dZ;infer_instance
theorem GJ{a b:Int}(_ha:0≤a)(hb:0<b):(a%b=0→ -a/b= -(a/b)∧ -a%b=0)∧(0<a%b→ -a/b= -(a/b)-1∧ -a%b= -(a%b)+b):=by
 have h1:=arD a (show b≠0 by omega)
 have h2:=aq4 a hb
 have h3:=arg a b
 constructor
 ·intro h
  have e: -a=b* -(a/b):=by rw[atp];omega
  constructor
  ·rw[e,asx _ (by omega)]
  ·rw[e,Int.mul_emod_right]
 ·intro h
  have e: -a=(b-a%b)+b*(-(a/b)-1):=by rw[Int.mul_sub,atp,asC];omega
  constructor
  ·rw[e,asb _ _ (by omega),arL (by omega) (by omega)];omega
  ·rw[e,asm,asw (by omega) (by omega)];omega
theorem mR:okI (ai 1):=by decide
theorem AQ(n:Bool){v:Int}:szI (bZ n v)=szI v:=by unfold bZ;cases n<;>simp[gv]
theorem GK(x y:BI)(h:dZ x y):Con Tryz.prog 287 [.d y2Y x,.d y2Y y] [.d y2Y (ai (ae x/ae y)),.d y2Y (ai (ae x%ae y)),.d atB 0]:=by
 refine aN Jp (amv _ _ ⟨0,?_⟩)
 obtain⟨hx,hy,hp⟩:=h
 obtain⟨x0,x1,x2⟩:=co hx
 obtain⟨y0,y1,y2⟩:=co hy
 have sx:=hx.2.2
 have sy:=hy.2.2
 have ey:y.1=false:=by
  cases e:y.1
  ·rfl
  ·rw[bO,e]at hp
   simp only[bZ,cond_true]at hp
   omega
 have dy:ae y=val y.2:=by rw[bO,ey];rfl
 rw[dy]at hp
 have hdv:mc x.2 y.2:=⟨⟨hx.1.1,by omega⟩,⟨hy.1.1,by omega⟩,hp⟩
 obtain⟨lq,lr,sq,sr,vq,vr⟩:=aaX hdv
 have hne:y.2≠[]:=fun e=>by rw[y2]at e;omega
 have hylen:=ara.2 hne
 have r0:=arD (val x.2) (show val y.2≠0 by omega)
 have r1:=aq4 (val x.2) hp
 have q0:0≤val x.2/val y.2:=ary x0 y0
 have q1:val x.2/val y.2≤val x.2:=asf _ x0
 have vx:=bV hx.1.1
 have vy:=bV hy.1.1
 have szq:szI (val x.2/val y.2)≤1000000:=d7 (by have:=bU 1000000;omega) (by have:=cQ sx;omega)
 have szr:szI (val x.2%val y.2)≤1000000:=d7 (by have:=bU 1000000;omega) (by have:=cQ sy;omega)
 unfold adb
 simp only[aK]
 rw[show((y.2.length:Int)==0)=false by simp;omega,aqs hdv,aqs (show a9 (dvQ x.2 y.2) from⟨lq,by omega⟩),aqs (show a9 (dvR x.2 y.2) from⟨lr,by omega⟩),aqs (show aX 1 by decide),vq,vr,
  aqs (show okI (ai (bZ (!(x.1==y.1)) (val x.2/val y.2)))∧okI (ai (1:Int)) from⟨bk (by rw[AQ];exact szq),mR⟩),aqs (show okI (ai (bZ x.1 (val x.2%val y.2)))∧okI y from⟨bk (by rw[AQ];exact szr),hy⟩)]
 simp only[dec_enc,dy,ao]
 have hE1:(ai (bZ x.1 (val x.2%val y.2))).1=(x.1&&decide (0<val x.2%val y.2)):=by rw[jK x.1 r0]
 have hE2:(ai (bZ x.1 (val x.2%val y.2))).2=ah (val x.2%val y.2).toNat:=by rw[jK x.1 r0]
 rw[hE1,hE2,bO x,ey]
 have hlen:(((ah (val x.2%val y.2).toNat).length:Int)>0)↔0<val x.2%val y.2:=by
  constructor
  ·intro hl
   rcases aqX 0 (val x.2%val y.2)with h|h
   ·exact h
   ·rw[show(val x.2%val y.2).toNat=0 by omega,dY]at hl
    simp at hl
  ·intro hl
   have:ah (val x.2%val y.2).toNat≠[]:=fun e=>by rw[fF]at e;omega
   have:=ara.2 this
   omega
 obtain⟨n1,n2⟩:=GJ (a:=val x.2) (b:=val y.2) x0 hp
 rcases aqX 0 (val x.2%val y.2)with hr|hr
 ·rw[aqs (hlen.2 hr),aqs hr]
  cases x.1
  ·rfl
  ·obtain⟨e1,e2⟩:=n2 hr
   simp only[bZ,cond_true,Bool.not_false,aqx,show((true==false):Bool)=false from rfl]
   rw[e1,e2]
 ·rw[aqu (fun h'=>by have:=hlen.1 h';omega)]
  dsimp only
  have e0:val x.2%val y.2=0:=by omega
  cases x.1
  ·simp only[bZ,cond_false,show((false==false):Bool)=true from rfl,Bool.not_true]
  ·obtain⟨e1,e2⟩:=n1 e0
   simp only[bZ,cond_true,show((true==false):Bool)=false from rfl,Bool.not_false]
   rw[e1,e2,e0]
   rfl
def iM(x:BI):Bool:=decide (x.2.length≤2)
def wi(x:BI):Int:=bif iM x then val x.2 else 0
def ak6:Ctx:=CX [] []
def acu(x:Bool×List Int)(_k:KT):Option (List RV):=match(x.2.length:Int)==0 with|true=>some [RV.d (.int .u64) 0,RV.d .bool true]|false=>(match(x.2.length:Int)==1 with|true=>(match bu x.2 0 with|some x1=>some [RV.d (.int .u64) (u64.wrap x1),RV.d .bool true]|none=>none)|false=>(match(x.2.length:Int)==2 with|true=>(match bu x.2 1 with|some x2=>(match bu x.2 0 with|some x3=>some [RV.d (.int .u64) (u64.wrap ((u64.wrap ((u64.wrap x2)*1000000000))+(u64.wrap x3))),RV.d .bool true]|none=>none)|none=>none)|false=>some [RV.d (.int .u64) 0,RV.d .bool false]))
theorem amV(x:Bool×List Int):RS ak6 285 [.d y2Y x] (acu x):=rsX
theorem WB(x:BI)(h:okI x):Con Tryz.prog 285 [.d y2Y x] [.d (.int .u64) (wi x),.d .bool (iM x)]:=by
 refine aN (E:=[]) trivial (amV _ ⟨0,?_⟩)
 obtain⟨neg,l⟩:=x
 have hl:=h.1.1
 unfold acu wi iM
 match l,hl with
 |[],_=>rfl
 |[a],hl=>
  have:=hl.head
  simp only[aqZ,xI,ard]
  rw[bH (x:=a) (by omega) (by omega)]
  simp[val]
 |[a,b],hl=>
  have h1:=hl.head
  have h2:=hl.tail.head
  have e1:bu [a,b] 1=some b:=rfl
  have e0:bu [a,b] 0=some a:=rfl
  simp only[e1,e0,aq1,List.length_nil]
  rw[bH (x:=a) (by omega) (by omega),bH (x:=b) (by omega) (by omega),bH (x:=b*1000000000) (by omega) (by omega),bH (x:=b*1000000000+a) (by omega) (by omega)]
  rw[show val [a,b]=b*1000000000+a by simp only[val];omega]
  rfl
 |a::b::c::l,hl=>
  have e:decide ((a::b::c::l).length≤2)=false:=aqu (by simp)
  rw[e,show(((a::b::c::l).length:Int)==0)=false by simp;omega,show(((a::b::c::l).length:Int)==1)=false by simp;omega,show(((a::b::c::l).length:Int)==2)=false by simp;omega]
  rfl
def Ue:aM:=spN false false [y2Y] (fun x=>decide (okI x.1)) (fun x=>[RV.d (.int .u64) (wi x.1),RV.d .bool (iM x.1)])
theorem T1:SpK 285 Ue:=spX fun x h=>WB x.1 (aqr h)
def UY:Env:=[(226,uw),(227,yu),(286,EL),(285,Ue)]
theorem Kw:EnvAll Tryz.prog UY:=⟨oM,uE,Bq,T1,trivial⟩
def afV:NT:=[((261,6),{keep:=[4,5,6],hl:=5}),((261,24),{keep:=[4,7,9],hl:=3})]
def fS:Ctx:=CX UY afV
def jm(x y:Bool×List Int)(b3_0:Bool)(b3_1:List Int)(b4_0:Bool)(b4_1:List Int):Cfg:=⟨261,[.blk 0,.seq 40],[(4,.box 2 0),(5,.box 3 0),(6,.box 4 0)],[.box 33 [SB x.1,.d atA x.2],.box 33 [SB y.1,.d atA y.2],.box 33 [SB false,.nil],.box 33 [SB b3_0,.d atA b3_1],.box 33 [SB b4_0,.d atA b4_1]],0,[]⟩
def fh(x y:Bool×List Int)(b3_0:Bool)(b3_1:List Int)(b4_0:Bool)(b4_1:List Int):Cfg:=⟨261,[.blk 0,.seq 40],[(4,.box 2 0),(5,.box 4 0),(6,.box 3 0)],[.box 33 [SB x.1,.d atA x.2],.box 33 [SB y.1,.d atA y.2],.box 33 [SB false,.nil],.box 33 [SB b3_0,.d atA b3_1],.box 33 [SB b4_0,.d atA b4_1]],0,[]⟩
def gr(x y:Bool×List Int)(s7 s9:Int):Cfg:=⟨261,[.blk 2,.seq 33,.seq 37,.blk 1,.lp 6,.blk 0,.seq 40],[(4,.box 2 0),(7,.d (.int .u64) s7),(9,.d (.int .u64) s9)],[.box 33 [SB x.1,.d atA x.2],.box 33 [SB y.1,.d atA y.2],.box 33 [SB false,.nil]],0,[]⟩
def aaY(x y:Bool×List Int)(k:KT):Option (List RV):=let y1:=ai (bZ false (val x.2));let y2:=ai (bZ false (val y.2));let y3:=jm x y (y1.1) (y1.2) (y2.1) (y2.2);let y4:=fh x y (y2.1) (y2.2) (y1.1) (y1.2);let y5:Option (List RV):=match decide (a9 y.2)with|true=>k 6 y3|false=>none;let y6:Option (List RV):=match decide (a9 y.2)with|true=>k 6 y4|false=>none;cg (match decide (a9 x.2)with|true=>cg (match decide (a9 y.2)with|true=>cg (k 6 y3) (k 6 y4)|false=>none) (cg (dup (.b .l .l) y5) (dup (.b .l .l) y6))|false=>none) (cg (cg (match decide (a9 x.2)with|true=>dup (.b .l .l) y5|false=>none) (match decide (a9 x.2)with|true=>y5|false=>none)) (cg (match decide (a9 x.2)with|true=>dup (.b .l .l) y6|false=>none) (match decide (a9 x.2)with|true=>y6|false=>none)))
theorem ak1(x y:Bool×List Int):RS fS 261 [.d y2Y x,.d y2Y y] (aaY x y):=rsX
def Vf(x y:Bool×List Int)(b3_0:Bool)(b3_1:List Int)(b4_0:Bool)(b4_1:List Int)(k:KT):Option (List RV):=match decide ((b4_1.length:Int)>0)with|true=>(match decide (okI (b3_0,b3_1))with|true=>(match decide (okI (b4_0,b4_1))with|true=>(match iM (b3_0,b3_1)with|true=>(match iM (b4_0,b4_1)with|true=>k 24 (gr x y (wi (b3_0,b3_1)) (wi (b4_0,b4_1)))|false=>(match decide (mc b3_1 b4_1)with|true=>(match decide (a9 (dvR b3_1 b4_1))with|true=>k 6 (jm x y b4_0 b4_1 ((ai (bZ false (val (dvR b3_1 b4_1)))).1) ((ai (bZ false (val (dvR b3_1 b4_1)))).2))|false=>none)|false=>none))|false=>(match decide (mc b3_1 b4_1)with|true=>(match decide (a9 (dvR b3_1 b4_1))with|true=>k 6 (jm x y b4_0 b4_1 ((ai (bZ false (val (dvR b3_1 b4_1)))).1) ((ai (bZ false (val (dvR b3_1 b4_1)))).2))|false=>none)|false=>none))|false=>none)|false=>none)|false=>(match decide (b3_1.length*4≤140737488355328∧b3_1.length≤140737488355328)with|true=>(match decide (a9 b3_1)with|true=>some [RV.d y2Y (ai (bZ false (val b3_1)))]|false=>none)|false=>none)
theorem SK(x y:Bool×List Int)(b3_0:Bool)(b3_1:List Int)(b4_0:Bool)(b4_1:List Int):RL fS 6 (jm x y b3_0 b3_1 b4_0 b4_1) (Vf x y b3_0 b3_1 b4_0 b4_1):=rlX
def Fh(x y:Bool×List Int)(b3_0:Bool)(b3_1:List Int)(b4_0:Bool)(b4_1:List Int)(k:KT):Option (List RV):=match decide ((b3_1.length:Int)>0)with|true=>(match decide (okI (b4_0,b4_1))with|true=>(match decide (okI (b3_0,b3_1))with|true=>(match iM (b4_0,b4_1)with|true=>(match iM (b3_0,b3_1)with|true=>k 24 (gr x y (wi (b4_0,b4_1)) (wi (b3_0,b3_1)))|false=>(match decide (mc b4_1 b3_1)with|true=>(match decide (a9 (dvR b4_1 b3_1))with|true=>k 6 (fh x y ((ai (bZ false (val (dvR b4_1 b3_1)))).1) ((ai (bZ false (val (dvR b4_1 b3_1)))).2) b3_0 b3_1)|false=>none)|false=>none))|false=>(match decide (mc b4_1 b3_1)with|true=>(match decide (a9 (dvR b4_1 b3_1))with|true=>k 6 (fh x y ((ai (bZ false (val (dvR b4_1 b3_1)))).1) ((ai (bZ false (val (dvR b4_1 b3_1)))).2) b3_0 b3_1)|false=>none)|false=>none))|false=>none)|false=>none)|false=>(match decide (b4_1.length*4≤140737488355328∧b4_1.length≤140737488355328)with|true=>(match decide (a9 b4_1)with|true=>some [RV.d y2Y (ai (bZ false (val b4_1)))]|false=>none)|false=>none)
theorem DS(x y:Bool×List Int)(b3_0:Bool)(b3_1:List Int)(b4_0:Bool)(b4_1:List Int):RL fS 6 (fh x y b3_0 b3_1 b4_0 b4_1) (Fh x y b3_0 b3_1 b4_0 b4_1):=rlX
def qo(x y:Bool×List Int)(s7 s9:Int)(k:KT):Option (List RV):=match decide (s9>0)with|true=>(match decide (s9=(0:Int))with|true=>none|false=>k 24 (gr x y s9 (Int.tmod s7 s9)))|false=>(match decide (fw s7)with|true=>(match decide (a9 (dig 3 s7))with|true=>some [RV.d y2Y (ai (bZ false (val (dig 3 s7))))]|false=>none)|false=>none)
theorem xE(x y:Bool×List Int)(s7 s9:Int):RL fS 24 (gr x y s7 s9) (qo x y s7 s9):=rlX
theorem Rj(x y:BI)(B:Nat)(hB:(B:Int)<18446744073709551616):∀(v u:Nat),u≤B→v≤B→fS.RunsE 24 (gr x y (u:Int) (v:Int)) [.d y2Y (ai ((Nat.gcd u v:Nat):Int))]:=by
 intro v
 induction v using Nat.strongRecOn with
 |ind v ih=>
  intro u hu hv
  rcases aq3 v with h0|h0
  ·refine xE _ _ _ _ ⟨0,fun n _=>?_⟩
   have hp:fw (u:Int):=⟨by omega,by omega⟩
   unfold qo
   rw[aqu (show ¬(v:Int)>0 by omega),aqs hp,aqs (gK (n:=3) (by decide) (u:Int)),td hp,show Nat.gcd u v=u by rw[h0];exact Nat.gcd_zero_right u]
   rfl
  ·obtain⟨n0,hn⟩:=ih (u%v) (as9 _ h0) v hv (aqM (Nat.le_of_lt (as9 _ h0)) hv)
   refine xE _ _ _ _ ⟨n0,fun n hn'=>?_⟩
   unfold qo
   rw[aqs (by omega),aqu (by omega),gI (by omega)]
   dsimp only
   rw[show((u:Int)%(v:Int))=((u%v:Nat):Int) by simp,aso u v,Nat.gcd_rec v u,aso]
   exact hn n hn'
theorem xk(v:Int):bZ false v=v:=rfl
theorem gD(u:Nat):ai (u:Int)=(false,ah u):=by unfold ai;rw[aqu (by omega),arO]
theorem yj{u:Nat}(h:(ah u).length≤2):u≤(pw 2).toNat:=by
 have h1:=bV (bW u)
 rw[bI]at h1
 have h2:=cQ h
 omega
theorem af0:(((pw 2).toNat:Nat):Int)<18446744073709551616:=by
 have h3:pw 2=1000000000000000000:=by decide
 rw[h3]
 decide
theorem CB{k:Nat→Cfg→Option (List RV)}{u v:Nat}(hu:szI u≤1000000)(hv:szI v≤1000000){r:List RV}{H:Int→Int→Cfg}{D:Int→Cfg}
  (h1:v=0→r=[.d y2Y (ai (u:Int))]) (h2:v≠0→iM (ai (u:Int))=true→iM (ai (v:Int))=true→k 24 (H (u:Int) (v:Int))=some r) (h3:v≠0→k 6 (D ((u%v:Nat):Int))=some r) (D':List Int→Cfg) (hD:D' (dvR (ah u) (ah v))=D (val (dvR (ah u) (ah v)))):
  (match decide (((ah v).length:Int)>0)with
   |true=>(match decide (okI (ai (u:Int)))with
    |true=>(match decide (okI (ai (v:Int)))with
     |true=>(match iM (ai (u:Int))with
      |true=>(match iM (ai (v:Int))with
       |true=>k 24 (H (wi (ai (u:Int))) (wi (ai (v:Int))))
       |false=>(match decide (mc (ah u) (ah v))with
        |true=>(match decide (a9 (dvR (ah u) (ah v)))with
         |true=>k 6 (D' (dvR (ah u) (ah v)))
         |false=>none)
        |false=>none))
      |false=>(match decide (mc (ah u) (ah v))with
        |true=>(match decide (a9 (dvR (ah u) (ah v)))with
         |true=>k 6 (D' (dvR (ah u) (ah v)))
         |false=>none)
        |false=>none))
     |false=>none)
    |false=>none)
   |false=>(match decide ((ah u).length*4≤140737488355328∧(ah u).length≤140737488355328)with
    |true=>(match decide (a9 (ah u))with
     |true=>some [.d y2Y (ai (bZ false (val (ah u))))]
     |false=>none)
    |false=>none))=some r:=by
 have lu:(ah u).length≤1000000:=by have:=hu;unfold szI at this;rwa [arO]at this
 have lv:(ah v).length≤1000000:=by have:=hv;unfold szI at this;rwa [arO]at this
 rcases aq3 v with h0|h0
 ·subst h0
  rw[h1 rfl,show decide (((ah 0).length:Int)>0)=false from rfl,aqs (show(ah u).length*4≤140737488355328∧(ah u).length≤140737488355328 by omega),aqs (show a9 (ah u) from⟨bW u,by omega⟩),bI]
  rfl
 ·have hne:ah v≠[]:=fun e=>by rw[fF]at e;omega
  have hl:=ara.2 hne
  have hvv:=bI v
  have hvu:=bI u
  have hdv:mc (ah u) (ah v):=⟨⟨bW u,by omega⟩,⟨bW v,by omega⟩,by omega⟩
  obtain⟨_,lr,_,sr,_,vr⟩:=aaX hdv
  have hD2:k 6 (D' (dvR (ah u) (ah v)))=some r:=by
   rw[hD,vr,hvv,hvu]
   exact h3 (by omega)
  rw[aqs (by omega),aqs (bk hu),aqs (bk hv),aqs hdv,aqs (show a9 (dvR (ah u) (ah v)) from⟨lr,by omega⟩)]
  dsimp only
  cases hb1:iM (ai (u:Int))
  ·exact hD2
  ·cases hb2:iM (ai (v:Int))
   ·exact hD2
   ·dsimp only
    have:=h2 (by omega) hb1 hb2
    unfold wi
    rw[hb1,hb2]
    simp only[cond_true,gD]
    rw[hvv,hvu]
    exact this
theorem Pn(x y:BI):∀(v u:Nat),szI u≤1000000→szI v≤1000000→
  fS.RunsE 6 (jm x y false (ah u) false (ah v)) [.d y2Y (ai ((Nat.gcd u v:Nat):Int))]∧fS.RunsE 6 (fh x y false (ah v) false (ah u)) [.d y2Y (ai ((Nat.gcd u v:Nat):Int))]:=by
 intro v
 induction v using Nat.strongRecOn with
 |ind v ih=>
  intro u hu hv
  have hw:iM (ai (u:Int))=true→iM (ai (v:Int))=true→fS.RunsE 24 (gr x y (u:Int) (v:Int)) [.d y2Y (ai ((Nat.gcd u v:Nat):Int))]:=fun h1 h2=>by
   unfold iM at h1 h2
   rw[gD]at h1 h2
   exact Rj x y _ af0 v u (yj (aqr h1)) (yj (aqr h2))
  have hd:v≠0→fS.RunsE 6 (jm x y false (ah v) false (ah (u%v))) [.d y2Y (ai ((Nat.gcd u v:Nat):Int))]∧fS.RunsE 6 (fh x y false (ah (u%v)) false (ah v)) [.d y2Y (ai ((Nat.gcd u v:Nat):Int))]:=fun h0=>by
   have hm:=as9 u (Nat.pos_of_ne_zero h0)
   have:=ih (u%v) hm v hv (aqM (cU (by omega)) hv)
   rw[aso u v,Nat.gcd_rec v u,aso (u%v) v]
   exact this
  have hcommon:∃n0,∀n,n0≤n→(iM (ai (u:Int))=true→iM (ai (v:Int))=true→fS.k n 24 (gr x y (u:Int) (v:Int))=some [.d y2Y (ai ((Nat.gcd u v:Nat):Int))])∧(v≠0→fS.k n 6 (jm x y false (ah v) false (ah (u%v)))=some [.d y2Y (ai ((Nat.gcd u v:Nat):Int))]∧fS.k n 6 (fh x y false (ah (u%v)) false (ah v))=some [.d y2Y (ai ((Nat.gcd u v:Nat):Int))]):=by
   have g1:∃n1,∀n,n1≤n→(iM (ai (u:Int))=true→iM (ai (v:Int))=true→fS.k n 24 (gr x y (u:Int) (v:Int))=some [.d y2Y (ai ((Nat.gcd u v:Nat):Int))]):=by
    by_cases hb:iM (ai (u:Int))=true∧iM (ai (v:Int))=true
    ·obtain⟨n,h⟩:=hw hb.1 hb.2
     exact⟨n,fun m hm _ _=>h m hm⟩
    ·exact⟨0,fun n _ h1 h2=>absurd ⟨h1,h2⟩ hb⟩
   have g2:∃n1,∀n,n1≤n→(v≠0→fS.k n 6 (jm x y false (ah v) false (ah (u%v)))=some [.d y2Y (ai ((Nat.gcd u v:Nat):Int))]∧fS.k n 6 (fh x y false (ah (u%v)) false (ah v))=some [.d y2Y (ai ((Nat.gcd u v:Nat):Int))]):=by
    by_cases hb:v=0
    ·exact⟨0,fun n _ h=>absurd hb h⟩
    ·obtain⟨⟨n1,h1⟩,⟨n2,h2⟩⟩:=hd hb
     exact⟨max n1 n2,fun n hn _=>⟨h1 n (by omega),h2 n (by omega)⟩⟩
   obtain⟨n1,h1⟩:=g1
   obtain⟨n2,h2⟩:=g2
   exact⟨max n1 n2,fun n hn=>⟨h1 n (by omega),h2 n (by omega)⟩⟩
  obtain⟨n0,hc⟩:=hcommon
  have hz:v=0→([.d y2Y (ai ((Nat.gcd u v:Nat):Int))]:List RV)=[.d y2Y (ai (u:Int))]:=fun e=>by subst e;rw[Nat.gcd_zero_right]
  constructor
  ·refine SK _ _ _ _ _ _ ⟨n0,fun n hn=>?_⟩
   have:=CB (k:=fS.k n) hu hv (H:=fun a b=>gr x y a b) (D:=fun z=>jm x y false (ah v) (ai z).1 (ai z).2) hz (fun _ h1 h2=>(hc n hn).1 h1 h2) (fun h0=>by rw[gD];exact((hc n hn).2 h0).1) (fun l=>jm x y false (ah v) (ai (bZ false (val l))).1 (ai (bZ false (val l))).2) rfl
   rw[gD,gD]at this
   exact this
  ·refine DS _ _ _ _ _ _ ⟨n0,fun n hn=>?_⟩
   have:=CB (k:=fS.k n) hu hv (H:=fun a b=>gr x y a b) (D:=fun z=>fh x y (ai z).1 (ai z).2 false (ah v)) hz (fun _ h1 h2=>(hc n hn).1 h1 h2) (fun h0=>by rw[gD];exact((hc n hn).2 h0).2) (fun l=>fh x y (ai (bZ false (val l))).1 (ai (bZ false (val l))).2 false (ah v)) rfl
   rw[gD,gD]at this
   exact this
theorem Z9(x y:BI)(h:okI x∧okI y):Con Tryz.prog 261 [.d y2Y x,.d y2Y y] [.d y2Y (ai ((Int.gcd (ae x) (ae y):Nat):Int))]:=by
 refine aN Kw (show fS.Res _ _ _ from ?_)
 obtain⟨hx,hy⟩:=h
 obtain⟨x0,_,_⟩:=co hx
 obtain⟨y0,_,_⟩:=co hy
 have ex:((ae x).natAbs:Int)=val x.2:=by rw[bO];unfold bZ;cases x.1<;>simp<;>omega
 have ey:((ae y).natAbs:Int)=val y.2:=by rw[bO];unfold bZ;cases y.1<;>simp<;>omega
 have szx:szI ((ae x).natAbs:Int)≤1000000:=aqM (cU (by omega)) (gg hx)
 have szy:szI ((ae y).natAbs:Int)≤1000000:=aqM (cU (by omega)) (gg hy)
 obtain⟨⟨n1,h1⟩,⟨n2,h2⟩⟩:=Pn x y (ae y).natAbs (ae x).natAbs szx szy
 refine ak1 _ _ ⟨max n1 n2,?_⟩
 have h1:=h1 (max n1 n2) (by omega)
 have h2:=h2 (max n1 n2) (by omega)
 unfold aaY
 simp only[aK]
 rw[aqs (eW hx),aqs (eW hy),xk,xk,←ex,←ey,gD,gD]
 dsimp only
 rw[h1,h2]
 simp only[ao]
 rfl
abbrev BR:=BI×BI
def ag(q:Rat):BR:=(ai q.num,ai (q.den:Int))
def ab(x:BR):Rat:=mkRat (ae x.1) (ae x.2).toNat
theorem av(q:Rat):ab (ag q)=q:=by
 unfold ab ag
 dsimp only
 rw[dec_enc,dec_enc,ar8,Rat.mkRat_self]
def okR(x:BR):Prop:=okI x.1∧okI x.2∧0<ae x.2∧Int.gcd (ae x.1) (ae x.2)=1∧x.1.2.length≤480000∧x.2.2.length≤480000
instance (x:BR):Decidable (okR x):=by unfold okR;infer_instance
theorem cC{x:BR}(h:okR x):(ab x).num=ae x.1∧((ab x).den:Int)=ae x.2:=by
 obtain⟨h1,h2,h3,h4,_⟩:=h
 unfold ab
 rw[ati,atj]
 have hg:(ae x.2).toNat.gcd (ae x.1).natAbs=1:=by
  rw[aso,show(ae x.2).toNat=(ae x.2).natAbs by omega]
  exact h4
 rw[hg,aqQ (by omega),aqQ (by omega)]
 constructor
 ·simp
 ·rw[Nat.div_one];omega
theorem TV{x:BR}(h:okR x):x=ag (ab x):=by
 obtain⟨e1,e2⟩:=cC h
 unfold ag
 rw[e1,e2,←fL h.1,←fL h.2.1]
def bdR(k:Nat)(q:Rat):Prop:=szI q.num≤k∧szI (q.den:Int)≤k
theorem mJ{q:Rat}{k:Nat}(h:bdR k q)(hk:k≤480000):okR (ag q):=by
 obtain⟨h1,h2⟩:=h
 have hd:=q.den_pos
 refine⟨bk (by omega),bk (by omega),?_,?_,by show szI q.num≤480000;omega,by show szI (q.den:Int)≤480000;omega⟩
 ·show 0<ae (ai (q.den:Int))
  rw[dec_enc];omega
 ·show Int.gcd (ae (ai q.num)) (ae (ai (q.den:Int)))=1
  rw[dec_enc,dec_enc]
  exact q.reduced
theorem AF{x:BR}(h:okR x):bdR 480000 (ab x):=by
 obtain⟨e1,e2⟩:=cC h
 obtain⟨h1,h2,_,_,h5,h6⟩:=h
 unfold bdR szI
 rw[e1,e2]
 rw[fL h1]at h5
 rw[fL h2]at h6
 exact⟨h5,h6⟩
theorem bP{j k:Nat}{q:Rat}(h:bdR j q)(hk:j≤k):bdR k q:=⟨aqM h.1 hk,aqM h.2 hk⟩
theorem Ie(a:Int)(g:Nat):(a/(g:Int)).natAbs≤a.natAbs∨¬(g:Int)∣a:=by
 by_cases h:(g:Int)∣a
 ·left
  obtain⟨k,rfl⟩:=h
  rcases aq3 g with h0|h0
  ·subst h0;simp
  ·rw[asx _ (by omega),as4]
   exact Nat.le_mul_of_pos_left _ (by omega)
 ·exact .inr h
theorem p7{n:Int}{d k:Nat}(hd:d≠0)(h1:szI n≤k)(h2:szI (d:Int)≤k):bdR k (mkRat n d):=by
 unfold bdR
 rw[ati,atj,aqQ hd,aqQ hd]
 constructor
 ·refine aqM (cU ?_) h1
  refine(Ie n (d.gcd n.natAbs)).resolve_right (fun h=>h ?_)
  have:=Nat.gcd_dvd_right d n.natAbs
  exact Int.ofNat_dvd_left.2 this
 ·exact aqM (cU (by rw[arO,arO];exact Nat.div_le_self _ _)) h2
theorem rZ{k:Nat}{a:Rat}(h:bdR k a):bdR k (-a):=by
 refine⟨?_,h.2⟩
 rw[Rat.neg_num,gv]
 exact h.1
theorem yL{j k:Nat}{a b:Rat}(ha:bdR j a)(hb:bdR k b):bdR (j+k+1) (a+b):=by
 rw[Rat.add_def']
 have d1:=a.den_pos
 have d2:=b.den_pos
 refine p7 (asT (by omega) (by omega)) (sH (cB ha.1 hb.2) ?_) ?_
 ·rw[Nat.add_comm];exact cB hb.1 ha.2
 ·rw[arQ];exact aqM (cB ha.2 hb.2) (by omega)
theorem VJ{j k:Nat}{a b:Rat}(ha:bdR j a)(hb:bdR k b):bdR (j+k+1) (a-b):=by
 rw[asN];exact yL ha (rZ hb)
theorem yR{j k:Nat}{a b:Rat}(ha:bdR j a)(hb:bdR k b):bdR (j+k) (a*b):=by
 rw[Rat.mul_def']
 have d1:=a.den_pos
 have d2:=b.den_pos
 refine p7 (asT (by omega) (by omega)) (cB ha.1 hb.1) ?_
 rw[arQ]
 exact cB ha.2 hb.2
theorem ZT{k:Nat}{a:Rat}(h:bdR k a)(h0:a≠0):bdR k a⁻¹:=by
 have hn:a.num≠0:=fun e=>h0 (Rat.num_eq_zero.1 e)
 rw[Rat.inv_def]
 rcases asd hn with h1|h1
 ·rw[←Rat.neg_divInt_neg,show-a.num=(((-a.num).toNat:Nat):Int) by omega,asG]
  refine p7 (by omega) (by rw[gv];exact h.2) ?_
  rw[show(((-a.num).toNat:Nat):Int)= -a.num by omega,gv]
  exact h.1
 ·rw[show a.num=((a.num.toNat:Nat):Int) by omega,asG]
  refine p7 (by omega) h.2 ?_
  rw[show((a.num.toNat:Nat):Int)=a.num by omega]
  exact h.1
theorem WE{j k:Nat}{a b:Rat}(ha:bdR j a)(hb:bdR k b)(h0:b≠0):bdR (j+k) (a/b):=by
 rw[atx];exact yR ha (ZT hb h0)
def dP(x y:BI):BR:=ag (Rat.divInt (ae x) (ae y))
def fT(x y:BI):Prop:=okI x∧okI y∧ae y≠0
instance (x y:BI):Decidable (fT x y):=by unfold fT;infer_instance
theorem ks{n d:Int}(hd:0<d):ag (Rat.divInt n d)=(ai (n/(Int.gcd n d:Int)),ai (d/(Int.gcd n d:Int))):=by
 obtain⟨D,rfl⟩:=arG (aq2 hd)
 unfold ag
 rw[asG,ati,atj,aqQ (by omega),aqQ (by omega)]
 have e:Int.gcd n (D:Int)=D.gcd n.natAbs:=by rw[aso];rfl
 rw[e,Int.natCast_ediv]
def qd:aM:=spN true false [y2Y] (fun x=>decide (okI x.1)) (fun x=>[RV.d atB (ce (ae x.1) 0)])
theorem l7:SpK 168 qd:=spX fun x h=>Zf x.1 (aqr h)
def nU:aM:=spN true false [y2Y,y2Y] (fun x=>decide (okI x.1∧okI x.2.1)) (fun x=>[RV.d atB (ce (ae x.1) (ae x.2.1))])
theorem kf:SpK 183 nU:=spX fun x h=>F3 x.1 x.2.1 (aqr h)
def rl:aM:=spN false false [y2Y] (fun x=>decide (okI x.1)) (fun x=>[RV.d y2Y (ai (-ae x.1))])
theorem lZ:SpK 254 rl:=spX fun x h=>Ig x.1 (aqr h)
def rB:aM:=spN false false [y2Y,y2Y] (fun x=>decide (okI x.1∧okI x.2.1)) (fun x=>[RV.d y2Y (ai (ae x.1*ae x.2.1))])
theorem me:SpK 184 rB:=spX fun x h=>HM x.1 x.2.1 (aqr h)
def Ah:aM:=spN false false [y2Y,y2Y] (fun x=>decide (dZ x.1 x.2.1)) (fun x=>[RV.d y2Y (ai (ae x.1/ae x.2.1)),RV.d y2Y (ai (ae x.1%ae x.2.1)),RV.d atB 0])
theorem vS:SpK 287 Ah:=spX fun x h=>GK x.1 x.2.1 (aqr h)
def E6:aM:=spN false false [y2Y,y2Y] (fun x=>decide (okI x.1∧okI x.2.1)) (fun x=>[RV.d y2Y (ai ((Int.gcd (ae x.1) (ae x.2.1):Nat):Int))])
theorem CA:SpK 261 E6:=spX fun x h=>Z9 x.1 x.2.1 (aqr h)
def Fd:Env:=[(160,lV),(168,qd),(183,nU),(222,lW),(254,rl),(184,rB),(287,Ah),(261,E6)]
theorem xx:EnvAll Tryz.prog Fd:=⟨iF,l7,kf,iR,lZ,me,vS,CA,trivial⟩
def ak8:Ctx:=CX Fd []
def aa0(_k:KT):Option (List RV):=match decide (aX (1:Int))with|true=>some [RV.d y2Y (ai (1:Int))]|false=>none
theorem ajH:RS ak8 225 [] (aa0):=rsX
def amn:Ctx:=CX Fd []
def adr(x y:Bool×List Int)(_k:KT):Option (List RV):=match decide (dZ x y)with|true=>some [RV.d y2Y (ai (ae x/ae y))]|false=>none
theorem ani(x y:Bool×List Int):RS amn 262 [.d y2Y x,.d y2Y y] (adr x y):=rsX
theorem Xz:Con Tryz.prog 225 [] [.d y2Y (ai 1)]:=by
 refine aN xx (ajH ⟨0,?_⟩)
 unfold aa0
 rw[aqs (show aX 1 by decide)]
theorem YH(x y:BI)(h:dZ x y):Con Tryz.prog 262 [.d y2Y x,.d y2Y y] [.d y2Y (ai (ae x/ae y))]:=by
 refine aN xx (ani _ _ ⟨0,?_⟩)
 unfold adr
 rw[aqs h]
def vV:aM:=spN false false [] (fun _=>true) (fun _=>[RV.d y2Y (ai 1)])
theorem oI:SpK 225 vV:=spX fun _ _=>Xz
def MP:aM:=spN false false [y2Y,y2Y] (fun x=>decide (dZ x.1 x.2.1)) (fun x=>[RV.d y2Y (ai (ae x.1/ae x.2.1))])
theorem Q5:SpK 262 MP:=spX fun x h=>YH x.1 x.2.1 (aqr h)
def RK:Env:=[(160,lV),(168,qd),(183,nU),(222,lW),(254,rl),(184,rB),(287,Ah),(261,E6),(225,vV),(262,MP)]
theorem IE:EnvAll Tryz.prog RK:=⟨iF,l7,kf,iR,lZ,me,vS,CA,oI,Q5,trivial⟩
def amB:Ctx:=CX RK []
def adw(x y:Bool×List Int)(_k:KT):Option (List RV):=match decide (okI y)with|true=>(match decide ((ce (ae y) 0)<0)with|true=>(match decide (okI x)with|true=>(match decide (okI y)with|true=>(match decide (okI (ai (-ae x))∧okI (ai (-ae y)))with|true=>(match decide (okI (ai ((Int.gcd (ae (ai (-ae x))) (ae (ai (-ae y))):Nat):Int))∧okI (ai 1))with|true=>(match(ce (ae (ai ((Int.gcd (ae (ai (-ae x))) (ae (ai (-ae y))):Nat):Int))) (ae (ai 1))) !=0 with|true=>(match decide (dZ (ai (-ae x)) (ai ((Int.gcd (ae (ai (-ae x))) (ae (ai (-ae y))):Nat):Int)))with|true=>(match decide (dZ (ai (-ae y)) (ai ((Int.gcd (ae (ai (-ae x))) (ae (ai (-ae y))):Nat):Int)))with|true=>some [RV.d (.st (.pair y2Y y2Y)) ((ai (ae (ai (-ae x))/ae (ai ((Int.gcd (ae (ai (-ae x))) (ae (ai (-ae y))):Nat):Int)))),(ai (ae (ai (-ae y))/ae (ai ((Int.gcd (ae (ai (-ae x))) (ae (ai (-ae y))):Nat):Int)))))]|false=>none)|false=>none)|false=>some [RV.d (.st (.pair y2Y y2Y)) ((ai (-ae x)),(ai (-ae y)))])|false=>none)|false=>none)|false=>none)|false=>none)|false=>(match decide (okI x∧okI y)with|true=>(match decide (okI (ai ((Int.gcd (ae x) (ae y):Nat):Int))∧okI (ai 1))with|true=>(match(ce (ae (ai ((Int.gcd (ae x) (ae y):Nat):Int))) (ae (ai 1))) !=0 with|true=>(match decide (dZ x (ai ((Int.gcd (ae x) (ae y):Nat):Int)))with|true=>(match decide (dZ y (ai ((Int.gcd (ae x) (ae y):Nat):Int)))with|true=>some [RV.d (.st (.pair y2Y y2Y)) ((ai (ae x/ae (ai ((Int.gcd (ae x) (ae y):Nat):Int)))),(ai (ae y/ae (ai ((Int.gcd (ae x) (ae y):Nat):Int)))))]|false=>none)|false=>none)|false=>some [RV.d (.st (.pair y2Y y2Y)) (x,y)])|false=>none)|false=>none))|false=>none
theorem aiD(x y:Bool×List Int):RS amB 221 [.d y2Y x,.d y2Y y] (adw x y):=rsX
theorem Tj{a b:Int}(hb:b≠0){k:Nat}(h:szI b≤k):szI ((Int.gcd a b:Nat):Int)≤k:=by
 refine aqM (cU ?_) h
 rw[arO]
 exact Nat.le_of_dvd (by omega) (Nat.gcd_dvd_right a.natAbs b.natAbs)
theorem V8(x y:BI)(h:fT x y):Con Tryz.prog 221 [.d y2Y x,.d y2Y y] [.d (.st (.pair y2Y y2Y)) (dP x y)]:=by
 refine aN IE (aiD _ _ ⟨0,?_⟩)
 obtain⟨hx,hy,hne⟩:=h
 have sx:=gg hx
 have sy:=gg hy
 have hgp:0<Int.gcd (ae x) (ae y):=Nat.pos_of_ne_zero fun e=>hne (Int.gcd_eq_zero_iff.1 e).2
 have hgs:=Tj (a:=ae x) hne sy
 unfold adw dP
 rw[aqs hy]
 dsimp only
 rcases asd hne with hn|hn
 ·rw[cK hn,aqs (show(-1:Int)<0 by decide),aqs hx]
  have o1:okI (ai (-ae x)):=bk (by rw[gv];exact sx)
  have o2:okI (ai (-ae y)):=bk (by rw[gv];exact sy)
  simp only[dec_enc,Int.gcd_neg,Int.neg_gcd]
  have og:okI (ai ((Int.gcd (ae x) (ae y):Nat):Int)):=bk hgs
  rw[aqs (show okI (ai (-ae x))∧okI (ai (-ae y)) from⟨o1,o2⟩),aqs (show okI (ai ((Int.gcd (ae x) (ae y):Nat):Int))∧okI (ai 1) from⟨og,mR⟩)]
  rw[←Rat.neg_divInt_neg,ks (by omega),Int.gcd_neg,Int.neg_gcd]
  dsimp only
  by_cases h1:Int.gcd (ae x) (ae y)=1
  ·rw[h1]
   simp[dg]
  ·have hc:(ce ((Int.gcd (ae x) (ae y):Nat):Int) 1 !=0)=true:=by
    rw[cA (by omega)];rfl
   rw[hc,aqs (show dZ (ai (-ae x)) (ai ((Int.gcd (ae x) (ae y):Nat):Int)) from⟨o1,og,by rw[dec_enc];omega⟩),aqs (show dZ (ai (-ae y)) (ai ((Int.gcd (ae x) (ae y):Nat):Int)) from⟨o2,og,by rw[dec_enc];omega⟩)]
 ·rw[cA hn,aqu (show ¬(1:Int)<0 by decide)]
  simp only[dec_enc]
  have og:okI (ai ((Int.gcd (ae x) (ae y):Nat):Int)):=bk hgs
  rw[aqs (show okI x∧okI y from⟨hx,hy⟩),aqs (show okI (ai ((Int.gcd (ae x) (ae y):Nat):Int))∧okI (ai 1) from⟨og,mR⟩),ks hn]
  dsimp only
  by_cases h1:Int.gcd (ae x) (ae y)=1
  ·rw[h1]
   simp only[Int.natCast_one,dg,Int.ediv_one,←fL hx,←fL hy]
   rfl
  ·have hc:(ce ((Int.gcd (ae x) (ae y):Nat):Int) 1 !=0)=true:=by
    rw[cA (by omega)];rfl
   rw[hc,aqs (show dZ x (ai ((Int.gcd (ae x) (ae y):Nat):Int)) from⟨hx,og,by rw[dec_enc];omega⟩),aqs (show dZ y (ai ((Int.gcd (ae x) (ae y):Nat):Int)) from⟨hy,og,by rw[dec_enc];omega⟩)]
def aS(a b:Rat):Int:=bif decide (a<b)then-1 else bif decide (b<a)then 1 else 0
theorem c7{a b:Rat}(h:a<b):aS a b= -1:=by unfold aS;rw[aqs h];rfl
theorem cS{a b:Rat}(h:b<a):aS a b=1:=by unfold aS;rw[aqu (by grind),aqs h];rfl
theorem dp(a:Rat):aS a a=0:=by unfold aS;rw[aqu (by grind)];rfl
theorem ti(a b:Rat):ce (a.num*(b.den:Int)) (b.num*(a.den:Int))=aS a b:=by
 unfold ce aS
 rw[show decide (a.num*(b.den:Int)<b.num*(a.den:Int))=decide (a<b) from aq6.2 (Rat.lt_iff a b).symm,show decide (b.num*(a.den:Int)<a.num*(b.den:Int))=decide (b<a) from aq6.2 (Rat.lt_iff b a).symm]
theorem rF(a:Rat):ce a.num 0=aS a 0:=by
 rw[←ti]
 simp
def Ar:aM:=spN false false [y2Y,y2Y] (fun x=>decide (fT x.1 x.2.1)) (fun x=>[RV.d (.st (.pair y2Y y2Y)) (dP x.1 x.2.1)])
theorem ub:SpK 221 Ar:=spX fun x h=>V8 x.1 x.2.1 (aqr h)
def aew:NT:=[((182,3),{keep:=[0,1,8],hl:=0}),((182,5),{keep:=[0,1,5,10],hl:=0})]
def am3:Ctx:=CX [] aew
def adx(x y:Int)(_k:KT):Option (List RV):=match x !=x with|true=>(match y !=y with|true=>some [RV.d atB 0]|false=>some [RV.d atB (-1)])|false=>(match y !=y with|true=>some [RV.d atB 1]|false=>(match decide (x<y)with|true=>some [RV.d atB (-1)]|false=>(match decide (x>y)with|true=>some [RV.d atB 1]|false=>some [RV.d atB 0])))
theorem anY(x y:Int):RS am3 182 [SI x,SI y] (adx x y):=rsX
theorem XC(x y:Int):Con Tryz.prog 182 [.d atB x,.d atB y] [.d atB (ce x y)]:=by
 refine aN (E:=[]) trivial (anY _ _ ⟨0,?_⟩)
 unfold adx
 rw[show(x !=x)=false by simp,show(y !=y)=false by simp]
 dsimp only
 rcases ash x y with h|h|h
 ·rw[cK h,aqs h]
 ·subst h;rw[dg,aqu (show ¬x<x by omega)]
 ·rw[cA h,aqu (show ¬x<y by omega),aqs (show x>y from h)]
def zC:aM:=spN true false [atB,atB] (fun _=>true) (fun x=>[RV.d atB (ce x.1 x.2.1)])
theorem uK:SpK 182 zC:=spX fun x _=>XC x.1 x.2.1
def Ec:Env:=[(160,lV),(168,qd),(183,nU),(222,lW),(254,rl),(184,rB),(225,vV),(221,Ar),(182,zC)]
theorem ym:EnvAll Tryz.prog Ec:=⟨iF,l7,kf,iR,lZ,me,oI,ub,uK,trivial⟩
def anb:Ctx:=CX Ec []
def aip(x:Bool×List Int)(_k:KT):Option (List RV):=some [RV.d (.st (.pair y2Y y2Y)) (x,(ai 1))]
theorem aiZ(x:Bool×List Int):RS anb 159 [.d y2Y x] (aip x):=rsX
theorem Xw(x:BI):Con Tryz.prog 159 [.d y2Y x] [.d (.st (.pair y2Y y2Y)) (x,ai 1)]:=
 aN ym (aiZ _ ⟨0,rfl⟩)
def EF:aM:=spN false false [y2Y] (fun _=>true) (fun x=>[RV.d (.st (.pair y2Y y2Y)) (x.1,ai 1)])
theorem CN:SpK 159 EF:=spX fun x _=>Xw x.1
def amL:Ctx:=CX Ec []
def ac7(a:(Bool×List Int)×Bool×List Int)(_k:KT):Option (List RV):=match decide (okI a.1)with|true=>some [RV.d atB (ce (ae a.1) 0)]|false=>none
theorem amM(a:(Bool×List Int)×Bool×List Int):RS amL 83 [.d (.st (.pair y2Y y2Y)) a] (ac7 a):=rsX
theorem GW(a:BR)(h:okR a):Con Tryz.prog 83 [.d (.st (.pair y2Y y2Y)) a] [.d atB (aS (ab a) 0)]:=by
 refine aN ym (amM _ ⟨0,?_⟩)
 unfold ac7
 rw[aqs h.1,←rF,(cC h).1]
def EX:aM:=spN true false [(.st (.pair y2Y y2Y))] (fun x=>decide (okR x.1)) (fun x=>[RV.d atB (aS (ab x.1) 0)])
theorem Cx:SpK 83 EX:=spX fun x h=>GW x.1 (aqr h)
def kQ:Env:=[(160,lV),(168,qd),(183,nU),(222,lW),(254,rl),(184,rB),(225,vV),(221,Ar),(182,zC),(159,EF),(83,EX)]
theorem ga:EnvAll Tryz.prog kQ:=⟨iF,l7,kf,iR,lZ,me,oI,ub,uK,CN,Cx,trivial⟩
def akm:Ctx:=CX kQ []
def adL(n:Int)(_k:KT):Option (List RV):=match decide (aX n)with|true=>some [RV.d (.st (.pair y2Y y2Y)) ((ai n),(ai 1))]|false=>none
theorem aiy(n:Int):RS akm 76 [SI n] (adL n):=rsX
def akb:Ctx:=CX kQ []
def aaN(a b:(Bool×List Int)×Bool×List Int)(_k:KT):Option (List RV):=match decide (okR a)with|true=>(match decide (okR b)with|true=>(match(ce (aS (ab a) 0) (aS (ab b) 0)) !=0 with|true=>some [RV.d atB (ce (aS (ab a) 0) (aS (ab b) 0))]|false=>(match decide (okI a.1∧okI b.2)with|true=>(match decide (okI b.1∧okI a.2)with|true=>(match decide (okI (ai (ae a.1*ae b.2))∧okI (ai (ae b.1*ae a.2)))with|true=>some [RV.d atB (ce (ae (ai (ae a.1*ae b.2))) (ae (ai (ae b.1*ae a.2))))]|false=>none)|false=>none)|false=>none))|false=>none)|false=>none
theorem ak0(a b:(Bool×List Int)×Bool×List Int):RS akb 99 [.d (.st (.pair y2Y y2Y)) a,.d (.st (.pair y2Y y2Y)) b] (aaN a b):=rsX
def alF:Ctx:=CX kQ []
def abW(a b:(Bool×List Int)×Bool×List Int)(_k:KT):Option (List RV):=match decide (okI a.2∧okI b.2)with|true=>(match(ce (ae a.2) (ae b.2))==0 with|true=>(match decide (okI a.1∧okI b.1)with|true=>(match decide (fT (ai (ae a.1+ae b.1)) a.2)with|true=>some [RV.d (.st (.pair y2Y y2Y)) (((dP (ai (ae a.1+ae b.1)) a.2).1),((dP (ai (ae a.1+ae b.1)) a.2).2))]|false=>none)|false=>none)|false=>(match decide (okI a.1∧okI b.2)with|true=>(match decide (okI b.1∧okI a.2)with|true=>(match decide (okI (ai (ae a.1*ae b.2))∧okI (ai (ae b.1*ae a.2)))with|true=>(match decide (okI a.2∧okI b.2)with|true=>(match decide (fT (ai (ae (ai (ae a.1*ae b.2))+ae (ai (ae b.1*ae a.2)))) (ai (ae a.2*ae b.2)))with|true=>some [RV.d (.st (.pair y2Y y2Y)) (((dP (ai (ae (ai (ae a.1*ae b.2))+ae (ai (ae b.1*ae a.2)))) (ai (ae a.2*ae b.2))).1),((dP (ai (ae (ai (ae a.1*ae b.2))+ae (ai (ae b.1*ae a.2)))) (ai (ae a.2*ae b.2))).2))]|false=>none)|false=>none)|false=>none)|false=>none)|false=>none))|false=>none
theorem akx(a b:(Bool×List Int)×Bool×List Int):RS alF 149 [.d (.st (.pair y2Y y2Y)) a,.d (.st (.pair y2Y y2Y)) b] (abW a b):=rsX
def ano:Ctx:=CX kQ []
def aa7(a:(Bool×List Int)×Bool×List Int)(_k:KT):Option (List RV):=match decide (okI a.1)with|true=>some [RV.d (.st (.pair y2Y y2Y)) ((ai (-ae a.1)),a.2)]|false=>none
theorem anZ(a:(Bool×List Int)×Bool×List Int):RS ano 202 [.d (.st (.pair y2Y y2Y)) a] (aa7 a):=rsX
def ajn:Ctx:=CX kQ []
def aby(a b:(Bool×List Int)×Bool×List Int)(_k:KT):Option (List RV):=match decide (okI a.1∧okI b.1)with|true=>(match decide (okI a.2∧okI b.2)with|true=>(match decide (fT (ai (ae a.1*ae b.1)) (ai (ae a.2*ae b.2)))with|true=>some [RV.d (.st (.pair y2Y y2Y)) (((dP (ai (ae a.1*ae b.1)) (ai (ae a.2*ae b.2))).1),((dP (ai (ae a.1*ae b.1)) (ai (ae a.2*ae b.2))).2))]|false=>none)|false=>none)|false=>none
theorem amz(a b:(Bool×List Int)×Bool×List Int):RS ajn 148 [.d (.st (.pair y2Y y2Y)) a,.d (.st (.pair y2Y y2Y)) b] (aby a b):=rsX
def ajQ:Ctx:=CX kQ []
def aaj(a b:(Bool×List Int)×Bool×List Int)(_k:KT):Option (List RV):=match decide (okR b)with|true=>(match(aS (ab b) 0)==0 with|true=>some [RV.d (.st (.pair y2Y y2Y)) ((false,[]),(false,[])),RV.d atB 6]|false=>(match decide (okI a.1∧okI b.2)with|true=>(match decide (okI a.2∧okI b.1)with|true=>(match decide (fT (ai (ae a.1*ae b.2)) (ai (ae a.2*ae b.1)))with|true=>some [RV.d (.st (.pair y2Y y2Y)) (((dP (ai (ae a.1*ae b.2)) (ai (ae a.2*ae b.1))).1),((dP (ai (ae a.1*ae b.2)) (ai (ae a.2*ae b.1))).2)),RV.d atB 0]|false=>none)|false=>none)|false=>none))|false=>none
theorem al6(a b:(Bool×List Int)×Bool×List Int):RS ajQ 170 [.d (.st (.pair y2Y y2Y)) a,.d (.st (.pair y2Y y2Y)) b] (aaj a b):=rsX
theorem Z3(n:Int)(h:aX n):Con Tryz.prog 76 [.d atB n] [.d (.st (.pair y2Y y2Y)) (ag (n:Rat))]:=by
 refine aN ga (aiy _ ⟨0,?_⟩)
 unfold adL ag
 rw[aqs h,Rat.num_intCast,Rat.den_intCast]
 rfl
theorem fd{a:BR}(h:okR a):szI (ae a.1)≤480000∧szI (ae a.2)≤480000:=by
 have h1:=AF h
 obtain⟨e1,e2⟩:=cC h
 unfold bdR at h1
 rw[e1,e2]at h1
 exact h1
theorem I4(a b:Rat):(ce (aS a 0) (aS b 0)≠0→ce (aS a 0) (aS b 0)=aS a b):=by
 rcases(by grind:a<0∨a=0∨0<a)with h1|h1|h1<;>rcases(by grind:b<0∨b=0∨0<b)with h2|h2|h2
 ·rw[c7 h1,c7 h2];intro h;exact absurd (dg _) h
 ·rw[c7 h1,h2,dp,c7 h1];intro;rfl
 ·rw[c7 h1,cS h2,c7 (by grind)];intro;rfl
 ·rw[h1,dp,c7 h2,cS h2];intro;rfl
 ·rw[h1,h2,dp];intro h;exact absurd (dg _) h
 ·rw[h1,dp,cS h2,c7 h2];intro;rfl
 ·rw[cS h1,c7 h2,cS (by grind)];intro;rfl
 ·rw[cS h1,h2,dp,cS h1];intro;rfl
 ·rw[cS h1,cS h2];intro h;exact absurd (dg _) h
theorem ZI(a b:BR)(h:okR a∧okR b):Con Tryz.prog 99 [.d (.st (.pair y2Y y2Y)) a,.d (.st (.pair y2Y y2Y)) b] [.d atB (aS (ab a) (ab b))]:=by
 refine aN ga (ak0 _ _ ⟨0,?_⟩)
 obtain⟨ha,hb⟩:=h
 obtain⟨a1,a2⟩:=cC ha
 obtain⟨b1,b2⟩:=cC hb
 obtain⟨sa1,sa2⟩:=fd ha
 obtain⟨sb1,sb2⟩:=fd hb
 have h1:=cB sa1 sb2
 have h2:=cB sb1 sa2
 unfold aaN
 rw[aqs ha,aqs hb]
 dsimp only
 have hs:=I4 (ab a) (ab b)
 by_cases hc:ce (aS (ab a) 0) (aS (ab b) 0)=0
 ·rw[hc,aqs (show okI a.1∧okI b.2 from⟨ha.1,hb.2.1⟩),aqs (show okI b.1∧okI a.2 from⟨hb.1,ha.2.1⟩),aqs (show okI (ai (ae a.1*ae b.2))∧okI (ai (ae b.1*ae a.2)) from⟨bk (by omega),bk (by omega)⟩),dec_enc,dec_enc,←a1,←a2,←b1,←b2,ti]
  rfl
 ·rw[show(ce (aS (ab a) 0) (aS (ab b) 0) !=0)=true by simpa using hc,hs hc]
theorem HO(a:BR)(h:okR a):Con Tryz.prog 202 [.d (.st (.pair y2Y y2Y)) a] [.d (.st (.pair y2Y y2Y)) (ag (-ab a))]:=by
 refine aN ga (anZ _ ⟨0,?_⟩)
 obtain⟨a1,a2⟩:=cC h
 unfold aa7
 have e:ag (-ab a)=(ai (-ae a.1),a.2):=by
  unfold ag
  rw[Rat.neg_num,a1,show((-ab a).den:Int)=((ab a).den:Int) from rfl,a2,←fL h.2.1]
 rw[aqs h.1,e]
theorem Id(a b:BR)(h:okR a∧okR b):Con Tryz.prog 149 [.d (.st (.pair y2Y y2Y)) a,.d (.st (.pair y2Y y2Y)) b] [.d (.st (.pair y2Y y2Y)) (ag (ab a+ab b))]:=by
 refine aN ga (akx _ _ ⟨0,?_⟩)
 obtain⟨ha,hb⟩:=h
 obtain⟨a1,a2⟩:=cC ha
 obtain⟨b1,b2⟩:=cC hb
 obtain⟨sa1,sa2⟩:=fd ha
 obtain⟨sb1,sb2⟩:=fd hb
 have pa:=ha.2.2.1
 have pb:=hb.2.2.1
 have h1:=cB sa1 sb2
 have h2:=cB sb1 sa2
 have h3:=cB sa2 sb2
 have h4:=sH h1 h2
 have h5:=sH sa1 sb1
 have hda:ab a=Rat.divInt (ae a.1) (ae a.2):=by rw[←a1,←a2,arz]
 have hdb:ab b=Rat.divInt (ae b.1) (ae b.2):=by rw[←b1,←b2,arz]
 unfold abW
 rw[aqs (show okI a.2∧okI b.2 from⟨ha.2.1,hb.2.1⟩)]
 dsimp only
 by_cases hc:ae a.2=ae b.2
 ·rw[hc,dg,aqs (show okI a.1∧okI b.1 from⟨ha.1,hb.1⟩)]
  rw[aqs (show fT (ai (ae a.1+ae b.1)) a.2 from⟨bk (by omega),ha.2.1,by omega⟩)]
  have e:dP (ai (ae a.1+ae b.1)) a.2=ag (ab a+ab b):=by
   unfold dP
   rw[dec_enc,hda,hdb,←hc,Rat.divInt_eq_div,Rat.divInt_eq_div,Rat.divInt_eq_div,Rat.intCast_add]
   congr 1
   grind
  rw[e]
  rfl
 ·have hcm:(ce (ae a.2) (ae b.2)==0)=false:=by
   rcases asd hc with h|h
   ·rw[cK h];rfl
   ·rw[cA h];rfl
  rw[hcm,aqs (show okI a.1∧okI b.2 from⟨ha.1,hb.2.1⟩),aqs (show okI b.1∧okI a.2 from⟨hb.1,ha.2.1⟩),aqs (show okI (ai (ae a.1*ae b.2))∧okI (ai (ae b.1*ae a.2)) from⟨bk (by omega),bk (by omega)⟩)]
  simp only[dec_enc]
  rw[aqs (show fT (ai (ae a.1*ae b.2+ae b.1*ae a.2)) (ai (ae a.2*ae b.2)) from⟨bk (by omega),bk (by omega),by rw[dec_enc];exact asU (by omega) (by omega)⟩)]
  have e:dP (ai (ae a.1*ae b.2+ae b.1*ae a.2)) (ai (ae a.2*ae b.2))=ag (ab a+ab b):=by
   unfold dP
   rw[dec_enc,dec_enc,hda,hdb,Rat.divInt_add_divInt _ _ (by omega) (by omega)]
  rw[e]
theorem ZC(a b:BR)(h:okR a∧okR b):Con Tryz.prog 148 [.d (.st (.pair y2Y y2Y)) a,.d (.st (.pair y2Y y2Y)) b] [.d (.st (.pair y2Y y2Y)) (ag (ab a*ab b))]:=by
 refine aN ga (amz _ _ ⟨0,?_⟩)
 obtain⟨ha,hb⟩:=h
 obtain⟨a1,a2⟩:=cC ha
 obtain⟨b1,b2⟩:=cC hb
 obtain⟨sa1,sa2⟩:=fd ha
 obtain⟨sb1,sb2⟩:=fd hb
 have pa:=ha.2.2.1
 have pb:=hb.2.2.1
 have h1:=cB sa1 sb1
 have h3:=cB sa2 sb2
 have hda:ab a=Rat.divInt (ae a.1) (ae a.2):=by rw[←a1,←a2,arz]
 have hdb:ab b=Rat.divInt (ae b.1) (ae b.2):=by rw[←b1,←b2,arz]
 unfold aby
 rw[aqs (show okI a.1∧okI b.1 from⟨ha.1,hb.1⟩),aqs (show okI a.2∧okI b.2 from⟨ha.2.1,hb.2.1⟩),aqs (show fT (ai (ae a.1*ae b.1)) (ai (ae a.2*ae b.2)) from⟨bk (by omega),bk (by omega),by rw[dec_enc];exact asU (by omega) (by omega)⟩)]
 have e:dP (ai (ae a.1*ae b.1)) (ai (ae a.2*ae b.2))=ag (ab a*ab b):=by
  unfold dP
  rw[dec_enc,dec_enc,hda,hdb,asV]
 rw[e]
def eL(a b:BR):Prop:=okR a∧okR b∧ae b.1≠0
instance (a b:BR):Decidable (eL a b):=by unfold eL;infer_instance
theorem YS(a b:BR)(h:eL a b):Con Tryz.prog 170 [.d (.st (.pair y2Y y2Y)) a,.d (.st (.pair y2Y y2Y)) b] [.d (.st (.pair y2Y y2Y)) (ag (ab a/ab b)),.d atB 0]:=by
 refine aN ga (al6 _ _ ⟨0,?_⟩)
 obtain⟨ha,hb,hne⟩:=h
 obtain⟨a1,a2⟩:=cC ha
 obtain⟨b1,b2⟩:=cC hb
 obtain⟨sa1,sa2⟩:=fd ha
 obtain⟨sb1,sb2⟩:=fd hb
 have pa:=ha.2.2.1
 have h1:=cB sa1 sb2
 have h3:=cB sa2 sb1
 have hda:ab a=Rat.divInt (ae a.1) (ae a.2):=by rw[←a1,←a2,arz]
 have hdb:ab b=Rat.divInt (ae b.1) (ae b.2):=by rw[←b1,←b2,arz]
 have hnz:(aS (ab b) 0==0)=false:=by
  rw[←rF,b1]
  rcases asd hne with h|h
  ·rw[cK h];rfl
  ·rw[cA h];rfl
 unfold aaj
 rw[aqs hb,hnz,aqs (show okI a.1∧okI b.2 from⟨ha.1,hb.2.1⟩),aqs (show okI a.2∧okI b.1 from⟨ha.2.1,hb.1⟩),aqs (show fT (ai (ae a.1*ae b.2)) (ai (ae a.2*ae b.1)) from⟨bk (by omega),bk (by omega),by rw[dec_enc];exact asU (by omega) hne⟩)]
 have e:dP (ai (ae a.1*ae b.2)) (ai (ae a.2*ae b.1))=ag (ab a/ab b):=by
  unfold dP
  rw[dec_enc,dec_enc,hda,hdb,atx,Rat.inv_divInt,asV]
 rw[e]
def Uf:aM:=spN false false [(.st (.pair y2Y y2Y)),(.st (.pair y2Y y2Y))] (fun x=>decide (okR x.1∧okR x.2.1)) (fun x=>[RV.d (.st (.pair y2Y y2Y)) (ag (ab x.1+ab x.2.1))])
theorem Md:SpK 149 Uf:=spX fun x h=>Id x.1 x.2.1 (aqr h)
def Ng:aM:=spN false false [(.st (.pair y2Y y2Y))] (fun x=>decide (okR x.1)) (fun x=>[RV.d (.st (.pair y2Y y2Y)) (ag (-ab x.1))])
theorem T6:SpK 202 Ng:=spX fun x h=>HO x.1 (aqr h)
def Hi:Env:=[(160,lV),(168,qd),(183,nU),(222,lW),(254,rl),(184,rB),(225,vV),(221,Ar),(182,zC),(159,EF),(83,EX),(149,Uf),(202,Ng)]
theorem Fl:EnvAll Tryz.prog Hi:=⟨iF,l7,kf,iR,lZ,me,oI,ub,uK,CN,Cx,Md,T6,trivial⟩
def aj9:Ctx:=CX Hi []
def aaH(a b:(Bool×List Int)×Bool×List Int)(_k:KT):Option (List RV):=match decide (okR b)with|true=>(match decide (okR a∧okR (ag (-ab b)))with|true=>some [RV.d (.st (.pair y2Y y2Y)) (((ag (ab a+ab (ag (-ab b)))).1),((ag (ab a+ab (ag (-ab b)))).2))]|false=>none)|false=>none
theorem amW(a b:(Bool×List Int)×Bool×List Int):RS aj9 147 [.d (.st (.pair y2Y y2Y)) a,.d (.st (.pair y2Y y2Y)) b] (aaH a b):=rsX
theorem Ws(a b:BR)(h:okR a∧okR b):Con Tryz.prog 147 [.d (.st (.pair y2Y y2Y)) a,.d (.st (.pair y2Y y2Y)) b] [.d (.st (.pair y2Y y2Y)) (ag (ab a-ab b))]:=by
 refine aN Fl (amW _ _ ⟨0,?_⟩)
 obtain⟨ha,hb⟩:=h
 unfold aaH
 rw[aqs hb,av,asN,aqs (show okR a∧okR (ag (-ab b)) from⟨ha,mJ (rZ (AF hb)) (aqE _)⟩)]
section
namespace RL
theorem ie{x y B e:Rat}(h1:x<B)(h2: -B<x)(h3:y<e)(h4: -e<y):x*y<B*e:=by
 have p:=arB (a:=B-x) (b:=e+y) (by grind) (by grind)
 have q:=arB (a:=B+x) (b:=e-y) (by grind) (by grind)
 grind
theorem aai{e:Rat}(h:0<e):0<e/2:=by grind
theorem wY{e B:Rat}(h:0<e)(hB:0<B):∃d,0<d∧B*d+B*d<e:=by
 refine⟨e/(4*B),?_,?_⟩
 ·exact arB h (Rat.inv_pos.2 (by grind))
 ·have:B*(e/(4*B))=e/4:=by grind
  grind
structure CS where
 f:Nat→Rat
 cau:∀e:Rat,0<e→∃N,∀m n,N≤m→N≤n→f m-f n<e
theorem CS.bd(a:CS):∃B:Rat,0<B∧∃N,∀n,N≤n→ -B<a.f n∧a.f n<B:=by
 obtain⟨N,h⟩:=a.cau 1 (by grind)
 refine⟨(if 0≤a.f N then a.f N else-a.f N)+1,?_,N,fun n hn=>?_⟩
 ·split<;>grind
 ·have h1:=h n N hn (aqE _)
  have h2:=h N n (aqE _) hn
  split<;>grind
def add(a b:CS):CS:=⟨fun n=>a.f n+b.f n,fun e he=>by
 obtain⟨N,h⟩:=a.cau (e/2) (by grind)
 obtain⟨M,h'⟩:=b.cau (e/2) (by grind)
 refine⟨max N M,fun m n hm hn=>?_⟩
 have:=h m n (by omega) (by omega)
 have:=h' m n (by omega) (by omega)
 grind⟩
def neg(a:CS):CS:=⟨fun n=> -a.f n,fun e he=>by
 obtain⟨N,h⟩:=a.cau e he
 exact⟨N,fun m n hm hn=>by have:=h n m hn hm;grind⟩⟩
theorem TP(a b:CS)(e:Rat)(he:0<e):∃N,∀m n,N≤m→N≤n→a.f m*b.f m-a.f n*b.f n<e:=by
 obtain⟨A,hA,N1,h1⟩:=a.bd
 obtain⟨B,hB,N2,h2⟩:=b.bd
 obtain⟨d,hd,hd'⟩:=wY (e:=e) (B:=A+B) he (by grind)
 obtain⟨N3,h3⟩:=a.cau d hd
 obtain⟨N4,h4⟩:=b.cau d hd
 refine⟨max (max N1 N2) (max N3 N4),fun m n hm hn=>?_⟩
 have a1:=h1 m (by omega)
 have b1:=h2 n (by omega)
 have p:=ie a1.2 a1.1 (h4 m n (by omega) (by omega)) (by have:=h4 n m (by omega) (by omega);grind)
 have q:=ie b1.2 b1.1 (h3 m n (by omega) (by omega)) (by have:=h3 n m (by omega) (by omega);grind)
 have r:=arB hA hd
 have s:=arB hB hd
 grind
def mul(a b:CS):CS:=⟨fun n=>a.f n*b.f n,TP a b⟩
def eqv(a b:CS):Prop:=∀e:Rat,0<e→∃N,∀n,N≤n→a.f n-b.f n<e∧b.f n-a.f n<e
instance st:Setoid CS where
 r:=eqv
 iseqv:=⟨fun a e he=>⟨0,fun n _=>by grind⟩,fun h e he=>by
   obtain⟨N,h⟩:=h e he
   exact⟨N,fun n hn=>⟨(h n hn).2,(h n hn).1⟩⟩,
  fun h h' e he=>by
   obtain⟨N,h⟩:=h (e/2) (by grind)
   obtain⟨M,h'⟩:=h' (e/2) (by grind)
   refine⟨max N M,fun n hn=>?_⟩
   have:=h n (by omega)
   have:=h' n (by omega)
   grind⟩
def const(q:Rat):CS:=⟨fun _=>q,fun e he=>⟨0,fun m n _ _=>by grind⟩⟩
end RL
def RE:Type:=Quotient RL.st
namespace RE
open RL
def of(q:Rat):RE:=Quotient.mk _ (const q)
theorem aij(a b a' b':CS)(h:a≈a')(h':b≈b'):add a b≈add a' b':=fun e he=>by
 obtain⟨N,h⟩:=h (e/2) (by grind)
 obtain⟨M,h'⟩:=h' (e/2) (by grind)
 refine⟨max N M,fun n hn=>?_⟩
 have:=h n (by omega)
 have:=h' n (by omega)
 simp only[RL.add]
 grind
theorem af9(a a':CS)(h:a≈a'):neg a≈neg a':=fun e he=>by
 obtain⟨N,h⟩:=h e he
 refine⟨N,fun n hn=>?_⟩
 have:=h n (by omega)
 simp only[RL.neg]
 grind
theorem aeP(a b a' b':CS)(h:a≈a')(h':b≈b'):mul a b≈mul a' b':=fun e he=>by
 obtain⟨A,hA,N1,h1⟩:=a.bd
 obtain⟨B,hB,N2,h2⟩:=b'.bd
 obtain⟨d,hd,hd'⟩:=wY (e:=e) (B:=A+B) he (by grind)
 obtain⟨N3,h3⟩:=h d hd
 obtain⟨N4,h4⟩:=h' d hd
 refine⟨max (max N1 N2) (max N3 N4),fun n hn=>?_⟩
 have a1:=h1 n (by omega)
 have b1:=h2 n (by omega)
 have a3:=h3 n (by omega)
 have b3:=h4 n (by omega)
 have p:=ie a1.2 a1.1 (y:=b.f n-b'.f n) b3.1 (by grind)
 have q:=ie b1.2 b1.1 (y:=a.f n-a'.f n) a3.1 (by grind)
 have p':=ie a1.2 a1.1 (y:=b'.f n-b.f n) b3.2 (by grind)
 have q':=ie b1.2 b1.1 (y:=a'.f n-a.f n) a3.2 (by grind)
 have r:=arB hA hd
 have s:=arB hB hd
 simp only[RL.mul]
 constructor<;>grind
instance:Add RE:=⟨Quotient.lift₂ (fun a b=>Quotient.mk _ (add a b)) (fun _ _ _ _ h h'=>as5 (aij _ _ _ _ h h'))⟩
instance:Neg RE:=⟨Quotient.lift (fun a=>Quotient.mk _ (neg a)) (fun _ _ h=>as5 (af9 _ _ h))⟩
instance:Sub RE:=⟨fun a b=>a+ -b⟩
instance:Mul RE:=⟨Quotient.lift₂ (fun a b=>Quotient.mk _ (mul a b)) (fun _ _ _ _ h h'=>as5 (aeP _ _ _ _ h h'))⟩
theorem snd{a b:CS}(h:∀n,a.f n=b.f n):(Quotient.mk st a:RE)=Quotient.mk st b:=
 as5 fun e he=>⟨0,fun n _=>by rw[h n];grind⟩
instance (n:Nat):OfNat RE n:=⟨of (OfNat.ofNat n)⟩
theorem of_add(a b:Rat):of (a+b)=of a+of b:=rfl
theorem cE(a b:Rat):of (a*b)=of a*of b:=rfl
theorem of_neg(a:Rat):of (-a)= -of a:=rfl
theorem of_sub(a b:Rat):of (a-b)=of a-of b:=by rw[asN];rfl
theorem Gn:of 0=0:=rfl
theorem add_zero(a:RE):a+0=a:=by
 induction a using aqq;exact snd fun n=>Rat.add_zero _
theorem add_comm(a b:RE):a+b=b+a:=by
 induction a,b using asW;exact snd fun n=>Rat.add_comm _ _
theorem add_assoc(a b c:RE):a+b+c=a+(b+c):=by
 induction a,b,c using asX;exact snd fun n=>Rat.add_assoc _ _ _
theorem mul_assoc(a b c:RE):a*b*c=a*(b*c):=by
 induction a,b,c using asX;exact snd fun n=>Rat.mul_assoc _ _ _
theorem mul_comm(a b:RE):a*b=b*a:=by
 induction a,b using asW;exact snd fun n=>Rat.mul_comm _ _
theorem mul_one(a:RE):a*1=a:=by
 induction a using aqq;exact snd fun n=>Rat.mul_one _
theorem mul_zero(a:RE):a*0=0:=by
 induction a using aqq;exact snd fun n=>Rat.mul_zero _
theorem Hv(a:RE): -a+a=0:=by
 induction a using aqq;exact snd fun n=>Rat.neg_add_cancel _
def clt(a b:CS):Prop:=∃e:Rat,0<e∧∃N,∀n,N≤n→a.f n+e<b.f n
theorem Mm(a b a' b':CS)(h:a≈a')(h':b≈b')(hl:clt a b):clt a' b':=by
 obtain⟨e,he,N,hl⟩:=hl
 obtain⟨N1,h⟩:=h (e/4) (by grind)
 obtain⟨N2,h'⟩:=h' (e/4) (by grind)
 refine⟨e/2,by grind,max N (max N1 N2),fun n hn=>?_⟩
 have:=hl n (by omega)
 have:=h n (by omega)
 have:=h' n (by omega)
 grind
instance:LT RE:=⟨Quotient.lift₂ clt (fun _ _ _ _ h h'=>propext ⟨Mm _ _ _ _ h h',Mm _ _ _ _ (Setoid.symm h) (Setoid.symm h')⟩)⟩
instance:LE RE:=⟨fun a b=>¬b<a⟩
theorem lt_irrefl(a:RE):¬a<a:=by
 induction a using aqq
 rintro ⟨e,he,N,h⟩
 have:=h N (aqE _)
 grind
theorem fQ{a b c:RE}:a<b→b<c→a<c:=by
 induction a,b,c using asX
 rintro ⟨e,he,N,h⟩ ⟨e',he',N',h'⟩
 refine⟨e,he,max N N',fun n hn=>?_⟩
 have:=h n (by omega)
 have:=h' n (by omega)
 grind
theorem rI(a b:RE):a<b∨a=b∨b<a:=by
 induction a,b using asW
 rename_i a b
 by_cases h1:clt a b
 ·exact .inl h1
 by_cases h2:clt b a
 ·exact .inr (.inr h2)
 refine .inr (.inl (as5 fun e he=>?_))
 obtain⟨N,ha⟩:=a.cau (e/4) (by grind)
 obtain⟨M,hb⟩:=b.cau (e/4) (by grind)
 have g1:∃n,max N M≤n∧b.f n≤a.f n+e/4:=by
  apply aqN
  intro hc
  exact h1 ⟨e/4,by grind,max N M,fun n hn=>by
   apply aqN
   intro h
   exact hc ⟨n,hn,by grind⟩⟩
 have g2:∃n,max N M≤n∧a.f n≤b.f n+e/4:=by
  apply aqN
  intro hc
  exact h2 ⟨e/4,by grind,max N M,fun n hn=>by
   apply aqN
   intro h
   exact hc ⟨n,hn,by grind⟩⟩
 obtain⟨p,hp,gp⟩:=g1
 obtain⟨q,hq,gq⟩:=g2
 refine⟨max N M,fun n hn=>?_⟩
 have a1:=ha n q (by omega) (by omega)
 have b1:=hb q n (by omega) (by omega)
 have a2:=ha p n (by omega) (by omega)
 have b2:=hb n p (by omega) (by omega)
 constructor<;>grind
theorem v7{a b:RE}(c:RE):a<b→a+c<b+c:=by
 induction a,b,c using asX
 rintro ⟨e,he,N,h⟩
 refine⟨e,he,N,fun n hn=>?_⟩
 have:=h n hn
 simp only[RL.add]
 grind
theorem mul_pos{a b:RE}:0<a→0<b→0<a*b:=by
 induction a,b using asW
 rintro ⟨e,he,N,h⟩ ⟨e',he',N',h'⟩
 refine⟨e*e',arB he he',max N N',fun n hn=>?_⟩
 have h1:=h n (by omega)
 have h2:=h' n (by omega)
 simp only[RL.const]at h1 h2 ⊢
 rename_i a b
 have p:=arB (a:=a.f n-e) (b:=b.f n-e') (by grind) (by grind)
 have q:=arB (a:=a.f n-e) (b:=e') (by grind) (by grind)
 have r:=arB (a:=e) (b:=b.f n-e') (by grind) (by grind)
 simp only[RL.mul]
 grind
theorem jM{a b:Rat}(h:a<b):of a<of b:=⟨(b-a)/2,by grind,0,fun n _=>by simp only[RL.const];grind⟩
end RE
end
section
namespace RE
open RL
theorem M1(a b:RE):a≤b↔¬b<a:=Iff.rfl
theorem le_of_lt{a b:RE}(h:a<b):a≤b:=fun h'=>lt_irrefl a (fQ h h')
theorem lt_or_ge(a b:RE):a<b∨b≤a:=by
 by_cases h:a<b
 ·exact .inl h
 ·exact .inr h
theorem le_antisymm{a b:RE}(h1:a≤b)(h2:b≤a):a=b:=by
 rcases rI a b with h|h|h
 ·exact absurd h h2
 ·exact h
 ·exact absurd h h1
theorem le_trans{a b c:RE}(h1:a≤b)(h2:b≤c):a≤c:=fun h=>by
 rcases rI a b with h'|h'|h'
 ·exact h2 (fQ h h')
 ·subst h';exact h2 h
 ·exact h1 h'
theorem zero_lt_one:(0:RE)<1:=jM (by decide+kernel:(0:Rat)<1)
theorem mF(a:RE):a+ -a=0:=by rw[add_comm,Hv]
theorem qc{a:RE}(h:a<0):0< -a:=by
 have:=v7 (-a) h
 rw[mF,add_comm,add_zero]at this
 exact this
theorem ahI{a:RE}(h:0<a): -a<0:=by
 have:=v7 (-a) h
 rw[mF,add_comm,add_zero]at this
 exact this
instance:Std.IsLinearOrder RE where
 le_refl a:=lt_irrefl a
 le_trans _ _ _:=le_trans
 le_antisymm _ _:=le_antisymm
 le_total a b:=by
  rcases lt_or_ge a b with h|h
  ·exact .inl (le_of_lt h)
  ·exact .inr h
instance:Std.LawfulOrderLT RE where
 lt_iff a b:=⟨fun h=>⟨le_of_lt h,fun h'=>h' h⟩,fun h=>by
  rcases lt_or_ge a b with h'|h'
  ·exact h'
  ·exact absurd h' h.2⟩
theorem gS{a b:RE}:¬a≤b↔b<a:=⟨fun h=>by
  rcases lt_or_ge b a with h'|h'
  ·exact h'
  ·exact absurd h' h,fun h h'=>h' h⟩
theorem a8{a b:RE}(h:a<b):0<b-a:=by
 have:=v7 (-a) h
 rw[mF]at this
 exact this
theorem aR{a b:RE}(h:a≤b):0≤b-a:=fun h'=>h (by
 have:=v7 a h'
 have e:b-a+a=b:=by
  show b+ -a+a=b
  rw[add_assoc,Hv,add_zero]
 rw[e,add_comm,add_zero]at this
 exact this)
theorem mb{a:RE}(h:0≤a):0<a∨a=0:=by
 rcases rI 0 a with h'|h'|h'
 ·exact .inl h'
 ·exact .inr h'.symm
 ·exact absurd h' h
theorem le_refl(a:RE):a≤a:=lt_irrefl a
theorem jx{a b:RE}(h:a=b):a≤b:=by rw[h];exact le_refl _
theorem lM{a b:RE}(h:a=b):b≤a:=by rw[h];exact le_refl _
theorem zero_mul(a:RE):0*a=0:=by rw[mul_comm,mul_zero]
theorem zero_add(a:RE):0+a=a:=by rw[add_comm,add_zero]
theorem one_mul(a:RE):1*a=a:=by rw[mul_comm,mul_one]
theorem cD{a b:RE}(h:0≤a)(h':0≤b):0≤a*b:=by
 rcases mb h with h1|h1
 ·rcases mb h' with h2|h2
  ·exact le_of_lt (mul_pos h1 h2)
  ·rw[h2,mul_zero];exact le_refl _
 ·rw[h1,zero_mul];exact le_refl _
theorem aU{a b:RE}(h:0<a)(h':0≤b):0<a+b:=by
 have:=v7 b h
 rw[zero_add]at this
 rcases mb h' with h2|h2
 ·exact fQ h2 this
 ·rw[h2,add_zero];exact h
theorem nS(a:RE):0≤a*a:=by
 rcases lt_or_ge a 0 with h|h
 ·have h1:=qc h
  have h2:=mul_pos h1 h1
  have e: -a* -a=a*a:=by
   induction a using aqq
   exact snd fun n=>by show-_* -_=_*_;grind
  rw[e]at h2
  exact le_of_lt h2
 ·exact cD h h
theorem Ic{c:Rat}(hc:(0:Rat)<c){a:RE}(h:0<a):0<of c*a:=mul_pos (jM hc) h
theorem jl{c:Rat}(hc:(0:Rat)<c){a:RE}(h:0≤a):0≤of c*a:=cD (le_of_lt (jM hc)) h
theorem far{s:RE}(h:0<s)(e:s=0):False:=by rw[e]at h;exact lt_irrefl _ h
theorem XI(x y:RE):((y*y-(x*x)))+((x-(0))*(x-(y)))+((y-(0))*(x-(y)))=0:=by
 induction x using aqq
 induction y using aqq
 exact snd fun n=>by
  simp only[RL.add,RL.mul,RL.neg,RL.const]
  grind
theorem sq_lt(x y:RE)(h1:0≤x)(h2:0≤y)(h3:x*x<y*y):x<y:=gS.1 fun hg=>far (aU (aU (a8 h3) (cD (aR h1) (aR hg))) (cD (aR h2) (aR hg))) (XI x y)
theorem W2(x y:RE):((x-(y))*(x-(y)))+((y*y-(x*x)))+of 2*((y-(0))*(x-(y)))=0:=by
 induction x using aqq
 induction y using aqq
 exact snd fun n=>by
  simp only[RL.add,RL.mul,RL.neg,RL.const]
  grind
theorem P6(x y:RE)(_h1:0≤x)(h2:0≤y)(h3:x*x≤y*y):x≤y:=fun hg=>far (aU (aU (mul_pos (a8 hg) (a8 hg)) (aR h3)) (jl (by decide+kernel:(0:Rat)<2) (cD (aR h2) (le_of_lt (a8 hg))))) (W2 x y)
theorem II(x y:RE):((x*x-(y*y)))+of 2*((x-(0))*(y-(x)))+((y-(x))*(y-(x)))=0:=by
 induction x using aqq
 induction y using aqq
 exact snd fun n=>by
  simp only[RL.add,RL.mul,RL.neg,RL.const]
  grind
theorem pL(x y:RE)(h1:0≤x)(h2:x≤y):x*x≤y*y:=fun hg=>far (aU (aU (a8 hg) (jl (by decide+kernel:(0:Rat)<2) (cD (aR h1) (aR h2)))) (cD (aR h2) (aR h2))) (II x y)
theorem ah5(x y:RE):((y-(x))*(y-(x)))+((x*x-(y*y)))+of 2*((x-(0))*(y-(x)))=0:=by
 induction x using aqq
 induction y using aqq
 exact snd fun n=>by
  simp only[RL.add,RL.mul,RL.neg,RL.const]
  grind
theorem P1(x y:RE):((x-(y))*(x-(y)))+((y*y-(x*x)))+of 2*((y-(0))*(x-(y)))=0:=by
 induction x using aqq
 induction y using aqq
 exact snd fun n=>by
  simp only[RL.add,RL.mul,RL.neg,RL.const]
  grind
theorem ae4(x y:RE)(_h1:0≤x)(h2:0≤y)(h3:x*x=y*y):x≤y:=fun hg=>far (aU (aU (mul_pos (a8 hg) (a8 hg)) (aR (jx h3))) (jl (by decide+kernel:(0:Rat)<2) (cD (aR h2) (le_of_lt (a8 hg))))) (P1 x y)
theorem Sf(x y:RE):((y-(x))*(y-(x)))+((x*x-(y*y)))+of 2*((x-(0))*(y-(x)))=0:=by
 induction x using aqq
 induction y using aqq
 exact snd fun n=>by
  simp only[RL.add,RL.mul,RL.neg,RL.const]
  grind
theorem ad0(x y:RE)(h1:0≤x)(_h2:0≤y)(h3:x*x=y*y):y≤x:=fun hg=>far (aU (aU (mul_pos (a8 hg) (a8 hg)) (aR (lM h3))) (jl (by decide+kernel:(0:Rat)<2) (cD (aR h1) (le_of_lt (a8 hg))))) (Sf x y)
theorem ako(x y:RE)(h1:0≤x)(h2:0≤y)(h3:x*x=y*y):x=y:=le_antisymm (ae4 x y h1 h2 h3) (ad0 x y h1 h2 h3)
end RE
end
section
namespace RE
open RL
theorem amr(q:Rat):∃k:Nat,q<(k:Rat):=by
 refine⟨(q.floor+1).toNat,?_⟩
 have h1:q<((q.floor+1:Int):Rat):=(Rat.floor_lt_iff).1 (by omega)
 have h2:((q.floor+1:Int):Rat)≤(((q.floor+1).toNat:Int):Rat):=asI.2 (by omega)
 have h3:(((q.floor+1).toNat:Int):Rat)=(((q.floor+1).toNat:Nat):Rat):=asD _
 rw[h3]at h2
 grind
theorem Xb(g d:Rat)(hg:0≤g)(hd:0<d):∃s:Rat,0≤s∧s*s≤g∧g<(s+d)*(s+d):=by
 apply aqN
 intro hn
 have step:∀k:Nat,((k:Rat)*d)*((k:Rat)*d)≤g:=by
  intro k
  induction k with
  |zero=>rw[show((0:Nat):Rat)=0 from rfl];grind
  |succ k ih=>
   apply aqN
   intro hc
   refine hn ⟨(k:Rat)*d,?_,ih,?_⟩
   ·have:(0:Rat)≤(k:Rat):=by
     have:=Rat.intCast_nonneg.2 (show(0:Int)≤(k:Int) by omega)
     rwa [asD]at this
    exact ari this (by grind)
   ·have e:(((k+1:Nat)):Rat)=(k:Rat)+1:=by rw[Rat.natCast_add];rfl
    rw[e]at hc
    grind
 obtain⟨k,hk⟩:=amr ((g+1)/d)
 have h1:g+1<(k:Rat)*d:=by
  have:=arB (show 0<(k:Rat)-(g+1)/d by grind) hd
  have e:((k:Rat)-(g+1)/d)*d=(k:Rat)*d-(g+1):=by grind
  grind
 have h2:=step k
 have h3:=arB (show 0<(k:Rat)*d-(g+1) by grind) (show 0<(k:Rat)*d by grind)
 have h4:=arB (show 0<(k:Rat)*d-(g+1) by grind) (show 0<g+1 by grind)
 have h5:=ari hg hg
 clear hn step hk
 generalize (k:Rat)*d=t at h1 h2 h3 h4
 grind
def eps(n:Nat):Rat:=1/((n:Rat)+1)
theorem n8(n:Nat):(0:Rat)≤(n:Rat):=by
 have:=Rat.intCast_nonneg.2 (show(0:Int)≤(n:Int) by omega)
 rwa [asD]at this
theorem oW(n:Nat):0<eps n:=by
 have:=n8 n
 exact arB (by grind) (Rat.inv_pos.2 (by grind))
theorem xX(e:Rat)(he:0<e):∃N,∀n,N≤n→eps n<e:=by
 obtain⟨N,hN⟩:=amr (1/e)
 refine⟨N,fun n hn=>?_⟩
 have h0:=n8 n
 have h1:(N:Rat)≤(n:Rat):=by
  have:=asI.2 (show(N:Int)≤(n:Int) by omega)
  rwa [asD,asD]at this
 have h2:1/e<(n:Rat)+1:=by grind
 have h3:=arB (show 0<(n:Rat)+1-1/e by grind) (arB he (oW n))
 unfold eps at h3 ⊢
 have e1:((n:Rat)+1-1/e)*(e*(1/((n:Rat)+1)))=e-1/((n:Rat)+1):=by
  have:(n:Rat)+1≠0:=by grind
  have:e≠0:=by grind
  grind
 grind
theorem DM(n:Nat):eps n≤1:=by
 have h0:=n8 n
 have:=oW n
 unfold eps at*
 have h3:=ari h0 (show(0:Rat)≤1/((n:Rat)+1) by grind)
 have e1:(n:Rat)*(1/((n:Rat)+1))=1-1/((n:Rat)+1):=by
  have:(n:Rat)+1≠0:=by grind
  grind
 grind
theorem QR{a b:Rat}(ha:0≤a)(hb:0≤b)(h:a*a<b*b):a<b:=by
 apply aqN
 intro hc
 have:=ari (show 0≤a-b by grind) (show 0≤a+b by grind)
 grind
theorem yD(x:RE)(hx:0≤x):∃y:RE,0≤y∧y*y=x:=by
 induction x using aqq
 rename_i f
 have hc:∀n,∃s:Rat,0≤s∧s*s≤(if 0≤f.f n then f.f n else 0)∧(if 0≤f.f n then f.f n else 0)<(s+eps n)*(s+eps n):=fun n=>
  Xb _ _ (by split<;>grind) (oW n)
 let g:Nat→Rat:=fun n=>if 0≤f.f n then f.f n else 0
 let s:Nat→Rat:=fun n=>Classical.choose (hc n)
 have hs:∀n,0≤s n∧s n*s n≤g n∧g n<(s n+eps n)*(s n+eps n):=fun n=>arF (hc n)
 have hg:∀m n,g m-g n≤(if 0≤f.f m-f.f n then f.f m-f.f n else 0):=fun m n=>by
  show(if 0≤f.f m then f.f m else 0)-(if 0≤f.f n then f.f n else 0)≤_
  split<;>split<;>split<;>grind
 obtain⟨B,hB,NB,hBn⟩:=f.bd
 have hgB:∀n,NB≤n→g n<B:=fun n hn=>by
  show(if 0≤f.f n then f.f n else 0)<B
  have:=hBn n hn
  split<;>grind
 have hsB:∀n,NB≤n→s n<B+1:=fun n hn=>by
  have h1:=hs n
  have h2:=hgB n hn
  refine QR h1.1 (by grind) ?_
  have:=ari (show 0≤B by grind) (show 0≤B by grind)
  grind
 have hcau:∀e:Rat,0<e→∃N,∀m n,N≤m→N≤n→s m-s n<e:=by
  intro e he
  obtain⟨N1,h1⟩:=f.cau (e*e/4) (by have:=arB he he;grind)
  obtain⟨N2,h2⟩:=xX (e/2) (by grind)
  refine⟨max N1 N2,fun m n hm hn=>?_⟩
  apply aqN
  intro hne
  have a1:=hs m
  have a2:=hs n
  have a3:=h1 m n (by omega) (by omega)
  have a4:=h2 n (by omega)
  have a5:=hg m n
  have a6:=oW n
  have p1:=ari (show 0≤s m-(s n+e) by grind) (show 0≤s m+(s n+e) by grind)
  have p2:=ari (show 0≤e/2-eps n by grind) (show 0≤(s n+e/2)+(s n+eps n) by grind)
  have p3:=ari (show 0≤e by grind) a2.1
  have p4:=arB he he
  split at a5<;>grind
 refine⟨Quotient.mk _ ⟨s,hcau⟩,?_,as5 fun e he=>?_⟩
 ·rintro ⟨e,he,N,h⟩
  have h1:=h N (aqE _)
  have h2:=(hs N).1
  simp only[RL.const]at h1
  grind
 ·-- s n*s n is near to f n
  have hneg:∃N,∀n,N≤n→ -(e/4)<f.f n:=by
   apply aqN
   intro hne
   obtain⟨M,hM⟩:=f.cau (e/8) (by grind)
   refine hx ⟨e/16,by grind,M,fun n hn=>?_⟩
   apply aqN
   intro hge
   refine hne ⟨M,fun k hk=>?_⟩
   have:=hM n k hn hk
   simp only[RL.const]at hge
   grind
  obtain⟨N1,h1⟩:=hneg
  obtain⟨N2,h2⟩:=xX (e/(4*(B+2))) (arB he (Rat.inv_pos.2 (by grind)))
  refine⟨max (max N1 N2) NB,fun n hn=>?_⟩
  have a1:=hs n
  have a2:=h1 n (by omega)
  have a3:=h2 n (by omega)
  have a4:=hsB n (by omega)
  have a5:=oW n
  have a6:=DM n
  have hgf:f.f n≤g n∧g n<f.f n+e/4:=by
   show f.f n≤(if 0≤f.f n then f.f n else 0)∧(if 0≤f.f n then f.f n else 0)<_
   split<;>constructor<;>grind
  have p1:=ari (show 0≤eps n by grind) (show 0≤2*(B+2)-(2*s n+eps n) by grind)
  have p2:eps n*(2*(B+2))<e/2:=by
   have:=arB (show 0<e/(4*(B+2))-eps n by grind) (show 0<2*(B+2) by grind)
   have e1:(e/(4*(B+2))-eps n)*(2*(B+2))=e/2-eps n*(2*(B+2)):=by
    have:B+2≠0:=by grind
    grind
   grind
  simp only[RL.mul]
  constructor<;>grind
open Classical in
def uR(x:RE):RE:=if h:0≤x then Classical.choose (yD x h)else 0
theorem lL(x:RE):0≤uR x:=by
 unfold uR
 split
 ·rename_i h;exact(arF (yD x h)).1
 ·exact lt_irrefl 0
theorem zV{x:RE}(h:0≤x):uR x*uR x=x:=by
 unfold uR
 rw[dif_pos h]
 exact(arF (yD x h)).2
theorem lT{a b:Rat}:of a≤of b↔a≤b:=by
 constructor
 ·intro h
  apply aqN
  intro hc
  exact h (jM (by grind))
 ·intro h h'
  rcases(by grind:a<b∨a=b)with h1|h1
  ·exact lt_irrefl _ (fQ h' (jM h1))
  ·rw[h1]at h';exact lt_irrefl _ h'
theorem Eo{a b:Rat}(h:of a=of b):a=b:=by
 have h1:=lT.1 (show of a≤of b by rw[h];exact lt_irrefl _)
 have h2:=lT.1 (show of b≤of a by rw[h];exact lt_irrefl _)
 grind
end RE
end
section
namespace RE
open RL
open Classical in
def sg(x:RE):Int:=if 0<x then 1 else if x<0 then-1 else 0
theorem gN{x:RE}(h:0<x):sg x=1:=aqW h
theorem jO{x:RE}(h:x<0):sg x= -1:=by unfold sg;rw[aqQ (fun h'=>lt_irrefl _ (fQ h h')),aqW h]
theorem eu:sg 0=0:=by unfold sg;rw[aqQ (lt_irrefl _),aqQ (lt_irrefl _)]
theorem c9(x:RE):(0<x∧sg x=1)∨(x=0∧sg x=0)∨(x<0∧sg x= -1):=by
 rcases rI 0 x with h|h|h
 ·exact .inl ⟨h,gN h⟩
 ·exact .inr (.inl ⟨h.symm,by rw[←h,eu]⟩)
 ·exact .inr (.inr ⟨h,jO h⟩)
theorem Ei{x:RE}:sg x=0↔x=0:=by
 rcases c9 x with⟨h,e⟩|⟨h,e⟩|⟨h,e⟩<;>rw[e]
 ·exact⟨fun h'=>by omega,fun h'=>by rw[h']at h;exact absurd h (lt_irrefl _)⟩
 ·exact⟨fun _=>h,fun _=>rfl⟩
 ·exact⟨fun h'=>by omega,fun h'=>by rw[h']at h;exact absurd h (lt_irrefl _)⟩
theorem aqf{x:RE}:0≤sg x↔0≤x:=by
 rcases c9 x with⟨h,e⟩|⟨h,e⟩|⟨h,e⟩<;>rw[e]
 ·exact⟨fun _=>le_of_lt h,fun _=>by omega⟩
 ·exact⟨fun _=>by rw[h];exact le_refl _,fun _=>by omega⟩
 ·exact⟨fun h'=>by omega,fun h'=>absurd h h'⟩
theorem amQ{x:RE}:sg x≤0↔x≤0:=by
 rcases c9 x with⟨h,e⟩|⟨h,e⟩|⟨h,e⟩<;>rw[e]
 ·exact⟨fun h'=>by omega,fun h'=>absurd h h'⟩
 ·exact⟨fun _=>by rw[h];exact le_refl _,fun _=>by omega⟩
 ·exact⟨fun _=>le_of_lt h,fun _=>by omega⟩
theorem neg_mul(a b:RE): -a*b= -(a*b):=by
 induction a using aqq
 induction b using aqq
 exact snd fun n=>by
  simp only[RL.mul,RL.neg]
  grind
theorem mul_neg(a b:RE):a* -b= -(a*b):=by
 induction a using aqq
 induction b using aqq
 exact snd fun n=>by
  simp only[RL.mul,RL.neg]
  grind
theorem neg_neg(a:RE): - -a=a:=by
 induction a using aqq
 exact snd fun n=>by
  simp only[RL.neg]
  grind
theorem sub_self(a:RE):a-a=0:=by
 induction a using aqq
 exact snd fun n=>by
  simp only[RL.add,RL.neg,RL.const]
  grind
theorem agf(x y:RE):(x+y)*(x-y)=x*x-y*y:=by
 induction x using aqq
 induction y using aqq
 exact snd fun n=>by
  simp only[RL.add,RL.mul,RL.neg]
  grind
theorem Vh(x y:RE):((x-(0))*(0-(y)))+((x*y-(0)))=0:=by
 induction x using aqq
 induction y using aqq
 exact snd fun n=>by
  simp only[RL.add,RL.mul,RL.neg,RL.const]
  grind
theorem Rq(x y:RE)(h1:0<x)(h2:y<0):x*y<0:=gS.1 fun hg=>far (aU (mul_pos (a8 h1) (a8 h2)) (aR hg)) (Vh x y)
theorem K9(x y:RE):((0-(x)))+((0-(y)))+((x+y-(0)))=0:=by
 induction x using aqq
 induction y using aqq
 exact snd fun n=>by
  simp only[RL.add,RL.neg,RL.const]
  grind
theorem ahk(x y:RE)(h1:x<0)(h2:y<0):x+y<0:=gS.1 fun hg=>far (aU (aU (a8 h1) (le_of_lt (a8 h2))) (aR hg)) (K9 x y)
theorem Tc(x y:RE):((x-(0)))+((0-(y)))+((0-(x-y)))=0:=by
 induction x using aqq
 induction y using aqq
 exact snd fun n=>by
  simp only[RL.add,RL.neg,RL.const]
  grind
theorem ahf(x y:RE)(h1:0<x)(h2:y<0):0<x-y:=gS.1 fun hg=>far (aU (aU (a8 h1) (le_of_lt (a8 h2))) (aR hg)) (Tc x y)
theorem TC(x y:RE):((0-(x)))+((y-(0)))+((x-y-(0)))=0:=by
 induction x using aqq
 induction y using aqq
 exact snd fun n=>by
  simp only[RL.add,RL.neg,RL.const]
  grind
theorem afR(x y:RE)(h1:x<0)(h2:0<y):x-y<0:=gS.1 fun hg=>far (aU (aU (a8 h1) (le_of_lt (a8 h2))) (aR hg)) (TC x y)
theorem U2(x y:RE):((x-(0)))+((y-(0)))+((0-(x+y)))=0:=by
 induction x using aqq
 induction y using aqq
 exact snd fun n=>by
  simp only[RL.add,RL.neg,RL.const]
  grind
theorem ag7(x y:RE)(h1:0<x)(h2:0<y):0<x+y:=gS.1 fun hg=>far (aU (aU (a8 h1) (le_of_lt (a8 h2))) (aR hg)) (U2 x y)
theorem NJ: -(0:RE)=0:=by rw[←zero_add (-0),mF]
theorem SJ(x:RE):sg (-x)= -sg x:=by
 rcases c9 x with⟨h,e⟩|⟨h,e⟩|⟨h,e⟩<;>rw[e]
 ·exact jO (ahI h)
 ·rw[h,NJ,eu];rfl
 ·exact gN (qc h)
theorem qk(x y:RE):sg (x*y)=sg x*sg y:=by
 rcases c9 x with⟨h,e⟩|⟨h,e⟩|⟨h,e⟩<;>rw[e]
 ·rcases c9 y with⟨h',e'⟩|⟨h',e'⟩|⟨h',e'⟩<;>rw[e']
  ·exact gN (mul_pos h h')
  ·rw[h',mul_zero,eu];rfl
  ·exact jO (Rq _ _ h h')
 ·rw[h,zero_mul,eu];omega
 ·rcases c9 y with⟨h',e'⟩|⟨h',e'⟩|⟨h',e'⟩<;>rw[e']
  ·rw[mul_comm];exact jO (Rq _ _ h' h)
  ·rw[h',mul_zero,eu];rfl
  ·have:=mul_pos (qc h) (qc h')
   rw[neg_mul,mul_neg,neg_neg]at this
   exact gN this
theorem sg_of(q:Rat):sg (of q)=aS q 0:=by
 rcases(by grind:q<0∨q=0∨0<q)with h|h|h
 ·rw[c7 h];exact jO (jM h)
 ·rw[h,dp];exact eu
 ·rw[cS h];exact gN (jM h)
def addS(s t d:Int):Int:=bif t==0||s==t then s else bif s==0 then t else s*d
theorem QL(x y:RE):sg (x+y)=addS (sg x) (sg y) (sg (x*x-y*y)):=by
 rw[←agf,qk]
 rcases c9 x with⟨h,e⟩|⟨h,e⟩|⟨h,e⟩<;>rw[e]
 ·rcases c9 y with⟨h',e'⟩|⟨h',e'⟩|⟨h',e'⟩<;>rw[e']
  ·exact gN (ag7 _ _ h h')
  ·rw[h',add_zero,e];rfl
  ·rw[gN (ahf _ _ h h')]
   show _=1*(_*1)
   omega
 ·rcases c9 y with⟨h',e'⟩|⟨h',e'⟩|⟨h',e'⟩<;>rw[e',h,zero_add,e']<;>rfl
 ·rcases c9 y with⟨h',e'⟩|⟨h',e'⟩|⟨h',e'⟩<;>rw[e']
  ·rw[jO (afR _ _ h h')]
   show _= -1*(_* -1)
   omega
  ·rw[h',add_zero,e];rfl
  ·exact jO (ahk _ _ h h')
end RE
end
end Go.Proofs.YtlahabkjhgkkjaaGreat
end
