/- Pieces of a curve: the reference's Split. -/
import Derived.Test.YtlahabkjhgkkjaaGreatZ17
import Derived.Test.YtlahabkjhgkkjaaGreatZ14
import Derived.Test.YtlahabkjhgkkjaaGreatZ6
import Derived.Stop.Joined
namespace Go.Proofs.YtlahabkjhgkkjaaGreat
open Go.RowKit
def ya(c:BCU)(x y:BP):BCU:=(c.1,c.2.1,c.2.2.1,c.2.2.2.1,x,y)
def Xc(c:BCU):List BP→List BCU
 |[]=>[]
 |x::r=>match r with
  |[]=>[]
  |y::_=>ya c x y::Xc c r
def FE(c:BCU)(l:List BP):List BP:=uH (dC c) ([c.2.2.2.2.1,c.2.2.2.2.2]++l)
def Na(c:BCU)(l:List BP):List BCU:=Xc c (FE c l)
def Bs(c:BCU)(l:List BP):Prop:=okC 3500 c∧l.length≤900000∧∀x∈l,okP 3500 x∧onR (dC c) (dec x)=true
instance (c:BCU) (l:List BP):Decidable (Bs c l):=by unfold Bs;infer_instance
theorem Wm{c:BCU}{l:List BP}(h:Bs c l):Nb c ([c.2.2.2.2.1,c.2.2.2.2.2]++l):=by
 obtain⟨h1,h2,h3⟩:=h
 have h4:=ol (k:=4000) h1 (by decide) (by decide)
 refine⟨h4,by simp;omega,fun x hx=>?_⟩
 rcases List.mem_append.1 hx with hx|hx
 ·simp only[List.mem_cons,List.not_mem_nil,or_false]at hx
  rcases hx with rfl|rfl
  ·exact h4.2.2.1
  ·exact h4.2.2.2
 ·exact t7 (h3 x hx).1 (by decide) (by decide)
theorem Zg(c:BCU)(l:List BP):(FE c l).length≤l.length+2:=by
 have:=JT (dC c) ([c.2.2.2.2.1,c.2.2.2.2.2]++l) []
 unfold FE uH
 simp at this ⊢
 omega
noncomputable def DY:Env:=[(81,ui),(19,yM),(122,rB),(17,yT),(96,oo),(95,FS)]
theorem Rv:EnvAll Tryz.prog DY:=⟨tj,CW,wJ,C8,qk,Oo,trivial⟩
def yd:NT:=[((28,6),{keep:=[1,2,6],hl:=1}),((28,31),{keep:=[2,7,8,9],own:=[(8,43,tCU)],hl:=3})]
noncomputable def nO:Ctx:=⟨Tryz.prog,ft,tys,DY,yd⟩
def oW(c:BCU)(l:List BP)(s6:Int):Cfg:=⟨28,[.blk 0,.seq 23],[(1,.d (.sl tP) l),(2,.box 0 0),(6,SI s6)],[.box 43 [SB c.1,SB c.2.1.1.1.1,.d (.sl (.int .u32)) c.2.1.1.1.2,SB c.2.1.1.2.1,.d (.sl (.int .u32)) c.2.1.1.2.2,SB c.2.1.2.1.1.1,.d (.sl (.int .u32)) c.2.1.2.1.1.2,SB c.2.1.2.1.2.1,.d (.sl (.int .u32)) c.2.1.2.1.2.2,SB c.2.1.2.2.1.1,.d (.sl (.int .u32)) c.2.1.2.2.1.2,SB c.2.1.2.2.2.1,.d (.sl (.int .u32)) c.2.1.2.2.2.2,SB c.2.2.1.1.1.1,.d (.sl (.int .u32)) c.2.2.1.1.1.2,SB c.2.2.1.1.2.1,.d (.sl (.int .u32)) c.2.2.1.1.2.2,SB c.2.2.1.2.1.1.1,.d (.sl (.int .u32)) c.2.2.1.2.1.1.2,SB c.2.2.1.2.1.2.1,.d (.sl (.int .u32)) c.2.2.1.2.1.2.2,SB c.2.2.1.2.2.1.1,.d (.sl (.int .u32)) c.2.2.1.2.2.1.2,SB c.2.2.1.2.2.2.1,.d (.sl (.int .u32)) c.2.2.1.2.2.2.2,SB c.2.2.2.1,SB c.2.2.2.2.1.1.1.1,.d (.sl (.int .u32)) c.2.2.2.2.1.1.1.2,SB c.2.2.2.2.1.1.2.1,.d (.sl (.int .u32)) c.2.2.2.2.1.1.2.2,SB c.2.2.2.2.1.2.1.1.1,.d (.sl (.int .u32)) c.2.2.2.2.1.2.1.1.2,SB c.2.2.2.2.1.2.1.2.1,.d (.sl (.int .u32)) c.2.2.2.2.1.2.1.2.2,SB c.2.2.2.2.1.2.2.1.1.1,.d (.sl (.int .u32)) c.2.2.2.2.1.2.2.1.1.2,SB c.2.2.2.2.1.2.2.1.2.1,.d (.sl (.int .u32)) c.2.2.2.2.1.2.2.1.2.2,SB c.2.2.2.2.1.2.2.2.1.1.1,.d (.sl (.int .u32)) c.2.2.2.2.1.2.2.2.1.1.2,SB c.2.2.2.2.1.2.2.2.1.2.1,.d (.sl (.int .u32)) c.2.2.2.2.1.2.2.2.1.2.2,SB c.2.2.2.2.1.2.2.2.2.1.1,.d (.sl (.int .u32)) c.2.2.2.2.1.2.2.2.2.1.2,SB c.2.2.2.2.1.2.2.2.2.2.1,.d (.sl (.int .u32)) c.2.2.2.2.1.2.2.2.2.2.2,SB c.2.2.2.2.2.1.1.1,.d (.sl (.int .u32)) c.2.2.2.2.2.1.1.2,SB c.2.2.2.2.2.1.2.1,.d (.sl (.int .u32)) c.2.2.2.2.2.1.2.2,SB c.2.2.2.2.2.2.1.1.1,.d (.sl (.int .u32)) c.2.2.2.2.2.2.1.1.2,SB c.2.2.2.2.2.2.1.2.1,.d (.sl (.int .u32)) c.2.2.2.2.2.2.1.2.2,SB c.2.2.2.2.2.2.2.1.1.1,.d (.sl (.int .u32)) c.2.2.2.2.2.2.2.1.1.2,SB c.2.2.2.2.2.2.2.1.2.1,.d (.sl (.int .u32)) c.2.2.2.2.2.2.2.1.2.2,SB c.2.2.2.2.2.2.2.2.1.1.1,.d (.sl (.int .u32)) c.2.2.2.2.2.2.2.2.1.1.2,SB c.2.2.2.2.2.2.2.2.1.2.1,.d (.sl (.int .u32)) c.2.2.2.2.2.2.2.2.1.2.2,SB c.2.2.2.2.2.2.2.2.2.1.1,.d (.sl (.int .u32)) c.2.2.2.2.2.2.2.2.2.1.2,SB c.2.2.2.2.2.2.2.2.2.2.1,.d (.sl (.int .u32)) c.2.2.2.2.2.2.2.2.2.2.2]],0,[]⟩
def mz(c:BCU)(l:List BP)(s9:Int)(r2:List BCU):Cfg:=⟨28,[.blk 2,.seq 46],[(2,.box 0 0),(7,.d (.sl tP) (uH (dC c) (([c.2.2.2.2.1,c.2.2.2.2.2])++l))),(8,.own 2),(9,SI s9)],[.box 43 [SB c.1,SB c.2.1.1.1.1,.d (.sl (.int .u32)) c.2.1.1.1.2,SB c.2.1.1.2.1,.d (.sl (.int .u32)) c.2.1.1.2.2,SB c.2.1.2.1.1.1,.d (.sl (.int .u32)) c.2.1.2.1.1.2,SB c.2.1.2.1.2.1,.d (.sl (.int .u32)) c.2.1.2.1.2.2,SB c.2.1.2.2.1.1,.d (.sl (.int .u32)) c.2.1.2.2.1.2,SB c.2.1.2.2.2.1,.d (.sl (.int .u32)) c.2.1.2.2.2.2,SB c.2.2.1.1.1.1,.d (.sl (.int .u32)) c.2.2.1.1.1.2,SB c.2.2.1.1.2.1,.d (.sl (.int .u32)) c.2.2.1.1.2.2,SB c.2.2.1.2.1.1.1,.d (.sl (.int .u32)) c.2.2.1.2.1.1.2,SB c.2.2.1.2.1.2.1,.d (.sl (.int .u32)) c.2.2.1.2.1.2.2,SB c.2.2.1.2.2.1.1,.d (.sl (.int .u32)) c.2.2.1.2.2.1.2,SB c.2.2.1.2.2.2.1,.d (.sl (.int .u32)) c.2.2.1.2.2.2.2,SB c.2.2.2.1,SB c.2.2.2.2.1.1.1.1,.d (.sl (.int .u32)) c.2.2.2.2.1.1.1.2,SB c.2.2.2.2.1.1.2.1,.d (.sl (.int .u32)) c.2.2.2.2.1.1.2.2,SB c.2.2.2.2.1.2.1.1.1,.d (.sl (.int .u32)) c.2.2.2.2.1.2.1.1.2,SB c.2.2.2.2.1.2.1.2.1,.d (.sl (.int .u32)) c.2.2.2.2.1.2.1.2.2,SB c.2.2.2.2.1.2.2.1.1.1,.d (.sl (.int .u32)) c.2.2.2.2.1.2.2.1.1.2,SB c.2.2.2.2.1.2.2.1.2.1,.d (.sl (.int .u32)) c.2.2.2.2.1.2.2.1.2.2,SB c.2.2.2.2.1.2.2.2.1.1.1,.d (.sl (.int .u32)) c.2.2.2.2.1.2.2.2.1.1.2,SB c.2.2.2.2.1.2.2.2.1.2.1,.d (.sl (.int .u32)) c.2.2.2.2.1.2.2.2.1.2.2,SB c.2.2.2.2.1.2.2.2.2.1.1,.d (.sl (.int .u32)) c.2.2.2.2.1.2.2.2.2.1.2,SB c.2.2.2.2.1.2.2.2.2.2.1,.d (.sl (.int .u32)) c.2.2.2.2.1.2.2.2.2.2.2,SB c.2.2.2.2.2.1.1.1,.d (.sl (.int .u32)) c.2.2.2.2.2.1.1.2,SB c.2.2.2.2.2.1.2.1,.d (.sl (.int .u32)) c.2.2.2.2.2.1.2.2,SB c.2.2.2.2.2.2.1.1.1,.d (.sl (.int .u32)) c.2.2.2.2.2.2.1.1.2,SB c.2.2.2.2.2.2.1.2.1,.d (.sl (.int .u32)) c.2.2.2.2.2.2.1.2.2,SB c.2.2.2.2.2.2.2.1.1.1,.d (.sl (.int .u32)) c.2.2.2.2.2.2.2.1.1.2,SB c.2.2.2.2.2.2.2.1.2.1,.d (.sl (.int .u32)) c.2.2.2.2.2.2.2.1.2.2,SB c.2.2.2.2.2.2.2.2.1.1.1,.d (.sl (.int .u32)) c.2.2.2.2.2.2.2.2.1.1.2,SB c.2.2.2.2.2.2.2.2.1.2.1,.d (.sl (.int .u32)) c.2.2.2.2.2.2.2.2.1.2.2,SB c.2.2.2.2.2.2.2.2.2.1.1,.d (.sl (.int .u32)) c.2.2.2.2.2.2.2.2.2.1.2,SB c.2.2.2.2.2.2.2.2.2.2.1,.d (.sl (.int .u32)) c.2.2.2.2.2.2.2.2.2.2.2],.gone,.row 43 tCU r2],0,[]⟩
noncomputable def TZ(k:KT)(c:BCU)(l:List BP):Option (List RV):=k 6 (oW c l 0)
theorem acr(c:BCU)(l:List BP){rX:List RV}(hX:∃nX,TZ (nO.k nX) c l=some rX):nO.Res 28 [.d tCU c,.d (.sl tP) l] rX:=aO (t:=fun k=>TZ k c l) (fun k=>show go2 Tryz.prog ft tys DY yd k 4000 (az 28 [.d tCU c,.d (.sl tP) l]) (.node 0)=TZ k c l by kernel_rfl) hX
noncomputable def lF(k:KT)(c:BCU)(l:List BP)(s6:Int):Option (List RV):=match decide (s6<(l.length:Int))with|true=>(match bw l s6 with|some x1=>(match decide (okC 3500 c∧okP 3500 x1)with|true=>(match !(onR (dC c) (dec x1))with|true=>some [RV.d (.sl tCU) ([]),RV.d (.int .i64) 1]|false=>k 6 (oW c l (IntKind.i64.wrap (s6+1))))|false=>none)|none=>none)|false=>(match decide ((([c.2.2.2.2.1,c.2.2.2.2.2]).length+l.length)*320≤140737488355328∧([c.2.2.2.2.1,c.2.2.2.2.2]).length+l.length≤140737488355328)with|true=>(match decide (Nb c (([c.2.2.2.2.1,c.2.2.2.2.2])++l))with|true=>k 31 (mz c l 1 ([]))|false=>none)|false=>none)
theorem BJ(c:BCU)(l:List BP)(s6:Int){rX:List RV}(hX:∃nX,lF (nO.k nX) c l s6=some rX):nO.Runs 6 (oW c l s6) rX:=em (t:=fun k=>lF k c l s6) (fun k=>show go2 Tryz.prog ft tys DY yd k 4000 {oW c l s6 with K:=.lp 6::(oW c l s6).K} (.node 7)=lF k c l s6 by kernel_rfl) hX
noncomputable def jp(k:KT)(c:BCU)(l:List BP)(s9:Int)(r2:List BCU):Option (List RV):=match decide (s9<((uH (dC c) (([c.2.2.2.2.1,c.2.2.2.2.2])++l)).length:Int))with|true=>(match bw (uH (dC c) (([c.2.2.2.2.1,c.2.2.2.2.2])++l)) (IntKind.i64.wrap (s9-1))with|some x1=>(match bw (uH (dC c) (([c.2.2.2.2.1,c.2.2.2.2.2])++l)) s9 with|some x2=>dup (.b .l .l) (match decide ((r2.length+([(c.1,(c.2.1,(c.2.2.1,(c.2.2.2.1,(x1,x2)))))]).length)*1040≤140737488355328∧r2.length+([(c.1,(c.2.1,(c.2.2.1,(c.2.2.2.1,(x1,x2)))))]).length≤140737488355328)with|true=>k 31 (mz c l (IntKind.i64.wrap (s9+1)) (r2++([(c.1,(c.2.1,(c.2.2.1,(c.2.2.2.1,(x1,x2)))))])))|false=>none)|none=>none)|none=>none)|false=>some [RV.d (.sl tCU) r2,RV.d (.int .i64) 0]
theorem vu(c:BCU)(l:List BP)(s9:Int)(r2:List BCU){rX:List RV}(hX:∃nX,jp (nO.k nX) c l s9 r2=some rX):nO.Runs 31 (mz c l s9 r2) rX:=em (t:=fun k=>jp k c l s9 r2) (fun k=>show go2 Tryz.prog ft tys DY yd k 4000 {mz c l s9 r2 with K:=.lp 31::(mz c l s9 r2).K} (.node 32)=jp k c l s9 r2 by kernel_rfl) hX
theorem abm(c:BCU)(l:List BP)(hle:l.length≤900000)(S:List BP)(hS:S=FE c l):∀(j i:Nat),1≤i→i+j=max S.length 1→∀out:List BCU,out.length≤i→nO.Runs 31 (mz c l (i:Int) out) [.d (.sl tCU) (out++Xc c (S.drop (i-1))),.d (.int .i64) (0:Int)]:=by
 have hSl:=Zg c l
 rw[←hS]at hSl
 have eS:uH (dC c) ([c.2.2.2.2.1,c.2.2.2.2.2]++l)=S:=hS.symm
 intro j
 induction j with
 |zero=>
  intro i h1 hi out hlen
  refine vu _ _ _ _ ⟨0,?_⟩
  unfold jp
  rw[eS,cN (by omega)]
  have:Xc c (S.drop (i-1))=[]:=by
   have hl:(S.drop (i-1)).length≤1:=by rw[List.length_drop];omega
   match S.drop (i-1),hl with
   |[],_=>rfl
   |[_],_=>rfl
   |_::_::_,h=>simp at h
  rw[this,List.append_nil]
 |succ j ih=>
  intro i h1 hi out hlen
  have hil:i<S.length:=by omega
  have e1:IntKind.i64.wrap ((i:Int)-1)=((i-1:Nat):Int):=by rw[bk (by omega) (by omega)];omega
  have e2:IntKind.i64.wrap ((i:Int)+1)=((i+1:Nat):Int):=cI (by omega)
  have g1:bw S ((i-1:Nat):Int)=some S[i-1]:=by rw[aB,List.getElem?_eq_getElem (by omega)]
  have g2:bw S (i:Int)=some S[i]:=by rw[aB,List.getElem?_eq_getElem hil]
  obtain⟨n,hn⟩:=ih (i+1) (by omega) (by omega) (out++[ya c S[i-1] S[i]]) (by simp;omega)
  refine vu _ _ _ _ ⟨n,?_⟩
  unfold jp
  rw[eS]
  simp only[aJ,ct hil,e1,e2,g1,g2]
  rw[dT (by simp;omega)]
  dsimp only
  have hd:S.drop (i-1)=S[i-1]::S.drop i:=by
   have:=List.drop_eq_getElem_cons (l:=S) (i:=i-1) (by omega)
   rw[this,show i-1+1=i by omega]
  have hd2:S.drop i=S[i]::S.drop (i+1):=List.drop_eq_getElem_cons hil
  rw[hd,hd2]
  rw[show i+1-1=i by omega,hd2,List.append_assoc]at hn
  exact hn
theorem aba(c:BCU)(l:List BP)(h:Bs c l):∀(j i:Nat),i+j=l.length→nO.Runs 6 (oW c l (i:Int)) [.d (.sl tCU) (Na c l),.d (.int .i64) (0:Int)]:=by
 have hs:=Wm h
 obtain⟨hc,hle,hl⟩:=h
 intro j
 induction j with
 |zero=>
  intro i hi
  obtain⟨n,hn⟩:=abm c l hle (FE c l) rfl (max (FE c l).length 1-1) 1 (Nat.le_refl _) (by omega) [] (by simp)
  refine BJ _ _ _ ⟨n,?_⟩
  unfold lF
  rw[cN (by omega),dT (by simp;omega),dT hs]
  exact hn
 |succ j ih=>
  intro i hi
  have hil:i<l.length:=by omega
  obtain⟨n,hn⟩:=ih (i+1) (by omega)
  have h1:=hl _ (List.getElem_mem hil)
  refine BJ _ _ _ ⟨n,?_⟩
  unfold lF
  rw[ct hil,aB,List.getElem?_eq_getElem hil,cI (by omega)]
  dsimp only
  rw[dT (show okC 3500 c∧okP 3500 l[i] from⟨hc,h1.1⟩),h1.2]
  exact hn
theorem WR(c:BCU)(l:List BP)(h:Bs c l):Con Tryz.prog 28 [.d tCU c,.d (.sl tP) l] [.d (.sl tCU) (Na c l),.d (.int .i64) 0]:=by
 refine Ctx.Res.con (C:=nO) (au Rv) ?_ (fn:=Tryz.f28) (by kernel_rfl) (by kernel_rfl)
 obtain⟨n,hn⟩:=aba c l h l.length 0 (by omega)
 exact acr _ _ ⟨n,hn⟩
def EA:aL:=spN false false [tCU,(.sl tP)] (fun x=>decide (Bs x.1 x.2.1)) (fun x=>[RV.d (.sl tCU) (Na x.1 x.2.1),RV.d (.int .i64) 0])
theorem Us:af Tryz.prog 28=true∧ao Tryz.prog 28 EA∧∀g,EA.mut_=some g→aK Tryz.prog 28 g:=aq (by kernel_rfl) fun x h=>WR x.1 x.2.1 (of_decide_eq_true h)
end Go.Proofs.YtlahabkjhgkkjaaGreat
namespace Go.Proofs.YtlahabkjhgkkjaaGreat
open Go.RowKit
def vcR(x y:Int):Rat×Rat:=((x:Rat),(y:Rat))
noncomputable def sB:BCU:=(false,enc ((0,2,0):Ln),o00,false,enc (atP (-1,0)),enc (atP (1,0)))
noncomputable def iQ:BCU:=(true,o00,enc ((0,0,1):Ln),false,enc (atP (1,0)),enc (atP (-1,0)))
instance afP:Bd (-1:Rat) 3:=lY (n:= -1) (by decide)
theorem SY:dC sB=(false,(0,2,0),dec o00,false,atP (-1,0),atP (1,0)):=by
 unfold dC sB
 simp only[ak]
theorem sX:dC iQ=(true,dec o00,(0,0,1),false,atP (1,0),atP (-1,0)):=by
 unfold dC iQ
 simp only[ak]
theorem aab:MK (vcR (-1) 0) (vcR 1 0)=sB:=by
 have h1:F4 (vcR (-1) 0) (vcR 1 0)=false:=by decide+kernel
 have h2:aaf (vcR (-1) 0) (vcR 1 0)=(0,2,0):=by decide+kernel
 unfold MK sB
 rw[h1,h2]
 rfl
theorem aaW:NE (vcR 1 0) (vcR 0 1) (vcR (-1) 0)=iQ:=by
 have h1:decide (gN (vcR 1 0) (vcR 0 1) (vcR (-1) 0)=0)=false:=by decide+kernel
 have h2:ZW (vcR 1 0) (vcR 0 1) (vcR (-1) 0)=(0,0,1):=by decide+kernel
 have h3:decide (qv (vcR 1 0) (vcR 0 1) (vcR (-1) 0)<0)=false:=by decide+kernel
 unfold NE iQ
 rw[h1,h2,h3]
 rfl
theorem nj{v:Rat×Rat}{j k:Nat}[h:Bd v j](hj:mx j (mx 1 (mx j (mx 1 1)))≤k)(hk:k≤480000):okP k (enc (atP v)):=of_decide_eq_true (bP (x:=atP v) hj hk)
theorem JI:okC 500 sB:=by
 refine⟨fun h=>(by cases h),fun _=>⟨of_decide_eq_true (okd (x:=((0,2,0):Ln)) (by decide) (by decide)),?_⟩,nj (v:=(-1,0)) (by decide) (by decide),nj (v:=(1,0)) (by decide) (by decide)⟩
 show(dec (enc ((0,2,0):Ln)):Ln).1≠0∨_
 rw[ak]
 exact .inr (by decide+kernel)
theorem zR:okC 500 iQ:=by
 refine⟨fun _=>⟨of_decide_eq_true (okd (x:=((0,0,1):Ln)) (by decide) (by decide)),?_⟩,fun h=>(by cases h),nj (v:=(1,0)) (by decide) (by decide),nj (v:=(-1,0)) (by decide) (by decide)⟩
 show 0<(dec (enc ((0,0,1):Ln)):Ln).2.2
 rw[ak]
 decide+kernel
theorem Kc:atP (vcR 0 1)=atP (0,1):=by decide+kernel
theorem YG:Bs iQ [enc (atP (vcR 0 1))]:=by
 refine⟨ol zR (by decide) (by decide),by simp,fun x hx=>?_⟩
 have hx:x=enc (atP (vcR 0 1)):=by simpa using hx
 rw[hx,Kc,ak,sX]
 exact⟨nj (v:=(0,1)) (by decide) (by decide),by decide+kernel⟩
noncomputable def abB:List BCU:=[ya iQ (enc (atP (1,0))) (enc (atP (0,1))),ya iQ (enc (atP (0,1))) (enc (atP (-1,0)))]
theorem aaO:Na iQ [enc (atP (vcR 0 1))]=abB:=by
 have b1:decide (kZ (dC iQ) (atP (1,0)) (atP (-1,0))<0)=true:=by rw[sX];decide+kernel
 have b2:decide (kZ (dC iQ) (atP (1,0)) (atP (0,1))<0)=true:=by rw[sX];decide+kernel
 have b3:decide (kZ (dC iQ) (atP (-1,0)) (atP (0,1))<0)=false:=by rw[sX];decide+kernel
 have b4:(dS (atP (-1,0)) (atP (0,1))==0)=false:=by decide+kernel
 have e1:iQ.2.2.2.2.1=enc (atP (1,0)):=rfl
 have e2:iQ.2.2.2.2.2=enc (atP (-1,0)):=rfl
 unfold Na FE uH
 rw[Kc,e1,e2]
 simp only[List.cons_append,List.nil_append,List.foldl_cons,List.foldl_nil,kE,ak,b1,b2,b3,b4,cond_true,cond_false]
 rfl
theorem PN:okC 500 (ya iQ (enc (atP (1,0))) (enc (atP (0,1)))):=⟨zR.1,fun h=>(by cases h),nj (v:=(1,0)) (by decide) (by decide),nj (v:=(0,1)) (by decide) (by decide)⟩
theorem aeA:dC (ya iQ (enc (atP (1,0))) (enc (atP (0,1))))=(true,dec o00,(0,0,1),false,atP (1,0),atP (0,1)):=by
 unfold dC ya iQ
 simp only[ak]
theorem q1:bK (jN (dC sB) (vcR 0 2)) (((4:Int):Rat),0,0)=0:=by rw[SY];decide+kernel
theorem q2:bK (jN (dC sB) (vcR 4 4)) (((25:Int):Rat),0,0)=0:=by rw[SY];decide+kernel
theorem q3:E8 (dC iQ) (vcR 0 3) ((2:Int):Rat)=0:=by rw[sX];decide+kernel
theorem q4:E8 (dC iQ) (vcR 0 0) ((1:Int):Rat)=0:=by rw[sX];decide+kernel
theorem q5:bK (jN (dC iQ) (vcR 0 (-1))) (((2:Int):Rat),0,0)=0:=by rw[sX];decide+kernel
theorem q6:bK (jN (dC (ya iQ (enc (atP (1,0))) (enc (atP (0,1))))) (vcR 1 1)) (mkR ((3:Int):Rat) ((-2:Int):Rat) ((2:Int):Rat))=0:=by rw[aeA];decide+kernel
instance afQ {x y:Int} {i j:Nat} [h:Bd (x:Rat) i] [h':Bd (y:Rat) j]:Bd (vcR x y) (mx i j):=inferInstanceAs (Bd (((x:Rat),(y:Rat)):Rat×Rat) _)
def xC:aL:=spN true true [tO,tO] (fun x=>decide (okT 15000 x.1∧okT 15000 x.2.1)) (fun x=>[RV.d .bool (bK (dec x.1) (dec x.2.1)==0)])
theorem Mg:af Tryz.prog 63=true∧ao Tryz.prog 63 xC∧∀g,xC.mut_=some g→aK Tryz.prog 63 g:=aq (by kernel_rfl) fun x h=>Vl x.1 x.2.1 (of_decide_eq_true h)
noncomputable def vT:Env:=[(31,nQ),(78,gA),(131,rH),(50,gY),(63,xC)]
theorem sK:EnvAll Tryz.prog vT:=⟨oV,fj,wd,fU,Mg,trivial⟩
noncomputable def FK:Ctx:=⟨Tryz.prog,ft,tys,vT,[]⟩
noncomputable def ym(_k:KT)(r:BO3):Option (List RV):=match decide (okR r.1)with|true=>(match decide (okR r.2.1)with|true=>(match decide (okR r.2.2)with|true=>(match decide (okR r.2.1)with|true=>(match(aQ (aa r.2.1) 0)==0 with|true=>(match decide (okR r.2.1)with|true=>(match(aQ (aa r.2.1) 0)==0 with|true=>(match decide (okR r.2.2)with|true=>some [RV.d .bool ((aQ (aa r.2.2) 0)==0)]|false=>none)|false=>some [RV.d .bool false])|false=>none)|false=>(match decide (okR r.2.2)with|true=>(match(aQ (aa r.2.2) 0)==0 with|true=>(match decide (okR r.2.1)with|true=>(match(aQ (aa r.2.1) 0)==0 with|true=>(match decide (okR r.2.2)with|true=>some [RV.d .bool ((aQ (aa r.2.2) 0)==0)]|false=>none)|false=>some [RV.d .bool false])|false=>none)|false=>(match decide (okR r.2.2)with|true=>(match decide (okR r.2.2)with|true=>(match decide ((aQ (aa r.2.2) 0)>0)with|true=>some [RV.d .bool (!(fw (aa r.2.2)))]|false=>some [RV.d .bool false])|false=>none)|false=>none))|false=>none))|false=>none)|false=>none)|false=>none)|false=>none
theorem aac(r:BO3){rX:List RV}(hX:∃nX,ym (FK.k nX) r=some rX):FK.Res 62 [.d tO r] rX:=aO (t:=fun k=>ym k r) (fun k=>show go2 Tryz.prog ft tys vT [] k 4000 (az 62 [.d tO r]) (.node 0)=ym k r by kernel_rfl) hX
theorem Tj(r:BO3)(h:okT 15000 r):Con Tryz.prog 62 [.d tO r] [.d .bool true]:=by
 refine Ctx.Res.con (C:=FK) (au sK) (aac _ ⟨0,?_⟩) (fn:=Tryz.f62) (by kernel_rfl) (by kernel_rfl)
 have hr:=h
 obtain⟨r,rfl,br,rr⟩:=fJ hr
 unfold ym
 simp only[aF,aG,aD,aw,aX,Nat.reduceLeDiff,aP,aT]
 rcases rr.rd with⟨h1,h2⟩|⟨h1,h2,h3⟩
 ·rw[decide_eq_true h1,decide_eq_true h2]
 ·have h4:r.2.2≠0:=by grind
  rw[decide_eq_false h1,decide_eq_false h4,decide_eq_true h2,h3]
  rfl
noncomputable def Ux:Ctx:=⟨Tryz.prog,ft,tys,vT,[]⟩
noncomputable def J4(_k:KT)(x:Int)(y:Int):Option (List RV):=match decide (bh x)with|true=>(match decide (bh y)with|true=>some [RV.d tV (hid (ae (x:Rat)),hid (ae (y:Rat)))]|false=>none)|false=>none
theorem acf(x:Int)(y:Int){rX:List RV}(hX:∃nX,J4 (Ux.k nX) x y=some rX):Ux.Res 47 [SI x,SI y] rX:=aO (t:=fun k=>J4 k x y) (fun k=>show go2 Tryz.prog ft tys vT [] k 4000 (az 47 [SI x,SI y]) (.node 0)=J4 k x y by kernel_rfl) hX
theorem Xb(x:Int)(y:Int)(h:bh x∧bh y):Con Tryz.prog 47 [.d (.int .i64) x,.d (.int .i64) y] [.d tV (enc (vcR x y))]:=by
 refine Ctx.Res.con (C:=Ux) (au sK) (acf _ _ ⟨0,?_⟩) (fn:=Tryz.f47) (by kernel_rfl) (by kernel_rfl)
 obtain⟨h1,h2⟩:=h
 unfold J4
 rw[dT h1,dT h2]
 simp only[aj]
 rfl
def Ap:aL:=spN true true [tO] (fun x=>decide (okT 15000 x.1)) (fun _=>[RV.d .bool true])
theorem LR:af Tryz.prog 62=true∧ao Tryz.prog 62 Ap∧∀g,Ap.mut_=some g→aK Tryz.prog 62 g:=aq (by kernel_rfl) fun x h=>Tj x.1 (of_decide_eq_true h)
noncomputable def Et:aL:=spN false true [(.int .i64),(.int .i64)] (fun x=>decide (bh x.1∧bh x.2.1)) (fun x=>[RV.d tV (hid (enc (vcR x.1 x.2.1)))])
theorem RJ:af Tryz.prog 47=true∧ao Tryz.prog 47 Et∧∀g,Et.mut_=some g→aK Tryz.prog 47 g:=aq (by kernel_rfl) fun x h=>by simp only[aj];exact Xb x.1 x.2.1 (of_decide_eq_true h)
noncomputable def I4:Env:=(62,Ap)::(47,Et)::vT
theorem Cx:EnvAll Tryz.prog I4:=⟨LR,RJ,sK⟩
noncomputable def Sz:Ctx:=⟨Tryz.prog,ft,tys,I4,[]⟩
noncomputable def KD(_k:KT)(a:BO3)(w:BO3):Option (List RV):=match decide (okT 15000 a)with|true=>(match decide (okT 15000 a∧okT 15000 w)with|true=>some [RV.d .bool (bK (dec a) (dec w)==0)]|false=>none)|false=>none
theorem ad4(a:BO3)(w:BO3){rX:List RV}(hX:∃nX,KD (Sz.k nX) a w=some rX):Sz.Res 15 [.d tO a,.d tO w] rX:=aO (t:=fun k=>KD k a w) (fun k=>show go2 Tryz.prog ft tys I4 [] k 4000 (az 15 [.d tO a,.d tO w]) (.node 0)=KD k a w by kernel_rfl) hX
theorem Xr(a:BO3)(w:BO3)(h:okT 15000 a∧okT 15000 w):Con Tryz.prog 15 [.d tO a,.d tO w] [.d .bool (bK (dec a) (dec w)==0)]:=by
 refine Ctx.Res.con (C:=Sz) (au Cx) (ad4 _ _ ⟨0,?_⟩) (fn:=Tryz.f15) (by kernel_rfl) (by kernel_rfl)
 obtain⟨h1,h2⟩:=h
 unfold KD
 rw[dT h1,dT (show okT 15000 a∧okT 15000 w from⟨h1,h2⟩)]
def Fo:aL:=spN true true [tO,tO] (fun x=>decide (okT 15000 x.1∧okT 15000 x.2.1)) (fun x=>[RV.d .bool (bK (dec x.1) (dec x.2.1)==0)])
theorem Pd:af Tryz.prog 15=true∧ao Tryz.prog 15 Fo∧∀g,Fo.mut_=some g→aK Tryz.prog 15 g:=aq (by kernel_rfl) fun x h=>Xr x.1 x.2.1 (of_decide_eq_true h)
noncomputable def yV:aL:=spN false true [(.int .i64)] (fun x=>decide (bh x.1)) (fun x=>[RV.d tO (hid (enc (((x.1:Rat),0,0):Rt)))])
theorem LN:af Tryz.prog 51=true∧ao Tryz.prog 51 yV∧∀g,yV.mut_=some g→aK Tryz.prog 51 g:=aq (by kernel_rfl) fun x h=>by simp only[aj];exact Rz x.1 (of_decide_eq_true h)
noncomputable def Rq:Env:=(15,Fo)::(46,zr)::(48,Af)::(28,EA)::(20,oA)::(49,ru)::(51,yV)::(16,zh)::(21,Eh)::I4
theorem Q5:EnvAll Tryz.prog Rq:=⟨Pd,Nc,M4,Us,oY,vX,LN,CO,Uc,Cx⟩
noncomputable def Od:Ctx:=⟨Tryz.prog,ft,tys,Rq,[]⟩
noncomputable def Jl(_k:KT):Option (List RV):=let y1:=hid (enc (vcR ((-1):Int) (0:Int)));let y2:=hid (enc (vcR (1:Int) (0:Int)));let y3:=hid (enc (vcR (0:Int) (1:Int)));let y4:=hid (NE (dec y2) (dec y3) (dec y1));let y5:=Na y4 ([hid (enc (atP (dec y3)))]);let y6:=hid (ae ((3:Int):Rat));let y7:=hid (ae (((-2):Int):Rat));let y8:=hid (ae ((2:Int):Rat));let y9:=hid (MK (dec y1) (dec y2));let y10:=hid (enc (vcR (0:Int) (2:Int)));let y11:=hid (enc (jN (dC y9) (dec y10)));let y12:=hid (enc ((((4:Int):Rat),0,0):Rt));let y13:=hid (enc (vcR (4:Int) (4:Int)));let y14:=hid (enc (jN (dC y9) (dec y13)));let y15:=hid (enc ((((25:Int):Rat),0,0):Rt));let y16:=hid (enc (vcR (0:Int) (3:Int)));let y17:=hid (enc (vcR (0:Int) (0:Int)));let y18:=hid (ae ((1:Int):Rat));let y19:=hid (enc (vcR (0:Int) ((-1):Int)));let y20:=hid (enc (jN (dC y4) (dec y19)));let y21:=hid (enc ((((2:Int):Rat),0,0):Rt));let y22:=hid (enc (vcR (1:Int) (1:Int)));let y23:=hid (enc (mkR (aa y6) (aa y7) (aa y8)));match decide (bh ((-1):Int)∧bh (0:Int))with|true=>(match decide (bh (1:Int)∧bh (0:Int))with|true=>(match decide (ok (Rat×Rat) 100 y1∧ok (Rat×Rat) 100 y2)with|true=>(match decide (bh (1:Int)∧bh (0:Int))with|true=>(match decide (bh (0:Int)∧bh (1:Int))with|true=>(match decide (bh ((-1):Int)∧bh (0:Int))with|true=>(match decide (ok (Rat×Rat) 100 y2∧ok (Rat×Rat) 100 y3∧ok (Rat×Rat) 100 y1)with|true=>(match decide (bh (0:Int)∧bh (1:Int))with|true=>(match decide (ok (Rat×Rat) 100000 y3)with|true=>(match decide (Bs y4 ([hid (enc (atP (dec y3)))]))with|true=>(match(NU (dec y1) (dec y2)) !=0 with|true=>some [RV.d .bool false]|false=>(match(UF (dec y2) (dec y3) (dec y1)) !=0 with|true=>some [RV.d .bool false]|false=>(match 0 !=0 with|true=>some [RV.d .bool false]|false=>(match(y5.length:Int) !=2 with|true=>some [RV.d .bool false]|false=>(match decide (bh (3:Int))with|true=>(match decide (bh ((-2):Int))with|true=>(match decide (bh (2:Int))with|true=>(match decide (ok Rat 100000 y6∧ok Rat 100000 y7∧ok Rat 100000 y8∧0≤aa y8)with|true=>(match decide (bh (0:Int)∧bh (2:Int))with|true=>(match decide (okC 500 y9∧ok (Rat×Rat) 200 y10)with|true=>(match decide (bh (4:Int))with|true=>(match decide (okT 15000 y11∧okT 15000 y12)with|true=>(match bK (dec y11) (dec y12)==0 with|true=>(match decide (bh (4:Int)∧bh (4:Int))with|true=>(match decide (okC 500 y9∧ok (Rat×Rat) 200 y13)with|true=>(match decide (bh (25:Int))with|true=>(match decide (okT 15000 y14∧okT 15000 y15)with|true=>(match bK (dec y14) (dec y15)==0 with|true=>(match decide (bh (0:Int)∧bh (3:Int))with|true=>(match decide (bh (2:Int))with|true=>(match decide (okC 500 y4∧ok (Rat×Rat) 200 y16∧ok Rat 1000 y8)with|true=>(match(E8 (dC y4) (dec y16) (aa y8))==0 with|true=>(match decide (bh (0:Int)∧bh (0:Int))with|true=>(match decide (bh (1:Int))with|true=>(match decide (okC 500 y4∧ok (Rat×Rat) 200 y17∧ok Rat 1000 y18)with|true=>(match(E8 (dC y4) (dec y17) (aa y18))==0 with|true=>(match decide (bh (0:Int)∧bh ((-1):Int))with|true=>(match decide (okC 500 y4∧ok (Rat×Rat) 200 y19)with|true=>(match decide (bh (2:Int))with|true=>(match decide (okT 15000 y20∧okT 15000 y21)with|true=>(match bK (dec y20) (dec y21)==0 with|true=>(match bw y5 0 with|some x1=>(match decide (bh (1:Int)∧bh (1:Int))with|true=>(match decide (okC 500 x1∧ok (Rat×Rat) 200 y22)with|true=>(match decide (okT 15000 (hid (enc (jN (dC x1) (dec y22))))∧okT 15000 y23)with|true=>some [RV.d .bool (bK (dec (hid (enc (jN (dC x1) (dec y22))))) (dec y23)==0)]|false=>none)|false=>none)|false=>none)|none=>none)|false=>some [RV.d .bool false])|false=>none)|false=>none)|false=>none)|false=>none)|false=>some [RV.d .bool false])|false=>none)|false=>none)|false=>none)|false=>some [RV.d .bool false])|false=>none)|false=>none)|false=>none)|false=>some [RV.d .bool false])|false=>none)|false=>none)|false=>none)|false=>none)|false=>some [RV.d .bool false])|false=>none)|false=>none)|false=>none)|false=>none)|false=>none)|false=>none)|false=>none)|false=>none)))))|false=>none)|false=>none)|false=>none)|false=>none)|false=>none)|false=>none)|false=>none)|false=>none)|false=>none)|false=>none
theorem acW{rX:List RV}(hX:∃nX,Jl (Od.k nX)=some rX):Od.Res 11 [] rX:=aO (t:=fun k=>Jl k) (fun k=>show go2 Tryz.prog ft tys Rq [] k 4000 (az 11 []) (.node 0)=Jl k by kernel_rfl) hX
theorem VG:Con Tryz.prog 11 [] [.d .bool true]:=by
 have bn:∀n:Int,bh n→Bd (n:Rat) 3:=fun n h=>lY h
 have z0:=bn 0 (by decide)
 have z1:=bn 1 (by decide)
 have z2:=bn 2 (by decide)
 have z3:=bn 3 (by decide)
 have z4:=bn 4 (by decide)
 have z25:=bn 25 (by decide)
 have zm1:=bn (-1) (by decide)
 have zm2:=bn (-2) (by decide)
 have i0:decide (bh 0)=true:=by decide
 have i1:decide (bh 1)=true:=by decide
 have i2:decide (bh 2)=true:=by decide
 have i3:decide (bh 3)=true:=by decide
 have i4:decide (bh 4)=true:=by decide
 have i25:decide (bh 25)=true:=by decide
 have im1:decide (bh (-1))=true:=by decide
 have im2:decide (bh (-2))=true:=by decide
 have s1:NU (vcR (-1) 0) (vcR 1 0)=0:=by decide+kernel
 have s2:UF (vcR 1 0) (vcR 0 1) (vcR (-1) 0)=0:=by decide+kernel
 have hq:0≤((2:Int):Rat):=by decide+kernel
 have nn2:Nn ((2:Int):Rat):=⟨hq⟩
 have d1:=fun{v:Rat×Rat} (bv:Bd v 200)=>qU JI (v:=v) (bv:=bv)
 have d2:=fun{v:Rat×Rat} (bv:Bd v 200)=>qU zR (v:=v) (bv:=bv)
 have d3:=fun{v:Rat×Rat} (bv:Bd v 200)=>qU PN (v:=v) (bv:=bv)
 have v02:Bd (vcR 0 2) 200:=(inferInstance:Bd (vcR 0 2) _).mono (by decide)
 have v44:Bd (vcR 4 4) 200:=(inferInstance:Bd (vcR 4 4) _).mono (by decide)
 have v0m:Bd (vcR 0 (-1)) 200:=(inferInstance:Bd (vcR 0 (-1)) _).mono (by decide)
 have v11:Bd (vcR 1 1) 200:=(inferInstance:Bd (vcR 1 1) _).mono (by decide)
 obtain⟨t1,u1⟩:=d1 v02
 obtain⟨t2,u2⟩:=d1 v44
 obtain⟨t3,u3⟩:=d2 v0m
 obtain⟨t4,u4⟩:=d3 v11
 have g0:bw abB 0=some (ya iQ (enc (atP (1,0))) (enc (atP (0,1)))):=rfl
 have gl:((abB.length:Int) !=2)=false:=rfl
 refine Ctx.Res.con (C:=Od) (au Q5) (acW ⟨0,?_⟩) (fn:=Tryz.f11) (by kernel_rfl) (by kernel_rfl)
 unfold Jl
 simp only[aj,ak,aw,okd,aC,Bool.decide_and,Bool.and_self,mx,Nat.reduceAdd,Nat.reduceLeDiff,decide_true,cond_true,bH,i0,i1,i2,i3,i4,i25,im1,im2,aab,aaW,aaO,decide_eq_true YG,s1,s2,dT hq,decide_eq_true JI,decide_eq_true zR,decide_eq_true PN,q1,q2,q3,q4,q5,q6,g0,gl]
 rfl
def HV:aL:=spN true true [] (fun _=>true) (fun _=>[RV.d .bool true])
theorem Oa:af Tryz.prog 11=true∧ao Tryz.prog 11 HV∧∀g,HV.mut_=some g→aK Tryz.prog 11 g:=aq (by kernel_rfl) fun _ _=>VG
end Go.Proofs.YtlahabkjhgkkjaaGreat
namespace Go.Proofs.YtlahabkjhgkkjaaGreat
open Go.RowKit
def DF(n d:Int):Prop:=bh n∧bh d∧0<d
instance (n d:Int):Decidable (DF n d):=by unfold DF;infer_instance
def G6(s:Int×Int×Int):Rat×Rat:=(Rat.divInt s.1 (s.2.2+1),Rat.divInt s.2.1 (s.2.2+1))
def m8(s:Int×Int×Int):Prop:= -32768≤s.1∧s.1≤32767∧ -32768≤s.2.1∧s.2.1≤32767∧0≤s.2.2∧s.2.2≤255
instance (s:Int×Int×Int):Decidable (m8 s):=by unfold m8;infer_instance
noncomputable def wX:aL:=spN false true [(.int .i64)] (fun x=>decide (bh x.1)) (fun x=>[RV.d tI (hid (ag x.1))])
theorem MU:af Tryz.prog 134=true∧ao Tryz.prog 134 wX∧∀g,wX.mut_=some g→aK Tryz.prog 134 g:=aq (by kernel_rfl) fun x h=>by simp only[aj];exact DR x.1 (of_decide_eq_true h)
noncomputable def Gm:aL:=spN false true [tI,tI] (fun x=>decide (fM x.1 x.2.1)) (fun x=>[RV.d tR (hid (dv x.1 x.2.1))])
theorem QM:af Tryz.prog 135=true∧ao Tryz.prog 135 Gm∧∀g,Gm.mut_=some g→aK Tryz.prog 135 g:=aq (by kernel_rfl) fun x h=>by simp only[aj];exact Jr x.1 x.2.1 (of_decide_eq_true h)
noncomputable def AB:Env:=[(134,wX),(135,Gm)]
theorem wb:EnvAll Tryz.prog AB:=⟨MU,QM,trivial⟩
noncomputable def ET:Ctx:=⟨Tryz.prog,ft,tys,AB,[]⟩
noncomputable def xx(_k:KT)(n:Int)(d:Int):Option (List RV):=match d==0 with|true=>(match decide (bh (0:Int))with|true=>(match decide (bh (1:Int))with|true=>(match decide (fM (hid (ag (0:Int))) (hid (ag (1:Int))))with|true=>some [RV.d tR (hid (dv (hid (ag (0:Int))) (hid (ag (1:Int)))))]|false=>none)|false=>none)|false=>none)|false=>(match decide (bh n)with|true=>(match decide (bh d)with|true=>(match decide (fM (hid (ag n)) (hid (ag d)))with|true=>some [RV.d tR (hid (dv (hid (ag n)) (hid (ag d))))]|false=>none)|false=>none)|false=>none)
theorem abA(n:Int)(d:Int){rX:List RV}(hX:∃nX,xx (ET.k nX) n d=some rX):ET.Res 52 [SI n,SI d] rX:=aO (t:=fun k=>xx k n d) (fun k=>show go2 Tryz.prog ft tys AB [] k 4000 (az 52 [SI n,SI d]) (.node 0)=xx k n d by kernel_rfl) hX
theorem NH(n:Int)(d:Int)(h:DF n d):Con Tryz.prog 52 [.d (.int .i64) n,.d (.int .i64) d] [.d tR (ae (Rat.divInt n d))]:=by
 refine Ctx.Res.con (C:=ET) (au wb) (abA _ _ ⟨0,?_⟩) (fn:=Tryz.f52) (by kernel_rfl) (by kernel_rfl)
 obtain⟨hn,hd,h0⟩:=h
 have hne:(d==0)=false:=by simp;omega
 unfold xx
 rw[hne,dT hn,dT hd]
 simp only[aj]
 rw[dT (show fM (ag n) (ag d) from⟨bj (by have:=gV hn;omega),bj (by have:=gV hd;omega),by rw[dec_enc];omega⟩)]
 unfold dv
 rw[dec_enc,dec_enc]
noncomputable def Bf:aL:=spN false true [(.int .i64),(.int .i64)] (fun x=>decide (DF x.1 x.2.1)) (fun x=>[RV.d tR (hid (ae (Rat.divInt x.1 x.2.1)))])
theorem LD:af Tryz.prog 52=true∧ao Tryz.prog 52 Bf∧∀g,Bf.mut_=some g→aK Tryz.prog 52 g:=aq (by kernel_rfl) fun x h=>by simp only[aj];exact NH x.1 x.2.1 (of_decide_eq_true h)
noncomputable def Eq:Env:=(52,Bf)::AB
theorem Nq:EnvAll Tryz.prog Eq:=⟨LD,wb⟩
noncomputable def En:Ctx:=⟨Tryz.prog,ft,tys,Eq,[]⟩
noncomputable def zK(_k:KT)(s:Int×Int×Int):Option (List RV):=match decide (DF (IntKind.i64.wrap s.1) (IntKind.i64.wrap ((IntKind.i64.wrap s.2.2)+1)))with|true=>(match decide (DF (IntKind.i64.wrap s.2.1) (IntKind.i64.wrap ((IntKind.i64.wrap s.2.2)+1)))with|true=>some [RV.d tV (hid (ae (Rat.divInt (IntKind.i64.wrap s.1) (IntKind.i64.wrap ((IntKind.i64.wrap s.2.2)+1)))),hid (ae (Rat.divInt (IntKind.i64.wrap s.2.1) (IntKind.i64.wrap ((IntKind.i64.wrap s.2.2)+1)))))]|false=>none)|false=>none
theorem ab1(s:Int×Int×Int){rX:List RV}(hX:∃nX,zK (En.k nX) s=some rX):En.Res 13 [.d (.st (.pair (.int .i16) (.pair (.int .i16) (.int .u8)))) s] rX:=aO (t:=fun k=>zK k s) (fun k=>show go2 Tryz.prog ft tys Eq [] k 4000 (az 13 [.d (.st (.pair (.int .i16) (.pair (.int .i16) (.int .u8)))) s]) (.node 0)=zK k s by kernel_rfl) hX
theorem TE(s:Int×Int×Int)(h:m8 s):Con Tryz.prog 13 [.d (.st (.pair (.int .i16) (.pair (.int .i16) (.int .u8)))) s] [.d tV (enc (G6 s))]:=by
 refine Ctx.Res.con (C:=En) (au Nq) (ab1 _ ⟨0,?_⟩) (fn:=Tryz.f13) (by kernel_rfl) (by kernel_rfl)
 obtain⟨h1,h2,h3,h4,h5,h6⟩:=h
 have e1:IntKind.i64.wrap s.1=s.1:=bk (by omega) (by omega)
 have e2:IntKind.i64.wrap s.2.1=s.2.1:=bk (by omega) (by omega)
 have e3:IntKind.i64.wrap s.2.2=s.2.2:=bk (by omega) (by omega)
 have e4:IntKind.i64.wrap (s.2.2+1)=s.2.2+1:=bk (by omega) (by omega)
 unfold zK
 rw[e1,e2,e3,e4,dT (show DF s.1 (s.2.2+1) from⟨⟨by omega,by omega⟩,⟨by omega,by omega⟩,by omega⟩),dT (show DF s.2.1 (s.2.2+1) from⟨⟨by omega,by omega⟩,⟨by omega,by omega⟩,by omega⟩)]
 simp only[aj]
 rfl
theorem Lu{n d:Int}(h1:bh n)(h2:bh d)(h0:0<d):Bd (Rat.divInt n d) 3:=by
 obtain⟨k,rfl⟩:=Int.eq_ofNat_of_zero_le (show 0≤d by omega)
 exact⟨pG (by omega) (gV h1) (gV h2)⟩
theorem Bh{s:Int×Int×Int}(h:m8 s):Bd (G6 s) 6:=by
 obtain⟨h1,h2,h3,h4,h5,h6⟩:=h
 have b1:=Lu (n:=s.1) (d:=s.2.2+1) ⟨by omega,by omega⟩ ⟨by omega,by omega⟩ (by omega)
 have b2:=Lu (n:=s.2.1) (d:=s.2.2+1) ⟨by omega,by omega⟩ ⟨by omega,by omega⟩ (by omega)
 exact(inferInstance:Bd (Rat.divInt s.1 (s.2.2+1),Rat.divInt s.2.1 (s.2.2+1)) _).mono (by decide)
end Go.Proofs.YtlahabkjhgkkjaaGreat
namespace Go.Proofs.YtlahabkjhgkkjaaGreat
open Go.RowKit
instance afz {a b c d:Rat×Rat} {j k l m:Nat} [ha:Bd a j] [hb:Bd b k] [hc:Bd c l] [hd:Bd d m]:Bd (pZ a b c d) (100*(j+k+l+m+1)):=by
 have h1:∀{q:Rat} {n:Nat},Bd q n→n≤100*(j+k+l+m+1)→bdR (100*(j+k+l+m+1)) q:=fun h hm=>bI h.le hm
 refine⟨?_⟩
 show bdR _ _
 unfold pZ
 cases cgR a b c d
 ·exact ko (ko (ko (h1 (inferInstance:Bd (bg a b c) _) (by omega)) (h1 (inferInstance:Bd (bg a b d) _) (by omega))) (h1 (inferInstance:Bd (bg c d a) _) (by omega))) (h1 (inferInstance:Bd (bg c d b) _) (by omega))
 ·exact h1 me (by omega)
theorem VV(x y:Rat):c9 x y=if y<x then y else x:=by
 unfold c9
 by_cases h:y<x
 ·rw[decide_eq_true h,if_pos h];rfl
 ·rw[decide_eq_false h,if_neg h];rfl
theorem afp(A B C D:Rat):c9 (c9 (c9 C D) B) A=c9 (c9 (c9 A B) C) D:=by
 simp only[VV]
 grind
theorem Bl(a b p:Rat×Rat):dJ (aU b a) (aU b p)= -dJ (aU a b) (aU a p):=by
 unfold dJ aU
 simp only
 grind
theorem B6(q:Rat):aQ (-q) 0= -aQ q 0:=by
 rcases(by grind:q<0∨q=0∨0<q)with h|h|h
 ·rw[cO h,cH (by grind)];rfl
 ·subst h;rw[show(-0:Rat)=0 by grind,cY];rfl
 ·rw[cH h,cO (by grind)]
theorem aai(a b c d:Rat×Rat):cgR d c a b=cgR a b c d:=by
 unfold cgR
 rw[Bl c d a,Bl c d b,B6,B6,Int.neg_mul_neg,Int.mul_comm (aQ (dJ (aU a b) (aU a d)) 0),Bool.and_comm]
theorem Yu(a b p:Rat×Rat):cf (aU b a) (aU b p)=cf (aU a b) (aU a b)-cf (aU a b) (aU a p):=by
 unfold cf aU
 simp only
 grind
theorem UD(a b:Rat×Rat):cf (aU b a) (aU b a)=cf (aU a b) (aU a b):=by
 unfold cf aU
 simp only
 grind
theorem Uy{a b:Rat×Rat}(h:cf (aU a b) (aU a b)=0):a=b:=by
 have e:¬((aU a b).1≠0∨(aU a b).2≠0):=fun h'=>by
  have hq:∀x y:Rat,(x≠0∨y≠0)→x*x+y*y≠0:=fun x y hxy e=>by
   have sq:∀z:Rat,0≤z*z:=fun z=>by
    rcases(by grind:0≤z∨0≤ -z)with h|h
    ·exact Rat.mul_nonneg h h
    ·have:=Rat.mul_nonneg h h;grind
   have h1:=sq x
   have h2:=sq y
   have e1:x*x=0:=by grind
   have e2:y*y=0:=by grind
   rcases hxy with h|h
   ·exact h (by rcases Rat.mul_eq_zero.1 e1 with h|h<;>exact h)
   ·exact h (by rcases Rat.mul_eq_zero.1 e2 with h|h<;>exact h)
  exact hq _ _ h' h
 unfold aU at e
 simp only at e
 refine Prod.ext ?_ ?_
 ·refine Classical.byContradiction fun h'=>e (.inl (by grind))
 ·refine Classical.byContradiction fun h'=>e (.inr (by grind))
theorem J6(a b p:Rat×Rat):bg b a p=bg a b p:=by
 by_cases hab:a=b
 ·rw[hab]
 have hn:0<cf (aU a b) (aU a b):=by
  have hne:cf (aU a b) (aU a b)≠0:=fun h=>hab (Uy h)
  have hge:0≤cf (aU a b) (aU a b):=by
   have sq:∀z:Rat,0≤z*z:=fun z=>by
    rcases(by grind:0≤z∨0≤ -z)with h|h
    ·exact Rat.mul_nonneg h h
    ·have:=Rat.mul_nonneg h h;grind
   unfold cf
   have:=sq (aU a b).1
   have:=sq (aU a b).2
   grind
  grind
 unfold bg
 rw[Yu a b p,UD a b,Bl a b p]
 generalize hN:cf (aU a b) (aU a b)=N at*
 generalize cf (aU a b) (aU a p)=t
 by_cases h1:t≤0
 ·rw[decide_eq_true h1,decide_eq_false (show ¬N-t≤0 by grind),decide_eq_true (show N≤N-t by grind)]
  rfl
 ·by_cases h2:N≤t
  ·rw[decide_eq_false h1,decide_eq_true h2,decide_eq_true (show N-t≤0 by grind)]
   rfl
  ·rw[decide_eq_false h1,decide_eq_false h2,decide_eq_false (show ¬N-t≤0 by grind),decide_eq_false (show ¬N≤N-t by grind)]
   simp only[cond_false]
   congr 1
   grind
theorem Yw(a b c d:Rat×Rat):pZ d c a b=pZ a b c d:=by
 unfold pZ
 rw[aai,J6 c d,J6 c d,afp]
end Go.Proofs.YtlahabkjhgkkjaaGreat
namespace Go.Proofs.YtlahabkjhgkkjaaGreat
open Go.RowKit
noncomputable def zO:aL:=spN false true [(.st (.pair (.int .i16) (.pair (.int .i16) (.int .u8))))] (fun x=>decide (m8 x.1)) (fun x=>[RV.d tV (hid (enc (G6 x.1)))])
theorem LL:af Tryz.prog 13=true∧ao Tryz.prog 13 zO∧∀g,zO.mut_=some g→aK Tryz.prog 13 g:=aq (by kernel_rfl) fun x h=>by simp only[aj];exact TE x.1 (of_decide_eq_true h)
noncomputable def HE:aL:=spN false true [tV,tV,tV,tV] (fun x=>decide (ok (Rat×Rat) 100 x.1∧ok (Rat×Rat) 100 x.2.1∧ok (Rat×Rat) 100 x.2.2.1∧ok (Rat×Rat) 100 x.2.2.2.1)) (fun x=>[RV.d tR (hid (ae (pZ (dec x.1) (dec x.2.1) (dec x.2.2.1) (dec x.2.2.2.1))))])
theorem OR:af Tryz.prog 30=true∧ao Tryz.prog 30 HE∧∀g,HE.mut_=some g→aK Tryz.prog 30 g:=aq (by kernel_rfl) fun x h=>by simp only[aj];exact VM x.1 x.2.1 x.2.2.1 x.2.2.2.1 (of_decide_eq_true h)
noncomputable def Ff:aL:=spN false true [tV,tV,tV,tV] (fun x=>decide (ok (Rat×Rat) 100 x.1∧ok (Rat×Rat) 100 x.2.1∧ok (Rat×Rat) 100 x.2.2.1∧ok (Rat×Rat) 100 x.2.2.2.1)) (fun x=>[RV.d tR (hid (ae (pZ (dec x.1) (dec x.2.1) (dec x.2.2.1) (dec x.2.2.2.1))))])
theorem PR:af Tryz.prog 33=true∧ao Tryz.prog 33 Ff∧∀g,Ff.mut_=some g→aK Tryz.prog 33 g:=aq (by kernel_rfl) fun x h=>by simp only[aj];exact VQ x.1 x.2.1 x.2.2.1 x.2.2.2.1 (of_decide_eq_true h)
def zP:aL:=spN true true [tR,tR] (fun x=>decide (okR x.1∧okR x.2.1)) (fun x=>[RV.d .bool (decide (aa x.1=aa x.2.1))])
theorem Ms:af Tryz.prog 32=true∧ao Tryz.prog 32 zP∧∀g,zP.mut_=some g→aK Tryz.prog 32 g:=aq (by kernel_rfl) fun x h=>P4 x.1 x.2.1 (of_decide_eq_true h)
noncomputable def Uv:Env:=[(11,HV),(13,zO),(30,HE),(33,Ff),(31,nQ),(32,zP)]
theorem RY:EnvAll Tryz.prog Uv:=⟨Oa,LL,OR,PR,oV,Ms,trivial⟩
noncomputable def Vn:Ctx:=⟨Tryz.prog,ft,tys,Uv,[]⟩
noncomputable def I0(_k:KT)(a:(Int×Int×Int)×Int×Int×Int)(b:(Int×Int×Int)×Int×Int×Int):Option (List RV):=let y1:=hid (enc (G6 a.1));let y2:=hid (enc (G6 a.2));let y3:=hid (enc (G6 b.1));let y4:=hid (enc (G6 b.2));let y5:=hid (ae (pZ (dec y1) (dec y2) (dec y3) (dec y4)));let y6:=hid (ae (pZ (dec y4) (dec y3) (dec y1) (dec y2)));match decide (m8 a.1)with|true=>(match decide (m8 a.2)with|true=>(match decide (m8 b.1)with|true=>(match decide (m8 b.2)with|true=>(match decide (ok (Rat×Rat) 100 y1∧ok (Rat×Rat) 100 y2∧ok (Rat×Rat) 100 y3∧ok (Rat×Rat) 100 y4)with|true=>(match decide (okR y5)with|true=>(match decide (ok (Rat×Rat) 100 y1∧ok (Rat×Rat) 100 y2∧ok (Rat×Rat) 100 y3∧ok (Rat×Rat) 100 y4)with|true=>(match decide (okR y5∧okR y5)with|true=>(match decide (aa y5=aa y5)with|true=>(match decide (ok (Rat×Rat) 100 y4∧ok (Rat×Rat) 100 y3∧ok (Rat×Rat) 100 y1∧ok (Rat×Rat) 100 y2)with|true=>(match decide (okR y6∧okR y5)with|true=>some [RV.d .bool (decide (aa y6=aa y5))]|false=>none)|false=>none)|false=>some [RV.d .bool false])|false=>none)|false=>none)|false=>none)|false=>none)|false=>none)|false=>none)|false=>none)|false=>none
theorem adH(a:(Int×Int×Int)×Int×Int×Int)(b:(Int×Int×Int)×Int×Int×Int){rX:List RV}(hX:∃nX,I0 (Vn.k nX) a b=some rX):Vn.Res 7 [.d (.st (.pair (.st (.pair (.int .i16) (.pair (.int .i16) (.int .u8)))) (.st (.pair (.int .i16) (.pair (.int .i16) (.int .u8)))))) a,.d (.st (.pair (.st (.pair (.int .i16) (.pair (.int .i16) (.int .u8)))) (.st (.pair (.int .i16) (.pair (.int .i16) (.int .u8)))))) b] rX:=aO (t:=fun k=>I0 k a b) (fun k=>show go2 Tryz.prog ft tys Uv [] k 4000 (az 7 [.d (.st (.pair (.st (.pair (.int .i16) (.pair (.int .i16) (.int .u8)))) (.st (.pair (.int .i16) (.pair (.int .i16) (.int .u8)))))) a,.d (.st (.pair (.st (.pair (.int .i16) (.pair (.int .i16) (.int .u8)))) (.st (.pair (.int .i16) (.pair (.int .i16) (.int .u8)))))) b]) (.node 0)=I0 k a b by kernel_rfl) hX
theorem Yf(a b:(Int×Int×Int)×Int×Int×Int)(ha:Ty.ok (.st (.pair (.st (.pair (.int .i16) (.pair (.int .i16) (.int .u8)))) (.st (.pair (.int .i16) (.pair (.int .i16) (.int .u8)))))) a)(hb:Ty.ok (.st (.pair (.st (.pair (.int .i16) (.pair (.int .i16) (.int .u8)))) (.st (.pair (.int .i16) (.pair (.int .i16) (.int .u8)))))) b):Con Tryz.prog 7 [.d (.st (.pair (.st (.pair (.int .i16) (.pair (.int .i16) (.int .u8)))) (.st (.pair (.int .i16) (.pair (.int .i16) (.int .u8)))))) a,.d (.st (.pair (.st (.pair (.int .i16) (.pair (.int .i16) (.int .u8)))) (.st (.pair (.int .i16) (.pair (.int .i16) (.int .u8)))))) b] [.d .bool true]:=by
 have sp:∀s:Int×Int×Int,Ty.ok (.st (.pair (.int .i16) (.pair (.int .i16) (.int .u8)))) s→m8 s:=fun s h=>by
  have h1:=bounds_i16 h.1
  have h2:=bounds_i16 h.2.1
  have h3:=bounds_u8 h.2.2
  exact⟨h1.1,h1.2,h2.1,h2.2,h3.1,h3.2⟩
 have a1:=sp _ ha.1
 have a2:=sp _ ha.2
 have b1:=sp _ hb.1
 have b2:=sp _ hb.2
 have i1:=Bh a1
 have i2:=Bh a2
 have i3:=Bh b1
 have i4:=Bh b2
 refine Ctx.Res.con (C:=Vn) (au RY) (adH _ _ ⟨0,?_⟩) (fn:=Tryz.f7) (by kernel_rfl) (by kernel_rfl)
 unfold I0
 simp only[dT a1,dT a2,dT b1,dT b2,Yw,aj,ak,aw,okd,aX,Bool.decide_and,Bool.and_self,Nat.reduceAdd,Nat.reduceMul,Nat.reduceLeDiff,decide_true]
end Go.Proofs.YtlahabkjhgkkjaaGreat
namespace Go.Proofs.YtlahabkjhgkkjaaGreat
open Go.ChangeShapes Go.WideShapes Go.ChangeAt Go.WideMaps Go.WideElems Go.RowKit Go.Maps
section
variable {H:Type} {enc:TypeId×Value→H} {P:Program}
theorem uD{f:Func}{s:ChangeSpec}{apart fresh handsOn again:Bool}{W W':World}{args:Array Value}{v:Value}{ds gs:List (DataW H)}{before pa pv:List MemPlace}
  (hW:DataW.Whole enc P f.params.toList s.vars apart W args.toList ds gs before)
  (hres:∀(b:Nat) (sp:Nat→Bool) (hd:Bool),DataW.TrodAll enc P W' b sp hd f.resultTypes.toList (v.resultList f.resultTypes.size) (s.fn H (ds++gs)).results [])
  (hargs:∀sp:Nat→Bool,(∀p∈before,sp p.block=true)→DataW.TrodAll enc P W' 0 sp true f.params.toList args.toList (s.fn H (ds++gs)).args pa)
  (hvars:∀sp:Nat→Bool,(∀p∈before,sp p.block=true)→DataW.TrodVars enc P W' sp s.vars (s.fn H (ds++gs)).vars pv)
  (hps:before=pa++pv) (hb:Below W.heap.size W W')
  (hok:∀(j:Nat) (t:TypeId) (r:Value),f.resultTypes[j]?=some t→(v.resultList f.resultTypes.size)[j]?=some r→Value.okWide P W' .any 0 t r):
  s.post enc P f apart fresh handsOn again W args v W':=by
 have hlt:∀p∈before,p.block<W.heap.size:=fun p hp=>hW.lt p hp
 have hold:∀p∈before,(fun b=>decide (b<W.heap.size)) p.block=true:=fun p hp=>by simpa using hlt p hp
 refine⟨ds,gs,before,[],pa,pv,hW,hres _ _ _,hargs _ hold,hvars _ hold,World.keptBut_mono (fun p hp=>⟨hp,?_⟩) (hb.frame (·∈before)),fun _=>?_⟩
 ·rw[hps,List.mem_append]at hp
  exact Or.inr hp
 ·obtain⟨_,_,_,_,_,hz,hn⟩:=hW
  refine⟨hok,_,_,([]++pa)++pv,⟨[]++pa,pv,trodAll_append (hargs _ (fun _ _=>rfl)) (hres _ _ _),hvars _ (fun _ _=>rfl),rfl,?_,?_⟩,?_⟩
  ·intro b off hp
   have hin:MemPlace.cell b off∈before:=by rw[hps];simpa using hp
   rw[hb.frozen (hlt _ hin)]
   exact hz b off hin
  ·intro ha
   have:=hn ha
   rw[hps]at this
   simpa using this
  ·intro p hp _
   rw[hps]
   simpa using hp
end
theorem QQ:laidOutB Tryz.prog=true:=by kernel_rfl
theorem mZ{H:Type}{enc:TypeId×Value→H}{P:Program}(hl:laidOutB P=true){W W':World}{sp:Nat→Bool}:∀(ts:List TypeId) (vs:List Value) (ds:List (DataW H)) (ps:List MemPlace),
  (ts.all fun t=>P.readableRec t&&Nat.ble (t+1) P.types.size)=true→DataW.TrodAll enc P W 0 (fun _=>true) true ts vs ds ps→(∀p∈ps,W.sameAt W' p)→(∀p∈ps,sp p.block=true)→DataW.TrodAll enc P W' 0 sp true ts vs ds ps
 |[],vs,ds,ps,_,h,_,_=>by obtain⟨rfl,rfl,rfl⟩:=trodAll_nil h;exact trodAll_mk0
 |t::ts,vs,ds,ps,ht,h,hs,hp=>by
  obtain⟨v,vs',d,ds',p,q,rfl,rfl,rfl,h0,h1⟩:=trodAll_cons h
  simp only[List.all_cons,Bool.and_eq_true]at ht
  exact trodAll_cons_mk (Trod_stays hl ht.1.1 (Nat.le_of_ble_eq_true ht.1.2) h0 (fun x hx=>hs x (List.mem_append_left _ hx)) (fun x hx=>hp x (List.mem_append_left _ hx)))
   (mZ hl ts vs' ds' q ht.2 h1 (fun x hx=>hs x (List.mem_append_right _ hx)) (fun x hx=>hp x (List.mem_append_right _ hx)))
set_option maxRecDepth 100000 in
theorem QV{H:Type}{enc:TypeId×Value→H}{f:Func}{s:ChangeSpec}{apart fresh handsOn again:Bool}{W W':World}{args:Array Value}{ds:List (DataW H)}{before:List MemPlace}
  (hW:DataW.Whole enc Tryz.prog f.params.toList s.vars apart W args.toList ds [] before) (hv:s.vars=[]) (hr:f.resultTypes= #[4]) (hfn:(s.fn H (ds++[])).results=[.lit (.bool true)]∧(s.fn H (ds++[])).args=ds∧(s.fn H (ds++[])).vars=[])
  (hp:(f.params.toList.all fun t=>Tryz.prog.readableRec t&&Nat.ble (t+1) Tryz.prog.types.size)=true) (hb:Below W.heap.size W W'):s.post enc Tryz.prog f apart fresh handsOn again W args (.bool true) W':=by
 have hW':=hW
 obtain⟨p,q,hA,hV,rfl,hfz,hnd⟩:=hW
 have hq:q=[]:=by
  rw[hv]at hV
  exact(trodVars_none hV).2
 subst hq
 have hlt:∀x∈p,x.block<W.heap.size:=fun x hx=>hW'.lt x (by simpa using hx)
 refine uD (pa:=p) (pv:=[]) hW' ?_ ?_ ?_ rfl hb ?_
 ·intro b sp hd
  rw[hr,hfn.1]
  exact trodAll_mk1 (shut_bool Tryz.underlying4 _)
 ·intro sp hsp
  rw[hfn.2.1]
  exact mZ QQ _ _ _ _ hp hA (fun x hx=>hb.same (hlt x hx)) (fun x hx=>hsp x (by simpa using hx))
 ·intro sp _
  rw[hv,hfn.2.2]
  rfl
 ·exact ok_one hr rfl (okWide_bool_mk (P:=Tryz.prog) Tryz.underlying4 true)
theorem EO{P:Program}{w:World}{r:Reach}{base:Nat}{t e:TypeId}{n:Nat}{v:Value}(ht:P.underlying t=some (.array n e))(h:Value.okWide P w r base t v):∃cs,v=.agg cs∧cs.size=P.cellsOf t:=by
 simp only[Value.okWide,ht]at h
 obtain⟨cs,h1,h2,_⟩:=h
 exact⟨cs,h1,h2⟩
theorem HN{P:Program}{w:World}{r:Reach}{base:Nat}{t:TypeId}{v:Value}(ht:P.underlying t=some .string)(h:Value.okWide P w r base t v):∃s,v=.string s:=by
 simp only[Value.okWide,ht,Cell.okWide]at h
 cases v<;>simp_all [Cell.ok]
theorem BF{H:Type}{enc:TypeId×Value→H}{P:Program}{w:World}{r:Reach}{b0 base:Nat}{spare:Nat→Bool}{held:Bool}{v:Value}{d:DataW H}{p:List MemPlace}{t:TypeId}(n:Nat)(ty:Ty)(hrep:rep P n t ty=true)(hv:Value.okWide P w r b0 t v)(h:DataW.Trod enc P w base spare held t v d p):
  ∃y:ty.D,Rel1 [] (fun _=>True) w (.d ty y) v∧ty.ok y:=by
 obtain⟨fuel,hf⟩:=h
 have fin:v.cells.toList.length=ty.n→v=mkV ty v.cells.toList→∃y:ty.D,Rel1 [] (fun _=>True) w (.d ty y) v∧ty.ok y:=fun hl hm=>by
  obtain⟨y,h1,h2⟩:=(Ws ty).1 n t hrep fuel _ _ hl hf
  exact⟨y,⟨_,h1,hm⟩,h2⟩
 cases n with
 |zero=>simp[rep]at hrep
 |succ n=>
  have hrep':=hrep
  unfold rep at hrep'
  split at hrep'<;>try (cases hrep';done)
  ·rename_i hu;obtain⟨m,rfl⟩:=okWide_int hu hv;exact fin rfl rfl
  ·rename_i hu;obtain⟨m,rfl⟩:=okWide_bool hu hv;exact fin rfl rfl
  ·rename_i hu;obtain⟨m,rfl⟩:=HN hu hv;exact fin rfl rfl
  ·rename_i hu;obtain⟨q,m,c,rfl⟩:=okWide_slice hu hv;exact fin rfl rfl
  ·rename_i hu
   obtain⟨cs,rfl,hsz⟩:=okWide_struct hu hv
   simp only[Bool.and_eq_true]at hrep'
   exact fin (by simp only[Value.cells,Array.length_toList,hsz];exact Nat.eq_of_beq_eq_true hrep'.2) (by simp[mkV,Ty.isSt,Value.cells])
  ·rename_i hu
   obtain⟨cs,rfl,hsz⟩:=EO hu hv
   simp only[Bool.and_eq_true]at hrep'
   exact fin (by simp only[Value.cells,Array.length_toList,hsz];exact Nat.eq_of_beq_eq_true hrep'.2) (by simp[mkV,Ty.isSt,Value.cells])
end Go.Proofs.YtlahabkjhgkkjaaGreat
namespace Go.Proofs.YtlahabkjhgkkjaaGreat.lawDistanceSegments
open Go.ChangeShapes Go.WideShapes Go.ChangeAt Go.RowKit
set_option maxRecDepth 100000 in
theorem contract(H:Type)(enc:TypeId×Value→H)(W:World)(base:Nat)(args:Array Value)(ds gs:List (DataW H))(before:List MemPlace)
  (hval:∀(j:Nat) t v,Tryz.f7.params[j]?=some t→args[j]?=some v→Value.okWide Tryz.prog W .any base t v)
  (hW:DataW.Whole enc Tryz.prog Tryz.f7.params.toList Rows.distanceSegmentsSpec.vars false W args.toList ds gs before):
  Calls Tryz.prog 7 args W fun e W'=>∃v,e=.returned v∧Rows.distanceSegmentsSpec.post enc Tryz.prog Tryz.f7 false true false false W args v W':=by
 have hW':=hW
 obtain⟨p,q,hA0,hV,rfl,hfz,hnd⟩:=hW
 have hA:DataW.TrodAll enc Tryz.prog W 0 (fun _=>true) true Tryz.f7.params.toList args.toList ds p:=hA0
 rw[Tryz.params7]at hA hval
 obtain⟨v0,vs0,d0,ds0,p0,q0,e0,rfl,rfl,h0,r0⟩:=trodAll_cons hA
 obtain⟨v1,vs1,d1,ds1,p1,q1,e1,rfl,rfl,h1,r1⟩:=trodAll_cons r0
 obtain⟨en,rfl,rfl⟩:=trodAll_nil r1
 obtain rfl:args= #[v0,v1]:=by cases args;simp_all
 obtain⟨rfl,rfl⟩:=trodVars_none hV
 obtain⟨y0,s0,k0⟩:=BF 12 (.st (.pair (.st (.pair (.int .i16) (.pair (.int .i16) (.int .u8)))) (.st (.pair (.int .i16) (.pair (.int .i16) (.int .u8)))))) (by kernel_rfl) (hval 0 72 v0 rfl rfl) h0
 obtain⟨y1,s1,k1⟩:=BF 12 (.st (.pair (.st (.pair (.int .i16) (.pair (.int .i16) (.int .u8)))) (.st (.pair (.int .i16) (.pair (.int .i16) (.int .u8)))))) (by kernel_rfl) (hval 1 72 v1 rfl rfl) h1
 clear hA0
 refine(Yf y0 y1 k0 k1 (fun _=>True) W [v0,v1] SH ⟨s0,s1,trivial⟩).mono ?_
 rintro e W' ⟨v,rfl,hb,hres⟩
 have hv:v=.bool true:=nU (G:=[]) (dm hres)
 subst hv
 exact⟨_,rfl,QV hW' rfl (by kernel_rfl) ⟨rfl,rfl,rfl⟩ (by kernel_rfl) hb⟩
set_option maxRecDepth 100000 in
theorem lifted(os:Os)(started:os.Started)(H:Type)(enc:TypeId×Value→H):
  ReturnsInHanded {} Tryz.checked os 7 .any (Rows.distanceSegmentsSpec.pre6 enc Tryz.prog Tryz.f7 Rows.distanceSegmentsRow.domain false) (Rows.distanceSegmentsSpec.post enc Tryz.prog Tryz.f7 false true false false):=by
 refine returnsInHanded_of_change (C:=Tryz.checked) PF started (by kernel_rfl) Tryz.func7
  (ChangeSpec.witness6 (enc:=enc) (C:=Tryz.checked) false ⟨#[],#[.agg #[.int .i16 0,.int .i16 0,.int .u8 0,.int .i16 0,.int .i16 0,.int .u8 0],.agg #[.int .i16 0,.int .i16 0,.int .u8 0,.int .i16 0,.int .i16 0,.int .u8 0]],[]⟩ 8 (by kernel_rfl) (by kernel_rfl) (by kernel_rfl) (by kernel_rfl)) ?_
 intro W base args ds gs before hval hW _ _
 exact contract H enc W base args ds gs before hval hW
theorem proved:Rows.DistanceSegmentsSaid:=
 OpenClaim.holds_of_wide 7 Tryz.f7 rfl rfl rfl rfl rfl rfl rfl ⟨rfl,rfl,rfl,rfl,rfl⟩ rfl rfl rfl rfl rfl (by kernel_rfl) Tryz.func7 (by kernel_rfl)
  (of_decide_eq_true (by kernel_rfl)) (by unfold Func.isWrapper;first|(rw[if_pos (by decide+kernel)];kernel_rfl)|(rw[if_neg (by decide+kernel)];exact⟨rfl,rfl⟩))
  (fun os started H enc _=>lifted os started H enc)
end Go.Proofs.YtlahabkjhgkkjaaGreat.lawDistanceSegments
