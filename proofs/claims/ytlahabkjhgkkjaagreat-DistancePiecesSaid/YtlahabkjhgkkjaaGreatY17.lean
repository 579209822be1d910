/- Pieces of a curve: the reference's Split. -/
import Derived.Test.YtlahabkjhgkkjaaGreatY16
import Derived.Test.YtlahabkjhgkkjaaGreatY13
noncomputable section
namespace Go.Proofs.YtlahabkjhgkkjaaGreat
open Go.RowKit Go.IntKind
def uw(c:BCU)(x y:BP):BCU:=(c.1,c.2.1,c.2.2.1,c.2.2.2.1,x,y)
def sf(c:BCU):List BP→List BCU
 |[]=>[]
 |x::r=>match r with
  |[]=>[]
  |y::_=>uw c x y::sf c r
def nO(c:BCU)(l:List BP):List BP:=gk (dC c) ([c.2.2.2.2.1,c.2.2.2.2.2]++l)
def fj(c:BCU)(l:List BP):List BCU:=sf c (nO c l)
def ym(c:BCU)(l:List BP):Prop:=okC 3500 c∧l.length≤900000∧∀x∈l,okP 3500 x∧onR (dC c) (dec x)=true
instance (c:BCU) (l:List BP):Decidable (ym c l):=by unfold ym;infer_instance
theorem Zw{c:BCU}{l:List BP}(h:ym c l):uy c ([c.2.2.2.2.1,c.2.2.2.2.2]++l):=by
 obtain⟨h1,h2,h3⟩:=h
 have h4:=dK (k:=4000) h1 (by decide) (by decide)
 refine⟨h4,by simp;omega,fun x hx=>?_⟩
 rcases avI.1 hx with hx|hx
 ·simp only[avz,List.not_mem_nil,or_false]at hx
  rcases hx with rfl|rfl
  ·exact h4.2.2.1
  ·exact h4.2.2.2
 ·exact dk (h3 x hx).1 (by decide) (by decide)
theorem Me(c:BCU)(l:List BP):(nO c l).length≤l.length+2:=by
 have:=uR (dC c) ([c.2.2.2.2.1,c.2.2.2.2.2]++l) []
 unfold nO gk
 simp at this ⊢
 omega
theorem BD{c:BCU}{l:List BP}{x:BP}(h:x∈nO c l):x=c.2.2.2.2.1∨x=c.2.2.2.2.2∨x∈l:=by
 rcases C2 (out:=[]) h with h|h
 ·cases h
 ·rcases avI.1 h with h|h
  ·simp only[avz,List.not_mem_nil,or_false]at h
   rcases h with h|h
   ·exact .inl h
   ·exact .inr (.inl h)
  ·exact .inr (.inr h)
theorem KC{c p:BCU}:∀{s:List BP},p∈sf c s→∃x y,x∈s∧y∈s∧p=uw c x y
 |[],h=>by cases h
 |[_],h=>by cases h
 |x::y::r,h=>by
  simp only[sf]at h
  rcases avz.1 h with h|h
  ·exact⟨x,y,by simp,by simp,h⟩
  ·obtain⟨a,b,h1,h2,h3⟩:=KC (s:=y::r) h
   exact⟨a,b,avo _ h1,avo _ h2,h3⟩
def afp:Env:=[(81,wk),(19,rU),(122,Cc),(17,vV),(96,oK),(95,H5)]
theorem W5:EnvAll Tryz.prog afp:=⟨rh,nz,zj,rM,ld,ET,trivial⟩
def alj:NT:=[((28,6),{keep:=[1,2,6],hl:=1}),((28,31),{keep:=[2,7,8,9],own:=[(8,43,tCU)],hl:=3})]
def zi:Ctx:=CX afp alj
def CI(c:BCU)(l:List BP)(s6:Int):Cfg:=⟨28,[.blk 0,.seq 23],[(1,.d (.sl tP) l),(2,.box 0 0),(6,SI s6)],[.box 43 [SB c.1,SB c.2.1.1.1.1,.d ax7 c.2.1.1.1.2,SB c.2.1.1.2.1,.d ax7 c.2.1.1.2.2,SB c.2.1.2.1.1.1,.d ax7 c.2.1.2.1.1.2,SB c.2.1.2.1.2.1,.d ax7 c.2.1.2.1.2.2,SB c.2.1.2.2.1.1,.d ax7 c.2.1.2.2.1.2,SB c.2.1.2.2.2.1,.d ax7 c.2.1.2.2.2.2,SB c.2.2.1.1.1.1,.d ax7 c.2.2.1.1.1.2,SB c.2.2.1.1.2.1,.d ax7 c.2.2.1.1.2.2,SB c.2.2.1.2.1.1.1,.d ax7 c.2.2.1.2.1.1.2,SB c.2.2.1.2.1.2.1,.d ax7 c.2.2.1.2.1.2.2,SB c.2.2.1.2.2.1.1,.d ax7 c.2.2.1.2.2.1.2,SB c.2.2.1.2.2.2.1,.d ax7 c.2.2.1.2.2.2.2,SB c.2.2.2.1,SB c.2.2.2.2.1.1.1.1,.d ax7 c.2.2.2.2.1.1.1.2,SB c.2.2.2.2.1.1.2.1,.d ax7 c.2.2.2.2.1.1.2.2,SB c.2.2.2.2.1.2.1.1.1,.d ax7 c.2.2.2.2.1.2.1.1.2,SB c.2.2.2.2.1.2.1.2.1,.d ax7 c.2.2.2.2.1.2.1.2.2,SB c.2.2.2.2.1.2.2.1.1.1,.d ax7 c.2.2.2.2.1.2.2.1.1.2,SB c.2.2.2.2.1.2.2.1.2.1,.d ax7 c.2.2.2.2.1.2.2.1.2.2,SB c.2.2.2.2.1.2.2.2.1.1.1,.d ax7 c.2.2.2.2.1.2.2.2.1.1.2,SB c.2.2.2.2.1.2.2.2.1.2.1,.d ax7 c.2.2.2.2.1.2.2.2.1.2.2,SB c.2.2.2.2.1.2.2.2.2.1.1,.d ax7 c.2.2.2.2.1.2.2.2.2.1.2,SB c.2.2.2.2.1.2.2.2.2.2.1,.d ax7 c.2.2.2.2.1.2.2.2.2.2.2,SB c.2.2.2.2.2.1.1.1,.d ax7 c.2.2.2.2.2.1.1.2,SB c.2.2.2.2.2.1.2.1,.d ax7 c.2.2.2.2.2.1.2.2,SB c.2.2.2.2.2.2.1.1.1,.d ax7 c.2.2.2.2.2.2.1.1.2,SB c.2.2.2.2.2.2.1.2.1,.d ax7 c.2.2.2.2.2.2.1.2.2,SB c.2.2.2.2.2.2.2.1.1.1,.d ax7 c.2.2.2.2.2.2.2.1.1.2,SB c.2.2.2.2.2.2.2.1.2.1,.d ax7 c.2.2.2.2.2.2.2.1.2.2,SB c.2.2.2.2.2.2.2.2.1.1.1,.d ax7 c.2.2.2.2.2.2.2.2.1.1.2,SB c.2.2.2.2.2.2.2.2.1.2.1,.d ax7 c.2.2.2.2.2.2.2.2.1.2.2,SB c.2.2.2.2.2.2.2.2.2.1.1,.d ax7 c.2.2.2.2.2.2.2.2.2.1.2,SB c.2.2.2.2.2.2.2.2.2.2.1,.d ax7 c.2.2.2.2.2.2.2.2.2.2.2]],0,[]⟩
def uL(c:BCU)(l:List BP)(s9:Int)(r2:List BCU):Cfg:=⟨28,[.blk 2,.seq 46],[(2,.box 0 0),(7,.d (.sl tP) (gk (dC c) (([c.2.2.2.2.1,c.2.2.2.2.2])++l))),(8,.own 2),(9,SI s9)],[.box 43 [SB c.1,SB c.2.1.1.1.1,.d ax7 c.2.1.1.1.2,SB c.2.1.1.2.1,.d ax7 c.2.1.1.2.2,SB c.2.1.2.1.1.1,.d ax7 c.2.1.2.1.1.2,SB c.2.1.2.1.2.1,.d ax7 c.2.1.2.1.2.2,SB c.2.1.2.2.1.1,.d ax7 c.2.1.2.2.1.2,SB c.2.1.2.2.2.1,.d ax7 c.2.1.2.2.2.2,SB c.2.2.1.1.1.1,.d ax7 c.2.2.1.1.1.2,SB c.2.2.1.1.2.1,.d ax7 c.2.2.1.1.2.2,SB c.2.2.1.2.1.1.1,.d ax7 c.2.2.1.2.1.1.2,SB c.2.2.1.2.1.2.1,.d ax7 c.2.2.1.2.1.2.2,SB c.2.2.1.2.2.1.1,.d ax7 c.2.2.1.2.2.1.2,SB c.2.2.1.2.2.2.1,.d ax7 c.2.2.1.2.2.2.2,SB c.2.2.2.1,SB c.2.2.2.2.1.1.1.1,.d ax7 c.2.2.2.2.1.1.1.2,SB c.2.2.2.2.1.1.2.1,.d ax7 c.2.2.2.2.1.1.2.2,SB c.2.2.2.2.1.2.1.1.1,.d ax7 c.2.2.2.2.1.2.1.1.2,SB c.2.2.2.2.1.2.1.2.1,.d ax7 c.2.2.2.2.1.2.1.2.2,SB c.2.2.2.2.1.2.2.1.1.1,.d ax7 c.2.2.2.2.1.2.2.1.1.2,SB c.2.2.2.2.1.2.2.1.2.1,.d ax7 c.2.2.2.2.1.2.2.1.2.2,SB c.2.2.2.2.1.2.2.2.1.1.1,.d ax7 c.2.2.2.2.1.2.2.2.1.1.2,SB c.2.2.2.2.1.2.2.2.1.2.1,.d ax7 c.2.2.2.2.1.2.2.2.1.2.2,SB c.2.2.2.2.1.2.2.2.2.1.1,.d ax7 c.2.2.2.2.1.2.2.2.2.1.2,SB c.2.2.2.2.1.2.2.2.2.2.1,.d ax7 c.2.2.2.2.1.2.2.2.2.2.2,SB c.2.2.2.2.2.1.1.1,.d ax7 c.2.2.2.2.2.1.1.2,SB c.2.2.2.2.2.1.2.1,.d ax7 c.2.2.2.2.2.1.2.2,SB c.2.2.2.2.2.2.1.1.1,.d ax7 c.2.2.2.2.2.2.1.1.2,SB c.2.2.2.2.2.2.1.2.1,.d ax7 c.2.2.2.2.2.2.1.2.2,SB c.2.2.2.2.2.2.2.1.1.1,.d ax7 c.2.2.2.2.2.2.2.1.1.2,SB c.2.2.2.2.2.2.2.1.2.1,.d ax7 c.2.2.2.2.2.2.2.1.2.2,SB c.2.2.2.2.2.2.2.2.1.1.1,.d ax7 c.2.2.2.2.2.2.2.2.1.1.2,SB c.2.2.2.2.2.2.2.2.1.2.1,.d ax7 c.2.2.2.2.2.2.2.2.1.2.2,SB c.2.2.2.2.2.2.2.2.2.1.1,.d ax7 c.2.2.2.2.2.2.2.2.2.1.2,SB c.2.2.2.2.2.2.2.2.2.2.1,.d ax7 c.2.2.2.2.2.2.2.2.2.2.2],.gone,.row 43 tCU r2],0,[]⟩
def ar1(c:BCU)(l:List BP)(k:KT):Option (List RV):=k 6 (CI c l 0)
theorem apK(c:BCU)(l:List BP):RS zi 28 [.d tCU c,.d (.sl tP) l] (ar1 c l):=rsX
def vt(c:BCU)(l:List BP)(s6:Int)(k:KT):Option (List RV):=match decide (s6<(l.length:Int))with|true=>(match bG l s6 with|some x1=>(match decide (okC 3500 c∧okP 3500 x1)with|true=>(match !(onR (dC c) (dec x1))with|true=>some [RV.d (.sl tCU) ([]),RV.d ax8 1]|false=>k 6 (CI c l (i64.wrap (s6+1))))|false=>none)|none=>none)|false=>(match decide ((([c.2.2.2.2.1,c.2.2.2.2.2]).length+l.length)*320≤140737488355328∧([c.2.2.2.2.1,c.2.2.2.2.2]).length+l.length≤140737488355328)with|true=>(match decide (uy c (([c.2.2.2.2.1,c.2.2.2.2.2])++l))with|true=>k 31 (uL c l 1 ([]))|false=>none)|false=>none)
theorem FI(c:BCU)(l:List BP)(s6:Int):RN zi 6 (CI c l s6) (vt c l s6):=rnX
def tZ(c:BCU)(l:List BP)(s9:Int)(r2:List BCU)(k:KT):Option (List RV):=match decide (s9<((gk (dC c) (([c.2.2.2.2.1,c.2.2.2.2.2])++l)).length:Int))with|true=>(match bG (gk (dC c) (([c.2.2.2.2.1,c.2.2.2.2.2])++l)) (i64.wrap (s9-1))with|some x1=>(match bG (gk (dC c) (([c.2.2.2.2.1,c.2.2.2.2.2])++l)) s9 with|some x2=>dup (.b .l .l) (match decide ((r2.length+([(c.1,(c.2.1,(c.2.2.1,(c.2.2.2.1,(x1,x2)))))]).length)*1040≤140737488355328∧r2.length+([(c.1,(c.2.1,(c.2.2.1,(c.2.2.2.1,(x1,x2)))))]).length≤140737488355328)with|true=>k 31 (uL c l (i64.wrap (s9+1)) (r2++([(c.1,(c.2.1,(c.2.2.1,(c.2.2.2.1,(x1,x2)))))])))|false=>none)|none=>none)|none=>none)|false=>some [RV.d (.sl tCU) r2,RV.d ax8 0]
theorem zD(c:BCU)(l:List BP)(s9:Int)(r2:List BCU):RN zi 31 (uL c l s9 r2) (tZ c l s9 r2):=rnX
theorem akf(c:BCU)(l:List BP)(hle:l.length≤900000)(S:List BP)(hS:S=nO c l):∀(j i:Nat),1≤i→i+j=max S.length 1→∀out:List BCU,out.length≤i→zi.Runs 31 (uL c l (i:Int) out) [.d (.sl tCU) (out++sf c (S.drop (i-1))),.d ax8 (0:Int)]:=by
 have hSl:=Me c l
 rw[←hS]at hSl
 have eS:gk (dC c) ([c.2.2.2.2.1,c.2.2.2.2.2]++l)=S:=hS.symm
 intro j
 induction j with
 |zero=>
  intro i h1 hi out hlen
  refine zD _ _ _ _ ⟨0,?_⟩
  unfold tZ
  rw[eS,cC (by omega)]
  have:sf c (S.drop (i-1))=[]:=by
   have hl:(S.drop (i-1)).length≤1:=by rw[axh];omega
   match S.drop (i-1),hl with
   |[],_=>rfl
   |[_],_=>rfl
   |_::_::_,h=>simp at h
  rw[this,avR]
 |succ j ih=>
  intro i h1 hi out hlen
  have hil:i<S.length:=by omega
  have e1:i64.wrap ((i:Int)-1)=((i-1:Nat):Int):=by rw[bi (by omega) (by omega)];omega
  have e2:i64.wrap ((i:Int)+1)=((i+1:Nat):Int):=cD (by omega)
  have g1:bG S ((i-1:Nat):Int)=some S[i-1]:=by rw[aD,au2 (by omega)]
  have g2:bG S (i:Int)=some S[i]:=by rw[aD,au2 hil]
  obtain⟨n,hn⟩:=ih (i+1) (by omega) (by omega) (out++[uw c S[i-1] S[i]]) (by simp;omega)
  refine zD _ _ _ _ ⟨n,?_⟩
  unfold tZ
  rw[eS]
  simp only[aP,bS hil,e1,e2,g1,g2]
  rw[dT (by simp;omega)]
  dsimp only
  have hd:S.drop (i-1)=S[i-1]::S.drop i:=by
   have:=avk (l:=S) (i:=i-1) (by omega)
   rw[this,show i-1+1=i by omega]
  have hd2:S.drop i=S[i]::S.drop (i+1):=avk hil
  rw[hd,hd2]
  rw[show i+1-1=i by omega,hd2,awd]at hn
  exact hn
theorem ajS(c:BCU)(l:List BP)(h:ym c l):∀(j i:Nat),i+j=l.length→zi.Runs 6 (CI c l (i:Int)) [.d (.sl tCU) (fj c l),.d ax8 (0:Int)]:=by
 have hs:=Zw h
 obtain⟨hc,hle,hl⟩:=h
 intro j
 induction j with
 |zero=>
  intro i hi
  obtain⟨n,hn⟩:=akf c l hle (nO c l) rfl (max (nO c l).length 1-1) 1 (avb _) (by omega) [] (by simp)
  refine FI _ _ _ ⟨n,?_⟩
  unfold vt
  rw[cC (by omega),dT (by simp;omega),dT hs]
  exact hn
 |succ j ih=>
  intro i hi
  have hil:i<l.length:=by omega
  obtain⟨n,hn⟩:=ih (i+1) (by omega)
  have h1:=hl _ (avF hil)
  refine FI _ _ _ ⟨n,?_⟩
  unfold vt
  rw[bS hil,aD,au2 hil,cD (by omega)]
  dsimp only
  rw[dT (show okC 3500 c∧okP 3500 l[i] from⟨hc,h1.1⟩),h1.2]
  exact hn
theorem adj(c:BCU)(l:List BP)(h:ym c l):Con Tryz.prog 28 [.d tCU c,.d (.sl tP) l] [.d (.sl tCU) (fj c l),.d ax8 0]:=by
 refine aR W5 (show zi.Res _ _ _ from ?_)
 obtain⟨n,hn⟩:=ajS c l h l.length 0 (by omega)
 exact apK _ _ ⟨n,hn⟩
def A5:aO:=spN false false [tCU,(.sl tP)] (fun x=>decide (ym x.1 x.2.1)) (fun x=>[RV.d (.sl tCU) (fj x.1 x.2.1),RV.d ax8 0])
theorem wG:SpK 28 A5:=spX fun x h=>adj x.1 x.2.1 (au0 h)
def uv(n d:Int):Prop:=bg n∧bg d∧0<d
instance (n d:Int):Decidable (uv n d):=by unfold uv;infer_instance
def cE(s:Int×Int×Int):Rat×Rat:=(Rat.divInt s.1 (s.2.2+1),Rat.divInt s.2.1 (s.2.2+1))
def gJ(s:Int×Int×Int):Prop:= -32768≤s.1∧s.1≤32767∧ -32768≤s.2.1∧s.2.1≤32767∧0≤s.2.2∧s.2.2≤255
instance (s:Int×Int×Int):Decidable (gJ s):=by unfold gJ;infer_instance
def Lt:aO:=spN false true [ax8] (fun x=>decide (bg x.1)) (fun x=>[RV.d tI (hid (aj x.1))])
theorem MK:SpK 134 Lt:=spX fun x h=>by simp only[ak];exact F9 x.1 (au0 h)
def Xq:aO:=spN false true [tI,tI] (fun x=>decide (gM x.1 x.2.1)) (fun x=>[RV.d tR (hid (eD x.1 x.2.1))])
theorem XA:SpK 135 Xq:=spX fun x h=>by simp only[ak];exact LG x.1 x.2.1 (au0 h)
def Je:Env:=[(134,Lt),(135,Xq)]
theorem yN:EnvAll Tryz.prog Je:=⟨MK,XA,trivial⟩
def akN:Ctx:=CX Je []
def UY(n d:Int)(_k:KT):Option (List RV):=match d==0 with|true=>(match decide (bg (0:Int))with|true=>(match decide (bg (1:Int))with|true=>(match decide (gM (hid (aj (0:Int))) (hid (aj (1:Int))))with|true=>some [RV.d tR (hid (eD (hid (aj (0:Int))) (hid (aj (1:Int)))))]|false=>none)|false=>none)|false=>none)|false=>(match decide (bg n)with|true=>(match decide (bg d)with|true=>(match decide (gM (hid (aj n)) (hid (aj d)))with|true=>some [RV.d tR (hid (eD (hid (aj n)) (hid (aj d))))]|false=>none)|false=>none)|false=>none)
theorem ais(n d:Int):RS akN 52 [SI n,SI d] (UY n d):=rsX
theorem Y1(n d:Int)(h:uv n d):Con Tryz.prog 52 [.d ax8 n,.d ax8 d] [.d tR (ai (Rat.divInt n d))]:=by
 refine aR yN (ais _ _ ⟨0,?_⟩)
 obtain⟨hn,hd,h0⟩:=h
 have hne:(d==0)=false:=by simp;omega
 unfold UY
 rw[hne,dT hn,dT hd]
 simp only[ak]
 rw[dT (show gM (aj n) (aj d) from⟨bk (by have:=iO hn;omega),bk (by have:=iO hd;omega),by rw[dec_enc];omega⟩)]
 unfold eD
 rw[dec_enc,dec_enc]
def uN:aO:=spN false true [ax8,ax8] (fun x=>decide (uv x.1 x.2.1)) (fun x=>[RV.d tR (hid (ai (Rat.divInt x.1 x.2.1)))])
theorem uh:SpK 52 uN:=spX fun x h=>by simp only[ak];exact Y1 x.1 x.2.1 (au0 h)
def Zt:Env:=(52,uN)::Je
theorem Nr:EnvAll Tryz.prog Zt:=⟨uh,yN⟩
def ajs:Ctx:=CX Zt []
def YF(s:Int×Int×Int)(_k:KT):Option (List RV):=match decide (uv (i64.wrap s.1) (i64.wrap ((i64.wrap s.2.2)+1)))with|true=>(match decide (uv (i64.wrap s.2.1) (i64.wrap ((i64.wrap s.2.2)+1)))with|true=>some [RV.d tV (hid (ai (Rat.divInt (i64.wrap s.1) (i64.wrap ((i64.wrap s.2.2)+1)))),hid (ai (Rat.divInt (i64.wrap s.2.1) (i64.wrap ((i64.wrap s.2.2)+1)))))]|false=>none)|false=>none
theorem akW(s:Int×Int×Int):RS ajs 13 [.d y3Y s] (YF s):=rsX
theorem nG(s:Int×Int×Int)(h:gJ s):Con Tryz.prog 13 [.d y3Y s] [.d tV (enc (cE s))]:=by
 refine aR Nr (akW _ ⟨0,?_⟩)
 obtain⟨h1,h2,h3,h4,h5,h6⟩:=h
 have e1:i64.wrap s.1=s.1:=bi (by omega) (by omega)
 have e2:i64.wrap s.2.1=s.2.1:=bi (by omega) (by omega)
 have e3:i64.wrap s.2.2=s.2.2:=bi (by omega) (by omega)
 have e4:i64.wrap (s.2.2+1)=s.2.2+1:=bi (by omega) (by omega)
 unfold YF
 rw[e1,e2,e3,e4,dT (show uv s.1 (s.2.2+1) from⟨⟨by omega,by omega⟩,⟨by omega,by omega⟩,by omega⟩),dT (show uv s.2.1 (s.2.2+1) from⟨⟨by omega,by omega⟩,⟨by omega,by omega⟩,by omega⟩)]
 simp only[ak]
 rfl
theorem C5{n d:Int}(h1:bg n)(h2:bg d)(h0:0<d):Bd (Rat.divInt n d) 3:=by
 obtain⟨k,rfl⟩:=awj (show 0≤d by omega)
 exact⟨tX (by omega) (iO h1) (iO h2)⟩
theorem CU{s:Int×Int×Int}(h:gJ s):Bd (cE s) 6:=by
 obtain⟨h1,h2,h3,h4,h5,h6⟩:=h
 have b1:=C5 (n:=s.1) (d:=s.2.2+1) ⟨by omega,by omega⟩ ⟨by omega,by omega⟩ (by omega)
 have b2:=C5 (n:=s.2.1) (d:=s.2.2+1) ⟨by omega,by omega⟩ ⟨by omega,by omega⟩ (by omega)
 exact(inferInstance:Bd (Rat.divInt s.1 (s.2.2+1),Rat.divInt s.2.1 (s.2.2+1)) _).mono (by decide)
section
theorem Con.new_d{P:Program}{f:Nat}{args:List SV}{et:TypeId}{e:Ty}{xs:List e.D}(h:Con P f args [.new et e xs]):Con P f args [.d (.sl e) xs]:=by
 intro A w vs hI ha
 refine(h A w vs hI ha).mono ?_
 rintro en w' ⟨v,rfl,hb,css,ho,ha2,hn⟩
 refine⟨v,rfl,hb,?_⟩
 obtain⟨hlen,p,c,hv,h1,h2,h3⟩:=Rd.of_own hn ho
 subst hv
 refine⟨[.slice p xs.length c],⟨p,xs.length,c,css,rfl,rfl,h1,h2,ce (fun _ _ h=>Ty.rd_keep ⟨avb _,fun b _ hb=>hb.1,fun _ _ _=>rfl⟩ h) ha2,fun h0=>?_⟩,rfl⟩
 obtain⟨b,off,rfl,h5,h6⟩:=h3 h0
 refine⟨b,off,rfl,.inr ?_,h5,h6⟩
 rcases ho.2 with⟨h7,_⟩|⟨g,cap,cur,h7,h8,_⟩
 ·cases h7
 ·injection h7 with h7
  injection h7 with h7
  injection h7 with h7
  subst h7
  exact h8
class Bb (q:Rat) (n d:outParam Nat):Prop where
 nu:q.num.natAbs≤2^n
 de:q.den≤2^d
theorem DW{n:Int}{d a b:Nat}(hd:d≠0)(h1:n.natAbs≤2^a)(h2:d≤2^b):(mkRat n d).num.natAbs≤2^a∧(mkRat n d).den≤2^b:=by
 rw[axR,axS,avn hd,avn hd]
 constructor
 ·refine avm ?_ h1
  refine(KU n (d.gcd n.natAbs)).resolve_right (fun h=>h ?_)
  exact Int.ofNat_dvd_left.2 (Nat.gcd_dvd_right d n.natAbs)
 ·exact avm (Nat.div_le_self _ _) h2
theorem vL{a b m n:Nat}(h:a≤2^m)(h':b≤2^n):a*b≤2^(m+n):=by
 rw[Nat.pow_add]
 exact aw5 h h'
theorem ar2{x y m n:Nat}(h:x≤2^m)(h':y≤2^n):x+y≤2^(mx m n+1):=by
 have h1:=avm h (Nat.pow_le_pow_right (by decide) (Ct m n))
 have h2:=avm h' (Nat.pow_le_pow_right (by decide) (A9 m n))
 rw[Nat.pow_succ]
 omega
section
variable {a b:Rat} {m n d e:Nat}
instance atZ [h:Bb a m d] [h':Bb b n e]:Bb (a+b) (mx (m+e) (n+d)+1) (d+e):=by
 have d1:=a.den_pos
 have d2:=b.den_pos
 have:=DW (n:=a.num*(b.den:Int)+b.num*(a.den:Int)) (d:=a.den*b.den) (a:=mx (m+e) (n+d)+1) (b:=d+e) (axw (by omega) (by omega)) (by
  refine avm (Int.natAbs_add_le _ _) ?_
  rw[axG,axG,awp,awp]
  exact ar2 (vL h.nu h'.de) (vL h'.nu h.de)) (vL h.de h'.de)
 rw[←Rat.add_def']at this
 exact⟨this.1,this.2⟩
instance auj [h:Bb a m d]:Bb (-a) m d:=⟨by rw[Rat.neg_num,Int.natAbs_neg];exact h.nu,h.de⟩
instance aur [h:Bb a m d] [h':Bb b n e]:Bb (a-b) (mx (m+e) (n+d)+1) (d+e):=by
 rw[axp]
 infer_instance
instance aue [h:Bb a m d] [h':Bb b n e]:Bb (a*b) (m+n) (d+e):=by
 have d1:=a.den_pos
 have d2:=b.den_pos
 have:=DW (n:=a.num*b.num) (d:=a.den*b.den) (a:=m+n) (b:=d+e) (axw (by omega) (by omega)) (by
  rw[axG]
  exact vL h.nu h'.nu) (vL h.de h'.de)
 rw[←Rat.mul_def']at this
 exact⟨this.1,this.2⟩
theorem aiy [h:Bb a m d]:Bb a⁻¹ d m:=by
 by_cases h0:a=0
 ·subst h0
  rw[Rat.inv_zero]
  exact⟨axU _,Nat.one_le_two_pow⟩
 ·have hn:a.num≠0:=fun e=>h0 (Rat.num_eq_zero.1 e)
  have h1:=h.nu
  have h2:=h.de
  rw[Rat.inv_def]
  rcases awP hn with h3|h3
  ·rw[←Rat.neg_divInt_neg,show-a.num=(((-a.num).toNat:Nat):Int) by omega,axj]
   have:=DW (n:= -(a.den:Int)) (d:=(-a.num).toNat) (a:=d) (b:=m) (by omega) (by rw[Int.natAbs_neg];exact h2) (by omega)
   exact⟨this.1,this.2⟩
  ·rw[show a.num=((a.num.toNat:Nat):Int) by omega,axj]
   have:=DW (n:=(a.den:Int)) (d:=a.num.toNat) (a:=d) (b:=m) (by omega) h2 (by omega)
   exact⟨this.1,this.2⟩
instance at9 [h:Bb a m d] [h':Bb b n e]:Bb (a/b) (m+e) (d+n):=by
 rw[axJ]
 have:=aiy (h:=h')
 infer_instance
theorem af6:∀k:Nat,((2^(29*k):Nat):Int)≤pw k
 |0=>by decide
 |k+1=>by
  have ih:=af6 k
  have e:2^(29*(k+1))=2^(29*k)*536870912:=by
   rw[Nat.mul_add,Nat.pow_add]
  rw[e,cr,aws]
  have:(0:Int)≤pw k:=Int.le_trans (Int.natCast_nonneg _) ih
  omega
theorem agI{z:Int}{n:Nat}(h:z.natAbs≤2^n):szI z≤n/29+1:=by
 have h1:=af6 (n/29+1)
 have h2:2^n<2^(29*(n/29+1)):=Nat.pow_lt_pow_right (by decide) (by omega)
 exact eL (by omega) (by omega)
theorem F5 [h:Bb a m d]{k:Nat}(hm:m/29+1≤k)(hd:d/29+1≤k):Bd a k:=⟨⟨avm (agI h.nu) hm,avm (agI (z:=(a.den:Int)) h.de) hd⟩⟩
end
theorem aci{n d:Int}{a b:Nat}(h0:0<d)(h1:n.natAbs≤2^a)(h2:d.natAbs≤2^b):Bb (Rat.divInt n d) a b:=by
 obtain⟨k,rfl⟩:=awj (show 0≤d by omega)
 rw[axj]
 have:=DW (n:=n) (d:=k) (by omega) h1 h2
 exact⟨this.1,this.2⟩
def dA(x:BO3):Prop:=ok Rat 12 x.1∧ok Rat 12 x.2.1∧ok Rat 63 x.2.2∧((dec x:Ln).1≠0∨(dec x:Ln).2.1≠0)
instance (x:BO3):Decidable (dA x):=by unfold dA;infer_instance
def dp(x:BO3):Prop:=ok Rat 4 x.1∧ok Rat 4 x.2.1∧ok Rat 13 x.2.2∧(0:Rat)<(dec x:Ln).2.2
instance (x:BO3):Decidable (dp x):=by unfold dp;infer_instance
class BdL (l:Ln):Prop where
 a:Bd l.1 12
 b:Bd l.2.1 12
 c:Bd l.2.2 63
class BdC (c:Ln):Prop where
 x:Bd c.1 4
 y:Bd c.2.1 4
 q:Bd c.2.2 13
theorem gE{x:BO3}(h:dA x):∃l:Ln,x=enc l∧BdL l∧(l.1≠0∨l.2.1≠0):=by
 obtain⟨h1,h2,h3,h4⟩:=h
 obtain⟨x1,x2,x3⟩:=x
 obtain⟨a,rfl,ba⟩:=aU h1
 obtain⟨b,rfl,bb⟩:=aU h2
 obtain⟨c,rfl,bc⟩:=aU h3
 have e:((enc a,enc b,enc c):BO3)=enc ((a,b,c):Ln):=rfl
 rw[e,am]at h4
 exact⟨(a,b,c),rfl,⟨ba,bb,bc⟩,h4⟩
theorem fT{x:BO3}(h:dp x):∃c:Ln,x=enc c∧BdC c∧0<c.2.2:=by
 obtain⟨h1,h2,h3,h4⟩:=h
 obtain⟨x1,x2,x3⟩:=x
 obtain⟨a,rfl,ba⟩:=aU h1
 obtain⟨b,rfl,bb⟩:=aU h2
 obtain⟨c,rfl,bc⟩:=aU h3
 have e:((enc a,enc b,enc c):BO3)=enc ((a,b,c):Ln):=rfl
 rw[e,am]at h4
 exact⟨(a,b,c),rfl,⟨ba,bb,bc⟩,h4⟩
theorem tt{l:Ln}[h:BdL l](h0:l.1≠0∨l.2.1≠0):dA (enc l):=by
 have a:=h.a
 have b:=h.b
 have c:=h.c
 exact⟨au0 (okd (avb _) (by decide)),au0 (okd (avb _) (by decide)),au0 (okd (avb _) (by decide)),by rw[am];exact h0⟩
theorem nf{c:Ln}[h:BdC c](h0:0<c.2.2):dp (enc c):=by
 have a:=h.x
 have b:=h.y
 have c:=h.q
 exact⟨au0 (okd (avb _) (by decide)),au0 (okd (avb _) (by decide)),au0 (okd (avb _) (by decide)),by rw[am];exact h0⟩
section
variable {l c:Ln}
instance auU [h:BdL l]:Bd l.1 12:=h.a
instance auT [h:BdL l]:Bd l.2.1 12:=h.b
instance auX [h:BdL l]:Bd l.2.2 63:=h.c
instance auV [h:BdC c]:Bd c.1 4:=h.x
instance auW [h:BdC c]:Bd c.2.1 4:=h.y
instance auY [h:BdC c]:Bd c.2.2 13:=h.q
theorem XL [h:BdC c]:Bd c 13:=⟨⟨Cod.mono _ _ _ (by decide) h.x.le,Cod.mono _ _ _ (by decide) h.y.le,h.q.le⟩⟩
end
def pg(l m:Ln):Rat:=l.1*m.2.1-m.1*l.2.1
def HS(l m:Ln):Rat:=l.2.2*m.2.1-m.2.2*l.2.1
def HK(l m:Ln):Rat:=l.1*m.2.2-m.1*l.2.2
def Bz(l m:Ln):List Pt:=bif !decide (pg l m=0)then [atP (HS l m/pg l m,HK l m/pg l m)]else []
def Ol(l m:Ln):Int:=bif !decide (pg l m=0)then 0 else bif decide (HS l m=0)&&decide (HK l m=0)then 10 else 0
def eu(l:Ln):Rat:=l.1*l.1+l.2.1*l.2.1
def vlL(l:Ln)(x y:Rat):Rat:=l.1*x+l.2.1*y-l.2.2
def lW(l c:Ln):Rat:=eu l*c.2.2-vlL l c.1 c.2.1*vlL l c.1 c.2.1
def lC(ax bx ay b_ c:Rat):Pt:=bif eZ c then atP (ax+bx*rtQ c,ay+b_*rtQ c)else(ax,bx,ay,b_,c)
def ftX(l c:Ln):Rat:=c.1-vlL l c.1 c.2.1/eu l*l.1
def ftY(l c:Ln):Rat:=c.2.1-vlL l c.1 c.2.1/eu l*l.2.1
def yB(l c:Ln):Pt:=lC (ftX l c) (-(l.2.1/eu l)) (ftY l c) (-(-l.1/eu l)) (lW l c)
def yC(l c:Ln):Pt:=lC (ftX l c) (l.2.1/eu l) (ftY l c) (-l.1/eu l) (lW l c)
def qn(l c:Ln):List Pt:=bif decide (lW l c<0)then []else bif decide (lW l c=0)then [atP (ftX l c,ftY l c)]
 else bif decide (b9 (yB l c) (yC l c)>0)then [yC l c,yB l c]else [yB l c,yC l c]
def qb(c d:Ln):Bool:=decide (c.1=d.1)&&decide (c.2.1=d.2.1)
def Od(c:Ln):Rat:=c.1*c.1+c.2.1*c.2.1-c.2.2
def yx(c d:Ln):Ln:=(2*(d.1-c.1),2*(d.2.1-c.2.1),Od d-Od c)
def AQ(c d:Ln):List Pt:=bif qb c d then []else qn (yx c d) c
def Tp(c d:Ln):Int:=bif qb c d then(bif decide (c.2.2=d.2.2)then 10 else 0)else 0
def Hi(c d:Ln):BO3:=bif qb c d then o00 else enc (yx c d)
def ail(c d:Ln):Int:=bif qb c d then 6 else 0
def Wz(l m:Ln):Bool:=decide (l.1*m.2.1=l.2.1*m.1)&&(decide (l.1*m.2.2=l.2.2*m.1)&&decide (l.2.1*m.2.2=l.2.2*m.2.1))
def XB(c d:Ln):Bool:=decide (c.1=d.1)&&(decide (c.2.1=d.2.1)&&decide (c.2.2=d.2.2))
def lQ(a b:Cv):Bool:=bif a.1==b.1 then(bif a.1 then XB (ciC a) (ciC b)else Wz (lnC a) (lnC b))else false
def PS(a:BCU):Prop:=(a.1=true→dp a.2.2.1)∧(a.1=false→dA a.2.1)
instance (a:BCU):Decidable (PS a):=by unfold PS;infer_instance
def xf(a b:BCU):Prop:=PS a∧PS b
instance (a b:BCU):Decidable (xf a b):=by unfold xf;infer_instance
def tj(a b:Cv):List Pt:=bif a.1&&b.1 then AQ (ciC a) (ciC b)else bif a.1 then qn (lnC b) (ciC a)else bif b.1 then qn (lnC a) (ciC b)else Bz (lnC a) (lnC b)
def PR(a b:Cv):Int:=bif a.1&&b.1 then Tp (ciC a) (ciC b)else bif a.1 then 0 else bif b.1 then 0 else Ol (lnC a) (lnC b)
def pi(c:Ln):Pt:=lC c.1 (-1) c.2.1 0 c.2.2
def pc(c:Ln):Pt:=lC c.1 1 c.2.1 0 c.2.2
theorem Bj{ax bx ay b_ c:Rat}(h0:¬(bx=0∧b_=0))(hc:0≤c):Rpd (lC ax bx ay b_ c):=by
 refine⟨?_⟩
 unfold lC
 cases hq:eZ c
 ·exact .inr ⟨h0,Mc hc hq,hq⟩
 ·exact .inl ⟨rfl,rfl,rfl⟩
theorem BH{ax bx ay b_ c:Rat}{j k m:Nat}(h1:Bd ax j)(h2:Bd bx k)(h3:Bd ay j)(h4:Bd b_ k)(h5:Bd c m){n:Nat}(hn:j+(k+m)+1≤n):Bd (lC ax bx ay b_ c) n:=by
 have z:bdR n 0:=bW n4.le (by omega)
 have i1:Bd (ax+bx*rtQ c) _:=inferInstance
 have i2:Bd (ay+b_*rtQ c) _:=inferInstance
 refine⟨?_⟩
 unfold lC
 cases eZ c
 ·exact⟨bW h1.le (by omega),bW h2.le (by omega),bW h3.le (by omega),bW h4.le (by omega),bW h5.le (by omega)⟩
 ·exact⟨bW i1.le (by omega),z,bW i2.le (by omega),z,z⟩
section
variable {l m c d:Ln}
theorem QG(h:l.1≠0∨l.2.1≠0):eu l≠0:=jX h
instance aun [BdL l] [h:BdC c]:Bd (lW l c) 257:=by
 have hx:=h.x
 have hy:=h.y
 have hq:=h.q
 have i1:Bd (eu l) 49:=inferInstanceAs (Bd (l.1*l.1+l.2.1*l.2.1) _)
 have i2:Bd (vlL l c.1 c.2.1) 97:=inferInstanceAs (Bd (l.1*c.1+l.2.1*c.2.1-l.2.2) _)
 exact(inferInstance:Bd (eu l*c.2.2-vlL l c.1 c.2.1*vlL l c.1 c.2.1) _).mono (by decide)
theorem Ik [BdL l][h:BdC c]:Bd (ftX l c) 163∧Bd (ftY l c) 163∧Bd (l.2.1/eu l) 61∧Bd (l.1/eu l) 61:=by
 have hx:=h.x
 have hy:=h.y
 have i1:Bd (eu l) 49:=inferInstanceAs (Bd (l.1*l.1+l.2.1*l.2.1) _)
 have i2:Bd (vlL l c.1 c.2.1) 97:=inferInstanceAs (Bd (l.1*c.1+l.2.1*c.2.1-l.2.2) _)
 have i3:Bd (c.1-vlL l c.1 c.2.1/eu l*l.1) _:=inferInstance
 have i4:Bd (c.2.1-vlL l c.1 c.2.1/eu l*l.2.1) _:=inferInstance
 have i5:Bd (l.2.1/eu l) _:=inferInstance
 have i6:Bd (l.1/eu l) _:=inferInstance
 exact⟨i3.mono (by decide),i4.mono (by decide),i5.mono (by decide),i6.mono (by decide)⟩
end
end
section
theorem acu(a b:Rat):((ai a,ai b):BV)=enc ((a,b):Rat×Rat):=nr rfl
theorem OQ{q:Rat}(h:¬q<0)(h':¬q=0):0<q:=by grind
theorem rdl{l:Ln}(h:eu l≠0)(hl:l.1≠0∨l.2.1≠0):¬(l.2.1/eu l=0∧ -l.1/eu l=0):=by
 intro ⟨h1,h2⟩
 have m:∀a:Rat,a/eu l=0→a=0:=fun a e=>by
  have:a/eu l*eu l=a:=awq h
  rw[e,Rat.zero_mul]at this
  exact this.symm
 have:=m _ h1
 have:=m _ h2
 rcases hl with h|h<;>grind
section
variable {l c:Ln}
theorem Ue(hl:l.1≠0∨l.2.1≠0)(h0:0≤lW l c):Rpd (yB l c)∧Rpd (yC l c):=by
 have hn:=QG hl
 refine⟨Bj (fun h=>rdl hn hl ⟨by grind,by grind⟩) h0,Bj (rdl hn hl) h0⟩
theorem RZ [BdL l][BdC c]:Bd (yB l c) 490∧Bd (yC l c) 490:=by
 obtain⟨h1,h2,h3,h4⟩:=Ik (l:=l) (c:=c)
 have h5:Bd (lW l c) 257:=inferInstance
 have n1:Bd (-(l.2.1/eu l)) 61:=inferInstance
 have i1:Bd (eu l) 49:=inferInstanceAs (Bd (l.1*l.1+l.2.1*l.2.1) _)
 have n2:Bd (-l.1/eu l) 61:=(inferInstance:Bd (-l.1/eu l) _)
 have n3:Bd (-(-l.1/eu l)) 61:=inferInstance
 exact⟨BH h1 n1 h2 n3 h5 (by decide),BH h1 h3 h2 n2 h5 (by decide)⟩
end
theorem Tt{c d:Ln}[BdC c][BdC d]:BdL (yx c d):=by
 have b2:Bd (2:Rat) 3:=fa (n:=2) (by decide)
 have f1:Bd (Od c) 31:=(inferInstance:Bd (c.1*c.1+c.2.1*c.2.1-c.2.2) _).mono (by decide)
 have f2:Bd (Od d) 31:=(inferInstance:Bd (d.1*d.1+d.2.1*d.2.1-d.2.2) _).mono (by decide)
 have g1:Bd (2*(d.1-c.1)) _:=inferInstance
 have g2:Bd (2*(d.2.1-c.2.1)) _:=inferInstance
 have g3:Bd (Od d-Od c) _:=inferInstance
 exact⟨g1.mono (by decide),g2.mono (by decide),g3.mono (by decide)⟩
theorem Wq{c d:Ln}(h:qb c d=false):(yx c d).1≠0∨(yx c d).2.1≠0:=by
 unfold qb at h
 unfold yx
 dsimp only
 by_cases h1:c.1=d.1
 ·rw[au1 h1,au5]at h
  have:=avW h
  right;grind
 ·left;grind
theorem akL{c d:Ln}[BdC c][BdC d](h:qb c d=false):dA (enc (yx c d)):=tt (h:=Tt) (Wq h)
def rj:Env:=[(78,gv),(50,iN),(127,jR),(161,jS),(132,iL),(107,lY),(124,lP),(217,Co),(131,vf),(20,lK),(96,oK),(141,vm)]
theorem iw:EnvAll Tryz.prog rj:=⟨fc,gi,gV,gQ,ga,iS,jc,Ay,sV,i7,ld,sA,trivial⟩
def an5:Ctx:=CX rj []
def agT(a b:BR)(_k:KT):Option (List RV):=match decide (okR a∧okR b)with|true=>some [RV.d tR (hid (ai (ae a+ae b)))]|false=>none
theorem aoN(a b:BR):RS an5 277 [.d tR a,.d tR b] (agT a b):=rsX
theorem adO(a b:BR)(h:okR a∧okR b):Con Tryz.prog 277 [.d tR a,.d tR b] [.d tR (ai (ae a+ae b))]:=by
 refine aR iw (aoN _ _ ⟨0,?_⟩)
 unfold agT
 rw[dT h]
 simp only[ak]
def atd:Ctx:=CX rj []
def ahL(a b:BR)(_k:KT):Option (List RV):=match decide (okR a∧okR b)with|true=>some [RV.d tR (hid (ai (ae a-ae b)))]|false=>none
theorem an3(a b:BR):RS atd 243 [.d tR a,.d tR b] (ahL a b):=rsX
theorem acm(a b:BR)(h:okR a∧okR b):Con Tryz.prog 243 [.d tR a,.d tR b] [.d tR (ai (ae a-ae b))]:=by
 refine aR iw (an3 _ _ ⟨0,?_⟩)
 unfold ahL
 rw[dT h]
 simp only[ak]
def am8:Ctx:=CX rj []
def ae5(a b:BR)(_k:KT):Option (List RV):=match decide (okR a∧okR b)with|true=>some [RV.d tR (hid (ai (ae a*ae b)))]|false=>none
theorem ao4(a b:BR):RS am8 244 [.d tR a,.d tR b] (ae5 a b):=rsX
theorem abL(a b:BR)(h:okR a∧okR b):Con Tryz.prog 244 [.d tR a,.d tR b] [.d tR (ai (ae a*ae b))]:=by
 refine aR iw (ao4 _ _ ⟨0,?_⟩)
 unfold ae5
 rw[dT h]
 simp only[ak]
def apy:Ctx:=CX rj []
def ahE(a:BR)(_k:KT):Option (List RV):=match decide (okR a)with|true=>some [RV.d tR (hid (ai (-ae a)))]|false=>none
theorem ann(a:BR):RS apy 236 [.d tR a] (ahE a):=rsX
theorem adE(a:BR)(h:okR a):Con Tryz.prog 236 [.d tR a] [.d tR (ai (-ae a))]:=by
 refine aR iw (ann _ ⟨0,?_⟩)
 unfold ahE
 rw[dT h]
 simp only[ak]
def aqV:Ctx:=CX rj []
def aeK(a b:BR)(_k:KT):Option (List RV):=match decide (fD a b)with|true=>some [RV.d tR (hid (ai (ae a/ae b)))]|false=>none
theorem arm(a b:BR):RS aqV 241 [.d tR a,.d tR b] (aeK a b):=rsX
theorem aa0(a b:BR)(h:fD a b):Con Tryz.prog 241 [.d tR a,.d tR b] [.d tR (ai (ae a/ae b))]:=by
 refine aR iw (arm _ _ ⟨0,?_⟩)
 unfold aeK
 rw[dT h]
 simp only[ak]
def alu:Ctx:=CX rj []
def Ur(l m:BO3)(_k:KT):Option (List RV):=match decide (okR l.1∧okR m.2.1)with|true=>(match decide (okR l.2.1∧okR m.1)with|true=>(match decide (okR (hid (ai (ae l.1*ae m.2.1)))∧okR (hid (ai (ae l.2.1*ae m.1))))with|true=>(match(aV (ae (hid (ai (ae l.1*ae m.2.1)))) (ae (hid (ai (ae l.2.1*ae m.1)))))==0 with|true=>(match decide (okR l.1∧okR m.2.2)with|true=>(match decide (okR l.2.2∧okR m.1)with|true=>(match decide (okR (hid (ai (ae l.1*ae m.2.2)))∧okR (hid (ai (ae l.2.2*ae m.1))))with|true=>(match(aV (ae (hid (ai (ae l.1*ae m.2.2)))) (ae (hid (ai (ae l.2.2*ae m.1)))))==0 with|true=>(match decide (okR l.2.1∧okR m.2.2)with|true=>(match decide (okR l.2.2∧okR m.2.1)with|true=>(match decide (okR (hid (ai (ae l.2.1*ae m.2.2)))∧okR (hid (ai (ae l.2.2*ae m.2.1))))with|true=>some [RV.d .bool ((aV (ae (hid (ai (ae l.2.1*ae m.2.2)))) (ae (hid (ai (ae l.2.2*ae m.2.1)))))==0)]|false=>none)|false=>none)|false=>none)|false=>some [RV.d .bool false])|false=>none)|false=>none)|false=>none)|false=>some [RV.d .bool false])|false=>none)|false=>none)|false=>none
theorem al4(l m:BO3):RS alu 177 [.d tO l,.d tO m] (Ur l m):=rsX
theorem QX(l m:BO3)(h:dA l∧dA m):Con Tryz.prog 177 [.d tO l,.d tO m] [.d .bool (Wz (dec l) (dec m))]:=by
 refine aR iw (al4 _ _ ⟨0,?_⟩)
 obtain⟨hl,hm⟩:=h
 obtain⟨l,rfl,bl,nl⟩:=gE hl
 obtain⟨m,rfl,bm,nm⟩:=gE hm
 unfold Ur Wz
 simp only[ak,am,aI,aJ,aG,az,aX,au4,au6,Nat.reduceAdd,Nat.reduceLeDiff,aM]
 cases decide (l.1*m.2.1=l.2.1*m.1)<;>cases decide (l.1*m.2.2=l.2.2*m.1)<;>rfl
def ajo:Ctx:=CX rj []
def RU(c d:BO3)(_k:KT):Option (List RV):=match decide (okR c.1∧okR d.1)with|true=>(match(aV (ae c.1) (ae d.1))==0 with|true=>(match decide (okR c.2.1∧okR d.2.1)with|true=>(match(aV (ae c.2.1) (ae d.2.1))==0 with|true=>(match decide (okR c.2.2∧okR d.2.2)with|true=>some [RV.d .bool ((aV (ae c.2.2) (ae d.2.2))==0)]|false=>none)|false=>some [RV.d .bool false])|false=>none)|false=>some [RV.d .bool false])|false=>none
theorem alU(c d:BO3):RS ajo 176 [.d tO c,.d tO d] (RU c d):=rsX
theorem Xr(c d:BO3)(h:dp c∧dp d):Con Tryz.prog 176 [.d tO c,.d tO d] [.d .bool (XB (dec c) (dec d))]:=by
 refine aR iw (alU _ _ ⟨0,?_⟩)
 obtain⟨hc,hd⟩:=h
 obtain⟨c,rfl,bc,nc⟩:=fT hc
 obtain⟨d,rfl,bd,nd⟩:=fT hd
 unfold RU XB
 simp only[am,aI,aJ,aG,az,aX,au4,au6,Nat.reduceLeDiff,aM]
 cases decide (c.1=d.1)<;>cases decide (c.2.1=d.2.1)<;>rfl
def XJ:aO:=spN false true [tR,tR] (fun x=>decide (okR x.1∧okR x.2.1)) (fun x=>[RV.d tR (hid (ai (ae x.1+ae x.2.1)))])
theorem Yf:SpK 277 XJ:=spX fun x h=>by simp only[ak];exact adO x.1 x.2.1 (au0 h)
def YB:aO:=spN false true [tR,tR] (fun x=>decide (okR x.1∧okR x.2.1)) (fun x=>[RV.d tR (hid (ai (ae x.1-ae x.2.1)))])
theorem Un:SpK 243 YB:=spX fun x h=>by simp only[ak];exact acm x.1 x.2.1 (au0 h)
def Qa:aO:=spN false true [tR,tR] (fun x=>decide (okR x.1∧okR x.2.1)) (fun x=>[RV.d tR (hid (ai (ae x.1*ae x.2.1)))])
theorem XX:SpK 244 Qa:=spX fun x h=>by simp only[ak];exact abL x.1 x.2.1 (au0 h)
def QY:aO:=spN false true [tR] (fun x=>decide (okR x.1)) (fun x=>[RV.d tR (hid (ai (-ae x.1)))])
theorem SQ:SpK 236 QY:=spX fun x h=>by simp only[ak];exact adE x.1 (au0 h)
def S3:aO:=spN false true [tR,tR] (fun x=>decide (fD x.1 x.2.1)) (fun x=>[RV.d tR (hid (ai (ae x.1/ae x.2.1)))])
theorem PT:SpK 241 S3:=spX fun x h=>by simp only[ak];exact aa0 x.1 x.2.1 (au0 h)
def wC:Env:=(277,XJ)::(243,YB)::(244,Qa)::(236,QY)::(241,S3)::rj
theorem kK:EnvAll Tryz.prog wC:=⟨Yf,Un,XX,SQ,PT,iw⟩
def arV:Ctx:=CX wC []
def ae7(l m:BO3)(_k:KT):Option (List RV):=match decide (okR l.1∧okR m.2.1)with|true=>(match decide (okR m.1∧okR l.2.1)with|true=>(match decide (okR (hid (ai (ae l.1*ae m.2.1)))∧okR (hid (ai (ae m.1*ae l.2.1))))with|true=>some [RV.d tR (hid (ai (ae (hid (ai (ae l.1*ae m.2.1)))-ae (hid (ai (ae m.1*ae l.2.1))))))]|false=>none)|false=>none)|false=>none
theorem ard(l m:BO3):RS arV 245 [.d tO l,.d tO m] (ae7 l m):=rsX
theorem adH(l m:BO3)(h:dA l∧dA m):Con Tryz.prog 245 [.d tO l,.d tO m] [.d tR (ai (pg (dec l) (dec m)))]:=by
 refine aR kK (ard _ _ ⟨0,?_⟩)
 obtain⟨hl,hm⟩:=h
 obtain⟨l,rfl,bl,nl⟩:=gE hl
 obtain⟨m,rfl,bm,nm⟩:=gE hm
 unfold ae7 pg
 simp only[ak,am,aI,aJ,aG,az,aX,au4,au6,Nat.reduceAdd,Nat.reduceLeDiff]
def app:Ctx:=CX wC []
def aeJ(l:BO3)(_k:KT):Option (List RV):=match decide (okR l.1∧okR l.1)with|true=>(match decide (okR l.2.1∧okR l.2.1)with|true=>(match decide (okR (hid (ai (ae l.1*ae l.1)))∧okR (hid (ai (ae l.2.1*ae l.2.1))))with|true=>some [RV.d tR (hid (ai (ae (hid (ai (ae l.1*ae l.1)))+ae (hid (ai (ae l.2.1*ae l.2.1))))))]|false=>none)|false=>none)|false=>none
theorem anA(l:BO3):RS app 240 [.d tO l] (aeJ l):=rsX
theorem adI(l:BO3)(h:dA l):Con Tryz.prog 240 [.d tO l] [.d tR (ai (eu (dec l)))]:=by
 refine aR kK (anA _ ⟨0,?_⟩)
 have hl:=h
 obtain⟨l,rfl,bl,nl⟩:=gE hl
 unfold aeJ eu
 simp only[ak,am,aI,aJ,aG,az,aX,au4,au6,Nat.reduceAdd,Nat.reduceLeDiff]
def anI:Ctx:=CX wC []
def aeU(l:BO3)(x y:BR)(_k:KT):Option (List RV):=match decide (okR l.1∧okR x)with|true=>(match decide (okR l.2.1∧okR y)with|true=>(match decide (okR (hid (ai (ae l.1*ae x)))∧okR (hid (ai (ae l.2.1*ae y))))with|true=>(match decide (okR (hid (ai (ae (hid (ai (ae l.1*ae x)))+ae (hid (ai (ae l.2.1*ae y))))))∧okR l.2.2)with|true=>some [RV.d tR (hid (ai (ae (hid (ai (ae (hid (ai (ae l.1*ae x)))+ae (hid (ai (ae l.2.1*ae y))))))-ae l.2.2)))]|false=>none)|false=>none)|false=>none)|false=>none
theorem anT(l:BO3)(x y:BR):RS anI 242 [.d tO l,.d tR x,.d tR y] (aeU l x y):=rsX
theorem acH(l:BO3)(x y:BR)(h:dA l∧ok Rat 4 x∧ok Rat 4 y):Con Tryz.prog 242 [.d tO l,.d tR x,.d tR y] [.d tR (ai (vlL (dec l) (ae x) (ae y)))]:=by
 refine aR kK (anT _ _ _ ⟨0,?_⟩)
 obtain⟨hl,hx,hy⟩:=h
 obtain⟨l,rfl,bl,nl⟩:=gE hl
 obtain⟨x,rfl,bx⟩:=aU hx
 obtain⟨y,rfl,b_y⟩:=aU hy
 unfold aeU vlL
 simp only[ak,am,aI,aJ,aG,az,aX,au4,au6,Nat.reduceAdd,Nat.reduceLeDiff]
def arF:Ctx:=CX wC []
def afS(c d:BO3)(_k:KT):Option (List RV):=match decide (okR c.1∧okR d.1)with|true=>(match(aV (ae c.1) (ae d.1))==0 with|true=>(match decide (okR c.2.1∧okR d.2.1)with|true=>some [RV.d .bool ((aV (ae c.2.1) (ae d.2.1))==0)]|false=>none)|false=>some [RV.d .bool false])|false=>none
theorem aqd(c d:BO3):RS arF 237 [.d tO c,.d tO d] (afS c d):=rsX
theorem acp(c d:BO3)(h:dp c∧dp d):Con Tryz.prog 237 [.d tO c,.d tO d] [.d .bool (qb (dec c) (dec d))]:=by
 refine aR kK (aqd _ _ ⟨0,?_⟩)
 obtain⟨hc,hd⟩:=h
 obtain⟨c,rfl,bc,nc⟩:=fT hc
 obtain⟨d,rfl,bd,nd⟩:=fT hd
 unfold afS qb
 simp only[am,aI,aJ,aG,az,aX,au4,au6,Nat.reduceLeDiff,aM]
 cases decide (c.1=d.1)<;>rfl
def asZ:Ctx:=CX wC []
def agA(a b c d e:BR)(_k:KT):Option (List RV):=match decide (okR e)with|true=>(match eZ (ae e)with|true=>(match decide (okR b∧okR (hid (rtB (ae e))))with|true=>(match decide (okR a∧okR (hid (ai (ae b*ae (hid (rtB (ae e)))))))with|true=>(match decide (okR d∧okR (hid (rtB (ae e))))with|true=>(match decide (okR c∧okR (hid (ai (ae d*ae (hid (rtB (ae e)))))))with|true=>(match decide (ok (Rat×Rat) 100000 (hid (ai (ae a+ae (hid (ai (ae b*ae (hid (rtB (ae e)))))))),hid (ai (ae c+ae (hid (ai (ae d*ae (hid (rtB (ae e))))))))))with|true=>some [RV.d tP (hid (enc (atP (dec (hid (ai (ae a+ae (hid (ai (ae b*ae (hid (rtB (ae e)))))))),hid (ai (ae c+ae (hid (ai (ae d*ae (hid (rtB (ae e)))))))))))))]|false=>none)|false=>none)|false=>none)|false=>none)|false=>none)|false=>some [RV.d tP (a,(b,(c,(d,e))))])|false=>none
theorem asM(a b c d e:BR):RS asZ 235 [.d tR a,.d tR b,.d tR c,.d tR d,.d tR e] (agA a b c d e):=rsX
theorem ZM(a b c d e:BR)(h:ok Rat 1000 a∧ok Rat 1000 b∧ok Rat 1000 c∧ok Rat 1000 d∧ok Rat 1000 e):Con Tryz.prog 235 [.d tR a,.d tR b,.d tR c,.d tR d,.d tR e] [.d tP (enc (lC (ae a) (ae b) (ae c) (ae d) (ae e)))]:=by
 refine aR kK (asM _ _ _ _ _ ⟨0,?_⟩)
 obtain⟨ha,hb,hc,hd,he⟩:=h
 obtain⟨a,rfl,ba⟩:=aU ha
 obtain⟨b,rfl,bb⟩:=aU hb
 obtain⟨c,rfl,bc⟩:=aU hc
 obtain⟨d,rfl,bd⟩:=aU hd
 obtain⟨e,rfl,be⟩:=aU he
 unfold agA lC
 simp only[ak,aG,az,aX,au4,au5,Nat.reduceLeDiff]
 cases hq:eZ e
 ·rfl
 ·rw[YS hq]
  simp only[am,az,okd,aX,mx,Nat.reduceAdd,Nat.reduceLeDiff,ave,cond_true,acu]
  try rfl
def Vu:aO:=spN false true [tO,tO] (fun x=>decide (dA x.1∧dA x.2.1)) (fun x=>[RV.d tR (hid (ai (pg (dec x.1) (dec x.2.1))))])
theorem Pj:SpK 245 Vu:=spX fun x h=>by simp only[ak];exact adH x.1 x.2.1 (au0 h)
def Pd:aO:=spN false true [tO] (fun x=>decide (dA x.1)) (fun x=>[RV.d tR (hid (ai (eu (dec x.1))))])
theorem QT:SpK 240 Pd:=spX fun x h=>by simp only[ak];exact adI x.1 (au0 h)
def T8:aO:=spN false true [tO,tR,tR] (fun x=>decide (dA x.1∧ok Rat 4 x.2.1∧ok Rat 4 x.2.2.1)) (fun x=>[RV.d tR (hid (ai (vlL (dec x.1) (ae x.2.1) (ae x.2.2.1))))])
theorem Wr:SpK 242 T8:=spX fun x h=>by simp only[ak];exact acH x.1 x.2.1 x.2.2.1 (au0 h)
def Xv:aO:=spN true true [tO,tO] (fun x=>decide (dp x.1∧dp x.2.1)) (fun x=>[RV.d .bool (qb (dec x.1) (dec x.2.1))])
theorem U6:SpK 237 Xv:=spX fun x h=>acp x.1 x.2.1 (au0 h)
def WD:aO:=spN false true [tR,tR,tR,tR,tR] (fun x=>decide (ok Rat 1000 x.1∧ok Rat 1000 x.2.1∧ok Rat 1000 x.2.2.1∧ok Rat 1000 x.2.2.2.1∧ok Rat 1000 x.2.2.2.2.1)) (fun x=>[RV.d tP (hid (enc (lC (ae x.1) (ae x.2.1) (ae x.2.2.1) (ae x.2.2.2.1) (ae x.2.2.2.2.1))))])
theorem T5:SpK 235 WD:=spX fun x h=>by simp only[ak];exact ZM x.1 x.2.1 x.2.2.1 x.2.2.2.1 x.2.2.2.2.1 (au0 h)
def Ap:Env:=(245,Vu)::(240,Pd)::(242,T8)::(237,Xv)::(235,WD)::wC
theorem nN:EnvAll Tryz.prog Ap:=⟨Pj,QT,Wr,U6,T5,kK⟩
def arh:Ctx:=CX Ap []
def ae2(l m:BO3)(_k:KT):Option (List RV):=let y1:=hid (ai (ae l.2.2*ae m.2.1));let y2:=hid (ai (ae m.2.2*ae l.2.1));let y3:=hid (ai (ae l.1*ae m.2.2));let y4:=hid (ai (ae m.1*ae l.2.2));let y5:=hid (ai (pg (dec l) (dec m)));let y6:=hid (ai (ae y1-ae y2));let y7:=hid (ai (ae y3-ae y4));match decide (dA l∧dA m)with|true=>(match decide (okR l.2.2∧okR m.2.1)with|true=>(match decide (okR m.2.2∧okR l.2.1)with|true=>(match decide (okR y1∧okR y2)with|true=>(match decide (okR l.1∧okR m.2.2)with|true=>(match decide (okR m.1∧okR l.2.2)with|true=>(match decide (okR y3∧okR y4)with|true=>(match decide (okR y5)with|true=>(match(aV (ae y5) 0) !=0 with|true=>(match decide (fD y6 y5)with|true=>(match decide (fD y7 y5)with|true=>(match decide (ok (Rat×Rat) 100000 (hid (ai (ae y6/ae y5)),hid (ai (ae y7/ae y5))))with|true=>some [RV.d (.sl tP) ([hid (enc (atP (dec (hid (ai (ae y6/ae y5)),hid (ai (ae y7/ae y5))))))]),RV.d ax8 0]|false=>none)|false=>none)|false=>none)|false=>(match decide (okR y6)with|true=>(match(aV (ae y6) 0)==0 with|true=>(match decide (okR y7)with|true=>(match(aV (ae y7) 0)==0 with|true=>some [RV.d (.sl tP) ([]),RV.d ax8 10]|false=>some [RV.d (.sl tP) ([]),RV.d ax8 0])|false=>none)|false=>some [RV.d (.sl tP) ([]),RV.d ax8 0])|false=>none))|false=>none)|false=>none)|false=>none)|false=>none)|false=>none)|false=>none)|false=>none)|false=>none
theorem ao2(l m:BO3):RS arh 180 [.d tO l,.d tO m] (ae2 l m):=rsX
theorem aax(l m:BO3)(h:dA l∧dA m):Con Tryz.prog 180 [.d tO l,.d tO m] [.d (.sl tP) ((Bz (dec l) (dec m)).map enc),.d ax8 (Ol (dec l) (dec m))]:=by
 refine aR nN (ao2 _ _ ⟨0,?_⟩)
 obtain⟨hl,hm⟩:=h
 obtain⟨l,rfl,bl,nl⟩:=gE hl
 obtain⟨m,rfl,bm,nm⟩:=gE hm
 have ol:=au1 (tt (l:=l) nl)
 have om:=au1 (tt (l:=m) nm)
 have bc:Bd (pg l m) 49:=inferInstanceAs (Bd (l.1*m.2.1-m.1*l.2.1) _)
 have e1:l.2.2*m.2.1-m.2.2*l.2.1=HS l m:=rfl
 have e2:l.1*m.2.2-m.1*l.2.2=HK l m:=rfl
 unfold ae2 Bz Ol
 simp only[ak,am,aI,aJ,aG,az,aX,au4,au6,Nat.reduceAdd,Nat.reduceLeDiff,aM,cA,ol,om]
 by_cases h0:pg l m=0
 ·simp only[au1 h0,e1,e2,Bool.not_true]
  cases decide (HS l m=0)<;>cases decide (HK l m=0)<;>rfl
 ·simp only[am,okd,aF,mx,Nat.reduceAdd,Nat.reduceLeDiff,ave,ava,cond_true,h0,ne_eq,awK,Bool.not_false,acu]
  rfl
def apX:Ctx:=CX Ap []
def af2(l c:BO3)(_k:KT):Option (List RV):=match decide (dA l∧ok Rat 4 c.1∧ok Rat 4 c.2.1)with|true=>(match decide (dA l)with|true=>(match decide (okR (hid (ai (eu (dec l))))∧okR c.2.2)with|true=>(match decide (okR (hid (ai (vlL (dec l) (ae c.1) (ae c.2.1))))∧okR (hid (ai (vlL (dec l) (ae c.1) (ae c.2.1)))))with|true=>(match decide (okR (hid (ai (ae (hid (ai (eu (dec l))))*ae c.2.2)))∧okR (hid (ai (ae (hid (ai (vlL (dec l) (ae c.1) (ae c.2.1))))*ae (hid (ai (vlL (dec l) (ae c.1) (ae c.2.1))))))))with|true=>some [RV.d tR (hid (ai (ae (hid (ai (ae (hid (ai (eu (dec l))))*ae c.2.2)))-ae (hid (ai (ae (hid (ai (vlL (dec l) (ae c.1) (ae c.2.1))))*ae (hid (ai (vlL (dec l) (ae c.1) (ae c.2.1))))))))))]|false=>none)|false=>none)|false=>none)|false=>none)|false=>none
theorem aqy(l c:BO3):RS apX 239 [.d tO l,.d tO c] (af2 l c):=rsX
theorem aeE(l c:BO3)(h:dA l∧dp c):Con Tryz.prog 239 [.d tO l,.d tO c] [.d tR (ai (lW (dec l) (dec c)))]:=by
 refine aR nN (aqy _ _ ⟨0,?_⟩)
 obtain⟨hl,hc⟩:=h
 obtain⟨l,rfl,bl,nl⟩:=gE hl
 obtain⟨c,rfl,bc,nc⟩:=fT hc
 have ol:=au1 (tt (l:=l) nl)
 have bv:Bd (vlL l c.1 c.2.1) 97:=inferInstanceAs (Bd (l.1*c.1+l.2.1*c.2.1-l.2.2) _)
 have bn:Bd (eu l) 49:=inferInstanceAs (Bd (l.1*l.1+l.2.1*l.2.1) _)
 unfold af2 lW
 simp only[ak,am,aI,aJ,aG,az,aH,aX,au4,au6,Nat.reduceAdd,Nat.reduceLeDiff,ol]
def asO:Ctx:=CX Ap []
def ah2(c d:BO3)(_k:KT):Option (List RV):=match decide (dp c∧dp d)with|true=>(match qb (dec c) (dec d)with|true=>some [RV.d tO (((false,[]),(false,[])),(((false,[]),(false,[])),((false,[]),(false,[])))),RV.d ax8 6]|false=>(match decide (bg (2:Int))with|true=>(match decide (okR c.1∧okR c.1)with|true=>(match decide (okR c.2.1∧okR c.2.1)with|true=>(match decide (okR (hid (ai (ae c.1*ae c.1)))∧okR (hid (ai (ae c.2.1*ae c.2.1))))with|true=>(match decide (okR (hid (ai (ae (hid (ai (ae c.1*ae c.1)))+ae (hid (ai (ae c.2.1*ae c.2.1))))))∧okR c.2.2)with|true=>(match decide (okR d.1∧okR d.1)with|true=>(match decide (okR d.2.1∧okR d.2.1)with|true=>(match decide (okR (hid (ai (ae d.1*ae d.1)))∧okR (hid (ai (ae d.2.1*ae d.2.1))))with|true=>(match decide (okR (hid (ai (ae (hid (ai (ae d.1*ae d.1)))+ae (hid (ai (ae d.2.1*ae d.2.1))))))∧okR d.2.2)with|true=>(match decide (okR d.1∧okR c.1)with|true=>(match decide (okR (hid (ai ((2:Int):Rat)))∧okR (hid (ai (ae d.1-ae c.1))))with|true=>(match decide (okR d.2.1∧okR c.2.1)with|true=>(match decide (okR (hid (ai ((2:Int):Rat)))∧okR (hid (ai (ae d.2.1-ae c.2.1))))with|true=>(match decide (okR (hid (ai (ae (hid (ai (ae (hid (ai (ae d.1*ae d.1)))+ae (hid (ai (ae d.2.1*ae d.2.1))))))-ae d.2.2)))∧okR (hid (ai (ae (hid (ai (ae (hid (ai (ae c.1*ae c.1)))+ae (hid (ai (ae c.2.1*ae c.2.1))))))-ae c.2.2))))with|true=>some [RV.d tO (hid (ai (ae (hid (ai ((2:Int):Rat)))*ae (hid (ai (ae d.1-ae c.1))))),(hid (ai (ae (hid (ai ((2:Int):Rat)))*ae (hid (ai (ae d.2.1-ae c.2.1))))),hid (ai (ae (hid (ai (ae (hid (ai (ae (hid (ai (ae d.1*ae d.1)))+ae (hid (ai (ae d.2.1*ae d.2.1))))))-ae d.2.2)))-ae (hid (ai (ae (hid (ai (ae (hid (ai (ae c.1*ae c.1)))+ae (hid (ai (ae c.2.1*ae c.2.1))))))-ae c.2.2))))))),RV.d ax8 0]|false=>none)|false=>none)|false=>none)|false=>none)|false=>none)|false=>none)|false=>none)|false=>none)|false=>none)|false=>none)|false=>none)|false=>none)|false=>none)|false=>none))|false=>none
theorem asG(c d:BO3):RS asO 238 [.d tO c,.d tO d] (ah2 c d):=rsX
theorem aa7(c d:BO3)(h:dp c∧dp d):Con Tryz.prog 238 [.d tO c,.d tO d] [.d tO (Hi (dec c) (dec d)),.d ax8 (ail (dec c) (dec d))]:=by
 refine aR nN (asG _ _ ⟨0,?_⟩)
 obtain⟨hc,hd⟩:=h
 obtain⟨c,rfl,bc,nc⟩:=fT hc
 obtain⟨d,rfl,bd,nd⟩:=fT hd
 have oc:=au1 (nf (c:=c) nc)
 have od:=au1 (nf (c:=d) nd)
 have i2:decide (bg 2)=true:=by decide
 have b2:Bd ((2:Int):Rat) 3:=fa (by decide)
 unfold ah2 Hi ail
 simp only[ak,am,aI,aJ,aG,az,aX,au4,au6,Nat.reduceAdd,Nat.reduceLeDiff,oc,od,i2]
 cases qb c d
 ·rfl
 ·rfl
def ap6:Ctx:=CX Ap []
def ahl(c:BO3)(_k:KT):Option (List RV):=match decide (bg (1:Int))with|true=>(match decide (bg (0:Int))with|true=>(match decide (okR (hid (ai ((1:Int):Rat))))with|true=>(match decide (ok Rat 1000 c.1∧ok Rat 1000 (hid (ai (-ae (hid (ai ((1:Int):Rat))))))∧ok Rat 1000 c.2.1∧ok Rat 1000 (hid (ai ((0:Int):Rat)))∧ok Rat 1000 c.2.2)with|true=>(match decide (ok Rat 1000 c.1∧ok Rat 1000 (hid (ai ((1:Int):Rat)))∧ok Rat 1000 c.2.1∧ok Rat 1000 (hid (ai ((0:Int):Rat)))∧ok Rat 1000 c.2.2)with|true=>some [RV.d tP (hid (enc (lC (ae c.1) (ae (hid (ai (-ae (hid (ai ((1:Int):Rat))))))) (ae c.2.1) (ae (hid (ai ((0:Int):Rat)))) (ae c.2.2)))),RV.d tP (hid (enc (lC (ae c.1) (ae (hid (ai ((1:Int):Rat)))) (ae c.2.1) (ae (hid (ai ((0:Int):Rat)))) (ae c.2.2))))]|false=>none)|false=>none)|false=>none)|false=>none)|false=>none
theorem aoz(c:BO3):RS ap6 175 [.d tO c] (ahl c):=rsX
theorem ZL(c:BO3)(h:dp c):Con Tryz.prog 175 [.d tO c] [.d tP (enc (pi (dec c))),.d tP (enc (pc (dec c)))]:=by
 refine aR nN (aoz _ ⟨0,?_⟩)
 have hc:=h
 obtain⟨c,rfl,bc,nc⟩:=fT hc
 have b0:Bd ((0:Int):Rat) 3:=fa (by decide)
 have b1:Bd ((1:Int):Rat) 3:=fa (by decide)
 have i0:decide (bg 0)=true:=by decide
 have i1:decide (bg 1)=true:=by decide
 unfold ahl pi pc
 simp only[ak,am,aI,aJ,aG,az,aH,aX,au4,au6,Nat.reduceLeDiff,i0,i1]
 rfl
def Hr:aO:=spN false true [tO,tO] (fun x=>decide (dA x.1∧dA x.2.1)) (fun x=>[RV.d (.sl tP) ((Bz (dec x.1) (dec x.2.1)).map enc),RV.d ax8 (Ol (dec x.1) (dec x.2.1))])
theorem Fz:SpK 180 Hr:=spX fun x h=>aax x.1 x.2.1 (au0 h)
def Vw:aO:=spN false true [tO,tO] (fun x=>decide (dA x.1∧dp x.2.1)) (fun x=>[RV.d tR (hid (ai (lW (dec x.1) (dec x.2.1))))])
theorem PD:SpK 239 Vw:=spX fun x h=>by simp only[ak];exact aeE x.1 x.2.1 (au0 h)
def UB:aO:=spN false true [tO,tO] (fun x=>decide (dp x.1∧dp x.2.1)) (fun x=>[RV.d tO (hid (Hi (dec x.1) (dec x.2.1))),RV.d ax8 (ail (dec x.1) (dec x.2.1))])
theorem Tc:SpK 238 UB:=spX fun x h=>by simp only[ak];exact aa7 x.1 x.2.1 (au0 h)
def Hg:aO:=spN false true [tO] (fun x=>decide (dp x.1)) (fun x=>[RV.d tP (hid (enc (pi (dec x.1)))),RV.d tP (hid (enc (pc (dec x.1))))])
theorem Fp:SpK 175 Hg:=spX fun x h=>by simp only[ak];exact ZL x.1 (au0 h)
def O6:Env:=(180,Hr)::(239,Vw)::(238,UB)::(175,Hg)::Ap
theorem D7:EnvAll Tryz.prog O6:=⟨Fz,PD,Tc,Fp,nN⟩
def anj:Ctx:=CX O6 []
def af8(l c:BO3)(_k:KT):Option (List RV):=let y1:=hid (ai (lW (dec l) (dec c)));let y2:=hid (ai (vlL (dec l) (ae c.1) (ae c.2.1)));let y3:=hid (ai (eu (dec l)));let y4:=hid (ai (ae y2/ae y3));let y5:=hid (ai (ae y4*ae l.1));let y6:=hid (ai (ae y4*ae l.2.1));let y7:=ai (ae c.1-ae y5);let y8:=ai (ae c.2.1-ae y6);let y9:=hid (ai (-ae l.1));let y10:=hid (ai (ae l.2.1/ae y3));let y11:=hid (ai (ae y9/ae y3));let y12:=hid (ai (-ae y10));let y13:=hid (ai (-ae y11));let y14:=enc (lC (ae (hid y7)) (ae y12) (ae (hid y8)) (ae y13) (ae y1));let y15:=enc (lC (ae (hid y7)) (ae y10) (ae (hid y8)) (ae y11) (ae y1));match decide (dA l∧dp c)with|true=>(match decide (dA l)with|true=>(match decide (okR y1)with|true=>(match decide ((aV (ae y1) 0)<0)with|true=>some [RV.new 41 tP []]|false=>(match decide (dA l∧ok Rat 4 c.1∧ok Rat 4 c.2.1)with|true=>(match decide (fD y2 y3)with|true=>(match decide (okR y4∧okR l.1)with|true=>(match decide (okR c.1∧okR y5)with|true=>(match decide (okR y4∧okR l.2.1)with|true=>(match decide (okR c.2.1∧okR y6)with|true=>(match decide (okR y1)with|true=>(match(aV (ae y1) 0)==0 with|true=>(match decide (ok (Rat×Rat) 100000 (hid y7,hid y8))with|true=>some [RV.new 41 tP ([hid (enc (atP (dec (hid y7,hid y8))))])]|false=>none)|false=>(match decide (fD l.2.1 y3)with|true=>(match decide (okR l.1)with|true=>(match decide (fD y9 y3)with|true=>(match decide (okR y10)with|true=>(match decide (okR y11)with|true=>(match decide (ok Rat 1000 (hid y7)∧ok Rat 1000 y12∧ok Rat 1000 (hid y8)∧ok Rat 1000 y13∧ok Rat 1000 y1)with|true=>(match decide (ok Rat 1000 (hid y7)∧ok Rat 1000 y10∧ok Rat 1000 (hid y8)∧ok Rat 1000 y11∧ok Rat 1000 y1)with|true=>(match decide (okP 4000 (hid y14)∧okP 4000 (hid y15))with|true=>(match decide ((b9 (dec (hid y14)) (dec (hid y15)))>0)with|true=>some [RV.new 41 tP ([hid y15,hid y14])]|false=>some [RV.new 41 tP ([hid y14,hid y15])])|false=>none)|false=>none)|false=>none)|false=>none)|false=>none)|false=>none)|false=>none)|false=>none))|false=>none)|false=>none)|false=>none)|false=>none)|false=>none)|false=>none)|false=>none))|false=>none)|false=>none)|false=>none
theorem aox(l c:BO3):RS anj 179 [.d tO l,.d tO c] (af8 l c):=rsX
theorem adN(l c:BO3)(h:dA l∧dp c):Con Tryz.prog 179 [.d tO l,.d tO c] [.d (.sl tP) ((qn (dec l) (dec c)).map enc)]:=by
 refine Con.new_d (et:=41) (aR D7 (aox _ _ ⟨0,?_⟩))
 obtain⟨hl,hc⟩:=h
 obtain⟨l,rfl,bl,nl⟩:=gE hl
 obtain⟨c,rfl,bc,nc⟩:=fT hc
 have ol:=au1 (tt (l:=l) nl)
 have oc:=au1 (nf (c:=c) nc)
 have hn:=QG nl
 have bv:Bd (vlL l c.1 c.2.1) 97:=inferInstanceAs (Bd (l.1*c.1+l.2.1*c.2.1-l.2.2) _)
 have bn:Bd (eu l) 49:=inferInstanceAs (Bd (l.1*l.1+l.2.1*l.2.1) _)
 have e1:c.1-vlL l c.1 c.2.1/eu l*l.1=ftX l c:=rfl
 have e2:c.2.1-vlL l c.1 c.2.1/eu l*l.2.1=ftY l c:=rfl
 obtain⟨f1,f2,_,_⟩:=Ik (l:=l) (c:=c)
 unfold af8 qn
 simp only[ak,am,aI,aJ,aG,az,okd,aH,aX,aF,au4,au6,mx,Nat.reduceAdd,Nat.reduceLeDiff,ave,cond_true,aM,aN,ol,oc,hn,ne_eq,awK,e1,e2,acu]
 by_cases h0:lW l c<0
 ·simp only[au1 h0]
  rfl
 ·simp only[au3 h0]
  by_cases h1:lW l c=0
  ·simp only[au1 h1]
   rfl
  ·have hp:=OQ h0 h1
   obtain⟨p1,p2⟩:=Ue (c:=c) nl (show 0≤lW l c by grind)
   obtain⟨q1,q2⟩:=RZ (l:=l) (c:=c)
   have g1:lC (ftX l c) (-(l.2.1/eu l)) (ftY l c) (-(-l.1/eu l)) (lW l c)=yB l c:=rfl
   have g2:lC (ftX l c) (l.2.1/eu l) (ftY l c) (-l.1/eu l) (lW l c)=yC l c:=rfl
   simp only[au3 h1,au6,Nat.reduceLeDiff,cond_false,bH,g1,g2]
   cases decide (b9 (yB l c) (yC l c)>0)<;>rfl
def GF:aO:=spN false true [tO,tO] (fun x=>decide (dA x.1∧dp x.2.1)) (fun x=>[RV.d (.sl tP) ((qn (dec x.1) (dec x.2.1)).map enc)])
theorem FG:SpK 179 GF:=spX fun x h=>adN x.1 x.2.1 (au0 h)
def afz:Env:=(179,GF)::O6
theorem W2:EnvAll Tryz.prog afz:=⟨FG,D7⟩
def aqu:Ctx:=CX afz []
def ah0(c d:BO3)(_k:KT):Option (List RV):=match decide (dp c∧dp d)with|true=>(match qb (dec c) (dec d)with|true=>(match decide (okR c.2.2∧okR d.2.2)with|true=>(match(aV (ae c.2.2) (ae d.2.2))==0 with|true=>some [RV.d (.sl tP) ([]),RV.d ax8 10]|false=>some [RV.d (.sl tP) ([]),RV.d ax8 0])|false=>none)|false=>(match decide (dp c∧dp d)with|true=>(match decide (dA (hid (Hi (dec c) (dec d)))∧dp c)with|true=>some [RV.d (.sl tP) ((qn (dec (hid (Hi (dec c) (dec d)))) (dec c)).map enc),RV.d ax8 0]|false=>none)|false=>none))|false=>none
theorem aqE(c d:BO3):RS aqu 178 [.d tO c,.d tO d] (ah0 c d):=rsX
theorem adx(c d:BO3)(h:dp c∧dp d):Con Tryz.prog 178 [.d tO c,.d tO d] [.d (.sl tP) ((AQ (dec c) (dec d)).map enc),.d ax8 (Tp (dec c) (dec d))]:=by
 refine aR W2 (aqE _ _ ⟨0,?_⟩)
 obtain⟨hc,hd⟩:=h
 obtain⟨c,rfl,bc,nc⟩:=fT hc
 obtain⟨d,rfl,bd,nd⟩:=fT hd
 have oc:=au1 (nf (c:=c) nc)
 have od:=au1 (nf (c:=d) nd)
 unfold ah0 AQ Tp
 simp only[ak,am,aJ,aG,az,aX,au4,au7,au6,Nat.reduceLeDiff,aM,oc,od]
 cases hc:qb c d
 ·have ol:dA (enc (yx c d)):=akL hc
  have er:Hi c d=enc (yx c d):=by unfold Hi;rw[hc];rfl
  simp only[er,dT ol,am,cond_false]
  try rfl
 ·cases decide (c.2.2=d.2.2)<;>rfl
end
def mG(c:BCU):Prop:=okC 500 c∧PS c
instance (c:BCU):Decidable (mG c):=by unfold mG;infer_instance
def rD(c d:BCU):Prop:=mG c∧mG d
instance (c d:BCU):Decidable (rD c d):=by unfold rD;infer_instance
def DE(c d:BCU):List BP:=bif !lQ (dC c) (dC d)then(tj (dC c) (dC d)).map enc else [c.2.2.2.2.1,c.2.2.2.2.2,d.2.2.2.2.1,d.2.2.2.2.2]
def aiq(c d:BCU):List BP:=(DE c d).filter fun p=>onR (dC c) (dec p)&&onR (dC d) (dec p)
def ma(c d:BCU):List BP:=gk (dC c) (aiq c d)
def acM(c d:BCU):Bool:=bif c.1&&(d.1&&(c.2.2.2.1 !=d.2.2.2.1))then true else !c.1&&(b9 (dec c.2.2.2.2.1) (dec c.2.2.2.2.2) !=b9 (dec d.2.2.2.2.1) (dec d.2.2.2.2.2))
def yz(c d:BCU):BCU:=bif acM c d then iK d else d
def Bm(c:Cv):List BP→Bool
 |[]=>false
 |x::r=>match r with
  |[]=>false
  |y::_=>decide (cB c (dec x) (dec y)<0)||Bm c r
def akX(c d:BCU):Bool:=lQ (dC c) (dC d)&&Bm (dC (yz c d)) (ma c d)
def VG:aO:=spN false true [tO,tO] (fun x=>decide (dp x.1∧dp x.2.1)) (fun x=>[RV.d (.sl tP) ((AQ (dec x.1) (dec x.2.1)).map enc),RV.d ax8 (Tp (dec x.1) (dec x.2.1))])
theorem Wb:SpK 178 VG:=spX fun x h=>adx x.1 x.2.1 (au0 h)
def Mb:aO:=spN true true [tO,tO] (fun x=>decide (dA x.1∧dA x.2.1)) (fun x=>[RV.d .bool (Wz (dec x.1) (dec x.2.1))])
theorem Nz:SpK 177 Mb:=spX fun x h=>QX x.1 x.2.1 (au0 h)
def JU:aO:=spN true true [tO,tO] (fun x=>decide (dp x.1∧dp x.2.1)) (fun x=>[RV.d .bool (XB (dec x.1) (dec x.2.1))])
theorem OA:SpK 176 JU:=spX fun x h=>Xr x.1 x.2.1 (au0 h)
def Jy:Env:=[(178,VG),(179,GF),(180,Hr),(177,Mb),(176,JU),(81,wk),(19,rU),(95,H5),(17,vV),(96,oK)]
theorem vX:EnvAll Tryz.prog Jy:=⟨Wb,FG,Fz,Nz,OA,rh,nz,ET,rM,ld,trivial⟩
def akV:Ctx:=CX Jy []
def X2(a b:BCU)(_k:KT):Option (List RV):=match a.1 with|true=>(match b.1 with|true=>(match decide (dp a.2.2.1∧dp b.2.2.1)with|true=>some [RV.d (.sl tP) ((AQ (dec a.2.2.1) (dec b.2.2.1)).map enc),RV.d ax8 (Tp (dec a.2.2.1) (dec b.2.2.1))]|false=>none)|false=>(match a.1 with|true=>(match decide (dA b.2.1∧dp a.2.2.1)with|true=>some [RV.d (.sl tP) ((qn (dec b.2.1) (dec a.2.2.1)).map enc),RV.d ax8 0]|false=>none)|false=>(match b.1 with|true=>(match decide (dA a.2.1∧dp b.2.2.1)with|true=>some [RV.d (.sl tP) ((qn (dec a.2.1) (dec b.2.2.1)).map enc),RV.d ax8 0]|false=>none)|false=>(match decide (dA a.2.1∧dA b.2.1)with|true=>some [RV.d (.sl tP) ((Bz (dec a.2.1) (dec b.2.1)).map enc),RV.d ax8 (Ol (dec a.2.1) (dec b.2.1))]|false=>none))))|false=>(match a.1 with|true=>(match decide (dA b.2.1∧dp a.2.2.1)with|true=>some [RV.d (.sl tP) ((qn (dec b.2.1) (dec a.2.2.1)).map enc),RV.d ax8 0]|false=>none)|false=>(match b.1 with|true=>(match decide (dA a.2.1∧dp b.2.2.1)with|true=>some [RV.d (.sl tP) ((qn (dec a.2.1) (dec b.2.2.1)).map enc),RV.d ax8 0]|false=>none)|false=>(match decide (dA a.2.1∧dA b.2.1)with|true=>some [RV.d (.sl tP) ((Bz (dec a.2.1) (dec b.2.1)).map enc),RV.d ax8 (Ol (dec a.2.1) (dec b.2.1))]|false=>none)))
theorem aia(a b:BCU):RS akV 94 [.d tCU a,.d tCU b] (X2 a b):=rsX
theorem QE(a b:BCU)(h:xf a b):Con Tryz.prog 94 [.d tCU a,.d tCU b] [.d (.sl tP) ((tj (dC a) (dC b)).map enc),.d ax8 (PR (dC a) (dC b))]:=by
 refine aR vX (aia _ _ ⟨0,?_⟩)
 obtain⟨⟨a1,a2⟩,b1,b2⟩:=h
 unfold X2 tj PR AQ
 obtain⟨aa,al,ac,aw,af,at_⟩:=a
 obtain⟨ba,bl,bc,bw,bf,bt⟩:=b
 cases aa<;>cases ba
 ·have h1:=a2 rfl
  have h2:=b2 rfl
  simp only[dT (show dA al∧dA bl from⟨h1,h2⟩)]
  rfl
 ·have h1:=a2 rfl
  have h2:=b1 rfl
  simp only[dT (show dA al∧dp bc from⟨h1,h2⟩)]
  rfl
 ·have h1:=a1 rfl
  have h2:=b2 rfl
  simp only[dT (show dA bl∧dp ac from⟨h2,h1⟩)]
  rfl
 ·have h1:=a1 rfl
  have h2:=b1 rfl
  simp only[dT (show dp ac∧dp bc from⟨h1,h2⟩)]
  rfl
def arB:Ctx:=CX Jy []
def afB(a b:BCU)(_k:KT):Option (List RV):=match !(a.1==b.1)with|true=>some [RV.d .bool false]|false=>(match a.1 with|true=>(match decide (dp a.2.2.1∧dp b.2.2.1)with|true=>some [RV.d .bool (XB (dec a.2.2.1) (dec b.2.2.1))]|false=>none)|false=>(match decide (dA a.2.1∧dA b.2.1)with|true=>some [RV.d .bool (Wz (dec a.2.1) (dec b.2.1))]|false=>none))
theorem arZ(a b:BCU):RS arB 93 [.d tCU a,.d tCU b] (afB a b):=rsX
theorem aaX(a b:BCU)(h:xf a b):Con Tryz.prog 93 [.d tCU a,.d tCU b] [.d .bool (lQ (dC a) (dC b))]:=by
 refine aR vX (arZ _ _ ⟨0,?_⟩)
 obtain⟨⟨a1,a2⟩,b1,b2⟩:=h
 unfold afB lQ
 obtain⟨aa,al,ac,aw,af,at_⟩:=a
 obtain⟨ba,bl,bc,bw,bf,bt⟩:=b
 cases aa<;>cases ba
 ·have h1:=a2 rfl
  have h2:=b2 rfl
  simp only[dT (show dA al∧dA bl from⟨h1,h2⟩)]
  rfl
 ·rfl
 ·rfl
 ·have h1:=a1 rfl
  have h2:=b1 rfl
  simp only[dT (show dp ac∧dp bc from⟨h1,h2⟩)]
  rfl
def Lo:aO:=spN false true [tCU,tCU] (fun x=>decide (xf x.1 x.2.1)) (fun x=>[RV.d (.sl tP) ((tj (dC x.1) (dC x.2.1)).map enc),RV.d ax8 (PR (dC x.1) (dC x.2.1))])
theorem OB:SpK 94 Lo:=spX fun x h=>QE x.1 x.2.1 (au0 h)
def Yb:aO:=spN true true [tCU,tCU] (fun x=>decide (xf x.1 x.2.1)) (fun x=>[RV.d .bool (lQ (dC x.1) (dC x.2.1))])
theorem P9:SpK 93 Yb:=spX fun x h=>aaX x.1 x.2.1 (au0 h)
def aeQ:Env:=(94,Lo)::(93,Yb)::Jy
theorem Vi:EnvAll Tryz.prog aeQ:=⟨OB,P9,vX⟩
def aki:NT:=[((27,18),{keep:=[2,3,6,7,8,9],own:=[(8,41,tP)],hl:=4}),((27,47),{keep:=[3,6,8,10,11],hl:=2})]
def rz:Ctx:=CX aeQ aki
def oY(c d:BCU)(s9:Int)(r3:List BP):Cfg:=⟨27,[.blk 0,.seq 33],[(2,.box 0 0),(3,.box 1 0),(6,SB (lQ (dC c) (dC d))),(7,.d (.sl tP) ((tj (dC c) (dC d)).map enc)),(8,.own 3),(9,SI s9)],[.box 43 (Ty.split tCU c),.box 43 (Ty.split tCU d),.row 41 tP ([c.2.2.2.2.1,c.2.2.2.2.2,d.2.2.2.2.1,d.2.2.2.2.2]),.row 41 tP r3],0,[]⟩
def iW(c d:BCU)(s9:Int)(r3:List BP):Cfg:=⟨27,[.blk 0,.seq 33],[(2,.box 0 0),(3,.box 1 0),(6,SB (lQ (dC c) (dC d))),(7,.own 2),(8,.own 3),(9,SI s9)],[.box 43 (Ty.split tCU c),.box 43 (Ty.split tCU d),.row 41 tP ([c.2.2.2.2.1,c.2.2.2.2.2,d.2.2.2.2.1,d.2.2.2.2.2]),.row 41 tP r3],0,[]⟩
def cY(c d:BCU)(r3:List BP)(B1:BCU)(s10:Bool)(s11:Int):Cfg:=⟨27,[.blk 2,.seq 58],[(3,.box 1 0),(6,SB (lQ (dC c) (dC d))),(8,.d (.sl tP) (gk (dC c) r3)),(10,SB s10),(11,SI s11)],[.box 43 (Ty.split tCU c),.box 43 (Ty.split tCU B1)],0,[]⟩
def S7(c d:BCU)(k:KT):Option (List RV):=match decide (xf c d)with|true=>(match !(lQ (dC c) (dC d))with|true=>(match decide (xf c d)with|true=>k 18 (oY c d 0 ([]))|false=>none)|false=>k 18 (iW c d 0 ([])))|false=>none
theorem aeM(c d:BCU):RS rz 27 [.d tCU c,.d tCU d] (S7 c d):=rsX
def oH(c d:BCU)(s9:Int)(r3:List BP)(k:KT):Option (List RV):=match decide (s9<(((tj (dC c) (dC d)).map enc).length:Int))with|true=>(match bG ((tj (dC c) (dC d)).map enc) s9 with|some x1=>(match decide (okC 3500 c∧okP 3500 x1)with|true=>(match onR (dC c) (dec x1)with|true=>(match bG ((tj (dC c) (dC d)).map enc) s9 with|some x2=>(match decide (okC 3500 d∧okP 3500 x2)with|true=>(match onR (dC d) (dec x2)with|true=>(match bG ((tj (dC c) (dC d)).map enc) s9 with|some x3=>(match decide ((r3.length+([x3]).length)*320≤140737488355328∧r3.length+([x3]).length≤140737488355328)with|true=>k 18 (oY c d (i64.wrap (s9+1)) (r3++([x3])))|false=>none)|none=>none)|false=>k 18 (oY c d (i64.wrap (s9+1)) r3))|false=>none)|none=>none)|false=>k 18 (oY c d (i64.wrap (s9+1)) r3))|false=>none)|none=>none)|false=>(match decide (uy c r3)with|true=>(match c.1 with|true=>(match d.1 with|true=>(match !(c.2.2.2.1==d.2.2.2.1)with|true=>k 47 (cY c d r3 (hid (iK d)) false 1)|false=>(match !c.1 with|true=>(match decide (okP 4000 c.2.2.2.2.1∧okP 4000 c.2.2.2.2.2)with|true=>(match decide (okP 4000 d.2.2.2.2.1∧okP 4000 d.2.2.2.2.2)with|true=>(match(b9 (dec c.2.2.2.2.1) (dec c.2.2.2.2.2)) !=(b9 (dec d.2.2.2.2.1) (dec d.2.2.2.2.2))with|true=>k 47 (cY c d r3 (hid (iK d)) false 1)|false=>k 47 (cY c d r3 d false 1))|false=>none)|false=>none)|false=>k 47 (cY c d r3 d false 1)))|false=>(match !c.1 with|true=>(match decide (okP 4000 c.2.2.2.2.1∧okP 4000 c.2.2.2.2.2)with|true=>(match decide (okP 4000 d.2.2.2.2.1∧okP 4000 d.2.2.2.2.2)with|true=>(match(b9 (dec c.2.2.2.2.1) (dec c.2.2.2.2.2)) !=(b9 (dec d.2.2.2.2.1) (dec d.2.2.2.2.2))with|true=>k 47 (cY c d r3 (hid (iK d)) false 1)|false=>k 47 (cY c d r3 d false 1))|false=>none)|false=>none)|false=>k 47 (cY c d r3 d false 1)))|false=>(match !c.1 with|true=>(match decide (okP 4000 c.2.2.2.2.1∧okP 4000 c.2.2.2.2.2)with|true=>(match decide (okP 4000 d.2.2.2.2.1∧okP 4000 d.2.2.2.2.2)with|true=>(match(b9 (dec c.2.2.2.2.1) (dec c.2.2.2.2.2)) !=(b9 (dec d.2.2.2.2.1) (dec d.2.2.2.2.2))with|true=>k 47 (cY c d r3 (hid (iK d)) false 1)|false=>k 47 (cY c d r3 d false 1))|false=>none)|false=>none)|false=>k 47 (cY c d r3 d false 1)))|false=>none)
theorem th(c d:BCU)(s9:Int)(r3:List BP):RN rz 18 (oY c d s9 r3) (oH c d s9 r3):=rnX
def kg(c d:BCU)(s9:Int)(r3:List BP)(k:KT):Option (List RV):=match decide (s9<(([c.2.2.2.2.1,c.2.2.2.2.2,d.2.2.2.2.1,d.2.2.2.2.2]).length:Int))with|true=>(match bG ([c.2.2.2.2.1,c.2.2.2.2.2,d.2.2.2.2.1,d.2.2.2.2.2]) s9 with|some _=>(match true,([c.2.2.2.2.1,c.2.2.2.2.2,d.2.2.2.2.1,d.2.2.2.2.2])[(s9).toNat]? with|true,some x1=>(match decide (okC 3500 c∧okP 3500 x1)with|true=>(match onR (dC c) (dec x1)with|true=>(match bG ([c.2.2.2.2.1,c.2.2.2.2.2,d.2.2.2.2.1,d.2.2.2.2.2]) s9 with|some _=>(match true,([c.2.2.2.2.1,c.2.2.2.2.2,d.2.2.2.2.1,d.2.2.2.2.2])[(s9).toNat]? with|true,some x2=>(match decide (okC 3500 d∧okP 3500 x2)with|true=>(match onR (dC d) (dec x2)with|true=>(match bG ([c.2.2.2.2.1,c.2.2.2.2.2,d.2.2.2.2.1,d.2.2.2.2.2]) s9 with|some _=>(match true,([c.2.2.2.2.1,c.2.2.2.2.2,d.2.2.2.2.1,d.2.2.2.2.2])[(s9).toNat]? with|true,some x3=>(match decide ((r3.length+([x3]).length)*320≤140737488355328∧r3.length+([x3]).length≤140737488355328)with|true=>k 18 (iW c d (i64.wrap (s9+1)) (r3++([x3])))|false=>none)|_,_=>none)|none=>none)|false=>k 18 (iW c d (i64.wrap (s9+1)) r3))|false=>none)|_,_=>none)|none=>none)|false=>k 18 (iW c d (i64.wrap (s9+1)) r3))|false=>none)|_,_=>none)|none=>none)|false=>(match decide (uy c r3)with|true=>(match c.1 with|true=>(match d.1 with|true=>(match !(c.2.2.2.1==d.2.2.2.1)with|true=>k 47 (cY c d r3 (hid (iK d)) false 1)|false=>(match !c.1 with|true=>(match decide (okP 4000 c.2.2.2.2.1∧okP 4000 c.2.2.2.2.2)with|true=>(match decide (okP 4000 d.2.2.2.2.1∧okP 4000 d.2.2.2.2.2)with|true=>(match(b9 (dec c.2.2.2.2.1) (dec c.2.2.2.2.2)) !=(b9 (dec d.2.2.2.2.1) (dec d.2.2.2.2.2))with|true=>k 47 (cY c d r3 (hid (iK d)) false 1)|false=>k 47 (cY c d r3 d false 1))|false=>none)|false=>none)|false=>k 47 (cY c d r3 d false 1)))|false=>(match !c.1 with|true=>(match decide (okP 4000 c.2.2.2.2.1∧okP 4000 c.2.2.2.2.2)with|true=>(match decide (okP 4000 d.2.2.2.2.1∧okP 4000 d.2.2.2.2.2)with|true=>(match(b9 (dec c.2.2.2.2.1) (dec c.2.2.2.2.2)) !=(b9 (dec d.2.2.2.2.1) (dec d.2.2.2.2.2))with|true=>k 47 (cY c d r3 (hid (iK d)) false 1)|false=>k 47 (cY c d r3 d false 1))|false=>none)|false=>none)|false=>k 47 (cY c d r3 d false 1)))|false=>(match !c.1 with|true=>(match decide (okP 4000 c.2.2.2.2.1∧okP 4000 c.2.2.2.2.2)with|true=>(match decide (okP 4000 d.2.2.2.2.1∧okP 4000 d.2.2.2.2.2)with|true=>(match(b9 (dec c.2.2.2.2.1) (dec c.2.2.2.2.2)) !=(b9 (dec d.2.2.2.2.1) (dec d.2.2.2.2.2))with|true=>k 47 (cY c d r3 (hid (iK d)) false 1)|false=>k 47 (cY c d r3 d false 1))|false=>none)|false=>none)|false=>k 47 (cY c d r3 d false 1)))|false=>none)
theorem nP(c d:BCU)(s9:Int)(r3:List BP):RN rz 18 (iW c d s9 r3) (kg c d s9 r3):=rnX
def ov(c d:BCU)(r3:List BP)(B1:BCU)(s10:Bool)(s11:Int)(k:KT):Option (List RV):=match lQ (dC c) (dC d)with|true=>(match decide (s11<((gk (dC c) r3).length:Int))with|true=>(match s10 with|true=>k 47 (cY c d r3 B1 true (i64.wrap (s11+1)))|false=>(match bG (gk (dC c) r3) (i64.wrap (s11-1))with|some x1=>(match bG (gk (dC c) r3) s11 with|some x2=>(match decide (okC 4000 B1∧okP 4000 x1∧okP 4000 x2)with|true=>k 47 (cY c d r3 B1 (decide ((cB (dC B1) (dec x1) (dec x2))<0)) (i64.wrap (s11+1)))|false=>none)|none=>none)|none=>none))|false=>some [RV.d (.sl tP) (gk (dC c) r3),RV.d .bool s10])|false=>some [RV.d (.sl tP) (gk (dC c) r3),RV.d .bool s10]
theorem tk(c d:BCU)(r3:List BP)(B1:BCU)(s10:Bool)(s11:Int):RN rz 47 (cY c d r3 B1 s10 s11) (ov c d r3 B1 s10 s11):=rnX
theorem Uc{c:Cv}{S:List BP}{i:Nat}(h1:1≤i)(hi:i<S.length):Bm c (S.drop (i-1))=(decide (cB c (dec S[i-1]) (dec S[i])<0)||Bm c (S.drop i)):=by
 have hd:S.drop (i-1)=S[i-1]::S.drop i:=by
  have:=avk (l:=S) (i:=i-1) (by omega)
  rw[this,show i-1+1=i by omega]
 have hd2:S.drop i=S[i]::S.drop (i+1):=avk hi
 rw[hd,hd2]
 rfl
theorem aaD{c:Cv}{S:List BP}(h:S.length≤1):Bm c S=false:=by
 match S,h with
 |[],_=>rfl
 |[_],_=>rfl
theorem alY(c d:BCU)(r3 S:List BP)(hS:gk (dC c) r3=S)(hl:S.length≤1000000)(ho:∀x∈S,okP 4000 x)(B:BCU)(hB:okC 4000 B):∀(j i:Nat),1≤i→i+j=max S.length 1→∀s:Bool,
  rz.Runs 47 (cY c d r3 B s (i:Int)) [.d (.sl tP) S,.d .bool (bif lQ (dC c) (dC d)then s||Bm (dC B) (S.drop (i-1))else s)]:=by
 intro j
 induction j with
 |zero=>
  intro i h1 hi s
  refine tk _ _ _ _ _ _ ⟨0,?_⟩
  unfold ov
  rw[hS,cC (by omega),aaD (by rw[axh];omega),Bool.or_false]
  cases lQ (dC c) (dC d)<;>rfl
 |succ j ih=>
  intro i h1 hi s
  have hil:i<S.length:=by omega
  have e1:i64.wrap ((i:Int)-1)=((i-1:Nat):Int):=by rw[bi (by omega) (by omega)];omega
  have e2:i64.wrap ((i:Int)+1)=((i+1:Nat):Int):=cD (by omega)
  have g1:bG S ((i-1:Nat):Int)=some S[i-1]:=by rw[aD,au2 (by omega)]
  have g2:bG S (i:Int)=some S[i]:=by rw[aD,au2 hil]
  cases hs:lQ (dC c) (dC d)
  ·refine tk _ _ _ _ _ _ ⟨0,?_⟩
   unfold ov
   rw[hS,hs]
   rfl
  ·obtain⟨n,hn⟩:=ih (i+1) (by omega) (by omega) (s||decide (cB (dC B) (dec S[i-1]) (dec S[i])<0))
   refine tk _ _ _ _ _ _ ⟨n,?_⟩
   unfold ov
   rw[hS,hs,bS hil,e1,e2,g1,g2]
   dsimp only
   rw[dT (show okC 4000 B∧okP 4000 S[i-1]∧okP 4000 S[i] from⟨hB,ho _ (avF _),ho _ (avF _)⟩)]
   rw[hs,Nat.add_sub_cancel,Bool.or_assoc,←Uc h1 hil]at hn
   cases s
   ·exact hn
   ·simp only[Bool.true_or,cond_true]at hn ⊢
    exact hn
theorem Ko{c:Cv}{l:List BP}{p:BP→Prop}(h:∀x∈l,p x):∀x∈gk c l,p x:=fun x hx=>by
 rcases C2 hx with h'|h'
 ·cases h'
 ·exact h x h'
theorem Ke(c d:BCU)(h:rD c d)(r3:List BP)(hl:r3.length≤100)(ho:∀x∈r3,okP 500 x):∃n,(match decide (uy c r3)with
  |true=>rz.k n 47 (cY c d r3 (yz c d) false 1)
  |false=>none)=some [.d (.sl tP) (gk (dC c) r3),.d .bool (lQ (dC c) (dC d)&&Bm (dC (yz c d)) (gk (dC c) r3))]:=by
 have hs:uy c r3:=⟨dK h.1.1 (by decide) (by decide),by omega,fun x hx=>dk (ho x hx) (by decide) (by decide)⟩
 have hR:okC 4000 (yz c d):=by
  unfold yz
  have:=dK (k:=4000) h.2.1 (by decide) (by decide)
  cases acM c d
  ·exact this
  ·exact XH 4000 this
 have hlen:=uR (dC c) r3 []
 obtain⟨n,hn⟩:=alY c d r3 _ rfl (by simp at hlen;unfold gk;omega) (Ko (fun x hx=>dk (ho x hx) (by decide) (by decide))) (yz c d) hR (max (gk (dC c) r3).length 1-1) 1 (avb _) (by omega) false
 refine⟨n,?_⟩
 rw[dT hs]
 refine hn.trans ?_
 cases lQ (dC c) (dC d)<;>rfl
theorem BL{l c:Ln}[BdL l][BdC c](hl:l.1≠0∨l.2.1≠0):(qn l c).length≤2∧∀p∈qn l c,Bd p 490∧Rpd p:=by
 unfold qn
 by_cases h0:lW l c<0
 ·rw[au1 h0]
  exact⟨by simp,fun p hp=>by cases hp⟩
 ·rw[au3 h0]
  by_cases h1:lW l c=0
  ·rw[au1 h1]
   obtain⟨f1,f2,_,_⟩:=Ik (l:=l) (c:=c)
   refine⟨by simp,fun p hp=>?_⟩
   have:p=atP (ftX l c,ftY l c):=by simpa using hp
   rw[this]
   exact⟨(inferInstance:Bd (atP (ftX l c,ftY l c)) _).mono (by decide),inferInstance⟩
  ·rw[au3 h1]
   obtain⟨p1,p2⟩:=Ue (c:=c) hl (show 0≤lW l c by grind)
   obtain⟨q1,q2⟩:=RZ (l:=l) (c:=c)
   cases decide (b9 (yB l c) (yC l c)>0)
   ·refine⟨by simp,fun p hp=>?_⟩
    have:p=yB l c∨p=yC l c:=by simpa using hp
    rcases this with e|e<;>rw[e]
    ·exact⟨q1,p1⟩
    ·exact⟨q2,p2⟩
   ·refine⟨by simp,fun p hp=>?_⟩
    have:p=yC l c∨p=yB l c:=by simpa using hp
    rcases this with e|e<;>rw[e]
    ·exact⟨q2,p2⟩
    ·exact⟨q1,p1⟩
theorem aaf{l m:Ln}[BdL l][BdL m]:(Bz l m).length≤2∧∀p∈Bz l m,Bd p 490∧Rpd p:=by
 unfold Bz
 cases decide (pg l m=0)
 ·have bc:Bd (pg l m) 49:=inferInstanceAs (Bd (l.1*m.2.1-m.1*l.2.1) _)
  have bx:Bd (HS l m) 151:=inferInstanceAs (Bd (l.2.2*m.2.1-m.2.2*l.2.1) _)
  have b_:Bd (HK l m) 151:=inferInstanceAs (Bd (l.1*m.2.2-m.1*l.2.2) _)
  refine⟨by simp,fun p hp=>?_⟩
  have:p=atP (HS l m/pg l m,HK l m/pg l m):=by simpa using hp
  rw[this]
  exact⟨(inferInstance:Bd (atP (HS l m/pg l m,HK l m/pg l m)) _).mono (by decide),inferInstance⟩
 ·exact⟨by simp,fun p hp=>by cases hp⟩
theorem adR{c d:BCU}(h:xf c d):(tj (dC c) (dC d)).length≤2∧∀p∈tj (dC c) (dC d),Bd p 490∧Rpd p:=by
 obtain⟨⟨a1,a2⟩,b1,b2⟩:=h
 obtain⟨aa,al,ac,aw,af,at_⟩:=c
 obtain⟨ba,bl,bc,bw,bf,bt⟩:=d
 have ex1:∀x:BO3,dA x→BdL (dec x)∧((dec x:Ln).1≠0∨(dec x:Ln).2.1≠0):=fun x h=>by
  obtain⟨l,rfl,bl,nl⟩:=gE h
  rw[am]
  exact⟨bl,nl⟩
 have ex2:∀x:BO3,dp x→BdC (dec x):=fun x h=>by
  obtain⟨l,rfl,bl,nl⟩:=fT h
  rw[am]
  exact bl
 unfold tj
 cases aa<;>cases ba
 ·obtain⟨i1,_⟩:=ex1 _ (a2 rfl)
  obtain⟨i2,_⟩:=ex1 _ (b2 rfl)
  exact aaf (l:=dec al) (m:=dec bl)
 ·obtain⟨i1,n1⟩:=ex1 _ (a2 rfl)
  have i2:=ex2 _ (b1 rfl)
  exact BL (l:=dec al) (c:=dec bc) n1
 ·have i1:=ex2 _ (a1 rfl)
  obtain⟨i2,n2⟩:=ex1 _ (b2 rfl)
  exact BL (l:=dec bl) (c:=dec ac) n2
 ·have i1:=ex2 _ (a1 rfl)
  have i2:=ex2 _ (b1 rfl)
  show(AQ (dec ac) (dec bc)).length≤2∧∀p∈AQ (dec ac) (dec bc),Bd p 490∧Rpd p
  unfold AQ
  cases hc:qb (dec ac) (dec bc)
  ·have i3:BdL (yx (dec ac) (dec bc)):=Tt
   exact BL (Wq hc)
  ·exact⟨by simp,fun p hp=>by cases hp⟩
theorem KZ{c d:BCU}(h:rD c d):(DE c d).length≤4∧∀x∈DE c d,okP 500 x:=by
 obtain⟨⟨h1,h2⟩,h3,h4⟩:=h
 unfold DE
 cases lQ (dC c) (dC d)
 ·obtain⟨g1,g2⟩:=adR (show xf c d from⟨h2,h4⟩)
  refine⟨by simp only[Bool.not_false,cond_true,awW];omega,fun x hx=>?_⟩
  obtain⟨p,hp,rfl⟩:=axu.1 hx
  obtain⟨b,r⟩:=g2 p hp
  exact au0 (bH (j:=490) (by decide) (by decide))
 ·refine⟨by simp,fun x hx=>?_⟩
  have:x=c.2.2.2.2.1∨x=c.2.2.2.2.2∨x=d.2.2.2.2.1∨x=d.2.2.2.2.2:=by simpa using hx
  rcases this with e|e|e|e<;>rw[e]
  ·exact h1.2.2.1
  ·exact h1.2.2.2
  ·exact h3.2.2.1
  ·exact h3.2.2.2
def kJ(c d:BCU)(p:BP):Bool:=onR (dC c) (dec p)&&onR (dC d) (dec p)
theorem IP(c d:BCU)(h:rD c d)(L:List BP)(hL:(tj (dC c) (dC d)).map enc=L)(h4:L.length≤4)(ho:∀x∈L,okP 500 x):∀(j i:Nat),i+j=L.length→∀r3:List BP,r3.length≤i→(∀x∈r3,okP 500 x)→
  rz.Runs 18 (oY c d (i:Int) r3) [.d (.sl tP) (gk (dC c) (r3++(L.drop i).filter (kJ c d))),.d .bool (lQ (dC c) (dC d)&&Bm (dC (yz c d)) (gk (dC c) (r3++(L.drop i).filter (kJ c d))))]:=by
 intro j
 induction j with
 |zero=>
  intro i hi r3 hr h3
  obtain⟨n,hn⟩:=Ke c d h r3 (by omega) h3
  refine th _ _ _ _ ⟨n,?_⟩
  have hd:L.drop i=[]:=axD.2 (by omega)
  rw[hd,List.filter_nil,avR,←hn]
  unfold oH
  rw[hL,cC (by omega)]
  have hs:uy c r3:=⟨dK h.1.1 (by decide) (by decide),by omega,fun x hx=>dk (h3 x hx) (by decide) (by decide)⟩
  have o1:decide (okP 4000 c.2.2.2.2.1∧okP 4000 c.2.2.2.2.2)=true:=au1 ⟨dk h.1.1.2.2.1 (by decide) (by decide),dk h.1.1.2.2.2 (by decide) (by decide)⟩
  have o2:decide (okP 4000 d.2.2.2.2.1∧okP 4000 d.2.2.2.2.2)=true:=au1 ⟨dk h.2.1.2.2.1 (by decide) (by decide),dk h.2.1.2.2.2 (by decide) (by decide)⟩
  rw[dT hs,o1,o2]
  dsimp only
  unfold yz acM bne
  simp only[ak]
  cases c.1<;>cases d.1<;>cases(c.2.2.2.1==d.2.2.2.1)<;>cases(b9 (dec c.2.2.2.2.1) (dec c.2.2.2.2.2)==b9 (dec d.2.2.2.2.1) (dec d.2.2.2.2.2))<;>rfl
 |succ j ih=>
  intro i hi r3 hr h3
  have hil:i<L.length:=by omega
  have e2:i64.wrap ((i:Int)+1)=((i+1:Nat):Int):=cD (by omega)
  have g2:bG L (i:Int)=some L[i]:=by rw[aD,au2 hil]
  have g3:L[((i:Int)).toNat]?=some L[i]:=by rw[show((i:Int)).toNat=i by omega,au2 hil]
  have hx:=ho _ (avF hil)
  have hd:L.drop i=L[i]::L.drop (i+1):=avk hil
  have ox:=dk (k:=3500) hx (by decide) (by decide)
  have o1:decide (okC 3500 c∧okP 3500 L[i])=true:=au1 ⟨dK h.1.1 (by decide) (by decide),ox⟩
  have o2:decide (okC 3500 d∧okP 3500 L[i])=true:=au1 ⟨dK h.2.1 (by decide) (by decide),ox⟩
  have hf:(L.drop i).filter (kJ c d)=bif kJ c d L[i]then L[i]::(L.drop (i+1)).filter (kJ c d)else(L.drop (i+1)).filter (kJ c d):=by
   rw[hd,List.filter_cons]
   cases kJ c d L[i]<;>rfl
  cases hb:kJ c d L[i]
  ·rw[hb]at hf
   obtain⟨n,hn⟩:=ih (i+1) (by omega) r3 (by omega) h3
   refine th _ _ _ _ ⟨n,?_⟩
   rw[hf]
   dsimp only[cond_false]
   rw[←hn]
   unfold kJ at hb
   unfold oH
   rw[hL,bS hil,g2,e2]
   dsimp only
   try rw[g3]
   try dsimp only
   rw[o1,o2]
   dsimp only
   cases h1:onR (dC c) (dec L[i])
   ·rfl
   ·rw[h1,au5]at hb
    rw[hb]
  ·rw[hb]at hf
   obtain⟨n,hn⟩:=ih (i+1) (by omega) (r3++[L[i]]) (by simp;omega) (fun x hx'=>by
    rcases avI.1 hx' with h'|h'
    ·exact h3 x h'
    ·have:x=L[i]:=by simpa using h'
     rw[this];exact hx)
   refine th _ _ _ _ ⟨n,?_⟩
   rw[hf]
   dsimp only[cond_true]
   rw[awd]at hn
   refine Eq.trans ?_ hn
   unfold kJ at hb
   obtain⟨h1,h2⟩:=avL.1 hb
   unfold oH
   rw[hL,bS hil,g2,e2]
   dsimp only
   try rw[g3]
   try dsimp only
   rw[o1,o2,h1,h2]
   dsimp only
   rw[dT (by simp;omega)]
theorem C7(c d:BCU)(h:rD c d)(L:List BP)(hL:[c.2.2.2.2.1,c.2.2.2.2.2,d.2.2.2.2.1,d.2.2.2.2.2]=L)(h4:L.length≤4)(ho:∀x∈L,okP 500 x):∀(j i:Nat),i+j=L.length→∀r3:List BP,r3.length≤i→(∀x∈r3,okP 500 x)→
  rz.Runs 18 (iW c d (i:Int) r3) [.d (.sl tP) (gk (dC c) (r3++(L.drop i).filter (kJ c d))),.d .bool (lQ (dC c) (dC d)&&Bm (dC (yz c d)) (gk (dC c) (r3++(L.drop i).filter (kJ c d))))]:=by
 intro j
 induction j with
 |zero=>
  intro i hi r3 hr h3
  obtain⟨n,hn⟩:=Ke c d h r3 (by omega) h3
  refine nP _ _ _ _ ⟨n,?_⟩
  have hd:L.drop i=[]:=axD.2 (by omega)
  rw[hd,List.filter_nil,avR,←hn]
  unfold kg
  rw[hL,cC (by omega)]
  have hs:uy c r3:=⟨dK h.1.1 (by decide) (by decide),by omega,fun x hx=>dk (h3 x hx) (by decide) (by decide)⟩
  have o1:decide (okP 4000 c.2.2.2.2.1∧okP 4000 c.2.2.2.2.2)=true:=au1 ⟨dk h.1.1.2.2.1 (by decide) (by decide),dk h.1.1.2.2.2 (by decide) (by decide)⟩
  have o2:decide (okP 4000 d.2.2.2.2.1∧okP 4000 d.2.2.2.2.2)=true:=au1 ⟨dk h.2.1.2.2.1 (by decide) (by decide),dk h.2.1.2.2.2 (by decide) (by decide)⟩
  rw[dT hs,o1,o2]
  dsimp only
  unfold yz acM bne
  simp only[ak]
  cases c.1<;>cases d.1<;>cases(c.2.2.2.1==d.2.2.2.1)<;>cases(b9 (dec c.2.2.2.2.1) (dec c.2.2.2.2.2)==b9 (dec d.2.2.2.2.1) (dec d.2.2.2.2.2))<;>rfl
 |succ j ih=>
  intro i hi r3 hr h3
  have hil:i<L.length:=by omega
  have e2:i64.wrap ((i:Int)+1)=((i+1:Nat):Int):=cD (by omega)
  have g2:bG L (i:Int)=some L[i]:=by rw[aD,au2 hil]
  have g3:L[((i:Int)).toNat]?=some L[i]:=by rw[show((i:Int)).toNat=i by omega,au2 hil]
  have hx:=ho _ (avF hil)
  have hd:L.drop i=L[i]::L.drop (i+1):=avk hil
  have ox:=dk (k:=3500) hx (by decide) (by decide)
  have o1:decide (okC 3500 c∧okP 3500 L[i])=true:=au1 ⟨dK h.1.1 (by decide) (by decide),ox⟩
  have o2:decide (okC 3500 d∧okP 3500 L[i])=true:=au1 ⟨dK h.2.1 (by decide) (by decide),ox⟩
  have hf:(L.drop i).filter (kJ c d)=bif kJ c d L[i]then L[i]::(L.drop (i+1)).filter (kJ c d)else(L.drop (i+1)).filter (kJ c d):=by
   rw[hd,List.filter_cons]
   cases kJ c d L[i]<;>rfl
  cases hb:kJ c d L[i]
  ·rw[hb]at hf
   obtain⟨n,hn⟩:=ih (i+1) (by omega) r3 (by omega) h3
   refine nP _ _ _ _ ⟨n,?_⟩
   rw[hf]
   dsimp only[cond_false]
   rw[←hn]
   unfold kJ at hb
   unfold kg
   rw[hL,bS hil,g2,e2]
   dsimp only
   try rw[g3]
   try dsimp only
   rw[o1,o2]
   dsimp only
   cases h1:onR (dC c) (dec L[i])
   ·rfl
   ·rw[h1,au5]at hb
    rw[hb]
  ·rw[hb]at hf
   obtain⟨n,hn⟩:=ih (i+1) (by omega) (r3++[L[i]]) (by simp;omega) (fun x hx'=>by
    rcases avI.1 hx' with h'|h'
    ·exact h3 x h'
    ·have:x=L[i]:=by simpa using h'
     rw[this];exact hx)
   refine nP _ _ _ _ ⟨n,?_⟩
   rw[hf]
   dsimp only[cond_true]
   rw[awd]at hn
   refine Eq.trans ?_ hn
   unfold kJ at hb
   obtain⟨h1,h2⟩:=avL.1 hb
   unfold kg
   rw[hL,bS hil,g2,e2]
   dsimp only
   try rw[g3]
   try dsimp only
   rw[o1,o2,h1,h2]
   dsimp only
   rw[dT (by simp;omega)]
theorem Z3(c d:BCU)(h:rD c d):Con Tryz.prog 27 [.d tCU c,.d tCU d] [.d (.sl tP) (ma c d),.d .bool (akX c d)]:=by
 obtain⟨h4,ho⟩:=KZ h
 have hsp:xf c d:=⟨h.1.2,h.2.2⟩
 refine aR Vi (show rz.Res _ _ _ from ?_)
 unfold DE at h4 ho
 unfold ma akX ma aiq DE
 cases hs:lQ (dC c) (dC d)
 ·rw[hs]at h4 ho
  obtain⟨n,hn⟩:=IP c d h _ rfl h4 ho _ 0 (avD _) [] (avb _) (fun x hx=>by cases hx)
  refine aeM _ _ ⟨n,?_⟩
  unfold S7
  rw[dT hsp,hs]
  rw[hs]at hn
  exact hn
 ·rw[hs]at h4 ho
  obtain⟨n,hn⟩:=C7 c d h _ rfl h4 ho _ 0 (avD _) [] (avb _) (fun x hx=>by cases hx)
  refine aeM _ _ ⟨n,?_⟩
  unfold S7
  rw[dT hsp,hs]
  rw[hs]at hn
  exact hn
def HX:aO:=spN false true [tCU,tCU] (fun x=>decide (rD x.1 x.2.1)) (fun x=>[RV.d (.sl tP) (ma x.1 x.2.1),RV.d .bool (akX x.1 x.2.1)])
theorem Ds:SpK 27 HX:=spX fun x h=>Z3 x.1 x.2.1 (au0 h)
end Go.Proofs.YtlahabkjhgkkjaaGreat
end
