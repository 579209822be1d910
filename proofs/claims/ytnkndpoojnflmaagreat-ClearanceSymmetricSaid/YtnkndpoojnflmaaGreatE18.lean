/- Pieces of a curve, common pieces: the program's contracts. -/
import Derived.Test.YtnkndpoojnflmaaGreatE17
import Derived.Test.YtnkndpoojnflmaaGreatE16
import Derived.Test.YtnkndpoojnflmaaGreatE15
import Derived.Test.YtnkndpoojnflmaaGreatE6
import Derived.ProofKit
import Derived.OpenShut
import Derived.ChangeSame
import Derived.Deep.Slices
import Derived.Test.YtnkndpoojnflmaaGreatE14
import Derived.Test.YtnkndpoojnflmaaGreatE13
noncomputable section
namespace Go.Proofs.YtnkndpoojnflmaaGreat
open Go.RowKit Go.IntKind
section
def xm(c d:BCU)(l:List BP):Prop:=k9 c l∧okC 4000 d
instance (c d:BCU) (l:List BP):Decidable (xm c d l):=by unfold xm;infer_instance
theorem ac7(d:BCU):(dS d).1=d.1:=by
 unfold dS
 cases d.2.2.2.1<;>rfl
theorem GX{k:Nat}{d:BCU}(h:okC k d):okC k (dS d):=by
 unfold dS
 cases d.2.2.2.1
 ·exact h
 ·exact Bq k h
theorem A9{c:BCU}(hc:okC 4000 c):∀{L:List BP} {f:BP},okP 4000 f→(∀x∈L,okP 4000 x)→∀p∈yN c f L,okC 4000 p
 |[],f,hf,_,p,hp=>by
  rw[List.mem_singleton.1 hp]
  exact⟨hc.1,hc.2.1,hf,hc.2.2.2⟩
 |x::r,f,hf,hL,p,hp=>by
  have hx:=hL x (by simp)
  have hr:∀y∈r,okP 4000 y:=fun y hy=>hL y (alh _ hy)
  unfold yN at hp
  cases h:il x c.2.2.2.2.1||il x c.2.2.2.2.2<;>rw[h]at hp
  ·rcases ali.1 hp with e|e
   ·rw[e];exact⟨hc.1,hc.2.1,hf,hx⟩
   ·exact A9 hc hx hr p e
  ·exact A9 hc hf hr p hp
theorem Te{c:BCU}{l:List BP}(h:k9 c l):(rS c l).length≤20∧∀p∈rS c l,okC 4000 p:=by
 obtain⟨hc,hl,ho⟩:=h
 have hs:∀x∈dg (dC c) l,okP 4000 x:=fun x hx=>ho x (jp hx)
 have hn:(dg (dC c) l).length≤l.length:=pn
 have len:∀(L:List BP) (f:BP),(yN c f L).length≤L.length+1:=by
  intro L
  induction L with
  |nil=>intro f;simp[yN]
  |cons x r ih=>
   intro f
   unfold yN
   cases il x c.2.2.2.2.1||il x c.2.2.2.2.2
   ·have:=ih x;simp only[cond_false,alj];omega
   ·have:=ih f;simp only[cond_true,alj];omega
 unfold rS
 cases Z7 c l
 ·refine⟨?_,A9 hc hc.2.2.1 hs⟩
  have:=len (dg (dC c) l) c.2.2.2.2.1
  simp only[cond_false]
  unfold acd
  omega
 ·exact⟨by simp,fun p hp=>by cases hp⟩
def Me:List En:=[enT Jp,enT OV,enK R6]
def acQ:NT:=[((188,6),{keep:=[0,1,7,8],hl:=1}),((197,18),{keep:=[2,6,7,17,18,19],own:=[(6,39,tCU)],hl:=3}),((197,4),{keep:=[1,2,13],hl:=0}),((289,3),{keep:=[7],hl:=0}),((188,18),{keep:=[0,1,5,7,8,16],hl:=0})]
def DR:Ctx:=CX (ens Me) acQ
def nN(c:BCU)(l:List BP)(s188_8:Int):Cfg:=⟨188,[.blk 0,.seq 25],[(0,.d (.sl tP) l),(1,.clo 290 [0]),(7,SI (l.length:Int)),(8,SI s188_8)],[.box 39 (Ty.split tCU c)],1,[⟨289,[.seq 4],3,2,[],1,none⟩,⟨197,[.seq 5,.seq 10],4,2,[(1,.d (.sl tP) l),(2,.box 0 0)],0,none⟩]⟩
def qn(c:BCU)(l:List BP)(s19:Int)(B1:BCU)(r2:List BCU):Cfg:=⟨197,[.blk 0,.seq 41],[(2,.box 0 0),(6,.own 2),(7,.box 1 0),(17,.d (.sl tP) (dg (dC c) l)),(18,SI ((dg (dC c) l).length:Int)),(19,SI s19)],[.box 39 (Ty.split tCU c),.box 39 (Ty.split tCU B1),.row 39 tCU r2],0,[]⟩
def agj(c:BCU)(l:List BP)(k:KT):Option (List RV):=k 6 (nN c l 0)
theorem ah6(c:BCU)(l:List BP):RS DR 197 [.d tCU c,.d (.sl tP) l] (agj c l):=rsX
def nH(c:BCU)(l:List BP)(s188_8:Int)(k:KT):Option (List RV):=match decide (s188_8<(l.length:Int))with|true=>(match aR l s188_8 with|some x1=>(match decide (okC 4000 c∧okP 4000 x1)with|true=>(match !(onP (dC c) (dec x1))with|true=>(match decide (s188_8≥0)with|true=>some [RV.d (.sl tCU) ([]),RV.d aon 1]|false=>(match decide (k9 c l)with|true=>none|false=>none))|false=>k 6 (nN c l (i64.wrap (s188_8+1))))|false=>none)|none=>none)|false=>(match decide ((-1)≥0)with|true=>some [RV.d (.sl tCU) ([]),RV.d aon 1]|false=>(match decide (k9 c l)with|true=>k 18 (qn c l 0 c ([]))|false=>none))
theorem tC(c:BCU)(l:List BP)(s188_8:Int):RN DR 6 (nN c l s188_8) (nH c l s188_8):=rnX
def uX(c:BCU)(l:List BP)(s19:Int)(B1:BCU)(r2:List BCU)(k:KT):Option (List RV):=match decide (s19<((dg (dC c) l).length:Int))with|true=>(match aR (dg (dC c) l) s19 with|some x1=>(match decide (okP 4000 x1∧okP 4000 c.2.2.2.2.1)with|true=>(match aV (dec x1) (dec c.2.2.2.2.1)==0 with|true=>k 18 (qn c l (i64.wrap (s19+1)) B1 r2)|false=>(match decide (okP 4000 x1∧okP 4000 c.2.2.2.2.2)with|true=>(match aV (dec x1) (dec c.2.2.2.2.2)==0 with|true=>k 18 (qn c l (i64.wrap (s19+1)) B1 r2)|false=>dup (.b .l .l) (match decide ((r2.length+([(B1.1,(B1.2.1,(B1.2.2.1,(B1.2.2.2.1,(B1.2.2.2.2.1,x1)))))]).length)*1040≤140737488355328∧r2.length+([(B1.1,(B1.2.1,(B1.2.2.1,(B1.2.2.2.1,(B1.2.2.2.2.1,x1)))))]).length≤140737488355328)with|true=>k 18 (qn c l (i64.wrap (s19+1)) (B1.1,(B1.2.1,(B1.2.2.1,(B1.2.2.2.1,(x1,B1.2.2.2.2.2))))) (r2++([(B1.1,(B1.2.1,(B1.2.2.1,(B1.2.2.2.1,(B1.2.2.2.2.1,x1)))))])))|false=>none))|false=>none))|false=>none)|none=>none)|false=>(match decide ((r2.length+([B1]).length)*1040≤140737488355328∧r2.length+([B1]).length≤140737488355328)with|true=>some [RV.d (.sl tCU) (r2++([B1])),RV.d aon 0]|false=>none)
theorem z4(c:BCU)(l:List BP)(s19:Int)(B1:BCU)(r2:List BCU):RN DR 18 (qn c l s19 B1 r2) (uX c l s19 B1 r2):=rnX
section
variable (c:BCU) (l:List BP) (h:k9 c l)
include h
theorem Ih:∀(L:List BP) (i:Nat),(dg (dC c) l).drop i=L→i≤(dg (dC c) l).length→∀(f:BP) (r2:List BCU),r2.length≤i→DR.Runs 18 (qn c l (i:Int) (Ch c f c.2.2.2.2.2) r2) [.d (.sl tCU) (r2++yN c f L),.d aon (0:Int)]
 |[],i,hd,hi,f,r2,hr=>by
  have hn:(dg (dC c) l).length≤l.length:=pn
  have hl:=h.2.1
  have hlen:=congrArg List.length hd
  rw[anw,List.length_nil]at hlen
  refine z4 _ _ _ _ _ ⟨0,?_⟩
  unfold uX
  rw[cd (by omega),alt,Ak (by omega) (by omega)]
  rfl
 |x::r,i,hd,hi,f,r2,hr=>by
  have hn:(dg (dC c) l).length≤l.length:=pn
  have hl:=h.2.1
  have hlen:=congrArg List.length hd
  rw[anw,alj]at hlen
  have hil:i<(dg (dC c) l).length:=by omega
  have hd2:=alm hil
  rw[hd2]at hd
  injection hd with e1 e2
  have hx:okP 4000 x:=by rw[←e1];exact h.2.2 _ (jp (alE hil))
  have g1:aR (dg (dC c) l) (i:Int)=some x:=by rw[ao,ak4 hil,e1]
  have ih:=Ih r (i+1) e2 (by omega)
  refine z4 _ _ _ _ _ ?_
  unfold uX yN
  rw[bH hil,g1,bW (by omega)]
  dsimp only
  rw[dT (show okP 4000 x∧okP 4000 c.2.2.2.2.1 from⟨hx,h.1.2.2.1⟩),dT (show okP 4000 x∧okP 4000 c.2.2.2.2.2 from⟨hx,h.1.2.2.2⟩)]
  unfold il
  cases q1:aV (dec x) (dec c.2.2.2.2.1)==0
  ·cases q2:aV (dec x) (dec c.2.2.2.2.2)==0
   ·obtain⟨n,hn⟩:=ih x (r2++[Ch c f x]) (by simp;omega)
    refine⟨n,?_⟩
    rw[alu]at hn
    simp only[eZ]
    rw[alt,Ak (by omega) (by omega)]
    exact hn
   ·exact ih f r2 (by omega)
  ·exact ih f r2 (by omega)
theorem ack:∀(j i:Nat),i+j=l.length→DR.Runs 6 (nN c l (i:Int)) [.d (.sl tCU) (bif (l.drop i).any (fun p=>!onP (dC c) (dec p))then []else acd c l),.d aon (bif (l.drop i).any (fun p=>!onP (dC c) (dec p))then(1:Int)else 0)]:=by
 intro j
 have hl:=h.2.1
 induction j with
 |zero=>
  intro i hi
  obtain⟨n,hn⟩:=Ih c l h (dg (dC c) l) 0 rfl (anC _) c.2.2.2.2.1 [] (ak9 _)
  refine tC _ _ _ ⟨n,?_⟩
  unfold nH
  rw[cd (by omega),pj (by omega)]
  dsimp only
  rw[dF (show ¬(-1:Int)≥0 by decide),dT h]
  exact hn
 |succ j ih=>
  intro i hi
  have hil:i<l.length:=by omega
  obtain⟨n,hn⟩:=ih (i+1) (by omega)
  refine tC _ _ _ ⟨n,?_⟩
  unfold nH
  rw[bH hil,ao,ak4 hil,gA hil,aoa,bW (by omega)]
  dsimp only
  rw[dT (show okC 4000 c∧okP 4000 l[i] from⟨h.1,h.2.2 _ (alE _)⟩)]
  cases onP (dC c) (dec l[i])
  ·dsimp only[Bool.not_false]
   rw[dT (show(i:Int)≥0 by omega)]
   rfl
  ·exact hn
end
def afE:Cn 197 [tCU,(.sl tP)]:=cn fun(c:BCU) (l:List BP)=>lf (k9 c l) [.d (.sl tCU) (rS c l),.d aon (ajG c l)] fun h=>by
 have q:=ack c l h l.length 0 (alI _)
 exact c7 Me (ah6 _ _ q)
def aaa:List En:=[enT Jp,enT OV,enL Yx,enT Nv]
def Wl(d p:BCU)(_k:KT):Option (List RV):=og (decide (okC 4000 d∧okP 4000 p.2.2.2.2.1)) (match !(onP (dC d) (dec p.2.2.2.2.1))with|true=>some [RV.d .bool false]|false=>(og (decide (okC 4000 d∧okP 4000 p.2.2.2.2.2)) (match !(onP (dC d) (dec p.2.2.2.2.2))with|true=>some [RV.d .bool false]|false=>(match !d.1 with|true=>some [RV.d .bool true]|false=>(og (decide (okP 4000 ((((((hid (dS p)).2).2).2).2).1)∧okP 4000 ((((((hid (dS d)).2).2).2).2).2))) (match aV (dec ((((((hid (dS p)).2).2).2).2).1)) (dec ((((((hid (dS d)).2).2).2).2).2))==0 with|true=>some [RV.d .bool false]|false=>(og (decide (ok Ln 300 ((((hid (dS d)).2).2).1)∧okP 4000 ((((((hid (dS p)).2).2).2).2).1)∧okP 4000 ((((((hid (dS p)).2).2).2).2).2)∧okP 4000 ((((((hid (dS d)).2).2).2).2).2))) (some [RV.d .bool (decide ((gF a8 (ptd (dec ((((hid (dS d)).2).2).1)) (dec ((((((hid (dS p)).2).2).2).2).1))) (ptd (dec ((((hid (dS d)).2).2).1)) (dec ((((((hid (dS p)).2).2).2).2).2))) (ptd (dec ((((hid (dS d)).2).2).1)) (dec ((((((hid (dS d)).2).2).2).2).2))))≤0))]))))))))
def aen:Cn 199 [tCU,tCU]:=cn fun(d p:BCU)=>lf (okC 4000 d∧okC 4000 p) [.d .bool (D8 d p)] fun h=>by
 refine aA aaa (Wl d p) ⟨0,?_⟩
 obtain⟨hd,hp⟩:=h
 have hd':=GX hd
 have hp':=GX hp
 unfold Wl D8 frB toB il
 simp only[bL]
 rw[dT (show okC 4000 d∧okP 4000 p.2.2.2.2.1 from⟨hd,hp.2.2.1⟩),dT (show okC 4000 d∧okP 4000 p.2.2.2.2.2 from⟨hd,hp.2.2.2⟩)]
 cases onP (dC d) (dec p.2.2.2.2.1)
 ·rfl
 ·cases onP (dC d) (dec p.2.2.2.2.2)
  ·rfl
  ·cases ha:d.1
   ·rfl
   ·rw[dT (show okP 4000 (dS p).2.2.2.2.1∧okP 4000 (dS d).2.2.2.2.2 from⟨hp'.2.2.1,hd'.2.2.2⟩),dT (show ok Ln 300 (dS d).2.2.1∧okP 4000 (dS p).2.2.2.2.1∧okP 4000 (dS p).2.2.2.2.2∧okP 4000 (dS d).2.2.2.2.2 from⟨(hd'.1 ((ac7 d).trans ha)).1,hp'.2.2.1,hp'.2.2.2,hd'.2.2.2⟩)]
    cases aV (dec (dS p).2.2.2.2.1) (dec (dS d).2.2.2.2.2)==0<;>rfl
def Ld:List En:=[enK afE,enT aen]
def aac:NT:=[((69,6),{keep:=[0,1,7,8],hl:=2}),((91,5),{keep:=[17],hl:=0}),((71,3),{keep:=[7],hl:=0}),((69,18),{keep:=[0,1,5,7,8,16],hl:=0})]
def K8:Ctx:=CX (ens Ld) aac
def pM(c d:BCU)(l:List BP)(s69_8:Int):Cfg:=⟨69,[.blk 0,.seq 25],[(0,.d (.sl tCU) (rS c l)),(1,.clo 198 [1]),(7,SI ((rS c l).length:Int)),(8,SI s69_8)],[.box 39 (Ty.split tCU c),.box 39 (Ty.split tCU d)],2,[⟨71,[.seq 4],3,2,[],2,none⟩,⟨91,[.seq 6],5,2,[],0,none⟩]⟩
def Wz(c d:BCU)(l:List BP)(k:KT):Option (List RV):=og (decide (k9 c l)) (k 6 (pM c d l 0))
theorem aeZ(c d:BCU)(l:List BP):RS K8 91 [.d tCU c,.d tCU d,.d (.sl tP) l] (Wz c d l):=rsX
def pe(c d:BCU)(l:List BP)(s69_8:Int)(k:KT):Option (List RV):=match decide (s69_8<((rS c l).length:Int))with|true=>(match aR (rS c l) s69_8 with|some x1=>(og (decide (okC 4000 d∧okC 4000 x1)) (match D8 d x1 with|true=>some [RV.d .bool (decide (s69_8≥0))]|false=>k 6 (pM c d l (i64.wrap (s69_8+1)))))|none=>none)|false=>some [RV.d .bool (decide ((-1)≥0))]
theorem vf(c d:BCU)(l:List BP)(s69_8:Int):RN K8 6 (pM c d l s69_8) (pe c d l s69_8):=rnX
theorem acF(c d:BCU)(l:List BP)(h:xm c d l):∀(j i:Nat),i+j=(rS c l).length→K8.Runs 6 (pM c d l (i:Int)) [.d .bool (((rS c l).drop i).any (D8 d))]:=by
 obtain⟨hn,ho⟩:=Te h.1
 intro j
 induction j with
 |zero=>
  intro i hi
  refine vf _ _ _ _ ⟨0,?_⟩
  unfold pe
  rw[cd (by omega),pj (by omega)]
  rfl
 |succ j ih=>
  intro i hi
  have hil:i<(rS c l).length:=by omega
  obtain⟨n,hn⟩:=ih (i+1) (by omega)
  refine vf _ _ _ _ ⟨n,?_⟩
  unfold pe
  rw[bH hil,ao,ak4 hil,gA hil,aoa,bW (by omega)]
  dsimp only
  rw[dT (show okC 4000 d∧okC 4000 (rS c l)[i] from⟨h.2,ho _ (alE _)⟩)]
  cases D8 d (rS c l)[i]
  ·exact hn
  ·dsimp only
   rw[dT (show(i:Int)≥0 by omega)]
   rfl
def Wa:Cn 91 [tCU,tCU,(.sl tP)]:=cn fun(c d:BCU) (l:List BP)=>lf (xm c d l) [.d .bool (yi c d l)] fun h=>by
 obtain⟨n,hn⟩:=acF c d l h (rS c l).length 0 (alI _)
 refine c7 Ld (aeZ _ _ _ ⟨n,?_⟩)
 unfold Wz
 rw[dT h.1]
 exact hn
end
section
theorem Es{c d:BCU}(h:fA c d):(jB c d).length≤4∧∀x∈jB c d,okP 4000 x:=by
 obtain⟨⟨h1,h2⟩,h3,h4⟩:=h
 have up:∀{k x},okP k x→k≤4000→okP 4000 x:=fun h hk=>cK h hk (by decide)
 unfold jB
 cases hs:cJ (dC c) (dC d)
 ·refine⟨?_,fun x hx=>?_⟩
  ·simp only[cond_false,amO]
   have:∀l c,[BdL l]→[BdC c]→(kE l c).length≤4:=fun l c _ _=>alg tY.1 (by decide)
   obtain⟨c1,c2⟩:=l4 h2
   obtain⟨d1,d2⟩:=l4 h4
   have ec:(dC c).1=c.1:=rfl
   have ed:(dC d).1=d.1:=rfl
   unfold gK
   rw[ec,ed]
   cases ha:c.1<;>cases hb:d.1
   ·have i1:=(c2 ha).1
    have i2:=(d2 hb).1
    exact alg wh.1 (by decide)
   ·have i1:=(c2 ha).1
    have i2:=(d1 hb).1
    exact this _ _
   ·have i1:=(c1 ha).1
    have i2:=(d2 hb).1
    exact this _ _
   ·have i1:=(c1 ha).1
    have i2:=(d1 hb).1
    show(uO _ _).length≤4
    unfold uO
    cases hq:ij (ciC (dC c)) (ciC (dC d))
    ·have i3:BdL (mr (ciC (dC c)) (ciC (dC d))):=wA
     exact this _ _
    ·exact anC _
  ·obtain⟨p,hp,rfl⟩:=amY.1 hx
   obtain⟨b,r,_,_⟩:=RE.supM_on h2 h4 hp
   exact ak6 (aN (j:=1200) (by decide) (by decide))
 ·refine⟨by simp,fun x hx=>?_⟩
  have:x=c.2.2.2.2.1∨x=c.2.2.2.2.2∨x=d.2.2.2.2.1∨x=d.2.2.2.2.2:=by simpa using hx
  rcases this with e|e|e|e<;>rw[e]
  ·exact up h1.2.2.1 (by decide)
  ·exact up h1.2.2.2 (by decide)
  ·exact up h3.2.2.1 (by decide)
  ·exact up h3.2.2.2 (by decide)
theorem IN{α:Type}(z:α)(L T:List α):((jw z ((L.length:Int).toNat) ((((L++T).length:Int)).toNat-(L.length:Int).toNat) (L++T)).drop ((0:Int).toNat)).take ((L.length:Int).toNat-(0:Int).toNat)=L∧
  L.length≤(jw z ((L.length:Int).toNat) ((((L++T).length:Int)).toNat-(L.length:Int).toNat) (L++T)).length:=by
 have hcl:(jw z ((L.length:Int).toNat) ((((L++T).length:Int)).toNat-(L.length:Int).toNat) (L++T)).take L.length=L:=by
  unfold jw
  rw[show((L.length:Int)).toNat=L.length by omega,alu,List.take_append_of_le_length (by simp),aoe,Nat.min_self,List.take_left' rfl]
 refine⟨?_,?_⟩
 ·rw[show((0:Int)).toNat=0 from rfl,amL,show((L.length:Int)).toNat-0=L.length by omega,hcl]
 ·have:=congrArg List.length hcl
  rw[alP]at this
  omega
def adb:Cn 84 [tCU,tCU]:=cn fun(a b:BCU)=>lf (gS a b∧cJ (dC a) (dC b)=true) [.d .bool true] fun h=>by
 have e:Con Tryz.prog 84 [.d tCU a,.d tCU b] [.d .bool (cJ (dC a) (dC b))]:=(XH.g a b).h h.1
 rw[h.2]at e
 exact e
def MK:List En:=[enT adb,enT OR,enL XM,enK R6,enF Wa,enK FP]
def Tq:NT:=[((188,6),{keep:=[0,1,7,8],hl:=4}),((86,16),{keep:=[0,1,5,6],hl:=4}),((42,11),{keep:=[2,3,26,28],hl:=0}),((86,3),{keep:=[0,1,10],hl:=0}),((188,18),{keep:=[0,1,5,7,8,16],hl:=0}),((86,28),{keep:=[0,1,5,6,7,28],hl:=0})]
def kz:Ctx:=CX (ens MK) Tq
def jG(c d:BCU)(s188_8:Int):Cfg:=⟨188,[.blk 0,.seq 25],[(0,.own 3),(1,.clo 88 [0,1]),(7,SI (([c.2.2.2.2.1,c.2.2.2.2.2,d.2.2.2.2.1,d.2.2.2.2.2]).length:Int)),(8,SI s188_8)],[.box 39 (Ty.split tCU c),.box 39 (Ty.split tCU d),.gone,.row 37 tP ([c.2.2.2.2.1,c.2.2.2.2.2,d.2.2.2.2.1,d.2.2.2.2.2])],4,[⟨86,[.seq 4],3,2,[(0,.own 3),(1,.clo 88 [0,1])],4,none⟩,⟨42,[.seq 12],11,3,[(2,.box 0 0),(3,.box 1 0),(26,.own 3)],0,none⟩]⟩
def dK(c d:BCU)(s86_5 s86_6:Int)(r86_3:List BP):Cfg:=⟨86,[.blk 0,.seq 35],[(0,.own 3),(1,.clo 88 [0,1]),(5,SI s86_5),(6,SI s86_6)],[.box 39 (Ty.split tCU c),.box 39 (Ty.split tCU d),.gone,.row 37 tP r86_3],4,[⟨42,[.seq 12],11,3,[(2,.box 0 0),(3,.box 1 0),(26,.own 3)],0,none⟩]⟩
def PC(c d:BCU)(k:KT):Option (List RV):=match decide (gS c d∧cJ (dC c) (dC d)=true)with|true=>(match decide (([c.2.2.2.2.1,c.2.2.2.2.2,d.2.2.2.2.1,d.2.2.2.2.2]).length≤100000)with|true=>k 6 (jG c d 0)|false=>none)|false=>none
theorem abT(c d:BCU):RS kz 42 [.d tCU c,.d tCU d] (PC c d):=rsX
def jb(c d:BCU)(s188_8:Int)(k:KT):Option (List RV):=match decide (s188_8<(([c.2.2.2.2.1,c.2.2.2.2.2,d.2.2.2.2.1,d.2.2.2.2.2]).length:Int))with|true=>(match aR ([c.2.2.2.2.1,c.2.2.2.2.2,d.2.2.2.2.1,d.2.2.2.2.2]) s188_8 with|some _=>(match true,([c.2.2.2.2.1,c.2.2.2.2.2,d.2.2.2.2.1,d.2.2.2.2.2])[(s188_8).toNat]? with|true,some x1=>(match decide (okC 4000 c∧okP 4000 x1)with|true=>(match !(ik (dC c) (dec x1))with|true=>(match s188_8==(-1)with|true=>(match decide (k9 c ([c.2.2.2.2.1,c.2.2.2.2.2,d.2.2.2.2.1,d.2.2.2.2.2]))with|true=>(match decide (gS c d∧cJ (dC c) (dC d)=true)with|true=>(match decide (xm c d (dg (dC c) ([c.2.2.2.2.1,c.2.2.2.2.2,d.2.2.2.2.1,d.2.2.2.2.2])))with|true=>some [RV.d (.sl tP) (dg (dC c) ([c.2.2.2.2.1,c.2.2.2.2.2,d.2.2.2.2.1,d.2.2.2.2.2])),RV.d .bool (yi c d (dg (dC c) ([c.2.2.2.2.1,c.2.2.2.2.2,d.2.2.2.2.1,d.2.2.2.2.2])))]|false=>none)|false=>none)|false=>none)|false=>k 16 (dK c d s188_8 (i64.wrap (s188_8+1)) ([c.2.2.2.2.1,c.2.2.2.2.2,d.2.2.2.2.1,d.2.2.2.2.2])))|false=>(match decide (okC 4000 d∧okP 4000 x1)with|true=>(match !(ik (dC d) (dec x1))with|true=>(match s188_8==(-1)with|true=>(match decide (k9 c ([c.2.2.2.2.1,c.2.2.2.2.2,d.2.2.2.2.1,d.2.2.2.2.2]))with|true=>(match decide (gS c d∧cJ (dC c) (dC d)=true)with|true=>(match decide (xm c d (dg (dC c) ([c.2.2.2.2.1,c.2.2.2.2.2,d.2.2.2.2.1,d.2.2.2.2.2])))with|true=>some [RV.d (.sl tP) (dg (dC c) ([c.2.2.2.2.1,c.2.2.2.2.2,d.2.2.2.2.1,d.2.2.2.2.2])),RV.d .bool (yi c d (dg (dC c) ([c.2.2.2.2.1,c.2.2.2.2.2,d.2.2.2.2.1,d.2.2.2.2.2])))]|false=>none)|false=>none)|false=>none)|false=>k 16 (dK c d s188_8 (i64.wrap (s188_8+1)) ([c.2.2.2.2.1,c.2.2.2.2.2,d.2.2.2.2.1,d.2.2.2.2.2])))|false=>k 6 (jG c d (i64.wrap (s188_8+1))))|false=>none))|false=>none)|_,_=>none)|none=>none)|false=>(match(-1)==(-1)with|true=>(match decide (k9 c ([c.2.2.2.2.1,c.2.2.2.2.2,d.2.2.2.2.1,d.2.2.2.2.2]))with|true=>(match decide (gS c d∧cJ (dC c) (dC d)=true)with|true=>(match decide (xm c d (dg (dC c) ([c.2.2.2.2.1,c.2.2.2.2.2,d.2.2.2.2.1,d.2.2.2.2.2])))with|true=>some [RV.d (.sl tP) (dg (dC c) ([c.2.2.2.2.1,c.2.2.2.2.2,d.2.2.2.2.1,d.2.2.2.2.2])),RV.d .bool (yi c d (dg (dC c) ([c.2.2.2.2.1,c.2.2.2.2.2,d.2.2.2.2.1,d.2.2.2.2.2])))]|false=>none)|false=>none)|false=>none)|false=>k 16 (dK c d (-1) (i64.wrap ((-1)+1)) ([c.2.2.2.2.1,c.2.2.2.2.2,d.2.2.2.2.1,d.2.2.2.2.2])))
theorem l6(c d:BCU)(s188_8:Int):RN kz 6 (jG c d s188_8) (jb c d s188_8):=rnX
def jl(c d:BCU)(s86_5 s86_6:Int)(r86_3:List BP)(k:KT):Option (List RV):=match decide (s86_6<(r86_3.length:Int))with|true=>(match aR r86_3 s86_6 with|some _=>(match true,r86_3[(s86_6).toNat]? with|true,some x1=>(match decide (okC 4000 c∧okP 4000 x1)with|true=>(match !(ik (dC c) (dec x1))with|true=>k 16 (dK c d s86_5 (i64.wrap (s86_6+1)) r86_3)|false=>(match decide (okC 4000 d∧okP 4000 x1)with|true=>(match !(!(ik (dC d) (dec x1)))with|true=>(match aR r86_3 s86_5 with|some _=>(match true,r86_3[(s86_5).toNat]? with|true,some _=>k 16 (dK c d (i64.wrap (s86_5+1)) (i64.wrap (s86_6+1)) (r86_3.set ((s86_5).toNat) x1))|_,_=>none)|none=>none)|false=>k 16 (dK c d s86_5 (i64.wrap (s86_6+1)) r86_3))|false=>none))|false=>none)|_,_=>none)|none=>none)|false=>(match decide ((0:Int)≤s86_5∧s86_5≤(r86_3.length:Int)∧(r86_3.length:Int)≤(r86_3.length:Int))with|true=>(match decide ((0:Int)≤0∧0≤s86_5∧s86_5≤((jw (Ty.zero tP) ((s86_5:Int).toNat) (((r86_3.length:Int):Int).toNat-(s86_5:Int).toNat) r86_3).length:Int))with|true=>(match decide (k9 c (((jw (Ty.zero tP) ((s86_5:Int).toNat) (((r86_3.length:Int):Int).toNat-(s86_5:Int).toNat) r86_3).drop ((0:Int).toNat)).take ((s86_5:Int).toNat-(0:Int).toNat)))with|true=>(match decide (gS c d∧cJ (dC c) (dC d)=true)with|true=>(match decide (xm c d (dg (dC c) (((jw (Ty.zero tP) ((s86_5:Int).toNat) (((r86_3.length:Int):Int).toNat-(s86_5:Int).toNat) r86_3).drop ((0:Int).toNat)).take ((s86_5:Int).toNat-(0:Int).toNat))))with|true=>some [RV.d (.sl tP) (dg (dC c) (((jw (Ty.zero tP) ((s86_5:Int).toNat) (((r86_3.length:Int):Int).toNat-(s86_5:Int).toNat) r86_3).drop ((0:Int).toNat)).take ((s86_5:Int).toNat-(0:Int).toNat))),RV.d .bool (yi c d (dg (dC c) (((jw (Ty.zero tP) ((s86_5:Int).toNat) (((r86_3.length:Int):Int).toNat-(s86_5:Int).toNat) r86_3).drop ((0:Int).toNat)).take ((s86_5:Int).toNat-(0:Int).toNat))))]|false=>none)|false=>none)|false=>none)|false=>none)|false=>none)
theorem mf(c d:BCU)(s86_5 s86_6:Int)(r86_3:List BP):RN kz 16 (dK c d s86_5 s86_6 r86_3) (jl c d s86_5 s86_6 r86_3):=rnX
section
variable (c d:BCU) (h:fA c d) (hs:cJ (dC c) (dC d)=true)
include h hs
theorem DI(L:List BP)(hl:L.length≤4)(ho:∀x∈L,okP 4000 x):(match decide (k9 c L)with
  |true=>(match decide (gS c d∧cJ (dC c) (dC d)=true)with
   |true=>(match decide (xm c d (dg (dC c) L))with|true=>some [RV.d (.sl tP) (dg (dC c) L),RV.d .bool (yi c d (dg (dC c) L))]|false=>none)
   |false=>none)
  |false=>none)=some [RV.d (.sl tP) (dg (dC c) L),RV.d .bool (yi c d (dg (dC c) L))]:=by
 have hc:okC 4000 c:=cf h.1.1 (by decide) (by decide)
 have hd:okC 4000 d:=cf h.2.1 (by decide) (by decide)
 have q:k9 c L:=⟨hc,by omega,ho⟩
 have hn:(dg (dC c) L).length≤L.length:=pn
 have _q2:xm c d (dg (dC c) L):=⟨⟨hc,by omega,fun x hx=>ho x (jp hx)⟩,hd⟩
 rw[dT q,dT (show gS c d∧cJ (dC c) (dC d)=true from⟨⟨h.1.2,h.2.2⟩,hs⟩)]
 dsimp only
 rw[dT _q2]
theorem wz:∀(S:List BP) (L J:List BP),J≠[]→(∀x∈L++(J++S),okP 4000 x)→(L++(J++S)).length≤4→
  kz.Runs 16 (dK c d (L.length:Int) ((L.length+J.length:Nat):Int) (L++(J++S))) [RV.d (.sl tP) (dg (dC c) (L++S.filter (gZ c d))),RV.d .bool (yi c d (dg (dC c) (L++S.filter (gZ c d))))]
 |[],L,J,hJ,hok,h4=>by
  have h4':L.length+J.length≤4:=by simpa using h4
  obtain⟨c1,c2⟩:=IN (Ty.zero tP) L J
  refine mf _ _ _ _ _ ⟨0,?_⟩
  unfold jl
  rw[alB,cd (by simp)]
  dsimp only
  rw[dT (show(0:Int)≤(L.length:Int)∧(L.length:Int)≤((L++J).length:Int)∧((L++J).length:Int)≤((L++J).length:Int) by simp only[alC];omega)]
  rw[dT (show(0:Int)≤0∧0≤(L.length:Int)∧(L.length:Int)≤((jw (Ty.zero tP) ((L.length:Int).toNat) ((((L++J).length:Int)).toNat-(L.length:Int).toNat) (L++J)).length:Int) by omega)]
  rw[c1,anQ,alB]
  exact DI c d h hs L (by omega) fun x hx=>hok x (amF _ hx)
 |q::S,L,J,hJ,hok,h4=>by
  have h4':L.length+(J.length+(S.length+1))≤4:=by simpa using h4
  have hc:okC 4000 c:=cf h.1.1 (by decide) (by decide)
  have hd:okC 4000 d:=cf h.2.1 (by decide) (by decide)
  have hq:okP 4000 q:=hok q (by simp)
  have g1:(L++(J++q::S))[L.length+J.length]?=some q:=by
   have:=nS (L++J) q S
   rw[alC,alu]at this
   exact this
  obtain⟨y,T,rfl⟩:=List.exists_cons_of_ne_nil hJ
  have g2:(L++(y::T++q::S))[L.length]?=some y:=nS L y (T++q::S)
  have hset:(L++(y::T++q::S)).set L.length q=(L++[q])++((T++[q])++S):=by
   have:=AD y q (T++q::S) L
   rw[show y::T++q::S=y::(T++q::S) from rfl,this]
   simp
  have e2:L++(y::T++q::S)=L++((y::T++[q])++S):=by simp
  have key:∀r n,(match gZ c d q with
    |true=>kz.k n 16 (dK c d ((L.length+1:Nat):Int) ((L.length+(y::T).length+1:Nat):Int) ((L++[q])++((T++[q])++S)))
    |false=>kz.k n 16 (dK c d (L.length:Int) ((L.length+(y::T).length+1:Nat):Int) (L++(y::T++q::S))))=some r→
    jl c d (L.length:Int) ((L.length+(y::T).length:Nat):Int) (L++(y::T++q::S)) (kz.k n)=some r:=fun r n hk=>by
   unfold jl
   rw[bH (by simp only[alC,alj];omega),ao,g1,show((L.length+(y::T).length:Nat):Int).toNat=L.length+(y::T).length by omega,g1]
   dsimp only
   rw[dT (show okC 4000 c∧okP 4000 q from⟨hc,hq⟩),dT (show okC 4000 d∧okP 4000 q from⟨hd,hq⟩),bW (k:=L.length+(y::T).length) (by simp only[alj]at*;omega),bW (k:=L.length) (by omega),ao,g2,show((L.length:Nat):Int).toNat=L.length by omega,g2,hset]
   unfold gZ at hk
   cases r1:ik (dC c) (dec q)<;>cases r2:ik (dC d) (dec q)<;>rw[r1,r2]at hk<;>exact hk
  rw[amX]
  cases hk:gZ c d q
  ·obtain⟨n,hn⟩:=wz S L (y::T++[q]) (by simp) (e2▸hok) (e2▸h4)
   refine mf _ _ _ _ _ ⟨n,key _ n ?_⟩
   rw[hk,e2]
   rw[alC,alt,←anc]at hn
   exact hn
  ·obtain⟨n,hn⟩:=wz S (L++[q]) (T++[q]) (by simp) (fun x hx=>by
    simp only[alO,ali,ame,anu]at hx
    rcases hx with(hx|hx)|(hx|hx)|hx
    ·exact hok x (by simp[hx])
    ·rw[hx];exact hq
    ·exact hok x (by simp[hx])
    ·rw[hx];exact hq
    ·exact hok x (by simp[hx])) (by simp at h4 ⊢;omega)
   refine mf _ _ _ _ _ ⟨n,key _ n ?_⟩
   rw[hk]
   have n1:(L++[q]).length=L.length+1:=by simp
   have n2:L.length+1+(T++[q]).length=L.length+(y::T).length+1:=by simp;omega
   rw[n1,n2,alu L [q] (S.filter (gZ c d))]at hn
   exact hn
theorem HI(X:List BP)(hX:[c.2.2.2.2.1,c.2.2.2.2.2,d.2.2.2.2.1,d.2.2.2.2.2]=X)(h4:X.length≤4)(hok:∀x∈X,okP 4000 x):∀(S A:List BP),A++S=X→A.filter (gZ c d)=A→
  kz.Runs 6 (jG c d (A.length:Int)) [RV.d (.sl tP) (dg (dC c) (A++S.filter (gZ c d))),RV.d .bool (yi c d (dg (dC c) (A++S.filter (gZ c d))))]
 |[],A,hA,hf=>by
  rw[alB]at hA
  refine l6 _ _ _ ⟨0,?_⟩
  unfold jb
  rw[hX,←hA,cd (by omega),anQ,alB]
  exact DI c d h hs A (hA▸h4) (hA▸hok)
 |q::S,A,hA,hf=>by
  have hc:okC 4000 c:=cf h.1.1 (by decide) (by decide)
  have hd:okC 4000 d:=cf h.2.1 (by decide) (by decide)
  have hq:okP 4000 q:=hok q (by rw[←hA];simp)
  have g1:X[A.length]?=some q:=by rw[←hA];exact nS A q S
  have hlen:A.length<X.length:=by rw[←hA];simp
  have key:∀r n,(match gZ c d q with
    |true=>kz.k n 6 (jG c d ((A.length+1:Nat):Int))
    |false=>kz.k n 16 (dK c d (A.length:Int) ((A.length+1:Nat):Int) X))=some r→
    jb c d (A.length:Int) (kz.k n)=some r:=fun r n hk=>by
   unfold jb
   rw[hX,bH hlen,ao,g1,show((A.length:Nat):Int).toNat=A.length by omega,g1]
   dsimp only
   rw[dT (show okC 4000 c∧okP 4000 q from⟨hc,hq⟩),dT (show okC 4000 d∧okP 4000 q from⟨hd,hq⟩),bW (k:=A.length) (by omega),show((A.length:Int)== -1)=false by rw[am5];omega]
   unfold gZ at hk
   cases r1:ik (dC c) (dec q)<;>cases r2:ik (dC d) (dec q)<;>rw[r1,r2]at hk<;>exact hk
  rw[amX]
  cases hk:gZ c d q
  ·obtain⟨n,hn⟩:=wz c d h hs S A [q] (by simp) (by rw[amw,hA];exact hok) (by rw[amw,hA];exact h4)
   refine l6 _ _ _ ⟨n,key _ n ?_⟩
   rw[hk]
   rw[amw,hA]at hn
   exact hn
  ·obtain⟨n,hn⟩:=HI X hX h4 hok S (A++[q]) (by rw[alu];exact hA) (by rw[List.filter_append,hf,amX,hk];rfl)
   refine l6 _ _ _ ⟨n,key _ n ?_⟩
   rw[hk]
   have n1:(A++[q]).length=A.length+1:=by simp
   rw[n1,alu A [q] (S.filter (gZ c d))]at hn
   exact hn
end
theorem Ry(c d:BCU)(h:fA c d)(hs:cJ (dC c) (dC d)=true):Con Tryz.prog 42 [.d tCU c,.d tCU d] [.d (.sl tP) (fj c d),.d .bool (oh c d)]:=by
 obtain⟨h4,ho⟩:=Es h
 have e:jB c d=[c.2.2.2.2.1,c.2.2.2.2.2,d.2.2.2.2.1,d.2.2.2.2.2]:=by unfold jB;rw[hs];rfl
 rw[e]at h4 ho
 obtain⟨n,hn⟩:=HI c d h hs _ rfl h4 ho _ [] rfl rfl
 have e2:fj c d=dg (dC c) (List.filter (gZ c d) [c.2.2.2.2.1,c.2.2.2.2.2,d.2.2.2.2.1,d.2.2.2.2.2]):=by unfold fj;rw[e]
 have e3:oh c d=yi c d (dg (dC c) (List.filter (gZ c d) [c.2.2.2.2.1,c.2.2.2.2.2,d.2.2.2.2.1,d.2.2.2.2.2])):=by unfold oh;rw[hs,e2];rfl
 rw[e2,e3]
 refine c7 MK (abT _ _ ⟨n,?_⟩)
 unfold PC
 rw[dT (show gS c d∧cJ (dC c) (dC d)=true from⟨⟨h.1.2,h.2.2⟩,hs⟩)]
 dsimp only
 rw[dT (alg h4 (by decide))]
 exact hn
def aaR:Cn 84 [tCU,tCU]:=cn fun(a b:BCU)=>lf (gS a b∧cJ (dC a) (dC b)=false) [.d .bool false] fun h=>by
 have e:Con Tryz.prog 84 [.d tCU a,.d tCU b] [.d .bool (cJ (dC a) (dC b))]:=(XH.g a b).h h.1
 rw[h.2]at e
 exact e
def LX:List En:=[enT aaR,enT OR,enL XM,enK R6,enF Wa,enK FP]
def UO:NT:=[((188,6),{keep:=[0,1,7,8],hl:=3}),((86,16),{keep:=[0,1,5,6],hl:=3}),((42,11),{keep:=[2,3,26,28],hl:=0}),((86,3),{keep:=[0,1,10],hl:=0}),((188,18),{keep:=[0,1,5,7,8,16],hl:=0}),((86,28),{keep:=[0,1,5,6,7,28],hl:=0})]
def kI:Ctx:=CX (ens LX) UO
def jC(c d:BCU)(s188_8:Int):Cfg:=⟨188,[.blk 0,.seq 25],[(0,.own 2),(1,.clo 88 [0,1]),(7,SI (((gK (dC c) (dC d)).map enc).length:Int)),(8,SI s188_8)],[.box 39 (Ty.split tCU c),.box 39 (Ty.split tCU d),.row 37 tP ((gK (dC c) (dC d)).map enc)],3,[⟨86,[.seq 4],3,2,[(0,.own 2),(1,.clo 88 [0,1])],3,none⟩,⟨42,[.seq 12],11,3,[(2,.box 0 0),(3,.box 1 0),(26,.own 2)],0,none⟩]⟩
def dM(c d:BCU)(s86_5 s86_6:Int)(r86_2:List BP):Cfg:=⟨86,[.blk 0,.seq 35],[(0,.own 2),(1,.clo 88 [0,1]),(5,SI s86_5),(6,SI s86_6)],[.box 39 (Ty.split tCU c),.box 39 (Ty.split tCU d),.row 37 tP r86_2],3,[⟨42,[.seq 12],11,3,[(2,.box 0 0),(3,.box 1 0),(26,.own 2)],0,none⟩]⟩
def KX(c d:BCU)(k:KT):Option (List RV):=match decide (gS c d∧cJ (dC c) (dC d)=false)with|true=>(match decide (gS c d)with|true=>(match decide (((gK (dC c) (dC d)).map enc).length≤100000)with|true=>k 6 (jC c d 0)|false=>none)|false=>none)|false=>none
theorem aaX(c d:BCU):RS kI 42 [.d tCU c,.d tCU d] (KX c d):=rsX
def jf(c d:BCU)(s188_8:Int)(k:KT):Option (List RV):=match decide (s188_8<(((gK (dC c) (dC d)).map enc).length:Int))with|true=>(match aR ((gK (dC c) (dC d)).map enc) s188_8 with|some _=>(match true,((gK (dC c) (dC d)).map enc)[(s188_8).toNat]? with|true,some x1=>(match decide (okC 4000 c∧okP 4000 x1)with|true=>(match !(ik (dC c) (dec x1))with|true=>(match s188_8==(-1)with|true=>(match decide (k9 c ((gK (dC c) (dC d)).map enc))with|true=>(match decide (gS c d∧cJ (dC c) (dC d)=false)with|true=>some [RV.d (.sl tP) (dg (dC c) ((gK (dC c) (dC d)).map enc)),RV.d .bool false]|false=>none)|false=>none)|false=>k 16 (dM c d s188_8 (i64.wrap (s188_8+1)) ((gK (dC c) (dC d)).map enc)))|false=>(match decide (okC 4000 d∧okP 4000 x1)with|true=>(match !(ik (dC d) (dec x1))with|true=>(match s188_8==(-1)with|true=>(match decide (k9 c ((gK (dC c) (dC d)).map enc))with|true=>(match decide (gS c d∧cJ (dC c) (dC d)=false)with|true=>some [RV.d (.sl tP) (dg (dC c) ((gK (dC c) (dC d)).map enc)),RV.d .bool false]|false=>none)|false=>none)|false=>k 16 (dM c d s188_8 (i64.wrap (s188_8+1)) ((gK (dC c) (dC d)).map enc)))|false=>k 6 (jC c d (i64.wrap (s188_8+1))))|false=>none))|false=>none)|_,_=>none)|none=>none)|false=>(match(-1)==(-1)with|true=>(match decide (k9 c ((gK (dC c) (dC d)).map enc))with|true=>(match decide (gS c d∧cJ (dC c) (dC d)=false)with|true=>some [RV.d (.sl tP) (dg (dC c) ((gK (dC c) (dC d)).map enc)),RV.d .bool false]|false=>none)|false=>none)|false=>k 16 (dM c d (-1) (i64.wrap ((-1)+1)) ((gK (dC c) (dC d)).map enc)))
theorem lW(c d:BCU)(s188_8:Int):RN kI 6 (jC c d s188_8) (jf c d s188_8):=rnX
def jn(c d:BCU)(s86_5 s86_6:Int)(r86_2:List BP)(k:KT):Option (List RV):=match decide (s86_6<(r86_2.length:Int))with|true=>(match aR r86_2 s86_6 with|some _=>(match true,r86_2[(s86_6).toNat]? with|true,some x1=>(match decide (okC 4000 c∧okP 4000 x1)with|true=>(match !(ik (dC c) (dec x1))with|true=>k 16 (dM c d s86_5 (i64.wrap (s86_6+1)) r86_2)|false=>(match decide (okC 4000 d∧okP 4000 x1)with|true=>(match !(!(ik (dC d) (dec x1)))with|true=>(match aR r86_2 s86_5 with|some _=>(match true,r86_2[(s86_5).toNat]? with|true,some _=>k 16 (dM c d (i64.wrap (s86_5+1)) (i64.wrap (s86_6+1)) (r86_2.set ((s86_5).toNat) x1))|_,_=>none)|none=>none)|false=>k 16 (dM c d s86_5 (i64.wrap (s86_6+1)) r86_2))|false=>none))|false=>none)|_,_=>none)|none=>none)|false=>(match decide ((0:Int)≤s86_5∧s86_5≤(r86_2.length:Int)∧(r86_2.length:Int)≤(r86_2.length:Int))with|true=>(match decide ((0:Int)≤0∧0≤s86_5∧s86_5≤((jw (Ty.zero tP) ((s86_5:Int).toNat) (((r86_2.length:Int):Int).toNat-(s86_5:Int).toNat) r86_2).length:Int))with|true=>(match decide (k9 c (((jw (Ty.zero tP) ((s86_5:Int).toNat) (((r86_2.length:Int):Int).toNat-(s86_5:Int).toNat) r86_2).drop ((0:Int).toNat)).take ((s86_5:Int).toNat-(0:Int).toNat)))with|true=>(match decide (gS c d∧cJ (dC c) (dC d)=false)with|true=>some [RV.d (.sl tP) (dg (dC c) (((jw (Ty.zero tP) ((s86_5:Int).toNat) (((r86_2.length:Int):Int).toNat-(s86_5:Int).toNat) r86_2).drop ((0:Int).toNat)).take ((s86_5:Int).toNat-(0:Int).toNat))),RV.d .bool false]|false=>none)|false=>none)|false=>none)|false=>none)
theorem lY(c d:BCU)(s86_5 s86_6:Int)(r86_2:List BP):RN kI 16 (dM c d s86_5 s86_6 r86_2) (jn c d s86_5 s86_6 r86_2):=rnX
section
variable (c d:BCU) (h:fA c d) (hs:cJ (dC c) (dC d)=false)
include h hs
theorem Ek(L:List BP)(hl:L.length≤4)(ho:∀x∈L,okP 4000 x):(match decide (k9 c L)with
  |true=>(match decide (gS c d∧cJ (dC c) (dC d)=false)with
   |true=>some [RV.d (.sl tP) (dg (dC c) L),RV.d .bool false]
   |false=>none)
  |false=>none)=some [RV.d (.sl tP) (dg (dC c) L),RV.d .bool (false)]:=by
 have hc:okC 4000 c:=cf h.1.1 (by decide) (by decide)
 have hd:okC 4000 d:=cf h.2.1 (by decide) (by decide)
 have q:k9 c L:=⟨hc,by omega,ho⟩
 have hn:(dg (dC c) L).length≤L.length:=pn
 have _q2:xm c d (dg (dC c) L):=⟨⟨hc,by omega,fun x hx=>ho x (jp hx)⟩,hd⟩
 rw[dT q,dT (show gS c d∧cJ (dC c) (dC d)=false from⟨⟨h.1.2,h.2.2⟩,hs⟩)]
theorem yC:∀(S:List BP) (L J:List BP),J≠[]→(∀x∈L++(J++S),okP 4000 x)→(L++(J++S)).length≤4→
  kI.Runs 16 (dM c d (L.length:Int) ((L.length+J.length:Nat):Int) (L++(J++S))) [RV.d (.sl tP) (dg (dC c) (L++S.filter (gZ c d))),RV.d .bool (false)]
 |[],L,J,hJ,hok,h4=>by
  have h4':L.length+J.length≤4:=by simpa using h4
  obtain⟨c1,c2⟩:=IN (Ty.zero tP) L J
  refine lY _ _ _ _ _ ⟨0,?_⟩
  unfold jn
  rw[alB,cd (by simp)]
  dsimp only
  rw[dT (show(0:Int)≤(L.length:Int)∧(L.length:Int)≤((L++J).length:Int)∧((L++J).length:Int)≤((L++J).length:Int) by simp only[alC];omega)]
  rw[dT (show(0:Int)≤0∧0≤(L.length:Int)∧(L.length:Int)≤((jw (Ty.zero tP) ((L.length:Int).toNat) ((((L++J).length:Int)).toNat-(L.length:Int).toNat) (L++J)).length:Int) by omega)]
  rw[c1,anQ,alB]
  exact Ek c d h hs L (by omega) fun x hx=>hok x (amF _ hx)
 |q::S,L,J,hJ,hok,h4=>by
  have h4':L.length+(J.length+(S.length+1))≤4:=by simpa using h4
  have hc:okC 4000 c:=cf h.1.1 (by decide) (by decide)
  have hd:okC 4000 d:=cf h.2.1 (by decide) (by decide)
  have hq:okP 4000 q:=hok q (by simp)
  have g1:(L++(J++q::S))[L.length+J.length]?=some q:=by
   have:=nS (L++J) q S
   rw[alC,alu]at this
   exact this
  obtain⟨y,T,rfl⟩:=List.exists_cons_of_ne_nil hJ
  have g2:(L++(y::T++q::S))[L.length]?=some y:=nS L y (T++q::S)
  have hset:(L++(y::T++q::S)).set L.length q=(L++[q])++((T++[q])++S):=by
   have:=AD y q (T++q::S) L
   rw[show y::T++q::S=y::(T++q::S) from rfl,this]
   simp
  have e2:L++(y::T++q::S)=L++((y::T++[q])++S):=by simp
  have key:∀r n,(match gZ c d q with
    |true=>kI.k n 16 (dM c d ((L.length+1:Nat):Int) ((L.length+(y::T).length+1:Nat):Int) ((L++[q])++((T++[q])++S)))
    |false=>kI.k n 16 (dM c d (L.length:Int) ((L.length+(y::T).length+1:Nat):Int) (L++(y::T++q::S))))=some r→
    jn c d (L.length:Int) ((L.length+(y::T).length:Nat):Int) (L++(y::T++q::S)) (kI.k n)=some r:=fun r n hk=>by
   unfold jn
   rw[bH (by simp only[alC,alj];omega),ao,g1,show((L.length+(y::T).length:Nat):Int).toNat=L.length+(y::T).length by omega,g1]
   dsimp only
   rw[dT (show okC 4000 c∧okP 4000 q from⟨hc,hq⟩),dT (show okC 4000 d∧okP 4000 q from⟨hd,hq⟩),bW (k:=L.length+(y::T).length) (by simp only[alj]at*;omega),bW (k:=L.length) (by omega),ao,g2,show((L.length:Nat):Int).toNat=L.length by omega,g2,hset]
   unfold gZ at hk
   cases r1:ik (dC c) (dec q)<;>cases r2:ik (dC d) (dec q)<;>rw[r1,r2]at hk<;>exact hk
  rw[amX]
  cases hk:gZ c d q
  ·obtain⟨n,hn⟩:=yC S L (y::T++[q]) (by simp) (e2▸hok) (e2▸h4)
   refine lY _ _ _ _ _ ⟨n,key _ n ?_⟩
   rw[hk,e2]
   rw[alC,alt,←anc]at hn
   exact hn
  ·obtain⟨n,hn⟩:=yC S (L++[q]) (T++[q]) (by simp) (fun x hx=>by
    simp only[alO,ali,ame,anu]at hx
    rcases hx with(hx|hx)|(hx|hx)|hx
    ·exact hok x (by simp[hx])
    ·rw[hx];exact hq
    ·exact hok x (by simp[hx])
    ·rw[hx];exact hq
    ·exact hok x (by simp[hx])) (by simp at h4 ⊢;omega)
   refine lY _ _ _ _ _ ⟨n,key _ n ?_⟩
   rw[hk]
   have n1:(L++[q]).length=L.length+1:=by simp
   have n2:L.length+1+(T++[q]).length=L.length+(y::T).length+1:=by simp;omega
   rw[n1,n2,alu L [q] (S.filter (gZ c d))]at hn
   exact hn
theorem IA(X:List BP)(hX:((gK (dC c) (dC d)).map enc)=X)(h4:X.length≤4)(hok:∀x∈X,okP 4000 x):∀(S A:List BP),A++S=X→A.filter (gZ c d)=A→
  kI.Runs 6 (jC c d (A.length:Int)) [RV.d (.sl tP) (dg (dC c) (A++S.filter (gZ c d))),RV.d .bool (false)]
 |[],A,hA,hf=>by
  rw[alB]at hA
  refine lW _ _ _ ⟨0,?_⟩
  unfold jf
  rw[hX,←hA,cd (by omega),anQ,alB]
  exact Ek c d h hs A (hA▸h4) (hA▸hok)
 |q::S,A,hA,hf=>by
  have hc:okC 4000 c:=cf h.1.1 (by decide) (by decide)
  have hd:okC 4000 d:=cf h.2.1 (by decide) (by decide)
  have hq:okP 4000 q:=hok q (by rw[←hA];simp)
  have g1:X[A.length]?=some q:=by rw[←hA];exact nS A q S
  have hlen:A.length<X.length:=by rw[←hA];simp
  have key:∀r n,(match gZ c d q with
    |true=>kI.k n 6 (jC c d ((A.length+1:Nat):Int))
    |false=>kI.k n 16 (dM c d (A.length:Int) ((A.length+1:Nat):Int) X))=some r→
    jf c d (A.length:Int) (kI.k n)=some r:=fun r n hk=>by
   unfold jf
   rw[hX,bH hlen,ao,g1,show((A.length:Nat):Int).toNat=A.length by omega,g1]
   dsimp only
   rw[dT (show okC 4000 c∧okP 4000 q from⟨hc,hq⟩),dT (show okC 4000 d∧okP 4000 q from⟨hd,hq⟩),bW (k:=A.length) (by omega),show((A.length:Int)== -1)=false by rw[am5];omega]
   unfold gZ at hk
   cases r1:ik (dC c) (dec q)<;>cases r2:ik (dC d) (dec q)<;>rw[r1,r2]at hk<;>exact hk
  rw[amX]
  cases hk:gZ c d q
  ·obtain⟨n,hn⟩:=yC c d h hs S A [q] (by simp) (by rw[amw,hA];exact hok) (by rw[amw,hA];exact h4)
   refine lW _ _ _ ⟨n,key _ n ?_⟩
   rw[hk]
   rw[amw,hA]at hn
   exact hn
  ·obtain⟨n,hn⟩:=IA X hX h4 hok S (A++[q]) (by rw[alu];exact hA) (by rw[List.filter_append,hf,amX,hk];rfl)
   refine lW _ _ _ ⟨n,key _ n ?_⟩
   rw[hk]
   have n1:(A++[q]).length=A.length+1:=by simp
   rw[n1,alu A [q] (S.filter (gZ c d))]at hn
   exact hn
end
theorem PZ(c d:BCU)(h:fA c d)(hs:cJ (dC c) (dC d)=false):Con Tryz.prog 42 [.d tCU c,.d tCU d] [.d (.sl tP) (fj c d),.d .bool (oh c d)]:=by
 obtain⟨h4,ho⟩:=Es h
 have e:jB c d=((gK (dC c) (dC d)).map enc):=by unfold jB;rw[hs];rfl
 rw[e]at h4 ho
 obtain⟨n,hn⟩:=IA c d h hs _ rfl h4 ho _ [] rfl rfl
 have e2:fj c d=dg (dC c) (List.filter (gZ c d) ((gK (dC c) (dC d)).map enc)):=by unfold fj;rw[e]
 have e3:oh c d=false:=by unfold oh;rw[hs,e2];rfl
 rw[e2,e3]
 refine c7 LX (aaX _ _ ⟨n,?_⟩)
 unfold KX
 rw[dT (show gS c d∧cJ (dC c) (dC d)=false from⟨⟨h.1.2,h.2.2⟩,hs⟩)]
 dsimp only
 rw[dT (show gS c d from⟨h.1.2,h.2.2⟩)]
 dsimp only
 rw[dT (alg h4 (by decide))]
 exact hn
def aic:Cn 42 [tCU,tCU]:=cn fun(c d:BCU)=>lf (fA c d) [.d (.sl tP) (fj c d),.d .bool (oh c d)] fun h=>by
 cases hs:cJ (dC c) (dC d)
 ·exact PZ c d h hs
 ·exact Ry c d h hs
end
section
open RE
section
variable {α β:Type} (f:α→β)
theorem Cx{lt:α→α→Bool}{lt':β→β→Bool}(h:∀a b,lt' (f a) (f b)=lt a b)(a:α):∀r:List α,kY lt' (r.map f) (f a)=(kY lt r a).map f
 |[]=>rfl
 |b::r=>by
  have ih:=Cx h a r
  simp only[anq,kY,h]
  cases lt a b
  ·rfl
  ·simp only[cond_true,anq,ih]
theorem D6{lt:α→α→Bool}{lt':β→β→Bool}(h:∀a b,lt' (f a) (f b)=lt a b):∀(l r:List α),(l.map f).foldl (kY lt') (r.map f)=(l.foldl (kY lt) r).map f
 |[],_=>rfl
 |a::l,r=>by
  rw[anq,am2,am2,Cx f h,D6 h]
theorem KR{lt:α→α→Bool}{lt':β→β→Bool}(h:∀a b,lt' (f a) (f b)=lt a b)(l:List α):sI lt' (l.map f)=(sI lt l).map f:=by
 unfold sI
 have:=D6 f h l []
 rw[List.map_nil]at this
 rw[this,List.map_reverse]
theorem CM{g:α→α→Bool}{g':β→β→Bool}(h:∀a b,g' (f a) (f b)=g a b):∀(l:List α) (p:α),jU g' (f p) (l.map f)=(jU g p l).map f
 |[],_=>rfl
 |q::r,p=>by
  have ih:=CM h r q
  simp only[anq,jU,h]
  cases g q p
  ·simp only[cond_false,anq,ih]
  ·exact ih
theorem Pf{g:α→α→Bool}{g':β→β→Bool}(h:∀a b,g' (f a) (f b)=g a b)(l:List α):vp g' (l.map f)=(vp g l).map f:=by
 cases l with
 |nil=>rfl
 |cons x r=>
  simp only[anq,vp]
  rw[CM f h]
end
def abQ(c d:Cv):List Pt:=vp (fun a b=>aV a b==0) (sI (fun a b=>decide (Bm c a b<0)) ((bif cJ c d then [frC c,toC c,frC d,toC d]else gK c d).filter fun p=>ik c p&&ik d p))
theorem Ro{c d:BCU}(h1:c.2.2.2.2.1=enc (frC (dC c)))(h2:c.2.2.2.2.2=enc (toC (dC c)))(h3:d.2.2.2.2.1=enc (frC (dC d)))(h4:d.2.2.2.2.2=enc (toC (dC d))):fj c d=(abQ (dC c) (dC d)).map enc:=by
 have e:jB c d=(bif cJ (dC c) (dC d)then [frC (dC c),toC (dC c),frC (dC d),toC (dC d)]else gK (dC c) (dC d)).map enc:=by
  unfold jB
  cases cJ (dC c) (dC d)
  ·rfl
  ·simp only[cond_true,anq,List.map_nil,←h1,←h2,←h3,←h4]
 unfold fj abQ dg
 rw[e,List.filter_map]
 have e2:(gZ c d∘enc)=fun p:Pt=>ik (dC c) p&&ik (dC d) p:=by
  funext p
  show(ik (dC c) (dec (enc p))&&ik (dC d) (dec (enc p)))=_
  rw[az]
 rw[e2,KR (f:=(enc:Pt→BP)) (lt:=fun a b=>decide (Bm (dC c) a b<0)) (fun a b=>by unfold ltP;rw[az,az]),Pf (f:=(enc:Pt→BP)) (g:=fun a b=>aV a b==0) (fun a b=>by unfold il;rw[az,az])]
abbrev uS1:Rat×Rat:=(Rat.divInt (-4) 2,Rat.divInt 1 2)
abbrev uS2:Rat×Rat:=(Rat.divInt 4 2,Rat.divInt 1 2)
def qS:Cv:=(false,(0,4,2),(0,0,0),false,atP uS1,atP uS2)
section
theorem bQ(n d:Int)(h:yL n d):Bd (Rat.divInt n d) 3:=IY h.1 h.2.1 h.2.2
end
end
section
open Go.ChangeShapes Go.WideShapes Go.ChangeAt Go.WideMaps Go.WideElems Go.RowKit
theorem M9:ownKnob Tryz.prog.godebug=none:=by kernel_rfl
def Ty.ok:(t:Ty)→t.D→Prop
 |.int k,x=>(Lit.int k x).wf=true
 |.bool,_=>True
 |.str,_=>True
 |.sl e,xs=>xs.length≤9223372036854775807∧∀x∈xs,e.ok x
 |.pair a b,x=>a.ok x.1∧b.ok x.2
 |.st a,x=>a.ok x
def yw(rp:TypeId→Ty→Bool)(cells:TypeId→Nat):List Field→Ty→Nat→Bool
 |[],_,_=>false
 |[f],a,off=>rp f.type a&&Nat.beq f.offset off&&Nat.beq (cells f.type) a.n
 |f::g::fs,.pair a b,off=>rp f.type a&&Nat.beq f.offset off&&Nat.beq (cells f.type) a.n&&yw rp cells (g::fs) b (off+a.n)
 |_,_,_=>false
def E0(rp:Ty→Bool)(n:Nat):Nat→Ty→Bool
 |0,_=>false
 |1,a=>rp a&&Nat.beq a.n n
 |k+2,.pair a b=>rp a&&Nat.beq a.n n&&E0 rp n (k+1) b
 |_,_=>false
def rep(P:Program):Nat→TypeId→Ty→Bool
 |0,_,_=>false
 |n+1,t,ty=>match P.underlying t,ty with
  |some (.int k),.int k'=>decide (k=k')
  |some .bool,.bool=>true
  |some .string,.str=>true
  |some (.slice e),.sl ety=>rep P n e ety&&Nat.beq (P.cellsOf e) ety.n&&Nat.ble 1 ety.n
  |some (.struct fs),.st a=>yw (rep P n) P.cellsOf fs.toList a 0&&Nat.beq (P.cellsOf t) a.n
  |some (.array k e),.st a=>E0 (rep P n e) (P.cellsOf e) k a&&Nat.beq (P.cellsOf t) a.n
  |_,_=>false
theorem S4{w:World}{a:Addr}{v:Value}(h:w.cell? a=some v):a.block<w.heap.size∧a.spot=none:=by
 unfold World.cell? at h
 split at h
 ·rename_i hb
  refine⟨(alk.1 hb).1,?_⟩
  simp_all
 grind
theorem Dh{α β:Type}{f:α→Option β}:∀{l:List α} {r:List β},l.mapM f=some r→r.length=l.length∧∀(j:Nat) (y:β),r[j]?=some y→∃x,l[j]?=some x∧f x=some y
 |[],r,h=>by simp at h;subst h;simp
 |x::l,r,h=>by
  rw[List.mapM_cons]at h
  cases hx:f x with
  |none=>rw[hx]at h;simp at h
  |some y=>
   rw[hx]at h
   cases hl:l.mapM f with
   |none=>rw[hl]at h;simp at h
   |some r'=>
    rw[hl]at h
    obtain rfl:y::r'=r:=by simpa using h
    obtain⟨h1,h2⟩:=Dh hl
    refine⟨by simp[h1],fun j z hz=>?_⟩
    cases j with
    |zero=>exact⟨x,rfl,by simpa [hx]using hz⟩
    |succ j=>obtain⟨u,h3,h4⟩:=h2 j z (by simpa using hz);exact⟨u,by simpa using h3,h4⟩
theorem JG{w:World}{base n:Nat}{a:Addr}{l:List Value}(h:w.cells? base a n=some l):l.length=n∧∀(j:Nat) (v:Value),l[j]?=some v→w.cell? (a.add j)=some v:=by
 unfold World.cells? at h
 split at h
 ·obtain⟨h1,h2⟩:=Dh h
  grind
 grind
theorem Ml{α β:Type}{n:Nat}{p:Nat→α→β→Prop}(h:∀i,i<n→∃s t,p i s t):∃(l:List α) (m:List β),l.length=n∧m.length=n∧∀i s t,l[i]?=some s→m[i]?=some t→p i s t:=by
 induction n with
 |zero=>exact⟨[],[],rfl,rfl,fun i s t h=>by simp at h⟩
 |succ n ih=>
  obtain⟨l,m,h1,h2,h3⟩:=ih fun i hi=>h i (by omega)
  obtain⟨s,t,hst⟩:=h n (by omega)
  refine⟨l++[s],m++[t],by simp[h1],by simp[h2],fun i s' t' hs ht=>?_⟩
  grind
section
variable {H:Type} {enc:TypeId×Value→H} {P:Program} {w:World} {base:Nat} {spare:Nat→Bool} {held:Bool}
def R1(enc:TypeId×Value→H)(P:Program)(w:World)(base:Nat)(spare:Nat→Bool)(held:Bool)(ty:Ty):Prop:=∀(n:Nat) (t:TypeId),rep P n t ty=true→∀(fuel:Nat) (cs:List Value) (x:DataW H×List MemPlace),cs.length=ty.n→DataW.trod enc P w base spare held fuel t cs=some x→∃y:ty.D,ty.rd (fun _=>True) w cs y∧ty.ok y
def R2(enc:TypeId×Value→H)(P:Program)(w:World)(base:Nat)(spare:Nat→Bool)(held:Bool)(ty:Ty):Prop:=∀(n:Nat) (fs:List Field) (off:Nat) (cs:List Value),yw (rep P n) P.cellsOf fs ty off=true→cs.length=ty.n→(∀f∈fs,off≤f.offset→∃fuel x,DataW.trod enc P w base spare held fuel f.type ((cs.drop (f.offset-off)).take (P.cellsOf f.type))=some x)→∃y:ty.D,ty.rd (fun _=>True) w cs y∧ty.ok y
def R3(enc:TypeId×Value→H)(P:Program)(w:World)(base:Nat)(spare:Nat→Bool)(held:Bool)(ty:Ty):Prop:=∀(n k:Nat) (e:TypeId) (cs:List Value),E0 (rep P n e) (P.cellsOf e) k ty=true→cs.length=ty.n→(∀i,i<k→∃fuel x,DataW.trod enc P w base spare held fuel e ((cs.drop (i*P.cellsOf e)).take (P.cellsOf e))=some x)→∃y:ty.D,ty.rd (fun _=>True) w cs y∧ty.ok y
theorem afu{ty:Ty}(h1:R1 enc P w base spare held ty)(hp:∀(n:Nat) (f g:Field) (fs:List Field) (off:Nat) (cs:List Value),yw (rep P n) P.cellsOf (f::g::fs) ty off=true→cs.length=ty.n→(∀q∈f::g::fs,off≤q.offset→∃fuel x,DataW.trod enc P w base spare held fuel q.type ((cs.drop (q.offset-off)).take (P.cellsOf q.type))=some x)→∃y:ty.D,ty.rd (fun _=>True) w cs y∧ty.ok y):R2 enc P w base spare held ty:=by
 intro n fs off cs hr hl hf
 match fs,hr,hf with
 |[f],hr,hf=>
  simp only[yw,ak7]at hr
  have ho:=ak8 hr.1.2
  have hc:=ak8 hr.2
  obtain⟨fuel,x,hx⟩:=hf f (by simp) (by omega)
  rw[ho,anE,hc,uy _ _ hl]at hx
  exact h1 n f.type hr.1.1 fuel cs x hl hx
 |f::g::fs,hr,hf=>exact hp n f g fs off cs hr hl hf
theorem adW{ty:Ty}(h1:R1 enc P w base spare held ty)(hp:∀(n k:Nat) (e:TypeId) (cs:List Value),E0 (rep P n e) (P.cellsOf e) (k+2) ty=true→cs.length=ty.n→(∀i,i<k+2→∃fuel x,DataW.trod enc P w base spare held fuel e ((cs.drop (i*P.cellsOf e)).take (P.cellsOf e))=some x)→∃y:ty.D,ty.rd (fun _=>True) w cs y∧ty.ok y):R3 enc P w base spare held ty:=by
 intro n k e cs hr hl hf
 match k,hr,hf with
 |1,hr,hf=>
  simp only[E0,ak7]at hr
  have hc:=ak8 hr.2
  obtain⟨fuel,x,hx⟩:=hf 0 (by omega)
  rw[Nat.zero_mul,←hc,uy _ _ hl]at hx
  exact h1 n e hr.1 fuel cs x hl hx
 |k+2,hr,hf=>exact hp n k e cs hr hl hf
theorem VM:∀(ty:Ty),R1 enc P w base spare held ty∧R2 enc P w base spare held ty∧R3 enc P w base spare held ty:=by
 intro ty
 have pz:∀{ty:Ty},(∀a b,ty≠.pair a b)→R1 enc P w base spare held ty→R1 enc P w base spare held ty∧R2 enc P w base spare held ty∧R3 enc P w base spare held ty:=by
  intro ty hne h1
  refine⟨h1,afu h1 fun n f g fs off cs hr=>?_,adW h1 fun n k e cs hr=>?_⟩
  ·cases ty<;>first|exact absurd rfl (hne _ _)|simp[yw]at hr
  ·cases ty<;>first|exact absurd rfl (hne _ _)|simp[E0]at hr
 induction ty with
 |int k=>
  refine pz (fun a b e=>by cases e) fun n t hr fuel cs x hl hx=>?_
  cases n with
  |zero=>simp[rep]at hr
  |succ n=>
   unfold rep at hr
   split at hr<;>try (cases hr;done)
   all_goals rename_i hu he<;>cases he
   have:=ak6 hr
   subst this
   obtain⟨m,rfl,_,hw⟩:=DataW.trod_int hu hx
   exact⟨m,rfl,hw⟩
 |bool=>
  refine pz (fun a b e=>by cases e) fun n t hr fuel cs x hl hx=>?_
  cases n with
  |zero=>simp[rep]at hr
  |succ n=>
   unfold rep at hr
   split at hr<;>try (cases hr;done)
   all_goals rename_i hu he<;>cases he
   obtain⟨m,rfl,_⟩:=DataW.trod_bool hu hx
   exact⟨m,rfl,trivial⟩
 |str=>
  refine pz (fun a b e=>by cases e) fun n t hr fuel cs x hl hx=>?_
  cases n with
  |zero=>simp[rep]at hr
  |succ n=>
   unfold rep at hr
   split at hr<;>try (cases hr;done)
   all_goals rename_i hu he<;>cases he
   cases fuel with
   |zero=>simp[DataW.trod]at hx
   |succ fuel=>
    unfold DataW.trod at hx
    rw[hu]at hx
    split at hx<;>simp_all
    exact⟨_,rfl,trivial⟩
 |sl e ih=>
  refine pz (fun a b e=>by cases e) fun n t hr fuel cs x hl hx=>?_
  cases n with
  |zero=>simp[rep]at hr
  |succ n=>
   unfold rep at hr
   split at hr<;>try (cases hr;done)
   all_goals rename_i hu he<;>cases he
   simp only[ak7]at hr
   obtain⟨⟨r1,r2⟩,r3⟩:=hr
   have hc:=ak8 r2
   have hn0:=ala r3
   rcases Deep.open_slice hu hx with⟨rfl,_⟩|⟨a,len,cap,m,nn,D,Pl,rfl,hb,hle,hcap,hm,_,hel⟩
   ·exact⟨[],xI,by simp,fun x hx=>by simp at hx⟩
   ·have hlm:len≤m:=by rw[hm];split<;>omega
    have key:∀i,i<len→∃(l:List Value) (y:e.D),(e.rd (fun _=>True) w l y∧e.ok y)∧∀j v,l[j]?=some v→w.cell? ((a.add (i*e.n)).add j)=some v:=by
     intro i hi
     obtain⟨cs',h1,h2⟩:=hel i (by omega)
     rw[hc]at h1
     obtain⟨h3,h4⟩:=JG h1
     obtain⟨y,h5⟩:=ih.1 n _ r1 nn cs' _ h3 h2
     exact⟨cs',y,h5,h4⟩
    obtain⟨css,ys,l1,l2,hk⟩:=Ml key
    have hall:cj (fun l y=>e.rd (fun _=>True) w l y) css ys:=IS (by omega) fun i l y h1 h2=>(hk i l y h1 h2).1.1
    refine⟨ys,⟨some a,len,cap,css,rfl,l2,hle,hcap,hall,fun h0=>?_⟩,by unfold maxLen at hcap;omega,fun y hy=>?_⟩
    ·obtain⟨l0,hl0⟩:∃l,css[0]?=some l:=⟨_,ak4 (by omega)⟩
     obtain⟨y0,hy0,hrd0⟩:=iM hall 0 l0 hl0
     have hlen0:=Ty.rd_len hrd0
     obtain⟨v0,hv0⟩:∃v,l0[0]?=some v:=⟨_,ak4 (by omega)⟩
     have hc0:=(hk 0 l0 y0 hl0 hy0).2 0 v0 hv0
     have e0:(a.add (0*e.n)).add 0=a:=by simp[Addr.add]
     rw[e0]at hc0
     obtain⟨h1,h2⟩:=S4 hc0
     obtain⟨b,off,sp⟩:=a
     dsimp only at h1 h2
     subst h2
     refine⟨b,off,rfl,trivial,h1,fun i v hv=>?_⟩
     have hls:=gc hall
     have hi:i<css.flatten.length:=(ald.1 hv).1
     rw[ie hls,l1]at hi
     have hq:i/e.n<len:=Nat.div_lt_of_lt_mul (by rw[Nat.mul_comm];exact hi)
     obtain⟨l,hl⟩:∃l,css[i/e.n]?=some l:=⟨_,ak4 (by omega)⟩
     obtain⟨y,hy,hrd⟩:=iM hall _ l hl
     have hmod:i%e.n<e.n:=anZ _ hn0
     obtain⟨u,hu'⟩:∃u,l[i%e.n]?=some u:=⟨_,ak4 (by rw[Ty.rd_len hrd];exact hmod)⟩
     have hfl:=lm hls hl hu'
     have hdm:i/e.n*e.n+i%e.n=i:=by rw[Nat.mul_comm];exact Nat.div_add_mod i e.n
     rw[hdm,hv]at hfl
     injection hfl with hfl
     subst hfl
     have:=(hk _ l y hl hy).2 _ _ hu'
     rw[dO,dO]at this
     rwa [anc,hdm]at this
    ·obtain⟨i,hi,rfl⟩:=anr hy
     obtain⟨l,hl,_⟩:=oK hall i _ (ak4 hi)
     exact(hk i l _ hl (ak4 hi)).1.2
 |st a ih=>
  refine pz (fun a b e=>by cases e) fun n t hr fuel cs x hl hx=>?_
  cases n with
  |zero=>simp[rep]at hr
  |succ n=>
   unfold rep at hr
   split at hr<;>try (cases hr;done)
   all_goals rename_i hu he<;>cases he
   ·simp only[ak7]at hr
    obtain⟨xs,k,rfl,_,_,hlen,hg⟩:=DataW.trod_struct hu hx
    refine ih.2.1 n _ 0 cs hr.1 hl fun f hf _=>?_
    obtain⟨i,hi,rfl⟩:=anr hf
    rename_i fs
    have h1:=hg i _ (by rw[←amP];exact ak4 hi)
    obtain⟨y,hy⟩:∃y,xs[i]?=some y:=⟨_,ak4 (by rw[hlen];simpa using hi)⟩
    rw[hy]at h1
    exact⟨k,y,by rw[Nat.sub_zero];exact h1⟩
   ·simp only[ak7]at hr
    obtain⟨xs,k,rfl,_,_,hlen,hg⟩:=DataW.trod_array hu hx
    refine ih.2.2 n _ _ cs hr.1 hl fun i hi=>?_
    have h1:=hg i hi
    obtain⟨y,hy⟩:∃y,xs[i]?=some y:=⟨_,ak4 (by rw[hlen];exact hi)⟩
    rw[hy]at h1
    exact⟨k,y,h1⟩
 |pair a b iha ihb=>
  have h1:R1 enc P w base spare held (.pair a b):=by
   intro n t hr
   cases n with
   |zero=>simp[rep]at hr
   |succ n=>
    unfold rep at hr
    split at hr<;>first|(cases hr;done)|(rename_i he;cases he)
  have cut:∀{cs:List Value} {k m:Nat},cs.length=a.n+b.n→((cs.drop a.n).drop k).take m=(cs.drop (a.n+k)).take m:=fun _=>by rw[aod]
  refine⟨h1,afu h1 fun n f g fs off cs hr hl hf=>?_,adW h1 fun n k e cs hr hl hf=>?_⟩
  ·simp only[yw,ak7]at hr
   obtain⟨⟨⟨r1,r2⟩,r3⟩,r4⟩:=hr
   have ho:=ak8 r2
   have hc:=ak8 r3
   simp only[Ty.n]at hl
   obtain⟨fuel,x,hx⟩:=hf f (by simp) (by omega)
   rw[ho,anE,hc,amL]at hx
   obtain⟨y1,k1,k2⟩:=iha.1 n f.type r1 fuel (cs.take a.n) x (by simp;omega) hx
   obtain⟨y2,k3,k4⟩:=ihb.2.1 n (g::fs) (off+a.n) (cs.drop a.n) r4 (by simp;omega) fun q hq hle=>by
    obtain⟨fuel,x,hx⟩:=hf q (by simp only[ali]at hq ⊢;exact .inr hq) (by omega)
    refine⟨fuel,x,?_⟩
    rw[aod,show a.n+(q.offset-(off+a.n))=q.offset-off by omega]
    exact hx
   exact⟨(y1,y2),⟨_,_,(amt a.n cs).symm,k1,k3⟩,k2,k4⟩
  ·simp only[E0,ak7]at hr
   obtain⟨⟨r1,r2⟩,r3⟩:=hr
   have hc:=ak8 r2
   simp only[Ty.n]at hl
   obtain⟨fuel,x,hx⟩:=hf 0 (by omega)
   rw[Nat.zero_mul,amL,←hc]at hx
   obtain⟨y1,k1,k2⟩:=iha.1 n e r1 fuel (cs.take a.n) x (by simp;omega) hx
   obtain⟨y2,k3,k4⟩:=ihb.2.2 n (k+1) e (cs.drop a.n) r3 (by simp;omega) fun i hi=>by
    obtain⟨fuel,x,hx⟩:=hf (i+1) (by omega)
    refine⟨fuel,x,?_⟩
    rw[aod,hc,show P.cellsOf e+i*P.cellsOf e=(i+1)*P.cellsOf e by rw[amN];omega]
    exact hx
   exact⟨(y1,y2),⟨_,_,(amt a.n cs).symm,k1,k3⟩,k2,k4⟩
end
end
def adK:List En:=[enL Gu]
def YW(n:Int)(_k:KT):Option (List RV):=og (decide (yL (i64.wrap n) (4:Int))) (some [RV.d tR (hid (am (Rat.divInt (i64.wrap n) (4:Int))))])
def ahv:Cn 13 [(.int .i8)]:=cn fun(n:Int)=>lf (i8P n) [.d tR (am (Rat.divInt n 4))] fun h=>by
 refine aA adK (YW n) ⟨0,?_⟩
 obtain⟨h1,h2⟩:=h
 unfold YW
 rw[aS (x:=n) (by omega) (by omega),dT (show yL n 4 from⟨⟨by omega,by omega⟩,⟨by omega,by omega⟩,by omega⟩)]
 simp only[bL]
theorem acL{n:Int}(h:i8P n):Bd (Rat.divInt n 4) 3:=IY (n:=n) (d:=4) (by obtain⟨h1,h2⟩:=h;exact⟨by omega,by omega⟩) (by decide) (by decide)
theorem u6{n:Int}(h:Ty.ok (.int .i8) n):i8P n:=bounds_i8 h
theorem RO{n:Int}(h:Ty.ok (.int .u8) n):u8P n:=bounds_u8 h
theorem Ye{x:Dr}(h:Ty.ok tDr x):AC x:=⟨RO h.1,RO h.2.1,u6 h.2.2.1,u6 h.2.2.2.1,u6 h.2.2.2.2.1,u6 h.2.2.2.2.2.1,u6 h.2.2.2.2.2.2.1,u6 h.2.2.2.2.2.2.2⟩
theorem PT{x:Pce}(h:Ty.ok xX x):yM x:=⟨Ye h.1,Ye h.2.1,RO h.2.2⟩
theorem LL{n:Int}(h:i8P n){k:Nat}(hk:3≤k)(hk':k≤480000):ok Rat k (am (Rat.divInt n 4)):=by
 have:=acL h
 exact ak6 (okd (x:=Rat.divInt n 4) hk hk')
def AZ:List En:=[⟨41,fX,dU⟩,⟨99,iq,fe⟩,⟨108,gU,eP⟩,⟨107,iW,fy⟩,⟨106,ir,fh⟩,⟨109,kO,gH⟩,enT Mk]
def Z8:NT:=[((221,6),{keep:=[4,5,6,7,18,19,20],hl:=5})]
def MG:Ctx:=CX (ens AZ) Z8
def BX(d p q r:BR)(s20:Int):Cfg:=⟨221,[.blk 0,.seq 25],[(4,.box 0 0),(5,.box 1 0),(6,.box 2 0),(7,.box 3 0),(18,.own 4),(19,SI (([d,p,q,r]).length:Int)),(20,SI s20)],[.box 31 [SB d.1.1,.d aom d.1.2,SB d.2.1,.d aom d.2.2],.box 31 [SB p.1.1,.d aom p.1.2,SB p.2.1,.d aom p.2.2],.box 31 [SB q.1.1,.d aom q.1.2,SB q.2.1,.d aom q.2.2],.box 31 [SB r.1.1,.d aom r.1.2,SB r.2.1,.d aom r.2.2],.row 31 tR ([d,p,q,r])],0,[]⟩
def ahE(d p q r:BR)(k:KT):Option (List RV):=k 6 (BX d p q r 0)
theorem aeQ(d p q r:BR):RS MG 221 [.d tR d,.d tR p,.d tR q,.d tR r] (ahE d p q r):=rsX
def wH(d p q r:BR)(s20:Int)(k:KT):Option (List RV):=match decide (s20<(([d,p,q,r]).length:Int))with|true=>(match aR ([d,p,q,r]) s20 with|some _=>(match true,([d,p,q,r])[(s20).toNat]? with|true,some x1=>(og (o1 x1) (match decide ((aC (ah x1) 0)<0)with|true=>some [RV.d aon 0,RV.d aon 7]|false=>k 6 (BX d p q r (i64.wrap (s20+1)))))|_,_=>none)|none=>none)|false=>(og (o2 d p) (og (o2 (hSu d p) q) (og (o2 r r) (og (o2 (hSu (hSu d p) q) (hMu r r)) (og (decide (aG ((-2):Int))) (og (o2 (hid (am (((-2):Int):Rat))) r) (og (decide (aG ((-2):Int))) (og (decide (okQ (hSu (hSu (hSu d p) q) (hMu r r),(hMu (hid (am (((-2):Int):Rat))) r,(hMu (hid (am (((-2):Int):Rat))) r,(hid (am (((-2):Int):Rat)),(p,q))))))) (some [RV.d aon (sgQ (dec (hSu (hSu (hSu d p) q) (hMu r r),(hMu (hid (am (((-2):Int):Rat))) r,(hMu (hid (am (((-2):Int):Rat))) r,(hid (am (((-2):Int):Rat)),(p,q))))))),RV.d aon 0])))))))))
theorem Ec(d p q r:BR)(s20:Int):RN MG 6 (BX d p q r s20) (wH d p q r s20):=rnX
theorem ags{d p q r:Rat}[bd:Bd d 2000][bp:Bd p 2000][bq:Bd q 2000][br:Bd r 2000](nd:0≤d)(np:0≤p)(nq:0≤q)(nr_:0≤r):∀(j i:Nat),i+j=4→MG.Runs 6 (BX (enc d) (enc p) (enc q) (enc r) (i:Int)) [.d aon (nh d p q r),.d aon (0:Int)]:=by
 have k2:decide (aG (-2))=true:=by decide
 have b2:Bd ((-2:Int):Rat) 3:=cZ (n:= -2) (by decide)
 have b2':Bd (-2:Rat) 3:=b2
 have e2:((-2:Int):Rat)= -2:=rfl
 have n1:Nn p:=⟨np⟩
 have n2:Nn q:=⟨nq⟩
 have o1:decide (okQ (enc ((d-p-q-r*r,-2*r,-2*r,-2,p,q):Qd)))=true:=zg (by decide) (by decide) (by decide) (by decide) (by decide) (by decide)
 have hall:∀x∈[d,p,q,r],Bd x 2000∧0≤x:=by
  intro x hx
  simp only[ali,ame,anu]at hx
  rcases hx with e|e|e|e<;>subst e<;>constructor<;>assumption
 intro j
 induction j with
 |zero=>
  intro i hi
  refine Ec _ _ _ _ _ ⟨0,?_⟩
  unfold wH
  rw[dF (show ¬(i:Int)<(([enc d,enc p,enc q,enc r]:List BR).length:Int) by simp;omega)]
  simp only[aU,Nat.reduceAdd,Nat.reduceLeDiff,k2,e2]
  show og (decide (okQ (enc ((d-p-q-r*r,-2*r,-2*r,-2,p,q):Qd)))) (some [RV.d aon (sgQ (dec (enc ((d-p-q-r*r,-2*r,-2*r,-2,p,q):Qd)))),_])=_
  rw[o1,az]
  rfl
 |succ j ih=>
  intro i hi
  have hil:i<[d,p,q,r].length:=by simp;omega
  obtain⟨n,hn⟩:=ih (i+1) (by omega)
  refine Ec _ _ _ _ _ ⟨n,?_⟩
  have g:([enc d,enc p,enc q,enc r]:List BR)[i]?=some (enc [d,p,q,r][i]):=by
   show(([d,p,q,r]:List Rat).map enc)[i]?=_
   rw[amg,ak4 hil]
   rfl
  obtain⟨hb,hx⟩:=hall _ (alE hil)
  generalize [d,p,q,r][i]=x at*
  unfold wH
  rw[dT (show(i:Int)<(([enc d,enc p,enc q,enc r]:List BR).length:Int) by simp;omega),ao,amK,g,bW (by omega)]
  dsimp only
  simp only[aU,Nat.reduceLeDiff,au,dF (show ¬x<0 by grind)]
  exact hn
def afZ:Cn 221 [tR,tR,tR,tR]:=cn fun(d p q r:BR)=>lf (n4P d p q r) [.d aon (nh (ah d) (ah p) (ah q) (ah r)),.d aon 0] fun h=>by
 obtain⟨d,p,q,r,⟨rfl,rfl,rfl,rfl⟩,bd,bp,bq,br,nd,np,nq,nr_⟩:=YP h
 have:=ags nd np nq nr_ 4 0 rfl
 simp only[eT,cB]
 exact c7 AZ (aeQ _ _ _ _ this)
def YJ(x y z r:BR)(_k:KT):Option (List RV):=og (decide (aG (2:Int))) (og (o2 x y) (og (o2 (hAd x y) z) (og (o2 r r) (og (o2 (hSu (hAd x y) z) (hMu r r)) (og (o2 (hid (am ((2:Int):Rat))) r) (og (o1 (hMu (hid (am ((2:Int):Rat))) r)) (og (decide (aG (0:Int))) (og (o2 x y) (og (decide (okQ (hSu (hSu (hAd x y) z) (hMu r r),(hid (am ((2:Int):Rat)),(hNe (hMu (hid (am ((2:Int):Rat))) r),(hid (am ((0:Int):Rat)),(hMu x y,z))))))) (some [RV.d aon (sgQ (dec (hSu (hSu (hAd x y) z) (hMu r r),(hid (am ((2:Int):Rat)),(hNe (hMu (hid (am ((2:Int):Rat))) r),(hid (am ((0:Int):Rat)),(hMu x y,z)))))))]))))))))))
def agp:Cn 112 [tR,tR,tR,tR]:=cn fun(x y z r:BR)=>lf (n4P x y z r) [.d aon (qY (ah x) (ah y) (ah z) (ah r))] fun h=>by
 refine aA AZ (YJ x y z r) ⟨0,?_⟩
 obtain⟨x,y,z,r,⟨rfl,rfl,rfl,rfl⟩,bx,b_,bz,br,nx,ny,nz,nr_⟩:=YP h
 have i2:decide (aG 2)=true:=by decide
 have i0:decide (aG 0)=true:=by decide
 have b2:Bd ((2:Int):Rat) 3:=cZ (n:=2) (by decide)
 have b0:Bd ((0:Int):Rat) 3:=cZ (n:=0) (by decide)
 have b2':Bd (2:Rat) 3:=b2
 have b0':Bd (0:Rat) 3:=b0
 have e2:((2:Int):Rat)=2:=rfl
 have e0:((0:Int):Rat)=0:=rfl
 have n1:Nn (x*y):=⟨alp nx ny⟩
 have n2:Nn z:=⟨nz⟩
 have o1:decide (okQ (enc ((x+y-z-r*r,2,-(2*r),0,x*y,z):Qd)))=true:=zg (by decide) (by decide) (by decide) (by decide) (by decide) (by decide)
 unfold YJ
 simp only[aU,Nat.reduceAdd,Nat.reduceLeDiff,i2,i0,e2,e0]
 show og (decide (okQ (enc ((x+y-z-r*r,2,-(2*r),0,x*y,z):Qd)))) (some [RV.d aon (sgQ (dec (enc ((x+y-z-r*r,2,-(2*r),0,x*y,z):Qd))))])=_
 rw[o1,az]
 rfl
def abi:List En:=enT afZ::AZ
def agd:Cn 111 [tR,tR,tR,tR]:=cn fun(x y z r:BR)=>lf (n4P x y z r) [.d aon (nh (ah x) (ah y) (ah z) (ah r))] fun h=>jJ [RV.d aon (nh (ah x) (ah y) (ah z) (ah r))] (du abi) h
def aaB:List En:=[enL Ra,enT Jp,enL Jq,enT ah0]
def XI(s a:BCU)(r:BR)(_k:KT):Option (List RV):=og (decide (ok Ln 300 s.2.1∧ok (Rat×Rat) 200 (a.2.2.1.1,a.2.2.1.2.1)∧((dec s.2.1:Ln).1≠0∨(dec s.2.1:Ln).2.1≠0))) (og (decide (ok (Rat×Rat) 100000 (hid (enc (d7 (dec s.2.1) (dec (a.2.2.1.1,a.2.2.1.2.1))))))) (og (decide (okC 4000 s∧okP 4000 (hid (enc (atP (dec (hid (enc (d7 (dec s.2.1) (dec (a.2.2.1.1,a.2.2.1.2.1))))))))))) (match !(onP (dC s) (dec (hid (enc (atP (dec (hid (enc (d7 (dec s.2.1) (dec (a.2.2.1.1,a.2.2.1.2.1)))))))))))with|true=>some [RV.d aon 1]|false=>(og (decide (okC 500 a∧ok (Rat×Rat) 200 (hid (enc (d7 (dec s.2.1) (dec (a.2.2.1.1,a.2.2.1.2.1)))))∧ok Rat 1000 r)) (some [RV.d aon (rI (dC a) (dec (hid (enc (d7 (dec s.2.1) (dec (a.2.2.1.1,a.2.2.1.2.1)))))) (ah r))])))))
def ag3:Cn 45 [tCU,tCU,tR]:=cn fun(s a:BCU) (r:BR)=>lf (Fw s a∧ok Rat 1000 r) [.d aon (Cp (dC s) (dC a) (ah r))] fun h=>by
 refine aA aaB (XI s a r) ⟨0,?_⟩
 obtain⟨⟨hs,ha,es,ea⟩,hr⟩:=h
 have hF:=BE hs.2 ha.2 es ea
 obtain⟨ar,li,ci,cw,fr,to⟩:=s
 obtain⟨ar',li',ci',cw',fr',to'⟩:=a
 simp only at es ea
 subst es ea
 obtain⟨l1,l2⟩:=hs.1.2.1 rfl
 obtain⟨c1,c2⟩:=ha.1.1 rfl
 simp only at l1 l2 c1 c2
 obtain⟨li,rfl,bl⟩:=aF l1
 obtain⟨ci',rfl,bc,qc⟩:=cQ (ha.2.1 rfl)
 have bc':Bd (ctr ci') 200:=(inferInstance:Bd ((ci'.1,ci'.2.1):Rat×Rat) _).mono (by decide)
 have e0:((am ci'.1,am ci'.2.1):BV)=enc (ctr ci'):=rfl
 rw[az]at l2
 simp only[ftv,dC,lnC,ciC,az]at hF
 unfold XI Cp ftv FX
 simp only[dC,lnC,ciC,az]
 simp only[aU,Nat.reduceLeDiff,aN,e0,dT l2,dT (cf (k:=4000) hs.1 (by decide) (by decide)),dT ha.1,dT hr]
 cases onP (false,li,dec ci,cw,dec fr,dec to) (atP (d7 li (ctr ci')))<;>rfl
def acr:List En:=[⟨106,ir,fh⟩,⟨107,iW,fy⟩,⟨108,gU,eP⟩,⟨109,kO,gH⟩,⟨41,fX,dU⟩,enT WD,enT agd,enT agp]
def Zg(c d:BCU)(r:BR)(_k:KT):Option (List RV):=let y1:=hSu d.2.2.1.1 c.2.2.1.1;let y2:=hSu d.2.2.1.2.1 c.2.2.1.2.1;let y3:=hAd (hMu y1 y1) (hMu y2 y2);let y4:=dec (hSu d.2.2.1.1 c.2.2.1.1,hSu d.2.2.1.2.1 c.2.2.1.2.1);let y5:=dec (hNe y1,hNe y2);let y6:=n4P y3 c.2.2.1.2.2 d.2.2.1.2.2 r;let y7:=n4P y3 d.2.2.1.2.2 c.2.2.1.2.2 r;let y8:=n4P c.2.2.1.2.2 y3 d.2.2.1.2.2 r;let y9:=n4P d.2.2.1.2.2 y3 c.2.2.1.2.2 r;let y10:=ah c.2.2.1.2.2;let y11:=ah d.2.2.1.2.2;let y12:=mn2 1 (mx2 (nh (ah y3) y10 y11 (ah r)) (qY y10 y11 (ah y3) (ah r)));let y13:=mx2 (qY (ah y3) y11 y10 (ah r)) (nh y10 (ah y3) y11 (ah r));let y14:=mx2 (qY (ah y3) y10 y11 (ah r)) (nh y11 (ah y3) y10 (ah r));let y15:Option (List RV):=match decide (okC 500 c∧ok (Rat×Rat) 510 (hNe y1,hNe y2))with|true=>(match d9 (dC c) y5 with|true=>(og (decide (okC 500 d∧ok (Rat×Rat) 510 (hNe y1,hNe y2))) (match d9 (dC d) y5 with|true=>(og (decide y6) (og (decide y9) (some [RV.d aon (mn2 1 y14)])))|false=>some [RV.d aon 1]))|false=>some [RV.d aon 1])|false=>none;og (o2 d.2.2.1.1 c.2.2.1.1) (og (o2 d.2.2.1.2.1 c.2.2.1.2.1) (og (o2 y1 y1) (og (o2 y2 y2) (og (o2 (hMu y1 y1) (hMu y2 y2)) (og (o1 y3) (match(aC (ah y3) 0)==0 with|true=>some [RV.d aon 1]|false=>(og (o1 y1) (og (o1 y2) (og (decide (okC 500 c∧ok (Rat×Rat) 510 (hSu d.2.2.1.1 c.2.2.1.1,hSu d.2.2.1.2.1 c.2.2.1.2.1))) (match d9 (dC c) y4 with|true=>(og (decide (okC 500 d∧ok (Rat×Rat) 510 (hNe y1,hNe y2))) (match d9 (dC d) y5 with|true=>(og (decide y6) (og (decide (n4P c.2.2.1.2.2 d.2.2.1.2.2 y3 r)) (og (decide (okC 500 d∧ok (Rat×Rat) 510 (hSu d.2.2.1.1 c.2.2.1.1,hSu d.2.2.1.2.1 c.2.2.1.2.1))) (match d9 (dC d) y4 with|true=>(og (decide y7) (og (decide y8) (og (decide (okC 500 c∧ok (Rat×Rat) 510 (hNe y1,hNe y2))) (match d9 (dC c) y5 with|true=>(og (decide (okC 500 d∧ok (Rat×Rat) 510 (hNe y1,hNe y2))) (match d9 (dC d) y5 with|true=>(og (decide y6) (og (decide y9) (some [RV.d aon (mn2 (mn2 y12 y13) y14)])))|false=>some [RV.d aon (mn2 y12 y13)]))|false=>some [RV.d aon (mn2 y12 y13)]))))|false=>(og (decide (okC 500 c∧ok (Rat×Rat) 510 (hNe y1,hNe y2))) (match d9 (dC c) y5 with|true=>(og (decide (okC 500 d∧ok (Rat×Rat) 510 (hNe y1,hNe y2))) (match d9 (dC d) y5 with|true=>(og (decide y6) (og (decide y9) (some [RV.d aon (mn2 y12 y14)])))|false=>some [RV.d aon y12]))|false=>some [RV.d aon y12]))))))|false=>(og (decide (okC 500 d∧ok (Rat×Rat) 510 (hSu d.2.2.1.1 c.2.2.1.1,hSu d.2.2.1.2.1 c.2.2.1.2.1))) (match d9 (dC d) y4 with|true=>(og (decide y7) (og (decide y8) (og (decide (okC 500 c∧ok (Rat×Rat) 510 (hNe y1,hNe y2))) (match d9 (dC c) y5 with|true=>(og (decide (okC 500 d∧ok (Rat×Rat) 510 (hNe y1,hNe y2))) (match d9 (dC d) y5 with|true=>(og (decide y6) (og (decide y9) (some [RV.d aon (mn2 (mn2 1 y13) y14)])))|false=>some [RV.d aon (mn2 1 y13)]))|false=>some [RV.d aon (mn2 1 y13)]))))|false=>y15))))|false=>y15))))))))))
def ad1:Cn 44 [tCU,tCU,tR]:=cn fun(c d:BCU) (r:BR)=>lf (QC c d∧ok Rat 1000 r∧0≤ah r) [.d aon (xY (dC c) (dC d) (ah r))] fun h=>by
 refine aA acr (Zg c d r) ⟨0,?_⟩
 obtain⟨⟨hc,hd,ec,ed⟩,hr,nr_⟩:=h
 obtain⟨ar,li,ci,cw,fr,to⟩:=c
 obtain⟨ar',li',di,cw',fr',to'⟩:=d
 simp only at ec ed
 subst ec ed
 have oc:decide (okC 500 _)=true:=dT hc.1
 have od:decide (okC 500 _)=true:=dT hd.1
 obtain⟨ci,rfl,bc,qc⟩:=cQ (hc.2.1 rfl)
 obtain⟨di,rfl,bd,qd⟩:=cQ (hd.2.1 rfl)
 obtain⟨r,rfl,br⟩:=aF hr
 rw[eT,cB]at nr_
 have n0:0≤bI (cS (ctr ci) (ctr di)) (cS (ctr ci) (ctr di)):=lX _
 have bN:Bd (bI (cS (ctr ci) (ctr di)) (cS (ctr ci) (ctr di))) 100:=(inferInstance:Bd ((di.1-ci.1)*(di.1-ci.1)+(di.2.1-ci.2.1)*(di.2.1-ci.2.1)) _).mono (by decide)
 have e0:((am (di.1-ci.1),am (di.2.1-ci.2.1)):BV)=enc (cS (ctr ci) (ctr di)):=rfl
 have e1:((am (-(di.1-ci.1)),am (-(di.2.1-ci.2.1))):BV)=enc (bkV (cS (ctr ci) (ctr di))):=rfl
 have eN:(di.1-ci.1)*(di.1-ci.1)+(di.2.1-ci.2.1)*(di.2.1-ci.2.1)=bI (cS (ctr ci) (ctr di)) (cS (ctr ci) (ctr di)):=rfl
 have bw:Bd (cS (ctr ci) (ctr di)) 20:=(inferInstance:Bd ((di.1-ci.1,di.2.1-ci.2.1):Rat×Rat) _).mono (by decide)
 have bb:Bd (bkV (cS (ctr ci) (ctr di))) 20:=(inferInstance:Bd ((-(di.1-ci.1),-(di.2.1-ci.2.1)):Rat×Rat) _).mono (by decide)
 have b0:Bd (di.1-ci.1) 10:=(inferInstance:Bd (di.1-ci.1) _).mono (by decide)
 have b1:Bd (di.2.1-ci.2.1) 10:=(inferInstance:Bd (di.2.1-ci.2.1) _).mono (by decide)
 have pc:0≤ci.2.2:=by grind
 have pd:0≤di.2.2:=by grind
 have k1:=(QK (i:=100) (j:=13) (k:=13) (l:=1000) (by decide) (by decide) (by decide) (by decide) n0 pc pd nr_)
 have k2:=(QK (i:=100) (j:=13) (k:=13) (l:=1000) (by decide) (by decide) (by decide) (by decide) n0 pd pc nr_)
 have k3:=(QK (i:=13) (j:=100) (k:=13) (l:=1000) (by decide) (by decide) (by decide) (by decide) pc n0 pd nr_)
 have k4:=(QK (i:=13) (j:=100) (k:=13) (l:=1000) (by decide) (by decide) (by decide) (by decide) pd n0 pc nr_)
 have k5:=(QK (i:=13) (j:=13) (k:=100) (l:=1000) (by decide) (by decide) (by decide) (by decide) pc pd n0 nr_)
 have sl:∀a b c d,nh a b c d≤1:=fun a b c d=>OK _
 have bl:∀a b c d,qY a b c d≤1:=fun a b c d=>OK _
 unfold Zg xY nT fT nD wyv
 simp only[aU,Nat.reduceAdd,Nat.reduceLeDiff,aq,e0,e1,eN,oc,od,k1,k2,k3,k4,k5,dC,ciC,B8,L6]
 have s1:=sl (bI (cS (ctr ci) (ctr di)) (cS (ctr ci) (ctr di))) ci.2.2 di.2.2 r
 have s2:=sl ci.2.2 (bI (cS (ctr ci) (ctr di)) (cS (ctr ci) (ctr di))) di.2.2 r
 have s3:=sl di.2.2 (bI (cS (ctr ci) (ctr di)) (cS (ctr ci) (ctr di))) ci.2.2 r
 have s4:=bl ci.2.2 di.2.2 (bI (cS (ctr ci) (ctr di)) (cS (ctr ci) (ctr di))) r
 have s5:=bl (bI (cS (ctr ci) (ctr di)) (cS (ctr ci) (ctr di))) di.2.2 ci.2.2 r
 have s6:=bl (bI (cS (ctr ci) (ctr di)) (cS (ctr ci) (ctr di))) ci.2.2 di.2.2 r
 cases decide (bI (cS (ctr ci) (ctr di)) (cS (ctr ci) (ctr di))=0)
 ·cases d9 (true,dec li,ci,cw,dec fr,dec to) (cS (ctr ci) (ctr di))<;>cases d9 (true,dec li,ci,cw,dec fr,dec to) (bkV (cS (ctr ci) (ctr di)))<;>cases d9 (true,dec li',di,cw',dec fr',dec to') (cS (ctr ci) (ctr di))<;>cases d9 (true,dec li',di,cw',dec fr',dec to') (bkV (cS (ctr ci) (ctr di)))<;>simp only[FX,cond_true,cond_false,Bool.and_true,Bool.and_false]<;>refine congrArg (fun x:Int=>some [RV.d aon x]) ?_<;>omega
 ·rfl
def aax:List En:=[⟨41,fX,dU⟩,enL aic,enT aiF,enT ad1,enT ag3]
def Yv(c d:BCU)(r:BR)(_k:KT):Option (List RV):=let y1:Option (List RV):=match decide (okR r)with|true=>some [RV.d aon (i64.wrap (0-(aC (ah r) 0)))]|false=>none;let y2:=JP (RE.poiE (dC d) (RE.pR (dec c.2.2.2.2.1)) (ah r)) (RE.poiE (dC d) (RE.pR (dec c.2.2.2.2.2)) (ah r)) (RE.poiE (dC c) (RE.pR (dec d.2.2.2.2.1)) (ah r)) (RE.poiE (dC c) (RE.pR (dec d.2.2.2.2.2)) (ah r));let y3:Option (List RV):=match c.1 with|true=>(og (decide (Fw d c∧ok Rat 1000 r)) (some [RV.d aon (mn2 y2 (Cp (dC d) (dC c) (ah r)))]))|false=>(match d.1 with|true=>(og (decide (Fw c d∧ok Rat 1000 r)) (some [RV.d aon (mn2 y2 (Cp (dC c) (dC d) (ah r)))]))|false=>some [RV.d aon y2]);og (o1 r) (match decide ((aC (ah r) 0)<0)with|true=>some [RV.d aon 1]|false=>(og (decide (fA c d)) (match decide (((fj c d).length:Int)>0)with|true=>y1|false=>(match oh c d with|true=>y1|false=>(og (decide (okC 580 d∧okP 580 c.2.2.2.2.1∧ok Rat 1000 r)) (og (decide (okC 580 d∧okP 580 c.2.2.2.2.2∧ok Rat 1000 r)) (og (decide (okC 580 c∧okP 580 d.2.2.2.2.1∧ok Rat 1000 r)) (og (decide (okC 580 c∧okP 580 d.2.2.2.2.2∧ok Rat 1000 r)) (match c.1 with|true=>(match d.1 with|true=>(og (decide (QC c d∧ok Rat 1000 r∧0≤ah r)) (some [RV.d aon (mn2 y2 (xY (dC c) (dC d) (ah r)))]))|false=>y3)|false=>y3)))))))))
def Qr:Cn 14 [tCU,tCU,tR]:=cn fun(c d:BCU) (r:BR)=>lf (fA c d∧ok Rat 1000 r) [.d aon (fd c d (ah r))] fun h=>by
 refine aA aax (Yv c d r) ⟨0,?_⟩
 obtain⟨⟨mc,md⟩,hr⟩:=h
 have c5:=cf (k:=580) mc.1 (by decide) (by decide)
 have d5:=cf (k:=580) md.1 (by decide) (by decide)
 obtain⟨r,rfl,br⟩:=aF hr
 have w:i64.wrap (0-aC r 0)= -aC r 0:=by
  have:=jW r 0
  rw[aS (by omega) (by omega)]
  omega
 unfold Yv fd Kp l7 tW
 simp only[aU,Nat.reduceLeDiff,au,B8,T0,dT (show fA c d from⟨mc,md⟩),dT c5,dT d5,dT c5.2.2.1,dT c5.2.2.2,dT d5.2.2.1,dT d5.2.2.2,w]
 by_cases h0:r<0
 ·rw[dT h0];rfl
 ·rw[dF h0]
  have hn:0≤r:=by grind
  cases decide (((fj c d).length:Int)>0)
  ·cases oh c d
   ·cases ea:c.1<;>cases eb:d.1
    ·simp only[dC,ea,eb];rfl
    ·simp only[dC,ea,eb,dT (show Fw c d from⟨mc,md,ea,eb⟩)];rfl
    ·simp only[dC,ea,eb,dT (show Fw d c from⟨md,mc,eb,ea⟩)];rfl
    ·simp only[dC,ea,eb,dT (show QC c d from⟨mc,md,ea,eb⟩),dT hn];rfl
   ·rfl
  ·rfl
def JY(c:BCU)(l:List BCU)(r:BR):Prop:=mG c∧(∀x∈l,mG x)∧l.length≤1000000∧ok Rat 1000 r
instance (c:BCU) (l:List BCU) (r:BR):Decidable (JY c l r):=by unfold JY;infer_instance
def BA(a b:List BCU)(r:BR):Prop:=(∀x∈a,mG x)∧(∀x∈b,mG x)∧a.length≤1000000∧b.length≤1000000∧ok Rat 1000 r
instance (a b:List BCU) (r:BR):Decidable (BA a b r):=by unfold BA;infer_instance
def nrZ(c:BCU)(r:Rat)(d:BCU):Bool:=decide (fd c d r<0)
def Gz(c:BCU)(l:List BCU)(r:Rat):Bool:=!(l.any (nrZ c r))
def CV(f:BCU→Bool):List BCU→Int→Int
 |[],_=> -1
 |c::l,i=>bif f c then i else CV f l (i+1)
def Bg(a b:List BCU)(r:Rat):Int:=CV (fun c=>!(Gz c b r)) a 0
def BO:List En:=[enT Qr]
def abZ:NT:=[((69,6),{keep:=[0,1,7,8],hl:=2}),((28,3),{keep:=[9],hl:=0}),((71,3),{keep:=[7],hl:=0}),((69,18),{keep:=[0,1,5,7,8,16],hl:=0})]
def M1:Ctx:=CX (ens BO) abZ
def ql(c:BCU)(l:List BCU)(r:BR)(s69_8:Int):Cfg:=⟨69,[.blk 0,.seq 25],[(0,.d (.sl tCU) l),(1,.clo 72 [0,1]),(7,SI (l.length:Int)),(8,SI s69_8)],[.box 39 [SB c.1,SB c.2.1.1.1.1,.d aom c.2.1.1.1.2,SB c.2.1.1.2.1,.d aom c.2.1.1.2.2,SB c.2.1.2.1.1.1,.d aom c.2.1.2.1.1.2,SB c.2.1.2.1.2.1,.d aom c.2.1.2.1.2.2,SB c.2.1.2.2.1.1,.d aom c.2.1.2.2.1.2,SB c.2.1.2.2.2.1,.d aom c.2.1.2.2.2.2,SB c.2.2.1.1.1.1,.d aom c.2.2.1.1.1.2,SB c.2.2.1.1.2.1,.d aom c.2.2.1.1.2.2,SB c.2.2.1.2.1.1.1,.d aom c.2.2.1.2.1.1.2,SB c.2.2.1.2.1.2.1,.d aom c.2.2.1.2.1.2.2,SB c.2.2.1.2.2.1.1,.d aom c.2.2.1.2.2.1.2,SB c.2.2.1.2.2.2.1,.d aom c.2.2.1.2.2.2.2,SB c.2.2.2.1,SB c.2.2.2.2.1.1.1.1,.d aom c.2.2.2.2.1.1.1.2,SB c.2.2.2.2.1.1.2.1,.d aom c.2.2.2.2.1.1.2.2,SB c.2.2.2.2.1.2.1.1.1,.d aom c.2.2.2.2.1.2.1.1.2,SB c.2.2.2.2.1.2.1.2.1,.d aom c.2.2.2.2.1.2.1.2.2,SB c.2.2.2.2.1.2.2.1.1.1,.d aom c.2.2.2.2.1.2.2.1.1.2,SB c.2.2.2.2.1.2.2.1.2.1,.d aom c.2.2.2.2.1.2.2.1.2.2,SB c.2.2.2.2.1.2.2.2.1.1.1,.d aom c.2.2.2.2.1.2.2.2.1.1.2,SB c.2.2.2.2.1.2.2.2.1.2.1,.d aom c.2.2.2.2.1.2.2.2.1.2.2,SB c.2.2.2.2.1.2.2.2.2.1.1,.d aom c.2.2.2.2.1.2.2.2.2.1.2,SB c.2.2.2.2.1.2.2.2.2.2.1,.d aom c.2.2.2.2.1.2.2.2.2.2.2,SB c.2.2.2.2.2.1.1.1,.d aom c.2.2.2.2.2.1.1.2,SB c.2.2.2.2.2.1.2.1,.d aom c.2.2.2.2.2.1.2.2,SB c.2.2.2.2.2.2.1.1.1,.d aom c.2.2.2.2.2.2.1.1.2,SB c.2.2.2.2.2.2.1.2.1,.d aom c.2.2.2.2.2.2.1.2.2,SB c.2.2.2.2.2.2.2.1.1.1,.d aom c.2.2.2.2.2.2.2.1.1.2,SB c.2.2.2.2.2.2.2.1.2.1,.d aom c.2.2.2.2.2.2.2.1.2.2,SB c.2.2.2.2.2.2.2.2.1.1.1,.d aom c.2.2.2.2.2.2.2.2.1.1.2,SB c.2.2.2.2.2.2.2.2.1.2.1,.d aom c.2.2.2.2.2.2.2.2.1.2.2,SB c.2.2.2.2.2.2.2.2.2.1.1,.d aom c.2.2.2.2.2.2.2.2.2.1.2,SB c.2.2.2.2.2.2.2.2.2.2.1,.d aom c.2.2.2.2.2.2.2.2.2.2.2],.box 31 [SB r.1.1,.d aom r.1.2,SB r.2.1,.d aom r.2.2]],2,[⟨71,[.seq 4],3,2,[],2,none⟩,⟨28,[.seq 4],3,2,[],0,none⟩]⟩
def aeD(c:BCU)(l:List BCU)(r:BR)(k:KT):Option (List RV):=k 6 (ql c l r 0)
theorem agb(c:BCU)(l:List BCU)(r:BR):RS M1 28 [.d tCU c,.d (.sl tCU) l,.d tR r] (aeD c l r):=rsX
def pH(c:BCU)(l:List BCU)(r:BR)(s69_8:Int)(k:KT):Option (List RV):=match decide (s69_8<(l.length:Int))with|true=>(match aR l s69_8 with|some x1=>(og (decide (fA c x1∧ok Rat 1000 r)) (match decide ((fd c x1 (ah r))<0)with|true=>some [RV.d .bool (!(decide (s69_8≥0)))]|false=>k 6 (ql c l r (i64.wrap (s69_8+1)))))|none=>none)|false=>some [RV.d .bool (!(decide ((-1)≥0)))]
theorem vg(c:BCU)(l:List BCU)(r:BR)(s69_8:Int):RN M1 6 (ql c l r s69_8) (pH c l r s69_8):=rnX
theorem aiw(c:BCU)(l:List BCU)(r:BR)(h:JY c l r):∀(j i:Nat),i+j=l.length→M1.Runs 6 (ql c l r (i:Int)) [.d .bool (!((l.drop i).any (nrZ c (ah r))))]:=by
 intro j
 have hl:=h.2.2.1
 induction j with
 |zero=>
  intro i hi
  refine vg _ _ _ _ ⟨0,?_⟩
  unfold pH
  rw[cd (by omega),pj (by omega)]
  rfl
 |succ j ih=>
  intro i hi
  have hil:i<l.length:=by omega
  obtain⟨n,hn⟩:=ih (i+1) (by omega)
  refine vg _ _ _ _ ⟨n,?_⟩
  unfold pH
  rw[bH hil,ao,ak4 hil,gA hil,aoa,bW (by omega)]
  dsimp only
  rw[dT (show fA c l[i]∧ok Rat 1000 r from⟨⟨h.1,h.2.1 _ (alE _)⟩,h.2.2.2⟩)]
  have e:nrZ c (ah r) l[i]=decide (fd c l[i] (ah r)<0):=rfl
  rw[e]
  cases decide (fd c l[i] (ah r)<0)
  ·exact hn
  ·show some [RV.d .bool (!(decide ((i:Int)≥0)))]=_
   rw[dT (show(i:Int)≥0 by omega)]
   rfl
def adT:Cn 28 [tCU,(.sl tCU),tR]:=cn fun(c:BCU) (l:List BCU) (r:BR)=>lf (JY c l r) [.d .bool (Gz c l (ah r))] fun h=>by
 exact c7 BO (agb _ _ _ (aiw c l r h l.length 0 (alI _)))
def BK:List En:=enF adT::BO
def aaj:NT:=[((69,6),{keep:=[0,1,7,8],hl:=2}),((26,3),{keep:=[9],hl:=0}),((69,18),{keep:=[0,1,5,7,8,16],hl:=0})]
def LC:Ctx:=CX (ens BK) aaj
def pW(a b:List BCU)(r:BR)(s69_8:Int):Cfg:=⟨69,[.blk 0,.seq 25],[(0,.d (.sl tCU) a),(1,.clo 70 [0,1]),(7,SI (a.length:Int)),(8,SI s69_8)],[.box 54 [.d (.sl tCU) b],.box 31 [SB r.1.1,.d aom r.1.2,SB r.2.1,.d aom r.2.2]],2,[⟨26,[.seq 4],3,2,[],0,none⟩]⟩
def ad4(a b:List BCU)(r:BR)(k:KT):Option (List RV):=k 6 (pW a b r 0)
theorem ahS(a b:List BCU)(r:BR):RS LC 26 [.d (.sl tCU) a,.d (.sl tCU) b,.d tR r] (ad4 a b r):=rsX
def pq(a b:List BCU)(r:BR)(s69_8:Int)(k:KT):Option (List RV):=match decide (s69_8<(a.length:Int))with|true=>(match aR a s69_8 with|some x1=>(og (decide (JY x1 b r)) (match !(Gz x1 b (ah r))with|true=>some [RV.d aon s69_8]|false=>k 6 (pW a b r (i64.wrap (s69_8+1)))))|none=>none)|false=>some [RV.d aon (-1)]
theorem u7(a b:List BCU)(r:BR)(s69_8:Int):RN LC 6 (pW a b r s69_8) (pq a b r s69_8):=rnX
theorem afw(a b:List BCU)(r:BR)(h:BA a b r):∀(j i:Nat),i+j=a.length→LC.Runs 6 (pW a b r (i:Int)) [.d aon (CV (fun c=>!(Gz c b (ah r))) (a.drop i) (i:Int))]:=by
 intro j
 have hl:=h.2.2.1
 induction j with
 |zero=>
  intro i hi
  refine u7 _ _ _ _ ⟨0,?_⟩
  unfold pq
  rw[cd (by omega),pj (by omega)]
  rfl
 |succ j ih=>
  intro i hi
  have hil:i<a.length:=by omega
  obtain⟨n,hn⟩:=ih (i+1) (by omega)
  refine u7 _ _ _ _ ⟨n,?_⟩
  unfold pq
  rw[bH hil,ao,ak4 hil,gA hil,bW (by omega)]
  dsimp only
  rw[dT (show JY a[i] b r from⟨h.1 _ (alE _),h.2.1,h.2.2.2.1,h.2.2.2.2⟩)]
  unfold CV
  cases Gz a[i] b (ah r)
  ·rfl
  ·exact hn
def ahp:Cn 26 [(.sl tCU),(.sl tCU),tR]:=cn fun(a b:List BCU) (r:BR)=>lf (BA a b r) [.d aon (Bg a b (ah r))] fun h=>by
 exact c7 BK (ahS _ _ _ (afw a b r h a.length 0 (alI _)))
def Vl:List En:=enF ahp::BK
def ad3:Cn 27 [(.sl tCU),(.sl tCU),tR]:=cn fun(a b:List BCU) (r:BR)=>lf (BA a b r) [.d .bool (decide (Bg a b (ah r)<0))] fun h=>jJ [RV.d .bool (decide ((Bg a b (ah r))<0))] (du Vl) h
namespace RE
end RE
namespace RE
end RE
end Go.Proofs.YtnkndpoojnflmaaGreat
end
