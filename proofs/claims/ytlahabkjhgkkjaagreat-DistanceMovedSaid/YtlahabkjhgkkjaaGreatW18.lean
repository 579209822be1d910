/- The curve of a piece: the reference's contract of One. -/
import Derived.Test.YtlahabkjhgkkjaaGreatW17
import Derived.Test.YtlahabkjhgkkjaaGreatW6
import Derived.Test.YtlahabkjhgkkjaaGreatW16
import Derived.Test.YtlahabkjhgkkjaaGreatW15
noncomputable section
namespace Go.Proofs.YtlahabkjhgkkjaaGreat
open Go.RowKit Go.IntKind
def iZ(c:BCU)(l:List BCU):List BP:=(l.map (oe c)).flatten
def wc(x:Pce):Prop:=wa x.1∧wa x.2.1∧u8P x.2.2
instance (x:Pce):Decidable (wc x):=by unfold wc;infer_instance
def Eg(x:Pce):List BCU:=match ofL x.1 with
 |[]=>[]
 |c::_=>gJ c (iZ c (ofL x.2.1))
def yK(x:Pce):Bool:=!(ofL x.1).isEmpty
def oE(x:Pce):BCU:=bif yK x then(Eg x).getD (x.2.2%((Eg x).length:Int)).toNat c00 else c00
def abk:Env:=[(26,Ul),(27,Qb),(28,Fu)]
theorem TL:EnvAll Tryz.prog abk:=⟨U5,TJ,Dg,trivial⟩
def V6:NT:=[((12,18),{keep:=[1,2,4,5,6,7],own:=[(6,41,tP)],hl:=3})]
def DW:Ctx:=CX abk V6
def pN(x:Pce)(s7:Int)(r2:List BP):Cfg:=⟨12,[.blk 0,.seq 31],[(1,.box 0 0),(2,.box 1 0),(4,.d (.sl tCU) (ofL x.1)),(5,.d (.sl tCU) (ofL x.2.1)),(6,.own 2),(7,SI s7)],[.box 26 [.d (.int .u8) x.1.1,.d (.int .u8) x.1.2.1,.d (.int .i8) x.1.2.2.1,.d (.int .i8) x.1.2.2.2.1,.d (.int .i8) x.1.2.2.2.2.1,.d (.int .i8) x.1.2.2.2.2.2.1,.d (.int .i8) x.1.2.2.2.2.2.2.1,.d (.int .i8) x.1.2.2.2.2.2.2.2,.d (.int .u8) x.2.1.1,.d (.int .u8) x.2.1.2.1,.d (.int .i8) x.2.1.2.2.1,.d (.int .i8) x.2.1.2.2.2.1,.d (.int .i8) x.2.1.2.2.2.2.1,.d (.int .i8) x.2.1.2.2.2.2.2.1,.d (.int .i8) x.2.1.2.2.2.2.2.2.1,.d (.int .i8) x.2.1.2.2.2.2.2.2.2,.d (.int .u8) x.2.2],.box 43 [SB false,SB false,.nil,SB false,.nil,SB false,.nil,SB false,.nil,SB false,.nil,SB false,.nil,SB false,.nil,SB false,.nil,SB false,.nil,SB false,.nil,SB false,.nil,SB false,.nil,SB false,SB false,.nil,SB false,.nil,SB false,.nil,SB false,.nil,SB false,.nil,SB false,.nil,SB false,.nil,SB false,.nil,SB false,.nil,SB false,.nil,SB false,.nil,SB false,.nil,SB false,.nil,SB false,.nil,SB false,.nil,SB false,.nil,SB false,.nil,SB false,.nil,SB false,.nil,SB false,.nil],.row 41 tP r2],0,[]⟩
def LS(x:Pce)(k:KT):Option (List RV):=match decide (wa x.1)with|true=>(match decide (wa x.2.1)with|true=>(match((ofL x.1).length:Int)==0 with|true=>some [RV.d tCU (false,((((false,[]),(false,[])),(((false,[]),(false,[])),((false,[]),(false,[])))),((((false,[]),(false,[])),(((false,[]),(false,[])),((false,[]),(false,[])))),(false,((((false,[]),(false,[])),(((false,[]),(false,[])),(((false,[]),(false,[])),(((false,[]),(false,[])),((false,[]),(false,[])))))),(((false,[]),(false,[])),(((false,[]),(false,[])),(((false,[]),(false,[])),(((false,[]),(false,[])),((false,[]),(false,[]))))))))))),RV.d .bool false]|false=>k 18 (pN x 0 ([])))|false=>none)|false=>none
theorem ahv(x:Pce):RS DW 12 [.d Cm x] (LS x):=rsX
def nF(x:Pce)(s7:Int)(r2:List BP)(k:KT):Option (List RV):=match decide (s7<((ofL x.2.1).length:Int))with|true=>(match bu (ofL x.1) 0 with|some x1=>(match bu (ofL x.2.1) s7 with|some x2=>(match decide (rU x1 x2)with|true=>(match decide ((r2.length+(oe x1 x2).length)*320≤140737488355328∧r2.length+(oe x1 x2).length≤140737488355328)with|true=>k 18 (pN x (i64.wrap (s7+1)) (r2++(oe x1 x2)))|false=>none)|false=>none)|none=>none)|none=>none)|false=>(match bu (ofL x.1) 0 with|some x1=>(match decide (wr x1 r2)with|true=>(match decide (((gJ x1 r2).length:Int)=(0:Int))with|true=>none|false=>(match bu (gJ x1 r2) (Int.tmod (i64.wrap x.2.2) ((gJ x1 r2).length:Int))with|some x2=>some [RV.d tCU x2,RV.d .bool true]|none=>none))|false=>none)|none=>none)
theorem vp(x:Pce)(s7:Int)(r2:List BP):RN DW 18 (pN x s7 r2) (nF x s7 r2):=rnX
theorem Ia{c d:BCU}(h:rU c d):(oe c d).length≤4∧∀x∈oe c d,okP 500 x∧onR (dC c) (dec x)=true∧onR (dC d) (dec x)=true:=by
 obtain⟨h1,h2⟩:=GP h
 unfold oe afe
 have h3:=sD (dC c) ((DA c d).filter fun p=>onR (dC c) (dec p)&&onR (dC d) (dec p)) []
 have h4:=List.length_filter_le (fun p=>onR (dC c) (dec p)&&onR (dC d) (dec p)) (DA c d)
 refine⟨by
  unfold fI
  rw[List.length_nil,aq9]at h3
  exact aqM h3 (aqM h4 h1),HC fun x hx=>?_⟩
 obtain⟨g1,g2⟩:=List.mem_filter.1 hx
 obtain⟨g3,g4⟩:=ar2.1 g2
 exact⟨h2 x g1,g3,g4⟩
theorem M9(c:Cv)(x:BP):∀r:List BP,r.length≤(fR c r x).length
 |[]=>by simp
 |z::r=>by
  have:=M9 c x r
  simp only[fR]
  cases decide (du c (dec z) (dec x)<0)
  ·cases cz (dec z) (dec x)==0<;>simp
  ·simp only[cond_true,aq1];omega
theorem P8(c:Cv):∀(l out:List BP),out.length≤(l.foldl (fR c) out).length
 |[],_=>aqE _
 |x::l,out=>aqM (M9 c x out) (P8 c l _)
theorem Hg(c:BCU):∀s:List BP,(wd c s).length=s.length-1
 |[]=>rfl
 |[_]=>rfl
 |x::y::r=>by
  have:=Hg c (y::r)
  simp only[wd,aq1]at this ⊢
  omega
theorem Zp{c:BCU}(h:cz (dec c.2.2.2.2.1) (dec c.2.2.2.2.2)≠0)(l:List BP):2≤(qH c l).length:=by
 unfold qH fI
 refine aqM ?_ (P8 (dC c) l _)
 simp only[fR]
 rw[as7.2 h]
 cases decide (du (dC c) (dec c.2.2.2.2.1) (dec c.2.2.2.2.2)<0)<;>exact aqE _
theorem HL{c:BCU}(h:gdN c)(l:List BP):1≤(gJ c l).length∧(gJ c l).length≤l.length+1:=by
 have h1:=Zp h.2.2.2 l
 have h2:=G8 c l
 unfold gJ
 rw[Hg]
 omega
theorem Xn{c:BCU}(h:gdN c){l:List BP}(hl:l.length≤900000)(ho:∀p∈l,okP 500 p∧onR (dC c) (dec p)=true):wr c l:=
 ⟨dB h.1.1 (by decide) (by decide),hl,fun x hx=>⟨cI (ho x hx).1 (by decide) (by decide),(ho x hx).2⟩⟩
def gdM(c:BCU):Prop:=mG c∧gQ (dC c) (frC (dC c))=true∧gQ (dC c) (toC (dC c))=true
theorem gdM.gd{c:BCU}(h:gdM c):gdC c:=⟨h.1.1,h.2.1,h.2.2⟩
theorem gdN.m{c:BCU}(h:gdN c):gdM c:=⟨h.1,h.2.1,h.2.2.1⟩
theorem aes{c:BCU}(h:gdN c){l:List BP}(ho:∀p∈l,okP 500 p∧onR (dC c) (dec p)=true):∀p∈gJ c l,gdM p:=by
 intro p hp
 obtain⟨x,y,hx,hy,e⟩:=Gt hp
 have f:∀z,z∈qH c l→okP 500 z∧gQ (dC c) (dec z)=true:=fun z hz=>by
  rcases Ht hz with e|e|e
  ·rw[e];exact⟨h.1.1.2.2.1,h.2.1⟩
  ·rw[e];exact⟨h.1.1.2.2.2,h.2.2.1⟩
  ·exact⟨(ho z e).1,(ar2.1 (ho z e).2).1⟩
 obtain⟨x1,x2⟩:=f x hx
 obtain⟨y1,y2⟩:=f y hy
 rw[e]
 exact⟨⟨⟨h.1.1.1,h.1.1.2.1,x1,y1⟩,h.1.2⟩,x2,y2⟩
theorem afD(x:Dr):(ofL x).length≤2:=by
 unfold ofL
 cases x.1%3==2
 ·cases x.1%3==1
  ·cases pn (drA x) (drB x) !=0<;>simp
  ·cases pi (drA x) (drB x) (drC x) !=0<;>simp
 ·cases decide ((drB x).1≤0)
  ·unfold FK;simp
  ·simp
theorem Qh{c:BCU}(h:gdN c):∀{l:List BCU},(∀d∈l,gdN d)→(iZ c l).length≤4*l.length∧∀p∈iZ c l,okP 500 p∧onR (dC c) (dec p)=true
 |[],_=>⟨aqE _,fun p hp=>by cases hp⟩
 |d::r,hd=>by
  obtain⟨i1,i2⟩:=Qh h (l:=r) (fun e he=>hd e (arK _ he))
  obtain⟨m1,m2⟩:=Ia (show rU c d from⟨h.1,(hd d (by simp)).1⟩)
  have e:iZ c (d::r)=oe c d++iZ c r:=rfl
  rw[e]
  refine⟨by rw[arN,aq1];omega,fun p hp=>?_⟩
  rcases aq7.1 hp with g|g
  ·exact⟨(m2 p g).1,(m2 p g).2.1⟩
  ·exact i2 p g
def aaB(x:Pce)(l:List BCU):BCU:=l.getD (x.2.2%(l.length:Int)).toNat c00
theorem WN(x:Pce)(h:wc x)(c:BCU)(hc:gdN c)(g0:bu (ofL x.1) 0=some c)(B:List BCU)(hB:ofL x.2.1=B)(gB:∀d∈B,gdN d)(lB:B.length≤2):∀(j i:Nat),i+j=B.length→∀r2:List BP,r2.length≤4*i→(∀p∈r2,okP 500 p∧onR (dC c) (dec p)=true)→
  DW.Runs 18 (pN x (i:Int) r2) [.d tCU (aaB x (gJ c (r2++iZ c (B.drop i)))),.d .bool true]:=by
 intro j
 induction j with
 |zero=>
  intro i hi r2 hr ho
  refine vp _ _ _ ⟨0,?_⟩
  obtain⟨l1,l2⟩:=HL hc r2
  have hs:=Xn hc (l:=r2) (by omega) ho
  obtain⟨u1,u2⟩:=h.2.2
  have e1:Int.tmod (i64.wrap x.2.2) ((gJ c r2).length:Int)=x.2.2%((gJ c r2).length:Int):=by
   rw[bi (by omega) (by omega),Int.tmod_eq_emod_of_nonneg u1]
  have m0:=arD x.2.2 (show((gJ c r2).length:Int)≠0 by omega)
  have m1:=aq4 x.2.2 (show 0<((gJ c r2).length:Int) by omega)
  obtain⟨k,hk⟩:=arG m0
  have hkl:k<(gJ c r2).length:=by omega
  have hd:B.drop i=[]:=as1.2 (by omega)
  have hcut:iZ c []=[]:=rfl
  unfold nF
  rw[hB,cF (by omega),g0]
  dsimp only
  rw[dT hs,dF (show ¬((gJ c r2).length:Int)=0 by omega),e1,hk,aI,aqt hkl,hd,hcut,ark]
  unfold aaB
  rw[hk,ar8,List.getD_eq_getElem?_getD,aqt hkl]
  rfl
 |succ j ih=>
  intro i hi r2 hr ho
  have hil:i<B.length:=by omega
  have hm:rU c B[i]:=⟨hc.1,(gB _ (ars hil)).1⟩
  obtain⟨m1,m2⟩:=Ia hm
  obtain⟨n,hn⟩:=ih (i+1) (by omega) (r2++oe c B[i]) (by rw[arN];omega) (fun p hp=>by
   rcases aq7.1 hp with g|g
   ·exact ho p g
   ·exact⟨(m2 p g).1,(m2 p g).2.1⟩)
  have hd:B.drop i=B[i]::B.drop (i+1):=aqP hil
  have hcut:iZ c (B[i]::B.drop (i+1))=oe c B[i]++iZ c (B.drop (i+1)):=rfl
  refine vp _ _ _ ⟨n,?_⟩
  unfold nF
  rw[hB,cd hil,g0,aI,aqt hil]
  dsimp only
  rw[dT hm,dT (by omega),cG (by omega),hd,hcut,←arR]
  exact hn
theorem Uo(x:Pce)(h:wc x):Con Tryz.prog 12 [.d Cm x] [.d tCU (oE x),.d .bool (yK x)]:=by
 have hB:=Ch h.2.1
 have hA:=Ch h.1
 refine aN TL (ahv _ ?_)
 unfold LS oE yK
 rw[dT h.1,dT h.2.1]
 cases hl:ofL x.1 with
 |nil=>exact⟨0,rfl⟩
 |cons c r=>
  rw[hl]at hA
  obtain⟨n,hn⟩:=WN x h c (hA c (by simp)) (by rw[hl];rfl) _ rfl hB (afD _) _ 0 (aq9 _) [] (aqE _) (fun p hp=>by cases hp)
  refine⟨n,?_⟩
  have e:(((c::r).length:Int)==0)=false:=by simp;omega
  rw[e]
  unfold Eg
  rw[hl]
  exact hn
def F9:aM:=spN false true [Cm] (fun x=>decide (wc x.1)) (fun x=>[RV.d tCU (hid (oE x.1)),RV.d .bool (yK x.1)])
theorem I3:SpK 12 F9:=spX fun x h=>by simp only[aj];exact Uo x.1 (aqr h)
theorem Yo{x:Pce}(h:wc x)(ho:yK x=true):oE x∈Eg x:=by
 have hA:=Ch h.1
 unfold oE Eg
 rw[ho]
 unfold yK at ho
 cases hl:ofL x.1 with
 |nil=>rw[hl]at ho;cases ho
 |cons c r=>
  rw[hl]at hA
  obtain⟨l1,l2⟩:=HL (hA c (by simp)) (iZ c (ofL x.2.1))
  have m0:=arD x.2.2 (show((gJ c (iZ c (ofL x.2.1))).length:Int)≠0 by omega)
  have m1:=aq4 x.2.2 (show 0<((gJ c (iZ c (ofL x.2.1))).length:Int) by omega)
  have hk:(x.2.2%((gJ c (iZ c (ofL x.2.1))).length:Int)).toNat<(gJ c (iZ c (ofL x.2.1))).length:=by omega
  simp only[cond_true]
  rw[List.getD_eq_getElem?_getD,aqt hk]
  exact ars hk
def abt:Env:=[(52,rV)]
theorem UN:EnvAll Tryz.prog abt:=⟨qt,trivial⟩
def akT:Ctx:=CX abt []
def aa8(n:Int)(_k:KT):Option (List RV):=match decide (qi (i64.wrap n) (4:Int))with|true=>some [RV.d tR (hid (ag (Rat.divInt (i64.wrap n) (4:Int))))]|false=>none
theorem aiK(n:Int):RS akT 22 [.d (.int .i8) n] (aa8 n):=rsX
theorem ZB(n:Int)(h:i8P n):Con Tryz.prog 22 [.d (.int .i8) n] [.d tR (ag (Rat.divInt n 4))]:=by
 refine aN UN (aiK _ ⟨0,?_⟩)
 obtain⟨h1,h2⟩:=h
 unfold aa8
 rw[bi (x:=n) (by omega) (by omega),dT (show qi n 4 from⟨⟨by omega,by omega⟩,⟨by omega,by omega⟩,by omega⟩)]
 simp only[aj]
def Ut:aM:=spN false true [(.int .i8)] (fun x=>decide (i8P x.1)) (fun x=>[RV.d tR (hid (ag (Rat.divInt x.1 4)))])
theorem Qw:SpK 22 Ut:=spX fun x h=>by simp only[aj];exact ZB x.1 (aqr h)
theorem ET{n:Int}(h:i8P n):Bd (Rat.divInt n 4) 3:=zZ (n:=n) (d:=4) (by obtain⟨h1,h2⟩:=h;exact⟨by omega,by omega⟩) (by decide) (by decide)
theorem pS{n:Int}(h:Ty.ok (.int .i8) n):i8P n:=bounds_i8 h
theorem GT{n:Int}(h:Ty.ok (.int .u8) n):u8P n:=bounds_u8 h
theorem ab4{x:Dr}(h:Ty.ok tDr x):wa x:=⟨GT h.1,GT h.2.1,pS h.2.2.1,pS h.2.2.2.1,pS h.2.2.2.2.1,pS h.2.2.2.2.2.1,pS h.2.2.2.2.2.2.1,pS h.2.2.2.2.2.2.2⟩
theorem afK{x:Pce}(h:Ty.ok Cm x):wc x:=⟨ab4 h.1,ab4 h.2.1,GT h.2.2⟩
theorem afm{n:Int}(h:i8P n){k:Nat}(hk:3≤k)(hk':k≤480000):ok Rat k (ag (Rat.divInt n 4)):=by
 have:=ET h
 exact aqr (okd (x:=Rat.divInt n 4) hk hk')
section
section
variable {α:Type} {lt:α→α→Prop} {f:α→α→Int}
theorem NK(h:vd lt):vd (fun x y=>lt y x):=⟨h.irr,fun x y z a b=>h.tr z y x b a,fun x y=>by
 rcases h.tri x y with g|g|g
 ·exact .inr (.inr g)
 ·exact .inr (.inl g)
 ·exact .inl g⟩
theorem Kb(h:wu lt f):wu (fun x y=>lt y x) (fun x y=> -f x y):=fun x y=>⟨fun g=>(by show-f x y= -1;rw[(h x y).2.2 g]),fun g=>(by show-f x y=0;rw[(h x y).2.1 g];rfl),fun g=>(by show-f x y=1;rw[(h x y).1 g];rfl)⟩
def aLt(lt:α→α→Prop)(u v:Bool×α):Prop:=(u.1=false∧v.1=true)∨(u.1=false∧v.1=false∧lt u.2 v.2)∨(u.1=true∧v.1=true∧lt v.2 u.2)
theorem adp(h:vd lt):vd (aLt lt):=by
 refine⟨fun⟨a,u⟩ g=>?_,fun⟨a,u⟩ ⟨b,v⟩ ⟨c,w⟩ g g'=>?_,fun⟨a,u⟩ ⟨b,v⟩=>?_⟩
 ·rcases g with⟨g1,g2⟩|⟨_,_,g⟩|⟨_,_,g⟩
  ·rw[g1]at g2;cases g2
  ·exact h.irr _ g
  ·exact h.irr _ g
 ·unfold aLt at*
  cases a<;>cases b<;>cases c<;>simp only[true_and,false_and,and_false,aty,or_false,false_or,reduceCtorEq,and_self]at g g' ⊢
  ·exact h.tr _ _ _ g g'
  ·exact h.tr _ _ _ g' g
 ·unfold aLt
  cases a<;>cases b<;>simp only[true_and,false_and,and_false,aty,or_false,false_or,reduceCtorEq,and_self,or_true,true_or]
  ·rcases h.tri u v with g|g|g
   ·exact .inl g
   ·exact .inr (.inl (by rw[g]))
   ·exact .inr (.inr g)
  ·rcases h.tri u v with g|g|g
   ·exact .inr (.inr g)
   ·exact .inr (.inl (by rw[g]))
   ·exact .inl g
theorem Np(h:wu lt f):wu (aLt lt) (gG f):=fun⟨a,u⟩ ⟨b,v⟩=>by
 refine⟨fun g=>?_,fun g=>?_,fun g=>?_⟩
 ·unfold aLt at g
  unfold gG
  cases a<;>cases b<;>simp only[true_and,false_and,and_false,aty,or_false,false_or,reduceCtorEq,and_self]at g
  ·exact(h u v).1 g
  ·rfl
  ·show-f u v= -1
   rw[(h u v).2.2 g]
 ·injection g with g1 g2
  subst g1 g2
  unfold gG
  have:=(h u u).2.1 rfl
  cases a
  ·exact this
  ·show-f u u=0
   rw[this];rfl
 ·unfold aLt at g
  unfold gG
  cases a<;>cases b<;>simp only[true_and,false_and,and_false,aty,or_false,false_or,reduceCtorEq,and_self]at g
  ·exact(h u v).2.2 g
  ·rfl
  ·show-f u v=1
   rw[(h u v).1 g];rfl
def cLt(lt:α→α→Prop)(o u v:α):Prop:=(¬lt u o∧lt v o)∨((lt u o↔lt v o)∧lt u v)
theorem alo(h:vd lt)(o:α):vd (cLt lt o):=by
 refine⟨fun u g=>?_,fun u v w g g'=>?_,fun u v=>?_⟩
 ·rcases g with⟨g1,g2⟩|⟨_,g⟩
  ·exact g1 g2
  ·exact h.irr _ g
 ·rcases g with⟨g1,g2⟩|⟨g1,g2⟩<;>rcases g' with⟨g3,g4⟩|⟨g3,g4⟩
  ·exact absurd g2 g3
  ·exact .inl ⟨g1,g3.1 g2⟩
  ·exact .inl ⟨fun e=>g3 (g1.1 e),g4⟩
  ·exact .inr ⟨g1.trans g3,h.tr _ _ _ g2 g4⟩
 ·by_cases e1:lt u o<;>by_cases e2:lt v o
  ·rcases h.tri u v with g|g|g
   ·exact .inl (.inr ⟨⟨fun _=>e2,fun _=>e1⟩,g⟩)
   ·exact .inr (.inl g)
   ·exact .inr (.inr (.inr ⟨⟨fun _=>e1,fun _=>e2⟩,g⟩))
  ·exact .inr (.inr (.inl ⟨e2,e1⟩))
  ·exact .inl (.inl ⟨e1,e2⟩)
  ·rcases h.tri u v with g|g|g
   ·exact .inl (.inr ⟨⟨fun e=>absurd e e1,fun e=>absurd e e2⟩,g⟩)
   ·exact .inr (.inl g)
   ·exact .inr (.inr (.inr ⟨⟨fun e=>absurd e e2,fun e=>absurd e e1⟩,g⟩))
theorem Dh(hl:vd lt)(h:wu lt f)(x y:α):decide (f x y<0)=true↔lt x y:=by
 rw[decide_eq_true_iff]
 rcases hl.tri x y with g|g|g
 ·rw[(h x y).1 g];exact⟨fun _=>g,fun _=>by decide⟩
 ·rw[(h x y).2.1 g];exact⟨fun e=>absurd e (by decide),fun e=>absurd e (by rw[g];exact hl.irr _)⟩
 ·rw[(h x y).2.2 g];exact⟨fun e=>absurd e (by decide),fun e=>absurd (hl.tr _ _ _ e g) (hl.irr _)⟩
theorem LU(hl:vd lt)(h:wu lt f)(o:Bool×α):wu (cLt (aLt lt) o) (pW f o):=fun u v=>by
 have ha:=Np h
 have n:=Dh (adp hl) ha
 have tf:∀x,¬aLt lt x o→decide (gG f x o<0)=false:=fun x g=>by
  cases e:decide (gG f x o<0)
  ·rfl
  ·exact absurd ((n x o).1 e) g
 unfold pW
 refine⟨fun g=>?_,fun g=>?_,fun g=>?_⟩
 ·rcases g with⟨g1,g2⟩|⟨g1,g2⟩
  ·rw[tf u g1,(n v o).2 g2];rfl
  ·have e:(decide (gG f u o<0)==decide (gG f v o<0))=true:=by
    by_cases e:aLt lt u o
    ·rw[(n u o).2 e,(n v o).2 (g1.1 e)];rfl
    ·rw[tf u e,tf v (fun e'=>e (g1.2 e'))];rfl
   rw[e];exact(ha u v).1 g2
 ·subst g
  rw[beq_self_eq_true];exact(ha u u).2.1 rfl
 ·rcases g with⟨g1,g2⟩|⟨g1,g2⟩
  ·rw[tf v g1,(n u o).2 g2];rfl
  ·have e:(decide (gG f u o<0)==decide (gG f v o<0))=true:=by
    by_cases e:aLt lt u o
    ·rw[(n u o).2 e,(n v o).2 (g1.2 e)];rfl
    ·rw[tf u e,tf v (fun e'=>e (g1.1 e'))];rfl
   rw[e];exact(ha u v).2.2 g2
end
def Sp(c:Cv)(p:Pt):Prop:=Rpd p∧gQ c p=true
structure Crp (c:Cv):Prop where
 f:Sp c (frC c)
 t:Sp c (toC c)
 q:c.1=true→0<(ciC c).2.2
 l:c.1=false→(lnC c).1≠0∨(lnC c).2.1≠0
theorem ER{c:BCU}(h:gdC c):Crp (dC c):=by
 obtain⟨h1,h2,h3⟩:=h
 exact⟨⟨ll h1.2.2.1,h2⟩,⟨ll h1.2.2.2,h3⟩,fun e=>(h1.1 e).2,fun e=>(h1.2.1 e).2⟩
open RE in
theorem Crp.e{c:Cv}(h:Crp c)(hne:cz (frC c) (toC c)≠0):GdE c:=by
 have hf:=h.f.1
 have ht:=h.t.1
 have s:=fun p (hp:Sp c p)=>hp.2
 refine⟨hf,ht,fun e=>hne (lY.2 e),fun e=>?_,fun e=>?_⟩
 ·have h2:=h.f.2
  have h3:=h.t.2
  unfold gQ at h2 h3
  rw[e]at h2 h3
  exact⟨h.q e,yH (asi.1 h2),yH (asi.1 h3)⟩
 ·have h2:=h.f.2
  have h3:=h.t.2
  unfold gQ at h2 h3
  rw[e]at h2 h3
  exact⟨h.l e,Eb (asi.1 h2),Eb (asi.1 h3)⟩
namespace RE
theorem DV(v w:RE):((v-(w))*(v-(w)))+((w*w-(v*v)))+of 2*((w-(0))*(v-(w)))=0:=by
 induction v using aqq
 induction w using aqq
 exact snd fun n=>by
  simp only[RL.add,RL.mul,RL.neg,RL.const]
  grind
theorem P3(v w:RE)(h1:v*v=w*w)(_h2:0≤v)(h3:0≤w):v≤w:=fun hg=>far (aU (aU (mul_pos (a8 hg) (a8 hg)) (aR (jx h1))) (jl (by decide+kernel:(0:Rat)<2) (cD (aR h3) (le_of_lt (a8 hg))))) (DV v w)
theorem EV(v w:RE):((w-(v))*(w-(v)))+((v*v-(w*w)))+of 2*((v-(0))*(w-(v)))=0:=by
 induction v using aqq
 induction w using aqq
 exact snd fun n=>by
  simp only[RL.add,RL.mul,RL.neg,RL.const]
  grind
theorem Rw(v w:RE)(h1:v*v=w*w)(h2:0≤v)(_h3:0≤w):w≤v:=fun hg=>far (aU (aU (mul_pos (a8 hg) (a8 hg)) (aR (lM h1))) (jl (by decide+kernel:(0:Rat)<2) (cD (aR h2) (le_of_lt (a8 hg))))) (EV v w)
theorem WH(v w:RE)(h1:v*v=w*w)(h2:0≤v)(h3:0≤w):v=w:=le_antisymm (P3 v w h1 h2 h3) (Rw v w h1 h2 h3)
theorem BC(v w:RE):((v-(w))*(v-(w)))+((v*v-(w*w)))+of 2*((0-(v))*(v-(w)))=0:=by
 induction v using aqq
 induction w using aqq
 exact snd fun n=>by
  simp only[RL.add,RL.mul,RL.neg,RL.const]
  grind
theorem IW(v w:RE)(h1:v*v=w*w)(h2:v≤0)(_h3:w≤0):v≤w:=fun hg=>far (aU (aU (mul_pos (a8 hg) (a8 hg)) (aR (lM h1))) (jl (by decide+kernel:(0:Rat)<2) (cD (aR h2) (le_of_lt (a8 hg))))) (BC v w)
theorem CW(v w:RE):((w-(v))*(w-(v)))+((w*w-(v*v)))+of 2*((0-(w))*(w-(v)))=0:=by
 induction v using aqq
 induction w using aqq
 exact snd fun n=>by
  simp only[RL.add,RL.mul,RL.neg,RL.const]
  grind
theorem Kr(v w:RE)(h1:v*v=w*w)(_h2:v≤0)(h3:w≤0):w≤v:=fun hg=>far (aU (aU (mul_pos (a8 hg) (a8 hg)) (aR (jx h1))) (jl (by decide+kernel:(0:Rat)<2) (cD (aR h3) (le_of_lt (a8 hg))))) (CW v w)
theorem LV(v w:RE)(h1:v*v=w*w)(h2:v≤0)(h3:w≤0):v=w:=le_antisymm (IW v w h1 h2 h3) (Kr v w h1 h2 h3)
theorem MH(u v w Q:RE):((v*v-(w*w)))+((Q-(u*u+v*v)))+((u*u+w*w-(Q)))=0:=by
 induction u using aqq
 induction v using aqq
 induction w using aqq
 induction Q using aqq
 exact snd fun n=>by
  simp only[RL.add,RL.mul,RL.neg,RL.const]
  grind
theorem ahe(u v w Q:RE)(h1:u*u+v*v=Q)(h2:u*u+w*w=Q):v*v≤w*w:=fun hg=>far (aU (aU (a8 hg) (aR (jx h1))) (aR (lM h2))) (MH u v w Q)
theorem NN(u v w Q:RE):((w*w-(v*v)))+((u*u+v*v-(Q)))+((Q-(u*u+w*w)))=0:=by
 induction u using aqq
 induction v using aqq
 induction w using aqq
 induction Q using aqq
 exact snd fun n=>by
  simp only[RL.add,RL.mul,RL.neg,RL.const]
  grind
theorem aek(u v w Q:RE)(h1:u*u+v*v=Q)(h2:u*u+w*w=Q):w*w≤v*v:=fun hg=>far (aU (aU (a8 hg) (aR (lM h1))) (aR (jx h2))) (NN u v w Q)
theorem aoh(u v w Q:RE)(h1:u*u+v*v=Q)(h2:u*u+w*w=Q):v*v=w*w:=le_antisymm (ahe u v w Q h1 h2) (aek u v w Q h1 h2)
theorem E8(a b:RE):((a-(b)))+((-a-(-b)))=0:=by
 induction a using aqq
 induction b using aqq
 exact snd fun n=>by
  simp only[RL.add,RL.neg,RL.const]
  grind
theorem Ss(a b:RE)(h1: -a= -b):a≤b:=fun hg=>far (aU (a8 hg) (aR (lM h1))) (E8 a b)
theorem EA(a b:RE):((b-(a)))+((-b-(-a)))=0:=by
 induction a using aqq
 induction b using aqq
 exact snd fun n=>by
  simp only[RL.add,RL.neg,RL.const]
  grind
theorem Ny(a b:RE)(h1: -a= -b):b≤a:=fun hg=>far (aU (a8 hg) (aR (jx h1))) (EA a b)
theorem VL(a b:RE)(h1: -a= -b):a=b:=le_antisymm (Ss a b h1) (Ny a b h1)
theorem Ca{u v:RE}:(upA (cls u v)=true→0≤v)∧(upA (cls u v)=false→v≤0)∧(ufA (cls u v)=true→0≤v)∧(ufA (cls u v)=false→v≤0):=by
 unfold cls upA ufA
 rcases c9 v with⟨h,e⟩|⟨h,e⟩|⟨h,e⟩<;>rw[e]
 ·exact⟨fun _=>le_of_lt h,fun g=>(by cases g),fun _=>le_of_lt h,fun g=>(by cases g)⟩
 ·rw[h];exact⟨fun _=>le_refl _,fun _=>le_refl _,fun _=>le_refl _,fun _=>le_refl _⟩
 ·exact⟨fun g=>(by cases g),fun _=>le_of_lt h,fun g=>(by cases g),fun _=>le_of_lt h⟩
theorem Ho{c:Ln}{p q:Pt}(hp:onCi c p)(hq:onCi c q)(hx:pX p=pX q)(g:(0≤pY p-of c.2.1∧0≤pY q-of c.2.1)∨(pY p-of c.2.1≤0∧pY q-of c.2.1≤0)):pR p=pR q:=by
 unfold onCi at hp hq
 rw[hx]at hp
 have e:=aoh _ _ _ _ hp hq
 refine ath hx ?_
 rcases g with⟨a,b⟩|⟨a,b⟩
 ·exact C7 _ _ _ (WH _ _ e a b)
 ·exact C7 _ _ _ (LV _ _ e a b)
end RE
open RE in
theorem qM{c:Cv}(ha:c.1=true){p:Pt}(hp:Sp c p):onCi (ciC c) p:=by
 have:=hp.1
 have g:=hp.2
 unfold gQ at g
 rw[ha]at g
 exact yH (asi.1 g)
open RE in
theorem Z7{c:Cv}(h:Crp c)(ha:c.1=true):∃κ:Pt→Bool×RE,(∀d:Cv,d.1=true→ciC d=ciC c→cwC d=cwC c→Sp c (frC d)→∀p q,Sp c p→Sp c q→du d p q=pW (fun x y:RE=>sg (x-y)) (κ (frC d)) (κ p) (κ q))∧∀p q,Sp c p→Sp c q→(κ p=κ q↔cz p q=0):=by
 cases hw:cwC c
 ·refine⟨fun p=>(upR (ciC c) p,pX p),fun d d1 d2 d3 hd p q hp hq=>?_,fun p q hp hq=>?_⟩
  ·have i1:=hd.1
   have:=hp.1
   have:=hq.1
   have e:∀{x y:Pt},Rpd x→Rpd y→bL (xP x) (xP y)=sg (pX x-pX y):=fun{x y} _ _=>by rw[cmpT_re rO rO,Da,Da]
   unfold du
   rw[d1,d3,cond_true,cond_false,d2]
   exact uM (e hp.1 i1) (e hq.1 i1) (e hp.1 hq.1)
  ·have r1:=hp.1
   have r2:=hq.1
   rw[lY]
   constructor
   ·intro e
    injection e with e1 e2
    rw[FY,FY]at e1
    refine Ho (qM ha hp) (qM ha hq) e2 ?_
    cases g:upA (cls (pX p-of (ciC c).1) (pY p-of (ciC c).2.1))
    ·exact .inr ⟨Ca.2.1 g,Ca.2.1 (e1.symm.trans g)⟩
    ·exact .inl ⟨Ca.1 g,Ca.1 (e1.symm.trans g)⟩
   ·intro e
    have e1:pX p=pX q:=congrArg Prod.fst e
    have e2:pY p=pY q:=congrArg Prod.snd e
    show(upR (ciC c) p,pX p)=(upR (ciC c) q,pX q)
    rw[FY,FY,e1,e2]
 ·refine⟨fun p=>(upR (flC (ciC c)) (flP p),-pX p),fun d d1 d2 d3 hd p q hp hq=>?_,fun p q hp hq=>?_⟩
  ·have i1:=hd.1
   have:=hp.1
   have:=hq.1
   have e:∀{x y:Pt},Rpd x→Rpd y→bL (xP (flP x)) (xP (flP y))=sg (-pX x- -pX y):=fun{x y} _ _=>by rw[cmpT_re rO rO,Da,Da,SD,SD]
   unfold du
   rw[d1,d3,cond_true,cond_true,d2]
   exact uM (e hp.1 i1) (e hq.1 i1) (e hp.1 hq.1)
  ·have r1:=hp.1
   have r2:=hq.1
   rw[lY]
   have u1:=adH (h.q ha) (qM ha hp)
   have u2:=adH (h.q ha) (qM ha hq)
   constructor
   ·intro e
    injection e with e1 e2
    rw[u1,u2]at e1
    refine Ho (qM ha hp) (qM ha hq) (VL _ _ e2) ?_
    cases g:ufA (cls (pX p-of (ciC c).1) (pY p-of (ciC c).2.1))
    ·exact .inr ⟨Ca.2.2.2 g,Ca.2.2.2 (e1.symm.trans g)⟩
    ·exact .inl ⟨Ca.2.2.1 g,Ca.2.2.1 (e1.symm.trans g)⟩
   ·intro e
    have e1:pX p=pX q:=congrArg Prod.fst e
    have e2:pY p=pY q:=congrArg Prod.snd e
    show(upR (flC (ciC c)) (flP p),-pX p)=(upR (flC (ciC c)) (flP q),-pX q)
    rw[u1,u2,e1,e2]
open RE in
theorem Zz{c:Cv}(h:Crp c):∃(K:Type) (lt:K→K→Prop) (κ:Pt→K) (f:K→K→Int),vd lt∧wu lt f∧(∀p q,Sp c p→Sp c q→du c p q=f (κ p) (κ q))∧∀p q,Sp c p→Sp c q→(κ p=κ q↔cz p q=0):=by
 have hF:=h.f
 cases ha:c.1
 ·cases hd:decide (cz (frC c) (toC c)>0)
  ·refine⟨PE,ahB,pR,lxc,tz,Ac,fun p q hp hq=>?_,fun p q hp hq=>?_⟩
   ·have:=hp.1
    have:=hq.1
    unfold du
    rw[ha,hd,cond_false,cond_false,yz]
   ·have:=hp.1
    have:=hq.1
    exact lY.symm
  ·refine⟨PE,_,pR,_,NK tz,Kb Ac,fun p q hp hq=>?_,fun p q hp hq=>?_⟩
   ·have:=hp.1
    have:=hq.1
    unfold du
    rw[ha,hd,cond_false,cond_true,yz]
   ·have:=hp.1
    have:=hq.1
    exact lY.symm
 ·obtain⟨κ,h1,h2⟩:=Z7 h ha
  exact⟨Bool×RE,_,κ,_,alo (adp TD) (κ (frC c)),LU TD Xv _,h1 c ha rfl rfl hF,h2⟩
structure Ord (c:Cv):Prop where
 tr:∀{p q r},Sp c p→Sp c q→Sp c r→du c p q<0→du c q r<0→du c p r<0
 tri:∀{p q},Sp c p→Sp c q→du c p q<0∨cz p q=0∨du c q p<0
 irr:∀{p q},Sp c p→Sp c q→cz p q=0→du c p q=0
 asy:∀{p q},Sp c p→Sp c q→du c p q<0→0<du c q p
theorem RY{c:Cv}(h:Crp c):Ord c:=by
 obtain⟨K,lt,κ,f,hl,hc,ho,hk⟩:=Zz h
 have n:∀{p q},Sp c p→Sp c q→(du c p q<0↔lt (κ p) (κ q)):=fun{p q} hp hq=>by
  rw[ho p q hp hq,←decide_eq_true_iff (p:=f (κ p) (κ q)<0)]
  exact Dh hl hc _ _
 refine⟨fun{p q r} hp hq hr g g'=>?_,fun{p q} hp hq=>?_,fun{p q} hp hq g=>?_,fun{p q} hp hq g=>?_⟩
 ·rw[n hp hr]
  exact hl.tr _ _ _ ((n hp hq).1 g) ((n hq hr).1 g')
 ·rw[n hp hq,n hq hp,←hk p q hp hq]
  exact hl.tri _ _
 ·rw[ho p q hp hq,(hc _ _).2.1 ((hk p q hp hq).2 g)]
 ·rw[ho q p hq hp,(hc _ _).2.2 ((n hp hq).1 g)]
  decide
def Spb(c:Cv)(x:BP):Prop:=Sp c (dec x)
theorem Rm{c:Cv}(o:Ord c){x:BP}(hx:Spb c x):∀{l:List BP},(∀y∈l,Spb c y)→l.Pairwise (fun a b=>du c (dec a) (dec b)<0)→(fR c l x).Pairwise (fun a b=>du c (dec a) (dec b)<0)
 |[],_,_=>by simp[fR]
 |y::r,hl,hp=>by
  have hy:=hl y (by simp)
  have hr:∀z∈r,Spb c z:=fun z hz=>hl z (arK _ hz)
  obtain⟨p1,p2⟩:=arS.1 hp
  simp only[fR]
  by_cases h1:du c (dec y) (dec x)<0
  ·rw[aqs h1,cond_true]
   refine arS.2 ⟨fun z hz=>?_,Rm o hx hr p2⟩
   rcases l8 hz with g|g
   ·exact p1 z g
   ·rw[g];exact h1
  ·rw[aqu h1,cond_false]
   by_cases h2:cz (dec y) (dec x)=0
   ·rw[asi.2 h2,cond_true];exact hp
   ·rw[as7.2 h2,cond_false]
    have h3:du c (dec x) (dec y)<0:=by
     rcases o.tri hy hx with g|g|g
     ·exact absurd g h1
     ·exact absurd g h2
     ·exact g
    refine arS.2 ⟨fun z hz=>?_,hp⟩
    rcases arc.1 hz with g|g
    ·rw[g];exact h3
    ·exact o.tr hx hy (hr z g) h3 (p1 z g)
theorem Ge{c:Cv}(o:Ord c):∀{l out:List BP},(∀y∈l,Spb c y)→(∀y∈out,Spb c y)→out.Pairwise (fun a b=>du c (dec a) (dec b)<0)→(l.foldl (fR c) out).Pairwise (fun a b=>du c (dec a) (dec b)<0)
 |[],_,_,_,h=>h
 |x::l,out,hl,ho,h=>Ge o (l:=l) (fun y hy=>hl y (arK _ hy)) (fun y hy=>by
   rcases l8 hy with g|g
   ·exact ho y g
   ·rw[g];exact hl x (by simp)) (Rm o (hl x (by simp)) ho h)
theorem afF{c:Cv}(o:Ord c){l:List BP}(hl:∀y∈l,Spb c y):(fI c l).Pairwise (fun a b=>du c (dec a) (dec b)<0):=Ge o hl (fun y hy=>by cases hy) List.Pairwise.nil
theorem S9{c:BCU}{R:BP→BP→Prop}{p:BCU}:∀{s:List BP},s.Pairwise R→p∈wd c s→∃x y,x∈s∧y∈s∧R x y∧p=sZ c x y
 |[],_,h=>by cases h
 |[_],_,h=>by cases h
 |x::y::r,hp,h=>by
  obtain⟨p1,p2⟩:=arS.1 hp
  simp only[wd]at h
  rcases arc.1 h with h|h
  ·exact⟨x,y,by simp,by simp,p1 y (by simp),h⟩
  ·obtain⟨a,b,h1,h2,h3,h4⟩:=S9 p2 h
   exact⟨a,b,arK _ h1,arK _ h2,h3,h4⟩
theorem NV{c:BCU}(h:gdN c){l:List BP}(ho:∀p∈l,okP 500 p∧onR (dC c) (dec p)=true):∀x∈qH c l,okP 500 x∧Spb (dC c) x:=by
 intro z hz
 rcases Ht hz with e|e|e
 ·rw[e];exact⟨h.1.1.2.2.1,ll h.1.1.2.2.1,h.2.1⟩
 ·rw[e];exact⟨h.1.1.2.2.2,ll h.1.1.2.2.2,h.2.2.1⟩
 ·exact⟨(ho z e).1,ll (ho z e).1,(ar2.1 (ho z e).2).1⟩
theorem aid{c:BCU}(h:gdN c){l:List BP}(ho:∀p∈l,okP 500 p∧onR (dC c) (dec p)=true):(qH c l).Pairwise (fun a b=>du (dC c) (dec a) (dec b)<0):=by
 refine afF (RY (ER h.gd)) fun y hy=>?_
 rcases aq7.1 hy with hy|hy
 ·simp only[arc,List.not_mem_nil,or_false]at hy
  rcases hy with e|e
  ·rw[e];exact⟨ll h.1.1.2.2.1,h.2.1⟩
  ·rw[e];exact⟨ll h.1.1.2.2.2,h.2.2.1⟩
 ·exact⟨ll (ho y hy).1,(ar2.1 (ho y hy).2).1⟩
theorem Zt{c:BCU}(h:gdN c){l:List BP}(ho:∀p∈l,okP 500 p∧onR (dC c) (dec p)=true):∀p∈gJ c l,gdN p:=by
 intro p hp
 have hm:=aes h ho p hp
 obtain⟨x,y,hx,hy,hr,e⟩:=S9 (aid h ho) hp
 have o:=RY (ER h.gd)
 refine⟨hm.1,hm.2.1,hm.2.2,fun g=>?_⟩
 rw[e]at g
 have:=o.irr (NV h ho x hx).2 (NV h ho y hy).2 g
 omega
theorem Zk{x:Pce}(h:wc x):∀p∈Eg x,gdN p:=by
 intro p hp
 have hA:=Ch h.1
 unfold Eg at hp
 cases hl:ofL x.1 with
 |nil=>rw[hl]at hp;cases hp
 |cons c r=>
  rw[hl]at hp hA
  exact Zt (hA c (by simp)) (Qh (hA c (by simp)) (Ch h.2.1)).2 p hp
theorem XE{x:Pce}(h:wc x)(ho:yK x=true):gdN (oE x):=Zk h _ (Yo h ho)
theorem gdN.e{c:BCU}(h:gdN c):RE.GdE (dC c):=(ER h.gd).e h.2.2.2
end
namespace RE
def dsE(p v:PE):RE:=(p.1-v.1)*(p.1-v.1)+(p.2-v.2)*(p.2-v.2)
def Mn(S:PE→Prop)(v:PE)(m:RE):Prop:=(∃p,S p∧dsE p v=m)∧∀p,S p→m≤dsE p v
def exE(l:Ln)(v:PE):RE:=of l.1*v.1+of l.2.1*v.2-of l.2.2
theorem an2(a b x y d e q:RE):(a*y-b*x)*((d*b-e*a)+(d*y-e*x))=((a*d+b*e)-(x*d+y*e))*(q+(a*x+b*y))+(a*d+b*e)*(x*x+y*y-q)-(x*d+y*e)*(a*a+b*b-q):=by
 induction a using aqq
 induction b using aqq
 induction x using aqq
 induction y using aqq
 induction d using aqq
 induction e using aqq
 induction q using aqq
 exact snd fun n=>by
  simp only[RL.add,RL.mul,RL.neg]
  grind
theorem Xr(x k m:RE):x+k*0-m*0=x:=by
 induction x using aqq
 induction k using aqq
 induction m using aqq
 exact snd fun n=>by
  simp only[RL.add,RL.mul,RL.neg,RL.const]
  grind
theorem K8(x y:RE):((0-(x+y)))+((x-(0)))+((y-(0)))=0:=by
 induction x using aqq
 induction y using aqq
 exact snd fun n=>by
  simp only[RL.add,RL.neg,RL.const]
  grind
theorem agq(x y:RE)(h1:0≤x)(h2:0≤y):0≤x+y:=fun hg=>far (aU (aU (a8 hg) (aR h1)) (aR h2)) (K8 x y)
theorem Je(x y:RE):((x-(0)))+((0-(x+y)))+((y-(0)))=0:=by
 induction x using aqq
 induction y using aqq
 exact snd fun n=>by
  simp only[RL.add,RL.neg,RL.const]
  grind
theorem Wd(x y:RE)(h1:x+y=0)(_h2:0≤x)(h3:0≤y):x≤0:=fun hg=>far (aU (aU (a8 hg) (aR (jx h1))) (aR h3)) (Je x y)
theorem E3(x y:RE):((y-(0)))+((0-(x+y)))+((x-(0)))=0:=by
 induction x using aqq
 induction y using aqq
 exact snd fun n=>by
  simp only[RL.add,RL.neg,RL.const]
  grind
theorem Vn(x y:RE)(h1:x+y=0)(h2:0≤x)(_h3:0≤y):y≤0:=fun hg=>far (aU (aU (a8 hg) (aR (jx h1))) (aR h2)) (E3 x y)
theorem Hq{x y:RE}(h:x*x+y*y=0):x=0∧y=0:=⟨G4 (Wd _ _ h (nS x) (nS y)),G4 (Vn _ _ h (nS x) (nS y))⟩
theorem gl{u z d:PE}{Q:RE}(hu:dtE u u=Q)(hz:dtE z z=Q):crs u z*(crs d u+crs d z)=(dtE u d-dtE z d)*(Q+dtE u z):=by
 unfold dtE at hu hz
 unfold crs dtE
 rw[an2 _ _ _ _ _ _ Q,hu,hz,sub_self,Xr]
end RE
namespace RE
def vE(v:Rat×Rat):PE:=(of v.1,of v.2)
theorem vR_sq{p:Pt}[Rpd p](v:Rat×Rat):vR (sqP p v)=dsE (pR p) (vE v):=DZ
theorem Mx{c:Cv}[hf:Rpd (frC c)][ht:Rpd (toC c)]{p:Pt}[hp:Rpd p]:qa c p=true↔btE (tE (lnC c) (pR (frC c))) (tE (lnC c) (pR (toC c))) (tE (lnC c) (pR p)):=by
 unfold qa
 rw[ph,ph,ph,ph,ph]
 exact Z6 _ _ _
end RE
namespace RE
theorem Mn.zero{S:PE→Prop}{v:PE}{m:RE}(h:Mn S v m):m=0↔S v:=by
 obtain⟨⟨p,hp,e⟩,hl⟩:=h
 constructor
 ·intro h0
  rw[h0]at e
  obtain⟨a,b⟩:=Hq e
  have:p=v:=ath (mW _ _ a) (mW _ _ b)
  rw[←this];exact hp
 ·intro hv
  have h1:=hl v hv
  have h2:dsE v v=0:=by
   unfold dsE
   rw[sub_self,sub_self,mul_zero,add_zero]
  rw[h2]at h1
  refine le_antisymm h1 ?_
  rw[←e]
  exact agq _ _ (nS _) (nS _)
theorem yk{x y:Rt}(hx:Rdd x)(hy:Rdd y)(h:vR x=vR y):(bL x y==0)=true:=by
 rw[cmpT_re hx.nn hy.nn,h,sub_self,eu]
 rfl
end RE
section
def rcX(p:Pt)(v:Rat×Rat):Rat×Rat:=(p.1-v.1,p.2.1)
def rcY(p:Pt)(v:Rat×Rat):Rat×Rat:=(p.2.2.1-v.2,p.2.2.2.1)
def prQ(q:Qd)(x y:Rat×Rat)(s:Rat):Qd:=(q.1+s*(x.1*y.1),q.2.1+s*(x.2*y.1),q.2.2.1+s*(x.1*y.2),q.2.2.2.1+s*(x.2*y.2),q.2.2.2.2.1,q.2.2.2.2.2)
def noQ(p q:Pt):Qd:=(0,0,0,0,p.2.2.2.2,q.2.2.2.2)
def crQ(v:Rat×Rat)(p q:Pt):Qd:=prQ (prQ (noQ p q) (rcX p v) (rcY q v) 1) (rcY p v) (rcX q v) (-1)
def doQ(v:Rat×Rat)(p q:Pt):Qd:=prQ (prQ (noQ p q) (rcX p v) (rcX q v) (-2)) (rcY p v) (rcY q v) (-2)
def z2:Rat×Rat:=(0,0)
def apQ(p q:Pt)(r:Rat):Qd:=((doQ z2 p q).1+(sqA p z2+sqA q z2)-r*r,(doQ z2 p q).2.1+sqB p z2,(doQ z2 p q).2.2.1+sqB q z2,(doQ z2 p q).2.2.2.1,p.2.2.2.2,q.2.2.2.2)
namespace RE
theorem Xs(A B C D m n s a b c d:RE):A+s*(a*c)+(B+s*(b*c))*m+(C+s*(a*d))*n+(D+s*(b*d))*(m*n)=A+B*m+C*n+D*(m*n)+s*((a+b*m)*(c+d*n)):=by
 induction A using aqq
 induction B using aqq
 induction C using aqq
 induction D using aqq
 induction m using aqq
 induction n using aqq
 induction s using aqq
 induction a using aqq
 induction b using aqq
 induction c using aqq
 induction d using aqq
 exact snd fun n=>by
  simp only[RL.add,RL.mul]
  grind
theorem ZW(A B C D m n a b c d r:RE):A+(a+c)-r+(B+b)*m+(C+d)*n+D*(m*n)=A+B*m+C*n+D*(m*n)+(a+b*m)+(c+d*n)-r:=by
 induction A using aqq
 induction B using aqq
 induction C using aqq
 induction D using aqq
 induction m using aqq
 induction n using aqq
 induction a using aqq
 induction b using aqq
 induction c using aqq
 induction d using aqq
 induction r using aqq
 exact snd fun n=>by
  simp only[RL.add,RL.mul,RL.neg]
  grind
theorem aoy(x y u w:RE):0+ -2*((x-0)*(u-0))+ -2*((y-0)*(w-0))+((x-0)*(x-0)+(y-0)*(y-0))+((u-0)*(u-0)+(w-0)*(w-0))=(x-u)*(x-u)+(y-w)*(y-w):=by
 induction x using aqq
 induction y using aqq
 induction u using aqq
 induction w using aqq
 exact snd fun n=>by
  simp only[RL.add,RL.mul,RL.neg,RL.const]
  grind
theorem apR(a b:RE):0+1*a+ -1*b=a-b:=by
 induction a using aqq
 induction b using aqq
 exact snd fun n=>by
  simp only[RL.add,RL.mul,RL.neg,RL.const]
  grind
theorem zR(a v b:RE):a-v+b=a+b-v:=by
 induction a using aqq
 induction v using aqq
 induction b using aqq
 exact snd fun n=>by
  simp only[RL.add,RL.neg]
  grind
theorem acO(x a v:RE):x+v-(a+v)=x-a:=by
 induction x using aqq
 induction a using aqq
 induction v using aqq
 exact snd fun n=>by
  simp only[RL.add,RL.neg]
  grind
theorem amF(x y a b v w:RE):(x+v-(a+v))*(x+v-(a+v))+(y+w-(b+w))*(y+w-(b+w))=(x-a)*(x-a)+(y-b)*(y-b):=by
 induction x using aqq
 induction y using aqq
 induction a using aqq
 induction b using aqq
 induction v using aqq
 induction w using aqq
 exact snd fun n=>by
  simp only[RL.add,RL.mul,RL.neg]
  grind
theorem apn(a b x y v w:RE): -b*(x+v)+a*(y+w)= -b*x+a*y+(-b*v+a*w):=by
 induction a using aqq
 induction b using aqq
 induction x using aqq
 induction y using aqq
 induction v using aqq
 induction w using aqq
 exact snd fun n=>by
  simp only[RL.add,RL.mul,RL.neg]
  grind
theorem akh(a b c x y v w:RE):a*(x+v)+b*(y+w)-(c+(a*v+b*w))=a*x+b*y-c:=by
 induction a using aqq
 induction b using aqq
 induction c using aqq
 induction x using aqq
 induction y using aqq
 induction v using aqq
 induction w using aqq
 exact snd fun n=>by
  simp only[RL.add,RL.mul,RL.neg]
  grind
theorem Mj(a v b:RE):a+v+b=a+b+v:=by
 induction a using aqq
 induction v using aqq
 induction b using aqq
 exact snd fun n=>by
  simp only[RL.add]
  grind
theorem WZ(x y t:RE):((x+t-(y+t)))+((y-(x)))=0:=by
 induction x using aqq
 induction y using aqq
 induction t using aqq
 exact snd fun n=>by
  simp only[RL.add,RL.neg,RL.const]
  grind
theorem akd(x y t:RE)(h1:x≤y):x+t≤y+t:=fun hg=>far (aU (a8 hg) (aR h1)) (WZ x y t)
theorem Nl(x y t:RE):((x-(y)))+((y+t-(x+t)))=0:=by
 induction x using aqq
 induction y using aqq
 induction t using aqq
 exact snd fun n=>by
  simp only[RL.add,RL.neg,RL.const]
  grind
theorem aga(x y t:RE)(h1:x+t≤y+t):x≤y:=fun hg=>far (aU (a8 hg) (aR h1)) (Nl x y t)
theorem FQ(x y c:RE):((x-(y)))+((y+c-(x+c)))=0:=by
 induction x using aqq
 induction y using aqq
 induction c using aqq
 exact snd fun n=>by
  simp only[RL.add,RL.neg,RL.const]
  grind
theorem MX(x y c:RE)(h1:x+c=y+c):x≤y:=fun hg=>far (aU (a8 hg) (aR (jx h1))) (FQ x y c)
theorem FH(x y c:RE):((y-(x)))+((x+c-(y+c)))=0:=by
 induction x using aqq
 induction y using aqq
 induction c using aqq
 exact snd fun n=>by
  simp only[RL.add,RL.neg,RL.const]
  grind
theorem MN(x y c:RE)(h1:x+c=y+c):y≤x:=fun hg=>far (aU (a8 hg) (aR (lM h1))) (FH x y c)
theorem Hu(x y c:RE)(h1:x+c=y+c):x=y:=le_antisymm (MX x y c h1) (MN x y c h1)
def vq(q:Qd):RE:=vQ q.1 q.2.1 q.2.2.1 q.2.2.2.1 q.2.2.2.2.1 q.2.2.2.2.2
theorem DK{q:Qd}(h:0≤q.2.2.2.2.1)(h':0≤q.2.2.2.2.2):sgQ q=sg (vq q):=sgnQ_re h h'
theorem GN(q:Qd)(x y:Rat×Rat)(s:Rat):vq (prQ q x y s)=vq q+of s*(v2 x.1 x.2 q.2.2.2.2.1*v2 y.1 y.2 q.2.2.2.2.2):=by
 unfold vq vQ prQ v2
 simp only[of_add,cE]
 exact Xs _ _ _ _ _ _ _ _ _ _ _
theorem of0:of 0=0:=rfl
theorem aaS(p q:Pt):vq (noQ p q)=0:=by
 unfold vq vQ noQ
 dsimp only
 rw[of0,zero_mul,zero_mul,zero_mul,add_zero,add_zero,add_zero]
def sbE(v:Rat×Rat)(p:PE):PE:=(p.1-of v.1,p.2-of v.2)
theorem yv(p:Pt)(v:Rat×Rat):v2 (rcX p v).1 (rcX p v).2 p.2.2.2.2=(sbE v (pR p)).1:=by
 unfold rcX sbE pR pX v2
 dsimp only
 rw[of_sub,zR]
theorem zM(p:Pt)(v:Rat×Rat):v2 (rcY p v).1 (rcY p v).2 p.2.2.2.2=(sbE v (pR p)).2:=by
 unfold rcY sbE pR pY v2
 dsimp only
 rw[of_sub,zR]
def turS(v:Rat×Rat)(p q:PE):Int:=sg (crs (sbE v p) (sbE v q))
theorem crQ_re(v:Rat×Rat){p q:Pt}[hp:Rpd p][hq:Rpd q]:sgQ (crQ v p q)=turS v (pR p) (pR q):=by
 rw[DK (q:=crQ v p q) (show 0≤p.2.2.2.2 from hp.nn) (show 0≤q.2.2.2.2 from hq.nn)]
 unfold crQ
 rw[GN,GN,aaS]
 show sg (0+of 1*(v2 (rcX p v).1 (rcX p v).2 p.2.2.2.2*v2 (rcY q v).1 (rcY q v).2 q.2.2.2.2)+of (-1)*(v2 (rcY p v).1 (rcY p v).2 p.2.2.2.2*v2 (rcX q v).1 (rcX q v).2 q.2.2.2.2))=_
 rw[yv,yv,zM,zM]
 exact congrArg sg (apR _ _)
def apaS(p q:PE)(r:Rat):Int:=sg (dsE p q-of (r*r))
theorem apQ_re{p q:Pt}[hp:Rpd p][hq:Rpd q](r:Rat):sgQ (apQ p q r)=apaS (pR p) (pR q) r:=by
 rw[DK (q:=apQ p q r) (show 0≤p.2.2.2.2 from hp.nn) (show 0≤q.2.2.2.2 from hq.nn)]
 have e1:vq (doQ z2 p q)=0+ -2*((pX p-0)*(pX q-0))+ -2*((pY p-0)*(pY q-0)):=by
  unfold doQ
  rw[GN,GN,aaS]
  show 0+of (-2)*(v2 (rcX p z2).1 (rcX p z2).2 p.2.2.2.2*v2 (rcX q z2).1 (rcX q z2).2 q.2.2.2.2)+of (-2)*(v2 (rcY p z2).1 (rcY p z2).2 p.2.2.2.2*v2 (rcY q z2).1 (rcY q z2).2 q.2.2.2.2)=_
  rw[yv,yv,zM,zM]
  rfl
 have e2:∀{p:Pt},Rpd p→v2 (sqA p z2) (sqB p z2) p.2.2.2.2=(pX p-0)*(pX p-0)+(pY p-0)*(pY p-0):=fun{p} h=>by
  have:=DZ (p:=p) (v:=z2)
  unfold sqP at this
  rw[vR_co]at this
  exact this
 have e3:vq (apQ p q r)=vq (doQ z2 p q)+v2 (sqA p z2) (sqB p z2) p.2.2.2.2+v2 (sqA q z2) (sqB q z2) q.2.2.2.2-of (r*r):=by
  unfold vq vQ apQ v2
  dsimp only
  rw[of_sub,of_add,of_add,of_add,of_add]
  exact ZW _ _ _ _ _ _ _ _ _ _ _
 rw[e3,e1,e2 hp,e2 hq,aoy]
 rfl
def Q9(c:Cv)(p:PE)(r:Rat):Int:=min (apaS (pR (frC c)) p r) (apaS (pR (toC c)) p r)
def rngS(d:RE)(q r:Rat):Int:=bif decide (0≤sg (d-v2 (q+r*r) (r+r) q))then sg (d-v2 (q+r*r) (r+r) q)else bif decide (aS q (r*r)≤0)then-1 else-(sg (d-v2 (q+r*r) (-(r+r)) q))
def witE(c:Cv)(p:PE):Bool:=alC (frm (ciC c) (pR (ccF c))) (frm (ciC c) (pR (ccT c))) (frm (ciC c) p)
open Classical in
def besE(c:Cv)(p:PE):Bool:=decide (btE (tE (lnC c) (pR (frC c))) (tE (lnC c) (pR (toC c))) (tE (lnC c) p))
open Classical in
def poiE(c:Cv)(p:PE)(r:Rat):Int:=
 bif decide (r<0)then 1 else
 bif c.1 then(bif decide (p=vE (ctr (ciC c)))then aS (ciC c).2.2 (r*r)else bif witE c p then rngS (dsE p (vE (ctr (ciC c)))) (ciC c).2.2 r else Q9 c p r)
 else bif besE c p then sg (exE (lnC c) p*exE (lnC c) p-of (r*r*((lnC c).1*(lnC c).1+(lnC c).2.1*(lnC c).2.1)))else Q9 c p r
def mvE(v:Rat×Rat)(p:PE):PE:=(p.1+of v.1,p.2+of v.2)
theorem pR_tr(p:Pt)(v:Rat×Rat):pR (trP p v)=mvE v (pR p):=by
 unfold pR mvE pX pY trP v2
 dsimp only
 rw[of_add,of_add]
 exact ath (Mj _ _ _) (Mj _ _ _)
def mvLn(l:Ln)(v:Rat×Rat):Ln:=(l.1,l.2.1,l.2.2+(l.1*v.1+l.2.1*v.2))
def mvCi(c:Ln)(v:Rat×Rat):Ln:=(c.1+v.1,c.2.1+v.2,c.2.2)
def mvCv(c:Cv)(v:Rat×Rat):Cv:=(c.1,bif c.1 then c.2.1 else mvLn c.2.1 v,bif c.1 then mvCi c.2.2.1 v else c.2.2.1,c.2.2.2.1,trP c.2.2.2.2.1 v,trP c.2.2.2.2.2 v)
theorem DX(p q:PE)(v:Rat×Rat):dsE (mvE v p) (mvE v q)=dsE p q:=amF _ _ _ _ _ _
theorem DD(c:Ln)(p:PE)(v:Rat×Rat):frm (mvCi c v) (mvE v p)=frm c p:=by
 unfold frm mvE mvCi
 dsimp only
 rw[of_add,of_add,acO,acO]
theorem Pe(l:Ln)(p:PE)(v:Rat×Rat):tE (mvLn l v) (mvE v p)=tE l p+(-of l.2.1*of v.1+of l.1*of v.2):=apn _ _ _ _ _ _
theorem afN(l:Ln)(p:PE)(v:Rat×Rat):exE (mvLn l v) (mvE v p)=exE l p:=by
 unfold exE mvLn mvE
 dsimp only
 rw[of_add,of_add,cE,cE]
 exact akh _ _ _ _ _ _ _
theorem ahT(c:Ln)(v:Rat×Rat):vE (ctr (mvCi c v))=mvE v (vE (ctr c)):=by
 unfold vE ctr mvCi mvE
 dsimp only
 rw[of_add,of_add]
theorem WW{v:Rat×Rat}{p q:PE}:mvE v p=mvE v q↔p=q:=by
 refine⟨fun e=>ath (Hu _ _ _ (congrArg Prod.fst e)) (Hu _ _ _ (congrArg Prod.snd e)),fun e=>by rw[e]⟩
open Classical in
theorem poi_mv(c:Cv)(p:PE)(v:Rat×Rat)(r:Rat):poiE (mvCv c v) (mvE v p) r=poiE c p r:=by
 have hF:pR (frC (mvCv c v))=mvE v (pR (frC c)):=pR_tr _ _
 have hT:pR (toC (mvCv c v))=mvE v (pR (toC c)):=pR_tr _ _
 have he:Q9 (mvCv c v) (mvE v p) r=Q9 c p r:=by
  unfold Q9 apaS
  rw[hF,hT,DX,DX]
 unfold poiE
 rw[he]
 cases ha:c.1
 ·have h1:(mvCv c v).1=false:=ha
  have hl:lnC (mvCv c v)=mvLn (lnC c) v:=by
   show(bif c.1 then c.2.1 else mvLn c.2.1 v)=_
   rw[ha];rfl
  have hb:besE (mvCv c v) (mvE v p)=besE c p:=by
   unfold besE btE
   rw[hF,hT,hl,Pe,Pe,Pe]
   refine aq6.2 ?_
   have k:∀x y t:RE,x+t≤y+t↔x≤y:=fun x y t=>⟨aga _ _ _,akd _ _ _⟩
   rw[k,k,k,k]
  rw[h1,hb,hl,afN]
  rfl
 ·have h1:(mvCv c v).1=true:=ha
  have hc:ciC (mvCv c v)=mvCi (ciC c) v:=by
   show(bif c.1 then mvCi c.2.2.1 v else c.2.2.1)=_
   rw[ha];rfl
  have hw:witE (mvCv c v) (mvE v p)=witE c p:=by
   have e1:pR (ccF (mvCv c v))=mvE v (pR (ccF c)):=by
    unfold ccF
    show pR (bif cwC c then _ else _)=_
    cases cwC c
    ·exact hF
    ·exact hT
   have e2:pR (ccT (mvCv c v))=mvE v (pR (ccT c)):=by
    unfold ccT
    show pR (bif cwC c then _ else _)=_
    cases cwC c
    ·exact hT
    ·exact hF
   unfold witE
   rw[hc,e1,e2,DD,DD,DD]
  rw[h1,hw,hc,ahT,DX]
  rw[show decide (mvE v p=mvE v (vE (ctr (ciC c))))=decide (p=vE (ctr (ciC c))) from aq6.2 WW]
  rfl
end RE
end
section
instance ap9 {a b c d e f:Rat} {i1 i2 i3 i4 i5 i6:Nat} [h1:Bd a i1] [h2:Bd b i2] [h3:Bd c i3] [h4:Bd d i4] [h5:Bd e i5] [h6:Bd f i6]:Bd ((a,b,c,d,e,f):Qd) (mx i1 (mx i2 (mx i3 (mx i4 (mx i5 i6))))):=inferInstance
instance apk {p:Pt} {v:Rat×Rat} {j k:Nat} [h:Bd p j] [h':Bd v k]:Bd (rcX p v) (j+k+1):=by
 have a:Bd (p.1-v.1) _:=inferInstance
 have b:Bd p.2.1 j:=inferInstance
 have i:Bd ((p.1-v.1,p.2.1):Rat×Rat) _:=inferInstance
 exact i.mono (cH (by omega) (by omega))
instance apf {p:Pt} {v:Rat×Rat} {j k:Nat} [h:Bd p j] [h':Bd v k]:Bd (rcY p v) (j+k+1):=by
 have a:Bd (p.2.2.1-v.2) _:=inferInstance
 have b:Bd p.2.2.2.1 j:=inferInstance
 have i:Bd ((p.2.2.1-v.2,p.2.2.2.1):Rat×Rat) _:=inferInstance
 exact i.mono (cH (by omega) (by omega))
instance apG {p q:Pt} {j k:Nat} [h:Bd p j] [h':Bd q k]:Bd (noQ p q) (j+k):=by
 have hj:1≤j:=kK (show bdR j p.1 from(inferInstance:Bd p.1 j).le)
 have z:Bd (0:Rat) (j+k):=⟨bP kI.le (by omega)⟩
 have a:Bd p.2.2.2.2 (j+k):=(inferInstance:Bd p.2.2.2.2 j).mono (by omega)
 have b:Bd q.2.2.2.2 (j+k):=(inferInstance:Bd q.2.2.2.2 k).mono (by omega)
 have i:Bd ((0,0,0,0,p.2.2.2.2,q.2.2.2.2):Qd) _:=inferInstance
 have e:∀n,mx n n=n:=fun n=>by unfold mx;rw[aqs (aqE n)];rfl
 simp only[e]at i
 exact i
instance ao1 {q:Qd} {x y:Rat×Rat} {s:Rat} {i j k l:Nat} [h:Bd q i] [h1:Bd x j] [h2:Bd y k] [h3:Bd s l]:Bd (prQ q x y s) (i+l+j+k+1):=by
 have a1:Bd (q.1+s*(x.1*y.1)) (i+(l+(j+k))+1):=inferInstance
 have a2:Bd (q.2.1+s*(x.2*y.1)) (i+(l+(j+k))+1):=inferInstance
 have a3:Bd (q.2.2.1+s*(x.1*y.2)) (i+(l+(j+k))+1):=inferInstance
 have a4:Bd (q.2.2.2.1+s*(x.2*y.2)) (i+(l+(j+k))+1):=inferInstance
 have a5:Bd q.2.2.2.2.1 (i+(l+(j+k))+1):=(inferInstance:Bd q.2.2.2.2.1 i).mono (by omega)
 have a6:Bd q.2.2.2.2.2 (i+(l+(j+k))+1):=(inferInstance:Bd q.2.2.2.2.2 i).mono (by omega)
 have i6:Bd ((q.1+s*(x.1*y.1),q.2.1+s*(x.2*y.1),q.2.2.1+s*(x.1*y.2),q.2.2.2.1+s*(x.2*y.2),q.2.2.2.2.1,q.2.2.2.2.2):Qd) _:=inferInstance
 have e:∀n,mx n n=n:=fun n=>by unfold mx;rw[aqs (aqE n)];rfl
 simp only[e]at i6
 exact i6.mono (by omega)
theorem SF{q:Qd}{k:Nat}[h:Bd q k](hk:k≤6000)(h5:0≤q.2.2.2.2.1)(h6:0≤q.2.2.2.2.2):decide (okQ (enc q))=true:=by
 have n5:Nn q.2.2.2.2.1:=⟨h5⟩
 have n6:Nn q.2.2.2.2.2:=⟨h6⟩
 show decide (okQ (enc ((q.1,q.2.1,q.2.2.1,q.2.2.2.1,q.2.2.2.2.1,q.2.2.2.2.2):Qd)))=true
 exact HJ (a:=k) (b:=k) (c:=k) (d:=k) (m:=k) (n:=k) (by omega) (by omega) (by omega) (by omega) (by omega) (by omega)
instance ap4:Bd z2 1:=(inferInstance:Bd ((0,0):Rat×Rat) _)
theorem apU(p:Pt)(v:Rat×Rat):(sqP p v).1=sqA p v:=by
 show(coR (sqA p v) (sqB p v) p.2.2.2.2).1=_
 unfold coR
 cases decide (sqB p v=0)<;>rfl
theorem ae7(p:Pt)(v:Rat×Rat):(sqP p v).2.1=sqB p v:=by
 show(coR (sqA p v) (sqB p v) p.2.2.2.2).2.1=_
 unfold coR
 by_cases e:sqB p v=0
 ·rw[aqs e,e];rfl
 ·rw[aqu e];rfl
theorem abY(p:Pt)(v:Rat×Rat):(sqP p v).2.1=0∨(sqP p v).2.2=p.2.2.2.2:=by
 show(coR (sqA p v) (sqB p v) p.2.2.2.2).2.1=0∨(coR (sqA p v) (sqB p v) p.2.2.2.2).2.2=_
 unfold coR
 cases decide (sqB p v=0)
 ·exact .inr rfl
 ·exact .inl rfl
theorem agO{p q:Pt}{r:Rat}[bp:Bd p 580][bq:Bd q 160][br:Bd r 1000](hp:0≤p.2.2.2.2)(hq:0≤q.2.2.2.2):decide (okQ (enc (apQ p q r)))=true:=by
 have n1:Nn p.2.2.2.2:=⟨hp⟩
 have n2:Nn q.2.2.2.2:=⟨hq⟩
 have b2:Bd (-2:Rat) 3:=cP (n:= -2) (by decide)
 have bD:Bd (doQ z2 p q) 2296:=(inferInstance:Bd (prQ (prQ (noQ p q) (rcX p z2) (rcX q z2) (-2)) (rcY p z2) (rcY q z2) (-2)) _).mono (by decide)
 have bA:Bd ((doQ z2 p q).1+(sqA p z2+sqA q z2)-r*r) _:=inferInstance
 have bB:Bd ((doQ z2 p q).2.1+sqB p z2) _:=inferInstance
 have bC:Bd ((doQ z2 p q).2.2.1+sqB q z2) _:=inferInstance
 have bE:Bd (doQ z2 p q).2.2.2.1 2296:=inferInstance
 exact HJ (h1:=bA) (h2:=bB) (h3:=bC) (h4:=bE) (by decide) (by decide) (by decide) (by decide) (by decide) (by decide)
namespace RE
theorem aoq(a b c d:RE):a*d-b*c= -(c*b-d*a):=by
 induction a using aqq
 induction b using aqq
 induction c using aqq
 induction d using aqq
 exact snd fun n=>by
  simp only[RL.add,RL.mul,RL.neg]
  grind
theorem Pk(u w:PE):crs u w= -crs w u:=aoq _ _ _ _
theorem turS_anti(v:Rat×Rat)(p q:PE):turS v p q= -turS v q p:=by
 unfold turS
 rw[Pk,SJ]
theorem wit_eq(c:Cv)(p:PE):witE c p=Kq (turS (ctr (ciC c)) (pR (ccF c)) (pR (ccT c))) (turS (ctr (ciC c)) (pR (ccF c)) p) (turS (ctr (ciC c)) p (pR (ccT c))):=rfl
theorem wit_go(a b c:Int):(match decide (a≥0)with|true=>(match decide (b≥0)with|true=>some [RV.d .bool (decide (c≥0))]|false=>some [RV.d .bool false])|false=>(match decide (-c≤0)with|true=>some [RV.d .bool true]|false=>some [RV.d .bool (decide (-b≤0))]))=some [RV.d .bool (Kq a b c)]:=by
 have h1:decide (-c≤0)=decide (0≤c):=aq6.2 (by omega)
 have h2:decide (-b≤0)=decide (0≤b):=aq6.2 (by omega)
 have h3:decide (c<0)=!decide (0≤c):=by rw[←decide_not];exact aq6.2 (by omega)
 have h4:decide (b<0)=!decide (0≤b):=by rw[←decide_not];exact aq6.2 (by omega)
 unfold Kq
 simp only[h1,h2,h3,h4,ge_iff_le]
 cases decide (0≤a)<;>cases decide (0≤b)<;>cases decide (0≤c)<;>rfl
open Classical in
theorem bes_E{c:Cv}[hf:Rpd (frC c)][ht:Rpd (toC c)]{p:Pt}[hp:Rpd p]:besE c (pR p)=qa c p:=by
 unfold besE
 rw[Bool.eq_iff_iff,decide_eq_true_iff]
 exact Mx.symm
theorem min_if(a b:Int):(if b<a then b else a)=min a b:=by
 split<;>omega
theorem wr_sg(x:RE):i64.wrap (0-sg x)= -sg x:=by
 rcases c9 x with⟨_,e⟩|⟨_,e⟩|⟨_,e⟩<;>rw[e]<;>rfl
theorem agd(a b m t:RE):a*a+m*(b*b)+2*(a*b)*t=(a+b*t)*(a+b*t)+(m-t*t)*(b*b):=by
 induction a using aqq
 induction b using aqq
 induction m using aqq
 induction t using aqq
 exact snd fun n=>by
  simp only[RL.add,RL.mul,RL.neg,RL.const]
  grind
theorem ahN(A B C x y z w t:RE):A*x+B*y-C+(A*z+B*w)*t=A*(x+z*t)+B*(y+w*t)-C:=by
 induction A using aqq
 induction B using aqq
 induction C using aqq
 induction x using aqq
 induction y using aqq
 induction z using aqq
 induction w using aqq
 induction t using aqq
 exact snd fun n=>by
  simp only[RL.add,RL.mul,RL.neg]
  grind
theorem vR_lin(l:Ln){p:Pt}[hp:Rpd p]:vR (mkR (np l p*np l p+p.2.2.2.2*(m7 l p*m7 l p)) (2*(np l p*m7 l p)) p.2.2.2.2)=exE l (pR p)*exE l (pR p):=by
 have e:exE l (pR p)=of (np l p)+of (m7 l p)*rq p.2.2.2.2:=by
  unfold exE pR pX pY v2 np m7
  dsimp only
  rw[of_sub,of_add,of_add,cE,cE,cE,cE,ahN]
 have two:of 2=2:=rfl
 rw[vR_mk,e]
 unfold v2
 rw[of_add,cE,cE,cE,cE,cE,two,agd,rM hp.nn,sub_self,zero_mul,add_zero]
theorem sq_zr{p:Pt}[hp:Rpd p]{v:Rat×Rat}:(sgR (sqP p v)==0)=true↔pR p=vE v:=by
 have hr:Rdd (sqP p v):=inferInstance
 rw[Et hr.nn,asi,Ei,vR_sq]
 constructor
 ·intro e
  obtain⟨a,b⟩:=Hq e
  exact ath (mW _ _ a) (mW _ _ b)
 ·intro e
  rw[e]
  unfold dsE
  rw[sub_self,sub_self,mul_zero,add_zero]
end RE
def Un:aM:=spN false true [tO] (fun x=>decide (ok Rt 15000 x.1)) (fun x=>[RV.d tR (hid (ag (noR (dec x.1))))])
theorem LH:SpK 200 Un:=spX fun x h=>by simp only[aj];exact YA x.1 (aqr h)
def UT:Env:=[(83,fW),(200,Un)]
theorem IU:EnvAll Tryz.prog UT:=⟨eg,LH,trivial⟩
def an8:Ctx:=CX UT []
def abS(r:BO3)(_k:KT):Option (List RV):=match decide (okR r.1)with|true=>(match decide (okR r.2.1)with|true=>(match(aS (ab r.2.1) 0)==0 with|true=>some [RV.d atB (aS (ab r.1) 0)]|false=>(match(aS (ab r.1) 0)==(aS (ab r.2.1) 0)with|true=>some [RV.d atB (aS (ab r.1) 0)]|false=>(match(aS (ab r.1) 0)==0 with|true=>some [RV.d atB (aS (ab r.2.1) 0)]|false=>(match decide (ok Rt 15000 r)with|true=>(match decide (okR (hid (ag (noR (dec r)))))with|true=>some [RV.d atB (i64.wrap ((aS (ab r.1) 0)*(aS (ab (hid (ag (noR (dec r))))) 0)))]|false=>none)|false=>none))))|false=>none)|false=>none
theorem amT(r:BO3):RS an8 113 [.d tO r] (abS r):=rsX
theorem VI(r:BO3)(h:okT 15000 r):Con Tryz.prog 113 [.d tO r] [.d atB (sgR (dec r))]:=by
 refine aN IU (amT _ ⟨0,?_⟩)
 have hr:=h
 obtain⟨r,rfl,br,rr⟩:=ew hr
 unfold abS
 simp only[aj,ak,aD,aE,aA,av,okd,aT,Nat.reduceAdd,Nat.reduceMul,Nat.reduceLeDiff,Fw (iV _ _) (iV _ _)]
 rw[aak rr]
 cases aS r.2.1 0==0
 ·cases aS r.1 0==aS r.2.1 0
  ·cases aS r.1 0==0<;>rfl
  ·rfl
 ·rfl
def RM:aM:=spN true true [tO] (fun x=>decide (okT 15000 x.1)) (fun x=>[RV.d atB (sgR (dec x.1))])
theorem PR:SpK 113 RM:=spX fun x h=>VI x.1 (aqr h)
def vJ:Env:=[(83,fW),(202,lS),(76,gT),(148,gU),(99,kx),(149,jr),(147,iC),(223,DG),(87,zQ),(71,nH),(66,D4),(146,qv),(84,AR),(75,yr),(112,vZ),(77,zG),(74,Ep),(73,FO),(67,D1),(199,Ex),(113,RM)]
theorem mX:EnvAll Tryz.prog vJ:=⟨eg,iO,eI,eH,gE,fN,fi,Cq,vh,jU,Cs,lJ,vw,vo,pD,vc,BH,C3,AY,BD,PR,trivial⟩
def ai8:Ctx:=CX vJ []
def abh(p:BP)(v:BV)(_k:KT):Option (List RV):=cg (match decide (okR p.1∧okR v.1)with|true=>cg (match decide (okR p.2.2.1∧okR v.2)with|true=>dup (.b .l .l) (some [RV.d tV (hid (ag (ab p.1-ab v.1)),p.2.1),RV.d tV (hid (ag (ab p.2.2.1-ab v.2)),p.2.2.2.1)])|false=>none) (match decide (okR p.2.2.1∧okR v.2)with|true=>some [RV.d tV (hid (ag (ab p.1-ab v.1)),p.2.1),RV.d tV (hid (ag (ab p.2.2.1-ab v.2)),p.2.2.2.1)]|false=>none)|false=>none) (match decide (okR p.1∧okR v.1)with|true=>(match decide (okR p.2.2.1∧okR v.2)with|true=>some [RV.d tV (hid (ag (ab p.1-ab v.1)),p.2.1),RV.d tV (hid (ag (ab p.2.2.1-ab v.2)),p.2.2.2.1)]|false=>none)|false=>none)
theorem aiw(p:BP)(v:BV):RS ai8 195 [.d tP p,.d tV v] (abh p v):=rsX
theorem Xp(p:BP)(v:BV)(h:okP 580 p∧ok (Rat×Rat) 400 v):Con Tryz.prog 195 [.d tP p,.d tV v] [.d tV (enc (rcX (dec p) (dec v))),.d tV (enc (rcY (dec p) (dec v)))]:=by
 refine aN mX (aiw _ _ ⟨0,?_⟩)
 obtain⟨hp,hv⟩:=h
 obtain⟨p,rfl,bp,rp⟩:=bG hp
 obtain⟨v,rfl,bv⟩:=aQ hv
 unfold abh
 simp only[ao,aK,aj,ak,aD,aE,aA,av,aT,aqv,aqw,Nat.reduceLeDiff]
 try rfl
def am0:Ctx:=CX vJ []
def aao(q:BQ)(x y:BV)(s:Int)(_k:KT):Option (List RV):=match decide (aX s)with|true=>(match decide (okR x.1∧okR y.1)with|true=>(match decide (okR (hid (ag (s:Rat)))∧okR (hid (ag (ab x.1*ab y.1))))with|true=>(match decide (okR q.1∧okR (hid (ag (ab (hid (ag (s:Rat)))*ab (hid (ag (ab x.1*ab y.1)))))))with|true=>(match decide (okR x.2∧okR y.1)with|true=>(match decide (okR (hid (ag (s:Rat)))∧okR (hid (ag (ab x.2*ab y.1))))with|true=>(match decide (okR q.2.1∧okR (hid (ag (ab (hid (ag (s:Rat)))*ab (hid (ag (ab x.2*ab y.1)))))))with|true=>(match decide (okR x.1∧okR y.2)with|true=>(match decide (okR (hid (ag (s:Rat)))∧okR (hid (ag (ab x.1*ab y.2))))with|true=>(match decide (okR q.2.2.1∧okR (hid (ag (ab (hid (ag (s:Rat)))*ab (hid (ag (ab x.1*ab y.2)))))))with|true=>(match decide (okR x.2∧okR y.2)with|true=>(match decide (okR (hid (ag (s:Rat)))∧okR (hid (ag (ab x.2*ab y.2))))with|true=>(match decide (okR q.2.2.2.1∧okR (hid (ag (ab (hid (ag (s:Rat)))*ab (hid (ag (ab x.2*ab y.2)))))))with|true=>some [RV.d tQ (hid (ag (ab q.1+ab (hid (ag (ab (hid (ag (s:Rat)))*ab (hid (ag (ab x.1*ab y.1)))))))),(hid (ag (ab q.2.1+ab (hid (ag (ab (hid (ag (s:Rat)))*ab (hid (ag (ab x.2*ab y.1)))))))),(hid (ag (ab q.2.2.1+ab (hid (ag (ab (hid (ag (s:Rat)))*ab (hid (ag (ab x.1*ab y.2)))))))),(hid (ag (ab q.2.2.2.1+ab (hid (ag (ab (hid (ag (s:Rat)))*ab (hid (ag (ab x.2*ab y.2)))))))),q.2.2.2.2))))]|false=>none)|false=>none)|false=>none)|false=>none)|false=>none)|false=>none)|false=>none)|false=>none)|false=>none)|false=>none)|false=>none)|false=>none)|false=>none
theorem ajC(q:BQ)(x y:BV)(s:Int):RS am0 196 [.d tQ q,.d tV x,.d tV y,SI s] (aao q x y s):=rsX
theorem Yx(q:BQ)(x y:BV)(s:Int)(h:ok Qd 12000 q∧ok (Rat×Rat) 2500 x∧ok (Rat×Rat) 2500 y∧aX s):Con Tryz.prog 196 [.d tQ q,.d tV x,.d tV y,.d atB s] [.d tQ (enc (prQ (dec q) (dec x) (dec y) (s:Rat)))]:=by
 refine aN mX (ajC _ _ _ _ ⟨0,?_⟩)
 obtain⟨hq,hx,hy,hs⟩:=h
 obtain⟨q,rfl,bq⟩:=aQ hq
 obtain⟨x,rfl,bx⟩:=aQ hx
 obtain⟨y,rfl,b_y⟩:=aQ hy
 have bs:=cP hs
 unfold aao
 simp only[aj,ak,aD,aE,aA,av,aT,aqv,aqw,Nat.reduceAdd,Nat.reduceLeDiff,dT hs]
 try rfl
def amY:Ctx:=CX vJ []
def ado(p q:BP)(_k:KT):Option (List RV):=match decide (aX (0:Int))with|true=>some [RV.d tQ (hid (ag ((0:Int):Rat)),(hid (ag ((0:Int):Rat)),(hid (ag ((0:Int):Rat)),(hid (ag ((0:Int):Rat)),(p.2.2.2.2,q.2.2.2.2)))))]|false=>none
theorem am9(p q:BP):RS amY 197 [.d tP p,.d tP q] (ado p q):=rsX
theorem Yi(p q:BP)(h:okP 580 p∧okP 580 q):Con Tryz.prog 197 [.d tP p,.d tP q] [.d tQ (enc (noQ (dec p) (dec q)))]:=by
 refine aN mX (am9 _ _ ⟨0,?_⟩)
 obtain⟨hp,hq⟩:=h
 obtain⟨p,rfl,bp,rp⟩:=bG hp
 obtain⟨q,rfl,bq,rq⟩:=bG hq
 unfold ado
 simp only[aj,ak,aE,aA,dT (show aX 0 by decide)]
 try rfl
def ML:aM:=spN false true [tP,tV] (fun x=>decide (okP 580 x.1∧ok (Rat×Rat) 400 x.2.1)) (fun x=>[RV.d tV (hid (enc (rcX (dec x.1) (dec x.2.1)))),RV.d tV (hid (enc (rcY (dec x.1) (dec x.2.1))))])
theorem QM:SpK 195 ML:=spX fun x h=>by simp only[aj];exact Xp x.1 x.2.1 (aqr h)
def ND:aM:=spN false true [tQ,tV,tV,atB] (fun x=>decide (ok Qd 12000 x.1∧ok (Rat×Rat) 2500 x.2.1∧ok (Rat×Rat) 2500 x.2.2.1∧aX x.2.2.2.1)) (fun x=>[RV.d tQ (hid (enc (prQ (dec x.1) (dec x.2.1) (dec x.2.2.1) (x.2.2.2.1:Rat))))])
theorem Nk:SpK 196 ND:=spX fun x h=>by simp only[aj];exact Yx x.1 x.2.1 x.2.2.1 x.2.2.2.1 (aqr h)
def NS:aM:=spN false true [tP,tP] (fun x=>decide (okP 580 x.1∧okP 580 x.2.1)) (fun x=>[RV.d tQ (hid (enc (noQ (dec x.1) (dec x.2.1))))])
theorem Uc:SpK 197 NS:=spX fun x h=>by simp only[aj];exact Yi x.1 x.2.1 (aqr h)
def uZ:Env:=(195,ML)::(196,ND)::(197,NS)::vJ
theorem mN:EnvAll Tryz.prog uZ:=⟨QM,Nk,Uc,mX⟩
def anF:Ctx:=CX uZ []
def acp(v:BV)(p q:BP)(_k:KT):Option (List RV):=match decide (okP 580 p∧ok (Rat×Rat) 400 v)with|true=>(match decide (okP 580 q∧ok (Rat×Rat) 400 v)with|true=>(match decide (okP 580 p∧okP 580 q)with|true=>(match decide (ok Qd 12000 (hid (enc (noQ (dec p) (dec q))))∧ok (Rat×Rat) 2500 (hid (enc (rcX (dec p) (dec v))))∧ok (Rat×Rat) 2500 (hid (enc (rcY (dec q) (dec v))))∧aX (1:Int))with|true=>(match decide (ok Qd 12000 (hid (enc (prQ (dec (hid (enc (noQ (dec p) (dec q))))) (dec (hid (enc (rcX (dec p) (dec v))))) (dec (hid (enc (rcY (dec q) (dec v))))) ((1:Int):Rat))))∧ok (Rat×Rat) 2500 (hid (enc (rcY (dec p) (dec v))))∧ok (Rat×Rat) 2500 (hid (enc (rcX (dec q) (dec v))))∧aX ((-1):Int))with|true=>(match decide (okQ (hid (enc (prQ (dec (hid (enc (prQ (dec (hid (enc (noQ (dec p) (dec q))))) (dec (hid (enc (rcX (dec p) (dec v))))) (dec (hid (enc (rcY (dec q) (dec v))))) ((1:Int):Rat))))) (dec (hid (enc (rcY (dec p) (dec v))))) (dec (hid (enc (rcX (dec q) (dec v))))) (((-1):Int):Rat)))))with|true=>some [RV.d atB (sgQ (dec (hid (enc (prQ (dec (hid (enc (prQ (dec (hid (enc (noQ (dec p) (dec q))))) (dec (hid (enc (rcX (dec p) (dec v))))) (dec (hid (enc (rcY (dec q) (dec v))))) ((1:Int):Rat))))) (dec (hid (enc (rcY (dec p) (dec v))))) (dec (hid (enc (rcX (dec q) (dec v))))) (((-1):Int):Rat))))))]|false=>none)|false=>none)|false=>none)|false=>none)|false=>none)|false=>none
theorem anV(v:BV)(p q:BP):RS anF 201 [.d tV v,.d tP p,.d tP q] (acp v p q):=rsX
theorem V0(v:BV)(p q:BP)(h:ok (Rat×Rat) 400 v∧okP 580 p∧okP 580 q):Con Tryz.prog 201 [.d tV v,.d tP p,.d tP q] [.d atB (RE.turS (dec v) (RE.pR (dec p)) (RE.pR (dec q)))]:=by
 refine aN mN (anV _ _ _ ⟨0,?_⟩)
 obtain⟨hv,hp,hq⟩:=h
 obtain⟨v,rfl,bv⟩:=aQ hv
 obtain⟨p,rfl,bp,rp⟩:=bG hp
 obtain⟨q,rfl,bq,rq⟩:=bG hq
 have h1:decide (aX 1)=true:=by decide
 have h2:decide (aX (-1))=true:=by decide
 have c1:((1:Int):Rat)=1:=rfl
 have c2:((-1:Int):Rat)= -1:=rfl
 have b1:Bd (1:Rat) 3:=cP (n:=1) (by decide)
 have b2:Bd (-1:Rat) 3:=cP (n:= -1) (by decide)
 have n1:Bd (prQ (prQ (noQ p q) (rcX p v) (rcY q v) 1) (rcY p v) (rcX q v) (-1)) _:=inferInstance
 have o1:decide (okQ (enc (prQ (prQ (noQ p q) (rcX p v) (rcY q v) 1) (rcY p v) (rcX q v) (-1))))=true:=SF (k:=6000) (h:=n1.mono (by decide)) (by decide) rp.nn rq.nn
 unfold acp
 simp only[aj,ak,okd,aqv,aqw,Nat.reduceAdd,Nat.reduceLeDiff,bg,h1,h2,c1,c2,o1]
 rw[←RE.crQ_re]
 rfl
def aj7:Ctx:=CX uZ []
def ab8(a:BO3)(c:BR)(_k:KT):Option (List RV):=match decide (okR a.2.1)with|true=>(match(aS (ab a.2.1) 0)==0 with|true=>some [RV.d tR a.2.1]|false=>(match decide (okR a.2.2∧okR c)with|true=>(match(aS (ab a.2.2) (ab c))==0 with|true=>some [RV.d tR a.2.1]|false=>(match decide (eL a.2.2 c)with|true=>(match decide (okR (hid (ag (ab a.2.2/ab c))))with|true=>(match !(ec (ab (hid (ag (ab a.2.2/ab c)))))with|true=>some [RV.d tR a.2.1]|false=>(match decide (okR a.2.1∧okR (hid (rtB (ab (hid (ag (ab a.2.2/ab c)))))))with|true=>some [RV.d tR (hid (ag (ab a.2.1*ab (hid (rtB (ab (hid (ag (ab a.2.2/ab c)))))))))]|false=>none))|false=>none)|false=>none))|false=>none))|false=>none
theorem amZ(a:BO3)(c:BR):RS aj7 198 [.d tO a,.d tR c] (ab8 a c):=rsX
theorem V7(a:BO3)(c:BR)(h:okT 15000 a∧ok Rat 15000 c∧((dec a:Rt).2.1=0∨(dec a:Rt).2.2=ab c)):Con Tryz.prog 198 [.d tO a,.d tR c] [.d tR (ag (dec a:Rt).2.1)]:=by
 refine aN mN (amZ _ _ ⟨0,?_⟩)
 obtain⟨ha,hc,h⟩:=h
 obtain⟨a,rfl,ba,ra⟩:=ew ha
 obtain⟨c,rfl,bc⟩:=aQ hc
 rw[ak,aA,av]at h
 unfold ab8
 simp only[aj,ak,aD,aE,aA,av,aT,aqv,aqw,aqx,Nat.reduceAdd,Nat.reduceLeDiff,aH]
 by_cases e:a.2.1=0
 ·rw[dT e]
 ·rw[dF e,dT (h.resolve_left e)]
def akl:Ctx:=CX uZ []
def acG(d:BO3)(q r:BR)(_k:KT):Option (List RV):=match decide (okR r∧okR r)with|true=>(match decide (okR q∧okR (hid (ag (ab r*ab r))))with|true=>(match decide (okR r∧okR r)with|true=>(match decide (ok Rat 100000 (hid (ag (ab q+ab (hid (ag (ab r*ab r))))))∧ok Rat 100000 (hid (ag (ab r+ab r)))∧ok Rat 100000 q∧0≤ab q)with|true=>(match decide (okT 15000 d∧okT 15000 (hid (enc (mkR (ab (hid (ag (ab q+ab (hid (ag (ab r*ab r))))))) (ab (hid (ag (ab r+ab r)))) (ab q)))))with|true=>(match decide ((bL (dec d) (dec (hid (enc (mkR (ab (hid (ag (ab q+ab (hid (ag (ab r*ab r))))))) (ab (hid (ag (ab r+ab r)))) (ab q))))))≥0)with|true=>some [RV.d atB (bL (dec d) (dec (hid (enc (mkR (ab (hid (ag (ab q+ab (hid (ag (ab r*ab r))))))) (ab (hid (ag (ab r+ab r)))) (ab q))))))]|false=>(match decide (okR r∧okR r)with|true=>(match decide (okR q∧okR (hid (ag (ab r*ab r))))with|true=>(match decide ((aS (ab q) (ab (hid (ag (ab r*ab r)))))≤0)with|true=>some [RV.d atB (-1)]|false=>(match decide (okR (hid (ag (ab r+ab r))))with|true=>(match decide (ok Rat 100000 (hid (ag (ab q+ab (hid (ag (ab r*ab r))))))∧ok Rat 100000 (hid (ag (-ab (hid (ag (ab r+ab r))))))∧ok Rat 100000 q∧0≤ab q)with|true=>(match decide (okT 15000 d∧okT 15000 (hid (enc (mkR (ab (hid (ag (ab q+ab (hid (ag (ab r*ab r))))))) (ab (hid (ag (-ab (hid (ag (ab r+ab r))))))) (ab q)))))with|true=>some [RV.d atB (i64.wrap (0-(bL (dec d) (dec (hid (enc (mkR (ab (hid (ag (ab q+ab (hid (ag (ab r*ab r))))))) (ab (hid (ag (-ab (hid (ag (ab r+ab r))))))) (ab q))))))))]|false=>none)|false=>none)|false=>none))|false=>none)|false=>none))|false=>none)|false=>none)|false=>none)|false=>none)|false=>none
theorem aml(d:BO3)(q r:BR):RS akl 115 [.d tO d,.d tR q,.d tR r] (acG d q r):=rsX
theorem Wa(d:BO3)(q r:BR)(h:okT 15000 d∧ok Rat 1000 q∧ok Rat 1000 r∧0≤ab q):Con Tryz.prog 115 [.d tO d,.d tR q,.d tR r] [.d atB (RE.rngS (RE.vR (dec d)) (ab q) (ab r))]:=by
 refine aN mN (aml _ _ _ ⟨0,?_⟩)
 obtain⟨hd,hq,hr,hn⟩:=h
 obtain⟨d,rfl,bd,rd⟩:=ew hd
 obtain⟨q,rfl,bq⟩:=aQ hq
 obtain⟨r,rfl,br⟩:=aQ hr
 rw[aA,av]at hn
 have nq:Nn q:=⟨hn⟩
 have m:∀a b,bL d (mkR a b q)=RE.sg (RE.vR d-RE.v2 a b q):=fun a b=>by
  rw[RE.cmpT_re rd.nn (pP (a:=a) (b:=b) (c:=q)).nn,RE.vR_mk]
 unfold acG RE.rngS
 simp only[aj,ak,aA,av,aC,aT,aqv,aqw,Nat.reduceAdd,Nat.reduceLeDiff,bh,dT hn,m,ge_iff_le,RE.wr_sg]
 cases decide (0≤RE.sg (RE.vR d-RE.v2 (q+r*r) (r+r) q))
 ·cases decide (aS q (r*r)≤0)<;>rfl
 ·rfl
def K5:aM:=spN true true [tV,tP,tP] (fun x=>decide (ok (Rat×Rat) 400 x.1∧okP 580 x.2.1∧okP 580 x.2.2.1)) (fun x=>[RV.d atB (RE.turS (dec x.1) (RE.pR (dec x.2.1)) (RE.pR (dec x.2.2.1)))])
theorem Qf:SpK 201 K5:=spX fun x h=>V0 x.1 x.2.1 x.2.2.1 (aqr h)
def UO:aM:=spN false true [tO,tR] (fun x=>decide (okT 15000 x.1∧ok Rat 15000 x.2.1∧((dec x.1:Rt).2.1=0∨(dec x.1:Rt).2.2=ab x.2.1))) (fun x=>[RV.d tR (hid (ag (dec x.1:Rt).2.1))])
theorem Pc:SpK 198 UO:=spX fun x h=>by simp only[aj];exact V7 x.1 x.2.1 (aqr h)
def Tu:aM:=spN true true [tO,tR,tR] (fun x=>decide (okT 15000 x.1∧ok Rat 1000 x.2.1∧ok Rat 1000 x.2.2.1∧0≤ab x.2.1)) (fun x=>[RV.d atB (RE.rngS (RE.vR (dec x.1)) (ab x.2.1) (ab x.2.2.1))])
theorem Mg:SpK 115 Tu:=spX fun x h=>Wa x.1 x.2.1 x.2.2.1 (aqr h)
def zk:Env:=(201,K5)::(198,UO)::(115,Tu)::uZ
theorem rv:EnvAll Tryz.prog zk:=⟨Qf,Pc,Mg,mN⟩
def anE:Ctx:=CX zk []
def adm(p q:BP)(r:BR)(_k:KT):Option (List RV):=let y1:=ag ((0:Int):Rat);let y2:=hid (enc (noQ (dec p) (dec q)));let y3:=dec (hid y1,hid y1);let y4:=hid (enc (rcX (dec p) y3));let y5:=hid (enc (rcX (dec q) y3));let y6:=hid (enc (prQ (dec y2) (dec y4) (dec y5) (((-2):Int):Rat)));let y7:=hid (enc (rcY (dec p) y3));let y8:=hid (enc (rcY (dec q) y3));let y9:=hid (enc (sqP (dec p) y3));let y10:=hid (enc (sqP (dec q) y3));let y11:=hid (enc (prQ (dec y6) (dec y7) (dec y8) (((-2):Int):Rat)));let y12:=hid (ag (ab (y9.1)+ab (y10.1)));let y13:=hid (ag (ab (y11.1)+ab y12));let y14:=hid (ag (ab r*ab r));let y15:=hid (ag (dec y9:Rt).2.1);let y16:=hid (ag (dec y10:Rt).2.1);match decide (aX (0:Int))with|true=>(match decide (aX (0:Int))with|true=>(match decide (okP 580 p∧ok (Rat×Rat) 400 (hid y1,hid y1))with|true=>(match decide (okP 580 q∧ok (Rat×Rat) 400 (hid y1,hid y1))with|true=>(match decide (okP 580 p∧okP 580 q)with|true=>(match decide (ok Qd 12000 y2∧ok (Rat×Rat) 2500 y4∧ok (Rat×Rat) 2500 y5∧aX ((-2):Int))with|true=>(match decide (ok Qd 12000 y6∧ok (Rat×Rat) 2500 y7∧ok (Rat×Rat) 2500 y8∧aX ((-2):Int))with|true=>(match decide (okP 3500 p∧ok (Rat×Rat) 300 (hid y1,hid y1))with|true=>(match decide (okP 3500 q∧ok (Rat×Rat) 300 (hid y1,hid y1))with|true=>(match decide (okR (y9.1)∧okR (y10.1))with|true=>(match decide (okR (y11.1)∧okR y12)with|true=>(match decide (okR r∧okR r)with|true=>(match decide (okR y13∧okR y14)with|true=>(match decide (okT 15000 y9∧ok Rat 15000 p.2.2.2.2∧((dec y9:Rt).2.1=0∨(dec y9:Rt).2.2=ab p.2.2.2.2))with|true=>(match decide (okR ((y11.2).1)∧okR y15)with|true=>(match decide (okT 15000 y10∧ok Rat 15000 q.2.2.2.2∧((dec y10:Rt).2.1=0∨(dec y10:Rt).2.2=ab q.2.2.2.2))with|true=>(match decide (okR (((y11.2).2).1)∧okR y16)with|true=>(match decide (okQ (hid (ag (ab y13-ab y14)),(hid (ag (ab ((y11.2).1)+ab y15)),(hid (ag (ab (((y11.2).2).1)+ab y16)),((y11.2).2).2))))with|true=>some [RV.d atB (sgQ (dec (hid (ag (ab y13-ab y14)),(hid (ag (ab ((y11.2).1)+ab y15)),(hid (ag (ab (((y11.2).2).1)+ab y16)),((y11.2).2).2)))))]|false=>none)|false=>none)|false=>none)|false=>none)|false=>none)|false=>none)|false=>none)|false=>none)|false=>none)|false=>none)|false=>none)|false=>none)|false=>none)|false=>none)|false=>none)|false=>none)|false=>none)|false=>none
theorem anX(p q:BP)(r:BR):RS anE 111 [.d tP p,.d tP q,.d tR r] (adm p q r):=rsX
theorem Yt(p q:BP)(r:BR)(h:okP 580 p∧okP 160 q∧ok Rat 1000 r):Con Tryz.prog 111 [.d tP p,.d tP q,.d tR r] [.d atB (RE.apaS (RE.pR (dec p)) (RE.pR (dec q)) (ab r))]:=by
 refine aN rv (anX _ _ _ ⟨0,?_⟩)
 obtain⟨hp,hq,hr⟩:=h
 obtain⟨p,rfl,bp,rp⟩:=bG hp
 obtain⟨q,rfl,bq,rq⟩:=bG hq
 obtain⟨r,rfl,br⟩:=aQ hr
 have h0:decide (aX 0)=true:=by decide
 have h2:decide (aX (-2))=true:=by decide
 have c2:((-2:Int):Rat)= -2:=rfl
 have b2:Bd (-2:Rat) 3:=cP (n:= -2) (by decide)
 have hz:((ag ((0:Int):Rat),ag ((0:Int):Rat)):BV)=enc z2:=rfl
 have o1:=agO (p:=p) (q:=q) (r:=r) rp.nn rq.nn
 unfold adm
 simp only[aj,ak,aD,aE,aA,av,okd,aC,aT,aqv,aqw,Nat.reduceAdd,Nat.reduceMul,Nat.reduceLeDiff,bh,bg,h0,h2,c2,hz,dT (show sqB p z2=0∨(sqP p z2).2.2=p.2.2.2.2 by rw[←ae7];exact abY p z2),dT (show sqB q z2=0∨(sqP q z2).2.2=q.2.2.2.2 by rw[←ae7];exact abY q z2),apU,ae7]
 show(match decide (okQ (enc (apQ p q r)))with|true=>some [RV.d atB (sgQ (dec (enc (apQ p q r))))]|false=>none)=_
 rw[ak,o1,RE.apQ_re]
def ala:Ctx:=CX zk []
def abv(c:BCU)(p:BP)(_k:KT):Option (List RV):=match c.2.2.2.1 with|true=>(match decide (ok (Rat×Rat) 400 (hid ((c.2.2.1.1,c.2.2.1.2.1)))∧okP 580 c.2.2.2.2.2∧okP 580 c.2.2.2.2.1)with|true=>(match decide ((RE.turS (dec (hid ((c.2.2.1.1,c.2.2.1.2.1)))) (RE.pR (dec c.2.2.2.2.2)) (RE.pR (dec c.2.2.2.2.1)))≥0)with|true=>(match decide (ok (Rat×Rat) 400 (hid ((c.2.2.1.1,c.2.2.1.2.1)))∧okP 580 c.2.2.2.2.2∧okP 580 p)with|true=>(match decide ((RE.turS (dec (hid ((c.2.2.1.1,c.2.2.1.2.1)))) (RE.pR (dec c.2.2.2.2.2)) (RE.pR (dec p)))≥0)with|true=>(match decide (ok (Rat×Rat) 400 (hid ((c.2.2.1.1,c.2.2.1.2.1)))∧okP 580 p∧okP 580 c.2.2.2.2.1)with|true=>some [RV.d .bool (decide ((RE.turS (dec (hid ((c.2.2.1.1,c.2.2.1.2.1)))) (RE.pR (dec p)) (RE.pR (dec c.2.2.2.2.1)))≥0))]|false=>none)|false=>some [RV.d .bool false])|false=>none)|false=>(match decide (ok (Rat×Rat) 400 (hid ((c.2.2.1.1,c.2.2.1.2.1)))∧okP 580 c.2.2.2.2.1∧okP 580 p)with|true=>(match decide ((RE.turS (dec (hid ((c.2.2.1.1,c.2.2.1.2.1)))) (RE.pR (dec c.2.2.2.2.1)) (RE.pR (dec p)))≤0)with|true=>some [RV.d .bool true]|false=>(match decide (ok (Rat×Rat) 400 (hid ((c.2.2.1.1,c.2.2.1.2.1)))∧okP 580 p∧okP 580 c.2.2.2.2.2)with|true=>some [RV.d .bool (decide ((RE.turS (dec (hid ((c.2.2.1.1,c.2.2.1.2.1)))) (RE.pR (dec p)) (RE.pR (dec c.2.2.2.2.2)))≤0))]|false=>none))|false=>none))|false=>none)|false=>(match decide (ok (Rat×Rat) 400 (hid ((c.2.2.1.1,c.2.2.1.2.1)))∧okP 580 c.2.2.2.2.1∧okP 580 c.2.2.2.2.2)with|true=>(match decide ((RE.turS (dec (hid ((c.2.2.1.1,c.2.2.1.2.1)))) (RE.pR (dec c.2.2.2.2.1)) (RE.pR (dec c.2.2.2.2.2)))≥0)with|true=>(match decide (ok (Rat×Rat) 400 (hid ((c.2.2.1.1,c.2.2.1.2.1)))∧okP 580 c.2.2.2.2.1∧okP 580 p)with|true=>(match decide ((RE.turS (dec (hid ((c.2.2.1.1,c.2.2.1.2.1)))) (RE.pR (dec c.2.2.2.2.1)) (RE.pR (dec p)))≥0)with|true=>(match decide (ok (Rat×Rat) 400 (hid ((c.2.2.1.1,c.2.2.1.2.1)))∧okP 580 p∧okP 580 c.2.2.2.2.2)with|true=>some [RV.d .bool (decide ((RE.turS (dec (hid ((c.2.2.1.1,c.2.2.1.2.1)))) (RE.pR (dec p)) (RE.pR (dec c.2.2.2.2.2)))≥0))]|false=>none)|false=>some [RV.d .bool false])|false=>none)|false=>(match decide (ok (Rat×Rat) 400 (hid ((c.2.2.1.1,c.2.2.1.2.1)))∧okP 580 c.2.2.2.2.2∧okP 580 p)with|true=>(match decide ((RE.turS (dec (hid ((c.2.2.1.1,c.2.2.1.2.1)))) (RE.pR (dec c.2.2.2.2.2)) (RE.pR (dec p)))≤0)with|true=>some [RV.d .bool true]|false=>(match decide (ok (Rat×Rat) 400 (hid ((c.2.2.1.1,c.2.2.1.2.1)))∧okP 580 p∧okP 580 c.2.2.2.2.1)with|true=>some [RV.d .bool (decide ((RE.turS (dec (hid ((c.2.2.1.1,c.2.2.1.2.1)))) (RE.pR (dec p)) (RE.pR (dec c.2.2.2.2.1)))≤0))]|false=>none))|false=>none))|false=>none)
theorem anC(c:BCU)(p:BP):RS ala 114 [.d tCU c,.d tP p] (abv c p):=rsX
theorem VA(c:BCU)(p:BP)(h:nY c.2.2.1∧okP 580 c.2.2.2.2.1∧okP 580 c.2.2.2.2.2∧okP 580 p):Con Tryz.prog 114 [.d tCU c,.d tP p] [.d .bool (RE.witE (dC c) (RE.pR (dec p)))]:=by
 refine aN rv (anC _ _ ⟨0,?_⟩)
 obtain⟨⟨hc,_⟩,hf,ht,hp⟩:=h
 obtain⟨p,rfl,bp,rp⟩:=bG hp
 obtain⟨ar,li,ci,cw,fr,to⟩:=c
 simp only at hc hf ht
 obtain⟨ci,rfl,bc⟩:=aQ hc
 obtain⟨fr,rfl,bf,rf⟩:=bG hf
 obtain⟨to,rfl,bt,rt⟩:=bG ht
 have e0:((ag ci.1,ag ci.2.1):BV)=enc (ctr ci):=rfl
 unfold abv
 rw[RE.wit_eq]
 simp only[aj,ak,aD,aE,aA,okd,aqv,aqw,mx,Nat.reduceLeDiff,aqC,cond_true,bg,e0]
 cases cw
 ·simp only[ak,cond_false,dC,ciC,ccF,ccT,cwC,frC,toC]
  rw[RE.turS_anti (ctr ci) (RE.pR to) (RE.pR p),RE.turS_anti (ctr ci) (RE.pR p) (RE.pR fr)]
  exact RE.wit_go _ _ _
 ·simp only[ak,cond_true,dC,ciC,ccF,ccT,cwC,frC,toC]
  rw[RE.turS_anti (ctr ci) (RE.pR fr) (RE.pR p),RE.turS_anti (ctr ci) (RE.pR p) (RE.pR to)]
  exact RE.wit_go _ _ _
def O4:aM:=spN true true [tP,tP,tR] (fun x=>decide (okP 580 x.1∧okP 160 x.2.1∧ok Rat 1000 x.2.2.1)) (fun x=>[RV.d atB (RE.apaS (RE.pR (dec x.1)) (RE.pR (dec x.2.1)) (ab x.2.2.1))])
theorem Us:SpK 111 O4:=spX fun x h=>Yt x.1 x.2.1 x.2.2.1 (aqr h)
def Pu:aM:=spN true true [tCU,tP] (fun x=>decide (nY x.1.2.2.1∧okP 580 x.1.2.2.2.2.1∧okP 580 x.1.2.2.2.2.2∧okP 580 x.2.1)) (fun x=>[RV.d .bool (RE.witE (dC x.1) (RE.pR (dec x.2.1)))])
theorem S5:SpK 114 Pu:=spX fun x h=>VA x.1 x.2.1 (aqr h)
def Ve:Env:=(111,O4)::(114,Pu)::zk
theorem Jk:EnvAll Tryz.prog Ve:=⟨Us,S5,rv⟩
def ahK:NT:=[((41,21),{keep:=[25],hl:=0}),((41,49),{keep:=[107],hl:=0})]
def anl:Ctx:=CX Ve ahK
def aaA(c:BCU)(p:BP)(r:BR)(_k:KT):Option (List RV):=let y1:=RE.pR (dec c.2.2.2.2.2);let y2:=RE.pR (dec c.2.2.2.2.1);let y3:Option (List RV):=match decide (okP 580 c.2.2.2.2.1∧okP 160 p∧ok Rat 1000 r)with|true=>(match decide (okP 580 c.2.2.2.2.2∧okP 160 p∧ok Rat 1000 r)with|true=>some [RV.d atB (if RE.apaS y1 (RE.pR (dec p)) (ab r)<RE.apaS y2 (RE.pR (dec p)) (ab r)then RE.apaS y1 (RE.pR (dec p)) (ab r)else RE.apaS y2 (RE.pR (dec p)) (ab r))]|false=>none)|false=>none;let y4:=hid (ag (ab c.2.1.1*ab p.1));let y5:=hid (ag (ab c.2.1.2.1*ab p.2.2.1));let y6:=hid (ag (ab y4+ab y5));let y7:=hid (ag (ab c.2.1.1*ab p.2.1));let y8:=hid (ag (ab c.2.1.2.1*ab p.2.2.2.1));let y9:=hid (ag (ab y6-ab c.2.1.2.2));let y10:=hid (ag (ab y7+ab y8));let y11:=hid (ag (ab y10*ab y10));let y12:=hid (ag (ab y9*ab y9));let y13:=hid (ag (ab p.2.2.2.2*ab y11));let y14:=hid (ag ((2:Int):Rat));let y15:=hid (ag (ab y9*ab y10));let y16:=hid (ag (ab y12+ab y13));let y17:=hid (ag (ab y14*ab y15));let y18:=hid (ag (ab c.2.1.1*ab c.2.1.1));let y19:=hid (ag (ab c.2.1.2.1*ab c.2.1.2.1));let y20:=hid (ag (ab r*ab r));let y21:=hid (ag (ab y18+ab y19));let y22:=hid (enc (mkR (ab y16) (ab y17) (ab p.2.2.2.2)));let y23:=hid (ag (ab y20*ab y21));let y24:=hid ((c.2.2.1.1,c.2.2.1.2.1));let y25:=hid (enc (sqP (dec p) (dec y24)));match decide (okR r)with|true=>(match decide ((aS (ab r) 0)<0)with|true=>some [RV.d atB 1]|false=>(match !c.1 with|true=>(match decide (okC 3000 c∧okP 3000 p∧c.1=false)with|true=>(match !(qa (dC c) (dec p))with|true=>y3|false=>(match decide (okR c.2.1.1∧okR p.1)with|true=>(match decide (okR c.2.1.2.1∧okR p.2.2.1)with|true=>(match decide (okR y4∧okR y5)with|true=>(match decide (okR y6∧okR c.2.1.2.2)with|true=>(match decide (okR c.2.1.1∧okR p.2.1)with|true=>(match decide (okR c.2.1.2.1∧okR p.2.2.2.1)with|true=>(match decide (okR y7∧okR y8)with|true=>(match decide (okR y9∧okR y9)with|true=>(match decide (okR y10∧okR y10)with|true=>(match decide (okR p.2.2.2.2∧okR y11)with|true=>(match decide (okR y12∧okR y13)with|true=>(match decide (aX (2:Int))with|true=>(match decide (okR y9∧okR y10)with|true=>(match decide (okR y14∧okR y15)with|true=>(match decide (ok Rat 100000 y16∧ok Rat 100000 y17∧ok Rat 100000 p.2.2.2.2∧0≤ab p.2.2.2.2)with|true=>(match decide (okR r∧okR r)with|true=>(match decide (okR c.2.1.1∧okR c.2.1.1)with|true=>(match decide (okR c.2.1.2.1∧okR c.2.1.2.1)with|true=>(match decide (okR y18∧okR y19)with|true=>(match decide (okR y20∧okR y21)with|true=>(match decide (okT 15000 y22∧ok Rat 15000 y23)with|true=>some [RV.d atB (d9 (dec y22) (ab y23))]|false=>none)|false=>none)|false=>none)|false=>none)|false=>none)|false=>none)|false=>none)|false=>none)|false=>none)|false=>none)|false=>none)|false=>none)|false=>none)|false=>none)|false=>none)|false=>none)|false=>none)|false=>none)|false=>none)|false=>none)|false=>none))|false=>none)|false=>(match decide (okP 3500 p∧ok (Rat×Rat) 300 y24)with|true=>(match decide (okT 15000 y25)with|true=>(match(sgR (dec y25))==0 with|true=>(match decide (okR r∧okR r)with|true=>(match decide (okR c.2.2.1.2.2∧okR y20)with|true=>some [RV.d atB (aS (ab c.2.2.1.2.2) (ab y20))]|false=>none)|false=>none)|false=>(match decide (nY c.2.2.1∧okP 580 c.2.2.2.2.1∧okP 580 c.2.2.2.2.2∧okP 580 p)with|true=>(match !(RE.witE (dC c) (RE.pR (dec p)))with|true=>y3|false=>(match decide (okT 15000 y25∧ok Rat 1000 c.2.2.1.2.2∧ok Rat 1000 r∧0≤ab c.2.2.1.2.2)with|true=>some [RV.d atB (RE.rngS (RE.vR (dec y25)) (ab c.2.2.1.2.2) (ab r))]|false=>none))|false=>none))|false=>none)|false=>none)))|false=>none
theorem aiJ(c:BCU)(p:BP)(r:BR):RS anl 41 [.d tCU c,.d tP p,.d tR r] (aaA c p r):=rsX
open Classical in
theorem ZP(c:BCU)(p:BP)(r:BR)(h:okC 580 c∧okP 150 p∧ok Rat 1000 r):Con Tryz.prog 41 [.d tCU c,.d tP p,.d tR r] [.d atB (RE.poiE (dC c) (RE.pR (dec p)) (ab r))]:=by
 refine aN Jk (aiJ _ _ _ ⟨0,?_⟩)
 obtain⟨hc,hp,hr⟩:=h
 have hp1:=cI (k:=160) hp (by decide) (by decide)
 have hp6:=cI (k:=580) hp (by decide) (by decide)
 have hp3:=cI (k:=3000) hp (by decide) (by decide)
 have hc3:=dB (k:=3000) hc (by decide) (by decide)
 obtain⟨p,rfl,bp,rp⟩:=bG hp
 obtain⟨r,rfl,br⟩:=aQ hr
 obtain⟨ar,li,ci,cw,fr,to⟩:=c
 have h3:=hc.2.2.1
 have h4:=hc.2.2.2
 simp only at h3 h4
 obtain⟨fr,rfl,bf,rf⟩:=bG h3
 obtain⟨to,rfl,bt,rt⟩:=bG h4
 have o1:decide (okP 580 (enc fr)∧okP 160 (enc p)∧ok Rat 1000 (ag r))=true:=aqs ⟨h3,hp1,hr⟩
 have o2:decide (okP 580 (enc to)∧okP 160 (enc p)∧ok Rat 1000 (ag r))=true:=aqs ⟨h4,hp1,hr⟩
 have b2:Bd ((2:Int):Rat) 3:=cP (n:=2) (by decide)
 have i2:decide (aX 2)=true:=by decide
 have hn:0≤p.2.2.2.2:=rp.nn
 rw[aA,av,ak]
 unfold aaA RE.poiE
 cases ar
 ·obtain⟨c2,c3⟩:=hc.2.1 rfl
  simp only at c2 c3
  obtain⟨li,rfl,bl⟩:=aQ c2
  have o3:decide (okC 3000 (false,enc li,ci,cw,enc fr,enc to)∧okP 3000 (enc p)∧(false,enc li,ci,cw,enc fr,enc to).1=false)=true:=aqs ⟨hc3,hp3,rfl⟩
  have hb:RE.besE (false,li,dec ci,cw,fr,to) (RE.pR p)=qa (false,li,dec ci,cw,fr,to) p:=RE.bes_E (c:=(false,li,dec ci,cw,fr,to)) (hf:=rf) (ht:=rt)
  have q2:d9 (mkR (np li p*np li p+p.2.2.2.2*(m7 li p*m7 li p)) (2*(np li p*m7 li p)) p.2.2.2.2) (r*r*(li.1*li.1+li.2.1*li.2.1))=RE.sg (RE.exE li (RE.pR p)*RE.exE li (RE.pR p)-RE.of (r*r*(li.1*li.1+li.2.1*li.2.1))):=by
   rw[RE.cmpTR_re (pP (h:=⟨hn⟩)).nn,RE.vR_lin]
  have bA:Bd (np li p) 1210:=(inferInstance:Bd (li.1*p.1+li.2.1*p.2.2.1-li.2.2) _).mono (by decide)
  have bB:Bd (m7 li p) 1210:=(inferInstance:Bd (li.1*p.2.1+li.2.1*p.2.2.2.1) _).mono (by decide)
  have eA:li.1*p.1+li.2.1*p.2.2.1-li.2.2=np li p:=rfl
  have eB:li.1*p.2.1+li.2.1*p.2.2.2.1=m7 li p:=rfl
  have e2:((2:Int):Rat)=2:=rfl
  have b2':Bd (2:Rat) 3:=b2
  have nC:Nn p.2.2.2.2:=⟨hn⟩
  dsimp only
  simp only[aj,ak,aD,aE,aA,av,aC,aT,aqv,aqw,Nat.reduceAdd,Nat.reduceLeDiff,aqC,cond_false,bh,bg,aJ,o1,o2,aqs hc3,i2,dT hn,RE.min_if,Bool.not_false,dC,lnC,eA,eB,e2,q2,hb]
  cases decide (r<0)
  ·cases qa (false,li,dec ci,cw,fr,to) p<;>rfl
  ·rfl
 ·obtain⟨c1,hq⟩:=hc.1 rfl
  have hci:nY ci:=⟨c1,hq⟩
  simp only at c1 hq
  obtain⟨ci,rfl,bc⟩:=aQ c1
  rw[ak]at hq
  have e0:((ag ci.1,ag ci.2.1):BV)=enc (ctr ci):=rfl
  have o3:decide (nY (enc ci)∧okP 580 (enc fr)∧okP 580 (enc to)∧okP 580 (enc p))=true:=aqs ⟨hci,h3,h4,hp6⟩
  have z:(sgR (sqP p (ctr ci))==0)=decide (RE.pR p=RE.vE (ctr ci)):=by
   rw[Bool.eq_iff_iff,decide_eq_true_iff]
   exact RE.sq_zr
  have vs:RE.vR (sqP p (ctr ci))=RE.dsE (RE.pR p) (RE.vE (ctr ci)):=RE.vR_sq _
  dsimp only
  simp only[aj,ak,aD,aE,aA,av,okd,aC,aT,aqv,aqw,mx,Nat.reduceAdd,Nat.reduceMul,Nat.reduceLeDiff,aqC,cond_true,bh,bg,aJ,e0,o1,o2,o3,RE.min_if,Bool.not_true,dC,ciC,z,vs,dT (show 0≤ci.2.2 by grind)]
  cases decide (r<0)
  ·cases decide (RE.pR p=RE.vE (ctr ci))
   ·cases RE.witE (true,dec li,ci,cw,fr,to) (RE.pR p)<;>rfl
   ·rfl
  ·rfl
def U8:aM:=spN true true [tCU,tP,tR] (fun x=>decide (okC 580 x.1∧okP 150 x.2.1∧ok Rat 1000 x.2.2.1)) (fun x=>[RV.d atB (RE.poiE (dC x.1) (RE.pR (dec x.2.1)) (ab x.2.2.1))])
theorem LZ:SpK 41 U8:=spX fun x h=>ZP x.1 x.2.1 x.2.2.1 (aqr h)
end
end Go.Proofs.YtlahabkjhgkkjaaGreat
end
