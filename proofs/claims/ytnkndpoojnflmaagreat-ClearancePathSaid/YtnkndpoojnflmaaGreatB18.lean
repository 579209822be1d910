/- Paths and boxes: B3 sides; equal lists of curves. -/
import Derived.Test.YtnkndpoojnflmaaGreatB16
import Derived.Test.YtnkndpoojnflmaaGreatB14
import Derived.Test.YtnkndpoojnflmaaGreatB17
import Derived.Stop.Joined
noncomputable section
namespace Go.Proofs.YtnkndpoojnflmaaGreat
open Go.RowKit Go.IntKind
def smG(g:Int×Int):Prop:= -10000000≤g.1∧g.1≤10000000∧ -10000000≤g.2∧g.2≤10000000
instance (g:Int×Int):Decidable (smG g):=by unfold smG;infer_instance
def yS(l:List (Int×Int)):Prop:=l.length≤1000000∧∀g∈l,smG g
instance (l:List (Int×Int)):Decidable (yS l):=by unfold yS;infer_instance
def gV(g:Int×Int):Rat×Rat:=((g.1:Rat),(g.2:Rat))
def PU(mk:Rat×Rat→Rat×Rat→BCU):List (Int×Int)→List BCU
 |a::b::l=>(bif gU (gV a) (gV b)then []else [mk (gV a) (gV b)])++PU mk (b::l)
 |_=>[]
def rF:=PU kr
def sU:=PU eL
def Ag(b:BR×BR×BR×BR):Prop:=ok Rat 1 b.1∧ok Rat 1 b.2.1∧ok Rat 1 b.2.2.1∧ok Rat 1 b.2.2.2
instance (b:BR×BR×BR×BR):Decidable (Ag b):=by unfold Ag;infer_instance
def GF(b:BR×BR×BR×BR):Bool:=decide (aC (ah b.1) (ah b.2.2.1)≥0)||decide (aC (ah b.2.1) (ah b.2.2.2)≥0)
def Gg(b:BR×BR×BR×BR):Int:=bif GF b then 1 else 0
def Jk(mk:Rat×Rat→Rat×Rat→BCU)(b:BR×BR×BR×BR):List BCU:=bif GF b then []else [mk (dec (b.1,b.2.1)) (dec (b.2.2.1,b.2.1)),mk (dec (b.2.2.1,b.2.1)) (dec b.2.2),mk (dec b.2.2) (dec (b.1,b.2.2.2)),mk (dec (b.1,b.2.2.2)) (dec (b.1,b.2.1))]
def Dc:=Jk kr
def GE:=Jk eL
def Bu(a b:List BCU):Prop:=a.length≤1000000∧(∀x∈a,mG x)∧∀x∈b,mG x
instance (a b:List BCU):Decidable (Bu a b):=by unfold Bu;infer_instance
def Dj(a b:List BCU):Bool:=decide (a.length=b.length)&&(a.zip b).all fun x=>wa (dC x.1)&&v7 (dC x.1) (dC x.2)
def Oq(l:List (Int×Int))(n:Int):Bool:=(l.all fun g=>decide (smG g))&&decide ((l.length:Int)≤n)
theorem bd1{n d:Int}(h1: -10000000≤n)(h2:n≤10000000)(h3:0<d)(h4:d≤256):Bd (Rat.divInt n d) 1:=by
 obtain⟨k,rfl⟩:=ahb (show 0≤d by omega)
 have p:pw 1=1000000000:=by decide
 exact⟨oM (by omega) (dX (by omega) (by omega)) (dX (by omega) (by omega))⟩
theorem abR{n:Int}(h1: -10000000≤n)(h2:n≤10000000):Bd (n:Rat) 1:=by
 have p:pw 1=1000000000:=by decide
 refine⟨show bdR 1 (n:Rat) from⟨?_,?_⟩⟩
 ·rw[Rat.num_intCast]
  exact dX (by omega) (by omega)
 ·rw[Rat.den_intCast]
  exact dX (by decide) (by decide)
theorem wr{g:Int×Int}(h:smG g):Bd (gV g) 1:=by
 obtain⟨h1,h2,h3,h4⟩:=h
 have b1:=abR h1 h2
 have b2:=abR h3 h4
 exact inferInstanceAs (Bd ((g.1:Rat),(g.2:Rat)) _)
theorem MI{a b:Rat×Rat}:gU a b=decide (a=b):=by
 unfold gU
 by_cases h:a=b
 ·subst h
  rw[dT (Rat.sub_self),dT (Rat.sub_self),dT rfl]
  rfl
 ·rw[dF h,Bool.and_eq_false_iff]
  by_cases h1:a.2-b.2=0
  ·refine .inr (dF fun h2=>h (aiV ?_ ?_))<;>grind
  ·exact .inl (dF h1)
theorem F9(a b:Int×Int):((b.1==a.1)&&((b.2==a.2)&&true))=gU (gV a) (gV b):=by
 rw[MI,ahF]
 unfold gV
 simp only[Bool.and_true,af3,aha,ah8,agw,Rat.intCast_inj]
 exact⟨fun h=>⟨h.1.symm,h.2.symm⟩,fun h=>⟨h.1.symm,h.2.symm⟩⟩
theorem U9(g:Int×Int):vcR g.1 g.2=gV g:=rfl
theorem Pg{g:Int×Int}(h:smG g):aF g.1∧aF g.2:=by
 obtain⟨h1,h2,h3,h4⟩:=h
 exact⟨⟨by omega,by omega⟩,by omega,by omega⟩
theorem wB{mk:Rat×Rat→Rat×Rat→BCU}:∀{l:List (Int×Int)},l.length≤1→PU mk l=[]
 |[],_=>rfl
 |[_],_=>rfl
 |_::_::_,h=>absurd h (by simp)
theorem Fy{a b:Rat×Rat}[ba:Bd a 1][bb:Bd b 1](h:gU a b=false):gdN (kr a b):=by
 have:=vk h
 unfold eL at this
 unfold kr
 rw[h]at this ⊢
 exact⟨⟨⟨fun e=>(by cases e),this.1.1.2⟩,fun e=>(by cases e),this.1.2.2⟩,this.2⟩
theorem LB{a b:Rat×Rat}[ba:Bd a 1][bb:Bd b 1](h:gU a b=false):(wa (dC (kr a b))&&v7 (dC (kr a b)) (dC (eL a b)))=true:=by
 have g:=Fy h
 have e:=JM g
 rw[Yn g fun _=>by unfold kr;rw[h];rfl,ahr,←e]
 unfold kr eL
 rw[h]
 rfl
def RX:List En:=[⟨99,fM,dS⟩,enL IR]
def aa2:Ctx:=CX (ens RX) []
def S6(g:(Int×Int))(_k:KT):Option (List RV):=og (decide (aF g.1)) (og (decide (aF g.2)) (some [RV.d tV (hid (aq (g.1:Rat)),hid (aq (g.2:Rat)))]))
theorem abn(g:(Int×Int)):RS aa2 79 [.d tG g] (S6 g):=rsX
def adD:Cn 79 [tG]:=cn fun(g:(Int×Int))=>lf (smG g) [.d tV (enc (gV g))] fun h=>by
 refine cJ RX (abn _ ⟨0,?_⟩)
 obtain⟨h1,h2,h3,h4⟩:=h
 unfold S6
 rw[dT (show aF g.1 from⟨by omega,by omega⟩),dT (show aF g.2 from⟨by omega,by omega⟩)]
 simp only[aX]
 rfl
def EC:List En:=[enL Nx,enL adD]
def X4:NT:=[((35,8),{keep:=[0,3,4],own:=[(3,39,tCU)],hl:=1})]
def Ei:Ctx:=CX (ens EC) X4
def rY(l:List ((Int×Int)))(s4:Int)(r0:List BCU):Cfg:=⟨35,[.blk 0,.seq 25],[(0,.d (.sl tG) l),(3,.own 0),(4,SI s4)],[.row 39 tCU r0],0,[]⟩
def ab2(l:List ((Int×Int)))(k:KT):Option (List RV):=k 8 (rY l 1 ([]))
theorem acD(l:List ((Int×Int))):RS Ei 35 [.d (.sl tG) l] (ab2 l):=rsX
def qB(l:List ((Int×Int)))(s4:Int)(r0:List BCU)(k:KT):Option (List RV):=match decide (s4<(l.length:Int))with|true=>(match aN l (i64.wrap (s4-1))with|some x1=>(og (decide (smG x1)) (match aN l s4 with|some x2=>(og (decide (smG x2)) (og (decide (ok (Rat×Rat) 100 (hid (enc (gV x1)))∧ok (Rat×Rat) 100 (hid (enc (gV x2))))) (match(yA (dec (hid (enc (gV x1)))) (dec (hid (enc (gV x2)))))==0 with|true=>(og (decide ((r0.length+([hid (kr (dec (hid (enc (gV x1)))) (dec (hid (enc (gV x2)))))]).length)*1040≤140737488355328∧r0.length+([hid (kr (dec (hid (enc (gV x1)))) (dec (hid (enc (gV x2)))))]).length≤140737488355328)) (k 8 (rY l (i64.wrap (s4+1)) (r0++([hid (kr (dec (hid (enc (gV x1)))) (dec (hid (enc (gV x2)))))])))))|false=>k 8 (rY l (i64.wrap (s4+1)) r0))))|none=>none))|none=>none)|false=>some [RV.new 39 tCU r0]
theorem vg(l:List ((Int×Int)))(s4:Int)(r0:List BCU):RN Ei 8 (rY l s4 r0) (qB l s4 r0):=rnX
theorem ac8(l:List (Int×Int))(h:yS l):∀(j i:Nat) (o:List BCU),1≤i→l.length≤i+j→o.length≤i→Ei.Runs 8 (rY l (i:Int) o) [.new 39 tCU (o++rF (l.drop (i-1)))]:=by
 have hl:=h.1
 have e:∀(i:Nat) (o:List BCU),1≤i→l.length≤i→Ei.Runs 8 (rY l (i:Int) o) [.new 39 tCU (o++rF (l.drop (i-1)))]:=by
  intro i o hi hn
  refine vg _ _ _ ⟨0,?_⟩
  unfold qB rF
  rw[bV hn,wB (by rw[aif];omega),agt]
 intro j
 induction j with
 |zero=>intro i o hi hn _;exact e i o hi hn
 |succ j ih=>
  intro i o hi hn ho
  by_cases hil:i<l.length
  ·obtain⟨k,rfl⟩:∃k,i=k+1:=⟨i-1,by omega⟩
   have hk:k<l.length:=by omega
   have s1:=h.2 _ (agz hk)
   have s2:=h.2 _ (agz hil)
   have i1:=Pg s1
   have i2:=Pg s2
   have b1:=wr s1
   have b2:=wr s2
   have o1:ok (Rat×Rat) 100 (enc (gV l[k])):=af2 (okd (by decide) (by decide))
   have o2:ok (Rat×Rat) 100 (enc (gV l[k+1])):=af2 (okd (by decide) (by decide))
   have e1:i64.wrap (((k+1:Nat):Int)-1)=(k:Int):=by rw[aP (by omega) (by omega)];omega
   have z:∀x:BCU,(o.length+[x].length)*1040≤140737488355328∧o.length+[x].length≤140737488355328:=fun x=>by simp only[agb];omega
   have eP:rF (l.drop (k+1-1))=(bif gU (gV l[k]) (gV l[k+1])then []else [kr (gV l[k]) (gV l[k+1])])++rF (l.drop (k+1+1-1)):=by
    rw[Nat.add_sub_cancel,Nat.add_sub_cancel,dO hk,dO hil]
    rfl
   rw[eP,←ago]
   cases hz:gU (gV l[k]) (gV l[k+1])
   ·obtain⟨n,hn⟩:=ih (k+1+1) (o++[kr (gV l[k]) (gV l[k+1])]) (by omega) (by omega) (by simp only[agv,agb];omega)
    refine vg _ _ _ ⟨n,?_⟩
    unfold qB
    simp only[bh hil,e1,ao,af0 hk,af0 hil,aX,aA,dT (show ok (Rat×Rat) 100 (enc (gV l[k]))∧ok (Rat×Rat) 100 (enc (gV l[k+1])) from⟨o1,o2⟩),dT (z _),bK (show k+1+1≤9223372036854775807 by omega),dT s1,dT s2,yA,hz,cond_false]
    exact hn
   ·obtain⟨n,hn⟩:=ih (k+1+1) o (by omega) (by omega) (by omega)
    refine vg _ _ _ ⟨n,?_⟩
    unfold qB
    rw[agd,agt]
    simp only[bh hil,e1,ao,af0 hk,af0 hil,aX,aA,dT (show ok (Rat×Rat) 100 (enc (gV l[k]))∧ok (Rat×Rat) 100 (enc (gV l[k+1])) from⟨o1,o2⟩),dT (z _),bK (show k+1+1≤9223372036854775807 by omega),dT s1,dT s2,yA,hz,agd]
    exact hn
  ·exact e i o hi (by omega)
def abF:Cn 35 [(.sl tG)]:=cn fun(l:List ((Int×Int)))=>lf (yS l) [.d (.sl tCU) (rF l)] fun h=>by
 exact Con.new_d (et:=39) (cJ EC (acD _ (ac8 l h l.length 1 [] (by omega) (by omega) (by simp))))
def Fh:List En:=[enL Mn,enL IR]
def Yx:NT:=[((36,8),{keep:=[0,3,4],own:=[(3,39,tCU)],hl:=1})]
def EX:Ctx:=CX (ens Fh) Yx
def rS(l:List ((Int×Int)))(s4:Int)(r0:List BCU):Cfg:=⟨36,[.blk 0,.seq 23],[(0,.d (.sl tG) l),(3,.own 0),(4,SI s4)],[.row 39 tCU r0],0,[]⟩
def abt(l:List ((Int×Int)))(k:KT):Option (List RV):=k 8 (rS l 1 ([]))
theorem adx(l:List ((Int×Int))):RS EX 36 [.d (.sl tG) l] (abt l):=rsX
def qC(l:List ((Int×Int)))(s4:Int)(r0:List BCU)(k:KT):Option (List RV):=match decide (s4<(l.length:Int))with|true=>(match aN l s4 with|some x1=>(match aN l (i64.wrap (s4-1))with|some x2=>(match !((x1.1==x2.1)&&((x1.2==x2.2)&&true))with|true=>(match aN l (i64.wrap (s4-1))with|some x3=>(match aN l (i64.wrap (s4-1))with|some x4=>(og (decide (aF x3.1∧aF x4.2)) (match aN l s4 with|some x5=>(match aN l s4 with|some x6=>(og (decide (aF x5.1∧aF x6.2)) (og (decide (ok (Rat×Rat) 100 (hid (enc (vcR x3.1 x4.2)))∧ok (Rat×Rat) 100 (hid (enc (vcR x5.1 x6.2))))) (og (decide ((r0.length+([hid (eL (dec (hid (enc (vcR x3.1 x4.2)))) (dec (hid (enc (vcR x5.1 x6.2)))))]).length)*1040≤140737488355328∧r0.length+([hid (eL (dec (hid (enc (vcR x3.1 x4.2)))) (dec (hid (enc (vcR x5.1 x6.2)))))]).length≤140737488355328)) (k 8 (rS l (i64.wrap (s4+1)) (r0++([hid (eL (dec (hid (enc (vcR x3.1 x4.2)))) (dec (hid (enc (vcR x5.1 x6.2)))))])))))))|none=>none)|none=>none))|none=>none)|none=>none)|false=>k 8 (rS l (i64.wrap (s4+1)) r0))|none=>none)|none=>none)|false=>some [RV.new 39 tCU r0]
theorem uy(l:List ((Int×Int)))(s4:Int)(r0:List BCU):RN EX 8 (rS l s4 r0) (qC l s4 r0):=rnX
theorem Zq(l:List (Int×Int))(h:yS l):∀(j i:Nat) (o:List BCU),1≤i→l.length≤i+j→o.length≤i→EX.Runs 8 (rS l (i:Int) o) [.new 39 tCU (o++sU (l.drop (i-1)))]:=by
 have hl:=h.1
 have e:∀(i:Nat) (o:List BCU),1≤i→l.length≤i→EX.Runs 8 (rS l (i:Int) o) [.new 39 tCU (o++sU (l.drop (i-1)))]:=by
  intro i o hi hn
  refine uy _ _ _ ⟨0,?_⟩
  unfold qC sU
  rw[bV hn,wB (by rw[aif];omega),agt]
 intro j
 induction j with
 |zero=>intro i o hi hn _;exact e i o hi hn
 |succ j ih=>
  intro i o hi hn ho
  by_cases hil:i<l.length
  ·obtain⟨k,rfl⟩:∃k,i=k+1:=⟨i-1,by omega⟩
   have hk:k<l.length:=by omega
   have s1:=h.2 _ (agz hk)
   have s2:=h.2 _ (agz hil)
   have i1:=Pg s1
   have i2:=Pg s2
   have b1:=wr s1
   have b2:=wr s2
   have o1:ok (Rat×Rat) 100 (enc (gV l[k])):=af2 (okd (by decide) (by decide))
   have o2:ok (Rat×Rat) 100 (enc (gV l[k+1])):=af2 (okd (by decide) (by decide))
   have e1:i64.wrap (((k+1:Nat):Int)-1)=(k:Int):=by rw[aP (by omega) (by omega)];omega
   have z:∀x:BCU,(o.length+[x].length)*1040≤140737488355328∧o.length+[x].length≤140737488355328:=fun x=>by simp only[agb];omega
   have eP:sU (l.drop (k+1-1))=(bif gU (gV l[k]) (gV l[k+1])then []else [eL (gV l[k]) (gV l[k+1])])++sU (l.drop (k+1+1-1)):=by
    rw[Nat.add_sub_cancel,Nat.add_sub_cancel,dO hk,dO hil]
    rfl
   rw[eP,←ago]
   cases hz:gU (gV l[k]) (gV l[k+1])
   ·obtain⟨n,hn⟩:=ih (k+1+1) (o++[eL (gV l[k]) (gV l[k+1])]) (by omega) (by omega) (by simp only[agv,agb];omega)
    refine uy _ _ _ ⟨n,?_⟩
    unfold qC
    simp only[bh hil,e1,ao,af0 hk,af0 hil,aX,aA,dT (show ok (Rat×Rat) 100 (enc (gV l[k]))∧ok (Rat×Rat) 100 (enc (gV l[k+1])) from⟨o1,o2⟩),dT (z _),bK (show k+1+1≤9223372036854775807 by omega),F9,hz,Bool.not_false,dT (show aF l[k].1∧aF l[k].2 from i1),dT (show aF l[k+1].1∧aF l[k+1].2 from i2),U9]
    exact hn
   ·obtain⟨n,hn⟩:=ih (k+1+1) o (by omega) (by omega) (by omega)
    refine uy _ _ _ ⟨n,?_⟩
    unfold qC
    rw[agd,agt]
    simp only[bh hil,e1,ao,af0 hk,af0 hil,bK (show k+1+1≤9223372036854775807 by omega),F9,hz,Bool.not_true]
    exact hn
  ·exact e i o hi (by omega)
def ZV:Cn 36 [(.sl tG)]:=cn fun(l:List ((Int×Int)))=>lf (yS l) [.d (.sl tCU) (sU l)] fun h=>by
 exact Con.new_d (et:=39) (cJ Fh (adx _ (Zq l h l.length 1 [] (by omega) (by omega) (by simp))))
def Et:List En:=[enL Nx,⟨73,iY,fx⟩]
def W6:NT:=[((32,18),{keep:=[4,5,45,46,47],own:=[(5,39,tCU)],hl:=3})]
def Er:Ctx:=CX (ens Et) W6
def qy(b:BR×BR×BR×BR)(s47:Int)(r2:List BCU):Cfg:=⟨32,[.blk 0,.seq 33],[(4,.own 1),(5,.own 2),(45,.own 1),(46,SI (([(b.1,b.2.1),(b.2.2.1,b.2.1),b.2.2,(b.1,b.2.2.2)]).length:Int)),(47,SI s47)],[.box 82 (Ty.split (.st (.pair tR (.pair tR (.pair tR tR)))) b),.row 51 tV ([(b.1,b.2.1),(b.2.2.1,b.2.1),b.2.2,(b.1,b.2.2.2)]),.row 39 tCU r2],0,[]⟩
def Rj(b:BR×BR×BR×BR)(k:KT):Option (List RV):=og (o2 b.1 b.2.2.1) (match decide ((aC (ah b.1) (ah b.2.2.1))≥0)with|true=>some [RV.d (.sl tCU) ([]),RV.d ai2 1]|false=>(og (o2 b.2.1 b.2.2.2) (match decide ((aC (ah b.2.1) (ah b.2.2.2))≥0)with|true=>some [RV.d (.sl tCU) ([]),RV.d ai2 1]|false=>k 18 (qy b 0 ([])))))
theorem abj(b:BR×BR×BR×BR):RS Er 32 [.d (.st (.pair tR (.pair tR (.pair tR tR)))) b] (Rj b):=rsX
def wG(b:BR×BR×BR×BR)(s47:Int)(r2:List BCU)(k:KT):Option (List RV):=match decide (s47<(([(b.1,b.2.1),(b.2.2.1,b.2.1),b.2.2,(b.1,b.2.2.2)]).length:Int))with|true=>(match aN ([(b.1,b.2.1),(b.2.2.1,b.2.1),b.2.2,(b.1,b.2.2.2)]) s47 with|some _=>(match true,([(b.1,b.2.1),(b.2.2.1,b.2.1),b.2.2,(b.1,b.2.2.2)])[(s47).toNat]? with|true,some x1=>(match aN ([(b.1,b.2.1),(b.2.2.1,b.2.1),b.2.2,(b.1,b.2.2.2)]) (Int.tmod (i64.wrap (s47+1)) 4)with|some _=>(match true,([(b.1,b.2.1),(b.2.2.1,b.2.1),b.2.2,(b.1,b.2.2.2)])[(Int.tmod (i64.wrap (s47+1)) 4).toNat]? with|true,some x2=>(og (decide (ok (Rat×Rat) 100 x1∧ok (Rat×Rat) 100 x2)) (og (decide ((r2.length+([hid (kr (dec x1) (dec x2))]).length)*1040≤140737488355328∧r2.length+([hid (kr (dec x1) (dec x2))]).length≤140737488355328)) (k 18 (qy b (i64.wrap (s47+1)) (r2++([hid (kr (dec x1) (dec x2))]))))))|_,_=>none)|none=>none)|_,_=>none)|none=>none)|false=>some [RV.d (.sl tCU) r2,RV.d ai2 0]
theorem wV(b:BR×BR×BR×BR)(s47:Int)(r2:List BCU):RN Er 18 (qy b s47 r2) (wG b s47 r2):=rnX
theorem yk(b:BR×BR×BR×BR){i:Nat}(hi:i<4){x y:BV}(hx:([(b.1,b.2.1),(b.2.2.1,b.2.1),b.2.2,(b.1,b.2.2.2)]:List BV)[i]?=some x)(hy:([(b.1,b.2.1),(b.2.2.1,b.2.1),b.2.2,(b.1,b.2.2.2)]:List BV)[(i+1)%4]?=some y)(ox:ok (Rat×Rat) 100 x)(oy:ok (Rat×Rat) 100 y){r:List BCU}(hr:r.length≤10){q:List RV}(hn:Er.Runs 18 (qy b ((i+1:Nat):Int) (r++[kr (dec x) (dec y)])) q):Er.Runs 18 (qy b (i:Int) r) q:=by
 obtain⟨n,hn⟩:=hn
 refine wV _ _ _ ⟨n,?_⟩
 have z:∀x:BCU,(r.length+[x].length)*1040≤140737488355328∧r.length+[x].length≤140737488355328:=fun x=>by simp only[agb];omega
 have e:Int.tmod ((i+1:Nat):Int) 4=(((i+1)%4:Nat):Int):=(Int.ofNat_tmod _ _).symm
 unfold wG
 simp only[dT (show(i:Int)<(([(b.1,b.2.1),(b.2.2.1,b.2.1),b.2.2,(b.1,b.2.2.2)]:List BV).length:Int) by simp;omega),ao,ahm,hx,hy,e,aX,dT (show ok (Rat×Rat) 100 x∧ok (Rat×Rat) 100 y from⟨ox,oy⟩),dT (z _),bK (show i+1≤9223372036854775807 by omega)]
 exact hn
def Zr:Cn 32 [(.st (.pair tR (.pair tR (.pair tR tR))))]:=cn fun(b:BR×BR×BR×BR)=>lf (Ag b) [.d (.sl tCU) (Dc b),.d ai2 (Gg b)] fun h=>by
 obtain⟨x0,y0,x1,y1⟩:=b
 obtain⟨h1,h2,h3,h4⟩:=h
 obtain⟨x0,rfl,b1⟩:=aB h1
 obtain⟨y0,rfl,b2⟩:=aB h2
 obtain⟨x1,rfl,b3⟩:=aB h3
 obtain⟨y1,rfl,b4⟩:=aB h4
 have o:∀{x y:Rat} [Bd x 1] [Bd y 1],ok (Rat×Rat) 100 (aq x,aq y):=fun{x y} _ _=>af2 (okd (x:=((x,y):Rat×Rat)) (by decide) (by decide))
 refine cJ Et (abj _ ?_)
 obtain⟨n,hn⟩:=yk (i:=0) (enc x0,enc y0,enc x1,enc y1) (by decide) rfl rfl o o (r:=[]) (by decide) (yk (i:=1) (enc x0,enc y0,enc x1,enc y1) (by decide) rfl rfl o o (by simp) (yk (i:=2) (enc x0,enc y0,enc x1,enc y1) (by decide) rfl rfl o o (by simp) (yk (i:=3) (enc x0,enc y0,enc x1,enc y1) (by decide) rfl rfl o o (by simp) (q:=[.d (.sl tCU) _,.d ai2 0]) (wV _ _ _ ⟨0,rfl⟩))))
 refine⟨n,?_⟩
 have hn:=hn
 unfold Rj Dc Jk Gg GF
 simp only[aO,Nat.reduceLeDiff]
 cases decide (aC x0 x1≥0)<;>cases decide (aC y0 y1≥0)<;>first|rfl|exact hn
def Es:List En:=[enL Mn,enT pg]
def Yy:NT:=[((33,18),{keep:=[4,5,6],own:=[(5,39,tCU)],hl:=3})]
def Ec:Ctx:=CX (ens Es) Yy
def qv(b:BR×BR×BR×BR)(s6:Int)(r2:List BCU):Cfg:=⟨33,[.blk 0,.seq 29],[(4,.own 1),(5,.own 2),(6,SI s6)],[.box 82 (Ty.split (.st (.pair tR (.pair tR (.pair tR tR)))) b),.row 51 tV ([(b.1,b.2.1),(b.2.2.1,b.2.1),b.2.2,(b.1,b.2.2.2)]),.row 39 tCU r2],0,[]⟩
def Uj(b:BR×BR×BR×BR)(k:KT):Option (List RV):=og (o2 b.1 b.2.2.1) (match decide ((aC (ah b.1) (ah b.2.2.1))≥0)with|true=>some [RV.d (.sl tCU) ([]),RV.d ai2 1]|false=>(og (o2 b.2.1 b.2.2.2) (match decide ((aC (ah b.2.1) (ah b.2.2.2))≥0)with|true=>some [RV.d (.sl tCU) ([]),RV.d ai2 1]|false=>k 18 (qv b 0 ([])))))
theorem acv(b:BR×BR×BR×BR):RS Ec 33 [.d (.st (.pair tR (.pair tR (.pair tR tR)))) b] (Uj b):=rsX
def w7(b:BR×BR×BR×BR)(s6:Int)(r2:List BCU)(k:KT):Option (List RV):=match decide (s6<4)with|true=>(match aN ([(b.1,b.2.1),(b.2.2.1,b.2.1),b.2.2,(b.1,b.2.2.2)]) s6 with|some _=>(match true,([(b.1,b.2.1),(b.2.2.1,b.2.1),b.2.2,(b.1,b.2.2.2)])[(s6).toNat]? with|true,some x1=>(match aN ([(b.1,b.2.1),(b.2.2.1,b.2.1),b.2.2,(b.1,b.2.2.2)]) (Int.tmod (i64.wrap (s6+1)) 4)with|some _=>(match true,([(b.1,b.2.1),(b.2.2.1,b.2.1),b.2.2,(b.1,b.2.2.2)])[(Int.tmod (i64.wrap (s6+1)) 4).toNat]? with|true,some x2=>(og (decide (ok (Rat×Rat) 100 x1∧ok (Rat×Rat) 100 x2)) (og (decide ((r2.length+([hid (eL (dec x1) (dec x2))]).length)*1040≤140737488355328∧r2.length+([hid (eL (dec x1) (dec x2))]).length≤140737488355328)) (k 18 (qv b (i64.wrap (s6+1)) (r2++([hid (eL (dec x1) (dec x2))]))))))|_,_=>none)|none=>none)|_,_=>none)|none=>none)|false=>some [RV.d (.sl tCU) r2,RV.d ai2 0]
theorem xk(b:BR×BR×BR×BR)(s6:Int)(r2:List BCU):RN Ec 18 (qv b s6 r2) (w7 b s6 r2):=rnX
theorem zF(b:BR×BR×BR×BR){i:Nat}(hi:i<4){x y:BV}(hx:([(b.1,b.2.1),(b.2.2.1,b.2.1),b.2.2,(b.1,b.2.2.2)]:List BV)[i]?=some x)(hy:([(b.1,b.2.1),(b.2.2.1,b.2.1),b.2.2,(b.1,b.2.2.2)]:List BV)[(i+1)%4]?=some y)(ox:ok (Rat×Rat) 100 x)(oy:ok (Rat×Rat) 100 y){r:List BCU}(hr:r.length≤10){q:List RV}(hn:Ec.Runs 18 (qv b ((i+1:Nat):Int) (r++[eL (dec x) (dec y)])) q):Ec.Runs 18 (qv b (i:Int) r) q:=by
 obtain⟨n,hn⟩:=hn
 refine xk _ _ _ ⟨n,?_⟩
 have z:∀x:BCU,(r.length+[x].length)*1040≤140737488355328∧r.length+[x].length≤140737488355328:=fun x=>by simp only[agb];omega
 have e:Int.tmod ((i+1:Nat):Int) 4=(((i+1)%4:Nat):Int):=(Int.ofNat_tmod _ _).symm
 unfold w7
 simp only[dT (show(i:Int)<4 by omega),ao,ahm,hx,hy,e,aX,dT (show ok (Rat×Rat) 100 x∧ok (Rat×Rat) 100 y from⟨ox,oy⟩),dT (z _),bK (show i+1≤9223372036854775807 by omega)]
 exact hn
def ab5:Cn 33 [(.st (.pair tR (.pair tR (.pair tR tR))))]:=cn fun(b:BR×BR×BR×BR)=>lf (Ag b) [.d (.sl tCU) (GE b),.d ai2 (Gg b)] fun h=>by
 obtain⟨x0,y0,x1,y1⟩:=b
 obtain⟨h1,h2,h3,h4⟩:=h
 obtain⟨x0,rfl,b1⟩:=aB h1
 obtain⟨y0,rfl,b2⟩:=aB h2
 obtain⟨x1,rfl,b3⟩:=aB h3
 obtain⟨y1,rfl,b4⟩:=aB h4
 have o:∀{x y:Rat} [Bd x 1] [Bd y 1],ok (Rat×Rat) 100 (aq x,aq y):=fun{x y} _ _=>af2 (okd (x:=((x,y):Rat×Rat)) (by decide) (by decide))
 refine cJ Es (acv _ ?_)
 obtain⟨n,hn⟩:=zF (i:=0) (enc x0,enc y0,enc x1,enc y1) (by decide) rfl rfl o o (r:=[]) (by decide) (zF (i:=1) (enc x0,enc y0,enc x1,enc y1) (by decide) rfl rfl o o (by simp) (zF (i:=2) (enc x0,enc y0,enc x1,enc y1) (by decide) rfl rfl o o (by simp) (zF (i:=3) (enc x0,enc y0,enc x1,enc y1) (by decide) rfl rfl o o (by simp) (q:=[.d (.sl tCU) _,.d ai2 0]) (xk _ _ _ ⟨0,rfl⟩))))
 refine⟨n,?_⟩
 have hn:=hn
 unfold Uj GE Jk Gg GF
 simp only[aO,Nat.reduceLeDiff]
 cases decide (aC x0 x1≥0)<;>cases decide (aC y0 y1≥0)<;>first|rfl|exact hn
def S9:List En:=[enT Z4,enT acS]
def Y1:NT:=[((34,14),{keep:=[0,1,5],hl:=0})]
def EB:Ctx:=CX (ens S9) Y1
def te(a b:List BCU)(s5:Int):Cfg:=⟨34,[.blk 0,.seq 31],[(0,.d (.sl tCU) a),(1,.d (.sl tCU) b),(5,SI s5)],[],0,[]⟩
def Mx(a b:List BCU)(k:KT):Option (List RV):=match(a.length:Int) !=(b.length:Int)with|true=>some [RV.d .bool false]|false=>k 14 (te a b 0)
theorem TU(a b:List BCU):RS EB 34 [.d (.sl tCU) a,.d (.sl tCU) b] (Mx a b):=rsX
def qV(a b:List BCU)(s5:Int)(k:KT):Option (List RV):=match decide (s5<(a.length:Int))with|true=>(match aN a s5 with|some x1=>(og (decide (okC 3500 x1)) (match !(wa (dC x1))with|true=>some [RV.d .bool false]|false=>(match aN a s5 with|some x2=>(match aN b s5 with|some x3=>(og (decide (jU x2 x3)) (match !(v7 (dC x2) (dC x3))with|true=>some [RV.d .bool false]|false=>k 14 (te a b (i64.wrap (s5+1)))))|none=>none)|none=>none)))|none=>none)|false=>some [RV.d .bool true]
theorem w9(a b:List BCU)(s5:Int):RN EB 14 (te a b s5) (qV a b s5):=rnX
theorem abe(a b:List BCU)(h:Bu a b)(hab:a.length=b.length):∀(j i:Nat),i+j=a.length→EB.Runs 14 (te a b (i:Int)) [.d .bool (((a.drop i).zip (b.drop i)).all fun x=>wa (dC x.1)&&v7 (dC x.1) (dC x.2))]:=by
 obtain⟨h1,h2,h3⟩:=h
 intro j
 induction j with
 |zero=>
  intro i hi
  refine w9 _ _ _ ⟨0,?_⟩
  unfold qV
  rw[bV (by omega),jA (by omega)]
  rfl
 |succ j ih=>
  intro i hi
  have hil:i<a.length:=by omega
  have hib:i<b.length:=by omega
  obtain⟨n,hn⟩:=ih (i+1) (by omega)
  refine w9 _ _ _ ⟨n,?_⟩
  have ha:=h2 _ (agz hil)
  have hb:=h3 _ (agz hib)
  unfold qV
  rw[bh hil,ao,af0 hil,ao,af0 hib,agq hil,agq hib,bK (by omega),List.zip_cons_cons,ahL]
  dsimp only
  rw[dT (cG (k:=3500) ha.1 (by decide) (by decide)),dT (show jU a[i] b[i] from⟨ha,hb⟩)]
  cases wa (dC a[i])
  ·rfl
  ·cases v7 (dC a[i]) (dC b[i])
   ·rfl
   ·exact hn
def aan:Cn 34 [(.sl tCU),(.sl tCU)]:=cn fun(a b:List BCU)=>lf (Bu a b) [.d .bool (Dj a b)] fun h=>by
 refine cJ S9 (show EB.Res _ _ _ from ?_)
 by_cases hab:a.length=b.length
 ·obtain⟨n,hn⟩:=abe a b h hab a.length 0 (agE _)
  refine TU _ _ ⟨n,?_⟩
  unfold Mx Dj
  rw[show((a.length:Int) !=(b.length:Int))=false by rw[hab];simp,dT hab]
  exact hn
 ·refine TU _ _ ⟨0,?_⟩
  unfold Mx Dj
  rw[show((a.length:Int) !=(b.length:Int))=true by simp;omega,dF hab]
  rfl
def RD:List En:=[]
def WZ:NT:=[((30,6),{keep:=[0,1,5],hl:=0})]
def LV:Ctx:=CX (ens RD) WZ
def xV(l:List ((Int×Int)))(most s5:Int):Cfg:=⟨30,[.blk 0,.seq 23],[(0,.d (.sl tG) l),(1,SI most),(5,SI s5)],[],0,[]⟩
def aak(l:List ((Int×Int)))(most:Int)(k:KT):Option (List RV):=k 6 (xV l most 0)
theorem acQ(l:List ((Int×Int)))(most:Int):RS LV 30 [.d (.sl tG) l,SI most] (aak l most):=rsX
def uG(l:List ((Int×Int)))(most s5:Int)(k:KT):Option (List RV):=match decide (s5<(l.length:Int))with|true=>(match aN l s5 with|some x1=>(match decide (x1.1>10000000)with|true=>some [RV.d .bool false]|false=>(match aN l s5 with|some x2=>(match decide (x2.1<(-10000000))with|true=>some [RV.d .bool false]|false=>(match aN l s5 with|some x3=>(match decide (x3.2>10000000)with|true=>some [RV.d .bool false]|false=>(match aN l s5 with|some x4=>(match decide (x4.2<(-10000000))with|true=>some [RV.d .bool false]|false=>k 6 (xV l most (i64.wrap (s5+1))))|none=>none))|none=>none))|none=>none))|none=>none)|false=>some [RV.d .bool (decide ((l.length:Int)≤most))]
theorem Ad(l:List ((Int×Int)))(most s5:Int):RN LV 6 (xV l most s5) (uG l most s5):=rnX
theorem adw(l:List (Int×Int))(m:Int)(hl:l.length≤9223372036854775807):∀(j i:Nat),i+j=l.length→LV.Runs 6 (xV l m (i:Int)) [.d .bool (((l.drop i).all fun g=>decide (smG g))&&decide ((l.length:Int)≤m))]:=by
 intro j
 induction j with
 |zero=>
  intro i hi
  refine Ad _ _ _ ⟨0,?_⟩
  unfold uG
  rw[bV (by omega),jA (by omega)]
  rfl
 |succ j ih=>
  intro i hi
  have hil:i<l.length:=by omega
  obtain⟨n,hn⟩:=ih (i+1) (by omega)
  refine Ad _ _ _ ⟨n,?_⟩
  unfold uG
  simp only[bh hil,ao,af0 hil,dO hil,ahL,bK (show i+1≤9223372036854775807 by omega)]
  have e:decide (smG l[i])=!(decide (l[i].1>10000000)||(decide (l[i].1< -10000000)||(decide (l[i].2>10000000)||decide (l[i].2< -10000000)))):=by
   rw[ahF]
   simp only[ah8,ahO,ahK,decide_eq_false_iff_not]
   unfold smG
   omega
  rw[e]
  cases decide (l[i].1>10000000)
  ·cases decide (l[i].1< -10000000)
   ·cases decide (l[i].2>10000000)
    ·cases decide (l[i].2< -10000000)
     ·exact hn
     ·rfl
    ·rfl
   ·rfl
  ·rfl
def aaS:Cn 30 [(.sl tG),ai2]:=cn fun(l:List ((Int×Int))) (most:Int)=>lf (l.length≤9223372036854775807) [.d .bool (Oq l most)] fun h=>by
 exact cJ RD (acQ _ _ (adw l most h l.length 0 (agE _)))
def prG(x y:BCU):Prop:=mG x∧mG y∧(wa (dC x)&&v7 (dC x) (dC y))=true
def prL:List BCU→List BCU→Prop
 |[],[]=>True
 |x::a,y::b=>prG x y∧prL a b
 |_,_=>False
theorem DB:∀{a b:List BCU},prL a b→Dj a b=true∧(∀x∈a,mG x)∧∀x∈b,mG x
 |[],[],_=>⟨rfl,fun _ h=>(by cases h),fun _ h=>by cases h⟩
 |[],_::_,h=>h.elim
 |_::_,[],h=>h.elim
 |x::a,y::b,⟨⟨h1,h2,h3⟩,h⟩=>by
  obtain⟨e,ha,hb⟩:=DB h
  unfold Dj at e ⊢
  obtain⟨e1,e2⟩:=ah3.1 e
  refine⟨?_,fun z hz=>?_,fun z hz=>?_⟩
  ·rw[dT (show(x::a).length=(y::b).length from congrArg (·+1) (af2 e1)),List.zip_cons_cons,ahL,h3,e2]
   rfl
  ·rcases agl.1 hz with rfl|hz
   ·exact h1
   ·exact ha z hz
  ·rcases agl.1 hz with rfl|hz
   ·exact h2
   ·exact hb z hz
theorem vu{a b:Rat×Rat}(ba:Bd a 1)(bb:Bd b 1)(h:gU a b=false):prG (kr a b) (eL a b):=⟨(Fy h).1,(vk h).1,LB h⟩
theorem IS:∀l:List (Int×Int),(∀g∈l,smG g)→prL (rF l) (sU l)∧(rF l).length≤l.length
 |[],_=>⟨trivial,af6 _⟩
 |[_],_=>⟨trivial,ain _⟩
 |a::b::l,h=>by
  obtain⟨h1,h2⟩:=IS (b::l) fun g hg=>h g (agO _ hg)
  have e1:rF (a::b::l)=(bif gU (gV a) (gV b)then []else [kr (gV a) (gV b)])++rF (b::l):=rfl
  have e2:sU (a::b::l)=(bif gU (gV a) (gV b)then []else [eL (gV a) (gV b)])++sU (b::l):=rfl
  rw[e1,e2]
  cases hz:gU (gV a) (gV b)
  ·exact⟨⟨vu (wr (h a (by simp))) (wr (h b (by simp))) hz,h1⟩,by simpa using h2⟩
  ·exact⟨h1,Nat.le_succ_of_le h2⟩
theorem Vv{b:BR×BR×BR×BR}(h:Ag b):prL (Dc b) (GE b)∧(Dc b).length≤4:=by
 unfold Dc GE Jk
 cases hz:GF b
 ·obtain⟨x0,y0,x1,y1⟩:=b
  obtain⟨h1,h2,h3,h4⟩:=h
  obtain⟨x0,rfl,b1⟩:=aB h1
  obtain⟨y0,rfl,b2⟩:=aB h2
  obtain⟨x1,rfl,b3⟩:=aB h3
  obtain⟨y1,rfl,b4⟩:=aB h4
  unfold GF at hz
  obtain⟨z1,z2⟩:=ahK.1 hz
  have z1:=agK z1
  have z2:=agK z2
  simp only[d7,cj]at z1 z2
  have nx:x0≠x1:=fun e=>z1 (by subst e;rw[de];decide)
  have ny:y0≠y1:=fun e=>z2 (by subst e;rw[de];decide)
  have d:∀x y:Rat,(dec ((enc x,enc y):BV):Rat×Rat)=(x,y):=fun x y=>aA (x:=((x,y):Rat×Rat))
  have bb:∀{x y:Rat},Bd x 1→Bd y 1→Bd ((x,y):Rat×Rat) 1:=fun _ _=>inferInstanceAs (Bd ((_,_):Rat×Rat) _)
  have t:∀{v w:Rat×Rat},v≠w→gU v w=false:=fun h=>by rw[MI];exact dF h
  simp only[cond_false,d]
  exact⟨⟨vu (bb b1 b2) (bb b3 b2) (t fun e=>nx (congrArg Prod.fst e)),vu (bb b3 b2) (bb b3 b4) (t fun e=>ny (congrArg Prod.snd e)),vu (bb b3 b4) (bb b1 b4) (t fun e=>nx (congrArg Prod.fst e).symm),vu (bb b1 b4) (bb b1 b2) (t fun e=>ny (congrArg Prod.snd e).symm),trivial⟩,af6 _⟩
 ·exact⟨trivial,ain _⟩
theorem I4{s:Int×Int×Int}(h:uH s):Bd (fD s).1 1∧Bd (fD s).2 1:=by
 obtain⟨h1,h2,h3,h4,h5,h6⟩:=h
 exact⟨bd1 (by omega) (by omega) (by omega) (by omega),bd1 (by omega) (by omega) (by omega) (by omega)⟩
def Fj:List En:=[enT PJ,enF aaS,enL VR,enL Zr,enL ab5,enF aan,enK abF,enK ZV]
def Gc:Ctx:=CX (ens Fj) []
def wN(l:List ((Int×Int)))(a b:Int×Int×Int)(_k:KT):Option (List RV):=og (decide (l.length≤9223372036854775807)) (match !(Oq l (20:Int))with|true=>some [RV.d .bool true]|false=>(og (decide (uH a)) (og (decide (uH b)) (og (decide (Ag ((hid (enc (fD a))).1,((hid (enc (fD a))).2,hid (enc (fD b)))))) (og (decide (Ag ((hid (enc (fD a))).1,((hid (enc (fD a))).2,hid (enc (fD b)))))) (match(Gg ((hid (enc (fD a))).1,((hid (enc (fD a))).2,hid (enc (fD b)))))==(Gg ((hid (enc (fD a))).1,((hid (enc (fD a))).2,hid (enc (fD b)))))with|true=>(og (decide (Bu (Dc ((hid (enc (fD a))).1,((hid (enc (fD a))).2,hid (enc (fD b))))) (GE ((hid (enc (fD a))).1,((hid (enc (fD a))).2,hid (enc (fD b))))))) (match Dj (Dc ((hid (enc (fD a))).1,((hid (enc (fD a))).2,hid (enc (fD b))))) (GE ((hid (enc (fD a))).1,((hid (enc (fD a))).2,hid (enc (fD b)))))with|true=>(og (decide ((([]:List ((Int×Int))).length+l.length)*16≤140737488355328∧([]:List ((Int×Int))).length+l.length≤140737488355328)) (og (decide (yS (([]:List ((Int×Int)))++l))) (og (decide (yS l)) (og (decide (Bu (rF (([]:List ((Int×Int)))++l)) (sU l))) (some [RV.d .bool (Dj (rF (([]:List ((Int×Int)))++l)) (sU l))])))))|false=>some [RV.d .bool false]))|false=>some [RV.d .bool false]))))))
theorem Hg(l:List ((Int×Int)))(a b:Int×Int×Int):RS Gc 10 [.d (.sl tG) l,.d y3Y a,.d y3Y b] (wN l a b):=rsX
theorem Ku(l:List (Int×Int))(a b:Int×Int×Int)(hl:Ty.ok (.sl tG) l)(ha:Ty.ok y3Y a)(hb:Ty.ok y3Y b):Con Tryz.prog 10 [.d (.sl tG) l,.d y3Y a,.d y3Y b] [.d .bool true]:=by
 refine cJ Fj (Hg _ _ _ ⟨0,?_⟩)
 have ga:=TR ha
 have gb:=TR hb
 unfold wN
 rw[dT hl.1]
 cases hf:Oq l 20
 ·rfl
 ·unfold Oq at hf
  obtain⟨f1,f2⟩:=ah3.1 hf
  have f2:=af2 f2
  have hs:∀g∈l,smG g:=fun g hg=>af2 (agh.1 f1 g hg)
  have hp:yS l:=⟨by omega,hs⟩
  have pb:Ag ((enc (fD a):BV).1,(enc (fD a):BV).2,enc (fD b)):=by
   obtain⟨b1,b2⟩:=I4 ga
   obtain⟨b3,b4⟩:=I4 gb
   exact⟨af2 (okd (x:=(fD a).1) (by decide) (by decide)),af2 (okd (x:=(fD a).2) (by decide) (by decide)),af2 (okd (x:=(fD b).1) (by decide) (by decide)),af2 (okd (x:=(fD b).2) (by decide) (by decide))⟩
  obtain⟨q1,q2⟩:=Vv pb
  obtain⟨q3,q4,q5⟩:=DB q1
  obtain⟨r1,r2⟩:=IS l hs
  obtain⟨r3,r4,r5⟩:=DB r1
  have z:(([]:List (Int×Int)).length+l.length)*16≤140737488355328∧([]:List (Int×Int)).length+l.length≤140737488355328:=by simp only[List.length_nil];omega
  simp only[aX,aio,dT ga,dT gb,dT pb,beq_self_eq_true,q3,r3,dT (show Bu _ _ from⟨by omega,q4,q5⟩),dT (show Bu (rF l) (sU l) from⟨by omega,r4,r5⟩),dT z,dT hp,Bool.not_true]
section
open Go.ChangeShapes Go.WideShapes Go.ChangeAt Go.WideMaps Go.WideElems Go.RowKit Go.Maps
section
variable {H:Type} {enc:TypeId×Value→H} {P:Program}
theorem we{f:Func}{s:ChangeSpec}{apart fresh handsOn again:Bool}{W W':World}{args:Array Value}{v:Value}{ds gs:List (DataW H)}{before pa pv:List MemPlace}
  (hW:DataW.Whole enc P f.params.toList s.vars apart W args.toList ds gs before)
  (hres:∀(b:Nat) (sp:Nat→Bool) (hd:Bool),DataW.TrodAll enc P W' b sp hd f.resultTypes.toList (v.resultList f.resultTypes.size) (s.fn H (ds++gs)).results [])
  (hargs:∀sp:Nat→Bool,(∀p∈before,sp p.block=true)→DataW.TrodAll enc P W' 0 sp true f.params.toList args.toList (s.fn H (ds++gs)).args pa)
  (hvars:∀sp:Nat→Bool,(∀p∈before,sp p.block=true)→DataW.TrodVars enc P W' sp s.vars (s.fn H (ds++gs)).vars pv)
  (hps:before=pa++pv) (hb:Below W.heap.size W W')
  (hok:∀(j:Nat) (t:TypeId) (r:Value),f.resultTypes[j]?=some t→(v.resultList f.resultTypes.size)[j]?=some r→Value.okWide P W' .any 0 t r):
  s.post enc P f apart fresh handsOn again W args v W':=by
 have hlt:∀p∈before,p.block<W.heap.size:=fun p hp=>hW.lt p hp
 have hold:∀p∈before,(fun b=>decide (b<W.heap.size)) p.block=true:=fun p hp=>by simpa using hlt p hp
 refine⟨ds,gs,before,[],pa,pv,hW,hres _ _ _,hargs _ hold,hvars _ hold,World.keptBut_mono (fun p hp=>⟨hp,?_⟩) (hb.frame (·∈before)),fun _=>?_⟩
 ·grind
 ·obtain⟨_,_,_,_,_,hz,hn⟩:=hW
  refine⟨hok,_,_,([]++pa)++pv,⟨[]++pa,pv,trodAll_append (hargs _ (fun _ _=>rfl)) (hres _ _ _),hvars _ (fun _ _=>rfl),rfl,?_,?_⟩,?_⟩
  ·intro b off hp
   have hin:MemPlace.cell b off∈before:=by rw[hps];simpa using hp
   rw[hb.frozen (hlt _ hin)]
   exact hz b off hin
  ·grind
  grind
end
theorem Kr:laidOutB Tryz.prog=true:=by kernel_rfl
theorem ow{H:Type}{enc:TypeId×Value→H}{P:Program}(hl:laidOutB P=true){W W':World}{sp:Nat→Bool}:∀(ts:List TypeId) (vs:List Value) (ds:List (DataW H)) (ps:List MemPlace),
  (ts.all fun t=>P.readableRec t&&Nat.ble (t+1) P.types.size)=true→DataW.TrodAll enc P W 0 (fun _=>true) true ts vs ds ps→(∀p∈ps,W.sameAt W' p)→(∀p∈ps,sp p.block=true)→DataW.TrodAll enc P W' 0 sp true ts vs ds ps
 |[],vs,ds,ps,_,h,_,_=>by obtain⟨rfl,rfl,rfl⟩:=trodAll_nil h;exact trodAll_mk0
 |t::ts,vs,ds,ps,ht,h,hs,hp=>by
  obtain⟨v,vs',d,ds',p,q,rfl,rfl,rfl,h0,h1⟩:=trodAll_cons h
  simp only[ahL,af3]at ht
  exact trodAll_cons_mk (Trod_stays hl ht.1.1 (af5 ht.1.2) h0 (fun x hx=>hs x (aht _ hx)) (fun x hx=>hp x (aht _ hx)))
   (ow hl ts vs' ds' q ht.2 h1 (fun x hx=>hs x (ahV _ hx)) (fun x hx=>hp x (ahV _ hx)))
set_option maxRecDepth 100000 in
theorem LR{H:Type}{enc:TypeId×Value→H}{f:Func}{s:ChangeSpec}{apart fresh handsOn again:Bool}{W W':World}{args:Array Value}{ds:List (DataW H)}{before:List MemPlace}
  (hW:DataW.Whole enc Tryz.prog f.params.toList s.vars apart W args.toList ds [] before) (hv:s.vars=[]) (hr:f.resultTypes= #[4]) (hfn:(s.fn H (ds++[])).results=[.lit (.bool true)]∧(s.fn H (ds++[])).args=ds∧(s.fn H (ds++[])).vars=[])
  (hp:(f.params.toList.all fun t=>Tryz.prog.readableRec t&&Nat.ble (t+1) Tryz.prog.types.size)=true) (hb:Below W.heap.size W W'):s.post enc Tryz.prog f apart fresh handsOn again W args (.bool true) W':=by
 have hW':=hW
 obtain⟨p,q,hA,hV,rfl,hfz,hnd⟩:=hW
 have hq:q=[]:=by
  rw[hv]at hV
  exact(trodVars_none hV).2
 subst hq
 have hlt:∀x∈p,x.block<W.heap.size:=fun x hx=>hW'.lt x (by simpa using hx)
 refine we (pa:=p) (pv:=[]) hW' ?_ ?_ ?_ rfl hb ?_
 ·intro b sp hd
  rw[hr,hfn.1]
  exact trodAll_mk1 (shut_bool Tryz.underlying4 _)
 ·intro sp hsp
  rw[hfn.2.1]
  exact ow Kr _ _ _ _ hp hA (fun x hx=>hb.same (hlt x hx)) (fun x hx=>hsp x (by simpa using hx))
 ·intro sp _
  rw[hv,hfn.2.2]
  rfl
 ·exact ok_one hr rfl (okWide_bool_mk (P:=Tryz.prog) Tryz.underlying4 true)
theorem B9{P:Program}{w:World}{r:Reach}{base:Nat}{t e:TypeId}{n:Nat}{v:Value}(ht:P.underlying t=some (.array n e))(h:Value.okWide P w r base t v):∃cs,v=.agg cs∧cs.size=P.cellsOf t:=by
 simp only[Value.okWide,ht]at h
 obtain⟨cs,h1,h2,_⟩:=h
 exact⟨cs,h1,h2⟩
theorem DH{P:Program}{w:World}{r:Reach}{base:Nat}{t:TypeId}{v:Value}(ht:P.underlying t=some .string)(h:Value.okWide P w r base t v):∃s,v=.string s:=by
 simp only[Value.okWide,ht,Cell.okWide]at h
 cases v<;>simp_all [Cell.ok]
theorem um{H:Type}{enc:TypeId×Value→H}{P:Program}{w:World}{r:Reach}{b0 base:Nat}{spare:Nat→Bool}{held:Bool}{v:Value}{d:DataW H}{p:List MemPlace}{t:TypeId}(n:Nat)(ty:Ty)(hrep:rep P n t ty=true)(hv:Value.okWide P w r b0 t v)(h:DataW.Trod enc P w base spare held t v d p):
  ∃y:ty.D,Rel1 [] (fun _=>True) w (.d ty y) v∧ty.ok y:=by
 obtain⟨fuel,hf⟩:=h
 have fin:v.cells.toList.length=ty.n→v=mkV ty v.cells.toList→∃y:ty.D,Rel1 [] (fun _=>True) w (.d ty y) v∧ty.ok y:=fun hl hm=>by
  obtain⟨y,h1,h2⟩:=(Rh ty).1 n t hrep fuel _ _ hl hf
  exact⟨y,⟨_,h1,hm⟩,h2⟩
 cases n with
 |zero=>simp[rep]at hrep
 |succ n=>
  have hrep':=hrep
  unfold rep at hrep'
  split at hrep'<;>try (cases hrep';done)
  ·rename_i hu;obtain⟨m,rfl⟩:=okWide_int hu hv;exact fin rfl rfl
  ·rename_i hu;obtain⟨m,rfl⟩:=okWide_bool hu hv;exact fin rfl rfl
  ·rename_i hu;obtain⟨m,rfl⟩:=DH hu hv;exact fin rfl rfl
  ·rename_i hu;obtain⟨q,m,c,rfl⟩:=okWide_slice hu hv;exact fin rfl rfl
  ·rename_i hu
   obtain⟨cs,rfl,hsz⟩:=okWide_struct hu hv
   simp only[af3]at hrep'
   exact fin (by simp only[Value.cells,Array.length_toList,hsz];exact af4 hrep'.2) (by simp[mkV,Ty.isSt,Value.cells])
  ·rename_i hu
   obtain⟨cs,rfl,hsz⟩:=B9 hu hv
   simp only[af3]at hrep'
   exact fin (by simp only[Value.cells,Array.length_toList,hsz];exact af4 hrep'.2) (by simp[mkV,Ty.isSt,Value.cells])
end
end Go.Proofs.YtnkndpoojnflmaaGreat
end
namespace Go.Proofs.YtnkndpoojnflmaaGreat.lawClearancePath
open Go.ChangeShapes Go.WideShapes Go.ChangeAt Go.RowKit
set_option maxRecDepth 100000 in
theorem contract(H:Type)(enc:TypeId×Value→H)(W:World)(base:Nat)(args:Array Value)(ds gs:List (DataW H))(before:List MemPlace)
  (hval:∀(j:Nat) t v,Tryz.f10.params[j]?=some t→args[j]?=some v→Value.okWide Tryz.prog W .any base t v)
  (hW:DataW.Whole enc Tryz.prog Tryz.f10.params.toList Rows.clearancePathSpec.vars false W args.toList ds gs before):
  Calls Tryz.prog 10 args W fun e W'=>∃v,e=.returned v∧Rows.clearancePathSpec.post enc Tryz.prog Tryz.f10 false true false false W args v W':=by
 have hW':=hW
 obtain⟨p,q,hA0,hV,rfl,hfz,hnd⟩:=hW
 have hA:DataW.TrodAll enc Tryz.prog W 0 (fun _=>true) true Tryz.f10.params.toList args.toList ds p:=hA0
 rw[Tryz.params10]at hA hval
 obtain⟨v0,vs0,d0,ds0,p0,q0,e0,rfl,rfl,h0,r0⟩:=trodAll_cons hA
 obtain⟨v1,vs1,d1,ds1,p1,q1,e1,rfl,rfl,h1,r1⟩:=trodAll_cons r0
 obtain⟨v2,vs2,d2,ds2,p2,q2,e2,rfl,rfl,h2,r2⟩:=trodAll_cons r1
 obtain⟨en,rfl,rfl⟩:=trodAll_nil r2
 obtain rfl:args= #[v0,v1,v2]:=by cases args;simp_all
 obtain⟨rfl,rfl⟩:=trodVars_none hV
 obtain⟨y0,s0,k0⟩:=um 12 (.sl tG) (by kernel_rfl) (hval 0 75 v0 rfl rfl) h0
 obtain⟨y1,s1,k1⟩:=um 12 (.st (.pair (.int .i16) (.pair (.int .i16) (.int .u8)))) (by kernel_rfl) (hval 1 78 v1 rfl rfl) h1
 obtain⟨y2,s2,k2⟩:=um 12 (.st (.pair (.int .i16) (.pair (.int .i16) (.int .u8)))) (by kernel_rfl) (hval 2 78 v2 rfl rfl) h2
 clear hA0
 refine(Ku y0 y1 y2 k0 k1 k2 (fun _=>True) W [v0,v1,v2] Jb ⟨s0,s1,s2,trivial⟩).mono ?_
 rintro e W' ⟨v,rfl,hb,hres⟩
 have hv:v=.bool true:=pH (G:=[]) (d8 hres)
 subst hv
 exact⟨_,rfl,LR hW' rfl (by kernel_rfl) ⟨rfl,rfl,rfl⟩ (by kernel_rfl) hb⟩
set_option maxRecDepth 100000 in
theorem lifted(os:Os)(started:os.Started)(H:Type)(enc:TypeId×Value→H):
  ReturnsInHanded {} Tryz.checked os 10 .any (Rows.clearancePathSpec.pre6 enc Tryz.prog Tryz.f10 Rows.clearancePathRow.domain false) (Rows.clearancePathSpec.post enc Tryz.prog Tryz.f10 false true false false):=by
 refine returnsInHanded_of_change (C:=Tryz.checked) HD started (by kernel_rfl) Tryz.func10
  (ChangeSpec.witness6 (enc:=enc) (C:=Tryz.checked) false ⟨#[],#[.slice none 0 0,.agg #[.int .i16 0,.int .i16 0,.int .u8 0],.agg #[.int .i16 0,.int .i16 0,.int .u8 0]],[]⟩ 8 (by kernel_rfl) (by kernel_rfl) (by kernel_rfl) (by kernel_rfl)) ?_
 intro W base args ds gs before hval hW _ _
 exact contract H enc W base args ds gs before hval hW
end Go.Proofs.YtnkndpoojnflmaaGreat.lawClearancePath
namespace Go.Proofs.YtnkndpoojnflmaaGreat.lawClearancePath
open Go.ChangeShapes Go.WideShapes Go.ChangeAt Go.RowKit
set_option maxRecDepth 100000 in
theorem afj:(Rows.clearancePathRow.inPlace==Tryz.prog.inPlace 10)=true:=by kernel_rfl
set_option maxRecDepth 100000 in
theorem afd:(Rows.clearancePathRow.unfollowed==Tryz.prog.unfollowed 10)=true:=by kernel_rfl
set_option maxRecDepth 100000 in
theorem aeB:(Rows.clearancePathRow.recurses==Tryz.prog.recurses 10)=true:=by kernel_rfl
set_option maxRecDepth 100000 in
theorem aex:(Rows.clearancePathRow.named==Tryz.prog.varsNamed 10)=true:=by kernel_rfl
set_option maxRecDepth 100000 in
theorem kf2:(laidOutB Tryz.prog)=true:=by kernel_rfl
set_option maxRecDepth 100000 in
theorem aeU:(Tryz.prog.mayEnter)=true:=by kernel_rfl
theorem gh{a b:Bool}(h:a=true)(h':b=true):(a&&b)=true:=by rw[h,h'];rfl
set_option maxRecDepth 100000 in
theorem Wo:joinedFacts Tryz.prog 10 Tryz.f10 Rows.clearancePathSpec Rows.clearancePathRow=true:=by
 unfold joinedFacts
 exact(gh (gh (gh (gh (gh (gh (gh (gh (gh (gh (gh (gh (gh (gh (gh (gh (gh (gh (gh (gh (gh (gh (gh (gh (gh (gh (gh (gh (gh (gh (gh (by kernel_rfl) kf2) (by kernel_rfl)) (by kernel_rfl)) (by kernel_rfl)) (by kernel_rfl)) (by kernel_rfl)) (by kernel_rfl)) (by kernel_rfl)) afj) afd) aeB) aex) (by kernel_rfl)) (by kernel_rfl)) (by kernel_rfl)) (by kernel_rfl)) (by kernel_rfl)) (by kernel_rfl)) (by kernel_rfl)) (by kernel_rfl)) (by kernel_rfl)) (by kernel_rfl)) (by kernel_rfl)) (by kernel_rfl)) aeU) (by kernel_rfl)) (by kernel_rfl)) (by kernel_rfl)) (by kernel_rfl)) (by kernel_rfl)) (by kernel_rfl))
theorem proved:Rows.ClearancePathSaid:=
 OpenClaim.holds_of_wide 10 Tryz.f10 rfl rfl rfl rfl rfl rfl rfl ⟨rfl,rfl,rfl,rfl,rfl⟩ rfl rfl rfl rfl rfl (by kernel_rfl) Tryz.func10 Wo
  (of_decide_eq_true (by kernel_rfl)) (by unfold Func.isWrapper;first|(rw[if_pos (by decide+kernel)];kernel_rfl)|(rw[if_neg (by decide+kernel)];exact⟨rfl,rfl⟩))
  (fun os started H enc _=>lifted os started H enc)
end Go.Proofs.YtnkndpoojnflmaaGreat.lawClearancePath
