/- Points of a curve in order, and its pieces: the reference's contracts. -/
import Derived.Test.YtnkndpoojnflmaaGreatB13
import Derived.Test.YtnkndpoojnflmaaGreatB11
noncomputable section
namespace Go.Proofs.YtnkndpoojnflmaaGreat
open Go.RowKit Go.IntKind
theorem agO:type_of% @List.mem_cons_of_mem:=@List.mem_cons_of_mem
def oh(c:Cv):List BP→BP→List BP
 |[],x=>[x]
 |y::r,x=>bif decide (gQ c (dec y) (dec x)<0)then y::oh c r x else bif bZ (dec y) (dec x)==0 then y::r else x::y::r
def aem(c:Cv)(l:List BP):List BP:=l.foldl (oh c) []
def W7(c:BCU)(l:List BP):Prop:=okC 4000 c∧l.length≤1000000∧∀x∈l,okP 4000 x
instance (c:BCU) (l:List BP):Decidable (W7 c l):=by unfold W7;infer_instance
theorem BJ{c:Cv}{x y:BP}:∀{r:List BP},y∈oh c r x→y∈r∨y=x
 |[],h=>by simp only[oh,List.mem_singleton]at h;exact .inr h
 |z::r,h=>by
  simp only[oh]at h
  cases h1:decide (gQ c (dec z) (dec x)<0)<;>rw[h1]at h
  ·cases h2:bZ (dec z) (dec x)==0<;>rw[h2]at h
   ·rcases agl.1 h with h|h
    ·exact .inr h
    ·exact .inl h
   ·exact .inl h
  ·rcases agl.1 h with h|h
   ·exact .inl (by simp[h])
   ·rcases BJ h with h|h
    ·exact .inl (agO _ h)
    ·exact .inr h
theorem BO(c:Cv)(x:BP):∀r:List BP,(oh c r x).length≤r.length+1
 |[]=>by simp[oh]
 |z::r=>by
  have:=BO c x r
  simp only[oh]
  cases decide (gQ c (dec z) (dec x)<0)
  ·cases bZ (dec z) (dec x)==0<;>simp
  ·simp only[agd,agi];omega
theorem GP{α:Type}{l:List α}{k:Nat}(h:k<l.length):l.take (k+1)=l.take k++[l[k]]:=by rw[List.take_succ_eq_append_getElem h]
def SE:List En:=[enT Nv,enT So,enT D0]
def XC:NT:=[((59,8),{keep:=[1,2,5,6],pure_:=[(5,tP)],hl:=1}),((59,21),{keep:=[1,2,5,6,7],pure_:=[(5,tP)],hl:=1})]
def sQ:Ctx:=CX (ens SE) XC
def jI(c:BCU)(l:List BP)(s6:Int)(s5:List BP):Cfg:=⟨59,[.blk 0,.seq 38],[(1,.d (.sl tP) l),(2,.box 0 0),(5,.d (.sl tP) s5),(6,SI s6)],[.box 39 [SB c.1,SB c.2.1.1.1.1,.d ai1 c.2.1.1.1.2,SB c.2.1.1.2.1,.d ai1 c.2.1.1.2.2,SB c.2.1.2.1.1.1,.d ai1 c.2.1.2.1.1.2,SB c.2.1.2.1.2.1,.d ai1 c.2.1.2.1.2.2,SB c.2.1.2.2.1.1,.d ai1 c.2.1.2.2.1.2,SB c.2.1.2.2.2.1,.d ai1 c.2.1.2.2.2.2,SB c.2.2.1.1.1.1,.d ai1 c.2.2.1.1.1.2,SB c.2.2.1.1.2.1,.d ai1 c.2.2.1.1.2.2,SB c.2.2.1.2.1.1.1,.d ai1 c.2.2.1.2.1.1.2,SB c.2.2.1.2.1.2.1,.d ai1 c.2.2.1.2.1.2.2,SB c.2.2.1.2.2.1.1,.d ai1 c.2.2.1.2.2.1.2,SB c.2.2.1.2.2.2.1,.d ai1 c.2.2.1.2.2.2.2,SB c.2.2.2.1,SB c.2.2.2.2.1.1.1.1,.d ai1 c.2.2.2.2.1.1.1.2,SB c.2.2.2.2.1.1.2.1,.d ai1 c.2.2.2.2.1.1.2.2,SB c.2.2.2.2.1.2.1.1.1,.d ai1 c.2.2.2.2.1.2.1.1.2,SB c.2.2.2.2.1.2.1.2.1,.d ai1 c.2.2.2.2.1.2.1.2.2,SB c.2.2.2.2.1.2.2.1.1.1,.d ai1 c.2.2.2.2.1.2.2.1.1.2,SB c.2.2.2.2.1.2.2.1.2.1,.d ai1 c.2.2.2.2.1.2.2.1.2.2,SB c.2.2.2.2.1.2.2.2.1.1.1,.d ai1 c.2.2.2.2.1.2.2.2.1.1.2,SB c.2.2.2.2.1.2.2.2.1.2.1,.d ai1 c.2.2.2.2.1.2.2.2.1.2.2,SB c.2.2.2.2.1.2.2.2.2.1.1,.d ai1 c.2.2.2.2.1.2.2.2.2.1.2,SB c.2.2.2.2.1.2.2.2.2.2.1,.d ai1 c.2.2.2.2.1.2.2.2.2.2.2,SB c.2.2.2.2.2.1.1.1,.d ai1 c.2.2.2.2.2.1.1.2,SB c.2.2.2.2.2.1.2.1,.d ai1 c.2.2.2.2.2.1.2.2,SB c.2.2.2.2.2.2.1.1.1,.d ai1 c.2.2.2.2.2.2.1.1.2,SB c.2.2.2.2.2.2.1.2.1,.d ai1 c.2.2.2.2.2.2.1.2.2,SB c.2.2.2.2.2.2.2.1.1.1,.d ai1 c.2.2.2.2.2.2.2.1.1.2,SB c.2.2.2.2.2.2.2.1.2.1,.d ai1 c.2.2.2.2.2.2.2.1.2.2,SB c.2.2.2.2.2.2.2.2.1.1.1,.d ai1 c.2.2.2.2.2.2.2.2.1.1.2,SB c.2.2.2.2.2.2.2.2.1.2.1,.d ai1 c.2.2.2.2.2.2.2.2.1.2.2,SB c.2.2.2.2.2.2.2.2.2.1.1,.d ai1 c.2.2.2.2.2.2.2.2.2.1.2,SB c.2.2.2.2.2.2.2.2.2.2.1,.d ai1 c.2.2.2.2.2.2.2.2.2.2.2]],0,[]⟩
def t3(c:BCU)(l s5:List BP)(s6 s7:Int):Cfg:=⟨59,[.blk 2,.seq 30,.blk 1,.seq 37,.lp 8,.blk 0,.seq 38],[(1,.d (.sl tP) l),(2,.box 0 0),(5,.d (.sl tP) s5),(6,SI s6),(7,SI s7)],[.box 39 [SB c.1,SB c.2.1.1.1.1,.d ai1 c.2.1.1.1.2,SB c.2.1.1.2.1,.d ai1 c.2.1.1.2.2,SB c.2.1.2.1.1.1,.d ai1 c.2.1.2.1.1.2,SB c.2.1.2.1.2.1,.d ai1 c.2.1.2.1.2.2,SB c.2.1.2.2.1.1,.d ai1 c.2.1.2.2.1.2,SB c.2.1.2.2.2.1,.d ai1 c.2.1.2.2.2.2,SB c.2.2.1.1.1.1,.d ai1 c.2.2.1.1.1.2,SB c.2.2.1.1.2.1,.d ai1 c.2.2.1.1.2.2,SB c.2.2.1.2.1.1.1,.d ai1 c.2.2.1.2.1.1.2,SB c.2.2.1.2.1.2.1,.d ai1 c.2.2.1.2.1.2.2,SB c.2.2.1.2.2.1.1,.d ai1 c.2.2.1.2.2.1.2,SB c.2.2.1.2.2.2.1,.d ai1 c.2.2.1.2.2.2.2,SB c.2.2.2.1,SB c.2.2.2.2.1.1.1.1,.d ai1 c.2.2.2.2.1.1.1.2,SB c.2.2.2.2.1.1.2.1,.d ai1 c.2.2.2.2.1.1.2.2,SB c.2.2.2.2.1.2.1.1.1,.d ai1 c.2.2.2.2.1.2.1.1.2,SB c.2.2.2.2.1.2.1.2.1,.d ai1 c.2.2.2.2.1.2.1.2.2,SB c.2.2.2.2.1.2.2.1.1.1,.d ai1 c.2.2.2.2.1.2.2.1.1.2,SB c.2.2.2.2.1.2.2.1.2.1,.d ai1 c.2.2.2.2.1.2.2.1.2.2,SB c.2.2.2.2.1.2.2.2.1.1.1,.d ai1 c.2.2.2.2.1.2.2.2.1.1.2,SB c.2.2.2.2.1.2.2.2.1.2.1,.d ai1 c.2.2.2.2.1.2.2.2.1.2.2,SB c.2.2.2.2.1.2.2.2.2.1.1,.d ai1 c.2.2.2.2.1.2.2.2.2.1.2,SB c.2.2.2.2.1.2.2.2.2.2.1,.d ai1 c.2.2.2.2.1.2.2.2.2.2.2,SB c.2.2.2.2.2.1.1.1,.d ai1 c.2.2.2.2.2.1.1.2,SB c.2.2.2.2.2.1.2.1,.d ai1 c.2.2.2.2.2.1.2.2,SB c.2.2.2.2.2.2.1.1.1,.d ai1 c.2.2.2.2.2.2.1.1.2,SB c.2.2.2.2.2.2.1.2.1,.d ai1 c.2.2.2.2.2.2.1.2.2,SB c.2.2.2.2.2.2.2.1.1.1,.d ai1 c.2.2.2.2.2.2.2.1.1.2,SB c.2.2.2.2.2.2.2.1.2.1,.d ai1 c.2.2.2.2.2.2.2.1.2.2,SB c.2.2.2.2.2.2.2.2.1.1.1,.d ai1 c.2.2.2.2.2.2.2.2.1.1.2,SB c.2.2.2.2.2.2.2.2.1.2.1,.d ai1 c.2.2.2.2.2.2.2.2.1.2.2,SB c.2.2.2.2.2.2.2.2.2.1.1,.d ai1 c.2.2.2.2.2.2.2.2.2.1.2,SB c.2.2.2.2.2.2.2.2.2.2.1,.d ai1 c.2.2.2.2.2.2.2.2.2.2.2]],0,[]⟩
def Zd(c:BCU)(l:List BP)(k:KT):Option (List RV):=k 8 (jI c l 0 ([]))
theorem adC(c:BCU)(l:List BP):RS sQ 59 [.d tCU c,.d (.sl tP) l] (Zd c l):=rsX
def vt(c:BCU)(l:List BP)(s6:Int)(s5:List BP)(k:KT):Option (List RV):=match decide (s6<(l.length:Int))with|true=>k 21 (t3 c l s5 s6 0)|false=>some [RV.d (.sl tP) s5]
theorem zO(c:BCU)(l:List BP)(s6:Int)(s5:List BP):RN sQ 8 (jI c l s6 s5) (vt c l s6 s5):=rnX
def rv(c:BCU)(l s5:List BP)(s6 s7:Int)(k:KT):Option (List RV):=match decide (s7<(s5.length:Int))with|true=>(match aN s5 s7 with|some x1=>(match aN l s6 with|some x2=>(og (decide (okC 4000 c∧okP 4000 x1∧okP 4000 x2)) (match decide ((gQ (dC c) (dec x1) (dec x2))<0)with|true=>k 21 (t3 c l s5 s6 (i64.wrap (s7+1)))|false=>(match decide (s7<(s5.length:Int))with|true=>(match aN s5 s7 with|some x3=>(match aN l s6 with|some x4=>(og (decide (okP 4000 x3∧okP 4000 x4)) (match bZ (dec x3) (dec x4)==0 with|true=>k 8 (jI c l (i64.wrap (s6+1)) s5)|false=>(og (decide ((0:Int)≤0∧0≤s7∧s7≤(s5.length:Int))) (match aN l s6 with|some x5=>(og (decide ((0:Int)≤s7∧s7≤(s5.length:Int)∧(s5.length:Int)≤(s5.length:Int))) (dup (.b (.b .l .l) .l) (og (decide ((([]:List BP).length+((s5.take (s7).toNat).drop (0:Int).toNat).length)*320≤140737488355328∧([]:List BP).length+((s5.take (s7).toNat).drop (0:Int).toNat).length≤140737488355328)) (og (decide (((([]:List BP)++((s5.take (s7).toNat).drop (0:Int).toNat)).length+([x5]).length)*320≤140737488355328∧(([]:List BP)++((s5.take (s7).toNat).drop (0:Int).toNat)).length+([x5]).length≤140737488355328)) (og (decide ((((([]:List BP)++((s5.take (s7).toNat).drop (0:Int).toNat))++([x5])).length+((s5.take ((s5.length:Int)).toNat).drop (s7:Int).toNat).length)*320≤140737488355328∧((([]:List BP)++((s5.take (s7).toNat).drop (0:Int).toNat))++([x5])).length+((s5.take ((s5.length:Int)).toNat).drop (s7:Int).toNat).length≤140737488355328)) (k 8 (jI c l (i64.wrap (s6+1)) (((([]:List BP)++((s5.take (s7).toNat).drop (0:Int).toNat))++([x5]))++((s5.take ((s5.length:Int)).toNat).drop (s7:Int).toNat)))))))))|none=>none))))|none=>none)|none=>none)|false=>(og (decide ((0:Int)≤0∧0≤s7∧s7≤(s5.length:Int))) (match aN l s6 with|some x3=>(og (decide ((0:Int)≤s7∧s7≤(s5.length:Int)∧(s5.length:Int)≤(s5.length:Int))) (dup (.b (.b .l .l) .l) (og (decide ((([]:List BP).length+((s5.take (s7).toNat).drop (0:Int).toNat).length)*320≤140737488355328∧([]:List BP).length+((s5.take (s7).toNat).drop (0:Int).toNat).length≤140737488355328)) (og (decide (((([]:List BP)++((s5.take (s7).toNat).drop (0:Int).toNat)).length+([x3]).length)*320≤140737488355328∧(([]:List BP)++((s5.take (s7).toNat).drop (0:Int).toNat)).length+([x3]).length≤140737488355328)) (og (decide ((((([]:List BP)++((s5.take (s7).toNat).drop (0:Int).toNat))++([x3])).length+((s5.take ((s5.length:Int)).toNat).drop (s7:Int).toNat).length)*320≤140737488355328∧((([]:List BP)++((s5.take (s7).toNat).drop (0:Int).toNat))++([x3])).length+((s5.take ((s5.length:Int)).toNat).drop (s7:Int).toNat).length≤140737488355328)) (k 8 (jI c l (i64.wrap (s6+1)) (((([]:List BP)++((s5.take (s7).toNat).drop (0:Int).toNat))++([x3]))++((s5.take ((s5.length:Int)).toNat).drop (s7:Int).toNat)))))))))|none=>none)))))|none=>none)|none=>none)|false=>(match decide (s7<(s5.length:Int))with|true=>(match aN s5 s7 with|some x1=>(match aN l s6 with|some x2=>(og (decide (okP 4000 x1∧okP 4000 x2)) (match bZ (dec x1) (dec x2)==0 with|true=>k 8 (jI c l (i64.wrap (s6+1)) s5)|false=>(og (decide ((0:Int)≤0∧0≤s7∧s7≤(s5.length:Int))) (match aN l s6 with|some x3=>(og (decide ((0:Int)≤s7∧s7≤(s5.length:Int)∧(s5.length:Int)≤(s5.length:Int))) (dup (.b (.b .l .l) .l) (og (decide ((([]:List BP).length+((s5.take (s7).toNat).drop (0:Int).toNat).length)*320≤140737488355328∧([]:List BP).length+((s5.take (s7).toNat).drop (0:Int).toNat).length≤140737488355328)) (og (decide (((([]:List BP)++((s5.take (s7).toNat).drop (0:Int).toNat)).length+([x3]).length)*320≤140737488355328∧(([]:List BP)++((s5.take (s7).toNat).drop (0:Int).toNat)).length+([x3]).length≤140737488355328)) (og (decide ((((([]:List BP)++((s5.take (s7).toNat).drop (0:Int).toNat))++([x3])).length+((s5.take ((s5.length:Int)).toNat).drop (s7:Int).toNat).length)*320≤140737488355328∧((([]:List BP)++((s5.take (s7).toNat).drop (0:Int).toNat))++([x3])).length+((s5.take ((s5.length:Int)).toNat).drop (s7:Int).toNat).length≤140737488355328)) (k 8 (jI c l (i64.wrap (s6+1)) (((([]:List BP)++((s5.take (s7).toNat).drop (0:Int).toNat))++([x3]))++((s5.take ((s5.length:Int)).toNat).drop (s7:Int).toNat)))))))))|none=>none))))|none=>none)|none=>none)|false=>(og (decide ((0:Int)≤0∧0≤s7∧s7≤(s5.length:Int))) (match aN l s6 with|some x1=>(og (decide ((0:Int)≤s7∧s7≤(s5.length:Int)∧(s5.length:Int)≤(s5.length:Int))) (dup (.b (.b .l .l) .l) (og (decide ((([]:List BP).length+((s5.take (s7).toNat).drop (0:Int).toNat).length)*320≤140737488355328∧([]:List BP).length+((s5.take (s7).toNat).drop (0:Int).toNat).length≤140737488355328)) (og (decide (((([]:List BP)++((s5.take (s7).toNat).drop (0:Int).toNat)).length+([x1]).length)*320≤140737488355328∧(([]:List BP)++((s5.take (s7).toNat).drop (0:Int).toNat)).length+([x1]).length≤140737488355328)) (og (decide ((((([]:List BP)++((s5.take (s7).toNat).drop (0:Int).toNat))++([x1])).length+((s5.take ((s5.length:Int)).toNat).drop (s7:Int).toNat).length)*320≤140737488355328∧((([]:List BP)++((s5.take (s7).toNat).drop (0:Int).toNat))++([x1])).length+((s5.take ((s5.length:Int)).toNat).drop (s7:Int).toNat).length≤140737488355328)) (k 8 (jI c l (i64.wrap (s6+1)) (((([]:List BP)++((s5.take (s7).toNat).drop (0:Int).toNat))++([x1]))++((s5.take ((s5.length:Int)).toNat).drop (s7:Int).toNat)))))))))|none=>none)))
theorem wk(c:BCU)(l s5:List BP)(s6 s7:Int):RN sQ 21 (t3 c l s5 s6 s7) (rv c l s5 s6 s7):=rnX
theorem Xz(c:BCU)(l:List BP)(hc:okC 4000 c)(hl:∀x∈l,okP 4000 x)(out:List BP)(ho:∀x∈out,okP 4000 x)(hlen:out.length≤1000000)(i:Nat)(hi:i<l.length)(hi2:i≤1000000)(r:List RV)(h:sQ.Runs 8 (jI c l ((i+1:Nat):Int) (oh (dC c) out l[i])) r):
  ∀(j k:Nat),k+j=out.length→oh (dC c) out l[i]=out.take k++oh (dC c) (out.drop k) l[i]→sQ.Runs 21 (t3 c l out (i:Int) (k:Int)) r:=by
 have e0:i64.wrap ((i:Int)+1)=((i+1:Nat):Int):=bK (by omega)
 have gl:aN l (i:Int)=some l[i]:=by rw[ao,af0 hi]
 have hx:=hl _ (agz hi)
 have tl:out.take ((out.length:Int)).toNat=out:=by simp
 have put:∀k:Nat,k≤out.length→oh (dC c) out l[i]=out.take k++[l[i]]++out.drop k→∃n,(match decide ((0:Int)≤0∧0≤(k:Int)∧(k:Int)≤(out.length:Int))with
   |true=>(match aN l (i:Int)with
    |some x5=>(match decide ((0:Int)≤(k:Int)∧(k:Int)≤(out.length:Int)∧(out.length:Int)≤(out.length:Int))with
     |true=>(match decide ((([]:List BP).length+((out.take ((k:Int)).toNat).drop (0:Int).toNat).length)*320≤140737488355328∧([]:List BP).length+((out.take ((k:Int)).toNat).drop (0:Int).toNat).length≤140737488355328)with
      |true=>(match decide (((([]:List BP)++((out.take ((k:Int)).toNat).drop (0:Int).toNat)).length+([x5]).length)*320≤140737488355328∧(([]:List BP)++((out.take ((k:Int)).toNat).drop (0:Int).toNat)).length+([x5]).length≤140737488355328)with
       |true=>(match decide ((((([]:List BP)++((out.take ((k:Int)).toNat).drop (0:Int).toNat))++([x5])).length+((out.take ((out.length:Int)).toNat).drop ((k:Int)).toNat).length)*320≤140737488355328∧((([]:List BP)++((out.take ((k:Int)).toNat).drop (0:Int).toNat))++([x5])).length+((out.take ((out.length:Int)).toNat).drop ((k:Int)).toNat).length≤140737488355328)with
        |true=>sQ.k n 8 (jI c l (i64.wrap ((i:Int)+1)) (((([]:List BP)++((out.take ((k:Int)).toNat).drop (0:Int).toNat))++([x5]))++((out.take ((out.length:Int)).toNat).drop ((k:Int)).toNat)))
        |false=>none)
       |false=>none)
      |false=>none)
     |false=>none)
    |none=>none)
   |false=>none)=some r:=by
  intro k hk he
  have e1:((out.take ((k:Int)).toNat).drop (0:Int).toNat)=out.take k:=by simp
  have e2:((out.take ((out.length:Int)).toNat).drop ((k:Int)).toNat)=out.drop k:=by simp
  have l1:(out.take k).length=k:=by simp;omega
  have l2:(out.drop k).length=out.length-k:=by simp
  obtain⟨n,hn⟩:=h
  refine⟨n,?_⟩
  rw[gl,dT (show(0:Int)≤0∧0≤(k:Int)∧(k:Int)≤(out.length:Int) by omega)]
  dsimp only
  rw[dT (show(0:Int)≤(k:Int)∧(k:Int)≤(out.length:Int)∧(out.length:Int)≤(out.length:Int) by omega)]
  simp only[e1,e2,aio,List.length_nil,agv,agi,l1,l2,agE]
  rw[dT (by omega),dT (by omega),dT (by omega),e0,←he]
  exact hn
 intro j
 induction j with
 |zero=>
  intro k hk he
  have hk:k=out.length:=by omega
  subst hk
  refine wk _ _ _ _ _ ?_
  unfold rv
  rw[bV (by omega)]
  simp only[eH]
  refine put _ (af6 _) ?_
  rw[he]
  simp[oh]
 |succ j ih=>
  intro k hk he
  have hkl:k<out.length:=by omega
  have go:aN out (k:Int)=some out[k]:=by rw[ao,af0 hkl]
  have ho1:=ho _ (agz hkl)
  have ek:i64.wrap ((k:Int)+1)=((k+1:Nat):Int):=bK (by omega)
  have hd:out.drop k=out[k]::out.drop (k+1):=agq hkl
  refine wk _ _ _ _ _ ?_
  unfold rv
  simp only[eH,bh hkl,go,gl,dT (show okC 4000 c∧okP 4000 out[k]∧okP 4000 l[i] from⟨hc,ho1,hx⟩),dT (show okP 4000 out[k]∧okP 4000 l[i] from⟨ho1,hx⟩)]
  rw[hd]at he
  simp only[oh]at he
  cases h1:decide (gQ (dC c) (dec out[k]) (dec l[i])<0)<;>rw[h1]at he
  ·simp only[cond_false]at he
   cases h2:bZ (dec out[k]) (dec l[i])==0<;>rw[h2]at he
   ·simp only[cond_false]at he
    have:=put k (by omega) (by rw[he,hd];simp)
    simp only[gl]at this
    exact this
   ·simp only[agd]at he
    rw[←hd,ahh]at he
    obtain⟨n,hn⟩:=h
    refine⟨n,?_⟩
    rw[e0]
    rw[he]at hn
    exact hn
  ·simp only[agd]at he
   obtain⟨n,hn⟩:=ih (k+1) (by omega) (by rw[he,GP hkl,ago];rfl)
   refine⟨n,?_⟩
   rw[ek]
   exact hn
theorem Oj(c:BCU)(l:List BP)(hc:okC 4000 c)(hl:∀x∈l,okP 4000 x)(hle:l.length≤1000000):∀(j i:Nat),i+j=l.length→∀out:List BP,(∀x∈out,okP 4000 x)→out.length≤i→sQ.Runs 8 (jI c l (i:Int) out) [.d (.sl tP) ((l.drop i).foldl (oh (dC c)) out)]:=by
 intro j
 induction j with
 |zero=>
  intro i hi out ho hlen
  refine zO _ _ _ _ ⟨0,?_⟩
  unfold vt
  rw[bV (by omega),jA (by omega)]
  rfl
 |succ j ih=>
  intro i hi out ho hlen
  have hil:i<l.length:=by omega
  have h2:=ih (i+1) (by omega) (oh (dC c) out l[i]) (fun x hx=>by
   rcases BJ hx with h|h
   ·exact ho x h
   ·rw[h];exact hl _ (agz hil)) (agj (BO _ _ _) (by omega))
  obtain⟨n,hn⟩:=Xz c l hc hl out ho (by omega) i hil (by omega) _ h2 out.length 0 (by omega) (by simp)
  refine zO _ _ _ _ ⟨n,?_⟩
  unfold vt
  rw[bh hil,dO hil,aip]
  exact hn
def abI:Cn 59 [tCU,(.sl tP)]:=cn fun(c:BCU) (l:List BP)=>lf (W7 c l) [.d (.sl tP) (aem (dC c) l)] fun h=>by
 obtain⟨hc,hle,hl⟩:=h
 refine cJ SE (show sQ.Res _ _ _ from ?_)
 obtain⟨n,hn⟩:=Oj c l hc hl hle l.length 0 (by omega) [] (fun x hx=>by cases hx) (af6 _)
 exact adC _ _ ⟨n,hn⟩
def ON(c:BCU)(x y:BP):BCU:=(c.1,c.2.1,c.2.2.1,c.2.2.2.1,x,y)
def v8(n d:Int):Prop:=aF n∧aF d∧0<d
instance (n d:Int):Decidable (v8 n d):=by unfold v8;infer_instance
def fD(s:Int×Int×Int):Rat×Rat:=(Rat.divInt s.1 (s.2.2+1),Rat.divInt s.2.1 (s.2.2+1))
def uH(s:Int×Int×Int):Prop:= -32768≤s.1∧s.1≤32767∧ -32768≤s.2.1∧s.2.1≤32767∧0≤s.2.2∧s.2.2≤255
instance (s:Int×Int×Int):Decidable (uH s):=by unfold uH;infer_instance
def IQ:List En:=[enL yb,enL Ry]
def JW(n d:Int)(_k:KT):Option (List RV):=match d==0 with|true=>(og (decide (aF (0:Int))) (og (decide (aF (1:Int))) (og (decide (iX (hid (ai (0:Int))) (hid (ai (1:Int))))) (some [RV.d tR (hid (eO (hid (ai (0:Int))) (hid (ai (1:Int)))))]))))|false=>(og (decide (aF n)) (og (decide (aF d)) (og (decide (iX (hid (ai n)) (hid (ai d)))) (some [RV.d tR (hid (eO (hid (ai n)) (hid (ai d))))]))))
def Dn:Cn 40 [ai2,ai2]:=cn fun(n d:Int)=>lf (v8 n d) [.d tR (aq (Rat.divInt n d))] fun h=>by
 refine az IQ (JW n d) ⟨0,?_⟩
 obtain⟨hn,hd,h0⟩:=h
 have hne:(d==0)=false:=by simp;omega
 unfold JW
 rw[hne,dT hn,dT hd]
 simp only[aX]
 rw[dT (show iX (ai n) (ai d) from⟨aR (by have:=je hn;omega),aR (by have:=je hd;omega),by rw[dec_enc];omega⟩)]
 unfold eO
 rw[dec_enc,dec_enc]
def V7:List En:=enL Dn::IQ
def M5(s:Int×Int×Int)(_k:KT):Option (List RV):=og (decide (v8 (i64.wrap s.1) (i64.wrap ((i64.wrap s.2.2)+1)))) (og (decide (v8 (i64.wrap s.2.1) (i64.wrap ((i64.wrap s.2.2)+1)))) (some [RV.d tV (hid (aq (Rat.divInt (i64.wrap s.1) (i64.wrap ((i64.wrap s.2.2)+1)))),hid (aq (Rat.divInt (i64.wrap s.2.1) (i64.wrap ((i64.wrap s.2.2)+1)))))]))
def VR:Cn 31 [y3Y]:=cn fun(s:Int×Int×Int)=>lf (uH s) [.d tV (enc (fD s))] fun h=>by
 refine az V7 (M5 s) ⟨0,?_⟩
 obtain⟨h1,h2,h3,h4,h5,h6⟩:=h
 have e1:i64.wrap s.1=s.1:=aP (by omega) (by omega)
 have e2:i64.wrap s.2.1=s.2.1:=aP (by omega) (by omega)
 have e3:i64.wrap s.2.2=s.2.2:=aP (by omega) (by omega)
 have e4:i64.wrap (s.2.2+1)=s.2.2+1:=aP (by omega) (by omega)
 unfold M5
 rw[e1,e2,e3,e4,dT (show v8 s.1 (s.2.2+1) from⟨⟨by omega,by omega⟩,⟨by omega,by omega⟩,by omega⟩),dT (show v8 s.2.1 (s.2.2+1) from⟨⟨by omega,by omega⟩,⟨by omega,by omega⟩,by omega⟩)]
 simp only[aX]
 rfl
theorem Pv{n d:Int}(h1:aF n)(h2:aF d)(h0:0<d):Bd (Rat.divInt n d) 3:=by
 obtain⟨k,rfl⟩:=ahb (show 0≤d by omega)
 exact⟨oM (by omega) (je h1) (je h2)⟩
section
theorem Con.new_d{P:Program}{f:Nat}{args:List SV}{et:TypeId}{e:Ty}{xs:List e.D}(h:Con P f args [.new et e xs]):Con P f args [.d (.sl e) xs]:=by
 intro A w vs hI ha
 refine(h A w vs hI ha).mono ?_
 rintro en w' ⟨v,rfl,hb,css,ho,ha2,hn⟩
 refine⟨v,rfl,hb,?_⟩
 obtain⟨hlen,p,c,hv,h1,h2,h3⟩:=Rd.of_own hn ho
 subst hv
 refine⟨[.slice p xs.length c],⟨p,xs.length,c,css,rfl,rfl,h1,h2,bF (fun _ _ h=>Ty.rd_keep ⟨af6 _,fun b _ hb=>hb.1,fun _ _ _=>rfl⟩ h) ha2,fun h0=>?_⟩,rfl⟩
 obtain⟨b,off,rfl,h5,h6⟩:=h3 h0
 refine⟨b,off,rfl,.inr ?_,h5,h6⟩
 rcases ho.2 with⟨h7,_⟩|⟨g,cap,cur,h7,h8,_⟩
 ·cases h7
 ·injection h7 with h7
  injection h7 with h7
  injection h7 with h7
  subst h7
  exact h8
section
variable {a b:Rat} {m n d e:Nat}
end
def cL(x:BO3):Prop:=ok Rat 12 x.1∧ok Rat 12 x.2.1∧ok Rat 63 x.2.2∧((dec x:Ln).1≠0∨(dec x:Ln).2.1≠0)
instance (x:BO3):Decidable (cL x):=by unfold cL;infer_instance
def cg(x:BO3):Prop:=ok Rat 4 x.1∧ok Rat 4 x.2.1∧ok Rat 13 x.2.2∧(0:Rat)<(dec x:Ln).2.2
instance (x:BO3):Decidable (cg x):=by unfold cg;infer_instance
class BdL (l:Ln):Prop where
 a:Bd l.1 12
 b:Bd l.2.1 12
 c:Bd l.2.2 63
class BdC (c:Ln):Prop where
 x:Bd c.1 4
 y:Bd c.2.1 4
 q:Bd c.2.2 13
theorem eg{x:BO3}(h:cL x):∃l:Ln,x=enc l∧BdL l∧(l.1≠0∨l.2.1≠0):=by
 obtain⟨h1,h2,h3,h4⟩:=h
 obtain⟨x1,x2,x3⟩:=x
 obtain⟨a,rfl,ba⟩:=aB h1
 obtain⟨b,rfl,bb⟩:=aB h2
 obtain⟨c,rfl,bc⟩:=aB h3
 have e:((enc a,enc b,enc c):BO3)=enc ((a,b,c):Ln):=rfl
 rw[e,aA]at h4
 exact⟨(a,b,c),rfl,⟨ba,bb,bc⟩,h4⟩
theorem cH{x:BO3}(h:cg x):∃c:Ln,x=enc c∧BdC c∧0<c.2.2:=by
 obtain⟨h1,h2,h3,h4⟩:=h
 obtain⟨x1,x2,x3⟩:=x
 obtain⟨a,rfl,ba⟩:=aB h1
 obtain⟨b,rfl,bb⟩:=aB h2
 obtain⟨c,rfl,bc⟩:=aB h3
 have e:((enc a,enc b,enc c):BO3)=enc ((a,b,c):Ln):=rfl
 rw[e,aA]at h4
 exact⟨(a,b,c),rfl,⟨ba,bb,bc⟩,h4⟩
theorem ku{l:Ln}[h:BdL l](h0:l.1≠0∨l.2.1≠0):cL (enc l):=by
 have a:=h.a
 have b:=h.b
 have c:=h.c
 exact⟨af2 (okd (af6 _) (by decide)),af2 (okd (af6 _) (by decide)),af2 (okd (af6 _) (by decide)),by rw[aA];exact h0⟩
theorem gF{c:Ln}[h:BdC c](h0:0<c.2.2):cg (enc c):=by
 have a:=h.x
 have b:=h.y
 have c:=h.q
 exact⟨af2 (okd (af6 _) (by decide)),af2 (okd (af6 _) (by decide)),af2 (okd (af6 _) (by decide)),by rw[aA];exact h0⟩
section
variable {l c:Ln}
instance afW [h:BdL l]:Bd l.1 12:=h.a
instance afX [h:BdL l]:Bd l.2.1 12:=h.b
instance afS [h:BdL l]:Bd l.2.2 63:=h.c
instance afY [h:BdC c]:Bd c.1 4:=h.x
instance afV [h:BdC c]:Bd c.2.1 4:=h.y
instance afR [h:BdC c]:Bd c.2.2 13:=h.q
theorem XX [h:BdL l]:Bd l 63:=⟨⟨Cod.mono _ _ _ (by decide) h.a.le,Cod.mono _ _ _ (by decide) h.b.le,h.c.le⟩⟩
theorem Nd [h:BdC c]:Bd c 13:=⟨⟨Cod.mono _ _ _ (by decide) h.x.le,Cod.mono _ _ _ (by decide) h.y.le,h.q.le⟩⟩
end
def eF(l m:Ln):Rat:=l.1*m.2.1-m.1*l.2.1
def mv(l m:Ln):Rat:=l.2.2*m.2.1-m.2.2*l.2.1
def mO(l m:Ln):Rat:=l.1*m.2.2-m.1*l.2.2
def o9(l m:Ln):List Pt:=bif !decide (eF l m=0)then [atP (mv l m/eF l m,mO l m/eF l m)]else []
def Om(l m:Ln):Int:=bif !decide (eF l m=0)then 0 else bif decide (mv l m=0)&&decide (mO l m=0)then 10 else 0
def cA(l:Ln):Rat:=l.1*l.1+l.2.1*l.2.1
def vlL(l:Ln)(x y:Rat):Rat:=l.1*x+l.2.1*y-l.2.2
def jE(l c:Ln):Rat:=cA l*c.2.2-vlL l c.1 c.2.1*vlL l c.1 c.2.1
def mj(ax bx ay b_ c:Rat):Pt:=bif eZ c then atP (ax+bx*rtQ c,ay+b_*rtQ c)else(ax,bx,ay,b_,c)
def ftX(l c:Ln):Rat:=c.1-vlL l c.1 c.2.1/cA l*l.1
def ftY(l c:Ln):Rat:=c.2.1-vlL l c.1 c.2.1/cA l*l.2.1
def un(l c:Ln):Pt:=mj (ftX l c) (-(l.2.1/cA l)) (ftY l c) (-(-l.1/cA l)) (jE l c)
def uP(l c:Ln):Pt:=mj (ftX l c) (l.2.1/cA l) (ftY l c) (-l.1/cA l) (jE l c)
def wc(l c:Ln):List Pt:=bif decide (jE l c<0)then []else bif decide (jE l c=0)then [atP (ftX l c,ftY l c)]
 else bif decide (bZ (un l c) (uP l c)>0)then [uP l c,un l c]else [un l c,uP l c]
def ja(c d:Ln):Bool:=decide (c.1=d.1)&&decide (c.2.1=d.2.1)
def pz(c:Ln):Rat:=c.1*c.1+c.2.1*c.2.1-c.2.2
def oe(c d:Ln):Ln:=(2*(d.1-c.1),2*(d.2.1-c.2.1),pz d-pz c)
def XK(c d:Ln):List Pt:=bif ja c d then []else wc (oe c d) c
def YO(c d:Ln):Int:=bif ja c d then(bif decide (c.2.2=d.2.2)then 10 else 0)else 0
def sT(c d:Ln):BO3:=bif ja c d then o00 else enc (oe c d)
def P9(c d:Ln):Int:=bif ja c d then 6 else 0
def t4(l m:Ln):Bool:=decide (l.1*m.2.1=l.2.1*m.1)&&(decide (l.1*m.2.2=l.2.2*m.1)&&decide (l.2.1*m.2.2=l.2.2*m.2.1))
def sY(c d:Ln):Bool:=decide (c.1=d.1)&&(decide (c.2.1=d.2.1)&&decide (c.2.2=d.2.2))
def eG(a b:Cv):Bool:=bif a.1==b.1 then(bif a.1 then sY (ciC a) (ciC b)else t4 (lnC a) (lnC b))else false
def wh(a:BCU):Prop:=(a.1=true→cg a.2.2.1)∧(a.1=false→cL a.2.1)
instance (a:BCU):Decidable (wh a):=by unfold wh;infer_instance
def gY(a b:BCU):Prop:=wh a∧wh b
instance (a b:BCU):Decidable (gY a b):=by unfold gY;infer_instance
def ky(c:Ln):Pt:=mj c.1 (-1) c.2.1 0 c.2.2
def kx(c:Ln):Pt:=mj c.1 1 c.2.1 0 c.2.2
theorem zk{ax bx ay b_ c:Rat}(h0:¬(bx=0∧b_=0))(hc:0≤c):Rpd (mj ax bx ay b_ c):=by
 refine⟨?_⟩
 unfold mj
 cases hq:eZ c
 ·exact .inr ⟨h0,Fb hc hq,hq⟩
 ·exact .inl ⟨rfl,rfl,rfl⟩
theorem xK{ax bx ay b_ c:Rat}{j k m:Nat}(h1:Bd ax j)(h2:Bd bx k)(h3:Bd ay j)(h4:Bd b_ k)(h5:Bd c m){n:Nat}(hn:j+(k+m)+1≤n):Bd (mj ax bx ay b_ c) n:=by
 have z:bdR n 0:=a9 ki.le (by omega)
 have i1:Bd (ax+bx*rtQ c) _:=inferInstance
 have i2:Bd (ay+b_*rtQ c) _:=inferInstance
 refine⟨?_⟩
 unfold mj
 cases eZ c
 ·exact⟨a9 h1.le (by omega),a9 h2.le (by omega),a9 h3.le (by omega),a9 h4.le (by omega),a9 h5.le (by omega)⟩
 ·exact⟨a9 i1.le (by omega),z,a9 i2.le (by omega),z,z⟩
section
variable {l m c d:Ln}
theorem mR(h:l.1≠0∨l.2.1≠0):cA l≠0:=lZ h
instance aek [BdL l] [h:BdC c]:Bd (jE l c) 257:=by
 have hx:=h.x
 have hy:=h.y
 have hq:=h.q
 have i1:Bd (cA l) 49:=inferInstanceAs (Bd (l.1*l.1+l.2.1*l.2.1) _)
 have i2:Bd (vlL l c.1 c.2.1) 97:=inferInstanceAs (Bd (l.1*c.1+l.2.1*c.2.1-l.2.2) _)
 exact(inferInstance:Bd (cA l*c.2.2-vlL l c.1 c.2.1*vlL l c.1 c.2.1) _).mono (by decide)
theorem uM [BdL l][h:BdC c]:Bd (ftX l c) 163∧Bd (ftY l c) 163∧Bd (l.2.1/cA l) 61∧Bd (l.1/cA l) 61:=by
 have hx:=h.x
 have hy:=h.y
 have i1:Bd (cA l) 49:=inferInstanceAs (Bd (l.1*l.1+l.2.1*l.2.1) _)
 have i2:Bd (vlL l c.1 c.2.1) 97:=inferInstanceAs (Bd (l.1*c.1+l.2.1*c.2.1-l.2.2) _)
 have i3:Bd (c.1-vlL l c.1 c.2.1/cA l*l.1) _:=inferInstance
 have i4:Bd (c.2.1-vlL l c.1 c.2.1/cA l*l.2.1) _:=inferInstance
 have i5:Bd (l.2.1/cA l) _:=inferInstance
 have i6:Bd (l.1/cA l) _:=inferInstance
 exact⟨i3.mono (by decide),i4.mono (by decide),i5.mono (by decide),i6.mono (by decide)⟩
end
end
section
theorem GU(a b:Rat):((aq a,aq b):BV)=enc ((a,b):Rat×Rat):=nr rfl
theorem KE{q:Rat}(h:¬q<0)(h':¬q=0):0<q:=by grind
theorem rdl{l:Ln}(h:cA l≠0)(hl:l.1≠0∨l.2.1≠0):¬(l.2.1/cA l=0∧ -l.1/cA l=0):=by
 intro ⟨h1,h2⟩
 have m:∀a:Rat,a/cA l=0→a=0:=fun a e=>by
  have:a/cA l*cA l=a:=agC h
  rw[e,Rat.zero_mul]at this
  exact this.symm
 have:=m _ h1
 have:=m _ h2
 rcases hl with h|h<;>grind
section
variable {l c:Ln}
theorem XG(hl:l.1≠0∨l.2.1≠0)(h0:0≤jE l c):Rpd (un l c)∧Rpd (uP l c):=by
 have hn:=mR hl
 refine⟨zk (fun h=>rdl hn hl ⟨by grind,by grind⟩) h0,zk (rdl hn hl) h0⟩
theorem Yw [BdL l][BdC c]:Bd (un l c) 490∧Bd (uP l c) 490:=by
 obtain⟨h1,h2,h3,h4⟩:=uM (l:=l) (c:=c)
 have h5:Bd (jE l c) 257:=inferInstance
 have n1:Bd (-(l.2.1/cA l)) 61:=inferInstance
 have i1:Bd (cA l) 49:=inferInstanceAs (Bd (l.1*l.1+l.2.1*l.2.1) _)
 have n2:Bd (-l.1/cA l) 61:=(inferInstance:Bd (-l.1/cA l) _)
 have n3:Bd (-(-l.1/cA l)) 61:=inferInstance
 exact⟨xK h1 n1 h2 n3 h5 (by decide),xK h1 h3 h2 n2 h5 (by decide)⟩
end
theorem Dx{c d:Ln}[BdC c][BdC d]:BdL (oe c d):=by
 have b2:Bd (2:Rat) 3:=cO (n:=2) (by decide)
 have f1:Bd (pz c) 31:=(inferInstance:Bd (c.1*c.1+c.2.1*c.2.1-c.2.2) _).mono (by decide)
 have f2:Bd (pz d) 31:=(inferInstance:Bd (d.1*d.1+d.2.1*d.2.1-d.2.2) _).mono (by decide)
 have g1:Bd (2*(d.1-c.1)) _:=inferInstance
 have g2:Bd (2*(d.2.1-c.2.1)) _:=inferInstance
 have g3:Bd (pz d-pz c) _:=inferInstance
 exact⟨g1.mono (by decide),g2.mono (by decide),g3.mono (by decide)⟩
theorem NU{c d:Ln}(h:ja c d=false):(oe c d).1≠0∨(oe c d).2.1≠0:=by
 unfold ja at h
 unfold oe
 dsimp only
 by_cases h1:c.1=d.1
 ·rw[afZ h1,ahr]at h
  have:=agK h
  right;grind
 ·left;grind
theorem IF{c d:Ln}[BdC c][BdC d](h:ja c d=false):cL (enc (oe c d)):=ku (h:=Dx) (NU h)
def sP:List En:=[enT lS,enL mE,enL oZ,enL rC,enL pi,enT pg,enL sH,enL C4,enL Dr,enL Cy,enT yN,enL Dt]
def ad0:Cn 273 [tR,tR]:=cn fun(a b:BR)=>lf (okR a∧okR b) [.d tR (aq (ah a+ah b))] fun h=>iW [RV.d tR (hAd a b)] (c7 sP) h
def aaF:Cn 255 [tR,tR]:=cn fun(a b:BR)=>lf (okR a∧okR b) [.d tR (aq (ah a-ah b))] fun h=>iW [RV.d tR (hSu a b)] (c7 sP) h
def acT:Cn 256 [tR,tR]:=cn fun(a b:BR)=>lf (okR a∧okR b) [.d tR (aq (ah a*ah b))] fun h=>iW [RV.d tR (hMu a b)] (c7 sP) h
def aaO:Cn 181 [tR]:=cn fun(a:BR)=>lf (okR a) [.d tR (aq (-ah a))] fun h=>iW [RV.d tR (hNe a)] (c7 sP) h
def Zz:Cn 253 [tR,tR]:=cn fun(a b:BR)=>lf (gA a b) [.d tR (aq (ah a/ah b))] fun h=>iW [RV.d tR (hDi a b)] (c7 sP) h
def N7(l m:BO3)(_k:KT):Option (List RV):=og (o2 l.1 m.2.1) (og (o2 l.2.1 m.1) (og (o2 (hMu l.1 m.2.1) (hMu l.2.1 m.1)) (match(aC (ah (hMu l.1 m.2.1)) (ah (hMu l.2.1 m.1)))==0 with|true=>(og (o2 l.1 m.2.2) (og (o2 l.2.2 m.1) (og (o2 (hMu l.1 m.2.2) (hMu l.2.2 m.1)) (match(aC (ah (hMu l.1 m.2.2)) (ah (hMu l.2.2 m.1)))==0 with|true=>(og (o2 l.2.1 m.2.2) (og (o2 l.2.2 m.2.1) (og (o2 (hMu l.2.1 m.2.2) (hMu l.2.2 m.2.1)) (some [RV.d .bool ((aC (ah (hMu l.2.1 m.2.2)) (ah (hMu l.2.2 m.2.1)))==0)]))))|false=>some [RV.d .bool false]))))|false=>some [RV.d .bool false])))
def V9:Cn 146 [tO,tO]:=cn fun(l m:BO3)=>lf (cL l∧cL m) [.d .bool (t4 (dec l) (dec m))] fun h=>by
 refine az sP (N7 l m) ⟨0,?_⟩
 obtain⟨hl,hm⟩:=h
 obtain⟨l,rfl,bl,nl⟩:=eg hl
 obtain⟨m,rfl,bm,nm⟩:=eg hm
 unfold N7 t4
 simp only[aO,Nat.reduceAdd,Nat.reduceLeDiff,am]
 cases decide (l.1*m.2.1=l.2.1*m.1)<;>cases decide (l.1*m.2.2=l.2.2*m.1)<;>rfl
def Ja(c d:BO3)(_k:KT):Option (List RV):=og (o2 c.1 d.1) (match(aC (ah c.1) (ah d.1))==0 with|true=>(og (o2 c.2.1 d.2.1) (match(aC (ah c.2.1) (ah d.2.1))==0 with|true=>(og (o2 c.2.2 d.2.2) (some [RV.d .bool ((aC (ah c.2.2) (ah d.2.2))==0)]))|false=>some [RV.d .bool false]))|false=>some [RV.d .bool false])
def Yl:Cn 145 [tO,tO]:=cn fun(c d:BO3)=>lf (cg c∧cg d) [.d .bool (sY (dec c) (dec d))] fun h=>by
 refine az sP (Ja c d) ⟨0,?_⟩
 obtain⟨hc,hd⟩:=h
 obtain⟨c,rfl,bc,nc⟩:=cH hc
 obtain⟨d,rfl,bd,nd⟩:=cH hd
 unfold Ja sY
 simp only[aO,Nat.reduceLeDiff,am]
 cases decide (c.1=d.1)<;>cases decide (c.2.1=d.2.1)<;>rfl
def xz:List En:=enL ad0::enL aaF::enL acT::enL aaO::enL Zz::sP
def Rx(l m:BO3)(_k:KT):Option (List RV):=og (o2 l.1 m.2.1) (og (o2 m.1 l.2.1) (og (o2 (hMu l.1 m.2.1) (hMu m.1 l.2.1)) (some [RV.d tR (hSu (hMu l.1 m.2.1) (hMu m.1 l.2.1))])))
def abN:Cn 257 [tO,tO]:=cn fun(l m:BO3)=>lf (cL l∧cL m) [.d tR (aq (eF (dec l) (dec m)))] fun h=>by
 refine az xz (Rx l m) ⟨0,?_⟩
 obtain⟨hl,hm⟩:=h
 obtain⟨l,rfl,bl,nl⟩:=eg hl
 obtain⟨m,rfl,bm,nm⟩:=eg hm
 unfold Rx eF
 simp only[aO,Nat.reduceAdd,Nat.reduceLeDiff]
def UN(l:BO3)(_k:KT):Option (List RV):=og (o2 l.1 l.1) (og (o2 l.2.1 l.2.1) (og (o2 (hMu l.1 l.1) (hMu l.2.1 l.2.1)) (some [RV.d tR (hAd (hMu l.1 l.1) (hMu l.2.1 l.2.1))])))
def aco:Cn 252 [tO]:=cn fun(l:BO3)=>lf (cL l) [.d tR (aq (cA (dec l)))] fun h=>by
 refine az xz (UN l) ⟨0,?_⟩
 have hl:=h
 obtain⟨l,rfl,bl,nl⟩:=eg hl
 unfold UN cA
 simp only[aO,Nat.reduceAdd,Nat.reduceLeDiff]
def Vh(l:BO3)(x y:BR)(_k:KT):Option (List RV):=og (o2 l.1 x) (og (o2 l.2.1 y) (og (o2 (hMu l.1 x) (hMu l.2.1 y)) (og (o2 (hAd (hMu l.1 x) (hMu l.2.1 y)) l.2.2) (some [RV.d tR (hSu (hAd (hMu l.1 x) (hMu l.2.1 y)) l.2.2)]))))
def ad1:Cn 254 [tO,tR,tR]:=cn fun(l:BO3) (x y:BR)=>lf (cL l∧ok Rat 4 x∧ok Rat 4 y) [.d tR (aq (vlL (dec l) (ah x) (ah y)))] fun h=>by
 refine az xz (Vh l x y) ⟨0,?_⟩
 obtain⟨hl,hx,hy⟩:=h
 obtain⟨l,rfl,bl,nl⟩:=eg hl
 obtain⟨x,rfl,bx⟩:=aB hx
 obtain⟨y,rfl,b_y⟩:=aB hy
 unfold Vh vlL
 simp only[aO,Nat.reduceAdd,Nat.reduceLeDiff]
def UM(c d:BO3)(_k:KT):Option (List RV):=og (o2 c.1 d.1) (match(aC (ah c.1) (ah d.1))==0 with|true=>(og (o2 c.2.1 d.2.1) (some [RV.d .bool ((aC (ah c.2.1) (ah d.2.1))==0)]))|false=>some [RV.d .bool false])
def abs:Cn 249 [tO,tO]:=cn fun(c d:BO3)=>lf (cg c∧cg d) [.d .bool (ja (dec c) (dec d))] fun h=>by
 refine az xz (UM c d) ⟨0,?_⟩
 obtain⟨hc,hd⟩:=h
 obtain⟨c,rfl,bc,nc⟩:=cH hc
 obtain⟨d,rfl,bd,nd⟩:=cH hd
 unfold UM ja
 simp only[aO,Nat.reduceLeDiff,am]
 cases decide (c.1=d.1)<;>rfl
def UT(a b c d e:BR)(_k:KT):Option (List RV):=og (o1 e) (match eZ (ah e)with|true=>(og (o2 b (hid (rtB (ah e)))) (og (o2 a (hMu b (hid (rtB (ah e))))) (og (o2 d (hid (rtB (ah e)))) (og (o2 c (hMu d (hid (rtB (ah e))))) (og (decide (ok (Rat×Rat) 100000 (hAd a (hMu b (hid (rtB (ah e)))),hAd c (hMu d (hid (rtB (ah e))))))) (some [RV.d tP (hid (enc (atP (dec (hAd a (hMu b (hid (rtB (ah e)))),hAd c (hMu d (hid (rtB (ah e)))))))))]))))))|false=>some [RV.d tP (a,(b,(c,(d,e))))])
def abP:Cn 180 [tR,tR,tR,tR,tR]:=cn fun(a b c d e:BR)=>lf (ok Rat 1000 a∧ok Rat 1000 b∧ok Rat 1000 c∧ok Rat 1000 d∧ok Rat 1000 e) [.d tP (enc (mj (ah a) (ah b) (ah c) (ah d) (ah e)))] fun h=>by
 refine az xz (UT a b c d e) ⟨0,?_⟩
 obtain⟨ha,hb,hc,hd,he⟩:=h
 obtain⟨a,rfl,ba⟩:=aB ha
 obtain⟨b,rfl,bb⟩:=aB hb
 obtain⟨c,rfl,bc⟩:=aB hc
 obtain⟨d,rfl,bd⟩:=aB hd
 obtain⟨e,rfl,be⟩:=aB he
 unfold UT mj
 simp only[aO,Nat.reduceLeDiff]
 cases hq:eZ e
 ·rfl
 ·rw[Lu hq]
  simp only[aO,Nat.reduceAdd,Nat.reduceLeDiff,GU]
  try rfl
def AY:List En:=enL abN::enL aco::enL ad1::enT abs::enL abP::xz
def ST(l m:BO3)(_k:KT):Option (List RV):=og (decide (cL l∧cL m)) (og (o2 l.2.2 m.2.1) (og (o2 m.2.2 l.2.1) (og (o2 (hMu l.2.2 m.2.1) (hMu m.2.2 l.2.1)) (og (o2 l.1 m.2.2) (og (o2 m.1 l.2.2) (og (o2 (hMu l.1 m.2.2) (hMu m.1 l.2.2)) (og (o1 (hid (aq (eF (dec l) (dec m))))) (match(aC (ah (hid (aq (eF (dec l) (dec m))))) 0) !=0 with|true=>(og (decide (gA (hSu (hMu l.2.2 m.2.1) (hMu m.2.2 l.2.1)) (hid (aq (eF (dec l) (dec m)))))) (og (decide (gA (hSu (hMu l.1 m.2.2) (hMu m.1 l.2.2)) (hid (aq (eF (dec l) (dec m)))))) (og (decide (ok (Rat×Rat) 100000 (hDi (hSu (hMu l.2.2 m.2.1) (hMu m.2.2 l.2.1)) (hid (aq (eF (dec l) (dec m)))),hDi (hSu (hMu l.1 m.2.2) (hMu m.1 l.2.2)) (hid (aq (eF (dec l) (dec m))))))) (some [RV.d (.sl tP) ([hid (enc (atP (dec (hDi (hSu (hMu l.2.2 m.2.1) (hMu m.2.2 l.2.1)) (hid (aq (eF (dec l) (dec m)))),hDi (hSu (hMu l.1 m.2.2) (hMu m.1 l.2.2)) (hid (aq (eF (dec l) (dec m))))))))]),RV.d ai2 0]))))|false=>(og (o1 (hSu (hMu l.2.2 m.2.1) (hMu m.2.2 l.2.1))) (match(aC (ah (hSu (hMu l.2.2 m.2.1) (hMu m.2.2 l.2.1))) 0)==0 with|true=>(og (o1 (hSu (hMu l.1 m.2.2) (hMu m.1 l.2.2))) (match(aC (ah (hSu (hMu l.1 m.2.2) (hMu m.1 l.2.2))) 0)==0 with|true=>some [RV.d (.sl tP) ([]),RV.d ai2 10]|false=>some [RV.d (.sl tP) ([]),RV.d ai2 0]))|false=>some [RV.d (.sl tP) ([]),RV.d ai2 0]))))))))))
def Us:Cn 149 [tO,tO]:=cn fun(l m:BO3)=>lf (cL l∧cL m) [.d (.sl tP) ((o9 (dec l) (dec m)).map enc),.d ai2 (Om (dec l) (dec m))] fun h=>by
 refine az AY (ST l m) ⟨0,?_⟩
 obtain⟨hl,hm⟩:=h
 obtain⟨l,rfl,bl,nl⟩:=eg hl
 obtain⟨m,rfl,bm,nm⟩:=eg hm
 have ol:=afZ (ku (l:=l) nl)
 have om:=afZ (ku (l:=m) nm)
 have bc:Bd (eF l m) 49:=inferInstanceAs (Bd (l.1*m.2.1-m.1*l.2.1) _)
 have e1:l.2.2*m.2.1-m.2.2*l.2.1=mv l m:=rfl
 have e2:l.1*m.2.2-m.1*l.2.2=mO l m:=rfl
 unfold ST o9 Om
 simp only[aO,Nat.reduceAdd,Nat.reduceLeDiff,am,aU,ol,om]
 by_cases h0:eF l m=0
 ·simp only[afZ h0,e1,e2,Bool.not_true]
  cases decide (mv l m=0)<;>cases decide (mO l m=0)<;>rfl
 ·simp only[aO,Nat.reduceAdd,Nat.reduceLeDiff,h0,ne_eq,ahp,Bool.not_false,GU]
  rfl
def Sx(l c:BO3)(_k:KT):Option (List RV):=og (decide (cL l∧ok Rat 4 c.1∧ok Rat 4 c.2.1)) (og (decide (cL l)) (og (o2 (hid (aq (cA (dec l)))) c.2.2) (og (o2 (hid (aq (vlL (dec l) (ah c.1) (ah c.2.1)))) (hid (aq (vlL (dec l) (ah c.1) (ah c.2.1))))) (og (o2 (hMu (hid (aq (cA (dec l)))) c.2.2) (hMu (hid (aq (vlL (dec l) (ah c.1) (ah c.2.1)))) (hid (aq (vlL (dec l) (ah c.1) (ah c.2.1)))))) (some [RV.d tR (hSu (hMu (hid (aq (cA (dec l)))) c.2.2) (hMu (hid (aq (vlL (dec l) (ah c.1) (ah c.2.1)))) (hid (aq (vlL (dec l) (ah c.1) (ah c.2.1))))))])))))
def acf:Cn 251 [tO,tO]:=cn fun(l c:BO3)=>lf (cL l∧cg c) [.d tR (aq (jE (dec l) (dec c)))] fun h=>by
 refine az AY (Sx l c) ⟨0,?_⟩
 obtain⟨hl,hc⟩:=h
 obtain⟨l,rfl,bl,nl⟩:=eg hl
 obtain⟨c,rfl,bc,nc⟩:=cH hc
 have ol:=afZ (ku (l:=l) nl)
 have bv:Bd (vlL l c.1 c.2.1) 97:=inferInstanceAs (Bd (l.1*c.1+l.2.1*c.2.1-l.2.2) _)
 have bn:Bd (cA l) 49:=inferInstanceAs (Bd (l.1*l.1+l.2.1*l.2.1) _)
 unfold Sx jE
 simp only[aO,Nat.reduceAdd,Nat.reduceLeDiff,ol]
def Tt(c d:BO3)(_k:KT):Option (List RV):=og (decide (cg c∧cg d)) (match ja (dec c) (dec d)with|true=>some [RV.d tO (((false,[]),(false,[])),(((false,[]),(false,[])),((false,[]),(false,[])))),RV.d ai2 6]|false=>(og (decide (aF (2:Int))) (og (o2 c.1 c.1) (og (o2 c.2.1 c.2.1) (og (o2 (hMu c.1 c.1) (hMu c.2.1 c.2.1)) (og (o2 (hAd (hMu c.1 c.1) (hMu c.2.1 c.2.1)) c.2.2) (og (o2 d.1 d.1) (og (o2 d.2.1 d.2.1) (og (o2 (hMu d.1 d.1) (hMu d.2.1 d.2.1)) (og (o2 (hAd (hMu d.1 d.1) (hMu d.2.1 d.2.1)) d.2.2) (og (o2 d.1 c.1) (og (o2 (hid (aq ((2:Int):Rat))) (hSu d.1 c.1)) (og (o2 d.2.1 c.2.1) (og (o2 (hid (aq ((2:Int):Rat))) (hSu d.2.1 c.2.1)) (og (o2 (hSu (hAd (hMu d.1 d.1) (hMu d.2.1 d.2.1)) d.2.2) (hSu (hAd (hMu c.1 c.1) (hMu c.2.1 c.2.1)) c.2.2)) (some [RV.d tO (hMu (hid (aq ((2:Int):Rat))) (hSu d.1 c.1),(hMu (hid (aq ((2:Int):Rat))) (hSu d.2.1 c.2.1),hSu (hSu (hAd (hMu d.1 d.1) (hMu d.2.1 d.2.1)) d.2.2) (hSu (hAd (hMu c.1 c.1) (hMu c.2.1 c.2.1)) c.2.2))),RV.d ai2 0]))))))))))))))))
def adU:Cn 250 [tO,tO]:=cn fun(c d:BO3)=>lf (cg c∧cg d) [.d tO (sT (dec c) (dec d)),.d ai2 (P9 (dec c) (dec d))] fun h=>by
 refine az AY (Tt c d) ⟨0,?_⟩
 obtain⟨hc,hd⟩:=h
 obtain⟨c,rfl,bc,nc⟩:=cH hc
 obtain⟨d,rfl,bd,nd⟩:=cH hd
 have oc:=afZ (gF (c:=c) nc)
 have od:=afZ (gF (c:=d) nd)
 have i2:decide (aF 2)=true:=by decide
 have b2:Bd ((2:Int):Rat) 3:=cO (by decide)
 unfold Tt sT P9
 simp only[aO,Nat.reduceAdd,Nat.reduceLeDiff,oc,od,i2]
 cases ja c d
 ·rfl
 ·rfl
def Vl(c:BO3)(_k:KT):Option (List RV):=og (decide (aF (1:Int))) (og (decide (aF (0:Int))) (og (o1 (hid (aq ((1:Int):Rat)))) (og (decide (ok Rat 1000 c.1∧ok Rat 1000 (hNe (hid (aq ((1:Int):Rat))))∧ok Rat 1000 c.2.1∧ok Rat 1000 (hid (aq ((0:Int):Rat)))∧ok Rat 1000 c.2.2)) (og (decide (ok Rat 1000 c.1∧ok Rat 1000 (hid (aq ((1:Int):Rat)))∧ok Rat 1000 c.2.1∧ok Rat 1000 (hid (aq ((0:Int):Rat)))∧ok Rat 1000 c.2.2)) (some [RV.d tP (hid (enc (mj (ah c.1) (ah (hNe (hid (aq ((1:Int):Rat))))) (ah c.2.1) (ah (hid (aq ((0:Int):Rat)))) (ah c.2.2)))),RV.d tP (hid (enc (mj (ah c.1) (ah (hid (aq ((1:Int):Rat)))) (ah c.2.1) (ah (hid (aq ((0:Int):Rat)))) (ah c.2.2))))])))))
def UE:Cn 81 [tO]:=cn fun(c:BO3)=>lf (cg c) [.d tP (enc (ky (dec c))),.d tP (enc (kx (dec c)))] fun h=>by
 refine az AY (Vl c) ⟨0,?_⟩
 have hc:=h
 obtain⟨c,rfl,bc,nc⟩:=cH hc
 have b0:Bd ((0:Int):Rat) 3:=cO (by decide)
 have b1:Bd ((1:Int):Rat) 3:=cO (by decide)
 have i0:decide (aF 0)=true:=by decide
 have i1:decide (aF 1)=true:=by decide
 unfold Vl ky kx
 simp only[aO,Nat.reduceLeDiff,i0,i1]
 rfl
def H6:List En:=enL Us::enL acf::enL adU::enL UE::AY
def ad4:Ctx:=CX (ens H6) []
def Vo(l c:BO3)(_k:KT):Option (List RV):=let y1:=hid (aq (jE (dec l) (dec c)));let y2:=hid (aq (vlL (dec l) (ah c.1) (ah c.2.1)));let y3:=hid (aq (cA (dec l)));let y4:=hMu (hDi y2 y3) l.1;let y5:=hMu (hDi y2 y3) l.2.1;let y6:=hDi (hNe l.1) y3;let y7:=hNe (hDi l.2.1 y3);let y8:=ah (hSu c.2.1 y5);let y9:=enc (mj (ah (hSu c.1 y4)) (ah y7) y8 (ah (hNe y6)) (ah y1));let y10:=enc (mj (ah (hSu c.1 y4)) (ah (hDi l.2.1 y3)) y8 (ah y6) (ah y1));og (decide (cL l∧cg c)) (og (decide (cL l)) (og (o1 y1) (match decide ((aC (ah y1) 0)<0)with|true=>some [RV.new 37 tP []]|false=>(og (decide (cL l∧ok Rat 4 c.1∧ok Rat 4 c.2.1)) (og (decide (gA y2 y3)) (og (o2 (hDi y2 y3) l.1) (og (o2 c.1 y4) (og (o2 (hDi y2 y3) l.2.1) (og (o2 c.2.1 y5) (og (o1 y1) (match(aC (ah y1) 0)==0 with|true=>(og (decide (ok (Rat×Rat) 100000 (hSu c.1 y4,hSu c.2.1 y5))) (some [RV.new 37 tP ([hid (enc (atP (dec (hSu c.1 y4,hSu c.2.1 y5))))])]))|false=>(og (decide (gA l.2.1 y3)) (og (o1 l.1) (og (decide (gA (hNe l.1) y3)) (og (o1 (hDi l.2.1 y3)) (og (o1 y6) (og (decide (ok Rat 1000 (hSu c.1 y4)∧ok Rat 1000 y7∧ok Rat 1000 (hSu c.2.1 y5)∧ok Rat 1000 (hNe y6)∧ok Rat 1000 y1)) (og (decide (ok Rat 1000 (hSu c.1 y4)∧ok Rat 1000 (hDi l.2.1 y3)∧ok Rat 1000 (hSu c.2.1 y5)∧ok Rat 1000 y6∧ok Rat 1000 y1)) (og (decide (okP 4000 (hid y9)∧okP 4000 (hid y10))) (match decide ((bZ (dec (hid y9)) (dec (hid y10)))>0)with|true=>some [RV.new 37 tP ([hid y10,hid y9])]|false=>some [RV.new 37 tP ([hid y9,hid y10])]))))))))))))))))))))
theorem adL(l c:BO3):RS ad4 148 [.d tO l,.d tO c] (Vo l c):=rsX
def Rz:Cn 148 [tO,tO]:=cn fun(l c:BO3)=>lf (cL l∧cg c) [.d (.sl tP) ((wc (dec l) (dec c)).map enc)] fun h=>by
 refine Con.new_d (et:=37) (cJ H6 (adL _ _ ⟨0,?_⟩))
 obtain⟨hl,hc⟩:=h
 obtain⟨l,rfl,bl,nl⟩:=eg hl
 obtain⟨c,rfl,bc,nc⟩:=cH hc
 have ol:=afZ (ku (l:=l) nl)
 have oc:=afZ (gF (c:=c) nc)
 have hn:=mR nl
 have bv:Bd (vlL l c.1 c.2.1) 97:=inferInstanceAs (Bd (l.1*c.1+l.2.1*c.2.1-l.2.2) _)
 have bn:Bd (cA l) 49:=inferInstanceAs (Bd (l.1*l.1+l.2.1*l.2.1) _)
 have e1:c.1-vlL l c.1 c.2.1/cA l*l.1=ftX l c:=rfl
 have e2:c.2.1-vlL l c.1 c.2.1/cA l*l.2.1=ftY l c:=rfl
 obtain⟨f1,f2,_,_⟩:=uM (l:=l) (c:=c)
 unfold Vo wc
 simp only[aO,Nat.reduceAdd,Nat.reduceLeDiff,am,au,ol,oc,hn,ne_eq,ahp,e1,e2,GU]
 by_cases h0:jE l c<0
 ·simp only[afZ h0]
  rfl
 ·simp only[af1 h0]
  by_cases h1:jE l c=0
  ·simp only[afZ h1]
   rfl
  ·have hp:=KE h0 h1
   obtain⟨p1,p2⟩:=XG (c:=c) nl (show 0≤jE l c by grind)
   obtain⟨q1,q2⟩:=Yw (l:=l) (c:=c)
   have g1:mj (ftX l c) (-(l.2.1/cA l)) (ftY l c) (-(-l.1/cA l)) (jE l c)=un l c:=rfl
   have g2:mj (ftX l c) (l.2.1/cA l) (ftY l c) (-l.1/cA l) (jE l c)=uP l c:=rfl
   simp only[af1 h1,aO,Nat.reduceLeDiff,aI,g1,g2]
   cases decide (bZ (un l c) (uP l c)>0)<;>rfl
def ab7:List En:=enL Rz::H6
def SY(c d:BO3)(_k:KT):Option (List RV):=og (decide (cg c∧cg d)) (match ja (dec c) (dec d)with|true=>(og (o2 c.2.2 d.2.2) (match(aC (ah c.2.2) (ah d.2.2))==0 with|true=>some [RV.d (.sl tP) ([]),RV.d ai2 10]|false=>some [RV.d (.sl tP) ([]),RV.d ai2 0]))|false=>(og (decide (cg c∧cg d)) (og (decide (cL (hid (sT (dec c) (dec d)))∧cg c)) (some [RV.d (.sl tP) ((wc (dec (hid (sT (dec c) (dec d)))) (dec c)).map enc),RV.d ai2 0]))))
def aay:Cn 147 [tO,tO]:=cn fun(c d:BO3)=>lf (cg c∧cg d) [.d (.sl tP) ((XK (dec c) (dec d)).map enc),.d ai2 (YO (dec c) (dec d))] fun h=>by
 refine az ab7 (SY c d) ⟨0,?_⟩
 obtain⟨hc,hd⟩:=h
 obtain⟨c,rfl,bc,nc⟩:=cH hc
 obtain⟨d,rfl,bd,nd⟩:=cH hd
 have oc:=afZ (gF (c:=c) nc)
 have od:=afZ (gF (c:=d) nd)
 unfold SY XK YO
 simp only[aO,Nat.reduceLeDiff,am,oc,od]
 cases hc:ja c d
 ·have ol:cL (enc (oe c d)):=IF hc
  have er:sT c d=enc (oe c d):=by unfold sT;rw[hc];rfl
  simp only[er,dT ol,aO]
  try rfl
 ·cases decide (c.2.2=d.2.2)<;>rfl
end
section
def sZ(x u y v k:Rat):Pt:=mkP (mkR x u k) (mkR y v k)
def ftL(l c:Ln):Rat×Rat:=(ftX l c,ftY l c)
def zG(l c:Ln):Rat:=(ftX l c-c.1)*(ftX l c-c.1)+(ftY l c-c.2.1)*(ftY l c-c.2.1)
def fA(l c:Ln):Rat:=(c.2.2-zG l c)/cA l
def G6(l:Ln):Bool:=decide (l.2.1<0)||(decide (l.2.1=0)&&decide (-l.1<0))
def rT(l:Ln):Rat:=bif G6 l then-l.2.1 else l.2.1
def rH(l:Ln):Rat:=bif G6 l then- -l.1 else-l.1
def lcM(l c:Ln):Pt:=sZ (ftX l c) (-rT l) (ftY l c) (-rH l) (fA l c)
def lcN(l c:Ln):Pt:=sZ (ftX l c) (rT l) (ftY l c) (rH l) (fA l c)
def kI(l c:Ln):List Pt:=bif decide (fA l c<0)then []else bif decide (fA l c=0)then [atP (ftL l c)]else [lcM l c,lcN l c]
def MY(l m:Ln):Int:=bif !decide (eF l m=0)then 0 else bif t4 l m then 10 else 0
def BC(c d:Ln):List Pt:=bif ja c d then []else kI (oe c d) c
def Rb(c d:Ln):Int:=bif sY c d then 10 else 0
def iN(a b:Cv):List Pt:=bif a.1&&b.1 then BC (ciC a) (ciC b)else bif a.1 then kI (lnC b) (ciC a)else bif b.1 then kI (lnC a) (ciC b)else o9 (lnC a) (lnC b)
def aax(a b:Cv):Int:=bif a.1&&b.1 then Rb (ciC a) (ciC b)else bif a.1 then 0 else bif b.1 then 0 else MY (lnC a) (lnC b)
theorem QV(l c:Ln):eT l (c.1,c.2.1)=ftL l c:=rfl
theorem MH{x u y v k:Rat}[h:Nn k]:Rpd (sZ x u y v k):=UL pF pF (nN _ _ _ _ _)
section
variable {l c:Ln}
theorem WF [BdL l]:Bd (rT l) 12∧Bd (rH l) 12:=by
 unfold rT rH
 cases G6 l
 ·exact⟨(inferInstance:Bd l.2.1 12),(inferInstance:Bd (-l.1) 12)⟩
 ·exact⟨(inferInstance:Bd (-l.2.1) 12),(inferInstance:Bd (- -l.1) 12)⟩
end
theorem IO{x u y v k:Rat}{a b c:Nat}(h1:Bd x a)(h2:Bd u b)(h3:Bd y a)(h4:Bd v b)(h5:Bd k c){n:Nat}(hn:a+(b+c)+1≤n):Bd (sZ x u y v k) n:=by
 have z:bdR n 0:=a9 ki.le (by omega)
 have i1:Bd (mkR x u k) (a+(b+c)+1):=inferInstance
 have i2:Bd (mkR y v k) (a+(b+c)+1):=inferInstance
 have f1:=i1.mono hn
 have f2:=i2.mono hn
 refine⟨?_⟩
 unfold sZ mkP rdP
 dsimp only
 refine⟨f1.le.1,f1.le.2.1,f2.le.1,f2.le.2.1,?_⟩
 cases decide ((mkR x u k).2.1=0)&&decide ((mkR y v k).2.1=0)
 ·cases decide ((mkR x u k).2.1=0)
  ·exact f1.le.2.2
  ·exact f2.le.2.2
 ·exact z
section
variable {l c:Ln}
theorem Hx [BdL l][h:BdC c]:Bd (fA l c) 1000:=by
 obtain⟨f1,f2,_,_⟩:=uM (l:=l) (c:=c)
 have hx:=h.x
 have hy:=h.y
 have hq:=h.q
 have i1:Bd (cA l) 49:=inferInstanceAs (Bd (l.1*l.1+l.2.1*l.2.1) _)
 have i2:Bd (zG l c) 673:=(inferInstance:Bd ((ftX l c-c.1)*(ftX l c-c.1)+(ftY l c-c.2.1)*(ftY l c-c.2.1)) _).mono (by decide)
 exact(inferInstance:Bd ((c.2.2-zG l c)/cA l) _).mono (by decide)
theorem DK [BdL l][h:BdC c]:Bd (ftL l c) 163:=by
 obtain⟨f1,f2,_,_⟩:=uM (l:=l) (c:=c)
 exact(inferInstance:Bd ((ftX l c,ftY l c):Rat×Rat) _).mono (by decide)
theorem YX [BdL l][BdC c]:Bd (lcM l c) 1200∧Bd (lcN l c) 1200:=by
 obtain⟨f1,f2,_,_⟩:=uM (l:=l) (c:=c)
 obtain⟨d1,d2⟩:=WF (l:=l)
 have k:=Hx (l:=l) (c:=c)
 have n1:Bd (-rT l) 12:=inferInstance
 have n2:Bd (-rH l) 12:=inferInstance
 exact⟨IO f1 n1 f2 n2 k (by decide),IO f1 d1 f2 d2 k (by decide)⟩
theorem tH [BdL l][BdC c]:(kI l c).length≤2∧∀p∈kI l c,Bd p 1200∧Rpd p:=by
 unfold kI
 by_cases h0:fA l c<0
 ·rw[afZ h0]
  exact⟨by simp,fun p hp=>by cases hp⟩
 ·rw[af1 h0]
  by_cases h1:fA l c=0
  ·rw[afZ h1]
   have:=DK (l:=l) (c:=c)
   refine⟨by simp,fun p hp=>?_⟩
   have:p=atP (ftL l c):=by simpa using hp
   rw[this]
   exact⟨(inferInstance:Bd (atP (ftL l c)) _).mono (by decide),inferInstance⟩
  ·rw[af1 h1]
   obtain⟨q1,q2⟩:=YX (l:=l) (c:=c)
   have nn:Nn (fA l c):=⟨by grind⟩
   refine⟨by simp,fun p hp=>?_⟩
   have:p=lcM l c∨p=lcN l c:=by simpa using hp
   rcases this with e|e<;>rw[e]
   ·exact⟨q1,MH⟩
   ·exact⟨q2,MH⟩
end
end
theorem j9(q:Rat):(aC q 0== -1)=decide (q<0):=by
 unfold aC
 by_cases h:q<0
 ·rw[afZ h];rfl
 ·rw[af1 h]
  by_cases h':0<q
  ·rw[afZ h'];rfl
  ·rw[af1 h'];rfl
def pe:List En:=[⟨41,eW,dk⟩,⟨99,fM,dS⟩,⟨107,gS,eU⟩,⟨106,gi,dY⟩,⟨108,fO,dP⟩,⟨73,iY,fx⟩,⟨109,jN,f0⟩,⟨305,uk,pP⟩,enL Vm,enL UH,enL AT,enL M7,enL IM,enL Ob,enL HX]
def acE:Cn 326 [tR,tR]:=cn fun(a b:BR)=>lf (okR a∧okR b) [.d tR (aq (ah a+ah b))] fun h=>iW [RV.d tR (hAd a b)] (c7 pe) h
def acH:Cn 279 [tR,tR]:=cn fun(a b:BR)=>lf (okR a∧okR b) [.d tR (aq (ah a-ah b))] fun h=>iW [RV.d tR (hSu a b)] (c7 pe) h
def Zo:Cn 280 [tR,tR]:=cn fun(a b:BR)=>lf (okR a∧okR b) [.d tR (aq (ah a*ah b))] fun h=>iW [RV.d tR (hMu a b)] (c7 pe) h
def ac0:Cn 281 [tR,tR]:=cn fun(a b:BR)=>lf (gA a b) [.d tR (aq (ah a/ah b))] fun h=>iW [RV.d tR (hDi a b)] (c7 pe) h
def TJ(a b:BR)(_k:KT):Option (List RV):=match decide (okR a∧okR b)with|true=>some [RV.d .bool ((aC (ah a) (ah b))==0)]|false=>none
def acs:Cn 274 [tR,tR]:=cn fun(a b:BR)=>lf (okR a∧okR b) [.d .bool (decide (ah a=ah b))] fun h=>by
 refine az pe (TJ a b) ⟨0,?_⟩
 unfold TJ
 rw[dT h]
 simp only[am]
def SD(x u y v k:BR)(_k:KT):Option (List RV):=og (decide (ok Rat 100000 x∧ok Rat 100000 u∧ok Rat 100000 k∧0≤ah k)) (og (decide (ok Rat 100000 y∧ok Rat 100000 v∧ok Rat 100000 k∧0≤ah k)) (og (decide (okT 15000 (hid (enc (mkR (ah x) (ah u) (ah k))))∧okT 15000 (hid (enc (mkR (ah y) (ah v) (ah k))))∧sR (dec (hid (enc (mkR (ah x) (ah u) (ah k))))) (dec (hid (enc (mkR (ah y) (ah v) (ah k))))))) (some [RV.d tP (hid (enc (mkP (dec (hid (enc (mkR (ah x) (ah u) (ah k))))) (dec (hid (enc (mkR (ah y) (ah v) (ah k))))))))])))
def aal:Cn 278 [tR,tR,tR,tR,tR]:=cn fun(x u y v k:BR)=>lf (ok Rat 1000 x∧ok Rat 1000 u∧ok Rat 1000 y∧ok Rat 1000 v∧ok Rat 1000 k∧0≤ah k) [.d tP (enc (sZ (ah x) (ah u) (ah y) (ah v) (ah k)))] fun h=>by
 refine az pe (SD x u y v k) ⟨0,?_⟩
 obtain⟨hx,hu,hy,hv,hk,h0⟩:=h
 obtain⟨x,rfl,bx⟩:=aB hx
 obtain⟨u,rfl,bu⟩:=aB hu
 obtain⟨y,rfl,b_y⟩:=aB hy
 obtain⟨v,rfl,bv⟩:=aB hv
 obtain⟨k,rfl,bk⟩:=aB hk
 have h0:0≤(dec (enc k):Rat):=h0
 rw[aA]at h0
 have nk:Nn k:=⟨h0⟩
 have n0:decide (0≤k)=true:=afZ nk.le
 have hm:decide (sR (mkR x u k) (mkR y v k))=true:=afZ (nN _ _ _ _ _)
 unfold SD sZ
 simp only[aO,Nat.reduceAdd,Nat.reduceLeDiff,aH,n0,hm]
 try rfl
def sA:List En:=enL acE::enL acH::enL Zo::enL ac0::enT acs::enL aal::pe
def RJ(l m:BO3)(_k:KT):Option (List RV):=og (o2 l.1 m.2.1) (og (o2 m.1 l.2.1) (og (o2 (hMu l.1 m.2.1) (hMu m.1 l.2.1)) (match decide (ah (hMu l.1 m.2.1)=ah (hMu m.1 l.2.1))with|true=>(og (o2 l.1 m.2.2) (og (o2 m.1 l.2.2) (og (o2 (hMu l.1 m.2.2) (hMu m.1 l.2.2)) (match decide (ah (hMu l.1 m.2.2)=ah (hMu m.1 l.2.2))with|true=>(og (o2 l.2.1 m.2.2) (og (o2 m.2.1 l.2.2) (og (o2 (hMu l.2.1 m.2.2) (hMu m.2.1 l.2.2)) (some [RV.d .bool (decide (ah (hMu l.2.1 m.2.2)=ah (hMu m.2.1 l.2.2)))]))))|false=>some [RV.d .bool false]))))|false=>some [RV.d .bool false])))
def abx:Cn 184 [tO,tO]:=cn fun(l m:BO3)=>lf (cL l∧cL m) [.d .bool (t4 (dec l) (dec m))] fun h=>by
 refine az sA (RJ l m) ⟨0,?_⟩
 obtain⟨hl,hm⟩:=h
 obtain⟨l,rfl,bl,nl⟩:=eg hl
 obtain⟨m,rfl,bm,nm⟩:=eg hm
 unfold RJ t4
 have c1:l.2.1*m.1=m.1*l.2.1:=ahM _ _
 have c2:l.2.2*m.1=m.1*l.2.2:=ahM _ _
 have c3:l.2.2*m.2.1=m.2.1*l.2.2:=ahM _ _
 simp only[aO,Nat.reduceAdd,Nat.reduceLeDiff,c1,c2,c3]
 cases decide (l.1*m.2.1=m.1*l.2.1)<;>cases decide (l.1*m.2.2=m.1*l.2.2)<;>rfl
def Vq(c d:BO3)(_k:KT):Option (List RV):=og (o2 c.1 d.1) (match decide (ah c.1=ah d.1)with|true=>(og (o2 c.2.1 d.2.1) (match decide (ah c.2.1=ah d.2.1)with|true=>(og (o2 c.2.2 d.2.2) (some [RV.d .bool (decide (ah c.2.2=ah d.2.2))]))|false=>some [RV.d .bool false]))|false=>some [RV.d .bool false])
def aaQ:Cn 183 [tO,tO]:=cn fun(c d:BO3)=>lf (cg c∧cg d) [.d .bool (sY (dec c) (dec d))] fun h=>by
 refine az sA (Vq c d) ⟨0,?_⟩
 obtain⟨hc,hd⟩:=h
 obtain⟨c,rfl,bc,nc⟩:=cH hc
 obtain⟨d,rfl,bd,nd⟩:=cH hd
 unfold Vq sY
 simp only[aO,Nat.reduceLeDiff]
 cases decide (c.1=d.1)<;>cases decide (c.2.1=d.2.1)<;>rfl
def R7(c d:BO3)(_k:KT):Option (List RV):=og (o2 c.1 d.1) (match(aC (ah c.1) (ah d.1))==0 with|true=>(og (o2 c.2.1 d.2.1) (some [RV.d .bool ((aC (ah c.2.1) (ah d.2.1))==0)]))|false=>some [RV.d .bool false])
def ZC:Cn 275 [tO,tO]:=cn fun(c d:BO3)=>lf (cg c∧cg d) [.d .bool (ja (dec c) (dec d))] fun h=>by
 refine az sA (R7 c d) ⟨0,?_⟩
 obtain⟨hc,hd⟩:=h
 obtain⟨c,rfl,bc,nc⟩:=cH hc
 obtain⟨d,rfl,bd,nd⟩:=cH hd
 unfold R7 ja
 simp only[aO,Nat.reduceLeDiff,am]
 cases decide (c.1=d.1)<;>rfl
def Ui(c:BO3)(_k:KT):Option (List RV):=og (o2 c.1 c.1) (og (o2 c.2.1 c.2.1) (og (o2 (hMu c.1 c.1) (hMu c.2.1 c.2.1)) (og (o2 (hAd (hMu c.1 c.1) (hMu c.2.1 c.2.1)) c.2.2) (some [RV.d tR (hSu (hAd (hMu c.1 c.1) (hMu c.2.1 c.2.1)) c.2.2)]))))
def adg:Cn 325 [tO]:=cn fun(c:BO3)=>lf (cg c) [.d tR (aq (pz (dec c)))] fun h=>by
 refine az sA (Ui c) ⟨0,?_⟩
 have hc:=h
 obtain⟨c,rfl,bc,nc⟩:=cH hc
 unfold Ui pz
 simp only[aO,Nat.reduceAdd,Nat.reduceLeDiff]
def TK(l c:BO3)(_k:KT):Option (List RV):=let y1:=hid (enc (eT (dec l) (dec (c.1,c.2.1))));let y2:=hSu (y1.2) c.2.1;let y3:=hMu (hSu (y1.1) c.1) (hSu (y1.1) c.1);let y4:=hAd y3 (hMu y2 y2);let y5:=hAd (hMu l.1 l.1) (hMu l.2.1 l.2.1);let y6:=gA (hSu c.2.2 y4) y5;let y7:=hDi (hSu c.2.2 y4) y5;let y8:Option (List RV):=match decide y6 with|true=>some [RV.d tR y7,RV.d tV y1]|false=>none;let y9:Option (List RV):=match decide (okR (hMu l.1 l.1)∧okR (hMu l.2.1 l.2.1))with|true=>y8|false=>none;let y10:Option (List RV):=match decide (okR l.2.1∧okR l.2.1)with|true=>y9|false=>none;og (decide (ok Ln 300 l∧ok (Rat×Rat) 200 (c.1,c.2.1)∧((dec l:Ln).1≠0∨(dec l:Ln).2.1≠0))) (og (o2 (y1.1) c.1) (og (o2 (y1.2) c.2.1) (og (o2 (hSu (y1.1) c.1) (hSu (y1.1) c.1)) (og (o2 y2 y2) (og (o2 y3 (hMu y2 y2)) (og (o2 c.2.2 y4) (cd (og (o2 l.1 l.1) (cd (og (o2 l.2.1 l.2.1) (cd (og (o2 (hMu l.1 l.1) (hMu l.2.1 l.2.1)) (cd (og (decide y6) (dup (.b .l .l) (some [RV.d tR y7,RV.d tV y1]))) y8)) y9)) y10)) (og (o2 l.1 l.1) y10))))))))
def aa9:Cn 277 [tO,tO]:=cn fun(l c:BO3)=>lf (cL l∧cg c) [.d tR (aq (fA (dec l) (dec c))),.d tV (enc (ftL (dec l) (dec c)))] fun h=>by
 refine az sA (TK l c) ⟨0,?_⟩
 obtain⟨hl,hc⟩:=h
 obtain⟨l,rfl,bl,nl⟩:=eg hl
 obtain⟨c,rfl,bc,nc⟩:=cH hc
 have ol:=afZ (ku (l:=l) nl)
 have bl:Bd l 63:=XX
 have bv:Bd ((c.1,c.2.1):Rat×Rat) 4:=inferInstance
 have hn:=mR nl
 have bn:Bd (cA l) 49:=inferInstanceAs (Bd (l.1*l.1+l.2.1*l.2.1) _)
 have bf:=DK (l:=l) (c:=c)
 have b1:Bd (ftL l c).1 163:=inferInstance
 have b2:Bd (ftL l c).2 163:=inferInstance
 have e1:l.1*l.1+l.2.1*l.2.1=cA l:=rfl
 unfold TK fA zG
 simp only[aO,Nat.reduceAdd,Nat.reduceLeDiff,GU,nl,QV,e1,hn,ne_eq,ahp]
 try rfl
def vM:List En:=enT abx::enT aaQ::enT ZC::enL adg::enL aa9::sA
def Tw(l m:BO3)(_k:KT):Option (List RV):=og (o2 l.1 m.2.1) (og (o2 m.1 l.2.1) (og (o2 (hMu l.1 m.2.1) (hMu m.1 l.2.1)) (og (o1 (hSu (hMu l.1 m.2.1) (hMu m.1 l.2.1))) (match(aC (ah (hSu (hMu l.1 m.2.1) (hMu m.1 l.2.1))) 0)==0 with|true=>(og (decide (cL l∧cL m)) (match t4 (dec l) (dec m)with|true=>some [RV.d (.sl tP) ([]),RV.d ai2 10]|false=>some [RV.d (.sl tP) ([]),RV.d ai2 0]))|false=>(og (o2 l.2.2 m.2.1) (og (o2 m.2.2 l.2.1) (og (o2 (hMu l.2.2 m.2.1) (hMu m.2.2 l.2.1)) (og (decide (gA (hSu (hMu l.2.2 m.2.1) (hMu m.2.2 l.2.1)) (hSu (hMu l.1 m.2.1) (hMu m.1 l.2.1)))) (og (o2 l.1 m.2.2) (og (o2 m.1 l.2.2) (og (o2 (hMu l.1 m.2.2) (hMu m.1 l.2.2)) (og (decide (gA (hSu (hMu l.1 m.2.2) (hMu m.1 l.2.2)) (hSu (hMu l.1 m.2.1) (hMu m.1 l.2.1)))) (og (decide (ok (Rat×Rat) 100000 (hDi (hSu (hMu l.2.2 m.2.1) (hMu m.2.2 l.2.1)) (hSu (hMu l.1 m.2.1) (hMu m.1 l.2.1)),hDi (hSu (hMu l.1 m.2.2) (hMu m.1 l.2.2)) (hSu (hMu l.1 m.2.1) (hMu m.1 l.2.1))))) (some [RV.d (.sl tP) ([hid (enc (atP (dec (hDi (hSu (hMu l.2.2 m.2.1) (hMu m.2.2 l.2.1)) (hSu (hMu l.1 m.2.1) (hMu m.1 l.2.1)),hDi (hSu (hMu l.1 m.2.2) (hMu m.1 l.2.2)) (hSu (hMu l.1 m.2.1) (hMu m.1 l.2.1))))))]),RV.d ai2 0]))))))))))))))
def aaW:Cn 187 [tO,tO]:=cn fun(l m:BO3)=>lf (cL l∧cL m) [.d (.sl tP) ((o9 (dec l) (dec m)).map enc),.d ai2 (MY (dec l) (dec m))] fun h=>by
 refine az vM (Tw l m) ⟨0,?_⟩
 obtain⟨hl,hm⟩:=h
 obtain⟨l,rfl,bl,nl⟩:=eg hl
 obtain⟨m,rfl,bm,nm⟩:=eg hm
 have ol:=afZ (ku (l:=l) nl)
 have om:=afZ (ku (l:=m) nm)
 have bc:Bd (eF l m) 49:=inferInstanceAs (Bd (l.1*m.2.1-m.1*l.2.1) _)
 have e0:l.1*m.2.1-m.1*l.2.1=eF l m:=rfl
 have e1:l.2.2*m.2.1-m.2.2*l.2.1=mv l m:=rfl
 have e2:l.1*m.2.2-m.1*l.2.2=mO l m:=rfl
 have bx:Bd (mv l m) 151:=inferInstanceAs (Bd (l.2.2*m.2.1-m.2.2*l.2.1) _)
 have b_:Bd (mO l m) 151:=inferInstanceAs (Bd (l.1*m.2.2-m.1*l.2.2) _)
 unfold Tw o9 MY
 simp only[aO,Nat.reduceAdd,Nat.reduceLeDiff,am,ol,om,e0,e1,e2]
 by_cases h0:eF l m=0
 ·simp only[afZ h0,Bool.not_true]
  cases t4 l m<;>rfl
 ·simp only[aO,Nat.reduceAdd,Nat.reduceLeDiff,h0,ne_eq,ahp,Bool.not_false,GU]
  rfl
def SG(c d:BO3)(_k:KT):Option (List RV):=og (decide (cg c∧cg d)) (match ja (dec c) (dec d)with|true=>some [RV.d tO (((false,[]),(false,[])),(((false,[]),(false,[])),((false,[]),(false,[])))),RV.d ai2 6]|false=>(og (decide (aF (2:Int))) (og (o2 d.1 c.1) (og (o2 (hid (aq ((2:Int):Rat))) (hSu d.1 c.1)) (og (o2 d.2.1 c.2.1) (og (o2 (hid (aq ((2:Int):Rat))) (hSu d.2.1 c.2.1)) (og (decide (cg d)) (og (decide (cg c)) (og (o2 (hid (aq (pz (dec d)))) (hid (aq (pz (dec c))))) (some [RV.d tO (hMu (hid (aq ((2:Int):Rat))) (hSu d.1 c.1),(hMu (hid (aq ((2:Int):Rat))) (hSu d.2.1 c.2.1),hSu (hid (aq (pz (dec d)))) (hid (aq (pz (dec c)))))),RV.d ai2 0]))))))))))
def Zp:Cn 276 [tO,tO]:=cn fun(c d:BO3)=>lf (cg c∧cg d) [.d tO (sT (dec c) (dec d)),.d ai2 (P9 (dec c) (dec d))] fun h=>by
 refine az vM (SG c d) ⟨0,?_⟩
 obtain⟨hc,hd⟩:=h
 obtain⟨c,rfl,bc,nc⟩:=cH hc
 obtain⟨d,rfl,bd,nd⟩:=cH hd
 have oc:=afZ (gF (c:=c) nc)
 have od:=afZ (gF (c:=d) nd)
 have i2:decide (aF 2)=true:=by decide
 have b2:Bd ((2:Int):Rat) 3:=cO (by decide)
 have f1:Bd (pz c) 31:=(inferInstance:Bd (c.1*c.1+c.2.1*c.2.1-c.2.2) _).mono (by decide)
 have f2:Bd (pz d) 31:=(inferInstance:Bd (d.1*d.1+d.2.1*d.2.1-d.2.2) _).mono (by decide)
 unfold SG sT P9
 simp only[aO,Nat.reduceAdd,Nat.reduceLeDiff,oc,od,i2]
 cases ja c d
 ·rfl
 ·rfl
def ad6:Ctx:=CX (ens vM) []
def Vg(l c:BO3)(_k:KT):Option (List RV):=let y1:=hid (aq (fA (dec l) (dec c)));let y2:=hid (enc (ftL (dec l) (dec c)));let y3:=aC (ah l.2.1) 0;let y4:=hNe (hNe (hNe l.1));let y5:=enc (sZ (ah (y2.1)) (ah (hNe l.2.1)) (ah (y2.2)) (ah (hNe (hNe l.1))) (ah y1));let y6:Option (List RV):=match decide (okR l.2.1)with|true=>(og (o1 (hNe l.1)) (og (o1 (hNe l.2.1)) (og (o1 (hNe (hNe l.1))) (og (decide (ok Rat 1000 (y2.1)∧ok Rat 1000 (hNe (hNe l.2.1))∧ok Rat 1000 (y2.2)∧ok Rat 1000 y4∧ok Rat 1000 y1∧0≤ah y1)) (og (decide (ok Rat 1000 (y2.1)∧ok Rat 1000 (hNe l.2.1)∧ok Rat 1000 (y2.2)∧ok Rat 1000 (hNe (hNe l.1))∧ok Rat 1000 y1∧0≤ah y1)) (some [RV.new 37 tP ([hid (enc (sZ (ah (y2.1)) (ah (hNe (hNe l.2.1))) (ah (y2.2)) (ah y4) (ah y1))),hid y5])]))))))|false=>none;let y7:Option (List RV):=match decide (okR l.2.1)with|true=>(og (o1 (hNe l.1)) (og (decide (ok Rat 1000 (y2.1)∧ok Rat 1000 (hNe l.2.1)∧ok Rat 1000 (y2.2)∧ok Rat 1000 (hNe (hNe l.1))∧ok Rat 1000 y1∧0≤ah y1)) (og (decide (ok Rat 1000 (y2.1)∧ok Rat 1000 l.2.1∧ok Rat 1000 (y2.2)∧ok Rat 1000 (hNe l.1)∧ok Rat 1000 y1∧0≤ah y1)) (some [RV.new 37 tP ([hid y5,hid (enc (sZ (ah (y2.1)) (ah l.2.1) (ah (y2.2)) (ah (hNe l.1)) (ah y1)))])]))))|false=>none;og (decide (cL l∧cg c)) (og (o1 y1) (match(aC (ah y1) 0)==(-1)with|true=>some [RV.new 37 tP []]|false=>(match(aC (ah y1) 0)==0 with|true=>(og (decide (ok (Rat×Rat) 100000 y2)) (some [RV.new 37 tP ([hid (enc (atP (dec y2)))])]))|false=>(og (o1 l.1) (og (o1 l.2.1) (match decide (y3<0)with|true=>y6|false=>(match y3==0 with|true=>(og (o1 (hNe l.1)) (match decide ((aC (ah (hNe l.1)) 0)<0)with|true=>y6|false=>y7))|false=>y7)))))))
theorem act(l c:BO3):RS ad6 186 [.d tO l,.d tO c] (Vg l c):=rsX
def ac5:Cn 186 [tO,tO]:=cn fun(l c:BO3)=>lf (cL l∧cg c) [.d (.sl tP) ((kI (dec l) (dec c)).map enc)] fun h=>by
 refine Con.new_d (et:=37) (cJ vM (act _ _ ⟨0,?_⟩))
 obtain⟨hl,hc⟩:=h
 obtain⟨l,rfl,bl,nl⟩:=eg hl
 obtain⟨c,rfl,bc,nc⟩:=cH hc
 have ol:=afZ (ku (l:=l) nl)
 have oc:=afZ (gF (c:=c) nc)
 have bf:=DK (l:=l) (c:=c)
 have bk:=Hx (l:=l) (c:=c)
 have b1:Bd (ftL l c).1 163:=inferInstance
 have b2:Bd (ftL l c).2 163:=inferInstance
 unfold Vg kI
 simp only[aO,Nat.reduceLeDiff,am,au,j9,ol,oc]
 by_cases h0:fA l c<0
 ·simp only[afZ h0]
  rfl
 ·simp only[af1 h0]
  by_cases h1:fA l c=0
  ·simp only[afZ h1]
   rfl
  ·have hp:decide (0≤fA l c)=true:=afZ (by grind)
   simp only[af1 h1,hp,aO]
   unfold lcM lcN rT rH G6
   cases decide (l.2.1<0)<;>cases decide (l.2.1=0)<;>cases decide (-l.1<0)<;>rfl
def Mf:List En:=enL aaW::enL Zp::enL ac5::vM
def Tl(c d:BO3)(_k:KT):Option (List RV):=og (decide (cg c∧cg d)) (match sY (dec c) (dec d)with|true=>some [RV.d (.sl tP) ([]),RV.d ai2 10]|false=>(og (decide (cg c∧cg d)) (match ja (dec c) (dec d)with|true=>some [RV.d (.sl tP) ([]),RV.d ai2 0]|false=>(og (decide (cg c∧cg d)) (og (decide (cL (hid (sT (dec c) (dec d)))∧cg c)) (some [RV.d (.sl tP) ((kI (dec (hid (sT (dec c) (dec d)))) (dec c)).map enc),RV.d ai2 0]))))))
def aa1:Cn 185 [tO,tO]:=cn fun(c d:BO3)=>lf (cg c∧cg d) [.d (.sl tP) ((BC (dec c) (dec d)).map enc),.d ai2 (Rb (dec c) (dec d))] fun h=>by
 refine az Mf (Tl c d) ⟨0,?_⟩
 obtain⟨hc,hd⟩:=h
 obtain⟨c,rfl,bc,nc⟩:=cH hc
 obtain⟨d,rfl,bd,nd⟩:=cH hd
 have oc:=afZ (gF (c:=c) nc)
 have od:=afZ (gF (c:=d) nd)
 unfold Tl BC Rb
 simp only[aO,oc,od]
 cases hs:sY c d
 ·cases hc:ja c d
  ·have ol:cL (enc (oe c d)):=IF hc
   have er:sT c d=enc (oe c d):=by unfold sT;rw[hc];rfl
   simp only[er,dT ol,aO]
   try rfl
  ·rfl
 ·have hc:ja c d=true:=by
   unfold sY at hs
   unfold ja
   cases h1:decide (c.1=d.1)
   ·rw[h1]at hs;cases hs
   ·cases h2:decide (c.2.1=d.2.1)
    ·rw[h1,h2]at hs;cases hs
    ·rfl
  rw[hc]
  rfl
def J0:List En:=enL aa1::Mf
def SO(a b:BCU)(_k:KT):Option (List RV):=match a.1 with|true=>(match b.1 with|true=>(og (decide (cg a.2.2.1∧cg b.2.2.1)) (some [RV.d (.sl tP) ((BC (dec a.2.2.1) (dec b.2.2.1)).map enc),RV.d ai2 (Rb (dec a.2.2.1) (dec b.2.2.1))]))|false=>(match a.1 with|true=>(og (decide (cL b.2.1∧cg a.2.2.1)) (some [RV.d (.sl tP) ((kI (dec b.2.1) (dec a.2.2.1)).map enc),RV.d ai2 0]))|false=>(match b.1 with|true=>(og (decide (cL a.2.1∧cg b.2.2.1)) (some [RV.d (.sl tP) ((kI (dec a.2.1) (dec b.2.2.1)).map enc),RV.d ai2 0]))|false=>(og (decide (cL a.2.1∧cL b.2.1)) (some [RV.d (.sl tP) ((o9 (dec a.2.1) (dec b.2.1)).map enc),RV.d ai2 (MY (dec a.2.1) (dec b.2.1))])))))|false=>(match a.1 with|true=>(og (decide (cL b.2.1∧cg a.2.2.1)) (some [RV.d (.sl tP) ((kI (dec b.2.1) (dec a.2.2.1)).map enc),RV.d ai2 0]))|false=>(match b.1 with|true=>(og (decide (cL a.2.1∧cg b.2.2.1)) (some [RV.d (.sl tP) ((kI (dec a.2.1) (dec b.2.2.1)).map enc),RV.d ai2 0]))|false=>(og (decide (cL a.2.1∧cL b.2.1)) (some [RV.d (.sl tP) ((o9 (dec a.2.1) (dec b.2.1)).map enc),RV.d ai2 (MY (dec a.2.1) (dec b.2.1))]))))
def TZ:Cn 85 [tCU,tCU]:=cn fun(a b:BCU)=>lf (gY a b) [.d (.sl tP) ((iN (dC a) (dC b)).map enc),.d ai2 (aax (dC a) (dC b))] fun h=>by
 refine az J0 (SO a b) ⟨0,?_⟩
 obtain⟨⟨a1,a2⟩,b1,b2⟩:=h
 unfold SO iN aax
 obtain⟨aa,al,ac,aw,af,at_⟩:=a
 obtain⟨ba,bl,bc,bw,bf,bt⟩:=b
 cases aa<;>cases ba
 ·have h1:=a2 rfl
  have h2:=b2 rfl
  simp only[dT (show cL al∧cL bl from⟨h1,h2⟩)]
  rfl
 ·have h1:=a2 rfl
  have h2:=b1 rfl
  simp only[dT (show cL al∧cg bc from⟨h1,h2⟩)]
  rfl
 ·have h1:=a1 rfl
  have h2:=b2 rfl
  simp only[dT (show cL bl∧cg ac from⟨h2,h1⟩)]
  rfl
 ·have h1:=a1 rfl
  have h2:=b1 rfl
  simp only[dT (show cg ac∧cg bc from⟨h1,h2⟩)]
  rfl
def Ss(a b:BCU)(_k:KT):Option (List RV):=match !(a.1==b.1)with|true=>some [RV.d .bool false]|false=>(match a.1 with|true=>(og (decide (cg a.2.2.1∧cg b.2.2.1)) (some [RV.d .bool (sY (dec a.2.2.1) (dec b.2.2.1))]))|false=>(og (decide (cL a.2.1∧cL b.2.1)) (some [RV.d .bool (t4 (dec a.2.1) (dec b.2.1))])))
def Ua:Cn 84 [tCU,tCU]:=cn fun(a b:BCU)=>lf (gY a b) [.d .bool (eG (dC a) (dC b))] fun h=>by
 refine az J0 (Ss a b) ⟨0,?_⟩
 obtain⟨⟨a1,a2⟩,b1,b2⟩:=h
 unfold Ss eG
 obtain⟨aa,al,ac,aw,af,at_⟩:=a
 obtain⟨ba,bl,bc,bw,bf,bt⟩:=b
 cases aa<;>cases ba
 ·have h1:=a2 rfl
  have h2:=b2 rfl
  simp only[dT (show cL al∧cL bl from⟨h1,h2⟩)]
  rfl
 ·rfl
 ·rfl
 ·have h1:=a1 rfl
  have h2:=b1 rfl
  simp only[dT (show cg ac∧cg bc from⟨h1,h2⟩)]
  rfl
def mG(c:BCU):Prop:=okC 500 c∧wh c
instance (c:BCU):Decidable (mG c):=by unfold mG;infer_instance
def jU(c d:BCU):Prop:=mG c∧mG d
instance (c d:BCU):Decidable (jU c d):=by unfold jU;infer_instance
def abu:List En:=[enL aay,enL Rz,enL Us,enT V9,enT Yl,enT Nv,enT So,enK abI,enL RQ,enT yN]
def afg(a b:BCU)(_k:KT):Option (List RV):=match a.1 with|true=>(match b.1 with|true=>(og (decide (cg a.2.2.1∧cg b.2.2.1)) (some [RV.d (.sl tP) ((XK (dec a.2.2.1) (dec b.2.2.1)).map enc),RV.d ai2 (YO (dec a.2.2.1) (dec b.2.2.1))]))|false=>(match a.1 with|true=>(og (decide (cL b.2.1∧cg a.2.2.1)) (some [RV.d (.sl tP) ((wc (dec b.2.1) (dec a.2.2.1)).map enc),RV.d ai2 0]))|false=>(match b.1 with|true=>(og (decide (cL a.2.1∧cg b.2.2.1)) (some [RV.d (.sl tP) ((wc (dec a.2.1) (dec b.2.2.1)).map enc),RV.d ai2 0]))|false=>(og (decide (cL a.2.1∧cL b.2.1)) (some [RV.d (.sl tP) ((o9 (dec a.2.1) (dec b.2.1)).map enc),RV.d ai2 (Om (dec a.2.1) (dec b.2.1))])))))|false=>(match a.1 with|true=>(og (decide (cL b.2.1∧cg a.2.2.1)) (some [RV.d (.sl tP) ((wc (dec b.2.1) (dec a.2.2.1)).map enc),RV.d ai2 0]))|false=>(match b.1 with|true=>(og (decide (cL a.2.1∧cg b.2.2.1)) (some [RV.d (.sl tP) ((wc (dec a.2.1) (dec b.2.2.1)).map enc),RV.d ai2 0]))|false=>(og (decide (cL a.2.1∧cL b.2.1)) (some [RV.d (.sl tP) ((o9 (dec a.2.1) (dec b.2.1)).map enc),RV.d ai2 (Om (dec a.2.1) (dec b.2.1))]))))
def TS(a b:BCU)(_k:KT):Option (List RV):=match !(a.1==b.1)with|true=>some [RV.d .bool false]|false=>(match a.1 with|true=>(og (decide (cg a.2.2.1∧cg b.2.2.1)) (some [RV.d .bool (sY (dec a.2.2.1) (dec b.2.2.1))]))|false=>(og (decide (cL a.2.1∧cL b.2.1)) (some [RV.d .bool (t4 (dec a.2.1) (dec b.2.1))])))
def Zi:Cn 56 [tCU,tCU]:=cn fun(a b:BCU)=>lf (gY a b) [.d .bool (eG (dC a) (dC b))] fun h=>by
 refine az abu (TS a b) ⟨0,?_⟩
 obtain⟨⟨a1,a2⟩,b1,b2⟩:=h
 unfold TS eG
 obtain⟨aa,al,ac,aw,af,at_⟩:=a
 obtain⟨ba,bl,bc,bw,bf,bt⟩:=b
 cases aa<;>cases ba
 ·have h1:=a2 rfl
  have h2:=b2 rfl
  simp only[dT (show cL al∧cL bl from⟨h1,h2⟩)]
  rfl
 ·rfl
 ·rfl
 ·have h1:=a1 rfl
  have h2:=b1 rfl
  simp only[dT (show cg ac∧cg bc from⟨h1,h2⟩)]
  rfl
theorem Fc{l m:Ln}[BdL l][BdL m]:(o9 l m).length≤2∧∀p∈o9 l m,Bd p 490∧Rpd p:=by
 unfold o9
 cases decide (eF l m=0)
 ·have bc:Bd (eF l m) 49:=inferInstanceAs (Bd (l.1*m.2.1-m.1*l.2.1) _)
  have bx:Bd (mv l m) 151:=inferInstanceAs (Bd (l.2.2*m.2.1-m.2.2*l.2.1) _)
  have b_:Bd (mO l m) 151:=inferInstanceAs (Bd (l.1*m.2.2-m.1*l.2.2) _)
  refine⟨by simp,fun p hp=>?_⟩
  have:p=atP (mv l m/eF l m,mO l m/eF l m):=by simpa using hp
  rw[this]
  exact⟨(inferInstance:Bd (atP (mv l m/eF l m,mO l m/eF l m)) _).mono (by decide),inferInstance⟩
 ·exact⟨by simp,fun p hp=>by cases hp⟩
def zr(c:BO3):List BCU:=[(true,o00,c,false,enc (ky (dec c)),enc (kx (dec c))),(true,o00,c,false,enc (kx (dec c)),enc (ky (dec c)))]
def RG:List En:=[enL Dn,enL UE,enT lS,enL JK,enL Lg]
def ace:Ctx:=CX (ens RG) []
def Uq(c:BO3)(_k:KT):Option (List RV):=og (decide (cg c)) (some [RV.new 39 tCU ([(true,((((false,[]),(false,[])),(((false,[]),(false,[])),((false,[]),(false,[])))),(c,(false,(hid (enc (ky (dec c))),hid (enc (kx (dec c)))))))),(true,((((false,[]),(false,[])),(((false,[]),(false,[])),((false,[]),(false,[])))),(c,(false,(hid (enc (kx (dec c))),hid (enc (ky (dec c))))))))])])
theorem ac4(c:BO3):RS ace 37 [.d tO c] (Uq c):=rsX
def ZL:Cn 37 [tO]:=cn fun(c:BO3)=>lf (cg c) [.d (.sl tCU) (zr c)] fun h=>by
 refine Con.new_d (et:=39) (cJ RG (ac4 _ ⟨0,?_⟩))
 unfold Uq
 rw[dT h]
 simp only[aX]
 rfl
def l0B:BO3:=enc ((0,0,0):Ln)
def c0M:BCU:=(false,l0B,l0B,false,p00,p00)
def kr(a b:Rat×Rat):BCU:=bif gU a b then c00 else(false,enc (oL a b),l0B,false,enc (atP a),enc (atP b))
def S7:List En:=[⟨41,eW,dk⟩,⟨99,fM,dS⟩]
def UW(a:BR)(_k:KT):Option (List RV):=match decide (okR a)with|true=>some [RV.d .bool ((aC (ah a) 0)==0)]|false=>none
def aai:Cn 271 [tR]:=cn fun(a:BR)=>lf (okR a) [.d .bool (decide (ah a=0))] fun h=>by
 refine az S7 (UW a) ⟨0,?_⟩
 unfold UW
 rw[dT h]
 simp only[am]
def Tp(_k:KT):Option (List RV):=og (decide (aF (0:Int))) (some [RV.d tCU (false,((hid (aq ((0:Int):Rat)),(hid (aq ((0:Int):Rat)),hid (aq ((0:Int):Rat)))),((hid (aq ((0:Int):Rat)),(hid (aq ((0:Int):Rat)),hid (aq ((0:Int):Rat)))),(false,((((false,[]),(false,[])),(((false,[]),(false,[])),(((false,[]),(false,[])),(((false,[]),(false,[])),((false,[]),(false,[])))))),(((false,[]),(false,[])),(((false,[]),(false,[])),(((false,[]),(false,[])),(((false,[]),(false,[])),((false,[]),(false,[])))))))))))])
def Z1:Cn 175 []:=cn<|lf True [.d tCU c0M] fun _=>by
 refine az S7 (Tp) ⟨0,?_⟩
 unfold Tp c0M l0B
 rw[dT (show aF 0 by decide)]
 simp only[aX]
 rfl
def Zk:List En:=[enL IM,enL Ob,enL M7,enL TH,enT aai]
def Uu(a b:BV)(_k:KT):Option (List RV):=og (o2 a.2 b.2) (og (o2 b.1 a.1) (og (o1 (hSu a.2 b.2)) (match decide (ah (hSu a.2 b.2)=0)with|true=>(og (o1 (hSu b.1 a.1)) (match decide (ah (hSu b.1 a.1)=0)with|true=>some [RV.d tO (((false,[]),(false,[])),(((false,[]),(false,[])),((false,[]),(false,[])))),RV.d ai2 6]|false=>(og (o2 (hSu a.2 b.2) a.1) (og (o2 (hSu b.1 a.1) a.2) (og (o2 (hMu (hSu a.2 b.2) a.1) (hMu (hSu b.1 a.1) a.2)) (some [RV.d tO (hSu a.2 b.2,(hSu b.1 a.1,hAd (hMu (hSu a.2 b.2) a.1) (hMu (hSu b.1 a.1) a.2))),RV.d ai2 0]))))))|false=>(og (o2 (hSu a.2 b.2) a.1) (og (o2 (hSu b.1 a.1) a.2) (og (o2 (hMu (hSu a.2 b.2) a.1) (hMu (hSu b.1 a.1) a.2)) (some [RV.d tO (hSu a.2 b.2,(hSu b.1 a.1,hAd (hMu (hSu a.2 b.2) a.1) (hMu (hSu b.1 a.1) a.2))),RV.d ai2 0])))))))
def ZJ:Cn 174 [tV,tV]:=cn fun(a b:BV)=>lf (ok (Rat×Rat) 100 a∧ok (Rat×Rat) 100 b) [.d tO (AE (dec a) (dec b)),.d ai2 (A7 (dec a) (dec b))] fun h=>by
 refine az Zk (Uu a b) ⟨0,?_⟩
 obtain⟨ha,hb⟩:=h
 obtain⟨a,rfl,ba⟩:=aB ha
 obtain⟨b,rfl,bb⟩:=aB hb
 unfold Uu AE A7 gU
 simp only[aO,Nat.reduceAdd,Nat.reduceLeDiff]
 cases decide (a.2-b.2=0)<;>cases decide (b.1-a.1=0)<;>rfl
def abd:List En:=[⟨106,gi,dY⟩,⟨108,fO,dP⟩,⟨73,iY,fx⟩,enL AT,enL Z1,enL ZJ]
def Nj(a b:BV)(_k:KT):Option (List RV):=og (decide (ok (Rat×Rat) 100 a∧ok (Rat×Rat) 100 b)) (match(A7 (dec a) (dec b)) !=0 with|true=>some [RV.d tCU (false,((((false,[]),(false,[])),(((false,[]),(false,[])),((false,[]),(false,[])))),((((false,[]),(false,[])),(((false,[]),(false,[])),((false,[]),(false,[])))),(false,((((false,[]),(false,[])),(((false,[]),(false,[])),(((false,[]),(false,[])),(((false,[]),(false,[])),((false,[]),(false,[])))))),(((false,[]),(false,[])),(((false,[]),(false,[])),(((false,[]),(false,[])),(((false,[]),(false,[])),((false,[]),(false,[]))))))))))),RV.d ai2 6]|false=>(og (decide (ok (Rat×Rat) 100000 a)) (og (decide (ok (Rat×Rat) 100000 b)) (some [RV.d tCU (false,(hid (AE (dec a) (dec b)),((((hid (c0M)).2).2).1,(false,(hid (enc (atP (dec a))),hid (enc (atP (dec b)))))))),RV.d ai2 0]))))
def Nx:Cn 74 [tV,tV]:=cn fun(a b:BV)=>lf (ok (Rat×Rat) 100 a∧ok (Rat×Rat) 100 b) [.d tCU (kr (dec a) (dec b)),.d ai2 (yA (dec a) (dec b))] fun h=>by
 refine az abd (Nj a b) ⟨0,?_⟩
 obtain⟨ha,hb⟩:=h
 obtain⟨a,rfl,ba⟩:=aB ha
 obtain⟨b,rfl,bb⟩:=aB hb
 unfold Nj kr yA A7 AE
 simp only[aO,Nat.reduceLeDiff]
 cases gU a b<;>rfl
end Go.Proofs.YtnkndpoojnflmaaGreat
end
