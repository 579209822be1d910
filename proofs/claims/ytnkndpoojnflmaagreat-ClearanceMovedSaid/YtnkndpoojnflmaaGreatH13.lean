/- Lines and circles: the reference's contracts. -/
import Derived.Test.YtnkndpoojnflmaaGreatH12
noncomputable section
namespace Go.Proofs.YtnkndpoojnflmaaGreat
open Go.RowKit Go.IntKind
theorem alV:type_of% @List.mem_cons_of_mem:=@List.mem_cons_of_mem
theorem al5:type_of% @Rat.div_mul_cancel:=@Rat.div_mul_cancel
theorem ana:type_of% @not_false_eq_true:=@not_false_eq_true
theorem anv:type_of% @Bool.eq_iff_iff:=@Bool.eq_iff_iff
def Gn(l:Ln)(p:Pt):Rt:=mkR (qH l p) (qI l p) p.2.2.2.2
def vD(c:Ln)(p:Pt):Rt:=arT (sqP p (ctr c)) (-c.2.2)
instance akc {r:Rt} {a:Rat} [h:Rdd r]:Rdd (arT r a):=⟨h.rd⟩
instance UV {l:Ln} {p:Pt} [h:Rpd p]:Rdd (Gn l p):=by
 have:Nn p.2.2.2.2:=inferInstance
 exact tW
instance ajh {l:Ln} {p:Pt} {i j:Nat} [h:Bd l i] [h':Bd p j]:Bd (Gn l p) (5*i+5*j+5):=by
 have a1:Bd (qH l p) _:=inferInstance
 have a2:Bd (qI l p) _:=inferInstance
 have a3:Bd (mkR (qH l p) (qI l p) p.2.2.2.2) _:=inferInstance
 exact a3.mono (by omega)
theorem Tj{l:Ln}{p:Pt}[h:Rpd p]:sgR (Gn l p)=rX l p:=by
 unfold rX
 rw[E5 (UV (l:=l) (p:=p)).nn,RE.sgn2_re h.nn]
 unfold Gn
 rw[RE.vR_mk]
namespace RE
theorem Tl(a b q:RE):a+ -q+b=a+b-q:=by grind
theorem U7(a b q:RE):a-q+b=a+b-q:=by grind
theorem shift_l(a b d q:RE)(h:a+b=a+d):a+ -q+b=a-q+d:=by
 rw[Tl,U7,h]
end RE
theorem Vk{c:Ln}{p:Pt}[h:Rpd p]: -sgR (vD c p)=oC c p:=by
 unfold oC
 have hr:Rdd (vD c p):=inferInstanceAs (Rdd (arT (sqP p (ctr c)) (-c.2.2)))
 rw[E5 hr.nn,RE.sgn2_re h.nn]
 have e:RE.vR (vD c p)=RE.v2 (sqA p (ctr c)-c.2.2) (sqB p (ctr c)) p.2.2.2.2:=by
  have e1:=RE.vR_co (sqA p (ctr c)) (sqB p (ctr c)) p.2.2.2.2
  unfold RE.vR RE.v2 at e1
  unfold vD arT sqP RE.vR RE.v2
  simp only
  rw[RE.of_add,RE.of_neg,RE.of_sub]
  have e2:RE.of (coR (sqA p (ctr c)) (sqB p (ctr c)) p.2.2.2.2).1=RE.of (sqA p (ctr c)):=by
   unfold coR
   cases decide (sqB p (ctr c)=0)<;>rfl
  rw[e2]at e1 ⊢
  exact RE.shift_l _ _ _ _ e1
 rw[e]
theorem yy{q:Rat}(h:q≠0):aG q 0=if 0<q then 1 else-1:=by
 rcases(by grind:q<0∨0<q)with h'|h'
 ·rw[dE h',al3 (by grind)]
 ·rw[dq h',ama h']
def pQ:List En:=[enT lT,enL l7,enL m7,enL oH,enL ng,enT rQ,enL oK,enL Fy,enL F3,enL Od,enL E0]
def QD(a:BR)(_k:KT):Option (List RV):=match decide (okR a∧okR a)with|true=>some [RV.d tR (hMu a a)]|false=>none
def aaC:Cn 364 [tR]:=cn fun(a:BR)=>lf (okR a) [.d tR (am (ah a*ah a))] fun h=>by
 refine aA pQ (QD a) ⟨0,?_⟩
 unfold QD
 rw[dT ⟨h,h⟩]
 simp only[bO]
def Gf:Cn 140 [tR,tR]:=cn fun(a b:BR)=>lf (okR a∧okR b) [.d tR (am (ah a+ah b))] fun h=>jL [RV.d tR (hAd a b)] (du pQ) h
def Lx:Cn 238 [tR,tR]:=cn fun(a b:BR)=>lf (okR a∧okR b) [.d tR (am (ah a-ah b))] fun h=>jL [RV.d tR (hSu a b)] (du pQ) h
def AP:Cn 141 [tR,tR]:=cn fun(a b:BR)=>lf (okR a∧okR b) [.d tR (am (ah a*ah b))] fun h=>jL [RV.d tR (hMu a b)] (du pQ) h
def NR:Cn 248 [tR,tR]:=cn fun(a b:BR)=>lf (ij a b) [.d tR (am (ah a/ah b))] fun h=>jL [RV.d tR (hDi a b)] (du pQ) h
def sC:List En:=enL aaC::enL Gf::enL Lx::enL AP::enL NR::pQ
def M7(r:BO3)(_k:KT):Option (List RV):=og (o1 r.1) (og (o1 r.2.1) (og (o2 (hid (am (ah r.2.1*ah r.2.1))) r.2.2) (og (o2 (hid (am (ah r.1*ah r.1))) (hMu (hid (am (ah r.2.1*ah r.2.1))) r.2.2)) (some [RV.d tR (hSu (hid (am (ah r.1*ah r.1))) (hMu (hid (am (ah r.2.1*ah r.2.1))) r.2.2))]))))
def adA:Cn 348 [tO]:=cn fun(r:BO3)=>lf (ok Rt 90000 r) [.d tR (am (noR (dec r)))] fun h=>by
 refine aA sC (M7 r) ⟨0,?_⟩
 have hr:=h
 obtain⟨r,rfl,br⟩:=aB hr
 unfold M7
 simp only[aS,Nat.reduceAdd,Nat.reduceLeDiff]
 rfl
def Mb(l:BO3)(p:BP)(_k:KT):Option (List RV):=og (o2 l.1 p.1) (og (o2 l.2.1 p.2.2.1) (og (o2 (hMu l.1 p.1) (hMu l.2.1 p.2.2.1)) (og (o2 (hAd (hMu l.1 p.1) (hMu l.2.1 p.2.2.1)) l.2.2) (og (o2 l.1 p.2.1) (og (o2 l.2.1 p.2.2.2.1) (og (o2 (hMu l.1 p.2.1) (hMu l.2.1 p.2.2.2.1)) (og (decide (ok Rat 100000 (hSu (hAd (hMu l.1 p.1) (hMu l.2.1 p.2.2.1)) l.2.2)∧ok Rat 100000 (hAd (hMu l.1 p.2.1) (hMu l.2.1 p.2.2.2.1))∧ok Rat 100000 p.2.2.2.2∧0≤ah p.2.2.2.2)) (some [RV.d tO (hid (enc (mkR (ah (hSu (hAd (hMu l.1 p.1) (hMu l.2.1 p.2.2.1)) l.2.2)) (ah (hAd (hMu l.1 p.2.1) (hMu l.2.1 p.2.2.2.1))) (ah p.2.2.2.2))))]))))))))
def M9:Cn 124 [tO,tP]:=cn fun(l:BO3) (p:BP)=>lf (ok Ln 300 l∧okP 4000 p) [.d tO (enc (Gn (dec l) (dec p)))] fun h=>by
 refine aA sC (Mb l p) ⟨0,?_⟩
 obtain⟨hl,hp⟩:=h
 obtain⟨l,rfl,bl⟩:=aB hl
 obtain⟨p,rfl,bp,rp⟩:=a9 hp
 have hn:0≤p.2.2.2.2:=rp.nn
 unfold Mb
 simp only[aS,Nat.reduceAdd,Nat.reduceLeDiff,dT hn]
 rfl
def RZ(c:BO3)(p:BP)(_k:KT):Option (List RV):=og (decide (okP 3500 p∧ok (Rat×Rat) 300 (c.1,c.2.1))) (og (o1 c.2.2) (og (decide (ok Rt 100000 (hid (enc (sqP (dec p) (dec (c.1,c.2.1)))))∧ok Rat 100000 (hNe c.2.2))) (some [RV.d tO (hid (enc (arT (dec (hid (enc (sqP (dec p) (dec (c.1,c.2.1)))))) (ah (hNe c.2.2)))))])))
def adk:Cn 319 [tO,tP]:=cn fun(c:BO3) (p:BP)=>lf (ok Ln 300 c∧okP 3500 p) [.d tO (enc (vD (dec c) (dec p)))] fun h=>by
 refine aA sC (RZ c p) ⟨0,?_⟩
 obtain⟨hc,hp⟩:=h
 obtain⟨c,rfl,bc⟩:=aB hc
 obtain⟨p,rfl,bp,rp⟩:=a9 hp
 have e0:(dec ((am c.1,am c.2.1):BV):Rat×Rat)=ctr c:=az (ctr c)
 have e1:decide (ok (Rat×Rat) 300 ((am c.1,am c.2.1):BV))=true:=okd (x:=ctr c) (by decide) (by decide)
 unfold RZ
 simp only[aS,Nat.reduceAdd,Nat.reduceMul,Nat.reduceLeDiff,aJ,e0,e1]
 rfl
def RI(l:BO3)(v:BV)(_k:KT):Option (List RV):=og (o2 l.1 l.1) (og (o2 l.2.1 l.2.1) (og (o2 (hMu l.1 l.1) (hMu l.2.1 l.2.1)) (og (o2 l.1 v.1) (og (o2 l.2.1 v.2) (og (o2 (hMu l.1 v.1) (hMu l.2.1 v.2)) (og (o2 l.2.2 (hAd (hMu l.1 v.1) (hMu l.2.1 v.2))) (og (decide (ij (hSu l.2.2 (hAd (hMu l.1 v.1) (hMu l.2.1 v.2))) (hAd (hMu l.1 l.1) (hMu l.2.1 l.2.1)))) (og (o2 (hDi (hSu l.2.2 (hAd (hMu l.1 v.1) (hMu l.2.1 v.2))) (hAd (hMu l.1 l.1) (hMu l.2.1 l.2.1))) l.1) (og (o2 v.1 (hMu (hDi (hSu l.2.2 (hAd (hMu l.1 v.1) (hMu l.2.1 v.2))) (hAd (hMu l.1 l.1) (hMu l.2.1 l.2.1))) l.1)) (og (o2 (hDi (hSu l.2.2 (hAd (hMu l.1 v.1) (hMu l.2.1 v.2))) (hAd (hMu l.1 l.1) (hMu l.2.1 l.2.1))) l.2.1) (og (o2 v.2 (hMu (hDi (hSu l.2.2 (hAd (hMu l.1 v.1) (hMu l.2.1 v.2))) (hAd (hMu l.1 l.1) (hMu l.2.1 l.2.1))) l.2.1)) (some [RV.d tV (hAd v.1 (hMu (hDi (hSu l.2.2 (hAd (hMu l.1 v.1) (hMu l.2.1 v.2))) (hAd (hMu l.1 l.1) (hMu l.2.1 l.2.1))) l.1),hAd v.2 (hMu (hDi (hSu l.2.2 (hAd (hMu l.1 v.1) (hMu l.2.1 v.2))) (hAd (hMu l.1 l.1) (hMu l.2.1 l.2.1))) l.2.1))]))))))))))))
def Pp:Cn 138 [tO,tV]:=cn fun(l:BO3) (v:BV)=>lf (ok Ln 300 l∧ok (Rat×Rat) 200 v∧((dec l:Ln).1≠0∨(dec l:Ln).2.1≠0)) [.d tV (enc (dV (dec l) (dec v)))] fun h=>by
 refine aA sC (RI l v) ⟨0,?_⟩
 obtain⟨hl,hv,h0⟩:=h
 obtain⟨l,rfl,bl⟩:=aB hl
 obtain⟨v,rfl,bv⟩:=aB hv
 have hn:l.1*l.1+l.2.1*l.2.1≠0:=j8 (by rw[az]at h0;exact h0)
 have e:(l.2.2-(l.1*v.1+l.2.1*v.2))/(l.1*l.1+l.2.1*l.2.1)= -kY l v:=by
  unfold kY
  grind
 unfold RI
 simp only[aS,Nat.reduceAdd,Nat.reduceLeDiff,hn,ne_eq,ana]
 unfold dV
 rw[e,show v.1+ -kY l v*l.1=v.1-kY l v*l.1 by grind,show v.2+ -kY l v*l.2.1=v.2-kY l v*l.2.1 by grind]
 rfl
def Im:List En:=enL adA::enL M9::enL adk::enL Pp::sC
def Q0(r:BO3)(_k:KT):Option (List RV):=og (o1 r.1) (og (o1 r.2.1) (match(aG (ah r.1) 0)==(aG (ah r.2.1) 0)with|true=>some [RV.d aoX (aG (ah r.1) 0)]|false=>(match(aG (ah r.2.1) 0)==0 with|true=>some [RV.d aoX (aG (ah r.1) 0)]|false=>(match(aG (ah r.1) 0)==0 with|true=>some [RV.d aoX (aG (ah r.2.1) 0)]|false=>(og (decide (ok Rt 90000 r)) (og (o1 (hid (am (noR (dec r))))) (match decide ((aG (ah (hid (am (noR (dec r))))) 0)>0)with|true=>some [RV.d aoX (aG (ah r.1) 0)]|false=>some [RV.d aoX (aG (ah r.2.1) 0)])))))))
def ach:Cn 318 [tO]:=cn fun(r:BO3)=>lf (okT 90000 r) [.d aoX (sgR (dec r))] fun h=>by
 refine aA Im (Q0 r) ⟨0,?_⟩
 have hr:=h
 obtain⟨r,rfl,br,rr⟩:=gg hr
 unfold Q0
 simp only[aS,Nat.reduceAdd,Nat.reduceMul,Nat.reduceLeDiff,aq,av]
 rw[WN rr]
 by_cases hb:r.2.1=0
 ·rw[alF hb,hb,d7]
  by_cases ha:aG r.1 0=0
  ·rw[ha];rfl
  ·rw[show(aG r.1 0==0)=false by simp[ha]];rfl
 ·have hn:=adc rr hb
  have e2:=yy hn
  have hb2:=yy hb
  rw[alH hb,show(aG r.2.1 0==0)=false by rw[aq,alH hb]]
  by_cases ha:r.1=0
  ·rw[alF ha,ha,d7,show((0:Int)==aG r.2.1 0)=false by rw[hb2];split<;>rfl]
   rfl
  ·have ha2:=yy ha
   rw[alH ha,show(aG r.1 0==0)=false by rw[aq,alH ha]]
   cases hq:(aG r.1 0==aG r.2.1 0)
   ·have hne:aG r.1 0≠aG r.2.1 0:=by simpa using hq
    rw[e2]
    by_cases hp:0<noR r
    ·rw[alF hp,ama hp,an1]
     rfl
    ·rw[alH hp,al3 hp]
     show some [RV.d aoX (aG r.2.1 0)]=some [RV.d aoX (aG r.1 0* -1)]
     rw[show aG r.2.1 0=aG r.1 0* -1 by
      rw[ha2,hb2]at hne ⊢
      split at hne<;>split at hne<;>simp_all]
   ·rfl
def IE:List En:=enT ach::Im
def Qa(l:BO3)(p:BP)(_k:KT):Option (List RV):=og (decide (ok Ln 300 l∧okP 4000 p)) (og (decide (okT 90000 (hid (enc (Gn (dec l) (dec p)))))) (some [RV.d aoX (sgR (dec (hid (enc (Gn (dec l) (dec p))))))]))
def abm:Cn 259 [tO,tP]:=cn fun(l:BO3) (p:BP)=>lf (ok Ln 300 l∧okP 4000 p) [.d aoX (rX (dec l) (dec p))] fun h=>by
 refine aA IE (Qa l p) ⟨0,?_⟩
 obtain⟨hl,hp⟩:=h
 obtain⟨l,rfl,bl⟩:=aB hl
 obtain⟨p,rfl,bp,rp⟩:=a9 hp
 unfold Qa
 simp only[aS,Nat.reduceAdd,Nat.reduceMul,Nat.reduceLeDiff,aM,aJ]
 rw[Tj]
def MG(c:BO3)(p:BP)(_k:KT):Option (List RV):=og (decide (ok Ln 300 c∧okP 3500 p)) (og (decide (okT 90000 (hid (enc (vD (dec c) (dec p)))))) (some [RV.d aoX (i64.wrap (0-(sgR (dec (hid (enc (vD (dec c) (dec p))))))))]))
def acJ:Cn 258 [tO,tP]:=cn fun(c:BO3) (p:BP)=>lf (ok Ln 300 c∧okP 3500 p) [.d aoX (oC (dec c) (dec p))] fun h=>by
 refine aA IE (MG c p) ⟨0,?_⟩
 obtain⟨hc,hp⟩:=h
 obtain⟨c,rfl,bc⟩:=aB hc
 obtain⟨p,rfl,bp,rp⟩:=a9 hp
 have hr:Rdd (vD c p):=inferInstanceAs (Rdd (arT (sqP p (ctr c)) (-c.2.2)))
 have br:Bd (vD c p) 90000:=(inferInstance:Bd (arT (sqP p (ctr c)) (-c.2.2)) _).mono (by decide)
 have hb: -1≤sgR (vD c p)∧sgR (vD c p)≤1:=lQ _ _ _
 unfold MG
 simp only[aS,Nat.reduceLeDiff,aM,aJ,anD,aT (x:= -sgR (vD c p)) (by omega) (by omega)]
 rw[Vk]
abbrev tCU:Ty:=.st (.pair .bool (.pair tO (.pair tO (.pair .bool (.pair tP tP)))))
abbrev BCU:=Bool×BO3×BO3×Bool×BP×BP
abbrev Cv:=Bool×Ln×Ln×Bool×Pt×Pt
def dC(c:BCU):Cv:=(c.1,dec c.2.1,dec c.2.2.1,c.2.2.2.1,dec c.2.2.2.2.1,dec c.2.2.2.2.2)
def uY(x:BO3):Prop:=ok Ln 300 x∧(0:Rat)<(dec x:Ln).2.2
instance (x:BO3):Decidable (uY x):=by unfold uY;infer_instance
def Oi(x:BO3):Prop:=ok Ln 300 x∧((dec x:Ln).1≠0∨(dec x:Ln).2.1≠0)
instance (x:BO3):Decidable (Oi x):=by unfold Oi;infer_instance
def okC(k:Nat)(c:BCU):Prop:=(c.1=true→uY c.2.2.1)∧(c.1=false→Oi c.2.1)∧okP k c.2.2.2.2.1∧okP k c.2.2.2.2.2
instance (k:Nat) (c:BCU):Decidable (okC k c):=by unfold okC;infer_instance
def frC(c:Cv):Pt:=c.2.2.2.2.1
def toC(c:Cv):Pt:=c.2.2.2.2.2
def lnC(c:Cv):Ln:=c.2.1
def ciC(c:Cv):Ln:=c.2.2.1
def cwC(c:Cv):Bool:=c.2.2.2.1
def ge(c:Cv)(p:Pt):Bool:=bif c.1 then oC (ciC c) p==0 else rX (lnC c) p==0
def upR(c:Ln)(p:Pt):Bool:=decide (fN (yP p) c.2.1>0)||(fN (yP p) c.2.1==0&&decide (fN (xP p) c.1>0))
def ptd(c:Ln)(p:Pt):Bool×Rt:=(upR c p,xP p)
def C8(c:Ln)(p:Pt):Int:=bif upR c p then 0 else 1
def ccF(c:Cv):Pt:=bif cwC c then toC c else frC c
def ccT(c:Cv):Pt:=bif cwC c then frC c else toC c
def hZ(c:Cv)(p:Pt):Bool:=bif c.1 then decide (gC a8 (ptd (ciC c) (ccF c)) (ptd (ciC c) p) (ptd (ciC c) (ccT c))≤0)else uu (aX (frC c) p) (aX p (toC c))
def onP(c:Cv)(p:Pt):Bool:=ge c p&&hZ c p
def tC(c:BCU):BCU:=(c.1,c.2.1,c.2.2.1,c.1&&!c.2.2.2.1,c.2.2.2.2.2,c.2.2.2.2.1)
def dU(c:BCU):BCU:=bif c.2.2.2.1 then tC c else c
def flP(p:Pt):Pt:=(-p.1,-p.2.1,p.2.2.1,p.2.2.2.1,p.2.2.2.2)
def flC(c:Ln):Ln:=(-c.1,c.2.1,c.2.2)
def dg(c:Cv)(p q:Pt):Int:=bif c.1 then(bif cwC c then jT a8 (ptd (flC (ciC c)) (flP (frC c))) (ptd (flC (ciC c)) (flP p)) (ptd (flC (ciC c)) (flP q))else jT a8 (ptd (ciC c) (frC c)) (ptd (ciC c) p) (ptd (ciC c) q))
 else(bif decide (aX (frC c) (toC c)>0)then-aX p q else aX p q)
def onR(c:Cv)(p:Pt):Bool:=ge c p&&(decide (dg c (frC c) p≤0)&&decide (dg c p (toC c)≤0))
theorem PU(k:Nat){c:BCU}(h:okC k c):okC k (tC c):=⟨h.1,h.2.1,h.2.2.2,h.2.2.1⟩
theorem wq(p q:Pt): -1≤aX p q∧aX p q≤1:=by
 unfold aX
 cases a8 (xP p) (xP q)==0
 ·exact wd _ _
 ·exact wd _ _
theorem HL{p q:Bool×Rt}:0≤ow a8 p q∧ow a8 p q≤2:=by
 unfold ow
 cases rj a8 q p==0<;>cases decide (rj a8 q p>0)<;>simp only[cond_true,cond_false]<;>omega
def xB(c:BCU):BCU:=(c.1,c.2.1,(am (-ah c.2.2.1.1),c.2.2.1.2),!c.2.2.2.1,enc (flP (dec c.2.2.2.2.1)),enc (flP (dec c.2.2.2.2.2)))
instance aln {p:Pt} [h:Rpd p]:Rpd (flP p):=by
 refine⟨?_⟩
 have:=h.rd
 unfold Fk flP at*
 simp only
 have e:(-p.2.1=0)↔p.2.1=0:=by constructor<;>intro h<;>grind
 rw[e]
 exact this
instance alm {p:Pt} {j:Nat} [h:Bd p j]:Bd (flP p) j:=by
 have i1:Bd ((-p.1,-p.2.1,p.2.2.1,p.2.2.2.1,p.2.2.2.2):Pt) _:=inferInstance
 exact i1.mono (cV (by omega) (cV (by omega) (cV (by omega) (cV (by omega) (by omega)))))
theorem qk{j k:Nat}{x:BP}(h:okP j x)(hj:j≤k)(hk:k≤480000):okP k x:=by
 obtain⟨p,rfl,bp,rp⟩:=a9 h
 exact alI (aJ hj hk)
theorem JY{j k:Nat}{c:BCU}(h:okC j c)(hj:j≤k)(hk:k≤480000):okC k c:=⟨h.1,h.2.1,qk h.2.2.1 hj hk,qk h.2.2.2 hj hk⟩
theorem GQ{x:BP}(h:okP 4000 x):okP 4000 (enc (flP (dec x))):=by
 obtain⟨p,rfl,bp,rp⟩:=a9 h
 rw[az]
 exact alI (aJ (x:=flP p) (by decide) (by decide))
theorem abn{x:BO3}(h:ok Ln 300 x):ok Ln 300 ((am (-ah x.1),x.2):BO3)∧(dec ((am (-ah x.1),x.2):BO3):Ln)=flC (dec x):=by
 obtain⟨l,rfl,bl⟩:=aB h
 have e:((am (-ah (enc l:BO3).1),(enc l:BO3).2):BO3)=enc (flC l):=by
  rw[rY,eO,cA]
  rfl
 rw[e,az,az]
 refine⟨?_,rfl⟩
 have i1:Bd (flC l) 300:=(inferInstance:Bd ((-l.1,l.2.1,l.2.2):Ln) _).mono (by decide)
 exact alI (okd (x:=flC l) (alL _) (by decide))
def za:List En:=[enL oK,enT Aq,enT AA,enL Wx,enL W6,enT xp,enT abm,enT acJ]
def V9(c:BCU)(p:BP)(_k:KT):Option (List RV):=match c.1 with|true=>(og (decide (ok Ln 300 c.2.2.1∧okP 3500 p)) (some [RV.d .bool ((oC (dec c.2.2.1) (dec p))==0)]))|false=>(og (decide (ok Ln 300 c.2.1∧okP 4000 p)) (some [RV.d .bool ((rX (dec c.2.1) (dec p))==0)]))
def afn:Cn 150 [tCU,tP]:=cn fun(c:BCU) (p:BP)=>lf (okC 3500 c∧okP 3500 p) [.d .bool (ge (dC c) (dec p))] fun h=>by
 refine aA za (V9 c p) ⟨0,?_⟩
 obtain⟨hc,hp⟩:=h
 have op:decide (okP 3500 p)=true:=alF hp
 have op4:decide (okP 4000 p)=true:=alF (qk hp (by decide) (by decide))
 obtain⟨ar,li,ci,cw,fr,to⟩:=c
 obtain⟨c1,c2,_⟩:=hc
 unfold V9
 cases ar
 ·have e:=(c2 rfl).1
  simp only[anG,dT e,op4,anc]
  rfl
 ·have e:=(c1 rfl).1
  simp only[anG,dT e,op,anc]
  rfl
def Wt(c:BO3)(p:BP)(_k:KT):Option (List RV):=og (decide (okP 4000 p)) (og (decide (okT 15000 (hid (enc (yP (dec p))))∧ok Rat 15000 c.2.1)) (match decide ((fN (dec (hid (enc (yP (dec p))))) (ah c.2.1))>0)with|true=>some [RV.d .bool true]|false=>(match(fN (dec (hid (enc (yP (dec p))))) (ah c.2.1))==0 with|true=>(og (decide (okP 4000 p)) (og (decide (okT 15000 (hid (enc (xP (dec p))))∧ok Rat 15000 c.1)) (some [RV.d .bool (decide ((fN (dec (hid (enc (xP (dec p))))) (ah c.1))>0))])))|false=>some [RV.d .bool false])))
def aho:Cn 320 [tO,tP]:=cn fun(c:BO3) (p:BP)=>lf (ok Ln 300 c∧okP 4000 p) [.d .bool (upR (dec c) (dec p))] fun h=>by
 refine aA za (Wt c p) ⟨0,?_⟩
 obtain⟨hc,hp⟩:=h
 obtain⟨c,rfl,bc⟩:=aB hc
 obtain⟨p,rfl,bp,rp⟩:=a9 hp
 unfold Wt upR
 simp only[aS,Nat.reduceLeDiff,aM,aJ]
 cases decide (fN (yP p) c.2.1>0)<;>cases fN (yP p) c.2.1==0<;>rfl
def Y4(p:BP)(_k:KT):Option (List RV):=og (o1 p.1) (og (o1 p.2.1) (some [RV.d tP (hNe p.1,(hNe p.2.1,p.2.2))]))
def afv:Cn 155 [tP]:=cn fun(p:BP)=>lf (okP 4000 p) [.d tP (enc (flP (dec p)))] fun h=>by
 refine aA za (Y4 p) ⟨0,?_⟩
 have hp:=h
 obtain⟨p,rfl,bp,rp⟩:=a9 hp
 unfold Y4
 simp only[aS,Nat.reduceLeDiff]
 rfl
def agK:Ctx:=CX (ens za) []
def aef(c:BCU)(_k:KT):Option (List RV):=match c.1 with|true=>some [RV.d tCU (c.1,(c.2.1,(c.2.2.1,(!c.2.2.2.1,(c.2.2.2.2.2,c.2.2.2.2.1)))))]|false=>some [RV.d tCU (c.1,(c.2.1,(c.2.2.1,(false,(c.2.2.2.2.2,c.2.2.2.2.1)))))]
theorem aiJ(c:BCU):RS agK 16 [.d tCU c] (aef c):=rsX
def Sq:Cn 16 [tCU]:=cn fun(c:BCU)=>lf True [.d tCU (tC c)] fun _=>by
 refine cZ za (aiJ _ ⟨0,?_⟩)
 obtain⟨ar,li,ci,cw,fr,to⟩:=c
 cases ar<;>rfl
def Me:List En:=enT afn::enT aho::enL afv::enL Sq::za
def Yv(c:BO3)(p q:BP)(_k:KT):Option (List RV):=og (decide (ok Ln 300 c∧okP 4000 p)) (og (decide (ok Ln 300 c∧okP 4000 q)) (match !((upR (dec c) (dec p))==(upR (dec c) (dec q)))with|true=>(match upR (dec c) (dec q)with|true=>some [RV.d aoX (-1)]|false=>some [RV.d aoX 1])|false=>(og (decide (okP 4000 p)) (og (decide (okP 4000 q)) (og (decide (okT 15000 (hid (enc (xP (dec p))))∧okT 15000 (hid (enc (xP (dec q)))))) (match upR (dec c) (dec p)with|true=>some [RV.d aoX (i64.wrap (0-(a8 (dec (hid (enc (xP (dec p))))) (dec (hid (enc (xP (dec q))))))))]|false=>some [RV.d aoX (a8 (dec (hid (enc (xP (dec p))))) (dec (hid (enc (xP (dec q))))))]))))))
def aht:Cn 261 [tO,tP,tP]:=cn fun(c:BO3) (p q:BP)=>lf (ok Ln 300 c∧okP 4000 p∧okP 4000 q) [.d aoX (jI a8 (ptd (dec c) (dec p)) (ptd (dec c) (dec q)))] fun h=>by
 refine aA Me (Yv c p q) ⟨0,?_⟩
 obtain⟨hc,hp,hq⟩:=h
 obtain⟨c,rfl,bc⟩:=aB hc
 obtain⟨p,rfl,bp,rp⟩:=a9 hp
 obtain⟨q,rfl,bq,rq⟩:=a9 hq
 have xb:=wd (xP p) (xP q)
 unfold Yv
 simp only[aS,Nat.reduceLeDiff,aM,aJ,aT (x:= -a8 (xP p) (xP q)) (by omega) (by omega),anD]
 unfold jI ptd
 cases upR c p<;>cases upR c q<;>rfl
def WZ(c:BCU)(_k:KT):Option (List RV):=match decide (okR c.2.2.1.1)with|true=>(match decide (okP 4000 c.2.2.2.2.1)with|true=>(match decide (okP 4000 c.2.2.2.2.2)with|true=>some [RV.d tCU (c.1,(c.2.1,((hNe c.2.2.1.1,c.2.2.1.2),(!c.2.2.2.1,(hid (enc (flP (dec c.2.2.2.2.1))),hid (enc (flP (dec c.2.2.2.2.2))))))))]|false=>none)|false=>none)|false=>none
def aiW:Cn 154 [tCU]:=cn fun(c:BCU)=>lf (uY c.2.2.1∧okP 4000 c.2.2.2.2.1∧okP 4000 c.2.2.2.2.2) [.d tCU (xB c)] fun h=>by
 refine aA Me (WZ c) ⟨0,?_⟩
 obtain⟨hc,hf,ht⟩:=h
 have e:okR c.2.2.1.1:=by
  obtain⟨l,hl,bl⟩:=aB hc.1
  rw[hl,rY,eO]
  exact alI (H5 (q:=l.1) (by decide))
 unfold WZ
 rw[dT e,dT hf,dT ht]
 simp only[bO]
 rfl
def Yh:List En:=enT aht::enL aiW::Me
def XB(c:BO3)(f p q:BP)(_k:KT):Option (List RV):=og (decide (ok Ln 300 c∧okP 4000 p∧okP 4000 f)) (og (decide (ok Ln 300 c∧okP 4000 q∧okP 4000 f)) (match !((decide ((jI a8 (ptd (dec c) (dec p)) (ptd (dec c) (dec f)))<0))==(decide ((jI a8 (ptd (dec c) (dec q)) (ptd (dec c) (dec f)))<0)))with|true=>(match decide ((jI a8 (ptd (dec c) (dec q)) (ptd (dec c) (dec f)))<0)with|true=>some [RV.d aoX (-1)]|false=>some [RV.d aoX 1])|false=>(og (decide (ok Ln 300 c∧okP 4000 p∧okP 4000 q)) (some [RV.d aoX (jI a8 (ptd (dec c) (dec p)) (ptd (dec c) (dec q)))]))))
def aib:Cn 153 [tO,tP,tP,tP]:=cn fun(c:BO3) (f p q:BP)=>lf (ok Ln 300 c∧okP 4000 f∧okP 4000 p∧okP 4000 q) [.d aoX (jT a8 (ptd (dec c) (dec f)) (ptd (dec c) (dec p)) (ptd (dec c) (dec q)))] fun h=>by
 refine aA Yh (XB c f p q) ⟨0,?_⟩
 obtain⟨hc,hf,hp,hq⟩:=h
 unfold XB jT
 rw[dT (show ok Ln 300 c∧okP 4000 p∧okP 4000 f from⟨hc,hp,hf⟩),dT (show ok Ln 300 c∧okP 4000 q∧okP 4000 f from⟨hc,hq,hf⟩),dT (show ok Ln 300 c∧okP 4000 p∧okP 4000 q from⟨hc,hp,hq⟩)]
 cases decide (jI a8 (ptd (dec c) (dec p)) (ptd (dec c) (dec f))<0)<;>cases decide (jI a8 (ptd (dec c) (dec q)) (ptd (dec c) (dec f))<0)<;>rfl
def X9:List En:=enT aib::Yh
def Wy(c:BCU)(p q:BP)(_k:KT):Option (List RV):=match !c.1 with|true=>(og (decide (okP 4000 p∧okP 4000 q)) (og (decide (okP 4000 c.2.2.2.2.1∧okP 4000 c.2.2.2.2.2)) (match decide ((aX (dec c.2.2.2.2.1) (dec c.2.2.2.2.2))>0)with|true=>some [RV.d aoX (i64.wrap (0-(aX (dec p) (dec q))))]|false=>some [RV.d aoX (aX (dec p) (dec q))])))|false=>(match !c.2.2.2.1 with|true=>(og (decide (ok Ln 300 c.2.2.1∧okP 4000 c.2.2.2.2.1∧okP 4000 p∧okP 4000 q)) (some [RV.d aoX (jT a8 (ptd (dec c.2.2.1) (dec c.2.2.2.2.1)) (ptd (dec c.2.2.1) (dec p)) (ptd (dec c.2.2.1) (dec q)))]))|false=>(og (decide (uY c.2.2.1∧okP 4000 c.2.2.2.2.1∧okP 4000 c.2.2.2.2.2)) (og (decide (okP 4000 p)) (og (decide (okP 4000 q)) (og (decide (ok Ln 300 ((((hid (xB c)).2).2).1)∧okP 4000 ((((((hid (xB c)).2).2).2).2).1)∧okP 4000 (hid (enc (flP (dec p))))∧okP 4000 (hid (enc (flP (dec q)))))) (some [RV.d aoX (jT a8 (ptd (dec ((((hid (xB c)).2).2).1)) (dec ((((((hid (xB c)).2).2).2).2).1))) (ptd (dec ((((hid (xB c)).2).2).1)) (dec (hid (enc (flP (dec p)))))) (ptd (dec ((((hid (xB c)).2).2).1)) (dec (hid (enc (flP (dec q)))))))]))))))
def Is:Cn 61 [tCU,tP,tP]:=cn fun(c:BCU) (p q:BP)=>lf (okC 4000 c∧okP 4000 p∧okP 4000 q) [.d aoX (dg (dC c) (dec p) (dec q))] fun h=>by
 refine aA X9 (Wy c p q) ⟨0,?_⟩
 obtain⟨hc,hp,hq⟩:=h
 have xb:=wq (dec p) (dec q)
 obtain⟨ar,li,ci,cw,fr,to⟩:=c
 obtain⟨c1,c2,c3,c4⟩:=hc
 simp only at c1 c2 c3 c4
 unfold Wy dg
 cases ar
 ·simp only[anD,aT (x:= -aX (dec p) (dec q)) (by omega) (by omega),dT (show okP 4000 p∧okP 4000 q from⟨hp,hq⟩),dT (show okP 4000 fr∧okP 4000 to from⟨c3,c4⟩),Bool.not_false]
  simp only[dC,frC,toC,cond_false]
  by_cases hd:aX (dec fr) (dec to)>0
  ·simp[hd]
  ·simp[hd]
 ·have e:=(c1 rfl).1
  have hci:=c1 rfl
  obtain⟨f1,f2⟩:=abn e
  cases cw
  ·simp only[dT (show ok Ln 300 ci∧okP 4000 fr∧okP 4000 p∧okP 4000 q from⟨e,c3,hp,hq⟩),Bool.not_true,Bool.not_false]
   rfl
  ·have hm:ok Ln 300 (xB (true,li,ci,true,fr,to)).2.2.1∧okP 4000 (xB (true,li,ci,true,fr,to)).2.2.2.2.1∧okP 4000 (enc (flP (dec p)))∧okP 4000 (enc (flP (dec q))):=⟨f1,GQ c3,GQ hp,GQ hq⟩
   have m1:(dec (xB (true,li,ci,true,fr,to)).2.2.1:Ln)=flC (dec ci):=f2
   have m2:(dec (xB (true,li,ci,true,fr,to)).2.2.2.2.1:Pt)=flP (dec fr):=az _
   simp only[bO,dT (show uY ci∧okP 4000 fr∧okP 4000 to from⟨hci,c3,c4⟩),dT hp,dT hq,dT hm,Bool.not_true,m1,m2,az]
   rfl
def agy:List En:=enT Is::X9
def Zm(c:BCU)(p:BP)(_k:KT):Option (List RV):=og (decide (okC 3500 c∧okP 3500 p)) (match ge (dC c) (dec p)with|true=>(og (decide (okC 4000 c∧okP 4000 c.2.2.2.2.1∧okP 4000 p)) (match decide ((dg (dC c) (dec c.2.2.2.2.1) (dec p))≤0)with|true=>(og (decide (okC 4000 c∧okP 4000 p∧okP 4000 c.2.2.2.2.2)) (some [RV.d .bool (decide ((dg (dC c) (dec p) (dec c.2.2.2.2.2))≤0))]))|false=>some [RV.d .bool false]))|false=>some [RV.d .bool false])
def G7:Cn 58 [tCU,tP]:=cn fun(c:BCU) (p:BP)=>lf (okC 3500 c∧okP 3500 p) [.d .bool (onR (dC c) (dec p))] fun h=>by
 refine aA agy (Zm c p) ⟨0,?_⟩
 obtain⟨hc,hp⟩:=h
 have hc4:=JY (k:=4000) hc (by decide) (by decide)
 have hp4:=qk (k:=4000) hp (by decide) (by decide)
 unfold Zm onR
 rw[dT (show okC 3500 c∧okP 3500 p from⟨hc,hp⟩),dT (show okC 4000 c∧okP 4000 c.2.2.2.2.1∧okP 4000 p from⟨hc4,hc4.2.2.1,hp4⟩),dT (show okC 4000 c∧okP 4000 p∧okP 4000 c.2.2.2.2.2 from⟨hc4,hp4,hc4.2.2.2⟩)]
 cases ge (dC c) (dec p)
 ·rfl
 ·show(match decide (dg (dC c) (frC (dC c)) (dec p)≤0)with|true=>some [RV.d .bool (decide (dg (dC c) (dec p) (toC (dC c))≤0))]|false=>some [RV.d .bool false])=_
  cases decide (dg (dC c) (frC (dC c)) (dec p)≤0)<;>rfl
section
namespace RE
theorem Hg{u v:RE}:cls u v=2↔v=0∧¬0<u:=by
 unfold cls
 rcases bh v with⟨a,h1⟩|⟨a,h1⟩|⟨a,h1⟩<;>rcases bh u with⟨b,h2⟩|⟨b,h2⟩|⟨b,h2⟩<;>rw[h1,h2]
 all_goals first
  |exact⟨fun _=>⟨a,fun h=>by rw[b]at h;exact lt_irrefl _ h⟩,fun _=>rfl⟩
  |exact⟨fun _=>⟨a,fun h=>lt_irrefl _ (cW h b)⟩,fun _=>rfl⟩
  |(refine⟨fun h=>absurd h (by decide),fun h=>?_⟩;first|(rw[h.1]at a;exact absurd a (lt_irrefl _))|exact absurd b h.2)
theorem ur{u v Q:RE}(hQ:0<Q)(h:u*u+v*v=Q)(hv:v=0)(hu:¬0<u):u<0:=by
 rcases mp u 0 with e|e|e
 ·exact e
 ·rw[e,hv,mul_zero,add_zero]at h
  rw[←h]at hQ
  exact absurd hQ (lt_irrefl _)
 ·exact absurd e hu
theorem JB(u w Q:RE):((u-(0))*(u-(w)))+((w-(0))*(u-(w)))+((Q-(u*u)))+((w*w-(Q)))=0:=by grind
theorem Hv(u w Q:RE)(h1:u*u=Q)(h2:w*w=Q)(h3:0<u)(h4:0<w):u≤w:=fun hg=>far (aI (aI (aI (mul_pos (aK h3) (aK hg)) (le_of_lt (mul_pos (aK h4) (aK hg)))) (aE (oa h1))) (aE (mM h2))) (JB u w Q)
theorem JP(u w Q:RE):((0-(u))*(u-(w)))+((0-(w))*(u-(w)))+((u*u-(Q)))+((Q-(w*w)))=0:=by grind
theorem Iz(u w Q:RE)(h1:u*u=Q)(h2:w*w=Q)(h3:u<0)(h4:w<0):u≤w:=fun hg=>far (aI (aI (aI (mul_pos (aK h3) (aK hg)) (le_of_lt (mul_pos (aK h4) (aK hg)))) (aE (mM h1))) (aE (oa h2))) (JP u w Q)
theorem Cj(x y c:RE)(h1:x-c<y-c):x<y:=by grind
theorem JH(x y c:RE)(h1:x-c=y-c):x≤y:=by grind
theorem KL(x y c:RE)(h1:x-c=y-c):y≤x:=by grind
theorem gE(x y c:RE)(h1:x-c=y-c):x=y:=le_antisymm (JH x y c h1) (KL x y c h1)
theorem Ds(x c:RE): -x- -c= -(x-c):=by grind
theorem SA(x y:RE): -x- -y=y-x:=by grind
theorem aae(a b r:RE): -a+ -b*r= -(a+b*r):=by grind
theorem Of(x q:RE)(h1:x+ -q=0):x≤q:=by grind
theorem Si(x q:RE)(h1:x+ -q=0):q≤x:=by grind
theorem I6(x q:RE)(h1:x+ -q=0):x=q:=le_antisymm (Of x q h1) (Si x q h1)
section
variable {x y x' y' cx cy Q:RE}
theorem c9(hQ:0<Q)(h:(x-cx)*(x-cx)+(y-cy)*(y-cy)=Q)(h':(x'-cx)*(x'-cx)+(y'-cy)*(y'-cy)=Q){L:List RE}(hx:x∈L)(hx':x'∈L):
  ml (cls (x-cx) (y-cy)) (rk (fun a b:RE=>a<b) L x) (cls (x'-cx) (y'-cy)) (rk (fun a b:RE=>a<b) L x')=true:=by
 unfold ml
 rw[alJ]
 have vv:∀{u v:RE},u*u+v*v=Q→v=0→u*u=Q:=fun h e=>by rw[e,mul_zero,add_zero]at h;exact h
 refine⟨?_,?_⟩
 ·by_cases e:cls (x-cx) (y-cy)=0
  ·obtain⟨e1,e2⟩:=Jt.1 e
   rw[e]
   by_cases e':cls (x'-cx) (y'-cy)=0
   ·obtain⟨f1,f2⟩:=Jt.1 e'
    rw[e']
    have:=gE _ _ cx (le_antisymm (Hv _ _ _ (vv h e1) (vv h' f1) e2 f2) (Hv _ _ _ (vv h' f1) (vv h e1) f2 e2))
    rw[this]
    simp
   ·have hle:=aa6 _ _ _ _ _ h h' e1 e2 (ir (y'-cy))
    have hlt:x'-cx<x-cx:=by
     rcases mp (x'-cx) (x-cx)with g|g|g
     ·exact g
     ·exfalso
      have z:=Ri (x-cx) (x'-cx) (y'-cy) Q (vv h e1) h' (by rw[g])
      exact e' (Jt.2 ⟨wv z,by rw[g];exact e2⟩)
     ·exact absurd g ((AF _ _).1 hle)
    have:=D5 lt_lin (Cj _ _ _ hlt) hx'
    rw[show(cls (x'-cx) (y'-cy)==0)=false by simp[e']]
    simp[this]
  ·simp[e]
 ·by_cases e:cls (x-cx) (y-cy)=2
  ·obtain⟨e1,e2⟩:=Hg.1 e
   have e3:=ur hQ h e1 e2
   rw[e]
   by_cases e':cls (x'-cx) (y'-cy)=2
   ·obtain⟨f1,f2⟩:=Hg.1 e'
    have f3:=ur hQ h' f1 f2
    rw[e']
    have:=gE _ _ cx (le_antisymm (Iz _ _ _ (vv h e1) (vv h' f1) e3 f3) (Iz _ _ _ (vv h' f1) (vv h e1) f3 e3))
    rw[this]
    simp
   ·have hle:=abF _ _ _ _ _ h h' e1 e3 (ir (y'-cy))
    have hlt:x-cx<x'-cx:=by
     rcases mp (x-cx) (x'-cx)with g|g|g
     ·exact g
     ·exfalso
      have z:=Ri (x-cx) (x'-cx) (y'-cy) Q (vv h e1) h' (by rw[g])
      exact e' (Hg.2 ⟨wv z,by rw[←g];exact e2⟩)
     ·exact absurd g ((AF _ _).1 hle)
    have:=D5 lt_lin (Cj _ _ _ hlt) hx
    rw[show(cls (x'-cx) (y'-cy)==2)=false by simp[e']]
    simp[this]
  ·simp[e]
end
def onCi(c:Ln)(p:Pt):Prop:=(pX p-of c.1)*(pX p-of c.1)+(pY p-of c.2.1)*(pY p-of c.2.1)=of c.2.2
theorem ins_on{c:Ln}{p:Pt}[Rpd p](h:oC c p=0):onCi c p:=by
 rw[Ca]at h
 exact I6 _ _ (pP.1 (Int.neg_eq_zero.1 h))
theorem gW{c:Ln}{p:Pt}[Rpd p]:upR c p=upA (cls (pX p-of c.1) (pY p-of c.2.1)):=by
 unfold upR
 rw[cmpTR_re Hw,cmpTR_re lC,sA,UM,abx]
theorem Ey(p:Pt):pX (flP p)= -pX p:=by
 unfold pX flP v2
 rw[of_neg,of_neg]
 exact aae _ _ _
theorem agt(p:Pt):pY (flP p)=pY p:=rfl
theorem ve{c:Ln}{p:Pt}[h:Rpd p](hQ:0<c.2.2)(hp:onCi c p):upR (flC c) (flP p)=ufA (cls (pX p-of c.1) (pY p-of c.2.1)):=by
 unfold upR
 rw[cmpTR_re Hw,cmpTR_re lC,sA,UM,Ey,agt]
 show(decide (sg (pY p-of c.2.1)>0)||(sg (pY p-of c.2.1)==0&&decide (sg (-pX p-of (-c.1))>0)))=_
 rw[of_neg,Ds,rI]
 exact adU (iz hQ) hp
theorem eV{L:List RE}{p q:Pt}[Rpd p][Rpd q](hp:pX p∈L)(hq:pX q∈L):a8 (xP p) (xP q)=cI (rk (fun a b:RE=>a<b) L (pX p)) (rk (fun a b:RE=>a<b) L (pX q)):=by
 rw[cmpT_re lC lC,sA,sA]
 exact rM lt_lin sg_cmpO hp hq
theorem nX{L:List RE}{p q:Pt}[Rpd p][Rpd q](hp:pX p∈L)(hq:pX q∈L):a8 (xP (flP p)) (xP (flP q))=dI (rk (fun a b:RE=>a<b) L (pX p)) (rk (fun a b:RE=>a<b) L (pX q)):=by
 rw[cmpT_re lC lC,sA,sA,Ey,Ey,SA]
 exact rM lt_lin sg_cmpO hq hp
theorem arc_eq{ci:Ln}{F P T:Pt}[Rpd F][Rpd P][Rpd T](hQ:0<ci.2.2)(hF:onCi ci F)(hP:onCi ci P)(hT:onCi ci T):
  decide (gC a8 (ptd ci F) (ptd ci P) (ptd ci T)≤0)=(decide (jT a8 (ptd ci F) (ptd ci F) (ptd ci P)≤0)&&decide (jT a8 (ptd ci F) (ptd ci P) (ptd ci T)≤0))∧
  decide (gC a8 (ptd ci T) (ptd ci P) (ptd ci F)≤0)=(decide (jT a8 (ptd (flC ci) (flP F)) (ptd (flC ci) (flP F)) (ptd (flC ci) (flP P))≤0)&&decide (jT a8 (ptd (flC ci) (flP F)) (ptd (flC ci) (flP P)) (ptd (flC ci) (flP T))≤0)):=by
 have mF:pX F∈[pX F,pX P,pX T]:=by simp
 have mP:pX P∈[pX F,pX P,pX T]:=by simp
 have mT:pX T∈[pX F,pX P,pX T]:=by simp
 have hq:0<of ci.2.2:=iz hQ
 have bF:=iG lt_lin mF
 have bP:=iG lt_lin mP
 have bT:=iG lt_lin mT
 have cF:=gT (pX F-of ci.1) (pY F-of ci.2.1)
 have cP:=gT (pX P-of ci.1) (pY P-of ci.2.1)
 have cT:=gT (pX T-of ci.1) (pY T-of ci.2.1)
 have hcon:Fp (cls (pX F-of ci.1) (pY F-of ci.2.1)) (rk (fun a b:RE=>a<b) [pX F,pX P,pX T] (pX F)) (cls (pX P-of ci.1) (pY P-of ci.2.1)) (rk (fun a b:RE=>a<b) [pX F,pX P,pX T] (pX P)) (cls (pX T-of ci.1) (pY T-of ci.2.1)) (rk (fun a b:RE=>a<b) [pX F,pX P,pX T] (pX T))=true:=by
  unfold Fp
  rw[c9 hq hF hP mF mP,c9 hq hP hF mP mF,c9 hq hF hT mF mT,c9 hq hT hF mT mF,c9 hq hP hT mP mT,c9 hq hT hP mT mP]
  rfl
 have a1:=Tt ⟨_,cF⟩ ⟨_,cP⟩ ⟨_,cT⟩ ⟨_,bF⟩ ⟨_,bP⟩ ⟨_,bT⟩ hcon
 have a2:=adY ⟨_,cF⟩ ⟨_,cP⟩ ⟨_,cT⟩ ⟨_,bF⟩ ⟨_,bP⟩ ⟨_,bT⟩ hcon
 simp only at a1 a2
 refine⟨?_,?_⟩
 ·unfold ptd
  rw[gW,gW,gW,gQ (eV mP mF) (eV mT mF) (eV mP mT),fH (eV mF mF) (eV mP mF) (eV mF mP),fH (eV mP mF) (eV mT mF) (eV mP mT)]
  exact a1
 ·unfold ptd
  rw[gW,gW,gW,ve hQ hF,ve hQ hP,ve hQ hT,gQ (eV mP mT) (eV mF mT) (eV mP mF),fH (nX mF mF) (nX mP mF) (nX mF mP),fH (nX mP mF) (nX mT mF) (nX mP mT)]
  exact a2
theorem seg_eq{F P T:Pt}[Rpd F][Rpd P][Rpd T]:uu (aX F P) (aX P T)=ahv (aX F T) (aX F P) (aX P T):=by
 have mF:pR F∈[pR F,pR P,pR T]:=by simp
 have mP:pR P∈[pR F,pR P,pR T]:=by simp
 have mT:pR T∈[pR F,pR P,pR T]:=by simp
 rw[iW,iW,iW,rM jJ ik mF mP,rM jJ ik mP mT,rM jJ ik mF mT]
 exact Bq ⟨_,iG jJ mF⟩ ⟨_,iG jJ mP⟩ ⟨_,iG jJ mT⟩
end RE
structure Crv (c:Cv):Prop where
 f:Rpd (frC c)
 t:Rpd (toC c)
 q:c.1=true→0<(ciC c).2.2∧RE.onCi (ciC c) (frC c)∧RE.onCi (ciC c) (toC c)
theorem aeh{c:Cv}(h:Crv c){p:Pt}(hp:Rpd p):onP c p=onR c p:=by
 have hf:=h.f
 have ht:=h.t
 unfold onP onR
 cases hs:ge c p
 ·rfl
 ·simp only[amN]
  unfold hZ dg
  obtain⟨ar,li,ci,cw,fr,to⟩:=c
  have hf:Rpd fr:=hf
  have ht:Rpd to:=ht
  cases ar
  ·exact RE.seg_eq (F:=fr) (P:=p) (T:=to)
  ·obtain⟨q1,q2,q3⟩:=h.q rfl
   have hi:oC ci p=0:=by
    have:(oC ci p==0)=true:=hs
    exact amR.1 this
   obtain⟨e1,e2⟩:=RE.arc_eq (ci:=ci) (F:=fr) (P:=p) (T:=to) q1 q2 (RE.ins_on hi) q3
   cases cw
   ·exact e1
   ·exact e2
end
def eP(l:Ln)(p:Pt):Rt:=mkR (-l.2.1*p.1+l.1*p.2.2.1) (-l.2.1*p.2.1+l.1*p.2.2.2.1) p.2.2.2.2
def rS(c:Cv)(p:Pt):Bool:=
 bif decide (a8 (eP (lnC c) (frC c)) (eP (lnC c) (toC c))>0)then decide (a8 (eP (lnC c) (toC c)) (eP (lnC c) p)≤0)&&decide (a8 (eP (lnC c) p) (eP (lnC c) (frC c))≤0)
 else decide (a8 (eP (lnC c) (frC c)) (eP (lnC c) p)≤0)&&decide (a8 (eP (lnC c) p) (eP (lnC c) (toC c))≤0)
def u5(a b:Rt):Rt:=bif decide (a8 b a<0)then b else a
def zeV(v:Rat×Rat):Bool:=decide (v.1=0)&&decide (v.2=0)
def qD(c:Ln)(d:Rat×Rat):Pt:=mkP (mkR c.1 d.1 (c.2.2/bI d d)) (mkR c.2.1 d.2 (c.2.2/bI d d))
def fe(c:Cv)(d:Rat×Rat):Bool:=bif c.1&&!(zeV d)then onP c (qD (ciC c) d)else c.1
def Cg(c:Cv)(v:Rat×Rat):Rt:=u5 (sqP (frC c) v) (sqP (toC c) v)
def aV(c:Cv)(v:Rat×Rat):Rat×Rat:=cU (ctr (ciC c)) v
def me(c:Cv)(v:Rat×Rat):Rt:=
 bif c.1 then(bif fe c (aV c v)then mkR (bI (aV c v) (aV c v)+(ciC c).2.2) (-2) (bI (aV c v) (aV c v)*(ciC c).2.2)else Cg c v)
 else(bif rS c (atP v)then(bI (cU v (dV (lnC c) v)) (cU v (dV (lnC c) v)),0,0)else Cg c v)
def uf(c:Cv)(v:Rat×Rat)(r:Rat):Int:=bif decide (r<0)then 1 else fN (me c v) (r*r)
instance NH {l:Ln} {p:Pt} [h:Rpd p]:Rdd (eP l p):=by
 have:Nn p.2.2.2.2:=inferInstance
 exact tW
instance ajQ {l:Ln} {p:Pt} {i j:Nat} [h:Bd l i] [h':Bd p j] [hp:Rpd p]:Bd (eP l p) (4*i+4*j+5):=by
 have a1:Bd (-l.2.1*p.1+l.1*p.2.2.1) _:=inferInstance
 have a2:Bd (-l.2.1*p.2.1+l.1*p.2.2.2.1) _:=inferInstance
 exact(adq (a:= -l.2.1*p.1+l.1*p.2.2.1) (b:= -l.2.1*p.2.1+l.1*p.2.2.2.1) (c:=p.2.2.2.2)).mono (cV (by omega) (by omega))
theorem PM(a b:Rt):u5 a b=a∨u5 a b=b:=by
 unfold u5
 cases decide (a8 b a<0)
 ·exact .inl rfl
 ·exact .inr rfl
instance Qi {a b:Rt} [h:Rdd a] [h':Rdd b]:Rdd (u5 a b):=by
 rcases PM a b with e|e<;>rw[e]<;>assumption
instance ajn {a b:Rt} {i j:Nat} [h:Bd a i] [h':Bd b j]:Bd (u5 a b) (mx i j):=by
 rcases PM a b with e|e<;>rw[e]
 ·exact h.mono (AI _ _)
 ·exact h'.mono (Bp _ _)
theorem pi(d:Rat×Rat):0≤bI d d:=by
 unfold bI
 have h:∀a:Rat,0≤a*a:=fun a=>by
  rcases(by grind:0≤a∨0≤ -a)with h|h
  ·exact al8 h h
  ·have:=al8 h h;grind
 have:=h d.1
 have:=h d.2
 grind
theorem xH{d:Rat×Rat}(h:zeV d=false):bI d d≠0:=by
 refine j8 ?_
 unfold zeV at h
 by_cases e:d.1=0
 ·rw[alF e,amN]at h
  exact .inr (amz h)
 ·exact .inl e
theorem qr(a b d e s:Rat):vu (mkR a d s) (mkR b e s):=by
 unfold vu mkR
 cases fM s
 ·simp only[cond_false]
  by_cases hd:d=0
  ·rw[alF hd];exact .inl rfl
  ·by_cases he:e=0
   ·rw[alF he];exact .inr (.inl rfl)
   ·rw[alH hd,alH he];exact .inr (.inr rfl)
 ·exact .inl rfl
theorem Gy{a b:Rat}(ha:0≤a)(hb:0≤b):0≤a/b:=by
 by_cases h0:b=0
 ·rw[h0,aom,Rat.inv_zero,Rat.mul_zero]
  exact Rat.le_refl
 ·rcases(by grind:0≤a/b∨0< -(a/b))with h|h
  ·exact h
  ·have h1:=amy h (show 0<b by grind)
   have h2:a/b*b=a:=al5 h0
   grind
class Cir (c:Ln):Prop where q:0<c.2.2
instance acC {c:Ln} {d:Rat×Rat} [h:Cir c]:Nn (c.2.2/bI d d):=⟨Gy (by have:=h.q;grind) (pi d)⟩
instance aj4 {c:Ln} {d:Rat×Rat} [h:Cir c]:Rpd (qD c d):=WE tW tW (qr _ _ _ _ _)
instance UB {c:Ln} {d:Rat×Rat} [h:Cir c]:Nn (bI d d*c.2.2):=⟨al8 (pi d) (by have:=h.q;grind)⟩
instance ajr {c:Ln} {d:Rat×Rat} {i j:Nat} [h:Bd c i] [h':Bd d j]:Bd (qD c d) (2*i+5*j+2):=by
 have s1:Bd (c.2.2/bI d d) _:=inferInstance
 have a1:Bd (mkR c.1 d.1 (c.2.2/bI d d)) _:=inferInstance
 have a2:Bd (mkR c.2.1 d.2 (c.2.2/bI d d)) _:=inferInstance
 have b1:=a1.mono (k:=2*i+5*j+2) (by omega)
 have b2:=a2.mono (k:=2*i+5*j+2) (by omega)
 have e:∀n,mx n n=n:=fun n=>by unfold mx;rw[alF (alL n)];rfl
 exact(aco (h:=b1) (h':=b2)).mono (by
  simp only[e]
  refine cV (by omega) (cV (by omega) (cV (by omega) (cV (by omega) (cV (by omega) (by omega))))))
def VD(d a b a' b':Int):Bool:=bif decide (d>0)then decide (b'≤0)&&decide (a'≤0)else decide (a≤0)&&decide (b≤0)
theorem Ud:∀f p t:Fin 3,uu (cI f.1 p.1) (cI p.1 t.1)=VD (cI f.1 t.1) (cI f.1 p.1) (cI p.1 t.1) (cI p.1 f.1) (cI t.1 p.1):=by decide+kernel
theorem VL(a b:Int):uu (-a) (-b)=uu a b:=by
 unfold uu
 have e1:(-a==0)=(a==0):=anv.2 (by simp only[amR];omega)
 have e2:(-b==0)=(b==0):=anv.2 (by simp only[amR];omega)
 have e3:(-a== -b)=(a==b):=anv.2 (by simp only[amR];omega)
 rw[e1,e2,e3]
namespace RE
theorem Oq(a b x s y t r:RE): -b*x+a*y+(-b*s+a*t)*r= -b*(x+s*r)+a*(y+t*r):=by grind
theorem ahR(a b x y u w:RE):(a*a+b*b)*(x-u)= -b*(-b*x+a*y-(-b*u+a*w))+a*(a*x+b*y-(a*u+b*w)):=by grind
theorem ahu(a b x y u w:RE):(a*a+b*b)*(y-w)=a*(-b*x+a*y-(-b*u+a*w))+b*(a*x+b*y-(a*u+b*w)):=by grind
theorem Uy(a b c x y u w:RE)(h:a*x+b*y=c)(h':a*u+b*w=c):(a*a+b*b)*(x-u)= -b*(-b*x+a*y-(-b*u+a*w)):=by
 rw[ahR a b x y u w,h,h',sub_self,mul_zero,add_zero]
theorem Td(a b c x y u w:RE)(h:a*x+b*y=c)(h':a*u+b*w=c):(a*a+b*b)*(y-w)=a*(-b*x+a*y-(-b*u+a*w)):=by
 rw[ahu a b x y u w,h,h',sub_self,mul_zero,add_zero]
def tL(l:Ln)(p:Pt):RE:= -of l.2.1*pX p+of l.1*pY p
theorem Mc(l:Ln){p:Pt}[_h:Rpd p]:vR (eP l p)=tL l p:=by
 unfold eP tL pX pY
 rw[vR_mk]
 unfold v2
 simp only[of_add,aF,of_neg]
 exact Oq _ _ _ _ _ _ _
theorem te{l:Ln}{p q:Pt}[Rpd p][Rpd q]:a8 (eP l p) (eP l q)=sg (tL l p-tL l q):=by
 rw[cmpT_re (NH (l:=l) (p:=p)).nn (NH (l:=l) (p:=q)).nn,Mc,Mc]
def qE(l:Ln)(p:Pt):Prop:=of l.1*pX p+of l.2.1*pY p=of l.2.2
theorem FK{l:Ln}{p:Pt}[Rpd p](h:rX l p=0):qE l p:=by
 rw[A8]at h
 exact I6 _ _ (pP.1 h)
theorem QC{l:Ln}{p q:Pt}(hp:qE l p)(hq:qE l q):(of l.1*of l.1+of l.2.1*of l.2.1)*(pX p-pX q)= -of l.2.1*(tL l p-tL l q):=by
 unfold qE at hp hq
 unfold tL
 exact Uy _ _ _ _ _ _ _ hp hq
theorem Qq{l:Ln}{p q:Pt}(hp:qE l p)(hq:qE l q):(of l.1*of l.1+of l.2.1*of l.2.1)*(pY p-pY q)=of l.1*(tL l p-tL l q):=by
 unfold qE at hp hq
 unfold tL
 exact Td _ _ _ _ _ _ _ hp hq
theorem GC{a b:Rat}(h:a≠0∨b≠0):0<of a*of a+of b*of b:=by
 have h1:=j8 h
 have h2:0≤a*a:=by
  rcases(by grind:0≤a∨0≤ -a)with h|h
  ·exact al8 h h
  ·have:=al8 h h;grind
 have h3:0≤b*b:=by
  rcases(by grind:0≤b∨0≤ -b)with h|h
  ·exact al8 h h
  ·have:=al8 h h;grind
 rw[←aF,←aF,←of_add]
 exact iz (by grind)
theorem M2{q:Rat}(h:q≠0):sg (of q)=1∨sg (of q)= -1:=by
 rw[sg_of]
 rcases(by grind:q<0∨0<q)with h'|h'
 ·exact .inr (dE h')
 ·exact .inl (dq h')
theorem QJ{l:Ln}(hl:l.1≠0∨l.2.1≠0):∃s:Int,(s=1∨s= -1)∧∀p q:Pt,Rpd p→Rpd q→qE l p→qE l q→aX p q=s*sg (tL l p-tL l q):=by
 have hn:=GC hl
 by_cases hb:l.2.1=0
 ·have ha:l.1≠0:=hl.resolve_right (fun h=>h hb)
  refine⟨sg (of l.1),M2 ha,fun p q hp hq op oq=>?_⟩
  rw[iW]
  unfold lxc pR
  have e1:=QC op oq
  have e2:=Qq op oq
  have s1:=congrArg sg e1
  have s2:=congrArg sg e2
  rw[dp,dt hn,dp,hb,nS,DX,db]at s1
  rw[dp,dt hn,dp]at s2
  rw[show sg (pX p-pX q)=0 by omega]
  show sg (pY p-pY q)=_
  omega
 ·refine⟨-sg (of l.2.1),by rcases M2 hb with h|h<;>rw[h]<;>simp,fun p q hp hq op oq=>?_⟩
  rw[iW]
  unfold lxc pR
  have e1:=QC op oq
  have e2:=Qq op oq
  have s1:=congrArg sg e1
  have s2:=congrArg sg e2
  rw[dp,dt hn,dp,rI]at s1
  rw[dp,dt hn,dp]at s2
  rcases bh (tL l p-tL l q)with⟨_,h⟩|⟨_,h⟩|⟨_,h⟩<;>rw[h]at s1 s2 ⊢ <;>rcases M2 hb with g|g<;>rw[g]at s1 ⊢
  all_goals
   simp only[amX,an1,anY,aoy,Int.neg_neg]at s1 s2 ⊢
   try rw[s1]
   try rw[s2]
   try rfl
theorem P5{l:Ln}(hl:l.1≠0∨l.2.1≠0){F P T:Pt}[hF:Rpd F][hP:Rpd P][hT:Rpd T](oF:qE l F)(oP:qE l P)(oT:qE l T):
  uu (aX F P) (aX P T)=VD (sg (tL l F-tL l T)) (sg (tL l F-tL l P)) (sg (tL l P-tL l T)) (sg (tL l P-tL l F)) (sg (tL l T-tL l P)):=by
 obtain⟨s,hs,h⟩:=QJ hl
 have mF:tL l F∈[tL l F,tL l P,tL l T]:=by simp
 have mP:tL l P∈[tL l F,tL l P,tL l T]:=by simp
 have mT:tL l T∈[tL l F,tL l P,tL l T]:=by simp
 have e:uu (aX F P) (aX P T)=uu (sg (tL l F-tL l P)) (sg (tL l P-tL l T)):=by
  rw[h F P hF hP oF oP,h P T hP hT oP oT]
  rcases hs with rfl|rfl
  ·rw[amX,amX]
  ·rw[show(-1:Int)*sg (tL l F-tL l P)= -sg (tL l F-tL l P) by omega,show(-1:Int)*sg (tL l P-tL l T)= -sg (tL l P-tL l T) by omega,VL]
 have c:=fun{x y:RE} (hx:x∈[tL l F,tL l P,tL l T]) (hy:y∈[tL l F,tL l P,tL l T])=>rM lt_lin sg_cmpO hx hy
 rw[e,c mF mP,c mP mT,c mF mT,c mP mF,c mT mP]
 exact Ud ⟨_,iG lt_lin mF⟩ ⟨_,iG lt_lin mP⟩ ⟨_,iG lt_lin mT⟩
end RE
theorem IS{l:Ln}(hl:l.1≠0∨l.2.1≠0)(v:Rat×Rat):l.1*(dV l v).1+l.2.1*(dV l v).2=l.2.2:=by
 have hn:=j8 hl
 have he:kY l v*(l.1*l.1+l.2.1*l.2.1)=l.1*v.1+l.2.1*v.2-l.2.2:=by
  unfold kY
  exact al5 hn
 unfold dV
 simp only
 grind
def gdC(c:BCU):Prop:=okC 580 c∧ge (dC c) (frC (dC c))=true∧ge (dC c) (toC (dC c))=true
theorem ky{k:Nat}{x:BP}(h:okP k x):Rpd (dec x):=by
 obtain⟨p,rfl,bp,rp⟩:=a9 h
 rw[az]
 exact rp
section
namespace RE
abbrev PE:=RE×RE
def crs(u w:PE):RE:=u.1*w.2-u.2*w.1
def dtE(u w:PE):RE:=u.1*w.1+u.2*w.2
def ysC(k:Nat):Int:=if k=1 then 1 else if k=3 then-1 else 0
def msC(i:Nat):Int:=(i:Int)-3
def crI(k i l j:Nat):Int:=addS (jW (msC i)*ysC l) (-(ysC k*jW (msC j))) (cI (msC i).natAbs (msC j).natAbs)
def Dm(k i l j:Nat):Bool:=(k !=0||decide (0<msC i))&&(k !=2||decide (msC i<0))&&(!(k==0||k==2)||(bif l==0||l==2 then(msC i).natAbs==(msC j).natAbs else decide ((msC j).natAbs<(msC i).natAbs)))
def AR(a b c:Int):Bool:=bif decide (0≤a)then decide (0≤b)&&decide (0≤c)else !(decide (c<0)&&decide (b<0))
theorem VB:∀kF kT:Fin 4,∀iF iT:Fin 7,(Dm kF.1 iF.1 kT.1 iT.1&&Dm kT.1 iT.1 kF.1 iF.1&&!(kF.1==kT.1&&iF.1==iT.1))=true→∀kP:Fin 4,∀iP:Fin 7,(Dm kF.1 iF.1 kP.1 iP.1&&Dm kP.1 iP.1 kF.1 iF.1&&Dm kT.1 iT.1 kP.1 iP.1&&Dm kP.1 iP.1 kT.1 iT.1)=true→
  decide (gC cI (upA kF.1,iF.1) (upA kP.1,iP.1) (upA kT.1,iT.1)≤0)=AR (crI kF.1 iF.1 kT.1 iT.1) (crI kF.1 iF.1 kP.1 iP.1) (crI kP.1 iP.1 kT.1 iT.1):=by decide+kernel
theorem HG{x:RE}(h:x≠0):0<x*x:=by
 rcases mp x 0 with e|e|e
 ·have:=mul_pos (jP e) (jP e)
  rw[neg_mul,mul_neg,neg_neg]at this
  exact this
 ·exact absurd e h
 ·exact mul_pos e e
theorem Gt(i j:Nat):cI i j=jW ((i:Int)-(j:Int)):=by
 unfold cI jW
 by_cases h:i<j
 ·rw[ama h,ama (by omega)]
 ·by_cases h':i=j
  ·rw[al3 h,ama h',al3 (by omega),ama (by omega)]
  ·rw[al3 h,al3 h',al3 (by omega),al3 (by omega)]
theorem B0{n:Int}(h:0<n):jW n=1:=by unfold jW;rw[al3 (by omega),al3 (by omega)]
theorem Bk{n:Int}(h:n<0):jW n= -1:=by unfold jW;rw[ama h]
def rkS(L:List RE)(x:RE):Nat:=rk (fun a b:RE=>a<b) (0::L) (x*x)
def mI(L:List RE)(x:RE):Int:=sg x*(rkS L x:Int)
def ixL(L:List RE)(x:RE):Nat:=(mI L x+3).toNat
theorem i7{L:List RE}{x:RE}(h:x≠0):0<rkS L x:=by
 unfold rkS rk
 rw[ama (HG h)]
 omega
theorem Jo{L:List RE}{x y:RE}(hx:x*x∈L)(hy:y*y∈L):sg (x*x-y*y)=cI (rkS L x) (rkS L y):=rM (c:=fun x y=>sg (x-y)) lt_lin sg_cmpO (alV _ hx) (alV _ hy)
theorem Iw{x:RE}(h:0<x):x≠0:=fun e=>by rw[e]at h;exact lt_irrefl _ h
theorem HC{x:RE}(h:x<0):x≠0:=fun e=>by rw[e]at h;exact lt_irrefl _ h
theorem Px(L:List RE)(x:RE):jW (mI L x)=sg x:=by
 unfold mI
 rcases bh x with⟨h,e⟩|⟨h,e⟩|⟨h,e⟩<;>rw[e]
 ·have:=i7 (L:=L) (Iw h)
  exact B0 (by omega)
 ·rw[aoC];rfl
 ·have:=i7 (L:=L) (HC h)
  exact Bk (by omega)
theorem QW(x y:RE)(h1:x<0)(h2:y<0):x+y<0:=by grind
theorem adz(a b c d:RE):a*d*(a*d)- -(b*c)* -(b*c)=a*a*(c*c+d*d)-(a*a+b*b)*(c*c):=by grind
theorem sub_zero(x:RE):x-0=x:=by grind
theorem zero_sub(x:RE):0-x= -x:=by grind
theorem abR(x y c:RE):x-c-(y-c)=x-y:=by grind
theorem agx(x y q:RE):x*q-q*y=q*(x-y):=by grind
theorem EP(x y:RE)(h1:x-y=0):x≤y:=by grind
theorem Gw(x y:RE)(h1:x-y=0):y≤x:=by grind
theorem fY(x y:RE)(h1:x-y=0):x=y:=le_antisymm (EP x y h1) (Gw x y h1)
theorem KK(a b c:RE)(h1:a+b=a+c):b≤c:=by grind
theorem JT(a b c:RE)(h1:a+b=a+c):c≤b:=by grind
theorem RG(a b c:RE)(h1:a+b=a+c):b=c:=le_antisymm (KK a b c h1) (JT a b c h1)
theorem Cp(x y:RE):((x-(0))*(x-(y)))+((y-(0))*(x-(y)))+((y*y-(x*x)))=0:=by grind
theorem JF(x y:RE)(h1:x*x=y*y)(h2:0<x)(h3:0<y):x≤y:=fun hg=>far (aI (aI (mul_pos (aK h2) (aK hg)) (le_of_lt (mul_pos (aK h3) (aK hg)))) (aE (oa h1))) (Cp x y)
theorem C3(x y:RE):((x-(0))*(y-(x)))+((y-(0))*(y-(x)))+((x*x-(y*y)))=0:=by grind
theorem Kz(x y:RE)(h1:x*x=y*y)(h2:0<x)(h3:0<y):y≤x:=fun hg=>far (aI (aI (mul_pos (aK h2) (aK hg)) (le_of_lt (mul_pos (aK h3) (aK hg)))) (aE (mM h1))) (C3 x y)
theorem Nq(x y:RE)(h1:x*x=y*y)(h2:0<x)(h3:0<y):x=y:=le_antisymm (JF x y h1 h2 h3) (Kz x y h1 h2 h3)
theorem Do(x y:RE):((0-(x))*(x-(y)))+((0-(y))*(x-(y)))+((x*x-(y*y)))=0:=by grind
theorem JG(x y:RE)(h1:x*x=y*y)(h2:x<0)(h3:y<0):x≤y:=fun hg=>far (aI (aI (mul_pos (aK h2) (aK hg)) (le_of_lt (mul_pos (aK h3) (aK hg)))) (aE (mM h1))) (Do x y)
theorem CO(x y:RE):((0-(x))*(y-(x)))+((0-(y))*(y-(x)))+((y*y-(x*x)))=0:=by grind
theorem JK(x y:RE)(h1:x*x=y*y)(h2:x<0)(h3:y<0):y≤x:=fun hg=>far (aI (aI (mul_pos (aK h2) (aK hg)) (le_of_lt (mul_pos (aK h3) (aK hg)))) (aE (oa h1))) (CO x y)
theorem Lg(x y:RE)(h1:x*x=y*y)(h2:x<0)(h3:y<0):x=y:=le_antisymm (JG x y h1 h2 h3) (JK x y h1 h2 h3)
theorem Kg(x y:RE)(h1:x-y≤0):x≤y:=by grind
theorem Tw(x y:RE)(h1:x≤y):x-y≤0:=by grind
theorem Pb{x y:RE}(hx:0<x)(hy:0<y):sg (x*x-y*y)=sg (x-y):=by
 rw[←Gd,dp,dt (Ny _ _ hx hy),amX]
theorem NU{x y:RE}(hx:x<0)(hy:y<0):sg (x*x-y*y)= -sg (x-y):=by
 rw[←Gd,dp,gk (QW _ _ hx hy)]
 omega
theorem abi{L:List RE}{x y:RE}(hx:x*x∈L)(hy:y*y∈L):jW (mI L x-mI L y)=sg (x-y):=by
 have hc:=Jo hx hy
 unfold mI
 rcases bh x with⟨h,e⟩|⟨h,e⟩|⟨h,e⟩<;>rcases bh y with⟨h',e'⟩|⟨h',e'⟩|⟨h',e'⟩<;>rw[e,e']
 ·rw[←Pb h h',hc,Gt,amX,amX]
 ·have:=i7 (L:=L) (Iw h)
  rw[h',sub_zero,e]
  exact B0 (by omega)
 ·have:=i7 (L:=L) (Iw h)
  rw[dt (PR _ _ h h')]
  exact B0 (by omega)
 ·have:=i7 (L:=L) (Iw h')
  rw[h,zero_sub,rI,e']
  exact Bk (by omega)
 ·rw[h,h',sub_self,db,aoC];rfl
 ·have:=i7 (L:=L) (HC h')
  rw[h,zero_sub,rI,e']
  exact B0 (by omega)
 ·have:=i7 (L:=L) (HC h)
  rw[gk (LM _ _ h h')]
  exact Bk (by omega)
 ·have:=i7 (L:=L) (HC h)
  rw[h',sub_zero,e]
  exact Bk (by omega)
 ·have h2:=NU h h'
  rw[hc,Gt]at h2
  have:sg (x-y)= -jW ((rkS L x:Int)-(rkS L y:Int)):=by omega
  rw[this]
  unfold jW
  split<;>split<;>(try split)<;>(try split)<;>omega
theorem LQ{L:List RE}{x y:RE}(hx:x*x∈L)(hy:y*y∈L):cI (mI L x).natAbs (mI L y).natAbs=sg (x*x-y*y):=by
 have hc:=Jo hx hy
 have ab:∀z:RE,z≠0→(mI L z).natAbs=rkS L z:=fun z hz=>by
  unfold mI
  rcases bh z with⟨h,e⟩|⟨h,e⟩|⟨h,e⟩<;>rw[e]
  ·omega
  ·exact absurd h hz
  ·omega
 have ab0:(mI L 0).natAbs=0:=by unfold mI;rw[db,aoC];rfl
 by_cases h:x=0
 ·subst h
  by_cases h':y=0
  ·subst h';rw[sub_self,db];unfold cI;rw[al3 (by omega),ama rfl]
  ·have:=i7 (L:=L) h'
   rw[ab0,ab y h',mul_zero,zero_sub,rI,dt (HG h')]
   unfold cI;rw[ama (by omega)]
 ·by_cases h':y=0
  ·subst h'
   have:=i7 (L:=L) h
   rw[ab0,ab x h,mul_zero,sub_zero,dt (HG h)]
   unfold cI;rw[al3 (by omega),al3 (by omega)]
  ·rw[ab x h,ab y h',hc]
theorem acX{L:List RE}{x:RE}(hL:L.length=3)(hx:x*x∈L):rkS L x≤3:=by
 have:=iG lt_lin (alV (0:RE) hx)
 rw[alY,hL]at this
 unfold rkS
 omega
theorem GW{L:List RE}{x:RE}(hL:L.length=3)(hx:x*x∈L): -3≤mI L x∧mI L x≤3:=by
 have h1:=acX hL hx
 have h2:=afe x
 unfold mI
 rcases(by omega:sg x= -1∨sg x=0∨sg x=1)with e|e|e<;>rw[e]<;>omega
theorem Ii{L:List RE}{x:RE}(hL:L.length=3)(hx:x*x∈L):msC (ixL L x)=mI L x:=by
 have:=GW hL hx
 unfold msC ixL
 omega
theorem MX{L:List RE}{x:RE}(hL:L.length=3)(hx:x*x∈L):ixL L x<7:=by
 have:=GW hL hx
 unfold ixL
 omega
theorem OJ{L:List RE}{x y:RE}(hL:L.length=3)(hx:x*x∈L)(hy:y*y∈L):cI (ixL L x) (ixL L y)=sg (x-y):=by
 have h1:=GW hL hx
 have h2:=GW hL hy
 rw[Gt,←abi hx hy]
 unfold ixL
 congr 1
 omega
theorem xK(u v:RE):ysC (cls u v)=sg v:=by
 unfold cls ysC
 rcases bh v with⟨_,h⟩|⟨_,h⟩|⟨_,h⟩<;>rcases bh u with⟨_,h'⟩|⟨_,h'⟩|⟨_,h'⟩<;>rw[h,h']<;>rfl
section
variable {u w:PE} {Q:RE} {L:List RE}
theorem Ge(hQ:0<Q)(hu:u.1*u.1+u.2*u.2=Q)(hw:w.1*w.1+w.2*w.2=Q)(hL:L.length=3)(mu:u.1*u.1∈L)(mw:w.1*w.1∈L):sg (crs u w)=crI (cls u.1 u.2) (ixL L u.1) (cls w.1 w.2) (ixL L w.1):=by
 unfold crs crI
 show sg (u.1*w.2+ -(u.2*w.1))=_
 rw[Fw,adz,hu,hw,agx,dp Q,dt hQ,amX,rI,dp u.1,dp u.2,Ii hL mu,Ii hL mw,LQ mu mw,Px,Px,xK,xK]
theorem qj(hQ:0<Q)(hu:u.1*u.1+u.2*u.2=Q)(hw:w.1*w.1+w.2*w.2=Q)(hL:L.length=3)(mu:u.1*u.1∈L)(mw:w.1*w.1∈L):Dm (cls u.1 u.2) (ixL L u.1) (cls w.1 w.2) (ixL L w.1)=true:=by
 have cb:=gT u.1 u.2
 have y0:∀a b:RE,(cls a b==0||cls a b==2)=true↔b=0:=fun a b=>by
  have:=xK a b
  have hb:=gT a b
  rw[←pP,←this]
  unfold ysC
  constructor
  ·intro h
   simp at h
   rcases h with h|h<;>rw[h]<;>rfl
  ·intro h
   rcases(by omega:cls a b=0∨cls a b=1∨cls a b=2∨cls a b=3)with e|e|e|e<;>rw[e]at h ⊢ <;>simp at h ⊢
 unfold Dm
 rw[Ii hL mu,Ii hL mw,alJ,alJ]
 have ms:=Px L u.1
 refine⟨⟨?_,?_⟩,?_⟩
 ·by_cases e:cls u.1 u.2=0
  ·have h:=(Jt.1 e).2
   rw[dt h]at ms
   have:0<mI L u.1:=by
    unfold jW at ms
    split at ms
    ·cases ms
    ·split at ms
     ·cases ms
     ·omega
   simp[this]
  ·simp[e]
 ·by_cases e:cls u.1 u.2=2
  ·have h:=Hg.1 e
   rw[gk (ur hQ hu h.1 h.2)]at ms
   have:mI L u.1<0:=by
    unfold jW at ms
    split at ms
    ·omega
    ·split at ms<;>cases ms
   simp[this]
  ·simp[e]
 ·cases hc:(cls u.1 u.2==0||cls u.1 u.2==2)
  ·rfl
  ·have hv:=(y0 _ _).1 hc
   have hu':u.1*u.1=Q:=by rw[hv,mul_zero,add_zero]at hu;exact hu
   have ha:=LQ mu mw
   cases hd:(cls w.1 w.2==0||cls w.1 w.2==2)
   ·have hz:w.2≠0:=fun e=>by rw[(y0 _ _).2 e]at hd;cases hd
    have hlt:w.1*w.1<u.1*u.1:=by
     rw[hu',←hw]
     have:=ku (w.1*w.1) (HG hz)
     rw[zero_add,add_comm]at this
     exact this
    rw[dt (aK hlt)]at ha
    have:(mI L w.1).natAbs<(mI L u.1).natAbs:=by
     unfold cI at ha
     split at ha
     ·cases ha
     ·split at ha
      ·cases ha
      ·omega
    simp[this]
   ·have hz:=(y0 _ _).1 hd
    rw[hz,mul_zero,add_zero]at hw
    rw[hu',hw,sub_self,db]at ha
    have:(mI L u.1).natAbs=(mI L w.1).natAbs:=by
     unfold cI at ha
     split at ha
     ·cases ha
     ·split at ha
      ·assumption
      ·cases ha
    simp[this]
end
def frm(c:Ln)(p:PE):PE:=(p.1-of c.1,p.2-of c.2.1)
def nV(u w z:PE):Bool:=AR (sg (crs u w)) (sg (crs u z)) (sg (crs z w))
theorem v8{ci:Ln}{F P T:Pt}[Rpd F][Rpd P][Rpd T](hQ:0<ci.2.2)(hF:onCi ci F)(hP:onCi ci P)(hT:onCi ci T)(hne:pR F≠pR T):
  decide (gC a8 (ptd ci F) (ptd ci P) (ptd ci T)≤0)=nV (frm ci (pR F)) (frm ci (pR T)) (frm ci (pR P)):=by
 have hq:0<of ci.2.2:=iz hQ
 have hL:[(frm ci (pR F)).1*(frm ci (pR F)).1,(frm ci (pR P)).1*(frm ci (pR P)).1,(frm ci (pR T)).1*(frm ci (pR T)).1].length=3:=rfl
 revert hL
 generalize hL0:[(frm ci (pR F)).1*(frm ci (pR F)).1,(frm ci (pR P)).1*(frm ci (pR P)).1,(frm ci (pR T)).1*(frm ci (pR T)).1]=L
 intro hL
 have mF:(frm ci (pR F)).1*(frm ci (pR F)).1∈L:=by rw[←hL0];simp
 have mP:(frm ci (pR P)).1*(frm ci (pR P)).1∈L:=by rw[←hL0];simp
 have mT:(frm ci (pR T)).1*(frm ci (pR T)).1∈L:=by rw[←hL0];simp
 have cF:=gT (frm ci (pR F)).1 (frm ci (pR F)).2
 have cP:=gT (frm ci (pR P)).1 (frm ci (pR P)).2
 have cT:=gT (frm ci (pR T)).1 (frm ci (pR T)).2
 have hF:(frm ci (pR F)).1*(frm ci (pR F)).1+(frm ci (pR F)).2*(frm ci (pR F)).2=of ci.2.2:=hF
 have hP:(frm ci (pR P)).1*(frm ci (pR P)).1+(frm ci (pR P)).2*(frm ci (pR P)).2=of ci.2.2:=hP
 have hT:(frm ci (pR T)).1*(frm ci (pR T)).1+(frm ci (pR T)).2*(frm ci (pR T)).2=of ci.2.2:=hT
 have hd:(!(cls (frm ci (pR F)).1 (frm ci (pR F)).2==cls (frm ci (pR T)).1 (frm ci (pR T)).2&&ixL L (frm ci (pR F)).1==ixL L (frm ci (pR T)).1))=true:=by
  cases h1:cls (frm ci (pR F)).1 (frm ci (pR F)).2==cls (frm ci (pR T)).1 (frm ci (pR T)).2
  ·rfl
  ·cases h2:ixL L (frm ci (pR F)).1==ixL L (frm ci (pR T)).1
   ·rfl
   ·exfalso
    have h1:=amR.1 h1
    have h2:=amR.1 h2
    have h3:=OJ hL mF mT
    rw[h2]at h3
    have e0:∀n,cI n n=0:=fun n=>by unfold cI;rw[al3 (by omega),ama rfl]
    rw[e0]at h3
    have ex:(frm ci (pR F)).1=(frm ci (pR T)).1:=fY _ _ (pP.1 h3.symm)
    have ey:sg (frm ci (pR F)).2=sg (frm ci (pR T)).2:=by rw[←xK (frm ci (pR F)).1,←xK (frm ci (pR T)).1,h1]
    have es:(frm ci (pR F)).2*(frm ci (pR F)).2=(frm ci (pR T)).2*(frm ci (pR T)).2:=by
     rw[←hT,ex]at hF
     exact RG _ _ _ hF
    have e2:(frm ci (pR F)).2=(frm ci (pR T)).2:=by
     rcases bh (frm ci (pR F)).2 with⟨g,e⟩|⟨g,e⟩|⟨g,e⟩
     ·rw[e]at ey
      exact Nq _ _ es g (F1.1 ey.symm)
     ·rw[e]at ey
      rw[g,pP.1 ey.symm]
     ·rw[e]at ey
      exact Lg _ _ es g (adB.1 ey.symm)
    exact hne (amV (gE _ _ _ ex) (gE _ _ _ e2))
 have a:=VB ⟨_,cF⟩ ⟨_,cT⟩ ⟨_,MX hL mF⟩ ⟨_,MX hL mT⟩ (by
  simp only
  rw[qj hq hF hT hL mF mT,qj hq hT hF hL mT mF,hd]
  rfl) ⟨_,cP⟩ ⟨_,MX hL mP⟩ (by
  simp only
  rw[qj hq hF hP hL mF mP,qj hq hP hF hL mP mF,qj hq hT hP hL mT mP,qj hq hP hT hL mP mT]
  rfl)
 simp only at a
 unfold nV
 rw[Ge hq hF hT hL mF mT,Ge hq hF hP hL mF mP,Ge hq hP hT hL mP mT,←a]
 have cx:∀{p q:Pt} [Rpd p] [Rpd q],(frm ci (pR p)).1*(frm ci (pR p)).1∈L→(frm ci (pR q)).1*(frm ci (pR q)).1∈L→a8 (xP p) (xP q)=cI (ixL L (frm ci (pR p)).1) (ixL L (frm ci (pR q)).1):=fun{p q} _ _ hp hq'=>by
  rw[cmpT_re lC lC,sA,sA,OJ hL hp hq',←abR _ _ (of ci.1)]
  rfl
 unfold ptd
 rw[gW,gW,gW]
 exact congrArg (fun n:Int=>decide (n≤0)) (gQ (cx mP mF) (cx mT mF) (cx mP mT))
def fw(c:Ln)(p:PE):Prop:=(frm c p).1*(frm c p).1+(frm c p).2*(frm c p).2=of c.2.2
def fx(l:Ln)(p:PE):Prop:=of l.1*p.1+of l.2.1*p.2=of l.2.2
def tE(l:Ln)(p:PE):RE:= -of l.2.1*p.1+of l.1*p.2
def arcE(c:Ln)(F T p:PE):Prop:=fw c p∧nV (frm c F) (frm c T) (frm c p)=true
def btE(a b x:RE):Prop:=(a≤x∧x≤b)∨(b≤x∧x≤a)
def segE(l:Ln)(F T p:PE):Prop:=fx l p∧btE (tE l F) (tE l T) (tE l p)
def onE(c:Cv)(p:PE):Prop:=if c.1=true then arcE (ciC c) (pR (ccF c)) (pR (ccT c)) p else segE (lnC c) (pR (frC c)) (pR (toC c)) p
structure GdE (c:Cv):Prop where
 f:Rpd (frC c)
 t:Rpd (toC c)
 ne:pR (frC c)≠pR (toC c)
 q:c.1=true→0<(ciC c).2.2∧onCi (ciC c) (frC c)∧onCi (ciC c) (toC c)
 l:c.1=false→((lnC c).1≠0∨(lnC c).2.1≠0)∧qE (lnC c) (frC c)∧qE (lnC c) (toC c)
theorem so{c:Ln}{p:Pt}[Rpd p]:(oC c p==0)=true↔fw c (pR p):=by
 rw[amR]
 refine⟨fun h=>ins_on h,fun h=>?_⟩
 rw[Ca]
 have:(pX p-of c.1)*(pX p-of c.1)+(pY p-of c.2.1)*(pY p-of c.2.1)=of c.2.2:=h
 rw[this,lD,db]
 rfl
theorem Br{l:Ln}{p:Pt}[Rpd p]:(rX l p==0)=true↔fx l (pR p):=by
 rw[amR]
 refine⟨fun h=>FK h,fun h=>?_⟩
 rw[A8]
 have:of l.1*pX p+of l.2.1*pY p=of l.2.2:=h
 rw[this,lD,db]
theorem B4(a b x:RE):VD (sg (a-b)) (sg (a-x)) (sg (x-b)) (sg (x-a)) (sg (b-x))=true↔btE a b x:=by
 have h1:∀y z:RE,sg (y-z)≤0↔y≤z:=fun y z=>by
  rw[aid]
  exact⟨fun h=>Kg _ _ h,fun h=>Tw _ _ h⟩
 unfold VD btE
 cases h:decide (sg (a-b)>0)
 ·have h2:a≤b:=(h1 _ _).1 (by have:=amz h;omega)
  simp only[cond_false,alJ,anW,h1]
  exact⟨fun h=>.inl h,fun h'=>h'.elim id (fun g=>⟨le_trans h2 g.1,le_trans g.2 h2⟩)⟩
 ·have h2:b≤a:=by
   have:=alI h
   rcases lt_or_ge a b with g|g
   ·rw[gk (sH _ _ g)]at this
    omega
   ·exact g
  simp only[cond_true,alJ,anW,h1]
  exact⟨fun h=>.inr ⟨h.1,h.2⟩,fun h'=>h'.elim (fun g=>⟨le_trans h2 g.1,le_trans g.2 h2⟩) (fun g=>⟨g.1,g.2⟩)⟩
theorem gJ{c:Cv}(h:GdE c){p:Pt}[hp:Rpd p]:onP c p=true↔onE c (pR p):=by
 have hf:=h.f
 have ht:=h.t
 obtain⟨ar,li,ci,cw,fr,to⟩:=c
 have hf:Rpd fr:=hf
 have ht:Rpd to:=ht
 unfold onP onE
 rw[alJ]
 cases ar
 ·obtain⟨l1,l2,l3⟩:=h.l rfl
  rw[al3 (by intro h;cases h)]
  show(rX li p==0)=true∧uu (aX fr p) (aX p to)=true↔fx li (pR p)∧btE (tL li fr) (tL li to) (tL li p)
  rw[Br]
  constructor
  ·intro ⟨h1,h2⟩
   refine⟨h1,?_⟩
   rw[P5 (F:=fr) (P:=p) (T:=to) l1 l2 (show qE li p from h1) l3]at h2
   exact(B4 _ _ _).1 h2
  ·intro ⟨h1,h2⟩
   refine⟨h1,?_⟩
   rw[P5 (F:=fr) (P:=p) (T:=to) l1 l2 (show qE li p from h1) l3]
   exact(B4 _ _ _).2 h2
 ·obtain⟨q1,q2,q3⟩:=h.q rfl
  have hne:pR fr≠pR to:=h.ne
  rw[ama rfl]
  show(oC ci p==0)=true∧decide (gC a8 (ptd ci (ccF (true,li,ci,cw,fr,to))) (ptd ci p) (ptd ci (ccT (true,li,ci,cw,fr,to)))≤0)=true↔fw ci (pR p)∧nV _ _ _=true
  rw[so]
  cases cw
  ·constructor
   ·intro ⟨h1,h2⟩
    refine⟨h1,?_⟩
    have:=v8 (ci:=ci) (F:=fr) (P:=p) (T:=to) q1 q2 h1 q3 hne
    exact this▸h2
   ·intro ⟨h1,h2⟩
    refine⟨h1,?_⟩
    have:=v8 (ci:=ci) (F:=fr) (P:=p) (T:=to) q1 q2 h1 q3 hne
    exact this.trans h2
  ·constructor
   ·intro ⟨h1,h2⟩
    refine⟨h1,?_⟩
    have:=v8 (ci:=ci) (F:=to) (P:=p) (T:=fr) q1 q3 h1 q2 (ano hne)
    exact this▸h2
   ·intro ⟨h1,h2⟩
    refine⟨h1,?_⟩
    have:=v8 (ci:=ci) (F:=to) (P:=p) (T:=fr) q1 q3 h1 q2 (ano hne)
    exact this.trans h2
end RE
end
section
namespace RE
def dsE(p v:PE):RE:=(p.1-v.1)*(p.1-v.1)+(p.2-v.2)*(p.2-v.2)
def Mn(S:PE→Prop)(v:PE)(m:RE):Prop:=(∃p,S p∧dsE p v=m)∧∀p,S p→m≤dsE p v
theorem Mn.uni{S:PE→Prop}{v:PE}{m n:RE}(h:Mn S v m)(h':Mn S v n):m=n:=by
 obtain⟨⟨p,hp,ep⟩,h1⟩:=h
 obtain⟨⟨q,hq,eq⟩,h2⟩:=h'
 exact le_antisymm (eq▸h1 q hq) (ep▸h2 p hp)
open Classical in
def mnE(a b:RE):RE:=if b<a then b else a
theorem IT{S:PE→Prop}{v F T:PE}(hF:S F)(hT:S T)(h:∀p,S p→dsE F v≤dsE p v∨dsE T v≤dsE p v):Mn S v (mnE (dsE F v) (dsE T v)):=by
 unfold mnE
 by_cases e:dsE T v<dsE F v
 ·rw[ama e]
  exact⟨⟨T,hT,rfl⟩,fun p hp=>(h p hp).elim (fun g=>le_trans (le_of_lt e) g) id⟩
 ·rw[al3 e]
  exact⟨⟨F,hF,rfl⟩,fun p hp=>(h p hp).elim id (fun g=>le_trans e g)⟩
theorem abj(a b _c p q v w:RE):(a*a+b*b)*((p-v)*(p-v)+(q-w)*(q-w))=(a*v+b*w-(a*p+b*q))*(a*v+b*w-(a*p+b*q))+(-b*p+a*q-(-b*v+a*w))*(-b*p+a*q-(-b*v+a*w)):=by grind
theorem Tb(a b e k v w:RE):(v-a*(e*k)-v)*(v-a*(e*k)-v)+(w-b*(e*k)-w)*(w-b*(e*k)-w)=e*e*k*((a*a+b*b)*k):=by grind
theorem IS(a b c k v w:RE):a*(v-a*((a*v+b*w-c)*k))+b*(w-b*((a*v+b*w-c)*k))=a*v+b*w-(a*v+b*w-c)*((a*a+b*b)*k):=by grind
theorem abM(a b x v w:RE): -b*(v-a*x)+a*(w-b*x)= -b*v+a*w:=by grind
theorem JZ(x c:RE):x-(x-c)=c:=by grind
theorem Ur(x y:RE):((x*x-(y*y)))+2*((x-(0))*(y-(x)))+((y-(x))*(y-(x)))=0:=by grind
theorem aer(x y:RE)(h1:0≤x)(h2:x≤y):x*x≤y*y:=fun hg=>far (aI (aI (aK hg) (im (by decide+kernel:(0:Rat)<2) (bi (aE h1) (aE h2)))) (bi (aE h2) (aE h2))) (Ur x y)
theorem To(x y:RE):((x*x-(y*y)))+((x-(y))*(x-(y)))+2*((x-(y))*(0-(x)))=0:=by grind
theorem afr(x y:RE)(h1:y≤x)(h2:x≤0):x*x≤y*y:=fun hg=>far (aI (aI (aK hg) (bi (aE h1) (aE h1))) (im (by decide+kernel:(0:Rat)<2) (bi (aE h1) (aE h2)))) (To x y)
theorem Sv(n x y s t e:RE):((n-(0))*(x-(y)))+((e+s-(n*x)))+((n*y-(e+t)))+((t-(s)))=0:=by grind
theorem abW(n x y s t e:RE)(h1:0<n)(h2:n*x=e+s)(h3:n*y=e+t)(h4:s≤t):x≤y:=fun hg=>far (aI (aI (aI (mul_pos (aK h1) (aK hg)) (aE (oa h2))) (aE (mM h3))) (aE h4)) (Sv n x y s t e)
theorem ajp(a v x:RE)(_h1:v<a)(h2:a≤x):a-v≤x-v:=by grind
theorem ahl(a v:RE)(h1:v<a):0≤a-v:=by grind
theorem akj(a v x:RE)(_h1:a<v)(h2:x≤a):x-v≤a-v:=by grind
theorem af1(a v:RE)(h1:a<v):a-v≤0:=by grind
theorem asc(n k x:RE):n*x*k=n*k*x:=by grind
theorem Kq(e t:RE)(h1:0≤t):e≤e+t:=by grind
theorem ED(x y k:RE):((x*k-(y*k)))+((y-(x))*(k-(0)))=0:=by grind
theorem Qb(x y k:RE)(h1:x≤y)(h2:0<k):x*k≤y*k:=fun hg=>far (aI (aK hg) (bi (aE h1) (le_of_lt (aK h2)))) (ED x y k)
def exE(l:Ln)(v:PE):RE:=of l.1*v.1+of l.2.1*v.2-of l.2.2
def nrE(l:Ln):RE:=of l.1*of l.1+of l.2.1*of l.2.1
theorem EB{l:Ln}{p v:PE}(h:fx l p):nrE l*dsE p v=exE l v*exE l v+(tE l p-tE l v)*(tE l p-tE l v):=by
 unfold nrE dsE exE tE
 rw[abj _ _ (of l.2.2),h]
theorem Bq{l:Ln}{F T v:PE}(_hn:0<nrE l)(hb:btE (tE l F) (tE l T) (tE l v)){k:RE}(hk:0<k)(ek:nrE l*k=1):Mn (segE l F T) v (exE l v*exE l v*k):=by
 refine⟨⟨(v.1-of l.1*(exE l v*k),v.2-of l.2.1*(exE l v*k)),⟨?_,?_⟩,?_⟩,fun p hp=>?_⟩
 ·show of l.1*(v.1-of l.1*(exE l v*k))+of l.2.1*(v.2-of l.2.1*(exE l v*k))=of l.2.2
  unfold exE
  rw[IS]
  show _-_*(nrE l*k)=_
  rw[ek,mul_one,JZ]
 ·show btE _ _ (-of l.2.1*(v.1-of l.1*(exE l v*k))+of l.1*(v.2-of l.2.1*(exE l v*k)))
  rw[abM]
  exact hb
 ·show(v.1-of l.1*(exE l v*k)-v.1)*(v.1-of l.1*(exE l v*k)-v.1)+(v.2-of l.2.1*(exE l v*k)-v.2)*(v.2-of l.2.1*(exE l v*k)-v.2)=_
  rw[Tb]
  show _*(nrE l*k)=_
  rw[ek,mul_one]
 ·have h1:=EB (v:=v) hp.1
  have h2:=Qb _ _ k (Kq (exE l v*exE l v) ((tE l p-tE l v)*(tE l p-tE l v)) (ir _)) hk
  rw[←h1,asc (nrE l),ek,one_mul]at h2
  exact h2
theorem UJ{l:Ln}{F T v:PE}(hn:0<nrE l)(hF:fx l F)(hT:fx l T)(hb:¬btE (tE l F) (tE l T) (tE l v)):Mn (segE l F T) v (mnE (dsE F v) (dsE T v)):=by
 have le_of:=fun(p q:PE) (hp:fx l p) (hq:fx l q) (h:(tE l p-tE l v)*(tE l p-tE l v)≤(tE l q-tE l v)*(tE l q-tE l v))=>abW _ _ _ _ _ _ hn (EB (v:=v) hp) (EB (v:=v) hq) h
 have nn:∀p q:PE,fx l p→fx l q→tE l v<tE l p→tE l p≤tE l q→dsE p v≤dsE q v:=fun p q hp hq h1 h2=>le_of p q hp hq (aer _ _ (ahl _ _ h1) (ajp _ _ _ h1 h2))
 have np:∀p q:PE,fx l p→fx l q→tE l p<tE l v→tE l q≤tE l p→dsE p v≤dsE q v:=fun p q hp hq h1 h2=>le_of p q hp hq (afr _ _ (akj _ _ _ h1 h2) (af1 _ _ h1))
 have sF:segE l F T F:=⟨hF,(lt_or_ge (tE l F) (tE l T)).elim (fun h=>.inl ⟨le_refl _,le_of_lt h⟩) (fun h=>.inr ⟨h,le_refl _⟩)⟩
 have sT:segE l F T T:=⟨hT,(lt_or_ge (tE l F) (tE l T)).elim (fun h=>.inl ⟨le_of_lt h,le_refl _⟩) (fun h=>.inr ⟨le_refl _,h⟩)⟩
 refine IT sF sT fun p ⟨hp,hbp⟩=>?_
 rcases lt_or_ge (tE l v) (tE l F)with g|g
 ·rcases lt_or_ge (tE l v) (tE l T)with g'|g'
  ·rcases hbp with⟨h1,h2⟩|⟨h1,h2⟩
   ·exact .inl (nn F p hF hp g h1)
   ·exact .inr (nn T p hT hp g' h1)
  ·exact absurd (.inr ⟨g',le_of_lt g⟩) hb
 ·rcases lt_or_ge (tE l T) (tE l v)with g'|g'
  ·rcases lt_or_ge (tE l F) (tE l v)with g2|g2
   ·rcases hbp with⟨h1,h2⟩|⟨h1,h2⟩
    ·exact .inr (np T p hT hp g' h2)
    ·exact .inl (np F p hF hp g2 h2)
   ·exact absurd (.inr ⟨le_of_lt g',g2⟩) hb
  ·exact absurd (.inl ⟨g,g'⟩) hb
theorem ahk(a b x y d e q:RE):(a*y-b*x)*((d*b-e*a)+(d*y-e*x))=((a*d+b*e)-(x*d+y*e))*(q+(a*x+b*y))+(a*d+b*e)*(x*x+y*y-q)-(x*d+y*e)*(a*a+b*b-q):=by grind
theorem plk(a b x y z t d e:RE):(a*y-b*x)*(d*t-e*z)=(z*y-t*x)*(d*b-e*a)+(a*t-b*z)*(d*y-e*x):=by grind
theorem UP(x k m:RE):x+k*0-m*0=x:=by grind
theorem EC(x y:RE)(h1:0≤x)(h2:0≤y):0≤x+y:=by grind
theorem aa1(x y:RE)(h1:x≤0)(h2:y≤0):x+y≤0:=by grind
theorem Pv(x:RE)(h1:0≤x): -x≤0:=by grind
theorem Ti(x:RE)(h1:x≤0):0≤ -x:=by grind
theorem CU(x k y:RE):((k-(0))*(0-(x)))+((x*k-(y)))+((y-(0)))=0:=by grind
theorem Jx(x k y:RE)(h1:x*k=y)(h2:0≤y)(h3:0<k):0≤x:=fun hg=>far (aI (aI (mul_pos (aK h3) (aK hg)) (aE (mM h1))) (aE h2)) (CU x k y)
theorem JE(x y:RE)(h1:0≤x-y):y≤x:=by grind
theorem aaN(a b x y:RE):(a+x)*(a+x)+(b+y)*(b+y)=a*a+b*b+(x*x+y*y)+((a*x+b*y)+(a*x+b*y)):=by grind
theorem Vw(a b x y:RE):(a-x)*(a-x)+(b-y)*(b-y)=a*a+b*b+(x*x+y*y)-((a*x+b*y)+(a*x+b*y)):=by grind
theorem alc(q s t:RE)(h1:t=q+q+(s+s))(h2:0≤t):0≤q+s:=by grind
theorem ajW(q s t:RE)(h1:t=q+q+(s+s))(h2:q+s=0):t≤0:=by grind
theorem ajt(q s t:RE)(h1:t=q+q+(s+s))(h2:q+s=0):0≤t:=by grind
theorem q_z(q s t:RE)(h1:t=q+q+(s+s))(h2:q+s=0):t=0:=le_antisymm (ajW q s t h1 h2) (ajt q s t h1 h2)
theorem S8(x y:RE)(h1:x+y=0)(_h2:0≤x)(h3:0≤y):x≤0:=by grind
theorem Ra(x y:RE)(h1:x+y=0)(h2:0≤x)(_h3:0≤y):y≤0:=by grind
theorem akP(a x:RE)(h1:a+x=0):x≤ -a:=by grind
theorem ak1(a x:RE)(h1:a+x=0): -a≤x:=by grind
theorem opp(a x:RE)(h1:a+x=0):x= -a:=le_antisymm (akP a x h1) (ak1 a x h1)
theorem wi{x y:RE}(h:x*x+y*y=0):x=0∧y=0:=⟨wv (S8 _ _ h (ir x) (ir y)),wv (Ra _ _ h (ir x) (ir y))⟩
theorem gl{u z d:PE}{Q:RE}(hu:dtE u u=Q)(hz:dtE z z=Q):crs u z*(crs d u+crs d z)=(dtE u d-dtE z d)*(Q+dtE u z):=by
 unfold dtE at hu hz
 unfold crs dtE
 rw[ahk _ _ _ _ _ _ Q,hu,hz,sub_self,UP]
theorem SJ(a b c d:RE):a*d-b*c= -(c*b-d*a):=by grind
theorem adD(u w:PE):crs u w= -crs w u:=SJ _ _ _ _
theorem akn(u w z d:PE):crs u w*crs d z=crs z w*crs d u+crs u z*crs d w:=plk _ _ _ _ _ _ _ _
theorem yp{u z:PE}{Q:RE}(hu:dtE u u=Q)(hz:dtE z z=Q):0<Q+dtE u z∨z=(-u.1,-u.2):=by
 have h1:(u.1+z.1)*(u.1+z.1)+(u.2+z.2)*(u.2+z.2)=Q+Q+(dtE u z+dtE u z):=by
  rw[aaN]
  unfold dtE at hu hz ⊢
  rw[hu,hz]
 have nn:∀x y:RE,0≤x*x+y*y:=fun x y=>EC _ _ (ir x) (ir y)
 rcases iq (alc _ _ _ h1 (nn _ _))with h|h
 ·exact .inl h
 ·have h2:=q_z _ _ _ h1 h
  obtain⟨a,b⟩:=wi h2
  exact .inr (amV (opp _ _ a) (opp _ _ b))
theorem Hn{u z d:PE}{Q:RE}(hu:dtE u u=Q)(hz:dtE z z=Q)(hk:0<Q+dtE u z)(h:0≤crs u z*(crs d u+crs d z)):dtE z d≤dtE u d:=by
 rw[gl hu hz]at h
 exact JE _ _ (Jx _ _ _ rfl h hk)
theorem PO(a b c d:RE):(a*d-b*c)*(a*d-b*c)+(a*c+b*d)*(a*c+b*d)=(a*a+b*b)*(c*c+d*d):=by grind
theorem adx(s q:RE):(s+q)*(s-q)=s*s-q*q:=by grind
theorem ahA(q s t:RE)(h1:t=q+q-(s+s))(h2:s-q=0):t≤0:=by grind
theorem afb(q s t:RE)(h1:t=q+q-(s+s))(h2:s-q=0):0≤t:=by grind
theorem akT(q s t:RE)(h1:t=q+q-(s+s))(h2:s-q=0):t=0:=le_antisymm (ahA q s t h1 h2) (afb q s t h1 h2)
theorem OI(s q:RE)(h1:s+q=0):q+s≤0:=by grind
theorem Rs(s q:RE)(h1:s+q=0):0≤q+s:=by grind
theorem UQ(s q:RE)(h1:s+q=0):q+s=0:=le_antisymm (OI s q h1) (Rs s q h1)
theorem Uw{x y:RE}(h:x*y=0):x=0∨y=0:=by
 have:=dp x y
 rw[h,db]at this
 rcases Int.mul_eq_zero.1 this.symm with e|e
 ·exact .inl (pP.1 e)
 ·exact .inr (pP.1 e)
theorem ake{u w:PE}{Q:RE}(hu:dtE u u=Q)(hw:dtE w w=Q)(h:crs u w=0):u=w∨w=(-u.1,-u.2):=by
 have h1:crs u w*crs u w+dtE u w*dtE u w=dtE u u*dtE w w:=PO _ _ _ _
 rw[h,hu,hw,mul_zero,zero_add]at h1
 have h2:(dtE u w+Q)*(dtE u w-Q)=0:=by rw[adx,h1,sub_self]
 rcases Uw h2 with e|e
 ·right
  rcases yp hu hw with g|g
  ·rw[UQ _ _ e]at g
   exact absurd g (lt_irrefl _)
  ·exact g
 ·left
  have h3:(u.1-w.1)*(u.1-w.1)+(u.2-w.2)*(u.2-w.2)=Q+Q-(dtE u w+dtE u w):=by
   rw[Vw]
   unfold dtE at hu hw ⊢
   rw[hu,hw]
  obtain⟨a,b⟩:=wi (akT _ _ _ h3 e)
  exact amV (fY _ _ a) (fY _ _ b)
theorem MQ{u w z:PE}(h:0≤crs u w):nV u w z=true↔0≤crs u z∧0≤crs z w:=by
 unfold nV AR
 rw[alF (Rr.2 h),cond_true,alJ,anW,anW,Rr,Rr]
theorem GV{x:RE}:sg x<0↔x<0:=by
 rcases bh x with⟨h,e⟩|⟨h,e⟩|⟨h,e⟩<;>rw[e]
 ·exact⟨fun h'=>absurd h' (by decide),fun h'=>absurd (cW h h') (lt_irrefl _)⟩
 ·rw[h];exact⟨fun h'=>absurd h' (by decide),fun h'=>absurd h' (lt_irrefl _)⟩
 ·exact⟨fun _=>h,fun _=>by decide⟩
theorem Ma{u w z:PE}(h:crs u w<0):nV u w z=true↔¬(crs z w<0∧crs u z<0):=by
 unfold nV AR
 rw[alH (by have:=GV.2 h;omega),cond_false]
 simp only[anE,Bool.and_eq_false_iff,decide_eq_false_iff_not,GV]
 exact⟨fun g g'=>g.elim (fun k=>k g'.1) (fun k=>k g'.2),fun g=>by
  by_cases e:crs z w<0
  ·exact .inr (fun e'=>g ⟨e,e'⟩)
  ·exact .inl e⟩
theorem PX(d e a b:RE):d* -b-e* -a= -(d*b-e*a):=by grind
theorem Pk(a b c d:RE): -a*d- -b*c= -(a*d-b*c):=by grind
theorem abq(x:RE)(h1:0≤ -x)(_h2:0≤x):x≤0:=by grind
theorem aar(x:RE)(_h1:0≤ -x)(h2:0≤x):0≤x:=by grind
theorem Y5(x:RE)(h1:0≤ -x)(h2:0≤x):x=0:=le_antisymm (abq x h1 h2) (aar x h1 h2)
theorem ajL(bu bz bw:RE)(h1:bu+bz<0)(h2:0<bw+bz)(h3:0<bu):0<bw:=by grind
theorem akq(bu bz:RE)(h1:bu+bz<0)(h2:0<bu):bz<0:=by grind
theorem ajq(bu bz bw:RE)(h1:bu+bz<0)(h2:0<bw+bz)(h3:bw<0):bu<0:=by grind
theorem akh(bw bz:RE)(h1:0<bw+bz)(h2:bw<0):0<bz:=by grind
theorem k_e(k bz s bu t bw:RE)(h1:k*bz=s*bu+t*bw)(h2:0≤s*bu)(h3:0<t*bw):0<k*bz:=by grind
theorem ajy(bu s bz k bw t:RE)(h1:k*bz=s*bu+t*bw)(h2:s*bu<0)(h3:0<k*bz)(h4:t*bw≤0):0<k:=by grind
theorem KE(x y:RE):((x*y-(0)))+((x-(0))*(0-(y)))=0:=by grind
theorem BH(x y:RE)(h1:0≤x)(h2:y≤0):x*y≤0:=fun hg=>far (aI (aK hg) (bi (aE h1) (aE h2))) (KE x y)
theorem Kt(x y:RE):((x*y-(0)))+((0-(x))*(y-(0)))=0:=by grind
theorem VO(x y:RE)(h1:x≤0)(h2:0≤y):x*y≤0:=fun hg=>far (aI (aK hg) (bi (aE h1) (aE h2))) (Kt x y)
theorem KS(x y:RE):((0-(x))*(0-(y)))+((0-(x*y)))=0:=by grind
theorem Lu(x y:RE)(h1:x<0)(h2:y<0):0<x*y:=ru.1 fun hg=>far (aI (mul_pos (aK h1) (aK h2)) (aE hg)) (KS x y)
theorem Qz(x y:RE):((0-(x))*(y-(0)))+((x*y-(0)))=0:=by grind
theorem abI(x y:RE)(h1:x<0)(h2:0<y):x*y<0:=ru.1 fun hg=>far (aI (mul_pos (aK h1) (aK h2)) (aE hg)) (Qz x y)
theorem JV(x y:RE):((0-(x*y)))+((0-(x))*(0-(y)))=0:=by grind
theorem Js(x y:RE)(h1:x≤0)(h2:y≤0):0≤x*y:=fun hg=>far (aI (aK hg) (bi (aE h1) (aE h2))) (JV x y)
theorem tK(d u:PE):crs d (-u.1,-u.2)= -crs d u:=PX _ _ _ _
theorem VE(u d:PE):crs (-u.1,-u.2) d= -crs u d:=Pk _ _ _ _
theorem U4{u w z d:PE}{Q:RE}(hu:dtE u u=Q)(hw:dtE w w=Q)(hz:dtE z z=Q)(hne:u≠w)(h:nV u w z=true)(hd:¬nV u w d=true):dtE z d≤dtE u d∨dtE z d≤dtE w d:=by
 have ac:=adD
 have key:=akn u w z d
 rcases lt_or_ge (crs u w) 0 with hk|hk
 ·rw[Ma hk]at h hd
  obtain⟨d1,d2⟩:=Classical.not_not.1 hd
  have bu:0<crs d u:=by rw[ac];exact jP d2
  rcases lt_or_ge (crs d z) 0 with hb|hb
  ·rcases lt_or_ge (crs z w) 0 with hc|hc
   ·have hz':0≤crs u z:=fun g=>h ⟨hc,g⟩
    exact absurd hk (fun g=>lt_irrefl _ (cW g (ajy _ _ _ _ _ _ key (abI _ _ hc bu) (Lu _ _ hk hb) (BH _ _ hz' (le_of_lt d1)))))
   ·right
    refine Hn hw hz ?_ ?_
    ·rcases yp hw hz with g|g
     ·exact g
     ·rw[g,tK]at hb
      exact absurd (cW (jP d1) hb) (lt_irrefl _)
    ·rw[ac w z]
     exact Js _ _ (Pv _ hc) (le_of_lt (QW _ _ d1 hb))
  ·rcases lt_or_ge (crs u z) 0 with hc|hc
   ·have hz':0≤crs z w:=fun g=>h ⟨g,hc⟩
    have:=Lu _ _ hc d1
    have h2:=bi hz' (le_of_lt bu)
    have h3:=VO _ _ (le_of_lt hk) hb
    exact absurd (k_e _ _ _ _ _ _ key h2 this) h3
   ·left
    refine Hn hu hz ?_ (bi hc (le_of_lt (aI bu hb)))
    rcases yp hu hz with g|g
    ·exact g
    ·rw[g,tK]at hb
     exact absurd (Ft bu) hb
 ·rw[MQ hk]at h hd
  obtain⟨h1,h2⟩:=h
  have zero_case:crs u w=0→w=(-u.1,-u.2):=fun e=>(ake hu hw e).resolve_left hne
  rcases lt_or_ge (crs d u+crs d z) 0 with g1|g1
  ·rcases lt_or_ge 0 (crs d w+crs d z)with g2|g2
   ·exfalso
    by_cases hb:0<crs d u
    ·have b1:=akq _ _ g1 hb
     have b2:=ajL _ _ _ g1 g2 hb
     have r1:=bi h2 (le_of_lt hb)
     have r2:=bi h1 (le_of_lt b2)
     rcases iq hk with k1|k1
     ·have:=E7 _ _ k1 b1
      rw[key]at this
      exact absurd this (EC _ _ r1 r2)
     ·have e:=zero_case k1
      rw[e,tK]at b2
      exact lt_irrefl _ (cW b2 (Ft hb))
    ·have hb':crs d w<0:=by
      rcases lt_or_ge (crs d w) 0 with q|q
      ·exact q
      ·exact absurd ⟨by rw[ac];exact Ti _ hb,q⟩ hd
     have b1:=akh _ _ g2 hb'
     have b2:=ajq _ _ _ g1 g2 hb'
     have r1:=BH _ _ h2 (le_of_lt b2)
     have r2:=BH _ _ h1 (le_of_lt hb')
     rcases iq hk with k1|k1
     ·have:=mul_pos k1 b1
      rw[key]at this
      exact absurd this (aa1 _ _ r1 r2)
     ·have e:=zero_case k1
      rw[e,tK]at hb'
      exact lt_irrefl _ (cW hb' (jP b2))
   ·rcases yp hw hz with g|g
    ·right
     refine Hn hw hz g ?_
     rw[ac w z]
     exact Js _ _ (Pv _ h2) g2
    ·left
     rw[g,tK]at h1
     have e:=zero_case (Y5 _ h1 hk)
     have:z=u:=by rw[g,e];exact amV (neg_neg _) (neg_neg _)
     rw[this];exact le_refl _
  ·rcases yp hu hz with g|g
   ·left
    exact Hn hu hz g (bi h1 g1)
   ·right
    rw[g,VE]at h2
    have e:=zero_case (Y5 _ h2 hk)
    rw[g,e];exact le_refl _
end RE
end
end Go.Proofs.YtnkndpoojnflmaaGreat
end
