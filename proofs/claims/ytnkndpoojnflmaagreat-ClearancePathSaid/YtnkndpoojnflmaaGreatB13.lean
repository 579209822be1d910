/- Lines and circles: the reference's contracts. -/
import Derived.Test.YtnkndpoojnflmaaGreatB12
import Derived.Test.YtnkndpoojnflmaaGreatB10
noncomputable section
namespace Go.Proofs.YtnkndpoojnflmaaGreat
open Go.RowKit Go.IntKind
theorem agC:type_of% @Rat.div_mul_cancel:=@Rat.div_mul_cancel
theorem ahp:type_of% @not_false_eq_true:=@not_false_eq_true
theorem ahF:type_of% @Bool.eq_iff_iff:=@Bool.eq_iff_iff
def CV(l:Ln)(p:Pt):Rt:=mkR (ob l p) (oa l p) p.2.2.2.2
def sS(c:Ln)(p:Pt):Rt:=arT (sqP p (ctr c)) (-c.2.2)
instance ae8 {r:Rt} {a:Rat} [h:Rdd r]:Rdd (arT r a):=⟨h.rd⟩
instance QW {l:Ln} {p:Pt} [h:Rpd p]:Rdd (CV l p):=by
 have:Nn p.2.2.2.2:=inferInstance
 exact pF
instance aee {l:Ln} {p:Pt} {i j:Nat} [h:Bd l i] [h':Bd p j]:Bd (CV l p) (5*i+5*j+5):=by
 have a1:Bd (ob l p) _:=inferInstance
 have a2:Bd (oa l p) _:=inferInstance
 have a3:Bd (mkR (ob l p) (oa l p) p.2.2.2.2) _:=inferInstance
 exact a3.mono (by omega)
theorem OL{l:Ln}{p:Pt}[h:Rpd p]:sgR (CV l p)=p6 l p:=by
 unfold p6
 rw[CI (QW (l:=l) (p:=p)).nn,RE.sgn2_re h.nn]
 unfold CV
 rw[RE.vR_mk]
namespace RE
theorem QU(a b q:RE):a+ -q+b=a+b-q:=by grind
theorem Q7(a b q:RE):a-q+b=a+b-q:=by grind
theorem shift_l(a b d q:RE)(h:a+b=a+d):a+ -q+b=a-q+d:=by
 rw[QU,Q7,h]
end RE
theorem Pz{c:Ln}{p:Pt}[h:Rpd p]: -sgR (sS c p)=ot c p:=by
 unfold ot
 have hr:Rdd (sS c p):=inferInstanceAs (Rdd (arT (sqP p (ctr c)) (-c.2.2)))
 rw[CI hr.nn,RE.sgn2_re h.nn]
 have e:RE.vR (sS c p)=RE.v2 (sqA p (ctr c)-c.2.2) (sqB p (ctr c)) p.2.2.2.2:=by
  have e1:=RE.vR_co (sqA p (ctr c)) (sqB p (ctr c)) p.2.2.2.2
  unfold RE.vR RE.v2 at e1
  unfold sS arT sqP RE.vR RE.v2
  simp only
  rw[RE.of_add,RE.of_neg,RE.of_sub]
  have e2:RE.of (coR (sqA p (ctr c)) (sqB p (ctr c)) p.2.2.2.2).1=RE.of (sqA p (ctr c)):=by
   unfold coR
   cases decide (sqB p (ctr c)=0)<;>rfl
  rw[e2]at e1 ⊢
  exact RE.shift_l _ _ _ _ e1
 rw[e]
theorem vO{q:Rat}(h:q≠0):aC q 0=if 0<q then 1 else-1:=by
 rcases(by grind:q<0∨0<q)with h'|h'
 ·rw[dg h',agk (by grind)]
 ·rw[cV h',agu h']
def nI:List En:=[enT lS,enL mE,enL oZ,enL rC,enL pi,enT pg,enL sH,enL C4,enL VS,enL N9,enL YL]
def MT(a:BR)(_k:KT):Option (List RV):=match decide (okR a∧okR a)with|true=>some [RV.d tR (hMu a a)]|false=>none
def Xv:Cn 364 [tR]:=cn fun(a:BR)=>lf (okR a) [.d tR (aq (ah a*ah a))] fun h=>by
 refine az nI (MT a) ⟨0,?_⟩
 unfold MT
 rw[dT ⟨h,h⟩]
 simp only[aX]
def JC:Cn 140 [tR,tR]:=cn fun(a b:BR)=>lf (okR a∧okR b) [.d tR (aq (ah a+ah b))] fun h=>iW [RV.d tR (hAd a b)] (c7 nI) h
def HK:Cn 238 [tR,tR]:=cn fun(a b:BR)=>lf (okR a∧okR b) [.d tR (aq (ah a-ah b))] fun h=>iW [RV.d tR (hSu a b)] (c7 nI) h
def Dt:Cn 141 [tR,tR]:=cn fun(a b:BR)=>lf (okR a∧okR b) [.d tR (aq (ah a*ah b))] fun h=>iW [RV.d tR (hMu a b)] (c7 nI) h
def I9:Cn 248 [tR,tR]:=cn fun(a b:BR)=>lf (gA a b) [.d tR (aq (ah a/ah b))] fun h=>iW [RV.d tR (hDi a b)] (c7 nI) h
def pS:List En:=enL Xv::enL JC::enL HK::enL Dt::enL I9::nI
def Km(r:BO3)(_k:KT):Option (List RV):=og (o1 r.1) (og (o1 r.2.1) (og (o2 (hid (aq (ah r.2.1*ah r.2.1))) r.2.2) (og (o2 (hid (aq (ah r.1*ah r.1))) (hMu (hid (aq (ah r.2.1*ah r.2.1))) r.2.2)) (some [RV.d tR (hSu (hid (aq (ah r.1*ah r.1))) (hMu (hid (aq (ah r.2.1*ah r.2.1))) r.2.2))]))))
def WL:Cn 348 [tO]:=cn fun(r:BO3)=>lf (ok Rt 90000 r) [.d tR (aq (noR (dec r)))] fun h=>by
 refine az pS (Km r) ⟨0,?_⟩
 have hr:=h
 obtain⟨r,rfl,br⟩:=aB hr
 unfold Km
 simp only[aO,Nat.reduceAdd,Nat.reduceLeDiff]
 rfl
def J7(l:BO3)(p:BP)(_k:KT):Option (List RV):=og (o2 l.1 p.1) (og (o2 l.2.1 p.2.2.1) (og (o2 (hMu l.1 p.1) (hMu l.2.1 p.2.2.1)) (og (o2 (hAd (hMu l.1 p.1) (hMu l.2.1 p.2.2.1)) l.2.2) (og (o2 l.1 p.2.1) (og (o2 l.2.1 p.2.2.2.1) (og (o2 (hMu l.1 p.2.1) (hMu l.2.1 p.2.2.2.1)) (og (decide (ok Rat 100000 (hSu (hAd (hMu l.1 p.1) (hMu l.2.1 p.2.2.1)) l.2.2)∧ok Rat 100000 (hAd (hMu l.1 p.2.1) (hMu l.2.1 p.2.2.2.1))∧ok Rat 100000 p.2.2.2.2∧0≤ah p.2.2.2.2)) (some [RV.d tO (hid (enc (mkR (ah (hSu (hAd (hMu l.1 p.1) (hMu l.2.1 p.2.2.1)) l.2.2)) (ah (hAd (hMu l.1 p.2.1) (hMu l.2.1 p.2.2.2.1))) (ah p.2.2.2.2))))]))))))))
def We:Cn 124 [tO,tP]:=cn fun(l:BO3) (p:BP)=>lf (ok Ln 300 l∧okP 4000 p) [.d tO (enc (CV (dec l) (dec p)))] fun h=>by
 refine az pS (J7 l p) ⟨0,?_⟩
 obtain⟨hl,hp⟩:=h
 obtain⟨l,rfl,bl⟩:=aB hl
 obtain⟨p,rfl,bp,rp⟩:=bG hp
 have hn:0≤p.2.2.2.2:=rp.nn
 unfold J7
 simp only[aO,Nat.reduceAdd,Nat.reduceLeDiff,dT hn]
 rfl
def Mw(c:BO3)(p:BP)(_k:KT):Option (List RV):=og (decide (okP 3500 p∧ok (Rat×Rat) 300 (c.1,c.2.1))) (og (o1 c.2.2) (og (decide (ok Rt 100000 (hid (enc (sqP (dec p) (dec (c.1,c.2.1)))))∧ok Rat 100000 (hNe c.2.2))) (some [RV.d tO (hid (enc (arT (dec (hid (enc (sqP (dec p) (dec (c.1,c.2.1)))))) (ah (hNe c.2.2)))))])))
def Xh:Cn 319 [tO,tP]:=cn fun(c:BO3) (p:BP)=>lf (ok Ln 300 c∧okP 3500 p) [.d tO (enc (sS (dec c) (dec p)))] fun h=>by
 refine az pS (Mw c p) ⟨0,?_⟩
 obtain⟨hc,hp⟩:=h
 obtain⟨c,rfl,bc⟩:=aB hc
 obtain⟨p,rfl,bp,rp⟩:=bG hp
 have e0:(dec ((aq c.1,aq c.2.1):BV):Rat×Rat)=ctr c:=aA (ctr c)
 have e1:decide (ok (Rat×Rat) 300 ((aq c.1,aq c.2.1):BV))=true:=okd (x:=ctr c) (by decide) (by decide)
 unfold Mw
 simp only[aO,Nat.reduceAdd,Nat.reduceMul,Nat.reduceLeDiff,aI,e0,e1]
 rfl
def IU(l:BO3)(v:BV)(_k:KT):Option (List RV):=og (o2 l.1 l.1) (og (o2 l.2.1 l.2.1) (og (o2 (hMu l.1 l.1) (hMu l.2.1 l.2.1)) (og (o2 l.1 v.1) (og (o2 l.2.1 v.2) (og (o2 (hMu l.1 v.1) (hMu l.2.1 v.2)) (og (o2 l.2.2 (hAd (hMu l.1 v.1) (hMu l.2.1 v.2))) (og (decide (gA (hSu l.2.2 (hAd (hMu l.1 v.1) (hMu l.2.1 v.2))) (hAd (hMu l.1 l.1) (hMu l.2.1 l.2.1)))) (og (o2 (hDi (hSu l.2.2 (hAd (hMu l.1 v.1) (hMu l.2.1 v.2))) (hAd (hMu l.1 l.1) (hMu l.2.1 l.2.1))) l.1) (og (o2 v.1 (hMu (hDi (hSu l.2.2 (hAd (hMu l.1 v.1) (hMu l.2.1 v.2))) (hAd (hMu l.1 l.1) (hMu l.2.1 l.2.1))) l.1)) (og (o2 (hDi (hSu l.2.2 (hAd (hMu l.1 v.1) (hMu l.2.1 v.2))) (hAd (hMu l.1 l.1) (hMu l.2.1 l.2.1))) l.2.1) (og (o2 v.2 (hMu (hDi (hSu l.2.2 (hAd (hMu l.1 v.1) (hMu l.2.1 v.2))) (hAd (hMu l.1 l.1) (hMu l.2.1 l.2.1))) l.2.1)) (some [RV.d tV (hAd v.1 (hMu (hDi (hSu l.2.2 (hAd (hMu l.1 v.1) (hMu l.2.1 v.2))) (hAd (hMu l.1 l.1) (hMu l.2.1 l.2.1))) l.1),hAd v.2 (hMu (hDi (hSu l.2.2 (hAd (hMu l.1 v.1) (hMu l.2.1 v.2))) (hAd (hMu l.1 l.1) (hMu l.2.1 l.2.1))) l.2.1))]))))))))))))
def Xo:Cn 138 [tO,tV]:=cn fun(l:BO3) (v:BV)=>lf (ok Ln 300 l∧ok (Rat×Rat) 200 v∧((dec l:Ln).1≠0∨(dec l:Ln).2.1≠0)) [.d tV (enc (eT (dec l) (dec v)))] fun h=>by
 refine az pS (IU l v) ⟨0,?_⟩
 obtain⟨hl,hv,h0⟩:=h
 obtain⟨l,rfl,bl⟩:=aB hl
 obtain⟨v,rfl,bv⟩:=aB hv
 have hn:l.1*l.1+l.2.1*l.2.1≠0:=lZ (by rw[aA]at h0;exact h0)
 have e:(l.2.2-(l.1*v.1+l.2.1*v.2))/(l.1*l.1+l.2.1*l.2.1)= -mp l v:=by
  unfold mp
  grind
 unfold IU
 simp only[aO,Nat.reduceAdd,Nat.reduceLeDiff,hn,ne_eq,ahp]
 unfold eT
 rw[e,show v.1+ -mp l v*l.1=v.1-mp l v*l.1 by grind,show v.2+ -mp l v*l.2.1=v.2-mp l v*l.2.1 by grind]
 rfl
def EY:List En:=enL WL::enL We::enL Xh::enL Xo::pS
def HL(r:BO3)(_k:KT):Option (List RV):=og (o1 r.1) (og (o1 r.2.1) (match(aC (ah r.1) 0)==(aC (ah r.2.1) 0)with|true=>some [RV.d ai2 (aC (ah r.1) 0)]|false=>(match(aC (ah r.2.1) 0)==0 with|true=>some [RV.d ai2 (aC (ah r.1) 0)]|false=>(match(aC (ah r.1) 0)==0 with|true=>some [RV.d ai2 (aC (ah r.2.1) 0)]|false=>(og (decide (ok Rt 90000 r)) (og (o1 (hid (aq (noR (dec r))))) (match decide ((aC (ah (hid (aq (noR (dec r))))) 0)>0)with|true=>some [RV.d ai2 (aC (ah r.1) 0)]|false=>some [RV.d ai2 (aC (ah r.2.1) 0)])))))))
def V5:Cn 318 [tO]:=cn fun(r:BO3)=>lf (okT 90000 r) [.d ai2 (sgR (dec r))] fun h=>by
 refine az EY (HL r) ⟨0,?_⟩
 have hr:=h
 obtain⟨r,rfl,br,rr⟩:=fN hr
 unfold HL
 simp only[aO,Nat.reduceAdd,Nat.reduceMul,Nat.reduceLeDiff,am,av]
 rw[UY rr]
 by_cases hb:r.2.1=0
 ·rw[afZ hb,hb,de]
  by_cases ha:aC r.1 0=0
  ·rw[ha];rfl
  ·rw[show(aC r.1 0==0)=false by simp[ha]];rfl
 ·have hn:=Xk rr hb
  have e2:=vO hn
  have hb2:=vO hb
  rw[af1 hb,show(aC r.2.1 0==0)=false by rw[am,af1 hb]]
  by_cases ha:r.1=0
  ·rw[afZ ha,ha,de,show((0:Int)==aC r.2.1 0)=false by rw[hb2];split<;>rfl]
   rfl
  ·have ha2:=vO ha
   rw[af1 ha,show(aC r.1 0==0)=false by rw[am,af1 ha]]
   cases hq:(aC r.1 0==aC r.2.1 0)
   ·have hne:aC r.1 0≠aC r.2.1 0:=by simpa using hq
    rw[e2]
    by_cases hp:0<noR r
    ·rw[afZ hp,agu hp,aic]
     rfl
    ·rw[af1 hp,agk hp]
     show some [RV.d ai2 (aC r.2.1 0)]=some [RV.d ai2 (aC r.1 0* -1)]
     rw[show aC r.2.1 0=aC r.1 0* -1 by
      rw[ha2,hb2]at hne ⊢
      split at hne<;>split at hne<;>simp_all]
   ·rfl
def FK:List En:=enT V5::EY
def HB(l:BO3)(p:BP)(_k:KT):Option (List RV):=og (decide (ok Ln 300 l∧okP 4000 p)) (og (decide (okT 90000 (hid (enc (CV (dec l) (dec p)))))) (some [RV.d ai2 (sgR (dec (hid (enc (CV (dec l) (dec p))))))]))
def XW:Cn 259 [tO,tP]:=cn fun(l:BO3) (p:BP)=>lf (ok Ln 300 l∧okP 4000 p) [.d ai2 (p6 (dec l) (dec p))] fun h=>by
 refine az FK (HB l p) ⟨0,?_⟩
 obtain⟨hl,hp⟩:=h
 obtain⟨l,rfl,bl⟩:=aB hl
 obtain⟨p,rfl,bp,rp⟩:=bG hp
 unfold HB
 simp only[aO,Nat.reduceAdd,Nat.reduceMul,Nat.reduceLeDiff,aH,aI]
 rw[OL]
def L5(c:BO3)(p:BP)(_k:KT):Option (List RV):=og (decide (ok Ln 300 c∧okP 3500 p)) (og (decide (okT 90000 (hid (enc (sS (dec c) (dec p)))))) (some [RV.d ai2 (i64.wrap (0-(sgR (dec (hid (enc (sS (dec c) (dec p))))))))]))
def YS:Cn 258 [tO,tP]:=cn fun(c:BO3) (p:BP)=>lf (ok Ln 300 c∧okP 3500 p) [.d ai2 (ot (dec c) (dec p))] fun h=>by
 refine az FK (L5 c p) ⟨0,?_⟩
 obtain⟨hc,hp⟩:=h
 obtain⟨c,rfl,bc⟩:=aB hc
 obtain⟨p,rfl,bp,rp⟩:=bG hp
 have hr:Rdd (sS c p):=inferInstanceAs (Rdd (arT (sqP p (ctr c)) (-c.2.2)))
 have br:Bd (sS c p) 90000:=(inferInstance:Bd (arT (sqP p (ctr c)) (-c.2.2)) _).mono (by decide)
 have hb: -1≤sgR (sS c p)∧sgR (sS c p)≤1:=kf _ _ _
 unfold L5
 simp only[aO,Nat.reduceLeDiff,aH,aI,ahN,aP (x:= -sgR (sS c p)) (by omega) (by omega)]
 rw[Pz]
abbrev tCU:Ty:=.st (.pair .bool (.pair tO (.pair tO (.pair .bool (.pair tP tP)))))
abbrev BCU:=Bool×BO3×BO3×Bool×BP×BP
abbrev Cv:=Bool×Ln×Ln×Bool×Pt×Pt
def dC(c:BCU):Cv:=(c.1,dec c.2.1,dec c.2.2.1,c.2.2.2.1,dec c.2.2.2.2.1,dec c.2.2.2.2.2)
def oR(x:BO3):Prop:=ok Ln 300 x∧(0:Rat)<(dec x:Ln).2.2
instance (x:BO3):Decidable (oR x):=by unfold oR;infer_instance
def Dv(x:BO3):Prop:=ok Ln 300 x∧((dec x:Ln).1≠0∨(dec x:Ln).2.1≠0)
instance (x:BO3):Decidable (Dv x):=by unfold Dv;infer_instance
def okC(k:Nat)(c:BCU):Prop:=(c.1=true→oR c.2.2.1)∧(c.1=false→Dv c.2.1)∧okP k c.2.2.2.2.1∧okP k c.2.2.2.2.2
instance (k:Nat) (c:BCU):Decidable (okC k c):=by unfold okC;infer_instance
def frC(c:Cv):Pt:=c.2.2.2.2.1
def toC(c:Cv):Pt:=c.2.2.2.2.2
def lnC(c:Cv):Ln:=c.2.1
def ciC(c:Cv):Ln:=c.2.2.1
def cwC(c:Cv):Bool:=c.2.2.2.1
def fi(c:Cv)(p:Pt):Bool:=bif c.1 then ot (ciC c) p==0 else p6 (lnC c) p==0
def upR(c:Ln)(p:Pt):Bool:=decide (fv (yP p) c.2.1>0)||(fv (yP p) c.2.1==0&&decide (fv (xP p) c.1>0))
def ptd(c:Ln)(p:Pt):Bool×Rt:=(upR c p,xP p)
def BX(c:Ln)(p:Pt):Int:=bif upR c p then 0 else 1
def ccF(c:Cv):Pt:=bif cwC c then toC c else frC c
def ccT(c:Cv):Pt:=bif cwC c then frC c else toC c
def gM(c:Cv)(p:Pt):Bool:=bif c.1 then decide (kL bI (ptd (ciC c) (ccF c)) (ptd (ciC c) p) (ptd (ciC c) (ccT c))≤0)else u4 (bZ (frC c) p) (bZ p (toC c))
def onP(c:Cv)(p:Pt):Bool:=fi c p&&gM c p
def J8(c:BCU):BCU:=(c.1,c.2.1,c.2.2.1,c.1&&!c.2.2.2.1,c.2.2.2.2.2,c.2.2.2.2.1)
def dv(c:BCU):BCU:=bif c.2.2.2.1 then J8 c else c
def flP(p:Pt):Pt:=(-p.1,-p.2.1,p.2.2.1,p.2.2.2.1,p.2.2.2.2)
def flC(c:Ln):Ln:=(-c.1,c.2.1,c.2.2)
def gQ(c:Cv)(p q:Pt):Int:=bif c.1 then(bif cwC c then GL bI (ptd (flC (ciC c)) (flP (frC c))) (ptd (flC (ciC c)) (flP p)) (ptd (flC (ciC c)) (flP q))else GL bI (ptd (ciC c) (frC c)) (ptd (ciC c) p) (ptd (ciC c) q))
 else(bif decide (bZ (frC c) (toC c)>0)then-bZ p q else bZ p q)
def onR(c:Cv)(p:Pt):Bool:=fi c p&&(decide (gQ c (frC c) p≤0)&&decide (gQ c p (toC c)≤0))
theorem YK(k:Nat){c:BCU}(h:okC k c):okC k (J8 c):=⟨h.1,h.2.1,h.2.2.2,h.2.2.1⟩
theorem xL(p q:Pt): -1≤bZ p q∧bZ p q≤1:=by
 unfold bZ
 cases bI (xP p) (xP q)==0
 ·exact tX _ _
 ·exact tX _ _
theorem E0{p q:Bool×Rt}:0≤mo bI p q∧mo bI p q≤2:=by
 unfold mo
 cases oK bI q p==0<;>cases decide (oK bI q p>0)<;>simp only[agd,cond_false]<;>omega
def uu(c:BCU):BCU:=(c.1,c.2.1,(aq (-ah c.2.2.1.1),c.2.2.1.2),!c.2.2.2.1,enc (flP (dec c.2.2.2.2.1)),enc (flP (dec c.2.2.2.2.2)))
instance afK {p:Pt} [h:Rpd p]:Rpd (flP p):=by
 refine⟨?_⟩
 have:=h.rd
 unfold Cg flP at*
 simp only
 have e:(-p.2.1=0)↔p.2.1=0:=by constructor<;>intro h<;>grind
 rw[e]
 exact this
instance afC {p:Pt} {j:Nat} [h:Bd p j]:Bd (flP p) j:=by
 have i1:Bd ((-p.1,-p.2.1,p.2.2.1,p.2.2.2.1,p.2.2.2.2):Pt) _:=inferInstance
 exact i1.mono (eI (by omega) (eI (by omega) (eI (by omega) (eI (by omega) (by omega)))))
theorem nP{j k:Nat}{x:BP}(h:okP j x)(hj:j≤k)(hk:k≤480000):okP k x:=by
 obtain⟨p,rfl,bp,rp⟩:=bG h
 exact af2 (aI hj hk)
theorem Hr{j k:Nat}{c:BCU}(h:okC j c)(hj:j≤k)(hk:k≤480000):okC k c:=⟨h.1,h.2.1,nP h.2.2.1 hj hk,nP h.2.2.2 hj hk⟩
theorem CZ{x:BP}(h:okP 4000 x):okP 4000 (enc (flP (dec x))):=by
 obtain⟨p,rfl,bp,rp⟩:=bG h
 rw[aA]
 exact af2 (aI (x:=flP p) (by decide) (by decide))
theorem Yt{x:BO3}(h:ok Ln 300 x):ok Ln 300 ((aq (-ah x.1),x.2):BO3)∧(dec ((aq (-ah x.1),x.2):BO3):Ln)=flC (dec x):=by
 obtain⟨l,rfl,bl⟩:=aB h
 have e:((aq (-ah (enc l:BO3).1),(enc l:BO3).2):BO3)=enc (flC l):=by
  rw[qr,d7,cj]
  rfl
 rw[e,aA,aA]
 refine⟨?_,rfl⟩
 have i1:Bd (flC l) 300:=(inferInstance:Bd ((-l.1,l.2.1,l.2.2):Ln) _).mono (by decide)
 exact af2 (okd (x:=flC l) (af6 _) (by decide))
def wY:List En:=[enL sH,enT Ht,enT Kg,enL Vu,enL UJ,enT yN,enT XW,enT YS]
def Uz(c:BCU)(p:BP)(_k:KT):Option (List RV):=match c.1 with|true=>(og (decide (ok Ln 300 c.2.2.1∧okP 3500 p)) (some [RV.d .bool ((ot (dec c.2.2.1) (dec p))==0)]))|false=>(og (decide (ok Ln 300 c.2.1∧okP 4000 p)) (some [RV.d .bool ((p6 (dec c.2.1) (dec p))==0)]))
def RH:Cn 150 [tCU,tP]:=cn fun(c:BCU) (p:BP)=>lf (okC 3500 c∧okP 3500 p) [.d .bool (fi (dC c) (dec p))] fun h=>by
 refine az wY (Uz c p) ⟨0,?_⟩
 obtain⟨hc,hp⟩:=h
 have op:decide (okP 3500 p)=true:=afZ hp
 have op4:decide (okP 4000 p)=true:=afZ (nP hp (by decide) (by decide))
 obtain⟨ar,li,ci,cw,fr,to⟩:=c
 obtain⟨c1,c2,_⟩:=hc
 unfold Uz
 cases ar
 ·have e:=(c2 rfl).1
  simp only[ahP,dT e,op4,ahq]
  rfl
 ·have e:=(c1 rfl).1
  simp only[ahP,dT e,op,ahq]
  rfl
def RY(c:BO3)(p:BP)(_k:KT):Option (List RV):=og (decide (okP 4000 p)) (og (decide (okT 15000 (hid (enc (yP (dec p))))∧ok Rat 15000 c.2.1)) (match decide ((fv (dec (hid (enc (yP (dec p))))) (ah c.2.1))>0)with|true=>some [RV.d .bool true]|false=>(match(fv (dec (hid (enc (yP (dec p))))) (ah c.2.1))==0 with|true=>(og (decide (okP 4000 p)) (og (decide (okT 15000 (hid (enc (xP (dec p))))∧ok Rat 15000 c.1)) (some [RV.d .bool (decide ((fv (dec (hid (enc (xP (dec p))))) (ah c.1))>0))])))|false=>some [RV.d .bool false])))
def Zx:Cn 320 [tO,tP]:=cn fun(c:BO3) (p:BP)=>lf (ok Ln 300 c∧okP 4000 p) [.d .bool (upR (dec c) (dec p))] fun h=>by
 refine az wY (RY c p) ⟨0,?_⟩
 obtain⟨hc,hp⟩:=h
 obtain⟨c,rfl,bc⟩:=aB hc
 obtain⟨p,rfl,bp,rp⟩:=bG hp
 unfold RY upR
 simp only[aO,Nat.reduceLeDiff,aH,aI]
 cases decide (fv (yP p) c.2.1>0)<;>cases fv (yP p) c.2.1==0<;>rfl
def Rv(p:BP)(_k:KT):Option (List RV):=og (o1 p.1) (og (o1 p.2.1) (some [RV.d tP (hNe p.1,(hNe p.2.1,p.2.2))]))
def aaj:Cn 155 [tP]:=cn fun(p:BP)=>lf (okP 4000 p) [.d tP (enc (flP (dec p)))] fun h=>by
 refine az wY (Rv p) ⟨0,?_⟩
 have hp:=h
 obtain⟨p,rfl,bp,rp⟩:=bG hp
 unfold Rv
 simp only[aO,Nat.reduceLeDiff]
 rfl
def acV:Ctx:=CX (ens wY) []
def abH(c:BCU)(_k:KT):Option (List RV):=match c.1 with|true=>some [RV.d tCU (c.1,(c.2.1,(c.2.2.1,(!c.2.2.2.1,(c.2.2.2.2.2,c.2.2.2.2.1)))))]|false=>some [RV.d tCU (c.1,(c.2.1,(c.2.2.1,(false,(c.2.2.2.2.2,c.2.2.2.2.1)))))]
theorem adS(c:BCU):RS acV 16 [.d tCU c] (abH c):=rsX
def RQ:Cn 16 [tCU]:=cn fun(c:BCU)=>lf True [.d tCU (J8 c)] fun _=>by
 refine cJ wY (adS _ ⟨0,?_⟩)
 obtain⟨ar,li,ci,cw,fr,to⟩:=c
 cases ar<;>rfl
def LX:List En:=enT RH::enT Zx::enL aaj::enL RQ::wY
def SQ(c:BO3)(p q:BP)(_k:KT):Option (List RV):=og (decide (ok Ln 300 c∧okP 4000 p)) (og (decide (ok Ln 300 c∧okP 4000 q)) (match !((upR (dec c) (dec p))==(upR (dec c) (dec q)))with|true=>(match upR (dec c) (dec q)with|true=>some [RV.d ai2 (-1)]|false=>some [RV.d ai2 1])|false=>(og (decide (okP 4000 p)) (og (decide (okP 4000 q)) (og (decide (okT 15000 (hid (enc (xP (dec p))))∧okT 15000 (hid (enc (xP (dec q)))))) (match upR (dec c) (dec p)with|true=>some [RV.d ai2 (i64.wrap (0-(bI (dec (hid (enc (xP (dec p))))) (dec (hid (enc (xP (dec q))))))))]|false=>some [RV.d ai2 (bI (dec (hid (enc (xP (dec p))))) (dec (hid (enc (xP (dec q))))))]))))))
def aaV:Cn 261 [tO,tP,tP]:=cn fun(c:BO3) (p q:BP)=>lf (ok Ln 300 c∧okP 4000 p∧okP 4000 q) [.d ai2 (sX bI (ptd (dec c) (dec p)) (ptd (dec c) (dec q)))] fun h=>by
 refine az LX (SQ c p q) ⟨0,?_⟩
 obtain⟨hc,hp,hq⟩:=h
 obtain⟨c,rfl,bc⟩:=aB hc
 obtain⟨p,rfl,bp,rp⟩:=bG hp
 obtain⟨q,rfl,bq,rq⟩:=bG hq
 have xb:=tX (xP p) (xP q)
 unfold SQ
 simp only[aO,Nat.reduceLeDiff,aH,aI,aP (x:= -bI (xP p) (xP q)) (by omega) (by omega),ahN]
 unfold sX ptd
 cases upR c p<;>cases upR c q<;>rfl
def R8(c:BCU)(_k:KT):Option (List RV):=match decide (okR c.2.2.1.1)with|true=>(match decide (okP 4000 c.2.2.2.2.1)with|true=>(match decide (okP 4000 c.2.2.2.2.2)with|true=>some [RV.d tCU (c.1,(c.2.1,((hNe c.2.2.1.1,c.2.2.1.2),(!c.2.2.2.1,(hid (enc (flP (dec c.2.2.2.2.1))),hid (enc (flP (dec c.2.2.2.2.2))))))))]|false=>none)|false=>none)|false=>none
def acq:Cn 154 [tCU]:=cn fun(c:BCU)=>lf (oR c.2.2.1∧okP 4000 c.2.2.2.2.1∧okP 4000 c.2.2.2.2.2) [.d tCU (uu c)] fun h=>by
 refine az LX (R8 c) ⟨0,?_⟩
 obtain⟨hc,hf,ht⟩:=h
 have e:okR c.2.2.1.1:=by
  obtain⟨l,hl,bl⟩:=aB hc.1
  rw[hl,qr,d7]
  exact af2 (FZ (q:=l.1) (by decide))
 unfold R8
 rw[dT e,dT hf,dT ht]
 simp only[aX]
 rfl
def U7:List En:=enT aaV::enL acq::LX
def Sg(c:BO3)(f p q:BP)(_k:KT):Option (List RV):=og (decide (ok Ln 300 c∧okP 4000 p∧okP 4000 f)) (og (decide (ok Ln 300 c∧okP 4000 q∧okP 4000 f)) (match !((decide ((sX bI (ptd (dec c) (dec p)) (ptd (dec c) (dec f)))<0))==(decide ((sX bI (ptd (dec c) (dec q)) (ptd (dec c) (dec f)))<0)))with|true=>(match decide ((sX bI (ptd (dec c) (dec q)) (ptd (dec c) (dec f)))<0)with|true=>some [RV.d ai2 (-1)]|false=>some [RV.d ai2 1])|false=>(og (decide (ok Ln 300 c∧okP 4000 p∧okP 4000 q)) (some [RV.d ai2 (sX bI (ptd (dec c) (dec p)) (ptd (dec c) (dec q)))]))))
def aaA:Cn 153 [tO,tP,tP,tP]:=cn fun(c:BO3) (f p q:BP)=>lf (ok Ln 300 c∧okP 4000 f∧okP 4000 p∧okP 4000 q) [.d ai2 (GL bI (ptd (dec c) (dec f)) (ptd (dec c) (dec p)) (ptd (dec c) (dec q)))] fun h=>by
 refine az U7 (Sg c f p q) ⟨0,?_⟩
 obtain⟨hc,hf,hp,hq⟩:=h
 unfold Sg GL
 rw[dT (show ok Ln 300 c∧okP 4000 p∧okP 4000 f from⟨hc,hp,hf⟩),dT (show ok Ln 300 c∧okP 4000 q∧okP 4000 f from⟨hc,hq,hf⟩),dT (show ok Ln 300 c∧okP 4000 p∧okP 4000 q from⟨hc,hp,hq⟩)]
 cases decide (sX bI (ptd (dec c) (dec p)) (ptd (dec c) (dec f))<0)<;>cases decide (sX bI (ptd (dec c) (dec q)) (ptd (dec c) (dec f))<0)<;>rfl
def Si:List En:=enT aaA::U7
def SK(c:BCU)(p q:BP)(_k:KT):Option (List RV):=match !c.1 with|true=>(og (decide (okP 4000 p∧okP 4000 q)) (og (decide (okP 4000 c.2.2.2.2.1∧okP 4000 c.2.2.2.2.2)) (match decide ((bZ (dec c.2.2.2.2.1) (dec c.2.2.2.2.2))>0)with|true=>some [RV.d ai2 (i64.wrap (0-(bZ (dec p) (dec q))))]|false=>some [RV.d ai2 (bZ (dec p) (dec q))])))|false=>(match !c.2.2.2.1 with|true=>(og (decide (ok Ln 300 c.2.2.1∧okP 4000 c.2.2.2.2.1∧okP 4000 p∧okP 4000 q)) (some [RV.d ai2 (GL bI (ptd (dec c.2.2.1) (dec c.2.2.2.2.1)) (ptd (dec c.2.2.1) (dec p)) (ptd (dec c.2.2.1) (dec q)))]))|false=>(og (decide (oR c.2.2.1∧okP 4000 c.2.2.2.2.1∧okP 4000 c.2.2.2.2.2)) (og (decide (okP 4000 p)) (og (decide (okP 4000 q)) (og (decide (ok Ln 300 ((((hid (uu c)).2).2).1)∧okP 4000 ((((((hid (uu c)).2).2).2).2).1)∧okP 4000 (hid (enc (flP (dec p))))∧okP 4000 (hid (enc (flP (dec q)))))) (some [RV.d ai2 (GL bI (ptd (dec ((((hid (uu c)).2).2).1)) (dec ((((((hid (uu c)).2).2).2).2).1))) (ptd (dec ((((hid (uu c)).2).2).1)) (dec (hid (enc (flP (dec p)))))) (ptd (dec ((((hid (uu c)).2).2).1)) (dec (hid (enc (flP (dec q)))))))]))))))
def Nv:Cn 61 [tCU,tP,tP]:=cn fun(c:BCU) (p q:BP)=>lf (okC 4000 c∧okP 4000 p∧okP 4000 q) [.d ai2 (gQ (dC c) (dec p) (dec q))] fun h=>by
 refine az Si (SK c p q) ⟨0,?_⟩
 obtain⟨hc,hp,hq⟩:=h
 have xb:=xL (dec p) (dec q)
 obtain⟨ar,li,ci,cw,fr,to⟩:=c
 obtain⟨c1,c2,c3,c4⟩:=hc
 simp only at c1 c2 c3 c4
 unfold SK gQ
 cases ar
 ·simp only[ahN,aP (x:= -bZ (dec p) (dec q)) (by omega) (by omega),dT (show okP 4000 p∧okP 4000 q from⟨hp,hq⟩),dT (show okP 4000 fr∧okP 4000 to from⟨c3,c4⟩),Bool.not_false]
  simp only[dC,frC,toC,cond_false]
  by_cases hd:bZ (dec fr) (dec to)>0
  ·simp[hd]
  ·simp[hd]
 ·have e:=(c1 rfl).1
  have hci:=c1 rfl
  obtain⟨f1,f2⟩:=Yt e
  cases cw
  ·simp only[dT (show ok Ln 300 ci∧okP 4000 fr∧okP 4000 p∧okP 4000 q from⟨e,c3,hp,hq⟩),Bool.not_true,Bool.not_false]
   rfl
  ·have hm:ok Ln 300 (uu (true,li,ci,true,fr,to)).2.2.1∧okP 4000 (uu (true,li,ci,true,fr,to)).2.2.2.2.1∧okP 4000 (enc (flP (dec p)))∧okP 4000 (enc (flP (dec q))):=⟨f1,CZ c3,CZ hp,CZ hq⟩
   have m1:(dec (uu (true,li,ci,true,fr,to)).2.2.1:Ln)=flC (dec ci):=f2
   have m2:(dec (uu (true,li,ci,true,fr,to)).2.2.2.2.1:Pt)=flP (dec fr):=aA _
   simp only[aX,dT (show oR ci∧okP 4000 fr∧okP 4000 to from⟨hci,c3,c4⟩),dT hp,dT hq,dT hm,Bool.not_true,m1,m2,aA]
   rfl
def aam:List En:=enT Nv::Si
def Tf(c:BCU)(p:BP)(_k:KT):Option (List RV):=og (decide (okC 3500 c∧okP 3500 p)) (match fi (dC c) (dec p)with|true=>(og (decide (okC 4000 c∧okP 4000 c.2.2.2.2.1∧okP 4000 p)) (match decide ((gQ (dC c) (dec c.2.2.2.2.1) (dec p))≤0)with|true=>(og (decide (okC 4000 c∧okP 4000 p∧okP 4000 c.2.2.2.2.2)) (some [RV.d .bool (decide ((gQ (dC c) (dec p) (dec c.2.2.2.2.2))≤0))]))|false=>some [RV.d .bool false]))|false=>some [RV.d .bool false])
def So:Cn 58 [tCU,tP]:=cn fun(c:BCU) (p:BP)=>lf (okC 3500 c∧okP 3500 p) [.d .bool (onR (dC c) (dec p))] fun h=>by
 refine az aam (Tf c p) ⟨0,?_⟩
 obtain⟨hc,hp⟩:=h
 have hc4:=Hr (k:=4000) hc (by decide) (by decide)
 have hp4:=nP (k:=4000) hp (by decide) (by decide)
 unfold Tf onR
 rw[dT (show okC 3500 c∧okP 3500 p from⟨hc,hp⟩),dT (show okC 4000 c∧okP 4000 c.2.2.2.2.1∧okP 4000 p from⟨hc4,hc4.2.2.1,hp4⟩),dT (show okC 4000 c∧okP 4000 p∧okP 4000 c.2.2.2.2.2 from⟨hc4,hp4,hc4.2.2.2⟩)]
 cases fi (dC c) (dec p)
 ·rfl
 ·show(match decide (gQ (dC c) (frC (dC c)) (dec p)≤0)with|true=>some [RV.d .bool (decide (gQ (dC c) (dec p) (toC (dC c))≤0))]|false=>some [RV.d .bool false])=_
  cases decide (gQ (dC c) (frC (dC c)) (dec p)≤0)<;>rfl
section
namespace RE
theorem acZ{u v:RE}:cls u v=2↔v=0∧¬0<u:=by
 unfold cls
 rcases bj v with⟨a,h1⟩|⟨a,h1⟩|⟨a,h1⟩<;>rcases bj u with⟨b,h2⟩|⟨b,h2⟩|⟨b,h2⟩<;>rw[h1,h2]
 all_goals first
  |exact⟨fun _=>⟨a,fun h=>by rw[b]at h;exact lt_irrefl _ h⟩,fun _=>rfl⟩
  |exact⟨fun _=>⟨a,fun h=>lt_irrefl _ (dK h b)⟩,fun _=>rfl⟩
  |(refine⟨fun h=>absurd h (by decide),fun h=>?_⟩;first|(rw[h.1]at a;exact absurd a (lt_irrefl _))|exact absurd b h.2)
theorem Gf{u v Q:RE}(hQ:0<Q)(h:u*u+v*v=Q)(hv:v=0)(hu:¬0<u):u<0:=by
 rcases oB u 0 with e|e|e
 ·exact e
 ·rw[e,hv,mul_zero,add_zero]at h
  rw[←h]at hQ
  exact absurd hQ (lt_irrefl _)
 ·exact absurd e hu
theorem Gz(x y c:RE)(h1:x-c=y-c):x≤y:=by grind
theorem Hn(x y c:RE)(h1:x-c=y-c):y≤x:=by grind
theorem Bo(x y c:RE)(h1:x-c=y-c):x=y:=le_antisymm (Gz x y c h1) (Hn x y c h1)
theorem Hv(x q:RE)(h1:x+ -q=0):x≤q:=by grind
theorem H3(x q:RE)(h1:x+ -q=0):q≤x:=by grind
theorem Eb(x q:RE)(h1:x+ -q=0):x=q:=le_antisymm (Hv x q h1) (H3 x q h1)
section
variable {x y x' y' cx cy Q:RE}
end
def onCi(c:Ln)(p:Pt):Prop:=(pX p-of c.1)*(pX p-of c.1)+(pY p-of c.2.1)*(pY p-of c.2.1)=of c.2.2
theorem DU{c:Ln}{p:Pt}[Rpd p](h:ot c p=0):onCi c p:=by
 rw[zv]at h
 exact Eb _ _ (sf.1 (Int.neg_eq_zero.1 h))
theorem ML{c:Ln}{p:Pt}[Rpd p]:upR c p=upA (cls (pX p-of c.1) (pY p-of c.2.1)):=by
 unfold upR
 rw[cmpTR_re Oa,cmpTR_re z8,J4,Xw,Wr]
end RE
structure Crv (c:Cv):Prop where
 f:Rpd (frC c)
 t:Rpd (toC c)
 q:c.1=true→0<(ciC c).2.2∧RE.onCi (ciC c) (frC c)∧RE.onCi (ciC c) (toC c)
end
def eo(l:Ln)(p:Pt):Rt:=mkR (-l.2.1*p.1+l.1*p.2.2.1) (-l.2.1*p.2.1+l.1*p.2.2.2.1) p.2.2.2.2
def qM(c:Cv)(p:Pt):Bool:=
 bif decide (bI (eo (lnC c) (frC c)) (eo (lnC c) (toC c))>0)then decide (bI (eo (lnC c) (toC c)) (eo (lnC c) p)≤0)&&decide (bI (eo (lnC c) p) (eo (lnC c) (frC c))≤0)
 else decide (bI (eo (lnC c) (frC c)) (eo (lnC c) p)≤0)&&decide (bI (eo (lnC c) p) (eo (lnC c) (toC c))≤0)
def qZ(a b:Rt):Rt:=bif decide (bI b a<0)then b else a
def zeV(v:Rat×Rat):Bool:=decide (v.1=0)&&decide (v.2=0)
def rW(c:Ln)(d:Rat×Rat):Pt:=mkP (mkR c.1 d.1 (c.2.2/bT d d)) (mkR c.2.1 d.2 (c.2.2/bT d d))
def fB(c:Cv)(d:Rat×Rat):Bool:=bif c.1&&!(zeV d)then onP c (rW (ciC c) d)else c.1
def zA(c:Cv)(v:Rat×Rat):Rt:=qZ (sqP (frC c) v) (sqP (toC c) v)
def bO(c:Cv)(v:Rat×Rat):Rat×Rat:=cU (ctr (ciC c)) v
def ro(c:Cv)(v:Rat×Rat):Rt:=
 bif c.1 then(bif fB c (bO c v)then mkR (bT (bO c v) (bO c v)+(ciC c).2.2) (-2) (bT (bO c v) (bO c v)*(ciC c).2.2)else zA c v)
 else(bif qM c (atP v)then(bT (cU v (eT (lnC c) v)) (cU v (eT (lnC c) v)),0,0)else zA c v)
def u7(c:Cv)(v:Rat×Rat)(r:Rat):Int:=bif decide (r<0)then 1 else fv (ro c v) (r*r)
instance NC {l:Ln} {p:Pt} [h:Rpd p]:Rdd (eo l p):=by
 have:Nn p.2.2.2.2:=inferInstance
 exact pF
instance ael {l:Ln} {p:Pt} {i j:Nat} [h:Bd l i] [h':Bd p j] [hp:Rpd p]:Bd (eo l p) (4*i+4*j+5):=by
 have a1:Bd (-l.2.1*p.1+l.1*p.2.2.1) _:=inferInstance
 have a2:Bd (-l.2.1*p.2.1+l.1*p.2.2.2.1) _:=inferInstance
 exact(XM (a:= -l.2.1*p.1+l.1*p.2.2.1) (b:= -l.2.1*p.2.1+l.1*p.2.2.2.1) (c:=p.2.2.2.2)).mono (eI (by omega) (by omega))
theorem JS(a b:Rt):qZ a b=a∨qZ a b=b:=by
 unfold qZ
 cases decide (bI b a<0)
 ·exact .inl rfl
 ·exact .inr rfl
instance HV {a b:Rt} [h:Rdd a] [h':Rdd b]:Rdd (qZ a b):=by
 rcases JS a b with e|e<;>rw[e]<;>assumption
instance aeP {a b:Rt} {i j:Nat} [h:Bd a i] [h':Bd b j]:Bd (qZ a b) (mx i j):=by
 rcases JS a b with e|e<;>rw[e]
 ·exact h.mono (z7 _ _)
 ·exact h'.mono (zZ _ _)
theorem oO(d:Rat×Rat):0≤bT d d:=by
 unfold bT
 have h:∀a:Rat,0≤a*a:=fun a=>by
  rcases(by grind:0≤a∨0≤ -a)with h|h
  ·exact agm h h
  ·have:=agm h h;grind
 have:=h d.1
 have:=h d.2
 grind
theorem ud{d:Rat×Rat}(h:zeV d=false):bT d d≠0:=by
 refine lZ ?_
 unfold zeV at h
 by_cases e:d.1=0
 ·rw[afZ e,ahr]at h
  exact .inr (agK h)
 ·exact .inl e
theorem nN(a b d e s:Rat):sR (mkR a d s) (mkR b e s):=by
 unfold sR mkR
 cases eZ s
 ·simp only[cond_false]
  by_cases hd:d=0
  ·rw[afZ hd];exact .inl rfl
  ·by_cases he:e=0
   ·rw[afZ he];exact .inr (.inl rfl)
   ·rw[af1 hd,af1 he];exact .inr (.inr rfl)
 ·exact .inl rfl
theorem CN{a b:Rat}(ha:0≤a)(hb:0≤b):0≤a/b:=by
 by_cases h0:b=0
 ·rw[h0,aiG,Rat.inv_zero,Rat.mul_zero]
  exact Rat.le_refl
 ·rcases(by grind:0≤a/b∨0< -(a/b))with h|h
  ·exact h
  ·have h1:=agP h (show 0<b by grind)
   have h2:a/b*b=a:=agC h0
   grind
class Cir (c:Ln):Prop where q:0<c.2.2
instance Yb {c:Ln} {d:Rat×Rat} [h:Cir c]:Nn (c.2.2/bT d d):=⟨CN (by have:=h.q;grind) (oO d)⟩
instance aeR {c:Ln} {d:Rat×Rat} [h:Cir c]:Rpd (rW c d):=UL pF pF (nN _ _ _ _ _)
instance QM {c:Ln} {d:Rat×Rat} [h:Cir c]:Nn (bT d d*c.2.2):=⟨agm (oO d) (by have:=h.q;grind)⟩
instance aez {c:Ln} {d:Rat×Rat} {i j:Nat} [h:Bd c i] [h':Bd d j]:Bd (rW c d) (2*i+5*j+2):=by
 have s1:Bd (c.2.2/bT d d) _:=inferInstance
 have a1:Bd (mkR c.1 d.1 (c.2.2/bT d d)) _:=inferInstance
 have a2:Bd (mkR c.2.1 d.2 (c.2.2/bT d d)) _:=inferInstance
 have b1:=a1.mono (k:=2*i+5*j+2) (by omega)
 have b2:=a2.mono (k:=2*i+5*j+2) (by omega)
 have e:∀n,mx n n=n:=fun n=>by unfold mx;rw[afZ (af6 n)];rfl
 exact(XH (h:=b1) (h':=b2)).mono (by
  simp only[e]
  refine eI (by omega) (eI (by omega) (eI (by omega) (eI (by omega) (eI (by omega) (by omega))))))
def OJ(d a b a' b':Int):Bool:=bif decide (d>0)then decide (b'≤0)&&decide (a'≤0)else decide (a≤0)&&decide (b≤0)
theorem PL:∀f p t:Fin 3,u4 (cI f.1 p.1) (cI p.1 t.1)=OJ (cI f.1 t.1) (cI f.1 p.1) (cI p.1 t.1) (cI p.1 f.1) (cI t.1 p.1):=by decide+kernel
theorem PD(a b:Int):u4 (-a) (-b)=u4 a b:=by
 unfold u4
 have e1:(-a==0)=(a==0):=ahF.2 (by simp only[aha];omega)
 have e2:(-b==0)=(b==0):=ahF.2 (by simp only[aha];omega)
 have e3:(-a== -b)=(a==b):=ahF.2 (by simp only[aha];omega)
 rw[e1,e2,e3]
namespace RE
theorem Od(a b x s y t r:RE): -b*x+a*y+(-b*s+a*t)*r= -b*(x+s*r)+a*(y+t*r):=by grind
theorem adz(a b x y u w:RE):(a*a+b*b)*(x-u)= -b*(-b*x+a*y-(-b*u+a*w))+a*(a*x+b*y-(a*u+b*w)):=by grind
theorem abb(a b x y u w:RE):(a*a+b*b)*(y-w)=a*(-b*x+a*y-(-b*u+a*w))+b*(a*x+b*y-(a*u+b*w)):=by grind
theorem PT(a b c x y u w:RE)(h:a*x+b*y=c)(h':a*u+b*w=c):(a*a+b*b)*(x-u)= -b*(-b*x+a*y-(-b*u+a*w)):=by
 rw[adz a b x y u w,h,h',sub_self,mul_zero,add_zero]
theorem Ps(a b c x y u w:RE)(h:a*x+b*y=c)(h':a*u+b*w=c):(a*a+b*b)*(y-w)=a*(-b*x+a*y-(-b*u+a*w)):=by
 rw[abb a b x y u w,h,h',sub_self,mul_zero,add_zero]
def tL(l:Ln)(p:Pt):RE:= -of l.2.1*pX p+of l.1*pY p
theorem Nk(l:Ln){p:Pt}[_h:Rpd p]:vR (eo l p)=tL l p:=by
 unfold eo tL pX pY
 rw[vR_mk]
 unfold v2
 simp only[of_add,aS,of_neg]
 exact Od _ _ _ _ _ _ _
theorem pO{l:Ln}{p q:Pt}[Rpd p][Rpd q]:bI (eo l p) (eo l q)=sg (tL l p-tL l q):=by
 rw[cmpT_re (NC (l:=l) (p:=p)).nn (NC (l:=l) (p:=q)).nn,Nk,Nk]
def oo(l:Ln)(p:Pt):Prop:=of l.1*pX p+of l.2.1*pY p=of l.2.2
theorem DG{l:Ln}{p:Pt}[Rpd p](h:p6 l p=0):oo l p:=by
 rw[zH]at h
 exact Eb _ _ (sf.1 h)
theorem Ko{l:Ln}{p q:Pt}(hp:oo l p)(hq:oo l q):(of l.1*of l.1+of l.2.1*of l.2.1)*(pX p-pX q)= -of l.2.1*(tL l p-tL l q):=by
 unfold oo at hp hq
 unfold tL
 exact PT _ _ _ _ _ _ _ hp hq
theorem MU{l:Ln}{p q:Pt}(hp:oo l p)(hq:oo l q):(of l.1*of l.1+of l.2.1*of l.2.1)*(pY p-pY q)=of l.1*(tL l p-tL l q):=by
 unfold oo at hp hq
 unfold tL
 exact Ps _ _ _ _ _ _ _ hp hq
theorem Jj{a b:Rat}(h:a≠0∨b≠0):0<of a*of a+of b*of b:=by
 have h1:=lZ h
 have h2:0≤a*a:=by
  rcases(by grind:0≤a∨0≤ -a)with h|h
  ·exact agm h h
  ·have:=agm h h;grind
 have h3:0≤b*b:=by
  rcases(by grind:0≤b∨0≤ -b)with h|h
  ·exact agm h h
  ·have:=agm h h;grind
 rw[←aS,←aS,←of_add]
 exact lc (by grind)
theorem Lm{q:Rat}(h:q≠0):sg (of q)=1∨sg (of q)= -1:=by
 rw[sg_of]
 rcases(by grind:q<0∨0<q)with h'|h'
 ·exact .inr (dg h')
 ·exact .inl (cV h')
theorem J9{l:Ln}(hl:l.1≠0∨l.2.1≠0):∃s:Int,(s=1∨s= -1)∧∀p q:Pt,Rpd p→Rpd q→oo l p→oo l q→bZ p q=s*sg (tL l p-tL l q):=by
 have hn:=Jj hl
 by_cases hb:l.2.1=0
 ·have ha:l.1≠0:=hl.resolve_right (fun h=>h hb)
  refine⟨sg (of l.1),Lm ha,fun p q hp hq op oq=>?_⟩
  rw[yF]
  unfold lxc pR
  have e1:=Ko op oq
  have e2:=MU op oq
  have s1:=congrArg sg e1
  have s2:=congrArg sg e2
  rw[dN,dE hn,dN,hb,qx,Bm,dU]at s1
  rw[dN,dE hn,dN]at s2
  rw[show sg (pX p-pX q)=0 by omega]
  show sg (pY p-pY q)=_
  omega
 ·refine⟨-sg (of l.2.1),by rcases Lm hb with h|h<;>rw[h]<;>simp,fun p q hp hq op oq=>?_⟩
  rw[yF]
  unfold lxc pR
  have e1:=Ko op oq
  have e2:=MU op oq
  have s1:=congrArg sg e1
  have s2:=congrArg sg e2
  rw[dN,dE hn,dN,sG]at s1
  rw[dN,dE hn,dN]at s2
  rcases bj (tL l p-tL l q)with⟨_,h⟩|⟨_,h⟩|⟨_,h⟩<;>rw[h]at s1 s2 ⊢ <;>rcases Lm hb with g|g<;>rw[g]at s1 ⊢
  all_goals
   simp only[ahc,aic,ah9,aiF,Int.neg_neg]at s1 s2 ⊢
   try rw[s1]
   try rw[s2]
   try rfl
theorem IV{l:Ln}(hl:l.1≠0∨l.2.1≠0){F P T:Pt}[hF:Rpd F][hP:Rpd P][hT:Rpd T](oF:oo l F)(oP:oo l P)(oT:oo l T):
  u4 (bZ F P) (bZ P T)=OJ (sg (tL l F-tL l T)) (sg (tL l F-tL l P)) (sg (tL l P-tL l T)) (sg (tL l P-tL l F)) (sg (tL l T-tL l P)):=by
 obtain⟨s,hs,h⟩:=J9 hl
 have mF:tL l F∈[tL l F,tL l P,tL l T]:=by simp
 have mP:tL l P∈[tL l F,tL l P,tL l T]:=by simp
 have mT:tL l T∈[tL l F,tL l P,tL l T]:=by simp
 have e:u4 (bZ F P) (bZ P T)=u4 (sg (tL l F-tL l P)) (sg (tL l P-tL l T)):=by
  rw[h F P hF hP oF oP,h P T hP hT oP oT]
  rcases hs with rfl|rfl
  ·rw[ahc,ahc]
  ·rw[show(-1:Int)*sg (tL l F-tL l P)= -sg (tL l F-tL l P) by omega,show(-1:Int)*sg (tL l P-tL l T)= -sg (tL l P-tL l T) by omega,PD]
 have c:=fun{x y:RE} (hx:x∈[tL l F,tL l P,tL l T]) (hy:y∈[tL l F,tL l P,tL l T])=>MX sC D6 hx hy
 rw[e,c mF mP,c mP mT,c mF mT,c mP mF,c mT mP]
 exact PL ⟨_,A9 sC mF⟩ ⟨_,A9 sC mP⟩ ⟨_,A9 sC mT⟩
end RE
def gdC(c:BCU):Prop:=okC 500 c∧fi (dC c) (frC (dC c))=true∧fi (dC c) (toC (dC c))=true
theorem Lx{k:Nat}{x:BP}(h:okP k x):Rpd (dec x):=by
 obtain⟨p,rfl,bp,rp⟩:=bG h
 rw[aA]
 exact rp
def xA:List En:=[⟨99,fM,dS⟩,⟨108,fO,dP⟩,⟨107,gS,eU⟩,⟨106,gi,dY⟩,⟨109,jN,f0⟩,⟨41,eW,dk⟩,⟨73,iY,fx⟩,⟨305,uk,pP⟩,enT Ax,enL KX,enL Kk,enL NG,enL Ju,enL EK,enL Kv,enL Sn]
def Ub(l:BO3)(p:BP)(_k:KT):Option (List RV):=let y1:=aZ (dec (p.1,(p.2.1,p.2.2.2.2)));let y2:=hid ((aZ (dec p.2.2)).1);let y3:=iU (ah l.1) (hid (y1.1)) (y1.2);let y4:=iU (ah l.2.1) y2 ((aZ (dec p.2.2)).2);let y5:=dl (hid (y3.1)) (hid (y4.1));let y6:=hid ((frF (ah l.2.2)).1);let y7:=dl (hid (y5.1)) (hid (lm y6));og (decide (ok Rt 100000 (p.1,(p.2.1,p.2.2.2.2)))) (og (decide (ok Rat 100000 l.1∧prI (hid (y1.1)))) (og (decide (ok Rt 100000 p.2.2)) (og (decide (ok Rat 100000 l.2.1∧prI y2)) (og (decide (ok Rat 200000 l.2.2)) (match !(y3.2)with|true=>some [RV.d ai2 0,RV.d .bool false]|false=>(match !(y4.2)with|true=>some [RV.d ai2 0,RV.d .bool false]|false=>(match !((frF (ah l.2.2)).2)with|true=>some [RV.d ai2 0,RV.d .bool false]|false=>(og (decide (prI (hid (y3.1))∧prI (hid (y4.1)))) (match !(y5.2)with|true=>some [RV.d ai2 0,RV.d .bool false]|false=>(og (decide (prI y6)) (og (decide (prI (hid (y5.1))∧prI (hid (lm y6)))) (match !(y7.2)with|true=>some [RV.d ai2 0,RV.d .bool false]|false=>some [RV.d ai2 ((sgF (hid (y7.1))).1),RV.d .bool ((sgF (hid (y7.1))).2)]))))))))))))
def ZH:Cn 344 [tO,tP]:=cn fun(l:BO3) (p:BP)=>lf (ok Ln 300 l∧ok Pt 4000 p) [.d ai2 ((vL (dec l) (dec p)).1),.d .bool ((vL (dec l) (dec p)).2)] fun h=>by
 refine az xA (Ub l p) ⟨0,?_⟩
 obtain⟨hl,hp⟩:=h
 obtain⟨l,rfl,bl⟩:=aB hl
 obtain⟨p,rfl,bp⟩:=aB hp
 have dx:(dec ((aq p.1,aq p.2.1,aq p.2.2.2.2):BO3):Rt)=pxR p:=aA (pxR p)
 have dy:(dec ((aq p.2.2.1,aq p.2.2.2.1,aq p.2.2.2.2):BO3):Rt)=pyR p:=aA (pyR p)
 have dy':(dec (enc p.2.2:BO3):Rt)=pyR p:=aA (pyR p)
 have px:Bd (pxR p) 4000:=(inferInstance:Bd ((p.1,p.2.1,p.2.2.2.2):Rt) _).mono (by decide)
 have py:Bd (pyR p) 4000:=(inferInstance:Bd ((p.2.2.1,p.2.2.2.1,p.2.2.2.2):Rt) _).mono (by decide)
 have ox:decide (ok Rt 100000 ((aq p.1,aq p.2.1,aq p.2.2.2.2):BO3))=true:=okd (x:=pxR p) (by decide) (by decide)
 have oy:decide (ok Rt 100000 (enc p.2.2:BO3))=true:=okd (x:=pyR p) (by decide) (by decide)
 have pr:∀r,prI (aZ r).1:=vF
 have pt:∀n a k,prI (iU n a k).1:=PN
 have pf:∀q,prI (frF q).1:=RE.frF_pr
 unfold Ub
 simp only[aO,Nat.reduceLeDiff,dx,dy',ox,oy,dT (pr _),dT (pt _ _ _),dT (pf _),dT (RE.addF_pr (pt _ _ _) (pt _ _ _)),dT (RE.negF_pr (pf _))]
 unfold vL
 generalize aZ (pxR p)=X
 generalize aZ (pyR p)=Y
 generalize iU l.1 X.1 X.2=U
 generalize iU l.2.1 Y.1 Y.2=V
 generalize frF l.2.2=W
 generalize dl U.1 V.1=S
 generalize dl S.1 (lm W.1)=D
 generalize sgF D.1=Z
 obtain⟨_,u⟩:=U
 obtain⟨_,v⟩:=V
 obtain⟨_,w⟩:=W
 obtain⟨_,s⟩:=S
 obtain⟨_,d⟩:=D
 cases u<;>cases v<;>cases w<;>try rfl
 cases s<;>cases d<;>rfl
def IM:Cn 223 [tR,tR]:=cn fun(a b:BR)=>lf (okR a∧okR b) [.d tR (aq (ah a+ah b))] fun h=>iW [RV.d tR (hAd a b)] (c7 xA) h
def Ob:Cn 222 [tR,tR]:=cn fun(a b:BR)=>lf (okR a∧okR b) [.d tR (aq (ah a-ah b))] fun h=>iW [RV.d tR (hSu a b)] (c7 xA) h
def M7:Cn 224 [tR,tR]:=cn fun(a b:BR)=>lf (okR a∧okR b) [.d tR (aq (ah a*ah b))] fun h=>iW [RV.d tR (hMu a b)] (c7 xA) h
def RZ(a b:BR)(_k:KT):Option (List RV):=og (decide (gA a b)) (match 0 !=0 with|true=>(og (decide (aF (0:Int))) (some [RV.d tR (hid (aq ((0:Int):Rat)))]))|false=>some [RV.d tR (hDi a b)])
def TH:Cn 225 [tR,tR]:=cn fun(a b:BR)=>lf (gA a b) [.d tR (aq (ah a/ah b))] fun h=>by
 refine az xA (RZ a b) ⟨0,?_⟩
 unfold RZ
 rw[dT h]
 simp only[aX]
 rfl
def KD:List En:=enT ZH::enL IM::enL Ob::enL M7::enL TH::xA
def SJ(a b c:BR)(_k:KT):Option (List RV):=og (o1 a) (og (o1 b) (og (o1 c) (match(i64.wrap ((aC (ah b) 0)*(aC (ah c) 0)))==0 with|true=>some [RV.d ai2 (aC (ah a) 0)]|false=>(match(aC (ah a) 0)==(i64.wrap ((aC (ah b) 0)*(aC (ah c) 0)))with|true=>some [RV.d ai2 (aC (ah a) 0)]|false=>(match(aC (ah a) 0)==0 with|true=>some [RV.d ai2 (i64.wrap ((aC (ah b) 0)*(aC (ah c) 0)))]|false=>(og (o2 a a) (og (o2 b b) (og (o2 (hMu b b) c) (og (o2 (hMu a a) (hMu (hMu b b) c)) (some [RV.d ai2 (i64.wrap ((aC (ah a) 0)*(aC (ah (hMu a a)) (ah (hMu (hMu b b) c)))))]))))))))))
def Zy:Cn 343 [tR,tR,tR]:=cn fun(a b c:BR)=>lf (ok Rat 240000 a∧ok Rat 170000 b∧ok Rat 30000 c) [.d ai2 (fS (ah a) (ah b) (ah c))] fun h=>by
 refine az KD (SJ a b c) ⟨0,?_⟩
 obtain⟨ha,hb,hc⟩:=h
 obtain⟨a,rfl,ba⟩:=aB ha
 obtain⟨b,rfl,bb⟩:=aB hb
 obtain⟨c,rfl,bc⟩:=aB hc
 unfold SJ
 simp only[aO,Nat.reduceAdd,Nat.reduceLeDiff,n8]
 exact xZ _ _ _
def Se(a b c f:BR)(_k:KT):Option (List RV):=og (decide (ok Rt 100000 (a,(b,c)))) (og (decide (ok Rat 200000 f)) (match !((aZ (dec (a,(b,c)))).2)with|true=>some [RV.d tG (0,0),RV.d .bool false]|false=>(match !((frF (ah f)).2)with|true=>some [RV.d tG (0,0),RV.d .bool false]|false=>(og (decide (prI (hid ((frF (ah f)).1)))) (og (decide (prI (hid ((aZ (dec (a,(b,c)))).1))∧prI (hid (lm (hid ((frF (ah f)).1)))))) (some [RV.d tG (hid ((dl (hid ((aZ (dec (a,(b,c)))).1)) (hid (lm (hid ((frF (ah f)).1))))).1)),RV.d .bool ((dl (hid ((aZ (dec (a,(b,c)))).1)) (hid (lm (hid ((frF (ah f)).1))))).2)]))))))
def acK:Cn 361 [tR,tR,tR,tR]:=cn fun(a b c f:BR)=>lf (ok Rat 100000 a∧ok Rat 100000 b∧ok Rat 100000 c∧ok Rat 100000 f) [.d tG ((eK (ah a,ah b,ah c) (ah f)).1),.d .bool ((eK (ah a,ah b,ah c) (ah f)).2)] fun h=>by
 refine az KD (Se a b c f) ⟨0,?_⟩
 obtain⟨ha,hb,hc,hf⟩:=h
 obtain⟨a,rfl,ba⟩:=aB ha
 obtain⟨b,rfl,bb⟩:=aB hb
 obtain⟨c,rfl,bc⟩:=aB hc
 obtain⟨f,rfl,bf⟩:=aB hf
 have dr:(dec ((aq a,aq b,aq c):BO3):Rt)=(a,b,c):=aA ((a,b,c):Rt)
 have orr:decide (ok Rt 100000 ((aq a,aq b,aq c):BO3))=true:=okd (x:=((a,b,c):Rt)) (by decide) (by decide)
 unfold Se
 simp only[aO,Nat.reduceLeDiff,dr,orr,dT (RE.frF_pr _),dT (RE.negF_pr (RE.frF_pr _)),dT (vF _)]
 unfold eK
 generalize aZ (a,b,c)=X
 generalize frF f=Y
 obtain⟨_,x⟩:=X
 obtain⟨_,y⟩:=Y
 cases x<;>cases y<;>rfl
def Ic:List En:=enT Zy::enL acK::KD
def Tx(c:BO3)(p:BP)(_k:KT):Option (List RV):=let y1:=eK (ah p.1,ah p.2.1,ah p.2.2.2.2) (ah c.1);let y2:=eK (ah p.2.2.1,ah p.2.2.2.1,ah p.2.2.2.2) (ah c.2.1);let y3:=ct (hid (y1.1)) (hid (y1.1));let y4:=ct (hid (y2.1)) (hid (y2.1));let y5:=dl (hid (y3.1)) (hid (y4.1));let y6:=hid ((frF (ah c.2.2)).1);let y7:=dl (hid (y5.1)) (hid (lm y6));og (decide (ok Rat 100000 p.1∧ok Rat 100000 p.2.1∧ok Rat 100000 p.2.2.2.2∧ok Rat 100000 c.1)) (og (decide (ok Rat 100000 p.2.2.1∧ok Rat 100000 p.2.2.2.1∧ok Rat 100000 p.2.2.2.2∧ok Rat 100000 c.2.1)) (og (decide (ok Rat 200000 c.2.2)) (match !(y1.2)with|true=>some [RV.d ai2 0,RV.d .bool false]|false=>(match !(y2.2)with|true=>some [RV.d ai2 0,RV.d .bool false]|false=>(match !((frF (ah c.2.2)).2)with|true=>some [RV.d ai2 0,RV.d .bool false]|false=>(og (decide (prI (hid (y1.1))∧prI (hid (y1.1)))) (og (decide (prI (hid (y2.1))∧prI (hid (y2.1)))) (match !(y3.2)with|true=>some [RV.d ai2 0,RV.d .bool false]|false=>(match !(y4.2)with|true=>some [RV.d ai2 0,RV.d .bool false]|false=>(og (decide (prI (hid (y3.1))∧prI (hid (y4.1)))) (match !(y5.2)with|true=>some [RV.d ai2 0,RV.d .bool false]|false=>(og (decide (prI y6)) (og (decide (prI (hid (y5.1))∧prI (hid (lm y6)))) (match !(y7.2)with|true=>some [RV.d ai2 0,RV.d .bool false]|false=>some [RV.d ai2 ((sgF (hid (y7.1))).1),RV.d .bool ((sgF (hid (y7.1))).2)]))))))))))))))
def acw:Cn 342 [tO,tP]:=cn fun(c:BO3) (p:BP)=>lf (ok Ln 300 c∧ok Pt 4000 p) [.d ai2 ((rh (dec c) (dec p)).1),.d .bool ((rh (dec c) (dec p)).2)] fun h=>by
 refine az Ic (Tx c p) ⟨0,?_⟩
 obtain⟨hc,hp⟩:=h
 obtain⟨c,rfl,bc⟩:=aB hc
 obtain⟨p,rfl,bp⟩:=aB hp
 have pd:∀r q,prI (eK r q).1:=P4
 have pf:∀q,prI (frF q).1:=RE.frF_pr
 have pm:∀a b,prI (ct a b).1:=qt
 have dx:eK (p.1,p.2.1,p.2.2.2.2) c.1=eK (pxR p) c.1:=rfl
 have dy:eK (p.2.2.1,p.2.2.2.1,p.2.2.2.2) c.2.1=eK (pyR p) c.2.1:=rfl
 unfold Tx
 simp only[aO,Nat.reduceLeDiff,dx,dy,dT (pd _ _),dT (pm _ _),dT (pf _),dT (RE.negF_pr (pf _)),dT (RE.addF_pr (pm _ _) (pm _ _))]
 unfold rh
 generalize eK (pxR p) c.1=X
 generalize eK (pyR p) c.2.1=Y
 generalize frF c.2.2=W
 generalize ct X.1 X.1=U
 generalize ct Y.1 Y.1=V
 generalize dl U.1 V.1=S
 generalize dl S.1 (lm W.1)=D
 generalize sgF D.1=Z
 obtain⟨_,x⟩:=X
 obtain⟨_,y⟩:=Y
 obtain⟨_,w⟩:=W
 obtain⟨_,u⟩:=U
 obtain⟨_,v⟩:=V
 obtain⟨_,s⟩:=S
 obtain⟨_,d⟩:=D
 cases x<;>cases y<;>cases w<;>try rfl
 cases u<;>cases v<;>try rfl
 cases s<;>cases d<;>rfl
def Ru(l:BO3)(p:BP)(_k:KT):Option (List RV):=og (decide (ok Ln 300 l∧ok Pt 4000 p)) (match(vL (dec l) (dec p)).2 with|true=>some [RV.d ai2 ((vL (dec l) (dec p)).1)]|false=>(og (o2 l.1 p.1) (og (o2 l.2.1 p.2.2.1) (og (o2 (hMu l.1 p.1) (hMu l.2.1 p.2.2.1)) (og (o2 (hAd (hMu l.1 p.1) (hMu l.2.1 p.2.2.1)) l.2.2) (og (o2 l.1 p.2.1) (og (o2 l.2.1 p.2.2.2.1) (og (o2 (hMu l.1 p.2.1) (hMu l.2.1 p.2.2.2.1)) (og (decide (ok Rat 240000 (hSu (hAd (hMu l.1 p.1) (hMu l.2.1 p.2.2.1)) l.2.2)∧ok Rat 170000 (hAd (hMu l.1 p.2.1) (hMu l.2.1 p.2.2.2.1))∧ok Rat 30000 p.2.2.2.2)) (some [RV.d ai2 (fS (ah (hSu (hAd (hMu l.1 p.1) (hMu l.2.1 p.2.2.1)) l.2.2)) (ah (hAd (hMu l.1 p.2.1) (hMu l.2.1 p.2.2.2.1))) (ah p.2.2.2.2))]))))))))))
def adr:Cn 308 [tO,tP]:=cn fun(l:BO3) (p:BP)=>lf (ok Ln 300 l∧okP 4000 p) [.d ai2 (p6 (dec l) (dec p))] fun h=>by
 refine az Ic (Ru l p) ⟨0,?_⟩
 obtain⟨hl,hp⟩:=h
 obtain⟨l,rfl,bl⟩:=aB hl
 obtain⟨p,rfl,bp,rp⟩:=bG hp
 unfold Ru
 simp only[aO,Nat.reduceAdd,Nat.reduceLeDiff]
 cases hq:(vL l p).2
 ·rfl
 ·rw[RE.sidL_ok l hq]
def TY:List En:=enT acw::Ic
def Rs(c:BO3)(p:BP)(_k:KT):Option (List RV):=og (decide (ok Ln 300 c∧ok Pt 4000 p)) (match(rh (dec c) (dec p)).2 with|true=>some [RV.d ai2 (i64.wrap (0-((rh (dec c) (dec p)).1)))]|false=>(og (o2 p.1 c.1) (og (o2 p.2.2.1 c.2.1) (og (o2 (hSu p.1 c.1) (hSu p.1 c.1)) (og (o2 (hSu p.2.2.1 c.2.1) (hSu p.2.2.1 c.2.1)) (og (o2 (hMu (hSu p.1 c.1) (hSu p.1 c.1)) (hMu (hSu p.2.2.1 c.2.1) (hSu p.2.2.1 c.2.1))) (og (o2 p.2.1 p.2.1) (og (o2 p.2.2.2.1 p.2.2.2.1) (og (o2 (hMu p.2.1 p.2.1) (hMu p.2.2.2.1 p.2.2.2.1)) (og (o2 p.2.2.2.2 (hAd (hMu p.2.1 p.2.1) (hMu p.2.2.2.1 p.2.2.2.1))) (og (o2 (hAd (hMu (hSu p.1 c.1) (hSu p.1 c.1)) (hMu (hSu p.2.2.1 c.2.1) (hSu p.2.2.1 c.2.1))) (hMu p.2.2.2.2 (hAd (hMu p.2.1 p.2.1) (hMu p.2.2.2.1 p.2.2.2.1)))) (og (o2 (hSu p.1 c.1) p.2.1) (og (o2 (hSu p.2.2.1 c.2.1) p.2.2.2.1) (og (o2 (hMu (hSu p.1 c.1) p.2.1) (hMu (hSu p.2.2.1 c.2.1) p.2.2.2.1)) (og (o2 (hAd (hAd (hMu (hSu p.1 c.1) (hSu p.1 c.1)) (hMu (hSu p.2.2.1 c.2.1) (hSu p.2.2.1 c.2.1))) (hMu p.2.2.2.2 (hAd (hMu p.2.1 p.2.1) (hMu p.2.2.2.1 p.2.2.2.1)))) c.2.2) (og (o2 (hAd (hMu (hSu p.1 c.1) p.2.1) (hMu (hSu p.2.2.1 c.2.1) p.2.2.2.1)) (hAd (hMu (hSu p.1 c.1) p.2.1) (hMu (hSu p.2.2.1 c.2.1) p.2.2.2.1))) (og (decide (ok Rat 240000 (hSu (hAd (hAd (hMu (hSu p.1 c.1) (hSu p.1 c.1)) (hMu (hSu p.2.2.1 c.2.1) (hSu p.2.2.1 c.2.1))) (hMu p.2.2.2.2 (hAd (hMu p.2.1 p.2.1) (hMu p.2.2.2.1 p.2.2.2.1)))) c.2.2)∧ok Rat 170000 (hAd (hAd (hMu (hSu p.1 c.1) p.2.1) (hMu (hSu p.2.2.1 c.2.1) p.2.2.2.1)) (hAd (hMu (hSu p.1 c.1) p.2.1) (hMu (hSu p.2.2.1 c.2.1) p.2.2.2.1)))∧ok Rat 30000 p.2.2.2.2)) (some [RV.d ai2 (i64.wrap (0-(fS (ah (hSu (hAd (hAd (hMu (hSu p.1 c.1) (hSu p.1 c.1)) (hMu (hSu p.2.2.1 c.2.1) (hSu p.2.2.1 c.2.1))) (hMu p.2.2.2.2 (hAd (hMu p.2.1 p.2.1) (hMu p.2.2.2.1 p.2.2.2.1)))) c.2.2)) (ah (hAd (hAd (hMu (hSu p.1 c.1) p.2.1) (hMu (hSu p.2.2.1 c.2.1) p.2.2.2.1)) (hAd (hMu (hSu p.1 c.1) p.2.1) (hMu (hSu p.2.2.1 c.2.1) p.2.2.2.1)))) (ah p.2.2.2.2))))]))))))))))))))))))
def aah:Cn 307 [tO,tP]:=cn fun(c:BO3) (p:BP)=>lf (ok Ln 300 c∧okP 4000 p) [.d ai2 (ot (dec c) (dec p))] fun h=>by
 refine az TY (Rs c p) ⟨0,?_⟩
 obtain⟨hc,hp⟩:=h
 obtain⟨c,rfl,bc⟩:=aB hc
 obtain⟨p,rfl,bp,rp⟩:=bG hp
 have sb:=kf (sqA p (ctr c)-c.2.2) (sqB p (ctr c)) p.2.2.2.2
 unfold Rs
 simp only[aO,Nat.reduceAdd,Nat.reduceLeDiff]
 cases hq:(rh c p).2
 ·unfold ot sqA sqB ctr at*
  dsimp only at sb ⊢
  rw[show(p.2.2.2.2*(p.2.1*p.2.1+p.2.2.2.1*p.2.2.2.1))=(p.2.1*p.2.1+p.2.2.2.1*p.2.2.2.1)*p.2.2.2.2 by grind]
  rw[aP (by omega) (by omega),ahN]
 ·have hb: -1≤(rh c p).1∧(rh c p).1≤1:=by
   have:=RE.insC_ok c hq
   unfold ot at this
   omega
  dsimp only
  rw[aP (by omega) (by omega),ahN,RE.insC_ok c hq]
def TV(l:BO3)(v:BV)(_k:KT):Option (List RV):=og (o2 l.1 v.1) (og (o2 l.2.1 v.2) (og (o2 (hMu l.1 v.1) (hMu l.2.1 v.2)) (og (o2 (hAd (hMu l.1 v.1) (hMu l.2.1 v.2)) l.2.2) (og (o2 l.1 l.1) (og (o2 l.2.1 l.2.1) (og (o2 (hMu l.1 l.1) (hMu l.2.1 l.2.1)) (og (decide (gA (hSu (hAd (hMu l.1 v.1) (hMu l.2.1 v.2)) l.2.2) (hAd (hMu l.1 l.1) (hMu l.2.1 l.2.1)))) (og (o2 (hDi (hSu (hAd (hMu l.1 v.1) (hMu l.2.1 v.2)) l.2.2) (hAd (hMu l.1 l.1) (hMu l.2.1 l.2.1))) l.1) (og (o2 v.1 (hMu (hDi (hSu (hAd (hMu l.1 v.1) (hMu l.2.1 v.2)) l.2.2) (hAd (hMu l.1 l.1) (hMu l.2.1 l.2.1))) l.1)) (og (o2 (hDi (hSu (hAd (hMu l.1 v.1) (hMu l.2.1 v.2)) l.2.2) (hAd (hMu l.1 l.1) (hMu l.2.1 l.2.1))) l.2.1) (og (o2 v.2 (hMu (hDi (hSu (hAd (hMu l.1 v.1) (hMu l.2.1 v.2)) l.2.2) (hAd (hMu l.1 l.1) (hMu l.2.1 l.2.1))) l.2.1)) (some [RV.d tV (hSu v.1 (hMu (hDi (hSu (hAd (hMu l.1 v.1) (hMu l.2.1 v.2)) l.2.2) (hAd (hMu l.1 l.1) (hMu l.2.1 l.2.1))) l.1),hSu v.2 (hMu (hDi (hSu (hAd (hMu l.1 v.1) (hMu l.2.1 v.2)) l.2.2) (hAd (hMu l.1 l.1) (hMu l.2.1 l.2.1))) l.2.1))]))))))))))))
def HX:Cn 113 [tO,tV]:=cn fun(l:BO3) (v:BV)=>lf (ok Ln 300 l∧ok (Rat×Rat) 200 v∧((dec l:Ln).1≠0∨(dec l:Ln).2.1≠0)) [.d tV (enc (eT (dec l) (dec v)))] fun h=>by
 refine az TY (TV l v) ⟨0,?_⟩
 obtain⟨hl,hv,h0⟩:=h
 obtain⟨l,rfl,bl⟩:=aB hl
 obtain⟨v,rfl,bv⟩:=aB hv
 have hn:l.1*l.1+l.2.1*l.2.1≠0:=lZ (by rw[aA]at h0;exact h0)
 unfold TV
 simp only[aO,Nat.reduceAdd,Nat.reduceLeDiff,hn,ne_eq,ahp]
 rfl
theorem PO(n:Int):(if(if n>(-1)then n else(-1))<1 then(if n>(-1)then n else(-1))else 1)=jd n:=by
 unfold jd
 split<;>split<;>(try split)<;>(try split)<;>omega
def vZ:List En:=[enT Aw,enT KH,enL abl,enL ZM,enT Na,enT adr,enT aah]
def Te(c:BCU)(p:BP)(_k:KT):Option (List RV):=match c.1 with|true=>(og (decide (ok Ln 300 c.2.2.1∧okP 4000 p)) (some [RV.d .bool ((ot (dec c.2.2.1) (dec p))==0)]))|false=>(og (decide (ok Ln 300 c.2.1∧okP 4000 p)) (some [RV.d .bool ((p6 (dec c.2.1) (dec p))==0)]))
def aau:Cn 226 [tCU,tP]:=cn fun(c:BCU) (p:BP)=>lf (okC 4000 c∧okP 4000 p) [.d .bool (fi (dC c) (dec p))] fun h=>by
 refine az vZ (Te c p) ⟨0,?_⟩
 obtain⟨hc,hp⟩:=h
 have op:decide (okP 4000 p)=true:=afZ hp
 obtain⟨ar,li,ci,cw,fr,to⟩:=c
 obtain⟨c1,c2,_⟩:=hc
 unfold Te
 cases ar
 ·have e:=(c2 rfl).1
  simp only[ahP,dT e,op,ahq]
  rfl
 ·have e:=(c1 rfl).1
  simp only[ahP,dT e,op,ahq]
  rfl
def TL(c:BO3)(p:BP)(_k:KT):Option (List RV):=og (decide (okP 4000 p)) (og (decide (okT 15000 (hid (enc (yP (dec p))))∧ok Rat 15000 c.2.1)) (match decide ((fv (dec (hid (enc (yP (dec p))))) (ah c.2.1))>0)with|true=>some [RV.d ai2 0]|false=>(match(fv (dec (hid (enc (yP (dec p))))) (ah c.2.1))==0 with|true=>(og (decide (okP 4000 p)) (og (decide (okT 15000 (hid (enc (xP (dec p))))∧ok Rat 15000 c.1)) (match decide ((fv (dec (hid (enc (xP (dec p))))) (ah c.1))>0)with|true=>some [RV.d ai2 0]|false=>some [RV.d ai2 1])))|false=>some [RV.d ai2 1])))
def adN:Cn 327 [tO,tP]:=cn fun(c:BO3) (p:BP)=>lf (ok Ln 300 c∧okP 4000 p) [.d ai2 (BX (dec c) (dec p))] fun h=>by
 refine az vZ (TL c p) ⟨0,?_⟩
 obtain⟨hc,hp⟩:=h
 obtain⟨c,rfl,bc⟩:=aB hc
 obtain⟨p,rfl,bp,rp⟩:=bG hp
 unfold TL BX upR
 simp only[aO,Nat.reduceLeDiff,aH,aI]
 cases decide (fv (yP p) c.2.1>0)<;>cases fv (yP p) c.2.1==0<;>cases decide (fv (xP p) c.1>0)<;>rfl
def ack:Ctx:=CX (ens vZ) []
def SS(n:Int)(_k:KT):Option (List RV):=some [RV.d ai2 (if(if n>(-1)then n else(-1))<1 then(if n>(-1)then n else(-1))else 1)]
theorem ab3(n:Int):RS ack 286 [SI n] (SS n):=rsX
def aab:Cn 286 [ai2]:=cn fun(n:Int)=>lf True [.d ai2 (jd n)] fun _=>by
 refine cJ vZ (ab3 _ ⟨0,?_⟩)
 unfold SS
 rw[PO]
def adW:Ctx:=CX (ens vZ) []
def abY(c:BCU)(_k:KT):Option (List RV):=match c.1 with|true=>some [RV.d tCU (c.1,(c.2.1,(c.2.2.1,(!c.2.2.2.1,(c.2.2.2.2.2,c.2.2.2.2.1)))))]|false=>some [RV.d tCU (c.1,(c.2.1,(c.2.2.1,(false,(c.2.2.2.2.2,c.2.2.2.2.1)))))]
theorem acu(c:BCU):RS adW 284 [.d tCU c] (abY c):=rsX
def acy:Cn 284 [tCU]:=cn fun(c:BCU)=>lf True [.d tCU (J8 c)] fun _=>by
 refine cJ vZ (acu _ ⟨0,?_⟩)
 obtain⟨ar,li,ci,cw,fr,to⟩:=c
 cases ar<;>rfl
def E2:List En:=enT aau::enT adN::enT aab::enL acy::vZ
def TE(c:BO3)(p q:BP)(_k:KT):Option (List RV):=og (decide (ok Ln 300 c∧okP 4000 p)) (og (decide (ok Ln 300 c∧okP 4000 q)) (match(BX (dec c) (dec p)) !=(BX (dec c) (dec q))with|true=>some [RV.d ai2 (i64.wrap ((BX (dec c) (dec p))-(BX (dec c) (dec q))))]|false=>(og (decide (okP 4000 p)) (og (decide (okP 4000 q)) (og (decide (okT 15000 (hid (enc (xP (dec p))))∧okT 15000 (hid (enc (xP (dec q)))))) (match(BX (dec c) (dec p))==0 with|true=>some [RV.d ai2 (i64.wrap (0-(bI (dec (hid (enc (xP (dec p))))) (dec (hid (enc (xP (dec q))))))))]|false=>some [RV.d ai2 (bI (dec (hid (enc (xP (dec p))))) (dec (hid (enc (xP (dec q))))))]))))))
def ZZ:Cn 287 [tO,tP,tP]:=cn fun(c:BO3) (p q:BP)=>lf (ok Ln 300 c∧okP 4000 p∧okP 4000 q) [.d ai2 (oK bI (ptd (dec c) (dec p)) (ptd (dec c) (dec q)))] fun h=>by
 refine az E2 (TE c p q) ⟨0,?_⟩
 obtain⟨hc,hp,hq⟩:=h
 obtain⟨c,rfl,bc⟩:=aB hc
 obtain⟨p,rfl,bp,rp⟩:=bG hp
 obtain⟨q,rfl,bq,rq⟩:=bG hq
 have xb:=tX (xP p) (xP q)
 unfold TE
 simp only[aO,Nat.reduceLeDiff,aH,aI,aP (x:= -bI (xP p) (xP q)) (by omega) (by omega),ahN]
 unfold oK BX ptd
 cases upR c p<;>cases upR c q<;>rfl
def adX:Ctx:=CX (ens E2) []
def UU(c:BCU)(_k:KT):Option (List RV):=match c.2.2.2.1 with|true=>some [RV.d tCU (hid (J8 c))]|false=>some [RV.d tCU c]
theorem ZA(c:BCU):RS adX 190 [.d tCU c] (UU c):=rsX
def Sj:Cn 190 [tCU]:=cn fun(c:BCU)=>lf True [.d tCU (dv c)] fun _=>by
 refine cJ E2 (ZA _ ⟨0,?_⟩)
 obtain⟨ar,li,ci,cw,fr,to⟩:=c
 unfold UU dv
 cases cw
 ·rfl
 ·simp only[aX];rfl
def TM:List En:=enT ZZ::enL Sj::E2
def SF(c:BO3)(f p:BP)(_k:KT):Option (List RV):=og (decide (ok Ln 300 c∧okP 4000 p∧okP 4000 f)) (match(oK bI (ptd (dec c) (dec p)) (ptd (dec c) (dec f)))==0 with|true=>some [RV.d ai2 0]|false=>(match decide ((oK bI (ptd (dec c) (dec p)) (ptd (dec c) (dec f)))>0)with|true=>some [RV.d ai2 1]|false=>some [RV.d ai2 2]))
def ad5:Cn 285 [tO,tP,tP]:=cn fun(c:BO3) (f p:BP)=>lf (ok Ln 300 c∧okP 4000 f∧okP 4000 p) [.d ai2 (mo bI (ptd (dec c) (dec f)) (ptd (dec c) (dec p)))] fun h=>by
 refine az TM (SF c f p) ⟨0,?_⟩
 obtain⟨hc,hf,hp⟩:=h
 unfold SF mo
 rw[dT ⟨hc,hp,hf⟩]
 cases oK bI (ptd (dec c) (dec p)) (ptd (dec c) (dec f))==0<;>cases decide (oK bI (ptd (dec c) (dec p)) (ptd (dec c) (dec f))>0)<;>rfl
def Tn:List En:=enT ad5::TM
def RC(c:BO3)(f p q:BP)(_k:KT):Option (List RV):=og (decide (ok Ln 300 c∧okP 4000 f∧okP 4000 p)) (og (decide (ok Ln 300 c∧okP 4000 f∧okP 4000 q)) (match(mo bI (ptd (dec c) (dec f)) (ptd (dec c) (dec p))) !=(mo bI (ptd (dec c) (dec f)) (ptd (dec c) (dec q)))with|true=>some [RV.d ai2 (jd (i64.wrap ((mo bI (ptd (dec c) (dec f)) (ptd (dec c) (dec p)))-(mo bI (ptd (dec c) (dec f)) (ptd (dec c) (dec q))))))]|false=>(og (decide (ok Ln 300 c∧okP 4000 p∧okP 4000 q)) (some [RV.d ai2 (jd (oK bI (ptd (dec c) (dec p)) (ptd (dec c) (dec q))))]))))
def Mh:Cn 191 [tO,tP,tP,tP]:=cn fun(c:BO3) (f p q:BP)=>lf (ok Ln 300 c∧okP 4000 f∧okP 4000 p∧okP 4000 q) [.d ai2 (kL bI (ptd (dec c) (dec f)) (ptd (dec c) (dec p)) (ptd (dec c) (dec q)))] fun h=>by
 refine az Tn (RC c f p q) ⟨0,?_⟩
 obtain⟨hc,hf,hp,hq⟩:=h
 unfold RC kL bne
 have b1:=E0 (p:=ptd (dec c) (dec f)) (q:=ptd (dec c) (dec p))
 have b2:=E0 (p:=ptd (dec c) (dec f)) (q:=ptd (dec c) (dec q))
 rw[dT ⟨hc,hf,hp⟩,dT ⟨hc,hf,hq⟩,dT ⟨hc,hp,hq⟩,aP (by omega) (by omega)]
 cases mo bI (ptd (dec c) (dec f)) (ptd (dec c) (dec p))==mo bI (ptd (dec c) (dec f)) (ptd (dec c) (dec q))<;>rfl
def TO:List En:=enT Mh::Tn
def Su(c:BCU)(p:BP)(_k:KT):Option (List RV):=match !c.1 with|true=>(og (decide (okP 4000 c.2.2.2.2.1∧okP 4000 p)) (og (decide (okP 4000 p∧okP 4000 c.2.2.2.2.2)) (match(bZ (dec c.2.2.2.2.1) (dec p))==0 with|true=>some [RV.d .bool true]|false=>(match(bZ (dec p) (dec c.2.2.2.2.2))==0 with|true=>some [RV.d .bool true]|false=>some [RV.d .bool ((bZ (dec c.2.2.2.2.1) (dec p))==(bZ (dec p) (dec c.2.2.2.2.2)))]))))|false=>(og (decide (ok Ln 300 ((((hid (dv c)).2).2).1)∧okP 4000 ((((((hid (dv c)).2).2).2).2).1)∧okP 4000 p∧okP 4000 ((((((hid (dv c)).2).2).2).2).2))) (some [RV.d .bool (decide ((kL bI (ptd (dec ((((hid (dv c)).2).2).1)) (dec ((((((hid (dv c)).2).2).2).2).1))) (ptd (dec ((((hid (dv c)).2).2).1)) (dec p)) (ptd (dec ((((hid (dv c)).2).2).1)) (dec ((((((hid (dv c)).2).2).2).2).2))))≤0))]))
def K3:Cn 89 [tCU,tP]:=cn fun(c:BCU) (p:BP)=>lf (okC 4000 c∧okP 4000 p) [.d .bool (gM (dC c) (dec p))] fun h=>by
 refine az TO (Su c p) ⟨0,?_⟩
 obtain⟨hc,hp⟩:=h
 obtain⟨ar,li,ci,cw,fr,to⟩:=c
 obtain⟨c1,c2,c3,c4⟩:=hc
 unfold Su gM
 simp only[aX]
 cases ar
 ·try dsimp only[Bool.not_false]
  rw[dT ⟨c3,hp⟩,dT ⟨hp,c4⟩]
  show _=some [RV.d .bool (u4 (bZ (dec fr) (dec p)) (bZ (dec p) (dec to)))]
  unfold u4
  cases bZ (dec fr) (dec p)==0<;>cases bZ (dec p) (dec to)==0<;>rfl
 ·have e:=(c1 rfl).1
  cases cw
  ·rw[dT (show ok Ln 300 (dv (true,li,ci,false,fr,to)).2.2.1∧okP 4000 (dv (true,li,ci,false,fr,to)).2.2.2.2.1∧okP 4000 p∧okP 4000 (dv (true,li,ci,false,fr,to)).2.2.2.2.2 from⟨e,c3,hp,c4⟩)]
   rfl
  ·rw[dT (show ok Ln 300 (dv (true,li,ci,true,fr,to)).2.2.1∧okP 4000 (dv (true,li,ci,true,fr,to)).2.2.2.2.1∧okP 4000 p∧okP 4000 (dv (true,li,ci,true,fr,to)).2.2.2.2.2 from⟨e,c4,hp,c3⟩)]
   rfl
def Z7:List En:=enT K3::TO
def Vr(c:BCU)(p:BP)(_k:KT):Option (List RV):=og (decide (okC 4000 c∧okP 4000 p)) (match fi (dC c) (dec p)with|true=>(og (decide (okC 4000 c∧okP 4000 p)) (some [RV.d .bool (gM (dC c) (dec p))]))|false=>some [RV.d .bool false])
def Ek:Cn 114 [tCU,tP]:=cn fun(c:BCU) (p:BP)=>lf (okC 4000 c∧okP 4000 p) [.d .bool (onP (dC c) (dec p))] fun h=>by
 refine az Z7 (Vr c p) ⟨0,?_⟩
 unfold Vr onP
 rw[dT h]
 cases fi (dC c) (dec p)<;>rfl
theorem kJ{j k:Nat}{x:BP}(h:okP j x)(hj:j≤k)(hk:k≤480000):okP k x:=by
 obtain⟨p,rfl,bp,rp⟩:=bG h
 exact af2 (aI hj hk)
theorem cG{j k:Nat}{c:BCU}(h:okC j c)(hj:j≤k)(hk:k≤480000):okC k c:=⟨h.1,h.2.1,kJ h.2.2.1 hj hk,kJ h.2.2.2 hj hk⟩
theorem FJ{c:BCU}(hc:okC 500 c){v:Rat×Rat}[bv:Bd v 200]:Bd (ro (dC c) v) 15000∧Rdd (ro (dC c) v):=by
 obtain⟨ar,li,ci,cw,fr,to⟩:=c
 have h3:=hc.2.2.1
 have h4:=hc.2.2.2
 simp only at h3 h4
 obtain⟨fr,rfl,bf,rf⟩:=bG h3
 obtain⟨to,rfl,bt,rt⟩:=bG h4
 have he:Bd (qZ (sqP fr v) (sqP to v)) 15000:=(inferInstance:Bd (qZ (sqP fr v) (sqP to v)) _).mono (by decide)
 cases ar
 ·obtain⟨c2,c3⟩:=hc.2.1 rfl
  simp only at c2 c3
  obtain⟨li,rfl,bl⟩:=aB c2
  unfold ro zA
  simp only[dC,lnC,frC,toC,aA,cond_false]
  cases qM (false,li,dec ci,cw,fr,to) (atP v)
  ·exact⟨he,HV⟩
  ·exact⟨(inferInstance:Bd ((bT (cU v (eT li v)) (cU v (eT li v)),0,0):Rt) _).mono (by decide),Yc⟩
 ·obtain⟨c1,hq⟩:=hc.1 rfl
  simp only at c1 hq
  obtain⟨ci,rfl,bc⟩:=aB c1
  rw[aA]at hq
  have hC:Cir ci:=⟨hq⟩
  unfold ro zA
  simp only[dC,lnC,frC,toC,ciC,bO,aA,agd]
  cases fB (true,dec li,ci,cw,fr,to) (cU (ctr ci) v)
  ·exact⟨he,HV⟩
  ·have b2:Bd (-2:Rat) 3:=cO (n:= -2) (by decide)
   exact⟨(inferInstance:Bd (mkR (bT (cU (ctr ci) v) (cU (ctr ci) v)+ci.2.2) (-2) (bT (cU (ctr ci) v) (cU (ctr ci) v)*ci.2.2)) _).mono (by decide),pF⟩
def acU:List En:=[enL EZ]
def T3(a b:BV)(_k:KT):Option (List RV):=og (o2 b.1 a.1) (og (o2 b.2 a.2) (some [RV.d tV (hSu b.1 a.1,hSu b.2 a.2)]))
def ad2:Cn 311 [tV,tV]:=cn fun(a b:BV)=>lf (ok (Rat×Rat) 10000 a∧ok (Rat×Rat) 10000 b) [.d tV (enc (cU (dec a) (dec b)))] fun h=>by
 refine az acU (T3 a b) ⟨0,?_⟩
 obtain⟨ha,hb⟩:=h
 obtain⟨a,rfl,ba⟩:=aB ha
 obtain⟨b,rfl,bb⟩:=aB hb
 unfold T3
 simp only[aO,Nat.reduceLeDiff]
 try rfl
def Ak:List En:=[⟨41,eW,dk⟩,⟨109,jN,f0⟩,⟨99,fM,dS⟩,⟨108,fO,dP⟩,⟨305,uk,pP⟩,⟨107,gS,eU⟩,⟨106,gi,dY⟩,enL Vm,enL xc,enL AT,enL UH,enL RT,enT Ek,enL HX,enT Aw,enT KH,enL HQ,enL EZ,enL JL,enL ad2,enL acA,enL MJ]
def Tc(a b c:BR)(_k:KT):Option (List RV):=og (decide (ok Rat 100000 a∧ok Rat 100000 b∧ok Rat 100000 c∧0≤ah c)) (match 0 !=0 with|true=>(og (o1 a) (some [RV.d tO (hid (enc ((ah a,0,0):Rt)))]))|false=>some [RV.d tO (hid (enc (mkR (ah a) (ah b) (ah c))))])
def Sc:Cn 98 [tR,tR,tR]:=cn fun(a b c:BR)=>lf (ok Rat 100000 a∧ok Rat 100000 b∧ok Rat 100000 c∧0≤ah c) [.d tO (enc (mkR (ah a) (ah b) (ah c)))] fun h=>by
 refine az Ak (Tc a b c) ⟨0,?_⟩
 obtain⟨ha,hb,hc,hn⟩:=h
 unfold Tc
 rw[dT ⟨ha,hb,hc,hn⟩]
 simp only[aX]
 rfl
def Sw(v:BV)(_k:KT):Option (List RV):=og (o1 v.1) (match(aC (ah v.1) 0)==0 with|true=>(og (o1 v.2) (some [RV.d .bool ((aC (ah v.2) 0)==0)]))|false=>some [RV.d .bool false])
def adQ:Cn 217 [tV]:=cn fun(v:BV)=>lf (ok (Rat×Rat) 100000 v) [.d .bool (zeV (dec v))] fun h=>by
 refine az Ak (Sw v) ⟨0,?_⟩
 have hv:=h
 obtain⟨v,rfl,bv⟩:=aB hv
 unfold Sw
 simp only[aO,Nat.reduceLeDiff,am]
 unfold zeV
 cases decide (v.1=0)<;>rfl
def abT:Ctx:=CX (ens Ak) []
def aaB(c:BCU)(_k:KT):Option (List RV):=some [RV.d tV (c.2.2.1.1,c.2.2.1.2.1)]
theorem Y4(c:BCU):RS abT 102 [.d tCU c] (aaB c):=rsX
def Vj:Cn 102 [tCU]:=cn fun(c:BCU)=>lf True [.d tV (c.2.2.1.1,c.2.2.1.2.1)] fun _=>by
 exact cJ Ak (Y4 _ ⟨0,rfl⟩)
def Ni:List En:=enL Sc::enT adQ::enL Vj::Ak
def T4(l:BO3)(p:BP)(_k:KT):Option (List RV):=og (o1 l.2.1) (og (o2 (hNe l.2.1) p.1) (og (o2 l.1 p.2.2.1) (og (o2 (hMu (hNe l.2.1) p.1) (hMu l.1 p.2.2.1)) (og (o2 (hNe l.2.1) p.2.1) (og (o2 l.1 p.2.2.2.1) (og (o2 (hMu (hNe l.2.1) p.2.1) (hMu l.1 p.2.2.2.1)) (og (decide (ok Rat 100000 (hAd (hMu (hNe l.2.1) p.1) (hMu l.1 p.2.2.1))∧ok Rat 100000 (hAd (hMu (hNe l.2.1) p.2.1) (hMu l.1 p.2.2.2.1))∧ok Rat 100000 p.2.2.2.2∧0≤ah p.2.2.2.2)) (some [RV.d tO (hid (enc (mkR (ah (hAd (hMu (hNe l.2.1) p.1) (hMu l.1 p.2.2.1))) (ah (hAd (hMu (hNe l.2.1) p.2.1) (hMu l.1 p.2.2.2.1))) (ah p.2.2.2.2))))]))))))))
def ab4:Cn 205 [tO,tP]:=cn fun(l:BO3) (p:BP)=>lf (ok Ln 300 l∧okP 4000 p) [.d tO (enc (eo (dec l) (dec p)))] fun h=>by
 refine az Ni (T4 l p) ⟨0,?_⟩
 obtain⟨hl,hp⟩:=h
 obtain⟨l,rfl,bl⟩:=aB hl
 obtain⟨p,rfl,bp,rp⟩:=bG hp
 have hn:0≤p.2.2.2.2:=rp.nn
 unfold T4
 simp only[aO,Nat.reduceAdd,Nat.reduceLeDiff,dT hn]
 rfl
def Ri(a b:BO3)(_k:KT):Option (List RV):=og (decide (okT 15000 b∧okT 15000 a)) (match decide ((bI (dec b) (dec a))<0)with|true=>some [RV.d tO b]|false=>some [RV.d tO a])
def adu:Cn 310 [tO,tO]:=cn fun(a b:BO3)=>lf (okT 15000 a∧okT 15000 b) [.d tO (enc (qZ (dec a) (dec b)))] fun h=>by
 refine az Ni (Ri a b) ⟨0,?_⟩
 obtain⟨ha,hb⟩:=h
 obtain⟨a,rfl,ba,ra⟩:=fN ha
 obtain⟨b,rfl,bb,rb⟩:=fN hb
 unfold Ri qZ
 simp only[aO,Nat.reduceLeDiff,aH]
 cases decide (bI b a<0)<;>rfl
def KY:List En:=enL ab4::enL adu::Ni
def SA(c:BCU)(p:BP)(_k:KT):Option (List RV):=og (decide (ok Ln 300 c.2.1∧okP 4000 p)) (og (decide (ok Ln 300 c.2.1∧okP 4000 c.2.2.2.2.1)) (og (decide (ok Ln 300 c.2.1∧okP 4000 c.2.2.2.2.2)) (og (decide (okT 15000 (hid (enc (eo (dec c.2.1) (dec c.2.2.2.2.1))))∧okT 15000 (hid (enc (eo (dec c.2.1) (dec c.2.2.2.2.2)))))) (match decide ((bI (dec (hid (enc (eo (dec c.2.1) (dec c.2.2.2.2.1))))) (dec (hid (enc (eo (dec c.2.1) (dec c.2.2.2.2.2))))))>0)with|true=>(og (decide (okT 15000 (hid (enc (eo (dec c.2.1) (dec c.2.2.2.2.2))))∧okT 15000 (hid (enc (eo (dec c.2.1) (dec p)))))) (match decide ((bI (dec (hid (enc (eo (dec c.2.1) (dec c.2.2.2.2.2))))) (dec (hid (enc (eo (dec c.2.1) (dec p))))))≤0)with|true=>(og (decide (okT 15000 (hid (enc (eo (dec c.2.1) (dec p))))∧okT 15000 (hid (enc (eo (dec c.2.1) (dec c.2.2.2.2.1)))))) (some [RV.d .bool (decide ((bI (dec (hid (enc (eo (dec c.2.1) (dec p))))) (dec (hid (enc (eo (dec c.2.1) (dec c.2.2.2.2.1))))))≤0))]))|false=>some [RV.d .bool false]))|false=>(og (decide (okT 15000 (hid (enc (eo (dec c.2.1) (dec c.2.2.2.2.1))))∧okT 15000 (hid (enc (eo (dec c.2.1) (dec p)))))) (match decide ((bI (dec (hid (enc (eo (dec c.2.1) (dec c.2.2.2.2.1))))) (dec (hid (enc (eo (dec c.2.1) (dec p))))))≤0)with|true=>(og (decide (okT 15000 (hid (enc (eo (dec c.2.1) (dec p))))∧okT 15000 (hid (enc (eo (dec c.2.1) (dec c.2.2.2.2.2)))))) (some [RV.d .bool (decide ((bI (dec (hid (enc (eo (dec c.2.1) (dec p))))) (dec (hid (enc (eo (dec c.2.1) (dec c.2.2.2.2.2))))))≤0))]))|false=>some [RV.d .bool false]))))))
def T2:Cn 94 [tCU,tP]:=cn fun(c:BCU) (p:BP)=>lf (okC 3000 c∧okP 3000 p∧c.1=false) [.d .bool (qM (dC c) (dec p))] fun h=>by
 refine az KY (SA c p) ⟨0,?_⟩
 obtain⟨hc,hp,h0⟩:=h
 obtain⟨p,rfl,bp,rp⟩:=bG hp
 obtain⟨ar,li,ci,cw,fr,to⟩:=c
 simp only at h0
 subst h0
 obtain⟨_,c2,c3,c4⟩:=hc
 obtain⟨c2,_⟩:=c2 rfl
 simp only at c2 c3 c4
 obtain⟨li,rfl,bl⟩:=aB c2
 obtain⟨fr,rfl,bf,rf⟩:=bG c3
 obtain⟨to,rfl,bt,rt⟩:=bG c4
 unfold SA qM
 simp only[dC,lnC,frC,toC,aO,Nat.reduceAdd,Nat.reduceMul,Nat.reduceLeDiff,aH,aI]
 cases decide (bI (eo li fr) (eo li to)>0)
 ·cases decide (bI (eo li fr) (eo li p)≤0)<;>rfl
 ·cases decide (bI (eo li to) (eo li p)≤0)<;>rfl
def Vb(c:BCU)(v:BV)(_k:KT):Option (List RV):=match !c.1 with|true=>some [RV.d .bool c.1]|false=>(og (decide (ok (Rat×Rat) 100000 v)) (match zeV (dec v)with|true=>some [RV.d .bool c.1]|false=>(og (decide (ok (Rat×Rat) 5000 v∧ok (Rat×Rat) 5000 v)) (og (decide (gA c.2.2.1.2.2 (hid (aq (bT (dec v) (dec v)))))) (og (decide (ok Rat 100000 c.2.2.1.1∧ok Rat 100000 v.1∧ok Rat 100000 (hDi c.2.2.1.2.2 (hid (aq (bT (dec v) (dec v)))))∧0≤ah (hDi c.2.2.1.2.2 (hid (aq (bT (dec v) (dec v))))))) (og (decide (ok Rat 100000 c.2.2.1.2.1∧ok Rat 100000 v.2∧ok Rat 100000 (hDi c.2.2.1.2.2 (hid (aq (bT (dec v) (dec v)))))∧0≤ah (hDi c.2.2.1.2.2 (hid (aq (bT (dec v) (dec v))))))) (og (decide (okT 15000 (hid (enc (mkR (ah c.2.2.1.1) (ah v.1) (ah (hDi c.2.2.1.2.2 (hid (aq (bT (dec v) (dec v)))))))))∧okT 15000 (hid (enc (mkR (ah c.2.2.1.2.1) (ah v.2) (ah (hDi c.2.2.1.2.2 (hid (aq (bT (dec v) (dec v)))))))))∧sR (dec (hid (enc (mkR (ah c.2.2.1.1) (ah v.1) (ah (hDi c.2.2.1.2.2 (hid (aq (bT (dec v) (dec v)))))))))) (dec (hid (enc (mkR (ah c.2.2.1.2.1) (ah v.2) (ah (hDi c.2.2.1.2.2 (hid (aq (bT (dec v) (dec v)))))))))))) (match 0==0 with|true=>(og (decide (okC 4000 c∧okP 4000 (hid (enc (mkP (dec (hid (enc (mkR (ah c.2.2.1.1) (ah v.1) (ah (hDi c.2.2.1.2.2 (hid (aq (bT (dec v) (dec v)))))))))) (dec (hid (enc (mkR (ah c.2.2.1.2.1) (ah v.2) (ah (hDi c.2.2.1.2.2 (hid (aq (bT (dec v) (dec v))))))))))))))) (some [RV.d .bool (onP (dC c) (dec (hid (enc (mkP (dec (hid (enc (mkR (ah c.2.2.1.1) (ah v.1) (ah (hDi c.2.2.1.2.2 (hid (aq (bT (dec v) (dec v)))))))))) (dec (hid (enc (mkR (ah c.2.2.1.2.1) (ah v.2) (ah (hDi c.2.2.1.2.2 (hid (aq (bT (dec v) (dec v)))))))))))))))]))|false=>some [RV.d .bool false]))))))))
def Rp:Cn 110 [tCU,tV]:=cn fun(c:BCU) (v:BV)=>lf (okC 500 c∧ok (Rat×Rat) 510 v) [.d .bool (fB (dC c) (dec v))] fun h=>by
 refine az KY (Vb c v) ⟨0,?_⟩
 obtain⟨hc,hv⟩:=h
 obtain⟨v,rfl,bv⟩:=aB hv
 have hc4:=cG (k:=4000) hc (by decide) (by decide)
 obtain⟨ar,li,ci,cw,fr,to⟩:=c
 cases ar
 ·rfl
 ·obtain⟨c1,_⟩:=hc.1 rfl
  have hq:=(hc.1 rfl).2
  simp only at c1 hq
  obtain⟨ci,rfl,bc⟩:=aB c1
  rw[aA]at hq
  have hC:Cir ci:=⟨hq⟩
  have o4:=afZ hc4
  have hn:0≤ci.2.2/bT v v:=(Yb (c:=ci) (d:=v)).le
  have om:decide (sR (mkR ci.1 v.1 (ci.2.2/bT v v)) (mkR ci.2.1 v.2 (ci.2.2/bT v v)))=true:=dT (nN _ _ _ _ _)
  have ry:decide (okP 4000 (enc (mkP (mkR ci.1 v.1 (ci.2.2/bT v v)) (mkR ci.2.1 v.2 (ci.2.2/bT v v)))))=true:=aI (x:=rW ci v) (by decide) (by decide)
  unfold Vb fB
  simp only[aO,Nat.reduceAdd,Nat.reduceLeDiff,aH,Bool.not_true]
  cases hz:zeV v
  ·have hd:=ud hz
   simp only[aO,Nat.reduceAdd,Nat.reduceLeDiff,hd,ne_eq,ahp,dT hn,om,o4,ry]
   show _=some [RV.d .bool (onP _ (rW (dec (enc ci)) v))]
   rw[aA]
   rfl
  ·rfl
def Kw:List En:=enT T2::enT Rp::KY
def Ys:NT:=[((228,13),{keep:=[4,19],hl:=0}),((228,29),{keep:=[4,39],hl:=0})]
def ab6:Ctx:=CX (ens Kw) Ys
def Jv(c:BCU)(v:BV)(_k:KT):Option (List RV):=let y1:=hid (enc (atP (dec v)));let y2:=hid (enc (sqP (dec c.2.2.2.2.1) (dec v)));let y3:=hid (enc (sqP (dec c.2.2.2.2.2) (dec v)));let y4:Option (List RV):=match decide (okP 3500 c.2.2.2.2.1∧ok (Rat×Rat) 300 v)with|true=>(og (decide (okP 3500 c.2.2.2.2.2∧ok (Rat×Rat) 300 v)) (og (decide (okT 15000 y2∧okT 15000 y3)) (some [RV.d tO (hid (enc (qZ (dec y2) (dec y3))))])))|false=>none;let y5:=hid (enc (eT (dec c.2.1) (dec v)));let y6:=hid (enc (cU (dec v) (dec y5)));let y7:=hid (aq (bT (dec y6) (dec y6)));let y8:=hid ((c.2.2.1.1,c.2.2.1.2.1));let y9:=hid (enc (cU (dec y8) (dec v)));let y10:=hid (aq (bT (dec y9) (dec y9)));let y11:=hAd y10 c.2.2.1.2.2;let y12:=hid (aq (((-2):Int):Rat));let y13:=hMu y10 c.2.2.1.2.2;match !c.1 with|true=>(og (decide (ok (Rat×Rat) 100000 v)) (og (decide (okC 3000 c∧okP 3000 y1∧c.1=false)) (match !(qM (dC c) (dec y1))with|true=>y4|false=>(og (decide (ok Ln 300 c.2.1∧ok (Rat×Rat) 200 v∧((dec c.2.1:Ln).1≠0∨(dec c.2.1:Ln).2.1≠0))) (og (decide (ok (Rat×Rat) 10000 v∧ok (Rat×Rat) 10000 y5)) (og (decide (ok (Rat×Rat) 5000 y6∧ok (Rat×Rat) 5000 y6)) (og (o1 y7) (some [RV.d tO (hid (enc ((ah y7,0,0):Rt)))]))))))))|false=>(og (decide (ok (Rat×Rat) 10000 y8∧ok (Rat×Rat) 10000 v)) (og (decide (okC 500 c∧ok (Rat×Rat) 510 y9)) (match !(fB (dC c) (dec y9))with|true=>y4|false=>(og (decide (ok (Rat×Rat) 5000 y9∧ok (Rat×Rat) 5000 y9)) (og (o2 y10 c.2.2.1.2.2) (og (decide (aF ((-2):Int))) (og (o2 y10 c.2.2.1.2.2) (og (decide (ok Rat 100000 y11∧ok Rat 100000 y12∧ok Rat 100000 y13∧0≤ah y13)) (some [RV.d tO (hid (enc (mkR (ah y11) (ah y12) (ah y13))))])))))))))
theorem aaE(c:BCU)(v:BV):RS ab6 228 [.d tCU c,.d tV v] (Jv c v):=rsX
def ZF:Cn 228 [tCU,tV]:=cn fun(c:BCU) (v:BV)=>lf (okC 500 c∧ok (Rat×Rat) 200 v) [.d tO (enc (ro (dC c) (dec v)))] fun h=>by
 refine cJ Kw (aaE _ _ ⟨0,?_⟩)
 obtain⟨hc,hv⟩:=h
 obtain⟨v,rfl,bv⟩:=aB hv
 have hc4:=cG (k:=3000) hc (by decide) (by decide)
 obtain⟨ar,li,ci,cw,fr,to⟩:=c
 have h3:=hc.2.2.1
 have h4:=hc.2.2.2
 simp only at h3 h4
 obtain⟨fr,rfl,bf,rf⟩:=bG h3
 obtain⟨to,rfl,bt,rt⟩:=bG h4
 have o4:=afZ hc4
 have o5:=afZ hc
 cases ar
 ·obtain⟨c2,c3⟩:=hc.2.1 rfl
  simp only at c2 c3
  obtain⟨li,rfl,bl⟩:=aB c2
  rw[aA]at c3
  unfold Jv ro zA
  simp only[aO,aD,Nat.reduceAdd,Nat.reduceMul,Nat.reduceLeDiff,aH,aI,o4,c3,Bool.not_false]
  simp only[dC,lnC,frC,toC,aA,cond_false]
  cases qM (false,li,dec ci,cw,fr,to) (atP v)<;>rfl
 ·obtain⟨c1,hq⟩:=hc.1 rfl
  simp only at c1 hq
  obtain⟨ci,rfl,bc⟩:=aB c1
  rw[aA]at hq
  have hC:Cir ci:=⟨hq⟩
  have hn:0≤bT (cU (ctr ci) v) (cU (ctr ci) v)*ci.2.2:=(QM (c:=ci) (d:=cU (ctr ci) v)).le
  have e0:((aq ci.1,aq ci.2.1):BV)=enc (ctr ci):=rfl
  have h2:decide (aF (-2))=true:=by decide
  have b2:Bd ((-2:Int):Rat) 3:=cO (by decide)
  unfold Jv ro zA
  simp only[aO,Nat.reduceAdd,Nat.reduceMul,Nat.reduceLeDiff,aH,aI,o5,e0,Bool.not_true]
  simp only[dC,lnC,frC,toC,ciC,bO,aA,agd]
  cases fB (true,dec li,ci,cw,fr,to) (cU (ctr ci) v)
  ·rfl
  ·simp only[aO,dT hn,h2]
   rw[show((-2:Int):Rat)= -2 from rfl]
   rfl
def aca:List En:=enL ZF::Kw
def SH(c:BCU)(v:BV)(r:BR)(_k:KT):Option (List RV):=og (o1 r) (match decide ((aC (ah r) 0)<0)with|true=>some [RV.d ai2 1]|false=>(og (decide (okC 500 c∧ok (Rat×Rat) 200 v)) (og (o2 r r) (og (decide (okT 15000 (hid (enc (ro (dC c) (dec v))))∧ok Rat 15000 (hMu r r))) (some [RV.d ai2 (fv (dec (hid (enc (ro (dC c) (dec v))))) (ah (hMu r r)))])))))
def Zh:Cn 116 [tCU,tV,tR]:=cn fun(c:BCU) (v:BV) (r:BR)=>lf (okC 500 c∧ok (Rat×Rat) 200 v∧ok Rat 1000 r) [.d ai2 (u7 (dC c) (dec v) (ah r))] fun h=>by
 refine az aca (SH c v r) ⟨0,?_⟩
 obtain⟨hc,hv,hr⟩:=h
 obtain⟨v,rfl,bv⟩:=aB hv
 obtain⟨r,rfl,br⟩:=aB hr
 rw[d7,cj,aA]
 have od:=FJ hc (v:=v)
 obtain⟨od1,od2⟩:=od
 unfold SH u7
 simp only[aO,Nat.reduceAdd,Nat.reduceLeDiff,aH,au,afZ hc]
 cases decide (r<0)<;>rfl
abbrev r00:BR:=((false,[]),(false,[]))
abbrev o00:BO3:=(r00,r00,r00)
abbrev p00:BP:=(r00,r00,r00,r00,r00)
abbrev c00:BCU:=(false,o00,o00,false,p00,p00)
def oL(a b:Rat×Rat):Ln:=(a.2-b.2,b.1-a.1,(a.2-b.2)*a.1+(b.1-a.1)*a.2)
def gU(a b:Rat×Rat):Bool:=decide (a.2-b.2=0)&&decide (b.1-a.1=0)
def AE(a b:Rat×Rat):BO3:=bif gU a b then o00 else enc (oL a b)
def A7(a b:Rat×Rat):Int:=bif gU a b then 6 else 0
def fa(a b c:Rat×Rat):Rat:=(b.1-a.1)*(c.2-a.2)-(b.2-a.2)*(c.1-a.1)
def Cd(a b c:Rat×Rat):Rat:=(((b.1-a.1)*(b.1-a.1)+(b.2-a.2)*(b.2-a.2))*(c.2-a.2)-((c.1-a.1)*(c.1-a.1)+(c.2-a.2)*(c.2-a.2))*(b.2-a.2))/(fa a b c+fa a b c)
def Ct(a b c:Rat×Rat):Rat:=(((c.1-a.1)*(c.1-a.1)+(c.2-a.2)*(c.2-a.2))*(b.1-a.1)-((b.1-a.1)*(b.1-a.1)+(b.2-a.2)*(b.2-a.2))*(c.1-a.1))/(fa a b c+fa a b c)
def oJ(a b c:Rat×Rat):Ln:=(a.1+Cd a b c,a.2+Ct a b c,Cd a b c*Cd a b c+Ct a b c*Ct a b c)
def OX(a b c:Rat×Rat):BO3:=bif decide (fa a b c=0)then o00 else enc (oJ a b c)
def OS(a b c:Rat×Rat):Int:=bif decide (fa a b c=0)then 6 else 0
def uU(a b c:Rat×Rat):Int:=aC ((b.1-a.1)*(c.2-a.2)) ((b.2-a.2)*(c.1-a.1))
def eL(a b:Rat×Rat):BCU:=bif gU a b then c00 else(false,enc (oL a b),o00,false,enc (atP a),enc (atP b))
def yA(a b:Rat×Rat):Int:=bif gU a b then 6 else 0
def ml(a b c:Rat×Rat):BCU:=bif decide (fa a b c=0)then c00 else(true,o00,enc (oJ a b c),decide (uU a b c<0),enc (atP a),enc (atP c))
def Lt(a b c:Rat×Rat):Int:=bif decide (fa a b c=0)then 6 else 0
theorem XY(a b c:Rat×Rat):(uU a b c==0)=decide (fa a b c=0):=by
 unfold uU fa
 rw[am]
 exact ahe.2 (by constructor<;>intro h<;>grind)
instance aeD {a b:Rat×Rat} {i j:Nat} [h:Bd a i] [h':Bd b j]:Bd (oL a b) (4*i+2*j+3):=by
 have i1:Bd ((a.2-b.2,b.1-a.1,(a.2-b.2)*a.1+(b.1-a.1)*a.2):Ln) _:=inferInstance
 exact i1.mono (eI (by omega) (eI (by omega) (by omega)))
def F5:List En:=[enT lS,enT pg,enL rC,enL pi,enL Cy,enL JC,enL HK,enL Dt,enL I9]
def I7(a b:BV)(_k:KT):Option (List RV):=og (o2 a.2 b.2) (og (o2 b.1 a.1) (og (o1 (hSu a.2 b.2)) (match(aC (ah (hSu a.2 b.2)) 0)==0 with|true=>(og (o1 (hSu b.1 a.1)) (match(aC (ah (hSu b.1 a.1)) 0)==0 with|true=>some [RV.d tO (((false,[]),(false,[])),(((false,[]),(false,[])),((false,[]),(false,[])))),RV.d ai2 6]|false=>(og (o2 (hSu a.2 b.2) a.1) (og (o2 (hSu b.1 a.1) a.2) (og (o2 (hMu (hSu a.2 b.2) a.1) (hMu (hSu b.1 a.1) a.2)) (some [RV.d tO (hSu a.2 b.2,(hSu b.1 a.1,hAd (hMu (hSu a.2 b.2) a.1) (hMu (hSu b.1 a.1) a.2))),RV.d ai2 0]))))))|false=>(og (o2 (hSu a.2 b.2) a.1) (og (o2 (hSu b.1 a.1) a.2) (og (o2 (hMu (hSu a.2 b.2) a.1) (hMu (hSu b.1 a.1) a.2)) (some [RV.d tO (hSu a.2 b.2,(hSu b.1 a.1,hAd (hMu (hSu a.2 b.2) a.1) (hMu (hSu b.1 a.1) a.2))),RV.d ai2 0])))))))
def XQ:Cn 142 [tV,tV]:=cn fun(a b:BV)=>lf (ok (Rat×Rat) 100 a∧ok (Rat×Rat) 100 b) [.d tO (AE (dec a) (dec b)),.d ai2 (A7 (dec a) (dec b))] fun h=>by
 refine az F5 (I7 a b) ⟨0,?_⟩
 obtain⟨ha,hb⟩:=h
 obtain⟨a,rfl,ba⟩:=aB ha
 obtain⟨b,rfl,bb⟩:=aB hb
 unfold I7 AE A7 gU
 simp only[aO,Nat.reduceAdd,Nat.reduceLeDiff,am]
 cases decide (a.2-b.2=0)<;>cases decide (b.1-a.1=0)<;>rfl
def Sb(a b c:BV)(_k:KT):Option (List RV):=og (o2 b.1 a.1) (og (o2 c.2 a.2) (og (o2 (hSu b.1 a.1) (hSu c.2 a.2)) (og (o2 b.2 a.2) (og (o2 c.1 a.1) (og (o2 (hSu b.2 a.2) (hSu c.1 a.1)) (og (o2 (hMu (hSu b.1 a.1) (hSu c.2 a.2)) (hMu (hSu b.2 a.2) (hSu c.1 a.1))) (some [RV.d ai2 (aC (ah (hMu (hSu b.1 a.1) (hSu c.2 a.2))) (ah (hMu (hSu b.2 a.2) (hSu c.1 a.1))))])))))))
def Za:Cn 143 [tV,tV,tV]:=cn fun(a b c:BV)=>lf (ok (Rat×Rat) 100 a∧ok (Rat×Rat) 100 b∧ok (Rat×Rat) 100 c) [.d ai2 (uU (dec a) (dec b) (dec c))] fun h=>by
 refine az F5 (Sb a b c) ⟨0,?_⟩
 obtain⟨ha,hb,hc⟩:=h
 obtain⟨a,rfl,ba⟩:=aB ha
 obtain⟨b,rfl,bb⟩:=aB hb
 obtain⟨c,rfl,bc⟩:=aB hc
 unfold Sb
 simp only[aO,Nat.reduceAdd,Nat.reduceLeDiff]
 rfl
def NY(a b c:BV)(_k:KT):Option (List RV):=let y1:=hMu (hSu b.1 a.1) (hSu c.2 a.2);let y2:=hMu (hSu b.2 a.2) (hSu c.1 a.1);let y3:=hMu (hSu b.1 a.1) (hSu b.1 a.1);let y4:=hMu (hSu b.2 a.2) (hSu b.2 a.2);let y5:=hMu (hSu c.1 a.1) (hSu c.1 a.1);let y6:=hMu (hSu c.2 a.2) (hSu c.2 a.2);let y7:=hMu (hAd y3 y4) (hSu c.2 a.2);let y8:=hMu (hAd y5 y6) (hSu b.2 a.2);let y9:=hAd (hSu y1 y2) (hSu y1 y2);let y10:=hMu (hAd y5 y6) (hSu b.1 a.1);let y11:=hMu (hAd y3 y4) (hSu c.1 a.1);let y12:=hDi (hSu y7 y8) y9;let y13:=hDi (hSu y10 y11) y9;og (o2 b.1 a.1) (og (o2 b.2 a.2) (og (o2 c.1 a.1) (og (o2 c.2 a.2) (og (o2 (hSu b.1 a.1) (hSu c.2 a.2)) (og (o2 (hSu b.2 a.2) (hSu c.1 a.1)) (og (o2 y1 y2) (og (o1 (hSu y1 y2)) (match(aC (ah (hSu y1 y2)) 0)==0 with|true=>some [RV.d tO (((false,[]),(false,[])),(((false,[]),(false,[])),((false,[]),(false,[])))),RV.d ai2 6]|false=>(og (o2 (hSu y1 y2) (hSu y1 y2)) (og (o2 (hSu b.1 a.1) (hSu b.1 a.1)) (og (o2 (hSu b.2 a.2) (hSu b.2 a.2)) (og (o2 y3 y4) (og (o2 (hSu c.1 a.1) (hSu c.1 a.1)) (og (o2 (hSu c.2 a.2) (hSu c.2 a.2)) (og (o2 y5 y6) (og (o2 (hAd y3 y4) (hSu c.2 a.2)) (og (o2 (hAd y5 y6) (hSu b.2 a.2)) (og (o2 y7 y8) (og (decide (gA (hSu y7 y8) y9)) (og (o2 (hAd y5 y6) (hSu b.1 a.1)) (og (o2 (hAd y3 y4) (hSu c.1 a.1)) (og (o2 y10 y11) (og (decide (gA (hSu y10 y11) y9)) (og (o2 a.1 y12) (og (o2 a.2 y13) (og (o2 y12 y12) (og (o2 y13 y13) (og (o2 (hMu y12 y12) (hMu y13 y13)) (some [RV.d tO (hAd a.1 y12,(hAd a.2 y13,hAd (hMu y12 y12) (hMu y13 y13))),RV.d ai2 0])))))))))))))))))))))))))))))
def Wx:Cn 144 [tV,tV,tV]:=cn fun(a b c:BV)=>lf (ok (Rat×Rat) 100 a∧ok (Rat×Rat) 100 b∧ok (Rat×Rat) 100 c) [.d tO (OX (dec a) (dec b) (dec c)),.d ai2 (OS (dec a) (dec b) (dec c))] fun h=>by
 refine az F5 (NY a b c) ⟨0,?_⟩
 obtain⟨ha,hb,hc⟩:=h
 obtain⟨a,rfl,ba⟩:=aB ha
 obtain⟨b,rfl,bb⟩:=aB hb
 obtain⟨c,rfl,bc⟩:=aB hc
 have e0:(b.1-a.1)*(c.2-a.2)-(b.2-a.2)*(c.1-a.1)=fa a b c:=rfl
 have bD:Bd (fa a b c) 805:=inferInstanceAs (Bd ((b.1-a.1)*(c.2-a.2)-(b.2-a.2)*(c.1-a.1)) _)
 have eX:(((b.1-a.1)*(b.1-a.1)+(b.2-a.2)*(b.2-a.2))*(c.2-a.2)-((c.1-a.1)*(c.1-a.1)+(c.2-a.2)*(c.2-a.2))*(b.2-a.2))/(fa a b c+fa a b c)=Cd a b c:=rfl
 have eY:(((c.1-a.1)*(c.1-a.1)+(c.2-a.2)*(c.2-a.2))*(b.1-a.1)-((b.1-a.1)*(b.1-a.1)+(b.2-a.2)*(b.2-a.2))*(c.1-a.1))/(fa a b c+fa a b c)=Ct a b c:=rfl
 have m1:Bd ((b.1-a.1)*(b.1-a.1)+(b.2-a.2)*(b.2-a.2)) _:=inferInstance
 have m2:Bd ((c.1-a.1)*(c.1-a.1)+(c.2-a.2)*(c.2-a.2)) _:=inferInstance
 have n1:Bd (((b.1-a.1)*(b.1-a.1)+(b.2-a.2)*(b.2-a.2))*(c.2-a.2)-((c.1-a.1)*(c.1-a.1)+(c.2-a.2)*(c.2-a.2))*(b.2-a.2)) _:=inferInstance
 have n2:Bd (((c.1-a.1)*(c.1-a.1)+(c.2-a.2)*(c.2-a.2))*(b.1-a.1)-((b.1-a.1)*(b.1-a.1)+(b.2-a.2)*(b.2-a.2))*(c.1-a.1)) _:=inferInstance
 have bX0:Bd ((((b.1-a.1)*(b.1-a.1)+(b.2-a.2)*(b.2-a.2))*(c.2-a.2)-((c.1-a.1)*(c.1-a.1)+(c.2-a.2)*(c.2-a.2))*(b.2-a.2))/(fa a b c+fa a b c)) _:=inferInstance
 have bX:Bd (Cd a b c) 4000:=by rw[←eX];exact bX0.mono (by decide)
 have bY0:Bd ((((c.1-a.1)*(c.1-a.1)+(c.2-a.2)*(c.2-a.2))*(b.1-a.1)-((b.1-a.1)*(b.1-a.1)+(b.2-a.2)*(b.2-a.2))*(c.1-a.1))/(fa a b c+fa a b c)) _:=inferInstance
 have bY:Bd (Ct a b c) 4000:=by rw[←eY];exact bY0.mono (by decide)
 unfold NY OX OS
 simp only[aO,Nat.reduceAdd,Nat.reduceLeDiff,am,e0]
 by_cases hd:fa a b c=0
 ·rw[afZ hd]
  rfl
 ·have h2:fa a b c+fa a b c≠0:=by grind
  rw[af1 hd]
  simp only[aO,Nat.reduceAdd,Nat.reduceLeDiff,h2,ne_eq,ahp,eX,eY]
  rfl
def SC:List En:=enL XQ::enT Za::enL Wx::F5
def Nr(a b:BV)(_k:KT):Option (List RV):=og (decide (ok (Rat×Rat) 100 a∧ok (Rat×Rat) 100 b)) (match(A7 (dec a) (dec b)) !=0 with|true=>some [RV.d tCU (false,((((false,[]),(false,[])),(((false,[]),(false,[])),((false,[]),(false,[])))),((((false,[]),(false,[])),(((false,[]),(false,[])),((false,[]),(false,[])))),(false,((((false,[]),(false,[])),(((false,[]),(false,[])),(((false,[]),(false,[])),(((false,[]),(false,[])),((false,[]),(false,[])))))),(((false,[]),(false,[])),(((false,[]),(false,[])),(((false,[]),(false,[])),(((false,[]),(false,[])),((false,[]),(false,[]))))))))))),RV.d ai2 6]|false=>(og (decide (ok (Rat×Rat) 100000 a)) (og (decide (ok (Rat×Rat) 100000 b)) (some [RV.d tCU (false,(hid (AE (dec a) (dec b)),((((false,[]),(false,[])),(((false,[]),(false,[])),((false,[]),(false,[])))),(false,(hid (enc (atP (dec a))),hid (enc (atP (dec b)))))))),RV.d ai2 0]))))
def JK:Cn 54 [tV,tV]:=cn fun(a b:BV)=>lf (ok (Rat×Rat) 100 a∧ok (Rat×Rat) 100 b) [.d tCU (eL (dec a) (dec b)),.d ai2 (yA (dec a) (dec b))] fun h=>by
 refine az SC (Nr a b) ⟨0,?_⟩
 obtain⟨ha,hb⟩:=h
 obtain⟨a,rfl,ba⟩:=aB ha
 obtain⟨b,rfl,bb⟩:=aB hb
 unfold Nr eL yA A7 AE
 simp only[aO,Nat.reduceLeDiff]
 cases gU a b<;>rfl
def Is(a b c:BV)(_k:KT):Option (List RV):=og (decide (ok (Rat×Rat) 100 a∧ok (Rat×Rat) 100 b∧ok (Rat×Rat) 100 c)) (og (decide (ok (Rat×Rat) 100 a∧ok (Rat×Rat) 100 b∧ok (Rat×Rat) 100 c)) (match(uU (dec a) (dec b) (dec c))==0 with|true=>some [RV.d tCU (false,((((false,[]),(false,[])),(((false,[]),(false,[])),((false,[]),(false,[])))),((((false,[]),(false,[])),(((false,[]),(false,[])),((false,[]),(false,[])))),(false,((((false,[]),(false,[])),(((false,[]),(false,[])),(((false,[]),(false,[])),(((false,[]),(false,[])),((false,[]),(false,[])))))),(((false,[]),(false,[])),(((false,[]),(false,[])),(((false,[]),(false,[])),(((false,[]),(false,[])),((false,[]),(false,[]))))))))))),RV.d ai2 6]|false=>(match(OS (dec a) (dec b) (dec c)) !=0 with|true=>some [RV.d tCU (false,((((false,[]),(false,[])),(((false,[]),(false,[])),((false,[]),(false,[])))),((((false,[]),(false,[])),(((false,[]),(false,[])),((false,[]),(false,[])))),(false,((((false,[]),(false,[])),(((false,[]),(false,[])),(((false,[]),(false,[])),(((false,[]),(false,[])),((false,[]),(false,[])))))),(((false,[]),(false,[])),(((false,[]),(false,[])),(((false,[]),(false,[])),(((false,[]),(false,[])),((false,[]),(false,[]))))))))))),RV.d ai2 6]|false=>(og (decide (ok (Rat×Rat) 100000 a)) (og (decide (ok (Rat×Rat) 100000 c)) (some [RV.d tCU (true,((((false,[]),(false,[])),(((false,[]),(false,[])),((false,[]),(false,[])))),(hid (OX (dec a) (dec b) (dec c)),(decide ((uU (dec a) (dec b) (dec c))<0),(hid (enc (atP (dec a))),hid (enc (atP (dec c)))))))),RV.d ai2 0]))))))
def Lg:Cn 55 [tV,tV,tV]:=cn fun(a b c:BV)=>lf (ok (Rat×Rat) 100 a∧ok (Rat×Rat) 100 b∧ok (Rat×Rat) 100 c) [.d tCU (ml (dec a) (dec b) (dec c)),.d ai2 (Lt (dec a) (dec b) (dec c))] fun h=>by
 refine az SC (Is a b c) ⟨0,?_⟩
 obtain⟨ha,hb,hc⟩:=h
 obtain⟨a,rfl,ba⟩:=aB ha
 obtain⟨b,rfl,bb⟩:=aB hb
 obtain⟨c,rfl,bc⟩:=aB hc
 unfold Is ml Lt
 simp only[aO,Nat.reduceLeDiff]
 rw[XY]
 unfold OS OX
 cases decide (fa a b c=0)<;>rfl
end Go.Proofs.YtnkndpoojnflmaaGreat
end
