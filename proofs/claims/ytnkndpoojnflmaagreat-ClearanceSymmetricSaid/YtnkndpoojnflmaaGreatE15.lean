/- Common points of lines and circles: the reference's contracts. -/
import Derived.Test.YtnkndpoojnflmaaGreatE14
import Derived.Test.YtnkndpoojnflmaaGreatE13
noncomputable section
namespace Go.Proofs.YtnkndpoojnflmaaGreat
open Go.RowKit Go.IntKind
theorem amb:type_of% @decide_eq_true_iff:=@decide_eq_true_iff
theorem amX:type_of% @List.filter_cons:=@List.filter_cons
theorem anQ:type_of% @List.filter_nil:=@List.filter_nil
section
theorem JD(a b:Rat):((am a,am b):BV)=enc ((a,b):Rat×Rat):=nr rfl
theorem NY{q:Rat}(h:¬q<0)(h':¬q=0):0<q:=by grind
theorem rdl{l:Ln}(h:ck l≠0)(hl:l.1≠0∨l.2.1≠0):¬(l.2.1/ck l=0∧ -l.1/ck l=0):=by
 intro ⟨h1,h2⟩
 have m:∀a:Rat,a/ck l=0→a=0:=fun a e=>by
  have:a/ck l*ck l=a:=als h
  rw[e,Rat.zero_mul]at this
  exact this.symm
 have:=m _ h1
 have:=m _ h2
 rcases hl with h|h<;>grind
section
variable {l c:Ln}
theorem KL(hl:l.1≠0∨l.2.1≠0)(h0:0≤ju l c):Rpd (r7 l c)∧Rpd (ti l c):=by
 have hn:=m9 hl
 refine⟨Ay (fun h=>rdl hn hl ⟨by grind,by grind⟩) h0,Ay (rdl hn hl) h0⟩
theorem PD [BdL l][BdC c]:Bd (r7 l c) 490∧Bd (ti l c) 490:=by
 obtain⟨h1,h2,h3,h4⟩:=uG (l:=l) (c:=c)
 have h5:Bd (ju l c) 257:=inferInstance
 have n1:Bd (-(l.2.1/ck l)) 61:=inferInstance
 have i1:Bd (ck l) 49:=inferInstanceAs (Bd (l.1*l.1+l.2.1*l.2.1) _)
 have n2:Bd (-l.1/ck l) 61:=(inferInstance:Bd (-l.1/ck l) _)
 have n3:Bd (-(-l.1/ck l)) 61:=inferInstance
 exact⟨Bx h1 n1 h2 n3 h5 (by decide),Bx h1 h3 h2 n2 h5 (by decide)⟩
end
theorem wA{c d:Ln}[BdC c][BdC d]:BdL (mr c d):=by
 have b2:Bd (2:Rat) 3:=cZ (n:=2) (by decide)
 have f1:Bd (qC c) 31:=(inferInstance:Bd (c.1*c.1+c.2.1*c.2.1-c.2.2) _).mono (by decide)
 have f2:Bd (qC d) 31:=(inferInstance:Bd (d.1*d.1+d.2.1*d.2.1-d.2.2) _).mono (by decide)
 have g1:Bd (2*(d.1-c.1)) _:=inferInstance
 have g2:Bd (2*(d.2.1-c.2.1)) _:=inferInstance
 have g3:Bd (qC d-qC c) _:=inferInstance
 exact⟨g1.mono (by decide),g2.mono (by decide),g3.mono (by decide)⟩
theorem yq{c d:Ln}(h:ij c d=false):(mr c d).1≠0∨(mr c d).2.1≠0:=by
 unfold ij at h
 unfold mr
 dsimp only
 by_cases h1:c.1=d.1
 ·rw[ak3 h1,amo]at h
  have:=alW h
  right;grind
 ·left;grind
theorem Pw{c d:Ln}[BdC c][BdC d](h:ij c d=false):cN (enc (mr c d)):=mg (h:=wA) (yq h)
def vj:List En:=[enT pg,enL oG,enL re,enL ux,enL rK,enT uk,enL uz,enL FL,enL Od,enL E5,enT xD,enL FQ]
def ahX:Cn 273 [tR,tR]:=cn fun(a b:BR)=>lf (okR a∧okR b) [.d tR (am (ah a+ah b))] fun h=>jJ [RV.d tR (hAd a b)] (du vj) h
def ahF:Cn 255 [tR,tR]:=cn fun(a b:BR)=>lf (okR a∧okR b) [.d tR (am (ah a-ah b))] fun h=>jJ [RV.d tR (hSu a b)] (du vj) h
def ahi:Cn 256 [tR,tR]:=cn fun(a b:BR)=>lf (okR a∧okR b) [.d tR (am (ah a*ah b))] fun h=>jJ [RV.d tR (hMu a b)] (du vj) h
def ah9:Cn 181 [tR]:=cn fun(a:BR)=>lf (okR a) [.d tR (am (-ah a))] fun h=>jJ [RV.d tR (hNe a)] (du vj) h
def ahI:Cn 253 [tR,tR]:=cn fun(a b:BR)=>lf (iv a b) [.d tR (am (ah a/ah b))] fun h=>jJ [RV.d tR (hDi a b)] (du vj) h
def Om(l m:BO3)(_k:KT):Option (List RV):=og (o2 l.1 m.2.1) (og (o2 l.2.1 m.1) (og (o2 (hMu l.1 m.2.1) (hMu l.2.1 m.1)) (match(aC (ah (hMu l.1 m.2.1)) (ah (hMu l.2.1 m.1)))==0 with|true=>(og (o2 l.1 m.2.2) (og (o2 l.2.2 m.1) (og (o2 (hMu l.1 m.2.2) (hMu l.2.2 m.1)) (match(aC (ah (hMu l.1 m.2.2)) (ah (hMu l.2.2 m.1)))==0 with|true=>(og (o2 l.2.1 m.2.2) (og (o2 l.2.2 m.2.1) (og (o2 (hMu l.2.1 m.2.2) (hMu l.2.2 m.2.1)) (some [RV.d .bool ((aC (ah (hMu l.2.1 m.2.2)) (ah (hMu l.2.2 m.2.1)))==0)]))))|false=>some [RV.d .bool false]))))|false=>some [RV.d .bool false])))
def Z6:Cn 146 [tO,tO]:=cn fun(l m:BO3)=>lf (cN l∧cN m) [.d .bool (oR (dec l) (dec m))] fun h=>by
 refine aA vj (Om l m) ⟨0,?_⟩
 obtain⟨hl,hm⟩:=h
 obtain⟨l,rfl,bl,nl⟩:=eI hl
 obtain⟨m,rfl,bm,nm⟩:=eI hm
 unfold Om oR
 simp only[aU,Nat.reduceAdd,Nat.reduceLeDiff,aq]
 cases decide (l.1*m.2.1=l.2.1*m.1)<;>cases decide (l.1*m.2.2=l.2.2*m.1)<;>rfl
def LF(c d:BO3)(_k:KT):Option (List RV):=og (o2 c.1 d.1) (match(aC (ah c.1) (ah d.1))==0 with|true=>(og (o2 c.2.1 d.2.1) (match(aC (ah c.2.1) (ah d.2.1))==0 with|true=>(og (o2 c.2.2 d.2.2) (some [RV.d .bool ((aC (ah c.2.2) (ah d.2.2))==0)]))|false=>some [RV.d .bool false]))|false=>some [RV.d .bool false])
def ac1:Cn 145 [tO,tO]:=cn fun(c d:BO3)=>lf (cg c∧cg d) [.d .bool (rP (dec c) (dec d))] fun h=>by
 refine aA vj (LF c d) ⟨0,?_⟩
 obtain⟨hc,hd⟩:=h
 obtain⟨c,rfl,bc,nc⟩:=cQ hc
 obtain⟨d,rfl,bd,nd⟩:=cQ hd
 unfold LF rP
 simp only[aU,Nat.reduceLeDiff,aq]
 cases decide (c.1=d.1)<;>cases decide (c.2.1=d.2.1)<;>rfl
def z6:List En:=enL ahX::enL ahF::enL ahi::enL ah9::enL ahI::vj
def WI(l m:BO3)(_k:KT):Option (List RV):=og (o2 l.1 m.2.1) (og (o2 m.1 l.2.1) (og (o2 (hMu l.1 m.2.1) (hMu m.1 l.2.1)) (some [RV.d tR (hSu (hMu l.1 m.2.1) (hMu m.1 l.2.1))])))
def agY:Cn 257 [tO,tO]:=cn fun(l m:BO3)=>lf (cN l∧cN m) [.d tR (am (ef (dec l) (dec m)))] fun h=>by
 refine aA z6 (WI l m) ⟨0,?_⟩
 obtain⟨hl,hm⟩:=h
 obtain⟨l,rfl,bl,nl⟩:=eI hl
 obtain⟨m,rfl,bm,nm⟩:=eI hm
 unfold WI ef
 simp only[aU,Nat.reduceAdd,Nat.reduceLeDiff]
def Wo(l:BO3)(_k:KT):Option (List RV):=og (o2 l.1 l.1) (og (o2 l.2.1 l.2.1) (og (o2 (hMu l.1 l.1) (hMu l.2.1 l.2.1)) (some [RV.d tR (hAd (hMu l.1 l.1) (hMu l.2.1 l.2.1))])))
def aeh:Cn 252 [tO]:=cn fun(l:BO3)=>lf (cN l) [.d tR (am (ck (dec l)))] fun h=>by
 refine aA z6 (Wo l) ⟨0,?_⟩
 have hl:=h
 obtain⟨l,rfl,bl,nl⟩:=eI hl
 unfold Wo ck
 simp only[aU,Nat.reduceAdd,Nat.reduceLeDiff]
def ZK(l:BO3)(x y:BR)(_k:KT):Option (List RV):=og (o2 l.1 x) (og (o2 l.2.1 y) (og (o2 (hMu l.1 x) (hMu l.2.1 y)) (og (o2 (hAd (hMu l.1 x) (hMu l.2.1 y)) l.2.2) (some [RV.d tR (hSu (hAd (hMu l.1 x) (hMu l.2.1 y)) l.2.2)]))))
def ahr:Cn 254 [tO,tR,tR]:=cn fun(l:BO3) (x y:BR)=>lf (cN l∧ok Rat 4 x∧ok Rat 4 y) [.d tR (am (vlL (dec l) (ah x) (ah y)))] fun h=>by
 refine aA z6 (ZK l x y) ⟨0,?_⟩
 obtain⟨hl,hx,hy⟩:=h
 obtain⟨l,rfl,bl,nl⟩:=eI hl
 obtain⟨x,rfl,bx⟩:=aF hx
 obtain⟨y,rfl,b_y⟩:=aF hy
 unfold ZK vlL
 simp only[aU,Nat.reduceAdd,Nat.reduceLeDiff]
def Zz(c d:BO3)(_k:KT):Option (List RV):=og (o2 c.1 d.1) (match(aC (ah c.1) (ah d.1))==0 with|true=>(og (o2 c.2.1 d.2.1) (some [RV.d .bool ((aC (ah c.2.1) (ah d.2.1))==0)]))|false=>some [RV.d .bool false])
def afd:Cn 249 [tO,tO]:=cn fun(c d:BO3)=>lf (cg c∧cg d) [.d .bool (ij (dec c) (dec d))] fun h=>by
 refine aA z6 (Zz c d) ⟨0,?_⟩
 obtain⟨hc,hd⟩:=h
 obtain⟨c,rfl,bc,nc⟩:=cQ hc
 obtain⟨d,rfl,bd,nd⟩:=cQ hd
 unfold Zz ij
 simp only[aU,Nat.reduceLeDiff,aq]
 cases decide (c.1=d.1)<;>rfl
def WS(a b c d e:BR)(_k:KT):Option (List RV):=og (o1 e) (match fN (ah e)with|true=>(og (o2 b (hid (rtB (ah e)))) (og (o2 a (hMu b (hid (rtB (ah e))))) (og (o2 d (hid (rtB (ah e)))) (og (o2 c (hMu d (hid (rtB (ah e))))) (og (decide (ok (Rat×Rat) 100000 (hAd a (hMu b (hid (rtB (ah e)))),hAd c (hMu d (hid (rtB (ah e))))))) (some [RV.d tP (hid (enc (atP (dec (hAd a (hMu b (hid (rtB (ah e)))),hAd c (hMu d (hid (rtB (ah e)))))))))]))))))|false=>some [RV.d tP (a,(b,(c,(d,e))))])
def aea:Cn 180 [tR,tR,tR,tR,tR]:=cn fun(a b c d e:BR)=>lf (ok Rat 1000 a∧ok Rat 1000 b∧ok Rat 1000 c∧ok Rat 1000 d∧ok Rat 1000 e) [.d tP (enc (ob (ah a) (ah b) (ah c) (ah d) (ah e)))] fun h=>by
 refine aA z6 (WS a b c d e) ⟨0,?_⟩
 obtain⟨ha,hb,hc,hd,he⟩:=h
 obtain⟨a,rfl,ba⟩:=aF ha
 obtain⟨b,rfl,bb⟩:=aF hb
 obtain⟨c,rfl,bc⟩:=aF hc
 obtain⟨d,rfl,bd⟩:=aF hd
 obtain⟨e,rfl,be⟩:=aF he
 unfold WS ob
 simp only[aU,Nat.reduceLeDiff]
 cases hq:fN e
 ·rfl
 ·rw[LJ hq]
  simp only[aU,Nat.reduceAdd,Nat.reduceLeDiff,JD]
  try rfl
def Ci:List En:=enL agY::enL aeh::enL ahr::enT afd::enL aea::z6
def XV(l m:BO3)(_k:KT):Option (List RV):=og (decide (cN l∧cN m)) (og (o2 l.2.2 m.2.1) (og (o2 m.2.2 l.2.1) (og (o2 (hMu l.2.2 m.2.1) (hMu m.2.2 l.2.1)) (og (o2 l.1 m.2.2) (og (o2 m.1 l.2.2) (og (o2 (hMu l.1 m.2.2) (hMu m.1 l.2.2)) (og (o1 (hid (am (ef (dec l) (dec m))))) (match(aC (ah (hid (am (ef (dec l) (dec m))))) 0) !=0 with|true=>(og (decide (iv (hSu (hMu l.2.2 m.2.1) (hMu m.2.2 l.2.1)) (hid (am (ef (dec l) (dec m)))))) (og (decide (iv (hSu (hMu l.1 m.2.2) (hMu m.1 l.2.2)) (hid (am (ef (dec l) (dec m)))))) (og (decide (ok (Rat×Rat) 100000 (hDi (hSu (hMu l.2.2 m.2.1) (hMu m.2.2 l.2.1)) (hid (am (ef (dec l) (dec m)))),hDi (hSu (hMu l.1 m.2.2) (hMu m.1 l.2.2)) (hid (am (ef (dec l) (dec m))))))) (some [RV.d (.sl tP) ([hid (enc (atP (dec (hDi (hSu (hMu l.2.2 m.2.1) (hMu m.2.2 l.2.1)) (hid (am (ef (dec l) (dec m)))),hDi (hSu (hMu l.1 m.2.2) (hMu m.1 l.2.2)) (hid (am (ef (dec l) (dec m))))))))]),RV.d aon 0]))))|false=>(og (o1 (hSu (hMu l.2.2 m.2.1) (hMu m.2.2 l.2.1))) (match(aC (ah (hSu (hMu l.2.2 m.2.1) (hMu m.2.2 l.2.1))) 0)==0 with|true=>(og (o1 (hSu (hMu l.1 m.2.2) (hMu m.1 l.2.2))) (match(aC (ah (hSu (hMu l.1 m.2.2) (hMu m.1 l.2.2))) 0)==0 with|true=>some [RV.d (.sl tP) ([]),RV.d aon 10]|false=>some [RV.d (.sl tP) ([]),RV.d aon 0]))|false=>some [RV.d (.sl tP) ([]),RV.d aon 0]))))))))))
def Ws:Cn 149 [tO,tO]:=cn fun(l m:BO3)=>lf (cN l∧cN m) [.d (.sl tP) ((mp (dec l) (dec m)).map enc),.d aon (Lc (dec l) (dec m))] fun h=>by
 refine aA Ci (XV l m) ⟨0,?_⟩
 obtain⟨hl,hm⟩:=h
 obtain⟨l,rfl,bl,nl⟩:=eI hl
 obtain⟨m,rfl,bm,nm⟩:=eI hm
 have ol:=ak3 (mg (l:=l) nl)
 have om:=ak3 (mg (l:=m) nm)
 have bc:Bd (ef l m) 49:=inferInstanceAs (Bd (l.1*m.2.1-m.1*l.2.1) _)
 have e1:l.2.2*m.2.1-m.2.2*l.2.1=lU l m:=rfl
 have e2:l.1*m.2.2-m.1*l.2.2=lN l m:=rfl
 unfold XV mp Lc
 simp only[aU,Nat.reduceAdd,Nat.reduceLeDiff,aq,aZ,ol,om]
 by_cases h0:ef l m=0
 ·simp only[ak3 h0,e1,e2,Bool.not_true]
  cases decide (lU l m=0)<;>cases decide (lN l m=0)<;>rfl
 ·simp only[aU,Nat.reduceAdd,Nat.reduceLeDiff,h0,ne_eq,amA,Bool.not_false,JD]
  rfl
def YV(l c:BO3)(_k:KT):Option (List RV):=og (decide (cN l∧ok Rat 4 c.1∧ok Rat 4 c.2.1)) (og (decide (cN l)) (og (o2 (hid (am (ck (dec l)))) c.2.2) (og (o2 (hid (am (vlL (dec l) (ah c.1) (ah c.2.1)))) (hid (am (vlL (dec l) (ah c.1) (ah c.2.1))))) (og (o2 (hMu (hid (am (ck (dec l)))) c.2.2) (hMu (hid (am (vlL (dec l) (ah c.1) (ah c.2.1)))) (hid (am (vlL (dec l) (ah c.1) (ah c.2.1)))))) (some [RV.d tR (hSu (hMu (hid (am (ck (dec l)))) c.2.2) (hMu (hid (am (vlL (dec l) (ah c.1) (ah c.2.1)))) (hid (am (vlL (dec l) (ah c.1) (ah c.2.1))))))])))))
def afS:Cn 251 [tO,tO]:=cn fun(l c:BO3)=>lf (cN l∧cg c) [.d tR (am (ju (dec l) (dec c)))] fun h=>by
 refine aA Ci (YV l c) ⟨0,?_⟩
 obtain⟨hl,hc⟩:=h
 obtain⟨l,rfl,bl,nl⟩:=eI hl
 obtain⟨c,rfl,bc,nc⟩:=cQ hc
 have ol:=ak3 (mg (l:=l) nl)
 have bv:Bd (vlL l c.1 c.2.1) 97:=inferInstanceAs (Bd (l.1*c.1+l.2.1*c.2.1-l.2.2) _)
 have bn:Bd (ck l) 49:=inferInstanceAs (Bd (l.1*l.1+l.2.1*l.2.1) _)
 unfold YV ju
 simp only[aU,Nat.reduceAdd,Nat.reduceLeDiff,ol]
def X3(c d:BO3)(_k:KT):Option (List RV):=og (decide (cg c∧cg d)) (match ij (dec c) (dec d)with|true=>some [RV.d tO (((false,[]),(false,[])),(((false,[]),(false,[])),((false,[]),(false,[])))),RV.d aon 6]|false=>(og (decide (aG (2:Int))) (og (o2 c.1 c.1) (og (o2 c.2.1 c.2.1) (og (o2 (hMu c.1 c.1) (hMu c.2.1 c.2.1)) (og (o2 (hAd (hMu c.1 c.1) (hMu c.2.1 c.2.1)) c.2.2) (og (o2 d.1 d.1) (og (o2 d.2.1 d.2.1) (og (o2 (hMu d.1 d.1) (hMu d.2.1 d.2.1)) (og (o2 (hAd (hMu d.1 d.1) (hMu d.2.1 d.2.1)) d.2.2) (og (o2 d.1 c.1) (og (o2 (hid (am ((2:Int):Rat))) (hSu d.1 c.1)) (og (o2 d.2.1 c.2.1) (og (o2 (hid (am ((2:Int):Rat))) (hSu d.2.1 c.2.1)) (og (o2 (hSu (hAd (hMu d.1 d.1) (hMu d.2.1 d.2.1)) d.2.2) (hSu (hAd (hMu c.1 c.1) (hMu c.2.1 c.2.1)) c.2.2)) (some [RV.d tO (hMu (hid (am ((2:Int):Rat))) (hSu d.1 c.1),(hMu (hid (am ((2:Int):Rat))) (hSu d.2.1 c.2.1),hSu (hSu (hAd (hMu d.1 d.1) (hMu d.2.1 d.2.1)) d.2.2) (hSu (hAd (hMu c.1 c.1) (hMu c.2.1 c.2.1)) c.2.2))),RV.d aon 0]))))))))))))))))
def af7:Cn 250 [tO,tO]:=cn fun(c d:BO3)=>lf (cg c∧cg d) [.d tO (vH (dec c) (dec d)),.d aon (Vr (dec c) (dec d))] fun h=>by
 refine aA Ci (X3 c d) ⟨0,?_⟩
 obtain⟨hc,hd⟩:=h
 obtain⟨c,rfl,bc,nc⟩:=cQ hc
 obtain⟨d,rfl,bd,nd⟩:=cQ hd
 have oc:=ak3 (hU (c:=c) nc)
 have od:=ak3 (hU (c:=d) nd)
 have i2:decide (aG 2)=true:=by decide
 have b2:Bd ((2:Int):Rat) 3:=cZ (by decide)
 unfold X3 vH Vr
 simp only[aU,Nat.reduceAdd,Nat.reduceLeDiff,oc,od,i2]
 cases ij c d
 ·rfl
 ·rfl
def Y6(c:BO3)(_k:KT):Option (List RV):=og (decide (aG (1:Int))) (og (decide (aG (0:Int))) (og (o1 (hid (am ((1:Int):Rat)))) (og (decide (ok Rat 1000 c.1∧ok Rat 1000 (hNe (hid (am ((1:Int):Rat))))∧ok Rat 1000 c.2.1∧ok Rat 1000 (hid (am ((0:Int):Rat)))∧ok Rat 1000 c.2.2)) (og (decide (ok Rat 1000 c.1∧ok Rat 1000 (hid (am ((1:Int):Rat)))∧ok Rat 1000 c.2.1∧ok Rat 1000 (hid (am ((0:Int):Rat)))∧ok Rat 1000 c.2.2)) (some [RV.d tP (hid (enc (ob (ah c.1) (ah (hNe (hid (am ((1:Int):Rat))))) (ah c.2.1) (ah (hid (am ((0:Int):Rat)))) (ah c.2.2)))),RV.d tP (hid (enc (ob (ah c.1) (ah (hid (am ((1:Int):Rat)))) (ah c.2.1) (ah (hid (am ((0:Int):Rat)))) (ah c.2.2))))])))))
def Zr:Cn 81 [tO]:=cn fun(c:BO3)=>lf (cg c) [.d tP (enc (lO (dec c))),.d tP (enc (l8 (dec c)))] fun h=>by
 refine aA Ci (Y6 c) ⟨0,?_⟩
 have hc:=h
 obtain⟨c,rfl,bc,nc⟩:=cQ hc
 have b0:Bd ((0:Int):Rat) 3:=cZ (by decide)
 have b1:Bd ((1:Int):Rat) 3:=cZ (by decide)
 have i0:decide (aG 0)=true:=by decide
 have i1:decide (aG 1)=true:=by decide
 unfold Y6 lO l8
 simp only[aU,Nat.reduceLeDiff,i0,i1]
 rfl
def NU:List En:=enL Ws::enL afS::enL af7::enL Zr::Ci
def agW:Ctx:=CX (ens NU) []
def Xw(l c:BO3)(_k:KT):Option (List RV):=let y1:=hid (am (ju (dec l) (dec c)));let y2:=hid (am (vlL (dec l) (ah c.1) (ah c.2.1)));let y3:=hid (am (ck (dec l)));let y4:=hMu (hDi y2 y3) l.1;let y5:=hMu (hDi y2 y3) l.2.1;let y6:=hDi (hNe l.1) y3;let y7:=hNe (hDi l.2.1 y3);let y8:=ah (hSu c.2.1 y5);let y9:=enc (ob (ah (hSu c.1 y4)) (ah y7) y8 (ah (hNe y6)) (ah y1));let y10:=enc (ob (ah (hSu c.1 y4)) (ah (hDi l.2.1 y3)) y8 (ah y6) (ah y1));og (decide (cN l∧cg c)) (og (decide (cN l)) (og (o1 y1) (match decide ((aC (ah y1) 0)<0)with|true=>some [RV.new 37 tP []]|false=>(og (decide (cN l∧ok Rat 4 c.1∧ok Rat 4 c.2.1)) (og (decide (iv y2 y3)) (og (o2 (hDi y2 y3) l.1) (og (o2 c.1 y4) (og (o2 (hDi y2 y3) l.2.1) (og (o2 c.2.1 y5) (og (o1 y1) (match(aC (ah y1) 0)==0 with|true=>(og (decide (ok (Rat×Rat) 100000 (hSu c.1 y4,hSu c.2.1 y5))) (some [RV.new 37 tP ([hid (enc (atP (dec (hSu c.1 y4,hSu c.2.1 y5))))])]))|false=>(og (decide (iv l.2.1 y3)) (og (o1 l.1) (og (decide (iv (hNe l.1) y3)) (og (o1 (hDi l.2.1 y3)) (og (o1 y6) (og (decide (ok Rat 1000 (hSu c.1 y4)∧ok Rat 1000 y7∧ok Rat 1000 (hSu c.2.1 y5)∧ok Rat 1000 (hNe y6)∧ok Rat 1000 y1)) (og (decide (ok Rat 1000 (hSu c.1 y4)∧ok Rat 1000 (hDi l.2.1 y3)∧ok Rat 1000 (hSu c.2.1 y5)∧ok Rat 1000 y6∧ok Rat 1000 y1)) (og (decide (okP 4000 (hid y9)∧okP 4000 (hid y10))) (match decide ((aV (dec (hid y9)) (dec (hid y10)))>0)with|true=>some [RV.new 37 tP ([hid y10,hid y9])]|false=>some [RV.new 37 tP ([hid y9,hid y10])]))))))))))))))))))))
theorem afX(l c:BO3):RS agW 148 [.d tO l,.d tO c] (Xw l c):=rsX
def Zm:Cn 148 [tO,tO]:=cn fun(l c:BO3)=>lf (cN l∧cg c) [.d (.sl tP) ((rh (dec l) (dec c)).map enc)] fun h=>by
 refine Con.new_d (et:=37) (c7 NU (afX _ _ ⟨0,?_⟩))
 obtain⟨hl,hc⟩:=h
 obtain⟨l,rfl,bl,nl⟩:=eI hl
 obtain⟨c,rfl,bc,nc⟩:=cQ hc
 have ol:=ak3 (mg (l:=l) nl)
 have oc:=ak3 (hU (c:=c) nc)
 have hn:=m9 nl
 have bv:Bd (vlL l c.1 c.2.1) 97:=inferInstanceAs (Bd (l.1*c.1+l.2.1*c.2.1-l.2.2) _)
 have bn:Bd (ck l) 49:=inferInstanceAs (Bd (l.1*l.1+l.2.1*l.2.1) _)
 have e1:c.1-vlL l c.1 c.2.1/ck l*l.1=ftX l c:=rfl
 have e2:c.2.1-vlL l c.1 c.2.1/ck l*l.2.1=ftY l c:=rfl
 obtain⟨f1,f2,_,_⟩:=uG (l:=l) (c:=c)
 unfold Xw rh
 simp only[aU,Nat.reduceAdd,Nat.reduceLeDiff,aq,au,ol,oc,hn,ne_eq,amA,e1,e2,JD]
 by_cases h0:ju l c<0
 ·simp only[ak3 h0]
  rfl
 ·simp only[ak5 h0]
  by_cases h1:ju l c=0
  ·simp only[ak3 h1]
   rfl
  ·have hp:=NY h0 h1
   obtain⟨p1,p2⟩:=KL (c:=c) nl (show 0≤ju l c by grind)
   obtain⟨q1,q2⟩:=PD (l:=l) (c:=c)
   have g1:ob (ftX l c) (-(l.2.1/ck l)) (ftY l c) (-(-l.1/ck l)) (ju l c)=r7 l c:=rfl
   have g2:ob (ftX l c) (l.2.1/ck l) (ftY l c) (-l.1/ck l) (ju l c)=ti l c:=rfl
   simp only[ak5 h1,aU,Nat.reduceLeDiff,aN,g1,g2]
   cases decide (aV (r7 l c) (ti l c)>0)<;>rfl
def ail:List En:=enL Zm::NU
def XR(c d:BO3)(_k:KT):Option (List RV):=og (decide (cg c∧cg d)) (match ij (dec c) (dec d)with|true=>(og (o2 c.2.2 d.2.2) (match(aC (ah c.2.2) (ah d.2.2))==0 with|true=>some [RV.d (.sl tP) ([]),RV.d aon 10]|false=>some [RV.d (.sl tP) ([]),RV.d aon 0]))|false=>(og (decide (cg c∧cg d)) (og (decide (cN (hid (vH (dec c) (dec d)))∧cg c)) (some [RV.d (.sl tP) ((rh (dec (hid (vH (dec c) (dec d)))) (dec c)).map enc),RV.d aon 0]))))
def ahA:Cn 147 [tO,tO]:=cn fun(c d:BO3)=>lf (cg c∧cg d) [.d (.sl tP) ((C9 (dec c) (dec d)).map enc),.d aon (Un (dec c) (dec d))] fun h=>by
 refine aA ail (XR c d) ⟨0,?_⟩
 obtain⟨hc,hd⟩:=h
 obtain⟨c,rfl,bc,nc⟩:=cQ hc
 obtain⟨d,rfl,bd,nd⟩:=cQ hd
 have oc:=ak3 (hU (c:=c) nc)
 have od:=ak3 (hU (c:=d) nd)
 unfold XR C9 Un
 simp only[aU,Nat.reduceLeDiff,aq,oc,od]
 cases hc:ij c d
 ·have ol:cN (enc (mr c d)):=Pw hc
  have er:vH c d=enc (mr c d):=by unfold vH;rw[hc];rfl
  simp only[er,dT ol,aU]
  try rfl
 ·cases decide (c.2.2=d.2.2)<;>rfl
end
def mG(c:BCU):Prop:=okC 500 c∧vw c
instance (c:BCU):Decidable (mG c):=by unfold mG;infer_instance
def fA(c d:BCU):Prop:=mG c∧mG d
instance (c d:BCU):Decidable (fA c d):=by unfold fA;infer_instance
def Dx(c d:BCU):List BP:=bif !cJ (dC c) (dC d)then(vm (dC c) (dC d)).map enc else [c.2.2.2.2.1,c.2.2.2.2.2,d.2.2.2.2.1,d.2.2.2.2.2]
def aaM(c d:BCU):List BP:=(Dx c d).filter fun p=>onR (dC c) (dec p)&&onR (dC d) (dec p)
def tX(c d:BCU):List BP:=iE (dC c) (aaM c d)
def So(c d:BCU):Bool:=bif c.1&&(d.1&&(c.2.2.2.1 !=d.2.2.2.1))then true else !c.1&&(aV (dec c.2.2.2.2.1) (dec c.2.2.2.2.2) !=aV (dec d.2.2.2.2.1) (dec d.2.2.2.2.2))
def yK(c d:BCU):BCU:=bif So c d then dX d else d
def Bu(c:Cv):List BP→Bool
 |[]=>false
 |x::r=>match r with
  |[]=>false
  |y::_=>decide (df c (dec x) (dec y)<0)||Bu c r
def aiB(c d:BCU):Bool:=cJ (dC c) (dC d)&&Bu (dC (yK c d)) (tX c d)
def MA:List En:=[enL ahA,enL Zm,enL Ws,enT Z6,enT ac1,enT Hw,enT Na,enK W7,enL H9,enT xD]
def Q7(a b:BCU)(_k:KT):Option (List RV):=match a.1 with|true=>(match b.1 with|true=>(og (decide (cg a.2.2.1∧cg b.2.2.1)) (some [RV.d (.sl tP) ((C9 (dec a.2.2.1) (dec b.2.2.1)).map enc),RV.d aon (Un (dec a.2.2.1) (dec b.2.2.1))]))|false=>(match a.1 with|true=>(og (decide (cN b.2.1∧cg a.2.2.1)) (some [RV.d (.sl tP) ((rh (dec b.2.1) (dec a.2.2.1)).map enc),RV.d aon 0]))|false=>(match b.1 with|true=>(og (decide (cN a.2.1∧cg b.2.2.1)) (some [RV.d (.sl tP) ((rh (dec a.2.1) (dec b.2.2.1)).map enc),RV.d aon 0]))|false=>(og (decide (cN a.2.1∧cN b.2.1)) (some [RV.d (.sl tP) ((mp (dec a.2.1) (dec b.2.1)).map enc),RV.d aon (Lc (dec a.2.1) (dec b.2.1))])))))|false=>(match a.1 with|true=>(og (decide (cN b.2.1∧cg a.2.2.1)) (some [RV.d (.sl tP) ((rh (dec b.2.1) (dec a.2.2.1)).map enc),RV.d aon 0]))|false=>(match b.1 with|true=>(og (decide (cN a.2.1∧cg b.2.2.1)) (some [RV.d (.sl tP) ((rh (dec a.2.1) (dec b.2.2.1)).map enc),RV.d aon 0]))|false=>(og (decide (cN a.2.1∧cN b.2.1)) (some [RV.d (.sl tP) ((mp (dec a.2.1) (dec b.2.1)).map enc),RV.d aon (Lc (dec a.2.1) (dec b.2.1))]))))
def abC:Cn 57 [tCU,tCU]:=cn fun(a b:BCU)=>lf (gS a b) [.d (.sl tP) ((vm (dC a) (dC b)).map enc),.d aon (Y9 (dC a) (dC b))] fun h=>by
 refine aA MA (Q7 a b) ⟨0,?_⟩
 obtain⟨⟨a1,a2⟩,b1,b2⟩:=h
 unfold Q7 vm Y9 C9
 obtain⟨aa,al,ac,aw,af,at_⟩:=a
 obtain⟨ba,bl,bc,bw,bf,bt⟩:=b
 cases aa<;>cases ba
 ·have h1:=a2 rfl
  have h2:=b2 rfl
  simp only[dT (show cN al∧cN bl from⟨h1,h2⟩)]
  rfl
 ·have h1:=a2 rfl
  have h2:=b1 rfl
  simp only[dT (show cN al∧cg bc from⟨h1,h2⟩)]
  rfl
 ·have h1:=a1 rfl
  have h2:=b2 rfl
  simp only[dT (show cN bl∧cg ac from⟨h2,h1⟩)]
  rfl
 ·have h1:=a1 rfl
  have h2:=b1 rfl
  simp only[dT (show cg ac∧cg bc from⟨h1,h2⟩)]
  rfl
def XT(a b:BCU)(_k:KT):Option (List RV):=match !(a.1==b.1)with|true=>some [RV.d .bool false]|false=>(match a.1 with|true=>(og (decide (cg a.2.2.1∧cg b.2.2.1)) (some [RV.d .bool (rP (dec a.2.2.1) (dec b.2.2.1))]))|false=>(og (decide (cN a.2.1∧cN b.2.1)) (some [RV.d .bool (oR (dec a.2.1) (dec b.2.1))])))
def ad8:Cn 56 [tCU,tCU]:=cn fun(a b:BCU)=>lf (gS a b) [.d .bool (cJ (dC a) (dC b))] fun h=>by
 refine aA MA (XT a b) ⟨0,?_⟩
 obtain⟨⟨a1,a2⟩,b1,b2⟩:=h
 unfold XT cJ
 obtain⟨aa,al,ac,aw,af,at_⟩:=a
 obtain⟨ba,bl,bc,bw,bf,bt⟩:=b
 cases aa<;>cases ba
 ·have h1:=a2 rfl
  have h2:=b2 rfl
  simp only[dT (show cN al∧cN bl from⟨h1,h2⟩)]
  rfl
 ·rfl
 ·rfl
 ·have h1:=a1 rfl
  have h2:=b1 rfl
  simp only[dT (show cg ac∧cg bc from⟨h1,h2⟩)]
  rfl
def Xc:List En:=enL abC::enT ad8::MA
def abn:NT:=[((19,18),{keep:=[2,3,6,7,8,9],own:=[(8,37,tP)],hl:=4}),((19,47),{keep:=[3,6,8,10,11],hl:=2})]
def sD:Ctx:=CX (ens Xc) abn
def pS(c d:BCU)(s9:Int)(r3:List BP):Cfg:=⟨19,[.blk 0,.seq 33],[(2,.box 0 0),(3,.box 1 0),(6,SB (cJ (dC c) (dC d))),(7,.d (.sl tP) ((vm (dC c) (dC d)).map enc)),(8,.own 3),(9,SI s9)],[.box 39 (Ty.split tCU c),.box 39 (Ty.split tCU d),.row 37 tP ([c.2.2.2.2.1,c.2.2.2.2.2,d.2.2.2.2.1,d.2.2.2.2.2]),.row 37 tP r3],0,[]⟩
def ki(c d:BCU)(s9:Int)(r3:List BP):Cfg:=⟨19,[.blk 0,.seq 33],[(2,.box 0 0),(3,.box 1 0),(6,SB (cJ (dC c) (dC d))),(7,.own 2),(8,.own 3),(9,SI s9)],[.box 39 (Ty.split tCU c),.box 39 (Ty.split tCU d),.row 37 tP ([c.2.2.2.2.1,c.2.2.2.2.2,d.2.2.2.2.1,d.2.2.2.2.2]),.row 37 tP r3],0,[]⟩
def cX(c d:BCU)(r3:List BP)(B1:BCU)(s10:Bool)(s11:Int):Cfg:=⟨19,[.blk 2,.seq 58],[(3,.box 1 0),(6,SB (cJ (dC c) (dC d))),(8,.d (.sl tP) (iE (dC c) r3)),(10,SB s10),(11,SI s11)],[.box 39 (Ty.split tCU c),.box 39 (Ty.split tCU B1)],0,[]⟩
def K3(c d:BCU)(k:KT):Option (List RV):=og (decide (gS c d)) (match !(cJ (dC c) (dC d))with|true=>(og (decide (gS c d)) (k 18 (pS c d 0 ([]))))|false=>k 18 (ki c d 0 ([])))
theorem V7(c d:BCU):RS sD 19 [.d tCU c,.d tCU d] (K3 c d):=rsX
def pQ(c d:BCU)(s9:Int)(r3:List BP)(k:KT):Option (List RV):=match decide (s9<(((vm (dC c) (dC d)).map enc).length:Int))with|true=>(match aR ((vm (dC c) (dC d)).map enc) s9 with|some x1=>(og (decide (okC 3500 c∧okP 3500 x1)) (match onR (dC c) (dec x1)with|true=>(match aR ((vm (dC c) (dC d)).map enc) s9 with|some x2=>(og (decide (okC 3500 d∧okP 3500 x2)) (match onR (dC d) (dec x2)with|true=>(match aR ((vm (dC c) (dC d)).map enc) s9 with|some x3=>(og (decide ((r3.length+([x3]).length)*320≤140737488355328∧r3.length+([x3]).length≤140737488355328)) (k 18 (pS c d (i64.wrap (s9+1)) (r3++([x3])))))|none=>none)|false=>k 18 (pS c d (i64.wrap (s9+1)) r3)))|none=>none)|false=>k 18 (pS c d (i64.wrap (s9+1)) r3)))|none=>none)|false=>(og (decide (xJ c r3)) (match c.1 with|true=>(match d.1 with|true=>(match !(c.2.2.2.1==d.2.2.2.1)with|true=>k 47 (cX c d r3 (hid (dX d)) false 1)|false=>(match !c.1 with|true=>(og (decide (okP 4000 c.2.2.2.2.1∧okP 4000 c.2.2.2.2.2)) (og (decide (okP 4000 d.2.2.2.2.1∧okP 4000 d.2.2.2.2.2)) (match(aV (dec c.2.2.2.2.1) (dec c.2.2.2.2.2)) !=(aV (dec d.2.2.2.2.1) (dec d.2.2.2.2.2))with|true=>k 47 (cX c d r3 (hid (dX d)) false 1)|false=>k 47 (cX c d r3 d false 1))))|false=>k 47 (cX c d r3 d false 1)))|false=>(match !c.1 with|true=>(og (decide (okP 4000 c.2.2.2.2.1∧okP 4000 c.2.2.2.2.2)) (og (decide (okP 4000 d.2.2.2.2.1∧okP 4000 d.2.2.2.2.2)) (match(aV (dec c.2.2.2.2.1) (dec c.2.2.2.2.2)) !=(aV (dec d.2.2.2.2.1) (dec d.2.2.2.2.2))with|true=>k 47 (cX c d r3 (hid (dX d)) false 1)|false=>k 47 (cX c d r3 d false 1))))|false=>k 47 (cX c d r3 d false 1)))|false=>(match !c.1 with|true=>(og (decide (okP 4000 c.2.2.2.2.1∧okP 4000 c.2.2.2.2.2)) (og (decide (okP 4000 d.2.2.2.2.1∧okP 4000 d.2.2.2.2.2)) (match(aV (dec c.2.2.2.2.1) (dec c.2.2.2.2.2)) !=(aV (dec d.2.2.2.2.1) (dec d.2.2.2.2.2))with|true=>k 47 (cX c d r3 (hid (dX d)) false 1)|false=>k 47 (cX c d r3 d false 1))))|false=>k 47 (cX c d r3 d false 1))))
theorem t9(c d:BCU)(s9:Int)(r3:List BP):RN sD 18 (pS c d s9 r3) (pQ c d s9 r3):=rnX
def lL(c d:BCU)(s9:Int)(r3:List BP)(k:KT):Option (List RV):=match decide (s9<(([c.2.2.2.2.1,c.2.2.2.2.2,d.2.2.2.2.1,d.2.2.2.2.2]).length:Int))with|true=>(match aR ([c.2.2.2.2.1,c.2.2.2.2.2,d.2.2.2.2.1,d.2.2.2.2.2]) s9 with|some _=>(match true,([c.2.2.2.2.1,c.2.2.2.2.2,d.2.2.2.2.1,d.2.2.2.2.2])[(s9).toNat]? with|true,some x1=>(og (decide (okC 3500 c∧okP 3500 x1)) (match onR (dC c) (dec x1)with|true=>(match aR ([c.2.2.2.2.1,c.2.2.2.2.2,d.2.2.2.2.1,d.2.2.2.2.2]) s9 with|some _=>(match true,([c.2.2.2.2.1,c.2.2.2.2.2,d.2.2.2.2.1,d.2.2.2.2.2])[(s9).toNat]? with|true,some x2=>(og (decide (okC 3500 d∧okP 3500 x2)) (match onR (dC d) (dec x2)with|true=>(match aR ([c.2.2.2.2.1,c.2.2.2.2.2,d.2.2.2.2.1,d.2.2.2.2.2]) s9 with|some _=>(match true,([c.2.2.2.2.1,c.2.2.2.2.2,d.2.2.2.2.1,d.2.2.2.2.2])[(s9).toNat]? with|true,some x3=>(og (decide ((r3.length+([x3]).length)*320≤140737488355328∧r3.length+([x3]).length≤140737488355328)) (k 18 (ki c d (i64.wrap (s9+1)) (r3++([x3])))))|_,_=>none)|none=>none)|false=>k 18 (ki c d (i64.wrap (s9+1)) r3)))|_,_=>none)|none=>none)|false=>k 18 (ki c d (i64.wrap (s9+1)) r3)))|_,_=>none)|none=>none)|false=>(og (decide (xJ c r3)) (match c.1 with|true=>(match d.1 with|true=>(match !(c.2.2.2.1==d.2.2.2.1)with|true=>k 47 (cX c d r3 (hid (dX d)) false 1)|false=>(match !c.1 with|true=>(og (decide (okP 4000 c.2.2.2.2.1∧okP 4000 c.2.2.2.2.2)) (og (decide (okP 4000 d.2.2.2.2.1∧okP 4000 d.2.2.2.2.2)) (match(aV (dec c.2.2.2.2.1) (dec c.2.2.2.2.2)) !=(aV (dec d.2.2.2.2.1) (dec d.2.2.2.2.2))with|true=>k 47 (cX c d r3 (hid (dX d)) false 1)|false=>k 47 (cX c d r3 d false 1))))|false=>k 47 (cX c d r3 d false 1)))|false=>(match !c.1 with|true=>(og (decide (okP 4000 c.2.2.2.2.1∧okP 4000 c.2.2.2.2.2)) (og (decide (okP 4000 d.2.2.2.2.1∧okP 4000 d.2.2.2.2.2)) (match(aV (dec c.2.2.2.2.1) (dec c.2.2.2.2.2)) !=(aV (dec d.2.2.2.2.1) (dec d.2.2.2.2.2))with|true=>k 47 (cX c d r3 (hid (dX d)) false 1)|false=>k 47 (cX c d r3 d false 1))))|false=>k 47 (cX c d r3 d false 1)))|false=>(match !c.1 with|true=>(og (decide (okP 4000 c.2.2.2.2.1∧okP 4000 c.2.2.2.2.2)) (og (decide (okP 4000 d.2.2.2.2.1∧okP 4000 d.2.2.2.2.2)) (match(aV (dec c.2.2.2.2.1) (dec c.2.2.2.2.2)) !=(aV (dec d.2.2.2.2.1) (dec d.2.2.2.2.2))with|true=>k 47 (cX c d r3 (hid (dX d)) false 1)|false=>k 47 (cX c d r3 d false 1))))|false=>k 47 (cX c d r3 d false 1))))
theorem pu(c d:BCU)(s9:Int)(r3:List BP):RN sD 18 (ki c d s9 r3) (lL c d s9 r3):=rnX
def qv(c d:BCU)(r3:List BP)(B1:BCU)(s10:Bool)(s11:Int)(k:KT):Option (List RV):=match cJ (dC c) (dC d)with|true=>(match decide (s11<((iE (dC c) r3).length:Int))with|true=>(match s10 with|true=>k 47 (cX c d r3 B1 true (i64.wrap (s11+1)))|false=>(match aR (iE (dC c) r3) (i64.wrap (s11-1))with|some x1=>(match aR (iE (dC c) r3) s11 with|some x2=>(og (decide (okC 4000 B1∧okP 4000 x1∧okP 4000 x2)) (k 47 (cX c d r3 B1 (decide ((df (dC B1) (dec x1) (dec x2))<0)) (i64.wrap (s11+1)))))|none=>none)|none=>none))|false=>some [RV.d (.sl tP) (iE (dC c) r3),RV.d .bool s10])|false=>some [RV.d (.sl tP) (iE (dC c) r3),RV.d .bool s10]
theorem ud(c d:BCU)(r3:List BP)(B1:BCU)(s10:Bool)(s11:Int):RN sD 47 (cX c d r3 B1 s10 s11) (qv c d r3 B1 s10 s11):=rnX
theorem QQ{c:Cv}{S:List BP}{i:Nat}(h1:1≤i)(hi:i<S.length):Bu c (S.drop (i-1))=(decide (df c (dec S[i-1]) (dec S[i])<0)||Bu c (S.drop i)):=by
 have hd:S.drop (i-1)=S[i-1]::S.drop i:=by
  have:=alm (l:=S) (i:=i-1) (by omega)
  rw[this,show i-1+1=i by omega]
 have hd2:S.drop i=S[i]::S.drop (i+1):=alm hi
 rw[hd,hd2]
 rfl
theorem Sn{c:Cv}{S:List BP}(h:S.length≤1):Bu c S=false:=by
 match S,h with
 |[],_=>rfl
 |[_],_=>rfl
theorem ZM(c d:BCU)(r3 S:List BP)(hS:iE (dC c) r3=S)(hl:S.length≤1000000)(ho:∀x∈S,okP 4000 x)(B:BCU)(hB:okC 4000 B):∀(j i:Nat),1≤i→i+j=max S.length 1→∀s:Bool,
  sD.Runs 47 (cX c d r3 B s (i:Int)) [.d (.sl tP) S,.d .bool (bif cJ (dC c) (dC d)then s||Bu (dC B) (S.drop (i-1))else s)]:=by
 intro j
 induction j with
 |zero=>
  intro i h1 hi s
  refine ud _ _ _ _ _ _ ⟨0,?_⟩
  unfold qv
  rw[hS,cd (by omega),Sn (by rw[anw];omega),Bool.or_false]
  cases cJ (dC c) (dC d)<;>rfl
 |succ j ih=>
  intro i h1 hi s
  have hil:i<S.length:=by omega
  have e1:i64.wrap ((i:Int)-1)=((i-1:Nat):Int):=by rw[aS (by omega) (by omega)];omega
  have e2:i64.wrap ((i:Int)+1)=((i+1:Nat):Int):=bW (by omega)
  have g1:aR S ((i-1:Nat):Int)=some S[i-1]:=by rw[ao,ak4 (by omega)]
  have g2:aR S (i:Int)=some S[i]:=by rw[ao,ak4 hil]
  cases hs:cJ (dC c) (dC d)
  ·refine ud _ _ _ _ _ _ ⟨0,?_⟩
   unfold qv
   rw[hS,hs]
   rfl
  ·obtain⟨n,hn⟩:=ih (i+1) (by omega) (by omega) (s||decide (df (dC B) (dec S[i-1]) (dec S[i])<0))
   refine ud _ _ _ _ _ _ ⟨n,?_⟩
   unfold qv
   rw[hS,hs,bH hil,e1,e2,g1,g2]
   dsimp only
   rw[dT (show okC 4000 B∧okP 4000 S[i-1]∧okP 4000 S[i] from⟨hB,ho _ (alE _),ho _ (alE _)⟩)]
   rw[hs,Nat.add_sub_cancel,Bool.or_assoc,←QQ h1 hil]at hn
   cases s
   ·exact hn
   ·simp only[Bool.true_or,cond_true]at hn ⊢
    exact hn
theorem HM{c:Cv}{l:List BP}{p:BP→Prop}(h:∀x∈l,p x):∀x∈iE c l,p x:=fun x hx=>by
 rcases Ad hx with h'|h'
 ·cases h'
 ·exact h x h'
theorem H8(c d:BCU)(h:fA c d)(r3:List BP)(hl:r3.length≤100)(ho:∀x∈r3,okP 500 x):∃n,(match decide (xJ c r3)with
  |true=>sD.k n 47 (cX c d r3 (yK c d) false 1)
  |false=>none)=some [.d (.sl tP) (iE (dC c) r3),.d .bool (cJ (dC c) (dC d)&&Bu (dC (yK c d)) (iE (dC c) r3))]:=by
 have hs:xJ c r3:=⟨cf h.1.1 (by decide) (by decide),by omega,fun x hx=>cK (ho x hx) (by decide) (by decide)⟩
 have hR:okC 4000 (yK c d):=by
  unfold yK
  have:=cf (k:=4000) h.2.1 (by decide) (by decide)
  cases So c d
  ·exact this
  ·exact Bq 4000 this
 have hlen:=vU (dC c) r3 []
 obtain⟨n,hn⟩:=ZM c d r3 _ rfl (by simp at hlen;unfold iE;omega) (HM (fun x hx=>cK (ho x hx) (by decide) (by decide))) (yK c d) hR (max (iE (dC c) r3).length 1-1) 1 (ak9 _) (by omega) false
 refine⟨n,?_⟩
 rw[dT hs]
 refine hn.trans ?_
 cases cJ (dC c) (dC d)<;>rfl
theorem Cb{l c:Ln}[BdL l][BdC c](hl:l.1≠0∨l.2.1≠0):(rh l c).length≤2∧∀p∈rh l c,Bd p 490∧Rpd p:=by
 unfold rh
 by_cases h0:ju l c<0
 ·rw[ak3 h0]
  exact⟨by simp,fun p hp=>by cases hp⟩
 ·rw[ak5 h0]
  by_cases h1:ju l c=0
  ·rw[ak3 h1]
   obtain⟨f1,f2,_,_⟩:=uG (l:=l) (c:=c)
   refine⟨by simp,fun p hp=>?_⟩
   have:p=atP (ftX l c,ftY l c):=by simpa using hp
   rw[this]
   exact⟨(inferInstance:Bd (atP (ftX l c,ftY l c)) _).mono (by decide),inferInstance⟩
  ·rw[ak5 h1]
   obtain⟨p1,p2⟩:=KL (c:=c) hl (show 0≤ju l c by grind)
   obtain⟨q1,q2⟩:=PD (l:=l) (c:=c)
   cases decide (aV (r7 l c) (ti l c)>0)
   ·refine⟨by simp,fun p hp=>?_⟩
    have:p=r7 l c∨p=ti l c:=by simpa using hp
    rcases this with e|e<;>rw[e]
    ·exact⟨q1,p1⟩
    ·exact⟨q2,p2⟩
   ·refine⟨by simp,fun p hp=>?_⟩
    have:p=ti l c∨p=r7 l c:=by simpa using hp
    rcases this with e|e<;>rw[e]
    ·exact⟨q2,p2⟩
    ·exact⟨q1,p1⟩
theorem wh{l m:Ln}[BdL l][BdL m]:(mp l m).length≤2∧∀p∈mp l m,Bd p 490∧Rpd p:=by
 unfold mp
 cases decide (ef l m=0)
 ·have bc:Bd (ef l m) 49:=inferInstanceAs (Bd (l.1*m.2.1-m.1*l.2.1) _)
  have bx:Bd (lU l m) 151:=inferInstanceAs (Bd (l.2.2*m.2.1-m.2.2*l.2.1) _)
  have b_:Bd (lN l m) 151:=inferInstanceAs (Bd (l.1*m.2.2-m.1*l.2.2) _)
  refine⟨by simp,fun p hp=>?_⟩
  have:p=atP (lU l m/ef l m,lN l m/ef l m):=by simpa using hp
  rw[this]
  exact⟨(inferInstance:Bd (atP (lU l m/ef l m,lN l m/ef l m)) _).mono (by decide),inferInstance⟩
 ·exact⟨by simp,fun p hp=>by cases hp⟩
theorem SY{c d:BCU}(h:gS c d):(vm (dC c) (dC d)).length≤2∧∀p∈vm (dC c) (dC d),Bd p 490∧Rpd p:=by
 obtain⟨⟨a1,a2⟩,b1,b2⟩:=h
 obtain⟨aa,al,ac,aw,af,at_⟩:=c
 obtain⟨ba,bl,bc,bw,bf,bt⟩:=d
 have ex1:∀x:BO3,cN x→BdL (dec x)∧((dec x:Ln).1≠0∨(dec x:Ln).2.1≠0):=fun x h=>by
  obtain⟨l,rfl,bl,nl⟩:=eI h
  rw[az]
  exact⟨bl,nl⟩
 have ex2:∀x:BO3,cg x→BdC (dec x):=fun x h=>by
  obtain⟨l,rfl,bl,nl⟩:=cQ h
  rw[az]
  exact bl
 unfold vm
 cases aa<;>cases ba
 ·obtain⟨i1,_⟩:=ex1 _ (a2 rfl)
  obtain⟨i2,_⟩:=ex1 _ (b2 rfl)
  exact wh (l:=dec al) (m:=dec bl)
 ·obtain⟨i1,n1⟩:=ex1 _ (a2 rfl)
  have i2:=ex2 _ (b1 rfl)
  exact Cb (l:=dec al) (c:=dec bc) n1
 ·have i1:=ex2 _ (a1 rfl)
  obtain⟨i2,n2⟩:=ex1 _ (b2 rfl)
  exact Cb (l:=dec bl) (c:=dec ac) n2
 ·have i1:=ex2 _ (a1 rfl)
  have i2:=ex2 _ (b1 rfl)
  show(C9 (dec ac) (dec bc)).length≤2∧∀p∈C9 (dec ac) (dec bc),Bd p 490∧Rpd p
  unfold C9
  cases hc:ij (dec ac) (dec bc)
  ·have i3:BdL (mr (dec ac) (dec bc)):=wA
   exact Cb (yq hc)
  ·exact⟨by simp,fun p hp=>by cases hp⟩
theorem If{c d:BCU}(h:fA c d):(Dx c d).length≤4∧∀x∈Dx c d,okP 500 x:=by
 obtain⟨⟨h1,h2⟩,h3,h4⟩:=h
 unfold Dx
 cases cJ (dC c) (dC d)
 ·obtain⟨g1,g2⟩:=SY (show gS c d from⟨h2,h4⟩)
  refine⟨by simp only[Bool.not_false,cond_true,amO];omega,fun x hx=>?_⟩
  obtain⟨p,hp,rfl⟩:=amY.1 hx
  obtain⟨b,r⟩:=g2 p hp
  exact ak6 (aN (j:=490) (by decide) (by decide))
 ·refine⟨by simp,fun x hx=>?_⟩
  have:x=c.2.2.2.2.1∨x=c.2.2.2.2.2∨x=d.2.2.2.2.1∨x=d.2.2.2.2.2:=by simpa using hx
  rcases this with e|e|e|e<;>rw[e]
  ·exact h1.2.2.1
  ·exact h1.2.2.2
  ·exact h3.2.2.1
  ·exact h3.2.2.2
def mK(c d:BCU)(p:BP):Bool:=onR (dC c) (dec p)&&onR (dC d) (dec p)
theorem EX(c d:BCU)(h:fA c d)(L:List BP)(hL:(vm (dC c) (dC d)).map enc=L)(h4:L.length≤4)(ho:∀x∈L,okP 500 x):∀(j i:Nat),i+j=L.length→∀r3:List BP,r3.length≤i→(∀x∈r3,okP 500 x)→
  sD.Runs 18 (pS c d (i:Int) r3) [.d (.sl tP) (iE (dC c) (r3++(L.drop i).filter (mK c d))),.d .bool (cJ (dC c) (dC d)&&Bu (dC (yK c d)) (iE (dC c) (r3++(L.drop i).filter (mK c d))))]:=by
 intro j
 induction j with
 |zero=>
  intro i hi r3 hr h3
  obtain⟨n,hn⟩:=H8 c d h r3 (by omega) h3
  refine t9 _ _ _ _ ⟨n,?_⟩
  have hd:L.drop i=[]:=List.drop_eq_nil_iff.2 (by omega)
  rw[hd,anQ,alB,←hn]
  unfold pQ
  rw[hL,cd (by omega)]
  have hs:xJ c r3:=⟨cf h.1.1 (by decide) (by decide),by omega,fun x hx=>cK (h3 x hx) (by decide) (by decide)⟩
  have o1:decide (okP 4000 c.2.2.2.2.1∧okP 4000 c.2.2.2.2.2)=true:=ak3 ⟨cK h.1.1.2.2.1 (by decide) (by decide),cK h.1.1.2.2.2 (by decide) (by decide)⟩
  have o2:decide (okP 4000 d.2.2.2.2.1∧okP 4000 d.2.2.2.2.2)=true:=ak3 ⟨cK h.2.1.2.2.1 (by decide) (by decide),cK h.2.1.2.2.2 (by decide) (by decide)⟩
  rw[dT hs,o1,o2]
  dsimp only
  unfold yK So bne
  simp only[bL]
  cases c.1<;>cases d.1<;>cases(c.2.2.2.1==d.2.2.2.1)<;>cases(aV (dec c.2.2.2.2.1) (dec c.2.2.2.2.2)==aV (dec d.2.2.2.2.1) (dec d.2.2.2.2.2))<;>rfl
 |succ j ih=>
  intro i hi r3 hr h3
  have hil:i<L.length:=by omega
  have e2:i64.wrap ((i:Int)+1)=((i+1:Nat):Int):=bW (by omega)
  have g2:aR L (i:Int)=some L[i]:=by rw[ao,ak4 hil]
  have g3:L[((i:Int)).toNat]?=some L[i]:=by rw[show((i:Int)).toNat=i by omega,ak4 hil]
  have hx:=ho _ (alE hil)
  have hd:L.drop i=L[i]::L.drop (i+1):=alm hil
  have ox:=cK (k:=3500) hx (by decide) (by decide)
  have o1:decide (okC 3500 c∧okP 3500 L[i])=true:=ak3 ⟨cf h.1.1 (by decide) (by decide),ox⟩
  have o2:decide (okC 3500 d∧okP 3500 L[i])=true:=ak3 ⟨cf h.2.1 (by decide) (by decide),ox⟩
  have hf:(L.drop i).filter (mK c d)=bif mK c d L[i]then L[i]::(L.drop (i+1)).filter (mK c d)else(L.drop (i+1)).filter (mK c d):=by
   rw[hd,amX]
   cases mK c d L[i]<;>rfl
  cases hb:mK c d L[i]
  ·rw[hb]at hf
   obtain⟨n,hn⟩:=ih (i+1) (by omega) r3 (by omega) h3
   refine t9 _ _ _ _ ⟨n,?_⟩
   rw[hf]
   dsimp only[cond_false]
   rw[←hn]
   unfold mK at hb
   unfold pQ
   rw[hL,bH hil,g2,e2]
   dsimp only
   try rw[g3]
   try dsimp only
   rw[o1,o2]
   cases h1:onR (dC c) (dec L[i])
   ·rfl
   ·rw[h1,amo]at hb
    rw[hb]
  ·rw[hb]at hf
   obtain⟨n,hn⟩:=ih (i+1) (by omega) (r3++[L[i]]) (by simp;omega) (fun x hx'=>by
    rcases alO.1 hx' with h'|h'
    ·exact h3 x h'
    ·have:x=L[i]:=by simpa using h'
     rw[this];exact hx)
   refine t9 _ _ _ _ ⟨n,?_⟩
   rw[hf]
   dsimp only[cond_true]
   rw[alu]at hn
   refine Eq.trans ?_ hn
   unfold mK at hb
   obtain⟨h1,h2⟩:=ale.1 hb
   unfold pQ
   rw[hL,bH hil,g2,e2]
   dsimp only
   try rw[g3]
   try dsimp only
   rw[o1,o2,h1,h2]
   dsimp only
   rw[dT (by simp;omega)]
theorem BJ(c d:BCU)(h:fA c d)(L:List BP)(hL:[c.2.2.2.2.1,c.2.2.2.2.2,d.2.2.2.2.1,d.2.2.2.2.2]=L)(h4:L.length≤4)(ho:∀x∈L,okP 500 x):∀(j i:Nat),i+j=L.length→∀r3:List BP,r3.length≤i→(∀x∈r3,okP 500 x)→
  sD.Runs 18 (ki c d (i:Int) r3) [.d (.sl tP) (iE (dC c) (r3++(L.drop i).filter (mK c d))),.d .bool (cJ (dC c) (dC d)&&Bu (dC (yK c d)) (iE (dC c) (r3++(L.drop i).filter (mK c d))))]:=by
 intro j
 induction j with
 |zero=>
  intro i hi r3 hr h3
  obtain⟨n,hn⟩:=H8 c d h r3 (by omega) h3
  refine pu _ _ _ _ ⟨n,?_⟩
  have hd:L.drop i=[]:=List.drop_eq_nil_iff.2 (by omega)
  rw[hd,anQ,alB,←hn]
  unfold lL
  rw[hL,cd (by omega)]
  have hs:xJ c r3:=⟨cf h.1.1 (by decide) (by decide),by omega,fun x hx=>cK (h3 x hx) (by decide) (by decide)⟩
  have o1:decide (okP 4000 c.2.2.2.2.1∧okP 4000 c.2.2.2.2.2)=true:=ak3 ⟨cK h.1.1.2.2.1 (by decide) (by decide),cK h.1.1.2.2.2 (by decide) (by decide)⟩
  have o2:decide (okP 4000 d.2.2.2.2.1∧okP 4000 d.2.2.2.2.2)=true:=ak3 ⟨cK h.2.1.2.2.1 (by decide) (by decide),cK h.2.1.2.2.2 (by decide) (by decide)⟩
  rw[dT hs,o1,o2]
  dsimp only
  unfold yK So bne
  simp only[bL]
  cases c.1<;>cases d.1<;>cases(c.2.2.2.1==d.2.2.2.1)<;>cases(aV (dec c.2.2.2.2.1) (dec c.2.2.2.2.2)==aV (dec d.2.2.2.2.1) (dec d.2.2.2.2.2))<;>rfl
 |succ j ih=>
  intro i hi r3 hr h3
  have hil:i<L.length:=by omega
  have e2:i64.wrap ((i:Int)+1)=((i+1:Nat):Int):=bW (by omega)
  have g2:aR L (i:Int)=some L[i]:=by rw[ao,ak4 hil]
  have g3:L[((i:Int)).toNat]?=some L[i]:=by rw[show((i:Int)).toNat=i by omega,ak4 hil]
  have hx:=ho _ (alE hil)
  have hd:L.drop i=L[i]::L.drop (i+1):=alm hil
  have ox:=cK (k:=3500) hx (by decide) (by decide)
  have o1:decide (okC 3500 c∧okP 3500 L[i])=true:=ak3 ⟨cf h.1.1 (by decide) (by decide),ox⟩
  have o2:decide (okC 3500 d∧okP 3500 L[i])=true:=ak3 ⟨cf h.2.1 (by decide) (by decide),ox⟩
  have hf:(L.drop i).filter (mK c d)=bif mK c d L[i]then L[i]::(L.drop (i+1)).filter (mK c d)else(L.drop (i+1)).filter (mK c d):=by
   rw[hd,amX]
   cases mK c d L[i]<;>rfl
  cases hb:mK c d L[i]
  ·rw[hb]at hf
   obtain⟨n,hn⟩:=ih (i+1) (by omega) r3 (by omega) h3
   refine pu _ _ _ _ ⟨n,?_⟩
   rw[hf]
   dsimp only[cond_false]
   rw[←hn]
   unfold mK at hb
   unfold lL
   rw[hL,bH hil,g2,e2]
   dsimp only
   try rw[g3]
   try dsimp only
   rw[o1,o2]
   cases h1:onR (dC c) (dec L[i])
   ·rfl
   ·rw[h1,amo]at hb
    rw[hb]
  ·rw[hb]at hf
   obtain⟨n,hn⟩:=ih (i+1) (by omega) (r3++[L[i]]) (by simp;omega) (fun x hx'=>by
    rcases alO.1 hx' with h'|h'
    ·exact h3 x h'
    ·have:x=L[i]:=by simpa using h'
     rw[this];exact hx)
   refine pu _ _ _ _ ⟨n,?_⟩
   rw[hf]
   dsimp only[cond_true]
   rw[alu]at hn
   refine Eq.trans ?_ hn
   unfold mK at hb
   obtain⟨h1,h2⟩:=ale.1 hb
   unfold lL
   rw[hL,bH hil,g2,e2]
   dsimp only
   try rw[g3]
   try dsimp only
   rw[o1,o2,h1,h2]
   dsimp only
   rw[dT (by simp;omega)]
def adD:Cn 19 [tCU,tCU]:=cn fun(c d:BCU)=>lf (fA c d) [.d (.sl tP) (tX c d),.d .bool (aiB c d)] fun h=>by
 obtain⟨h4,ho⟩:=If h
 have hsp:gS c d:=⟨h.1.2,h.2.2⟩
 refine c7 Xc (show sD.Res _ _ _ from ?_)
 unfold Dx at h4 ho
 unfold tX aiB tX aaM Dx
 cases hs:cJ (dC c) (dC d)
 ·rw[hs]at h4 ho
  obtain⟨n,hn⟩:=EX c d h _ rfl h4 ho _ 0 (alI _) [] (ak9 _) (fun x hx=>by cases hx)
  refine V7 _ _ ⟨n,?_⟩
  unfold K3
  rw[dT hsp,hs]
  rw[hs]at hn
  exact hn
 ·rw[hs]at h4 ho
  obtain⟨n,hn⟩:=BJ c d h _ rfl h4 ho _ 0 (alI _) [] (ak9 _) (fun x hx=>by cases hx)
  refine V7 _ _ ⟨n,?_⟩
  unfold K3
  rw[dT hsp,hs]
  rw[hs]at hn
  exact hn
def i8P(n:Int):Prop:= -128≤n∧n≤127
instance (n:Int):Decidable (i8P n):=by unfold i8P;infer_instance
def u8P(n:Int):Prop:=0≤n∧n≤255
instance (n:Int):Decidable (u8P n):=by unfold u8P;infer_instance
def atQ(n u:Int):Rat:=Rat.divInt n (u%4+1)
def vz(c:BO3):List BCU:=[(true,o00,c,false,enc (lO (dec c)),enc (l8 (dec c))),(true,o00,c,false,enc (l8 (dec c)),enc (lO (dec c)))]
abbrev tDr:Ty:=.st (.pair (.int .u8) (.pair (.int .u8) (.pair (.int .i8) (.pair (.int .i8) (.pair (.int .i8) (.pair (.int .i8) (.pair (.int .i8) (.int .i8))))))))
abbrev xX:Ty:=.st (.pair tDr (.pair tDr (.int .u8)))
abbrev Dr:=Int×Int×Int×Int×Int×Int×Int×Int
abbrev Pce:=Dr×Dr×Int
def AC(x:Dr):Prop:=u8P x.1∧u8P x.2.1∧i8P x.2.2.1∧i8P x.2.2.2.1∧i8P x.2.2.2.2.1∧i8P x.2.2.2.2.2.1∧i8P x.2.2.2.2.2.2.1∧i8P x.2.2.2.2.2.2.2
instance (x:Dr):Decidable (AC x):=by unfold AC;infer_instance
def drA(x:Dr):Rat×Rat:=(atQ x.2.2.1 x.2.1,atQ x.2.2.2.1 x.2.1)
def drB(x:Dr):Rat×Rat:=(atQ x.2.2.2.2.1 x.2.1,atQ x.2.2.2.2.2.1 x.2.1)
def drC(x:Dr):Rat×Rat:=(atQ x.2.2.2.2.2.2.1 x.2.1,atQ x.2.2.2.2.2.2.2 x.2.1)
def drQ(x:Dr):Ln:=((drA x).1,(drA x).2,(drB x).1)
def ofL(x:Dr):List BCU:=
 bif x.1%3==2 then(bif decide ((drB x).1≤0)then []else vz (enc (drQ x)))
 else bif x.1%3==1 then(bif lS (drA x) (drB x) (drC x) !=0 then []else [ma (drA x) (drB x) (drC x)])
 else bif lV (drA x) (drB x) !=0 then []else [jE (drA x) (drB x)]
theorem HQ{u k:Int}(h:u8P u):Int.tmod u k=u%k:=Int.tmod_eq_emod_of_nonneg h.1
theorem xS{n u:Int}(h:i8P n)(_h':u8P u):Bb (atQ n u) 7 2:=by
 unfold atQ
 obtain⟨h1,h2⟩:=h
 exact SJ (by omega) (by show n.natAbs≤128;omega) (by show(u%4+1).natAbs≤4;omega)
theorem Con.dd{P:Program}{f:Nat}{args:List SV}{et:TypeId}{e:Ty}{xs:List e.D}{r:RV}(h:Con P f args [r])(hr:r=.new et e xs∨r=.d (.sl e) xs):Con P f args [.d (.sl e) xs]:=by
 rcases hr with rfl|rfl
 ·exact Con.new_d h
 ·exact h
def HK:List En:=[enL Gu,enL Zr,enT pg,enL Qt,enL Qu]
def X6(n u:Int)(_k:KT):Option (List RV):=og (decide (yL (i64.wrap n) (i64.wrap ((i64.wrap (Int.tmod u 4))+1)))) (some [RV.d tR (hid (am (Rat.divInt (i64.wrap n) (i64.wrap ((i64.wrap (Int.tmod u 4))+1)))))])
def aek:Cn 53 [(.int .i8),(.int .u8)]:=cn fun(n u:Int)=>lf (i8P n∧u8P u) [.d tR (am (atQ n u))] fun h=>by
 refine aA HK (X6 n u) ⟨0,?_⟩
 obtain⟨hn,hu⟩:=h
 have e0:=HQ (k:=4) hu
 obtain⟨n1,n2⟩:=hn
 unfold X6
 rw[e0,aS (x:=n) (by omega) (by omega),aS (x:=u%4) (by omega) (by omega),aS (x:=u%4+1) (by omega) (by omega),dT (show yL n (u%4+1) from⟨⟨by omega,by omega⟩,⟨by omega,by omega⟩,by omega⟩)]
 simp only[bL]
 rfl
def ahH:Ctx:=CX (ens HK) []
def WH(c:BO3)(_k:KT):Option (List RV):=og (decide (cg c)) (some [RV.new 39 tCU ([(true,((((false,[]),(false,[])),(((false,[]),(false,[])),((false,[]),(false,[])))),(c,(false,(hid (enc (lO (dec c))),hid (enc (l8 (dec c)))))))),(true,((((false,[]),(false,[])),(((false,[]),(false,[])),((false,[]),(false,[])))),(c,(false,(hid (enc (l8 (dec c))),hid (enc (lO (dec c))))))))])])
theorem agc(c:BO3):RS ahH 37 [.d tO c] (WH c):=rsX
def Yu:Cn 37 [tO]:=cn fun(c:BO3)=>lf (cg c) [.d (.sl tCU) (vz c)] fun h=>by
 refine Con.new_d (et:=39) (c7 HK (agc _ ⟨0,?_⟩))
 unfold WH
 rw[dT h]
 simp only[bL]
 rfl
def WO:List En:=enL aek::enL Yu::HK
def YG:Ctx:=CX (ens WO) []
def LY(x:Dr)(_k:KT):Option (List RV):=og (decide (i8P x.2.2.1∧u8P x.2.1)) (og (decide (i8P x.2.2.2.1∧u8P x.2.1)) (og (decide (i8P x.2.2.2.2.1∧u8P x.2.1)) (og (decide (i8P x.2.2.2.2.2.1∧u8P x.2.1)) (match(Int.tmod x.1 3)==2 with|true=>(og (decide (i8P x.2.2.2.2.1∧u8P x.2.1)) (og (o1 (hid (am (atQ x.2.2.2.2.1 x.2.1)))) (match decide ((aC (ah (hid (am (atQ x.2.2.2.2.1 x.2.1)))) 0)≤0)with|true=>some [RV.new 39 tCU []]|false=>(og (decide (cg (hid (am (atQ x.2.2.1 x.2.1)),(hid (am (atQ x.2.2.2.1 x.2.1)),hid (am (atQ x.2.2.2.2.1 x.2.1)))))) (some [RV.d (.sl tCU) (vz (hid (am (atQ x.2.2.1 x.2.1)),(hid (am (atQ x.2.2.2.1 x.2.1)),hid (am (atQ x.2.2.2.2.1 x.2.1)))))])))))|false=>(og (decide (ok (Rat×Rat) 100 (hid (am (atQ x.2.2.1 x.2.1)),hid (am (atQ x.2.2.2.1 x.2.1)))∧ok (Rat×Rat) 100 (hid (am (atQ x.2.2.2.2.1 x.2.1)),hid (am (atQ x.2.2.2.2.2.1 x.2.1))))) (match(Int.tmod x.1 3)==1 with|true=>(og (decide (i8P x.2.2.2.2.2.2.1∧u8P x.2.1)) (og (decide (i8P x.2.2.2.2.2.2.2∧u8P x.2.1)) (og (decide (ok (Rat×Rat) 100 (hid (am (atQ x.2.2.1 x.2.1)),hid (am (atQ x.2.2.2.1 x.2.1)))∧ok (Rat×Rat) 100 (hid (am (atQ x.2.2.2.2.1 x.2.1)),hid (am (atQ x.2.2.2.2.2.1 x.2.1)))∧ok (Rat×Rat) 100 (hid (am (atQ x.2.2.2.2.2.2.1 x.2.1)),hid (am (atQ x.2.2.2.2.2.2.2 x.2.1))))) (match(lS (dec (hid (am (atQ x.2.2.1 x.2.1)),hid (am (atQ x.2.2.2.1 x.2.1)))) (dec (hid (am (atQ x.2.2.2.2.1 x.2.1)),hid (am (atQ x.2.2.2.2.2.1 x.2.1)))) (dec (hid (am (atQ x.2.2.2.2.2.2.1 x.2.1)),hid (am (atQ x.2.2.2.2.2.2.2 x.2.1))))) !=0 with|true=>some [RV.new 39 tCU []]|false=>some [RV.new 39 tCU ([hid (ma (dec (hid (am (atQ x.2.2.1 x.2.1)),hid (am (atQ x.2.2.2.1 x.2.1)))) (dec (hid (am (atQ x.2.2.2.2.1 x.2.1)),hid (am (atQ x.2.2.2.2.2.1 x.2.1)))) (dec (hid (am (atQ x.2.2.2.2.2.2.1 x.2.1)),hid (am (atQ x.2.2.2.2.2.2.2 x.2.1)))))])]))))|false=>(match(lV (dec (hid (am (atQ x.2.2.1 x.2.1)),hid (am (atQ x.2.2.2.1 x.2.1)))) (dec (hid (am (atQ x.2.2.2.2.1 x.2.1)),hid (am (atQ x.2.2.2.2.2.1 x.2.1))))) !=0 with|true=>some [RV.new 39 tCU []]|false=>some [RV.new 39 tCU ([hid (jE (dec (hid (am (atQ x.2.2.1 x.2.1)),hid (am (atQ x.2.2.2.1 x.2.1)))) (dec (hid (am (atQ x.2.2.2.2.1 x.2.1)),hid (am (atQ x.2.2.2.2.2.1 x.2.1)))))])])))))))
theorem aeS(x:Dr):RS YG 18 [.d tDr x] (LY x):=rsX
def af3:Cn 18 [tDr]:=cn fun(x:Dr)=>lf (AC x) [.d (.sl tCU) (ofL x)] fun h=>by
 obtain⟨h1,h2,hA,hB,hC,hD,hE,hF⟩:=h
 have at_bd:∀n,i8P n→Bd (atQ n x.2.1) 1:=fun n hn=>Ea (h:=xS hn h2) (by decide) (by decide)
 have bA:=at_bd _ hA
 have bB:=at_bd _ hB
 have bC:=at_bd _ hC
 have bD:=at_bd _ hD
 have bE:=at_bd _ hE
 have bF:=at_bd _ hF
 have vA:Bd (drA x) 1:=inferInstanceAs (Bd (atQ x.2.2.1 x.2.1,atQ x.2.2.2.1 x.2.1) _)
 have vB:Bd (drB x) 1:=inferInstanceAs (Bd (atQ x.2.2.2.2.1 x.2.1,atQ x.2.2.2.2.2.1 x.2.1) _)
 have vC:Bd (drC x) 1:=inferInstanceAs (Bd (atQ x.2.2.2.2.2.2.1 x.2.1,atQ x.2.2.2.2.2.2.2 x.2.1) _)
 have eA:((am (atQ x.2.2.1 x.2.1),am (atQ x.2.2.2.1 x.2.1)):BV)=enc (drA x):=rfl
 have eB:((am (atQ x.2.2.2.2.1 x.2.1),am (atQ x.2.2.2.2.2.1 x.2.1)):BV)=enc (drB x):=rfl
 have eC:((am (atQ x.2.2.2.2.2.2.1 x.2.1),am (atQ x.2.2.2.2.2.2.2 x.2.1)):BV)=enc (drC x):=rfl
 have eQ:((am (atQ x.2.2.1 x.2.1),am (atQ x.2.2.2.1 x.2.1),am (atQ x.2.2.2.2.1 x.2.1)):BO3)=enc (drQ x):=rfl
 have tm:=HQ (k:=3) h1
 have run:∀r:RV,LY x (YG.k 0)=some [r]→(r=.new 39 tCU (ofL x)∨r=.d (.sl tCU) (ofL x))→Con Tryz.prog 18 [.d tDr x] [.d (.sl tCU) (ofL x)]:=fun r e g=>Con.dd (c7 WO (aeS _ ⟨0,e⟩)) g
 unfold LY at run
 unfold ofL at run ⊢
 simp only[aU,Nat.reduceLeDiff,tm,eQ,eA,eB,eC,dT (show i8P _∧u8P _ from⟨hA,h2⟩),dT (show i8P _∧u8P _ from⟨hB,h2⟩),dT (show i8P _∧u8P _ from⟨hC,h2⟩),dT (show i8P _∧u8P _ from⟨hD,h2⟩),dT (show i8P _∧u8P _ from⟨hE,h2⟩),dT (show i8P _∧u8P _ from⟨hF,h2⟩)]at run
 cases h3:x.1%3==2
 ·simp only[h3,cond_false]at run ⊢
  cases h4:x.1%3==1
  ·simp only[h4,cond_false]at run ⊢
   cases h5:lV (drA x) (drB x) !=0
   ·simp only[h5,cond_false]at run ⊢
    exact run _ rfl (.inl rfl)
   ·simp only[h5,cond_true]at run ⊢
    exact run _ rfl (.inl rfl)
  ·simp only[h4,cond_true]at run ⊢
   cases h5:lS (drA x) (drB x) (drC x) !=0
   ·simp only[h5,cond_false]at run ⊢
    exact run _ rfl (.inl rfl)
   ·simp only[h5,cond_true]at run ⊢
    exact run _ rfl (.inl rfl)
 ·simp only[h3,cond_true]at run ⊢
  have e1:(drB x).1=atQ x.2.2.2.2.1 x.2.1:=rfl
  by_cases h5:(drB x).1≤0
  ·rw[ak3 h5]at run ⊢
   refine run _ ?_ (.inl rfl)
   rw[yf,←e1,ak3 h5]
   rfl
  ·rw[ak5 h5]at run ⊢
   have ok:cg (enc (drQ x)):=hU (h:=⟨bA.mono (by decide),bB.mono (by decide),bC.mono (by decide)⟩) (show 0<(drB x).1 by grind)
   refine run _ ?_ (.inr rfl)
   rw[yf,←e1,ak5 h5]
   simp only[ak3 ok]
   rfl
def vcR(x y:Int):Rat×Rat:=((x:Rat),(y:Rat))
instance afh:Bd (-1:Rat) 3:=cZ (n:= -1) (by decide)
theorem Ah{v:Rat×Rat}{j k:Nat}[h:Bd v j](hj:mx j (mx 1 (mx j (mx 1 1)))≤k)(hk:k≤480000):okP k (enc (atP v)):=ak6 (aN (x:=atP v) hj hk)
section
namespace RE
theorem cmpP_0{p q:Pt}[Rpd p][Rpd q]:aV p q=0↔pR p=pR q:=by
 rw[iZ]
 obtain⟨h1,h2,h3⟩:=iz (pR p) (pR q)
 rcases jQ.tri (pR p) (pR q)with h|h|h
 ·rw[h1 h]
  exact⟨fun e=>absurd e (by decide),fun e=>absurd h (by rw[e];exact jQ.irr _)⟩
 ·exact⟨fun _=>h,fun _=>h2 h⟩
 ·rw[h3 h]
  exact⟨fun e=>absurd e (by decide),fun e=>absurd h (by rw[e];exact jQ.irr _)⟩
theorem oN(v:Rat×Rat):pR (atP v)=(of v.1,of v.2):=amp (agR v) (agL v)
theorem Mr{ax bx c:Rat}(h:fN c=true):of (ax+bx*rtQ c)=v2 ax bx c:=by
 unfold v2
 rw[of_add,aH,OW h]
theorem t5(ax bx ay b_ c:Rat):pR (ob ax bx ay b_ c)=(v2 ax bx c,v2 ay b_ c):=by
 unfold ob
 cases h:fN c
 ·rfl
 ·exact(oN _).trans (amp (Mr h) (Mr h))
theorem abe(a b r:RE):(a+ -1*r-a)*(a+ -1*r-a)+(b+0*r-b)*(b+0*r-b)=r*r:=by grind
theorem SS(a b r:RE):(a+1*r-a)*(a+1*r-a)+(b+0*r-b)*(b+0*r-b)=r*r:=by grind
theorem TR(a r:RE)(h1:a+ -1*r=a+1*r):r≤0:=by grind
theorem VO(a r:RE)(h1:a+ -1*r=a+1*r):0≤r:=by grind
theorem aaA(a r:RE)(h1:a+ -1*r=a+1*r):r=0:=le_antisymm (TR a r h1) (VO a r h1)
theorem ZL{c:Ln}(h:0<c.2.2):fW c (pR (lO c))∧fW c (pR (l8 c)):=by
 have hr:=dw (show 0≤c.2.2 by grind)
 unfold lO l8
 rw[t5,t5]
 exact⟨(abe _ _ _).trans hr,(SS _ _ _).trans hr⟩
theorem TP{c:Ln}(h:0<c.2.2):pR (lO c)≠pR (l8 c):=by
 unfold lO l8
 rw[t5,t5]
 intro e
 have e1:=aaA _ _ (congrArg Prod.fst e)
 have hr:=dw (show 0≤c.2.2 by grind)
 rw[e1,mul_zero]at hr
 have:=wQ hr
 grind
theorem NX{l:Ln}{v:Rat×Rat}(h:l.1*v.1+l.2.1*v.2=l.2.2):(sR l (atP v)==0)=true:=by
 rw[AB,oN]
 exact congrArg of h
theorem Lg{c:Ln}{v:Rat×Rat}(h:(v.1-c.1)*(v.1-c.1)+(v.2-c.2.1)*(v.2-c.2.1)=c.2.2):(ow c (atP v)==0)=true:=by
 rw[sQ,oN]
 unfold fW frm
 dsimp only
 rw[←of_sub,←of_sub]
 exact congrArg of h
theorem Zy{v w:Rat×Rat}(h:v≠w):aV (atP v) (atP w)≠0:=fun e=>h (by
 have:=cmpP_0.1 e
 rw[oN,oN]at this
 exact amp (wQ (congrArg Prod.fst this)) (wQ (congrArg Prod.snd this)))
end RE
open RE
def gdN(c:BCU):Prop:=mG c∧fZ (dC c) (frC (dC c))=true∧fZ (dC c) (toC (dC c))=true∧aV (frC (dC c)) (toC (dC c))≠0
theorem gdN.gd{c:BCU}(h:gdN c):gdC c:=⟨h.1.1,h.2.1,h.2.2.1⟩
theorem BM{a b:Rat×Rat}[ba:Bd a 1][bb:Bd b 1](h:yO a b=false):gdN (jE a b):=by
 have hz:(td a b).1≠0∨(td a b).2.1≠0:=by
  unfold yO at h
  by_cases e:a.2-b.2=0
  ·rw[ak3 e,amo]at h
   exact .inr (alW h)
  ·exact .inl e
 have hne:a≠b:=fun e=>by
  subst e
  unfold td at hz
  rcases hz with h|h<;>exact h (by show _-_=(0:Rat);grind)
 have b1:Bd (td a b).1 12:=(inferInstance:Bd (a.2-b.2) _).mono (by decide)
 have b2:Bd (td a b).2.1 12:=(inferInstance:Bd (b.1-a.1) _).mono (by decide)
 have b3:Bd (td a b).2.2 63:=(inferInstance:Bd ((a.2-b.2)*a.1+(b.1-a.1)*a.2) _).mono (by decide)
 have hl:=mg (h:=⟨b1,b2,b3⟩) hz
 have hL:SO (enc (td a b)):=⟨ak6 (okd (x:=td a b) (by decide) (by decide)),by rw[az];exact hz⟩
 unfold jE
 rw[h]
 refine⟨⟨⟨fun e=>(by cases e),fun _=>hL,Ah (by decide) (by decide),Ah (by decide) (by decide)⟩,fun e=>(by cases e),fun _=>hl⟩,?_⟩
 simp only[dC,fZ,frC,toC,lnC,az,cond_false]
 exact⟨NX (by unfold td;grind),NX (by unfold td;grind),Zy hne⟩
theorem yv{c:Ln}[bc:BdC c](h:0<c.2.2):∀d∈vz (enc c),gdN d:=by
 have hs:=hU h
 have bx:=bc.x
 have b_:=bc.y
 have bq:=bc.q
 have b0:Bd (0:Rat) 3:=cZ (n:=0) (by decide)
 have b1:Bd (1:Rat) 3:=cZ (n:=1) (by decide)
 have hC:vu (enc c):=⟨ak6 (okd (h:=OS (c:=c)) (by decide) (by decide)),by rw[az];exact h⟩
 have q0:(0:Rat)≤c.2.2:=by grind
 have pl:Rpd (lO c):=Ay (fun e=>absurd e.1 (by decide)) q0
 have pr:Rpd (l8 c):=Ay (fun e=>absurd e.1 (by decide)) q0
 have bl:Bd (lO c) 490:=Bx (bx.mono (by decide:4≤4)) (afh.mono (by decide:3≤3)) b_ b0 bq (by decide)
 have br:Bd (l8 c) 490:=Bx (bx.mono (by decide:4≤4)) b1 b_ b0 bq (by decide)
 have ol:okP 500 (enc (lO c)):=ak6 (aN (by decide) (by decide))
 have or_:okP 500 (enc (l8 c)):=ak6 (aN (by decide) (by decide))
 obtain⟨nl,nr_⟩:=ZL h
 have nl:=sQ.2 nl
 have nr_:=sQ.2 nr_
 have ne:=TP h
 intro d hd
 have:d=(true,o00,enc c,false,enc (lO c),enc (l8 c))∨d=(true,o00,enc c,false,enc (l8 c),enc (lO c)):=by
  unfold vz at hd
  rw[az]at hd
  simpa using hd
 rcases this with e|e<;>rw[e]
 ·refine⟨⟨⟨fun _=>hC,fun e=>(by cases e),ol,or_⟩,fun _=>hs,fun e=>(by cases e)⟩,?_⟩
  simp only[dC,fZ,frC,toC,ciC,az,cond_true]
  exact⟨nl,nr_,fun e=>ne (cmpP_0.1 e)⟩
 ·refine⟨⟨⟨fun _=>hC,fun e=>(by cases e),or_,ol⟩,fun _=>hs,fun e=>(by cases e)⟩,?_⟩
  simp only[dC,fZ,frC,toC,ciC,az,cond_true]
  exact⟨nr_,nl,fun e=>ne (cmpP_0.1 e).symm⟩
theorem aa1{a b c:Rat×Rat}(h:fa a b c≠0):(c.1-(qB a b c).1)*(c.1-(qB a b c).1)+(c.2-(qB a b c).2.1)*(c.2-(qB a b c).2.1)=(qB a b c).2.2:=by
 have h2:fa a b c+fa a b c≠0:=by grind
 have eX:xz a b c*(fa a b c+fa a b c)=_:=als h2
 have eY:wW a b c*(fa a b c+fa a b c)=_:=als h2
 unfold qB
 dsimp only
 generalize xz a b c=X at*
 generalize wW a b c=Y at*
 have k:fa a b c*(2*((c.1-a.1)*X+(c.2-a.2)*Y)-((c.1-a.1)*(c.1-a.1)+(c.2-a.2)*(c.2-a.2)))=0:=by
  unfold fa at*
  grind
 rcases ano.1 k with g|g
 ·exact absurd g h
 ·grind
theorem ag0{a b c:Rat×Rat}(h:fa a b c≠0)(e:a=c):False:=by
 subst e
 refine h ?_
 unfold fa
 grind
theorem ac4{a b c:Rat×Rat}[a1:Bb a.1 7 2][a2:Bb a.2 7 2][b1:Bb b.1 7 2][b2:Bb b.2 7 2][c1:Bb c.1 7 2][c2:Bb c.2 7 2]:BdC (qB a b c):=by
 have d:Bb ((b.1-a.1)*(c.2-a.2)-(b.2-a.2)*(c.1-a.1)) _ _:=inferInstance
 have d:Bb (fa a b c) _ _:=d
 have X:Bb ((((b.1-a.1)*(b.1-a.1)+(b.2-a.2)*(b.2-a.2))*(c.2-a.2)-((c.1-a.1)*(c.1-a.1)+(c.2-a.2)*(c.2-a.2))*(b.2-a.2))/(fa a b c+fa a b c)) _ _:=inferInstance
 have X:Bb (xz a b c) _ _:=X
 have Y:Bb ((((c.1-a.1)*(c.1-a.1)+(c.2-a.2)*(c.2-a.2))*(b.1-a.1)-((b.1-a.1)*(b.1-a.1)+(b.2-a.2)*(b.2-a.2))*(c.1-a.1))/(fa a b c+fa a b c)) _ _:=inferInstance
 have Y:Bb (wW a b c) _ _:=Y
 have x1:Bb (a.1+xz a b c) _ _:=inferInstance
 have x2:Bb (a.2+wW a b c) _ _:=inferInstance
 have x3:Bb (xz a b c*xz a b c+wW a b c*wW a b c) _ _:=inferInstance
 exact⟨Ea (h:=x1) (by decide) (by decide),Ea (h:=x2) (by decide) (by decide),Ea (h:=x3) (by decide) (by decide)⟩
theorem yY{x y:Rat}(h:¬(x=0∧y=0)):0<x*x+y*y:=by
 have nn:∀a:Rat,0≤a*a:=fun a=>by
  rcases(by grind:0≤a∨0≤ -a)with h|h
  ·exact alp h h
  ·have:=alp h h;grind
 have h1:=nn x
 have h2:=nn y
 rcases(by grind:0<x*x+y*y∨(x*x=0∧y*y=0))with g|⟨g1,g2⟩
 ·exact g
 ·exact absurd ⟨by simpa using ano.1 g1,by simpa using ano.1 g2⟩ h
theorem F0{a b c:Rat×Rat}[Bd a 1][Bd c 1][bc:BdC (qB a b c)](h:fa a b c≠0):gdN (ma a b c):=by
 have hon:=aa1 h
 have hne:a≠c:=fun e=>ag0 h e
 have hq:0<(qB a b c).2.2:=by
  refine yY fun⟨e1,e2⟩=>hne ?_
  unfold qB at hon
  dsimp only at hon
  rw[e1,e2]at hon
  by_cases g:c.1-(a.1+0)=0∧c.2-(a.2+0)=0
  ·obtain⟨g1,g2⟩:=g
   exact amp (by grind) (by grind)
  ·have:=yY g
   grind
 have hs:=hU (h:=bc) hq
 have bx:=bc.x
 have b_:=bc.y
 have bq:=bc.q
 have hC:vu (enc (qB a b c)):=⟨ak6 (okd (h:=OS (c:=qB a b c)) (by decide) (by decide)),by rw[az];exact hq⟩
 unfold ma
 rw[ak5 h]
 refine⟨⟨⟨fun _=>hC,fun e=>(by cases e),Ah (by decide) (by decide),Ah (by decide) (by decide)⟩,fun _=>hs,fun e=>(by cases e)⟩,?_⟩
 simp only[dC,fZ,frC,toC,ciC,az,cond_true,cond_false]
 refine⟨Lg ?_,Lg hon,Zy hne⟩
 unfold qB
 grind
theorem Dl{x:Dr}(h:AC x):∀c∈ofL x,gdN c:=by
 obtain⟨h1,h2,hA,hB,hC,hD,hE,hF⟩:=h
 have a1:Bb (drA x).1 7 2:=xS hA h2
 have a2:Bb (drA x).2 7 2:=xS hB h2
 have b1:Bb (drB x).1 7 2:=xS hC h2
 have b2:Bb (drB x).2 7 2:=xS hD h2
 have c1:Bb (drC x).1 7 2:=xS hE h2
 have c2:Bb (drC x).2 7 2:=xS hF h2
 have l:∀{q:Rat},Bb q 7 2→Bd q 1:=fun h=>Ea (h:=h) (by decide) (by decide)
 have m:∀v:Rat×Rat,Bb v.1 7 2→Bb v.2 7 2→Bd v 1:=fun v g g'=>by
  have:=l g
  have:=l g'
  exact inferInstanceAs (Bd (v.1,v.2) _)
 have vA:=m _ a1 a2
 have vB:=m _ b1 b2
 have vC:=m _ c1 c2
 intro c hc
 unfold ofL at hc
 cases h3:x.1%3==2
 ·rw[h3,cond_false]at hc
  cases h4:x.1%3==1
  ·rw[h4,cond_false]at hc
   cases h5:yO (drA x) (drB x)
   ·have:lV (drA x) (drB x)=0:=by unfold lV;rw[h5];rfl
    rw[this]at hc
    have:c=jE (drA x) (drB x):=by simpa using hc
    rw[this]
    exact BM h5
   ·have:lV (drA x) (drB x)=6:=by unfold lV;rw[h5];rfl
    rw[this]at hc
    cases hc
  ·rw[h4,cond_true]at hc
   by_cases h5:fa (drA x) (drB x) (drC x)=0
   ·have:lS (drA x) (drB x) (drC x)=6:=by unfold lS;rw[ak3 h5];rfl
    rw[this]at hc
    cases hc
   ·have:lS (drA x) (drB x) (drC x)=0:=by unfold lS;rw[ak5 h5];rfl
    rw[this]at hc
    have:c=ma (drA x) (drB x) (drC x):=by simpa using hc
    rw[this]
    have:=ac4 (a:=drA x) (b:=drB x) (c:=drC x)
    exact F0 h5
 ·rw[h3,cond_true]at hc
  by_cases h5:(drB x).1≤0
  ·rw[ak3 h5]at hc
   cases hc
  ·rw[ak5 h5]at hc
   have bq:BdC (drQ x):=⟨(l a1).mono (by decide),(l a2).mono (by decide),(l b1).mono (by decide)⟩
   exact yv (c:=drQ x) (show 0<(drB x).1 by grind) c hc
end
namespace RE
theorem act{a b:Rt}[ha:Rdd a][hb:Rdd b]:vR (ug a b)=mnE (vR a) (vR b):=by
 unfold ug mnE
 rw[cmpT_re hb.nn ha.nn]
 by_cases h:vR b<vR a
 ·rw[alx h,ak3 (by rw[gh (tD _ _ h)];decide)]
  rfl
 ·rw[alq h,ak5 (by
   intro g
   exact h (abr (by rw[←U7];exact jN (EK.1 g))))]
  rfl
theorem DS(a b:RE):mnE a b=mnE b a:=by
 unfold mnE
 rcases mN a b with h|h|h
 ·rw[alq (fun g=>lt_irrefl _ (cV h g)),alx h]
 ·rw[h]
 ·rw[alx h,alq (fun g=>lt_irrefl _ (cV h g))]
def vE(v:Rat×Rat):PE:=(of v.1,of v.2)
theorem vR_sq{p:Pt}[Rpd p](v:Rat×Rat):vR (sqP p v)=dsE (pR p) (vE v):=GH
theorem Fx{c:Cv}(hf:Rpd (frC c))(ht:Rpd (toC c))(v:Rat×Rat):vR (AA c v)=mnE (dsE (pR (frC c)) (vE v)) (dsE (pR (toC c)) (vE v)):=by
 unfold AA
 rw[act,vR_sq,vR_sq]
theorem xO{c:Cv}[hf:Rpd (frC c)][ht:Rpd (toC c)]{p:Pt}[hp:Rpd p]:rT c p=true↔btE (tE (lnC c) (pR (frC c))) (tE (lnC c) (pR (toC c))) (tE (lnC c) (pR p)):=by
 unfold rT
 rw[rY,rY,rY,rY,rY]
 exact AP _ _ _
theorem Q1(l:Ln)(v:Rat×Rat):exE l (vE v)=of (l.1*v.1+l.2.1*v.2-l.2.2):=by
 rw[of_sub]
 rfl
theorem Dn{l:Ln}(hl:l.1≠0∨l.2.1≠0)(v:Rat×Rat):bI (cS v (d7 l v)) (cS v (d7 l v))=(l.1*v.1+l.2.1*v.2-l.2.2)*(l.1*v.1+l.2.1*v.2-l.2.2)*(1/(l.1*l.1+l.2.1*l.2.1)):=by
 have hn:=jY hl
 have h1:1/(l.1*l.1+l.2.1*l.2.1)*(l.1*l.1+l.2.1*l.2.1)=1:=als hn
 have h2:mh l v=(l.1*v.1+l.2.1*v.2-l.2.2)*(1/(l.1*l.1+l.2.1*l.2.1)):=by
  unfold mh
  rw[anM,anM,Rat.one_mul]
 unfold bI cS d7
 rw[h2]
 generalize 1/(l.1*l.1+l.2.1*l.2.1)=k at*
 generalize l.1*v.1+l.2.1*v.2-l.2.2=e at*
 dsimp only
 grind
theorem Uv{c:Cv}(h:GdE c)(ha:c.1=false)(v:Rat×Rat):Mn (lV (lnC c) (pR (frC c)) (pR (toC c))) (vE v) (vR (lP c v)):=by
 have hf:=h.f
 have ht:=h.t
 obtain⟨hl,oF,oT⟩:=h.l ha
 have hn:0<nrE (lnC c):=B3 hl
 have hb:=xO (c:=c) (p:=atP v)
 have ev:pR (atP v)=vE v:=oN v
 rw[ev]at hb
 unfold lP
 rw[ha,cond_false]
 cases e:rT c (atP v)
 ·rw[cond_false,Fx hf ht]
  rw[e]at hb
  exact Ia hn oF oT (fun g=>by cases hb.2 g)
 ·rw[cond_true]
  have hk:=jY hl
  have h1:1/((lnC c).1*(lnC c).1+(lnC c).2.1*(lnC c).2.1)*((lnC c).1*(lnC c).1+(lnC c).2.1*(lnC c).2.1)=1:=als hk
  have ek:nrE (lnC c)*of (1/((lnC c).1*(lnC c).1+(lnC c).2.1*(lnC c).2.1))=1:=by
   have:nrE (lnC c)=of ((lnC c).1*(lnC c).1+(lnC c).2.1*(lnC c).2.1):=rfl
   rw[this,mul_comm,←aH,h1]
   rfl
  have kp:0<of (1/((lnC c).1*(lnC c).1+(lnC c).2.1*(lnC c).2.1)):=by
   have:=dh (nrE (lnC c)) (of (1/((lnC c).1*(lnC c).1+(lnC c).2.1*(lnC c).2.1)))
   rw[ek,dk zero_lt_one,dk hn,amk]at this
   exact Cc.1 this.symm
  have:=vO hn (hb.1 e) kp ek
  have e2:vR (bI (cS v (d7 (lnC c) v)) (cS v (d7 (lnC c) v)),0,0)=of (bI (cS v (d7 (lnC c) v)) (cS v (d7 (lnC c) v))):=dP _ _
  rw[e2,Dn hl,aH,aH,←Q1]
  exact this
theorem Ub(x y a b v w:RE):(x-v)*(x-v)+(y-w)*(y-w)=(x-a)*(x-a)+(y-b)*(y-b)+((v-a)*(v-a)+(w-b)*(w-b))-(((x-a)*(v-a)+(y-b)*(w-b))+((x-a)*(v-a)+(y-b)*(w-b))):=by grind
theorem TQ(a b c d r:RE):a*(d*r)-b*(c*r)=r*(a*d-b*c):=by grind
theorem S8(a b c d r:RE):c*r*b-d*r*a=r*(c*b-d*a):=by grind
theorem afa(a b r:RE):a*r*a+b*r*b=r*(a*a+b*b):=by grind
theorem aeX(a b:RE):a+b-a=b:=by grind
theorem ND(q s t u:RE)(h1:s≤t):q+u-(t+t)≤q+u-(s+s):=by grind
theorem ai4(r d:RE):r*d*(r*d)=r*r*d*d:=by grind
theorem Eh(c t m:RE)(h1:c*c+t*t=m):t*t≤m:=by have:=gn (c);grind
theorem WB(t s:RE)(h1:t≤0)(h2:0≤s):t≤s:=by grind
theorem ac9(a b r:RE):a*r*(a*r)+b*r*(b*r)=(a*a+b*b)*(r*r):=by grind
theorem Zh(a s:RE):a+ -2*s=a-(s+s):=by grind
theorem rU{c:Ln}{p:PE}(h:fW c p)(v:PE):dsE p v=of c.2.2+dtE (frm c v) (frm c v)-(dtE (frm c p) (frm c v)+dtE (frm c p) (frm c v)):=by
 have h':(p.1-of c.1)*(p.1-of c.1)+(p.2-of c.2.1)*(p.2-of c.2.1)=of c.2.2:=h
 unfold dsE dtE frm
 dsimp only
 rw[Ub _ _ (of c.1) (of c.2.1),h']
theorem AO{c:Ln}{p q:PE}(hp:fW c p)(hq:fW c q){v:PE}(h:dtE (frm c p) (frm c v)≤dtE (frm c q) (frm c v)):dsE q v≤dsE p v:=by
 rw[rU hp,rU hq]
 exact ND _ _ _ _ h
theorem pB(u w:PE):mj u w u=true∧mj u w w=true:=by
 have z:∀x:PE,crs x x=0:=fun x=>by unfold crs;rw[mul_comm,sub_self]
 rcases lt_or_ge (crs u w) 0 with h|h
 ·exact⟨(Pb h).2 (fun g=>by rw[z u]at g;exact lt_irrefl _ g.2),(Pb h).2 (fun g=>by rw[z w]at g;exact lt_irrefl _ g.1)⟩
 ·exact⟨(Nd h).2 ⟨by rw[z u];exact le_refl _,h⟩,(Nd h).2 ⟨h,by rw[z w];exact le_refl _⟩⟩
theorem Ab(u w d:PE){r:RE}(hr:0<r):mj u w (d.1*r,d.2*r)=mj u w d:=by
 have h1:crs u (d.1*r,d.2*r)=r*crs u d:=TQ _ _ _ _ _
 have h2:crs (d.1*r,d.2*r) w=r*crs d w:=S8 _ _ _ _ _
 unfold mj
 rw[h1,h2,dh,dh,dk hr,amk,amk]
theorem LR{q:Pt}:pX (rdP q)=pX q∧pY (rdP q)=pY q:=by
 unfold rdP pX pY
 by_cases h1:q.2.1=0
 ·by_cases h2:q.2.2.2.1=0
  ·rw[ak3 h1,ak3 h2]
   dsimp only
   rw[h1,h2,dP,dP,dP,dP]
   exact⟨rfl,rfl⟩
  ·rw[ak5 h2,Bool.and_false]
   exact⟨rfl,rfl⟩
 ·rw[ak5 h1,Bool.false_and]
  exact⟨rfl,rfl⟩
theorem Zc{x y:Rt}(h:vD x y):pR (mkP x y)=(vR x,vR y):=by
 unfold mkP
 refine amp (LR.1.trans ?_) (LR.2.trans ?_)
 ·unfold pX vR
  dsimp only
  by_cases e:x.2.1=0
  ·rw[e,dP,dP]
  ·rw[ak5 e]
   rfl
 ·unfold pY vR
  dsimp only
  by_cases e:x.2.1=0
  ·rw[ak3 e]
   rfl
  ·rw[ak5 e]
   rcases h with h|h|h
   ·exact absurd h e
   ·rw[h,dP,dP]
   ·rw[cond_false,h]
theorem B0(c:Ln)(d:Rat×Rat):frm c (pR (sf c d))=(of d.1*rq (c.2.2/bI d d),of d.2*rq (c.2.2/bI d d)):=by
 unfold sf
 rw[Zc (qq _ _ _ _ _),vR_mk,vR_mk]
 unfold frm v2
 exact amp (aeX _ _) (aeX _ _)
theorem Hl(c:Ln)(v:Rat×Rat):frm c (vE v)=vE (cS (ctr c) v):=by
 unfold frm vE cS ctr
 dsimp only
 rw[of_sub,of_sub]
theorem KW(d:Rat×Rat):dtE (vE d) (vE d)=of (bI d d):=rfl
theorem IM{m:Rat}(h:0<m):0<rq m:=by
 have:=NZ (m:=m) (by grind)
 rw[dp h]at this
 exact Cc.1 this
theorem pE(c:Cv):(ccF c=frC c∧ccT c=toC c)∨(ccF c=toC c∧ccT c=frC c):=by
 unfold ccF ccT
 cases cwC c
 ·exact .inl ⟨rfl,rfl⟩
 ·exact .inr ⟨rfl,rfl⟩
theorem abj{c:Cv}(hq:0<(ciC c).2.2){v:Rat×Rat}(hz:zeV (aW c v)=false)(on:fW (ciC c) (pR (sf (ciC c) (aW c v)))):dsE (pR (sf (ciC c) (aW c v))) (vE v)=of (bI (aW c v) (aW c v)+(ciC c).2.2)-(rq (bI (aW c v) (aW c v)*(ciC c).2.2)+rq (bI (aW c v) (aW c v)*(ciC c).2.2)):=by
 have hq0:(0:Rat)≤(ciC c).2.2:=by grind
 have d0:=lX (aW c v)
 have m0:0≤bI (aW c v) (aW c v)*(ciC c).2.2:=alp d0 hq0
 have hs:=dw m0
 have hs0:=gj (bI (aW c v) (aW c v)*(ciC c).2.2)
 have hD:frm (ciC c) (vE v)=vE (aW c v):=Hl _ _
 have n0:=FZ hq0 d0
 have rr:=dw n0
 have r0:=gj ((ciC c).2.2/bI (aW c v) (aW c v))
 have hdt:dtE (frm (ciC c) (pR (sf (ciC c) (aW c v)))) (frm (ciC c) (vE v))=rq (bI (aW c v) (aW c v)*(ciC c).2.2):=by
  rw[hD,B0]
  have e1:dtE (of (aW c v).1*rq ((ciC c).2.2/bI (aW c v) (aW c v)),of (aW c v).2*rq ((ciC c).2.2/bI (aW c v) (aW c v))) (vE (aW c v))=rq ((ciC c).2.2/bI (aW c v) (aW c v))*of (bI (aW c v) (aW c v)):=afa _ _ _
  rw[e1]
  refine C0 _ _ (a9 r0 (gi.2 d0)) hs0 ?_
  rw[hs,ai4,rr,←aH,←aH,als (xZ hz),amq]
 rw[rU on,hdt,hD,KW,of_add,add_comm (of (bI _ _))]
theorem Z1{c:Cv}{v:Rat×Rat}(hz:zeV (aW c v)=true){p:PE}(on:fW (ciC c) p):dsE p (vE v)=of (bI (aW c v) (aW c v)+(ciC c).2.2)-(rq (bI (aW c v) (aW c v)*(ciC c).2.2)+rq (bI (aW c v) (aW c v)*(ciC c).2.2)):=by
 have hD:frm (ciC c) (vE v)=vE (aW c v):=Hl _ _
 have z0:(aW c v).1=0∧(aW c v).2=0:=by
  unfold zeV at hz
  obtain⟨a,b⟩:=ale.1 hz
  exact⟨ak6 a,ak6 b⟩
 have dz:bI (aW c v) (aW c v)=0:=by
  unfold bI
  rw[z0.1,z0.2]
  decide+kernel
 have hdt:dtE (frm (ciC c) p) (frm (ciC c) (vE v))=0:=by
  rw[hD]
  unfold dtE vE
  dsimp only
  rw[z0.1,z0.2]
  show _*0+_*0=(0:RE)
  rw[mul_zero,mul_zero,add_zero]
 rw[rU on,hdt,hD,KW,dz,Rat.zero_mul,IZ,Rat.zero_add]
 show _+(0:RE)-_=_
 rw[add_zero]
theorem Io{c:Cv}(h:GdE c)(ha:c.1=true){v:Rat×Rat}(hz:zeV (aW c v)=false):fW (ciC c) (pR (sf (ciC c) (aW c v)))∧d9 c (aW c v)=mj (frm (ciC c) (pR (ccF c))) (frm (ciC c) (pR (ccT c))) (vE (aW c v)):=by
 have hq:=(h.q ha).1
 have hq0:(0:Rat)≤(ciC c).2.2:=by grind
 have hC:Cir (ciC c):=⟨hq⟩
 have d0:=lX (aW c v)
 have n0:0<(ciC c).2.2/bI (aW c v) (aW c v):=by
  have h1:(ciC c).2.2/bI (aW c v) (aW c v)*bI (aW c v) (aW c v)=(ciC c).2.2:=als (xZ hz)
  have h2:=FZ hq0 d0
  rcases(by grind:(ciC c).2.2/bI (aW c v) (aW c v)=0∨0<(ciC c).2.2/bI (aW c v) (aW c v))with h3|h3
  ·rw[h3]at h1;grind
  ·exact h3
 have hr:=IM n0
 have rr:=dw (show 0≤(ciC c).2.2/bI (aW c v) (aW c v) by grind)
 have onray:fW (ciC c) (pR (sf (ciC c) (aW c v))):=by
  show(frm _ _).1*(frm _ _).1+(frm _ _).2*(frm _ _).2=_
  rw[B0]
  have:of (aW c v).1*rq ((ciC c).2.2/bI (aW c v) (aW c v))*(of (aW c v).1*rq ((ciC c).2.2/bI (aW c v) (aW c v)))+of (aW c v).2*rq ((ciC c).2.2/bI (aW c v) (aW c v))*(of (aW c v).2*rq ((ciC c).2.2/bI (aW c v) (aW c v)))=of (bI (aW c v) (aW c v))*(rq ((ciC c).2.2/bI (aW c v) (aW c v))*rq ((ciC c).2.2/bI (aW c v) (aW c v))):=ac9 _ _ _
  rw[this,rr,←aH,amq,als (xZ hz)]
 refine⟨onray,?_⟩
 have e1:d9 c (aW c v)=onP c (sf (ciC c) (aW c v)):=by
  unfold d9
  rw[ha,hz]
  rfl
 rw[e1,←Ab _ _ (vE (aW c v)) hr,am7,Jg h]
 unfold onE lS
 rw[alx ha,B0]
 exact and_iff_right onray
theorem VI{c:Cv}(h:GdE c)(ha:c.1=true)(v:Rat×Rat):Mn (lS (ciC c) (pR (ccF c)) (pR (ccT c))) (vE v) (vR (lP c v)):=by
 have hf:=h.f
 have ht:=h.t
 obtain⟨hq,oF,oT⟩:=h.q ha
 have oF:fW (ciC c) (pR (frC c)):=oF
 have oT:fW (ciC c) (pR (toC c)):=oT
 have hq0:(0:Rat)≤(ciC c).2.2:=by grind
 have oU:fW (ciC c) (pR (ccF c)):=by rcases pE c with⟨e,_⟩|⟨e,_⟩<;>rw[e]<;>assumption
 have oW:fW (ciC c) (pR (ccT c)):=by rcases pE c with⟨_,e⟩|⟨_,e⟩<;>rw[e]<;>assumption
 have hne:frm (ciC c) (pR (ccF c))≠frm (ciC c) (pR (ccT c)):=fun e=>by
  have e1:pR (ccF c)=pR (ccT c):=amp (gI _ _ _ (congrArg Prod.fst e)) (gI _ _ _ (congrArg Prod.snd e))
  rcases pE c with⟨g1,g2⟩|⟨g1,g2⟩<;>rw[g1,g2]at e1
  ·exact h.ne e1
  ·exact h.ne e1.symm
 have sU:lS (ciC c) (pR (ccF c)) (pR (ccT c)) (pR (ccF c)):=⟨oU,(pB _ _).1⟩
 have sW:lS (ciC c) (pR (ccF c)) (pR (ccT c)) (pR (ccT c)):=⟨oW,(pB _ _).2⟩
 have hD:frm (ciC c) (vE v)=vE (aW c v):=Hl _ _
 have hDD:dtE (frm (ciC c) (vE v)) (frm (ciC c) (vE v))=of (bI (aW c v) (aW c v)):=by rw[hD,KW]
 have hgen:onE c=lS (ciC c) (pR (ccF c)) (pR (ccT c)):=by funext p;unfold onE;rw[alx ha]
 have hC:Cir (ciC c):=⟨hq⟩
 have d0:=lX (aW c v)
 have m0:0≤bI (aW c v) (aW c v)*(ciC c).2.2:=alp d0 hq0
 have hs:=dw m0
 have hs0:=gj (bI (aW c v) (aW c v)*(ciC c).2.2)
 unfold lP
 rw[ha,cond_true]
 cases e:d9 c (aW c v)
 ·rw[cond_false,Fx hf ht]
  have hz:zeV (aW c v)=false:=by
   cases g:zeV (aW c v)
   ·rfl
   ·unfold d9 at e
    rw[g,ha]at e
    cases e
  have hd:¬mj (frm (ciC c) (pR (ccF c))) (frm (ciC c) (pR (ccT c))) (vE (aW c v))=true:=fun g=>by
   rw[←(Io h ha hz).2,e]at g
   cases g
  have res:=Aj (v:=vE v) sU sW (fun p hp=>by
   have:=HG (u:=frm (ciC c) (pR (ccF c))) (w:=frm (ciC c) (pR (ccT c))) (z:=frm (ciC c) p) (d:=vE (aW c v)) oU oW hp.1 hne hp.2 hd
   rw[←hD]at this
   exact this.imp (AO hp.1 oU) (AO hp.1 oW))
  rcases pE c with⟨g1,g2⟩|⟨g1,g2⟩
  ·rw[g1,g2]at res ⊢
   exact res
  ·rw[g1,g2]at res ⊢
   rw[DS]
   exact res
 ·rw[cond_true,vR_mk]
  unfold v2
  have two:of (-2)= -2:=rfl
  rw[two,Zh]
  have low:∀p,lS (ciC c) (pR (ccF c)) (pR (ccT c)) p→of (bI (aW c v) (aW c v)+(ciC c).2.2)-(rq (bI (aW c v) (aW c v)*(ciC c).2.2)+rq (bI (aW c v) (aW c v)*(ciC c).2.2))≤dsE p (vE v):=fun p hp=>by
   have h1:=Fd (frm (ciC c) p).1 (frm (ciC c) p).2 (frm (ciC c) (vE v)).1 (frm (ciC c) (vE v)).2
   have h2:(frm (ciC c) p).1*(frm (ciC c) p).1+(frm (ciC c) p).2*(frm (ciC c) p).2=of (ciC c).2.2:=hp.1
   have h3:(frm (ciC c) (vE v)).1*(frm (ciC c) (vE v)).1+(frm (ciC c) (vE v)).2*(frm (ciC c) (vE v)).2=of (bI (aW c v) (aW c v)):=hDD
   rw[h2,h3,←aH,amq,←hs]at h1
   have h4:=Eh _ _ _ h1
   have h5:dtE (frm (ciC c) p) (frm (ciC c) (vE v))≤rq (bI (aW c v) (aW c v)*(ciC c).2.2):=by
    rcases lt_or_ge 0 (dtE (frm (ciC c) p) (frm (ciC c) (vE v)))with g|g
    ·exact zp _ _ (le_of_lt g) hs0 h4
    ·exact WB _ _ g hs0
   rw[rU hp.1,hDD,of_add,add_comm (of (bI _ _))]
   exact ND _ _ _ _ h5
  refine⟨?_,low⟩
  cases hz:zeV (aW c v)
  ·-- the point in this direction
   have hon:onE c (pR (sf (ciC c) (aW c v))):=by
    unfold d9 at e
    rw[ha,hz]at e
    exact(Jg h).1 e
   rw[hgen]at hon
   exact⟨_,hon,abj hq hz hon.1⟩
  ·exact⟨_,sU,Z1 hz oU⟩
theorem LZ{c:Cv}(h:GdE c)(v:Rat×Rat):Mn (onE c) (vE v) (vR (lP c v)):=by
 cases ha:c.1
 ·have:onE c=lV (lnC c) (pR (frC c)) (pR (toC c)):=by
   funext p
   unfold onE
   rw[alq (by rw[ha];decide)]
  rw[this]
  exact Uv h ha v
 ·have:onE c=lS (ciC c) (pR (ccF c)) (pR (ccT c)):=by
   funext p
   unfold onE
   rw[alx ha]
  rw[this]
  exact VI h ha v
end RE
section
def rcX(p:Pt)(v:Rat×Rat):Rat×Rat:=(p.1-v.1,p.2.1)
def rcY(p:Pt)(v:Rat×Rat):Rat×Rat:=(p.2.2.1-v.2,p.2.2.2.1)
def prQ(q:Qd)(x y:Rat×Rat)(s:Rat):Qd:=(q.1+s*(x.1*y.1),q.2.1+s*(x.2*y.1),q.2.2.1+s*(x.1*y.2),q.2.2.2.1+s*(x.2*y.2),q.2.2.2.2.1,q.2.2.2.2.2)
def noQ(p q:Pt):Qd:=(0,0,0,0,p.2.2.2.2,q.2.2.2.2)
def crQ(v:Rat×Rat)(p q:Pt):Qd:=prQ (prQ (noQ p q) (rcX p v) (rcY q v) 1) (rcY p v) (rcX q v) (-1)
def doQ(v:Rat×Rat)(p q:Pt):Qd:=prQ (prQ (noQ p q) (rcX p v) (rcX q v) (-2)) (rcY p v) (rcY q v) (-2)
def z2:Rat×Rat:=(0,0)
def apQ(p q:Pt)(r:Rat):Qd:=((doQ z2 p q).1+(sqA p z2+sqA q z2)-r*r,(doQ z2 p q).2.1+sqB p z2,(doQ z2 p q).2.2.1+sqB q z2,(doQ z2 p q).2.2.2.1,p.2.2.2.2,q.2.2.2.2)
section
variable {p:Pt} {v:Rat×Rat} {j k:Nat}
instance (priority:=2000) bd_sqA' [h:Bd p j] [h':Bd v k]:Bd (sqA p v) (10*(j+k+1)):=by
 have a1:Bd (p.1-v.1) _:=inferInstance
 have a2:Bd (p.2.2.1-v.2) _:=inferInstance
 have a3:Bd (p.2.1*p.2.1+p.2.2.2.1*p.2.2.2.1) _:=inferInstance
 have i:Bd ((p.1-v.1)*(p.1-v.1)+(p.2.2.1-v.2)*(p.2.2.1-v.2)+(p.2.1*p.2.1+p.2.2.2.1*p.2.2.2.1)*p.2.2.2.2) _:=inferInstance
 exact i.mono (by omega)
instance (priority:=2000) bd_sqB' [h:Bd p j] [h':Bd v k]:Bd (sqB p v) (10*(j+k+1)):=by
 have a1:Bd (p.1-v.1) _:=inferInstance
 have a2:Bd (p.2.2.1-v.2) _:=inferInstance
 have i:Bd ((p.1-v.1)*p.2.1+(p.2.2.1-v.2)*p.2.2.2.1+((p.1-v.1)*p.2.1+(p.2.2.1-v.2)*p.2.2.2.1)) _:=inferInstance
 exact i.mono (by omega)
instance (priority:=2000) bd_sqP' [h:Bd p j] [h':Bd v k]:Bd (sqP p v) (10*(j+k+1)):=by
 have a:Bd (sqA p v) (10*(j+k+1)):=bd_sqA'
 have b:Bd (sqB p v) (10*(j+k+1)):=bd_sqB'
 have i:Bd (coR (sqA p v) (sqB p v) p.2.2.2.2) (mx (10*(j+k+1)) (mx (10*(j+k+1)) j)):=inferInstance
 exact i.mono (fq (by omega) (fq (by omega) (by omega)))
end
namespace RE
theorem Td(A B C D m n s a b c d:RE):A+s*(a*c)+(B+s*(b*c))*m+(C+s*(a*d))*n+(D+s*(b*d))*(m*n)=A+B*m+C*n+D*(m*n)+s*((a+b*m)*(c+d*n)):=by grind
theorem Sj(A B C D m n a b c d r:RE):A+(a+c)-r+(B+b)*m+(C+d)*n+D*(m*n)=A+B*m+C*n+D*(m*n)+(a+b*m)+(c+d*n)-r:=by grind
theorem ag6(x y u w:RE):0+ -2*((x-0)*(u-0))+ -2*((y-0)*(w-0))+((x-0)*(x-0)+(y-0)*(y-0))+((u-0)*(u-0)+(w-0)*(w-0))=(x-u)*(x-u)+(y-w)*(y-w):=by grind
theorem ajk(a b:RE):0+1*a+ -1*b=a-b:=by grind
theorem MV(a v b:RE):a-v+b=a+b-v:=by grind
theorem Ps(u t:RE):u*u-t*t=(u-t)*(u+t):=by grind
theorem ahg(Q r t:RE):Q+r*r+(r+r)*t=(t+r)*(t+r)+(Q-t*t):=by grind
theorem acV(Q r t:RE):Q+r*r+ -(r+r)*t=(t-r)*(t-r)+(Q-t*t):=by grind
theorem aak(u t r:RE):u*u+t*t-(u*t+u*t)-r*r=(u-(t+r))*(u-(t-r)):=by grind
theorem afB(u t r:RE)(h1:0<u)(h2:0<t)(h3:0≤r):0<u+(t+r):=by grind
theorem ajq(u t r:RE)(h1:0<u)(h2:r<t):0<u+(t-r):=by grind
theorem ajW(u t r:RE)(h1:0<u-(t+r))(h2:0≤r):0<u-(t-r):=by grind
theorem aj4(u t r:RE)(h1:0<u)(h2:t≤r):0<u-(t-r):=by grind
theorem CN(x y t:RE)(h1:x≤y):x-t≤y-t:=by grind
theorem EF(x y:RE):((y*y-(x*x)))+((x-(y))*(x-(y)))+2*((x-(y))*(y-(0)))=0:=by grind
theorem Oi(x y:RE)(h1:y≤x)(h2:0≤y):y*y≤x*x:=fun hg=>far (aI (aI (aJ hg) (a9 (aD h1) (aD h1))) (iD (by decide+kernel:(0:Rat)<2) (a9 (aD h1) (aD h2)))) (EF x y)
theorem Sz(a b:RE):a*b*(a*b)=a*a*(b*b):=by grind
theorem PR(n e k r:RE):n*(e*k-r)=e*(n*k)-r*n:=by grind
def vq(q:Qd):RE:=vQ q.1 q.2.1 q.2.2.1 q.2.2.2.1 q.2.2.2.2.1 q.2.2.2.2.2
theorem wX{q:Qd}(h:0≤q.2.2.2.2.1)(h':0≤q.2.2.2.2.2):sgQ q=sg (vq q):=sgnQ_re h h'
theorem GY(q:Qd)(x y:Rat×Rat)(s:Rat):vq (prQ q x y s)=vq q+of s*(v2 x.1 x.2 q.2.2.2.2.1*v2 y.1 y.2 q.2.2.2.2.2):=by
 unfold vq vQ prQ v2
 simp only[of_add,aH]
 exact Td _ _ _ _ _ _ _ _ _ _ _
theorem of0:of 0=0:=rfl
theorem Y7(p q:Pt):vq (noQ p q)=0:=by
 unfold vq vQ noQ
 dsimp only
 rw[of0,zero_mul,zero_mul,zero_mul,add_zero,add_zero,add_zero]
def sbE(v:Rat×Rat)(p:PE):PE:=(p.1-of v.1,p.2-of v.2)
theorem Ar(p:Pt)(v:Rat×Rat):v2 (rcX p v).1 (rcX p v).2 p.2.2.2.2=(sbE v (pR p)).1:=by
 unfold rcX sbE pR pX v2
 dsimp only
 rw[of_sub,MV]
theorem BW(p:Pt)(v:Rat×Rat):v2 (rcY p v).1 (rcY p v).2 p.2.2.2.2=(sbE v (pR p)).2:=by
 unfold rcY sbE pR pY v2
 dsimp only
 rw[of_sub,MV]
def turS(v:Rat×Rat)(p q:PE):Int:=sg (crs (sbE v p) (sbE v q))
theorem crQ_re(v:Rat×Rat){p q:Pt}[hp:Rpd p][hq:Rpd q]:sgQ (crQ v p q)=turS v (pR p) (pR q):=by
 rw[wX (q:=crQ v p q) (show 0≤p.2.2.2.2 from hp.nn) (show 0≤q.2.2.2.2 from hq.nn)]
 unfold crQ
 rw[GY,GY,Y7]
 show sg (0+of 1*(v2 (rcX p v).1 (rcX p v).2 p.2.2.2.2*v2 (rcY q v).1 (rcY q v).2 q.2.2.2.2)+of (-1)*(v2 (rcY p v).1 (rcY p v).2 p.2.2.2.2*v2 (rcX q v).1 (rcX q v).2 q.2.2.2.2))=_
 rw[Ar,Ar,BW,BW]
 exact congrArg sg (ajk _ _)
def apaS(p q:PE)(r:Rat):Int:=sg (dsE p q-of (r*r))
theorem apQ_re{p q:Pt}[hp:Rpd p][hq:Rpd q](r:Rat):sgQ (apQ p q r)=apaS (pR p) (pR q) r:=by
 rw[wX (q:=apQ p q r) (show 0≤p.2.2.2.2 from hp.nn) (show 0≤q.2.2.2.2 from hq.nn)]
 have e1:vq (doQ z2 p q)=0+ -2*((pX p-0)*(pX q-0))+ -2*((pY p-0)*(pY q-0)):=by
  unfold doQ
  rw[GY,GY,Y7]
  show 0+of (-2)*(v2 (rcX p z2).1 (rcX p z2).2 p.2.2.2.2*v2 (rcX q z2).1 (rcX q z2).2 q.2.2.2.2)+of (-2)*(v2 (rcY p z2).1 (rcY p z2).2 p.2.2.2.2*v2 (rcY q z2).1 (rcY q z2).2 q.2.2.2.2)=_
  rw[Ar,Ar,BW,BW]
  rfl
 have e2:∀{p:Pt},Rpd p→v2 (sqA p z2) (sqB p z2) p.2.2.2.2=(pX p-0)*(pX p-0)+(pY p-0)*(pY p-0):=fun{p} h=>by
  have:=GH (p:=p) (v:=z2)
  unfold sqP at this
  rw[vR_co]at this
  exact this
 have e3:vq (apQ p q r)=vq (doQ z2 p q)+v2 (sqA p z2) (sqB p z2) p.2.2.2.2+v2 (sqA q z2) (sqB q z2) q.2.2.2.2-of (r*r):=by
  unfold vq vQ apQ v2
  dsimp only
  rw[of_sub,of_add,of_add,of_add,of_add]
  exact Sj _ _ _ _ _ _ _ _ _ _ _
 rw[e3,e1,e2 hp,e2 hq,ag6]
 rfl
def Ky(c:Cv)(p:PE)(r:Rat):Int:=min (apaS (pR (frC c)) p r) (apaS (pR (toC c)) p r)
def rngS(d:RE)(q r:Rat):Int:=bif decide (0≤sg (d-v2 (q+r*r) (r+r) q))then sg (d-v2 (q+r*r) (r+r) q)else bif decide (aC q (r*r)≤0)then-1 else-(sg (d-v2 (q+r*r) (-(r+r)) q))
def witE(c:Cv)(p:PE):Bool:=mj (frm (ciC c) (pR (ccF c))) (frm (ciC c) (pR (ccT c))) (frm (ciC c) p)
open Classical in
def besE(c:Cv)(p:PE):Bool:=decide (btE (tE (lnC c) (pR (frC c))) (tE (lnC c) (pR (toC c))) (tE (lnC c) p))
open Classical in
def poiE(c:Cv)(p:PE)(r:Rat):Int:=
 bif decide (r<0)then 1 else
 bif c.1 then(bif decide (p=vE (ctr (ciC c)))then aC (ciC c).2.2 (r*r)else bif witE c p then rngS (dsE p (vE (ctr (ciC c)))) (ciC c).2.2 r else Ky c p r)
 else bif besE c p then sg (exE (lnC c) p*exE (lnC c) p-of (r*r*((lnC c).1*(lnC c).1+(lnC c).2.1*(lnC c).2.1)))else Ky c p r
theorem IF(c:BCU)(p:PE)(r:Rat):poiE (dC (dX c)) p r=poiE (dC c) p r:=by
 obtain⟨ar,li,ci,cw,fr,to⟩:=c
 have he:Ky (dC (dX (ar,li,ci,cw,fr,to))) p r=Ky (dC (ar,li,ci,cw,fr,to)) p r:=Int.min_comm _ _
 have hb:besE (dC (dX (ar,li,ci,cw,fr,to))) p=besE (dC (ar,li,ci,cw,fr,to)) p:=al6.2 Or.comm
 unfold poiE
 rw[he]
 cases ar
 ·rw[hb];rfl
 ·cases cw<;>rfl
theorem tZ{x y:RE}(h:x≤y):sg x≤sg y:=by
 rcases bg x with⟨a,e⟩|⟨a,e⟩|⟨a,e⟩<;>rcases bg y with⟨b,f⟩|⟨b,f⟩|⟨b,f⟩<;>rw[e,f]<;>try decide
 ·exfalso;rw[b]at h;exact h a
 ·exact absurd (cV b a) h
 ·exfalso;rw[a]at h;exact h b
theorem Nz(a b t:RE):min (sg (a-t)) (sg (b-t))=sg (mnE a b-t):=by
 unfold mnE
 by_cases e:b<a
 ·rw[alx e]
  exact Int.min_eq_right (tZ (CN _ _ _ (le_of_lt e)))
 ·rw[alq e]
  exact Int.min_eq_left (tZ (CN _ _ _ ((lt_or_ge b a).resolve_left e)))
theorem Q8{c:Cv}(hf:Rpd (frC c))(ht:Rpd (toC c))(v:Rat×Rat)(r:Rat):Ky c (vE v) r=sg (vR (AA c v)-of (r*r)):=by
 rw[Fx hf ht]
 exact Nz _ _ _
theorem mR{n:RE}(h:0<n)(x:RE):sg (n*x)=sg x:=by rw[dh,dk h,amk]
theorem Bv{a b:Rat}(ha:0≤a)(hb:0≤b):rq (a*b)=rq a*rq b:=C0 _ _ (gj _) (a9 (gj _) (gj _)) (by rw[dw (alp ha hb),aH,Sz,dw ha,dw hb])
theorem H3{u t:RE}{q r:Rat}(hu:0<u)(hq:0<q)(ht:t=rq q)(hr:0≤r):rngS (u*u) q r=sg (u*u+of q-(u*t+u*t)-of (r*r)):=by
 have hr':0≤of r:=gi.2 hr
 have tt:t*t=of q:=by rw[ht];exact dw (by grind)
 have tp:0<t:=by rw[ht];exact IM hq
 have e1:v2 (q+r*r) (r+r) q=(t+of r)*(t+of r):=by
  unfold v2
  rw[←ht,of_add,aH,of_add,ahg,tt,sub_self,add_zero]
 have e2:v2 (q+r*r) (-(r+r)) q=(t-of r)*(t-of r):=by
  unfold v2
  rw[←ht,of_add,aH,of_neg,of_add,acV,tt,sub_self,add_zero]
 have f1:sg (u*u-v2 (q+r*r) (r+r) q)=sg (u-(t+of r)):=by
  rw[e1,Ps,mul_comm,mR (afB _ _ _ hu tp hr')]
 have f2:of r<t→sg (u*u-v2 (q+r*r) (-(r+r)) q)=sg (u-(t-of r)):=fun g=>by
  rw[e2,Ps,mul_comm,mR (ajq _ _ _ hu g)]
 have fin:sg (u*u+of q-(u*t+u*t)-of (r*r))=sg (u-(t+of r))*sg (u-(t-of r)):=by
  rw[←tt,aH,aak,dh]
 unfold rngS
 rw[f1,fin]
 rcases bg (u-(t+of r))with⟨a,e⟩|⟨a,e⟩|⟨a,e⟩
 ·rw[e,dk (ajW _ _ _ a hr')]
  rfl
 ·rw[e]
  show(0:Int)=0*_
  rw[an1]
 ·rw[e]
  show(bif decide (aC q (r*r)≤0)then-1 else _)=_
  have cq:decide (aC q (r*r)≤0)=decide (q≤r*r):=by
   rw[yf]
  rw[cq]
  by_cases g:q≤r*r
  ·have tr:t≤of r:=zp _ _ (le_of_lt tp) hr' (by rw[tt,←aH];exact gi.2 g)
   rw[ak3 g,dk (aj4 _ _ _ hu tr)]
   rfl
  ·have tr:of r<t:=by
    rcases lt_or_ge (of r) t with k|k
    ·exact k
    ·exfalso
     have:=Oi _ _ k (le_of_lt tp)
     rw[tt,←aH]at this
     exact g (gi.1 this)
   rw[ak5 g,f2 tr]
   show-(sg _)= -1*sg _
   omega
open Classical in
theorem TH{c:Cv}(h:GdE c){v:Rat×Rat}(hd:Rdd (lP c v))(r:Rat):poiE c (vE v) r=rI c v r:=by
 have hf:=h.f
 have ht:=h.t
 unfold poiE rI
 by_cases hr:r<0
 ·rw[ak3 hr];rfl
 ·rw[ak5 hr,cond_false,cond_false,cmpTR_re hd.nn]
  have hr0:0≤r:=by grind
  cases ha:c.1
  ·rw[cond_false]
   have hl:=(h.l ha).1
   have hn:0<nrE (lnC c):=B3 hl
   have hb:besE c (vE v)=rT c (atP v):=by
    have:=xO (c:=c) (p:=atP v)
    rw[oN]at this
    unfold besE
    rw[am7,amb]
    exact this.symm
   unfold lP
   rw[hb,ha,cond_false]
   cases rT c (atP v)
   ·exact Q8 hf ht v r
   ·rw[cond_true,cond_true]
    have h1:1/((lnC c).1*(lnC c).1+(lnC c).2.1*(lnC c).2.1)*((lnC c).1*(lnC c).1+(lnC c).2.1*(lnC c).2.1)=1:=als (jY hl)
    have en:nrE (lnC c)=of ((lnC c).1*(lnC c).1+(lnC c).2.1*(lnC c).2.1):=by
     rw[of_add,aH,aH];rfl
    have ek:nrE (lnC c)*of (1/((lnC c).1*(lnC c).1+(lnC c).2.1*(lnC c).2.1))=1:=by
     rw[en,mul_comm,←aH,h1]
     rfl
    have e2:vR (bI (cS v (d7 (lnC c) v)) (cS v (d7 (lnC c) v)),0,0)=of (bI (cS v (d7 (lnC c) v)) (cS v (d7 (lnC c) v))):=dP _ _
    rw[e2,Dn hl,aH (r*r) ((lnC c).1*(lnC c).1+(lnC c).2.1*(lnC c).2.1),←en,aH _ (1/((lnC c).1*(lnC c).1+(lnC c).2.1*(lnC c).2.1)),aH ((lnC c).1*v.1+(lnC c).2.1*v.2-(lnC c).2.2),←Q1,←mR hn (_-of (r*r)),PR,ek]
    refine congrArg sg ?_
    rw[mul_one]
  ·rw[cond_true]
   have hq:=(h.q ha).1
   have cz:vE v=vE (ctr (ciC c))↔zeV (aW c v)=true:=by
    unfold zeV aW cS vE
    rw[ale,amb,amb]
    constructor
    ·intro e
     have e1:=wQ (congrArg Prod.fst e)
     have e2:=wQ (congrArg Prod.snd e)
     dsimp only
     rw[e1,e2]
     exact⟨by grind,by grind⟩
    ·intro ⟨e1,e2⟩
     dsimp only at e1 e2
     rw[show v.1=(ctr (ciC c)).1 by grind,show v.2=(ctr (ciC c)).2 by grind]
   unfold lP
   rw[ha,cond_true]
   cases hz:zeV (aW c v)
   ·rw[ak5 (fun e=>by rw[cz.1 e]at hz;cases hz),cond_false]
    have hw:witE c (vE v)=d9 c (aW c v):=by
     rw[(Io h ha hz).2]
     show _=mj _ _ (vE (cS (ctr (ciC c)) v))
     rw[←Hl]
     rfl
    rw[hw]
    cases d9 c (aW c v)
    ·exact Q8 hf ht v r
    ·rw[cond_true,cond_true,vR_mk]
     have dps:0<bI (aW c v) (aW c v):=by
      have:=xZ hz
      have:=lX (aW c v)
      grind
     have es:dsE (vE v) (vE (ctr (ciC c)))=of (bI (aW c v) (aW c v)):=by
      unfold dsE vE bI aW cS
      rw[of_add,aH,aH,of_sub,of_sub]
     have su:=dw (show 0≤bI (aW c v) (aW c v) by grind)
     rw[es,←su,H3 (IM dps) hq rfl hr0]
     unfold v2
     have two:of (-2)= -2:=rfl
     rw[two,Zh,of_add,←su,Bv (by grind) (by grind)]
   ·rw[ak3 (cz.2 hz),cond_true]
    have tw:d9 c (aW c v)=true:=by
     unfold d9
     rw[ha,hz]
     rfl
    have dz:bI (aW c v) (aW c v)=0:=by
     unfold zeV at hz
     obtain⟨a,b⟩:=ale.1 hz
     unfold bI
     rw[ak6 a,ak6 b]
     decide+kernel
    rw[tw,cond_true,vR_mk,dz,Rat.zero_mul,Rat.zero_add]
    unfold v2
    rw[IZ,mul_zero,add_zero,←of_sub,sg_of,sM]
end RE
end
end Go.Proofs.YtnkndpoojnflmaaGreat
end
