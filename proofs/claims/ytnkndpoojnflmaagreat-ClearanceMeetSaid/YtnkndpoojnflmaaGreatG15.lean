/- Common points of lines and circles: the reference's contracts. -/
import Derived.Test.YtnkndpoojnflmaaGreatG14
import Derived.Test.YtnkndpoojnflmaaGreatG13
noncomputable section
namespace Go.Proofs.YtnkndpoojnflmaaGreat
open Go.RowKit Go.IntKind
theorem al7:type_of% @decide_eq_true_iff:=@decide_eq_true_iff
theorem amV:type_of% @List.filter_cons:=@List.filter_cons
theorem anK:type_of% @List.filter_nil:=@List.filter_nil
section
theorem Kl(a b:Rat):((am a,am b):BV)=enc ((a,b):Rat×Rat):=nr rfl
theorem LS{q:Rat}(h:¬q<0)(h':¬q=0):0<q:=by grind
theorem rdl{l:Ln}(h:cj l≠0)(hl:l.1≠0∨l.2.1≠0):¬(l.2.1/cj l=0∧ -l.1/cj l=0):=by
 intro ⟨h1,h2⟩
 have m:∀a:Rat,a/cj l=0→a=0:=fun a e=>by
  have:a/cj l*cj l=a:=alk h
  rw[e,Rat.zero_mul]at this
  exact this.symm
 have:=m _ h1
 have:=m _ h2
 rcases hl with h|h<;>grind
section
variable {l c:Ln}
theorem P5(hl:l.1≠0∨l.2.1≠0)(h0:0≤jp l c):Rpd (so l c)∧Rpd (tz l c):=by
 have hn:=nw hl
 refine⟨BW (fun h=>rdl hn hl ⟨by grind,by grind⟩) h0,BW (rdl hn hl) h0⟩
theorem PT [BdL l][BdC c]:Bd (so l c) 490∧Bd (tz l c) 490:=by
 obtain⟨h1,h2,h3,h4⟩:=un (l:=l) (c:=c)
 have h5:Bd (jp l c) 257:=inferInstance
 have n1:Bd (-(l.2.1/cj l)) 61:=inferInstance
 have i1:Bd (cj l) 49:=inferInstanceAs (Bd (l.1*l.1+l.2.1*l.2.1) _)
 have n2:Bd (-l.1/cj l) 61:=(inferInstance:Bd (-l.1/cj l) _)
 have n3:Bd (-(-l.1/cj l)) 61:=inferInstance
 exact⟨By h1 n1 h2 n3 h5 (by decide),By h1 h3 h2 n2 h5 (by decide)⟩
end
theorem xn{c d:Ln}[BdC c][BdC d]:BdL (mS c d):=by
 have b2:Bd (2:Rat) 3:=cV (n:=2) (by decide)
 have f1:Bd (qI c) 31:=(inferInstance:Bd (c.1*c.1+c.2.1*c.2.1-c.2.2) _).mono (by decide)
 have f2:Bd (qI d) 31:=(inferInstance:Bd (d.1*d.1+d.2.1*d.2.1-d.2.2) _).mono (by decide)
 have g1:Bd (2*(d.1-c.1)) _:=inferInstance
 have g2:Bd (2*(d.2.1-c.2.1)) _:=inferInstance
 have g3:Bd (qI d-qI c) _:=inferInstance
 exact⟨g1.mono (by decide),g2.mono (by decide),g3.mono (by decide)⟩
theorem rK{c d:Ln}(h:gQ c d=false):(mS c d).1≠0∨(mS c d).2.1≠0:=by
 unfold gQ at h
 unfold mS
 dsimp only
 by_cases h1:c.1=d.1
 ·rw[akY h1,amk]at h
  have:=alQ h
  right;grind
 ·left;grind
theorem Qk{c d:Ln}[BdC c][BdC d](h:gQ c d=false):cL (enc (mS c d)):=l8 (h:=xn) (rK h)
def vp:List En:=[enT oB,enL nF,enL rn,enL uZ,enL re,enT uC,enL uW,enL F0,enL Ot,enL Fu,enT xR,enL Fa]
def ags:Cn 273 [tR,tR]:=cn fun(a b:BR)=>lf (okR a∧okR b) [.d tR (am (ah a+ah b))] fun h=>jP [RV.d tR (hAd a b)] (dA vp) h
def aem:Cn 255 [tR,tR]:=cn fun(a b:BR)=>lf (okR a∧okR b) [.d tR (am (ah a-ah b))] fun h=>jP [RV.d tR (hSu a b)] (dA vp) h
def ah0:Cn 256 [tR,tR]:=cn fun(a b:BR)=>lf (okR a∧okR b) [.d tR (am (ah a*ah b))] fun h=>jP [RV.d tR (hMu a b)] (dA vp) h
def afZ:Cn 181 [tR]:=cn fun(a:BR)=>lf (okR a) [.d tR (am (-ah a))] fun h=>jP [RV.d tR (hNe a)] (dA vp) h
def agS:Cn 253 [tR,tR]:=cn fun(a b:BR)=>lf (ir a b) [.d tR (am (ah a/ah b))] fun h=>jP [RV.d tR (hDi a b)] (dA vp) h
def NR(l m:BO3)(_k:KT):Option (List RV):=og (o2 l.1 m.2.1) (og (o2 l.2.1 m.1) (og (o2 (hMu l.1 m.2.1) (hMu l.2.1 m.1)) (match(aD (ah (hMu l.1 m.2.1)) (ah (hMu l.2.1 m.1)))==0 with|true=>(og (o2 l.1 m.2.2) (og (o2 l.2.2 m.1) (og (o2 (hMu l.1 m.2.2) (hMu l.2.2 m.1)) (match(aD (ah (hMu l.1 m.2.2)) (ah (hMu l.2.2 m.1)))==0 with|true=>(og (o2 l.2.1 m.2.2) (og (o2 l.2.2 m.2.1) (og (o2 (hMu l.2.1 m.2.2) (hMu l.2.2 m.2.1)) (some [RV.d .bool ((aD (ah (hMu l.2.1 m.2.2)) (ah (hMu l.2.2 m.2.1)))==0)]))))|false=>some [RV.d .bool false]))))|false=>some [RV.d .bool false])))
def aam:Cn 146 [tO,tO]:=cn fun(l m:BO3)=>lf (cL l∧cL m) [.d .bool (oh (dec l) (dec m))] fun h=>by
 refine aA vp (NR l m) ⟨0,?_⟩
 obtain⟨hl,hm⟩:=h
 obtain⟨l,rfl,bl,nl⟩:=eG hl
 obtain⟨m,rfl,bm,nm⟩:=eG hm
 unfold NR oh
 simp only[aU,Nat.reduceAdd,Nat.reduceLeDiff,aq]
 cases decide (l.1*m.2.1=l.2.1*m.1)<;>cases decide (l.1*m.2.2=l.2.2*m.1)<;>rfl
def NP(c d:BO3)(_k:KT):Option (List RV):=og (o2 c.1 d.1) (match(aD (ah c.1) (ah d.1))==0 with|true=>(og (o2 c.2.1 d.2.1) (match(aD (ah c.2.1) (ah d.2.1))==0 with|true=>(og (o2 c.2.2 d.2.2) (some [RV.d .bool ((aD (ah c.2.2) (ah d.2.2))==0)]))|false=>some [RV.d .bool false]))|false=>some [RV.d .bool false])
def aaB:Cn 145 [tO,tO]:=cn fun(c d:BO3)=>lf (cf c∧cf d) [.d .bool (oZ (dec c) (dec d))] fun h=>by
 refine aA vp (NP c d) ⟨0,?_⟩
 obtain⟨hc,hd⟩:=h
 obtain⟨c,rfl,bc,nc⟩:=cK hc
 obtain⟨d,rfl,bd,nd⟩:=cK hd
 unfold NP oZ
 simp only[aU,Nat.reduceLeDiff,aq]
 cases decide (c.1=d.1)<;>cases decide (c.2.1=d.2.1)<;>rfl
def Ai:List En:=enL ags::enL aem::enL ah0::enL afZ::enL agS::vp
def ZO(l m:BO3)(_k:KT):Option (List RV):=og (o2 l.1 m.2.1) (og (o2 m.1 l.2.1) (og (o2 (hMu l.1 m.2.1) (hMu m.1 l.2.1)) (some [RV.d tR (hSu (hMu l.1 m.2.1) (hMu m.1 l.2.1))])))
def ahY:Cn 257 [tO,tO]:=cn fun(l m:BO3)=>lf (cL l∧cL m) [.d tR (am (dt (dec l) (dec m)))] fun h=>by
 refine aA Ai (ZO l m) ⟨0,?_⟩
 obtain⟨hl,hm⟩:=h
 obtain⟨l,rfl,bl,nl⟩:=eG hl
 obtain⟨m,rfl,bm,nm⟩:=eG hm
 unfold ZO dt
 simp only[aU,Nat.reduceAdd,Nat.reduceLeDiff]
def Yb(l:BO3)(_k:KT):Option (List RV):=og (o2 l.1 l.1) (og (o2 l.2.1 l.2.1) (og (o2 (hMu l.1 l.1) (hMu l.2.1 l.2.1)) (some [RV.d tR (hAd (hMu l.1 l.1) (hMu l.2.1 l.2.1))])))
def adI:Cn 252 [tO]:=cn fun(l:BO3)=>lf (cL l) [.d tR (am (cj (dec l)))] fun h=>by
 refine aA Ai (Yb l) ⟨0,?_⟩
 have hl:=h
 obtain⟨l,rfl,bl,nl⟩:=eG hl
 unfold Yb cj
 simp only[aU,Nat.reduceAdd,Nat.reduceLeDiff]
def WQ(l:BO3)(x y:BR)(_k:KT):Option (List RV):=og (o2 l.1 x) (og (o2 l.2.1 y) (og (o2 (hMu l.1 x) (hMu l.2.1 y)) (og (o2 (hAd (hMu l.1 x) (hMu l.2.1 y)) l.2.2) (some [RV.d tR (hSu (hAd (hMu l.1 x) (hMu l.2.1 y)) l.2.2)]))))
def age:Cn 254 [tO,tR,tR]:=cn fun(l:BO3) (x y:BR)=>lf (cL l∧ok Rat 4 x∧ok Rat 4 y) [.d tR (am (vlL (dec l) (ah x) (ah y)))] fun h=>by
 refine aA Ai (WQ l x y) ⟨0,?_⟩
 obtain⟨hl,hx,hy⟩:=h
 obtain⟨l,rfl,bl,nl⟩:=eG hl
 obtain⟨x,rfl,bx⟩:=aG hx
 obtain⟨y,rfl,b_y⟩:=aG hy
 unfold WQ vlL
 simp only[aU,Nat.reduceAdd,Nat.reduceLeDiff]
def Xr(c d:BO3)(_k:KT):Option (List RV):=og (o2 c.1 d.1) (match(aD (ah c.1) (ah d.1))==0 with|true=>(og (o2 c.2.1 d.2.1) (some [RV.d .bool ((aD (ah c.2.1) (ah d.2.1))==0)]))|false=>some [RV.d .bool false])
def ad1:Cn 249 [tO,tO]:=cn fun(c d:BO3)=>lf (cf c∧cf d) [.d .bool (gQ (dec c) (dec d))] fun h=>by
 refine aA Ai (Xr c d) ⟨0,?_⟩
 obtain⟨hc,hd⟩:=h
 obtain⟨c,rfl,bc,nc⟩:=cK hc
 obtain⟨d,rfl,bd,nd⟩:=cK hd
 unfold Xr gQ
 simp only[aU,Nat.reduceLeDiff,aq]
 cases decide (c.1=d.1)<;>rfl
def Zy(a b c d e:BR)(_k:KT):Option (List RV):=og (o1 e) (match fD (ah e)with|true=>(og (o2 b (hid (rtB (ah e)))) (og (o2 a (hMu b (hid (rtB (ah e))))) (og (o2 d (hid (rtB (ah e)))) (og (o2 c (hMu d (hid (rtB (ah e))))) (og (decide (ok (Rat×Rat) 100000 (hAd a (hMu b (hid (rtB (ah e)))),hAd c (hMu d (hid (rtB (ah e))))))) (some [RV.d tP (hid (enc (atP (dec (hAd a (hMu b (hid (rtB (ah e)))),hAd c (hMu d (hid (rtB (ah e)))))))))]))))))|false=>some [RV.d tP (a,(b,(c,(d,e))))])
def afS:Cn 180 [tR,tR,tR,tR,tR]:=cn fun(a b c d e:BR)=>lf (ok Rat 1000 a∧ok Rat 1000 b∧ok Rat 1000 c∧ok Rat 1000 d∧ok Rat 1000 e) [.d tP (enc (ow (ah a) (ah b) (ah c) (ah d) (ah e)))] fun h=>by
 refine aA Ai (Zy a b c d e) ⟨0,?_⟩
 obtain⟨ha,hb,hc,hd,he⟩:=h
 obtain⟨a,rfl,ba⟩:=aG ha
 obtain⟨b,rfl,bb⟩:=aG hb
 obtain⟨c,rfl,bc⟩:=aG hc
 obtain⟨d,rfl,bd⟩:=aG hd
 obtain⟨e,rfl,be⟩:=aG he
 unfold Zy ow
 simp only[aU,Nat.reduceLeDiff]
 cases hq:fD e
 ·rfl
 ·rw[NM hq]
  simp only[aU,Nat.reduceAdd,Nat.reduceLeDiff,Kl]
  try rfl
def C4:List En:=enL ahY::enL adI::enL age::enT ad1::enL afS::Ai
def XL(l m:BO3)(_k:KT):Option (List RV):=og (decide (cL l∧cL m)) (og (o2 l.2.2 m.2.1) (og (o2 m.2.2 l.2.1) (og (o2 (hMu l.2.2 m.2.1) (hMu m.2.2 l.2.1)) (og (o2 l.1 m.2.2) (og (o2 m.1 l.2.2) (og (o2 (hMu l.1 m.2.2) (hMu m.1 l.2.2)) (og (o1 (hid (am (dt (dec l) (dec m))))) (match(aD (ah (hid (am (dt (dec l) (dec m))))) 0) !=0 with|true=>(og (decide (ir (hSu (hMu l.2.2 m.2.1) (hMu m.2.2 l.2.1)) (hid (am (dt (dec l) (dec m)))))) (og (decide (ir (hSu (hMu l.1 m.2.2) (hMu m.1 l.2.2)) (hid (am (dt (dec l) (dec m)))))) (og (decide (ok (Rat×Rat) 100000 (hDi (hSu (hMu l.2.2 m.2.1) (hMu m.2.2 l.2.1)) (hid (am (dt (dec l) (dec m)))),hDi (hSu (hMu l.1 m.2.2) (hMu m.1 l.2.2)) (hid (am (dt (dec l) (dec m))))))) (some [RV.d (.sl tP) ([hid (enc (atP (dec (hDi (hSu (hMu l.2.2 m.2.1) (hMu m.2.2 l.2.1)) (hid (am (dt (dec l) (dec m)))),hDi (hSu (hMu l.1 m.2.2) (hMu m.1 l.2.2)) (hid (am (dt (dec l) (dec m))))))))]),RV.d aoi 0]))))|false=>(og (o1 (hSu (hMu l.2.2 m.2.1) (hMu m.2.2 l.2.1))) (match(aD (ah (hSu (hMu l.2.2 m.2.1) (hMu m.2.2 l.2.1))) 0)==0 with|true=>(og (o1 (hSu (hMu l.1 m.2.2) (hMu m.1 l.2.2))) (match(aD (ah (hSu (hMu l.1 m.2.2) (hMu m.1 l.2.2))) 0)==0 with|true=>some [RV.d (.sl tP) ([]),RV.d aoi 10]|false=>some [RV.d (.sl tP) ([]),RV.d aoi 0]))|false=>some [RV.d (.sl tP) ([]),RV.d aoi 0]))))))))))
def Y3:Cn 149 [tO,tO]:=cn fun(l m:BO3)=>lf (cL l∧cL m) [.d (.sl tP) ((lc (dec l) (dec m)).map enc),.d aoi (Qv (dec l) (dec m))] fun h=>by
 refine aA C4 (XL l m) ⟨0,?_⟩
 obtain⟨hl,hm⟩:=h
 obtain⟨l,rfl,bl,nl⟩:=eG hl
 obtain⟨m,rfl,bm,nm⟩:=eG hm
 have ol:=akY (l8 (l:=l) nl)
 have om:=akY (l8 (l:=m) nm)
 have bc:Bd (dt l m) 49:=inferInstanceAs (Bd (l.1*m.2.1-m.1*l.2.1) _)
 have e1:l.2.2*m.2.1-m.2.2*l.2.1=ld l m:=rfl
 have e2:l.1*m.2.2-m.1*l.2.2=k9 l m:=rfl
 unfold XL lc Qv
 simp only[aU,Nat.reduceAdd,Nat.reduceLeDiff,aq,aZ,ol,om]
 by_cases h0:dt l m=0
 ·simp only[akY h0,e1,e2,Bool.not_true]
  cases decide (ld l m=0)<;>cases decide (k9 l m=0)<;>rfl
 ·simp only[aU,Nat.reduceAdd,Nat.reduceLeDiff,h0,ne_eq,amv,Bool.not_false,Kl]
  rfl
def Yg(l c:BO3)(_k:KT):Option (List RV):=og (decide (cL l∧ok Rat 4 c.1∧ok Rat 4 c.2.1)) (og (decide (cL l)) (og (o2 (hid (am (cj (dec l)))) c.2.2) (og (o2 (hid (am (vlL (dec l) (ah c.1) (ah c.2.1)))) (hid (am (vlL (dec l) (ah c.1) (ah c.2.1))))) (og (o2 (hMu (hid (am (cj (dec l)))) c.2.2) (hMu (hid (am (vlL (dec l) (ah c.1) (ah c.2.1)))) (hid (am (vlL (dec l) (ah c.1) (ah c.2.1)))))) (some [RV.d tR (hSu (hMu (hid (am (cj (dec l)))) c.2.2) (hMu (hid (am (vlL (dec l) (ah c.1) (ah c.2.1)))) (hid (am (vlL (dec l) (ah c.1) (ah c.2.1))))))])))))
def aeM:Cn 251 [tO,tO]:=cn fun(l c:BO3)=>lf (cL l∧cf c) [.d tR (am (jp (dec l) (dec c)))] fun h=>by
 refine aA C4 (Yg l c) ⟨0,?_⟩
 obtain⟨hl,hc⟩:=h
 obtain⟨l,rfl,bl,nl⟩:=eG hl
 obtain⟨c,rfl,bc,nc⟩:=cK hc
 have ol:=akY (l8 (l:=l) nl)
 have bv:Bd (vlL l c.1 c.2.1) 97:=inferInstanceAs (Bd (l.1*c.1+l.2.1*c.2.1-l.2.2) _)
 have bn:Bd (cj l) 49:=inferInstanceAs (Bd (l.1*l.1+l.2.1*l.2.1) _)
 unfold Yg jp
 simp only[aU,Nat.reduceAdd,Nat.reduceLeDiff,ol]
def ZI(c d:BO3)(_k:KT):Option (List RV):=og (decide (cf c∧cf d)) (match gQ (dec c) (dec d)with|true=>some [RV.d tO (((false,[]),(false,[])),(((false,[]),(false,[])),((false,[]),(false,[])))),RV.d aoi 6]|false=>(og (decide (aH (2:Int))) (og (o2 c.1 c.1) (og (o2 c.2.1 c.2.1) (og (o2 (hMu c.1 c.1) (hMu c.2.1 c.2.1)) (og (o2 (hAd (hMu c.1 c.1) (hMu c.2.1 c.2.1)) c.2.2) (og (o2 d.1 d.1) (og (o2 d.2.1 d.2.1) (og (o2 (hMu d.1 d.1) (hMu d.2.1 d.2.1)) (og (o2 (hAd (hMu d.1 d.1) (hMu d.2.1 d.2.1)) d.2.2) (og (o2 d.1 c.1) (og (o2 (hid (am ((2:Int):Rat))) (hSu d.1 c.1)) (og (o2 d.2.1 c.2.1) (og (o2 (hid (am ((2:Int):Rat))) (hSu d.2.1 c.2.1)) (og (o2 (hSu (hAd (hMu d.1 d.1) (hMu d.2.1 d.2.1)) d.2.2) (hSu (hAd (hMu c.1 c.1) (hMu c.2.1 c.2.1)) c.2.2)) (some [RV.d tO (hMu (hid (am ((2:Int):Rat))) (hSu d.1 c.1),(hMu (hid (am ((2:Int):Rat))) (hSu d.2.1 c.2.1),hSu (hSu (hAd (hMu d.1 d.1) (hMu d.2.1 d.2.1)) d.2.2) (hSu (hAd (hMu c.1 c.1) (hMu c.2.1 c.2.1)) c.2.2))),RV.d aoi 0]))))))))))))))))
def ag5:Cn 250 [tO,tO]:=cn fun(c d:BO3)=>lf (cf c∧cf d) [.d tO (vM (dec c) (dec d)),.d aoi (T6 (dec c) (dec d))] fun h=>by
 refine aA C4 (ZI c d) ⟨0,?_⟩
 obtain⟨hc,hd⟩:=h
 obtain⟨c,rfl,bc,nc⟩:=cK hc
 obtain⟨d,rfl,bd,nd⟩:=cK hd
 have oc:=akY (gX (c:=c) nc)
 have od:=akY (gX (c:=d) nd)
 have i2:decide (aH 2)=true:=by decide
 have b2:Bd ((2:Int):Rat) 3:=cV (by decide)
 unfold ZI vM T6
 simp only[aU,Nat.reduceAdd,Nat.reduceLeDiff,oc,od,i2]
 cases gQ c d
 ·rfl
 ·rfl
def WU(c:BO3)(_k:KT):Option (List RV):=og (decide (aH (1:Int))) (og (decide (aH (0:Int))) (og (o1 (hid (am ((1:Int):Rat)))) (og (decide (ok Rat 1000 c.1∧ok Rat 1000 (hNe (hid (am ((1:Int):Rat))))∧ok Rat 1000 c.2.1∧ok Rat 1000 (hid (am ((0:Int):Rat)))∧ok Rat 1000 c.2.2)) (og (decide (ok Rat 1000 c.1∧ok Rat 1000 (hid (am ((1:Int):Rat)))∧ok Rat 1000 c.2.1∧ok Rat 1000 (hid (am ((0:Int):Rat)))∧ok Rat 1000 c.2.2)) (some [RV.d tP (hid (enc (ow (ah c.1) (ah (hNe (hid (am ((1:Int):Rat))))) (ah c.2.1) (ah (hid (am ((0:Int):Rat)))) (ah c.2.2)))),RV.d tP (hid (enc (ow (ah c.1) (ah (hid (am ((1:Int):Rat)))) (ah c.2.1) (ah (hid (am ((0:Int):Rat)))) (ah c.2.2))))])))))
def WC:Cn 81 [tO]:=cn fun(c:BO3)=>lf (cf c) [.d tP (enc (mb (dec c))),.d tP (enc (mf (dec c)))] fun h=>by
 refine aA C4 (WU c) ⟨0,?_⟩
 have hc:=h
 obtain⟨c,rfl,bc,nc⟩:=cK hc
 have b0:Bd ((0:Int):Rat) 3:=cV (by decide)
 have b1:Bd ((1:Int):Rat) 3:=cV (by decide)
 have i0:decide (aH 0)=true:=by decide
 have i1:decide (aH 1)=true:=by decide
 unfold WU mb mf
 simp only[aU,Nat.reduceLeDiff,i0,i1]
 rfl
def Nr:List En:=enL Y3::enL aeM::enL ag5::enL WC::C4
def aeP:Ctx:=CX (ens Nr) []
def WS(l c:BO3)(_k:KT):Option (List RV):=let y1:=hid (am (jp (dec l) (dec c)));let y2:=hid (am (vlL (dec l) (ah c.1) (ah c.2.1)));let y3:=hid (am (cj (dec l)));let y4:=hMu (hDi y2 y3) l.1;let y5:=hMu (hDi y2 y3) l.2.1;let y6:=hDi (hNe l.1) y3;let y7:=hNe (hDi l.2.1 y3);let y8:=ah (hSu c.2.1 y5);let y9:=enc (ow (ah (hSu c.1 y4)) (ah y7) y8 (ah (hNe y6)) (ah y1));let y10:=enc (ow (ah (hSu c.1 y4)) (ah (hDi l.2.1 y3)) y8 (ah y6) (ah y1));og (decide (cL l∧cf c)) (og (decide (cL l)) (og (o1 y1) (match decide ((aD (ah y1) 0)<0)with|true=>some [RV.new 37 tP []]|false=>(og (decide (cL l∧ok Rat 4 c.1∧ok Rat 4 c.2.1)) (og (decide (ir y2 y3)) (og (o2 (hDi y2 y3) l.1) (og (o2 c.1 y4) (og (o2 (hDi y2 y3) l.2.1) (og (o2 c.2.1 y5) (og (o1 y1) (match(aD (ah y1) 0)==0 with|true=>(og (decide (ok (Rat×Rat) 100000 (hSu c.1 y4,hSu c.2.1 y5))) (some [RV.new 37 tP ([hid (enc (atP (dec (hSu c.1 y4,hSu c.2.1 y5))))])]))|false=>(og (decide (ir l.2.1 y3)) (og (o1 l.1) (og (decide (ir (hNe l.1) y3)) (og (o1 (hDi l.2.1 y3)) (og (o1 y6) (og (decide (ok Rat 1000 (hSu c.1 y4)∧ok Rat 1000 y7∧ok Rat 1000 (hSu c.2.1 y5)∧ok Rat 1000 (hNe y6)∧ok Rat 1000 y1)) (og (decide (ok Rat 1000 (hSu c.1 y4)∧ok Rat 1000 (hDi l.2.1 y3)∧ok Rat 1000 (hSu c.2.1 y5)∧ok Rat 1000 y6∧ok Rat 1000 y1)) (og (decide (okP 4000 (hid y9)∧okP 4000 (hid y10))) (match decide ((aV (dec (hid y9)) (dec (hid y10)))>0)with|true=>some [RV.new 37 tP ([hid y10,hid y9])]|false=>some [RV.new 37 tP ([hid y9,hid y10])]))))))))))))))))))))
theorem aiw(l c:BO3):RS aeP 148 [.d tO l,.d tO c] (WS l c):=rsX
def V6:Cn 148 [tO,tO]:=cn fun(l c:BO3)=>lf (cL l∧cf c) [.d (.sl tP) ((rh (dec l) (dec c)).map enc)] fun h=>by
 refine Con.new_d (et:=37) (c8 Nr (aiw _ _ ⟨0,?_⟩))
 obtain⟨hl,hc⟩:=h
 obtain⟨l,rfl,bl,nl⟩:=eG hl
 obtain⟨c,rfl,bc,nc⟩:=cK hc
 have ol:=akY (l8 (l:=l) nl)
 have oc:=akY (gX (c:=c) nc)
 have hn:=nw nl
 have bv:Bd (vlL l c.1 c.2.1) 97:=inferInstanceAs (Bd (l.1*c.1+l.2.1*c.2.1-l.2.2) _)
 have bn:Bd (cj l) 49:=inferInstanceAs (Bd (l.1*l.1+l.2.1*l.2.1) _)
 have e1:c.1-vlL l c.1 c.2.1/cj l*l.1=ftX l c:=rfl
 have e2:c.2.1-vlL l c.1 c.2.1/cj l*l.2.1=ftY l c:=rfl
 obtain⟨f1,f2,_,_⟩:=un (l:=l) (c:=c)
 unfold WS rh
 simp only[aU,Nat.reduceAdd,Nat.reduceLeDiff,aq,au,ol,oc,hn,ne_eq,amv,e1,e2,Kl]
 by_cases h0:jp l c<0
 ·simp only[akY h0]
  rfl
 ·simp only[ak0 h0]
  by_cases h1:jp l c=0
  ·simp only[akY h1]
   rfl
  ·have hp:=LS h0 h1
   obtain⟨p1,p2⟩:=P5 (c:=c) nl (show 0≤jp l c by grind)
   obtain⟨q1,q2⟩:=PT (l:=l) (c:=c)
   have g1:ow (ftX l c) (-(l.2.1/cj l)) (ftY l c) (-(-l.1/cj l)) (jp l c)=so l c:=rfl
   have g2:ow (ftX l c) (l.2.1/cj l) (ftY l c) (-l.1/cj l) (jp l c)=tz l c:=rfl
   simp only[ak0 h1,aU,Nat.reduceLeDiff,aN,g1,g2]
   cases decide (aV (so l c) (tz l c)>0)<;>rfl
def agM:List En:=enL V6::Nr
def Wt(c d:BO3)(_k:KT):Option (List RV):=og (decide (cf c∧cf d)) (match gQ (dec c) (dec d)with|true=>(og (o2 c.2.2 d.2.2) (match(aD (ah c.2.2) (ah d.2.2))==0 with|true=>some [RV.d (.sl tP) ([]),RV.d aoi 10]|false=>some [RV.d (.sl tP) ([]),RV.d aoi 0]))|false=>(og (decide (cf c∧cf d)) (og (decide (cL (hid (vM (dec c) (dec d)))∧cf c)) (some [RV.d (.sl tP) ((rh (dec (hid (vM (dec c) (dec d)))) (dec c)).map enc),RV.d aoi 0]))))
def adU:Cn 147 [tO,tO]:=cn fun(c d:BO3)=>lf (cf c∧cf d) [.d (.sl tP) ((yH (dec c) (dec d)).map enc),.d aoi (U8 (dec c) (dec d))] fun h=>by
 refine aA agM (Wt c d) ⟨0,?_⟩
 obtain⟨hc,hd⟩:=h
 obtain⟨c,rfl,bc,nc⟩:=cK hc
 obtain⟨d,rfl,bd,nd⟩:=cK hd
 have oc:=akY (gX (c:=c) nc)
 have od:=akY (gX (c:=d) nd)
 unfold Wt yH U8
 simp only[aU,Nat.reduceLeDiff,aq,oc,od]
 cases hc:gQ c d
 ·have ol:cL (enc (mS c d)):=Qk hc
  have er:vM c d=enc (mS c d):=by unfold vM;rw[hc];rfl
  simp only[er,dT ol,aU]
  try rfl
 ·cases decide (c.2.2=d.2.2)<;>rfl
end
def mG(c:BCU):Prop:=okC 500 c∧qM c
instance (c:BCU):Decidable (mG c):=by unfold mG;infer_instance
def f0(c d:BCU):Prop:=mG c∧mG d
instance (c d:BCU):Decidable (f0 c d):=by unfold f0;infer_instance
def rB(c d:BCU):List BP:=bif !cB (dC c) (dC d)then(ta (dC c) (dC d)).map enc else [c.2.2.2.2.1,c.2.2.2.2.2,d.2.2.2.2.1,d.2.2.2.2.2]
def JB(c d:BCU):List BP:=(rB c d).filter fun p=>onR (dC c) (dec p)&&onR (dC d) (dec p)
def kZ(c d:BCU):List BP:=gP (dC c) (JB c d)
def Ua(c d:BCU):Bool:=bif c.1&&(d.1&&(c.2.2.2.1 !=d.2.2.2.1))then true else !c.1&&(aV (dec c.2.2.2.2.1) (dec c.2.2.2.2.2) !=aV (dec d.2.2.2.2.1) (dec d.2.2.2.2.2))
def yK(c d:BCU):BCU:=bif Ua c d then t9 d else d
def Cg(c:Cv):List BP→Bool
 |[]=>false
 |x::r=>match r with
  |[]=>false
  |y::_=>decide (cZ c (dec x) (dec y)<0)||Cg c r
def Ew(c d:BCU):Bool:=cB (dC c) (dC d)&&Cg (dC (yK c d)) (kZ c d)
def MS:List En:=[enL adU,enL V6,enL Y3,enT aam,enT aaB,enT HM,enT LB,enK Yl,enL LK,enT xR]
def LV(a b:BCU)(_k:KT):Option (List RV):=match a.1 with|true=>(match b.1 with|true=>(og (decide (cf a.2.2.1∧cf b.2.2.1)) (some [RV.d (.sl tP) ((yH (dec a.2.2.1) (dec b.2.2.1)).map enc),RV.d aoi (U8 (dec a.2.2.1) (dec b.2.2.1))]))|false=>(match a.1 with|true=>(og (decide (cL b.2.1∧cf a.2.2.1)) (some [RV.d (.sl tP) ((rh (dec b.2.1) (dec a.2.2.1)).map enc),RV.d aoi 0]))|false=>(match b.1 with|true=>(og (decide (cL a.2.1∧cf b.2.2.1)) (some [RV.d (.sl tP) ((rh (dec a.2.1) (dec b.2.2.1)).map enc),RV.d aoi 0]))|false=>(og (decide (cL a.2.1∧cL b.2.1)) (some [RV.d (.sl tP) ((lc (dec a.2.1) (dec b.2.1)).map enc),RV.d aoi (Qv (dec a.2.1) (dec b.2.1))])))))|false=>(match a.1 with|true=>(og (decide (cL b.2.1∧cf a.2.2.1)) (some [RV.d (.sl tP) ((rh (dec b.2.1) (dec a.2.2.1)).map enc),RV.d aoi 0]))|false=>(match b.1 with|true=>(og (decide (cL a.2.1∧cf b.2.2.1)) (some [RV.d (.sl tP) ((rh (dec a.2.1) (dec b.2.2.1)).map enc),RV.d aoi 0]))|false=>(og (decide (cL a.2.1∧cL b.2.1)) (some [RV.d (.sl tP) ((lc (dec a.2.1) (dec b.2.1)).map enc),RV.d aoi (Qv (dec a.2.1) (dec b.2.1))]))))
def aca:Cn 57 [tCU,tCU]:=cn fun(a b:BCU)=>lf (gW a b) [.d (.sl tP) ((ta (dC a) (dC b)).map enc),.d aoi (Yh (dC a) (dC b))] fun h=>by
 refine aA MS (LV a b) ⟨0,?_⟩
 obtain⟨⟨a1,a2⟩,b1,b2⟩:=h
 unfold LV ta Yh yH
 obtain⟨aa,al,ac,aw,af,at_⟩:=a
 obtain⟨ba,bl,bc,bw,bf,bt⟩:=b
 cases aa<;>cases ba
 ·have h1:=a2 rfl
  have h2:=b2 rfl
  simp only[dT (show cL al∧cL bl from⟨h1,h2⟩)]
  rfl
 ·have h1:=a2 rfl
  have h2:=b1 rfl
  simp only[dT (show cL al∧cf bc from⟨h1,h2⟩)]
  rfl
 ·have h1:=a1 rfl
  have h2:=b2 rfl
  simp only[dT (show cL bl∧cf ac from⟨h2,h1⟩)]
  rfl
 ·have h1:=a1 rfl
  have h2:=b1 rfl
  simp only[dT (show cf ac∧cf bc from⟨h1,h2⟩)]
  rfl
def XS(a b:BCU)(_k:KT):Option (List RV):=match !(a.1==b.1)with|true=>some [RV.d .bool false]|false=>(match a.1 with|true=>(og (decide (cf a.2.2.1∧cf b.2.2.1)) (some [RV.d .bool (oZ (dec a.2.2.1) (dec b.2.2.1))]))|false=>(og (decide (cL a.2.1∧cL b.2.1)) (some [RV.d .bool (oh (dec a.2.1) (dec b.2.1))])))
def ait:Cn 56 [tCU,tCU]:=cn fun(a b:BCU)=>lf (gW a b) [.d .bool (cB (dC a) (dC b))] fun h=>by
 refine aA MS (XS a b) ⟨0,?_⟩
 obtain⟨⟨a1,a2⟩,b1,b2⟩:=h
 unfold XS cB
 obtain⟨aa,al,ac,aw,af,at_⟩:=a
 obtain⟨ba,bl,bc,bw,bf,bt⟩:=b
 cases aa<;>cases ba
 ·have h1:=a2 rfl
  have h2:=b2 rfl
  simp only[dT (show cL al∧cL bl from⟨h1,h2⟩)]
  rfl
 ·rfl
 ·rfl
 ·have h1:=a1 rfl
  have h2:=b1 rfl
  simp only[dT (show cf ac∧cf bc from⟨h1,h2⟩)]
  rfl
def XR:List En:=enL aca::enT ait::MS
def acN:NT:=[((19,18),{keep:=[2,3,6,7,8,9],own:=[(8,37,tP)],hl:=4}),((19,47),{keep:=[3,6,8,10,11],hl:=2})]
def sD:Ctx:=CX (ens XR) acN
def pT(c d:BCU)(s9:Int)(r3:List BP):Cfg:=⟨19,[.blk 0,.seq 33],[(2,.box 0 0),(3,.box 1 0),(6,SB (cB (dC c) (dC d))),(7,.d (.sl tP) ((ta (dC c) (dC d)).map enc)),(8,.own 3),(9,SI s9)],[.box 39 (Ty.split tCU c),.box 39 (Ty.split tCU d),.row 37 tP ([c.2.2.2.2.1,c.2.2.2.2.2,d.2.2.2.2.1,d.2.2.2.2.2]),.row 37 tP r3],0,[]⟩
def ks(c d:BCU)(s9:Int)(r3:List BP):Cfg:=⟨19,[.blk 0,.seq 33],[(2,.box 0 0),(3,.box 1 0),(6,SB (cB (dC c) (dC d))),(7,.own 2),(8,.own 3),(9,SI s9)],[.box 39 (Ty.split tCU c),.box 39 (Ty.split tCU d),.row 37 tP ([c.2.2.2.2.1,c.2.2.2.2.2,d.2.2.2.2.1,d.2.2.2.2.2]),.row 37 tP r3],0,[]⟩
def cX(c d:BCU)(r3:List BP)(B1:BCU)(s10:Bool)(s11:Int):Cfg:=⟨19,[.blk 2,.seq 58],[(3,.box 1 0),(6,SB (cB (dC c) (dC d))),(8,.d (.sl tP) (gP (dC c) r3)),(10,SB s10),(11,SI s11)],[.box 39 (Ty.split tCU c),.box 39 (Ty.split tCU B1)],0,[]⟩
def Ll(c d:BCU)(k:KT):Option (List RV):=og (decide (gW c d)) (match !(cB (dC c) (dC d))with|true=>(og (decide (gW c d)) (k 18 (pT c d 0 ([]))))|false=>k 18 (ks c d 0 ([])))
theorem YQ(c d:BCU):RS sD 19 [.d tCU c,.d tCU d] (Ll c d):=rsX
def qv(c d:BCU)(s9:Int)(r3:List BP)(k:KT):Option (List RV):=match decide (s9<(((ta (dC c) (dC d)).map enc).length:Int))with|true=>(match aR ((ta (dC c) (dC d)).map enc) s9 with|some x1=>(og (decide (okC 3500 c∧okP 3500 x1)) (match onR (dC c) (dec x1)with|true=>(match aR ((ta (dC c) (dC d)).map enc) s9 with|some x2=>(og (decide (okC 3500 d∧okP 3500 x2)) (match onR (dC d) (dec x2)with|true=>(match aR ((ta (dC c) (dC d)).map enc) s9 with|some x3=>(og (decide ((r3.length+([x3]).length)*320≤140737488355328∧r3.length+([x3]).length≤140737488355328)) (k 18 (pT c d (i64.wrap (s9+1)) (r3++([x3])))))|none=>none)|false=>k 18 (pT c d (i64.wrap (s9+1)) r3)))|none=>none)|false=>k 18 (pT c d (i64.wrap (s9+1)) r3)))|none=>none)|false=>(og (decide (xd c r3)) (match c.1 with|true=>(match d.1 with|true=>(match !(c.2.2.2.1==d.2.2.2.1)with|true=>k 47 (cX c d r3 (hid (t9 d)) false 1)|false=>(match !c.1 with|true=>(og (decide (okP 4000 c.2.2.2.2.1∧okP 4000 c.2.2.2.2.2)) (og (decide (okP 4000 d.2.2.2.2.1∧okP 4000 d.2.2.2.2.2)) (match(aV (dec c.2.2.2.2.1) (dec c.2.2.2.2.2)) !=(aV (dec d.2.2.2.2.1) (dec d.2.2.2.2.2))with|true=>k 47 (cX c d r3 (hid (t9 d)) false 1)|false=>k 47 (cX c d r3 d false 1))))|false=>k 47 (cX c d r3 d false 1)))|false=>(match !c.1 with|true=>(og (decide (okP 4000 c.2.2.2.2.1∧okP 4000 c.2.2.2.2.2)) (og (decide (okP 4000 d.2.2.2.2.1∧okP 4000 d.2.2.2.2.2)) (match(aV (dec c.2.2.2.2.1) (dec c.2.2.2.2.2)) !=(aV (dec d.2.2.2.2.1) (dec d.2.2.2.2.2))with|true=>k 47 (cX c d r3 (hid (t9 d)) false 1)|false=>k 47 (cX c d r3 d false 1))))|false=>k 47 (cX c d r3 d false 1)))|false=>(match !c.1 with|true=>(og (decide (okP 4000 c.2.2.2.2.1∧okP 4000 c.2.2.2.2.2)) (og (decide (okP 4000 d.2.2.2.2.1∧okP 4000 d.2.2.2.2.2)) (match(aV (dec c.2.2.2.2.1) (dec c.2.2.2.2.2)) !=(aV (dec d.2.2.2.2.1) (dec d.2.2.2.2.2))with|true=>k 47 (cX c d r3 (hid (t9 d)) false 1)|false=>k 47 (cX c d r3 d false 1))))|false=>k 47 (cX c d r3 d false 1))))
theorem uT(c d:BCU)(s9:Int)(r3:List BP):RN sD 18 (pT c d s9 r3) (qv c d s9 r3):=rnX
def lQ(c d:BCU)(s9:Int)(r3:List BP)(k:KT):Option (List RV):=match decide (s9<(([c.2.2.2.2.1,c.2.2.2.2.2,d.2.2.2.2.1,d.2.2.2.2.2]).length:Int))with|true=>(match aR ([c.2.2.2.2.1,c.2.2.2.2.2,d.2.2.2.2.1,d.2.2.2.2.2]) s9 with|some _=>(match true,([c.2.2.2.2.1,c.2.2.2.2.2,d.2.2.2.2.1,d.2.2.2.2.2])[(s9).toNat]? with|true,some x1=>(og (decide (okC 3500 c∧okP 3500 x1)) (match onR (dC c) (dec x1)with|true=>(match aR ([c.2.2.2.2.1,c.2.2.2.2.2,d.2.2.2.2.1,d.2.2.2.2.2]) s9 with|some _=>(match true,([c.2.2.2.2.1,c.2.2.2.2.2,d.2.2.2.2.1,d.2.2.2.2.2])[(s9).toNat]? with|true,some x2=>(og (decide (okC 3500 d∧okP 3500 x2)) (match onR (dC d) (dec x2)with|true=>(match aR ([c.2.2.2.2.1,c.2.2.2.2.2,d.2.2.2.2.1,d.2.2.2.2.2]) s9 with|some _=>(match true,([c.2.2.2.2.1,c.2.2.2.2.2,d.2.2.2.2.1,d.2.2.2.2.2])[(s9).toNat]? with|true,some x3=>(og (decide ((r3.length+([x3]).length)*320≤140737488355328∧r3.length+([x3]).length≤140737488355328)) (k 18 (ks c d (i64.wrap (s9+1)) (r3++([x3])))))|_,_=>none)|none=>none)|false=>k 18 (ks c d (i64.wrap (s9+1)) r3)))|_,_=>none)|none=>none)|false=>k 18 (ks c d (i64.wrap (s9+1)) r3)))|_,_=>none)|none=>none)|false=>(og (decide (xd c r3)) (match c.1 with|true=>(match d.1 with|true=>(match !(c.2.2.2.1==d.2.2.2.1)with|true=>k 47 (cX c d r3 (hid (t9 d)) false 1)|false=>(match !c.1 with|true=>(og (decide (okP 4000 c.2.2.2.2.1∧okP 4000 c.2.2.2.2.2)) (og (decide (okP 4000 d.2.2.2.2.1∧okP 4000 d.2.2.2.2.2)) (match(aV (dec c.2.2.2.2.1) (dec c.2.2.2.2.2)) !=(aV (dec d.2.2.2.2.1) (dec d.2.2.2.2.2))with|true=>k 47 (cX c d r3 (hid (t9 d)) false 1)|false=>k 47 (cX c d r3 d false 1))))|false=>k 47 (cX c d r3 d false 1)))|false=>(match !c.1 with|true=>(og (decide (okP 4000 c.2.2.2.2.1∧okP 4000 c.2.2.2.2.2)) (og (decide (okP 4000 d.2.2.2.2.1∧okP 4000 d.2.2.2.2.2)) (match(aV (dec c.2.2.2.2.1) (dec c.2.2.2.2.2)) !=(aV (dec d.2.2.2.2.1) (dec d.2.2.2.2.2))with|true=>k 47 (cX c d r3 (hid (t9 d)) false 1)|false=>k 47 (cX c d r3 d false 1))))|false=>k 47 (cX c d r3 d false 1)))|false=>(match !c.1 with|true=>(og (decide (okP 4000 c.2.2.2.2.1∧okP 4000 c.2.2.2.2.2)) (og (decide (okP 4000 d.2.2.2.2.1∧okP 4000 d.2.2.2.2.2)) (match(aV (dec c.2.2.2.2.1) (dec c.2.2.2.2.2)) !=(aV (dec d.2.2.2.2.1) (dec d.2.2.2.2.2))with|true=>k 47 (cX c d r3 (hid (t9 d)) false 1)|false=>k 47 (cX c d r3 d false 1))))|false=>k 47 (cX c d r3 d false 1))))
theorem oO(c d:BCU)(s9:Int)(r3:List BP):RN sD 18 (ks c d s9 r3) (lQ c d s9 r3):=rnX
def pP(c d:BCU)(r3:List BP)(B1:BCU)(s10:Bool)(s11:Int)(k:KT):Option (List RV):=match cB (dC c) (dC d)with|true=>(match decide (s11<((gP (dC c) r3).length:Int))with|true=>(match s10 with|true=>k 47 (cX c d r3 B1 true (i64.wrap (s11+1)))|false=>(match aR (gP (dC c) r3) (i64.wrap (s11-1))with|some x1=>(match aR (gP (dC c) r3) s11 with|some x2=>(og (decide (okC 4000 B1∧okP 4000 x1∧okP 4000 x2)) (k 47 (cX c d r3 B1 (decide ((cZ (dC B1) (dec x1) (dec x2))<0)) (i64.wrap (s11+1)))))|none=>none)|none=>none))|false=>some [RV.d (.sl tP) (gP (dC c) r3),RV.d .bool s10])|false=>some [RV.d (.sl tP) (gP (dC c) r3),RV.d .bool s10]
theorem vc(c d:BCU)(r3:List BP)(B1:BCU)(s10:Bool)(s11:Int):RN sD 47 (cX c d r3 B1 s10 s11) (pP c d r3 B1 s10 s11):=rnX
theorem ON{c:Cv}{S:List BP}{i:Nat}(h1:1≤i)(hi:i<S.length):Cg c (S.drop (i-1))=(decide (cZ c (dec S[i-1]) (dec S[i])<0)||Cg c (S.drop i)):=by
 have hd:S.drop (i-1)=S[i-1]::S.drop i:=by
  have:=alg (l:=S) (i:=i-1) (by omega)
  rw[this,show i-1+1=i by omega]
 have hd2:S.drop i=S[i]::S.drop (i+1):=alg hi
 rw[hd,hd2]
 rfl
theorem UY{c:Cv}{S:List BP}(h:S.length≤1):Cg c S=false:=by
 match S,h with
 |[],_=>rfl
 |[_],_=>rfl
theorem abZ(c d:BCU)(r3 S:List BP)(hS:gP (dC c) r3=S)(hl:S.length≤1000000)(ho:∀x∈S,okP 4000 x)(B:BCU)(hB:okC 4000 B):∀(j i:Nat),1≤i→i+j=max S.length 1→∀s:Bool,
  sD.Runs 47 (cX c d r3 B s (i:Int)) [.d (.sl tP) S,.d .bool (bif cB (dC c) (dC d)then s||Cg (dC B) (S.drop (i-1))else s)]:=by
 intro j
 induction j with
 |zero=>
  intro i h1 hi s
  refine vc _ _ _ _ _ _ ⟨0,?_⟩
  unfold pP
  rw[hS,b9 (by omega),UY (by rw[ano];omega),Bool.or_false]
  cases cB (dC c) (dC d)<;>rfl
 |succ j ih=>
  intro i h1 hi s
  have hil:i<S.length:=by omega
  have e1:i64.wrap ((i:Int)-1)=((i-1:Nat):Int):=by rw[aS (by omega) (by omega)];omega
  have e2:i64.wrap ((i:Int)+1)=((i+1:Nat):Int):=bV (by omega)
  have g1:aR S ((i-1:Nat):Int)=some S[i-1]:=by rw[ao,akZ (by omega)]
  have g2:aR S (i:Int)=some S[i]:=by rw[ao,akZ hil]
  cases hs:cB (dC c) (dC d)
  ·refine vc _ _ _ _ _ _ ⟨0,?_⟩
   unfold pP
   rw[hS,hs]
   rfl
  ·obtain⟨n,hn⟩:=ih (i+1) (by omega) (by omega) (s||decide (cZ (dC B) (dec S[i-1]) (dec S[i])<0))
   refine vc _ _ _ _ _ _ ⟨n,?_⟩
   unfold pP
   rw[hS,hs,bH hil,e1,e2,g1,g2]
   dsimp only
   rw[dT (show okC 4000 B∧okP 4000 S[i-1]∧okP 4000 S[i] from⟨hB,ho _ (alz _),ho _ (alz _)⟩)]
   rw[hs,Nat.add_sub_cancel,Bool.or_assoc,←ON h1 hil]at hn
   cases s
   ·exact hn
   ·simp only[Bool.true_or,cond_true]at hn ⊢
    exact hn
theorem Ic{c:Cv}{l:List BP}{p:BP→Prop}(h:∀x∈l,p x):∀x∈gP c l,p x:=fun x hx=>by
 rcases vP hx with h'|h'
 ·cases h'
 ·exact h x h'
theorem Jz(c d:BCU)(h:f0 c d)(r3:List BP)(hl:r3.length≤100)(ho:∀x∈r3,okP 500 x):∃n,(match decide (xd c r3)with
  |true=>sD.k n 47 (cX c d r3 (yK c d) false 1)
  |false=>none)=some [.d (.sl tP) (gP (dC c) r3),.d .bool (cB (dC c) (dC d)&&Cg (dC (yK c d)) (gP (dC c) r3))]:=by
 have hs:xd c r3:=⟨ce h.1.1 (by decide) (by decide),by omega,fun x hx=>cJ (ho x hx) (by decide) (by decide)⟩
 have hR:okC 4000 (yK c d):=by
  unfold yK
  have:=ce (k:=4000) h.2.1 (by decide) (by decide)
  cases Ua c d
  ·exact this
  ·exact P4 4000 this
 have hlen:=wm (dC c) r3 []
 obtain⟨n,hn⟩:=abZ c d r3 _ rfl (by simp at hlen;unfold gP;omega) (Ic (fun x hx=>cJ (ho x hx) (by decide) (by decide))) (yK c d) hR (max (gP (dC c) r3).length 1-1) 1 (ak4 _) (by omega) false
 refine⟨n,?_⟩
 rw[dT hs]
 refine hn.trans ?_
 cases cB (dC c) (dC d)<;>rfl
theorem Bg{l c:Ln}[BdL l][BdC c](hl:l.1≠0∨l.2.1≠0):(rh l c).length≤2∧∀p∈rh l c,Bd p 490∧Rpd p:=by
 unfold rh
 by_cases h0:jp l c<0
 ·rw[akY h0]
  exact⟨by simp,fun p hp=>by cases hp⟩
 ·rw[ak0 h0]
  by_cases h1:jp l c=0
  ·rw[akY h1]
   obtain⟨f1,f2,_,_⟩:=un (l:=l) (c:=c)
   refine⟨by simp,fun p hp=>?_⟩
   have:p=atP (ftX l c,ftY l c):=by simpa using hp
   rw[this]
   exact⟨(inferInstance:Bd (atP (ftX l c,ftY l c)) _).mono (by decide),inferInstance⟩
  ·rw[ak0 h1]
   obtain⟨p1,p2⟩:=P5 (c:=c) hl (show 0≤jp l c by grind)
   obtain⟨q1,q2⟩:=PT (l:=l) (c:=c)
   cases decide (aV (so l c) (tz l c)>0)
   ·refine⟨by simp,fun p hp=>?_⟩
    have:p=so l c∨p=tz l c:=by simpa using hp
    rcases this with e|e<;>rw[e]
    ·exact⟨q1,p1⟩
    ·exact⟨q2,p2⟩
   ·refine⟨by simp,fun p hp=>?_⟩
    have:p=tz l c∨p=so l c:=by simpa using hp
    rcases this with e|e<;>rw[e]
    ·exact⟨q2,p2⟩
    ·exact⟨q1,p1⟩
theorem vY{l m:Ln}[BdL l][BdL m]:(lc l m).length≤2∧∀p∈lc l m,Bd p 490∧Rpd p:=by
 unfold lc
 cases decide (dt l m=0)
 ·have bc:Bd (dt l m) 49:=inferInstanceAs (Bd (l.1*m.2.1-m.1*l.2.1) _)
  have bx:Bd (ld l m) 151:=inferInstanceAs (Bd (l.2.2*m.2.1-m.2.2*l.2.1) _)
  have b_:Bd (k9 l m) 151:=inferInstanceAs (Bd (l.1*m.2.2-m.1*l.2.2) _)
  refine⟨by simp,fun p hp=>?_⟩
  have:p=atP (ld l m/dt l m,k9 l m/dt l m):=by simpa using hp
  rw[this]
  exact⟨(inferInstance:Bd (atP (ld l m/dt l m,k9 l m/dt l m)) _).mono (by decide),inferInstance⟩
 ·exact⟨by simp,fun p hp=>by cases hp⟩
theorem VI{c d:BCU}(h:gW c d):(ta (dC c) (dC d)).length≤2∧∀p∈ta (dC c) (dC d),Bd p 490∧Rpd p:=by
 obtain⟨⟨a1,a2⟩,b1,b2⟩:=h
 obtain⟨aa,al,ac,aw,af,at_⟩:=c
 obtain⟨ba,bl,bc,bw,bf,bt⟩:=d
 have ex1:∀x:BO3,cL x→BdL (dec x)∧((dec x:Ln).1≠0∨(dec x:Ln).2.1≠0):=fun x h=>by
  obtain⟨l,rfl,bl,nl⟩:=eG h
  rw[az]
  exact⟨bl,nl⟩
 have ex2:∀x:BO3,cf x→BdC (dec x):=fun x h=>by
  obtain⟨l,rfl,bl,nl⟩:=cK h
  rw[az]
  exact bl
 unfold ta
 cases aa<;>cases ba
 ·obtain⟨i1,_⟩:=ex1 _ (a2 rfl)
  obtain⟨i2,_⟩:=ex1 _ (b2 rfl)
  exact vY (l:=dec al) (m:=dec bl)
 ·obtain⟨i1,n1⟩:=ex1 _ (a2 rfl)
  have i2:=ex2 _ (b1 rfl)
  exact Bg (l:=dec al) (c:=dec bc) n1
 ·have i1:=ex2 _ (a1 rfl)
  obtain⟨i2,n2⟩:=ex1 _ (b2 rfl)
  exact Bg (l:=dec bl) (c:=dec ac) n2
 ·have i1:=ex2 _ (a1 rfl)
  have i2:=ex2 _ (b1 rfl)
  show(yH (dec ac) (dec bc)).length≤2∧∀p∈yH (dec ac) (dec bc),Bd p 490∧Rpd p
  unfold yH
  cases hc:gQ (dec ac) (dec bc)
  ·have i3:BdL (mS (dec ac) (dec bc)):=xn
   exact Bg (rK hc)
  ·exact⟨by simp,fun p hp=>by cases hp⟩
theorem Bz{c d:BCU}(h:f0 c d):(rB c d).length≤4∧∀x∈rB c d,okP 500 x:=by
 obtain⟨⟨h1,h2⟩,h3,h4⟩:=h
 unfold rB
 cases cB (dC c) (dC d)
 ·obtain⟨g1,g2⟩:=VI (show gW c d from⟨h2,h4⟩)
  refine⟨by simp only[Bool.not_false,cond_true,amK];omega,fun x hx=>?_⟩
  obtain⟨p,hp,rfl⟩:=al3.1 hx
  obtain⟨b,r⟩:=g2 p hp
  exact ak1 (aN (j:=490) (by decide) (by decide))
 ·refine⟨by simp,fun x hx=>?_⟩
  have:x=c.2.2.2.2.1∨x=c.2.2.2.2.2∨x=d.2.2.2.2.1∨x=d.2.2.2.2.2:=by simpa using hx
  rcases this with e|e|e|e<;>rw[e]
  ·exact h1.2.2.1
  ·exact h1.2.2.2
  ·exact h3.2.2.1
  ·exact h3.2.2.2
def mD(c d:BCU)(p:BP):Bool:=onR (dC c) (dec p)&&onR (dC d) (dec p)
theorem Fv(c d:BCU)(h:f0 c d)(L:List BP)(hL:(ta (dC c) (dC d)).map enc=L)(h4:L.length≤4)(ho:∀x∈L,okP 500 x):∀(j i:Nat),i+j=L.length→∀r3:List BP,r3.length≤i→(∀x∈r3,okP 500 x)→
  sD.Runs 18 (pT c d (i:Int) r3) [.d (.sl tP) (gP (dC c) (r3++(L.drop i).filter (mD c d))),.d .bool (cB (dC c) (dC d)&&Cg (dC (yK c d)) (gP (dC c) (r3++(L.drop i).filter (mD c d))))]:=by
 intro j
 induction j with
 |zero=>
  intro i hi r3 hr h3
  obtain⟨n,hn⟩:=Jz c d h r3 (by omega) h3
  refine uT _ _ _ _ ⟨n,?_⟩
  have hd:L.drop i=[]:=List.drop_eq_nil_iff.2 (by omega)
  rw[hd,anK,alv,←hn]
  unfold qv
  rw[hL,b9 (by omega)]
  have hs:xd c r3:=⟨ce h.1.1 (by decide) (by decide),by omega,fun x hx=>cJ (h3 x hx) (by decide) (by decide)⟩
  have o1:decide (okP 4000 c.2.2.2.2.1∧okP 4000 c.2.2.2.2.2)=true:=akY ⟨cJ h.1.1.2.2.1 (by decide) (by decide),cJ h.1.1.2.2.2 (by decide) (by decide)⟩
  have o2:decide (okP 4000 d.2.2.2.2.1∧okP 4000 d.2.2.2.2.2)=true:=akY ⟨cJ h.2.1.2.2.1 (by decide) (by decide),cJ h.2.1.2.2.2 (by decide) (by decide)⟩
  rw[dT hs,o1,o2]
  dsimp only
  unfold yK Ua bne
  simp only[bK]
  cases c.1<;>cases d.1<;>cases(c.2.2.2.1==d.2.2.2.1)<;>cases(aV (dec c.2.2.2.2.1) (dec c.2.2.2.2.2)==aV (dec d.2.2.2.2.1) (dec d.2.2.2.2.2))<;>rfl
 |succ j ih=>
  intro i hi r3 hr h3
  have hil:i<L.length:=by omega
  have e2:i64.wrap ((i:Int)+1)=((i+1:Nat):Int):=bV (by omega)
  have g2:aR L (i:Int)=some L[i]:=by rw[ao,akZ hil]
  have g3:L[((i:Int)).toNat]?=some L[i]:=by rw[show((i:Int)).toNat=i by omega,akZ hil]
  have hx:=ho _ (alz hil)
  have hd:L.drop i=L[i]::L.drop (i+1):=alg hil
  have ox:=cJ (k:=3500) hx (by decide) (by decide)
  have o1:decide (okC 3500 c∧okP 3500 L[i])=true:=akY ⟨ce h.1.1 (by decide) (by decide),ox⟩
  have o2:decide (okC 3500 d∧okP 3500 L[i])=true:=akY ⟨ce h.2.1 (by decide) (by decide),ox⟩
  have hf:(L.drop i).filter (mD c d)=bif mD c d L[i]then L[i]::(L.drop (i+1)).filter (mD c d)else(L.drop (i+1)).filter (mD c d):=by
   rw[hd,amV]
   cases mD c d L[i]<;>rfl
  cases hb:mD c d L[i]
  ·rw[hb]at hf
   obtain⟨n,hn⟩:=ih (i+1) (by omega) r3 (by omega) h3
   refine uT _ _ _ _ ⟨n,?_⟩
   rw[hf]
   dsimp only[cond_false]
   rw[←hn]
   unfold mD at hb
   unfold qv
   rw[hL,bH hil,g2,e2]
   dsimp only
   try rw[g3]
   try dsimp only
   rw[o1,o2]
   cases h1:onR (dC c) (dec L[i])
   ·rfl
   ·rw[h1,amk]at hb
    rw[hb]
  ·rw[hb]at hf
   obtain⟨n,hn⟩:=ih (i+1) (by omega) (r3++[L[i]]) (by simp;omega) (fun x hx'=>by
    rcases alJ.1 hx' with h'|h'
    ·exact h3 x h'
    ·have:x=L[i]:=by simpa using h'
     rw[this];exact hx)
   refine uT _ _ _ _ ⟨n,?_⟩
   rw[hf]
   dsimp only[cond_true]
   rw[alp]at hn
   refine Eq.trans ?_ hn
   unfold mD at hb
   obtain⟨h1,h2⟩:=ak8.1 hb
   unfold qv
   rw[hL,bH hil,g2,e2]
   dsimp only
   try rw[g3]
   try dsimp only
   rw[o1,o2,h1,h2]
   dsimp only
   rw[dT (by simp;omega)]
theorem Ao(c d:BCU)(h:f0 c d)(L:List BP)(hL:[c.2.2.2.2.1,c.2.2.2.2.2,d.2.2.2.2.1,d.2.2.2.2.2]=L)(h4:L.length≤4)(ho:∀x∈L,okP 500 x):∀(j i:Nat),i+j=L.length→∀r3:List BP,r3.length≤i→(∀x∈r3,okP 500 x)→
  sD.Runs 18 (ks c d (i:Int) r3) [.d (.sl tP) (gP (dC c) (r3++(L.drop i).filter (mD c d))),.d .bool (cB (dC c) (dC d)&&Cg (dC (yK c d)) (gP (dC c) (r3++(L.drop i).filter (mD c d))))]:=by
 intro j
 induction j with
 |zero=>
  intro i hi r3 hr h3
  obtain⟨n,hn⟩:=Jz c d h r3 (by omega) h3
  refine oO _ _ _ _ ⟨n,?_⟩
  have hd:L.drop i=[]:=List.drop_eq_nil_iff.2 (by omega)
  rw[hd,anK,alv,←hn]
  unfold lQ
  rw[hL,b9 (by omega)]
  have hs:xd c r3:=⟨ce h.1.1 (by decide) (by decide),by omega,fun x hx=>cJ (h3 x hx) (by decide) (by decide)⟩
  have o1:decide (okP 4000 c.2.2.2.2.1∧okP 4000 c.2.2.2.2.2)=true:=akY ⟨cJ h.1.1.2.2.1 (by decide) (by decide),cJ h.1.1.2.2.2 (by decide) (by decide)⟩
  have o2:decide (okP 4000 d.2.2.2.2.1∧okP 4000 d.2.2.2.2.2)=true:=akY ⟨cJ h.2.1.2.2.1 (by decide) (by decide),cJ h.2.1.2.2.2 (by decide) (by decide)⟩
  rw[dT hs,o1,o2]
  dsimp only
  unfold yK Ua bne
  simp only[bK]
  cases c.1<;>cases d.1<;>cases(c.2.2.2.1==d.2.2.2.1)<;>cases(aV (dec c.2.2.2.2.1) (dec c.2.2.2.2.2)==aV (dec d.2.2.2.2.1) (dec d.2.2.2.2.2))<;>rfl
 |succ j ih=>
  intro i hi r3 hr h3
  have hil:i<L.length:=by omega
  have e2:i64.wrap ((i:Int)+1)=((i+1:Nat):Int):=bV (by omega)
  have g2:aR L (i:Int)=some L[i]:=by rw[ao,akZ hil]
  have g3:L[((i:Int)).toNat]?=some L[i]:=by rw[show((i:Int)).toNat=i by omega,akZ hil]
  have hx:=ho _ (alz hil)
  have hd:L.drop i=L[i]::L.drop (i+1):=alg hil
  have ox:=cJ (k:=3500) hx (by decide) (by decide)
  have o1:decide (okC 3500 c∧okP 3500 L[i])=true:=akY ⟨ce h.1.1 (by decide) (by decide),ox⟩
  have o2:decide (okC 3500 d∧okP 3500 L[i])=true:=akY ⟨ce h.2.1 (by decide) (by decide),ox⟩
  have hf:(L.drop i).filter (mD c d)=bif mD c d L[i]then L[i]::(L.drop (i+1)).filter (mD c d)else(L.drop (i+1)).filter (mD c d):=by
   rw[hd,amV]
   cases mD c d L[i]<;>rfl
  cases hb:mD c d L[i]
  ·rw[hb]at hf
   obtain⟨n,hn⟩:=ih (i+1) (by omega) r3 (by omega) h3
   refine oO _ _ _ _ ⟨n,?_⟩
   rw[hf]
   dsimp only[cond_false]
   rw[←hn]
   unfold mD at hb
   unfold lQ
   rw[hL,bH hil,g2,e2]
   dsimp only
   try rw[g3]
   try dsimp only
   rw[o1,o2]
   cases h1:onR (dC c) (dec L[i])
   ·rfl
   ·rw[h1,amk]at hb
    rw[hb]
  ·rw[hb]at hf
   obtain⟨n,hn⟩:=ih (i+1) (by omega) (r3++[L[i]]) (by simp;omega) (fun x hx'=>by
    rcases alJ.1 hx' with h'|h'
    ·exact h3 x h'
    ·have:x=L[i]:=by simpa using h'
     rw[this];exact hx)
   refine oO _ _ _ _ ⟨n,?_⟩
   rw[hf]
   dsimp only[cond_true]
   rw[alp]at hn
   refine Eq.trans ?_ hn
   unfold mD at hb
   obtain⟨h1,h2⟩:=ak8.1 hb
   unfold lQ
   rw[hL,bH hil,g2,e2]
   dsimp only
   try rw[g3]
   try dsimp only
   rw[o1,o2,h1,h2]
   dsimp only
   rw[dT (by simp;omega)]
def Xn:Cn 19 [tCU,tCU]:=cn fun(c d:BCU)=>lf (f0 c d) [.d (.sl tP) (kZ c d),.d .bool (Ew c d)] fun h=>by
 obtain⟨h4,ho⟩:=Bz h
 have hsp:gW c d:=⟨h.1.2,h.2.2⟩
 refine c8 XR (show sD.Res _ _ _ from ?_)
 unfold rB at h4 ho
 unfold kZ Ew kZ JB rB
 cases hs:cB (dC c) (dC d)
 ·rw[hs]at h4 ho
  obtain⟨n,hn⟩:=Fv c d h _ rfl h4 ho _ 0 (alE _) [] (ak4 _) (fun x hx=>by cases hx)
  refine YQ _ _ ⟨n,?_⟩
  unfold Ll
  rw[dT hsp,hs]
  rw[hs]at hn
  exact hn
 ·rw[hs]at h4 ho
  obtain⟨n,hn⟩:=Ao c d h _ rfl h4 ho _ 0 (alE _) [] (ak4 _) (fun x hx=>by cases hx)
  refine YQ _ _ ⟨n,?_⟩
  unfold Ll
  rw[dT hsp,hs]
  rw[hs]at hn
  exact hn
def i8P(n:Int):Prop:= -128≤n∧n≤127
instance (n:Int):Decidable (i8P n):=by unfold i8P;infer_instance
def u8P(n:Int):Prop:=0≤n∧n≤255
instance (n:Int):Decidable (u8P n):=by unfold u8P;infer_instance
def atQ(n u:Int):Rat:=Rat.divInt n (u%4+1)
def vG(c:BO3):List BCU:=[(true,o00,c,false,enc (mb (dec c)),enc (mf (dec c))),(true,o00,c,false,enc (mf (dec c)),enc (mb (dec c)))]
abbrev tDr:Ty:=.st (.pair (.int .u8) (.pair (.int .u8) (.pair (.int .i8) (.pair (.int .i8) (.pair (.int .i8) (.pair (.int .i8) (.pair (.int .i8) (.int .i8))))))))
abbrev yf:Ty:=.st (.pair tDr (.pair tDr (.int .u8)))
abbrev Dr:=Int×Int×Int×Int×Int×Int×Int×Int
abbrev Pce:=Dr×Dr×Int
def AW(x:Dr):Prop:=u8P x.1∧u8P x.2.1∧i8P x.2.2.1∧i8P x.2.2.2.1∧i8P x.2.2.2.2.1∧i8P x.2.2.2.2.2.1∧i8P x.2.2.2.2.2.2.1∧i8P x.2.2.2.2.2.2.2
instance (x:Dr):Decidable (AW x):=by unfold AW;infer_instance
def drA(x:Dr):Rat×Rat:=(atQ x.2.2.1 x.2.1,atQ x.2.2.2.1 x.2.1)
def drB(x:Dr):Rat×Rat:=(atQ x.2.2.2.2.1 x.2.1,atQ x.2.2.2.2.2.1 x.2.1)
def drC(x:Dr):Rat×Rat:=(atQ x.2.2.2.2.2.2.1 x.2.1,atQ x.2.2.2.2.2.2.2 x.2.1)
def drQ(x:Dr):Ln:=((drA x).1,(drA x).2,(drB x).1)
def ofL(x:Dr):List BCU:=
 bif x.1%3==2 then(bif decide ((drB x).1≤0)then []else vG (enc (drQ x)))
 else bif x.1%3==1 then(bif lX (drA x) (drB x) (drC x) !=0 then []else [l4 (drA x) (drB x) (drC x)])
 else bif m9 (drA x) (drB x) !=0 then []else [jy (drA x) (drB x)]
theorem HZ{u k:Int}(h:u8P u):Int.tmod u k=u%k:=Int.tmod_eq_emod_of_nonneg h.1
theorem yA{n u:Int}(h:i8P n)(_h':u8P u):Bb (atQ n u) 7 2:=by
 unfold atQ
 obtain⟨h1,h2⟩:=h
 exact Vz (by omega) (by show n.natAbs≤128;omega) (by show(u%4+1).natAbs≤4;omega)
theorem Con.dd{P:Program}{f:Nat}{args:List SV}{et:TypeId}{e:Ty}{xs:List e.D}{r:RV}(h:Con P f args [r])(hr:r=.new et e xs∨r=.d (.sl e) xs):Con P f args [.d (.sl e) xs]:=by
 rcases hr with rfl|rfl
 ·exact Con.new_d h
 ·exact h
def Hx:List En:=[enL OW,enL WC,enT oB,enL PW,enL Nz]
def Za(n u:Int)(_k:KT):Option (List RV):=og (decide (DX (i64.wrap n) (i64.wrap ((i64.wrap (Int.tmod u 4))+1)))) (some [RV.d tR (hid (am (Rat.divInt (i64.wrap n) (i64.wrap ((i64.wrap (Int.tmod u 4))+1)))))])
def aim:Cn 53 [(.int .i8),(.int .u8)]:=cn fun(n u:Int)=>lf (i8P n∧u8P u) [.d tR (am (atQ n u))] fun h=>by
 refine aA Hx (Za n u) ⟨0,?_⟩
 obtain⟨hn,hu⟩:=h
 have e0:=HZ (k:=4) hu
 obtain⟨n1,n2⟩:=hn
 unfold Za
 rw[e0,aS (x:=n) (by omega) (by omega),aS (x:=u%4) (by omega) (by omega),aS (x:=u%4+1) (by omega) (by omega),dT (show DX n (u%4+1) from⟨⟨by omega,by omega⟩,⟨by omega,by omega⟩,by omega⟩)]
 simp only[bK]
 rfl
def aeh:Ctx:=CX (ens Hx) []
def YG(c:BO3)(_k:KT):Option (List RV):=og (decide (cf c)) (some [RV.new 39 tCU ([(true,((((false,[]),(false,[])),(((false,[]),(false,[])),((false,[]),(false,[])))),(c,(false,(hid (enc (mb (dec c))),hid (enc (mf (dec c)))))))),(true,((((false,[]),(false,[])),(((false,[]),(false,[])),((false,[]),(false,[])))),(c,(false,(hid (enc (mf (dec c))),hid (enc (mb (dec c))))))))])])
theorem aeE(c:BO3):RS aeh 37 [.d tO c] (YG c):=rsX
def W7:Cn 37 [tO]:=cn fun(c:BO3)=>lf (cf c) [.d (.sl tCU) (vG c)] fun h=>by
 refine Con.new_d (et:=39) (c8 Hx (aeE _ ⟨0,?_⟩))
 unfold YG
 rw[dT h]
 simp only[bK]
 rfl
def Zs:List En:=enL aim::enL W7::Hx
def ZC:Ctx:=CX (ens Zs) []
def Pk(x:Dr)(_k:KT):Option (List RV):=og (decide (i8P x.2.2.1∧u8P x.2.1)) (og (decide (i8P x.2.2.2.1∧u8P x.2.1)) (og (decide (i8P x.2.2.2.2.1∧u8P x.2.1)) (og (decide (i8P x.2.2.2.2.2.1∧u8P x.2.1)) (match(Int.tmod x.1 3)==2 with|true=>(og (decide (i8P x.2.2.2.2.1∧u8P x.2.1)) (og (o1 (hid (am (atQ x.2.2.2.2.1 x.2.1)))) (match decide ((aD (ah (hid (am (atQ x.2.2.2.2.1 x.2.1)))) 0)≤0)with|true=>some [RV.new 39 tCU []]|false=>(og (decide (cf (hid (am (atQ x.2.2.1 x.2.1)),(hid (am (atQ x.2.2.2.1 x.2.1)),hid (am (atQ x.2.2.2.2.1 x.2.1)))))) (some [RV.d (.sl tCU) (vG (hid (am (atQ x.2.2.1 x.2.1)),(hid (am (atQ x.2.2.2.1 x.2.1)),hid (am (atQ x.2.2.2.2.1 x.2.1)))))])))))|false=>(og (decide (ok (Rat×Rat) 100 (hid (am (atQ x.2.2.1 x.2.1)),hid (am (atQ x.2.2.2.1 x.2.1)))∧ok (Rat×Rat) 100 (hid (am (atQ x.2.2.2.2.1 x.2.1)),hid (am (atQ x.2.2.2.2.2.1 x.2.1))))) (match(Int.tmod x.1 3)==1 with|true=>(og (decide (i8P x.2.2.2.2.2.2.1∧u8P x.2.1)) (og (decide (i8P x.2.2.2.2.2.2.2∧u8P x.2.1)) (og (decide (ok (Rat×Rat) 100 (hid (am (atQ x.2.2.1 x.2.1)),hid (am (atQ x.2.2.2.1 x.2.1)))∧ok (Rat×Rat) 100 (hid (am (atQ x.2.2.2.2.1 x.2.1)),hid (am (atQ x.2.2.2.2.2.1 x.2.1)))∧ok (Rat×Rat) 100 (hid (am (atQ x.2.2.2.2.2.2.1 x.2.1)),hid (am (atQ x.2.2.2.2.2.2.2 x.2.1))))) (match(lX (dec (hid (am (atQ x.2.2.1 x.2.1)),hid (am (atQ x.2.2.2.1 x.2.1)))) (dec (hid (am (atQ x.2.2.2.2.1 x.2.1)),hid (am (atQ x.2.2.2.2.2.1 x.2.1)))) (dec (hid (am (atQ x.2.2.2.2.2.2.1 x.2.1)),hid (am (atQ x.2.2.2.2.2.2.2 x.2.1))))) !=0 with|true=>some [RV.new 39 tCU []]|false=>some [RV.new 39 tCU ([hid (l4 (dec (hid (am (atQ x.2.2.1 x.2.1)),hid (am (atQ x.2.2.2.1 x.2.1)))) (dec (hid (am (atQ x.2.2.2.2.1 x.2.1)),hid (am (atQ x.2.2.2.2.2.1 x.2.1)))) (dec (hid (am (atQ x.2.2.2.2.2.2.1 x.2.1)),hid (am (atQ x.2.2.2.2.2.2.2 x.2.1)))))])]))))|false=>(match(m9 (dec (hid (am (atQ x.2.2.1 x.2.1)),hid (am (atQ x.2.2.2.1 x.2.1)))) (dec (hid (am (atQ x.2.2.2.2.1 x.2.1)),hid (am (atQ x.2.2.2.2.2.1 x.2.1))))) !=0 with|true=>some [RV.new 39 tCU []]|false=>some [RV.new 39 tCU ([hid (jy (dec (hid (am (atQ x.2.2.1 x.2.1)),hid (am (atQ x.2.2.2.1 x.2.1)))) (dec (hid (am (atQ x.2.2.2.2.1 x.2.1)),hid (am (atQ x.2.2.2.2.2.1 x.2.1)))))])])))))))
theorem aeF(x:Dr):RS ZC 18 [.d tDr x] (Pk x):=rsX
def adW:Cn 18 [tDr]:=cn fun(x:Dr)=>lf (AW x) [.d (.sl tCU) (ofL x)] fun h=>by
 obtain⟨h1,h2,hA,hB,hC,hD,hE,hF⟩:=h
 have at_bd:∀n,i8P n→Bd (atQ n x.2.1) 1:=fun n hn=>Eg (h:=yA hn h2) (by decide) (by decide)
 have bA:=at_bd _ hA
 have bB:=at_bd _ hB
 have bC:=at_bd _ hC
 have bD:=at_bd _ hD
 have bE:=at_bd _ hE
 have bF:=at_bd _ hF
 have vA:Bd (drA x) 1:=inferInstanceAs (Bd (atQ x.2.2.1 x.2.1,atQ x.2.2.2.1 x.2.1) _)
 have vB:Bd (drB x) 1:=inferInstanceAs (Bd (atQ x.2.2.2.2.1 x.2.1,atQ x.2.2.2.2.2.1 x.2.1) _)
 have vC:Bd (drC x) 1:=inferInstanceAs (Bd (atQ x.2.2.2.2.2.2.1 x.2.1,atQ x.2.2.2.2.2.2.2 x.2.1) _)
 have eA:((am (atQ x.2.2.1 x.2.1),am (atQ x.2.2.2.1 x.2.1)):BV)=enc (drA x):=rfl
 have eB:((am (atQ x.2.2.2.2.1 x.2.1),am (atQ x.2.2.2.2.2.1 x.2.1)):BV)=enc (drB x):=rfl
 have eC:((am (atQ x.2.2.2.2.2.2.1 x.2.1),am (atQ x.2.2.2.2.2.2.2 x.2.1)):BV)=enc (drC x):=rfl
 have eQ:((am (atQ x.2.2.1 x.2.1),am (atQ x.2.2.2.1 x.2.1),am (atQ x.2.2.2.2.1 x.2.1)):BO3)=enc (drQ x):=rfl
 have tm:=HZ (k:=3) h1
 have run:∀r:RV,Pk x (ZC.k 0)=some [r]→(r=.new 39 tCU (ofL x)∨r=.d (.sl tCU) (ofL x))→Con Tryz.prog 18 [.d tDr x] [.d (.sl tCU) (ofL x)]:=fun r e g=>Con.dd (c8 Zs (aeF _ ⟨0,e⟩)) g
 unfold Pk at run
 unfold ofL at run ⊢
 simp only[aU,Nat.reduceLeDiff,tm,eQ,eA,eB,eC,dT (show i8P _∧u8P _ from⟨hA,h2⟩),dT (show i8P _∧u8P _ from⟨hB,h2⟩),dT (show i8P _∧u8P _ from⟨hC,h2⟩),dT (show i8P _∧u8P _ from⟨hD,h2⟩),dT (show i8P _∧u8P _ from⟨hE,h2⟩),dT (show i8P _∧u8P _ from⟨hF,h2⟩)]at run
 cases h3:x.1%3==2
 ·simp only[h3,cond_false]at run ⊢
  cases h4:x.1%3==1
  ·simp only[h4,cond_false]at run ⊢
   cases h5:m9 (drA x) (drB x) !=0
   ·simp only[h5,cond_false]at run ⊢
    exact run _ rfl (.inl rfl)
   ·simp only[h5,cond_true]at run ⊢
    exact run _ rfl (.inl rfl)
  ·simp only[h4,cond_true]at run ⊢
   cases h5:lX (drA x) (drB x) (drC x) !=0
   ·simp only[h5,cond_false]at run ⊢
    exact run _ rfl (.inl rfl)
   ·simp only[h5,cond_true]at run ⊢
    exact run _ rfl (.inl rfl)
 ·simp only[h3,cond_true]at run ⊢
  have e1:(drB x).1=atQ x.2.2.2.2.1 x.2.1:=rfl
  by_cases h5:(drB x).1≤0
  ·rw[akY h5]at run ⊢
   refine run _ ?_ (.inl rfl)
   rw[wL,←e1,akY h5]
   rfl
  ·rw[ak0 h5]at run ⊢
   have ok:cf (enc (drQ x)):=gX (h:=⟨bA.mono (by decide),bB.mono (by decide),bC.mono (by decide)⟩) (show 0<(drB x).1 by grind)
   refine run _ ?_ (.inr rfl)
   rw[wL,←e1,ak0 h5]
   simp only[akY ok]
   rfl
def vcR(x y:Int):Rat×Rat:=((x:Rat),(y:Rat))
instance agn:Bd (-1:Rat) 3:=cV (n:= -1) (by decide)
theorem Ce{v:Rat×Rat}{j k:Nat}[h:Bd v j](hj:mx j (mx 1 (mx j (mx 1 1)))≤k)(hk:k≤480000):okP k (enc (atP v)):=ak1 (aN (x:=atP v) hj hk)
section
namespace RE
theorem cmpP_0{p q:Pt}[Rpd p][Rpd q]:aV p q=0↔pR p=pR q:=by
 rw[jd]
 obtain⟨h1,h2,h3⟩:=iw (pR p) (pR q)
 rcases jO.tri (pR p) (pR q)with h|h|h
 ·rw[h1 h]
  exact⟨fun e=>absurd e (by decide),fun e=>absurd h (by rw[e];exact jO.irr _)⟩
 ·exact⟨fun _=>h,fun _=>h2 h⟩
 ·rw[h3 h]
  exact⟨fun e=>absurd e (by decide),fun e=>absurd h (by rw[e];exact jO.irr _)⟩
theorem mC(v:Rat×Rat):pR (atP v)=(of v.1,of v.2):=amc (ahW v) (ag6 v)
theorem Q8{ax bx c:Rat}(h:fD c=true):of (ax+bx*rtQ c)=v2 ax bx c:=by
 unfold v2
 rw[of_add,aE,Rm h]
theorem uA(ax bx ay b_ c:Rat):pR (ow ax bx ay b_ c)=(v2 ax bx c,v2 ay b_ c):=by
 unfold ow
 cases h:fD c
 ·rfl
 ·exact(mC _).trans (amc (Q8 h) (Q8 h))
theorem acL(a b r:RE):(a+ -1*r-a)*(a+ -1*r-a)+(b+0*r-b)*(b+0*r-b)=r*r:=by grind
theorem UH(a b r:RE):(a+1*r-a)*(a+1*r-a)+(b+0*r-b)*(b+0*r-b)=r*r:=by grind
theorem Vn(a r:RE)(h1:a+ -1*r=a+1*r):r≤0:=by grind
theorem UM(a r:RE)(h1:a+ -1*r=a+1*r):0≤r:=by grind
theorem abU(a r:RE)(h1:a+ -1*r=a+1*r):r=0:=le_antisymm (Vn a r h1) (UM a r h1)
theorem abB{c:Ln}(h:0<c.2.2):fA c (pR (mb c))∧fA c (pR (mf c)):=by
 have hr:=dB (show 0≤c.2.2 by grind)
 unfold mb mf
 rw[uA,uA]
 exact⟨(acL _ _ _).trans hr,(UH _ _ _).trans hr⟩
theorem Vy{c:Ln}(h:0<c.2.2):pR (mb c)≠pR (mf c):=by
 unfold mb mf
 rw[uA,uA]
 intro e
 have e1:=abU _ _ (congrArg Prod.fst e)
 have hr:=dB (show 0≤c.2.2 by grind)
 rw[e1,mul_zero]at hr
 have:=nQ hr
 grind
theorem PL{l:Ln}{v:Rat×Rat}(h:l.1*v.1+l.2.1*v.2=l.2.2):(sC l (atP v)==0)=true:=by
 rw[Be,mC]
 exact congrArg of h
theorem Nl{c:Ln}{v:Rat×Rat}(h:(v.1-c.1)*(v.1-c.1)+(v.2-c.2.1)*(v.2-c.2.1)=c.2.2):(oo c (atP v)==0)=true:=by
 rw[tD,mC]
 unfold fA frm
 dsimp only
 rw[←of_sub,←of_sub]
 exact congrArg of h
theorem X6{v w:Rat×Rat}(h:v≠w):aV (atP v) (atP w)≠0:=fun e=>h (by
 have:=cmpP_0.1 e
 rw[mC,mC]at this
 exact amc (nQ (congrArg Prod.fst this)) (nQ (congrArg Prod.snd this)))
end RE
open RE
def gdN(c:BCU):Prop:=mG c∧gi (dC c) (frC (dC c))=true∧gi (dC c) (toC (dC c))=true∧aV (frC (dC c)) (toC (dC c))≠0
theorem gdN.gd{c:BCU}(h:gdN c):gdC c:=⟨h.1.1,h.2.1,h.2.2.1⟩
theorem AR{a b:Rat×Rat}[ba:Bd a 1][bb:Bd b 1](h:yT a b=false):gdN (jy a b):=by
 have hz:(ti a b).1≠0∨(ti a b).2.1≠0:=by
  unfold yT at h
  by_cases e:a.2-b.2=0
  ·rw[akY e,amk]at h
   exact .inr (alQ h)
  ·exact .inl e
 have hne:a≠b:=fun e=>by
  subst e
  unfold ti at hz
  rcases hz with h|h<;>exact h (by show _-_=(0:Rat);grind)
 have b1:Bd (ti a b).1 12:=(inferInstance:Bd (a.2-b.2) _).mono (by decide)
 have b2:Bd (ti a b).2.1 12:=(inferInstance:Bd (b.1-a.1) _).mono (by decide)
 have b3:Bd (ti a b).2.2 63:=(inferInstance:Bd ((a.2-b.2)*a.1+(b.1-a.1)*a.2) _).mono (by decide)
 have hl:=l8 (h:=⟨b1,b2,b3⟩) hz
 have hL:Va (enc (ti a b)):=⟨ak1 (okd (x:=ti a b) (by decide) (by decide)),by rw[az];exact hz⟩
 unfold jy
 rw[h]
 refine⟨⟨⟨fun e=>(by cases e),fun _=>hL,Ce (by decide) (by decide),Ce (by decide) (by decide)⟩,fun e=>(by cases e),fun _=>hl⟩,?_⟩
 simp only[dC,gi,frC,toC,lnC,az,cond_false]
 exact⟨PL (by unfold ti;grind),PL (by unfold ti;grind),X6 hne⟩
theorem yr{c:Ln}[bc:BdC c](h:0<c.2.2):∀d∈vG (enc c),gdN d:=by
 have hs:=gX h
 have bx:=bc.x
 have b_:=bc.y
 have bq:=bc.q
 have b0:Bd (0:Rat) 3:=cV (n:=0) (by decide)
 have b1:Bd (1:Rat) 3:=cV (n:=1) (by decide)
 have hC:vF (enc c):=⟨ak1 (okd (h:=NO (c:=c)) (by decide) (by decide)),by rw[az];exact h⟩
 have q0:(0:Rat)≤c.2.2:=by grind
 have pl:Rpd (mb c):=BW (fun e=>absurd e.1 (by decide)) q0
 have pr:Rpd (mf c):=BW (fun e=>absurd e.1 (by decide)) q0
 have bl:Bd (mb c) 490:=By (bx.mono (by decide:4≤4)) (agn.mono (by decide:3≤3)) b_ b0 bq (by decide)
 have br:Bd (mf c) 490:=By (bx.mono (by decide:4≤4)) b1 b_ b0 bq (by decide)
 have ol:okP 500 (enc (mb c)):=ak1 (aN (by decide) (by decide))
 have or_:okP 500 (enc (mf c)):=ak1 (aN (by decide) (by decide))
 obtain⟨nl,nr_⟩:=abB h
 have nl:=tD.2 nl
 have nr_:=tD.2 nr_
 have ne:=Vy h
 intro d hd
 have:d=(true,o00,enc c,false,enc (mb c),enc (mf c))∨d=(true,o00,enc c,false,enc (mf c),enc (mb c)):=by
  unfold vG at hd
  rw[az]at hd
  simpa using hd
 rcases this with e|e<;>rw[e]
 ·refine⟨⟨⟨fun _=>hC,fun e=>(by cases e),ol,or_⟩,fun _=>hs,fun e=>(by cases e)⟩,?_⟩
  simp only[dC,gi,frC,toC,ciC,az,cond_true]
  exact⟨nl,nr_,fun e=>ne (cmpP_0.1 e)⟩
 ·refine⟨⟨⟨fun _=>hC,fun e=>(by cases e),or_,ol⟩,fun _=>hs,fun e=>(by cases e)⟩,?_⟩
  simp only[dC,gi,frC,toC,ciC,az,cond_true]
  exact⟨nr_,nl,fun e=>ne (cmpP_0.1 e).symm⟩
theorem acz{a b c:Rat×Rat}(h:fa a b c≠0):(c.1-(qH a b c).1)*(c.1-(qH a b c).1)+(c.2-(qH a b c).2.1)*(c.2-(qH a b c).2.1)=(qH a b c).2.2:=by
 have h2:fa a b c+fa a b c≠0:=by grind
 have eX:yC a b c*(fa a b c+fa a b c)=_:=alk h2
 have eY:xf a b c*(fa a b c+fa a b c)=_:=alk h2
 unfold qH
 dsimp only
 generalize yC a b c=X at*
 generalize xf a b c=Y at*
 have k:fa a b c*(2*((c.1-a.1)*X+(c.2-a.2)*Y)-((c.1-a.1)*(c.1-a.1)+(c.2-a.2)*(c.2-a.2)))=0:=by
  unfold fa at*
  grind
 rcases anf.1 k with g|g
 ·exact absurd g h
 ·grind
theorem ad8{a b c:Rat×Rat}(h:fa a b c≠0)(e:a=c):False:=by
 subst e
 refine h ?_
 unfold fa
 grind
theorem adf{a b c:Rat×Rat}[a1:Bb a.1 7 2][a2:Bb a.2 7 2][b1:Bb b.1 7 2][b2:Bb b.2 7 2][c1:Bb c.1 7 2][c2:Bb c.2 7 2]:BdC (qH a b c):=by
 have d:Bb ((b.1-a.1)*(c.2-a.2)-(b.2-a.2)*(c.1-a.1)) _ _:=inferInstance
 have d:Bb (fa a b c) _ _:=d
 have X:Bb ((((b.1-a.1)*(b.1-a.1)+(b.2-a.2)*(b.2-a.2))*(c.2-a.2)-((c.1-a.1)*(c.1-a.1)+(c.2-a.2)*(c.2-a.2))*(b.2-a.2))/(fa a b c+fa a b c)) _ _:=inferInstance
 have X:Bb (yC a b c) _ _:=X
 have Y:Bb ((((c.1-a.1)*(c.1-a.1)+(c.2-a.2)*(c.2-a.2))*(b.1-a.1)-((b.1-a.1)*(b.1-a.1)+(b.2-a.2)*(b.2-a.2))*(c.1-a.1))/(fa a b c+fa a b c)) _ _:=inferInstance
 have Y:Bb (xf a b c) _ _:=Y
 have x1:Bb (a.1+yC a b c) _ _:=inferInstance
 have x2:Bb (a.2+xf a b c) _ _:=inferInstance
 have x3:Bb (yC a b c*yC a b c+xf a b c*xf a b c) _ _:=inferInstance
 exact⟨Eg (h:=x1) (by decide) (by decide),Eg (h:=x2) (by decide) (by decide),Eg (h:=x3) (by decide) (by decide)⟩
theorem zY{x y:Rat}(h:¬(x=0∧y=0)):0<x*x+y*y:=by
 have nn:∀a:Rat,0≤a*a:=fun a=>by
  rcases(by grind:0≤a∨0≤ -a)with h|h
  ·exact alj h h
  ·have:=alj h h;grind
 have h1:=nn x
 have h2:=nn y
 rcases(by grind:0<x*x+y*y∨(x*x=0∧y*y=0))with g|⟨g1,g2⟩
 ·exact g
 ·exact absurd ⟨by simpa using anf.1 g1,by simpa using anf.1 g2⟩ h
theorem GE{a b c:Rat×Rat}[Bd a 1][Bd c 1][bc:BdC (qH a b c)](h:fa a b c≠0):gdN (l4 a b c):=by
 have hon:=acz h
 have hne:a≠c:=fun e=>ad8 h e
 have hq:0<(qH a b c).2.2:=by
  refine zY fun⟨e1,e2⟩=>hne ?_
  unfold qH at hon
  dsimp only at hon
  rw[e1,e2]at hon
  by_cases g:c.1-(a.1+0)=0∧c.2-(a.2+0)=0
  ·obtain⟨g1,g2⟩:=g
   exact amc (by grind) (by grind)
  ·have:=zY g
   grind
 have hs:=gX (h:=bc) hq
 have bx:=bc.x
 have b_:=bc.y
 have bq:=bc.q
 have hC:vF (enc (qH a b c)):=⟨ak1 (okd (h:=NO (c:=qH a b c)) (by decide) (by decide)),by rw[az];exact hq⟩
 unfold l4
 rw[ak0 h]
 refine⟨⟨⟨fun _=>hC,fun e=>(by cases e),Ce (by decide) (by decide),Ce (by decide) (by decide)⟩,fun _=>hs,fun e=>(by cases e)⟩,?_⟩
 simp only[dC,gi,frC,toC,ciC,az,cond_true,cond_false]
 refine⟨Nl ?_,Nl hon,X6 hne⟩
 unfold qH
 grind
theorem CE{x:Dr}(h:AW x):∀c∈ofL x,gdN c:=by
 obtain⟨h1,h2,hA,hB,hC,hD,hE,hF⟩:=h
 have a1:Bb (drA x).1 7 2:=yA hA h2
 have a2:Bb (drA x).2 7 2:=yA hB h2
 have b1:Bb (drB x).1 7 2:=yA hC h2
 have b2:Bb (drB x).2 7 2:=yA hD h2
 have c1:Bb (drC x).1 7 2:=yA hE h2
 have c2:Bb (drC x).2 7 2:=yA hF h2
 have l:∀{q:Rat},Bb q 7 2→Bd q 1:=fun h=>Eg (h:=h) (by decide) (by decide)
 have m:∀v:Rat×Rat,Bb v.1 7 2→Bb v.2 7 2→Bd v 1:=fun v g g'=>by
  have:=l g
  have:=l g'
  exact inferInstanceAs (Bd (v.1,v.2) _)
 have vA:=m _ a1 a2
 have vB:=m _ b1 b2
 have vC:=m _ c1 c2
 intro c hc
 unfold ofL at hc
 cases h3:x.1%3==2
 ·rw[h3,cond_false]at hc
  cases h4:x.1%3==1
  ·rw[h4,cond_false]at hc
   cases h5:yT (drA x) (drB x)
   ·have:m9 (drA x) (drB x)=0:=by unfold m9;rw[h5];rfl
    rw[this]at hc
    have:c=jy (drA x) (drB x):=by simpa using hc
    rw[this]
    exact AR h5
   ·have:m9 (drA x) (drB x)=6:=by unfold m9;rw[h5];rfl
    rw[this]at hc
    cases hc
  ·rw[h4,cond_true]at hc
   by_cases h5:fa (drA x) (drB x) (drC x)=0
   ·have:lX (drA x) (drB x) (drC x)=6:=by unfold lX;rw[akY h5];rfl
    rw[this]at hc
    cases hc
   ·have:lX (drA x) (drB x) (drC x)=0:=by unfold lX;rw[ak0 h5];rfl
    rw[this]at hc
    have:c=l4 (drA x) (drB x) (drC x):=by simpa using hc
    rw[this]
    have:=adf (a:=drA x) (b:=drB x) (c:=drC x)
    exact GE h5
 ·rw[h3,cond_true]at hc
  by_cases h5:(drB x).1≤0
  ·rw[akY h5]at hc
   cases hc
  ·rw[ak0 h5]at hc
   have bq:BdC (drQ x):=⟨(l a1).mono (by decide),(l a2).mono (by decide),(l b1).mono (by decide)⟩
   exact yr (c:=drQ x) (show 0<(drB x).1 by grind) c hc
end
namespace RE
theorem aan{a b:Rt}[ha:Rdd a][hb:Rdd b]:vR (uP a b)=mnE (vR a) (vR b):=by
 unfold uP mnE
 rw[cmpT_re hb.nn ha.nn]
 by_cases h:vR b<vR a
 ·rw[alr h,akY (by rw[gu (tX _ _ h)];decide)]
  rfl
 ·rw[alm h,ak0 (by
   intro g
   exact h (ab8 (by rw[←VQ];exact jT (E5.1 g))))]
  rfl
theorem DL(a b:RE):mnE a b=mnE b a:=by
 unfold mnE
 rcases mi a b with h|h|h
 ·rw[alm (fun g=>lt_irrefl _ (cU h g)),alr h]
 ·rw[h]
 ·rw[alr h,alm (fun g=>lt_irrefl _ (cU h g))]
def vE(v:Rat×Rat):PE:=(of v.1,of v.2)
theorem vR_sq{p:Pt}[Rpd p](v:Rat×Rat):vR (sqP p v)=dsE (pR p) (vE v):=E8
theorem Gp{c:Cv}(hf:Rpd (frC c))(ht:Rpd (toC c))(v:Rat×Rat):vR (A4 c v)=mnE (dsE (pR (frC c)) (vE v)) (dsE (pR (toC c)) (vE v)):=by
 unfold A4
 rw[aan,vR_sq,vR_sq]
theorem xD{c:Cv}[hf:Rpd (frC c)][ht:Rpd (toC c)]{p:Pt}[hp:Rpd p]:rG c p=true↔btE (tE (lnC c) (pR (frC c))) (tE (lnC c) (pR (toC c))) (tE (lnC c) (pR p)):=by
 unfold rG
 rw[tW,tW,tW,tW,tW]
 exact Aw _ _ _
theorem OY(l:Ln)(v:Rat×Rat):exE l (vE v)=of (l.1*v.1+l.2.1*v.2-l.2.2):=by
 rw[of_sub]
 rfl
theorem EQ{l:Ln}(hl:l.1≠0∨l.2.1≠0)(v:Rat×Rat):a8 (cQ v (d8 l v)) (cQ v (d8 l v))=(l.1*v.1+l.2.1*v.2-l.2.2)*(l.1*v.1+l.2.1*v.2-l.2.2)*(1/(l.1*l.1+l.2.1*l.2.1)):=by
 have hn:=jV hl
 have h1:1/(l.1*l.1+l.2.1*l.2.1)*(l.1*l.1+l.2.1*l.2.1)=1:=alk hn
 have h2:mA l v=(l.1*v.1+l.2.1*v.2-l.2.2)*(1/(l.1*l.1+l.2.1*l.2.1)):=by
  unfold mA
  rw[anH,anH,Rat.one_mul]
 unfold a8 cQ d8
 rw[h2]
 generalize 1/(l.1*l.1+l.2.1*l.2.1)=k at*
 generalize l.1*v.1+l.2.1*v.2-l.2.2=e at*
 dsimp only
 grind
theorem S3{c:Cv}(h:GdE c)(ha:c.1=false)(v:Rat×Rat):Mn (m9 (lnC c) (pR (frC c)) (pR (toC c))) (vE v) (vR (nU c v)):=by
 have hf:=h.f
 have ht:=h.t
 obtain⟨hl,oF,oT⟩:=h.l ha
 have hn:0<nrE (lnC c):=B0 hl
 have hb:=xD (c:=c) (p:=atP v)
 have ev:pR (atP v)=vE v:=mC v
 rw[ev]at hb
 unfold nU
 rw[ha,cond_false]
 cases e:rG c (atP v)
 ·rw[cond_false,Gp hf ht]
  rw[e]at hb
  exact Is hn oF oT (fun g=>by cases hb.2 g)
 ·rw[cond_true]
  have hk:=jV hl
  have h1:1/((lnC c).1*(lnC c).1+(lnC c).2.1*(lnC c).2.1)*((lnC c).1*(lnC c).1+(lnC c).2.1*(lnC c).2.1)=1:=alk hk
  have ek:nrE (lnC c)*of (1/((lnC c).1*(lnC c).1+(lnC c).2.1*(lnC c).2.1))=1:=by
   have:nrE (lnC c)=of ((lnC c).1*(lnC c).1+(lnC c).2.1*(lnC c).2.1):=rfl
   rw[this,mul_comm,←aE,h1]
   rfl
  have kp:0<of (1/((lnC c).1*(lnC c).1+(lnC c).2.1*(lnC c).2.1)):=by
   have:=dk (nrE (lnC c)) (of (1/((lnC c).1*(lnC c).1+(lnC c).2.1*(lnC c).2.1)))
   rw[ek,cY zero_lt_one,cY hn,amg]at this
   exact BS.1 this.symm
  have:=wc hn (hb.1 e) kp ek
  have e2:vR (a8 (cQ v (d8 (lnC c) v)) (cQ v (d8 (lnC c) v)),0,0)=of (a8 (cQ v (d8 (lnC c) v)) (cQ v (d8 (lnC c) v))):=dS _ _
  rw[e2,EQ hl,aE,aE,←OY]
  exact this
theorem SK(x y a b v w:RE):(x-v)*(x-v)+(y-w)*(y-w)=(x-a)*(x-a)+(y-b)*(y-b)+((v-a)*(v-a)+(w-b)*(w-b))-(((x-a)*(v-a)+(y-b)*(w-b))+((x-a)*(v-a)+(y-b)*(w-b))):=by grind
theorem VN(a b c d r:RE):a*(d*r)-b*(c*r)=r*(a*d-b*c):=by grind
theorem VH(a b c d r:RE):c*r*b-d*r*a=r*(c*b-d*a):=by grind
theorem adJ(a b r:RE):a*r*a+b*r*b=r*(a*a+b*b):=by grind
theorem aea(a b:RE):a+b-a=b:=by grind
theorem PM(q s t u:RE)(h1:s≤t):q+u-(t+t)≤q+u-(s+s):=by grind
theorem akv(r d:RE):r*d*(r*d)=r*r*d*d:=by grind
theorem CI(c t m:RE)(h1:c*c+t*t=m):t*t≤m:=by have:=fQ (c);grind
theorem YV(t s:RE)(h1:t≤0)(h2:0≤s):t≤s:=by grind
theorem Z0(a b r:RE):a*r*(a*r)+b*r*(b*r)=(a*a+b*b)*(r*r):=by grind
theorem Xj(a s:RE):a+ -2*s=a-(s+s):=by grind
theorem rT{c:Ln}{p:PE}(h:fA c p)(v:PE):dsE p v=of c.2.2+dtE (frm c v) (frm c v)-(dtE (frm c p) (frm c v)+dtE (frm c p) (frm c v)):=by
 have h':(p.1-of c.1)*(p.1-of c.1)+(p.2-of c.2.1)*(p.2-of c.2.1)=of c.2.2:=h
 unfold dsE dtE frm
 dsimp only
 rw[SK _ _ (of c.1) (of c.2.1),h']
theorem AV{c:Ln}{p q:PE}(hp:fA c p)(hq:fA c q){v:PE}(h:dtE (frm c p) (frm c v)≤dtE (frm c q) (frm c v)):dsE q v≤dsE p v:=by
 rw[rT hp,rT hq]
 exact PM _ _ _ _ h
theorem pH(u w:PE):mH u w u=true∧mH u w w=true:=by
 have z:∀x:PE,crs x x=0:=fun x=>by unfold crs;rw[mul_comm,sub_self]
 rcases lt_or_ge (crs u w) 0 with h|h
 ·exact⟨(Oj h).2 (fun g=>by rw[z u]at g;exact lt_irrefl _ g.2),(Oj h).2 (fun g=>by rw[z w]at g;exact lt_irrefl _ g.1)⟩
 ·exact⟨(LW h).2 ⟨by rw[z u];exact le_refl _,h⟩,(LW h).2 ⟨h,by rw[z w];exact le_refl _⟩⟩
theorem zp(u w d:PE){r:RE}(hr:0<r):mH u w (d.1*r,d.2*r)=mH u w d:=by
 have h1:crs u (d.1*r,d.2*r)=r*crs u d:=VN _ _ _ _ _
 have h2:crs (d.1*r,d.2*r) w=r*crs d w:=VH _ _ _ _ _
 unfold mH
 rw[h1,h2,dk,dk,cY hr,amg,amg]
theorem NQ{q:Pt}:pX (rdP q)=pX q∧pY (rdP q)=pY q:=by
 unfold rdP pX pY
 by_cases h1:q.2.1=0
 ·by_cases h2:q.2.2.2.1=0
  ·rw[akY h1,akY h2]
   dsimp only
   rw[h1,h2,dS,dS,dS,dS]
   exact⟨rfl,rfl⟩
  ·rw[ak0 h2,Bool.and_false]
   exact⟨rfl,rfl⟩
 ·rw[ak0 h1,Bool.false_and]
  exact⟨rfl,rfl⟩
theorem Yp{x y:Rt}(h:vw x y):pR (mkP x y)=(vR x,vR y):=by
 unfold mkP
 refine amc (NQ.1.trans ?_) (NQ.2.trans ?_)
 ·unfold pX vR
  dsimp only
  by_cases e:x.2.1=0
  ·rw[e,dS,dS]
  ·rw[ak0 e]
   rfl
 ·unfold pY vR
  dsimp only
  by_cases e:x.2.1=0
  ·rw[akY e]
   rfl
  ·rw[ak0 e]
   rcases h with h|h|h
   ·exact absurd h e
   ·rw[h,dS,dS]
   ·rw[cond_false,h]
theorem wg(c:Ln)(d:Rat×Rat):frm c (pR (qF c d))=(of d.1*rq (c.2.2/a8 d d),of d.2*rq (c.2.2/a8 d d)):=by
 unfold qF
 rw[Yp (qt _ _ _ _ _),vR_mk,vR_mk]
 unfold frm v2
 exact amc (aea _ _) (aea _ _)
theorem Ih(c:Ln)(v:Rat×Rat):frm c (vE v)=vE (cQ (ctr c) v):=by
 unfold frm vE cQ ctr
 dsimp only
 rw[of_sub,of_sub]
theorem QS(d:Rat×Rat):dtE (vE d) (vE d)=of (a8 d d):=rfl
theorem Ey{m:Rat}(h:0<m):0<rq m:=by
 have:=QR (m:=m) (by grind)
 rw[dp h]at this
 exact BS.1 this
theorem pq(c:Cv):(ccF c=frC c∧ccT c=toC c)∨(ccF c=toC c∧ccT c=frC c):=by
 unfold ccF ccT
 cases cwC c
 ·exact .inl ⟨rfl,rfl⟩
 ·exact .inr ⟨rfl,rfl⟩
theorem Z5{c:Cv}(hq:0<(ciC c).2.2){v:Rat×Rat}(hz:zeV (aW c v)=false)(on:fA (ciC c) (pR (qF (ciC c) (aW c v)))):dsE (pR (qF (ciC c) (aW c v))) (vE v)=of (a8 (aW c v) (aW c v)+(ciC c).2.2)-(rq (a8 (aW c v) (aW c v)*(ciC c).2.2)+rq (a8 (aW c v) (aW c v)*(ciC c).2.2)):=by
 have hq0:(0:Rat)≤(ciC c).2.2:=by grind
 have d0:=nO (aW c v)
 have m0:0≤a8 (aW c v) (aW c v)*(ciC c).2.2:=alj d0 hq0
 have hs:=dB m0
 have hs0:=gh (a8 (aW c v) (aW c v)*(ciC c).2.2)
 have hD:frm (ciC c) (vE v)=vE (aW c v):=Ih _ _
 have n0:=BN hq0 d0
 have rr:=dB n0
 have r0:=gh ((ciC c).2.2/a8 (aW c v) (aW c v))
 have hdt:dtE (frm (ciC c) (pR (qF (ciC c) (aW c v)))) (frm (ciC c) (vE v))=rq (a8 (aW c v) (aW c v)*(ciC c).2.2):=by
  rw[hD,wg]
  have e1:dtE (of (aW c v).1*rq ((ciC c).2.2/a8 (aW c v) (aW c v)),of (aW c v).2*rq ((ciC c).2.2/a8 (aW c v) (aW c v))) (vE (aW c v))=rq ((ciC c).2.2/a8 (aW c v) (aW c v))*of (a8 (aW c v) (aW c v)):=adJ _ _ _
  rw[e1]
  refine Dt _ _ (bg r0 (gN.2 d0)) hs0 ?_
  rw[hs,akv,rr,←aE,←aE,alk (wM hz),amO]
 rw[rT on,hdt,hD,QS,of_add,add_comm (of (a8 _ _))]
theorem aaK{c:Cv}{v:Rat×Rat}(hz:zeV (aW c v)=true){p:PE}(on:fA (ciC c) p):dsE p (vE v)=of (a8 (aW c v) (aW c v)+(ciC c).2.2)-(rq (a8 (aW c v) (aW c v)*(ciC c).2.2)+rq (a8 (aW c v) (aW c v)*(ciC c).2.2)):=by
 have hD:frm (ciC c) (vE v)=vE (aW c v):=Ih _ _
 have z0:(aW c v).1=0∧(aW c v).2=0:=by
  unfold zeV at hz
  obtain⟨a,b⟩:=ak8.1 hz
  exact⟨ak1 a,ak1 b⟩
 have dz:a8 (aW c v) (aW c v)=0:=by
  unfold a8
  rw[z0.1,z0.2]
  decide+kernel
 have hdt:dtE (frm (ciC c) p) (frm (ciC c) (vE v))=0:=by
  rw[hD]
  unfold dtE vE
  dsimp only
  rw[z0.1,z0.2]
  show _*0+_*0=(0:RE)
  rw[mul_zero,mul_zero,add_zero]
 rw[rT on,hdt,hD,QS,dz,Rat.zero_mul,Ip,Rat.zero_add]
 show _+(0:RE)-_=_
 rw[add_zero]
theorem Js{c:Cv}(h:GdE c)(ha:c.1=true){v:Rat×Rat}(hz:zeV (aW c v)=false):fA (ciC c) (pR (qF (ciC c) (aW c v)))∧fb c (aW c v)=mH (frm (ciC c) (pR (ccF c))) (frm (ciC c) (pR (ccT c))) (vE (aW c v)):=by
 have hq:=(h.q ha).1
 have hq0:(0:Rat)≤(ciC c).2.2:=by grind
 have hC:Cir (ciC c):=⟨hq⟩
 have d0:=nO (aW c v)
 have n0:0<(ciC c).2.2/a8 (aW c v) (aW c v):=by
  have h1:(ciC c).2.2/a8 (aW c v) (aW c v)*a8 (aW c v) (aW c v)=(ciC c).2.2:=alk (wM hz)
  have h2:=BN hq0 d0
  rcases(by grind:(ciC c).2.2/a8 (aW c v) (aW c v)=0∨0<(ciC c).2.2/a8 (aW c v) (aW c v))with h3|h3
  ·rw[h3]at h1;grind
  ·exact h3
 have hr:=Ey n0
 have rr:=dB (show 0≤(ciC c).2.2/a8 (aW c v) (aW c v) by grind)
 have onray:fA (ciC c) (pR (qF (ciC c) (aW c v))):=by
  show(frm _ _).1*(frm _ _).1+(frm _ _).2*(frm _ _).2=_
  rw[wg]
  have:of (aW c v).1*rq ((ciC c).2.2/a8 (aW c v) (aW c v))*(of (aW c v).1*rq ((ciC c).2.2/a8 (aW c v) (aW c v)))+of (aW c v).2*rq ((ciC c).2.2/a8 (aW c v) (aW c v))*(of (aW c v).2*rq ((ciC c).2.2/a8 (aW c v) (aW c v)))=of (a8 (aW c v) (aW c v))*(rq ((ciC c).2.2/a8 (aW c v) (aW c v))*rq ((ciC c).2.2/a8 (aW c v) (aW c v))):=Z0 _ _ _
  rw[this,rr,←aE,amO,alk (wM hz)]
 refine⟨onray,?_⟩
 have e1:fb c (aW c v)=onP c (qF (ciC c) (aW c v)):=by
  unfold fb
  rw[ha,hz]
  rfl
 rw[e1,←zp _ _ (vE (aW c v)) hr,ang,lL h]
 unfold onE lX
 rw[alr ha,wg]
 exact and_iff_right onray
theorem UO{c:Cv}(h:GdE c)(ha:c.1=true)(v:Rat×Rat):Mn (lX (ciC c) (pR (ccF c)) (pR (ccT c))) (vE v) (vR (nU c v)):=by
 have hf:=h.f
 have ht:=h.t
 obtain⟨hq,oF,oT⟩:=h.q ha
 have oF:fA (ciC c) (pR (frC c)):=oF
 have oT:fA (ciC c) (pR (toC c)):=oT
 have hq0:(0:Rat)≤(ciC c).2.2:=by grind
 have oU:fA (ciC c) (pR (ccF c)):=by rcases pq c with⟨e,_⟩|⟨e,_⟩<;>rw[e]<;>assumption
 have oW:fA (ciC c) (pR (ccT c)):=by rcases pq c with⟨_,e⟩|⟨_,e⟩<;>rw[e]<;>assumption
 have hne:frm (ciC c) (pR (ccF c))≠frm (ciC c) (pR (ccT c)):=fun e=>by
  have e1:pR (ccF c)=pR (ccT c):=amc (gD _ _ _ (congrArg Prod.fst e)) (gD _ _ _ (congrArg Prod.snd e))
  rcases pq c with⟨g1,g2⟩|⟨g1,g2⟩<;>rw[g1,g2]at e1
  ·exact h.ne e1
  ·exact h.ne e1.symm
 have sU:lX (ciC c) (pR (ccF c)) (pR (ccT c)) (pR (ccF c)):=⟨oU,(pH _ _).1⟩
 have sW:lX (ciC c) (pR (ccF c)) (pR (ccT c)) (pR (ccT c)):=⟨oW,(pH _ _).2⟩
 have hD:frm (ciC c) (vE v)=vE (aW c v):=Ih _ _
 have hDD:dtE (frm (ciC c) (vE v)) (frm (ciC c) (vE v))=of (a8 (aW c v) (aW c v)):=by rw[hD,QS]
 have hgen:onE c=lX (ciC c) (pR (ccF c)) (pR (ccT c)):=by funext p;unfold onE;rw[alr ha]
 have hC:Cir (ciC c):=⟨hq⟩
 have d0:=nO (aW c v)
 have m0:0≤a8 (aW c v) (aW c v)*(ciC c).2.2:=alj d0 hq0
 have hs:=dB m0
 have hs0:=gh (a8 (aW c v) (aW c v)*(ciC c).2.2)
 unfold nU
 rw[ha,cond_true]
 cases e:fb c (aW c v)
 ·rw[cond_false,Gp hf ht]
  have hz:zeV (aW c v)=false:=by
   cases g:zeV (aW c v)
   ·rfl
   ·unfold fb at e
    rw[g,ha]at e
    cases e
  have hd:¬mH (frm (ciC c) (pR (ccF c))) (frm (ciC c) (pR (ccT c))) (vE (aW c v))=true:=fun g=>by
   rw[←(Js h ha hz).2,e]at g
   cases g
  have res:=Cb (v:=vE v) sU sW (fun p hp=>by
   have:=If (u:=frm (ciC c) (pR (ccF c))) (w:=frm (ciC c) (pR (ccT c))) (z:=frm (ciC c) p) (d:=vE (aW c v)) oU oW hp.1 hne hp.2 hd
   rw[←hD]at this
   exact this.imp (AV hp.1 oU) (AV hp.1 oW))
  rcases pq c with⟨g1,g2⟩|⟨g1,g2⟩
  ·rw[g1,g2]at res ⊢
   exact res
  ·rw[g1,g2]at res ⊢
   rw[DL]
   exact res
 ·rw[cond_true,vR_mk]
  unfold v2
  have two:of (-2)= -2:=rfl
  rw[two,Xj]
  have low:∀p,lX (ciC c) (pR (ccF c)) (pR (ccT c)) p→of (a8 (aW c v) (aW c v)+(ciC c).2.2)-(rq (a8 (aW c v) (aW c v)*(ciC c).2.2)+rq (a8 (aW c v) (aW c v)*(ciC c).2.2))≤dsE p (vE v):=fun p hp=>by
   have h1:=Fe (frm (ciC c) p).1 (frm (ciC c) p).2 (frm (ciC c) (vE v)).1 (frm (ciC c) (vE v)).2
   have h2:(frm (ciC c) p).1*(frm (ciC c) p).1+(frm (ciC c) p).2*(frm (ciC c) p).2=of (ciC c).2.2:=hp.1
   have h3:(frm (ciC c) (vE v)).1*(frm (ciC c) (vE v)).1+(frm (ciC c) (vE v)).2*(frm (ciC c) (vE v)).2=of (a8 (aW c v) (aW c v)):=hDD
   rw[h2,h3,←aE,amO,←hs]at h1
   have h4:=CI _ _ _ h1
   have h5:dtE (frm (ciC c) p) (frm (ciC c) (vE v))≤rq (a8 (aW c v) (aW c v)*(ciC c).2.2):=by
    rcases lt_or_ge 0 (dtE (frm (ciC c) p) (frm (ciC c) (vE v)))with g|g
    ·exact Aa _ _ (le_of_lt g) hs0 h4
    ·exact YV _ _ g hs0
   rw[rT hp.1,hDD,of_add,add_comm (of (a8 _ _))]
   exact PM _ _ _ _ h5
  refine⟨?_,low⟩
  cases hz:zeV (aW c v)
  ·-- the point in this direction
   have hon:onE c (pR (qF (ciC c) (aW c v))):=by
    unfold fb at e
    rw[ha,hz]at e
    exact(lL h).1 e
   rw[hgen]at hon
   exact⟨_,hon,Z5 hq hz hon.1⟩
  ·exact⟨_,sU,aaK hz oU⟩
theorem acS{c:Cv}(h:GdE c)(v:Rat×Rat):Mn (onE c) (vE v) (vR (nU c v)):=by
 cases ha:c.1
 ·have:onE c=m9 (lnC c) (pR (frC c)) (pR (toC c)):=by
   funext p
   unfold onE
   rw[alm (by rw[ha];decide)]
  rw[this]
  exact S3 h ha v
 ·have:onE c=lX (ciC c) (pR (ccF c)) (pR (ccT c)):=by
   funext p
   unfold onE
   rw[alr ha]
  rw[this]
  exact UO h ha v
end RE
section
def rcX(p:Pt)(v:Rat×Rat):Rat×Rat:=(p.1-v.1,p.2.1)
def rcY(p:Pt)(v:Rat×Rat):Rat×Rat:=(p.2.2.1-v.2,p.2.2.2.1)
def prQ(q:Qd)(x y:Rat×Rat)(s:Rat):Qd:=(q.1+s*(x.1*y.1),q.2.1+s*(x.2*y.1),q.2.2.1+s*(x.1*y.2),q.2.2.2.1+s*(x.2*y.2),q.2.2.2.2.1,q.2.2.2.2.2)
def noQ(p q:Pt):Qd:=(0,0,0,0,p.2.2.2.2,q.2.2.2.2)
def crQ(v:Rat×Rat)(p q:Pt):Qd:=prQ (prQ (noQ p q) (rcX p v) (rcY q v) 1) (rcY p v) (rcX q v) (-1)
def doQ(v:Rat×Rat)(p q:Pt):Qd:=prQ (prQ (noQ p q) (rcX p v) (rcX q v) (-2)) (rcY p v) (rcY q v) (-2)
def z2:Rat×Rat:=(0,0)
def apQ(p q:Pt)(r:Rat):Qd:=((doQ z2 p q).1+(sqA p z2+sqA q z2)-r*r,(doQ z2 p q).2.1+sqB p z2,(doQ z2 p q).2.2.1+sqB q z2,(doQ z2 p q).2.2.2.1,p.2.2.2.2,q.2.2.2.2)
section
variable {p:Pt} {v:Rat×Rat} {j k:Nat}
instance (priority:=2000) bd_sqA' [h:Bd p j] [h':Bd v k]:Bd (sqA p v) (10*(j+k+1)):=by
 have a1:Bd (p.1-v.1) _:=inferInstance
 have a2:Bd (p.2.2.1-v.2) _:=inferInstance
 have a3:Bd (p.2.1*p.2.1+p.2.2.2.1*p.2.2.2.1) _:=inferInstance
 have i:Bd ((p.1-v.1)*(p.1-v.1)+(p.2.2.1-v.2)*(p.2.2.1-v.2)+(p.2.1*p.2.1+p.2.2.2.1*p.2.2.2.1)*p.2.2.2.2) _:=inferInstance
 exact i.mono (by omega)
instance (priority:=2000) bd_sqB' [h:Bd p j] [h':Bd v k]:Bd (sqB p v) (10*(j+k+1)):=by
 have a1:Bd (p.1-v.1) _:=inferInstance
 have a2:Bd (p.2.2.1-v.2) _:=inferInstance
 have i:Bd ((p.1-v.1)*p.2.1+(p.2.2.1-v.2)*p.2.2.2.1+((p.1-v.1)*p.2.1+(p.2.2.1-v.2)*p.2.2.2.1)) _:=inferInstance
 exact i.mono (by omega)
instance (priority:=2000) bd_sqP' [h:Bd p j] [h':Bd v k]:Bd (sqP p v) (10*(j+k+1)):=by
 have a:Bd (sqA p v) (10*(j+k+1)):=bd_sqA'
 have b:Bd (sqB p v) (10*(j+k+1)):=bd_sqB'
 have i:Bd (coR (sqA p v) (sqB p v) p.2.2.2.2) (mx (10*(j+k+1)) (mx (10*(j+k+1)) j)):=inferInstance
 exact i.mono (fo (by omega) (fo (by omega) (by omega)))
end
namespace RE
theorem Vp(A B C D m n s a b c d:RE):A+s*(a*c)+(B+s*(b*c))*m+(C+s*(a*d))*n+(D+s*(b*d))*(m*n)=A+B*m+C*n+D*(m*n)+s*((a+b*m)*(c+d*n)):=by grind
theorem U6(A B C D m n a b c d r:RE):A+(a+c)-r+(B+b)*m+(C+d)*n+D*(m*n)=A+B*m+C*n+D*(m*n)+(a+b*m)+(c+d*n)-r:=by grind
theorem afz(x y u w:RE):0+ -2*((x-0)*(u-0))+ -2*((y-0)*(w-0))+((x-0)*(x-0)+(y-0)*(y-0))+((u-0)*(u-0)+(w-0)*(w-0))=(x-u)*(x-u)+(y-w)*(y-w):=by grind
theorem ajl(a b:RE):0+1*a+ -1*b=a-b:=by grind
theorem Pp(a v b:RE):a-v+b=a+b-v:=by grind
theorem LA(u t:RE):u*u-t*t=(u-t)*(u+t):=by grind
theorem ae9(Q r t:RE):Q+r*r+(r+r)*t=(t+r)*(t+r)+(Q-t*t):=by grind
theorem aaA(Q r t:RE):Q+r*r+ -(r+r)*t=(t-r)*(t-r)+(Q-t*t):=by grind
theorem abj(u t r:RE):u*u+t*t-(u*t+u*t)-r*r=(u-(t+r))*(u-(t-r)):=by grind
theorem ahg(u t r:RE)(h1:0<u)(h2:0<t)(h3:0≤r):0<u+(t+r):=by grind
theorem ajA(u t r:RE)(h1:0<u)(h2:r<t):0<u+(t-r):=by grind
theorem ajs(u t r:RE)(h1:0<u-(t+r))(h2:0≤r):0<u-(t-r):=by grind
theorem ajq(u t r:RE)(h1:0<u)(h2:t≤r):0<u-(t-r):=by grind
theorem DZ(x y t:RE)(h1:x≤y):x-t≤y-t:=by grind
theorem Gt(x y:RE):((y*y-(x*x)))+((x-(y))*(x-(y)))+2*((x-(y))*(y-(0)))=0:=by grind
theorem N7(x y:RE)(h1:y≤x)(h2:0≤y):y*y≤x*x:=fun hg=>far (aI (aI (aJ hg) (bg (aC h1) (aC h1))) (iC (by decide+kernel:(0:Rat)<2) (bg (aC h1) (aC h2)))) (Gt x y)
theorem Tu(a b:RE):a*b*(a*b)=a*a*(b*b):=by grind
theorem PJ(n e k r:RE):n*(e*k-r)=e*(n*k)-r*n:=by grind
def vq(q:Qd):RE:=vQ q.1 q.2.1 q.2.2.1 q.2.2.2.1 q.2.2.2.2.1 q.2.2.2.2.2
theorem xE{q:Qd}(h:0≤q.2.2.2.2.1)(h':0≤q.2.2.2.2.2):sgQ q=sg (vq q):=sgnQ_re h h'
theorem I8(q:Qd)(x y:Rat×Rat)(s:Rat):vq (prQ q x y s)=vq q+of s*(v2 x.1 x.2 q.2.2.2.2.1*v2 y.1 y.2 q.2.2.2.2.2):=by
 unfold vq vQ prQ v2
 simp only[of_add,aE]
 exact Vp _ _ _ _ _ _ _ _ _ _ _
theorem of0:of 0=0:=rfl
theorem Xc(p q:Pt):vq (noQ p q)=0:=by
 unfold vq vQ noQ
 dsimp only
 rw[of0,zero_mul,zero_mul,zero_mul,add_zero,add_zero,add_zero]
def sbE(v:Rat×Rat)(p:PE):PE:=(p.1-of v.1,p.2-of v.2)
theorem Ar(p:Pt)(v:Rat×Rat):v2 (rcX p v).1 (rcX p v).2 p.2.2.2.2=(sbE v (pR p)).1:=by
 unfold rcX sbE pR pX v2
 dsimp only
 rw[of_sub,Pp]
theorem BH(p:Pt)(v:Rat×Rat):v2 (rcY p v).1 (rcY p v).2 p.2.2.2.2=(sbE v (pR p)).2:=by
 unfold rcY sbE pR pY v2
 dsimp only
 rw[of_sub,Pp]
def turS(v:Rat×Rat)(p q:PE):Int:=sg (crs (sbE v p) (sbE v q))
theorem crQ_re(v:Rat×Rat){p q:Pt}[hp:Rpd p][hq:Rpd q]:sgQ (crQ v p q)=turS v (pR p) (pR q):=by
 rw[xE (q:=crQ v p q) (show 0≤p.2.2.2.2 from hp.nn) (show 0≤q.2.2.2.2 from hq.nn)]
 unfold crQ
 rw[I8,I8,Xc]
 show sg (0+of 1*(v2 (rcX p v).1 (rcX p v).2 p.2.2.2.2*v2 (rcY q v).1 (rcY q v).2 q.2.2.2.2)+of (-1)*(v2 (rcY p v).1 (rcY p v).2 p.2.2.2.2*v2 (rcX q v).1 (rcX q v).2 q.2.2.2.2))=_
 rw[Ar,Ar,BH,BH]
 exact congrArg sg (ajl _ _)
def apaS(p q:PE)(r:Rat):Int:=sg (dsE p q-of (r*r))
theorem apQ_re{p q:Pt}[hp:Rpd p][hq:Rpd q](r:Rat):sgQ (apQ p q r)=apaS (pR p) (pR q) r:=by
 rw[xE (q:=apQ p q r) (show 0≤p.2.2.2.2 from hp.nn) (show 0≤q.2.2.2.2 from hq.nn)]
 have e1:vq (doQ z2 p q)=0+ -2*((pX p-0)*(pX q-0))+ -2*((pY p-0)*(pY q-0)):=by
  unfold doQ
  rw[I8,I8,Xc]
  show 0+of (-2)*(v2 (rcX p z2).1 (rcX p z2).2 p.2.2.2.2*v2 (rcX q z2).1 (rcX q z2).2 q.2.2.2.2)+of (-2)*(v2 (rcY p z2).1 (rcY p z2).2 p.2.2.2.2*v2 (rcY q z2).1 (rcY q z2).2 q.2.2.2.2)=_
  rw[Ar,Ar,BH,BH]
  rfl
 have e2:∀{p:Pt},Rpd p→v2 (sqA p z2) (sqB p z2) p.2.2.2.2=(pX p-0)*(pX p-0)+(pY p-0)*(pY p-0):=fun{p} h=>by
  have:=E8 (p:=p) (v:=z2)
  unfold sqP at this
  rw[vR_co]at this
  exact this
 have e3:vq (apQ p q r)=vq (doQ z2 p q)+v2 (sqA p z2) (sqB p z2) p.2.2.2.2+v2 (sqA q z2) (sqB q z2) q.2.2.2.2-of (r*r):=by
  unfold vq vQ apQ v2
  dsimp only
  rw[of_sub,of_add,of_add,of_add,of_add]
  exact U6 _ _ _ _ _ _ _ _ _ _ _
 rw[e3,e1,e2 hp,e2 hq,afz]
 rfl
def SJ(c:Cv)(p:PE)(r:Rat):Int:=min (apaS (pR (frC c)) p r) (apaS (pR (toC c)) p r)
def rngS(d:RE)(q r:Rat):Int:=bif decide (0≤sg (d-v2 (q+r*r) (r+r) q))then sg (d-v2 (q+r*r) (r+r) q)else bif decide (aD q (r*r)≤0)then-1 else-(sg (d-v2 (q+r*r) (-(r+r)) q))
def witE(c:Cv)(p:PE):Bool:=mH (frm (ciC c) (pR (ccF c))) (frm (ciC c) (pR (ccT c))) (frm (ciC c) p)
open Classical in
def besE(c:Cv)(p:PE):Bool:=decide (btE (tE (lnC c) (pR (frC c))) (tE (lnC c) (pR (toC c))) (tE (lnC c) p))
open Classical in
def poiE(c:Cv)(p:PE)(r:Rat):Int:=
 bif decide (r<0)then 1 else
 bif c.1 then(bif decide (p=vE (ctr (ciC c)))then aD (ciC c).2.2 (r*r)else bif witE c p then rngS (dsE p (vE (ctr (ciC c)))) (ciC c).2.2 r else SJ c p r)
 else bif besE c p then sg (exE (lnC c) p*exE (lnC c) p-of (r*r*((lnC c).1*(lnC c).1+(lnC c).2.1*(lnC c).2.1)))else SJ c p r
theorem wC{x y:RE}(h:x≤y):sg x≤sg y:=by
 rcases bh x with⟨a,e⟩|⟨a,e⟩|⟨a,e⟩<;>rcases bh y with⟨b,f⟩|⟨b,f⟩|⟨b,f⟩<;>rw[e,f]<;>try decide
 ·exfalso;rw[b]at h;exact h a
 ·exact absurd (cU b a) h
 ·exfalso;rw[a]at h;exact h b
theorem XX(a b t:RE):min (sg (a-t)) (sg (b-t))=sg (mnE a b-t):=by
 unfold mnE
 by_cases e:b<a
 ·rw[alr e]
  exact Int.min_eq_right (wC (DZ _ _ _ (le_of_lt e)))
 ·rw[alm e]
  exact Int.min_eq_left (wC (DZ _ _ _ ((lt_or_ge b a).resolve_left e)))
theorem Rk{c:Cv}(hf:Rpd (frC c))(ht:Rpd (toC c))(v:Rat×Rat)(r:Rat):SJ c (vE v) r=sg (vR (A4 c v)-of (r*r)):=by
 rw[Gp hf ht]
 exact XX _ _ _
theorem mW{n:RE}(h:0<n)(x:RE):sg (n*x)=sg x:=by rw[dk,cY h,amg]
theorem yy{a b:Rat}(ha:0≤a)(hb:0≤b):rq (a*b)=rq a*rq b:=Dt _ _ (gh _) (bg (gh _) (gh _)) (by rw[dB (alj ha hb),aE,Tu,dB ha,dB hb])
theorem Ji{u t:RE}{q r:Rat}(hu:0<u)(hq:0<q)(ht:t=rq q)(hr:0≤r):rngS (u*u) q r=sg (u*u+of q-(u*t+u*t)-of (r*r)):=by
 have hr':0≤of r:=gN.2 hr
 have tt:t*t=of q:=by rw[ht];exact dB (by grind)
 have tp:0<t:=by rw[ht];exact Ey hq
 have e1:v2 (q+r*r) (r+r) q=(t+of r)*(t+of r):=by
  unfold v2
  rw[←ht,of_add,aE,of_add,ae9,tt,sub_self,add_zero]
 have e2:v2 (q+r*r) (-(r+r)) q=(t-of r)*(t-of r):=by
  unfold v2
  rw[←ht,of_add,aE,of_neg,of_add,aaA,tt,sub_self,add_zero]
 have f1:sg (u*u-v2 (q+r*r) (r+r) q)=sg (u-(t+of r)):=by
  rw[e1,LA,mul_comm,mW (ahg _ _ _ hu tp hr')]
 have f2:of r<t→sg (u*u-v2 (q+r*r) (-(r+r)) q)=sg (u-(t-of r)):=fun g=>by
  rw[e2,LA,mul_comm,mW (ajA _ _ _ hu g)]
 have fin:sg (u*u+of q-(u*t+u*t)-of (r*r))=sg (u-(t+of r))*sg (u-(t-of r)):=by
  rw[←tt,aE,abj,dk]
 unfold rngS
 rw[f1,fin]
 rcases bh (u-(t+of r))with⟨a,e⟩|⟨a,e⟩|⟨a,e⟩
 ·rw[e,cY (ajs _ _ _ a hr')]
  rfl
 ·rw[e]
  show(0:Int)=0*_
  rw[anW]
 ·rw[e]
  show(bif decide (aD q (r*r)≤0)then-1 else _)=_
  have cq:decide (aD q (r*r)≤0)=decide (q≤r*r):=by
   rw[wL]
  rw[cq]
  by_cases g:q≤r*r
  ·have tr:t≤of r:=Aa _ _ (le_of_lt tp) hr' (by rw[tt,←aE];exact gN.2 g)
   rw[akY g,cY (ajq _ _ _ hu tr)]
   rfl
  ·have tr:of r<t:=by
    rcases lt_or_ge (of r) t with k|k
    ·exact k
    ·exfalso
     have:=N7 _ _ k (le_of_lt tp)
     rw[tt,←aE]at this
     exact g (gN.1 this)
   rw[ak0 g,f2 tr]
   show-(sg _)= -1*sg _
   omega
open Classical in
theorem Ul{c:Cv}(h:GdE c){v:Rat×Rat}(hd:Rdd (nU c v))(r:Rat):poiE c (vE v) r=uo c v r:=by
 have hf:=h.f
 have ht:=h.t
 unfold poiE uo
 by_cases hr:r<0
 ·rw[akY hr];rfl
 ·rw[ak0 hr,cond_false,cond_false,cmpTR_re hd.nn]
  have hr0:0≤r:=by grind
  cases ha:c.1
  ·rw[cond_false]
   have hl:=(h.l ha).1
   have hn:0<nrE (lnC c):=B0 hl
   have hb:besE c (vE v)=rG c (atP v):=by
    have:=xD (c:=c) (p:=atP v)
    rw[mC]at this
    unfold besE
    rw[ang,al7]
    exact this.symm
   unfold nU
   rw[hb,ha,cond_false]
   cases rG c (atP v)
   ·exact Rk hf ht v r
   ·rw[cond_true,cond_true]
    have h1:1/((lnC c).1*(lnC c).1+(lnC c).2.1*(lnC c).2.1)*((lnC c).1*(lnC c).1+(lnC c).2.1*(lnC c).2.1)=1:=alk (jV hl)
    have en:nrE (lnC c)=of ((lnC c).1*(lnC c).1+(lnC c).2.1*(lnC c).2.1):=by
     rw[of_add,aE,aE];rfl
    have ek:nrE (lnC c)*of (1/((lnC c).1*(lnC c).1+(lnC c).2.1*(lnC c).2.1))=1:=by
     rw[en,mul_comm,←aE,h1]
     rfl
    have e2:vR (a8 (cQ v (d8 (lnC c) v)) (cQ v (d8 (lnC c) v)),0,0)=of (a8 (cQ v (d8 (lnC c) v)) (cQ v (d8 (lnC c) v))):=dS _ _
    rw[e2,EQ hl,aE (r*r) ((lnC c).1*(lnC c).1+(lnC c).2.1*(lnC c).2.1),←en,aE _ (1/((lnC c).1*(lnC c).1+(lnC c).2.1*(lnC c).2.1)),aE ((lnC c).1*v.1+(lnC c).2.1*v.2-(lnC c).2.2),←OY,←mW hn (_-of (r*r)),PJ,ek]
    refine congrArg sg ?_
    rw[mul_one]
  ·rw[cond_true]
   have hq:=(h.q ha).1
   have cz:vE v=vE (ctr (ciC c))↔zeV (aW c v)=true:=by
    unfold zeV aW cQ vE
    rw[ak8,al7,al7]
    constructor
    ·intro e
     have e1:=nQ (congrArg Prod.fst e)
     have e2:=nQ (congrArg Prod.snd e)
     dsimp only
     rw[e1,e2]
     exact⟨by grind,by grind⟩
    ·intro ⟨e1,e2⟩
     dsimp only at e1 e2
     rw[show v.1=(ctr (ciC c)).1 by grind,show v.2=(ctr (ciC c)).2 by grind]
   unfold nU
   rw[ha,cond_true]
   cases hz:zeV (aW c v)
   ·rw[ak0 (fun e=>by rw[cz.1 e]at hz;cases hz),cond_false]
    have hw:witE c (vE v)=fb c (aW c v):=by
     rw[(Js h ha hz).2]
     show _=mH _ _ (vE (cQ (ctr (ciC c)) v))
     rw[←Ih]
     rfl
    rw[hw]
    cases fb c (aW c v)
    ·exact Rk hf ht v r
    ·rw[cond_true,cond_true,vR_mk]
     have dps:0<a8 (aW c v) (aW c v):=by
      have:=wM hz
      have:=nO (aW c v)
      grind
     have es:dsE (vE v) (vE (ctr (ciC c)))=of (a8 (aW c v) (aW c v)):=by
      unfold dsE vE a8 aW cQ
      rw[of_add,aE,aE,of_sub,of_sub]
     have su:=dB (show 0≤a8 (aW c v) (aW c v) by grind)
     rw[es,←su,Ji (Ey dps) hq rfl hr0]
     unfold v2
     have two:of (-2)= -2:=rfl
     rw[two,Xj,of_add,←su,yy (by grind) (by grind)]
   ·rw[akY (cz.2 hz),cond_true]
    have tw:fb c (aW c v)=true:=by
     unfold fb
     rw[ha,hz]
     rfl
    have dz:a8 (aW c v) (aW c v)=0:=by
     unfold zeV at hz
     obtain⟨a,b⟩:=ak8.1 hz
     unfold a8
     rw[ak1 a,ak1 b]
     decide+kernel
    rw[tw,cond_true,vR_mk,dz,Rat.zero_mul,Rat.zero_add]
    unfold v2
    rw[Ip,mul_zero,add_zero,←of_sub,sg_of,sJ]
end RE
end
end Go.Proofs.YtnkndpoojnflmaaGreat
end
