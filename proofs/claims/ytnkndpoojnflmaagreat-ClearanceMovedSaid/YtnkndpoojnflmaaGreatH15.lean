/- Common points of lines and circles: the reference's contracts. -/
import Derived.Test.YtnkndpoojnflmaaGreatH14
import Derived.Test.YtnkndpoojnflmaaGreatH13
noncomputable section
namespace Go.Proofs.YtnkndpoojnflmaaGreat
open Go.RowKit Go.IntKind
theorem amL:type_of% @decide_eq_true_iff:=@decide_eq_true_iff
theorem anC:type_of% @List.filter_cons:=@List.filter_cons
theorem aop:type_of% @List.filter_nil:=@List.filter_nil
section
theorem JD(a b:Rat):((am a,am b):BV)=enc ((a,b):Rat×Rat):=nr rfl
theorem Oj{q:Rat}(h:¬q<0)(h':¬q=0):0<q:=by grind
theorem rdl{l:Ln}(h:cj l≠0)(hl:l.1≠0∨l.2.1≠0):¬(l.2.1/cj l=0∧ -l.1/cj l=0):=by
 intro ⟨h1,h2⟩
 have m:∀a:Rat,a/cj l=0→a=0:=fun a e=>by
  have:a/cj l*cj l=a:=al5 h
  rw[e,Rat.zero_mul]at this
  exact this.symm
 have:=m _ h1
 have:=m _ h2
 rcases hl with h|h<;>grind
section
variable {l c:Ln}
theorem Sm(hl:l.1≠0∨l.2.1≠0)(h0:0≤jx l c):Rpd (tX l c)∧Rpd (se l c):=by
 have hn:=nQ hl
 refine⟨uy (fun h=>rdl hn hl ⟨by grind,by grind⟩) h0,uy (rdl hn hl) h0⟩
theorem KV [BdL l][BdC c]:Bd (tX l c) 490∧Bd (se l c) 490:=by
 obtain⟨h1,h2,h3,h4⟩:=uS (l:=l) (c:=c)
 have h5:Bd (jx l c) 257:=inferInstance
 have n1:Bd (-(l.2.1/cj l)) 61:=inferInstance
 have i1:Bd (cj l) 49:=inferInstanceAs (Bd (l.1*l.1+l.2.1*l.2.1) _)
 have n2:Bd (-l.1/cj l) 61:=(inferInstance:Bd (-l.1/cj l) _)
 have n3:Bd (-(-l.1/cj l)) 61:=inferInstance
 exact⟨uO h1 n1 h2 n3 h5 (by decide),uO h1 h3 h2 n2 h5 (by decide)⟩
end
theorem ym{c d:Ln}[BdC c][BdC d]:BdL (mU c d):=by
 have b2:Bd (2:Rat) 3:=cQ (n:=2) (by decide)
 have f1:Bd (qB c) 31:=(inferInstance:Bd (c.1*c.1+c.2.1*c.2.1-c.2.2) _).mono (by decide)
 have f2:Bd (qB d) 31:=(inferInstance:Bd (d.1*d.1+d.2.1*d.2.1-d.2.2) _).mono (by decide)
 have g1:Bd (2*(d.1-c.1)) _:=inferInstance
 have g2:Bd (2*(d.2.1-c.2.1)) _:=inferInstance
 have g3:Bd (qB d-qB c) _:=inferInstance
 exact⟨g1.mono (by decide),g2.mono (by decide),g3.mono (by decide)⟩
theorem ui{c d:Ln}(h:gM c d=false):(mU c d).1≠0∨(mU c d).2.1≠0:=by
 unfold gM at h
 unfold mU
 dsimp only
 by_cases h1:c.1=d.1
 ·rw[alF h1,amN]at h
  have:=amz h
  right;grind
 ·left;grind
theorem Sw{c d:Ln}[BdC c][BdC d](h:gM c d=false):cL (enc (mU c d)):=kU (h:=ym) (ui h)
def vo:List En:=[enT lT,enL l7,enL m7,enL oH,enL ng,enT rQ,enL oK,enL Fy,enL RA,enL yk,enT xp,enL AP]
def ah2:Cn 273 [tR,tR]:=cn fun(a b:BR)=>lf (okR a∧okR b) [.d tR (am (ah a+ah b))] fun h=>jL [RV.d tR (hAd a b)] (du vo) h
def ai9:Cn 255 [tR,tR]:=cn fun(a b:BR)=>lf (okR a∧okR b) [.d tR (am (ah a-ah b))] fun h=>jL [RV.d tR (hSu a b)] (du vo) h
def afD:Cn 256 [tR,tR]:=cn fun(a b:BR)=>lf (okR a∧okR b) [.d tR (am (ah a*ah b))] fun h=>jL [RV.d tR (hMu a b)] (du vo) h
def afd:Cn 181 [tR]:=cn fun(a:BR)=>lf (okR a) [.d tR (am (-ah a))] fun h=>jL [RV.d tR (hNe a)] (du vo) h
def ahi:Cn 253 [tR,tR]:=cn fun(a b:BR)=>lf (ij a b) [.d tR (am (ah a/ah b))] fun h=>jL [RV.d tR (hDi a b)] (du vo) h
def MY(l m:BO3)(_k:KT):Option (List RV):=og (o2 l.1 m.2.1) (og (o2 l.2.1 m.1) (og (o2 (hMu l.1 m.2.1) (hMu l.2.1 m.1)) (match(aG (ah (hMu l.1 m.2.1)) (ah (hMu l.2.1 m.1)))==0 with|true=>(og (o2 l.1 m.2.2) (og (o2 l.2.2 m.1) (og (o2 (hMu l.1 m.2.2) (hMu l.2.2 m.1)) (match(aG (ah (hMu l.1 m.2.2)) (ah (hMu l.2.2 m.1)))==0 with|true=>(og (o2 l.2.1 m.2.2) (og (o2 l.2.2 m.2.1) (og (o2 (hMu l.2.1 m.2.2) (hMu l.2.2 m.2.1)) (some [RV.d .bool ((aG (ah (hMu l.2.1 m.2.2)) (ah (hMu l.2.2 m.2.1)))==0)]))))|false=>some [RV.d .bool false]))))|false=>some [RV.d .bool false])))
def ac8:Cn 146 [tO,tO]:=cn fun(l m:BO3)=>lf (cL l∧cL m) [.d .bool (lU (dec l) (dec m))] fun h=>by
 refine aA vo (MY l m) ⟨0,?_⟩
 obtain⟨hl,hm⟩:=h
 obtain⟨l,rfl,bl,nl⟩:=dW hl
 obtain⟨m,rfl,bm,nm⟩:=dW hm
 unfold MY lU
 simp only[aS,Nat.reduceAdd,Nat.reduceLeDiff,aq]
 cases decide (l.1*m.2.1=l.2.1*m.1)<;>cases decide (l.1*m.2.2=l.2.2*m.1)<;>rfl
def Rj(c d:BO3)(_k:KT):Option (List RV):=og (o2 c.1 d.1) (match(aG (ah c.1) (ah d.1))==0 with|true=>(og (o2 c.2.1 d.2.1) (match(aG (ah c.2.1) (ah d.2.1))==0 with|true=>(og (o2 c.2.2 d.2.2) (some [RV.d .bool ((aG (ah c.2.2) (ah d.2.2))==0)]))|false=>some [RV.d .bool false]))|false=>some [RV.d .bool false])
def adh:Cn 145 [tO,tO]:=cn fun(c d:BO3)=>lf (cf c∧cf d) [.d .bool (ni (dec c) (dec d))] fun h=>by
 refine aA vo (Rj c d) ⟨0,?_⟩
 obtain⟨hc,hd⟩:=h
 obtain⟨c,rfl,bc,nc⟩:=cJ hc
 obtain⟨d,rfl,bd,nd⟩:=cJ hd
 unfold Rj ni
 simp only[aS,Nat.reduceLeDiff,aq]
 cases decide (c.1=d.1)<;>cases decide (c.2.1=d.2.1)<;>rfl
def zD:List En:=enL ah2::enL ai9::enL afD::enL afd::enL ahi::vo
def WU(l m:BO3)(_k:KT):Option (List RV):=og (o2 l.1 m.2.1) (og (o2 m.1 l.2.1) (og (o2 (hMu l.1 m.2.1) (hMu m.1 l.2.1)) (some [RV.d tR (hSu (hMu l.1 m.2.1) (hMu m.1 l.2.1))])))
def ahS:Cn 257 [tO,tO]:=cn fun(l m:BO3)=>lf (cL l∧cL m) [.d tR (am (dk (dec l) (dec m)))] fun h=>by
 refine aA zD (WU l m) ⟨0,?_⟩
 obtain⟨hl,hm⟩:=h
 obtain⟨l,rfl,bl,nl⟩:=dW hl
 obtain⟨m,rfl,bm,nm⟩:=dW hm
 unfold WU dk
 simp only[aS,Nat.reduceAdd,Nat.reduceLeDiff]
def WS(l:BO3)(_k:KT):Option (List RV):=og (o2 l.1 l.1) (og (o2 l.2.1 l.2.1) (og (o2 (hMu l.1 l.1) (hMu l.2.1 l.2.1)) (some [RV.d tR (hAd (hMu l.1 l.1) (hMu l.2.1 l.2.1))])))
def ai8:Cn 252 [tO]:=cn fun(l:BO3)=>lf (cL l) [.d tR (am (cj (dec l)))] fun h=>by
 refine aA zD (WS l) ⟨0,?_⟩
 have hl:=h
 obtain⟨l,rfl,bl,nl⟩:=dW hl
 unfold WS cj
 simp only[aS,Nat.reduceAdd,Nat.reduceLeDiff]
def Y1(l:BO3)(x y:BR)(_k:KT):Option (List RV):=og (o2 l.1 x) (og (o2 l.2.1 y) (og (o2 (hMu l.1 x) (hMu l.2.1 y)) (og (o2 (hAd (hMu l.1 x) (hMu l.2.1 y)) l.2.2) (some [RV.d tR (hSu (hAd (hMu l.1 x) (hMu l.2.1 y)) l.2.2)]))))
def aeu:Cn 254 [tO,tR,tR]:=cn fun(l:BO3) (x y:BR)=>lf (cL l∧ok Rat 4 x∧ok Rat 4 y) [.d tR (am (vlL (dec l) (ah x) (ah y)))] fun h=>by
 refine aA zD (Y1 l x y) ⟨0,?_⟩
 obtain⟨hl,hx,hy⟩:=h
 obtain⟨l,rfl,bl,nl⟩:=dW hl
 obtain⟨x,rfl,bx⟩:=aB hx
 obtain⟨y,rfl,b_y⟩:=aB hy
 unfold Y1 vlL
 simp only[aS,Nat.reduceAdd,Nat.reduceLeDiff]
def Y2(c d:BO3)(_k:KT):Option (List RV):=og (o2 c.1 d.1) (match(aG (ah c.1) (ah d.1))==0 with|true=>(og (o2 c.2.1 d.2.1) (some [RV.d .bool ((aG (ah c.2.1) (ah d.2.1))==0)]))|false=>some [RV.d .bool false])
def ahF:Cn 249 [tO,tO]:=cn fun(c d:BO3)=>lf (cf c∧cf d) [.d .bool (gM (dec c) (dec d))] fun h=>by
 refine aA zD (Y2 c d) ⟨0,?_⟩
 obtain⟨hc,hd⟩:=h
 obtain⟨c,rfl,bc,nc⟩:=cJ hc
 obtain⟨d,rfl,bd,nd⟩:=cJ hd
 unfold Y2 gM
 simp only[aS,Nat.reduceLeDiff,aq]
 cases decide (c.1=d.1)<;>rfl
def ZB(a b c d e:BR)(_k:KT):Option (List RV):=og (o1 e) (match fM (ah e)with|true=>(og (o2 b (hid (rtB (ah e)))) (og (o2 a (hMu b (hid (rtB (ah e))))) (og (o2 d (hid (rtB (ah e)))) (og (o2 c (hMu d (hid (rtB (ah e))))) (og (decide (ok (Rat×Rat) 100000 (hAd a (hMu b (hid (rtB (ah e)))),hAd c (hMu d (hid (rtB (ah e))))))) (some [RV.d tP (hid (enc (atP (dec (hAd a (hMu b (hid (rtB (ah e)))),hAd c (hMu d (hid (rtB (ah e)))))))))]))))))|false=>some [RV.d tP (a,(b,(c,(d,e))))])
def agp:Cn 180 [tR,tR,tR,tR,tR]:=cn fun(a b c d e:BR)=>lf (ok Rat 1000 a∧ok Rat 1000 b∧ok Rat 1000 c∧ok Rat 1000 d∧ok Rat 1000 e) [.d tP (enc (ot (ah a) (ah b) (ah c) (ah d) (ah e)))] fun h=>by
 refine aA zD (ZB a b c d e) ⟨0,?_⟩
 obtain⟨ha,hb,hc,hd,he⟩:=h
 obtain⟨a,rfl,ba⟩:=aB ha
 obtain⟨b,rfl,bb⟩:=aB hb
 obtain⟨c,rfl,bc⟩:=aB hc
 obtain⟨d,rfl,bd⟩:=aB hd
 obtain⟨e,rfl,be⟩:=aB he
 unfold ZB ot
 simp only[aS,Nat.reduceLeDiff]
 cases hq:fM e
 ·rfl
 ·rw[PI hq]
  simp only[aS,Nat.reduceAdd,Nat.reduceLeDiff,JD]
  try rfl
def Dy:List En:=enL ahS::enL ai8::enL aeu::enT ahF::enL agp::zD
def WF(l m:BO3)(_k:KT):Option (List RV):=og (decide (cL l∧cL m)) (og (o2 l.2.2 m.2.1) (og (o2 m.2.2 l.2.1) (og (o2 (hMu l.2.2 m.2.1) (hMu m.2.2 l.2.1)) (og (o2 l.1 m.2.2) (og (o2 m.1 l.2.2) (og (o2 (hMu l.1 m.2.2) (hMu m.1 l.2.2)) (og (o1 (hid (am (dk (dec l) (dec m))))) (match(aG (ah (hid (am (dk (dec l) (dec m))))) 0) !=0 with|true=>(og (decide (ij (hSu (hMu l.2.2 m.2.1) (hMu m.2.2 l.2.1)) (hid (am (dk (dec l) (dec m)))))) (og (decide (ij (hSu (hMu l.1 m.2.2) (hMu m.1 l.2.2)) (hid (am (dk (dec l) (dec m)))))) (og (decide (ok (Rat×Rat) 100000 (hDi (hSu (hMu l.2.2 m.2.1) (hMu m.2.2 l.2.1)) (hid (am (dk (dec l) (dec m)))),hDi (hSu (hMu l.1 m.2.2) (hMu m.1 l.2.2)) (hid (am (dk (dec l) (dec m))))))) (some [RV.d (.sl tP) ([hid (enc (atP (dec (hDi (hSu (hMu l.2.2 m.2.1) (hMu m.2.2 l.2.1)) (hid (am (dk (dec l) (dec m)))),hDi (hSu (hMu l.1 m.2.2) (hMu m.1 l.2.2)) (hid (am (dk (dec l) (dec m))))))))]),RV.d aoX 0]))))|false=>(og (o1 (hSu (hMu l.2.2 m.2.1) (hMu m.2.2 l.2.1))) (match(aG (ah (hSu (hMu l.2.2 m.2.1) (hMu m.2.2 l.2.1))) 0)==0 with|true=>(og (o1 (hSu (hMu l.1 m.2.2) (hMu m.1 l.2.2))) (match(aG (ah (hSu (hMu l.1 m.2.2) (hMu m.1 l.2.2))) 0)==0 with|true=>some [RV.d (.sl tP) ([]),RV.d aoX 10]|false=>some [RV.d (.sl tP) ([]),RV.d aoX 0]))|false=>some [RV.d (.sl tP) ([]),RV.d aoX 0]))))))))))
def ZO:Cn 149 [tO,tO]:=cn fun(l m:BO3)=>lf (cL l∧cL m) [.d (.sl tP) ((lk (dec l) (dec m)).map enc),.d aoX (LK (dec l) (dec m))] fun h=>by
 refine aA Dy (WF l m) ⟨0,?_⟩
 obtain⟨hl,hm⟩:=h
 obtain⟨l,rfl,bl,nl⟩:=dW hl
 obtain⟨m,rfl,bm,nm⟩:=dW hm
 have ol:=alF (kU (l:=l) nl)
 have om:=alF (kU (l:=m) nm)
 have bc:Bd (dk l m) 49:=inferInstanceAs (Bd (l.1*m.2.1-m.1*l.2.1) _)
 have e1:l.2.2*m.2.1-m.2.2*l.2.1=lj l m:=rfl
 have e2:l.1*m.2.2-m.1*l.2.2=ln l m:=rfl
 unfold WF lk LK
 simp only[aS,Nat.reduceAdd,Nat.reduceLeDiff,aq,aY,ol,om]
 by_cases h0:dk l m=0
 ·simp only[alF h0,e1,e2,Bool.not_true]
  cases decide (lj l m=0)<;>cases decide (ln l m=0)<;>rfl
 ·simp only[aS,Nat.reduceAdd,Nat.reduceLeDiff,h0,ne_eq,ana,Bool.not_false,JD]
  rfl
def Y3(l c:BO3)(_k:KT):Option (List RV):=og (decide (cL l∧ok Rat 4 c.1∧ok Rat 4 c.2.1)) (og (decide (cL l)) (og (o2 (hid (am (cj (dec l)))) c.2.2) (og (o2 (hid (am (vlL (dec l) (ah c.1) (ah c.2.1)))) (hid (am (vlL (dec l) (ah c.1) (ah c.2.1))))) (og (o2 (hMu (hid (am (cj (dec l)))) c.2.2) (hMu (hid (am (vlL (dec l) (ah c.1) (ah c.2.1)))) (hid (am (vlL (dec l) (ah c.1) (ah c.2.1)))))) (some [RV.d tR (hSu (hMu (hid (am (cj (dec l)))) c.2.2) (hMu (hid (am (vlL (dec l) (ah c.1) (ah c.2.1)))) (hid (am (vlL (dec l) (ah c.1) (ah c.2.1))))))])))))
def aii:Cn 251 [tO,tO]:=cn fun(l c:BO3)=>lf (cL l∧cf c) [.d tR (am (jx (dec l) (dec c)))] fun h=>by
 refine aA Dy (Y3 l c) ⟨0,?_⟩
 obtain⟨hl,hc⟩:=h
 obtain⟨l,rfl,bl,nl⟩:=dW hl
 obtain⟨c,rfl,bc,nc⟩:=cJ hc
 have ol:=alF (kU (l:=l) nl)
 have bv:Bd (vlL l c.1 c.2.1) 97:=inferInstanceAs (Bd (l.1*c.1+l.2.1*c.2.1-l.2.2) _)
 have bn:Bd (cj l) 49:=inferInstanceAs (Bd (l.1*l.1+l.2.1*l.2.1) _)
 unfold Y3 jx
 simp only[aS,Nat.reduceAdd,Nat.reduceLeDiff,ol]
def Z8(c d:BO3)(_k:KT):Option (List RV):=og (decide (cf c∧cf d)) (match gM (dec c) (dec d)with|true=>some [RV.d tO (((false,[]),(false,[])),(((false,[]),(false,[])),((false,[]),(false,[])))),RV.d aoX 6]|false=>(og (decide (aH (2:Int))) (og (o2 c.1 c.1) (og (o2 c.2.1 c.2.1) (og (o2 (hMu c.1 c.1) (hMu c.2.1 c.2.1)) (og (o2 (hAd (hMu c.1 c.1) (hMu c.2.1 c.2.1)) c.2.2) (og (o2 d.1 d.1) (og (o2 d.2.1 d.2.1) (og (o2 (hMu d.1 d.1) (hMu d.2.1 d.2.1)) (og (o2 (hAd (hMu d.1 d.1) (hMu d.2.1 d.2.1)) d.2.2) (og (o2 d.1 c.1) (og (o2 (hid (am ((2:Int):Rat))) (hSu d.1 c.1)) (og (o2 d.2.1 c.2.1) (og (o2 (hid (am ((2:Int):Rat))) (hSu d.2.1 c.2.1)) (og (o2 (hSu (hAd (hMu d.1 d.1) (hMu d.2.1 d.2.1)) d.2.2) (hSu (hAd (hMu c.1 c.1) (hMu c.2.1 c.2.1)) c.2.2)) (some [RV.d tO (hMu (hid (am ((2:Int):Rat))) (hSu d.1 c.1),(hMu (hid (am ((2:Int):Rat))) (hSu d.2.1 c.2.1),hSu (hSu (hAd (hMu d.1 d.1) (hMu d.2.1 d.2.1)) d.2.2) (hSu (hAd (hMu c.1 c.1) (hMu c.2.1 c.2.1)) c.2.2))),RV.d aoX 0]))))))))))))))))
def ad6:Cn 250 [tO,tO]:=cn fun(c d:BO3)=>lf (cf c∧cf d) [.d tO (vJ (dec c) (dec d)),.d aoX (Vc (dec c) (dec d))] fun h=>by
 refine aA Dy (Z8 c d) ⟨0,?_⟩
 obtain⟨hc,hd⟩:=h
 obtain⟨c,rfl,bc,nc⟩:=cJ hc
 obtain⟨d,rfl,bd,nd⟩:=cJ hd
 have oc:=alF (fQ (c:=c) nc)
 have od:=alF (fQ (c:=d) nd)
 have i2:decide (aH 2)=true:=by decide
 have b2:Bd ((2:Int):Rat) 3:=cQ (by decide)
 unfold Z8 vJ Vc
 simp only[aS,Nat.reduceAdd,Nat.reduceLeDiff,oc,od,i2]
 cases gM c d
 ·rfl
 ·rfl
def YS(c:BO3)(_k:KT):Option (List RV):=og (decide (aH (1:Int))) (og (decide (aH (0:Int))) (og (o1 (hid (am ((1:Int):Rat)))) (og (decide (ok Rat 1000 c.1∧ok Rat 1000 (hNe (hid (am ((1:Int):Rat))))∧ok Rat 1000 c.2.1∧ok Rat 1000 (hid (am ((0:Int):Rat)))∧ok Rat 1000 c.2.2)) (og (decide (ok Rat 1000 c.1∧ok Rat 1000 (hid (am ((1:Int):Rat)))∧ok Rat 1000 c.2.1∧ok Rat 1000 (hid (am ((0:Int):Rat)))∧ok Rat 1000 c.2.2)) (some [RV.d tP (hid (enc (ot (ah c.1) (ah (hNe (hid (am ((1:Int):Rat))))) (ah c.2.1) (ah (hid (am ((0:Int):Rat)))) (ah c.2.2)))),RV.d tP (hid (enc (ot (ah c.1) (ah (hid (am ((1:Int):Rat)))) (ah c.2.1) (ah (hid (am ((0:Int):Rat)))) (ah c.2.2))))])))))
def Xa:Cn 81 [tO]:=cn fun(c:BO3)=>lf (cf c) [.d tP (enc (jS (dec c))),.d tP (enc (jU (dec c)))] fun h=>by
 refine aA Dy (YS c) ⟨0,?_⟩
 have hc:=h
 obtain⟨c,rfl,bc,nc⟩:=cJ hc
 have b0:Bd ((0:Int):Rat) 3:=cQ (by decide)
 have b1:Bd ((1:Int):Rat) 3:=cQ (by decide)
 have i0:decide (aH 0)=true:=by decide
 have i1:decide (aH 1)=true:=by decide
 unfold YS jS jU
 simp only[aS,Nat.reduceLeDiff,i0,i1]
 rfl
def N6:List En:=enL ZO::enL aii::enL ad6::enL Xa::Dy
def afo:Ctx:=CX (ens N6) []
def Xv(l c:BO3)(_k:KT):Option (List RV):=let y1:=hid (am (jx (dec l) (dec c)));let y2:=hid (am (vlL (dec l) (ah c.1) (ah c.2.1)));let y3:=hid (am (cj (dec l)));let y4:=hMu (hDi y2 y3) l.1;let y5:=hMu (hDi y2 y3) l.2.1;let y6:=hDi (hNe l.1) y3;let y7:=hNe (hDi l.2.1 y3);let y8:=ah (hSu c.2.1 y5);let y9:=enc (ot (ah (hSu c.1 y4)) (ah y7) y8 (ah (hNe y6)) (ah y1));let y10:=enc (ot (ah (hSu c.1 y4)) (ah (hDi l.2.1 y3)) y8 (ah y6) (ah y1));og (decide (cL l∧cf c)) (og (decide (cL l)) (og (o1 y1) (match decide ((aG (ah y1) 0)<0)with|true=>some [RV.new 37 tP []]|false=>(og (decide (cL l∧ok Rat 4 c.1∧ok Rat 4 c.2.1)) (og (decide (ij y2 y3)) (og (o2 (hDi y2 y3) l.1) (og (o2 c.1 y4) (og (o2 (hDi y2 y3) l.2.1) (og (o2 c.2.1 y5) (og (o1 y1) (match(aG (ah y1) 0)==0 with|true=>(og (decide (ok (Rat×Rat) 100000 (hSu c.1 y4,hSu c.2.1 y5))) (some [RV.new 37 tP ([hid (enc (atP (dec (hSu c.1 y4,hSu c.2.1 y5))))])]))|false=>(og (decide (ij l.2.1 y3)) (og (o1 l.1) (og (decide (ij (hNe l.1) y3)) (og (o1 (hDi l.2.1 y3)) (og (o1 y6) (og (decide (ok Rat 1000 (hSu c.1 y4)∧ok Rat 1000 y7∧ok Rat 1000 (hSu c.2.1 y5)∧ok Rat 1000 (hNe y6)∧ok Rat 1000 y1)) (og (decide (ok Rat 1000 (hSu c.1 y4)∧ok Rat 1000 (hDi l.2.1 y3)∧ok Rat 1000 (hSu c.2.1 y5)∧ok Rat 1000 y6∧ok Rat 1000 y1)) (og (decide (okP 4000 (hid y9)∧okP 4000 (hid y10))) (match decide ((aX (dec (hid y9)) (dec (hid y10)))>0)with|true=>some [RV.new 37 tP ([hid y10,hid y9])]|false=>some [RV.new 37 tP ([hid y9,hid y10])]))))))))))))))))))))
theorem agW(l c:BO3):RS afo 148 [.d tO l,.d tO c] (Xv l c):=rsX
def Zl:Cn 148 [tO,tO]:=cn fun(l c:BO3)=>lf (cL l∧cf c) [.d (.sl tP) ((re (dec l) (dec c)).map enc)] fun h=>by
 refine Con.new_d (et:=37) (cZ N6 (agW _ _ ⟨0,?_⟩))
 obtain⟨hl,hc⟩:=h
 obtain⟨l,rfl,bl,nl⟩:=dW hl
 obtain⟨c,rfl,bc,nc⟩:=cJ hc
 have ol:=alF (kU (l:=l) nl)
 have oc:=alF (fQ (c:=c) nc)
 have hn:=nQ nl
 have bv:Bd (vlL l c.1 c.2.1) 97:=inferInstanceAs (Bd (l.1*c.1+l.2.1*c.2.1-l.2.2) _)
 have bn:Bd (cj l) 49:=inferInstanceAs (Bd (l.1*l.1+l.2.1*l.2.1) _)
 have e1:c.1-vlL l c.1 c.2.1/cj l*l.1=ftX l c:=rfl
 have e2:c.2.1-vlL l c.1 c.2.1/cj l*l.2.1=ftY l c:=rfl
 obtain⟨f1,f2,_,_⟩:=uS (l:=l) (c:=c)
 unfold Xv re
 simp only[aS,Nat.reduceAdd,Nat.reduceLeDiff,aq,au,ol,oc,hn,ne_eq,ana,e1,e2,JD]
 by_cases h0:jx l c<0
 ·simp only[alF h0]
  rfl
 ·simp only[alH h0]
  by_cases h1:jx l c=0
  ·simp only[alF h1]
   rfl
  ·have hp:=Oj h0 h1
   obtain⟨p1,p2⟩:=Sm (c:=c) nl (show 0≤jx l c by grind)
   obtain⟨q1,q2⟩:=KV (l:=l) (c:=c)
   have g1:ot (ftX l c) (-(l.2.1/cj l)) (ftY l c) (-(-l.1/cj l)) (jx l c)=tX l c:=rfl
   have g2:ot (ftX l c) (l.2.1/cj l) (ftY l c) (-l.1/cj l) (jx l c)=se l c:=rfl
   simp only[alH h1,aS,Nat.reduceLeDiff,aJ,g1,g2]
   cases decide (aX (tX l c) (se l c)>0)<;>rfl
def ahN:List En:=enL Zl::N6
def XJ(c d:BO3)(_k:KT):Option (List RV):=og (decide (cf c∧cf d)) (match gM (dec c) (dec d)with|true=>(og (o2 c.2.2 d.2.2) (match(aG (ah c.2.2) (ah d.2.2))==0 with|true=>some [RV.d (.sl tP) ([]),RV.d aoX 10]|false=>some [RV.d (.sl tP) ([]),RV.d aoX 0]))|false=>(og (decide (cf c∧cf d)) (og (decide (cL (hid (vJ (dec c) (dec d)))∧cf c)) (some [RV.d (.sl tP) ((re (dec (hid (vJ (dec c) (dec d)))) (dec c)).map enc),RV.d aoX 0]))))
def ahI:Cn 147 [tO,tO]:=cn fun(c d:BO3)=>lf (cf c∧cf d) [.d (.sl tP) ((DI (dec c) (dec d)).map enc),.d aoX (VG (dec c) (dec d))] fun h=>by
 refine aA ahN (XJ c d) ⟨0,?_⟩
 obtain⟨hc,hd⟩:=h
 obtain⟨c,rfl,bc,nc⟩:=cJ hc
 obtain⟨d,rfl,bd,nd⟩:=cJ hd
 have oc:=alF (fQ (c:=c) nc)
 have od:=alF (fQ (c:=d) nd)
 unfold XJ DI VG
 simp only[aS,Nat.reduceLeDiff,aq,oc,od]
 cases hc:gM c d
 ·have ol:cL (enc (mU c d)):=Sw hc
  have er:vJ c d=enc (mU c d):=by unfold vJ;rw[hc];rfl
  simp only[er,dT ol,aS]
  try rfl
 ·cases decide (c.2.2=d.2.2)<;>rfl
end
def mG(c:BCU):Prop:=okC 580 c∧pp c
instance (c:BCU):Decidable (mG c):=by unfold mG;infer_instance
def gj(c d:BCU):Prop:=mG c∧mG d
instance (c d:BCU):Decidable (gj c d):=by unfold gj;infer_instance
def yR(c d:BCU):List BP:=bif !cC (dC c) (dC d)then(vF (dC c) (dC d)).map enc else [c.2.2.2.2.1,c.2.2.2.2.2,d.2.2.2.2.1,d.2.2.2.2.2]
def UY(c d:BCU):List BP:=(yR c d).filter fun p=>onR (dC c) (dec p)&&onR (dC d) (dec p)
def rl(c d:BCU):List BP:=gZ (dC c) (UY c d)
def Ul(c d:BCU):Bool:=bif c.1&&(d.1&&(c.2.2.2.1 !=d.2.2.2.1))then true else !c.1&&(aX (dec c.2.2.2.2.1) (dec c.2.2.2.2.2) !=aX (dec d.2.2.2.2.1) (dec d.2.2.2.2.2))
def yK(c d:BCU):BCU:=bif Ul c d then tC d else d
def Ba(c:Cv):List BP→Bool
 |[]=>false
 |x::r=>match r with
  |[]=>false
  |y::_=>decide (dg c (dec x) (dec y)<0)||Ba c r
def ait(c d:BCU):Bool:=cC (dC c) (dC d)&&Ba (dC (yK c d)) (rl c d)
def NV:List En:=[enL ahI,enL Zl,enL ZO,enT ac8,enT adh,enT Is,enT G7,enK ZE,enL Sq,enT xp]
def Rm(a b:BCU)(_k:KT):Option (List RV):=match a.1 with|true=>(match b.1 with|true=>(og (decide (cf a.2.2.1∧cf b.2.2.1)) (some [RV.d (.sl tP) ((DI (dec a.2.2.1) (dec b.2.2.1)).map enc),RV.d aoX (VG (dec a.2.2.1) (dec b.2.2.1))]))|false=>(match a.1 with|true=>(og (decide (cL b.2.1∧cf a.2.2.1)) (some [RV.d (.sl tP) ((re (dec b.2.1) (dec a.2.2.1)).map enc),RV.d aoX 0]))|false=>(match b.1 with|true=>(og (decide (cL a.2.1∧cf b.2.2.1)) (some [RV.d (.sl tP) ((re (dec a.2.1) (dec b.2.2.1)).map enc),RV.d aoX 0]))|false=>(og (decide (cL a.2.1∧cL b.2.1)) (some [RV.d (.sl tP) ((lk (dec a.2.1) (dec b.2.1)).map enc),RV.d aoX (LK (dec a.2.1) (dec b.2.1))])))))|false=>(match a.1 with|true=>(og (decide (cL b.2.1∧cf a.2.2.1)) (some [RV.d (.sl tP) ((re (dec b.2.1) (dec a.2.2.1)).map enc),RV.d aoX 0]))|false=>(match b.1 with|true=>(og (decide (cL a.2.1∧cf b.2.2.1)) (some [RV.d (.sl tP) ((re (dec a.2.1) (dec b.2.2.1)).map enc),RV.d aoX 0]))|false=>(og (decide (cL a.2.1∧cL b.2.1)) (some [RV.d (.sl tP) ((lk (dec a.2.1) (dec b.2.1)).map enc),RV.d aoX (LK (dec a.2.1) (dec b.2.1))]))))
def abg:Cn 57 [tCU,tCU]:=cn fun(a b:BCU)=>lf (gA a b) [.d (.sl tP) ((vF (dC a) (dC b)).map enc),.d aoX (X0 (dC a) (dC b))] fun h=>by
 refine aA NV (Rm a b) ⟨0,?_⟩
 obtain⟨⟨a1,a2⟩,b1,b2⟩:=h
 unfold Rm vF X0 DI
 obtain⟨aa,al,ac,aw,af,at_⟩:=a
 obtain⟨ba,bl,bc,bw,bf,bt⟩:=b
 cases aa<;>cases ba
 ·have h1:=a2 rfl
  have h2:=b2 rfl
  simp only[dT (show cL al∧cL bl from⟨h1,h2⟩)]
  rfl
 ·have h1:=a2 rfl
  have h2:=b1 rfl
  simp only[dT (show cL al∧cf bc from⟨h1,h2⟩)]
  rfl
 ·have h1:=a1 rfl
  have h2:=b2 rfl
  simp only[dT (show cL bl∧cf ac from⟨h2,h1⟩)]
  rfl
 ·have h1:=a1 rfl
  have h2:=b1 rfl
  simp only[dT (show cf ac∧cf bc from⟨h1,h2⟩)]
  rfl
def XD(a b:BCU)(_k:KT):Option (List RV):=match !(a.1==b.1)with|true=>some [RV.d .bool false]|false=>(match a.1 with|true=>(og (decide (cf a.2.2.1∧cf b.2.2.1)) (some [RV.d .bool (ni (dec a.2.2.1) (dec b.2.2.1))]))|false=>(og (decide (cL a.2.1∧cL b.2.1)) (some [RV.d .bool (lU (dec a.2.1) (dec b.2.1))])))
def aiH:Cn 56 [tCU,tCU]:=cn fun(a b:BCU)=>lf (gA a b) [.d .bool (cC (dC a) (dC b))] fun h=>by
 refine aA NV (XD a b) ⟨0,?_⟩
 obtain⟨⟨a1,a2⟩,b1,b2⟩:=h
 unfold XD cC
 obtain⟨aa,al,ac,aw,af,at_⟩:=a
 obtain⟨ba,bl,bc,bw,bf,bt⟩:=b
 cases aa<;>cases ba
 ·have h1:=a2 rfl
  have h2:=b2 rfl
  simp only[dT (show cL al∧cL bl from⟨h1,h2⟩)]
  rfl
 ·rfl
 ·rfl
 ·have h1:=a1 rfl
  have h2:=b1 rfl
  simp only[dT (show cf ac∧cf bc from⟨h1,h2⟩)]
  rfl
def ZM:List En:=enL abg::enT aiH::NV
def acd:NT:=[((19,18),{keep:=[2,3,6,7,8,9],own:=[(8,37,tP)],hl:=4}),((19,47),{keep:=[3,6,8,10,11],hl:=2})]
def tn:Ctx:=CX (ens ZM) acd
def pS(c d:BCU)(s9:Int)(r3:List BP):Cfg:=⟨19,[.blk 0,.seq 33],[(2,.box 0 0),(3,.box 1 0),(6,SB (cC (dC c) (dC d))),(7,.d (.sl tP) ((vF (dC c) (dC d)).map enc)),(8,.own 3),(9,SI s9)],[.box 39 (Ty.split tCU c),.box 39 (Ty.split tCU d),.row 37 tP ([c.2.2.2.2.1,c.2.2.2.2.2,d.2.2.2.2.1,d.2.2.2.2.2]),.row 37 tP r3],0,[]⟩
def ko(c d:BCU)(s9:Int)(r3:List BP):Cfg:=⟨19,[.blk 0,.seq 33],[(2,.box 0 0),(3,.box 1 0),(6,SB (cC (dC c) (dC d))),(7,.own 2),(8,.own 3),(9,SI s9)],[.box 39 (Ty.split tCU c),.box 39 (Ty.split tCU d),.row 37 tP ([c.2.2.2.2.1,c.2.2.2.2.2,d.2.2.2.2.1,d.2.2.2.2.2]),.row 37 tP r3],0,[]⟩
def cY(c d:BCU)(r3:List BP)(B1:BCU)(s10:Bool)(s11:Int):Cfg:=⟨19,[.blk 2,.seq 58],[(3,.box 1 0),(6,SB (cC (dC c) (dC d))),(8,.d (.sl tP) (gZ (dC c) r3)),(10,SB s10),(11,SI s11)],[.box 39 (Ty.split tCU c),.box 39 (Ty.split tCU B1)],0,[]⟩
def Q1(c d:BCU)(k:KT):Option (List RV):=og (decide (gA c d)) (match !(cC (dC c) (dC d))with|true=>(og (decide (gA c d)) (k 18 (pS c d 0 ([]))))|false=>k 18 (ko c d 0 ([])))
theorem WO(c d:BCU):RS tn 19 [.d tCU c,.d tCU d] (Q1 c d):=rsX
def p7(c d:BCU)(s9:Int)(r3:List BP)(k:KT):Option (List RV):=match decide (s9<(((vF (dC c) (dC d)).map enc).length:Int))with|true=>(match aR ((vF (dC c) (dC d)).map enc) s9 with|some x1=>(og (decide (okC 3500 c∧okP 3500 x1)) (match onR (dC c) (dec x1)with|true=>(match aR ((vF (dC c) (dC d)).map enc) s9 with|some x2=>(og (decide (okC 3500 d∧okP 3500 x2)) (match onR (dC d) (dec x2)with|true=>(match aR ((vF (dC c) (dC d)).map enc) s9 with|some x3=>(og (decide ((r3.length+([x3]).length)*320≤140737488355328∧r3.length+([x3]).length≤140737488355328)) (k 18 (pS c d (i64.wrap (s9+1)) (r3++([x3])))))|none=>none)|false=>k 18 (pS c d (i64.wrap (s9+1)) r3)))|none=>none)|false=>k 18 (pS c d (i64.wrap (s9+1)) r3)))|none=>none)|false=>(og (decide (wz c r3)) (match c.1 with|true=>(match d.1 with|true=>(match !(c.2.2.2.1==d.2.2.2.1)with|true=>k 47 (cY c d r3 (hid (tC d)) false 1)|false=>(match !c.1 with|true=>(og (decide (okP 4000 c.2.2.2.2.1∧okP 4000 c.2.2.2.2.2)) (og (decide (okP 4000 d.2.2.2.2.1∧okP 4000 d.2.2.2.2.2)) (match(aX (dec c.2.2.2.2.1) (dec c.2.2.2.2.2)) !=(aX (dec d.2.2.2.2.1) (dec d.2.2.2.2.2))with|true=>k 47 (cY c d r3 (hid (tC d)) false 1)|false=>k 47 (cY c d r3 d false 1))))|false=>k 47 (cY c d r3 d false 1)))|false=>(match !c.1 with|true=>(og (decide (okP 4000 c.2.2.2.2.1∧okP 4000 c.2.2.2.2.2)) (og (decide (okP 4000 d.2.2.2.2.1∧okP 4000 d.2.2.2.2.2)) (match(aX (dec c.2.2.2.2.1) (dec c.2.2.2.2.2)) !=(aX (dec d.2.2.2.2.1) (dec d.2.2.2.2.2))with|true=>k 47 (cY c d r3 (hid (tC d)) false 1)|false=>k 47 (cY c d r3 d false 1))))|false=>k 47 (cY c d r3 d false 1)))|false=>(match !c.1 with|true=>(og (decide (okP 4000 c.2.2.2.2.1∧okP 4000 c.2.2.2.2.2)) (og (decide (okP 4000 d.2.2.2.2.1∧okP 4000 d.2.2.2.2.2)) (match(aX (dec c.2.2.2.2.1) (dec c.2.2.2.2.2)) !=(aX (dec d.2.2.2.2.1) (dec d.2.2.2.2.2))with|true=>k 47 (cY c d r3 (hid (tC d)) false 1)|false=>k 47 (cY c d r3 d false 1))))|false=>k 47 (cY c d r3 d false 1))))
theorem t9(c d:BCU)(s9:Int)(r3:List BP):RN tn 18 (pS c d s9 r3) (p7 c d s9 r3):=rnX
def lK(c d:BCU)(s9:Int)(r3:List BP)(k:KT):Option (List RV):=match decide (s9<(([c.2.2.2.2.1,c.2.2.2.2.2,d.2.2.2.2.1,d.2.2.2.2.2]).length:Int))with|true=>(match aR ([c.2.2.2.2.1,c.2.2.2.2.2,d.2.2.2.2.1,d.2.2.2.2.2]) s9 with|some _=>(match true,([c.2.2.2.2.1,c.2.2.2.2.2,d.2.2.2.2.1,d.2.2.2.2.2])[(s9).toNat]? with|true,some x1=>(og (decide (okC 3500 c∧okP 3500 x1)) (match onR (dC c) (dec x1)with|true=>(match aR ([c.2.2.2.2.1,c.2.2.2.2.2,d.2.2.2.2.1,d.2.2.2.2.2]) s9 with|some _=>(match true,([c.2.2.2.2.1,c.2.2.2.2.2,d.2.2.2.2.1,d.2.2.2.2.2])[(s9).toNat]? with|true,some x2=>(og (decide (okC 3500 d∧okP 3500 x2)) (match onR (dC d) (dec x2)with|true=>(match aR ([c.2.2.2.2.1,c.2.2.2.2.2,d.2.2.2.2.1,d.2.2.2.2.2]) s9 with|some _=>(match true,([c.2.2.2.2.1,c.2.2.2.2.2,d.2.2.2.2.1,d.2.2.2.2.2])[(s9).toNat]? with|true,some x3=>(og (decide ((r3.length+([x3]).length)*320≤140737488355328∧r3.length+([x3]).length≤140737488355328)) (k 18 (ko c d (i64.wrap (s9+1)) (r3++([x3])))))|_,_=>none)|none=>none)|false=>k 18 (ko c d (i64.wrap (s9+1)) r3)))|_,_=>none)|none=>none)|false=>k 18 (ko c d (i64.wrap (s9+1)) r3)))|_,_=>none)|none=>none)|false=>(og (decide (wz c r3)) (match c.1 with|true=>(match d.1 with|true=>(match !(c.2.2.2.1==d.2.2.2.1)with|true=>k 47 (cY c d r3 (hid (tC d)) false 1)|false=>(match !c.1 with|true=>(og (decide (okP 4000 c.2.2.2.2.1∧okP 4000 c.2.2.2.2.2)) (og (decide (okP 4000 d.2.2.2.2.1∧okP 4000 d.2.2.2.2.2)) (match(aX (dec c.2.2.2.2.1) (dec c.2.2.2.2.2)) !=(aX (dec d.2.2.2.2.1) (dec d.2.2.2.2.2))with|true=>k 47 (cY c d r3 (hid (tC d)) false 1)|false=>k 47 (cY c d r3 d false 1))))|false=>k 47 (cY c d r3 d false 1)))|false=>(match !c.1 with|true=>(og (decide (okP 4000 c.2.2.2.2.1∧okP 4000 c.2.2.2.2.2)) (og (decide (okP 4000 d.2.2.2.2.1∧okP 4000 d.2.2.2.2.2)) (match(aX (dec c.2.2.2.2.1) (dec c.2.2.2.2.2)) !=(aX (dec d.2.2.2.2.1) (dec d.2.2.2.2.2))with|true=>k 47 (cY c d r3 (hid (tC d)) false 1)|false=>k 47 (cY c d r3 d false 1))))|false=>k 47 (cY c d r3 d false 1)))|false=>(match !c.1 with|true=>(og (decide (okP 4000 c.2.2.2.2.1∧okP 4000 c.2.2.2.2.2)) (og (decide (okP 4000 d.2.2.2.2.1∧okP 4000 d.2.2.2.2.2)) (match(aX (dec c.2.2.2.2.1) (dec c.2.2.2.2.2)) !=(aX (dec d.2.2.2.2.1) (dec d.2.2.2.2.2))with|true=>k 47 (cY c d r3 (hid (tC d)) false 1)|false=>k 47 (cY c d r3 d false 1))))|false=>k 47 (cY c d r3 d false 1))))
theorem pz(c d:BCU)(s9:Int)(r3:List BP):RN tn 18 (ko c d s9 r3) (lK c d s9 r3):=rnX
def qh(c d:BCU)(r3:List BP)(B1:BCU)(s10:Bool)(s11:Int)(k:KT):Option (List RV):=match cC (dC c) (dC d)with|true=>(match decide (s11<((gZ (dC c) r3).length:Int))with|true=>(match s10 with|true=>k 47 (cY c d r3 B1 true (i64.wrap (s11+1)))|false=>(match aR (gZ (dC c) r3) (i64.wrap (s11-1))with|some x1=>(match aR (gZ (dC c) r3) s11 with|some x2=>(og (decide (okC 4000 B1∧okP 4000 x1∧okP 4000 x2)) (k 47 (cY c d r3 B1 (decide ((dg (dC B1) (dec x1) (dec x2))<0)) (i64.wrap (s11+1)))))|none=>none)|none=>none))|false=>some [RV.d (.sl tP) (gZ (dC c) r3),RV.d .bool s10])|false=>some [RV.d (.sl tP) (gZ (dC c) r3),RV.d .bool s10]
theorem uc(c d:BCU)(r3:List BP)(B1:BCU)(s10:Bool)(s11:Int):RN tn 47 (cY c d r3 B1 s10 s11) (qh c d r3 B1 s10 s11):=rnX
theorem Oc{c:Cv}{S:List BP}{i:Nat}(h1:1≤i)(hi:i<S.length):Ba c (S.drop (i-1))=(decide (dg c (dec S[i-1]) (dec S[i])<0)||Ba c (S.drop i)):=by
 have hd:S.drop (i-1)=S[i-1]::S.drop i:=by
  have:=al1 (l:=S) (i:=i-1) (by omega)
  rw[this,show i-1+1=i by omega]
 have hd2:S.drop i=S[i]::S.drop (i+1):=al1 hi
 rw[hd,hd2]
 rfl
theorem U3{c:Cv}{S:List BP}(h:S.length≤1):Ba c S=false:=by
 match S,h with
 |[],_=>rfl
 |[_],_=>rfl
theorem aaM(c d:BCU)(r3 S:List BP)(hS:gZ (dC c) r3=S)(hl:S.length≤1000000)(ho:∀x∈S,okP 4000 x)(B:BCU)(hB:okC 4000 B):∀(j i:Nat),1≤i→i+j=max S.length 1→∀s:Bool,
  tn.Runs 47 (cY c d r3 B s (i:Int)) [.d (.sl tP) S,.d .bool (bif cC (dC c) (dC d)then s||Ba (dC B) (S.drop (i-1))else s)]:=by
 intro j
 induction j with
 |zero=>
  intro i h1 hi s
  refine uc _ _ _ _ _ _ ⟨0,?_⟩
  unfold qh
  rw[hS,b9 (by omega),U3 (by rw[an4];omega),Bool.or_false]
  cases cC (dC c) (dC d)<;>rfl
 |succ j ih=>
  intro i h1 hi s
  have hil:i<S.length:=by omega
  have e1:i64.wrap ((i:Int)-1)=((i-1:Nat):Int):=by rw[aT (by omega) (by omega)];omega
  have e2:i64.wrap ((i:Int)+1)=((i+1:Nat):Int):=bV (by omega)
  have g1:aR S ((i-1:Nat):Int)=some S[i-1]:=by rw[ao,alG (by omega)]
  have g2:aR S (i:Int)=some S[i]:=by rw[ao,alG hil]
  cases hs:cC (dC c) (dC d)
  ·refine uc _ _ _ _ _ _ ⟨0,?_⟩
   unfold qh
   rw[hS,hs]
   rfl
  ·obtain⟨n,hn⟩:=ih (i+1) (by omega) (by omega) (s||decide (dg (dC B) (dec S[i-1]) (dec S[i])<0))
   refine uc _ _ _ _ _ _ ⟨n,?_⟩
   unfold qh
   rw[hS,hs,bH hil,e1,e2,g1,g2]
   dsimp only
   rw[dT (show okC 4000 B∧okP 4000 S[i-1]∧okP 4000 S[i] from⟨hB,ho _ (amh _),ho _ (amh _)⟩)]
   rw[hs,Nat.add_sub_cancel,Bool.or_assoc,←Oc h1 hil]at hn
   cases s
   ·exact hn
   ·simp only[Bool.true_or,cond_true]at hn ⊢
    exact hn
theorem I9{c:Cv}{l:List BP}{p:BP→Prop}(h:∀x∈l,p x):∀x∈gZ c l,p x:=fun x hx=>by
 rcases vP hx with h'|h'
 ·cases h'
 ·exact h x h'
theorem Hr(c d:BCU)(h:gj c d)(r3:List BP)(hl:r3.length≤100)(ho:∀x∈r3,okP 580 x):∃n,(match decide (wz c r3)with
  |true=>tn.k n 47 (cY c d r3 (yK c d) false 1)
  |false=>none)=some [.d (.sl tP) (gZ (dC c) r3),.d .bool (cC (dC c) (dC d)&&Ba (dC (yK c d)) (gZ (dC c) r3))]:=by
 have hs:wz c r3:=⟨cg h.1.1 (by decide) (by decide),by omega,fun x hx=>cK (ho x hx) (by decide) (by decide)⟩
 have hR:okC 4000 (yK c d):=by
  unfold yK
  have:=cg (k:=4000) h.2.1 (by decide) (by decide)
  cases Ul c d
  ·exact this
  ·exact PU 4000 this
 have hlen:=wu (dC c) r3 []
 obtain⟨n,hn⟩:=aaM c d r3 _ rfl (by simp at hlen;unfold gZ;omega) (I9 (fun x hx=>cK (ho x hx) (by decide) (by decide))) (yK c d) hR (max (gZ (dC c) r3).length 1-1) 1 (alL _) (by omega) false
 refine⟨n,?_⟩
 rw[dT hs]
 refine hn.trans ?_
 cases cC (dC c) (dC d)<;>rfl
theorem Ci{l c:Ln}[BdL l][BdC c](hl:l.1≠0∨l.2.1≠0):(re l c).length≤2∧∀p∈re l c,Bd p 490∧Rpd p:=by
 unfold re
 by_cases h0:jx l c<0
 ·rw[alF h0]
  exact⟨by simp,fun p hp=>by cases hp⟩
 ·rw[alH h0]
  by_cases h1:jx l c=0
  ·rw[alF h1]
   obtain⟨f1,f2,_,_⟩:=uS (l:=l) (c:=c)
   refine⟨by simp,fun p hp=>?_⟩
   have:p=atP (ftX l c,ftY l c):=by simpa using hp
   rw[this]
   exact⟨(inferInstance:Bd (atP (ftX l c,ftY l c)) _).mono (by decide),inferInstance⟩
  ·rw[alH h1]
   obtain⟨p1,p2⟩:=Sm (c:=c) hl (show 0≤jx l c by grind)
   obtain⟨q1,q2⟩:=KV (l:=l) (c:=c)
   cases decide (aX (tX l c) (se l c)>0)
   ·refine⟨by simp,fun p hp=>?_⟩
    have:p=tX l c∨p=se l c:=by simpa using hp
    rcases this with e|e<;>rw[e]
    ·exact⟨q1,p1⟩
    ·exact⟨q2,p2⟩
   ·refine⟨by simp,fun p hp=>?_⟩
    have:p=se l c∨p=tX l c:=by simpa using hp
    rcases this with e|e<;>rw[e]
    ·exact⟨q2,p2⟩
    ·exact⟨q1,p1⟩
theorem vZ{l m:Ln}[BdL l][BdL m]:(lk l m).length≤2∧∀p∈lk l m,Bd p 490∧Rpd p:=by
 unfold lk
 cases decide (dk l m=0)
 ·have bc:Bd (dk l m) 49:=inferInstanceAs (Bd (l.1*m.2.1-m.1*l.2.1) _)
  have bx:Bd (lj l m) 151:=inferInstanceAs (Bd (l.2.2*m.2.1-m.2.2*l.2.1) _)
  have b_:Bd (ln l m) 151:=inferInstanceAs (Bd (l.1*m.2.2-m.1*l.2.2) _)
  refine⟨by simp,fun p hp=>?_⟩
  have:p=atP (lj l m/dk l m,ln l m/dk l m):=by simpa using hp
  rw[this]
  exact⟨(inferInstance:Bd (atP (lj l m/dk l m,ln l m/dk l m)) _).mono (by decide),inferInstance⟩
 ·exact⟨by simp,fun p hp=>by cases hp⟩
theorem Jb{c d:BCU}(h:gA c d):(vF (dC c) (dC d)).length≤2∧∀p∈vF (dC c) (dC d),Bd p 490∧Rpd p:=by
 obtain⟨⟨a1,a2⟩,b1,b2⟩:=h
 obtain⟨aa,al,ac,aw,af,at_⟩:=c
 obtain⟨ba,bl,bc,bw,bf,bt⟩:=d
 have ex1:∀x:BO3,cL x→BdL (dec x)∧((dec x:Ln).1≠0∨(dec x:Ln).2.1≠0):=fun x h=>by
  obtain⟨l,rfl,bl,nl⟩:=dW h
  rw[az]
  exact⟨bl,nl⟩
 have ex2:∀x:BO3,cf x→BdC (dec x):=fun x h=>by
  obtain⟨l,rfl,bl,nl⟩:=cJ h
  rw[az]
  exact bl
 unfold vF
 cases aa<;>cases ba
 ·obtain⟨i1,_⟩:=ex1 _ (a2 rfl)
  obtain⟨i2,_⟩:=ex1 _ (b2 rfl)
  exact vZ (l:=dec al) (m:=dec bl)
 ·obtain⟨i1,n1⟩:=ex1 _ (a2 rfl)
  have i2:=ex2 _ (b1 rfl)
  exact Ci (l:=dec al) (c:=dec bc) n1
 ·have i1:=ex2 _ (a1 rfl)
  obtain⟨i2,n2⟩:=ex1 _ (b2 rfl)
  exact Ci (l:=dec bl) (c:=dec ac) n2
 ·have i1:=ex2 _ (a1 rfl)
  have i2:=ex2 _ (b1 rfl)
  show(DI (dec ac) (dec bc)).length≤2∧∀p∈DI (dec ac) (dec bc),Bd p 490∧Rpd p
  unfold DI
  cases hc:gM (dec ac) (dec bc)
  ·have i3:BdL (mU (dec ac) (dec bc)):=ym
   exact Ci (ui hc)
  ·exact⟨by simp,fun p hp=>by cases hp⟩
theorem Jd{c d:BCU}(h:gj c d):(yR c d).length≤4∧∀x∈yR c d,okP 580 x:=by
 obtain⟨⟨h1,h2⟩,h3,h4⟩:=h
 unfold yR
 cases cC (dC c) (dC d)
 ·obtain⟨g1,g2⟩:=Jb (show gA c d from⟨h2,h4⟩)
  refine⟨by simp only[Bool.not_false,cond_true,anq];omega,fun x hx=>?_⟩
  obtain⟨p,hp,rfl⟩:=anh.1 hx
  obtain⟨b,r⟩:=g2 p hp
  exact alI (aJ (j:=490) (by decide) (by decide))
 ·refine⟨by simp,fun x hx=>?_⟩
  have:x=c.2.2.2.2.1∨x=c.2.2.2.2.2∨x=d.2.2.2.2.1∨x=d.2.2.2.2.2:=by simpa using hx
  rcases this with e|e|e|e<;>rw[e]
  ·exact h1.2.2.1
  ·exact h1.2.2.2
  ·exact h3.2.2.1
  ·exact h3.2.2.2
def mq(c d:BCU)(p:BP):Bool:=onR (dC c) (dec p)&&onR (dC d) (dec p)
theorem Fe(c d:BCU)(h:gj c d)(L:List BP)(hL:(vF (dC c) (dC d)).map enc=L)(h4:L.length≤4)(ho:∀x∈L,okP 580 x):∀(j i:Nat),i+j=L.length→∀r3:List BP,r3.length≤i→(∀x∈r3,okP 580 x)→
  tn.Runs 18 (pS c d (i:Int) r3) [.d (.sl tP) (gZ (dC c) (r3++(L.drop i).filter (mq c d))),.d .bool (cC (dC c) (dC d)&&Ba (dC (yK c d)) (gZ (dC c) (r3++(L.drop i).filter (mq c d))))]:=by
 intro j
 induction j with
 |zero=>
  intro i hi r3 hr h3
  obtain⟨n,hn⟩:=Hr c d h r3 (by omega) h3
  refine t9 _ _ _ _ ⟨n,?_⟩
  have hd:L.drop i=[]:=List.drop_eq_nil_iff.2 (by omega)
  rw[hd,aop,ame,←hn]
  unfold p7
  rw[hL,b9 (by omega)]
  have hs:wz c r3:=⟨cg h.1.1 (by decide) (by decide),by omega,fun x hx=>cK (h3 x hx) (by decide) (by decide)⟩
  have o1:decide (okP 4000 c.2.2.2.2.1∧okP 4000 c.2.2.2.2.2)=true:=alF ⟨cK h.1.1.2.2.1 (by decide) (by decide),cK h.1.1.2.2.2 (by decide) (by decide)⟩
  have o2:decide (okP 4000 d.2.2.2.2.1∧okP 4000 d.2.2.2.2.2)=true:=alF ⟨cK h.2.1.2.2.1 (by decide) (by decide),cK h.2.1.2.2.2 (by decide) (by decide)⟩
  rw[dT hs,o1,o2]
  dsimp only
  unfold yK Ul bne
  simp only[bO]
  cases c.1<;>cases d.1<;>cases(c.2.2.2.1==d.2.2.2.1)<;>cases(aX (dec c.2.2.2.2.1) (dec c.2.2.2.2.2)==aX (dec d.2.2.2.2.1) (dec d.2.2.2.2.2))<;>rfl
 |succ j ih=>
  intro i hi r3 hr h3
  have hil:i<L.length:=by omega
  have e2:i64.wrap ((i:Int)+1)=((i+1:Nat):Int):=bV (by omega)
  have g2:aR L (i:Int)=some L[i]:=by rw[ao,alG hil]
  have g3:L[((i:Int)).toNat]?=some L[i]:=by rw[show((i:Int)).toNat=i by omega,alG hil]
  have hx:=ho _ (amh hil)
  have hd:L.drop i=L[i]::L.drop (i+1):=al1 hil
  have ox:=cK (k:=3500) hx (by decide) (by decide)
  have o1:decide (okC 3500 c∧okP 3500 L[i])=true:=alF ⟨cg h.1.1 (by decide) (by decide),ox⟩
  have o2:decide (okC 3500 d∧okP 3500 L[i])=true:=alF ⟨cg h.2.1 (by decide) (by decide),ox⟩
  have hf:(L.drop i).filter (mq c d)=bif mq c d L[i]then L[i]::(L.drop (i+1)).filter (mq c d)else(L.drop (i+1)).filter (mq c d):=by
   rw[hd,anC]
   cases mq c d L[i]<;>rfl
  cases hb:mq c d L[i]
  ·rw[hb]at hf
   obtain⟨n,hn⟩:=ih (i+1) (by omega) r3 (by omega) h3
   refine t9 _ _ _ _ ⟨n,?_⟩
   rw[hf]
   dsimp only[cond_false]
   rw[←hn]
   unfold mq at hb
   unfold p7
   rw[hL,bH hil,g2,e2]
   dsimp only
   try rw[g3]
   try dsimp only
   rw[o1,o2]
   cases h1:onR (dC c) (dec L[i])
   ·rfl
   ·rw[h1,amN]at hb
    rw[hb]
  ·rw[hb]at hf
   obtain⟨n,hn⟩:=ih (i+1) (by omega) (r3++[L[i]]) (by simp;omega) (fun x hx'=>by
    rcases amr.1 hx' with h'|h'
    ·exact h3 x h'
    ·have:x=L[i]:=by simpa using h'
     rw[this];exact hx)
   refine t9 _ _ _ _ ⟨n,?_⟩
   rw[hf]
   dsimp only[cond_true]
   rw[al7]at hn
   refine Eq.trans ?_ hn
   unfold mq at hb
   obtain⟨h1,h2⟩:=alQ.1 hb
   unfold p7
   rw[hL,bH hil,g2,e2]
   dsimp only
   try rw[g3]
   try dsimp only
   rw[o1,o2,h1,h2]
   dsimp only
   rw[dT (by simp;omega)]
theorem B8(c d:BCU)(h:gj c d)(L:List BP)(hL:[c.2.2.2.2.1,c.2.2.2.2.2,d.2.2.2.2.1,d.2.2.2.2.2]=L)(h4:L.length≤4)(ho:∀x∈L,okP 580 x):∀(j i:Nat),i+j=L.length→∀r3:List BP,r3.length≤i→(∀x∈r3,okP 580 x)→
  tn.Runs 18 (ko c d (i:Int) r3) [.d (.sl tP) (gZ (dC c) (r3++(L.drop i).filter (mq c d))),.d .bool (cC (dC c) (dC d)&&Ba (dC (yK c d)) (gZ (dC c) (r3++(L.drop i).filter (mq c d))))]:=by
 intro j
 induction j with
 |zero=>
  intro i hi r3 hr h3
  obtain⟨n,hn⟩:=Hr c d h r3 (by omega) h3
  refine pz _ _ _ _ ⟨n,?_⟩
  have hd:L.drop i=[]:=List.drop_eq_nil_iff.2 (by omega)
  rw[hd,aop,ame,←hn]
  unfold lK
  rw[hL,b9 (by omega)]
  have hs:wz c r3:=⟨cg h.1.1 (by decide) (by decide),by omega,fun x hx=>cK (h3 x hx) (by decide) (by decide)⟩
  have o1:decide (okP 4000 c.2.2.2.2.1∧okP 4000 c.2.2.2.2.2)=true:=alF ⟨cK h.1.1.2.2.1 (by decide) (by decide),cK h.1.1.2.2.2 (by decide) (by decide)⟩
  have o2:decide (okP 4000 d.2.2.2.2.1∧okP 4000 d.2.2.2.2.2)=true:=alF ⟨cK h.2.1.2.2.1 (by decide) (by decide),cK h.2.1.2.2.2 (by decide) (by decide)⟩
  rw[dT hs,o1,o2]
  dsimp only
  unfold yK Ul bne
  simp only[bO]
  cases c.1<;>cases d.1<;>cases(c.2.2.2.1==d.2.2.2.1)<;>cases(aX (dec c.2.2.2.2.1) (dec c.2.2.2.2.2)==aX (dec d.2.2.2.2.1) (dec d.2.2.2.2.2))<;>rfl
 |succ j ih=>
  intro i hi r3 hr h3
  have hil:i<L.length:=by omega
  have e2:i64.wrap ((i:Int)+1)=((i+1:Nat):Int):=bV (by omega)
  have g2:aR L (i:Int)=some L[i]:=by rw[ao,alG hil]
  have g3:L[((i:Int)).toNat]?=some L[i]:=by rw[show((i:Int)).toNat=i by omega,alG hil]
  have hx:=ho _ (amh hil)
  have hd:L.drop i=L[i]::L.drop (i+1):=al1 hil
  have ox:=cK (k:=3500) hx (by decide) (by decide)
  have o1:decide (okC 3500 c∧okP 3500 L[i])=true:=alF ⟨cg h.1.1 (by decide) (by decide),ox⟩
  have o2:decide (okC 3500 d∧okP 3500 L[i])=true:=alF ⟨cg h.2.1 (by decide) (by decide),ox⟩
  have hf:(L.drop i).filter (mq c d)=bif mq c d L[i]then L[i]::(L.drop (i+1)).filter (mq c d)else(L.drop (i+1)).filter (mq c d):=by
   rw[hd,anC]
   cases mq c d L[i]<;>rfl
  cases hb:mq c d L[i]
  ·rw[hb]at hf
   obtain⟨n,hn⟩:=ih (i+1) (by omega) r3 (by omega) h3
   refine pz _ _ _ _ ⟨n,?_⟩
   rw[hf]
   dsimp only[cond_false]
   rw[←hn]
   unfold mq at hb
   unfold lK
   rw[hL,bH hil,g2,e2]
   dsimp only
   try rw[g3]
   try dsimp only
   rw[o1,o2]
   cases h1:onR (dC c) (dec L[i])
   ·rfl
   ·rw[h1,amN]at hb
    rw[hb]
  ·rw[hb]at hf
   obtain⟨n,hn⟩:=ih (i+1) (by omega) (r3++[L[i]]) (by simp;omega) (fun x hx'=>by
    rcases amr.1 hx' with h'|h'
    ·exact h3 x h'
    ·have:x=L[i]:=by simpa using h'
     rw[this];exact hx)
   refine pz _ _ _ _ ⟨n,?_⟩
   rw[hf]
   dsimp only[cond_true]
   rw[al7]at hn
   refine Eq.trans ?_ hn
   unfold mq at hb
   obtain⟨h1,h2⟩:=alQ.1 hb
   unfold lK
   rw[hL,bH hil,g2,e2]
   dsimp only
   try rw[g3]
   try dsimp only
   rw[o1,o2,h1,h2]
   dsimp only
   rw[dT (by simp;omega)]
def afp:Cn 19 [tCU,tCU]:=cn fun(c d:BCU)=>lf (gj c d) [.d (.sl tP) (rl c d),.d .bool (ait c d)] fun h=>by
 obtain⟨h4,ho⟩:=Jd h
 have hsp:gA c d:=⟨h.1.2,h.2.2⟩
 refine cZ ZM (show tn.Res _ _ _ from ?_)
 unfold yR at h4 ho
 unfold rl ait rl UY yR
 cases hs:cC (dC c) (dC d)
 ·rw[hs]at h4 ho
  obtain⟨n,hn⟩:=Fe c d h _ rfl h4 ho _ 0 (aml _) [] (alL _) (fun x hx=>by cases hx)
  refine WO _ _ ⟨n,?_⟩
  unfold Q1
  rw[dT hsp,hs]
  rw[hs]at hn
  exact hn
 ·rw[hs]at h4 ho
  obtain⟨n,hn⟩:=B8 c d h _ rfl h4 ho _ 0 (aml _) [] (alL _) (fun x hx=>by cases hx)
  refine WO _ _ ⟨n,?_⟩
  unfold Q1
  rw[dT hsp,hs]
  rw[hs]at hn
  exact hn
def i8P(n:Int):Prop:= -128≤n∧n≤127
instance (n:Int):Decidable (i8P n):=by unfold i8P;infer_instance
def u8P(n:Int):Prop:=0≤n∧n≤255
instance (n:Int):Decidable (u8P n):=by unfold u8P;infer_instance
def atQ(n u:Int):Rat:=Rat.divInt n (u%4+1)
def tk(c:BO3):List BCU:=[(true,o00,c,false,enc (jS (dec c)),enc (jU (dec c))),(true,o00,c,false,enc (jU (dec c)),enc (jS (dec c)))]
abbrev tDr:Ty:=.st (.pair (.int .u8) (.pair (.int .u8) (.pair (.int .i8) (.pair (.int .i8) (.pair (.int .i8) (.pair (.int .i8) (.pair (.int .i8) (.int .i8))))))))
abbrev xS:Ty:=.st (.pair tDr (.pair tDr (.int .u8)))
abbrev Dr:=Int×Int×Int×Int×Int×Int×Int×Int
abbrev Pce:=Dr×Dr×Int
def yO(x:Dr):Prop:=u8P x.1∧u8P x.2.1∧i8P x.2.2.1∧i8P x.2.2.2.1∧i8P x.2.2.2.2.1∧i8P x.2.2.2.2.2.1∧i8P x.2.2.2.2.2.2.1∧i8P x.2.2.2.2.2.2.2
instance (x:Dr):Decidable (yO x):=by unfold yO;infer_instance
def drA(x:Dr):Rat×Rat:=(atQ x.2.2.1 x.2.1,atQ x.2.2.2.1 x.2.1)
def drB(x:Dr):Rat×Rat:=(atQ x.2.2.2.2.1 x.2.1,atQ x.2.2.2.2.2.1 x.2.1)
def drC(x:Dr):Rat×Rat:=(atQ x.2.2.2.2.2.2.1 x.2.1,atQ x.2.2.2.2.2.2.2 x.2.1)
def drQ(x:Dr):Ln:=((drA x).1,(drA x).2,(drB x).1)
def ofL(x:Dr):List BCU:=
 bif x.1%3==2 then(bif decide ((drB x).1≤0)then []else tk (enc (drQ x)))
 else bif x.1%3==1 then(bif arcE (drA x) (drB x) (drC x) !=0 then []else [jV (drA x) (drB x) (drC x)])
 else bif segE (drA x) (drB x) !=0 then []else [ic (drA x) (drB x)]
theorem Jm{u k:Int}(h:u8P u):Int.tmod u k=u%k:=Int.tmod_eq_emod_of_nonneg h.1
theorem mC{n u:Int}(h:i8P n)(_h':u8P u):Bb (atQ n u) 7 2:=by
 unfold atQ
 obtain⟨h1,h2⟩:=h
 exact Ih (by omega) (by show n.natAbs≤128;omega) (by show(u%4+1).natAbs≤4;omega)
theorem Con.dd{P:Program}{f:Nat}{args:List SV}{et:TypeId}{e:Ty}{xs:List e.D}{r:RV}(h:Con P f args [r])(hr:r=.new et e xs∨r=.d (.sl e) xs):Con P f args [.d (.sl e) xs]:=by
 rcases hr with rfl|rfl
 ·exact Con.new_d h
 ·exact h
def I4:List En:=[enL Ao,enL Xa,enT lT,enL PH,enL P3]
def WK(n u:Int)(_k:KT):Option (List RV):=og (decide (yL (i64.wrap n) (i64.wrap ((i64.wrap (Int.tmod u 4))+1)))) (some [RV.d tR (hid (am (Rat.divInt (i64.wrap n) (i64.wrap ((i64.wrap (Int.tmod u 4))+1)))))])
def aeJ:Cn 53 [(.int .i8),(.int .u8)]:=cn fun(n u:Int)=>lf (i8P n∧u8P u) [.d tR (am (atQ n u))] fun h=>by
 refine aA I4 (WK n u) ⟨0,?_⟩
 obtain⟨hn,hu⟩:=h
 have e0:=Jm (k:=4) hu
 obtain⟨n1,n2⟩:=hn
 unfold WK
 rw[e0,aT (x:=n) (by omega) (by omega),aT (x:=u%4) (by omega) (by omega),aT (x:=u%4+1) (by omega) (by omega),dT (show yL n (u%4+1) from⟨⟨by omega,by omega⟩,⟨by omega,by omega⟩,by omega⟩)]
 simp only[bO]
 rfl
def aex:Ctx:=CX (ens I4) []
def X7(c:BO3)(_k:KT):Option (List RV):=og (decide (cf c)) (some [RV.new 39 tCU ([(true,((((false,[]),(false,[])),(((false,[]),(false,[])),((false,[]),(false,[])))),(c,(false,(hid (enc (jS (dec c))),hid (enc (jU (dec c)))))))),(true,((((false,[]),(false,[])),(((false,[]),(false,[])),((false,[]),(false,[])))),(c,(false,(hid (enc (jU (dec c))),hid (enc (jS (dec c))))))))])])
theorem ahX(c:BO3):RS aex 37 [.d tO c] (X7 c):=rsX
def Zb:Cn 37 [tO]:=cn fun(c:BO3)=>lf (cf c) [.d (.sl tCU) (tk c)] fun h=>by
 refine Con.new_d (et:=39) (cZ I4 (ahX _ ⟨0,?_⟩))
 unfold X7
 rw[dT h]
 simp only[bO]
 rfl
def Z0:List En:=enL aeJ::enL Zb::I4
def ZF:Ctx:=CX (ens Z0) []
def Sc(x:Dr)(_k:KT):Option (List RV):=og (decide (i8P x.2.2.1∧u8P x.2.1)) (og (decide (i8P x.2.2.2.1∧u8P x.2.1)) (og (decide (i8P x.2.2.2.2.1∧u8P x.2.1)) (og (decide (i8P x.2.2.2.2.2.1∧u8P x.2.1)) (match(Int.tmod x.1 3)==2 with|true=>(og (decide (i8P x.2.2.2.2.1∧u8P x.2.1)) (og (o1 (hid (am (atQ x.2.2.2.2.1 x.2.1)))) (match decide ((aG (ah (hid (am (atQ x.2.2.2.2.1 x.2.1)))) 0)≤0)with|true=>some [RV.new 39 tCU []]|false=>(og (decide (cf (hid (am (atQ x.2.2.1 x.2.1)),(hid (am (atQ x.2.2.2.1 x.2.1)),hid (am (atQ x.2.2.2.2.1 x.2.1)))))) (some [RV.d (.sl tCU) (tk (hid (am (atQ x.2.2.1 x.2.1)),(hid (am (atQ x.2.2.2.1 x.2.1)),hid (am (atQ x.2.2.2.2.1 x.2.1)))))])))))|false=>(og (decide (ok (Rat×Rat) 100 (hid (am (atQ x.2.2.1 x.2.1)),hid (am (atQ x.2.2.2.1 x.2.1)))∧ok (Rat×Rat) 100 (hid (am (atQ x.2.2.2.2.1 x.2.1)),hid (am (atQ x.2.2.2.2.2.1 x.2.1))))) (match(Int.tmod x.1 3)==1 with|true=>(og (decide (i8P x.2.2.2.2.2.2.1∧u8P x.2.1)) (og (decide (i8P x.2.2.2.2.2.2.2∧u8P x.2.1)) (og (decide (ok (Rat×Rat) 100 (hid (am (atQ x.2.2.1 x.2.1)),hid (am (atQ x.2.2.2.1 x.2.1)))∧ok (Rat×Rat) 100 (hid (am (atQ x.2.2.2.2.1 x.2.1)),hid (am (atQ x.2.2.2.2.2.1 x.2.1)))∧ok (Rat×Rat) 100 (hid (am (atQ x.2.2.2.2.2.2.1 x.2.1)),hid (am (atQ x.2.2.2.2.2.2.2 x.2.1))))) (match(arcE (dec (hid (am (atQ x.2.2.1 x.2.1)),hid (am (atQ x.2.2.2.1 x.2.1)))) (dec (hid (am (atQ x.2.2.2.2.1 x.2.1)),hid (am (atQ x.2.2.2.2.2.1 x.2.1)))) (dec (hid (am (atQ x.2.2.2.2.2.2.1 x.2.1)),hid (am (atQ x.2.2.2.2.2.2.2 x.2.1))))) !=0 with|true=>some [RV.new 39 tCU []]|false=>some [RV.new 39 tCU ([hid (jV (dec (hid (am (atQ x.2.2.1 x.2.1)),hid (am (atQ x.2.2.2.1 x.2.1)))) (dec (hid (am (atQ x.2.2.2.2.1 x.2.1)),hid (am (atQ x.2.2.2.2.2.1 x.2.1)))) (dec (hid (am (atQ x.2.2.2.2.2.2.1 x.2.1)),hid (am (atQ x.2.2.2.2.2.2.2 x.2.1)))))])]))))|false=>(match(segE (dec (hid (am (atQ x.2.2.1 x.2.1)),hid (am (atQ x.2.2.2.1 x.2.1)))) (dec (hid (am (atQ x.2.2.2.2.1 x.2.1)),hid (am (atQ x.2.2.2.2.2.1 x.2.1))))) !=0 with|true=>some [RV.new 39 tCU []]|false=>some [RV.new 39 tCU ([hid (ic (dec (hid (am (atQ x.2.2.1 x.2.1)),hid (am (atQ x.2.2.2.1 x.2.1)))) (dec (hid (am (atQ x.2.2.2.2.1 x.2.1)),hid (am (atQ x.2.2.2.2.2.1 x.2.1)))))])])))))))
theorem ad0(x:Dr):RS ZF 18 [.d tDr x] (Sc x):=rsX
def afs:Cn 18 [tDr]:=cn fun(x:Dr)=>lf (yO x) [.d (.sl tCU) (ofL x)] fun h=>by
 obtain⟨h1,h2,hA,hB,hC,hD,hE,hF⟩:=h
 have at_bd:∀n,i8P n→Bd (atQ n x.2.1) 1:=fun n hn=>oE (h:=mC hn h2) (by decide) (by decide)
 have bA:=at_bd _ hA
 have bB:=at_bd _ hB
 have bC:=at_bd _ hC
 have bD:=at_bd _ hD
 have bE:=at_bd _ hE
 have bF:=at_bd _ hF
 have vA:Bd (drA x) 1:=inferInstanceAs (Bd (atQ x.2.2.1 x.2.1,atQ x.2.2.2.1 x.2.1) _)
 have vB:Bd (drB x) 1:=inferInstanceAs (Bd (atQ x.2.2.2.2.1 x.2.1,atQ x.2.2.2.2.2.1 x.2.1) _)
 have vC:Bd (drC x) 1:=inferInstanceAs (Bd (atQ x.2.2.2.2.2.2.1 x.2.1,atQ x.2.2.2.2.2.2.2 x.2.1) _)
 have eA:((am (atQ x.2.2.1 x.2.1),am (atQ x.2.2.2.1 x.2.1)):BV)=enc (drA x):=rfl
 have eB:((am (atQ x.2.2.2.2.1 x.2.1),am (atQ x.2.2.2.2.2.1 x.2.1)):BV)=enc (drB x):=rfl
 have eC:((am (atQ x.2.2.2.2.2.2.1 x.2.1),am (atQ x.2.2.2.2.2.2.2 x.2.1)):BV)=enc (drC x):=rfl
 have eQ:((am (atQ x.2.2.1 x.2.1),am (atQ x.2.2.2.1 x.2.1),am (atQ x.2.2.2.2.1 x.2.1)):BO3)=enc (drQ x):=rfl
 have tm:=Jm (k:=3) h1
 have run:∀r:RV,Sc x (ZF.k 0)=some [r]→(r=.new 39 tCU (ofL x)∨r=.d (.sl tCU) (ofL x))→Con Tryz.prog 18 [.d tDr x] [.d (.sl tCU) (ofL x)]:=fun r e g=>Con.dd (cZ Z0 (ad0 _ ⟨0,e⟩)) g
 unfold Sc at run
 unfold ofL at run ⊢
 simp only[aS,Nat.reduceLeDiff,tm,eQ,eA,eB,eC,dT (show i8P _∧u8P _ from⟨hA,h2⟩),dT (show i8P _∧u8P _ from⟨hB,h2⟩),dT (show i8P _∧u8P _ from⟨hC,h2⟩),dT (show i8P _∧u8P _ from⟨hD,h2⟩),dT (show i8P _∧u8P _ from⟨hE,h2⟩),dT (show i8P _∧u8P _ from⟨hF,h2⟩)]at run
 cases h3:x.1%3==2
 ·simp only[h3,cond_false]at run ⊢
  cases h4:x.1%3==1
  ·simp only[h4,cond_false]at run ⊢
   cases h5:segE (drA x) (drB x) !=0
   ·simp only[h5,cond_false]at run ⊢
    exact run _ rfl (.inl rfl)
   ·simp only[h5,cond_true]at run ⊢
    exact run _ rfl (.inl rfl)
  ·simp only[h4,cond_true]at run ⊢
   cases h5:arcE (drA x) (drB x) (drC x) !=0
   ·simp only[h5,cond_false]at run ⊢
    exact run _ rfl (.inl rfl)
   ·simp only[h5,cond_true]at run ⊢
    exact run _ rfl (.inl rfl)
 ·simp only[h3,cond_true]at run ⊢
  have e1:(drB x).1=atQ x.2.2.2.2.1 x.2.1:=rfl
  by_cases h5:(drB x).1≤0
  ·rw[alF h5]at run ⊢
   refine run _ ?_ (.inl rfl)
   rw[wE,←e1,alF h5]
   rfl
  ·rw[alH h5]at run ⊢
   have ok:cf (enc (drQ x)):=fQ (h:=⟨bA.mono (by decide),bB.mono (by decide),bC.mono (by decide)⟩) (show 0<(drB x).1 by grind)
   refine run _ ?_ (.inr rfl)
   rw[wE,←e1,alH h5]
   simp only[alF ok]
   rfl
def vcR(x y:Int):Rat×Rat:=((x:Rat),(y:Rat))
instance ZU:Bd (-1:Rat) 3:=cQ (n:= -1) (by decide)
theorem yd{v:Rat×Rat}{j k:Nat}[h:Bd v j](hj:mx j (mx 1 (mx j (mx 1 1)))≤k)(hk:k≤480000):okP k (enc (atP v)):=alI (aJ (x:=atP v) hj hk)
section
namespace RE
theorem cmpP_0{p q:Pt}[Rpd p][Rpd q]:aX p q=0↔pR p=pR q:=by
 rw[iW]
 obtain⟨h1,h2,h3⟩:=ik (pR p) (pR q)
 rcases jJ.tri (pR p) (pR q)with h|h|h
 ·rw[h1 h]
  exact⟨fun e=>absurd e (by decide),fun e=>absurd h (by rw[e];exact jJ.irr _)⟩
 ·exact⟨fun _=>h,fun _=>h2 h⟩
 ·rw[h3 h]
  exact⟨fun e=>absurd e (by decide),fun e=>absurd h (by rw[e];exact jJ.irr _)⟩
theorem lE(v:Rat×Rat):pR (atP v)=(of v.1,of v.2):=amV (ad1 v) (ag3 v)
theorem QX{ax bx c:Rat}(h:fM c=true):of (ax+bx*rtQ c)=v2 ax bx c:=by
 unfold v2
 rw[of_add,aF,Pa h]
theorem uW(ax bx ay b_ c:Rat):pR (ot ax bx ay b_ c)=(v2 ax bx c,v2 ay b_ c):=by
 unfold ot
 cases h:fM c
 ·rfl
 ·exact(lE _).trans (amV (QX h) (QX h))
theorem aaQ(a b r:RE):(a+ -1*r-a)*(a+ -1*r-a)+(b+0*r-b)*(b+0*r-b)=r*r:=by grind
theorem SQ(a b r:RE):(a+1*r-a)*(a+1*r-a)+(b+0*r-b)*(b+0*r-b)=r*r:=by grind
theorem SP(a r:RE)(h1:a+ -1*r=a+1*r):r≤0:=by grind
theorem Un(a r:RE)(h1:a+ -1*r=a+1*r):0≤r:=by grind
theorem adN(a r:RE)(h1:a+ -1*r=a+1*r):r=0:=le_antisymm (SP a r h1) (Un a r h1)
theorem aaF{c:Ln}(h:0<c.2.2):fw c (pR (jS c))∧fw c (pR (jU c)):=by
 have hr:=fS (show 0≤c.2.2 by grind)
 unfold jS jU
 rw[uW,uW]
 exact⟨(aaQ _ _ _).trans hr,(SQ _ _ _).trans hr⟩
theorem Ue{c:Ln}(h:0<c.2.2):pR (jS c)≠pR (jU c):=by
 unfold jS jU
 rw[uW,uW]
 intro e
 have e1:=adN _ _ (congrArg Prod.fst e)
 have hr:=fS (show 0≤c.2.2 by grind)
 rw[e1,mul_zero]at hr
 have:=m5 hr
 grind
theorem OD{l:Ln}{v:Rat×Rat}(h:l.1*v.1+l.2.1*v.2=l.2.2):(rX l (atP v)==0)=true:=by
 rw[Br,lE]
 exact congrArg of h
theorem O3{c:Ln}{v:Rat×Rat}(h:(v.1-c.1)*(v.1-c.1)+(v.2-c.2.1)*(v.2-c.2.1)=c.2.2):(oC c (atP v)==0)=true:=by
 rw[so,lE]
 unfold fw frm
 dsimp only
 rw[←of_sub,←of_sub]
 exact congrArg of h
theorem WQ{v w:Rat×Rat}(h:v≠w):aX (atP v) (atP w)≠0:=fun e=>h (by
 have:=cmpP_0.1 e
 rw[lE,lE]at this
 exact amV (m5 (congrArg Prod.fst this)) (m5 (congrArg Prod.snd this)))
end RE
open RE
def gdN(c:BCU):Prop:=mG c∧ge (dC c) (frC (dC c))=true∧ge (dC c) (toC (dC c))=true∧aX (frC (dC c)) (toC (dC c))≠0
theorem gdN.gd{c:BCU}(h:gdN c):gdC c:=⟨h.1.1,h.2.1,h.2.2.1⟩
theorem Cc{a b:Rat×Rat}[ba:Bd a 1][bb:Bd b 1](h:vG a b=false):gdN (ic a b):=by
 have hz:(ou a b).1≠0∨(ou a b).2.1≠0:=by
  unfold vG at h
  by_cases e:a.2-b.2=0
  ·rw[alF e,amN]at h
   exact .inr (amz h)
  ·exact .inl e
 have hne:a≠b:=fun e=>by
  subst e
  unfold ou at hz
  rcases hz with h|h<;>exact h (by show _-_=(0:Rat);grind)
 have b1:Bd (ou a b).1 12:=(inferInstance:Bd (a.2-b.2) _).mono (by decide)
 have b2:Bd (ou a b).2.1 12:=(inferInstance:Bd (b.1-a.1) _).mono (by decide)
 have b3:Bd (ou a b).2.2 63:=(inferInstance:Bd ((a.2-b.2)*a.1+(b.1-a.1)*a.2) _).mono (by decide)
 have hl:=kU (h:=⟨b1,b2,b3⟩) hz
 have hL:Oi (enc (ou a b)):=⟨alI (okd (x:=ou a b) (by decide) (by decide)),by rw[az];exact hz⟩
 unfold ic
 rw[h]
 refine⟨⟨⟨fun e=>(by cases e),fun _=>hL,yd (by decide) (by decide),yd (by decide) (by decide)⟩,fun e=>(by cases e),fun _=>hl⟩,?_⟩
 simp only[dC,ge,frC,toC,lnC,az,cond_false]
 exact⟨OD (by unfold ou;grind),OD (by unfold ou;grind),WQ hne⟩
theorem yC{c:Ln}[bc:BdC c](h:0<c.2.2):∀d∈tk (enc c),gdN d:=by
 have hs:=fQ h
 have bx:=bc.x
 have b_:=bc.y
 have bq:=bc.q
 have b0:Bd (0:Rat) 3:=cQ (n:=0) (by decide)
 have b1:Bd (1:Rat) 3:=cQ (n:=1) (by decide)
 have hC:uY (enc c):=⟨alI (okd (h:=LY (c:=c)) (by decide) (by decide)),by rw[az];exact h⟩
 have q0:(0:Rat)≤c.2.2:=by grind
 have pl:Rpd (jS c):=uy (fun e=>absurd e.1 (by decide)) q0
 have pr:Rpd (jU c):=uy (fun e=>absurd e.1 (by decide)) q0
 have bl:Bd (jS c) 490:=uO (bx.mono (by decide:4≤4)) (ZU.mono (by decide:3≤3)) b_ b0 bq (by decide)
 have br:Bd (jU c) 490:=uO (bx.mono (by decide:4≤4)) b1 b_ b0 bq (by decide)
 have ol:okP 580 (enc (jS c)):=alI (aJ (by decide) (by decide))
 have or_:okP 580 (enc (jU c)):=alI (aJ (by decide) (by decide))
 obtain⟨nl,nr_⟩:=aaF h
 have nl:=so.2 nl
 have nr_:=so.2 nr_
 have ne:=Ue h
 intro d hd
 have:d=(true,o00,enc c,false,enc (jS c),enc (jU c))∨d=(true,o00,enc c,false,enc (jU c),enc (jS c)):=by
  unfold tk at hd
  rw[az]at hd
  simpa using hd
 rcases this with e|e<;>rw[e]
 ·refine⟨⟨⟨fun _=>hC,fun e=>(by cases e),ol,or_⟩,fun _=>hs,fun e=>(by cases e)⟩,?_⟩
  simp only[dC,ge,frC,toC,ciC,az,cond_true]
  exact⟨nl,nr_,fun e=>ne (cmpP_0.1 e)⟩
 ·refine⟨⟨⟨fun _=>hC,fun e=>(by cases e),or_,ol⟩,fun _=>hs,fun e=>(by cases e)⟩,?_⟩
  simp only[dC,ge,frC,toC,ciC,az,cond_true]
  exact⟨nr_,nl,fun e=>ne (cmpP_0.1 e).symm⟩
theorem adi{a b c:Rat×Rat}(h:dR a b c≠0):(c.1-(oh a b c).1)*(c.1-(oh a b c).1)+(c.2-(oh a b c).2.1)*(c.2-(oh a b c).2.1)=(oh a b c).2.2:=by
 have h2:dR a b c+dR a b c≠0:=by grind
 have eX:ua a b c*(dR a b c+dR a b c)=_:=al5 h2
 have eY:uP a b c*(dR a b c+dR a b c)=_:=al5 h2
 unfold oh
 dsimp only
 generalize ua a b c=X at*
 generalize uP a b c=Y at*
 have k:dR a b c*(2*((c.1-a.1)*X+(c.2-a.2)*Y)-((c.1-a.1)*(c.1-a.1)+(c.2-a.2)*(c.2-a.2)))=0:=by
  unfold dR at*
  grind
 rcases anX.1 k with g|g
 ·exact absurd g h
 ·grind
theorem ae0{a b c:Rat×Rat}(h:dR a b c≠0)(e:a=c):False:=by
 subst e
 refine h ?_
 unfold dR
 grind
theorem NZ{a b c:Rat×Rat}[a1:Bb a.1 7 2][a2:Bb a.2 7 2][b1:Bb b.1 7 2][b2:Bb b.2 7 2][c1:Bb c.1 7 2][c2:Bb c.2 7 2]:BdC (oh a b c):=by
 have d:Bb ((b.1-a.1)*(c.2-a.2)-(b.2-a.2)*(c.1-a.1)) _ _:=inferInstance
 have d:Bb (dR a b c) _ _:=d
 have X:Bb ((((b.1-a.1)*(b.1-a.1)+(b.2-a.2)*(b.2-a.2))*(c.2-a.2)-((c.1-a.1)*(c.1-a.1)+(c.2-a.2)*(c.2-a.2))*(b.2-a.2))/(dR a b c+dR a b c)) _ _:=inferInstance
 have X:Bb (ua a b c) _ _:=X
 have Y:Bb ((((c.1-a.1)*(c.1-a.1)+(c.2-a.2)*(c.2-a.2))*(b.1-a.1)-((b.1-a.1)*(b.1-a.1)+(b.2-a.2)*(b.2-a.2))*(c.1-a.1))/(dR a b c+dR a b c)) _ _:=inferInstance
 have Y:Bb (uP a b c) _ _:=Y
 have x1:Bb (a.1+ua a b c) _ _:=inferInstance
 have x2:Bb (a.2+uP a b c) _ _:=inferInstance
 have x3:Bb (ua a b c*ua a b c+uP a b c*uP a b c) _ _:=inferInstance
 exact⟨oE (h:=x1) (by decide) (by decide),oE (h:=x2) (by decide) (by decide),oE (h:=x3) (by decide) (by decide)⟩
theorem zT{x y:Rat}(h:¬(x=0∧y=0)):0<x*x+y*y:=by
 have nn:∀a:Rat,0≤a*a:=fun a=>by
  rcases(by grind:0≤a∨0≤ -a)with h|h
  ·exact al8 h h
  ·have:=al8 h h;grind
 have h1:=nn x
 have h2:=nn y
 rcases(by grind:0<x*x+y*y∨(x*x=0∧y*y=0))with g|⟨g1,g2⟩
 ·exact g
 ·exact absurd ⟨by simpa using anX.1 g1,by simpa using anX.1 g2⟩ h
theorem Ga{a b c:Rat×Rat}[Bd a 1][Bd c 1][bc:BdC (oh a b c)](h:dR a b c≠0):gdN (jV a b c):=by
 have hon:=adi h
 have hne:a≠c:=fun e=>ae0 h e
 have hq:0<(oh a b c).2.2:=by
  refine zT fun⟨e1,e2⟩=>hne ?_
  unfold oh at hon
  dsimp only at hon
  rw[e1,e2]at hon
  by_cases g:c.1-(a.1+0)=0∧c.2-(a.2+0)=0
  ·obtain⟨g1,g2⟩:=g
   exact amV (by grind) (by grind)
  ·have:=zT g
   grind
 have hs:=fQ (h:=bc) hq
 have bx:=bc.x
 have b_:=bc.y
 have bq:=bc.q
 have hC:uY (enc (oh a b c)):=⟨alI (okd (h:=LY (c:=oh a b c)) (by decide) (by decide)),by rw[az];exact hq⟩
 unfold jV
 rw[alH h]
 refine⟨⟨⟨fun _=>hC,fun e=>(by cases e),yd (by decide) (by decide),yd (by decide) (by decide)⟩,fun _=>hs,fun e=>(by cases e)⟩,?_⟩
 simp only[dC,ge,frC,toC,ciC,az,cond_true,cond_false]
 refine⟨O3 ?_,O3 hon,WQ hne⟩
 unfold oh
 grind
theorem vf{x:Dr}(h:yO x):∀c∈ofL x,gdN c:=by
 obtain⟨h1,h2,hA,hB,hC,hD,hE,hF⟩:=h
 have a1:Bb (drA x).1 7 2:=mC hA h2
 have a2:Bb (drA x).2 7 2:=mC hB h2
 have b1:Bb (drB x).1 7 2:=mC hC h2
 have b2:Bb (drB x).2 7 2:=mC hD h2
 have c1:Bb (drC x).1 7 2:=mC hE h2
 have c2:Bb (drC x).2 7 2:=mC hF h2
 have l:∀{q:Rat},Bb q 7 2→Bd q 1:=fun h=>oE (h:=h) (by decide) (by decide)
 have m:∀v:Rat×Rat,Bb v.1 7 2→Bb v.2 7 2→Bd v 1:=fun v g g'=>by
  have:=l g
  have:=l g'
  exact inferInstanceAs (Bd (v.1,v.2) _)
 have vA:=m _ a1 a2
 have vB:=m _ b1 b2
 have vC:=m _ c1 c2
 intro c hc
 unfold ofL at hc
 cases h3:x.1%3==2
 ·rw[h3,cond_false]at hc
  cases h4:x.1%3==1
  ·rw[h4,cond_false]at hc
   cases h5:vG (drA x) (drB x)
   ·have:segE (drA x) (drB x)=0:=by unfold segE;rw[h5];rfl
    rw[this]at hc
    have:c=ic (drA x) (drB x):=by simpa using hc
    rw[this]
    exact Cc h5
   ·have:segE (drA x) (drB x)=6:=by unfold segE;rw[h5];rfl
    rw[this]at hc
    cases hc
  ·rw[h4,cond_true]at hc
   by_cases h5:dR (drA x) (drB x) (drC x)=0
   ·have:arcE (drA x) (drB x) (drC x)=6:=by unfold arcE;rw[alF h5];rfl
    rw[this]at hc
    cases hc
   ·have:arcE (drA x) (drB x) (drC x)=0:=by unfold arcE;rw[alH h5];rfl
    rw[this]at hc
    have:c=jV (drA x) (drB x) (drC x):=by simpa using hc
    rw[this]
    have:=NZ (a:=drA x) (b:=drB x) (c:=drC x)
    exact Ga h5
 ·rw[h3,cond_true]at hc
  by_cases h5:(drB x).1≤0
  ·rw[alF h5]at hc
   cases hc
  ·rw[alH h5]at hc
   have bq:BdC (drQ x):=⟨(l a1).mono (by decide),(l a2).mono (by decide),(l b1).mono (by decide)⟩
   exact yC (c:=drQ x) (show 0<(drB x).1 by grind) c hc
end
namespace RE
theorem abH{a b:Rt}[ha:Rdd a][hb:Rdd b]:vR (u5 a b)=mnE (vR a) (vR b):=by
 unfold u5 mnE
 rw[cmpT_re hb.nn ha.nn]
 by_cases h:vR b<vR a
 ·rw[ama h,alF (by rw[gk (sH _ _ h)];decide)]
  rfl
 ·rw[al3 h,alH (by
   intro g
   exact h (adW (by rw[←ST];exact jP (GV.1 g))))]
  rfl
theorem Ro(a b:RE):mnE a b=mnE b a:=by
 unfold mnE
 rcases mp a b with h|h|h
 ·rw[al3 (fun g=>lt_irrefl _ (cW h g)),ama h]
 ·rw[h]
 ·rw[ama h,al3 (fun g=>lt_irrefl _ (cW h g))]
def vE(v:Rat×Rat):PE:=(of v.1,of v.2)
theorem vR_sq{p:Pt}[Rpd p](v:Rat×Rat):vR (sqP p v)=dsE (pR p) (vE v):=Gk
theorem EJ{c:Cv}(hf:Rpd (frC c))(ht:Rpd (toC c))(v:Rat×Rat):vR (Cg c v)=mnE (dsE (pR (frC c)) (vE v)) (dsE (pR (toC c)) (vE v)):=by
 unfold Cg
 rw[abH,vR_sq,vR_sq]
theorem xN{c:Cv}[hf:Rpd (frC c)][ht:Rpd (toC c)]{p:Pt}[hp:Rpd p]:rS c p=true↔btE (tE (lnC c) (pR (frC c))) (tE (lnC c) (pR (toC c))) (tE (lnC c) (pR p)):=by
 unfold rS
 rw[te,te,te,te,te]
 exact B4 _ _ _
theorem RJ(l:Ln)(v:Rat×Rat):exE l (vE v)=of (l.1*v.1+l.2.1*v.2-l.2.2):=by
 rw[of_sub]
 rfl
theorem Eg{l:Ln}(hl:l.1≠0∨l.2.1≠0)(v:Rat×Rat):bI (cU v (dV l v)) (cU v (dV l v))=(l.1*v.1+l.2.1*v.2-l.2.2)*(l.1*v.1+l.2.1*v.2-l.2.2)*(1/(l.1*l.1+l.2.1*l.2.1)):=by
 have hn:=j8 hl
 have h1:1/(l.1*l.1+l.2.1*l.2.1)*(l.1*l.1+l.2.1*l.2.1)=1:=al5 hn
 have h2:kY l v=(l.1*v.1+l.2.1*v.2-l.2.2)*(1/(l.1*l.1+l.2.1*l.2.1)):=by
  unfold kY
  rw[aom,aom,Rat.one_mul]
 unfold bI cU dV
 rw[h2]
 generalize 1/(l.1*l.1+l.2.1*l.2.1)=k at*
 generalize l.1*v.1+l.2.1*v.2-l.2.2=e at*
 dsimp only
 grind
theorem SY{c:Cv}(h:GdE c)(ha:c.1=false)(v:Rat×Rat):Mn (segE (lnC c) (pR (frC c)) (pR (toC c))) (vE v) (vR (me c v)):=by
 have hf:=h.f
 have ht:=h.t
 obtain⟨hl,oF,oT⟩:=h.l ha
 have hn:0<nrE (lnC c):=GC hl
 have hb:=xN (c:=c) (p:=atP v)
 have ev:pR (atP v)=vE v:=lE v
 rw[ev]at hb
 unfold me
 rw[ha,cond_false]
 cases e:rS c (atP v)
 ·rw[cond_false,EJ hf ht]
  rw[e]at hb
  exact UJ hn oF oT (fun g=>by cases hb.2 g)
 ·rw[cond_true]
  have hk:=j8 hl
  have h1:1/((lnC c).1*(lnC c).1+(lnC c).2.1*(lnC c).2.1)*((lnC c).1*(lnC c).1+(lnC c).2.1*(lnC c).2.1)=1:=al5 hk
  have ek:nrE (lnC c)*of (1/((lnC c).1*(lnC c).1+(lnC c).2.1*(lnC c).2.1))=1:=by
   have:nrE (lnC c)=of ((lnC c).1*(lnC c).1+(lnC c).2.1*(lnC c).2.1):=rfl
   rw[this,mul_comm,←aF,h1]
   rfl
  have kp:0<of (1/((lnC c).1*(lnC c).1+(lnC c).2.1*(lnC c).2.1)):=by
   have:=dp (nrE (lnC c)) (of (1/((lnC c).1*(lnC c).1+(lnC c).2.1*(lnC c).2.1)))
   rw[ek,dt zero_lt_one,dt hn,amX]at this
   exact F1.1 this.symm
  have:=Bq hn (hb.1 e) kp ek
  have e2:vR (bI (cU v (dV (lnC c) v)) (cU v (dV (lnC c) v)),0,0)=of (bI (cU v (dV (lnC c) v)) (cU v (dV (lnC c) v))):=dN _ _
  rw[e2,Eg hl,aF,aF,←RJ]
  exact this
theorem TV(x y a b v w:RE):(x-v)*(x-v)+(y-w)*(y-w)=(x-a)*(x-a)+(y-b)*(y-b)+((v-a)*(v-a)+(w-b)*(w-b))-(((x-a)*(v-a)+(y-b)*(w-b))+((x-a)*(v-a)+(y-b)*(w-b))):=by grind
theorem U6(a b c d r:RE):a*(d*r)-b*(c*r)=r*(a*d-b*c):=by grind
theorem Vb(a b c d r:RE):c*r*b-d*r*a=r*(c*b-d*a):=by grind
theorem agZ(a b r:RE):a*r*a+b*r*b=r*(a*a+b*b):=by grind
theorem aiM(a b:RE):a+b-a=b:=by grind
theorem XE(q s t u:RE)(h1:s≤t):q+u-(t+t)≤q+u-(s+s):=by grind
theorem ak9(r d:RE):r*d*(r*d)=r*r*d*d:=by grind
theorem Nk(c t m:RE)(h1:c*c+t*t=m):t*t≤m:=by have:=ir (c);grind
theorem age(t s:RE)(h1:t≤0)(h2:0≤s):t≤s:=by grind
theorem ade(a b r:RE):a*r*(a*r)+b*r*(b*r)=(a*a+b*b)*(r*r):=by grind
theorem Yp(a s:RE):a+ -2*s=a-(s+s):=by grind
theorem xG{c:Ln}{p:PE}(h:fw c p)(v:PE):dsE p v=of c.2.2+dtE (frm c v) (frm c v)-(dtE (frm c p) (frm c v)+dtE (frm c p) (frm c v)):=by
 have h':(p.1-of c.1)*(p.1-of c.1)+(p.2-of c.2.1)*(p.2-of c.2.1)=of c.2.2:=h
 unfold dsE dtE frm
 dsimp only
 rw[TV _ _ (of c.1) (of c.2.1),h']
theorem KY{c:Ln}{p q:PE}(hp:fw c p)(hq:fw c q){v:PE}(h:dtE (frm c p) (frm c v)≤dtE (frm c q) (frm c v)):dsE q v≤dsE p v:=by
 rw[xG hp,xG hq]
 exact XE _ _ _ _ h
theorem DA(u w:PE):nV u w u=true∧nV u w w=true:=by
 have z:∀x:PE,crs x x=0:=fun x=>by unfold crs;rw[mul_comm,sub_self]
 rcases lt_or_ge (crs u w) 0 with h|h
 ·exact⟨(Ma h).2 (fun g=>by rw[z u]at g;exact lt_irrefl _ g.2),(Ma h).2 (fun g=>by rw[z w]at g;exact lt_irrefl _ g.1)⟩
 ·exact⟨(MQ h).2 ⟨by rw[z u];exact le_refl _,h⟩,(MQ h).2 ⟨h,by rw[z w];exact le_refl _⟩⟩
theorem JN(u w d:PE){r:RE}(hr:0<r):nV u w (d.1*r,d.2*r)=nV u w d:=by
 have h1:crs u (d.1*r,d.2*r)=r*crs u d:=U6 _ _ _ _ _
 have h2:crs (d.1*r,d.2*r) w=r*crs d w:=Vb _ _ _ _ _
 unfold nV
 rw[h1,h2,dp,dp,dt hr,amX,amX]
theorem PZ{q:Pt}:pX (rdP q)=pX q∧pY (rdP q)=pY q:=by
 unfold rdP pX pY
 by_cases h1:q.2.1=0
 ·by_cases h2:q.2.2.2.1=0
  ·rw[alF h1,alF h2]
   dsimp only
   rw[h1,h2,dN,dN,dN,dN]
   exact⟨rfl,rfl⟩
  ·rw[alH h2,Bool.and_false]
   exact⟨rfl,rfl⟩
 ·rw[alH h1,Bool.false_and]
  exact⟨rfl,rfl⟩
theorem WW{x y:Rt}(h:vu x y):pR (mkP x y)=(vR x,vR y):=by
 unfold mkP
 refine amV (PZ.1.trans ?_) (PZ.2.trans ?_)
 ·unfold pX vR
  dsimp only
  by_cases e:x.2.1=0
  ·rw[e,dN,dN]
  ·rw[alH e]
   rfl
 ·unfold pY vR
  dsimp only
  by_cases e:x.2.1=0
  ·rw[alF e]
   rfl
  ·rw[alH e]
   rcases h with h|h|h
   ·exact absurd h e
   ·rw[h,dN,dN]
   ·rw[cond_false,h]
theorem sV(c:Ln)(d:Rat×Rat):frm c (pR (qD c d))=(of d.1*rq (c.2.2/bI d d),of d.2*rq (c.2.2/bI d d)):=by
 unfold qD
 rw[WW (qr _ _ _ _ _),vR_mk,vR_mk]
 unfold frm v2
 exact amV (aiM _ _) (aiM _ _)
theorem Jj(c:Ln)(v:Rat×Rat):frm c (vE v)=vE (cU (ctr c) v):=by
 unfold frm vE cU ctr
 dsimp only
 rw[of_sub,of_sub]
theorem Qw(d:Rat×Rat):dtE (vE d) (vE d)=of (bI d d):=rfl
theorem MI{m:Rat}(h:0<m):0<rq m:=by
 have:=NM (m:=m) (by grind)
 rw[dq h]at this
 exact F1.1 this
theorem Cd(c:Cv):(ccF c=frC c∧ccT c=toC c)∨(ccF c=toC c∧ccT c=frC c):=by
 unfold ccF ccT
 cases cwC c
 ·exact .inl ⟨rfl,rfl⟩
 ·exact .inr ⟨rfl,rfl⟩
theorem abh{c:Cv}(hq:0<(ciC c).2.2){v:Rat×Rat}(hz:zeV (aV c v)=false)(on:fw (ciC c) (pR (qD (ciC c) (aV c v)))):dsE (pR (qD (ciC c) (aV c v))) (vE v)=of (bI (aV c v) (aV c v)+(ciC c).2.2)-(rq (bI (aV c v) (aV c v)*(ciC c).2.2)+rq (bI (aV c v) (aV c v)*(ciC c).2.2)):=by
 have hq0:(0:Rat)≤(ciC c).2.2:=by grind
 have d0:=pi (aV c v)
 have m0:0≤bI (aV c v) (aV c v)*(ciC c).2.2:=al8 d0 hq0
 have hs:=fS m0
 have hs0:=qM (bI (aV c v) (aV c v)*(ciC c).2.2)
 have hD:frm (ciC c) (vE v)=vE (aV c v):=Jj _ _
 have n0:=Gy hq0 d0
 have rr:=fS n0
 have r0:=qM ((ciC c).2.2/bI (aV c v) (aV c v))
 have hdt:dtE (frm (ciC c) (pR (qD (ciC c) (aV c v)))) (frm (ciC c) (vE v))=rq (bI (aV c v) (aV c v)*(ciC c).2.2):=by
  rw[hD,sV]
  have e1:dtE (of (aV c v).1*rq ((ciC c).2.2/bI (aV c v) (aV c v)),of (aV c v).2*rq ((ciC c).2.2/bI (aV c v) (aV c v))) (vE (aV c v))=rq ((ciC c).2.2/bI (aV c v) (aV c v))*of (bI (aV c v) (aV c v)):=agZ _ _ _
  rw[e1]
  refine Ji _ _ (bi r0 (jQ.2 d0)) hs0 ?_
  rw[hs,ak9,rr,←aF,←aF,al5 (xH hz),anu]
 rw[xG on,hdt,hD,Qw,of_add,add_comm (of (bI _ _))]
theorem aby{c:Cv}{v:Rat×Rat}(hz:zeV (aV c v)=true){p:PE}(on:fw (ciC c) p):dsE p (vE v)=of (bI (aV c v) (aV c v)+(ciC c).2.2)-(rq (bI (aV c v) (aV c v)*(ciC c).2.2)+rq (bI (aV c v) (aV c v)*(ciC c).2.2)):=by
 have hD:frm (ciC c) (vE v)=vE (aV c v):=Jj _ _
 have z0:(aV c v).1=0∧(aV c v).2=0:=by
  unfold zeV at hz
  obtain⟨a,b⟩:=alQ.1 hz
  exact⟨alI a,alI b⟩
 have dz:bI (aV c v) (aV c v)=0:=by
  unfold bI
  rw[z0.1,z0.2]
  decide+kernel
 have hdt:dtE (frm (ciC c) p) (frm (ciC c) (vE v))=0:=by
  rw[hD]
  unfold dtE vE
  dsimp only
  rw[z0.1,z0.2]
  show _*0+_*0=(0:RE)
  rw[mul_zero,mul_zero,add_zero]
 rw[xG on,hdt,hD,Qw,dz,Rat.zero_mul,IY,Rat.zero_add]
 show _+(0:RE)-_=_
 rw[add_zero]
theorem Iu{c:Cv}(h:GdE c)(ha:c.1=true){v:Rat×Rat}(hz:zeV (aV c v)=false):fw (ciC c) (pR (qD (ciC c) (aV c v)))∧fe c (aV c v)=nV (frm (ciC c) (pR (ccF c))) (frm (ciC c) (pR (ccT c))) (vE (aV c v)):=by
 have hq:=(h.q ha).1
 have hq0:(0:Rat)≤(ciC c).2.2:=by grind
 have hC:Cir (ciC c):=⟨hq⟩
 have d0:=pi (aV c v)
 have n0:0<(ciC c).2.2/bI (aV c v) (aV c v):=by
  have h1:(ciC c).2.2/bI (aV c v) (aV c v)*bI (aV c v) (aV c v)=(ciC c).2.2:=al5 (xH hz)
  have h2:=Gy hq0 d0
  rcases(by grind:(ciC c).2.2/bI (aV c v) (aV c v)=0∨0<(ciC c).2.2/bI (aV c v) (aV c v))with h3|h3
  ·rw[h3]at h1;grind
  ·exact h3
 have hr:=MI n0
 have rr:=fS (show 0≤(ciC c).2.2/bI (aV c v) (aV c v) by grind)
 have onray:fw (ciC c) (pR (qD (ciC c) (aV c v))):=by
  show(frm _ _).1*(frm _ _).1+(frm _ _).2*(frm _ _).2=_
  rw[sV]
  have:of (aV c v).1*rq ((ciC c).2.2/bI (aV c v) (aV c v))*(of (aV c v).1*rq ((ciC c).2.2/bI (aV c v) (aV c v)))+of (aV c v).2*rq ((ciC c).2.2/bI (aV c v) (aV c v))*(of (aV c v).2*rq ((ciC c).2.2/bI (aV c v) (aV c v)))=of (bI (aV c v) (aV c v))*(rq ((ciC c).2.2/bI (aV c v) (aV c v))*rq ((ciC c).2.2/bI (aV c v) (aV c v))):=ade _ _ _
  rw[this,rr,←aF,anu,al5 (xH hz)]
 refine⟨onray,?_⟩
 have e1:fe c (aV c v)=onP c (qD (ciC c) (aV c v)):=by
  unfold fe
  rw[ha,hz]
  rfl
 rw[e1,←JN _ _ (vE (aV c v)) hr,anv,gJ h]
 unfold onE arcE
 rw[ama ha,sV]
 exact and_iff_right onray
theorem V6{c:Cv}(h:GdE c)(ha:c.1=true)(v:Rat×Rat):Mn (arcE (ciC c) (pR (ccF c)) (pR (ccT c))) (vE v) (vR (me c v)):=by
 have hf:=h.f
 have ht:=h.t
 obtain⟨hq,oF,oT⟩:=h.q ha
 have oF:fw (ciC c) (pR (frC c)):=oF
 have oT:fw (ciC c) (pR (toC c)):=oT
 have hq0:(0:Rat)≤(ciC c).2.2:=by grind
 have oU:fw (ciC c) (pR (ccF c)):=by rcases Cd c with⟨e,_⟩|⟨e,_⟩<;>rw[e]<;>assumption
 have oW:fw (ciC c) (pR (ccT c)):=by rcases Cd c with⟨_,e⟩|⟨_,e⟩<;>rw[e]<;>assumption
 have hne:frm (ciC c) (pR (ccF c))≠frm (ciC c) (pR (ccT c)):=fun e=>by
  have e1:pR (ccF c)=pR (ccT c):=amV (gE _ _ _ (congrArg Prod.fst e)) (gE _ _ _ (congrArg Prod.snd e))
  rcases Cd c with⟨g1,g2⟩|⟨g1,g2⟩<;>rw[g1,g2]at e1
  ·exact h.ne e1
  ·exact h.ne e1.symm
 have sU:arcE (ciC c) (pR (ccF c)) (pR (ccT c)) (pR (ccF c)):=⟨oU,(DA _ _).1⟩
 have sW:arcE (ciC c) (pR (ccF c)) (pR (ccT c)) (pR (ccT c)):=⟨oW,(DA _ _).2⟩
 have hD:frm (ciC c) (vE v)=vE (aV c v):=Jj _ _
 have hDD:dtE (frm (ciC c) (vE v)) (frm (ciC c) (vE v))=of (bI (aV c v) (aV c v)):=by rw[hD,Qw]
 have hgen:onE c=arcE (ciC c) (pR (ccF c)) (pR (ccT c)):=by funext p;unfold onE;rw[ama ha]
 have hC:Cir (ciC c):=⟨hq⟩
 have d0:=pi (aV c v)
 have m0:0≤bI (aV c v) (aV c v)*(ciC c).2.2:=al8 d0 hq0
 have hs:=fS m0
 have hs0:=qM (bI (aV c v) (aV c v)*(ciC c).2.2)
 unfold me
 rw[ha,cond_true]
 cases e:fe c (aV c v)
 ·rw[cond_false,EJ hf ht]
  have hz:zeV (aV c v)=false:=by
   cases g:zeV (aV c v)
   ·rfl
   ·unfold fe at e
    rw[g,ha]at e
    cases e
  have hd:¬nV (frm (ciC c) (pR (ccF c))) (frm (ciC c) (pR (ccT c))) (vE (aV c v))=true:=fun g=>by
   rw[←(Iu h ha hz).2,e]at g
   cases g
  have res:=IT (v:=vE v) sU sW (fun p hp=>by
   have:=U4 (u:=frm (ciC c) (pR (ccF c))) (w:=frm (ciC c) (pR (ccT c))) (z:=frm (ciC c) p) (d:=vE (aV c v)) oU oW hp.1 hne hp.2 hd
   rw[←hD]at this
   exact this.imp (KY hp.1 oU) (KY hp.1 oW))
  rcases Cd c with⟨g1,g2⟩|⟨g1,g2⟩
  ·rw[g1,g2]at res ⊢
   exact res
  ·rw[g1,g2]at res ⊢
   rw[Ro]
   exact res
 ·rw[cond_true,vR_mk]
  unfold v2
  have two:of (-2)= -2:=rfl
  rw[two,Yp]
  have low:∀p,arcE (ciC c) (pR (ccF c)) (pR (ccT c)) p→of (bI (aV c v) (aV c v)+(ciC c).2.2)-(rq (bI (aV c v) (aV c v)*(ciC c).2.2)+rq (bI (aV c v) (aV c v)*(ciC c).2.2))≤dsE p (vE v):=fun p hp=>by
   have h1:=PO (frm (ciC c) p).1 (frm (ciC c) p).2 (frm (ciC c) (vE v)).1 (frm (ciC c) (vE v)).2
   have h2:(frm (ciC c) p).1*(frm (ciC c) p).1+(frm (ciC c) p).2*(frm (ciC c) p).2=of (ciC c).2.2:=hp.1
   have h3:(frm (ciC c) (vE v)).1*(frm (ciC c) (vE v)).1+(frm (ciC c) (vE v)).2*(frm (ciC c) (vE v)).2=of (bI (aV c v) (aV c v)):=hDD
   rw[h2,h3,←aF,anu,←hs]at h1
   have h4:=Nk _ _ _ h1
   have h5:dtE (frm (ciC c) p) (frm (ciC c) (vE v))≤rq (bI (aV c v) (aV c v)*(ciC c).2.2):=by
    rcases lt_or_ge 0 (dtE (frm (ciC c) p) (frm (ciC c) (vE v)))with g|g
    ·exact Cq _ _ (le_of_lt g) hs0 h4
    ·exact age _ _ g hs0
   rw[xG hp.1,hDD,of_add,add_comm (of (bI _ _))]
   exact XE _ _ _ _ h5
  refine⟨?_,low⟩
  cases hz:zeV (aV c v)
  ·-- the point in this direction
   have hon:onE c (pR (qD (ciC c) (aV c v))):=by
    unfold fe at e
    rw[ha,hz]at e
    exact(gJ h).1 e
   rw[hgen]at hon
   exact⟨_,hon,abh hq hz hon.1⟩
  ·exact⟨_,sU,aby hz oU⟩
theorem MN{c:Cv}(h:GdE c)(v:Rat×Rat):Mn (onE c) (vE v) (vR (me c v)):=by
 cases ha:c.1
 ·have:onE c=segE (lnC c) (pR (frC c)) (pR (toC c)):=by
   funext p
   unfold onE
   rw[al3 (by rw[ha];decide)]
  rw[this]
  exact SY h ha v
 ·have:onE c=arcE (ciC c) (pR (ccF c)) (pR (ccT c)):=by
   funext p
   unfold onE
   rw[ama ha]
  rw[this]
  exact V6 h ha v
end RE
section
def rcX(p:Pt)(v:Rat×Rat):Rat×Rat:=(p.1-v.1,p.2.1)
def rcY(p:Pt)(v:Rat×Rat):Rat×Rat:=(p.2.2.1-v.2,p.2.2.2.1)
def prQ(q:Qd)(x y:Rat×Rat)(s:Rat):Qd:=(q.1+s*(x.1*y.1),q.2.1+s*(x.2*y.1),q.2.2.1+s*(x.1*y.2),q.2.2.2.1+s*(x.2*y.2),q.2.2.2.2.1,q.2.2.2.2.2)
def noQ(p q:Pt):Qd:=(0,0,0,0,p.2.2.2.2,q.2.2.2.2)
def crQ(v:Rat×Rat)(p q:Pt):Qd:=prQ (prQ (noQ p q) (rcX p v) (rcY q v) 1) (rcY p v) (rcX q v) (-1)
def doQ(v:Rat×Rat)(p q:Pt):Qd:=prQ (prQ (noQ p q) (rcX p v) (rcX q v) (-2)) (rcY p v) (rcY q v) (-2)
def z2:Rat×Rat:=(0,0)
def apQ(p q:Pt)(r:Rat):Qd:=((doQ z2 p q).1+(sqA p z2+sqA q z2)-r*r,(doQ z2 p q).2.1+sqB p z2,(doQ z2 p q).2.2.1+sqB q z2,(doQ z2 p q).2.2.2.1,p.2.2.2.2,q.2.2.2.2)
namespace RE
theorem VC(A B C D m n s a b c d:RE):A+s*(a*c)+(B+s*(b*c))*m+(C+s*(a*d))*n+(D+s*(b*d))*(m*n)=A+B*m+C*n+D*(m*n)+s*((a+b*m)*(c+d*n)):=by grind
theorem Uk(A B C D m n a b c d r:RE):A+(a+c)-r+(B+b)*m+(C+d)*n+D*(m*n)=A+B*m+C*n+D*(m*n)+(a+b*m)+(c+d*n)-r:=by grind
theorem aeg(x y u w:RE):0+ -2*((x-0)*(u-0))+ -2*((y-0)*(w-0))+((x-0)*(x-0)+(y-0)*(y-0))+((u-0)*(u-0)+(w-0)*(w-0))=(x-u)*(x-u)+(y-w)*(y-w):=by grind
theorem akv(a b:RE):0+1*a+ -1*b=a-b:=by grind
theorem BF(a v b:RE):a-v+b=a+b-v:=by grind
theorem Yx(x a v:RE):x+v-(a+v)=x-a:=by grind
theorem aga(x y a b v w:RE):(x+v-(a+v))*(x+v-(a+v))+(y+w-(b+w))*(y+w-(b+w))=(x-a)*(x-a)+(y-b)*(y-b):=by grind
theorem alb(a b x y v w:RE): -b*(x+v)+a*(y+w)= -b*x+a*y+(-b*v+a*w):=by grind
theorem aeL(a b c x y v w:RE):a*(x+v)+b*(y+w)-(c+(a*v+b*w))=a*x+b*y-c:=by grind
theorem Mx(a v b:RE):a+v+b=a+b+v:=by grind
theorem Yk(x y t:RE)(h1:x≤y):x+t≤y+t:=by grind
theorem Ov(x y t:RE)(h1:x+t≤y+t):x≤y:=by grind
theorem Oa(u t:RE):u*u-t*t=(u-t)*(u+t):=by grind
theorem aeH(Q r t:RE):Q+r*r+(r+r)*t=(t+r)*(t+r)+(Q-t*t):=by grind
theorem acW(Q r t:RE):Q+r*r+ -(r+r)*t=(t-r)*(t-r)+(Q-t*t):=by grind
theorem adV(u t r:RE):u*u+t*t-(u*t+u*t)-r*r=(u-(t+r))*(u-(t-r)):=by grind
theorem afy(u t r:RE)(h1:0<u)(h2:0<t)(h3:0≤r):0<u+(t+r):=by grind
theorem akb(u t r:RE)(h1:0<u)(h2:r<t):0<u+(t-r):=by grind
theorem RH(x y c:RE)(h1:x+c=y+c):x≤y:=by grind
theorem Mv(x y c:RE)(h1:x+c=y+c):y≤x:=by grind
theorem Hl(x y c:RE)(h1:x+c=y+c):x=y:=le_antisymm (RH x y c h1) (Mv x y c h1)
theorem akH(u t r:RE)(h1:0<u-(t+r))(h2:0≤r):0<u-(t-r):=by grind
theorem ajo(u t r:RE)(h1:0<u)(h2:t≤r):0<u-(t-r):=by grind
theorem Ej(x y t:RE)(h1:x≤y):x-t≤y-t:=by grind
theorem Fl(x y:RE):((y*y-(x*x)))+((x-(y))*(x-(y)))+2*((x-(y))*(y-(0)))=0:=by grind
theorem Pg(x y:RE)(h1:y≤x)(h2:0≤y):y*y≤x*x:=fun hg=>far (aI (aI (aK hg) (bi (aE h1) (aE h1))) (im (by decide+kernel:(0:Rat)<2) (bi (aE h1) (aE h2)))) (Fl x y)
theorem Vf(a b:RE):a*b*(a*b)=a*a*(b*b):=by grind
theorem abO(n e k r:RE):n*(e*k-r)=e*(n*k)-r*n:=by grind
def vq(q:Qd):RE:=vQ q.1 q.2.1 q.2.2.1 q.2.2.2.1 q.2.2.2.2.1 q.2.2.2.2.2
theorem F7{q:Qd}(h:0≤q.2.2.2.2.1)(h':0≤q.2.2.2.2.2):sgQ q=sg (vq q):=sgnQ_re h h'
theorem I8(q:Qd)(x y:Rat×Rat)(s:Rat):vq (prQ q x y s)=vq q+of s*(v2 x.1 x.2 q.2.2.2.2.1*v2 y.1 y.2 q.2.2.2.2.2):=by
 unfold vq vQ prQ v2
 simp only[of_add,aF]
 exact VC _ _ _ _ _ _ _ _ _ _ _
theorem of0:of 0=0:=rfl
theorem XW(p q:Pt):vq (noQ p q)=0:=by
 unfold vq vQ noQ
 dsimp only
 rw[of0,zero_mul,zero_mul,zero_mul,add_zero,add_zero,add_zero]
def sbE(v:Rat×Rat)(p:PE):PE:=(p.1-of v.1,p.2-of v.2)
theorem Bz(p:Pt)(v:Rat×Rat):v2 (rcX p v).1 (rcX p v).2 p.2.2.2.2=(sbE v (pR p)).1:=by
 unfold rcX sbE pR pX v2
 dsimp only
 rw[of_sub,BF]
theorem A9(p:Pt)(v:Rat×Rat):v2 (rcY p v).1 (rcY p v).2 p.2.2.2.2=(sbE v (pR p)).2:=by
 unfold rcY sbE pR pY v2
 dsimp only
 rw[of_sub,BF]
def turS(v:Rat×Rat)(p q:PE):Int:=sg (crs (sbE v p) (sbE v q))
theorem crQ_re(v:Rat×Rat){p q:Pt}[hp:Rpd p][hq:Rpd q]:sgQ (crQ v p q)=turS v (pR p) (pR q):=by
 rw[F7 (q:=crQ v p q) (show 0≤p.2.2.2.2 from hp.nn) (show 0≤q.2.2.2.2 from hq.nn)]
 unfold crQ
 rw[I8,I8,XW]
 show sg (0+of 1*(v2 (rcX p v).1 (rcX p v).2 p.2.2.2.2*v2 (rcY q v).1 (rcY q v).2 q.2.2.2.2)+of (-1)*(v2 (rcY p v).1 (rcY p v).2 p.2.2.2.2*v2 (rcX q v).1 (rcX q v).2 q.2.2.2.2))=_
 rw[Bz,Bz,A9,A9]
 exact congrArg sg (akv _ _)
def apaS(p q:PE)(r:Rat):Int:=sg (dsE p q-of (r*r))
theorem apQ_re{p q:Pt}[hp:Rpd p][hq:Rpd q](r:Rat):sgQ (apQ p q r)=apaS (pR p) (pR q) r:=by
 rw[F7 (q:=apQ p q r) (show 0≤p.2.2.2.2 from hp.nn) (show 0≤q.2.2.2.2 from hq.nn)]
 have e1:vq (doQ z2 p q)=0+ -2*((pX p-0)*(pX q-0))+ -2*((pY p-0)*(pY q-0)):=by
  unfold doQ
  rw[I8,I8,XW]
  show 0+of (-2)*(v2 (rcX p z2).1 (rcX p z2).2 p.2.2.2.2*v2 (rcX q z2).1 (rcX q z2).2 q.2.2.2.2)+of (-2)*(v2 (rcY p z2).1 (rcY p z2).2 p.2.2.2.2*v2 (rcY q z2).1 (rcY q z2).2 q.2.2.2.2)=_
  rw[Bz,Bz,A9,A9]
  rfl
 have e2:∀{p:Pt},Rpd p→v2 (sqA p z2) (sqB p z2) p.2.2.2.2=(pX p-0)*(pX p-0)+(pY p-0)*(pY p-0):=fun{p} h=>by
  have:=Gk (p:=p) (v:=z2)
  unfold sqP at this
  rw[vR_co]at this
  exact this
 have e3:vq (apQ p q r)=vq (doQ z2 p q)+v2 (sqA p z2) (sqB p z2) p.2.2.2.2+v2 (sqA q z2) (sqB q z2) q.2.2.2.2-of (r*r):=by
  unfold vq vQ apQ v2
  dsimp only
  rw[of_sub,of_add,of_add,of_add,of_add]
  exact Uk _ _ _ _ _ _ _ _ _ _ _
 rw[e3,e1,e2 hp,e2 hq,aeg]
 rfl
def J4(c:Cv)(p:PE)(r:Rat):Int:=min (apaS (pR (frC c)) p r) (apaS (pR (toC c)) p r)
def rngS(d:RE)(q r:Rat):Int:=bif decide (0≤sg (d-v2 (q+r*r) (r+r) q))then sg (d-v2 (q+r*r) (r+r) q)else bif decide (aG q (r*r)≤0)then-1 else-(sg (d-v2 (q+r*r) (-(r+r)) q))
def witE(c:Cv)(p:PE):Bool:=nV (frm (ciC c) (pR (ccF c))) (frm (ciC c) (pR (ccT c))) (frm (ciC c) p)
open Classical in
def besE(c:Cv)(p:PE):Bool:=decide (btE (tE (lnC c) (pR (frC c))) (tE (lnC c) (pR (toC c))) (tE (lnC c) p))
open Classical in
def poiE(c:Cv)(p:PE)(r:Rat):Int:=
 bif decide (r<0)then 1 else
 bif c.1 then(bif decide (p=vE (ctr (ciC c)))then aG (ciC c).2.2 (r*r)else bif witE c p then rngS (dsE p (vE (ctr (ciC c)))) (ciC c).2.2 r else J4 c p r)
 else bif besE c p then sg (exE (lnC c) p*exE (lnC c) p-of (r*r*((lnC c).1*(lnC c).1+(lnC c).2.1*(lnC c).2.1)))else J4 c p r
def mvE(v:Rat×Rat)(p:PE):PE:=(p.1+of v.1,p.2+of v.2)
theorem Jh(p:Pt)(v:Rat×Rat):pR (trP p v)=mvE v (pR p):=by
 unfold pR mvE pX pY trP v2
 dsimp only
 rw[of_add,of_add]
 exact amV (Mx _ _ _) (Mx _ _ _)
def mvLn(l:Ln)(v:Rat×Rat):Ln:=(l.1,l.2.1,l.2.2+(l.1*v.1+l.2.1*v.2))
def mvCi(c:Ln)(v:Rat×Rat):Ln:=(c.1+v.1,c.2.1+v.2,c.2.2)
def mvCv(c:Cv)(v:Rat×Rat):Cv:=(c.1,bif c.1 then c.2.1 else mvLn c.2.1 v,bif c.1 then mvCi c.2.2.1 v else c.2.2.1,c.2.2.2.1,trP c.2.2.2.2.1 v,trP c.2.2.2.2.2 v)
theorem xJ(p q:PE)(v:Rat×Rat):dsE (mvE v p) (mvE v q)=dsE p q:=aga _ _ _ _ _ _
theorem pC(c:Ln)(p:PE)(v:Rat×Rat):frm (mvCi c v) (mvE v p)=frm c p:=by
 unfold frm mvE mvCi
 dsimp only
 rw[of_add,of_add,Yx,Yx]
theorem zN(l:Ln)(p:PE)(v:Rat×Rat):tE (mvLn l v) (mvE v p)=tE l p+(-of l.2.1*of v.1+of l.1*of v.2):=alb _ _ _ _ _ _
theorem adS(l:Ln)(p:PE)(v:Rat×Rat):exE (mvLn l v) (mvE v p)=exE l p:=by
 unfold exE mvLn mvE
 dsimp only
 rw[of_add,of_add,aF,aF]
 exact aeL _ _ _ _ _ _ _
theorem ack(c:Ln)(v:Rat×Rat):vE (ctr (mvCi c v))=mvE v (vE (ctr c)):=by
 unfold vE ctr mvCi mvE
 dsimp only
 rw[of_add,of_add]
theorem IK{v:Rat×Rat}{p q:PE}:mvE v p=mvE v q↔p=q:=by
 refine⟨fun e=>amV (Hl _ _ _ (congrArg Prod.fst e)) (Hl _ _ _ (congrArg Prod.snd e)),fun e=>by rw[e]⟩
open Classical in
theorem Bj(c:Cv)(p:PE)(v:Rat×Rat)(r:Rat):poiE (mvCv c v) (mvE v p) r=poiE c p r:=by
 have hF:pR (frC (mvCv c v))=mvE v (pR (frC c)):=Jh _ _
 have hT:pR (toC (mvCv c v))=mvE v (pR (toC c)):=Jh _ _
 have he:J4 (mvCv c v) (mvE v p) r=J4 c p r:=by
  unfold J4 apaS
  rw[hF,hT,xJ,xJ]
 unfold poiE
 rw[he]
 cases ha:c.1
 ·have h1:(mvCv c v).1=false:=ha
  have hl:lnC (mvCv c v)=mvLn (lnC c) v:=by
   show(bif c.1 then c.2.1 else mvLn c.2.1 v)=_
   rw[ha];rfl
  have hb:besE (mvCv c v) (mvE v p)=besE c p:=by
   unfold besE btE
   rw[hF,hT,hl,zN,zN,zN]
   refine amc.2 ?_
   have k:∀x y t:RE,x+t≤y+t↔x≤y:=fun x y t=>⟨Ov _ _ _,Yk _ _ _⟩
   rw[k,k,k,k]
  rw[h1,hb,hl,adS]
  rfl
 ·have h1:(mvCv c v).1=true:=ha
  have hc:ciC (mvCv c v)=mvCi (ciC c) v:=by
   show(bif c.1 then mvCi c.2.2.1 v else c.2.2.1)=_
   rw[ha];rfl
  have hw:witE (mvCv c v) (mvE v p)=witE c p:=by
   have e1:pR (ccF (mvCv c v))=mvE v (pR (ccF c)):=by
    unfold ccF
    show pR (bif cwC c then _ else _)=_
    cases cwC c
    ·exact hF
    ·exact hT
   have e2:pR (ccT (mvCv c v))=mvE v (pR (ccT c)):=by
    unfold ccT
    show pR (bif cwC c then _ else _)=_
    cases cwC c
    ·exact hT
    ·exact hF
   unfold witE
   rw[hc,e1,e2,pC,pC,pC]
  rw[h1,hw,hc,ack,xJ]
  rw[show decide (mvE v p=mvE v (vE (ctr (ciC c))))=decide (p=vE (ctr (ciC c))) from amc.2 IK]
  rfl
theorem GX{x y:RE}(h:x≤y):sg x≤sg y:=by
 rcases bh x with⟨a,e⟩|⟨a,e⟩|⟨a,e⟩<;>rcases bh y with⟨b,f⟩|⟨b,f⟩|⟨b,f⟩<;>rw[e,f]<;>try decide
 ·exfalso;rw[b]at h;exact h a
 ·exact absurd (cW b a) h
 ·exfalso;rw[a]at h;exact h b
theorem ahG(a b t:RE):min (sg (a-t)) (sg (b-t))=sg (mnE a b-t):=by
 unfold mnE
 by_cases e:b<a
 ·rw[ama e]
  exact Int.min_eq_right (GX (Ej _ _ _ (le_of_lt e)))
 ·rw[al3 e]
  exact Int.min_eq_left (GX (Ej _ _ _ ((lt_or_ge b a).resolve_left e)))
theorem MS{c:Cv}(hf:Rpd (frC c))(ht:Rpd (toC c))(v:Rat×Rat)(r:Rat):J4 c (vE v) r=sg (vR (Cg c v)-of (r*r)):=by
 rw[EJ hf ht]
 exact ahG _ _ _
theorem u9{n:RE}(h:0<n)(x:RE):sg (n*x)=sg x:=by rw[dp,dt h,amX]
theorem ace{a b:Rat}(ha:0≤a)(hb:0≤b):rq (a*b)=rq a*rq b:=Ji _ _ (qM _) (bi (qM _) (qM _)) (by rw[fS (al8 ha hb),aF,Vf,fS ha,fS hb])
theorem Tu{u t:RE}{q r:Rat}(hu:0<u)(hq:0<q)(ht:t=rq q)(hr:0≤r):rngS (u*u) q r=sg (u*u+of q-(u*t+u*t)-of (r*r)):=by
 have hr':0≤of r:=jQ.2 hr
 have tt:t*t=of q:=by rw[ht];exact fS (by grind)
 have tp:0<t:=by rw[ht];exact MI hq
 have e1:v2 (q+r*r) (r+r) q=(t+of r)*(t+of r):=by
  unfold v2
  rw[←ht,of_add,aF,of_add,aeH,tt,sub_self,add_zero]
 have e2:v2 (q+r*r) (-(r+r)) q=(t-of r)*(t-of r):=by
  unfold v2
  rw[←ht,of_add,aF,of_neg,of_add,acW,tt,sub_self,add_zero]
 have f1:sg (u*u-v2 (q+r*r) (r+r) q)=sg (u-(t+of r)):=by
  rw[e1,Oa,mul_comm,u9 (afy _ _ _ hu tp hr')]
 have f2:of r<t→sg (u*u-v2 (q+r*r) (-(r+r)) q)=sg (u-(t-of r)):=fun g=>by
  rw[e2,Oa,mul_comm,u9 (akb _ _ _ hu g)]
 have fin:sg (u*u+of q-(u*t+u*t)-of (r*r))=sg (u-(t+of r))*sg (u-(t-of r)):=by
  rw[←tt,aF,adV,dp]
 unfold rngS
 rw[f1,fin]
 rcases bh (u-(t+of r))with⟨a,e⟩|⟨a,e⟩|⟨a,e⟩
 ·rw[e,dt (akH _ _ _ a hr')]
  rfl
 ·rw[e]
  show(0:Int)=0*_
  rw[aoC]
 ·rw[e]
  show(bif decide (aG q (r*r)≤0)then-1 else _)=_
  have cq:decide (aG q (r*r)≤0)=decide (q≤r*r):=by
   rw[wE]
  rw[cq]
  by_cases g:q≤r*r
  ·have tr:t≤of r:=Cq _ _ (le_of_lt tp) hr' (by rw[tt,←aF];exact jQ.2 g)
   rw[alF g,dt (ajo _ _ _ hu tr)]
   rfl
  ·have tr:of r<t:=by
    rcases lt_or_ge (of r) t with k|k
    ·exact k
    ·exfalso
     have:=Pg _ _ k (le_of_lt tp)
     rw[tt,←aF]at this
     exact g (jQ.1 this)
   rw[alH g,f2 tr]
   show-(sg _)= -1*sg _
   omega
open Classical in
theorem UR{c:Cv}(h:GdE c){v:Rat×Rat}(hd:Rdd (me c v))(r:Rat):poiE c (vE v) r=uf c v r:=by
 have hf:=h.f
 have ht:=h.t
 unfold poiE uf
 by_cases hr:r<0
 ·rw[alF hr];rfl
 ·rw[alH hr,cond_false,cond_false,cmpTR_re hd.nn]
  have hr0:0≤r:=by grind
  cases ha:c.1
  ·rw[cond_false]
   have hl:=(h.l ha).1
   have hn:0<nrE (lnC c):=GC hl
   have hb:besE c (vE v)=rS c (atP v):=by
    have:=xN (c:=c) (p:=atP v)
    rw[lE]at this
    unfold besE
    rw[anv,amL]
    exact this.symm
   unfold me
   rw[hb,ha,cond_false]
   cases rS c (atP v)
   ·exact MS hf ht v r
   ·rw[cond_true,cond_true]
    have h1:1/((lnC c).1*(lnC c).1+(lnC c).2.1*(lnC c).2.1)*((lnC c).1*(lnC c).1+(lnC c).2.1*(lnC c).2.1)=1:=al5 (j8 hl)
    have en:nrE (lnC c)=of ((lnC c).1*(lnC c).1+(lnC c).2.1*(lnC c).2.1):=by
     rw[of_add,aF,aF];rfl
    have ek:nrE (lnC c)*of (1/((lnC c).1*(lnC c).1+(lnC c).2.1*(lnC c).2.1))=1:=by
     rw[en,mul_comm,←aF,h1]
     rfl
    have e2:vR (bI (cU v (dV (lnC c) v)) (cU v (dV (lnC c) v)),0,0)=of (bI (cU v (dV (lnC c) v)) (cU v (dV (lnC c) v))):=dN _ _
    rw[e2,Eg hl,aF (r*r) ((lnC c).1*(lnC c).1+(lnC c).2.1*(lnC c).2.1),←en,aF _ (1/((lnC c).1*(lnC c).1+(lnC c).2.1*(lnC c).2.1)),aF ((lnC c).1*v.1+(lnC c).2.1*v.2-(lnC c).2.2),←RJ,←u9 hn (_-of (r*r)),abO,ek]
    refine congrArg sg ?_
    rw[mul_one]
  ·rw[cond_true]
   have hq:=(h.q ha).1
   have cz:vE v=vE (ctr (ciC c))↔zeV (aV c v)=true:=by
    unfold zeV aV cU vE
    rw[alQ,amL,amL]
    constructor
    ·intro e
     have e1:=m5 (congrArg Prod.fst e)
     have e2:=m5 (congrArg Prod.snd e)
     dsimp only
     rw[e1,e2]
     exact⟨by grind,by grind⟩
    ·intro ⟨e1,e2⟩
     dsimp only at e1 e2
     rw[show v.1=(ctr (ciC c)).1 by grind,show v.2=(ctr (ciC c)).2 by grind]
   unfold me
   rw[ha,cond_true]
   cases hz:zeV (aV c v)
   ·rw[alH (fun e=>by rw[cz.1 e]at hz;cases hz),cond_false]
    have hw:witE c (vE v)=fe c (aV c v):=by
     rw[(Iu h ha hz).2]
     show _=nV _ _ (vE (cU (ctr (ciC c)) v))
     rw[←Jj]
     rfl
    rw[hw]
    cases fe c (aV c v)
    ·exact MS hf ht v r
    ·rw[cond_true,cond_true,vR_mk]
     have dps:0<bI (aV c v) (aV c v):=by
      have:=xH hz
      have:=pi (aV c v)
      grind
     have es:dsE (vE v) (vE (ctr (ciC c)))=of (bI (aV c v) (aV c v)):=by
      unfold dsE vE bI aV cU
      rw[of_add,aF,aF,of_sub,of_sub]
     have su:=fS (show 0≤bI (aV c v) (aV c v) by grind)
     rw[es,←su,Tu (MI dps) hq rfl hr0]
     unfold v2
     have two:of (-2)= -2:=rfl
     rw[two,Yp,of_add,←su,ace (by grind) (by grind)]
   ·rw[alF (cz.2 hz),cond_true]
    have tw:fe c (aV c v)=true:=by
     unfold fe
     rw[ha,hz]
     rfl
    have dz:bI (aV c v) (aV c v)=0:=by
     unfold zeV at hz
     obtain⟨a,b⟩:=alQ.1 hz
     unfold bI
     rw[alI a,alI b]
     decide+kernel
    rw[tw,cond_true,vR_mk,dz,Rat.zero_mul,Rat.zero_add]
    unfold v2
    rw[IY,mul_zero,add_zero,←of_sub,sg_of,ta]
end RE
end
end Go.Proofs.YtnkndpoojnflmaaGreat
end
