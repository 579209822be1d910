/- Common points of lines and circles: the program's contracts. -/
import Derived.Test.YtnkndpoojnflmaaGreatH16
import Derived.Test.YtnkndpoojnflmaaGreatH15
import Derived.Test.YtnkndpoojnflmaaGreatH14
import Derived.Test.YtnkndpoojnflmaaGreatH17
noncomputable section
namespace Go.Proofs.YtnkndpoojnflmaaGreat
open Go.RowKit Go.IntKind
theorem lH(q:Rat):(aG q 0== -1)=decide (q<0):=by
 unfold aG
 by_cases h:q<0
 ·rw[alF h];rfl
 ·rw[alH h]
  by_cases h':0<q
  ·rw[alF h'];rfl
  ·rw[alH h'];rfl
def rF:List En:=[⟨41,fC,dQ⟩,⟨99,iA,eW⟩,⟨107,iO,fk⟩,⟨106,ie,fc⟩,⟨108,gO,eM⟩,⟨73,lY,iu⟩,⟨109,kG,gD⟩,⟨305,xE,th⟩,enL ZT,enL Yd,enL Hk,enL YF,enL Z9,enL ZD,enL N9]
def aik:Cn 326 [tR,tR]:=cn fun(a b:BR)=>lf (okR a∧okR b) [.d tR (am (ah a+ah b))] fun h=>jL [RV.d tR (hAd a b)] (du rF) h
def af8:Cn 279 [tR,tR]:=cn fun(a b:BR)=>lf (okR a∧okR b) [.d tR (am (ah a-ah b))] fun h=>jL [RV.d tR (hSu a b)] (du rF) h
def afV:Cn 280 [tR,tR]:=cn fun(a b:BR)=>lf (okR a∧okR b) [.d tR (am (ah a*ah b))] fun h=>jL [RV.d tR (hMu a b)] (du rF) h
def aeG:Cn 281 [tR,tR]:=cn fun(a b:BR)=>lf (ij a b) [.d tR (am (ah a/ah b))] fun h=>jL [RV.d tR (hDi a b)] (du rF) h
def ZS(a b:BR)(_k:KT):Option (List RV):=match decide (okR a∧okR b)with|true=>some [RV.d .bool ((aG (ah a) (ah b))==0)]|false=>none
def af3:Cn 274 [tR,tR]:=cn fun(a b:BR)=>lf (okR a∧okR b) [.d .bool (decide (ah a=ah b))] fun h=>by
 refine aA rF (ZS a b) ⟨0,?_⟩
 unfold ZS
 rw[dT h]
 simp only[aq]
def YD(x u y v k:BR)(_k:KT):Option (List RV):=og (decide (ok Rat 100000 x∧ok Rat 100000 u∧ok Rat 100000 k∧0≤ah k)) (og (decide (ok Rat 100000 y∧ok Rat 100000 v∧ok Rat 100000 k∧0≤ah k)) (og (decide (okT 15000 (hid (enc (mkR (ah x) (ah u) (ah k))))∧okT 15000 (hid (enc (mkR (ah y) (ah v) (ah k))))∧vu (dec (hid (enc (mkR (ah x) (ah u) (ah k))))) (dec (hid (enc (mkR (ah y) (ah v) (ah k))))))) (some [RV.d tP (hid (enc (mkP (dec (hid (enc (mkR (ah x) (ah u) (ah k))))) (dec (hid (enc (mkR (ah y) (ah v) (ah k))))))))])))
def ahp:Cn 278 [tR,tR,tR,tR,tR]:=cn fun(x u y v k:BR)=>lf (ok Rat 1000 x∧ok Rat 1000 u∧ok Rat 1000 y∧ok Rat 1000 v∧ok Rat 1000 k∧0≤ah k) [.d tP (enc (vI (ah x) (ah u) (ah y) (ah v) (ah k)))] fun h=>by
 refine aA rF (YD x u y v k) ⟨0,?_⟩
 obtain⟨hx,hu,hy,hv,hk,h0⟩:=h
 obtain⟨x,rfl,bx⟩:=aB hx
 obtain⟨u,rfl,bu⟩:=aB hu
 obtain⟨y,rfl,b_y⟩:=aB hy
 obtain⟨v,rfl,bv⟩:=aB hv
 obtain⟨k,rfl,bk⟩:=aB hk
 have h0:0≤(dec (enc k):Rat):=h0
 rw[az]at h0
 have nk:Nn k:=⟨h0⟩
 have n0:decide (0≤k)=true:=alF nk.le
 have hm:decide (vu (mkR x u k) (mkR y v k))=true:=alF (qr _ _ _ _ _)
 unfold YD vI
 simp only[aS,Nat.reduceAdd,Nat.reduceLeDiff,aM,n0,hm]
 try rfl
def ul:List En:=enL aik::enL af8::enL afV::enL aeG::enT af3::enL ahp::rF
def Zi(l m:BO3)(_k:KT):Option (List RV):=og (o2 l.1 m.2.1) (og (o2 m.1 l.2.1) (og (o2 (hMu l.1 m.2.1) (hMu m.1 l.2.1)) (match decide (ah (hMu l.1 m.2.1)=ah (hMu m.1 l.2.1))with|true=>(og (o2 l.1 m.2.2) (og (o2 m.1 l.2.2) (og (o2 (hMu l.1 m.2.2) (hMu m.1 l.2.2)) (match decide (ah (hMu l.1 m.2.2)=ah (hMu m.1 l.2.2))with|true=>(og (o2 l.2.1 m.2.2) (og (o2 m.2.1 l.2.2) (og (o2 (hMu l.2.1 m.2.2) (hMu m.2.1 l.2.2)) (some [RV.d .bool (decide (ah (hMu l.2.1 m.2.2)=ah (hMu m.2.1 l.2.2)))]))))|false=>some [RV.d .bool false]))))|false=>some [RV.d .bool false])))
def afx:Cn 184 [tO,tO]:=cn fun(l m:BO3)=>lf (cL l∧cL m) [.d .bool (lU (dec l) (dec m))] fun h=>by
 refine aA ul (Zi l m) ⟨0,?_⟩
 obtain⟨hl,hm⟩:=h
 obtain⟨l,rfl,bl,nl⟩:=dW hl
 obtain⟨m,rfl,bm,nm⟩:=dW hm
 unfold Zi lU
 have c1:l.2.1*m.1=m.1*l.2.1:=anu _ _
 have c2:l.2.2*m.1=m.1*l.2.2:=anu _ _
 have c3:l.2.2*m.2.1=m.2.1*l.2.2:=anu _ _
 simp only[aS,Nat.reduceAdd,Nat.reduceLeDiff,c1,c2,c3]
 cases decide (l.1*m.2.1=m.1*l.2.1)<;>cases decide (l.1*m.2.2=m.1*l.2.2)<;>rfl
def X4(c d:BO3)(_k:KT):Option (List RV):=og (o2 c.1 d.1) (match decide (ah c.1=ah d.1)with|true=>(og (o2 c.2.1 d.2.1) (match decide (ah c.2.1=ah d.2.1)with|true=>(og (o2 c.2.2 d.2.2) (some [RV.d .bool (decide (ah c.2.2=ah d.2.2))]))|false=>some [RV.d .bool false]))|false=>some [RV.d .bool false])
def ag8:Cn 183 [tO,tO]:=cn fun(c d:BO3)=>lf (cf c∧cf d) [.d .bool (ni (dec c) (dec d))] fun h=>by
 refine aA ul (X4 c d) ⟨0,?_⟩
 obtain⟨hc,hd⟩:=h
 obtain⟨c,rfl,bc,nc⟩:=cJ hc
 obtain⟨d,rfl,bd,nd⟩:=cJ hd
 unfold X4 ni
 simp only[aS,Nat.reduceLeDiff]
 cases decide (c.1=d.1)<;>cases decide (c.2.1=d.2.1)<;>rfl
def YT(c d:BO3)(_k:KT):Option (List RV):=og (o2 c.1 d.1) (match(aG (ah c.1) (ah d.1))==0 with|true=>(og (o2 c.2.1 d.2.1) (some [RV.d .bool ((aG (ah c.2.1) (ah d.2.1))==0)]))|false=>some [RV.d .bool false])
def aiq:Cn 275 [tO,tO]:=cn fun(c d:BO3)=>lf (cf c∧cf d) [.d .bool (gM (dec c) (dec d))] fun h=>by
 refine aA ul (YT c d) ⟨0,?_⟩
 obtain⟨hc,hd⟩:=h
 obtain⟨c,rfl,bc,nc⟩:=cJ hc
 obtain⟨d,rfl,bd,nd⟩:=cJ hd
 unfold YT gM
 simp only[aS,Nat.reduceLeDiff,aq]
 cases decide (c.1=d.1)<;>rfl
def Xb(c:BO3)(_k:KT):Option (List RV):=og (o2 c.1 c.1) (og (o2 c.2.1 c.2.1) (og (o2 (hMu c.1 c.1) (hMu c.2.1 c.2.1)) (og (o2 (hAd (hMu c.1 c.1) (hMu c.2.1 c.2.1)) c.2.2) (some [RV.d tR (hSu (hAd (hMu c.1 c.1) (hMu c.2.1 c.2.1)) c.2.2)]))))
def aiz:Cn 325 [tO]:=cn fun(c:BO3)=>lf (cf c) [.d tR (am (qB (dec c)))] fun h=>by
 refine aA ul (Xb c) ⟨0,?_⟩
 have hc:=h
 obtain⟨c,rfl,bc,nc⟩:=cJ hc
 unfold Xb qB
 simp only[aS,Nat.reduceAdd,Nat.reduceLeDiff]
def XY(l c:BO3)(_k:KT):Option (List RV):=let y1:=hid (enc (dV (dec l) (dec (c.1,c.2.1))));let y2:=hSu (y1.2) c.2.1;let y3:=hMu (hSu (y1.1) c.1) (hSu (y1.1) c.1);let y4:=hAd y3 (hMu y2 y2);let y5:=hAd (hMu l.1 l.1) (hMu l.2.1 l.2.1);let y6:=ij (hSu c.2.2 y4) y5;let y7:=hDi (hSu c.2.2 y4) y5;let y8:Option (List RV):=match decide y6 with|true=>some [RV.d tR y7,RV.d tV y1]|false=>none;let y9:Option (List RV):=match decide (okR (hMu l.1 l.1)∧okR (hMu l.2.1 l.2.1))with|true=>y8|false=>none;let y10:Option (List RV):=match decide (okR l.2.1∧okR l.2.1)with|true=>y9|false=>none;og (decide (ok Ln 300 l∧ok (Rat×Rat) 200 (c.1,c.2.1)∧((dec l:Ln).1≠0∨(dec l:Ln).2.1≠0))) (og (o2 (y1.1) c.1) (og (o2 (y1.2) c.2.1) (og (o2 (hSu (y1.1) c.1) (hSu (y1.1) c.1)) (og (o2 y2 y2) (og (o2 y3 (hMu y2 y2)) (og (o2 c.2.2 y4) (ce (og (o2 l.1 l.1) (ce (og (o2 l.2.1 l.2.1) (ce (og (o2 (hMu l.1 l.1) (hMu l.2.1 l.2.1)) (ce (og (decide y6) (dup (.b .l .l) (some [RV.d tR y7,RV.d tV y1]))) y8)) y9)) y10)) (og (o2 l.1 l.1) y10))))))))
def afO:Cn 277 [tO,tO]:=cn fun(l c:BO3)=>lf (cL l∧cf c) [.d tR (am (d9 (dec l) (dec c))),.d tV (enc (ftL (dec l) (dec c)))] fun h=>by
 refine aA ul (XY l c) ⟨0,?_⟩
 obtain⟨hl,hc⟩:=h
 obtain⟨l,rfl,bl,nl⟩:=dW hl
 obtain⟨c,rfl,bc,nc⟩:=cJ hc
 have ol:=alF (kU (l:=l) nl)
 have bl:Bd l 63:=acY
 have bv:Bd ((c.1,c.2.1):Rat×Rat) 4:=inferInstance
 have hn:=nQ nl
 have bn:Bd (cj l) 49:=inferInstanceAs (Bd (l.1*l.1+l.2.1*l.2.1) _)
 have bf:=FE (l:=l) (c:=c)
 have b1:Bd (ftL l c).1 163:=inferInstance
 have b2:Bd (ftL l c).2 163:=inferInstance
 have e1:l.1*l.1+l.2.1*l.2.1=cj l:=rfl
 unfold XY d9 yo
 simp only[aS,Nat.reduceAdd,Nat.reduceLeDiff,JD,nl,UH,e1,hn,ne_eq,ana]
 try rfl
def yE:List En:=enT afx::enT ag8::enT aiq::enL aiz::enL afO::ul
def Zh(l m:BO3)(_k:KT):Option (List RV):=og (o2 l.1 m.2.1) (og (o2 m.1 l.2.1) (og (o2 (hMu l.1 m.2.1) (hMu m.1 l.2.1)) (og (o1 (hSu (hMu l.1 m.2.1) (hMu m.1 l.2.1))) (match(aG (ah (hSu (hMu l.1 m.2.1) (hMu m.1 l.2.1))) 0)==0 with|true=>(og (decide (cL l∧cL m)) (match lU (dec l) (dec m)with|true=>some [RV.d (.sl tP) ([]),RV.d aoX 10]|false=>some [RV.d (.sl tP) ([]),RV.d aoX 0]))|false=>(og (o2 l.2.2 m.2.1) (og (o2 m.2.2 l.2.1) (og (o2 (hMu l.2.2 m.2.1) (hMu m.2.2 l.2.1)) (og (decide (ij (hSu (hMu l.2.2 m.2.1) (hMu m.2.2 l.2.1)) (hSu (hMu l.1 m.2.1) (hMu m.1 l.2.1)))) (og (o2 l.1 m.2.2) (og (o2 m.1 l.2.2) (og (o2 (hMu l.1 m.2.2) (hMu m.1 l.2.2)) (og (decide (ij (hSu (hMu l.1 m.2.2) (hMu m.1 l.2.2)) (hSu (hMu l.1 m.2.1) (hMu m.1 l.2.1)))) (og (decide (ok (Rat×Rat) 100000 (hDi (hSu (hMu l.2.2 m.2.1) (hMu m.2.2 l.2.1)) (hSu (hMu l.1 m.2.1) (hMu m.1 l.2.1)),hDi (hSu (hMu l.1 m.2.2) (hMu m.1 l.2.2)) (hSu (hMu l.1 m.2.1) (hMu m.1 l.2.1))))) (some [RV.d (.sl tP) ([hid (enc (atP (dec (hDi (hSu (hMu l.2.2 m.2.1) (hMu m.2.2 l.2.1)) (hSu (hMu l.1 m.2.1) (hMu m.1 l.2.1)),hDi (hSu (hMu l.1 m.2.2) (hMu m.1 l.2.2)) (hSu (hMu l.1 m.2.1) (hMu m.1 l.2.1))))))]),RV.d aoX 0]))))))))))))))
def aiK:Cn 187 [tO,tO]:=cn fun(l m:BO3)=>lf (cL l∧cL m) [.d (.sl tP) ((lk (dec l) (dec m)).map enc),.d aoX (Sg (dec l) (dec m))] fun h=>by
 refine aA yE (Zh l m) ⟨0,?_⟩
 obtain⟨hl,hm⟩:=h
 obtain⟨l,rfl,bl,nl⟩:=dW hl
 obtain⟨m,rfl,bm,nm⟩:=dW hm
 have ol:=alF (kU (l:=l) nl)
 have om:=alF (kU (l:=m) nm)
 have bc:Bd (dk l m) 49:=inferInstanceAs (Bd (l.1*m.2.1-m.1*l.2.1) _)
 have e0:l.1*m.2.1-m.1*l.2.1=dk l m:=rfl
 have e1:l.2.2*m.2.1-m.2.2*l.2.1=lj l m:=rfl
 have e2:l.1*m.2.2-m.1*l.2.2=ln l m:=rfl
 have bx:Bd (lj l m) 151:=inferInstanceAs (Bd (l.2.2*m.2.1-m.2.2*l.2.1) _)
 have b_:Bd (ln l m) 151:=inferInstanceAs (Bd (l.1*m.2.2-m.1*l.2.2) _)
 unfold Zh lk Sg
 simp only[aS,Nat.reduceAdd,Nat.reduceLeDiff,aq,ol,om,e0,e1,e2]
 by_cases h0:dk l m=0
 ·simp only[alF h0,Bool.not_true]
  cases lU l m<;>rfl
 ·simp only[aS,Nat.reduceAdd,Nat.reduceLeDiff,h0,ne_eq,ana,Bool.not_false,JD]
  rfl
def Xe(c d:BO3)(_k:KT):Option (List RV):=og (decide (cf c∧cf d)) (match gM (dec c) (dec d)with|true=>some [RV.d tO (((false,[]),(false,[])),(((false,[]),(false,[])),((false,[]),(false,[])))),RV.d aoX 6]|false=>(og (decide (aH (2:Int))) (og (o2 d.1 c.1) (og (o2 (hid (am ((2:Int):Rat))) (hSu d.1 c.1)) (og (o2 d.2.1 c.2.1) (og (o2 (hid (am ((2:Int):Rat))) (hSu d.2.1 c.2.1)) (og (decide (cf d)) (og (decide (cf c)) (og (o2 (hid (am (qB (dec d)))) (hid (am (qB (dec c))))) (some [RV.d tO (hMu (hid (am ((2:Int):Rat))) (hSu d.1 c.1),(hMu (hid (am ((2:Int):Rat))) (hSu d.2.1 c.2.1),hSu (hid (am (qB (dec d)))) (hid (am (qB (dec c)))))),RV.d aoX 0]))))))))))
def air:Cn 276 [tO,tO]:=cn fun(c d:BO3)=>lf (cf c∧cf d) [.d tO (vJ (dec c) (dec d)),.d aoX (Vc (dec c) (dec d))] fun h=>by
 refine aA yE (Xe c d) ⟨0,?_⟩
 obtain⟨hc,hd⟩:=h
 obtain⟨c,rfl,bc,nc⟩:=cJ hc
 obtain⟨d,rfl,bd,nd⟩:=cJ hd
 have oc:=alF (fQ (c:=c) nc)
 have od:=alF (fQ (c:=d) nd)
 have i2:decide (aH 2)=true:=by decide
 have b2:Bd ((2:Int):Rat) 3:=cQ (by decide)
 have f1:Bd (qB c) 31:=(inferInstance:Bd (c.1*c.1+c.2.1*c.2.1-c.2.2) _).mono (by decide)
 have f2:Bd (qB d) 31:=(inferInstance:Bd (d.1*d.1+d.2.1*d.2.1-d.2.2) _).mono (by decide)
 unfold Xe vJ Vc
 simp only[aS,Nat.reduceAdd,Nat.reduceLeDiff,oc,od,i2]
 cases gM c d
 ·rfl
 ·rfl
def agE:Ctx:=CX (ens yE) []
def Yn(l c:BO3)(_k:KT):Option (List RV):=let y1:=hid (am (d9 (dec l) (dec c)));let y2:=hid (enc (ftL (dec l) (dec c)));let y3:=aG (ah l.2.1) 0;let y4:=hNe (hNe (hNe l.1));let y5:=enc (vI (ah (y2.1)) (ah (hNe l.2.1)) (ah (y2.2)) (ah (hNe (hNe l.1))) (ah y1));let y6:Option (List RV):=match decide (okR l.2.1)with|true=>(og (o1 (hNe l.1)) (og (o1 (hNe l.2.1)) (og (o1 (hNe (hNe l.1))) (og (decide (ok Rat 1000 (y2.1)∧ok Rat 1000 (hNe (hNe l.2.1))∧ok Rat 1000 (y2.2)∧ok Rat 1000 y4∧ok Rat 1000 y1∧0≤ah y1)) (og (decide (ok Rat 1000 (y2.1)∧ok Rat 1000 (hNe l.2.1)∧ok Rat 1000 (y2.2)∧ok Rat 1000 (hNe (hNe l.1))∧ok Rat 1000 y1∧0≤ah y1)) (some [RV.new 37 tP ([hid (enc (vI (ah (y2.1)) (ah (hNe (hNe l.2.1))) (ah (y2.2)) (ah y4) (ah y1))),hid y5])]))))))|false=>none;let y7:Option (List RV):=match decide (okR l.2.1)with|true=>(og (o1 (hNe l.1)) (og (decide (ok Rat 1000 (y2.1)∧ok Rat 1000 (hNe l.2.1)∧ok Rat 1000 (y2.2)∧ok Rat 1000 (hNe (hNe l.1))∧ok Rat 1000 y1∧0≤ah y1)) (og (decide (ok Rat 1000 (y2.1)∧ok Rat 1000 l.2.1∧ok Rat 1000 (y2.2)∧ok Rat 1000 (hNe l.1)∧ok Rat 1000 y1∧0≤ah y1)) (some [RV.new 37 tP ([hid y5,hid (enc (vI (ah (y2.1)) (ah l.2.1) (ah (y2.2)) (ah (hNe l.1)) (ah y1)))])]))))|false=>none;og (decide (cL l∧cf c)) (og (o1 y1) (match(aG (ah y1) 0)==(-1)with|true=>some [RV.new 37 tP []]|false=>(match(aG (ah y1) 0)==0 with|true=>(og (decide (ok (Rat×Rat) 100000 y2)) (some [RV.new 37 tP ([hid (enc (atP (dec y2)))])]))|false=>(og (o1 l.1) (og (o1 l.2.1) (match decide (y3<0)with|true=>y6|false=>(match y3==0 with|true=>(og (o1 (hNe l.1)) (match decide ((aG (ah (hNe l.1)) 0)<0)with|true=>y6|false=>y7))|false=>y7)))))))
theorem af6(l c:BO3):RS agE 186 [.d tO l,.d tO c] (Yn l c):=rsX
def ad5:Cn 186 [tO,tO]:=cn fun(l c:BO3)=>lf (cL l∧cf c) [.d (.sl tP) ((kE (dec l) (dec c)).map enc)] fun h=>by
 refine Con.new_d (et:=37) (cZ yE (af6 _ _ ⟨0,?_⟩))
 obtain⟨hl,hc⟩:=h
 obtain⟨l,rfl,bl,nl⟩:=dW hl
 obtain⟨c,rfl,bc,nc⟩:=cJ hc
 have ol:=alF (kU (l:=l) nl)
 have oc:=alF (fQ (c:=c) nc)
 have bf:=FE (l:=l) (c:=c)
 have bk:=On (l:=l) (c:=c)
 have b1:Bd (ftL l c).1 163:=inferInstance
 have b2:Bd (ftL l c).2 163:=inferInstance
 unfold Yn kE
 simp only[aS,Nat.reduceLeDiff,aq,au,lH,ol,oc]
 by_cases h0:d9 l c<0
 ·simp only[alF h0]
  rfl
 ·simp only[alH h0]
  by_cases h1:d9 l c=0
  ·simp only[alF h1]
   rfl
  ·have hp:decide (0≤d9 l c)=true:=alF (by grind)
   simp only[alH h1,hp,aS]
   unfold lcM lcN qC qG EG
   cases decide (l.2.1<0)<;>cases decide (l.2.1=0)<;>cases decide (-l.1<0)<;>rfl
def Oy:List En:=enL aiK::enL air::enL ad5::yE
def Zw(c d:BO3)(_k:KT):Option (List RV):=og (decide (cf c∧cf d)) (match ni (dec c) (dec d)with|true=>some [RV.d (.sl tP) ([]),RV.d aoX 10]|false=>(og (decide (cf c∧cf d)) (match gM (dec c) (dec d)with|true=>some [RV.d (.sl tP) ([]),RV.d aoX 0]|false=>(og (decide (cf c∧cf d)) (og (decide (cL (hid (vJ (dec c) (dec d)))∧cf c)) (some [RV.d (.sl tP) ((kE (dec (hid (vJ (dec c) (dec d)))) (dec c)).map enc),RV.d aoX 0]))))))
def ahY:Cn 185 [tO,tO]:=cn fun(c d:BO3)=>lf (cf c∧cf d) [.d (.sl tP) ((rJ (dec c) (dec d)).map enc),.d aoX (VR (dec c) (dec d))] fun h=>by
 refine aA Oy (Zw c d) ⟨0,?_⟩
 obtain⟨hc,hd⟩:=h
 obtain⟨c,rfl,bc,nc⟩:=cJ hc
 obtain⟨d,rfl,bd,nd⟩:=cJ hd
 have oc:=alF (fQ (c:=c) nc)
 have od:=alF (fQ (c:=d) nd)
 unfold Zw rJ VR
 simp only[aS,oc,od]
 cases hs:ni c d
 ·cases hc:gM c d
  ·have ol:cL (enc (mU c d)):=Sw hc
   have er:vJ c d=enc (mU c d):=by unfold vJ;rw[hc];rfl
   simp only[er,dT ol,aS]
   try rfl
  ·rfl
 ·have hc:gM c d=true:=by
   unfold ni at hs
   unfold gM
   cases h1:decide (c.1=d.1)
   ·rw[h1]at hs;cases hs
   ·cases h2:decide (c.2.1=d.2.1)
    ·rw[h1,h2]at hs;cases hs
    ·rfl
  rw[hc]
  rfl
def Mj:List En:=enL ahY::Oy
def XQ(a b:BCU)(_k:KT):Option (List RV):=match a.1 with|true=>(match b.1 with|true=>(og (decide (cf a.2.2.1∧cf b.2.2.1)) (some [RV.d (.sl tP) ((rJ (dec a.2.2.1) (dec b.2.2.1)).map enc),RV.d aoX (VR (dec a.2.2.1) (dec b.2.2.1))]))|false=>(match a.1 with|true=>(og (decide (cL b.2.1∧cf a.2.2.1)) (some [RV.d (.sl tP) ((kE (dec b.2.1) (dec a.2.2.1)).map enc),RV.d aoX 0]))|false=>(match b.1 with|true=>(og (decide (cL a.2.1∧cf b.2.2.1)) (some [RV.d (.sl tP) ((kE (dec a.2.1) (dec b.2.2.1)).map enc),RV.d aoX 0]))|false=>(og (decide (cL a.2.1∧cL b.2.1)) (some [RV.d (.sl tP) ((lk (dec a.2.1) (dec b.2.1)).map enc),RV.d aoX (Sg (dec a.2.1) (dec b.2.1))])))))|false=>(match a.1 with|true=>(og (decide (cL b.2.1∧cf a.2.2.1)) (some [RV.d (.sl tP) ((kE (dec b.2.1) (dec a.2.2.1)).map enc),RV.d aoX 0]))|false=>(match b.1 with|true=>(og (decide (cL a.2.1∧cf b.2.2.1)) (some [RV.d (.sl tP) ((kE (dec a.2.1) (dec b.2.2.1)).map enc),RV.d aoX 0]))|false=>(og (decide (cL a.2.1∧cL b.2.1)) (some [RV.d (.sl tP) ((lk (dec a.2.1) (dec b.2.1)).map enc),RV.d aoX (Sg (dec a.2.1) (dec b.2.1))]))))
def Xn:Cn 85 [tCU,tCU]:=cn fun(a b:BCU)=>lf (gA a b) [.d (.sl tP) ((gi (dC a) (dC b)).map enc),.d aoX (af4 (dC a) (dC b))] fun h=>by
 refine aA Mj (XQ a b) ⟨0,?_⟩
 obtain⟨⟨a1,a2⟩,b1,b2⟩:=h
 unfold XQ gi af4
 obtain⟨aa,al,ac,aw,af,at_⟩:=a
 obtain⟨ba,bl,bc,bw,bf,bt⟩:=b
 cases aa<;>cases ba
 ·have h1:=a2 rfl
  have h2:=b2 rfl
  simp only[dT (show cL al∧cL bl from⟨h1,h2⟩)]
  rfl
 ·have h1:=a2 rfl
  have h2:=b1 rfl
  simp only[dT (show cL al∧cf bc from⟨h1,h2⟩)]
  rfl
 ·have h1:=a1 rfl
  have h2:=b2 rfl
  simp only[dT (show cL bl∧cf ac from⟨h2,h1⟩)]
  rfl
 ·have h1:=a1 rfl
  have h2:=b1 rfl
  simp only[dT (show cf ac∧cf bc from⟨h1,h2⟩)]
  rfl
def Xz(a b:BCU)(_k:KT):Option (List RV):=match !(a.1==b.1)with|true=>some [RV.d .bool false]|false=>(match a.1 with|true=>(og (decide (cf a.2.2.1∧cf b.2.2.1)) (some [RV.d .bool (ni (dec a.2.2.1) (dec b.2.2.1))]))|false=>(og (decide (cL a.2.1∧cL b.2.1)) (some [RV.d .bool (lU (dec a.2.1) (dec b.2.1))])))
def YK:Cn 84 [tCU,tCU]:=cn fun(a b:BCU)=>lf (gA a b) [.d .bool (cC (dC a) (dC b))] fun h=>by
 refine aA Mj (Xz a b) ⟨0,?_⟩
 obtain⟨⟨a1,a2⟩,b1,b2⟩:=h
 unfold Xz cC
 obtain⟨aa,al,ac,aw,af,at_⟩:=a
 obtain⟨ba,bl,bc,bw,bf,bt⟩:=b
 cases aa<;>cases ba
 ·have h1:=a2 rfl
  have h2:=b2 rfl
  simp only[dT (show cL al∧cL bl from⟨h1,h2⟩)]
  rfl
 ·rfl
 ·rfl
 ·have h1:=a1 rfl
  have h2:=b1 rfl
  simp only[dT (show cf ac∧cf bc from⟨h1,h2⟩)]
  rfl
theorem Up(f p q:Bool×Rt): -1≤gC a8 f p q∧gC a8 f p q≤1:=by
 have h:∀n,-1≤jW n∧jW n≤1:=fun n=>by
  unfold jW
  split<;>(try split)<;>omega
 unfold gC
 cases ow a8 f p==ow a8 f q
 ·exact h _
 ·exact h _
def ae2:List En:=[enT QP,enT R6]
def Xm(c:BCU)(p q:BP)(_k:KT):Option (List RV):=match !c.1 with|true=>(og (decide (okP 4000 p∧okP 4000 q)) (og (decide (okP 4000 c.2.2.2.2.2∧okP 4000 c.2.2.2.2.1)) (some [RV.d aoX (i64.wrap ((aX (dec p) (dec q))*(aX (dec c.2.2.2.2.2) (dec c.2.2.2.2.1))))])))|false=>(match c.2.2.2.1 with|true=>(og (decide (ok Ln 300 c.2.2.1∧okP 4000 c.2.2.2.2.2∧okP 4000 p∧okP 4000 q)) (some [RV.d aoX (i64.wrap (0-(gC a8 (ptd (dec c.2.2.1) (dec c.2.2.2.2.2)) (ptd (dec c.2.2.1) (dec p)) (ptd (dec c.2.2.1) (dec q)))))]))|false=>(og (decide (ok Ln 300 c.2.2.1∧okP 4000 c.2.2.2.2.1∧okP 4000 p∧okP 4000 q)) (some [RV.d aoX (gC a8 (ptd (dec c.2.2.1) (dec c.2.2.2.2.1)) (ptd (dec c.2.2.1) (dec p)) (ptd (dec c.2.2.1) (dec q)))])))
def ahB:Cn 194 [tCU,tP,tP]:=cn fun(c:BCU) (p q:BP)=>lf (okC 4000 c∧okP 4000 p∧okP 4000 q) [.d aoX (A6 (dC c) (dec p) (dec q))] fun h=>by
 refine aA ae2 (Xm c p q) ⟨0,?_⟩
 obtain⟨hc,hp,hq⟩:=h
 obtain⟨ar,li,ci,cw,fr,to⟩:=c
 have h3:=hc.2.2.1
 have h4:=hc.2.2.2
 simp only at h3 h4
 unfold Xm A6
 cases ar
 ·have b1:=wq (dec p) (dec q)
  have b2:=wq (dec to) (dec fr)
  simp only[dT (show okP 4000 p∧okP 4000 q from⟨hp,hq⟩),dT (show okP 4000 to∧okP 4000 fr from⟨h4,h3⟩),AO b1 b2]
  rfl
 ·have e:=(hc.1 rfl).1
  simp only at e
  cases cw
  ·simp only[dT (show ok Ln 300 ci∧okP 4000 fr∧okP 4000 p∧okP 4000 q from⟨e,h3,hp,hq⟩)]
   rfl
  ·have b:=Up (ptd (dec ci) (dec to)) (ptd (dec ci) (dec p)) (ptd (dec ci) (dec q))
   simp only[dT (show ok Ln 300 ci∧okP 4000 to∧okP 4000 p∧okP 4000 q from⟨e,h4,hp,hq⟩)]
   try dsimp only[Bool.not_true]
   rw[aT (x:=0-gC a8 (ptd (dec ci) (dec to)) (ptd (dec ci) (dec p)) (ptd (dec ci) (dec q))) (by omega) (by omega),anD]
   rfl
section
theorem Al{n m k:Nat}(h1:n+m≤100000000)(hk:k≤1000000):decide ((n+m)*k≤140737488355328∧n+m≤140737488355328)=true:=by
 refine alF ⟨?_,by omega⟩
 have:=anP h1 hk
 omega
def lh(c:BCU)(l:List BP):Prop:=okC 4000 c∧l.length≤19∧∀x∈l,okP 4000 x
instance (c:BCU) (l:List BP):Decidable (lh c l):=by unfold lh;infer_instance
def QQ:Ctx:=CX [] []
def Sn(p:List BP)(_k:KT):Option (List RV):=match p with|[]=>Gp (some [RV.new 37 tP []]) (og (decide ((([]:List BP).length+p.length)*320≤140737488355328∧([]:List BP).length+p.length≤140737488355328)) (some [RV.new 37 tP (([]:List BP)++p)]))|_::_=>(og (decide ((([]:List BP).length+p.length)*320≤140737488355328∧([]:List BP).length+p.length≤140737488355328)) (some [RV.new 37 tP (([]:List BP)++p)]))
theorem aaW(p:List BP):RS QQ 87 [.d (.sl tP) p] (Sn p):=rsX
def Fv:Cn 87 [(.sl tP)]:=cn fun(p:List BP)=>lf (p.length≤100000) [.new 37 tP p] fun h=>by
 refine Ctx.Res.con (C:=QQ) (Fg (E:=[]) trivial) ?_ (fn:=Tryz.f87) (by kernel_rfl) (by kernel_rfl)
 refine aaW _ ⟨0,?_⟩
 unfold Sn
 rw[Al (n:=([]:List BP).length) (m:=p.length) (by simp;omega) (by omega)]
 cases p with
 |nil=>exact dO _
 |cons a p=>rfl
def acM:List En:=[enT QP]
def Wn(p q:BP)(_k:KT):Option (List RV):=og (decide (okP 4000 p∧okP 4000 q)) (some [RV.d .bool ((aX (dec p) (dec q))==0)])
def Pz:Cn 196 [tP,tP]:=cn fun(p q:BP)=>lf (okP 4000 p∧okP 4000 q) [.d .bool (aX (dec p) (dec q)==0)] fun h=>by
 refine aA acM (Wn p q) ⟨0,?_⟩
 unfold Wn
 rw[dT h]
def In:ef:={keep:=true,run:=fun _ _ _=>none}
theorem J8:SpK 329 In:=by
 refine⟨by kernel_rfl,fun R args k r h=>(by cases h),fun g h=>(by cases h)⟩
def F5:List En:=[enT ahB,enT Pz,enK Fv,⟨329,In,J8⟩]
def acx:NT:=[((288,6),{keep:=[0,1,2,6,7,8],hl:=2}),((328,3),{keep:=[0,1,2,3,8],hl:=2}),((328,15),{keep:=[0,1,2,3,8,9],hl:=2}),((288,22),{keep:=[0,1,2,6],hl:=2}),((288,34),{keep:=[0,1,2,6,7,8],hl:=2}),((195,14),{keep:=[0,1,5],hl:=2}),((195,32),{keep:=[0,1,5,6,7],hl:=2}),((90,5),{keep:=[1],hl:=0}),((192,0),{keep:=[],hl:=0}),((288,15),{keep:=[0,1,2,6,8],hl:=0}),((288,20),{keep:=[0,1,2,6],hl:=0}),((328,18),{keep:=[0,1,2,3,8,9,18,19,20,21,22,23,24,25,26,27,28,29,30,31,32,33,34],hl:=0}),((90,7),{keep:=[11],hl:=0})]
def iE:Ctx:=CX (ens F5) acx
def rg(c:BCU)(l:List BP)(s288_7 s288_8:Int)(r288_1:List BP):Cfg:=⟨288,[.blk 0,.seq 19],[(0,.own 1),(1,SI (l.length:Int)),(2,.clo 193 [0]),(6,SI 20),(7,SI s288_7),(8,SI s288_8)],[.box 39 (Ty.split tCU c),.row 37 tP r288_1],2,[⟨192,[],0,4,[],2,none⟩,⟨90,[.seq 6],5,2,[(1,.own 1)],0,none⟩]⟩
def qZ(c:BCU)(l:List BP)(s288_7 s288_8 s328_8:Int)(r328_1:List BP):Cfg:=⟨328,[.blk 0],[(0,.own 1),(1,SI s288_7),(2,SI s288_8),(3,.clo 193 [0]),(8,SI s328_8)],[.box 39 (Ty.split tCU c),.row 37 tP r328_1],2,[⟨288,[.seq 16,.blk 1,.lp 6,.blk 0,.seq 19],15,4,[(0,.own 1),(1,SI (l.length:Int)),(2,.clo 193 [0]),(6,SI 20),(8,SI s288_8)],2,none⟩,⟨192,[],0,4,[],2,none⟩,⟨90,[.seq 6],5,2,[(1,.own 1)],0,none⟩]⟩
def eL(c:BCU)(l:List BP)(s288_7 s328_8:Int)(r328_1:List BP):Cfg:=⟨328,[.blk 0],[(0,.own 1),(1,SI s288_7),(2,SI (l.length:Int)),(3,.clo 193 [0]),(8,SI s328_8)],[.box 39 (Ty.split tCU c),.row 37 tP r328_1],2,[⟨288,[.seq 21],20,4,[(0,.own 1),(1,SI (l.length:Int)),(2,.clo 193 [0]),(6,SI 20)],2,none⟩,⟨192,[],0,4,[],2,none⟩,⟨90,[.seq 6],5,2,[(1,.own 1)],0,none⟩]⟩
def Cs(c:BCU)(l:List BP)(s288_7 s288_8 s328_8 s328_9:Int)(r328_1:List BP):Cfg:=⟨328,[.blk 2,.blk 1,.seq 26,.lp 3,.blk 0],[(0,.own 1),(1,SI s288_7),(2,SI s288_8),(3,.clo 193 [0]),(8,SI s328_8),(9,SI s328_9)],[.box 39 (Ty.split tCU c),.row 37 tP r328_1],2,[⟨288,[.seq 16,.blk 1,.lp 6,.blk 0,.seq 19],15,4,[(0,.own 1),(1,SI (l.length:Int)),(2,.clo 193 [0]),(6,SI 20),(8,SI s288_8)],2,none⟩,⟨192,[],0,4,[],2,none⟩,⟨90,[.seq 6],5,2,[(1,.own 1)],0,none⟩]⟩
def gF(c:BCU)(l:List BP)(s288_7 s328_8 s328_9:Int)(r328_1:List BP):Cfg:=⟨328,[.blk 2,.blk 1,.seq 26,.lp 3,.blk 0],[(0,.own 1),(1,SI s288_7),(2,SI (l.length:Int)),(3,.clo 193 [0]),(8,SI s328_8),(9,SI s328_9)],[.box 39 (Ty.split tCU c),.row 37 tP r328_1],2,[⟨288,[.seq 21],20,4,[(0,.own 1),(1,SI (l.length:Int)),(2,.clo 193 [0]),(6,SI 20)],2,none⟩,⟨192,[],0,4,[],2,none⟩,⟨90,[.seq 6],5,2,[(1,.own 1)],0,none⟩]⟩
def jC(c:BCU)(l r328_1:List BP)(s288_6:Int):Cfg:=⟨288,[.blk 2],[(0,.own 1),(1,SI (l.length:Int)),(2,.clo 193 [0]),(6,SI s288_6)],[.box 39 (Ty.split tCU c),.row 37 tP r328_1],2,[⟨192,[],0,4,[],2,none⟩,⟨90,[.seq 6],5,2,[(1,.own 1)],0,none⟩]⟩
def D2(c:BCU)(l r328_1:List BP)(s288_6:Int):Cfg:=⟨288,[.blk 4,.seq 47,.blk 3,.lp 22,.blk 2],[(0,.own 1),(1,SI (l.length:Int)),(2,.clo 193 [0]),(6,SI s288_6),(7,SI 0),(8,SI (i64.wrap (2*s288_6)))],[.box 39 (Ty.split tCU c),.row 37 tP r328_1],2,[⟨192,[],0,4,[],2,none⟩,⟨90,[.seq 6],5,2,[(1,.own 1)],0,none⟩]⟩
def ju(c:BCU)(r328_1:List BP)(s195_5:Int):Cfg:=⟨195,[.blk 0,.seq 56],[(0,.own 1),(1,.clo 196 []),(5,SI s195_5)],[.box 39 (Ty.split tCU c),.row 37 tP r328_1],2,[⟨90,[.seq 8],7,1,[],0,none⟩]⟩
def d8(c:BCU)(r328_1:List BP)(s195_5 s195_5v s195_7:Int)(r195_1:List BP):Cfg:=⟨195,[.blk 2,.seq 49,.blk 1,.seq 55,.lp 14,.blk 0,.seq 56],[(0,.own 1),(1,.clo 196 []),(5,SI s195_5v),(6,.osl 1 20 ((s195_5:Int).toNat) (((r328_1.length:Int):Int).toNat-(s195_5:Int).toNat)),(7,SI s195_7)],[.box 39 (Ty.split tCU c),.row 37 tP r195_1],2,[⟨90,[.seq 8],7,1,[],0,none⟩]⟩
def XR(c:BCU)(l:List BP)(k:KT):Option (List RV):=og (decide (l.length≤100000)) (k 6 (rg c l 0 20 l))
theorem afj(c:BCU)(l:List BP):RS iE 90 [.d tCU c,.d (.sl tP) l] (XR c l):=rsX
def tF(c:BCU)(l:List BP)(s288_7 s288_8:Int)(r288_1:List BP)(k:KT):Option (List RV):=match decide (s288_8≤(l.length:Int))with|true=>k 3 (qZ c l s288_7 s288_8 (i64.wrap (s288_7+1)) r288_1)|false=>k 3 (eL c l s288_7 (i64.wrap (s288_7+1)) r288_1)
theorem Aj(c:BCU)(l:List BP)(s288_7 s288_8:Int)(r288_1:List BP):RN iE 6 (rg c l s288_7 s288_8 r288_1) (tF c l s288_7 s288_8 r288_1):=rnX
def iw(c:BCU)(l:List BP)(s288_7 s328_8:Int)(r328_1:List BP)(k:KT):Option (List RV):=match decide (s328_8<(l.length:Int))with|true=>k 15 (gF c l s288_7 s328_8 s328_8 r328_1)|false=>k 22 (jC c l r328_1 20)
theorem kv(c:BCU)(l:List BP)(s288_7 s328_8:Int)(r328_1:List BP):RN iE 3 (eL c l s288_7 s328_8 r328_1) (iw c l s288_7 s328_8 r328_1):=rnX
def Sz(c:BCU)(l:List BP)(s288_7 s288_8 s328_8 s328_9:Int)(r328_1:List BP)(k:KT):Option (List RV):=match decide (s328_9>s288_7)with|true=>(match aR r328_1 s328_9 with|some _=>(match true,r328_1[(s328_9).toNat]? with|true,some x1=>(match aR r328_1 (i64.wrap (s328_9-1))with|some _=>(match true,r328_1[(i64.wrap (s328_9-1)).toNat]? with|true,some x2=>(og (decide (okC 4000 c∧okP 4000 x1∧okP 4000 x2)) (match decide ((A6 (dC c) (dec x1) (dec x2))<0)with|true=>(match aR r328_1 (i64.wrap (s328_9-1))with|some _=>(match true,r328_1[(i64.wrap (s328_9-1)).toNat]? with|true,some x3=>(match aR r328_1 s328_9 with|some _=>(match true,r328_1[(s328_9).toNat]? with|true,some x4=>(match aR r328_1 s328_9 with|some _=>(match true,r328_1[(s328_9).toNat]? with|true,some _=>(match aR (r328_1.set ((s328_9).toNat) x3) (i64.wrap (s328_9-1))with|some _=>(match true,(r328_1.set ((s328_9).toNat) x3)[(i64.wrap (s328_9-1)).toNat]? with|true,some _=>k 15 (Cs c l s288_7 s288_8 s328_8 (i64.wrap (s328_9-1)) ((r328_1.set ((s328_9).toNat) x3).set ((i64.wrap (s328_9-1)).toNat) x4))|_,_=>none)|none=>none)|_,_=>none)|none=>none)|_,_=>none)|none=>none)|_,_=>none)|none=>none)|false=>k 3 (qZ c l s288_7 s288_8 (i64.wrap (s328_8+1)) r328_1)))|_,_=>none)|none=>none)|_,_=>none)|none=>none)|false=>k 3 (qZ c l s288_7 s288_8 (i64.wrap (s328_8+1)) r328_1)
def gK(c:BCU)(l:List BP)(s288_7 s328_8 s328_9:Int)(r328_1:List BP)(k:KT):Option (List RV):=match decide (s328_9>s288_7)with|true=>(match aR r328_1 s328_9 with|some _=>(match true,r328_1[(s328_9).toNat]? with|true,some x1=>(match aR r328_1 (i64.wrap (s328_9-1))with|some _=>(match true,r328_1[(i64.wrap (s328_9-1)).toNat]? with|true,some x2=>(og (decide (okC 4000 c∧okP 4000 x1∧okP 4000 x2)) (match decide ((A6 (dC c) (dec x1) (dec x2))<0)with|true=>(match aR r328_1 (i64.wrap (s328_9-1))with|some _=>(match true,r328_1[(i64.wrap (s328_9-1)).toNat]? with|true,some x3=>(match aR r328_1 s328_9 with|some _=>(match true,r328_1[(s328_9).toNat]? with|true,some x4=>(match aR r328_1 s328_9 with|some _=>(match true,r328_1[(s328_9).toNat]? with|true,some _=>(match aR (r328_1.set ((s328_9).toNat) x3) (i64.wrap (s328_9-1))with|some _=>(match true,(r328_1.set ((s328_9).toNat) x3)[(i64.wrap (s328_9-1)).toNat]? with|true,some _=>k 15 (gF c l s288_7 s328_8 (i64.wrap (s328_9-1)) ((r328_1.set ((s328_9).toNat) x3).set ((i64.wrap (s328_9-1)).toNat) x4))|_,_=>none)|none=>none)|_,_=>none)|none=>none)|_,_=>none)|none=>none)|_,_=>none)|none=>none)|false=>k 3 (eL c l s288_7 (i64.wrap (s328_8+1)) r328_1)))|_,_=>none)|none=>none)|_,_=>none)|none=>none)|false=>k 3 (eL c l s288_7 (i64.wrap (s328_8+1)) r328_1)
theorem jM(c:BCU)(l:List BP)(s288_7 s328_8 s328_9:Int)(r328_1:List BP):RN iE 15 (gF c l s288_7 s328_8 s328_9 r328_1) (gK c l s288_7 s328_8 s328_9 r328_1):=rnX
def iZ(c:BCU)(l r328_1:List BP)(s288_6:Int)(k:KT):Option (List RV):=match decide (s288_6<(l.length:Int))with|true=>k 34 (D2 c l r328_1 s288_6)|false=>(match decide ((r328_1.length:Int)<2)with|true=>some [RV.new 37 tP r328_1]|false=>k 14 (ju c r328_1 1))
theorem mb(c:BCU)(l r328_1:List BP)(s288_6:Int):RN iE 22 (jC c l r328_1 s288_6) (iZ c l r328_1 s288_6):=rnX
def ja(c:BCU)(r328_1:List BP)(s195_5:Int)(k:KT):Option (List RV):=match decide (s195_5<(r328_1.length:Int))with|true=>(match aR r328_1 s195_5 with|some _=>(match true,r328_1[(s195_5).toNat]? with|true,some x1=>(match aR r328_1 (i64.wrap (s195_5-1))with|some _=>(match true,r328_1[(i64.wrap (s195_5-1)).toNat]? with|true,some x2=>(og (decide (okP 4000 x1∧okP 4000 x2)) (match aX (dec x1) (dec x2)==0 with|true=>(og (decide ((0:Int)≤s195_5∧s195_5≤(r328_1.length:Int)∧(r328_1.length:Int)≤(r328_1.length:Int))) (k 32 (d8 c r328_1 s195_5 s195_5 1 r328_1)))|false=>k 14 (ju c r328_1 (i64.wrap (s195_5+1)))))|_,_=>none)|none=>none)|_,_=>none)|none=>none)|false=>some [RV.new 37 tP r328_1]
theorem l8(c:BCU)(r328_1:List BP)(s195_5:Int):RN iE 14 (ju c r328_1 s195_5) (ja c r328_1 s195_5):=rnX
def gL(c:BCU)(r328_1:List BP)(s195_5 s195_5v s195_7:Int)(r195_1:List BP)(k:KT):Option (List RV):=match decide (s195_7<((((r328_1.length:Int):Int).toNat-(s195_5:Int).toNat:Nat):Int))with|true=>(match true,decide ((0:Int)≤s195_7∧s195_7<((((r328_1.length:Int):Int).toNat-(s195_5:Int).toNat:Nat):Int))with|true,true=>(match true,r195_1[(s195_5:Int).toNat+(s195_7).toNat]? with|true,some x1=>(match true,decide ((0:Int)≤i64.wrap (s195_7-1)∧i64.wrap (s195_7-1)<((((r328_1.length:Int):Int).toNat-(s195_5:Int).toNat:Nat):Int))with|true,true=>(match true,r195_1[(s195_5:Int).toNat+(i64.wrap (s195_7-1)).toNat]? with|true,some x2=>(og (decide (okP 4000 x1∧okP 4000 x2)) (match !(aX (dec x1) (dec x2)==0)with|true=>(match true,decide ((0:Int)≤s195_7∧s195_7<((((r328_1.length:Int):Int).toNat-(s195_5:Int).toNat:Nat):Int))with|true,true=>(match true,r195_1[(s195_5:Int).toNat+(s195_7).toNat]? with|true,some x3=>(match aR r195_1 s195_5v with|some _=>(match true,r195_1[(s195_5v).toNat]? with|true,some _=>k 32 (d8 c r328_1 s195_5 (i64.wrap (s195_5v+1)) (i64.wrap (s195_7+1)) (r195_1.set ((s195_5v).toNat) x3))|_,_=>none)|none=>none)|_,_=>none)|_,_=>none)|false=>k 32 (d8 c r328_1 s195_5 s195_5v (i64.wrap (s195_7+1)) r195_1)))|_,_=>none)|_,_=>none)|_,_=>none)|_,_=>none)|false=>(og (decide ((0:Int)≤s195_5v∧s195_5v≤(r195_1.length:Int)∧(r195_1.length:Int)≤(r195_1.length:Int))) (og (decide ((0:Int)≤0∧0≤s195_5v∧s195_5v≤((jA (Ty.zero tP) ((s195_5v:Int).toNat) (((r195_1.length:Int):Int).toNat-(s195_5v:Int).toNat) r195_1).length:Int))) (some [RV.d (.sl tP) (((jA (Ty.zero tP) ((s195_5v:Int).toNat) (((r195_1.length:Int):Int).toNat-(s195_5v:Int).toNat) r195_1).drop ((0:Int).toNat)).take ((s195_5v:Int).toNat-(0:Int).toNat))])))
theorem jE(c:BCU)(r328_1:List BP)(s195_5 s195_5v s195_7:Int)(r195_1:List BP):RN iE 32 (d8 c r328_1 s195_5 s195_5v s195_7 r195_1) (gL c r328_1 s195_5 s195_5v s195_7 r195_1):=rnX
theorem nG{α:Type}(L:List α)(x:α)(T:List α):(L++x::T)[L.length]?=some x:=by simp
theorem BK{α:Type}(x y:α)(T:List α):∀L:List α,(L++x::T).set L.length y=L++y::T
 |[]=>rfl
 |a::L=>by simp[BK x y T L]
section
variable (c:BCU) (l:List BP)
def afJ(ys:List BP)(r:List RV):Prop:=r=[.new 37 tP ys]∨r=[.d (.sl tP) ys]
abbrev qR(i:Nat)(g:Cfg)(ys:List BP):Prop:=∃r,iE.Runs i g r∧afJ ys r
end
section
variable (c:BCU) (l:List BP) (hc:okC 4000 c)
include hc
theorem zj(hl:l.length≤19)(i:Nat)(ys:List BP):∀(L:List BP) (a:BP) (R:List BP),(∀x∈L,okP 4000 x)→okP 4000 a→(L.reverse++a::R).length≤19→i≤19→
  qR 3 (eL c l 0 ((i+1:Nat):Int) ((ll (ltP (dC c)) L a).reverse++R)) ys→qR 15 (gF c l 0 (i:Int) (L.length:Int) (L.reverse++a::R)) ys
 |[],a,R,hL,ha,h19,hi,⟨r,⟨n,hn⟩,hr⟩=>by
  refine⟨r,jM _ _ _ _ _ _ ⟨n,?_⟩,hr⟩
  unfold gK
  rw[dF (show ¬((([]:List BP).length:Nat):Int)>0 by simp),bV (by omega)]
  exact hn
 |b::L,a,R,hL,ha,h19,hi,hnext=>by
  have hb:=hL b (by simp)
  have hln:L.length≤18:=by simp at h19;omega
  have hrev:(b::L).reverse++a::R=L.reverse++b::a::R:=by simp
  have e1:((b::L).length:Int)=((L.length+1:Nat):Int):=rfl
  have ew:i64.wrap (((L.length+1:Nat):Int)-1)=(L.length:Int):=by rw[aT (by omega) (by omega)];omega
  have g1:(L.reverse++b::a::R)[L.length+1]?=some a:=by
   simp
  have g0:(L.reverse++b::a::R)[L.length]?=some b:=by
   simp
  have s1:(L.reverse++b::a::R).set (L.length+1) b=L.reverse++b::b::R:=by
   simp
  have s2:(L.reverse++b::b::R).set L.length a=L.reverse++a::b::R:=by
   simp
  have g2:(L.reverse++b::b::R)[L.length]?=some b:=by
   simp
  have key:∀r n,(match ltP (dC c) a b with
    |true=>iE.k n 15 (gF c l 0 (i:Int) (L.length:Int) (L.reverse++a::b::R))
    |false=>iE.k n 3 (eL c l 0 ((i+1:Nat):Int) (L.reverse++b::a::R)))=some r→
    gK c l 0 (i:Int) ((b::L).length:Int) ((b::L).reverse++a::R) (iE.k n)=some r:=fun r n h=>by
   rw[hrev,e1]
   unfold gK
   rw[dT (show((L.length+1:Nat):Int)>0 by omega),ew,ao,g1,ao,g0,show((L.length+1:Nat):Int).toNat=L.length+1 by omega,show((L.length:Nat):Int).toNat=L.length by omega,g1,g0]
   dsimp only
   rw[dT (show okC 4000 c∧okP 4000 a∧okP 4000 b from⟨hc,ha,hb⟩),s1,ao,g2,s2,bV (by omega)]
   dsimp only
   unfold ltP at h
   exact h
  unfold ll at hnext
  cases hlt:ltP (dC c) a b
  ·rw[hlt,cond_false]at hnext
   obtain⟨r,⟨n,hn⟩,hr⟩:=hnext
   refine⟨r,jM _ _ _ _ _ _ ⟨n,key r n ?_⟩,hr⟩
   rw[hlt]
   simpa using hn
  ·rw[hlt,cond_true]at hnext
   obtain⟨r,⟨n,hn⟩,hr⟩:=zj hl i ys L a (b::R) (fun x hx=>hL x (alV _ hx)) ha (by simp at h19 ⊢;omega) hi (by simpa using hnext)
   refine⟨r,jM _ _ _ _ _ _ ⟨n,key r n ?_⟩,hr⟩
   rw[hlt]
   exact hn
theorem z7(hl:l.length≤19)(ys:List BP):∀(R D:List BP),(∀x∈D,okP 4000 x)→(∀x∈R,okP 4000 x)→D.length+R.length=l.length→
  qR 22 (jC c l (R.foldl (ll (ltP (dC c))) D).reverse 20) ys→qR 3 (eL c l 0 (D.length:Int) (D.reverse++R)) ys
 |[],D,hD,hR,hlen,⟨r,⟨n,hn⟩,hr⟩=>by
  refine⟨r,kv _ _ _ _ _ ⟨n,?_⟩,hr⟩
  unfold iw
  rw[b9 (by simp at hlen;omega),ame]
  exact hn
 |a::R,D,hD,hR,hlen,hnext=>by
  have ha:=hR a (by simp)
  have hlen':D.length+(R.length+1)=l.length:=hlen
  have h1:=z7 hl ys R (ll (ltP (dC c)) D a) (fun x hx=>by
   rcases mE.1 hx with e|e
   ·rw[e];exact ha
   ·exact hD x e) (fun x hx=>hR x (alV _ hx)) (by rw[sQ];omega) hnext
  rw[sQ]at h1
  obtain⟨r,⟨n,hn⟩,hr⟩:=zj c l hc hl D.length ys D a R hD ha (by simp;omega) (by omega) h1
  refine⟨r,kv _ _ _ _ _ ⟨n,?_⟩,hr⟩
  unfold iw
  rw[bH (by omega)]
  exact hn
omit hc in
theorem t4(r0:List BP)(b:Nat)(h19:r0.length≤19):∀(S K J:List BP) (p:BP),(∀x∈K++(J++p::S),okP 4000 x)→(K++(J++p::S)).length=r0.length→∀k2:Nat,1≤k2→b+k2=K.length+J.length+1→
  qR 32 (d8 c r0 (b:Int) (K.length:Int) (k2:Int) (K++(J++p::S))) (K++jD ia p S)
 |[],K,J,p,hok,hlen,k2,h1,hb=>by
  refine⟨_,jE _ _ _ _ _ _ ⟨0,?_⟩,.inr rfl⟩
  have hlen':K.length+(J.length+1)=r0.length:=by simpa using hlen
  unfold gL
  rw[dF (show ¬(k2:Int)<(((r0.length:Int).toNat-(b:Int).toNat:Nat):Int) by omega)]
  dsimp only
  rw[dT (show(0:Int)≤(K.length:Int)∧(K.length:Int)≤((K++(J++[p])).length:Int)∧((K++(J++[p])).length:Int)≤((K++(J++[p])).length:Int) by rw[hlen];omega)]
  have hcl:((jA (Ty.zero tP) ((K.length:Int).toNat) ((((K++(J++[p])).length:Int)).toNat-(K.length:Int).toNat) (K++(J++[p])))).take K.length=K:=by
   unfold jA
   rw[show((K.length:Int)).toNat=K.length by omega,al7,List.take_append_of_le_length (by simp),aoP,Nat.min_self,List.take_left' rfl]
  have hcn:K.length≤(jA (Ty.zero tP) ((K.length:Int).toNat) ((((K++(J++[p])).length:Int)).toNat-(K.length:Int).toNat) (K++(J++[p]))).length:=by
   have:=congrArg List.length hcl
   rw[ams]at this
   omega
  rw[dT (show(0:Int)≤0∧0≤(K.length:Int)∧(K.length:Int)≤((jA (Ty.zero tP) ((K.length:Int).toNat) ((((K++(J++[p])).length:Int)).toNat-(K.length:Int).toNat) (K++(J++[p]))).length:Int) by omega)]
  rw[show((0:Int)).toNat=0 from rfl,ann,show((K.length:Int)).toNat-0=K.length by omega,hcl]
  simp[jD]
 |q::S,K,J,p,hok,hlen,k2,h1,hb=>by
  have hlen':K.length+(J.length+(S.length+1+1))=r0.length:=by simpa using hlen
  have hq:okP 4000 q:=hok q (by simp)
  have hp:okP 4000 p:=hok p (by simp)
  have g1:(K++(J++p::q::S))[(b:Int).toNat+(k2:Int).toNat]?=some q:=by
   rw[show(b:Int).toNat+(k2:Int).toNat=(K++(J++[p])).length by simp;omega]
   simp
  have ew:i64.wrap ((k2:Int)-1)=((k2-1:Nat):Int):=by rw[aT (by omega) (by omega)];omega
  have g0:(K++(J++p::q::S))[(b:Int).toNat+((k2-1:Nat):Int).toNat]?=some p:=by
   rw[show(b:Int).toNat+((k2-1:Nat):Int).toNat=(K++J).length by simp;omega]
   simp
  have key:∀r n,(match ia q p with
    |true=>iE.k n 32 (d8 c r0 (b:Int) (K.length:Int) ((k2+1:Nat):Int) (K++(J++p::q::S)))
    |false=>iE.k n 32 (d8 c r0 (b:Int) ((K.length+1:Nat):Int) ((k2+1:Nat):Int) ((K++(J++p::q::S)).set K.length q)))=some r→
    gL c r0 (b:Int) (K.length:Int) (k2:Int) (K++(J++p::q::S)) (iE.k n)=some r:=fun r n h=>by
   unfold gL
   rw[dT (show(k2:Int)<(((r0.length:Int).toNat-(b:Int).toNat:Nat):Int) by omega)]
   dsimp only
   rw[dT (show(0:Int)≤(k2:Int)∧(k2:Int)<(((r0.length:Int).toNat-(b:Int).toNat:Nat):Int) by omega),g1]
   dsimp only
   rw[ew,dT (show(0:Int)≤((k2-1:Nat):Int)∧((k2-1:Nat):Int)<(((r0.length:Int).toNat-(b:Int).toNat:Nat):Int) by omega),g0]
   dsimp only
   rw[dT (show okP 4000 q∧okP 4000 p from⟨hq,hp⟩),bV (k:=k2) (by omega)]
   unfold ia at h
   cases he:aX (dec q) (dec p)==0<;>rw[he]at h
   ·try dsimp only[Bool.not_false]
    have g3:∃y,(K++(J++p::q::S))[K.length]?=some y:=⟨_,alG (by simp;omega)⟩
    obtain⟨y,g3⟩:=g3
    rw[ao,g3,show((K.length:Int)).toNat=K.length by omega,g3,bV (k:=K.length) (by omega)]
    exact h
   ·exact h
  have hcm:jD ia p (q::S)=bif ia q p then jD ia q S else q::jD ia q S:=rfl
  rw[hcm]
  cases he:ia q p
  ·have hset:∃J',(K++(J++p::q::S)).set K.length q=(K++[q])++(J'++q::S)∧J'.length=J.length∧∀x∈J',x∈J++[p]:=by
    cases J with
    |nil=>
     refine⟨[],?_,rfl,fun x hx=>by cases hx⟩
     simp
    |cons h T=>
     refine⟨T++[p],?_,by simp,fun x hx=>by simp at hx ⊢;exact .inr hx⟩
     simp
   obtain⟨J',e,eJ,mJ⟩:=hset
   obtain⟨r,⟨n,hn⟩,hr⟩:=t4 r0 b h19 S (K++[q]) J' q (fun x hx=>by
    simp only[amr,al0,amZ,aob]at hx
    rcases hx with(hx|hx)|(hx|hx|hx)
    ·exact hok x (by simp[hx])
    ·rw[hx];exact hq
    ·have:=mJ x hx
     simp only[amr,al0,amZ,aob]at this
     rcases this with h|h
     ·exact hok x (by simp[h])
     ·rw[h];exact hp
    ·rw[hx];exact hq
    ·exact hok x (by simp[hx])) (by simp;omega) (k2+1) (by omega) (by simp;omega)
   refine⟨r,jE _ _ _ _ _ _ ⟨n,key r n ?_⟩,?_⟩
   ·rw[he,e]
    have:(K++[q]).length=K.length+1:=by simp
    rw[this]at hn
    exact hn
   ·simpa using hr
  ·have e2:K++(J++p::q::S)=K++((J++[p])++q::S):=by simp
   obtain⟨r,⟨n,hn⟩,hr⟩:=t4 r0 b h19 S K (J++[p]) q (e2▸hok) (e2▸hlen) (k2+1) (by omega) (by simp;omega)
   refine⟨r,jE _ _ _ _ _ _ ⟨n,key r n ?_⟩,hr⟩
   rw[he,e2]
   exact hn
omit hc in
theorem zX:∀(S A:List BP) (p:BP),(∀x∈A++p::S,okP 4000 x)→(A++p::S).length≤19→
  qR 14 (ju c (A++p::S) ((A.length+1:Nat):Int)) (A++p::jD ia p S)
 |[],A,p,hok,h19=>by
  refine⟨_,l8 _ _ _ ⟨0,?_⟩,.inl rfl⟩
  unfold ja
  rw[b9 (by simp)]
  rfl
 |q::S,A,p,hok,h19=>by
  have hq:okP 4000 q:=hok q (by simp)
  have hp:okP 4000 p:=hok p (by simp)
  have h19':A.length+(S.length+1+1)≤19:=by simpa using h19
  have g1:(A++p::q::S)[A.length+1]?=some q:=by
   simp
  have g0:(A++p::q::S)[A.length]?=some p:=nG A p (q::S)
  have ew:i64.wrap (((A.length+1:Nat):Int)-1)=(A.length:Int):=by rw[aT (by omega) (by omega)];omega
  have key:∀r n,(match ia q p with
    |true=>iE.k n 32 (d8 c (A++p::q::S) ((A.length+1:Nat):Int) ((A.length+1:Nat):Int) 1 (A++p::q::S))
    |false=>iE.k n 14 (ju c (A++p::q::S) ((A.length+1+1:Nat):Int)))=some r→
    ja c (A++p::q::S) ((A.length+1:Nat):Int) (iE.k n)=some r:=fun r n h=>by
   unfold ja
   rw[bH (by simp only[amf,alY];omega),ao,g1,show((A.length+1:Nat):Int).toNat=A.length+1 by omega,g1]
   dsimp only
   rw[ew,ao,g0,show((A.length:Nat):Int).toNat=A.length by omega,g0]
   dsimp only
   rw[dT (show okP 4000 q∧okP 4000 p from⟨hq,hp⟩),bV (k:=A.length+1) (by omega),dT (show(0:Int)≤((A.length+1:Nat):Int)∧((A.length+1:Nat):Int)≤((A++p::q::S).length:Int)∧((A++p::q::S).length:Int)≤((A++p::q::S).length:Int) by simp;omega)]
   exact h
  have hcm:jD ia p (q::S)=bif ia q p then jD ia q S else q::jD ia q S:=rfl
  have e2:A++p::q::S=(A++[p])++q::S:=by simp
  rw[hcm]
  cases he:ia q p
  ·obtain⟨r,⟨n,hn⟩,hr⟩:=zX S (A++[p]) q (e2▸hok) (e2▸h19)
   refine⟨r,l8 _ _ _ ⟨n,key r n ?_⟩,?_⟩
   ·rw[he,e2]
    have:(A++[p]).length=A.length+1:=by simp
    rw[this]at hn
    exact hn
   ·rw[al7]at hr
    exact hr
  ·obtain⟨r,⟨n,hn⟩,hr⟩:=t4 c (A++p::q::S) (A.length+1) h19 S (A++[p]) [] q (e2▸hok) (by rw[e2];rfl) 1 (alL _) (by simp)
   refine⟨r,l8 _ _ _ ⟨n,key r n ?_⟩,?_⟩
   ·rw[he,e2]
    have:(A++[p]).length=A.length+1:=by simp
    rw[this,e2]at hn
    exact hn
   ·rw[al7]at hr
    exact hr
theorem TW(hl:l.length≤19)(ho:∀x∈l,okP 4000 x):qR 6 (rg c l 0 20 l) (df (dC c) l):=by
 have hlast:∀r:List BP,(∀x∈r,okP 4000 x)→r.length≤19→qR 22 (jC c l r 20) (vH ia r):=fun r hr h19=>by
  cases r with
  |nil=>
   refine⟨_,mb _ _ _ _ ⟨0,?_⟩,.inl rfl⟩
   unfold iZ
   rw[dF (show ¬(20:Int)<(l.length:Int) by omega)]
   rfl
  |cons p S=>
   cases S with
   |nil=>
    refine⟨_,mb _ _ _ _ ⟨0,?_⟩,.inl rfl⟩
    unfold iZ
    rw[dF (show ¬(20:Int)<(l.length:Int) by omega)]
    rfl
   |cons q S=>
    obtain⟨r',⟨n,hn⟩,hr'⟩:=zX c (q::S) [] p hr h19
    refine⟨r',mb _ _ _ _ ⟨n,?_⟩,hr'⟩
    unfold iZ
    rw[dF (show ¬(20:Int)<(l.length:Int) by omega)]
    dsimp only
    rw[dF (show ¬((p::q::S).length:Int)<2 by simp;omega)]
    simpa using hn
 have hsort:qR 22 (jC c l (sG (ltP (dC c)) l) 20) (df (dC c) l):=hlast _ (fun x hx=>ho x (pe.1 hx)) (by rw[DR];exact hl)
 have h3:qR 3 (eL c l 0 1 l) (df (dC c) l):=by
  cases l with
  |nil=>
   obtain⟨r,⟨n,hn⟩,hr⟩:=hsort
   refine⟨r,kv _ _ _ _ _ ⟨n,?_⟩,hr⟩
   unfold iw
   rw[dF (show ¬(1:Int)<(([]:List BP).length:Int) by simp)]
   exact hn
  |cons x l=>
   have:=z7 c (x::l) hc hl _ l [x] (fun y hy=>ho y (by simp at hy;simp[hy])) (fun y hy=>ho y (alV _ hy)) (by simp;omega) hsort
   simpa using this
 obtain⟨r,⟨n,hn⟩,hr⟩:=h3
 refine⟨r,Aj _ _ _ _ _ ⟨n,?_⟩,hr⟩
 unfold tF
 rw[dF (show ¬(20:Int)≤(l.length:Int) by omega),aT (x:=0+1) (by omega) (by omega)]
 exact hn
end
def PP:Cn 90 [tCU,(.sl tP)]:=cn fun(c:BCU) (l:List BP)=>lf (lh c l) [.d (.sl tP) (df (dC c) l)] fun h=>by
 obtain⟨hc,hl,ho⟩:=h
 obtain⟨r,⟨n,hn⟩,hr⟩:=TW c l hc hl ho
 have hres:iE.Res 90 [.d tCU c,.d (.sl tP) l] r:=by
  refine afj _ _ ⟨n,?_⟩
  unfold XR
  rw[dT (show l.length≤100000 by omega)]
  exact hn
 rcases hr with e|e
 ·rw[e]at hres
  exact Con.new_d (et:=37) (cZ F5 hres)
 ·rw[e]at hres
  exact cZ F5 hres
end
section
def xe(c d:BCU)(l:List BP):Prop:=lh c l∧okC 4000 d
instance (c d:BCU) (l:List BP):Decidable (xe c d l):=by unfold xe;infer_instance
theorem aam(d:BCU):(dU d).1=d.1:=by
 unfold dU
 cases d.2.2.2.1<;>rfl
theorem Jk{k:Nat}{d:BCU}(h:okC k d):okC k (dU d):=by
 unfold dU
 cases d.2.2.2.1
 ·exact h
 ·exact PU k h
theorem Bt{c:BCU}(hc:okC 4000 c):∀{L:List BP} {f:BP},okP 4000 f→(∀x∈L,okP 4000 x)→∀p∈yQ c f L,okC 4000 p
 |[],f,hf,_,p,hp=>by
  rw[an8.1 hp]
  exact⟨hc.1,hc.2.1,hf,hc.2.2.2⟩
 |x::r,f,hf,hL,p,hp=>by
  have hx:=hL x (by simp)
  have hr:∀y∈r,okP 4000 y:=fun y hy=>hL y (alV _ hy)
  unfold yQ at hp
  cases h:ia x c.2.2.2.2.1||ia x c.2.2.2.2.2<;>rw[h]at hp
  ·rcases al0.1 hp with e|e
   ·rw[e];exact⟨hc.1,hc.2.1,hf,hx⟩
   ·exact Bt hc hx hr p e
  ·exact Bt hc hf hr p hp
theorem Ta{c:BCU}{l:List BP}(h:lh c l):(rO c l).length≤20∧∀p∈rO c l,okC 4000 p:=by
 obtain⟨hc,hl,ho⟩:=h
 have hs:∀x∈df (dC c) l,okP 4000 x:=fun x hx=>ho x (jv hx)
 have hn:(df (dC c) l).length≤l.length:=oO
 have len:∀(L:List BP) (f:BP),(yQ c f L).length≤L.length+1:=by
  intro L
  induction L with
  |nil=>intro f;simp[yQ]
  |cons x r ih=>
   intro f
   unfold yQ
   cases ia x c.2.2.2.2.1||ia x c.2.2.2.2.2
   ·have:=ih x;simp only[cond_false,alY];omega
   ·have:=ih f;simp only[cond_true,alY];omega
 unfold rO
 cases abd c l
 ·refine⟨?_,Bt hc hc.2.2.1 hs⟩
  have:=len (df (dC c) l) c.2.2.2.2.1
  simp only[cond_false]
  unfold aah
  omega
 ·exact⟨by simp,fun p hp=>by cases hp⟩
def Q3:List En:=[enT HV,enT Pz,enK PP]
def ads:NT:=[((188,6),{keep:=[0,1,7,8],hl:=1}),((197,18),{keep:=[2,6,7,17,18,19],own:=[(6,39,tCU)],hl:=3}),((197,4),{keep:=[1,2,13],hl:=0}),((289,3),{keep:=[7],hl:=0}),((188,18),{keep:=[0,1,5,7,8,16],hl:=0})]
def DV:Ctx:=CX (ens Q3) ads
def nL(c:BCU)(l:List BP)(s188_8:Int):Cfg:=⟨188,[.blk 0,.seq 25],[(0,.d (.sl tP) l),(1,.clo 290 [0]),(7,SI (l.length:Int)),(8,SI s188_8)],[.box 39 (Ty.split tCU c)],1,[⟨289,[.seq 4],3,2,[],1,none⟩,⟨197,[.seq 5,.seq 10],4,2,[(1,.d (.sl tP) l),(2,.box 0 0)],0,none⟩]⟩
def qe(c:BCU)(l:List BP)(s19:Int)(B1:BCU)(r2:List BCU):Cfg:=⟨197,[.blk 0,.seq 41],[(2,.box 0 0),(6,.own 2),(7,.box 1 0),(17,.d (.sl tP) (df (dC c) l)),(18,SI ((df (dC c) l).length:Int)),(19,SI s19)],[.box 39 (Ty.split tCU c),.box 39 (Ty.split tCU B1),.row 39 tCU r2],0,[]⟩
def ahe(c:BCU)(l:List BP)(k:KT):Option (List RV):=k 6 (nL c l 0)
theorem aea(c:BCU)(l:List BP):RS DV 197 [.d tCU c,.d (.sl tP) l] (ahe c l):=rsX
def nw(c:BCU)(l:List BP)(s188_8:Int)(k:KT):Option (List RV):=match decide (s188_8<(l.length:Int))with|true=>(match aR l s188_8 with|some x1=>(match decide (okC 4000 c∧okP 4000 x1)with|true=>(match !(onP (dC c) (dec x1))with|true=>(match decide (s188_8≥0)with|true=>some [RV.d (.sl tCU) ([]),RV.d aoX 1]|false=>(match decide (lh c l)with|true=>none|false=>none))|false=>k 6 (nL c l (i64.wrap (s188_8+1))))|false=>none)|none=>none)|false=>(match decide ((-1)≥0)with|true=>some [RV.d (.sl tCU) ([]),RV.d aoX 1]|false=>(match decide (lh c l)with|true=>k 18 (qe c l 0 c ([]))|false=>none))
theorem tv(c:BCU)(l:List BP)(s188_8:Int):RN DV 6 (nL c l s188_8) (nw c l s188_8):=rnX
def uv(c:BCU)(l:List BP)(s19:Int)(B1:BCU)(r2:List BCU)(k:KT):Option (List RV):=match decide (s19<((df (dC c) l).length:Int))with|true=>(match aR (df (dC c) l) s19 with|some x1=>(match decide (okP 4000 x1∧okP 4000 c.2.2.2.2.1)with|true=>(match aX (dec x1) (dec c.2.2.2.2.1)==0 with|true=>k 18 (qe c l (i64.wrap (s19+1)) B1 r2)|false=>(match decide (okP 4000 x1∧okP 4000 c.2.2.2.2.2)with|true=>(match aX (dec x1) (dec c.2.2.2.2.2)==0 with|true=>k 18 (qe c l (i64.wrap (s19+1)) B1 r2)|false=>dup (.b .l .l) (match decide ((r2.length+([(B1.1,(B1.2.1,(B1.2.2.1,(B1.2.2.2.1,(B1.2.2.2.2.1,x1)))))]).length)*1040≤140737488355328∧r2.length+([(B1.1,(B1.2.1,(B1.2.2.1,(B1.2.2.2.1,(B1.2.2.2.2.1,x1)))))]).length≤140737488355328)with|true=>k 18 (qe c l (i64.wrap (s19+1)) (B1.1,(B1.2.1,(B1.2.2.1,(B1.2.2.2.1,(x1,B1.2.2.2.2.2))))) (r2++([(B1.1,(B1.2.1,(B1.2.2.1,(B1.2.2.2.1,(B1.2.2.2.2.1,x1)))))])))|false=>none))|false=>none))|false=>none)|none=>none)|false=>(match decide ((r2.length+([B1]).length)*1040≤140737488355328∧r2.length+([B1]).length≤140737488355328)with|true=>some [RV.d (.sl tCU) (r2++([B1])),RV.d aoX 0]|false=>none)
theorem zs(c:BCU)(l:List BP)(s19:Int)(B1:BCU)(r2:List BCU):RN DV 18 (qe c l s19 B1 r2) (uv c l s19 B1 r2):=rnX
section
variable (c:BCU) (l:List BP) (h:lh c l)
include h
theorem Jc:∀(L:List BP) (i:Nat),(df (dC c) l).drop i=L→i≤(df (dC c) l).length→∀(f:BP) (r2:List BCU),r2.length≤i→DV.Runs 18 (qe c l (i:Int) (BZ c f c.2.2.2.2.2) r2) [.d (.sl tCU) (r2++yQ c f L),.d aoX (0:Int)]
 |[],i,hd,hi,f,r2,hr=>by
  have hn:(df (dC c) l).length≤l.length:=oO
  have hl:=h.2.1
  have hlen:=congrArg List.length hd
  rw[an4,List.length_nil]at hlen
  refine zs _ _ _ _ _ ⟨0,?_⟩
  unfold uv
  rw[b9 (by omega),al6,Al (by omega) (by omega)]
  rfl
 |x::r,i,hd,hi,f,r2,hr=>by
  have hn:(df (dC c) l).length≤l.length:=oO
  have hl:=h.2.1
  have hlen:=congrArg List.length hd
  rw[an4,alY]at hlen
  have hil:i<(df (dC c) l).length:=by omega
  have hd2:=al1 hil
  rw[hd2]at hd
  injection hd with e1 e2
  have hx:okP 4000 x:=by rw[←e1];exact h.2.2 _ (jv (amh hil))
  have g1:aR (df (dC c) l) (i:Int)=some x:=by rw[ao,alG hil,e1]
  have ih:=Jc r (i+1) e2 (by omega)
  refine zs _ _ _ _ _ ?_
  unfold uv yQ
  rw[bH hil,g1,bV (by omega)]
  dsimp only
  rw[dT (show okP 4000 x∧okP 4000 c.2.2.2.2.1 from⟨hx,h.1.2.2.1⟩),dT (show okP 4000 x∧okP 4000 c.2.2.2.2.2 from⟨hx,h.1.2.2.2⟩)]
  unfold ia
  cases q1:aX (dec x) (dec c.2.2.2.2.1)==0
  ·cases q2:aX (dec x) (dec c.2.2.2.2.2)==0
   ·obtain⟨n,hn⟩:=ih x (r2++[BZ c f x]) (by simp;omega)
    refine⟨n,?_⟩
    rw[al7]at hn
    simp only[eU]
    rw[al6,Al (by omega) (by omega)]
    exact hn
   ·exact ih f r2 (by omega)
  ·exact ih f r2 (by omega)
theorem abG:∀(j i:Nat),i+j=l.length→DV.Runs 6 (nL c l (i:Int)) [.d (.sl tCU) (bif (l.drop i).any (fun p=>!onP (dC c) (dec p))then []else aah c l),.d aoX (bif (l.drop i).any (fun p=>!onP (dC c) (dec p))then(1:Int)else 0)]:=by
 intro j
 have hl:=h.2.1
 induction j with
 |zero=>
  intro i hi
  obtain⟨n,hn⟩:=Jc c l h (df (dC c) l) 0 rfl (aoc _) c.2.2.2.2.1 [] (alL _)
  refine tv _ _ _ ⟨n,?_⟩
  unfold nw
  rw[b9 (by omega),o0 (by omega)]
  dsimp only
  rw[dF (show ¬(-1:Int)≥0 by decide),dT h]
  exact hn
 |succ j ih=>
  intro i hi
  have hil:i<l.length:=by omega
  obtain⟨n,hn⟩:=ih (i+1) (by omega)
  refine tv _ _ _ ⟨n,?_⟩
  unfold nw
  rw[bH hil,ao,alG hil,gh hil,aoK,bV (by omega)]
  dsimp only
  rw[dT (show okC 4000 c∧okP 4000 l[i] from⟨h.1,h.2.2 _ (amh _)⟩)]
  cases onP (dC c) (dec l[i])
  ·dsimp only[Bool.not_false]
   rw[dT (show(i:Int)≥0 by omega)]
   rfl
  ·exact hn
end
def aeS:Cn 197 [tCU,(.sl tP)]:=cn fun(c:BCU) (l:List BP)=>lf (lh c l) [.d (.sl tCU) (rO c l),.d aoX (aj9 c l)] fun h=>by
 have q:=abG c l h l.length 0 (aml _)
 exact cZ Q3 (aea _ _ q)
def acA:List En:=[enT HV,enT Pz,enL Wj,enT R6]
def YI(d p:BCU)(_k:KT):Option (List RV):=og (decide (okC 4000 d∧okP 4000 p.2.2.2.2.1)) (match !(onP (dC d) (dec p.2.2.2.2.1))with|true=>some [RV.d .bool false]|false=>(og (decide (okC 4000 d∧okP 4000 p.2.2.2.2.2)) (match !(onP (dC d) (dec p.2.2.2.2.2))with|true=>some [RV.d .bool false]|false=>(match !d.1 with|true=>some [RV.d .bool true]|false=>(og (decide (okP 4000 ((((((hid (dU p)).2).2).2).2).1)∧okP 4000 ((((((hid (dU d)).2).2).2).2).2))) (match aX (dec ((((((hid (dU p)).2).2).2).2).1)) (dec ((((((hid (dU d)).2).2).2).2).2))==0 with|true=>some [RV.d .bool false]|false=>(og (decide (ok Ln 300 ((((hid (dU d)).2).2).1)∧okP 4000 ((((((hid (dU p)).2).2).2).2).1)∧okP 4000 ((((((hid (dU p)).2).2).2).2).2)∧okP 4000 ((((((hid (dU d)).2).2).2).2).2))) (some [RV.d .bool (decide ((gC a8 (ptd (dec ((((hid (dU d)).2).2).1)) (dec ((((((hid (dU p)).2).2).2).2).1))) (ptd (dec ((((hid (dU d)).2).2).1)) (dec ((((((hid (dU p)).2).2).2).2).2))) (ptd (dec ((((hid (dU d)).2).2).1)) (dec ((((((hid (dU d)).2).2).2).2).2))))≤0))]))))))))
def aeW:Cn 199 [tCU,tCU]:=cn fun(d p:BCU)=>lf (okC 4000 d∧okC 4000 p) [.d .bool (Eo d p)] fun h=>by
 refine aA acA (YI d p) ⟨0,?_⟩
 obtain⟨hd,hp⟩:=h
 have hd':=Jk hd
 have hp':=Jk hp
 unfold YI Eo frB toB ia
 simp only[bO]
 rw[dT (show okC 4000 d∧okP 4000 p.2.2.2.2.1 from⟨hd,hp.2.2.1⟩),dT (show okC 4000 d∧okP 4000 p.2.2.2.2.2 from⟨hd,hp.2.2.2⟩)]
 cases onP (dC d) (dec p.2.2.2.2.1)
 ·rfl
 ·cases onP (dC d) (dec p.2.2.2.2.2)
  ·rfl
  ·cases ha:d.1
   ·rfl
   ·rw[dT (show okP 4000 (dU p).2.2.2.2.1∧okP 4000 (dU d).2.2.2.2.2 from⟨hp'.2.2.1,hd'.2.2.2⟩),dT (show ok Ln 300 (dU d).2.2.1∧okP 4000 (dU p).2.2.2.2.1∧okP 4000 (dU p).2.2.2.2.2∧okP 4000 (dU d).2.2.2.2.2 from⟨(hd'.1 ((aam d).trans ha)).1,hp'.2.2.1,hp'.2.2.2,hd'.2.2.2⟩)]
    cases aX (dec (dU p).2.2.2.2.1) (dec (dU d).2.2.2.2.2)==0<;>rfl
def Su:List En:=[enK aeS,enT aeW]
def aaU:NT:=[((69,6),{keep:=[0,1,7,8],hl:=2}),((91,5),{keep:=[17],hl:=0}),((71,3),{keep:=[7],hl:=0}),((69,18),{keep:=[0,1,5,7,8,16],hl:=0})]
def Md:Ctx:=CX (ens Su) aaU
def qu(c d:BCU)(l:List BP)(s69_8:Int):Cfg:=⟨69,[.blk 0,.seq 25],[(0,.d (.sl tCU) (rO c l)),(1,.clo 198 [1]),(7,SI ((rO c l).length:Int)),(8,SI s69_8)],[.box 39 (Ty.split tCU c),.box 39 (Ty.split tCU d)],2,[⟨71,[.seq 4],3,2,[],2,none⟩,⟨91,[.seq 6],5,2,[],0,none⟩]⟩
def Xp(c d:BCU)(l:List BP)(k:KT):Option (List RV):=og (decide (lh c l)) (k 6 (qu c d l 0))
theorem aiG(c d:BCU)(l:List BP):RS Md 91 [.d tCU c,.d tCU d,.d (.sl tP) l] (Xp c d l):=rsX
def pq(c d:BCU)(l:List BP)(s69_8:Int)(k:KT):Option (List RV):=match decide (s69_8<((rO c l).length:Int))with|true=>(match aR (rO c l) s69_8 with|some x1=>(og (decide (okC 4000 d∧okC 4000 x1)) (match Eo d x1 with|true=>some [RV.d .bool (decide (s69_8≥0))]|false=>k 6 (qu c d l (i64.wrap (s69_8+1)))))|none=>none)|false=>some [RV.d .bool (decide ((-1)≥0))]
theorem vm(c d:BCU)(l:List BP)(s69_8:Int):RN Md 6 (qu c d l s69_8) (pq c d l s69_8):=rnX
theorem acU(c d:BCU)(l:List BP)(h:xe c d l):∀(j i:Nat),i+j=(rO c l).length→Md.Runs 6 (qu c d l (i:Int)) [.d .bool (((rO c l).drop i).any (Eo d))]:=by
 obtain⟨hn,ho⟩:=Ta h.1
 intro j
 induction j with
 |zero=>
  intro i hi
  refine vm _ _ _ _ ⟨0,?_⟩
  unfold pq
  rw[b9 (by omega),o0 (by omega)]
  rfl
 |succ j ih=>
  intro i hi
  have hil:i<(rO c l).length:=by omega
  obtain⟨n,hn⟩:=ih (i+1) (by omega)
  refine vm _ _ _ _ ⟨n,?_⟩
  unfold pq
  rw[bH hil,ao,alG hil,gh hil,aoK,bV (by omega)]
  dsimp only
  rw[dT (show okC 4000 d∧okC 4000 (rO c l)[i] from⟨h.2,ho _ (amh _)⟩)]
  cases Eo d (rO c l)[i]
  ·exact hn
  ·dsimp only
   rw[dT (show(i:Int)≥0 by omega)]
   rfl
def WT:Cn 91 [tCU,tCU,(.sl tP)]:=cn fun(c d:BCU) (l:List BP)=>lf (xe c d l) [.d .bool (wZ c d l)] fun h=>by
 obtain⟨n,hn⟩:=acU c d l h (rO c l).length 0 (aml _)
 refine cZ Su (aiG _ _ _ ⟨n,?_⟩)
 unfold Xp
 rw[dT h.1]
 exact hn
end
section
theorem DB{c d:BCU}(h:gj c d):(jF c d).length≤4∧∀x∈jF c d,okP 4000 x:=by
 obtain⟨⟨h1,h2⟩,h3,h4⟩:=h
 have up:∀{k x},okP k x→k≤4000→okP 4000 x:=fun h hk=>cK h hk (by decide)
 unfold jF
 cases hs:cC (dC c) (dC d)
 ·refine⟨?_,fun x hx=>?_⟩
  ·simp only[cond_false,anq]
   have:∀l c,[BdL l]→[BdC c]→(kE l c).length≤4:=fun l c _ _=>alU sO.1 (by decide)
   obtain⟨c1,c2⟩:=jH h2
   obtain⟨d1,d2⟩:=jH h4
   have ec:(dC c).1=c.1:=rfl
   have ed:(dC d).1=d.1:=rfl
   unfold gi
   rw[ec,ed]
   cases ha:c.1<;>cases hb:d.1
   ·have i1:=(c2 ha).1
    have i2:=(d2 hb).1
    exact alU vZ.1 (by decide)
   ·have i1:=(c2 ha).1
    have i2:=(d1 hb).1
    exact this _ _
   ·have i1:=(c1 ha).1
    have i2:=(d2 hb).1
    exact this _ _
   ·have i1:=(c1 ha).1
    have i2:=(d1 hb).1
    show(rJ _ _).length≤4
    unfold rJ
    cases hq:gM (ciC (dC c)) (ciC (dC d))
    ·have i3:BdL (mU (ciC (dC c)) (ciC (dC d))):=ym
     exact this _ _
    ·exact aoc _
  ·obtain⟨p,hp,rfl⟩:=anh.1 hx
   obtain⟨b,r,_,_⟩:=RE.supM_on h2 h4 hp
   exact alI (aJ (j:=1200) (by decide) (by decide))
 ·refine⟨by simp,fun x hx=>?_⟩
  have:x=c.2.2.2.2.1∨x=c.2.2.2.2.2∨x=d.2.2.2.2.1∨x=d.2.2.2.2.2:=by simpa using hx
  rcases this with e|e|e|e<;>rw[e]
  ·exact up h1.2.2.1 (by decide)
  ·exact up h1.2.2.2 (by decide)
  ·exact up h3.2.2.1 (by decide)
  ·exact up h3.2.2.2 (by decide)
theorem H9{α:Type}(z:α)(L T:List α):((jA z ((L.length:Int).toNat) ((((L++T).length:Int)).toNat-(L.length:Int).toNat) (L++T)).drop ((0:Int).toNat)).take ((L.length:Int).toNat-(0:Int).toNat)=L∧
  L.length≤(jA z ((L.length:Int).toNat) ((((L++T).length:Int)).toNat-(L.length:Int).toNat) (L++T)).length:=by
 have hcl:(jA z ((L.length:Int).toNat) ((((L++T).length:Int)).toNat-(L.length:Int).toNat) (L++T)).take L.length=L:=by
  unfold jA
  rw[show((L.length:Int)).toNat=L.length by omega,al7,List.take_append_of_le_length (by simp),aoP,Nat.min_self,List.take_left' rfl]
 refine⟨?_,?_⟩
 ·rw[show((0:Int)).toNat=0 from rfl,ann,show((L.length:Int)).toNat-0=L.length by omega,hcl]
 ·have:=congrArg List.length hcl
  rw[ams]at this
  omega
def abY:Cn 84 [tCU,tCU]:=cn fun(a b:BCU)=>lf (gA a b∧cC (dC a) (dC b)=true) [.d .bool true] fun h=>by
 have e:Con Tryz.prog 84 [.d tCU a,.d tCU b] [.d .bool (cC (dC a) (dC b))]:=(YK.g a b).h h.1
 rw[h.2]at e
 exact e
def Mk:List En:=[enT abY,enT Lb,enL Xn,enK PP,enF WT,enK Fv]
def U2:NT:=[((188,6),{keep:=[0,1,7,8],hl:=4}),((86,16),{keep:=[0,1,5,6],hl:=4}),((42,11),{keep:=[2,3,26,28],hl:=0}),((86,3),{keep:=[0,1,10],hl:=0}),((188,18),{keep:=[0,1,5,7,8,16],hl:=0}),((86,28),{keep:=[0,1,5,6,7,28],hl:=0})]
def kz:Ctx:=CX (ens Mk) U2
def jq(c d:BCU)(s188_8:Int):Cfg:=⟨188,[.blk 0,.seq 25],[(0,.own 3),(1,.clo 88 [0,1]),(7,SI (([c.2.2.2.2.1,c.2.2.2.2.2,d.2.2.2.2.1,d.2.2.2.2.2]).length:Int)),(8,SI s188_8)],[.box 39 (Ty.split tCU c),.box 39 (Ty.split tCU d),.gone,.row 37 tP ([c.2.2.2.2.1,c.2.2.2.2.2,d.2.2.2.2.1,d.2.2.2.2.2])],4,[⟨86,[.seq 4],3,2,[(0,.own 3),(1,.clo 88 [0,1])],4,none⟩,⟨42,[.seq 12],11,3,[(2,.box 0 0),(3,.box 1 0),(26,.own 3)],0,none⟩]⟩
def dL(c d:BCU)(s86_5 s86_6:Int)(r86_3:List BP):Cfg:=⟨86,[.blk 0,.seq 35],[(0,.own 3),(1,.clo 88 [0,1]),(5,SI s86_5),(6,SI s86_6)],[.box 39 (Ty.split tCU c),.box 39 (Ty.split tCU d),.gone,.row 37 tP r86_3],4,[⟨42,[.seq 12],11,3,[(2,.box 0 0),(3,.box 1 0),(26,.own 3)],0,none⟩]⟩
def Lq(c d:BCU)(k:KT):Option (List RV):=match decide (gA c d∧cC (dC c) (dC d)=true)with|true=>(match decide (([c.2.2.2.2.1,c.2.2.2.2.2,d.2.2.2.2.1,d.2.2.2.2.2]).length≤100000)with|true=>k 6 (jq c d 0)|false=>none)|false=>none
theorem adO(c d:BCU):RS kz 42 [.d tCU c,.d tCU d] (Lq c d):=rsX
def iY(c d:BCU)(s188_8:Int)(k:KT):Option (List RV):=match decide (s188_8<(([c.2.2.2.2.1,c.2.2.2.2.2,d.2.2.2.2.1,d.2.2.2.2.2]).length:Int))with|true=>(match aR ([c.2.2.2.2.1,c.2.2.2.2.2,d.2.2.2.2.1,d.2.2.2.2.2]) s188_8 with|some _=>(match true,([c.2.2.2.2.1,c.2.2.2.2.2,d.2.2.2.2.1,d.2.2.2.2.2])[(s188_8).toNat]? with|true,some x1=>(match decide (okC 4000 c∧okP 4000 x1)with|true=>(match !(hZ (dC c) (dec x1))with|true=>(match s188_8==(-1)with|true=>(match decide (lh c ([c.2.2.2.2.1,c.2.2.2.2.2,d.2.2.2.2.1,d.2.2.2.2.2]))with|true=>(match decide (gA c d∧cC (dC c) (dC d)=true)with|true=>(match decide (xe c d (df (dC c) ([c.2.2.2.2.1,c.2.2.2.2.2,d.2.2.2.2.1,d.2.2.2.2.2])))with|true=>some [RV.d (.sl tP) (df (dC c) ([c.2.2.2.2.1,c.2.2.2.2.2,d.2.2.2.2.1,d.2.2.2.2.2])),RV.d .bool (wZ c d (df (dC c) ([c.2.2.2.2.1,c.2.2.2.2.2,d.2.2.2.2.1,d.2.2.2.2.2])))]|false=>none)|false=>none)|false=>none)|false=>k 16 (dL c d s188_8 (i64.wrap (s188_8+1)) ([c.2.2.2.2.1,c.2.2.2.2.2,d.2.2.2.2.1,d.2.2.2.2.2])))|false=>(match decide (okC 4000 d∧okP 4000 x1)with|true=>(match !(hZ (dC d) (dec x1))with|true=>(match s188_8==(-1)with|true=>(match decide (lh c ([c.2.2.2.2.1,c.2.2.2.2.2,d.2.2.2.2.1,d.2.2.2.2.2]))with|true=>(match decide (gA c d∧cC (dC c) (dC d)=true)with|true=>(match decide (xe c d (df (dC c) ([c.2.2.2.2.1,c.2.2.2.2.2,d.2.2.2.2.1,d.2.2.2.2.2])))with|true=>some [RV.d (.sl tP) (df (dC c) ([c.2.2.2.2.1,c.2.2.2.2.2,d.2.2.2.2.1,d.2.2.2.2.2])),RV.d .bool (wZ c d (df (dC c) ([c.2.2.2.2.1,c.2.2.2.2.2,d.2.2.2.2.1,d.2.2.2.2.2])))]|false=>none)|false=>none)|false=>none)|false=>k 16 (dL c d s188_8 (i64.wrap (s188_8+1)) ([c.2.2.2.2.1,c.2.2.2.2.2,d.2.2.2.2.1,d.2.2.2.2.2])))|false=>k 6 (jq c d (i64.wrap (s188_8+1))))|false=>none))|false=>none)|_,_=>none)|none=>none)|false=>(match(-1)==(-1)with|true=>(match decide (lh c ([c.2.2.2.2.1,c.2.2.2.2.2,d.2.2.2.2.1,d.2.2.2.2.2]))with|true=>(match decide (gA c d∧cC (dC c) (dC d)=true)with|true=>(match decide (xe c d (df (dC c) ([c.2.2.2.2.1,c.2.2.2.2.2,d.2.2.2.2.1,d.2.2.2.2.2])))with|true=>some [RV.d (.sl tP) (df (dC c) ([c.2.2.2.2.1,c.2.2.2.2.2,d.2.2.2.2.1,d.2.2.2.2.2])),RV.d .bool (wZ c d (df (dC c) ([c.2.2.2.2.1,c.2.2.2.2.2,d.2.2.2.2.1,d.2.2.2.2.2])))]|false=>none)|false=>none)|false=>none)|false=>k 16 (dL c d (-1) (i64.wrap ((-1)+1)) ([c.2.2.2.2.1,c.2.2.2.2.2,d.2.2.2.2.1,d.2.2.2.2.2])))
theorem l9(c d:BCU)(s188_8:Int):RN kz 6 (jq c d s188_8) (iY c d s188_8):=rnX
def jc(c d:BCU)(s86_5 s86_6:Int)(r86_3:List BP)(k:KT):Option (List RV):=match decide (s86_6<(r86_3.length:Int))with|true=>(match aR r86_3 s86_6 with|some _=>(match true,r86_3[(s86_6).toNat]? with|true,some x1=>(match decide (okC 4000 c∧okP 4000 x1)with|true=>(match !(hZ (dC c) (dec x1))with|true=>k 16 (dL c d s86_5 (i64.wrap (s86_6+1)) r86_3)|false=>(match decide (okC 4000 d∧okP 4000 x1)with|true=>(match !(!(hZ (dC d) (dec x1)))with|true=>(match aR r86_3 s86_5 with|some _=>(match true,r86_3[(s86_5).toNat]? with|true,some _=>k 16 (dL c d (i64.wrap (s86_5+1)) (i64.wrap (s86_6+1)) (r86_3.set ((s86_5).toNat) x1))|_,_=>none)|none=>none)|false=>k 16 (dL c d s86_5 (i64.wrap (s86_6+1)) r86_3))|false=>none))|false=>none)|_,_=>none)|none=>none)|false=>(match decide ((0:Int)≤s86_5∧s86_5≤(r86_3.length:Int)∧(r86_3.length:Int)≤(r86_3.length:Int))with|true=>(match decide ((0:Int)≤0∧0≤s86_5∧s86_5≤((jA (Ty.zero tP) ((s86_5:Int).toNat) (((r86_3.length:Int):Int).toNat-(s86_5:Int).toNat) r86_3).length:Int))with|true=>(match decide (lh c (((jA (Ty.zero tP) ((s86_5:Int).toNat) (((r86_3.length:Int):Int).toNat-(s86_5:Int).toNat) r86_3).drop ((0:Int).toNat)).take ((s86_5:Int).toNat-(0:Int).toNat)))with|true=>(match decide (gA c d∧cC (dC c) (dC d)=true)with|true=>(match decide (xe c d (df (dC c) (((jA (Ty.zero tP) ((s86_5:Int).toNat) (((r86_3.length:Int):Int).toNat-(s86_5:Int).toNat) r86_3).drop ((0:Int).toNat)).take ((s86_5:Int).toNat-(0:Int).toNat))))with|true=>some [RV.d (.sl tP) (df (dC c) (((jA (Ty.zero tP) ((s86_5:Int).toNat) (((r86_3.length:Int):Int).toNat-(s86_5:Int).toNat) r86_3).drop ((0:Int).toNat)).take ((s86_5:Int).toNat-(0:Int).toNat))),RV.d .bool (wZ c d (df (dC c) (((jA (Ty.zero tP) ((s86_5:Int).toNat) (((r86_3.length:Int):Int).toNat-(s86_5:Int).toNat) r86_3).drop ((0:Int).toNat)).take ((s86_5:Int).toNat-(0:Int).toNat))))]|false=>none)|false=>none)|false=>none)|false=>none)|false=>none)
theorem lX(c d:BCU)(s86_5 s86_6:Int)(r86_3:List BP):RN kz 16 (dL c d s86_5 s86_6 r86_3) (jc c d s86_5 s86_6 r86_3):=rnX
section
variable (c d:BCU) (h:gj c d) (hs:cC (dC c) (dC d)=true)
include h hs
theorem CE(L:List BP)(hl:L.length≤4)(ho:∀x∈L,okP 4000 x):(match decide (lh c L)with
  |true=>(match decide (gA c d∧cC (dC c) (dC d)=true)with
   |true=>(match decide (xe c d (df (dC c) L))with|true=>some [RV.d (.sl tP) (df (dC c) L),RV.d .bool (wZ c d (df (dC c) L))]|false=>none)
   |false=>none)
  |false=>none)=some [RV.d (.sl tP) (df (dC c) L),RV.d .bool (wZ c d (df (dC c) L))]:=by
 have hc:okC 4000 c:=cg h.1.1 (by decide) (by decide)
 have hd:okC 4000 d:=cg h.2.1 (by decide) (by decide)
 have q:lh c L:=⟨hc,by omega,ho⟩
 have hn:(df (dC c) L).length≤L.length:=oO
 have _q2:xe c d (df (dC c) L):=⟨⟨hc,by omega,fun x hx=>ho x (jv hx)⟩,hd⟩
 rw[dT q,dT (show gA c d∧cC (dC c) (dC d)=true from⟨⟨h.1.2,h.2.2⟩,hs⟩)]
 dsimp only
 rw[dT _q2]
theorem xY:∀(S:List BP) (L J:List BP),J≠[]→(∀x∈L++(J++S),okP 4000 x)→(L++(J++S)).length≤4→
  kz.Runs 16 (dL c d (L.length:Int) ((L.length+J.length:Nat):Int) (L++(J++S))) [RV.d (.sl tP) (df (dC c) (L++S.filter (gP c d))),RV.d .bool (wZ c d (df (dC c) (L++S.filter (gP c d))))]
 |[],L,J,hJ,hok,h4=>by
  have h4':L.length+J.length≤4:=by simpa using h4
  obtain⟨c1,c2⟩:=H9 (Ty.zero tP) L J
  refine lX _ _ _ _ _ ⟨0,?_⟩
  unfold jc
  rw[ame,b9 (by simp)]
  dsimp only
  rw[dT (show(0:Int)≤(L.length:Int)∧(L.length:Int)≤((L++J).length:Int)∧((L++J).length:Int)≤((L++J).length:Int) by simp only[amf];omega)]
  rw[dT (show(0:Int)≤0∧0≤(L.length:Int)∧(L.length:Int)≤((jA (Ty.zero tP) ((L.length:Int).toNat) ((((L++J).length:Int)).toNat-(L.length:Int).toNat) (L++J)).length:Int) by omega)]
  rw[c1,aop,ame]
  exact CE c d h hs L (by omega) fun x hx=>hok x (ang _ hx)
 |q::S,L,J,hJ,hok,h4=>by
  have h4':L.length+(J.length+(S.length+1))≤4:=by simpa using h4
  have hc:okC 4000 c:=cg h.1.1 (by decide) (by decide)
  have hd:okC 4000 d:=cg h.2.1 (by decide) (by decide)
  have hq:okP 4000 q:=hok q (by simp)
  have g1:(L++(J++q::S))[L.length+J.length]?=some q:=by
   have:=nG (L++J) q S
   rw[amf,al7]at this
   exact this
  obtain⟨y,T,rfl⟩:=List.exists_cons_of_ne_nil hJ
  have g2:(L++(y::T++q::S))[L.length]?=some y:=nG L y (T++q::S)
  have hset:(L++(y::T++q::S)).set L.length q=(L++[q])++((T++[q])++S):=by
   have:=BK y q (T++q::S) L
   rw[show y::T++q::S=y::(T++q::S) from rfl,this]
   simp
  have e2:L++(y::T++q::S)=L++((y::T++[q])++S):=by simp
  have key:∀r n,(match gP c d q with
    |true=>kz.k n 16 (dL c d ((L.length+1:Nat):Int) ((L.length+(y::T).length+1:Nat):Int) ((L++[q])++((T++[q])++S)))
    |false=>kz.k n 16 (dL c d (L.length:Int) ((L.length+(y::T).length+1:Nat):Int) (L++(y::T++q::S))))=some r→
    jc c d (L.length:Int) ((L.length+(y::T).length:Nat):Int) (L++(y::T++q::S)) (kz.k n)=some r:=fun r n hk=>by
   unfold jc
   rw[bH (by simp only[amf,alY];omega),ao,g1,show((L.length+(y::T).length:Nat):Int).toNat=L.length+(y::T).length by omega,g1]
   dsimp only
   rw[dT (show okC 4000 c∧okP 4000 q from⟨hc,hq⟩),dT (show okC 4000 d∧okP 4000 q from⟨hd,hq⟩),bV (k:=L.length+(y::T).length) (by simp only[alY]at*;omega),bV (k:=L.length) (by omega),ao,g2,show((L.length:Nat):Int).toNat=L.length by omega,g2,hset]
   unfold gP at hk
   cases r1:hZ (dC c) (dec q)<;>cases r2:hZ (dC d) (dec q)<;>rw[r1,r2]at hk<;>exact hk
  rw[anC]
  cases hk:gP c d q
  ·obtain⟨n,hn⟩:=xY S L (y::T++[q]) (by simp) (e2▸hok) (e2▸h4)
   refine lX _ _ _ _ _ ⟨n,key _ n ?_⟩
   rw[hk,e2]
   rw[amf,al6,←anL]at hn
   exact hn
  ·obtain⟨n,hn⟩:=xY S (L++[q]) (T++[q]) (by simp) (fun x hx=>by
    simp only[amr,al0,amZ,aob]at hx
    rcases hx with(hx|hx)|(hx|hx)|hx
    ·exact hok x (by simp[hx])
    ·rw[hx];exact hq
    ·exact hok x (by simp[hx])
    ·rw[hx];exact hq
    ·exact hok x (by simp[hx])) (by simp at h4 ⊢;omega)
   refine lX _ _ _ _ _ ⟨n,key _ n ?_⟩
   rw[hk]
   have n1:(L++[q]).length=L.length+1:=by simp
   have n2:L.length+1+(T++[q]).length=L.length+(y::T).length+1:=by simp;omega
   rw[n1,n2,al7 L [q] (S.filter (gP c d))]at hn
   exact hn
theorem Hi(X:List BP)(hX:[c.2.2.2.2.1,c.2.2.2.2.2,d.2.2.2.2.1,d.2.2.2.2.2]=X)(h4:X.length≤4)(hok:∀x∈X,okP 4000 x):∀(S A:List BP),A++S=X→A.filter (gP c d)=A→
  kz.Runs 6 (jq c d (A.length:Int)) [RV.d (.sl tP) (df (dC c) (A++S.filter (gP c d))),RV.d .bool (wZ c d (df (dC c) (A++S.filter (gP c d))))]
 |[],A,hA,hf=>by
  rw[ame]at hA
  refine l9 _ _ _ ⟨0,?_⟩
  unfold iY
  rw[hX,←hA,b9 (by omega),aop,ame]
  exact CE c d h hs A (hA▸h4) (hA▸hok)
 |q::S,A,hA,hf=>by
  have hc:okC 4000 c:=cg h.1.1 (by decide) (by decide)
  have hd:okC 4000 d:=cg h.2.1 (by decide) (by decide)
  have hq:okP 4000 q:=hok q (by rw[←hA];simp)
  have g1:X[A.length]?=some q:=by rw[←hA];exact nG A q S
  have hlen:A.length<X.length:=by rw[←hA];simp
  have key:∀r n,(match gP c d q with
    |true=>kz.k n 6 (jq c d ((A.length+1:Nat):Int))
    |false=>kz.k n 16 (dL c d (A.length:Int) ((A.length+1:Nat):Int) X))=some r→
    iY c d (A.length:Int) (kz.k n)=some r:=fun r n hk=>by
   unfold iY
   rw[hX,bH hlen,ao,g1,show((A.length:Nat):Int).toNat=A.length by omega,g1]
   dsimp only
   rw[dT (show okC 4000 c∧okP 4000 q from⟨hc,hq⟩),dT (show okC 4000 d∧okP 4000 q from⟨hd,hq⟩),bV (k:=A.length) (by omega),show((A.length:Int)== -1)=false by rw[anH];omega]
   unfold gP at hk
   cases r1:hZ (dC c) (dec q)<;>cases r2:hZ (dC d) (dec q)<;>rw[r1,r2]at hk<;>exact hk
  rw[anC]
  cases hk:gP c d q
  ·obtain⟨n,hn⟩:=xY c d h hs S A [q] (by simp) (by rw[am6,hA];exact hok) (by rw[am6,hA];exact h4)
   refine l9 _ _ _ ⟨n,key _ n ?_⟩
   rw[hk]
   rw[am6,hA]at hn
   exact hn
  ·obtain⟨n,hn⟩:=Hi X hX h4 hok S (A++[q]) (by rw[al7];exact hA) (by rw[List.filter_append,hf,anC,hk];rfl)
   refine l9 _ _ _ ⟨n,key _ n ?_⟩
   rw[hk]
   have n1:(A++[q]).length=A.length+1:=by simp
   rw[n1,al7 A [q] (S.filter (gP c d))]at hn
   exact hn
end
theorem Q9(c d:BCU)(h:gj c d)(hs:cC (dC c) (dC d)=true):Con Tryz.prog 42 [.d tCU c,.d tCU d] [.d (.sl tP) (fR c d),.d .bool (pG c d)]:=by
 obtain⟨h4,ho⟩:=DB h
 have e:jF c d=[c.2.2.2.2.1,c.2.2.2.2.2,d.2.2.2.2.1,d.2.2.2.2.2]:=by unfold jF;rw[hs];rfl
 rw[e]at h4 ho
 obtain⟨n,hn⟩:=Hi c d h hs _ rfl h4 ho _ [] rfl rfl
 have e2:fR c d=df (dC c) (List.filter (gP c d) [c.2.2.2.2.1,c.2.2.2.2.2,d.2.2.2.2.1,d.2.2.2.2.2]):=by unfold fR;rw[e]
 have e3:pG c d=wZ c d (df (dC c) (List.filter (gP c d) [c.2.2.2.2.1,c.2.2.2.2.2,d.2.2.2.2.1,d.2.2.2.2.2])):=by unfold pG;rw[hs,e2];rfl
 rw[e2,e3]
 refine cZ Mk (adO _ _ ⟨n,?_⟩)
 unfold Lq
 rw[dT (show gA c d∧cC (dC c) (dC d)=true from⟨⟨h.1.2,h.2.2⟩,hs⟩)]
 dsimp only
 rw[dT (alU h4 (by decide))]
 exact hn
def ac7:Cn 84 [tCU,tCU]:=cn fun(a b:BCU)=>lf (gA a b∧cC (dC a) (dC b)=false) [.d .bool false] fun h=>by
 have e:Con Tryz.prog 84 [.d tCU a,.d tCU b] [.d .bool (cC (dC a) (dC b))]:=(YK.g a b).h h.1
 rw[h.2]at e
 exact e
def LF:List En:=[enT ac7,enT Lb,enL Xn,enK PP,enF WT,enK Fv]
def Vi:NT:=[((188,6),{keep:=[0,1,7,8],hl:=3}),((86,16),{keep:=[0,1,5,6],hl:=3}),((42,11),{keep:=[2,3,26,28],hl:=0}),((86,3),{keep:=[0,1,10],hl:=0}),((188,18),{keep:=[0,1,5,7,8,16],hl:=0}),((86,28),{keep:=[0,1,5,6,7,28],hl:=0})]
def kH:Ctx:=CX (ens LF) Vi
def jB(c d:BCU)(s188_8:Int):Cfg:=⟨188,[.blk 0,.seq 25],[(0,.own 2),(1,.clo 88 [0,1]),(7,SI (((gi (dC c) (dC d)).map enc).length:Int)),(8,SI s188_8)],[.box 39 (Ty.split tCU c),.box 39 (Ty.split tCU d),.row 37 tP ((gi (dC c) (dC d)).map enc)],3,[⟨86,[.seq 4],3,2,[(0,.own 2),(1,.clo 88 [0,1])],3,none⟩,⟨42,[.seq 12],11,3,[(2,.box 0 0),(3,.box 1 0),(26,.own 2)],0,none⟩]⟩
def dK(c d:BCU)(s86_5 s86_6:Int)(r86_2:List BP):Cfg:=⟨86,[.blk 0,.seq 35],[(0,.own 2),(1,.clo 88 [0,1]),(5,SI s86_5),(6,SI s86_6)],[.box 39 (Ty.split tCU c),.box 39 (Ty.split tCU d),.row 37 tP r86_2],3,[⟨42,[.seq 12],11,3,[(2,.box 0 0),(3,.box 1 0),(26,.own 2)],0,none⟩]⟩
def M5(c d:BCU)(k:KT):Option (List RV):=match decide (gA c d∧cC (dC c) (dC d)=false)with|true=>(match decide (gA c d)with|true=>(match decide (((gi (dC c) (dC d)).map enc).length≤100000)with|true=>k 6 (jB c d 0)|false=>none)|false=>none)|false=>none
theorem ac5(c d:BCU):RS kH 42 [.d tCU c,.d tCU d] (M5 c d):=rsX
def jd(c d:BCU)(s188_8:Int)(k:KT):Option (List RV):=match decide (s188_8<(((gi (dC c) (dC d)).map enc).length:Int))with|true=>(match aR ((gi (dC c) (dC d)).map enc) s188_8 with|some _=>(match true,((gi (dC c) (dC d)).map enc)[(s188_8).toNat]? with|true,some x1=>(match decide (okC 4000 c∧okP 4000 x1)with|true=>(match !(hZ (dC c) (dec x1))with|true=>(match s188_8==(-1)with|true=>(match decide (lh c ((gi (dC c) (dC d)).map enc))with|true=>(match decide (gA c d∧cC (dC c) (dC d)=false)with|true=>some [RV.d (.sl tP) (df (dC c) ((gi (dC c) (dC d)).map enc)),RV.d .bool false]|false=>none)|false=>none)|false=>k 16 (dK c d s188_8 (i64.wrap (s188_8+1)) ((gi (dC c) (dC d)).map enc)))|false=>(match decide (okC 4000 d∧okP 4000 x1)with|true=>(match !(hZ (dC d) (dec x1))with|true=>(match s188_8==(-1)with|true=>(match decide (lh c ((gi (dC c) (dC d)).map enc))with|true=>(match decide (gA c d∧cC (dC c) (dC d)=false)with|true=>some [RV.d (.sl tP) (df (dC c) ((gi (dC c) (dC d)).map enc)),RV.d .bool false]|false=>none)|false=>none)|false=>k 16 (dK c d s188_8 (i64.wrap (s188_8+1)) ((gi (dC c) (dC d)).map enc)))|false=>k 6 (jB c d (i64.wrap (s188_8+1))))|false=>none))|false=>none)|_,_=>none)|none=>none)|false=>(match(-1)==(-1)with|true=>(match decide (lh c ((gi (dC c) (dC d)).map enc))with|true=>(match decide (gA c d∧cC (dC c) (dC d)=false)with|true=>some [RV.d (.sl tP) (df (dC c) ((gi (dC c) (dC d)).map enc)),RV.d .bool false]|false=>none)|false=>none)|false=>k 16 (dK c d (-1) (i64.wrap ((-1)+1)) ((gi (dC c) (dC d)).map enc)))
theorem lV(c d:BCU)(s188_8:Int):RN kH 6 (jB c d s188_8) (jd c d s188_8):=rnX
def jg(c d:BCU)(s86_5 s86_6:Int)(r86_2:List BP)(k:KT):Option (List RV):=match decide (s86_6<(r86_2.length:Int))with|true=>(match aR r86_2 s86_6 with|some _=>(match true,r86_2[(s86_6).toNat]? with|true,some x1=>(match decide (okC 4000 c∧okP 4000 x1)with|true=>(match !(hZ (dC c) (dec x1))with|true=>k 16 (dK c d s86_5 (i64.wrap (s86_6+1)) r86_2)|false=>(match decide (okC 4000 d∧okP 4000 x1)with|true=>(match !(!(hZ (dC d) (dec x1)))with|true=>(match aR r86_2 s86_5 with|some _=>(match true,r86_2[(s86_5).toNat]? with|true,some _=>k 16 (dK c d (i64.wrap (s86_5+1)) (i64.wrap (s86_6+1)) (r86_2.set ((s86_5).toNat) x1))|_,_=>none)|none=>none)|false=>k 16 (dK c d s86_5 (i64.wrap (s86_6+1)) r86_2))|false=>none))|false=>none)|_,_=>none)|none=>none)|false=>(match decide ((0:Int)≤s86_5∧s86_5≤(r86_2.length:Int)∧(r86_2.length:Int)≤(r86_2.length:Int))with|true=>(match decide ((0:Int)≤0∧0≤s86_5∧s86_5≤((jA (Ty.zero tP) ((s86_5:Int).toNat) (((r86_2.length:Int):Int).toNat-(s86_5:Int).toNat) r86_2).length:Int))with|true=>(match decide (lh c (((jA (Ty.zero tP) ((s86_5:Int).toNat) (((r86_2.length:Int):Int).toNat-(s86_5:Int).toNat) r86_2).drop ((0:Int).toNat)).take ((s86_5:Int).toNat-(0:Int).toNat)))with|true=>(match decide (gA c d∧cC (dC c) (dC d)=false)with|true=>some [RV.d (.sl tP) (df (dC c) (((jA (Ty.zero tP) ((s86_5:Int).toNat) (((r86_2.length:Int):Int).toNat-(s86_5:Int).toNat) r86_2).drop ((0:Int).toNat)).take ((s86_5:Int).toNat-(0:Int).toNat))),RV.d .bool false]|false=>none)|false=>none)|false=>none)|false=>none)
theorem lW(c d:BCU)(s86_5 s86_6:Int)(r86_2:List BP):RN kH 16 (dK c d s86_5 s86_6 r86_2) (jg c d s86_5 s86_6 r86_2):=rnX
section
variable (c d:BCU) (h:gj c d) (hs:cC (dC c) (dC d)=false)
include h hs
theorem DH(L:List BP)(hl:L.length≤4)(ho:∀x∈L,okP 4000 x):(match decide (lh c L)with
  |true=>(match decide (gA c d∧cC (dC c) (dC d)=false)with
   |true=>some [RV.d (.sl tP) (df (dC c) L),RV.d .bool false]
   |false=>none)
  |false=>none)=some [RV.d (.sl tP) (df (dC c) L),RV.d .bool (false)]:=by
 have hc:okC 4000 c:=cg h.1.1 (by decide) (by decide)
 have hd:okC 4000 d:=cg h.2.1 (by decide) (by decide)
 have q:lh c L:=⟨hc,by omega,ho⟩
 have hn:(df (dC c) L).length≤L.length:=oO
 have _q2:xe c d (df (dC c) L):=⟨⟨hc,by omega,fun x hx=>ho x (jv hx)⟩,hd⟩
 rw[dT q,dT (show gA c d∧cC (dC c) (dC d)=false from⟨⟨h.1.2,h.2.2⟩,hs⟩)]
theorem wH:∀(S:List BP) (L J:List BP),J≠[]→(∀x∈L++(J++S),okP 4000 x)→(L++(J++S)).length≤4→
  kH.Runs 16 (dK c d (L.length:Int) ((L.length+J.length:Nat):Int) (L++(J++S))) [RV.d (.sl tP) (df (dC c) (L++S.filter (gP c d))),RV.d .bool (false)]
 |[],L,J,hJ,hok,h4=>by
  have h4':L.length+J.length≤4:=by simpa using h4
  obtain⟨c1,c2⟩:=H9 (Ty.zero tP) L J
  refine lW _ _ _ _ _ ⟨0,?_⟩
  unfold jg
  rw[ame,b9 (by simp)]
  dsimp only
  rw[dT (show(0:Int)≤(L.length:Int)∧(L.length:Int)≤((L++J).length:Int)∧((L++J).length:Int)≤((L++J).length:Int) by simp only[amf];omega)]
  rw[dT (show(0:Int)≤0∧0≤(L.length:Int)∧(L.length:Int)≤((jA (Ty.zero tP) ((L.length:Int).toNat) ((((L++J).length:Int)).toNat-(L.length:Int).toNat) (L++J)).length:Int) by omega)]
  rw[c1,aop,ame]
  exact DH c d h hs L (by omega) fun x hx=>hok x (ang _ hx)
 |q::S,L,J,hJ,hok,h4=>by
  have h4':L.length+(J.length+(S.length+1))≤4:=by simpa using h4
  have hc:okC 4000 c:=cg h.1.1 (by decide) (by decide)
  have hd:okC 4000 d:=cg h.2.1 (by decide) (by decide)
  have hq:okP 4000 q:=hok q (by simp)
  have g1:(L++(J++q::S))[L.length+J.length]?=some q:=by
   have:=nG (L++J) q S
   rw[amf,al7]at this
   exact this
  obtain⟨y,T,rfl⟩:=List.exists_cons_of_ne_nil hJ
  have g2:(L++(y::T++q::S))[L.length]?=some y:=nG L y (T++q::S)
  have hset:(L++(y::T++q::S)).set L.length q=(L++[q])++((T++[q])++S):=by
   have:=BK y q (T++q::S) L
   rw[show y::T++q::S=y::(T++q::S) from rfl,this]
   simp
  have e2:L++(y::T++q::S)=L++((y::T++[q])++S):=by simp
  have key:∀r n,(match gP c d q with
    |true=>kH.k n 16 (dK c d ((L.length+1:Nat):Int) ((L.length+(y::T).length+1:Nat):Int) ((L++[q])++((T++[q])++S)))
    |false=>kH.k n 16 (dK c d (L.length:Int) ((L.length+(y::T).length+1:Nat):Int) (L++(y::T++q::S))))=some r→
    jg c d (L.length:Int) ((L.length+(y::T).length:Nat):Int) (L++(y::T++q::S)) (kH.k n)=some r:=fun r n hk=>by
   unfold jg
   rw[bH (by simp only[amf,alY];omega),ao,g1,show((L.length+(y::T).length:Nat):Int).toNat=L.length+(y::T).length by omega,g1]
   dsimp only
   rw[dT (show okC 4000 c∧okP 4000 q from⟨hc,hq⟩),dT (show okC 4000 d∧okP 4000 q from⟨hd,hq⟩),bV (k:=L.length+(y::T).length) (by simp only[alY]at*;omega),bV (k:=L.length) (by omega),ao,g2,show((L.length:Nat):Int).toNat=L.length by omega,g2,hset]
   unfold gP at hk
   cases r1:hZ (dC c) (dec q)<;>cases r2:hZ (dC d) (dec q)<;>rw[r1,r2]at hk<;>exact hk
  rw[anC]
  cases hk:gP c d q
  ·obtain⟨n,hn⟩:=wH S L (y::T++[q]) (by simp) (e2▸hok) (e2▸h4)
   refine lW _ _ _ _ _ ⟨n,key _ n ?_⟩
   rw[hk,e2]
   rw[amf,al6,←anL]at hn
   exact hn
  ·obtain⟨n,hn⟩:=wH S (L++[q]) (T++[q]) (by simp) (fun x hx=>by
    simp only[amr,al0,amZ,aob]at hx
    rcases hx with(hx|hx)|(hx|hx)|hx
    ·exact hok x (by simp[hx])
    ·rw[hx];exact hq
    ·exact hok x (by simp[hx])
    ·rw[hx];exact hq
    ·exact hok x (by simp[hx])) (by simp at h4 ⊢;omega)
   refine lW _ _ _ _ _ ⟨n,key _ n ?_⟩
   rw[hk]
   have n1:(L++[q]).length=L.length+1:=by simp
   have n2:L.length+1+(T++[q]).length=L.length+(y::T).length+1:=by simp;omega
   rw[n1,n2,al7 L [q] (S.filter (gP c d))]at hn
   exact hn
theorem Io(X:List BP)(hX:((gi (dC c) (dC d)).map enc)=X)(h4:X.length≤4)(hok:∀x∈X,okP 4000 x):∀(S A:List BP),A++S=X→A.filter (gP c d)=A→
  kH.Runs 6 (jB c d (A.length:Int)) [RV.d (.sl tP) (df (dC c) (A++S.filter (gP c d))),RV.d .bool (false)]
 |[],A,hA,hf=>by
  rw[ame]at hA
  refine lV _ _ _ ⟨0,?_⟩
  unfold jd
  rw[hX,←hA,b9 (by omega),aop,ame]
  exact DH c d h hs A (hA▸h4) (hA▸hok)
 |q::S,A,hA,hf=>by
  have hc:okC 4000 c:=cg h.1.1 (by decide) (by decide)
  have hd:okC 4000 d:=cg h.2.1 (by decide) (by decide)
  have hq:okP 4000 q:=hok q (by rw[←hA];simp)
  have g1:X[A.length]?=some q:=by rw[←hA];exact nG A q S
  have hlen:A.length<X.length:=by rw[←hA];simp
  have key:∀r n,(match gP c d q with
    |true=>kH.k n 6 (jB c d ((A.length+1:Nat):Int))
    |false=>kH.k n 16 (dK c d (A.length:Int) ((A.length+1:Nat):Int) X))=some r→
    jd c d (A.length:Int) (kH.k n)=some r:=fun r n hk=>by
   unfold jd
   rw[hX,bH hlen,ao,g1,show((A.length:Nat):Int).toNat=A.length by omega,g1]
   dsimp only
   rw[dT (show okC 4000 c∧okP 4000 q from⟨hc,hq⟩),dT (show okC 4000 d∧okP 4000 q from⟨hd,hq⟩),bV (k:=A.length) (by omega),show((A.length:Int)== -1)=false by rw[anH];omega]
   unfold gP at hk
   cases r1:hZ (dC c) (dec q)<;>cases r2:hZ (dC d) (dec q)<;>rw[r1,r2]at hk<;>exact hk
  rw[anC]
  cases hk:gP c d q
  ·obtain⟨n,hn⟩:=wH c d h hs S A [q] (by simp) (by rw[am6,hA];exact hok) (by rw[am6,hA];exact h4)
   refine lV _ _ _ ⟨n,key _ n ?_⟩
   rw[hk]
   rw[am6,hA]at hn
   exact hn
  ·obtain⟨n,hn⟩:=Io X hX h4 hok S (A++[q]) (by rw[al7];exact hA) (by rw[List.filter_append,hf,anC,hk];rfl)
   refine lV _ _ _ ⟨n,key _ n ?_⟩
   rw[hk]
   have n1:(A++[q]).length=A.length+1:=by simp
   rw[n1,al7 A [q] (S.filter (gP c d))]at hn
   exact hn
end
theorem OW(c d:BCU)(h:gj c d)(hs:cC (dC c) (dC d)=false):Con Tryz.prog 42 [.d tCU c,.d tCU d] [.d (.sl tP) (fR c d),.d .bool (pG c d)]:=by
 obtain⟨h4,ho⟩:=DB h
 have e:jF c d=((gi (dC c) (dC d)).map enc):=by unfold jF;rw[hs];rfl
 rw[e]at h4 ho
 obtain⟨n,hn⟩:=Io c d h hs _ rfl h4 ho _ [] rfl rfl
 have e2:fR c d=df (dC c) (List.filter (gP c d) ((gi (dC c) (dC d)).map enc)):=by unfold fR;rw[e]
 have e3:pG c d=false:=by unfold pG;rw[hs,e2];rfl
 rw[e2,e3]
 refine cZ LF (ac5 _ _ ⟨n,?_⟩)
 unfold M5
 rw[dT (show gA c d∧cC (dC c) (dC d)=false from⟨⟨h.1.2,h.2.2⟩,hs⟩)]
 dsimp only
 rw[dT (show gA c d from⟨h.1.2,h.2.2⟩)]
 dsimp only
 rw[dT (alU h4 (by decide))]
 exact hn
def ad4:Cn 42 [tCU,tCU]:=cn fun(c d:BCU)=>lf (gj c d) [.d (.sl tP) (fR c d),.d .bool (pG c d)] fun h=>by
 cases hs:cC (dC c) (dC d)
 ·exact OW c d h hs
 ·exact Q9 c d h hs
end
section
open RE
section
variable {α β:Type} (f:α→β)
theorem Es{lt:α→α→Bool}{lt':β→β→Bool}(h:∀a b,lt' (f a) (f b)=lt a b)(a:α):∀r:List α,ll lt' (r.map f) (f a)=(ll lt r a).map f
 |[]=>rfl
 |b::r=>by
  have ih:=Es h a r
  simp only[anZ,ll,h]
  cases lt a b
  ·rfl
  ·simp only[cond_true,anZ,ih]
theorem Dv{lt:α→α→Bool}{lt':β→β→Bool}(h:∀a b,lt' (f a) (f b)=lt a b):∀(l r:List α),(l.map f).foldl (ll lt') (r.map f)=(l.foldl (ll lt) r).map f
 |[],_=>rfl
 |a::l,r=>by
  rw[anZ,anF,anF,Es f h,Dv h]
theorem LU{lt:α→α→Bool}{lt':β→β→Bool}(h:∀a b,lt' (f a) (f b)=lt a b)(l:List α):sG lt' (l.map f)=(sG lt l).map f:=by
 unfold sG
 have:=Dv f h l []
 rw[List.map_nil]at this
 rw[this,List.map_reverse]
theorem CL{g:α→α→Bool}{g':β→β→Bool}(h:∀a b,g' (f a) (f b)=g a b):∀(l:List α) (p:α),jD g' (f p) (l.map f)=(jD g p l).map f
 |[],_=>rfl
 |q::r,p=>by
  have ih:=CL h r q
  simp only[anZ,jD,h]
  cases g q p
  ·simp only[cond_false,anZ,ih]
  ·exact ih
theorem OT{g:α→α→Bool}{g':β→β→Bool}(h:∀a b,g' (f a) (f b)=g a b)(l:List α):vH g' (l.map f)=(vH g l).map f:=by
 cases l with
 |nil=>rfl
 |cons x r=>
  simp only[anZ,vH]
  rw[CL f h]
end
def abo(c d:Cv):List Pt:=vH (fun a b=>aX a b==0) (sG (fun a b=>decide (A6 c a b<0)) ((bif cC c d then [frC c,toC c,frC d,toC d]else gi c d).filter fun p=>hZ c p&&hZ d p))
theorem LL{c d:BCU}(h1:c.2.2.2.2.1=enc (frC (dC c)))(h2:c.2.2.2.2.2=enc (toC (dC c)))(h3:d.2.2.2.2.1=enc (frC (dC d)))(h4:d.2.2.2.2.2=enc (toC (dC d))):fR c d=(abo (dC c) (dC d)).map enc:=by
 have e:jF c d=(bif cC (dC c) (dC d)then [frC (dC c),toC (dC c),frC (dC d),toC (dC d)]else gi (dC c) (dC d)).map enc:=by
  unfold jF
  cases cC (dC c) (dC d)
  ·rfl
  ·simp only[cond_true,anZ,List.map_nil,←h1,←h2,←h3,←h4]
 unfold fR abo df
 rw[e,List.filter_map]
 have e2:(gP c d∘enc)=fun p:Pt=>hZ (dC c) p&&hZ (dC d) p:=by
  funext p
  show(hZ (dC c) (dec (enc p))&&hZ (dC d) (dec (enc p)))=_
  rw[az]
 rw[e2,LU (f:=(enc:Pt→BP)) (lt:=fun a b=>decide (A6 (dC c) a b<0)) (fun a b=>by unfold ltP;rw[az,az]),OT (f:=(enc:Pt→BP)) (g:=fun a b=>aX a b==0) (fun a b=>by unfold ia;rw[az,az])]
abbrev uS1:Rat×Rat:=(Rat.divInt (-4) 2,Rat.divInt 1 2)
abbrev uS2:Rat×Rat:=(Rat.divInt 4 2,Rat.divInt 1 2)
def qS:Cv:=(false,(0,4,2),(0,0,0),false,atP uS1,atP uS2)
section
theorem bQ(n d:Int)(h:yL n d):Bd (Rat.divInt n d) 3:=Id h.1 h.2.1 h.2.2
end
end
end Go.Proofs.YtnkndpoojnflmaaGreat
end
