/- Common points of lines and circles: the reference's contracts. -/
import Derived.Test.YtagbmoohboleaaaGreatK14
import Derived.Test.YtagbmoohboleaaaGreatK13
noncomputable section
namespace Go.Proofs.YtagbmoohboleaaaGreat
open Go.RowKit Go.IntKind
theorem an6:type_of% @decide_eq_true_iff:=@decide_eq_true_iff
theorem ao4:type_of% @List.filter_cons:=@List.filter_cons
theorem apX:type_of% @List.filter_nil:=@List.filter_nil
section
theorem Lq(a b:Rat):((ao a,ao b):BV)=enc ((a,b):Rat×Rat):=nr rfl
theorem Nr{q:Rat}(h:¬q<0)(h':¬q=0):0<q:=by grind
theorem rdl{l:Ln}(h:cr l≠0)(hl:l.1≠0\/l.2.1≠0):¬(l.2.1/cr l=0/\ -l.1/cr l=0):=by
 intro ⟨h1,h2⟩
 have m:∀a:Rat,a/cr l=0->a=0:=λa e=>by
  have:a/cr l*cr l=a:=anx h;rw[e,Rat.zero_mul]at this;exact this.symm
 have:=m _ h1;have:=m _ h2;rcases hl with h|h<;>grind
section
variable {l c:Ln}
theorem OJ(hl:l.1≠0\/l.2.1≠0)(h0:0<=kB l c):Rpd (uN l c)/\Rpd (vG l c):=by
 have hn:=pP hl;refine⟨Cs (λh=>rdl hn hl ⟨by grind,by grind⟩) h0,Cs (rdl hn hl) h0⟩
theorem M5 [BdL l][BdC c]:Bd (uN l c) 490/\Bd (vG l c) 490:=by
 obtain⟨h1,h2,h3,h4⟩:=v5 (l:=l) (c:=c);have h5:Bd (kB l c) 257:=inferInstance;have n1:Bd (-(l.2.1/cr l)) 61:=inferInstance;have i1:Bd (cr l) 49:=inferInstanceAs (Bd (l.1*l.1+l.2.1*l.2.1) _);have n2:Bd (-l.1/cr l) 61:=(inferInstance:Bd (-l.1/cr l) _)
 have n3:Bd (-(-l.1/cr l)) 61:=inferInstance;exact⟨DH h1 n1 h2 n3 h5 (by decide),DH h1 h3 h2 n2 h5 (by decide)⟩
end
theorem Ad{c d:Ln}[BdC c][BdC d]:BdL (oH c d):=by
 have b2:Bd (2:Rat) 3:=c7 (n:=2) (by decide);have f1:Bd (sD c) 31:=(inferInstance:Bd (c.1*c.1+c.2.1*c.2.1-c.2.2) _).mono (by decide);have f2:Bd (sD d) 31:=(inferInstance:Bd (d.1*d.1+d.2.1*d.2.1-d.2.2) _).mono (by decide);have g1:Bd (2*(d.1-c.1)) _:=inferInstance;have g2:Bd (2*(d.2.1-c.2.1)) _:=inferInstance;have g3:Bd (sD d-sD c) _:=inferInstance;exact⟨g1.mono (by decide),g2.mono (by decide),g3.mono (by decide)⟩
theorem vX{c d:Ln}(h:iU c d=false):(oH c d).1≠0\/(oH c d).2.1≠0:=by
 unfold iU at h;unfold oH;dsimp only;by_cases h1:c.1=d.1
 ·rw[anb h1,aow]at h;have:=an4 h;right;grind
 ·left;grind
theorem R9{c d:Ln}[BdC c][BdC d](h:iU c d=false):cZ (enc (oH c d)):=nt (h:=Ad) (vX h)
def wZ:List En:=[enT qZ,enL qy,enL ti,enL wE,enL sZ,enT wL,enL wG,enL Hg,enL PT,enL Hy,enT Ag,enL G3]
def aj4:Cn 270 [tR,tR]:=cn λ(a b:BR)=>lf (okR a/\okR b) [.d tR (ao (ah a+ah b))] λh=>kO [RV.d tR (hAd a b)] (dN wZ) h
def ahL:Cn 193 [tR,tR]:=cn λ(a b:BR)=>lf (okR a/\okR b) [.d tR (ao (ah a-ah b))] λh=>kO [RV.d tR (hSu a b)] (dN wZ) h
def aiS:Cn 194 [tR,tR]:=cn λ(a b:BR)=>lf (okR a/\okR b) [.d tR (ao (ah a*ah b))] λh=>kO [RV.d tR (hMu a b)] (dN wZ) h
def ajv:Cn 195 [tR]:=cn λ(a:BR)=>lf (okR a) [.d tR (ao (-ah a))] λh=>kO [RV.d tR (hNe a)] (dN wZ) h
def aiG:Cn 191 [tR,tR]:=cn λ(a b:BR)=>lf (ju a b) [.d tR (ao (ah a/ah b))] λh=>kO [RV.d tR (hDi a b)] (dN wZ) h
def Sn(l m:BO3)(_k:KT):OLR:=og (o2 l.1 m.2.1) (og (o2 l.2.1 m.1) (og (o2 (hMu l.1 m.2.1) (hMu l.2.1 m.1)) (match(aF (ah (hMu l.1 m.2.1)) (ah (hMu l.2.1 m.1)))==0 with|true=>(og (o2 l.1 m.2.2) (og (o2 l.2.2 m.1) (og (o2 (hMu l.1 m.2.2) (hMu l.2.2 m.1)) (match(aF (ah (hMu l.1 m.2.2)) (ah (hMu l.2.2 m.1)))==0 with|true=>(og (o2 l.2.1 m.2.2) (og (o2 l.2.2 m.2.1) (og (o2 (hMu l.2.1 m.2.2) (hMu l.2.2 m.2.1)) (some [RV.d .bool ((aF (ah (hMu l.2.1 m.2.2)) (ah (hMu l.2.2 m.2.1)))==0)]))))|false=>some [RV.d .bool false]))))|false=>some [RV.d .bool false])))
def adV:Cn 90 [tO,tO]:=cn λ(l m:BO3)=>lf (cZ l/\cZ m) [.d .bool (pq (dec l) (dec m))] λh=>by
 refine aB wZ (Sn l m) ⟨0,?_⟩;obtain⟨hl,hm⟩:=h;obtain⟨l,rfl,bl,nl⟩:=fj hl;obtain⟨m,rfl,bm,nm⟩:=fj hm;unfold Sn pq;simp only[aX,Nat.reduceAdd,Nat.reduceLeDiff,au];cases decide (l.1*m.2.1=l.2.1*m.1)<;>cases decide (l.1*m.2.2=l.2.2*m.1)<;>rfl
def S5(c d:BO3)(_k:KT):OLR:=og (o2 c.1 d.1) (match(aF (ah c.1) (ah d.1))==0 with|true=>(og (o2 c.2.1 d.2.1) (match(aF (ah c.2.1) (ah d.2.1))==0 with|true=>(og (o2 c.2.2 d.2.2) (some [RV.d .bool ((aF (ah c.2.2) (ah d.2.2))==0)]))|false=>some [RV.d .bool false]))|false=>some [RV.d .bool false])
def aey:Cn 89 [tO,tO]:=cn λ(c d:BO3)=>lf (ck c/\ck d) [.d .bool (qV (dec c) (dec d))] λh=>by
 refine aB wZ (S5 c d) ⟨0,?_⟩;obtain⟨hc,hd⟩:=h;obtain⟨c,rfl,bc,nc⟩:=cQ hc;obtain⟨d,rfl,bd,nd⟩:=cQ hd;unfold S5 qV;simp only[aX,Nat.reduceLeDiff,au];cases decide (c.1=d.1)<;>cases decide (c.2.1=d.2.1)<;>rfl
def AK:List En:=enL aj4::enL ahL::enL aiS::enL ajv::enL aiG::wZ
def Yr(l m:BO3)(_k:KT):OLR:=og (o2 l.1 m.2.1) (og (o2 m.1 l.2.1) (og (o2 (hMu l.1 m.2.1) (hMu m.1 l.2.1)) (some [RV.d tR (hSu (hMu l.1 m.2.1) (hMu m.1 l.2.1))])))
def aiv:Cn 197 [tO,tO]:=cn λ(l m:BO3)=>lf (cZ l/\cZ m) [.d tR (ao (dK (dec l) (dec m)))] λh=>by
 refine aB AK (Yr l m) ⟨0,?_⟩;obtain⟨hl,hm⟩:=h;obtain⟨l,rfl,bl,nl⟩:=fj hl;obtain⟨m,rfl,bm,nm⟩:=fj hm;unfold Yr dK;simp only[aX,Nat.reduceAdd,Nat.reduceLeDiff]
def abF(l:BO3)(_k:KT):OLR:=og (o2 l.1 l.1) (og (o2 l.2.1 l.2.1) (og (o2 (hMu l.1 l.1) (hMu l.2.1 l.2.1)) (some [RV.d tR (hAd (hMu l.1 l.1) (hMu l.2.1 l.2.1))])))
def ago:Cn 190 [tO]:=cn λ(l:BO3)=>lf (cZ l) [.d tR (ao (cr (dec l)))] λh=>by
 refine aB AK (abF l) ⟨0,?_⟩;have hl:=h;obtain⟨l,rfl,bl,nl⟩:=fj hl;unfold abF cr;simp only[aX,Nat.reduceAdd,Nat.reduceLeDiff]
def Zf(l:BO3)(x y:BR)(_k:KT):OLR:=og (o2 l.1 x) (og (o2 l.2.1 y) (og (o2 (hMu l.1 x) (hMu l.2.1 y)) (og (o2 (hAd (hMu l.1 x) (hMu l.2.1 y)) l.2.2) (some [RV.d tR (hSu (hAd (hMu l.1 x) (hMu l.2.1 y)) l.2.2)]))))
def ahO:Cn 192 [tO,tR,tR]:=cn λ(l:BO3) (x y:BR)=>lf (cZ l/\ok Rat 4 x/\ok Rat 4 y) [.d tR (ao (vlL (dec l) (ah x) (ah y)))] λh=>by
 refine aB AK (Zf l x y) ⟨0,?_⟩;obtain⟨hl,hx,hy⟩:=h;obtain⟨l,rfl,bl,nl⟩:=fj hl;obtain⟨x,rfl,bx⟩:=aI hx;obtain⟨y,rfl,b_y⟩:=aI hy;unfold Zf vlL;simp only[aX,Nat.reduceAdd,Nat.reduceLeDiff]
def Y0(c d:BO3)(_k:KT):OLR:=og (o2 c.1 d.1) (match(aF (ah c.1) (ah d.1))==0 with|true=>(og (o2 c.2.1 d.2.1) (some [RV.d .bool ((aF (ah c.2.1) (ah d.2.1))==0)]))|false=>some [RV.d .bool false])
def ah5:Cn 187 [tO,tO]:=cn λ(c d:BO3)=>lf (ck c/\ck d) [.d .bool (iU (dec c) (dec d))] λh=>by
 refine aB AK (Y0 c d) ⟨0,?_⟩;obtain⟨hc,hd⟩:=h;obtain⟨c,rfl,bc,nc⟩:=cQ hc;obtain⟨d,rfl,bd,nd⟩:=cQ hd;unfold Y0 iU;simp only[aX,Nat.reduceLeDiff,au];cases decide (c.1=d.1)<;>rfl
def Yz(a b c d e:BR)(_k:KT):OLR:=og (o1 e) (match gR (ah e)with|true=>(og (o2 b (hid (rtB (ah e)))) (og (o2 a (hMu b (hid (rtB (ah e))))) (og (o2 d (hid (rtB (ah e)))) (og (o2 c (hMu d (hid (rtB (ah e))))) (og (decide (ok (Rat×Rat) 100000 (hAd a (hMu b (hid (rtB (ah e)))),hAd c (hMu d (hid (rtB (ah e))))))) (some [RV.d tP (hid (enc (atP (dec (hAd a (hMu b (hid (rtB (ah e)))),hAd c (hMu d (hid (rtB (ah e)))))))))]))))))|false=>some [RV.d tP (a,(b,(c,(d,e))))])
def ahP:Cn 196 [tR,tR,tR,tR,tR]:=cn λ(a b c d e:BR)=>lf (ok Rat 1000 a/\ok Rat 1000 b/\ok Rat 1000 c/\ok Rat 1000 d/\ok Rat 1000 e) [.d tP (enc (qr (ah a) (ah b) (ah c) (ah d) (ah e)))] λh=>by
 refine aB AK (Yz a b c d e) ⟨0,?_⟩;obtain⟨ha,hb,hc,hd,he⟩:=h;obtain⟨a,rfl,ba⟩:=aI ha;obtain⟨b,rfl,bb⟩:=aI hb;obtain⟨c,rfl,bc⟩:=aI hc;obtain⟨d,rfl,bd⟩:=aI hd;obtain⟨e,rfl,be⟩:=aI he;unfold Yz qr;simp only[aX,Nat.reduceLeDiff];cases hq:gR e
 ·rfl
 ·rw[Px hq];simp only[aX,Nat.reduceAdd,Nat.reduceLeDiff,Lq];try rfl
def ES:List En:=enL aiv::enL ago::enL ahO::enT ah5::enL ahP::AK
def Yb(l m:BO3)(_k:KT):OLR:=og (decide (cZ l/\cZ m)) (og (o2 l.2.2 m.2.1) (og (o2 m.2.2 l.2.1) (og (o2 (hMu l.2.2 m.2.1) (hMu m.2.2 l.2.1)) (og (o2 l.1 m.2.2) (og (o2 m.1 l.2.2) (og (o2 (hMu l.1 m.2.2) (hMu m.1 l.2.2)) (og (o1 (hid (ao (dK (dec l) (dec m))))) (match(aF (ah (hid (ao (dK (dec l) (dec m))))) 0) !=0 with|true=>(og (decide (ju (hSu (hMu l.2.2 m.2.1) (hMu m.2.2 l.2.1)) (hid (ao (dK (dec l) (dec m)))))) (og (decide (ju (hSu (hMu l.1 m.2.2) (hMu m.1 l.2.2)) (hid (ao (dK (dec l) (dec m)))))) (og (decide (ok (Rat×Rat) 100000 (hDi (hSu (hMu l.2.2 m.2.1) (hMu m.2.2 l.2.1)) (hid (ao (dK (dec l) (dec m)))),hDi (hSu (hMu l.1 m.2.2) (hMu m.1 l.2.2)) (hid (ao (dK (dec l) (dec m))))))) (some [RV.d (.sl tP) ([hid (enc (atP (dec (hDi (hSu (hMu l.2.2 m.2.1) (hMu m.2.2 l.2.1)) (hid (ao (dK (dec l) (dec m)))),hDi (hSu (hMu l.1 m.2.2) (hMu m.1 l.2.2)) (hid (ao (dK (dec l) (dec m))))))))]),RV.d aqw 0]))))|false=>(og (o1 (hSu (hMu l.2.2 m.2.1) (hMu m.2.2 l.2.1))) (match(aF (ah (hSu (hMu l.2.2 m.2.1) (hMu m.2.2 l.2.1))) 0)==0 with|true=>(og (o1 (hSu (hMu l.1 m.2.2) (hMu m.1 l.2.2))) (match(aF (ah (hSu (hMu l.1 m.2.2) (hMu m.1 l.2.2))) 0)==0 with|true=>some [RV.d (.sl tP) ([]),RV.d aqw 10]|false=>some [RV.d (.sl tP) ([]),RV.d aqw 0]))|false=>some [RV.d (.sl tP) ([]),RV.d aqw 0]))))))))))
def Ye:Cn 93 [tO,tO]:=cn λ(l m:BO3)=>lf (cZ l/\cZ m) [.d (.sl tP) ((mC (dec l) (dec m)).map enc),.d aqw (T2 (dec l) (dec m))] λh=>by
 refine aB ES (Yb l m) ⟨0,?_⟩;obtain⟨hl,hm⟩:=h;obtain⟨l,rfl,bl,nl⟩:=fj hl;obtain⟨m,rfl,bm,nm⟩:=fj hm;have ol:=anb (nt (l:=l) nl);have om:=anb (nt (l:=m) nm);have bc:Bd (dK l m) 49:=inferInstanceAs (Bd (l.1*m.2.1-m.1*l.2.1) _);have e1:l.2.2*m.2.1-m.2.2*l.2.1=mH l m:=rfl;have e2:l.1*m.2.2-m.1*l.2.2=mE l m:=rfl;unfold Yb mC T2;simp only[aX,Nat.reduceAdd,Nat.reduceLeDiff,au,bh,ol,om];by_cases h0:dK l m=0
 ·simp only[anb h0,e1,e2,Bool.not_true];cases decide (mH l m=0)<;>cases decide (mE l m=0)<;>rfl
 ·simp only[aX,Nat.reduceAdd,Nat.reduceLeDiff,h0,ne_eq,aoG,Bool.not_false,Lq];rfl
def aaz(l c:BO3)(_k:KT):OLR:=og (decide (cZ l/\ok Rat 4 c.1/\ok Rat 4 c.2.1)) (og (decide (cZ l)) (og (o2 (hid (ao (cr (dec l)))) c.2.2) (og (o2 (hid (ao (vlL (dec l) (ah c.1) (ah c.2.1)))) (hid (ao (vlL (dec l) (ah c.1) (ah c.2.1))))) (og (o2 (hMu (hid (ao (cr (dec l)))) c.2.2) (hMu (hid (ao (vlL (dec l) (ah c.1) (ah c.2.1)))) (hid (ao (vlL (dec l) (ah c.1) (ah c.2.1)))))) (some [RV.d tR (hSu (hMu (hid (ao (cr (dec l)))) c.2.2) (hMu (hid (ao (vlL (dec l) (ah c.1) (ah c.2.1)))) (hid (ao (vlL (dec l) (ah c.1) (ah c.2.1))))))])))))
def ajJ:Cn 189 [tO,tO]:=cn λ(l c:BO3)=>lf (cZ l/\ck c) [.d tR (ao (kB (dec l) (dec c)))] λh=>by
 refine aB ES (aaz l c) ⟨0,?_⟩;obtain⟨hl,hc⟩:=h;obtain⟨l,rfl,bl,nl⟩:=fj hl;obtain⟨c,rfl,bc,nc⟩:=cQ hc;have ol:=anb (nt (l:=l) nl);have bv:Bd (vlL l c.1 c.2.1) 97:=inferInstanceAs (Bd (l.1*c.1+l.2.1*c.2.1-l.2.2) _);have bn:Bd (cr l) 49:=inferInstanceAs (Bd (l.1*l.1+l.2.1*l.2.1) _);unfold aaz kB;simp only[aX,Nat.reduceAdd,Nat.reduceLeDiff,ol]
def Zc(c d:BO3)(_k:KT):OLR:=og (decide (ck c/\ck d)) (match iU (dec c) (dec d)with|true=>some [RV.d tO (((false,[]),(false,[])),(((false,[]),(false,[])),((false,[]),(false,[])))),RV.d aqw 6]|false=>(og (decide (aJ (2:Int))) (og (o2 c.1 c.1) (og (o2 c.2.1 c.2.1) (og (o2 (hMu c.1 c.1) (hMu c.2.1 c.2.1)) (og (o2 (hAd (hMu c.1 c.1) (hMu c.2.1 c.2.1)) c.2.2) (og (o2 d.1 d.1) (og (o2 d.2.1 d.2.1) (og (o2 (hMu d.1 d.1) (hMu d.2.1 d.2.1)) (og (o2 (hAd (hMu d.1 d.1) (hMu d.2.1 d.2.1)) d.2.2) (og (o2 d.1 c.1) (og (o2 (hid (ao ((2:Int):Rat))) (hSu d.1 c.1)) (og (o2 d.2.1 c.2.1) (og (o2 (hid (ao ((2:Int):Rat))) (hSu d.2.1 c.2.1)) (og (o2 (hSu (hAd (hMu d.1 d.1) (hMu d.2.1 d.2.1)) d.2.2) (hSu (hAd (hMu c.1 c.1) (hMu c.2.1 c.2.1)) c.2.2)) (some [RV.d tO (hMu (hid (ao ((2:Int):Rat))) (hSu d.1 c.1),(hMu (hid (ao ((2:Int):Rat))) (hSu d.2.1 c.2.1),hSu (hSu (hAd (hMu d.1 d.1) (hMu d.2.1 d.2.1)) d.2.2) (hSu (hAd (hMu c.1 c.1) (hMu c.2.1 c.2.1)) c.2.2))),RV.d aqw 0]))))))))))))))))
def akE:Cn 188 [tO,tO]:=cn λ(c d:BO3)=>lf (ck c/\ck d) [.d tO (w9 (dec c) (dec d)),.d aqw (UO (dec c) (dec d))] λh=>by
 refine aB ES (Zc c d) ⟨0,?_⟩;obtain⟨hc,hd⟩:=h;obtain⟨c,rfl,bc,nc⟩:=cQ hc;obtain⟨d,rfl,bd,nd⟩:=cQ hd;have oc:=anb (iN (c:=c) nc);have od:=anb (iN (c:=d) nd);have i2:decide (aJ 2)=true:=by decide
 have b2:Bd ((2:Int):Rat) 3:=c7 (by decide);unfold Zc w9 UO;simp only[aX,Nat.reduceAdd,Nat.reduceLeDiff,oc,od,i2];cases iU c d
 ·rfl
 ·rfl
def ZD(c:BO3)(_k:KT):OLR:=og (decide (aJ (1:Int))) (og (decide (aJ (0:Int))) (og (o1 (hid (ao ((1:Int):Rat)))) (og (decide (ok Rat 1000 c.1/\ok Rat 1000 (hNe (hid (ao ((1:Int):Rat))))/\ok Rat 1000 c.2.1/\ok Rat 1000 (hid (ao ((0:Int):Rat)))/\ok Rat 1000 c.2.2)) (og (decide (ok Rat 1000 c.1/\ok Rat 1000 (hid (ao ((1:Int):Rat)))/\ok Rat 1000 c.2.1/\ok Rat 1000 (hid (ao ((0:Int):Rat)))/\ok Rat 1000 c.2.2)) (some [RV.d tP (hid (enc (qr (ah c.1) (ah (hNe (hid (ao ((1:Int):Rat))))) (ah c.2.1) (ah (hid (ao ((0:Int):Rat)))) (ah c.2.2)))),RV.d tP (hid (enc (qr (ah c.1) (ah (hid (ao ((1:Int):Rat)))) (ah c.2.1) (ah (hid (ao ((0:Int):Rat)))) (ah c.2.2))))])))))
def abp:Cn 110 [tO]:=cn λ(c:BO3)=>lf (ck c) [.d tP (enc (nw (dec c))),.d tP (enc (nB (dec c)))] λh=>by
 refine aB ES (ZD c) ⟨0,?_⟩;have hc:=h;obtain⟨c,rfl,bc,nc⟩:=cQ hc;have b0:Bd ((0:Int):Rat) 3:=c7 (by decide);have b1:Bd ((1:Int):Rat) 3:=c7 (by decide);have i0:decide (aJ 0)=true:=by decide
 have i1:decide (aJ 1)=true:=by decide
 unfold ZD nw nB;simp only[aX,Nat.reduceLeDiff,i0,i1];rfl
def QO:List En:=enL Ye::enL ajJ::enL akE::enL abp::ES
def akn:Ctx:=CX (ens QO) []
def aba(l c:BO3)(_k:KT):OLR:=let y1:=hid (ao (kB (dec l) (dec c)));let y2:=hid (ao (vlL (dec l) (ah c.1) (ah c.2.1)));let y3:=hid (ao (cr (dec l)));let y4:=hMu (hDi y2 y3) l.1;let y5:=hMu (hDi y2 y3) l.2.1;let y6:=hDi (hNe l.1) y3;let y7:=hNe (hDi l.2.1 y3);let y8:=ah (hSu c.2.1 y5);let y9:=enc (qr (ah (hSu c.1 y4)) (ah y7) y8 (ah (hNe y6)) (ah y1));let y10:=enc (qr (ah (hSu c.1 y4)) (ah (hDi l.2.1 y3)) y8 (ah y6) (ah y1));og (decide (cZ l/\ck c)) (og (decide (cZ l)) (og (o1 y1) (match decide ((aF (ah y1) 0)<0)with|true=>some [RV.new 37 tP []]|false=>(og (decide (cZ l/\ok Rat 4 c.1/\ok Rat 4 c.2.1)) (og (decide (ju y2 y3)) (og (o2 (hDi y2 y3) l.1) (og (o2 c.1 y4) (og (o2 (hDi y2 y3) l.2.1) (og (o2 c.2.1 y5) (og (o1 y1) (match(aF (ah y1) 0)==0 with|true=>(og (decide (ok (Rat×Rat) 100000 (hSu c.1 y4,hSu c.2.1 y5))) (some [RV.new 37 tP ([hid (enc (atP (dec (hSu c.1 y4,hSu c.2.1 y5))))])]))|false=>(og (decide (ju l.2.1 y3)) (og (o1 l.1) (og (decide (ju (hNe l.1) y3)) (og (o1 (hDi l.2.1 y3)) (og (o1 y6) (og (decide (ok Rat 1000 (hSu c.1 y4)/\ok Rat 1000 y7/\ok Rat 1000 (hSu c.2.1 y5)/\ok Rat 1000 (hNe y6)/\ok Rat 1000 y1)) (og (decide (ok Rat 1000 (hSu c.1 y4)/\ok Rat 1000 (hDi l.2.1 y3)/\ok Rat 1000 (hSu c.2.1 y5)/\ok Rat 1000 y6/\ok Rat 1000 y1)) (og (decide (okP 4000 (hid y9)/\okP 4000 (hid y10))) (match decide ((aZ (dec (hid y9)) (dec (hid y10)))>0)with|true=>some [RV.new 37 tP ([hid y10,hid y9])]|false=>some [RV.new 37 tP ([hid y9,hid y10])]))))))))))))))))))))
theorem ahC(l c:BO3):RS akn 92 [.d tO l,.d tO c] (aba l c):=rsX
def aaB:Cn 92 [tO,tO]:=cn λ(l c:BO3)=>lf (cZ l/\ck c) [.d (.sl tP) ((tb (dec l) (dec c)).map enc)] λh=>by
 refine Con.new_d (et:=37) (dk QO (ahC _ _ ⟨0,?_⟩));obtain⟨hl,hc⟩:=h;obtain⟨l,rfl,bl,nl⟩:=fj hl;obtain⟨c,rfl,bc,nc⟩:=cQ hc;have ol:=anb (nt (l:=l) nl);have oc:=anb (iN (c:=c) nc);have hn:=pP nl;have bv:Bd (vlL l c.1 c.2.1) 97:=inferInstanceAs (Bd (l.1*c.1+l.2.1*c.2.1-l.2.2) _);have bn:Bd (cr l) 49:=inferInstanceAs (Bd (l.1*l.1+l.2.1*l.2.1) _);have e1:c.1-vlL l c.1 c.2.1/cr l*l.1=ftX l c:=rfl;have e2:c.2.1-vlL l c.1 c.2.1/cr l*l.2.1=ftY l c:=rfl;obtain⟨f1,f2,_,_⟩:=v5 (l:=l) (c:=c);unfold aba tb;simp only[aX,Nat.reduceAdd,Nat.reduceLeDiff,au,av,ol,oc,hn,ne_eq,aoG,e1,e2,Lq];by_cases h0:kB l c<0
 ·simp only[anb h0];rfl
 ·simp only[ane h0];by_cases h1:kB l c=0
  ·simp only[anb h1];rfl
  ·have hp:=Nr h0 h1;obtain⟨p1,p2⟩:=OJ (c:=c) nl (show 0<=kB l c by grind);obtain⟨q1,q2⟩:=M5 (l:=l) (c:=c);have g1:qr (ftX l c) (-(l.2.1/cr l)) (ftY l c) (-(-l.1/cr l)) (kB l c)=uN l c:=rfl;have g2:qr (ftX l c) (l.2.1/cr l) (ftY l c) (-l.1/cr l) (kB l c)=vG l c:=rfl;simp only[ane h1,aX,Nat.reduceLeDiff,aQ,g1,g2];cases decide (aZ (uN l c) (vG l c)>0)<;>rfl
def ajd:List En:=enL aaB::QO
def Ya(c d:BO3)(_k:KT):OLR:=og (decide (ck c/\ck d)) (match iU (dec c) (dec d)with|true=>(og (o2 c.2.2 d.2.2) (match(aF (ah c.2.2) (ah d.2.2))==0 with|true=>some [RV.d (.sl tP) ([]),RV.d aqw 10]|false=>some [RV.d (.sl tP) ([]),RV.d aqw 0]))|false=>(og (decide (ck c/\ck d)) (og (decide (cZ (hid (w9 (dec c) (dec d)))/\ck c)) (some [RV.d (.sl tP) ((tb (dec (hid (w9 (dec c) (dec d)))) (dec c)).map enc),RV.d aqw 0]))))
def aiZ:Cn 91 [tO,tO]:=cn λ(c d:BO3)=>lf (ck c/\ck d) [.d (.sl tP) ((Gi (dec c) (dec d)).map enc),.d aqw (Xd (dec c) (dec d))] λh=>by
 refine aB ajd (Ya c d) ⟨0,?_⟩;obtain⟨hc,hd⟩:=h;obtain⟨c,rfl,bc,nc⟩:=cQ hc;obtain⟨d,rfl,bd,nd⟩:=cQ hd;have oc:=anb (iN (c:=c) nc);have od:=anb (iN (c:=d) nd);unfold Ya Gi Xd;simp only[aX,Nat.reduceLeDiff,au,oc,od];cases hc:iU c d
 ·have ol:cZ (enc (oH c d)):=R9 hc;have er:w9 c d=enc (oH c d):=by unfold w9;rw[hc];rfl
  simp only[er,dT ol,aX];try rfl
 ·cases decide (c.2.2=d.2.2)<;>rfl
end
def mG(c:BCU):Prop:=okC 580 c/\vo c
instance (c:BCU):Decidable (mG c):=by unfold mG;infer_instance
def hU(c d:BCU):Prop:=mG c/\mG d
instance (c d:BCU):Decidable (hU c d):=by unfold hU;infer_instance
def D4(c d:BCU):List BP:=bif !cH (dC c) (dC d)then(xf (dC c) (dC d)).map enc else [c.2.2.2.2.1,c.2.2.2.2.2,d.2.2.2.2.1,d.2.2.2.2.2]
def ac8(c d:BCU):List BP:=(D4 c d).filter λp=>onR (dC c) (dec p)&&onR (dC d) (dec p)
def qk(c d:BCU):List BP:=jA (dC c) (ac8 c d)
def Up(c d:BCU):Bool:=bif c.1&&(d.1&&(c.2.2.2.1 !=d.2.2.2.1))then true else !c.1&&(aZ (dec c.2.2.2.2.1) (dec c.2.2.2.2.2) !=aZ (dec d.2.2.2.2.1) (dec d.2.2.2.2.2))
def AB(c d:BCU):BCU:=bif Up c d then uG d else d
def Di(c:Cv):List BP->Bool
 |[]=>false
 |x::r=>match r with
  |[]=>false
  |y::_=>decide (co c (dec x) (dec y)<0)||Di c r
def ahD(c d:BCU):Bool:=cH (dC c) (dC d)&&Di (dC (AB c d)) (qk c d)
def PB:List En:=[enL aiZ,enL aaB,enL Ye,enT adV,enT aey,enT Ju,enT Ph,enK aac,enL OH,enT Ag]
def Ol(a b:BCU)(_k:KT):OLR:=match a.1 with|true=>(match b.1 with|true=>(og (decide (ck a.2.2.1/\ck b.2.2.1)) (some [RV.d (.sl tP) ((Gi (dec a.2.2.1) (dec b.2.2.1)).map enc),RV.d aqw (Xd (dec a.2.2.1) (dec b.2.2.1))]))|false=>(match a.1 with|true=>(og (decide (cZ b.2.1/\ck a.2.2.1)) (some [RV.d (.sl tP) ((tb (dec b.2.1) (dec a.2.2.1)).map enc),RV.d aqw 0]))|false=>(match b.1 with|true=>(og (decide (cZ a.2.1/\ck b.2.2.1)) (some [RV.d (.sl tP) ((tb (dec a.2.1) (dec b.2.2.1)).map enc),RV.d aqw 0]))|false=>(og (decide (cZ a.2.1/\cZ b.2.1)) (some [RV.d (.sl tP) ((mC (dec a.2.1) (dec b.2.1)).map enc),RV.d aqw (T2 (dec a.2.1) (dec b.2.1))])))))|false=>(match a.1 with|true=>(og (decide (cZ b.2.1/\ck a.2.2.1)) (some [RV.d (.sl tP) ((tb (dec b.2.1) (dec a.2.2.1)).map enc),RV.d aqw 0]))|false=>(match b.1 with|true=>(og (decide (cZ a.2.1/\ck b.2.2.1)) (some [RV.d (.sl tP) ((tb (dec a.2.1) (dec b.2.2.1)).map enc),RV.d aqw 0]))|false=>(og (decide (cZ a.2.1/\cZ b.2.1)) (some [RV.d (.sl tP) ((mC (dec a.2.1) (dec b.2.1)).map enc),RV.d aqw (T2 (dec a.2.1) (dec b.2.1))]))))
def ae9:Cn 33 [tCU,tCU]:=cn λ(a b:BCU)=>lf (iR a b) [.d (.sl tP) ((xf (dC a) (dC b)).map enc),.d aqw (abh (dC a) (dC b))] λh=>by
 refine aB PB (Ol a b) ⟨0,?_⟩;obtain⟨⟨a1,a2⟩,b1,b2⟩:=h;unfold Ol xf abh Gi;obtain⟨aa,al,ac,aw,af,at_⟩:=a;obtain⟨ba,bl,bc,bw,bf,bt⟩:=b;cases aa<;>cases ba
 ·have h1:=a2 rfl;have h2:=b2 rfl;simp only[dT (show cZ al/\cZ bl from⟨h1,h2⟩)];rfl
 ·have h1:=a2 rfl;have h2:=b1 rfl;simp only[dT (show cZ al/\ck bc from⟨h1,h2⟩)];rfl
 ·have h1:=a1 rfl;have h2:=b2 rfl;simp only[dT (show cZ bl/\ck ac from⟨h2,h1⟩)];rfl
 ·have h1:=a1 rfl;have h2:=b1 rfl;simp only[dT (show ck ac/\ck bc from⟨h1,h2⟩)];rfl
def aai(a b:BCU)(_k:KT):OLR:=match !(a.1==b.1)with|true=>some [RV.d .bool false]|false=>(match a.1 with|true=>(og (decide (ck a.2.2.1/\ck b.2.2.1)) (some [RV.d .bool (qV (dec a.2.2.1) (dec b.2.2.1))]))|false=>(og (decide (cZ a.2.1/\cZ b.2.1)) (some [RV.d .bool (pq (dec a.2.1) (dec b.2.1))])))
def ajo:Cn 32 [tCU,tCU]:=cn λ(a b:BCU)=>lf (iR a b) [.d .bool (cH (dC a) (dC b))] λh=>by
 refine aB PB (aai a b) ⟨0,?_⟩;obtain⟨⟨a1,a2⟩,b1,b2⟩:=h;unfold aai cH;obtain⟨aa,al,ac,aw,af,at_⟩:=a;obtain⟨ba,bl,bc,bw,bf,bt⟩:=b;cases aa<;>cases ba
 ·have h1:=a2 rfl;have h2:=b2 rfl;simp only[dT (show cZ al/\cZ bl from⟨h1,h2⟩)];rfl
 ·rfl
 ·rfl
 ·have h1:=a1 rfl;have h2:=b1 rfl;simp only[dT (show ck ac/\ck bc from⟨h1,h2⟩)];rfl
def abB:List En:=enL ae9::enT ajo::PB
def acB:NT:=[((8,18),{keep:=[2,3,6,7,8,9],own:=[(8,37,tP)],hl:=4}),((8,47),{keep:=[3,6,8,10,11],hl:=2})]
def un:Ctx:=CX (ens abB) acB
def rQ(c d:BCU)(s9:Int)(r3:List BP):Cfg:=⟨8,[.blk 0,.seq 33],[(2,.box 0 0),(3,.box 1 0),(6,SB (cH (dC c) (dC d))),(7,.d (.sl tP) ((xf (dC c) (dC d)).map enc)),(8,.own 3),(9,SI s9)],[.box 39 (Ty.split tCU c),.box 39 (Ty.split tCU d),.row 37 tP ([c.2.2.2.2.1,c.2.2.2.2.2,d.2.2.2.2.1,d.2.2.2.2.2]),.row 37 tP r3],0,[]⟩
def lI(c d:BCU)(s9:Int)(r3:List BP):Cfg:=⟨8,[.blk 0,.seq 33],[(2,.box 0 0),(3,.box 1 0),(6,SB (cH (dC c) (dC d))),(7,.own 2),(8,.own 3),(9,SI s9)],[.box 39 (Ty.split tCU c),.box 39 (Ty.split tCU d),.row 37 tP ([c.2.2.2.2.1,c.2.2.2.2.2,d.2.2.2.2.1,d.2.2.2.2.2]),.row 37 tP r3],0,[]⟩
def df(c d:BCU)(r3:List BP)(B1:BCU)(s10:Bool)(s11:Int):Cfg:=⟨8,[.blk 2,.seq 58],[(3,.box 1 0),(6,SB (cH (dC c) (dC d))),(8,.d (.sl tP) (jA (dC c) r3)),(10,SB s10),(11,SI s11)],[.box 39 (Ty.split tCU c),.box 39 (Ty.split tCU B1)],0,[]⟩
def RH(c d:BCU)(k:KT):OLR:=og (decide (iR c d)) (match !(cH (dC c) (dC d))with|true=>(og (decide (iR c d)) (k 18 (rQ c d 0 ([]))))|false=>k 18 (lI c d 0 ([])))
theorem ZQ(c d:BCU):RS un 8 [.d tCU c,.d tCU d] (RH c d):=rsX
def r8(c d:BCU)(s9:Int)(r3:List BP)(k:KT):OLR:=match decide (s9<(((xf (dC c) (dC d)).map enc).length:Int))with|true=>(match aS ((xf (dC c) (dC d)).map enc) s9 with|some x1=>(og (decide (okC 3500 c/\okP 3500 x1)) (match onR (dC c) (dec x1)with|true=>(match aS ((xf (dC c) (dC d)).map enc) s9 with|some x2=>(og (decide (okC 3500 d/\okP 3500 x2)) (match onR (dC d) (dec x2)with|true=>(match aS ((xf (dC c) (dC d)).map enc) s9 with|some x3=>(og (decide ((r3.length+([x3]).length)*320<=140737488355328/\r3.length+([x3]).length<=140737488355328)) (k 18 (rQ c d (i64.wrap (s9+1)) (r3++([x3])))))|none=>none)|false=>k 18 (rQ c d (i64.wrap (s9+1)) r3)))|none=>none)|false=>k 18 (rQ c d (i64.wrap (s9+1)) r3)))|none=>none)|false=>(og (decide (zP c r3)) (match c.1 with|true=>(match d.1 with|true=>(match !(c.2.2.2.1==d.2.2.2.1)with|true=>k 47 (df c d r3 (hid (uG d)) false 1)|false=>(match !c.1 with|true=>(og (decide (okP 4000 c.2.2.2.2.1/\okP 4000 c.2.2.2.2.2)) (og (decide (okP 4000 d.2.2.2.2.1/\okP 4000 d.2.2.2.2.2)) (match(aZ (dec c.2.2.2.2.1) (dec c.2.2.2.2.2)) !=(aZ (dec d.2.2.2.2.1) (dec d.2.2.2.2.2))with|true=>k 47 (df c d r3 (hid (uG d)) false 1)|false=>k 47 (df c d r3 d false 1))))|false=>k 47 (df c d r3 d false 1)))|false=>(match !c.1 with|true=>(og (decide (okP 4000 c.2.2.2.2.1/\okP 4000 c.2.2.2.2.2)) (og (decide (okP 4000 d.2.2.2.2.1/\okP 4000 d.2.2.2.2.2)) (match(aZ (dec c.2.2.2.2.1) (dec c.2.2.2.2.2)) !=(aZ (dec d.2.2.2.2.1) (dec d.2.2.2.2.2))with|true=>k 47 (df c d r3 (hid (uG d)) false 1)|false=>k 47 (df c d r3 d false 1))))|false=>k 47 (df c d r3 d false 1)))|false=>(match !c.1 with|true=>(og (decide (okP 4000 c.2.2.2.2.1/\okP 4000 c.2.2.2.2.2)) (og (decide (okP 4000 d.2.2.2.2.1/\okP 4000 d.2.2.2.2.2)) (match(aZ (dec c.2.2.2.2.1) (dec c.2.2.2.2.2)) !=(aZ (dec d.2.2.2.2.1) (dec d.2.2.2.2.2))with|true=>k 47 (df c d r3 (hid (uG d)) false 1)|false=>k 47 (df c d r3 d false 1))))|false=>k 47 (df c d r3 d false 1))))
theorem v9(c d:BCU)(s9:Int)(r3:List BP):RN un 18 (rQ c d s9 r3) (r8 c d s9 r3):=rnX
def m9(c d:BCU)(s9:Int)(r3:List BP)(k:KT):OLR:=match decide (s9<(([c.2.2.2.2.1,c.2.2.2.2.2,d.2.2.2.2.1,d.2.2.2.2.2]).length:Int))with|true=>(match aS ([c.2.2.2.2.1,c.2.2.2.2.2,d.2.2.2.2.1,d.2.2.2.2.2]) s9 with|some _=>(match true,([c.2.2.2.2.1,c.2.2.2.2.2,d.2.2.2.2.1,d.2.2.2.2.2])[(s9).toNat]? with|true,some x1=>(og (decide (okC 3500 c/\okP 3500 x1)) (match onR (dC c) (dec x1)with|true=>(match aS ([c.2.2.2.2.1,c.2.2.2.2.2,d.2.2.2.2.1,d.2.2.2.2.2]) s9 with|some _=>(match true,([c.2.2.2.2.1,c.2.2.2.2.2,d.2.2.2.2.1,d.2.2.2.2.2])[(s9).toNat]? with|true,some x2=>(og (decide (okC 3500 d/\okP 3500 x2)) (match onR (dC d) (dec x2)with|true=>(match aS ([c.2.2.2.2.1,c.2.2.2.2.2,d.2.2.2.2.1,d.2.2.2.2.2]) s9 with|some _=>(match true,([c.2.2.2.2.1,c.2.2.2.2.2,d.2.2.2.2.1,d.2.2.2.2.2])[(s9).toNat]? with|true,some x3=>(og (decide ((r3.length+([x3]).length)*320<=140737488355328/\r3.length+([x3]).length<=140737488355328)) (k 18 (lI c d (i64.wrap (s9+1)) (r3++([x3])))))|_,_=>none)|none=>none)|false=>k 18 (lI c d (i64.wrap (s9+1)) r3)))|_,_=>none)|none=>none)|false=>k 18 (lI c d (i64.wrap (s9+1)) r3)))|_,_=>none)|none=>none)|false=>(og (decide (zP c r3)) (match c.1 with|true=>(match d.1 with|true=>(match !(c.2.2.2.1==d.2.2.2.1)with|true=>k 47 (df c d r3 (hid (uG d)) false 1)|false=>(match !c.1 with|true=>(og (decide (okP 4000 c.2.2.2.2.1/\okP 4000 c.2.2.2.2.2)) (og (decide (okP 4000 d.2.2.2.2.1/\okP 4000 d.2.2.2.2.2)) (match(aZ (dec c.2.2.2.2.1) (dec c.2.2.2.2.2)) !=(aZ (dec d.2.2.2.2.1) (dec d.2.2.2.2.2))with|true=>k 47 (df c d r3 (hid (uG d)) false 1)|false=>k 47 (df c d r3 d false 1))))|false=>k 47 (df c d r3 d false 1)))|false=>(match !c.1 with|true=>(og (decide (okP 4000 c.2.2.2.2.1/\okP 4000 c.2.2.2.2.2)) (og (decide (okP 4000 d.2.2.2.2.1/\okP 4000 d.2.2.2.2.2)) (match(aZ (dec c.2.2.2.2.1) (dec c.2.2.2.2.2)) !=(aZ (dec d.2.2.2.2.1) (dec d.2.2.2.2.2))with|true=>k 47 (df c d r3 (hid (uG d)) false 1)|false=>k 47 (df c d r3 d false 1))))|false=>k 47 (df c d r3 d false 1)))|false=>(match !c.1 with|true=>(og (decide (okP 4000 c.2.2.2.2.1/\okP 4000 c.2.2.2.2.2)) (og (decide (okP 4000 d.2.2.2.2.1/\okP 4000 d.2.2.2.2.2)) (match(aZ (dec c.2.2.2.2.1) (dec c.2.2.2.2.2)) !=(aZ (dec d.2.2.2.2.1) (dec d.2.2.2.2.2))with|true=>k 47 (df c d r3 (hid (uG d)) false 1)|false=>k 47 (df c d r3 d false 1))))|false=>k 47 (df c d r3 d false 1))))
theorem qD(c d:BCU)(s9:Int)(r3:List BP):RN un 18 (lI c d s9 r3) (m9 c d s9 r3):=rnX
def rv(c d:BCU)(r3:List BP)(B1:BCU)(s10:Bool)(s11:Int)(k:KT):OLR:=match cH (dC c) (dC d)with|true=>(match decide (s11<((jA (dC c) r3).length:Int))with|true=>(match s10 with|true=>k 47 (df c d r3 B1 true (i64.wrap (s11+1)))|false=>(match aS (jA (dC c) r3) (i64.wrap (s11-1))with|some x1=>(match aS (jA (dC c) r3) s11 with|some x2=>(og (decide (okC 4000 B1/\okP 4000 x1/\okP 4000 x2)) (k 47 (df c d r3 B1 (decide ((co (dC B1) (dec x1) (dec x2))<0)) (i64.wrap (s11+1)))))|none=>none)|none=>none))|false=>some [RV.d (.sl tP) (jA (dC c) r3),RV.d .bool s10])|false=>some [RV.d (.sl tP) (jA (dC c) r3),RV.d .bool s10]
theorem wB(c d:BCU)(r3:List BP)(B1:BCU)(s10:Bool)(s11:Int):RN un 47 (df c d r3 B1 s10 s11) (rv c d r3 B1 s10 s11):=rnX
theorem NG{c:Cv}{S:List BP}{i:Nat}(h1:1<=i)(hi:i<S.length):Di c (S.drop (i-1))=(decide (co c (dec S[i-1]) (dec S[i])<0)||Di c (S.drop i)):=by
 have hd:S.drop (i-1)=S[i-1]::S.drop i:=by
  have:=anu (l:=S) (i:=i-1) (by omega);rw[this,show i-1+1=i by omega]
 have hd2:S.drop i=S[i]::S.drop (i+1):=anu hi;rw[hd,hd2];rfl
theorem Wd{c:Cv}{S:List BP}(h:S.length<=1):Di c S=false:=by
 match S,h with
 |[],_=>rfl
 |[_],_=>rfl
theorem acJ(c d:BCU)(r3 S:List BP)(hS:jA (dC c) r3=S)(hl:S.length<=1000000)(ho:∀x∈S,okP 4000 x)(B:BCU)(hB:okC 4000 B):∀(j i:Nat),1<=i->i+j=max S.length 1->∀s:Bool,
  un.Runs 47 (df c d r3 B s (i:Int)) [.d (.sl tP) S,.d .bool (bif cH (dC c) (dC d)then s||Di (dC B) (S.drop (i-1))else s)]:=by
 intro j;induction j with
 |zero=>
  intro i h1 hi s;refine wB _ _ _ _ _ _ ⟨0,?_⟩;unfold rv;rw[hS,b8 (by omega),Wd (by rw[apz];omega),Bool.or_false];cases cH (dC c) (dC d)<;>rfl
 |succ j ih=>
  intro i h1 hi s;have hil:i<S.length:=by omega
  have e1:i64.wrap ((i:Int)-1)=((i-1:Nat):Int):=by rw[aV (by omega) (by omega)];omega
  have e2:i64.wrap ((i:Int)+1)=((i+1:Nat):Int):=bW (by omega);have g1:aS S ((i-1:Nat):Int)=some S[i-1]:=by rw[aq,anc (by omega)]
  have g2:aS S (i:Int)=some S[i]:=by rw[aq,anc hil]
  cases hs:cH (dC c) (dC d)
  ·refine wB _ _ _ _ _ _ ⟨0,?_⟩;unfold rv;rw[hS,hs];rfl
  ·obtain⟨n,hn⟩:=ih (i+1) (by omega) (by omega) (s||decide (co (dC B) (dec S[i-1]) (dec S[i])<0));refine wB _ _ _ _ _ _ ⟨n,?_⟩;unfold rv;rw[hS,hs,bH hil,e1,e2,g1,g2];dsimp only;rw[dT (show okC 4000 B/\okP 4000 S[i-1]/\okP 4000 S[i] from⟨hB,ho _ (anG _),ho _ (anG _)⟩)];rw[hs,Nat.add_sub_cancel,Bool.or_assoc,<-NG h1 hil]at hn;cases s
   ·exact hn
   ·simp only[Bool.true_or,cond_true]at hn ⊢;exact hn
theorem JR{c:Cv}{l:List BP}{p:BP->Prop}(h:∀x∈l,p x):∀x∈jA c l,p x:=λx hx=>by
 rcases Cr hx with h'|h'
 ·cases h'
 ·exact h x h'
theorem Kf(c d:BCU)(h:hU c d)(r3:List BP)(hl:r3.length<=100)(ho:∀x∈r3,okP 580 x):∃n,(match decide (zP c r3)with
  |true=>un.k n 47 (df c d r3 (AB c d) false 1)
  |false=>none)=some [.d (.sl tP) (jA (dC c) r3),.d .bool (cH (dC c) (dC d)&&Di (dC (AB c d)) (jA (dC c) r3))]:=by
 have hs:zP c r3:=⟨cj h.1.1 (by decide) (by decide),by omega,λx hx=>cS (ho x hx) (by decide) (by decide)⟩
 have hR:okC 4000 (AB c d):=by
  unfold AB;have:=cj (k:=4000) h.2.1 (by decide) (by decide);cases Up c d
  ·exact this
  ·exact MR 4000 this
 have hlen:=yi (dC c) r3 [];obtain⟨n,hn⟩:=acJ c d r3 _ rfl (by simp at hlen;unfold jA;omega) (JR (λx hx=>cS (ho x hx) (by decide) (by decide))) (AB c d) hR (max (jA (dC c) r3).length 1-1) 1 (ani _) (by omega) false;refine⟨n,?_⟩;rw[dT hs];refine hn.trans ?_;cases cH (dC c) (dC d)<;>rfl
theorem D2{l c:Ln}[BdL l][BdC c](hl:l.1≠0\/l.2.1≠0):(tb l c).length<=2/\∀p∈tb l c,Bd p 490/\Rpd p:=by
 unfold tb;by_cases h0:kB l c<0
 ·rw[anb h0];exact⟨by simp,λp hp=>by cases hp⟩
 ·rw[ane h0];by_cases h1:kB l c=0
  ·rw[anb h1];obtain⟨f1,f2,_,_⟩:=v5 (l:=l) (c:=c);refine⟨by simp,λp hp=>?_⟩;have:p=atP (ftX l c,ftY l c):=by simpa using hp
   rw[this];exact⟨(inferInstance:Bd (atP (ftX l c,ftY l c)) _).mono (by decide),inferInstance⟩
  ·rw[ane h1];obtain⟨p1,p2⟩:=OJ (c:=c) hl (show 0<=kB l c by grind);obtain⟨q1,q2⟩:=M5 (l:=l) (c:=c);cases decide (aZ (uN l c) (vG l c)>0)
   ·refine⟨by simp,λp hp=>?_⟩;have:p=uN l c\/p=vG l c:=by simpa using hp
    rcases this with e|e<;>rw[e]
    ·exact⟨q1,p1⟩
    ·exact⟨q2,p2⟩
   ·refine⟨by simp,λp hp=>?_⟩;have:p=vG l c\/p=uN l c:=by simpa using hp
    rcases this with e|e<;>rw[e]
    ·exact⟨q2,p2⟩
    ·exact⟨q1,p1⟩
theorem yd{l m:Ln}[BdL l][BdL m]:(mC l m).length<=2/\∀p∈mC l m,Bd p 490/\Rpd p:=by
 unfold mC;cases decide (dK l m=0)
 ·have bc:Bd (dK l m) 49:=inferInstanceAs (Bd (l.1*m.2.1-m.1*l.2.1) _);have bx:Bd (mH l m) 151:=inferInstanceAs (Bd (l.2.2*m.2.1-m.2.2*l.2.1) _);have b_:Bd (mE l m) 151:=inferInstanceAs (Bd (l.1*m.2.2-m.1*l.2.2) _);refine⟨by simp,λp hp=>?_⟩;have:p=atP (mH l m/dK l m,mE l m/dK l m):=by simpa using hp
  rw[this];exact⟨(inferInstance:Bd (atP (mH l m/dK l m,mE l m/dK l m)) _).mono (by decide),inferInstance⟩
 ·exact⟨by simp,λp hp=>by cases hp⟩
theorem WH{c d:BCU}(h:iR c d):(xf (dC c) (dC d)).length<=2/\∀p∈xf (dC c) (dC d),Bd p 490/\Rpd p:=by
 obtain⟨⟨a1,a2⟩,b1,b2⟩:=h;obtain⟨aa,al,ac,aw,af,at_⟩:=c;obtain⟨ba,bl,bc,bw,bf,bt⟩:=d
 have ex1:∀x:BO3,cZ x->BdL (dec x)/\((dec x:Ln).1≠0\/(dec x:Ln).2.1≠0):=λx h=>by
  obtain⟨l,rfl,bl,nl⟩:=fj h;rw[aA];exact⟨bl,nl⟩
 have ex2:∀x:BO3,ck x->BdC (dec x):=λx h=>by
  obtain⟨l,rfl,bl,nl⟩:=cQ h;rw[aA];exact bl
 unfold xf;cases aa<;>cases ba
 ·obtain⟨i1,_⟩:=ex1 _ (a2 rfl);obtain⟨i2,_⟩:=ex1 _ (b2 rfl);exact yd (l:=dec al) (m:=dec bl)
 ·obtain⟨i1,n1⟩:=ex1 _ (a2 rfl);have i2:=ex2 _ (b1 rfl);exact D2 (l:=dec al) (c:=dec bc) n1
 ·have i1:=ex2 _ (a1 rfl);obtain⟨i2,n2⟩:=ex1 _ (b2 rfl);exact D2 (l:=dec bl) (c:=dec ac) n2
 ·have i1:=ex2 _ (a1 rfl);have i2:=ex2 _ (b1 rfl);show(Gi (dec ac) (dec bc)).length<=2/\∀p∈Gi (dec ac) (dec bc),Bd p 490/\Rpd p;unfold Gi;cases hc:iU (dec ac) (dec bc)
  ·have i3:BdL (oH (dec ac) (dec bc)):=Ad;exact D2 (vX hc)
  ·exact⟨by simp,λp hp=>by cases hp⟩
theorem JX{c d:BCU}(h:hU c d):(D4 c d).length<=4/\∀x∈D4 c d,okP 580 x:=by
 obtain⟨⟨h1,h2⟩,h3,h4⟩:=h;unfold D4;cases cH (dC c) (dC d)
 ·obtain⟨g1,g2⟩:=WH (show iR c d from⟨h2,h4⟩);refine⟨by simp only[Bool.not_false,cond_true,aoV];omega,λx hx=>?_⟩;obtain⟨p,hp,rfl⟩:=ao5.1 hx;obtain⟨b,r⟩:=g2 p hp;exact anf (aQ (j:=490) (by decide) (by decide))
 ·refine⟨by simp,λx hx=>?_⟩;have:x=c.2.2.2.2.1\/x=c.2.2.2.2.2\/x=d.2.2.2.2.1\/x=d.2.2.2.2.2:=by simpa using hx
  rcases this with e|e|e|e<;>rw[e]
  ·exact h1.2.2.1
  ·exact h1.2.2.2
  ·exact h3.2.2.1
  ·exact h3.2.2.2
def oC(c d:BCU)(p:BP):Bool:=onR (dC c) (dec p)&&onR (dC d) (dec p)
theorem Hp(c d:BCU)(h:hU c d)(L:List BP)(hL:(xf (dC c) (dC d)).map enc=L)(h4:L.length<=4)(ho:∀x∈L,okP 580 x):∀(j i:Nat),i+j=L.length->∀r3:List BP,r3.length<=i->(∀x∈r3,okP 580 x)->
  un.Runs 18 (rQ c d (i:Int) r3) [.d (.sl tP) (jA (dC c) (r3++(L.drop i).filter (oC c d))),.d .bool (cH (dC c) (dC d)&&Di (dC (AB c d)) (jA (dC c) (r3++(L.drop i).filter (oC c d))))]:=by
 intro j;induction j with
 |zero=>
  intro i hi r3 hr h3;obtain⟨n,hn⟩:=Kf c d h r3 (by omega) h3;refine v9 _ _ _ _ ⟨n,?_⟩;have hd:L.drop i=[]:=List.drop_eq_nil_iff.2 (by omega);rw[hd,apX,anM,<-hn];unfold r8;rw[hL,b8 (by omega)];have hs:zP c r3:=⟨cj h.1.1 (by decide) (by decide),by omega,λx hx=>cS (h3 x hx) (by decide) (by decide)⟩
  have o1:decide (okP 4000 c.2.2.2.2.1/\okP 4000 c.2.2.2.2.2)=true:=anb ⟨cS h.1.1.2.2.1 (by decide) (by decide),cS h.1.1.2.2.2 (by decide) (by decide)⟩;have o2:decide (okP 4000 d.2.2.2.2.1/\okP 4000 d.2.2.2.2.2)=true:=anb ⟨cS h.2.1.2.2.1 (by decide) (by decide),cS h.2.1.2.2.2 (by decide) (by decide)⟩;rw[dT hs,o1,o2];dsimp only;unfold AB Up bne;simp only[bL];cases c.1<;>cases d.1<;>cases(c.2.2.2.1==d.2.2.2.1)<;>cases(aZ (dec c.2.2.2.2.1) (dec c.2.2.2.2.2)==aZ (dec d.2.2.2.2.1) (dec d.2.2.2.2.2))<;>rfl
 |succ j ih=>
  intro i hi r3 hr h3;have hil:i<L.length:=by omega
  have e2:i64.wrap ((i:Int)+1)=((i+1:Nat):Int):=bW (by omega);have g2:aS L (i:Int)=some L[i]:=by rw[aq,anc hil]
  have g3:L[((i:Int)).toNat]?=some L[i]:=by rw[show((i:Int)).toNat=i by omega,anc hil]
  have hx:=ho _ (anG hil);have hd:L.drop i=L[i]::L.drop (i+1):=anu hil;have ox:=cS (k:=3500) hx (by decide) (by decide);have o1:decide (okC 3500 c/\okP 3500 L[i])=true:=anb ⟨cj h.1.1 (by decide) (by decide),ox⟩;have o2:decide (okC 3500 d/\okP 3500 L[i])=true:=anb ⟨cj h.2.1 (by decide) (by decide),ox⟩
  have hf:(L.drop i).filter (oC c d)=bif oC c d L[i]then L[i]::(L.drop (i+1)).filter (oC c d)else(L.drop (i+1)).filter (oC c d):=by
   rw[hd,ao4];cases oC c d L[i]<;>rfl
  cases hb:oC c d L[i]
  ·rw[hb]at hf;obtain⟨n,hn⟩:=ih (i+1) (by omega) r3 (by omega) h3;refine v9 _ _ _ _ ⟨n,?_⟩;rw[hf];dsimp only[cond_false];rw[<-hn];unfold oC at hb;unfold r8;rw[hL,bH hil,g2,e2];dsimp only;try rw[g3]
   try dsimp only
   rw[o1,o2];cases h1:onR (dC c) (dec L[i])
   ·rfl
   ·rw[h1,aow]at hb;rw[hb]
  ·rw[hb]at hf
   obtain⟨n,hn⟩:=ih (i+1) (by omega) (r3++[L[i]]) (by simp;omega) (λx hx'=>by
    rcases anR.1 hx' with h'|h'
    ·exact h3 x h'
    ·have:x=L[i]:=by simpa using h'
     rw[this];exact hx)
   refine v9 _ _ _ _ ⟨n,?_⟩;rw[hf];dsimp only[cond_true];rw[anD]at hn;refine Eq.trans ?_ hn;unfold oC at hb;obtain⟨h1,h2⟩:=anm.1 hb;unfold r8;rw[hL,bH hil,g2,e2];dsimp only;try rw[g3]
   try dsimp only
   rw[o1,o2,h1,h2];dsimp only;rw[dT (by simp;omega)]
theorem B5(c d:BCU)(h:hU c d)(L:List BP)(hL:[c.2.2.2.2.1,c.2.2.2.2.2,d.2.2.2.2.1,d.2.2.2.2.2]=L)(h4:L.length<=4)(ho:∀x∈L,okP 580 x):∀(j i:Nat),i+j=L.length->∀r3:List BP,r3.length<=i->(∀x∈r3,okP 580 x)->
  un.Runs 18 (lI c d (i:Int) r3) [.d (.sl tP) (jA (dC c) (r3++(L.drop i).filter (oC c d))),.d .bool (cH (dC c) (dC d)&&Di (dC (AB c d)) (jA (dC c) (r3++(L.drop i).filter (oC c d))))]:=by
 intro j;induction j with
 |zero=>
  intro i hi r3 hr h3;obtain⟨n,hn⟩:=Kf c d h r3 (by omega) h3;refine qD _ _ _ _ ⟨n,?_⟩;have hd:L.drop i=[]:=List.drop_eq_nil_iff.2 (by omega);rw[hd,apX,anM,<-hn];unfold m9;rw[hL,b8 (by omega)];have hs:zP c r3:=⟨cj h.1.1 (by decide) (by decide),by omega,λx hx=>cS (h3 x hx) (by decide) (by decide)⟩
  have o1:decide (okP 4000 c.2.2.2.2.1/\okP 4000 c.2.2.2.2.2)=true:=anb ⟨cS h.1.1.2.2.1 (by decide) (by decide),cS h.1.1.2.2.2 (by decide) (by decide)⟩;have o2:decide (okP 4000 d.2.2.2.2.1/\okP 4000 d.2.2.2.2.2)=true:=anb ⟨cS h.2.1.2.2.1 (by decide) (by decide),cS h.2.1.2.2.2 (by decide) (by decide)⟩;rw[dT hs,o1,o2];dsimp only;unfold AB Up bne;simp only[bL];cases c.1<;>cases d.1<;>cases(c.2.2.2.1==d.2.2.2.1)<;>cases(aZ (dec c.2.2.2.2.1) (dec c.2.2.2.2.2)==aZ (dec d.2.2.2.2.1) (dec d.2.2.2.2.2))<;>rfl
 |succ j ih=>
  intro i hi r3 hr h3;have hil:i<L.length:=by omega
  have e2:i64.wrap ((i:Int)+1)=((i+1:Nat):Int):=bW (by omega);have g2:aS L (i:Int)=some L[i]:=by rw[aq,anc hil]
  have g3:L[((i:Int)).toNat]?=some L[i]:=by rw[show((i:Int)).toNat=i by omega,anc hil]
  have hx:=ho _ (anG hil);have hd:L.drop i=L[i]::L.drop (i+1):=anu hil;have ox:=cS (k:=3500) hx (by decide) (by decide);have o1:decide (okC 3500 c/\okP 3500 L[i])=true:=anb ⟨cj h.1.1 (by decide) (by decide),ox⟩;have o2:decide (okC 3500 d/\okP 3500 L[i])=true:=anb ⟨cj h.2.1 (by decide) (by decide),ox⟩
  have hf:(L.drop i).filter (oC c d)=bif oC c d L[i]then L[i]::(L.drop (i+1)).filter (oC c d)else(L.drop (i+1)).filter (oC c d):=by
   rw[hd,ao4];cases oC c d L[i]<;>rfl
  cases hb:oC c d L[i]
  ·rw[hb]at hf;obtain⟨n,hn⟩:=ih (i+1) (by omega) r3 (by omega) h3;refine qD _ _ _ _ ⟨n,?_⟩;rw[hf];dsimp only[cond_false];rw[<-hn];unfold oC at hb;unfold m9;rw[hL,bH hil,g2,e2];dsimp only;try rw[g3]
   try dsimp only
   rw[o1,o2];cases h1:onR (dC c) (dec L[i])
   ·rfl
   ·rw[h1,aow]at hb;rw[hb]
  ·rw[hb]at hf
   obtain⟨n,hn⟩:=ih (i+1) (by omega) (r3++[L[i]]) (by simp;omega) (λx hx'=>by
    rcases anR.1 hx' with h'|h'
    ·exact h3 x h'
    ·have:x=L[i]:=by simpa using h'
     rw[this];exact hx)
   refine qD _ _ _ _ ⟨n,?_⟩;rw[hf];dsimp only[cond_true];rw[anD]at hn;refine Eq.trans ?_ hn;unfold oC at hb;obtain⟨h1,h2⟩:=anm.1 hb;unfold m9;rw[hL,bH hil,g2,e2];dsimp only;try rw[g3]
   try dsimp only
   rw[o1,o2,h1,h2];dsimp only;rw[dT (by simp;omega)]
def Yp:Cn 8 [tCU,tCU]:=cn λ(c d:BCU)=>lf (hU c d) [.d (.sl tP) (qk c d),.d .bool (ahD c d)] λh=>by
 obtain⟨h4,ho⟩:=JX h;have hsp:iR c d:=⟨h.1.2,h.2.2⟩
 refine dk abB (show un.Res _ _ _ from ?_);unfold D4 at h4 ho;unfold qk ahD qk ac8 D4;cases hs:cH (dC c) (dC d)
 ·rw[hs]at h4 ho;obtain⟨n,hn⟩:=Hp c d h _ rfl h4 ho _ 0 (anO _) [] (ani _) (λx hx=>by cases hx);refine ZQ _ _ ⟨n,?_⟩;unfold RH;rw[dT hsp,hs];rw[hs]at hn;exact hn
 ·rw[hs]at h4 ho;obtain⟨n,hn⟩:=B5 c d h _ rfl h4 ho _ 0 (anO _) [] (ani _) (λx hx=>by cases hx);refine ZQ _ _ ⟨n,?_⟩;unfold RH;rw[dT hsp,hs];rw[hs]at hn;exact hn
def i8P(n:Int):Prop:= -128<=n/\n<=127
instance (n:Int):Decidable (i8P n):=by unfold i8P;infer_instance
def u8P(n:Int):Prop:=0<=n/\n<=255
instance (n:Int):Decidable (u8P n):=by unfold u8P;infer_instance
def atQ(n u:Int):Rat:=Rat.divInt n (u%4+1)
def xh(c:BO3):List BCU:=[(true,o00,c,false,enc (nw (dec c)),enc (nB (dec c))),(true,o00,c,false,enc (nB (dec c)),enc (nw (dec c)))]
abbrev tDr:Ty:=.st (.pair (.int .u8) (.pair (.int .u8) (.pair (.int .i8) (.pair (.int .i8) (.pair (.int .i8) (.pair (.int .i8) (.pair (.int .i8) (.int .i8))))))))
abbrev tM:Ty:=.st (.pair tDr (.pair tDr (.int .u8)))
abbrev Dr:=Int×Int×Int×Int×Int×Int×Int×Int
abbrev Pce:=Dr×Dr×Int
def yV(x:Dr):Prop:=u8P x.1/\u8P x.2.1/\i8P x.2.2.1/\i8P x.2.2.2.1/\i8P x.2.2.2.2.1/\i8P x.2.2.2.2.2.1/\i8P x.2.2.2.2.2.2.1/\i8P x.2.2.2.2.2.2.2
instance (x:Dr):Decidable (yV x):=by unfold yV;infer_instance
def drA(x:Dr):Rat×Rat:=(atQ x.2.2.1 x.2.1,atQ x.2.2.2.1 x.2.1)
def drB(x:Dr):Rat×Rat:=(atQ x.2.2.2.2.1 x.2.1,atQ x.2.2.2.2.2.1 x.2.1)
def drC(x:Dr):Rat×Rat:=(atQ x.2.2.2.2.2.2.1 x.2.1,atQ x.2.2.2.2.2.2.2 x.2.1)
def drQ(x:Dr):Ln:=((drA x).1,(drA x).2,(drB x).1)
def ofL(x:Dr):List BCU:=
 bif x.1%3==2 then(bif decide ((drB x).1<=0)then []else xh (enc (drQ x)))
 else bif x.1%3==1 then(bif arcE (drA x) (drB x) (drC x) !=0 then []else [nG (drA x) (drB x) (drC x)])
 else bif segE (drA x) (drB x) !=0 then []else [kj (drA x) (drB x)]
theorem JK{u k:Int}(h:u8P u):Int.tmod u k=u%k:=Int.tmod_eq_emod_of_nonneg h.1
theorem yA{n u:Int}(h:i8P n)(_h':u8P u):Bb (atQ n u) 7 2:=by
 unfold atQ;obtain⟨h1,h2⟩:=h;exact Xp (by omega) (by show n.natAbs<=128;omega) (by show(u%4+1).natAbs<=4;omega)
theorem Con.dd{P:Program}{f:Nat}{args:List SV}{et:TypeId}{e:Ty}{xs:List e.D}{r:RV}(h:Con P f args [r])(hr:r=.new et e xs\/r=.d (.sl e) xs):Con P f args [.d (.sl e) xs]:=by
 rcases hr with rfl|rfl
 ·exact Con.new_d h
 ·exact h
def IQ:List En:=[enL Ih,enL abp,enT qZ,enL Qz,enL Sb]
def aau(n u:Int)(_k:KT):OLR:=og (decide (AH (i64.wrap n) (i64.wrap ((i64.wrap (Int.tmod u 4))+1)))) (some [RV.d tR (hid (ao (Rat.divInt (i64.wrap n) (i64.wrap ((i64.wrap (Int.tmod u 4))+1)))))])
def ahb:Cn 45 [(.int .i8),(.int .u8)]:=cn λ(n u:Int)=>lf (i8P n/\u8P u) [.d tR (ao (atQ n u))] λh=>by
 refine aB IQ (aau n u) ⟨0,?_⟩;obtain⟨hn,hu⟩:=h;have e0:=JK (k:=4) hu;obtain⟨n1,n2⟩:=hn;unfold aau;rw[e0,aV (x:=n) (by omega) (by omega),aV (x:=u%4) (by omega) (by omega),aV (x:=u%4+1) (by omega) (by omega),dT (show AH n (u%4+1) from⟨⟨by omega,by omega⟩,⟨by omega,by omega⟩,by omega⟩)];simp only[bL];rfl
def ah2:Ctx:=CX (ens IQ) []
def YC(c:BO3)(_k:KT):OLR:=og (decide (ck c)) (some [RV.new 39 tCU ([(true,((((false,[]),(false,[])),(((false,[]),(false,[])),((false,[]),(false,[])))),(c,(false,(hid (enc (nw (dec c))),hid (enc (nB (dec c)))))))),(true,((((false,[]),(false,[])),(((false,[]),(false,[])),((false,[]),(false,[])))),(c,(false,(hid (enc (nB (dec c))),hid (enc (nw (dec c))))))))])])
theorem ai1(c:BO3):RS ah2 47 [.d tO c] (YC c):=rsX
def ZS:Cn 47 [tO]:=cn λ(c:BO3)=>lf (ck c) [.d (.sl tCU) (xh c)] λh=>by
 refine Con.new_d (et:=39) (dk IQ (ai1 _ ⟨0,?_⟩));unfold YC;rw[dT h];simp only[bL];rfl
def ZY:List En:=enL ahb::enL ZS::IQ
def aat:Ctx:=CX (ens ZY) []
def NA(x:Dr)(_k:KT):OLR:=og (decide (i8P x.2.2.1/\u8P x.2.1)) (og (decide (i8P x.2.2.2.1/\u8P x.2.1)) (og (decide (i8P x.2.2.2.2.1/\u8P x.2.1)) (og (decide (i8P x.2.2.2.2.2.1/\u8P x.2.1)) (match(Int.tmod x.1 3)==2 with|true=>(og (decide (i8P x.2.2.2.2.1/\u8P x.2.1)) (og (o1 (hid (ao (atQ x.2.2.2.2.1 x.2.1)))) (match decide ((aF (ah (hid (ao (atQ x.2.2.2.2.1 x.2.1)))) 0)<=0)with|true=>some [RV.new 39 tCU []]|false=>(og (decide (ck (hid (ao (atQ x.2.2.1 x.2.1)),(hid (ao (atQ x.2.2.2.1 x.2.1)),hid (ao (atQ x.2.2.2.2.1 x.2.1)))))) (some [RV.d (.sl tCU) (xh (hid (ao (atQ x.2.2.1 x.2.1)),(hid (ao (atQ x.2.2.2.1 x.2.1)),hid (ao (atQ x.2.2.2.2.1 x.2.1)))))])))))|false=>(og (decide (ok (Rat×Rat) 100 (hid (ao (atQ x.2.2.1 x.2.1)),hid (ao (atQ x.2.2.2.1 x.2.1)))/\ok (Rat×Rat) 100 (hid (ao (atQ x.2.2.2.2.1 x.2.1)),hid (ao (atQ x.2.2.2.2.2.1 x.2.1))))) (match(Int.tmod x.1 3)==1 with|true=>(og (decide (i8P x.2.2.2.2.2.2.1/\u8P x.2.1)) (og (decide (i8P x.2.2.2.2.2.2.2/\u8P x.2.1)) (og (decide (ok (Rat×Rat) 100 (hid (ao (atQ x.2.2.1 x.2.1)),hid (ao (atQ x.2.2.2.1 x.2.1)))/\ok (Rat×Rat) 100 (hid (ao (atQ x.2.2.2.2.1 x.2.1)),hid (ao (atQ x.2.2.2.2.2.1 x.2.1)))/\ok (Rat×Rat) 100 (hid (ao (atQ x.2.2.2.2.2.2.1 x.2.1)),hid (ao (atQ x.2.2.2.2.2.2.2 x.2.1))))) (match(arcE (dec (hid (ao (atQ x.2.2.1 x.2.1)),hid (ao (atQ x.2.2.2.1 x.2.1)))) (dec (hid (ao (atQ x.2.2.2.2.1 x.2.1)),hid (ao (atQ x.2.2.2.2.2.1 x.2.1)))) (dec (hid (ao (atQ x.2.2.2.2.2.2.1 x.2.1)),hid (ao (atQ x.2.2.2.2.2.2.2 x.2.1))))) !=0 with|true=>some [RV.new 39 tCU []]|false=>some [RV.new 39 tCU ([hid (nG (dec (hid (ao (atQ x.2.2.1 x.2.1)),hid (ao (atQ x.2.2.2.1 x.2.1)))) (dec (hid (ao (atQ x.2.2.2.2.1 x.2.1)),hid (ao (atQ x.2.2.2.2.2.1 x.2.1)))) (dec (hid (ao (atQ x.2.2.2.2.2.2.1 x.2.1)),hid (ao (atQ x.2.2.2.2.2.2.2 x.2.1)))))])]))))|false=>(match(segE (dec (hid (ao (atQ x.2.2.1 x.2.1)),hid (ao (atQ x.2.2.2.1 x.2.1)))) (dec (hid (ao (atQ x.2.2.2.2.1 x.2.1)),hid (ao (atQ x.2.2.2.2.2.1 x.2.1))))) !=0 with|true=>some [RV.new 39 tCU []]|false=>some [RV.new 39 tCU ([hid (kj (dec (hid (ao (atQ x.2.2.1 x.2.1)),hid (ao (atQ x.2.2.2.1 x.2.1)))) (dec (hid (ao (atQ x.2.2.2.2.1 x.2.1)),hid (ao (atQ x.2.2.2.2.2.1 x.2.1)))))])])))))))
theorem akB(x:Dr):RS aat 14 [.d tDr x] (NA x):=rsX
def Yt:Cn 14 [tDr]:=cn λ(x:Dr)=>lf (yV x) [.d (.sl tCU) (ofL x)] λh=>by
 obtain⟨h1,h2,hA,hB,hC,hD,hE,hF⟩:=h;have at_bd:∀n,i8P n->Bd (atQ n x.2.1) 1:=λn hn=>EE (h:=yA hn h2) (by decide) (by decide);have bA:=at_bd _ hA;have bB:=at_bd _ hB;have bC:=at_bd _ hC;have bD:=at_bd _ hD;have bE:=at_bd _ hE;have bF:=at_bd _ hF;have vA:Bd (drA x) 1:=inferInstanceAs (Bd (atQ x.2.2.1 x.2.1,atQ x.2.2.2.1 x.2.1) _);have vB:Bd (drB x) 1:=inferInstanceAs (Bd (atQ x.2.2.2.2.1 x.2.1,atQ x.2.2.2.2.2.1 x.2.1) _);have vC:Bd (drC x) 1:=inferInstanceAs (Bd (atQ x.2.2.2.2.2.2.1 x.2.1,atQ x.2.2.2.2.2.2.2 x.2.1) _);have eA:((ao (atQ x.2.2.1 x.2.1),ao (atQ x.2.2.2.1 x.2.1)):BV)=enc (drA x):=rfl;have eB:((ao (atQ x.2.2.2.2.1 x.2.1),ao (atQ x.2.2.2.2.2.1 x.2.1)):BV)=enc (drB x):=rfl;have eC:((ao (atQ x.2.2.2.2.2.2.1 x.2.1),ao (atQ x.2.2.2.2.2.2.2 x.2.1)):BV)=enc (drC x):=rfl;have eQ:((ao (atQ x.2.2.1 x.2.1),ao (atQ x.2.2.2.1 x.2.1),ao (atQ x.2.2.2.2.1 x.2.1)):BO3)=enc (drQ x):=rfl;have tm:=JK (k:=3) h1;have run:∀r:RV,NA x (aat.k 0)=some [r]->(r=.new 39 tCU (ofL x)\/r=.d (.sl tCU) (ofL x))->CQq7 14 [.d tDr x] [.d (.sl tCU) (ofL x)]:=λr e g=>Con.dd (dk ZY (akB _ ⟨0,e⟩)) g;unfold NA at run;unfold ofL at run ⊢;simp only[aX,Nat.reduceLeDiff,tm,eQ,eA,eB,eC,dT (show i8P _/\u8P _ from⟨hA,h2⟩),dT (show i8P _/\u8P _ from⟨hB,h2⟩),dT (show i8P _/\u8P _ from⟨hC,h2⟩),dT (show i8P _/\u8P _ from⟨hD,h2⟩),dT (show i8P _/\u8P _ from⟨hE,h2⟩),dT (show i8P _/\u8P _ from⟨hF,h2⟩)]at run;cases h3:x.1%3==2
 ·simp only[h3,cond_false]at run ⊢;cases h4:x.1%3==1
  ·simp only[h4,cond_false]at run ⊢;cases h5:segE (drA x) (drB x) !=0
   ·simp only[h5,cond_false]at run ⊢;exact run _ rfl (.inl rfl)
   ·simp only[h5,cond_true]at run ⊢;exact run _ rfl (.inl rfl)
  ·simp only[h4,cond_true]at run ⊢;cases h5:arcE (drA x) (drB x) (drC x) !=0
   ·simp only[h5,cond_false]at run ⊢;exact run _ rfl (.inl rfl)
   ·simp only[h5,cond_true]at run ⊢;exact run _ rfl (.inl rfl)
 ·simp only[h3,cond_true]at run ⊢;have e1:(drB x).1=atQ x.2.2.2.2.1 x.2.1:=rfl;by_cases h5:(drB x).1<=0
  ·rw[anb h5]at run ⊢;refine run _ ?_ (.inl rfl);rw[za,<-e1,anb h5];rfl
  ·rw[ane h5]at run ⊢;have ok:ck (enc (drQ x)):=iN (h:=⟨bA.mono (by decide),bB.mono (by decide),bC.mono (by decide)⟩) (show 0<(drB x).1 by grind);refine run _ ?_ (.inr rfl);rw[za,<-e1,ane h5];simp only[anb ok];rfl
def vcR(x y:Int):Rat×Rat:=((x:Rat),(y:Rat))
instance ahm:Bd (-1:Rat) 3:=c7 (n:= -1) (by decide)
theorem Dj{v:Rat×Rat}{j k:Nat}[h:Bd v j](hj:mx j (mx 1 (mx j (mx 1 1)))<=k)(hk:k<=480000):okP k (enc (atP v)):=anf (aQ (x:=atP v) hj hk)
section
namespace RE
theorem cmpP_0{p q:Pt}[Rpd p][Rpd q]:aZ p q=0↔pR p=pR q:=by
 rw[j8];obtain⟨h1,h2,h3⟩:=jz (pR p) (pR q);rcases kN.tri (pR p) (pR q)with h|h|h
 ·rw[h1 h];exact⟨λe=>absurd e (by decide),λe=>absurd h (by rw[e];exact kN.irr _)⟩
 ·exact⟨λ_=>h,λ_=>h2 h⟩
 ·rw[h3 h];exact⟨λe=>absurd e (by decide),λe=>absurd h (by rw[e];exact kN.irr _)⟩
theorem m7(v:Rat×Rat):pR (atP v)=(of v.1,of v.2):=anN (agO v) (agX v)
theorem Pp{ax bx c:Rat}(h:gR c=true):of (ax+bx*rtQ c)=v2 ax bx c:=by
 unfold v2;rw[of_add,aC,Nt h]
theorem v7(ax bx ay b_ c:Rat):pR (qr ax bx ay b_ c)=(v2 ax bx c,v2 ay b_ c):=by
 unfold qr;cases h:gR c
 ·rfl
 ·exact(m7 _).trans (anN (Pp h) (Pp h))
theorem ab8(a b r:RE):(a+ -1*r-a)*(a+ -1*r-a)+(b+0*r-b)*(b+0*r-b)=r*r:=by grind
theorem Xc(a b r:RE):(a+1*r-a)*(a+1*r-a)+(b+0*r-b)*(b+0*r-b)=r*r:=by grind
theorem WG(a r:RE)(h1:a+ -1*r=a+1*r):r<=0:=by grind
theorem UP(a r:RE)(h1:a+ -1*r=a+1*r):0<=r:=by grind
theorem aed(a r:RE)(h1:a+ -1*r=a+1*r):r=0:=le_antisymm (WG a r h1) (UP a r h1)
theorem aeZ{c:Ln}(h:0<c.2.2):gi c (pR (nw c))/\gi c (pR (nB c)):=by
 have hr:=dE (show 0<=c.2.2 by grind);unfold nw nB;rw[v7,v7];exact⟨(ab8 _ _ _).trans hr,(Xc _ _ _).trans hr⟩
theorem XF{c:Ln}(h:0<c.2.2):pR (nw c)≠pR (nB c):=by
 unfold nw nB;rw[v7,v7];intro e;have e1:=aed _ _ (congrArg Prod.fst e);have hr:=dE (show 0<=c.2.2 by grind);rw[e1,mul_zero]at hr;have:=lL hr;grind
theorem QD{l:Ln}{v:Rat×Rat}(h:l.1*v.1+l.2.1*v.2=l.2.2):(uF l (atP v)==0)=true:=by
 rw[Dz,m7];exact congrArg of h
theorem P5{c:Ln}{v:Rat×Rat}(h:(v.1-c.1)*(v.1-c.1)+(v.2-c.2.1)*(v.2-c.2.1)=c.2.2):(qn c (atP v)==0)=true:=by
 rw[uJ,m7];unfold gi frm;dsimp only;rw[<-of_sub,<-of_sub];exact congrArg of h
theorem YM{v w:Rat×Rat}(h:v≠w):aZ (atP v) (atP w)≠0:=λe=>h (by
 have:=cmpP_0.1 e;rw[m7,m7]at this;exact anN (lL (congrArg Prod.fst this)) (lL (congrArg Prod.snd this)))
end RE
open RE
def gdN(c:BCU):Prop:=mG c/\gv (dC c) (frC (dC c))=true/\gv (dC c) (toC (dC c))=true/\aZ (frC (dC c)) (toC (dC c))≠0
theorem gdN.gd{c:BCU}(h:gdN c):gdC c:=⟨h.1.1,h.2.1,h.2.2.1⟩
theorem Cb{a b:Rat×Rat}[ba:Bd a 1][bb:Bd b 1](h:AD a b=false):gdN (kj a b):=by
 have hz:(uB a b).1≠0\/(uB a b).2.1≠0:=by
  unfold AD at h;by_cases e:a.2-b.2=0
  ·rw[anb e,aow]at h;exact .inr (an4 h)
  ·exact .inl e
 have hne:a≠b:=λe=>by
  subst e;unfold uB at hz;rcases hz with h|h<;>exact h (by show _-_=(0:Rat);grind)
 have b1:Bd (uB a b).1 12:=(inferInstance:Bd (a.2-b.2) _).mono (by decide);have b2:Bd (uB a b).2.1 12:=(inferInstance:Bd (b.1-a.1) _).mono (by decide);have b3:Bd (uB a b).2.2 63:=(inferInstance:Bd ((a.2-b.2)*a.1+(b.1-a.1)*a.2) _).mono (by decide);have hl:=nt (h:=⟨b1,b2,b3⟩) hz;have hL:WZ (enc (uB a b)):=⟨anf (okd (x:=uB a b) (by decide) (by decide)),by rw[aA];exact hz⟩
 unfold kj;rw[h];refine⟨⟨⟨λe=>(by cases e),λ_=>hL,Dj (by decide) (by decide),Dj (by decide) (by decide)⟩,λe=>(by cases e),λ_=>hl⟩,?_⟩;simp only[dC,gv,frC,toC,lnC,aA,cond_false];exact⟨QD (by unfold uB;grind),QD (by unfold uB;grind),YM hne⟩
theorem zs{c:Ln}[bc:BdC c](h:0<c.2.2):∀d∈xh (enc c),gdN d:=by
 have hs:=iN h;have bx:=bc.x;have b_:=bc.y;have bq:=bc.q;have b0:Bd (0:Rat) 3:=c7 (n:=0) (by decide);have b1:Bd (1:Rat) 3:=c7 (n:=1) (by decide);have hC:xi (enc c):=⟨anf (okd (h:=Oa (c:=c)) (by decide) (by decide)),by rw[aA];exact h⟩
 have q0:(0:Rat)<=c.2.2:=by grind
 have pl:Rpd (nw c):=Cs (λe=>absurd e.1 (by decide)) q0;have pr:Rpd (nB c):=Cs (λe=>absurd e.1 (by decide)) q0;have bl:Bd (nw c) 490:=DH (bx.mono (by decide:4<=4)) (ahm.mono (by decide:3<=3)) b_ b0 bq (by decide);have br:Bd (nB c) 490:=DH (bx.mono (by decide:4<=4)) b1 b_ b0 bq (by decide);have ol:okP 580 (enc (nw c)):=anf (aQ (by decide) (by decide));have or_:okP 580 (enc (nB c)):=anf (aQ (by decide) (by decide));obtain⟨nl,nr_⟩:=aeZ h;have nl:=uJ.2 nl;have nr_:=uJ.2 nr_;have ne:=XF h;intro d hd
 have:d=(true,o00,enc c,false,enc (nw c),enc (nB c))\/d=(true,o00,enc c,false,enc (nB c),enc (nw c)):=by
  unfold xh at hd;rw[aA]at hd;simpa using hd
 rcases this with e|e<;>rw[e]
 ·refine⟨⟨⟨λ_=>hC,λe=>(by cases e),ol,or_⟩,λ_=>hs,λe=>(by cases e)⟩,?_⟩;simp only[dC,gv,frC,toC,ciC,aA,cond_true];exact⟨nl,nr_,λe=>ne (cmpP_0.1 e)⟩
 ·refine⟨⟨⟨λ_=>hC,λe=>(by cases e),or_,ol⟩,λ_=>hs,λe=>(by cases e)⟩,?_⟩;simp only[dC,gv,frC,toC,ciC,aA,cond_true];exact⟨nr_,nl,λe=>ne (cmpP_0.1 e).symm⟩
theorem afm{a b c:Rat×Rat}(h:fI a b c≠0):(c.1-(sA a b c).1)*(c.1-(sA a b c).1)+(c.2-(sA a b c).2.1)*(c.2-(sA a b c).2.1)=(sA a b c).2.2:=by
 have h2:fI a b c+fI a b c≠0:=by grind
 have eX:zm a b c*(fI a b c+fI a b c)=_:=anx h2;have eY:yz a b c*(fI a b c+fI a b c)=_:=anx h2;unfold sA;dsimp only;generalize zm a b c=X at*
 generalize yz a b c=Y at*
 have k:fI a b c*(2*((c.1-a.1)*X+(c.2-a.2)*Y)-((c.1-a.1)*(c.1-a.1)+(c.2-a.2)*(c.2-a.2)))=0:=by
  unfold fI at*
  grind
 rcases apr.1 k with g|g
 ·exact absurd g h
 ·grind
theorem ajr{a b c:Rat×Rat}(h:fI a b c≠0)(e:a=c):False:=by
 subst e;refine h ?_;unfold fI;grind
theorem aej{a b c:Rat×Rat}[a1:Bb a.1 7 2][a2:Bb a.2 7 2][b1:Bb b.1 7 2][b2:Bb b.2 7 2][c1:Bb c.1 7 2][c2:Bb c.2 7 2]:BdC (sA a b c):=by
 have d:Bb ((b.1-a.1)*(c.2-a.2)-(b.2-a.2)*(c.1-a.1)) _ _:=inferInstance;have d:Bb (fI a b c) _ _:=d;have X:Bb ((((b.1-a.1)*(b.1-a.1)+(b.2-a.2)*(b.2-a.2))*(c.2-a.2)-((c.1-a.1)*(c.1-a.1)+(c.2-a.2)*(c.2-a.2))*(b.2-a.2))/(fI a b c+fI a b c)) _ _:=inferInstance;have X:Bb (zm a b c) _ _:=X;have Y:Bb ((((c.1-a.1)*(c.1-a.1)+(c.2-a.2)*(c.2-a.2))*(b.1-a.1)-((b.1-a.1)*(b.1-a.1)+(b.2-a.2)*(b.2-a.2))*(c.1-a.1))/(fI a b c+fI a b c)) _ _:=inferInstance;have Y:Bb (yz a b c) _ _:=Y;have x1:Bb (a.1+zm a b c) _ _:=inferInstance;have x2:Bb (a.2+yz a b c) _ _:=inferInstance;have x3:Bb (zm a b c*zm a b c+yz a b c*yz a b c) _ _:=inferInstance;exact⟨EE (h:=x1) (by decide) (by decide),EE (h:=x2) (by decide) (by decide),EE (h:=x3) (by decide) (by decide)⟩
theorem AP{x y:Rat}(h:¬(x=0/\y=0)):0<x*x+y*y:=by
 have nn:∀a:Rat,0<=a*a:=λa=>by
  rcases(by grind:0<=a\/0<= -a)with h|h
  ·exact anw h h
  ·have:=anw h h;grind
 have h1:=nn x;have h2:=nn y;rcases(by grind:0<x*x+y*y\/(x*x=0/\y*y=0))with g|⟨g1,g2⟩
 ·exact g
 ·exact absurd ⟨by simpa using apr.1 g1,by simpa using apr.1 g2⟩ h
theorem GG{a b c:Rat×Rat}[Bd a 1][Bd c 1][bc:BdC (sA a b c)](h:fI a b c≠0):gdN (nG a b c):=by
 have hon:=afm h;have hne:a≠c:=λe=>ajr h e
 have hq:0<(sA a b c).2.2:=by
  refine AP λ⟨e1,e2⟩=>hne ?_;unfold sA at hon;dsimp only at hon;rw[e1,e2]at hon;by_cases g:c.1-(a.1+0)=0/\c.2-(a.2+0)=0
  ·obtain⟨g1,g2⟩:=g;exact anN (by grind) (by grind)
  ·have:=AP g;grind
 have hs:=iN (h:=bc) hq;have bx:=bc.x;have b_:=bc.y;have bq:=bc.q;have hC:xi (enc (sA a b c)):=⟨anf (okd (h:=Oa (c:=sA a b c)) (by decide) (by decide)),by rw[aA];exact hq⟩
 unfold nG;rw[ane h];refine⟨⟨⟨λ_=>hC,λe=>(by cases e),Dj (by decide) (by decide),Dj (by decide) (by decide)⟩,λ_=>hs,λe=>(by cases e)⟩,?_⟩;simp only[dC,gv,frC,toC,ciC,aA,cond_true,cond_false];refine⟨P5 ?_,P5 hon,YM hne⟩;unfold sA;grind
theorem yn{x:Dr}(h:yV x):∀c∈ofL x,gdN c:=by
 obtain⟨h1,h2,hA,hB,hC,hD,hE,hF⟩:=h;have a1:Bb (drA x).1 7 2:=yA hA h2;have a2:Bb (drA x).2 7 2:=yA hB h2;have b1:Bb (drB x).1 7 2:=yA hC h2;have b2:Bb (drB x).2 7 2:=yA hD h2;have c1:Bb (drC x).1 7 2:=yA hE h2;have c2:Bb (drC x).2 7 2:=yA hF h2;have l:∀{q:Rat},Bb q 7 2->Bd q 1:=λh=>EE (h:=h) (by decide) (by decide)
 have m:∀v:Rat×Rat,Bb v.1 7 2->Bb v.2 7 2->Bd v 1:=λv g g'=>by
  have:=l g;have:=l g';exact inferInstanceAs (Bd (v.1,v.2) _)
 have vA:=m _ a1 a2;have vB:=m _ b1 b2;have vC:=m _ c1 c2;intro c hc;unfold ofL at hc;cases h3:x.1%3==2
 ·rw[h3,cond_false]at hc;cases h4:x.1%3==1
  ·rw[h4,cond_false]at hc;cases h5:AD (drA x) (drB x)
   ·have:segE (drA x) (drB x)=0:=by unfold segE;rw[h5];rfl
    rw[this]at hc;have:c=kj (drA x) (drB x):=by simpa using hc
    rw[this];exact Cb h5
   ·have:segE (drA x) (drB x)=6:=by unfold segE;rw[h5];rfl
    rw[this]at hc;cases hc
  ·rw[h4,cond_true]at hc;by_cases h5:fI (drA x) (drB x) (drC x)=0
   ·have:arcE (drA x) (drB x) (drC x)=6:=by unfold arcE;rw[anb h5];rfl
    rw[this]at hc;cases hc
   ·have:arcE (drA x) (drB x) (drC x)=0:=by unfold arcE;rw[ane h5];rfl
    rw[this]at hc;have:c=nG (drA x) (drB x) (drC x):=by simpa using hc
    rw[this];have:=aej (a:=drA x) (b:=drB x) (c:=drC x);exact GG h5
 ·rw[h3,cond_true]at hc;by_cases h5:(drB x).1<=0
  ·rw[anb h5]at hc;cases hc
  ·rw[ane h5]at hc;have bq:BdC (drQ x):=⟨(l a1).mono (by decide),(l a2).mono (by decide),(l b1).mono (by decide)⟩
   exact zs (c:=drQ x) (show 0<(drB x).1 by grind) c hc
end
namespace RE
theorem adM{a b:Rt}[ha:Rdd a][hb:Rdd b]:vR (we a b)=mnE (vR a) (vR b):=by
 unfold we mnE;rw[cmpT_re hb.nn ha.nn];by_cases h:vR b<vR a
 ·rw[anH h,anb (by rw[iw (uL _ _ h)];decide)];rfl
 ·rw[anA h,ane (by
   intro g;exact h (aek (by rw[<-UM];exact kE (HE.1 g))))]
  rfl
theorem Gq(a b:RE):mnE a b=mnE b a:=by
 unfold mnE;rcases n8 a b with h|h|h
 ·rw[anA (λg=>lt_irrefl _ (da h g)),anH h]
 ·rw[h]
 ·rw[anH h,anA (λg=>lt_irrefl _ (da h g))]
def vE(v:Rat×Rat):PE:=(of v.1,of v.2)
theorem vR_sq{p:Pt}[Rpd p](v:Rat×Rat):vR (sqP p v)=dsE (pR p) (vE v):=Hm
theorem Gt{c:Cv}(hf:Rpd (frC c))(ht:Rpd (toC c))(v:Rat×Rat):vR (C1 c v)=mnE (dsE (pR (frC c)) (vE v)) (dsE (pR (toC c)) (vE v)):=by
 unfold C1;rw[adM,vR_sq,vR_sq]
theorem zk{c:Cv}[hf:Rpd (frC c)][ht:Rpd (toC c)]{p:Pt}[hp:Rpd p]:tn c p=true↔btE (tE (lnC c) (pR (frC c))) (tE (lnC c) (pR (toC c))) (tE (lnC c) (pR p)):=by
 unfold tn;rw[uu,uu,uu,uu,uu];exact Cg _ _ _
theorem QM(l:Ln)(v:Rat×Rat):exE l (vE v)=of (l.1*v.1+l.2.1*v.2-l.2.2):=by
 rw[of_sub];rfl
theorem Fe{l:Ln}(hl:l.1≠0\/l.2.1≠0)(v:Rat×Rat):a9 (cV v (dZ l v)) (cV v (dZ l v))=(l.1*v.1+l.2.1*v.2-l.2.2)*(l.1*v.1+l.2.1*v.2-l.2.2)*(1/(l.1*l.1+l.2.1*l.2.1)):=by
 have hn:=lk hl;have h1:1/(l.1*l.1+l.2.1*l.2.1)*(l.1*l.1+l.2.1*l.2.1)=1:=anx hn
 have h2:ou l v=(l.1*v.1+l.2.1*v.2-l.2.2)*(1/(l.1*l.1+l.2.1*l.2.1)):=by
  unfold ou;rw[apb,apb,Rat.one_mul]
 unfold a9 cV dZ;rw[h2];generalize 1/(l.1*l.1+l.2.1*l.2.1)=k at*
 generalize l.1*v.1+l.2.1*v.2-l.2.2=e at*
 dsimp only;grind
theorem VU{c:Cv}(h:GdE c)(ha:c.1=false)(v:Rat×Rat):Mn (segE (lnC c) (pR (frC c)) (pR (toC c))) (vE v) (vR (pg c v)):=by
 have hf:=h.f;have ht:=h.t;obtain⟨hl,oF,oT⟩:=h.l ha;have hn:0<nrE (lnC c):=pV hl;have hb:=zk (c:=c) (p:=atP v);have ev:pR (atP v)=vE v:=m7 v;rw[ev]at hb;unfold pg;rw[ha,cond_false];cases e:tn c (atP v)
 ·rw[cond_false,Gt hf ht];rw[e]at hb;exact xF hn oF oT (λg=>by cases hb.2 g)
 ·rw[cond_true];have hk:=lk hl;have h1:1/((lnC c).1*(lnC c).1+(lnC c).2.1*(lnC c).2.1)*((lnC c).1*(lnC c).1+(lnC c).2.1*(lnC c).2.1)=1:=anx hk
  have ek:nrE (lnC c)*of (1/((lnC c).1*(lnC c).1+(lnC c).2.1*(lnC c).2.1))=1:=by
   have:nrE (lnC c)=of ((lnC c).1*(lnC c).1+(lnC c).2.1*(lnC c).2.1):=rfl;rw[this,mul_comm,<-aC,h1];rfl
  have kp:0<of (1/((lnC c).1*(lnC c).1+(lnC c).2.1*(lnC c).2.1)):=by
   have:=dA (nrE (lnC c)) (of (1/((lnC c).1*(lnC c).1+(lnC c).2.1*(lnC c).2.1)));rw[ek,dD zero_lt_one,dD hn,aor]at this;exact BZ.1 this.symm
  have:=u5 hn (hb.1 e) kp ek;have e2:vR (a9 (cV v (dZ (lnC c) v)) (cV v (dZ (lnC c) v)),0,0)=of (a9 (cV v (dZ (lnC c) v)) (cV v (dZ (lnC c) v))):=d7 _ _;rw[e2,Fe hl,aC,aC,<-QM];exact this
theorem UU(x y a b v w:RE):(x-v)*(x-v)+(y-w)*(y-w)=(x-a)*(x-a)+(y-b)*(y-b)+((v-a)*(v-a)+(w-b)*(w-b))-(((x-a)*(v-a)+(y-b)*(w-b))+((x-a)*(v-a)+(y-b)*(w-b))):=by grind
theorem We(a b c d r:RE):a*(d*r)-b*(c*r)=r*(a*d-b*c):=by grind
theorem VL(a b c d r:RE):c*r*b-d*r*a=r*(c*b-d*a):=by grind
theorem agf(a b r:RE):a*r*a+b*r*b=r*(a*a+b*b):=by grind
theorem afV(a b:RE):a+b-a=b:=by grind
theorem NQ(q s t u:RE)(h1:s<=t):q+u-(t+t)<=q+u-(s+s):=by grind
theorem alg(r d:RE):r*d*(r*d)=r*r*d*d:=by grind
theorem EV(c t m:RE)(h1:c*c+t*t=m):t*t<=m:=by have:=c9 (c);grind
theorem abw(t s:RE)(h1:t<=0)(h2:0<=s):t<=s:=by grind
theorem adf(a b r:RE):a*r*(a*r)+b*r*(b*r)=(a*a+b*b)*(r*r):=by grind
theorem aao(a s:RE):a+ -2*s=a-(s+s):=by grind
theorem oV{c:Ln}{p:PE}(h:gi c p)(v:PE):dsE p v=of c.2.2+dtE (frm c v) (frm c v)-(dtE (frm c p) (frm c v)+dtE (frm c p) (frm c v)):=by
 have h':(p.1-of c.1)*(p.1-of c.1)+(p.2-of c.2.1)*(p.2-of c.2.1)=of c.2.2:=h;unfold dsE dtE frm;dsimp only;rw[UU _ _ (of c.1) (of c.2.1),h']
theorem vT{c:Ln}{p q:PE}(hp:gi c p)(hq:gi c q){v:PE}(h:dtE (frm c p) (frm c v)<=dtE (frm c q) (frm c v)):dsE q v<=dsE p v:=by
 rw[oV hp,oV hq];exact NQ _ _ _ _ h
theorem gP(u w:PE):fx u w u=true/\fx u w w=true:=by
 have z:∀x:PE,crs x x=0:=λx=>by unfold crs;rw[mul_comm,sub_self]
 rcases lt_or_ge (crs u w) 0 with h|h
 ·exact⟨(Fp h).2 (λg=>by rw[z u]at g;exact lt_irrefl _ g.2),(Fp h).2 (λg=>by rw[z w]at g;exact lt_irrefl _ g.1)⟩
 ·exact⟨(Ei h).2 ⟨by rw[z u];exact le_refl _,h⟩,(Ei h).2 ⟨h,by rw[z w];exact le_refl _⟩⟩
theorem ow(u w d:PE){r:RE}(hr:0<r):fx u w (d.1*r,d.2*r)=fx u w d:=by
 have h1:crs u (d.1*r,d.2*r)=r*crs u d:=We _ _ _ _ _;have h2:crs (d.1*r,d.2*r) w=r*crs d w:=VL _ _ _ _ _;unfold fx;rw[h1,h2,dA,dA,dD hr,aor,aor]
theorem No{q:Pt}:pX (rdP q)=pX q/\pY (rdP q)=pY q:=by
 unfold rdP pX pY;by_cases h1:q.2.1=0
 ·by_cases h2:q.2.2.2.1=0
  ·rw[anb h1,anb h2];dsimp only;rw[h1,h2,d7,d7,d7,d7];exact⟨rfl,rfl⟩
  ·rw[ane h2,Bool.and_false];exact⟨rfl,rfl⟩
 ·rw[ane h1,Bool.false_and];exact⟨rfl,rfl⟩
theorem YA{x y:Rt}(h:xn x y):pR (mkP x y)=(vR x,vR y):=by
 unfold mkP;refine anN (No.1.trans ?_) (No.2.trans ?_)
 ·unfold pX vR;dsimp only;by_cases e:x.2.1=0
  ·rw[e,d7,d7]
  ·rw[ane e];rfl
 ·unfold pY vR;dsimp only;by_cases e:x.2.1=0
  ·rw[anb e];rfl
  ·rw[ane e];rcases h with h|h|h
   ·exact absurd h e
   ·rw[h,d7,d7]
   ·rw[cond_false,h]
theorem uT(c:Ln)(d:Rat×Rat):frm c (pR (qo c d))=(of d.1*rq (c.2.2/a9 d d),of d.2*rq (c.2.2/a9 d d)):=by
 unfold qo;rw[YA (rN _ _ _ _ _),vR_mk,vR_mk];unfold frm v2;exact anN (afV _ _) (afV _ _)
theorem JU(c:Ln)(v:Rat×Rat):frm c (vE v)=vE (cV (ctr c) v):=by
 unfold frm vE cV ctr;dsimp only;rw[of_sub,of_sub]
theorem Rw(d:Rat×Rat):dtE (vE d) (vE d)=of (a9 d d):=rfl
theorem Bv{m:Rat}(h:0<m):0<rq m:=by
 have:=Tl (m:=m) (by grind);rw[dG h]at this;exact BZ.1 this
theorem mf(c:Cv):(ccF c=frC c/\ccT c=toC c)\/(ccF c=toC c/\ccT c=frC c):=by
 unfold ccF ccT;cases cwC c
 ·exact .inl ⟨rfl,rfl⟩
 ·exact .inr ⟨rfl,rfl⟩
theorem adR{c:Cv}(hq:0<(ciC c).2.2){v:Rat×Rat}(hz:zeV (aY c v)=false)(on:gi (ciC c) (pR (qo (ciC c) (aY c v)))):dsE (pR (qo (ciC c) (aY c v))) (vE v)=of (a9 (aY c v) (aY c v)+(ciC c).2.2)-(rq (a9 (aY c v) (aY c v)*(ciC c).2.2)+rq (a9 (aY c v) (aY c v)*(ciC c).2.2)):=by
 have hq0:(0:Rat)<=(ciC c).2.2:=by grind
 have d0:=jN (aY c v);have m0:0<=a9 (aY c v) (aY c v)*(ciC c).2.2:=anw d0 hq0;have hs:=dE m0;have hs0:=gS (a9 (aY c v) (aY c v)*(ciC c).2.2);have hD:frm (ciC c) (vE v)=vE (aY c v):=JU _ _;have n0:=Dk hq0 d0;have rr:=dE n0;have r0:=gS ((ciC c).2.2/a9 (aY c v) (aY c v))
 have hdt:dtE (frm (ciC c) (pR (qo (ciC c) (aY c v)))) (frm (ciC c) (vE v))=rq (a9 (aY c v) (aY c v)*(ciC c).2.2):=by
  rw[hD,uT];have e1:dtE (of (aY c v).1*rq ((ciC c).2.2/a9 (aY c v) (aY c v)),of (aY c v).2*rq ((ciC c).2.2/a9 (aY c v) (aY c v))) (vE (aY c v))=rq ((ciC c).2.2/a9 (aY c v) (aY c v))*of (a9 (aY c v) (aY c v)):=agf _ _ _;rw[e1];refine Ex _ _ (aD r0 (gr.2 d0)) hs0 ?_;rw[hs,alg,rr,<-aC,<-aC,anx (zn hz),aoN]
 rw[oV on,hdt,hD,Rw,of_add,add_comm (of (a9 _ _))]
theorem aci{c:Cv}{v:Rat×Rat}(hz:zeV (aY c v)=true){p:PE}(on:gi (ciC c) p):dsE p (vE v)=of (a9 (aY c v) (aY c v)+(ciC c).2.2)-(rq (a9 (aY c v) (aY c v)*(ciC c).2.2)+rq (a9 (aY c v) (aY c v)*(ciC c).2.2)):=by
 have hD:frm (ciC c) (vE v)=vE (aY c v):=JU _ _
 have z0:(aY c v).1=0/\(aY c v).2=0:=by
  unfold zeV at hz;obtain⟨a,b⟩:=anm.1 hz;exact⟨anf a,anf b⟩
 have dz:a9 (aY c v) (aY c v)=0:=by
  unfold a9;rw[z0.1,z0.2];decide+kernel
 have hdt:dtE (frm (ciC c) p) (frm (ciC c) (vE v))=0:=by
  rw[hD];unfold dtE vE;dsimp only;rw[z0.1,z0.2];show _*0+_*0=(0:RE)
  rw[mul_zero,mul_zero,add_zero]
 rw[oV on,hdt,hD,Rw,dz,Rat.zero_mul,Ji,Rat.zero_add];show _+(0:RE)-_=_;rw[add_zero]
theorem J1{c:Cv}(h:GdE c)(ha:c.1=true){v:Rat×Rat}(hz:zeV (aY c v)=false):gi (ciC c) (pR (qo (ciC c) (aY c v)))/\dM c (aY c v)=fx (frm (ciC c) (pR (ccF c))) (frm (ciC c) (pR (ccT c))) (vE (aY c v)):=by
 have hq:=(h.q ha).1;have hq0:(0:Rat)<=(ciC c).2.2:=by grind
 have hC:Cir (ciC c):=⟨hq⟩
 have d0:=jN (aY c v)
 have n0:0<(ciC c).2.2/a9 (aY c v) (aY c v):=by
  have h1:(ciC c).2.2/a9 (aY c v) (aY c v)*a9 (aY c v) (aY c v)=(ciC c).2.2:=anx (zn hz);have h2:=Dk hq0 d0;rcases(by grind:(ciC c).2.2/a9 (aY c v) (aY c v)=0\/0<(ciC c).2.2/a9 (aY c v) (aY c v))with h3|h3
  ·rw[h3]at h1;grind
  ·exact h3
 have hr:=Bv n0;have rr:=dE (show 0<=(ciC c).2.2/a9 (aY c v) (aY c v) by grind)
 have onray:gi (ciC c) (pR (qo (ciC c) (aY c v))):=by
  show(frm _ _).1*(frm _ _).1+(frm _ _).2*(frm _ _).2=_;rw[uT];have:of (aY c v).1*rq ((ciC c).2.2/a9 (aY c v) (aY c v))*(of (aY c v).1*rq ((ciC c).2.2/a9 (aY c v) (aY c v)))+of (aY c v).2*rq ((ciC c).2.2/a9 (aY c v) (aY c v))*(of (aY c v).2*rq ((ciC c).2.2/a9 (aY c v) (aY c v)))=of (a9 (aY c v) (aY c v))*(rq ((ciC c).2.2/a9 (aY c v) (aY c v))*rq ((ciC c).2.2/a9 (aY c v) (aY c v))):=adf _ _ _;rw[this,rr,<-aC,aoN,anx (zn hz)]
 refine⟨onray,?_⟩
 have e1:dM c (aY c v)=onP c (qo (ciC c) (aY c v)):=by
  unfold dM;rw[ha,hz];rfl
 rw[e1,<-ow _ _ (vE (aY c v)) hr,aps,fU h];unfold onE arcE;rw[anH ha,uT];exact and_iff_right onray
theorem VA{c:Cv}(h:GdE c)(ha:c.1=true)(v:Rat×Rat):Mn (arcE (ciC c) (pR (ccF c)) (pR (ccT c))) (vE v) (vR (pg c v)):=by
 have hf:=h.f;have ht:=h.t;obtain⟨hq,oF,oT⟩:=h.q ha;have oF:gi (ciC c) (pR (frC c)):=oF;have oT:gi (ciC c) (pR (toC c)):=oT;have hq0:(0:Rat)<=(ciC c).2.2:=by grind
 have oU:gi (ciC c) (pR (ccF c)):=by rcases mf c with⟨e,_⟩|⟨e,_⟩<;>rw[e]<;>assumption
 have oW:gi (ciC c) (pR (ccT c)):=by rcases mf c with⟨_,e⟩|⟨_,e⟩<;>rw[e]<;>assumption
 have hne:frm (ciC c) (pR (ccF c))≠frm (ciC c) (pR (ccT c)):=λe=>by
  have e1:pR (ccF c)=pR (ccT c):=anN (gf _ _ _ (congrArg Prod.fst e)) (gf _ _ _ (congrArg Prod.snd e));rcases mf c with⟨g1,g2⟩|⟨g1,g2⟩<;>rw[g1,g2]at e1
  ·exact h.ne e1
  ·exact h.ne e1.symm
 have sU:arcE (ciC c) (pR (ccF c)) (pR (ccT c)) (pR (ccF c)):=⟨oU,(gP _ _).1⟩
 have sW:arcE (ciC c) (pR (ccF c)) (pR (ccT c)) (pR (ccT c)):=⟨oW,(gP _ _).2⟩
 have hD:frm (ciC c) (vE v)=vE (aY c v):=JU _ _;have hDD:dtE (frm (ciC c) (vE v)) (frm (ciC c) (vE v))=of (a9 (aY c v) (aY c v)):=by rw[hD,Rw]
 have hgen:onE c=arcE (ciC c) (pR (ccF c)) (pR (ccT c)):=by funext p;unfold onE;rw[anH ha]
 have hC:Cir (ciC c):=⟨hq⟩
 have d0:=jN (aY c v);have m0:0<=a9 (aY c v) (aY c v)*(ciC c).2.2:=anw d0 hq0;have hs:=dE m0;have hs0:=gS (a9 (aY c v) (aY c v)*(ciC c).2.2);unfold pg;rw[ha,cond_true];cases e:dM c (aY c v)
 ·rw[cond_false,Gt hf ht]
  have hz:zeV (aY c v)=false:=by
   cases g:zeV (aY c v)
   ·rfl
   ·unfold dM at e;rw[g,ha]at e;cases e
  have hd:¬fx (frm (ciC c) (pR (ccF c))) (frm (ciC c) (pR (ccT c))) (vE (aY c v))=true:=λg=>by
   rw[<-(J1 h ha hz).2,e]at g;cases g
  have res:=Dt (v:=vE v) sU sW (λp hp=>by
   have:=CB (u:=frm (ciC c) (pR (ccF c))) (w:=frm (ciC c) (pR (ccT c))) (z:=frm (ciC c) p) (d:=vE (aY c v)) oU oW hp.1 hne hp.2 hd;rw[<-hD]at this;exact this.imp (vT hp.1 oU) (vT hp.1 oW))
  rcases mf c with⟨g1,g2⟩|⟨g1,g2⟩
  ·rw[g1,g2]at res ⊢;exact res
  ·rw[g1,g2]at res ⊢;rw[Gq];exact res
 ·rw[cond_true,vR_mk];unfold v2;have two:of (-2)= -2:=rfl;rw[two,aao]
  have low:∀p,arcE (ciC c) (pR (ccF c)) (pR (ccT c)) p->of (a9 (aY c v) (aY c v)+(ciC c).2.2)-(rq (a9 (aY c v) (aY c v)*(ciC c).2.2)+rq (a9 (aY c v) (aY c v)*(ciC c).2.2))<=dsE p (vE v):=λp hp=>by
   have h1:=B3 (frm (ciC c) p).1 (frm (ciC c) p).2 (frm (ciC c) (vE v)).1 (frm (ciC c) (vE v)).2;have h2:(frm (ciC c) p).1*(frm (ciC c) p).1+(frm (ciC c) p).2*(frm (ciC c) p).2=of (ciC c).2.2:=hp.1;have h3:(frm (ciC c) (vE v)).1*(frm (ciC c) (vE v)).1+(frm (ciC c) (vE v)).2*(frm (ciC c) (vE v)).2=of (a9 (aY c v) (aY c v)):=hDD;rw[h2,h3,<-aC,aoN,<-hs]at h1;have h4:=EV _ _ _ h1
   have h5:dtE (frm (ciC c) p) (frm (ciC c) (vE v))<=rq (a9 (aY c v) (aY c v)*(ciC c).2.2):=by
    rcases lt_or_ge 0 (dtE (frm (ciC c) p) (frm (ciC c) (vE v)))with g|g
    ·exact uP _ _ (le_of_lt g) hs0 h4
    ·exact abw _ _ g hs0
   rw[oV hp.1,hDD,of_add,add_comm (of (a9 _ _))];exact NQ _ _ _ _ h5
  refine⟨?_,low⟩;cases hz:zeV (aY c v)
  ·-- the point in this direction
   have hon:onE c (pR (qo (ciC c) (aY c v))):=by
    unfold dM at e;rw[ha,hz]at e;exact(fU h).1 e
   rw[hgen]at hon;exact⟨_,hon,adR hq hz hon.1⟩
  ·exact⟨_,sU,aci hz oU⟩
theorem Sg{c:Cv}(h:GdE c)(v:Rat×Rat):Mn (onE c) (vE v) (vR (pg c v)):=by
 cases ha:c.1
 ·have:onE c=segE (lnC c) (pR (frC c)) (pR (toC c)):=by
   funext p;unfold onE;rw[anA (by rw[ha];decide)]
  rw[this];exact VU h ha v
 ·have:onE c=arcE (ciC c) (pR (ccF c)) (pR (ccT c)):=by
   funext p;unfold onE;rw[anH ha]
  rw[this];exact VA h ha v
end RE
section
def rcX(p:Pt)(v:Rat×Rat):Rat×Rat:=(p.1-v.1,p.2.1)
def rcY(p:Pt)(v:Rat×Rat):Rat×Rat:=(p.2.2.1-v.2,p.2.2.2.1)
def prQ(q:Qd)(x y:Rat×Rat)(s:Rat):Qd:=(q.1+s*(x.1*y.1),q.2.1+s*(x.2*y.1),q.2.2.1+s*(x.1*y.2),q.2.2.2.1+s*(x.2*y.2),q.2.2.2.2.1,q.2.2.2.2.2)
def noQ(p q:Pt):Qd:=(0,0,0,0,p.2.2.2.2,q.2.2.2.2)
def crQ(v:Rat×Rat)(p q:Pt):Qd:=prQ (prQ (noQ p q) (rcX p v) (rcY q v) 1) (rcY p v) (rcX q v) (-1)
def doQ(v:Rat×Rat)(p q:Pt):Qd:=prQ (prQ (noQ p q) (rcX p v) (rcX q v) (-2)) (rcY p v) (rcY q v) (-2)
def z2:Rat×Rat:=(0,0)
def apQ(p q:Pt)(r:Rat):Qd:=((doQ z2 p q).1+(sqA p z2+sqA q z2)-r*r,(doQ z2 p q).2.1+sqB p z2,(doQ z2 p q).2.2.1+sqB q z2,(doQ z2 p q).2.2.2.1,p.2.2.2.2,q.2.2.2.2)
namespace RE
theorem U8(A B C D m n s a b c d:RE):A+s*(a*c)+(B+s*(b*c))*m+(C+s*(a*d))*n+(D+s*(b*d))*(m*n)=A+B*m+C*n+D*(m*n)+s*((a+b*m)*(c+d*n)):=by grind
theorem Vc(A B C D m n a b c d r:RE):A+(a+c)-r+(B+b)*m+(C+d)*n+D*(m*n)=A+B*m+C*n+D*(m*n)+(a+b*m)+(c+d*n)-r:=by grind
theorem ahi(x y u w:RE):0+ -2*((x-0)*(u-0))+ -2*((y-0)*(w-0))+((x-0)*(x-0)+(y-0)*(y-0))+((u-0)*(u-0)+(w-0)*(w-0))=(x-u)*(x-u)+(y-w)*(y-w):=by grind
theorem ak5(a b:RE):0+1*a+ -1*b=a-b:=by grind
theorem Tp(a v b:RE):a-v+b=a+b-v:=by grind
theorem NL(u t:RE):u*u-t*t=(u-t)*(u+t):=by grind
theorem ah0(Q r t:RE):Q+r*r+(r+r)*t=(t+r)*(t+r)+(Q-t*t):=by grind
theorem aeK(Q r t:RE):Q+r*r+ -(r+r)*t=(t-r)*(t-r)+(Q-t*t):=by grind
theorem acE(u t r:RE):u*u+t*t-(u*t+u*t)-r*r=(u-(t+r))*(u-(t-r)):=by grind
theorem aho(u t r:RE)(h1:0<u)(h2:0<t)(h3:0<=r):0<u+(t+r):=by grind
theorem al6(u t r:RE)(h1:0<u)(h2:r<t):0<u+(t-r):=by grind
theorem amj(u t r:RE)(h1:0<u-(t+r))(h2:0<=r):0<u-(t-r):=by grind
theorem amG(u t r:RE)(h1:0<u)(h2:t<=r):0<u-(t-r):=by grind
theorem gD(x y t:RE)(h1:x<=y):x-t<=y-t:=by grind
theorem GU(x y:RE):((y*y-(x*x)))+((x-(y))*(x-(y)))+2*((x-(y))*(y-(0)))=0:=by grind
theorem To(x y:RE)(h1:y<=x)(h2:0<=y):y*y<=x*x:=λhg=>far (aK (aK (aL hg) (aD (aG h1) (aG h1))) (jq (by decide+kernel:(0:Rat)<2) (aD (aG h1) (aG h2)))) (GU x y)
theorem W3(a b:RE):a*b*(a*b)=a*a*(b*b):=by grind
theorem Q9(n e k r:RE):n*(e*k-r)=e*(n*k)-r*n:=by grind
def vq(q:Qd):RE:=vQ q.1 q.2.1 q.2.2.1 q.2.2.2.1 q.2.2.2.2.1 q.2.2.2.2.2
theorem Ax{q:Qd}(h:0<=q.2.2.2.2.1)(h':0<=q.2.2.2.2.2):sgQ q=sg (vq q):=sgnQ_re h h'
theorem Kq(q:Qd)(x y:Rat×Rat)(s:Rat):vq (prQ q x y s)=vq q+of s*(v2 x.1 x.2 q.2.2.2.2.1*v2 y.1 y.2 q.2.2.2.2.2):=by
 unfold vq vQ prQ v2;simp only[of_add,aC];exact U8 _ _ _ _ _ _ _ _ _ _ _
theorem of0:of 0=0:=rfl
theorem abK(p q:Pt):vq (noQ p q)=0:=by
 unfold vq vQ noQ;dsimp only;rw[of0,zero_mul,zero_mul,zero_mul,add_zero,add_zero,add_zero]
def sbE(v:Rat×Rat)(p:PE):PE:=(p.1-of v.1,p.2-of v.2)
theorem DU(p:Pt)(v:Rat×Rat):v2 (rcX p v).1 (rcX p v).2 p.2.2.2.2=(sbE v (pR p)).1:=by
 unfold rcX sbE pR pX v2;dsimp only;rw[of_sub,Tp]
theorem Cz(p:Pt)(v:Rat×Rat):v2 (rcY p v).1 (rcY p v).2 p.2.2.2.2=(sbE v (pR p)).2:=by
 unfold rcY sbE pR pY v2;dsimp only;rw[of_sub,Tp]
def turS(v:Rat×Rat)(p q:PE):Int:=sg (crs (sbE v p) (sbE v q))
theorem crQ_re(v:Rat×Rat){p q:Pt}[hp:Rpd p][hq:Rpd q]:sgQ (crQ v p q)=turS v (pR p) (pR q):=by
 rw[Ax (q:=crQ v p q) (show 0<=p.2.2.2.2 from hp.nn) (show 0<=q.2.2.2.2 from hq.nn)];unfold crQ;rw[Kq,Kq,abK];show sg (0+of 1*(v2 (rcX p v).1 (rcX p v).2 p.2.2.2.2*v2 (rcY q v).1 (rcY q v).2 q.2.2.2.2)+of (-1)*(v2 (rcY p v).1 (rcY p v).2 p.2.2.2.2*v2 (rcX q v).1 (rcX q v).2 q.2.2.2.2))=_;rw[DU,DU,Cz,Cz];exact congrArg sg (ak5 _ _)
def apaS(p q:PE)(r:Rat):Int:=sg (dsE p q-of (r*r))
theorem apQ_re{p q:Pt}[hp:Rpd p][hq:Rpd q](r:Rat):sgQ (apQ p q r)=apaS (pR p) (pR q) r:=by
 rw[Ax (q:=apQ p q r) (show 0<=p.2.2.2.2 from hp.nn) (show 0<=q.2.2.2.2 from hq.nn)]
 have e1:vq (doQ z2 p q)=0+ -2*((pX p-0)*(pX q-0))+ -2*((pY p-0)*(pY q-0)):=by
  unfold doQ;rw[Kq,Kq,abK];show 0+of (-2)*(v2 (rcX p z2).1 (rcX p z2).2 p.2.2.2.2*v2 (rcX q z2).1 (rcX q z2).2 q.2.2.2.2)+of (-2)*(v2 (rcY p z2).1 (rcY p z2).2 p.2.2.2.2*v2 (rcY q z2).1 (rcY q z2).2 q.2.2.2.2)=_;rw[DU,DU,Cz,Cz];rfl
 have e2:∀{p:Pt},Rpd p->v2 (sqA p z2) (sqB p z2) p.2.2.2.2=(pX p-0)*(pX p-0)+(pY p-0)*(pY p-0):=λ{p} h=>by
  have:=Hm (p:=p) (v:=z2);unfold sqP at this;rw[vR_co]at this;exact this
 have e3:vq (apQ p q r)=vq (doQ z2 p q)+v2 (sqA p z2) (sqB p z2) p.2.2.2.2+v2 (sqA q z2) (sqB q z2) q.2.2.2.2-of (r*r):=by
  unfold vq vQ apQ v2;dsimp only;rw[of_sub,of_add,of_add,of_add,of_add];exact Vc _ _ _ _ _ _ _ _ _ _ _
 rw[e3,e1,e2 hp,e2 hq,ahi];rfl
def UB(c:Cv)(p:PE)(r:Rat):Int:=min (apaS (pR (frC c)) p r) (apaS (pR (toC c)) p r)
def rngS(d:RE)(q r:Rat):Int:=bif decide (0<=sg (d-v2 (q+r*r) (r+r) q))then sg (d-v2 (q+r*r) (r+r) q)else bif decide (aF q (r*r)<=0)then-1 else-(sg (d-v2 (q+r*r) (-(r+r)) q))
def witE(c:Cv)(p:PE):Bool:=fx (frm (ciC c) (pR (ccF c))) (frm (ciC c) (pR (ccT c))) (frm (ciC c) p)
open Classical in
def besE(c:Cv)(p:PE):Bool:=decide (btE (tE (lnC c) (pR (frC c))) (tE (lnC c) (pR (toC c))) (tE (lnC c) p))
open Classical in
def poiE(c:Cv)(p:PE)(r:Rat):Int:=
 bif decide (r<0)then 1 else
 bif c.1 then(bif decide (p=vE (ctr (ciC c)))then aF (ciC c).2.2 (r*r)else bif witE c p then rngS (dsE p (vE (ctr (ciC c)))) (ciC c).2.2 r else UB c p r)
 else bif besE c p then sg (exE (lnC c) p*exE (lnC c) p-of (r*r*((lnC c).1*(lnC c).1+(lnC c).2.1*(lnC c).2.1)))else UB c p r
theorem fZ{x y:RE}(h:x<=y):sg x<=sg y:=by
 rcases bj x with⟨a,e⟩|⟨a,e⟩|⟨a,e⟩<;>rcases bj y with⟨b,f⟩|⟨b,f⟩|⟨b,f⟩<;>rw[e,f]<;>try decide
 ·exfalso;rw[b]at h;exact h a
 ·exact absurd (da b a) h
 ·exfalso;rw[a]at h;exact h b
theorem Yj(a b t:RE):min (sg (a-t)) (sg (b-t))=sg (mnE a b-t):=by
 unfold mnE;by_cases e:b<a
 ·rw[anH e];exact Int.min_eq_right (fZ (gD _ _ _ (le_of_lt e)))
 ·rw[anA e];exact Int.min_eq_left (fZ (gD _ _ _ ((lt_or_ge b a).resolve_left e)))
theorem T4{c:Cv}(hf:Rpd (frC c))(ht:Rpd (toC c))(v:Rat×Rat)(r:Rat):UB c (vE v) r=sg (vR (C1 c v)-of (r*r)):=by
 rw[Gt hf ht];exact Yj _ _ _
theorem gZ{n:RE}(h:0<n)(x:RE):sg (n*x)=sg x:=by rw[dA,dD h,aor]
theorem yX{a b:Rat}(ha:0<=a)(hb:0<=b):rq (a*b)=rq a*rq b:=Ex _ _ (gS _) (aD (gS _) (gS _)) (by rw[dE (anw ha hb),aC,W3,dE ha,dE hb])
theorem IW{u t:RE}{q r:Rat}(hu:0<u)(hq:0<q)(ht:t=rq q)(hr:0<=r):rngS (u*u) q r=sg (u*u+of q-(u*t+u*t)-of (r*r)):=by
 have hr':0<=of r:=gr.2 hr;have tt:t*t=of q:=by rw[ht];exact dE (by grind)
 have tp:0<t:=by rw[ht];exact Bv hq
 have e1:v2 (q+r*r) (r+r) q=(t+of r)*(t+of r):=by
  unfold v2;rw[<-ht,of_add,aC,of_add,ah0,tt,sub_self,add_zero]
 have e2:v2 (q+r*r) (-(r+r)) q=(t-of r)*(t-of r):=by
  unfold v2;rw[<-ht,of_add,aC,of_neg,of_add,aeK,tt,sub_self,add_zero]
 have f1:sg (u*u-v2 (q+r*r) (r+r) q)=sg (u-(t+of r)):=by
  rw[e1,NL,mul_comm,gZ (aho _ _ _ hu tp hr')]
 have f2:of r<t->sg (u*u-v2 (q+r*r) (-(r+r)) q)=sg (u-(t-of r)):=λg=>by
  rw[e2,NL,mul_comm,gZ (al6 _ _ _ hu g)]
 have fin:sg (u*u+of q-(u*t+u*t)-of (r*r))=sg (u-(t+of r))*sg (u-(t-of r)):=by
  rw[<-tt,aC,acE,dA]
 unfold rngS;rw[f1,fin];rcases bj (u-(t+of r))with⟨a,e⟩|⟨a,e⟩|⟨a,e⟩
 ·rw[e,dD (amj _ _ _ a hr')];rfl
 ·rw[e];show(0:Int)=0*_;rw[aqa]
 ·rw[e];show(bif decide (aF q (r*r)<=0)then-1 else _)=_
  have cq:decide (aF q (r*r)<=0)=decide (q<=r*r):=by
   rw[za]
  rw[cq];by_cases g:q<=r*r
  ·have tr:t<=of r:=uP _ _ (le_of_lt tp) hr' (by rw[tt,<-aC];exact gr.2 g);rw[anb g,dD (amG _ _ _ hu tr)];rfl
  ·have tr:of r<t:=by
    rcases lt_or_ge (of r) t with k|k
    ·exact k
    ·exfalso;have:=To _ _ k (le_of_lt tp);rw[tt,<-aC]at this;exact g (gr.1 this)
   rw[ane g,f2 tr];show-(sg _)= -1*sg _;omega
open Classical in
theorem Uk{c:Cv}(h:GdE c){v:Rat×Rat}(hd:Rdd (pg c v))(r:Rat):poiE c (vE v) r=vF c v r:=by
 have hf:=h.f;have ht:=h.t;unfold poiE vF;by_cases hr:r<0
 ·rw[anb hr];rfl
 ·rw[ane hr,cond_false,cond_false,cmpTR_re hd.nn];have hr0:0<=r:=by grind
  cases ha:c.1
  ·rw[cond_false];have hl:=(h.l ha).1;have hn:0<nrE (lnC c):=pV hl
   have hb:besE c (vE v)=tn c (atP v):=by
    have:=zk (c:=c) (p:=atP v);rw[m7]at this;unfold besE;rw[aps,an6];exact this.symm
   unfold pg;rw[hb,ha,cond_false];cases tn c (atP v)
   ·exact T4 hf ht v r
   ·rw[cond_true,cond_true];have h1:1/((lnC c).1*(lnC c).1+(lnC c).2.1*(lnC c).2.1)*((lnC c).1*(lnC c).1+(lnC c).2.1*(lnC c).2.1)=1:=anx (lk hl)
    have en:nrE (lnC c)=of ((lnC c).1*(lnC c).1+(lnC c).2.1*(lnC c).2.1):=by
     rw[of_add,aC,aC];rfl
    have ek:nrE (lnC c)*of (1/((lnC c).1*(lnC c).1+(lnC c).2.1*(lnC c).2.1))=1:=by
     rw[en,mul_comm,<-aC,h1];rfl
    have e2:vR (a9 (cV v (dZ (lnC c) v)) (cV v (dZ (lnC c) v)),0,0)=of (a9 (cV v (dZ (lnC c) v)) (cV v (dZ (lnC c) v))):=d7 _ _;rw[e2,Fe hl,aC (r*r) ((lnC c).1*(lnC c).1+(lnC c).2.1*(lnC c).2.1),<-en,aC _ (1/((lnC c).1*(lnC c).1+(lnC c).2.1*(lnC c).2.1)),aC ((lnC c).1*v.1+(lnC c).2.1*v.2-(lnC c).2.2),<-QM,<-gZ hn (_-of (r*r)),Q9,ek];refine congrArg sg ?_;rw[mul_one]
  ·rw[cond_true];have hq:=(h.q ha).1
   have cz:vE v=vE (ctr (ciC c))↔zeV (aY c v)=true:=by
    unfold zeV aY cV vE;rw[anm,an6,an6];constructor
    ·intro e;have e1:=lL (congrArg Prod.fst e);have e2:=lL (congrArg Prod.snd e);dsimp only;rw[e1,e2];exact⟨by grind,by grind⟩
    ·intro ⟨e1,e2⟩;dsimp only at e1 e2;rw[show v.1=(ctr (ciC c)).1 by grind,show v.2=(ctr (ciC c)).2 by grind]
   unfold pg;rw[ha,cond_true];cases hz:zeV (aY c v)
   ·rw[ane (λe=>by rw[cz.1 e]at hz;cases hz),cond_false]
    have hw:witE c (vE v)=dM c (aY c v):=by
     rw[(J1 h ha hz).2];show _=fx _ _ (vE (cV (ctr (ciC c)) v));rw[<-JU];rfl
    rw[hw];cases dM c (aY c v)
    ·exact T4 hf ht v r
    ·rw[cond_true,cond_true,vR_mk]
     have dps:0<a9 (aY c v) (aY c v):=by
      have:=zn hz;have:=jN (aY c v);grind
     have es:dsE (vE v) (vE (ctr (ciC c)))=of (a9 (aY c v) (aY c v)):=by
      unfold dsE vE a9 aY cV;rw[of_add,aC,aC,of_sub,of_sub]
     have su:=dE (show 0<=a9 (aY c v) (aY c v) by grind);rw[es,<-su,IW (Bv dps) hq rfl hr0];unfold v2;have two:of (-2)= -2:=rfl;rw[two,aao,of_add,<-su,yX (by grind) (by grind)]
   ·rw[anb (cz.2 hz),cond_true]
    have tw:dM c (aY c v)=true:=by
     unfold dM;rw[ha,hz];rfl
    have dz:a9 (aY c v) (aY c v)=0:=by
     unfold zeV at hz;obtain⟨a,b⟩:=anm.1 hz;unfold a9;rw[anf a,anf b];decide+kernel
    rw[tw,cond_true,vR_mk,dz,Rat.zero_mul,Rat.zero_add];unfold v2;rw[Ji,mul_zero,add_zero,<-of_sub,sg_of,vf]
end RE
end
end Go.Proofs.YtagbmoohboleaaaGreat
end
