/- Common points of lines and circles: plain, with sizes. -/
import Derived.Test.YtagbmoohboleaaaGreatJ14
import Derived.Test.YtagbmoohboleaaaGreatJ13
noncomputable section
namespace Go.Proofs.YtagbmoohboleaaaGreat
open Go.RowKit Go.IntKind
theorem aoO:type_of% @List.filter_cons:=@List.filter_cons
theorem apG:type_of% @Int.le_trans:=@Int.le_trans
theorem apH:type_of% @List.filter_nil:=@List.filter_nil
section
theorem Con.new_d{P:Program}{f:Nat}{args:List SV}{et:TypeId}{e:Ty}{xs:List e.D}(h:Con P f args [.new et e xs]):Con P f args [.d (.sl e) xs]:=by
 intro A w vs hI ha;refine(h A w vs hI ha).mono ?_;rintro en w' ⟨v,rfl,hb,css,ho,ha2,hn⟩
 refine⟨v,rfl,hb,?_⟩;obtain⟨hlen,p,c,hv,h1,h2,h3⟩:=Rd.of_own hn ho;subst hv;refine⟨[.slice p xs.length c],⟨p,xs.length,c,css,rfl,rfl,h1,h2,bS (λ_ _ h=>Ty.rd_keep ⟨am2 _,λb _ hb=>hb.1,λ_ _ _=>rfl⟩ h) ha2,λh0=>?_⟩,rfl⟩;obtain⟨b,off,rfl,h5,h6⟩:=h3 h0;refine⟨b,off,rfl,.inr ?_,h5,h6⟩;rcases ho.2 with⟨h7,_⟩|⟨g,cap,cur,h7,h8,_⟩
 ·cases h7
 ·injection h7 with h7;injection h7 with h7;injection h7 with h7;subst h7;exact h8
class Bb (q:Rat) (n d:outParam Nat):Prop where
 nu:q.num.natAbs<=2^n
 de:q.den<=2^d
theorem ED{n:Int}{d a b:Nat}(hd:d≠0)(h1:n.natAbs<=2^a)(h2:d<=2^b):(mkRat n d).num.natAbs<=2^a/\(mkRat n d).den<=2^b:=by
 rw[apZ,ap0,ank hd,ank hd];constructor
 ·refine am9 ?_ h1;refine(JW n (d.gcd n.natAbs)).resolve_right (λh=>h ?_);exact Int.ofNat_dvd_left.2 (Nat.gcd_dvd_right d n.natAbs)
 ·exact am9 (Nat.div_le_self _ _) h2
theorem zd{a b m n:Nat}(h:a<=2^m)(h':b<=2^n):a*b<=2^(m+n):=by
 rw[Nat.pow_add];exact ao2 h h'
theorem ahh{x y m n:Nat}(h:x<=2^m)(h':y<=2^n):x+y<=2^(mx m n+1):=by
 have h1:=am9 h (Nat.pow_le_pow_right (by decide) (Bo m n));have h2:=am9 h' (Nat.pow_le_pow_right (by decide) (B9 m n));rw[Nat.pow_succ];omega
section
variable {a b:Rat} {m n d e:Nat}
instance alH [h:Bb a m d] [h':Bb b n e]:Bb (a+b) (mx (m+e) (n+d)+1) (d+e):=by
 have d1:=a.den_pos;have d2:=b.den_pos
 have:=ED (n:=a.num*(b.den:Int)+b.num*(a.den:Int)) (d:=a.den*b.den) (a:=mx (m+e) (n+d)+1) (b:=d+e) (apy (by omega) (by omega)) (by
  refine am9 (Int.natAbs_add_le _ _) ?_;rw[apN,apN,aot,aot];exact ahh (zd h.nu h'.de) (zd h'.nu h.de)) (zd h.de h'.de)
 rw[<-Rat.add_def']at this;exact⟨this.1,this.2⟩
instance alu [h:Bb a m d]:Bb (-a) m d:=⟨by rw[Rat.neg_num,Int.natAbs_neg];exact h.nu,h.de⟩
instance alF [h:Bb a m d] [h':Bb b n e]:Bb (a-b) (mx (m+e) (n+d)+1) (d+e):=by
 rw[apq];infer_instance
instance amv [h:Bb a m d] [h':Bb b n e]:Bb (a*b) (m+n) (d+e):=by
 have d1:=a.den_pos;have d2:=b.den_pos
 have:=ED (n:=a.num*b.num) (d:=a.den*b.den) (a:=m+n) (b:=d+e) (apy (by omega) (by omega)) (by
  rw[apN];exact zd h.nu h'.nu) (zd h.de h'.de)
 rw[<-Rat.mul_def']at this;exact⟨this.1,this.2⟩
theorem acT [h:Bb a m d]:Bb a⁻¹ d m:=by
 by_cases h0:a=0
 ·subst h0;rw[Rat.inv_zero];exact⟨apr _,Nat.one_le_two_pow⟩
 ·have hn:a.num≠0:=λe=>h0 (Rat.num_eq_zero.1 e);have h1:=h.nu;have h2:=h.de;rw[Rat.inv_def];rcases aoL hn with h3|h3
  ·rw[<-Rat.neg_divInt_neg,show-a.num=(((-a.num).toNat:Nat):Int) by omega,apk];have:=ED (n:= -(a.den:Int)) (d:=(-a.num).toNat) (a:=d) (b:=m) (by omega) (by rw[Int.natAbs_neg];exact h2) (by omega);exact⟨this.1,this.2⟩
  ·rw[show a.num=((a.num.toNat:Nat):Int) by omega,apk];have:=ED (n:=(a.den:Int)) (d:=a.num.toNat) (a:=d) (b:=m) (by omega) h2 (by omega);exact⟨this.1,this.2⟩
instance amg [h:Bb a m d] [h':Bb b n e]:Bb (a/b) (m+e) (d+n):=by
 rw[aoU];have:=acT (h:=h');infer_instance
theorem aai:∀k:Nat,((2^(29*k):Nat):Int)<=pw k
 |0=>by decide
 |k+1=>by
  have ih:=aai k
  have e:2^(29*(k+1))=2^(29*k)*536870912:=by
   rw[Nat.mul_add,Nat.pow_add]
  rw[e,ce,aor];have:(0:Int)<=pw k:=apG (Int.natCast_nonneg _) ih;omega
theorem Xm{z:Int}{n:Nat}(h:z.natAbs<=2^n):szI z<=n/29+1:=by
 have h1:=aai (n/29+1);have h2:2^n<2^(29*(n/29+1)):=Nat.pow_lt_pow_right (by decide) (by omega);exact fL (by omega) (by omega)
theorem DC [h:Bb a m d]{k:Nat}(hm:m/29+1<=k)(hd:d/29+1<=k):Bd a k:=⟨⟨am9 (Xm h.nu) hm,am9 (Xm (z:=(a.den:Int)) h.de) hd⟩⟩
end
theorem Ug{n d:Int}{a b:Nat}(h0:0<d)(h1:n.natAbs<=2^a)(h2:d.natAbs<=2^b):Bb (Rat.divInt n d) a b:=by
 obtain⟨k,rfl⟩:=an6 (show 0<=d by omega);rw[apk];have:=ED (n:=n) (d:=k) (by omega) h1 h2;exact⟨this.1,this.2⟩
def cW(x:BO3):Prop:=ok Rat 12 x.1/\ok Rat 12 x.2.1/\ok Rat 63 x.2.2/\((dec x:Ln).1≠0\/(dec x:Ln).2.1≠0)
instance (x:BO3):Decidable (cW x):=by unfold cW;infer_instance
def cg(x:BO3):Prop:=ok Rat 4 x.1/\ok Rat 4 x.2.1/\ok Rat 13 x.2.2/\(0:Rat)<(dec x:Ln).2.2
instance (x:BO3):Decidable (cg x):=by unfold cg;infer_instance
class BdL (l:Ln):Prop where
 a:Bd l.1 12
 b:Bd l.2.1 12
 c:Bd l.2.2 63
class BdC (c:Ln):Prop where
 x:Bd c.1 4
 y:Bd c.2.1 4
 q:Bd c.2.2 13
theorem fc{x:BO3}(h:cW x):∃l:Ln,x=enc l/\BdL l/\(l.1≠0\/l.2.1≠0):=by
 obtain⟨h1,h2,h3,h4⟩:=h;obtain⟨x1,x2,x3⟩:=x;obtain⟨a,rfl,ba⟩:=aD h1;obtain⟨b,rfl,bb⟩:=aD h2;obtain⟨c,rfl,bc⟩:=aD h3;have e:((enc a,enc b,enc c):BO3)=enc ((a,b,c):Ln):=rfl;rw[e,aA]at h4;exact⟨(a,b,c),rfl,⟨ba,bb,bc⟩,h4⟩
theorem cL{x:BO3}(h:cg x):∃c:Ln,x=enc c/\BdC c/\0<c.2.2:=by
 obtain⟨h1,h2,h3,h4⟩:=h;obtain⟨x1,x2,x3⟩:=x;obtain⟨a,rfl,ba⟩:=aD h1;obtain⟨b,rfl,bb⟩:=aD h2;obtain⟨c,rfl,bc⟩:=aD h3;have e:((enc a,enc b,enc c):BO3)=enc ((a,b,c):Ln):=rfl;rw[e,aA]at h4;exact⟨(a,b,c),rfl,⟨ba,bb,bc⟩,h4⟩
theorem m4{l:Ln}[h:BdL l](h0:l.1≠0\/l.2.1≠0):cW (enc l):=by
 have a:=h.a;have b:=h.b;have c:=h.c;exact⟨amZ (okd (am2 _) (by decide)),amZ (okd (am2 _) (by decide)),amZ (okd (am2 _) (by decide)),by rw[aA];exact h0⟩
theorem iD{c:Ln}[h:BdC c](h0:0<c.2.2):cg (enc c):=by
 have a:=h.x;have b:=h.y;have c:=h.q;exact⟨amZ (okd (am2 _) (by decide)),amZ (okd (am2 _) (by decide)),amZ (okd (am2 _) (by decide)),by rw[aA];exact h0⟩
section
variable {l c:Ln}
instance amU [h:BdL l]:Bd l.1 12:=h.a
instance amQ [h:BdL l]:Bd l.2.1 12:=h.b
instance amS [h:BdL l]:Bd l.2.2 63:=h.c
instance amV [h:BdC c]:Bd c.1 4:=h.x
instance amR [h:BdC c]:Bd c.2.1 4:=h.y
instance amT [h:BdC c]:Bd c.2.2 13:=h.q
theorem acy [h:BdL l]:Bd l 63:=⟨⟨Cod.mono _ _ _ (by decide) h.a.le,Cod.mono _ _ _ (by decide) h.b.le,h.c.le⟩⟩
theorem Mg [h:BdC c]:Bd c 13:=⟨⟨Cod.mono _ _ _ (by decide) h.x.le,Cod.mono _ _ _ (by decide) h.y.le,h.q.le⟩⟩
end
def dE(l m:Ln):Rat:=l.1*m.2.1-m.1*l.2.1
def mf(l m:Ln):Rat:=l.2.2*m.2.1-m.2.2*l.2.1
def mh(l m:Ln):Rat:=l.1*m.2.2-m.1*l.2.2
def mb(l m:Ln):List Pt:=bif !decide (dE l m=0)then [atP (mf l m/dE l m,mh l m/dE l m)]else []
def Tc(l m:Ln):Int:=bif !decide (dE l m=0)then 0 else bif decide (mf l m=0)&&decide (mh l m=0)then 10 else 0
def ck(l:Ln):Rat:=l.1*l.1+l.2.1*l.2.1
def vlL(l:Ln)(x y:Rat):Rat:=l.1*x+l.2.1*y-l.2.2
def ki(l c:Ln):Rat:=ck l*c.2.2-vlL l c.1 c.2.1*vlL l c.1 c.2.1
def pP(ax bx ay b_ c:Rat):Pt:=bif ga c then atP (ax+bx*rtQ c,ay+b_*rtQ c)else(ax,bx,ay,b_,c)
def ftX(l c:Ln):Rat:=c.1-vlL l c.1 c.2.1/ck l*l.1
def ftY(l c:Ln):Rat:=c.2.1-vlL l c.1 c.2.1/ck l*l.2.1
def t9(l c:Ln):Pt:=pP (ftX l c) (-(l.2.1/ck l)) (ftY l c) (-(-l.1/ck l)) (ki l c)
def ub(l c:Ln):Pt:=pP (ftX l c) (l.2.1/ck l) (ftY l c) (-l.1/ck l) (ki l c)
def sV(l c:Ln):List Pt:=bif decide (ki l c<0)then []else bif decide (ki l c=0)then [atP (ftX l c,ftY l c)]
 else bif decide (a8 (t9 l c) (ub l c)>0)then [ub l c,t9 l c]else [t9 l c,ub l c]
def iz(c d:Ln):Bool:=decide (c.1=d.1)&&decide (c.2.1=d.2.1)
def rT(c:Ln):Rat:=c.1*c.1+c.2.1*c.2.1-c.2.2
def nI(c d:Ln):Ln:=(2*(d.1-c.1),2*(d.2.1-c.2.1),rT d-rT c)
def EJ(c d:Ln):List Pt:=bif iz c d then []else sV (nI c d) c
def Wd(c d:Ln):Int:=bif iz c d then(bif decide (c.2.2=d.2.2)then 10 else 0)else 0
def wJ(c d:Ln):BO3:=bif iz c d then o00 else enc (nI c d)
def Vz(c d:Ln):Int:=bif iz c d then 6 else 0
def ph(l m:Ln):Bool:=decide (l.1*m.2.1=l.2.1*m.1)&&(decide (l.1*m.2.2=l.2.2*m.1)&&decide (l.2.1*m.2.2=l.2.2*m.2.1))
def qa(c d:Ln):Bool:=decide (c.1=d.1)&&(decide (c.2.1=d.2.1)&&decide (c.2.2=d.2.2))
def cC(a b:Cv):Bool:=bif a.1==b.1 then(bif a.1 then qa (ciC a) (ciC b)else ph (lnC a) (lnC b))else false
def uV(a:BCU):Prop:=(a.1=true->cg a.2.2.1)/\(a.1=false->cW a.2.1)
instance (a:BCU):Decidable (uV a):=by unfold uV;infer_instance
def iw(a b:BCU):Prop:=uV a/\uV b
instance (a b:BCU):Decidable (iw a b):=by unfold iw;infer_instance
def wK(a b:Cv):List Pt:=bif a.1&&b.1 then EJ (ciC a) (ciC b)else bif a.1 then sV (lnC b) (ciC a)else bif b.1 then sV (lnC a) (ciC b)else mb (lnC a) (lnC b)
def YR(a b:Cv):Int:=bif a.1&&b.1 then Wd (ciC a) (ciC b)else bif a.1 then 0 else bif b.1 then 0 else Tc (lnC a) (lnC b)
def mW(c:Ln):Pt:=pP c.1 (-1) c.2.1 0 c.2.2
def mY(c:Ln):Pt:=pP c.1 1 c.2.1 0 c.2.2
theorem CP{ax bx ay b_ c:Rat}(h0:¬(bx=0/\b_=0))(hc:0<=c):Rpd (pP ax bx ay b_ c):=by
 refine⟨?_⟩;unfold pP;cases hq:ga c
 ·exact .inr ⟨h0,Jb hc hq,hq⟩
 ·exact .inl ⟨rfl,rfl,rfl⟩
theorem BK{ax bx ay b_ c:Rat}{j k m:Nat}(h1:Bd ax j)(h2:Bd bx k)(h3:Bd ay j)(h4:Bd b_ k)(h5:Bd c m){n:Nat}(hn:j+(k+m)+1<=n):Bd (pP ax bx ay b_ c) n:=by
 have z:bdR n 0:=bJ mN.le (by omega);have i1:Bd (ax+bx*rtQ c) _:=inferInstance;have i2:Bd (ay+b_*rtQ c) _:=inferInstance;refine⟨?_⟩;unfold pP;cases ga c
 ·exact⟨bJ h1.le (by omega),bJ h2.le (by omega),bJ h3.le (by omega),bJ h4.le (by omega),bJ h5.le (by omega)⟩
 ·exact⟨bJ i1.le (by omega),z,bJ i2.le (by omega),z,z⟩
section
variable {l m c d:Ln}
theorem pI(h:l.1≠0\/l.2.1≠0):ck l≠0:=kR h
instance amc [BdL l] [h:BdC c]:Bd (ki l c) 257:=by
 have hx:=h.x;have hy:=h.y;have hq:=h.q;have i1:Bd (ck l) 49:=inferInstanceAs (Bd (l.1*l.1+l.2.1*l.2.1) _);have i2:Bd (vlL l c.1 c.2.1) 97:=inferInstanceAs (Bd (l.1*c.1+l.2.1*c.2.1-l.2.2) _);exact(inferInstance:Bd (ck l*c.2.2-vlL l c.1 c.2.1*vlL l c.1 c.2.1) _).mono (by decide)
theorem we [BdL l][h:BdC c]:Bd (ftX l c) 163/\Bd (ftY l c) 163/\Bd (l.2.1/ck l) 61/\Bd (l.1/ck l) 61:=by
 have hx:=h.x;have hy:=h.y;have i1:Bd (ck l) 49:=inferInstanceAs (Bd (l.1*l.1+l.2.1*l.2.1) _);have i2:Bd (vlL l c.1 c.2.1) 97:=inferInstanceAs (Bd (l.1*c.1+l.2.1*c.2.1-l.2.2) _);have i3:Bd (c.1-vlL l c.1 c.2.1/ck l*l.1) _:=inferInstance;have i4:Bd (c.2.1-vlL l c.1 c.2.1/ck l*l.2.1) _:=inferInstance;have i5:Bd (l.2.1/ck l) _:=inferInstance;have i6:Bd (l.1/ck l) _:=inferInstance;exact⟨i3.mono (by decide),i4.mono (by decide),i5.mono (by decide),i6.mono (by decide)⟩
end
end
section
theorem KX(a b:Rat):((ao a,ao b):BV)=enc ((a,b):Rat×Rat):=nr rfl
theorem LZ{q:Rat}(h:¬q<0)(h':¬q=0):0<q:=by grind
theorem rdl{l:Ln}(h:ck l≠0)(hl:l.1≠0\/l.2.1≠0):¬(l.2.1/ck l=0/\ -l.1/ck l=0):=by
 intro ⟨h1,h2⟩
 have m:∀a:Rat,a/ck l=0->a=0:=λa e=>by
  have:a/ck l*ck l=a:=ani h;rw[e,Rat.zero_mul]at this;exact this.symm
 have:=m _ h1;have:=m _ h2;rcases hl with h|h<;>grind
section
variable {l c:Ln}
theorem Mc(hl:l.1≠0\/l.2.1≠0)(h0:0<=ki l c):Rpd (t9 l c)/\Rpd (ub l c):=by
 have hn:=pI hl;refine⟨CP (λh=>rdl hn hl ⟨by grind,by grind⟩) h0,CP (rdl hn hl) h0⟩
theorem Mb [BdL l][BdC c]:Bd (t9 l c) 490/\Bd (ub l c) 490:=by
 obtain⟨h1,h2,h3,h4⟩:=we (l:=l) (c:=c);have h5:Bd (ki l c) 257:=inferInstance;have n1:Bd (-(l.2.1/ck l)) 61:=inferInstance;have i1:Bd (ck l) 49:=inferInstanceAs (Bd (l.1*l.1+l.2.1*l.2.1) _);have n2:Bd (-l.1/ck l) 61:=(inferInstance:Bd (-l.1/ck l) _)
 have n3:Bd (-(-l.1/ck l)) 61:=inferInstance;exact⟨BK h1 n1 h2 n3 h5 (by decide),BK h1 h3 h2 n2 h5 (by decide)⟩
end
theorem yf{c d:Ln}[BdC c][BdC d]:BdL (nI c d):=by
 have b2:Bd (2:Rat) 3:=cN (n:=2) (by decide);have f1:Bd (rT c) 31:=(inferInstance:Bd (c.1*c.1+c.2.1*c.2.1-c.2.2) _).mono (by decide);have f2:Bd (rT d) 31:=(inferInstance:Bd (d.1*d.1+d.2.1*d.2.1-d.2.2) _).mono (by decide);have g1:Bd (2*(d.1-c.1)) _:=inferInstance;have g2:Bd (2*(d.2.1-c.2.1)) _:=inferInstance;have g3:Bd (rT d-rT c) _:=inferInstance;exact⟨g1.mono (by decide),g2.mono (by decide),g3.mono (by decide)⟩
theorem vL{c d:Ln}(h:iz c d=false):(nI c d).1≠0\/(nI c d).2.1≠0:=by
 unfold iz at h;unfold nI;dsimp only;by_cases h1:c.1=d.1
 ·rw[amW h1,aog]at h;have:=anP h;right;grind
 ·left;grind
theorem RT{c d:Ln}[BdC c][BdC d](h:iz c d=false):cW (enc (nI c d)):=m4 (h:=yf) (vL h)
def wv:List En:=[enT pJ,enL n9,enL oN,enL sL,enL qH,enT wq,enL tC,enL Gd,enL Pp,enL CV,enT yW,enL HD]
def agz:Cn 270 [tR,tR]:=cn λ(a b:BR)=>lf (okR a/\okR b) [.d tR (ao (ah a+ah b))] λh=>kB [RV.d tR (hAd a b)] (dL wv) h
def akc:Cn 193 [tR,tR]:=cn λ(a b:BR)=>lf (okR a/\okR b) [.d tR (ao (ah a-ah b))] λh=>kB [RV.d tR (hSu a b)] (dL wv) h
def ajr:Cn 194 [tR,tR]:=cn λ(a b:BR)=>lf (okR a/\okR b) [.d tR (ao (ah a*ah b))] λh=>kB [RV.d tR (hMu a b)] (dL wv) h
def ahj:Cn 195 [tR]:=cn λ(a:BR)=>lf (okR a) [.d tR (ao (-ah a))] λh=>kB [RV.d tR (hNe a)] (dL wv) h
def aiD:Cn 191 [tR,tR]:=cn λ(a b:BR)=>lf (iS a b) [.d tR (ao (ah a/ah b))] λh=>kB [RV.d tR (hDi a b)] (dL wv) h
def Qu(l m:BO3)(_k:KT):OLR:=og (o2 l.1 m.2.1) (og (o2 l.2.1 m.1) (og (o2 (hMu l.1 m.2.1) (hMu l.2.1 m.1)) (match(aE (ah (hMu l.1 m.2.1)) (ah (hMu l.2.1 m.1)))==0 with|true=>(og (o2 l.1 m.2.2) (og (o2 l.2.2 m.1) (og (o2 (hMu l.1 m.2.2) (hMu l.2.2 m.1)) (match(aE (ah (hMu l.1 m.2.2)) (ah (hMu l.2.2 m.1)))==0 with|true=>(og (o2 l.2.1 m.2.2) (og (o2 l.2.2 m.2.1) (og (o2 (hMu l.2.1 m.2.2) (hMu l.2.2 m.2.1)) (some [RV.d .bool ((aE (ah (hMu l.2.1 m.2.2)) (ah (hMu l.2.2 m.2.1)))==0)]))))|false=>some [RV.d .bool false]))))|false=>some [RV.d .bool false])))
def adb:Cn 90 [tO,tO]:=cn λ(l m:BO3)=>lf (cW l/\cW m) [.d .bool (ph (dec l) (dec m))] λh=>by
 refine aB wv (Qu l m) ⟨0,?_⟩;obtain⟨hl,hm⟩:=h;obtain⟨l,rfl,bl,nl⟩:=fc hl;obtain⟨m,rfl,bm,nm⟩:=fc hm;unfold Qu ph;simp only[aU,Nat.reduceAdd,Nat.reduceLeDiff,aq];cases decide (l.1*m.2.1=l.2.1*m.1)<;>cases decide (l.1*m.2.2=l.2.2*m.1)<;>rfl
def Tx(c d:BO3)(_k:KT):OLR:=og (o2 c.1 d.1) (match(aE (ah c.1) (ah d.1))==0 with|true=>(og (o2 c.2.1 d.2.1) (match(aE (ah c.2.1) (ah d.2.1))==0 with|true=>(og (o2 c.2.2 d.2.2) (some [RV.d .bool ((aE (ah c.2.2) (ah d.2.2))==0)]))|false=>some [RV.d .bool false]))|false=>some [RV.d .bool false])
def aek:Cn 89 [tO,tO]:=cn λ(c d:BO3)=>lf (cg c/\cg d) [.d .bool (qa (dec c) (dec d))] λh=>by
 refine aB wv (Tx c d) ⟨0,?_⟩;obtain⟨hc,hd⟩:=h;obtain⟨c,rfl,bc,nc⟩:=cL hc;obtain⟨d,rfl,bd,nd⟩:=cL hd;unfold Tx qa;simp only[aU,Nat.reduceLeDiff,aq];cases decide (c.1=d.1)<;>cases decide (c.2.1=d.2.1)<;>rfl
def Bi:List En:=enL agz::enL akc::enL ajr::enL ahj::enL aiD::wv
def aay(l m:BO3)(_k:KT):OLR:=og (o2 l.1 m.2.1) (og (o2 m.1 l.2.1) (og (o2 (hMu l.1 m.2.1) (hMu m.1 l.2.1)) (some [RV.d tR (hSu (hMu l.1 m.2.1) (hMu m.1 l.2.1))])))
def ahN:Cn 197 [tO,tO]:=cn λ(l m:BO3)=>lf (cW l/\cW m) [.d tR (ao (dE (dec l) (dec m)))] λh=>by
 refine aB Bi (aay l m) ⟨0,?_⟩;obtain⟨hl,hm⟩:=h;obtain⟨l,rfl,bl,nl⟩:=fc hl;obtain⟨m,rfl,bm,nm⟩:=fc hm;unfold aay dE;simp only[aU,Nat.reduceAdd,Nat.reduceLeDiff]
def YT(l:BO3)(_k:KT):OLR:=og (o2 l.1 l.1) (og (o2 l.2.1 l.2.1) (og (o2 (hMu l.1 l.1) (hMu l.2.1 l.2.1)) (some [RV.d tR (hAd (hMu l.1 l.1) (hMu l.2.1 l.2.1))])))
def ah5:Cn 190 [tO]:=cn λ(l:BO3)=>lf (cW l) [.d tR (ao (ck (dec l)))] λh=>by
 refine aB Bi (YT l) ⟨0,?_⟩;have hl:=h;obtain⟨l,rfl,bl,nl⟩:=fc hl;unfold YT ck;simp only[aU,Nat.reduceAdd,Nat.reduceLeDiff]
def Xw(l:BO3)(x y:BR)(_k:KT):OLR:=og (o2 l.1 x) (og (o2 l.2.1 y) (og (o2 (hMu l.1 x) (hMu l.2.1 y)) (og (o2 (hAd (hMu l.1 x) (hMu l.2.1 y)) l.2.2) (some [RV.d tR (hSu (hAd (hMu l.1 x) (hMu l.2.1 y)) l.2.2)]))))
def agE:Cn 192 [tO,tR,tR]:=cn λ(l:BO3) (x y:BR)=>lf (cW l/\ok Rat 4 x/\ok Rat 4 y) [.d tR (ao (vlL (dec l) (ah x) (ah y)))] λh=>by
 refine aB Bi (Xw l x y) ⟨0,?_⟩;obtain⟨hl,hx,hy⟩:=h;obtain⟨l,rfl,bl,nl⟩:=fc hl;obtain⟨x,rfl,bx⟩:=aD hx;obtain⟨y,rfl,b_y⟩:=aD hy;unfold Xw vlL;simp only[aU,Nat.reduceAdd,Nat.reduceLeDiff]
def XA(c d:BO3)(_k:KT):OLR:=og (o2 c.1 d.1) (match(aE (ah c.1) (ah d.1))==0 with|true=>(og (o2 c.2.1 d.2.1) (some [RV.d .bool ((aE (ah c.2.1) (ah d.2.1))==0)]))|false=>some [RV.d .bool false])
def ago:Cn 187 [tO,tO]:=cn λ(c d:BO3)=>lf (cg c/\cg d) [.d .bool (iz (dec c) (dec d))] λh=>by
 refine aB Bi (XA c d) ⟨0,?_⟩;obtain⟨hc,hd⟩:=h;obtain⟨c,rfl,bc,nc⟩:=cL hc;obtain⟨d,rfl,bd,nd⟩:=cL hd;unfold XA iz;simp only[aU,Nat.reduceLeDiff,aq];cases decide (c.1=d.1)<;>rfl
def XJ(a b c d e:BR)(_k:KT):OLR:=og (o1 e) (match ga (ah e)with|true=>(og (o2 b (hid (rtB (ah e)))) (og (o2 a (hMu b (hid (rtB (ah e))))) (og (o2 d (hid (rtB (ah e)))) (og (o2 c (hMu d (hid (rtB (ah e))))) (og (decide (ok (Rat×Rat) 100000 (hAd a (hMu b (hid (rtB (ah e)))),hAd c (hMu d (hid (rtB (ah e))))))) (some [RV.d tP (hid (enc (atP (dec (hAd a (hMu b (hid (rtB (ah e)))),hAd c (hMu d (hid (rtB (ah e)))))))))]))))))|false=>some [RV.d tP (a,(b,(c,(d,e))))])
def ai9:Cn 196 [tR,tR,tR,tR,tR]:=cn λ(a b c d e:BR)=>lf (ok Rat 1000 a/\ok Rat 1000 b/\ok Rat 1000 c/\ok Rat 1000 d/\ok Rat 1000 e) [.d tP (enc (pP (ah a) (ah b) (ah c) (ah d) (ah e)))] λh=>by
 refine aB Bi (XJ a b c d e) ⟨0,?_⟩;obtain⟨ha,hb,hc,hd,he⟩:=h;obtain⟨a,rfl,ba⟩:=aD ha;obtain⟨b,rfl,bb⟩:=aD hb;obtain⟨c,rfl,bc⟩:=aD hc;obtain⟨d,rfl,bd⟩:=aD hd;obtain⟨e,rfl,be⟩:=aD he;unfold XJ pP;simp only[aU,Nat.reduceLeDiff];cases hq:ga e
 ·rfl
 ·rw[Nu hq];simp only[aU,Nat.reduceAdd,Nat.reduceLeDiff,KX];try rfl
def Fe:List En:=enL ahN::enL ah5::enL agE::enT ago::enL ai9::Bi
def Yi(l m:BO3)(_k:KT):OLR:=og (decide (cW l/\cW m)) (og (o2 l.2.2 m.2.1) (og (o2 m.2.2 l.2.1) (og (o2 (hMu l.2.2 m.2.1) (hMu m.2.2 l.2.1)) (og (o2 l.1 m.2.2) (og (o2 m.1 l.2.2) (og (o2 (hMu l.1 m.2.2) (hMu m.1 l.2.2)) (og (o1 (hid (ao (dE (dec l) (dec m))))) (match(aE (ah (hid (ao (dE (dec l) (dec m))))) 0) !=0 with|true=>(og (decide (iS (hSu (hMu l.2.2 m.2.1) (hMu m.2.2 l.2.1)) (hid (ao (dE (dec l) (dec m)))))) (og (decide (iS (hSu (hMu l.1 m.2.2) (hMu m.1 l.2.2)) (hid (ao (dE (dec l) (dec m)))))) (og (decide (ok (Rat×Rat) 100000 (hDi (hSu (hMu l.2.2 m.2.1) (hMu m.2.2 l.2.1)) (hid (ao (dE (dec l) (dec m)))),hDi (hSu (hMu l.1 m.2.2) (hMu m.1 l.2.2)) (hid (ao (dE (dec l) (dec m))))))) (some [RV.d (.sl tP) ([hid (enc (atP (dec (hDi (hSu (hMu l.2.2 m.2.1) (hMu m.2.2 l.2.1)) (hid (ao (dE (dec l) (dec m)))),hDi (hSu (hMu l.1 m.2.2) (hMu m.1 l.2.2)) (hid (ao (dE (dec l) (dec m))))))))]),RV.d aqh 0]))))|false=>(og (o1 (hSu (hMu l.2.2 m.2.1) (hMu m.2.2 l.2.1))) (match(aE (ah (hSu (hMu l.2.2 m.2.1) (hMu m.2.2 l.2.1))) 0)==0 with|true=>(og (o1 (hSu (hMu l.1 m.2.2) (hMu m.1 l.2.2))) (match(aE (ah (hSu (hMu l.1 m.2.2) (hMu m.1 l.2.2))) 0)==0 with|true=>some [RV.d (.sl tP) ([]),RV.d aqh 10]|false=>some [RV.d (.sl tP) ([]),RV.d aqh 0]))|false=>some [RV.d (.sl tP) ([]),RV.d aqh 0]))))))))))
def YX:Cn 93 [tO,tO]:=cn λ(l m:BO3)=>lf (cW l/\cW m) [.d (.sl tP) ((mb (dec l) (dec m)).map enc),.d aqh (Tc (dec l) (dec m))] λh=>by
 refine aB Fe (Yi l m) ⟨0,?_⟩;obtain⟨hl,hm⟩:=h;obtain⟨l,rfl,bl,nl⟩:=fc hl;obtain⟨m,rfl,bm,nm⟩:=fc hm;have ol:=amW (m4 (l:=l) nl);have om:=amW (m4 (l:=m) nm);have bc:Bd (dE l m) 49:=inferInstanceAs (Bd (l.1*m.2.1-m.1*l.2.1) _);have e1:l.2.2*m.2.1-m.2.2*l.2.1=mf l m:=rfl;have e2:l.1*m.2.2-m.1*l.2.2=mh l m:=rfl;unfold Yi mb Tc;simp only[aU,Nat.reduceAdd,Nat.reduceLeDiff,aq,aZ,ol,om];by_cases h0:dE l m=0
 ·simp only[amW h0,e1,e2,Bool.not_true];cases decide (mf l m=0)<;>cases decide (mh l m=0)<;>rfl
 ·simp only[aU,Nat.reduceAdd,Nat.reduceLeDiff,h0,ne_eq,aoh,Bool.not_false,KX];rfl
def aao(l c:BO3)(_k:KT):OLR:=og (decide (cW l/\ok Rat 4 c.1/\ok Rat 4 c.2.1)) (og (decide (cW l)) (og (o2 (hid (ao (ck (dec l)))) c.2.2) (og (o2 (hid (ao (vlL (dec l) (ah c.1) (ah c.2.1)))) (hid (ao (vlL (dec l) (ah c.1) (ah c.2.1))))) (og (o2 (hMu (hid (ao (ck (dec l)))) c.2.2) (hMu (hid (ao (vlL (dec l) (ah c.1) (ah c.2.1)))) (hid (ao (vlL (dec l) (ah c.1) (ah c.2.1)))))) (some [RV.d tR (hSu (hMu (hid (ao (ck (dec l)))) c.2.2) (hMu (hid (ao (vlL (dec l) (ah c.1) (ah c.2.1)))) (hid (ao (vlL (dec l) (ah c.1) (ah c.2.1))))))])))))
def akl:Cn 189 [tO,tO]:=cn λ(l c:BO3)=>lf (cW l/\cg c) [.d tR (ao (ki (dec l) (dec c)))] λh=>by
 refine aB Fe (aao l c) ⟨0,?_⟩;obtain⟨hl,hc⟩:=h;obtain⟨l,rfl,bl,nl⟩:=fc hl;obtain⟨c,rfl,bc,nc⟩:=cL hc;have ol:=amW (m4 (l:=l) nl);have bv:Bd (vlL l c.1 c.2.1) 97:=inferInstanceAs (Bd (l.1*c.1+l.2.1*c.2.1-l.2.2) _);have bn:Bd (ck l) 49:=inferInstanceAs (Bd (l.1*l.1+l.2.1*l.2.1) _);unfold aao ki;simp only[aU,Nat.reduceAdd,Nat.reduceLeDiff,ol]
def Zt(c d:BO3)(_k:KT):OLR:=og (decide (cg c/\cg d)) (match iz (dec c) (dec d)with|true=>some [RV.d tO (((false,[]),(false,[])),(((false,[]),(false,[])),((false,[]),(false,[])))),RV.d aqh 6]|false=>(og (decide (aI (2:Int))) (og (o2 c.1 c.1) (og (o2 c.2.1 c.2.1) (og (o2 (hMu c.1 c.1) (hMu c.2.1 c.2.1)) (og (o2 (hAd (hMu c.1 c.1) (hMu c.2.1 c.2.1)) c.2.2) (og (o2 d.1 d.1) (og (o2 d.2.1 d.2.1) (og (o2 (hMu d.1 d.1) (hMu d.2.1 d.2.1)) (og (o2 (hAd (hMu d.1 d.1) (hMu d.2.1 d.2.1)) d.2.2) (og (o2 d.1 c.1) (og (o2 (hid (ao ((2:Int):Rat))) (hSu d.1 c.1)) (og (o2 d.2.1 c.2.1) (og (o2 (hid (ao ((2:Int):Rat))) (hSu d.2.1 c.2.1)) (og (o2 (hSu (hAd (hMu d.1 d.1) (hMu d.2.1 d.2.1)) d.2.2) (hSu (hAd (hMu c.1 c.1) (hMu c.2.1 c.2.1)) c.2.2)) (some [RV.d tO (hMu (hid (ao ((2:Int):Rat))) (hSu d.1 c.1),(hMu (hid (ao ((2:Int):Rat))) (hSu d.2.1 c.2.1),hSu (hSu (hAd (hMu d.1 d.1) (hMu d.2.1 d.2.1)) d.2.2) (hSu (hAd (hMu c.1 c.1) (hMu c.2.1 c.2.1)) c.2.2))),RV.d aqh 0]))))))))))))))))
def ahA:Cn 188 [tO,tO]:=cn λ(c d:BO3)=>lf (cg c/\cg d) [.d tO (wJ (dec c) (dec d)),.d aqh (Vz (dec c) (dec d))] λh=>by
 refine aB Fe (Zt c d) ⟨0,?_⟩;obtain⟨hc,hd⟩:=h;obtain⟨c,rfl,bc,nc⟩:=cL hc;obtain⟨d,rfl,bd,nd⟩:=cL hd;have oc:=amW (iD (c:=c) nc);have od:=amW (iD (c:=d) nd);have i2:decide (aI 2)=true:=by decide
 have b2:Bd ((2:Int):Rat) 3:=cN (by decide);unfold Zt wJ Vz;simp only[aU,Nat.reduceAdd,Nat.reduceLeDiff,oc,od,i2];cases iz c d
 ·rfl
 ·rfl
def Yp(c:BO3)(_k:KT):OLR:=og (decide (aI (1:Int))) (og (decide (aI (0:Int))) (og (o1 (hid (ao ((1:Int):Rat)))) (og (decide (ok Rat 1000 c.1/\ok Rat 1000 (hNe (hid (ao ((1:Int):Rat))))/\ok Rat 1000 c.2.1/\ok Rat 1000 (hid (ao ((0:Int):Rat)))/\ok Rat 1000 c.2.2)) (og (decide (ok Rat 1000 c.1/\ok Rat 1000 (hid (ao ((1:Int):Rat)))/\ok Rat 1000 c.2.1/\ok Rat 1000 (hid (ao ((0:Int):Rat)))/\ok Rat 1000 c.2.2)) (some [RV.d tP (hid (enc (pP (ah c.1) (ah (hNe (hid (ao ((1:Int):Rat))))) (ah c.2.1) (ah (hid (ao ((0:Int):Rat)))) (ah c.2.2)))),RV.d tP (hid (enc (pP (ah c.1) (ah (hid (ao ((1:Int):Rat)))) (ah c.2.1) (ah (hid (ao ((0:Int):Rat)))) (ah c.2.2))))])))))
def ZC:Cn 110 [tO]:=cn λ(c:BO3)=>lf (cg c) [.d tP (enc (mW (dec c))),.d tP (enc (mY (dec c)))] λh=>by
 refine aB Fe (Yp c) ⟨0,?_⟩;have hc:=h;obtain⟨c,rfl,bc,nc⟩:=cL hc;have b0:Bd ((0:Int):Rat) 3:=cN (by decide);have b1:Bd ((1:Int):Rat) 3:=cN (by decide);have i0:decide (aI 0)=true:=by decide
 have i1:decide (aI 1)=true:=by decide
 unfold Yp mW mY;simp only[aU,Nat.reduceLeDiff,i0,i1];rfl
def PZ:List En:=enL YX::enL akl::enL ahA::enL ZC::Fe
def aic:Ctx:=CX (ens PZ) []
def XQ(l c:BO3)(_k:KT):OLR:=let y1:=hid (ao (ki (dec l) (dec c)));let y2:=hid (ao (vlL (dec l) (ah c.1) (ah c.2.1)));let y3:=hid (ao (ck (dec l)));let y4:=hMu (hDi y2 y3) l.1;let y5:=hMu (hDi y2 y3) l.2.1;let y6:=hDi (hNe l.1) y3;let y7:=hNe (hDi l.2.1 y3);let y8:=ah (hSu c.2.1 y5);let y9:=enc (pP (ah (hSu c.1 y4)) (ah y7) y8 (ah (hNe y6)) (ah y1));let y10:=enc (pP (ah (hSu c.1 y4)) (ah (hDi l.2.1 y3)) y8 (ah y6) (ah y1));og (decide (cW l/\cg c)) (og (decide (cW l)) (og (o1 y1) (match decide ((aE (ah y1) 0)<0)with|true=>some [RV.new 37 tP []]|false=>(og (decide (cW l/\ok Rat 4 c.1/\ok Rat 4 c.2.1)) (og (decide (iS y2 y3)) (og (o2 (hDi y2 y3) l.1) (og (o2 c.1 y4) (og (o2 (hDi y2 y3) l.2.1) (og (o2 c.2.1 y5) (og (o1 y1) (match(aE (ah y1) 0)==0 with|true=>(og (decide (ok (Rat×Rat) 100000 (hSu c.1 y4,hSu c.2.1 y5))) (some [RV.new 37 tP ([hid (enc (atP (dec (hSu c.1 y4,hSu c.2.1 y5))))])]))|false=>(og (decide (iS l.2.1 y3)) (og (o1 l.1) (og (decide (iS (hNe l.1) y3)) (og (o1 (hDi l.2.1 y3)) (og (o1 y6) (og (decide (ok Rat 1000 (hSu c.1 y4)/\ok Rat 1000 y7/\ok Rat 1000 (hSu c.2.1 y5)/\ok Rat 1000 (hNe y6)/\ok Rat 1000 y1)) (og (decide (ok Rat 1000 (hSu c.1 y4)/\ok Rat 1000 (hDi l.2.1 y3)/\ok Rat 1000 (hSu c.2.1 y5)/\ok Rat 1000 y6/\ok Rat 1000 y1)) (og (decide (okP 4000 (hid y9)/\okP 4000 (hid y10))) (match decide ((a8 (dec (hid y9)) (dec (hid y10)))>0)with|true=>some [RV.new 37 tP ([hid y10,hid y9])]|false=>some [RV.new 37 tP ([hid y9,hid y10])]))))))))))))))))))))
theorem aiv(l c:BO3):RS aic 92 [.d tO l,.d tO c] (XQ l c):=rsX
def aaA:Cn 92 [tO,tO]:=cn λ(l c:BO3)=>lf (cW l/\cg c) [.d (.sl tP) ((sV (dec l) (dec c)).map enc)] λh=>by
 refine Con.new_d (et:=37) (da PZ (aiv _ _ ⟨0,?_⟩));obtain⟨hl,hc⟩:=h;obtain⟨l,rfl,bl,nl⟩:=fc hl;obtain⟨c,rfl,bc,nc⟩:=cL hc;have ol:=amW (m4 (l:=l) nl);have oc:=amW (iD (c:=c) nc);have hn:=pI nl;have bv:Bd (vlL l c.1 c.2.1) 97:=inferInstanceAs (Bd (l.1*c.1+l.2.1*c.2.1-l.2.2) _);have bn:Bd (ck l) 49:=inferInstanceAs (Bd (l.1*l.1+l.2.1*l.2.1) _);have e1:c.1-vlL l c.1 c.2.1/ck l*l.1=ftX l c:=rfl;have e2:c.2.1-vlL l c.1 c.2.1/ck l*l.2.1=ftY l c:=rfl;obtain⟨f1,f2,_,_⟩:=we (l:=l) (c:=c);unfold XQ sV;simp only[aU,Nat.reduceAdd,Nat.reduceLeDiff,aq,au,ol,oc,hn,ne_eq,aoh,e1,e2,KX];by_cases h0:ki l c<0
 ·simp only[amW h0];rfl
 ·simp only[amY h0];by_cases h1:ki l c=0
  ·simp only[amW h1];rfl
  ·have hp:=LZ h0 h1;obtain⟨p1,p2⟩:=Mc (c:=c) nl (show 0<=ki l c by grind);obtain⟨q1,q2⟩:=Mb (l:=l) (c:=c);have g1:pP (ftX l c) (-(l.2.1/ck l)) (ftY l c) (-(-l.1/ck l)) (ki l c)=t9 l c:=rfl;have g2:pP (ftX l c) (l.2.1/ck l) (ftY l c) (-l.1/ck l) (ki l c)=ub l c:=rfl;simp only[amY h1,aU,Nat.reduceLeDiff,aL,g1,g2];cases decide (a8 (t9 l c) (ub l c)>0)<;>rfl
def afV:List En:=enL aaA::PZ
def aaC(c d:BO3)(_k:KT):OLR:=og (decide (cg c/\cg d)) (match iz (dec c) (dec d)with|true=>(og (o2 c.2.2 d.2.2) (match(aE (ah c.2.2) (ah d.2.2))==0 with|true=>some [RV.d (.sl tP) ([]),RV.d aqh 10]|false=>some [RV.d (.sl tP) ([]),RV.d aqh 0]))|false=>(og (decide (cg c/\cg d)) (og (decide (cW (hid (wJ (dec c) (dec d)))/\cg c)) (some [RV.d (.sl tP) ((sV (dec (hid (wJ (dec c) (dec d)))) (dec c)).map enc),RV.d aqh 0]))))
def ahJ:Cn 91 [tO,tO]:=cn λ(c d:BO3)=>lf (cg c/\cg d) [.d (.sl tP) ((EJ (dec c) (dec d)).map enc),.d aqh (Wd (dec c) (dec d))] λh=>by
 refine aB afV (aaC c d) ⟨0,?_⟩;obtain⟨hc,hd⟩:=h;obtain⟨c,rfl,bc,nc⟩:=cL hc;obtain⟨d,rfl,bd,nd⟩:=cL hd;have oc:=amW (iD (c:=c) nc);have od:=amW (iD (c:=d) nd);unfold aaC EJ Wd;simp only[aU,Nat.reduceLeDiff,aq,oc,od];cases hc:iz c d
 ·have ol:cW (enc (nI c d)):=RT hc;have er:wJ c d=enc (nI c d):=by unfold wJ;rw[hc];rfl
  simp only[er,dT ol,aU];try rfl
 ·cases decide (c.2.2=d.2.2)<;>rfl
end
def mG(c:BCU):Prop:=okC 580 c/\uV c
instance (c:BCU):Decidable (mG c):=by unfold mG;infer_instance
def iO(c d:BCU):Prop:=mG c/\mG d
instance (c d:BCU):Decidable (iO c d):=by unfold iO;infer_instance
def Eo(c d:BCU):List BP:=bif !cC (dC c) (dC d)then(wK (dC c) (dC d)).map enc else [c.2.2.2.2.1,c.2.2.2.2.2,d.2.2.2.2.1,d.2.2.2.2.2]
def aeS(c d:BCU):List BP:=(Eo c d).filter λp=>onR (dC c) (dec p)&&onR (dC d) (dec p)
def uQ(c d:BCU):List BP:=jo (dC c) (aeS c d)
def TJ(c d:BCU):Bool:=bif c.1&&(d.1&&(c.2.2.2.1 !=d.2.2.2.1))then true else !c.1&&(a8 (dec c.2.2.2.2.1) (dec c.2.2.2.2.2) !=a8 (dec d.2.2.2.2.1) (dec d.2.2.2.2.2))
def Ab(c d:BCU):BCU:=bif TJ c d then uP d else d
def Di(c:Cv):List BP->Bool
 |[]=>false
 |x::r=>match r with
  |[]=>false
  |y::_=>decide (dt c (dec x) (dec y)<0)||Di c r
def afR(c d:BCU):Bool:=cC (dC c) (dC d)&&Di (dC (Ab c d)) (uQ c d)
def Mp:List En:=[enL ahJ,enL aaA,enL YX,enT adb,enT aek,enT Kw,enT Ku,enK YE,enL Om,enT yW]
def OI(a b:BCU)(_k:KT):OLR:=match a.1 with|true=>(match b.1 with|true=>(og (decide (cg a.2.2.1/\cg b.2.2.1)) (some [RV.d (.sl tP) ((EJ (dec a.2.2.1) (dec b.2.2.1)).map enc),RV.d aqh (Wd (dec a.2.2.1) (dec b.2.2.1))]))|false=>(match a.1 with|true=>(og (decide (cW b.2.1/\cg a.2.2.1)) (some [RV.d (.sl tP) ((sV (dec b.2.1) (dec a.2.2.1)).map enc),RV.d aqh 0]))|false=>(match b.1 with|true=>(og (decide (cW a.2.1/\cg b.2.2.1)) (some [RV.d (.sl tP) ((sV (dec a.2.1) (dec b.2.2.1)).map enc),RV.d aqh 0]))|false=>(og (decide (cW a.2.1/\cW b.2.1)) (some [RV.d (.sl tP) ((mb (dec a.2.1) (dec b.2.1)).map enc),RV.d aqh (Tc (dec a.2.1) (dec b.2.1))])))))|false=>(match a.1 with|true=>(og (decide (cW b.2.1/\cg a.2.2.1)) (some [RV.d (.sl tP) ((sV (dec b.2.1) (dec a.2.2.1)).map enc),RV.d aqh 0]))|false=>(match b.1 with|true=>(og (decide (cW a.2.1/\cg b.2.2.1)) (some [RV.d (.sl tP) ((sV (dec a.2.1) (dec b.2.2.1)).map enc),RV.d aqh 0]))|false=>(og (decide (cW a.2.1/\cW b.2.1)) (some [RV.d (.sl tP) ((mb (dec a.2.1) (dec b.2.1)).map enc),RV.d aqh (Tc (dec a.2.1) (dec b.2.1))]))))
def adz:Cn 33 [tCU,tCU]:=cn λ(a b:BCU)=>lf (iw a b) [.d (.sl tP) ((wK (dC a) (dC b)).map enc),.d aqh (YR (dC a) (dC b))] λh=>by
 refine aB Mp (OI a b) ⟨0,?_⟩;obtain⟨⟨a1,a2⟩,b1,b2⟩:=h;unfold OI wK YR EJ;obtain⟨aa,al,ac,aw,af,at_⟩:=a;obtain⟨ba,bl,bc,bw,bf,bt⟩:=b;cases aa<;>cases ba
 ·have h1:=a2 rfl;have h2:=b2 rfl;simp only[dT (show cW al/\cW bl from⟨h1,h2⟩)];rfl
 ·have h1:=a2 rfl;have h2:=b1 rfl;simp only[dT (show cW al/\cg bc from⟨h1,h2⟩)];rfl
 ·have h1:=a1 rfl;have h2:=b2 rfl;simp only[dT (show cW bl/\cg ac from⟨h2,h1⟩)];rfl
 ·have h1:=a1 rfl;have h2:=b1 rfl;simp only[dT (show cg ac/\cg bc from⟨h1,h2⟩)];rfl
def aau(a b:BCU)(_k:KT):OLR:=match !(a.1==b.1)with|true=>some [RV.d .bool false]|false=>(match a.1 with|true=>(og (decide (cg a.2.2.1/\cg b.2.2.1)) (some [RV.d .bool (qa (dec a.2.2.1) (dec b.2.2.1))]))|false=>(og (decide (cW a.2.1/\cW b.2.1)) (some [RV.d .bool (ph (dec a.2.1) (dec b.2.1))])))
def agQ:Cn 32 [tCU,tCU]:=cn λ(a b:BCU)=>lf (iw a b) [.d .bool (cC (dC a) (dC b))] λh=>by
 refine aB Mp (aau a b) ⟨0,?_⟩;obtain⟨⟨a1,a2⟩,b1,b2⟩:=h;unfold aau cC;obtain⟨aa,al,ac,aw,af,at_⟩:=a;obtain⟨ba,bl,bc,bw,bf,bt⟩:=b;cases aa<;>cases ba
 ·have h1:=a2 rfl;have h2:=b2 rfl;simp only[dT (show cW al/\cW bl from⟨h1,h2⟩)];rfl
 ·rfl
 ·rfl
 ·have h1:=a1 rfl;have h2:=b1 rfl;simp only[dT (show cg ac/\cg bc from⟨h1,h2⟩)];rfl
def abs:List En:=enL adz::enT agQ::Mp
def abF:NT:=[((8,18),{keep:=[2,3,6,7,8,9],own:=[(8,37,tP)],hl:=4}),((8,47),{keep:=[3,6,8,10,11],hl:=2})]
def uf:Ctx:=CX (ens abs) abF
def rI(c d:BCU)(s9:Int)(r3:List BP):Cfg:=⟨8,[.blk 0,.seq 33],[(2,.box 0 0),(3,.box 1 0),(6,SB (cC (dC c) (dC d))),(7,.d (.sl tP) ((wK (dC c) (dC d)).map enc)),(8,.own 3),(9,SI s9)],[.box 39 (Ty.split tCU c),.box 39 (Ty.split tCU d),.row 37 tP ([c.2.2.2.2.1,c.2.2.2.2.2,d.2.2.2.2.1,d.2.2.2.2.2]),.row 37 tP r3],0,[]⟩
def kY(c d:BCU)(s9:Int)(r3:List BP):Cfg:=⟨8,[.blk 0,.seq 33],[(2,.box 0 0),(3,.box 1 0),(6,SB (cC (dC c) (dC d))),(7,.own 2),(8,.own 3),(9,SI s9)],[.box 39 (Ty.split tCU c),.box 39 (Ty.split tCU d),.row 37 tP ([c.2.2.2.2.1,c.2.2.2.2.2,d.2.2.2.2.1,d.2.2.2.2.2]),.row 37 tP r3],0,[]⟩
def c9(c d:BCU)(r3:List BP)(B1:BCU)(s10:Bool)(s11:Int):Cfg:=⟨8,[.blk 2,.seq 58],[(3,.box 1 0),(6,SB (cC (dC c) (dC d))),(8,.d (.sl tP) (jo (dC c) r3)),(10,SB s10),(11,SI s11)],[.box 39 (Ty.split tCU c),.box 39 (Ty.split tCU B1)],0,[]⟩
def Qy(c d:BCU)(k:KT):OLR:=og (decide (iw c d)) (match !(cC (dC c) (dC d))with|true=>(og (decide (iw c d)) (k 18 (rI c d 0 ([]))))|false=>k 18 (kY c d 0 ([])))
theorem aam(c d:BCU):RS uf 8 [.d tCU c,.d tCU d] (Qy c d):=rsX
def rQ(c d:BCU)(s9:Int)(r3:List BP)(k:KT):OLR:=match decide (s9<(((wK (dC c) (dC d)).map enc).length:Int))with|true=>(match aT ((wK (dC c) (dC d)).map enc) s9 with|some x1=>(og (decide (okC 3500 c/\okP 3500 x1)) (match onR (dC c) (dec x1)with|true=>(match aT ((wK (dC c) (dC d)).map enc) s9 with|some x2=>(og (decide (okC 3500 d/\okP 3500 x2)) (match onR (dC d) (dec x2)with|true=>(match aT ((wK (dC c) (dC d)).map enc) s9 with|some x3=>(og (decide ((r3.length+([x3]).length)*320<=140737488355328/\r3.length+([x3]).length<=140737488355328)) (k 18 (rI c d (i64.wrap (s9+1)) (r3++([x3])))))|none=>none)|false=>k 18 (rI c d (i64.wrap (s9+1)) r3)))|none=>none)|false=>k 18 (rI c d (i64.wrap (s9+1)) r3)))|none=>none)|false=>(og (decide (yx c r3)) (match c.1 with|true=>(match d.1 with|true=>(match !(c.2.2.2.1==d.2.2.2.1)with|true=>k 47 (c9 c d r3 (hid (uP d)) false 1)|false=>(match !c.1 with|true=>(og (decide (okP 4000 c.2.2.2.2.1/\okP 4000 c.2.2.2.2.2)) (og (decide (okP 4000 d.2.2.2.2.1/\okP 4000 d.2.2.2.2.2)) (match(a8 (dec c.2.2.2.2.1) (dec c.2.2.2.2.2)) !=(a8 (dec d.2.2.2.2.1) (dec d.2.2.2.2.2))with|true=>k 47 (c9 c d r3 (hid (uP d)) false 1)|false=>k 47 (c9 c d r3 d false 1))))|false=>k 47 (c9 c d r3 d false 1)))|false=>(match !c.1 with|true=>(og (decide (okP 4000 c.2.2.2.2.1/\okP 4000 c.2.2.2.2.2)) (og (decide (okP 4000 d.2.2.2.2.1/\okP 4000 d.2.2.2.2.2)) (match(a8 (dec c.2.2.2.2.1) (dec c.2.2.2.2.2)) !=(a8 (dec d.2.2.2.2.1) (dec d.2.2.2.2.2))with|true=>k 47 (c9 c d r3 (hid (uP d)) false 1)|false=>k 47 (c9 c d r3 d false 1))))|false=>k 47 (c9 c d r3 d false 1)))|false=>(match !c.1 with|true=>(og (decide (okP 4000 c.2.2.2.2.1/\okP 4000 c.2.2.2.2.2)) (og (decide (okP 4000 d.2.2.2.2.1/\okP 4000 d.2.2.2.2.2)) (match(a8 (dec c.2.2.2.2.1) (dec c.2.2.2.2.2)) !=(a8 (dec d.2.2.2.2.1) (dec d.2.2.2.2.2))with|true=>k 47 (c9 c d r3 (hid (uP d)) false 1)|false=>k 47 (c9 c d r3 d false 1))))|false=>k 47 (c9 c d r3 d false 1))))
theorem wk(c d:BCU)(s9:Int)(r3:List BP):RN uf 18 (rI c d s9 r3) (rQ c d s9 r3):=rnX
def mB(c d:BCU)(s9:Int)(r3:List BP)(k:KT):OLR:=match decide (s9<(([c.2.2.2.2.1,c.2.2.2.2.2,d.2.2.2.2.1,d.2.2.2.2.2]).length:Int))with|true=>(match aT ([c.2.2.2.2.1,c.2.2.2.2.2,d.2.2.2.2.1,d.2.2.2.2.2]) s9 with|some _=>(match true,([c.2.2.2.2.1,c.2.2.2.2.2,d.2.2.2.2.1,d.2.2.2.2.2])[(s9).toNat]? with|true,some x1=>(og (decide (okC 3500 c/\okP 3500 x1)) (match onR (dC c) (dec x1)with|true=>(match aT ([c.2.2.2.2.1,c.2.2.2.2.2,d.2.2.2.2.1,d.2.2.2.2.2]) s9 with|some _=>(match true,([c.2.2.2.2.1,c.2.2.2.2.2,d.2.2.2.2.1,d.2.2.2.2.2])[(s9).toNat]? with|true,some x2=>(og (decide (okC 3500 d/\okP 3500 x2)) (match onR (dC d) (dec x2)with|true=>(match aT ([c.2.2.2.2.1,c.2.2.2.2.2,d.2.2.2.2.1,d.2.2.2.2.2]) s9 with|some _=>(match true,([c.2.2.2.2.1,c.2.2.2.2.2,d.2.2.2.2.1,d.2.2.2.2.2])[(s9).toNat]? with|true,some x3=>(og (decide ((r3.length+([x3]).length)*320<=140737488355328/\r3.length+([x3]).length<=140737488355328)) (k 18 (kY c d (i64.wrap (s9+1)) (r3++([x3])))))|_,_=>none)|none=>none)|false=>k 18 (kY c d (i64.wrap (s9+1)) r3)))|_,_=>none)|none=>none)|false=>k 18 (kY c d (i64.wrap (s9+1)) r3)))|_,_=>none)|none=>none)|false=>(og (decide (yx c r3)) (match c.1 with|true=>(match d.1 with|true=>(match !(c.2.2.2.1==d.2.2.2.1)with|true=>k 47 (c9 c d r3 (hid (uP d)) false 1)|false=>(match !c.1 with|true=>(og (decide (okP 4000 c.2.2.2.2.1/\okP 4000 c.2.2.2.2.2)) (og (decide (okP 4000 d.2.2.2.2.1/\okP 4000 d.2.2.2.2.2)) (match(a8 (dec c.2.2.2.2.1) (dec c.2.2.2.2.2)) !=(a8 (dec d.2.2.2.2.1) (dec d.2.2.2.2.2))with|true=>k 47 (c9 c d r3 (hid (uP d)) false 1)|false=>k 47 (c9 c d r3 d false 1))))|false=>k 47 (c9 c d r3 d false 1)))|false=>(match !c.1 with|true=>(og (decide (okP 4000 c.2.2.2.2.1/\okP 4000 c.2.2.2.2.2)) (og (decide (okP 4000 d.2.2.2.2.1/\okP 4000 d.2.2.2.2.2)) (match(a8 (dec c.2.2.2.2.1) (dec c.2.2.2.2.2)) !=(a8 (dec d.2.2.2.2.1) (dec d.2.2.2.2.2))with|true=>k 47 (c9 c d r3 (hid (uP d)) false 1)|false=>k 47 (c9 c d r3 d false 1))))|false=>k 47 (c9 c d r3 d false 1)))|false=>(match !c.1 with|true=>(og (decide (okP 4000 c.2.2.2.2.1/\okP 4000 c.2.2.2.2.2)) (og (decide (okP 4000 d.2.2.2.2.1/\okP 4000 d.2.2.2.2.2)) (match(a8 (dec c.2.2.2.2.1) (dec c.2.2.2.2.2)) !=(a8 (dec d.2.2.2.2.1) (dec d.2.2.2.2.2))with|true=>k 47 (c9 c d r3 (hid (uP d)) false 1)|false=>k 47 (c9 c d r3 d false 1))))|false=>k 47 (c9 c d r3 d false 1))))
theorem qq(c d:BCU)(s9:Int)(r3:List BP):RN uf 18 (kY c d s9 r3) (mB c d s9 r3):=rnX
def rl(c d:BCU)(r3:List BP)(B1:BCU)(s10:Bool)(s11:Int)(k:KT):OLR:=match cC (dC c) (dC d)with|true=>(match decide (s11<((jo (dC c) r3).length:Int))with|true=>(match s10 with|true=>k 47 (c9 c d r3 B1 true (i64.wrap (s11+1)))|false=>(match aT (jo (dC c) r3) (i64.wrap (s11-1))with|some x1=>(match aT (jo (dC c) r3) s11 with|some x2=>(og (decide (okC 4000 B1/\okP 4000 x1/\okP 4000 x2)) (k 47 (c9 c d r3 B1 (decide ((dt (dC B1) (dec x1) (dec x2))<0)) (i64.wrap (s11+1)))))|none=>none)|none=>none))|false=>some [RV.d (.sl tP) (jo (dC c) r3),RV.d .bool s10])|false=>some [RV.d (.sl tP) (jo (dC c) r3),RV.d .bool s10]
theorem vo(c d:BCU)(r3:List BP)(B1:BCU)(s10:Bool)(s11:Int):RN uf 47 (c9 c d r3 B1 s10 s11) (rl c d r3 B1 s10 s11):=rnX
theorem O3{c:Cv}{S:List BP}{i:Nat}(h1:1<=i)(hi:i<S.length):Di c (S.drop (i-1))=(decide (dt c (dec S[i-1]) (dec S[i])<0)||Di c (S.drop i)):=by
 have hd:S.drop (i-1)=S[i-1]::S.drop i:=by
  have:=anf (l:=S) (i:=i-1) (by omega);rw[this,show i-1+1=i by omega]
 have hd2:S.drop i=S[i]::S.drop (i+1):=anf hi;rw[hd,hd2];rfl
theorem Ws{c:Cv}{S:List BP}(h:S.length<=1):Di c S=false:=by
 match S,h with
 |[],_=>rfl
 |[_],_=>rfl
theorem ack(c d:BCU)(r3 S:List BP)(hS:jo (dC c) r3=S)(hl:S.length<=1000000)(ho:∀x∈S,okP 4000 x)(B:BCU)(hB:okC 4000 B):∀(j i:Nat),1<=i->i+j=max S.length 1->∀s:Bool,
  uf.Runs 47 (c9 c d r3 B s (i:Int)) [.d (.sl tP) S,.d .bool (bif cC (dC c) (dC d)then s||Di (dC B) (S.drop (i-1))else s)]:=by
 intro j;induction j with
 |zero=>
  intro i h1 hi s;refine vo _ _ _ _ _ _ ⟨0,?_⟩;unfold rl;rw[hS,cd (by omega),Ws (by rw[apj];omega),Bool.or_false];cases cC (dC c) (dC d)<;>rfl
 |succ j ih=>
  intro i h1 hi s;have hil:i<S.length:=by omega
  have e1:i64.wrap ((i:Int)-1)=((i-1:Nat):Int):=by rw[aV (by omega) (by omega)];omega
  have e2:i64.wrap ((i:Int)+1)=((i+1:Nat):Int):=bW (by omega);have g1:aT S ((i-1:Nat):Int)=some S[i-1]:=by rw[av,amX (by omega)]
  have g2:aT S (i:Int)=some S[i]:=by rw[av,amX hil]
  cases hs:cC (dC c) (dC d)
  ·refine vo _ _ _ _ _ _ ⟨0,?_⟩;unfold rl;rw[hS,hs];rfl
  ·obtain⟨n,hn⟩:=ih (i+1) (by omega) (by omega) (s||decide (dt (dC B) (dec S[i-1]) (dec S[i])<0));refine vo _ _ _ _ _ _ ⟨n,?_⟩;unfold rl;rw[hS,hs,bI hil,e1,e2,g1,g2];dsimp only;rw[dT (show okC 4000 B/\okP 4000 S[i-1]/\okP 4000 S[i] from⟨hB,ho _ (anw _),ho _ (anw _)⟩)];rw[hs,Nat.add_sub_cancel,Bool.or_assoc,<-O3 h1 hil]at hn;cases s
   ·exact hn
   ·simp only[Bool.true_or,cond_true]at hn ⊢;exact hn
theorem Ji{c:Cv}{l:List BP}{p:BP->Prop}(h:∀x∈l,p x):∀x∈jo c l,p x:=λx hx=>by
 rcases C6 hx with h'|h'
 ·cases h'
 ·exact h x h'
theorem H8(c d:BCU)(h:iO c d)(r3:List BP)(hl:r3.length<=100)(ho:∀x∈r3,okP 580 x):∃n,(match decide (yx c r3)with
  |true=>uf.k n 47 (c9 c d r3 (Ab c d) false 1)
  |false=>none)=some [.d (.sl tP) (jo (dC c) r3),.d .bool (cC (dC c) (dC d)&&Di (dC (Ab c d)) (jo (dC c) r3))]:=by
 have hs:yx c r3:=⟨bZ h.1.1 (by decide) (by decide),by omega,λx hx=>cM (ho x hx) (by decide) (by decide)⟩
 have hR:okC 4000 (Ab c d):=by
  unfold Ab;have:=bZ (k:=4000) h.2.1 (by decide) (by decide);cases TJ c d
  ·exact this
  ·exact LQ 4000 this
 have hlen:=xx (dC c) r3 [];obtain⟨n,hn⟩:=ack c d r3 _ rfl (by simp at hlen;unfold jo;omega) (Ji (λx hx=>cM (ho x hx) (by decide) (by decide))) (Ab c d) hR (max (jo (dC c) r3).length 1-1) 1 (am2 _) (by omega) false;refine⟨n,?_⟩;rw[dT hs];refine hn.trans ?_;cases cC (dC c) (dC d)<;>rfl
theorem Dn{l c:Ln}[BdL l][BdC c](hl:l.1≠0\/l.2.1≠0):(sV l c).length<=2/\∀p∈sV l c,Bd p 490/\Rpd p:=by
 unfold sV;by_cases h0:ki l c<0
 ·rw[amW h0];exact⟨by simp,λp hp=>by cases hp⟩
 ·rw[amY h0];by_cases h1:ki l c=0
  ·rw[amW h1];obtain⟨f1,f2,_,_⟩:=we (l:=l) (c:=c);refine⟨by simp,λp hp=>?_⟩;have:p=atP (ftX l c,ftY l c):=by simpa using hp
   rw[this];exact⟨(inferInstance:Bd (atP (ftX l c,ftY l c)) _).mono (by decide),inferInstance⟩
  ·rw[amY h1];obtain⟨p1,p2⟩:=Mc (c:=c) hl (show 0<=ki l c by grind);obtain⟨q1,q2⟩:=Mb (l:=l) (c:=c);cases decide (a8 (t9 l c) (ub l c)>0)
   ·refine⟨by simp,λp hp=>?_⟩;have:p=t9 l c\/p=ub l c:=by simpa using hp
    rcases this with e|e<;>rw[e]
    ·exact⟨q1,p1⟩
    ·exact⟨q2,p2⟩
   ·refine⟨by simp,λp hp=>?_⟩;have:p=ub l c\/p=t9 l c:=by simpa using hp
    rcases this with e|e<;>rw[e]
    ·exact⟨q2,p2⟩
    ·exact⟨q1,p1⟩
theorem xD{l m:Ln}[BdL l][BdL m]:(mb l m).length<=2/\∀p∈mb l m,Bd p 490/\Rpd p:=by
 unfold mb;cases decide (dE l m=0)
 ·have bc:Bd (dE l m) 49:=inferInstanceAs (Bd (l.1*m.2.1-m.1*l.2.1) _);have bx:Bd (mf l m) 151:=inferInstanceAs (Bd (l.2.2*m.2.1-m.2.2*l.2.1) _);have b_:Bd (mh l m) 151:=inferInstanceAs (Bd (l.1*m.2.2-m.1*l.2.2) _);refine⟨by simp,λp hp=>?_⟩;have:p=atP (mf l m/dE l m,mh l m/dE l m):=by simpa using hp
  rw[this];exact⟨(inferInstance:Bd (atP (mf l m/dE l m,mh l m/dE l m)) _).mono (by decide),inferInstance⟩
 ·exact⟨by simp,λp hp=>by cases hp⟩
theorem Vp{c d:BCU}(h:iw c d):(wK (dC c) (dC d)).length<=2/\∀p∈wK (dC c) (dC d),Bd p 490/\Rpd p:=by
 obtain⟨⟨a1,a2⟩,b1,b2⟩:=h;obtain⟨aa,al,ac,aw,af,at_⟩:=c;obtain⟨ba,bl,bc,bw,bf,bt⟩:=d
 have ex1:∀x:BO3,cW x->BdL (dec x)/\((dec x:Ln).1≠0\/(dec x:Ln).2.1≠0):=λx h=>by
  obtain⟨l,rfl,bl,nl⟩:=fc h;rw[aA];exact⟨bl,nl⟩
 have ex2:∀x:BO3,cg x->BdC (dec x):=λx h=>by
  obtain⟨l,rfl,bl,nl⟩:=cL h;rw[aA];exact bl
 unfold wK;cases aa<;>cases ba
 ·obtain⟨i1,_⟩:=ex1 _ (a2 rfl);obtain⟨i2,_⟩:=ex1 _ (b2 rfl);exact xD (l:=dec al) (m:=dec bl)
 ·obtain⟨i1,n1⟩:=ex1 _ (a2 rfl);have i2:=ex2 _ (b1 rfl);exact Dn (l:=dec al) (c:=dec bc) n1
 ·have i1:=ex2 _ (a1 rfl);obtain⟨i2,n2⟩:=ex1 _ (b2 rfl);exact Dn (l:=dec bl) (c:=dec ac) n2
 ·have i1:=ex2 _ (a1 rfl);have i2:=ex2 _ (b1 rfl);show(EJ (dec ac) (dec bc)).length<=2/\∀p∈EJ (dec ac) (dec bc),Bd p 490/\Rpd p;unfold EJ;cases hc:iz (dec ac) (dec bc)
  ·have i3:BdL (nI (dec ac) (dec bc)):=yf;exact Dn (vL hc)
  ·exact⟨by simp,λp hp=>by cases hp⟩
theorem Jq{c d:BCU}(h:iO c d):(Eo c d).length<=4/\∀x∈Eo c d,okP 580 x:=by
 obtain⟨⟨h1,h2⟩,h3,h4⟩:=h;unfold Eo;cases cC (dC c) (dC d)
 ·obtain⟨g1,g2⟩:=Vp (show iw c d from⟨h2,h4⟩);refine⟨by simp only[Bool.not_false,cond_true,aoF];omega,λx hx=>?_⟩;obtain⟨p,hp,rfl⟩:=aoP.1 hx;obtain⟨b,r⟩:=g2 p hp;exact amZ (aL (j:=490) (by decide) (by decide))
 ·refine⟨by simp,λx hx=>?_⟩;have:x=c.2.2.2.2.1\/x=c.2.2.2.2.2\/x=d.2.2.2.2.1\/x=d.2.2.2.2.2:=by simpa using hx
  rcases this with e|e|e|e<;>rw[e]
  ·exact h1.2.2.1
  ·exact h1.2.2.2
  ·exact h3.2.2.1
  ·exact h3.2.2.2
def nf(c d:BCU)(p:BP):Bool:=onR (dC c) (dec p)&&onR (dC d) (dec p)
theorem HS(c d:BCU)(h:iO c d)(L:List BP)(hL:(wK (dC c) (dC d)).map enc=L)(h4:L.length<=4)(ho:∀x∈L,okP 580 x):∀(j i:Nat),i+j=L.length->∀r3:List BP,r3.length<=i->(∀x∈r3,okP 580 x)->
  uf.Runs 18 (rI c d (i:Int) r3) [.d (.sl tP) (jo (dC c) (r3++(L.drop i).filter (nf c d))),.d .bool (cC (dC c) (dC d)&&Di (dC (Ab c d)) (jo (dC c) (r3++(L.drop i).filter (nf c d))))]:=by
 intro j;induction j with
 |zero=>
  intro i hi r3 hr h3;obtain⟨n,hn⟩:=H8 c d h r3 (by omega) h3;refine wk _ _ _ _ ⟨n,?_⟩;have hd:L.drop i=[]:=List.drop_eq_nil_iff.2 (by omega);rw[hd,apH,ant,<-hn];unfold rQ;rw[hL,cd (by omega)];have hs:yx c r3:=⟨bZ h.1.1 (by decide) (by decide),by omega,λx hx=>cM (h3 x hx) (by decide) (by decide)⟩
  have o1:decide (okP 4000 c.2.2.2.2.1/\okP 4000 c.2.2.2.2.2)=true:=amW ⟨cM h.1.1.2.2.1 (by decide) (by decide),cM h.1.1.2.2.2 (by decide) (by decide)⟩;have o2:decide (okP 4000 d.2.2.2.2.1/\okP 4000 d.2.2.2.2.2)=true:=amW ⟨cM h.2.1.2.2.1 (by decide) (by decide),cM h.2.1.2.2.2 (by decide) (by decide)⟩;rw[dT hs,o1,o2];dsimp only;unfold Ab TJ bne;simp only[bL];cases c.1<;>cases d.1<;>cases(c.2.2.2.1==d.2.2.2.1)<;>cases(a8 (dec c.2.2.2.2.1) (dec c.2.2.2.2.2)==a8 (dec d.2.2.2.2.1) (dec d.2.2.2.2.2))<;>rfl
 |succ j ih=>
  intro i hi r3 hr h3;have hil:i<L.length:=by omega
  have e2:i64.wrap ((i:Int)+1)=((i+1:Nat):Int):=bW (by omega);have g2:aT L (i:Int)=some L[i]:=by rw[av,amX hil]
  have g3:L[((i:Int)).toNat]?=some L[i]:=by rw[show((i:Int)).toNat=i by omega,amX hil]
  have hx:=ho _ (anw hil);have hd:L.drop i=L[i]::L.drop (i+1):=anf hil;have ox:=cM (k:=3500) hx (by decide) (by decide);have o1:decide (okC 3500 c/\okP 3500 L[i])=true:=amW ⟨bZ h.1.1 (by decide) (by decide),ox⟩;have o2:decide (okC 3500 d/\okP 3500 L[i])=true:=amW ⟨bZ h.2.1 (by decide) (by decide),ox⟩
  have hf:(L.drop i).filter (nf c d)=bif nf c d L[i]then L[i]::(L.drop (i+1)).filter (nf c d)else(L.drop (i+1)).filter (nf c d):=by
   rw[hd,aoO];cases nf c d L[i]<;>rfl
  cases hb:nf c d L[i]
  ·rw[hb]at hf;obtain⟨n,hn⟩:=ih (i+1) (by omega) r3 (by omega) h3;refine wk _ _ _ _ ⟨n,?_⟩;rw[hf];dsimp only[cond_false];rw[<-hn];unfold nf at hb;unfold rQ;rw[hL,bI hil,g2,e2];dsimp only;try rw[g3]
   try dsimp only
   rw[o1,o2];cases h1:onR (dC c) (dec L[i])
   ·rfl
   ·rw[h1,aog]at hb;rw[hb]
  ·rw[hb]at hf
   obtain⟨n,hn⟩:=ih (i+1) (by omega) (r3++[L[i]]) (by simp;omega) (λx hx'=>by
    rcases anI.1 hx' with h'|h'
    ·exact h3 x h'
    ·have:x=L[i]:=by simpa using h'
     rw[this];exact hx)
   refine wk _ _ _ _ ⟨n,?_⟩;rw[hf];dsimp only[cond_true];rw[ann]at hn;refine Eq.trans ?_ hn;unfold nf at hb;obtain⟨h1,h2⟩:=am6.1 hb;unfold rQ;rw[hL,bI hil,g2,e2];dsimp only;try rw[g3]
   try dsimp only
   rw[o1,o2,h1,h2];dsimp only;rw[dT (by simp;omega)]
theorem Bz(c d:BCU)(h:iO c d)(L:List BP)(hL:[c.2.2.2.2.1,c.2.2.2.2.2,d.2.2.2.2.1,d.2.2.2.2.2]=L)(h4:L.length<=4)(ho:∀x∈L,okP 580 x):∀(j i:Nat),i+j=L.length->∀r3:List BP,r3.length<=i->(∀x∈r3,okP 580 x)->
  uf.Runs 18 (kY c d (i:Int) r3) [.d (.sl tP) (jo (dC c) (r3++(L.drop i).filter (nf c d))),.d .bool (cC (dC c) (dC d)&&Di (dC (Ab c d)) (jo (dC c) (r3++(L.drop i).filter (nf c d))))]:=by
 intro j;induction j with
 |zero=>
  intro i hi r3 hr h3;obtain⟨n,hn⟩:=H8 c d h r3 (by omega) h3;refine qq _ _ _ _ ⟨n,?_⟩;have hd:L.drop i=[]:=List.drop_eq_nil_iff.2 (by omega);rw[hd,apH,ant,<-hn];unfold mB;rw[hL,cd (by omega)];have hs:yx c r3:=⟨bZ h.1.1 (by decide) (by decide),by omega,λx hx=>cM (h3 x hx) (by decide) (by decide)⟩
  have o1:decide (okP 4000 c.2.2.2.2.1/\okP 4000 c.2.2.2.2.2)=true:=amW ⟨cM h.1.1.2.2.1 (by decide) (by decide),cM h.1.1.2.2.2 (by decide) (by decide)⟩;have o2:decide (okP 4000 d.2.2.2.2.1/\okP 4000 d.2.2.2.2.2)=true:=amW ⟨cM h.2.1.2.2.1 (by decide) (by decide),cM h.2.1.2.2.2 (by decide) (by decide)⟩;rw[dT hs,o1,o2];dsimp only;unfold Ab TJ bne;simp only[bL];cases c.1<;>cases d.1<;>cases(c.2.2.2.1==d.2.2.2.1)<;>cases(a8 (dec c.2.2.2.2.1) (dec c.2.2.2.2.2)==a8 (dec d.2.2.2.2.1) (dec d.2.2.2.2.2))<;>rfl
 |succ j ih=>
  intro i hi r3 hr h3;have hil:i<L.length:=by omega
  have e2:i64.wrap ((i:Int)+1)=((i+1:Nat):Int):=bW (by omega);have g2:aT L (i:Int)=some L[i]:=by rw[av,amX hil]
  have g3:L[((i:Int)).toNat]?=some L[i]:=by rw[show((i:Int)).toNat=i by omega,amX hil]
  have hx:=ho _ (anw hil);have hd:L.drop i=L[i]::L.drop (i+1):=anf hil;have ox:=cM (k:=3500) hx (by decide) (by decide);have o1:decide (okC 3500 c/\okP 3500 L[i])=true:=amW ⟨bZ h.1.1 (by decide) (by decide),ox⟩;have o2:decide (okC 3500 d/\okP 3500 L[i])=true:=amW ⟨bZ h.2.1 (by decide) (by decide),ox⟩
  have hf:(L.drop i).filter (nf c d)=bif nf c d L[i]then L[i]::(L.drop (i+1)).filter (nf c d)else(L.drop (i+1)).filter (nf c d):=by
   rw[hd,aoO];cases nf c d L[i]<;>rfl
  cases hb:nf c d L[i]
  ·rw[hb]at hf;obtain⟨n,hn⟩:=ih (i+1) (by omega) r3 (by omega) h3;refine qq _ _ _ _ ⟨n,?_⟩;rw[hf];dsimp only[cond_false];rw[<-hn];unfold nf at hb;unfold mB;rw[hL,bI hil,g2,e2];dsimp only;try rw[g3]
   try dsimp only
   rw[o1,o2];cases h1:onR (dC c) (dec L[i])
   ·rfl
   ·rw[h1,aog]at hb;rw[hb]
  ·rw[hb]at hf
   obtain⟨n,hn⟩:=ih (i+1) (by omega) (r3++[L[i]]) (by simp;omega) (λx hx'=>by
    rcases anI.1 hx' with h'|h'
    ·exact h3 x h'
    ·have:x=L[i]:=by simpa using h'
     rw[this];exact hx)
   refine qq _ _ _ _ ⟨n,?_⟩;rw[hf];dsimp only[cond_true];rw[ann]at hn;refine Eq.trans ?_ hn;unfold nf at hb;obtain⟨h1,h2⟩:=am6.1 hb;unfold mB;rw[hL,bI hil,g2,e2];dsimp only;try rw[g3]
   try dsimp only
   rw[o1,o2,h1,h2];dsimp only;rw[dT (by simp;omega)]
def akm:Cn 8 [tCU,tCU]:=cn λ(c d:BCU)=>lf (iO c d) [.d (.sl tP) (uQ c d),.d .bool (afR c d)] λh=>by
 obtain⟨h4,ho⟩:=Jq h;have hsp:iw c d:=⟨h.1.2,h.2.2⟩
 refine da abs (show uf.Res _ _ _ from ?_);unfold Eo at h4 ho;unfold uQ afR uQ aeS Eo;cases hs:cC (dC c) (dC d)
 ·rw[hs]at h4 ho;obtain⟨n,hn⟩:=HS c d h _ rfl h4 ho _ 0 (anB _) [] (am2 _) (λx hx=>by cases hx);refine aam _ _ ⟨n,?_⟩;unfold Qy;rw[dT hsp,hs];rw[hs]at hn;exact hn
 ·rw[hs]at h4 ho;obtain⟨n,hn⟩:=Bz c d h _ rfl h4 ho _ 0 (anB _) [] (am2 _) (λx hx=>by cases hx);refine aam _ _ ⟨n,?_⟩;unfold Qy;rw[dT hsp,hs];rw[hs]at hn;exact hn
def i8P(n:Int):Prop:= -128<=n/\n<=127
instance (n:Int):Decidable (i8P n):=by unfold i8P;infer_instance
def u8P(n:Int):Prop:=0<=n/\n<=255
instance (n:Int):Decidable (u8P n):=by unfold u8P;infer_instance
def atQ(n u:Int):Rat:=Rat.divInt n (u%4+1)
def wG(c:BO3):List BCU:=[(true,o00,c,false,enc (mW (dec c)),enc (mY (dec c))),(true,o00,c,false,enc (mY (dec c)),enc (mW (dec c)))]
abbrev tDr:Ty:=.st (.pair (.int .u8) (.pair (.int .u8) (.pair (.int .i8) (.pair (.int .i8) (.pair (.int .i8) (.pair (.int .i8) (.pair (.int .i8) (.int .i8))))))))
abbrev yn:Ty:=.st (.pair tDr (.pair tDr (.int .u8)))
abbrev Dr:=Int×Int×Int×Int×Int×Int×Int×Int
abbrev Pce:=Dr×Dr×Int
def Bq(x:Dr):Prop:=u8P x.1/\u8P x.2.1/\i8P x.2.2.1/\i8P x.2.2.2.1/\i8P x.2.2.2.2.1/\i8P x.2.2.2.2.2.1/\i8P x.2.2.2.2.2.2.1/\i8P x.2.2.2.2.2.2.2
instance (x:Dr):Decidable (Bq x):=by unfold Bq;infer_instance
def drA(x:Dr):Rat×Rat:=(atQ x.2.2.1 x.2.1,atQ x.2.2.2.1 x.2.1)
def drB(x:Dr):Rat×Rat:=(atQ x.2.2.2.2.1 x.2.1,atQ x.2.2.2.2.2.1 x.2.1)
def drC(x:Dr):Rat×Rat:=(atQ x.2.2.2.2.2.2.1 x.2.1,atQ x.2.2.2.2.2.2.2 x.2.1)
def drQ(x:Dr):Ln:=((drA x).1,(drA x).2,(drB x).1)
def ofL(x:Dr):List BCU:=
 bif x.1%3==2 then(bif decide ((drB x).1<=0)then []else wG (enc (drQ x)))
 else bif x.1%3==1 then(bif arcE (drA x) (drB x) (drC x) !=0 then []else [mR (drA x) (drB x) (drC x)])
 else bif segE (drA x) (drB x) !=0 then []else [ka (drA x) (drB x)]
theorem Je{u k:Int}(h:u8P u):Int.tmod u k=u%k:=Int.tmod_eq_emod_of_nonneg h.1
theorem zE{n u:Int}(h:i8P n)(_h':u8P u):Bb (atQ n u) 7 2:=by
 unfold atQ;obtain⟨h1,h2⟩:=h;exact Ug (by omega) (by show n.natAbs<=128;omega) (by show(u%4+1).natAbs<=4;omega)
theorem Con.dd{P:Program}{f:Nat}{args:List SV}{et:TypeId}{e:Ty}{xs:List e.D}{r:RV}(h:Con P f args [r])(hr:r=.new et e xs\/r=.d (.sl e) xs):Con P f args [.d (.sl e) xs]:=by
 rcases hr with rfl|rfl
 ·exact Con.new_d h
 ·exact h
def JK:List En:=[enL F8,enL ZC,enT pJ,enL OL,enL Nc]
def Y3(n u:Int)(_k:KT):OLR:=og (decide (zX (i64.wrap n) (i64.wrap ((i64.wrap (Int.tmod u 4))+1)))) (some [RV.d tR (hid (ao (Rat.divInt (i64.wrap n) (i64.wrap ((i64.wrap (Int.tmod u 4))+1)))))])
def ajk:Cn 45 [(.int .i8),(.int .u8)]:=cn λ(n u:Int)=>lf (i8P n/\u8P u) [.d tR (ao (atQ n u))] λh=>by
 refine aB JK (Y3 n u) ⟨0,?_⟩;obtain⟨hn,hu⟩:=h;have e0:=Je (k:=4) hu;obtain⟨n1,n2⟩:=hn;unfold Y3;rw[e0,aV (x:=n) (by omega) (by omega),aV (x:=u%4) (by omega) (by omega),aV (x:=u%4+1) (by omega) (by omega),dT (show zX n (u%4+1) from⟨⟨by omega,by omega⟩,⟨by omega,by omega⟩,by omega⟩)];simp only[bL];rfl
def aki:Ctx:=CX (ens JK) []
def ZG(c:BO3)(_k:KT):OLR:=og (decide (cg c)) (some [RV.new 39 tCU ([(true,((((false,[]),(false,[])),(((false,[]),(false,[])),((false,[]),(false,[])))),(c,(false,(hid (enc (mW (dec c))),hid (enc (mY (dec c)))))))),(true,((((false,[]),(false,[])),(((false,[]),(false,[])),((false,[]),(false,[])))),(c,(false,(hid (enc (mY (dec c))),hid (enc (mW (dec c))))))))])])
theorem aiG(c:BO3):RS aki 47 [.d tO c] (ZG c):=rsX
def Ya:Cn 47 [tO]:=cn λ(c:BO3)=>lf (cg c) [.d (.sl tCU) (wG c)] λh=>by
 refine Con.new_d (et:=39) (da JK (aiG _ ⟨0,?_⟩));unfold ZG;rw[dT h];simp only[bL];rfl
def ZH:List En:=enL ajk::enL Ya::JK
def aaN:Ctx:=CX (ens ZH) []
def OO(x:Dr)(_k:KT):OLR:=og (decide (i8P x.2.2.1/\u8P x.2.1)) (og (decide (i8P x.2.2.2.1/\u8P x.2.1)) (og (decide (i8P x.2.2.2.2.1/\u8P x.2.1)) (og (decide (i8P x.2.2.2.2.2.1/\u8P x.2.1)) (match(Int.tmod x.1 3)==2 with|true=>(og (decide (i8P x.2.2.2.2.1/\u8P x.2.1)) (og (o1 (hid (ao (atQ x.2.2.2.2.1 x.2.1)))) (match decide ((aE (ah (hid (ao (atQ x.2.2.2.2.1 x.2.1)))) 0)<=0)with|true=>some [RV.new 39 tCU []]|false=>(og (decide (cg (hid (ao (atQ x.2.2.1 x.2.1)),(hid (ao (atQ x.2.2.2.1 x.2.1)),hid (ao (atQ x.2.2.2.2.1 x.2.1)))))) (some [RV.d (.sl tCU) (wG (hid (ao (atQ x.2.2.1 x.2.1)),(hid (ao (atQ x.2.2.2.1 x.2.1)),hid (ao (atQ x.2.2.2.2.1 x.2.1)))))])))))|false=>(og (decide (ok (Rat×Rat) 100 (hid (ao (atQ x.2.2.1 x.2.1)),hid (ao (atQ x.2.2.2.1 x.2.1)))/\ok (Rat×Rat) 100 (hid (ao (atQ x.2.2.2.2.1 x.2.1)),hid (ao (atQ x.2.2.2.2.2.1 x.2.1))))) (match(Int.tmod x.1 3)==1 with|true=>(og (decide (i8P x.2.2.2.2.2.2.1/\u8P x.2.1)) (og (decide (i8P x.2.2.2.2.2.2.2/\u8P x.2.1)) (og (decide (ok (Rat×Rat) 100 (hid (ao (atQ x.2.2.1 x.2.1)),hid (ao (atQ x.2.2.2.1 x.2.1)))/\ok (Rat×Rat) 100 (hid (ao (atQ x.2.2.2.2.1 x.2.1)),hid (ao (atQ x.2.2.2.2.2.1 x.2.1)))/\ok (Rat×Rat) 100 (hid (ao (atQ x.2.2.2.2.2.2.1 x.2.1)),hid (ao (atQ x.2.2.2.2.2.2.2 x.2.1))))) (match(arcE (dec (hid (ao (atQ x.2.2.1 x.2.1)),hid (ao (atQ x.2.2.2.1 x.2.1)))) (dec (hid (ao (atQ x.2.2.2.2.1 x.2.1)),hid (ao (atQ x.2.2.2.2.2.1 x.2.1)))) (dec (hid (ao (atQ x.2.2.2.2.2.2.1 x.2.1)),hid (ao (atQ x.2.2.2.2.2.2.2 x.2.1))))) !=0 with|true=>some [RV.new 39 tCU []]|false=>some [RV.new 39 tCU ([hid (mR (dec (hid (ao (atQ x.2.2.1 x.2.1)),hid (ao (atQ x.2.2.2.1 x.2.1)))) (dec (hid (ao (atQ x.2.2.2.2.1 x.2.1)),hid (ao (atQ x.2.2.2.2.2.1 x.2.1)))) (dec (hid (ao (atQ x.2.2.2.2.2.2.1 x.2.1)),hid (ao (atQ x.2.2.2.2.2.2.2 x.2.1)))))])]))))|false=>(match(segE (dec (hid (ao (atQ x.2.2.1 x.2.1)),hid (ao (atQ x.2.2.2.1 x.2.1)))) (dec (hid (ao (atQ x.2.2.2.2.1 x.2.1)),hid (ao (atQ x.2.2.2.2.2.1 x.2.1))))) !=0 with|true=>some [RV.new 39 tCU []]|false=>some [RV.new 39 tCU ([hid (ka (dec (hid (ao (atQ x.2.2.1 x.2.1)),hid (ao (atQ x.2.2.2.1 x.2.1)))) (dec (hid (ao (atQ x.2.2.2.2.1 x.2.1)),hid (ao (atQ x.2.2.2.2.2.1 x.2.1)))))])])))))))
theorem ahW(x:Dr):RS aaN 14 [.d tDr x] (OO x):=rsX
def ag2:Cn 14 [tDr]:=cn λ(x:Dr)=>lf (Bq x) [.d (.sl tCU) (ofL x)] λh=>by
 obtain⟨h1,h2,hA,hB,hC,hD,hE,hF⟩:=h;have at_bd:∀n,i8P n->Bd (atQ n x.2.1) 1:=λn hn=>DC (h:=zE hn h2) (by decide) (by decide);have bA:=at_bd _ hA;have bB:=at_bd _ hB;have bC:=at_bd _ hC;have bD:=at_bd _ hD;have bE:=at_bd _ hE;have bF:=at_bd _ hF;have vA:Bd (drA x) 1:=inferInstanceAs (Bd (atQ x.2.2.1 x.2.1,atQ x.2.2.2.1 x.2.1) _);have vB:Bd (drB x) 1:=inferInstanceAs (Bd (atQ x.2.2.2.2.1 x.2.1,atQ x.2.2.2.2.2.1 x.2.1) _);have vC:Bd (drC x) 1:=inferInstanceAs (Bd (atQ x.2.2.2.2.2.2.1 x.2.1,atQ x.2.2.2.2.2.2.2 x.2.1) _);have eA:((ao (atQ x.2.2.1 x.2.1),ao (atQ x.2.2.2.1 x.2.1)):BV)=enc (drA x):=rfl;have eB:((ao (atQ x.2.2.2.2.1 x.2.1),ao (atQ x.2.2.2.2.2.1 x.2.1)):BV)=enc (drB x):=rfl;have eC:((ao (atQ x.2.2.2.2.2.2.1 x.2.1),ao (atQ x.2.2.2.2.2.2.2 x.2.1)):BV)=enc (drC x):=rfl;have eQ:((ao (atQ x.2.2.1 x.2.1),ao (atQ x.2.2.2.1 x.2.1),ao (atQ x.2.2.2.2.1 x.2.1)):BO3)=enc (drQ x):=rfl;have tm:=Je (k:=3) h1;have run:∀r:RV,OO x (aaN.k 0)=some [r]->(r=.new 39 tCU (ofL x)\/r=.d (.sl tCU) (ofL x))->CQq7 14 [.d tDr x] [.d (.sl tCU) (ofL x)]:=λr e g=>Con.dd (da ZH (ahW _ ⟨0,e⟩)) g;unfold OO at run;unfold ofL at run ⊢;simp only[aU,Nat.reduceLeDiff,tm,eQ,eA,eB,eC,dT (show i8P _/\u8P _ from⟨hA,h2⟩),dT (show i8P _/\u8P _ from⟨hB,h2⟩),dT (show i8P _/\u8P _ from⟨hC,h2⟩),dT (show i8P _/\u8P _ from⟨hD,h2⟩),dT (show i8P _/\u8P _ from⟨hE,h2⟩),dT (show i8P _/\u8P _ from⟨hF,h2⟩)]at run;cases h3:x.1%3==2
 ·simp only[h3,cond_false]at run ⊢;cases h4:x.1%3==1
  ·simp only[h4,cond_false]at run ⊢;cases h5:segE (drA x) (drB x) !=0
   ·simp only[h5,cond_false]at run ⊢;exact run _ rfl (.inl rfl)
   ·simp only[h5,cond_true]at run ⊢;exact run _ rfl (.inl rfl)
  ·simp only[h4,cond_true]at run ⊢;cases h5:arcE (drA x) (drB x) (drC x) !=0
   ·simp only[h5,cond_false]at run ⊢;exact run _ rfl (.inl rfl)
   ·simp only[h5,cond_true]at run ⊢;exact run _ rfl (.inl rfl)
 ·simp only[h3,cond_true]at run ⊢;have e1:(drB x).1=atQ x.2.2.2.2.1 x.2.1:=rfl;by_cases h5:(drB x).1<=0
  ·rw[amW h5]at run ⊢;refine run _ ?_ (.inl rfl);rw[yT,<-e1,amW h5];rfl
  ·rw[amY h5]at run ⊢;have ok:cg (enc (drQ x)):=iD (h:=⟨bA.mono (by decide),bB.mono (by decide),bC.mono (by decide)⟩) (show 0<(drB x).1 by grind);refine run _ ?_ (.inr rfl);rw[yT,<-e1,amY h5];simp only[amW ok];rfl
def vcR(x y:Int):Rat×Rat:=((x:Rat),(y:Rat))
instance ajh:Bd (-1:Rat) 3:=cN (n:= -1) (by decide)
theorem Cl{v:Rat×Rat}{j k:Nat}[h:Bd v j](hj:mx j (mx 1 (mx j (mx 1 1)))<=k)(hk:k<=480000):okP k (enc (atP v)):=amZ (aL (x:=atP v) hj hk)
section
namespace RE
theorem cmpP_0{p q:Pt}[Rpd p][Rpd q]:a8 p q=0↔pR p=pR q:=by
 rw[jP];obtain⟨h1,h2,h3⟩:=jc (pR p) (pR q);rcases kq.tri (pR p) (pR q)with h|h|h
 ·rw[h1 h];exact⟨λe=>absurd e (by decide),λe=>absurd h (by rw[e];exact kq.irr _)⟩
 ·exact⟨λ_=>h,λ_=>h2 h⟩
 ·rw[h3 h];exact⟨λe=>absurd e (by decide),λe=>absurd h (by rw[e];exact kq.irr _)⟩
theorem mn(v:Rat×Rat):pR (atP v)=(of v.1,of v.2):=anx (pX_at v) (pY_at v)
theorem Og{ax bx c:Rat}(h:ga c=true):of (ax+bx*rtQ c)=v2 ax bx c:=by
 unfold v2;rw[of_add,of_mul,L8 h]
theorem wi(ax bx ay b_ c:Rat):pR (pP ax bx ay b_ c)=(v2 ax bx c,v2 ay b_ c):=by
 unfold pP;cases h:ga c
 ·rfl
 ·exact(mn _).trans (anx (Og h) (Og h))
theorem acU(a b r:RE):(a+ -1*r-a)*(a+ -1*r-a)+(b+0*r-b)*(b+0*r-b)=r*r:=by grind
theorem VE(a b r:RE):(a+1*r-a)*(a+1*r-a)+(b+0*r-b)*(b+0*r-b)=r*r:=by grind
theorem TY(a r:RE)(h1:a+ -1*r=a+1*r):r<=0:=by grind
theorem Ww(a r:RE)(h1:a+ -1*r=a+1*r):0<=r:=by grind
theorem aen(a r:RE)(h1:a+ -1*r=a+1*r):r=0:=le_antisymm (TY a r h1) (Ww a r h1)
theorem ad0{c:Ln}(h:0<c.2.2):fV c (pR (mW c))/\fV c (pR (mY c)):=by
 have hr:=dB (show 0<=c.2.2 by grind);unfold mW mY;rw[wi,wi];exact⟨(acU _ _ _).trans hr,(VE _ _ _).trans hr⟩
theorem UB{c:Ln}(h:0<c.2.2):pR (mW c)≠pR (mY c):=by
 unfold mW mY;rw[wi,wi];intro e;have e1:=aen _ _ (congrArg Prod.fst e);have hr:=dB (show 0<=c.2.2 by grind);rw[e1,mul_zero]at hr;have:=l8 hr;grind
theorem Rg{l:Ln}{v:Rat×Rat}(h:l.1*v.1+l.2.1*v.2=l.2.2):(qB l (atP v)==0)=true:=by
 rw[CW,mn];exact congrArg of h
theorem Ri{c:Ln}{v:Rat×Rat}(h:(v.1-c.1)*(v.1-c.1)+(v.2-c.2.1)*(v.2-c.2.1)=c.2.2):(pV c (atP v)==0)=true:=by
 rw[tK,mn];unfold fV frm;dsimp only;rw[<-of_sub,<-of_sub];exact congrArg of h
theorem ZW{v w:Rat×Rat}(h:v≠w):a8 (atP v) (atP w)≠0:=λe=>h (by
 have:=cmpP_0.1 e;rw[mn,mn]at this;exact anx (l8 (congrArg Prod.fst this)) (l8 (congrArg Prod.snd this)))
end RE
open RE
def gdN(c:BCU):Prop:=mG c/\gR (dC c) (frC (dC c))=true/\gR (dC c) (toC (dC c))=true/\a8 (frC (dC c)) (toC (dC c))≠0
theorem gdN.gd{c:BCU}(h:gdN c):gdC c:=⟨h.1.1,h.2.1,h.2.2.1⟩
theorem C4{a b:Rat×Rat}[ba:Bd a 1][bb:Bd b 1](h:z4 a b=false):gdN (ka a b):=by
 have hz:(uv a b).1≠0\/(uv a b).2.1≠0:=by
  unfold z4 at h;by_cases e:a.2-b.2=0
  ·rw[amW e,aog]at h;exact .inr (anP h)
  ·exact .inl e
 have hne:a≠b:=λe=>by
  subst e;unfold uv at hz;rcases hz with h|h<;>exact h (by show _-_=(0:Rat);grind)
 have b1:Bd (uv a b).1 12:=(inferInstance:Bd (a.2-b.2) _).mono (by decide);have b2:Bd (uv a b).2.1 12:=(inferInstance:Bd (b.1-a.1) _).mono (by decide);have b3:Bd (uv a b).2.2 63:=(inferInstance:Bd ((a.2-b.2)*a.1+(b.1-a.1)*a.2) _).mono (by decide);have hl:=m4 (h:=⟨b1,b2,b3⟩) hz;have hL:Wu (enc (uv a b)):=⟨amZ (okd (x:=uv a b) (by decide) (by decide)),by rw[aA];exact hz⟩
 unfold ka;rw[h];refine⟨⟨⟨λe=>(by cases e),λ_=>hL,Cl (by decide) (by decide),Cl (by decide) (by decide)⟩,λe=>(by cases e),λ_=>hl⟩,?_⟩;simp only[dC,gR,frC,toC,lnC,aA,cond_false];exact⟨Rg (by unfold uv;grind),Rg (by unfold uv;grind),ZW hne⟩
theorem zt{c:Ln}[bc:BdC c](h:0<c.2.2):∀d∈wG (enc c),gdN d:=by
 have hs:=iD h;have bx:=bc.x;have b_:=bc.y;have bq:=bc.q;have b0:Bd (0:Rat) 3:=cN (n:=0) (by decide);have b1:Bd (1:Rat) 3:=cN (n:=1) (by decide);have hC:rV (enc c):=⟨amZ (okd (h:=Mg (c:=c)) (by decide) (by decide)),by rw[aA];exact h⟩
 have q0:(0:Rat)<=c.2.2:=by grind
 have pl:Rpd (mW c):=CP (λe=>absurd e.1 (by decide)) q0;have pr:Rpd (mY c):=CP (λe=>absurd e.1 (by decide)) q0;have bl:Bd (mW c) 490:=BK (bx.mono (by decide:4<=4)) (ajh.mono (by decide:3<=3)) b_ b0 bq (by decide);have br:Bd (mY c) 490:=BK (bx.mono (by decide:4<=4)) b1 b_ b0 bq (by decide);have ol:okP 580 (enc (mW c)):=amZ (aL (by decide) (by decide));have or_:okP 580 (enc (mY c)):=amZ (aL (by decide) (by decide));obtain⟨nl,nr_⟩:=ad0 h;have nl:=tK.2 nl;have nr_:=tK.2 nr_;have ne:=UB h;intro d hd
 have:d=(true,o00,enc c,false,enc (mW c),enc (mY c))\/d=(true,o00,enc c,false,enc (mY c),enc (mW c)):=by
  unfold wG at hd;rw[aA]at hd;simpa using hd
 rcases this with e|e<;>rw[e]
 ·refine⟨⟨⟨λ_=>hC,λe=>(by cases e),ol,or_⟩,λ_=>hs,λe=>(by cases e)⟩,?_⟩;simp only[dC,gR,frC,toC,ciC,aA,cond_true];exact⟨nl,nr_,λe=>ne (cmpP_0.1 e)⟩
 ·refine⟨⟨⟨λ_=>hC,λe=>(by cases e),or_,ol⟩,λ_=>hs,λe=>(by cases e)⟩,?_⟩;simp only[dC,gR,frC,toC,ciC,aA,cond_true];exact⟨nr_,nl,λe=>ne (cmpP_0.1 e).symm⟩
theorem afc{a b c:Rat×Rat}(h:fv a b c≠0):(c.1-(rW a b c).1)*(c.1-(rW a b c).1)+(c.2-(rW a b c).2.1)*(c.2-(rW a b c).2.1)=(rW a b c).2.2:=by
 have h2:fv a b c+fv a b c≠0:=by grind
 have eX:zj a b c*(fv a b c+fv a b c)=_:=ani h2;have eY:xJ a b c*(fv a b c+fv a b c)=_:=ani h2;unfold rW;dsimp only;generalize zj a b c=X at*
 generalize xJ a b c=Y at*
 have k:fv a b c*(2*((c.1-a.1)*X+(c.2-a.2)*Y)-((c.1-a.1)*(c.1-a.1)+(c.2-a.2)*(c.2-a.2)))=0:=by
  unfold fv at*
  grind
 rcases apa.1 k with g|g
 ·exact absurd g h
 ·grind
theorem af6{a b c:Rat×Rat}(h:fv a b c≠0)(e:a=c):False:=by
 subst e;refine h ?_;unfold fv;grind
theorem abT{a b c:Rat×Rat}[a1:Bb a.1 7 2][a2:Bb a.2 7 2][b1:Bb b.1 7 2][b2:Bb b.2 7 2][c1:Bb c.1 7 2][c2:Bb c.2 7 2]:BdC (rW a b c):=by
 have d:Bb ((b.1-a.1)*(c.2-a.2)-(b.2-a.2)*(c.1-a.1)) _ _:=inferInstance;have d:Bb (fv a b c) _ _:=d;have X:Bb ((((b.1-a.1)*(b.1-a.1)+(b.2-a.2)*(b.2-a.2))*(c.2-a.2)-((c.1-a.1)*(c.1-a.1)+(c.2-a.2)*(c.2-a.2))*(b.2-a.2))/(fv a b c+fv a b c)) _ _:=inferInstance;have X:Bb (zj a b c) _ _:=X;have Y:Bb ((((c.1-a.1)*(c.1-a.1)+(c.2-a.2)*(c.2-a.2))*(b.1-a.1)-((b.1-a.1)*(b.1-a.1)+(b.2-a.2)*(b.2-a.2))*(c.1-a.1))/(fv a b c+fv a b c)) _ _:=inferInstance;have Y:Bb (xJ a b c) _ _:=Y;have x1:Bb (a.1+zj a b c) _ _:=inferInstance;have x2:Bb (a.2+xJ a b c) _ _:=inferInstance;have x3:Bb (zj a b c*zj a b c+xJ a b c*xJ a b c) _ _:=inferInstance;exact⟨DC (h:=x1) (by decide) (by decide),DC (h:=x2) (by decide) (by decide),DC (h:=x3) (by decide) (by decide)⟩
theorem AO{x y:Rat}(h:¬(x=0/\y=0)):0<x*x+y*y:=by
 have nn:∀a:Rat,0<=a*a:=λa=>by
  rcases(by grind:0<=a\/0<= -a)with h|h
  ·exact anh h h
  ·have:=anh h h;grind
 have h1:=nn x;have h2:=nn y;rcases(by grind:0<x*x+y*y\/(x*x=0/\y*y=0))with g|⟨g1,g2⟩
 ·exact g
 ·exact absurd ⟨by simpa using apa.1 g1,by simpa using apa.1 g2⟩ h
theorem Hm{a b c:Rat×Rat}[Bd a 1][Bd c 1][bc:BdC (rW a b c)](h:fv a b c≠0):gdN (mR a b c):=by
 have hon:=afc h;have hne:a≠c:=λe=>af6 h e
 have hq:0<(rW a b c).2.2:=by
  refine AO λ⟨e1,e2⟩=>hne ?_;unfold rW at hon;dsimp only at hon;rw[e1,e2]at hon;by_cases g:c.1-(a.1+0)=0/\c.2-(a.2+0)=0
  ·obtain⟨g1,g2⟩:=g;exact anx (by grind) (by grind)
  ·have:=AO g;grind
 have hs:=iD (h:=bc) hq;have bx:=bc.x;have b_:=bc.y;have bq:=bc.q;have hC:rV (enc (rW a b c)):=⟨amZ (okd (h:=Mg (c:=rW a b c)) (by decide) (by decide)),by rw[aA];exact hq⟩
 unfold mR;rw[amY h];refine⟨⟨⟨λ_=>hC,λe=>(by cases e),Cl (by decide) (by decide),Cl (by decide) (by decide)⟩,λ_=>hs,λe=>(by cases e)⟩,?_⟩;simp only[dC,gR,frC,toC,ciC,aA,cond_true,cond_false];refine⟨Ri ?_,Ri hon,ZW hne⟩;unfold rW;grind
theorem FF{x:Dr}(h:Bq x):∀c∈ofL x,gdN c:=by
 obtain⟨h1,h2,hA,hB,hC,hD,hE,hF⟩:=h;have a1:Bb (drA x).1 7 2:=zE hA h2;have a2:Bb (drA x).2 7 2:=zE hB h2;have b1:Bb (drB x).1 7 2:=zE hC h2;have b2:Bb (drB x).2 7 2:=zE hD h2;have c1:Bb (drC x).1 7 2:=zE hE h2;have c2:Bb (drC x).2 7 2:=zE hF h2;have l:∀{q:Rat},Bb q 7 2->Bd q 1:=λh=>DC (h:=h) (by decide) (by decide)
 have m:∀v:Rat×Rat,Bb v.1 7 2->Bb v.2 7 2->Bd v 1:=λv g g'=>by
  have:=l g;have:=l g';exact inferInstanceAs (Bd (v.1,v.2) _)
 have vA:=m _ a1 a2;have vB:=m _ b1 b2;have vC:=m _ c1 c2;intro c hc;unfold ofL at hc;cases h3:x.1%3==2
 ·rw[h3,cond_false]at hc;cases h4:x.1%3==1
  ·rw[h4,cond_false]at hc;cases h5:z4 (drA x) (drB x)
   ·have:segE (drA x) (drB x)=0:=by unfold segE;rw[h5];rfl
    rw[this]at hc;have:c=ka (drA x) (drB x):=by simpa using hc
    rw[this];exact C4 h5
   ·have:segE (drA x) (drB x)=6:=by unfold segE;rw[h5];rfl
    rw[this]at hc;cases hc
  ·rw[h4,cond_true]at hc;by_cases h5:fv (drA x) (drB x) (drC x)=0
   ·have:arcE (drA x) (drB x) (drC x)=6:=by unfold arcE;rw[amW h5];rfl
    rw[this]at hc;cases hc
   ·have:arcE (drA x) (drB x) (drC x)=0:=by unfold arcE;rw[amY h5];rfl
    rw[this]at hc;have:c=mR (drA x) (drB x) (drC x):=by simpa using hc
    rw[this];have:=abT (a:=drA x) (b:=drB x) (c:=drC x);exact Hm h5
 ·rw[h3,cond_true]at hc;by_cases h5:(drB x).1<=0
  ·rw[amW h5]at hc;cases hc
  ·rw[amY h5]at hc;have bq:BdC (drQ x):=⟨(l a1).mono (by decide),(l a2).mono (by decide),(l b1).mono (by decide)⟩
   exact zt (c:=drQ x) (show 0<(drB x).1 by grind) c hc
end
namespace RE
theorem ab1{a b:Rt}[ha:Rdd a][hb:Rdd b]:vR (rX a b)=mnE (vR a) (vR b):=by
 unfold rX mnE;rw[cmpT_re hb.nn ha.nn];by_cases h:vR b<vR a
 ·rw[anp h,amW (by rw[ii (tT _ _ h)];decide)];rfl
 ·rw[ank h,amY (by
   intro g;exact h (aeY (by rw[<-W7];exact kj (GR.1 g))))]
  rfl
theorem E3(a b:RE):mnE a b=mnE b a:=by
 unfold mnE;rcases nZ a b with h|h|h
 ·rw[ank (λg=>lt_irrefl _ (c7 h g)),anp h]
 ·rw[h]
 ·rw[anp h,ank (λg=>lt_irrefl _ (c7 h g))]
def vE(v:Rat×Rat):PE:=(of v.1,of v.2)
theorem vR_sq{p:Pt}[Rpd p](v:Rat×Rat):vR (sqP p v)=dsE (pR p) (vE v):=HR
theorem HQ{c:Cv}(hf:Rpd (frC c))(ht:Rpd (toC c))(v:Rat×Rat):vR (yB c v)=mnE (dsE (pR (frC c)) (vE v)) (dsE (pR (toC c)) (vE v)):=by
 unfold yB;rw[ab1,vR_sq,vR_sq]
theorem zy{c:Cv}[hf:Rpd (frC c)][ht:Rpd (toC c)]{p:Pt}[hp:Rpd p]:nU c p=true↔btE (tE (lnC c) (pR (frC c))) (tE (lnC c) (pR (toC c))) (tE (lnC c) (pR p)):=by
 unfold nU;rw[alo_cmp,alo_cmp,alo_cmp,alo_cmp,alo_cmp];exact BO _ _ _
theorem RX(l:Ln)(v:Rat×Rat):exE l (vE v)=of (l.1*v.1+l.2.1*v.2-l.2.2):=by
 rw[of_sub];rfl
theorem Fb{l:Ln}(hl:l.1≠0\/l.2.1≠0)(v:Rat×Rat):aW (cD v (cQ l v)) (cD v (cQ l v))=(l.1*v.1+l.2.1*v.2-l.2.2)*(l.1*v.1+l.2.1*v.2-l.2.2)*(1/(l.1*l.1+l.2.1*l.2.1)):=by
 have hn:=kR hl;have h1:1/(l.1*l.1+l.2.1*l.2.1)*(l.1*l.1+l.2.1*l.2.1)=1:=ani hn
 have h2:nV l v=(l.1*v.1+l.2.1*v.2-l.2.2)*(1/(l.1*l.1+l.2.1*l.2.1)):=by
  unfold nV;rw[aoU,aoU,Rat.one_mul]
 unfold aW cD cQ;rw[h2];generalize 1/(l.1*l.1+l.2.1*l.2.1)=k at*
 generalize l.1*v.1+l.2.1*v.2-l.2.2=e at*
 dsimp only;grind
theorem VT{c:Cv}(h:GdE c)(ha:c.1=false)(v:Rat×Rat):Mn (segE (lnC c) (pR (frC c)) (pR (toC c))) (vE v) (vR (kN c v)):=by
 have hf:=h.f;have ht:=h.t;obtain⟨hl,oF,oT⟩:=h.l ha;have hn:0<nrE (lnC c):=pE hl;have hb:=zy (c:=c) (p:=atP v);have ev:pR (atP v)=vE v:=mn v;rw[ev]at hb;unfold kN;rw[ha,cond_false];cases e:nU c (atP v)
 ·rw[cond_false,HQ hf ht];rw[e]at hb;exact xB hn oF oT (λg=>by cases hb.2 g)
 ·rw[cond_true];have hk:=kR hl;have h1:1/((lnC c).1*(lnC c).1+(lnC c).2.1*(lnC c).2.1)*((lnC c).1*(lnC c).1+(lnC c).2.1*(lnC c).2.1)=1:=ani hk
  have ek:nrE (lnC c)*of (1/((lnC c).1*(lnC c).1+(lnC c).2.1*(lnC c).2.1))=1:=by
   have:nrE (lnC c)=of ((lnC c).1*(lnC c).1+(lnC c).2.1*(lnC c).2.1):=rfl;rw[this,mul_comm,<-of_mul,h1];rfl
  have kp:0<of (1/((lnC c).1*(lnC c).1+(lnC c).2.1*(lnC c).2.1)):=by
   have:=dp (nrE (lnC c)) (of (1/((lnC c).1*(lnC c).1+(lnC c).2.1*(lnC c).2.1)));rw[ek,dA zero_lt_one,dA hn,aoc]at this;exact Co.1 this.symm
  have:=tW hn (hb.1 e) kp ek;have e2:vR (aW (cD v (cQ (lnC c) v)) (cD v (cQ (lnC c) v)),0,0)=of (aW (cD v (cQ (lnC c) v)) (cD v (cQ (lnC c) v))):=dZ _ _;rw[e2,Fb hl,of_mul,of_mul,<-RX];exact this
theorem TO(x y a b v w:RE):(x-v)*(x-v)+(y-w)*(y-w)=(x-a)*(x-a)+(y-b)*(y-b)+((v-a)*(v-a)+(w-b)*(w-b))-(((x-a)*(v-a)+(y-b)*(w-b))+((x-a)*(v-a)+(y-b)*(w-b))):=by grind
theorem WD(a b c d r:RE):a*(d*r)-b*(c*r)=r*(a*d-b*c):=by grind
theorem Wx(a b c d r:RE):c*r*b-d*r*a=r*(c*b-d*a):=by grind
theorem af9(a b r:RE):a*r*a+b*r*b=r*(a*a+b*b):=by grind
theorem aju(a b:RE):a+b-a=b:=by grind
theorem Qc(q s t u:RE)(h1:s<=t):q+u-(t+t)<=q+u-(s+s):=by grind
theorem amw(r d:RE):r*d*(r*d)=r*r*d*d:=by grind
theorem D7(c t m:RE)(h1:c*c+t*t=m):t*t<=m:=by have:=cZ (c);grind
theorem abl(t s:RE)(h1:t<=0)(h2:0<=s):t<=s:=by grind
theorem adj(a b r:RE):a*r*(a*r)+b*r*(b*r)=(a*a+b*b)*(r*r):=by grind
theorem XO(a s:RE):a+ -2*s=a-(s+s):=by grind
theorem po{c:Ln}{p:PE}(h:fV c p)(v:PE):dsE p v=of c.2.2+dtE (frm c v) (frm c v)-(dtE (frm c p) (frm c v)+dtE (frm c p) (frm c v)):=by
 have h':(p.1-of c.1)*(p.1-of c.1)+(p.2-of c.2.1)*(p.2-of c.2.1)=of c.2.2:=h;unfold dsE dtE frm;dsimp only;rw[TO _ _ (of c.1) (of c.2.1),h']
theorem vT{c:Ln}{p q:PE}(hp:fV c p)(hq:fV c q){v:PE}(h:dtE (frm c p) (frm c v)<=dtE (frm c q) (frm c v)):dsE q v<=dsE p v:=by
 rw[po hp,po hq];exact Qc _ _ _ _ h
theorem kg(u w:PE):gQ u w u=true/\gQ u w w=true:=by
 have z:∀x:PE,crs x x=0:=λx=>by unfold crs;rw[mul_comm,sub_self]
 rcases lt_or_ge (crs u w) 0 with h|h
 ·exact⟨(D1 h).2 (λg=>by rw[z u]at g;exact lt_irrefl _ g.2),(D1 h).2 (λg=>by rw[z w]at g;exact lt_irrefl _ g.1)⟩
 ·exact⟨(EQ h).2 ⟨by rw[z u];exact le_refl _,h⟩,(EQ h).2 ⟨h,by rw[z w];exact le_refl _⟩⟩
theorem nF(u w d:PE){r:RE}(hr:0<r):gQ u w (d.1*r,d.2*r)=gQ u w d:=by
 have h1:crs u (d.1*r,d.2*r)=r*crs u d:=WD _ _ _ _ _;have h2:crs (d.1*r,d.2*r) w=r*crs d w:=Wx _ _ _ _ _;unfold gQ;rw[h1,h2,dp,dp,dA hr,aoc,aoc]
theorem QI{q:Pt}:pX (rdP q)=pX q/\pY (rdP q)=pY q:=by
 unfold rdP pX pY;by_cases h1:q.2.1=0
 ·by_cases h2:q.2.2.2.1=0
  ·rw[amW h1,amW h2];dsimp only;rw[h1,h2,dZ,dZ,dZ,dZ];exact⟨rfl,rfl⟩
  ·rw[amY h2,Bool.and_false];exact⟨rfl,rfl⟩
 ·rw[amY h1,Bool.false_and];exact⟨rfl,rfl⟩
theorem ZP{x y:Rt}(h:uR x y):pR (mkP x y)=(vR x,vR y):=by
 unfold mkP;refine anx (QI.1.trans ?_) (QI.2.trans ?_)
 ·unfold pX vR;dsimp only;by_cases e:x.2.1=0
  ·rw[e,dZ,dZ]
  ·rw[amY e];rfl
 ·unfold pY vR;dsimp only;by_cases e:x.2.1=0
  ·rw[amW e];rfl
  ·rw[amY e];rcases h with h|h|h
   ·exact absurd h e
   ·rw[h,dZ,dZ]
   ·rw[cond_false,h]
theorem ul(c:Ln)(d:Rat×Rat):frm c (pR (iV c d))=(of d.1*rq (c.2.2/aW d d),of d.2*rq (c.2.2/aW d d)):=by
 unfold iV;rw[ZP (pB _ _ _ _ _),vR_mk,vR_mk];unfold frm v2;exact anx (aju _ _) (aju _ _)
theorem Kk(c:Ln)(v:Rat×Rat):frm c (vE v)=vE (cD (ctr c) v):=by
 unfold frm vE cD ctr;dsimp only;rw[of_sub,of_sub]
theorem Oj(d:Rat×Rat):dtE (vE d) (vE d)=of (aW d d):=rfl
theorem Bf{m:Rat}(h:0<m):0<rq m:=by
 have:=NF (m:=m) (by grind);rw[dJ h]at this;exact Co.1 this
theorem lK(c:Cv):(ccF c=frC c/\ccT c=toC c)\/(ccF c=toC c/\ccT c=frC c):=by
 unfold ccF ccT;cases cwC c
 ·exact .inl ⟨rfl,rfl⟩
 ·exact .inr ⟨rfl,rfl⟩
theorem aeh{c:Cv}(hq:0<(ciC c).2.2){v:Rat×Rat}(hz:zeV (aY c v)=false)(on:fV (ciC c) (pR (iV (ciC c) (aY c v)))):dsE (pR (iV (ciC c) (aY c v))) (vE v)=of (aW (aY c v) (aY c v)+(ciC c).2.2)-(rq (aW (aY c v) (aY c v)*(ciC c).2.2)+rq (aW (aY c v) (aY c v)*(ciC c).2.2)):=by
 have hq0:(0:Rat)<=(ciC c).2.2:=by grind
 have d0:=ju (aY c v);have m0:0<=aW (aY c v) (aY c v)*(ciC c).2.2:=anh d0 hq0;have hs:=dB m0;have hs0:=gf (aW (aY c v) (aY c v)*(ciC c).2.2);have hD:frm (ciC c) (vE v)=vE (aY c v):=Kk _ _;have n0:=CI hq0 d0;have rr:=dB n0;have r0:=gf ((ciC c).2.2/aW (aY c v) (aY c v))
 have hdt:dtE (frm (ciC c) (pR (iV (ciC c) (aY c v)))) (frm (ciC c) (vE v))=rq (aW (aY c v) (aY c v)*(ciC c).2.2):=by
  rw[hD,ul];have e1:dtE (of (aY c v).1*rq ((ciC c).2.2/aW (aY c v) (aY c v)),of (aY c v).2*rq ((ciC c).2.2/aW (aY c v) (aY c v))) (vE (aY c v))=rq ((ciC c).2.2/aW (aY c v) (aY c v))*of (aW (aY c v) (aY c v)):=af9 _ _ _;rw[e1];refine EW _ _ (aH r0 (fQ.2 d0)) hs0 ?_;rw[hs,amw,rr,<-of_mul,<-of_mul,ani (vD hz),aox]
 rw[po on,hdt,hD,Oj,of_add,add_comm (of (aW _ _))]
theorem acu{c:Cv}{v:Rat×Rat}(hz:zeV (aY c v)=true){p:PE}(on:fV (ciC c) p):dsE p (vE v)=of (aW (aY c v) (aY c v)+(ciC c).2.2)-(rq (aW (aY c v) (aY c v)*(ciC c).2.2)+rq (aW (aY c v) (aY c v)*(ciC c).2.2)):=by
 have hD:frm (ciC c) (vE v)=vE (aY c v):=Kk _ _
 have z0:(aY c v).1=0/\(aY c v).2=0:=by
  unfold zeV at hz;obtain⟨a,b⟩:=am6.1 hz;exact⟨amZ a,amZ b⟩
 have dz:aW (aY c v) (aY c v)=0:=by
  unfold aW;rw[z0.1,z0.2];decide+kernel
 have hdt:dtE (frm (ciC c) p) (frm (ciC c) (vE v))=0:=by
  rw[hD];unfold dtE vE;dsimp only;rw[z0.1,z0.2];show _*0+_*0=(0:RE)
  rw[mul_zero,mul_zero,add_zero]
 rw[po on,hdt,hD,Oj,dz,Rat.zero_mul,Ko,Rat.zero_add];show _+(0:RE)-_=_;rw[add_zero]
theorem I4{c:Cv}(h:GdE c)(ha:c.1=true){v:Rat×Rat}(hz:zeV (aY c v)=false):fV (ciC c) (pR (iV (ciC c) (aY c v)))/\df c (aY c v)=gQ (frm (ciC c) (pR (ccF c))) (frm (ciC c) (pR (ccT c))) (vE (aY c v)):=by
 have hq:=(h.q ha).1;have hq0:(0:Rat)<=(ciC c).2.2:=by grind
 have hC:Cir (ciC c):=⟨hq⟩
 have d0:=ju (aY c v)
 have n0:0<(ciC c).2.2/aW (aY c v) (aY c v):=by
  have h1:(ciC c).2.2/aW (aY c v) (aY c v)*aW (aY c v) (aY c v)=(ciC c).2.2:=ani (vD hz);have h2:=CI hq0 d0;rcases(by grind:(ciC c).2.2/aW (aY c v) (aY c v)=0\/0<(ciC c).2.2/aW (aY c v) (aY c v))with h3|h3
  ·rw[h3]at h1;grind
  ·exact h3
 have hr:=Bf n0;have rr:=dB (show 0<=(ciC c).2.2/aW (aY c v) (aY c v) by grind)
 have onray:fV (ciC c) (pR (iV (ciC c) (aY c v))):=by
  show(frm _ _).1*(frm _ _).1+(frm _ _).2*(frm _ _).2=_;rw[ul];have:of (aY c v).1*rq ((ciC c).2.2/aW (aY c v) (aY c v))*(of (aY c v).1*rq ((ciC c).2.2/aW (aY c v) (aY c v)))+of (aY c v).2*rq ((ciC c).2.2/aW (aY c v) (aY c v))*(of (aY c v).2*rq ((ciC c).2.2/aW (aY c v) (aY c v)))=of (aW (aY c v) (aY c v))*(rq ((ciC c).2.2/aW (aY c v) (aY c v))*rq ((ciC c).2.2/aW (aY c v) (aY c v))):=adj _ _ _;rw[this,rr,<-of_mul,aox,ani (vD hz)]
 refine⟨onray,?_⟩
 have e1:df c (aY c v)=onP c (iV (ciC c) (aY c v)):=by
  unfold df;rw[ha,hz];rfl
 rw[e1,<-nF _ _ (vE (aY c v)) hr,apb,jS h];unfold onE arcE;rw[anp ha,ul];exact and_iff_right onray
theorem VK{c:Cv}(h:GdE c)(ha:c.1=true)(v:Rat×Rat):Mn (arcE (ciC c) (pR (ccF c)) (pR (ccT c))) (vE v) (vR (kN c v)):=by
 have hf:=h.f;have ht:=h.t;obtain⟨hq,oF,oT⟩:=h.q ha;have oF:fV (ciC c) (pR (frC c)):=oF;have oT:fV (ciC c) (pR (toC c)):=oT;have hq0:(0:Rat)<=(ciC c).2.2:=by grind
 have oU:fV (ciC c) (pR (ccF c)):=by rcases lK c with⟨e,_⟩|⟨e,_⟩<;>rw[e]<;>assumption
 have oW:fV (ciC c) (pR (ccT c)):=by rcases lK c with⟨_,e⟩|⟨_,e⟩<;>rw[e]<;>assumption
 have hne:frm (ciC c) (pR (ccF c))≠frm (ciC c) (pR (ccT c)):=λe=>by
  have e1:pR (ccF c)=pR (ccT c):=anx (fR _ _ _ (congrArg Prod.fst e)) (fR _ _ _ (congrArg Prod.snd e));rcases lK c with⟨g1,g2⟩|⟨g1,g2⟩<;>rw[g1,g2]at e1
  ·exact h.ne e1
  ·exact h.ne e1.symm
 have sU:arcE (ciC c) (pR (ccF c)) (pR (ccT c)) (pR (ccF c)):=⟨oU,(kg _ _).1⟩
 have sW:arcE (ciC c) (pR (ccF c)) (pR (ccT c)) (pR (ccT c)):=⟨oW,(kg _ _).2⟩
 have hD:frm (ciC c) (vE v)=vE (aY c v):=Kk _ _;have hDD:dtE (frm (ciC c) (vE v)) (frm (ciC c) (vE v))=of (aW (aY c v) (aY c v)):=by rw[hD,Oj]
 have hgen:onE c=arcE (ciC c) (pR (ccF c)) (pR (ccT c)):=by funext p;unfold onE;rw[anp ha]
 have hC:Cir (ciC c):=⟨hq⟩
 have d0:=ju (aY c v);have m0:0<=aW (aY c v) (aY c v)*(ciC c).2.2:=anh d0 hq0;have hs:=dB m0;have hs0:=gf (aW (aY c v) (aY c v)*(ciC c).2.2);unfold kN;rw[ha,cond_true];cases e:df c (aY c v)
 ·rw[cond_false,HQ hf ht]
  have hz:zeV (aY c v)=false:=by
   cases g:zeV (aY c v)
   ·rfl
   ·unfold df at e;rw[g,ha]at e;cases e
  have hd:¬gQ (frm (ciC c) (pR (ccF c))) (frm (ciC c) (pR (ccT c))) (vE (aY c v))=true:=λg=>by
   rw[<-(I4 h ha hz).2,e]at g;cases g
  have res:=CC (v:=vE v) sU sW (λp hp=>by
   have:=Bp (u:=frm (ciC c) (pR (ccF c))) (w:=frm (ciC c) (pR (ccT c))) (z:=frm (ciC c) p) (d:=vE (aY c v)) oU oW hp.1 hne hp.2 hd;rw[<-hD]at this;exact this.imp (vT hp.1 oU) (vT hp.1 oW))
  rcases lK c with⟨g1,g2⟩|⟨g1,g2⟩
  ·rw[g1,g2]at res ⊢;exact res
  ·rw[g1,g2]at res ⊢;rw[E3];exact res
 ·rw[cond_true,vR_mk];unfold v2;have two:of (-2)= -2:=rfl;rw[two,XO]
  have low:∀p,arcE (ciC c) (pR (ccF c)) (pR (ccT c)) p->of (aW (aY c v) (aY c v)+(ciC c).2.2)-(rq (aW (aY c v) (aY c v)*(ciC c).2.2)+rq (aW (aY c v) (aY c v)*(ciC c).2.2))<=dsE p (vE v):=λp hp=>by
   have h1:=Db (frm (ciC c) p).1 (frm (ciC c) p).2 (frm (ciC c) (vE v)).1 (frm (ciC c) (vE v)).2;have h2:(frm (ciC c) p).1*(frm (ciC c) p).1+(frm (ciC c) p).2*(frm (ciC c) p).2=of (ciC c).2.2:=hp.1;have h3:(frm (ciC c) (vE v)).1*(frm (ciC c) (vE v)).1+(frm (ciC c) (vE v)).2*(frm (ciC c) (vE v)).2=of (aW (aY c v) (aY c v)):=hDD;rw[h2,h3,<-of_mul,aox,<-hs]at h1;have h4:=D7 _ _ _ h1
   have h5:dtE (frm (ciC c) p) (frm (ciC c) (vE v))<=rq (aW (aY c v) (aY c v)*(ciC c).2.2):=by
    rcases lt_or_ge 0 (dtE (frm (ciC c) p) (frm (ciC c) (vE v)))with g|g
    ·exact sd _ _ (le_of_lt g) hs0 h4
    ·exact abl _ _ g hs0
   rw[po hp.1,hDD,of_add,add_comm (of (aW _ _))];exact Qc _ _ _ _ h5
  refine⟨?_,low⟩;cases hz:zeV (aY c v)
  ·-- the point in this direction
   have hon:onE c (pR (iV (ciC c) (aY c v))):=by
    unfold df at e;rw[ha,hz]at e;exact(jS h).1 e
   rw[hgen]at hon;exact⟨_,hon,aeh hq hz hon.1⟩
  ·exact⟨_,sU,acu hz oU⟩
theorem Gq{c:Cv}(h:GdE c)(v:Rat×Rat):Mn (onE c) (vE v) (vR (kN c v)):=by
 cases ha:c.1
 ·have:onE c=segE (lnC c) (pR (frC c)) (pR (toC c)):=by
   funext p;unfold onE;rw[ank (by rw[ha];decide)]
  rw[this];exact VT h ha v
 ·have:onE c=arcE (ciC c) (pR (ccF c)) (pR (ccT c)):=by
   funext p;unfold onE;rw[anp ha]
  rw[this];exact VK h ha v
end RE
end Go.Proofs.YtagbmoohboleaaaGreat
end
