/- Common points of lines and circles: plain, with sizes. -/
import Derived.Test.YtnkndpoojnflmaaGreatA14
import Derived.Test.YtnkndpoojnflmaaGreatA13
noncomputable section
namespace Go.Proofs.YtnkndpoojnflmaaGreat
open Go.RowKit Go.IntKind
theorem aow:type_of% @List.filter_cons:=@List.filter_cons
theorem apl:type_of% @List.filter_nil:=@List.filter_nil
section
theorem Con.new_d{P:Program}{f:Nat}{args:List SV}{et:TypeId}{e:Ty}{xs:List e.D}(h:Con P f args [.new et e xs]):Con P f args [.d (.sl e) xs]:=by
 intro A w vs hI ha;refine(h A w vs hI ha).mono ?_;rintro en w' ⟨v,rfl,hb,css,ho,ha2,hn⟩
 refine⟨v,rfl,hb,?_⟩;obtain⟨hlen,p,c,hv,h1,h2,h3⟩:=Rd.of_own hn ho;subst hv;refine⟨[.slice p xs.length c],⟨p,xs.length,c,css,rfl,rfl,h1,h2,bR (fun _ _ h=>Ty.rd_keep ⟨amK _,fun b _ hb=>hb.1,fun _ _ _=>rfl⟩ h) ha2,fun h0=>?_⟩,rfl⟩;obtain⟨b,off,rfl,h5,h6⟩:=h3 h0;refine⟨b,off,rfl,.inr ?_,h5,h6⟩;rcases ho.2 with⟨h7,_⟩|⟨g,cap,cur,h7,h8,_⟩
 ·cases h7
 ·injection h7 with h7;injection h7 with h7;injection h7 with h7;subst h7;exact h8
class Bb (q:Rat) (n d:outParam Nat):Prop where
 nu:q.num.natAbs≤2^n
 de:q.den≤2^d
theorem EU{n:Int}{d a b:Nat}(hd:d≠0)(h1:n.natAbs≤2^a)(h2:d≤2^b):(mkRat n d).num.natAbs≤2^a∧(mkRat n d).den≤2^b:=by
 rw[apC,apD,am0 hd,am0 hd];constructor
 ·refine amS ?_ h1;refine(Jx n (d.gcd n.natAbs)).resolve_right (fun h=>h ?_);exact Int.ofNat_dvd_left.2 (Nat.gcd_dvd_right d n.natAbs)
 ·exact amS (Nat.div_le_self _ _) h2
theorem yC{a b m n:Nat}(h:a≤2^m)(h':b≤2^n):a*b≤2^(m+n):=by
 rw[Nat.pow_add];exact aoM h h'
theorem af6{x y m n:Nat}(h:x≤2^m)(h':y≤2^n):x+y≤2^(mx m n+1):=by
 have h1:=amS h (Nat.pow_le_pow_right (by decide) (Cw m n));have h2:=amS h' (Nat.pow_le_pow_right (by decide) (BX m n));rw[Nat.pow_succ];omega
section
variable {a b:Rat} {m n d e:Nat}
instance alp [h:Bb a m d] [h':Bb b n e]:Bb (a+b) (mx (m+e) (n+d)+1) (d+e):=by
 have d1:=a.den_pos;have d2:=b.den_pos
 have:=EU (n:=a.num*(b.den:Int)+b.num*(a.den:Int)) (d:=a.den*b.den) (a:=mx (m+e) (n+d)+1) (b:=d+e) (ape (by omega) (by omega)) (by
  refine amS (Int.natAbs_add_le _ _) ?_;rw[apr,apr,aob,aob];exact af6 (yC h.nu h'.de) (yC h'.nu h.de)) (yC h.de h'.de)
 rw[←Rat.add_def']at this;exact⟨this.1,this.2⟩
instance aln [h:Bb a m d]:Bb (-a) m d:=⟨by rw[Rat.neg_num,Int.natAbs_neg];exact h.nu,h.de⟩
instance al8 [h:Bb a m d] [h':Bb b n e]:Bb (a-b) (mx (m+e) (n+d)+1) (d+e):=by
 rw[ao6];infer_instance
instance alF [h:Bb a m d] [h':Bb b n e]:Bb (a*b) (m+n) (d+e):=by
 have d1:=a.den_pos;have d2:=b.den_pos
 have:=EU (n:=a.num*b.num) (d:=a.den*b.den) (a:=m+n) (b:=d+e) (ape (by omega) (by omega)) (by
  rw[apr];exact yC h.nu h'.nu) (yC h.de h'.de)
 rw[←Rat.mul_def']at this;exact⟨this.1,this.2⟩
theorem abt [h:Bb a m d]:Bb a⁻¹ d m:=by
 by_cases h0:a=0
 ·subst h0;rw[Rat.inv_zero];exact⟨ao7 _,Nat.one_le_two_pow⟩
 ·have hn:a.num≠0:=fun e=>h0 (Rat.num_eq_zero.1 e);have h1:=h.nu;have h2:=h.de;rw[Rat.inv_def];rcases aot hn with h3|h3
  ·rw[←Rat.neg_divInt_neg,show-a.num=(((-a.num).toNat:Nat):Int) by omega,ao1];have:=EU (n:= -(a.den:Int)) (d:=(-a.num).toNat) (a:=d) (b:=m) (by omega) (by rw[Int.natAbs_neg];exact h2) (by omega);exact⟨this.1,this.2⟩
  ·rw[show a.num=((a.num.toNat:Nat):Int) by omega,ao1];have:=EU (n:=(a.den:Int)) (d:=a.num.toNat) (a:=d) (b:=m) (by omega) h2 (by omega);exact⟨this.1,this.2⟩
instance akw [h:Bb a m d] [h':Bb b n e]:Bb (a/b) (m+e) (d+n):=by
 rw[aph];have:=abt (h:=h');infer_instance
theorem Xn:∀k:Nat,((2^(29*k):Nat):Int)≤pw k
 |0=>by decide
 |k+1=>by
  have ih:=Xn k
  have e:2^(29*(k+1))=2^(29*k)*536870912:=by
   rw[Nat.mul_add,Nat.pow_add]
  rw[e,cf,an9];have:(0:Int)≤pw k:=Int.le_trans (Int.natCast_nonneg _) ih;omega
theorem aaF{z:Int}{n:Nat}(h:z.natAbs≤2^n):szI z≤n/29+1:=by
 have h1:=Xn (n/29+1);have h2:2^n<2^(29*(n/29+1)):=Nat.pow_lt_pow_right (by decide) (by omega);exact fk (by omega) (by omega)
theorem Dg [h:Bb a m d]{k:Nat}(hm:m/29+1≤k)(hd:d/29+1≤k):Bd a k:=⟨⟨amS (aaF h.nu) hm,amS (aaF (z:=(a.den:Int)) h.de) hd⟩⟩
end
theorem U9{n d:Int}{a b:Nat}(h0:0<d)(h1:n.natAbs≤2^a)(h2:d.natAbs≤2^b):Bb (Rat.divInt n d) a b:=by
 obtain⟨k,rfl⟩:=anO (show 0≤d by omega);rw[ao1];have:=EU (n:=n) (d:=k) (by omega) h1 h2;exact⟨this.1,this.2⟩
def cU(x:BO3):Prop:=ok Rat 12 x.1∧ok Rat 12 x.2.1∧ok Rat 63 x.2.2∧((dec x:Ln).1≠0∨(dec x:Ln).2.1≠0)
instance (x:BO3):Decidable (cU x):=by unfold cU;infer_instance
def cp(x:BO3):Prop:=ok Rat 4 x.1∧ok Rat 4 x.2.1∧ok Rat 13 x.2.2∧(0:Rat)<(dec x:Ln).2.2
instance (x:BO3):Decidable (cp x):=by unfold cp;infer_instance
class BdL (l:Ln):Prop where
 a:Bd l.1 12
 b:Bd l.2.1 12
 c:Bd l.2.2 63
class BdC (c:Ln):Prop where
 x:Bd c.1 4
 y:Bd c.2.1 4
 q:Bd c.2.2 13
theorem eF{x:BO3}(h:cU x):∃l:Ln,x=enc l∧BdL l∧(l.1≠0∨l.2.1≠0):=by
 obtain⟨h1,h2,h3,h4⟩:=h;obtain⟨x1,x2,x3⟩:=x;obtain⟨a,rfl,ba⟩:=aB h1;obtain⟨b,rfl,bb⟩:=aB h2;obtain⟨c,rfl,bc⟩:=aB h3;have e:((enc a,enc b,enc c):BO3)=enc ((a,b,c):Ln):=rfl;rw[e,az]at h4;exact⟨(a,b,c),rfl,⟨ba,bb,bc⟩,h4⟩
theorem cE{x:BO3}(h:cp x):∃c:Ln,x=enc c∧BdC c∧0<c.2.2:=by
 obtain⟨h1,h2,h3,h4⟩:=h;obtain⟨x1,x2,x3⟩:=x;obtain⟨a,rfl,ba⟩:=aB h1;obtain⟨b,rfl,bb⟩:=aB h2;obtain⟨c,rfl,bc⟩:=aB h3;have e:((enc a,enc b,enc c):BO3)=enc ((a,b,c):Ln):=rfl;rw[e,az]at h4;exact⟨(a,b,c),rfl,⟨ba,bb,bc⟩,h4⟩
theorem mn{l:Ln}[h:BdL l](h0:l.1≠0∨l.2.1≠0):cU (enc l):=by
 have a:=h.a;have b:=h.b;have c:=h.c;exact⟨amH (okd (amK _) (by decide)),amH (okd (amK _) (by decide)),amH (okd (amK _) (by decide)),by rw[az];exact h0⟩
theorem gQ{c:Ln}[h:BdC c](h0:0<c.2.2):cp (enc c):=by
 have a:=h.x;have b:=h.y;have c:=h.q;exact⟨amH (okd (amK _) (by decide)),amH (okd (amK _) (by decide)),amH (okd (amK _) (by decide)),by rw[az];exact h0⟩
section
variable {l c:Ln}
instance amB [h:BdL l]:Bd l.1 12:=h.a
instance amA [h:BdL l]:Bd l.2.1 12:=h.b
instance amC [h:BdL l]:Bd l.2.2 63:=h.c
instance amD [h:BdC c]:Bd c.1 4:=h.x
instance amz [h:BdC c]:Bd c.2.1 4:=h.y
instance amy [h:BdC c]:Bd c.2.2 13:=h.q
theorem abe [h:BdL l]:Bd l 63:=⟨⟨Cod.mono _ _ _ (by decide) h.a.le,Cod.mono _ _ _ (by decide) h.b.le,h.c.le⟩⟩
theorem Sr [h:BdC c]:Bd c 13:=⟨⟨Cod.mono _ _ _ (by decide) h.x.le,Cod.mono _ _ _ (by decide) h.y.le,h.q.le⟩⟩
end
def fc(l m:Ln):Rat:=l.1*m.2.1-m.1*l.2.1
def oI(l m:Ln):Rat:=l.2.2*m.2.1-m.2.2*l.2.1
def pC(l m:Ln):Rat:=l.1*m.2.2-m.1*l.2.2
def qM(l m:Ln):List Pt:=bif !decide (fc l m=0)then [atP (oI l m/fc l m,pC l m/fc l m)]else []
def Q9(l m:Ln):Int:=bif !decide (fc l m=0)then 0 else bif decide (oI l m=0)&&decide (pC l m=0)then 10 else 0
def cN(l:Ln):Rat:=l.1*l.1+l.2.1*l.2.1
def vlL(l:Ln)(x y:Rat):Rat:=l.1*x+l.2.1*y-l.2.2
def jw(l c:Ln):Rat:=cN l*c.2.2-vlL l c.1 c.2.1*vlL l c.1 c.2.1
def ot(ax bx ay b_ c:Rat):Pt:=bif fA c then atP (ax+bx*rtQ c,ay+b_*rtQ c)else(ax,bx,ay,b_,c)
def ftX(l c:Ln):Rat:=c.1-vlL l c.1 c.2.1/cN l*l.1
def ftY(l c:Ln):Rat:=c.2.1-vlL l c.1 c.2.1/cN l*l.2.1
def sJ(l c:Ln):Pt:=ot (ftX l c) (-(l.2.1/cN l)) (ftY l c) (-(-l.1/cN l)) (jw l c)
def sQ(l c:Ln):Pt:=ot (ftX l c) (l.2.1/cN l) (ftY l c) (-l.1/cN l) (jw l c)
def rT(l c:Ln):List Pt:=bif decide (jw l c<0)then []else bif decide (jw l c=0)then [atP (ftX l c,ftY l c)]
 else bif decide (aX (sJ l c) (sQ l c)>0)then [sQ l c,sJ l c]else [sJ l c,sQ l c]
def iO(c d:Ln):Bool:=decide (c.1=d.1)&&decide (c.2.1=d.2.1)
def rm(c:Ln):Rat:=c.1*c.1+c.2.1*c.2.1-c.2.2
def ou(c d:Ln):Ln:=(2*(d.1-c.1),2*(d.2.1-c.2.1),rm d-rm c)
def yR(c d:Ln):List Pt:=bif iO c d then []else rT (ou c d) c
def Wu(c d:Ln):Int:=bif iO c d then(bif decide (c.2.2=d.2.2)then 10 else 0)else 0
def vw(c d:Ln):BO3:=bif iO c d then o00 else enc (ou c d)
def Vu(c d:Ln):Int:=bif iO c d then 6 else 0
def qH(l m:Ln):Bool:=decide (l.1*m.2.1=l.2.1*m.1)&&(decide (l.1*m.2.2=l.2.2*m.1)&&decide (l.2.1*m.2.2=l.2.2*m.2.1))
def t9(c d:Ln):Bool:=decide (c.1=d.1)&&(decide (c.2.1=d.2.1)&&decide (c.2.2=d.2.2))
def cY(a b:Cv):Bool:=bif a.1==b.1 then(bif a.1 then t9 (ciC a) (ciC b)else qH (lnC a) (lnC b))else false
def vK(a:BCU):Prop:=(a.1=true→cp a.2.2.1)∧(a.1=false→cU a.2.1)
instance (a:BCU):Decidable (vK a):=by unfold vK;infer_instance
def gO(a b:BCU):Prop:=vK a∧vK b
instance (a b:BCU):Decidable (gO a b):=by unfold gO;infer_instance
def tg(a b:Cv):List Pt:=bif a.1&&b.1 then yR (ciC a) (ciC b)else bif a.1 then rT (lnC b) (ciC a)else bif b.1 then rT (lnC a) (ciC b)else qM (lnC a) (lnC b)
def XU(a b:Cv):Int:=bif a.1&&b.1 then Wu (ciC a) (ciC b)else bif a.1 then 0 else bif b.1 then 0 else Q9 (lnC a) (lnC b)
def ml(c:Ln):Pt:=ot c.1 (-1) c.2.1 0 c.2.2
def mg(c:Ln):Pt:=ot c.1 1 c.2.1 0 c.2.2
theorem AQ{ax bx ay b_ c:Rat}(h0:¬(bx=0∧b_=0))(hc:0≤c):Rpd (ot ax bx ay b_ c):=by
 refine⟨?_⟩;unfold ot;cases hq:fA c
 ·exact .inr ⟨h0,Iy hc hq,hq⟩
 ·exact .inl ⟨rfl,rfl,rfl⟩
theorem Cg{ax bx ay b_ c:Rat}{j k m:Nat}(h1:Bd ax j)(h2:Bd bx k)(h3:Bd ay j)(h4:Bd b_ k)(h5:Bd c m){n:Nat}(hn:j+(k+m)+1≤n):Bd (ot ax bx ay b_ c) n:=by
 have z:bdR n 0:=bJ lD.le (by omega);have i1:Bd (ax+bx*rtQ c) _:=inferInstance;have i2:Bd (ay+b_*rtQ c) _:=inferInstance;refine⟨?_⟩;unfold ot;cases fA c
 ·exact⟨bJ h1.le (by omega),bJ h2.le (by omega),bJ h3.le (by omega),bJ h4.le (by omega),bJ h5.le (by omega)⟩
 ·exact⟨bJ i1.le (by omega),z,bJ i2.le (by omega),z,z⟩
section
variable {l m c d:Ln}
theorem pq(h:l.1≠0∨l.2.1≠0):cN l≠0:=lI h
instance alw [BdL l] [h:BdC c]:Bd (jw l c) 257:=by
 have hx:=h.x;have hy:=h.y;have hq:=h.q;have i1:Bd (cN l) 49:=inferInstanceAs (Bd (l.1*l.1+l.2.1*l.2.1) _);have i2:Bd (vlL l c.1 c.2.1) 97:=inferInstanceAs (Bd (l.1*c.1+l.2.1*c.2.1-l.2.2) _);exact(inferInstance:Bd (cN l*c.2.2-vlL l c.1 c.2.1*vlL l c.1 c.2.1) _).mono (by decide)
theorem uS [BdL l][h:BdC c]:Bd (ftX l c) 163∧Bd (ftY l c) 163∧Bd (l.2.1/cN l) 61∧Bd (l.1/cN l) 61:=by
 have hx:=h.x;have hy:=h.y;have i1:Bd (cN l) 49:=inferInstanceAs (Bd (l.1*l.1+l.2.1*l.2.1) _);have i2:Bd (vlL l c.1 c.2.1) 97:=inferInstanceAs (Bd (l.1*c.1+l.2.1*c.2.1-l.2.2) _);have i3:Bd (c.1-vlL l c.1 c.2.1/cN l*l.1) _:=inferInstance;have i4:Bd (c.2.1-vlL l c.1 c.2.1/cN l*l.2.1) _:=inferInstance;have i5:Bd (l.2.1/cN l) _:=inferInstance;have i6:Bd (l.1/cN l) _:=inferInstance;exact⟨i3.mono (by decide),i4.mono (by decide),i5.mono (by decide),i6.mono (by decide)⟩
end
end
section
theorem J2(a b:Rat):((ak a,ak b):BV)=enc ((a,b):Rat×Rat):=nr rfl
theorem Po{q:Rat}(h:¬q<0)(h':¬q=0):0<q:=by grind
theorem rdl{l:Ln}(h:cN l≠0)(hl:l.1≠0∨l.2.1≠0):¬(l.2.1/cN l=0∧ -l.1/cN l=0):=by
 intro ⟨h1,h2⟩
 have m:∀a:Rat,a/cN l=0→a=0:=fun a e=>by
  have:a/cN l*cN l=a:=anf h;rw[e,Rat.zero_mul]at this;exact this.symm
 have:=m _ h1;have:=m _ h2;rcases hl with h|h<;>grind
section
variable {l c:Ln}
theorem NZ(hl:l.1≠0∨l.2.1≠0)(h0:0≤jw l c):Rpd (sJ l c)∧Rpd (sQ l c):=by
 have hn:=pq hl;refine⟨AQ (fun h=>rdl hn hl ⟨by grind,by grind⟩) h0,AQ (rdl hn hl) h0⟩
theorem MS [BdL l][BdC c]:Bd (sJ l c) 490∧Bd (sQ l c) 490:=by
 obtain⟨h1,h2,h3,h4⟩:=uS (l:=l) (c:=c);have h5:Bd (jw l c) 257:=inferInstance;have n1:Bd (-(l.2.1/cN l)) 61:=inferInstance;have i1:Bd (cN l) 49:=inferInstanceAs (Bd (l.1*l.1+l.2.1*l.2.1) _);have n2:Bd (-l.1/cN l) 61:=(inferInstance:Bd (-l.1/cN l) _)
 have n3:Bd (-(-l.1/cN l)) 61:=inferInstance;exact⟨Cg h1 n1 h2 n3 h5 (by decide),Cg h1 h3 h2 n2 h5 (by decide)⟩
end
theorem w8{c d:Ln}[BdC c][BdC d]:BdL (ou c d):=by
 have b2:Bd (2:Rat) 3:=bS (n:=2) (by decide);have f1:Bd (rm c) 31:=(inferInstance:Bd (c.1*c.1+c.2.1*c.2.1-c.2.2) _).mono (by decide);have f2:Bd (rm d) 31:=(inferInstance:Bd (d.1*d.1+d.2.1*d.2.1-d.2.2) _).mono (by decide);have g1:Bd (2*(d.1-c.1)) _:=inferInstance;have g2:Bd (2*(d.2.1-c.2.1)) _:=inferInstance;have g3:Bd (rm d-rm c) _:=inferInstance;exact⟨g1.mono (by decide),g2.mono (by decide),g3.mono (by decide)⟩
theorem Bp{c d:Ln}(h:iO c d=false):(ou c d).1≠0∨(ou c d).2.1≠0:=by
 unfold iO at h;unfold ou;dsimp only;by_cases h1:c.1=d.1
 ·rw[amE h1,anU]at h;have:=anw h;right;grind
 ·left;grind
theorem OF{c d:Ln}[BdC c][BdC d](h:iO c d=false):cU (enc (ou c d)):=mn (h:=w8) (Bp h)
def vo:List En:=[enT iV,enL kD,enL lV,enL m7,enL lT,enT pu,enL o8,enL GG,enL Qo,enL um,enT xL,enL BS]
def afZ:Cn 273 [tR,tR]:=cn fun(a b:BR)=>lf (okR a∧okR b) [.d tR (ak (ag a+ag b))] fun h=>jH [RV.d tR (hAd a b)] (du vo) h
def ahV:Cn 255 [tR,tR]:=cn fun(a b:BR)=>lf (okR a∧okR b) [.d tR (ak (ag a-ag b))] fun h=>jH [RV.d tR (hSu a b)] (du vo) h
def ajB:Cn 256 [tR,tR]:=cn fun(a b:BR)=>lf (okR a∧okR b) [.d tR (ak (ag a*ag b))] fun h=>jH [RV.d tR (hMu a b)] (du vo) h
def agm:Cn 181 [tR]:=cn fun(a:BR)=>lf (okR a) [.d tR (ak (-ag a))] fun h=>jH [RV.d tR (hNe a)] (du vo) h
def ae5:Cn 253 [tR,tR]:=cn fun(a b:BR)=>lf (hZ a b) [.d tR (ak (ag a/ag b))] fun h=>jH [RV.d tR (hDi a b)] (du vo) h
def Na(l m:BO3)(_k:KT):OLR:=og (o2 l.1 m.2.1) (og (o2 l.2.1 m.1) (og (o2 (hMu l.1 m.2.1) (hMu l.2.1 m.1)) (match(aD (ag (hMu l.1 m.2.1)) (ag (hMu l.2.1 m.1)))==0 with|true=>(og (o2 l.1 m.2.2) (og (o2 l.2.2 m.1) (og (o2 (hMu l.1 m.2.2) (hMu l.2.2 m.1)) (match(aD (ag (hMu l.1 m.2.2)) (ag (hMu l.2.2 m.1)))==0 with|true=>(og (o2 l.2.1 m.2.2) (og (o2 l.2.2 m.2.1) (og (o2 (hMu l.2.1 m.2.2) (hMu l.2.2 m.2.1)) (some [RV.d .bool ((aD (ag (hMu l.2.1 m.2.2)) (ag (hMu l.2.2 m.2.1)))==0)]))))|false=>some [RV.d .bool false]))))|false=>some [RV.d .bool false])))
def acr:Cn 146 [tO,tO]:=cn fun(l m:BO3)=>lf (cU l∧cU m) [.d .bool (qH (dec l) (dec m))] fun h=>by
 refine aA vo (Na l m) ⟨0,?_⟩;obtain⟨hl,hm⟩:=h;obtain⟨l,rfl,bl,nl⟩:=eF hl;obtain⟨m,rfl,bm,nm⟩:=eF hm;unfold Na qH;simp only[aO,Nat.reduceAdd,Nat.reduceLeDiff,ao];cases decide (l.1*m.2.1=l.2.1*m.1)<;>cases decide (l.1*m.2.2=l.2.2*m.1)<;>rfl
def LH(c d:BO3)(_k:KT):OLR:=og (o2 c.1 d.1) (match(aD (ag c.1) (ag d.1))==0 with|true=>(og (o2 c.2.1 d.2.1) (match(aD (ag c.2.1) (ag d.2.1))==0 with|true=>(og (o2 c.2.2 d.2.2) (some [RV.d .bool ((aD (ag c.2.2) (ag d.2.2))==0)]))|false=>some [RV.d .bool false]))|false=>some [RV.d .bool false])
def aa1:Cn 145 [tO,tO]:=cn fun(c d:BO3)=>lf (cp c∧cp d) [.d .bool (t9 (dec c) (dec d))] fun h=>by
 refine aA vo (LH c d) ⟨0,?_⟩;obtain⟨hc,hd⟩:=h;obtain⟨c,rfl,bc,nc⟩:=cE hc;obtain⟨d,rfl,bd,nd⟩:=cE hd;unfold LH t9;simp only[aO,Nat.reduceLeDiff,ao];cases decide (c.1=d.1)<;>cases decide (c.2.1=d.2.1)<;>rfl
def zU:List En:=enL afZ::enL ahV::enL ajB::enL agm::enL ae5::vo
def Xu(l m:BO3)(_k:KT):OLR:=og (o2 l.1 m.2.1) (og (o2 m.1 l.2.1) (og (o2 (hMu l.1 m.2.1) (hMu m.1 l.2.1)) (some [RV.d tR (hSu (hMu l.1 m.2.1) (hMu m.1 l.2.1))])))
def aiX:Cn 257 [tO,tO]:=cn fun(l m:BO3)=>lf (cU l∧cU m) [.d tR (ak (fc (dec l) (dec m)))] fun h=>by
 refine aA zU (Xu l m) ⟨0,?_⟩;obtain⟨hl,hm⟩:=h;obtain⟨l,rfl,bl,nl⟩:=eF hl;obtain⟨m,rfl,bm,nm⟩:=eF hm;unfold Xu fc;simp only[aO,Nat.reduceAdd,Nat.reduceLeDiff]
def WB(l:BO3)(_k:KT):OLR:=og (o2 l.1 l.1) (og (o2 l.2.1 l.2.1) (og (o2 (hMu l.1 l.1) (hMu l.2.1 l.2.1)) (some [RV.d tR (hAd (hMu l.1 l.1) (hMu l.2.1 l.2.1))])))
def ahW:Cn 252 [tO]:=cn fun(l:BO3)=>lf (cU l) [.d tR (ak (cN (dec l)))] fun h=>by
 refine aA zU (WB l) ⟨0,?_⟩;have hl:=h;obtain⟨l,rfl,bl,nl⟩:=eF hl;unfold WB cN;simp only[aO,Nat.reduceAdd,Nat.reduceLeDiff]
def W1(l:BO3)(x y:BR)(_k:KT):OLR:=og (o2 l.1 x) (og (o2 l.2.1 y) (og (o2 (hMu l.1 x) (hMu l.2.1 y)) (og (o2 (hAd (hMu l.1 x) (hMu l.2.1 y)) l.2.2) (some [RV.d tR (hSu (hAd (hMu l.1 x) (hMu l.2.1 y)) l.2.2)]))))
def agQ:Cn 254 [tO,tR,tR]:=cn fun(l:BO3) (x y:BR)=>lf (cU l∧ok Rat 4 x∧ok Rat 4 y) [.d tR (ak (vlL (dec l) (ag x) (ag y)))] fun h=>by
 refine aA zU (W1 l x y) ⟨0,?_⟩;obtain⟨hl,hx,hy⟩:=h;obtain⟨l,rfl,bl,nl⟩:=eF hl;obtain⟨x,rfl,bx⟩:=aB hx;obtain⟨y,rfl,b_y⟩:=aB hy;unfold W1 vlL;simp only[aO,Nat.reduceAdd,Nat.reduceLeDiff]
def aag(c d:BO3)(_k:KT):OLR:=og (o2 c.1 d.1) (match(aD (ag c.1) (ag d.1))==0 with|true=>(og (o2 c.2.1 d.2.1) (some [RV.d .bool ((aD (ag c.2.1) (ag d.2.1))==0)]))|false=>some [RV.d .bool false])
def ahH:Cn 249 [tO,tO]:=cn fun(c d:BO3)=>lf (cp c∧cp d) [.d .bool (iO (dec c) (dec d))] fun h=>by
 refine aA zU (aag c d) ⟨0,?_⟩;obtain⟨hc,hd⟩:=h;obtain⟨c,rfl,bc,nc⟩:=cE hc;obtain⟨d,rfl,bd,nd⟩:=cE hd;unfold aag iO;simp only[aO,Nat.reduceLeDiff,ao];cases decide (c.1=d.1)<;>rfl
def Zr(a b c d e:BR)(_k:KT):OLR:=og (o1 e) (match fA (ag e)with|true=>(og (o2 b (hid (rtB (ag e)))) (og (o2 a (hMu b (hid (rtB (ag e))))) (og (o2 d (hid (rtB (ag e)))) (og (o2 c (hMu d (hid (rtB (ag e))))) (og (decide (ok (Rat×Rat) 100000 (hAd a (hMu b (hid (rtB (ag e)))),hAd c (hMu d (hid (rtB (ag e))))))) (some [RV.d tP (hid (enc (atP (dec (hAd a (hMu b (hid (rtB (ag e)))),hAd c (hMu d (hid (rtB (ag e)))))))))]))))))|false=>some [RV.d tP (a,(b,(c,(d,e))))])
def agu:Cn 180 [tR,tR,tR,tR,tR]:=cn fun(a b c d e:BR)=>lf (ok Rat 1000 a∧ok Rat 1000 b∧ok Rat 1000 c∧ok Rat 1000 d∧ok Rat 1000 e) [.d tP (enc (ot (ag a) (ag b) (ag c) (ag d) (ag e)))] fun h=>by
 refine aA zU (Zr a b c d e) ⟨0,?_⟩;obtain⟨ha,hb,hc,hd,he⟩:=h;obtain⟨a,rfl,ba⟩:=aB ha;obtain⟨b,rfl,bb⟩:=aB hb;obtain⟨c,rfl,bc⟩:=aB hc;obtain⟨d,rfl,bd⟩:=aB hd;obtain⟨e,rfl,be⟩:=aB he;unfold Zr ot;simp only[aO,Nat.reduceLeDiff];cases hq:fA e
 ·rfl
 ·rw[PP hq];simp only[aO,Nat.reduceAdd,Nat.reduceLeDiff,J2];try rfl
def EL:List En:=enL aiX::enL ahW::enL agQ::enT ahH::enL agu::zU
def Xh(l m:BO3)(_k:KT):OLR:=og (decide (cU l∧cU m)) (og (o2 l.2.2 m.2.1) (og (o2 m.2.2 l.2.1) (og (o2 (hMu l.2.2 m.2.1) (hMu m.2.2 l.2.1)) (og (o2 l.1 m.2.2) (og (o2 m.1 l.2.2) (og (o2 (hMu l.1 m.2.2) (hMu m.1 l.2.2)) (og (o1 (hid (ak (fc (dec l) (dec m))))) (match(aD (ag (hid (ak (fc (dec l) (dec m))))) 0) !=0 with|true=>(og (decide (hZ (hSu (hMu l.2.2 m.2.1) (hMu m.2.2 l.2.1)) (hid (ak (fc (dec l) (dec m)))))) (og (decide (hZ (hSu (hMu l.1 m.2.2) (hMu m.1 l.2.2)) (hid (ak (fc (dec l) (dec m)))))) (og (decide (ok (Rat×Rat) 100000 (hDi (hSu (hMu l.2.2 m.2.1) (hMu m.2.2 l.2.1)) (hid (ak (fc (dec l) (dec m)))),hDi (hSu (hMu l.1 m.2.2) (hMu m.1 l.2.2)) (hid (ak (fc (dec l) (dec m))))))) (some [RV.d (.sl tP) ([hid (enc (atP (dec (hDi (hSu (hMu l.2.2 m.2.1) (hMu m.2.2 l.2.1)) (hid (ak (fc (dec l) (dec m)))),hDi (hSu (hMu l.1 m.2.2) (hMu m.1 l.2.2)) (hid (ak (fc (dec l) (dec m))))))))]),RV.d apY 0]))))|false=>(og (o1 (hSu (hMu l.2.2 m.2.1) (hMu m.2.2 l.2.1))) (match(aD (ag (hSu (hMu l.2.2 m.2.1) (hMu m.2.2 l.2.1))) 0)==0 with|true=>(og (o1 (hSu (hMu l.1 m.2.2) (hMu m.1 l.2.2))) (match(aD (ag (hSu (hMu l.1 m.2.2) (hMu m.1 l.2.2))) 0)==0 with|true=>some [RV.d (.sl tP) ([]),RV.d apY 10]|false=>some [RV.d (.sl tP) ([]),RV.d apY 0]))|false=>some [RV.d (.sl tP) ([]),RV.d apY 0]))))))))))
def Ze:Cn 149 [tO,tO]:=cn fun(l m:BO3)=>lf (cU l∧cU m) [.d (.sl tP) ((qM (dec l) (dec m)).map enc),.d apY (Q9 (dec l) (dec m))] fun h=>by
 refine aA EL (Xh l m) ⟨0,?_⟩;obtain⟨hl,hm⟩:=h;obtain⟨l,rfl,bl,nl⟩:=eF hl;obtain⟨m,rfl,bm,nm⟩:=eF hm;have ol:=amE (mn (l:=l) nl);have om:=amE (mn (l:=m) nm);have bc:Bd (fc l m) 49:=inferInstanceAs (Bd (l.1*m.2.1-m.1*l.2.1) _);have e1:l.2.2*m.2.1-m.2.2*l.2.1=oI l m:=rfl;have e2:l.1*m.2.2-m.1*l.2.2=pC l m:=rfl;unfold Xh qM Q9;simp only[aO,Nat.reduceAdd,Nat.reduceLeDiff,ao,aU,ol,om];by_cases h0:fc l m=0
 ·simp only[amE h0,e1,e2,Bool.not_true];cases decide (oI l m=0)<;>cases decide (pC l m=0)<;>rfl
 ·simp only[aO,Nat.reduceAdd,Nat.reduceLeDiff,h0,ne_eq,anY,Bool.not_false,J2];rfl
def YR(l c:BO3)(_k:KT):OLR:=og (decide (cU l∧ok Rat 4 c.1∧ok Rat 4 c.2.1)) (og (decide (cU l)) (og (o2 (hid (ak (cN (dec l)))) c.2.2) (og (o2 (hid (ak (vlL (dec l) (ag c.1) (ag c.2.1)))) (hid (ak (vlL (dec l) (ag c.1) (ag c.2.1))))) (og (o2 (hMu (hid (ak (cN (dec l)))) c.2.2) (hMu (hid (ak (vlL (dec l) (ag c.1) (ag c.2.1)))) (hid (ak (vlL (dec l) (ag c.1) (ag c.2.1)))))) (some [RV.d tR (hSu (hMu (hid (ak (cN (dec l)))) c.2.2) (hMu (hid (ak (vlL (dec l) (ag c.1) (ag c.2.1)))) (hid (ak (vlL (dec l) (ag c.1) (ag c.2.1))))))])))))
def afM:Cn 251 [tO,tO]:=cn fun(l c:BO3)=>lf (cU l∧cp c) [.d tR (ak (jw (dec l) (dec c)))] fun h=>by
 refine aA EL (YR l c) ⟨0,?_⟩;obtain⟨hl,hc⟩:=h;obtain⟨l,rfl,bl,nl⟩:=eF hl;obtain⟨c,rfl,bc,nc⟩:=cE hc;have ol:=amE (mn (l:=l) nl);have bv:Bd (vlL l c.1 c.2.1) 97:=inferInstanceAs (Bd (l.1*c.1+l.2.1*c.2.1-l.2.2) _);have bn:Bd (cN l) 49:=inferInstanceAs (Bd (l.1*l.1+l.2.1*l.2.1) _);unfold YR jw;simp only[aO,Nat.reduceAdd,Nat.reduceLeDiff,ol]
def Zp(c d:BO3)(_k:KT):OLR:=og (decide (cp c∧cp d)) (match iO (dec c) (dec d)with|true=>some [RV.d tO (((false,[]),(false,[])),(((false,[]),(false,[])),((false,[]),(false,[])))),RV.d apY 6]|false=>(og (decide (aG (2:Int))) (og (o2 c.1 c.1) (og (o2 c.2.1 c.2.1) (og (o2 (hMu c.1 c.1) (hMu c.2.1 c.2.1)) (og (o2 (hAd (hMu c.1 c.1) (hMu c.2.1 c.2.1)) c.2.2) (og (o2 d.1 d.1) (og (o2 d.2.1 d.2.1) (og (o2 (hMu d.1 d.1) (hMu d.2.1 d.2.1)) (og (o2 (hAd (hMu d.1 d.1) (hMu d.2.1 d.2.1)) d.2.2) (og (o2 d.1 c.1) (og (o2 (hid (ak ((2:Int):Rat))) (hSu d.1 c.1)) (og (o2 d.2.1 c.2.1) (og (o2 (hid (ak ((2:Int):Rat))) (hSu d.2.1 c.2.1)) (og (o2 (hSu (hAd (hMu d.1 d.1) (hMu d.2.1 d.2.1)) d.2.2) (hSu (hAd (hMu c.1 c.1) (hMu c.2.1 c.2.1)) c.2.2)) (some [RV.d tO (hMu (hid (ak ((2:Int):Rat))) (hSu d.1 c.1),(hMu (hid (ak ((2:Int):Rat))) (hSu d.2.1 c.2.1),hSu (hSu (hAd (hMu d.1 d.1) (hMu d.2.1 d.2.1)) d.2.2) (hSu (hAd (hMu c.1 c.1) (hMu c.2.1 c.2.1)) c.2.2))),RV.d apY 0]))))))))))))))))
def aji:Cn 250 [tO,tO]:=cn fun(c d:BO3)=>lf (cp c∧cp d) [.d tO (vw (dec c) (dec d)),.d apY (Vu (dec c) (dec d))] fun h=>by
 refine aA EL (Zp c d) ⟨0,?_⟩;obtain⟨hc,hd⟩:=h;obtain⟨c,rfl,bc,nc⟩:=cE hc;obtain⟨d,rfl,bd,nd⟩:=cE hd;have oc:=amE (gQ (c:=c) nc);have od:=amE (gQ (c:=d) nd);have i2:decide (aG 2)=true:=by decide
 have b2:Bd ((2:Int):Rat) 3:=bS (by decide);unfold Zp vw Vu;simp only[aO,Nat.reduceAdd,Nat.reduceLeDiff,oc,od,i2];cases iO c d
 ·rfl
 ·rfl
def Yn(c:BO3)(_k:KT):OLR:=og (decide (aG (1:Int))) (og (decide (aG (0:Int))) (og (o1 (hid (ak ((1:Int):Rat)))) (og (decide (ok Rat 1000 c.1∧ok Rat 1000 (hNe (hid (ak ((1:Int):Rat))))∧ok Rat 1000 c.2.1∧ok Rat 1000 (hid (ak ((0:Int):Rat)))∧ok Rat 1000 c.2.2)) (og (decide (ok Rat 1000 c.1∧ok Rat 1000 (hid (ak ((1:Int):Rat)))∧ok Rat 1000 c.2.1∧ok Rat 1000 (hid (ak ((0:Int):Rat)))∧ok Rat 1000 c.2.2)) (some [RV.d tP (hid (enc (ot (ag c.1) (ag (hNe (hid (ak ((1:Int):Rat))))) (ag c.2.1) (ag (hid (ak ((0:Int):Rat)))) (ag c.2.2)))),RV.d tP (hid (enc (ot (ag c.1) (ag (hid (ak ((1:Int):Rat)))) (ag c.2.1) (ag (hid (ak ((0:Int):Rat)))) (ag c.2.2))))])))))
def WE:Cn 81 [tO]:=cn fun(c:BO3)=>lf (cp c) [.d tP (enc (ml (dec c))),.d tP (enc (mg (dec c)))] fun h=>by
 refine aA EL (Yn c) ⟨0,?_⟩;have hc:=h;obtain⟨c,rfl,bc,nc⟩:=cE hc;have b0:Bd ((0:Int):Rat) 3:=bS (by decide);have b1:Bd ((1:Int):Rat) 3:=bS (by decide);have i0:decide (aG 0)=true:=by decide
 have i1:decide (aG 1)=true:=by decide
 unfold Yn ml mg;simp only[aO,Nat.reduceLeDiff,i0,i1];rfl
def R8:List En:=enL Ze::enL afM::enL aji::enL WE::EL
def aih:Ctx:=CX (ens R8) []
def aaB(l c:BO3)(_k:KT):OLR:=let y1:=hid (ak (jw (dec l) (dec c)));let y2:=hid (ak (vlL (dec l) (ag c.1) (ag c.2.1)));let y3:=hid (ak (cN (dec l)));let y4:=hMu (hDi y2 y3) l.1;let y5:=hMu (hDi y2 y3) l.2.1;let y6:=hDi (hNe l.1) y3;let y7:=hNe (hDi l.2.1 y3);let y8:=ag (hSu c.2.1 y5);let y9:=enc (ot (ag (hSu c.1 y4)) (ag y7) y8 (ag (hNe y6)) (ag y1));let y10:=enc (ot (ag (hSu c.1 y4)) (ag (hDi l.2.1 y3)) y8 (ag y6) (ag y1));og (decide (cU l∧cp c)) (og (decide (cU l)) (og (o1 y1) (match decide ((aD (ag y1) 0)<0)with|true=>some [RV.new 37 tP []]|false=>(og (decide (cU l∧ok Rat 4 c.1∧ok Rat 4 c.2.1)) (og (decide (hZ y2 y3)) (og (o2 (hDi y2 y3) l.1) (og (o2 c.1 y4) (og (o2 (hDi y2 y3) l.2.1) (og (o2 c.2.1 y5) (og (o1 y1) (match(aD (ag y1) 0)==0 with|true=>(og (decide (ok (Rat×Rat) 100000 (hSu c.1 y4,hSu c.2.1 y5))) (some [RV.new 37 tP ([hid (enc (atP (dec (hSu c.1 y4,hSu c.2.1 y5))))])]))|false=>(og (decide (hZ l.2.1 y3)) (og (o1 l.1) (og (decide (hZ (hNe l.1) y3)) (og (o1 (hDi l.2.1 y3)) (og (o1 y6) (og (decide (ok Rat 1000 (hSu c.1 y4)∧ok Rat 1000 y7∧ok Rat 1000 (hSu c.2.1 y5)∧ok Rat 1000 (hNe y6)∧ok Rat 1000 y1)) (og (decide (ok Rat 1000 (hSu c.1 y4)∧ok Rat 1000 (hDi l.2.1 y3)∧ok Rat 1000 (hSu c.2.1 y5)∧ok Rat 1000 y6∧ok Rat 1000 y1)) (og (decide (okP 4000 (hid y9)∧okP 4000 (hid y10))) (match decide ((aX (dec (hid y9)) (dec (hid y10)))>0)with|true=>some [RV.new 37 tP ([hid y10,hid y9])]|false=>some [RV.new 37 tP ([hid y9,hid y10])]))))))))))))))))))))
theorem aiM(l c:BO3):RS aih 148 [.d tO l,.d tO c] (aaB l c):=rsX
def Y4:Cn 148 [tO,tO]:=cn fun(l c:BO3)=>lf (cU l∧cp c) [.d (.sl tP) ((rT (dec l) (dec c)).map enc)] fun h=>by
 refine Con.new_d (et:=37) (c8 R8 (aiM _ _ ⟨0,?_⟩));obtain⟨hl,hc⟩:=h;obtain⟨l,rfl,bl,nl⟩:=eF hl;obtain⟨c,rfl,bc,nc⟩:=cE hc;have ol:=amE (mn (l:=l) nl);have oc:=amE (gQ (c:=c) nc);have hn:=pq nl;have bv:Bd (vlL l c.1 c.2.1) 97:=inferInstanceAs (Bd (l.1*c.1+l.2.1*c.2.1-l.2.2) _);have bn:Bd (cN l) 49:=inferInstanceAs (Bd (l.1*l.1+l.2.1*l.2.1) _);have e1:c.1-vlL l c.1 c.2.1/cN l*l.1=ftX l c:=rfl;have e2:c.2.1-vlL l c.1 c.2.1/cN l*l.2.1=ftY l c:=rfl;obtain⟨f1,f2,_,_⟩:=uS (l:=l) (c:=c);unfold aaB rT;simp only[aO,Nat.reduceAdd,Nat.reduceLeDiff,ao,aq,ol,oc,hn,ne_eq,anY,e1,e2,J2];by_cases h0:jw l c<0
 ·simp only[amE h0];rfl
 ·simp only[amG h0];by_cases h1:jw l c=0
  ·simp only[amE h1];rfl
  ·have hp:=Po h0 h1;obtain⟨p1,p2⟩:=NZ (c:=c) nl (show 0≤jw l c by grind);obtain⟨q1,q2⟩:=MS (l:=l) (c:=c);have g1:ot (ftX l c) (-(l.2.1/cN l)) (ftY l c) (-(-l.1/cN l)) (jw l c)=sJ l c:=rfl;have g2:ot (ftX l c) (l.2.1/cN l) (ftY l c) (-l.1/cN l) (jw l c)=sQ l c:=rfl;simp only[amG h1,aO,Nat.reduceLeDiff,aI,g1,g2];cases decide (aX (sJ l c) (sQ l c)>0)<;>rfl
def agA:List En:=enL Y4::R8
def aat(c d:BO3)(_k:KT):OLR:=og (decide (cp c∧cp d)) (match iO (dec c) (dec d)with|true=>(og (o2 c.2.2 d.2.2) (match(aD (ag c.2.2) (ag d.2.2))==0 with|true=>some [RV.d (.sl tP) ([]),RV.d apY 10]|false=>some [RV.d (.sl tP) ([]),RV.d apY 0]))|false=>(og (decide (cp c∧cp d)) (og (decide (cU (hid (vw (dec c) (dec d)))∧cp c)) (some [RV.d (.sl tP) ((rT (dec (hid (vw (dec c) (dec d)))) (dec c)).map enc),RV.d apY 0]))))
def ajL:Cn 147 [tO,tO]:=cn fun(c d:BO3)=>lf (cp c∧cp d) [.d (.sl tP) ((yR (dec c) (dec d)).map enc),.d apY (Wu (dec c) (dec d))] fun h=>by
 refine aA agA (aat c d) ⟨0,?_⟩;obtain⟨hc,hd⟩:=h;obtain⟨c,rfl,bc,nc⟩:=cE hc;obtain⟨d,rfl,bd,nd⟩:=cE hd;have oc:=amE (gQ (c:=c) nc);have od:=amE (gQ (c:=d) nd);unfold aat yR Wu;simp only[aO,Nat.reduceLeDiff,ao,oc,od];cases hc:iO c d
 ·have ol:cU (enc (ou c d)):=OF hc;have er:vw c d=enc (ou c d):=by unfold vw;rw[hc];rfl
  simp only[er,dT ol,aO];try rfl
 ·cases decide (c.2.2=d.2.2)<;>rfl
end
def mG(c:BCU):Prop:=okC 500 c∧vK c
instance (c:BCU):Decidable (mG c):=by unfold mG;infer_instance
def fy(c d:BCU):Prop:=mG c∧mG d
instance (c d:BCU):Decidable (fy c d):=by unfold fy;infer_instance
def rW(c d:BCU):List BP:=bif !cY (dC c) (dC d)then(tg (dC c) (dC d)).map enc else [c.2.2.2.2.1,c.2.2.2.2.2,d.2.2.2.2.1,d.2.2.2.2.2]
def JT(c d:BCU):List BP:=(rW c d).filter fun p=>onR (dC c) (dec p)&&onR (dC d) (dec p)
def lc(c d:BCU):List BP:=gF (dC c) (JT c d)
def SY(c d:BCU):Bool:=bif c.1&&(d.1&&(c.2.2.2.1 !=d.2.2.2.1))then true else !c.1&&(aX (dec c.2.2.2.2.1) (dec c.2.2.2.2.2) !=aX (dec d.2.2.2.2.1) (dec d.2.2.2.2.2))
def yY(c d:BCU):BCU:=bif SY c d then sh d else d
def Bh(c:Cv):List BP→Bool
 |[]=>false
 |x::r=>match r with
  |[]=>false
  |y::_=>decide (c9 c (dec x) (dec y)<0)||Bh c r
def Dk(c d:BCU):Bool:=cY (dC c) (dC d)&&Bh (dC (yY c d)) (lc c d)
def Nu:List En:=[enL ajL,enL Y4,enL Ze,enT acr,enT aa1,enT IB,enT Ek,enK Yf,enL QS,enT xL]
def Sx(a b:BCU)(_k:KT):OLR:=match a.1 with|true=>(match b.1 with|true=>(og (decide (cp a.2.2.1∧cp b.2.2.1)) (some [RV.d (.sl tP) ((yR (dec a.2.2.1) (dec b.2.2.1)).map enc),RV.d apY (Wu (dec a.2.2.1) (dec b.2.2.1))]))|false=>(match a.1 with|true=>(og (decide (cU b.2.1∧cp a.2.2.1)) (some [RV.d (.sl tP) ((rT (dec b.2.1) (dec a.2.2.1)).map enc),RV.d apY 0]))|false=>(match b.1 with|true=>(og (decide (cU a.2.1∧cp b.2.2.1)) (some [RV.d (.sl tP) ((rT (dec a.2.1) (dec b.2.2.1)).map enc),RV.d apY 0]))|false=>(og (decide (cU a.2.1∧cU b.2.1)) (some [RV.d (.sl tP) ((qM (dec a.2.1) (dec b.2.1)).map enc),RV.d apY (Q9 (dec a.2.1) (dec b.2.1))])))))|false=>(match a.1 with|true=>(og (decide (cU b.2.1∧cp a.2.2.1)) (some [RV.d (.sl tP) ((rT (dec b.2.1) (dec a.2.2.1)).map enc),RV.d apY 0]))|false=>(match b.1 with|true=>(og (decide (cU a.2.1∧cp b.2.2.1)) (some [RV.d (.sl tP) ((rT (dec a.2.1) (dec b.2.2.1)).map enc),RV.d apY 0]))|false=>(og (decide (cU a.2.1∧cU b.2.1)) (some [RV.d (.sl tP) ((qM (dec a.2.1) (dec b.2.1)).map enc),RV.d apY (Q9 (dec a.2.1) (dec b.2.1))]))))
def ab7:Cn 57 [tCU,tCU]:=cn fun(a b:BCU)=>lf (gO a b) [.d (.sl tP) ((tg (dC a) (dC b)).map enc),.d apY (XU (dC a) (dC b))] fun h=>by
 refine aA Nu (Sx a b) ⟨0,?_⟩;obtain⟨⟨a1,a2⟩,b1,b2⟩:=h;unfold Sx tg XU yR;obtain⟨aa,al,ac,aw,af,at_⟩:=a;obtain⟨ba,bl,bc,bw,bf,bt⟩:=b;cases aa<;>cases ba
 ·have h1:=a2 rfl;have h2:=b2 rfl;simp only[dT (show cU al∧cU bl from⟨h1,h2⟩)];rfl
 ·have h1:=a2 rfl;have h2:=b1 rfl;simp only[dT (show cU al∧cp bc from⟨h1,h2⟩)];rfl
 ·have h1:=a1 rfl;have h2:=b2 rfl;simp only[dT (show cU bl∧cp ac from⟨h2,h1⟩)];rfl
 ·have h1:=a1 rfl;have h2:=b1 rfl;simp only[dT (show cp ac∧cp bc from⟨h1,h2⟩)];rfl
def aaA(a b:BCU)(_k:KT):OLR:=match !(a.1==b.1)with|true=>some [RV.d .bool false]|false=>(match a.1 with|true=>(og (decide (cp a.2.2.1∧cp b.2.2.1)) (some [RV.d .bool (t9 (dec a.2.2.1) (dec b.2.2.1))]))|false=>(og (decide (cU a.2.1∧cU b.2.1)) (some [RV.d .bool (qH (dec a.2.1) (dec b.2.1))])))
def aj1:Cn 56 [tCU,tCU]:=cn fun(a b:BCU)=>lf (gO a b) [.d .bool (cY (dC a) (dC b))] fun h=>by
 refine aA Nu (aaA a b) ⟨0,?_⟩;obtain⟨⟨a1,a2⟩,b1,b2⟩:=h;unfold aaA cY;obtain⟨aa,al,ac,aw,af,at_⟩:=a;obtain⟨ba,bl,bc,bw,bf,bt⟩:=b;cases aa<;>cases ba
 ·have h1:=a2 rfl;have h2:=b2 rfl;simp only[dT (show cU al∧cU bl from⟨h1,h2⟩)];rfl
 ·rfl
 ·rfl
 ·have h1:=a1 rfl;have h2:=b1 rfl;simp only[dT (show cp ac∧cp bc from⟨h1,h2⟩)];rfl
def ZA:List En:=enL ab7::enT aj1::Nu
def ac8:NT:=[((19,18),{keep:=[2,3,6,7,8,9],own:=[(8,37,tP)],hl:=4}),((19,47),{keep:=[3,6,8,10,11],hl:=2})]
def t6:Ctx:=CX (ens ZA) ac8
def qp(c d:BCU)(s9:Int)(r3:List BP):Cfg:=⟨19,[.blk 0,.seq 33],[(2,.box 0 0),(3,.box 1 0),(6,SB (cY (dC c) (dC d))),(7,.d (.sl tP) ((tg (dC c) (dC d)).map enc)),(8,.own 3),(9,SI s9)],[.box 39 (Ty.split tCU c),.box 39 (Ty.split tCU d),.row 37 tP ([c.2.2.2.2.1,c.2.2.2.2.2,d.2.2.2.2.1,d.2.2.2.2.2]),.row 37 tP r3],0,[]⟩
def kr(c d:BCU)(s9:Int)(r3:List BP):Cfg:=⟨19,[.blk 0,.seq 33],[(2,.box 0 0),(3,.box 1 0),(6,SB (cY (dC c) (dC d))),(7,.own 2),(8,.own 3),(9,SI s9)],[.box 39 (Ty.split tCU c),.box 39 (Ty.split tCU d),.row 37 tP ([c.2.2.2.2.1,c.2.2.2.2.2,d.2.2.2.2.1,d.2.2.2.2.2]),.row 37 tP r3],0,[]⟩
def cZ(c d:BCU)(r3:List BP)(B1:BCU)(s10:Bool)(s11:Int):Cfg:=⟨19,[.blk 2,.seq 58],[(3,.box 1 0),(6,SB (cY (dC c) (dC d))),(8,.d (.sl tP) (gF (dC c) r3)),(10,SB s10),(11,SI s11)],[.box 39 (Ty.split tCU c),.box 39 (Ty.split tCU B1)],0,[]⟩
def LS(c d:BCU)(k:KT):OLR:=og (decide (gO c d)) (match !(cY (dC c) (dC d))with|true=>(og (decide (gO c d)) (k 18 (qp c d 0 ([]))))|false=>k 18 (kr c d 0 ([])))
theorem aad(c d:BCU):RS t6 19 [.d tCU c,.d tCU d] (LS c d):=rsX
def qi(c d:BCU)(s9:Int)(r3:List BP)(k:KT):OLR:=match decide (s9<(((tg (dC c) (dC d)).map enc).length:Int))with|true=>(match aS ((tg (dC c) (dC d)).map enc) s9 with|some x1=>(og (decide (okC 3500 c∧okP 3500 x1)) (match onR (dC c) (dec x1)with|true=>(match aS ((tg (dC c) (dC d)).map enc) s9 with|some x2=>(og (decide (okC 3500 d∧okP 3500 x2)) (match onR (dC d) (dec x2)with|true=>(match aS ((tg (dC c) (dC d)).map enc) s9 with|some x3=>(og (decide ((r3.length+([x3]).length)*320≤140737488355328∧r3.length+([x3]).length≤140737488355328)) (k 18 (qp c d (i64.wrap (s9+1)) (r3++([x3])))))|none=>none)|false=>k 18 (qp c d (i64.wrap (s9+1)) r3)))|none=>none)|false=>k 18 (qp c d (i64.wrap (s9+1)) r3)))|none=>none)|false=>(og (decide (xA c r3)) (match c.1 with|true=>(match d.1 with|true=>(match !(c.2.2.2.1==d.2.2.2.1)with|true=>k 47 (cZ c d r3 (hid (sh d)) false 1)|false=>(match !c.1 with|true=>(og (decide (okP 4000 c.2.2.2.2.1∧okP 4000 c.2.2.2.2.2)) (og (decide (okP 4000 d.2.2.2.2.1∧okP 4000 d.2.2.2.2.2)) (match(aX (dec c.2.2.2.2.1) (dec c.2.2.2.2.2)) !=(aX (dec d.2.2.2.2.1) (dec d.2.2.2.2.2))with|true=>k 47 (cZ c d r3 (hid (sh d)) false 1)|false=>k 47 (cZ c d r3 d false 1))))|false=>k 47 (cZ c d r3 d false 1)))|false=>(match !c.1 with|true=>(og (decide (okP 4000 c.2.2.2.2.1∧okP 4000 c.2.2.2.2.2)) (og (decide (okP 4000 d.2.2.2.2.1∧okP 4000 d.2.2.2.2.2)) (match(aX (dec c.2.2.2.2.1) (dec c.2.2.2.2.2)) !=(aX (dec d.2.2.2.2.1) (dec d.2.2.2.2.2))with|true=>k 47 (cZ c d r3 (hid (sh d)) false 1)|false=>k 47 (cZ c d r3 d false 1))))|false=>k 47 (cZ c d r3 d false 1)))|false=>(match !c.1 with|true=>(og (decide (okP 4000 c.2.2.2.2.1∧okP 4000 c.2.2.2.2.2)) (og (decide (okP 4000 d.2.2.2.2.1∧okP 4000 d.2.2.2.2.2)) (match(aX (dec c.2.2.2.2.1) (dec c.2.2.2.2.2)) !=(aX (dec d.2.2.2.2.1) (dec d.2.2.2.2.2))with|true=>k 47 (cZ c d r3 (hid (sh d)) false 1)|false=>k 47 (cZ c d r3 d false 1))))|false=>k 47 (cZ c d r3 d false 1))))
theorem uP(c d:BCU)(s9:Int)(r3:List BP):RN t6 18 (qp c d s9 r3) (qi c d s9 r3):=rnX
def lA(c d:BCU)(s9:Int)(r3:List BP)(k:KT):OLR:=match decide (s9<(([c.2.2.2.2.1,c.2.2.2.2.2,d.2.2.2.2.1,d.2.2.2.2.2]).length:Int))with|true=>(match aS ([c.2.2.2.2.1,c.2.2.2.2.2,d.2.2.2.2.1,d.2.2.2.2.2]) s9 with|some _=>(match true,([c.2.2.2.2.1,c.2.2.2.2.2,d.2.2.2.2.1,d.2.2.2.2.2])[(s9).toNat]? with|true,some x1=>(og (decide (okC 3500 c∧okP 3500 x1)) (match onR (dC c) (dec x1)with|true=>(match aS ([c.2.2.2.2.1,c.2.2.2.2.2,d.2.2.2.2.1,d.2.2.2.2.2]) s9 with|some _=>(match true,([c.2.2.2.2.1,c.2.2.2.2.2,d.2.2.2.2.1,d.2.2.2.2.2])[(s9).toNat]? with|true,some x2=>(og (decide (okC 3500 d∧okP 3500 x2)) (match onR (dC d) (dec x2)with|true=>(match aS ([c.2.2.2.2.1,c.2.2.2.2.2,d.2.2.2.2.1,d.2.2.2.2.2]) s9 with|some _=>(match true,([c.2.2.2.2.1,c.2.2.2.2.2,d.2.2.2.2.1,d.2.2.2.2.2])[(s9).toNat]? with|true,some x3=>(og (decide ((r3.length+([x3]).length)*320≤140737488355328∧r3.length+([x3]).length≤140737488355328)) (k 18 (kr c d (i64.wrap (s9+1)) (r3++([x3])))))|_,_=>none)|none=>none)|false=>k 18 (kr c d (i64.wrap (s9+1)) r3)))|_,_=>none)|none=>none)|false=>k 18 (kr c d (i64.wrap (s9+1)) r3)))|_,_=>none)|none=>none)|false=>(og (decide (xA c r3)) (match c.1 with|true=>(match d.1 with|true=>(match !(c.2.2.2.1==d.2.2.2.1)with|true=>k 47 (cZ c d r3 (hid (sh d)) false 1)|false=>(match !c.1 with|true=>(og (decide (okP 4000 c.2.2.2.2.1∧okP 4000 c.2.2.2.2.2)) (og (decide (okP 4000 d.2.2.2.2.1∧okP 4000 d.2.2.2.2.2)) (match(aX (dec c.2.2.2.2.1) (dec c.2.2.2.2.2)) !=(aX (dec d.2.2.2.2.1) (dec d.2.2.2.2.2))with|true=>k 47 (cZ c d r3 (hid (sh d)) false 1)|false=>k 47 (cZ c d r3 d false 1))))|false=>k 47 (cZ c d r3 d false 1)))|false=>(match !c.1 with|true=>(og (decide (okP 4000 c.2.2.2.2.1∧okP 4000 c.2.2.2.2.2)) (og (decide (okP 4000 d.2.2.2.2.1∧okP 4000 d.2.2.2.2.2)) (match(aX (dec c.2.2.2.2.1) (dec c.2.2.2.2.2)) !=(aX (dec d.2.2.2.2.1) (dec d.2.2.2.2.2))with|true=>k 47 (cZ c d r3 (hid (sh d)) false 1)|false=>k 47 (cZ c d r3 d false 1))))|false=>k 47 (cZ c d r3 d false 1)))|false=>(match !c.1 with|true=>(og (decide (okP 4000 c.2.2.2.2.1∧okP 4000 c.2.2.2.2.2)) (og (decide (okP 4000 d.2.2.2.2.1∧okP 4000 d.2.2.2.2.2)) (match(aX (dec c.2.2.2.2.1) (dec c.2.2.2.2.2)) !=(aX (dec d.2.2.2.2.1) (dec d.2.2.2.2.2))with|true=>k 47 (cZ c d r3 (hid (sh d)) false 1)|false=>k 47 (cZ c d r3 d false 1))))|false=>k 47 (cZ c d r3 d false 1))))
theorem pF(c d:BCU)(s9:Int)(r3:List BP):RN t6 18 (kr c d s9 r3) (lA c d s9 r3):=rnX
def qj(c d:BCU)(r3:List BP)(B1:BCU)(s10:Bool)(s11:Int)(k:KT):OLR:=match cY (dC c) (dC d)with|true=>(match decide (s11<((gF (dC c) r3).length:Int))with|true=>(match s10 with|true=>k 47 (cZ c d r3 B1 true (i64.wrap (s11+1)))|false=>(match aS (gF (dC c) r3) (i64.wrap (s11-1))with|some x1=>(match aS (gF (dC c) r3) s11 with|some x2=>(og (decide (okC 4000 B1∧okP 4000 x1∧okP 4000 x2)) (k 47 (cZ c d r3 B1 (decide ((c9 (dC B1) (dec x1) (dec x2))<0)) (i64.wrap (s11+1)))))|none=>none)|none=>none))|false=>some [RV.d (.sl tP) (gF (dC c) r3),RV.d .bool s10])|false=>some [RV.d (.sl tP) (gF (dC c) r3),RV.d .bool s10]
theorem ul(c d:BCU)(r3:List BP)(B1:BCU)(s10:Bool)(s11:Int):RN t6 47 (cZ c d r3 B1 s10 s11) (qj c d r3 B1 s10 s11):=rnX
theorem Sb{c:Cv}{S:List BP}{i:Nat}(h1:1≤i)(hi:i<S.length):Bh c (S.drop (i-1))=(decide (c9 c (dec S[i-1]) (dec S[i])<0)||Bh c (S.drop i)):=by
 have hd:S.drop (i-1)=S[i-1]::S.drop i:=by
  have:=amX (l:=S) (i:=i-1) (by omega);rw[this,show i-1+1=i by omega]
 have hd2:S.drop i=S[i]::S.drop (i+1):=amX hi;rw[hd,hd2];rfl
theorem TU{c:Cv}{S:List BP}(h:S.length≤1):Bh c S=false:=by
 match S,h with
 |[],_=>rfl
 |[_],_=>rfl
theorem aeI(c d:BCU)(r3 S:List BP)(hS:gF (dC c) r3=S)(hl:S.length≤1000000)(ho:∀x∈S,okP 4000 x)(B:BCU)(hB:okC 4000 B):∀(j i:Nat),1≤i→i+j=max S.length 1→∀s:Bool,
  t6.Runs 47 (cZ c d r3 B s (i:Int)) [.d (.sl tP) S,.d .bool (bif cY (dC c) (dC d)then s||Bh (dC B) (S.drop (i-1))else s)]:=by
 intro j;induction j with
 |zero=>
  intro i h1 hi s;refine ul _ _ _ _ _ _ ⟨0,?_⟩;unfold qj;rw[hS,ce (by omega),TU (by rw[ao0];omega),Bool.or_false];cases cY (dC c) (dC d)<;>rfl
 |succ j ih=>
  intro i h1 hi s;have hil:i<S.length:=by omega
  have e1:i64.wrap ((i:Int)-1)=((i-1:Nat):Int):=by rw[aT (by omega) (by omega)];omega
  have e2:i64.wrap ((i:Int)+1)=((i+1:Nat):Int):=b8 (by omega);have g1:aS S ((i-1:Nat):Int)=some S[i-1]:=by rw[av,amF (by omega)]
  have g2:aS S (i:Int)=some S[i]:=by rw[av,amF hil]
  cases hs:cY (dC c) (dC d)
  ·refine ul _ _ _ _ _ _ ⟨0,?_⟩;unfold qj;rw[hS,hs];rfl
  ·obtain⟨n,hn⟩:=ih (i+1) (by omega) (by omega) (s||decide (c9 (dC B) (dec S[i-1]) (dec S[i])<0));refine ul _ _ _ _ _ _ ⟨n,?_⟩;unfold qj;rw[hS,hs,bI hil,e1,e2,g1,g2];dsimp only;rw[dT (show okC 4000 B∧okP 4000 S[i-1]∧okP 4000 S[i] from⟨hB,ho _ (ane _),ho _ (ane _)⟩)];rw[hs,Nat.add_sub_cancel,Bool.or_assoc,←Sb h1 hil]at hn;cases s
   ·exact hn
   ·simp only[Bool.true_or,cond_true]at hn ⊢;exact hn
theorem HS{c:Cv}{l:List BP}{p:BP→Prop}(h:∀x∈l,p x):∀x∈gF c l,p x:=fun x hx=>by
 rcases wz hx with h'|h'
 ·cases h'
 ·exact h x h'
theorem I4(c d:BCU)(h:fy c d)(r3:List BP)(hl:r3.length≤100)(ho:∀x∈r3,okP 500 x):∃n,(match decide (xA c r3)with
  |true=>t6.k n 47 (cZ c d r3 (yY c d) false 1)
  |false=>none)=some [.d (.sl tP) (gF (dC c) r3),.d .bool (cY (dC c) (dC d)&&Bh (dC (yY c d)) (gF (dC c) r3))]:=by
 have hs:xA c r3:=⟨bU h.1.1 (by decide) (by decide),by omega,fun x hx=>cD (ho x hx) (by decide) (by decide)⟩
 have hR:okC 4000 (yY c d):=by
  unfold yY;have:=bU (k:=4000) h.2.1 (by decide) (by decide);cases SY c d
  ·exact this
  ·exact OU 4000 this
 have hlen:=wk (dC c) r3 [];obtain⟨n,hn⟩:=aeI c d r3 _ rfl (by simp at hlen;unfold gF;omega) (HS (fun x hx=>cD (ho x hx) (by decide) (by decide))) (yY c d) hR (max (gF (dC c) r3).length 1-1) 1 (amK _) (by omega) false;refine⟨n,?_⟩;rw[dT hs];refine hn.trans ?_;cases cY (dC c) (dC d)<;>rfl
theorem Cx{l c:Ln}[BdL l][BdC c](hl:l.1≠0∨l.2.1≠0):(rT l c).length≤2∧∀p∈rT l c,Bd p 490∧Rpd p:=by
 unfold rT;by_cases h0:jw l c<0
 ·rw[amE h0];exact⟨by simp,fun p hp=>by cases hp⟩
 ·rw[amG h0];by_cases h1:jw l c=0
  ·rw[amE h1];obtain⟨f1,f2,_,_⟩:=uS (l:=l) (c:=c);refine⟨by simp,fun p hp=>?_⟩;have:p=atP (ftX l c,ftY l c):=by simpa using hp
   rw[this];exact⟨(inferInstance:Bd (atP (ftX l c,ftY l c)) _).mono (by decide),inferInstance⟩
  ·rw[amG h1];obtain⟨p1,p2⟩:=NZ (c:=c) hl (show 0≤jw l c by grind);obtain⟨q1,q2⟩:=MS (l:=l) (c:=c);cases decide (aX (sJ l c) (sQ l c)>0)
   ·refine⟨by simp,fun p hp=>?_⟩;have:p=sJ l c∨p=sQ l c:=by simpa using hp
    rcases this with e|e<;>rw[e]
    ·exact⟨q1,p1⟩
    ·exact⟨q2,p2⟩
   ·refine⟨by simp,fun p hp=>?_⟩;have:p=sQ l c∨p=sJ l c:=by simpa using hp
    rcases this with e|e<;>rw[e]
    ·exact⟨q2,p2⟩
    ·exact⟨q1,p1⟩
theorem wA{l m:Ln}[BdL l][BdL m]:(qM l m).length≤2∧∀p∈qM l m,Bd p 490∧Rpd p:=by
 unfold qM;cases decide (fc l m=0)
 ·have bc:Bd (fc l m) 49:=inferInstanceAs (Bd (l.1*m.2.1-m.1*l.2.1) _);have bx:Bd (oI l m) 151:=inferInstanceAs (Bd (l.2.2*m.2.1-m.2.2*l.2.1) _);have b_:Bd (pC l m) 151:=inferInstanceAs (Bd (l.1*m.2.2-m.1*l.2.2) _);refine⟨by simp,fun p hp=>?_⟩;have:p=atP (oI l m/fc l m,pC l m/fc l m):=by simpa using hp
  rw[this];exact⟨(inferInstance:Bd (atP (oI l m/fc l m,pC l m/fc l m)) _).mono (by decide),inferInstance⟩
 ·exact⟨by simp,fun p hp=>by cases hp⟩
theorem T0{c d:BCU}(h:gO c d):(tg (dC c) (dC d)).length≤2∧∀p∈tg (dC c) (dC d),Bd p 490∧Rpd p:=by
 obtain⟨⟨a1,a2⟩,b1,b2⟩:=h;obtain⟨aa,al,ac,aw,af,at_⟩:=c;obtain⟨ba,bl,bc,bw,bf,bt⟩:=d
 have ex1:∀x:BO3,cU x→BdL (dec x)∧((dec x:Ln).1≠0∨(dec x:Ln).2.1≠0):=fun x h=>by
  obtain⟨l,rfl,bl,nl⟩:=eF h;rw[az];exact⟨bl,nl⟩
 have ex2:∀x:BO3,cp x→BdC (dec x):=fun x h=>by
  obtain⟨l,rfl,bl,nl⟩:=cE h;rw[az];exact bl
 unfold tg;cases aa<;>cases ba
 ·obtain⟨i1,_⟩:=ex1 _ (a2 rfl);obtain⟨i2,_⟩:=ex1 _ (b2 rfl);exact wA (l:=dec al) (m:=dec bl)
 ·obtain⟨i1,n1⟩:=ex1 _ (a2 rfl);have i2:=ex2 _ (b1 rfl);exact Cx (l:=dec al) (c:=dec bc) n1
 ·have i1:=ex2 _ (a1 rfl);obtain⟨i2,n2⟩:=ex1 _ (b2 rfl);exact Cx (l:=dec bl) (c:=dec ac) n2
 ·have i1:=ex2 _ (a1 rfl);have i2:=ex2 _ (b1 rfl);show(yR (dec ac) (dec bc)).length≤2∧∀p∈yR (dec ac) (dec bc),Bd p 490∧Rpd p;unfold yR;cases hc:iO (dec ac) (dec bc)
  ·have i3:BdL (ou (dec ac) (dec bc)):=w8;exact Cx (Bp hc)
  ·exact⟨by simp,fun p hp=>by cases hp⟩
theorem Ay{c d:BCU}(h:fy c d):(rW c d).length≤4∧∀x∈rW c d,okP 500 x:=by
 obtain⟨⟨h1,h2⟩,h3,h4⟩:=h;unfold rW;cases cY (dC c) (dC d)
 ·obtain⟨g1,g2⟩:=T0 (show gO c d from⟨h2,h4⟩);refine⟨by simp only[Bool.not_false,cond_true,aon];omega,fun x hx=>?_⟩;obtain⟨p,hp,rfl⟩:=anQ.1 hx;obtain⟨b,r⟩:=g2 p hp;exact amH (aI (j:=490) (by decide) (by decide))
 ·refine⟨by simp,fun x hx=>?_⟩;have:x=c.2.2.2.2.1∨x=c.2.2.2.2.2∨x=d.2.2.2.2.1∨x=d.2.2.2.2.2:=by simpa using hx
  rcases this with e|e|e|e<;>rw[e]
  ·exact h1.2.2.1
  ·exact h1.2.2.2
  ·exact h3.2.2.1
  ·exact h3.2.2.2
def mz(c d:BCU)(p:BP):Bool:=onR (dC c) (dec p)&&onR (dC d) (dec p)
theorem Gl(c d:BCU)(h:fy c d)(L:List BP)(hL:(tg (dC c) (dC d)).map enc=L)(h4:L.length≤4)(ho:∀x∈L,okP 500 x):∀(j i:Nat),i+j=L.length→∀r3:List BP,r3.length≤i→(∀x∈r3,okP 500 x)→
  t6.Runs 18 (qp c d (i:Int) r3) [.d (.sl tP) (gF (dC c) (r3++(L.drop i).filter (mz c d))),.d .bool (cY (dC c) (dC d)&&Bh (dC (yY c d)) (gF (dC c) (r3++(L.drop i).filter (mz c d))))]:=by
 intro j;induction j with
 |zero=>
  intro i hi r3 hr h3;obtain⟨n,hn⟩:=I4 c d h r3 (by omega) h3;refine uP _ _ _ _ ⟨n,?_⟩;have hd:L.drop i=[]:=List.drop_eq_nil_iff.2 (by omega);rw[hd,apl,am9,←hn];unfold qi;rw[hL,ce (by omega)];have hs:xA c r3:=⟨bU h.1.1 (by decide) (by decide),by omega,fun x hx=>cD (h3 x hx) (by decide) (by decide)⟩
  have o1:decide (okP 4000 c.2.2.2.2.1∧okP 4000 c.2.2.2.2.2)=true:=amE ⟨cD h.1.1.2.2.1 (by decide) (by decide),cD h.1.1.2.2.2 (by decide) (by decide)⟩;have o2:decide (okP 4000 d.2.2.2.2.1∧okP 4000 d.2.2.2.2.2)=true:=amE ⟨cD h.2.1.2.2.1 (by decide) (by decide),cD h.2.1.2.2.2 (by decide) (by decide)⟩;rw[dT hs,o1,o2];dsimp only;unfold yY SY bne;simp only[bK];cases c.1<;>cases d.1<;>cases(c.2.2.2.1==d.2.2.2.1)<;>cases(aX (dec c.2.2.2.2.1) (dec c.2.2.2.2.2)==aX (dec d.2.2.2.2.1) (dec d.2.2.2.2.2))<;>rfl
 |succ j ih=>
  intro i hi r3 hr h3;have hil:i<L.length:=by omega
  have e2:i64.wrap ((i:Int)+1)=((i+1:Nat):Int):=b8 (by omega);have g2:aS L (i:Int)=some L[i]:=by rw[av,amF hil]
  have g3:L[((i:Int)).toNat]?=some L[i]:=by rw[show((i:Int)).toNat=i by omega,amF hil]
  have hx:=ho _ (ane hil);have hd:L.drop i=L[i]::L.drop (i+1):=amX hil;have ox:=cD (k:=3500) hx (by decide) (by decide);have o1:decide (okC 3500 c∧okP 3500 L[i])=true:=amE ⟨bU h.1.1 (by decide) (by decide),ox⟩;have o2:decide (okC 3500 d∧okP 3500 L[i])=true:=amE ⟨bU h.2.1 (by decide) (by decide),ox⟩
  have hf:(L.drop i).filter (mz c d)=bif mz c d L[i]then L[i]::(L.drop (i+1)).filter (mz c d)else(L.drop (i+1)).filter (mz c d):=by
   rw[hd,aow];cases mz c d L[i]<;>rfl
  cases hb:mz c d L[i]
  ·rw[hb]at hf;obtain⟨n,hn⟩:=ih (i+1) (by omega) r3 (by omega) h3;refine uP _ _ _ _ ⟨n,?_⟩;rw[hf];dsimp only[cond_false];rw[←hn];unfold mz at hb;unfold qi;rw[hL,bI hil,g2,e2];dsimp only;try rw[g3]
   try dsimp only
   rw[o1,o2];cases h1:onR (dC c) (dec L[i])
   ·rfl
   ·rw[h1,anU]at hb;rw[hb]
  ·rw[hb]at hf
   obtain⟨n,hn⟩:=ih (i+1) (by omega) (r3++[L[i]]) (by simp;omega) (fun x hx'=>by
    rcases ano.1 hx' with h'|h'
    ·exact h3 x h'
    ·have:x=L[i]:=by simpa using h'
     rw[this];exact hx)
   refine uP _ _ _ _ ⟨n,?_⟩;rw[hf];dsimp only[cond_true];rw[am3]at hn;refine Eq.trans ?_ hn;unfold mz at hb;obtain⟨h1,h2⟩:=amP.1 hb;unfold qi;rw[hL,bI hil,g2,e2];dsimp only;try rw[g3]
   try dsimp only
   rw[o1,o2,h1,h2];dsimp only;rw[dT (by simp;omega)]
theorem B6(c d:BCU)(h:fy c d)(L:List BP)(hL:[c.2.2.2.2.1,c.2.2.2.2.2,d.2.2.2.2.1,d.2.2.2.2.2]=L)(h4:L.length≤4)(ho:∀x∈L,okP 500 x):∀(j i:Nat),i+j=L.length→∀r3:List BP,r3.length≤i→(∀x∈r3,okP 500 x)→
  t6.Runs 18 (kr c d (i:Int) r3) [.d (.sl tP) (gF (dC c) (r3++(L.drop i).filter (mz c d))),.d .bool (cY (dC c) (dC d)&&Bh (dC (yY c d)) (gF (dC c) (r3++(L.drop i).filter (mz c d))))]:=by
 intro j;induction j with
 |zero=>
  intro i hi r3 hr h3;obtain⟨n,hn⟩:=I4 c d h r3 (by omega) h3;refine pF _ _ _ _ ⟨n,?_⟩;have hd:L.drop i=[]:=List.drop_eq_nil_iff.2 (by omega);rw[hd,apl,am9,←hn];unfold lA;rw[hL,ce (by omega)];have hs:xA c r3:=⟨bU h.1.1 (by decide) (by decide),by omega,fun x hx=>cD (h3 x hx) (by decide) (by decide)⟩
  have o1:decide (okP 4000 c.2.2.2.2.1∧okP 4000 c.2.2.2.2.2)=true:=amE ⟨cD h.1.1.2.2.1 (by decide) (by decide),cD h.1.1.2.2.2 (by decide) (by decide)⟩;have o2:decide (okP 4000 d.2.2.2.2.1∧okP 4000 d.2.2.2.2.2)=true:=amE ⟨cD h.2.1.2.2.1 (by decide) (by decide),cD h.2.1.2.2.2 (by decide) (by decide)⟩;rw[dT hs,o1,o2];dsimp only;unfold yY SY bne;simp only[bK];cases c.1<;>cases d.1<;>cases(c.2.2.2.1==d.2.2.2.1)<;>cases(aX (dec c.2.2.2.2.1) (dec c.2.2.2.2.2)==aX (dec d.2.2.2.2.1) (dec d.2.2.2.2.2))<;>rfl
 |succ j ih=>
  intro i hi r3 hr h3;have hil:i<L.length:=by omega
  have e2:i64.wrap ((i:Int)+1)=((i+1:Nat):Int):=b8 (by omega);have g2:aS L (i:Int)=some L[i]:=by rw[av,amF hil]
  have g3:L[((i:Int)).toNat]?=some L[i]:=by rw[show((i:Int)).toNat=i by omega,amF hil]
  have hx:=ho _ (ane hil);have hd:L.drop i=L[i]::L.drop (i+1):=amX hil;have ox:=cD (k:=3500) hx (by decide) (by decide);have o1:decide (okC 3500 c∧okP 3500 L[i])=true:=amE ⟨bU h.1.1 (by decide) (by decide),ox⟩;have o2:decide (okC 3500 d∧okP 3500 L[i])=true:=amE ⟨bU h.2.1 (by decide) (by decide),ox⟩
  have hf:(L.drop i).filter (mz c d)=bif mz c d L[i]then L[i]::(L.drop (i+1)).filter (mz c d)else(L.drop (i+1)).filter (mz c d):=by
   rw[hd,aow];cases mz c d L[i]<;>rfl
  cases hb:mz c d L[i]
  ·rw[hb]at hf;obtain⟨n,hn⟩:=ih (i+1) (by omega) r3 (by omega) h3;refine pF _ _ _ _ ⟨n,?_⟩;rw[hf];dsimp only[cond_false];rw[←hn];unfold mz at hb;unfold lA;rw[hL,bI hil,g2,e2];dsimp only;try rw[g3]
   try dsimp only
   rw[o1,o2];cases h1:onR (dC c) (dec L[i])
   ·rfl
   ·rw[h1,anU]at hb;rw[hb]
  ·rw[hb]at hf
   obtain⟨n,hn⟩:=ih (i+1) (by omega) (r3++[L[i]]) (by simp;omega) (fun x hx'=>by
    rcases ano.1 hx' with h'|h'
    ·exact h3 x h'
    ·have:x=L[i]:=by simpa using h'
     rw[this];exact hx)
   refine pF _ _ _ _ ⟨n,?_⟩;rw[hf];dsimp only[cond_true];rw[am3]at hn;refine Eq.trans ?_ hn;unfold mz at hb;obtain⟨h1,h2⟩:=amP.1 hb;unfold lA;rw[hL,bI hil,g2,e2];dsimp only;try rw[g3]
   try dsimp only
   rw[o1,o2,h1,h2];dsimp only;rw[dT (by simp;omega)]
def WC:Cn 19 [tCU,tCU]:=cn fun(c d:BCU)=>lf (fy c d) [.d (.sl tP) (lc c d),.d .bool (Dk c d)] fun h=>by
 obtain⟨h4,ho⟩:=Ay h;have hsp:gO c d:=⟨h.1.2,h.2.2⟩
 refine c8 ZA (show t6.Res _ _ _ from ?_);unfold rW at h4 ho;unfold lc Dk lc JT rW;cases hs:cY (dC c) (dC d)
 ·rw[hs]at h4 ho;obtain⟨n,hn⟩:=Gl c d h _ rfl h4 ho _ 0 (ani _) [] (amK _) (fun x hx=>by cases hx);refine aad _ _ ⟨n,?_⟩;unfold LS;rw[dT hsp,hs];rw[hs]at hn;exact hn
 ·rw[hs]at h4 ho;obtain⟨n,hn⟩:=B6 c d h _ rfl h4 ho _ 0 (ani _) [] (amK _) (fun x hx=>by cases hx);refine aad _ _ ⟨n,?_⟩;unfold LS;rw[dT hsp,hs];rw[hs]at hn;exact hn
def i8P(n:Int):Prop:= -128≤n∧n≤127
instance (n:Int):Decidable (i8P n):=by unfold i8P;infer_instance
def u8P(n:Int):Prop:=0≤n∧n≤255
instance (n:Int):Decidable (u8P n):=by unfold u8P;infer_instance
def atQ(n u:Int):Rat:=Rat.divInt n (u%4+1)
def vz(c:BO3):List BCU:=[(true,o00,c,false,enc (ml (dec c)),enc (mg (dec c))),(true,o00,c,false,enc (mg (dec c)),enc (ml (dec c)))]
abbrev tDr:Ty:=.st (.pair (.int .u8) (.pair (.int .u8) (.pair (.int .i8) (.pair (.int .i8) (.pair (.int .i8) (.pair (.int .i8) (.pair (.int .i8) (.int .i8))))))))
abbrev xc:Ty:=.st (.pair tDr (.pair tDr (.int .u8)))
abbrev Dr:=Int×Int×Int×Int×Int×Int×Int×Int
abbrev Pce:=Dr×Dr×Int
def Cr(x:Dr):Prop:=u8P x.1∧u8P x.2.1∧i8P x.2.2.1∧i8P x.2.2.2.1∧i8P x.2.2.2.2.1∧i8P x.2.2.2.2.2.1∧i8P x.2.2.2.2.2.2.1∧i8P x.2.2.2.2.2.2.2
instance (x:Dr):Decidable (Cr x):=by unfold Cr;infer_instance
def drA(x:Dr):Rat×Rat:=(atQ x.2.2.1 x.2.1,atQ x.2.2.2.1 x.2.1)
def drB(x:Dr):Rat×Rat:=(atQ x.2.2.2.2.1 x.2.1,atQ x.2.2.2.2.2.1 x.2.1)
def drC(x:Dr):Rat×Rat:=(atQ x.2.2.2.2.2.2.1 x.2.1,atQ x.2.2.2.2.2.2.2 x.2.1)
def drQ(x:Dr):Ln:=((drA x).1,(drA x).2,(drB x).1)
def ofL(x:Dr):List BCU:=
 bif x.1%3==2 then(bif decide ((drB x).1≤0)then []else vz (enc (drQ x)))
 else bif x.1%3==1 then(bif arcE (drA x) (drB x) (drC x) !=0 then []else [me (drA x) (drB x) (drC x)])
 else bif oE (drA x) (drB x) !=0 then []else [jG (drA x) (drB x)]
theorem IA{u k:Int}(h:u8P u):Int.tmod u k=u%k:=Int.tmod_eq_emod_of_nonneg h.1
theorem wD{n u:Int}(h:i8P n)(_h':u8P u):Bb (atQ n u) 7 2:=by
 unfold atQ;obtain⟨h1,h2⟩:=h;exact U9 (by omega) (by show n.natAbs≤128;omega) (by show(u%4+1).natAbs≤4;omega)
theorem Con.dd{P:Program}{f:Nat}{args:List SV}{et:TypeId}{e:Ty}{xs:List e.D}{r:RV}(h:Con P f args [r])(hr:r=.new et e xs∨r=.d (.sl e) xs):Con P f args [.d (.sl e) xs]:=by
 rcases hr with rfl|rfl
 ·exact Con.new_d h
 ·exact h
def Hu:List En:=[enL BE,enL WE,enT iV,enL Li,enL MF]
def aaL(n u:Int)(_k:KT):OLR:=og (decide (yT (i64.wrap n) (i64.wrap ((i64.wrap (Int.tmod u 4))+1)))) (some [RV.d tR (hid (ak (Rat.divInt (i64.wrap n) (i64.wrap ((i64.wrap (Int.tmod u 4))+1)))))])
def ag4:Cn 53 [(.int .i8),(.int .u8)]:=cn fun(n u:Int)=>lf (i8P n∧u8P u) [.d tR (ak (atQ n u))] fun h=>by
 refine aA Hu (aaL n u) ⟨0,?_⟩;obtain⟨hn,hu⟩:=h;have e0:=IA (k:=4) hu;obtain⟨n1,n2⟩:=hn;unfold aaL;rw[e0,aT (x:=n) (by omega) (by omega),aT (x:=u%4) (by omega) (by omega),aT (x:=u%4+1) (by omega) (by omega),dT (show yT n (u%4+1) from⟨⟨by omega,by omega⟩,⟨by omega,by omega⟩,by omega⟩)];simp only[bK];rfl
def ag7:Ctx:=CX (ens Hu) []
def aaa(c:BO3)(_k:KT):OLR:=og (decide (cp c)) (some [RV.new 39 tCU ([(true,((((false,[]),(false,[])),(((false,[]),(false,[])),((false,[]),(false,[])))),(c,(false,(hid (enc (ml (dec c))),hid (enc (mg (dec c)))))))),(true,((((false,[]),(false,[])),(((false,[]),(false,[])),((false,[]),(false,[])))),(c,(false,(hid (enc (mg (dec c))),hid (enc (ml (dec c))))))))])])
theorem agk(c:BO3):RS ag7 37 [.d tO c] (aaa c):=rsX
def Zy:Cn 37 [tO]:=cn fun(c:BO3)=>lf (cp c) [.d (.sl tCU) (vz c)] fun h=>by
 refine Con.new_d (et:=39) (c8 Hu (agk _ ⟨0,?_⟩));unfold aaa;rw[dT h];simp only[bK];rfl
def X1:List En:=enL ag4::enL Zy::Hu
def Y1:Ctx:=CX (ens X1) []
def PI(x:Dr)(_k:KT):OLR:=og (decide (i8P x.2.2.1∧u8P x.2.1)) (og (decide (i8P x.2.2.2.1∧u8P x.2.1)) (og (decide (i8P x.2.2.2.2.1∧u8P x.2.1)) (og (decide (i8P x.2.2.2.2.2.1∧u8P x.2.1)) (match(Int.tmod x.1 3)==2 with|true=>(og (decide (i8P x.2.2.2.2.1∧u8P x.2.1)) (og (o1 (hid (ak (atQ x.2.2.2.2.1 x.2.1)))) (match decide ((aD (ag (hid (ak (atQ x.2.2.2.2.1 x.2.1)))) 0)≤0)with|true=>some [RV.new 39 tCU []]|false=>(og (decide (cp (hid (ak (atQ x.2.2.1 x.2.1)),(hid (ak (atQ x.2.2.2.1 x.2.1)),hid (ak (atQ x.2.2.2.2.1 x.2.1)))))) (some [RV.d (.sl tCU) (vz (hid (ak (atQ x.2.2.1 x.2.1)),(hid (ak (atQ x.2.2.2.1 x.2.1)),hid (ak (atQ x.2.2.2.2.1 x.2.1)))))])))))|false=>(og (decide (ok (Rat×Rat) 100 (hid (ak (atQ x.2.2.1 x.2.1)),hid (ak (atQ x.2.2.2.1 x.2.1)))∧ok (Rat×Rat) 100 (hid (ak (atQ x.2.2.2.2.1 x.2.1)),hid (ak (atQ x.2.2.2.2.2.1 x.2.1))))) (match(Int.tmod x.1 3)==1 with|true=>(og (decide (i8P x.2.2.2.2.2.2.1∧u8P x.2.1)) (og (decide (i8P x.2.2.2.2.2.2.2∧u8P x.2.1)) (og (decide (ok (Rat×Rat) 100 (hid (ak (atQ x.2.2.1 x.2.1)),hid (ak (atQ x.2.2.2.1 x.2.1)))∧ok (Rat×Rat) 100 (hid (ak (atQ x.2.2.2.2.1 x.2.1)),hid (ak (atQ x.2.2.2.2.2.1 x.2.1)))∧ok (Rat×Rat) 100 (hid (ak (atQ x.2.2.2.2.2.2.1 x.2.1)),hid (ak (atQ x.2.2.2.2.2.2.2 x.2.1))))) (match(arcE (dec (hid (ak (atQ x.2.2.1 x.2.1)),hid (ak (atQ x.2.2.2.1 x.2.1)))) (dec (hid (ak (atQ x.2.2.2.2.1 x.2.1)),hid (ak (atQ x.2.2.2.2.2.1 x.2.1)))) (dec (hid (ak (atQ x.2.2.2.2.2.2.1 x.2.1)),hid (ak (atQ x.2.2.2.2.2.2.2 x.2.1))))) !=0 with|true=>some [RV.new 39 tCU []]|false=>some [RV.new 39 tCU ([hid (me (dec (hid (ak (atQ x.2.2.1 x.2.1)),hid (ak (atQ x.2.2.2.1 x.2.1)))) (dec (hid (ak (atQ x.2.2.2.2.1 x.2.1)),hid (ak (atQ x.2.2.2.2.2.1 x.2.1)))) (dec (hid (ak (atQ x.2.2.2.2.2.2.1 x.2.1)),hid (ak (atQ x.2.2.2.2.2.2.2 x.2.1)))))])]))))|false=>(match(oE (dec (hid (ak (atQ x.2.2.1 x.2.1)),hid (ak (atQ x.2.2.2.1 x.2.1)))) (dec (hid (ak (atQ x.2.2.2.2.1 x.2.1)),hid (ak (atQ x.2.2.2.2.2.1 x.2.1))))) !=0 with|true=>some [RV.new 39 tCU []]|false=>some [RV.new 39 tCU ([hid (jG (dec (hid (ak (atQ x.2.2.1 x.2.1)),hid (ak (atQ x.2.2.2.1 x.2.1)))) (dec (hid (ak (atQ x.2.2.2.2.1 x.2.1)),hid (ak (atQ x.2.2.2.2.2.1 x.2.1)))))])])))))))
theorem ag6(x:Dr):RS Y1 18 [.d tDr x] (PI x):=rsX
def aiJ:Cn 18 [tDr]:=cn fun(x:Dr)=>lf (Cr x) [.d (.sl tCU) (ofL x)] fun h=>by
 obtain⟨h1,h2,hA,hB,hC,hD,hE,hF⟩:=h;have at_bd:∀n,i8P n→Bd (atQ n x.2.1) 1:=fun n hn=>Dg (h:=wD hn h2) (by decide) (by decide);have bA:=at_bd _ hA;have bB:=at_bd _ hB;have bC:=at_bd _ hC;have bD:=at_bd _ hD;have bE:=at_bd _ hE;have bF:=at_bd _ hF;have vA:Bd (drA x) 1:=inferInstanceAs (Bd (atQ x.2.2.1 x.2.1,atQ x.2.2.2.1 x.2.1) _);have vB:Bd (drB x) 1:=inferInstanceAs (Bd (atQ x.2.2.2.2.1 x.2.1,atQ x.2.2.2.2.2.1 x.2.1) _);have vC:Bd (drC x) 1:=inferInstanceAs (Bd (atQ x.2.2.2.2.2.2.1 x.2.1,atQ x.2.2.2.2.2.2.2 x.2.1) _);have eA:((ak (atQ x.2.2.1 x.2.1),ak (atQ x.2.2.2.1 x.2.1)):BV)=enc (drA x):=rfl;have eB:((ak (atQ x.2.2.2.2.1 x.2.1),ak (atQ x.2.2.2.2.2.1 x.2.1)):BV)=enc (drB x):=rfl;have eC:((ak (atQ x.2.2.2.2.2.2.1 x.2.1),ak (atQ x.2.2.2.2.2.2.2 x.2.1)):BV)=enc (drC x):=rfl;have eQ:((ak (atQ x.2.2.1 x.2.1),ak (atQ x.2.2.2.1 x.2.1),ak (atQ x.2.2.2.2.1 x.2.1)):BO3)=enc (drQ x):=rfl;have tm:=IA (k:=3) h1;have run:∀r:RV,PI x (Y1.k 0)=some [r]→(r=.new 39 tCU (ofL x)∨r=.d (.sl tCU) (ofL x))→CQ 18 [.d tDr x] [.d (.sl tCU) (ofL x)]:=fun r e g=>Con.dd (c8 X1 (ag6 _ ⟨0,e⟩)) g;unfold PI at run;unfold ofL at run ⊢;simp only[aO,Nat.reduceLeDiff,tm,eQ,eA,eB,eC,dT (show i8P _∧u8P _ from⟨hA,h2⟩),dT (show i8P _∧u8P _ from⟨hB,h2⟩),dT (show i8P _∧u8P _ from⟨hC,h2⟩),dT (show i8P _∧u8P _ from⟨hD,h2⟩),dT (show i8P _∧u8P _ from⟨hE,h2⟩),dT (show i8P _∧u8P _ from⟨hF,h2⟩)]at run;cases h3:x.1%3==2
 ·simp only[h3,cond_false]at run ⊢;cases h4:x.1%3==1
  ·simp only[h4,cond_false]at run ⊢;cases h5:oE (drA x) (drB x) !=0
   ·simp only[h5,cond_false]at run ⊢;exact run _ rfl (.inl rfl)
   ·simp only[h5,cond_true]at run ⊢;exact run _ rfl (.inl rfl)
  ·simp only[h4,cond_true]at run ⊢;cases h5:arcE (drA x) (drB x) (drC x) !=0
   ·simp only[h5,cond_false]at run ⊢;exact run _ rfl (.inl rfl)
   ·simp only[h5,cond_true]at run ⊢;exact run _ rfl (.inl rfl)
 ·simp only[h3,cond_true]at run ⊢;have e1:(drB x).1=atQ x.2.2.2.2.1 x.2.1:=rfl;by_cases h5:(drB x).1≤0
  ·rw[amE h5]at run ⊢;refine run _ ?_ (.inl rfl);rw[wE,←e1,amE h5];rfl
  ·rw[amG h5]at run ⊢;have ok:cp (enc (drQ x)):=gQ (h:=⟨bA.mono (by decide),bB.mono (by decide),bC.mono (by decide)⟩) (show 0<(drB x).1 by grind);refine run _ ?_ (.inr rfl);rw[wE,←e1,amG h5];simp only[amE ok];rfl
def vcR(x y:Int):Rat×Rat:=((x:Rat),(y:Rat))
instance ah0:Bd (-1:Rat) 3:=bS (n:= -1) (by decide)
theorem By{v:Rat×Rat}{j k:Nat}[h:Bd v j](hj:mx j (mx 1 (mx j (mx 1 1)))≤k)(hk:k≤480000):okP k (enc (atP v)):=amH (aI (x:=atP v) hj hk)
section
namespace RE
theorem cmpP_0{p q:Pt}[Rpd p][Rpd q]:aX p q=0↔pR p=pR q:=by
 rw[jm];obtain⟨h1,h2,h3⟩:=ie (pR p) (pR q);rcases jR.tri (pR p) (pR q)with h|h|h
 ·rw[h1 h];exact⟨fun e=>absurd e (by decide),fun e=>absurd h (by rw[e];exact jR.irr _)⟩
 ·exact⟨fun _=>h,fun _=>h2 h⟩
 ·rw[h3 h];exact⟨fun e=>absurd e (by decide),fun e=>absurd h (by rw[e];exact jR.irr _)⟩
theorem oD(v:Rat×Rat):pR (atP v)=(of v.1,of v.2):=aoE (aj5 v) (af8 v)
theorem QV{ax bx c:Rat}(h:fA c=true):of (ax+bx*rtQ c)=v2 ax bx c:=by
 unfold v2;rw[of_add,aJ,QH h]
theorem uL(ax bx ay b_ c:Rat):pR (ot ax bx ay b_ c)=(v2 ax bx c,v2 ay b_ c):=by
 unfold ot;cases h:fA c
 ·rfl
 ·exact(oD _).trans (aoE (QV h) (QV h))
theorem acu(a b r:RE):(a+ -1*r-a)*(a+ -1*r-a)+(b+0*r-b)*(b+0*r-b)=r*r:=by grind
theorem Uy(a b r:RE):(a+1*r-a)*(a+1*r-a)+(b+0*r-b)*(b+0*r-b)=r*r:=by grind
theorem Up(a r:RE)(h1:a+ -1*r=a+1*r):r≤0:=by grind
theorem UF(a r:RE)(h1:a+ -1*r=a+1*r):0≤r:=by grind
theorem abc(a r:RE)(h1:a+ -1*r=a+1*r):r=0:=le_antisymm (Up a r h1) (UF a r h1)
theorem ad0{c:Ln}(h:0<c.2.2):iM c (pR (ml c))∧iM c (pR (mg c)):=by
 have hr:=cQ (show 0≤c.2.2 by grind);unfold ml mg;rw[uL,uL];exact⟨(acu _ _ _).trans hr,(Uy _ _ _).trans hr⟩
theorem VJ{c:Ln}(h:0<c.2.2):pR (ml c)≠pR (mg c):=by
 unfold ml mg;rw[uL,uL];intro e;have e1:=abc _ _ (congrArg Prod.fst e);have hr:=cQ (show 0≤c.2.2 by grind);rw[e1,mul_zero]at hr;have:=xU hr;grind
theorem Oi{l:Ln}{v:Rat×Rat}(h:l.1*v.1+l.2.1*v.2=l.2.2):(sO l (atP v)==0)=true:=by
 rw[AD,oD];exact congrArg of h
theorem PJ{c:Ln}{v:Rat×Rat}(h:(v.1-c.1)*(v.1-c.1)+(v.2-c.2.1)*(v.2-c.2.1)=c.2.2):(oz c (atP v)==0)=true:=by
 rw[sL,oD];unfold iM frm;dsimp only;rw[←of_sub,←of_sub];exact congrArg of h
theorem Xb{v w:Rat×Rat}(h:v≠w):aX (atP v) (atP w)≠0:=fun e=>h (by
 have:=cmpP_0.1 e;rw[oD,oD]at this;exact aoE (xU (congrArg Prod.fst this)) (xU (congrArg Prod.snd this)))
end RE
open RE
def gdN(c:BCU):Prop:=mG c∧gi (dC c) (frC (dC c))=true∧gi (dC c) (toC (dC c))=true∧aX (frC (dC c)) (toC (dC c))≠0
theorem gdN.gd{c:BCU}(h:gdN c):gdC c:=⟨h.1.1,h.2.1,h.2.2.1⟩
theorem AX{a b:Rat×Rat}[ba:Bd a 1][bb:Bd b 1](h:yN a b=false):gdN (jG a b):=by
 have hz:(sI a b).1≠0∨(sI a b).2.1≠0:=by
  unfold yN at h;by_cases e:a.2-b.2=0
  ·rw[amE e,anU]at h;exact .inr (anw h)
  ·exact .inl e
 have hne:a≠b:=fun e=>by
  subst e;unfold sI at hz;rcases hz with h|h<;>exact h (by show _-_=(0:Rat);grind)
 have b1:Bd (sI a b).1 12:=(inferInstance:Bd (a.2-b.2) _).mono (by decide);have b2:Bd (sI a b).2.1 12:=(inferInstance:Bd (b.1-a.1) _).mono (by decide);have b3:Bd (sI a b).2.2 63:=(inferInstance:Bd ((a.2-b.2)*a.1+(b.1-a.1)*a.2) _).mono (by decide);have hl:=mn (h:=⟨b1,b2,b3⟩) hz;have hL:Wp (enc (sI a b)):=⟨amH (okd (x:=sI a b) (by decide) (by decide)),by rw[az];exact hz⟩
 unfold jG;rw[h];refine⟨⟨⟨fun e=>(by cases e),fun _=>hL,By (by decide) (by decide),By (by decide) (by decide)⟩,fun e=>(by cases e),fun _=>hl⟩,?_⟩;simp only[dC,gi,frC,toC,lnC,az,cond_false];exact⟨Oi (by unfold sI;grind),Oi (by unfold sI;grind),Xb hne⟩
theorem wZ{c:Ln}[bc:BdC c](h:0<c.2.2):∀d∈vz (enc c),gdN d:=by
 have hs:=gQ h;have bx:=bc.x;have b_:=bc.y;have bq:=bc.q;have b0:Bd (0:Rat) 3:=bS (n:=0) (by decide);have b1:Bd (1:Rat) 3:=bS (n:=1) (by decide);have hC:nE (enc c):=⟨amH (okd (h:=Sr (c:=c)) (by decide) (by decide)),by rw[az];exact h⟩
 have q0:(0:Rat)≤c.2.2:=by grind
 have pl:Rpd (ml c):=AQ (fun e=>absurd e.1 (by decide)) q0;have pr:Rpd (mg c):=AQ (fun e=>absurd e.1 (by decide)) q0;have bl:Bd (ml c) 490:=Cg (bx.mono (by decide:4≤4)) (ah0.mono (by decide:3≤3)) b_ b0 bq (by decide);have br:Bd (mg c) 490:=Cg (bx.mono (by decide:4≤4)) b1 b_ b0 bq (by decide);have ol:okP 500 (enc (ml c)):=amH (aI (by decide) (by decide));have or_:okP 500 (enc (mg c)):=amH (aI (by decide) (by decide));obtain⟨nl,nr_⟩:=ad0 h;have nl:=sL.2 nl;have nr_:=sL.2 nr_;have ne:=VJ h;intro d hd
 have:d=(true,o00,enc c,false,enc (ml c),enc (mg c))∨d=(true,o00,enc c,false,enc (mg c),enc (ml c)):=by
  unfold vz at hd;rw[az]at hd;simpa using hd
 rcases this with e|e<;>rw[e]
 ·refine⟨⟨⟨fun _=>hC,fun e=>(by cases e),ol,or_⟩,fun _=>hs,fun e=>(by cases e)⟩,?_⟩;simp only[dC,gi,frC,toC,ciC,az,cond_true];exact⟨nl,nr_,fun e=>ne (cmpP_0.1 e)⟩
 ·refine⟨⟨⟨fun _=>hC,fun e=>(by cases e),or_,ol⟩,fun _=>hs,fun e=>(by cases e)⟩,?_⟩;simp only[dC,gi,frC,toC,ciC,az,cond_true];exact⟨nr_,nl,fun e=>ne (cmpP_0.1 e).symm⟩
theorem aek{a b c:Rat×Rat}(h:eV a b c≠0):(c.1-(qG a b c).1)*(c.1-(qG a b c).1)+(c.2-(qG a b c).2.1)*(c.2-(qG a b c).2.1)=(qG a b c).2.2:=by
 have h2:eV a b c+eV a b c≠0:=by grind
 have eX:wO a b c*(eV a b c+eV a b c)=_:=anf h2;have eY:xy a b c*(eV a b c+eV a b c)=_:=anf h2;unfold qG;dsimp only;generalize wO a b c=X at*;generalize xy a b c=Y at*
 have k:eV a b c*(2*((c.1-a.1)*X+(c.2-a.2)*Y)-((c.1-a.1)*(c.1-a.1)+(c.2-a.2)*(c.2-a.2)))=0:=by
  unfold eV at*;grind
 rcases apk.1 k with g|g
 ·exact absurd g h
 ·grind
theorem ahD{a b c:Rat×Rat}(h:eV a b c≠0)(e:a=c):False:=by
 subst e;refine h ?_;unfold eV;grind
theorem abj{a b c:Rat×Rat}[a1:Bb a.1 7 2][a2:Bb a.2 7 2][b1:Bb b.1 7 2][b2:Bb b.2 7 2][c1:Bb c.1 7 2][c2:Bb c.2 7 2]:BdC (qG a b c):=by
 have d:Bb ((b.1-a.1)*(c.2-a.2)-(b.2-a.2)*(c.1-a.1)) _ _:=inferInstance;have d:Bb (eV a b c) _ _:=d;have X:Bb ((((b.1-a.1)*(b.1-a.1)+(b.2-a.2)*(b.2-a.2))*(c.2-a.2)-((c.1-a.1)*(c.1-a.1)+(c.2-a.2)*(c.2-a.2))*(b.2-a.2))/(eV a b c+eV a b c)) _ _:=inferInstance;have X:Bb (wO a b c) _ _:=X;have Y:Bb ((((c.1-a.1)*(c.1-a.1)+(c.2-a.2)*(c.2-a.2))*(b.1-a.1)-((b.1-a.1)*(b.1-a.1)+(b.2-a.2)*(b.2-a.2))*(c.1-a.1))/(eV a b c+eV a b c)) _ _:=inferInstance;have Y:Bb (xy a b c) _ _:=Y;have x1:Bb (a.1+wO a b c) _ _:=inferInstance;have x2:Bb (a.2+xy a b c) _ _:=inferInstance;have x3:Bb (wO a b c*wO a b c+xy a b c*xy a b c) _ _:=inferInstance;exact⟨Dg (h:=x1) (by decide) (by decide),Dg (h:=x2) (by decide) (by decide),Dg (h:=x3) (by decide) (by decide)⟩
theorem zB{x y:Rat}(h:¬(x=0∧y=0)):0<x*x+y*y:=by
 have nn:∀a:Rat,0≤a*a:=fun a=>by
  rcases(by grind:0≤a∨0≤ -a)with h|h
  ·exact amU h h
  ·have:=amU h h;grind
 have h1:=nn x;have h2:=nn y;rcases(by grind:0<x*x+y*y∨(x*x=0∧y*y=0))with g|⟨g1,g2⟩
 ·exact g
 ·exact absurd ⟨by simpa using apk.1 g1,by simpa using apk.1 g2⟩ h
theorem Fx{a b c:Rat×Rat}[Bd a 1][Bd c 1][bc:BdC (qG a b c)](h:eV a b c≠0):gdN (me a b c):=by
 have hon:=aek h;have hne:a≠c:=fun e=>ahD h e
 have hq:0<(qG a b c).2.2:=by
  refine zB fun⟨e1,e2⟩=>hne ?_;unfold qG at hon;dsimp only at hon;rw[e1,e2]at hon;by_cases g:c.1-(a.1+0)=0∧c.2-(a.2+0)=0
  ·obtain⟨g1,g2⟩:=g;exact aoE (by grind) (by grind)
  ·have:=zB g;grind
 have hs:=gQ (h:=bc) hq;have bx:=bc.x;have b_:=bc.y;have bq:=bc.q;have hC:nE (enc (qG a b c)):=⟨amH (okd (h:=Sr (c:=qG a b c)) (by decide) (by decide)),by rw[az];exact hq⟩
 unfold me;rw[amG h];refine⟨⟨⟨fun _=>hC,fun e=>(by cases e),By (by decide) (by decide),By (by decide) (by decide)⟩,fun _=>hs,fun e=>(by cases e)⟩,?_⟩;simp only[dC,gi,frC,toC,ciC,az,cond_true,cond_false];refine⟨PJ ?_,PJ hon,Xb hne⟩;unfold qG;grind
theorem EH{x:Dr}(h:Cr x):∀c∈ofL x,gdN c:=by
 obtain⟨h1,h2,hA,hB,hC,hD,hE,hF⟩:=h;have a1:Bb (drA x).1 7 2:=wD hA h2;have a2:Bb (drA x).2 7 2:=wD hB h2;have b1:Bb (drB x).1 7 2:=wD hC h2;have b2:Bb (drB x).2 7 2:=wD hD h2;have c1:Bb (drC x).1 7 2:=wD hE h2;have c2:Bb (drC x).2 7 2:=wD hF h2;have l:∀{q:Rat},Bb q 7 2→Bd q 1:=fun h=>Dg (h:=h) (by decide) (by decide)
 have m:∀v:Rat×Rat,Bb v.1 7 2→Bb v.2 7 2→Bd v 1:=fun v g g'=>by
  have:=l g;have:=l g';exact inferInstanceAs (Bd (v.1,v.2) _)
 have vA:=m _ a1 a2;have vB:=m _ b1 b2;have vC:=m _ c1 c2;intro c hc;unfold ofL at hc;cases h3:x.1%3==2
 ·rw[h3,cond_false]at hc;cases h4:x.1%3==1
  ·rw[h4,cond_false]at hc;cases h5:yN (drA x) (drB x)
   ·have:oE (drA x) (drB x)=0:=by unfold oE;rw[h5];rfl
    rw[this]at hc;have:c=jG (drA x) (drB x):=by simpa using hc
    rw[this];exact AX h5
   ·have:oE (drA x) (drB x)=6:=by unfold oE;rw[h5];rfl
    rw[this]at hc;cases hc
  ·rw[h4,cond_true]at hc;by_cases h5:eV (drA x) (drB x) (drC x)=0
   ·have:arcE (drA x) (drB x) (drC x)=6:=by unfold arcE;rw[amE h5];rfl
    rw[this]at hc;cases hc
   ·have:arcE (drA x) (drB x) (drC x)=0:=by unfold arcE;rw[amG h5];rfl
    rw[this]at hc;have:c=me (drA x) (drB x) (drC x):=by simpa using hc
    rw[this];have:=abj (a:=drA x) (b:=drB x) (c:=drC x);exact Fx h5
 ·rw[h3,cond_true]at hc;by_cases h5:(drB x).1≤0
  ·rw[amE h5]at hc;cases hc
  ·rw[amG h5]at hc;have bq:BdC (drQ x):=⟨(l a1).mono (by decide),(l a2).mono (by decide),(l b1).mono (by decide)⟩
   exact wZ (c:=drQ x) (show 0<(drB x).1 by grind) c hc
end
namespace RE
theorem adI{a b:Rt}[ha:Rdd a][hb:Rdd b]:vR (rg a b)=mnE (vR a) (vR b):=by
 unfold rg mnE;rw[cmpT_re hb.nn ha.nn];by_cases h:vR b<vR a
 ·rw[am7 h,amE (by rw[ju (sZ _ _ h)];decide)];rfl
 ·rw[am0 h,amG (by
   intro g;exact h (acS (by rw[←Jd];exact jN (AR.1 g))))]
  rfl
theorem L8(a b:RE):mnE a b=mnE b a:=by
 unfold mnE;rcases mW a b with h|h|h
 ·rw[am0 (fun g=>lt_irrefl _ (cO h g)),am7 h]
 ·rw[h]
 ·rw[am7 h,am0 (fun g=>lt_irrefl _ (cO h g))]
def vE(v:Rat×Rat):PE:=(of v.1,of v.2)
theorem vR_sq{p:Pt}[Rpd p](v:Rat×Rat):vR (sqP p v)=dsE (pR p) (vE v):=Bk
theorem QL{c:Cv}(hf:Rpd (frC c))(ht:Rpd (toC c))(v:Rat×Rat):vR (yV c v)=mnE (dsE (pR (frC c)) (vE v)) (dsE (pR (toC c)) (vE v)):=by
 unfold yV;rw[adI,vR_sq,vR_sq]
theorem CJ{c:Cv}[hf:Rpd (frC c)][ht:Rpd (toC c)]{p:Pt}[hp:Rpd p]:ti c p=true↔btE (tE (lnC c) (pR (frC c))) (tE (lnC c) (pR (toC c))) (tE (lnC c) (pR p)):=by
 unfold ti;rw[tj,tj,tj,tj,tj];exact Cj _ _ _
theorem acE(l:Ln)(v:Rat×Rat):exE l (vE v)=of (l.1*v.1+l.2.1*v.2-l.2.2):=by
 rw[of_sub];rfl
theorem Su{l:Ln}(hl:l.1≠0∨l.2.1≠0)(v:Rat×Rat):aY (bi v (dp l v)) (bi v (dp l v))=(l.1*v.1+l.2.1*v.2-l.2.2)*(l.1*v.1+l.2.1*v.2-l.2.2)*(1/(l.1*l.1+l.2.1*l.2.1)):=by
 have hn:=lI hl;have h1:1/(l.1*l.1+l.2.1*l.2.1)*(l.1*l.1+l.2.1*l.2.1)=1:=anf hn
 have h2:mZ l v=(l.1*v.1+l.2.1*v.2-l.2.2)*(1/(l.1*l.1+l.2.1*l.2.1)):=by
  unfold mZ;rw[aph,aph,Rat.one_mul]
 unfold aY bi dp;rw[h2];generalize 1/(l.1*l.1+l.2.1*l.2.1)=k at*;generalize l.1*v.1+l.2.1*v.2-l.2.2=e at*;dsimp only;grind
theorem Uo(x y a b v w:RE):(x-v)*(x-v)+(y-w)*(y-w)=(x-a)*(x-a)+(y-b)*(y-b)+((v-a)*(v-a)+(w-b)*(w-b))-(((x-a)*(v-a)+(y-b)*(w-b))+((x-a)*(v-a)+(y-b)*(w-b))):=by grind
theorem S6(a b c d r:RE):a*(d*r)-b*(c*r)=r*(a*d-b*c):=by grind
theorem SX(a b c d r:RE):c*r*b-d*r*a=r*(c*b-d*a):=by grind
theorem ah2(a b r:RE):a*r*a+b*r*b=r*(a*a+b*b):=by grind
theorem ajY(a b:RE):a+b-a=b:=by grind
theorem WM(q s t u:RE)(h1:s≤t):q+u-(t+t)≤q+u-(s+s):=by grind
theorem akL(r d:RE):r*d*(r*d)=r*r*d*d:=by grind
theorem Mf(c t m:RE)(h1:c*c+t*t=m):t*t≤m:=by have:=gh (c);grind
theorem ajj(t s:RE)(h1:t≤0)(h2:0≤s):t≤s:=by grind
theorem acm(a b r:RE):a*r*(a*r)+b*r*(b*r)=(a*a+b*b)*(r*r):=by grind
theorem aiA(a s:RE):a+ -2*s=a-(s+s):=by grind
theorem yD{c:Ln}{p:PE}(h:iM c p)(v:PE):dsE p v=of c.2.2+dtE (frm c v) (frm c v)-(dtE (frm c p) (frm c v)+dtE (frm c p) (frm c v)):=by
 have h':(p.1-of c.1)*(p.1-of c.1)+(p.2-of c.2.1)*(p.2-of c.2.1)=of c.2.2:=h;unfold dsE dtE frm;dsimp only;rw[Uo _ _ (of c.1) (of c.2.1),h']
theorem R5{c:Ln}{p q:PE}(hp:iM c p)(hq:iM c q){v:PE}(h:dtE (frm c p) (frm c v)≤dtE (frm c q) (frm c v)):dsE q v≤dsE p v:=by
 rw[yD hp,yD hq];exact WM _ _ _ _ h
theorem oC(u w:PE):n4 u w u=true∧n4 u w w=true:=by
 have z:∀x:PE,crs x x=0:=fun x=>by unfold crs;rw[mul_comm,sub_self]
 rcases lt_or_ge (crs u w) 0 with h|h
 ·exact⟨(Og h).2 (fun g=>by rw[z u]at g;exact lt_irrefl _ g.2),(Og h).2 (fun g=>by rw[z w]at g;exact lt_irrefl _ g.1)⟩
 ·exact⟨(P5 h).2 ⟨by rw[z u];exact le_refl _,h⟩,(P5 h).2 ⟨h,by rw[z w];exact le_refl _⟩⟩
theorem zL(u w d:PE){r:RE}(hr:0<r):n4 u w (d.1*r,d.2*r)=n4 u w d:=by
 have h1:crs u (d.1*r,d.2*r)=r*crs u d:=S6 _ _ _ _ _;have h2:crs (d.1*r,d.2*r) w=r*crs d w:=SX _ _ _ _ _;unfold n4;rw[h1,h2,dQ,dQ,dM hr,anW,anW]
theorem Mq{q:Pt}:pX (rdP q)=pX q∧pY (rdP q)=pY q:=by
 unfold rdP pX pY;by_cases h1:q.2.1=0
 ·by_cases h2:q.2.2.2.1=0
  ·rw[amE h1,amE h2];dsimp only;rw[h1,h2,dv,dv,dv,dv];exact⟨rfl,rfl⟩
  ·rw[amG h2,apK];exact⟨rfl,rfl⟩
 ·rw[amG h1,apM];exact⟨rfl,rfl⟩
theorem Zd{x y:Rt}(h:sW x y):pR (mkP x y)=(vR x,vR y):=by
 unfold mkP;refine aoE (Mq.1.trans ?_) (Mq.2.trans ?_)
 ·unfold pX vR;dsimp only;by_cases e:x.2.1=0
  ·rw[e,dv,dv]
  ·rw[amG e];rfl
 ·unfold pY vR;dsimp only;by_cases e:x.2.1=0
  ·rw[amE e];rfl
  ·rw[amG e];rcases h with h|h|h
   ·exact absurd h e
   ·rw[h,dv,dv]
   ·rw[cond_false,h]
theorem AK(c:Ln)(d:Rat×Rat):frm c (pR (jO c d))=(of d.1*rq (c.2.2/aY d d),of d.2*rq (c.2.2/aY d d)):=by
 unfold jO;rw[Zd (nJ _ _ _ _ _),vR_mk,vR_mk];unfold frm v2;exact aoE (ajY _ _) (ajY _ _)
theorem aaJ(c:Ln)(v:Rat×Rat):frm c (vE v)=vE (bi (ctr c) v):=by
 unfold frm vE bi ctr;dsimp only;rw[of_sub,of_sub]
theorem ZE(d:Rat×Rat):dtE (vE d) (vE d)=of (aY d d):=rfl
theorem HN{m:Rat}(h:0<m):0<rq m:=by
 have:=Od (m:=m) (by grind);rw[dk h]at this;exact Gz.1 this
theorem yq(c:Cv):(ccF c=frC c∧ccT c=toC c)∨(ccF c=toC c∧ccT c=frC c):=by
 unfold ccF ccT;cases cwC c
 ·exact .inl ⟨rfl,rfl⟩
 ·exact .inr ⟨rfl,rfl⟩
theorem alM{c:Cv}(hq:0<(ciC c).2.2){v:Rat×Rat}(hz:zeV (bW c v)=false)(on:iM (ciC c) (pR (jO (ciC c) (bW c v)))):dsE (pR (jO (ciC c) (bW c v))) (vE v)=of (aY (bW c v) (bW c v)+(ciC c).2.2)-(rq (aY (bW c v) (bW c v)*(ciC c).2.2)+rq (aY (bW c v) (bW c v)*(ciC c).2.2)):=by
 have hq0:(0:Rat)≤(ciC c).2.2:=by grind
 have d0:=jT (bW c v);have m0:0≤aY (bW c v) (bW c v)*(ciC c).2.2:=amU d0 hq0;have hs:=cQ m0;have hs0:=eO (aY (bW c v) (bW c v)*(ciC c).2.2);have hD:frm (ciC c) (vE v)=vE (bW c v):=aaJ _ _;have n0:=Gh hq0 d0;have rr:=cQ n0;have r0:=eO ((ciC c).2.2/aY (bW c v) (bW c v))
 have hdt:dtE (frm (ciC c) (pR (jO (ciC c) (bW c v)))) (frm (ciC c) (vE v))=rq (aY (bW c v) (bW c v)*(ciC c).2.2):=by
  rw[hD,AK];have e1:dtE (of (bW c v).1*rq ((ciC c).2.2/aY (bW c v) (bW c v)),of (bW c v).2*rq ((ciC c).2.2/aY (bW c v) (bW c v))) (vE (bW c v))=rq ((ciC c).2.2/aY (bW c v) (bW c v))*of (aY (bW c v) (bW c v)):=ah2 _ _ _;rw[e1];refine D1 _ _ (bg r0 (fu.2 d0)) hs0 ?_;rw[hs,akL,rr,←aJ,←aJ,anf (uK hz),aoL]
 rw[yD on,hdt,hD,ZE,of_add,add_comm (of (aY _ _))]
theorem Ub{c:Cv}(h:GdE c)(ha:c.1=true){v:Rat×Rat}(hz:zeV (bW c v)=false):iM (ciC c) (pR (jO (ciC c) (bW c v)))∧co c (bW c v)=n4 (frm (ciC c) (pR (ccF c))) (frm (ciC c) (pR (ccT c))) (vE (bW c v)):=by
 have hq:=(h.q ha).1;have hq0:(0:Rat)≤(ciC c).2.2:=by grind
 have hC:Cir (ciC c):=⟨hq⟩
 have d0:=jT (bW c v)
 have n0:0<(ciC c).2.2/aY (bW c v) (bW c v):=by
  have h1:(ciC c).2.2/aY (bW c v) (bW c v)*aY (bW c v) (bW c v)=(ciC c).2.2:=anf (uK hz);have h2:=Gh hq0 d0;rcases(by grind:(ciC c).2.2/aY (bW c v) (bW c v)=0∨0<(ciC c).2.2/aY (bW c v) (bW c v))with h3|h3
  ·rw[h3]at h1;grind
  ·exact h3
 have hr:=HN n0;have rr:=cQ (show 0≤(ciC c).2.2/aY (bW c v) (bW c v) by grind)
 have onray:iM (ciC c) (pR (jO (ciC c) (bW c v))):=by
  show(frm _ _).1*(frm _ _).1+(frm _ _).2*(frm _ _).2=_;rw[AK];have:of (bW c v).1*rq ((ciC c).2.2/aY (bW c v) (bW c v))*(of (bW c v).1*rq ((ciC c).2.2/aY (bW c v) (bW c v)))+of (bW c v).2*rq ((ciC c).2.2/aY (bW c v) (bW c v))*(of (bW c v).2*rq ((ciC c).2.2/aY (bW c v) (bW c v)))=of (aY (bW c v) (bW c v))*(rq ((ciC c).2.2/aY (bW c v) (bW c v))*rq ((ciC c).2.2/aY (bW c v) (bW c v))):=acm _ _ _;rw[this,rr,←aJ,aoL,anf (uK hz)]
 refine⟨onray,?_⟩
 have e1:co c (bW c v)=onP c (jO (ciC c) (bW c v)):=by
  unfold co;rw[ha,hz];rfl
 rw[e1,←zL _ _ (vE (bW c v)) hr,aoC,H5 h];unfold onE arcE;rw[am7 ha,AK];exact and_iff_right onray
end RE
end Go.Proofs.YtnkndpoojnflmaaGreat
end
