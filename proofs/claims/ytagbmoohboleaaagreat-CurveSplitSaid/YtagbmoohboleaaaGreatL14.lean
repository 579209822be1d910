/- Pieces of a curve: the reference's Split. -/
import Derived.Test.YtagbmoohboleaaaGreatL13
import Derived.Test.YtagbmoohboleaaaGreatL11
noncomputable section
namespace Go.Proofs.YtagbmoohboleaaaGreat
open Go.RowKit Go.IntKind
theorem agA:type_of% @Rat.div_mul_cancel:=@Rat.div_mul_cancel
theorem agF:type_of% @List.not_mem_nil:=@List.not_mem_nil
theorem ag0:type_of% @List.filter_cons:=@List.filter_cons
theorem ah5:type_of% @List.filter_nil:=@List.filter_nil
theorem ah6:type_of% @or_false:=@or_false
def fc(c:BCU)(x y:BP):BCU:=(c.1,c.2.1,c.2.2.1,c.2.2.2.1,x,y)
def fj(c:BCU):List BP->List BCU
 |[]=>[]
 |x::r=>match r with
  |[]=>[]
  |y::_=>fc c x y::fj c r
def mz(c:BCU)(l:List BP):List BP:=fM (dC c) ([c.2.2.2.2.1,c.2.2.2.2.2]++l)
def gr(c:BCU)(l:List BP):List BCU:=fj c (mz c l)
def ye(c:BCU)(l:List BP):Prop:=okC 3500 c/\l.length<=900000/\∀x∈l,okP 3500 x/\onR (dC c) (dec x)=true
instance (c:BCU) (l:List BP):Decidable (ye c l):=by unfold ye;infer_instance
theorem Gr{c:BCU}{l:List BP}(h:ye c l):uY c ([c.2.2.2.2.1,c.2.2.2.2.2]++l):=by
 obtain⟨h1,h2,h3⟩:=h;have h4:=bZ (k:=4000) h1 (by decide) (by decide);refine⟨h4,by simp;omega,λx hx=>?_⟩;rcases afL.1 hx with hx|hx
 ·simp only[afy,agF,ah6]at hx;rcases hx with rfl|rfl
  ·exact h4.2.2.1
  ·exact h4.2.2.2
 ·exact cp (h3 x hx).1 (by decide) (by decide)
theorem Bh(c:BCU)(l:List BP):(mz c l).length<=l.length+2:=by
 have:=vi (dC c) ([c.2.2.2.2.1,c.2.2.2.2.2]++l) [];unfold mz fM;simp at this ⊢;omega
theorem Bj{c:BCU}{l:List BP}{x:BP}(h:x∈mz c l):x=c.2.2.2.2.1\/x=c.2.2.2.2.2\/x∈l:=by
 rcases Am (out:=[]) h with h|h
 ·cases h
 ·rcases afL.1 h with h|h
  ·simp only[afy,agF,ah6]at h;rcases h with h|h
   ·exact .inl h
   ·exact .inr (.inl h)
  ·exact .inr (.inr h)
theorem AX{c p:BCU}:∀{s:List BP},p∈fj c s->∃x y,x∈s/\y∈s/\p=fc c x y
 |[],h=>by cases h
 |[_],h=>by cases h
 |x::y::r,h=>by
  simp only[fj]at h;rcases afy.1 h with h|h
  ·exact⟨x,y,by simp,by simp,h⟩
  ·obtain⟨a,b,h1,h2,h3⟩:=AX (s:=y::r) h;exact⟨a,b,afw _ h1,afw _ h2,h3⟩
def Ti:List En:=[enT Dy,enT Dh,enT ue,enL Ib,enT ul,enK Oo]
def Zn:NT:=[((10,6),{keep:=[1,2,6],hl:=1}),((10,31),{keep:=[2,7,8,9],own:=[(8,39,tCU)],hl:=3})]
def yB:Ctx:=CX (ens Ti) Zn
def Bt(c:BCU)(l:List BP)(s6:Int):Cfg:=⟨10,[.blk 0,.seq 23],[(1,.d (.sl tP) l),(2,.box 0 0),(6,SI s6)],[.box 39 [SB c.1,SB c.2.1.1.1.1,.d aix c.2.1.1.1.2,SB c.2.1.1.2.1,.d aix c.2.1.1.2.2,SB c.2.1.2.1.1.1,.d aix c.2.1.2.1.1.2,SB c.2.1.2.1.2.1,.d aix c.2.1.2.1.2.2,SB c.2.1.2.2.1.1,.d aix c.2.1.2.2.1.2,SB c.2.1.2.2.2.1,.d aix c.2.1.2.2.2.2,SB c.2.2.1.1.1.1,.d aix c.2.2.1.1.1.2,SB c.2.2.1.1.2.1,.d aix c.2.2.1.1.2.2,SB c.2.2.1.2.1.1.1,.d aix c.2.2.1.2.1.1.2,SB c.2.2.1.2.1.2.1,.d aix c.2.2.1.2.1.2.2,SB c.2.2.1.2.2.1.1,.d aix c.2.2.1.2.2.1.2,SB c.2.2.1.2.2.2.1,.d aix c.2.2.1.2.2.2.2,SB c.2.2.2.1,SB c.2.2.2.2.1.1.1.1,.d aix c.2.2.2.2.1.1.1.2,SB c.2.2.2.2.1.1.2.1,.d aix c.2.2.2.2.1.1.2.2,SB c.2.2.2.2.1.2.1.1.1,.d aix c.2.2.2.2.1.2.1.1.2,SB c.2.2.2.2.1.2.1.2.1,.d aix c.2.2.2.2.1.2.1.2.2,SB c.2.2.2.2.1.2.2.1.1.1,.d aix c.2.2.2.2.1.2.2.1.1.2,SB c.2.2.2.2.1.2.2.1.2.1,.d aix c.2.2.2.2.1.2.2.1.2.2,SB c.2.2.2.2.1.2.2.2.1.1.1,.d aix c.2.2.2.2.1.2.2.2.1.1.2,SB c.2.2.2.2.1.2.2.2.1.2.1,.d aix c.2.2.2.2.1.2.2.2.1.2.2,SB c.2.2.2.2.1.2.2.2.2.1.1,.d aix c.2.2.2.2.1.2.2.2.2.1.2,SB c.2.2.2.2.1.2.2.2.2.2.1,.d aix c.2.2.2.2.1.2.2.2.2.2.2,SB c.2.2.2.2.2.1.1.1,.d aix c.2.2.2.2.2.1.1.2,SB c.2.2.2.2.2.1.2.1,.d aix c.2.2.2.2.2.1.2.2,SB c.2.2.2.2.2.2.1.1.1,.d aix c.2.2.2.2.2.2.1.1.2,SB c.2.2.2.2.2.2.1.2.1,.d aix c.2.2.2.2.2.2.1.2.2,SB c.2.2.2.2.2.2.2.1.1.1,.d aix c.2.2.2.2.2.2.2.1.1.2,SB c.2.2.2.2.2.2.2.1.2.1,.d aix c.2.2.2.2.2.2.2.1.2.2,SB c.2.2.2.2.2.2.2.2.1.1.1,.d aix c.2.2.2.2.2.2.2.2.1.1.2,SB c.2.2.2.2.2.2.2.2.1.2.1,.d aix c.2.2.2.2.2.2.2.2.1.2.2,SB c.2.2.2.2.2.2.2.2.2.1.1,.d aix c.2.2.2.2.2.2.2.2.2.1.2,SB c.2.2.2.2.2.2.2.2.2.2.1,.d aix c.2.2.2.2.2.2.2.2.2.2.2]],0,[]⟩
def vg(c:BCU)(l:List BP)(s9:Int)(r2:List BCU):Cfg:=⟨10,[.blk 2,.seq 46],[(2,.box 0 0),(7,.d (.sl tP) (fM (dC c) (([c.2.2.2.2.1,c.2.2.2.2.2])++l))),(8,.own 2),(9,SI s9)],[.box 39 [SB c.1,SB c.2.1.1.1.1,.d aix c.2.1.1.1.2,SB c.2.1.1.2.1,.d aix c.2.1.1.2.2,SB c.2.1.2.1.1.1,.d aix c.2.1.2.1.1.2,SB c.2.1.2.1.2.1,.d aix c.2.1.2.1.2.2,SB c.2.1.2.2.1.1,.d aix c.2.1.2.2.1.2,SB c.2.1.2.2.2.1,.d aix c.2.1.2.2.2.2,SB c.2.2.1.1.1.1,.d aix c.2.2.1.1.1.2,SB c.2.2.1.1.2.1,.d aix c.2.2.1.1.2.2,SB c.2.2.1.2.1.1.1,.d aix c.2.2.1.2.1.1.2,SB c.2.2.1.2.1.2.1,.d aix c.2.2.1.2.1.2.2,SB c.2.2.1.2.2.1.1,.d aix c.2.2.1.2.2.1.2,SB c.2.2.1.2.2.2.1,.d aix c.2.2.1.2.2.2.2,SB c.2.2.2.1,SB c.2.2.2.2.1.1.1.1,.d aix c.2.2.2.2.1.1.1.2,SB c.2.2.2.2.1.1.2.1,.d aix c.2.2.2.2.1.1.2.2,SB c.2.2.2.2.1.2.1.1.1,.d aix c.2.2.2.2.1.2.1.1.2,SB c.2.2.2.2.1.2.1.2.1,.d aix c.2.2.2.2.1.2.1.2.2,SB c.2.2.2.2.1.2.2.1.1.1,.d aix c.2.2.2.2.1.2.2.1.1.2,SB c.2.2.2.2.1.2.2.1.2.1,.d aix c.2.2.2.2.1.2.2.1.2.2,SB c.2.2.2.2.1.2.2.2.1.1.1,.d aix c.2.2.2.2.1.2.2.2.1.1.2,SB c.2.2.2.2.1.2.2.2.1.2.1,.d aix c.2.2.2.2.1.2.2.2.1.2.2,SB c.2.2.2.2.1.2.2.2.2.1.1,.d aix c.2.2.2.2.1.2.2.2.2.1.2,SB c.2.2.2.2.1.2.2.2.2.2.1,.d aix c.2.2.2.2.1.2.2.2.2.2.2,SB c.2.2.2.2.2.1.1.1,.d aix c.2.2.2.2.2.1.1.2,SB c.2.2.2.2.2.1.2.1,.d aix c.2.2.2.2.2.1.2.2,SB c.2.2.2.2.2.2.1.1.1,.d aix c.2.2.2.2.2.2.1.1.2,SB c.2.2.2.2.2.2.1.2.1,.d aix c.2.2.2.2.2.2.1.2.2,SB c.2.2.2.2.2.2.2.1.1.1,.d aix c.2.2.2.2.2.2.2.1.1.2,SB c.2.2.2.2.2.2.2.1.2.1,.d aix c.2.2.2.2.2.2.2.1.2.2,SB c.2.2.2.2.2.2.2.2.1.1.1,.d aix c.2.2.2.2.2.2.2.2.1.1.2,SB c.2.2.2.2.2.2.2.2.1.2.1,.d aix c.2.2.2.2.2.2.2.2.1.2.2,SB c.2.2.2.2.2.2.2.2.2.1.1,.d aix c.2.2.2.2.2.2.2.2.2.1.2,SB c.2.2.2.2.2.2.2.2.2.2.1,.d aix c.2.2.2.2.2.2.2.2.2.2.2],.gone,.row 39 tCU r2],0,[]⟩
def abJ(c:BCU)(l:List BP)(k:KT):OLR:=k 6 (Bt c l 0)
theorem acV(c:BCU)(l:List BP):RS yB 10 [.d tCU c,.d (.sl tP) l] (abJ c l):=rsX
def wD(c:BCU)(l:List BP)(s6:Int)(k:KT):OLR:=match decide (s6<(l.length:Int))with|true=>(match aG l s6 with|some x1=>(og (decide (okC 3500 c/\okP 3500 x1)) (match !(onR (dC c) (dec x1))with|true=>some [RV.d (.sl tCU) ([]),RV.d aiy 1]|false=>k 6 (Bt c l (i64.wrap (s6+1)))))|none=>none)|false=>(og (decide ((([c.2.2.2.2.1,c.2.2.2.2.2]).length+l.length)*320<=140737488355328/\([c.2.2.2.2.1,c.2.2.2.2.2]).length+l.length<=140737488355328)) (og (decide (uY c (([c.2.2.2.2.1,c.2.2.2.2.2])++l))) (k 31 (vg c l 1 ([])))))
theorem DN(c:BCU)(l:List BP)(s6:Int):RN yB 6 (Bt c l s6) (wD c l s6):=rnX
def tL(c:BCU)(l:List BP)(s9:Int)(r2:List BCU)(k:KT):OLR:=match decide (s9<((fM (dC c) (([c.2.2.2.2.1,c.2.2.2.2.2])++l)).length:Int))with|true=>(match aG (fM (dC c) (([c.2.2.2.2.1,c.2.2.2.2.2])++l)) (i64.wrap (s9-1))with|some x1=>(match aG (fM (dC c) (([c.2.2.2.2.1,c.2.2.2.2.2])++l)) s9 with|some x2=>dup (.b .l .l) (og (decide ((r2.length+([(c.1,(c.2.1,(c.2.2.1,(c.2.2.2.1,(x1,x2)))))]).length)*1040<=140737488355328/\r2.length+([(c.1,(c.2.1,(c.2.2.1,(c.2.2.2.1,(x1,x2)))))]).length<=140737488355328)) (k 31 (vg c l (i64.wrap (s9+1)) (r2++([(c.1,(c.2.1,(c.2.2.1,(c.2.2.2.1,(x1,x2)))))])))))|none=>none)|none=>none)|false=>some [RV.d (.sl tCU) r2,RV.d aiy 0]
theorem yC(c:BCU)(l:List BP)(s9:Int)(r2:List BCU):RN yB 31 (vg c l s9 r2) (tL c l s9 r2):=rnX
theorem WR(c:BCU)(l:List BP)(hle:l.length<=900000)(S:List BP)(hS:S=mz c l):∀(j i:Nat),1<=i->i+j=max S.length 1->∀out:List BCU,out.length<=i->yB.Runs 31 (vg c l (i:Int) out) [.d (.sl tCU) (out++fj c (S.drop (i-1))),.d aiy (0:Int)]:=by
 have hSl:=Bh c l;rw[<-hS]at hSl;have eS:fM (dC c) ([c.2.2.2.2.1,c.2.2.2.2.2]++l)=S:=hS.symm;intro j;induction j with
 |zero=>
  intro i h1 hi out hlen;refine yC _ _ _ _ ⟨0,?_⟩;unfold tL;rw[eS,bO (by omega)]
  have:fj c (S.drop (i-1))=[]:=by
   have hl:(S.drop (i-1)).length<=1:=by rw[agZ];omega
   match S.drop (i-1),hl with
   |[],_=>rfl
   |[_],_=>rfl
   |_::_::_,h=>simp at h
  rw[this,afO]
 |succ j ih=>
  intro i h1 hi out hlen;have hil:i<S.length:=by omega
  have e1:i64.wrap ((i:Int)-1)=((i-1:Nat):Int):=by rw[aM (by omega) (by omega)];omega
  have e2:i64.wrap ((i:Int)+1)=((i+1:Nat):Int):=bH (by omega);have g1:aG S ((i-1:Nat):Int)=some S[i-1]:=by rw[am,afn (by omega)]
  have g2:aG S (i:Int)=some S[i]:=by rw[am,afn hil]
  obtain⟨n,hn⟩:=ih (i+1) (by omega) (by omega) (out++[fc c S[i-1] S[i]]) (by simp;omega);refine yC _ _ _ _ ⟨n,?_⟩;unfold tL;rw[eS];simp only[dV,aY hil,e1,e2,g1,g2];rw[dT (by simp;omega)]
  have hd:S.drop (i-1)=S[i-1]::S.drop i:=by
   have:=afC (l:=S) (i:=i-1) (by omega);rw[this,show i-1+1=i by omega]
  have hd2:S.drop i=S[i]::S.drop (i+1):=afC hil;rw[hd,hd2];rw[show i+1-1=i by omega,hd2,afG]at hn;exact hn
theorem XX(c:BCU)(l:List BP)(h:ye c l):∀(j i:Nat),i+j=l.length->yB.Runs 6 (Bt c l (i:Int)) [.d (.sl tCU) (gr c l),.d aiy (0:Int)]:=by
 have hs:=Gr h;obtain⟨hc,hle,hl⟩:=h;intro j;induction j with
 |zero=>
  intro i hi;obtain⟨n,hn⟩:=WR c l hle (mz c l) rfl (max (mz c l).length 1-1) 1 (afs _) (by omega) [] (by simp);refine DN _ _ _ ⟨n,?_⟩;unfold wD;rw[bO (by omega),dT (by simp;omega),dT hs];exact hn
 |succ j ih=>
  intro i hi;have hil:i<l.length:=by omega
  obtain⟨n,hn⟩:=ih (i+1) (by omega);have h1:=hl _ (afU hil);refine DN _ _ _ ⟨n,?_⟩;unfold wD;rw[aY hil,am,afn hil,bH (by omega)];dsimp only;rw[dT (show okC 3500 c/\okP 3500 l[i] from⟨hc,h1.1⟩),h1.2];exact hn
def acw:Cn 10 [tCU,(.sl tP)]:=cn λ(c:BCU) (l:List BP)=>lf (ye c l) [.d (.sl tCU) (gr c l),.d aiy 0] λh=>by
 refine dm Ti (show yB.Res _ _ _ from ?_);obtain⟨n,hn⟩:=XX c l h l.length 0 (by omega);exact acV _ _ ⟨n,hn⟩
def fh(n d:Int):Prop:=a9 n/\a9 d/\0<d
instance (n d:Int):Decidable (fh n d):=by unfold fh;infer_instance
def V6:List En:=[enL A9,enL Ub]
def JB(n d:Int)(_k:KT):OLR:=match d==0 with|true=>(og (decide (a9 (0:Int))) (og (decide (a9 (1:Int))) (og (decide (jx (hid (ai (0:Int))) (hid (ai (1:Int))))) (some [RV.d tR (hid (eW (hid (ai (0:Int))) (hid (ai (1:Int)))))]))))|false=>(og (decide (a9 n)) (og (decide (a9 d)) (og (decide (jx (hid (ai n)) (hid (ai d)))) (some [RV.d tR (hid (eW (hid (ai n)) (hid (ai d))))]))))
def FI:Cn 27 [aiy,aiy]:=cn λ(n d:Int)=>lf (fh n d) [.d tR (ao (Rat.divInt n d))] λh=>by
 refine az V6 (JB n d) ⟨0,?_⟩;obtain⟨hn,hd,h0⟩:=h;have hne:(d==0)=false:=by simp;omega
 unfold JB;rw[hne,dT hn,dT hd];simp only[bL];rw[dT (show jx (ai n) (ai d) from⟨aR (by have:=jI hn;omega),aR (by have:=jI hd;omega),by rw[dec_enc];omega⟩)];unfold eW;rw[dec_enc,dec_enc]
theorem P9{n d:Int}(h1:a9 n)(h2:a9 d)(h0:0<d):Bd (Rat.divInt n d) 3:=by
 obtain⟨k,rfl⟩:=agw (show 0<=d by omega);exact⟨uw (by omega) (jI h1) (jI h2)⟩
section
theorem Con.new_d{P:Program}{f:Nat}{args:List SV}{et:TypeId}{e:Ty}{xs:List e.D}(h:Con P f args [.new et e xs]):Con P f args [.d (.sl e) xs]:=by
 intro A w vs hI ha;refine(h A w vs hI ha).mono ?_;rintro en w' ⟨v,rfl,hb,css,ho,ha2,hn⟩
 refine⟨v,rfl,hb,?_⟩;obtain⟨hlen,p,c,hv,h1,h2,h3⟩:=Rd.of_own hn ho;subst hv;refine⟨[.slice p xs.length c],⟨p,xs.length,c,css,rfl,rfl,h1,h2,aU (λ_ _ h=>Ty.rd_keep ⟨afs _,λb _ hb=>hb.1,λ_ _ _=>rfl⟩ h) ha2,λh0=>?_⟩,rfl⟩;obtain⟨b,off,rfl,h5,h6⟩:=h3 h0;refine⟨b,off,rfl,.inr ?_,h5,h6⟩;rcases ho.2 with⟨h7,_⟩|⟨g,cap,cur,h7,h8,_⟩
 ·cases h7
 ·injection h7 with h7;injection h7 with h7;injection h7 with h7;subst h7;exact h8
class Bb (q:Rat) (n d:outParam Nat):Prop where
 nu:q.num.natAbs<=2^n
 de:q.den<=2^d
theorem D1{n:Int}{d a b:Nat}(hd:d≠0)(h1:n.natAbs<=2^a)(h2:d<=2^b):(mkRat n d).num.natAbs<=2^a/\(mkRat n d).den<=2^b:=by
 rw[aij,aik,afQ hd,afQ hd];constructor
 ·refine afA ?_ h1;refine(GW n (d.gcd n.natAbs)).resolve_right (λh=>h ?_);exact Int.ofNat_dvd_left.2 (Nat.gcd_dvd_right d n.natAbs)
 ·exact afA (Nat.div_le_self _ _) h2
theorem wO{a b m n:Nat}(h:a<=2^m)(h':b<=2^n):a*b<=2^(m+n):=by
 rw[Nat.pow_add];exact ahj h h'
theorem aag{x y m n:Nat}(h:x<=2^m)(h':y<=2^n):x+y<=2^(mx m n+1):=by
 have h1:=afA h (Nat.pow_le_pow_right (by decide) (FV m n));have h2:=afA h' (Nat.pow_le_pow_right (by decide) (EG m n));rw[Nat.pow_succ];omega
section
variable {a b:Rat} {m n d e:Nat}
instance aes [h:Bb a m d] [h':Bb b n e]:Bb (a+b) (mx (m+e) (n+d)+1) (d+e):=by
 have d1:=a.den_pos;have d2:=b.den_pos
 have:=D1 (n:=a.num*(b.den:Int)+b.num*(a.den:Int)) (d:=a.den*b.den) (a:=mx (m+e) (n+d)+1) (b:=d+e) (ahZ (by omega) (by omega)) (by
  refine afA (Int.natAbs_add_le _ _) ?_;rw[aia,aia,agU,agU];exact aag (wO h.nu h'.de) (wO h'.nu h.de)) (wO h.de h'.de)
 rw[<-Rat.add_def']at this;exact⟨this.1,this.2⟩
instance aed [h:Bb a m d]:Bb (-a) m d:=⟨by rw[Rat.neg_num,Int.natAbs_neg];exact h.nu,h.de⟩
instance aev [h:Bb a m d] [h':Bb b n e]:Bb (a-b) (mx (m+e) (n+d)+1) (d+e):=by
 rw[ahO];infer_instance
instance aeO [h:Bb a m d] [h':Bb b n e]:Bb (a*b) (m+n) (d+e):=by
 have d1:=a.den_pos;have d2:=b.den_pos
 have:=D1 (n:=a.num*b.num) (d:=a.den*b.den) (a:=m+n) (b:=d+e) (ahZ (by omega) (by omega)) (by
  rw[aia];exact wO h.nu h'.nu) (wO h.de h'.de)
 rw[<-Rat.mul_def']at this;exact⟨this.1,this.2⟩
theorem X3 [h:Bb a m d]:Bb a⁻¹ d m:=by
 by_cases h0:a=0
 ·subst h0;rw[Rat.inv_zero];exact⟨ahn _,Nat.one_le_two_pow⟩
 ·have hn:a.num≠0:=λe=>h0 (Rat.num_eq_zero.1 e);have h1:=h.nu;have h2:=h.de;rw[Rat.inv_def];rcases ahe hn with h3|h3
  ·rw[<-Rat.neg_divInt_neg,show-a.num=(((-a.num).toNat:Nat):Int) by omega,ahI];have:=D1 (n:= -(a.den:Int)) (d:=(-a.num).toNat) (a:=d) (b:=m) (by omega) (by rw[Int.natAbs_neg];exact h2) (by omega);exact⟨this.1,this.2⟩
  ·rw[show a.num=((a.num.toNat:Nat):Int) by omega,ahI];have:=D1 (n:=(a.den:Int)) (d:=a.num.toNat) (a:=d) (b:=m) (by omega) h2 (by omega);exact⟨this.1,this.2⟩
instance aeg [h:Bb a m d] [h':Bb b n e]:Bb (a/b) (m+e) (d+n):=by
 rw[aiu];have:=X3 (h:=h');infer_instance
theorem TN:∀k:Nat,((2^(29*k):Nat):Int)<=pw k
 |0=>by decide
 |k+1=>by
  have ih:=TN k
  have e:2^(29*(k+1))=2^(29*k)*536870912:=by
   rw[Nat.mul_add,Nat.pow_add]
  rw[e,ce,agR];have:(0:Int)<=pw k:=Int.le_trans (Int.natCast_nonneg _) ih;omega
theorem TZ{z:Int}{n:Nat}(h:z.natAbs<=2^n):szI z<=n/29+1:=by
 have h1:=TN (n/29+1);have h2:2^n<2^(29*(n/29+1)):=Nat.pow_lt_pow_right (by decide) (by omega);exact eV (by omega) (by omega)
theorem Ci [h:Bb a m d]{k:Nat}(hm:m/29+1<=k)(hd:d/29+1<=k):Bd a k:=⟨⟨afA (TZ h.nu) hm,afA (TZ (z:=(a.den:Int)) h.de) hd⟩⟩
end
theorem Rk{n d:Int}{a b:Nat}(h0:0<d)(h1:n.natAbs<=2^a)(h2:d.natAbs<=2^b):Bb (Rat.divInt n d) a b:=by
 obtain⟨k,rfl⟩:=agw (show 0<=d by omega);rw[ahI];have:=D1 (n:=n) (d:=k) (by omega) h1 h2;exact⟨this.1,this.2⟩
def cL(x:BO3):Prop:=ok Rat 12 x.1/\ok Rat 12 x.2.1/\ok Rat 63 x.2.2/\((dec x:Ln).1≠0\/(dec x:Ln).2.1≠0)
instance (x:BO3):Decidable (cL x):=by unfold cL;infer_instance
def cg(x:BO3):Prop:=ok Rat 4 x.1/\ok Rat 4 x.2.1/\ok Rat 13 x.2.2/\(0:Rat)<(dec x:Ln).2.2
instance (x:BO3):Decidable (cg x):=by unfold cg;infer_instance
class BdL (l:Ln):Prop where
 a:Bd l.1 12
 b:Bd l.2.1 12
 c:Bd l.2.2 63
class BdC (c:Ln):Prop where
 x:Bd c.1 4
 y:Bd c.2.1 4
 q:Bd c.2.2 13
theorem d8{x:BO3}(h:cL x):∃l:Ln,x=enc l/\BdL l/\(l.1≠0\/l.2.1≠0):=by
 obtain⟨h1,h2,h3,h4⟩:=h;obtain⟨x1,x2,x3⟩:=x;obtain⟨a,rfl,ba⟩:=aH h1;obtain⟨b,rfl,bb⟩:=aH h2;obtain⟨c,rfl,bc⟩:=aH h3;have e:((enc a,enc b,enc c):BO3)=enc ((a,b,c):Ln):=rfl;rw[e,aB]at h4;exact⟨(a,b,c),rfl,⟨ba,bb,bc⟩,h4⟩
theorem cN{x:BO3}(h:cg x):∃c:Ln,x=enc c/\BdC c/\0<c.2.2:=by
 obtain⟨h1,h2,h3,h4⟩:=h;obtain⟨x1,x2,x3⟩:=x;obtain⟨a,rfl,ba⟩:=aH h1;obtain⟨b,rfl,bb⟩:=aH h2;obtain⟨c,rfl,bc⟩:=aH h3;have e:((enc a,enc b,enc c):BO3)=enc ((a,b,c):Ln):=rfl;rw[e,aB]at h4;exact⟨(a,b,c),rfl,⟨ba,bb,bc⟩,h4⟩
theorem kL{l:Ln}[h:BdL l](h0:l.1≠0\/l.2.1≠0):cL (enc l):=by
 have a:=h.a;have b:=h.b;have c:=h.c;exact⟨afp (okd (afs _) (by decide)),afp (okd (afs _) (by decide)),afp (okd (afs _) (by decide)),by rw[aB];exact h0⟩
theorem gJ{c:Ln}[h:BdC c](h0:0<c.2.2):cg (enc c):=by
 have a:=h.x;have b:=h.y;have c:=h.q;exact⟨afp (okd (afs _) (by decide)),afp (okd (afs _) (by decide)),afp (okd (afs _) (by decide)),by rw[aB];exact h0⟩
section
variable {l c:Ln}
instance afk [h:BdL l]:Bd l.1 12:=h.a
instance afg [h:BdL l]:Bd l.2.1 12:=h.b
instance afi [h:BdL l]:Bd l.2.2 63:=h.c
instance afl [h:BdC c]:Bd c.1 4:=h.x
instance afj [h:BdC c]:Bd c.2.1 4:=h.y
instance afh [h:BdC c]:Bd c.2.2 13:=h.q
theorem Zl [h:BdL l]:Bd l 63:=⟨⟨Cod.mono _ _ _ (by decide) h.a.le,Cod.mono _ _ _ (by decide) h.b.le,h.c.le⟩⟩
theorem EZ [h:BdC c]:Bd c 13:=⟨⟨Cod.mono _ _ _ (by decide) h.x.le,Cod.mono _ _ _ (by decide) h.y.le,h.q.le⟩⟩
end
def eO(l m:Ln):Rat:=l.1*m.2.1-m.1*l.2.1
def nI(l m:Ln):Rat:=l.2.2*m.2.1-m.2.2*l.2.1
def nU(l m:Ln):Rat:=l.1*m.2.2-m.1*l.2.2
def pO(l m:Ln):List Pt:=bif !decide (eO l m=0)then [atP (nI l m/eO l m,nU l m/eO l m)]else []
def LW(l m:Ln):Int:=bif !decide (eO l m=0)then 0 else bif decide (nI l m=0)&&decide (nU l m=0)then 10 else 0
def cE(l:Ln):Rat:=l.1*l.1+l.2.1*l.2.1
def vlL(l:Ln)(x y:Rat):Rat:=l.1*x+l.2.1*y-l.2.2
def iX(l c:Ln):Rat:=cE l*c.2.2-vlL l c.1 c.2.1*vlL l c.1 c.2.1
def nH(ax bx ay b_ c:Rat):Pt:=bif fi c then atP (ax+bx*rtQ c,ay+b_*rtQ c)else(ax,bx,ay,b_,c)
def ftX(l c:Ln):Rat:=c.1-vlL l c.1 c.2.1/cE l*l.1
def ftY(l c:Ln):Rat:=c.2.1-vlL l c.1 c.2.1/cE l*l.2.1
def ru(l c:Ln):Pt:=nH (ftX l c) (-(l.2.1/cE l)) (ftY l c) (-(-l.1/cE l)) (iX l c)
def rP(l c:Ln):Pt:=nH (ftX l c) (l.2.1/cE l) (ftY l c) (-l.1/cE l) (iX l c)
def qC(l c:Ln):List Pt:=bif decide (iX l c<0)then []else bif decide (iX l c=0)then [atP (ftX l c,ftY l c)]
 else bif decide (aF (ru l c) (rP l c)>0)then [rP l c,ru l c]else [ru l c,rP l c]
def jb(c d:Ln):Bool:=decide (c.1=d.1)&&decide (c.2.1=d.2.1)
def qB(c:Ln):Rat:=c.1*c.1+c.2.1*c.2.1-c.2.2
def nz(c d:Ln):Ln:=(2*(d.1-c.1),2*(d.2.1-c.2.1),qB d-qB c)
def Cl(c d:Ln):List Pt:=bif jb c d then []else qC (nz c d) c
def Qg(c d:Ln):Int:=bif jb c d then(bif decide (c.2.2=d.2.2)then 10 else 0)else 0
def uX(c d:Ln):BO3:=bif jb c d then o00 else enc (nz c d)
def Ry(c d:Ln):Int:=bif jb c d then 6 else 0
def oK(l m:Ln):Bool:=decide (l.1*m.2.1=l.2.1*m.1)&&(decide (l.1*m.2.2=l.2.2*m.1)&&decide (l.2.1*m.2.2=l.2.2*m.2.1))
def qy(c d:Ln):Bool:=decide (c.1=d.1)&&(decide (c.2.1=d.2.1)&&decide (c.2.2=d.2.2))
def cG(a b:Cv):Bool:=bif a.1==b.1 then(bif a.1 then qy (ciC a) (ciC b)else oK (lnC a) (lnC b))else false
def DS(a:BCU):Prop:=(a.1=true->cg a.2.2.1)/\(a.1=false->cL a.2.1)
instance (a:BCU):Decidable (DS a):=by unfold DS;infer_instance
def fX(a b:BCU):Prop:=DS a/\DS b
instance (a b:BCU):Decidable (fX a b):=by unfold fX;infer_instance
def uN(a b:Cv):List Pt:=bif a.1&&b.1 then Cl (ciC a) (ciC b)else bif a.1 then qC (lnC b) (ciC a)else bif b.1 then qC (lnC a) (ciC b)else pO (lnC a) (lnC b)
def Un(a b:Cv):Int:=bif a.1&&b.1 then Qg (ciC a) (ciC b)else bif a.1 then 0 else bif b.1 then 0 else LW (lnC a) (lnC b)
def qz(c:Ln):Pt:=nH c.1 (-1) c.2.1 0 c.2.2
def qZ(c:Ln):Pt:=nH c.1 1 c.2.1 0 c.2.2
theorem Bi{ax bx ay b_ c:Rat}(h0:¬(bx=0/\b_=0))(hc:0<=c):Rpd (nH ax bx ay b_ c):=by
 refine⟨?_⟩;unfold nH;cases hq:fi c
 ·exact .inr ⟨h0,Ie hc hq,hq⟩
 ·exact .inl ⟨rfl,rfl,rfl⟩
theorem zS{ax bx ay b_ c:Rat}{j k m:Nat}(h1:Bd ax j)(h2:Bd bx k)(h3:Bd ay j)(h4:Bd b_ k)(h5:Bd c m){n:Nat}(hn:j+(k+m)+1<=n):Bd (nH ax bx ay b_ c) n:=by
 have z:bdR n 0:=cj rB.le (by omega);have i1:Bd (ax+bx*rtQ c) _:=inferInstance;have i2:Bd (ay+b_*rtQ c) _:=inferInstance;refine⟨?_⟩;unfold nH;cases fi c
 ·exact⟨cj h1.le (by omega),cj h2.le (by omega),cj h3.le (by omega),cj h4.le (by omega),cj h5.le (by omega)⟩
 ·exact⟨cj i1.le (by omega),z,cj i2.le (by omega),z,z⟩
section
variable {l m c d:Ln}
theorem oh(h:l.1≠0\/l.2.1≠0):cE l≠0:=zQ h
instance aeX [BdL l] [h:BdC c]:Bd (iX l c) 257:=by
 have hx:=h.x;have hy:=h.y;have hq:=h.q;have i1:Bd (cE l) 49:=inferInstanceAs (Bd (l.1*l.1+l.2.1*l.2.1) _);have i2:Bd (vlL l c.1 c.2.1) 97:=inferInstanceAs (Bd (l.1*c.1+l.2.1*c.2.1-l.2.2) _);exact(inferInstance:Bd (cE l*c.2.2-vlL l c.1 c.2.1*vlL l c.1 c.2.1) _).mono (by decide)
theorem tc [BdL l][h:BdC c]:Bd (ftX l c) 163/\Bd (ftY l c) 163/\Bd (l.2.1/cE l) 61/\Bd (l.1/cE l) 61:=by
 have hx:=h.x;have hy:=h.y;have i1:Bd (cE l) 49:=inferInstanceAs (Bd (l.1*l.1+l.2.1*l.2.1) _);have i2:Bd (vlL l c.1 c.2.1) 97:=inferInstanceAs (Bd (l.1*c.1+l.2.1*c.2.1-l.2.2) _);have i3:Bd (c.1-vlL l c.1 c.2.1/cE l*l.1) _:=inferInstance;have i4:Bd (c.2.1-vlL l c.1 c.2.1/cE l*l.2.1) _:=inferInstance;have i5:Bd (l.2.1/cE l) _:=inferInstance;have i6:Bd (l.1/cE l) _:=inferInstance;exact⟨i3.mono (by decide),i4.mono (by decide),i5.mono (by decide),i6.mono (by decide)⟩
end
end
section
theorem IN(a b:Rat):((ao a,ao b):BV)=enc ((a,b):Rat×Rat):=nr rfl
theorem Ku{q:Rat}(h:¬q<0)(h':¬q=0):0<q:=by grind
theorem rdl{l:Ln}(h:cE l≠0)(hl:l.1≠0\/l.2.1≠0):¬(l.2.1/cE l=0/\ -l.1/cE l=0):=by
 intro ⟨h1,h2⟩
 have m:∀a:Rat,a/cE l=0->a=0:=λa e=>by
  have:a/cE l*cE l=a:=agA h;rw[e,Rat.zero_mul]at this;exact this.symm
 have:=m _ h1;have:=m _ h2;rcases hl with h|h<;>grind
section
variable {l c:Ln}
theorem LD(hl:l.1≠0\/l.2.1≠0)(h0:0<=iX l c):Rpd (ru l c)/\Rpd (rP l c):=by
 have hn:=oh hl;refine⟨Bi (λh=>rdl hn hl ⟨by grind,by grind⟩) h0,Bi (rdl hn hl) h0⟩
theorem NR [BdL l][BdC c]:Bd (ru l c) 490/\Bd (rP l c) 490:=by
 obtain⟨h1,h2,h3,h4⟩:=tc (l:=l) (c:=c);have h5:Bd (iX l c) 257:=inferInstance;have n1:Bd (-(l.2.1/cE l)) 61:=inferInstance;have i1:Bd (cE l) 49:=inferInstanceAs (Bd (l.1*l.1+l.2.1*l.2.1) _);have n2:Bd (-l.1/cE l) 61:=(inferInstance:Bd (-l.1/cE l) _)
 have n3:Bd (-(-l.1/cE l)) 61:=inferInstance;exact⟨zS h1 n1 h2 n3 h5 (by decide),zS h1 h3 h2 n2 h5 (by decide)⟩
end
theorem v9{c d:Ln}[BdC c][BdC d]:BdL (nz c d):=by
 have b2:Bd (2:Rat) 3:=fx (n:=2) (by decide);have f1:Bd (qB c) 31:=(inferInstance:Bd (c.1*c.1+c.2.1*c.2.1-c.2.2) _).mono (by decide);have f2:Bd (qB d) 31:=(inferInstance:Bd (d.1*d.1+d.2.1*d.2.1-d.2.2) _).mono (by decide);have g1:Bd (2*(d.1-c.1)) _:=inferInstance;have g2:Bd (2*(d.2.1-c.2.1)) _:=inferInstance;have g3:Bd (qB d-qB c) _:=inferInstance;exact⟨g1.mono (by decide),g2.mono (by decide),g3.mono (by decide)⟩
theorem EM{c d:Ln}(h:jb c d=false):(nz c d).1≠0\/(nz c d).2.1≠0:=by
 unfold jb at h;unfold nz;dsimp only;by_cases h1:c.1=d.1
 ·rw[afm h1,agc]at h;have:=agn h;right;grind
 ·left;grind
theorem Lq{c d:Ln}[BdC c][BdC d](h:jb c d=false):cL (enc (nz c d)):=kL (h:=v9) (EM h)
def uM:List En:=[enT nh,enL qx,enL re,enL uo,enL qr,enT tC,enL ux,enL Ee,enL F3,enL zR,enT ul,enL EY]
def aae:Cn 270 [tR,tR]:=cn λ(a b:BR)=>lf (okR a/\okR b) [.d tR (ao (ah a+ah b))] λh=>kx [RV.d tR (hAd a b)] (dk uM) h
def acO:Cn 193 [tR,tR]:=cn λ(a b:BR)=>lf (okR a/\okR b) [.d tR (ao (ah a-ah b))] λh=>kx [RV.d tR (hSu a b)] (dk uM) h
def aa8:Cn 194 [tR,tR]:=cn λ(a b:BR)=>lf (okR a/\okR b) [.d tR (ao (ah a*ah b))] λh=>kx [RV.d tR (hMu a b)] (dk uM) h
def acq:Cn 195 [tR]:=cn λ(a:BR)=>lf (okR a) [.d tR (ao (-ah a))] λh=>kx [RV.d tR (hNe a)] (dk uM) h
def ade:Cn 191 [tR,tR]:=cn λ(a b:BR)=>lf (ij a b) [.d tR (ao (ah a/ah b))] λh=>kx [RV.d tR (hDi a b)] (dk uM) h
def MJ(l m:BO3)(_k:KT):OLR:=og (o2 l.1 m.2.1) (og (o2 l.2.1 m.1) (og (o2 (hMu l.1 m.2.1) (hMu l.2.1 m.1)) (match(aE (ah (hMu l.1 m.2.1)) (ah (hMu l.2.1 m.1)))==0 with|true=>(og (o2 l.1 m.2.2) (og (o2 l.2.2 m.1) (og (o2 (hMu l.1 m.2.2) (hMu l.2.2 m.1)) (match(aE (ah (hMu l.1 m.2.2)) (ah (hMu l.2.2 m.1)))==0 with|true=>(og (o2 l.2.1 m.2.2) (og (o2 l.2.2 m.2.1) (og (o2 (hMu l.2.1 m.2.2) (hMu l.2.2 m.2.1)) (some [RV.d .bool ((aE (ah (hMu l.2.1 m.2.2)) (ah (hMu l.2.2 m.2.1)))==0)]))))|false=>some [RV.d .bool false]))))|false=>some [RV.d .bool false])))
def Wv:Cn 90 [tO,tO]:=cn λ(l m:BO3)=>lf (cL l/\cL m) [.d .bool (oK (dec l) (dec m))] λh=>by
 refine az uM (MJ l m) ⟨0,?_⟩;obtain⟨hl,hm⟩:=h;obtain⟨l,rfl,bl,nl⟩:=d8 hl;obtain⟨m,rfl,bm,nm⟩:=d8 hm;unfold MJ oK;simp only[aW,Nat.reduceAdd,Nat.reduceLeDiff,aq];cases decide (l.1*m.2.1=l.2.1*m.1)<;>cases decide (l.1*m.2.2=l.2.2*m.1)<;>rfl
def JX(c d:BO3)(_k:KT):OLR:=og (o2 c.1 d.1) (match(aE (ah c.1) (ah d.1))==0 with|true=>(og (o2 c.2.1 d.2.1) (match(aE (ah c.2.1) (ah d.2.1))==0 with|true=>(og (o2 c.2.2 d.2.2) (some [RV.d .bool ((aE (ah c.2.2) (ah d.2.2))==0)]))|false=>some [RV.d .bool false]))|false=>some [RV.d .bool false])
def Yp:Cn 89 [tO,tO]:=cn λ(c d:BO3)=>lf (cg c/\cg d) [.d .bool (qy (dec c) (dec d))] λh=>by
 refine az uM (JX c d) ⟨0,?_⟩;obtain⟨hc,hd⟩:=h;obtain⟨c,rfl,bc,nc⟩:=cN hc;obtain⟨d,rfl,bd,nd⟩:=cN hd;unfold JX qy;simp only[aW,Nat.reduceLeDiff,aq];cases decide (c.1=d.1)<;>cases decide (c.2.1=d.2.1)<;>rfl
def yH:List En:=enL aae::enL acO::enL aa8::enL acq::enL ade::uM
def Uc(l m:BO3)(_k:KT):OLR:=og (o2 l.1 m.2.1) (og (o2 m.1 l.2.1) (og (o2 (hMu l.1 m.2.1) (hMu m.1 l.2.1)) (some [RV.d tR (hSu (hMu l.1 m.2.1) (hMu m.1 l.2.1))])))
def abC:Cn 197 [tO,tO]:=cn λ(l m:BO3)=>lf (cL l/\cL m) [.d tR (ao (eO (dec l) (dec m)))] λh=>by
 refine az yH (Uc l m) ⟨0,?_⟩;obtain⟨hl,hm⟩:=h;obtain⟨l,rfl,bl,nl⟩:=d8 hl;obtain⟨m,rfl,bm,nm⟩:=d8 hm;unfold Uc eO;simp only[aW,Nat.reduceAdd,Nat.reduceLeDiff]
def VX(l:BO3)(_k:KT):OLR:=og (o2 l.1 l.1) (og (o2 l.2.1 l.2.1) (og (o2 (hMu l.1 l.1) (hMu l.2.1 l.2.1)) (some [RV.d tR (hAd (hMu l.1 l.1) (hMu l.2.1 l.2.1))])))
def abZ:Cn 190 [tO]:=cn λ(l:BO3)=>lf (cL l) [.d tR (ao (cE (dec l)))] λh=>by
 refine az yH (VX l) ⟨0,?_⟩;have hl:=h;obtain⟨l,rfl,bl,nl⟩:=d8 hl;unfold VX cE;simp only[aW,Nat.reduceAdd,Nat.reduceLeDiff]
def Tf(l:BO3)(x y:BR)(_k:KT):OLR:=og (o2 l.1 x) (og (o2 l.2.1 y) (og (o2 (hMu l.1 x) (hMu l.2.1 y)) (og (o2 (hAd (hMu l.1 x) (hMu l.2.1 y)) l.2.2) (some [RV.d tR (hSu (hAd (hMu l.1 x) (hMu l.2.1 y)) l.2.2)]))))
def ac7:Cn 192 [tO,tR,tR]:=cn λ(l:BO3) (x y:BR)=>lf (cL l/\ok Rat 4 x/\ok Rat 4 y) [.d tR (ao (vlL (dec l) (ah x) (ah y)))] λh=>by
 refine az yH (Tf l x y) ⟨0,?_⟩;obtain⟨hl,hx,hy⟩:=h;obtain⟨l,rfl,bl,nl⟩:=d8 hl;obtain⟨x,rfl,bx⟩:=aH hx;obtain⟨y,rfl,b_y⟩:=aH hy;unfold Tf vlL;simp only[aW,Nat.reduceAdd,Nat.reduceLeDiff]
def TK(c d:BO3)(_k:KT):OLR:=og (o2 c.1 d.1) (match(aE (ah c.1) (ah d.1))==0 with|true=>(og (o2 c.2.1 d.2.1) (some [RV.d .bool ((aE (ah c.2.1) (ah d.2.1))==0)]))|false=>some [RV.d .bool false])
def ZX:Cn 187 [tO,tO]:=cn λ(c d:BO3)=>lf (cg c/\cg d) [.d .bool (jb (dec c) (dec d))] λh=>by
 refine az yH (TK c d) ⟨0,?_⟩;obtain⟨hc,hd⟩:=h;obtain⟨c,rfl,bc,nc⟩:=cN hc;obtain⟨d,rfl,bd,nd⟩:=cN hd;unfold TK jb;simp only[aW,Nat.reduceLeDiff,aq];cases decide (c.1=d.1)<;>rfl
def VB(a b c d e:BR)(_k:KT):OLR:=og (o1 e) (match fi (ah e)with|true=>(og (o2 b (hid (rtB (ah e)))) (og (o2 a (hMu b (hid (rtB (ah e))))) (og (o2 d (hid (rtB (ah e)))) (og (o2 c (hMu d (hid (rtB (ah e))))) (og (decide (ok (Rat×Rat) 100000 (hAd a (hMu b (hid (rtB (ah e)))),hAd c (hMu d (hid (rtB (ah e))))))) (some [RV.d tP (hid (enc (atP (dec (hAd a (hMu b (hid (rtB (ah e)))),hAd c (hMu d (hid (rtB (ah e)))))))))]))))))|false=>some [RV.d tP (a,(b,(c,(d,e))))])
def abW:Cn 196 [tR,tR,tR,tR,tR]:=cn λ(a b c d e:BR)=>lf (ok Rat 1000 a/\ok Rat 1000 b/\ok Rat 1000 c/\ok Rat 1000 d/\ok Rat 1000 e) [.d tP (enc (nH (ah a) (ah b) (ah c) (ah d) (ah e)))] λh=>by
 refine az yH (VB a b c d e) ⟨0,?_⟩;obtain⟨ha,hb,hc,hd,he⟩:=h;obtain⟨a,rfl,ba⟩:=aH ha;obtain⟨b,rfl,bb⟩:=aH hb;obtain⟨c,rfl,bc⟩:=aH hc;obtain⟨d,rfl,bd⟩:=aH hd;obtain⟨e,rfl,be⟩:=aH he;unfold VB nH;simp only[aW,Nat.reduceLeDiff];cases hq:fi e
 ·rfl
 ·rw[N9 hq];simp only[aW,Nat.reduceAdd,Nat.reduceLeDiff,IN];try rfl
def C9:List En:=enL abC::enL abZ::enL ac7::enT ZX::enL abW::yH
def TV(l m:BO3)(_k:KT):OLR:=og (decide (cL l/\cL m)) (og (o2 l.2.2 m.2.1) (og (o2 m.2.2 l.2.1) (og (o2 (hMu l.2.2 m.2.1) (hMu m.2.2 l.2.1)) (og (o2 l.1 m.2.2) (og (o2 m.1 l.2.2) (og (o2 (hMu l.1 m.2.2) (hMu m.1 l.2.2)) (og (o1 (hid (ao (eO (dec l) (dec m))))) (match(aE (ah (hid (ao (eO (dec l) (dec m))))) 0) !=0 with|true=>(og (decide (ij (hSu (hMu l.2.2 m.2.1) (hMu m.2.2 l.2.1)) (hid (ao (eO (dec l) (dec m)))))) (og (decide (ij (hSu (hMu l.1 m.2.2) (hMu m.1 l.2.2)) (hid (ao (eO (dec l) (dec m)))))) (og (decide (ok (Rat×Rat) 100000 (hDi (hSu (hMu l.2.2 m.2.1) (hMu m.2.2 l.2.1)) (hid (ao (eO (dec l) (dec m)))),hDi (hSu (hMu l.1 m.2.2) (hMu m.1 l.2.2)) (hid (ao (eO (dec l) (dec m))))))) (some [RV.d (.sl tP) ([hid (enc (atP (dec (hDi (hSu (hMu l.2.2 m.2.1) (hMu m.2.2 l.2.1)) (hid (ao (eO (dec l) (dec m)))),hDi (hSu (hMu l.1 m.2.2) (hMu m.1 l.2.2)) (hid (ao (eO (dec l) (dec m))))))))]),RV.d aiy 0]))))|false=>(og (o1 (hSu (hMu l.2.2 m.2.1) (hMu m.2.2 l.2.1))) (match(aE (ah (hSu (hMu l.2.2 m.2.1) (hMu m.2.2 l.2.1))) 0)==0 with|true=>(og (o1 (hSu (hMu l.1 m.2.2) (hMu m.1 l.2.2))) (match(aE (ah (hSu (hMu l.1 m.2.2) (hMu m.1 l.2.2))) 0)==0 with|true=>some [RV.d (.sl tP) ([]),RV.d aiy 10]|false=>some [RV.d (.sl tP) ([]),RV.d aiy 0]))|false=>some [RV.d (.sl tP) ([]),RV.d aiy 0]))))))))))
def S5:Cn 93 [tO,tO]:=cn λ(l m:BO3)=>lf (cL l/\cL m) [.d (.sl tP) ((pO (dec l) (dec m)).map enc),.d aiy (LW (dec l) (dec m))] λh=>by
 refine az C9 (TV l m) ⟨0,?_⟩;obtain⟨hl,hm⟩:=h;obtain⟨l,rfl,bl,nl⟩:=d8 hl;obtain⟨m,rfl,bm,nm⟩:=d8 hm;have ol:=afm (kL (l:=l) nl);have om:=afm (kL (l:=m) nm);have bc:Bd (eO l m) 49:=inferInstanceAs (Bd (l.1*m.2.1-m.1*l.2.1) _);have e1:l.2.2*m.2.1-m.2.2*l.2.1=nI l m:=rfl;have e2:l.1*m.2.2-m.1*l.2.2=nU l m:=rfl;unfold TV pO LW;simp only[aW,Nat.reduceAdd,Nat.reduceLeDiff,aq,bg,ol,om];by_cases h0:eO l m=0
 ·simp only[afm h0,e1,e2,Bool.not_true];cases decide (nI l m=0)<;>cases decide (nU l m=0)<;>rfl
 ·simp only[aW,Nat.reduceAdd,Nat.reduceLeDiff,h0,ne_eq,agP,Bool.not_false,IN];rfl
def VZ(l c:BO3)(_k:KT):OLR:=og (decide (cL l/\ok Rat 4 c.1/\ok Rat 4 c.2.1)) (og (decide (cL l)) (og (o2 (hid (ao (cE (dec l)))) c.2.2) (og (o2 (hid (ao (vlL (dec l) (ah c.1) (ah c.2.1)))) (hid (ao (vlL (dec l) (ah c.1) (ah c.2.1))))) (og (o2 (hMu (hid (ao (cE (dec l)))) c.2.2) (hMu (hid (ao (vlL (dec l) (ah c.1) (ah c.2.1)))) (hid (ao (vlL (dec l) (ah c.1) (ah c.2.1)))))) (some [RV.d tR (hSu (hMu (hid (ao (cE (dec l)))) c.2.2) (hMu (hid (ao (vlL (dec l) (ah c.1) (ah c.2.1)))) (hid (ao (vlL (dec l) (ah c.1) (ah c.2.1))))))])))))
def aa6:Cn 189 [tO,tO]:=cn λ(l c:BO3)=>lf (cL l/\cg c) [.d tR (ao (iX (dec l) (dec c)))] λh=>by
 refine az C9 (VZ l c) ⟨0,?_⟩;obtain⟨hl,hc⟩:=h;obtain⟨l,rfl,bl,nl⟩:=d8 hl;obtain⟨c,rfl,bc,nc⟩:=cN hc;have ol:=afm (kL (l:=l) nl);have bv:Bd (vlL l c.1 c.2.1) 97:=inferInstanceAs (Bd (l.1*c.1+l.2.1*c.2.1-l.2.2) _);have bn:Bd (cE l) 49:=inferInstanceAs (Bd (l.1*l.1+l.2.1*l.2.1) _);unfold VZ iX;simp only[aW,Nat.reduceAdd,Nat.reduceLeDiff,ol]
def Uv(c d:BO3)(_k:KT):OLR:=og (decide (cg c/\cg d)) (match jb (dec c) (dec d)with|true=>some [RV.d tO (((false,[]),(false,[])),(((false,[]),(false,[])),((false,[]),(false,[])))),RV.d aiy 6]|false=>(og (decide (a9 (2:Int))) (og (o2 c.1 c.1) (og (o2 c.2.1 c.2.1) (og (o2 (hMu c.1 c.1) (hMu c.2.1 c.2.1)) (og (o2 (hAd (hMu c.1 c.1) (hMu c.2.1 c.2.1)) c.2.2) (og (o2 d.1 d.1) (og (o2 d.2.1 d.2.1) (og (o2 (hMu d.1 d.1) (hMu d.2.1 d.2.1)) (og (o2 (hAd (hMu d.1 d.1) (hMu d.2.1 d.2.1)) d.2.2) (og (o2 d.1 c.1) (og (o2 (hid (ao ((2:Int):Rat))) (hSu d.1 c.1)) (og (o2 d.2.1 c.2.1) (og (o2 (hid (ao ((2:Int):Rat))) (hSu d.2.1 c.2.1)) (og (o2 (hSu (hAd (hMu d.1 d.1) (hMu d.2.1 d.2.1)) d.2.2) (hSu (hAd (hMu c.1 c.1) (hMu c.2.1 c.2.1)) c.2.2)) (some [RV.d tO (hMu (hid (ao ((2:Int):Rat))) (hSu d.1 c.1),(hMu (hid (ao ((2:Int):Rat))) (hSu d.2.1 c.2.1),hSu (hSu (hAd (hMu d.1 d.1) (hMu d.2.1 d.2.1)) d.2.2) (hSu (hAd (hMu c.1 c.1) (hMu c.2.1 c.2.1)) c.2.2))),RV.d aiy 0]))))))))))))))))
def abs:Cn 188 [tO,tO]:=cn λ(c d:BO3)=>lf (cg c/\cg d) [.d tO (uX (dec c) (dec d)),.d aiy (Ry (dec c) (dec d))] λh=>by
 refine az C9 (Uv c d) ⟨0,?_⟩;obtain⟨hc,hd⟩:=h;obtain⟨c,rfl,bc,nc⟩:=cN hc;obtain⟨d,rfl,bd,nd⟩:=cN hd;have oc:=afm (gJ (c:=c) nc);have od:=afm (gJ (c:=d) nd);have i2:decide (a9 2)=true:=by decide
 have b2:Bd ((2:Int):Rat) 3:=fx (by decide);unfold Uv uX Ry;simp only[aW,Nat.reduceAdd,Nat.reduceLeDiff,oc,od,i2];cases jb c d
 ·rfl
 ·rfl
def Vv(c:BO3)(_k:KT):OLR:=og (decide (a9 (1:Int))) (og (decide (a9 (0:Int))) (og (o1 (hid (ao ((1:Int):Rat)))) (og (decide (ok Rat 1000 c.1/\ok Rat 1000 (hNe (hid (ao ((1:Int):Rat))))/\ok Rat 1000 c.2.1/\ok Rat 1000 (hid (ao ((0:Int):Rat)))/\ok Rat 1000 c.2.2)) (og (decide (ok Rat 1000 c.1/\ok Rat 1000 (hid (ao ((1:Int):Rat)))/\ok Rat 1000 c.2.1/\ok Rat 1000 (hid (ao ((0:Int):Rat)))/\ok Rat 1000 c.2.2)) (some [RV.d tP (hid (enc (nH (ah c.1) (ah (hNe (hid (ao ((1:Int):Rat))))) (ah c.2.1) (ah (hid (ao ((0:Int):Rat)))) (ah c.2.2)))),RV.d tP (hid (enc (nH (ah c.1) (ah (hid (ao ((1:Int):Rat)))) (ah c.2.1) (ah (hid (ao ((0:Int):Rat)))) (ah c.2.2))))])))))
def Ue:Cn 110 [tO]:=cn λ(c:BO3)=>lf (cg c) [.d tP (enc (qz (dec c))),.d tP (enc (qZ (dec c)))] λh=>by
 refine az C9 (Vv c) ⟨0,?_⟩;have hc:=h;obtain⟨c,rfl,bc,nc⟩:=cN hc;have b0:Bd ((0:Int):Rat) 3:=fx (by decide);have b1:Bd ((1:Int):Rat) 3:=fx (by decide);have i0:decide (a9 0)=true:=by decide
 have i1:decide (a9 1)=true:=by decide
 unfold Vv qz qZ;simp only[aW,Nat.reduceLeDiff,i0,i1];rfl
def O9:List En:=enL S5::enL aa6::enL abs::enL Ue::C9
def abx:Ctx:=CX (ens O9) []
def VO(l c:BO3)(_k:KT):OLR:=let y1:=hid (ao (iX (dec l) (dec c)));let y2:=hid (ao (vlL (dec l) (ah c.1) (ah c.2.1)));let y3:=hid (ao (cE (dec l)));let y4:=hMu (hDi y2 y3) l.1;let y5:=hMu (hDi y2 y3) l.2.1;let y6:=hDi (hNe l.1) y3;let y7:=hNe (hDi l.2.1 y3);let y8:=ah (hSu c.2.1 y5);let y9:=enc (nH (ah (hSu c.1 y4)) (ah y7) y8 (ah (hNe y6)) (ah y1));let y10:=enc (nH (ah (hSu c.1 y4)) (ah (hDi l.2.1 y3)) y8 (ah y6) (ah y1));og (decide (cL l/\cg c)) (og (decide (cL l)) (og (o1 y1) (match decide ((aE (ah y1) 0)<0)with|true=>some [RV.new 37 tP []]|false=>(og (decide (cL l/\ok Rat 4 c.1/\ok Rat 4 c.2.1)) (og (decide (ij y2 y3)) (og (o2 (hDi y2 y3) l.1) (og (o2 c.1 y4) (og (o2 (hDi y2 y3) l.2.1) (og (o2 c.2.1 y5) (og (o1 y1) (match(aE (ah y1) 0)==0 with|true=>(og (decide (ok (Rat×Rat) 100000 (hSu c.1 y4,hSu c.2.1 y5))) (some [RV.new 37 tP ([hid (enc (atP (dec (hSu c.1 y4,hSu c.2.1 y5))))])]))|false=>(og (decide (ij l.2.1 y3)) (og (o1 l.1) (og (decide (ij (hNe l.1) y3)) (og (o1 (hDi l.2.1 y3)) (og (o1 y6) (og (decide (ok Rat 1000 (hSu c.1 y4)/\ok Rat 1000 y7/\ok Rat 1000 (hSu c.2.1 y5)/\ok Rat 1000 (hNe y6)/\ok Rat 1000 y1)) (og (decide (ok Rat 1000 (hSu c.1 y4)/\ok Rat 1000 (hDi l.2.1 y3)/\ok Rat 1000 (hSu c.2.1 y5)/\ok Rat 1000 y6/\ok Rat 1000 y1)) (og (decide (okP 4000 (hid y9)/\okP 4000 (hid y10))) (match decide ((aF (dec (hid y9)) (dec (hid y10)))>0)with|true=>some [RV.new 37 tP ([hid y10,hid y9])]|false=>some [RV.new 37 tP ([hid y9,hid y10])]))))))))))))))))))))
theorem aaF(l c:BO3):RS abx 92 [.d tO l,.d tO c] (VO l c):=rsX
def UL:Cn 92 [tO,tO]:=cn λ(l c:BO3)=>lf (cL l/\cg c) [.d (.sl tP) ((qC (dec l) (dec c)).map enc)] λh=>by
 refine Con.new_d (et:=37) (dm O9 (aaF _ _ ⟨0,?_⟩));obtain⟨hl,hc⟩:=h;obtain⟨l,rfl,bl,nl⟩:=d8 hl;obtain⟨c,rfl,bc,nc⟩:=cN hc;have ol:=afm (kL (l:=l) nl);have oc:=afm (gJ (c:=c) nc);have hn:=oh nl;have bv:Bd (vlL l c.1 c.2.1) 97:=inferInstanceAs (Bd (l.1*c.1+l.2.1*c.2.1-l.2.2) _);have bn:Bd (cE l) 49:=inferInstanceAs (Bd (l.1*l.1+l.2.1*l.2.1) _);have e1:c.1-vlL l c.1 c.2.1/cE l*l.1=ftX l c:=rfl;have e2:c.2.1-vlL l c.1 c.2.1/cE l*l.2.1=ftY l c:=rfl;obtain⟨f1,f2,_,_⟩:=tc (l:=l) (c:=c);unfold VO qC;simp only[aW,Nat.reduceAdd,Nat.reduceLeDiff,aq,au,ol,oc,hn,ne_eq,agP,e1,e2,IN];by_cases h0:iX l c<0
 ·simp only[afm h0];rfl
 ·simp only[afo h0];by_cases h1:iX l c=0
  ·simp only[afm h1];rfl
  ·have hp:=Ku h0 h1;obtain⟨p1,p2⟩:=LD (c:=c) nl (show 0<=iX l c by grind);obtain⟨q1,q2⟩:=NR (l:=l) (c:=c);have g1:nH (ftX l c) (-(l.2.1/cE l)) (ftY l c) (-(-l.1/cE l)) (iX l c)=ru l c:=rfl;have g2:nH (ftX l c) (l.2.1/cE l) (ftY l c) (-l.1/cE l) (iX l c)=rP l c:=rfl;simp only[afo h1,aW,Nat.reduceLeDiff,aQ,g1,g2];cases decide (aF (ru l c) (rP l c)>0)<;>rfl
def adJ:List En:=enL UL::O9
def SW(c d:BO3)(_k:KT):OLR:=og (decide (cg c/\cg d)) (match jb (dec c) (dec d)with|true=>(og (o2 c.2.2 d.2.2) (match(aE (ah c.2.2) (ah d.2.2))==0 with|true=>some [RV.d (.sl tP) ([]),RV.d aiy 10]|false=>some [RV.d (.sl tP) ([]),RV.d aiy 0]))|false=>(og (decide (cg c/\cg d)) (og (decide (cL (hid (uX (dec c) (dec d)))/\cg c)) (some [RV.d (.sl tP) ((qC (dec (hid (uX (dec c) (dec d)))) (dec c)).map enc),RV.d aiy 0]))))
def abN:Cn 91 [tO,tO]:=cn λ(c d:BO3)=>lf (cg c/\cg d) [.d (.sl tP) ((Cl (dec c) (dec d)).map enc),.d aiy (Qg (dec c) (dec d))] λh=>by
 refine az adJ (SW c d) ⟨0,?_⟩;obtain⟨hc,hd⟩:=h;obtain⟨c,rfl,bc,nc⟩:=cN hc;obtain⟨d,rfl,bd,nd⟩:=cN hd;have oc:=afm (gJ (c:=c) nc);have od:=afm (gJ (c:=d) nd);unfold SW Cl Qg;simp only[aW,Nat.reduceLeDiff,aq,oc,od];cases hc:jb c d
 ·have ol:cL (enc (nz c d)):=Lq hc;have er:uX c d=enc (nz c d):=by unfold uX;rw[hc];rfl
  simp only[er,dT ol,aW];try rfl
 ·cases decide (c.2.2=d.2.2)<;>rfl
end
section
def pQ(x u y v k:Rat):Pt:=mkP (mkR x u k) (mkR y v k)
def ftL(l c:Ln):Rat×Rat:=(ftX l c,ftY l c)
def AP(l c:Ln):Rat:=(ftX l c-c.1)*(ftX l c-c.1)+(ftY l c-c.2.1)*(ftY l c-c.2.1)
def fP(l c:Ln):Rat:=(c.2.2-AP l c)/cE l
def I2(l:Ln):Bool:=decide (l.2.1<0)||(decide (l.2.1=0)&&decide (-l.1<0))
def uu(l:Ln):Rat:=bif I2 l then-l.2.1 else l.2.1
def t8(l:Ln):Rat:=bif I2 l then- -l.1 else-l.1
def lcM(l c:Ln):Pt:=pQ (ftX l c) (-uu l) (ftY l c) (-t8 l) (fP l c)
def lcN(l c:Ln):Pt:=pQ (ftX l c) (uu l) (ftY l c) (t8 l) (fP l c)
def lH(l c:Ln):List Pt:=bif decide (fP l c<0)then []else bif decide (fP l c=0)then [atP (ftL l c)]else [lcM l c,lcN l c]
def Jt(l m:Ln):Int:=bif !decide (eO l m=0)then 0 else bif oK l m then 10 else 0
def yk(c d:Ln):List Pt:=bif jb c d then []else lH (nz c d) c
def Qb(c d:Ln):Int:=bif qy c d then 10 else 0
def iu(a b:Cv):List Pt:=bif a.1&&b.1 then yk (ciC a) (ciC b)else bif a.1 then lH (lnC b) (ciC a)else bif b.1 then lH (lnC a) (ciC b)else pO (lnC a) (lnC b)
def adi(a b:Cv):Int:=bif a.1&&b.1 then Qb (ciC a) (ciC b)else bif a.1 then 0 else bif b.1 then 0 else Jt (lnC a) (lnC b)
def uq(c:Ln):Pt:=pQ c.1 (-1) c.2.1 0 c.2.2
def tF(c:Ln):Pt:=pQ c.1 1 c.2.1 0 c.2.2
theorem Ru(l c:Ln):DP l (c.1,c.2.1)=ftL l c:=rfl
theorem Br{x u y v k:Rat}[h:Nn k]:Rpd (pQ x u y v k):=aas J1 J1 (zZ _ _ _ _ _)
section
variable {l c:Ln}
theorem W2 [BdL l]:Bd (uu l) 12/\Bd (t8 l) 12:=by
 unfold uu t8;cases I2 l
 ·exact⟨(inferInstance:Bd l.2.1 12),(inferInstance:Bd (-l.1) 12)⟩
 ·exact⟨(inferInstance:Bd (-l.2.1) 12),(inferInstance:Bd (- -l.1) 12)⟩
end
theorem zX{x u y v k:Rat}{a b c:Nat}(h1:Bd x a)(h2:Bd u b)(h3:Bd y a)(h4:Bd v b)(h5:Bd k c){n:Nat}(hn:a+(b+c)+1<=n):Bd (pQ x u y v k) n:=by
 have z:bdR n 0:=cj rB.le (by omega);have i1:Bd (mkR x u k) (a+(b+c)+1):=inferInstance;have i2:Bd (mkR y v k) (a+(b+c)+1):=inferInstance;have f1:=i1.mono hn;have f2:=i2.mono hn;refine⟨?_⟩;unfold pQ mkP rdP;dsimp only;refine⟨f1.le.1,f1.le.2.1,f2.le.1,f2.le.2.1,?_⟩;cases decide ((mkR x u k).2.1=0)&&decide ((mkR y v k).2.1=0)
 ·cases decide ((mkR x u k).2.1=0)
  ·exact f1.le.2.2
  ·exact f2.le.2.2
 ·exact z
section
variable {l c:Ln}
theorem OI [BdL l][h:BdC c]:Bd (fP l c) 1000:=by
 obtain⟨f1,f2,_,_⟩:=tc (l:=l) (c:=c);have hx:=h.x;have hy:=h.y;have hq:=h.q;have i1:Bd (cE l) 49:=inferInstanceAs (Bd (l.1*l.1+l.2.1*l.2.1) _);have i2:Bd (AP l c) 673:=(inferInstance:Bd ((ftX l c-c.1)*(ftX l c-c.1)+(ftY l c-c.2.1)*(ftY l c-c.2.1)) _).mono (by decide);exact(inferInstance:Bd ((c.2.2-AP l c)/cE l) _).mono (by decide)
theorem Eh [BdL l][h:BdC c]:Bd (ftL l c) 163:=by
 obtain⟨f1,f2,_,_⟩:=tc (l:=l) (c:=c);exact(inferInstance:Bd ((ftX l c,ftY l c):Rat×Rat) _).mono (by decide)
theorem WC [BdL l][BdC c]:Bd (lcM l c) 1200/\Bd (lcN l c) 1200:=by
 obtain⟨f1,f2,_,_⟩:=tc (l:=l) (c:=c);obtain⟨d1,d2⟩:=W2 (l:=l);have k:=OI (l:=l) (c:=c);have n1:Bd (-uu l) 12:=inferInstance;have n2:Bd (-t8 l) 12:=inferInstance;exact⟨zX f1 n1 f2 n2 k (by decide),zX f1 d1 f2 d2 k (by decide)⟩
theorem rV [BdL l][BdC c]:(lH l c).length<=2/\∀p∈lH l c,Bd p 1200/\Rpd p:=by
 unfold lH;by_cases h0:fP l c<0
 ·rw[afm h0];exact⟨by simp,λp hp=>by cases hp⟩
 ·rw[afo h0];by_cases h1:fP l c=0
  ·rw[afm h1];have:=Eh (l:=l) (c:=c);refine⟨by simp,λp hp=>?_⟩;have:p=atP (ftL l c):=by simpa using hp
   rw[this];exact⟨(inferInstance:Bd (atP (ftL l c)) _).mono (by decide),inferInstance⟩
  ·rw[afo h1];obtain⟨q1,q2⟩:=WC (l:=l) (c:=c);have nn:Nn (fP l c):=⟨by grind⟩
   refine⟨by simp,λp hp=>?_⟩;have:p=lcM l c\/p=lcN l c:=by simpa using hp
   rcases this with e|e<;>rw[e]
   ·exact⟨q1,Br⟩
   ·exact⟨q2,Br⟩
end
end
theorem kw(q:Rat):(aE q 0== -1)=decide (q<0):=by
 unfold aE;by_cases h:q<0
 ·rw[afm h];rfl
 ·rw[afo h];by_cases h':0<q
  ·rw[afm h'];rfl
  ·rw[afo h'];rfl
def rg:List En:=[⟨54,jA,fH⟩,⟨125,ju,fq⟩,⟨132,mA,jk⟩,⟨65,kp,gu⟩,⟨67,jC,fI⟩,⟨66,lI,ik⟩,⟨133,qO,l4⟩,⟨245,Ax,wQ⟩,enL adH,enL ZQ,enL ND,enL JF,enL Nj,enL Pj,enL Zz]
def Z2:Cn 304 [tR,tR]:=cn λ(a b:BR)=>lf (okR a/\okR b) [.d tR (ao (ah a+ah b))] λh=>kx [RV.d tR (hAd a b)] (dk rg) h
def Z7:Cn 257 [tR,tR]:=cn λ(a b:BR)=>lf (okR a/\okR b) [.d tR (ao (ah a-ah b))] λh=>kx [RV.d tR (hSu a b)] (dk rg) h
def aca:Cn 258 [tR,tR]:=cn λ(a b:BR)=>lf (okR a/\okR b) [.d tR (ao (ah a*ah b))] λh=>kx [RV.d tR (hMu a b)] (dk rg) h
def ac3:Cn 259 [tR,tR]:=cn λ(a b:BR)=>lf (ij a b) [.d tR (ao (ah a/ah b))] λh=>kx [RV.d tR (hDi a b)] (dk rg) h
def TD(a b:BR)(_k:KT):OLR:=match decide (okR a/\okR b)with|true=>some [RV.d .bool ((aE (ah a) (ah b))==0)]|false=>none
def abT:Cn 253 [tR,tR]:=cn λ(a b:BR)=>lf (okR a/\okR b) [.d .bool (decide (ah a=ah b))] λh=>by
 refine az rg (TD a b) ⟨0,?_⟩;unfold TD;rw[dT h];simp only[aq]
def S6(x u y v k:BR)(_k:KT):OLR:=og (decide (ok Rat 100000 x/\ok Rat 100000 u/\ok Rat 100000 k/\0<=ah k)) (og (decide (ok Rat 100000 y/\ok Rat 100000 v/\ok Rat 100000 k/\0<=ah k)) (og (decide (okT 15000 (hid (enc (mkR (ah x) (ah u) (ah k))))/\okT 15000 (hid (enc (mkR (ah y) (ah v) (ah k))))/\yl (dec (hid (enc (mkR (ah x) (ah u) (ah k))))) (dec (hid (enc (mkR (ah y) (ah v) (ah k))))))) (some [RV.d tP (hid (enc (mkP (dec (hid (enc (mkR (ah x) (ah u) (ah k))))) (dec (hid (enc (mkR (ah y) (ah v) (ah k))))))))])))
def aa1:Cn 177 [tR,tR,tR,tR,tR]:=cn λ(x u y v k:BR)=>lf (ok Rat 1000 x/\ok Rat 1000 u/\ok Rat 1000 y/\ok Rat 1000 v/\ok Rat 1000 k/\0<=ah k) [.d tP (enc (pQ (ah x) (ah u) (ah y) (ah v) (ah k)))] λh=>by
 refine az rg (S6 x u y v k) ⟨0,?_⟩;obtain⟨hx,hu,hy,hv,hk,h0⟩:=h;obtain⟨x,rfl,bx⟩:=aH hx;obtain⟨u,rfl,bu⟩:=aH hu;obtain⟨y,rfl,b_y⟩:=aH hy;obtain⟨v,rfl,bv⟩:=aH hv;obtain⟨k,rfl,bk⟩:=aH hk;have h0:0<=(dec (enc k):Rat):=h0;rw[aB]at h0;have nk:Nn k:=⟨h0⟩
 have n0:decide (0<=k)=true:=afm nk.le;have hm:decide (yl (mkR x u k) (mkR y v k))=true:=afm (zZ _ _ _ _ _);unfold S6 pQ;simp only[aW,Nat.reduceAdd,Nat.reduceLeDiff,aP,n0,hm];try rfl
def qv:List En:=enL Z2::enL Z7::enL aca::enL ac3::enT abT::enL aa1::rg
def UQ(l m:BO3)(_k:KT):OLR:=og (o2 l.1 m.2.1) (og (o2 m.1 l.2.1) (og (o2 (hMu l.1 m.2.1) (hMu m.1 l.2.1)) (match decide (ah (hMu l.1 m.2.1)=ah (hMu m.1 l.2.1))with|true=>(og (o2 l.1 m.2.2) (og (o2 m.1 l.2.2) (og (o2 (hMu l.1 m.2.2) (hMu m.1 l.2.2)) (match decide (ah (hMu l.1 m.2.2)=ah (hMu m.1 l.2.2))with|true=>(og (o2 l.2.1 m.2.2) (og (o2 m.2.1 l.2.2) (og (o2 (hMu l.2.1 m.2.2) (hMu m.2.1 l.2.2)) (some [RV.d .bool (decide (ah (hMu l.2.1 m.2.2)=ah (hMu m.2.1 l.2.2)))]))))|false=>some [RV.d .bool false]))))|false=>some [RV.d .bool false])))
def acA:Cn 168 [tO,tO]:=cn λ(l m:BO3)=>lf (cL l/\cL m) [.d .bool (oK (dec l) (dec m))] λh=>by
 refine az qv (UQ l m) ⟨0,?_⟩;obtain⟨hl,hm⟩:=h;obtain⟨l,rfl,bl,nl⟩:=d8 hl;obtain⟨m,rfl,bm,nm⟩:=d8 hm;unfold UQ oK;have c1:l.2.1*m.1=m.1*l.2.1:=ahk _ _;have c2:l.2.2*m.1=m.1*l.2.2:=ahk _ _;have c3:l.2.2*m.2.1=m.2.1*l.2.2:=ahk _ _;simp only[aW,Nat.reduceAdd,Nat.reduceLeDiff,c1,c2,c3];cases decide (l.1*m.2.1=m.1*l.2.1)<;>cases decide (l.1*m.2.2=m.1*l.2.2)<;>rfl
def UP(c d:BO3)(_k:KT):OLR:=og (o2 c.1 d.1) (match decide (ah c.1=ah d.1)with|true=>(og (o2 c.2.1 d.2.1) (match decide (ah c.2.1=ah d.2.1)with|true=>(og (o2 c.2.2 d.2.2) (some [RV.d .bool (decide (ah c.2.2=ah d.2.2))]))|false=>some [RV.d .bool false]))|false=>some [RV.d .bool false])
def acR:Cn 167 [tO,tO]:=cn λ(c d:BO3)=>lf (cg c/\cg d) [.d .bool (qy (dec c) (dec d))] λh=>by
 refine az qv (UP c d) ⟨0,?_⟩;obtain⟨hc,hd⟩:=h;obtain⟨c,rfl,bc,nc⟩:=cN hc;obtain⟨d,rfl,bd,nd⟩:=cN hd;unfold UP qy;simp only[aW,Nat.reduceLeDiff];cases decide (c.1=d.1)<;>cases decide (c.2.1=d.2.1)<;>rfl
def VY(c d:BO3)(_k:KT):OLR:=og (o2 c.1 d.1) (match(aE (ah c.1) (ah d.1))==0 with|true=>(og (o2 c.2.1 d.2.1) (some [RV.d .bool ((aE (ah c.2.1) (ah d.2.1))==0)]))|false=>some [RV.d .bool false])
def abM:Cn 254 [tO,tO]:=cn λ(c d:BO3)=>lf (cg c/\cg d) [.d .bool (jb (dec c) (dec d))] λh=>by
 refine az qv (VY c d) ⟨0,?_⟩;obtain⟨hc,hd⟩:=h;obtain⟨c,rfl,bc,nc⟩:=cN hc;obtain⟨d,rfl,bd,nd⟩:=cN hd;unfold VY jb;simp only[aW,Nat.reduceLeDiff,aq];cases decide (c.1=d.1)<;>rfl
def SX(c:BO3)(_k:KT):OLR:=og (o2 c.1 c.1) (og (o2 c.2.1 c.2.1) (og (o2 (hMu c.1 c.1) (hMu c.2.1 c.2.1)) (og (o2 (hAd (hMu c.1 c.1) (hMu c.2.1 c.2.1)) c.2.2) (some [RV.d tR (hSu (hAd (hMu c.1 c.1) (hMu c.2.1 c.2.1)) c.2.2)]))))
def aaO:Cn 303 [tO]:=cn λ(c:BO3)=>lf (cg c) [.d tR (ao (qB (dec c)))] λh=>by
 refine az qv (SX c) ⟨0,?_⟩;have hc:=h;obtain⟨c,rfl,bc,nc⟩:=cN hc;unfold SX qB;simp only[aW,Nat.reduceAdd,Nat.reduceLeDiff]
def Uy(l c:BO3)(_k:KT):OLR:=let y1:=hid (enc (DP (dec l) (dec (c.1,c.2.1))));let y2:=hSu (y1.2) c.2.1;let y3:=hMu (hSu (y1.1) c.1) (hSu (y1.1) c.1);let y4:=hAd y3 (hMu y2 y2);let y5:=hAd (hMu l.1 l.1) (hMu l.2.1 l.2.1);let y6:=ij (hSu c.2.2 y4) y5;let y7:=hDi (hSu c.2.2 y4) y5;let y8:OLR:=match decide y6 with|true=>some [RV.d tR y7,RV.d tV y1]|false=>none;let y9:OLR:=match decide (okR (hMu l.1 l.1)/\okR (hMu l.2.1 l.2.1))with|true=>y8|false=>none;let y10:OLR:=match decide (okR l.2.1/\okR l.2.1)with|true=>y9|false=>none;og (decide (ok Ln 300 l/\ok (Rat×Rat) 200 (c.1,c.2.1)/\((dec l:Ln).1≠0\/(dec l:Ln).2.1≠0))) (og (o2 (y1.1) c.1) (og (o2 (y1.2) c.2.1) (og (o2 (hSu (y1.1) c.1) (hSu (y1.1) c.1)) (og (o2 y2 y2) (og (o2 y3 (hMu y2 y2)) (og (o2 c.2.2 y4) (cS (og (o2 l.1 l.1) (cS (og (o2 l.2.1 l.2.1) (cS (og (o2 (hMu l.1 l.1) (hMu l.2.1 l.2.1)) (cS (og (decide y6) (dup (.b .l .l) (some [RV.d tR y7,RV.d tV y1]))) y8)) y9)) y10)) (og (o2 l.1 l.1) y10))))))))
def Z8:Cn 256 [tO,tO]:=cn λ(l c:BO3)=>lf (cL l/\cg c) [.d tR (ao (fP (dec l) (dec c))),.d tV (enc (ftL (dec l) (dec c)))] λh=>by
 refine az qv (Uy l c) ⟨0,?_⟩;obtain⟨hl,hc⟩:=h;obtain⟨l,rfl,bl,nl⟩:=d8 hl;obtain⟨c,rfl,bc,nc⟩:=cN hc;have ol:=afm (kL (l:=l) nl);have bl:Bd l 63:=Zl;have bv:Bd ((c.1,c.2.1):Rat×Rat) 4:=inferInstance;have hn:=oh nl;have bn:Bd (cE l) 49:=inferInstanceAs (Bd (l.1*l.1+l.2.1*l.2.1) _);have bf:=Eh (l:=l) (c:=c);have b1:Bd (ftL l c).1 163:=inferInstance;have b2:Bd (ftL l c).2 163:=inferInstance;have e1:l.1*l.1+l.2.1*l.2.1=cE l:=rfl;unfold Uy fP AP;simp only[aW,Nat.reduceAdd,Nat.reduceLeDiff,IN,nl,Ru,e1,hn,ne_eq,agP];try rfl
def Uo(c:BO3)(_k:KT):OLR:=og (decide (a9 (1:Int))) (og (decide (a9 (0:Int))) (og (o1 (hid (ao ((1:Int):Rat)))) (og (decide (ok Rat 1000 c.1/\ok Rat 1000 (hNe (hid (ao ((1:Int):Rat))))/\ok Rat 1000 c.2.1/\ok Rat 1000 (hid (ao ((0:Int):Rat)))/\ok Rat 1000 c.2.2/\0<=ah c.2.2)) (og (decide (ok Rat 1000 c.1/\ok Rat 1000 (hid (ao ((1:Int):Rat)))/\ok Rat 1000 c.2.1/\ok Rat 1000 (hid (ao ((0:Int):Rat)))/\ok Rat 1000 c.2.2/\0<=ah c.2.2)) (some [RV.d tP (hid (enc (pQ (ah c.1) (ah (hNe (hid (ao ((1:Int):Rat))))) (ah c.2.1) (ah (hid (ao ((0:Int):Rat)))) (ah c.2.2)))),RV.d tP (hid (enc (pQ (ah c.1) (ah (hid (ao ((1:Int):Rat)))) (ah c.2.1) (ah (hid (ao ((0:Int):Rat)))) (ah c.2.2))))])))))
def T1:Cn 78 [tO]:=cn λ(c:BO3)=>lf (cg c) [.d tP (enc (uq (dec c))),.d tP (enc (tF (dec c)))] λh=>by
 refine az qv (Uo c) ⟨0,?_⟩;have hc:=h;obtain⟨c,rfl,bc,nc⟩:=cN hc;have b0:Bd ((0:Int):Rat) 3:=fx (by decide);have b1:Bd ((1:Int):Rat) 3:=fx (by decide);have i0:decide (a9 0)=true:=by decide
 have i1:decide (a9 1)=true:=by decide
 have nc':decide (0<=c.2.2)=true:=afm (by grind);unfold Uo uq tF;simp only[aW,Nat.reduceLeDiff,i0,i1,nc'];rfl
def wi:List En:=enT acA::enT acR::enT abM::enL aaO::enL Z8::enL T1::qv
def UM(l m:BO3)(_k:KT):OLR:=og (o2 l.1 m.2.1) (og (o2 m.1 l.2.1) (og (o2 (hMu l.1 m.2.1) (hMu m.1 l.2.1)) (og (o1 (hSu (hMu l.1 m.2.1) (hMu m.1 l.2.1))) (match(aE (ah (hSu (hMu l.1 m.2.1) (hMu m.1 l.2.1))) 0)==0 with|true=>(og (decide (cL l/\cL m)) (match oK (dec l) (dec m)with|true=>some [RV.d (.sl tP) ([]),RV.d aiy 10]|false=>some [RV.d (.sl tP) ([]),RV.d aiy 0]))|false=>(og (o2 l.2.2 m.2.1) (og (o2 m.2.2 l.2.1) (og (o2 (hMu l.2.2 m.2.1) (hMu m.2.2 l.2.1)) (og (decide (ij (hSu (hMu l.2.2 m.2.1) (hMu m.2.2 l.2.1)) (hSu (hMu l.1 m.2.1) (hMu m.1 l.2.1)))) (og (o2 l.1 m.2.2) (og (o2 m.1 l.2.2) (og (o2 (hMu l.1 m.2.2) (hMu m.1 l.2.2)) (og (decide (ij (hSu (hMu l.1 m.2.2) (hMu m.1 l.2.2)) (hSu (hMu l.1 m.2.1) (hMu m.1 l.2.1)))) (og (decide (ok (Rat×Rat) 100000 (hDi (hSu (hMu l.2.2 m.2.1) (hMu m.2.2 l.2.1)) (hSu (hMu l.1 m.2.1) (hMu m.1 l.2.1)),hDi (hSu (hMu l.1 m.2.2) (hMu m.1 l.2.2)) (hSu (hMu l.1 m.2.1) (hMu m.1 l.2.1))))) (some [RV.d (.sl tP) ([hid (enc (atP (dec (hDi (hSu (hMu l.2.2 m.2.1) (hMu m.2.2 l.2.1)) (hSu (hMu l.1 m.2.1) (hMu m.1 l.2.1)),hDi (hSu (hMu l.1 m.2.2) (hMu m.1 l.2.2)) (hSu (hMu l.1 m.2.1) (hMu m.1 l.2.1))))))]),RV.d aiy 0]))))))))))))))
def abl:Cn 171 [tO,tO]:=cn λ(l m:BO3)=>lf (cL l/\cL m) [.d (.sl tP) ((pO (dec l) (dec m)).map enc),.d aiy (Jt (dec l) (dec m))] λh=>by
 refine az wi (UM l m) ⟨0,?_⟩;obtain⟨hl,hm⟩:=h;obtain⟨l,rfl,bl,nl⟩:=d8 hl;obtain⟨m,rfl,bm,nm⟩:=d8 hm;have ol:=afm (kL (l:=l) nl);have om:=afm (kL (l:=m) nm);have bc:Bd (eO l m) 49:=inferInstanceAs (Bd (l.1*m.2.1-m.1*l.2.1) _);have e0:l.1*m.2.1-m.1*l.2.1=eO l m:=rfl;have e1:l.2.2*m.2.1-m.2.2*l.2.1=nI l m:=rfl;have e2:l.1*m.2.2-m.1*l.2.2=nU l m:=rfl;have bx:Bd (nI l m) 151:=inferInstanceAs (Bd (l.2.2*m.2.1-m.2.2*l.2.1) _);have b_:Bd (nU l m) 151:=inferInstanceAs (Bd (l.1*m.2.2-m.1*l.2.2) _);unfold UM pO Jt;simp only[aW,Nat.reduceAdd,Nat.reduceLeDiff,aq,ol,om,e0,e1,e2];by_cases h0:eO l m=0
 ·simp only[afm h0,Bool.not_true];cases oK l m<;>rfl
 ·simp only[aW,Nat.reduceAdd,Nat.reduceLeDiff,h0,ne_eq,agP,Bool.not_false,IN];rfl
def TF(c d:BO3)(_k:KT):OLR:=og (decide (cg c/\cg d)) (match jb (dec c) (dec d)with|true=>some [RV.d tO (((false,[]),(false,[])),(((false,[]),(false,[])),((false,[]),(false,[])))),RV.d aiy 6]|false=>(og (decide (a9 (2:Int))) (og (o2 d.1 c.1) (og (o2 (hid (ao ((2:Int):Rat))) (hSu d.1 c.1)) (og (o2 d.2.1 c.2.1) (og (o2 (hid (ao ((2:Int):Rat))) (hSu d.2.1 c.2.1)) (og (decide (cg d)) (og (decide (cg c)) (og (o2 (hid (ao (qB (dec d)))) (hid (ao (qB (dec c))))) (some [RV.d tO (hMu (hid (ao ((2:Int):Rat))) (hSu d.1 c.1),(hMu (hid (ao ((2:Int):Rat))) (hSu d.2.1 c.2.1),hSu (hid (ao (qB (dec d)))) (hid (ao (qB (dec c)))))),RV.d aiy 0]))))))))))
def aaa:Cn 255 [tO,tO]:=cn λ(c d:BO3)=>lf (cg c/\cg d) [.d tO (uX (dec c) (dec d)),.d aiy (Ry (dec c) (dec d))] λh=>by
 refine az wi (TF c d) ⟨0,?_⟩;obtain⟨hc,hd⟩:=h;obtain⟨c,rfl,bc,nc⟩:=cN hc;obtain⟨d,rfl,bd,nd⟩:=cN hd;have oc:=afm (gJ (c:=c) nc);have od:=afm (gJ (c:=d) nd);have i2:decide (a9 2)=true:=by decide
 have b2:Bd ((2:Int):Rat) 3:=fx (by decide);have f1:Bd (qB c) 31:=(inferInstance:Bd (c.1*c.1+c.2.1*c.2.1-c.2.2) _).mono (by decide);have f2:Bd (qB d) 31:=(inferInstance:Bd (d.1*d.1+d.2.1*d.2.1-d.2.2) _).mono (by decide);unfold TF uX Ry;simp only[aW,Nat.reduceAdd,Nat.reduceLeDiff,oc,od,i2];cases jb c d
 ·rfl
 ·rfl
def abm:Ctx:=CX (ens wi) []
def TA(l c:BO3)(_k:KT):OLR:=let y1:=hid (ao (fP (dec l) (dec c)));let y2:=hid (enc (ftL (dec l) (dec c)));let y3:=aE (ah l.2.1) 0;let y4:=hNe (hNe (hNe l.1));let y5:=enc (pQ (ah (y2.1)) (ah (hNe l.2.1)) (ah (y2.2)) (ah (hNe (hNe l.1))) (ah y1));let y6:OLR:=match decide (okR l.2.1)with|true=>(og (o1 (hNe l.1)) (og (o1 (hNe l.2.1)) (og (o1 (hNe (hNe l.1))) (og (decide (ok Rat 1000 (y2.1)/\ok Rat 1000 (hNe (hNe l.2.1))/\ok Rat 1000 (y2.2)/\ok Rat 1000 y4/\ok Rat 1000 y1/\0<=ah y1)) (og (decide (ok Rat 1000 (y2.1)/\ok Rat 1000 (hNe l.2.1)/\ok Rat 1000 (y2.2)/\ok Rat 1000 (hNe (hNe l.1))/\ok Rat 1000 y1/\0<=ah y1)) (some [RV.new 37 tP ([hid (enc (pQ (ah (y2.1)) (ah (hNe (hNe l.2.1))) (ah (y2.2)) (ah y4) (ah y1))),hid y5])]))))))|false=>none;let y7:OLR:=match decide (okR l.2.1)with|true=>(og (o1 (hNe l.1)) (og (decide (ok Rat 1000 (y2.1)/\ok Rat 1000 (hNe l.2.1)/\ok Rat 1000 (y2.2)/\ok Rat 1000 (hNe (hNe l.1))/\ok Rat 1000 y1/\0<=ah y1)) (og (decide (ok Rat 1000 (y2.1)/\ok Rat 1000 l.2.1/\ok Rat 1000 (y2.2)/\ok Rat 1000 (hNe l.1)/\ok Rat 1000 y1/\0<=ah y1)) (some [RV.new 37 tP ([hid y5,hid (enc (pQ (ah (y2.1)) (ah l.2.1) (ah (y2.2)) (ah (hNe l.1)) (ah y1)))])]))))|false=>none;og (decide (cL l/\cg c)) (og (o1 y1) (match(aE (ah y1) 0)==(-1)with|true=>some [RV.new 37 tP []]|false=>(match(aE (ah y1) 0)==0 with|true=>(og (decide (ok (Rat×Rat) 100000 y2)) (some [RV.new 37 tP ([hid (enc (atP (dec y2)))])]))|false=>(og (o1 l.1) (og (o1 l.2.1) (match decide (y3<0)with|true=>y6|false=>(match y3==0 with|true=>(og (o1 (hNe l.1)) (match decide ((aE (ah (hNe l.1)) 0)<0)with|true=>y6|false=>y7))|false=>y7)))))))
theorem abI(l c:BO3):RS abm 170 [.d tO l,.d tO c] (TA l c):=rsX
def abb:Cn 170 [tO,tO]:=cn λ(l c:BO3)=>lf (cL l/\cg c) [.d (.sl tP) ((lH (dec l) (dec c)).map enc)] λh=>by
 refine Con.new_d (et:=37) (dm wi (abI _ _ ⟨0,?_⟩));obtain⟨hl,hc⟩:=h;obtain⟨l,rfl,bl,nl⟩:=d8 hl;obtain⟨c,rfl,bc,nc⟩:=cN hc;have ol:=afm (kL (l:=l) nl);have oc:=afm (gJ (c:=c) nc);have bf:=Eh (l:=l) (c:=c);have bk:=OI (l:=l) (c:=c);have b1:Bd (ftL l c).1 163:=inferInstance;have b2:Bd (ftL l c).2 163:=inferInstance;unfold TA lH;simp only[aW,Nat.reduceLeDiff,aq,au,kw,ol,oc];by_cases h0:fP l c<0
 ·simp only[afm h0];rfl
 ·simp only[afo h0];by_cases h1:fP l c=0
  ·simp only[afm h1];rfl
  ·have hp:decide (0<=fP l c)=true:=afm (by grind);simp only[afo h1,hp,aW];unfold lcM lcN uu t8 I2;cases decide (l.2.1<0)<;>cases decide (l.2.1=0)<;>cases decide (-l.1<0)<;>rfl
def K9:List En:=enL abl::enL aaa::enL abb::wi
def Vu(c d:BO3)(_k:KT):OLR:=og (decide (cg c/\cg d)) (match qy (dec c) (dec d)with|true=>some [RV.d (.sl tP) ([]),RV.d aiy 10]|false=>(og (decide (cg c/\cg d)) (match jb (dec c) (dec d)with|true=>some [RV.d (.sl tP) ([]),RV.d aiy 0]|false=>(og (decide (cg c/\cg d)) (og (decide (cL (hid (uX (dec c) (dec d)))/\cg c)) (some [RV.d (.sl tP) ((lH (dec (hid (uX (dec c) (dec d)))) (dec c)).map enc),RV.d aiy 0]))))))
def abz:Cn 169 [tO,tO]:=cn λ(c d:BO3)=>lf (cg c/\cg d) [.d (.sl tP) ((yk (dec c) (dec d)).map enc),.d aiy (Qb (dec c) (dec d))] λh=>by
 refine az K9 (Vu c d) ⟨0,?_⟩;obtain⟨hc,hd⟩:=h;obtain⟨c,rfl,bc,nc⟩:=cN hc;obtain⟨d,rfl,bd,nd⟩:=cN hd;have oc:=afm (gJ (c:=c) nc);have od:=afm (gJ (c:=d) nd);unfold Vu yk Qb;simp only[aW,oc,od];cases hs:qy c d
 ·cases hc:jb c d
  ·have ol:cL (enc (nz c d)):=Lq hc;have er:uX c d=enc (nz c d):=by unfold uX;rw[hc];rfl
   simp only[er,dT ol,aW];try rfl
  ·rfl
 ·have hc:jb c d=true:=by
   unfold qy at hs;unfold jb;cases h1:decide (c.1=d.1)
   ·rw[h1]at hs;cases hs
   ·cases h2:decide (c.2.1=d.2.1)
    ·rw[h1,h2]at hs;cases hs
    ·rfl
  rw[hc];rfl
def Ko:List En:=enL abz::K9
def Sx(a b:BCU)(_k:KT):OLR:=match a.1 with|true=>(match b.1 with|true=>(og (decide (cg a.2.2.1/\cg b.2.2.1)) (some [RV.d (.sl tP) ((yk (dec a.2.2.1) (dec b.2.2.1)).map enc),RV.d aiy (Qb (dec a.2.2.1) (dec b.2.2.1))]))|false=>(match a.1 with|true=>(og (decide (cL b.2.1/\cg a.2.2.1)) (some [RV.d (.sl tP) ((lH (dec b.2.1) (dec a.2.2.1)).map enc),RV.d aiy 0]))|false=>(match b.1 with|true=>(og (decide (cL a.2.1/\cg b.2.2.1)) (some [RV.d (.sl tP) ((lH (dec a.2.1) (dec b.2.2.1)).map enc),RV.d aiy 0]))|false=>(og (decide (cL a.2.1/\cL b.2.1)) (some [RV.d (.sl tP) ((pO (dec a.2.1) (dec b.2.1)).map enc),RV.d aiy (Jt (dec a.2.1) (dec b.2.1))])))))|false=>(match a.1 with|true=>(og (decide (cL b.2.1/\cg a.2.2.1)) (some [RV.d (.sl tP) ((lH (dec b.2.1) (dec a.2.2.1)).map enc),RV.d aiy 0]))|false=>(match b.1 with|true=>(og (decide (cL a.2.1/\cg b.2.2.1)) (some [RV.d (.sl tP) ((lH (dec a.2.1) (dec b.2.2.1)).map enc),RV.d aiy 0]))|false=>(og (decide (cL a.2.1/\cL b.2.1)) (some [RV.d (.sl tP) ((pO (dec a.2.1) (dec b.2.1)).map enc),RV.d aiy (Jt (dec a.2.1) (dec b.2.1))]))))
def SS:Cn 72 [tCU,tCU]:=cn λ(a b:BCU)=>lf (fX a b) [.d (.sl tP) ((iu (dC a) (dC b)).map enc),.d aiy (adi (dC a) (dC b))] λh=>by
 refine az Ko (Sx a b) ⟨0,?_⟩;obtain⟨⟨a1,a2⟩,b1,b2⟩:=h;unfold Sx iu adi;obtain⟨aa,al,ac,aw,af,at_⟩:=a;obtain⟨ba,bl,bc,bw,bf,bt⟩:=b;cases aa<;>cases ba
 ·have h1:=a2 rfl;have h2:=b2 rfl;simp only[dT (show cL al/\cL bl from⟨h1,h2⟩)];rfl
 ·have h1:=a2 rfl;have h2:=b1 rfl;simp only[dT (show cL al/\cg bc from⟨h1,h2⟩)];rfl
 ·have h1:=a1 rfl;have h2:=b2 rfl;simp only[dT (show cL bl/\cg ac from⟨h2,h1⟩)];rfl
 ·have h1:=a1 rfl;have h2:=b1 rfl;simp only[dT (show cg ac/\cg bc from⟨h1,h2⟩)];rfl
def Vk(a b:BCU)(_k:KT):OLR:=match !(a.1==b.1)with|true=>some [RV.d .bool false]|false=>(match a.1 with|true=>(og (decide (cg a.2.2.1/\cg b.2.2.1)) (some [RV.d .bool (qy (dec a.2.2.1) (dec b.2.2.1))]))|false=>(og (decide (cL a.2.1/\cL b.2.1)) (some [RV.d .bool (oK (dec a.2.1) (dec b.2.1))])))
def Va:Cn 71 [tCU,tCU]:=cn λ(a b:BCU)=>lf (fX a b) [.d .bool (cG (dC a) (dC b))] λh=>by
 refine az Ko (Vk a b) ⟨0,?_⟩;obtain⟨⟨a1,a2⟩,b1,b2⟩:=h;unfold Vk cG;obtain⟨aa,al,ac,aw,af,at_⟩:=a;obtain⟨ba,bl,bc,bw,bf,bt⟩:=b;cases aa<;>cases ba
 ·have h1:=a2 rfl;have h2:=b2 rfl;simp only[dT (show cL al/\cL bl from⟨h1,h2⟩)];rfl
 ·rfl
 ·rfl
 ·have h1:=a1 rfl;have h2:=b1 rfl;simp only[dT (show cg ac/\cg bc from⟨h1,h2⟩)];rfl
def mG(c:BCU):Prop:=okC 580 c/\DS c
instance (c:BCU):Decidable (mG c):=by unfold mG;infer_instance
def gi(c d:BCU):Prop:=mG c/\mG d
instance (c d:BCU):Decidable (gi c d):=by unfold gi;infer_instance
def Dm(c d:BCU):List BP:=bif !cG (dC c) (dC d)then(uN (dC c) (dC d)).map enc else [c.2.2.2.2.1,c.2.2.2.2.2,d.2.2.2.2.1,d.2.2.2.2.2]
def W5(c d:BCU):List BP:=(Dm c d).filter λp=>onR (dC c) (dec p)&&onR (dC d) (dec p)
def bU(c d:BCU):List BP:=fM (dC c) (W5 c d)
def Cd(c d:BCU):Bool:=bif c.1&&(d.1&&(c.2.2.2.1 !=d.2.2.2.1))then true else !c.1&&(aF (dec c.2.2.2.2.1) (dec c.2.2.2.2.2) !=aF (dec d.2.2.2.2.1) (dec d.2.2.2.2.2))
def jE(c d:BCU):BCU:=bif Cd c d then gb d else d
def oB(c:Cv):List BP->Bool
 |[]=>false
 |x::r=>match r with
  |[]=>false
  |y::_=>decide (bz c (dec x) (dec y)<0)||oB c r
def ZY(c d:BCU):Bool:=cG (dC c) (dC d)&&oB (dC (jE c d)) (bU c d)
def OG:List En:=[enL abN,enL UL,enL S5,enT Wv,enT Yp,enT Dy,enT Dh,enK Oo,enL Ib,enT ul]
def MI(a b:BCU)(_k:KT):OLR:=match a.1 with|true=>(match b.1 with|true=>(og (decide (cg a.2.2.1/\cg b.2.2.1)) (some [RV.d (.sl tP) ((Cl (dec a.2.2.1) (dec b.2.2.1)).map enc),RV.d aiy (Qg (dec a.2.2.1) (dec b.2.2.1))]))|false=>(match a.1 with|true=>(og (decide (cL b.2.1/\cg a.2.2.1)) (some [RV.d (.sl tP) ((qC (dec b.2.1) (dec a.2.2.1)).map enc),RV.d aiy 0]))|false=>(match b.1 with|true=>(og (decide (cL a.2.1/\cg b.2.2.1)) (some [RV.d (.sl tP) ((qC (dec a.2.1) (dec b.2.2.1)).map enc),RV.d aiy 0]))|false=>(og (decide (cL a.2.1/\cL b.2.1)) (some [RV.d (.sl tP) ((pO (dec a.2.1) (dec b.2.1)).map enc),RV.d aiy (LW (dec a.2.1) (dec b.2.1))])))))|false=>(match a.1 with|true=>(og (decide (cL b.2.1/\cg a.2.2.1)) (some [RV.d (.sl tP) ((qC (dec b.2.1) (dec a.2.2.1)).map enc),RV.d aiy 0]))|false=>(match b.1 with|true=>(og (decide (cL a.2.1/\cg b.2.2.1)) (some [RV.d (.sl tP) ((qC (dec a.2.1) (dec b.2.2.1)).map enc),RV.d aiy 0]))|false=>(og (decide (cL a.2.1/\cL b.2.1)) (some [RV.d (.sl tP) ((pO (dec a.2.1) (dec b.2.1)).map enc),RV.d aiy (LW (dec a.2.1) (dec b.2.1))]))))
def WB:Cn 33 [tCU,tCU]:=cn λ(a b:BCU)=>lf (fX a b) [.d (.sl tP) ((uN (dC a) (dC b)).map enc),.d aiy (Un (dC a) (dC b))] λh=>by
 refine az OG (MI a b) ⟨0,?_⟩;obtain⟨⟨a1,a2⟩,b1,b2⟩:=h;unfold MI uN Un Cl;obtain⟨aa,al,ac,aw,af,at_⟩:=a;obtain⟨ba,bl,bc,bw,bf,bt⟩:=b;cases aa<;>cases ba
 ·have h1:=a2 rfl;have h2:=b2 rfl;simp only[dT (show cL al/\cL bl from⟨h1,h2⟩)];rfl
 ·have h1:=a2 rfl;have h2:=b1 rfl;simp only[dT (show cL al/\cg bc from⟨h1,h2⟩)];rfl
 ·have h1:=a1 rfl;have h2:=b2 rfl;simp only[dT (show cL bl/\cg ac from⟨h2,h1⟩)];rfl
 ·have h1:=a1 rfl;have h2:=b1 rfl;simp only[dT (show cg ac/\cg bc from⟨h1,h2⟩)];rfl
def Ut(a b:BCU)(_k:KT):OLR:=match !(a.1==b.1)with|true=>some [RV.d .bool false]|false=>(match a.1 with|true=>(og (decide (cg a.2.2.1/\cg b.2.2.1)) (some [RV.d .bool (qy (dec a.2.2.1) (dec b.2.2.1))]))|false=>(og (decide (cL a.2.1/\cL b.2.1)) (some [RV.d .bool (oK (dec a.2.1) (dec b.2.1))])))
def VC:Cn 32 [tCU,tCU]:=cn λ(a b:BCU)=>lf (fX a b) [.d .bool (cG (dC a) (dC b))] λh=>by
 refine az OG (Ut a b) ⟨0,?_⟩;obtain⟨⟨a1,a2⟩,b1,b2⟩:=h;unfold Ut cG;obtain⟨aa,al,ac,aw,af,at_⟩:=a;obtain⟨ba,bl,bc,bw,bf,bt⟩:=b;cases aa<;>cases ba
 ·have h1:=a2 rfl;have h2:=b2 rfl;simp only[dT (show cL al/\cL bl from⟨h1,h2⟩)];rfl
 ·rfl
 ·rfl
 ·have h1:=a1 rfl;have h2:=b1 rfl;simp only[dT (show cg ac/\cg bc from⟨h1,h2⟩)];rfl
def UD:List En:=enL WB::enT VC::OG
def W6:NT:=[((8,18),{keep:=[2,3,6,7,8,9],own:=[(8,37,tP)],hl:=4}),((8,47),{keep:=[3,6,8,10,11],hl:=2})]
def rJ:Ctx:=CX (ens UD) W6
def pF(c d:BCU)(s9:Int)(r3:List BP):Cfg:=⟨8,[.blk 0,.seq 33],[(2,.box 0 0),(3,.box 1 0),(6,SB (cG (dC c) (dC d))),(7,.d (.sl tP) ((uN (dC c) (dC d)).map enc)),(8,.own 3),(9,SI s9)],[.box 39 (Ty.split tCU c),.box 39 (Ty.split tCU d),.row 37 tP ([c.2.2.2.2.1,c.2.2.2.2.2,d.2.2.2.2.1,d.2.2.2.2.2]),.row 37 tP r3],0,[]⟩
def jT(c d:BCU)(s9:Int)(r3:List BP):Cfg:=⟨8,[.blk 0,.seq 33],[(2,.box 0 0),(3,.box 1 0),(6,SB (cG (dC c) (dC d))),(7,.own 2),(8,.own 3),(9,SI s9)],[.box 39 (Ty.split tCU c),.box 39 (Ty.split tCU d),.row 37 tP ([c.2.2.2.2.1,c.2.2.2.2.2,d.2.2.2.2.1,d.2.2.2.2.2]),.row 37 tP r3],0,[]⟩
def cQ(c d:BCU)(r3:List BP)(B1:BCU)(s10:Bool)(s11:Int):Cfg:=⟨8,[.blk 2,.seq 58],[(3,.box 1 0),(6,SB (cG (dC c) (dC d))),(8,.d (.sl tP) (fM (dC c) r3)),(10,SB s10),(11,SI s11)],[.box 39 (Ty.split tCU c),.box 39 (Ty.split tCU B1)],0,[]⟩
def Li(c d:BCU)(k:KT):OLR:=og (decide (fX c d)) (match !(cG (dC c) (dC d))with|true=>(og (decide (fX c d)) (k 18 (pF c d 0 ([]))))|false=>k 18 (jT c d 0 ([])))
theorem UV(c d:BCU):RS rJ 8 [.d tCU c,.d tCU d] (Li c d):=rsX
def oS(c d:BCU)(s9:Int)(r3:List BP)(k:KT):OLR:=match decide (s9<(((uN (dC c) (dC d)).map enc).length:Int))with|true=>(match aG ((uN (dC c) (dC d)).map enc) s9 with|some x1=>(og (decide (okC 3500 c/\okP 3500 x1)) (match onR (dC c) (dec x1)with|true=>(match aG ((uN (dC c) (dC d)).map enc) s9 with|some x2=>(og (decide (okC 3500 d/\okP 3500 x2)) (match onR (dC d) (dec x2)with|true=>(match aG ((uN (dC c) (dC d)).map enc) s9 with|some x3=>(og (decide ((r3.length+([x3]).length)*320<=140737488355328/\r3.length+([x3]).length<=140737488355328)) (k 18 (pF c d (i64.wrap (s9+1)) (r3++([x3])))))|none=>none)|false=>k 18 (pF c d (i64.wrap (s9+1)) r3)))|none=>none)|false=>k 18 (pF c d (i64.wrap (s9+1)) r3)))|none=>none)|false=>(og (decide (uY c r3)) (match c.1 with|true=>(match d.1 with|true=>(match !(c.2.2.2.1==d.2.2.2.1)with|true=>k 47 (cQ c d r3 (hid (gb d)) false 1)|false=>(match !c.1 with|true=>(og (decide (okP 4000 c.2.2.2.2.1/\okP 4000 c.2.2.2.2.2)) (og (decide (okP 4000 d.2.2.2.2.1/\okP 4000 d.2.2.2.2.2)) (match(aF (dec c.2.2.2.2.1) (dec c.2.2.2.2.2)) !=(aF (dec d.2.2.2.2.1) (dec d.2.2.2.2.2))with|true=>k 47 (cQ c d r3 (hid (gb d)) false 1)|false=>k 47 (cQ c d r3 d false 1))))|false=>k 47 (cQ c d r3 d false 1)))|false=>(match !c.1 with|true=>(og (decide (okP 4000 c.2.2.2.2.1/\okP 4000 c.2.2.2.2.2)) (og (decide (okP 4000 d.2.2.2.2.1/\okP 4000 d.2.2.2.2.2)) (match(aF (dec c.2.2.2.2.1) (dec c.2.2.2.2.2)) !=(aF (dec d.2.2.2.2.1) (dec d.2.2.2.2.2))with|true=>k 47 (cQ c d r3 (hid (gb d)) false 1)|false=>k 47 (cQ c d r3 d false 1))))|false=>k 47 (cQ c d r3 d false 1)))|false=>(match !c.1 with|true=>(og (decide (okP 4000 c.2.2.2.2.1/\okP 4000 c.2.2.2.2.2)) (og (decide (okP 4000 d.2.2.2.2.1/\okP 4000 d.2.2.2.2.2)) (match(aF (dec c.2.2.2.2.1) (dec c.2.2.2.2.2)) !=(aF (dec d.2.2.2.2.1) (dec d.2.2.2.2.2))with|true=>k 47 (cQ c d r3 (hid (gb d)) false 1)|false=>k 47 (cQ c d r3 d false 1))))|false=>k 47 (cQ c d r3 d false 1))))
theorem tD(c d:BCU)(s9:Int)(r3:List BP):RN rJ 18 (pF c d s9 r3) (oS c d s9 r3):=rnX
def kU(c d:BCU)(s9:Int)(r3:List BP)(k:KT):OLR:=match decide (s9<(([c.2.2.2.2.1,c.2.2.2.2.2,d.2.2.2.2.1,d.2.2.2.2.2]).length:Int))with|true=>(match aG ([c.2.2.2.2.1,c.2.2.2.2.2,d.2.2.2.2.1,d.2.2.2.2.2]) s9 with|some _=>(match true,([c.2.2.2.2.1,c.2.2.2.2.2,d.2.2.2.2.1,d.2.2.2.2.2])[(s9).toNat]? with|true,some x1=>(og (decide (okC 3500 c/\okP 3500 x1)) (match onR (dC c) (dec x1)with|true=>(match aG ([c.2.2.2.2.1,c.2.2.2.2.2,d.2.2.2.2.1,d.2.2.2.2.2]) s9 with|some _=>(match true,([c.2.2.2.2.1,c.2.2.2.2.2,d.2.2.2.2.1,d.2.2.2.2.2])[(s9).toNat]? with|true,some x2=>(og (decide (okC 3500 d/\okP 3500 x2)) (match onR (dC d) (dec x2)with|true=>(match aG ([c.2.2.2.2.1,c.2.2.2.2.2,d.2.2.2.2.1,d.2.2.2.2.2]) s9 with|some _=>(match true,([c.2.2.2.2.1,c.2.2.2.2.2,d.2.2.2.2.1,d.2.2.2.2.2])[(s9).toNat]? with|true,some x3=>(og (decide ((r3.length+([x3]).length)*320<=140737488355328/\r3.length+([x3]).length<=140737488355328)) (k 18 (jT c d (i64.wrap (s9+1)) (r3++([x3])))))|_,_=>none)|none=>none)|false=>k 18 (jT c d (i64.wrap (s9+1)) r3)))|_,_=>none)|none=>none)|false=>k 18 (jT c d (i64.wrap (s9+1)) r3)))|_,_=>none)|none=>none)|false=>(og (decide (uY c r3)) (match c.1 with|true=>(match d.1 with|true=>(match !(c.2.2.2.1==d.2.2.2.1)with|true=>k 47 (cQ c d r3 (hid (gb d)) false 1)|false=>(match !c.1 with|true=>(og (decide (okP 4000 c.2.2.2.2.1/\okP 4000 c.2.2.2.2.2)) (og (decide (okP 4000 d.2.2.2.2.1/\okP 4000 d.2.2.2.2.2)) (match(aF (dec c.2.2.2.2.1) (dec c.2.2.2.2.2)) !=(aF (dec d.2.2.2.2.1) (dec d.2.2.2.2.2))with|true=>k 47 (cQ c d r3 (hid (gb d)) false 1)|false=>k 47 (cQ c d r3 d false 1))))|false=>k 47 (cQ c d r3 d false 1)))|false=>(match !c.1 with|true=>(og (decide (okP 4000 c.2.2.2.2.1/\okP 4000 c.2.2.2.2.2)) (og (decide (okP 4000 d.2.2.2.2.1/\okP 4000 d.2.2.2.2.2)) (match(aF (dec c.2.2.2.2.1) (dec c.2.2.2.2.2)) !=(aF (dec d.2.2.2.2.1) (dec d.2.2.2.2.2))with|true=>k 47 (cQ c d r3 (hid (gb d)) false 1)|false=>k 47 (cQ c d r3 d false 1))))|false=>k 47 (cQ c d r3 d false 1)))|false=>(match !c.1 with|true=>(og (decide (okP 4000 c.2.2.2.2.1/\okP 4000 c.2.2.2.2.2)) (og (decide (okP 4000 d.2.2.2.2.1/\okP 4000 d.2.2.2.2.2)) (match(aF (dec c.2.2.2.2.1) (dec c.2.2.2.2.2)) !=(aF (dec d.2.2.2.2.1) (dec d.2.2.2.2.2))with|true=>k 47 (cQ c d r3 (hid (gb d)) false 1)|false=>k 47 (cQ c d r3 d false 1))))|false=>k 47 (cQ c d r3 d false 1))))
theorem nT(c d:BCU)(s9:Int)(r3:List BP):RN rJ 18 (jT c d s9 r3) (kU c d s9 r3):=rnX
def oV(c d:BCU)(r3:List BP)(B1:BCU)(s10:Bool)(s11:Int)(k:KT):OLR:=match cG (dC c) (dC d)with|true=>(match decide (s11<((fM (dC c) r3).length:Int))with|true=>(match s10 with|true=>k 47 (cQ c d r3 B1 true (i64.wrap (s11+1)))|false=>(match aG (fM (dC c) r3) (i64.wrap (s11-1))with|some x1=>(match aG (fM (dC c) r3) s11 with|some x2=>(og (decide (okC 4000 B1/\okP 4000 x1/\okP 4000 x2)) (k 47 (cQ c d r3 B1 (decide ((bz (dC B1) (dec x1) (dec x2))<0)) (i64.wrap (s11+1)))))|none=>none)|none=>none))|false=>some [RV.d (.sl tP) (fM (dC c) r3),RV.d .bool s10])|false=>some [RV.d (.sl tP) (fM (dC c) r3),RV.d .bool s10]
theorem t3(c d:BCU)(r3:List BP)(B1:BCU)(s10:Bool)(s11:Int):RN rJ 47 (cQ c d r3 B1 s10 s11) (oV c d r3 B1 s10 s11):=rnX
theorem KE{c:Cv}{S:List BP}{i:Nat}(h1:1<=i)(hi:i<S.length):oB c (S.drop (i-1))=(decide (bz c (dec S[i-1]) (dec S[i])<0)||oB c (S.drop i)):=by
 have hd:S.drop (i-1)=S[i-1]::S.drop i:=by
  have:=afC (l:=S) (i:=i-1) (by omega);rw[this,show i-1+1=i by omega]
 have hd2:S.drop i=S[i]::S.drop (i+1):=afC hi;rw[hd,hd2];rfl
theorem Rl{c:Cv}{S:List BP}(h:S.length<=1):oB c S=false:=by
 match S,h with
 |[],_=>rfl
 |[_],_=>rfl
theorem W3(c d:BCU)(r3 S:List BP)(hS:fM (dC c) r3=S)(hl:S.length<=1000000)(ho:∀x∈S,okP 4000 x)(B:BCU)(hB:okC 4000 B):∀(j i:Nat),1<=i->i+j=max S.length 1->∀s:Bool,
  rJ.Runs 47 (cQ c d r3 B s (i:Int)) [.d (.sl tP) S,.d .bool (bif cG (dC c) (dC d)then s||oB (dC B) (S.drop (i-1))else s)]:=by
 intro j;induction j with
 |zero=>
  intro i h1 hi s;refine t3 _ _ _ _ _ _ ⟨0,?_⟩;unfold oV;rw[hS,bO (by omega),Rl (by rw[agZ];omega),Bool.or_false];cases cG (dC c) (dC d)<;>rfl
 |succ j ih=>
  intro i h1 hi s;have hil:i<S.length:=by omega
  have e1:i64.wrap ((i:Int)-1)=((i-1:Nat):Int):=by rw[aM (by omega) (by omega)];omega
  have e2:i64.wrap ((i:Int)+1)=((i+1:Nat):Int):=bH (by omega);have g1:aG S ((i-1:Nat):Int)=some S[i-1]:=by rw[am,afn (by omega)]
  have g2:aG S (i:Int)=some S[i]:=by rw[am,afn hil]
  cases hs:cG (dC c) (dC d)
  ·refine t3 _ _ _ _ _ _ ⟨0,?_⟩;unfold oV;rw[hS,hs];rfl
  ·obtain⟨n,hn⟩:=ih (i+1) (by omega) (by omega) (s||decide (bz (dC B) (dec S[i-1]) (dec S[i])<0));refine t3 _ _ _ _ _ _ ⟨n,?_⟩;unfold oV;rw[hS,hs,aY hil,e1,e2,g1,g2];dsimp only;rw[dT (show okC 4000 B/\okP 4000 S[i-1]/\okP 4000 S[i] from⟨hB,ho _ (afU _),ho _ (afU _)⟩)];rw[hs,Nat.add_sub_cancel,Bool.or_assoc,<-KE h1 hil]at hn;cases s
   ·exact hn
   ·simp only[Bool.true_or,cond_true]at hn ⊢;exact hn
theorem Hz{c:Cv}{l:List BP}{p:BP->Prop}(h:∀x∈l,p x):∀x∈fM c l,p x:=λx hx=>by
 rcases Am hx with h'|h'
 ·cases h'
 ·exact h x h'
theorem Hy(c d:BCU)(h:gi c d)(r3:List BP)(hl:r3.length<=100)(ho:∀x∈r3,okP 580 x):∃n,(match decide (uY c r3)with
  |true=>rJ.k n 47 (cQ c d r3 (jE c d) false 1)
  |false=>none)=some [.d (.sl tP) (fM (dC c) r3),.d .bool (cG (dC c) (dC d)&&oB (dC (jE c d)) (fM (dC c) r3))]:=by
 have hs:uY c r3:=⟨bZ h.1.1 (by decide) (by decide),by omega,λx hx=>cp (ho x hx) (by decide) (by decide)⟩
 have hR:okC 4000 (jE c d):=by
  unfold jE;have:=bZ (k:=4000) h.2.1 (by decide) (by decide);cases Cd c d
  ·exact this
  ·exact Eu 4000 this
 have hlen:=vi (dC c) r3 [];obtain⟨n,hn⟩:=W3 c d r3 _ rfl (by simp at hlen;unfold fM;omega) (Hz (λx hx=>cp (ho x hx) (by decide) (by decide))) (jE c d) hR (max (fM (dC c) r3).length 1-1) 1 (afs _) (by omega) false;refine⟨n,?_⟩;rw[dT hs];refine hn.trans ?_;cases cG (dC c) (dC d)<;>rfl
theorem Bx{l c:Ln}[BdL l][BdC c](hl:l.1≠0\/l.2.1≠0):(qC l c).length<=2/\∀p∈qC l c,Bd p 490/\Rpd p:=by
 unfold qC;by_cases h0:iX l c<0
 ·rw[afm h0];exact⟨by simp,λp hp=>by cases hp⟩
 ·rw[afo h0];by_cases h1:iX l c=0
  ·rw[afm h1];obtain⟨f1,f2,_,_⟩:=tc (l:=l) (c:=c);refine⟨by simp,λp hp=>?_⟩;have:p=atP (ftX l c,ftY l c):=by simpa using hp
   rw[this];exact⟨(inferInstance:Bd (atP (ftX l c,ftY l c)) _).mono (by decide),inferInstance⟩
  ·rw[afo h1];obtain⟨p1,p2⟩:=LD (c:=c) hl (show 0<=iX l c by grind);obtain⟨q1,q2⟩:=NR (l:=l) (c:=c);cases decide (aF (ru l c) (rP l c)>0)
   ·refine⟨by simp,λp hp=>?_⟩;have:p=ru l c\/p=rP l c:=by simpa using hp
    rcases this with e|e<;>rw[e]
    ·exact⟨q1,p1⟩
    ·exact⟨q2,p2⟩
   ·refine⟨by simp,λp hp=>?_⟩;have:p=rP l c\/p=ru l c:=by simpa using hp
    rcases this with e|e<;>rw[e]
    ·exact⟨q2,p2⟩
    ·exact⟨q1,p1⟩
theorem vO{l m:Ln}[BdL l][BdL m]:(pO l m).length<=2/\∀p∈pO l m,Bd p 490/\Rpd p:=by
 unfold pO;cases decide (eO l m=0)
 ·have bc:Bd (eO l m) 49:=inferInstanceAs (Bd (l.1*m.2.1-m.1*l.2.1) _);have bx:Bd (nI l m) 151:=inferInstanceAs (Bd (l.2.2*m.2.1-m.2.2*l.2.1) _);have b_:Bd (nU l m) 151:=inferInstanceAs (Bd (l.1*m.2.2-m.1*l.2.2) _);refine⟨by simp,λp hp=>?_⟩;have:p=atP (nI l m/eO l m,nU l m/eO l m):=by simpa using hp
  rw[this];exact⟨(inferInstance:Bd (atP (nI l m/eO l m,nU l m/eO l m)) _).mono (by decide),inferInstance⟩
 ·exact⟨by simp,λp hp=>by cases hp⟩
theorem Qk{c d:BCU}(h:fX c d):(uN (dC c) (dC d)).length<=2/\∀p∈uN (dC c) (dC d),Bd p 490/\Rpd p:=by
 obtain⟨⟨a1,a2⟩,b1,b2⟩:=h;obtain⟨aa,al,ac,aw,af,at_⟩:=c;obtain⟨ba,bl,bc,bw,bf,bt⟩:=d
 have ex1:∀x:BO3,cL x->BdL (dec x)/\((dec x:Ln).1≠0\/(dec x:Ln).2.1≠0):=λx h=>by
  obtain⟨l,rfl,bl,nl⟩:=d8 h;rw[aB];exact⟨bl,nl⟩
 have ex2:∀x:BO3,cg x->BdC (dec x):=λx h=>by
  obtain⟨l,rfl,bl,nl⟩:=cN h;rw[aB];exact bl
 unfold uN;cases aa<;>cases ba
 ·obtain⟨i1,_⟩:=ex1 _ (a2 rfl);obtain⟨i2,_⟩:=ex1 _ (b2 rfl);exact vO (l:=dec al) (m:=dec bl)
 ·obtain⟨i1,n1⟩:=ex1 _ (a2 rfl);have i2:=ex2 _ (b1 rfl);exact Bx (l:=dec al) (c:=dec bc) n1
 ·have i1:=ex2 _ (a1 rfl);obtain⟨i2,n2⟩:=ex1 _ (b2 rfl);exact Bx (l:=dec bl) (c:=dec ac) n2
 ·have i1:=ex2 _ (a1 rfl);have i2:=ex2 _ (b1 rfl);show(Cl (dec ac) (dec bc)).length<=2/\∀p∈Cl (dec ac) (dec bc),Bd p 490/\Rpd p;unfold Cl;cases hc:jb (dec ac) (dec bc)
  ·have i3:BdL (nz (dec ac) (dec bc)):=v9;exact Bx (EM hc)
  ·exact⟨by simp,λp hp=>by cases hp⟩
theorem Ge{c d:BCU}(h:gi c d):(Dm c d).length<=4/\∀x∈Dm c d,okP 580 x:=by
 obtain⟨⟨h1,h2⟩,h3,h4⟩:=h;unfold Dm;cases cG (dC c) (dC d)
 ·obtain⟨g1,g2⟩:=Qk (show fX c d from⟨h2,h4⟩);refine⟨by simp only[Bool.not_false,cond_true,agS];omega,λx hx=>?_⟩;obtain⟨p,hp,rfl⟩:=agE.1 hx;obtain⟨b,r⟩:=g2 p hp;exact afp (aQ (j:=490) (by decide) (by decide))
 ·refine⟨by simp,λx hx=>?_⟩;have:x=c.2.2.2.2.1\/x=c.2.2.2.2.2\/x=d.2.2.2.2.1\/x=d.2.2.2.2.2:=by simpa using hx
  rcases this with e|e|e|e<;>rw[e]
  ·exact h1.2.2.1
  ·exact h1.2.2.2
  ·exact h3.2.2.1
  ·exact h3.2.2.2
def l9(c d:BCU)(p:BP):Bool:=onR (dC c) (dec p)&&onR (dC d) (dec p)
theorem EK(c d:BCU)(h:gi c d)(L:List BP)(hL:(uN (dC c) (dC d)).map enc=L)(h4:L.length<=4)(ho:∀x∈L,okP 580 x):∀(j i:Nat),i+j=L.length->∀r3:List BP,r3.length<=i->(∀x∈r3,okP 580 x)->
  rJ.Runs 18 (pF c d (i:Int) r3) [.d (.sl tP) (fM (dC c) (r3++(L.drop i).filter (l9 c d))),.d .bool (cG (dC c) (dC d)&&oB (dC (jE c d)) (fM (dC c) (r3++(L.drop i).filter (l9 c d))))]:=by
 intro j;induction j with
 |zero=>
  intro i hi r3 hr h3;obtain⟨n,hn⟩:=Hy c d h r3 (by omega) h3;refine tD _ _ _ _ ⟨n,?_⟩;have hd:L.drop i=[]:=List.drop_eq_nil_iff.2 (by omega);rw[hd,ah5,afO,<-hn];unfold oS;rw[hL,bO (by omega)];have hs:uY c r3:=⟨bZ h.1.1 (by decide) (by decide),by omega,λx hx=>cp (h3 x hx) (by decide) (by decide)⟩
  have o1:decide (okP 4000 c.2.2.2.2.1/\okP 4000 c.2.2.2.2.2)=true:=afm ⟨cp h.1.1.2.2.1 (by decide) (by decide),cp h.1.1.2.2.2 (by decide) (by decide)⟩;have o2:decide (okP 4000 d.2.2.2.2.1/\okP 4000 d.2.2.2.2.2)=true:=afm ⟨cp h.2.1.2.2.1 (by decide) (by decide),cp h.2.1.2.2.2 (by decide) (by decide)⟩;rw[dT hs,o1,o2];dsimp only;unfold jE Cd bne;simp only[bL];cases c.1<;>cases d.1<;>cases(c.2.2.2.1==d.2.2.2.1)<;>cases(aF (dec c.2.2.2.2.1) (dec c.2.2.2.2.2)==aF (dec d.2.2.2.2.1) (dec d.2.2.2.2.2))<;>rfl
 |succ j ih=>
  intro i hi r3 hr h3;have hil:i<L.length:=by omega
  have e2:i64.wrap ((i:Int)+1)=((i+1:Nat):Int):=bH (by omega);have g2:aG L (i:Int)=some L[i]:=by rw[am,afn hil]
  have g3:L[((i:Int)).toNat]?=some L[i]:=by rw[show((i:Int)).toNat=i by omega,afn hil]
  have hx:=ho _ (afU hil);have hd:L.drop i=L[i]::L.drop (i+1):=afC hil;have ox:=cp (k:=3500) hx (by decide) (by decide);have o1:decide (okC 3500 c/\okP 3500 L[i])=true:=afm ⟨bZ h.1.1 (by decide) (by decide),ox⟩;have o2:decide (okC 3500 d/\okP 3500 L[i])=true:=afm ⟨bZ h.2.1 (by decide) (by decide),ox⟩
  have hf:(L.drop i).filter (l9 c d)=bif l9 c d L[i]then L[i]::(L.drop (i+1)).filter (l9 c d)else(L.drop (i+1)).filter (l9 c d):=by
   rw[hd,ag0];cases l9 c d L[i]<;>rfl
  cases hb:l9 c d L[i]
  ·rw[hb]at hf;obtain⟨n,hn⟩:=ih (i+1) (by omega) r3 (by omega) h3;refine tD _ _ _ _ ⟨n,?_⟩;rw[hf];dsimp only[cond_false];rw[<-hn];unfold l9 at hb;unfold oS;rw[hL,aY hil,g2,e2];dsimp only;try rw[g3]
   try dsimp only
   rw[o1,o2];cases h1:onR (dC c) (dec L[i])
   ·rfl
   ·rw[h1,agc]at hb;rw[hb]
  ·rw[hb]at hf
   obtain⟨n,hn⟩:=ih (i+1) (by omega) (r3++[L[i]]) (by simp;omega) (λx hx'=>by
    rcases afL.1 hx' with h'|h'
    ·exact h3 x h'
    ·have:x=L[i]:=by simpa using h'
     rw[this];exact hx)
   refine tD _ _ _ _ ⟨n,?_⟩;rw[hf];dsimp only[cond_true];rw[afG]at hn;refine Eq.trans ?_ hn;unfold l9 at hb;obtain⟨h1,h2⟩:=afz.1 hb;unfold oS;rw[hL,aY hil,g2,e2];dsimp only;try rw[g3]
   try dsimp only
   rw[o1,o2,h1,h2];dsimp only;rw[dT (by simp;omega)]
theorem Bm(c d:BCU)(h:gi c d)(L:List BP)(hL:[c.2.2.2.2.1,c.2.2.2.2.2,d.2.2.2.2.1,d.2.2.2.2.2]=L)(h4:L.length<=4)(ho:∀x∈L,okP 580 x):∀(j i:Nat),i+j=L.length->∀r3:List BP,r3.length<=i->(∀x∈r3,okP 580 x)->
  rJ.Runs 18 (jT c d (i:Int) r3) [.d (.sl tP) (fM (dC c) (r3++(L.drop i).filter (l9 c d))),.d .bool (cG (dC c) (dC d)&&oB (dC (jE c d)) (fM (dC c) (r3++(L.drop i).filter (l9 c d))))]:=by
 intro j;induction j with
 |zero=>
  intro i hi r3 hr h3;obtain⟨n,hn⟩:=Hy c d h r3 (by omega) h3;refine nT _ _ _ _ ⟨n,?_⟩;have hd:L.drop i=[]:=List.drop_eq_nil_iff.2 (by omega);rw[hd,ah5,afO,<-hn];unfold kU;rw[hL,bO (by omega)];have hs:uY c r3:=⟨bZ h.1.1 (by decide) (by decide),by omega,λx hx=>cp (h3 x hx) (by decide) (by decide)⟩
  have o1:decide (okP 4000 c.2.2.2.2.1/\okP 4000 c.2.2.2.2.2)=true:=afm ⟨cp h.1.1.2.2.1 (by decide) (by decide),cp h.1.1.2.2.2 (by decide) (by decide)⟩;have o2:decide (okP 4000 d.2.2.2.2.1/\okP 4000 d.2.2.2.2.2)=true:=afm ⟨cp h.2.1.2.2.1 (by decide) (by decide),cp h.2.1.2.2.2 (by decide) (by decide)⟩;rw[dT hs,o1,o2];dsimp only;unfold jE Cd bne;simp only[bL];cases c.1<;>cases d.1<;>cases(c.2.2.2.1==d.2.2.2.1)<;>cases(aF (dec c.2.2.2.2.1) (dec c.2.2.2.2.2)==aF (dec d.2.2.2.2.1) (dec d.2.2.2.2.2))<;>rfl
 |succ j ih=>
  intro i hi r3 hr h3;have hil:i<L.length:=by omega
  have e2:i64.wrap ((i:Int)+1)=((i+1:Nat):Int):=bH (by omega);have g2:aG L (i:Int)=some L[i]:=by rw[am,afn hil]
  have g3:L[((i:Int)).toNat]?=some L[i]:=by rw[show((i:Int)).toNat=i by omega,afn hil]
  have hx:=ho _ (afU hil);have hd:L.drop i=L[i]::L.drop (i+1):=afC hil;have ox:=cp (k:=3500) hx (by decide) (by decide);have o1:decide (okC 3500 c/\okP 3500 L[i])=true:=afm ⟨bZ h.1.1 (by decide) (by decide),ox⟩;have o2:decide (okC 3500 d/\okP 3500 L[i])=true:=afm ⟨bZ h.2.1 (by decide) (by decide),ox⟩
  have hf:(L.drop i).filter (l9 c d)=bif l9 c d L[i]then L[i]::(L.drop (i+1)).filter (l9 c d)else(L.drop (i+1)).filter (l9 c d):=by
   rw[hd,ag0];cases l9 c d L[i]<;>rfl
  cases hb:l9 c d L[i]
  ·rw[hb]at hf;obtain⟨n,hn⟩:=ih (i+1) (by omega) r3 (by omega) h3;refine nT _ _ _ _ ⟨n,?_⟩;rw[hf];dsimp only[cond_false];rw[<-hn];unfold l9 at hb;unfold kU;rw[hL,aY hil,g2,e2];dsimp only;try rw[g3]
   try dsimp only
   rw[o1,o2];cases h1:onR (dC c) (dec L[i])
   ·rfl
   ·rw[h1,agc]at hb;rw[hb]
  ·rw[hb]at hf
   obtain⟨n,hn⟩:=ih (i+1) (by omega) (r3++[L[i]]) (by simp;omega) (λx hx'=>by
    rcases afL.1 hx' with h'|h'
    ·exact h3 x h'
    ·have:x=L[i]:=by simpa using h'
     rw[this];exact hx)
   refine nT _ _ _ _ ⟨n,?_⟩;rw[hf];dsimp only[cond_true];rw[afG]at hn;refine Eq.trans ?_ hn;unfold l9 at hb;obtain⟨h1,h2⟩:=afz.1 hb;unfold kU;rw[hL,aY hil,g2,e2];dsimp only;try rw[g3]
   try dsimp only
   rw[o1,o2,h1,h2];dsimp only;rw[dT (by simp;omega)]
def Vr:Cn 8 [tCU,tCU]:=cn λ(c d:BCU)=>lf (gi c d) [.d (.sl tP) (bU c d),.d .bool (ZY c d)] λh=>by
 obtain⟨h4,ho⟩:=Ge h;have hsp:fX c d:=⟨h.1.2,h.2.2⟩
 refine dm UD (show rJ.Res _ _ _ from ?_);unfold Dm at h4 ho;unfold bU ZY bU W5 Dm;cases hs:cG (dC c) (dC d)
 ·rw[hs]at h4 ho;obtain⟨n,hn⟩:=EK c d h _ rfl h4 ho _ 0 (afY _) [] (afs _) (λx hx=>by cases hx);refine UV _ _ ⟨n,?_⟩;unfold Li;rw[dT hsp,hs];rw[hs]at hn;exact hn
 ·rw[hs]at h4 ho;obtain⟨n,hn⟩:=Bm c d h _ rfl h4 ho _ 0 (afY _) [] (afs _) (λx hx=>by cases hx);refine UV _ _ ⟨n,?_⟩;unfold Li;rw[dT hsp,hs];rw[hs]at hn;exact hn
end Go.Proofs.YtagbmoohboleaaaGreat
end
