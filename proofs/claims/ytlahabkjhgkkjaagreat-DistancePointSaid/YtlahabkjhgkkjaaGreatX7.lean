/- Great integers in ai of nine digits: the plain laws. -/
import Derived.Test.YtlahabkjhgkkjaaGreatX6
noncomputable section
namespace Go.Proofs.YtlahabkjhgkkjaaGreat
open Go.RowKit Go.IntKind
theorem auc:type_of% @Bool.true_and:=@Bool.true_and
theorem aum:type_of% @Int.mul_le_mul_of_nonneg_left:=@Int.mul_le_mul_of_nonneg_left
theorem auq:type_of% @Int.mul_le_mul_of_nonneg_right:=@Int.mul_le_mul_of_nonneg_right
theorem auC:type_of% @Int.lt_or_le:=@Int.lt_or_le
theorem auI:type_of% @Nat.min_eq_left:=@Nat.min_eq_left
theorem auJ:type_of% @Int.le_of_lt:=@Int.le_of_lt
theorem auL:type_of% @Int.emod_lt_of_pos:=@Int.emod_lt_of_pos
theorem auU:type_of% @Int.mul_ediv_add_emod:=@Int.mul_ediv_add_emod
theorem auX:type_of% @IntKind.wrap_u64:=@IntKind.wrap_u64
theorem au5:type_of% @Int.mul_nonneg:=@Int.mul_nonneg
theorem au7:type_of% @List.getElem_mem:=@List.getElem_mem
theorem avd:type_of% @Int.ediv_nonneg:=@Int.ediv_nonneg
theorem avi:type_of% @Int.emod_nonneg:=@Int.emod_nonneg
theorem avq:type_of% @Int.ediv_eq_zero_of_lt:=@Int.ediv_eq_zero_of_lt
theorem avz:type_of% @Int.one_mul:=@Int.one_mul
theorem avB:type_of% @List.getElem_set_ne:=@List.getElem_set_ne
theorem avG:type_of% @Int.ediv_lt_of_lt_mul:=@Int.ediv_lt_of_lt_mul
theorem avL:type_of% @Int.mul_comm:=@Int.mul_comm
theorem avS:type_of% @Int.add_mul_ediv_left:=@Int.add_mul_ediv_left
theorem avY:type_of% @Int.lt_trichotomy:=@Int.lt_trichotomy
theorem av3:type_of% @Int.add_mul_emod_self_left:=@Int.add_mul_emod_self_left
theorem av5:type_of% @Int.mul_zero:=@Int.mul_zero
theorem av9:type_of% @Int.mul_one:=@Int.mul_one
theorem awa:type_of% @Int.mul_le_mul:=@Int.mul_le_mul
theorem awf:type_of% @Int.emod_eq_of_lt:=@Int.emod_eq_of_lt
theorem awl:type_of% @List.drop_length:=@List.drop_length
theorem aws:type_of% @Int.lt_of_lt_of_le:=@Int.lt_of_lt_of_le
theorem awS:type_of% @Int.add_zero:=@Int.add_zero
theorem awT:type_of% @Int.add_comm:=@Int.add_comm
theorem aw3:type_of% @Int.mul_add:=@Int.mul_add
theorem dT{p:Prop}{i:Decidable p}(h:p): @decide p i=true:=at7 h
theorem dF{p:Prop}{i:Decidable p}(h:¬p): @decide p i=false:=at9 h
def val:List Int→Int
 |[]=>0
 |x::xs=>x+1000000000*val xs
def Lim(l:List Int):Prop:=∀x∈l,0≤x∧x<1000000000
instance (l:List Int):Decidable (Lim l):=by unfold Lim;infer_instance
def pw(n:Nat):Int:=1000000000^n
theorem kR:pw 0=1:=rfl
theorem ce(n:Nat):pw (n+1)=pw n*1000000000:=by simp[pw,Int.pow_succ]
theorem b8(n:Nat):0<pw n:=Int.pow_pos (by decide)
theorem eO(m n:Nat):pw (m+n)=pw m*pw n:=Int.pow_add _ _ _
theorem c7{m n:Nat}(h:m≤n):pw m≤pw n:=by
 obtain⟨k,rfl⟩:=Nat.exists_eq_add_of_le h
 rw[eO]
 have h1:=b8 m
 have h2:=b8 k
 have:=aum (show 1≤pw k by omega) (auJ h1)
 omega
theorem Lim.nil:Lim []:=fun _ h=>by cases h
theorem Lim.cons{x:Int}{l:List Int}(h1:0≤x∧x<1000000000)(h2:Lim l):Lim (x::l):=fun y hy=>by
 rcases auK.1 hy with rfl|hy
 ·exact h1
 ·exact h2 y hy
theorem Lim.head{x:Int}{l:List Int}(h:Lim (x::l)):0≤x∧x<1000000000:=h x (by simp)
theorem Lim.tail{x:Int}{l:List Int}(h:Lim (x::l)):Lim l:=fun y hy=>h y (by simp[hy])
theorem Lim.append{a b:List Int}(h1:Lim a)(h2:Lim b):Lim (a++b):=fun y hy=>by
 rcases auN.1 hy with hy|hy
 ·exact h1 y hy
 ·exact h2 y hy
theorem Lim.left{a b:List Int}(h:Lim (a++b)):Lim a:=fun y hy=>h y (by simp[hy])
theorem Lim.right{a b:List Int}(h:Lim (a++b)):Lim b:=fun y hy=>h y (by simp[hy])
theorem Lim.take{a:List Int}(h:Lim a)(n:Nat):Lim (a.take n):=fun y hy=>h y (awb hy)
theorem Lim.drop{a:List Int}(h:Lim a)(n:Nat):Lim (a.drop n):=fun y hy=>h y (awc hy)
theorem Lim.set{a:List Int}(h:Lim a)(n:Nat){y:Int}(hy:0≤y∧y<1000000000):Lim (a.set n y):=fun z hz=>by
 rcases List.mem_or_eq_of_mem_set hz with hz|rfl
 ·exact h z hz
 ·exact hy
theorem Lim.get{a:List Int}(h:Lim a){n:Nat}(hn:n<a.length):0≤a[n]∧a[n]<1000000000:=h _ (au7 hn)
theorem Lim.rep(n:Nat):Lim (List.replicate n 0):=fun y hy=>by
 rw[List.eq_of_mem_replicate hy];decide
theorem dh(a b:List Int):val (a++b)=val a+pw a.length*val b:=by
 induction a with
 |nil=>simp[val,pw]
 |cons x a ih=>
  simp only[List.cons_append,val,ih,auD,ce]
  grind
theorem bg{l:List Int}(h:Lim l):0≤val l:=by
 induction l with
 |nil=>exact Int.le_refl _
 |cons x l ih=>
  have:=ih h.tail
  have:=h.head
  simp only[val]
  omega
theorem bZ{l:List Int}(h:Lim l):val l<pw l.length:=by
 induction l with
 |nil=>exact Int.zero_lt_one
 |cons x l ih=>
  have:=ih h.tail
  have:=h.head
  simp only[val,auD,ce]
  omega
theorem zL:∀{a b:List Int},Lim a→Lim b→a.length=b.length→val a=val b→a=b
 |[],[],_,_,_,_=>rfl
 |[],_::_,_,_,h,_=>by simp at h
 |_::_,[],_,_,h,_=>by simp at h
 |x::a,y::b,h1,h2,hl,hv=>by
  have k1:=h1.head
  have k2:=h2.head
  simp only[val]at hv
  have e:x=y:=by omega
  subst e
  rw[zL h1.tail h2.tail (by simpa using hl) (by omega)]
theorem fJ(n:Nat):val (List.replicate n 0)=0:=by
 induction n with
 |zero=>rfl
 |succ n ih=>simp[List.replicate_succ,val,ih]
theorem bk{l:List Int}{n:Nat}(h:n<l.length):val (l.take (n+1))=val (l.take n)+pw n*l[n]:=by
 rw[List.take_succ_eq_append_getElem h,dh]
 simp[val,auI (Nat.le_of_lt h)]
theorem eF:∀{l:List Int} {n:Nat} (h:n<l.length) (y:Int),val (l.set n y)=val l+pw n*(y-l[n])
 |[],_,h,_=>by simp at h
 |x::l,0,_,y=>by simp only[List.set_cons_zero,val,kR,List.getElem_cons_zero];omega
 |x::l,n+1,h,y=>by
  have:=eF (l:=l) (n:=n) (by simpa using h) y
  simp only[List.set_cons_succ,val,this,ce,List.getElem_cons_succ]
  grind
theorem fe(l:List Int)(n:Nat):val l=val (l.take n)+pw (min n l.length)*val (l.drop n):=by
 have:=dh (l.take n) (l.drop n)
 rw[avu]at this
 rw[this]
 simp
def dig:Nat→Int→List Int
 |0,_=>[]
 |n+1,v=>v%1000000000::dig n (v/1000000000)
theorem gU:∀(n:Nat) (v:Int),(dig n v).length=n
 |0,_=>rfl
 |n+1,v=>by simp[dig,gU n]
theorem ld:∀(n:Nat) (v:Int),Lim (dig n v)
 |0,_=>Lim.nil
 |n+1,v=>Lim.cons (by omega) (ld n _)
theorem f0:∀(n:Nat) (v:Int),0≤v→v<pw n→val (dig n v)=v
 |0,v,h1,h2=>by simp only[kR]at h2;simp only[dig,val];omega
 |n+1,v,h1,h2=>by
  rw[ce]at h2
  simp only[dig,val]
  rw[f0 n (v/1000000000) (by omega) (by omega)]
  omega
theorem BS{l:List Int}{n:Nat}{v:Int}(h:Lim l)(hl:l.length=n)(hv:val l=v):l=dig n v:=by
 subst hl hv
 exact zL h (ld _ _) (gU _ _).symm (f0 _ _ (bg h) (bZ h)).symm
def lbF:Nat→Nat→List Int
 |0,_=>[]
 |f+1,n=>bif n==0 then []else((n%1000000000:Nat):Int)::lbF f (n/1000000000)
def ai(n:Nat):List Int:=lbF (n.log2+1) n
theorem pV(f:Nat):lbF f 0=[]:=by cases f<;>rfl
theorem CD:∀(f g n:Nat),n<2^f→n<2^g→lbF f n=lbF g n
 |0,g,n,h,_=>by
  have:n=0:=by simpa using h
  subst this
  rw[pV,pV]
 |f+1,0,n,_,h=>by
  have:n=0:=by simpa using h
  subst this
  rw[pV,pV]
 |f+1,g+1,n,h1,h2=>by
  rw[Nat.pow_succ]at h1 h2
  simp only[lbF]
  rw[CD f g (n/1000000000) (by omega) (by omega)]
theorem Pc{f n:Nat}(h:n<2^f):ai n=lbF f n:=CD _ _ _ Nat.lt_log2_self h
theorem eD:ai 0=[]:=rfl
theorem fR{n:Nat}(h:n≠0):ai n=((n%1000000000:Nat):Int)::ai (n/1000000000):=by
 have h1:n/1000000000<2^n.log2:=by
  have:=Nat.lt_log2_self (n:=n)
  rw[Nat.pow_succ]at this
  omega
 rw[Pc (f:=n.log2) h1]
 unfold ai
 simp only[lbF]
 rw[show(n==0)=false by simpa using h]
 rfl
theorem nF{motive:Nat→Prop}(h0:motive 0)(h1:∀n,n≠0→motive (n/1000000000)→motive n)(n:Nat):motive n:=by
 induction n using Nat.strongRecOn with
 |ind n ih=>
  by_cases hn:n=0
  ·subst hn;exact h0
  ·exact h1 n hn (ih _ (by omega))
theorem b9(n:Nat):Lim (ai n):=by
 induction n using nF with
 |h0=>exact Lim.nil
 |h1 n hn ih=>rw[fR hn];exact Lim.cons (by omega) ih
theorem bL(n:Nat):val (ai n)=(n:Int):=by
 induction n using nF with
 |h0=>rfl
 |h1 n hn ih=>rw[fR hn];simp only[val,ih];omega
def can(l:List Int):Prop:=Lim l∧l.getLast?≠some 0
instance (l:List Int):Decidable (can l):=by unfold can;infer_instance
theorem dK(n:Nat):can (ai n):=by
 refine⟨b9 n,?_⟩
 induction n using nF with
 |h0=>simp[eD]
 |h1 n hn ih=>
  rw[fR hn]
  by_cases hz:n/1000000000=0
  ·rw[hz,eD]
   simp
   omega
  ·have hne:ai (n/1000000000)≠[]:=by rw[fR hz];simp
   rw[List.getLast?_cons_of_ne_nil hne]
   exact ih
theorem JQ{x:Int}{l:List Int}(h:can (x::l)):can l:=by
 refine⟨h.1.tail,fun e=>h.2 ?_⟩
 have hne:l≠[]:=fun e'=>by subst e';simp at e
 rw[List.getLast?_cons_of_ne_nil hne]
 exact e
theorem d7:∀{l:List Int},can l→l≠[]→0<val l
 |[],_,h=>by cases h rfl
 |[x],h,_=>by
  have:=h.1.head
  have h2:=h.2
  simp at h2
  simp only[val]
  omega
 |x::y::l,h,_=>by
  have:=d7 (JQ h) (by simp)
  have:=h.1.head
  simp only[val]at*
  omega
theorem l7:∀{l:List Int},can l→l=ai (val l).toNat
 |[],_=>rfl
 |x::l,h=>by
  have ih:=l7 (JQ h)
  have hp:=d7 h (by simp)
  have hx:=h.1.head
  have hn:=bg h.1.tail
  rw[fR (by omega)]
  simp only[val]at hp ⊢
  rw[show(x+1000000000*val l).toNat%1000000000=x.toNat by omega,show(x+1000000000*val l).toNat/1000000000=(val l).toNat by omega,←ih]
  rw[show((x.toNat:Nat):Int)=x by omega]
theorem c8{n k:Nat}(h:(n:Int)<pw k):(ai n).length≤k:=by
 induction k generalizing n with
 |zero=>
  have:n=0:=by simp only[kR]at h;omega
  subst this
  simp[eD]
 |succ k ih=>
  rw[ce]at h
  by_cases hn:n=0
  ·subst hn;simp[eD]
  ·rw[fR hn]
   have:=ih (n:=n/1000000000) (by omega)
   simp;omega
theorem AB{n k:Nat}(h:pw k≤(n:Int)):k<(ai n).length:=by
 rcases auz k (ai n).length with h1|h1
 ·exact h1
 ·have h2:=bZ (b9 n)
  rw[bL]at h2
  have:=c7 h1
  omega
theorem fU{n:Nat}:ai n=[]↔n=0:=by
 constructor
 ·intro h
  have:=bL n
  rw[h]at this
  simp[val]at this
  omega
 ·rintro rfl;rfl
def ak(z:Int):Bool×List Int:=(decide (z<0),ai z.natAbs)
def ah(x:Bool×List Int):Int:=bif x.1 then-val x.2 else val x.2
theorem dec_enc(z:Int):ah (ak z)=z:=by
 unfold ah ak
 rw[bL]
 by_cases h:z<0
 ·rw[at7 h];simp only[cond_true];omega
 ·rw[at9 h];simp only[cond_false];omega
def ck(a b:Int):Int:=bif decide (a<b)then-1 else bif decide (b<a)then 1 else 0
abbrev y0Y:Ty:=.st (.pair .str (.int .u64))
abbrev y1Y:Ty:=.st (.pair (.int .i64) (.int .i64))
abbrev y2Y:Ty:=.st (.pair .bool (.sl (.int .u32)))
abbrev y3Y:Ty:=.st (.pair (.int .i16) (.pair (.int .i16) (.int .u8)))
abbrev y4Y:Ty:=.st (.pair (.int .i64) (.pair (.int .i64) (.pair .bool (.int .u8))))
abbrev y5Y:Ty:=.st (.pair (.int .i16) (.pair (.int .i16) (.pair (.int .i16) (.pair (.int .i16) (.pair (.int .u16) (.int .u8))))))
abbrev y6Y:Ty:=.st (.pair (.int .u8) (.pair (.int .u8) (.pair (.int .i8) (.pair (.int .i8) (.pair (.int .i8) (.pair (.int .i8) (.pair (.int .i8) (.int .i8))))))))
abbrev y7Y:Ty:=.st (.pair (.st (.pair y2Y y2Y)) (.st (.pair y2Y y2Y)))
abbrev y8Y:Ty:=.st (.pair (.st (.pair y2Y y2Y)) (.pair (.st (.pair y2Y y2Y)) (.st (.pair y2Y y2Y))))
abbrev y9Y:Ty:=.st (.pair y6Y (.pair y6Y (.int .u8)))
abbrev Uc:Ty:=.st (.pair (.st (.pair y2Y y2Y)) (.pair (.st (.pair y2Y y2Y)) (.pair (.st (.pair y2Y y2Y)) (.pair (.st (.pair y2Y y2Y)) (.st (.pair y2Y y2Y))))))
abbrev aoB:Ty:=.st (.pair (.st (.pair y2Y y2Y)) (.pair (.st (.pair y2Y y2Y)) (.pair (.st (.pair y2Y y2Y)) (.pair (.st (.pair y2Y y2Y)) (.pair (.st (.pair y2Y y2Y)) (.st (.pair y2Y y2Y)))))))
abbrev agQ:Ty:=.st (.pair .bool (.pair y8Y (.pair y8Y (.pair .bool (.pair Uc Uc)))))
abbrev axe:Ty:=.sl (.int .u32)
abbrev axf:Ty:=.int .i64
abbrev axg:Ty:=.int .u32
def tN(n:Nat)(t:Ty):Nat×TI:=(n,⟨t,[],0,0,0,true⟩)
def tU(n:Nat):Nat×TI:=(n,⟨.int .i64,[],0,0,0,false⟩)
def tS(n:Nat)(t:Ty)(l:List (Nat×Nat)):Nat×TI:=(n,⟨t,l,0,0,0,true⟩)
def tA(n:Nat)(t:Ty)(e l:Nat):Nat×TI:=(n,⟨t,[],e,l,0,true⟩)
def tLs(n:Nat)(t:Ty)(e b:Nat):Nat×TI:=(n,⟨t,[],e,0,b,true⟩)
def tys:TT:=[tU 1,
 tN 2 axf,
 tN 3 axf,
 tN 4 .bool,
 tN 5 (.int .u8),
 tN 6 (.int .u8),
 tS 7 y4Y [(0,1),(1,1),(2,1),(3,1)],
 tS 8 y4Y [(0,1),(1,1),(2,1),(3,1)],
 tN 9 .str,
 tN 10 .str,
 tN 11 .str,
 tN 12 (.int .u64),
 tS 13 y0Y [(0,1),(1,1)],
 tS 14 y0Y [(0,1),(1,1)],
 tU 15,
 tU 16,
 tU 17,
 tN 21 (.int .i32),
 tN 22 (.int .i8),
 tS 23 y6Y [(0,1),(1,1),(2,1),(3,1),(4,1),(5,1),(6,1),(7,1)],
 tS 24 y6Y [(0,1),(1,1),(2,1),(3,1),(4,1),(5,1),(6,1),(7,1)],
 tS 25 y9Y [(0,8),(8,8),(16,1)],
 tS 26 y9Y [(0,8),(8,8),(16,1)],
 tN 27 (.int .i16),
 tS 28 y3Y [(0,1),(1,1),(2,1)],
 tS 29 y3Y [(0,1),(1,1),(2,1)],
 tU 30,
 tLs 31 axe 183 4,
 tS 32 y2Y [(0,1),(1,1)],
 tS 33 y2Y [(0,1),(1,1)],
 tS 34 (.st (.pair y2Y y2Y)) [(0,2),(2,2)],
 tS 35 (.st (.pair y2Y y2Y)) [(0,2),(2,2)],
 tS 36 y8Y [(0,4),(4,4),(8,4)],
 tS 37 y8Y [(0,4),(4,4),(8,4)],
 tS 38 y8Y [(0,4),(4,4),(8,4)],
 tS 39 y8Y [(0,4),(4,4),(8,4)],
 tS 40 Uc [(0,4),(4,4),(8,4),(12,4),(16,4)],
 tS 41 Uc [(0,4),(4,4),(8,4),(12,4),(16,4)],
 tS 42 agQ [(0,1),(1,12),(13,12),(25,1),(26,20),(46,20)],
 tS 43 agQ [(0,1),(1,12),(13,12),(25,1),(26,20),(46,20)],
 tU 45,
 tS 46 y7Y [(0,4),(4,4)],
 tS 47 y7Y [(0,4),(4,4)],
 tU 48,
 tS 49 y8Y [(0,4),(4,4),(8,4)],
 tU 50,
 tU 51,
 tU 52,
 tU 53,
 tU 54,
 tU 55,
 tU 56,
 tU 57,
 tU 58,
 tU 59,
 tU 60,
 tLs 61 (.sl Uc) 41 320,
 tLs 62 (.sl agQ) 43 1040,
 tU 63,
 tU 65,
 tN 66 axf,
 tU 68,
 tU 70,
 tU 71,
 tA 72 (.st (.pair y3Y y3Y)) 3 2,
 tU 73,
 tU 74,
 tU 75,
 tU 76,
 tLs 77 (.sl y6Y) 24 8,
 tU 79,
 tLs 80 (.sl axf) 3 8,
 tU 81,
 tU 82,
 tU 83,
 tU 84,
 tU 85,
 tN 86 (.int .u16),
 tS 87 y5Y [(0,1),(1,1),(2,1),(3,1),(4,1),(5,1)],
 tS 88 y5Y [(0,1),(1,1),(2,1),(3,1),(4,1),(5,1)],
 tU 89,
 tU 90,
 tU 92,
 tU 93,
 tA 94 (.st (.pair (.int .i8) (.pair (.int .i8) (.int .i8)))) 1 3,
 tU 95,
 tU 96,
 tU 97,
 tU 99,
 tU 100,
 tU 101,
 tU 102,
 tU 103,
 tU 104,
 tU 105,
 tU 106,
 tU 107,
 tU 108,
 tU 109,
 tU 110,
 tU 111,
 tU 112,
 tU 113,
 tU 114,
 tU 115,
 tU 116,
 tU 117,
 tU 118,
 tU 119,
 tU 120,
 tU 121,
 tU 122,
 tU 123,
 tU 125,
 tU 126,
 tU 127,
 tU 128,
 tU 129,
 tU 131,
 tU 132,
 tU 133,
 tU 134,
 tU 135,
 tLs 136 (.sl (.st (.pair y2Y y2Y))) 35 64,
 tU 137,
 tU 138,
 tU 139,
 tU 140,
 tU 141,
 tU 142,
 tU 143,
 tU 144,
 tU 145,
 tU 146,
 tU 147,
 tU 148,
 tU 149,
 tU 150,
 tU 151,
 tU 152,
 tU 153,
 tU 155,
 tU 156,
 tU 158,
 tU 160,
 tU 161,
 tU 162,
 tU 163,
 tU 164,
 tU 165,
 tU 166,
 tU 167,
 tU 168,
 tU 169,
 tU 170,
 tU 171,
 tU 173,
 tU 175,
 tU 176,
 tU 177,
 tU 178,
 tU 179,
 tU 180,
 tU 181,
 tU 182,
 tN 183 axg,
 tU 184,
 tU 185,
 tU 187,
 tU 188,
 tN 189 (.int .u64),
 tU 190,
 tU 191,
 tU 192,
 tS 193 y7Y [(0,4),(4,4)],
 tS 194 y7Y [(0,4),(4,4)],
 tU 196,
 tS 197 aoB [(0,4),(4,4),(8,4),(12,4),(16,4),(20,4)],
 tS 198 aoB [(0,4),(4,4),(8,4),(12,4),(16,4),(20,4)],
 tU 199,
 tU 200,
 tU 201,
 tU 202,
 tU 203,
 tU 205,
 tU 206,
 tU 207,
 tU 208,
 tU 209,
 tU 211,
 tU 213,
 tU 214,
 tU 216,
 tU 217,
 tU 218,
 tU 219,
 tU 220,
 tU 221,
 tU 222,
 tU 223,
 tU 224,
 tU 225,
 tU 226,
 tU 227,
 tU 229,
 tU 230,
 tS 231 y1Y [(0,1),(1,1)],
 tS 232 y1Y [(0,1),(1,1)],
 tU 234,
 tU 235,
 tU 236,
 tU 237,
 tU 238,
 tU 239,
 tU 240,
 tS 241 (.st .bool) [(0,1)],
 tS 242 (.st .bool) [(0,1)],
 tU 243,
 tU 244,
 tU 245,
 tU 246,
 tU 247,
 tU 249,
 tU 250,
 tU 251,
 tU 252,
 tU 254,
 tU 255,
 tU 256,
 tU 257,
 tLs 258 (.sl axf) 2 8,
 tU 260,
 tU 261,
 tU 262,
 tU 263,
 tU 265,
 tU 266,
 tN 267 (.int .u64),
 tU 268,
 tN 274 (.int .u8),
 tN 275 (.int .u8),
 tU 276,
 tU 277,
 tN 278 (.int .i32),
 tN 279 (.int .i32)]
theorem aim:em Tryz.prog tys=true:=by kernel_rfl
theorem Xi:Tryz.prog.follows .mixedOrders=true:=by kernel_rfl
set_option maxRecDepth 100000 in
noncomputable def ft:FT:=[(2,Tryz.f2),(3,Tryz.f3),(4,Tryz.f4),(5,Tryz.f5),(6,Tryz.f6),(7,Tryz.f7),(8,Tryz.f8),(9,Tryz.f9),(10,Tryz.f10),(11,Tryz.f11),(12,Tryz.f12),(13,Tryz.f13),(14,Tryz.f14),(15,Tryz.f15),(16,Tryz.f16),(17,Tryz.f17),(18,Tryz.f18),(19,Tryz.f19),(20,Tryz.f20),(21,Tryz.f21),(22,Tryz.f22),(23,Tryz.f23),(24,Tryz.f24),(25,Tryz.f25),(26,Tryz.f26),(27,Tryz.f27),(28,Tryz.f28),(29,Tryz.f29),(30,Tryz.f30),(31,Tryz.f31),(32,Tryz.f32),(33,Tryz.f33),(34,Tryz.f34),(35,Tryz.f35),(36,Tryz.f36),(37,Tryz.f37),(38,Tryz.f38),(39,Tryz.f39),(40,Tryz.f40),(41,Tryz.f41),(42,Tryz.f42),(43,Tryz.f43),(44,Tryz.f44),(45,Tryz.f45),(46,Tryz.f46),(47,Tryz.f47),(48,Tryz.f48),(49,Tryz.f49),(50,Tryz.f50),(51,Tryz.f51),(52,Tryz.f52),(53,Tryz.f53),(54,Tryz.f54),(55,Tryz.f55),(56,Tryz.f56),(57,Tryz.f57),(58,Tryz.f58),(59,Tryz.f59),(60,Tryz.f60),(61,Tryz.f61),(62,Tryz.f62),(63,Tryz.f63),(64,Tryz.f64),(65,Tryz.f65),(66,Tryz.f66),(67,Tryz.f67),(68,Tryz.f68),(69,Tryz.f69),(70,Tryz.f70),(71,Tryz.f71),(72,Tryz.f72),(73,Tryz.f73),(74,Tryz.f74),(75,Tryz.f75),(76,Tryz.f76),(77,Tryz.f77),(78,Tryz.f78),(79,Tryz.f79),(80,Tryz.f80),(81,Tryz.f81),(82,Tryz.f82),(83,Tryz.f83),(84,Tryz.f84),(85,Tryz.f85),(86,Tryz.f86),(87,Tryz.f87),(88,Tryz.f88),(89,Tryz.f89),(90,Tryz.f90),(91,Tryz.f91),(92,Tryz.f92),(93,Tryz.f93),(94,Tryz.f94),(95,Tryz.f95),(96,Tryz.f96),(97,Tryz.f97),(98,Tryz.f98),(99,Tryz.f99),(100,Tryz.f100),(101,Tryz.f101),(102,Tryz.f102),(103,Tryz.f103),(104,Tryz.f104),(105,Tryz.f105),(106,Tryz.f106),(107,Tryz.f107),(108,Tryz.f108),(109,Tryz.f109),(110,Tryz.f110),(111,Tryz.f111),(112,Tryz.f112),(113,Tryz.f113),(114,Tryz.f114),(115,Tryz.f115),(116,Tryz.f116),(117,Tryz.f117),(118,Tryz.f118),(119,Tryz.f119),(120,Tryz.f120),(121,Tryz.f121),(122,Tryz.f122),(123,Tryz.f123),(124,Tryz.f124),(125,Tryz.f125),(126,Tryz.f126),(127,Tryz.f127),(128,Tryz.f128),(129,Tryz.f129),(130,Tryz.f130),(131,Tryz.f131),(132,Tryz.f132),(133,Tryz.f133),(134,Tryz.f134),(135,Tryz.f135),(136,Tryz.f136),(137,Tryz.f137),(138,Tryz.f138),(139,Tryz.f139),(140,Tryz.f140),(141,Tryz.f141),(142,Tryz.f142),(143,Tryz.f143),(144,Tryz.f144),(145,Tryz.f145),(146,Tryz.f146),(147,Tryz.f147),(148,Tryz.f148),(149,Tryz.f149),(150,Tryz.f150),(151,Tryz.f151),(152,Tryz.f152),(153,Tryz.f153),(154,Tryz.f154),(155,Tryz.f155),(156,Tryz.f156),(157,Tryz.f157),(158,Tryz.f158),(159,Tryz.f159),(160,Tryz.f160),(161,Tryz.f161),(162,Tryz.f162),(163,Tryz.f163),(164,Tryz.f164),(165,Tryz.f165),(166,Tryz.f166),(167,Tryz.f167),(168,Tryz.f168),(169,Tryz.f169),(170,Tryz.f170),(171,Tryz.f171),(172,Tryz.f172),(173,Tryz.f173),(174,Tryz.f174),(175,Tryz.f175),(176,Tryz.f176),(177,Tryz.f177),(178,Tryz.f178),(179,Tryz.f179),(180,Tryz.f180),(181,Tryz.f181),(182,Tryz.f182),(183,Tryz.f183),(184,Tryz.f184),(185,Tryz.f185),(186,Tryz.f186),(187,Tryz.f187),(188,Tryz.f188),(189,Tryz.f189),(190,Tryz.f190),(191,Tryz.f191),(192,Tryz.f192),(193,Tryz.f193),(194,Tryz.f194),(195,Tryz.f195),(196,Tryz.f196),(197,Tryz.f197),(198,Tryz.f198),(199,Tryz.f199),(200,Tryz.f200),(201,Tryz.f201),(202,Tryz.f202),(203,Tryz.f203),(204,Tryz.f204),(205,Tryz.f205),(206,Tryz.f206),(207,Tryz.f207),(208,Tryz.f208),(209,Tryz.f209),(210,Tryz.f210),(211,Tryz.f211),(212,Tryz.f212),(213,Tryz.f213),(214,Tryz.f214),(215,Tryz.f215),(216,Tryz.f216),(217,Tryz.f217),(218,Tryz.f218),(219,Tryz.f219),(220,Tryz.f220),(221,Tryz.f221),(222,Tryz.f222),(223,Tryz.f223),(224,Tryz.f224),(225,Tryz.f225),(226,Tryz.f226),(227,Tryz.f227),(228,Tryz.f228),(229,Tryz.f229),(230,Tryz.f230),(231,Tryz.f231),(232,Tryz.f232),(233,Tryz.f233),(234,Tryz.f234),(235,Tryz.f235),(236,Tryz.f236),(237,Tryz.f237),(238,Tryz.f238),(239,Tryz.f239),(240,Tryz.f240),(241,Tryz.f241),(242,Tryz.f242),(243,Tryz.f243),(244,Tryz.f244),(245,Tryz.f245),(246,Tryz.f246),(247,Tryz.f247),(248,Tryz.f248),(249,Tryz.f249),(250,Tryz.f250),(251,Tryz.f251),(252,Tryz.f252),(253,Tryz.f253),(254,Tryz.f254),(255,Tryz.f255),(256,Tryz.f256),(257,Tryz.f257),(258,Tryz.f258),(259,Tryz.f259),(260,Tryz.f260),(261,Tryz.f261),(262,Tryz.f262),(263,Tryz.f263),(264,Tryz.f264),(265,Tryz.f265),(266,Tryz.f266),(267,Tryz.f267),(268,Tryz.f268),(269,Tryz.f269),(270,Tryz.f270),(271,Tryz.f271),(272,Tryz.f272),(273,Tryz.f273),(274,Tryz.f274),(275,Tryz.f275),(276,Tryz.f276),(277,Tryz.f277),(278,Tryz.f278),(279,Tryz.f279),(280,Tryz.f280),(281,Tryz.f281),(282,Tryz.f282),(283,Tryz.f283),(284,Tryz.f284),(285,Tryz.f285),(286,Tryz.f286),(287,Tryz.f287),(288,Tryz.f288),(289,Tryz.f289),(290,Tryz.f290),(291,Tryz.f291),(292,Tryz.f292),(293,Tryz.f293),(294,Tryz.f294),(295,Tryz.f295),(296,Tryz.f296),(297,Tryz.f297),(298,Tryz.f298),(299,Tryz.f299),(300,Tryz.f300),(301,Tryz.f301),(302,Tryz.f302),(303,Tryz.f303)]
set_option maxRecDepth 100000 in
theorem aoF:FtAll Tryz.prog ft:=⟨Tryz.func2,Tryz.func3,Tryz.func4,Tryz.func5,Tryz.func6,Tryz.func7,Tryz.func8,Tryz.func9,Tryz.func10,Tryz.func11,Tryz.func12,Tryz.func13,Tryz.func14,Tryz.func15,Tryz.func16,Tryz.func17,Tryz.func18,Tryz.func19,Tryz.func20,Tryz.func21,Tryz.func22,Tryz.func23,Tryz.func24,Tryz.func25,Tryz.func26,Tryz.func27,Tryz.func28,Tryz.func29,Tryz.func30,Tryz.func31,Tryz.func32,Tryz.func33,Tryz.func34,Tryz.func35,Tryz.func36,Tryz.func37,Tryz.func38,Tryz.func39,Tryz.func40,Tryz.func41,Tryz.func42,Tryz.func43,Tryz.func44,Tryz.func45,Tryz.func46,Tryz.func47,Tryz.func48,Tryz.func49,Tryz.func50,Tryz.func51,Tryz.func52,Tryz.func53,Tryz.func54,Tryz.func55,Tryz.func56,Tryz.func57,Tryz.func58,Tryz.func59,Tryz.func60,Tryz.func61,Tryz.func62,Tryz.func63,Tryz.func64,Tryz.func65,Tryz.func66,Tryz.func67,Tryz.func68,Tryz.func69,Tryz.func70,Tryz.func71,Tryz.func72,Tryz.func73,Tryz.func74,Tryz.func75,Tryz.func76,Tryz.func77,Tryz.func78,Tryz.func79,Tryz.func80,Tryz.func81,Tryz.func82,Tryz.func83,Tryz.func84,Tryz.func85,Tryz.func86,Tryz.func87,Tryz.func88,Tryz.func89,Tryz.func90,Tryz.func91,Tryz.func92,Tryz.func93,Tryz.func94,Tryz.func95,Tryz.func96,Tryz.func97,Tryz.func98,Tryz.func99,Tryz.func100,Tryz.func101,Tryz.func102,Tryz.func103,Tryz.func104,Tryz.func105,Tryz.func106,Tryz.func107,Tryz.func108,Tryz.func109,Tryz.func110,Tryz.func111,Tryz.func112,Tryz.func113,Tryz.func114,Tryz.func115,Tryz.func116,Tryz.func117,Tryz.func118,Tryz.func119,Tryz.func120,Tryz.func121,Tryz.func122,Tryz.func123,Tryz.func124,Tryz.func125,Tryz.func126,Tryz.func127,Tryz.func128,Tryz.func129,Tryz.func130,Tryz.func131,Tryz.func132,Tryz.func133,Tryz.func134,Tryz.func135,Tryz.func136,Tryz.func137,Tryz.func138,Tryz.func139,Tryz.func140,Tryz.func141,Tryz.func142,Tryz.func143,Tryz.func144,Tryz.func145,Tryz.func146,Tryz.func147,Tryz.func148,Tryz.func149,Tryz.func150,Tryz.func151,Tryz.func152,Tryz.func153,Tryz.func154,Tryz.func155,Tryz.func156,Tryz.func157,Tryz.func158,Tryz.func159,Tryz.func160,Tryz.func161,Tryz.func162,Tryz.func163,Tryz.func164,Tryz.func165,Tryz.func166,Tryz.func167,Tryz.func168,Tryz.func169,Tryz.func170,Tryz.func171,Tryz.func172,Tryz.func173,Tryz.func174,Tryz.func175,Tryz.func176,Tryz.func177,Tryz.func178,Tryz.func179,Tryz.func180,Tryz.func181,Tryz.func182,Tryz.func183,Tryz.func184,Tryz.func185,Tryz.func186,Tryz.func187,Tryz.func188,Tryz.func189,Tryz.func190,Tryz.func191,Tryz.func192,Tryz.func193,Tryz.func194,Tryz.func195,Tryz.func196,Tryz.func197,Tryz.func198,Tryz.func199,Tryz.func200,Tryz.func201,Tryz.func202,Tryz.func203,Tryz.func204,Tryz.func205,Tryz.func206,Tryz.func207,Tryz.func208,Tryz.func209,Tryz.func210,Tryz.func211,Tryz.func212,Tryz.func213,Tryz.func214,Tryz.func215,Tryz.func216,Tryz.func217,Tryz.func218,Tryz.func219,Tryz.func220,Tryz.func221,Tryz.func222,Tryz.func223,Tryz.func224,Tryz.func225,Tryz.func226,Tryz.func227,Tryz.func228,Tryz.func229,Tryz.func230,Tryz.func231,Tryz.func232,Tryz.func233,Tryz.func234,Tryz.func235,Tryz.func236,Tryz.func237,Tryz.func238,Tryz.func239,Tryz.func240,Tryz.func241,Tryz.func242,Tryz.func243,Tryz.func244,Tryz.func245,Tryz.func246,Tryz.func247,Tryz.func248,Tryz.func249,Tryz.func250,Tryz.func251,Tryz.func252,Tryz.func253,Tryz.func254,Tryz.func255,Tryz.func256,Tryz.func257,Tryz.func258,Tryz.func259,Tryz.func260,Tryz.func261,Tryz.func262,Tryz.func263,Tryz.func264,Tryz.func265,Tryz.func266,Tryz.func267,Tryz.func268,Tryz.func269,Tryz.func270,Tryz.func271,Tryz.func272,Tryz.func273,Tryz.func274,Tryz.func275,Tryz.func276,Tryz.func277,Tryz.func278,Tryz.func279,Tryz.func280,Tryz.func281,Tryz.func282,Tryz.func283,Tryz.func284,Tryz.func285,Tryz.func286,Tryz.func287,Tryz.func288,Tryz.func289,Tryz.func290,Tryz.func291,Tryz.func292,Tryz.func293,Tryz.func294,Tryz.func295,Tryz.func296,Tryz.func297,Tryz.func298,Tryz.func299,Tryz.func300,Tryz.func301,Tryz.func302,Tryz.func303,trivial⟩
def EnvAll(P:Program):Env→Prop
 |[]=>True
 |p::l=>(dQ P p.1=true∧zT P p.1 p.2∧∀g,p.2.mut_=some g→Mj P p.1 g)∧EnvAll P l
theorem EnvAll.ok{P:Program}:∀{l:Env},EnvAll P l→jG P l
 |[],_,f,fn,h=>by simp[lP]at h
 |(k,x)::l,⟨h1,h2⟩,f,fn,h=>by
  simp only[lP]at h
  split at h
  ·rename_i hb
   have:=auh hb
   subst this
   injection h with h
   subst h
   exact h1
  ·exact EnvAll.ok h2 f fn h
theorem akG{E:Env}{N:NT}(h:EnvAll Tryz.prog E):(Ctx.mk Tryz.prog ft tys E N).Ok:=⟨aim,h.ok,aoF.look,Xi⟩
def CX(E:Env)(N:NT):Ctx:=⟨Tryz.prog,ft,tys,E,N⟩
def RS(C:Ctx)(f:Nat)(args:List SV)(t:KT→Option (List RV)):Prop:=∀{r:List RV},(∃n,t (C.k n)=some r)→C.Res f args r
def RN(C:Ctx)(i:Nat)(c:Cfg)(t:KT→Option (List RV)):Prop:=∀{r:List RV},(∃n,t (C.k n)=some r)→C.Runs i c r
def RL(C:Ctx)(i:Nat)(c:Cfg)(t:KT→Option (List RV)):Prop:=∀{r:List RV},(∃n0,∀n,n0≤n→t (C.k n)=some r)→C.RunsE i c r
theorem rsX{E:Env}{N:NT}{f:Nat}{args:List SV}{t:KT→Option (List RV)}(e:∀k,go2 Tryz.prog ft tys E N k 4000 (D0 f args) (.node 0)=t k:=by intro k;kernel_rfl):RS (CX E N) f args t:=fun h=>asB (C:=CX E N) e h
theorem rnX{E:Env}{N:NT}{i:Nat}{c:Cfg}{t:KT→Option (List RV)}(e:∀k,go2 Tryz.prog ft tys E N k 4000 {c with K:=.lp i::c.K} (.node (i+1))=t k:=by intro k;kernel_rfl):RN (CX E N) i c t:=fun h=>asH (C:=CX E N) e h
theorem rlX{E:Env}{N:NT}{i:Nat}{c:Cfg}{t:KT→Option (List RV)}(e:∀k,go2 Tryz.prog ft tys E N k 4000 {c with K:=.lp i::c.K} (.node (i+1))=t k:=by intro k;kernel_rfl):RL (CX E N) i c t:=fun h=>apc (C:=CX E N) e h
def aoj(f k:Nat):Bool:=match fQ ft f with
 |some fn=>okF fn k
 |none=>false
theorem aP{E:Env}{N:NT}{f:Nat}{args:List SV}{r:List RV}(ok:EnvAll Tryz.prog E)(h:(CX E N).Res f args r)(hk:aoj f args.length=true:=by kernel_rfl):Con Tryz.prog f args r:=by
 unfold aoj at hk
 split at hk
 ·rename_i fn e
  exact Ctx.Res.con (C:=CX E N) (akG ok) h (fn:=fn) e hk
 ·cases hk
def SpK(f:Nat)(s:aN):Prop:=dQ Tryz.prog f=true∧zT Tryz.prog f s∧∀g,s.mut_=some g→Mj Tryz.prog f g
theorem spX{f:Nat}{keep tame:Bool}{ts:List Ty}{pre:DT ts→Bool}{res:DT ts→List RV}(h:∀x,pre x=true→Con Tryz.prog f (svs ts x) (res x))(hc:dQ Tryz.prog f=true:=by kernel_rfl):SpK f (spN keep tame ts pre res):=alm hc h
def bi(l:List Int):Prop:=Lim l∧l.length≤1000000000
instance (l:List Int):Decidable (bi l):=by unfold bi;infer_instance
theorem KQ{n:Nat}(h1:0<n)(h2:n≤9223372036854775807):i64.wrap ((n:Int)-1)=((n-1:Nat):Int):=by rw[bj (by omega) (by omega)];omega
theorem yH:∀{l:List Int},(∀j (hj:j<l.length),l[j]=0)→val l=0
 |[],_=>rfl
 |x::l,h=>by
  have h0:=h 0 (by simp)
  have:=yH (l:=l) fun j hj=>h (j+1) (by simpa using hj)
  simp only[List.getElem_cons_zero]at h0
  simp only[val]
  omega
theorem xc{l:List Int}{n:Nat}(h:∀j (hj:j<l.length),n≤j→l[j]=0):val (l.take n)=val l:=by
 rw[fe l n,yH (l:=l.drop n) fun j hj=>by
  rw[List.getElem_drop];exact h _ _ (by omega)]
 simp
theorem j9{l:List Int}{n:Nat}(hl:Lim l)(hn:n≤l.length)(h:∀j (hj:j<l.length),n≤j→l[j]=0)(hz:n=0∨∃hj:n-1<l.length,l[n-1]≠0):l.take n=ai (val l).toNat:=by
 rw[←xc h]
 apply l7
 refine⟨hl.take n,?_⟩
 rcases auQ n with h0|h0
 ·subst h0;simp
 ·obtain⟨hj,hz⟩:=hz.resolve_left (by omega)
  rw[List.getLast?_eq_getElem?,auW,auI hn,List.getElem?_take_of_lt (by omega),at8 hj]
  simpa using hz
def akU:NT:=[((278,4),{keep:=[0],pure_:=[(0,.int .u32)],hl:=0})]
def T5:Ctx:=CX [] akU
def AE(s0:List Int):Cfg:=⟨278,[.blk 0,.seq 13],[(0,.d axe s0)],[],0,[]⟩
def amf(a:List Int)(k:KT):Option (List RV):=k 4 (AE a)
theorem ap2(a:List Int):RS T5 278 [.d axe a] (amf a):=rsX
def vT(s0:List Int)(k:KT):Option (List RV):=match decide ((s0.length:Int)>0)with|true=>(match bH s0 (i64.wrap ((s0.length:Int)-1))with|some x1=>(match x1==0 with|true=>(match decide ((0:Int)≤0∧0≤i64.wrap ((s0.length:Int)-1)∧i64.wrap ((s0.length:Int)-1)≤(s0.length:Int))with|true=>k 4 (AE ((s0.take (i64.wrap ((s0.length:Int)-1)).toNat).drop (0:Int).toNat))|false=>none)|false=>some [RV.d axe s0])|none=>none)|false=>some [RV.d axe s0]
theorem vh(s0:List Int):RN T5 4 (AE s0) (vT s0):=rnX
def ahV:NT:=[((226,6),{keep:=[0,1,4,5],hl:=1})]
def XK:Ctx:=CX [] ahV
def z9(neg:Bool)(l:List Int)(s5:Int):Cfg:=⟨226,[.blk 0,.seq 15],[(0,SB neg),(1,.d axe l),(4,.box 0 0),(5,SI s5)],[.box 33 [SB false,.nil]],0,[]⟩
def apf(neg:Bool)(l:List Int)(k:KT):Option (List RV):=k 6 (z9 neg l (l.length:Int))
theorem anx(neg:Bool)(l:List Int):RS XK 226 [SB neg,.d axe l] (apf neg l):=rsX
def qz(neg:Bool)(l:List Int)(s5:Int)(k:KT):Option (List RV):=match decide (s5>0)with|true=>(match bH l (i64.wrap (s5-1))with|some x1=>(match x1==0 with|true=>k 6 (z9 neg l (i64.wrap (s5-1)))|false=>(match neg with|true=>(match decide ((0:Int)≤0∧0≤s5∧s5≤s5∧s5≤(l.length:Int))with|true=>some [RV.d y2Y (decide (s5>0),(l.take (s5).toNat).drop (0:Int).toNat)]|false=>none)|false=>(match decide ((0:Int)≤0∧0≤s5∧s5≤s5∧s5≤(l.length:Int))with|true=>some [RV.d y2Y (false,(l.take (s5).toNat).drop (0:Int).toNat)]|false=>none)))|none=>none)|false=>(match neg with|true=>(match decide ((0:Int)≤0∧0≤s5∧s5≤s5∧s5≤(l.length:Int))with|true=>some [RV.d y2Y (decide (s5>0),(l.take (s5).toNat).drop (0:Int).toNat)]|false=>none)|false=>(match decide ((0:Int)≤0∧0≤s5∧s5≤s5∧s5≤(l.length:Int))with|true=>some [RV.d y2Y (false,(l.take (s5).toNat).drop (0:Int).toNat)]|false=>none))
theorem uR(neg:Bool)(l:List Int)(s5:Int):RN XK 6 (z9 neg l s5) (qz neg l s5):=rnX
def alt:Ctx:=CX [] []
def aeP(u:Int)(_k:KT):Option (List RV):=some [RV.new 183 axg ([u32.wrap (Int.tmod u 1000000000),u32.wrap (Int.tmod (u64.wrap (Int.tdiv u 1000000000)) 1000000000),u32.wrap (u64.wrap (Int.tdiv (u64.wrap (Int.tdiv u 1000000000)) 1000000000))])]
theorem aoq(u:Int):RS alt 227 [.d (.int .u64) u] (aeP u):=rsX
theorem Pk(l:List Int)(hl:Lim l)(hs:l.length≤1000000000):∀(n:Nat),n≤l.length→(∀j (hj:j<l.length),n≤j→l[j]=0)→T5.Runs 4 (AE (l.take n)) [.d axe (ai (val l).toNat)]:=by
 intro n
 induction n with
 |zero=>
  intro _ h
  refine vh _ ⟨0,?_⟩
  rw[←j9 hl (aw1 _) h (.inl rfl)]
  rfl
 |succ n ih=>
  intro hn h
  have hlen:(l.take (n+1)).length=n+1:=by rw[auW,auI hn]
  have hget:(l.take (n+1))[n]?=some l[n]:=by rw[List.getElem?_take_of_lt (by omega),at8 (by omega)]
  by_cases hz:l[n]=0
  ·obtain⟨q,hq⟩:=ih (by omega) fun j hj hk=>by
    rcases Nat.eq_or_lt_of_le hk with e|e
    ·subst e;exact hz
    ·exact h j hj e
   refine vh _ ⟨q,?_⟩
   unfold vT
   rw[hlen,at7 (by omega),KQ (by omega) (by omega),aM,show n+1-1=n from rfl,hget]
   dsimp only
   rw[hz,at7 (show(0:Int)≤0∧(0:Int)≤(n:Int)∧(n:Int)≤((n+1:Nat):Int) by omega),aR,List.take_take,auI (by omega)]
   exact hq
  ·refine vh _ ⟨0,?_⟩
   unfold vT
   rw[hlen,at7 (by omega),KQ (by omega) (by omega),aM,show n+1-1=n from rfl,hget]
   dsimp only
   rw[show(l[n]==0)=false by simpa using hz,←j9 hl hn h (.inr ⟨Nat.lt_of_succ_le hn,hz⟩)]
theorem acv(a:List Int)(h:bi a):Con Tryz.prog 278 [.d axe a] [.d axe (ai (val a).toNat)]:=by
 obtain⟨q,hq⟩:=Pk a h.1 h.2 a.length (auj _) (fun j hj hk=>by omega)
 rw[avm]at hq
 exact aP (E:=[]) trivial (ap2 _ ⟨q,hq⟩)
def cf(neg:Bool)(v:Int):Int:=bif neg then-v else v
theorem kJ(neg:Bool){v:Int}(h:0≤v):ak (cf neg v)=(neg&&decide (0<v),ai v.toNat):=by
 unfold ak cf
 cases neg
 ·simp only[cond_false,Bool.false_and]
  rw[at9 (by omega),show v.natAbs=v.toNat by omega]
 ·simp only[cond_true,auc]
  rw[show(-v).natAbs=v.toNat by omega]
  by_cases h0:0<v
  ·rw[at7 h0,at7 (by omega)]
  ·rw[at9 h0,at9 (by omega)]
theorem Tj(neg:Bool)(l:List Int)(hl:Lim l)(hs:l.length≤1000000000):∀(n:Nat),n≤l.length→(∀j (hj:j<l.length),n≤j→l[j]=0)→XK.Runs 6 (z9 neg l (n:Int)) [.d y2Y (ak (cf neg (val l)))]:=by
 intro n
 have hv:=bg hl
 induction n with
 |zero=>
  intro _ h
  refine uR _ _ _ ⟨0,?_⟩
  rw[kJ neg hv,←j9 hl (aw1 _) h (.inl rfl)]
  have h0:val l=0:=by rw[←xc h];rfl
  unfold qz
  rw[at9 (show ¬((0:Nat):Int)>0 by decide),at7 (show(0:Int)≤0∧(0:Int)≤((0:Nat):Int)∧((0:Nat):Int)≤((0:Nat):Int)∧((0:Nat):Int)≤(l.length:Int) by omega),h0]
  cases neg<;>rfl
 |succ n ih=>
  intro hn h
  by_cases hz:l[n]=0
  ·obtain⟨q,hq⟩:=ih (by omega) fun j hj hk=>by
    rcases Nat.eq_or_lt_of_le hk with e|e
    ·subst e;exact hz
    ·exact h j hj e
   refine uR _ _ _ ⟨q,?_⟩
   unfold qz
   rw[at7 (by omega),KQ (by omega) (by omega),aM,show n+1-1=n from rfl,at8 (by omega)]
   dsimp only
   rw[hz]
   exact hq
  ·refine uR _ _ _ ⟨0,?_⟩
   have hct:=j9 hl hn h (.inr ⟨Nat.lt_of_succ_le hn,hz⟩)
   have hpos:0<val l:=by
    rcases auC 0 (val l)with h1|h1
    ·exact h1
    ·exfalso
     rw[show(val l).toNat=0 by omega,eD]at hct
     have:(l.take (n+1)).length=0:=by rw[hct];rfl
     rw[auW,auI hn]at this
     omega
   rw[kJ neg hv,←hct]
   unfold qz
   rw[at7 (show((n+1:Nat):Int)>0 by omega),KQ (by omega) (by omega),aM,show n+1-1=n from rfl,at8 (by omega)]
   dsimp only
   rw[show(l[n]==0)=false by simpa using hz,at7 (show(0:Int)≤0∧(0:Int)≤((n+1:Nat):Int)∧((n+1:Nat):Int)≤((n+1:Nat):Int)∧((n+1:Nat):Int)≤(l.length:Int) by omega),at7 hpos,aR]
   cases neg<;>rfl
theorem ZM(neg:Bool)(l:List Int)(h:bi l):Con Tryz.prog 226 [.d .bool neg,.d axe l] [.d y2Y (ak (cf neg (val l)))]:=by
 obtain⟨q,hq⟩:=Tj neg l h.1 h.2 l.length (auj _) (fun j hj hk=>by omega)
 exact aP (E:=[]) trivial (anx _ _ ⟨q,hq⟩)
def fN(u:Int):Prop:=0≤u∧u<18446744073709551616
instance (u:Int):Decidable (fN u):=by unfold fN;infer_instance
theorem cV{x:Int}(h1:0≤x)(h2:x<4294967296):u32.wrap x=x:=by rw[IntKind.wrap_u32];omega
theorem bK{x:Int}(h1:0≤x)(h2:x<18446744073709551616):u64.wrap x=x:=by rw[auX];omega
theorem fA{a b:Int}(h:0≤a):Int.tdiv a b=a/b:=Int.tdiv_eq_ediv_of_nonneg h
theorem ic{a b:Int}(h:0≤a):Int.tmod a b=a%b:=Int.tmod_eq_emod_of_nonneg h
theorem ZY(u:Int)(h:fN u):Con Tryz.prog 227 [.d (.int .u64) u] [.new 183 axg (dig 3 u)]:=by
 refine aP (E:=[]) trivial (aoq _ ⟨0,?_⟩)
 obtain⟨h1,h2⟩:=h
 unfold aeP
 rw[fA h1,ic h1,bK (x:=u/1000000000) (by omega) (by omega),ic (by omega),fA (a:=u/1000000000) (by omega),cV (x:=u%1000000000) (by omega) (by omega),cV (x:=u/1000000000%1000000000) (by omega) (by omega),bK (x:=u/1000000000/1000000000) (by omega) (by omega),cV (x:=u/1000000000/1000000000) (by omega) (by omega)]
 have e:dig 3 u=[u%1000000000,u/1000000000%1000000000,u/1000000000/1000000000]:=by
  simp only[dig]
  rw[show u/1000000000/1000000000%1000000000=u/1000000000/1000000000 by omega]
 rw[e]
def F9:aN:=spN false false [axe] (fun x=>decide (bi x.1)) (fun x=>[RV.d axe (ai (val x.1).toNat)])
theorem DI:SpK 278 F9:=spX fun x h=>acv x.1 (at6 h)
def wO:aN:=spN false false [.bool,axe] (fun x=>decide (bi x.2.1)) (fun x=>[RV.d y2Y (ak (cf x.1 (val x.2.1)))])
theorem qy:SpK 226 wO:=spX fun x h=>ZM x.1 x.2.1 (at6 h)
def BW:aN:=spN true false [(.int .u64)] (fun x=>decide (fN x.1)) (fun x=>[RV.new 183 axg (dig 3 x.1)])
theorem xg:SpK 227 BW:=spX fun x h=>ZY x.1 (at6 h)
def FP:Env:=[(278,F9),(226,wO),(227,BW)]
theorem zn:EnvAll Tryz.prog FP:=⟨DI,qy,xg,trivial⟩
def aoX:Ctx:=CX FP []
def aeo(n:Int)(_k:KT):Option (List RV):=match decide (n<0)with|true=>(match decide (fN (u64.wrap (0-(u64.wrap n))))with|true=>(match decide (bi (dig 3 (u64.wrap (0-(u64.wrap n)))))with|true=>some [RV.d y2Y (ak (cf (decide (n<0)) (val (dig 3 (u64.wrap (0-(u64.wrap n)))))))]|false=>none)|false=>none)|false=>(match decide (fN (u64.wrap n))with|true=>(match decide (bi (dig 3 (u64.wrap n)))with|true=>some [RV.d y2Y (ak (cf (decide (n<0)) (val (dig 3 (u64.wrap n)))))]|false=>none)|false=>none)
theorem ao1(n:Int):RS aoX 160 [SI n] (aeo n):=rsX
def ag0:NT:=[((247,24),{keep:=[0,1,5],hl:=0})]
def Ig:Ctx:=CX FP ag0
def tu(a b:List Int)(s5:Int):Cfg:=⟨247,[.blk 0,.seq 49],[(0,.d axe (ai (val a).toNat)),(1,.d axe (ai (val b).toNat)),(5,SI s5)],[],0,[]⟩
def XE(a b:List Int)(k:KT):Option (List RV):=match decide (bi a)with|true=>(match decide (bi b)with|true=>(match((ai (val a).toNat).length:Int) !=((ai (val b).toNat).length:Int)with|true=>(match decide (((ai (val a).toNat).length:Int)<((ai (val b).toNat).length:Int))with|true=>some [RV.d axf (-1)]|false=>some [RV.d axf 1])|false=>k 24 (tu a b (i64.wrap (((ai (val a).toNat).length:Int)-1))))|false=>none)|false=>none
theorem aeO(a b:List Int):RS Ig 247 [.d axe a,.d axe b] (XE a b):=rsX
def ky(a b:List Int)(s5:Int)(k:KT):Option (List RV):=match decide (s5≥0)with|true=>(match bH (ai (val a).toNat) s5 with|some x1=>(match bH (ai (val b).toNat) s5 with|some x2=>(match decide (x1<x2)with|true=>some [RV.d axf (-1)]|false=>(match bH (ai (val a).toNat) s5 with|some x3=>(match bH (ai (val b).toNat) s5 with|some x4=>(match decide (x3>x4)with|true=>some [RV.d axf 1]|false=>k 24 (tu a b (i64.wrap (s5-1))))|none=>none)|none=>none))|none=>none)|none=>none)|false=>some [RV.d axf 0]
theorem nJ(a b:List Int)(s5:Int):RN Ig 24 (tu a b s5) (ky a b s5):=rnX
def aY(n:Int):Prop:= -9223372036854775808≤n∧n≤9223372036854775807
instance (n:Int):Decidable (aY n):=by unfold aY;infer_instance
theorem uK{u:Int}(h:fN u):val (dig 3 u)=u:=f0 3 u h.1 (aws h.2 (by decide))
theorem hZ{n:Nat}(h:n≤1000000000)(v:Int):bi (dig n v):=⟨ld n v,by rw[gU];exact h⟩
theorem J0(n:Int)(h:aY n):Con Tryz.prog 160 [.d axf n] [.d y2Y (ak n)]:=by
 refine aP zn (ao1 _ ⟨0,?_⟩)
 obtain⟨h1,h2⟩:=h
 unfold aeo
 by_cases hn:n<0
 ·have e:u64.wrap (0-u64.wrap n)= -n:=by rw[auX,auX];omega
  have hu:fN (-n):=⟨by omega,by omega⟩
  rw[at7 hn]
  dsimp only
  rw[e,at7 hu,at7 (hZ (n:=3) (by decide) (-n)),uK hu]
  simp[cf]
 ·have e:u64.wrap n=n:=bK (by omega) (by omega)
  have hu:fN n:=⟨by omega,by omega⟩
  rw[at9 hn]
  dsimp only
  rw[e,at7 hu,at7 (hZ (n:=3) (by decide) n),uK hu]
  rfl
theorem Tu{l:List Int}{n:Nat}(h:n<l.length):val l=val (l.take n)+pw n*(l[n]+1000000000*val (l.drop (n+1))):=by
 rw[fe l n,auI (Nat.le_of_lt h),auv h]
 rfl
theorem Ad{a b:List Int}(ha:Lim a)(hb:Lim b){n:Nat}(h1:n<a.length)(h2:n<b.length)(hd:a.drop (n+1)=b.drop (n+1))(hlt:a[n]<b[n]):val a<val b:=by
 rw[Tu h1,Tu h2,hd]
 have k1:=bZ (ha.take n)
 have k2:=bg (hb.take n)
 rw[auW,auI (Nat.le_of_lt h1)]at k1
 have hp:=b8 n
 have:=aum (show a[n]+1000000000*val (b.drop (n+1))+1≤b[n]+1000000000*val (b.drop (n+1)) by omega) (auJ hp)
 rw[aw3,av9]at this
 omega
theorem cQ{a b:Int}(h:a<b):ck a b= -1:=by unfold ck;rw[at7 h];rfl
theorem cH{a b:Int}(h:b<a):ck a b=1:=by unfold ck;rw[at9 (by omega),at7 h];rfl
theorem dB(a:Int):ck a a=0:=by unfold ck;rw[at9 (by omega)];rfl
theorem ue{a b:Nat}(h:(ai a).length<(ai b).length):a<b:=by
 rcases auz a b with h1|h1
 ·exact h1
 ·have:=c8 (n:=b) (k:=(ai a).length) (by
   have:=bZ (b9 a)
   rw[bL]at this
   omega)
  omega
theorem PU(a b:List Int)(hl:(ai (val a).toNat).length=(ai (val b).toNat).length)(ha:0≤val a)(hb:0≤val b)(hs:(ai (val a).toNat).length≤1000000000):∀(n:Nat),n≤(ai (val a).toNat).length→(ai (val a).toNat).drop n=(ai (val b).toNat).drop n→
  Ig.Runs 24 (tu a b ((n:Int)-1)) [.d axf (ck (val a) (val b))]:=by
 have va:=bL (val a).toNat
 have vb:=bL (val b).toNat
 have la:=b9 (val a).toNat
 have lb:=b9 (val b).toNat
 intro n
 induction n with
 |zero=>
  intro _ h
  refine nJ _ _ _ ⟨0,?_⟩
  have e:val a=val b:=by simp only[avX]at h;rw[h]at va;omega
  unfold ky
  rw[at9 (by omega),e,dB]
 |succ n ih=>
  intro hn h
  have h1:n<(ai (val a).toNat).length:=by omega
  have h2:n<(ai (val b).toNat).length:=by omega
  rcases avY (ai (val a).toNat)[n] (ai (val b).toNat)[n]with hc|hc|hc
  ·refine nJ _ _ _ ⟨0,?_⟩
   have:=Ad la lb h1 h2 h hc
   unfold ky
   rw[show((n+1:Nat):Int)-1=(n:Int) by omega,at7 (by omega),aM,aM,at8 h1,at8 h2]
   dsimp only
   rw[at7 hc,cQ (by omega)]
  ·obtain⟨q,hq⟩:=ih (by omega) (by rw[auv h1,auv h2,hc,h])
   refine nJ _ _ _ ⟨q,?_⟩
   unfold ky
   rw[show((n+1:Nat):Int)-1=(n:Int) by omega,at7 (by omega),aM,aM,at8 h1,at8 h2]
   dsimp only
   rw[at9 (by omega),at9 (by omega),bj (x:=(n:Int)-1) (by omega) (by omega)]
   exact hq
  ·refine nJ _ _ _ ⟨0,?_⟩
   have:=Ad lb la h2 h1 h.symm hc
   unfold ky
   rw[show((n+1:Nat):Int)-1=(n:Int) by omega,at7 (by omega),aM,aM,at8 h1,at8 h2]
   dsimp only
   rw[at9 (by omega),at7 hc,cH (by omega)]
theorem iv{l:List Int}(h:Lim l):(ai (val l).toNat).length≤l.length:=c8 (by have:=bZ h;have:=bg h;omega)
theorem aa3(a b:List Int)(h:bi a∧bi b):Con Tryz.prog 247 [.d axe a,.d axe b] [.d axf (ck (val a) (val b))]:=by
 refine aP zn (show Ig.Res _ _ _ from ?_)
 obtain⟨ha,hb⟩:=h
 have la:=iv ha.1
 have lb:=iv hb.1
 have na:=bg ha.1
 have nb:=bg hb.1
 have hsa:=ha.2
 have hsb:=hb.2
 by_cases hl:(ai (val a).toNat).length=(ai (val b).toNat).length
 ·obtain⟨q,hq⟩:=PU a b hl na nb (by omega) _ (auj _) (by rw[awl,hl,awl])
  refine aeO _ _ ⟨q,?_⟩
  unfold XE
  rw[at7 ha,at7 hb,show(((ai (val a).toNat).length:Int) !=((ai (val b).toNat).length:Int))=false by simp[hl],bj (x:=((ai (val a).toNat).length:Int)-1) (by omega) (by omega)]
  exact hq
 ·refine aeO _ _ ⟨0,?_⟩
  unfold XE
  rw[at7 ha,at7 hb,show(((ai (val a).toNat).length:Int) !=((ai (val b).toNat).length:Int))=true by simp;omega]
  dsimp only
  rcases Nat.lt_or_gt_of_ne hl with h1|h1
  ·have:=ue h1
   rw[at7 (by omega),cQ (by omega)]
  ·have:=ue h1
   rw[at9 (by omega),cH (by omega)]
def ak2:NT:=[((263,16),{keep:=[1,5,6,20,21,22],hl:=1})]
def Dg:Ctx:=CX [] ak2
def iB(s1 s20:List Int)(s21 s6 s22:Int)(r0:List Int):Cfg:=⟨263,[.blk 0,.seq 45],[(1,.d axe s1),(5,.own 0),(6,.d axg s6),(20,.d axe s20),(21,SI s21),(22,SI s22)],[.row 183 axg r0],0,[]⟩
def Sc(a b:List Int)(k:KT):Option (List RV):=match decide ((a.length:Int)<(b.length:Int))with|true=>(match decide ((0:Int)=0∧(0:Int)≤i64.wrap ((b.length:Int)+1)∧(i64.wrap ((b.length:Int)+1))*((4:Nat):Int)≤140737488355328∧i64.wrap ((b.length:Int)+1)≤140737488355328)with|true=>k 16 (iB a b (b.length:Int) 0 0 ([]:List Int))|false=>none)|false=>(match decide ((0:Int)=0∧(0:Int)≤i64.wrap ((a.length:Int)+1)∧(i64.wrap ((a.length:Int)+1))*((4:Nat):Int)≤140737488355328∧i64.wrap ((a.length:Int)+1)≤140737488355328)with|true=>k 16 (iB b a (a.length:Int) 0 0 ([]:List Int))|false=>none)
theorem adf(a b:List Int):RS Dg 263 [.d axe a,.d axe b] (Sc a b):=rsX
def iK(s1 s20:List Int)(s21 s6 s22:Int)(r0:List Int)(k:KT):Option (List RV):=match decide (s22<s21)with|true=>(match bH s20 s22 with|some x1=>(match decide (s22<(s1.length:Int))with|true=>(match bH s1 s22 with|some x2=>(match decide ((u32.wrap ((u32.wrap (x1+s6))+x2))≥1000000000)with|true=>(match decide ((r0.length+([u32.wrap ((u32.wrap ((u32.wrap (x1+s6))+x2))-1000000000)]).length)*4≤140737488355328∧r0.length+([u32.wrap ((u32.wrap ((u32.wrap (x1+s6))+x2))-1000000000)]).length≤140737488355328)with|true=>k 16 (iB s1 s20 s21 1 (i64.wrap (s22+1)) (r0++([u32.wrap ((u32.wrap ((u32.wrap (x1+s6))+x2))-1000000000)])))|false=>none)|false=>(match decide ((r0.length+([u32.wrap ((u32.wrap (x1+s6))+x2)]).length)*4≤140737488355328∧r0.length+([u32.wrap ((u32.wrap (x1+s6))+x2)]).length≤140737488355328)with|true=>k 16 (iB s1 s20 s21 0 (i64.wrap (s22+1)) (r0++([u32.wrap ((u32.wrap (x1+s6))+x2)])))|false=>none))|none=>none)|false=>(match decide ((u32.wrap (x1+s6))≥1000000000)with|true=>(match decide ((r0.length+([u32.wrap ((u32.wrap (x1+s6))-1000000000)]).length)*4≤140737488355328∧r0.length+([u32.wrap ((u32.wrap (x1+s6))-1000000000)]).length≤140737488355328)with|true=>k 16 (iB s1 s20 s21 1 (i64.wrap (s22+1)) (r0++([u32.wrap ((u32.wrap (x1+s6))-1000000000)])))|false=>none)|false=>(match decide ((r0.length+([u32.wrap (x1+s6)]).length)*4≤140737488355328∧r0.length+([u32.wrap (x1+s6)]).length≤140737488355328)with|true=>k 16 (iB s1 s20 s21 0 (i64.wrap (s22+1)) (r0++([u32.wrap (x1+s6)])))|false=>none)))|none=>none)|false=>(match decide ((r0.length+([s6]).length)*4≤140737488355328∧r0.length+([s6]).length≤140737488355328)with|true=>some [RV.new 183 axg (r0++([s6]))]|false=>none)
theorem kj(s1 s20:List Int)(s21 s6 s22:Int)(r0:List Int):RN Dg 16 (iB s1 s20 s21 s6 s22 r0) (iK s1 s20 s21 s6 s22 r0):=rnX
def aj4:NT:=[((264,10),{keep:=[1,5,6,13,14,15],hl:=1})]
def Cj:Ctx:=CX [] aj4
def jH(a b:List Int)(s6 s15:Int)(r0:List Int):Cfg:=⟨264,[.blk 0,.seq 39],[(1,.d axe b),(5,.own 0),(6,.d axg s6),(13,.d axe a),(14,SI (a.length:Int)),(15,SI s15)],[.row 183 axg r0],0,[]⟩
def afh(a b:List Int)(k:KT):Option (List RV):=match decide ((0:Int)≤(a.length:Int)∧(a.length:Int)*((4:Nat):Int)≤140737488355328∧(a.length:Int)≤140737488355328)with|true=>k 10 (jH a b 0 0 (List.replicate ((a.length:Int)).toNat (0:Int)))|false=>none
theorem apT(a b:List Int):RS Cj 264 [.d axe a,.d axe b] (afh a b):=rsX
def iI(a b:List Int)(s6 s15:Int)(r0:List Int)(k:KT):Option (List RV):=match decide (s15<(a.length:Int))with|true=>(match bH a s15 with|some x1=>(match decide (s15<(b.length:Int))with|true=>(match bH b s15 with|some x2=>(match decide (x1<(u32.wrap (s6+x2)))with|true=>(match bH r0 s15 with|some _=>(match true,r0[(s15).toNat]? with|true,some _=>k 10 (jH a b 1 (i64.wrap (s15+1)) (r0.set ((s15).toNat) (u32.wrap ((u32.wrap (x1+1000000000))-(u32.wrap (s6+x2))))))|_,_=>none)|none=>none)|false=>(match bH r0 s15 with|some _=>(match true,r0[(s15).toNat]? with|true,some _=>k 10 (jH a b 0 (i64.wrap (s15+1)) (r0.set ((s15).toNat) (u32.wrap (x1-(u32.wrap (s6+x2))))))|_,_=>none)|none=>none))|none=>none)|false=>(match decide (x1<s6)with|true=>(match bH r0 s15 with|some _=>(match true,r0[(s15).toNat]? with|true,some _=>k 10 (jH a b 1 (i64.wrap (s15+1)) (r0.set ((s15).toNat) (u32.wrap ((u32.wrap (x1+1000000000))-s6))))|_,_=>none)|none=>none)|false=>(match bH r0 s15 with|some _=>(match true,r0[(s15).toNat]? with|true,some _=>k 10 (jH a b 0 (i64.wrap (s15+1)) (r0.set ((s15).toNat) (u32.wrap (x1-s6))))|_,_=>none)|none=>none)))|none=>none)|false=>some [RV.new 183 axg r0]
theorem kg(a b:List Int)(s6 s15:Int)(r0:List Int):RN Cj 10 (jH a b s6 s15 r0) (iI a b s6 s15 r0):=rnX
def ai6:NT:=[((248,8),{keep:=[1,5,18,19,20],hl:=1}),((248,25),{keep:=[1,5,6,7,8,18,19,20,25,26,27],hl:=1})]
def uO:Ctx:=CX [] ai6
def uX(a b:List Int)(s20:Int)(r0:List Int):Cfg:=⟨248,[.blk 0,.seq 42],[(1,.d axe b),(5,.own 0),(18,.d axe a),(19,SI (a.length:Int)),(20,SI s20)],[.row 183 axg r0],0,[]⟩
def tJ(a b:List Int)(s20 x1 s8 s27:Int)(r0:List Int):Cfg:=⟨248,[.blk 2,.seq 40,.blk 1,.seq 41,.lp 8,.blk 0,.seq 42],[(1,.d axe b),(5,.own 0),(6,SI s20),(7,.d axg x1),(8,.d (.int .u64) s8),(18,.d axe a),(19,SI (a.length:Int)),(20,SI s20),(25,.d axe b),(26,SI (b.length:Int)),(27,SI s27)],[.row 183 axg r0],0,[]⟩
def afU(a b:List Int)(k:KT):Option (List RV):=match decide ((0:Int)≤i64.wrap ((a.length:Int)+(b.length:Int))∧(i64.wrap ((a.length:Int)+(b.length:Int)))*((4:Nat):Int)≤140737488355328∧i64.wrap ((a.length:Int)+(b.length:Int))≤140737488355328)with|true=>k 8 (uX a b 0 (List.replicate (i64.wrap ((a.length:Int)+(b.length:Int))).toNat (0:Int)))|false=>none
theorem anA(a b:List Int):RS uO 248 [.d axe a,.d axe b] (afU a b):=rsX
def xh(a b:List Int)(s20:Int)(r0:List Int)(k:KT):Option (List RV):=match decide (s20<(a.length:Int))with|true=>(match bH a s20 with|some x1=>k 25 (tJ a b s20 x1 0 0 r0)|none=>none)|false=>some [RV.new 183 axg r0]
theorem Di(a b:List Int)(s20:Int)(r0:List Int):RN uO 8 (uX a b s20 r0) (xh a b s20 r0):=rnX
def rH(a b:List Int)(s20 x1 s8 s27:Int)(r0:List Int)(k:KT):Option (List RV):=match decide (s27<(b.length:Int))with|true=>(match bH b s27 with|some x2=>(match bH r0 (i64.wrap (s20+s27))with|some _=>(match true,r0[(i64.wrap (s20+s27)).toNat]? with|true,some x3=>(match bH r0 (i64.wrap (s20+s27))with|some _=>(match true,r0[(i64.wrap (s20+s27)).toNat]? with|true,some _=>k 25 (tJ a b s20 x1 (u64.wrap (Int.tdiv (u64.wrap ((u64.wrap ((u64.wrap x3)+(u64.wrap ((u64.wrap x1)*(u64.wrap x2)))))+s8)) 1000000000)) (i64.wrap (s27+1)) (r0.set ((i64.wrap (s20+s27)).toNat) (u32.wrap (Int.tmod (u64.wrap ((u64.wrap ((u64.wrap x3)+(u64.wrap ((u64.wrap x1)*(u64.wrap x2)))))+s8)) 1000000000))))|_,_=>none)|none=>none)|_,_=>none)|none=>none)|none=>none)|false=>(match bH r0 (i64.wrap (s20+(b.length:Int)))with|some _=>(match true,r0[(i64.wrap (s20+(b.length:Int))).toNat]? with|true,some _=>k 8 (uX a b (i64.wrap (s20+1)) (r0.set ((i64.wrap (s20+(b.length:Int))).toNat) (u32.wrap s8)))|_,_=>none)|none=>none)
theorem xY(a b:List Int)(s20 x1 s8 s27:Int)(r0:List Int):RN uO 25 (tJ a b s20 x1 s8 s27 r0) (rH a b s20 x1 s8 s27 r0):=rnX
def aia:NT:=[((298,10),{keep:=[0,1,6,7,8],hl:=1})]
def IC:Ctx:=CX [] aia
def t6(a:List Int)(b s7 s8:Int)(r0:List Int):Cfg:=⟨298,[.blk 0,.seq 23],[(0,.d axe a),(1,.d axg b),(6,.own 0),(7,.d (.int .u64) s7),(8,SI s8)],[.row 183 axg r0],0,[]⟩
def aes(a:List Int)(b:Int)(k:KT):Option (List RV):=match decide ((0:Int)≤(a.length:Int)∧(a.length:Int)*((4:Nat):Int)≤140737488355328∧(a.length:Int)≤140737488355328)with|true=>k 10 (t6 a b 0 (i64.wrap ((a.length:Int)-1)) (List.replicate ((a.length:Int)).toNat (0:Int)))|false=>none
theorem als(a:List Int)(b:Int):RS IC 298 [.d axe a,.d axg b] (aes a b):=rsX
def rg(a:List Int)(b s7 s8:Int)(r0:List Int)(k:KT):Option (List RV):=match decide (s8≥0)with|true=>(match bH a s8 with|some x1=>(match decide (u64.wrap b=(0:Int))with|true=>none|false=>(match decide (u64.wrap b=(0:Int))with|true=>none|false=>(match bH r0 s8 with|some _=>(match true,r0[(s8).toNat]? with|true,some _=>k 10 (t6 a b (Int.tmod (u64.wrap ((u64.wrap (s7*1000000000))+(u64.wrap x1))) (u64.wrap b)) (i64.wrap (s8-1)) (r0.set ((s8).toNat) (u32.wrap (u64.wrap (Int.tdiv (u64.wrap ((u64.wrap (s7*1000000000))+(u64.wrap x1))) (u64.wrap b))))))|_,_=>none)|none=>none)))|none=>none)|false=>some [RV.d axe r0,RV.d axe ([u32.wrap s7])]
theorem yR(a:List Int)(b s7 s8:Int)(r0:List Int):RN IC 10 (t6 a b s7 s8 r0) (rg a b s7 s8 r0):=rnX
theorem iD{b:List Int}{i:Nat}(h:b.length≤i):b.take (i+1)=b.take i:=by rw[auV (by omega),auV h]
theorem pH{n:Nat}(h:n≤4000000000):decide ((0:Int)≤(n:Int)∧(n:Int)*((4:Nat):Int)≤140737488355328∧(n:Int)≤140737488355328)=true:=at7 ⟨by omega,by omega,by omega⟩
theorem W5{m:Nat}(h:m≤4000000000):decide ((m+1)*4≤140737488355328∧m+1≤140737488355328)=true:=at7 ⟨by omega,by omega⟩
theorem Cy(a b:List Int)(ha:bi a)(hb:bi b)(hab:b.length≤a.length):∀(j i:Nat) (c:Int) (r:List Int),i+j=a.length→0≤c→c≤1→Lim r→r.length=i→val r+pw i*c=val (a.take i)+val (b.take i)→
  Dg.Runs 16 (iB b a (a.length:Int) c (i:Int) r) [.new 183 axg (dig (a.length+1) (val a+val b))]:=by
 have hsa:=ha.2
 intro j
 induction j with
 |zero=>
  intro i c r hi c0 c1 hr hl hv
  obtain rfl:i=a.length:=by omega
  refine kj _ _ _ _ _ _ ⟨0,?_⟩
  unfold iK
  rw[cN (auj _)]
  simp only[auH]
  rw[W5 (by omega)]
  have e:r++[c]=dig (a.length+1) (val a+val b):=by
   refine BS (hr.append (Lim.cons ⟨c0,by omega⟩ Lim.nil)) (by simp[hl]) ?_
   rw[dh,hl]
   rw[avm,auV hab]at hv
   simp only[val,av5,awS]
   omega
  rw[e]
 |succ j ih=>
  intro i c r hi c0 c1 hr hl hv
  have hia:i<a.length:=by omega
  have xa:=ha.1.get hia
  have hp:=b8 i
  have step:∀(y c':Int),0≤y→y<1000000000→0≤c'→c'≤1→val (b.take (i+1))=val (b.take i)+pw i*(y+1000000000*c'-a[i]-c)→Dg.Runs 16 (iB b a (a.length:Int) c' ((i+1:Nat):Int) (r++[y])) [.new 183 axg (dig (a.length+1) (val a+val b))]:=by
   intro y c' y0 y1 k0 k1 hb'
   refine ih (i+1) c' (r++[y]) (by omega) k0 k1 (hr.append (Lim.cons ⟨y0,y1⟩ Lim.nil)) (by simp[hl]) ?_
   rw[dh,hl,bk hia,hb',ce]
   simp only[val]
   grind
  by_cases hib:i<b.length
  ·have xb:=hb.1.get hib
   have ht:=bk hib
   by_cases hc:a[i]+c+b[i]≥1000000000
   ·obtain⟨q,hq⟩:=step (a[i]+c+b[i]-1000000000) 1 (by omega) (by omega) (by omega) (by omega) (by rw[ht];grind)
    refine kj _ _ _ _ _ _ ⟨q,?_⟩
    unfold iK
    rw[cg hia,aM,at8 hia,cg hib,aM,at8 hib]
    dsimp only
    rw[cV (x:=a[i]+c) (by omega) (by omega),cV (x:=a[i]+c+b[i]) (by omega) (by omega),at7 hc,cV (x:=a[i]+c+b[i]-1000000000) (by omega) (by omega),cO (by omega)]
    simp only[auH]
    rw[W5 (by omega)]
    exact hq
   ·obtain⟨q,hq⟩:=step (a[i]+c+b[i]) 0 (by omega) (by omega) (by omega) (by omega) (by rw[ht];grind)
    refine kj _ _ _ _ _ _ ⟨q,?_⟩
    unfold iK
    rw[cg hia,aM,at8 hia,cg hib,aM,at8 hib]
    dsimp only
    rw[cV (x:=a[i]+c) (by omega) (by omega),cV (x:=a[i]+c+b[i]) (by omega) (by omega),at9 hc,cO (by omega)]
    simp only[auH]
    rw[W5 (by omega)]
    exact hq
  ·have ht:=iD (b:=b) (i:=i) (by omega)
   by_cases hc:a[i]+c≥1000000000
   ·obtain⟨q,hq⟩:=step (a[i]+c-1000000000) 1 (by omega) (by omega) (by omega) (by omega) (by rw[ht];grind)
    refine kj _ _ _ _ _ _ ⟨q,?_⟩
    unfold iK
    rw[cg hia,aM,at8 hia,cN (show b.length≤i by omega)]
    dsimp only
    rw[cV (x:=a[i]+c) (by omega) (by omega),at7 hc,cV (x:=a[i]+c-1000000000) (by omega) (by omega),cO (by omega)]
    simp only[auH]
    rw[W5 (by omega)]
    exact hq
   ·obtain⟨q,hq⟩:=step (a[i]+c) 0 (by omega) (by omega) (by omega) (by omega) (by rw[ht];grind)
    refine kj _ _ _ _ _ _ ⟨q,?_⟩
    unfold iK
    rw[cg hia,aM,at8 hia,cN (show b.length≤i by omega)]
    dsimp only
    rw[cV (x:=a[i]+c) (by omega) (by omega),at9 hc,cO (by omega)]
    simp only[auH]
    rw[W5 (by omega)]
    exact hq
theorem abj(a b:List Int)(h:bi a∧bi b):Con Tryz.prog 263 [.d axe a,.d axe b] [.new 183 axg (dig (max a.length b.length+1) (val a+val b))]:=by
 refine aP (E:=[]) trivial (show Dg.Res _ _ _ from ?_)
 obtain⟨ha,hb⟩:=h
 have hsa:=ha.2
 have hsb:=hb.2
 have mk:∀n:Nat,n≤1000000000→decide ((0:Int)=0∧(0:Int)≤i64.wrap ((n:Int)+1)∧i64.wrap ((n:Int)+1)*((4:Nat):Int)≤140737488355328∧i64.wrap ((n:Int)+1)≤140737488355328)=true:=fun n hn=>by
  rw[cO (by omega)]
  exact at7 ⟨rfl,by omega,by omega,by omega⟩
 by_cases hc:a.length<b.length
 ·obtain⟨q,hq⟩:=Cy b a hb ha (by omega) b.length 0 0 [] (by omega) (by omega) (by omega) Lim.nil rfl (by simp[val])
  refine adf _ _ ⟨q,?_⟩
  unfold Sc
  rw[cg hc,mk _ hsb,Nat.max_eq_right (by omega),awT (val a)]
  exact hq
 ·obtain⟨q,hq⟩:=Cy a b ha hb (by omega) a.length 0 0 [] (by omega) (by omega) (by omega) Lim.nil rfl (by simp[val])
  refine adf _ _ ⟨q,?_⟩
  unfold Sc
  rw[cN (by omega),mk _ hsa,Nat.max_eq_left (by omega)]
  exact hq
theorem mc{r:List Int}{i:Nat}{y:Int}(hz:∀j (hj:j<r.length),i≤j→r[j]=0):∀j (hj:j<(r.set i y).length),i+1≤j→(r.set i y)[j]=0:=fun j hj hk=>by
 rw[avB (by omega)]
 exact hz j (by simpa using hj) (by omega)
theorem Qj(a b:List Int)(ha:bi a)(hb:bi b)(hle:val b≤val a)(_hab:b.length≤a.length∨True):∀(j i:Nat) (c:Int) (r:List Int),i+j=a.length→0≤c→c≤1→Lim r→r.length=a.length→(∀k (hk:k<r.length),i≤k→r[k]=0)→val r+val (b.take i)=val (a.take i)+pw i*c→
  Cj.Runs 10 (jH a b c (i:Int) r) [.new 183 axg (dig a.length (val a-val b))]:=by
 have hsa:=ha.2
 intro j
 induction j with
 |zero=>
  intro i c r hi c0 c1 hr hl hz hv
  obtain rfl:i=a.length:=by omega
  refine kg _ _ _ _ _ ⟨0,?_⟩
  unfold iI
  rw[cN (auj _)]
  have hrl:=bZ hr
  rw[hl]at hrl
  have hb2:val b=val (b.take a.length)+pw (min a.length b.length)*val (b.drop a.length):=fe b a.length
  have hbd:0≤val (b.drop a.length):=bg (hb.1.drop _)
  have hal:=bZ ha.1
  have hbt:=bg (hb.1.take a.length)
  rw[avm]at hv
  have hz0:val (b.drop a.length)=0:=by
   rcases auz a.length b.length with h1|h1
   ·rw[auI (by omega)]at hb2
    rcases auC 0 (val (b.drop a.length))with h2|h2
    ·have hp:=b8 a.length
     have:=aum (show 1≤val (b.drop a.length) by omega) (auJ hp)
     omega
    ·omega
   ·rw[au1 h1];rfl
  rw[hz0,av5,awS]at hb2
  have hc0:c=0:=by
   have hp:=b8 a.length
   rcases(show c=0∨c=1 by omega)with h|h
   ·exact h
   ·subst h;rw[av9]at hv;omega
  subst hc0
  rw[av5]at hv
  rw[←BS hr hl (show val r=val a-val b by omega)]
 |succ j ih=>
  intro i c r hi c0 c1 hr hl hz hv
  have hia:i<a.length:=by omega
  have hir:i<r.length:=by omega
  have xa:=ha.1.get hia
  have hr0:=hz i hir (auj _)
  have step:∀(y c':Int),0≤y→y<1000000000→0≤c'→c'≤1→val (b.take (i+1))=val (b.take i)+pw i*(a[i]+1000000000*c'-y-c)→Cj.Runs 10 (jH a b c' ((i+1:Nat):Int) (r.set i y)) [.new 183 axg (dig a.length (val a-val b))]:=by
   intro y c' y0 y1 k0 k1 hb'
   refine ih (i+1) c' (r.set i y) (by omega) k0 k1 (hr.set i ⟨y0,y1⟩) (by simpa using hl) (mc hz) ?_
   rw[eF hir,hr0,bk hia,hb',ce]
   grind
  by_cases hib:i<b.length
  ·have xb:=hb.1.get hib
   have ht:=bk hib
   by_cases hc:a[i]<c+b[i]
   ·obtain⟨q,hq⟩:=step (a[i]+1000000000-(c+b[i])) 1 (by omega) (by omega) (by omega) (by omega) (by rw[ht];grind)
    refine kg _ _ _ _ _ ⟨q,?_⟩
    unfold iI
    rw[cg hia,aM,at8 hia,cg hib,aM,at8 hib,aM,aR,at8 hir]
    dsimp only
    rw[cV (x:=c+b[i]) (by omega) (by omega),at7 hc,cV (x:=a[i]+1000000000) (by omega) (by omega),cV (x:=a[i]+1000000000-(c+b[i])) (by omega) (by omega),cO (by omega)]
    exact hq
   ·obtain⟨q,hq⟩:=step (a[i]-(c+b[i])) 0 (by omega) (by omega) (by omega) (by omega) (by rw[ht];grind)
    refine kg _ _ _ _ _ ⟨q,?_⟩
    unfold iI
    rw[cg hia,aM,at8 hia,cg hib,aM,at8 hib,aM,aR,at8 hir]
    dsimp only
    rw[cV (x:=c+b[i]) (by omega) (by omega),at9 hc,cV (x:=a[i]-(c+b[i])) (by omega) (by omega),cO (by omega)]
    exact hq
  ·have ht:=iD (b:=b) (i:=i) (by omega)
   by_cases hc:a[i]<c
   ·obtain⟨q,hq⟩:=step (a[i]+1000000000-c) 1 (by omega) (by omega) (by omega) (by omega) (by rw[ht];grind)
    refine kg _ _ _ _ _ ⟨q,?_⟩
    unfold iI
    rw[cg hia,aM,at8 hia,cN (show b.length≤i by omega),aM r i,aR,at8 hir]
    dsimp only
    rw[at7 hc,cV (x:=a[i]+1000000000) (by omega) (by omega),cV (x:=a[i]+1000000000-c) (by omega) (by omega),cO (by omega)]
    exact hq
   ·obtain⟨q,hq⟩:=step (a[i]-c) 0 (by omega) (by omega) (by omega) (by omega) (by rw[ht];grind)
    refine kg _ _ _ _ _ ⟨q,?_⟩
    unfold iI
    rw[cg hia,aM,at8 hia,cN (show b.length≤i by omega),aM r i,aR,at8 hir]
    dsimp only
    rw[at9 hc,cV (x:=a[i]-c) (by omega) (by omega),cO (by omega)]
    exact hq
def lL(a b:List Int):Prop:=bi a∧bi b∧val b≤val a
instance (a b:List Int):Decidable (lL a b):=by unfold lL;infer_instance
theorem abq(a b:List Int)(h:lL a b):Con Tryz.prog 264 [.d axe a,.d axe b] [.new 183 axg (dig a.length (val a-val b))]:=by
 refine aP (E:=[]) trivial (show Cj.Res _ _ _ from ?_)
 obtain⟨ha,hb,hle⟩:=h
 have hsa:=ha.2
 obtain⟨q,hq⟩:=Qj a b ha hb hle (.inr trivial) a.length 0 0 (List.replicate a.length 0) (by omega) (by omega) (by omega) (Lim.rep _) (by simp) (fun k hk _=>by simp) (by simp[val,fJ])
 refine apT _ _ ⟨q,?_⟩
 unfold afh
 rw[pH (by omega),aR]
 exact hq
theorem Fy{r x y c:Int}(hr:0≤r∧r<1000000000)(hx:0≤x∧x<1000000000)(hy:0≤y∧y<1000000000)(hc:0≤c∧c<1000000000):0≤x*y∧x*y≤999999998000000001∧0≤(r+x*y+c)/1000000000∧(r+x*y+c)/1000000000<1000000000:=by
 have h1:0≤x*y:=au5 hx.1 hy.1
 have h2:x*y≤999999999*999999999:=awa (by omega) (by omega) hy.1 (by decide)
 omega
theorem KV(a b:List Int)(ha:bi a)(hb:bi b)(i:Nat)(hi:i<a.length)
  (hout:∀r,Lim r→r.length=a.length+b.length→(∀k (hk:k<r.length),i+1+b.length≤k→r[k]=0)→val r=val (a.take (i+1))*val b→uO.Runs 8 (uX a b ((i+1:Nat):Int) r) [.new 183 axg (dig (a.length+b.length) (val a*val b))]):
  ∀(j k:Nat) (c:Int) (r:List Int),k+j=b.length→0≤c→c<1000000000→Lim r→r.length=a.length+b.length→(∀q (hq:q<r.length),i+b.length≤q→r[q]=0)→val r+pw (i+k)*c=val (a.take i)*val b+pw i*a[i]*val (b.take k)→
  uO.Runs 25 (tJ a b (i:Int) a[i] c (k:Int) r) [.new 183 axg (dig (a.length+b.length) (val a*val b))]:=by
 have hsa:=ha.2
 have hsb:=hb.2
 have xa:=ha.1.get hi
 intro j
 induction j with
 |zero=>
  intro k c r hk c0 c1 hr hl hz hv
  obtain rfl:k=b.length:=by omega
  have hir:i+b.length<r.length:=by omega
  have hr0:=hz _ hir (auj _)
  obtain⟨q,hq⟩:=hout (r.set (i+b.length) c) (hr.set _ ⟨c0,c1⟩) (by simpa using hl) (by rw[show i+1+b.length=i+b.length+1 by omega];exact mc hz) (by
   rw[eF hir,hr0,bk hi]
   rw[avm]at hv
   grind)
  refine xY _ _ _ _ _ _ _ ⟨q,?_⟩
  have hw:i64.wrap ((i:Int)+(b.length:Int))=((i+b.length:Nat):Int):=by rw[bj (by omega) (by omega)];simp
  unfold rH
  rw[cN (auj _),hw,aM r (i+b.length),aR,at8 hir,cV (x:=c) (by omega) (by omega),cO (k:=i) (by omega)]
  exact hq
 |succ j ih=>
  intro k c r hk c0 c1 hr hl hz hv
  have hkb:k<b.length:=by omega
  have hir:i+k<r.length:=by omega
  have xb:=hb.1.get hkb
  have xr:=hr.get hir
  have hbd:=Fy xr xa xb ⟨c0,c1⟩
  obtain⟨q,hq⟩:=ih (k+1) ((r[i+k]+a[i]*b[k]+c)/1000000000) (r.set (i+k) ((r[i+k]+a[i]*b[k]+c)%1000000000)) (by omega) hbd.2.2.1 hbd.2.2.2 (hr.set _ (by omega)) (by simpa using hl)
   (fun m hm hq=>by rw[avB (by omega)];exact hz m (by simpa using hm) hq) (by
    rw[eF hir,bk hkb,show i+(k+1)=i+k+1 by omega,ce,eO]
    rw[eO]at hv
    have e:=Int.emod_add_mul_ediv (r[i+k]+a[i]*b[k]+c) 1000000000
    grind)
  refine xY _ _ _ _ _ _ _ ⟨q,?_⟩
  have hw:i64.wrap ((i:Int)+(k:Int))=((i+k:Nat):Int):=by rw[bj (by omega) (by omega)];simp
  unfold rH
  rw[cg hkb,aM b k,at8 hkb,hw,aM r (i+k),aR,at8 hir]
  dsimp only
  rw[bK (x:=r[i+k]) (by omega) (by omega),bK (x:=a[i]) (by omega) (by omega),bK (x:=b[k]) (by omega) (by omega),bK (x:=a[i]*b[k]) (by omega) (by omega),bK (x:=r[i+k]+a[i]*b[k]) (by omega) (by omega),bK (x:=r[i+k]+a[i]*b[k]+c) (by omega) (by omega),fA (a:=r[i+k]+a[i]*b[k]+c) (by omega),ic (a:=r[i+k]+a[i]*b[k]+c) (by omega),bK (x:=(r[i+k]+a[i]*b[k]+c)/1000000000) (by omega) (by omega),cV (x:=(r[i+k]+a[i]*b[k]+c)%1000000000) (by omega) (by omega),cO (k:=k) (by omega)]
  exact hq
theorem KD(a b:List Int)(ha:bi a)(hb:bi b):∀(j i:Nat) (r:List Int),i+j=a.length→Lim r→r.length=a.length+b.length→(∀k (hk:k<r.length),i+b.length≤k→r[k]=0)→val r=val (a.take i)*val b→
  uO.Runs 8 (uX a b (i:Int) r) [.new 183 axg (dig (a.length+b.length) (val a*val b))]:=by
 have hsa:=ha.2
 intro j
 induction j with
 |zero=>
  intro i r hi hr hl hz hv
  obtain rfl:i=a.length:=by omega
  refine Di _ _ _ _ ⟨0,?_⟩
  unfold xh
  rw[avm]at hv
  rw[cN (auj _),←BS hr hl hv]
 |succ j ih=>
  intro i r hi hr hl hz hv
  have hia:i<a.length:=by omega
  obtain⟨q,hq⟩:=KV a b ha hb i hia (fun r' h1 h2 h3 h4=>ih (i+1) r' (by omega) h1 h2 h3 h4) b.length 0 0 r (by omega) (by omega) (by omega) hr hl hz (by simp[val,hv])
  refine Di _ _ _ _ ⟨q,?_⟩
  unfold xh
  rw[cg hia,aM,at8 hia]
  exact hq
theorem ab2(a b:List Int)(h:bi a∧bi b):Con Tryz.prog 248 [.d axe a,.d axe b] [.new 183 axg (dig (a.length+b.length) (val a*val b))]:=by
 refine aP (E:=[]) trivial (show uO.Res _ _ _ from ?_)
 obtain⟨ha,hb⟩:=h
 have hsa:=ha.2
 have hsb:=hb.2
 obtain⟨q,hq⟩:=KD a b ha hb a.length 0 (List.replicate (a.length+b.length) 0) (by omega) (Lim.rep _) (by simp) (fun k hk _=>by simp) (by simp[val,fJ])
 refine anA _ _ ⟨q,?_⟩
 have hw:i64.wrap ((a.length:Int)+(b.length:Int))=((a.length+b.length:Nat):Int):=by rw[bj (by omega) (by omega)];simp
 unfold afU
 rw[hw,pH (by omega),aR]
 exact hq
theorem Pa(a:List Int)(b:Int)(ha:bi a)(hb:1≤b∧b<1000000000):∀(n:Nat) (c:Int) (r:List Int),n≤a.length→0≤c→c<b→Lim r→r.length=a.length→(∀k (hk:k<r.length),k<n→r[k]=0)→b*val r+pw n*c+val (a.take n)=val a→
  IC.Runs 10 (t6 a b c ((n:Int)-1) r) [.d axe (dig a.length (val a/b)),.d axe [val a%b]]:=by
 have hsa:=ha.2
 intro n
 induction n with
 |zero=>
  intro c r hn c0 c1 hr hl hz hv
  simp only[kR,List.take_zero,val,avz,awS]at hv
  have e1:val a%b=c:=by
   rw[←hv,awT,av3]
   exact awf c0 c1
  have e2:val a/b=val r:=by
   rw[←hv,awT,avS _ _ (by omega),avq c0 c1]
   omega
  refine yR _ _ _ _ _ ⟨0,?_⟩
  unfold rg
  rw[at9 (by omega),e1,e2,←BS hr hl rfl,cV (x:=c) (by omega) (by omega)]
 |succ n ih=>
  intro c r hn c0 c1 hr hl hz hv
  have hna:n<a.length:=by omega
  have hnr:n<r.length:=by omega
  have xa:=ha.1.get hna
  have hr0:=hz n hnr (by omega)
  have hcb:0≤c*1000000000+a[n]:=by omega
  have m0:=avi (c*1000000000+a[n]) (show b≠0 by omega)
  have m1:=auL (c*1000000000+a[n]) (show 0<b by omega)
  have md:=auU (c*1000000000+a[n]) b
  have d0:0≤(c*1000000000+a[n])/b:=avd hcb (by omega)
  have d1:(c*1000000000+a[n])/b<1000000000:=by
   refine avG (by omega) ?_
   have:=auq (show c+1≤b by omega) (show(0:Int)≤1000000000 by decide)
   rw[avL 1000000000 b]
   omega
  obtain⟨q,hq⟩:=ih ((c*1000000000+a[n])%b) (r.set n ((c*1000000000+a[n])/b)) (by omega) m0 m1 (hr.set n ⟨d0,d1⟩) (by simpa using hl)
   (fun k hk hkn=>by rw[avB (by omega)];exact hz k (by simpa using hk) (by omega)) (by
    rw[eF hnr,hr0]
    rw[bk hna,ce]at hv
    grind)
  refine yR _ _ _ _ _ ⟨q,?_⟩
  unfold rg
  rw[show((n+1:Nat):Int)-1=(n:Int) by omega,at7 (by omega),aM a n,at8 hna,bK (x:=b) (by omega) (by omega),at9 (show ¬b=0 by omega),aM r n,aR,at8 hnr]
  dsimp only
  rw[bK (x:=c*1000000000) (by omega) (by omega),bK (x:=a[n]) (by omega) (by omega),bK (x:=c*1000000000+a[n]) (by omega) (by omega),fA hcb,ic hcb,bK (x:=(c*1000000000+a[n])/b) (by omega) (by omega),cV (x:=(c*1000000000+a[n])/b) (by omega) (by omega),bj (x:=(n:Int)-1) (by omega) (by omega)]
  exact hq
def DW(a:List Int)(b:Int):Prop:=bi a∧1≤b∧b<1000000000
instance (a:List Int) (b:Int):Decidable (DW a b):=by unfold DW;infer_instance
theorem aac(a:List Int)(b:Int)(h:DW a b):Con Tryz.prog 298 [.d axe a,.d axg b] [.d axe (dig a.length (val a/b)),.d axe [val a%b]]:=by
 refine aP (E:=[]) trivial (show IC.Res _ _ _ from ?_)
 obtain⟨ha,hb⟩:=h
 have hsa:=ha.2
 obtain⟨q,hq⟩:=Pa a b ha hb a.length 0 (List.replicate a.length 0) (auj _) (by omega) (by omega) (Lim.rep _) (by simp) (fun k hk _=>by simp) (by simp[fJ])
 refine als _ _ ⟨q,?_⟩
 unfold aes
 rw[pH (by omega),aR,bj (x:=(a.length:Int)-1) (by omega) (by omega)]
 exact hq
end Go.Proofs.YtlahabkjhgkkjaaGreat
end
