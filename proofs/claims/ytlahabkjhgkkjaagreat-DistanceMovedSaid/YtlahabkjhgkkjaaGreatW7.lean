/- Great integers in ah of nine digits: the plain laws. -/
import Derived.Test.YtlahabkjhgkkjaaGreatW6
noncomputable section
namespace Go.Proofs.YtlahabkjhgkkjaaGreat
open Go.RowKit Go.IntKind
theorem aqx:type_of% @Bool.true_and:=@Bool.true_and
theorem aqH:type_of% @Int.mul_le_mul_of_nonneg_left:=@Int.mul_le_mul_of_nonneg_left
theorem aqL:type_of% @Int.mul_le_mul_of_nonneg_right:=@Int.mul_le_mul_of_nonneg_right
theorem aqX:type_of% @Int.lt_or_le:=@Int.lt_or_le
theorem aq0:type_of% @Nat.min_eq_left:=@Nat.min_eq_left
theorem aq2:type_of% @Int.le_of_lt:=@Int.le_of_lt
theorem aq4:type_of% @Int.emod_lt_of_pos:=@Int.emod_lt_of_pos
theorem arg:type_of% @Int.mul_ediv_add_emod:=@Int.mul_ediv_add_emod
theorem arj:type_of% @IntKind.wrap_u64:=@IntKind.wrap_u64
theorem arq:type_of% @Int.mul_nonneg:=@Int.mul_nonneg
theorem ars:type_of% @List.getElem_mem:=@List.getElem_mem
theorem ary:type_of% @Int.ediv_nonneg:=@Int.ediv_nonneg
theorem arD:type_of% @Int.emod_nonneg:=@Int.emod_nonneg
theorem arL:type_of% @Int.ediv_eq_zero_of_lt:=@Int.ediv_eq_zero_of_lt
theorem arV:type_of% @List.getElem_set_ne:=@List.getElem_set_ne
theorem ar0:type_of% @Int.ediv_lt_of_lt_mul:=@Int.ediv_lt_of_lt_mul
theorem ar4:type_of% @Int.mul_comm:=@Int.mul_comm
theorem asb:type_of% @Int.add_mul_ediv_left:=@Int.add_mul_ediv_left
theorem ash:type_of% @Int.lt_trichotomy:=@Int.lt_trichotomy
theorem asm:type_of% @Int.add_mul_emod_self_left:=@Int.add_mul_emod_self_left
theorem asr:type_of% @Int.mul_le_mul:=@Int.mul_le_mul
theorem asw:type_of% @Int.emod_eq_of_lt:=@Int.emod_eq_of_lt
theorem asA:type_of% @Int.mul_zero:=@Int.mul_zero
theorem asC:type_of% @Int.mul_one:=@Int.mul_one
theorem asF:type_of% @List.drop_length:=@List.drop_length
theorem asM:type_of% @Int.lt_of_lt_of_le:=@Int.lt_of_lt_of_le
theorem atc:type_of% @Int.add_zero:=@Int.add_zero
theorem atd:type_of% @Int.add_comm:=@Int.add_comm
theorem atn:type_of% @Int.mul_add:=@Int.mul_add
theorem ato:type_of% @Int.one_mul:=@Int.one_mul
theorem dT{p:Prop}{i:Decidable p}(h:p): @decide p i=true:=aqs h
theorem dF{p:Prop}{i:Decidable p}(h:¬p): @decide p i=false:=aqu h
def val:List Int→Int
 |[]=>0
 |x::xs=>x+1000000000*val xs
def Lim(l:List Int):Prop:=∀x∈l,0≤x∧x<1000000000
instance (l:List Int):Decidable (Lim l):=by unfold Lim;infer_instance
def pw(n:Nat):Int:=1000000000^n
theorem kp:pw 0=1:=rfl
theorem b8(n:Nat):pw (n+1)=pw n*1000000000:=by simp[pw,Int.pow_succ]
theorem bU(n:Nat):0<pw n:=Int.pow_pos (by decide)
theorem eo(m n:Nat):pw (m+n)=pw m*pw n:=Int.pow_add _ _ _
theorem cQ{m n:Nat}(h:m≤n):pw m≤pw n:=by
 obtain⟨k,rfl⟩:=Nat.exists_eq_add_of_le h
 rw[eo]
 have h1:=bU m
 have h2:=bU k
 have:=aqH (show 1≤pw k by omega) (aq2 h1)
 omega
theorem Lim.nil:Lim []:=fun _ h=>by cases h
theorem Lim.cons{x:Int}{l:List Int}(h1:0≤x∧x<1000000000)(h2:Lim l):Lim (x::l):=fun y hy=>by
 rcases arc.1 hy with rfl|hy
 ·exact h1
 ·exact h2 y hy
theorem Lim.head{x:Int}{l:List Int}(h:Lim (x::l)):0≤x∧x<1000000000:=h x (by simp)
theorem Lim.tail{x:Int}{l:List Int}(h:Lim (x::l)):Lim l:=fun y hy=>h y (by simp[hy])
theorem Lim.append{a b:List Int}(h1:Lim a)(h2:Lim b):Lim (a++b):=fun y hy=>by
 rcases aq7.1 hy with hy|hy
 ·exact h1 y hy
 ·exact h2 y hy
theorem Lim.left{a b:List Int}(h:Lim (a++b)):Lim a:=fun y hy=>h y (by simp[hy])
theorem Lim.right{a b:List Int}(h:Lim (a++b)):Lim b:=fun y hy=>h y (by simp[hy])
theorem Lim.take{a:List Int}(h:Lim a)(n:Nat):Lim (a.take n):=fun y hy=>h y (ass hy)
theorem Lim.drop{a:List Int}(h:Lim a)(n:Nat):Lim (a.drop n):=fun y hy=>h y (ast hy)
theorem Lim.set{a:List Int}(h:Lim a)(n:Nat){y:Int}(hy:0≤y∧y<1000000000):Lim (a.set n y):=fun z hz=>by
 rcases List.mem_or_eq_of_mem_set hz with hz|rfl
 ·exact h z hz
 ·exact hy
theorem Lim.get{a:List Int}(h:Lim a){n:Nat}(hn:n<a.length):0≤a[n]∧a[n]<1000000000:=h _ (ars hn)
theorem Lim.rep(n:Nat):Lim (List.replicate n 0):=fun y hy=>by
 rw[List.eq_of_mem_replicate hy];decide
theorem cX(a b:List Int):val (a++b)=val a+pw a.length*val b:=by
 induction a with
 |nil=>simp[val,pw]
 |cons x a ih=>
  simp only[List.cons_append,val,ih,aq1,b8]
  grind
theorem aY{l:List Int}(h:Lim l):0≤val l:=by
 induction l with
 |nil=>exact Int.le_refl _
 |cons x l ih=>
  have:=ih h.tail
  have:=h.head
  simp only[val]
  omega
theorem bV{l:List Int}(h:Lim l):val l<pw l.length:=by
 induction l with
 |nil=>exact Int.zero_lt_one
 |cons x l ih=>
  have:=ih h.tail
  have:=h.head
  simp only[val,aq1,b8]
  omega
theorem zU:∀{a b:List Int},Lim a→Lim b→a.length=b.length→val a=val b→a=b
 |[],[],_,_,_,_=>rfl
 |[],_::_,_,_,h,_=>by simp at h
 |_::_,[],_,_,h,_=>by simp at h
 |x::a,y::b,h1,h2,hl,hv=>by
  have k1:=h1.head
  have k2:=h2.head
  simp only[val]at hv
  have e:x=y:=by omega
  subst e
  rw[zU h1.tail h2.tail (by simpa using hl) (by omega)]
theorem fq(n:Nat):val (List.replicate n 0)=0:=by
 induction n with
 |zero=>rfl
 |succ n ih=>simp[List.replicate_succ,val,ih]
theorem bj{l:List Int}{n:Nat}(h:n<l.length):val (l.take (n+1))=val (l.take n)+pw n*l[n]:=by
 rw[List.take_succ_eq_append_getElem h,cX]
 simp[val,aq0 (Nat.le_of_lt h)]
theorem dW:∀{l:List Int} {n:Nat} (h:n<l.length) (y:Int),val (l.set n y)=val l+pw n*(y-l[n])
 |[],_,h,_=>by simp at h
 |x::l,0,_,y=>by simp only[List.set_cons_zero,val,kp,List.getElem_cons_zero];omega
 |x::l,n+1,h,y=>by
  have:=dW (l:=l) (n:=n) (by simpa using h) y
  simp only[List.set_cons_succ,val,this,b8,List.getElem_cons_succ]
  grind
theorem eN(l:List Int)(n:Nat):val l=val (l.take n)+pw (min n l.length)*val (l.drop n):=by
 have:=cX (l.take n) (l.drop n)
 rw[arP]at this
 rw[this]
 simp
def dig:Nat→Int→List Int
 |0,_=>[]
 |n+1,v=>v%1000000000::dig n (v/1000000000)
theorem gk:∀(n:Nat) (v:Int),(dig n v).length=n
 |0,_=>rfl
 |n+1,v=>by simp[dig,gk n]
theorem kL:∀(n:Nat) (v:Int),Lim (dig n v)
 |0,_=>Lim.nil
 |n+1,v=>Lim.cons (by omega) (kL n _)
theorem fP:∀(n:Nat) (v:Int),0≤v→v<pw n→val (dig n v)=v
 |0,v,h1,h2=>by simp only[kp]at h2;simp only[dig,val];omega
 |n+1,v,h1,h2=>by
  rw[b8]at h2
  simp only[dig,val]
  rw[fP n (v/1000000000) (by omega) (by omega)]
  omega
theorem zt{l:List Int}{n:Nat}{v:Int}(h:Lim l)(hl:l.length=n)(hv:val l=v):l=dig n v:=by
 subst hl hv
 exact zU h (kL _ _) (gk _ _).symm (fP _ _ (aY h) (bV h)).symm
def lbF:Nat→Nat→List Int
 |0,_=>[]
 |f+1,n=>bif n==0 then []else((n%1000000000:Nat):Int)::lbF f (n/1000000000)
def ah(n:Nat):List Int:=lbF (n.log2+1) n
theorem oL(f:Nat):lbF f 0=[]:=by cases f<;>rfl
theorem Bl:∀(f g n:Nat),n<2^f→n<2^g→lbF f n=lbF g n
 |0,g,n,h,_=>by
  have:n=0:=by simpa using h
  subst this
  rw[oL,oL]
 |f+1,0,n,_,h=>by
  have:n=0:=by simpa using h
  subst this
  rw[oL,oL]
 |f+1,g+1,n,h1,h2=>by
  rw[Nat.pow_succ]at h1 h2
  simp only[lbF]
  rw[Bl f g (n/1000000000) (by omega) (by omega)]
theorem S4{f n:Nat}(h:n<2^f):ah n=lbF f n:=Bl _ _ _ Nat.lt_log2_self h
theorem dY:ah 0=[]:=rfl
theorem fB{n:Nat}(h:n≠0):ah n=((n%1000000000:Nat):Int)::ah (n/1000000000):=by
 have h1:n/1000000000<2^n.log2:=by
  have:=Nat.lt_log2_self (n:=n)
  rw[Nat.pow_succ]at this
  omega
 rw[S4 (f:=n.log2) h1]
 unfold ah
 simp only[lbF]
 rw[show(n==0)=false by simpa using h]
 rfl
theorem mS{motive:Nat→Prop}(h0:motive 0)(h1:∀n,n≠0→motive (n/1000000000)→motive n)(n:Nat):motive n:=by
 induction n using Nat.strongRecOn with
 |ind n ih=>
  by_cases hn:n=0
  ·subst hn;exact h0
  ·exact h1 n hn (ih _ (by omega))
theorem bW(n:Nat):Lim (ah n):=by
 induction n using mS with
 |h0=>exact Lim.nil
 |h1 n hn ih=>rw[fB hn];exact Lim.cons (by omega) ih
theorem bI(n:Nat):val (ah n)=(n:Int):=by
 induction n using mS with
 |h0=>rfl
 |h1 n hn ih=>rw[fB hn];simp only[val,ih];omega
def can(l:List Int):Prop:=Lim l∧l.getLast?≠some 0
instance (l:List Int):Decidable (can l):=by unfold can;infer_instance
theorem dq(n:Nat):can (ah n):=by
 refine⟨bW n,?_⟩
 induction n using mS with
 |h0=>simp[dY]
 |h1 n hn ih=>
  rw[fB hn]
  by_cases hz:n/1000000000=0
  ·rw[hz,dY]
   simp
   omega
  ·have hne:ah (n/1000000000)≠[]:=by rw[fB hz];simp
   rw[List.getLast?_cons_of_ne_nil hne]
   exact ih
theorem F7{x:Int}{l:List Int}(h:can (x::l)):can l:=by
 refine⟨h.1.tail,fun e=>h.2 ?_⟩
 have hne:l≠[]:=fun e'=>by subst e';simp at e
 rw[List.getLast?_cons_of_ne_nil hne]
 exact e
theorem dI:∀{l:List Int},can l→l≠[]→0<val l
 |[],_,h=>by cases h rfl
 |[x],h,_=>by
  have:=h.1.head
  have h2:=h.2
  simp at h2
  simp only[val]
  omega
 |x::y::l,h,_=>by
  have:=dI (F7 h) (by simp)
  have:=h.1.head
  simp only[val]at*
  omega
theorem lD:∀{l:List Int},can l→l=ah (val l).toNat
 |[],_=>rfl
 |x::l,h=>by
  have ih:=lD (F7 h)
  have hp:=dI h (by simp)
  have hx:=h.1.head
  have hn:=aY h.1.tail
  rw[fB (by omega)]
  simp only[val]at hp ⊢
  rw[show(x+1000000000*val l).toNat%1000000000=x.toNat by omega,show(x+1000000000*val l).toNat/1000000000=(val l).toNat by omega,←ih]
  rw[show((x.toNat:Nat):Int)=x by omega]
theorem cO{n k:Nat}(h:(n:Int)<pw k):(ah n).length≤k:=by
 induction k generalizing n with
 |zero=>
  have:n=0:=by simp only[kp]at h;omega
  subst this
  simp[dY]
 |succ k ih=>
  rw[b8]at h
  by_cases hn:n=0
  ·subst hn;simp[dY]
  ·rw[fB hn]
   have:=ih (n:=n/1000000000) (by omega)
   simp;omega
theorem yY{n k:Nat}(h:pw k≤(n:Int)):k<(ah n).length:=by
 rcases aqT k (ah n).length with h1|h1
 ·exact h1
 ·have h2:=bV (bW n)
  rw[bI]at h2
  have:=cQ h1
  omega
theorem fF{n:Nat}:ah n=[]↔n=0:=by
 constructor
 ·intro h
  have:=bI n
  rw[h]at this
  simp[val]at this
  omega
 ·rintro rfl;rfl
def ai(z:Int):Bool×List Int:=(decide (z<0),ah z.natAbs)
def ae(x:Bool×List Int):Int:=bif x.1 then-val x.2 else val x.2
theorem dec_enc(z:Int):ae (ai z)=z:=by
 unfold ae ai
 rw[bI]
 by_cases h:z<0
 ·rw[aqs h];simp only[cond_true];omega
 ·rw[aqu h];simp only[cond_false];omega
def ce(a b:Int):Int:=bif decide (a<b)then-1 else bif decide (b<a)then 1 else 0
abbrev y0Y:Ty:=.st (.pair .str (.int .u64))
abbrev y1Y:Ty:=.st (.pair (.int .i64) (.int .i64))
abbrev y2Y:Ty:=.st (.pair .bool (.sl (.int .u32)))
abbrev y3Y:Ty:=.st (.pair (.int .i16) (.pair (.int .i16) (.int .u8)))
abbrev y4Y:Ty:=.st (.pair (.int .i64) (.pair (.int .i64) (.pair .bool (.int .u8))))
abbrev y5Y:Ty:=.st (.pair (.int .i16) (.pair (.int .i16) (.pair (.int .i16) (.pair (.int .i16) (.pair (.int .u16) (.int .u8))))))
abbrev y6Y:Ty:=.st (.pair (.int .u8) (.pair (.int .u8) (.pair (.int .i8) (.pair (.int .i8) (.pair (.int .i8) (.pair (.int .i8) (.pair (.int .i8) (.int .i8))))))))
abbrev y7Y:Ty:=.st (.pair (.st (.pair y2Y y2Y)) (.st (.pair y2Y y2Y)))
abbrev y8Y:Ty:=.st (.pair (.st (.pair y2Y y2Y)) (.pair (.st (.pair y2Y y2Y)) (.st (.pair y2Y y2Y))))
abbrev y9Y:Ty:=.st (.pair y6Y (.pair y6Y (.int .u8)))
abbrev Me:Ty:=.st (.pair (.st (.pair y2Y y2Y)) (.pair (.st (.pair y2Y y2Y)) (.pair (.st (.pair y2Y y2Y)) (.pair (.st (.pair y2Y y2Y)) (.st (.pair y2Y y2Y))))))
abbrev aoO:Ty:=.st (.pair (.st (.pair y2Y y2Y)) (.pair (.st (.pair y2Y y2Y)) (.pair (.st (.pair y2Y y2Y)) (.pair (.st (.pair y2Y y2Y)) (.pair (.st (.pair y2Y y2Y)) (.st (.pair y2Y y2Y)))))))
abbrev aeG:Ty:=.st (.pair .bool (.pair y8Y (.pair y8Y (.pair .bool (.pair Me Me)))))
abbrev atA:Ty:=.sl (.int .u32)
abbrev atB:Ty:=.int .i64
abbrev atC:Ty:=.int .u32
def tN(n:Nat)(t:Ty):Nat×TI:=(n,⟨t,[],0,0,0,true⟩)
def tU(n:Nat):Nat×TI:=(n,⟨.int .i64,[],0,0,0,false⟩)
def tS(n:Nat)(t:Ty)(l:List (Nat×Nat)):Nat×TI:=(n,⟨t,l,0,0,0,true⟩)
def tA(n:Nat)(t:Ty)(e l:Nat):Nat×TI:=(n,⟨t,[],e,l,0,true⟩)
def tLs(n:Nat)(t:Ty)(e b:Nat):Nat×TI:=(n,⟨t,[],e,0,b,true⟩)
def tys:TT:=[tU 1,
 tN 2 atB,
 tN 3 atB,
 tN 4 .bool,
 tN 5 (.int .u8),
 tN 6 (.int .u8),
 tS 7 y4Y [(0,1),(1,1),(2,1),(3,1)],
 tS 8 y4Y [(0,1),(1,1),(2,1),(3,1)],
 tN 9 .str,
 tN 10 .str,
 tN 11 .str,
 tN 12 (.int .u64),
 tS 13 y0Y [(0,1),(1,1)],
 tS 14 y0Y [(0,1),(1,1)],
 tU 15,
 tU 16,
 tU 17,
 tN 21 (.int .i32),
 tN 22 (.int .i8),
 tS 23 y6Y [(0,1),(1,1),(2,1),(3,1),(4,1),(5,1),(6,1),(7,1)],
 tS 24 y6Y [(0,1),(1,1),(2,1),(3,1),(4,1),(5,1),(6,1),(7,1)],
 tS 25 y9Y [(0,8),(8,8),(16,1)],
 tS 26 y9Y [(0,8),(8,8),(16,1)],
 tN 27 (.int .i16),
 tS 28 y3Y [(0,1),(1,1),(2,1)],
 tS 29 y3Y [(0,1),(1,1),(2,1)],
 tU 30,
 tLs 31 atA 183 4,
 tS 32 y2Y [(0,1),(1,1)],
 tS 33 y2Y [(0,1),(1,1)],
 tS 34 (.st (.pair y2Y y2Y)) [(0,2),(2,2)],
 tS 35 (.st (.pair y2Y y2Y)) [(0,2),(2,2)],
 tS 36 y8Y [(0,4),(4,4),(8,4)],
 tS 37 y8Y [(0,4),(4,4),(8,4)],
 tS 38 y8Y [(0,4),(4,4),(8,4)],
 tS 39 y8Y [(0,4),(4,4),(8,4)],
 tS 40 Me [(0,4),(4,4),(8,4),(12,4),(16,4)],
 tS 41 Me [(0,4),(4,4),(8,4),(12,4),(16,4)],
 tS 42 aeG [(0,1),(1,12),(13,12),(25,1),(26,20),(46,20)],
 tS 43 aeG [(0,1),(1,12),(13,12),(25,1),(26,20),(46,20)],
 tU 45,
 tS 46 y7Y [(0,4),(4,4)],
 tS 47 y7Y [(0,4),(4,4)],
 tU 48,
 tS 49 y8Y [(0,4),(4,4),(8,4)],
 tU 50,
 tU 51,
 tU 52,
 tU 53,
 tU 54,
 tU 55,
 tU 56,
 tU 57,
 tU 58,
 tU 59,
 tU 60,
 tLs 61 (.sl Me) 41 320,
 tLs 62 (.sl aeG) 43 1040,
 tU 63,
 tU 65,
 tN 66 atB,
 tU 68,
 tU 70,
 tU 71,
 tA 72 (.st (.pair y3Y y3Y)) 3 2,
 tU 73,
 tU 74,
 tU 75,
 tU 76,
 tLs 77 (.sl y6Y) 24 8,
 tU 79,
 tLs 80 (.sl atB) 3 8,
 tU 81,
 tU 82,
 tU 83,
 tU 84,
 tU 85,
 tN 86 (.int .u16),
 tS 87 y5Y [(0,1),(1,1),(2,1),(3,1),(4,1),(5,1)],
 tS 88 y5Y [(0,1),(1,1),(2,1),(3,1),(4,1),(5,1)],
 tU 89,
 tU 90,
 tU 92,
 tU 93,
 tA 94 (.st (.pair (.int .i8) (.pair (.int .i8) (.int .i8)))) 1 3,
 tU 95,
 tU 96,
 tU 97,
 tU 99,
 tU 100,
 tU 101,
 tU 102,
 tU 103,
 tU 104,
 tU 105,
 tU 106,
 tU 107,
 tU 108,
 tU 109,
 tU 110,
 tU 111,
 tU 112,
 tU 113,
 tU 114,
 tU 115,
 tU 116,
 tU 117,
 tU 118,
 tU 119,
 tU 120,
 tU 121,
 tU 122,
 tU 123,
 tU 125,
 tU 126,
 tU 127,
 tU 128,
 tU 129,
 tU 131,
 tU 132,
 tU 133,
 tU 134,
 tU 135,
 tLs 136 (.sl (.st (.pair y2Y y2Y))) 35 64,
 tU 137,
 tU 138,
 tU 139,
 tU 140,
 tU 141,
 tU 142,
 tU 143,
 tU 144,
 tU 145,
 tU 146,
 tU 147,
 tU 148,
 tU 149,
 tU 150,
 tU 151,
 tU 152,
 tU 153,
 tU 155,
 tU 156,
 tU 158,
 tU 160,
 tU 161,
 tU 162,
 tU 163,
 tU 164,
 tU 165,
 tU 166,
 tU 167,
 tU 168,
 tU 169,
 tU 170,
 tU 171,
 tU 173,
 tU 175,
 tU 176,
 tU 177,
 tU 178,
 tU 179,
 tU 180,
 tU 181,
 tU 182,
 tN 183 atC,
 tU 184,
 tU 185,
 tU 187,
 tU 188,
 tN 189 (.int .u64),
 tU 190,
 tU 191,
 tU 192,
 tS 193 y7Y [(0,4),(4,4)],
 tS 194 y7Y [(0,4),(4,4)],
 tU 196,
 tS 197 aoO [(0,4),(4,4),(8,4),(12,4),(16,4),(20,4)],
 tS 198 aoO [(0,4),(4,4),(8,4),(12,4),(16,4),(20,4)],
 tU 199,
 tU 200,
 tU 201,
 tU 202,
 tU 203,
 tU 205,
 tU 206,
 tU 207,
 tU 208,
 tU 209,
 tU 211,
 tU 213,
 tU 214,
 tU 216,
 tU 217,
 tU 218,
 tU 219,
 tU 220,
 tU 221,
 tU 222,
 tU 223,
 tU 224,
 tU 225,
 tU 226,
 tU 227,
 tU 229,
 tU 230,
 tS 231 y1Y [(0,1),(1,1)],
 tS 232 y1Y [(0,1),(1,1)],
 tU 234,
 tU 235,
 tU 236,
 tU 237,
 tU 238,
 tU 239,
 tU 240,
 tS 241 (.st .bool) [(0,1)],
 tS 242 (.st .bool) [(0,1)],
 tU 243,
 tU 244,
 tU 245,
 tU 246,
 tU 247,
 tU 249,
 tU 250,
 tU 251,
 tU 252,
 tU 254,
 tU 255,
 tU 256,
 tU 257,
 tLs 258 (.sl atB) 2 8,
 tU 260,
 tU 261,
 tU 262,
 tU 263,
 tU 265,
 tU 266,
 tN 267 (.int .u64),
 tU 268,
 tN 274 (.int .u8),
 tN 275 (.int .u8),
 tU 276,
 tU 277,
 tN 278 (.int .i32),
 tN 279 (.int .i32)]
theorem aeO:dU Tryz.prog tys=true:=by kernel_rfl
theorem Se:Tryz.prog.follows .mixedOrders=true:=by kernel_rfl
set_option maxRecDepth 100000 in
noncomputable def ft:FT:=[(2,Tryz.f2),(3,Tryz.f3),(4,Tryz.f4),(5,Tryz.f5),(6,Tryz.f6),(7,Tryz.f7),(8,Tryz.f8),(9,Tryz.f9),(10,Tryz.f10),(11,Tryz.f11),(12,Tryz.f12),(13,Tryz.f13),(14,Tryz.f14),(15,Tryz.f15),(16,Tryz.f16),(17,Tryz.f17),(18,Tryz.f18),(19,Tryz.f19),(20,Tryz.f20),(21,Tryz.f21),(22,Tryz.f22),(23,Tryz.f23),(24,Tryz.f24),(25,Tryz.f25),(26,Tryz.f26),(27,Tryz.f27),(28,Tryz.f28),(29,Tryz.f29),(30,Tryz.f30),(31,Tryz.f31),(32,Tryz.f32),(33,Tryz.f33),(34,Tryz.f34),(35,Tryz.f35),(36,Tryz.f36),(37,Tryz.f37),(38,Tryz.f38),(39,Tryz.f39),(40,Tryz.f40),(41,Tryz.f41),(42,Tryz.f42),(43,Tryz.f43),(44,Tryz.f44),(45,Tryz.f45),(46,Tryz.f46),(47,Tryz.f47),(48,Tryz.f48),(49,Tryz.f49),(50,Tryz.f50),(51,Tryz.f51),(52,Tryz.f52),(53,Tryz.f53),(54,Tryz.f54),(55,Tryz.f55),(56,Tryz.f56),(57,Tryz.f57),(58,Tryz.f58),(59,Tryz.f59),(60,Tryz.f60),(61,Tryz.f61),(62,Tryz.f62),(63,Tryz.f63),(64,Tryz.f64),(65,Tryz.f65),(66,Tryz.f66),(67,Tryz.f67),(68,Tryz.f68),(69,Tryz.f69),(70,Tryz.f70),(71,Tryz.f71),(72,Tryz.f72),(73,Tryz.f73),(74,Tryz.f74),(75,Tryz.f75),(76,Tryz.f76),(77,Tryz.f77),(78,Tryz.f78),(79,Tryz.f79),(80,Tryz.f80),(81,Tryz.f81),(82,Tryz.f82),(83,Tryz.f83),(84,Tryz.f84),(85,Tryz.f85),(86,Tryz.f86),(87,Tryz.f87),(88,Tryz.f88),(89,Tryz.f89),(90,Tryz.f90),(91,Tryz.f91),(92,Tryz.f92),(93,Tryz.f93),(94,Tryz.f94),(95,Tryz.f95),(96,Tryz.f96),(97,Tryz.f97),(98,Tryz.f98),(99,Tryz.f99),(100,Tryz.f100),(101,Tryz.f101),(102,Tryz.f102),(103,Tryz.f103),(104,Tryz.f104),(105,Tryz.f105),(106,Tryz.f106),(107,Tryz.f107),(108,Tryz.f108),(109,Tryz.f109),(110,Tryz.f110),(111,Tryz.f111),(112,Tryz.f112),(113,Tryz.f113),(114,Tryz.f114),(115,Tryz.f115),(116,Tryz.f116),(117,Tryz.f117),(118,Tryz.f118),(119,Tryz.f119),(120,Tryz.f120),(121,Tryz.f121),(122,Tryz.f122),(123,Tryz.f123),(124,Tryz.f124),(125,Tryz.f125),(126,Tryz.f126),(127,Tryz.f127),(128,Tryz.f128),(129,Tryz.f129),(130,Tryz.f130),(131,Tryz.f131),(132,Tryz.f132),(133,Tryz.f133),(134,Tryz.f134),(135,Tryz.f135),(136,Tryz.f136),(137,Tryz.f137),(138,Tryz.f138),(139,Tryz.f139),(140,Tryz.f140),(141,Tryz.f141),(142,Tryz.f142),(143,Tryz.f143),(144,Tryz.f144),(145,Tryz.f145),(146,Tryz.f146),(147,Tryz.f147),(148,Tryz.f148),(149,Tryz.f149),(150,Tryz.f150),(151,Tryz.f151),(152,Tryz.f152),(153,Tryz.f153),(154,Tryz.f154),(155,Tryz.f155),(156,Tryz.f156),(157,Tryz.f157),(158,Tryz.f158),(159,Tryz.f159),(160,Tryz.f160),(161,Tryz.f161),(162,Tryz.f162),(163,Tryz.f163),(164,Tryz.f164),(165,Tryz.f165),(166,Tryz.f166),(167,Tryz.f167),(168,Tryz.f168),(169,Tryz.f169),(170,Tryz.f170),(171,Tryz.f171),(172,Tryz.f172),(173,Tryz.f173),(174,Tryz.f174),(175,Tryz.f175),(176,Tryz.f176),(177,Tryz.f177),(178,Tryz.f178),(179,Tryz.f179),(180,Tryz.f180),(181,Tryz.f181),(182,Tryz.f182),(183,Tryz.f183),(184,Tryz.f184),(185,Tryz.f185),(186,Tryz.f186),(187,Tryz.f187),(188,Tryz.f188),(189,Tryz.f189),(190,Tryz.f190),(191,Tryz.f191),(192,Tryz.f192),(193,Tryz.f193),(194,Tryz.f194),(195,Tryz.f195),(196,Tryz.f196),(197,Tryz.f197),(198,Tryz.f198),(199,Tryz.f199),(200,Tryz.f200),(201,Tryz.f201),(202,Tryz.f202),(203,Tryz.f203),(204,Tryz.f204),(205,Tryz.f205),(206,Tryz.f206),(207,Tryz.f207),(208,Tryz.f208),(209,Tryz.f209),(210,Tryz.f210),(211,Tryz.f211),(212,Tryz.f212),(213,Tryz.f213),(214,Tryz.f214),(215,Tryz.f215),(216,Tryz.f216),(217,Tryz.f217),(218,Tryz.f218),(219,Tryz.f219),(220,Tryz.f220),(221,Tryz.f221),(222,Tryz.f222),(223,Tryz.f223),(224,Tryz.f224),(225,Tryz.f225),(226,Tryz.f226),(227,Tryz.f227),(228,Tryz.f228),(229,Tryz.f229),(230,Tryz.f230),(231,Tryz.f231),(232,Tryz.f232),(233,Tryz.f233),(234,Tryz.f234),(235,Tryz.f235),(236,Tryz.f236),(237,Tryz.f237),(238,Tryz.f238),(239,Tryz.f239),(240,Tryz.f240),(241,Tryz.f241),(242,Tryz.f242),(243,Tryz.f243),(244,Tryz.f244),(245,Tryz.f245),(246,Tryz.f246),(247,Tryz.f247),(248,Tryz.f248),(249,Tryz.f249),(250,Tryz.f250),(251,Tryz.f251),(252,Tryz.f252),(253,Tryz.f253),(254,Tryz.f254),(255,Tryz.f255),(256,Tryz.f256),(257,Tryz.f257),(258,Tryz.f258),(259,Tryz.f259),(260,Tryz.f260),(261,Tryz.f261),(262,Tryz.f262),(263,Tryz.f263),(264,Tryz.f264),(265,Tryz.f265),(266,Tryz.f266),(267,Tryz.f267),(268,Tryz.f268),(269,Tryz.f269),(270,Tryz.f270),(271,Tryz.f271),(272,Tryz.f272),(273,Tryz.f273),(274,Tryz.f274),(275,Tryz.f275),(276,Tryz.f276),(277,Tryz.f277),(278,Tryz.f278),(279,Tryz.f279),(280,Tryz.f280),(281,Tryz.f281),(282,Tryz.f282),(283,Tryz.f283),(284,Tryz.f284),(285,Tryz.f285),(286,Tryz.f286),(287,Tryz.f287),(288,Tryz.f288),(289,Tryz.f289),(290,Tryz.f290),(291,Tryz.f291),(292,Tryz.f292),(293,Tryz.f293),(294,Tryz.f294),(295,Tryz.f295),(296,Tryz.f296),(297,Tryz.f297),(298,Tryz.f298),(299,Tryz.f299),(300,Tryz.f300),(301,Tryz.f301),(302,Tryz.f302),(303,Tryz.f303)]
set_option maxRecDepth 100000 in
theorem ajN:FtAll Tryz.prog ft:=⟨Tryz.func2,Tryz.func3,Tryz.func4,Tryz.func5,Tryz.func6,Tryz.func7,Tryz.func8,Tryz.func9,Tryz.func10,Tryz.func11,Tryz.func12,Tryz.func13,Tryz.func14,Tryz.func15,Tryz.func16,Tryz.func17,Tryz.func18,Tryz.func19,Tryz.func20,Tryz.func21,Tryz.func22,Tryz.func23,Tryz.func24,Tryz.func25,Tryz.func26,Tryz.func27,Tryz.func28,Tryz.func29,Tryz.func30,Tryz.func31,Tryz.func32,Tryz.func33,Tryz.func34,Tryz.func35,Tryz.func36,Tryz.func37,Tryz.func38,Tryz.func39,Tryz.func40,Tryz.func41,Tryz.func42,Tryz.func43,Tryz.func44,Tryz.func45,Tryz.func46,Tryz.func47,Tryz.func48,Tryz.func49,Tryz.func50,Tryz.func51,Tryz.func52,Tryz.func53,Tryz.func54,Tryz.func55,Tryz.func56,Tryz.func57,Tryz.func58,Tryz.func59,Tryz.func60,Tryz.func61,Tryz.func62,Tryz.func63,Tryz.func64,Tryz.func65,Tryz.func66,Tryz.func67,Tryz.func68,Tryz.func69,Tryz.func70,Tryz.func71,Tryz.func72,Tryz.func73,Tryz.func74,Tryz.func75,Tryz.func76,Tryz.func77,Tryz.func78,Tryz.func79,Tryz.func80,Tryz.func81,Tryz.func82,Tryz.func83,Tryz.func84,Tryz.func85,Tryz.func86,Tryz.func87,Tryz.func88,Tryz.func89,Tryz.func90,Tryz.func91,Tryz.func92,Tryz.func93,Tryz.func94,Tryz.func95,Tryz.func96,Tryz.func97,Tryz.func98,Tryz.func99,Tryz.func100,Tryz.func101,Tryz.func102,Tryz.func103,Tryz.func104,Tryz.func105,Tryz.func106,Tryz.func107,Tryz.func108,Tryz.func109,Tryz.func110,Tryz.func111,Tryz.func112,Tryz.func113,Tryz.func114,Tryz.func115,Tryz.func116,Tryz.func117,Tryz.func118,Tryz.func119,Tryz.func120,Tryz.func121,Tryz.func122,Tryz.func123,Tryz.func124,Tryz.func125,Tryz.func126,Tryz.func127,Tryz.func128,Tryz.func129,Tryz.func130,Tryz.func131,Tryz.func132,Tryz.func133,Tryz.func134,Tryz.func135,Tryz.func136,Tryz.func137,Tryz.func138,Tryz.func139,Tryz.func140,Tryz.func141,Tryz.func142,Tryz.func143,Tryz.func144,Tryz.func145,Tryz.func146,Tryz.func147,Tryz.func148,Tryz.func149,Tryz.func150,Tryz.func151,Tryz.func152,Tryz.func153,Tryz.func154,Tryz.func155,Tryz.func156,Tryz.func157,Tryz.func158,Tryz.func159,Tryz.func160,Tryz.func161,Tryz.func162,Tryz.func163,Tryz.func164,Tryz.func165,Tryz.func166,Tryz.func167,Tryz.func168,Tryz.func169,Tryz.func170,Tryz.func171,Tryz.func172,Tryz.func173,Tryz.func174,Tryz.func175,Tryz.func176,Tryz.func177,Tryz.func178,Tryz.func179,Tryz.func180,Tryz.func181,Tryz.func182,Tryz.func183,Tryz.func184,Tryz.func185,Tryz.func186,Tryz.func187,Tryz.func188,Tryz.func189,Tryz.func190,Tryz.func191,Tryz.func192,Tryz.func193,Tryz.func194,Tryz.func195,Tryz.func196,Tryz.func197,Tryz.func198,Tryz.func199,Tryz.func200,Tryz.func201,Tryz.func202,Tryz.func203,Tryz.func204,Tryz.func205,Tryz.func206,Tryz.func207,Tryz.func208,Tryz.func209,Tryz.func210,Tryz.func211,Tryz.func212,Tryz.func213,Tryz.func214,Tryz.func215,Tryz.func216,Tryz.func217,Tryz.func218,Tryz.func219,Tryz.func220,Tryz.func221,Tryz.func222,Tryz.func223,Tryz.func224,Tryz.func225,Tryz.func226,Tryz.func227,Tryz.func228,Tryz.func229,Tryz.func230,Tryz.func231,Tryz.func232,Tryz.func233,Tryz.func234,Tryz.func235,Tryz.func236,Tryz.func237,Tryz.func238,Tryz.func239,Tryz.func240,Tryz.func241,Tryz.func242,Tryz.func243,Tryz.func244,Tryz.func245,Tryz.func246,Tryz.func247,Tryz.func248,Tryz.func249,Tryz.func250,Tryz.func251,Tryz.func252,Tryz.func253,Tryz.func254,Tryz.func255,Tryz.func256,Tryz.func257,Tryz.func258,Tryz.func259,Tryz.func260,Tryz.func261,Tryz.func262,Tryz.func263,Tryz.func264,Tryz.func265,Tryz.func266,Tryz.func267,Tryz.func268,Tryz.func269,Tryz.func270,Tryz.func271,Tryz.func272,Tryz.func273,Tryz.func274,Tryz.func275,Tryz.func276,Tryz.func277,Tryz.func278,Tryz.func279,Tryz.func280,Tryz.func281,Tryz.func282,Tryz.func283,Tryz.func284,Tryz.func285,Tryz.func286,Tryz.func287,Tryz.func288,Tryz.func289,Tryz.func290,Tryz.func291,Tryz.func292,Tryz.func293,Tryz.func294,Tryz.func295,Tryz.func296,Tryz.func297,Tryz.func298,Tryz.func299,Tryz.func300,Tryz.func301,Tryz.func302,Tryz.func303,trivial⟩
def EnvAll(P:Program):Env→Prop
 |[]=>True
 |p::l=>(dw P p.1=true∧yI P p.1 p.2∧∀g,p.2.mut_=some g→Ky P p.1 g)∧EnvAll P l
theorem EnvAll.ok{P:Program}:∀{l:Env},EnvAll P l→i9 P l
 |[],_,f,fn,h=>by simp[kY]at h
 |(k,x)::l,⟨h1,h2⟩,f,fn,h=>by
  simp only[kY]at h
  split at h
  ·rename_i hb
   have:=aqA hb
   subst this
   injection h with h
   subst h
   exact h1
  ·exact EnvAll.ok h2 f fn h
theorem agj{E:Env}{N:NT}(h:EnvAll Tryz.prog E):(Ctx.mk Tryz.prog ft tys E N).Ok:=⟨aeO,h.ok,ajN.look,Se⟩
def CX(E:Env)(N:NT):Ctx:=⟨Tryz.prog,ft,tys,E,N⟩
def RS(C:Ctx)(f:Nat)(args:List SV)(t:KT→Option (List RV)):Prop:=∀{r:List RV},(∃n,t (C.k n)=some r)→C.Res f args r
def RN(C:Ctx)(i:Nat)(c:Cfg)(t:KT→Option (List RV)):Prop:=∀{r:List RV},(∃n,t (C.k n)=some r)→C.Runs i c r
def RL(C:Ctx)(i:Nat)(c:Cfg)(t:KT→Option (List RV)):Prop:=∀{r:List RV},(∃n0,∀n,n0≤n→t (C.k n)=some r)→C.RunsE i c r
theorem rsX{E:Env}{N:NT}{f:Nat}{args:List SV}{t:KT→Option (List RV)}(e:∀k,go2 Tryz.prog ft tys E N k 4000 (BY f args) (.node 0)=t k:=by intro k;kernel_rfl):RS (CX E N) f args t:=fun h=>apY (C:=CX E N) e h
theorem rnX{E:Env}{N:NT}{i:Nat}{c:Cfg}{t:KT→Option (List RV)}(e:∀k,go2 Tryz.prog ft tys E N k 4000 {c with K:=.lp i::c.K} (.node (i+1))=t k:=by intro k;kernel_rfl):RN (CX E N) i c t:=fun h=>apo (C:=CX E N) e h
theorem rlX{E:Env}{N:NT}{i:Nat}{c:Cfg}{t:KT→Option (List RV)}(e:∀k,go2 Tryz.prog ft tys E N k 4000 {c with K:=.lp i::c.K} (.node (i+1))=t k:=by intro k;kernel_rfl):RL (CX E N) i c t:=fun h=>akH (C:=CX E N) e h
def ane(f k:Nat):Bool:=match fH ft f with
 |some fn=>okF fn k
 |none=>false
theorem aN{E:Env}{N:NT}{f:Nat}{args:List SV}{r:List RV}(ok:EnvAll Tryz.prog E)(h:(CX E N).Res f args r)(hk:ane f args.length=true:=by kernel_rfl):Con Tryz.prog f args r:=by
 unfold ane at hk
 split at hk
 ·rename_i fn e
  exact Ctx.Res.con (C:=CX E N) (agj ok) h (fn:=fn) e hk
 ·cases hk
def SpK(f:Nat)(s:aM):Prop:=dw Tryz.prog f=true∧yI Tryz.prog f s∧∀g,s.mut_=some g→Ky Tryz.prog f g
theorem spX{f:Nat}{keep tame:Bool}{ts:List Ty}{pre:DT ts→Bool}{res:DT ts→List RV}(h:∀x,pre x=true→Con Tryz.prog f (svs ts x) (res x))(hc:dw Tryz.prog f=true:=by kernel_rfl):SpK f (spN keep tame ts pre res):=aio hc h
def a9(l:List Int):Prop:=Lim l∧l.length≤1000000000
instance (l:List Int):Decidable (a9 l):=by unfold a9;infer_instance
theorem JZ{n:Nat}(h1:0<n)(h2:n≤9223372036854775807):i64.wrap ((n:Int)-1)=((n-1:Nat):Int):=by rw[bi (by omega) (by omega)];omega
theorem wQ:∀{l:List Int},(∀j (hj:j<l.length),l[j]=0)→val l=0
 |[],_=>rfl
 |x::l,h=>by
  have h0:=h 0 (by simp)
  have:=wQ (l:=l) fun j hj=>h (j+1) (by simpa using hj)
  simp only[List.getElem_cons_zero]at h0
  simp only[val]
  omega
theorem uP{l:List Int}{n:Nat}(h:∀j (hj:j<l.length),n≤j→l[j]=0):val (l.take n)=val l:=by
 rw[eN l n,wQ (l:=l.drop n) fun j hj=>by
  rw[List.getElem_drop];exact h _ _ (by omega)]
 simp
theorem kb{l:List Int}{n:Nat}(hl:Lim l)(hn:n≤l.length)(h:∀j (hj:j<l.length),n≤j→l[j]=0)(hz:n=0∨∃hj:n-1<l.length,l[n-1]≠0):l.take n=ah (val l).toNat:=by
 rw[←uP h]
 apply lD
 refine⟨hl.take n,?_⟩
 rcases aq3 n with h0|h0
 ·subst h0;simp
 ·obtain⟨hj,hz⟩:=hz.resolve_left (by omega)
  rw[List.getLast?_eq_getElem?,arb,aq0 hn,List.getElem?_take_of_lt (by omega),aqt hj]
  simpa using hz
def ahn:NT:=[((278,4),{keep:=[0],pure_:=[(0,.int .u32)],hl:=0})]
def P9:Ctx:=CX [] ahn
def zF(s0:List Int):Cfg:=⟨278,[.blk 0,.seq 13],[(0,.d atA s0)],[],0,[]⟩
def ajY(a:List Int)(k:KT):Option (List RV):=k 4 (zF a)
theorem aiL(a:List Int):RS P9 278 [.d atA a] (ajY a):=rsX
def ue(s0:List Int)(k:KT):Option (List RV):=match decide ((s0.length:Int)>0)with|true=>(match bu s0 (i64.wrap ((s0.length:Int)-1))with|some x1=>(match x1==0 with|true=>(match decide ((0:Int)≤0∧0≤i64.wrap ((s0.length:Int)-1)∧i64.wrap ((s0.length:Int)-1)≤(s0.length:Int))with|true=>k 4 (zF ((s0.take (i64.wrap ((s0.length:Int)-1)).toNat).drop (0:Int).toNat))|false=>none)|false=>some [RV.d atA s0])|none=>none)|false=>some [RV.d atA s0]
theorem ud(s0:List Int):RN P9 4 (zF s0) (ue s0):=rnX
def ahs:NT:=[((226,6),{keep:=[0,1,4,5],hl:=1})]
def Mk:Ctx:=CX [] ahs
def Ab(neg:Bool)(l:List Int)(s5:Int):Cfg:=⟨226,[.blk 0,.seq 15],[(0,SB neg),(1,.d atA l),(4,.box 0 0),(5,SI s5)],[.box 33 [SB false,.nil]],0,[]⟩
def aot(neg:Bool)(l:List Int)(k:KT):Option (List RV):=k 6 (Ab neg l (l.length:Int))
theorem aoc(neg:Bool)(l:List Int):RS Mk 226 [SB neg,.d atA l] (aot neg l):=rsX
def oJ(neg:Bool)(l:List Int)(s5:Int)(k:KT):Option (List RV):=match decide (s5>0)with|true=>(match bu l (i64.wrap (s5-1))with|some x1=>(match x1==0 with|true=>k 6 (Ab neg l (i64.wrap (s5-1)))|false=>(match neg with|true=>(match decide ((0:Int)≤0∧0≤s5∧s5≤s5∧s5≤(l.length:Int))with|true=>some [RV.d y2Y (decide (s5>0),(l.take (s5).toNat).drop (0:Int).toNat)]|false=>none)|false=>(match decide ((0:Int)≤0∧0≤s5∧s5≤s5∧s5≤(l.length:Int))with|true=>some [RV.d y2Y (false,(l.take (s5).toNat).drop (0:Int).toNat)]|false=>none)))|none=>none)|false=>(match neg with|true=>(match decide ((0:Int)≤0∧0≤s5∧s5≤s5∧s5≤(l.length:Int))with|true=>some [RV.d y2Y (decide (s5>0),(l.take (s5).toNat).drop (0:Int).toNat)]|false=>none)|false=>(match decide ((0:Int)≤0∧0≤s5∧s5≤s5∧s5≤(l.length:Int))with|true=>some [RV.d y2Y (false,(l.take (s5).toNat).drop (0:Int).toNat)]|false=>none))
theorem t5(neg:Bool)(l:List Int)(s5:Int):RN Mk 6 (Ab neg l s5) (oJ neg l s5):=rnX
def aoK:Ctx:=CX [] []
def aa4(u:Int)(_k:KT):Option (List RV):=some [RV.new 183 atC ([u32.wrap (Int.tmod u 1000000000),u32.wrap (Int.tmod (u64.wrap (Int.tdiv u 1000000000)) 1000000000),u32.wrap (u64.wrap (Int.tdiv (u64.wrap (Int.tdiv u 1000000000)) 1000000000))])]
theorem alj(u:Int):RS aoK 227 [.d (.int .u64) u] (aa4 u):=rsX
theorem KN(l:List Int)(hl:Lim l)(hs:l.length≤1000000000):∀(n:Nat),n≤l.length→(∀j (hj:j<l.length),n≤j→l[j]=0)→P9.Runs 4 (zF (l.take n)) [.d atA (ah (val l).toNat)]:=by
 intro n
 induction n with
 |zero=>
  intro _ h
  refine ud _ ⟨0,?_⟩
  rw[←kb hl (atl _) h (.inl rfl)]
  rfl
 |succ n ih=>
  intro hn h
  have hlen:(l.take (n+1)).length=n+1:=by rw[arb,aq0 hn]
  have hget:(l.take (n+1))[n]?=some l[n]:=by rw[List.getElem?_take_of_lt (by omega),aqt (by omega)]
  by_cases hz:l[n]=0
  ·obtain⟨q,hq⟩:=ih (by omega) fun j hj hk=>by
    rcases Nat.eq_or_lt_of_le hk with e|e
    ·subst e;exact hz
    ·exact h j hj e
   refine ud _ ⟨q,?_⟩
   unfold ue
   rw[hlen,aqs (by omega),JZ (by omega) (by omega),aI,show n+1-1=n from rfl,hget]
   dsimp only
   rw[hz,aqs (show(0:Int)≤0∧(0:Int)≤(n:Int)∧(n:Int)≤((n+1:Nat):Int) by omega),aO,List.take_take,aq0 (by omega)]
   exact hq
  ·refine ud _ ⟨0,?_⟩
   unfold ue
   rw[hlen,aqs (by omega),JZ (by omega) (by omega),aI,show n+1-1=n from rfl,hget]
   dsimp only
   rw[show(l[n]==0)=false by simpa using hz,←kb hl hn h (.inr ⟨Nat.lt_of_succ_le hn,hz⟩)]
theorem WQ(a:List Int)(h:a9 a):Con Tryz.prog 278 [.d atA a] [.d atA (ah (val a).toNat)]:=by
 obtain⟨q,hq⟩:=KN a h.1 h.2 a.length (aqE _) (fun j hj hk=>by omega)
 rw[arH]at hq
 exact aN (E:=[]) trivial (aiL _ ⟨q,hq⟩)
def bZ(neg:Bool)(v:Int):Int:=bif neg then-v else v
theorem jK(neg:Bool){v:Int}(h:0≤v):ai (bZ neg v)=(neg&&decide (0<v),ah v.toNat):=by
 unfold ai bZ
 cases neg
 ·simp only[cond_false,Bool.false_and]
  rw[aqu (by omega),show v.natAbs=v.toNat by omega]
 ·simp only[cond_true,aqx]
  rw[show(-v).natAbs=v.toNat by omega]
  by_cases h0:0<v
  ·rw[aqs h0,aqs (by omega)]
  ·rw[aqu h0,aqu (by omega)]
theorem RP(neg:Bool)(l:List Int)(hl:Lim l)(hs:l.length≤1000000000):∀(n:Nat),n≤l.length→(∀j (hj:j<l.length),n≤j→l[j]=0)→Mk.Runs 6 (Ab neg l (n:Int)) [.d y2Y (ai (bZ neg (val l)))]:=by
 intro n
 have hv:=aY hl
 induction n with
 |zero=>
  intro _ h
  refine t5 _ _ _ ⟨0,?_⟩
  rw[jK neg hv,←kb hl (atl _) h (.inl rfl)]
  have h0:val l=0:=by rw[←uP h];rfl
  unfold oJ
  rw[aqu (show ¬((0:Nat):Int)>0 by decide),aqs (show(0:Int)≤0∧(0:Int)≤((0:Nat):Int)∧((0:Nat):Int)≤((0:Nat):Int)∧((0:Nat):Int)≤(l.length:Int) by omega),h0]
  cases neg<;>rfl
 |succ n ih=>
  intro hn h
  by_cases hz:l[n]=0
  ·obtain⟨q,hq⟩:=ih (by omega) fun j hj hk=>by
    rcases Nat.eq_or_lt_of_le hk with e|e
    ·subst e;exact hz
    ·exact h j hj e
   refine t5 _ _ _ ⟨q,?_⟩
   unfold oJ
   rw[aqs (by omega),JZ (by omega) (by omega),aI,show n+1-1=n from rfl,aqt (by omega)]
   dsimp only
   rw[hz]
   exact hq
  ·refine t5 _ _ _ ⟨0,?_⟩
   have hct:=kb hl hn h (.inr ⟨Nat.lt_of_succ_le hn,hz⟩)
   have hpos:0<val l:=by
    rcases aqX 0 (val l)with h1|h1
    ·exact h1
    ·exfalso
     rw[show(val l).toNat=0 by omega,dY]at hct
     have:(l.take (n+1)).length=0:=by rw[hct];rfl
     rw[arb,aq0 hn]at this
     omega
   rw[jK neg hv,←hct]
   unfold oJ
   rw[aqs (show((n+1:Nat):Int)>0 by omega),JZ (by omega) (by omega),aI,show n+1-1=n from rfl,aqt (by omega)]
   dsimp only
   rw[show(l[n]==0)=false by simpa using hz,aqs (show(0:Int)≤0∧(0:Int)≤((n+1:Nat):Int)∧((n+1:Nat):Int)≤((n+1:Nat):Int)∧((n+1:Nat):Int)≤(l.length:Int) by omega),aqs hpos,aO]
   cases neg<;>rfl
theorem VH(neg:Bool)(l:List Int)(h:a9 l):Con Tryz.prog 226 [.d .bool neg,.d atA l] [.d y2Y (ai (bZ neg (val l)))]:=by
 obtain⟨q,hq⟩:=RP neg l h.1 h.2 l.length (aqE _) (fun j hj hk=>by omega)
 exact aN (E:=[]) trivial (aoc _ _ ⟨q,hq⟩)
def fw(u:Int):Prop:=0≤u∧u<18446744073709551616
instance (u:Int):Decidable (fw u):=by unfold fw;infer_instance
theorem cM{x:Int}(h1:0≤x)(h2:x<4294967296):u32.wrap x=x:=by rw[IntKind.wrap_u32];omega
theorem bH{x:Int}(h1:0≤x)(h2:x<18446744073709551616):u64.wrap x=x:=by rw[arj];omega
theorem fe{a b:Int}(h:0≤a):Int.tdiv a b=a/b:=Int.tdiv_eq_ediv_of_nonneg h
theorem gI{a b:Int}(h:0≤a):Int.tmod a b=a%b:=Int.tmod_eq_emod_of_nonneg h
theorem Yr(u:Int)(h:fw u):Con Tryz.prog 227 [.d (.int .u64) u] [.new 183 atC (dig 3 u)]:=by
 refine aN (E:=[]) trivial (alj _ ⟨0,?_⟩)
 obtain⟨h1,h2⟩:=h
 unfold aa4
 rw[fe h1,gI h1,bH (x:=u/1000000000) (by omega) (by omega),gI (by omega),fe (a:=u/1000000000) (by omega),cM (x:=u%1000000000) (by omega) (by omega),cM (x:=u/1000000000%1000000000) (by omega) (by omega),bH (x:=u/1000000000/1000000000) (by omega) (by omega),cM (x:=u/1000000000/1000000000) (by omega) (by omega)]
 have e:dig 3 u=[u%1000000000,u/1000000000%1000000000,u/1000000000/1000000000]:=by
  simp only[dig]
  rw[show u/1000000000/1000000000%1000000000=u/1000000000/1000000000 by omega]
 rw[e]
def Ek:aM:=spN false false [atA] (fun x=>decide (a9 x.1)) (fun x=>[RV.d atA (ah (val x.1).toNat)])
theorem Dx:SpK 278 Ek:=spX fun x h=>WQ x.1 (aqr h)
def uw:aM:=spN false false [.bool,atA] (fun x=>decide (a9 x.2.1)) (fun x=>[RV.d y2Y (ai (bZ x.1 (val x.2.1)))])
theorem oM:SpK 226 uw:=spX fun x h=>VH x.1 x.2.1 (aqr h)
def yu:aM:=spN true false [(.int .u64)] (fun x=>decide (fw x.1)) (fun x=>[RV.new 183 atC (dig 3 x.1)])
theorem uE:SpK 227 yu:=spX fun x h=>Yr x.1 (aqr h)
def Fo:Env:=[(278,Ek),(226,uw),(227,yu)]
theorem wF:EnvAll Tryz.prog Fo:=⟨Dx,oM,uE,trivial⟩
def amx:Ctx:=CX Fo []
def acL(n:Int)(_k:KT):Option (List RV):=match decide (n<0)with|true=>(match decide (fw (u64.wrap (0-(u64.wrap n))))with|true=>(match decide (a9 (dig 3 (u64.wrap (0-(u64.wrap n)))))with|true=>some [RV.d y2Y (ai (bZ (decide (n<0)) (val (dig 3 (u64.wrap (0-(u64.wrap n)))))))]|false=>none)|false=>none)|false=>(match decide (fw (u64.wrap n))with|true=>(match decide (a9 (dig 3 (u64.wrap n)))with|true=>some [RV.d y2Y (ai (bZ (decide (n<0)) (val (dig 3 (u64.wrap n)))))]|false=>none)|false=>none)
theorem aof(n:Int):RS amx 160 [SI n] (acL n):=rsX
def ahD:NT:=[((247,24),{keep:=[0,1,5],hl:=0})]
def GX:Ctx:=CX Fo ahD
def sG(a b:List Int)(s5:Int):Cfg:=⟨247,[.blk 0,.seq 49],[(0,.d atA (ah (val a).toNat)),(1,.d atA (ah (val b).toNat)),(5,SI s5)],[],0,[]⟩
def UA(a b:List Int)(k:KT):Option (List RV):=match decide (a9 a)with|true=>(match decide (a9 b)with|true=>(match((ah (val a).toNat).length:Int) !=((ah (val b).toNat).length:Int)with|true=>(match decide (((ah (val a).toNat).length:Int)<((ah (val b).toNat).length:Int))with|true=>some [RV.d atB (-1)]|false=>some [RV.d atB 1])|false=>k 24 (sG a b (i64.wrap (((ah (val a).toNat).length:Int)-1))))|false=>none)|false=>none
theorem aa5(a b:List Int):RS GX 247 [.d atA a,.d atA b] (UA a b):=rsX
def j7(a b:List Int)(s5:Int)(k:KT):Option (List RV):=match decide (s5≥0)with|true=>(match bu (ah (val a).toNat) s5 with|some x1=>(match bu (ah (val b).toNat) s5 with|some x2=>(match decide (x1<x2)with|true=>some [RV.d atB (-1)]|false=>(match bu (ah (val a).toNat) s5 with|some x3=>(match bu (ah (val b).toNat) s5 with|some x4=>(match decide (x3>x4)with|true=>some [RV.d atB 1]|false=>k 24 (sG a b (i64.wrap (s5-1))))|none=>none)|none=>none))|none=>none)|none=>none)|false=>some [RV.d atB 0]
theorem mv(a b:List Int)(s5:Int):RN GX 24 (sG a b s5) (j7 a b s5):=rnX
def aX(n:Int):Prop:= -9223372036854775808≤n∧n≤9223372036854775807
instance (n:Int):Decidable (aX n):=by unfold aX;infer_instance
theorem td{u:Int}(h:fw u):val (dig 3 u)=u:=fP 3 u h.1 (asM h.2 (by decide))
theorem gK{n:Nat}(h:n≤1000000000)(v:Int):a9 (dig n v):=⟨kL n v,by rw[gk];exact h⟩
theorem GS(n:Int)(h:aX n):Con Tryz.prog 160 [.d atB n] [.d y2Y (ai n)]:=by
 refine aN wF (aof _ ⟨0,?_⟩)
 obtain⟨h1,h2⟩:=h
 unfold acL
 by_cases hn:n<0
 ·have e:u64.wrap (0-u64.wrap n)= -n:=by rw[arj,arj];omega
  have hu:fw (-n):=⟨by omega,by omega⟩
  rw[aqs hn]
  dsimp only
  rw[e,aqs hu,aqs (gK (n:=3) (by decide) (-n)),td hu]
  simp[bZ]
 ·have e:u64.wrap n=n:=bH (by omega) (by omega)
  have hu:fw n:=⟨by omega,by omega⟩
  rw[aqu hn]
  dsimp only
  rw[e,aqs hu,aqs (gK (n:=3) (by decide) n),td hu]
  rfl
theorem Lp{l:List Int}{n:Nat}(h:n<l.length):val l=val (l.take n)+pw n*(l[n]+1000000000*val (l.drop (n+1))):=by
 rw[eN l n,aq0 (Nat.le_of_lt h),aqP h]
 rfl
theorem yx{a b:List Int}(ha:Lim a)(hb:Lim b){n:Nat}(h1:n<a.length)(h2:n<b.length)(hd:a.drop (n+1)=b.drop (n+1))(hlt:a[n]<b[n]):val a<val b:=by
 rw[Lp h1,Lp h2,hd]
 have k1:=bV (ha.take n)
 have k2:=aY (hb.take n)
 rw[arb,aq0 (Nat.le_of_lt h1)]at k1
 have hp:=bU n
 have:=aqH (show a[n]+1000000000*val (b.drop (n+1))+1≤b[n]+1000000000*val (b.drop (n+1)) by omega) (aq2 hp)
 rw[atn,asC]at this
 omega
theorem cK{a b:Int}(h:a<b):ce a b= -1:=by unfold ce;rw[aqs h];rfl
theorem cA{a b:Int}(h:b<a):ce a b=1:=by unfold ce;rw[aqu (by omega),aqs h];rfl
theorem dg(a:Int):ce a a=0:=by unfold ce;rw[aqu (by omega)];rfl
theorem r9{a b:Nat}(h:(ah a).length<(ah b).length):a<b:=by
 rcases aqT a b with h1|h1
 ·exact h1
 ·have:=cO (n:=b) (k:=(ah a).length) (by
   have:=bV (bW a)
   rw[bI]at this
   omega)
  omega
theorem Rx(a b:List Int)(hl:(ah (val a).toNat).length=(ah (val b).toNat).length)(ha:0≤val a)(hb:0≤val b)(hs:(ah (val a).toNat).length≤1000000000):∀(n:Nat),n≤(ah (val a).toNat).length→(ah (val a).toNat).drop n=(ah (val b).toNat).drop n→
  GX.Runs 24 (sG a b ((n:Int)-1)) [.d atB (ce (val a) (val b))]:=by
 have va:=bI (val a).toNat
 have vb:=bI (val b).toNat
 have la:=bW (val a).toNat
 have lb:=bW (val b).toNat
 intro n
 induction n with
 |zero=>
  intro _ h
  refine mv _ _ _ ⟨0,?_⟩
  have e:val a=val b:=by simp only[asg]at h;rw[h]at va;omega
  unfold j7
  rw[aqu (by omega),e,dg]
 |succ n ih=>
  intro hn h
  have h1:n<(ah (val a).toNat).length:=by omega
  have h2:n<(ah (val b).toNat).length:=by omega
  rcases ash (ah (val a).toNat)[n] (ah (val b).toNat)[n]with hc|hc|hc
  ·refine mv _ _ _ ⟨0,?_⟩
   have:=yx la lb h1 h2 h hc
   unfold j7
   rw[show((n+1:Nat):Int)-1=(n:Int) by omega,aqs (by omega),aI,aI,aqt h1,aqt h2]
   dsimp only
   rw[aqs hc,cK (by omega)]
  ·obtain⟨q,hq⟩:=ih (by omega) (by rw[aqP h1,aqP h2,hc,h])
   refine mv _ _ _ ⟨q,?_⟩
   unfold j7
   rw[show((n+1:Nat):Int)-1=(n:Int) by omega,aqs (by omega),aI,aI,aqt h1,aqt h2]
   dsimp only
   rw[aqu (by omega),aqu (by omega),bi (x:=(n:Int)-1) (by omega) (by omega)]
   exact hq
  ·refine mv _ _ _ ⟨0,?_⟩
   have:=yx lb la h2 h1 h.symm hc
   unfold j7
   rw[show((n+1:Nat):Int)-1=(n:Int) by omega,aqs (by omega),aI,aI,aqt h1,aqt h2]
   dsimp only
   rw[aqu (by omega),aqs hc,cA (by omega)]
theorem hU{l:List Int}(h:Lim l):(ah (val l).toNat).length≤l.length:=cO (by have:=bV h;have:=aY h;omega)
theorem ZU(a b:List Int)(h:a9 a∧a9 b):Con Tryz.prog 247 [.d atA a,.d atA b] [.d atB (ce (val a) (val b))]:=by
 refine aN wF (show GX.Res _ _ _ from ?_)
 obtain⟨ha,hb⟩:=h
 have la:=hU ha.1
 have lb:=hU hb.1
 have na:=aY ha.1
 have nb:=aY hb.1
 have hsa:=ha.2
 have hsb:=hb.2
 by_cases hl:(ah (val a).toNat).length=(ah (val b).toNat).length
 ·obtain⟨q,hq⟩:=Rx a b hl na nb (by omega) _ (aqE _) (by rw[asF,hl,asF])
  refine aa5 _ _ ⟨q,?_⟩
  unfold UA
  rw[aqs ha,aqs hb,show(((ah (val a).toNat).length:Int) !=((ah (val b).toNat).length:Int))=false by simp[hl],bi (x:=((ah (val a).toNat).length:Int)-1) (by omega) (by omega)]
  exact hq
 ·refine aa5 _ _ ⟨0,?_⟩
  unfold UA
  rw[aqs ha,aqs hb,show(((ah (val a).toNat).length:Int) !=((ah (val b).toNat).length:Int))=true by simp;omega]
  dsimp only
  rcases Nat.lt_or_gt_of_ne hl with h1|h1
  ·have:=r9 h1
   rw[aqs (by omega),cK (by omega)]
  ·have:=r9 h1
   rw[aqu (by omega),cA (by omega)]
def agT:NT:=[((263,16),{keep:=[1,5,6,20,21,22],hl:=1})]
def BX:Ctx:=CX [] agT
def hJ(s1 s20:List Int)(s21 s6 s22:Int)(r0:List Int):Cfg:=⟨263,[.blk 0,.seq 45],[(1,.d atA s1),(5,.own 0),(6,.d atC s6),(20,.d atA s20),(21,SI s21),(22,SI s22)],[.row 183 atC r0],0,[]⟩
def Tq(a b:List Int)(k:KT):Option (List RV):=match decide ((a.length:Int)<(b.length:Int))with|true=>(match decide ((0:Int)=0∧(0:Int)≤i64.wrap ((b.length:Int)+1)∧(i64.wrap ((b.length:Int)+1))*((4:Nat):Int)≤140737488355328∧i64.wrap ((b.length:Int)+1)≤140737488355328)with|true=>k 16 (hJ a b (b.length:Int) 0 0 ([]:List Int))|false=>none)|false=>(match decide ((0:Int)=0∧(0:Int)≤i64.wrap ((a.length:Int)+1)∧(i64.wrap ((a.length:Int)+1))*((4:Nat):Int)≤140737488355328∧i64.wrap ((a.length:Int)+1)≤140737488355328)with|true=>k 16 (hJ b a (a.length:Int) 0 0 ([]:List Int))|false=>none)
theorem aaO(a b:List Int):RS BX 263 [.d atA a,.d atA b] (Tq a b):=rsX
def ij(s1 s20:List Int)(s21 s6 s22:Int)(r0:List Int)(k:KT):Option (List RV):=match decide (s22<s21)with|true=>(match bu s20 s22 with|some x1=>(match decide (s22<(s1.length:Int))with|true=>(match bu s1 s22 with|some x2=>(match decide ((u32.wrap ((u32.wrap (x1+s6))+x2))≥1000000000)with|true=>(match decide ((r0.length+([u32.wrap ((u32.wrap ((u32.wrap (x1+s6))+x2))-1000000000)]).length)*4≤140737488355328∧r0.length+([u32.wrap ((u32.wrap ((u32.wrap (x1+s6))+x2))-1000000000)]).length≤140737488355328)with|true=>k 16 (hJ s1 s20 s21 1 (i64.wrap (s22+1)) (r0++([u32.wrap ((u32.wrap ((u32.wrap (x1+s6))+x2))-1000000000)])))|false=>none)|false=>(match decide ((r0.length+([u32.wrap ((u32.wrap (x1+s6))+x2)]).length)*4≤140737488355328∧r0.length+([u32.wrap ((u32.wrap (x1+s6))+x2)]).length≤140737488355328)with|true=>k 16 (hJ s1 s20 s21 0 (i64.wrap (s22+1)) (r0++([u32.wrap ((u32.wrap (x1+s6))+x2)])))|false=>none))|none=>none)|false=>(match decide ((u32.wrap (x1+s6))≥1000000000)with|true=>(match decide ((r0.length+([u32.wrap ((u32.wrap (x1+s6))-1000000000)]).length)*4≤140737488355328∧r0.length+([u32.wrap ((u32.wrap (x1+s6))-1000000000)]).length≤140737488355328)with|true=>k 16 (hJ s1 s20 s21 1 (i64.wrap (s22+1)) (r0++([u32.wrap ((u32.wrap (x1+s6))-1000000000)])))|false=>none)|false=>(match decide ((r0.length+([u32.wrap (x1+s6)]).length)*4≤140737488355328∧r0.length+([u32.wrap (x1+s6)]).length≤140737488355328)with|true=>k 16 (hJ s1 s20 s21 0 (i64.wrap (s22+1)) (r0++([u32.wrap (x1+s6)])))|false=>none)))|none=>none)|false=>(match decide ((r0.length+([s6]).length)*4≤140737488355328∧r0.length+([s6]).length≤140737488355328)with|true=>some [RV.new 183 atC (r0++([s6]))]|false=>none)
theorem jT(s1 s20:List Int)(s21 s6 s22:Int)(r0:List Int):RN BX 16 (hJ s1 s20 s21 s6 s22 r0) (ij s1 s20 s21 s6 s22 r0):=rnX
def aea:NT:=[((264,10),{keep:=[1,5,6,13,14,15],hl:=1})]
def Di:Ctx:=CX [] aea
def ji(a b:List Int)(s6 s15:Int)(r0:List Int):Cfg:=⟨264,[.blk 0,.seq 39],[(1,.d atA b),(5,.own 0),(6,.d atC s6),(13,.d atA a),(14,SI (a.length:Int)),(15,SI s15)],[.row 183 atC r0],0,[]⟩
def ab7(a b:List Int)(k:KT):Option (List RV):=match decide ((0:Int)≤(a.length:Int)∧(a.length:Int)*((4:Nat):Int)≤140737488355328∧(a.length:Int)≤140737488355328)with|true=>k 10 (ji a b 0 0 (List.replicate ((a.length:Int)).toNat (0:Int)))|false=>none
theorem anI(a b:List Int):RS Di 264 [.d atA a,.d atA b] (ab7 a b):=rsX
def ip(a b:List Int)(s6 s15:Int)(r0:List Int)(k:KT):Option (List RV):=match decide (s15<(a.length:Int))with|true=>(match bu a s15 with|some x1=>(match decide (s15<(b.length:Int))with|true=>(match bu b s15 with|some x2=>(match decide (x1<(u32.wrap (s6+x2)))with|true=>(match bu r0 s15 with|some _=>(match true,r0[(s15).toNat]? with|true,some _=>k 10 (ji a b 1 (i64.wrap (s15+1)) (r0.set ((s15).toNat) (u32.wrap ((u32.wrap (x1+1000000000))-(u32.wrap (s6+x2))))))|_,_=>none)|none=>none)|false=>(match bu r0 s15 with|some _=>(match true,r0[(s15).toNat]? with|true,some _=>k 10 (ji a b 0 (i64.wrap (s15+1)) (r0.set ((s15).toNat) (u32.wrap (x1-(u32.wrap (s6+x2))))))|_,_=>none)|none=>none))|none=>none)|false=>(match decide (x1<s6)with|true=>(match bu r0 s15 with|some _=>(match true,r0[(s15).toNat]? with|true,some _=>k 10 (ji a b 1 (i64.wrap (s15+1)) (r0.set ((s15).toNat) (u32.wrap ((u32.wrap (x1+1000000000))-s6))))|_,_=>none)|none=>none)|false=>(match bu r0 s15 with|some _=>(match true,r0[(s15).toNat]? with|true,some _=>k 10 (ji a b 0 (i64.wrap (s15+1)) (r0.set ((s15).toNat) (u32.wrap (x1-s6))))|_,_=>none)|none=>none)))|none=>none)|false=>some [RV.new 183 atC r0]
theorem ke(a b:List Int)(s6 s15:Int)(r0:List Int):RN Di 10 (ji a b s6 s15 r0) (ip a b s6 s15 r0):=rnX
def aic:NT:=[((248,8),{keep:=[1,5,18,19,20],hl:=1}),((248,25),{keep:=[1,5,6,7,8,18,19,20,25,26,27],hl:=1})]
def vF:Ctx:=CX [] aic
def uN(a b:List Int)(s20:Int)(r0:List Int):Cfg:=⟨248,[.blk 0,.seq 42],[(1,.d atA b),(5,.own 0),(18,.d atA a),(19,SI (a.length:Int)),(20,SI s20)],[.row 183 atC r0],0,[]⟩
def sd(a b:List Int)(s20 x1 s8 s27:Int)(r0:List Int):Cfg:=⟨248,[.blk 2,.seq 40,.blk 1,.seq 41,.lp 8,.blk 0,.seq 42],[(1,.d atA b),(5,.own 0),(6,SI s20),(7,.d atC x1),(8,.d (.int .u64) s8),(18,.d atA a),(19,SI (a.length:Int)),(20,SI s20),(25,.d atA b),(26,SI (b.length:Int)),(27,SI s27)],[.row 183 atC r0],0,[]⟩
def adh(a b:List Int)(k:KT):Option (List RV):=match decide ((0:Int)≤i64.wrap ((a.length:Int)+(b.length:Int))∧(i64.wrap ((a.length:Int)+(b.length:Int)))*((4:Nat):Int)≤140737488355328∧i64.wrap ((a.length:Int)+(b.length:Int))≤140737488355328)with|true=>k 8 (uN a b 0 (List.replicate (i64.wrap ((a.length:Int)+(b.length:Int))).toNat (0:Int)))|false=>none
theorem alw(a b:List Int):RS vF 248 [.d atA a,.d atA b] (adh a b):=rsX
def uL(a b:List Int)(s20:Int)(r0:List Int)(k:KT):Option (List RV):=match decide (s20<(a.length:Int))with|true=>(match bu a s20 with|some x1=>k 25 (sd a b s20 x1 0 0 r0)|none=>none)|false=>some [RV.new 183 atC r0]
theorem Be(a b:List Int)(s20:Int)(r0:List Int):RN vF 8 (uN a b s20 r0) (uL a b s20 r0):=rnX
def qz(a b:List Int)(s20 x1 s8 s27:Int)(r0:List Int)(k:KT):Option (List RV):=match decide (s27<(b.length:Int))with|true=>(match bu b s27 with|some x2=>(match bu r0 (i64.wrap (s20+s27))with|some _=>(match true,r0[(i64.wrap (s20+s27)).toNat]? with|true,some x3=>(match bu r0 (i64.wrap (s20+s27))with|some _=>(match true,r0[(i64.wrap (s20+s27)).toNat]? with|true,some _=>k 25 (sd a b s20 x1 (u64.wrap (Int.tdiv (u64.wrap ((u64.wrap ((u64.wrap x3)+(u64.wrap ((u64.wrap x1)*(u64.wrap x2)))))+s8)) 1000000000)) (i64.wrap (s27+1)) (r0.set ((i64.wrap (s20+s27)).toNat) (u32.wrap (Int.tmod (u64.wrap ((u64.wrap ((u64.wrap x3)+(u64.wrap ((u64.wrap x1)*(u64.wrap x2)))))+s8)) 1000000000))))|_,_=>none)|none=>none)|_,_=>none)|none=>none)|none=>none)|false=>(match bu r0 (i64.wrap (s20+(b.length:Int)))with|some _=>(match true,r0[(i64.wrap (s20+(b.length:Int))).toNat]? with|true,some _=>k 8 (uN a b (i64.wrap (s20+1)) (r0.set ((i64.wrap (s20+(b.length:Int))).toNat) (u32.wrap s8)))|_,_=>none)|none=>none)
theorem wE(a b:List Int)(s20 x1 s8 s27:Int)(r0:List Int):RN vF 25 (sd a b s20 x1 s8 s27 r0) (qz a b s20 x1 s8 s27 r0):=rnX
def agC:NT:=[((298,10),{keep:=[0,1,6,7,8],hl:=1})]
def IC:Ctx:=CX [] agC
def sw(a:List Int)(b s7 s8:Int)(r0:List Int):Cfg:=⟨298,[.blk 0,.seq 23],[(0,.d atA a),(1,.d atC b),(6,.own 0),(7,.d (.int .u64) s7),(8,SI s8)],[.row 183 atC r0],0,[]⟩
def adJ(a:List Int)(b:Int)(k:KT):Option (List RV):=match decide ((0:Int)≤(a.length:Int)∧(a.length:Int)*((4:Nat):Int)≤140737488355328∧(a.length:Int)≤140737488355328)with|true=>k 10 (sw a b 0 (i64.wrap ((a.length:Int)-1)) (List.replicate ((a.length:Int)).toNat (0:Int)))|false=>none
theorem aok(a:List Int)(b:Int):RS IC 298 [.d atA a,.d atC b] (adJ a b):=rsX
def qP(a:List Int)(b s7 s8:Int)(r0:List Int)(k:KT):Option (List RV):=match decide (s8≥0)with|true=>(match bu a s8 with|some x1=>(match decide (u64.wrap b=(0:Int))with|true=>none|false=>(match decide (u64.wrap b=(0:Int))with|true=>none|false=>(match bu r0 s8 with|some _=>(match true,r0[(s8).toNat]? with|true,some _=>k 10 (sw a b (Int.tmod (u64.wrap ((u64.wrap (s7*1000000000))+(u64.wrap x1))) (u64.wrap b)) (i64.wrap (s8-1)) (r0.set ((s8).toNat) (u32.wrap (u64.wrap (Int.tdiv (u64.wrap ((u64.wrap (s7*1000000000))+(u64.wrap x1))) (u64.wrap b))))))|_,_=>none)|none=>none)))|none=>none)|false=>some [RV.d atA r0,RV.d atA ([u32.wrap s7])]
theorem xH(a:List Int)(b s7 s8:Int)(r0:List Int):RN IC 10 (sw a b s7 s8 r0) (qP a b s7 s8 r0):=rnX
theorem ib{b:List Int}{i:Nat}(h:b.length≤i):b.take (i+1)=b.take i:=by rw[arh (by omega),arh h]
theorem o9{n:Nat}(h:n≤4000000000):decide ((0:Int)≤(n:Int)∧(n:Int)*((4:Nat):Int)≤140737488355328∧(n:Int)≤140737488355328)=true:=aqs ⟨by omega,by omega,by omega⟩
theorem Rz{m:Nat}(h:m≤4000000000):decide ((m+1)*4≤140737488355328∧m+1≤140737488355328)=true:=aqs ⟨by omega,by omega⟩
theorem CZ(a b:List Int)(ha:a9 a)(hb:a9 b)(hab:b.length≤a.length):∀(j i:Nat) (c:Int) (r:List Int),i+j=a.length→0≤c→c≤1→Lim r→r.length=i→val r+pw i*c=val (a.take i)+val (b.take i)→
  BX.Runs 16 (hJ b a (a.length:Int) c (i:Int) r) [.new 183 atC (dig (a.length+1) (val a+val b))]:=by
 have hsa:=ha.2
 intro j
 induction j with
 |zero=>
  intro i c r hi c0 c1 hr hl hv
  obtain rfl:i=a.length:=by omega
  refine jT _ _ _ _ _ _ ⟨0,?_⟩
  unfold ij
  rw[cF (aqE _)]
  simp only[aqZ]
  rw[Rz (by omega)]
  have e:r++[c]=dig (a.length+1) (val a+val b):=by
   refine zt (hr.append (Lim.cons ⟨c0,by omega⟩ Lim.nil)) (by simp[hl]) ?_
   rw[cX,hl]
   rw[arH,arh hab]at hv
   simp only[val,asA,atc]
   omega
  rw[e]
 |succ j ih=>
  intro i c r hi c0 c1 hr hl hv
  have hia:i<a.length:=by omega
  have xa:=ha.1.get hia
  have hp:=bU i
  have step:∀(y c':Int),0≤y→y<1000000000→0≤c'→c'≤1→val (b.take (i+1))=val (b.take i)+pw i*(y+1000000000*c'-a[i]-c)→BX.Runs 16 (hJ b a (a.length:Int) c' ((i+1:Nat):Int) (r++[y])) [.new 183 atC (dig (a.length+1) (val a+val b))]:=by
   intro y c' y0 y1 k0 k1 hb'
   refine ih (i+1) c' (r++[y]) (by omega) k0 k1 (hr.append (Lim.cons ⟨y0,y1⟩ Lim.nil)) (by simp[hl]) ?_
   rw[cX,hl,bj hia,hb',b8]
   simp only[val]
   grind
  by_cases hib:i<b.length
  ·have xb:=hb.1.get hib
   have ht:=bj hib
   by_cases hc:a[i]+c+b[i]≥1000000000
   ·obtain⟨q,hq⟩:=step (a[i]+c+b[i]-1000000000) 1 (by omega) (by omega) (by omega) (by omega) (by rw[ht];grind)
    refine jT _ _ _ _ _ _ ⟨q,?_⟩
    unfold ij
    rw[cd hia,aI,aqt hia,cd hib,aI,aqt hib]
    dsimp only
    rw[cM (x:=a[i]+c) (by omega) (by omega),cM (x:=a[i]+c+b[i]) (by omega) (by omega),aqs hc,cM (x:=a[i]+c+b[i]-1000000000) (by omega) (by omega),cG (by omega)]
    simp only[aqZ]
    rw[Rz (by omega)]
    exact hq
   ·obtain⟨q,hq⟩:=step (a[i]+c+b[i]) 0 (by omega) (by omega) (by omega) (by omega) (by rw[ht];grind)
    refine jT _ _ _ _ _ _ ⟨q,?_⟩
    unfold ij
    rw[cd hia,aI,aqt hia,cd hib,aI,aqt hib]
    dsimp only
    rw[cM (x:=a[i]+c) (by omega) (by omega),cM (x:=a[i]+c+b[i]) (by omega) (by omega),aqu hc,cG (by omega)]
    simp only[aqZ]
    rw[Rz (by omega)]
    exact hq
  ·have ht:=ib (b:=b) (i:=i) (by omega)
   by_cases hc:a[i]+c≥1000000000
   ·obtain⟨q,hq⟩:=step (a[i]+c-1000000000) 1 (by omega) (by omega) (by omega) (by omega) (by rw[ht];grind)
    refine jT _ _ _ _ _ _ ⟨q,?_⟩
    unfold ij
    rw[cd hia,aI,aqt hia,cF (show b.length≤i by omega)]
    dsimp only
    rw[cM (x:=a[i]+c) (by omega) (by omega),aqs hc,cM (x:=a[i]+c-1000000000) (by omega) (by omega),cG (by omega)]
    simp only[aqZ]
    rw[Rz (by omega)]
    exact hq
   ·obtain⟨q,hq⟩:=step (a[i]+c) 0 (by omega) (by omega) (by omega) (by omega) (by rw[ht];grind)
    refine jT _ _ _ _ _ _ ⟨q,?_⟩
    unfold ij
    rw[cd hia,aI,aqt hia,cF (show b.length≤i by omega)]
    dsimp only
    rw[cM (x:=a[i]+c) (by omega) (by omega),aqu hc,cG (by omega)]
    simp only[aqZ]
    rw[Rz (by omega)]
    exact hq
theorem V4(a b:List Int)(h:a9 a∧a9 b):Con Tryz.prog 263 [.d atA a,.d atA b] [.new 183 atC (dig (max a.length b.length+1) (val a+val b))]:=by
 refine aN (E:=[]) trivial (show BX.Res _ _ _ from ?_)
 obtain⟨ha,hb⟩:=h
 have hsa:=ha.2
 have hsb:=hb.2
 have mk:∀n:Nat,n≤1000000000→decide ((0:Int)=0∧(0:Int)≤i64.wrap ((n:Int)+1)∧i64.wrap ((n:Int)+1)*((4:Nat):Int)≤140737488355328∧i64.wrap ((n:Int)+1)≤140737488355328)=true:=fun n hn=>by
  rw[cG (by omega)]
  exact aqs ⟨rfl,by omega,by omega,by omega⟩
 by_cases hc:a.length<b.length
 ·obtain⟨q,hq⟩:=CZ b a hb ha (by omega) b.length 0 0 [] (by omega) (by omega) (by omega) Lim.nil rfl (by simp[val])
  refine aaO _ _ ⟨q,?_⟩
  unfold Tq
  rw[cd hc,mk _ hsb,Nat.max_eq_right (by omega),atd (val a)]
  exact hq
 ·obtain⟨q,hq⟩:=CZ a b ha hb (by omega) a.length 0 0 [] (by omega) (by omega) (by omega) Lim.nil rfl (by simp[val])
  refine aaO _ _ ⟨q,?_⟩
  unfold Tq
  rw[cF (by omega),mk _ hsa,Nat.max_eq_left (by omega)]
  exact hq
theorem ma{r:List Int}{i:Nat}{y:Int}(hz:∀j (hj:j<r.length),i≤j→r[j]=0):∀j (hj:j<(r.set i y).length),i+1≤j→(r.set i y)[j]=0:=fun j hj hk=>by
 rw[arV (by omega)]
 exact hz j (by simpa using hj) (by omega)
theorem M7(a b:List Int)(ha:a9 a)(hb:a9 b)(hle:val b≤val a)(_hab:b.length≤a.length∨True):∀(j i:Nat) (c:Int) (r:List Int),i+j=a.length→0≤c→c≤1→Lim r→r.length=a.length→(∀k (hk:k<r.length),i≤k→r[k]=0)→val r+val (b.take i)=val (a.take i)+pw i*c→
  Di.Runs 10 (ji a b c (i:Int) r) [.new 183 atC (dig a.length (val a-val b))]:=by
 have hsa:=ha.2
 intro j
 induction j with
 |zero=>
  intro i c r hi c0 c1 hr hl hz hv
  obtain rfl:i=a.length:=by omega
  refine ke _ _ _ _ _ ⟨0,?_⟩
  unfold ip
  rw[cF (aqE _)]
  have hrl:=bV hr
  rw[hl]at hrl
  have hb2:val b=val (b.take a.length)+pw (min a.length b.length)*val (b.drop a.length):=eN b a.length
  have hbd:0≤val (b.drop a.length):=aY (hb.1.drop _)
  have hal:=bV ha.1
  have hbt:=aY (hb.1.take a.length)
  rw[arH]at hv
  have hz0:val (b.drop a.length)=0:=by
   rcases aqT a.length b.length with h1|h1
   ·rw[aq0 (by omega)]at hb2
    rcases aqX 0 (val (b.drop a.length))with h2|h2
    ·have hp:=bU a.length
     have:=aqH (show 1≤val (b.drop a.length) by omega) (aq2 hp)
     omega
    ·omega
   ·rw[arm h1];rfl
  rw[hz0,asA,atc]at hb2
  have hc0:c=0:=by
   have hp:=bU a.length
   rcases(show c=0∨c=1 by omega)with h|h
   ·exact h
   ·subst h;rw[asC]at hv;omega
  subst hc0
  rw[asA]at hv
  rw[←zt hr hl (show val r=val a-val b by omega)]
 |succ j ih=>
  intro i c r hi c0 c1 hr hl hz hv
  have hia:i<a.length:=by omega
  have hir:i<r.length:=by omega
  have xa:=ha.1.get hia
  have hr0:=hz i hir (aqE _)
  have step:∀(y c':Int),0≤y→y<1000000000→0≤c'→c'≤1→val (b.take (i+1))=val (b.take i)+pw i*(a[i]+1000000000*c'-y-c)→Di.Runs 10 (ji a b c' ((i+1:Nat):Int) (r.set i y)) [.new 183 atC (dig a.length (val a-val b))]:=by
   intro y c' y0 y1 k0 k1 hb'
   refine ih (i+1) c' (r.set i y) (by omega) k0 k1 (hr.set i ⟨y0,y1⟩) (by simpa using hl) (ma hz) ?_
   rw[dW hir,hr0,bj hia,hb',b8]
   grind
  by_cases hib:i<b.length
  ·have xb:=hb.1.get hib
   have ht:=bj hib
   by_cases hc:a[i]<c+b[i]
   ·obtain⟨q,hq⟩:=step (a[i]+1000000000-(c+b[i])) 1 (by omega) (by omega) (by omega) (by omega) (by rw[ht];grind)
    refine ke _ _ _ _ _ ⟨q,?_⟩
    unfold ip
    rw[cd hia,aI,aqt hia,cd hib,aI,aqt hib,aI,aO,aqt hir]
    dsimp only
    rw[cM (x:=c+b[i]) (by omega) (by omega),aqs hc,cM (x:=a[i]+1000000000) (by omega) (by omega),cM (x:=a[i]+1000000000-(c+b[i])) (by omega) (by omega),cG (by omega)]
    exact hq
   ·obtain⟨q,hq⟩:=step (a[i]-(c+b[i])) 0 (by omega) (by omega) (by omega) (by omega) (by rw[ht];grind)
    refine ke _ _ _ _ _ ⟨q,?_⟩
    unfold ip
    rw[cd hia,aI,aqt hia,cd hib,aI,aqt hib,aI,aO,aqt hir]
    dsimp only
    rw[cM (x:=c+b[i]) (by omega) (by omega),aqu hc,cM (x:=a[i]-(c+b[i])) (by omega) (by omega),cG (by omega)]
    exact hq
  ·have ht:=ib (b:=b) (i:=i) (by omega)
   by_cases hc:a[i]<c
   ·obtain⟨q,hq⟩:=step (a[i]+1000000000-c) 1 (by omega) (by omega) (by omega) (by omega) (by rw[ht];grind)
    refine ke _ _ _ _ _ ⟨q,?_⟩
    unfold ip
    rw[cd hia,aI,aqt hia,cF (show b.length≤i by omega),aI r i,aO,aqt hir]
    dsimp only
    rw[aqs hc,cM (x:=a[i]+1000000000) (by omega) (by omega),cM (x:=a[i]+1000000000-c) (by omega) (by omega),cG (by omega)]
    exact hq
   ·obtain⟨q,hq⟩:=step (a[i]-c) 0 (by omega) (by omega) (by omega) (by omega) (by rw[ht];grind)
    refine ke _ _ _ _ _ ⟨q,?_⟩
    unfold ip
    rw[cd hia,aI,aqt hia,cF (show b.length≤i by omega),aI r i,aO,aqt hir]
    dsimp only
    rw[aqu hc,cM (x:=a[i]-c) (by omega) (by omega),cG (by omega)]
    exact hq
def kS(a b:List Int):Prop:=a9 a∧a9 b∧val b≤val a
instance (a b:List Int):Decidable (kS a b):=by unfold kS;infer_instance
theorem W8(a b:List Int)(h:kS a b):Con Tryz.prog 264 [.d atA a,.d atA b] [.new 183 atC (dig a.length (val a-val b))]:=by
 refine aN (E:=[]) trivial (show Di.Res _ _ _ from ?_)
 obtain⟨ha,hb,hle⟩:=h
 have hsa:=ha.2
 obtain⟨q,hq⟩:=M7 a b ha hb hle (.inr trivial) a.length 0 0 (List.replicate a.length 0) (by omega) (by omega) (by omega) (Lim.rep _) (by simp) (fun k hk _=>by simp) (by simp[val,fq])
 refine anI _ _ ⟨q,?_⟩
 unfold ab7
 rw[o9 (by omega),aO]
 exact hq
theorem Fs{r x y c:Int}(hr:0≤r∧r<1000000000)(hx:0≤x∧x<1000000000)(hy:0≤y∧y<1000000000)(hc:0≤c∧c<1000000000):0≤x*y∧x*y≤999999998000000001∧0≤(r+x*y+c)/1000000000∧(r+x*y+c)/1000000000<1000000000:=by
 have h1:0≤x*y:=arq hx.1 hy.1
 have h2:x*y≤999999999*999999999:=asr (by omega) (by omega) hy.1 (by decide)
 omega
theorem JD(a b:List Int)(ha:a9 a)(hb:a9 b)(i:Nat)(hi:i<a.length)
  (hout:∀r,Lim r→r.length=a.length+b.length→(∀k (hk:k<r.length),i+1+b.length≤k→r[k]=0)→val r=val (a.take (i+1))*val b→vF.Runs 8 (uN a b ((i+1:Nat):Int) r) [.new 183 atC (dig (a.length+b.length) (val a*val b))]):
  ∀(j k:Nat) (c:Int) (r:List Int),k+j=b.length→0≤c→c<1000000000→Lim r→r.length=a.length+b.length→(∀q (hq:q<r.length),i+b.length≤q→r[q]=0)→val r+pw (i+k)*c=val (a.take i)*val b+pw i*a[i]*val (b.take k)→
  vF.Runs 25 (sd a b (i:Int) a[i] c (k:Int) r) [.new 183 atC (dig (a.length+b.length) (val a*val b))]:=by
 have hsa:=ha.2
 have hsb:=hb.2
 have xa:=ha.1.get hi
 intro j
 induction j with
 |zero=>
  intro k c r hk c0 c1 hr hl hz hv
  obtain rfl:k=b.length:=by omega
  have hir:i+b.length<r.length:=by omega
  have hr0:=hz _ hir (aqE _)
  obtain⟨q,hq⟩:=hout (r.set (i+b.length) c) (hr.set _ ⟨c0,c1⟩) (by simpa using hl) (by rw[show i+1+b.length=i+b.length+1 by omega];exact ma hz) (by
   rw[dW hir,hr0,bj hi]
   rw[arH]at hv
   grind)
  refine wE _ _ _ _ _ _ _ ⟨q,?_⟩
  have hw:i64.wrap ((i:Int)+(b.length:Int))=((i+b.length:Nat):Int):=by rw[bi (by omega) (by omega)];simp
  unfold qz
  rw[cF (aqE _),hw,aI r (i+b.length),aO,aqt hir,cM (x:=c) (by omega) (by omega),cG (k:=i) (by omega)]
  exact hq
 |succ j ih=>
  intro k c r hk c0 c1 hr hl hz hv
  have hkb:k<b.length:=by omega
  have hir:i+k<r.length:=by omega
  have xb:=hb.1.get hkb
  have xr:=hr.get hir
  have hbd:=Fs xr xa xb ⟨c0,c1⟩
  obtain⟨q,hq⟩:=ih (k+1) ((r[i+k]+a[i]*b[k]+c)/1000000000) (r.set (i+k) ((r[i+k]+a[i]*b[k]+c)%1000000000)) (by omega) hbd.2.2.1 hbd.2.2.2 (hr.set _ (by omega)) (by simpa using hl)
   (fun m hm hq=>by rw[arV (by omega)];exact hz m (by simpa using hm) hq) (by
    rw[dW hir,bj hkb,show i+(k+1)=i+k+1 by omega,b8,eo]
    rw[eo]at hv
    have e:=Int.emod_add_mul_ediv (r[i+k]+a[i]*b[k]+c) 1000000000
    grind)
  refine wE _ _ _ _ _ _ _ ⟨q,?_⟩
  have hw:i64.wrap ((i:Int)+(k:Int))=((i+k:Nat):Int):=by rw[bi (by omega) (by omega)];simp
  unfold qz
  rw[cd hkb,aI b k,aqt hkb,hw,aI r (i+k),aO,aqt hir]
  dsimp only
  rw[bH (x:=r[i+k]) (by omega) (by omega),bH (x:=a[i]) (by omega) (by omega),bH (x:=b[k]) (by omega) (by omega),bH (x:=a[i]*b[k]) (by omega) (by omega),bH (x:=r[i+k]+a[i]*b[k]) (by omega) (by omega),bH (x:=r[i+k]+a[i]*b[k]+c) (by omega) (by omega),fe (a:=r[i+k]+a[i]*b[k]+c) (by omega),gI (a:=r[i+k]+a[i]*b[k]+c) (by omega),bH (x:=(r[i+k]+a[i]*b[k]+c)/1000000000) (by omega) (by omega),cM (x:=(r[i+k]+a[i]*b[k]+c)%1000000000) (by omega) (by omega),cG (k:=k) (by omega)]
  exact hq
theorem I5(a b:List Int)(ha:a9 a)(hb:a9 b):∀(j i:Nat) (r:List Int),i+j=a.length→Lim r→r.length=a.length+b.length→(∀k (hk:k<r.length),i+b.length≤k→r[k]=0)→val r=val (a.take i)*val b→
  vF.Runs 8 (uN a b (i:Int) r) [.new 183 atC (dig (a.length+b.length) (val a*val b))]:=by
 have hsa:=ha.2
 intro j
 induction j with
 |zero=>
  intro i r hi hr hl hz hv
  obtain rfl:i=a.length:=by omega
  refine Be _ _ _ _ ⟨0,?_⟩
  unfold uL
  rw[arH]at hv
  rw[cF (aqE _),←zt hr hl hv]
 |succ j ih=>
  intro i r hi hr hl hz hv
  have hia:i<a.length:=by omega
  obtain⟨q,hq⟩:=JD a b ha hb i hia (fun r' h1 h2 h3 h4=>ih (i+1) r' (by omega) h1 h2 h3 h4) b.length 0 0 r (by omega) (by omega) (by omega) hr hl hz (by simp[val,hv])
  refine Be _ _ _ _ ⟨q,?_⟩
  unfold uL
  rw[cd hia,aI,aqt hia]
  exact hq
theorem V1(a b:List Int)(h:a9 a∧a9 b):Con Tryz.prog 248 [.d atA a,.d atA b] [.new 183 atC (dig (a.length+b.length) (val a*val b))]:=by
 refine aN (E:=[]) trivial (show vF.Res _ _ _ from ?_)
 obtain⟨ha,hb⟩:=h
 have hsa:=ha.2
 have hsb:=hb.2
 obtain⟨q,hq⟩:=I5 a b ha hb a.length 0 (List.replicate (a.length+b.length) 0) (by omega) (Lim.rep _) (by simp) (fun k hk _=>by simp) (by simp[val,fq])
 refine alw _ _ ⟨q,?_⟩
 have hw:i64.wrap ((a.length:Int)+(b.length:Int))=((a.length+b.length:Nat):Int):=by rw[bi (by omega) (by omega)];simp
 unfold adh
 rw[hw,o9 (by omega),aO]
 exact hq
theorem Ro(a:List Int)(b:Int)(ha:a9 a)(hb:1≤b∧b<1000000000):∀(n:Nat) (c:Int) (r:List Int),n≤a.length→0≤c→c<b→Lim r→r.length=a.length→(∀k (hk:k<r.length),k<n→r[k]=0)→b*val r+pw n*c+val (a.take n)=val a→
  IC.Runs 10 (sw a b c ((n:Int)-1) r) [.d atA (dig a.length (val a/b)),.d atA [val a%b]]:=by
 have hsa:=ha.2
 intro n
 induction n with
 |zero=>
  intro c r hn c0 c1 hr hl hz hv
  simp only[kp,List.take_zero,val,ato,atc]at hv
  have e1:val a%b=c:=by
   rw[←hv,atd,asm]
   exact asw c0 c1
  have e2:val a/b=val r:=by
   rw[←hv,atd,asb _ _ (by omega),arL c0 c1]
   omega
  refine xH _ _ _ _ _ ⟨0,?_⟩
  unfold qP
  rw[aqu (by omega),e1,e2,←zt hr hl rfl,cM (x:=c) (by omega) (by omega)]
 |succ n ih=>
  intro c r hn c0 c1 hr hl hz hv
  have hna:n<a.length:=by omega
  have hnr:n<r.length:=by omega
  have xa:=ha.1.get hna
  have hr0:=hz n hnr (by omega)
  have hcb:0≤c*1000000000+a[n]:=by omega
  have m0:=arD (c*1000000000+a[n]) (show b≠0 by omega)
  have m1:=aq4 (c*1000000000+a[n]) (show 0<b by omega)
  have md:=arg (c*1000000000+a[n]) b
  have d0:0≤(c*1000000000+a[n])/b:=ary hcb (by omega)
  have d1:(c*1000000000+a[n])/b<1000000000:=by
   refine ar0 (by omega) ?_
   have:=aqL (show c+1≤b by omega) (show(0:Int)≤1000000000 by decide)
   rw[ar4 1000000000 b]
   omega
  obtain⟨q,hq⟩:=ih ((c*1000000000+a[n])%b) (r.set n ((c*1000000000+a[n])/b)) (by omega) m0 m1 (hr.set n ⟨d0,d1⟩) (by simpa using hl)
   (fun k hk hkn=>by rw[arV (by omega)];exact hz k (by simpa using hk) (by omega)) (by
    rw[dW hnr,hr0]
    rw[bj hna,b8]at hv
    grind)
  refine xH _ _ _ _ _ ⟨q,?_⟩
  unfold qP
  rw[show((n+1:Nat):Int)-1=(n:Int) by omega,aqs (by omega),aI a n,aqt hna,bH (x:=b) (by omega) (by omega),aqu (show ¬b=0 by omega),aI r n,aO,aqt hnr]
  dsimp only
  rw[bH (x:=c*1000000000) (by omega) (by omega),bH (x:=a[n]) (by omega) (by omega),bH (x:=c*1000000000+a[n]) (by omega) (by omega),fe hcb,gI hcb,bH (x:=(c*1000000000+a[n])/b) (by omega) (by omega),cM (x:=(c*1000000000+a[n])/b) (by omega) (by omega),bi (x:=(n:Int)-1) (by omega) (by omega)]
  exact hq
def Bi(a:List Int)(b:Int):Prop:=a9 a∧1≤b∧b<1000000000
instance (a:List Int) (b:Int):Decidable (Bi a b):=by unfold Bi;infer_instance
theorem WK(a:List Int)(b:Int)(h:Bi a b):Con Tryz.prog 298 [.d atA a,.d atC b] [.d atA (dig a.length (val a/b)),.d atA [val a%b]]:=by
 refine aN (E:=[]) trivial (show IC.Res _ _ _ from ?_)
 obtain⟨ha,hb⟩:=h
 have hsa:=ha.2
 obtain⟨q,hq⟩:=Ro a b ha hb a.length 0 (List.replicate a.length 0) (aqE _) (by omega) (by omega) (Lim.rep _) (by simp) (fun k hk _=>by simp) (by simp[fq])
 refine aok _ _ ⟨q,?_⟩
 unfold adJ
 rw[o9 (by omega),aO,bi (x:=(a.length:Int)-1) (by omega) (by omega)]
 exact hq
end Go.Proofs.YtlahabkjhgkkjaaGreat
end
