/- Great integers in ac of nine digits: the plain laws. -/
import Derived.Test.YtlahabkjhgkkjaaGreatZ6
namespace Go.Proofs.YtlahabkjhgkkjaaGreat
open Go.RowKit
theorem dT{p:Prop}{i:Decidable p}(h:p): @decide p i=true:=decide_eq_true h
theorem dF{p:Prop}{i:Decidable p}(h:¬p): @decide p i=false:=decide_eq_false h
def val:List Int→Int
 |[]=>0
 |x::xs=>x+1000000000*val xs
def Lim(l:List Int):Prop:=∀x∈l,0≤x∧x<1000000000
instance (l:List Int):Decidable (Lim l):=by unfold Lim;infer_instance
def pw(n:Nat):Int:=1000000000^n
theorem kr:pw 0=1:=rfl
theorem bZ(n:Nat):pw (n+1)=pw n*1000000000:=by simp[pw,Int.pow_succ]
theorem bR(n:Nat):0<pw n:=Int.pow_pos (by decide)
theorem dV(m n:Nat):pw (m+n)=pw m*pw n:=Int.pow_add _ _ _
theorem cM{m n:Nat}(h:m≤n):pw m≤pw n:=by
 obtain⟨k,rfl⟩:=Nat.exists_eq_add_of_le h
 rw[dV]
 have h1:=bR m
 have h2:=bR k
 have:=Int.mul_le_mul_of_nonneg_left (show 1≤pw k by omega) (Int.le_of_lt h1)
 omega
theorem Lim.nil:Lim []:=fun _ h=>by cases h
theorem Lim.cons{x:Int}{l:List Int}(h1:0≤x∧x<1000000000)(h2:Lim l):Lim (x::l):=fun y hy=>by
 rcases List.mem_cons.1 hy with rfl|hy
 ·exact h1
 ·exact h2 y hy
theorem Lim.head{x:Int}{l:List Int}(h:Lim (x::l)):0≤x∧x<1000000000:=h x (by simp)
theorem Lim.tail{x:Int}{l:List Int}(h:Lim (x::l)):Lim l:=fun y hy=>h y (by simp[hy])
theorem Lim.append{a b:List Int}(h1:Lim a)(h2:Lim b):Lim (a++b):=fun y hy=>by
 rcases List.mem_append.1 hy with hy|hy
 ·exact h1 y hy
 ·exact h2 y hy
theorem Lim.left{a b:List Int}(h:Lim (a++b)):Lim a:=fun y hy=>h y (by simp[hy])
theorem Lim.right{a b:List Int}(h:Lim (a++b)):Lim b:=fun y hy=>h y (by simp[hy])
theorem Lim.take{a:List Int}(h:Lim a)(n:Nat):Lim (a.take n):=fun y hy=>h y (List.mem_of_mem_take hy)
theorem Lim.drop{a:List Int}(h:Lim a)(n:Nat):Lim (a.drop n):=fun y hy=>h y (List.mem_of_mem_drop hy)
theorem Lim.set{a:List Int}(h:Lim a)(n:Nat){y:Int}(hy:0≤y∧y<1000000000):Lim (a.set n y):=fun z hz=>by
 rcases List.mem_or_eq_of_mem_set hz with hz|rfl
 ·exact h z hz
 ·exact hy
theorem Lim.get{a:List Int}(h:Lim a){n:Nat}(hn:n<a.length):0≤a[n]∧a[n]<1000000000:=h _ (List.getElem_mem hn)
theorem Lim.rep(n:Nat):Lim (List.replicate n 0):=fun y hy=>by
 rw[List.eq_of_mem_replicate hy];decide
theorem cT(a b:List Int):val (a++b)=val a+pw a.length*val b:=by
 induction a with
 |nil=>simp[val,pw]
 |cons x a ih=>
  simp only[List.cons_append,val,ih,List.length_cons,bZ]
  grind
theorem aY{l:List Int}(h:Lim l):0≤val l:=by
 induction l with
 |nil=>exact Int.le_refl _
 |cons x l ih=>
  have:=ih h.tail
  have:=h.head
  simp only[val]
  omega
theorem bQ{l:List Int}(h:Lim l):val l<pw l.length:=by
 induction l with
 |nil=>exact Int.zero_lt_one
 |cons x l ih=>
  have:=ih h.tail
  have:=h.head
  simp only[val,List.length_cons,bZ]
  omega
theorem zI:∀{a b:List Int},Lim a→Lim b→a.length=b.length→val a=val b→a=b
 |[],[],_,_,_,_=>rfl
 |[],_::_,_,_,h,_=>by simp at h
 |_::_,[],_,_,h,_=>by simp at h
 |x::a,y::b,h1,h2,hl,hv=>by
  have k1:=h1.head
  have k2:=h2.head
  simp only[val]at hv
  have e:x=y:=by omega
  subst e
  rw[zI h1.tail h2.tail (by simpa using hl) (by omega)]
theorem eU(n:Nat):val (List.replicate n 0)=0:=by
 induction n with
 |zero=>rfl
 |succ n ih=>simp[List.replicate_succ,val,ih]
theorem bi{l:List Int}{n:Nat}(h:n<l.length):val (l.take (n+1))=val (l.take n)+pw n*l[n]:=by
 rw[List.take_succ_eq_append_getElem h,cT]
 simp[val,Nat.min_eq_left (Nat.le_of_lt h)]
theorem dN:∀{l:List Int} {n:Nat} (h:n<l.length) (y:Int),val (l.set n y)=val l+pw n*(y-l[n])
 |[],_,h,_=>by simp at h
 |x::l,0,_,y=>by simp only[List.set_cons_zero,val,kr,List.getElem_cons_zero];omega
 |x::l,n+1,h,y=>by
  have:=dN (l:=l) (n:=n) (by simpa using h) y
  simp only[List.set_cons_succ,val,this,bZ,List.getElem_cons_succ]
  grind
theorem eu(l:List Int)(n:Nat):val l=val (l.take n)+pw (min n l.length)*val (l.drop n):=by
 have:=cT (l.take n) (l.drop n)
 rw[List.take_append_drop]at this
 rw[this]
 simp
def dig:Nat→Int→List Int
 |0,_=>[]
 |n+1,v=>v%1000000000::dig n (v/1000000000)
theorem gu:∀(n:Nat) (v:Int),(dig n v).length=n
 |0,_=>rfl
 |n+1,v=>by simp[dig,gu n]
theorem kP:∀(n:Nat) (v:Int),Lim (dig n v)
 |0,_=>Lim.nil
 |n+1,v=>Lim.cons (by omega) (kP n _)
theorem fx:∀(n:Nat) (v:Int),0≤v→v<pw n→val (dig n v)=v
 |0,v,h1,h2=>by simp only[kr]at h2;simp only[dig,val];omega
 |n+1,v,h1,h2=>by
  rw[bZ]at h2
  simp only[dig,val]
  rw[fx n (v/1000000000) (by omega) (by omega)]
  omega
theorem AI{l:List Int}{n:Nat}{v:Int}(h:Lim l)(hl:l.length=n)(hv:val l=v):l=dig n v:=by
 subst hl hv
 exact zI h (kP _ _) (gu _ _).symm (fx _ _ (aY h) (bQ h)).symm
def lbF:Nat→Nat→List Int
 |0,_=>[]
 |f+1,n=>bif n==0 then []else((n%1000000000:Nat):Int)::lbF f (n/1000000000)
def ac(n:Nat):List Int:=lbF (n.log2+1) n
theorem oI(f:Nat):lbF f 0=[]:=by cases f<;>rfl
theorem De:∀(f g n:Nat),n<2^f→n<2^g→lbF f n=lbF g n
 |0,g,n,h,_=>by
  have:n=0:=by simpa using h
  subst this
  rw[oI,oI]
 |f+1,0,n,_,h=>by
  have:n=0:=by simpa using h
  subst this
  rw[oI,oI]
 |f+1,g+1,n,h1,h2=>by
  rw[Nat.pow_succ]at h1 h2
  simp only[lbF]
  rw[De f g (n/1000000000) (by omega) (by omega)]
theorem T8{f n:Nat}(h:n<2^f):ac n=lbF f n:=De _ _ _ Nat.lt_log2_self h
theorem dL:ac 0=[]:=rfl
theorem fo{n:Nat}(h:n≠0):ac n=((n%1000000000:Nat):Int)::ac (n/1000000000):=by
 have h1:n/1000000000<2^n.log2:=by
  have:=Nat.lt_log2_self (n:=n)
  rw[Nat.pow_succ]at this
  omega
 rw[T8 (f:=n.log2) h1]
 unfold ac
 simp only[lbF]
 rw[show(n==0)=false by simpa using h]
 rfl
theorem mA{motive:Nat→Prop}(h0:motive 0)(h1:∀n,n≠0→motive (n/1000000000)→motive n)(n:Nat):motive n:=by
 induction n using Nat.strongRecOn with
 |ind n ih=>
  by_cases hn:n=0
  ·subst hn;exact h0
  ·exact h1 n hn (ih _ (by omega))
theorem bT(n:Nat):Lim (ac n):=by
 induction n using mA with
 |h0=>exact Lim.nil
 |h1 n hn ih=>rw[fo hn];exact Lim.cons (by omega) ih
theorem bE(n:Nat):val (ac n)=(n:Int):=by
 induction n using mA with
 |h0=>rfl
 |h1 n hn ih=>rw[fo hn];simp only[val,ih];omega
def can(l:List Int):Prop:=Lim l∧l.getLast?≠some 0
instance (l:List Int):Decidable (can l):=by unfold can;infer_instance
theorem db(n:Nat):can (ac n):=by
 refine⟨bT n,?_⟩
 induction n using mA with
 |h0=>simp[dL]
 |h1 n hn ih=>
  rw[fo hn]
  by_cases hz:n/1000000000=0
  ·rw[hz,dL]
   simp
   omega
  ·have hne:ac (n/1000000000)≠[]:=by rw[fo hz];simp
   rw[List.getLast?_cons_of_ne_nil hne]
   exact ih
theorem Kp{x:Int}{l:List Int}(h:can (x::l)):can l:=by
 refine⟨h.1.tail,fun e=>h.2 ?_⟩
 have hne:l≠[]:=fun e'=>by subst e';simp at e
 rw[List.getLast?_cons_of_ne_nil hne]
 exact e
theorem dp:∀{l:List Int},can l→l≠[]→0<val l
 |[],_,h=>by cases h rfl
 |[x],h,_=>by
  have:=h.1.head
  have h2:=h.2
  simp at h2
  simp only[val]
  omega
 |x::y::l,h,_=>by
  have:=dp (Kp h) (by simp)
  have:=h.1.head
  simp only[val]at*
  omega
theorem lU:∀{l:List Int},can l→l=ac (val l).toNat
 |[],_=>rfl
 |x::l,h=>by
  have ih:=lU (Kp h)
  have hp:=dp h (by simp)
  have hx:=h.1.head
  have hn:=aY h.1.tail
  rw[fo (by omega)]
  simp only[val]at hp ⊢
  rw[show(x+1000000000*val l).toNat%1000000000=x.toNat by omega,show(x+1000000000*val l).toNat/1000000000=(val l).toNat by omega,←ih]
  rw[show((x.toNat:Nat):Int)=x by omega]
theorem cJ{n k:Nat}(h:(n:Int)<pw k):(ac n).length≤k:=by
 induction k generalizing n with
 |zero=>
  have:n=0:=by simp only[kr]at h;omega
  subst this
  simp[dL]
 |succ k ih=>
  rw[bZ]at h
  by_cases hn:n=0
  ·subst hn;simp[dL]
  ·rw[fo hn]
   have:=ih (n:=n/1000000000) (by omega)
   simp;omega
theorem xg{n k:Nat}(h:pw k≤(n:Int)):k<(ac n).length:=by
 rcases Nat.lt_or_ge k (ac n).length with h1|h1
 ·exact h1
 ·have h2:=bQ (bT n)
  rw[bE]at h2
  have:=cM h1
  omega
theorem fu{n:Nat}:ac n=[]↔n=0:=by
 constructor
 ·intro h
  have:=bE n
  rw[h]at this
  simp[val]at this
  omega
 ·rintro rfl;rfl
def ag(z:Int):Bool×List Int:=(decide (z<0),ac z.natAbs)
def ab(x:Bool×List Int):Int:=bif x.1 then-val x.2 else val x.2
theorem dec_enc(z:Int):ab (ag z)=z:=by
 unfold ab ag
 rw[bE]
 by_cases h:z<0
 ·rw[decide_eq_true h];simp only[cond_true];omega
 ·rw[decide_eq_false h];simp only[cond_false];omega
def b8(a b:Int):Int:=bif decide (a<b)then-1 else bif decide (b<a)then 1 else 0
end Go.Proofs.YtlahabkjhgkkjaaGreat
namespace Go.Proofs.YtlahabkjhgkkjaaGreat
open Go.RowKit
def tys:TT:=[(1,⟨.int .i64,[],0,0,0,false⟩),
 (2,⟨.int .i64,[],0,0,0,true⟩),
 (3,⟨.int .i64,[],0,0,0,true⟩),
 (4,⟨.bool,[],0,0,0,true⟩),
 (5,⟨.int .u8,[],0,0,0,true⟩),
 (6,⟨.int .u8,[],0,0,0,true⟩),
 (7,⟨.st (.pair (.int .i64) (.pair (.int .i64) (.pair .bool (.int .u8)))),[(0,1),(1,1),(2,1),(3,1)],0,0,0,true⟩),
 (8,⟨.st (.pair (.int .i64) (.pair (.int .i64) (.pair .bool (.int .u8)))),[(0,1),(1,1),(2,1),(3,1)],0,0,0,true⟩),
 (9,⟨.str,[],0,0,0,true⟩),
 (10,⟨.str,[],0,0,0,true⟩),
 (11,⟨.str,[],0,0,0,true⟩),
 (12,⟨.int .u64,[],0,0,0,true⟩),
 (13,⟨.st (.pair .str (.int .u64)),[(0,1),(1,1)],0,0,0,true⟩),
 (14,⟨.st (.pair .str (.int .u64)),[(0,1),(1,1)],0,0,0,true⟩),
 (15,⟨.int .i64,[],0,0,0,false⟩),
 (16,⟨.int .i64,[],0,0,0,false⟩),
 (17,⟨.int .i64,[],0,0,0,false⟩),
 (21,⟨.int .i32,[],0,0,0,true⟩),
 (22,⟨.int .i8,[],0,0,0,true⟩),
 (23,⟨.st (.pair (.int .u8) (.pair (.int .u8) (.pair (.int .i8) (.pair (.int .i8) (.pair (.int .i8) (.pair (.int .i8) (.pair (.int .i8) (.int .i8)))))))),[(0,1),(1,1),(2,1),(3,1),(4,1),(5,1),(6,1),(7,1)],0,0,0,true⟩),
 (24,⟨.st (.pair (.int .u8) (.pair (.int .u8) (.pair (.int .i8) (.pair (.int .i8) (.pair (.int .i8) (.pair (.int .i8) (.pair (.int .i8) (.int .i8)))))))),[(0,1),(1,1),(2,1),(3,1),(4,1),(5,1),(6,1),(7,1)],0,0,0,true⟩),
 (25,⟨.st (.pair (.st (.pair (.int .u8) (.pair (.int .u8) (.pair (.int .i8) (.pair (.int .i8) (.pair (.int .i8) (.pair (.int .i8) (.pair (.int .i8) (.int .i8))))))))) (.pair (.st (.pair (.int .u8) (.pair (.int .u8) (.pair (.int .i8) (.pair (.int .i8) (.pair (.int .i8) (.pair (.int .i8) (.pair (.int .i8) (.int .i8))))))))) (.int .u8))),[(0,8),(8,8),(16,1)],0,0,0,true⟩),
 (26,⟨.st (.pair (.st (.pair (.int .u8) (.pair (.int .u8) (.pair (.int .i8) (.pair (.int .i8) (.pair (.int .i8) (.pair (.int .i8) (.pair (.int .i8) (.int .i8))))))))) (.pair (.st (.pair (.int .u8) (.pair (.int .u8) (.pair (.int .i8) (.pair (.int .i8) (.pair (.int .i8) (.pair (.int .i8) (.pair (.int .i8) (.int .i8))))))))) (.int .u8))),[(0,8),(8,8),(16,1)],0,0,0,true⟩),
 (27,⟨.int .i16,[],0,0,0,true⟩),
 (28,⟨.st (.pair (.int .i16) (.pair (.int .i16) (.int .u8))),[(0,1),(1,1),(2,1)],0,0,0,true⟩),
 (29,⟨.st (.pair (.int .i16) (.pair (.int .i16) (.int .u8))),[(0,1),(1,1),(2,1)],0,0,0,true⟩),
 (30,⟨.int .i64,[],0,0,0,false⟩),
 (31,⟨.sl (.int .u32),[],183,0,4,true⟩),
 (32,⟨.st (.pair .bool (.sl (.int .u32))),[(0,1),(1,1)],0,0,0,true⟩),
 (33,⟨.st (.pair .bool (.sl (.int .u32))),[(0,1),(1,1)],0,0,0,true⟩),
 (34,⟨.st (.pair (.st (.pair .bool (.sl (.int .u32)))) (.st (.pair .bool (.sl (.int .u32))))),[(0,2),(2,2)],0,0,0,true⟩),
 (35,⟨.st (.pair (.st (.pair .bool (.sl (.int .u32)))) (.st (.pair .bool (.sl (.int .u32))))),[(0,2),(2,2)],0,0,0,true⟩),
 (36,⟨.st (.pair (.st (.pair (.st (.pair .bool (.sl (.int .u32)))) (.st (.pair .bool (.sl (.int .u32)))))) (.pair (.st (.pair (.st (.pair .bool (.sl (.int .u32)))) (.st (.pair .bool (.sl (.int .u32)))))) (.st (.pair (.st (.pair .bool (.sl (.int .u32)))) (.st (.pair .bool (.sl (.int .u32)))))))),[(0,4),(4,4),(8,4)],0,0,0,true⟩),
 (37,⟨.st (.pair (.st (.pair (.st (.pair .bool (.sl (.int .u32)))) (.st (.pair .bool (.sl (.int .u32)))))) (.pair (.st (.pair (.st (.pair .bool (.sl (.int .u32)))) (.st (.pair .bool (.sl (.int .u32)))))) (.st (.pair (.st (.pair .bool (.sl (.int .u32)))) (.st (.pair .bool (.sl (.int .u32)))))))),[(0,4),(4,4),(8,4)],0,0,0,true⟩),
 (38,⟨.st (.pair (.st (.pair (.st (.pair .bool (.sl (.int .u32)))) (.st (.pair .bool (.sl (.int .u32)))))) (.pair (.st (.pair (.st (.pair .bool (.sl (.int .u32)))) (.st (.pair .bool (.sl (.int .u32)))))) (.st (.pair (.st (.pair .bool (.sl (.int .u32)))) (.st (.pair .bool (.sl (.int .u32)))))))),[(0,4),(4,4),(8,4)],0,0,0,true⟩),
 (39,⟨.st (.pair (.st (.pair (.st (.pair .bool (.sl (.int .u32)))) (.st (.pair .bool (.sl (.int .u32)))))) (.pair (.st (.pair (.st (.pair .bool (.sl (.int .u32)))) (.st (.pair .bool (.sl (.int .u32)))))) (.st (.pair (.st (.pair .bool (.sl (.int .u32)))) (.st (.pair .bool (.sl (.int .u32)))))))),[(0,4),(4,4),(8,4)],0,0,0,true⟩),
 (40,⟨.st (.pair (.st (.pair (.st (.pair .bool (.sl (.int .u32)))) (.st (.pair .bool (.sl (.int .u32)))))) (.pair (.st (.pair (.st (.pair .bool (.sl (.int .u32)))) (.st (.pair .bool (.sl (.int .u32)))))) (.pair (.st (.pair (.st (.pair .bool (.sl (.int .u32)))) (.st (.pair .bool (.sl (.int .u32)))))) (.pair (.st (.pair (.st (.pair .bool (.sl (.int .u32)))) (.st (.pair .bool (.sl (.int .u32)))))) (.st (.pair (.st (.pair .bool (.sl (.int .u32)))) (.st (.pair .bool (.sl (.int .u32)))))))))),[(0,4),(4,4),(8,4),(12,4),(16,4)],0,0,0,true⟩),
 (41,⟨.st (.pair (.st (.pair (.st (.pair .bool (.sl (.int .u32)))) (.st (.pair .bool (.sl (.int .u32)))))) (.pair (.st (.pair (.st (.pair .bool (.sl (.int .u32)))) (.st (.pair .bool (.sl (.int .u32)))))) (.pair (.st (.pair (.st (.pair .bool (.sl (.int .u32)))) (.st (.pair .bool (.sl (.int .u32)))))) (.pair (.st (.pair (.st (.pair .bool (.sl (.int .u32)))) (.st (.pair .bool (.sl (.int .u32)))))) (.st (.pair (.st (.pair .bool (.sl (.int .u32)))) (.st (.pair .bool (.sl (.int .u32)))))))))),[(0,4),(4,4),(8,4),(12,4),(16,4)],0,0,0,true⟩),
 (42,⟨.st (.pair .bool (.pair (.st (.pair (.st (.pair (.st (.pair .bool (.sl (.int .u32)))) (.st (.pair .bool (.sl (.int .u32)))))) (.pair (.st (.pair (.st (.pair .bool (.sl (.int .u32)))) (.st (.pair .bool (.sl (.int .u32)))))) (.st (.pair (.st (.pair .bool (.sl (.int .u32)))) (.st (.pair .bool (.sl (.int .u32))))))))) (.pair (.st (.pair (.st (.pair (.st (.pair .bool (.sl (.int .u32)))) (.st (.pair .bool (.sl (.int .u32)))))) (.pair (.st (.pair (.st (.pair .bool (.sl (.int .u32)))) (.st (.pair .bool (.sl (.int .u32)))))) (.st (.pair (.st (.pair .bool (.sl (.int .u32)))) (.st (.pair .bool (.sl (.int .u32))))))))) (.pair .bool (.pair (.st (.pair (.st (.pair (.st (.pair .bool (.sl (.int .u32)))) (.st (.pair .bool (.sl (.int .u32)))))) (.pair (.st (.pair (.st (.pair .bool (.sl (.int .u32)))) (.st (.pair .bool (.sl (.int .u32)))))) (.pair (.st (.pair (.st (.pair .bool (.sl (.int .u32)))) (.st (.pair .bool (.sl (.int .u32)))))) (.pair (.st (.pair (.st (.pair .bool (.sl (.int .u32)))) (.st (.pair .bool (.sl (.int .u32)))))) (.st (.pair (.st (.pair .bool (.sl (.int .u32)))) (.st (.pair .bool (.sl (.int .u32))))))))))) (.st (.pair (.st (.pair (.st (.pair .bool (.sl (.int .u32)))) (.st (.pair .bool (.sl (.int .u32)))))) (.pair (.st (.pair (.st (.pair .bool (.sl (.int .u32)))) (.st (.pair .bool (.sl (.int .u32)))))) (.pair (.st (.pair (.st (.pair .bool (.sl (.int .u32)))) (.st (.pair .bool (.sl (.int .u32)))))) (.pair (.st (.pair (.st (.pair .bool (.sl (.int .u32)))) (.st (.pair .bool (.sl (.int .u32)))))) (.st (.pair (.st (.pair .bool (.sl (.int .u32)))) (.st (.pair .bool (.sl (.int .u32)))))))))))))))),[(0,1),(1,12),(13,12),(25,1),(26,20),(46,20)],0,0,0,true⟩),
 (43,⟨.st (.pair .bool (.pair (.st (.pair (.st (.pair (.st (.pair .bool (.sl (.int .u32)))) (.st (.pair .bool (.sl (.int .u32)))))) (.pair (.st (.pair (.st (.pair .bool (.sl (.int .u32)))) (.st (.pair .bool (.sl (.int .u32)))))) (.st (.pair (.st (.pair .bool (.sl (.int .u32)))) (.st (.pair .bool (.sl (.int .u32))))))))) (.pair (.st (.pair (.st (.pair (.st (.pair .bool (.sl (.int .u32)))) (.st (.pair .bool (.sl (.int .u32)))))) (.pair (.st (.pair (.st (.pair .bool (.sl (.int .u32)))) (.st (.pair .bool (.sl (.int .u32)))))) (.st (.pair (.st (.pair .bool (.sl (.int .u32)))) (.st (.pair .bool (.sl (.int .u32))))))))) (.pair .bool (.pair (.st (.pair (.st (.pair (.st (.pair .bool (.sl (.int .u32)))) (.st (.pair .bool (.sl (.int .u32)))))) (.pair (.st (.pair (.st (.pair .bool (.sl (.int .u32)))) (.st (.pair .bool (.sl (.int .u32)))))) (.pair (.st (.pair (.st (.pair .bool (.sl (.int .u32)))) (.st (.pair .bool (.sl (.int .u32)))))) (.pair (.st (.pair (.st (.pair .bool (.sl (.int .u32)))) (.st (.pair .bool (.sl (.int .u32)))))) (.st (.pair (.st (.pair .bool (.sl (.int .u32)))) (.st (.pair .bool (.sl (.int .u32))))))))))) (.st (.pair (.st (.pair (.st (.pair .bool (.sl (.int .u32)))) (.st (.pair .bool (.sl (.int .u32)))))) (.pair (.st (.pair (.st (.pair .bool (.sl (.int .u32)))) (.st (.pair .bool (.sl (.int .u32)))))) (.pair (.st (.pair (.st (.pair .bool (.sl (.int .u32)))) (.st (.pair .bool (.sl (.int .u32)))))) (.pair (.st (.pair (.st (.pair .bool (.sl (.int .u32)))) (.st (.pair .bool (.sl (.int .u32)))))) (.st (.pair (.st (.pair .bool (.sl (.int .u32)))) (.st (.pair .bool (.sl (.int .u32)))))))))))))))),[(0,1),(1,12),(13,12),(25,1),(26,20),(46,20)],0,0,0,true⟩),
 (45,⟨.int .i64,[],0,0,0,false⟩),
 (46,⟨.st (.pair (.st (.pair (.st (.pair .bool (.sl (.int .u32)))) (.st (.pair .bool (.sl (.int .u32)))))) (.st (.pair (.st (.pair .bool (.sl (.int .u32)))) (.st (.pair .bool (.sl (.int .u32))))))),[(0,4),(4,4)],0,0,0,true⟩),
 (47,⟨.st (.pair (.st (.pair (.st (.pair .bool (.sl (.int .u32)))) (.st (.pair .bool (.sl (.int .u32)))))) (.st (.pair (.st (.pair .bool (.sl (.int .u32)))) (.st (.pair .bool (.sl (.int .u32))))))),[(0,4),(4,4)],0,0,0,true⟩),
 (48,⟨.int .i64,[],0,0,0,false⟩),
 (49,⟨.st (.pair (.st (.pair (.st (.pair .bool (.sl (.int .u32)))) (.st (.pair .bool (.sl (.int .u32)))))) (.pair (.st (.pair (.st (.pair .bool (.sl (.int .u32)))) (.st (.pair .bool (.sl (.int .u32)))))) (.st (.pair (.st (.pair .bool (.sl (.int .u32)))) (.st (.pair .bool (.sl (.int .u32)))))))),[(0,4),(4,4),(8,4)],0,0,0,true⟩),
 (50,⟨.int .i64,[],0,0,0,false⟩),
 (51,⟨.int .i64,[],0,0,0,false⟩),
 (52,⟨.int .i64,[],0,0,0,false⟩),
 (53,⟨.int .i64,[],0,0,0,false⟩),
 (54,⟨.int .i64,[],0,0,0,false⟩),
 (55,⟨.int .i64,[],0,0,0,false⟩),
 (56,⟨.int .i64,[],0,0,0,false⟩),
 (57,⟨.int .i64,[],0,0,0,false⟩),
 (58,⟨.int .i64,[],0,0,0,false⟩),
 (59,⟨.int .i64,[],0,0,0,false⟩),
 (60,⟨.int .i64,[],0,0,0,false⟩),
 (61,⟨.sl (.st (.pair (.st (.pair (.st (.pair .bool (.sl (.int .u32)))) (.st (.pair .bool (.sl (.int .u32)))))) (.pair (.st (.pair (.st (.pair .bool (.sl (.int .u32)))) (.st (.pair .bool (.sl (.int .u32)))))) (.pair (.st (.pair (.st (.pair .bool (.sl (.int .u32)))) (.st (.pair .bool (.sl (.int .u32)))))) (.pair (.st (.pair (.st (.pair .bool (.sl (.int .u32)))) (.st (.pair .bool (.sl (.int .u32)))))) (.st (.pair (.st (.pair .bool (.sl (.int .u32)))) (.st (.pair .bool (.sl (.int .u32))))))))))),[],41,0,320,true⟩),
 (62,⟨.sl (.st (.pair .bool (.pair (.st (.pair (.st (.pair (.st (.pair .bool (.sl (.int .u32)))) (.st (.pair .bool (.sl (.int .u32)))))) (.pair (.st (.pair (.st (.pair .bool (.sl (.int .u32)))) (.st (.pair .bool (.sl (.int .u32)))))) (.st (.pair (.st (.pair .bool (.sl (.int .u32)))) (.st (.pair .bool (.sl (.int .u32))))))))) (.pair (.st (.pair (.st (.pair (.st (.pair .bool (.sl (.int .u32)))) (.st (.pair .bool (.sl (.int .u32)))))) (.pair (.st (.pair (.st (.pair .bool (.sl (.int .u32)))) (.st (.pair .bool (.sl (.int .u32)))))) (.st (.pair (.st (.pair .bool (.sl (.int .u32)))) (.st (.pair .bool (.sl (.int .u32))))))))) (.pair .bool (.pair (.st (.pair (.st (.pair (.st (.pair .bool (.sl (.int .u32)))) (.st (.pair .bool (.sl (.int .u32)))))) (.pair (.st (.pair (.st (.pair .bool (.sl (.int .u32)))) (.st (.pair .bool (.sl (.int .u32)))))) (.pair (.st (.pair (.st (.pair .bool (.sl (.int .u32)))) (.st (.pair .bool (.sl (.int .u32)))))) (.pair (.st (.pair (.st (.pair .bool (.sl (.int .u32)))) (.st (.pair .bool (.sl (.int .u32)))))) (.st (.pair (.st (.pair .bool (.sl (.int .u32)))) (.st (.pair .bool (.sl (.int .u32))))))))))) (.st (.pair (.st (.pair (.st (.pair .bool (.sl (.int .u32)))) (.st (.pair .bool (.sl (.int .u32)))))) (.pair (.st (.pair (.st (.pair .bool (.sl (.int .u32)))) (.st (.pair .bool (.sl (.int .u32)))))) (.pair (.st (.pair (.st (.pair .bool (.sl (.int .u32)))) (.st (.pair .bool (.sl (.int .u32)))))) (.pair (.st (.pair (.st (.pair .bool (.sl (.int .u32)))) (.st (.pair .bool (.sl (.int .u32)))))) (.st (.pair (.st (.pair .bool (.sl (.int .u32)))) (.st (.pair .bool (.sl (.int .u32))))))))))))))))),[],43,0,1040,true⟩),
 (63,⟨.int .i64,[],0,0,0,false⟩),
 (65,⟨.int .i64,[],0,0,0,false⟩),
 (66,⟨.int .i64,[],0,0,0,true⟩),
 (68,⟨.int .i64,[],0,0,0,false⟩),
 (70,⟨.int .i64,[],0,0,0,false⟩),
 (71,⟨.int .i64,[],0,0,0,false⟩),
 (72,⟨.st (.pair (.st (.pair (.int .i16) (.pair (.int .i16) (.int .u8)))) (.st (.pair (.int .i16) (.pair (.int .i16) (.int .u8))))),[],3,2,0,true⟩),
 (73,⟨.int .i64,[],0,0,0,false⟩),
 (74,⟨.int .i64,[],0,0,0,false⟩),
 (75,⟨.int .i64,[],0,0,0,false⟩),
 (76,⟨.int .i64,[],0,0,0,false⟩),
 (77,⟨.sl (.st (.pair (.int .u8) (.pair (.int .u8) (.pair (.int .i8) (.pair (.int .i8) (.pair (.int .i8) (.pair (.int .i8) (.pair (.int .i8) (.int .i8))))))))),[],24,0,8,true⟩),
 (79,⟨.int .i64,[],0,0,0,false⟩),
 (80,⟨.sl (.int .i64),[],3,0,8,true⟩),
 (81,⟨.int .i64,[],0,0,0,false⟩),
 (82,⟨.int .i64,[],0,0,0,false⟩),
 (83,⟨.int .i64,[],0,0,0,false⟩),
 (84,⟨.int .i64,[],0,0,0,false⟩),
 (85,⟨.int .i64,[],0,0,0,false⟩),
 (86,⟨.int .u16,[],0,0,0,true⟩),
 (87,⟨.st (.pair (.int .i16) (.pair (.int .i16) (.pair (.int .i16) (.pair (.int .i16) (.pair (.int .u16) (.int .u8)))))),[(0,1),(1,1),(2,1),(3,1),(4,1),(5,1)],0,0,0,true⟩),
 (88,⟨.st (.pair (.int .i16) (.pair (.int .i16) (.pair (.int .i16) (.pair (.int .i16) (.pair (.int .u16) (.int .u8)))))),[(0,1),(1,1),(2,1),(3,1),(4,1),(5,1)],0,0,0,true⟩),
 (89,⟨.int .i64,[],0,0,0,false⟩),
 (90,⟨.int .i64,[],0,0,0,false⟩),
 (92,⟨.int .i64,[],0,0,0,false⟩),
 (93,⟨.int .i64,[],0,0,0,false⟩),
 (94,⟨.st (.pair (.int .i8) (.pair (.int .i8) (.int .i8))),[],1,3,0,true⟩),
 (95,⟨.int .i64,[],0,0,0,false⟩),
 (96,⟨.int .i64,[],0,0,0,false⟩),
 (97,⟨.int .i64,[],0,0,0,false⟩),
 (99,⟨.int .i64,[],0,0,0,false⟩),
 (100,⟨.int .i64,[],0,0,0,false⟩),
 (101,⟨.int .i64,[],0,0,0,false⟩),
 (102,⟨.int .i64,[],0,0,0,false⟩),
 (103,⟨.int .i64,[],0,0,0,false⟩),
 (104,⟨.int .i64,[],0,0,0,false⟩),
 (105,⟨.int .i64,[],0,0,0,false⟩),
 (106,⟨.int .i64,[],0,0,0,false⟩),
 (107,⟨.int .i64,[],0,0,0,false⟩),
 (108,⟨.int .i64,[],0,0,0,false⟩),
 (109,⟨.int .i64,[],0,0,0,false⟩),
 (110,⟨.int .i64,[],0,0,0,false⟩),
 (111,⟨.int .i64,[],0,0,0,false⟩),
 (112,⟨.int .i64,[],0,0,0,false⟩),
 (113,⟨.int .i64,[],0,0,0,false⟩),
 (114,⟨.int .i64,[],0,0,0,false⟩),
 (115,⟨.int .i64,[],0,0,0,false⟩),
 (116,⟨.int .i64,[],0,0,0,false⟩),
 (117,⟨.int .i64,[],0,0,0,false⟩),
 (118,⟨.int .i64,[],0,0,0,false⟩),
 (119,⟨.int .i64,[],0,0,0,false⟩),
 (120,⟨.int .i64,[],0,0,0,false⟩),
 (121,⟨.int .i64,[],0,0,0,false⟩),
 (122,⟨.int .i64,[],0,0,0,false⟩),
 (123,⟨.int .i64,[],0,0,0,false⟩),
 (125,⟨.int .i64,[],0,0,0,false⟩),
 (126,⟨.int .i64,[],0,0,0,false⟩),
 (127,⟨.int .i64,[],0,0,0,false⟩),
 (128,⟨.int .i64,[],0,0,0,false⟩),
 (129,⟨.int .i64,[],0,0,0,false⟩),
 (131,⟨.int .i64,[],0,0,0,false⟩),
 (132,⟨.int .i64,[],0,0,0,false⟩),
 (133,⟨.int .i64,[],0,0,0,false⟩),
 (134,⟨.int .i64,[],0,0,0,false⟩),
 (135,⟨.int .i64,[],0,0,0,false⟩),
 (136,⟨.sl (.st (.pair (.st (.pair .bool (.sl (.int .u32)))) (.st (.pair .bool (.sl (.int .u32)))))),[],35,0,64,true⟩),
 (137,⟨.int .i64,[],0,0,0,false⟩),
 (138,⟨.int .i64,[],0,0,0,false⟩),
 (139,⟨.int .i64,[],0,0,0,false⟩),
 (140,⟨.int .i64,[],0,0,0,false⟩),
 (141,⟨.int .i64,[],0,0,0,false⟩),
 (142,⟨.int .i64,[],0,0,0,false⟩),
 (143,⟨.int .i64,[],0,0,0,false⟩),
 (144,⟨.int .i64,[],0,0,0,false⟩),
 (145,⟨.int .i64,[],0,0,0,false⟩),
 (146,⟨.int .i64,[],0,0,0,false⟩),
 (147,⟨.int .i64,[],0,0,0,false⟩),
 (148,⟨.int .i64,[],0,0,0,false⟩),
 (149,⟨.int .i64,[],0,0,0,false⟩),
 (150,⟨.int .i64,[],0,0,0,false⟩),
 (151,⟨.int .i64,[],0,0,0,false⟩),
 (152,⟨.int .i64,[],0,0,0,false⟩),
 (153,⟨.int .i64,[],0,0,0,false⟩),
 (155,⟨.int .i64,[],0,0,0,false⟩),
 (156,⟨.int .i64,[],0,0,0,false⟩),
 (158,⟨.int .i64,[],0,0,0,false⟩),
 (160,⟨.int .i64,[],0,0,0,false⟩),
 (161,⟨.int .i64,[],0,0,0,false⟩),
 (162,⟨.int .i64,[],0,0,0,false⟩),
 (163,⟨.int .i64,[],0,0,0,false⟩),
 (164,⟨.int .i64,[],0,0,0,false⟩),
 (165,⟨.int .i64,[],0,0,0,false⟩),
 (166,⟨.int .i64,[],0,0,0,false⟩),
 (167,⟨.int .i64,[],0,0,0,false⟩),
 (168,⟨.int .i64,[],0,0,0,false⟩),
 (169,⟨.int .i64,[],0,0,0,false⟩),
 (170,⟨.int .i64,[],0,0,0,false⟩),
 (171,⟨.int .i64,[],0,0,0,false⟩),
 (173,⟨.int .i64,[],0,0,0,false⟩),
 (175,⟨.int .i64,[],0,0,0,false⟩),
 (176,⟨.int .i64,[],0,0,0,false⟩),
 (177,⟨.int .i64,[],0,0,0,false⟩),
 (178,⟨.int .i64,[],0,0,0,false⟩),
 (179,⟨.int .i64,[],0,0,0,false⟩),
 (180,⟨.int .i64,[],0,0,0,false⟩),
 (181,⟨.int .i64,[],0,0,0,false⟩),
 (182,⟨.int .i64,[],0,0,0,false⟩),
 (183,⟨.int .u32,[],0,0,0,true⟩),
 (184,⟨.int .i64,[],0,0,0,false⟩),
 (185,⟨.int .i64,[],0,0,0,false⟩),
 (187,⟨.int .i64,[],0,0,0,false⟩),
 (188,⟨.int .i64,[],0,0,0,false⟩),
 (189,⟨.int .u64,[],0,0,0,true⟩),
 (190,⟨.int .i64,[],0,0,0,false⟩),
 (191,⟨.int .i64,[],0,0,0,false⟩),
 (192,⟨.int .i64,[],0,0,0,false⟩),
 (193,⟨.st (.pair (.st (.pair (.st (.pair .bool (.sl (.int .u32)))) (.st (.pair .bool (.sl (.int .u32)))))) (.st (.pair (.st (.pair .bool (.sl (.int .u32)))) (.st (.pair .bool (.sl (.int .u32))))))),[(0,4),(4,4)],0,0,0,true⟩),
 (194,⟨.st (.pair (.st (.pair (.st (.pair .bool (.sl (.int .u32)))) (.st (.pair .bool (.sl (.int .u32)))))) (.st (.pair (.st (.pair .bool (.sl (.int .u32)))) (.st (.pair .bool (.sl (.int .u32))))))),[(0,4),(4,4)],0,0,0,true⟩),
 (196,⟨.int .i64,[],0,0,0,false⟩),
 (197,⟨.st (.pair (.st (.pair (.st (.pair .bool (.sl (.int .u32)))) (.st (.pair .bool (.sl (.int .u32)))))) (.pair (.st (.pair (.st (.pair .bool (.sl (.int .u32)))) (.st (.pair .bool (.sl (.int .u32)))))) (.pair (.st (.pair (.st (.pair .bool (.sl (.int .u32)))) (.st (.pair .bool (.sl (.int .u32)))))) (.pair (.st (.pair (.st (.pair .bool (.sl (.int .u32)))) (.st (.pair .bool (.sl (.int .u32)))))) (.pair (.st (.pair (.st (.pair .bool (.sl (.int .u32)))) (.st (.pair .bool (.sl (.int .u32)))))) (.st (.pair (.st (.pair .bool (.sl (.int .u32)))) (.st (.pair .bool (.sl (.int .u32))))))))))),[(0,4),(4,4),(8,4),(12,4),(16,4),(20,4)],0,0,0,true⟩),
 (198,⟨.st (.pair (.st (.pair (.st (.pair .bool (.sl (.int .u32)))) (.st (.pair .bool (.sl (.int .u32)))))) (.pair (.st (.pair (.st (.pair .bool (.sl (.int .u32)))) (.st (.pair .bool (.sl (.int .u32)))))) (.pair (.st (.pair (.st (.pair .bool (.sl (.int .u32)))) (.st (.pair .bool (.sl (.int .u32)))))) (.pair (.st (.pair (.st (.pair .bool (.sl (.int .u32)))) (.st (.pair .bool (.sl (.int .u32)))))) (.pair (.st (.pair (.st (.pair .bool (.sl (.int .u32)))) (.st (.pair .bool (.sl (.int .u32)))))) (.st (.pair (.st (.pair .bool (.sl (.int .u32)))) (.st (.pair .bool (.sl (.int .u32))))))))))),[(0,4),(4,4),(8,4),(12,4),(16,4),(20,4)],0,0,0,true⟩),
 (199,⟨.int .i64,[],0,0,0,false⟩),
 (200,⟨.int .i64,[],0,0,0,false⟩),
 (201,⟨.int .i64,[],0,0,0,false⟩),
 (202,⟨.int .i64,[],0,0,0,false⟩),
 (203,⟨.int .i64,[],0,0,0,false⟩),
 (205,⟨.int .i64,[],0,0,0,false⟩),
 (206,⟨.int .i64,[],0,0,0,false⟩),
 (207,⟨.int .i64,[],0,0,0,false⟩),
 (208,⟨.int .i64,[],0,0,0,false⟩),
 (209,⟨.int .i64,[],0,0,0,false⟩),
 (211,⟨.int .i64,[],0,0,0,false⟩),
 (213,⟨.int .i64,[],0,0,0,false⟩),
 (214,⟨.int .i64,[],0,0,0,false⟩),
 (216,⟨.int .i64,[],0,0,0,false⟩),
 (217,⟨.int .i64,[],0,0,0,false⟩),
 (218,⟨.int .i64,[],0,0,0,false⟩),
 (219,⟨.int .i64,[],0,0,0,false⟩),
 (220,⟨.int .i64,[],0,0,0,false⟩),
 (221,⟨.int .i64,[],0,0,0,false⟩),
 (222,⟨.int .i64,[],0,0,0,false⟩),
 (223,⟨.int .i64,[],0,0,0,false⟩),
 (224,⟨.int .i64,[],0,0,0,false⟩),
 (225,⟨.int .i64,[],0,0,0,false⟩),
 (226,⟨.int .i64,[],0,0,0,false⟩),
 (227,⟨.int .i64,[],0,0,0,false⟩),
 (229,⟨.int .i64,[],0,0,0,false⟩),
 (230,⟨.int .i64,[],0,0,0,false⟩),
 (231,⟨.st (.pair (.int .i64) (.int .i64)),[(0,1),(1,1)],0,0,0,true⟩),
 (232,⟨.st (.pair (.int .i64) (.int .i64)),[(0,1),(1,1)],0,0,0,true⟩),
 (234,⟨.int .i64,[],0,0,0,false⟩),
 (235,⟨.int .i64,[],0,0,0,false⟩),
 (236,⟨.int .i64,[],0,0,0,false⟩),
 (237,⟨.int .i64,[],0,0,0,false⟩),
 (238,⟨.int .i64,[],0,0,0,false⟩),
 (239,⟨.int .i64,[],0,0,0,false⟩),
 (240,⟨.int .i64,[],0,0,0,false⟩),
 (241,⟨.st .bool,[(0,1)],0,0,0,true⟩),
 (242,⟨.st .bool,[(0,1)],0,0,0,true⟩),
 (243,⟨.int .i64,[],0,0,0,false⟩),
 (244,⟨.int .i64,[],0,0,0,false⟩),
 (245,⟨.int .i64,[],0,0,0,false⟩),
 (246,⟨.int .i64,[],0,0,0,false⟩),
 (247,⟨.int .i64,[],0,0,0,false⟩),
 (249,⟨.int .i64,[],0,0,0,false⟩),
 (250,⟨.int .i64,[],0,0,0,false⟩),
 (251,⟨.int .i64,[],0,0,0,false⟩),
 (252,⟨.int .i64,[],0,0,0,false⟩),
 (254,⟨.int .i64,[],0,0,0,false⟩),
 (255,⟨.int .i64,[],0,0,0,false⟩),
 (256,⟨.int .i64,[],0,0,0,false⟩),
 (257,⟨.int .i64,[],0,0,0,false⟩),
 (258,⟨.sl (.int .i64),[],2,0,8,true⟩),
 (260,⟨.int .i64,[],0,0,0,false⟩),
 (261,⟨.int .i64,[],0,0,0,false⟩),
 (262,⟨.int .i64,[],0,0,0,false⟩),
 (263,⟨.int .i64,[],0,0,0,false⟩),
 (265,⟨.int .i64,[],0,0,0,false⟩),
 (266,⟨.int .i64,[],0,0,0,false⟩),
 (267,⟨.int .u64,[],0,0,0,true⟩),
 (268,⟨.int .i64,[],0,0,0,false⟩),
 (274,⟨.int .u8,[],0,0,0,true⟩),
 (275,⟨.int .u8,[],0,0,0,true⟩),
 (276,⟨.int .i64,[],0,0,0,false⟩),
 (277,⟨.int .i64,[],0,0,0,false⟩),
 (278,⟨.int .i32,[],0,0,0,true⟩),
 (279,⟨.int .i32,[],0,0,0,true⟩)]
theorem abk:dG Tryz.prog tys=true:=by kernel_rfl
theorem Qy:Tryz.prog.follows .mixedOrders=true:=by kernel_rfl
set_option maxRecDepth 100000 in
noncomputable def ft:FT:=[(2,Tryz.f2),(3,Tryz.f3),(4,Tryz.f4),(5,Tryz.f5),(6,Tryz.f6),(7,Tryz.f7),(8,Tryz.f8),(9,Tryz.f9),(10,Tryz.f10),(11,Tryz.f11),(12,Tryz.f12),(13,Tryz.f13),(14,Tryz.f14),(15,Tryz.f15),(16,Tryz.f16),(17,Tryz.f17),(18,Tryz.f18),(19,Tryz.f19),(20,Tryz.f20),(21,Tryz.f21),(22,Tryz.f22),(23,Tryz.f23),(24,Tryz.f24),(25,Tryz.f25),(26,Tryz.f26),(27,Tryz.f27),(28,Tryz.f28),(29,Tryz.f29),(30,Tryz.f30),(31,Tryz.f31),(32,Tryz.f32),(33,Tryz.f33),(34,Tryz.f34),(35,Tryz.f35),(36,Tryz.f36),(37,Tryz.f37),(38,Tryz.f38),(39,Tryz.f39),(40,Tryz.f40),(41,Tryz.f41),(42,Tryz.f42),(43,Tryz.f43),(44,Tryz.f44),(45,Tryz.f45),(46,Tryz.f46),(47,Tryz.f47),(48,Tryz.f48),(49,Tryz.f49),(50,Tryz.f50),(51,Tryz.f51),(52,Tryz.f52),(53,Tryz.f53),(54,Tryz.f54),(55,Tryz.f55),(56,Tryz.f56),(57,Tryz.f57),(58,Tryz.f58),(59,Tryz.f59),(60,Tryz.f60),(61,Tryz.f61),(62,Tryz.f62),(63,Tryz.f63),(64,Tryz.f64),(65,Tryz.f65),(66,Tryz.f66),(67,Tryz.f67),(68,Tryz.f68),(69,Tryz.f69),(70,Tryz.f70),(71,Tryz.f71),(72,Tryz.f72),(73,Tryz.f73),(74,Tryz.f74),(75,Tryz.f75),(76,Tryz.f76),(77,Tryz.f77),(78,Tryz.f78),(79,Tryz.f79),(80,Tryz.f80),(81,Tryz.f81),(82,Tryz.f82),(83,Tryz.f83),(84,Tryz.f84),(85,Tryz.f85),(86,Tryz.f86),(87,Tryz.f87),(88,Tryz.f88),(89,Tryz.f89),(90,Tryz.f90),(91,Tryz.f91),(92,Tryz.f92),(93,Tryz.f93),(94,Tryz.f94),(95,Tryz.f95),(96,Tryz.f96),(97,Tryz.f97),(98,Tryz.f98),(99,Tryz.f99),(100,Tryz.f100),(101,Tryz.f101),(102,Tryz.f102),(103,Tryz.f103),(104,Tryz.f104),(105,Tryz.f105),(106,Tryz.f106),(107,Tryz.f107),(108,Tryz.f108),(109,Tryz.f109),(110,Tryz.f110),(111,Tryz.f111),(112,Tryz.f112),(113,Tryz.f113),(114,Tryz.f114),(115,Tryz.f115),(116,Tryz.f116),(117,Tryz.f117),(118,Tryz.f118),(119,Tryz.f119),(120,Tryz.f120),(121,Tryz.f121),(122,Tryz.f122),(123,Tryz.f123),(124,Tryz.f124),(125,Tryz.f125),(126,Tryz.f126),(127,Tryz.f127),(128,Tryz.f128),(129,Tryz.f129),(130,Tryz.f130),(131,Tryz.f131),(132,Tryz.f132),(133,Tryz.f133),(134,Tryz.f134),(135,Tryz.f135),(136,Tryz.f136),(137,Tryz.f137),(138,Tryz.f138),(139,Tryz.f139),(140,Tryz.f140),(141,Tryz.f141),(142,Tryz.f142),(143,Tryz.f143),(144,Tryz.f144),(145,Tryz.f145),(146,Tryz.f146),(147,Tryz.f147),(148,Tryz.f148),(149,Tryz.f149),(150,Tryz.f150),(151,Tryz.f151),(152,Tryz.f152),(153,Tryz.f153),(154,Tryz.f154),(155,Tryz.f155),(156,Tryz.f156),(157,Tryz.f157),(158,Tryz.f158),(159,Tryz.f159),(160,Tryz.f160),(161,Tryz.f161),(162,Tryz.f162),(163,Tryz.f163),(164,Tryz.f164),(165,Tryz.f165),(166,Tryz.f166),(167,Tryz.f167),(168,Tryz.f168),(169,Tryz.f169),(170,Tryz.f170),(171,Tryz.f171),(172,Tryz.f172),(173,Tryz.f173),(174,Tryz.f174),(175,Tryz.f175),(176,Tryz.f176),(177,Tryz.f177),(178,Tryz.f178),(179,Tryz.f179),(180,Tryz.f180),(181,Tryz.f181),(182,Tryz.f182),(183,Tryz.f183),(184,Tryz.f184),(185,Tryz.f185),(186,Tryz.f186),(187,Tryz.f187),(188,Tryz.f188),(189,Tryz.f189),(190,Tryz.f190),(191,Tryz.f191),(192,Tryz.f192),(193,Tryz.f193),(194,Tryz.f194),(195,Tryz.f195),(196,Tryz.f196),(197,Tryz.f197),(198,Tryz.f198),(199,Tryz.f199),(200,Tryz.f200),(201,Tryz.f201),(202,Tryz.f202),(203,Tryz.f203),(204,Tryz.f204),(205,Tryz.f205),(206,Tryz.f206),(207,Tryz.f207),(208,Tryz.f208),(209,Tryz.f209),(210,Tryz.f210),(211,Tryz.f211),(212,Tryz.f212),(213,Tryz.f213),(214,Tryz.f214),(215,Tryz.f215),(216,Tryz.f216),(217,Tryz.f217),(218,Tryz.f218),(219,Tryz.f219),(220,Tryz.f220),(221,Tryz.f221),(222,Tryz.f222),(223,Tryz.f223),(224,Tryz.f224),(225,Tryz.f225),(226,Tryz.f226),(227,Tryz.f227),(228,Tryz.f228),(229,Tryz.f229),(230,Tryz.f230),(231,Tryz.f231),(232,Tryz.f232),(233,Tryz.f233),(234,Tryz.f234),(235,Tryz.f235),(236,Tryz.f236),(237,Tryz.f237),(238,Tryz.f238),(239,Tryz.f239),(240,Tryz.f240),(241,Tryz.f241),(242,Tryz.f242),(243,Tryz.f243),(244,Tryz.f244),(245,Tryz.f245),(246,Tryz.f246),(247,Tryz.f247),(248,Tryz.f248),(249,Tryz.f249),(250,Tryz.f250),(251,Tryz.f251),(252,Tryz.f252),(253,Tryz.f253),(254,Tryz.f254),(255,Tryz.f255),(256,Tryz.f256),(257,Tryz.f257),(258,Tryz.f258),(259,Tryz.f259),(260,Tryz.f260),(261,Tryz.f261),(262,Tryz.f262),(263,Tryz.f263),(264,Tryz.f264),(265,Tryz.f265),(266,Tryz.f266),(267,Tryz.f267),(268,Tryz.f268),(269,Tryz.f269),(270,Tryz.f270),(271,Tryz.f271),(272,Tryz.f272),(273,Tryz.f273),(274,Tryz.f274),(275,Tryz.f275),(276,Tryz.f276),(277,Tryz.f277),(278,Tryz.f278),(279,Tryz.f279),(280,Tryz.f280),(281,Tryz.f281),(282,Tryz.f282),(283,Tryz.f283),(284,Tryz.f284),(285,Tryz.f285),(286,Tryz.f286),(287,Tryz.f287),(288,Tryz.f288),(289,Tryz.f289),(290,Tryz.f290),(291,Tryz.f291),(292,Tryz.f292),(293,Tryz.f293),(294,Tryz.f294),(295,Tryz.f295),(296,Tryz.f296),(297,Tryz.f297),(298,Tryz.f298),(299,Tryz.f299),(300,Tryz.f300),(301,Tryz.f301),(302,Tryz.f302),(303,Tryz.f303)]
set_option maxRecDepth 100000 in
theorem aex:FtAll Tryz.prog ft:=⟨Tryz.func2,Tryz.func3,Tryz.func4,Tryz.func5,Tryz.func6,Tryz.func7,Tryz.func8,Tryz.func9,Tryz.func10,Tryz.func11,Tryz.func12,Tryz.func13,Tryz.func14,Tryz.func15,Tryz.func16,Tryz.func17,Tryz.func18,Tryz.func19,Tryz.func20,Tryz.func21,Tryz.func22,Tryz.func23,Tryz.func24,Tryz.func25,Tryz.func26,Tryz.func27,Tryz.func28,Tryz.func29,Tryz.func30,Tryz.func31,Tryz.func32,Tryz.func33,Tryz.func34,Tryz.func35,Tryz.func36,Tryz.func37,Tryz.func38,Tryz.func39,Tryz.func40,Tryz.func41,Tryz.func42,Tryz.func43,Tryz.func44,Tryz.func45,Tryz.func46,Tryz.func47,Tryz.func48,Tryz.func49,Tryz.func50,Tryz.func51,Tryz.func52,Tryz.func53,Tryz.func54,Tryz.func55,Tryz.func56,Tryz.func57,Tryz.func58,Tryz.func59,Tryz.func60,Tryz.func61,Tryz.func62,Tryz.func63,Tryz.func64,Tryz.func65,Tryz.func66,Tryz.func67,Tryz.func68,Tryz.func69,Tryz.func70,Tryz.func71,Tryz.func72,Tryz.func73,Tryz.func74,Tryz.func75,Tryz.func76,Tryz.func77,Tryz.func78,Tryz.func79,Tryz.func80,Tryz.func81,Tryz.func82,Tryz.func83,Tryz.func84,Tryz.func85,Tryz.func86,Tryz.func87,Tryz.func88,Tryz.func89,Tryz.func90,Tryz.func91,Tryz.func92,Tryz.func93,Tryz.func94,Tryz.func95,Tryz.func96,Tryz.func97,Tryz.func98,Tryz.func99,Tryz.func100,Tryz.func101,Tryz.func102,Tryz.func103,Tryz.func104,Tryz.func105,Tryz.func106,Tryz.func107,Tryz.func108,Tryz.func109,Tryz.func110,Tryz.func111,Tryz.func112,Tryz.func113,Tryz.func114,Tryz.func115,Tryz.func116,Tryz.func117,Tryz.func118,Tryz.func119,Tryz.func120,Tryz.func121,Tryz.func122,Tryz.func123,Tryz.func124,Tryz.func125,Tryz.func126,Tryz.func127,Tryz.func128,Tryz.func129,Tryz.func130,Tryz.func131,Tryz.func132,Tryz.func133,Tryz.func134,Tryz.func135,Tryz.func136,Tryz.func137,Tryz.func138,Tryz.func139,Tryz.func140,Tryz.func141,Tryz.func142,Tryz.func143,Tryz.func144,Tryz.func145,Tryz.func146,Tryz.func147,Tryz.func148,Tryz.func149,Tryz.func150,Tryz.func151,Tryz.func152,Tryz.func153,Tryz.func154,Tryz.func155,Tryz.func156,Tryz.func157,Tryz.func158,Tryz.func159,Tryz.func160,Tryz.func161,Tryz.func162,Tryz.func163,Tryz.func164,Tryz.func165,Tryz.func166,Tryz.func167,Tryz.func168,Tryz.func169,Tryz.func170,Tryz.func171,Tryz.func172,Tryz.func173,Tryz.func174,Tryz.func175,Tryz.func176,Tryz.func177,Tryz.func178,Tryz.func179,Tryz.func180,Tryz.func181,Tryz.func182,Tryz.func183,Tryz.func184,Tryz.func185,Tryz.func186,Tryz.func187,Tryz.func188,Tryz.func189,Tryz.func190,Tryz.func191,Tryz.func192,Tryz.func193,Tryz.func194,Tryz.func195,Tryz.func196,Tryz.func197,Tryz.func198,Tryz.func199,Tryz.func200,Tryz.func201,Tryz.func202,Tryz.func203,Tryz.func204,Tryz.func205,Tryz.func206,Tryz.func207,Tryz.func208,Tryz.func209,Tryz.func210,Tryz.func211,Tryz.func212,Tryz.func213,Tryz.func214,Tryz.func215,Tryz.func216,Tryz.func217,Tryz.func218,Tryz.func219,Tryz.func220,Tryz.func221,Tryz.func222,Tryz.func223,Tryz.func224,Tryz.func225,Tryz.func226,Tryz.func227,Tryz.func228,Tryz.func229,Tryz.func230,Tryz.func231,Tryz.func232,Tryz.func233,Tryz.func234,Tryz.func235,Tryz.func236,Tryz.func237,Tryz.func238,Tryz.func239,Tryz.func240,Tryz.func241,Tryz.func242,Tryz.func243,Tryz.func244,Tryz.func245,Tryz.func246,Tryz.func247,Tryz.func248,Tryz.func249,Tryz.func250,Tryz.func251,Tryz.func252,Tryz.func253,Tryz.func254,Tryz.func255,Tryz.func256,Tryz.func257,Tryz.func258,Tryz.func259,Tryz.func260,Tryz.func261,Tryz.func262,Tryz.func263,Tryz.func264,Tryz.func265,Tryz.func266,Tryz.func267,Tryz.func268,Tryz.func269,Tryz.func270,Tryz.func271,Tryz.func272,Tryz.func273,Tryz.func274,Tryz.func275,Tryz.func276,Tryz.func277,Tryz.func278,Tryz.func279,Tryz.func280,Tryz.func281,Tryz.func282,Tryz.func283,Tryz.func284,Tryz.func285,Tryz.func286,Tryz.func287,Tryz.func288,Tryz.func289,Tryz.func290,Tryz.func291,Tryz.func292,Tryz.func293,Tryz.func294,Tryz.func295,Tryz.func296,Tryz.func297,Tryz.func298,Tryz.func299,Tryz.func300,Tryz.func301,Tryz.func302,Tryz.func303,trivial⟩
end Go.Proofs.YtlahabkjhgkkjaaGreat
namespace Go.Proofs.YtlahabkjhgkkjaaGreat
open Go.RowKit
def EnvAll(P:Program):Env→Prop
 |[]=>True
 |p::l=>(af P p.1=true∧ao P p.1 p.2∧∀g,p.2.mut_=some g→aK P p.1 g)∧EnvAll P l
theorem EnvAll.ok{P:Program}:∀{l:Env},EnvAll P l→i9 P l
 |[],_,f,fn,h=>by simp[kS]at h
 |(k,x)::l,⟨h1,h2⟩,f,fn,h=>by
  simp only[kS]at h
  split at h
  ·rename_i hb
   have:=Nat.eq_of_beq_eq_true hb
   subst this
   injection h with h
   subst h
   exact h1
  ·exact EnvAll.ok h2 f fn h
theorem au{E:Env}{N:NT}(h:EnvAll Tryz.prog E):(Ctx.mk Tryz.prog ft tys E N).Ok:=⟨abk,h.ok,aex.look,Qy⟩
end Go.Proofs.YtlahabkjhgkkjaaGreat
namespace Go.Proofs.YtlahabkjhgkkjaaGreat
open Go.RowKit
def a8(l:List Int):Prop:=Lim l∧l.length≤1000000000
instance (l:List Int):Decidable (a8 l):=by unfold a8;infer_instance
theorem MS{n:Nat}(h1:0<n)(h2:n≤9223372036854775807):IntKind.i64.wrap ((n:Int)-1)=((n-1:Nat):Int):=by rw[bk (by omega) (by omega)];omega
theorem vo:∀{l:List Int},(∀j (hj:j<l.length),l[j]=0)→val l=0
 |[],_=>rfl
 |x::l,h=>by
  have h0:=h 0 (by simp)
  have:=vo (l:=l) fun j hj=>h (j+1) (by simpa using hj)
  simp only[List.getElem_cons_zero]at h0
  simp only[val]
  omega
theorem sW{l:List Int}{n:Nat}(h:∀j (hj:j<l.length),n≤j→l[j]=0):val (l.take n)=val l:=by
 rw[eu l n,vo (l:=l.drop n) fun j hj=>by
  rw[List.getElem_drop];exact h _ _ (by omega)]
 simp
theorem jR{l:List Int}{n:Nat}(hl:Lim l)(hn:n≤l.length)(h:∀j (hj:j<l.length),n≤j→l[j]=0)(hz:n=0∨∃hj:n-1<l.length,l[n-1]≠0):l.take n=ac (val l).toNat:=by
 rw[←sW h]
 apply lU
 refine⟨hl.take n,?_⟩
 rcases Nat.eq_zero_or_pos n with h0|h0
 ·subst h0;simp
 ·obtain⟨hj,hz⟩:=hz.resolve_left (by omega)
  rw[List.getLast?_eq_getElem?,List.length_take,Nat.min_eq_left hn,List.getElem?_take_of_lt (by omega),List.getElem?_eq_getElem hj]
  simpa using hz
def GV:NT:=[((278,4),{keep:=[0],pure_:=[(0,.int .u32)],hl:=0})]
noncomputable def vI:Ctx:=⟨Tryz.prog,ft,tys,[],GV⟩
def oZ(s0:List Int):Cfg:=⟨278,[.blk 0,.seq 13],[(0,.d (.sl (.int .u32)) s0)],[],0,[]⟩
def RO(k:KT)(a:List Int):Option (List RV):=k 4 (oZ a)
theorem adr(a:List Int){rX:List RV}(hX:∃nX,RO (vI.k nX) a=some rX):vI.Res 278 [.d (.sl (.int .u32)) a] rX:=aO (t:=fun k=>RO k a) (fun k=>show go2 Tryz.prog ft tys [] GV k 4000 (az 278 [.d (.sl (.int .u32)) a]) (.node 0)=RO k a by kernel_rfl) hX
def lG(k:KT)(s0:List Int):Option (List RV):=match decide ((s0.length:Int)>0)with|true=>(match bw s0 (IntKind.i64.wrap ((s0.length:Int)-1))with|some x1=>(match x1==0 with|true=>(match decide ((0:Int)≤0∧0≤IntKind.i64.wrap ((s0.length:Int)-1)∧IntKind.i64.wrap ((s0.length:Int)-1)≤(s0.length:Int))with|true=>k 4 (oZ ((s0.take (IntKind.i64.wrap ((s0.length:Int)-1)).toNat).drop (0:Int).toNat))|false=>none)|false=>some [RV.d (.sl (.int .u32)) s0])|none=>none)|false=>some [RV.d (.sl (.int .u32)) s0]
theorem r8(s0:List Int){rX:List RV}(hX:∃nX,lG (vI.k nX) s0=some rX):vI.Runs 4 (oZ s0) rX:=em (t:=fun k=>lG k s0) (fun k=>show go2 Tryz.prog ft tys [] GV k 4000 {oZ s0 with K:=.lp 4::(oZ s0).K} (.node 5)=lG k s0 by kernel_rfl) hX
def GK:NT:=[((226,6),{keep:=[0,1,4,5],hl:=1})]
noncomputable def vA:Ctx:=⟨Tryz.prog,ft,tys,[],GK⟩
def qc(neg:Bool)(l:List Int)(s5:Int):Cfg:=⟨226,[.blk 0,.seq 15],[(0,SB neg),(1,.d (.sl (.int .u32)) l),(4,.box 0 0),(5,SI s5)],[.box 33 [SB false,.nil]],0,[]⟩
def RF(k:KT)(neg:Bool)(l:List Int):Option (List RV):=k 6 (qc neg l (l.length:Int))
theorem ack(neg:Bool)(l:List Int){rX:List RV}(hX:∃nX,RF (vA.k nX) neg l=some rX):vA.Res 226 [SB neg,.d (.sl (.int .u32)) l] rX:=aO (t:=fun k=>RF k neg l) (fun k=>show go2 Tryz.prog ft tys [] GK k 4000 (az 226 [SB neg,.d (.sl (.int .u32)) l]) (.node 0)=RF k neg l by kernel_rfl) hX
def jI(k:KT)(neg:Bool)(l:List Int)(s5:Int):Option (List RV):=match decide (s5>0)with|true=>(match bw l (IntKind.i64.wrap (s5-1))with|some x1=>(match x1==0 with|true=>k 6 (qc neg l (IntKind.i64.wrap (s5-1)))|false=>(match neg with|true=>(match decide ((0:Int)≤0∧0≤s5∧s5≤s5∧s5≤(l.length:Int))with|true=>some [RV.d (.st (.pair .bool (.sl (.int .u32)))) (decide (s5>0),(l.take (s5).toNat).drop (0:Int).toNat)]|false=>none)|false=>(match decide ((0:Int)≤0∧0≤s5∧s5≤s5∧s5≤(l.length:Int))with|true=>some [RV.d (.st (.pair .bool (.sl (.int .u32)))) (false,(l.take (s5).toNat).drop (0:Int).toNat)]|false=>none)))|none=>none)|false=>(match neg with|true=>(match decide ((0:Int)≤0∧0≤s5∧s5≤s5∧s5≤(l.length:Int))with|true=>some [RV.d (.st (.pair .bool (.sl (.int .u32)))) (decide (s5>0),(l.take (s5).toNat).drop (0:Int).toNat)]|false=>none)|false=>(match decide ((0:Int)≤0∧0≤s5∧s5≤s5∧s5≤(l.length:Int))with|true=>some [RV.d (.st (.pair .bool (.sl (.int .u32)))) (false,(l.take (s5).toNat).drop (0:Int).toNat)]|false=>none))
theorem tW(neg:Bool)(l:List Int)(s5:Int){rX:List RV}(hX:∃nX,jI (vA.k nX) neg l s5=some rX):vA.Runs 6 (qc neg l s5) rX:=em (t:=fun k=>jI k neg l s5) (fun k=>show go2 Tryz.prog ft tys [] GK k 4000 {qc neg l s5 with K:=.lp 6::(qc neg l s5).K} (.node 7)=jI k neg l s5 by kernel_rfl) hX
noncomputable def NJ:Ctx:=⟨Tryz.prog,ft,tys,[],[]⟩
def Jg(_k:KT)(u:Int):Option (List RV):=some [RV.new 183 (.int .u32) ([IntKind.u32.wrap (Int.tmod u 1000000000),IntKind.u32.wrap (Int.tmod (IntKind.u64.wrap (Int.tdiv u 1000000000)) 1000000000),IntKind.u32.wrap (IntKind.u64.wrap (Int.tdiv (IntKind.u64.wrap (Int.tdiv u 1000000000)) 1000000000))])]
theorem adW(u:Int){rX:List RV}(hX:∃nX,Jg (NJ.k nX) u=some rX):NJ.Res 227 [.d (.int .u64) u] rX:=aO (t:=fun k=>Jg k u) (fun k=>show go2 Tryz.prog ft tys [] [] k 4000 (az 227 [.d (.int .u64) u]) (.node 0)=Jg k u by kernel_rfl) hX
theorem RG(l:List Int)(hl:Lim l)(hs:l.length≤1000000000):∀(n:Nat),n≤l.length→(∀j (hj:j<l.length),n≤j→l[j]=0)→vI.Runs 4 (oZ (l.take n)) [.d (.sl (.int .u32)) (ac (val l).toNat)]:=by
 intro n
 induction n with
 |zero=>
  intro _ h
  refine r8 _ ⟨0,?_⟩
  rw[←jR hl (Nat.zero_le _) h (.inl rfl)]
  rfl
 |succ n ih=>
  intro hn h
  have hlen:(l.take (n+1)).length=n+1:=by rw[List.length_take,Nat.min_eq_left hn]
  have hget:(l.take (n+1))[n]?=some l[n]:=by rw[List.getElem?_take_of_lt (by omega),List.getElem?_eq_getElem (by omega)]
  by_cases hz:l[n]=0
  ·obtain⟨q,hq⟩:=ih (by omega) fun j hj hk=>by
    rcases Nat.eq_or_lt_of_le hk with e|e
    ·subst e;exact hz
    ·exact h j hj e
   refine r8 _ ⟨q,?_⟩
   unfold lG
   rw[hlen,decide_eq_true (by omega),MS (by omega) (by omega),aB,show n+1-1=n from rfl,hget]
   dsimp only
   rw[hz,decide_eq_true (show(0:Int)≤0∧(0:Int)≤(n:Int)∧(n:Int)≤((n+1:Nat):Int) by omega),aM,List.take_take,Nat.min_eq_left (by omega)]
   exact hq
  ·refine r8 _ ⟨0,?_⟩
   unfold lG
   rw[hlen,decide_eq_true (by omega),MS (by omega) (by omega),aB,show n+1-1=n from rfl,hget]
   dsimp only
   rw[show(l[n]==0)=false by simpa using hz,←jR hl hn h (.inr ⟨Nat.lt_of_succ_le hn,hz⟩)]
theorem Ye(a:List Int)(h:a8 a):Con Tryz.prog 278 [.d (.sl (.int .u32)) a] [.d (.sl (.int .u32)) (ac (val a).toNat)]:=by
 obtain⟨q,hq⟩:=RG a h.1 h.2 a.length (Nat.le_refl _) (fun j hj hk=>by omega)
 rw[List.take_length]at hq
 exact Ctx.Res.con (C:=vI) (au (E:=[]) trivial) (adr _ ⟨q,hq⟩) (fn:=Tryz.f278) (by kernel_rfl) (by kernel_rfl)
def bV(neg:Bool)(v:Int):Int:=bif neg then-v else v
theorem jT(neg:Bool){v:Int}(h:0≤v):ag (bV neg v)=(neg&&decide (0<v),ac v.toNat):=by
 unfold ag bV
 cases neg
 ·simp only[cond_false,Bool.false_and]
  rw[decide_eq_false (by omega),show v.natAbs=v.toNat by omega]
 ·simp only[cond_true,Bool.true_and]
  rw[show(-v).natAbs=v.toNat by omega]
  by_cases h0:0<v
  ·rw[decide_eq_true h0,decide_eq_true (by omega)]
  ·rw[decide_eq_false h0,decide_eq_false (by omega)]
theorem UR(neg:Bool)(l:List Int)(hl:Lim l)(hs:l.length≤1000000000):∀(n:Nat),n≤l.length→(∀j (hj:j<l.length),n≤j→l[j]=0)→vA.Runs 6 (qc neg l (n:Int)) [.d (.st (.pair .bool (.sl (.int .u32)))) (ag (bV neg (val l)))]:=by
 intro n
 have hv:=aY hl
 induction n with
 |zero=>
  intro _ h
  refine tW _ _ _ ⟨0,?_⟩
  rw[jT neg hv,←jR hl (Nat.zero_le _) h (.inl rfl)]
  have h0:val l=0:=by rw[←sW h];rfl
  unfold jI
  rw[decide_eq_false (show ¬((0:Nat):Int)>0 by decide),decide_eq_true (show(0:Int)≤0∧(0:Int)≤((0:Nat):Int)∧((0:Nat):Int)≤((0:Nat):Int)∧((0:Nat):Int)≤(l.length:Int) by omega),h0]
  cases neg<;>rfl
 |succ n ih=>
  intro hn h
  by_cases hz:l[n]=0
  ·obtain⟨q,hq⟩:=ih (by omega) fun j hj hk=>by
    rcases Nat.eq_or_lt_of_le hk with e|e
    ·subst e;exact hz
    ·exact h j hj e
   refine tW _ _ _ ⟨q,?_⟩
   unfold jI
   rw[decide_eq_true (by omega),MS (by omega) (by omega),aB,show n+1-1=n from rfl,List.getElem?_eq_getElem (by omega)]
   dsimp only
   rw[hz]
   exact hq
  ·refine tW _ _ _ ⟨0,?_⟩
   have hct:=jR hl hn h (.inr ⟨Nat.lt_of_succ_le hn,hz⟩)
   have hpos:0<val l:=by
    rcases Int.lt_or_le 0 (val l)with h1|h1
    ·exact h1
    ·exfalso
     rw[show(val l).toNat=0 by omega,dL]at hct
     have:(l.take (n+1)).length=0:=by rw[hct];rfl
     rw[List.length_take,Nat.min_eq_left hn]at this
     omega
   rw[jT neg hv,←hct]
   unfold jI
   rw[decide_eq_true (show((n+1:Nat):Int)>0 by omega),MS (by omega) (by omega),aB,show n+1-1=n from rfl,List.getElem?_eq_getElem (by omega)]
   dsimp only
   rw[show(l[n]==0)=false by simpa using hz,decide_eq_true (show(0:Int)≤0∧(0:Int)≤((n+1:Nat):Int)∧((n+1:Nat):Int)≤((n+1:Nat):Int)∧((n+1:Nat):Int)≤(l.length:Int) by omega),decide_eq_true hpos,aM]
   cases neg<;>rfl
theorem W7(neg:Bool)(l:List Int)(h:a8 l):Con Tryz.prog 226 [.d .bool neg,.d (.sl (.int .u32)) l] [.d (.st (.pair .bool (.sl (.int .u32)))) (ag (bV neg (val l)))]:=by
 obtain⟨q,hq⟩:=UR neg l h.1 h.2 l.length (Nat.le_refl _) (fun j hj hk=>by omega)
 exact Ctx.Res.con (C:=vA) (au (E:=[]) trivial) (ack _ _ ⟨q,hq⟩) (fn:=Tryz.f226) (by kernel_rfl) (by kernel_rfl)
def fe(u:Int):Prop:=0≤u∧u<18446744073709551616
instance (u:Int):Decidable (fe u):=by unfold fe;infer_instance
theorem cG{x:Int}(h1:0≤x)(h2:x<4294967296):IntKind.u32.wrap x=x:=by rw[IntKind.wrap_u32];omega
theorem bz{x:Int}(h1:0≤x)(h2:x<18446744073709551616):IntKind.u64.wrap x=x:=by rw[IntKind.wrap_u64];omega
theorem eN{a b:Int}(h:0≤a):Int.tdiv a b=a/b:=Int.tdiv_eq_ediv_of_nonneg h
theorem gJ{a b:Int}(h:0≤a):Int.tmod a b=a%b:=Int.tmod_eq_emod_of_nonneg h
theorem Zb(u:Int)(h:fe u):Con Tryz.prog 227 [.d (.int .u64) u] [.new 183 (.int .u32) (dig 3 u)]:=by
 refine Ctx.Res.con (C:=NJ) (au (E:=[]) trivial) (adW _ ⟨0,?_⟩) (fn:=Tryz.f227) (by kernel_rfl) (by kernel_rfl)
 obtain⟨h1,h2⟩:=h
 unfold Jg
 rw[eN h1,gJ h1,bz (x:=u/1000000000) (by omega) (by omega),gJ (by omega),eN (a:=u/1000000000) (by omega),cG (x:=u%1000000000) (by omega) (by omega),cG (x:=u/1000000000%1000000000) (by omega) (by omega),bz (x:=u/1000000000/1000000000) (by omega) (by omega),cG (x:=u/1000000000/1000000000) (by omega) (by omega)]
 have e:dig 3 u=[u%1000000000,u/1000000000%1000000000,u/1000000000/1000000000]:=by
  simp only[dig]
  rw[show u/1000000000/1000000000%1000000000=u/1000000000/1000000000 by omega]
 rw[e]
def AX:aL:=spN false false [(.sl (.int .u32))] (fun x=>decide (a8 x.1)) (fun x=>[RV.d (.sl (.int .u32)) (ac (val x.1).toNat)])
theorem CA:af Tryz.prog 278=true∧ao Tryz.prog 278 AX∧∀g,AX.mut_=some g→aK Tryz.prog 278 g:=aq (by kernel_rfl) fun x h=>Ye x.1 (of_decide_eq_true h)
def qj:aL:=spN false false [.bool,(.sl (.int .u32))] (fun x=>decide (a8 x.2.1)) (fun x=>[RV.d (.st (.pair .bool (.sl (.int .u32)))) (ag (bV x.1 (val x.2.1)))])
theorem ou:af Tryz.prog 226=true∧ao Tryz.prog 226 qj∧∀g,qj.mut_=some g→aK Tryz.prog 226 g:=aq (by kernel_rfl) fun x h=>W7 x.1 x.2.1 (of_decide_eq_true h)
def un:aL:=spN true false [(.int .u64)] (fun x=>decide (fe x.1)) (fun x=>[RV.new 183 (.int .u32) (dig 3 x.1)])
theorem tJ:af Tryz.prog 227=true∧ao Tryz.prog 227 un∧∀g,un.mut_=some g→aK Tryz.prog 227 g:=aq (by kernel_rfl) fun x h=>Zb x.1 (of_decide_eq_true h)
def pB:Env:=[(278,AX),(226,qj),(227,un)]
theorem wE:EnvAll Tryz.prog pB:=⟨CA,ou,tJ,trivial⟩
noncomputable def Ra:Ctx:=⟨Tryz.prog,ft,tys,pB,[]⟩
def Jh(_k:KT)(n:Int):Option (List RV):=match decide (n<0)with|true=>(match decide (fe (IntKind.u64.wrap (0-(IntKind.u64.wrap n))))with|true=>(match decide (a8 (dig 3 (IntKind.u64.wrap (0-(IntKind.u64.wrap n)))))with|true=>some [RV.d (.st (.pair .bool (.sl (.int .u32)))) (ag (bV (decide (n<0)) (val (dig 3 (IntKind.u64.wrap (0-(IntKind.u64.wrap n)))))))]|false=>none)|false=>none)|false=>(match decide (fe (IntKind.u64.wrap n))with|true=>(match decide (a8 (dig 3 (IntKind.u64.wrap n)))with|true=>some [RV.d (.st (.pair .bool (.sl (.int .u32)))) (ag (bV (decide (n<0)) (val (dig 3 (IntKind.u64.wrap n)))))]|false=>none)|false=>none)
theorem aeu(n:Int){rX:List RV}(hX:∃nX,Jh (Ra.k nX) n=some rX):Ra.Res 160 [SI n] rX:=aO (t:=fun k=>Jh k n) (fun k=>show go2 Tryz.prog ft tys pB [] k 4000 (az 160 [SI n]) (.node 0)=Jh k n by kernel_rfl) hX
def Ed:NT:=[((247,24),{keep:=[0,1,5],hl:=0})]
noncomputable def vt:Ctx:=⟨Tryz.prog,ft,tys,pB,Ed⟩
def mj(a:List Int)(b:List Int)(s5:Int):Cfg:=⟨247,[.blk 0,.seq 49],[(0,.d (.sl (.int .u32)) (ac (val a).toNat)),(1,.d (.sl (.int .u32)) (ac (val b).toNat)),(5,SI s5)],[],0,[]⟩
def CJ(k:KT)(a:List Int)(b:List Int):Option (List RV):=match decide (a8 a)with|true=>(match decide (a8 b)with|true=>(match((ac (val a).toNat).length:Int) !=((ac (val b).toNat).length:Int)with|true=>(match decide (((ac (val a).toNat).length:Int)<((ac (val b).toNat).length:Int))with|true=>some [RV.d (.int .i64) (-1)]|false=>some [RV.d (.int .i64) 1])|false=>k 24 (mj a b (IntKind.i64.wrap (((ac (val a).toNat).length:Int)-1))))|false=>none)|false=>none
theorem Zr(a:List Int)(b:List Int){rX:List RV}(hX:∃nX,CJ (vt.k nX) a b=some rX):vt.Res 247 [.d (.sl (.int .u32)) a,.d (.sl (.int .u32)) b] rX:=aO (t:=fun k=>CJ k a b) (fun k=>show go2 Tryz.prog ft tys pB Ed k 4000 (az 247 [.d (.sl (.int .u32)) a,.d (.sl (.int .u32)) b]) (.node 0)=CJ k a b by kernel_rfl) hX
def fO(k:KT)(a:List Int)(b:List Int)(s5:Int):Option (List RV):=match decide (s5≥0)with|true=>(match bw (ac (val a).toNat) s5 with|some x1=>(match bw (ac (val b).toNat) s5 with|some x2=>(match decide (x1<x2)with|true=>some [RV.d (.int .i64) (-1)]|false=>(match bw (ac (val a).toNat) s5 with|some x3=>(match bw (ac (val b).toNat) s5 with|some x4=>(match decide (x3>x4)with|true=>some [RV.d (.int .i64) 1]|false=>k 24 (mj a b (IntKind.i64.wrap (s5-1))))|none=>none)|none=>none))|none=>none)|none=>none)|false=>some [RV.d (.int .i64) 0]
theorem mI(a:List Int)(b:List Int)(s5:Int){rX:List RV}(hX:∃nX,fO (vt.k nX) a b s5=some rX):vt.Runs 24 (mj a b s5) rX:=em (t:=fun k=>fO k a b s5) (fun k=>show go2 Tryz.prog ft tys pB Ed k 4000 {mj a b s5 with K:=.lp 24::(mj a b s5).K} (.node 25)=fO k a b s5 by kernel_rfl) hX
def bh(n:Int):Prop:= -9223372036854775808≤n∧n≤9223372036854775807
instance (n:Int):Decidable (bh n):=by unfold bh;infer_instance
theorem sQ{u:Int}(h:fe u):val (dig 3 u)=u:=fx 3 u h.1 (Int.lt_of_lt_of_le h.2 (by decide))
theorem gI{n:Nat}(h:n≤1000000000)(v:Int):a8 (dig n v):=⟨kP n v,by rw[gu];exact h⟩
theorem Jt(n:Int)(h:bh n):Con Tryz.prog 160 [.d (.int .i64) n] [.d (.st (.pair .bool (.sl (.int .u32)))) (ag n)]:=by
 refine Ctx.Res.con (C:=Ra) (au wE) (aeu _ ⟨0,?_⟩) (fn:=Tryz.f160) (by kernel_rfl) (by kernel_rfl)
 obtain⟨h1,h2⟩:=h
 unfold Jh
 by_cases hn:n<0
 ·have e:IntKind.u64.wrap (0-IntKind.u64.wrap n)= -n:=by rw[IntKind.wrap_u64,IntKind.wrap_u64];omega
  have hu:fe (-n):=⟨by omega,by omega⟩
  rw[decide_eq_true hn]
  dsimp only
  rw[e,decide_eq_true hu,decide_eq_true (gI (n:=3) (by decide) (-n)),sQ hu]
  simp[bV]
 ·have e:IntKind.u64.wrap n=n:=bz (by omega) (by omega)
  have hu:fe n:=⟨by omega,by omega⟩
  rw[decide_eq_false hn]
  dsimp only
  rw[e,decide_eq_true hu,decide_eq_true (gI (n:=3) (by decide) n),sQ hu]
  rfl
theorem S4{l:List Int}{n:Nat}(h:n<l.length):val l=val (l.take n)+pw n*(l[n]+1000000000*val (l.drop (n+1))):=by
 rw[eu l n,Nat.min_eq_left (Nat.le_of_lt h),List.drop_eq_getElem_cons h]
 rfl
theorem xk{a b:List Int}(ha:Lim a)(hb:Lim b){n:Nat}(h1:n<a.length)(h2:n<b.length)(hd:a.drop (n+1)=b.drop (n+1))(hlt:a[n]<b[n]):val a<val b:=by
 rw[S4 h1,S4 h2,hd]
 have k1:=bQ (ha.take n)
 have k2:=aY (hb.take n)
 rw[List.length_take,Nat.min_eq_left (Nat.le_of_lt h1)]at k1
 have hp:=bR n
 have:=Int.mul_le_mul_of_nonneg_left (show a[n]+1000000000*val (b.drop (n+1))+1≤b[n]+1000000000*val (b.drop (n+1)) by omega) (Int.le_of_lt hp)
 rw[Int.mul_add,Int.mul_one]at this
 omega
theorem cF{a b:Int}(h:a<b):b8 a b= -1:=by unfold b8;rw[decide_eq_true h];rfl
theorem cz{a b:Int}(h:b<a):b8 a b=1:=by unfold b8;rw[decide_eq_false (by omega),decide_eq_true h];rfl
theorem cV(a:Int):b8 a a=0:=by unfold b8;rw[decide_eq_false (by omega)];rfl
theorem rg{a b:Nat}(h:(ac a).length<(ac b).length):a<b:=by
 rcases Nat.lt_or_ge a b with h1|h1
 ·exact h1
 ·have:=cJ (n:=b) (k:=(ac a).length) (by
   have:=bQ (bT a)
   rw[bE]at this
   omega)
  omega
theorem QJ(a b:List Int)(hl:(ac (val a).toNat).length=(ac (val b).toNat).length)(ha:0≤val a)(hb:0≤val b)(hs:(ac (val a).toNat).length≤1000000000):∀(n:Nat),n≤(ac (val a).toNat).length→(ac (val a).toNat).drop n=(ac (val b).toNat).drop n→
  vt.Runs 24 (mj a b ((n:Int)-1)) [.d (.int .i64) (b8 (val a) (val b))]:=by
 have va:=bE (val a).toNat
 have vb:=bE (val b).toNat
 have la:=bT (val a).toNat
 have lb:=bT (val b).toNat
 intro n
 induction n with
 |zero=>
  intro _ h
  refine mI _ _ _ ⟨0,?_⟩
  have e:val a=val b:=by simp only[List.drop_zero]at h;rw[h]at va;omega
  unfold fO
  rw[decide_eq_false (by omega),e,cV]
 |succ n ih=>
  intro hn h
  have h1:n<(ac (val a).toNat).length:=by omega
  have h2:n<(ac (val b).toNat).length:=by omega
  rcases Int.lt_trichotomy (ac (val a).toNat)[n] (ac (val b).toNat)[n]with hc|hc|hc
  ·refine mI _ _ _ ⟨0,?_⟩
   have:=xk la lb h1 h2 h hc
   unfold fO
   rw[show((n+1:Nat):Int)-1=(n:Int) by omega,decide_eq_true (by omega),aB,aB,List.getElem?_eq_getElem h1,List.getElem?_eq_getElem h2]
   dsimp only
   rw[decide_eq_true hc,cF (by omega)]
  ·obtain⟨q,hq⟩:=ih (by omega) (by rw[List.drop_eq_getElem_cons h1,List.drop_eq_getElem_cons h2,hc,h])
   refine mI _ _ _ ⟨q,?_⟩
   unfold fO
   rw[show((n+1:Nat):Int)-1=(n:Int) by omega,decide_eq_true (by omega),aB,aB,List.getElem?_eq_getElem h1,List.getElem?_eq_getElem h2]
   dsimp only
   rw[decide_eq_false (by omega),decide_eq_false (by omega),bk (x:=(n:Int)-1) (by omega) (by omega)]
   exact hq
  ·refine mI _ _ _ ⟨0,?_⟩
   have:=xk lb la h2 h1 h.symm hc
   unfold fO
   rw[show((n+1:Nat):Int)-1=(n:Int) by omega,decide_eq_true (by omega),aB,aB,List.getElem?_eq_getElem h1,List.getElem?_eq_getElem h2]
   dsimp only
   rw[decide_eq_false (by omega),decide_eq_true hc,cz (by omega)]
theorem gX{l:List Int}(h:Lim l):(ac (val l).toNat).length≤l.length:=cJ (by have:=bQ h;have:=aY h;omega)
theorem YQ(a b:List Int)(h:a8 a∧a8 b):Con Tryz.prog 247 [.d (.sl (.int .u32)) a,.d (.sl (.int .u32)) b] [.d (.int .i64) (b8 (val a) (val b))]:=by
 refine Ctx.Res.con (C:=vt) (au wE) ?_ (fn:=Tryz.f247) (by kernel_rfl) (by kernel_rfl)
 obtain⟨ha,hb⟩:=h
 have la:=gX ha.1
 have lb:=gX hb.1
 have na:=aY ha.1
 have nb:=aY hb.1
 have hsa:=ha.2
 have hsb:=hb.2
 by_cases hl:(ac (val a).toNat).length=(ac (val b).toNat).length
 ·obtain⟨q,hq⟩:=QJ a b hl na nb (by omega) _ (Nat.le_refl _) (by rw[List.drop_length,hl,List.drop_length])
  refine Zr _ _ ⟨q,?_⟩
  unfold CJ
  rw[decide_eq_true ha,decide_eq_true hb,show(((ac (val a).toNat).length:Int) !=((ac (val b).toNat).length:Int))=false by simp[hl],bk (x:=((ac (val a).toNat).length:Int)-1) (by omega) (by omega)]
  exact hq
 ·refine Zr _ _ ⟨0,?_⟩
  unfold CJ
  rw[decide_eq_true ha,decide_eq_true hb,show(((ac (val a).toNat).length:Int) !=((ac (val b).toNat).length:Int))=true by simp;omega]
  dsimp only
  rcases Nat.lt_or_gt_of_ne hl with h1|h1
  ·have:=rg h1
   rw[decide_eq_true (by omega),cF (by omega)]
  ·have:=rg h1
   rw[decide_eq_false (by omega),cz (by omega)]
end Go.Proofs.YtlahabkjhgkkjaaGreat
namespace Go.Proofs.YtlahabkjhgkkjaaGreat
open Go.RowKit
def Fa:NT:=[((263,16),{keep:=[1,5,6,20,21,22],hl:=1})]
noncomputable def tU:Ctx:=⟨Tryz.prog,ft,tys,[],Fa⟩
def fD(s1:List Int)(s20:List Int)(s21:Int)(s6:Int)(s22:Int)(r0:List Int):Cfg:=⟨263,[.blk 0,.seq 45],[(1,.d (.sl (.int .u32)) s1),(5,.own 0),(6,.d (.int .u32) s6),(20,.d (.sl (.int .u32)) s20),(21,SI s21),(22,SI s22)],[.row 183 (.int .u32) r0],0,[]⟩
def Dv(k:KT)(a:List Int)(b:List Int):Option (List RV):=match decide ((a.length:Int)<(b.length:Int))with|true=>(match decide ((0:Int)=0∧(0:Int)≤IntKind.i64.wrap ((b.length:Int)+1)∧(IntKind.i64.wrap ((b.length:Int)+1))*((4:Nat):Int)≤140737488355328∧IntKind.i64.wrap ((b.length:Int)+1)≤140737488355328)with|true=>k 16 (fD a b (b.length:Int) 0 0 ([]:List Int))|false=>none)|false=>(match decide ((0:Int)=0∧(0:Int)≤IntKind.i64.wrap ((a.length:Int)+1)∧(IntKind.i64.wrap ((a.length:Int)+1))*((4:Nat):Int)≤140737488355328∧IntKind.i64.wrap ((a.length:Int)+1)≤140737488355328)with|true=>k 16 (fD b a (a.length:Int) 0 0 ([]:List Int))|false=>none)
theorem Zy(a:List Int)(b:List Int){rX:List RV}(hX:∃nX,Dv (tU.k nX) a b=some rX):tU.Res 263 [.d (.sl (.int .u32)) a,.d (.sl (.int .u32)) b] rX:=aO (t:=fun k=>Dv k a b) (fun k=>show go2 Tryz.prog ft tys [] Fa k 4000 (az 263 [.d (.sl (.int .u32)) a,.d (.sl (.int .u32)) b]) (.node 0)=Dv k a b by kernel_rfl) hX
def fh(k:KT)(s1:List Int)(s20:List Int)(s21:Int)(s6:Int)(s22:Int)(r0:List Int):Option (List RV):=match decide (s22<s21)with|true=>(match bw s20 s22 with|some x1=>(match decide (s22<(s1.length:Int))with|true=>(match bw s1 s22 with|some x2=>(match decide ((IntKind.u32.wrap ((IntKind.u32.wrap (x1+s6))+x2))≥1000000000)with|true=>(match decide ((r0.length+([IntKind.u32.wrap ((IntKind.u32.wrap ((IntKind.u32.wrap (x1+s6))+x2))-1000000000)]).length)*4≤140737488355328∧r0.length+([IntKind.u32.wrap ((IntKind.u32.wrap ((IntKind.u32.wrap (x1+s6))+x2))-1000000000)]).length≤140737488355328)with|true=>k 16 (fD s1 s20 s21 1 (IntKind.i64.wrap (s22+1)) (r0++([IntKind.u32.wrap ((IntKind.u32.wrap ((IntKind.u32.wrap (x1+s6))+x2))-1000000000)])))|false=>none)|false=>(match decide ((r0.length+([IntKind.u32.wrap ((IntKind.u32.wrap (x1+s6))+x2)]).length)*4≤140737488355328∧r0.length+([IntKind.u32.wrap ((IntKind.u32.wrap (x1+s6))+x2)]).length≤140737488355328)with|true=>k 16 (fD s1 s20 s21 0 (IntKind.i64.wrap (s22+1)) (r0++([IntKind.u32.wrap ((IntKind.u32.wrap (x1+s6))+x2)])))|false=>none))|none=>none)|false=>(match decide ((IntKind.u32.wrap (x1+s6))≥1000000000)with|true=>(match decide ((r0.length+([IntKind.u32.wrap ((IntKind.u32.wrap (x1+s6))-1000000000)]).length)*4≤140737488355328∧r0.length+([IntKind.u32.wrap ((IntKind.u32.wrap (x1+s6))-1000000000)]).length≤140737488355328)with|true=>k 16 (fD s1 s20 s21 1 (IntKind.i64.wrap (s22+1)) (r0++([IntKind.u32.wrap ((IntKind.u32.wrap (x1+s6))-1000000000)])))|false=>none)|false=>(match decide ((r0.length+([IntKind.u32.wrap (x1+s6)]).length)*4≤140737488355328∧r0.length+([IntKind.u32.wrap (x1+s6)]).length≤140737488355328)with|true=>k 16 (fD s1 s20 s21 0 (IntKind.i64.wrap (s22+1)) (r0++([IntKind.u32.wrap (x1+s6)])))|false=>none)))|none=>none)|false=>(match decide ((r0.length+([s6]).length)*4≤140737488355328∧r0.length+([s6]).length≤140737488355328)with|true=>some [RV.new 183 (.int .u32) (r0++([s6]))]|false=>none)
theorem jo(s1:List Int)(s20:List Int)(s21:Int)(s6:Int)(s22:Int)(r0:List Int){rX:List RV}(hX:∃nX,fh (tU.k nX) s1 s20 s21 s6 s22 r0=some rX):tU.Runs 16 (fD s1 s20 s21 s6 s22 r0) rX:=em (t:=fun k=>fh k s1 s20 s21 s6 s22 r0) (fun k=>show go2 Tryz.prog ft tys [] Fa k 4000 {fD s1 s20 s21 s6 s22 r0 with K:=.lp 16::(fD s1 s20 s21 s6 s22 r0).K} (.node 17)=fh k s1 s20 s21 s6 s22 r0 by kernel_rfl) hX
def EQ:NT:=[((264,10),{keep:=[1,5,6,13,14,15],hl:=1})]
noncomputable def tF:Ctx:=⟨Tryz.prog,ft,tys,[],EQ⟩
def gk(a:List Int)(b:List Int)(s6:Int)(s15:Int)(r0:List Int):Cfg:=⟨264,[.blk 0,.seq 39],[(1,.d (.sl (.int .u32)) b),(5,.own 0),(6,.d (.int .u32) s6),(13,.d (.sl (.int .u32)) a),(14,SI (a.length:Int)),(15,SI s15)],[.row 183 (.int .u32) r0],0,[]⟩
def Ji(k:KT)(a:List Int)(b:List Int):Option (List RV):=match decide ((0:Int)≤(a.length:Int)∧(a.length:Int)*((4:Nat):Int)≤140737488355328∧(a.length:Int)≤140737488355328)with|true=>k 10 (gk a b 0 0 (List.replicate ((a.length:Int)).toNat (0:Int)))|false=>none
theorem aei(a:List Int)(b:List Int){rX:List RV}(hX:∃nX,Ji (tF.k nX) a b=some rX):tF.Res 264 [.d (.sl (.int .u32)) a,.d (.sl (.int .u32)) b] rX:=aO (t:=fun k=>Ji k a b) (fun k=>show go2 Tryz.prog ft tys [] EQ k 4000 (az 264 [.d (.sl (.int .u32)) a,.d (.sl (.int .u32)) b]) (.node 0)=Ji k a b by kernel_rfl) hX
def fi(k:KT)(a:List Int)(b:List Int)(s6:Int)(s15:Int)(r0:List Int):Option (List RV):=match decide (s15<(a.length:Int))with|true=>(match bw a s15 with|some x1=>(match decide (s15<(b.length:Int))with|true=>(match bw b s15 with|some x2=>(match decide (x1<(IntKind.u32.wrap (s6+x2)))with|true=>(match bw r0 s15 with|some _=>(match true,r0[(s15).toNat]? with|true,some _=>k 10 (gk a b 1 (IntKind.i64.wrap (s15+1)) (r0.set ((s15).toNat) (IntKind.u32.wrap ((IntKind.u32.wrap (x1+1000000000))-(IntKind.u32.wrap (s6+x2))))))|_,_=>none)|none=>none)|false=>(match bw r0 s15 with|some _=>(match true,r0[(s15).toNat]? with|true,some _=>k 10 (gk a b 0 (IntKind.i64.wrap (s15+1)) (r0.set ((s15).toNat) (IntKind.u32.wrap (x1-(IntKind.u32.wrap (s6+x2))))))|_,_=>none)|none=>none))|none=>none)|false=>(match decide (x1<s6)with|true=>(match bw r0 s15 with|some _=>(match true,r0[(s15).toNat]? with|true,some _=>k 10 (gk a b 1 (IntKind.i64.wrap (s15+1)) (r0.set ((s15).toNat) (IntKind.u32.wrap ((IntKind.u32.wrap (x1+1000000000))-s6))))|_,_=>none)|none=>none)|false=>(match bw r0 s15 with|some _=>(match true,r0[(s15).toNat]? with|true,some _=>k 10 (gk a b 0 (IntKind.i64.wrap (s15+1)) (r0.set ((s15).toNat) (IntKind.u32.wrap (x1-s6))))|_,_=>none)|none=>none)))|none=>none)|false=>some [RV.new 183 (.int .u32) r0]
theorem kg(a:List Int)(b:List Int)(s6:Int)(s15:Int)(r0:List Int){rX:List RV}(hX:∃nX,fi (tF.k nX) a b s6 s15 r0=some rX):tF.Runs 10 (gk a b s6 s15 r0) rX:=em (t:=fun k=>fi k a b s6 s15 r0) (fun k=>show go2 Tryz.prog ft tys [] EQ k 4000 {gk a b s6 s15 r0 with K:=.lp 10::(gk a b s6 s15 r0).K} (.node 11)=fi k a b s6 s15 r0 by kernel_rfl) hX
def AJ:NT:=[((248,8),{keep:=[1,5,18,19,20],hl:=1}),((248,25),{keep:=[1,5,6,7,8,18,19,20,25,26,27],hl:=1})]
noncomputable def m4:Ctx:=⟨Tryz.prog,ft,tys,[],AJ⟩
def nG(a:List Int)(b:List Int)(s20:Int)(r0:List Int):Cfg:=⟨248,[.blk 0,.seq 42],[(1,.d (.sl (.int .u32)) b),(5,.own 0),(18,.d (.sl (.int .u32)) a),(19,SI (a.length:Int)),(20,SI s20)],[.row 183 (.int .u32) r0],0,[]⟩
def mU(a:List Int)(b:List Int)(s20:Int)(x1:Int)(s8:Int)(s27:Int)(r0:List Int):Cfg:=⟨248,[.blk 2,.seq 40,.blk 1,.seq 41,.lp 8,.blk 0,.seq 42],[(1,.d (.sl (.int .u32)) b),(5,.own 0),(6,SI s20),(7,.d (.int .u32) x1),(8,.d (.int .u64) s8),(18,.d (.sl (.int .u32)) a),(19,SI (a.length:Int)),(20,SI s20),(25,.d (.sl (.int .u32)) b),(26,SI (b.length:Int)),(27,SI s27)],[.row 183 (.int .u32) r0],0,[]⟩
def H9(k:KT)(a:List Int)(b:List Int):Option (List RV):=match decide ((0:Int)≤IntKind.i64.wrap ((a.length:Int)+(b.length:Int))∧(IntKind.i64.wrap ((a.length:Int)+(b.length:Int)))*((4:Nat):Int)≤140737488355328∧IntKind.i64.wrap ((a.length:Int)+(b.length:Int))≤140737488355328)with|true=>k 8 (nG a b 0 (List.replicate (IntKind.i64.wrap ((a.length:Int)+(b.length:Int))).toNat (0:Int)))|false=>none
theorem adM(a:List Int)(b:List Int){rX:List RV}(hX:∃nX,H9 (m4.k nX) a b=some rX):m4.Res 248 [.d (.sl (.int .u32)) a,.d (.sl (.int .u32)) b] rX:=aO (t:=fun k=>H9 k a b) (fun k=>show go2 Tryz.prog ft tys [] AJ k 4000 (az 248 [.d (.sl (.int .u32)) a,.d (.sl (.int .u32)) b]) (.node 0)=H9 k a b by kernel_rfl) hX
def lA(k:KT)(a:List Int)(b:List Int)(s20:Int)(r0:List Int):Option (List RV):=match decide (s20<(a.length:Int))with|true=>(match bw a s20 with|some x1=>k 25 (mU a b s20 x1 0 0 r0)|none=>none)|false=>some [RV.new 183 (.int .u32) r0]
theorem Dh(a:List Int)(b:List Int)(s20:Int)(r0:List Int){rX:List RV}(hX:∃nX,lA (m4.k nX) a b s20 r0=some rX):m4.Runs 8 (nG a b s20 r0) rX:=em (t:=fun k=>lA k a b s20 r0) (fun k=>show go2 Tryz.prog ft tys [] AJ k 4000 {nG a b s20 r0 with K:=.lp 8::(nG a b s20 r0).K} (.node 9)=lA k a b s20 r0 by kernel_rfl) hX
def jK(k:KT)(a:List Int)(b:List Int)(s20:Int)(x1:Int)(s8:Int)(s27:Int)(r0:List Int):Option (List RV):=match decide (s27<(b.length:Int))with|true=>(match bw b s27 with|some x2=>(match bw r0 (IntKind.i64.wrap (s20+s27))with|some _=>(match true,r0[(IntKind.i64.wrap (s20+s27)).toNat]? with|true,some x3=>(match bw r0 (IntKind.i64.wrap (s20+s27))with|some _=>(match true,r0[(IntKind.i64.wrap (s20+s27)).toNat]? with|true,some _=>k 25 (mU a b s20 x1 (IntKind.u64.wrap (Int.tdiv (IntKind.u64.wrap ((IntKind.u64.wrap ((IntKind.u64.wrap x3)+(IntKind.u64.wrap ((IntKind.u64.wrap x1)*(IntKind.u64.wrap x2)))))+s8)) 1000000000)) (IntKind.i64.wrap (s27+1)) (r0.set ((IntKind.i64.wrap (s20+s27)).toNat) (IntKind.u32.wrap (Int.tmod (IntKind.u64.wrap ((IntKind.u64.wrap ((IntKind.u64.wrap x3)+(IntKind.u64.wrap ((IntKind.u64.wrap x1)*(IntKind.u64.wrap x2)))))+s8)) 1000000000))))|_,_=>none)|none=>none)|_,_=>none)|none=>none)|none=>none)|false=>(match bw r0 (IntKind.i64.wrap (s20+(b.length:Int)))with|some _=>(match true,r0[(IntKind.i64.wrap (s20+(b.length:Int))).toNat]? with|true,some _=>k 8 (nG a b (IntKind.i64.wrap (s20+1)) (r0.set ((IntKind.i64.wrap (s20+(b.length:Int))).toNat) (IntKind.u32.wrap s8)))|_,_=>none)|none=>none)
theorem ve(a:List Int)(b:List Int)(s20:Int)(x1:Int)(s8:Int)(s27:Int)(r0:List Int){rX:List RV}(hX:∃nX,jK (m4.k nX) a b s20 x1 s8 s27 r0=some rX):m4.Runs 25 (mU a b s20 x1 s8 s27 r0) rX:=em (t:=fun k=>jK k a b s20 x1 s8 s27 r0) (fun k=>show go2 Tryz.prog ft tys [] AJ k 4000 {mU a b s20 x1 s8 s27 r0 with K:=.lp 25::(mU a b s20 x1 s8 s27 r0).K} (.node 26)=jK k a b s20 x1 s8 s27 r0 by kernel_rfl) hX
def HC:NT:=[((298,10),{keep:=[0,1,6,7,8],hl:=1})]
noncomputable def vz:Ctx:=⟨Tryz.prog,ft,tys,[],HC⟩
def mq(a:List Int)(b:Int)(s7:Int)(s8:Int)(r0:List Int):Cfg:=⟨298,[.blk 0,.seq 23],[(0,.d (.sl (.int .u32)) a),(1,.d (.int .u32) b),(6,.own 0),(7,.d (.int .u64) s7),(8,SI s8)],[.row 183 (.int .u32) r0],0,[]⟩
def Lw(k:KT)(a:List Int)(b:Int):Option (List RV):=match decide ((0:Int)≤(a.length:Int)∧(a.length:Int)*((4:Nat):Int)≤140737488355328∧(a.length:Int)≤140737488355328)with|true=>k 10 (mq a b 0 (IntKind.i64.wrap ((a.length:Int)-1)) (List.replicate ((a.length:Int)).toNat (0:Int)))|false=>none
theorem acL(a:List Int)(b:Int){rX:List RV}(hX:∃nX,Lw (vz.k nX) a b=some rX):vz.Res 298 [.d (.sl (.int .u32)) a,.d (.int .u32) b] rX:=aO (t:=fun k=>Lw k a b) (fun k=>show go2 Tryz.prog ft tys [] HC k 4000 (az 298 [.d (.sl (.int .u32)) a,.d (.int .u32) b]) (.node 0)=Lw k a b by kernel_rfl) hX
def jA(k:KT)(a:List Int)(b:Int)(s7:Int)(s8:Int)(r0:List Int):Option (List RV):=match decide (s8≥0)with|true=>(match bw a s8 with|some x1=>(match decide (IntKind.u64.wrap b=(0:Int))with|true=>none|false=>(match decide (IntKind.u64.wrap b=(0:Int))with|true=>none|false=>(match bw r0 s8 with|some _=>(match true,r0[(s8).toNat]? with|true,some _=>k 10 (mq a b (Int.tmod (IntKind.u64.wrap ((IntKind.u64.wrap (s7*1000000000))+(IntKind.u64.wrap x1))) (IntKind.u64.wrap b)) (IntKind.i64.wrap (s8-1)) (r0.set ((s8).toNat) (IntKind.u32.wrap (IntKind.u64.wrap (Int.tdiv (IntKind.u64.wrap ((IntKind.u64.wrap (s7*1000000000))+(IntKind.u64.wrap x1))) (IntKind.u64.wrap b))))))|_,_=>none)|none=>none)))|none=>none)|false=>some [RV.d (.sl (.int .u32)) r0,RV.d (.sl (.int .u32)) ([IntKind.u32.wrap s7])]
theorem vP(a:List Int)(b:Int)(s7:Int)(s8:Int)(r0:List Int){rX:List RV}(hX:∃nX,jA (vz.k nX) a b s7 s8 r0=some rX):vz.Runs 10 (mq a b s7 s8 r0) rX:=em (t:=fun k=>jA k a b s7 s8 r0) (fun k=>show go2 Tryz.prog ft tys [] HC k 4000 {mq a b s7 s8 r0 with K:=.lp 10::(mq a b s7 s8 r0).K} (.node 11)=jA k a b s7 s8 r0 by kernel_rfl) hX
theorem ij{b:List Int}{i:Nat}(h:b.length≤i):b.take (i+1)=b.take i:=by rw[List.take_of_length_le (by omega),List.take_of_length_le h]
theorem oP{n:Nat}(h:n≤4000000000):decide ((0:Int)≤(n:Int)∧(n:Int)*((4:Nat):Int)≤140737488355328∧(n:Int)≤140737488355328)=true:=decide_eq_true ⟨by omega,by omega,by omega⟩
theorem ST{m:Nat}(h:m≤4000000000):decide ((m+1)*4≤140737488355328∧m+1≤140737488355328)=true:=decide_eq_true ⟨by omega,by omega⟩
theorem DL(a b:List Int)(ha:a8 a)(hb:a8 b)(hab:b.length≤a.length):∀(j i:Nat) (c:Int) (r:List Int),i+j=a.length→0≤c→c≤1→Lim r→r.length=i→val r+pw i*c=val (a.take i)+val (b.take i)→
  tU.Runs 16 (fD b a (a.length:Int) c (i:Int) r) [.new 183 (.int .u32) (dig (a.length+1) (val a+val b))]:=by
 have hsa:=ha.2
 intro j
 induction j with
 |zero=>
  intro i c r hi c0 c1 hr hl hv
  obtain rfl:i=a.length:=by omega
  refine jo _ _ _ _ _ _ ⟨0,?_⟩
  unfold fh
  rw[cN (Nat.le_refl _)]
  simp only[List.length_singleton]
  rw[ST (by omega)]
  have e:r++[c]=dig (a.length+1) (val a+val b):=by
   refine AI (hr.append (Lim.cons ⟨c0,by omega⟩ Lim.nil)) (by simp[hl]) ?_
   rw[cT,hl]
   rw[List.take_length,List.take_of_length_le hab]at hv
   simp only[val,Int.mul_zero,Int.add_zero]
   omega
  rw[e]
 |succ j ih=>
  intro i c r hi c0 c1 hr hl hv
  have hia:i<a.length:=by omega
  have xa:=ha.1.get hia
  have hp:=bR i
  have step:∀(y c':Int),0≤y→y<1000000000→0≤c'→c'≤1→val (b.take (i+1))=val (b.take i)+pw i*(y+1000000000*c'-a[i]-c)→tU.Runs 16 (fD b a (a.length:Int) c' ((i+1:Nat):Int) (r++[y])) [.new 183 (.int .u32) (dig (a.length+1) (val a+val b))]:=by
   intro y c' y0 y1 k0 k1 hb'
   refine ih (i+1) c' (r++[y]) (by omega) k0 k1 (hr.append (Lim.cons ⟨y0,y1⟩ Lim.nil)) (by simp[hl]) ?_
   rw[cT,hl,bi hia,hb',bZ]
   simp only[val]
   grind
  by_cases hib:i<b.length
  ·have xb:=hb.1.get hib
   have ht:=bi hib
   by_cases hc:a[i]+c+b[i]≥1000000000
   ·obtain⟨q,hq⟩:=step (a[i]+c+b[i]-1000000000) 1 (by omega) (by omega) (by omega) (by omega) (by rw[ht];grind)
    refine jo _ _ _ _ _ _ ⟨q,?_⟩
    unfold fh
    rw[ct hia,aB,List.getElem?_eq_getElem hia,ct hib,aB,List.getElem?_eq_getElem hib]
    dsimp only
    rw[cG (x:=a[i]+c) (by omega) (by omega),cG (x:=a[i]+c+b[i]) (by omega) (by omega),decide_eq_true hc,cG (x:=a[i]+c+b[i]-1000000000) (by omega) (by omega),cI (by omega)]
    simp only[List.length_singleton]
    rw[ST (by omega)]
    exact hq
   ·obtain⟨q,hq⟩:=step (a[i]+c+b[i]) 0 (by omega) (by omega) (by omega) (by omega) (by rw[ht];grind)
    refine jo _ _ _ _ _ _ ⟨q,?_⟩
    unfold fh
    rw[ct hia,aB,List.getElem?_eq_getElem hia,ct hib,aB,List.getElem?_eq_getElem hib]
    dsimp only
    rw[cG (x:=a[i]+c) (by omega) (by omega),cG (x:=a[i]+c+b[i]) (by omega) (by omega),decide_eq_false hc,cI (by omega)]
    simp only[List.length_singleton]
    rw[ST (by omega)]
    exact hq
  ·have ht:=ij (b:=b) (i:=i) (by omega)
   by_cases hc:a[i]+c≥1000000000
   ·obtain⟨q,hq⟩:=step (a[i]+c-1000000000) 1 (by omega) (by omega) (by omega) (by omega) (by rw[ht];grind)
    refine jo _ _ _ _ _ _ ⟨q,?_⟩
    unfold fh
    rw[ct hia,aB,List.getElem?_eq_getElem hia,cN (show b.length≤i by omega)]
    dsimp only
    rw[cG (x:=a[i]+c) (by omega) (by omega),decide_eq_true hc,cG (x:=a[i]+c-1000000000) (by omega) (by omega),cI (by omega)]
    simp only[List.length_singleton]
    rw[ST (by omega)]
    exact hq
   ·obtain⟨q,hq⟩:=step (a[i]+c) 0 (by omega) (by omega) (by omega) (by omega) (by rw[ht];grind)
    refine jo _ _ _ _ _ _ ⟨q,?_⟩
    unfold fh
    rw[ct hia,aB,List.getElem?_eq_getElem hia,cN (show b.length≤i by omega)]
    dsimp only
    rw[cG (x:=a[i]+c) (by omega) (by omega),decide_eq_false hc,cI (by omega)]
    simp only[List.length_singleton]
    rw[ST (by omega)]
    exact hq
theorem Xh(a b:List Int)(h:a8 a∧a8 b):Con Tryz.prog 263 [.d (.sl (.int .u32)) a,.d (.sl (.int .u32)) b] [.new 183 (.int .u32) (dig (max a.length b.length+1) (val a+val b))]:=by
 refine Ctx.Res.con (C:=tU) (au (E:=[]) trivial) ?_ (fn:=Tryz.f263) (by kernel_rfl) (by kernel_rfl)
 obtain⟨ha,hb⟩:=h
 have hsa:=ha.2
 have hsb:=hb.2
 have mk:∀n:Nat,n≤1000000000→decide ((0:Int)=0∧(0:Int)≤IntKind.i64.wrap ((n:Int)+1)∧IntKind.i64.wrap ((n:Int)+1)*((4:Nat):Int)≤140737488355328∧IntKind.i64.wrap ((n:Int)+1)≤140737488355328)=true:=fun n hn=>by
  rw[cI (by omega)]
  exact decide_eq_true ⟨rfl,by omega,by omega,by omega⟩
 by_cases hc:a.length<b.length
 ·obtain⟨q,hq⟩:=DL b a hb ha (by omega) b.length 0 0 [] (by omega) (by omega) (by omega) Lim.nil rfl (by simp[val])
  refine Zy _ _ ⟨q,?_⟩
  unfold Dv
  rw[ct hc,mk _ hsb,Nat.max_eq_right (by omega),Int.add_comm (val a)]
  exact hq
 ·obtain⟨q,hq⟩:=DL a b ha hb (by omega) a.length 0 0 [] (by omega) (by omega) (by omega) Lim.nil rfl (by simp[val])
  refine Zy _ _ ⟨q,?_⟩
  unfold Dv
  rw[cN (by omega),mk _ hsa,Nat.max_eq_left (by omega)]
  exact hq
theorem l7{r:List Int}{i:Nat}{y:Int}(hz:∀j (hj:j<r.length),i≤j→r[j]=0):∀j (hj:j<(r.set i y).length),i+1≤j→(r.set i y)[j]=0:=fun j hj hk=>by
 rw[List.getElem_set_ne (by omega)]
 exact hz j (by simpa using hj) (by omega)
theorem Rb(a b:List Int)(ha:a8 a)(hb:a8 b)(hle:val b≤val a)(_hab:b.length≤a.length∨True):∀(j i:Nat) (c:Int) (r:List Int),i+j=a.length→0≤c→c≤1→Lim r→r.length=a.length→(∀k (hk:k<r.length),i≤k→r[k]=0)→val r+val (b.take i)=val (a.take i)+pw i*c→
  tF.Runs 10 (gk a b c (i:Int) r) [.new 183 (.int .u32) (dig a.length (val a-val b))]:=by
 have hsa:=ha.2
 intro j
 induction j with
 |zero=>
  intro i c r hi c0 c1 hr hl hz hv
  obtain rfl:i=a.length:=by omega
  refine kg _ _ _ _ _ ⟨0,?_⟩
  unfold fi
  rw[cN (Nat.le_refl _)]
  have hrl:=bQ hr
  rw[hl]at hrl
  have hb2:val b=val (b.take a.length)+pw (min a.length b.length)*val (b.drop a.length):=eu b a.length
  have hbd:0≤val (b.drop a.length):=aY (hb.1.drop _)
  have hal:=bQ ha.1
  have hbt:=aY (hb.1.take a.length)
  rw[List.take_length]at hv
  have hz0:val (b.drop a.length)=0:=by
   rcases Nat.lt_or_ge a.length b.length with h1|h1
   ·rw[Nat.min_eq_left (by omega)]at hb2
    rcases Int.lt_or_le 0 (val (b.drop a.length))with h2|h2
    ·have hp:=bR a.length
     have:=Int.mul_le_mul_of_nonneg_left (show 1≤val (b.drop a.length) by omega) (Int.le_of_lt hp)
     omega
    ·omega
   ·rw[List.drop_eq_nil_of_le h1];rfl
  rw[hz0,Int.mul_zero,Int.add_zero]at hb2
  have hc0:c=0:=by
   have hp:=bR a.length
   rcases(show c=0∨c=1 by omega)with h|h
   ·exact h
   ·subst h;rw[Int.mul_one]at hv;omega
  subst hc0
  rw[Int.mul_zero]at hv
  rw[←AI hr hl (show val r=val a-val b by omega)]
 |succ j ih=>
  intro i c r hi c0 c1 hr hl hz hv
  have hia:i<a.length:=by omega
  have hir:i<r.length:=by omega
  have xa:=ha.1.get hia
  have hr0:=hz i hir (Nat.le_refl _)
  have step:∀(y c':Int),0≤y→y<1000000000→0≤c'→c'≤1→val (b.take (i+1))=val (b.take i)+pw i*(a[i]+1000000000*c'-y-c)→tF.Runs 10 (gk a b c' ((i+1:Nat):Int) (r.set i y)) [.new 183 (.int .u32) (dig a.length (val a-val b))]:=by
   intro y c' y0 y1 k0 k1 hb'
   refine ih (i+1) c' (r.set i y) (by omega) k0 k1 (hr.set i ⟨y0,y1⟩) (by simpa using hl) (l7 hz) ?_
   rw[dN hir,hr0,bi hia,hb',bZ]
   grind
  by_cases hib:i<b.length
  ·have xb:=hb.1.get hib
   have ht:=bi hib
   by_cases hc:a[i]<c+b[i]
   ·obtain⟨q,hq⟩:=step (a[i]+1000000000-(c+b[i])) 1 (by omega) (by omega) (by omega) (by omega) (by rw[ht];grind)
    refine kg _ _ _ _ _ ⟨q,?_⟩
    unfold fi
    rw[ct hia,aB,List.getElem?_eq_getElem hia,ct hib,aB,List.getElem?_eq_getElem hib,aB,aM,List.getElem?_eq_getElem hir]
    dsimp only
    rw[cG (x:=c+b[i]) (by omega) (by omega),decide_eq_true hc,cG (x:=a[i]+1000000000) (by omega) (by omega),cG (x:=a[i]+1000000000-(c+b[i])) (by omega) (by omega),cI (by omega)]
    exact hq
   ·obtain⟨q,hq⟩:=step (a[i]-(c+b[i])) 0 (by omega) (by omega) (by omega) (by omega) (by rw[ht];grind)
    refine kg _ _ _ _ _ ⟨q,?_⟩
    unfold fi
    rw[ct hia,aB,List.getElem?_eq_getElem hia,ct hib,aB,List.getElem?_eq_getElem hib,aB,aM,List.getElem?_eq_getElem hir]
    dsimp only
    rw[cG (x:=c+b[i]) (by omega) (by omega),decide_eq_false hc,cG (x:=a[i]-(c+b[i])) (by omega) (by omega),cI (by omega)]
    exact hq
  ·have ht:=ij (b:=b) (i:=i) (by omega)
   by_cases hc:a[i]<c
   ·obtain⟨q,hq⟩:=step (a[i]+1000000000-c) 1 (by omega) (by omega) (by omega) (by omega) (by rw[ht];grind)
    refine kg _ _ _ _ _ ⟨q,?_⟩
    unfold fi
    rw[ct hia,aB,List.getElem?_eq_getElem hia,cN (show b.length≤i by omega),aB r i,aM,List.getElem?_eq_getElem hir]
    dsimp only
    rw[decide_eq_true hc,cG (x:=a[i]+1000000000) (by omega) (by omega),cG (x:=a[i]+1000000000-c) (by omega) (by omega),cI (by omega)]
    exact hq
   ·obtain⟨q,hq⟩:=step (a[i]-c) 0 (by omega) (by omega) (by omega) (by omega) (by rw[ht];grind)
    refine kg _ _ _ _ _ ⟨q,?_⟩
    unfold fi
    rw[ct hia,aB,List.getElem?_eq_getElem hia,cN (show b.length≤i by omega),aB r i,aM,List.getElem?_eq_getElem hir]
    dsimp only
    rw[decide_eq_false hc,cG (x:=a[i]-c) (by omega) (by omega),cI (by omega)]
    exact hq
def kK(a b:List Int):Prop:=a8 a∧a8 b∧val b≤val a
instance (a b:List Int):Decidable (kK a b):=by unfold kK;infer_instance
theorem V2(a b:List Int)(h:kK a b):Con Tryz.prog 264 [.d (.sl (.int .u32)) a,.d (.sl (.int .u32)) b] [.new 183 (.int .u32) (dig a.length (val a-val b))]:=by
 refine Ctx.Res.con (C:=tF) (au (E:=[]) trivial) ?_ (fn:=Tryz.f264) (by kernel_rfl) (by kernel_rfl)
 obtain⟨ha,hb,hle⟩:=h
 have hsa:=ha.2
 obtain⟨q,hq⟩:=Rb a b ha hb hle (.inr trivial) a.length 0 0 (List.replicate a.length 0) (by omega) (by omega) (by omega) (Lim.rep _) (by simp) (fun k hk _=>by simp) (by simp[val,eU])
 refine aei _ _ ⟨q,?_⟩
 unfold Ji
 rw[oP (by omega),aM]
 exact hq
theorem GN{r x y c:Int}(hr:0≤r∧r<1000000000)(hx:0≤x∧x<1000000000)(hy:0≤y∧y<1000000000)(hc:0≤c∧c<1000000000):0≤x*y∧x*y≤999999998000000001∧0≤(r+x*y+c)/1000000000∧(r+x*y+c)/1000000000<1000000000:=by
 have h1:0≤x*y:=Int.mul_nonneg hx.1 hy.1
 have h2:x*y≤999999999*999999999:=Int.mul_le_mul (by omega) (by omega) hy.1 (by decide)
 omega
theorem Mw(a b:List Int)(ha:a8 a)(hb:a8 b)(i:Nat)(hi:i<a.length)
  (hout:∀r,Lim r→r.length=a.length+b.length→(∀k (hk:k<r.length),i+1+b.length≤k→r[k]=0)→val r=val (a.take (i+1))*val b→m4.Runs 8 (nG a b ((i+1:Nat):Int) r) [.new 183 (.int .u32) (dig (a.length+b.length) (val a*val b))]):
  ∀(j k:Nat) (c:Int) (r:List Int),k+j=b.length→0≤c→c<1000000000→Lim r→r.length=a.length+b.length→(∀q (hq:q<r.length),i+b.length≤q→r[q]=0)→val r+pw (i+k)*c=val (a.take i)*val b+pw i*a[i]*val (b.take k)→
  m4.Runs 25 (mU a b (i:Int) a[i] c (k:Int) r) [.new 183 (.int .u32) (dig (a.length+b.length) (val a*val b))]:=by
 have hsa:=ha.2
 have hsb:=hb.2
 have xa:=ha.1.get hi
 intro j
 induction j with
 |zero=>
  intro k c r hk c0 c1 hr hl hz hv
  obtain rfl:k=b.length:=by omega
  have hir:i+b.length<r.length:=by omega
  have hr0:=hz _ hir (Nat.le_refl _)
  obtain⟨q,hq⟩:=hout (r.set (i+b.length) c) (hr.set _ ⟨c0,c1⟩) (by simpa using hl) (by rw[show i+1+b.length=i+b.length+1 by omega];exact l7 hz) (by
   rw[dN hir,hr0,bi hi]
   rw[List.take_length]at hv
   grind)
  refine ve _ _ _ _ _ _ _ ⟨q,?_⟩
  have hw:IntKind.i64.wrap ((i:Int)+(b.length:Int))=((i+b.length:Nat):Int):=by rw[bk (by omega) (by omega)];simp
  unfold jK
  rw[cN (Nat.le_refl _),hw,aB r (i+b.length),aM,List.getElem?_eq_getElem hir,cG (x:=c) (by omega) (by omega),cI (k:=i) (by omega)]
  exact hq
 |succ j ih=>
  intro k c r hk c0 c1 hr hl hz hv
  have hkb:k<b.length:=by omega
  have hir:i+k<r.length:=by omega
  have xb:=hb.1.get hkb
  have xr:=hr.get hir
  have hbd:=GN xr xa xb ⟨c0,c1⟩
  obtain⟨q,hq⟩:=ih (k+1) ((r[i+k]+a[i]*b[k]+c)/1000000000) (r.set (i+k) ((r[i+k]+a[i]*b[k]+c)%1000000000)) (by omega) hbd.2.2.1 hbd.2.2.2 (hr.set _ (by omega)) (by simpa using hl)
   (fun m hm hq=>by rw[List.getElem_set_ne (by omega)];exact hz m (by simpa using hm) hq) (by
    rw[dN hir,bi hkb,show i+(k+1)=i+k+1 by omega,bZ,dV]
    rw[dV]at hv
    have e:=Int.emod_add_mul_ediv (r[i+k]+a[i]*b[k]+c) 1000000000
    grind)
  refine ve _ _ _ _ _ _ _ ⟨q,?_⟩
  have hw:IntKind.i64.wrap ((i:Int)+(k:Int))=((i+k:Nat):Int):=by rw[bk (by omega) (by omega)];simp
  unfold jK
  rw[ct hkb,aB b k,List.getElem?_eq_getElem hkb,hw,aB r (i+k),aM,List.getElem?_eq_getElem hir]
  dsimp only
  rw[bz (x:=r[i+k]) (by omega) (by omega),bz (x:=a[i]) (by omega) (by omega),bz (x:=b[k]) (by omega) (by omega),bz (x:=a[i]*b[k]) (by omega) (by omega),bz (x:=r[i+k]+a[i]*b[k]) (by omega) (by omega),bz (x:=r[i+k]+a[i]*b[k]+c) (by omega) (by omega),eN (a:=r[i+k]+a[i]*b[k]+c) (by omega),gJ (a:=r[i+k]+a[i]*b[k]+c) (by omega),bz (x:=(r[i+k]+a[i]*b[k]+c)/1000000000) (by omega) (by omega),cG (x:=(r[i+k]+a[i]*b[k]+c)%1000000000) (by omega) (by omega),cI (k:=k) (by omega)]
  exact hq
theorem LH(a b:List Int)(ha:a8 a)(hb:a8 b):∀(j i:Nat) (r:List Int),i+j=a.length→Lim r→r.length=a.length+b.length→(∀k (hk:k<r.length),i+b.length≤k→r[k]=0)→val r=val (a.take i)*val b→
  m4.Runs 8 (nG a b (i:Int) r) [.new 183 (.int .u32) (dig (a.length+b.length) (val a*val b))]:=by
 have hsa:=ha.2
 intro j
 induction j with
 |zero=>
  intro i r hi hr hl hz hv
  obtain rfl:i=a.length:=by omega
  refine Dh _ _ _ _ ⟨0,?_⟩
  unfold lA
  rw[List.take_length]at hv
  rw[cN (Nat.le_refl _),←AI hr hl hv]
 |succ j ih=>
  intro i r hi hr hl hz hv
  have hia:i<a.length:=by omega
  obtain⟨q,hq⟩:=Mw a b ha hb i hia (fun r' h1 h2 h3 h4=>ih (i+1) r' (by omega) h1 h2 h3 h4) b.length 0 0 r (by omega) (by omega) (by omega) hr hl hz (by simp[val,hv])
  refine Dh _ _ _ _ ⟨q,?_⟩
  unfold lA
  rw[ct hia,aB,List.getElem?_eq_getElem hia]
  exact hq
theorem XS(a b:List Int)(h:a8 a∧a8 b):Con Tryz.prog 248 [.d (.sl (.int .u32)) a,.d (.sl (.int .u32)) b] [.new 183 (.int .u32) (dig (a.length+b.length) (val a*val b))]:=by
 refine Ctx.Res.con (C:=m4) (au (E:=[]) trivial) ?_ (fn:=Tryz.f248) (by kernel_rfl) (by kernel_rfl)
 obtain⟨ha,hb⟩:=h
 have hsa:=ha.2
 have hsb:=hb.2
 obtain⟨q,hq⟩:=LH a b ha hb a.length 0 (List.replicate (a.length+b.length) 0) (by omega) (Lim.rep _) (by simp) (fun k hk _=>by simp) (by simp[val,eU])
 refine adM _ _ ⟨q,?_⟩
 have hw:IntKind.i64.wrap ((a.length:Int)+(b.length:Int))=((a.length+b.length:Nat):Int):=by rw[bk (by omega) (by omega)];simp
 unfold H9
 rw[hw,oP (by omega),aM]
 exact hq
theorem OP(a:List Int)(b:Int)(ha:a8 a)(hb:1≤b∧b<1000000000):∀(n:Nat) (c:Int) (r:List Int),n≤a.length→0≤c→c<b→Lim r→r.length=a.length→(∀k (hk:k<r.length),k<n→r[k]=0)→b*val r+pw n*c+val (a.take n)=val a→
  vz.Runs 10 (mq a b c ((n:Int)-1) r) [.d (.sl (.int .u32)) (dig a.length (val a/b)),.d (.sl (.int .u32)) [val a%b]]:=by
 have hsa:=ha.2
 intro n
 induction n with
 |zero=>
  intro c r hn c0 c1 hr hl hz hv
  simp only[kr,List.take_zero,val,Int.one_mul,Int.add_zero]at hv
  have e1:val a%b=c:=by
   rw[←hv,Int.add_comm,Int.add_mul_emod_self_left]
   exact Int.emod_eq_of_lt c0 c1
  have e2:val a/b=val r:=by
   rw[←hv,Int.add_comm,Int.add_mul_ediv_left _ _ (by omega),Int.ediv_eq_zero_of_lt c0 c1]
   omega
  refine vP _ _ _ _ _ ⟨0,?_⟩
  unfold jA
  rw[decide_eq_false (by omega),e1,e2,←AI hr hl rfl,cG (x:=c) (by omega) (by omega)]
 |succ n ih=>
  intro c r hn c0 c1 hr hl hz hv
  have hna:n<a.length:=by omega
  have hnr:n<r.length:=by omega
  have xa:=ha.1.get hna
  have hr0:=hz n hnr (by omega)
  have hcb:0≤c*1000000000+a[n]:=by omega
  have m0:=Int.emod_nonneg (c*1000000000+a[n]) (show b≠0 by omega)
  have m1:=Int.emod_lt_of_pos (c*1000000000+a[n]) (show 0<b by omega)
  have md:=Int.mul_ediv_add_emod (c*1000000000+a[n]) b
  have d0:0≤(c*1000000000+a[n])/b:=Int.ediv_nonneg hcb (by omega)
  have d1:(c*1000000000+a[n])/b<1000000000:=by
   refine Int.ediv_lt_of_lt_mul (by omega) ?_
   have:=Int.mul_le_mul_of_nonneg_right (show c+1≤b by omega) (show(0:Int)≤1000000000 by decide)
   rw[Int.mul_comm 1000000000 b]
   omega
  obtain⟨q,hq⟩:=ih ((c*1000000000+a[n])%b) (r.set n ((c*1000000000+a[n])/b)) (by omega) m0 m1 (hr.set n ⟨d0,d1⟩) (by simpa using hl)
   (fun k hk hkn=>by rw[List.getElem_set_ne (by omega)];exact hz k (by simpa using hk) (by omega)) (by
    rw[dN hnr,hr0]
    rw[bi hna,bZ]at hv
    grind)
  refine vP _ _ _ _ _ ⟨q,?_⟩
  unfold jA
  rw[show((n+1:Nat):Int)-1=(n:Int) by omega,decide_eq_true (by omega),aB a n,List.getElem?_eq_getElem hna,bz (x:=b) (by omega) (by omega),decide_eq_false (show ¬b=0 by omega),aB r n,aM,List.getElem?_eq_getElem hnr]
  dsimp only
  rw[bz (x:=c*1000000000) (by omega) (by omega),bz (x:=a[n]) (by omega) (by omega),bz (x:=c*1000000000+a[n]) (by omega) (by omega),eN hcb,gJ hcb,bz (x:=(c*1000000000+a[n])/b) (by omega) (by omega),cG (x:=(c*1000000000+a[n])/b) (by omega) (by omega),bk (x:=(n:Int)-1) (by omega) (by omega)]
  exact hq
def C3(a:List Int)(b:Int):Prop:=a8 a∧1≤b∧b<1000000000
instance (a:List Int) (b:Int):Decidable (C3 a b):=by unfold C3;infer_instance
theorem Yp(a:List Int)(b:Int)(h:C3 a b):Con Tryz.prog 298 [.d (.sl (.int .u32)) a,.d (.int .u32) b] [.d (.sl (.int .u32)) (dig a.length (val a/b)),.d (.sl (.int .u32)) [val a%b]]:=by
 refine Ctx.Res.con (C:=vz) (au (E:=[]) trivial) ?_ (fn:=Tryz.f298) (by kernel_rfl) (by kernel_rfl)
 obtain⟨ha,hb⟩:=h
 have hsa:=ha.2
 obtain⟨q,hq⟩:=OP a b ha hb a.length 0 (List.replicate a.length 0) (Nat.le_refl _) (by omega) (by omega) (Lim.rep _) (by simp) (fun k hk _=>by simp) (by simp[eU])
 refine acL _ _ ⟨q,?_⟩
 unfold Lw
 rw[oP (by omega),aM,bk (x:=(a.length:Int)-1) (by omega) (by omega)]
 exact hq
end Go.Proofs.YtlahabkjhgkkjaaGreat
