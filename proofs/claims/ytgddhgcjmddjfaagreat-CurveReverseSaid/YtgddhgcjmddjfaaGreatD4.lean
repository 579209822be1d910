/- The pure machine and the machine: control. -/
import Derived.Test.YtgddhgcjmddjfaaGreatD3
noncomputable section
namespace Go.Proofs.YtgddhgcjmddjfaaGreat
open Go.RowKit Go.IntKind
theorem ave:type_of% @Classical.byContradiction:=@Classical.byContradiction
theorem avh:type_of% @List.pairwise_cons:=@List.pairwise_cons
theorem avx:type_of% @List.getElem?_cons_succ:=@List.getElem?_cons_succ
theorem avR:type_of% @List.mem_singleton:=@List.mem_singleton
theorem awa:type_of% @List.getElem?_set_ne:=@List.getElem?_set_ne
theorem awb:type_of% @List.mem_append_left:=@List.mem_append_left
theorem awc:type_of% @List.mem_map:=@List.mem_map
theorem awj:type_of% @List.length_map:=@List.length_map
theorem awE:type_of% @List.getElem?_set_self:=@List.getElem?_set_self
theorem awY:type_of% @List.mem_append_right:=@List.mem_append_right
theorem aw5:type_of% @Bool.or_eq_false_iff:=@Bool.or_eq_false_iff
theorem axd:type_of% @List.getElem_of_mem:=@List.getElem_of_mem
theorem axe:type_of% @List.all_cons:=@List.all_cons
theorem axr:type_of% @Nat.beq_refl:=@Nat.beq_refl
theorem axC:type_of% @List.drop_eq_nil_iff:=@List.drop_eq_nil_iff
theorem axJ:type_of% @Nat.sub_zero:=@Nat.sub_zero
theorem axP:type_of% @List.set_append:=@List.set_append
theorem ax2:type_of% @List.mem_range:=@List.mem_range
section
def InLoop(P:Program)(c:Code)(Q:Exit→Act→World→Prop)(a:Act)(w:World):Prop:=
 ∀(b:Frame) (k:List Go.Item) (cs:List Frame),∃e a' w',Q e a' w'∧Arrives P (lone (b.at a (.code c:: .inLoop c::k)) cs w) b k cs e a' w'
section
variable {P:Program} {c:Code} {Q:Exit→Act→World→Prop} {a:Act} {w:World}
theorem InLoop.wp(h:InLoop P c Q a w):(Code.loop c).wp P Q a w:=by
 intro b k cs
 obtain⟨e,a',w',hq,harr⟩:=h b k cs
 exact⟨e,a',w',hq,.of_steps (.one step_loop) harr⟩
theorem InLoop.step(h:c.wp P (Exit.then (InLoop P c Q) Q) a w):InLoop P c Q a w:=by
 intro b k cs
 obtain⟨e,a₁,w₁,hq,harr⟩:=h b (.inLoop c::k) cs
 cases e with
 |normal=>
  obtain⟨e₂,a₂,w₂,hq₂,harr₂⟩:=hq b k cs
  exact⟨e₂,a₂,w₂,hq₂,.of_steps (Steps.trans harr (.one step_inLoop)) harr₂⟩
 |exit id=>exact⟨_,a₁,w₁,hq,.pass (x:=.inLoop c) rfl (fun _ _=>.inl (by simp)) harr⟩
 |goto l=>exact⟨_,a₁,w₁,hq,.pass (x:=.inLoop c) rfl (fun _ _=>.inl (by simp)) harr⟩
 |ret=>exact⟨_,a₁,w₁,hq,.pass (x:=.inLoop c) rfl (fun _ _=>.inl (by simp)) harr⟩
 |panic ch=>exact⟨_,a₁,w₁,hq,.pass (x:=.inLoop c) rfl (fun _ _=>.inl (by simp)) harr⟩
 |outgrown=>exact⟨_,a₁,w₁,hq,.pass (x:=.inLoop c) rfl (fun _ _=>.inl (by simp)) harr⟩
end
theorem mr:∀c:Code,0<Code.size c:=by intro c;cases c<;>simp[Code.size]
theorem Vb:∀(B:Code) (i:Nat),Code.size B≤i→nth B i=.skip:=by
 intro B
 induction B with
 |seq a b iha ihb=>
  intro i h
  simp only[Code.size]at h
  cases i with
  |zero=>omega
  |succ i=>
   simp only[nth]
   split
   ·rename_i hb;have:=auZ hb;omega
   ·exact ihb _ (by omega)
 |cond x a b iha ihb=>
  intro i h
  simp only[Code.size]at h
  cases i with
  |zero=>omega
  |succ i=>
   simp only[nth]
   split
   ·rename_i hb;have:=auZ hb;omega
   ·exact ihb _ (by omega)
 |block id c ih=>intro i h;simp only[Code.size]at h;cases i with|zero=>omega|succ i=>exact ih _ (by omega)
 |loop c ih=>intro i h;simp only[Code.size]at h;cases i with|zero=>omega|succ i=>exact ih _ (by omega)
 |scope c ih=>intro i h;simp only[Code.size]at h;cases i with|zero=>omega|succ i=>exact ih _ (by omega)
 |_=>intro i h;simp only[Code.size]at h;cases i with|zero=>omega|succ i=>rfl
theorem KD(a b:Code)(i:Nat):(match Nat.ble (i+1) (Code.size a)with|true=>nth a i|false=>nth b (i-Code.size a))=if i<Code.size a then nth a i else nth b (i-Code.size a):=by
 by_cases h:i<Code.size a
 ·rw[avn h,avp h]
 ·rw[avf h]
  cases hb:Nat.ble (i+1) (Code.size a)with
  |true=>exact absurd (auZ hb) (by omega)
  |false=>rfl
theorem dD(c:Code):nth c 0=c:=by cases c<;>rfl
theorem tn(a b:Code)(i:Nat):nth (.seq a b) (i+1)=if i<Code.size a then nth a i else nth b (i-Code.size a):=KD a b i
theorem pS(x:Operand)(a b:Code)(i:Nat):nth (.cond x a b) (i+1)=if i<Code.size a then nth a i else nth b (i-Code.size a):=KD a b i
theorem Cu:∀(B:Code) (i:Nat),i<Code.size B→i+Code.size (nth B i)≤Code.size B:=by
 intro B
 induction B with
 |seq a b iha ihb=>
  intro i h
  cases i with
  |zero=>rw[dD];omega
  |succ i=>
   rw[tn]
   simp only[Code.size]at h ⊢
   split
   ·rename_i hi;have:=iha i hi;omega
   ·have:=ihb (i-Code.size a) (by omega);omega
 |cond x a b iha ihb=>
  intro i h
  cases i with
  |zero=>rw[dD];omega
  |succ i=>
   rw[pS]
   simp only[Code.size]at h ⊢
   split
   ·rename_i hi;have:=iha i hi;omega
   ·have:=ihb (i-Code.size a) (by omega);omega
 |block id c ih=>intro i h;cases i with|zero=>rw[dD];omega|succ i=>simp only[Code.size]at h ⊢;have:=ih i (by omega);simp only[nth];omega
 |loop c ih=>intro i h;cases i with|zero=>rw[dD];omega|succ i=>simp only[Code.size]at h ⊢;have:=ih i (by omega);simp only[nth];omega
 |scope c ih=>intro i h;cases i with|zero=>rw[dD];omega|succ i=>simp only[Code.size]at h ⊢;have:=ih i (by omega);simp only[nth];omega
 |_=>intro i h;cases i with|zero=>rw[dD];omega|succ i=>simp only[Code.size]at h;omega
theorem vY:∀(B:Code) (i:Nat),i<Code.size B→∀j,j<Code.size (nth B i)→nth B (i+j)=nth (nth B i) j:=by
 intro B
 induction B with
 |seq a b iha ihb=>
  intro i h j hj
  cases i with
  |zero=>rw[dD,avw]
  |succ i=>
   rw[tn]at hj ⊢
   rw[show i+1+j=(i+j)+1 by omega,tn]
   simp only[Code.size]at h
   split at hj
   ·rename_i hi
    have:=Cu a i hi
    rw[avn hi,avn (by omega)]
    exact iha i hi j hj
   ·rename_i hi
    rw[avf hi,avf (by omega),show i+j-Code.size a=(i-Code.size a)+j by omega]
    exact ihb (i-Code.size a) (by omega) j hj
 |cond x a b iha ihb=>
  intro i h j hj
  cases i with
  |zero=>rw[dD,avw]
  |succ i=>
   rw[pS]at hj ⊢
   rw[show i+1+j=(i+j)+1 by omega,pS]
   simp only[Code.size]at h
   split at hj
   ·rename_i hi
    have:=Cu a i hi
    rw[avn hi,avn (by omega)]
    exact iha i hi j hj
   ·rename_i hi
    rw[avf hi,avf (by omega),show i+j-Code.size a=(i-Code.size a)+j by omega]
    exact ihb (i-Code.size a) (by omega) j hj
 |block id c ih=>intro i h j hj;cases i with|zero=>rw[dD,avw]|succ i=>simp only[Code.size]at h;rw[show i+1+j=(i+j)+1 by omega];exact ih i (by omega) j hj
 |loop c ih=>intro i h j hj;cases i with|zero=>rw[dD,avw]|succ i=>simp only[Code.size]at h;rw[show i+1+j=(i+j)+1 by omega];exact ih i (by omega) j hj
 |scope c ih=>intro i h j hj;cases i with|zero=>rw[dD,avw]|succ i=>simp only[Code.size]at h;rw[show i+1+j=(i+j)+1 by omega];exact ih i (by omega) j hj
 |_=>intro i h j hj;cases i with|zero=>rw[dD,avw]|succ i=>simp only[Code.size]at h;omega
theorem DH{B:Code}{i:Nat}(h:nth B i≠.skip):i<Code.size B:=by
 rcases avo i (Code.size B)with hlt|hge
 ·exact hlt
 ·exact absurd (Vb B i hge) h
theorem acg{B:Code}{i:Nat}{a b:Code}(h:nth B i=.seq a b):nth B i=.seq (nth B (i+1)) (nth B (i+1+Code.size a)):=by
 have hlt:=DH (B:=B) (i:=i) (by rw[h];simp)
 have ha:=mr a
 have hb:=mr b
 have h1:=vY B i hlt 1 (by rw[h];simp only[Code.size];omega)
 have h2:=vY B i hlt (1+Code.size a) (by rw[h];simp only[Code.size];omega)
 rw[h,show(1:Nat)=0+1 from rfl,tn,avn ha,dD]at h1
 rw[h,show 1+Code.size a=Code.size a+1 by omega,tn,avf (by omega),awr,dD]at h2
 rw[h,h1,show i+1+Code.size a=i+(Code.size a+1) by omega,h2]
theorem V4{B:Code}{i:Nat}{x:Operand}{a b:Code}(h:nth B i=.cond x a b):nth B i=.cond x (nth B (i+1)) (nth B (i+1+Code.size a)):=by
 have hlt:=DH (B:=B) (i:=i) (by rw[h];simp)
 have ha:=mr a
 have hb:=mr b
 have h1:=vY B i hlt 1 (by rw[h];simp only[Code.size];omega)
 have h2:=vY B i hlt (1+Code.size a) (by rw[h];simp only[Code.size];omega)
 rw[h,show(1:Nat)=0+1 from rfl,pS,avn ha,dD]at h1
 rw[h,show 1+Code.size a=Code.size a+1 by omega,pS,avf (by omega),awr,dD]at h2
 rw[h,h1,show i+1+Code.size a=i+(Code.size a+1) by omega,h2]
theorem Pb{B:Code}{i id:Nat}{c:Code}(h:nth B i=.block id c):nth B i=.block id (nth B (i+1)):=by
 have hlt:=DH (B:=B) (i:=i) (by rw[h];simp)
 have hc:=mr c
 have h1:=vY B i hlt 1 (by rw[h];simp only[Code.size];omega)
 rw[h]at h1
 rw[h,h1]
 show _=Code.block id (nth c 0)
 rw[dD]
theorem Xw{B:Code}{i:Nat}{c:Code}(h:nth B i=.loop c):nth B i=.loop (nth B (i+1)):=by
 have hlt:=DH (B:=B) (i:=i) (by rw[h];simp)
 have hc:=mr c
 have h1:=vY B i hlt 1 (by rw[h];simp only[Code.size];omega)
 rw[h]at h1
 rw[h,h1]
 show _=Code.loop (nth c 0)
 rw[dD]
end
section
theorem Be{d:Nat}{L:SL}{t:Nat}{s:SV}(h:aW (nz L d) t=some s):aW L t=some s:=h
theorem gQ{d:Nat}{x:SV}{L:SL}{t:Nat}{s:SV}(h:aW ((d,x)::L) t=some s):(t=d∧s=x)∨(t≠d∧aW L t=some s):=by
 simp only[aW]at h
 split at h
 ·rename_i hb
  injection h with h
  exact .inl ⟨(auV hb).symm,h.symm⟩
 ·rename_i hb
  refine .inr ⟨fun e=>?_,h⟩
  subst e
  simp at hb
theorem gS{L:SL}:∀{ts:List Nat} {t:Nat} {s:SV},aW (f0 L ts) t=some s→aW L t=some s
 |[],_,_,h=>by simp[f0,aW]at h
 |u::ts,t,s,h=>by
  simp only[f0]at h
  split at h
  ·rename_i x hx
   rcases gQ h with⟨rfl,rfl⟩|⟨_,h1⟩
   ·exact hx
   ·exact gS h1
  ·exact gS h
theorem j7{N:NT}{f i:Nat}{L:SL}{t:Nat}{s:SV}(h:aW (Au N f i L) t=some s):aW L t=some s:=by
 unfold Au at h
 split at h
 ·exact gS h
 ·exact h
theorem Aq{L:SL}:∀{ts:List Nat} {L':SL},GI L ts=some L'→∀t s,aW L' t=some s→aW L t=some s
 |[],L',h,t,s,hs=>by simp only[GI,au0]at h;subst h;simp[aW]at hs
 |u::ts,L',h,t,s,hs=>by
  simp only[GI]at h
  split at h<;>try (cases h;done)
  rename_i x r h1 h2
  injection h with h
  subst h
  rcases gQ hs with⟨rfl,rfl⟩|⟨_,h3⟩
  ·exact h1
  ·exact Aq h2 t s h3
theorem Cs:∀{L:SL} {t:Nat} {s:SV},aW L t=some s→(t,s)∈L
 |[],_,_,h=>by simp[aW]at h
 |(k,x)::r,t,s,h=>by
  rcases gQ h with⟨rfl,rfl⟩|⟨_,h3⟩
  ·simp
  ·simp[Cs h3]
theorem ud{k:Nat}{s:SV}(h:∀l,s≠.tup l):s.refsT k=s.refs k:=by cases s<;>first|rfl|exact(h _ rfl).elim
theorem yz{fl j:Nat}{s:SV}(h:s.refs fl=true)(ho:s.of1 j=true):j<fl:=by
 cases s<;>simp only[SV.of1,awX]at ho
 ·have:=auV ho;subst this;exact auZ h
 ·have:=auV ho;subst this;exact auZ h
 ·have:=auV ho;subst this;exact auZ h
section
variable {Z:Nat→Prop} {w0:World} {n:Nat} {L L':SL} {H H':List Item} {G G':List Value} {w w':World} {a:Act} {F:FT}
theorem FR.put{d:Option Nat}{s:SV}{v:Value}(h:FR Z n L H G w a)(hp:d7 n L d s=some L')(hv:Rel G (Av Z H G) w s v):FR Z n L' H G w (a.put d v):=by
 cases d with
 |none=>simp only[d7,au0]at hp;subst hp;exact h
 |some d=>
  simp only[d7]at hp
  split at hp<;>try (cases hp;done)
  rename_i hd
  have hd:=auZ hd
  injection hp with hp
  subst hp
  refine⟨h.defers,by simp[Act.put,h.size],fun t s' hs=>?_⟩
  simp only[Act.put,Array.getElem?_setIfInBounds,h.size]
  rcases gQ hs with⟨rfl,rfl⟩|⟨hne,h3⟩
  ·exact⟨v,by simp;omega,hv⟩
  ·have h4:=Be h3
   obtain⟨u,h5,h6⟩:=h.slot t s' h4
   exact⟨u,by rw[avf (awm hne)];exact h5,h6⟩
theorem FR.say{d:Nat}{s:SV}{v:Value}(h:FR Z n L H G w a)(hd:a.tmps[d]?=some v)(hv:Rel G (Av Z H G) w s v):FR Z n ((d,s)::nz L d) H G w a:=
 ⟨h.defers,h.size,fun t s' hs=>by
  rcases gQ hs with⟨rfl,rfl⟩|⟨hne,h3⟩
  ·exact⟨v,hd,hv⟩
  ·exact h.slot t s' (Be h3)⟩
theorem ut(hr:SR Z w0 H G w){s:SV}{v:Value}(h:Rel1 G (Av Z H G) w s v):s.refs H.length=true:=by
 have lt:∀(j:Nat) g,G[j]?=some g→Nat.ble (j+1) H.length=true:=fun j g hg=>avp (by rw[←hr.len];exact(au1.1 hg).1)
 cases s with
 |box j off=>obtain⟨b,h1,_⟩:=h;exact lt j _ h1
 |own j=>exact lt j _ h
 |oelt j sz i off=>obtain⟨b,m,c,h1,_⟩:=h;exact lt j _ h1
 |osl j sz lo n=>obtain⟨g,q,c,h1,_⟩:=h;exact lt j _ h1
 |clo f caps=>
  obtain⟨bs,h1,_⟩:=h
  refine avg.2 fun j hj=>?_
  obtain⟨k,hk,rfl⟩:=axd hj
  obtain⟨b,_,hb⟩:=iL h1 k _ (auP hk)
  exact lt _ _ hb
 |tup l=>exact h.elim
 |_=>rfl
theorem ki(hr:SR Z w0 H G w){s:SV}{v:Value}(h:Rel G (Av Z H G) w s v):s.refsT H.length=true:=by
 cases s with
 |tup l=>
  obtain⟨vs,_,h2⟩:=h
  refine avg.2 fun s hs=>?_
  obtain⟨k,hk,rfl⟩:=axd hs
  obtain⟨b,_,hb⟩:=iL h2 k _ (auP hk)
  exact ut hr hb
 |_=>rw[ud (fun l e=>by cases e)];exact ut hr (nt h (fun l e=>by cases e))
def Ev(Z:Nat→Prop)(fl:Nat)(H:List Item)(G:List Value)(w:World)(H':List Item)(G':List Value)(w':World):Prop:=∀s v,Rel1 G (Av Z H G) w s v→s.refs fl=true→Rel1 G' (Av Z H' G') w' s v
theorem Chg.ev{fl:Nat}{st ap:Bool}(h:Chg Z fl st ap H G w H' G' w'):Ev Z fl H G w H' G' w':=fun s v hs hr=>h.pres s v hs fun _j hj=>yz hr hj
def DOk(F:FT)(fm:Fm):Prop:=∀D,fm.d=some D→Clo (ao (nth (ak F fm.f) fm.i)) (mkL (ao (nth (ak F fm.f) fm.i)).size D)∧Region.noSelect (ao (nth (ak F fm.f) fm.i))=true∧D.length≤(ao (nth (ak F fm.f) fm.i)).size
def FrsOk(Z:Nat→Prop)(F:FT)(H:List Item)(G:List Value)(w:World):Nat→List Fm→List Act→Prop
 |_,[],[]=>True
 |fl,fm::fs,a::ats=>FR Z (ntm F fm.f) fm.L H G w a∧(∀t s,aW fm.L t=some s→s.refsT fl=true)∧(fm.fl≤fl∧(∃fn,gX F fm.f=some fn)∧DOk F fm)∧FrsOk Z F H G w fm.fl fs ats
 |_,_,_=>False
theorem qx{k l:Nat}(h:k≤l){s:SV}(hs:s.refs k=true):s.refs l=true:=by
 have b:∀j,Nat.ble (j+1) k=true→Nat.ble (j+1) l=true:=fun j hj=>avp (ava (auZ hj) h)
 cases s with
 |box j off=>exact b j hs
 |own j=>exact b j hs
 |oelt j sz i off=>exact b j hs
 |osl j sz i off=>exact b j hs
 |clo f caps=>exact avg.2 fun j hj=>b j (avg.1 hs j hj)
 |tup l=>cases hs
 |_=>rfl
theorem JQ{k l:Nat}(h:k≤l){s:SV}(hs:s.refsT k=true):s.refsT l=true:=by
 cases s with
 |tup l=>exact avg.2 fun s hm=>qx h (avg.1 hs s hm)
 |_=>rw[ud (fun l e=>by cases e)]at hs ⊢;exact qx h hs
theorem Rel.ev{fl:Nat}(he:Ev Z fl H G w H' G' w'){s:SV}{v:Value}(h:Rel G (Av Z H G) w s v)(hr:s.refsT fl=true):Rel G' (Av Z H' G') w' s v:=by
 cases s with
 |tup l=>
  obtain⟨vs,h1,h2⟩:=h
  refine⟨vs,h1,?_⟩
  clear h1
  induction l generalizing vs with
  |nil=>cases vs<;>exact h2
  |cons s l ih=>
   simp only[SV.refsT,axe,auW]at hr
   match vs,h2 with
   |v::vs,⟨g1,g2⟩=>exact⟨he s v g1 hr.1,ih hr.2 vs g2⟩
 |_=>rw[ud (fun l e=>by cases e)]at hr;exact eG (he _ _ (nt h (fun l e=>by cases e)) hr)
theorem FrsOk.ev{fl:Nat}(he:Ev Z fl H G w H' G' w'):∀{fl':Nat} {fs:List Fm} {ats:List Act},fl'≤fl→FrsOk Z F H G w fl' fs ats→FrsOk Z F H' G' w' fl' fs ats
 |_,[],[],_,_=>trivial
 |fl',fm::fs,a::ats,hle,⟨h1,h2,h3,h4⟩=>⟨⟨h1.defers,h1.size,fun t s hs=>by
   obtain⟨v,g1,g2⟩:=h1.slot t s hs
   exact⟨v,g1,g2.ev he (JQ hle (h2 t s hs))⟩⟩,h2,h3,FrsOk.ev he (ava h3.1 hle) h4⟩
 |_,[],_::_,_,h=>h.elim
 |_,_::_,[],_,h=>h.elim
theorem wK{a b k:Nat}:aab a b≤k↔a≤k∧b≤k:=by
 unfold aab
 cases h:Nat.ble a b with
 |true=>have:=auZ h;simp only[cond_true];omega
 |false=>have:¬a≤b:=fun hh=>by rw[avp hh]at h;cases h
         simp only[cond_false];omega
theorem KP{k j:Nat}{s:SV}(h:s.ofm≤k)(ho:s.of1 j=true):j<k:=by
 cases s<;>simp only[SV.of1,awX]at ho
 all_goals (have:=auV ho;subst this;exact h)
theorem adu{s:SV}(h:∀l,s≠.tup l):s.ofmT=s.ofm:=by cases s<;>first|rfl|exact(h _ rfl).elim
theorem E9{k:Nat}:∀{L:SL} {t:Nat} {s:SV},slM L≤k→aW L t=some s→s.ofmT≤k
 |[],_,_,_,h=>by simp[aW]at h
 |(q,x)::r,t,s,hk,h=>by
  obtain⟨h1,h2⟩:=wK.1 hk
  rcases gQ h with⟨rfl,rfl⟩|⟨_,h3⟩
  ·exact h1
  ·exact E9 h2 h3
theorem Rel.evF{k:Nat}(he:∀s v,Rel1 G (Av Z H G) w s v→(∀j,s.of1 j=true→j<k)→Rel1 G' (Av Z H' G') w' s v){s:SV}{v:Value}(h:Rel G (Av Z H G) w s v)(hr:s.ofmT≤k):Rel G' (Av Z H' G') w' s v:=by
 cases s with
 |tup l=>
  obtain⟨vs,h1,h2⟩:=h
  refine⟨vs,h1,?_⟩
  clear h1
  induction l generalizing vs with
  |nil=>cases vs<;>exact h2
  |cons s l ih=>
   obtain⟨r1,r2⟩:=wK.1 hr
   match vs,h2 with
   |v::vs,⟨g1,g2⟩=>exact⟨he s v g1 fun j hj=>KP r1 hj,ih r2 vs g2⟩
 |_=>rw[adu (fun l e=>by cases e)]at hr;exact eG (he _ _ (nt h (fun l e=>by cases e)) fun j hj=>KP hr hj)
theorem FrsOk.evF{k:Nat}(he:∀s v,Rel1 G (Av Z H G) w s v→(∀j,s.of1 j=true→j<k)→Rel1 G' (Av Z H' G') w' s v):∀{fl':Nat} {fs:List Fm} {ats:List Act},G7 fs≤k→FrsOk Z F H G w fl' fs ats→FrsOk Z F H' G' w' fl' fs ats
 |_,[],[],_,_=>trivial
 |fl',fm::fs,a::ats,hle,⟨h1,h2,h3,h4⟩=>⟨⟨h1.defers,h1.size,fun t s hs=>by
   obtain⟨v,g1,g2⟩:=h1.slot t s hs
   exact⟨v,g1,g2.evF he (E9 (wK.1 hle).1 hs)⟩⟩,h2,h3,FrsOk.evF he (wK.1 hle).2 h4⟩
 |_,[],_::_,_,h=>h.elim
 |_,_::_,[],_,h=>h.elim
theorem sJ{fl:Nat}:∀{l:List (Nat×Nat×Ty)} {L:SL} {H:List Item} {G:List Value},SR Z w0 H G w→FR Z n L H G w a→fl≤H.length→qK l L H=some (L',H')→∃G',SR Z w0 H' G' w∧FR Z n L' H' G' w a∧Ev Z fl H G w H' G' w∧fl≤H'.length
 |[],L,H,G,hr,hf,hfl,h=>by
  simp only[qK,au0,avr]at h
  obtain⟨rfl,rfl⟩:=h
  exact⟨G,hr,hf,fun s v h _=>h,hfl⟩
 |(t,et,e)::l,L,H,G,hr,hf,hfl,h=>by
  simp only[qK]at h
  split at h
  ·rename_i hs
   split at h<;>try (cases h;done)
   rename_i hn
   have hn:=auZ hn
   obtain⟨v,h1,h2⟩:=hf.slot t _ hs
   have h2:v=.slice none 0 0:=h2
   subst h2
   obtain⟨G1,k1,k2,k3,k4⟩:=lA (et:=et) (e:=e) (xs:=[]) (css:=[]) hr hf (axV _ _) (World.ownsRow_nil w _ _ _) hn trivial fl false false
   obtain⟨G2,g1,g2,g3,g4⟩:=sJ (fl:=fl) k1 (k2.say h1 k3) (by simp;omega) h
   exact⟨G2,g1,g2,fun s v hs hrf=>g3 s v (k4.ev s v hs hrf) hrf,g4⟩
  ·exact sJ hr hf hfl h
theorem lD{fl:Nat}:∀{l:List (Nat×Ty)} {L:SL} {H:List Item},SR Z w0 H G w→FR Z n L H G w a→fl≤H.length→kK fl l L H=some (L',H')→SR Z w0 H' G w∧FR Z n L' H' G w a∧Ev Z fl H G w H' G w∧fl≤H'.length
 |[],L,H,hr,hf,hfl,h=>by
  simp only[kK,au0,avr]at h
  obtain⟨rfl,rfl⟩:=h
  exact⟨hr,hf,fun s v h _=>h,hfl⟩
 |(t,e)::l,L,H,hr,hf,hfl,h=>by
  simp only[kK]at h
  split at h
  ·rename_i hs
   obtain⟨v,h1,h2⟩:=hf.slot t _ hs
   have h2:v=.slice none 0 0:=h2
   subst h2
   exact lD hr (hf.say (s:=.d (.sl e) []) h1 ⟨[_],Al,rfl⟩) hfl h
  ·rename_i j hs
   split at h<;>try (cases h;done)
   rename_i L1 H1 hg
   have hfz:pI fl [.tmp t] L H=some (L1,H1):=by simp only[pI,opS,hs,hg]
   obtain⟨g1,g2,g3,_,_⟩:=ld hr hf hfz
   have hlen:H1.length=H.length:=by
    unfold vu at hg
    split at hg<;>try (cases hg;done)
    simp only[au0,avr]at hg
    rw[←hg.2];simp
   obtain⟨k1,k2,k3,k4⟩:=lD g1 g2 (by omega) h
   exact⟨k1,k2,fun s v hs hrf=>k3 s v (g3 s v hs fun j hj=>yz hrf hj) hrf,k4⟩
  ·exact lD hr hf hfl h
theorem jv{α:Type}{l:List α}{k j:Nat}{x:α}(h:(l.take k)[j]?=some x):j<k∧l[j]?=some x:=by
 rw[awe]at h
 split at h
 ·exact⟨by assumption,h⟩
 ·cases h
theorem Do(hl:Nat){b:Nat}(h:Av Z H G b):Av Z (H.take hl) (G.take hl) b:=⟨h.1,fun j it g h1 h2 h3=>h.2 j it g (jv h1).2 h2 (jv h3).2⟩
theorem yJ{hl:Nat}{s:SV}{v:Value}(h:Rel1 G (Av Z H G) w s v)(hs:s.refs hl=true):Rel1 (G.take hl) (Av Z (H.take hl) (G.take hl)) w s v:=by
 have hk:Keeps (Av Z H G) (Av Z (H.take hl) (G.take hl)) w w:=⟨auY _,fun b _ h=>Do hl h,fun _ _ _=>rfl⟩
 have g:∀(j:Nat) x,Nat.ble (j+1) hl=true→G[j]?=some x→(G.take hl)[j]?=some x:=fun j x hj hx=>by
  rw[awe,avn (show j<hl from auZ hj)];exact hx
 cases s with
 |d t x=>obtain⟨cs,h1,h2⟩:=h;exact⟨cs,Ty.rd_keep hk h1,h2⟩
 |nil=>exact h
 |box j off=>obtain⟨b,h1,h2⟩:=h;exact⟨b,g j _ hs h1,h2⟩
 |elt e x off=>obtain⟨b,o,cs,h1,h2,h3,h4,h5⟩:=h;exact⟨b,o,cs,h1,Do hl h2,h3,Ty.rd_keep hk h4,h5⟩
 |own j=>exact g j _ hs h
 |oelt j sz i off=>obtain⟨b,m,c,h1,h2⟩:=h;exact⟨b,m,c,g j _ hs h1,h2⟩
 |cut e xs=>obtain⟨p,h1,h2⟩:=h;exact⟨p,Ty.rd_keep hk h1,h2⟩
 |osl j sz lo n=>obtain⟨x,q,c,h1,h2⟩:=h;exact⟨x,q,c,g j _ hs h1,h2⟩
 |clo f caps=>
  obtain⟨bs,h1,h2⟩:=h
  refine⟨bs,?_,h2⟩
  clear h2
  induction caps generalizing bs with
  |nil=>cases bs<;>exact h1
  |cons c caps ih=>
   simp only[SV.refs,axe,auW]at hs
   match bs,h1 with
   |b::bs,⟨q1,q2⟩=>exact⟨g c _ hs.1 q1,ih hs.2 bs q2⟩
 |tup l=>exact h
 |undef=>exact h
 |dead=>trivial
theorem aei{hl:Nat}(hr:SR Z w0 H G w)(hrf:(H.take hl).all (Item.refs hl)=true):SR Z w0 (H.take hl) (G.take hl) w:=by
 have hk:Keeps (Av Z H G) (Av Z (H.take hl) (G.take hl)) w w:=⟨auY _,fun b _ h=>Do hl h,fun _ _ _=>rfl⟩
 refine⟨by simp[hr.len],hr.below,fun j it g h1 h2=>?_,fun i j it jt g h b hij h1 h2 h3 h4 h5 h6 h7=>hr.disj i j it jt g h b hij (jv h1).2 (jv h2).2 h3 h4 (jv h5).2 (jv h6).2 h7,hr.zf⟩
 have hi:=hr.items j it g (jv h1).2 (jv h2).2
 have hir:it.refs hl=true:=avg.1 hrf it (avq h1)
 cases it with
 |gone=>trivial
 |row et e xs=>obtain⟨css,k1,k2,k3⟩:=hi;exact⟨css,k1,co (fun _ _ h=>Ty.rd_keep hk h) k2,k3⟩
 |box t cs=>
  obtain⟨b,vs,rfl,k1,k2,k3⟩:=hi
  refine⟨b,vs,rfl,k1,k2,?_⟩
  clear k2 h1
  induction cs generalizing vs with
  |nil=>cases vs<;>exact k3
  |cons s l ih=>
   simp only[Item.refs,axe,auW]at hir
   match vs,k3 with
   |v::vs,⟨q1,q2⟩=>exact⟨yJ q1 hir.1,ih hir.2 vs q2⟩
structure CR (Z:Nat→Prop) (F:FT) (w0:World) (c:Cfg) (G:List Value) (w:World) (a:Act) (ats:List Act):Prop where
 sr:SR Z w0 c.H G w
 fr:FR Z (ntm F c.f) c.L c.H G w a
 fl:c.fl≤c.H.length
 frs:FrsOk Z F c.H G w c.fl c.fs ats
theorem E6{R:SV→Value→Prop}{s:SV}(hs:∀v,R .nil v→R s v):∀{cs:List SV} {vs:List Value} {q:Nat},cM R cs vs→cs[q]?=some .nil→cM R (cs.set q s) vs
 |[],_,_,_,h=>by simp at h
 |c::cs,[],_,h,_=>h.elim
 |c::cs,v::vs,0,⟨h1,h2⟩,h=>by
  simp only[avH,au0]at h
  subst h
  exact⟨hs v h1,h2⟩
 |c::cs,v::vs,q+1,⟨h1,h2⟩,h=>by
  rw[avx]at h
  exact⟨h1,E6 hs h2 h⟩
theorem qv{fl:Nat}:∀{l:List (Nat×Nat×Nat×Ty)} {H:List Item} {G:List Value},SR Z w0 H G w→FR Z n L H G w a→fl≤H.length→∃G',SR Z w0 (oo l H) G' w∧FR Z n L (oo l H) G' w a∧Ev Z fl H G w (oo l H) G' w∧fl≤(oo l H).length
 |[],H,G,hr,hf,hfl=>⟨G,hr,hf,fun s v h _=>h,hfl⟩
 |(j,q,et,e)::l,H,G,hr,hf,hfl=>by
  simp only[oo]
  split
  ·rename_i t cs hj
   split
   ·rename_i hq hn
    have hn:=auZ hn
    obtain⟨G1,k1,k2,k3,k4⟩:=lA (et:=et) (e:=e) (xs:=[]) (css:=[]) hr hf (axV _ _) (World.ownsRow_nil w _ _ _) hn trivial fl false false
    have hlt:=(au1.1 hj).1
    have hj1:(H++[.row et e []])[j]?=some (.box t cs):=by rw[au8 hlt];exact hj
    have hst:=pH (it':=.box t (cs.set q (.own H.length))) k1 hj1 rfl k1.below (auY _) (fun _ _ _=>rfl)
    have hsr:=CU (it':=.box t (cs.set q (.own H.length))) k1 hj1 rfl k1.below (auY _) (fun _ _ _=>rfl) (fun g hg=>by
     obtain⟨b,vs,e1,e2,e3,e4⟩:=k1.items j _ g hj1 hg
     refine⟨b,vs,e1,e2,e3,E6 (fun v hv=>?_) (co (fun s v h=>dL k1 hst h) e4) hq⟩
     have hv:v=.slice none 0 0:=hv
     subst hv
     exact k3)
    rw[axP,avn hlt]at hsr hst
    obtain⟨G2,g1,g2,g3,g4⟩:=qv (fl:=fl) (l:=l) hsr (k2.keep fun s v h=>dL k1 hst h) (by simp;omega)
    exact⟨G2,g1,g2,fun s v hs hrf=>g3 s v (dL k1 hst (k4.ev s v hs hrf)) hrf,g4⟩
   ·exact qv hr hf hfl
  ·exact qv hr hf hfl
theorem aa8{x:NI}{c c':Cfg}{ats:List Act}(h:ajC x c=some c')(hc:CR Z F w0 c G w a ats):∃G',CR Z F w0 c' G' w a ats∧c'.f=c.f∧c'.K=c.K∧c'.fs=c.fs:=by
 unfold ajC at h
 split at h<;>try (cases h;done)
 rename_i L1 H1 h1
 split at h<;>try (cases h;done)
 rename_i L2 H2 h2
 split at h<;>try (cases h;done)
 rename_i L3 h3
 split at h<;>try (cases h;done)
 rename_i hb
 injection h with h
 subst h
 simp only[auW]at hb
 obtain⟨⟨b1,b2⟩,b3⟩:=hb
 obtain⟨G0,f1,f2,f3,f4⟩:=qv (l:=x.bx) hc.sr hc.fr hc.fl
 obtain⟨G1,g1,g2,g3',g4⟩:=sJ f1 f2 f4 h1
 have g3:Ev Z c.fl c.H G w H1 G1 w:=fun s v hs hr=>g3' s v (f3 s v hs hr) hr
 obtain⟨k1,k2,k3,k4⟩:=lD g1 g2 g4 h2
 have b3':=auZ b3
 have hev:Ev Z c.fl c.H G w (H2.take x.hl) (G1.take x.hl) w:=fun s v hs hrf=>yJ (k3 s v (g3 s v hs hrf) hrf) (qx b3' hrf)
 refine⟨G1.take x.hl,⟨aei k1 b2,⟨k2.defers,k2.size,fun t s hs=>?_⟩,by simp;omega,hc.frs.ev hev (auY _)⟩,rfl,rfl,rfl⟩
 obtain⟨v,q1,q2⟩:=k2.slot t s (Aq h3 t s hs)
 have hrf:s.refs x.hl=true:=avg.1 b1 (t,s) (Cs hs)
 exact⟨v,q1,eG (yJ (nt q2 fun l e=>by subst e;cases hrf) hrf)⟩
end
end
section
def iu(P:Program)(fn:Func)(R:Ending→World→Prop)(B:Code):List KJ→List KI
 |[]=>[]
 |.seq i::K=>.seq i::iu P fn R B K
 |.blk id::K=>.blk id::iu P fn R B K
 |.lp i::K=>.lp (InLoop P (nth B (i+1)) (iE P fn R B (iu P fn R B K)))::iu P fn R B K
def fY(P:Program)(F:FT)(Rt:Ending→World→Prop):List Fm→List Act→Ending→World→Prop
 |fm::fs,a::ats=>fun e w'=>∃v,e=.returned v∧∃fn o,gX F fm.f=some fn∧(ao (nth (ak F fm.f) fm.i))[fm.k]?=some o∧
   (fm.d=none→AtR P fn (fY P F Rt fs ats) (ak F fm.f) (iu P fn (fY P F Rt fs ats) (ak F fm.f) fm.K) fm.i (fm.k+1) (a.put o.dst v) w')∧
   (∀D,fm.d=some D→wpG P (ao (nth (ak F fm.f) fm.i)) (iE P fn (fY P F Rt fs ats) (ak F fm.f) (iu P fn (fY P F Rt fs ats) (ak F fm.f) fm.K)) (fun _=>True) ((ao (nth (ak F fm.f) fm.i)).size-D.length) (mkL (ao (nth (ak F fm.f) fm.i)).size D) (a.put o.dst v) w')
 |_,_=>Rt
section
variable {Z:Nat→Prop} {w0:World} {n:Nat} {L L':SL} {H H':List Item} {G G':List Value} {w w':World} {a:Act} {F:FT} {P:Program} {T:TT}
theorem fB{R:Type}{ops:Array Oper}{o:Oper}{yes no:SL→Option R}{r:R}(hf:FR Z n L H G w a)(h:cQ ops L o yes no=some r):
  (∃L',yes L'=some r∧FR Z n L' H G w a∧Region.wanted o (yielded ops a.tmps)=true)∨(∃L',no L'=some r∧FR Z n L' H G w a∧Region.wanted o (yielded ops a.tmps)=false):=by
 unfold cQ at h
 split at h
 ·rename_i hg
  exact .inl ⟨L,h,hf,by simp[Region.wanted,hg]⟩
 ·rename_i j want hg
  split at h<;>try (cases h;done)
  rename_i d hd
  split at h<;>try (cases h;done)
  ·rename_i b hb
   obtain⟨v,h1,h2⟩:=hf.slot d _ hb
   have hv:=po h2
   subst hv
   have hy:∀b':Bool,b=b'→FR Z n ((d,.d .bool b')::nz L d) H G w a:=fun b' e=>by subst e;exact hf.say h1 h2
   have hw:Region.wanted o (yielded ops a.tmps)=(b==want):=by
    simp only[Region.wanted,hg,yielded,hd,Option.bind_some,h1]
    cases b<;>cases want<;>rfl
   split at h
   ·split at h
    ·exact .inl ⟨_,h,hy true rfl,hw⟩
    ·exact .inr ⟨_,h,hy true rfl,hw⟩
   ·split at h
    ·exact .inr ⟨_,h,hy false rfl,hw⟩
    ·exact .inl ⟨_,h,hy false rfl,hw⟩
  ·rename_i hb
   obtain⟨v,h1,h2⟩:=hf.slot d _ hb
   have h2:v=undef:=h2
   subst h2
   refine .inr ⟨L,h,hf,?_⟩
   simp only[Region.wanted,hg,yielded,hd,Option.bind_some,h1]
   rfl
theorem aeA{fn:Func}{R:Ending→World→Prop}{B:Code}{K:List KI}{i k:Nat}(hk:(ao (nth B i))[k]?=none)(h:iE P fn R B K .normal a w):AtR P fn R B K i k a w:=by
 refine qj ?_ h
 rw[axC]
 simpa using hk
theorem abu{fn:Func}{R:Ending→World→Prop}{B:Code}{K:List KI}{i k:Nat}{o:Oper}(hk:(ao (nth B i))[k]?=some o)(hw:Region.wanted o (yielded (ao (nth B i)) a.tmps)=true)
  (h:o.upon P a (fun a' w'=>AtR P fn R B K i (k+1) a' w') (iE P fn R B K) ((execOp a.eval o).run P w)):AtR P fn R B K i k a w:=by
 have hlt:k<(ao (nth B i)).toList.length:=by simpa using(au7.1 hk).1
 unfold AtR
 have:(ao (nth B i)).toList.drop k=o::(ao (nth B i)).toList.drop (k+1):=by
  rw[avd hlt]
  congr 1
  have:=(au7.1 hk).2
  simpa using this
 rw[this]
 unfold wpList
 rw[avn hw]
 exact .inl h
theorem aj7{fn:Func}{R:Ending→World→Prop}{B:Code}{K:List KI}{i k:Nat}{o:Oper}(hk:(ao (nth B i))[k]?=some o)(hw:Region.wanted o (yielded (ao (nth B i)) a.tmps)=false)
  (h:AtR P fn R B K i (k+1) (a.put o.dst undef) w):AtR P fn R B K i k a w:=by
 have hlt:k<(ao (nth B i)).toList.length:=by simpa using(au7.1 hk).1
 unfold AtR
 have:(ao (nth B i)).toList.drop k=o::(ao (nth B i)).toList.drop (k+1):=by
  rw[avd hlt]
  congr 1
  have:=(au7.1 hk).2
  simpa using this
 rw[this]
 unfold wpList
 rw[avf (by rw[hw];simp)]
 exact h
theorem Yj(hT:fj P T=true)(hr:SR Z w0 H G w)(hf:FR Z n L H G w a):∀{rs:List ResultVar} {ss:List SV},DV T H L rs=some ss→∃vs,cM (Rel G (Av Z H G) w) ss vs∧
  ((rs.mapM (m:=Sem) fun
   |.tmp t=>pure (a.tmps.getD t undef)
   |.cell ad t=>do loadVar t (←asAddr (a.tmps.getD ad undef))).run P w)=.ok vs w:=by
 intro rs
 induction rs with
 |nil=>intro ss h;simp only[DV,au0]at h;subst h;exact⟨[],trivial,rfl⟩
 |cons q rs ih=>
  intro ss h
  rw[List.mapM_cons]
  cases q with
  |tmp t=>
   simp only[DV]at h
   split at h<;>try (cases h;done)
   rename_i s l h1 h2
   injection h with h
   subst h
   obtain⟨vs,g1,g2⟩:=ih h2
   obtain⟨v,k1,k2⟩:=hf.slot t s h1
   refine⟨v::vs,⟨k2,g1⟩,?_⟩
   simp only[avZ,awp,avi,avJ,k1,Option.getD_some]at g2 ⊢
   rw[g2]
   rfl
  |cell ad t=>
   simp only[DV]at h
   split at h<;>try (cases h;done)
   rename_i j off i l h1 hi h2
   split at h<;>try (cases h;done)
   rename_i bt cells hj
   split at h<;>try (cases h;done)
   rename_i s hl
   injection h with h
   subst h
   obtain⟨vs,g1,g2⟩:=ih h2
   obtain⟨p,k1,k2⟩:=hf.slot ad _ h1
   obtain⟨v,e1,e2⟩:=GC (rw:=true) hr (a9 hT hi) k2 hj hl
   obtain⟨b,hb,rfl⟩:=k2
   refine⟨v::vs,⟨eG e1,g1⟩,?_⟩
   have e3:=e2 w Agr.refl
   simp only[Instr.loadAt,Instr.sureAddr,avZ,awp,avi]at e3
   simp only[avZ,awp,avi,avJ,k1,Option.getD_some,asAddr,e3]at g2 ⊢
   rw[g2]
   rfl
theorem YD{fn:Func}{R:Ending→World→Prop}(hT:fj P T=true)(hr:SR Z w0 H G w)(hf:FR Z n L H G w a){ss:List SV}(h:DV T H L fn.results.toList=some ss)(hR:∀vs,cM (Rel G (Av Z H G) w) ss vs→R (.returned (lU vs)) w):bodyPost P fn R .ret a w:=by
 obtain⟨vs,g1,g2⟩:=Yj (P:=P) hT hr hf h
 refine⟨hf.defers,lU vs,?_,hR vs g1⟩
 unfold Go.results
 generalize hrs:fn.results=rs at*
 obtain⟨l⟩:=rs
 simp only[List.mapM_toArray,bind_map_left]
 simp only[avZ]
 refine(congrArg (fun r:Result (List Value)=>r.andThen fun(a:List Value) w'=>Sem.run P (pure (if h:a.toArray.size=1 then a.toArray[0]else Value.tuple a.toArray)) w') g2).trans ?_
 match vs with
 |[]=>rfl
 |[x]=>rfl
 |x::y::r=>simp[lU]
theorem Yb{ss:List SV}{vs:List Value}(hn:∀s∈ss,∀l,s≠.tup l)(h:cM (Rel G (Av Z H G) w) ss vs):Rel G (Av Z H G) w (alj ss) (lU vs):=by
 have h1:cM (Rel1 G (Av Z H G) w) ss vs:=by
  induction ss generalizing vs with
  |nil=>cases vs<;>exact h
  |cons s ss ih=>
   match vs,h with
   |v::vs,⟨q1,q2⟩=>exact⟨nt q1 (hn s (by simp)),ih (fun s hs=>hn s (by simp[hs])) q2⟩
 match ss,vs,h,h1 with
 |[],[],_,_=>exact⟨[],rfl,trivial⟩
 |[s],[v],⟨q1,_⟩,_=>exact q1
 |s::s'::ss,v::v'::vs,_,h1=>exact⟨v::v'::vs,rfl,h1⟩
theorem Gh{A:Nat→Prop}:∀{l:List SV} {r:List RV} {vs:List Value},AH.outL l=some r→cM (Rel1 [] A w) l vs→rvS r=some l∧(∀q∈r,∃t x,q=.d t x)
 |[],r,vs,h,_=>by simp only[AH.outL,au0]at h;subst h;exact⟨rfl,by simp⟩
 |s::l,r,vs,h,ha=>by
  unfold AH.outL at h
  split at h
  ·rename_i e;cases e
  ·rename_i t x l' e
   injection e with e1 e2
   subst e1 e2
   split at h<;>try (cases h;done)
   rename_i r' hr'
   injection h with h
   subst h
   match vs,ha with
   |v::vs,⟨_,h2⟩=>
    obtain⟨g1,g2⟩:=Gh hr' h2
    exact⟨by simp[rvS,g1],fun q hq=>by rcases au5.1 hq with rfl|hq;exact⟨t,x,rfl⟩;exact g2 q hq⟩
  ·cases h
theorem ami(_hT:fj P T=true)(hr:SR Z w0 H G w){ss:List SV}{tys:List Nat}{r:List RV}{vs:List Value}(h:AH T H ss tys=some r)(ha:cM (Rel G (Av Z H G) w) ss vs):zL Z w0.heap.size w r (lU vs):=by
 unfold AH at h
 split at h
 ·rename_i j
  split at h<;>try (cases h;done)
  rename_i et e xs hj
  injection h with h
  subst h
  match vs,ha with
  |[v],⟨hv,_⟩=>
   obtain⟨css,k1,k2,k3⟩:=hr.items j _ _ hj hv
   refine⟨css,k1,co (fun l y h=>Ty.rd_keep ⟨auY _,fun b _ hA=>⟨hA.1,hA.2 j _ _ hj rfl hv⟩,fun _ _ _=>rfl⟩ h) k2,k3⟩
 ·split at h<;>try (cases h;done)
  split at h<;>try (cases h;done)
  split at h<;>try (cases h;done)
  split at h<;>try (cases h;done)
  rename_i hb
  injection h with h
  subst h
  match vs,ha with
  |[v],⟨hv,_⟩=>
   have hv:v=.slice none 0 0:=hv
   subst hv
   exact⟨[],World.ownsRow_nil _ _ _ _,trivial,auZ hb⟩
 ·split at h<;>try (cases h;done)
  rename_i l hl
  have h1:cM (Rel1 [] Z w) l vs:=pZ (ss0:=ss) hr (fun _ _ h=>h.1) (.inl fun j g b hg hb ⟨_,_,_,hj⟩=>hr.zf b ((hr.items j _ g hj hg).blk rfl hb).1) (fun s hs=>hs) hl ha
  obtain⟨g1,g2⟩:=Gh h h1
  match r,g1,g2 with
  |[],g1,_=>
   simp only[rvS,au0]at g1
   subst g1
   match vs,h1 with
   |[],_=>exact⟨[],rfl,[],rfl,trivial⟩
  |[.d t x],g1,_=>
   simp only[rvS,au0]at g1
   subst g1
   match vs,h1 with
   |[v],⟨q,_⟩=>exact q
  |[.new et e xs],_,g2=>obtain⟨t,x,he⟩:=g2 (.new et e xs) (by simp);cases he
  |q::q'::r,g1,_=>
   have hlen:vs.length=(q::q'::r).length:=by
    rw[←eT h1]
    have:∀(r:List RV) (l:List SV),rvS r=some l→l.length=r.length:=by
     intro r
     induction r with
     |nil=>intro l h;simp only[rvS,au0]at h;subst h;rfl
     |cons q r ih=>
      intro l h
      cases q<;>simp only[rvS]at h<;>split at h<;>first|(cases h;done)|(injection h with h;subst h;simp[ih _ (by assumption)])
    exact this _ _ g1
   match vs,hlen,h1 with
   |v::v'::vs,_,h1=>cases q<;>exact⟨v::v'::vs,rfl,l,g1,h1⟩
end
end
section
theorem mv{Z:Nat→Prop}{H:List Item}{G:List Value}{w:World}{a:Act}:∀{ss:List SV} {vs:List Value} {k:Nat},cM (Rel G (Av Z H G) w) ss vs→(∀t v,look (HH k vs) t=some v→a.tmps[t]?=some v)→∀t s,aW (t9 k ss) t=some s→∃v,a.tmps[t]?=some v∧Rel G (Av Z H G) w s v
 |[],[],k,_,_,t,s,h=>by simp[t9,aW]at h
 |s0::ss,v0::vs,k,⟨h1,h2⟩,ha,t,s,h=>by
  rcases gQ h with⟨rfl,rfl⟩|⟨hne,h3⟩
  ·exact⟨v0,ha t v0 (by simp[HH,look]),h1⟩
  ·refine mv h2 (fun u x hx=>ha u x ?_) t s h3
   simp only[HH,look]
   split
   ·rename_i hb
    have e:k=u:=auV hb
    have:=(Bp vs (k+1) u x hx).1
    omega
   ·exact hx
def AtG(P:Program)(fn:Func)(R:Ending→World→Prop)(B:Code)(K:List KI)(i:Nat)(S0:World→Prop)(m:Nat)(D:List Nat)(a:Act)(w:World):Prop:=
 wpG P (ao (nth B i)) (iE P fn R B K) S0 m (mkL (ao (nth B i)).size D) a w
def jO(P:Program)(F:FT)(Rt:Ending→World→Prop)(c:Cfg)(fn:Func)(G:List Value)(w:World)(a:Act)(ats:List Act):Pos→Prop
 |.nrm=>iE P fn (fY P F Rt c.fs ats) (ak F c.f) (iu P fn (fY P F Rt c.fs ats) (ak F c.f) c.K) .normal a w
 |.node i=>At P fn (fY P F Rt c.fs ats) (ak F c.f) (iu P fn (fY P F Rt c.fs ats) (ak F c.f) c.K) i a w
 |.ops i k=>AtR P fn (fY P F Rt c.fs ats) (ak F c.f) (iu P fn (fY P F Rt c.fs ats) (ak F c.f) c.K) i k a w
 |.ret=>bodyPost P fn (fY P F Rt c.fs ats) .ret a w
 |.tam i D=>D=[]→Region.noSelect (ao (nth (ak F c.f) i))=true→AtG P fn (fY P F Rt c.fs ats) (ak F c.f) (iu P fn (fY P F Rt c.fs ats) (ak F c.f) c.K) i (fun _=>True) (ao (nth (ak F c.f) i)).size [] a w
 |.tbx i D=>D=[]→Region.noSelect (ao (nth (ak F c.f) i))=true→AtG P fn (fY P F Rt c.fs ats) (ak F c.f) (iu P fn (fY P F Rt c.fs ats) (ak F c.f) c.K) i (fun _=>True) (ao (nth (ak F c.f) i)).size [] a w
 |.tal i D=>∀S0:World→Prop,(∀w w',S0 w→(w.heap.size≤w'.heap.size∧∀b,b<w.heap.size→w'.heap[b]?=w.heap[b]?)→S0 w')→(storeDone (ao (nth (ak F c.f) i)) (mkL (ao (nth (ak F c.f) i)).size D)∨S0 w)→Clo (ao (nth (ak F c.f) i)) (mkL (ao (nth (ak F c.f) i)).size D)→Region.noSelect (ao (nth (ak F c.f) i))=true→∀m',m'+D.length=(ao (nth (ak F c.f) i)).size→AtG P fn (fY P F Rt c.fs ats) (ak F c.f) (iu P fn (fY P F Rt c.fs ats) (ak F c.f) c.K) i S0 m' D a w
 |.drw i rw eff D=>∀Hs Gs ws,((storeDone (ao (nth (ak F c.f) i)) (mkL (ao (nth (ak F c.f) i)).size D)∧eff=true)∨(Agr rw Hs Gs ws w∧(∀b,b<ws.heap.size→jm c.H G b→jm Hs Gs b)∧(eff=false→c.H=Hs∧G=Gs∧w=ws)∧¬storeDone (ao (nth (ak F c.f) i)) (mkL (ao (nth (ak F c.f) i)).size D)))→Clo (ao (nth (ak F c.f) i)) (mkL (ao (nth (ak F c.f) i)).size D)→Region.noSelect (ao (nth (ak F c.f) i))=true→
   ∀m',m'+D.length=(ao (nth (ak F c.f) i)).size→AtG P fn (fY P F Rt c.fs ats) (ak F c.f) (iu P fn (fY P F Rt c.fs ats) (ak F c.f) c.K) i (Agr rw Hs Gs ws) m' D a w
section
variable {Z:Nat→Prop} {w0:World} {F:FT} {P:Program} {T:TT} {E:Env} {N:NT} {Fin:Nat→Cfg→Option (List RV)} {Rt:Ending→World→Prop} {r:List RV}
theorem xl{fn:Func}{R:Ending→World→Prop}{B:Code}{id:Nat}:∀{K K':List KJ},DZ id K=some K'→Ak id (iu P fn R B K)=some (iu P fn R B K')
 |[],K',h=>by simp[DZ]at h
 |.blk j::K,K',h=>by
  simp only[DZ]at h
  simp only[iu,Ak]
  split at h
  ·rename_i hb;rw[hb];injection h with h;rw[h]
  ·rename_i hb;rw[hb];exact xl h
 |.seq _::K,K',h=>by simp only[DZ]at h;simp only[iu,Ak];exact xl h
 |.lp _::K,K',h=>by simp only[DZ]at h;simp only[iu,Ak];exact xl h
theorem Di {L : SL} {H : List Item} {G : List Value} {w : World} {a : Act} {n g : Nat} {ss : List SV} {o : Op} (hf : FR Z n L H G w a) (h : Ht F E L o = some (g, ss)) : ∃ f args tys fn caps, o = .call ⟨.value f, args, tys⟩ ∧ gX F g = some fn ∧ a.eval f = .func (.func g) #[] caps ∧ cM (Rel G (Av Z H G) w) ss (args.map a.eval ++ caps).toList ∧ ss.length ≤ fn.ntmps ∧ (!(fn.name == "runtime.NumGoroutine")) = true ∧ fn.body.isSome = true := by
 unfold Ht at h
 split at h<;>try (cases h;done)
 rename_i f args tys
 split at h<;>try (cases h;done)
 rename_i g' caps hs
 split at h<;>try (cases h;done)
 split at h<;>try (cases h;done)
 rename_i fn ss' hfn hss
 split at h<;>try (cases h;done)
 rename_i hb
 simp only[au0,avr]at h
 obtain⟨rfl,rfl⟩:=h
 simp only[auW]at hb
 obtain⟨bs,hbs,hfv⟩:=a8 hf hs
 refine⟨f,args,tys,fn,_,rfl,hfn,hfv,?_,by simp;exact auZ hb.1,hb.2.1,hb.2.2⟩
 have h1:=mq hf hss
 have h2:cM (Rel G (Av Z H G) w) (caps.map fun j=>.box j 0) (bs.map fun b=>Value.pointer (some ⟨b,0,none⟩)):=by
  clear hs hfv
  induction caps generalizing bs with
  |nil=>cases bs<;>exact hbs
  |cons c caps ih=>
   match bs,hbs with
   |b::bs,⟨q1,q2⟩=>exact⟨⟨b,q1,rfl⟩,ih (by
     simp only[avc]at hb
     exact⟨avp (by have:=auZ hb.1;omega),hb.2⟩) bs q2⟩
 have:=eV h1 h2
 simpa using this
theorem HT{ops:Array Oper}{eff:Bool}{D:List Nat}:∀{rs:List Nat} {j:Nat},Bh ops eff D rs=some j→j∈rs∧∃o,ops[j]?=some o∧isQ o.op=true∧(nD o.op=true→eff=false∧xm ops j=true)∧o.dst.isSome=true∧Region.free .any ops (mkL ops.size D) j=true
 |[],j,h=>by simp[Bh]at h
 |q::rs,j,h=>by
  simp only[Bh]at h
  split at h<;>try (cases h;done)
  rename_i o ho
  split at h
  ·rename_i hb
   injection h with h
   subst h
   simp only[auW,avL,Bool.and_eq_false_iff,aw5,Bool.not_eq_false']at hb
   obtain⟨⟨⟨b1,b2⟩,b3⟩,b4⟩:=hb
   exact⟨by simp,o,ho,b1,fun hl=>by rcases b2 with b2|b2;rw[hl]at b2;cases b2;exact b2,b3,b4⟩
  ·obtain⟨h1,h2⟩:=HT h
   exact⟨by simp[h1],h2⟩
end
end
abbrev dn(l:Array Bool):Nat→Bool:=fun k=>l.getD k true
theorem jr(l:Array Bool)(j k:Nat):dn (l.setIfInBounds j true) k=if k=j then true else dn l k:=by
 by_cases h:k=j
 ·subst h;rw[avn rfl];exact ja l k
 ·rw[avf h];exact awG true (awm h)
theorem eF{d:Nat}{s:SV}{L:SL}{t:Nat}:aW ((d,s)::nz L d) t=if t=d then some s else aW L t:=by
 by_cases h:t=d
 ·subst h
  rw[avn rfl]
  simp[aW]
 ·rw[avf h]
  have hb:Nat.beq d t=false:=by
   cases hq:Nat.beq d t with
   |false=>rfl
   |true=>exact absurd (auV hq).symm h
  simp only[aW,hb]
theorem zd:∀{l cs:List SV} {off:Nat},(oM cs off l).length=cs.length
 |[],_,_=>rfl
 |_::r,_,_=>by simp[oM,zd (l:=r)]
theorem Gq:∀(l cs:List SV) (off i:Nat),(oM cs off l)[i]?=if off≤i∧i<off+l.length∧i<cs.length then l[i-off]? else cs[i]?
 |[],cs,off,i=>by rw[avf (by simp;omega)];rfl
 |s::r,cs,off,i=>by
  rw[oM,Gq r (cs.set off s) (off+1) i,axq,avc]
  by_cases h1:i=off
  ·subst h1
   rw[avf (by omega)]
   by_cases h2:i<cs.length
   ·rw[avn (by omega),awr,awE h2];rfl
   ·rw[avf (by omega),av1 (by simp;omega),av1 (by omega)]
  ·by_cases h2:off+1≤i∧i<off+1+r.length∧i<cs.length
   ·rw[avn h2,avn (by omega),show i-off=(i-(off+1))+1 by omega,avx]
   ·rw[avf h2,avf (by omega),awa (awm h1)]
theorem PU{l l' cs:List SV}{off off':Nat}(h:off+l.length≤off'∨off'+l'.length≤off):oM (oM cs off l) off' l'=oM (oM cs off' l') off l:=by
 refine awF fun i=>?_
 simp only[Gq,zd]
 by_cases h1:off≤i∧i<off+l.length∧i<cs.length
 ·by_cases h2:off'≤i∧i<off'+l'.length∧i<cs.length
  ·omega
  ·simp only[avn h1,avf h2]
 ·by_cases h2:off'≤i∧i<off'+l'.length∧i<cs.length
  ·simp only[avf h1,avn h2]
  ·simp only[avf h1,avf h2]
theorem FP{x:SV}:∀{l cs:List SV} {off:Nat},x∈oM cs off l→x∈cs∨x∈l
 |[],_,_,h=>.inl h
 |s::r,cs,off,h=>by
  rcases FP (l:=r) h with h1|h1
  ·rcases List.mem_or_eq_of_mem_set h1 with h2|h2
   ·exact .inl h2
   ·subst h2;exact .inr (by simp)
  ·exact .inr (by simp[h1])
def ovI(s:AlS):Item→Item
 |.box bt cells=>.box bt (oM cells s.off s.l)
 |it=>it
theorem lF(s:AlS)(H:List Item)(k:Nat):(stP s H)[k]?=if k=s.j then H[k]?.map (ovI s)else H[k]?:=by
 unfold stP
 split
 ·rename_i bt cells hb
  by_cases h:k=s.j
  ·subst h
   rw[avn rfl,hb,awE (au1.1 hb).1]
   rfl
  ·rw[avf h,awa (awm h)]
 ·rename_i hb
  by_cases h:k=s.j
  ·subst h
   rw[avn rfl]
   cases hh:H[s.j]? with
   |none=>rfl
   |some it=>
    cases it with
    |box bt cells=>exact absurd hh (hb bt cells)
    |row=>rfl
    |gone=>rfl
  ·rw[avf h]
theorem KX(s:AlS)(H:List Item):(stP s H).length=H.length:=by
 unfold stP
 split
 ·rw[axq]
 ·rfl
theorem aay{s:AlS}{H:List Item}{k:Nat}{it:Item}(h:s.j≠k):stP s (H.set k it)=(stP s H).set k it:=by
 refine awF fun i=>?_
 rw[lF,avm,avm,lF,KX]
 by_cases h1:k=i
 ·subst h1;rw[avf (awm h),avn rfl,avn rfl]
 ·rw[avf h1,avf h1]
theorem vp{s p:AlS}(h:IM s p=true):s.i≠p.i∧(s.j≠p.j∨s.off+s.l.length≤p.off∨p.off+p.l.length≤s.off):=by
 simp only[IM,auW,awz,avL]at h
 obtain⟨h1,h2⟩:=h
 refine⟨fun e=>(by rw[e,axr]at h1;cases h1),?_⟩
 rcases h2 with(h2|h2)|h2
 ·exact .inl fun e=>by rw[e,axr]at h2;cases h2
 ·exact .inr (.inl (auZ h2))
 ·exact .inr (.inr (auZ h2))
theorem ZX{s p:AlS}(h:IM s p=true)(H:List Item):stP s (stP p H)=stP p (stP s H):=by
 obtain⟨_,h⟩:=vp h
 refine awF fun k=>?_
 rw[lF,lF,lF,lF]
 by_cases h1:k=s.j
 ·subst h1
  rw[avn rfl]
  by_cases h2:s.j=p.j
  ·rw[avn h2,avn h2,avn rfl]
   cases hh:H[s.j]? with
   |none=>rfl
   |some it=>
    cases it with
    |box bt cells=>
     simp only[avS,ovI]
     rw[PU (by rcases h with h|h|h;exact absurd h2 h;exact .inr h;exact .inl h)]
    |row=>rfl
    |gone=>rfl
  ·rw[avf h2,avf h2,avn rfl]
 ·rw[avf h1]
  by_cases h2:k=p.j
  ·rw[avn h2,avn h2,avf h1]
  ·rw[avf h2,avf h2,avf h1]
theorem oN{f:Nat→Bool}{H:List Item}:∀{ss:List AlS},(cV f ss H).length=H.length
 |[]=>rfl
 |s::r=>by
  simp only[cV]
  split
  ·rw[KX];exact oN
  ·exact oN
theorem xR{f:Nat→Bool}{H:List Item}{k:Nat}{it:Item}:∀{ss:List AlS},(∀s∈ss,f s.i=true→s.j≠k)→cV f ss (H.set k it)=(cV f ss H).set k it
 |[],_=>rfl
 |s::r,h=>by
  have ih:=xR (f:=f) (H:=H) (k:=k) (it:=it) (ss:=r) fun s hs=>h s (by simp[hs])
  simp only[cV]
  split
  ·rename_i h1
   rw[ih,aay (h s (by simp) h1)]
  ·exact ih
theorem lk{f g:Nat→Bool}{H:List Item}:∀{ss:List AlS},(∀s∈ss,f s.i=g s.i)→cV f ss H=cV g ss H
 |[],_=>rfl
 |s::r,h=>by
  simp only[cV]
  rw[h s (by simp),lk (ss:=r) fun s hs=>h s (by simp[hs])]
theorem mt{f:Nat→Bool}{H:List Item}:∀{ss:List AlS},(∀s∈ss,f s.i=false)→cV f ss H=H
 |[],_=>rfl
 |s::r,h=>by
  simp only[cV]
  rw[h s (by simp)]
  exact mt (ss:=r) fun s hs=>h s (by simp[hs])
theorem Mb{f g:Nat→Bool}{H:List Item}{s:AlS}(hg:∀k,g k=if k=s.i then true else f k)(hf:f s.i=false):∀{ss:List AlS},ss.Pairwise (fun s p=>IM s p=true)→s∈ss→cV g ss H=stP s (cV f ss H)
 |[],_,hs=>by cases hs
 |p::r,hp,hs=>by
  obtain⟨h1,h2⟩:=avh.1 hp
  simp only[cV]
  rcases au5.1 hs with e|hs
  ·subst e
   rw[hg s.i,avn rfl,hf]
   dsimp only
   rw[lk (f:=g) (g:=f) (ss:=r) fun q hq=>by rw[hg,avf (awm (vp (h1 q hq)).1)]]
  ·have hne:=(vp (h1 s hs)).1
   have ih:=Mb (H:=H) hg hf h2 hs
   rw[hg p.i,avf hne,ih]
   split
   ·exact ZX (h1 s hs) _
   ·rfl
theorem Fv{f:Nat→Bool}{H:List Item}{k bt:Nat}{cells:List SV}(h:H[k]?=some (.box bt cells)):∀{ss:List AlS},∃cells',(cV f ss H)[k]?=some (.box bt cells')∧cells'.length=cells.length
 |[]=>⟨cells,h,rfl⟩
 |s::r=>by
  obtain⟨c',h1,h2⟩:=Fv (f:=f) h (ss:=r)
  simp only[cV]
  split
  ·rw[lF,h1]
   split
   ·exact⟨_,rfl,by rw[zd,h2]⟩
   ·exact⟨c',rfl,h2⟩
  ·exact⟨c',h1,h2⟩
def nG(h0:Nat)(H:List Item):Prop:=∀(k:Nat) (t:TypeId) (cs:List SV),H[k]?=some (.box t cs)→∀s∈cs,s.refs h0=true
theorem H9{h0:Nat}{f:Nat→Bool}{H:List Item}(hH:nG h0 H):∀{ss:List AlS},(∀s∈ss,∀x∈s.l,x.refs h0=true)→nG h0 (cV f ss H)
 |[],_=>hH
 |s::r,h=>by
  have ih:=H9 (f:=f) hH (ss:=r) fun s hs=>h s (by simp[hs])
  simp only[cV]
  split
  ·intro k t cs hk x hx
   rw[lF]at hk
   split at hk
   ·cases hh:(cV f r H)[k]? with
    |none=>rw[hh]at hk;cases hk
    |some it=>
     rw[hh]at hk
     cases it with
     |box bt cells=>
      simp only[avS,ovI,au0,Item.box.injEq]at hk
      obtain⟨rfl,rfl⟩:=hk
      rcases FP hx with h1|h1
      ·exact ih k _ _ hh x h1
      ·exact h s (by simp) x h1
     |row=>simp[ovI]at hk
     |gone=>simp[ovI]at hk
   ·exact ih k t cs hk x hx
  ·exact ih
theorem um(f:Nat→Bool)(la:List AlA)(r:Nat):(alX f la)[r]?=la[r]?.map fun a=>match f a.i with
  |true=>.box a.t a.cs
  |false=>.gone:=by
 unfold alX
 rw[avM]
 rfl
abbrev Dis(la:List AlA):Prop:=la.Pairwise fun a b=>a.i≠b.i∧a.d≠b.d
theorem Zm{la:List AlA}(h:Dis la){r k:Nat}{a b:AlA}(ha:la[r]?=some a)(hb:la[k]?=some b)(hne:k≠r):b.i≠a.i∧b.d≠a.d:=by
 obtain⟨h1,rfl⟩:=au1.1 ha
 obtain⟨h2,rfl⟩:=au1.1 hb
 have hp:=List.pairwise_iff_getElem.1 h
 rcases Nat.lt_or_gt_of_ne hne with h3|h3
 ·exact hp k r h2 h1 h3
 ·have:=hp r k h1 h2 h3
  exact⟨awm this.1,awm this.2⟩
theorem ajg{f g:Nat→Bool}{la:List AlA}{r:Nat}{a:AlA}(hd:Dis la)(ha:la[r]?=some a)(hg:∀k,g k=if k=a.i then true else f k):alX g la=(alX f la).set r (.box a.t a.cs):=by
 refine awF fun k=>?_
 rw[avm,um]
 by_cases h:r=k
 ·subst h
  rw[avn rfl,ha,avn (by unfold alX;rw[awj];exact(au1.1 ha).1)]
  simp only[avS]
  rw[hg,avn rfl]
 ·rw[avf h,um]
  cases hk:la[k]? with
  |none=>rfl
  |some b=>
   simp only[avS]
   rw[hg,avf (Zm hd ha hk (awm h)).1]
theorem JN{f g:Nat→Bool}{la:List AlA}{r:Nat}{a:AlA}{H0:List Item}(hd:Dis la)(ha:la[r]?=some a)(hg:∀k,g k=if k=a.i then true else f k):H0++alX g la=(H0++alX f la).set (H0.length+r) (.box a.t a.cs):=by
 rw[ajg hd ha hg,axP,avf (by omega),show H0.length+r-H0.length=r by omega]
theorem aaP{h0:Nat}{f:Nat→Bool}{la:List AlA}{H0:List Item}(hH:nG h0 H0)(hla:∀a∈la,∀x∈a.cs,x.refs h0=true):nG h0 (H0++alX f la):=by
 intro k t cs hk x hx
 rcases avo k H0.length with h|h
 ·rw[au8 h]at hk
  exact hH k t cs hk x hx
 ·rw[au9 h,um]at hk
  cases hh:la[k-H0.length]? with
  |none=>rw[hh]at hk;cases hk
  |some a=>
   rw[hh]at hk
   simp only[avS,au0]at hk
   split at hk
   ·simp only[Item.box.injEq]at hk
    obtain⟨rfl,rfl⟩:=hk
    exact hla a (avq hh) x hx
   ·cases hk
theorem iW{f g:Nat→Bool}{t:Nat}:∀{la:List AlA} {k:Nat} {L M:SL},(∀a∈la,a.d=t→f a.i=g a.i)→aW L t=aW M t→aW (gh f la k L) t=aW (gh g la k M) t
 |[],_,_,_,_,h=>h
 |b::l,k,L,M,hl,h=>by
  simp only[gh]
  refine iW (fun a ha=>hl a (by simp[ha])) ?_
  by_cases e:b.d=t
  ·rw[←hl b (by simp) e]
   split
   ·rw[eF,eF,avn e.symm,avn e.symm]
   ·exact h
  ·have e':t≠b.d:=fun h=>e h.symm
   split<;>split<;>(try rw[eF,avf e'])<;>(try rw[eF,avf e'])<;>exact h
theorem G8{f:Nat→Bool}{t:Nat}:∀{la:List AlA} {k:Nat} {L:SL},(∀a∈la,a.d≠t)→aW (gh f la k L) t=aW L t
 |[],_,_,_=>rfl
 |b::l,k,L,h=>by
  simp only[gh]
  rw[G8 fun a ha=>h a (by simp[ha])]
  split
  ·rw[eF,avf (fun e=>h b (by simp) e.symm)]
  ·rfl
theorem DW{f g:Nat→Bool}{a:AlA}(hg:∀k,g k=if k=a.i then true else f k):∀{la:List AlA} {r k:Nat} {L:SL},Dis la→la[r]?=some a→∀t,aW (gh g la k L) t=if t=a.d then some (.box (k+r) 0)else aW (gh f la k L) t
 |[],r,_,_,_,h,_=>by simp at h
 |b::l,0,k,L,hd,h,t=>by
  simp only[avH,au0]at h
  subst h
  obtain⟨h1,h2⟩:=avh.1 hd
  simp only[gh]
  rw[hg b.i,avn rfl]
  dsimp only
  by_cases e:t=b.d
  ·subst e
   rw[avn rfl,G8 fun a ha=>awm (h1 a ha).2,eF,avn rfl,axH]
  ·rw[avf e]
   refine iW (fun a ha _=>by rw[hg,avf (awm (h1 a ha).1)]) ?_
   rw[eF,avf e]
   split
   ·rw[eF,avf e]
   ·rfl
 |b::l,r+1,k,L,hd,h,t=>by
  obtain⟨h1,h2⟩:=avh.1 hd
  rw[avx]at h
  simp only[gh]
  rw[hg b.i,avf (h1 a (avq h)).1,DW hg h2 h t,show k+1+r=k+(r+1) by omega]
theorem HU{f:Nat→Bool}{t:Nat}{s:SV}:∀{la:List AlA} {k:Nat} {L:SL},aW (gh f la k L) t=some s→(∃r a,la[r]?=some a∧t=a.d∧f a.i=true∧s=.box (k+r) 0)∨aW L t=some s
 |[],_,_,h=>.inr h
 |b::l,k,L,h=>by
  simp only[gh]at h
  rcases HU h with⟨r,a,h1,h2,h3,h4⟩|h1
  ·exact .inl ⟨r+1,a,by rw[avx];exact h1,h2,h3,by rw[h4,show k+1+r=k+(r+1) by omega]⟩
  ·split at h1
   ·rename_i hb
    rw[eF]at h1
    split at h1
    ·rename_i e
     injection h1 with h1
     exact .inl ⟨0,b,rfl,e,hb,by rw[←h1,axH]⟩
    ·exact .inr h1
   ·exact .inr h1
theorem pe{T:TT}{N:Nat}:∀{lo:List Oper} {i0:Nat} {la:List AlA},alA T N lo i0=some la→
  (∀q o,lo[q]?=some o→bO o=true→∃(r:Nat) (a:AlA),la[r]?=some a∧a.i=i0+q∧o.dst=some a.d∧a.d<N∧∃x,o.op=.alloc a.t∧dK T a.t=some x∧x.z=true∧(∀p q,x.ty≠.pair p q)∧a.cs=x.ty.zsplit)∧
  (∀a∈la,i0≤a.i∧∃o,lo[a.i-i0]?=some o∧bO o=true∧∃x,a.cs=Ty.zsplit x)∧Dis la
 |[],_,_,h=>by
  simp only[alA,au0]at h
  subst h
  exact⟨fun q o h=>(by simp at h),fun a h=>(by cases h),List.Pairwise.nil⟩
 |o::r,i,la,h=>by
  simp only[alA]at h
  have sub:∀{la:List AlA},(∀a∈la,i+1≤a.i∧∃o,r[a.i-(i+1)]?=some o∧bO o=true∧∃x,a.cs=Ty.zsplit x)→∀a∈la,i≤a.i∧∃o',(o::r)[a.i-i]?=some o'∧bO o'=true∧∃x,a.cs=Ty.zsplit x:=fun h a ha=>by
   obtain⟨h1,o',h2,h3⟩:=h a ha
   exact⟨by omega,o',by rw[show a.i-i=(a.i-(i+1))+1 by omega,avx];exact h2,h3⟩
  split at h
  ·rename_i hal
   obtain⟨h1,h2,h3⟩:=pe h
   refine⟨fun q o' hq ho=>?_,sub h2,h3⟩
   cases q with
   |zero=>simp only[avH,au0]at hq;subst hq;rw[hal]at ho;cases ho
   |succ q=>
    rw[avx]at hq
    obtain⟨r',a,k1,k2,k3⟩:=h1 q o' hq ho
    exact⟨r',a,k1,by omega,k3⟩
  ·rename_i hal
   split at h<;>try (cases h;done)
   rename_i t d hop hdst
   split at h<;>try (cases h;done)
   rename_i x l hx hd hl
   split at h<;>try (cases h;done)
   rename_i hz hne
   split at h<;>try (cases h;done)
   rename_i hall
   injection h with h
   subst h
   obtain⟨h1,h2,h3⟩:=pe hl
   refine⟨fun q o' hq ho=>?_,fun a ha=>?_,avh.2 ⟨fun b hb=>?_,h3⟩⟩
   ·cases q with
    |zero=>
     simp only[avH,au0]at hq
     subst hq
     exact⟨0,_,rfl,rfl,hdst,auZ hd,x,hop,hx,hz,fun p q e=>hne _ _ e,rfl⟩
    |succ q=>
     rw[avx]at hq
     obtain⟨r',a,k1,k2,k3⟩:=h1 q o' hq ho
     exact⟨r'+1,a,by rw[avx];exact k1,by omega,k3⟩
   ·rcases au5.1 ha with e|ha
    ·subst e
     exact⟨auY _,o,by simp,hal,x.ty,rfl⟩
    ·exact sub h2 a ha
   ·have:=avg.1 hall b hb
    simp only[auW,avL]at this
    exact⟨fun e=>(by have:=this.1;simp only at e;rw[e,axr]at this;cases this),fun e=>(by have:=this.2;simp only at e;rw[e,axr]at this;cases this)⟩
def ae0(T:TT)(ops:Array Oper)(la:List AlA)(h0:Nat)(La:SL)(Ha:List Item)(s:AlS)(o:Oper):Prop:=
 ∃t x v sv y bt cells,o.op=.store t x v∧o.guard=none∧o.dst=none∧opS La x=some (.box s.j s.off)∧opS La v=some sv∧dK T t=some y∧gf [] sv=some s.l∧Ha[s.j]?=some (.box bt cells)∧s.l.length=y.ty.n∧s.off+s.l.length≤cells.length∧
  (∀z∈s.l,z.refs h0=true)∧(∀a∈la,(NU x a.d||NU v a.d)=true→gN ops 4 s.i a.i=true)∧Iq ops s.i s.j la h0=true
theorem m5{T:TT}{E:Env}{ops:Array Oper}{l:Array Bool}{la:List AlA}{h0:Nat}{La:SL}{Ha:List Item}:∀{lo:List Oper} {i0:Nat} {ss:List AlS},alS T E ops l la h0 La Ha lo i0=some ss→
  (∀q o,lo[q]?=some o→l.getD (i0+q) true=false→bO o=false→fO E o=false→∃s∈ss,s.i=i0+q)∧
  (∀s∈ss,i0≤s.i∧l.getD s.i true=false∧∃o,lo[s.i-i0]?=some o∧bO o=false∧ae0 T ops la h0 La Ha s o)∧ss.Pairwise (fun s p=>IM s p=true)
 |[],_,_,h=>by
  simp only[alS,au0]at h
  subst h
  exact⟨fun q o h=>(by simp at h),fun a h=>(by cases h),List.Pairwise.nil⟩
 |o::r,i,ss,h=>by
  simp only[alS]at h
  have sub:∀{ss:List AlS},(∀s∈ss,i+1≤s.i∧l.getD s.i true=false∧∃o,r[s.i-(i+1)]?=some o∧bO o=false∧ae0 T ops la h0 La Ha s o)→∀s∈ss,i≤s.i∧l.getD s.i true=false∧∃o',(o::r)[s.i-i]?=some o'∧bO o'=false∧ae0 T ops la h0 La Ha s o':=fun h a ha=>by
   obtain⟨h1,h1',o',h2,h3⟩:=h a ha
   exact⟨by omega,h1',o',by rw[show a.i-i=(a.i-(i+1))+1 by omega,avx];exact h2,h3⟩
  split at h
  ·rename_i hal
   obtain⟨h1,h2,h3⟩:=m5 h
   refine⟨fun q o' hq hu ho ht=>?_,sub h2,h3⟩
   cases q with
   |zero=>
    simp only[avH,au0]at hq
    subst hq
    rw[show i+0=i from rfl]at hu
    rw[hu,ho,ht]at hal
    cases hal
   |succ q=>
    rw[avx]at hq
    obtain⟨s,k1,k2⟩:=h1 q o' hq (by rw[show i+1+q=i+(q+1) by omega];exact hu) ho ht
    exact⟨s,k1,by omega⟩
  ·rename_i hal
   simp only[aw5]at hal
   split at h<;>try (cases h;done)
   rename_i t x v hop
   split at h<;>try (cases h;done)
   rename_i j off sv y hg hdst hx hv hy
   split at h<;>try (cases h;done)
   rename_i cs bt cells ss' hcs hH hss
   split at h<;>try (cases h;done)
   rename_i hall
   injection h with h
   subst h
   simp only[auW]at hall
   obtain⟨⟨⟨⟨⟨c1,c2⟩,c3⟩,c4⟩,c5⟩,c6⟩:=hall
   obtain⟨h1,h2,h3⟩:=m5 hss
   refine⟨fun q o' hq hu ho ht=>?_,fun s hs=>?_,avh.2 ⟨fun p hp=>avg.1 c6 p hp,h3⟩⟩
   ·cases q with
    |zero=>exact⟨_,List.mem_cons_self ..,rfl⟩
    |succ q=>
     rw[avx]at hq
     obtain⟨s,k1,k2⟩:=h1 q o' hq (by rw[show i+1+q=i+(q+1) by omega];exact hu) ho ht
     exact⟨s,by simp[k1],by omega⟩
   ·rcases au5.1 hs with e|hs
    ·subst e
     exact⟨auY _,hal.1.1,o,by simp,hal.1.2,t,x,v,sv,y,bt,cells,hop,hg,hdst,hx,hv,hy,hcs,hH,auV c1,auZ c2,avg.1 c3,fun a ha hw=>by
      have:=avg.1 c4 a ha
      rw[hw]at this
      simpa using this,c5⟩
    ·exact sub h2 s hs
theorem C7{ops:Array Oper}{i j:Nat}:∀{la:List AlA} {k r:Nat} {a:AlA},Iq ops i j la k=true→la[r]?=some a→j=k+r→gN ops 4 i a.i=true
 |[],_,_,_,_,h,_=>by simp at h
 |b::l,k,0,a,h,ha,hj=>by
  simp only[avH,au0]at ha
  subst ha
  simp only[Iq,auW,awz,avL]at h
  rcases h.1 with h1|h1
  ·rw[hj,axH,axr]at h1;cases h1
  ·exact h1
 |b::l,k,r+1,a,h,ha,hj=>by
  rw[avx]at ha
  simp only[Iq,auW]at h
  exact C7 h.2 ha (by omega)
theorem gJ{l:Array Bool}{k:Nat}(h:k<l.size):l.getD k false=l.getD k true:=by simp[h]
theorem xJ{ops:Array Oper}{l':Array Bool}(hs:l'.size=ops.size):∀{C:List Nat} {l:Array Bool},IG ops l C=true→(∀k,l.getD k false=true→l'.getD k false=true)→(∃i∈C,l'.getD i true=false)→Region.ready .any ops l'≠[]
 |[],_,_,_,⟨_,h,_⟩=>by cases h
 |i::r,l,h,hsub,⟨k,hk,hu⟩=>by
  simp only[IG,auW]at h
  obtain⟨h1,h2⟩:=h
  split at h1<;>try (cases h1;done)
  rename_i o ho
  have hlt:i<l'.size:=by rw[hs];exact(au7.1 ho).1
  cases hi:l'.getD i true with
  |false=>
   intro hr
   have:i∈Region.ready .any ops l':=av5.2 ⟨hi,o,ho,fun e he hb=>by
    have:=avg.1 h1 e (axB.2 he)
    rw[hb]at this
    exact hsub _ (by simpa using this)⟩
   rw[hr]at this
   cases this
  |true=>
   refine xJ hs h2 (fun q hq=>?_) ⟨k,(au5.1 hk).resolve_left fun e=>(by subst e;rw[hi]at hu;cases hu),hu⟩
   by_cases e:i=q
   ·subst e;rw[gJ hlt];exact hi
   ·rw[awG false e]at hq
    exact hsub q hq
def cu(l:Array Bool):Nat:=l.toList.countP fun b=>!b
theorem AU:∀(l:List Bool) (j:Nat),l[j]?=some false→(l.set j true).countP (fun b=>!b)+1=l.countP (fun b=>!b)
 |[],_,h=>by simp at h
 |b::l,0,h=>by
  simp only[avH,au0]at h
  subst h
  simp
 |b::l,j+1,h=>by
  rw[avx]at h
  have:=AU l j h
  rw[List.set_cons_succ]
  cases b<;>simp<;>omega
theorem BN{l:Array Bool}{j:Nat}(h:l.getD j true=false):cu (l.setIfInBounds j true)+1=cu l:=by
 unfold cu
 rw[Array.toList_setIfInBounds]
 refine AU _ _ ?_
 rcases avo j l.size with hlt|hge
 ·simp[hlt]at h ⊢;exact h
 ·simp[avE hge]at h
theorem aap{l:Array Bool}(h:cu l=0)(k:Nat):l.getD k true=true:=by
 rcases avo k l.size with hlt|hge
 ·have:=List.countP_eq_zero.1 h l[k] (by simp)
  simp[hlt]at this ⊢
  exact this
 ·simp[avE hge]
theorem J6(n:Nat):cu (mkL n [])=n:=by
 unfold cu mkL
 rw[Array.toList_replicate,List.countP_replicate]
 simp
section
def Old(w w':World):Prop:=w.heap.size≤w'.heap.size∧∀b,b<w.heap.size→w'.heap[b]?=w.heap[b]?
theorem Old.refl(w:World):Old w w:=⟨auY _,fun _ _=>rfl⟩
theorem Fe{G G':List Value}{A A':Nat→Prop}{w w':World}{h0:Nat}(hk:Keeps A A' w w'){s:SV}{v:Value}(h:Rel1 G A w s v)(hs:s.refs h0=true)(hG:∀j g,j<h0→G[j]?=some g→G'[j]?=some g):Rel1 G' A' w' s v:=by
 have lt:∀{j:Nat},Nat.ble (j+1) h0=true→j<h0:=fun h=>auZ h
 cases s with
 |d t x=>obtain⟨cs,h1,h2⟩:=h;exact⟨cs,Ty.rd_keep hk h1,h2⟩
 |nil=>exact h
 |box j off=>obtain⟨b,h1,h2⟩:=h;exact⟨b,hG j _ (lt hs) h1,h2⟩
 |elt e x off=>
  obtain⟨b,o,cs,h1,h2,h3,h4,h5⟩:=h
  exact⟨b,o,cs,h1,hk.sub b h3 h2,aww h3 hk.size,Ty.rd_keep hk h4,hk.cells h3 h2 h5⟩
 |own j=>exact hG j v (lt hs) h
 |oelt j sz i off=>obtain⟨b,n,c,h1,h2⟩:=h;exact⟨b,n,c,hG j _ (lt hs) h1,h2⟩
 |clo f caps=>
  obtain⟨bs,h1,h2⟩:=h
  refine⟨bs,?_,h2⟩
  simp only[SV.refs]at hs
  clear h2
  induction caps generalizing bs with
  |nil=>cases bs<;>exact h1
  |cons c caps ih=>
   match bs,h1 with
   |b::bs,⟨q1,q2⟩=>
    simp only[axe,auW]at hs
    exact⟨hG c _ (lt hs.1) q1,ih hs.2 bs q2⟩
 |tup l=>exact h.elim
 |undef=>exact h
 |dead=>trivial
 |cut e xs=>obtain⟨p,h1,h2⟩:=h;exact⟨p,Ty.rd_keep hk h1,h2⟩
 |osl j sz lo n=>obtain⟨g,q,c,h1,h2⟩:=h;exact⟨g,q,c,hG j _ (lt hs) h1,h2⟩
theorem PF{G G':List Value}{A A':Nat→Prop}{w w':World}{h0:Nat}(hk:∀s v,s.refs h0=true→Rel1 G A w s v→Rel1 G' A' w' s v){s:SV}{v:Value}(h:Rel G A w s v)(hs:s.refsT h0=true):Rel G' A' w' s v:=by
 cases s with
 |tup l=>
  obtain⟨vs,h1,h2⟩:=h
  refine⟨vs,h1,?_⟩
  clear h1
  induction l generalizing vs with
  |nil=>cases vs<;>exact h2
  |cons s l ih=>
   simp only[SV.refsT,axe,auW]at hs
   match vs,h2 with
   |v::vs,⟨g1,g2⟩=>exact⟨hk s v hs.1 g1,ih hs.2 vs g2⟩
 |_=>rw[ud (fun l e=>by cases e)]at hs;exact eG (hk _ _ hs (nt h (fun l e=>by cases e)))
section
variable {Z:Nat→Prop} {w0:World} {H:List Item} {G:List Value} {w:World}
theorem uB(hr:SR Z w0 H G w):nG H.length H:=by
 intro k t cs hk x hx
 have hlt:k<G.length:=by rw[hr.len];exact(au1.1 hk).1
 obtain⟨b,vs,_,_,_,h4⟩:=hr.items k _ _ hk (auP hlt)
 obtain⟨i,hi,rfl⟩:=axd hx
 obtain⟨v,_,hv⟩:=iL h4 i _ (auP hi)
 exact ut hr hv
theorem abZ{it:Item}{g:Value}{h0 k:Nat}(hr:SR Z w0 (H++[it]) (G++[g]) w)(hl:G.length=H.length)(hk:H[k]?=some .gone)(h0k:h0≤k)(hlow:nG h0 (H++[it])):
  SR Z w0 (H.set k it) (G.set k g) w∧(∀b,Av Z (H++[it]) (G++[g]) b↔Av Z (H.set k it) (G.set k g) b):=by
 have hkl:=(au1.1 hk).1
 have a1:∀{j:Nat} {x:Item},j≠k→(H.set k it)[j]?=some x→j<H.length∧(H++[it])[j]?=some x:=fun{j x} hj h=>by
  rw[awa (awm hj)]at h
  have:=(au1.1 h).1
  exact⟨this,by rw[au8 this];exact h⟩
 have a2:∀{j:Nat} {x:Value},j≠k→(G.set k g)[j]?=some x→(G++[g])[j]?=some x:=fun{j x} hj h=>by
  rw[awa (awm hj)]at h
  rw[au8 (au1.1 h).1];exact h
 have b1:(H.set k it)[k]?=some it:=awE hkl
 have b2:(G.set k g)[k]?=some g:=awE (by omega)
 have c1:(H++[it])[H.length]?=some it:=by rw[au9 (auY _),awr];rfl
 have c2:(G++[g])[H.length]?=some g:=by rw[au9 (by omega),hl,awr];rfl
 have d1:∀{j:Nat} {x:Item},(H++[it])[j]?=some x→(j<H.length∧H[j]?=some x)∨(j=H.length∧x=it):=fun{j x} h=>by
  rcases avo j H.length with hlt|hge
  ·rw[au8 hlt]at h;exact .inl ⟨hlt,h⟩
  ·rw[au9 hge]at h
   have hj:j-H.length=0:=by
    rcases avB (j-H.length)with h0|h0
    ·exact h0
    ·rw[av1 (by simp;omega)]at h;cases h
   rw[hj]at h
   simp only[avH,au0]at h
   exact .inr ⟨by omega,h.symm⟩
 have hav:∀b,Av Z (H++[it]) (G++[g]) b↔Av Z (H.set k it) (G.set k g) b:=by
  refine fun b=>⟨fun h=>⟨h.1,fun j x y hx hlv hy=>?_⟩,fun h=>⟨h.1,fun j x y hx hlv hy=>?_⟩⟩
  ·by_cases hj:j=k
   ·subst hj
    rw[b1]at hx;rw[b2]at hy
    injection hx with hx;injection hy with hy
    subst hx hy
    exact h.2 _ _ _ c1 hlv c2
   ·exact h.2 j x y (a1 hj hx).2 hlv (a2 hj hy)
  ·rcases d1 hx with⟨h1,h2⟩|⟨h1,h2⟩
   ·have hj:j≠k:=fun e=>by subst e;rw[hk]at h2;injection h2 with h2;subst h2;cases hlv
    refine h.2 j x y (by rw[awa (awm hj)];exact h2) hlv ?_
    rw[au8 (by omega)]at hy
    rw[awa (awm hj)];exact hy
   ·subst h1 h2
    rw[c2]at hy
    injection hy with hy
    subst hy
    exact h.2 k _ _ b1 hlv b2
 have hkp:Keeps (Av Z (H++[it]) (G++[g])) (Av Z (H.set k it) (G.set k g)) w w:=⟨auY _,fun b _ h=>(hav b).1 h,fun _ _ _=>rfl⟩
 have hG:∀j x,j<h0→(G++[g])[j]?=some x→(G.set k g)[j]?=some x:=fun j x hj h=>by
  rw[au8 (by omega)]at h
  rw[awa (by omega)];exact h
 have hit:∀{j:Nat} {x:Item} {y:Value},(H++[it])[j]?=some x→ItemRel w0.heap.size (G++[g]) (Av Z (H++[it]) (G++[g])) w x y→ItemRel w0.heap.size (G.set k g) (Av Z (H.set k it) (G.set k g)) w x y:=by
  intro j x y hx h
  cases x with
  |box t cs=>
   obtain⟨b,vs,e1,e2,e3,e4⟩:=h
   refine⟨b,vs,e1,e2,e3,?_⟩
   have hc:=hlow j t cs hx
   clear e1 e3 hx
   induction cs generalizing vs with
   |nil=>cases vs<;>exact e4
   |cons s l ih=>
    match vs,e4 with
    |v::vs,⟨q1,q2⟩=>exact⟨Fe hkp q1 (hc s (by simp)) hG,ih vs q2 (fun s hs=>hc s (by simp[hs]))⟩
  |row et e xs=>
   obtain⟨css,e1,e2,e3⟩:=h
   exact⟨css,e1,co (fun _ _ h=>Ty.rd_keep hkp h) e2,e3⟩
  |gone=>trivial
 refine⟨⟨by simp[hl],hr.below,fun j x y hx hy=>?_,fun i j x y gx gy b hij hx hy hlx hly hgx hgy hb=>?_,hr.zf⟩,hav⟩
 ·by_cases hj:j=k
  ·subst hj
   rw[b1]at hx;rw[b2]at hy
   injection hx with hx;injection hy with hy
   subst hx hy
   exact hit c1 (hr.items _ _ _ c1 c2)
  ·exact hit (a1 hj hx).2 (hr.items j x y (a1 hj hx).2 (a2 hj hy))
 ·have key:∀{j:Nat} {x:Item} {y:Value},(H.set k it)[j]?=some x→(G.set k g)[j]?=some y→∃j',(j'=if j=k then H.length else j)∧(H++[it])[j']?=some x∧(G++[g])[j']?=some y:=by
   intro j x y hx hy
   by_cases hj:j=k
   ·subst hj
    rw[b1]at hx;rw[b2]at hy
    injection hx with hx;injection hy with hy
    subst hx hy
    exact⟨_,rfl,by rw[avn rfl];exact c1,by rw[avn rfl];exact c2⟩
   ·exact⟨_,rfl,by rw[avf hj];exact(a1 hj hx).2,by rw[avf hj];exact a2 hj hy⟩
  obtain⟨i',ei,i1,i2⟩:=key hx hgx
  obtain⟨j',ej,j1,j2⟩:=key hy hgy
  refine hr.disj i' j' x y gx gy b ?_ i1 j1 hlx hly i2 j2 hb
  rw[ei,ej]
  by_cases h1:i=k
  ·by_cases h2:j=k
   ·omega
   ·rw[avn h1,avf h2];have:=(a1 h2 hy).1;omega
  ·by_cases h2:j=k
   ·rw[avf h1,avn h2];have:=(a1 h1 hx).1;omega
   ·rw[avf h1,avf h2];exact hij
theorem XI(hr:SR Z w0 H G w){h0 k:Nat}(hk:H[k]?=some .gone)(h0k:h0≤k)(hlow:nG h0 H){t:TypeId}{cs:List SV}{vs:Array Value}(hz:∀s∈cs,s.refs h0=true)(hcs:cM (Rel1 G (Av Z H G) w) cs vs.toList):
  ∃G',SR Z w0 (H.set k (.box t cs)) G' (w.alloc (.cells vs t))∧(∀s v,s.refs h0=true→Rel1 G (Av Z H G) w s v→Rel1 G' (Av Z (H.set k (.box t cs)) G') (w.alloc (.cells vs t)) s v)∧
   (∀j off v,j≠k→Rel1 G (Av Z H G) w (.box j off) v→Rel1 G' (Av Z (H.set k (.box t cs)) G') (w.alloc (.cells vs t)) (.box j off) v)∧
   Rel1 G' (Av Z (H.set k (.box t cs)) G') (w.alloc (.cells vs t)) (.box k 0) (.pointer (some ⟨w.heap.size,0,none⟩)):=by
 have hb:=jo w (.cells vs t)
 have hg:∀b,cp (.pointer (some ⟨w.heap.size,0,none⟩))=some b→w.heap.size≤b:=fun b h=>by simp[cp]at h;omega
 have hst:=mo (it:=.box t cs) hr hb hg
 have hsr:=CD (it:=.box t cs) hr hb hg ⟨w.heap.size,vs.toList,rfl,hr.below.size,Blk.new w t vs,co (fun s v h=>dL hr hst h) hcs⟩
 have hkl:=(au1.1 hk).1
 have hl:=hr.len
 obtain⟨m1,m2⟩:=abZ hsr hl hk h0k (by
  intro j u cs' hj x hx
  rcases avo j H.length with hlt|hge
  ·rw[au8 hlt]at hj;exact hlow j u cs' hj x hx
  ·rw[au9 hge]at hj
   have hj':=avq hj
   simp only[avR,Item.box.injEq]at hj'
   obtain⟨rfl,rfl⟩:=hj'
   exact hz x hx)
 have hkp:Keeps (Av Z (H++[.box t cs]) (G++[.pointer (some ⟨w.heap.size,0,none⟩)])) (Av Z (H.set k (.box t cs)) (G.set k (.pointer (some ⟨w.heap.size,0,none⟩)))) (w.alloc (.cells vs t)) (w.alloc (.cells vs t)):=⟨auY _,fun b _ h=>(m2 b).1 h,fun _ _ _=>rfl⟩
 refine⟨_,m1,fun s v hs h=>Fe hkp (dL hr hst h) hs fun j x hj h=>?_,fun j off v hj h=>?_,⟨_,awE (by omega),rfl⟩⟩
 ·rw[au8 (by omega)]at h
  rw[awa (by omega)];exact h
 ·obtain⟨b,h1,h2⟩:=h
  exact⟨b,by rw[awa (awm hj)];exact h1,h2⟩
theorem Ad{n:Nat}{L:SL}{a:Act}(f:Nat→Bool):∀{la:List AlA} {H:List Item} {G:List Value},(∀x∈la,f x.i=false)→SR Z w0 H G w→FR Z n L H G w a→∃G',SR Z w0 (H++alX f la) G' w∧FR Z n L (H++alX f la) G' w a∧(∀s v,Rel1 G (Av Z H G) w s v→Rel1 G' (Av Z (H++alX f la) G') w s v)
 |[],H,G,_,hr,hf=>by
  refine⟨G,?_⟩
  rw[show alX f []=[] from rfl,avs]
  exact⟨hr,hf,fun _ _ h=>h⟩
 |x::la,H,G,hx,hr,hf=>by
  have hg:∀b,cp undef=some b→w.heap.size≤b:=fun b h=>by simp[cp,undef]at h
  have hst:=mo (it:=.gone) (g:=undef) hr (axV _ _) hg
  have h1:=CD (it:=.gone) (g:=undef) hr (axV _ _) hg trivial
  obtain⟨G',k1,k2,k3⟩:=Ad f (la:=la) (fun y hy=>hx y (by simp[hy])) h1 (hf.keep fun s v h=>dL hr hst h)
  have e:H++alX f (x::la)=(H++[.gone])++alX f la:=by
   rw[show alX f (x::la)=(match f x.i with|true=>.box x.t x.cs|false=>.gone)::alX f la from rfl,hx x (by simp)]
   simp
  rw[e]
  exact⟨G',k1,k2,fun s v h=>k3 s v (dL hr hst h)⟩
end
theorem yQ{h0:Nat}:∀{t:Ty},∀s∈t.zsplit,s.refs h0=true:=by
 intro t
 induction t with
 |pair a b iha ihb=>
  intro s hs
  simp only[Ty.zsplit,avj]at hs
  exact hs.elim (iha s) (ihb s)
 |st a ih=>intro s hs;simp only[Ty.zsplit]at hs;exact ih s hs
 |sl e=>intro s hs;simp only[Ty.zsplit,avR]at hs;subst hs;rfl
 |_=>intro s hs;simp only[Ty.zsplit,avR]at hs;subst hs;rfl
end
section
theorem JL{H:List Item}{s:SV}{l:List SV}(h:gf [] s=some l):gf H s=some l:=by
 unfold gf at h ⊢
 split at h<;>first
  |(cases h;done)
  |exact h
  |(split at h<;>first
    |(cases h;done)
    |(rename_i hj;simp at hj;done)
    |(rename_i hg;simp only[hg];exact h))
def Aw(h0:Nat)(la:List AlA)(f:Nat→Bool)(L:SL):Prop:=∀t s,aW L t=some s→s.refsT h0=true∨∃(r:Nat) (a:AlA),la[r]?=some a∧f a.i=true∧s=.box (h0+r) 0
theorem aaG{h0:Nat}{la:List AlA}{f:Nat→Bool}{L:SL}(h:∀t s,aW L t=some s→s.refsT h0=true):Aw h0 la f (gh f la h0 L):=by
 intro t s hs
 rcases HU hs with⟨r,a,h1,_,h3,h4⟩|h1
 ·exact .inr ⟨r,a,h1,h3,h4⟩
 ·exact .inl (h t s h1)
section
variable {P:Program} {T:TT} {E:Env} {ops:Array Oper} {Z:Nat→Prop} {w0:World} {N fl:Nat} {Q:Exit→Act→World→Prop} {X:List Item→List Value→World→Prop}
theorem rR{H:List Item}{G:List Value}{w:World}{a:Act}{L L':SL}{h0 r j:Nat}{la:List AlA}{x:AlA}{oj:Oper}{f:Nat→Bool}{K:Act→World→Prop}{Qx:Exit→Act→World→Prop}(hT:fj P T=true)(hoj:ops[j]?=some oj)(hal:bO oj=true)
  (hla:la[r]?=some x) (hdst:oj.dst=some x.d) (hd:x.d<N) (hop:oj.op=.alloc x.t) (hxx:∃y,dK T x.t=some y∧y.z=true∧(∀p q,y.ty≠.pair p q)∧x.cs=y.ty.zsplit) (_hD:Dis la) (hfx:f x.i=false)
  (hk:H[h0+r]?=some .gone) (hlow:nG h0 H) (hL:Aw h0 la f L) (hfl:fl≤h0) (hr:SR Z w0 H G w) (hf:FR Z N L H G w a) (hx:X H G w) (hX:∀H G w H' G' w',X H G w→Ev Z fl H G w H' G' w'→X H' G' w') (hL':∀t,aW L' t=if t=x.d then some (.box (h0+r) 0)else aW L t)
  (hK:∀v G' w',Old w w'→SR Z w0 (H.set (h0+r) (.box x.t x.cs)) G' w'→FR Z N L' (H.set (h0+r) (.box x.t x.cs)) G' w' (a.put oj.dst v)→X (H.set (h0+r) (.box x.t x.cs)) G' w'→K (a.put oj.dst v) w'):wpOp P ops Qx j K a w:=by
 obtain⟨y,hy,hz,hne,hcs⟩:=hxx
 have hg:oj.guard=none:=by
  unfold bO at hal
  rw[hop]at hal
  cases hq:oj.guard with
  |none=>rfl
  |some x=>rw[hq]at hal;simp at hal
 have hck:=a9 hT hy
 obtain⟨inf,hinf,hzero⟩:=An hck hz
 have hc:(mkV y.ty (zc y.ty)).cells.toList=zc y.ty:=kb (by
  generalize y.ty=ty at*
  cases ty<;>first|exact .inr rfl|exact .inl rfl|exact(hne _ _ rfl).elim)
 obtain⟨G',k1,k2,k3,k4⟩:=XI (t:=x.t) (cs:=x.cs) (vs:=(mkV y.ty (zc y.ty)).cells) hr hk (by omega) hlow (by rw[hcs];exact yQ) (by rw[hcs,hc];exact kY)
 have hrun:(execOp a.eval oj).run P w=.ok (.value (.pointer (some ⟨w.heap.size,0,none⟩))) (w.alloc (.cells (mkV y.ty (zc y.ty)).cells x.t)):=by
  simp[execOp,hop,Instr.alloc,zeroValue,typeInfo,hinf,hzero,newVar,newRow]
 unfold wpOp
 simp only[hoj]
 rw[avn (by simp[Region.wanted,hg])]
 refine .inl ?_
 unfold Oper.wp
 rw[hrun]
 refine hK _ G' _ ⟨(jo w (.cells (mkV y.ty (zc y.ty)).cells x.t)).size,fun b hb=>(jo w (.cells (mkV y.ty (zc y.ty)).cells x.t)).block b hb⟩ k1 ?_ (hX _ _ _ _ _ _ hx fun s v h hs=>k2 s v (qx hfl hs) h)
 have hf1:FR Z N L (H.set (h0+r) (.box x.t x.cs)) G' (w.alloc (.cells (mkV y.ty (zc y.ty)).cells x.t)) a:=by
  refine⟨hf.defers,hf.size,fun t s hs=>?_⟩
  obtain⟨v,h1,h2⟩:=hf.slot t s hs
  refine⟨v,h1,?_⟩
  rcases hL t s hs with h3|⟨r',b,h3,h4,rfl⟩
  ·exact PF (fun s v hs h=>k2 s v hs h) h2 h3
  ·refine k3 _ _ v (fun e=>?_) h2
   have e:r'=r:=by omega
   subst e
   rw[hla]at h3
   injection h3 with h3
   subst h3
   rw[hfx]at h4
   cases h4
 have hf2:=hf1.put (d:=oj.dst) (L':=(x.d,.box (h0+r) 0)::nz L x.d) (s:=.box (h0+r) 0) (v:=.pointer (some ⟨w.heap.size,0,none⟩)) (by
  rw[hdst]
  simp only[d7]
  rw[avp (show x.d+1≤N from hd)]) k4
 exact⟨hf2.defers,hf2.size,fun t s hs=>hf2.slot t s (by rw[eF,←hL' t];exact hs)⟩
structure PlanOk (T:TT) (ops:Array Oper) (N:Nat) (H0:List Item) (la:List AlA) (ss:List AlS):Prop where
 dis:Dis la
 la2:∀a∈la,(∃o,ops[a.i]?=some o∧bO o=true)∧∀x∈a.cs,x.refs H0.length=true
 ss1:∀s∈ss,(∃o,ops[s.i]?=some o∧bO o=false∧o.dst=none)∧(∀x∈s.l,x.refs H0.length=true)∧Iq ops s.i s.j la H0.length=true∧∃bt cells,(H0++alX (fun _=>true) la)[s.j]?=some (.box bt cells)∧s.off+s.l.length≤cells.length
 far:ss.Pairwise (fun s p=>IM s p=true)
def rJ(T:TT)(L:SL)(s:AlS)(o:Oper):Prop:=∃t x v sv y,o.op=.store t x v∧o.guard=none∧o.dst=none∧opS L x=some (.box s.j s.off)∧opS L v=some sv∧dK T t=some y∧gf [] sv=some s.l∧s.l.length=y.ty.n
theorem xe{l0:Array Bool}{H0:List Item}{La:SL}{la:List AlA}{ss:List AlS}(hA:alA T N ops.toList 0=some la)(hS:alS T E ops l0 la H0.length La (H0++alX (fun _=>true) la) ops.toList 0=some ss):PlanOk T ops N H0 la ss:=by
 obtain⟨a1,a2,a3⟩:=pe hA
 obtain⟨s1,s2,s3⟩:=m5 hS
 refine⟨a3,fun a ha=>?_,fun s hs=>?_,s3⟩
 ·obtain⟨_,o,ho,hal,y,hy⟩:=a2 a ha
  rw[axJ,avY]at ho
  exact⟨⟨o,ho,hal⟩,by rw[hy];exact yQ⟩
 ·obtain⟨_,_,o,ho,hal,t,x,v,sv,y,bt,cells,q1,q2,q3,q4,q5,q6,q7,q8,q9,q10,q11,q12,q13⟩:=s2 s hs
  rw[axJ,avY]at ho
  exact⟨⟨o,ho,hal,q3⟩,q11,q13,bt,cells,q8,q10⟩
theorem Mw{la:List AlA}(hA:alA T N ops.toList 0=some la):∀{j:Nat} {o:Oper},ops[j]?=some o→bO o=true→∃(r:Nat) (a:AlA),la[r]?=some a∧a.i=j∧o.dst=some a.d∧a.d<N∧∃x,o.op=.alloc a.t∧dK T a.t=some x∧x.z=true∧(∀p q,x.ty≠.pair p q)∧a.cs=x.ty.zsplit:=by
 intro j o ho hal
 obtain⟨r,a,h1,h2,h3⟩:=(pe hA).1 j o (by rw[avY];exact ho) hal
 exact⟨r,a,h1,by omega,h3⟩
theorem kE{l:Array Bool}{i j:Nat}(hcl:Clo ops l)(hj:∀os,ops[j]?=some os→∀e∈os.after,Region.binds .any e=true→l.getD e.on false=true)(h:gN ops 4 j i=true):l.getD i true=true:=by
 have:=vh hcl h hj
 rcases avo i l.size with h'|h'
 ·rw[←gJ h'];exact this
 ·simp[avE h']at this
section
variable {H0:List Item} {la:List AlA} {ss:List AlS} {l:Array Bool}
theorem PlanOk.wt(hp:PlanOk T ops N H0 la ss)(hcl:Clo ops l)(hl:l.size=ops.size){s:AlS}{i:Nat}(hs:dn l s.i=true)(hm:s∈ss)(h:gN ops 4 s.i i=true):l.getD i true=true:=by
 obtain⟨⟨o,ho,_⟩,_⟩:=hp.ss1 s hm
 have hlt:s.i<l.size:=by rw[hl];exact(au7.1 ho).1
 exact kE hcl (fun os hos e he hb=>hcl s.i os hos hs e he hb) h
theorem PlanOk.setA(hp:PlanOk T ops N H0 la ss)(hcl:Clo ops l)(hl:l.size=ops.size){r:Nat}{x:AlA}(h1:la[r]?=some x)(hju:l.getD x.i true=false):
  cV (dn (l.setIfInBounds x.i true)) ss (H0++alX (dn (l.setIfInBounds x.i true)) la)=(cV (dn l) ss (H0++alX (dn l) la)).set (H0.length+r) (.box x.t x.cs)∧(cV (dn l) ss (H0++alX (dn l) la))[H0.length+r]?=some .gone:=by
 have hup:=jr l x.i
 obtain⟨⟨oj,hoj,hal⟩,_⟩:=hp.la2 x (avq h1)
 have hne:∀s∈ss,dn l s.i=true→s.j≠H0.length+r:=fun s hs hds e=>by
  have:=hp.wt hcl hl hds hs (C7 (hp.ss1 s hs).2.2.1 h1 e)
  rw[hju]at this
  cases this
 refine⟨?_,?_⟩
 ·rw[JN hp.dis h1 hup,lk (g:=dn l) fun s hs=>?_,xR hne]
  rw[hup,avf]
  intro e
  obtain⟨⟨o,ho,hal',_⟩,_⟩:=hp.ss1 s hs
  rw[e,hoj]at ho
  injection ho with ho
  subst ho
  rw[hal]at hal'
  cases hal'
 ·have h3:(H0++alX (dn l) la)[H0.length+r]?=some .gone:=by
   rw[au9 (by omega),show H0.length+r-H0.length=r by omega,um,h1]
   simp only[avS]
   rw[show dn l x.i=false from hju]
  have h4:H0++alX (dn l) la=(H0++alX (dn l) la).set (H0.length+r) .gone:=by
   refine awF fun k=>?_
   rw[avm]
   split
   ·rename_i e;subst e;rw[h3,avn (au1.1 h3).1]
   ·rfl
  rw[h4,xR hne,awE (by rw[oN];exact(au1.1 h3).1)]
theorem PlanOk.same(hp:PlanOk T ops N H0 la ss){j:Nat}{oj:Oper}(hoj:ops[j]?=some oj)(hal:bO oj=false):alX (dn (l.setIfInBounds j true)) la=alX (dn l) la∧∀a∈la,dn (l.setIfInBounds j true) a.i=dn l a.i:=by
 have h:∀a∈la,dn (l.setIfInBounds j true) a.i=dn l a.i:=fun a ha=>by
  rw[jr,avf]
  intro e
  obtain⟨⟨o',h1,h2⟩,_⟩:=hp.la2 a ha
  rw[e,hoj]at h1
  injection h1 with h1
  subst h1
  rw[hal]at h2
  cases h2
 refine⟨?_,h⟩
 unfold alX
 exact List.map_congr_left fun a ha=>by rw[h a ha]
theorem PlanOk.setS(hp:PlanOk T ops N H0 la ss){s:AlS}(hsm:s∈ss)(hju:l.getD s.i true=false):
  cV (dn (l.setIfInBounds s.i true)) ss (H0++alX (dn (l.setIfInBounds s.i true)) la)=stP s (cV (dn l) ss (H0++alX (dn l) la)):=by
 obtain⟨⟨o,ho,hal,_⟩,_⟩:=hp.ss1 s hsm
 rw[(hp.same ho hal).1]
 exact Mb (jr l s.i) hju hp.far hsm
theorem PlanOk.setT(hp:PlanOk T ops N H0 la ss){j:Nat}{oj:Oper}{d:Nat}(hoj:ops[j]?=some oj)(hal:bO oj=false)(hd:oj.dst=some d):
  cV (dn (l.setIfInBounds j true)) ss (H0++alX (dn (l.setIfInBounds j true)) la)=cV (dn l) ss (H0++alX (dn l) la):=by
 rw[(hp.same hoj hal).1]
 refine lk fun s hs=>?_
 rw[jr,avf]
 intro e
 obtain⟨⟨o,ho,_,hdn⟩,_⟩:=hp.ss1 s hs
 rw[e,hoj]at ho
 injection ho with ho
 subst ho
 rw[hd]at hdn
 cases hdn
theorem PlanOk.low(hp:PlanOk T ops N H0 la ss)(hlowH:nG H0.length H0):nG H0.length (cV (dn l) ss (H0++alX (dn l) la)):=
 H9 (aaP hlowH fun a ha=>(hp.la2 a ha).2) fun s hs=>(hp.ss1 s hs).2.1
theorem PlanOk.box(hp:PlanOk T ops N H0 la ss)(hcl:Clo ops l){s:AlS}(hsm:s∈ss)(hj:∀os,ops[s.i]?=some os→∀e∈os.after,Region.binds .any e=true→l.getD e.on false=true):∃bt c',(cV (dn l) ss (H0++alX (dn l) la))[s.j]?=some (.box bt c')∧s.off+s.l.length≤c'.length:=by
 obtain⟨_,_,ht,bt,cells,q8,q10⟩:=hp.ss1 s hsm
 have:(H0++alX (dn l) la)[s.j]?=some (.box bt cells):=by
  rcases avo s.j H0.length with hlt|hge
  ·rw[au8 hlt]at q8 ⊢;exact q8
  ·rw[au9 hge,um]at q8 ⊢
   cases hb:la[s.j-H0.length]? with
   |none=>rw[hb]at q8;cases q8
   |some b=>
    rw[hb]at q8
    simp only[avS]at q8 ⊢
    rw[show dn l b.i=true from kE hcl hj (C7 ht hb (by omega))]
    exact q8
 obtain⟨c',b1,b2⟩:=Fv (f:=dn l) this (ss:=ss)
 exact⟨bt,c',b1,by omega⟩
theorem rW{H:List Item}{G:List Value}{w:World}{a:Act}{L:SL}{s:AlS}{oj:Oper}{bt:Nat}{c':List SV}{K:Act→World→Prop}{Qx:Exit→Act→World→Prop}(hT:fj P T=true)(hE:lN P E)(hI:inv w0)(hoj:ops[s.i]?=some oj)(hst:rJ T L s oj)(b1:H[s.j]?=some (.box bt c'))(b2:s.off+s.l.length≤c'.length)
  (hr:SR Z w0 H G w) (hf:FR Z N L H G w a) (hx:X H G w) (hX:∀H G w H' G' w',X H G w→Ev Z fl H G w H' G' w'→X H' G' w')
  (hK:∀G' w',SR Z w0 (stP s H) G' w'→FR Z N L (stP s H) G' w' a→X (stP s H) G' w'→K a w'):wpOp P ops Qx s.i K a w:=by
 obtain⟨t,x,v,sv,y,q1,q2,q3,q4,q5,q6,q7,q9⟩:=hst
 have hstP:stP s H=H.set s.j (.box bt (oM c' s.off s.l)):=by
  unfold stP
  rw[b1]
 have heop:eop T E fl L H oj (fun s H' L'=>some (s,H',L'))=some (.undef,stP s H,L):=by
  unfold eop
  rw[q1]
  dsimp only
  rw[q4,q5,q6]
  dsimp only
  rw[b1,JL q7]
  dsimp only
  rw[show Nat.beq s.l.length y.ty.n=true by rw[q9];exact axr _,avp (show s.off+s.l.length≤c'.length by omega),hstP]
  rfl
 unfold wpOp
 simp only[hoj]
 rw[avn (by simp[Region.wanted,q2])]
 refine .inl ?_
 unfold Oper.wp
 refine vJ hT hE hI hr hf heop fun s' H' L1 G' w' v' k1 k2 k3 k4 k5=>?_
 injection k1 with k1
 injection k1 with k1 k1'
 injection k1' with k1' k1''
 subst k1 k1' k1''
 rw[q3]
 exact hK G' w' k2 k3 (hX _ _ _ _ _ _ hx k5.ev)
end
theorem HC{l:Array Bool}{H0:List Item}{L0:SL}{la:List AlA}{s:AlS}{o:Oper}{Ha:List Item}(h:ae0 T ops la H0.length (gh (fun _=>true) la H0.length L0) Ha s o)(hcl:Clo ops l)(hj:∀os,ops[s.i]?=some os→∀e∈os.after,Region.binds .any e=true→l.getD e.on false=true):rJ T (gh (dn l) la H0.length L0) s o:=by
 obtain⟨t,x,v,sv,y,bt,cells,q1,q2,q3,q4,q5,q6,q7,q8,q9,q10,q11,q12,q13⟩:=h
 have hopd:∀{z:Operand} {sz:SV},(∀a∈la,NU z a.d=true→gN ops 4 s.i a.i=true)→opS (gh (fun _=>true) la H0.length L0) z=some sz→opS (gh (dn l) la H0.length L0) z=some sz:=by
  intro z sz hw hz
  cases z with
  |tmp u=>
   simp only[opS]at hz ⊢
   rw[←hz]
   refine iW (fun b hb e=>?_) rfl
   exact kE hcl hj (hw b hb (by simp[NU,e]))
  |_=>exact hz
 exact⟨t,x,v,sv,y,q1,q2,q3,hopd (fun b hb h=>q12 b hb (by rw[h];rfl)) q4,hopd (fun b hb h=>q12 b hb (by rw[h,Bool.or_true])) q5,q6,q7,q9⟩
set_option maxHeartbeats 1000000 in
theorem LQ{H0:List Item}{L0:SL}{l0:Array Bool}{la:List AlA}{ss:List AlS}(hT:fj P T=true)(hE:lN P E)(hI:inv w0)
  (hA:alA T N ops.toList 0=some la) (hS:alS T E ops l0 la H0.length (gh (fun _=>true) la H0.length L0) (H0++alX (fun _=>true) la) ops.toList 0=some ss) (hD:IG ops l0 (la.map (·.i)++ss.map (·.i))=true) (hW:Kp E ops l0 (la.map (·.i)++ss.map (·.i))=true)
  (hlowH:nG H0.length H0) (hlowL:∀t s,aW L0 t=some s→s.refsT H0.length=true) (hfl:fl≤H0.length) (hl0:l0.size=ops.size)
  (hX:∀H G w H' G' w',X H G w→Ev Z fl H G w H' G' w'→X H' G' w')
  (hEnd:∀(n:Nat) (l:Array Bool) G w a,cu l≤n→l.size=ops.size→(∀k,l0.getD k false=true→l.getD k false=true)→(∀k∈la.map (·.i)++ss.map (·.i),l.getD k true=true)→(∀k,l.getD k true=true→l0.getD k true=true∨k∈la.map (·.i)++ss.map (·.i))→Clo ops l→SR Z w0 (cV (fun _=>true) ss (H0++alX (fun _=>true) la)) G w→FR Z N (gh (fun _=>true) la H0.length L0) (cV (fun _=>true) ss (H0++alX (fun _=>true) la)) G w a→X (cV (fun _=>true) ss (H0++alX (fun _=>true) la)) G w→wpG P ops Q (fun _=>True) n l a w):
  ∀(n:Nat) (l:Array Bool),cu l≤n→l.size=ops.size→(∀k,l0.getD k false=true→l.getD k false=true)→(∀k,l.getD k true=true→l0.getD k true=true∨k∈la.map (·.i)++ss.map (·.i))→Clo ops l→∀(G:List Value) (w:World) (a:Act),
   SR Z w0 (cV (dn l) ss (H0++alX (dn l) la)) G w→FR Z N (gh (dn l) la H0.length L0) (cV (dn l) ss (H0++alX (dn l) la)) G w a→X (cV (dn l) ss (H0++alX (dn l) la)) G w→wpG P ops Q (fun _=>True) n l a w:=by
 obtain⟨a1,a2,a3⟩:=pe hA
 obtain⟨s1,s2,s3⟩:=m5 hS
 have hp:=xe hA hS
 have cov:∀{l:Array Bool},(∀k,l0.getD k false=true→l.getD k false=true)→∀{k:Nat} {o:Oper},ops[k]?=some o→l.getD k true=false→(∃(r:Nat) (x:AlA),la[r]?=some x∧x.i=k∧bO o=true)∨(∃s∈ss,s.i=k∧bO o=false)∨(fO E o=true∧l0.getD k true=false):=by
  intro l hsub k o ho hu
  have hk:ops.toList[k]?=some o:=by rw[avY];exact ho
  cases hal:bO o with
  |true=>
   obtain⟨r,x,h1,h2,_⟩:=a1 k o hk hal
   exact .inl ⟨r,x,h1,by omega,rfl⟩
  |false=>
   right
   have hlt:k<l0.size:=by rw[hl0];exact(au7.1 ho).1
   have h0:l0.getD (0+k) true=false:=by
    rw[avw]
    cases hq:l0.getD k true with
    |false=>rfl
    |true=>
     rw[←gJ hlt]at hq
     have:=hsub k hq
     rcases avo k l.size with h'|h'
     ·rw[gJ h',hu]at this;cases this
     ·simp[avE h']at hu
   cases ht:fO E o with
   |true=>rw[avw]at h0;exact .inr ⟨rfl,h0⟩
   |false=>
    obtain⟨s,h1,h2⟩:=s1 k o hk h0 hal ht
    exact .inl ⟨s,h1,by omega,rfl⟩
 have fin:∀{n:Nat} {l:Array Bool},cu l≤n→l.size=ops.size→(∀k,l0.getD k false=true→l.getD k false=true)→(∀k,l.getD k true=true→l0.getD k true=true∨k∈la.map (·.i)++ss.map (·.i))→Clo ops l→(∀k∈la.map (·.i)++ss.map (·.i),l.getD k true=true)→∀{G:List Value} {w:World} {a:Act},SR Z w0 (cV (dn l) ss (H0++alX (dn l) la)) G w→FR Z N (gh (dn l) la H0.length L0) (cV (dn l) ss (H0++alX (dn l) la)) G w a→X (cV (dn l) ss (H0++alX (dn l) la)) G w→wpG P ops Q (fun _=>True) n l a w:=by
  intro n l hcu hl hsub hin hcl hall G w a hr hf hx
  have e1:∀x∈la,dn l x.i=true:=fun x hx=>hall _ (awb _ (awc.2 ⟨x,hx,rfl⟩))
  have e2:∀s∈ss,dn l s.i=true:=fun s hs=>hall _ (awY _ (awc.2 ⟨s,hs,rfl⟩))
  have e3:alX (dn l) la=alX (fun _=>true) la:=by
   unfold alX
   exact List.map_congr_left fun x hx=>by rw[e1 x hx]
  have e4:cV (dn l) ss (H0++alX (dn l) la)=cV (fun _=>true) ss (H0++alX (fun _=>true) la):=by
   rw[e3]
   exact lk e2
  rw[e4]at hr hf hx
  refine hEnd n l G w a hcu hl hsub hall hin hcl hr ⟨hf.defers,hf.size,fun t s hs=>hf.slot t s ?_⟩ hx
  rw[←hs]
  exact iW (fun x hx _=>e1 x hx) rfl
 intro n
 induction n with
 |zero=>
  intro l hcu hl hsub hin hcl G w a hr hf hx
  exact fin hcu hl hsub hin hcl (fun k _=>aap (l:=l) (by omega) k) hr hf hx
 |succ n ih=>
  intro l hcu hl hsub hin hcl G w a hr hf hx
  by_cases hC:∀k∈la.map (·.i)++ss.map (·.i),l.getD k true=true
  ·exact fin hcu hl hsub hin hcl hC hr hf hx
  have hC':∃k∈la.map (·.i)++ss.map (·.i),l.getD k true=false:=by
   apply ave
   intro hn
   refine hC fun k hk=>?_
   cases hq:l.getD k true with
   |true=>rfl
   |false=>exact(hn ⟨k,hk,hq⟩).elim
  refine⟨fun h=>(xJ hl hD hsub hC' h).elim,fun j hj=>?_⟩
  obtain⟨hju,oj,hoj,hdep⟩:=av5.1 hj
  have hin':∀{i:Nat},i∈la.map (·.i)++ss.map (·.i)→∀k,(l.setIfInBounds i true).getD k true=true→l0.getD k true=true∨k∈la.map (·.i)++ss.map (·.i):=fun{i} hi k hk=>by
   have:=jr l i k
   rw[show dn (l.setIfInBounds i true) k=true from hk]at this
   by_cases e:k=i
   ·subst e;exact .inr hi
   ·rw[avf e]at this;exact hin k this.symm
  have hsub':∀k,l0.getD k false=true→(l.setIfInBounds j true).getD k false=true:=fun k hk=>axO (hsub k hk)
  have hcu':cu (l.setIfInBounds j true)≤n:=by have:=BN hju;omega
  have hjr:∀os,ops[j]?=some os→∀e∈os.after,Region.binds .any e=true→l.getD e.on false=true:=fun os hos e he hb=>by rw[hoj]at hos;injection hos with hos;subst hos;exact hdep e he hb
  rcases cov hsub hoj hju with⟨r,x,h1,h2,hal⟩|⟨s,hsm,h2,hal⟩|⟨ht,hu0⟩
  ·-- an allocation
   subst h2
   obtain⟨r',x',g1,g2,g3,g4,y,g5,g6⟩:=Mw hA hoj hal
   have e:r'=r:=by
    by_cases hh:r'=r
    ·exact hh
    ·exact absurd g2 (Zm a3 h1 g1 hh).1
   subst e
   rw[h1]at g1
   injection g1 with g1
   subst g1
   obtain⟨hset,hgone⟩:=hp.setA hcl hl h1 hju
   refine rR (L':=gh (dn (l.setIfInBounds x.i true)) la H0.length L0) hT hoj hal h1 g3 g4 g5 ⟨y,g6⟩ a3 hju hgone (hp.low hlowH) (aaG hlowL) hfl hr hf hx hX (DW (jr l x.i) a3 h1) fun v G' w' _ k1 k2 k3=>⟨.inr trivial,?_⟩
   rw[←hset]at k1 k2 k3
   exact ih _ hcu' (by simpa using hl) hsub' (hin' (awb _ (awc.2 ⟨x,avq h1,rfl⟩))) (hcl.set hj) G' w' _ k1 k2 k3
  ·-- a store
   subst h2
   obtain⟨_,_,o,ho,_,hok⟩:=s2 s hsm
   rw[axJ,avY,hoj]at ho
   injection ho with ho
   subst ho
   obtain⟨bt,c',b1,b2⟩:=hp.box hcl hsm hjr
   refine rW (fl:=fl) hT hE hI hoj (HC hok hcl hjr) b1 b2 hr hf hx hX fun G' w' k2 k3 k5=>⟨.inr trivial,?_⟩
   rw[←hp.setS hsm hju]at k2 k3 k5
   refine ih _ hcu' (by simpa using hl) hsub' (hin' (awY _ (awc.2 ⟨s,hsm,rfl⟩))) (hcl.set hj) G' w' _ k2 ?_ k5
   exact⟨k3.defers,k3.size,fun u su hs=>k3.slot u su (by rw[←iW (fun x hx _=>(hp.same hoj hal).2 x hx) rfl];exact hs)⟩
  ·-- a tame one waits for all
   exfalso
   obtain⟨k,hk,hku⟩:=hC'
   have hw:=avg.1 hW j (ax2.2 (au7.1 hoj).1)
   unfold eD at hw
   rw[hu0,hoj]at hw
   dsimp only at hw
   rw[ht]at hw
   simp only[Bool.not_true,Bool.or_false,Bool.false_or]at hw
   have:=kE hcl hjr (avg.1 hw k hk)
   rw[hku]at this
   cases this
end
end
end Go.Proofs.YtgddhgcjmddjfaaGreat
end
