/- The reference's monotone pieces. -/
import Derived.Test.YtoimchcjhdcdmaaGreatQ18
import Derived.Test.YtoimchcjhdcdmaaGreatQ16
import Derived.Test.YtoimchcjhdcdmaaGreatQ17
noncomputable section
namespace Go.Proofs.YtoimchcjhdcdmaaGreat
open Go.RowKit Go.IntKind
open Bool renaming true->T',false->F'
open Option renaming some->S',none->N'
open Decidable renaming decide->D'
section
open RE
def MF(c:BCU):Prop:=∃x,bK x/\(c=loN x\/c=hiN x)
instance (c:BCU):Decidable (MF c):=Classical.propDecidable _
def Dr(c:BCU):BCU:=bif D' (aB (dec c.2.2.2.2.1) (dec c.2.2.2.2.2)>0)then gJ c else c
theorem XS{c:BCU}(h:gdN c):mu c []=[c]:=by
 unfold mu uE gU;simp only[List.cons_append,aqS,aq9,List.foldl_nil,fZ];rw[dT (show ck (dC c) (dec c.2.2.2.2.1) (dec c.2.2.2.2.2)<0 from acm h)];rfl
def gP(e:BCU):Prop:=gdN e/\gS e/\(e.1=T'->jO (dC e) (db (ciC (dC e)))=F'/\jO (dC e) (df (ciC (dC e)))=F')
theorem GB(c:BCU):∀s:List BP,(wv c s).length<=s.length
 |[]=>aoU _
 |[_]=>arh _
 |x::y::r=>by
  have:=GB c (y::r);simp only[wv,ao8]at*
  omega
theorem RR(c:BCU)(l:List BP):(mu c l).length<=l.length+2:=ao1 (GB _ _) (Jz _ _)
def SO:List En:=[enL PS,enT akz,enK aaA,enT r9,enL Je,enL abn]
def afz:NT:=[((137,32),{keep:=[3,7,8],own:=[(7,48,tCU)],pure_:=[(3,tCU)],hl:=8,pd:=7,er:=[0,1,2,3,4,5,6]}),((137,53),{keep:=[3,7,8,9,10],pure_:=[(3,tCU)],hl:=9,er:=[0,1,2,3,4,5,6]})]
def kC:Ctx:=CX (ens SO) afz
def fN(s3:List BCU)(s8:Int)(r7:List BCU):Cfg:=⟨137,[.blk 0,.seq 64],[(3,.d (.sl tCU) s3),(7,.own 7),(8,SI s8)],[.gone,.gone,.gone,.gone,.gone,.gone,.gone,.row 48 tCU r7],0,[]⟩
def j7(s3:List BCU)(s8:Int)(r7:List BCU)(B8:BCU)(s10:Int):Cfg:=⟨137,[.blk 2,.seq 62,.blk 1,.seq 63,.lp 32,.blk 0,.seq 64],[(3,.d (.sl tCU) s3),(7,.own 7),(8,SI s8),(9,.box 8 0),(10,SI s10)],[.gone,.gone,.gone,.gone,.gone,.gone,.gone,.row 48 tCU r7,.box 48 (Ty.split tCU B8)],0,[]⟩
def BU(c:BCU)(k:KT):OLR:=match c.1 with|T'=>(og (D' (bK c.2.2.1)) (og (D' (okC 3500 c/\okP 3500 (hid (enc (db (dec c.2.2.1)))))) (match jO (dC c) (dec (hid (enc (db (dec c.2.2.1)))))with|T'=>(og (D' (([hid (enc (db (dec c.2.2.1)))]:List BP).length*320<=140737488355328/\([hid (enc (db (dec c.2.2.1)))]:List BP).length<=140737488355328)) (og (D' (okC 3500 c/\okP 3500 (hid (enc (df (dec c.2.2.1)))))) (match jO (dC c) (dec (hid (enc (df (dec c.2.2.1)))))with|T'=>(og (D' ((([hid (enc (db (dec c.2.2.1)))]).length+([hid (enc (df (dec c.2.2.1)))]).length)*320<=140737488355328/\([hid (enc (db (dec c.2.2.1)))]).length+([hid (enc (df (dec c.2.2.1)))]).length<=140737488355328)) (og (D' (vI c (([hid (enc (db (dec c.2.2.1)))])++([hid (enc (df (dec c.2.2.1)))])))) (k 32 (fN (mu c (([hid (enc (db (dec c.2.2.1)))])++([hid (enc (df (dec c.2.2.1)))]))) 0 ([])))))|F'=>(og (D' (vI c ([hid (enc (db (dec c.2.2.1)))]))) (k 32 (fN (mu c ([hid (enc (db (dec c.2.2.1)))])) 0 ([])))))))|F'=>(og (D' (okC 3500 c/\okP 3500 (hid (enc (df (dec c.2.2.1)))))) (match jO (dC c) (dec (hid (enc (df (dec c.2.2.1)))))with|T'=>(og (D' (([hid (enc (df (dec c.2.2.1)))]:List BP).length*320<=140737488355328/\([hid (enc (df (dec c.2.2.1)))]:List BP).length<=140737488355328)) (og (D' (vI c ([hid (enc (df (dec c.2.2.1)))]))) (k 32 (fN (mu c ([hid (enc (df (dec c.2.2.1)))])) 0 ([])))))|F'=>(og (D' (vI c ([]))) (k 32 (fN (mu c ([])) 0 ([])))))))))|F'=>k 32 (fN ([c]) 0 ([]))
theorem alJ(c:BCU):RS kC 137 [.d tCU c] (BU c):=rsX
def nj(s3:List BCU)(s8:Int)(r7:List BCU)(k:KT):OLR:=match D' (s8<(s3.length:Int))with|T'=>(match aH s3 s8 with|S' x1=>(og (D' (okP 4000 x1.2.2.2.2.1/\okP 4000 x1.2.2.2.2.2)) (match D' ((aB (dec x1.2.2.2.2.1) (dec x1.2.2.2.2.2))>0)with|T'=>k 53 (j7 s3 s8 r7 (hid (gJ x1)) 0)|F'=>k 53 (j7 s3 s8 r7 x1 0)))|N'=>N')|F'=>S' [RV.new 48 tCU r7]
theorem mZ(s3:List BCU)(s8:Int)(r7:List BCU):RN kC 32 (fN s3 s8 r7) (nj s3 s8 r7):=rnX
def nq(s3:List BCU)(s8:Int)(r7:List BCU)(B8:BCU)(s10:Int)(k:KT):OLR:=match D' (s10<(r7.length:Int))with|T'=>(match aH r7 s10 with|S' _=>(match T',r7[(s10).toNat]? with|T',S' x1=>(og (D' (Vh x1 B8)) (match D' ((UV x1 B8)<=0)with|T'=>k 53 (j7 s3 s8 r7 B8 (i64.wrap (s10+1)))|F'=>(og (D' ((0:Int)<=0/\0<=s10/\s10<=(r7.length:Int))) (og (D' ((0:Int)<=s10/\s10<=(r7.length:Int)/\(r7.length:Int)<=(r7.length:Int))) (og (D' ((([B8]).length+((r7.drop ((s10:Int).toNat)).take (((r7.length:Int):Int).toNat-(s10:Int).toNat)).length)*1040<=140737488355328/\([B8]).length+((r7.drop ((s10:Int).toNat)).take (((r7.length:Int):Int).toNat-(s10:Int).toNat)).length<=140737488355328)) (og (D' (((s10:Int).toNat-(0:Int).toNat)<=r7.length/\((r7.take ((s10:Int).toNat-(0:Int).toNat)).length+(([B8])++((r7.drop ((s10:Int).toNat)).take (((r7.length:Int):Int).toNat-(s10:Int).toNat))).length)*1040<=140737488355328/\(r7.take ((s10:Int).toNat-(0:Int).toNat)).length+(([B8])++((r7.drop ((s10:Int).toNat)).take (((r7.length:Int):Int).toNat-(s10:Int).toNat))).length<=140737488355328)) (k 32 (fN s3 (i64.wrap (s8+1)) ((r7.take ((s10:Int).toNat-(0:Int).toNat))++(([B8])++((r7.drop ((s10:Int).toNat)).take (((r7.length:Int):Int).toNat-(s10:Int).toNat))))))))))))|_,_=>N')|N'=>N')|F'=>(og (D' ((0:Int)<=0/\0<=s10/\s10<=(r7.length:Int))) (og (D' ((0:Int)<=s10/\s10<=(r7.length:Int)/\(r7.length:Int)<=(r7.length:Int))) (og (D' ((([B8]).length+((r7.drop ((s10:Int).toNat)).take (((r7.length:Int):Int).toNat-(s10:Int).toNat)).length)*1040<=140737488355328/\([B8]).length+((r7.drop ((s10:Int).toNat)).take (((r7.length:Int):Int).toNat-(s10:Int).toNat)).length<=140737488355328)) (og (D' (((s10:Int).toNat-(0:Int).toNat)<=r7.length/\((r7.take ((s10:Int).toNat-(0:Int).toNat)).length+(([B8])++((r7.drop ((s10:Int).toNat)).take (((r7.length:Int):Int).toNat-(s10:Int).toNat))).length)*1040<=140737488355328/\(r7.take ((s10:Int).toNat-(0:Int).toNat)).length+(([B8])++((r7.drop ((s10:Int).toNat)).take (((r7.length:Int):Int).toNat-(s10:Int).toNat))).length<=140737488355328)) (k 32 (fN s3 (i64.wrap (s8+1)) ((r7.take ((s10:Int).toNat-(0:Int).toNat))++(([B8])++((r7.drop ((s10:Int).toNat)).take (((r7.length:Int):Int).toNat-(s10:Int).toNat))))))))))
theorem qs(s3:List BCU)(s8:Int)(r7:List BCU)(B8:BCU)(s10:Int):RN kC 53 (j7 s3 s8 r7 B8 s10) (nq s3 s8 r7 B8 s10):=rnX
def Qz(c:BCU):Prop:=∃v:(List BCU),(λl:List BCU=>(l.length<=4/\∀e∈l,gM e)/\(MF c->l=[Dr c])) v/\CQq7 137 [.d tCU c] [.d (.sl tCU) v]
instance (c:BCU):Decidable (Qz c):=Classical.propDecidable _
def Mx(c:BCU):(List BCU):=Classical.epsilon λv=>(λl:List BCU=>(l.length<=4/\∀e∈l,gM e)/\(MF c->l=[Dr c])) v/\CQq7 137 [.d tCU c] [.d (.sl tCU) v]
theorem XI{c:BCU}(h:Qz c):(λl:List BCU=>(l.length<=4/\∀e∈l,gM e)/\(MF c->l=[Dr c])) (Mx c):=(ao0 h).1
def akk:Cn 137 [tCU]:=cn λ(c:BCU)=>lf (Qz c) [.d (.sl tCU) (Mx c)] λh=>(ao0 h).2
theorem Tq{r:List BCU}{B:BCU}{k:Nat}(_hk:k<=r.length):(r.take ((k:Int).toNat-(0:Int).toNat))++([B]++((r.drop ((k:Int).toNat)).take (((r.length:Int):Int).toNat-(k:Int).toNat)))=r.take k++B::r.drop k:=by
 rw[show((k:Int)).toNat=k by omega,show((0:Int)).toNat=0 from rfl,ar9,apy (l:=r.drop k) (by simp)];rfl
theorem Jo{r:List BCU}{B:BCU}{k:Nat}{p:BCU->Prop}(hr:∀e∈r,p e)(hB:p B):∀e∈r.take k++B::r.drop k,p e:=λe he=>by
 rcases ape.1 he with h|h
 ·exact hr e (ap8 h)
 ·rcases ao7.1 h with h|h
  ·rw[h];exact hB
  ·exact hr e (aqu h)
theorem agT{s3 r7:List BCU}{B:BCU}{i:Nat}(hi:i<=9)(hr:∀e∈r7,gM e)(hB:gM B)(hl:r7.length<=9){Q:List BCU->Prop}(next:∀r',(∀e∈r',gM e)->r'.length=r7.length+1->∃v,Q v/\kC.Runs 32 (fN s3 ((i+1:Nat):Int) r') [.new 48 tCU v]):∀(j k:Nat),k+j=r7.length->∃v,Q v/\kC.Runs 53 (j7 s3 (i:Int) r7 B (k:Int)) [.new 48 tCU v]:=by
 intro j;induction j with
 |zero=>
  intro k hk;obtain⟨v,hv,n,hn⟩:=next _ (Jo (k:=k) hr hB) (by simp;omega);refine⟨v,hv,qs _ _ _ _ _ ⟨n,?_⟩⟩;unfold nq;rw[bg (by omega),dT (show(0:Int)<=0/\0<=(k:Int)/\(k:Int)<=(r7.length:Int) by omega),dT (show(0:Int)<=(k:Int)/\(k:Int)<=(r7.length:Int)/\(r7.length:Int)<=(r7.length:Int) by omega),dT (by simp;omega),dT (by simp;omega),aS (k:=i) (by omega),Tq (by omega)];exact hn
 |succ j ih=>
  intro k hk;have hkl:k<r7.length:=by omega
  have hx:=hr _ (aoY hkl);have g:r7[((k:Int)).toNat]?=S' r7[k]:=by rw[show((k:Int)).toNat=k by omega,aoO hkl]
  cases h1:D' (UV r7[k] B<=0)
  ·obtain⟨v,hv,n,hn⟩:=next _ (Jo (k:=k) hr hB) (by simp;omega);refine⟨v,hv,qs _ _ _ _ _ ⟨n,?_⟩⟩;unfold nq;rw[aO hkl,ak,aoO hkl,g];dsimp only;rw[dT (Eb (v9 hx.1) (v9 hB.1)),h1,dT (show(0:Int)<=0/\0<=(k:Int)/\(k:Int)<=(r7.length:Int) by omega),dT (show(0:Int)<=(k:Int)/\(k:Int)<=(r7.length:Int)/\(r7.length:Int)<=(r7.length:Int) by omega),dT (by simp;omega),dT (by simp;omega),aS (k:=i) (by omega),Tq (by omega)];exact hn
  ·obtain⟨v,hv,n,hn⟩:=ih (k+1) (by omega);refine⟨v,hv,qs _ _ _ _ _ ⟨n,?_⟩⟩;unfold nq;rw[aO hkl,ak,aoO hkl,g];dsimp only;rw[dT (Eb (v9 hx.1) (v9 hB.1)),h1,aS (by omega)];exact hn
theorem Jq{s3:List BCU}(hs:∀e∈s3,gP e)(h4:s3.length<=4):∀(j i:Nat),i+j=s3.length->∀r7,(∀e∈r7,gM e)->r7.length=i->∃v,(v.length<=4/\∀e∈v,gM e)/\kC.Runs 32 (fN s3 (i:Int) r7) [.new 48 tCU v]:=by
 intro j;induction j with
 |zero=>
  intro i hi r7 hr hl;refine⟨r7,⟨by omega,hr⟩,mZ _ _ _ ⟨0,?_⟩⟩;unfold nj;rw[bg (by omega)]
 |succ j ih=>
  intro i hi r7 hr hl;have hil:i<s3.length:=by omega
  have hx:=hs _ (aoY hil);have k1:okP 4000 s3[i].2.2.2.2.1/\okP 4000 s3[i].2.2.2.2.2:=⟨aU hx.1.1.1.2.2.1 (by decide) (by decide),aU hx.1.1.1.2.2.2 (by decide) (by decide)⟩
  have hm:=Oa hx.1 hx.2.1 hx.2.2;have hm:bif D' (aB (dec s3[i].2.2.2.2.1) (dec s3[i].2.2.2.2.2)>0)then gM (gJ s3[i])else gM s3[i]:=hm;have go:∀B,gM B->∃v,(v.length<=4/\∀e∈v,gM e)/\kC.Runs 53 (j7 s3 (i:Int) r7 B 0) [.new 48 tCU v]:=λB hB=>agT (i:=i) (by omega) hr hB (by omega) (λr' h1 h2=>ih (i+1) (by omega) r' h1 (by omega)) r7.length 0 (by omega);cases h1:D' (aB (dec s3[i].2.2.2.2.1) (dec s3[i].2.2.2.2.2)>0)
  ·rw[h1,cond_false]at hm;obtain⟨v,hv,n,hn⟩:=go _ hm;refine⟨v,hv,mZ _ _ _ ⟨n,?_⟩⟩;unfold nj;rw[aO hil,ak,aoO hil];dsimp only;rw[dT k1,h1];exact hn
  ·rw[h1,cond_true]at hm;obtain⟨v,hv,n,hn⟩:=go _ hm;refine⟨v,hv,mZ _ _ _ ⟨n,?_⟩⟩;unfold nj;rw[aO hil,ak,aoO hil];dsimp only;rw[dT k1,h1,aQ];exact hn
theorem W3{c B:BCU}(h:gdN c)(hB:Dr c=B):kC.Runs 32 (fN [c] 0 []) [.new 48 tCU [B]]:=by
 have k1:okP 4000 c.2.2.2.2.1/\okP 4000 c.2.2.2.2.2:=⟨aU h.1.1.2.2.1 (by decide) (by decide),aU h.1.1.2.2.2 (by decide) (by decide)⟩
 have r1:kC.Runs 32 (fN [c] 1 [B]) [.new 48 tCU [B]]:=mZ _ _ _ ⟨0,rfl⟩
 have r2:kC.Runs 53 (j7 [c] 0 [] B 0) [.new 48 tCU [B]]:=by
  obtain⟨n,hn⟩:=r1;refine qs _ _ _ _ _ ⟨n,?_⟩;unfold nq;rw[dF (show ¬(0:Int)<(([]:List BCU).length:Int) by decide)];dsimp only;rw[dT (show(0:Int)<=0/\(0:Int)<=0/\(0:Int)<=(([]:List BCU).length:Int) by decide),dT (show(0:Int)<=0/\(0:Int)<=(([]:List BCU).length:Int)/\(([]:List BCU).length:Int)<=(([]:List BCU).length:Int) by decide),dT (by simp),dT (by simp)];exact hn
 obtain⟨n,hn⟩:=r2;refine mZ _ _ _ ⟨n,?_⟩;unfold nj;show og (decide (okP 4000 c.2.2.2.2.1/\okP 4000 c.2.2.2.2.2)) (match decide (aB (dec c.2.2.2.2.1) (dec c.2.2.2.2.2)>0)with|true=>kC.k n 53 (j7 [c] 0 [] (hid (gJ c)) 0)|false=>kC.k n 53 (j7 [c] 0 [] c 0))=_;unfold Dr at hB;rw[dT k1,aQ];cases hd:decide (aB (dec c.2.2.2.2.1) (dec c.2.2.2.2.2)>0)<;>rw[hd]at hB
 ·rw[cond_false]at hB;subst hB;exact hn
 ·rw[cond_true]at hB;subst hB;exact hn
theorem T0{c:BCU}(h:gdN c)(hS':gS c):Qz c:=by
 suffices gX:∃v:(List BCU),(λl:List BCU=>(l.length<=4/\∀e∈l,gM e)/\(MF c->l=[Dr c])) v/\∃nX,BU c (kC.k nX)=S' [.new 48 tCU v] from gX.elim λv h=>⟨v,h.1,Con.new_d (aX SO (alJ c h.2))⟩
 by_cases hS:MF c
 ·obtain⟨x,hx,hc⟩:=hS;have ha:c.1=true:=by rcases hc with e|e<;>rw[e]<;>rfl
  have ex:c.2.2.1=x:=by rcases hc with e|e<;>rw[e]<;>rfl
  obtain⟨g1,g2,g3,g4⟩:=ag3 hx;obtain⟨i1,i2⟩:=g4 c hc
  have hm:=Oa h hS' (λ_=>by
   have e:ciC (dC c)=dec x:=by rw[<-ex];rfl
   rw[e];exact⟨i1,i2⟩)
  have hg:gM (Dr c):=by
   unfold Dr;have hm:bif D' (aB (dec c.2.2.2.2.1) (dec c.2.2.2.2.2)>0)then gM (gJ c)else gM c:=hm;cases hd:D' (aB (dec c.2.2.2.2.1) (dec c.2.2.2.2.2)>0)<;>rw[hd]at hm<;>exact hm
  obtain⟨n,hn⟩:=W3 h rfl;refine⟨[Dr c],⟨⟨by simp,λe he=>by rw[apz.1 he];exact hg⟩,λ_=>rfl⟩,n,?_⟩;have h35:okC 3500 c:=aY h.1.1 (by decide) (by decide);have o:=(gdN.gd g1).1;have oL:okP 3500 (enc (db (dec x))):=aU o.2.2.1 (by decide) (by decide);have oR:okP 3500 (enc (df (dec x))):=aU o.2.2.2 (by decide) (by decide);have s:=XS h;unfold BU;simp only[aQ,ha,ex,dT hx,ao,i1,i2,dT (show okC 3500 c/\okP 3500 (enc (db (dec x))) from⟨h35,oL⟩),dT (show okC 3500 c/\okP 3500 (enc (df (dec x))) from⟨h35,oR⟩),s,dT (show vI c [] from⟨h35,by simp,λp hp=>by cases hp⟩)];exact hn
 suffices gX:∃v:List BCU,(v.length<=4/\∀e∈v,gM e)/\∃n,BU c (kC.k n)=S' [.new 48 tCU v] from gX.elim λv h=>⟨v,⟨h.1,λg=>absurd g hS⟩,h.2⟩
 have go:∀l:List BP,l.length<=2->(∀p∈l,okP 580 p/\onR (dC c) (dec p)=T')->(∀e∈mu c l,gP e)->vI c l/\∃v,(v.length<=4/\∀e∈v,gM e)/\kC.Runs 32 (fN (mu c l) 0 []) [.new 48 tCU v]:=λl hl ho hP=>by
  have:=RR c l;exact⟨⟨aY h.1.1 (by decide) (by decide),by omega,λx hx=>⟨aU (ho x hx).1 (by decide) (by decide),(ho x hx).2⟩⟩,Jq hP (by omega) _ 0 (ao3 _) [] (λe he=>by cases he) rfl⟩
 cases ha:c.1
 ·obtain⟨v,hv,n,hn⟩:=Jq (s3:=[c]) (λe he=>by rw[apz.1 he];exact⟨h,hS',λg=>by rw[ha]at g;cases g⟩) (by simp) 1 0 rfl [] (λe he=>by cases he) rfl;refine⟨v,hv,n,?_⟩;unfold BU;rw[ha];exact hn
 ·have hc:=h.1.2.1 ha;have h35:okC 3500 c:=aY h.1.1 (by decide) (by decide);obtain⟨x,ex,bx,x0⟩:=b8 hc;have g:=DX (c:=x) x0;have gl:=g (T',o00,enc x,F',enc (db x),enc (df x)) (by unfold B6;rw[ao];simp);have oL:okP 580 (enc (db (dec c.2.2.1))):=by rw[ex,ao];exact gl.1.1.2.2.1
  have oR:okP 580 (enc (df (dec c.2.2.1))):=by rw[ex,ao];exact gl.1.1.2.2.2
  unfold BU;simp only[aQ,ha,dT hc];generalize hp:enc (db (dec c.2.2.1))=p at*
  generalize hq:enc (df (dec c.2.2.1))=q at*
  have gp:∀l,(∀z∈l,okP 580 z/\onR (dC c) (dec z)=T')->(jO (dC c) (dec p)=T'->p∈l)->(jO (dC c) (dec q)=T'->q∈l)->∀e∈mu c l,gP e:=λl ho g1 g2 e he=>⟨Lz h ho e he,(by
   obtain⟨_,_,_,_,_,ee⟩:=xn (zC h ho) he;rw[ee];exact hS'),λ_=>by
   obtain⟨_,_,_,_,_,ee⟩:=xn (zC h ho) he;have ec:ciC (dC e)=dec c.2.2.1:=by rw[ee];rfl
   rw[ec,<-ao (db (dec c.2.2.1)),<-ao (df (dec c.2.2.1)),hp,hq];exact⟨Kl h ho (cY oL) g1 e he,Kl h ho (cY oR) g2 e he⟩⟩
  have p35:=aU (k:=3500) oL (by decide) (by decide);have q35:=aU (k:=3500) oR (by decide) (by decide);have on_:∀{z:BP},jO (dC c) (dec z)=T'->onR (dC c) (dec z)=true:=λh=>(ao9.1 h).1;cases i1:jO (dC c) (dec p)<;>cases i2:jO (dC c) (dec q)
  ·obtain⟨s,v,hv,n,hn⟩:=go [] (by simp) (λz hz=>by cases hz) (gp _ (λz hz=>by cases hz) (λg=>by rw[i1]at g;cases g) λg=>by rw[i2]at g;cases g);refine⟨v,hv,n,?_⟩;simp only[dT (show okC 3500 c/\okP 3500 p from⟨h35,p35⟩),dT (show okC 3500 c/\okP 3500 q from⟨h35,q35⟩),dT s];exact hn
  ·have ho:∀z∈[q],okP 580 z/\onR (dC c) (dec z)=true:=λz hz=>by rw[apz.1 hz];exact⟨oR,on_ i2⟩
   obtain⟨s,v,hv,n,hn⟩:=go [q] (by simp) ho (gp _ ho (λg=>by rw[i1]at g;cases g) λ_=>by simp);refine⟨v,hv,n,?_⟩;simp only[dT (show okC 3500 c/\okP 3500 p from⟨h35,p35⟩),dT (show okC 3500 c/\okP 3500 q from⟨h35,q35⟩),dT s];exact hn
  ·have ho:∀z∈[p],okP 580 z/\onR (dC c) (dec z)=true:=λz hz=>by rw[apz.1 hz];exact⟨oL,on_ i1⟩
   obtain⟨s,v,hv,n,hn⟩:=go [p] (by simp) ho (gp _ ho (λ_=>by simp) λg=>by rw[i2]at g;cases g);refine⟨v,hv,n,?_⟩;simp only[dT (show okC 3500 c/\okP 3500 p from⟨h35,p35⟩),dT (show okC 3500 c/\okP 3500 q from⟨h35,q35⟩),dT s];exact hn
  ·have ho:∀z∈[p,q],okP 580 z/\onR (dC c) (dec z)=true:=λz hz=>by
    simp only[ao7,aqw,arN]at hz;rcases hz with e|e<;>rw[e]
    ·exact⟨oL,on_ i1⟩
    ·exact⟨oR,on_ i2⟩
   obtain⟨s,v,hv,n,hn⟩:=go [p,q] (by simp) ho (gp _ ho (λ_=>by simp) λ_=>by simp);refine⟨v,hv,n,?_⟩;simp only[dT (show okC 3500 c/\okP 3500 p from⟨h35,p35⟩),dT (show okC 3500 c/\okP 3500 q from⟨h35,q35⟩),List.cons_append,aqS,dT s,apd,Nat.reduceAdd,Nat.reduceMul,Nat.reduceLeDiff,and_self,arR];exact hn
end
section
open RE
def Tk:List En:=[enL akk,enL aiJ,enK aaA]
def afl:NT:=[((69,8),{keep:=[0,3,4],own:=[(3,48,tCU)],hl:=1}),((69,25),{keep:=[3,5,6],own:=[(5,48,tCU)],hl:=2,pd:=1}),((69,40),{keep:=[3,5,6,7,8],own:=[(7,40,tP)],hl:=3,pd:=2})]
def td:Ctx:=CX (ens Tk) afl
def CN(l:List BCU)(s4:Int)(r0:List BCU):Cfg:=⟨69,[.blk 0,.seq 19],[(0,.d (.sl tCU) l),(3,.own 0),(4,SI s4)],[.row 48 tCU r0],0,[]⟩
def tz(r0:List BCU)(s6:Int)(r1:List BCU):Cfg:=⟨69,[.blk 2,.seq 61],[(3,.own 0),(5,.own 1),(6,SI s6)],[.row 48 tCU r0,.row 48 tCU r1],0,[]⟩
def tD(r0:List BCU)(s6:Int)(r1:List BCU)(s8:Int)(r2:List BP):Cfg:=⟨69,[.blk 4,.seq 57,.blk 3,.seq 60,.lp 25,.blk 2,.seq 61],[(3,.own 0),(5,.own 1),(6,SI s6),(7,.own 2),(8,SI s8)],[.row 48 tCU r0,.row 48 tCU r1,.row 40 tP r2],0,[]⟩
def ZQ(l:List BCU)(k:KT):OLR:=k 8 (CN l 0 ([]))
theorem al4(l:List BCU):RS td 69 [.d (.sl tCU) l] (ZQ l):=rsX
def yh(l:List BCU)(s4:Int)(r0:List BCU)(k:KT):OLR:=match D' (s4<(l.length:Int))with|T'=>(match aH l s4 with|S' x1=>(og (D' (Qz x1)) (og (D' ((r0.length+(Mx x1).length)*1040<=140737488355328/\r0.length+(Mx x1).length<=140737488355328)) (k 8 (CN l (i64.wrap (s4+1)) (r0++(Mx x1))))))|N'=>N')|F'=>k 25 (tz r0 0 ([]))
theorem GN(l:List BCU)(s4:Int)(r0:List BCU):RN td 8 (CN l s4 r0) (yh l s4 r0):=rnX
def vi(r0:List BCU)(s6:Int)(r1:List BCU)(k:KT):OLR:=match D' (s6<(r0.length:Int))with|T'=>k 40 (tD r0 s6 r1 0 ([]))|F'=>S' [RV.new 48 tCU r1]
theorem Bx(r0:List BCU)(s6:Int)(r1:List BCU):RN td 25 (tz r0 s6 r1) (vi r0 s6 r1):=rnX
def qc(r0:List BCU)(s6:Int)(r1:List BCU)(s8:Int)(r2:List BP)(k:KT):OLR:=match D' (s8<(r0.length:Int))with|T'=>(match s8 !=s6 with|T'=>(match aH r0 s6 with|S' _=>(match T',r0[(s6).toNat]? with|T',S' x1=>(match aH r0 s8 with|S' _=>(match T',r0[(s8).toNat]? with|T',S' x2=>(og (D' (jy x1 x2)) (og (D' ((r2.length+(yA x1 x2).length)*320<=140737488355328/\r2.length+(yA x1 x2).length<=140737488355328)) (k 40 (tD r0 s6 r1 (i64.wrap (s8+1)) (r2++(yA x1 x2))))))|_,_=>N')|N'=>N')|_,_=>N')|N'=>N')|F'=>k 40 (tD r0 s6 r1 (i64.wrap (s8+1)) r2))|F'=>(match aH r0 s6 with|S' _=>(match T',r0[(s6).toNat]? with|T',S' x1=>(og (D' (vI x1 r2)) (og (D' ((r1.length+(mu x1 r2).length)*1040<=140737488355328/\r1.length+(mu x1 r2).length<=140737488355328)) (k 25 (tz r0 (i64.wrap (s6+1)) (r1++(mu x1 r2))))))|_,_=>N')|N'=>N')
theorem vh(r0:List BCU)(s6:Int)(r1:List BCU)(s8:Int)(r2:List BP):RN td 40 (tD r0 s6 r1 s8 r2) (qc r0 s6 r1 s8 r2):=rnX
def SC(l:List BCU):Prop:=∃v:(List BCU),(λv:List BCU=>v.length<=10000/\∀e∈v,gM e) v/\CQq7 69 [.d (.sl tCU) l] [.d (.sl tCU) v]
instance (l:List BCU):Decidable (SC l):=Classical.propDecidable _
def D5(l:List BCU):(List BCU):=Classical.epsilon λv=>(λv:List BCU=>v.length<=10000/\∀e∈v,gM e) v/\CQq7 69 [.d (.sl tCU) l] [.d (.sl tCU) v]
theorem We{l:List BCU}(h:SC l):(λv:List BCU=>v.length<=10000/\∀e∈v,gM e) (D5 l):=(ao0 h).1
def akS:Cn 69 [(.sl tCU)]:=cn λ(l:List BCU)=>lf (SC l) [.d (.sl tCU) (D5 l)] λh=>(ao0 h).2
theorem aeU{r0 r1:List BCU}{i:Nat}(h0:∀e∈r0,gM e)(hl:r0.length<=48)(hi:i<r0.length)(h1:∀e∈r1,gM e)(l1:r1.length<=200*i){Q:List BCU->Prop}(next:∀r',(∀e∈r',gM e)->r'.length<=200*(i+1)->∃v,Q v/\td.Runs 25 (tz r0 ((i+1:Nat):Int) r') [.new 48 tCU v]):∀(j k:Nat),k+j=r0.length->∀r2:List BP,(∀p∈r2,okP 580 p/\onR (dC r0[i]) (dec p)=T')->r2.length<=4*k->∃v,Q v/\td.Runs 40 (tD r0 (i:Int) r1 (k:Int) r2) [.new 48 tCU v]:=by
 have hx:=h0 _ (aoY hi);have gx:r0[((i:Int)).toNat]?=S' r0[i]:=by rw[show((i:Int)).toNat=i by omega,aoO hi]
 intro j;induction j with
 |zero=>
  intro k hk r2 h2 l2;have hs:=XZ hx h2;have hn:=RR r0[i] r2;obtain⟨v,hv,n,hn⟩:=next (r1++mu r0[i] r2) (λe he=>(ape.1 he).elim (h1 e) (hs e)) (by simp;omega);refine⟨v,hv,vh _ _ _ _ _ ⟨n,?_⟩⟩;unfold qc;rw[bg (by omega),ak,aoO hi,gx];dsimp only;rw[dT (show vI r0[i] r2 from⟨aY hx.1.1.1 (by decide) (by decide),by omega,λp hp=>⟨aU (h2 p hp).1 (by decide) (by decide),(h2 p hp).2⟩⟩),dT (by omega),aS (by omega)];exact hn
 |succ j ih=>
  intro k hk r2 h2 l2;have hkl:k<r0.length:=by omega
  have hy:=h0 _ (aoY hkl);have gy:r0[((k:Int)).toNat]?=S' r0[k]:=by rw[show((k:Int)).toNat=k by omega,aoO hkl]
  have hm:jy r0[i] r0[k]:=⟨hx.1.1,hy.1.1⟩
  obtain⟨m1,m2⟩:=V2 hm;by_cases hik:(k:Int)=(i:Int)
  ·obtain⟨v,hv,n,hn⟩:=ih (k+1) (by omega) r2 h2 (by omega);refine⟨v,hv,vh _ _ _ _ _ ⟨n,?_⟩⟩;unfold qc;rw[aO hkl,show((k:Int) !=(i:Int))=F' by rw[hik];exact arf _,aS (by omega)];exact hn
  ·obtain⟨v,hv,n,hn⟩:=ih (k+1) (by omega) (r2++yA r0[i] r0[k]) (λp hp=>(ape.1 hp).elim (h2 p) λh=>⟨(m2 p h).1,(m2 p h).2.1⟩) (by simp;omega);refine⟨v,hv,vh _ _ _ _ _ ⟨n,?_⟩⟩;unfold qc;rw[aO hkl,aqZ.2 hik,ak,aoO hi,gx,ak,aoO hkl,gy];dsimp only;rw[dT hm,dT (by omega),aS (by omega)];exact hn
theorem adY{r0:List BCU}(h0:∀e∈r0,gM e)(hl:r0.length<=48):∀(j i:Nat),i+j=r0.length->∀r1,(∀e∈r1,gM e)->r1.length<=200*i->∃v,(v.length<=10000/\∀e∈v,gM e)/\td.Runs 25 (tz r0 (i:Int) r1) [.new 48 tCU v]:=by
 intro j;induction j with
 |zero=>
  intro i hi r1 h1 l1;refine⟨r1,⟨by omega,h1⟩,Bx _ _ _ ⟨0,?_⟩⟩;unfold vi;rw[bg (by omega)]
 |succ j ih=>
  intro i hi r1 h1 l1;have hil:i<r0.length:=by omega
  obtain⟨v,hv,n,hn⟩:=aeU h0 hl hil h1 l1 (λr' a b=>ih (i+1) (by omega) r' a b) r0.length 0 (ao3 _) [] (λp hp=>by cases hp) (by simp);refine⟨v,hv,Bx _ _ _ ⟨n,?_⟩⟩;unfold vi;rw[aO hil];exact hn
theorem ahS{l:List BCU}(h:∀e∈l,gdN e/\gS e)(hl:l.length<=12):∀(j i:Nat),i+j=l.length->∀r0,(∀e∈r0,gM e)->r0.length<=4*i->∃v,(v.length<=10000/\∀e∈v,gM e)/\td.Runs 8 (CN l (i:Int) r0) [.new 48 tCU v]:=by
 intro j;induction j with
 |zero=>
  intro i hi r0 h0 l0;obtain⟨v,hv,n,hn⟩:=adY h0 (by omega) r0.length 0 (ao3 _) [] (λe he=>by cases he) (by simp);refine⟨v,hv,GN _ _ _ ⟨n,?_⟩⟩;unfold yh;rw[bg (by omega)];exact hn
 |succ j ih=>
  intro i hi r0 h0 l0;have hil:i<l.length:=by omega
  have hx:=h _ (aoY hil);obtain⟨⟨m1,m2⟩,_⟩:=XI (T0 hx.1 hx.2);obtain⟨v,hv,n,hn⟩:=ih (i+1) (by omega) (r0++Mx l[i]) (λe he=>(ape.1 he).elim (h0 e) (m2 e)) (by simp;omega);refine⟨v,hv,GN _ _ _ ⟨n,?_⟩⟩;unfold yh;rw[aO hil,ak,aoO hil];dsimp only;rw[dT (T0 hx.1 hx.2),dT (by omega),aS (by omega)];exact hn
theorem ahr{l:List BCU}(h:∀e∈l,gdN e/\gS e)(hl:l.length<=12):SC l:=by
 suffices gX:∃v:(List BCU),(λv:List BCU=>v.length<=10000/\∀e∈v,gM e) v/\∃nX,ZQ l (td.k nX)=S' [.new 48 tCU v] from gX.elim λv h=>⟨v,h.1,Con.new_d (aX Tk (al4 l h.2))⟩
 obtain⟨v,hv,n,hn⟩:=ahS h hl l.length 0 (ao3 _) [] (λe he=>by cases he) (by simp);exact⟨v,hv,n,hn⟩
def RQ:List En:=[enT akq]
def afD:NT:=[((68,8),{keep:=[0,3,4],own:=[(3,48,tCU)],hl:=1}),((68,23),{keep:=[0,3,4,5,6],hl:=1})]
def xF:Ctx:=CX (ens RQ) afD
def uy(l:List BCU)(s4:Int)(r0:List BCU):Cfg:=⟨68,[.blk 0,.seq 44],[(0,.d (.sl tCU) l),(3,.own 0),(4,SI s4)],[.row 48 tCU r0],0,[]⟩
def sH(l:List BCU)(s4:Int)(r0:List BCU)(s5 s6:Int):Cfg:=⟨68,[.blk 2,.seq 38,.blk 1,.seq 43,.lp 8,.blk 0,.seq 44],[(0,.d (.sl tCU) l),(3,.own 0),(4,SI s4),(5,SI s5),(6,SI s6)],[.row 48 tCU r0],0,[]⟩
def aa1(l:List BCU)(k:KT):OLR:=k 8 (uy l 0 ([]))
theorem am1(l:List BCU):RS xF 68 [.d (.sl tCU) l] (aa1 l):=rsX
def yM(l:List BCU)(s4:Int)(r0:List BCU)(k:KT):OLR:=match D' (s4<(l.length:Int))with|T'=>k 23 (sH l s4 r0 (-1) 0)|F'=>S' [RV.new 48 tCU r0]
theorem EV(l:List BCU)(s4:Int)(r0:List BCU):RN xF 8 (uy l s4 r0) (yM l s4 r0):=rnX
def mU(l:List BCU)(s4:Int)(r0:List BCU)(s5 s6:Int)(k:KT):OLR:=match D' (s6<(r0.length:Int))with|T'=>(match aH r0 s6 with|S' _=>(match T',r0[(s6).toNat]? with|T',S' x1=>(match aH l s4 with|S' x2=>(og (D' (jy x1 x2)) (match uH (dC x1) (dC x2)with|T'=>k 23 (sH l s4 r0 s6 (i64.wrap (s6+1)))|F'=>k 23 (sH l s4 r0 s5 (i64.wrap (s6+1)))))|N'=>N')|_,_=>N')|N'=>N')|F'=>(match D' (s5<0)with|T'=>(match aH l s4 with|S' x1=>(og (D' ((r0.length+([x1]).length)*1040<=140737488355328/\r0.length+([x1]).length<=140737488355328)) (k 8 (uy l (i64.wrap (s4+1)) (r0++([x1])))))|N'=>N')|F'=>(og (D' ((0:Int)<=0/\0<=s5/\s5<=(r0.length:Int))) (og (D' ((0:Int)<=i64.wrap (s5+1)/\i64.wrap (s5+1)<=(r0.length:Int)/\(r0.length:Int)<=(r0.length:Int))) (og (D' (((s5:Int).toNat-(0:Int).toNat)<=r0.length/\((r0.take ((s5:Int).toNat-(0:Int).toNat)).length+((r0.drop ((i64.wrap (s5+1):Int).toNat)).take (((r0.length:Int):Int).toNat-(i64.wrap (s5+1):Int).toNat)).length)*1040<=140737488355328/\(r0.take ((s5:Int).toNat-(0:Int).toNat)).length+((r0.drop ((i64.wrap (s5+1):Int).toNat)).take (((r0.length:Int):Int).toNat-(i64.wrap (s5+1):Int).toNat)).length<=140737488355328)) (k 8 (uy l (i64.wrap (s4+1)) ((r0.take ((s5:Int).toNat-(0:Int).toNat))++((r0.drop ((i64.wrap (s5+1):Int).toNat)).take (((r0.length:Int):Int).toNat-(i64.wrap (s5+1):Int).toNat)))))))))
theorem qr(l:List BCU)(s4:Int)(r0:List BCU)(s5 s6:Int):RN xF 23 (sH l s4 r0 s5 s6) (mU l s4 r0 s5 s6):=rnX
def Ut(l:List BCU):Prop:=∃v:(List BCU),(λv:List BCU=>v.length<=10000/\∀e∈v,gM e) v/\CQq7 68 [.d (.sl tCU) l] [.d (.sl tCU) v]
instance (l:List BCU):Decidable (Ut l):=Classical.propDecidable _
def E1(l:List BCU):(List BCU):=Classical.epsilon λv=>(λv:List BCU=>v.length<=10000/\∀e∈v,gM e) v/\CQq7 68 [.d (.sl tCU) l] [.d (.sl tCU) v]
theorem VL{l:List BCU}(h:Ut l):(λv:List BCU=>v.length<=10000/\∀e∈v,gM e) (E1 l):=(ao0 h).1
def ajy:Cn 68 [(.sl tCU)]:=cn λ(l:List BCU)=>lf (Ut l) [.d (.sl tCU) (E1 l)] λh=>(ao0 h).2
theorem agl{l r0:List BCU}{i:Nat}(h:∀e∈l,gM e)(hi:i<l.length)(hl:l.length<=10000)(h0:∀e∈r0,gM e)(l0:r0.length<=i){Q:List BCU->Prop}(next:∀r',(∀e∈r',gM e)->r'.length<=i+1->∃v,Q v/\xF.Runs 8 (uy l ((i+1:Nat):Int) r') [.new 48 tCU v]):∀(j k:Nat),k+j=r0.length->∀s:Int,-1<=s->s<r0.length->∃v,Q v/\xF.Runs 23 (sH l (i:Int) r0 s (k:Int)) [.new 48 tCU v]:=by
 have hx:=h _ (aoY hi);intro j;induction j with
 |zero=>
  intro k hk s s1 s2;by_cases hs:s<0
  ·obtain⟨v,hv,n,hn⟩:=next (r0++[l[i]]) (λe he=>(ape.1 he).elim (h0 e) λh=>by rw[apz.1 h];exact hx) (by simp;omega);refine⟨v,hv,qr _ _ _ _ _ ⟨n,?_⟩⟩;unfold mU;rw[bg (by omega)];dsimp only;rw[dT hs,ak,aoO hi];dsimp only;rw[dT (by simp;omega),aS (by omega)];exact hn
  ·obtain⟨v,hv,n,hn⟩:=next ((r0.take (s.toNat-(0:Int).toNat))++((r0.drop ((s+1).toNat)).take (((r0.length:Int):Int).toNat-(s+1).toNat))) (λe he=>(ape.1 he).elim (λg=>h0 e (ap8 g)) λg=>h0 e (aqu (ap8 g))) (by simp;omega);refine⟨v,hv,qr _ _ _ _ _ ⟨n,?_⟩⟩;unfold mU;rw[bg (by omega)];dsimp only;rw[dF hs];dsimp only;rw[aM (x:=s+1) (by omega) (by omega),dT (show(0:Int)<=0/\0<=s/\s<=(r0.length:Int) by omega),dT (show(0:Int)<=s+1/\s+1<=(r0.length:Int)/\(r0.length:Int)<=(r0.length:Int) by omega),dT (by simp;omega),aS (by omega)];exact hn
 |succ j ih=>
  intro k hk s s1 s2;have hkl:k<r0.length:=by omega
  have hy:=h0 _ (aoY hkl);have gy:r0[((k:Int)).toNat]?=S' r0[k]:=by rw[show((k:Int)).toNat=k by omega,aoO hkl]
  cases he:uH (dC r0[k]) (dC l[i])
  ·obtain⟨v,hv,n,hn⟩:=ih (k+1) (by omega) s s1 s2;refine⟨v,hv,qr _ _ _ _ _ ⟨n,?_⟩⟩;unfold mU;rw[aO hkl,ak,aoO hkl,gy,ak,aoO hi];dsimp only;rw[dT (show jy r0[k] l[i] from⟨hy.1.1,hx.1.1⟩),he,aS (by omega)];exact hn
  ·obtain⟨v,hv,n,hn⟩:=ih (k+1) (by omega) (k:Int) (by omega) (by omega);refine⟨v,hv,qr _ _ _ _ _ ⟨n,?_⟩⟩;unfold mU;rw[aO hkl,ak,aoO hkl,gy,ak,aoO hi];dsimp only;rw[dT (show jy r0[k] l[i] from⟨hy.1.1,hx.1.1⟩),he,aS (by omega)];exact hn
theorem ah3{l:List BCU}(h:∀e∈l,gM e)(hl:l.length<=10000):∀(j i:Nat),i+j=l.length->∀r0,(∀e∈r0,gM e)->r0.length<=i->∃v,(v.length<=10000/\∀e∈v,gM e)/\xF.Runs 8 (uy l (i:Int) r0) [.new 48 tCU v]:=by
 intro j;induction j with
 |zero=>
  intro i hi r0 h0 l0;refine⟨r0,⟨by omega,h0⟩,EV _ _ _ ⟨0,?_⟩⟩;unfold yM;rw[bg (by omega)]
 |succ j ih=>
  intro i hi r0 h0 l0;have hil:i<l.length:=by omega
  obtain⟨v,hv,n,hn⟩:=agl h hil hl h0 l0 (λr' a b=>ih (i+1) (by omega) r' a b) r0.length 0 (ao3 _) (-1) (ase _) (by omega);refine⟨v,hv,EV _ _ _ ⟨n,?_⟩⟩;unfold yM;rw[aO hil];exact hn
theorem aeJ{l:List BCU}(h:∀e∈l,gM e)(hl:l.length<=10000):Ut l:=by
 suffices gX:∃v:(List BCU),(λv:List BCU=>v.length<=10000/\∀e∈v,gM e) v/\∃nX,aa1 l (xF.k nX)=S' [.new 48 tCU v] from gX.elim λv h=>⟨v,h.1,Con.new_d (aX RQ (am1 l h.2))⟩
 obtain⟨v,hv,n,hn⟩:=ah3 h hl l.length 0 (ao3 _) [] (λe he=>by cases he) (by simp);exact⟨v,hv,n,hn⟩
end
section
open RE
def mrg(x y:BCU):BCU:=(x.1,(x.2.1,(x.2.2.1,(x.2.2.2.1,(x.2.2.2.2.1,y.2.2.2.2.2)))))
theorem adw{x y:BCU}(hx:gM x)(hy:gM y)(hs:cG (dC x) (dC y)=T')(hw:x.2.2.2.1=y.2.2.2.1)(he:aB (dec y.2.2.2.2.1) (dec x.2.2.2.2.2)=0):gM (mrg x y):=by
 have kx:=fG hx.1.gd;have ky:=fG hy.1.gd;have r1:=kx.f.1;have r2:=kx.t.1;have r3:=ky.f.1;have r4:=ky.t.1
 have hlt:aB (frC (dC x)) (toC (dC y))<0:=by
  have a:=hx.2.1;have b:=hy.2.1;rw[gQ,jf gu fp]at a b ⊢;have he:pR (frC (dC y))=pR (toC (dC x)):=cmpP_0.1 he;rw[he]at b;exact gu.tr _ _ _ a b
 have hsup:dv (dC x) (toC (dC y))=true:=XY ky (Wz hs) ky.t.2;refine⟨⟨⟨⟨hx.1.1.1.1,hx.1.1.1.2.1,hx.1.1.1.2.2.1,hy.1.1.1.2.2.2⟩,hx.1.1.2⟩,kx.f.2,hsup,λe=>?_⟩,hlt,λha=>⟨(hx.2.2.1 ha).1,?_⟩,hx.2.2.2⟩
 ·have e:aB (frC (dC x)) (toC (dC y))=0:=e;omega
 ·have ha:x.1=true:=ha;have e1:=IV hs ha;have hy':=(hy.2.2.1 ((yZ hs).symm.trans ha)).2;unfold hfC kc at*
  rw[<-e1,show cwC (dC y)=cwC (dC x) from hw.symm]at hy';exact hy'
def ww(l:List BCU):Prop:=∃v:(List BCU),(λv:List BCU=>v.length<=10000/\∀e∈v,gM e) v/\CQq7 67 [.d (.sl tCU) l] [.d (.sl tCU) v]
instance (l:List BCU):Decidable (ww l):=Classical.propDecidable _
def EN(l:List BCU):(List BCU):=Classical.epsilon λv=>(λv:List BCU=>v.length<=10000/\∀e∈v,gM e) v/\CQq7 67 [.d (.sl tCU) l] [.d (.sl tCU) v]
theorem Lc{l:List BCU}(h:ww l):(λv:List BCU=>v.length<=10000/\∀e∈v,gM e) (EN l):=(ao0 h).1
def YX:Cn 67 [(.sl tCU)]:=cn λ(l:List BCU)=>lf (ww l) [.d (.sl tCU) (EN l)] λh=>(ao0 h).2
def T3:List En:=[enT nM,enT OM,enK YX]
def af9:NT:=[((67,6),{keep:=[0,3],hl:=0}),((67,23),{keep:=[0,3,4,5,6,7],hl:=1}),((67,57),{keep:=[0,3,6,8,9,10],own:=[(9,48,tCU)],hl:=3,pd:=2,er:=[0]})]
def oz:Ctx:=CX (ens T3) af9
def pQ(l:List BCU)(s3:Int):Cfg:=⟨67,[.blk 0,.seq 77],[(0,.d (.sl tCU) l),(3,SI s3)],[],0,[]⟩
def jU(l:List BCU)(s3:Int)(x1:BCU)(s5 s6 s7:Int):Cfg:=⟨67,[.blk 2,.seq 44,.blk 1,.seq 76,.lp 6,.blk 0,.seq 77],[(0,.d (.sl tCU) l),(3,SI s3),(4,.box 0 0),(5,SI s5),(6,SI s6),(7,SI s7)],[.box 40 (Ty.split tP x1.2.2.2.2.2)],0,[]⟩
def nC(l:List BCU)(s3 s6:Int)(x6 x7:BCU)(s10:Int)(r2:List BCU):Cfg:=⟨67,[.blk 4,.seq 72,.blk 1,.seq 76,.lp 6,.blk 0,.seq 77],[(0,.d (.sl tCU) l),(3,SI s3),(6,SI s6),(8,.box 1 0),(9,.own 2),(10,SI s10)],[.gone,.box 48 (Ty.split tCU (x6.1,(x6.2.1,(x6.2.2.1,(x6.2.2.2.1,(x6.2.2.2.2.1,x7.2.2.2.2.2)))))),.row 48 tCU r2],0,[]⟩
def aaM(l:List BCU)(k:KT):OLR:=k 6 (pQ l 0)
theorem aig(l:List BCU):RS oz 67 [.d (.sl tCU) l] (aaM l):=rsX
def xQ(l:List BCU)(s3:Int)(k:KT):OLR:=match D' (s3<(l.length:Int))with|T'=>(match aH l s3 with|S' x1=>k 23 (jU l s3 x1 0 (-1) 0)|N'=>N')|F'=>S' [RV.d (.sl tCU) l]
theorem FO(l:List BCU)(s3:Int):RN oz 6 (pQ l s3) (xQ l s3):=rnX
def iU(l:List BCU)(s3:Int)(x1:BCU)(s5 s6 s7:Int)(k:KT):OLR:=match D' (s7<(l.length:Int))with|T'=>(match aH l s7 with|S' x2=>(og (D' (okP 4000 x2.2.2.2.2.1/\okP 4000 x1.2.2.2.2.2)) (match aB (dec x2.2.2.2.2.1) (dec x1.2.2.2.2.2)==0 with|T'=>(match aH l s7 with|S' x3=>(og (D' (okP 4000 x3.2.2.2.2.2/\okP 4000 x1.2.2.2.2.2)) (match aB (dec x3.2.2.2.2.2) (dec x1.2.2.2.2.2)==0 with|T'=>k 23 (jU l s3 x1 (i64.wrap ((i64.wrap (s5+1))+1)) s7 (i64.wrap (s7+1)))|F'=>k 23 (jU l s3 x1 (i64.wrap (s5+1)) s7 (i64.wrap (s7+1)))))|N'=>N')|F'=>(match aH l s7 with|S' x3=>(og (D' (okP 4000 x3.2.2.2.2.2/\okP 4000 x1.2.2.2.2.2)) (match aB (dec x3.2.2.2.2.2) (dec x1.2.2.2.2.2)==0 with|T'=>k 23 (jU l s3 x1 (i64.wrap (s5+1)) s6 (i64.wrap (s7+1)))|F'=>k 23 (jU l s3 x1 s5 s6 (i64.wrap (s7+1)))))|N'=>N')))|N'=>N')|F'=>(match s5==2 with|T'=>(match D' (s6>=0)with|T'=>(match aH l s3 with|S' x2=>(match aH l s6 with|S' x3=>(og (D' (fh x2 x3)) (match cG (dC x2) (dC x3)with|T'=>(match aH l s3 with|S' x4=>(match aH l s6 with|S' x5=>(match x4.2.2.2.1==x5.2.2.2.1 with|T'=>(match aH l s3 with|S' x6=>(match aH l s6 with|S' x7=>k 57 (nC l s3 s6 x6 x7 0 ([]))|N'=>N')|N'=>N')|F'=>k 6 (pQ l (i64.wrap (s3+1))))|N'=>N')|N'=>N')|F'=>k 6 (pQ l (i64.wrap (s3+1)))))|N'=>N')|N'=>N')|F'=>k 6 (pQ l (i64.wrap (s3+1))))|F'=>k 6 (pQ l (i64.wrap (s3+1))))
theorem kf(l:List BCU)(s3:Int)(x1:BCU)(s5 s6 s7:Int):RN oz 23 (jU l s3 x1 s5 s6 s7) (iU l s3 x1 s5 s6 s7):=rnX
def m9(l:List BCU)(s3 s6:Int)(x6 x7:BCU)(s10:Int)(r2:List BCU)(k:KT):OLR:=match D' (s10<(l.length:Int))with|T'=>(match s10 !=s3 with|T'=>(match s10 !=s6 with|T'=>(match aH l s10 with|S' x8=>(og (D' ((r2.length+([x8]).length)*1040<=140737488355328/\r2.length+([x8]).length<=140737488355328)) (k 57 (nC l s3 s6 x6 x7 (i64.wrap (s10+1)) (r2++([x8])))))|N'=>N')|F'=>k 57 (nC l s3 s6 x6 x7 (i64.wrap (s10+1)) r2))|F'=>k 57 (nC l s3 s6 x6 x7 (i64.wrap (s10+1)) r2))|F'=>(og (D' ((r2.length+([(x6.1,(x6.2.1,(x6.2.2.1,(x6.2.2.2.1,(x6.2.2.2.2.1,x7.2.2.2.2.2)))))]).length)*1040<=140737488355328/\r2.length+([(x6.1,(x6.2.1,(x6.2.2.1,(x6.2.2.2.1,(x6.2.2.2.2.1,x7.2.2.2.2.2)))))]).length<=140737488355328)) (og (D' (ww (r2++([(x6.1,(x6.2.1,(x6.2.2.1,(x6.2.2.2.1,(x6.2.2.2.2.1,x7.2.2.2.2.2)))))])))) (S' [RV.d (.sl tCU) (EN (r2++([(x6.1,(x6.2.1,(x6.2.2.1,(x6.2.2.2.1,(x6.2.2.2.2.1,x7.2.2.2.2.2)))))])))])))
theorem qg(l:List BCU)(s3 s6:Int)(x6 x7:BCU)(s10:Int)(r2:List BCU):RN oz 57 (nC l s3 s6 x6 x7 s10 r2) (m9 l s3 s6 x6 x7 s10 r2):=rnX
section
variable {l:List BCU} (hl:l.length<=10000) (h:∀e∈l,gM e) {i:Nat} (hi:i<l.length)
include hl h hi
theorem agy{nx:Nat}(hn:nx<l.length)(hne:i≠nx)(hW:gM (mrg l[i] l[nx]))(ih:∀m:List BCU,m.length<l.length->(∀e∈m,gM e)->ww m):∀(j k:Nat),k+j=l.length->∀r2:List BCU,(∀e∈r2,gM e)->r2.length<=k->(i<k->r2.length+1<=k)->(nx<k->r2.length+1<=k)->(i<k->nx<k->r2.length+2<=k)->∃v,(v.length<=10000/\∀e∈v,gM e)/\oz.Runs 57 (nC l (i:Int) (nx:Int) l[i] l[nx] (k:Int) r2) [.d (.sl tCU) v]:=by
 intro j;induction j with
 |zero=>
  intro k hk r2 h2 a1 a2 a3 a4;have hm:=ih (r2++[mrg l[i] l[nx]]) (by have:=a4 (by omega) (by omega);simp;omega) (λe he=>(ape.1 he).elim (h2 e) λg=>by rw[apz.1 g];exact hW);refine⟨_,Lc hm,qg _ _ _ _ _ _ _ ⟨0,?_⟩⟩;unfold m9;rw[bg (by omega),dT (by simp;omega)];show og (D' (ww (r2++[mrg l[i] l[nx]]))) _=_;rw[dT hm];rfl
 |succ j ih2=>
  intro k hk r2 h2 a1 a2 a3 a4;have hkl:k<l.length:=by omega
  have same:(k=i\/k=nx)->∃v,(v.length<=10000/\∀e∈v,gM e)/\oz.Runs 57 (nC l (i:Int) (nx:Int) l[i] l[nx] ((k+1:Nat):Int) r2) [.d (.sl tCU) v]:=λg=>ih2 (k+1) (by omega) r2 h2 (by omega) (by omega) (by omega) (by omega);by_cases g1:k=i
  ·obtain⟨v,hv,n,hn⟩:=same (.inl g1);refine⟨v,hv,qg _ _ _ _ _ _ _ ⟨n,?_⟩⟩;unfold m9;rw[aO hkl,show((k:Int) !=(i:Int))=F' by rw[g1];exact arf _,aS (by omega)];exact hn
  ·by_cases g2:k=nx
   ·obtain⟨v,hv,n,hn⟩:=same (.inr g2);refine⟨v,hv,qg _ _ _ _ _ _ _ ⟨n,?_⟩⟩;unfold m9;rw[aO hkl,show((k:Int) !=(i:Int))=T' from aqZ.2 (by omega),show((k:Int) !=(nx:Int))=F' by rw[g2];exact arf _,aS (by omega)];exact hn
   ·clear same;obtain⟨v,hv,n,hn⟩:=ih2 (k+1) (by omega) (r2++[l[k]]) (λe he=>(ape.1 he).elim (h2 e) λg=>by rw[apz.1 g];exact h _ (aoY hkl)) (by simp;omega) (by simp;omega) (by simp;omega) (by simp;omega);refine⟨v,hv,qg _ _ _ _ _ _ _ ⟨n,?_⟩⟩;unfold m9;rw[aO hkl,show((k:Int) !=(i:Int))=T' from aqZ.2 (by omega),show((k:Int) !=(nx:Int))=T' from aqZ.2 (by omega),ak,aoO hkl];dsimp only;rw[dT (by simp;omega),aS (by omega)];exact hn
theorem aeu(ih:∀m:List BCU,m.length<l.length->(∀e∈m,gM e)->ww m)(next:∃v,(v.length<=10000/\∀e∈v,gM e)/\oz.Runs 6 (pQ l ((i+1:Nat):Int)) [.d (.sl tCU) v]):∀(j k:Nat),k+j=l.length->∀s5 s6:Int,(s6= -1\/∃(nx:Nat) (hn:nx<l.length),s6=nx/\aB (dec l[nx].2.2.2.2.1) (dec l[i].2.2.2.2.2)=0)->∃v,(v.length<=10000/\∀e∈v,gM e)/\oz.Runs 23 (jU l (i:Int) l[i] s5 s6 (k:Int)) [.d (.sl tCU) v]:=by
 have hx:=h _ (aoY hi);intro j;induction j with
 |zero=>
  intro k hk s5 s6 h6
  have go:(s5==2)=F'\/s6<0\/(∃(nx:Nat) (hn:nx<l.length),s6=nx/\(cG (dC l[i]) (dC l[nx])=F'\/(l[i].2.2.2.1==l[nx].2.2.2.1)=F'))->∃v,(v.length<=10000/\∀e∈v,gM e)/\oz.Runs 23 (jU l (i:Int) l[i] s5 s6 (k:Int)) [.d (.sl tCU) v]:=λg=>by
   obtain⟨v,hv,n,hn⟩:=next;refine⟨v,hv,kf _ _ _ _ _ _ ⟨n,?_⟩⟩;unfold iU;rw[bg (by omega)];dsimp only;rw[aS (k:=i) (by omega)];rcases g with g|g|⟨nx,hx2,e,g⟩
   ·rw[g];exact hn
   ·rw[dF (show ¬s6>=0 by omega)];cases s5==2<;>exact hn
   ·have hy:=h _ (aoY hx2);rw[e,ak,aoO hi,ak,aoO hx2,dT (show((nx:Nat):Int)>=0 by omega)];dsimp only;rw[dT (show fh l[i] l[nx] from⟨hx.1.1.2,hy.1.1.2⟩)];rcases g with g|g<;>rw[g]
    ·cases s5==2<;>exact hn
    ·cases s5==2<;>cases cG (dC l[i]) (dC l[nx])<;>exact hn
  cases q1:s5==2
  ·exact go (.inl q1)
  rcases h6 with h6|⟨nx,hn,e,he⟩
  ·exact go (.inr (.inl (by omega)))
  have hy:=h _ (aoY hn);cases q2:cG (dC l[i]) (dC l[nx])
  ·exact go (.inr (.inr ⟨nx,hn,e,.inl q2⟩))
  cases q3:l[i].2.2.2.1==l[nx].2.2.2.1
  ·exact go (.inr (.inr ⟨nx,hn,e,.inr q3⟩))
  have hne:i≠nx:=λg=>by
   subst g;have:=hx.2.1;have r1:=(fG hx.1.gd).f.1;have r2:=(fG hx.1.gd).t.1;have he:aB (frC (dC l[i])) (toC (dC l[i]))=0:=he;omega
  obtain⟨v,hv,n,hn2⟩:=agy hl h hi hn hne (adw hx hy q2 (apw.1 q3) he) ih l.length 0 (ao3 _) [] (λe he=>by cases he) (by simp) (by omega) (by omega) (by omega);refine⟨v,hv,kf _ _ _ _ _ _ ⟨n,?_⟩⟩;unfold iU;rw[bg (by omega)];dsimp only;rw[q1,e,ak,aoO hi,ak,aoO hn,dT (show((nx:Nat):Int)>=0 by omega)];dsimp only;rw[dT (show fh l[i] l[nx] from⟨hx.1.1.2,hy.1.1.2⟩),q2,q3];exact hn2
 |succ j ih2=>
  intro k hk s5 s6 h6;have hkl:k<l.length:=by omega
  have hy:=h _ (aoY hkl);have k1:okP 4000 l[k].2.2.2.2.1/\okP 4000 l[i].2.2.2.2.2:=⟨aU hy.1.1.1.2.2.1 (by decide) (by decide),aU hx.1.1.1.2.2.2 (by decide) (by decide)⟩
  have k2:okP 4000 l[k].2.2.2.2.2/\okP 4000 l[i].2.2.2.2.2:=⟨aU hy.1.1.1.2.2.2 (by decide) (by decide),k1.2⟩
  have st:∀(s5' s6':Int),(s6'=s6\/s6'=k/\aB (dec l[k].2.2.2.2.1) (dec l[i].2.2.2.2.2)=0)->∃v,(v.length<=10000/\∀e∈v,gM e)/\oz.Runs 23 (jU l (i:Int) l[i] s5' s6' ((k+1:Nat):Int)) [.d (.sl tCU) v]:=λs5' s6' g=>by
   refine ih2 (k+1) (by omega) s5' s6' ?_;rcases g with g|⟨g,g'⟩
   ·rw[g];exact h6
   ·exact .inr ⟨k,hkl,g,g'⟩
  cases e1:aB (dec l[k].2.2.2.2.1) (dec l[i].2.2.2.2.2)==0<;>cases e2:aB (dec l[k].2.2.2.2.2) (dec l[i].2.2.2.2.2)==0
  ·obtain⟨v,hv,n,hn⟩:=st s5 s6 (.inl rfl);refine⟨v,hv,kf _ _ _ _ _ _ ⟨n,?_⟩⟩;unfold iU;rw[aO hkl,ak,aoO hkl];dsimp only;rw[dT k1,dT k2,e1,e2,aS (k:=k) (by omega)];exact hn
  ·obtain⟨v,hv,n,hn⟩:=st (i64.wrap (s5+1)) s6 (.inl rfl);refine⟨v,hv,kf _ _ _ _ _ _ ⟨n,?_⟩⟩;unfold iU;rw[aO hkl,ak,aoO hkl];dsimp only;rw[dT k1,dT k2,e1,e2,aS (k:=k) (by omega)];exact hn
  ·obtain⟨v,hv,n,hn⟩:=st (i64.wrap (s5+1)) k (.inr ⟨rfl,apw.1 e1⟩);refine⟨v,hv,kf _ _ _ _ _ _ ⟨n,?_⟩⟩;unfold iU;rw[aO hkl,ak,aoO hkl];dsimp only;rw[dT k1,dT k2,e1,e2,aS (k:=k) (by omega)];exact hn
  ·obtain⟨v,hv,n,hn⟩:=st (i64.wrap ((i64.wrap (s5+1))+1)) k (.inr ⟨rfl,apw.1 e1⟩);refine⟨v,hv,kf _ _ _ _ _ _ ⟨n,?_⟩⟩;unfold iU;rw[aO hkl,ak,aoO hkl];dsimp only;rw[dT k1,dT k2,e1,e2,aS (k:=k) (by omega)];exact hn
omit hi in
theorem aiX(ih:∀m:List BCU,m.length<l.length->(∀e∈m,gM e)->ww m):∀(j i:Nat),i+j=l.length->∃v,(v.length<=10000/\∀e∈v,gM e)/\oz.Runs 6 (pQ l (i:Int)) [.d (.sl tCU) v]:=by
 intro j;induction j with
 |zero=>
  intro i hi;refine⟨l,⟨hl,h⟩,FO _ _ ⟨0,?_⟩⟩;unfold xQ;rw[bg (by omega)]
 |succ j ih2=>
  intro i hi;have hil:i<l.length:=by omega
  obtain⟨v,hv,n,hn⟩:=aeu hl h hil ih (ih2 (i+1) (by omega)) l.length 0 (ao3 _) 0 (-1) (.inl rfl);refine⟨v,hv,FO _ _ ⟨n,?_⟩⟩;unfold xQ;rw[aO hil,ak,aoO hil];exact hn
end
theorem JP{l:List BCU}(hl:l.length<=10000)(h:∀e∈l,gM e)(ih:∀m:List BCU,m.length<l.length->(∀e∈m,gM e)->ww m):ww l:=by
 suffices gX:∃v:(List BCU),(λv:List BCU=>v.length<=10000/\∀e∈v,gM e) v/\∃nX,aaM l (oz.k nX)=S' [.d (.sl tCU) v] from gX.elim λv h=>⟨v,h.1,aX T3 (aig l h.2)⟩
 obtain⟨v,hv,n,hn⟩:=aiX hl h ih l.length 0 (ao3 _);exact⟨v,hv,n,hn⟩
theorem Qu:∀(n:Nat) {l:List BCU},l.length<=n->l.length<=10000->(∀e∈l,gM e)->ww l
 |0,l,hn,hl,h=>JP hl h λm hm _=>by omega
 |n+1,l,hn,hl,h=>JP hl h λm hm g=>Qu n (by omega) (by omega) g
def Q5:List En:=[enL abn]
def acM:NT:=[((66,8),{keep:=[3,4],hl:=1}),((66,20),{keep:=[3,4,5],hl:=1})]
def yX:Ctx:=CX (ens Q5) acM
def uW(s4:Int)(r0:List BCU):Cfg:=⟨66,[.blk 0,.seq 32],[(3,.own 0),(4,SI s4)],[.row 48 tCU r0],0,[]⟩
def wH(s4 s5:Int)(r0:List BCU):Cfg:=⟨66,[.blk 2,.blk 1,.seq 31,.lp 8,.blk 0,.seq 32],[(3,.own 0),(4,SI s4),(5,SI s5)],[.row 48 tCU r0],0,[]⟩
def Sc(l:List BCU)(k:KT):OLR:=og (D' ((([]:List BCU).length+l.length)*1040<=140737488355328/\([]:List BCU).length+l.length<=140737488355328)) (k 8 (uW 0 (([]:List BCU)++l)))
theorem alL(l:List BCU):RS yX 66 [.d (.sl tCU) l] (Sc l):=rsX
def za(s4:Int)(r0:List BCU)(k:KT):OLR:=match D' (s4<(r0.length:Int))with|T'=>k 20 (wH s4 s4 r0)|F'=>S' [RV.new 48 tCU r0]
theorem Gl(s4:Int)(r0:List BCU):RN yX 8 (uW s4 r0) (za s4 r0):=rnX
def qh(s4 s5:Int)(r0:List BCU)(k:KT):OLR:=match D' (s5>0)with|T'=>(match aH r0 s5 with|S' _=>(match T',r0[(s5).toNat]? with|T',S' x1=>(match aH r0 (i64.wrap (s5-1))with|S' _=>(match T',r0[(i64.wrap (s5-1)).toNat]? with|T',S' x2=>(og (D' (Vh x1 x2)) (match D' ((UV x1 x2)<0)with|T'=>(match aH r0 (i64.wrap (s5-1))with|S' _=>(match T',r0[(i64.wrap (s5-1)).toNat]? with|T',S' x3=>(match aH r0 s5 with|S' _=>(match T',r0[(s5).toNat]? with|T',S' x4=>(match aH r0 s5 with|S' _=>(match T',r0[(s5).toNat]? with|T',S' _=>(match aH (r0.set ((s5).toNat) x3) (i64.wrap (s5-1))with|S' _=>(match T',(r0.set ((s5).toNat) x3)[(i64.wrap (s5-1)).toNat]? with|T',S' _=>k 20 (wH s4 (i64.wrap (s5-1)) ((r0.set ((s5).toNat) x3).set ((i64.wrap (s5-1)).toNat) x4))|_,_=>N')|N'=>N')|_,_=>N')|N'=>N')|_,_=>N')|N'=>N')|_,_=>N')|N'=>N')|F'=>k 8 (uW (i64.wrap (s4+1)) r0)))|_,_=>N')|N'=>N')|_,_=>N')|N'=>N')|F'=>k 8 (uW (i64.wrap (s4+1)) r0)
theorem vt(s4 s5:Int)(r0:List BCU):RN yX 20 (wH s4 s5 r0) (qh s4 s5 r0):=rnX
def Iw(l:List BCU):Prop:=∃v:(List BCU),(λv:List BCU=>v.length<=10000/\∀e∈v,gM e) v/\CQq7 66 [.d (.sl tCU) l] [.d (.sl tCU) v]
instance (l:List BCU):Decidable (Iw l):=Classical.propDecidable _
def MJ(l:List BCU):(List BCU):=Classical.epsilon λv=>(λv:List BCU=>v.length<=10000/\∀e∈v,gM e) v/\CQq7 66 [.d (.sl tCU) l] [.d (.sl tCU) v]
theorem V0{l:List BCU}(h:Iw l):(λv:List BCU=>v.length<=10000/\∀e∈v,gM e) (MJ l):=(ao0 h).1
def ah8:Cn 66 [(.sl tCU)]:=cn λ(l:List BCU)=>lf (Iw l) [.d (.sl tCU) (MJ l)] λh=>(ao0 h).2
theorem acR{i n:Nat}(hn:n<=10000)(hi:i<n){Q:List BCU->Prop}(next:∀r:List BCU,r.length=n->(∀e∈r,gM e)->∃v,Q v/\yX.Runs 8 (uW ((i+1:Nat):Int) r) [.new 48 tCU v]):∀(k:Nat),k<=i->∀r:List BCU,r.length=n->(∀e∈r,gM e)->∃v,Q v/\yX.Runs 20 (wH (i:Int) (k:Int) r) [.new 48 tCU v]:=by
 intro k;induction k with
 |zero=>
  intro _ r hr h;obtain⟨v,hv,m,hm⟩:=next r hr h;refine⟨v,hv,vt _ _ _ ⟨m,?_⟩⟩;unfold qh;rw[dF (show ¬((0:Nat):Int)>0 by decide),aS (by omega)];exact hm
 |succ k ih=>
  intro hk r hr h;have h1:k+1<r.length:=by omega
  have h0:k<r.length:=by omega
  have e1:i64.wrap (((k+1:Nat):Int)-1)=(k:Int):=by rw[aM (by omega) (by omega)];omega
  have t1:((k+1:Nat):Int).toNat=k+1:=by omega
  have t0:((k:Nat):Int).toNat=k:=by omega
  have x1:=h _ (aoY h1);have x0:=h _ (aoY h0);have g1:r[((k+1:Nat):Int).toNat]?=S' r[k+1]:=by rw[t1,aoO h1]
  have g0:r[((k:Nat):Int).toNat]?=S' r[k]:=by rw[t0,aoO h0]
  cases hc:D' (UV r[k+1] r[k]<0)
  ·obtain⟨v,hv,m,hm⟩:=next r hr h;refine⟨v,hv,vt _ _ _ ⟨m,?_⟩⟩;unfold qh;rw[dT (show((k+1:Nat):Int)>0 by omega),e1,ak,aoO h1,g1,ak,aoO h0,g0];dsimp only;rw[dT (Eb (v9 x1.1) (v9 x0.1)),hc,aS (by omega)];exact hm
  ·have hs:∀e∈(r.set (k+1) r[k]).set k r[k+1],gM e:=λe he=>by
    rcases aq6 he with g|g
    ·rcases aq6 g with g|g
     ·exact h e g
     ·rw[g];exact x0
    ·rw[g];exact x1
   obtain⟨v,hv,m,hm⟩:=ih (by omega) _ (by simp[hr]) hs;refine⟨v,hv,vt _ _ _ ⟨m,?_⟩⟩;unfold qh;rw[dT (show((k+1:Nat):Int)>0 by omega),e1,ak,aoO h1,g1,ak,aoO h0,g0];dsimp only;rw[dT (Eb (v9 x1.1) (v9 x0.1)),hc,t1,t0,ak,aoO (l:=r.set (k+1) r[k]) (i:=k) (by simp;omega)];exact hm
theorem alQ{n:Nat}(hn:n<=10000):∀(j i:Nat),i+j=n->∀r:List BCU,r.length=n->(∀e∈r,gM e)->∃v,(v.length<=10000/\∀e∈v,gM e)/\yX.Runs 8 (uW (i:Int) r) [.new 48 tCU v]:=by
 intro j;induction j with
 |zero=>
  intro i hi r hr h;refine⟨r,⟨by omega,h⟩,Gl _ _ ⟨0,?_⟩⟩;unfold za;rw[bg (by omega)]
 |succ j ih=>
  intro i hi r hr h;obtain⟨v,hv,m,hm⟩:=acR hn (by omega) (λr a b=>ih (i+1) (by omega) r a b) i (aoU _) r hr h;refine⟨v,hv,Gl _ _ ⟨m,?_⟩⟩;unfold za;rw[aO (by omega)];exact hm
theorem afa{l:List BCU}(hl:l.length<=10000)(h:∀e∈l,gM e):Iw l:=by
 suffices gX:∃v:(List BCU),(λv:List BCU=>v.length<=10000/\∀e∈v,gM e) v/\∃nX,Sc l (yX.k nX)=S' [.new 48 tCU v] from gX.elim λv h=>⟨v,h.1,Con.new_d (aX Q5 (alL l h.2))⟩
 obtain⟨v,hv,n,hn⟩:=alQ hl l.length 0 (ao3 _) l rfl h;refine⟨v,hv,n,?_⟩;unfold Sc;rw[dT (by simp;omega)];exact hn
def Qr:List En:=[enT nM]
def agp:NT:=[((65,6),{keep:=[0,3],hl:=0}),((65,20),{keep:=[0,3,4,5],hl:=1}),((65,35),{keep:=[0,3,4,5,6,7],hl:=1})]
def oH:Ctx:=CX (ens Qr) agp
def Ae(l:List BCU)(s3:Int):Cfg:=⟨65,[.blk 0,.seq 65],[(0,.d (.sl tCU) l),(3,SI s3)],[],0,[]⟩
def t5(l:List BCU)(s3:Int)(x1 x2:BCU)(s5:Int):Cfg:=⟨65,[.blk 2,.blk 1,.seq 64,.lp 6,.blk 0,.seq 65],[(0,.d (.sl tCU) l),(3,SI s3),(4,.own 0),(5,SI s5)],[.row 40 tP ([x1.2.2.2.2.1,x2.2.2.2.2.2])],0,[]⟩
def lT(l:List BCU)(s3:Int)(x1 x2:BCU)(s5 s6 s7:Int):Cfg:=⟨65,[.blk 4,.seq 56,.blk 3,.seq 63,.lp 20,.blk 2,.blk 1,.seq 64,.lp 6,.blk 0,.seq 65],[(0,.d (.sl tCU) l),(3,SI s3),(4,.own 0),(5,SI s5),(6,SI s6),(7,SI s7)],[.row 40 tP ([x1.2.2.2.2.1,x2.2.2.2.2.2])],0,[]⟩
def ab8(l:List BCU)(k:KT):OLR:=k 6 (Ae l 0)
theorem amt(l:List BCU):RS oH 65 [.d (.sl tCU) l] (ab8 l):=rsX
def zw(l:List BCU)(s3:Int)(k:KT):OLR:=match D' (s3<(l.length:Int))with|T'=>(match aH l s3 with|S' x1=>(match aH l s3 with|S' x2=>k 20 (t5 l s3 x1 x2 0)|N'=>N')|N'=>N')|F'=>S' [RV.d .bool F']
theorem F5(l:List BCU)(s3:Int):RN oH 6 (Ae l s3) (zw l s3):=rnX
def u9(l:List BCU)(s3:Int)(x1 x2:BCU)(s5:Int)(k:KT):OLR:=match D' (s5<2)with|T'=>k 35 (lT l s3 x1 x2 s5 0 0)|F'=>k 6 (Ae l (i64.wrap (s3+1)))
theorem Bm(l:List BCU)(s3:Int)(x1 x2:BCU)(s5:Int):RN oH 20 (t5 l s3 x1 x2 s5) (u9 l s3 x1 x2 s5):=rnX
def m5(l:List BCU)(s3:Int)(x1 x2:BCU)(s5 s6 s7:Int)(k:KT):OLR:=match D' (s7<(l.length:Int))with|T'=>(match aH l s7 with|S' x3=>(match aH ([x1.2.2.2.2.1,x2.2.2.2.2.2]) s5 with|S' _=>(match T',([x1.2.2.2.2.1,x2.2.2.2.2.2])[(s5).toNat]? with|T',S' x4=>(og (D' (okP 4000 x3.2.2.2.2.1/\okP 4000 x4)) (match aB (dec x3.2.2.2.2.1) (dec x4)==0 with|T'=>(match aH l s7 with|S' x5=>(match aH ([x1.2.2.2.2.1,x2.2.2.2.2.2]) s5 with|S' _=>(match T',([x1.2.2.2.2.1,x2.2.2.2.2.2])[(s5).toNat]? with|T',S' x6=>(og (D' (okP 4000 x5.2.2.2.2.2/\okP 4000 x6)) (match aB (dec x5.2.2.2.2.2) (dec x6)==0 with|T'=>k 35 (lT l s3 x1 x2 s5 (i64.wrap ((i64.wrap (s6+1))+1)) (i64.wrap (s7+1)))|F'=>k 35 (lT l s3 x1 x2 s5 (i64.wrap (s6+1)) (i64.wrap (s7+1)))))|_,_=>N')|N'=>N')|N'=>N')|F'=>(match aH l s7 with|S' x5=>(match aH ([x1.2.2.2.2.1,x2.2.2.2.2.2]) s5 with|S' _=>(match T',([x1.2.2.2.2.1,x2.2.2.2.2.2])[(s5).toNat]? with|T',S' x6=>(og (D' (okP 4000 x5.2.2.2.2.2/\okP 4000 x6)) (match aB (dec x5.2.2.2.2.2) (dec x6)==0 with|T'=>k 35 (lT l s3 x1 x2 s5 (i64.wrap (s6+1)) (i64.wrap (s7+1)))|F'=>k 35 (lT l s3 x1 x2 s5 s6 (i64.wrap (s7+1)))))|_,_=>N')|N'=>N')|N'=>N')))|_,_=>N')|N'=>N')|N'=>N')|F'=>(match(Int.tmod s6 2)==1 with|T'=>S' [RV.d .bool T']|F'=>k 20 (t5 l s3 x1 x2 (i64.wrap (s5+1))))
theorem vO(l:List BCU)(s3:Int)(x1 x2:BCU)(s5 s6 s7:Int):RN oH 35 (lT l s3 x1 x2 s5 s6 s7) (m5 l s3 x1 x2 s5 s6 s7):=rnX
def XV(l:List BCU):Prop:=∃v:Bool,(λ_:Bool=>True) v/\CQq7 65 [.d (.sl tCU) l] [.d .bool v]
instance (l:List BCU):Decidable (XV l):=Classical.propDecidable _
def ac0(l:List BCU):Bool:=Classical.epsilon λv=>(λ_:Bool=>True) v/\CQq7 65 [.d (.sl tCU) l] [.d .bool v]
def ah4:Cn 65 [(.sl tCU)]:=cn λ(l:List BCU)=>lf (XV l) [.d .bool (ac0 l)] λh=>(ao0 h).2
section
variable {l:List BCU} (hl:l.length<=10000) (h:∀e∈l,gdN e) {i:Nat} (hi:i<l.length)
include hl h hi
theorem afM{d:Nat}(hd:d<2)(next:∃v,oH.Runs 20 (t5 l (i:Int) l[i] l[i] ((d+1:Nat):Int)) [.d .bool v]):∀(j k:Nat),k+j=l.length->∀s:Int,∃v,oH.Runs 35 (lT l (i:Int) l[i] l[i] (d:Int) s (k:Int)) [.d .bool v]:=by
 have hx:=h _ (aoY hi)
 have hp:∃p,okP 580 p/\[l[i].2.2.2.2.1,l[i].2.2.2.2.2][d]?=S' p:=by
  match d,hd with
  |0,_=>exact⟨_,hx.1.1.2.2.1,rfl⟩
  |1,_=>exact⟨_,hx.1.1.2.2.2,rfl⟩
 obtain⟨p,op,ep⟩:=hp;have op4:=aU (k:=4000) op (by decide) (by decide);have ep':[l[i].2.2.2.2.1,l[i].2.2.2.2.2][((d:Nat):Int).toNat]?=S' p:=by rw[show((d:Nat):Int).toNat=d by omega,ep]
 intro j;induction j with
 |zero=>
  intro k hk s;cases g:Int.tmod s 2==1
  ·obtain⟨v,n,hn⟩:=next;refine⟨v,vO _ _ _ _ _ _ _ ⟨n,?_⟩⟩;unfold m5;rw[bg (by omega),g,aS (k:=d) (by omega)];exact hn
  ·refine⟨T',vO _ _ _ _ _ _ _ ⟨0,?_⟩⟩;unfold m5;rw[bg (by omega),g]
 |succ j ih=>
  intro k hk s;have hkl:k<l.length:=by omega
  have hy:=h _ (aoY hkl);have k1:okP 4000 l[k].2.2.2.2.1/\okP 4000 p:=⟨aU hy.1.1.2.2.1 (by decide) (by decide),op4⟩
  have k2:okP 4000 l[k].2.2.2.2.2/\okP 4000 p:=⟨aU hy.1.1.2.2.2 (by decide) (by decide),op4⟩
  have st:∃s',(∀n,m5 l (i:Int) l[i] l[i] (d:Int) s (k:Int) (oH.k n)=oH.k n 35 (lT l (i:Int) l[i] l[i] (d:Int) s' ((k+1:Nat):Int))):=by
   unfold m5;rw[aO hkl,ak,aoO hkl,ak,ep,ep'];dsimp only;rw[dT k1,dT k2,aS (k:=k) (by omega)];cases aB (dec l[k].2.2.2.2.1) (dec p)==0<;>cases aB (dec l[k].2.2.2.2.2) (dec p)==0<;>exact⟨_,λ_=>rfl⟩
  obtain⟨s',hs⟩:=st;obtain⟨v,n,hn⟩:=ih (k+1) (by omega) s';exact⟨v,vO _ _ _ _ _ _ _ ⟨n,(hs n).trans hn⟩⟩
theorem ac6(next:∃v,oH.Runs 6 (Ae l ((i+1:Nat):Int)) [.d .bool v]):∀(j d:Nat),d+j=2->∃v,oH.Runs 20 (t5 l (i:Int) l[i] l[i] (d:Int)) [.d .bool v]:=by
 intro j;induction j with
 |zero=>
  intro d hd;obtain⟨v,n,hn⟩:=next;refine⟨v,Bm _ _ _ _ _ ⟨n,?_⟩⟩;unfold u9;rw[dF (show ¬(d:Int)<2 by omega),aS (by omega)];exact hn
 |succ j ih=>
  intro d hd;obtain⟨v,n,hn⟩:=afM hl h hi (by omega) (ih (d+1) (by omega)) l.length 0 (ao3 _) 0;refine⟨v,Bm _ _ _ _ _ ⟨n,?_⟩⟩;unfold u9;rw[dT (show(d:Int)<2 by omega)];exact hn
omit hi in
theorem aia:∀(j i:Nat),i+j=l.length->∃v,oH.Runs 6 (Ae l (i:Int)) [.d .bool v]:=by
 intro j;induction j with
 |zero=>
  intro i hi;refine⟨F',F5 _ _ ⟨0,?_⟩⟩;unfold zw;rw[bg (by omega)]
 |succ j ih=>
  intro i hi;have hil:i<l.length:=by omega
  obtain⟨v,n,hn⟩:=ac6 hl h hil (ih (i+1) (by omega)) 2 0 rfl;refine⟨v,F5 _ _ ⟨n,?_⟩⟩;unfold zw;rw[aO hil,ak,aoO hil];exact hn
end
theorem ahn{l:List BCU}(hl:l.length<=10000)(h:∀e∈l,gdN e):XV l:=by
 suffices gX:∃v:Bool,(λ_:Bool=>True) v/\∃nX,ab8 l (oH.k nX)=S' [.d .bool v] from gX.elim λv h=>⟨v,h.1,aX Qr (amt l h.2)⟩
 obtain⟨v,n,hn⟩:=aia hl h l.length 0 (ao3 _);exact⟨v,trivial,n,hn⟩
end
section
open RE
def atF(x y u:Int):Rat×Rat:=(atQ x u,atQ y u)
abbrev Frm:Type:=Int×Int×Int×Int×Int×Int×List (Int×Int)
def Hx(x:Frm):Prop:=u8P x.1/\u8P x.2.1/\i8P x.2.2.1/\i8P x.2.2.2.1/\i8P x.2.2.2.2.1/\i8P x.2.2.2.2.2.1/\∀c∈x.2.2.2.2.2.2,i8P c.1/\i8P c.2
theorem Hv{x y u:Int}(hx:i8P x)(hy:i8P y)(hu:u8P u):Bd (atF x y u) 1:=by
 have h1:Bd (atQ x u) 1:=abC (h:=Zc hx hu) (by decide) (by decide);have h2:Bd (atQ y u) 1:=abC (h:=Zc hy hu) (by decide) (by decide);exact inferInstanceAs (Bd (atQ x u,atQ y u) _)
theorem T1{c:BCU}(h:gdN c):okC 3500 c:=aY h.1.1 (by decide) (by decide)
def NH:List En:=[enT acq,enK ah4,enK akS,enK ajy,enK YX,enK ah8]
def agN:NT:=[((28,14),{keep:=[0,2,4],hl:=1})]
def Kc:Ctx:=CX (ens NH) agN
def wN(l:List BCU)(s4:Int):Cfg:=⟨28,[.blk 0,.seq 31],[(0,.d (.sl tCU) l),(2,.box 0 0),(4,SI s4)],[.box 30 [.nil]],0,[]⟩
def TY(l:List BCU)(k:KT):OLR:=match D' ((l.length:Int)>400)with|T'=>S' [RV.d (.st (.sl tCU)) ([]),RV.d ask 3]|F'=>k 14 (wN l 0)
theorem ajt(l:List BCU):RS Kc 28 [.d (.sl tCU) l] (TY l):=rsX
def ke(l:List BCU)(s4:Int)(k:KT):OLR:=match D' (s4<(l.length:Int))with|T'=>(match aH l s4 with|S' x1=>(og (D' (okC 3500 x1)) (match !(Ga (dC x1))with|T'=>S' [RV.d (.st (.sl tCU)) ([]),RV.d ask 1]|F'=>k 14 (wN l (i64.wrap (s4+1)))))|N'=>N')|F'=>(og (D' (XV l)) (match(ac0 l)with|T'=>S' [RV.d (.st (.sl tCU)) ([]),RV.d ask 8]|F'=>(og (D' (SC l)) (og (D' (Ut (D5 l))) (og (D' (ww (E1 (D5 l)))) (og (D' (Iw (EN (E1 (D5 l))))) (match D' (((MJ (EN (E1 (D5 l)))).length:Int)>400)with|T'=>S' [RV.d (.st (.sl tCU)) ([]),RV.d ask 3]|F'=>S' [RV.d (.st (.sl tCU)) (MJ (EN (E1 (D5 l)))),RV.d ask 0])))))))
theorem mv(l:List BCU)(s4:Int):RN Kc 14 (wN l s4) (ke l s4):=rnX
def US(l:List BCU):Prop:=∃v:(List BCU)×Int,(λv:List BCU×Int=>v.1.length<=10000/\∀e∈v.1,gM e) v/\CQq7 28 [.d (.sl tCU) l] [.d (.st (.sl tCU)) v.1,.d ask v.2]
instance (l:List BCU):Decidable (US l):=Classical.propDecidable _
def GX(l:List BCU):(List BCU)×Int:=Classical.epsilon λv=>(λv:List BCU×Int=>v.1.length<=10000/\∀e∈v.1,gM e) v/\CQq7 28 [.d (.sl tCU) l] [.d (.st (.sl tCU)) v.1,.d ask v.2]
theorem VC{l:List BCU}(h:US l):(λv:List BCU×Int=>v.1.length<=10000/\∀e∈v.1,gM e) (GX l):=(ao0 h).1
def anb:Cn 28 [(.sl tCU)]:=cn λ(l:List BCU)=>lf (US l) [.d (.st (.sl tCU)) ((GX l).1),.d ask ((GX l).2)] λh=>(ao0 h).2
theorem af3{l:List BCU}(h:∀e∈l,gdN e)(hl:l.length<=12):∀(j i:Nat),i+j=l.length->(∀k (hk:k<l.length),k<i->gS l[k])->∃v:List BCU×Int,(v.1.length<=10000/\∀e∈v.1,gM e)/\Kc.Runs 14 (wN l (i:Int)) [.d (.st (.sl tCU)) v.1,.d ask v.2]:=by
 intro j;induction j with
 |zero=>
  intro i hi hS;have p1:=ahn (by omega) h;have p2:=ahr (λe he=>⟨h e he,by obtain⟨k,hk,rfl⟩:=List.mem_iff_getElem.1 he;exact hS k hk (by omega)⟩) hl;obtain⟨l2,g2⟩:=We p2;have p3:=aeJ g2 l2;obtain⟨l3,g3⟩:=VL p3;have p4:=Qu _ (aoU _) l3 g3;obtain⟨l4,g4⟩:=Lc p4;have p5:=afa l4 g4;obtain⟨l5,g5⟩:=V0 p5;cases q1:ac0 l
  ·cases q2:D' (((MJ (EN (E1 (D5 l)))).length:Int)>400)
   ·refine⟨(MJ (EN (E1 (D5 l))),0),⟨l5,g5⟩,mv _ _ ⟨0,?_⟩⟩;unfold ke;rw[bg (by omega),dT p1,q1,dT p2,dT p3,dT p4,dT p5,q2]
   ·refine⟨([],3),⟨by simp,λe he=>by cases he⟩,mv _ _ ⟨0,?_⟩⟩;unfold ke;rw[bg (by omega),dT p1,q1,dT p2,dT p3,dT p4,dT p5,q2]
  ·refine⟨([],8),⟨by simp,λe he=>by cases he⟩,mv _ _ ⟨0,?_⟩⟩;unfold ke;rw[bg (by omega),dT p1,q1]
 |succ j ih=>
  intro i hi hS;have hil:i<l.length:=by omega
  have hx:=h _ (aoY hil);cases hv:Ga (dC l[i])
  ·refine⟨([],1),⟨by simp,λe he=>by cases he⟩,mv _ _ ⟨0,?_⟩⟩;unfold ke;rw[aO hil,ak,aoO hil];dsimp only;rw[dT (T1 hx),hv];rfl
  ·obtain⟨v,g,n,hn⟩:=ih (i+1) (by omega) λk hk hi'=>by
    by_cases e:k=i
    ·subst e;intro ha;have hv:=(ao9.1 hv).1;rw[show(dC l[k]).1=F' from ha]at hv;exact(aql _).mp hv
    ·exact hS k hk (by omega)
   refine⟨v,g,mv _ _ ⟨n,?_⟩⟩;unfold ke;rw[aO hil,ak,aoO hil];dsimp only;rw[dT (T1 hx),hv,aS (by omega)];exact hn
theorem afE{l:List BCU}(h:∀e∈l,gdN e)(hl:l.length<=12):US l:=by
 suffices gX:∃v:(List BCU)×Int,(λv:List BCU×Int=>v.1.length<=10000/\∀e∈v.1,gM e) v/\∃nX,TY l (Kc.k nX)=S' [.d (.st (.sl tCU)) v.1,.d ask v.2] from gX.elim λv h=>⟨v,h.1,aX NH (ajt l h.2)⟩
 obtain⟨v,g,n,hn⟩:=af3 h hl l.length 0 (ao3 _) λ_ _ h=>absurd h (Nat.not_lt_zero _);refine⟨v,g,n,?_⟩;unfold TY;rw[dF (show ¬(l.length:Int)>400 by omega)];exact hn
def Qw:List En:=[]
def ahI(x y:BR)(_k:KT):OLR:=S' [RV.d tV (x,y)]
def acz:Cn 133 [tR,tR]:=cn λ(x y:BR)=>lf True [.d tV (x,y)] λ_=>by
 refine aA Qw (ahI x y) ⟨0,?_⟩;rfl
def agx:List En:=enL ov::enL acz::Qw
def aa0(x y u:Int)(_k:KT):OLR:=og (D' (mV (i64.wrap x) (i64.wrap ((i64.wrap (Int.tmod u 4))+1)))) (og (D' (mV (i64.wrap y) (i64.wrap ((i64.wrap (Int.tmod u 4))+1)))) (S' [RV.d tV (hid (((hid (av (Rat.divInt (i64.wrap x) (i64.wrap ((i64.wrap (Int.tmod u 4))+1))))),(hid (av (Rat.divInt (i64.wrap y) (i64.wrap ((i64.wrap (Int.tmod u 4))+1))))))))]))
def alZ:Cn 132 [(.int .i8),(.int .i8),(.int .u8)]:=cn λ(x y u:Int)=>lf (i8P x/\i8P y/\u8P u) [.d tV (enc (atF x y u))] λh=>by
 refine aA agx (aa0 x y u) ⟨0,?_⟩;obtain⟨hx,hy,hu⟩:=h;obtain⟨x1,x2⟩:=hx;obtain⟨y1,y2⟩:=hy;obtain⟨u1,u2⟩:=hu;have e4:Int.tmod u 4=u%4:=aqx u1;unfold aa0;rw[e4,aM (x:=x) (by omega) (by omega),aM (x:=y) (by omega) (by omega),aM (x:=u%4) (by omega) (by omega),aM (x:=u%4+1) (by omega) (by omega),dT (show mV x (u%4+1) from⟨by unfold bI;omega,by unfold bI;omega,by omega⟩),dT (show mV y (u%4+1) from⟨by unfold bI;omega,by unfold bI;omega,by omega⟩)];simp only[aQ];rfl
def Sx:List En:=[enL vp]
def ag9:NT:=[((77,8),{keep:=[0,3,4],own:=[(3,48,tCU)],hl:=1})]
def Ji:Ctx:=CX (ens Sx) ag9
def yC(l:List BV)(s4:Int)(r0:List BCU):Cfg:=⟨77,[.blk 0,.seq 25],[(0,.d (.sl tV) l),(3,.own 0),(4,SI s4)],[.row 48 tCU r0],0,[]⟩
def Zs(l:List BV)(k:KT):OLR:=k 8 (yC l 0 ([]))
theorem amP(l:List BV):RS Ji 77 [.d (.sl tV) l] (Zs l):=rsX
def tw(l:List BV)(s4:Int)(r0:List BCU)(k:KT):OLR:=match D' (s4<(l.length:Int))with|T'=>(match aH l s4 with|S' x1=>(match D' ((l.length:Int)=(0:Int))with|T'=>N'|F'=>(match aH l (Int.tmod (i64.wrap (s4+1)) (l.length:Int))with|S' x2=>(og (D' (ok (Rat×Rat) 100 x1/\ok (Rat×Rat) 100 x2)) (match(wu (dec x1) (dec x2))==0 with|T'=>(og (D' ((r0.length+([hid (yJ (dec x1) (dec x2))]).length)*1040<=140737488355328/\r0.length+([hid (yJ (dec x1) (dec x2))]).length<=140737488355328)) (k 8 (yC l (i64.wrap (s4+1)) (r0++([hid (yJ (dec x1) (dec x2))])))))|F'=>k 8 (yC l (i64.wrap (s4+1)) r0)))|N'=>N'))|N'=>N')|F'=>S' [RV.new 48 tCU r0]
theorem yN(l:List BV)(s4:Int)(r0:List BCU):RN Ji 8 (yC l s4 r0) (tw l s4 r0):=rnX
def MR(l:List BV):Prop:=∃v:(List BCU),(λv:List BCU=>v.length<=l.length/\∀e∈v,gdN e) v/\CQq7 77 [.d (.sl tV) l] [.d (.sl tCU) v]
instance (l:List BV):Decidable (MR l):=Classical.propDecidable _
def Xn(l:List BV):(List BCU):=Classical.epsilon λv=>(λv:List BCU=>v.length<=l.length/\∀e∈v,gdN e) v/\CQq7 77 [.d (.sl tV) l] [.d (.sl tCU) v]
theorem KE{l:List BV}(h:MR l):(λv:List BCU=>v.length<=l.length/\∀e∈v,gdN e) (Xn l):=(ao0 h).1
def ajD:Cn 77 [(.sl tV)]:=cn λ(l:List BV)=>lf (MR l) [.d (.sl tCU) (Xn l)] λh=>(ao0 h).2
theorem adh{l:List BV}(h:∀v∈l,ok (Rat×Rat) 1 v)(hl:l.length<=12):∀(j i:Nat),i+j=l.length->∀r:List BCU,(∀e∈r,gdN e)->r.length<=i->∃v,(v.length<=l.length/\∀e∈v,gdN e)/\Ji.Runs 8 (yC l (i:Int) r) [.new 48 tCU v]:=by
 intro j;induction j with
 |zero=>
  intro i hi r hr lr;refine⟨r,⟨by omega,hr⟩,yN _ _ _ ⟨0,?_⟩⟩;unfold tw;rw[bg (by omega)]
 |succ j ih=>
  intro i hi r hr lr;have hil:i<l.length:=by omega
  have e1:i64.wrap ((i:Int)+1)=((i+1:Nat):Int):=aS (by omega);obtain⟨q,hq,eq⟩:∃q,q<l.length/\Int.tmod ((i+1:Nat):Int) (l.length:Int)=(q:Int):=⟨(i+1)%l.length,arE _ (by omega),by rw[aqx (by omega)];rfl⟩
  obtain⟨a,ea,ba⟩:=aJ (h _ (aoY hil));obtain⟨b,eb,bb⟩:=aJ (h _ (aoY hq))
  have k1:ok (Rat×Rat) 100 l[i]/\ok (Rat×Rat) 100 l[q]:=by
   rw[ea,eb];exact⟨aoQ (okd (aoV rfl) (by decide)),aoQ (okd (aoV rfl) (by decide))⟩
  have es:wu (dec l[i]) (dec l[q])=wu a b:=by rw[ea,eb,ao,ao]
  have eB:yJ (dec l[i]) (dec l[q])=yJ a b:=by rw[ea,eb,ao,ao]
  cases hz:wA a b
  ·have hs:(wu a b==0)=true:=by unfold wu;rw[hz];rfl
   obtain⟨v,g,n,hn⟩:=ih (i+1) (by omega) (r++[yJ a b]) (λe he=>(ape.1 he).elim (hr e) λg=>by rw[apz.1 g];exact afi hz) (by simp;omega);refine⟨v,g,yN _ _ _ ⟨n,?_⟩⟩;unfold tw;rw[aO hil,ak,aoO hil,e1,eq,ak,aoO hq,dF (show ¬(l.length:Int)=0 by omega)];dsimp only;rw[dT k1,es,hs,aQ,eB,dT (by simp;omega)];exact hn
  ·have hs:(wu a b==0)=false:=by unfold wu;rw[hz];rfl
   obtain⟨v,g,n,hn⟩:=ih (i+1) (by omega) r hr (by omega);refine⟨v,g,yN _ _ _ ⟨n,?_⟩⟩;unfold tw;rw[aO hil,ak,aoO hil,e1,eq,ak,aoO hq,dF (show ¬(l.length:Int)=0 by omega)];dsimp only;rw[dT k1,es,hs];exact hn
theorem R5{l:List BV}(h:∀v∈l,ok (Rat×Rat) 1 v)(hl:l.length<=12):MR l:=by
 suffices gX:∃v:(List BCU),(λv:List BCU=>v.length<=l.length/\∀e∈v,gdN e) v/\∃nX,Zs l (Ji.k nX)=S' [.new 48 tCU v] from gX.elim λv h=>⟨v,h.1,Con.new_d (aX Sx (amP l h.2))⟩
 obtain⟨v,g,n,hn⟩:=adh h hl l.length 0 (ao3 _) [] (λe he=>by cases he) (by simp);exact⟨v,g,n,hn⟩
def Sg:List En:=[enL alZ,enL acz,enT nV,enL ak8,enK ajD]
def afL:NT:=[((64,37),{keep:=[1,5,6],own:=[(5,54,tV)],hl:=4,pd:=3,er:=[1,2]})]
def KX:Ctx:=CX (ens Sg) afL
def wL(x:Frm)(s6:Int)(r3:List BV):Cfg:=⟨64,[.blk 1,.seq 48],[(1,.box 0 0),(5,.own 3),(6,SI s6)],[.box 110 (Ty.split (y8Y) x),.gone,.gone,.row 54 tV r3],0,[]⟩
def Oi(x:Frm)(k:KT):OLR:=og (D' (i8P x.2.2.1/\i8P x.2.2.2.1/\u8P x.2.1)) (og (D' (i8P x.2.2.2.2.1/\i8P x.2.2.2.2.2.1/\u8P x.2.1)) (match(Int.tmod x.1 3)==0 with|T'=>(og (D' (MR ([hid (enc (atF x.2.2.1 x.2.2.2.1 x.2.1)),hid ((((hid (enc (atF x.2.2.2.2.1 x.2.2.2.2.2.1 x.2.1))).1),((hid (enc (atF x.2.2.1 x.2.2.2.1 x.2.1))).2))),hid (enc (atF x.2.2.2.2.1 x.2.2.2.2.2.1 x.2.1)),hid ((((hid (enc (atF x.2.2.1 x.2.2.2.1 x.2.1))).1),((hid (enc (atF x.2.2.2.2.1 x.2.2.2.2.2.1 x.2.1))).2)))]))) (S' [RV.d (.sl tCU) (Xn ([hid (enc (atF x.2.2.1 x.2.2.2.1 x.2.1)),hid ((((hid (enc (atF x.2.2.2.2.1 x.2.2.2.2.2.1 x.2.1))).1),((hid (enc (atF x.2.2.1 x.2.2.2.1 x.2.1))).2))),hid (enc (atF x.2.2.2.2.1 x.2.2.2.2.2.1 x.2.1)),hid ((((hid (enc (atF x.2.2.1 x.2.2.2.1 x.2.1))).1),((hid (enc (atF x.2.2.2.2.1 x.2.2.2.2.2.1 x.2.1))).2)))]))]))|F'=>(match(Int.tmod x.1 3)==1 with|T'=>(og (o1 ((hid (enc (atF x.2.2.2.2.1 x.2.2.2.2.2.1 x.2.1))).1)) (match D' ((aD (ag ((hid (enc (atF x.2.2.2.2.1 x.2.2.2.2.2.1 x.2.1))).1)) 0)<=0)with|T'=>S' [RV.new 48 tCU []]|F'=>(og (D' (bK ((hid (enc (atF x.2.2.1 x.2.2.2.1 x.2.1))).1,((hid (enc (atF x.2.2.1 x.2.2.2.1 x.2.1))).2,(hid (enc (atF x.2.2.2.2.1 x.2.2.2.2.2.1 x.2.1))).1)))) (S' [RV.d (.sl tCU) (B6 ((hid (enc (atF x.2.2.1 x.2.2.2.1 x.2.1))).1,((hid (enc (atF x.2.2.1 x.2.2.2.1 x.2.1))).2,(hid (enc (atF x.2.2.2.2.1 x.2.2.2.2.2.1 x.2.1))).1)))]))))|F'=>k 37 (wL x 0 ([])))))
theorem aj0(x:Frm):RS KX 64 [.d (y8Y) x] (Oi x):=rsX
def uJ(x:Frm)(s6:Int)(r3:List BV)(k:KT):OLR:=match D' (s6<(x.2.2.2.2.2.2.length:Int))with|T'=>(match aH x.2.2.2.2.2.2 s6 with|S' x1=>(match aH x.2.2.2.2.2.2 s6 with|S' x2=>(og (D' (i8P x1.1/\i8P x2.2/\u8P x.2.1)) (og (D' ((r3.length+([hid (enc (atF x1.1 x2.2 x.2.1))]).length)*128<=140737488355328/\r3.length+([hid (enc (atF x1.1 x2.2 x.2.1))]).length<=140737488355328)) (k 37 (wL x (i64.wrap (s6+1)) (r3++([hid (enc (atF x1.1 x2.2 x.2.1))]))))))|N'=>N')|N'=>N')|F'=>(og (D' (MR r3)) (S' [RV.d (.sl tCU) (Xn r3)]))
theorem BB(x:Frm)(s6:Int)(r3:List BV):RN KX 37 (wL x s6 r3) (uJ x s6 r3):=rnX
def PO(x:Frm):Prop:=∃v:(List BCU),(λv:List BCU=>v.length<=12/\∀e∈v,gdN e) v/\CQq7 64 [.d (y8Y) x] [.d (.sl tCU) v]
instance (x:Frm):Decidable (PO x):=Classical.propDecidable _
def MA(x:Frm):(List BCU):=Classical.epsilon λv=>(λv:List BCU=>v.length<=12/\∀e∈v,gdN e) v/\CQq7 64 [.d (y8Y) x] [.d (.sl tCU) v]
theorem XR{x:Frm}(h:PO x):(λv:List BCU=>v.length<=12/\∀e∈v,gdN e) (MA x):=(ao0 h).1
def ana:Cn 64 [(y8Y)]:=cn λ(x:Frm)=>lf (PO x) [.d (.sl tCU) (MA x)] λh=>(ao0 h).2
theorem afn{x:Frm}(h:Hx x)(hl:x.2.2.2.2.2.2.length<=12):∀(j i:Nat),i+j=x.2.2.2.2.2.2.length->∀r:List BV,(∀v∈r,ok (Rat×Rat) 1 v)->r.length=i->∃v,(v.length<=12/\∀e∈v,gdN e)/\KX.Runs 37 (wL x (i:Int) r) [.d (.sl tCU) v]:=by
 obtain⟨_,h2,_,_,_,_,h7⟩:=h;intro j;induction j with
 |zero=>
  intro i hi r hr lr;have p:=R5 hr (by omega);obtain⟨l1,g1⟩:=KE p;refine⟨_,⟨by omega,g1⟩,BB _ _ _ ⟨0,?_⟩⟩;unfold uJ;rw[bg (by omega),dT p]
 |succ j ih=>
  intro i hi r hr lr;have hil:i<x.2.2.2.2.2.2.length:=by omega
  obtain⟨c1,c2⟩:=h7 _ (aoY hil);have hb:=Hv c1 c2 h2;obtain⟨v,g,n,hn⟩:=ih (i+1) (by omega) (r++[enc (atF x.2.2.2.2.2.2[i].1 x.2.2.2.2.2.2[i].2 x.2.1)]) (λe he=>(ape.1 he).elim (hr e) λg=>by rw[apz.1 g];exact aoQ (okd (aoU _) (by decide))) (by simp;omega);refine⟨v,g,BB _ _ _ ⟨n,?_⟩⟩;unfold uJ;rw[aO hil,ak,aoO hil];dsimp only;rw[dT (show i8P x.2.2.2.2.2.2[i].1/\i8P x.2.2.2.2.2.2[i].2/\u8P x.2.1 from⟨c1,c2,h2⟩),aQ,dT (by simp;omega),aS (by omega)];exact hn
theorem af2{x:Frm}(h:Hx x)(hl:x.2.2.2.2.2.2.length<=12):PO x:=by
 suffices gX:∃v:List BCU,(v.length<=12/\∀e∈v,gdN e)/\∃r,(r=.new 48 tCU v\/r=.d (.sl tCU) v)/\∃n,Oi x (KX.k n)=S' [r] from by
  obtain⟨v,h1,r,hr,n,hn⟩:=gX;exact⟨v,h1,Con.dd (aX Sg (aj0 x ⟨n,hn⟩)) hr⟩
 have h0:=h;obtain⟨h1,h2,h3,h4,h5,h6,_⟩:=h;have bp:=Hv h3 h4 h2;have bq:=Hv h5 h6 h2;have k1:i8P x.2.2.1/\i8P x.2.2.2.1/\u8P x.2.1:=⟨h3,h4,h2⟩
 have k2:i8P x.2.2.2.2.1/\i8P x.2.2.2.2.2.1/\u8P x.2.1:=⟨h5,h6,h2⟩
 unfold Oi;simp only[aQ,dT k1,dT k2];generalize atF x.2.2.1 x.2.2.2.1 x.2.1=p at*
 generalize atF x.2.2.2.2.1 x.2.2.2.2.2.1 x.2.1=q at*
 have p1:Bd p.1 1:=inferInstance;have p2:Bd p.2 1:=inferInstance;have q1:Bd q.1 1:=inferInstance;have q2:Bd q.2 1:=inferInstance;have ep:enc p=(av p.1,av p.2):=rfl;have eq:enc q=(av q.1,av q.2):=rfl;cases Int.tmod x.1 3==0
 ·cases Int.tmod x.1 3==1
  ·obtain⟨v,g,n,hn⟩:=afn h0 hl x.2.2.2.2.2.2.length 0 (ao3 _) [] (λe he=>by cases he) rfl;exact⟨v,g,_,.inr rfl,n,hn⟩
  ·have oq:okR (enc q:BV).1:=aoQ (Aa (q:=q.1) (j:=1) (by decide));rw[show o1 (enc q:BV).1=T' from dT oq];cases hd:D' (aD (ag (enc q:BV).1) 0<=0)
   ·have hq:0<q.1:=by
     have e:ag (enc q:BV).1=q.1:=eP _;rw[e]at hd;have g:D' (aD q.1 0>0)=true:=dT (by have:=apI hd;omega);rw[au]at g;exact aoQ g
    have i1:BdC ((p.1,p.2,q.1):Ln):=⟨p1.mono (by decide),p2.mono (by decide),q1.mono (by decide)⟩
    have ec:(((enc p:BV).1,((enc p:BV).2,(enc q:BV).1)):BO3)=enc ((p.1,p.2,q.1):Ln):=rfl;rw[ec,dT (jR (c:=(p.1,p.2,q.1)) hq)];refine⟨_,⟨?_,DX (c:=(p.1,p.2,q.1)) hq⟩,_,.inr rfl,0,rfl⟩;unfold B6;simp
   ·exact⟨[],⟨by simp,λe he=>by cases he⟩,_,.inl rfl,0,rfl⟩
 ·have hb:∀v∈[(enc p:BV),((enc q:BV).1,(enc p:BV).2),enc q,((enc p:BV).1,(enc q:BV).2)],ok (Rat×Rat) 1 v:=λv hv=>by
   have e1:(((enc q:BV).1,(enc p:BV).2):BV)=enc ((q.1,p.2):Rat×Rat):=rfl;have e2:(((enc p:BV).1,(enc q:BV).2):BV)=enc ((p.1,q.2):Rat×Rat):=rfl;rw[e1,e2]at hv;simp only[ao7,aqw,arN]at hv;rcases hv with e|e|e|e<;>rw[e]<;>exact aoQ (okd (aoU _) (by decide))
  have hp:=R5 hb (by simp);obtain⟨l1,g1⟩:=KE hp;rw[dT hp];exact⟨_,⟨ao1 l1 (by simp),g1⟩,_,.inr rfl,0,rfl⟩
def Sq:List En:=[enL ana]
def ag7:NT:=[((27,8),{keep:=[0,1,6,7],own:=[(6,48,tCU)],hl:=1})]
def LA:Ctx:=CX (ens Sq) ag7
def C3(s:List Frm)(n s7:Int)(r0:List BCU):Cfg:=⟨27,[.blk 0,.seq 27],[(0,.d (.sl (y8Y)) s),(1,SI n),(6,.own 0),(7,SI s7)],[.row 48 tCU r0],0,[]⟩
def abv(s:List Frm)(n:Int)(k:KT):OLR:=k 8 (C3 s n 0 ([]))
theorem ahU(s:List Frm)(n:Int):RS LA 27 [.d (.sl (y8Y)) s,SI n] (abv s n):=rsX
def o8(s:List Frm)(n s7:Int)(r0:List BCU)(k:KT):OLR:=match D' (s7<(s.length:Int))with|T'=>(match D' ((s.length:Int)>n)with|T'=>S' [RV.d (.sl tCU) ([]),RV.d .bool F']|F'=>(match aH s s7 with|S' x1=>(match D' ((x1.2.2.2.2.2.2.length:Int)>n)with|T'=>S' [RV.d (.sl tCU) ([]),RV.d .bool F']|F'=>(match aH s s7 with|S' x2=>(og (D' (PO x2)) (og (D' ((r0.length+(MA x2).length)*1040<=140737488355328/\r0.length+(MA x2).length<=140737488355328)) (k 8 (C3 s n (i64.wrap (s7+1)) (r0++(MA x2))))))|N'=>N'))|N'=>N'))|F'=>S' [RV.d (.sl tCU) r0,RV.d .bool (D' ((r0.length:Int)<=n))]
theorem ta(s:List Frm)(n s7:Int)(r0:List BCU):RN LA 8 (C3 s n s7 r0) (o8 s n s7 r0):=rnX
def OP(s:List Frm)(n:Int):Prop:=∃v:(List BCU)×Bool,(λv:List BCU×Bool=>(v.2=T'->(v.1.length:Int)<=n)/\∀e∈v.1,gdN e) v/\CQq7 27 [.d (.sl (y8Y)) s,.d ask n] [.d (.sl tCU) v.1,.d .bool v.2]
instance (s:List Frm) (n:Int):Decidable (OP s n):=Classical.propDecidable _
def zQ(s:List Frm)(n:Int):(List BCU)×Bool:=Classical.epsilon λv=>(λv:List BCU×Bool=>(v.2=T'->(v.1.length:Int)<=n)/\∀e∈v.1,gdN e) v/\CQq7 27 [.d (.sl (y8Y)) s,.d ask n] [.d (.sl tCU) v.1,.d .bool v.2]
theorem W6{s:List Frm}{n:Int}(h:OP s n):(λv:List BCU×Bool=>(v.2=T'->(v.1.length:Int)<=n)/\∀e∈v.1,gdN e) (zQ s n):=(ao0 h).1
def amB:Cn 27 [(.sl (y8Y)),ask]:=cn λ(s:List Frm) (n:Int)=>lf (OP s n) [.d (.sl tCU) ((zQ s n).1),.d .bool ((zQ s n).2)] λh=>(ao0 h).2
theorem afT{s:List Frm}{n:Int}(h:∀x∈s,Hx x)(hn:n<=12):∀(j i:Nat),i+j=s.length->∀r:List BCU,(∀e∈r,gdN e)->r.length<=12*i->(i=0\/(s.length:Int)<=n)->∃v:List BCU×Bool,((v.2=T'->(v.1.length:Int)<=n)/\∀e∈v.1,gdN e)/\LA.Runs 8 (C3 s n (i:Int) r) [.d (.sl tCU) v.1,.d .bool v.2]:=by
 intro j;induction j with
 |zero=>
  intro i hi r hr lr _;refine⟨(r,D' ((r.length:Int)<=n)),⟨λg=>aoQ g,hr⟩,ta _ _ _ _ ⟨0,?_⟩⟩;unfold o8;rw[bg (by omega)]
 |succ j ih=>
  intro i hi r hr lr _;have hil:i<s.length:=by omega
  have hx:=h _ (aoY hil);have no:∀{q:Bool},q=F'->((([],q):List BCU×Bool).2=T'->((([],q):List BCU×Bool).1.length:Int)<=n)/\∀e∈(([],q):List BCU×Bool).1,gdN e:=λhq=>⟨(λg=>by rw[hq]at g;cases g),(λe he=>by cases he)⟩
  by_cases h1:(s.length:Int)>n
  ·refine⟨([],F'),no rfl,ta _ _ _ _ ⟨0,?_⟩⟩;unfold o8;rw[aO hil,dT h1]
  ·by_cases h2:(s[i].2.2.2.2.2.2.length:Int)>n
   ·refine⟨([],F'),no rfl,ta _ _ _ _ ⟨0,?_⟩⟩;unfold o8;rw[aO hil,dF h1,ak,aoO hil];dsimp only;rw[dT h2]
   ·have p:=af2 hx (by omega);obtain⟨l1,g1⟩:=XR p;obtain⟨v,g,m,hm⟩:=ih (i+1) (by omega) (r++MA s[i]) (λe he=>(ape.1 he).elim (hr e) (g1 e)) (by simp;omega) (.inr (by omega));refine⟨v,g,ta _ _ _ _ ⟨m,?_⟩⟩;unfold o8;rw[aO hil,dF h1,ak,aoO hil];dsimp only;rw[dF h2];dsimp only;rw[dT p,dT (by omega),aS (by omega)];exact hm
theorem agJ{s:List Frm}{n:Int}(h:∀x∈s,Hx x)(hn:n<=12):OP s n:=by
 suffices gX:∃v:(List BCU)×Bool,(λv:List BCU×Bool=>(v.2=T'->(v.1.length:Int)<=n)/\∀e∈v.1,gdN e) v/\∃nX,abv s n (LA.k nX)=S' [.d (.sl tCU) v.1,.d .bool v.2] from gX.elim λv h=>⟨v,h.1,aX Sq (ahU s n h.2)⟩
 obtain⟨v,g,m,hm⟩:=afT h hn s.length 0 (ao3 _) [] (λe he=>by cases he) (by simp) (.inl rfl);exact⟨v,g,m,hm⟩
def OX:List En:=[enK amB,enK anb]
def Uk(s:List Frm)(n:Int)(_k:KT):OLR:=og (D' (OP s n)) (match !((zQ s n).2)with|T'=>S' [RV.d (.st (.sl tCU)) ([]),RV.d .bool F']|F'=>(og (D' (US ((zQ s n).1))) (match((GX ((zQ s n).1)).2)==0 with|T'=>dup (.b .l .l) (S' [RV.d (.st (.sl tCU)) ((GX ((zQ s n).1)).1),RV.d .bool (D' ((((GX ((zQ s n).1)).1).length:Int)<=n))])|F'=>dup (.b .l .l) (S' [RV.d (.st (.sl tCU)) ((GX ((zQ s n).1)).1),RV.d .bool F']))))
def Mg(s:List Frm)(n:Int):Prop:=∃v:(List BCU)×Bool,(λv:List BCU×Bool=>v.1.length<=10000/\∀e∈v.1,gM e) v/\CQq7 6 [.d (.sl (y8Y)) s,.d ask n] [.d (.st (.sl tCU)) v.1,.d .bool v.2]
instance (s:List Frm) (n:Int):Decidable (Mg s n):=Classical.propDecidable _
def nv(s:List Frm)(n:Int):(List BCU)×Bool:=Classical.epsilon λv=>(λv:List BCU×Bool=>v.1.length<=10000/\∀e∈v.1,gM e) v/\CQq7 6 [.d (.sl (y8Y)) s,.d ask n] [.d (.st (.sl tCU)) v.1,.d .bool v.2]
theorem X4{s:List Frm}{n:Int}(h:Mg s n):(λv:List BCU×Bool=>v.1.length<=10000/\∀e∈v.1,gM e) (nv s n):=(ao0 h).1
def aiK:Cn 6 [(.sl (y8Y)),ask]:=cn λ(s:List Frm) (n:Int)=>lf (Mg s n) [.d (.st (.sl tCU)) ((nv s n).1),.d .bool ((nv s n).2)] λh=>(ao0 h).2
theorem ag8{s:List Frm}{n:Int}(h:∀x∈s,Hx x)(hn:n<=12):Mg s n:=by
 suffices gX:∃v:(List BCU)×Bool,(λv:List BCU×Bool=>v.1.length<=10000/\∀e∈v.1,gM e) v/\Uk s n ((CX (ens OX) []).k 0)=S' [.d (.st (.sl tCU)) v.1,.d .bool v.2] from gX.elim λv h=>⟨v,h.1,aA OX (Uk s n) ⟨0,h.2⟩⟩
 have p:=agJ h hn;obtain⟨l1,g1⟩:=W6 p;unfold Uk;rw[dT p];simp only[dp];cases hb:(zQ s n).2
 ·exact⟨([],F'),⟨by simp,λe he=>by cases he⟩,rfl⟩
 ·have:=l1 hb;have p2:=afE g1 (by omega);have g2:=VC p2;rw[dT p2];cases(GX (zQ s n).1).2==0
  ·exact⟨(_,_),g2,rfl⟩
  ·exact⟨(_,_),g2,rfl⟩
end
def l0B:BO3:=enc ((0,0,0):Ln)
def c0M:BCU:=(F',l0B,l0B,F',p00,p00)
def afZ(a b:Rat×Rat):BCU:=bif wA a b then c00 else(F',enc (sL a b),l0B,F',enc (atP a),enc (atP b))
def WN(c:BO3):List BCU:=[(T',l0B,c,F',enc (dX (dec c)),enc (eH (dec c))),(T',l0B,c,F',enc (eH (dec c)),enc (dX (dec c)))]
def aaI:List En:=[⟨94,fo,dG⟩,⟨194,iM,fd⟩]
def Yu(a:BR)(_k:KT):OLR:=match D' (okR a)with|T'=>S' [RV.d .bool ((aD (ag a) 0)==0)]|F'=>N'
def JS:Cn 217 [tR]:=cn λ(a:BR)=>lf (okR a) [.d .bool (D' (ag a=0))] λh=>by
 refine aA aaI (Yu a) ⟨0,?_⟩;unfold Yu;rw[dT h];simp only[am]
def ZB(_k:KT):OLR:=og (D' (bI (0:Int))) (S' [RV.d tCU (F',((hid (av ((0:Int):Rat)),(hid (av ((0:Int):Rat)),hid (av ((0:Int):Rat)))),((hid (av ((0:Int):Rat)),(hid (av ((0:Int):Rat)),hid (av ((0:Int):Rat)))),(F',((((F',[]),(F',[])),(((F',[]),(F',[])),(((F',[]),(F',[])),(((F',[]),(F',[])),((F',[]),(F',[])))))),(((F',[]),(F',[])),(((F',[]),(F',[])),(((F',[]),(F',[])),(((F',[]),(F',[])),((F',[]),(F',[])))))))))))])
def aiP:Cn 112 []:=cn<|lf True [.d tCU c0M] λ_=>by
 refine aA aaI (ZB) ⟨0,?_⟩;unfold ZB c0M l0B;rw[dT (show bI 0 by decide)];simp only[aQ];rfl
def ajZ:List En:=[enL Qn,enL NQ,enL Vk,enL aaO,enT JS]
def YG(a b:BV)(_k:KT):OLR:=og (o2 a.2 b.2) (og (o2 b.1 a.1) (og (o1 (hSu a.2 b.2)) (match D' (ag (hSu a.2 b.2)=0)with|T'=>(og (o1 (hSu b.1 a.1)) (match D' (ag (hSu b.1 a.1)=0)with|T'=>S' [RV.d tO (((F',[]),(F',[])),(((F',[]),(F',[])),((F',[]),(F',[])))),RV.d ask 6]|F'=>(og (o2 (hSu a.2 b.2) a.1) (og (o2 (hSu b.1 a.1) a.2) (og (o2 (hMu (hSu a.2 b.2) a.1) (hMu (hSu b.1 a.1) a.2)) (S' [RV.d tO (hSu a.2 b.2,(hSu b.1 a.1,hAd (hMu (hSu a.2 b.2) a.1) (hMu (hSu b.1 a.1) a.2))),RV.d ask 0]))))))|F'=>(og (o2 (hSu a.2 b.2) a.1) (og (o2 (hSu b.1 a.1) a.2) (og (o2 (hMu (hSu a.2 b.2) a.1) (hMu (hSu b.1 a.1) a.2)) (S' [RV.d tO (hSu a.2 b.2,(hSu b.1 a.1,hAd (hMu (hSu a.2 b.2) a.1) (hMu (hSu b.1 a.1) a.2))),RV.d ask 0])))))))
def ajf:Cn 151 [tV,tV]:=cn λ(a b:BV)=>lf (ok (Rat×Rat) 100 a/\ok (Rat×Rat) 100 b) [.d tO (GT (dec a) (dec b)),.d ask (GF (dec a) (dec b))] λh=>by
 refine aA ajZ (YG a b) ⟨0,?_⟩;obtain⟨ha,hb⟩:=h;obtain⟨a,rfl,ba⟩:=aJ ha;obtain⟨b,rfl,bb⟩:=aJ hb;unfold YG GT GF wA;simp only[aV,Nat.reduceAdd,Nat.reduceLeDiff];cases D' (a.2-b.2=0)<;>cases D' (b.1-a.1=0)<;>rfl
def Rf:List En:=[⟨165,lZ,ik⟩,⟨123,iQ,fi⟩,⟨46,jN,fx⟩,enL A6,enL aiP,enL ajf,enL PN]
def TK(a b:BV)(_k:KT):OLR:=og (D' (ok (Rat×Rat) 100 a/\ok (Rat×Rat) 100 b)) (match(GF (dec a) (dec b)) !=0 with|T'=>S' [RV.d tCU (F',((((F',[]),(F',[])),(((F',[]),(F',[])),((F',[]),(F',[])))),((((F',[]),(F',[])),(((F',[]),(F',[])),((F',[]),(F',[])))),(F',((((F',[]),(F',[])),(((F',[]),(F',[])),(((F',[]),(F',[])),(((F',[]),(F',[])),((F',[]),(F',[])))))),(((F',[]),(F',[])),(((F',[]),(F',[])),(((F',[]),(F',[])),(((F',[]),(F',[])),((F',[]),(F',[]))))))))))),RV.d ask 6]|F'=>(og (D' (ok (Rat×Rat) 100000 a)) (og (D' (ok (Rat×Rat) 100000 b)) (S' [RV.d tCU (F',(hid (GT (dec a) (dec b)),((((hid (c0M)).2).2).1,(F',(hid (enc (atP (dec a))),hid (enc (atP (dec b)))))))),RV.d ask 0]))))
def I7:Cn 78 [tV,tV]:=cn λ(a b:BV)=>lf (ok (Rat×Rat) 100 a/\ok (Rat×Rat) 100 b) [.d tCU (afZ (dec a) (dec b)),.d ask (wu (dec a) (dec b))] λh=>by
 refine aA Rf (TK a b) ⟨0,?_⟩;obtain⟨ha,hb⟩:=h;obtain⟨a,rfl,ba⟩:=aJ ha;obtain⟨b,rfl,bb⟩:=aJ hb;unfold TK afZ wu GF GT;simp only[aV,Nat.reduceLeDiff];cases wA a b<;>rfl
def ano:Ctx:=CX (ens Rf) []
def Zm(c:BO3)(_k:KT):OLR:=og (D' (bK c)) (dup (.b .l .l) (S' [RV.new 48 tCU ([(T',(((hid (c0M)).2).1,(c,(F',(hid (enc (dX (dec c))),hid (enc (eH (dec c)))))))),(T',(((hid (c0M)).2).1,(c,(F',(hid (enc (eH (dec c))),hid (enc (dX (dec c))))))))])]))
theorem alP(c:BO3):RS ano 49 [.d tO c] (Zm c):=rsX
def alc:Cn 49 [tO]:=cn λ(c:BO3)=>lf (bK c) [.d (.sl tCU) (WN c)] λh=>by
 refine Con.new_d (et:=48) (aX Rf (alP _ ⟨0,?_⟩));unfold Zm;rw[dT h];simp only[aQ,dp];rfl
section
open RE
section
variable {α β:Type} (f:α->β)
end
abbrev uS1:Rat×Rat:=(Rat.divInt (-4) 2,Rat.divInt 1 2)
abbrev uS2:Rat×Rat:=(Rat.divInt 4 2,Rat.divInt 1 2)
def qS:Cv:=(F',(0,4,2),(0,0,0),F',atP uS1,atP uS2)
section
end
end
end Go.Proofs.YtoimchcjhdcdmaaGreat
end
