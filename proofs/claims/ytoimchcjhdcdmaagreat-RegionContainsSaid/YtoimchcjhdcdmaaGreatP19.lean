/- The reference's monotone pieces. -/
import Derived.Test.YtoimchcjhdcdmaaGreatP18
import Derived.Test.YtoimchcjhdcdmaaGreatP16
noncomputable section
namespace Go.Proofs.YtoimchcjhdcdmaaGreat
open Go.RowKit Go.IntKind
open Bool renaming true->T',false->F'
open Option renaming some->S',none->N'
open Decidable renaming decide->D'
section
open RE
def Mf(c:BCU):Prop:=∃x,bK x/\(c=loN x\/c=hiN x)
instance (c:BCU):Decidable (Mf c):=Classical.propDecidable _
def CN(c:BCU):BCU:=bif D' (aB (dec c.2.2.2.2.1) (dec c.2.2.2.2.2)>0)then gT c else c
theorem UT{c:BCU}(h:gdN c):nC c []=[c]:=by
 unfold nC vD iD;simp only[List.cons_append,apO,ap6,List.foldl_nil,gf];rw[dT (show co (dC c) (dec c.2.2.2.2.1) (dec c.2.2.2.2.2)<0 from abS h)];rfl
def gP(e:BCU):Prop:=gdN e/\gS e/\(e.1=T'->jP (dC e) (da (ciC (dC e)))=F'/\jP (dC e) (dp (ciC (dC e)))=F')
theorem Gg(c:BCU):∀s:List BP,(wE c s).length<=s.length
 |[]=>anT _
 |[_]=>aqc _
 |x::y::r=>by
  have:=Gg c (y::r);simp only[wE,an8]at*
  omega
theorem QZ(c:BCU)(l:List BP):(nC c l).length<=l.length+2:=an0 (Gg _ _) (J1 _ _)
def RF:List En:=[enL QL,enT ahS,enK YB,enT sA,enL JE,enL abh]
def aeu:NT:=[((137,32),{keep:=[3,7,8],own:=[(7,48,tCU)],pure_:=[(3,tCU)],hl:=8,pd:=7,er:=[0,1,2,3,4,5,6]}),((137,53),{keep:=[3,7,8,9,10],pure_:=[(3,tCU)],hl:=9,er:=[0,1,2,3,4,5,6]})]
def kW:Ctx:=CX (ens RF) aeu
def fS(s3:List BCU)(s8:Int)(r7:List BCU):Cfg:=⟨137,[.blk 0,.seq 64],[(3,.d (.sl tCU) s3),(7,.own 7),(8,SI s8)],[.gone,.gone,.gone,.gone,.gone,.gone,.gone,.row 48 tCU r7],0,[]⟩
def kg(s3:List BCU)(s8:Int)(r7:List BCU)(B8:BCU)(s10:Int):Cfg:=⟨137,[.blk 2,.seq 62,.blk 1,.seq 63,.lp 32,.blk 0,.seq 64],[(3,.d (.sl tCU) s3),(7,.own 7),(8,SI s8),(9,.box 8 0),(10,SI s10)],[.gone,.gone,.gone,.gone,.gone,.gone,.gone,.row 48 tCU r7,.box 48 (Ty.split tCU B8)],0,[]⟩
def AB(c:BCU)(k:KT):OLR:=match c.1 with|T'=>(og (D' (bK c.2.2.1)) (og (D' (okC 3500 c/\okP 3500 (hid (enc (da (dec c.2.2.1)))))) (match jP (dC c) (dec (hid (enc (da (dec c.2.2.1)))))with|T'=>(og (D' (([hid (enc (da (dec c.2.2.1)))]:List BP).length*320<=140737488355328/\([hid (enc (da (dec c.2.2.1)))]:List BP).length<=140737488355328)) (og (D' (okC 3500 c/\okP 3500 (hid (enc (dp (dec c.2.2.1)))))) (match jP (dC c) (dec (hid (enc (dp (dec c.2.2.1)))))with|T'=>(og (D' ((([hid (enc (da (dec c.2.2.1)))]).length+([hid (enc (dp (dec c.2.2.1)))]).length)*320<=140737488355328/\([hid (enc (da (dec c.2.2.1)))]).length+([hid (enc (dp (dec c.2.2.1)))]).length<=140737488355328)) (og (D' (vW c (([hid (enc (da (dec c.2.2.1)))])++([hid (enc (dp (dec c.2.2.1)))])))) (k 32 (fS (nC c (([hid (enc (da (dec c.2.2.1)))])++([hid (enc (dp (dec c.2.2.1)))]))) 0 ([])))))|F'=>(og (D' (vW c ([hid (enc (da (dec c.2.2.1)))]))) (k 32 (fS (nC c ([hid (enc (da (dec c.2.2.1)))])) 0 ([])))))))|F'=>(og (D' (okC 3500 c/\okP 3500 (hid (enc (dp (dec c.2.2.1)))))) (match jP (dC c) (dec (hid (enc (dp (dec c.2.2.1)))))with|T'=>(og (D' (([hid (enc (dp (dec c.2.2.1)))]:List BP).length*320<=140737488355328/\([hid (enc (dp (dec c.2.2.1)))]:List BP).length<=140737488355328)) (og (D' (vW c ([hid (enc (dp (dec c.2.2.1)))]))) (k 32 (fS (nC c ([hid (enc (dp (dec c.2.2.1)))])) 0 ([])))))|F'=>(og (D' (vW c ([]))) (k 32 (fS (nC c ([])) 0 ([])))))))))|F'=>k 32 (fS ([c]) 0 ([]))
theorem ai4(c:BCU):RS kW 137 [.d tCU c] (AB c):=rsX
def mS(s3:List BCU)(s8:Int)(r7:List BCU)(k:KT):OLR:=match D' (s8<(s3.length:Int))with|T'=>(match aH s3 s8 with|S' x1=>(og (D' (okP 4000 x1.2.2.2.2.1/\okP 4000 x1.2.2.2.2.2)) (match D' ((aB (dec x1.2.2.2.2.1) (dec x1.2.2.2.2.2))>0)with|T'=>k 53 (kg s3 s8 r7 (hid (gT x1)) 0)|F'=>k 53 (kg s3 s8 r7 x1 0)))|N'=>N')|F'=>S' [RV.new 48 tCU r7]
theorem nE(s3:List BCU)(s8:Int)(r7:List BCU):RN kW 32 (fS s3 s8 r7) (mS s3 s8 r7):=rnX
def nH(s3:List BCU)(s8:Int)(r7:List BCU)(B8:BCU)(s10:Int)(k:KT):OLR:=match D' (s10<(r7.length:Int))with|T'=>(match aH r7 s10 with|S' _=>(match T',r7[(s10).toNat]? with|T',S' x1=>(og (D' (Rg x1 B8)) (match D' ((Uo x1 B8)<=0)with|T'=>k 53 (kg s3 s8 r7 B8 (i64.wrap (s10+1)))|F'=>(og (D' ((0:Int)<=0/\0<=s10/\s10<=(r7.length:Int))) (og (D' ((0:Int)<=s10/\s10<=(r7.length:Int)/\(r7.length:Int)<=(r7.length:Int))) (og (D' ((([B8]).length+((r7.drop ((s10:Int).toNat)).take (((r7.length:Int):Int).toNat-(s10:Int).toNat)).length)*1040<=140737488355328/\([B8]).length+((r7.drop ((s10:Int).toNat)).take (((r7.length:Int):Int).toNat-(s10:Int).toNat)).length<=140737488355328)) (og (D' (((s10:Int).toNat-(0:Int).toNat)<=r7.length/\((r7.take ((s10:Int).toNat-(0:Int).toNat)).length+(([B8])++((r7.drop ((s10:Int).toNat)).take (((r7.length:Int):Int).toNat-(s10:Int).toNat))).length)*1040<=140737488355328/\(r7.take ((s10:Int).toNat-(0:Int).toNat)).length+(([B8])++((r7.drop ((s10:Int).toNat)).take (((r7.length:Int):Int).toNat-(s10:Int).toNat))).length<=140737488355328)) (k 32 (fS s3 (i64.wrap (s8+1)) ((r7.take ((s10:Int).toNat-(0:Int).toNat))++(([B8])++((r7.drop ((s10:Int).toNat)).take (((r7.length:Int):Int).toNat-(s10:Int).toNat))))))))))))|_,_=>N')|N'=>N')|F'=>(og (D' ((0:Int)<=0/\0<=s10/\s10<=(r7.length:Int))) (og (D' ((0:Int)<=s10/\s10<=(r7.length:Int)/\(r7.length:Int)<=(r7.length:Int))) (og (D' ((([B8]).length+((r7.drop ((s10:Int).toNat)).take (((r7.length:Int):Int).toNat-(s10:Int).toNat)).length)*1040<=140737488355328/\([B8]).length+((r7.drop ((s10:Int).toNat)).take (((r7.length:Int):Int).toNat-(s10:Int).toNat)).length<=140737488355328)) (og (D' (((s10:Int).toNat-(0:Int).toNat)<=r7.length/\((r7.take ((s10:Int).toNat-(0:Int).toNat)).length+(([B8])++((r7.drop ((s10:Int).toNat)).take (((r7.length:Int):Int).toNat-(s10:Int).toNat))).length)*1040<=140737488355328/\(r7.take ((s10:Int).toNat-(0:Int).toNat)).length+(([B8])++((r7.drop ((s10:Int).toNat)).take (((r7.length:Int):Int).toNat-(s10:Int).toNat))).length<=140737488355328)) (k 32 (fS s3 (i64.wrap (s8+1)) ((r7.take ((s10:Int).toNat-(0:Int).toNat))++(([B8])++((r7.drop ((s10:Int).toNat)).take (((r7.length:Int):Int).toNat-(s10:Int).toNat))))))))))
theorem qo(s3:List BCU)(s8:Int)(r7:List BCU)(B8:BCU)(s10:Int):RN kW 53 (kg s3 s8 r7 B8 s10) (nH s3 s8 r7 B8 s10):=rnX
def Up(c:BCU):Prop:=∃v:(List BCU),(λl:List BCU=>(l.length<=4/\∀e∈l,gM e)/\(Mf c->l=[CN c])) v/\CQq7 137 [.d tCU c] [.d (.sl tCU) v]
instance (c:BCU):Decidable (Up c):=Classical.propDecidable _
def LF(c:BCU):(List BCU):=Classical.epsilon λv=>(λl:List BCU=>(l.length<=4/\∀e∈l,gM e)/\(Mf c->l=[CN c])) v/\CQq7 137 [.d tCU c] [.d (.sl tCU) v]
theorem Vw{c:BCU}(h:Up c):(λl:List BCU=>(l.length<=4/\∀e∈l,gM e)/\(Mf c->l=[CN c])) (LF c):=(anZ h).1
def akb:Cn 137 [tCU]:=cn λ(c:BCU)=>lf (Up c) [.d (.sl tCU) (LF c)] λh=>(anZ h).2
theorem QY{r:List BCU}{B:BCU}{k:Nat}(_hk:k<=r.length):(r.take ((k:Int).toNat-(0:Int).toNat))++([B]++((r.drop ((k:Int).toNat)).take (((r.length:Int):Int).toNat-(k:Int).toNat)))=r.take k++B::r.drop k:=by
 rw[show((k:Int)).toNat=k by omega,show((0:Int)).toNat=0 from rfl,aq2,aoI (l:=r.drop k) (by simp)];rfl
theorem KG{r:List BCU}{B:BCU}{k:Nat}{p:BCU->Prop}(hr:∀e∈r,p e)(hB:p B):∀e∈r.take k++B::r.drop k,p e:=λe he=>by
 rcases aod.1 he with h|h
 ·exact hr e (ao3 h)
 ·rcases an6.1 h with h|h
  ·rw[h];exact hB
  ·exact hr e (apq h)
theorem aeJ{s3 r7:List BCU}{B:BCU}{i:Nat}(hi:i<=9)(hr:∀e∈r7,gM e)(hB:gM B)(hl:r7.length<=9){Q:List BCU->Prop}(next:∀r',(∀e∈r',gM e)->r'.length=r7.length+1->∃v,Q v/\kW.Runs 32 (fS s3 ((i+1:Nat):Int) r') [.new 48 tCU v]):∀(j k:Nat),k+j=r7.length->∃v,Q v/\kW.Runs 53 (kg s3 (i:Int) r7 B (k:Int)) [.new 48 tCU v]:=by
 intro j;induction j with
 |zero=>
  intro k hk;obtain⟨v,hv,n,hn⟩:=next _ (KG (k:=k) hr hB) (by simp;omega);refine⟨v,hv,qo _ _ _ _ _ ⟨n,?_⟩⟩;unfold nH;rw[a8 (by omega),dT (show(0:Int)<=0/\0<=(k:Int)/\(k:Int)<=(r7.length:Int) by omega),dT (show(0:Int)<=(k:Int)/\(k:Int)<=(r7.length:Int)/\(r7.length:Int)<=(r7.length:Int) by omega),dT (by simp;omega),dT (by simp;omega),aT (k:=i) (by omega),QY (by omega)];exact hn
 |succ j ih=>
  intro k hk;have hkl:k<r7.length:=by omega
  have hx:=hr _ (anY hkl);have g:r7[((k:Int)).toNat]?=S' r7[k]:=by rw[show((k:Int)).toNat=k by omega,anN hkl]
  cases h1:D' (Uo r7[k] B<=0)
  ·obtain⟨v,hv,n,hn⟩:=next _ (KG (k:=k) hr hB) (by simp;omega);refine⟨v,hv,qo _ _ _ _ _ ⟨n,?_⟩⟩;unfold nH;rw[aO hkl,ak,anN hkl,g];dsimp only;rw[dT (Cj (sV hx.1) (sV hB.1)),h1,dT (show(0:Int)<=0/\0<=(k:Int)/\(k:Int)<=(r7.length:Int) by omega),dT (show(0:Int)<=(k:Int)/\(k:Int)<=(r7.length:Int)/\(r7.length:Int)<=(r7.length:Int) by omega),dT (by simp;omega),dT (by simp;omega),aT (k:=i) (by omega),QY (by omega)];exact hn
  ·obtain⟨v,hv,n,hn⟩:=ih (k+1) (by omega);refine⟨v,hv,qo _ _ _ _ _ ⟨n,?_⟩⟩;unfold nH;rw[aO hkl,ak,anN hkl,g];dsimp only;rw[dT (Cj (sV hx.1) (sV hB.1)),h1,aT (by omega)];exact hn
theorem KR{s3:List BCU}(hs:∀e∈s3,gP e)(h4:s3.length<=4):∀(j i:Nat),i+j=s3.length->∀r7,(∀e∈r7,gM e)->r7.length=i->∃v,(v.length<=4/\∀e∈v,gM e)/\kW.Runs 32 (fS s3 (i:Int) r7) [.new 48 tCU v]:=by
 intro j;induction j with
 |zero=>
  intro i hi r7 hr hl;refine⟨r7,⟨by omega,hr⟩,nE _ _ _ ⟨0,?_⟩⟩;unfold mS;rw[a8 (by omega)]
 |succ j ih=>
  intro i hi r7 hr hl;have hil:i<s3.length:=by omega
  have hx:=hs _ (anY hil);have k1:okP 4000 s3[i].2.2.2.2.1/\okP 4000 s3[i].2.2.2.2.2:=⟨aV hx.1.1.1.2.2.1 (by decide) (by decide),aV hx.1.1.1.2.2.2 (by decide) (by decide)⟩
  have hm:=T6 hx.1 hx.2.1 hx.2.2;have hm:bif D' (aB (dec s3[i].2.2.2.2.1) (dec s3[i].2.2.2.2.2)>0)then gM (gT s3[i])else gM s3[i]:=hm;have go:∀B,gM B->∃v,(v.length<=4/\∀e∈v,gM e)/\kW.Runs 53 (kg s3 (i:Int) r7 B 0) [.new 48 tCU v]:=λB hB=>aeJ (i:=i) (by omega) hr hB (by omega) (λr' h1 h2=>ih (i+1) (by omega) r' h1 (by omega)) r7.length 0 (by omega);cases h1:D' (aB (dec s3[i].2.2.2.2.1) (dec s3[i].2.2.2.2.2)>0)
  ·rw[h1,cond_false]at hm;obtain⟨v,hv,n,hn⟩:=go _ hm;refine⟨v,hv,nE _ _ _ ⟨n,?_⟩⟩;unfold mS;rw[aO hil,ak,anN hil];dsimp only;rw[dT k1,h1];exact hn
  ·rw[h1,cond_true]at hm;obtain⟨v,hv,n,hn⟩:=go _ hm;refine⟨v,hv,nE _ _ _ ⟨n,?_⟩⟩;unfold mS;rw[aO hil,ak,anN hil];dsimp only;rw[dT k1,h1,aR];exact hn
theorem XG{c B:BCU}(h:gdN c)(hB:CN c=B):kW.Runs 32 (fS [c] 0 []) [.new 48 tCU [B]]:=by
 have k1:okP 4000 c.2.2.2.2.1/\okP 4000 c.2.2.2.2.2:=⟨aV h.1.1.2.2.1 (by decide) (by decide),aV h.1.1.2.2.2 (by decide) (by decide)⟩
 have r1:kW.Runs 32 (fS [c] 1 [B]) [.new 48 tCU [B]]:=nE _ _ _ ⟨0,rfl⟩
 have r2:kW.Runs 53 (kg [c] 0 [] B 0) [.new 48 tCU [B]]:=by
  obtain⟨n,hn⟩:=r1;refine qo _ _ _ _ _ ⟨n,?_⟩;unfold nH;rw[dF (show ¬(0:Int)<(([]:List BCU).length:Int) by decide)];dsimp only;rw[dT (show(0:Int)<=0/\(0:Int)<=0/\(0:Int)<=(([]:List BCU).length:Int) by decide),dT (show(0:Int)<=0/\(0:Int)<=(([]:List BCU).length:Int)/\(([]:List BCU).length:Int)<=(([]:List BCU).length:Int) by decide),dT (by simp),dT (by simp)];exact hn
 obtain⟨n,hn⟩:=r2;refine nE _ _ _ ⟨n,?_⟩;unfold mS;show og (decide (okP 4000 c.2.2.2.2.1/\okP 4000 c.2.2.2.2.2)) (match decide (aB (dec c.2.2.2.2.1) (dec c.2.2.2.2.2)>0)with|true=>kW.k n 53 (kg [c] 0 [] (hid (gT c)) 0)|false=>kW.k n 53 (kg [c] 0 [] c 0))=_;unfold CN at hB;rw[dT k1,aR];cases hd:decide (aB (dec c.2.2.2.2.1) (dec c.2.2.2.2.2)>0)<;>rw[hd]at hB
 ·rw[cond_false]at hB;subst hB;exact hn
 ·rw[cond_true]at hB;subst hB;exact hn
theorem P0{c:BCU}(h:gdN c)(hS':gS c):Up c:=by
 suffices gX:∃v:(List BCU),(λl:List BCU=>(l.length<=4/\∀e∈l,gM e)/\(Mf c->l=[CN c])) v/\∃nX,AB c (kW.k nX)=S' [.new 48 tCU v] from gX.elim λv h=>⟨v,h.1,Con.new_d (bj RF (ai4 c h.2))⟩
 by_cases hS:Mf c
 ·obtain⟨x,hx,hc⟩:=hS;have ha:c.1=true:=by rcases hc with e|e<;>rw[e]<;>rfl
  have ex:c.2.2.1=x:=by rcases hc with e|e<;>rw[e]<;>rfl
  obtain⟨g1,g2,g3,g4⟩:=ace hx;obtain⟨i1,i2⟩:=g4 c hc
  have hm:=T6 h hS' (λ_=>by
   have e:ciC (dC c)=dec x:=by rw[<-ex];rfl
   rw[e];exact⟨i1,i2⟩)
  have hg:gM (CN c):=by
   unfold CN;have hm:bif D' (aB (dec c.2.2.2.2.1) (dec c.2.2.2.2.2)>0)then gM (gT c)else gM c:=hm;cases hd:D' (aB (dec c.2.2.2.2.1) (dec c.2.2.2.2.2)>0)<;>rw[hd]at hm<;>exact hm
  obtain⟨n,hn⟩:=XG h rfl;refine⟨[CN c],⟨⟨by simp,λe he=>by rw[aox.1 he];exact hg⟩,λ_=>rfl⟩,n,?_⟩;have h35:okC 3500 c:=bi h.1.1 (by decide) (by decide);have o:=(gdN.gd g1).1;have oL:okP 3500 (enc (da (dec x))):=aV o.2.2.1 (by decide) (by decide);have oR:okP 3500 (enc (dp (dec x))):=aV o.2.2.2 (by decide) (by decide);have s:=UT h;unfold AB;simp only[aR,ha,ex,dT hx,aq,i1,i2,dT (show okC 3500 c/\okP 3500 (enc (da (dec x))) from⟨h35,oL⟩),dT (show okC 3500 c/\okP 3500 (enc (dp (dec x))) from⟨h35,oR⟩),s,dT (show vW c [] from⟨h35,by simp,λp hp=>by cases hp⟩)];exact hn
 suffices gX:∃v:List BCU,(v.length<=4/\∀e∈v,gM e)/\∃n,AB c (kW.k n)=S' [.new 48 tCU v] from gX.elim λv h=>⟨v,⟨h.1,λg=>absurd g hS⟩,h.2⟩
 have go:∀l:List BP,l.length<=2->(∀p∈l,okP 580 p/\onR (dC c) (dec p)=T')->(∀e∈nC c l,gP e)->vW c l/\∃v,(v.length<=4/\∀e∈v,gM e)/\kW.Runs 32 (fS (nC c l) 0 []) [.new 48 tCU v]:=λl hl ho hP=>by
  have:=QZ c l;exact⟨⟨bi h.1.1 (by decide) (by decide),by omega,λx hx=>⟨aV (ho x hx).1 (by decide) (by decide),(ho x hx).2⟩⟩,KR hP (by omega) _ 0 (an2 _) [] (λe he=>by cases he) rfl⟩
 cases ha:c.1
 ·obtain⟨v,hv,n,hn⟩:=KR (s3:=[c]) (λe he=>by rw[aox.1 he];exact⟨h,hS',λg=>by rw[ha]at g;cases g⟩) (by simp) 1 0 rfl [] (λe he=>by cases he) rfl;refine⟨v,hv,n,?_⟩;unfold AB;rw[ha];exact hn
 ·have hc:=h.1.2.1 ha;have h35:okC 3500 c:=bi h.1.1 (by decide) (by decide);obtain⟨x,ex,bx,x0⟩:=b9 hc;have g:=DR (c:=x) x0;have gl:=g (T',o00,enc x,F',enc (da x),enc (dp x)) (by unfold D7;rw[aq];simp);have oL:okP 580 (enc (da (dec c.2.2.1))):=by rw[ex,aq];exact gl.1.1.2.2.1
  have oR:okP 580 (enc (dp (dec c.2.2.1))):=by rw[ex,aq];exact gl.1.1.2.2.2
  unfold AB;simp only[aR,ha,dT hc];generalize hp:enc (da (dec c.2.2.1))=p at*
  generalize hq:enc (dp (dec c.2.2.1))=q at*
  have gp:∀l,(∀z∈l,okP 580 z/\onR (dC c) (dec z)=T')->(jP (dC c) (dec p)=T'->p∈l)->(jP (dC c) (dec q)=T'->q∈l)->∀e∈nC c l,gP e:=λl ho g1 g2 e he=>⟨Ky h ho e he,(by
   obtain⟨_,_,_,_,_,ee⟩:=xA (zz h ho) he;rw[ee];exact hS'),λ_=>by
   obtain⟨_,_,_,_,_,ee⟩:=xA (zz h ho) he;have ec:ciC (dC e)=dec c.2.2.1:=by rw[ee];rfl
   rw[ec,<-aq (da (dec c.2.2.1)),<-aq (dp (dec c.2.2.1)),hp,hq];exact⟨Jq h ho (db oL) g1 e he,Jq h ho (db oR) g2 e he⟩⟩
  have p35:=aV (k:=3500) oL (by decide) (by decide);have q35:=aV (k:=3500) oR (by decide) (by decide);have on_:∀{z:BP},jP (dC c) (dec z)=T'->onR (dC c) (dec z)=true:=λh=>(an3.1 h).1;cases i1:jP (dC c) (dec p)<;>cases i2:jP (dC c) (dec q)
  ·obtain⟨s,v,hv,n,hn⟩:=go [] (by simp) (λz hz=>by cases hz) (gp _ (λz hz=>by cases hz) (λg=>by rw[i1]at g;cases g) λg=>by rw[i2]at g;cases g);refine⟨v,hv,n,?_⟩;simp only[dT (show okC 3500 c/\okP 3500 p from⟨h35,p35⟩),dT (show okC 3500 c/\okP 3500 q from⟨h35,q35⟩),dT s];exact hn
  ·have ho:∀z∈[q],okP 580 z/\onR (dC c) (dec z)=true:=λz hz=>by rw[aox.1 hz];exact⟨oR,on_ i2⟩
   obtain⟨s,v,hv,n,hn⟩:=go [q] (by simp) ho (gp _ ho (λg=>by rw[i1]at g;cases g) λ_=>by simp);refine⟨v,hv,n,?_⟩;simp only[dT (show okC 3500 c/\okP 3500 p from⟨h35,p35⟩),dT (show okC 3500 c/\okP 3500 q from⟨h35,q35⟩),dT s];exact hn
  ·have ho:∀z∈[p],okP 580 z/\onR (dC c) (dec z)=true:=λz hz=>by rw[aox.1 hz];exact⟨oL,on_ i1⟩
   obtain⟨s,v,hv,n,hn⟩:=go [p] (by simp) ho (gp _ ho (λ_=>by simp) λg=>by rw[i2]at g;cases g);refine⟨v,hv,n,?_⟩;simp only[dT (show okC 3500 c/\okP 3500 p from⟨h35,p35⟩),dT (show okC 3500 c/\okP 3500 q from⟨h35,q35⟩),dT s];exact hn
  ·have ho:∀z∈[p,q],okP 580 z/\onR (dC c) (dec z)=true:=λz hz=>by
    simp only[an6,apt,aqK]at hz;rcases hz with e|e<;>rw[e]
    ·exact⟨oL,on_ i1⟩
    ·exact⟨oR,on_ i2⟩
   obtain⟨s,v,hv,n,hn⟩:=go [p,q] (by simp) ho (gp _ ho (λ_=>by simp) λ_=>by simp);refine⟨v,hv,n,?_⟩;simp only[dT (show okC 3500 c/\okP 3500 p from⟨h35,p35⟩),dT (show okC 3500 c/\okP 3500 q from⟨h35,q35⟩),List.cons_append,apO,dT s,aoc,Nat.reduceAdd,Nat.reduceMul,Nat.reduceLeDiff,and_self,decide_true];exact hn
end
section
open RE
def Tp:List En:=[enL akb,enL ahE,enK YB]
def adP:NT:=[((69,8),{keep:=[0,3,4],own:=[(3,48,tCU)],hl:=1}),((69,25),{keep:=[3,5,6],own:=[(5,48,tCU)],hl:=2,pd:=1}),((69,40),{keep:=[3,5,6,7,8],own:=[(7,40,tP)],hl:=3,pd:=2})]
def uk:Ctx:=CX (ens Tp) adP
def DS(l:List BCU)(s4:Int)(r0:List BCU):Cfg:=⟨69,[.blk 0,.seq 19],[(0,.d (.sl tCU) l),(3,.own 0),(4,SI s4)],[.row 48 tCU r0],0,[]⟩
def tF(r0:List BCU)(s6:Int)(r1:List BCU):Cfg:=⟨69,[.blk 2,.seq 61],[(3,.own 0),(5,.own 1),(6,SI s6)],[.row 48 tCU r0,.row 48 tCU r1],0,[]⟩
def uu(r0:List BCU)(s6:Int)(r1:List BCU)(s8:Int)(r2:List BP):Cfg:=⟨69,[.blk 4,.seq 57,.blk 3,.seq 60,.lp 25,.blk 2,.seq 61],[(3,.own 0),(5,.own 1),(6,SI s6),(7,.own 2),(8,SI s8)],[.row 48 tCU r0,.row 48 tCU r1,.row 40 tP r2],0,[]⟩
def ZL(l:List BCU)(k:KT):OLR:=k 8 (DS l 0 ([]))
theorem akZ(l:List BCU):RS uk 69 [.d (.sl tCU) l] (ZL l):=rsX
def ya(l:List BCU)(s4:Int)(r0:List BCU)(k:KT):OLR:=match D' (s4<(l.length:Int))with|T'=>(match aH l s4 with|S' x1=>(og (D' (Up x1)) (og (D' ((r0.length+(LF x1).length)*1040<=140737488355328/\r0.length+(LF x1).length<=140737488355328)) (k 8 (DS l (i64.wrap (s4+1)) (r0++(LF x1))))))|N'=>N')|F'=>k 25 (tF r0 0 ([]))
theorem GF(l:List BCU)(s4:Int)(r0:List BCU):RN uk 8 (DS l s4 r0) (ya l s4 r0):=rnX
def vB(r0:List BCU)(s6:Int)(r1:List BCU)(k:KT):OLR:=match D' (s6<(r0.length:Int))with|T'=>k 40 (uu r0 s6 r1 0 ([]))|F'=>S' [RV.new 48 tCU r1]
theorem A8(r0:List BCU)(s6:Int)(r1:List BCU):RN uk 25 (tF r0 s6 r1) (vB r0 s6 r1):=rnX
def qN(r0:List BCU)(s6:Int)(r1:List BCU)(s8:Int)(r2:List BP)(k:KT):OLR:=match D' (s8<(r0.length:Int))with|T'=>(match s8 !=s6 with|T'=>(match aH r0 s6 with|S' _=>(match T',r0[(s6).toNat]? with|T',S' x1=>(match aH r0 s8 with|S' _=>(match T',r0[(s8).toNat]? with|T',S' x2=>(og (D' (lw x1 x2)) (og (D' ((r2.length+(zv x1 x2).length)*320<=140737488355328/\r2.length+(zv x1 x2).length<=140737488355328)) (k 40 (uu r0 s6 r1 (i64.wrap (s8+1)) (r2++(zv x1 x2))))))|_,_=>N')|N'=>N')|_,_=>N')|N'=>N')|F'=>k 40 (uu r0 s6 r1 (i64.wrap (s8+1)) r2))|F'=>(match aH r0 s6 with|S' _=>(match T',r0[(s6).toNat]? with|T',S' x1=>(og (D' (vW x1 r2)) (og (D' ((r1.length+(nC x1 r2).length)*1040<=140737488355328/\r1.length+(nC x1 r2).length<=140737488355328)) (k 25 (tF r0 (i64.wrap (s6+1)) (r1++(nC x1 r2))))))|_,_=>N')|N'=>N')
theorem uA(r0:List BCU)(s6:Int)(r1:List BCU)(s8:Int)(r2:List BP):RN uk 40 (uu r0 s6 r1 s8 r2) (qN r0 s6 r1 s8 r2):=rnX
def Re(l:List BCU):Prop:=∃v:(List BCU),(λv:List BCU=>v.length<=10000/\∀e∈v,gM e) v/\CQq7 69 [.d (.sl tCU) l] [.d (.sl tCU) v]
instance (l:List BCU):Decidable (Re l):=Classical.propDecidable _
def DZ(l:List BCU):(List BCU):=Classical.epsilon λv=>(λv:List BCU=>v.length<=10000/\∀e∈v,gM e) v/\CQq7 69 [.d (.sl tCU) l] [.d (.sl tCU) v]
theorem Xb{l:List BCU}(h:Re l):(λv:List BCU=>v.length<=10000/\∀e∈v,gM e) (DZ l):=(anZ h).1
def aj2:Cn 69 [(.sl tCU)]:=cn λ(l:List BCU)=>lf (Re l) [.d (.sl tCU) (DZ l)] λh=>(anZ h).2
theorem aeK{r0 r1:List BCU}{i:Nat}(h0:∀e∈r0,gM e)(hl:r0.length<=48)(hi:i<r0.length)(h1:∀e∈r1,gM e)(l1:r1.length<=200*i){Q:List BCU->Prop}(next:∀r',(∀e∈r',gM e)->r'.length<=200*(i+1)->∃v,Q v/\uk.Runs 25 (tF r0 ((i+1:Nat):Int) r') [.new 48 tCU v]):∀(j k:Nat),k+j=r0.length->∀r2:List BP,(∀p∈r2,okP 580 p/\onR (dC r0[i]) (dec p)=T')->r2.length<=4*k->∃v,Q v/\uk.Runs 40 (uu r0 (i:Int) r1 (k:Int) r2) [.new 48 tCU v]:=by
 have hx:=h0 _ (anY hi);have gx:r0[((i:Int)).toNat]?=S' r0[i]:=by rw[show((i:Int)).toNat=i by omega,anN hi]
 intro j;induction j with
 |zero=>
  intro k hk r2 h2 l2;have hs:=WZ hx h2;have hn:=QZ r0[i] r2;obtain⟨v,hv,n,hn⟩:=next (r1++nC r0[i] r2) (λe he=>(aod.1 he).elim (h1 e) (hs e)) (by simp;omega);refine⟨v,hv,uA _ _ _ _ _ ⟨n,?_⟩⟩;unfold qN;rw[a8 (by omega),ak,anN hi,gx];dsimp only;rw[dT (show vW r0[i] r2 from⟨bi hx.1.1.1 (by decide) (by decide),by omega,λp hp=>⟨aV (h2 p hp).1 (by decide) (by decide),(h2 p hp).2⟩⟩),dT (by omega),aT (by omega)];exact hn
 |succ j ih=>
  intro k hk r2 h2 l2;have hkl:k<r0.length:=by omega
  have hy:=h0 _ (anY hkl);have gy:r0[((k:Int)).toNat]?=S' r0[k]:=by rw[show((k:Int)).toNat=k by omega,anN hkl]
  have hm:lw r0[i] r0[k]:=⟨hx.1.1,hy.1.1⟩
  obtain⟨m1,m2⟩:=Wx hm;by_cases hik:(k:Int)=(i:Int)
  ·obtain⟨v,hv,n,hn⟩:=ih (k+1) (by omega) r2 h2 (by omega);refine⟨v,hv,uA _ _ _ _ _ ⟨n,?_⟩⟩;unfold qN;rw[aO hkl,show((k:Int) !=(i:Int))=F' by rw[hik];exact aqa _,aT (by omega)];exact hn
  ·obtain⟨v,hv,n,hn⟩:=ih (k+1) (by omega) (r2++zv r0[i] r0[k]) (λp hp=>(aod.1 hp).elim (h2 p) λh=>⟨(m2 p h).1,(m2 p h).2.1⟩) (by simp;omega);refine⟨v,hv,uA _ _ _ _ _ ⟨n,?_⟩⟩;unfold qN;rw[aO hkl,apV.2 hik,ak,anN hi,gx,ak,anN hkl,gy];dsimp only;rw[dT hm,dT (by omega),aT (by omega)];exact hn
theorem adW{r0:List BCU}(h0:∀e∈r0,gM e)(hl:r0.length<=48):∀(j i:Nat),i+j=r0.length->∀r1,(∀e∈r1,gM e)->r1.length<=200*i->∃v,(v.length<=10000/\∀e∈v,gM e)/\uk.Runs 25 (tF r0 (i:Int) r1) [.new 48 tCU v]:=by
 intro j;induction j with
 |zero=>
  intro i hi r1 h1 l1;refine⟨r1,⟨by omega,h1⟩,A8 _ _ _ ⟨0,?_⟩⟩;unfold vB;rw[a8 (by omega)]
 |succ j ih=>
  intro i hi r1 h1 l1;have hil:i<r0.length:=by omega
  obtain⟨v,hv,n,hn⟩:=aeK h0 hl hil h1 l1 (λr' a b=>ih (i+1) (by omega) r' a b) r0.length 0 (an2 _) [] (λp hp=>by cases hp) (by simp);refine⟨v,hv,A8 _ _ _ ⟨n,?_⟩⟩;unfold vB;rw[aO hil];exact hn
theorem ajT{l:List BCU}(h:∀e∈l,gdN e/\gS e)(hl:l.length<=12):∀(j i:Nat),i+j=l.length->∀r0,(∀e∈r0,gM e)->r0.length<=4*i->∃v,(v.length<=10000/\∀e∈v,gM e)/\uk.Runs 8 (DS l (i:Int) r0) [.new 48 tCU v]:=by
 intro j;induction j with
 |zero=>
  intro i hi r0 h0 l0;obtain⟨v,hv,n,hn⟩:=adW h0 (by omega) r0.length 0 (an2 _) [] (λe he=>by cases he) (by simp);refine⟨v,hv,GF _ _ _ ⟨n,?_⟩⟩;unfold ya;rw[a8 (by omega)];exact hn
 |succ j ih=>
  intro i hi r0 h0 l0;have hil:i<l.length:=by omega
  have hx:=h _ (anY hil);obtain⟨⟨m1,m2⟩,_⟩:=Vw (P0 hx.1 hx.2);obtain⟨v,hv,n,hn⟩:=ih (i+1) (by omega) (r0++LF l[i]) (λe he=>(aod.1 he).elim (h0 e) (m2 e)) (by simp;omega);refine⟨v,hv,GF _ _ _ ⟨n,?_⟩⟩;unfold ya;rw[aO hil,ak,anN hil];dsimp only;rw[dT (P0 hx.1 hx.2),dT (by omega),aT (by omega)];exact hn
theorem acp{l:List BCU}(h:∀e∈l,gdN e/\gS e)(hl:l.length<=12):Re l:=by
 suffices gX:∃v:(List BCU),(λv:List BCU=>v.length<=10000/\∀e∈v,gM e) v/\∃nX,ZL l (uk.k nX)=S' [.new 48 tCU v] from gX.elim λv h=>⟨v,h.1,Con.new_d (bj Tp (akZ l h.2))⟩
 obtain⟨v,hv,n,hn⟩:=ajT h hl l.length 0 (an2 _) [] (λe he=>by cases he) (by simp);exact⟨v,hv,n,hn⟩
def Nz:List En:=[enT ajS]
def aer:NT:=[((68,8),{keep:=[0,3,4],own:=[(3,48,tCU)],hl:=1}),((68,23),{keep:=[0,3,4,5,6],hl:=1})]
def yT:Ctx:=CX (ens Nz) aer
def v5(l:List BCU)(s4:Int)(r0:List BCU):Cfg:=⟨68,[.blk 0,.seq 44],[(0,.d (.sl tCU) l),(3,.own 0),(4,SI s4)],[.row 48 tCU r0],0,[]⟩
def ul(l:List BCU)(s4:Int)(r0:List BCU)(s5 s6:Int):Cfg:=⟨68,[.blk 2,.seq 38,.blk 1,.seq 43,.lp 8,.blk 0,.seq 44],[(0,.d (.sl tCU) l),(3,.own 0),(4,SI s4),(5,SI s5),(6,SI s6)],[.row 48 tCU r0],0,[]⟩
def abv(l:List BCU)(k:KT):OLR:=k 8 (v5 l 0 ([]))
theorem alp(l:List BCU):RS yT 68 [.d (.sl tCU) l] (abv l):=rsX
def Ad(l:List BCU)(s4:Int)(r0:List BCU)(k:KT):OLR:=match D' (s4<(l.length:Int))with|T'=>k 23 (ul l s4 r0 (-1) 0)|F'=>S' [RV.new 48 tCU r0]
theorem FF(l:List BCU)(s4:Int)(r0:List BCU):RN yT 8 (v5 l s4 r0) (Ad l s4 r0):=rnX
def mZ(l:List BCU)(s4:Int)(r0:List BCU)(s5 s6:Int)(k:KT):OLR:=match D' (s6<(r0.length:Int))with|T'=>(match aH r0 s6 with|S' _=>(match T',r0[(s6).toNat]? with|T',S' x1=>(match aH l s4 with|S' x2=>(og (D' (lw x1 x2)) (match XE (dC x1) (dC x2)with|T'=>k 23 (ul l s4 r0 s6 (i64.wrap (s6+1)))|F'=>k 23 (ul l s4 r0 s5 (i64.wrap (s6+1)))))|N'=>N')|_,_=>N')|N'=>N')|F'=>(match D' (s5<0)with|T'=>(match aH l s4 with|S' x1=>(og (D' ((r0.length+([x1]).length)*1040<=140737488355328/\r0.length+([x1]).length<=140737488355328)) (k 8 (v5 l (i64.wrap (s4+1)) (r0++([x1])))))|N'=>N')|F'=>(og (D' ((0:Int)<=0/\0<=s5/\s5<=(r0.length:Int))) (og (D' ((0:Int)<=i64.wrap (s5+1)/\i64.wrap (s5+1)<=(r0.length:Int)/\(r0.length:Int)<=(r0.length:Int))) (og (D' (((s5:Int).toNat-(0:Int).toNat)<=r0.length/\((r0.take ((s5:Int).toNat-(0:Int).toNat)).length+((r0.drop ((i64.wrap (s5+1):Int).toNat)).take (((r0.length:Int):Int).toNat-(i64.wrap (s5+1):Int).toNat)).length)*1040<=140737488355328/\(r0.take ((s5:Int).toNat-(0:Int).toNat)).length+((r0.drop ((i64.wrap (s5+1):Int).toNat)).take (((r0.length:Int):Int).toNat-(i64.wrap (s5+1):Int).toNat)).length<=140737488355328)) (k 8 (v5 l (i64.wrap (s4+1)) ((r0.take ((s5:Int).toNat-(0:Int).toNat))++((r0.drop ((i64.wrap (s5+1):Int).toNat)).take (((r0.length:Int):Int).toNat-(i64.wrap (s5+1):Int).toNat)))))))))
theorem ql(l:List BCU)(s4:Int)(r0:List BCU)(s5 s6:Int):RN yT 23 (ul l s4 r0 s5 s6) (mZ l s4 r0 s5 s6):=rnX
def Qc(l:List BCU):Prop:=∃v:(List BCU),(λv:List BCU=>v.length<=10000/\∀e∈v,gM e) v/\CQq7 68 [.d (.sl tCU) l] [.d (.sl tCU) v]
instance (l:List BCU):Decidable (Qc l):=Classical.propDecidable _
def FX(l:List BCU):(List BCU):=Classical.epsilon λv=>(λv:List BCU=>v.length<=10000/\∀e∈v,gM e) v/\CQq7 68 [.d (.sl tCU) l] [.d (.sl tCU) v]
theorem VX{l:List BCU}(h:Qc l):(λv:List BCU=>v.length<=10000/\∀e∈v,gM e) (FX l):=(anZ h).1
def ak4:Cn 68 [(.sl tCU)]:=cn λ(l:List BCU)=>lf (Qc l) [.d (.sl tCU) (FX l)] λh=>(anZ h).2
theorem af3{l r0:List BCU}{i:Nat}(h:∀e∈l,gM e)(hi:i<l.length)(hl:l.length<=10000)(h0:∀e∈r0,gM e)(l0:r0.length<=i){Q:List BCU->Prop}(next:∀r',(∀e∈r',gM e)->r'.length<=i+1->∃v,Q v/\yT.Runs 8 (v5 l ((i+1:Nat):Int) r') [.new 48 tCU v]):∀(j k:Nat),k+j=r0.length->∀s:Int,-1<=s->s<r0.length->∃v,Q v/\yT.Runs 23 (ul l (i:Int) r0 s (k:Int)) [.new 48 tCU v]:=by
 have hx:=h _ (anY hi);intro j;induction j with
 |zero=>
  intro k hk s s1 s2;by_cases hs:s<0
  ·obtain⟨v,hv,n,hn⟩:=next (r0++[l[i]]) (λe he=>(aod.1 he).elim (h0 e) λh=>by rw[aox.1 h];exact hx) (by simp;omega);refine⟨v,hv,ql _ _ _ _ _ ⟨n,?_⟩⟩;unfold mZ;rw[a8 (by omega)];dsimp only;rw[dT hs,ak,anN hi];dsimp only;rw[dT (by simp;omega),aT (by omega)];exact hn
  ·obtain⟨v,hv,n,hn⟩:=next ((r0.take (s.toNat-(0:Int).toNat))++((r0.drop ((s+1).toNat)).take (((r0.length:Int):Int).toNat-(s+1).toNat))) (λe he=>(aod.1 he).elim (λg=>h0 e (ao3 g)) λg=>h0 e (apq (ao3 g))) (by simp;omega);refine⟨v,hv,ql _ _ _ _ _ ⟨n,?_⟩⟩;unfold mZ;rw[a8 (by omega)];dsimp only;rw[dF hs];dsimp only;rw[aM (x:=s+1) (by omega) (by omega),dT (show(0:Int)<=0/\0<=s/\s<=(r0.length:Int) by omega),dT (show(0:Int)<=s+1/\s+1<=(r0.length:Int)/\(r0.length:Int)<=(r0.length:Int) by omega),dT (by simp;omega),aT (by omega)];exact hn
 |succ j ih=>
  intro k hk s s1 s2;have hkl:k<r0.length:=by omega
  have hy:=h0 _ (anY hkl);have gy:r0[((k:Int)).toNat]?=S' r0[k]:=by rw[show((k:Int)).toNat=k by omega,anN hkl]
  cases he:XE (dC r0[k]) (dC l[i])
  ·obtain⟨v,hv,n,hn⟩:=ih (k+1) (by omega) s s1 s2;refine⟨v,hv,ql _ _ _ _ _ ⟨n,?_⟩⟩;unfold mZ;rw[aO hkl,ak,anN hkl,gy,ak,anN hi];dsimp only;rw[dT (show lw r0[k] l[i] from⟨hy.1.1,hx.1.1⟩),he,aT (by omega)];exact hn
  ·obtain⟨v,hv,n,hn⟩:=ih (k+1) (by omega) (k:Int) (by omega) (by omega);refine⟨v,hv,ql _ _ _ _ _ ⟨n,?_⟩⟩;unfold mZ;rw[aO hkl,ak,anN hkl,gy,ak,anN hi];dsimp only;rw[dT (show lw r0[k] l[i] from⟨hy.1.1,hx.1.1⟩),he,aT (by omega)];exact hn
theorem ahG{l:List BCU}(h:∀e∈l,gM e)(hl:l.length<=10000):∀(j i:Nat),i+j=l.length->∀r0,(∀e∈r0,gM e)->r0.length<=i->∃v,(v.length<=10000/\∀e∈v,gM e)/\yT.Runs 8 (v5 l (i:Int) r0) [.new 48 tCU v]:=by
 intro j;induction j with
 |zero=>
  intro i hi r0 h0 l0;refine⟨r0,⟨by omega,h0⟩,FF _ _ _ ⟨0,?_⟩⟩;unfold Ad;rw[a8 (by omega)]
 |succ j ih=>
  intro i hi r0 h0 l0;have hil:i<l.length:=by omega
  obtain⟨v,hv,n,hn⟩:=af3 h hil hl h0 l0 (λr' a b=>ih (i+1) (by omega) r' a b) r0.length 0 (an2 _) (-1) (aq7 _) (by omega);refine⟨v,hv,FF _ _ _ ⟨n,?_⟩⟩;unfold Ad;rw[aO hil];exact hn
theorem afz{l:List BCU}(h:∀e∈l,gM e)(hl:l.length<=10000):Qc l:=by
 suffices gX:∃v:(List BCU),(λv:List BCU=>v.length<=10000/\∀e∈v,gM e) v/\∃nX,abv l (yT.k nX)=S' [.new 48 tCU v] from gX.elim λv h=>⟨v,h.1,Con.new_d (bj Nz (alp l h.2))⟩
 obtain⟨v,hv,n,hn⟩:=ahG h hl l.length 0 (an2 _) [] (λe he=>by cases he) (by simp);exact⟨v,hv,n,hn⟩
end
section
open RE
def mrg(x y:BCU):BCU:=(x.1,(x.2.1,(x.2.2.1,(x.2.2.2.1,(x.2.2.2.2.1,y.2.2.2.2.2)))))
theorem acl{x y:BCU}(hx:gM x)(hy:gM y)(hs:cO (dC x) (dC y)=T')(hw:x.2.2.2.1=y.2.2.2.1)(he:aB (dec y.2.2.2.2.1) (dec x.2.2.2.2.2)=0):gM (mrg x y):=by
 have kx:=fM hx.1.gd;have ky:=fM hy.1.gd;have r1:=kx.f.1;have r2:=kx.t.1;have r3:=ky.f.1;have r4:=ky.t.1
 have hlt:aB (frC (dC x)) (toC (dC y))<0:=by
  have a:=hx.2.1;have b:=hy.2.1;rw[iw,jl gz fq]at a b ⊢;have he:pR (frC (dC y))=pR (toC (dC x)):=cmpP_0.1 he;rw[he]at b;exact gz.tr _ _ _ a b
 have hsup:df (dC x) (toC (dC y))=true:=W7 ky (Xj hs) ky.t.2;refine⟨⟨⟨⟨hx.1.1.1.1,hx.1.1.1.2.1,hx.1.1.1.2.2.1,hy.1.1.1.2.2.2⟩,hx.1.1.2⟩,kx.f.2,hsup,λe=>?_⟩,hlt,λha=>⟨(hx.2.2.1 ha).1,?_⟩,hx.2.2.2⟩
 ·have e:aB (frC (dC x)) (toC (dC y))=0:=e;omega
 ·have ha:x.1=true:=ha;have e1:=IX hs ha;have hy':=(hy.2.2.1 ((yu hs).symm.trans ha)).2;unfold hfC kc at*
  rw[<-e1,show cwC (dC y)=cwC (dC x) from hw.symm]at hy';exact hy'
def wu(l:List BCU):Prop:=∃v:(List BCU),(λv:List BCU=>v.length<=10000/\∀e∈v,gM e) v/\CQq7 67 [.d (.sl tCU) l] [.d (.sl tCU) v]
instance (l:List BCU):Decidable (wu l):=Classical.propDecidable _
def Gj(l:List BCU):(List BCU):=Classical.epsilon λv=>(λv:List BCU=>v.length<=10000/\∀e∈v,gM e) v/\CQq7 67 [.d (.sl tCU) l] [.d (.sl tCU) v]
theorem Ls{l:List BCU}(h:wu l):(λv:List BCU=>v.length<=10000/\∀e∈v,gM e) (Gj l):=(anZ h).1
def aaz:Cn 67 [(.sl tCU)]:=cn λ(l:List BCU)=>lf (wu l) [.d (.sl tCU) (Gj l)] λh=>(anZ h).2
def Ry:List En:=[enT o8,enT RR,enK aaz]
def adZ:NT:=[((67,6),{keep:=[0,3],hl:=0}),((67,23),{keep:=[0,3,4,5,6,7],hl:=1}),((67,57),{keep:=[0,3,6,8,9,10],own:=[(9,48,tCU)],hl:=3,pd:=2,er:=[0]})]
def oS:Ctx:=CX (ens Ry) adZ
def pD(l:List BCU)(s3:Int):Cfg:=⟨67,[.blk 0,.seq 77],[(0,.d (.sl tCU) l),(3,SI s3)],[],0,[]⟩
def ke(l:List BCU)(s3:Int)(x1:BCU)(s5 s6 s7:Int):Cfg:=⟨67,[.blk 2,.seq 44,.blk 1,.seq 76,.lp 6,.blk 0,.seq 77],[(0,.d (.sl tCU) l),(3,SI s3),(4,.box 0 0),(5,SI s5),(6,SI s6),(7,SI s7)],[.box 40 (Ty.split tP x1.2.2.2.2.2)],0,[]⟩
def n7(l:List BCU)(s3 s6:Int)(x6 x7:BCU)(s10:Int)(r2:List BCU):Cfg:=⟨67,[.blk 4,.seq 72,.blk 1,.seq 76,.lp 6,.blk 0,.seq 77],[(0,.d (.sl tCU) l),(3,SI s3),(6,SI s6),(8,.box 1 0),(9,.own 2),(10,SI s10)],[.gone,.box 48 (Ty.split tCU (x6.1,(x6.2.1,(x6.2.2.1,(x6.2.2.2.1,(x6.2.2.2.2.1,x7.2.2.2.2.2)))))),.row 48 tCU r2],0,[]⟩
def Zk(l:List BCU)(k:KT):OLR:=k 6 (pD l 0)
theorem alu(l:List BCU):RS oS 67 [.d (.sl tCU) l] (Zk l):=rsX
def yI(l:List BCU)(s3:Int)(k:KT):OLR:=match D' (s3<(l.length:Int))with|T'=>(match aH l s3 with|S' x1=>k 23 (ke l s3 x1 0 (-1) 0)|N'=>N')|F'=>S' [RV.d (.sl tCU) l]
theorem FJ(l:List BCU)(s3:Int):RN oS 6 (pD l s3) (yI l s3):=rnX
def iX(l:List BCU)(s3:Int)(x1:BCU)(s5 s6 s7:Int)(k:KT):OLR:=match D' (s7<(l.length:Int))with|T'=>(match aH l s7 with|S' x2=>(og (D' (okP 4000 x2.2.2.2.2.1/\okP 4000 x1.2.2.2.2.2)) (match aB (dec x2.2.2.2.2.1) (dec x1.2.2.2.2.2)==0 with|T'=>(match aH l s7 with|S' x3=>(og (D' (okP 4000 x3.2.2.2.2.2/\okP 4000 x1.2.2.2.2.2)) (match aB (dec x3.2.2.2.2.2) (dec x1.2.2.2.2.2)==0 with|T'=>k 23 (ke l s3 x1 (i64.wrap ((i64.wrap (s5+1))+1)) s7 (i64.wrap (s7+1)))|F'=>k 23 (ke l s3 x1 (i64.wrap (s5+1)) s7 (i64.wrap (s7+1)))))|N'=>N')|F'=>(match aH l s7 with|S' x3=>(og (D' (okP 4000 x3.2.2.2.2.2/\okP 4000 x1.2.2.2.2.2)) (match aB (dec x3.2.2.2.2.2) (dec x1.2.2.2.2.2)==0 with|T'=>k 23 (ke l s3 x1 (i64.wrap (s5+1)) s6 (i64.wrap (s7+1)))|F'=>k 23 (ke l s3 x1 s5 s6 (i64.wrap (s7+1)))))|N'=>N')))|N'=>N')|F'=>(match s5==2 with|T'=>(match D' (s6>=0)with|T'=>(match aH l s3 with|S' x2=>(match aH l s6 with|S' x3=>(og (D' (fx x2 x3)) (match cO (dC x2) (dC x3)with|T'=>(match aH l s3 with|S' x4=>(match aH l s6 with|S' x5=>(match x4.2.2.2.1==x5.2.2.2.1 with|T'=>(match aH l s3 with|S' x6=>(match aH l s6 with|S' x7=>k 57 (n7 l s3 s6 x6 x7 0 ([]))|N'=>N')|N'=>N')|F'=>k 6 (pD l (i64.wrap (s3+1))))|N'=>N')|N'=>N')|F'=>k 6 (pD l (i64.wrap (s3+1)))))|N'=>N')|N'=>N')|F'=>k 6 (pD l (i64.wrap (s3+1))))|F'=>k 6 (pD l (i64.wrap (s3+1))))
theorem ku(l:List BCU)(s3:Int)(x1:BCU)(s5 s6 s7:Int):RN oS 23 (ke l s3 x1 s5 s6 s7) (iX l s3 x1 s5 s6 s7):=rnX
def mV(l:List BCU)(s3 s6:Int)(x6 x7:BCU)(s10:Int)(r2:List BCU)(k:KT):OLR:=match D' (s10<(l.length:Int))with|T'=>(match s10 !=s3 with|T'=>(match s10 !=s6 with|T'=>(match aH l s10 with|S' x8=>(og (D' ((r2.length+([x8]).length)*1040<=140737488355328/\r2.length+([x8]).length<=140737488355328)) (k 57 (n7 l s3 s6 x6 x7 (i64.wrap (s10+1)) (r2++([x8])))))|N'=>N')|F'=>k 57 (n7 l s3 s6 x6 x7 (i64.wrap (s10+1)) r2))|F'=>k 57 (n7 l s3 s6 x6 x7 (i64.wrap (s10+1)) r2))|F'=>(og (D' ((r2.length+([(x6.1,(x6.2.1,(x6.2.2.1,(x6.2.2.2.1,(x6.2.2.2.2.1,x7.2.2.2.2.2)))))]).length)*1040<=140737488355328/\r2.length+([(x6.1,(x6.2.1,(x6.2.2.1,(x6.2.2.2.1,(x6.2.2.2.2.1,x7.2.2.2.2.2)))))]).length<=140737488355328)) (og (D' (wu (r2++([(x6.1,(x6.2.1,(x6.2.2.1,(x6.2.2.2.1,(x6.2.2.2.2.1,x7.2.2.2.2.2)))))])))) (S' [RV.d (.sl tCU) (Gj (r2++([(x6.1,(x6.2.1,(x6.2.2.1,(x6.2.2.2.1,(x6.2.2.2.2.1,x7.2.2.2.2.2)))))])))])))
theorem qD(l:List BCU)(s3 s6:Int)(x6 x7:BCU)(s10:Int)(r2:List BCU):RN oS 57 (n7 l s3 s6 x6 x7 s10 r2) (mV l s3 s6 x6 x7 s10 r2):=rnX
section
variable {l:List BCU} (hl:l.length<=10000) (h:∀e∈l,gM e) {i:Nat} (hi:i<l.length)
include hl h hi
theorem ada{nx:Nat}(hn:nx<l.length)(hne:i≠nx)(hW:gM (mrg l[i] l[nx]))(ih:∀m:List BCU,m.length<l.length->(∀e∈m,gM e)->wu m):∀(j k:Nat),k+j=l.length->∀r2:List BCU,(∀e∈r2,gM e)->r2.length<=k->(i<k->r2.length+1<=k)->(nx<k->r2.length+1<=k)->(i<k->nx<k->r2.length+2<=k)->∃v,(v.length<=10000/\∀e∈v,gM e)/\oS.Runs 57 (n7 l (i:Int) (nx:Int) l[i] l[nx] (k:Int) r2) [.d (.sl tCU) v]:=by
 intro j;induction j with
 |zero=>
  intro k hk r2 h2 a1 a2 a3 a4;have hm:=ih (r2++[mrg l[i] l[nx]]) (by have:=a4 (by omega) (by omega);simp;omega) (λe he=>(aod.1 he).elim (h2 e) λg=>by rw[aox.1 g];exact hW);refine⟨_,Ls hm,qD _ _ _ _ _ _ _ ⟨0,?_⟩⟩;unfold mV;rw[a8 (by omega),dT (by simp;omega)];show og (D' (wu (r2++[mrg l[i] l[nx]]))) _=_;rw[dT hm];rfl
 |succ j ih2=>
  intro k hk r2 h2 a1 a2 a3 a4;have hkl:k<l.length:=by omega
  have same:(k=i\/k=nx)->∃v,(v.length<=10000/\∀e∈v,gM e)/\oS.Runs 57 (n7 l (i:Int) (nx:Int) l[i] l[nx] ((k+1:Nat):Int) r2) [.d (.sl tCU) v]:=λg=>ih2 (k+1) (by omega) r2 h2 (by omega) (by omega) (by omega) (by omega);by_cases g1:k=i
  ·obtain⟨v,hv,n,hn⟩:=same (.inl g1);refine⟨v,hv,qD _ _ _ _ _ _ _ ⟨n,?_⟩⟩;unfold mV;rw[aO hkl,show((k:Int) !=(i:Int))=F' by rw[g1];exact aqa _,aT (by omega)];exact hn
  ·by_cases g2:k=nx
   ·obtain⟨v,hv,n,hn⟩:=same (.inr g2);refine⟨v,hv,qD _ _ _ _ _ _ _ ⟨n,?_⟩⟩;unfold mV;rw[aO hkl,show((k:Int) !=(i:Int))=T' from apV.2 (by omega),show((k:Int) !=(nx:Int))=F' by rw[g2];exact aqa _,aT (by omega)];exact hn
   ·clear same;obtain⟨v,hv,n,hn⟩:=ih2 (k+1) (by omega) (r2++[l[k]]) (λe he=>(aod.1 he).elim (h2 e) λg=>by rw[aox.1 g];exact h _ (anY hkl)) (by simp;omega) (by simp;omega) (by simp;omega) (by simp;omega);refine⟨v,hv,qD _ _ _ _ _ _ _ ⟨n,?_⟩⟩;unfold mV;rw[aO hkl,show((k:Int) !=(i:Int))=T' from apV.2 (by omega),show((k:Int) !=(nx:Int))=T' from apV.2 (by omega),ak,anN hkl];dsimp only;rw[dT (by simp;omega),aT (by omega)];exact hn
theorem agt(ih:∀m:List BCU,m.length<l.length->(∀e∈m,gM e)->wu m)(next:∃v,(v.length<=10000/\∀e∈v,gM e)/\oS.Runs 6 (pD l ((i+1:Nat):Int)) [.d (.sl tCU) v]):∀(j k:Nat),k+j=l.length->∀s5 s6:Int,(s6= -1\/∃(nx:Nat) (hn:nx<l.length),s6=nx/\aB (dec l[nx].2.2.2.2.1) (dec l[i].2.2.2.2.2)=0)->∃v,(v.length<=10000/\∀e∈v,gM e)/\oS.Runs 23 (ke l (i:Int) l[i] s5 s6 (k:Int)) [.d (.sl tCU) v]:=by
 have hx:=h _ (anY hi);intro j;induction j with
 |zero=>
  intro k hk s5 s6 h6
  have go:(s5==2)=F'\/s6<0\/(∃(nx:Nat) (hn:nx<l.length),s6=nx/\(cO (dC l[i]) (dC l[nx])=F'\/(l[i].2.2.2.1==l[nx].2.2.2.1)=F'))->∃v,(v.length<=10000/\∀e∈v,gM e)/\oS.Runs 23 (ke l (i:Int) l[i] s5 s6 (k:Int)) [.d (.sl tCU) v]:=λg=>by
   obtain⟨v,hv,n,hn⟩:=next;refine⟨v,hv,ku _ _ _ _ _ _ ⟨n,?_⟩⟩;unfold iX;rw[a8 (by omega)];dsimp only;rw[aT (k:=i) (by omega)];rcases g with g|g|⟨nx,hx2,e,g⟩
   ·rw[g];exact hn
   ·rw[dF (show ¬s6>=0 by omega)];cases s5==2<;>exact hn
   ·have hy:=h _ (anY hx2);rw[e,ak,anN hi,ak,anN hx2,dT (show((nx:Nat):Int)>=0 by omega)];dsimp only;rw[dT (show fx l[i] l[nx] from⟨hx.1.1.2,hy.1.1.2⟩)];rcases g with g|g<;>rw[g]
    ·cases s5==2<;>exact hn
    ·cases s5==2<;>cases cO (dC l[i]) (dC l[nx])<;>exact hn
  cases q1:s5==2
  ·exact go (.inl q1)
  rcases h6 with h6|⟨nx,hn,e,he⟩
  ·exact go (.inr (.inl (by omega)))
  have hy:=h _ (anY hn);cases q2:cO (dC l[i]) (dC l[nx])
  ·exact go (.inr (.inr ⟨nx,hn,e,.inl q2⟩))
  cases q3:l[i].2.2.2.1==l[nx].2.2.2.1
  ·exact go (.inr (.inr ⟨nx,hn,e,.inr q3⟩))
  have hne:i≠nx:=λg=>by
   subst g;have:=hx.2.1;have r1:=(fM hx.1.gd).f.1;have r2:=(fM hx.1.gd).t.1;have he:aB (frC (dC l[i])) (toC (dC l[i]))=0:=he;omega
  obtain⟨v,hv,n,hn2⟩:=ada hl h hi hn hne (acl hx hy q2 (aos.1 q3) he) ih l.length 0 (an2 _) [] (λe he=>by cases he) (by simp) (by omega) (by omega) (by omega);refine⟨v,hv,ku _ _ _ _ _ _ ⟨n,?_⟩⟩;unfold iX;rw[a8 (by omega)];dsimp only;rw[q1,e,ak,anN hi,ak,anN hn,dT (show((nx:Nat):Int)>=0 by omega)];dsimp only;rw[dT (show fx l[i] l[nx] from⟨hx.1.1.2,hy.1.1.2⟩),q2,q3];exact hn2
 |succ j ih2=>
  intro k hk s5 s6 h6;have hkl:k<l.length:=by omega
  have hy:=h _ (anY hkl);have k1:okP 4000 l[k].2.2.2.2.1/\okP 4000 l[i].2.2.2.2.2:=⟨aV hy.1.1.1.2.2.1 (by decide) (by decide),aV hx.1.1.1.2.2.2 (by decide) (by decide)⟩
  have k2:okP 4000 l[k].2.2.2.2.2/\okP 4000 l[i].2.2.2.2.2:=⟨aV hy.1.1.1.2.2.2 (by decide) (by decide),k1.2⟩
  have st:∀(s5' s6':Int),(s6'=s6\/s6'=k/\aB (dec l[k].2.2.2.2.1) (dec l[i].2.2.2.2.2)=0)->∃v,(v.length<=10000/\∀e∈v,gM e)/\oS.Runs 23 (ke l (i:Int) l[i] s5' s6' ((k+1:Nat):Int)) [.d (.sl tCU) v]:=λs5' s6' g=>by
   refine ih2 (k+1) (by omega) s5' s6' ?_;rcases g with g|⟨g,g'⟩
   ·rw[g];exact h6
   ·exact .inr ⟨k,hkl,g,g'⟩
  cases e1:aB (dec l[k].2.2.2.2.1) (dec l[i].2.2.2.2.2)==0<;>cases e2:aB (dec l[k].2.2.2.2.2) (dec l[i].2.2.2.2.2)==0
  ·obtain⟨v,hv,n,hn⟩:=st s5 s6 (.inl rfl);refine⟨v,hv,ku _ _ _ _ _ _ ⟨n,?_⟩⟩;unfold iX;rw[aO hkl,ak,anN hkl];dsimp only;rw[dT k1,dT k2,e1,e2,aT (k:=k) (by omega)];exact hn
  ·obtain⟨v,hv,n,hn⟩:=st (i64.wrap (s5+1)) s6 (.inl rfl);refine⟨v,hv,ku _ _ _ _ _ _ ⟨n,?_⟩⟩;unfold iX;rw[aO hkl,ak,anN hkl];dsimp only;rw[dT k1,dT k2,e1,e2,aT (k:=k) (by omega)];exact hn
  ·obtain⟨v,hv,n,hn⟩:=st (i64.wrap (s5+1)) k (.inr ⟨rfl,aos.1 e1⟩);refine⟨v,hv,ku _ _ _ _ _ _ ⟨n,?_⟩⟩;unfold iX;rw[aO hkl,ak,anN hkl];dsimp only;rw[dT k1,dT k2,e1,e2,aT (k:=k) (by omega)];exact hn
  ·obtain⟨v,hv,n,hn⟩:=st (i64.wrap ((i64.wrap (s5+1))+1)) k (.inr ⟨rfl,aos.1 e1⟩);refine⟨v,hv,ku _ _ _ _ _ _ ⟨n,?_⟩⟩;unfold iX;rw[aO hkl,ak,anN hkl];dsimp only;rw[dT k1,dT k2,e1,e2,aT (k:=k) (by omega)];exact hn
omit hi in
theorem aj3(ih:∀m:List BCU,m.length<l.length->(∀e∈m,gM e)->wu m):∀(j i:Nat),i+j=l.length->∃v,(v.length<=10000/\∀e∈v,gM e)/\oS.Runs 6 (pD l (i:Int)) [.d (.sl tCU) v]:=by
 intro j;induction j with
 |zero=>
  intro i hi;refine⟨l,⟨hl,h⟩,FJ _ _ ⟨0,?_⟩⟩;unfold yI;rw[a8 (by omega)]
 |succ j ih2=>
  intro i hi;have hil:i<l.length:=by omega
  obtain⟨v,hv,n,hn⟩:=agt hl h hil ih (ih2 (i+1) (by omega)) l.length 0 (an2 _) 0 (-1) (.inl rfl);refine⟨v,hv,FJ _ _ ⟨n,?_⟩⟩;unfold yI;rw[aO hil,ak,anN hil];exact hn
end
theorem JD{l:List BCU}(hl:l.length<=10000)(h:∀e∈l,gM e)(ih:∀m:List BCU,m.length<l.length->(∀e∈m,gM e)->wu m):wu l:=by
 suffices gX:∃v:(List BCU),(λv:List BCU=>v.length<=10000/\∀e∈v,gM e) v/\∃nX,Zk l (oS.k nX)=S' [.d (.sl tCU) v] from gX.elim λv h=>⟨v,h.1,bj Ry (alu l h.2)⟩
 obtain⟨v,hv,n,hn⟩:=aj3 hl h ih l.length 0 (an2 _);exact⟨v,hv,n,hn⟩
theorem R6:∀(n:Nat) {l:List BCU},l.length<=n->l.length<=10000->(∀e∈l,gM e)->wu l
 |0,l,hn,hl,h=>JD hl h λm hm _=>by omega
 |n+1,l,hn,hl,h=>JD hl h λm hm g=>R6 n (by omega) (by omega) g
def RJ:List En:=[enL abh]
def acB:NT:=[((66,8),{keep:=[3,4],hl:=1}),((66,20),{keep:=[3,4,5],hl:=1})]
def yo:Ctx:=CX (ens RJ) acB
def vA(s4:Int)(r0:List BCU):Cfg:=⟨66,[.blk 0,.seq 32],[(3,.own 0),(4,SI s4)],[.row 48 tCU r0],0,[]⟩
def wU(s4 s5:Int)(r0:List BCU):Cfg:=⟨66,[.blk 2,.blk 1,.seq 31,.lp 8,.blk 0,.seq 32],[(3,.own 0),(4,SI s4),(5,SI s5)],[.row 48 tCU r0],0,[]⟩
def Pc(l:List BCU)(k:KT):OLR:=og (D' ((([]:List BCU).length+l.length)*1040<=140737488355328/\([]:List BCU).length+l.length<=140737488355328)) (k 8 (vA 0 (([]:List BCU)++l)))
theorem amk(l:List BCU):RS yo 66 [.d (.sl tCU) l] (Pc l):=rsX
def Ab(s4:Int)(r0:List BCU)(k:KT):OLR:=match D' (s4<(r0.length:Int))with|T'=>k 20 (wU s4 s4 r0)|F'=>S' [RV.new 48 tCU r0]
theorem EH(s4:Int)(r0:List BCU):RN yo 8 (vA s4 r0) (Ab s4 r0):=rnX
def qn(s4 s5:Int)(r0:List BCU)(k:KT):OLR:=match D' (s5>0)with|T'=>(match aH r0 s5 with|S' _=>(match T',r0[(s5).toNat]? with|T',S' x1=>(match aH r0 (i64.wrap (s5-1))with|S' _=>(match T',r0[(i64.wrap (s5-1)).toNat]? with|T',S' x2=>(og (D' (Rg x1 x2)) (match D' ((Uo x1 x2)<0)with|T'=>(match aH r0 (i64.wrap (s5-1))with|S' _=>(match T',r0[(i64.wrap (s5-1)).toNat]? with|T',S' x3=>(match aH r0 s5 with|S' _=>(match T',r0[(s5).toNat]? with|T',S' x4=>(match aH r0 s5 with|S' _=>(match T',r0[(s5).toNat]? with|T',S' _=>(match aH (r0.set ((s5).toNat) x3) (i64.wrap (s5-1))with|S' _=>(match T',(r0.set ((s5).toNat) x3)[(i64.wrap (s5-1)).toNat]? with|T',S' _=>k 20 (wU s4 (i64.wrap (s5-1)) ((r0.set ((s5).toNat) x3).set ((i64.wrap (s5-1)).toNat) x4))|_,_=>N')|N'=>N')|_,_=>N')|N'=>N')|_,_=>N')|N'=>N')|_,_=>N')|N'=>N')|F'=>k 8 (vA (i64.wrap (s4+1)) r0)))|_,_=>N')|N'=>N')|_,_=>N')|N'=>N')|F'=>k 8 (vA (i64.wrap (s4+1)) r0)
theorem uB(s4 s5:Int)(r0:List BCU):RN yo 20 (wU s4 s5 r0) (qn s4 s5 r0):=rnX
def I2(l:List BCU):Prop:=∃v:(List BCU),(λv:List BCU=>v.length<=10000/\∀e∈v,gM e) v/\CQq7 66 [.d (.sl tCU) l] [.d (.sl tCU) v]
instance (l:List BCU):Decidable (I2 l):=Classical.propDecidable _
def MN(l:List BCU):(List BCU):=Classical.epsilon λv=>(λv:List BCU=>v.length<=10000/\∀e∈v,gM e) v/\CQq7 66 [.d (.sl tCU) l] [.d (.sl tCU) v]
theorem U7{l:List BCU}(h:I2 l):(λv:List BCU=>v.length<=10000/\∀e∈v,gM e) (MN l):=(anZ h).1
def aip:Cn 66 [(.sl tCU)]:=cn λ(l:List BCU)=>lf (I2 l) [.d (.sl tCU) (MN l)] λh=>(anZ h).2
theorem acJ{i n:Nat}(hn:n<=10000)(hi:i<n){Q:List BCU->Prop}(next:∀r:List BCU,r.length=n->(∀e∈r,gM e)->∃v,Q v/\yo.Runs 8 (vA ((i+1:Nat):Int) r) [.new 48 tCU v]):∀(k:Nat),k<=i->∀r:List BCU,r.length=n->(∀e∈r,gM e)->∃v,Q v/\yo.Runs 20 (wU (i:Int) (k:Int) r) [.new 48 tCU v]:=by
 intro k;induction k with
 |zero=>
  intro _ r hr h;obtain⟨v,hv,m,hm⟩:=next r hr h;refine⟨v,hv,uB _ _ _ ⟨m,?_⟩⟩;unfold qn;rw[dF (show ¬((0:Nat):Int)>0 by decide),aT (by omega)];exact hm
 |succ k ih=>
  intro hk r hr h;have h1:k+1<r.length:=by omega
  have h0:k<r.length:=by omega
  have e1:i64.wrap (((k+1:Nat):Int)-1)=(k:Int):=by rw[aM (by omega) (by omega)];omega
  have t1:((k+1:Nat):Int).toNat=k+1:=by omega
  have t0:((k:Nat):Int).toNat=k:=by omega
  have x1:=h _ (anY h1);have x0:=h _ (anY h0);have g1:r[((k+1:Nat):Int).toNat]?=S' r[k+1]:=by rw[t1,anN h1]
  have g0:r[((k:Nat):Int).toNat]?=S' r[k]:=by rw[t0,anN h0]
  cases hc:D' (Uo r[k+1] r[k]<0)
  ·obtain⟨v,hv,m,hm⟩:=next r hr h;refine⟨v,hv,uB _ _ _ ⟨m,?_⟩⟩;unfold qn;rw[dT (show((k+1:Nat):Int)>0 by omega),e1,ak,anN h1,g1,ak,anN h0,g0];dsimp only;rw[dT (Cj (sV x1.1) (sV x0.1)),hc,aT (by omega)];exact hm
  ·have hs:∀e∈(r.set (k+1) r[k]).set k r[k+1],gM e:=λe he=>by
    rcases ap3 he with g|g
    ·rcases ap3 g with g|g
     ·exact h e g
     ·rw[g];exact x0
    ·rw[g];exact x1
   obtain⟨v,hv,m,hm⟩:=ih (by omega) _ (by simp[hr]) hs;refine⟨v,hv,uB _ _ _ ⟨m,?_⟩⟩;unfold qn;rw[dT (show((k+1:Nat):Int)>0 by omega),e1,ak,anN h1,g1,ak,anN h0,g0];dsimp only;rw[dT (Cj (sV x1.1) (sV x0.1)),hc,t1,t0,ak,anN (l:=r.set (k+1) r[k]) (i:=k) (by simp;omega)];exact hm
theorem ah1{n:Nat}(hn:n<=10000):∀(j i:Nat),i+j=n->∀r:List BCU,r.length=n->(∀e∈r,gM e)->∃v,(v.length<=10000/\∀e∈v,gM e)/\yo.Runs 8 (vA (i:Int) r) [.new 48 tCU v]:=by
 intro j;induction j with
 |zero=>
  intro i hi r hr h;refine⟨r,⟨by omega,h⟩,EH _ _ ⟨0,?_⟩⟩;unfold Ab;rw[a8 (by omega)]
 |succ j ih=>
  intro i hi r hr h;obtain⟨v,hv,m,hm⟩:=acJ hn (by omega) (λr a b=>ih (i+1) (by omega) r a b) i (anT _) r hr h;refine⟨v,hv,EH _ _ ⟨m,?_⟩⟩;unfold Ab;rw[aO (by omega)];exact hm
theorem aec{l:List BCU}(hl:l.length<=10000)(h:∀e∈l,gM e):I2 l:=by
 suffices gX:∃v:(List BCU),(λv:List BCU=>v.length<=10000/\∀e∈v,gM e) v/\∃nX,Pc l (yo.k nX)=S' [.new 48 tCU v] from gX.elim λv h=>⟨v,h.1,Con.new_d (bj RJ (amk l h.2))⟩
 obtain⟨v,hv,n,hn⟩:=ah1 hl l.length 0 (an2 _) l rfl h;refine⟨v,hv,n,?_⟩;unfold Pc;rw[dT (by simp;omega)];exact hn
def OY:List En:=[enT o8]
def afj:NT:=[((65,6),{keep:=[0,3],hl:=0}),((65,20),{keep:=[0,3,4,5],hl:=1}),((65,35),{keep:=[0,3,4,5,6,7],hl:=1})]
def oT:Ctx:=CX (ens OY) afj
def xN(l:List BCU)(s3:Int):Cfg:=⟨65,[.blk 0,.seq 65],[(0,.d (.sl tCU) l),(3,SI s3)],[],0,[]⟩
def tk(l:List BCU)(s3:Int)(x1 x2:BCU)(s5:Int):Cfg:=⟨65,[.blk 2,.blk 1,.seq 64,.lp 6,.blk 0,.seq 65],[(0,.d (.sl tCU) l),(3,SI s3),(4,.own 0),(5,SI s5)],[.row 40 tP ([x1.2.2.2.2.1,x2.2.2.2.2.2])],0,[]⟩
def lN(l:List BCU)(s3:Int)(x1 x2:BCU)(s5 s6 s7:Int):Cfg:=⟨65,[.blk 4,.seq 56,.blk 3,.seq 63,.lp 20,.blk 2,.blk 1,.seq 64,.lp 6,.blk 0,.seq 65],[(0,.d (.sl tCU) l),(3,SI s3),(4,.own 0),(5,SI s5),(6,SI s6),(7,SI s7)],[.row 40 tP ([x1.2.2.2.2.1,x2.2.2.2.2.2])],0,[]⟩
def Zu(l:List BCU)(k:KT):OLR:=k 6 (xN l 0)
theorem ak7(l:List BCU):RS oT 65 [.d (.sl tCU) l] (Zu l):=rsX
def yU(l:List BCU)(s3:Int)(k:KT):OLR:=match D' (s3<(l.length:Int))with|T'=>(match aH l s3 with|S' x1=>(match aH l s3 with|S' x2=>k 20 (tk l s3 x1 x2 0)|N'=>N')|N'=>N')|F'=>S' [RV.d .bool F']
theorem FU(l:List BCU)(s3:Int):RN oT 6 (xN l s3) (yU l s3):=rnX
def vG(l:List BCU)(s3:Int)(x1 x2:BCU)(s5:Int)(k:KT):OLR:=match D' (s5<2)with|T'=>k 35 (lN l s3 x1 x2 s5 0 0)|F'=>k 6 (xN l (i64.wrap (s3+1)))
theorem BJ(l:List BCU)(s3:Int)(x1 x2:BCU)(s5:Int):RN oT 20 (tk l s3 x1 x2 s5) (vG l s3 x1 x2 s5):=rnX
def nB(l:List BCU)(s3:Int)(x1 x2:BCU)(s5 s6 s7:Int)(k:KT):OLR:=match D' (s7<(l.length:Int))with|T'=>(match aH l s7 with|S' x3=>(match aH ([x1.2.2.2.2.1,x2.2.2.2.2.2]) s5 with|S' _=>(match T',([x1.2.2.2.2.1,x2.2.2.2.2.2])[(s5).toNat]? with|T',S' x4=>(og (D' (okP 4000 x3.2.2.2.2.1/\okP 4000 x4)) (match aB (dec x3.2.2.2.2.1) (dec x4)==0 with|T'=>(match aH l s7 with|S' x5=>(match aH ([x1.2.2.2.2.1,x2.2.2.2.2.2]) s5 with|S' _=>(match T',([x1.2.2.2.2.1,x2.2.2.2.2.2])[(s5).toNat]? with|T',S' x6=>(og (D' (okP 4000 x5.2.2.2.2.2/\okP 4000 x6)) (match aB (dec x5.2.2.2.2.2) (dec x6)==0 with|T'=>k 35 (lN l s3 x1 x2 s5 (i64.wrap ((i64.wrap (s6+1))+1)) (i64.wrap (s7+1)))|F'=>k 35 (lN l s3 x1 x2 s5 (i64.wrap (s6+1)) (i64.wrap (s7+1)))))|_,_=>N')|N'=>N')|N'=>N')|F'=>(match aH l s7 with|S' x5=>(match aH ([x1.2.2.2.2.1,x2.2.2.2.2.2]) s5 with|S' _=>(match T',([x1.2.2.2.2.1,x2.2.2.2.2.2])[(s5).toNat]? with|T',S' x6=>(og (D' (okP 4000 x5.2.2.2.2.2/\okP 4000 x6)) (match aB (dec x5.2.2.2.2.2) (dec x6)==0 with|T'=>k 35 (lN l s3 x1 x2 s5 (i64.wrap (s6+1)) (i64.wrap (s7+1)))|F'=>k 35 (lN l s3 x1 x2 s5 s6 (i64.wrap (s7+1)))))|_,_=>N')|N'=>N')|N'=>N')))|_,_=>N')|N'=>N')|N'=>N')|F'=>(match(Int.tmod s6 2)==1 with|T'=>S' [RV.d .bool T']|F'=>k 20 (tk l s3 x1 x2 (i64.wrap (s5+1))))
theorem vL(l:List BCU)(s3:Int)(x1 x2:BCU)(s5 s6 s7:Int):RN oT 35 (lN l s3 x1 x2 s5 s6 s7) (nB l s3 x1 x2 s5 s6 s7):=rnX
def Wu(l:List BCU):Prop:=∃v:Bool,(λ_:Bool=>True) v/\CQq7 65 [.d (.sl tCU) l] [.d .bool v]
instance (l:List BCU):Decidable (Wu l):=Classical.propDecidable _
def ab5(l:List BCU):Bool:=Classical.epsilon λv=>(λ_:Bool=>True) v/\CQq7 65 [.d (.sl tCU) l] [.d .bool v]
def ah8:Cn 65 [(.sl tCU)]:=cn λ(l:List BCU)=>lf (Wu l) [.d .bool (ab5 l)] λh=>(anZ h).2
section
variable {l:List BCU} (hl:l.length<=10000) (h:∀e∈l,gdN e) {i:Nat} (hi:i<l.length)
include hl h hi
theorem acu{d:Nat}(hd:d<2)(next:∃v,oT.Runs 20 (tk l (i:Int) l[i] l[i] ((d+1:Nat):Int)) [.d .bool v]):∀(j k:Nat),k+j=l.length->∀s:Int,∃v,oT.Runs 35 (lN l (i:Int) l[i] l[i] (d:Int) s (k:Int)) [.d .bool v]:=by
 have hx:=h _ (anY hi)
 have hp:∃p,okP 580 p/\[l[i].2.2.2.2.1,l[i].2.2.2.2.2][d]?=S' p:=by
  match d,hd with
  |0,_=>exact⟨_,hx.1.1.2.2.1,rfl⟩
  |1,_=>exact⟨_,hx.1.1.2.2.2,rfl⟩
 obtain⟨p,op,ep⟩:=hp;have op4:=aV (k:=4000) op (by decide) (by decide);have ep':[l[i].2.2.2.2.1,l[i].2.2.2.2.2][((d:Nat):Int).toNat]?=S' p:=by rw[show((d:Nat):Int).toNat=d by omega,ep]
 intro j;induction j with
 |zero=>
  intro k hk s;cases g:Int.tmod s 2==1
  ·obtain⟨v,n,hn⟩:=next;refine⟨v,vL _ _ _ _ _ _ _ ⟨n,?_⟩⟩;unfold nB;rw[a8 (by omega),g,aT (k:=d) (by omega)];exact hn
  ·refine⟨T',vL _ _ _ _ _ _ _ ⟨0,?_⟩⟩;unfold nB;rw[a8 (by omega),g]
 |succ j ih=>
  intro k hk s;have hkl:k<l.length:=by omega
  have hy:=h _ (anY hkl);have k1:okP 4000 l[k].2.2.2.2.1/\okP 4000 p:=⟨aV hy.1.1.2.2.1 (by decide) (by decide),op4⟩
  have k2:okP 4000 l[k].2.2.2.2.2/\okP 4000 p:=⟨aV hy.1.1.2.2.2 (by decide) (by decide),op4⟩
  have st:∃s',(∀n,nB l (i:Int) l[i] l[i] (d:Int) s (k:Int) (oT.k n)=oT.k n 35 (lN l (i:Int) l[i] l[i] (d:Int) s' ((k+1:Nat):Int))):=by
   unfold nB;rw[aO hkl,ak,anN hkl,ak,ep,ep'];dsimp only;rw[dT k1,dT k2,aT (k:=k) (by omega)];cases aB (dec l[k].2.2.2.2.1) (dec p)==0<;>cases aB (dec l[k].2.2.2.2.2) (dec p)==0<;>exact⟨_,λ_=>rfl⟩
  obtain⟨s',hs⟩:=st;obtain⟨v,n,hn⟩:=ih (k+1) (by omega) s';exact⟨v,vL _ _ _ _ _ _ _ ⟨n,(hs n).trans hn⟩⟩
theorem adB(next:∃v,oT.Runs 6 (xN l ((i+1:Nat):Int)) [.d .bool v]):∀(j d:Nat),d+j=2->∃v,oT.Runs 20 (tk l (i:Int) l[i] l[i] (d:Int)) [.d .bool v]:=by
 intro j;induction j with
 |zero=>
  intro d hd;obtain⟨v,n,hn⟩:=next;refine⟨v,BJ _ _ _ _ _ ⟨n,?_⟩⟩;unfold vG;rw[dF (show ¬(d:Int)<2 by omega),aT (by omega)];exact hn
 |succ j ih=>
  intro d hd;obtain⟨v,n,hn⟩:=acu hl h hi (by omega) (ih (d+1) (by omega)) l.length 0 (an2 _) 0;refine⟨v,BJ _ _ _ _ _ ⟨n,?_⟩⟩;unfold vG;rw[dT (show(d:Int)<2 by omega)];exact hn
omit hi in
theorem amc:∀(j i:Nat),i+j=l.length->∃v,oT.Runs 6 (xN l (i:Int)) [.d .bool v]:=by
 intro j;induction j with
 |zero=>
  intro i hi;refine⟨F',FU _ _ ⟨0,?_⟩⟩;unfold yU;rw[a8 (by omega)]
 |succ j ih=>
  intro i hi;have hil:i<l.length:=by omega
  obtain⟨v,n,hn⟩:=adB hl h hil (ih (i+1) (by omega)) 2 0 rfl;refine⟨v,FU _ _ ⟨n,?_⟩⟩;unfold yU;rw[aO hil,ak,anN hil];exact hn
end
theorem adU{l:List BCU}(hl:l.length<=10000)(h:∀e∈l,gdN e):Wu l:=by
 suffices gX:∃v:Bool,(λ_:Bool=>True) v/\∃nX,Zu l (oT.k nX)=S' [.d .bool v] from gX.elim λv h=>⟨v,h.1,bj OY (ak7 l h.2)⟩
 obtain⟨v,n,hn⟩:=amc hl h l.length 0 (an2 _);exact⟨v,trivial,n,hn⟩
end
section
open RE
def atF(x y u:Int):Rat×Rat:=(atQ x u,atQ y u)
abbrev Frm:Type:=Int×Int×Int×Int×Int×Int×List (Int×Int)
def HU(x:Frm):Prop:=u8P x.1/\u8P x.2.1/\i8P x.2.2.1/\i8P x.2.2.2.1/\i8P x.2.2.2.2.1/\i8P x.2.2.2.2.2.1/\∀c∈x.2.2.2.2.2.2,i8P c.1/\i8P c.2
theorem HL{x y u:Int}(hx:i8P x)(hy:i8P y)(hu:u8P u):Bd (atF x y u) 1:=by
 have h1:Bd (atQ x u) 1:=aaW (h:=aaN hx hu) (by decide) (by decide);have h2:Bd (atQ y u) 1:=aaW (h:=aaN hy hu) (by decide) (by decide);exact inferInstanceAs (Bd (atQ x u,atQ y u) _)
theorem Pi{c:BCU}(h:gdN c):okC 3500 c:=bi h.1.1 (by decide) (by decide)
def Oe:List En:=[enT ahJ,enK ah8,enK aj2,enK ak4,enK aaz,enK aip]
def aeF:NT:=[((28,14),{keep:=[0,2,4],hl:=1})]
def Kq:Ctx:=CX (ens Oe) aeF
def wL(l:List BCU)(s4:Int):Cfg:=⟨28,[.blk 0,.seq 31],[(0,.d (.sl tCU) l),(2,.box 0 0),(4,SI s4)],[.box 30 [.nil]],0,[]⟩
def Sw(l:List BCU)(k:KT):OLR:=match D' ((l.length:Int)>400)with|T'=>S' [RV.d (.st (.sl tCU)) ([]),RV.d arf 3]|F'=>k 14 (wL l 0)
theorem ajr(l:List BCU):RS Kq 28 [.d (.sl tCU) l] (Sw l):=rsX
def kI(l:List BCU)(s4:Int)(k:KT):OLR:=match D' (s4<(l.length:Int))with|T'=>(match aH l s4 with|S' x1=>(og (D' (okC 3500 x1)) (match !(WU (dC x1))with|T'=>S' [RV.d (.st (.sl tCU)) ([]),RV.d arf 1]|F'=>k 14 (wL l (i64.wrap (s4+1)))))|N'=>N')|F'=>(og (D' (Wu l)) (match(ab5 l)with|T'=>S' [RV.d (.st (.sl tCU)) ([]),RV.d arf 8]|F'=>(og (D' (Re l)) (og (D' (Qc (DZ l))) (og (D' (wu (FX (DZ l)))) (og (D' (I2 (Gj (FX (DZ l))))) (match D' (((MN (Gj (FX (DZ l)))).length:Int)>400)with|T'=>S' [RV.d (.st (.sl tCU)) ([]),RV.d arf 3]|F'=>S' [RV.d (.st (.sl tCU)) (MN (Gj (FX (DZ l)))),RV.d arf 0])))))))
theorem nh(l:List BCU)(s4:Int):RN Kq 14 (wL l s4) (kI l s4):=rnX
def SE(l:List BCU):Prop:=∃v:(List BCU)×Int,(λv:List BCU×Int=>v.1.length<=10000/\∀e∈v.1,gM e) v/\CQq7 28 [.d (.sl tCU) l] [.d (.st (.sl tCU)) v.1,.d arf v.2]
instance (l:List BCU):Decidable (SE l):=Classical.propDecidable _
def Gb(l:List BCU):(List BCU)×Int:=Classical.epsilon λv=>(λv:List BCU×Int=>v.1.length<=10000/\∀e∈v.1,gM e) v/\CQq7 28 [.d (.sl tCU) l] [.d (.st (.sl tCU)) v.1,.d arf v.2]
theorem Wr{l:List BCU}(h:SE l):(λv:List BCU×Int=>v.1.length<=10000/\∀e∈v.1,gM e) (Gb l):=(anZ h).1
def ahH:Cn 28 [(.sl tCU)]:=cn λ(l:List BCU)=>lf (SE l) [.d (.st (.sl tCU)) ((Gb l).1),.d arf ((Gb l).2)] λh=>(anZ h).2
theorem ae2{l:List BCU}(h:∀e∈l,gdN e)(hl:l.length<=12):∀(j i:Nat),i+j=l.length->(∀k (hk:k<l.length),k<i->gS l[k])->∃v:List BCU×Int,(v.1.length<=10000/\∀e∈v.1,gM e)/\Kq.Runs 14 (wL l (i:Int)) [.d (.st (.sl tCU)) v.1,.d arf v.2]:=by
 intro j;induction j with
 |zero=>
  intro i hi hS;have p1:=adU (by omega) h;have p2:=acp (λe he=>⟨h e he,by obtain⟨k,hk,rfl⟩:=List.mem_iff_getElem.1 he;exact hS k hk (by omega)⟩) hl;obtain⟨l2,g2⟩:=Xb p2;have p3:=afz g2 l2;obtain⟨l3,g3⟩:=VX p3;have p4:=R6 _ (anT _) l3 g3;obtain⟨l4,g4⟩:=Ls p4;have p5:=aec l4 g4;obtain⟨l5,g5⟩:=U7 p5;cases q1:ab5 l
  ·cases q2:D' (((MN (Gj (FX (DZ l)))).length:Int)>400)
   ·refine⟨(MN (Gj (FX (DZ l))),0),⟨l5,g5⟩,nh _ _ ⟨0,?_⟩⟩;unfold kI;rw[a8 (by omega),dT p1,q1,dT p2,dT p3,dT p4,dT p5,q2]
   ·refine⟨([],3),⟨by simp,λe he=>by cases he⟩,nh _ _ ⟨0,?_⟩⟩;unfold kI;rw[a8 (by omega),dT p1,q1,dT p2,dT p3,dT p4,dT p5,q2]
  ·refine⟨([],8),⟨by simp,λe he=>by cases he⟩,nh _ _ ⟨0,?_⟩⟩;unfold kI;rw[a8 (by omega),dT p1,q1]
 |succ j ih=>
  intro i hi hS;have hil:i<l.length:=by omega
  have hx:=h _ (anY hil);cases hv:WU (dC l[i])
  ·refine⟨([],1),⟨by simp,λe he=>by cases he⟩,nh _ _ ⟨0,?_⟩⟩;unfold kI;rw[aO hil,ak,anN hil];dsimp only;rw[dT (Pi hx),hv];rfl
  ·obtain⟨v,g,n,hn⟩:=ih (i+1) (by omega) λk hk hi'=>by
    by_cases e:k=i
    ·subst e;intro ha;have hv:=(an3.1 hv).1;rw[show(dC l[k]).1=F' from ha]at hv;exact(apf _).mp hv
    ·exact hS k hk (by omega)
   refine⟨v,g,nh _ _ ⟨n,?_⟩⟩;unfold kI;rw[aO hil,ak,anN hil];dsimp only;rw[dT (Pi hx),hv,aT (by omega)];exact hn
theorem adh{l:List BCU}(h:∀e∈l,gdN e)(hl:l.length<=12):SE l:=by
 suffices gX:∃v:(List BCU)×Int,(λv:List BCU×Int=>v.1.length<=10000/\∀e∈v.1,gM e) v/\∃nX,Sw l (Kq.k nX)=S' [.d (.st (.sl tCU)) v.1,.d arf v.2] from gX.elim λv h=>⟨v,h.1,bj Oe (ajr l h.2)⟩
 obtain⟨v,g,n,hn⟩:=ae2 h hl l.length 0 (an2 _) λ_ _ h=>absurd h (Nat.not_lt_zero _);refine⟨v,g,n,?_⟩;unfold Sw;rw[dF (show ¬(l.length:Int)>400 by omega)];exact hn
def TQ:List En:=[]
def agC(x y:BR)(_k:KT):OLR:=S' [RV.d tV (x,y)]
def Yi:Cn 133 [tR,tR]:=cn λ(x y:BR)=>lf True [.d tV (x,y)] λ_=>by
 refine aA TQ (agC x y) ⟨0,?_⟩;rfl
def acP:List En:=enL qf::enL Yi::TQ
def Ya(x y u:Int)(_k:KT):OLR:=og (D' (qZ (i64.wrap x) (i64.wrap ((i64.wrap (Int.tmod u 4))+1)))) (og (D' (qZ (i64.wrap y) (i64.wrap ((i64.wrap (Int.tmod u 4))+1)))) (S' [RV.d tV (hid (((hid (av (Rat.divInt (i64.wrap x) (i64.wrap ((i64.wrap (Int.tmod u 4))+1))))),(hid (av (Rat.divInt (i64.wrap y) (i64.wrap ((i64.wrap (Int.tmod u 4))+1))))))))]))
def alF:Cn 132 [(.int .i8),(.int .i8),(.int .u8)]:=cn λ(x y u:Int)=>lf (i8P x/\i8P y/\u8P u) [.d tV (enc (atF x y u))] λh=>by
 refine aA acP (Ya x y u) ⟨0,?_⟩;obtain⟨hx,hy,hu⟩:=h;obtain⟨x1,x2⟩:=hx;obtain⟨y1,y2⟩:=hy;obtain⟨u1,u2⟩:=hu;have e4:Int.tmod u 4=u%4:=apu u1;unfold Ya;rw[e4,aM (x:=x) (by omega) (by omega),aM (x:=y) (by omega) (by omega),aM (x:=u%4) (by omega) (by omega),aM (x:=u%4+1) (by omega) (by omega),dT (show qZ x (u%4+1) from⟨by unfold bH;omega,by unfold bH;omega,by omega⟩),dT (show qZ y (u%4+1) from⟨by unfold bH;omega,by unfold bH;omega,by omega⟩)];simp only[aR];rfl
def Pz:List En:=[enL uz]
def adx:NT:=[((77,8),{keep:=[0,3,4],own:=[(3,48,tCU)],hl:=1})]
def JT:Ctx:=CX (ens Pz) adx
def yJ(l:List BV)(s4:Int)(r0:List BCU):Cfg:=⟨77,[.blk 0,.seq 25],[(0,.d (.sl tV) l),(3,.own 0),(4,SI s4)],[.row 48 tCU r0],0,[]⟩
def abu(l:List BV)(k:KT):OLR:=k 8 (yJ l 0 ([]))
theorem ak0(l:List BV):RS JT 77 [.d (.sl tV) l] (abu l):=rsX
def ti(l:List BV)(s4:Int)(r0:List BCU)(k:KT):OLR:=match D' (s4<(l.length:Int))with|T'=>(match aH l s4 with|S' x1=>(match D' ((l.length:Int)=(0:Int))with|T'=>N'|F'=>(match aH l (Int.tmod (i64.wrap (s4+1)) (l.length:Int))with|S' x2=>(og (D' (ok (Rat×Rat) 100 x1/\ok (Rat×Rat) 100 x2)) (match(wy (dec x1) (dec x2))==0 with|T'=>(og (D' ((r0.length+([hid (yx (dec x1) (dec x2))]).length)*1040<=140737488355328/\r0.length+([hid (yx (dec x1) (dec x2))]).length<=140737488355328)) (k 8 (yJ l (i64.wrap (s4+1)) (r0++([hid (yx (dec x1) (dec x2))])))))|F'=>k 8 (yJ l (i64.wrap (s4+1)) r0)))|N'=>N'))|N'=>N')|F'=>S' [RV.new 48 tCU r0]
theorem zX(l:List BV)(s4:Int)(r0:List BCU):RN JT 8 (yJ l s4 r0) (ti l s4 r0):=rnX
def MP(l:List BV):Prop:=∃v:(List BCU),(λv:List BCU=>v.length<=l.length/\∀e∈v,gdN e) v/\CQq7 77 [.d (.sl tV) l] [.d (.sl tCU) v]
instance (l:List BV):Decidable (MP l):=Classical.propDecidable _
def Xu(l:List BV):(List BCU):=Classical.epsilon λv=>(λv:List BCU=>v.length<=l.length/\∀e∈v,gdN e) v/\CQq7 77 [.d (.sl tV) l] [.d (.sl tCU) v]
theorem KH{l:List BV}(h:MP l):(λv:List BCU=>v.length<=l.length/\∀e∈v,gdN e) (Xu l):=(anZ h).1
def ajq:Cn 77 [(.sl tV)]:=cn λ(l:List BV)=>lf (MP l) [.d (.sl tCU) (Xu l)] λh=>(anZ h).2
theorem ac7{l:List BV}(h:∀v∈l,ok (Rat×Rat) 1 v)(hl:l.length<=12):∀(j i:Nat),i+j=l.length->∀r:List BCU,(∀e∈r,gdN e)->r.length<=i->∃v,(v.length<=l.length/\∀e∈v,gdN e)/\JT.Runs 8 (yJ l (i:Int) r) [.new 48 tCU v]:=by
 intro j;induction j with
 |zero=>
  intro i hi r hr lr;refine⟨r,⟨by omega,hr⟩,zX _ _ _ ⟨0,?_⟩⟩;unfold ti;rw[a8 (by omega)]
 |succ j ih=>
  intro i hi r hr lr;have hil:i<l.length:=by omega
  have e1:i64.wrap ((i:Int)+1)=((i+1:Nat):Int):=aT (by omega);obtain⟨q,hq,eq⟩:∃q,q<l.length/\Int.tmod ((i+1:Nat):Int) (l.length:Int)=(q:Int):=⟨(i+1)%l.length,aqD _ (by omega),by rw[apu (by omega)];rfl⟩
  obtain⟨a,ea,ba⟩:=aL (h _ (anY hil));obtain⟨b,eb,bb⟩:=aL (h _ (anY hq))
  have k1:ok (Rat×Rat) 100 l[i]/\ok (Rat×Rat) 100 l[q]:=by
   rw[ea,eb];exact⟨anP (okd (anU rfl) (by decide)),anP (okd (anU rfl) (by decide))⟩
  have es:wy (dec l[i]) (dec l[q])=wy a b:=by rw[ea,eb,aq,aq]
  have eB:yx (dec l[i]) (dec l[q])=yx a b:=by rw[ea,eb,aq,aq]
  cases hz:wr a b
  ·have hs:(wy a b==0)=true:=by unfold wy;rw[hz];rfl
   obtain⟨v,g,n,hn⟩:=ih (i+1) (by omega) (r++[yx a b]) (λe he=>(aod.1 he).elim (hr e) λg=>by rw[aox.1 g];exact adr hz) (by simp;omega);refine⟨v,g,zX _ _ _ ⟨n,?_⟩⟩;unfold ti;rw[aO hil,ak,anN hil,e1,eq,ak,anN hq,dF (show ¬(l.length:Int)=0 by omega)];dsimp only;rw[dT k1,es,hs,aR,eB,dT (by simp;omega)];exact hn
  ·have hs:(wy a b==0)=false:=by unfold wy;rw[hz];rfl
   obtain⟨v,g,n,hn⟩:=ih (i+1) (by omega) r hr (by omega);refine⟨v,g,zX _ _ _ ⟨n,?_⟩⟩;unfold ti;rw[aO hil,ak,anN hil,e1,eq,ak,anN hq,dF (show ¬(l.length:Int)=0 by omega)];dsimp only;rw[dT k1,es,hs];exact hn
theorem M6{l:List BV}(h:∀v∈l,ok (Rat×Rat) 1 v)(hl:l.length<=12):MP l:=by
 suffices gX:∃v:(List BCU),(λv:List BCU=>v.length<=l.length/\∀e∈v,gdN e) v/\∃nX,abu l (JT.k nX)=S' [.new 48 tCU v] from gX.elim λv h=>⟨v,h.1,Con.new_d (bj Pz (ak0 l h.2))⟩
 obtain⟨v,g,n,hn⟩:=ac7 h hl l.length 0 (an2 _) [] (λe he=>by cases he) (by simp);exact⟨v,g,n,hn⟩
def UJ:List En:=[enL alF,enL Yi,enT mf,enL ah7,enK ajq]
def ab6:NT:=[((64,37),{keep:=[1,5,6],own:=[(5,54,tV)],hl:=4,pd:=3,er:=[1,2]})]
def Jm:Ctx:=CX (ens UJ) ab6
def w9(x:Frm)(s6:Int)(r3:List BV):Cfg:=⟨64,[.blk 1,.seq 48],[(1,.box 0 0),(5,.own 3),(6,SI s6)],[.box 110 (Ty.split (y8Y) x),.gone,.gone,.row 54 tV r3],0,[]⟩
def T1(x:Frm)(k:KT):OLR:=og (D' (i8P x.2.2.1/\i8P x.2.2.2.1/\u8P x.2.1)) (og (D' (i8P x.2.2.2.2.1/\i8P x.2.2.2.2.2.1/\u8P x.2.1)) (match(Int.tmod x.1 3)==0 with|T'=>(og (D' (MP ([hid (enc (atF x.2.2.1 x.2.2.2.1 x.2.1)),hid ((((hid (enc (atF x.2.2.2.2.1 x.2.2.2.2.2.1 x.2.1))).1),((hid (enc (atF x.2.2.1 x.2.2.2.1 x.2.1))).2))),hid (enc (atF x.2.2.2.2.1 x.2.2.2.2.2.1 x.2.1)),hid ((((hid (enc (atF x.2.2.1 x.2.2.2.1 x.2.1))).1),((hid (enc (atF x.2.2.2.2.1 x.2.2.2.2.2.1 x.2.1))).2)))]))) (S' [RV.d (.sl tCU) (Xu ([hid (enc (atF x.2.2.1 x.2.2.2.1 x.2.1)),hid ((((hid (enc (atF x.2.2.2.2.1 x.2.2.2.2.2.1 x.2.1))).1),((hid (enc (atF x.2.2.1 x.2.2.2.1 x.2.1))).2))),hid (enc (atF x.2.2.2.2.1 x.2.2.2.2.2.1 x.2.1)),hid ((((hid (enc (atF x.2.2.1 x.2.2.2.1 x.2.1))).1),((hid (enc (atF x.2.2.2.2.1 x.2.2.2.2.2.1 x.2.1))).2)))]))]))|F'=>(match(Int.tmod x.1 3)==1 with|T'=>(og (o1 ((hid (enc (atF x.2.2.2.2.1 x.2.2.2.2.2.1 x.2.1))).1)) (match D' ((aD (ag ((hid (enc (atF x.2.2.2.2.1 x.2.2.2.2.2.1 x.2.1))).1)) 0)<=0)with|T'=>S' [RV.new 48 tCU []]|F'=>(og (D' (bK ((hid (enc (atF x.2.2.1 x.2.2.2.1 x.2.1))).1,((hid (enc (atF x.2.2.1 x.2.2.2.1 x.2.1))).2,(hid (enc (atF x.2.2.2.2.1 x.2.2.2.2.2.1 x.2.1))).1)))) (S' [RV.d (.sl tCU) (D7 ((hid (enc (atF x.2.2.1 x.2.2.2.1 x.2.1))).1,((hid (enc (atF x.2.2.1 x.2.2.2.1 x.2.1))).2,(hid (enc (atF x.2.2.2.2.1 x.2.2.2.2.2.1 x.2.1))).1)))]))))|F'=>k 37 (w9 x 0 ([])))))
theorem alo(x:Frm):RS Jm 64 [.d (y8Y) x] (T1 x):=rsX
def vX(x:Frm)(s6:Int)(r3:List BV)(k:KT):OLR:=match D' (s6<(x.2.2.2.2.2.2.length:Int))with|T'=>(match aH x.2.2.2.2.2.2 s6 with|S' x1=>(match aH x.2.2.2.2.2.2 s6 with|S' x2=>(og (D' (i8P x1.1/\i8P x2.2/\u8P x.2.1)) (og (D' ((r3.length+([hid (enc (atF x1.1 x2.2 x.2.1))]).length)*128<=140737488355328/\r3.length+([hid (enc (atF x1.1 x2.2 x.2.1))]).length<=140737488355328)) (k 37 (w9 x (i64.wrap (s6+1)) (r3++([hid (enc (atF x1.1 x2.2 x.2.1))]))))))|N'=>N')|N'=>N')|F'=>(og (D' (MP r3)) (S' [RV.d (.sl tCU) (Xu r3)]))
theorem AA(x:Frm)(s6:Int)(r3:List BV):RN Jm 37 (w9 x s6 r3) (vX x s6 r3):=rnX
def RA(x:Frm):Prop:=∃v:(List BCU),(λv:List BCU=>v.length<=12/\∀e∈v,gdN e) v/\CQq7 64 [.d (y8Y) x] [.d (.sl tCU) v]
instance (x:Frm):Decidable (RA x):=Classical.propDecidable _
def LV(x:Frm):(List BCU):=Classical.epsilon λv=>(λv:List BCU=>v.length<=12/\∀e∈v,gdN e) v/\CQq7 64 [.d (y8Y) x] [.d (.sl tCU) v]
theorem U6{x:Frm}(h:RA x):(λv:List BCU=>v.length<=12/\∀e∈v,gdN e) (LV x):=(anZ h).1
def akx:Cn 64 [(y8Y)]:=cn λ(x:Frm)=>lf (RA x) [.d (.sl tCU) (LV x)] λh=>(anZ h).2
theorem acr{x:Frm}(h:HU x)(hl:x.2.2.2.2.2.2.length<=12):∀(j i:Nat),i+j=x.2.2.2.2.2.2.length->∀r:List BV,(∀v∈r,ok (Rat×Rat) 1 v)->r.length=i->∃v,(v.length<=12/\∀e∈v,gdN e)/\Jm.Runs 37 (w9 x (i:Int) r) [.d (.sl tCU) v]:=by
 obtain⟨_,h2,_,_,_,_,h7⟩:=h;intro j;induction j with
 |zero=>
  intro i hi r hr lr;have p:=M6 hr (by omega);obtain⟨l1,g1⟩:=KH p;refine⟨_,⟨by omega,g1⟩,AA _ _ _ ⟨0,?_⟩⟩;unfold vX;rw[a8 (by omega),dT p]
 |succ j ih=>
  intro i hi r hr lr;have hil:i<x.2.2.2.2.2.2.length:=by omega
  obtain⟨c1,c2⟩:=h7 _ (anY hil);have hb:=HL c1 c2 h2;obtain⟨v,g,n,hn⟩:=ih (i+1) (by omega) (r++[enc (atF x.2.2.2.2.2.2[i].1 x.2.2.2.2.2.2[i].2 x.2.1)]) (λe he=>(aod.1 he).elim (hr e) λg=>by rw[aox.1 g];exact anP (okd (anT _) (by decide))) (by simp;omega);refine⟨v,g,AA _ _ _ ⟨n,?_⟩⟩;unfold vX;rw[aO hil,ak,anN hil];dsimp only;rw[dT (show i8P x.2.2.2.2.2.2[i].1/\i8P x.2.2.2.2.2.2[i].2/\u8P x.2.1 from⟨c1,c2,h2⟩),aR,dT (by simp;omega),aT (by omega)];exact hn
theorem adp{x:Frm}(h:HU x)(hl:x.2.2.2.2.2.2.length<=12):RA x:=by
 suffices gX:∃v:List BCU,(v.length<=12/\∀e∈v,gdN e)/\∃r,(r=.new 48 tCU v\/r=.d (.sl tCU) v)/\∃n,T1 x (Jm.k n)=S' [r] from by
  obtain⟨v,h1,r,hr,n,hn⟩:=gX;exact⟨v,h1,Con.dd (bj UJ (alo x ⟨n,hn⟩)) hr⟩
 have h0:=h;obtain⟨h1,h2,h3,h4,h5,h6,_⟩:=h;have bp:=HL h3 h4 h2;have bq:=HL h5 h6 h2;have k1:i8P x.2.2.1/\i8P x.2.2.2.1/\u8P x.2.1:=⟨h3,h4,h2⟩
 have k2:i8P x.2.2.2.2.1/\i8P x.2.2.2.2.2.1/\u8P x.2.1:=⟨h5,h6,h2⟩
 unfold T1;simp only[aR,dT k1,dT k2];generalize atF x.2.2.1 x.2.2.2.1 x.2.1=p at*
 generalize atF x.2.2.2.2.1 x.2.2.2.2.2.1 x.2.1=q at*
 have p1:Bd p.1 1:=inferInstance;have p2:Bd p.2 1:=inferInstance;have q1:Bd q.1 1:=inferInstance;have q2:Bd q.2 1:=inferInstance;have ep:enc p=(av p.1,av p.2):=rfl;have eq:enc q=(av q.1,av q.2):=rfl;cases Int.tmod x.1 3==0
 ·cases Int.tmod x.1 3==1
  ·obtain⟨v,g,n,hn⟩:=acr h0 hl x.2.2.2.2.2.2.length 0 (an2 _) [] (λe he=>by cases he) rfl;exact⟨v,g,_,.inr rfl,n,hn⟩
  ·have oq:okR (enc q:BV).1:=anP (zG (q:=q.1) (j:=1) (by decide));rw[show o1 (enc q:BV).1=T' from dT oq];cases hd:D' (aD (ag (enc q:BV).1) 0<=0)
   ·have hq:0<q.1:=by
     have e:ag (enc q:BV).1=q.1:=eP _;rw[e]at hd;have g:D' (aD q.1 0>0)=true:=dT (by have:=aoF hd;omega);rw[au]at g;exact anP g
    have i1:BdC ((p.1,p.2,q.1):Ln):=⟨p1.mono (by decide),p2.mono (by decide),q1.mono (by decide)⟩
    have ec:(((enc p:BV).1,((enc p:BV).2,(enc q:BV).1)):BO3)=enc ((p.1,p.2,q.1):Ln):=rfl;rw[ec,dT (jM (c:=(p.1,p.2,q.1)) hq)];refine⟨_,⟨?_,DR (c:=(p.1,p.2,q.1)) hq⟩,_,.inr rfl,0,rfl⟩;unfold D7;simp
   ·exact⟨[],⟨by simp,λe he=>by cases he⟩,_,.inl rfl,0,rfl⟩
 ·have hb:∀v∈[(enc p:BV),((enc q:BV).1,(enc p:BV).2),enc q,((enc p:BV).1,(enc q:BV).2)],ok (Rat×Rat) 1 v:=λv hv=>by
   have e1:(((enc q:BV).1,(enc p:BV).2):BV)=enc ((q.1,p.2):Rat×Rat):=rfl;have e2:(((enc p:BV).1,(enc q:BV).2):BV)=enc ((p.1,q.2):Rat×Rat):=rfl;rw[e1,e2]at hv;simp only[an6,apt,aqK]at hv;rcases hv with e|e|e|e<;>rw[e]<;>exact anP (okd (anT _) (by decide))
  have hp:=M6 hb (by simp);obtain⟨l1,g1⟩:=KH hp;rw[dT hp];exact⟨_,⟨an0 l1 (by simp),g1⟩,_,.inr rfl,0,rfl⟩
def Ps:List En:=[enL akx]
def aen:NT:=[((27,8),{keep:=[0,1,6,7],own:=[(6,48,tCU)],hl:=1})]
def JI:Ctx:=CX (ens Ps) aen
def C2(s:List Frm)(n s7:Int)(r0:List BCU):Cfg:=⟨27,[.blk 0,.seq 27],[(0,.d (.sl (y8Y)) s),(1,SI n),(6,.own 0),(7,SI s7)],[.row 48 tCU r0],0,[]⟩
def Y0(s:List Frm)(n:Int)(k:KT):OLR:=k 8 (C2 s n 0 ([]))
theorem ajC(s:List Frm)(n:Int):RS JI 27 [.d (.sl (y8Y)) s,SI n] (Y0 s n):=rsX
def p6(s:List Frm)(n s7:Int)(r0:List BCU)(k:KT):OLR:=match D' (s7<(s.length:Int))with|T'=>(match D' ((s.length:Int)>n)with|T'=>S' [RV.d (.sl tCU) ([]),RV.d .bool F']|F'=>(match aH s s7 with|S' x1=>(match D' ((x1.2.2.2.2.2.2.length:Int)>n)with|T'=>S' [RV.d (.sl tCU) ([]),RV.d .bool F']|F'=>(match aH s s7 with|S' x2=>(og (D' (RA x2)) (og (D' ((r0.length+(LV x2).length)*1040<=140737488355328/\r0.length+(LV x2).length<=140737488355328)) (k 8 (C2 s n (i64.wrap (s7+1)) (r0++(LV x2))))))|N'=>N'))|N'=>N'))|F'=>S' [RV.d (.sl tCU) r0,RV.d .bool (D' ((r0.length:Int)<=n))]
theorem th(s:List Frm)(n s7:Int)(r0:List BCU):RN JI 8 (C2 s n s7 r0) (p6 s n s7 r0):=rnX
def Rh(s:List Frm)(n:Int):Prop:=∃v:(List BCU)×Bool,(λv:List BCU×Bool=>(v.2=T'->(v.1.length:Int)<=n)/\∀e∈v.1,gdN e) v/\CQq7 27 [.d (.sl (y8Y)) s,.d arf n] [.d (.sl tCU) v.1,.d .bool v.2]
instance (s:List Frm) (n:Int):Decidable (Rh s n):=Classical.propDecidable _
def xM(s:List Frm)(n:Int):(List BCU)×Bool:=Classical.epsilon λv=>(λv:List BCU×Bool=>(v.2=T'->(v.1.length:Int)<=n)/\∀e∈v.1,gdN e) v/\CQq7 27 [.d (.sl (y8Y)) s,.d arf n] [.d (.sl tCU) v.1,.d .bool v.2]
theorem Wf{s:List Frm}{n:Int}(h:Rh s n):(λv:List BCU×Bool=>(v.2=T'->(v.1.length:Int)<=n)/\∀e∈v.1,gdN e) (xM s n):=(anZ h).1
def agR:Cn 27 [(.sl (y8Y)),arf]:=cn λ(s:List Frm) (n:Int)=>lf (Rh s n) [.d (.sl tCU) ((xM s n).1),.d .bool ((xM s n).2)] λh=>(anZ h).2
theorem adA{s:List Frm}{n:Int}(h:∀x∈s,HU x)(hn:n<=12):∀(j i:Nat),i+j=s.length->∀r:List BCU,(∀e∈r,gdN e)->r.length<=12*i->(i=0\/(s.length:Int)<=n)->∃v:List BCU×Bool,((v.2=T'->(v.1.length:Int)<=n)/\∀e∈v.1,gdN e)/\JI.Runs 8 (C2 s n (i:Int) r) [.d (.sl tCU) v.1,.d .bool v.2]:=by
 intro j;induction j with
 |zero=>
  intro i hi r hr lr _;refine⟨(r,D' ((r.length:Int)<=n)),⟨λg=>anP g,hr⟩,th _ _ _ _ ⟨0,?_⟩⟩;unfold p6;rw[a8 (by omega)]
 |succ j ih=>
  intro i hi r hr lr _;have hil:i<s.length:=by omega
  have hx:=h _ (anY hil);have no:∀{q:Bool},q=F'->((([],q):List BCU×Bool).2=T'->((([],q):List BCU×Bool).1.length:Int)<=n)/\∀e∈(([],q):List BCU×Bool).1,gdN e:=λhq=>⟨(λg=>by rw[hq]at g;cases g),(λe he=>by cases he)⟩
  by_cases h1:(s.length:Int)>n
  ·refine⟨([],F'),no rfl,th _ _ _ _ ⟨0,?_⟩⟩;unfold p6;rw[aO hil,dT h1]
  ·by_cases h2:(s[i].2.2.2.2.2.2.length:Int)>n
   ·refine⟨([],F'),no rfl,th _ _ _ _ ⟨0,?_⟩⟩;unfold p6;rw[aO hil,dF h1,ak,anN hil];dsimp only;rw[dT h2]
   ·have p:=adp hx (by omega);obtain⟨l1,g1⟩:=U6 p;obtain⟨v,g,m,hm⟩:=ih (i+1) (by omega) (r++LV s[i]) (λe he=>(aod.1 he).elim (hr e) (g1 e)) (by simp;omega) (.inr (by omega));refine⟨v,g,th _ _ _ _ ⟨m,?_⟩⟩;unfold p6;rw[aO hil,dF h1,ak,anN hil];dsimp only;rw[dF h2];dsimp only;rw[dT p,dT (by omega),aT (by omega)];exact hm
theorem acM{s:List Frm}{n:Int}(h:∀x∈s,HU x)(hn:n<=12):Rh s n:=by
 suffices gX:∃v:(List BCU)×Bool,(λv:List BCU×Bool=>(v.2=T'->(v.1.length:Int)<=n)/\∀e∈v.1,gdN e) v/\∃nX,Y0 s n (JI.k nX)=S' [.d (.sl tCU) v.1,.d .bool v.2] from gX.elim λv h=>⟨v,h.1,bj Ps (ajC s n h.2)⟩
 obtain⟨v,g,m,hm⟩:=adA h hn s.length 0 (an2 _) [] (λe he=>by cases he) (by simp) (.inl rfl);exact⟨v,g,m,hm⟩
def Oy:List En:=[enK agR,enK ahH]
def Rl(s:List Frm)(n:Int)(_k:KT):OLR:=og (D' (Rh s n)) (match !((xM s n).2)with|T'=>S' [RV.d (.st (.sl tCU)) ([]),RV.d .bool F']|F'=>(og (D' (SE ((xM s n).1))) (match((Gb ((xM s n).1)).2)==0 with|T'=>dup (.b .l .l) (S' [RV.d (.st (.sl tCU)) ((Gb ((xM s n).1)).1),RV.d .bool (D' ((((Gb ((xM s n).1)).1).length:Int)<=n))])|F'=>dup (.b .l .l) (S' [RV.d (.st (.sl tCU)) ((Gb ((xM s n).1)).1),RV.d .bool F']))))
def LW(s:List Frm)(n:Int):Prop:=∃v:(List BCU)×Bool,(λv:List BCU×Bool=>v.1.length<=10000/\∀e∈v.1,gM e) v/\CQq7 6 [.d (.sl (y8Y)) s,.d arf n] [.d (.st (.sl tCU)) v.1,.d .bool v.2]
instance (s:List Frm) (n:Int):Decidable (LW s n):=Classical.propDecidable _
def gE(s:List Frm)(n:Int):(List BCU)×Bool:=Classical.epsilon λv=>(λv:List BCU×Bool=>v.1.length<=10000/\∀e∈v.1,gM e) v/\CQq7 6 [.d (.sl (y8Y)) s,.d arf n] [.d (.st (.sl tCU)) v.1,.d .bool v.2]
theorem VI{s:List Frm}{n:Int}(h:LW s n):(λv:List BCU×Bool=>v.1.length<=10000/\∀e∈v.1,gM e) (gE s n):=(anZ h).1
def ahp:Cn 6 [(.sl (y8Y)),arf]:=cn λ(s:List Frm) (n:Int)=>lf (LW s n) [.d (.st (.sl tCU)) ((gE s n).1),.d .bool ((gE s n).2)] λh=>(anZ h).2
theorem agh{s:List Frm}{n:Int}(h:∀x∈s,HU x)(hn:n<=12):LW s n:=by
 suffices gX:∃v:(List BCU)×Bool,(λv:List BCU×Bool=>v.1.length<=10000/\∀e∈v.1,gM e) v/\Rl s n ((CX (ens Oy) []).k 0)=S' [.d (.st (.sl tCU)) v.1,.d .bool v.2] from gX.elim λv h=>⟨v,h.1,aA Oy (Rl s n) ⟨0,h.2⟩⟩
 have p:=acM h hn;obtain⟨l1,g1⟩:=Wf p;unfold Rl;rw[dT p];simp only[dg];cases hb:(xM s n).2
 ·exact⟨([],F'),⟨by simp,λe he=>by cases he⟩,rfl⟩
 ·have:=l1 hb;have p2:=adh g1 (by omega);have g2:=Wr p2;rw[dT p2];cases(Gb (xM s n).1).2==0
  ·exact⟨(_,_),g2,rfl⟩
  ·exact⟨(_,_),g2,rfl⟩
end
end Go.Proofs.YtoimchcjhdcdmaaGreat
end
