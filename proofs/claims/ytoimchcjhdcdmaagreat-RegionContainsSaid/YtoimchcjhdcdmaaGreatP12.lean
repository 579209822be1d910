/- The reference's integers: parts as a whole, DivMod, GCD. -/
import Derived.Test.YtoimchcjhdcdmaaGreatP11
import Derived.Test.YtoimchcjhdcdmaaGreatP9
import Derived.Test.YtoimchcjhdcdmaaGreatP10
noncomputable section
namespace Go.Proofs.YtoimchcjhdcdmaaGreat
open Go.RowKit Go.IntKind
open Bool renaming true->T',false->F'
open Option renaming some->S',none->N'
open Decidable renaming decide->D'
theorem an3:type_of% @Bool.and_eq_true_iff:=@Bool.and_eq_true_iff
theorem aom:type_of% @beq_eq_false_iff_ne:=@beq_eq_false_iff_ne
theorem apj:type_of% @decide_eq_true_eq:=@decide_eq_true_eq
theorem arb:type_of% @Prod.ext:=@Prod.ext
def aex:Cn 198 [ard,ard]:=cn λ(a b:List Int)=>lf (Gx a b) [.d ard (ae (val a/val b).toNat),.d ard (ae (val a%val b).toNat)] λh=>by
 refine bj Sz (show jU.Res _ _ _ from ?_);obtain⟨⟨ha,sa⟩,⟨hb,sb⟩,hne⟩:=h;have a0:=aP ha.1;have b0:0<val b:=eD hb hne;have hlen:=aoy.2 hne;have la:=bU ha.1;have lb:=bU hb.1;by_cases hsm:a.length<=2/\b.length<=2
 ·have p2:pw 2=1000000000000000000:=by decide
  have m1:=du hsm.1;have m2:=du hsm.2;have q0:0<=val a/val b:=aoO a0 (by omega);have q1:val a/val b<=val a:=apI _ a0;have r0:=aoZ (val a) (show val b≠0 by omega);have r1:=aoC (val a) b0;refine ON _ _ ⟨0,?_⟩;unfold IF;rw[dT (show(a.length:Int)<=2 by omega),dT (show(b.length:Int)<=2 by omega),dT (show sQ a from⟨⟨ha.1,by omega⟩,by omega⟩),dT (show sQ b from⟨⟨hb.1,by omega⟩,by omega⟩),dF (show ¬val b=0 by omega),gJ a0,ju a0,bI (x:=val a/val b) q0 (by omega),dT (show iH (val a/val b) from⟨q0,by omega⟩),dT (show iH (val a%val b) from⟨r0,by omega⟩)]
 ·obtain⟨n,hn⟩:∃n,b.length=n+1:=⟨b.length-1,by omega⟩
  have hbn:n<b.length:=by omega
  have ht:=vO hb hn;have hbl:=hb.1.get hbn;obtain⟨hs0,hs1,hs2⟩:=agq (x:=b[n]) ht hbl.2;have hVp:0<val b*qsc b[n]:=Int.mul_pos b0 (by omega)
  have hVl:(ae (val b*qsc b[n]).toNat).length<=1000001:=by
   refine cq (by omega) ?_;have h1:val b*qsc b[n]<=val b*999999999:=anV (by omega) (by omega);have h2:=du sb;rw[bW 1000000];omega
  have hUl:(ae (val a*qsc b[n]).toNat).length<=a.length+1:=by
   refine cq (aoL a0 (by omega)) ?_;have h1:val a*qsc b[n]<=val a*999999999:=anV (by omega) (by omega);rw[bW];omega
  obtain⟨m,x2,hm,hg,hx1,hx2,hxp⟩:=IK hVp
  obtain⟨q,hq⟩:=HT a b b[n] x2 (val b*qsc b[n]) rfl ⟨hs1,hs2⟩ hVp hUl ⟨ha.1,sa⟩ hVl m hm ⟨hx1,hx2⟩ hxp (ae (val a*qsc b[n]).toNat).length 0 (List.replicate (a.length+1) 0) (anT _) (by omega) hVp (by simp) (Lim.rep _) (λk hk _=>by simp) (λk hk _=>by simp) (by
   rw[ao1,bS (aoL a0 (by omega)),gv];omega)
  refine ON _ _ ⟨q,?_⟩;have hw1:i64.wrap ((b.length:Int)-1)=(n:Int):=by rw[aM (by omega) (by omega)];omega
  have hx1w:¬u64.wrap (u64.wrap b[n]+1)=0:=by rw[bI (x:=b[n]) (by omega) (by omega),bI (by omega) (by omega)];omega
  have hbyb:byP b (qsc b[n]):=⟨⟨hb.1,by omega⟩,by omega,hs2⟩
  have hbya:byP a (qsc b[n]):=⟨⟨ha.1,by omega⟩,by omega,hs2⟩
  have hw2:i64.wrap (((m+1:Nat):Int)-1)=(m:Int):=by rw[aM (by omega) (by omega)];omega
  have hsub:(match aH b (i64.wrap ((b.length:Int)-1))with|S' x1=>(match D' (u64.wrap ((u64.wrap x1)+1)=(0:Int))with|T'=>N'|F'=>(match D' (byP b (qsc x1))with|T'=>(match aH (ae (val b*(qsc x1)).toNat) (i64.wrap (((ae (val b*(qsc x1)).toNat).length:Int)-1))with|S' x2=>(match D' ((0:Int)<=i64.wrap ((a.length:Int)+1)/\(i64.wrap ((a.length:Int)+1))*((4:Nat):Int)<=140737488355328/\i64.wrap ((a.length:Int)+1)<=140737488355328)with|T'=>(match D' (byP a (qsc x1))with|T'=>(match D' ((0:Int)<=0/\0<=((ae (val a*(qsc x1)).toNat).length:Int)/\((ae (val a*(qsc x1)).toNat).length:Int)<=((List.replicate (i64.wrap ((a.length:Int)+1)).toNat (0:Int)).length:Int))with|T'=>(jU.k q) 30 (kL a b x1 x2 ([]) (i64.wrap (((ae (val a*(qsc x1)).toNat).length:Int)-1)) (List.replicate (i64.wrap ((a.length:Int)+1)).toNat (0:Int)))|F'=>N')|F'=>N')|F'=>N')|N'=>N')|F'=>N'))|N'=>N')=S' [.d ard (ae (val a/val b).toNat),.d ard (ae (val a%val b).toNat)]:=by
   rw[hw1,ak,anN hbn];dsimp only;rw[dF hx1w,dT hbyb,hm,hw2,ak,hg];dsimp only;rw[aT (k:=a.length) (by omega),t9 (n:=a.length+1) (by omega),dT hbya,aE,apX,dT (show(0:Int)<=0/\(0:Int)<=((ae (val a*qsc b[n]).toNat).length:Int)/\((ae (val a*qsc b[n]).toNat).length:Int)<=((a.length+1:Nat):Int) from⟨by omega,by omega,by omega⟩),aM (x:=((ae (val a*qsc b[n]).toNat).length:Int)-1) (by omega) (by omega)];exact hq
  unfold IF;by_cases h1:a.length<=2
  ·rw[dT (show(a.length:Int)<=2 by omega),dF (show ¬(b.length:Int)<=2 by omega)];exact hsub
  ·rw[dF (show ¬(a.length:Int)<=2 by omega)];exact hsub
def IQ:List En:=[enK z0,enK Cu,enF Di,enF yH,enK Zq,enK IY,enK aex,enK Cy,enK acv,enK IU,enK CT]
def Oz(x y:Bool×List Int)(_k:KT):OLR:=let y1:=ae (val x.2/val y.2).toNat;let y2:=ae (val x.2%val y.2).toNat;let y3:=ah (bZ (!(x.1==y.1)) (val y1));let y4:=ah (bZ x.1 (val y2));let y5:OLR:=match D' ((y2.length:Int)>0)with|T'=>(match !(x.1==y.1)with|T'=>(og (D' (bH (1:Int))) (og (D' (okI y3/\okI (ah (1:Int)))) (og (D' (okI y4/\okI y)) (dup (.b .l .l) (S' [RV.d y3Y (ah (ab y3-ab (ah (1:Int)))),RV.d y3Y (ah (ab y4+ab y)),RV.d arf 0])))))|F'=>dup (.b .l .l) (S' [RV.d y3Y y3,RV.d y3Y y4,RV.d arf 0]))|F'=>dup (.b .l .l) (S' [RV.d y3Y y3,RV.d y3Y y4,RV.d arf 0]);let y6:OLR:=match D' (aQ y2)with|T'=>y5|F'=>N';match(y.2.length:Int)==0 with|T'=>S' [RV.d y3Y (F',[]),RV.d y3Y (F',[]),RV.d arf 6]|F'=>(og (D' (Gx x.2 y.2)) (cX (og (D' (aQ y1)) (cX (og (D' (aQ y2)) (dup (.b .l .l) y5)) (dup (.b (.b .l .l) (.b .l .l)) y6))) (dup (.b .l .l) (cX (og (D' (aQ y1)) (dup (.b .l .l) y6)) (og (D' (aQ y1)) y6)))))
def Xe:NT:=[((118,6),{keep:=[4,5,6],pure_:=[(5,.int .u32),(6,.int .u32)],hl:=3}),((118,29),{keep:=[4,9,10],hl:=3})]
def u7:Ctx:=CX (ens IQ) Xe
def ud(x y:Bool×List Int)(s5 s6:List Int):Cfg:=⟨118,[.blk 0,.seq 17],[(4,.box 2 0),(5,.d ard s5),(6,.d ard s6)],[.box 36 [SB x.1,.d ard x.2],.box 36 [SB y.1,.d ard y.2],.box 36 [SB F',.nil]],0,[]⟩
def pW(x y:Bool×List Int)(s9 s10:Int):Cfg:=⟨118,[.blk 2,.seq 38],[(4,.box 2 0),(9,.d (.int .u64) s9),(10,.d (.int .u64) s10)],[.box 36 [SB x.1,.d ard x.2],.box 36 [SB y.1,.d ard y.2],.box 36 [SB F',.nil]],0,[]⟩
def agl(x y:Bool×List Int)(k:KT):OLR:=k 6 (ud x y x.2 y.2)
theorem afi(x y:Bool×List Int):RS u7 118 [.d y3Y x,.d y3Y y] (agl x y):=rsX
def qK(x y:Bool×List Int)(s5 s6:List Int)(k:KT):OLR:=match D' ((s6.length:Int)>0)with|T'=>(match D' ((s5.length:Int)>2)with|T'=>(og (D' (Gx s5 s6)) (k 6 (ud x y s6 (ae (val s5%val s6).toNat))))|F'=>(match D' ((s6.length:Int)>2)with|T'=>(og (D' (Gx s5 s6)) (k 6 (ud x y s6 (ae (val s5%val s6).toNat))))|F'=>(match(s6.length:Int)==0 with|T'=>(og (D' (aQ s5)) (S' [RV.d y3Y (ah (bZ F' (val s5)))]))|F'=>(og (D' (sQ s5)) (og (D' (sQ s6)) (k 29 (pW x y (val s5) (val s6))))))))|F'=>(match(s6.length:Int)==0 with|T'=>(og (D' (aQ s5)) (S' [RV.d y3Y (ah (bZ F' (val s5)))]))|F'=>(og (D' (sQ s5)) (og (D' (sQ s6)) (k 29 (pW x y (val s5) (val s6))))))
theorem u6(x y:Bool×List Int)(s5 s6:List Int):RL u7 6 (ud x y s5 s6) (qK x y s5 s6):=rlX
def rZ(x y:Bool×List Int)(s9 s10:Int)(k:KT):OLR:=match D' (s10>0)with|T'=>(match D' (s10=(0:Int))with|T'=>N'|F'=>k 29 (pW x y s10 (Int.tmod s9 s10)))|F'=>(og (D' (iH s9)) (og (D' (aQ (ae s9.toNat))) (S' [RV.d y3Y (ah (bZ F' (val (ae s9.toNat))))])))
theorem zd(x y:Bool×List Int)(s9 s10:Int):RL u7 29 (pW x y s9 s10) (rZ x y s9 s10):=rlX
def PW:Cn 119 [y3Y,y3Y]:=cn λ(x y:Bool×List Int)=>lf (fj x y) [.d y3Y (ah (ab x/ab y)),.d y3Y (ah (ab x%ab y)),.d arf 0] λh=>by
 refine aA IQ (Oz x y) ⟨0,?_⟩;obtain⟨hx,hy,hp⟩:=h;obtain⟨x0,x1,x2⟩:=cp hx;obtain⟨y0,y1,y2⟩:=cp hy;have sx:=hx.2.2;have sy:=hy.2.2
 have ey:y.1=false:=by
  cases e:y.1
  ·rfl
  ·rw[bO,e]at hp;simp only[bZ,cond_true]at hp;omega
 have dy:ab y=val y.2:=by rw[bO,ey];rfl
 rw[dy]at hp;have hne:y.2≠[]:=λe=>by rw[y2]at e;omega
 have hprt:Gx x.2 y.2:=⟨⟨hx.1,sx⟩,⟨hy.1,sy⟩,hne⟩
 have hylen:=aoy.2 hne;have r0:=aoZ (val x.2) (show val y.2≠0 by omega);have r1:=aoC (val x.2) hp;have q0:0<=val x.2/val y.2:=aoO x0 y0;have q1:val x.2/val y.2<=val x.2:=apI _ x0;have vx:=bU hx.1.1;have vy:=bU hy.1.1;have mx:=du sx;have my:=du sy;have szq:szI (val x.2/val y.2)<=1000000:=fc (by have:=cg 1000000;omega) (by omega);have szr:szI (val x.2%val y.2)<=1000000:=fc (by have:=cg 1000000;omega) (by omega);have lq:(ae (val x.2/val y.2).toNat).length<=1000000:=cq q0 (by omega);have lr:(ae (val x.2%val y.2).toNat).length<=1000000:=cq r0 (by omega);unfold Oz;simp only[dg]
 rw[show((y.2.length:Int)==0)=F' by simp;omega,dT hprt,dT (ct (n:=(val x.2/val y.2).toNat) (by omega)),dT (ct (n:=(val x.2%val y.2).toNat) (by omega)),dT (show bH 1 by decide),bS q0,bS r0,
  dT (show okI (ah (bZ (!(x.1==y.1)) (val x.2/val y.2)))/\okI (ah (1:Int)) from⟨aS (by rw[DA];exact szq),lP⟩),dT (show okI (ah (bZ x.1 (val x.2%val y.2)))/\okI y from⟨aS (by rw[DA];exact szr),hy⟩)]
 simp only[dec_enc,dy,cQ];rw[bO x,ey]
 have hlen:(((ae (val x.2%val y.2).toNat).length:Int)>0)↔0<val x.2%val y.2:=by
  constructor
  ·intro hl;rcases aoj 0 (val x.2%val y.2)with h|h
   ·exact h
   ·rw[show(val x.2%val y.2).toNat=0 by omega,fH]at hl;simp at hl
  ·intro hl;have:ae (val x.2%val y.2).toNat≠[]:=λe=>by rw[gQ]at e;omega
   have:=aoy.2 this;omega
 obtain⟨n1,n2⟩:=Lk (a:=val x.2) (b:=val y.2) x0 hp;rcases aoj 0 (val x.2%val y.2)with hr|hr
 ·rw[dT (hlen.2 hr)];cases x.1
  ·rfl
  ·obtain⟨e1,e2⟩:=n2 hr;simp only[bZ,cond_true,Bool.not_false,show((T'==F'):Bool)=F' from rfl];rw[e1,e2]
 ·rw[dF (λh'=>by have:=hlen.1 h';omega)];dsimp only;have e0:val x.2%val y.2=0:=by omega
  cases x.1
  ·simp only[bZ,cond_false,show((F'==F'):Bool)=T' from rfl,Bool.not_true]
  ·obtain⟨e1,e2⟩:=n1 e0;simp only[bZ,cond_true,Bool.not_false,show((T'==F'):Bool)=F' from rfl];rw[e1,e2,e0];rfl
theorem MY(x y:BI)(B:Nat)(hB:(B:Int)<18446744073709551616):∀(v u:Nat),u<=B->v<=B->u7.RunsE 29 (pW x y (u:Int) (v:Int)) [.d y3Y (ah ((Nat.gcd u v:Nat):Int))]:=by
 intro v;induction v using Nat.strongRecOn with
 |ind v ih=>
  intro u hu hv;rcases aoG v with h0|h0
  ·refine zd _ _ _ _ ⟨0,λn _=>?_⟩;have hp:iH (u:Int):=⟨by omega,by omega⟩
   have hl:(ae u).length<=3:=dl (aqn (show(u:Int)<18446744073709551616 by omega) (by decide));unfold rZ;rw[dF (show ¬(v:Int)>0 by omega),dT hp,apN,dT (ct (n:=u) (by omega)),bG,show Nat.gcd u v=u by rw[h0];exact Nat.gcd_zero_right u];rfl
  ·obtain⟨n0,hn⟩:=ih (u%v) (aqD _ h0) v hv (an0 (Nat.le_of_lt (aqD _ h0)) hv);refine zd _ _ _ _ ⟨n0,λn hn'=>?_⟩;unfold rZ;rw[dT (show(v:Int)>0 by omega),dF (show ¬(v:Int)=0 by omega),ju (by omega)];dsimp only;rw[show((u:Int)%(v:Int))=((u%v:Nat):Int) by simp,apY u v,Nat.gcd_rec v u,apY];exact hn n hn'
theorem JA{u:Nat}(h:(ae u).length<=2):(u:Int)<1000000000000000000:=by
 have h1:=bU (bV u);rw[bG]at h1;have h2:=du h;grind [pw]
theorem L6(x y:BI):∀(v u:Nat),(ae u).length<=1000000->(ae v).length<=1000000->
  u7.RunsE 6 (ud x y (ae u) (ae v)) [.d y3Y (ah ((Nat.gcd u v:Nat):Int))]:=by
 intro v;induction v using Nat.strongRecOn with
 |ind v ih=>
  intro u hu hv;rcases aoG v with h0|h0
  ·refine u6 _ _ _ _ ⟨0,λn _=>?_⟩;unfold qK;rw[h0,Nat.gcd_zero_right,dF (show ¬((ae 0).length:Int)>0 by decide),show(((ae 0).length:Int)==0)=T' by decide];dsimp only;rw[dT (ct (n:=u) (by omega)),bG];rfl
  ·have hne:ae v≠[]:=λe=>by rw[gQ]at e;omega
   have hl:=aoy.2 hne;have hm:=aqD u h0
   have hms:(ae (u%v)).length<=1000000:=dl (by
    have:=bU (bV v);rw[bG]at this;have:=du hv;omega)
   have hz:(((ae v).length:Int)==0)=false:=by simp;omega
   have hprt:Gx (ae u) (ae v):=⟨⟨dX _,hu⟩,⟨dX _,hv⟩,hne⟩
   have hmod:(val (ae u)%val (ae v)).toNat=u%v:=by rw[bG,bG];omega
   by_cases hsm:(ae u).length<=2/\(ae v).length<=2
   ·have lu:=JA hsm.1;have lv:=JA hsm.2;obtain⟨n0,hn⟩:=MY x y 1000000000000000000 (by decide) v u (by omega) (by omega);refine u6 _ _ _ _ ⟨n0,λn hn'=>?_⟩;unfold qK;rw[dT (show((ae v).length:Int)>0 by omega),dF (show ¬((ae u).length:Int)>2 by omega),dF (show ¬((ae v).length:Int)>2 by omega),hz,dT (show sQ (ae u) from⟨ct (by omega),by rw[bG];omega⟩),dT (show sQ (ae v) from⟨ct (by omega),by rw[bG];omega⟩),bG,bG];exact hn n hn'
   ·obtain⟨n0,hn⟩:=ih (u%v) hm v hv hms;refine u6 _ _ _ _ ⟨n0,λn hn'=>?_⟩;have:=hn n hn';rw[show Nat.gcd v (u%v)=Nat.gcd u v by rw[apY u v,Nat.gcd_rec v u,apY]]at this;unfold qK;rw[dT (show((ae v).length:Int)>0 by omega),dT hprt,hmod];by_cases h2:(ae u).length<=2
    ·rw[dF (show ¬((ae u).length:Int)>2 by omega),dT (show((ae v).length:Int)>2 by omega)];exact this
    ·rw[dT (show((ae u).length:Int)>2 by omega)];exact this
def Q1:Cn 118 [y3Y,y3Y]:=cn λ(x y:Bool×List Int)=>lf (okI x/\okI y) [.d y3Y (ah ((Int.gcd (ab x) (ab y):Nat):Int))] λh=>by
 refine bj IQ (show u7.Res _ _ _ from ?_);obtain⟨hx,hy⟩:=h;obtain⟨x0,_,_⟩:=cp hx;obtain⟨y0,_,_⟩:=cp hy;have ex:((ab x).natAbs:Int)=val x.2:=by rw[bO];unfold bZ;cases x.1<;>simp<;>omega
 have ey:((ab y).natAbs:Int)=val y.2:=by rw[bO];unfold bZ;cases y.1<;>simp<;>omega
 have cx:=o9 hx.1;have cy:=o9 hy.1;rw[show(val x.2).toNat=(ab x).natAbs by omega]at cx;rw[show(val y.2).toNat=(ab y).natAbs by omega]at cy;obtain⟨n1,h1⟩:=L6 x y (ab y).natAbs (ab x).natAbs (by rw[<-cx];exact hx.2.2) (by rw[<-cy];exact hy.2.2);rw[<-cx,<-cy]at h1;exact afi _ _ ⟨n1,h1 n1 (anT _)⟩
section
abbrev tI:Ty:=.st (.pair .bool ard)
abbrev tR:Ty:=.st (.pair tI tI)
abbrev tV:Ty:=.st (.pair tR tR)
abbrev tO:Ty:=.st (.pair tR (.pair tR tR))
abbrev tP:Ty:=.st (.pair tR (.pair tR (.pair tR (.pair tR tR))))
abbrev tQ:Ty:=.st (.pair tR (.pair tR (.pair tR (.pair tR (.pair tR tR)))))
abbrev tG:Ty:=.st (.pair arf arf)
abbrev BV:=BR×BR
abbrev BO3:=BR×BR×BR
abbrev BP:=BR×BR×BR×BR×BR
abbrev BQ:=BR×BR×BR×BR×BR×BR
abbrev hAd(a b:BR):BR:=hid (av (ag a+ag b))
abbrev hSu(a b:BR):BR:=hid (av (ag a-ag b))
abbrev hMu(a b:BR):BR:=hid (av (ag a*ag b))
abbrev hDi(a b:BR):BR:=hid (av (ag a/ag b))
abbrev hNe(a:BR):BR:=hid (av (-ag a))
class Cod (α:Type) (A:outParam Type) where
 enc:α->A
 dec:A->α
 bd:Nat->α->Prop
 ok:Nat->A->Prop
 okD:∀k x,Decidable (ok k x)
 mono:∀j k x,j<=k->bd j x->bd k x
 dec_enc:∀x,dec (enc x)=x
 ok_enc:∀k x,k<=480000->bd k x->ok k (enc x)
 ok_dec:∀k x,ok k x->x=enc (dec x)/\bd k (dec x)
def enc{α A:Type}[Cod α A](x:α):A:=Cod.enc x
def dec{α A:Type}[Cod α A](x:A):α:=Cod.dec x
def ok(α:Type){A:Type}[Cod α A](k:Nat)(x:A):Prop:=Cod.ok (α:=α) k x
instance (α A:Type) [Cod α A] (k:Nat) (x:A):Decidable (ok α k x):=Cod.okD k x
theorem aq{α A:Type}[Cod α A](x:α):dec (enc x)=x:=Cod.dec_enc x
class Bd {α A:Type} [Cod α A] (x:α) (k:outParam Nat):Prop where le:Cod.bd k x
theorem aL{α A:Type}[Cod α A]{k:Nat}{x:A}(h:ok α k x):∃v:α,x=enc v/\Bd v k:=⟨_,(Cod.ok_dec k x h).1,⟨(Cod.ok_dec k x h).2⟩⟩
theorem okd{α A:Type}[Cod α A]{x:α}{j k:Nat}[h:Bd x j](hj:j<=k)(hk:k<=480000):D' (ok α k (enc x))=true:=
 anO (Cod.ok_enc k x hk (Cod.mono j k x hj h.le))
instance am1:Cod Rat BR where
 enc:=av
 dec:=ag
 bd:=bdR
 ok k x:=okR x/\x.1.2.length<=k/\x.2.2.length<=k
 okD _ _:=instDecidableAnd
 mono _ _ _ hk h:=ce h hk
 dec_enc:=eP
 ok_enc k _ hk h:=⟨qO h hk,h.1,h.2⟩
 ok_dec k x h:=by
  obtain⟨h1,h2,h3⟩:=h;refine⟨Oh h1,?_⟩;obtain⟨e1,e2⟩:=cN h1;unfold bdR szI;rw[e1,e2];rw[iu h1.1]at h2;rw[iu h1.2.1]at h3;exact⟨h2,h3⟩
instance amE:Cod Int Int where
 enc x:=x
 dec x:=x
 bd _ x:=bH x
 ok _ x:=bH x
 okD _ _:=inferInstance
 mono _ _ _ _ h:=h
 dec_enc _:=rfl
 ok_enc _ _ _ h:=h
 ok_dec _ _ h:=⟨rfl,h⟩
instance amm:Cod Bool Bool where
 enc x:=x
 dec x:=x
 bd _ _:=True
 ok _ _:=True
 okD _ _:=inferInstance
 mono _ _ _ _ h:=h
 dec_enc _:=rfl
 ok_enc _ _ _ h:=h
 ok_dec _ _ h:=⟨rfl,h⟩
instance amu (α β A B:Type) [Cod α A] [Cod β B]:Cod (α×β) (A×B) where
 enc x:=(enc x.1,enc x.2)
 dec x:=(dec x.1,dec x.2)
 bd k x:=Cod.bd k x.1/\Cod.bd k x.2
 ok k x:=ok α k x.1/\ok β k x.2
 okD _ _:=instDecidableAnd
 mono _ _ _ hk h:=⟨Cod.mono _ _ _ hk h.1,Cod.mono _ _ _ hk h.2⟩
 dec_enc x:=by rw[aq,aq]
 ok_enc k _ hk h:=⟨Cod.ok_enc _ _ hk h.1,Cod.ok_enc _ _ hk h.2⟩
 ok_dec k x h:=⟨arb (Cod.ok_dec k x.1 h.1).1 (Cod.ok_dec k x.2 h.2).1,(Cod.ok_dec k x.1 h.1).2,(Cod.ok_dec k x.2 h.2).2⟩
theorem nr{α:Type}{a b:α}(h:a=b):a=b:=h
theorem uc{α β A B:Type}[Cod α A][Cod β B](x:α×β):(enc x).1=enc x.1:=nr rfl
theorem Ee{α β A B:Type}[Cod α A][Cod β B](x:α×β):(enc x).2=enc x.2:=nr rfl
theorem aC{α β A B:Type}[Cod α A][Cod β B](x:α)(y:β):enc (x,y)=(enc x,enc y):=nr rfl
theorem lZ(q:Rat):enc q=av q:=nr rfl
theorem Lu(x:BR):dec x=ag x:=nr rfl
theorem KP(q:Int):enc q=q:=nr rfl
theorem E5(q:Bool):enc q=q:=nr rfl
theorem zG{q:Rat}{j:Nat}[h:Bd q j](hj:j<=480000):D' (okR (av q))=true:=anO (qO h.le hj)
def mx(j k:Nat):Nat:=bif D' (j<=k)then k else j
theorem Mq(j k:Nat):j<=mx j k:=by
 unfold mx;by_cases h:j<=k
 ·rw[anO h];exact h
 ·rw[anQ h];exact anT _
theorem MV(j k:Nat):k<=mx j k:=by
 unfold mx;by_cases h:j<=k
 ·rw[anO h];exact anT _
 ·rw[anQ h];show k<=j;omega
theorem l8{q:Rat}{j k:Nat}[h:Bd q j](hj:j<=k)(hk:k<=480000):D' (ok Rat k (av q))=true:=okd (x:=q) hj hk
section
variable {α β A B:Type} [Cod α A] [Cod β B]
instance amF {x:α×β} {k:Nat} [h:Bd x k]:Bd x.1 k:=⟨h.le.1⟩
instance anm {x:α×β} {k:Nat} [h:Bd x k]:Bd x.2 k:=⟨h.le.2⟩
instance anz {x:α} {y:β} {j k:Nat} [h:Bd x j] [h':Bd y k]:Bd (x,y) (mx j k):=⟨Cod.mono _ _ _ (Mq _ _) h.le,Cod.mono _ _ _ (MV _ _) h'.le⟩
instance amn {b:Bool} {x y:α} {j k:Nat} [h:Bd x j] [h':Bd y k]:Bd (bif b then x else y) (mx j k):=by
 refine⟨?_⟩;cases b
 ·exact Cod.mono _ _ _ (MV _ _) h'.le
 ·exact Cod.mono _ _ _ (Mq _ _) h.le
theorem Bd.mono{x:α}{j k:Nat}(h:Bd x j)(hk:j<=k):Bd x k:=⟨Cod.mono _ _ _ hk h.le⟩
end
section
variable {a b:Rat} {j k:Nat}
instance anl [h:Bd a j] [h':Bd b k]:Bd (a+b) (j+k+1):=⟨Lv h.le h'.le⟩
instance am9 [h:Bd a j] [h':Bd b k]:Bd (a-b) (j+k+1):=⟨Vv h.le h'.le⟩
instance ani [h:Bd a j] [h':Bd b k]:Bd (a*b) (j+k):=⟨Jv h.le h'.le⟩
instance anh [h:Bd a j]:Bd (-a) j:=⟨xk h.le⟩
theorem rG(h:bdR k b):1<=k:=by
 have h1:=h.2;have h2:=IT (b.den:Int);have h3:=b.den_pos;rcases aoG k with e|e
 ·subst e;have:szI (b.den:Int)=0:=by omega
  rw[this]at h2;have:pw 0=1:=rfl;omega
 ·exact e
instance ana [h:Bd a j] [h':Bd b k]:Bd (a/b) (j+k):=by
 refine⟨?_⟩;by_cases h0:b=0
 ·subst h0;rw[Rat.div_def,Rat.inv_zero,Rat.mul_zero];have:=rG h'.le;exact ce (j:=1) ⟨by decide+kernel,by decide+kernel⟩ (by omega)
 ·exact UU h.le h'.le h0
end
theorem dQ{n:Int}(h:bH n):Bd (n:Rat) 3:=by
 refine⟨?_⟩;show bdR 3 (n:Rat);refine⟨?_,?_⟩
 ·rw[Rat.num_intCast];have:pw 3=1000000000000000000000000000:=by decide
  exact fc (by have:=h.1;omega) (by have:=h.2;omega)
 ·rw[Rat.den_intCast];exact fc (by decide) (by decide)
instance ue:Bd (0:Rat) 1:=⟨⟨by decide+kernel,by decide+kernel⟩⟩
theorem eO{x:BR}(h:okR x):∃q:Rat,x=av q/\Bd q 480000:=⟨ag x,Oh h,⟨Cs h⟩⟩
def ag0(a b:Rat×Rat):Rat:=a.1*b.1+a.2*b.2
end
def TP:List En:=[enK Cy,enK CT,enK TH,enF O3,enF Uj,enK Py,enK PW,enK Q1]
def ST(_k:KT):OLR:=og (D' (bH (1:Int))) (S' [RV.d y3Y (ah (1:Int))])
def S7:Cn 71 []:=cn<|lf True [.d y3Y (ah 1)] λ_=>by
 refine aA TP (ST) ⟨0,?_⟩;unfold ST;rw[dT (show bH 1 by decide)]
def ND:List En:=enK S7::TP
def aaw(x y:Bool×List Int)(_k:KT):OLR:=og (D' (okI y)) (match D' ((b8 (ab y) 0)<0)with|T'=>(og (D' (okI x)) (og (D' (okI y)) (og (D' (okI (ah (-ab x))/\okI (ah (-ab y)))) (og (D' (fj (ah (-ab x)) (ah ((Int.gcd (ab (ah (-ab x))) (ab (ah (-ab y))):Nat):Int)))) (og (D' (fj (ah (-ab y)) (ah ((Int.gcd (ab (ah (-ab x))) (ab (ah (-ab y))):Nat):Int)))) (S' [RV.d (.st (.pair y3Y y3Y)) ((ah (ab (ah (-ab x))/ab (ah ((Int.gcd (ab (ah (-ab x))) (ab (ah (-ab y))):Nat):Int)))),(ah (ab (ah (-ab y))/ab (ah ((Int.gcd (ab (ah (-ab x))) (ab (ah (-ab y))):Nat):Int)))))]))))))|F'=>(og (D' (okI x/\okI y)) (og (D' (fj x (ah ((Int.gcd (ab x) (ab y):Nat):Int)))) (og (D' (fj y (ah ((Int.gcd (ab x) (ab y):Nat):Int)))) (S' [RV.d (.st (.pair y3Y y3Y)) ((ah (ab x/ab (ah ((Int.gcd (ab x) (ab y):Nat):Int)))),(ah (ab y/ab (ah ((Int.gcd (ab x) (ab y):Nat):Int)))))])))))
def aas:Cn 55 [y3Y,y3Y]:=cn λ(x y:Bool×List Int)=>lf (jH x y) [.d (.st (.pair y3Y y3Y)) (eZ x y)] λh=>by
 refine aA ND (aaw x y) ⟨0,?_⟩;obtain⟨hx,hy,hne⟩:=h;have sx:=iS hx;have sy:=iS hy;have hgp:0<Int.gcd (ab x) (ab y):=aqm λe=>hne (Int.gcd_eq_zero_iff.1 e).2;have hgs:=SZ (a:=ab x) hne sy;have og:okI (ah ((Int.gcd (ab x) (ab y):Nat):Int)):=aS hgs;have o1:okI (ah (-ab x)):=aS (by rw[jc];exact sx);have o2:okI (ah (-ab y)):=aS (by rw[jc];exact sy);have ig:∀z:BI,okI z->fj z (ah ((Int.gcd (ab x) (ab y):Nat):Int)):=λz hz=>⟨hz,og,by rw[dec_enc];omega⟩
 unfold aaw eZ;rw[dT hy];rcases ap0 hne with hn|hn
 ·rw[c9 hn,dT (show(-1:Int)<0 by decide),dT hx];simp only[dec_enc,Int.gcd_neg,Int.neg_gcd];rw[dT (show okI (ah (-ab x))/\okI (ah (-ab y)) from⟨o1,o2⟩),dT (ig _ o1),dT (ig _ o2),<-Rat.neg_divInt_neg,oC (by omega),Int.gcd_neg,Int.neg_gcd]
 ·rw[cH hn,dF (show ¬(1:Int)<0 by decide)];simp only[dec_enc];rw[dT (show okI x/\okI y from⟨hx,hy⟩),dT (ig _ hx),dT (ig _ hy),oC hn]
def qg:List En:=enK aas::ND
def Nr(a:(Bool×List Int)×Bool×List Int)(_k:KT):OLR:=og (D' (okI a.1)) (S' [RV.d arf (b8 (ab a.1) 0)])
def S3(n:Int)(_k:KT):OLR:=og (D' (bH n)) (S' [RV.d (.st (.pair y3Y y3Y)) ((ah n),(ah 1))])
def Q6(a b:(Bool×List Int)×Bool×List Int)(_k:KT):OLR:=og (D' (okI a.1/\okI b.2)) (og (D' (okI b.1/\okI a.2)) (og (D' (okI (ah (ab a.1*ab b.2))/\okI (ah (ab b.1*ab a.2)))) (S' [RV.d arf (b8 (ab (ah (ab a.1*ab b.2))) (ab (ah (ab b.1*ab a.2))))])))
def S2(a b:(Bool×List Int)×Bool×List Int)(_k:KT):OLR:=og (D' (okI a.1/\okI b.2)) (og (D' (okI b.1/\okI a.2)) (og (D' (okI (ah (ab a.1*ab b.2))/\okI (ah (ab b.1*ab a.2)))) (og (D' (okI a.2/\okI b.2)) (og (D' (jH (ah (ab (ah (ab a.1*ab b.2))+ab (ah (ab b.1*ab a.2)))) (ah (ab a.2*ab b.2)))) (S' [RV.d (.st (.pair y3Y y3Y)) (((eZ (ah (ab (ah (ab a.1*ab b.2))+ab (ah (ab b.1*ab a.2)))) (ah (ab a.2*ab b.2))).1),((eZ (ah (ab (ah (ab a.1*ab b.2))+ab (ah (ab b.1*ab a.2)))) (ah (ab a.2*ab b.2))).2))])))))
def OV(a b:(Bool×List Int)×Bool×List Int)(_k:KT):OLR:=og (D' (okI a.1/\okI b.1)) (og (D' (okI a.2/\okI b.2)) (og (D' (jH (ah (ab a.1*ab b.1)) (ah (ab a.2*ab b.2)))) (S' [RV.d (.st (.pair y3Y y3Y)) (((eZ (ah (ab a.1*ab b.1)) (ah (ab a.2*ab b.2))).1),((eZ (ah (ab a.1*ab b.1)) (ah (ab a.2*ab b.2))).2))])))
def Rx(a:(Bool×List Int)×Bool×List Int)(_k:KT):OLR:=og (D' (okI a.1)) (S' [RV.d (.st (.pair y3Y y3Y)) ((ah (-ab a.1)),a.2)])
def Ti(x y:Bool×List Int)(_k:KT):OLR:=og (D' (okI y)) (match(b8 (ab y) 0)==0 with|T'=>S' [RV.d (.st (.pair y3Y y3Y)) ((F',[]),(F',[])),RV.d arf 6]|F'=>(og (D' (jH x y)) (S' [RV.d (.st (.pair y3Y y3Y)) (((eZ x y).1),((eZ x y).2)),RV.d arf 0])))
def adl:Cn 369 [y3Y,y3Y]:=cn λ(x y:Bool×List Int)=>lf (jH x y) [.d (.st (.pair y3Y y3Y)) (eZ x y),.d arf 0] λh=>by
 refine aA qg (Ti x y) ⟨0,?_⟩;obtain⟨hx,hy,hne⟩:=h
 have hnz:(b8 (ab y) 0==0)=false:=by
  rcases ap0 hne with h|h
  ·rw[c9 h];rfl
  ·rw[cH h];rfl
 unfold Ti;rw[dT hy,hnz,dT (show jH x y from⟨hx,hy,hne⟩)]
def Kr:List En:=enK adl::qg
def Sk(a b:(Bool×List Int)×Bool×List Int)(_k:KT):OLR:=match D' (okI a.1/\okI b.2)with|T'=>(match D' (okI a.2/\okI b.1)with|T'=>(match D' (jH (ah (ab a.1*ab b.2)) (ah (ab a.2*ab b.1)))with|T'=>S' [RV.d (.st (.pair y3Y y3Y)) (((eZ (ah (ab a.1*ab b.2)) (ah (ab a.2*ab b.1))).1),((eZ (ah (ab a.1*ab b.2)) (ah (ab a.2*ab b.1))).2)),RV.d arf 0]|F'=>N')|F'=>N')|F'=>N'
def mf:Cn 15 [(.st (.pair y3Y y3Y))]:=cn λ(a:(Bool×List Int)×Bool×List Int)=>lf (okR a) [.d arf (aD (ag a) 0)] λh=>by
 refine aA qg (Nr a) ⟨0,?_⟩;unfold Nr;rw[dT h.1,<-vC,(cN h).1]
def lj:Cn 29 [arf]:=cn λ(n:Int)=>lf (bH n) [.d (.st (.pair y3Y y3Y)) (av (n:Rat))] λh=>by
 refine aA qg (S3 n) ⟨0,?_⟩;unfold S3 av;rw[dT h,Rat.num_intCast,Rat.den_intCast];rfl
def vH:Cn 14 [(.st (.pair y3Y y3Y)),(.st (.pair y3Y y3Y))]:=cn λ(a b:(Bool×List Int)×Bool×List Int)=>lf (okR a/\okR b) [.d arf (aD (ag a) (ag b))] λh=>by
 refine aA qg (Q6 a b) ⟨0,?_⟩;obtain⟨ha,hb⟩:=h;obtain⟨a1,a2⟩:=cN ha;obtain⟨b1,b2⟩:=cN hb;obtain⟨sa1,sa2⟩:=fZ ha;obtain⟨sb1,sb2⟩:=fZ hb;have h1:=cK sa1 sb2;have h2:=cK sb1 sa2;unfold Q6;rw[dT (show okI a.1/\okI b.2 from⟨ha.1,hb.2.1⟩),dT (show okI b.1/\okI a.2 from⟨hb.1,ha.2.1⟩),dT (show okI (ah (ab a.1*ab b.2))/\okI (ah (ab b.1*ab a.2)) from⟨aS (by omega),aS (by omega)⟩),dec_enc,dec_enc,<-a1,<-a2,<-b1,<-b2,xI]
def mw:Cn 58 [(.st (.pair y3Y y3Y))]:=cn λ(a:(Bool×List Int)×Bool×List Int)=>lf (okR a) [.d (.st (.pair y3Y y3Y)) (av (-ag a))] λh=>by
 refine aA qg (Rx a) ⟨0,?_⟩;obtain⟨a1,a2⟩:=cN h;unfold Rx
 have e:av (-ag a)=(ah (-ab a.1),a.2):=by
  unfold av;rw[Rat.neg_num,a1,show((-ag a).den:Int)=((ag a).den:Int) from rfl,a2,<-iu h.2.1]
 rw[dT h.1,e]
def vi:Cn 18 [(.st (.pair y3Y y3Y)),(.st (.pair y3Y y3Y))]:=cn λ(a b:(Bool×List Int)×Bool×List Int)=>lf (okR a/\okR b) [.d (.st (.pair y3Y y3Y)) (av (ag a+ag b))] λh=>by
 refine aA qg (S2 a b) ⟨0,?_⟩;obtain⟨ha,hb⟩:=h;obtain⟨a1,a2⟩:=cN ha;obtain⟨b1,b2⟩:=cN hb;obtain⟨sa1,sa2⟩:=fZ ha;obtain⟨sb1,sb2⟩:=fZ hb;have pa:=ha.2.2.1;have pb:=hb.2.2.1;have h1:=cK sa1 sb2;have h2:=cK sb1 sa2;have h3:=cK sa2 sb2;have h4:=w8 h1 h2;have hda:ag a=Rat.divInt (ab a.1) (ab a.2):=by rw[<-a1,<-a2,aoP]
 have hdb:ag b=Rat.divInt (ab b.1) (ab b.2):=by rw[<-b1,<-b2,aoP]
 unfold S2;rw[dT (show okI a.1/\okI b.2 from⟨ha.1,hb.2.1⟩),dT (show okI b.1/\okI a.2 from⟨hb.1,ha.2.1⟩),dT (show okI (ah (ab a.1*ab b.2))/\okI (ah (ab b.1*ab a.2)) from⟨aS (by omega),aS (by omega)⟩),dT (show okI a.2/\okI b.2 from⟨ha.2.1,hb.2.1⟩)];simp only[dec_enc];rw[dT (show jH (ah (ab a.1*ab b.2+ab b.1*ab a.2)) (ah (ab a.2*ab b.2)) from⟨aS (by omega),aS (by omega),by rw[dec_enc];exact aqx (by omega) (by omega)⟩)]
 have e:eZ (ah (ab a.1*ab b.2+ab b.1*ab a.2)) (ah (ab a.2*ab b.2))=av (ag a+ag b):=by
  unfold eZ;rw[dec_enc,dec_enc,hda,hdb,Rat.divInt_add_divInt _ _ (by omega) (by omega)]
 rw[e]
def rV:Cn 57 [(.st (.pair y3Y y3Y)),(.st (.pair y3Y y3Y))]:=cn λ(a b:(Bool×List Int)×Bool×List Int)=>lf (okR a/\okR b) [.d (.st (.pair y3Y y3Y)) (av (ag a*ag b))] λh=>by
 refine aA qg (OV a b) ⟨0,?_⟩;obtain⟨ha,hb⟩:=h;obtain⟨a1,a2⟩:=cN ha;obtain⟨b1,b2⟩:=cN hb;obtain⟨sa1,sa2⟩:=fZ ha;obtain⟨sb1,sb2⟩:=fZ hb;have pa:=ha.2.2.1;have pb:=hb.2.2.1;have h1:=cK sa1 sb1;have h3:=cK sa2 sb2;have hda:ag a=Rat.divInt (ab a.1) (ab a.2):=by rw[<-a1,<-a2,aoP]
 have hdb:ag b=Rat.divInt (ab b.1) (ab b.2):=by rw[<-b1,<-b2,aoP]
 unfold OV;rw[dT (show okI a.1/\okI b.1 from⟨ha.1,hb.1⟩),dT (show okI a.2/\okI b.2 from⟨ha.2.1,hb.2.1⟩),dT (show jH (ah (ab a.1*ab b.1)) (ah (ab a.2*ab b.2)) from⟨aS (by omega),aS (by omega),by rw[dec_enc];exact aqx (by omega) (by omega)⟩)]
 have e:eZ (ah (ab a.1*ab b.1)) (ah (ab a.2*ab b.2))=av (ag a*ag b):=by
  unfold eZ;rw[dec_enc,dec_enc,hda,hdb,aqy]
 rw[e]
def xF:Cn 324 [(.st (.pair y3Y y3Y)),(.st (.pair y3Y y3Y))]:=cn λ(a b:(Bool×List Int)×Bool×List Int)=>lf (jX a b) [.d (.st (.pair y3Y y3Y)) (av (ag a/ag b)),.d arf 0] λh=>by
 refine aA Kr (Sk a b) ⟨0,?_⟩;obtain⟨ha,hb,hne⟩:=h;obtain⟨a1,a2⟩:=cN ha;obtain⟨b1,b2⟩:=cN hb;obtain⟨sa1,sa2⟩:=fZ ha;obtain⟨sb1,sb2⟩:=fZ hb;have pa:=ha.2.2.1;have h1:=cK sa1 sb2;have h3:=cK sa2 sb1;have hda:ag a=Rat.divInt (ab a.1) (ab a.2):=by rw[<-a1,<-a2,aoP]
 have hdb:ag b=Rat.divInt (ab b.1) (ab b.2):=by rw[<-b1,<-b2,aoP]
 have hmz:ab a.2*ab b.1≠0:=aqx (by omega) hne;unfold Sk;rw[dT (show okI a.1/\okI b.2 from⟨ha.1,hb.2.1⟩),dT (show okI a.2/\okI b.1 from⟨ha.2.1,hb.1⟩)];simp only;rw[dT (show jH (ah (ab a.1*ab b.2)) (ah (ab a.2*ab b.1)) from⟨aS (by omega),aS (by omega),by rw[dec_enc];exact hmz⟩)]
 have e:eZ (ah (ab a.1*ab b.2)) (ah (ab a.2*ab b.1))=av (ag a/ag b):=by
  unfold eZ;rw[dec_enc,dec_enc,hda,hdb,Rat.div_def,Rat.inv_divInt,aqy]
 rw[e]
def ade:List En:=enK vi::enK mw::enK xF::Kr
def OC(a b:(Bool×List Int)×Bool×List Int)(_k:KT):OLR:=match D' (okR b)with|T'=>(match D' (okR a/\okR (av (-ag b)))with|T'=>S' [RV.d (.st (.pair y3Y y3Y)) (((av (ag a+ag (av (-ag b)))).1),((av (ag a+ag (av (-ag b)))).2))]|F'=>N')|F'=>N'
def xy:Cn 20 [(.st (.pair y3Y y3Y)),(.st (.pair y3Y y3Y))]:=cn λ(a b:(Bool×List Int)×Bool×List Int)=>lf (okR a/\okR b) [.d (.st (.pair y3Y y3Y)) (av (ag a-ag b))] λh=>by
 refine aA ade (OC a b) ⟨0,?_⟩;obtain⟨ha,hb⟩:=h;unfold OC;rw[dT hb,eP,aqo,dT (show okR a/\okR (av (-ag b)) from⟨ha,qO (xk (Cs hb)) (anT _)⟩)]
theorem gU{a b:Rat}{j k:Nat}[ha:Bd a j][hb:Bd b k](hj:j<=480000)(hk:k<=480000)(h:b≠0):D' (jX (av a) (av b))=true:=
 anO ⟨qO ha.le hj,qO hb.le hk,by show ab (ah b.num)≠0;rw[dec_enc];exact λe=>h (Rat.num_eq_zero.1 e)⟩
theorem aX:type_of% @dz/\type_of% @cQ/\type_of% @dg/\type_of% @aR/\type_of% @aq/\type_of% @uc/\type_of% @Ee/\type_of% @lZ/\type_of% @KP/\type_of% @E5/\type_of% @Lu/\type_of% @eP/\type_of% @ahD/\type_of% @amf/\type_of% @ag9/\type_of% @okd/\type_of% @l8/\type_of% @zG/\type_of% @gU/\type_of% @apS/\type_of% @Bool.and_true/\type_of% @aoW/\type_of% @apo/\type_of% @mx.eq_1/\type_of% @decide_true/\type_of% @decide_false/\(∀{α:Type} (a b:α),cond T' a b=a)/\∀{α:Type} (a b:α),cond F' a b=b:=
 ⟨@dz,@cQ,@dg,@aR,@aq,@uc,@Ee,@lZ,@KP,@E5,@Lu,@eP,@ahD,@amf,@ag9,@okd,@l8,@zG,@gU,@apS,@Bool.and_true,@aoW,@apo,@mx.eq_1,@decide_true,@decide_false,@cond_true,@cond_false⟩
theorem au(a b:Rat):D' (aD a b>0)=D' (b<a):=by
 rcases(by grind:a<b\/a=b\/b<a)with h|h|h
 ·rw[ez h,anQ (show ¬b<a by grind)];rfl
 ·rw[h,eF,anQ (show ¬b<b by grind)];rfl
 ·rw[dM h,anO h];rfl
theorem ao(a b:Rat):D' (aD a b<0)=D' (a<b):=by
 rcases(by grind:a<b\/a=b\/b<a)with h|h|h
 ·rw[ez h,anO h];rfl
 ·rw[h,eF,anQ (show ¬b<b by grind)];rfl
 ·rw[dM h,anQ (show ¬a<b by grind)];rfl
theorem am(a b:Rat):(aD a b==0)=D' (a=b):=by
 rcases(by grind:a<b\/a=b\/b<a)with h|h|h
 ·rw[ez h,anQ (show ¬a=b by grind)];rfl
 ·rw[h,eF,anO rfl];rfl
 ·rw[dM h,anQ (show ¬a=b by grind)];rfl
theorem jf(a b:Rat): -1<=aD a b/\aD a b<=1:=by
 rcases(by grind:a<b\/a=b\/b<a)with h|h|h
 ·rw[ez h];decide
 ·rw[h,eF];decide
 ·rw[dM h];decide
theorem qu{a b c d:Rat}:i64.wrap (aD a b*aD c d)=aD a b*aD c d:=by
 rcases(by grind:a<b\/a=b\/b<a)with h|h|h<;>rcases(by grind:c<d\/c=d\/d<c)with h'|h'|h';all_goals first|rw[ez h]|(subst h;rw[eF])|rw[dM h]
 all_goals first|rw[ez h']|(subst h';rw[eF])|rw[dM h']
 all_goals decide
abbrev Rt:=Rat×Rat×Rat
def gb(a b m:Rat):Int:=RE.addS (aD a 0) (aD b 0*aD m 0) (aD (a*a) (b*b*m))
def Co(A B C D M N:Rat):Int:=bif D' (M<0)||D' (N<0)then 0
 else RE.addS (gb A B M) (gb C D M*aD N 0) (gb (A*A+B*B*M-N*(C*C+D*D*M)) (2*(A*B-N*(C*D))) M)
def aU(x y:Rt):Int:=Co (x.1-y.1) x.2.1 (-y.2.1) 0 x.2.2 y.2.2
theorem zx(a b:Rat):aD (a-b) 0=aD a b:=by
 rcases(by grind:a<b\/a=b\/b<a)with h|h|h
 ·rw[ez h,ez (by grind)]
 ·rw[h,eF,show b-b=0 by grind,eF]
 ·rw[dM h,dM (by grind)]
namespace RE
def rq(m:Rat):RE:=yC (of m)
theorem PX(m:Rat):0<=rq m:=pk _
theorem rn{m:Rat}(h:0<=m):rq m*rq m=of m:=De (oP.2 h)
theorem Vj{x:RE}(h:0<=x):sg (yC x)=sg x:=by
 have h1:=pk x;have h2:=De h;rcases pV h1 with h'|h'
 ·rw[jI h',<-h2,jI (mul_pos h' h')]
 ·rw[h',mul_zero]at h2;rw[h',h2]
theorem NX{m:Rat}(h:0<=m):sg (rq m)=aD m 0:=by
 unfold rq;rw[Vj (oP.2 h),sg_of]
def v2(a b m:Rat):RE:=of a+of b*rq m
def vR(x:Rt):RE:=v2 x.1 x.2.1 x.2.2
theorem sq2(a b s:RE):a*a-b*s*(b*s)=a*a-b*b*(s*s):=by grind
theorem sq4(A B C D s t:RE):(A+B*s)*(A+B*s)-(C+D*s)*t*((C+D*s)*t)=A*A+B*B*(s*s)-t*t*(C*C+D*D*(s*s))+2*(A*B-t*t*(C*D))*s:=by grind
theorem akT(A B C D s t:RE):A+B*s+(C+D*s)*t=A+B*s+C*t+D*(s*t):=by grind
theorem ae1(a b c d s t:RE):a-c+b*s+(-d)*t+0*(s*t)=a+b*s-(c+d*t):=by grind
theorem sgn2_re{a b m:Rat}(h:0<=m):gb a b m=sg (v2 a b m):=by
 unfold v2;rw[Pw,sq2,rn h,uM,sg_of,sg_of,NX h,<-bR,<-bR,<-bR,<-of_sub,sg_of,zx];rfl
theorem af0:of 2=2:=rfl
def vQ(A B C D M N:Rat):RE:=of A+of B*rq M+of C*rq N+of D*(rq M*rq N)
theorem sgnQ_re{A B C D M N:Rat}(hM:0<=M)(hN:0<=N):Co A B C D M N=sg (vQ A B C D M N):=by
 unfold Co vQ;rw[anQ (by grind),anQ (by grind),<-akT,Pw,sq4,rn hM,rn hN,uM,NX hN,sgn2_re hM,sgn2_re hM,sgn2_re hM];unfold v2;simp only[of_sub,of_add,bR,af0];rfl
theorem cmpT_re{x y:Rt}(hx:0<=x.2.2)(hy:0<=y.2.2):aU x y=sg (vR x-vR y):=by
 unfold aU vR v2;rw[sgnQ_re hx hy,<-ae1,<-of_sub,<-of_neg];rfl
end RE
theorem Dz{s t:Int}(hs: -1<=s/\s<=1)(ht: -1<=t/\t<=1): -1<=s*t/\s*t<=1:=by
 have h1:s= -1\/s=0\/s=1:=by omega
 have h2:t= -1\/t=0\/t=1:=by omega
 rcases h1 with rfl|rfl|rfl<;>rcases h2 with rfl|rfl|rfl<;>decide
theorem Ly{s t d:Int}(hs: -1<=s/\s<=1)(ht: -1<=t/\t<=1)(hd: -1<=d/\d<=1): -1<=RE.addS s t d/\RE.addS s t d<=1:=by
 unfold RE.addS;cases(t==0||s==t)
 ·cases s==0
  ·exact Dz hs hd
  ·exact ht
 ·exact hs
theorem gn(a b m:Rat): -1<=gb a b m/\gb a b m<=1:=Ly (jf _ _) (Dz (jf _ _) (jf _ _)) (jf _ _)
theorem Wl(A B C D M N:Rat): -1<=Co A B C D M N/\Co A B C D M N<=1:=by
 unfold Co;cases(decide (M<0)||decide (N<0))
 ·exact Ly (gn _ _ _) (Dz (gn _ _ _) (jf _ _)) (gn _ _ _)
 ·exact⟨by show(-1:Int)<=0;decide,by show(0:Int)<=1;decide⟩
theorem xl(x y:Rt): -1<=aU x y/\aU x y<=1:=Wl _ _ _ _ _ _
theorem np(a b:Int):(b8 a b==0)=D' (a=b):=by
 rcases Int.lt_trichotomy a b with h|h|h
 ·rw[c9 h,anQ (by omega)];rfl
 ·rw[h,dV,anO rfl];rfl
 ·rw[cH h,anQ (by omega)];rfl
def S9:List En:=[enK Cy,enF Uj,enK CT,enK IU,enK PW]
def Xq:NT:=[((243,23),{keep:=[1,2,4,5],hl:=6})]
def Cp:Ctx:=CX (ens S9) Xq
def lm(x:Bool×List Int)(b4_0:Bool)(b4_1:List Int):Cfg:=⟨243,[.blk 0],[(1,.box 0 0),(2,.box 1 0),(4,.box 4 0),(5,.box 5 0)],[.box 36 [SB x.1,.d ard x.2],.box 36 [SB F',.nil],.gone,.row 194 arg ([1]),.box 36 [SB b4_0,.d ard b4_1],.box 36 [SB ((ah (2:Int)).1),.d ard ((ah (2:Int)).2)]],0,[]⟩
def Ec(x:Bool×List Int)(k:KT):OLR:=match x.1 with|T'=>S' [RV.d y3Y (F',[]),RV.d arf 7]|F'=>(match(x.2.length:Int)==0 with|T'=>S' [RV.d y3Y (F',[]),RV.d arf 0]|F'=>(og (D' ((0:Int)<=i64.wrap (Int.tdiv (i64.wrap ((x.2.length:Int)+1)) 2)/\(i64.wrap (Int.tdiv (i64.wrap ((x.2.length:Int)+1)) 2))*((4:Nat):Int)<=140737488355328/\i64.wrap (Int.tdiv (i64.wrap ((x.2.length:Int)+1)) 2)<=140737488355328)) (og (D' (((List.replicate (i64.wrap (Int.tdiv (i64.wrap ((x.2.length:Int)+1)) 2)).toNat (0:Int)).length+([1]).length)*4<=140737488355328/\(List.replicate (i64.wrap (Int.tdiv (i64.wrap ((x.2.length:Int)+1)) 2)).toNat (0:Int)).length+([1]).length<=140737488355328)) (og (D' (bH (2:Int))) (k 23 (lm x F' ((List.replicate (i64.wrap (Int.tdiv (i64.wrap ((x.2.length:Int)+1)) 2)).toNat (0:Int))++([1]))))))))
theorem IW(x:Bool×List Int):RS Cp 243 [.d y3Y x] (Ec x):=rsX
def sJ(x:Bool×List Int)(b4_0:Bool)(b4_1:List Int)(k:KT):OLR:=og (D' (fj x (b4_0,b4_1))) (cX (og (D' (okI (b4_0,b4_1)/\okI (ah (ab x/ab (b4_0,b4_1))))) (cX (og (D' (fj (ah (ab (b4_0,b4_1)+ab (ah (ab x/ab (b4_0,b4_1))))) (ah (2:Int)))) (dup (.b .l .l) (og (D' (okI (ah (ab (ah (ab (b4_0,b4_1)+ab (ah (ab x/ab (b4_0,b4_1)))))/ab (ah (2:Int))))/\okI (b4_0,b4_1))) (match D' ((b8 (ab (ah (ab (ah (ab (b4_0,b4_1)+ab (ah (ab x/ab (b4_0,b4_1)))))/ab (ah (2:Int))))) (ab (b4_0,b4_1)))>=0)with|T'=>S' [RV.d y3Y (b4_0,b4_1),RV.d arf 0]|F'=>k 23 (lm x ((ah (ab (ah (ab (b4_0,b4_1)+ab (ah (ab x/ab (b4_0,b4_1)))))/ab (ah (2:Int)))).1) ((ah (ab (ah (ab (b4_0,b4_1)+ab (ah (ab x/ab (b4_0,b4_1)))))/ab (ah (2:Int)))).2)))))) (dup (.b (.b .l .l) (.b .l .l)) (og (D' (fj (ah (ab (b4_0,b4_1)+ab (ah (ab x/ab (b4_0,b4_1))))) (ah (2:Int)))) (og (D' (okI (ah (ab (ah (ab (b4_0,b4_1)+ab (ah (ab x/ab (b4_0,b4_1)))))/ab (ah (2:Int))))/\okI (b4_0,b4_1))) (match D' ((b8 (ab (ah (ab (ah (ab (b4_0,b4_1)+ab (ah (ab x/ab (b4_0,b4_1)))))/ab (ah (2:Int))))) (ab (b4_0,b4_1)))>=0)with|T'=>S' [RV.d y3Y (b4_0,b4_1),RV.d arf 0]|F'=>k 23 (lm x ((ah (ab (ah (ab (b4_0,b4_1)+ab (ah (ab x/ab (b4_0,b4_1)))))/ab (ah (2:Int)))).1) ((ah (ab (ah (ab (b4_0,b4_1)+ab (ah (ab x/ab (b4_0,b4_1)))))/ab (ah (2:Int)))).2)))))))) (dup (.b .l .l) (cX (og (D' (okI (b4_0,b4_1)/\okI (ah (ab x/ab (b4_0,b4_1))))) (dup (.b .l .l) (og (D' (fj (ah (ab (b4_0,b4_1)+ab (ah (ab x/ab (b4_0,b4_1))))) (ah (2:Int)))) (og (D' (okI (ah (ab (ah (ab (b4_0,b4_1)+ab (ah (ab x/ab (b4_0,b4_1)))))/ab (ah (2:Int))))/\okI (b4_0,b4_1))) (match D' ((b8 (ab (ah (ab (ah (ab (b4_0,b4_1)+ab (ah (ab x/ab (b4_0,b4_1)))))/ab (ah (2:Int))))) (ab (b4_0,b4_1)))>=0)with|T'=>S' [RV.d y3Y (b4_0,b4_1),RV.d arf 0]|F'=>k 23 (lm x ((ah (ab (ah (ab (b4_0,b4_1)+ab (ah (ab x/ab (b4_0,b4_1)))))/ab (ah (2:Int)))).1) ((ah (ab (ah (ab (b4_0,b4_1)+ab (ah (ab x/ab (b4_0,b4_1)))))/ab (ah (2:Int)))).2))))))) (og (D' (okI (b4_0,b4_1)/\okI (ah (ab x/ab (b4_0,b4_1))))) (og (D' (fj (ah (ab (b4_0,b4_1)+ab (ah (ab x/ab (b4_0,b4_1))))) (ah (2:Int)))) (og (D' (okI (ah (ab (ah (ab (b4_0,b4_1)+ab (ah (ab x/ab (b4_0,b4_1)))))/ab (ah (2:Int))))/\okI (b4_0,b4_1))) (match D' ((b8 (ab (ah (ab (ah (ab (b4_0,b4_1)+ab (ah (ab x/ab (b4_0,b4_1)))))/ab (ah (2:Int))))) (ab (b4_0,b4_1)))>=0)with|T'=>S' [RV.d y3Y (b4_0,b4_1),RV.d arf 0]|F'=>k 23 (lm x ((ah (ab (ah (ab (b4_0,b4_1)+ab (ah (ab x/ab (b4_0,b4_1)))))/ab (ah (2:Int)))).1) ((ah (ab (ah (ab (b4_0,b4_1)+ab (ah (ab x/ab (b4_0,b4_1)))))/ab (ah (2:Int)))).2)))))))))
theorem yL(x:Bool×List Int)(b4_0:Bool)(b4_1:List Int):RN Cp 23 (lm x b4_0 b4_1) (sJ x b4_0 b4_1):=rnX
theorem LH(x:BI)(hx:okI x)(h0:0<ab x):∀(m:Nat) (X:Int),X.toNat=m->0<X->bL (ab x)<=X->szI X<=900000->Cp.Runs 23 (lm x (ah X).1 (ah X).2) [.d y3Y (ah (bL (ab x))),.d arf 0]:=by
 intro m;induction m using Nat.strongRecOn with
 |ind m ih=>
  intro X hm hX hs hsz;obtain⟨g0,g1,g2⟩:=fR (aow h0);have hq0:0<=ab x/X:=aoO (by omega) (by omega);have hq1:ab x/X<=ab x:=apI _ (by omega);have oX:okI (ah X):=aS (by omega);have sq:szI (ab x/X)<=1000000:=an0 (dA (by omega)) (iS hx);have p1:fj x (ah X):=⟨hx,oX,by rw[dec_enc];exact hX⟩
  have ssum:szI (X+ab x/X)<=1000000:=by
   have b1:=oH hsz;have b2:=oH (iS hx);have e:pw 1000000=pw 900000*pw 100000:=by rw[<-fo]
   have p9:(1000:Int)<=pw 100000:=by
    have:pw 100000=pw 99999*1000000000:=bW 99999;have:=cg 99999;omega
   have p8:=cg 900000;have h8:pw 900000*1000<=pw 900000*pw 100000:=anV p9 (by omega);rcases aoj X 2 with hX1|hX1
   ·-- X=1:then the number is less than 4
    have:X=1:=by omega
    subst this;have:bL (ab x)<=1:=hs
    have h4:ab x<4:=by
     have:=t7 (a:=bL (ab x)+1) (b:=2) (by omega) (by omega);omega
    refine fc ?_ ?_<;>(rw[e,Int.ediv_one];omega)
   ·have hq2:ab x/X<=ab x/2:=by
     have:=Int.ediv_mul_le (ab x) (show X≠0 by omega);have h2:ab x/X*2<=ab x/X*X:=anV hX1 hq0;omega
    refine fc ?_ ?_<;>(rw[e]at b2 ⊢;omega)
  have o1:okI (ah X)/\okI (ah (ab x/X)):=⟨oX,aS sq⟩
  have p2:fj (ah (X+ab x/X)) (ah 2):=⟨aS ssum,by decide,by rw[dec_enc];decide⟩
  have hn:=SQ hX g0 g1;have o2:okI (ah ((X+ab x/X)/2))/\okI (ah X):=⟨aS (an0 (dA (by omega)) ssum),oX⟩
  by_cases hc:X<=(X+ab x/X)/2
  ·have hXs:=Ae hX hs g1 g2 g0 hc;refine yL _ _ _ ⟨0,?_⟩;unfold sJ;simp only[cQ,dg];have e:∀z:Int,((ah z).1,(ah z).2)=ah z:=λz=>rfl;simp only[e,dec_enc,anO p1,anO o1,anO p2,anO o2]
   have hg:D' (b8 ((X+ab x/X)/2) X>=0)=true:=by
    rcases Int.lt_or_eq_of_le hc with h|h
    ·rw[cH h];rfl
    ·rw[<-h,dV];rfl
   rw[hg,hXs]
  ·obtain⟨n,hN⟩:=ih ((X+ab x/X)/2).toNat (by omega) ((X+ab x/X)/2) rfl (by
    rcases aoj 0 (bL (ab x))with h|h
    ·omega
    ·exfalso;have:bL (ab x)=0:=by omega
     rw[this]at g2;omega) hn (an0 (dA (by omega)) hsz)
   refine yL _ _ _ ⟨n,?_⟩;unfold sJ;simp only[cQ,dg];have e:∀z:Int,((ah z).1,(ah z).2)=ah z:=λz=>rfl;simp only[e,dec_enc,anO p1,anO o1,anO p2,anO o2];rw[c9 (by omega)];exact hN
def afA:Cn 243 [y3Y]:=cn λ(x:Bool×List Int)=>lf (okI x) [.d y3Y (fy x),.d arf (wz x)] λh=>by
 refine bj S9 (show Cp.Res _ _ _ from ?_);obtain⟨x0,x1,x2⟩:=cp h;have hl:=h.2.2;cases hn:x.1
 ·by_cases hz:x.2=[]
  ·refine IW _ ⟨0,?_⟩;unfold Ec fy wz;have:ab x=0:=by unfold ab;rw[hn,hz];rfl
   rw[hn,hz,this];rfl
  ·have hp:0<val x.2:=eD h.1 hz;have hd:ab x=val x.2:=by unfold ab;rw[hn];rfl
   have hlen:=aoy.2 hz
   have hk:i64.wrap (Int.tdiv (i64.wrap ((x.2.length:Int)+1)) 2)=(((x.2.length+1)/2:Nat):Int):=by
    rw[aT (by omega),gJ (by omega),aM (by omega) (by omega)];omega
   have hv:val (List.replicate ((x.2.length+1)/2) 0++[1])=pw ((x.2.length+1)/2):=by
    rw[dD,gv,apX];simp[val]
   have hL:aQ (List.replicate ((x.2.length+1)/2) 0++[1]):=by
    refine⟨λy hy=>?_,by simp;omega⟩;rcases aod.1 hy with hy|hy
    ·have:=List.eq_of_mem_replicate hy;omega
    ·simp at hy;omega
   have hpos:=cg ((x.2.length+1)/2)
   obtain⟨n,hN⟩:=LH x h (by omega) _ (pw ((x.2.length+1)/2)) rfl hpos (by
     obtain⟨g0,g1,g2⟩:=fR (show 0<=ab x by omega);have hlt:=bU h.1.1;have hm:=du (show x.2.length<=(x.2.length+1)/2+(x.2.length+1)/2 by omega);rw[fo]at hm;have:=sq_lt (a:=bL (ab x)) (b:=pw ((x.2.length+1)/2)) (by omega) (by omega)
     omega) (fc (k:=900000) (by have:=cg 900000;omega) (by
      have:=du (show(x.2.length+1)/2+1<=900000 by omega);rw[bW]at this;omega))
   refine IW _ ⟨n,?_⟩;unfold Ec fy wz;simp only[hk];rw[hn,show((x.2.length:Int)==0)=F' by simp;omega];simp only[apN];rw[anO (show(0:Int)<=(((x.2.length+1)/2:Nat):Int)/\(((x.2.length+1)/2:Nat):Int)*((4:Nat):Int)<=140737488355328/\(((x.2.length+1)/2:Nat):Int)<=140737488355328 by omega)];rw[anO (show((List.replicate ((x.2.length+1)/2) (0:Int)).length+([1]:List Nat).length)*4<=140737488355328/\(List.replicate ((x.2.length+1)/2) (0:Int)).length+([1]:List Nat).length<=140737488355328 by simp;omega)];rw[anO (show bH 2 by decide)]
   have he:ah (pw ((x.2.length+1)/2))=(F',List.replicate ((x.2.length+1)/2) 0++[1]):=by
    have ho:okI ((F',List.replicate ((x.2.length+1)/2) 0++[1]):BI):=⟨⟨hL.1,by simp⟩,(λe=>by cases e),(by simp;omega)⟩
    rw[iu ho];congr 1;exact hv.symm
   rw[he]at hN;exact hN
 ·refine IW _ ⟨0,?_⟩;unfold Ec fy wz;rw[hn];rfl
def aji:List En:=enF yH::S9
def SF(x y:Bool×List Int)(_k:KT):OLR:=match x.1==y.1 with|T'=>(og (D' (sL x.2 y.2)) (S' [RV.d .bool ((b8 (val x.2) (val y.2))==0)]))|F'=>S' [RV.d .bool F']
def NH:Cn 244 [y3Y,y3Y]:=cn λ(x y:Bool×List Int)=>lf (okI x/\okI y) [.d .bool (D' (ab x=ab y))] λh=>by
 refine aA aji (SF x y) ⟨0,?_⟩;obtain⟨hx,hy⟩:=h;obtain⟨x0,x1,x2⟩:=cp hx;obtain⟨y0,y1,y2⟩:=cp hy;unfold SF;rw[dT (show sL x.2 y.2 from⟨⟨hx.1,by have:=hx.2.2;omega⟩,⟨hy.1,by have:=hy.2.2;omega⟩⟩)];rw[bO,bO];unfold bZ;cases ex:x.1<;>cases ey:y.1<;>simp only[cond_true,cond_false]
 ·show S' [RV.d .bool (b8 (val x.2) (val y.2)==0)]=_;rw[np]
 ·have:=y1 ey;rw[anQ (show ¬val x.2= -val y.2 by omega)];rfl
 ·have:=x1 ex;rw[anQ (show ¬ -val x.2=val y.2 by omega)];rfl
 ·show S' [RV.d .bool (b8 (val x.2) (val y.2)==0)]=_;rw[np,show D' (val x.2=val y.2)=D' (-val x.2= -val y.2) from aqg.2 (by omega)]
def eH(q:Rat):Bool:=D' (bL q.num*bL q.num=q.num)&&D' (bL (q.den:Int)*bL (q.den:Int)=(q.den:Int))
def rtQ(q:Rat):Rat:=mkRat (bL q.num) (bL (q.den:Int)).toNat
theorem DH(z:Int):0<=bL z:=by unfold bL;omega
theorem Ck{s:Int}(h:0<=s):bL (s*s)=s:=Wv h (aq7 _) (by grind)
theorem pj{z:Int}(h:z<0):bL z=0:=by
 unfold bL;rw[show z.toNat=0 by omega];rfl
theorem ak8{s t:Nat}(ht:0<t)(hg:(s*s).Coprime (t*t)):(mkRat (s:Int) t).num=(s:Int)/\(mkRat (s:Int) t).den=t:=by
 have hc:s.Coprime t:=Nat.Coprime.coprime_dvd_left (Nat.dvd_mul_left s s) (Nat.Coprime.coprime_dvd_right (Nat.dvd_mul_left t t) hg);rw[aqS,aqT,aog (by omega),aog (by omega),apZ,show t.gcd s=1 from hc.symm];simp
theorem I1{q:Rat}(h:eH q=T'):(rtQ q).num=bL q.num/\((rtQ q).den:Int)=bL (q.den:Int)/\rtQ q*rtQ q=q/\0<=rtQ q:=by
 unfold eH at h;simp only[anS,apj]at h;obtain⟨h1,h2⟩:=h;have hd:=q.den_pos;have hr:=q.reduced;obtain⟨s,hs⟩:=ao2 (DH q.num);obtain⟨t,ht⟩:=ao2 (DH (q.den:Int));unfold rtQ;rw[hs,ht,apN];rw[hs]at h1;rw[ht]at h2;have e1:q.num.natAbs=s*s:=by rw[<-h1,<-ao8,apZ]
 have e2:q.den=t*t:=by rw[<-ao8]at h2;omega
 have hg:(s*s).Coprime (t*t):=by rw[<-e1,<-e2];exact hr
 have tp:0<t:=aqm λe=>by rw[e2,e]at hd;simp at hd
 obtain⟨g1,g2⟩:=ak8 tp hg;refine⟨g1,by rw[g2],?_,?_⟩
 ·rw[Rat.mkRat_mul_mkRat,<-e2,h1,Rat.mkRat_self]
 ·exact Rat.num_nonneg.1 (by rw[g1];omega)
theorem Lm(r:Rat):eH (r*r)=true:=by
 have hd:=r.den_pos
 have hc:(r.den*r.den).gcd (r.num*r.num).natAbs=1:=by
  rw[Int.natAbs_mul];have:=r.reduced.symm;exact Nat.Coprime.mul_left (Nat.Coprime.mul_right this this) (Nat.Coprime.mul_right this this)
 have e1:(r*r).num=r.num*r.num:=by
  rw[Rat.mul_def',aqS,hc,aog (Nat.mul_ne_zero (by omega) (by omega))];simp
 have e2:((r*r).den:Int)=(r.den:Int)*(r.den:Int):=by
  rw[Rat.mul_def',aqT,hc,aog (Nat.mul_ne_zero (by omega) (by omega)),Nat.div_one,ao8]
 unfold eH;rw[e1,e2,Ck (s:=(r.den:Int)) (by omega)];rcases aoj r.num 0 with h|h
 ·rw[show r.num*r.num= -r.num* -r.num by grind,Ck (by omega)];simp
 ·rw[Ck h];simp
def rtB(q:Rat):BR:=bif eH q then av (rtQ q)else((F',[]),(F',[]))
theorem C1{x:BI}(h:okI x):fy x=ah (bL (ab x)):=by
 obtain⟨x0,x1,x2⟩:=cp h;unfold fy;cases hx:x.1
 ·rfl
 ·have:=x1 hx;have hd:ab x= -val x.2:=by rw[bO,hx];rfl
  rw[hd,pj (by omega)];rfl
theorem Jc{z:Int}(h:szI z<=1000000):szI (bL z)<=500000:=by
 have h1:=oH h;have e:pw 1000000=pw 500000*pw 500000:=by rw[<-fo]
 have hp:=cg 500000;rcases aoj z 0 with h0|h0
 ·rw[pj h0];exact fc (by omega) hp
 ·obtain⟨g0,g1,g2⟩:=fR h0;have:=sq_lt (a:=bL z) (b:=pw 500000) (by omega) (by omega);exact fc (by omega) this
theorem Uf(a b:Int):(ah a==ah b)=D' (a=b):=by
 by_cases h:a=b
 ·rw[h,anO rfl];simp
 ·rw[anQ h,aom];intro e;exact h (by rw[<-dec_enc a,e,dec_enc])
theorem Jz{x y:BI}(hx:okI x)(hy:okI y):(x==y)=D' (ab x=ab y):=by
 rw[iu hx,iu hy,Uf,dec_enc,dec_enc]
def Dr:cE:=spN T' T' [tI,tI] (λx=>D' (okI x.1/\okI x.2.1)) (λx=>[RV.d arf (b8 (ab x.1) (ab x.2.1))])
theorem ze:SpK 108 Dr:=spX λx h=>Do x.1 x.2.1 (anP h)
def Id:cE:=spN F' T' [tI,tI] (λx=>D' (okI x.1/\okI x.2.1)) (λx=>[RV.d tI (hid (ah (ab x.1*ab x.2.1)))])
theorem GA:SpK 109 Id:=spX λx h=>by simp only[aR];exact D0 x.1 x.2.1 (anP h)
def XX:List En:=[⟨108,Dr,ze⟩,⟨109,Id,GA⟩,enL aaP]
def abr(x:BI)(_k:KT):OLR:=og (D' (okI x)) (match(wz x)==0 with|T'=>(og (D' (okI (hid (fy x))/\okI (hid (fy x)))) (og (D' (okI (hid (ah (ab (hid (fy x))*ab (hid (fy x)))))/\okI x)) (S' [RV.d tI (hid (fy x)),RV.d .bool ((b8 (ab (hid (ah (ab (hid (fy x))*ab (hid (fy x)))))) (ab x))==0)])))|F'=>S' [RV.d tI (hid (fy x)),RV.d .bool F'])
def agP:Cn 287 [tI]:=cn λ(x:BI)=>lf (okI x) [.d tI (ah (bL (ab x))),.d .bool (D' (bL (ab x)*bL (ab x)=ab x))] λh=>by
 refine aA XX (abr x) ⟨0,?_⟩;have hs:=iS h;have hz:szI (bL (ab x))<=500000:=Jc hs;have o1:okI (ah (bL (ab x))):=aS (by omega);have o2:okI (ah (bL (ab x)*bL (ab x))):=aS (by have:=cK hz hz;omega);have o3:okI (ah (bL (ab x)*bL (ab x)))/\okI x:=⟨o2,h⟩
 have o4:okI (ah (bL (ab x)))/\okI (ah (bL (ab x))):=⟨o1,o1⟩
 have hng:x.1=T'->D' (bL (ab x)*bL (ab x)=ab x)=false:=λe=>anQ (by
  have:=(cp h).2.1 e;have hd:ab x= -val x.2:=by rw[bO,e];rfl
  rw[pj (by omega)];omega)
 unfold abr;simp only[aR,C1 h,dec_enc,dT h,dT o4,dT o3,np];unfold wz;cases e:x.1
 ·rfl
 ·rw[hng e];rfl
def ahR:List En:=enL agP::XX
def ZB(a:BR)(_k:KT):OLR:=og (D' (okI a.1)) (match D' (bL (ab a.1)*bL (ab a.1)=ab a.1)with|T'=>(og (D' (okI a.2)) (match D' (bL (ab a.2)*bL (ab a.2)=ab a.2)with|T'=>S' [RV.d tR (hid (ah (bL (ab a.1))),hid (ah (bL (ab a.2)))),RV.d .bool T']|F'=>S' [RV.d tR ((F',[]),(F',[])),RV.d .bool F']))|F'=>S' [RV.d tR ((F',[]),(F',[])),RV.d .bool F'])
def aah:Cn 216 [tR]:=cn λ(a:BR)=>lf (okR a) [.d tR (rtB (ag a)),.d .bool (eH (ag a))] λh=>by
 refine aA ahR (ZB a) ⟨0,?_⟩;obtain⟨a1,a2⟩:=cN h;unfold ZB rtB eH;rw[dT h.1,dT h.2.1,a1,a2];simp only[aR];cases e1:D' (bL (ab a.1)*bL (ab a.1)=ab a.1)
 ·rfl
 ·cases e2:D' (bL (ab a.2)*bL (ab a.2)=ab a.2)
  ·rfl
  ·obtain⟨r1,r2,_⟩:=I1 (q:=ag a) (by unfold eH;rw[a1,a2,e1,e2];rfl);simp only[aoW,cond_true];unfold av;rw[r1,r2,a1,a2];try rfl
def N9:List En:=[enL Py,enL afA,enT NH]
def Un(x:BI)(_k:KT):OLR:=og (D' (okI x)) (match(wz x)==0 with|T'=>(og (D' (okI (hid (fy x))/\okI (hid (fy x)))) (og (D' (okI (hid (ah (ab (hid (fy x))*ab (hid (fy x)))))/\okI x)) (S' [RV.d tI (hid (fy x)),RV.d .bool (D' (ab (hid (ah (ab (hid (fy x))*ab (hid (fy x)))))=ab x))])))|F'=>S' [RV.d tI (hid (fy x)),RV.d .bool F'])
def acE:Cn 166 [tI]:=cn λ(x:BI)=>lf (okI x) [.d tI (ah (bL (ab x))),.d .bool (D' (bL (ab x)*bL (ab x)=ab x))] λh=>by
 refine aA N9 (Un x) ⟨0,?_⟩;have hs:=iS h;have hz:szI (bL (ab x))<=500000:=Jc hs;have o1:okI (ah (bL (ab x))):=aS (by omega);have o2:okI (ah (bL (ab x)*bL (ab x))):=aS (by have:=cK hz hz;omega);have o3:okI (ah (bL (ab x)*bL (ab x)))/\okI x:=⟨o2,h⟩
 have o4:okI (ah (bL (ab x)))/\okI (ah (bL (ab x))):=⟨o1,o1⟩
 have hng:x.1=T'->D' (bL (ab x)*bL (ab x)=ab x)=false:=λe=>anQ (by
  have:=(cp h).2.1 e;have hd:ab x= -val x.2:=by rw[bO,e];rfl
  rw[pj (by omega)];omega)
 unfold Un;simp only[aR,C1 h,dec_enc,dT h,dT o4,dT o3];unfold wz;cases e:x.1
 ·rfl
 ·rw[hng e];rfl
def acN:List En:=enL acE::N9
def N7(a:BR)(_k:KT):OLR:=og (D' (okI a.1)) (og (D' (okI a.2)) (match !(D' (bL (ab a.1)*bL (ab a.1)=ab a.1))with|T'=>S' [RV.d tR ((F',[]),(F',[])),RV.d .bool F']|F'=>(match !(D' (bL (ab a.2)*bL (ab a.2)=ab a.2))with|T'=>S' [RV.d tR ((F',[]),(F',[])),RV.d .bool F']|F'=>S' [RV.d tR (hid (ah (bL (ab a.1))),hid (ah (bL (ab a.2)))),RV.d .bool T'])))
def G8:Cn 84 [tR]:=cn λ(a:BR)=>lf (okR a) [.d tR (rtB (ag a)),.d .bool (eH (ag a))] λh=>by
 refine aA acN (N7 a) ⟨0,?_⟩;obtain⟨a1,a2⟩:=cN h;unfold N7 rtB eH;rw[dT h.1,dT h.2.1,a1,a2];simp only[aR];cases e1:D' (bL (ab a.1)*bL (ab a.1)=ab a.1)
 ·rfl
 ·cases e2:D' (bL (ab a.2)*bL (ab a.2)=ab a.2)
  ·rfl
  ·obtain⟨r1,r2,_⟩:=I1 (q:=ag a) (by unfold eH;rw[a1,a2,e1,e2];rfl);simp only[aoW,cond_true];unfold av;rw[r1,r2,a1,a2];try rfl
def Rr:cE:=spN F' T' [tI,tI] (λx=>D' (fj x.1 x.2.1)) (λx=>[RV.d tI (hid (ah (ab x.1/ab x.2.1))),RV.d tI (hid (ah (ab x.1%ab x.2.1))),RV.d arf 0])
theorem UF:SpK 321 Rr:=spX λx h=>by simp only[aR];exact Ko x.1 x.2.1 (anP h)
def agN:List En:=[⟨321,Rr,UF⟩]
def abm(a:BR)(_k:KT):OLR:=og (D' (fj a.1 a.2)) (S' [RV.d tI (hid (ah (ab a.1/ab a.2)))])
def BS:Cn 309 [tR]:=cn λ(a:BR)=>lf (okR a) [.d tI (ah (ag a).floor)] λh=>by
 refine aA agN (abm a) ⟨0,?_⟩;obtain⟨a1,a2⟩:=cN h;unfold abm;rw[dT (show fj a.1 a.2 from⟨h.1,h.2.1,h.2.2.1⟩),Rat.floor_def,a1,a2];simp only[aR]
def Yw:List En:=[enK z0]
def Xz:NT:=[((278,6),{keep:=[1,3],hl:=1})]
def CZ:Ctx:=CX (ens Yw) Xz
def xi(x:BI)(s3:Int):Cfg:=⟨278,[.blk 0,.seq 23],[(1,.box 0 0),(3,SI s3)],[.box 36 [SB x.1,.d ard x.2]],0,[]⟩
def afN(x:BI)(k:KT):OLR:=k 6 (xi x 0)
theorem adN(x:BI):RS CZ 278 [.d tI x] (afN x):=rsX
def vV(x:BI)(s3:Int)(k:KT):OLR:=match D' (s3<(x.2.length:Int))with|T'=>(match aH x.2 s3 with|S' x1=>(match D' (x1>=1000000000)with|T'=>S' [RV.d .bool F']|F'=>k 6 (xi x (i64.wrap (s3+1))))|N'=>N')|F'=>(og (D' (aQ x.2)) (match((ae (val x.2).toNat).length:Int)==(x.2.length:Int)with|T'=>(match !x.1 with|T'=>S' [RV.d .bool T']|F'=>S' [RV.d .bool (D' ((x.2.length:Int)>0))])|F'=>S' [RV.d .bool F']))
theorem A0(x:BI)(s3:Int):RN CZ 6 (xi x s3) (vV x s3):=rnX
theorem MZ(x:BI)(h:okI x):∀(j i:Nat),i+j=x.2.length->CZ.Runs 6 (xi x (i:Int)) [.d .bool T']:=by
 obtain⟨x0,x1,x2⟩:=cp h;have hlim:=fu h;have hl:=h.2.2;intro j;induction j with
 |zero=>
  intro i hi;refine A0 _ _ ⟨0,?_⟩;unfold vV;have hc:ae (val x.2).toNat=x.2:=(o9 h.1).symm;rw[a8 (by omega),dT hlim,hc,beq_self_eq_true];dsimp only;cases e:x.1
  ·rfl
  ·have:=x1 e;have:x.2≠[]:=λe=>by rw[x2]at e;omega
   have:=aoy.2 this;rw[anO (by omega)];rfl
 |succ j ih=>
  intro i hi;have hil:i<x.2.length:=by omega
  obtain⟨q,hq⟩:=ih (i+1) (by omega);refine A0 _ _ ⟨q,?_⟩;unfold vV;have hb:=(hlim.1 x.2[i] (anY hil)).2;rw[aO hil,ak,anN hil,aT (by omega)];dsimp only;rw[anQ (by omega)];exact hq
def adt:Cn 278 [tI]:=cn λ(x:BI)=>lf (okI x) [.d .bool T'] λh=>by
 refine bj Yw (show CZ.Res _ _ _ from ?_);obtain⟨q,hq⟩:=MZ x h x.2.length 0 (by omega);exact adN _ ⟨q,hq⟩
def alO:List En:=[enT NH,enT adt,enT O3,enL Q1,enL S7]
def R7(a:BR)(_k:KT):OLR:=og (D' (okI a.1)) (og (D' (okI a.2)) (og (D' (okI a.2)) (match(b8 (ab a.2) 0) !=1 with|T'=>S' [RV.d .bool F']|F'=>(og (D' (okI a.1/\okI a.2)) (og (D' (okI (hid (ah ((Int.gcd (ab a.1) (ab a.2):Nat):Int)))/\okI (hid (ah 1)))) (S' [RV.d .bool (D' (ab (hid (ah ((Int.gcd (ab a.1) (ab a.2):Nat):Int)))=ab (hid (ah 1))))]))))))
def O8:Cn 203 [tR]:=cn λ(a:BR)=>lf (okR a) [.d .bool T'] λh=>by
 refine aA alO (R7 a) ⟨0,?_⟩;obtain⟨h1,h2,h3,h4,_⟩:=h;have o1:okI (ah ((Int.gcd (ab a.1) (ab a.2):Nat):Int)):=by rw[h4];exact lP
 unfold R7;simp only[aR];rw[dT h1,dT h2,dT (show okI a.1/\okI a.2 from⟨h1,h2⟩),cH h3,dT (show okI (ah ((Int.gcd (ab a.1) (ab a.2):Nat):Int))/\okI (ah 1) from⟨o1,lP⟩),dec_enc,dec_enc,h4];rfl
def mkR(a b c:Rat):Rt:=bif eH c then(a+b*rtQ c,0,0)else bif D' (b=0)then(a,0,0)else(a,b,c)
def coR(a b c:Rat):Rt:=bif D' (b=0)then(a,0,0)else(a,b,c)
class Nn (c:Rat):Prop where le:0<=c
def W6(x:Rt):Prop:=(x.2.1=0/\x.2.2=0)\/(x.2.1≠0/\0<x.2.2/\eH x.2.2=F')
instance (x:Rt):Decidable (W6 x):=by unfold W6;infer_instance
class Rdd (x:Rt):Prop where
 rd:W6 x
def okT(k:Nat)(x:BO3):Prop:=ok Rt k x/\W6 (dec x)
instance (k:Nat) (x:BO3):Decidable (okT k x):=by unfold okT;infer_instance
theorem gD{k:Nat}{x:BO3}(h:okT k x):∃v:Rt,x=enc v/\Bd v k/\Rdd v:=by
 obtain⟨h1,h2⟩:=h;obtain⟨v,rfl,bv⟩:=aL h1;rw[aq]at h2;exact⟨v,rfl,bv,⟨h2⟩⟩
theorem aI{x:Rt}{j k:Nat}[h:Bd x j][r:Rdd x](hj:j<=k)(hk:k<=480000):D' (okT k (enc x))=true:=anO ⟨anP (okd hj hk),by rw[aq];exact r.rd⟩
theorem Rdd.nn{x:Rt}(h:Rdd x):0<=x.2.2:=by
 rcases h.rd with h|h<;>grind
instance anG {x:Rt} [h:Rdd x]:Nn x.2.2:=⟨h.nn⟩
theorem ye:eH 0=true:=by decide+kernel
theorem JV{c:Rat}(h:0<=c)(hc:eH c=F'):0<c:=by
 rcases(by grind:c=0\/0<c)with h|h
 ·rw[h,ye]at hc;cases hc
 ·exact h
instance Fr {a b c:Rat} [h:Nn c]:Rdd (mkR a b c):=by
 refine⟨?_⟩;unfold mkR;cases hc:eH c
 ·simp only[cond_false];by_cases hb:b=0
  ·rw[anO hb];exact .inl ⟨rfl,rfl⟩
  ·rw[anQ hb];exact .inr ⟨hb,JV h.le hc,hc⟩
 ·exact .inl ⟨rfl,rfl⟩
instance amK {a:Rat}:Rdd (a,0,0):=⟨.inl ⟨rfl,rfl⟩⟩
namespace RE
theorem Ud{c:Rat}(h:eH c=T'):rq c=of (rtQ c):=by
 obtain⟨_,_,e,h0⟩:=I1 h;refine abI _ _ (PX c) (oP.2 h0) ?_;rw[rn (by rw[<-e];exact aoE h0 h0),<-bR,e]
theorem eu(a c:Rat):v2 a 0 c=of a:=by
 unfold v2;rw[qk,zero_mul,add_zero]
theorem vR_mk(a b c:Rat):vR (mkR a b c)=v2 a b c:=by
 unfold mkR vR;cases hc:eH c
 ·simp only[cond_false];by_cases hb:b=0
  ·rw[anO hb];subst hb;show v2 a 0 0=_;rw[eu,eu]
  ·rw[anQ hb];rfl
 ·show v2 (a+b*rtQ c) 0 0=_;rw[eu];unfold v2;rw[Ud hc,of_add,bR]
theorem vR_co(a b c:Rat):vR (coR a b c)=v2 a b c:=by
 unfold coR vR;by_cases hb:b=0
 ·rw[anO hb];subst hb;show v2 a 0 0=_;rw[eu,eu]
 ·rw[anQ hb];rfl
end RE
theorem VW{z:Int}(h:0<=z):bL z<=z:=by
 obtain⟨g0,g1,g2⟩:=fR h;rcases aoj (bL z) 1 with h'|h'
 ·omega
 ·have:bL z*1<=bL z*bL z:=anV h' g0;omega
theorem E1(z:Int):szI (bL z)<=szI z:=by
 have h0:=DH z;rcases aoj z 0 with h|h
 ·rw[pj h];exact dA (by omega)
 ·have:=VW h;exact dA (by omega)
instance ant {c:Rat} {k:Nat} [h:Bd c k]:Bd (rtQ c) k:=by
 have hd:=c.den_pos
 have h1:0<bL (c.den:Int):=by
  obtain⟨g0,g1,g2⟩:=fR (show(0:Int)<=(c.den:Int) by omega);rcases aoj 0 (bL (c.den:Int))with h|h
  ·exact h
  ·rw[show bL (c.den:Int)=0 by omega]at g2;omega
 refine⟨vg (by omega) (an0 (E1 _) h.le.1) ?_⟩;rw[aqL (by omega)];exact an0 (E1 _) h.le.2
instance anb {a b c:Rat} {i j k:Nat} [ha:Bd a i] [hb:Bd b j] [hc:Bd c k]:Bd (mkR a b c) (i+(j+k)+1):=by
 have z:bdR (i+(j+k)+1) 0:=ce ue.le (by omega);refine⟨?_⟩;unfold mkR;cases eH c
 ·simp only[cond_false];cases D' (b=0)
  ·exact⟨ce ha.le (by omega),ce hb.le (by omega),ce hc.le (by omega)⟩
  ·exact⟨ce ha.le (by omega),z,z⟩
 ·exact⟨(inferInstance:Bd (a+b*rtQ c) (i+(j+k)+1)).le,z,z⟩
instance ang {a b c:Rat} {i j k:Nat} [ha:Bd a i] [hb:Bd b j] [hc:Bd c k]:Bd (coR a b c) (mx i (mx j k)):=by
 have h1:=Mq i (mx j k);have h2:=MV i (mx j k);have h3:=Mq j k;have h4:=MV j k;have h5:=rG ha.le;have z:bdR (mx i (mx j k)) 0:=ce ue.le (by omega);refine⟨?_⟩;unfold coR;cases D' (b=0)
 ·exact⟨ce ha.le (by omega),ce hb.le (by omega),ce hc.le (by omega)⟩
 ·exact⟨ce ha.le (by omega),z,z⟩
class Ns (c:Rat):Prop where ns:c=0\/(0<c/\eH c=F')
theorem Ns.nn{c:Rat}(h:Ns c):0<=c:=by rcases h.ns with h|h<;>grind
instance anv {c:Rat} [h:Ns c]:Nn c:=⟨h.nn⟩
def sgR(x:Rt):Int:=gb x.1 x.2.1 x.2.2
def noR(x:Rt):Rat:=x.1*x.1-x.2.1*x.2.1*x.2.2
theorem RY{x:Rt}(h:0<=x.2.2):sgR x=RE.sg (RE.vR x):=RE.sgn2_re h
def iN(a b c:Rat):Rt:=bif D' (b=0)then(a,0,0)else bif D' (c=0)then(a,0,0)else(a,b,c)
instance am0 {x:Rt} {k:Nat} [h:Bd x k]:Bd (noR x) (5*k+1):=(inferInstance:Bd (x.1*x.1-x.2.1*x.2.1*x.2.2) (k+k+(k+k+k)+1)).mono (by omega)
theorem PV{c:Rat}(h:eH c=T'):rtB c=av (rtQ c):=by unfold rtB;rw[h];rfl
theorem acX{x:Rt}(h:Rdd x)(hb:x.2.1≠0):noR x≠0:=by
 intro e;rcases h.rd with h|⟨_,h1,h2⟩
 ·exact hb h.1
 ·unfold noR at e;have:x.2.2=x.1/x.2.1*(x.1/x.2.1):=by grind
  rw[this,Lm]at h2;cases h2
theorem XZ{x:Rt}(h:Rdd x):sgR x=bif aD x.2.1 0==0 then aD x.1 0 else bif aD x.1 0==aD x.2.1 0 then aD x.1 0 else bif aD x.1 0==0 then aD x.2.1 0 else aD x.1 0*aD (noR x) 0:=by
 unfold sgR gb RE.addS;rcases h.rd with⟨h1,h2⟩|⟨h0,h1,h2⟩
 ·rw[h1,eF];simp
 ·have hb:(aD x.2.1 0==0)=false:=by rw[am,anQ h0]
  rw[dM h1,aqv,hb];unfold noR;rw[zx];rfl
def i7:cE:=spN F' T' [arf] (λx=>D' (bH x.1)) (λx=>[RV.d tR (hid (av (x.1:Rat)))])
theorem ff:SpK 194 i7:=spX λx h=>by simp only[aR];exact Ke x.1 (anP h)
def oB:cE:=spN F' T' [tR,tR] (λx=>D' (okR x.1/\okR x.2.1)) (λx=>[RV.d tR (hAd x.1 x.2.1)])
theorem jv:SpK 122 oB:=spX λx h=>by simp only[aR];exact DU x.1 x.2.1 (anP h)
def mn:cE:=spN F' T' [tR,tR] (λx=>D' (okR x.1/\okR x.2.1)) (λx=>[RV.d tR (hSu x.1 x.2.1)])
theorem im:SpK 165 mn:=spX λx h=>by simp only[aR];exact JH x.1 x.2.1 (anP h)
def jO:cE:=spN F' T' [tR,tR] (λx=>D' (okR x.1/\okR x.2.1)) (λx=>[RV.d tR (hMu x.1 x.2.1)])
theorem fL:SpK 123 jO:=spX λx h=>by simp only[aR];exact Lz x.1 x.2.1 (anP h)
def fp:cE:=spN T' T' [tR] (λx=>D' (okR x.1)) (λx=>[RV.d arf (aD (ag x.1) 0)])
theorem dJ:SpK 94 fp:=spX λx h=>Ei x.1 (anP h)
def Qo:List En:=[⟨194,i7,ff⟩,⟨122,oB,jv⟩,⟨165,mn,im⟩,⟨123,jO,fL⟩,⟨94,fp,dJ⟩,enL aah]
def Z8(_k:KT):OLR:=og (D' (bH (0:Int))) (S' [RV.d tR (hid (av ((0:Int):Rat)))])
def alR:Cn 254 []:=cn<|lf True [.d tR (av 0)] λ_=>by
 refine aA Qo (Z8) ⟨0,?_⟩;unfold Z8;rw[dT (show bH 0 by decide)];simp only[aR];rfl
def Tl:List En:=enL alR::Qo
def YW(a:BR)(_k:KT):OLR:=S' [RV.d tO (a,(hid (av 0),hid (av 0)))]
def un:Cn 179 [tR]:=cn λ(a:BR)=>lf (okR a) [.d tO (enc ((ag a,0,0):Rt))] λh=>by
 refine aA Tl (YW a) ⟨0,?_⟩;have ha:=h;obtain⟨a,rfl,ba⟩:=eO ha;unfold YW;simp only[aX,aC];try rfl
def abU(a b c:BR)(_k:KT):OLR:=og (o1 b) (match(aD (ag b) 0)==0 with|T'=>S' [RV.d tO (a,(b,hid (av 0)))]|F'=>S' [RV.d tO (a,(b,c))])
def J3:Cn 319 [tR,tR,tR]:=cn λ(a b c:BR)=>lf (okR a/\okR b/\okR c) [.d tO (enc (coR (ag a) (ag b) (ag c)))] λh=>by
 refine aA Tl (abU a b c) ⟨0,?_⟩;obtain⟨ha,hb,hc⟩:=h;obtain⟨a,rfl,ba⟩:=eO ha;obtain⟨b,rfl,bb⟩:=eO hb;obtain⟨c,rfl,bc⟩:=eO hc;unfold abU;simp only[aX,Nat.reduceLeDiff,am];unfold coR;by_cases e:b=0
 ·subst e;rw[anO rfl];rfl
 ·rw[anQ e];rfl
def agU:List En:=enL un::enL J3::Tl
def aal(a b c:BR)(_k:KT):OLR:=og (o1 c) (match D' ((aD (ag c) 0)<0)with|T'=>S' [RV.d tO (((F',[]),(F',[])),(((F',[]),(F',[])),((F',[]),(F',[])))),RV.d arf 7]|F'=>(og (o1 c) (match eH (ag c)with|T'=>(og (o2 b (hid (rtB (ag c)))) (og (o2 a (hMu b (hid (rtB (ag c))))) (og (o1 (hAd a (hMu b (hid (rtB (ag c)))))) (S' [RV.d tO (hid (enc ((ag (hAd a (hMu b (hid (rtB (ag c))))),0,0):Rt))),RV.d arf 0]))))|F'=>(og (D' (okR a/\okR b/\okR c)) (S' [RV.d tO (hid (enc (coR (ag a) (ag b) (ag c)))),RV.d arf 0])))))
def alj:Cn 271 [tR,tR,tR]:=cn λ(a b c:BR)=>lf (ok Rat 100000 a/\ok Rat 100000 b/\ok Rat 100000 c/\0<=ag c) [.d tO (enc (mkR (ag a) (ag b) (ag c))),.d arf 0] λh=>by
 refine aA agU (aal a b c) ⟨0,?_⟩;obtain⟨ha,hb,hc,hc_3⟩:=h;obtain⟨a,rfl,ba⟩:=aL ha;obtain⟨b,rfl,bb⟩:=aL hb;obtain⟨c,rfl,bc⟩:=aL hc;rw[lZ,eP]at hc_3;unfold aal;simp only[aX,aC,Nat.reduceLeDiff,ao,anQ (show ¬c<0 by grind)];unfold mkR;cases hq:eH c
 ·have hz:c≠0:=λe=>by rw[e,ye]at hq;cases hq
  simp only[aX];try rfl
 ·rw[PV hq];simp only[aX,aC,Nat.reduceAdd,Nat.reduceLeDiff];try rfl
def Sb:List En:=[enL lj,enL vi,enL xy,enL rV,enT mf,enL G8,enT O8]
def Pv(_k:KT):OLR:=og (D' (bH (0:Int))) (S' [RV.d tR (hid (av ((0:Int):Rat)))])
def SG:Cn 167 []:=cn<|lf True [.d tR (av 0)] λ_=>by
 refine aA Sb (Pv) ⟨0,?_⟩;unfold Pv;rw[dT (show bH 0 by decide)];simp only[aR];rfl
def SU:List En:=enL SG::Sb
def RG(a:BR)(_k:KT):OLR:=S' [RV.d tO (a,(hid (av 0),hid (av 0)))]
def H5:Cn 85 [tR]:=cn λ(a:BR)=>lf (okR a) [.d tO (enc ((ag a,0,0):Rt))] λh=>by
 refine aA SU (RG a) ⟨0,?_⟩;have ha:=h;obtain⟨a,rfl,ba⟩:=eO ha;unfold RG;simp only[aX,aC];try rfl
def Uk:List En:=enL H5::SU
def OW(a b c:BR)(_k:KT):OLR:=og (o1 b) (match(aD (ag b) 0)==0 with|T'=>(og (o1 a) (S' [RV.d tO (hid (enc ((ag a,0,0):Rt)))]))|F'=>(og (o1 c) (match(aD (ag c) 0)==0 with|T'=>(og (o1 a) (S' [RV.d tO (hid (enc ((ag a,0,0):Rt)))]))|F'=>S' [RV.d tO (a,(b,c))])))
def HP:Cn 86 [tR,tR,tR]:=cn λ(a b c:BR)=>lf (okR a/\okR b/\okR c) [.d tO (enc (iN (ag a) (ag b) (ag c)))] λh=>by
 refine aA Uk (OW a b c) ⟨0,?_⟩;obtain⟨ha,hb,hc⟩:=h;obtain⟨a,rfl,ba⟩:=eO ha;obtain⟨b,rfl,bb⟩:=eO hb;obtain⟨c,rfl,bc⟩:=eO hc;unfold OW;simp only[aX,aC,Nat.reduceLeDiff,am];unfold iN;by_cases e:b=0
 ·rw[anO e];rfl
 ·rw[anQ e];by_cases e:c=0
  ·rw[anO e];rfl
  ·rw[anQ e];rfl
def ac5:List En:=enL HP::Uk
def Uy(a b c:BR)(_k:KT):OLR:=og (o1 c) (match D' ((aD (ag c) 0)<0)with|T'=>S' [RV.d tO (((F',[]),(F',[])),(((F',[]),(F',[])),((F',[]),(F',[])))),RV.d arf 7]|F'=>(og (o1 c) (match eH (ag c)with|T'=>(og (o2 b (hid (rtB (ag c)))) (og (o2 a (hMu b (hid (rtB (ag c))))) (og (o1 (hAd a (hMu b (hid (rtB (ag c)))))) (S' [RV.d tO (hid (enc ((ag (hAd a (hMu b (hid (rtB (ag c))))),0,0):Rt))),RV.d arf 0]))))|F'=>(og (D' (okR a/\okR b/\okR c)) (S' [RV.d tO (hid (enc (iN (ag a) (ag b) (ag c)))),RV.d arf 0])))))
def TJ:Cn 35 [tR,tR,tR]:=cn λ(a b c:BR)=>lf (ok Rat 100000 a/\ok Rat 100000 b/\ok Rat 100000 c/\0<=ag c) [.d tO (enc (mkR (ag a) (ag b) (ag c))),.d arf 0] λh=>by
 refine aA ac5 (Uy a b c) ⟨0,?_⟩;obtain⟨ha,hb,hc,hc_3⟩:=h;obtain⟨a,rfl,ba⟩:=aL ha;obtain⟨b,rfl,bb⟩:=aL hb;obtain⟨c,rfl,bc⟩:=aL hc;rw[lZ,eP]at hc_3;unfold Uy;simp only[aX,aC,Nat.reduceLeDiff,ao,anQ (show ¬c<0 by grind)];unfold mkR;cases hq:eH c
 ·have hz:c≠0:=λe=>by rw[e,ye]at hq;cases hq
  simp only[aX,iN,anQ hz];try rfl
 ·rw[PV hq];simp only[aX,aC,Nat.reduceAdd,Nat.reduceLeDiff];try rfl
def X5(r:BO3)(_k:KT):OLR:=og (o2 r.1 r.1) (og (o2 r.2.1 r.2.1) (og (o2 (hMu r.2.1 r.2.1) r.2.2) (og (o2 (hMu r.1 r.1) (hMu (hMu r.2.1 r.2.1) r.2.2)) (S' [RV.d tR (hSu (hMu r.1 r.1) (hMu (hMu r.2.1 r.2.1) r.2.2))]))))
def aaG:Cn 385 [tO]:=cn λ(r:BO3)=>lf (ok Rt 15000 r) [.d tR (av (noR (dec r)))] λh=>by
 refine aA Qo (X5 r) ⟨0,?_⟩;have hr:=h;obtain⟨r,rfl,br⟩:=aL hr;unfold X5;simp only[aX,Nat.reduceAdd,Nat.reduceLeDiff];try rfl
abbrev Iv:=Int×Int
def prI(i:Iv):Prop:= -2305843009213693952<=i.1/\i.1<=i.2/\i.2<=2305843009213693952
instance (i:Iv):Decidable (prI i):=by unfold prI;infer_instance
def iv0:Iv:=(0,0)
theorem fG:prI iv0:=by decide
def oW(lo hi:Int):Iv×Bool:=bif D' (lo< -2305843009213693952)then(iv0,F')else bif D' (hi>2305843009213693952)then(iv0,F')else((lo,hi),T')
theorem Dj{lo hi:Int}(h:lo<=hi):prI (oW lo hi).1:=by
 unfold oW;by_cases h1:lo< -2305843009213693952
 ·rw[anO h1];exact fG
 ·rw[anQ h1];by_cases h2:hi>2305843009213693952
  ·rw[anO h2];exact fG
  ·rw[anQ h2];exact⟨by show _<=lo;omega,h,by show hi<=_;omega⟩
theorem Cw{lo hi:Int}(h:(oW lo hi).2=T'):(oW lo hi).1=(lo,hi):=by
 unfold oW at h ⊢;by_cases h1:lo< -2305843009213693952
 ·rw[anO h1]at h;cases h
 ·rw[anQ h1]at h ⊢;by_cases h2:hi>2305843009213693952
  ·rw[anO h2]at h;cases h
  ·rw[anQ h2];rfl
def frF(q:Rat):Iv×Bool:=bif D' (bH (q*65536).floor)then bif D' (bH (-(-(q*65536)).floor))then oW (q*65536).floor (-(-(q*65536)).floor)else(iv0,F')else(iv0,F')
def dG(a b:Iv):Iv×Bool:=oW (a.1+b.1) (a.2+b.2)
def nt(a:Iv):Iv:=(-a.2,-a.1)
def scF(x y:Int):(Int×Int)×Bool:=
 bif D' (x.natAbs*y.natAbs>=1208925819614629174706176)then((0,0),F')else bif D' (x.natAbs*y.natAbs/65536>2305843009213693952)then((0,0),F')
 else bif D' (x<0)==D' (y<0)then((((x.natAbs*y.natAbs/65536:Nat):Int),(((x.natAbs*y.natAbs+65535)/65536:Nat):Int)),D' ((x.natAbs*y.natAbs+65535)/65536<=2305843009213693952))
 else((-(((x.natAbs*y.natAbs+65535)/65536:Nat):Int),-((x.natAbs*y.natAbs/65536:Nat):Int)),D' ((x.natAbs*y.natAbs+65535)/65536<=2305843009213693952))
theorem ae8{x y:Int}(h:(scF x y).2=T'):(scF x y).1.1*65536<=x*y/\x*y<=(scF x y).1.2*65536/\ -2305843009213693952<=(scF x y).1.1/\(scF x y).1.2<=2305843009213693952:=by
 have ep:(((x.natAbs*y.natAbs:Nat)):Int)=(x.natAbs:Int)*(y.natAbs:Int):=ao8 _ _
 have hs:(D' (x<0)==D' (y<0))=T'->x*y=(((x.natAbs*y.natAbs:Nat)):Int):=λe=>by
  rw[ep];by_cases hx:x<0<;>by_cases hy:y<0
  ·rw[show(x.natAbs:Int)= -x by omega,show(y.natAbs:Int)= -y by omega];grind
  ·simp[hx,hy]at e
  ·simp[hx,hy]at e
  ·rw[show(x.natAbs:Int)=x by omega,show(y.natAbs:Int)=y by omega]
 have hd:(D' (x<0)==D' (y<0))=F'->x*y= -(((x.natAbs*y.natAbs:Nat)):Int):=λe=>by
  rw[ep];by_cases hx:x<0<;>by_cases hy:y<0
  ·simp[hx,hy]at e
  ·rw[show(x.natAbs:Int)= -x by omega,show(y.natAbs:Int)=y by omega];grind
  ·rw[show(x.natAbs:Int)=x by omega,show(y.natAbs:Int)= -y by omega];grind
  ·simp[hx,hy]at e
 unfold scF at h ⊢;generalize x.natAbs*y.natAbs=p at*
 by_cases h1:p>=1208925819614629174706176
 ·rw[anO h1]at h;cases h
 rw[anQ h1]at h ⊢;by_cases h2:p/65536>2305843009213693952
 ·rw[anO h2]at h;cases h
 rw[anQ h2]at h ⊢;cases e:(D' (x<0)==D' (y<0))<;>rw[e]at h<;>have h3:=anP h
 ·rw[hd e];show-(((p+65535)/65536:Nat):Int)*65536<=_/\_<= -((p/65536:Nat):Int)*65536/\_<= -(((p+65535)/65536:Nat):Int)/\ -((p/65536:Nat):Int)<=_;omega
 ·rw[hs e];show((p/65536:Nat):Int)*65536<=_/\_<=(((p+65535)/65536:Nat):Int)*65536/\_<=((p/65536:Nat):Int)/\(((p+65535)/65536:Nat):Int)<=_;omega
def iC(s:Iv×Bool)(x y:Int):Iv×Bool:=bif s.2&&(scF x y).2 then((if(scF x y).1.1<s.1.1 then(scF x y).1.1 else s.1.1,if(scF x y).1.2>s.1.2 then(scF x y).1.2 else s.1.2),T')else(iv0,F')
def cD(a b:Iv):Iv×Bool:=iC (iC (iC (iC ((2305843009213693952,-2305843009213693952),T') a.1 b.1) a.1 b.2) a.2 b.1) a.2 b.2
theorem l9{s:Iv×Bool}{x y:Int}(h:(iC s x y).2=T'):s.2=T'/\(iC s x y).1.1<=s.1.1/\s.1.2<=(iC s x y).1.2/\(iC s x y).1.1*65536<=x*y/\x*y<=(iC s x y).1.2*65536/\((-2305843009213693952<=s.1.1/\s.1.2<=2305843009213693952)-> -2305843009213693952<=(iC s x y).1.1/\(iC s x y).1.2<=2305843009213693952):=by
 unfold iC at h ⊢;cases e:(s.2&&(scF x y).2)<;>rw[e]at h
 ·cases h
 ·obtain⟨e1,e2⟩:=an3.1 e;obtain⟨g1,g2,g3,g4⟩:=ae8 e2;refine⟨e1,?_⟩;simp only[cond_true];split<;>split<;>refine⟨by omega,by omega,by omega,by omega,λh=>by omega⟩
theorem td(a b:Iv):prI (cD a b).1:=by
 cases h:(cD a b).2
 ·unfold cD iC at h ⊢;revert h;cases((_:Iv×Bool).2&&(scF a.2 b.2).2)
  ·intro _;exact fG
  ·intro h;cases h
 ·unfold cD at h ⊢;obtain⟨h3,a3,b3,c3,d3,e3⟩:=l9 h;obtain⟨h2,a2,b2,c2,d2,e2⟩:=l9 h3;obtain⟨h1,a1,b1,c1,d1,e1⟩:=l9 h2;obtain⟨h0,a0,b0,c0,d0,e0⟩:=l9 h1;have k:=e3 (e2 (e1 (e0 (by decide))));exact⟨k.1,by omega,k.2⟩
theorem V7{a b:Iv}(h:(cD a b).2=T'):∀x y,(x=a.1\/x=a.2)->(y=b.1\/y=b.2)->(cD a b).1.1*65536<=x*y/\x*y<=(cD a b).1.2*65536:=by
 unfold cD at h ⊢;obtain⟨h3,a3,b3,c3,d3,e3⟩:=l9 h;obtain⟨h2,a2,b2,c2,d2,e2⟩:=l9 h3;obtain⟨h1,a1,b1,c1,d1,e1⟩:=l9 h2;obtain⟨h0,a0,b0,c0,d0,e0⟩:=l9 h1;intro x y hx hy;rcases hx with rfl|rfl<;>rcases hy with rfl|rfl<;>constructor<;>omega
def eA(n:Int):Int:=bL (n*65536)
def sqF(a:Iv):Iv×Bool:=bif D' (a.2<0)then(iv0,F')else oW (eA (if 0>a.1 then 0 else a.1)) (bif D' (eA a.2*eA a.2=a.2*65536)then eA a.2 else eA a.2+1)
def sgF(a:Iv):Int×Bool:=bif D' (a.1>0)then(1,T')else bif D' (a.2<0)then(-1,T')else(0,D' (a.1=0)&&D' (a.2=0))
namespace RE
def inI(i:Iv)(x:RE):Prop:=of (i.1:Rat)<=of 65536*x/\of 65536*x<=of (i.2:Rat)
theorem WM(a b u x y:RE)(h1:a<=u*x)(h2:b<=u*y):a+b<=u*(x+y):=by grind
theorem V6(a b u x y:RE)(h1:u*x<=a)(h2:u*y<=b):u*(x+y)<=a+b:=by grind
theorem Xm(a u x:RE)(h1:u*x<=a): -a<=u*(-x):=by grind
theorem Wh(a u x:RE)(h1:a<=u*x):u*(-x)<= -a:=by grind
theorem XA(a c U V m:RE):((m-(U*V)))+((a*c-(m)))+((V-(0))*(U-(a)))+((a-(0))*(V-(c)))=0:=by grind
theorem aiS(a c U V m:RE)(h1:0<=V)(h2:0<=a)(h3:a<=U)(h4:c<=V)(h5:m<=a*c):m<=U*V:=λhg=>far (aW (aW (aW (bE hg) (aK h5)) (cr (aK h1) (aK h3))) (cr (aK h2) (aK h4))) (XA a c U V m)
theorem UY(a d U V m:RE):((m-(U*V)))+((a*d-(m)))+((V-(0))*(U-(a)))+((0-(a))*(d-(V)))=0:=by grind
theorem aiY(a d U V m:RE)(h1:0<=V)(h2:a<=0)(h3:a<=U)(h4:V<=d)(h5:m<=a*d):m<=U*V:=λhg=>far (aW (aW (aW (bE hg) (aK h5)) (cr (aK h1) (aK h3))) (cr (aK h2) (aK h4))) (UY a d U V m)
theorem Wc(b c U V m:RE):((m-(U*V)))+((b*c-(m)))+((0-(V))*(b-(U)))+((b-(0))*(V-(c)))=0:=by grind
theorem aih(b c U V m:RE)(h1:V<=0)(h2:0<=b)(h3:U<=b)(h4:c<=V)(h5:m<=b*c):m<=U*V:=λhg=>far (aW (aW (aW (bE hg) (aK h5)) (cr (aK h1) (aK h3))) (cr (aK h2) (aK h4))) (Wc b c U V m)
theorem V5(b d U V m:RE):((m-(U*V)))+((b*d-(m)))+((0-(V))*(b-(U)))+((0-(b))*(d-(V)))=0:=by grind
theorem alh(b d U V m:RE)(h1:V<=0)(h2:b<=0)(h3:U<=b)(h4:V<=d)(h5:m<=b*d):m<=U*V:=λhg=>far (aW (aW (aW (bE hg) (aK h5)) (cr (aK h1) (aK h3))) (cr (aK h2) (aK h4))) (V5 b d U V m)
theorem U4(b d U V m:RE):((U*V-(m)))+((m-(b*d)))+((V-(0))*(b-(U)))+((b-(0))*(d-(V)))=0:=by grind
theorem ah2(b d U V m:RE)(h1:0<=V)(h2:0<=b)(h3:U<=b)(h4:V<=d)(h5:b*d<=m):U*V<=m:=λhg=>far (aW (aW (aW (bE hg) (aK h5)) (cr (aK h1) (aK h3))) (cr (aK h2) (aK h4))) (U4 b d U V m)
theorem Vf(b c U V m:RE):((U*V-(m)))+((m-(b*c)))+((V-(0))*(b-(U)))+((0-(b))*(V-(c)))=0:=by grind
theorem ajX(b c U V m:RE)(h1:0<=V)(h2:b<=0)(h3:U<=b)(h4:c<=V)(h5:b*c<=m):U*V<=m:=λhg=>far (aW (aW (aW (bE hg) (aK h5)) (cr (aK h1) (aK h3))) (cr (aK h2) (aK h4))) (Vf b c U V m)
theorem VK(a d U V m:RE):((U*V-(m)))+((m-(a*d)))+((0-(V))*(U-(a)))+((a-(0))*(d-(V)))=0:=by grind
theorem aij(a d U V m:RE)(h1:V<=0)(h2:0<=a)(h3:a<=U)(h4:V<=d)(h5:a*d<=m):U*V<=m:=λhg=>far (aW (aW (aW (bE hg) (aK h5)) (cr (aK h1) (aK h3))) (cr (aK h2) (aK h4))) (VK a d U V m)
theorem Xy(a c U V m:RE):((U*V-(m)))+((m-(a*c)))+((0-(V))*(U-(a)))+((0-(a))*(V-(c)))=0:=by grind
theorem aiC(a c U V m:RE)(h1:V<=0)(h2:a<=0)(h3:a<=U)(h4:c<=V)(h5:a*c<=m):U*V<=m:=λhg=>far (aW (aW (aW (bE hg) (aK h5)) (cr (aK h1) (aK h3))) (cr (aK h2) (aK h4))) (Xy a c U V m)
theorem ad8(u x y:RE):u*x*(u*y)=u*(x*y)*u:=by grind
theorem Wj(a b u:RE):((u-(0))*(a-(b)))+((b*u-(a*u)))=0:=by grind
theorem aa3(a b u:RE)(h1:0<u)(h2:a*u<=b*u):a<=b:=λhg=>far (aW (mul_pos (bE h1) (bE hg)) (aK h2)) (Wj a b u)
theorem oI:0<of 65536:=ll (by decide+kernel)
end RE
end Go.Proofs.YtoimchcjhdcdmaaGreat
end
