/- The reference's integers: parts as a whole, DivMod, GCD. -/
import Derived.Test.YtoimchcjhdcdmaaGreatQ11
import Derived.Test.YtoimchcjhdcdmaaGreatQ9
import Derived.Test.YtoimchcjhdcdmaaGreatQ10
noncomputable section
namespace Go.Proofs.YtoimchcjhdcdmaaGreat
open Go.RowKit Go.IntKind
open Bool renaming true->T',false->F'
open Option renaming some->S',none->N'
open Decidable renaming decide->D'
theorem ao9:type_of% @Bool.and_eq_true_iff:=@Bool.and_eq_true_iff
theorem apk:type_of% @beq_eq_false_iff_ne:=@beq_eq_false_iff_ne
theorem aqM:type_of% @beq_self_eq_true:=@beq_self_eq_true
theorem arG:type_of% @decide_eq_true_eq:=@decide_eq_true_eq
theorem arR:type_of% @decide_true:=@decide_true
theorem ar1:type_of% @Prod.ext:=@Prod.ext
def ahj:Cn 198 [asj,asj]:=cn λ(a b:List Int)=>lf (GQ a b) [.d asj (ae (val a/val b).toNat),.d asj (ae (val a%val b).toNat)] λh=>by
 refine aX OR (show jP.Res _ _ _ from ?_);obtain⟨⟨ha,sa⟩,⟨hb,sb⟩,hne⟩:=h;have a0:=aP ha.1;have b0:0<val b:=eu hb hne;have hlen:=apA.2 hne;have la:=bU ha.1;have lb:=bU hb.1;by_cases hsm:a.length<=2/\b.length<=2
 ·have p2:pw 2=1000000000000000000:=by decide
  have m1:=dm hsm.1;have m2:=dm hsm.2;have q0:0<=val a/val b:=apQ a0 (by omega);have q1:val a/val b<=val a:=aqL _ a0;have r0:=ap4 (val a) (show val b≠0 by omega);have r1:=apE (val a) b0;refine Nx _ _ ⟨0,?_⟩;unfold Hj;rw[dT (show(a.length:Int)<=2 by omega),dT (show(b.length:Int)<=2 by omega),dT (show tn a from⟨⟨ha.1,by omega⟩,by omega⟩),dT (show tn b from⟨⟨hb.1,by omega⟩,by omega⟩),dF (show ¬val b=0 by omega),gG a0,ju a0,bH (x:=val a/val b) q0 (by omega),dT (show iw (val a/val b) from⟨q0,by omega⟩),dT (show iw (val a%val b) from⟨r0,by omega⟩)]
 ·obtain⟨n,hn⟩:∃n,b.length=n+1:=⟨b.length-1,by omega⟩
  have hbn:n<b.length:=by omega
  have ht:=uP hb hn;have hbl:=hb.1.get hbn;obtain⟨hs0,hs1,hs2⟩:=ahf (x:=b[n]) ht hbl.2;have hVp:0<val b*qsc b[n]:=Int.mul_pos b0 (by omega)
  have hVl:(ae (val b*qsc b[n]).toNat).length<=1000001:=by
   refine cp (by omega) ?_;have h1:val b*qsc b[n]<=val b*999999999:=aoW (by omega) (by omega);have h2:=dm sb;rw[bW 1000000];omega
  have hUl:(ae (val a*qsc b[n]).toNat).length<=a.length+1:=by
   refine cp (apN a0 (by omega)) ?_;have h1:val a*qsc b[n]<=val a*999999999:=aoW (by omega) (by omega);rw[bW];omega
  obtain⟨m,x2,hm,hg,hx1,hx2,hxp⟩:=IF hVp
  obtain⟨q,hq⟩:=HT a b b[n] x2 (val b*qsc b[n]) rfl ⟨hs1,hs2⟩ hVp hUl ⟨ha.1,sa⟩ hVl m hm ⟨hx1,hx2⟩ hxp (ae (val a*qsc b[n]).toNat).length 0 (List.replicate (a.length+1) 0) (aoU _) (by omega) hVp (by simp) (Lim.rep _) (λk hk _=>by simp) (λk hk _=>by simp) (by
   rw[ap6,bS (apN a0 (by omega)),gf];omega)
  refine Nx _ _ ⟨q,?_⟩;have hw1:i64.wrap ((b.length:Int)-1)=(n:Int):=by rw[aM (by omega) (by omega)];omega
  have hx1w:¬u64.wrap (u64.wrap b[n]+1)=0:=by rw[bH (x:=b[n]) (by omega) (by omega),bH (by omega) (by omega)];omega
  have hbyb:byP b (qsc b[n]):=⟨⟨hb.1,by omega⟩,by omega,hs2⟩
  have hbya:byP a (qsc b[n]):=⟨⟨ha.1,by omega⟩,by omega,hs2⟩
  have hw2:i64.wrap (((m+1:Nat):Int)-1)=(m:Int):=by rw[aM (by omega) (by omega)];omega
  have hsub:(match aH b (i64.wrap ((b.length:Int)-1))with|S' x1=>(match D' (u64.wrap ((u64.wrap x1)+1)=(0:Int))with|T'=>N'|F'=>(match D' (byP b (qsc x1))with|T'=>(match aH (ae (val b*(qsc x1)).toNat) (i64.wrap (((ae (val b*(qsc x1)).toNat).length:Int)-1))with|S' x2=>(match D' ((0:Int)<=i64.wrap ((a.length:Int)+1)/\(i64.wrap ((a.length:Int)+1))*((4:Nat):Int)<=140737488355328/\i64.wrap ((a.length:Int)+1)<=140737488355328)with|T'=>(match D' (byP a (qsc x1))with|T'=>(match D' ((0:Int)<=0/\0<=((ae (val a*(qsc x1)).toNat).length:Int)/\((ae (val a*(qsc x1)).toNat).length:Int)<=((List.replicate (i64.wrap ((a.length:Int)+1)).toNat (0:Int)).length:Int))with|T'=>(jP.k q) 30 (kZ a b x1 x2 ([]) (i64.wrap (((ae (val a*(qsc x1)).toNat).length:Int)-1)) (List.replicate (i64.wrap ((a.length:Int)+1)).toNat (0:Int)))|F'=>N')|F'=>N')|F'=>N')|N'=>N')|F'=>N'))|N'=>N')=S' [.d asj (ae (val a/val b).toNat),.d asj (ae (val a%val b).toNat)]:=by
   rw[hw1,ak,aoO hbn];dsimp only;rw[dF hx1w,dT hbyb,hm,hw2,ak,hg];dsimp only;rw[aS (k:=a.length) (by omega),uj (n:=a.length+1) (by omega),dT hbya,aE,aq0,dT (show(0:Int)<=0/\(0:Int)<=((ae (val a*qsc b[n]).toNat).length:Int)/\((ae (val a*qsc b[n]).toNat).length:Int)<=((a.length+1:Nat):Int) from⟨by omega,by omega,by omega⟩),aM (x:=((ae (val a*qsc b[n]).toNat).length:Int)-1) (by omega) (by omega)];exact hq
  unfold Hj;by_cases h1:a.length<=2
  ·rw[dT (show(a.length:Int)<=2 by omega),dF (show ¬(b.length:Int)<=2 by omega)];exact hsub
  ·rw[dF (show ¬(a.length:Int)<=2 by omega)];exact hsub
def H5:List En:=[enK zF,enK Ee,enF Ci,enF zY,enK Y5,enK Hg,enK ahj,enK B5,enK agR,enK HO,enK DK]
def Su(x y:Bool×List Int)(_k:KT):OLR:=let y1:=ae (val x.2/val y.2).toNat;let y2:=ae (val x.2%val y.2).toNat;let y3:=ah (bZ (!(x.1==y.1)) (val y1));let y4:=ah (bZ x.1 (val y2));let y5:OLR:=match D' ((y2.length:Int)>0)with|T'=>(match !(x.1==y.1)with|T'=>(og (D' (bI (1:Int))) (og (D' (okI y3/\okI (ah (1:Int)))) (og (D' (okI y4/\okI y)) (dup (.b .l .l) (S' [RV.d y3Y (ah (ab y3-ab (ah (1:Int)))),RV.d y3Y (ah (ab y4+ab y)),RV.d ask 0])))))|F'=>dup (.b .l .l) (S' [RV.d y3Y y3,RV.d y3Y y4,RV.d ask 0]))|F'=>dup (.b .l .l) (S' [RV.d y3Y y3,RV.d y3Y y4,RV.d ask 0]);let y6:OLR:=match D' (aR y2)with|T'=>y5|F'=>N';match(y.2.length:Int)==0 with|T'=>S' [RV.d y3Y (F',[]),RV.d y3Y (F',[]),RV.d ask 6]|F'=>(og (D' (GQ x.2 y.2)) (cW (og (D' (aR y1)) (cW (og (D' (aR y2)) (dup (.b .l .l) y5)) (dup (.b (.b .l .l) (.b .l .l)) y6))) (dup (.b .l .l) (cW (og (D' (aR y1)) (dup (.b .l .l) y6)) (og (D' (aR y1)) y6)))))
def Xz:NT:=[((118,6),{keep:=[4,5,6],pure_:=[(5,.int .u32),(6,.int .u32)],hl:=3}),((118,29),{keep:=[4,9,10],hl:=3})]
def vm:Ctx:=CX (ens H5) Xz
def sP(x y:Bool×List Int)(s5 s6:List Int):Cfg:=⟨118,[.blk 0,.seq 17],[(4,.box 2 0),(5,.d asj s5),(6,.d asj s6)],[.box 36 [SB x.1,.d asj x.2],.box 36 [SB y.1,.d asj y.2],.box 36 [SB F',.nil]],0,[]⟩
def pz(x y:Bool×List Int)(s9 s10:Int):Cfg:=⟨118,[.blk 2,.seq 38],[(4,.box 2 0),(9,.d (.int .u64) s9),(10,.d (.int .u64) s10)],[.box 36 [SB x.1,.d asj x.2],.box 36 [SB y.1,.d asj y.2],.box 36 [SB F',.nil]],0,[]⟩
def afc(x y:Bool×List Int)(k:KT):OLR:=k 6 (sP x y x.2 y.2)
theorem agm(x y:Bool×List Int):RS vm 118 [.d y3Y x,.d y3Y y] (afc x y):=rsX
def qH(x y:Bool×List Int)(s5 s6:List Int)(k:KT):OLR:=match D' ((s6.length:Int)>0)with|T'=>(match D' ((s5.length:Int)>2)with|T'=>(og (D' (GQ s5 s6)) (k 6 (sP x y s6 (ae (val s5%val s6).toNat))))|F'=>(match D' ((s6.length:Int)>2)with|T'=>(og (D' (GQ s5 s6)) (k 6 (sP x y s6 (ae (val s5%val s6).toNat))))|F'=>(match(s6.length:Int)==0 with|T'=>(og (D' (aR s5)) (S' [RV.d y3Y (ah (bZ F' (val s5)))]))|F'=>(og (D' (tn s5)) (og (D' (tn s6)) (k 29 (pz x y (val s5) (val s6))))))))|F'=>(match(s6.length:Int)==0 with|T'=>(og (D' (aR s5)) (S' [RV.d y3Y (ah (bZ F' (val s5)))]))|F'=>(og (D' (tn s5)) (og (D' (tn s6)) (k 29 (pz x y (val s5) (val s6))))))
theorem uA(x y:Bool×List Int)(s5 s6:List Int):RL vm 6 (sP x y s5 s6) (qH x y s5 s6):=rlX
def rJ(x y:Bool×List Int)(s9 s10:Int)(k:KT):OLR:=match D' (s10>0)with|T'=>(match D' (s10=(0:Int))with|T'=>N'|F'=>k 29 (pz x y s10 (Int.tmod s9 s10)))|F'=>(og (D' (iw s9)) (og (D' (aR (ae s9.toNat))) (S' [RV.d y3Y (ah (bZ F' (val (ae s9.toNat))))])))
theorem xu(x y:Bool×List Int)(s9 s10:Int):RL vm 29 (pz x y s9 s10) (rJ x y s9 s10):=rlX
def QC:Cn 119 [y3Y,y3Y]:=cn λ(x y:Bool×List Int)=>lf (fa x y) [.d y3Y (ah (ab x/ab y)),.d y3Y (ah (ab x%ab y)),.d ask 0] λh=>by
 refine aA H5 (Su x y) ⟨0,?_⟩;obtain⟨hx,hy,hp⟩:=h;obtain⟨x0,x1,x2⟩:=co hx;obtain⟨y0,y1,y2⟩:=co hy;have sx:=hx.2.2;have sy:=hy.2.2
 have ey:y.1=false:=by
  cases e:y.1
  ·rfl
  ·rw[bQ,e]at hp;simp only[bZ,cond_true]at hp;omega
 have dy:ab y=val y.2:=by rw[bQ,ey];rfl
 rw[dy]at hp;have hne:y.2≠[]:=λe=>by rw[y2]at e;omega
 have hprt:GQ x.2 y.2:=⟨⟨hx.1,sx⟩,⟨hy.1,sy⟩,hne⟩
 have hylen:=apA.2 hne;have r0:=ap4 (val x.2) (show val y.2≠0 by omega);have r1:=apE (val x.2) hp;have q0:0<=val x.2/val y.2:=apQ x0 y0;have q1:val x.2/val y.2<=val x.2:=aqL _ x0;have vx:=bU hx.1.1;have vy:=bU hy.1.1;have mx:=dm sx;have my:=dm sy;have szq:szI (val x.2/val y.2)<=1000000:=eW (by have:=cf 1000000;omega) (by omega);have szr:szI (val x.2%val y.2)<=1000000:=eW (by have:=cf 1000000;omega) (by omega);have lq:(ae (val x.2/val y.2).toNat).length<=1000000:=cp q0 (by omega);have lr:(ae (val x.2%val y.2).toNat).length<=1000000:=cp r0 (by omega);unfold Su;simp only[dp]
 rw[show((y.2.length:Int)==0)=F' by simp;omega,dT hprt,dT (cr (n:=(val x.2/val y.2).toNat) (by omega)),dT (cr (n:=(val x.2%val y.2).toNat) (by omega)),dT (show bI 1 by decide),bS q0,bS r0,
  dT (show okI (ah (bZ (!(x.1==y.1)) (val x.2/val y.2)))/\okI (ah (1:Int)) from⟨aT (by rw[CF];exact szq),lO⟩),dT (show okI (ah (bZ x.1 (val x.2%val y.2)))/\okI y from⟨aT (by rw[CF];exact szr),hy⟩)]
 simp only[dec_enc,dy,cO];rw[bQ x,ey]
 have hlen:(((ae (val x.2%val y.2).toNat).length:Int)>0)↔0<val x.2%val y.2:=by
  constructor
  ·intro hl;rcases apl 0 (val x.2%val y.2)with h|h
   ·exact h
   ·rw[show(val x.2%val y.2).toNat=0 by omega,fA]at hl;simp at hl
  ·intro hl;have:ae (val x.2%val y.2).toNat≠[]:=λe=>by rw[gF]at e;omega
   have:=apA.2 this;omega
 obtain⟨n1,n2⟩:=Kg (a:=val x.2) (b:=val y.2) x0 hp;rcases apl 0 (val x.2%val y.2)with hr|hr
 ·rw[dT (hlen.2 hr)];cases x.1
  ·rfl
  ·obtain⟨e1,e2⟩:=n2 hr;simp only[bZ,cond_true,Bool.not_false,show((T'==F'):Bool)=F' from rfl];rw[e1,e2]
 ·rw[dF (λh'=>by have:=hlen.1 h';omega)];dsimp only;have e0:val x.2%val y.2=0:=by omega
  cases x.1
  ·simp only[bZ,cond_false,show((F'==F'):Bool)=T' from rfl,Bool.not_true]
  ·obtain⟨e1,e2⟩:=n1 e0;simp only[bZ,cond_true,Bool.not_false,show((T'==F'):Bool)=F' from rfl];rw[e1,e2,e0];rfl
theorem L5(x y:BI)(B:Nat)(hB:(B:Int)<18446744073709551616):∀(v u:Nat),u<=B->v<=B->vm.RunsE 29 (pz x y (u:Int) (v:Int)) [.d y3Y (ah ((Nat.gcd u v:Nat):Int))]:=by
 intro v;induction v using Nat.strongRecOn with
 |ind v ih=>
  intro u hu hv;rcases apJ v with h0|h0
  ·refine xu _ _ _ _ ⟨0,λn _=>?_⟩;have hp:iw (u:Int):=⟨by omega,by omega⟩
   have hl:(ae u).length<=3:=dq (arr (show(u:Int)<18446744073709551616 by omega) (by decide));unfold rJ;rw[dF (show ¬(v:Int)>0 by omega),dT hp,ara,dT (cr (n:=u) (by omega)),bG,show Nat.gcd u v=u by rw[h0];exact Nat.gcd_zero_right u];rfl
  ·obtain⟨n0,hn⟩:=ih (u%v) (arE _ h0) v hv (ao1 (Nat.le_of_lt (arE _ h0)) hv);refine xu _ _ _ _ ⟨n0,λn hn'=>?_⟩;unfold rJ;rw[dT (show(v:Int)>0 by omega),dF (show ¬(v:Int)=0 by omega),ju (by omega)];dsimp only;rw[show((u:Int)%(v:Int))=((u%v:Nat):Int) by simp,aq2 u v,Nat.gcd_rec v u,aq2];exact hn n hn'
theorem Ls{u:Nat}(h:(ae u).length<=2):(u:Int)<1000000000000000000:=by
 have h1:=bU (bV u);rw[bG]at h1;have h2:=dm h;grind [pw]
theorem Nb(x y:BI):∀(v u:Nat),(ae u).length<=1000000->(ae v).length<=1000000->
  vm.RunsE 6 (sP x y (ae u) (ae v)) [.d y3Y (ah ((Nat.gcd u v:Nat):Int))]:=by
 intro v;induction v using Nat.strongRecOn with
 |ind v ih=>
  intro u hu hv;rcases apJ v with h0|h0
  ·refine uA _ _ _ _ ⟨0,λn _=>?_⟩;unfold qH;rw[h0,Nat.gcd_zero_right,dF (show ¬((ae 0).length:Int)>0 by decide),show(((ae 0).length:Int)==0)=T' by decide];dsimp only;rw[dT (cr (n:=u) (by omega)),bG];rfl
  ·have hne:ae v≠[]:=λe=>by rw[gF]at e;omega
   have hl:=apA.2 hne;have hm:=arE u h0
   have hms:(ae (u%v)).length<=1000000:=dq (by
    have:=bU (bV v);rw[bG]at this;have:=dm hv;omega)
   have hz:(((ae v).length:Int)==0)=false:=by simp;omega
   have hprt:GQ (ae u) (ae v):=⟨⟨dW _,hu⟩,⟨dW _,hv⟩,hne⟩
   have hmod:(val (ae u)%val (ae v)).toNat=u%v:=by rw[bG,bG];omega
   by_cases hsm:(ae u).length<=2/\(ae v).length<=2
   ·have lu:=Ls hsm.1;have lv:=Ls hsm.2;obtain⟨n0,hn⟩:=L5 x y 1000000000000000000 (by decide) v u (by omega) (by omega);refine uA _ _ _ _ ⟨n0,λn hn'=>?_⟩;unfold qH;rw[dT (show((ae v).length:Int)>0 by omega),dF (show ¬((ae u).length:Int)>2 by omega),dF (show ¬((ae v).length:Int)>2 by omega),hz,dT (show tn (ae u) from⟨cr (by omega),by rw[bG];omega⟩),dT (show tn (ae v) from⟨cr (by omega),by rw[bG];omega⟩),bG,bG];exact hn n hn'
   ·obtain⟨n0,hn⟩:=ih (u%v) hm v hv hms;refine uA _ _ _ _ ⟨n0,λn hn'=>?_⟩;have:=hn n hn';rw[show Nat.gcd v (u%v)=Nat.gcd u v by rw[aq2 u v,Nat.gcd_rec v u,aq2]]at this;unfold qH;rw[dT (show((ae v).length:Int)>0 by omega),dT hprt,hmod];by_cases h2:(ae u).length<=2
    ·rw[dF (show ¬((ae u).length:Int)>2 by omega),dT (show((ae v).length:Int)>2 by omega)];exact this
    ·rw[dT (show((ae u).length:Int)>2 by omega)];exact this
def UT:Cn 118 [y3Y,y3Y]:=cn λ(x y:Bool×List Int)=>lf (okI x/\okI y) [.d y3Y (ah ((Int.gcd (ab x) (ab y):Nat):Int))] λh=>by
 refine aX H5 (show vm.Res _ _ _ from ?_);obtain⟨hx,hy⟩:=h;obtain⟨x0,_,_⟩:=co hx;obtain⟨y0,_,_⟩:=co hy;have ex:((ab x).natAbs:Int)=val x.2:=by rw[bQ];unfold bZ;cases x.1<;>simp<;>omega
 have ey:((ab y).natAbs:Int)=val y.2:=by rw[bQ];unfold bZ;cases y.1<;>simp<;>omega
 have cx:=p7 hx.1;have cy:=p7 hy.1;rw[show(val x.2).toNat=(ab x).natAbs by omega]at cx;rw[show(val y.2).toNat=(ab y).natAbs by omega]at cy;obtain⟨n1,h1⟩:=Nb x y (ab y).natAbs (ab x).natAbs (by rw[<-cx];exact hx.2.2) (by rw[<-cy];exact hy.2.2);rw[<-cx,<-cy]at h1;exact agm _ _ ⟨n1,h1 n1 (aoU _)⟩
section
abbrev tI:Ty:=.st (.pair .bool asj)
abbrev tR:Ty:=.st (.pair tI tI)
abbrev tV:Ty:=.st (.pair tR tR)
abbrev tO:Ty:=.st (.pair tR (.pair tR tR))
abbrev tP:Ty:=.st (.pair tR (.pair tR (.pair tR (.pair tR tR))))
abbrev tQ:Ty:=.st (.pair tR (.pair tR (.pair tR (.pair tR (.pair tR tR)))))
abbrev tG:Ty:=.st (.pair ask ask)
abbrev BV:=BR×BR
abbrev BO3:=BR×BR×BR
abbrev BP:=BR×BR×BR×BR×BR
abbrev BQ:=BR×BR×BR×BR×BR×BR
abbrev hAd(a b:BR):BR:=hid (av (ag a+ag b))
abbrev hSu(a b:BR):BR:=hid (av (ag a-ag b))
abbrev hMu(a b:BR):BR:=hid (av (ag a*ag b))
abbrev hDi(a b:BR):BR:=hid (av (ag a/ag b))
abbrev hNe(a:BR):BR:=hid (av (-ag a))
class Cod (α:Type) (A:outParam Type) where
 enc:α->A
 dec:A->α
 bd:Nat->α->Prop
 ok:Nat->A->Prop
 okD:∀k x,Decidable (ok k x)
 mono:∀j k x,j<=k->bd j x->bd k x
 dec_enc:∀x,dec (enc x)=x
 ok_enc:∀k x,k<=480000->bd k x->ok k (enc x)
 ok_dec:∀k x,ok k x->x=enc (dec x)/\bd k (dec x)
def enc{α A:Type}[Cod α A](x:α):A:=Cod.enc x
def dec{α A:Type}[Cod α A](x:A):α:=Cod.dec x
def ok(α:Type){A:Type}[Cod α A](k:Nat)(x:A):Prop:=Cod.ok (α:=α) k x
instance (α A:Type) [Cod α A] (k:Nat) (x:A):Decidable (ok α k x):=Cod.okD k x
theorem ao{α A:Type}[Cod α A](x:α):dec (enc x)=x:=Cod.dec_enc x
class Bd {α A:Type} [Cod α A] (x:α) (k:outParam Nat):Prop where le:Cod.bd k x
theorem aJ{α A:Type}[Cod α A]{k:Nat}{x:A}(h:ok α k x):∃v:α,x=enc v/\Bd v k:=⟨_,(Cod.ok_dec k x h).1,⟨(Cod.ok_dec k x h).2⟩⟩
theorem okd{α A:Type}[Cod α A]{x:α}{j k:Nat}[h:Bd x j](hj:j<=k)(hk:k<=480000):D' (ok α k (enc x))=true:=
 aoP (Cod.ok_enc k x hk (Cod.mono j k x hj h.le))
instance anF:Cod Rat BR where
 enc:=av
 dec:=ag
 bd:=bdR
 ok k x:=okR x/\x.1.2.length<=k/\x.2.2.length<=k
 okD _ _:=instDecidableAnd
 mono _ _ _ hk h:=cd h hk
 dec_enc:=eP
 ok_enc k _ hk h:=⟨qA h hk,h.1,h.2⟩
 ok_dec k x h:=by
  obtain⟨h1,h2,h3⟩:=h;refine⟨QM h1,?_⟩;obtain⟨e1,e2⟩:=cM h1;unfold bdR szI;rw[e1,e2];rw[gT h1.1]at h2;rw[gT h1.2.1]at h3;exact⟨h2,h3⟩
instance aof:Cod Int Int where
 enc x:=x
 dec x:=x
 bd _ x:=bI x
 ok _ x:=bI x
 okD _ _:=inferInstance
 mono _ _ _ _ h:=h
 dec_enc _:=rfl
 ok_enc _ _ _ h:=h
 ok_dec _ _ h:=⟨rfl,h⟩
instance anv:Cod Bool Bool where
 enc x:=x
 dec x:=x
 bd _ _:=True
 ok _ _:=True
 okD _ _:=inferInstance
 mono _ _ _ _ h:=h
 dec_enc _:=rfl
 ok_enc _ _ _ h:=h
 ok_dec _ _ h:=⟨rfl,h⟩
instance ans (α β A B:Type) [Cod α A] [Cod β B]:Cod (α×β) (A×B) where
 enc x:=(enc x.1,enc x.2)
 dec x:=(dec x.1,dec x.2)
 bd k x:=Cod.bd k x.1/\Cod.bd k x.2
 ok k x:=ok α k x.1/\ok β k x.2
 okD _ _:=instDecidableAnd
 mono _ _ _ hk h:=⟨Cod.mono _ _ _ hk h.1,Cod.mono _ _ _ hk h.2⟩
 dec_enc x:=by rw[ao,ao]
 ok_enc k _ hk h:=⟨Cod.ok_enc _ _ hk h.1,Cod.ok_enc _ _ hk h.2⟩
 ok_dec k x h:=⟨ar1 (Cod.ok_dec k x.1 h.1).1 (Cod.ok_dec k x.2 h.2).1,(Cod.ok_dec k x.1 h.1).2,(Cod.ok_dec k x.2 h.2).2⟩
theorem nr{α:Type}{a b:α}(h:a=b):a=b:=h
theorem sS{α β A B:Type}[Cod α A][Cod β B](x:α×β):(enc x).1=enc x.1:=nr rfl
theorem D8{α β A B:Type}[Cod α A][Cod β B](x:α×β):(enc x).2=enc x.2:=nr rfl
theorem aC{α β A B:Type}[Cod α A][Cod β B](x:α)(y:β):enc (x,y)=(enc x,enc y):=nr rfl
theorem lN(q:Rat):enc q=av q:=nr rfl
theorem LH(x:BR):dec x=ag x:=nr rfl
theorem Kb(q:Int):enc q=q:=nr rfl
theorem GY(q:Bool):enc q=q:=nr rfl
theorem Aa{q:Rat}{j:Nat}[h:Bd q j](hj:j<=480000):D' (okR (av q))=true:=aoP (qA h.le hj)
def mx(j k:Nat):Nat:=bif D' (j<=k)then k else j
theorem MI(j k:Nat):j<=mx j k:=by
 unfold mx;by_cases h:j<=k
 ·rw[aoP h];exact h
 ·rw[aoR h];exact aoU _
theorem Mv(j k:Nat):k<=mx j k:=by
 unfold mx;by_cases h:j<=k
 ·rw[aoP h];exact aoU _
 ·rw[aoR h];show k<=j;omega
theorem lH{q:Rat}{j k:Nat}[h:Bd q j](hj:j<=k)(hk:k<=480000):D' (ok Rat k (av q))=true:=okd (x:=q) hj hk
section
variable {α β A B:Type} [Cod α A] [Cod β B]
instance anD {x:α×β} {k:Nat} [h:Bd x k]:Bd x.1 k:=⟨h.le.1⟩
instance anN {x:α×β} {k:Nat} [h:Bd x k]:Bd x.2 k:=⟨h.le.2⟩
instance aoE {x:α} {y:β} {j k:Nat} [h:Bd x j] [h':Bd y k]:Bd (x,y) (mx j k):=⟨Cod.mono _ _ _ (MI _ _) h.le,Cod.mono _ _ _ (Mv _ _) h'.le⟩
instance anq {b:Bool} {x y:α} {j k:Nat} [h:Bd x j] [h':Bd y k]:Bd (bif b then x else y) (mx j k):=by
 refine⟨?_⟩;cases b
 ·exact Cod.mono _ _ _ (Mv _ _) h'.le
 ·exact Cod.mono _ _ _ (MI _ _) h.le
theorem Bd.mono{x:α}{j k:Nat}(h:Bd x j)(hk:j<=k):Bd x k:=⟨Cod.mono _ _ _ hk h.le⟩
end
section
variable {a b:Rat} {j k:Nat}
instance aoo [h:Bd a j] [h':Bd b k]:Bd (a+b) (j+k+1):=⟨JL h.le h'.le⟩
instance aos [h:Bd a j] [h':Bd b k]:Bd (a-b) (j+k+1):=⟨VB h.le h'.le⟩
instance aoc [h:Bd a j] [h':Bd b k]:Bd (a*b) (j+k):=⟨Ko h.le h'.le⟩
instance anG [h:Bd a j]:Bd (-a) j:=⟨wT h.le⟩
theorem sw(h:bdR k b):1<=k:=by
 have h1:=h.2;have h2:=IM (b.den:Int);have h3:=b.den_pos;rcases apJ k with e|e
 ·subst e;have:szI (b.den:Int)=0:=by omega
  rw[this]at h2;have:pw 0=1:=rfl;omega
 ·exact e
instance anY [h:Bd a j] [h':Bd b k]:Bd (a/b) (j+k):=by
 refine⟨?_⟩;by_cases h0:b=0
 ·subst h0;rw[Rat.div_def,Rat.inv_zero,Rat.mul_zero];have:=sw h'.le;exact cd (j:=1) ⟨by decide+kernel,by decide+kernel⟩ (by omega)
 ·exact X6 h.le h'.le h0
end
theorem dQ{n:Int}(h:bI n):Bd (n:Rat) 3:=by
 refine⟨?_⟩;show bdR 3 (n:Rat);refine⟨?_,?_⟩
 ·rw[Rat.num_intCast];have:pw 3=1000000000000000000000000000:=by decide
  exact eW (by have:=h.1;omega) (by have:=h.2;omega)
 ·rw[Rat.den_intCast];exact eW (by decide) (by decide)
instance tm:Bd (0:Rat) 1:=⟨⟨by decide+kernel,by decide+kernel⟩⟩
theorem eN{x:BR}(h:okR x):∃q:Rat,x=av q/\Bd q 480000:=⟨ag x,QM h,⟨Ch h⟩⟩
def ale(a b:Rat×Rat):Rat:=a.1*b.1+a.2*b.2
end
def QD:List En:=[enK B5,enK DK,enK Sa,enF OB,enF NO,enK Pz,enK QC,enK UT]
def OW(_k:KT):OLR:=og (D' (bI (1:Int))) (S' [RV.d y3Y (ah (1:Int))])
def NR:Cn 71 []:=cn<|lf True [.d y3Y (ah 1)] λ_=>by
 refine aA QD (OW) ⟨0,?_⟩;unfold OW;rw[dT (show bI 1 by decide)]
def NP:List En:=enK NR::QD
def aad(x y:Bool×List Int)(_k:KT):OLR:=og (D' (okI y)) (match D' ((b9 (ab y) 0)<0)with|T'=>(og (D' (okI x)) (og (D' (okI y)) (og (D' (okI (ah (-ab x))/\okI (ah (-ab y)))) (og (D' (fa (ah (-ab x)) (ah ((Int.gcd (ab (ah (-ab x))) (ab (ah (-ab y))):Nat):Int)))) (og (D' (fa (ah (-ab y)) (ah ((Int.gcd (ab (ah (-ab x))) (ab (ah (-ab y))):Nat):Int)))) (S' [RV.d (.st (.pair y3Y y3Y)) ((ah (ab (ah (-ab x))/ab (ah ((Int.gcd (ab (ah (-ab x))) (ab (ah (-ab y))):Nat):Int)))),(ah (ab (ah (-ab y))/ab (ah ((Int.gcd (ab (ah (-ab x))) (ab (ah (-ab y))):Nat):Int)))))]))))))|F'=>(og (D' (okI x/\okI y)) (og (D' (fa x (ah ((Int.gcd (ab x) (ab y):Nat):Int)))) (og (D' (fa y (ah ((Int.gcd (ab x) (ab y):Nat):Int)))) (S' [RV.d (.st (.pair y3Y y3Y)) ((ah (ab x/ab (ah ((Int.gcd (ab x) (ab y):Nat):Int)))),(ah (ab y/ab (ah ((Int.gcd (ab x) (ab y):Nat):Int)))))])))))
def abV:Cn 55 [y3Y,y3Y]:=cn λ(x y:Bool×List Int)=>lf (jk x y) [.d (.st (.pair y3Y y3Y)) (eT x y)] λh=>by
 refine aA NP (aad x y) ⟨0,?_⟩;obtain⟨hx,hy,hne⟩:=h;have sx:=iG hx;have sy:=iG hy;have hgp:0<Int.gcd (ab x) (ab y):=arq λe=>hne (Int.gcd_eq_zero_iff.1 e).2;have hgs:=OA (a:=ab x) hne sy;have og:okI (ah ((Int.gcd (ab x) (ab y):Nat):Int)):=aT hgs;have o1:okI (ah (-ab x)):=aT (by rw[iW];exact sx);have o2:okI (ah (-ab y)):=aT (by rw[iW];exact sy);have ig:∀z:BI,okI z->fa z (ah ((Int.gcd (ab x) (ab y):Nat):Int)):=λz hz=>⟨hz,og,by rw[dec_enc];omega⟩
 unfold aad eT;rw[dT hy];rcases aq4 hne with hn|hn
 ·rw[da hn,dT (show(-1:Int)<0 by decide),dT hx];simp only[dec_enc,Int.gcd_neg,Int.neg_gcd];rw[dT (show okI (ah (-ab x))/\okI (ah (-ab y)) from⟨o1,o2⟩),dT (ig _ o1),dT (ig _ o2),<-Rat.neg_divInt_neg,nO (by omega),Int.gcd_neg,Int.neg_gcd]
 ·rw[cH hn,dF (show ¬(1:Int)<0 by decide)];simp only[dec_enc];rw[dT (show okI x/\okI y from⟨hx,hy⟩),dT (ig _ hx),dT (ig _ hy),nO hn]
def po:List En:=enK abV::NP
def Pp(a:(Bool×List Int)×Bool×List Int)(_k:KT):OLR:=og (D' (okI a.1)) (S' [RV.d ask (b9 (ab a.1) 0)])
def Px(n:Int)(_k:KT):OLR:=og (D' (bI n)) (S' [RV.d (.st (.pair y3Y y3Y)) ((ah n),(ah 1))])
def RD(a b:(Bool×List Int)×Bool×List Int)(_k:KT):OLR:=og (D' (okI a.1/\okI b.2)) (og (D' (okI b.1/\okI a.2)) (og (D' (okI (ah (ab a.1*ab b.2))/\okI (ah (ab b.1*ab a.2)))) (S' [RV.d ask (b9 (ab (ah (ab a.1*ab b.2))) (ab (ah (ab b.1*ab a.2))))])))
def TB(a b:(Bool×List Int)×Bool×List Int)(_k:KT):OLR:=og (D' (okI a.1/\okI b.2)) (og (D' (okI b.1/\okI a.2)) (og (D' (okI (ah (ab a.1*ab b.2))/\okI (ah (ab b.1*ab a.2)))) (og (D' (okI a.2/\okI b.2)) (og (D' (jk (ah (ab (ah (ab a.1*ab b.2))+ab (ah (ab b.1*ab a.2)))) (ah (ab a.2*ab b.2)))) (S' [RV.d (.st (.pair y3Y y3Y)) (((eT (ah (ab (ah (ab a.1*ab b.2))+ab (ah (ab b.1*ab a.2)))) (ah (ab a.2*ab b.2))).1),((eT (ah (ab (ah (ab a.1*ab b.2))+ab (ah (ab b.1*ab a.2)))) (ah (ab a.2*ab b.2))).2))])))))
def NJ(a b:(Bool×List Int)×Bool×List Int)(_k:KT):OLR:=og (D' (okI a.1/\okI b.1)) (og (D' (okI a.2/\okI b.2)) (og (D' (jk (ah (ab a.1*ab b.1)) (ah (ab a.2*ab b.2)))) (S' [RV.d (.st (.pair y3Y y3Y)) (((eT (ah (ab a.1*ab b.1)) (ah (ab a.2*ab b.2))).1),((eT (ah (ab a.1*ab b.1)) (ah (ab a.2*ab b.2))).2))])))
def QJ(a:(Bool×List Int)×Bool×List Int)(_k:KT):OLR:=og (D' (okI a.1)) (S' [RV.d (.st (.pair y3Y y3Y)) ((ah (-ab a.1)),a.2)])
def NA(x y:Bool×List Int)(_k:KT):OLR:=og (D' (okI y)) (match(b9 (ab y) 0)==0 with|T'=>S' [RV.d (.st (.pair y3Y y3Y)) ((F',[]),(F',[])),RV.d ask 6]|F'=>(og (D' (jk x y)) (S' [RV.d (.st (.pair y3Y y3Y)) (((eT x y).1),((eT x y).2)),RV.d ask 0])))
def ag0:Cn 369 [y3Y,y3Y]:=cn λ(x y:Bool×List Int)=>lf (jk x y) [.d (.st (.pair y3Y y3Y)) (eT x y),.d ask 0] λh=>by
 refine aA po (NA x y) ⟨0,?_⟩;obtain⟨hx,hy,hne⟩:=h
 have hnz:(b9 (ab y) 0==0)=false:=by
  rcases aq4 hne with h|h
  ·rw[da h];rfl
  ·rw[cH h];rfl
 unfold NA;rw[dT hy,hnz,dT (show jk x y from⟨hx,hy,hne⟩)]
def J7:List En:=enK ag0::po
def PI(a b:(Bool×List Int)×Bool×List Int)(_k:KT):OLR:=match D' (okI a.1/\okI b.2)with|T'=>(match D' (okI a.2/\okI b.1)with|T'=>(match D' (jk (ah (ab a.1*ab b.2)) (ah (ab a.2*ab b.1)))with|T'=>S' [RV.d (.st (.pair y3Y y3Y)) (((eT (ah (ab a.1*ab b.2)) (ah (ab a.2*ab b.1))).1),((eT (ah (ab a.1*ab b.2)) (ah (ab a.2*ab b.1))).2)),RV.d ask 0]|F'=>N')|F'=>N')|F'=>N'
def nV:Cn 15 [(.st (.pair y3Y y3Y))]:=cn λ(a:(Bool×List Int)×Bool×List Int)=>lf (okR a) [.d ask (aD (ag a) 0)] λh=>by
 refine aA po (Pp a) ⟨0,?_⟩;unfold Pp;rw[dT h.1,<-vB,(cM h).1]
def lg:Cn 29 [ask]:=cn λ(n:Int)=>lf (bI n) [.d (.st (.pair y3Y y3Y)) (av (n:Rat))] λh=>by
 refine aA po (Px n) ⟨0,?_⟩;unfold Px av;rw[dT h,Rat.num_intCast,Rat.den_intCast];rfl
def oW:Cn 14 [(.st (.pair y3Y y3Y)),(.st (.pair y3Y y3Y))]:=cn λ(a b:(Bool×List Int)×Bool×List Int)=>lf (okR a/\okR b) [.d ask (aD (ag a) (ag b))] λh=>by
 refine aA po (RD a b) ⟨0,?_⟩;obtain⟨ha,hb⟩:=h;obtain⟨a1,a2⟩:=cM ha;obtain⟨b1,b2⟩:=cM hb;obtain⟨sa1,sa2⟩:=fU ha;obtain⟨sb1,sb2⟩:=fU hb;have h1:=cK sa1 sb2;have h2:=cK sb1 sa2;unfold RD;rw[dT (show okI a.1/\okI b.2 from⟨ha.1,hb.2.1⟩),dT (show okI b.1/\okI a.2 from⟨hb.1,ha.2.1⟩),dT (show okI (ah (ab a.1*ab b.2))/\okI (ah (ab b.1*ab a.2)) from⟨aT (by omega),aT (by omega)⟩),dec_enc,dec_enc,<-a1,<-a2,<-b1,<-b2,zq]
def ou:Cn 58 [(.st (.pair y3Y y3Y))]:=cn λ(a:(Bool×List Int)×Bool×List Int)=>lf (okR a) [.d (.st (.pair y3Y y3Y)) (av (-ag a))] λh=>by
 refine aA po (QJ a) ⟨0,?_⟩;obtain⟨a1,a2⟩:=cM h;unfold QJ
 have e:av (-ag a)=(ah (-ab a.1),a.2):=by
  unfold av;rw[Rat.neg_num,a1,show((-ag a).den:Int)=((ag a).den:Int) from rfl,a2,<-gT h.2.1]
 rw[dT h.1,e]
def ru:Cn 18 [(.st (.pair y3Y y3Y)),(.st (.pair y3Y y3Y))]:=cn λ(a b:(Bool×List Int)×Bool×List Int)=>lf (okR a/\okR b) [.d (.st (.pair y3Y y3Y)) (av (ag a+ag b))] λh=>by
 refine aA po (TB a b) ⟨0,?_⟩;obtain⟨ha,hb⟩:=h;obtain⟨a1,a2⟩:=cM ha;obtain⟨b1,b2⟩:=cM hb;obtain⟨sa1,sa2⟩:=fU ha;obtain⟨sb1,sb2⟩:=fU hb;have pa:=ha.2.2.1;have pb:=hb.2.2.1;have h1:=cK sa1 sb2;have h2:=cK sb1 sa2;have h3:=cK sa2 sb2;have h4:=xe h1 h2;have hda:ag a=Rat.divInt (ab a.1) (ab a.2):=by rw[<-a1,<-a2,apR]
 have hdb:ag b=Rat.divInt (ab b.1) (ab b.2):=by rw[<-b1,<-b2,apR]
 unfold TB;rw[dT (show okI a.1/\okI b.2 from⟨ha.1,hb.2.1⟩),dT (show okI b.1/\okI a.2 from⟨hb.1,ha.2.1⟩),dT (show okI (ah (ab a.1*ab b.2))/\okI (ah (ab b.1*ab a.2)) from⟨aT (by omega),aT (by omega)⟩),dT (show okI a.2/\okI b.2 from⟨ha.2.1,hb.2.1⟩)];simp only[dec_enc];rw[dT (show jk (ah (ab a.1*ab b.2+ab b.1*ab a.2)) (ah (ab a.2*ab b.2)) from⟨aT (by omega),aT (by omega),by rw[dec_enc];exact arz (by omega) (by omega)⟩)]
 have e:eT (ah (ab a.1*ab b.2+ab b.1*ab a.2)) (ah (ab a.2*ab b.2))=av (ag a+ag b):=by
  unfold eT;rw[dec_enc,dec_enc,hda,hdb,Rat.divInt_add_divInt _ _ (by omega) (by omega)]
 rw[e]
def n7:Cn 57 [(.st (.pair y3Y y3Y)),(.st (.pair y3Y y3Y))]:=cn λ(a b:(Bool×List Int)×Bool×List Int)=>lf (okR a/\okR b) [.d (.st (.pair y3Y y3Y)) (av (ag a*ag b))] λh=>by
 refine aA po (NJ a b) ⟨0,?_⟩;obtain⟨ha,hb⟩:=h;obtain⟨a1,a2⟩:=cM ha;obtain⟨b1,b2⟩:=cM hb;obtain⟨sa1,sa2⟩:=fU ha;obtain⟨sb1,sb2⟩:=fU hb;have pa:=ha.2.2.1;have pb:=hb.2.2.1;have h1:=cK sa1 sb1;have h3:=cK sa2 sb2;have hda:ag a=Rat.divInt (ab a.1) (ab a.2):=by rw[<-a1,<-a2,apR]
 have hdb:ag b=Rat.divInt (ab b.1) (ab b.2):=by rw[<-b1,<-b2,apR]
 unfold NJ;rw[dT (show okI a.1/\okI b.1 from⟨ha.1,hb.1⟩),dT (show okI a.2/\okI b.2 from⟨ha.2.1,hb.2.1⟩),dT (show jk (ah (ab a.1*ab b.1)) (ah (ab a.2*ab b.2)) from⟨aT (by omega),aT (by omega),by rw[dec_enc];exact arz (by omega) (by omega)⟩)]
 have e:eT (ah (ab a.1*ab b.1)) (ah (ab a.2*ab b.2))=av (ag a*ag b):=by
  unfold eT;rw[dec_enc,dec_enc,hda,hdb,arA]
 rw[e]
def xU:Cn 324 [(.st (.pair y3Y y3Y)),(.st (.pair y3Y y3Y))]:=cn λ(a b:(Bool×List Int)×Bool×List Int)=>lf (jK a b) [.d (.st (.pair y3Y y3Y)) (av (ag a/ag b)),.d ask 0] λh=>by
 refine aA J7 (PI a b) ⟨0,?_⟩;obtain⟨ha,hb,hne⟩:=h;obtain⟨a1,a2⟩:=cM ha;obtain⟨b1,b2⟩:=cM hb;obtain⟨sa1,sa2⟩:=fU ha;obtain⟨sb1,sb2⟩:=fU hb;have pa:=ha.2.2.1;have h1:=cK sa1 sb2;have h3:=cK sa2 sb1;have hda:ag a=Rat.divInt (ab a.1) (ab a.2):=by rw[<-a1,<-a2,apR]
 have hdb:ag b=Rat.divInt (ab b.1) (ab b.2):=by rw[<-b1,<-b2,apR]
 have hmz:ab a.2*ab b.1≠0:=arz (by omega) hne;unfold PI;rw[dT (show okI a.1/\okI b.2 from⟨ha.1,hb.2.1⟩),dT (show okI a.2/\okI b.1 from⟨ha.2.1,hb.1⟩)];simp only;rw[dT (show jk (ah (ab a.1*ab b.2)) (ah (ab a.2*ab b.1)) from⟨aT (by omega),aT (by omega),by rw[dec_enc];exact hmz⟩)]
 have e:eT (ah (ab a.1*ab b.2)) (ah (ab a.2*ab b.1))=av (ag a/ag b):=by
  unfold eT;rw[dec_enc,dec_enc,hda,hdb,Rat.div_def,Rat.inv_divInt,arA]
 rw[e]
def agK:List En:=enK ru::enK ou::enK xU::J7
def S7(a b:(Bool×List Int)×Bool×List Int)(_k:KT):OLR:=match D' (okR b)with|T'=>(match D' (okR a/\okR (av (-ag b)))with|T'=>S' [RV.d (.st (.pair y3Y y3Y)) (((av (ag a+ag (av (-ag b)))).1),((av (ag a+ag (av (-ag b)))).2))]|F'=>N')|F'=>N'
def xY:Cn 20 [(.st (.pair y3Y y3Y)),(.st (.pair y3Y y3Y))]:=cn λ(a b:(Bool×List Int)×Bool×List Int)=>lf (okR a/\okR b) [.d (.st (.pair y3Y y3Y)) (av (ag a-ag b))] λh=>by
 refine aA agK (S7 a b) ⟨0,?_⟩;obtain⟨ha,hb⟩:=h;unfold S7;rw[dT hb,eP,Rat.sub_eq_add_neg,dT (show okR a/\okR (av (-ag b)) from⟨ha,qA (wT (Ch hb)) (aoU _)⟩)]
theorem gR{a b:Rat}{j k:Nat}[ha:Bd a j][hb:Bd b k](hj:j<=480000)(hk:k<=480000)(h:b≠0):D' (jK (av a) (av b))=true:=
 aoP ⟨qA ha.le hj,qA hb.le hk,by show ab (ah b.num)≠0;rw[dec_enc];exact λe=>h (Rat.num_eq_zero.1 e)⟩
theorem aV:type_of% @dD/\type_of% @cO/\type_of% @dp/\type_of% @aQ/\type_of% @ao/\type_of% @sS/\type_of% @D8/\type_of% @lN/\type_of% @Kb/\type_of% @GY/\type_of% @LH/\type_of% @eP/\type_of% @ahJ/\type_of% @ajP/\type_of% @ang/\type_of% @okd/\type_of% @lH/\type_of% @Aa/\type_of% @gR/\type_of% @aqW/\type_of% @Bool.and_true/\type_of% @apV/\type_of% @aqf/\type_of% @mx.eq_1/\type_of% @arR/\type_of% @decide_false/\(∀{α:Type} (a b:α),cond T' a b=a)/\∀{α:Type} (a b:α),cond F' a b=b:=
 ⟨@dD,@cO,@dp,@aQ,@ao,@sS,@D8,@lN,@Kb,@GY,@LH,@eP,@ahJ,@ajP,@ang,@okd,@lH,@Aa,@gR,@aqW,@Bool.and_true,@apV,@aqf,@mx.eq_1,@arR,@decide_false,@cond_true,@cond_false⟩
theorem au(a b:Rat):D' (aD a b>0)=D' (b<a):=by
 rcases(by grind:a<b\/a=b\/b<a)with h|h|h
 ·rw[ef h,aoR (show ¬b<a by grind)];rfl
 ·rw[h,eo,aoR (show ¬b<b by grind)];rfl
 ·rw[dM h,aoP h];rfl
theorem aq(a b:Rat):D' (aD a b<0)=D' (a<b):=by
 rcases(by grind:a<b\/a=b\/b<a)with h|h|h
 ·rw[ef h,aoP h];rfl
 ·rw[h,eo,aoR (show ¬b<b by grind)];rfl
 ·rw[dM h,aoR (show ¬a<b by grind)];rfl
theorem am(a b:Rat):(aD a b==0)=D' (a=b):=by
 rcases(by grind:a<b\/a=b\/b<a)with h|h|h
 ·rw[ef h,aoR (show ¬a=b by grind)];rfl
 ·rw[h,eo,aoP rfl];rfl
 ·rw[dM h,aoR (show ¬a=b by grind)];rfl
theorem jZ(a b:Rat): -1<=aD a b/\aD a b<=1:=by
 rcases(by grind:a<b\/a=b\/b<a)with h|h|h
 ·rw[ef h];decide
 ·rw[h,eo];decide
 ·rw[dM h];decide
theorem qd{a b c d:Rat}:i64.wrap (aD a b*aD c d)=aD a b*aD c d:=by
 rcases(by grind:a<b\/a=b\/b<a)with h|h|h<;>rcases(by grind:c<d\/c=d\/d<c)with h'|h'|h';all_goals first|rw[ef h]|(subst h;rw[eo])|rw[dM h]
 all_goals first|rw[ef h']|(subst h';rw[eo])|rw[dM h']
 all_goals decide
abbrev Rt:=Rat×Rat×Rat
def gb(a b m:Rat):Int:=RE.addS (aD a 0) (aD b 0*aD m 0) (aD (a*a) (b*b*m))
def Em(A B C D M N:Rat):Int:=bif D' (M<0)||D' (N<0)then 0
 else RE.addS (gb A B M) (gb C D M*aD N 0) (gb (A*A+B*B*M-N*(C*C+D*D*M)) (2*(A*B-N*(C*D))) M)
def bj(x y:Rt):Int:=Em (x.1-y.1) x.2.1 (-y.2.1) 0 x.2.2 y.2.2
theorem xD(a b:Rat):aD (a-b) 0=aD a b:=by
 rcases(by grind:a<b\/a=b\/b<a)with h|h|h
 ·rw[ef h,ef (by grind)]
 ·rw[h,eo,show b-b=0 by grind,eo]
 ·rw[dM h,dM (by grind)]
namespace RE
def rq(m:Rat):RE:=z5 (of m)
theorem Qm(m:Rat):0<=rq m:=oZ _
theorem qV{m:Rat}(h:0<=m):rq m*rq m=of m:=CV (oA.2 h)
theorem Xk{x:RE}(h:0<=x):sg (z5 x)=sg x:=by
 have h1:=oZ x;have h2:=CV h;rcases oT h1 with h'|h'
 ·rw[jg h',<-h2,jg (mul_pos h' h')]
 ·rw[h',mul_zero]at h2;rw[h',h2]
theorem SK{m:Rat}(h:0<=m):sg (rq m)=aD m 0:=by
 unfold rq;rw[Xk (oA.2 h),sg_of]
def v2(a b m:Rat):RE:=of a+of b*rq m
def vR(x:Rt):RE:=v2 x.1 x.2.1 x.2.2
theorem sq2(a b s:RE):a*a-b*s*(b*s)=a*a-b*b*(s*s):=by grind
theorem sq4(A B C D s t:RE):(A+B*s)*(A+B*s)-(C+D*s)*t*((C+D*s)*t)=A*A+B*B*(s*s)-t*t*(C*C+D*D*(s*s))+2*(A*B-t*t*(C*D))*s:=by grind
theorem anl(A B C D s t:RE):A+B*s+(C+D*s)*t=A+B*s+C*t+D*(s*t):=by grind
theorem aeZ(a b c d s t:RE):a-c+b*s+(-d)*t+0*(s*t)=a+b*s-(c+d*t):=by grind
theorem sgn2_re{a b m:Rat}(h:0<=m):gb a b m=sg (v2 a b m):=by
 unfold v2;rw[Re,sq2,qV h,vd,sg_of,sg_of,SK h,<-bR,<-bR,<-bR,<-of_sub,sg_of,xD];rfl
theorem ahe:of 2=2:=rfl
def vQ(A B C D M N:Rat):RE:=of A+of B*rq M+of C*rq N+of D*(rq M*rq N)
theorem sgnQ_re{A B C D M N:Rat}(hM:0<=M)(hN:0<=N):Em A B C D M N=sg (vQ A B C D M N):=by
 unfold Em vQ;rw[aoR (by grind),aoR (by grind),<-anl,Re,sq4,qV hM,qV hN,vd,SK hN,sgn2_re hM,sgn2_re hM,sgn2_re hM];unfold v2;simp only[of_sub,of_add,bR,ahe];rfl
theorem cmpT_re{x y:Rt}(hx:0<=x.2.2)(hy:0<=y.2.2):bj x y=sg (vR x-vR y):=by
 unfold bj vR v2;rw[sgnQ_re hx hy,<-aeZ,<-of_sub,<-of_neg];rfl
end RE
theorem B4{s t:Int}(hs: -1<=s/\s<=1)(ht: -1<=t/\t<=1): -1<=s*t/\s*t<=1:=by
 have h1:s= -1\/s=0\/s=1:=by omega
 have h2:t= -1\/t=0\/t=1:=by omega
 rcases h1 with rfl|rfl|rfl<;>rcases h2 with rfl|rfl|rfl<;>decide
theorem KM{s t d:Int}(hs: -1<=s/\s<=1)(ht: -1<=t/\t<=1)(hd: -1<=d/\d<=1): -1<=RE.addS s t d/\RE.addS s t d<=1:=by
 unfold RE.addS;cases(t==0||s==t)
 ·cases s==0
  ·exact B4 hs hd
  ·exact ht
 ·exact hs
theorem jb(a b m:Rat): -1<=gb a b m/\gb a b m<=1:=KM (jZ _ _) (B4 (jZ _ _) (jZ _ _)) (jZ _ _)
theorem Yf(A B C D M N:Rat): -1<=Em A B C D M N/\Em A B C D M N<=1:=by
 unfold Em;cases(decide (M<0)||decide (N<0))
 ·exact KM (jb _ _ _) (B4 (jb _ _ _) (jZ _ _)) (jb _ _ _)
 ·exact⟨by show(-1:Int)<=0;decide,by show(0:Int)<=1;decide⟩
theorem wR(x y:Rt): -1<=bj x y/\bj x y<=1:=Yf _ _ _ _ _ _
theorem mO(a b:Int):(b9 a b==0)=D' (a=b):=by
 rcases Int.lt_trichotomy a b with h|h|h
 ·rw[da h,aoR (by omega)];rfl
 ·rw[h,dU,aoP rfl];rfl
 ·rw[cH h,aoR (by omega)];rfl
def Tc:List En:=[enK B5,enF NO,enK DK,enK HO,enK QC]
def Wm:NT:=[((243,23),{keep:=[1,2,4,5],hl:=6})]
def Ed:Ctx:=CX (ens Tc) Wm
def kD(x:Bool×List Int)(b4_0:Bool)(b4_1:List Int):Cfg:=⟨243,[.blk 0],[(1,.box 0 0),(2,.box 1 0),(4,.box 4 0),(5,.box 5 0)],[.box 36 [SB x.1,.d asj x.2],.box 36 [SB F',.nil],.gone,.row 194 asl ([1]),.box 36 [SB b4_0,.d asj b4_1],.box 36 [SB ((ah (2:Int)).1),.d asj ((ah (2:Int)).2)]],0,[]⟩
def Df(x:Bool×List Int)(k:KT):OLR:=match x.1 with|T'=>S' [RV.d y3Y (F',[]),RV.d ask 7]|F'=>(match(x.2.length:Int)==0 with|T'=>S' [RV.d y3Y (F',[]),RV.d ask 0]|F'=>(og (D' ((0:Int)<=i64.wrap (Int.tdiv (i64.wrap ((x.2.length:Int)+1)) 2)/\(i64.wrap (Int.tdiv (i64.wrap ((x.2.length:Int)+1)) 2))*((4:Nat):Int)<=140737488355328/\i64.wrap (Int.tdiv (i64.wrap ((x.2.length:Int)+1)) 2)<=140737488355328)) (og (D' (((List.replicate (i64.wrap (Int.tdiv (i64.wrap ((x.2.length:Int)+1)) 2)).toNat (0:Int)).length+([1]).length)*4<=140737488355328/\(List.replicate (i64.wrap (Int.tdiv (i64.wrap ((x.2.length:Int)+1)) 2)).toNat (0:Int)).length+([1]).length<=140737488355328)) (og (D' (bI (2:Int))) (k 23 (kD x F' ((List.replicate (i64.wrap (Int.tdiv (i64.wrap ((x.2.length:Int)+1)) 2)).toNat (0:Int))++([1]))))))))
theorem HY(x:Bool×List Int):RS Ed 243 [.d y3Y x] (Df x):=rsX
def rE(x:Bool×List Int)(b4_0:Bool)(b4_1:List Int)(k:KT):OLR:=og (D' (fa x (b4_0,b4_1))) (cW (og (D' (okI (b4_0,b4_1)/\okI (ah (ab x/ab (b4_0,b4_1))))) (cW (og (D' (fa (ah (ab (b4_0,b4_1)+ab (ah (ab x/ab (b4_0,b4_1))))) (ah (2:Int)))) (dup (.b .l .l) (og (D' (okI (ah (ab (ah (ab (b4_0,b4_1)+ab (ah (ab x/ab (b4_0,b4_1)))))/ab (ah (2:Int))))/\okI (b4_0,b4_1))) (match D' ((b9 (ab (ah (ab (ah (ab (b4_0,b4_1)+ab (ah (ab x/ab (b4_0,b4_1)))))/ab (ah (2:Int))))) (ab (b4_0,b4_1)))>=0)with|T'=>S' [RV.d y3Y (b4_0,b4_1),RV.d ask 0]|F'=>k 23 (kD x ((ah (ab (ah (ab (b4_0,b4_1)+ab (ah (ab x/ab (b4_0,b4_1)))))/ab (ah (2:Int)))).1) ((ah (ab (ah (ab (b4_0,b4_1)+ab (ah (ab x/ab (b4_0,b4_1)))))/ab (ah (2:Int)))).2)))))) (dup (.b (.b .l .l) (.b .l .l)) (og (D' (fa (ah (ab (b4_0,b4_1)+ab (ah (ab x/ab (b4_0,b4_1))))) (ah (2:Int)))) (og (D' (okI (ah (ab (ah (ab (b4_0,b4_1)+ab (ah (ab x/ab (b4_0,b4_1)))))/ab (ah (2:Int))))/\okI (b4_0,b4_1))) (match D' ((b9 (ab (ah (ab (ah (ab (b4_0,b4_1)+ab (ah (ab x/ab (b4_0,b4_1)))))/ab (ah (2:Int))))) (ab (b4_0,b4_1)))>=0)with|T'=>S' [RV.d y3Y (b4_0,b4_1),RV.d ask 0]|F'=>k 23 (kD x ((ah (ab (ah (ab (b4_0,b4_1)+ab (ah (ab x/ab (b4_0,b4_1)))))/ab (ah (2:Int)))).1) ((ah (ab (ah (ab (b4_0,b4_1)+ab (ah (ab x/ab (b4_0,b4_1)))))/ab (ah (2:Int)))).2)))))))) (dup (.b .l .l) (cW (og (D' (okI (b4_0,b4_1)/\okI (ah (ab x/ab (b4_0,b4_1))))) (dup (.b .l .l) (og (D' (fa (ah (ab (b4_0,b4_1)+ab (ah (ab x/ab (b4_0,b4_1))))) (ah (2:Int)))) (og (D' (okI (ah (ab (ah (ab (b4_0,b4_1)+ab (ah (ab x/ab (b4_0,b4_1)))))/ab (ah (2:Int))))/\okI (b4_0,b4_1))) (match D' ((b9 (ab (ah (ab (ah (ab (b4_0,b4_1)+ab (ah (ab x/ab (b4_0,b4_1)))))/ab (ah (2:Int))))) (ab (b4_0,b4_1)))>=0)with|T'=>S' [RV.d y3Y (b4_0,b4_1),RV.d ask 0]|F'=>k 23 (kD x ((ah (ab (ah (ab (b4_0,b4_1)+ab (ah (ab x/ab (b4_0,b4_1)))))/ab (ah (2:Int)))).1) ((ah (ab (ah (ab (b4_0,b4_1)+ab (ah (ab x/ab (b4_0,b4_1)))))/ab (ah (2:Int)))).2))))))) (og (D' (okI (b4_0,b4_1)/\okI (ah (ab x/ab (b4_0,b4_1))))) (og (D' (fa (ah (ab (b4_0,b4_1)+ab (ah (ab x/ab (b4_0,b4_1))))) (ah (2:Int)))) (og (D' (okI (ah (ab (ah (ab (b4_0,b4_1)+ab (ah (ab x/ab (b4_0,b4_1)))))/ab (ah (2:Int))))/\okI (b4_0,b4_1))) (match D' ((b9 (ab (ah (ab (ah (ab (b4_0,b4_1)+ab (ah (ab x/ab (b4_0,b4_1)))))/ab (ah (2:Int))))) (ab (b4_0,b4_1)))>=0)with|T'=>S' [RV.d y3Y (b4_0,b4_1),RV.d ask 0]|F'=>k 23 (kD x ((ah (ab (ah (ab (b4_0,b4_1)+ab (ah (ab x/ab (b4_0,b4_1)))))/ab (ah (2:Int)))).1) ((ah (ab (ah (ab (b4_0,b4_1)+ab (ah (ab x/ab (b4_0,b4_1)))))/ab (ah (2:Int)))).2)))))))))
theorem xy(x:Bool×List Int)(b4_0:Bool)(b4_1:List Int):RN Ed 23 (kD x b4_0 b4_1) (rE x b4_0 b4_1):=rnX
theorem Na(x:BI)(hx:okI x)(h0:0<ab x):∀(m:Nat) (X:Int),X.toNat=m->0<X->bO (ab x)<=X->szI X<=900000->Ed.Runs 23 (kD x (ah X).1 (ah X).2) [.d y3Y (ah (bO (ab x))),.d ask 0]:=by
 intro m;induction m using Nat.strongRecOn with
 |ind m ih=>
  intro X hm hX hs hsz;obtain⟨g0,g1,g2⟩:=fS (apv h0);have hq0:0<=ab x/X:=apQ (by omega) (by omega);have hq1:ab x/X<=ab x:=aqL _ (by omega);have oX:okI (ah X):=aT (by omega);have sq:szI (ab x/X)<=1000000:=ao1 (dB (by omega)) (iG hx);have p1:fa x (ah X):=⟨hx,oX,by rw[dec_enc];exact hX⟩
  have ssum:szI (X+ab x/X)<=1000000:=by
   have b1:=nW hsz;have b2:=nW (iG hx);have e:pw 1000000=pw 900000*pw 100000:=by rw[<-fk]
   have p9:(1000:Int)<=pw 100000:=by
    have:pw 100000=pw 99999*1000000000:=bW 99999;have:=cf 99999;omega
   have p8:=cf 900000;have h8:pw 900000*1000<=pw 900000*pw 100000:=aoW p9 (by omega);rcases apl X 2 with hX1|hX1
   ·-- X=1:then the number is less than 4
    have:X=1:=by omega
    subst this;have:bO (ab x)<=1:=hs
    have h4:ab x<4:=by
     have:=um (a:=bO (ab x)+1) (b:=2) (by omega) (by omega);omega
    refine eW ?_ ?_<;>(rw[e,Int.ediv_one];omega)
   ·have hq2:ab x/X<=ab x/2:=by
     have:=Int.ediv_mul_le (ab x) (show X≠0 by omega);have h2:ab x/X*2<=ab x/X*X:=aoW hX1 hq0;omega
    refine eW ?_ ?_<;>(rw[e]at b2 ⊢;omega)
  have o1:okI (ah X)/\okI (ah (ab x/X)):=⟨oX,aT sq⟩
  have p2:fa (ah (X+ab x/X)) (ah 2):=⟨aT ssum,by decide,by rw[dec_enc];decide⟩
  have hn:=Nz hX g0 g1;have o2:okI (ah ((X+ab x/X)/2))/\okI (ah X):=⟨aT (ao1 (dB (by omega)) ssum),oX⟩
  by_cases hc:X<=(X+ab x/X)/2
  ·have hXs:=yc hX hs g1 g2 g0 hc;refine xy _ _ _ ⟨0,?_⟩;unfold rE;simp only[cO,dp];have e:∀z:Int,((ah z).1,(ah z).2)=ah z:=λz=>rfl;simp only[e,dec_enc,aoP p1,aoP o1,aoP p2,aoP o2]
   have hg:D' (b9 ((X+ab x/X)/2) X>=0)=true:=by
    rcases Int.lt_or_eq_of_le hc with h|h
    ·rw[cH h];rfl
    ·rw[<-h,dU];rfl
   rw[hg,hXs]
  ·obtain⟨n,hN⟩:=ih ((X+ab x/X)/2).toNat (by omega) ((X+ab x/X)/2) rfl (by
    rcases apl 0 (bO (ab x))with h|h
    ·omega
    ·exfalso;have:bO (ab x)=0:=by omega
     rw[this]at g2;omega) hn (ao1 (dB (by omega)) hsz)
   refine xy _ _ _ ⟨n,?_⟩;unfold rE;simp only[cO,dp];have e:∀z:Int,((ah z).1,(ah z).2)=ah z:=λz=>rfl;simp only[e,dec_enc,aoP p1,aoP o1,aoP p2,aoP o2];rw[da (by omega)];exact hN
def adx:Cn 243 [y3Y]:=cn λ(x:Bool×List Int)=>lf (okI x) [.d y3Y (fC x),.d ask (wm x)] λh=>by
 refine aX Tc (show Ed.Res _ _ _ from ?_);obtain⟨x0,x1,x2⟩:=co h;have hl:=h.2.2;cases hn:x.1
 ·by_cases hz:x.2=[]
  ·refine HY _ ⟨0,?_⟩;unfold Df fC wm;have:ab x=0:=by unfold ab;rw[hn,hz];rfl
   rw[hn,hz,this];rfl
  ·have hp:0<val x.2:=eu h.1 hz;have hd:ab x=val x.2:=by unfold ab;rw[hn];rfl
   have hlen:=apA.2 hz
   have hk:i64.wrap (Int.tdiv (i64.wrap ((x.2.length:Int)+1)) 2)=(((x.2.length+1)/2:Nat):Int):=by
    rw[aS (by omega),gG (by omega),aM (by omega) (by omega)];omega
   have hv:val (List.replicate ((x.2.length+1)/2) 0++[1])=pw ((x.2.length+1)/2):=by
    rw[dz,gf,aq0];simp[val]
   have hL:aR (List.replicate ((x.2.length+1)/2) 0++[1]):=by
    refine⟨λy hy=>?_,by simp;omega⟩;rcases ape.1 hy with hy|hy
    ·have:=List.eq_of_mem_replicate hy;omega
    ·simp at hy;omega
   have hpos:=cf ((x.2.length+1)/2)
   obtain⟨n,hN⟩:=Na x h (by omega) _ (pw ((x.2.length+1)/2)) rfl hpos (by
     obtain⟨g0,g1,g2⟩:=fS (show 0<=ab x by omega);have hlt:=bU h.1.1;have hm:=dm (show x.2.length<=(x.2.length+1)/2+(x.2.length+1)/2 by omega);rw[fk]at hm;have:=sq_lt (a:=bO (ab x)) (b:=pw ((x.2.length+1)/2)) (by omega) (by omega)
     omega) (eW (k:=900000) (by have:=cf 900000;omega) (by
      have:=dm (show(x.2.length+1)/2+1<=900000 by omega);rw[bW]at this;omega))
   refine HY _ ⟨n,?_⟩;unfold Df fC wm;simp only[hk];rw[hn,show((x.2.length:Int)==0)=F' by simp;omega];simp only[ara];rw[aoP (show(0:Int)<=(((x.2.length+1)/2:Nat):Int)/\(((x.2.length+1)/2:Nat):Int)*((4:Nat):Int)<=140737488355328/\(((x.2.length+1)/2:Nat):Int)<=140737488355328 by omega)];rw[aoP (show((List.replicate ((x.2.length+1)/2) (0:Int)).length+([1]:List Nat).length)*4<=140737488355328/\(List.replicate ((x.2.length+1)/2) (0:Int)).length+([1]:List Nat).length<=140737488355328 by simp;omega)];rw[aoP (show bI 2 by decide)]
   have he:ah (pw ((x.2.length+1)/2))=(F',List.replicate ((x.2.length+1)/2) 0++[1]):=by
    have ho:okI ((F',List.replicate ((x.2.length+1)/2) 0++[1]):BI):=⟨⟨hL.1,by simp⟩,(λe=>by cases e),(by simp;omega)⟩
    rw[gT ho];congr 1;exact hv.symm
   rw[he]at hN;exact hN
 ·refine HY _ ⟨0,?_⟩;unfold Df fC wm;rw[hn];rfl
def ak0:List En:=enF zY::Tc
def SZ(x y:Bool×List Int)(_k:KT):OLR:=match x.1==y.1 with|T'=>(og (D' (rm x.2 y.2)) (S' [RV.d .bool ((b9 (val x.2) (val y.2))==0)]))|F'=>S' [RV.d .bool F']
def Qi:Cn 244 [y3Y,y3Y]:=cn λ(x y:Bool×List Int)=>lf (okI x/\okI y) [.d .bool (D' (ab x=ab y))] λh=>by
 refine aA ak0 (SZ x y) ⟨0,?_⟩;obtain⟨hx,hy⟩:=h;obtain⟨x0,x1,x2⟩:=co hx;obtain⟨y0,y1,y2⟩:=co hy;unfold SZ;rw[dT (show rm x.2 y.2 from⟨⟨hx.1,by have:=hx.2.2;omega⟩,⟨hy.1,by have:=hy.2.2;omega⟩⟩)];rw[bQ,bQ];unfold bZ;cases ex:x.1<;>cases ey:y.1<;>simp only[cond_true,cond_false]
 ·show S' [RV.d .bool (b9 (val x.2) (val y.2)==0)]=_;rw[mO]
 ·have:=y1 ey;rw[aoR (show ¬val x.2= -val y.2 by omega)];rfl
 ·have:=x1 ex;rw[aoR (show ¬ -val x.2=val y.2 by omega)];rfl
 ·show S' [RV.d .bool (b9 (val x.2) (val y.2)==0)]=_;rw[mO,show D' (val x.2=val y.2)=D' (-val x.2= -val y.2) from arM.2 (by omega)]
def eA(q:Rat):Bool:=D' (bO q.num*bO q.num=q.num)&&D' (bO (q.den:Int)*bO (q.den:Int)=(q.den:Int))
def rtQ(q:Rat):Rat:=mkRat (bO q.num) (bO (q.den:Int)).toNat
theorem Dj(z:Int):0<=bO z:=by unfold bO;omega
theorem Cp{s:Int}(h:0<=s):bO (s*s)=s:=Wq h (ase _) (by grind)
theorem pZ{z:Int}(h:z<0):bO z=0:=by
 unfold bO;rw[show z.toNat=0 by omega];rfl
theorem ak7{s t:Nat}(ht:0<t)(hg:(s*s).Coprime (t*t)):(mkRat (s:Int) t).num=(s:Int)/\(mkRat (s:Int) t).den=t:=by
 have hc:s.Coprime t:=Nat.Coprime.coprime_dvd_left (Nat.dvd_mul_left s s) (Nat.Coprime.coprime_dvd_right (Nat.dvd_mul_left t t) hg);rw[arY,arZ,aph (by omega),aph (by omega),aq3,show t.gcd s=1 from hc.symm];simp
theorem H9{q:Rat}(h:eA q=T'):(rtQ q).num=bO q.num/\((rtQ q).den:Int)=bO (q.den:Int)/\rtQ q*rtQ q=q/\0<=rtQ q:=by
 unfold eA at h;simp only[aoT,arG]at h;obtain⟨h1,h2⟩:=h;have hd:=q.den_pos;have hr:=q.reduced;obtain⟨s,hs⟩:=ap7 (Dj q.num);obtain⟨t,ht⟩:=ap7 (Dj (q.den:Int));unfold rtQ;rw[hs,ht,ara];rw[hs]at h1;rw[ht]at h2;have e1:q.num.natAbs=s*s:=by rw[<-h1,<-aqd,aq3]
 have e2:q.den=t*t:=by rw[<-aqd]at h2;omega
 have hg:(s*s).Coprime (t*t):=by rw[<-e1,<-e2];exact hr
 have tp:0<t:=arq λe=>by rw[e2,e]at hd;simp at hd
 obtain⟨g1,g2⟩:=ak7 tp hg;refine⟨g1,by rw[g2],?_,?_⟩
 ·rw[Rat.mkRat_mul_mkRat,<-e2,h1,Rat.mkRat_self]
 ·exact Rat.num_nonneg.1 (by rw[g1];omega)
theorem JF(r:Rat):eA (r*r)=true:=by
 have hd:=r.den_pos
 have hc:(r.den*r.den).gcd (r.num*r.num).natAbs=1:=by
  rw[Int.natAbs_mul];have:=r.reduced.symm;exact Nat.Coprime.mul_left (Nat.Coprime.mul_right this this) (Nat.Coprime.mul_right this this)
 have e1:(r*r).num=r.num*r.num:=by
  rw[Rat.mul_def',arY,hc,aph (Nat.mul_ne_zero (by omega) (by omega))];simp
 have e2:((r*r).den:Int)=(r.den:Int)*(r.den:Int):=by
  rw[Rat.mul_def',arZ,hc,aph (Nat.mul_ne_zero (by omega) (by omega)),Nat.div_one,aqd]
 unfold eA;rw[e1,e2,Cp (s:=(r.den:Int)) (by omega)];rcases apl r.num 0 with h|h
 ·rw[show r.num*r.num= -r.num* -r.num by grind,Cp (by omega)];simp
 ·rw[Cp h];simp
def rtB(q:Rat):BR:=bif eA q then av (rtQ q)else((F',[]),(F',[]))
theorem CW{x:BI}(h:okI x):fC x=ah (bO (ab x)):=by
 obtain⟨x0,x1,x2⟩:=co h;unfold fC;cases hx:x.1
 ·rfl
 ·have:=x1 hx;have hd:ab x= -val x.2:=by rw[bQ,hx];rfl
  rw[hd,pZ (by omega)];rfl
theorem Jn{z:Int}(h:szI z<=1000000):szI (bO z)<=500000:=by
 have h1:=nW h;have e:pw 1000000=pw 500000*pw 500000:=by rw[<-fk]
 have hp:=cf 500000;rcases apl z 0 with h0|h0
 ·rw[pZ h0];exact eW (by omega) hp
 ·obtain⟨g0,g1,g2⟩:=fS h0;have:=sq_lt (a:=bO z) (b:=pw 500000) (by omega) (by omega);exact eW (by omega) this
theorem SP(a b:Int):(ah a==ah b)=D' (a=b):=by
 by_cases h:a=b
 ·rw[h,aoP rfl];simp
 ·rw[aoR h,apk];intro e;exact h (by rw[<-dec_enc a,e,dec_enc])
theorem K8{x y:BI}(hx:okI x)(hy:okI y):(x==y)=D' (ab x=ab y):=by
 rw[gT hx,gT hy,SP,dec_enc,dec_enc]
def DM:cE:=spN T' T' [tI,tI] (λx=>D' (okI x.1/\okI x.2.1)) (λx=>[RV.d ask (b9 (ab x.1) (ab x.2.1))])
theorem yk:SpK 108 DM:=spX λx h=>CM x.1 x.2.1 (aoQ h)
def HS:cE:=spN F' T' [tI,tI] (λx=>D' (okI x.1/\okI x.2.1)) (λx=>[RV.d tI (hid (ah (ab x.1*ab x.2.1)))])
theorem G4:SpK 109 HS:=spX λx h=>by simp only[aQ];exact Ef x.1 x.2.1 (aoQ h)
def aat:List En:=[⟨108,DM,yk⟩,⟨109,HS,G4⟩,enL acB]
def abU(x:BI)(_k:KT):OLR:=og (D' (okI x)) (match(wm x)==0 with|T'=>(og (D' (okI (hid (fC x))/\okI (hid (fC x)))) (og (D' (okI (hid (ah (ab (hid (fC x))*ab (hid (fC x)))))/\okI x)) (S' [RV.d tI (hid (fC x)),RV.d .bool ((b9 (ab (hid (ah (ab (hid (fC x))*ab (hid (fC x)))))) (ab x))==0)])))|F'=>S' [RV.d tI (hid (fC x)),RV.d .bool F'])
def ahL:Cn 287 [tI]:=cn λ(x:BI)=>lf (okI x) [.d tI (ah (bO (ab x))),.d .bool (D' (bO (ab x)*bO (ab x)=ab x))] λh=>by
 refine aA aat (abU x) ⟨0,?_⟩
 have hs:=iG h;have hz:szI (bO (ab x))<=500000:=Jn hs;have o1:okI (ah (bO (ab x))):=aT (by omega);have o2:okI (ah (bO (ab x)*bO (ab x))):=aT (by have:=cK hz hz;omega);have o3:okI (ah (bO (ab x)*bO (ab x)))/\okI x:=⟨o2,h⟩
 have o4:okI (ah (bO (ab x)))/\okI (ah (bO (ab x))):=⟨o1,o1⟩
 have hng:x.1=T'->D' (bO (ab x)*bO (ab x)=ab x)=false:=λe=>aoR (by
  have:=(co h).2.1 e;have hd:ab x= -val x.2:=by rw[bQ,e];rfl
  rw[pZ (by omega)];omega)
 unfold abU;simp only[aQ,CW h,dec_enc,dT h,dT o4,dT o3,mO];unfold wm;cases e:x.1
 ·rfl
 ·rw[hng e];rfl
def aks:List En:=enL ahL::aat
def aaB(a:BR)(_k:KT):OLR:=og (D' (okI a.1)) (match D' (bO (ab a.1)*bO (ab a.1)=ab a.1)with|T'=>(og (D' (okI a.2)) (match D' (bO (ab a.2)*bO (ab a.2)=ab a.2)with|T'=>S' [RV.d tR (hid (ah (bO (ab a.1))),hid (ah (bO (ab a.2)))),RV.d .bool T']|F'=>S' [RV.d tR ((F',[]),(F',[])),RV.d .bool F']))|F'=>S' [RV.d tR ((F',[]),(F',[])),RV.d .bool F'])
def ZF:Cn 216 [tR]:=cn λ(a:BR)=>lf (okR a) [.d tR (rtB (ag a)),.d .bool (eA (ag a))] λh=>by
 refine aA aks (aaB a) ⟨0,?_⟩;obtain⟨a1,a2⟩:=cM h;unfold aaB rtB eA;rw[dT h.1,dT h.2.1,a1,a2];simp only[aQ];cases e1:D' (bO (ab a.1)*bO (ab a.1)=ab a.1)
 ·rfl
 ·cases e2:D' (bO (ab a.2)*bO (ab a.2)=ab a.2)
  ·rfl
  ·obtain⟨r1,r2,_⟩:=H9 (q:=ag a) (by unfold eA;rw[a1,a2,e1,e2];rfl);simp only[apV,cond_true];unfold av;rw[r1,r2,a1,a2];try rfl
def UN:List En:=[enL Pz,enL adx,enT Qi]
def Pg(x:BI)(_k:KT):OLR:=og (D' (okI x)) (match(wm x)==0 with|T'=>(og (D' (okI (hid (fC x))/\okI (hid (fC x)))) (og (D' (okI (hid (ah (ab (hid (fC x))*ab (hid (fC x)))))/\okI x)) (S' [RV.d tI (hid (fC x)),RV.d .bool (D' (ab (hid (ah (ab (hid (fC x))*ab (hid (fC x)))))=ab x))])))|F'=>S' [RV.d tI (hid (fC x)),RV.d .bool F'])
def acW:Cn 166 [tI]:=cn λ(x:BI)=>lf (okI x) [.d tI (ah (bO (ab x))),.d .bool (D' (bO (ab x)*bO (ab x)=ab x))] λh=>by
 refine aA UN (Pg x) ⟨0,?_⟩;have hs:=iG h;have hz:szI (bO (ab x))<=500000:=Jn hs;have o1:okI (ah (bO (ab x))):=aT (by omega);have o2:okI (ah (bO (ab x)*bO (ab x))):=aT (by have:=cK hz hz;omega);have o3:okI (ah (bO (ab x)*bO (ab x)))/\okI x:=⟨o2,h⟩
 have o4:okI (ah (bO (ab x)))/\okI (ah (bO (ab x))):=⟨o1,o1⟩
 have hng:x.1=T'->D' (bO (ab x)*bO (ab x)=ab x)=false:=λe=>aoR (by
  have:=(co h).2.1 e;have hd:ab x= -val x.2:=by rw[bQ,e];rfl
  rw[pZ (by omega)];omega)
 unfold Pg;simp only[aQ,CW h,dec_enc,dT h,dT o4,dT o3];unfold wm;cases e:x.1
 ·rfl
 ·rw[hng e];rfl
def agb:List En:=enL acW::UN
def OJ(a:BR)(_k:KT):OLR:=og (D' (okI a.1)) (og (D' (okI a.2)) (match !(D' (bO (ab a.1)*bO (ab a.1)=ab a.1))with|T'=>S' [RV.d tR ((F',[]),(F',[])),RV.d .bool F']|F'=>(match !(D' (bO (ab a.2)*bO (ab a.2)=ab a.2))with|T'=>S' [RV.d tR ((F',[]),(F',[])),RV.d .bool F']|F'=>S' [RV.d tR (hid (ah (bO (ab a.1))),hid (ah (bO (ab a.2)))),RV.d .bool T'])))
def Hz:Cn 84 [tR]:=cn λ(a:BR)=>lf (okR a) [.d tR (rtB (ag a)),.d .bool (eA (ag a))] λh=>by
 refine aA agb (OJ a) ⟨0,?_⟩;obtain⟨a1,a2⟩:=cM h;unfold OJ rtB eA;rw[dT h.1,dT h.2.1,a1,a2];simp only[aQ];cases e1:D' (bO (ab a.1)*bO (ab a.1)=ab a.1)
 ·rfl
 ·cases e2:D' (bO (ab a.2)*bO (ab a.2)=ab a.2)
  ·rfl
  ·obtain⟨r1,r2,_⟩:=H9 (q:=ag a) (by unfold eA;rw[a1,a2,e1,e2];rfl);simp only[apV,cond_true];unfold av;rw[r1,r2,a1,a2];try rfl
def UW:cE:=spN F' T' [tI,tI] (λx=>D' (fa x.1 x.2.1)) (λx=>[RV.d tI (hid (ah (ab x.1/ab x.2.1))),RV.d tI (hid (ah (ab x.1%ab x.2.1))),RV.d ask 0])
theorem PV:SpK 321 UW:=spX λx h=>by simp only[aQ];exact Kf x.1 x.2.1 (aoQ h)
def aiw:List En:=[⟨321,UW,PV⟩]
def ZY(a:BR)(_k:KT):OLR:=og (D' (fa a.1 a.2)) (S' [RV.d tI (hid (ah (ab a.1/ab a.2)))])
def BG:Cn 309 [tR]:=cn λ(a:BR)=>lf (okR a) [.d tI (ah (ag a).floor)] λh=>by
 refine aA aiw (ZY a) ⟨0,?_⟩;obtain⟨a1,a2⟩:=cM h;unfold ZY;rw[dT (show fa a.1 a.2 from⟨h.1,h.2.1,h.2.2.1⟩),Rat.floor_def,a1,a2];simp only[aQ]
def aaw:List En:=[enK zF]
def X0:NT:=[((278,6),{keep:=[1,3],hl:=1})]
def El:Ctx:=CX (ens aaw) X0
def wV(x:BI)(s3:Int):Cfg:=⟨278,[.blk 0,.seq 23],[(1,.box 0 0),(3,SI s3)],[.box 36 [SB x.1,.d asj x.2]],0,[]⟩
def afh(x:BI)(k:KT):OLR:=k 6 (wV x 0)
theorem afb(x:BI):RS El 278 [.d tI x] (afh x):=rsX
def vj(x:BI)(s3:Int)(k:KT):OLR:=match D' (s3<(x.2.length:Int))with|T'=>(match aH x.2 s3 with|S' x1=>(match D' (x1>=1000000000)with|T'=>S' [RV.d .bool F']|F'=>k 6 (wV x (i64.wrap (s3+1))))|N'=>N')|F'=>(og (D' (aR x.2)) (match((ae (val x.2).toNat).length:Int)==(x.2.length:Int)with|T'=>(match !x.1 with|T'=>S' [RV.d .bool T']|F'=>S' [RV.d .bool (D' ((x.2.length:Int)>0))])|F'=>S' [RV.d .bool F']))
theorem A8(x:BI)(s3:Int):RN El 6 (wV x s3) (vj x s3):=rnX
theorem Md(x:BI)(h:okI x):∀(j i:Nat),i+j=x.2.length->El.Runs 6 (wV x (i:Int)) [.d .bool T']:=by
 obtain⟨x0,x1,x2⟩:=co h;have hlim:=fv h;have hl:=h.2.2;intro j;induction j with
 |zero=>
  intro i hi;refine A8 _ _ ⟨0,?_⟩;unfold vj;have hc:ae (val x.2).toNat=x.2:=(p7 h.1).symm;rw[bg (by omega),dT hlim,hc,aqM];dsimp only;cases e:x.1
  ·rfl
  ·have:=x1 e;have:x.2≠[]:=λe=>by rw[x2]at e;omega
   have:=apA.2 this;rw[aoP (by omega)];rfl
 |succ j ih=>
  intro i hi;have hil:i<x.2.length:=by omega
  obtain⟨q,hq⟩:=ih (i+1) (by omega);refine A8 _ _ ⟨q,?_⟩;unfold vj;have hb:=(hlim.1 x.2[i] (aoY hil)).2;rw[aO hil,ak,aoO hil,aS (by omega)];dsimp only;rw[aoR (by omega)];exact hq
def aeH:Cn 278 [tI]:=cn λ(x:BI)=>lf (okI x) [.d .bool T'] λh=>by
 refine aX aaw (show El.Res _ _ _ from ?_);obtain⟨q,hq⟩:=Md x h x.2.length 0 (by omega);exact afb _ ⟨q,hq⟩
def amv:List En:=[enT Qi,enT aeH,enT OB,enL UT,enL NR]
def Sf(a:BR)(_k:KT):OLR:=og (D' (okI a.1)) (og (D' (okI a.2)) (og (D' (okI a.2)) (match(b9 (ab a.2) 0) !=1 with|T'=>S' [RV.d .bool F']|F'=>(og (D' (okI a.1/\okI a.2)) (og (D' (okI (hid (ah ((Int.gcd (ab a.1) (ab a.2):Nat):Int)))/\okI (hid (ah 1)))) (S' [RV.d .bool (D' (ab (hid (ah ((Int.gcd (ab a.1) (ab a.2):Nat):Int)))=ab (hid (ah 1))))]))))))
def QF:Cn 203 [tR]:=cn λ(a:BR)=>lf (okR a) [.d .bool T'] λh=>by
 refine aA amv (Sf a) ⟨0,?_⟩;obtain⟨h1,h2,h3,h4,_⟩:=h;have o1:okI (ah ((Int.gcd (ab a.1) (ab a.2):Nat):Int)):=by rw[h4];exact lO
 unfold Sf;simp only[aQ];rw[dT h1,dT h2,dT (show okI a.1/\okI a.2 from⟨h1,h2⟩),cH h3,dT (show okI (ah ((Int.gcd (ab a.1) (ab a.2):Nat):Int))/\okI (ah 1) from⟨o1,lO⟩),dec_enc,dec_enc,h4];rfl
def mkR(a b c:Rat):Rt:=bif eA c then(a+b*rtQ c,0,0)else bif D' (b=0)then(a,0,0)else(a,b,c)
def coR(a b c:Rat):Rt:=bif D' (b=0)then(a,0,0)else(a,b,c)
class Nn (c:Rat):Prop where le:0<=c
def Wx(x:Rt):Prop:=(x.2.1=0/\x.2.2=0)\/(x.2.1≠0/\0<x.2.2/\eA x.2.2=F')
instance (x:Rt):Decidable (Wx x):=by unfold Wx;infer_instance
class Rdd (x:Rt):Prop where
 rd:Wx x
def okT(k:Nat)(x:BO3):Prop:=ok Rt k x/\Wx (dec x)
instance (k:Nat) (x:BO3):Decidable (okT k x):=by unfold okT;infer_instance
theorem gn{k:Nat}{x:BO3}(h:okT k x):∃v:Rt,x=enc v/\Bd v k/\Rdd v:=by
 obtain⟨h1,h2⟩:=h;obtain⟨v,rfl,bv⟩:=aJ h1;rw[ao]at h2;exact⟨v,rfl,bv,⟨h2⟩⟩
theorem aI{x:Rt}{j k:Nat}[h:Bd x j][r:Rdd x](hj:j<=k)(hk:k<=480000):D' (okT k (enc x))=true:=aoP ⟨aoQ (okd hj hk),by rw[ao];exact r.rd⟩
theorem Rdd.nn{x:Rt}(h:Rdd x):0<=x.2.2:=by
 rcases h.rd with h|h<;>grind
instance aow {x:Rt} [h:Rdd x]:Nn x.2.2:=⟨h.nn⟩
theorem zA:eA 0=true:=by decide+kernel
theorem Jx{c:Rat}(h:0<=c)(hc:eA c=F'):0<c:=by
 rcases(by grind:c=0\/0<c)with h|h
 ·rw[h,zA]at hc;cases hc
 ·exact h
instance FV {a b c:Rat} [h:Nn c]:Rdd (mkR a b c):=by
 refine⟨?_⟩;unfold mkR;cases hc:eA c
 ·simp only[cond_false];by_cases hb:b=0
  ·rw[aoP hb];exact .inl ⟨rfl,rfl⟩
  ·rw[aoR hb];exact .inr ⟨hb,Jx h.le hc,hc⟩
 ·exact .inl ⟨rfl,rfl⟩
instance anH {a:Rat}:Rdd (a,0,0):=⟨.inl ⟨rfl,rfl⟩⟩
namespace RE
theorem PK{c:Rat}(h:eA c=T'):rq c=of (rtQ c):=by
 obtain⟨_,_,e,h0⟩:=H9 h;refine acx _ _ (Qm c) (oA.2 h0) ?_;rw[qV (by rw[<-e];exact apH h0 h0),<-bR,e]
theorem eg(a c:Rat):v2 a 0 c=of a:=by
 unfold v2;rw[sN,zero_mul,add_zero]
theorem vR_mk(a b c:Rat):vR (mkR a b c)=v2 a b c:=by
 unfold mkR vR;cases hc:eA c
 ·simp only[cond_false];by_cases hb:b=0
  ·rw[aoP hb];subst hb;show v2 a 0 0=_;rw[eg,eg]
  ·rw[aoR hb];rfl
 ·show v2 (a+b*rtQ c) 0 0=_;rw[eg];unfold v2;rw[PK hc,of_add,bR]
theorem vR_co(a b c:Rat):vR (coR a b c)=v2 a b c:=by
 unfold coR vR;by_cases hb:b=0
 ·rw[aoP hb];subst hb;show v2 a 0 0=_;rw[eg,eg]
 ·rw[aoR hb];rfl
end RE
theorem Wd{z:Int}(h:0<=z):bO z<=z:=by
 obtain⟨g0,g1,g2⟩:=fS h;rcases apl (bO z) 1 with h'|h'
 ·omega
 ·have:bO z*1<=bO z*bO z:=aoW h' g0;omega
theorem Fk(z:Int):szI (bO z)<=szI z:=by
 have h0:=Dj z;rcases apl z 0 with h|h
 ·rw[pZ h];exact dB (by omega)
 ·have:=Wd h;exact dB (by omega)
instance aoz {c:Rat} {k:Nat} [h:Bd c k]:Bd (rtQ c) k:=by
 have hd:=c.den_pos
 have h1:0<bO (c.den:Int):=by
  obtain⟨g0,g1,g2⟩:=fS (show(0:Int)<=(c.den:Int) by omega);rcases apl 0 (bO (c.den:Int))with h|h
  ·exact h
  ·rw[show bO (c.den:Int)=0 by omega]at g2;omega
 refine⟨vV (by omega) (ao1 (Fk _) h.le.1) ?_⟩;rw[arO (by omega)];exact ao1 (Fk _) h.le.2
instance anS {a b c:Rat} {i j k:Nat} [ha:Bd a i] [hb:Bd b j] [hc:Bd c k]:Bd (mkR a b c) (i+(j+k)+1):=by
 have z:bdR (i+(j+k)+1) 0:=cd tm.le (by omega);refine⟨?_⟩;unfold mkR;cases eA c
 ·simp only[cond_false];cases D' (b=0)
  ·exact⟨cd ha.le (by omega),cd hb.le (by omega),cd hc.le (by omega)⟩
  ·exact⟨cd ha.le (by omega),z,z⟩
 ·exact⟨(inferInstance:Bd (a+b*rtQ c) (i+(j+k)+1)).le,z,z⟩
instance anV {a b c:Rat} {i j k:Nat} [ha:Bd a i] [hb:Bd b j] [hc:Bd c k]:Bd (coR a b c) (mx i (mx j k)):=by
 have h1:=MI i (mx j k);have h2:=Mv i (mx j k);have h3:=MI j k;have h4:=Mv j k;have h5:=sw ha.le;have z:bdR (mx i (mx j k)) 0:=cd tm.le (by omega);refine⟨?_⟩;unfold coR;cases D' (b=0)
 ·exact⟨cd ha.le (by omega),cd hb.le (by omega),cd hc.le (by omega)⟩
 ·exact⟨cd ha.le (by omega),z,z⟩
class Ns (c:Rat):Prop where ns:c=0\/(0<c/\eA c=F')
theorem Ns.nn{c:Rat}(h:Ns c):0<=c:=by rcases h.ns with h|h<;>grind
instance aoy {c:Rat} [h:Ns c]:Nn c:=⟨h.nn⟩
def sgR(x:Rt):Int:=gb x.1 x.2.1 x.2.2
def noR(x:Rt):Rat:=x.1*x.1-x.2.1*x.2.1*x.2.2
theorem QN{x:Rt}(h:0<=x.2.2):sgR x=RE.sg (RE.vR x):=RE.sgn2_re h
def iJ(a b c:Rat):Rt:=bif D' (b=0)then(a,0,0)else bif D' (c=0)then(a,0,0)else(a,b,c)
instance aop {x:Rt} {k:Nat} [h:Bd x k]:Bd (noR x) (5*k+1):=(inferInstance:Bd (x.1*x.1-x.2.1*x.2.1*x.2.2) (k+k+(k+k+k)+1)).mono (by omega)
theorem P3{c:Rat}(h:eA c=T'):rtB c=av (rtQ c):=by unfold rtB;rw[h];rfl
theorem ahm{x:Rt}(h:Rdd x)(hb:x.2.1≠0):noR x≠0:=by
 intro e;rcases h.rd with h|⟨_,h1,h2⟩
 ·exact hb h.1
 ·unfold noR at e;have:x.2.2=x.1/x.2.1*(x.1/x.2.1):=by grind
  rw[this,JF]at h2;cases h2
theorem ab4{x:Rt}(h:Rdd x):sgR x=bif aD x.2.1 0==0 then aD x.1 0 else bif aD x.1 0==aD x.2.1 0 then aD x.1 0 else bif aD x.1 0==0 then aD x.2.1 0 else aD x.1 0*aD (noR x) 0:=by
 unfold sgR gb RE.addS;rcases h.rd with⟨h1,h2⟩|⟨h0,h1,h2⟩
 ·rw[h1,eo];simp
 ·have hb:(aD x.2.1 0==0)=false:=by rw[am,aoR h0]
  rw[dM h1,arx,hb];unfold noR;rw[xD];rfl
def iM:cE:=spN F' T' [ask] (λx=>D' (bI x.1)) (λx=>[RV.d tR (hid (av (x.1:Rat)))])
theorem fd:SpK 194 iM:=spX λx h=>by simp only[aQ];exact LC x.1 (aoQ h)
def kM:cE:=spN F' T' [tR,tR] (λx=>D' (okR x.1/\okR x.2.1)) (λx=>[RV.d tR (hAd x.1 x.2.1)])
theorem fY:SpK 122 kM:=spX λx h=>by simp only[aQ];exact Cx x.1 x.2.1 (aoQ h)
def lZ:cE:=spN F' T' [tR,tR] (λx=>D' (okR x.1/\okR x.2.1)) (λx=>[RV.d tR (hSu x.1 x.2.1)])
theorem ik:SpK 165 lZ:=spX λx h=>by simp only[aQ];exact K7 x.1 x.2.1 (aoQ h)
def iQ:cE:=spN F' T' [tR,tR] (λx=>D' (okR x.1/\okR x.2.1)) (λx=>[RV.d tR (hMu x.1 x.2.1)])
theorem fi:SpK 123 iQ:=spX λx h=>by simp only[aQ];exact Jt x.1 x.2.1 (aoQ h)
def fo:cE:=spN T' T' [tR] (λx=>D' (okR x.1)) (λx=>[RV.d ask (aD (ag x.1) 0)])
theorem dG:SpK 94 fo:=spX λx h=>D0 x.1 (aoQ h)
def Nk:List En:=[⟨194,iM,fd⟩,⟨122,kM,fY⟩,⟨165,lZ,ik⟩,⟨123,iQ,fi⟩,⟨94,fo,dG⟩,enL ZF]
def aaS(_k:KT):OLR:=og (D' (bI (0:Int))) (S' [RV.d tR (hid (av ((0:Int):Rat)))])
def ajY:Cn 254 []:=cn<|lf True [.d tR (av 0)] λ_=>by
 refine aA Nk (aaS) ⟨0,?_⟩;unfold aaS;rw[dT (show bI 0 by decide)];simp only[aQ];rfl
def Tt:List En:=enL ajY::Nk
def aak(a:BR)(_k:KT):OLR:=S' [RV.d tO (a,(hid (av 0),hid (av 0)))]
def sK:Cn 179 [tR]:=cn λ(a:BR)=>lf (okR a) [.d tO (enc ((ag a,0,0):Rt))] λh=>by
 refine aA Tt (aak a) ⟨0,?_⟩;have ha:=h;obtain⟨a,rfl,ba⟩:=eN ha;unfold aak;simp only[aV,aC];try rfl
def acC(a b c:BR)(_k:KT):OLR:=og (o1 b) (match(aD (ag b) 0)==0 with|T'=>S' [RV.d tO (a,(b,hid (av 0)))]|F'=>S' [RV.d tO (a,(b,c))])
def Ll:Cn 319 [tR,tR,tR]:=cn λ(a b c:BR)=>lf (okR a/\okR b/\okR c) [.d tO (enc (coR (ag a) (ag b) (ag c)))] λh=>by
 refine aA Tt (acC a b c) ⟨0,?_⟩;obtain⟨ha,hb,hc⟩:=h;obtain⟨a,rfl,ba⟩:=eN ha;obtain⟨b,rfl,bb⟩:=eN hb;obtain⟨c,rfl,bc⟩:=eN hc;unfold acC;simp only[aV,Nat.reduceLeDiff,am];unfold coR;by_cases e:b=0
 ·subst e;rw[aoP rfl];rfl
 ·rw[aoR e];rfl
def akI:List En:=enL sK::enL Ll::Tt
def Zg(a b c:BR)(_k:KT):OLR:=og (o1 c) (match D' ((aD (ag c) 0)<0)with|T'=>S' [RV.d tO (((F',[]),(F',[])),(((F',[]),(F',[])),((F',[]),(F',[])))),RV.d ask 7]|F'=>(og (o1 c) (match eA (ag c)with|T'=>(og (o2 b (hid (rtB (ag c)))) (og (o2 a (hMu b (hid (rtB (ag c))))) (og (o1 (hAd a (hMu b (hid (rtB (ag c)))))) (S' [RV.d tO (hid (enc ((ag (hAd a (hMu b (hid (rtB (ag c))))),0,0):Rt))),RV.d ask 0]))))|F'=>(og (D' (okR a/\okR b/\okR c)) (S' [RV.d tO (hid (enc (coR (ag a) (ag b) (ag c)))),RV.d ask 0])))))
def ail:Cn 271 [tR,tR,tR]:=cn λ(a b c:BR)=>lf (ok Rat 100000 a/\ok Rat 100000 b/\ok Rat 100000 c/\0<=ag c) [.d tO (enc (mkR (ag a) (ag b) (ag c))),.d ask 0] λh=>by
 refine aA akI (Zg a b c) ⟨0,?_⟩;obtain⟨ha,hb,hc,hc_3⟩:=h;obtain⟨a,rfl,ba⟩:=aJ ha;obtain⟨b,rfl,bb⟩:=aJ hb;obtain⟨c,rfl,bc⟩:=aJ hc;rw[lN,eP]at hc_3;unfold Zg;simp only[aV,aC,Nat.reduceLeDiff,aq,aoR (show ¬c<0 by grind)];unfold mkR;cases hq:eA c
 ·have hz:c≠0:=λe=>by rw[e,zA]at hq;cases hq
  simp only[aV];try rfl
 ·rw[P3 hq];simp only[aV,aC,Nat.reduceAdd,Nat.reduceLeDiff];try rfl
def U3:List En:=[enL lg,enL ru,enL xY,enL n7,enT nV,enL Hz,enT QF]
def U0(_k:KT):OLR:=og (D' (bI (0:Int))) (S' [RV.d tR (hid (av ((0:Int):Rat)))])
def Po:Cn 167 []:=cn<|lf True [.d tR (av 0)] λ_=>by
 refine aA U3 (U0) ⟨0,?_⟩;unfold U0;rw[dT (show bI 0 by decide)];simp only[aQ];rfl
def PL:List En:=enL Po::U3
def OY(a:BR)(_k:KT):OLR:=S' [RV.d tO (a,(hid (av 0),hid (av 0)))]
def Hp:Cn 85 [tR]:=cn λ(a:BR)=>lf (okR a) [.d tO (enc ((ag a,0,0):Rt))] λh=>by
 refine aA PL (OY a) ⟨0,?_⟩;have ha:=h;obtain⟨a,rfl,ba⟩:=eN ha;unfold OY;simp only[aV,aC];try rfl
def Uu:List En:=enL Hp::PL
def T5(a b c:BR)(_k:KT):OLR:=og (o1 b) (match(aD (ag b) 0)==0 with|T'=>(og (o1 a) (S' [RV.d tO (hid (enc ((ag a,0,0):Rt)))]))|F'=>(og (o1 c) (match(aD (ag c) 0)==0 with|T'=>(og (o1 a) (S' [RV.d tO (hid (enc ((ag a,0,0):Rt)))]))|F'=>S' [RV.d tO (a,(b,c))])))
def I0:Cn 86 [tR,tR,tR]:=cn λ(a b c:BR)=>lf (okR a/\okR b/\okR c) [.d tO (enc (iJ (ag a) (ag b) (ag c)))] λh=>by
 refine aA Uu (T5 a b c) ⟨0,?_⟩;obtain⟨ha,hb,hc⟩:=h;obtain⟨a,rfl,ba⟩:=eN ha;obtain⟨b,rfl,bb⟩:=eN hb;obtain⟨c,rfl,bc⟩:=eN hc;unfold T5;simp only[aV,aC,Nat.reduceLeDiff,am];unfold iJ;by_cases e:b=0
 ·rw[aoP e];rfl
 ·rw[aoR e];by_cases e:c=0
  ·rw[aoP e];rfl
  ·rw[aoR e];rfl
def adl:List En:=enL I0::Uu
def PZ(a b c:BR)(_k:KT):OLR:=og (o1 c) (match D' ((aD (ag c) 0)<0)with|T'=>S' [RV.d tO (((F',[]),(F',[])),(((F',[]),(F',[])),((F',[]),(F',[])))),RV.d ask 7]|F'=>(og (o1 c) (match eA (ag c)with|T'=>(og (o2 b (hid (rtB (ag c)))) (og (o2 a (hMu b (hid (rtB (ag c))))) (og (o1 (hAd a (hMu b (hid (rtB (ag c)))))) (S' [RV.d tO (hid (enc ((ag (hAd a (hMu b (hid (rtB (ag c))))),0,0):Rt))),RV.d ask 0]))))|F'=>(og (D' (okR a/\okR b/\okR c)) (S' [RV.d tO (hid (enc (iJ (ag a) (ag b) (ag c)))),RV.d ask 0])))))
def S8:Cn 35 [tR,tR,tR]:=cn λ(a b c:BR)=>lf (ok Rat 100000 a/\ok Rat 100000 b/\ok Rat 100000 c/\0<=ag c) [.d tO (enc (mkR (ag a) (ag b) (ag c))),.d ask 0] λh=>by
 refine aA adl (PZ a b c) ⟨0,?_⟩;obtain⟨ha,hb,hc,hc_3⟩:=h;obtain⟨a,rfl,ba⟩:=aJ ha;obtain⟨b,rfl,bb⟩:=aJ hb;obtain⟨c,rfl,bc⟩:=aJ hc;rw[lN,eP]at hc_3;unfold PZ;simp only[aV,aC,Nat.reduceLeDiff,aq,aoR (show ¬c<0 by grind)];unfold mkR;cases hq:eA c
 ·have hz:c≠0:=λe=>by rw[e,zA]at hq;cases hq
  simp only[aV,iJ,aoR hz];try rfl
 ·rw[P3 hq];simp only[aV,aC,Nat.reduceAdd,Nat.reduceLeDiff];try rfl
def acD(r:BO3)(_k:KT):OLR:=og (o2 r.1 r.1) (og (o2 r.2.1 r.2.1) (og (o2 (hMu r.2.1 r.2.1) r.2.2) (og (o2 (hMu r.1 r.1) (hMu (hMu r.2.1 r.2.1) r.2.2)) (S' [RV.d tR (hSu (hMu r.1 r.1) (hMu (hMu r.2.1 r.2.1) r.2.2))]))))
def abz:Cn 385 [tO]:=cn λ(r:BO3)=>lf (ok Rt 15000 r) [.d tR (av (noR (dec r)))] λh=>by
 refine aA Nk (acD r) ⟨0,?_⟩;have hr:=h;obtain⟨r,rfl,br⟩:=aJ hr;unfold acD;simp only[aV,Nat.reduceAdd,Nat.reduceLeDiff];try rfl
abbrev Iv:=Int×Int
def prI(i:Iv):Prop:= -2305843009213693952<=i.1/\i.1<=i.2/\i.2<=2305843009213693952
instance (i:Iv):Decidable (prI i):=by unfold prI;infer_instance
def iv0:Iv:=(0,0)
theorem fF:prI iv0:=by decide
def oK(lo hi:Int):Iv×Bool:=bif D' (lo< -2305843009213693952)then(iv0,F')else bif D' (hi>2305843009213693952)then(iv0,F')else((lo,hi),T')
theorem B0{lo hi:Int}(h:lo<=hi):prI (oK lo hi).1:=by
 unfold oK;by_cases h1:lo< -2305843009213693952
 ·rw[aoP h1];exact fF
 ·rw[aoR h1];by_cases h2:hi>2305843009213693952
  ·rw[aoP h2];exact fF
  ·rw[aoR h2];exact⟨by show _<=lo;omega,h,by show hi<=_;omega⟩
theorem Ej{lo hi:Int}(h:(oK lo hi).2=T'):(oK lo hi).1=(lo,hi):=by
 unfold oK at h ⊢;by_cases h1:lo< -2305843009213693952
 ·rw[aoP h1]at h;cases h
 ·rw[aoR h1]at h ⊢;by_cases h2:hi>2305843009213693952
  ·rw[aoP h2]at h;cases h
  ·rw[aoR h2];rfl
def frF(q:Rat):Iv×Bool:=bif D' (bI (q*65536).floor)then bif D' (bI (-(-(q*65536)).floor))then oK (q*65536).floor (-(-(q*65536)).floor)else(iv0,F')else(iv0,F')
def dH(a b:Iv):Iv×Bool:=oK (a.1+b.1) (a.2+b.2)
def nf(a:Iv):Iv:=(-a.2,-a.1)
def scF(x y:Int):(Int×Int)×Bool:=
 bif D' (x.natAbs*y.natAbs>=1208925819614629174706176)then((0,0),F')else bif D' (x.natAbs*y.natAbs/65536>2305843009213693952)then((0,0),F')
 else bif D' (x<0)==D' (y<0)then((((x.natAbs*y.natAbs/65536:Nat):Int),(((x.natAbs*y.natAbs+65535)/65536:Nat):Int)),D' ((x.natAbs*y.natAbs+65535)/65536<=2305843009213693952))
 else((-(((x.natAbs*y.natAbs+65535)/65536:Nat):Int),-((x.natAbs*y.natAbs/65536:Nat):Int)),D' ((x.natAbs*y.natAbs+65535)/65536<=2305843009213693952))
theorem adk{x y:Int}(h:(scF x y).2=T'):(scF x y).1.1*65536<=x*y/\x*y<=(scF x y).1.2*65536/\ -2305843009213693952<=(scF x y).1.1/\(scF x y).1.2<=2305843009213693952:=by
 have ep:(((x.natAbs*y.natAbs:Nat)):Int)=(x.natAbs:Int)*(y.natAbs:Int):=aqd _ _
 have hs:(D' (x<0)==D' (y<0))=T'->x*y=(((x.natAbs*y.natAbs:Nat)):Int):=λe=>by
  rw[ep];by_cases hx:x<0<;>by_cases hy:y<0
  ·rw[show(x.natAbs:Int)= -x by omega,show(y.natAbs:Int)= -y by omega];grind
  ·simp[hx,hy]at e
  ·simp[hx,hy]at e
  ·rw[show(x.natAbs:Int)=x by omega,show(y.natAbs:Int)=y by omega]
 have hd:(D' (x<0)==D' (y<0))=F'->x*y= -(((x.natAbs*y.natAbs:Nat)):Int):=λe=>by
  rw[ep];by_cases hx:x<0<;>by_cases hy:y<0
  ·simp[hx,hy]at e
  ·rw[show(x.natAbs:Int)= -x by omega,show(y.natAbs:Int)=y by omega];grind
  ·rw[show(x.natAbs:Int)=x by omega,show(y.natAbs:Int)= -y by omega];grind
  ·simp[hx,hy]at e
 unfold scF at h ⊢;generalize x.natAbs*y.natAbs=p at*
 by_cases h1:p>=1208925819614629174706176
 ·rw[aoP h1]at h;cases h
 rw[aoR h1]at h ⊢;by_cases h2:p/65536>2305843009213693952
 ·rw[aoP h2]at h;cases h
 rw[aoR h2]at h ⊢;cases e:(D' (x<0)==D' (y<0))<;>rw[e]at h<;>have h3:=aoQ h
 ·rw[hd e];show-(((p+65535)/65536:Nat):Int)*65536<=_/\_<= -((p/65536:Nat):Int)*65536/\_<= -(((p+65535)/65536:Nat):Int)/\ -((p/65536:Nat):Int)<=_;omega
 ·rw[hs e];show((p/65536:Nat):Int)*65536<=_/\_<=(((p+65535)/65536:Nat):Int)*65536/\_<=((p/65536:Nat):Int)/\(((p+65535)/65536:Nat):Int)<=_;omega
def gO(s:Iv×Bool)(x y:Int):Iv×Bool:=bif s.2&&(scF x y).2 then((if(scF x y).1.1<s.1.1 then(scF x y).1.1 else s.1.1,if(scF x y).1.2>s.1.2 then(scF x y).1.2 else s.1.2),T')else(iv0,F')
def cC(a b:Iv):Iv×Bool:=gO (gO (gO (gO ((2305843009213693952,-2305843009213693952),T') a.1 b.1) a.1 b.2) a.2 b.1) a.2 b.2
theorem lR{s:Iv×Bool}{x y:Int}(h:(gO s x y).2=T'):s.2=T'/\(gO s x y).1.1<=s.1.1/\s.1.2<=(gO s x y).1.2/\(gO s x y).1.1*65536<=x*y/\x*y<=(gO s x y).1.2*65536/\((-2305843009213693952<=s.1.1/\s.1.2<=2305843009213693952)-> -2305843009213693952<=(gO s x y).1.1/\(gO s x y).1.2<=2305843009213693952):=by
 unfold gO at h ⊢;cases e:(s.2&&(scF x y).2)<;>rw[e]at h
 ·cases h
 ·obtain⟨e1,e2⟩:=ao9.1 e;obtain⟨g1,g2,g3,g4⟩:=adk e2;refine⟨e1,?_⟩;simp only[cond_true];split<;>split<;>refine⟨by omega,by omega,by omega,by omega,λh=>by omega⟩
theorem tC(a b:Iv):prI (cC a b).1:=by
 cases h:(cC a b).2
 ·unfold cC gO at h ⊢;revert h;cases((_:Iv×Bool).2&&(scF a.2 b.2).2)
  ·intro _;exact fF
  ·intro h;cases h
 ·unfold cC at h ⊢;obtain⟨h3,a3,b3,c3,d3,e3⟩:=lR h;obtain⟨h2,a2,b2,c2,d2,e2⟩:=lR h3;obtain⟨h1,a1,b1,c1,d1,e1⟩:=lR h2;obtain⟨h0,a0,b0,c0,d0,e0⟩:=lR h1;have k:=e3 (e2 (e1 (e0 (by decide))));exact⟨k.1,by omega,k.2⟩
theorem Vo{a b:Iv}(h:(cC a b).2=T'):∀x y,(x=a.1\/x=a.2)->(y=b.1\/y=b.2)->(cC a b).1.1*65536<=x*y/\x*y<=(cC a b).1.2*65536:=by
 unfold cC at h ⊢;obtain⟨h3,a3,b3,c3,d3,e3⟩:=lR h;obtain⟨h2,a2,b2,c2,d2,e2⟩:=lR h3;obtain⟨h1,a1,b1,c1,d1,e1⟩:=lR h2;obtain⟨h0,a0,b0,c0,d0,e0⟩:=lR h1;intro x y hx hy;rcases hx with rfl|rfl<;>rcases hy with rfl|rfl<;>constructor<;>omega
def eh(n:Int):Int:=bO (n*65536)
def sqF(a:Iv):Iv×Bool:=bif D' (a.2<0)then(iv0,F')else oK (eh (if 0>a.1 then 0 else a.1)) (bif D' (eh a.2*eh a.2=a.2*65536)then eh a.2 else eh a.2+1)
def sgF(a:Iv):Int×Bool:=bif D' (a.1>0)then(1,T')else bif D' (a.2<0)then(-1,T')else(0,D' (a.1=0)&&D' (a.2=0))
namespace RE
def inI(i:Iv)(x:RE):Prop:=of (i.1:Rat)<=of 65536*x/\of 65536*x<=of (i.2:Rat)
theorem Yi(a b u x y:RE)(h1:a<=u*x)(h2:b<=u*y):a+b<=u*(x+y):=by grind
theorem WY(a b u x y:RE)(h1:u*x<=a)(h2:u*y<=b):u*(x+y)<=a+b:=by grind
theorem W5(a u x:RE)(h1:u*x<=a): -a<=u*(-x):=by grind
theorem Xq(a u x:RE)(h1:a<=u*x):u*(-x)<= -a:=by grind
theorem VF(a c U V m:RE):((m-(U*V)))+((a*c-(m)))+((V-(0))*(U-(a)))+((a-(0))*(V-(c)))=0:=by grind
theorem ajW(a c U V m:RE)(h1:0<=V)(h2:0<=a)(h3:a<=U)(h4:c<=V)(h5:m<=a*c):m<=U*V:=λhg=>far (aW (aW (aW (bE hg) (aN h5)) (cq (aN h1) (aN h3))) (cq (aN h2) (aN h4))) (VF a c U V m)
theorem WM(a d U V m:RE):((m-(U*V)))+((a*d-(m)))+((V-(0))*(U-(a)))+((0-(a))*(d-(V)))=0:=by grind
theorem amD(a d U V m:RE)(h1:0<=V)(h2:a<=0)(h3:a<=U)(h4:V<=d)(h5:m<=a*d):m<=U*V:=λhg=>far (aW (aW (aW (bE hg) (aN h5)) (cq (aN h1) (aN h3))) (cq (aN h2) (aN h4))) (WM a d U V m)
theorem WT(b c U V m:RE):((m-(U*V)))+((b*c-(m)))+((0-(V))*(b-(U)))+((b-(0))*(V-(c)))=0:=by grind
theorem amn(b c U V m:RE)(h1:V<=0)(h2:0<=b)(h3:U<=b)(h4:c<=V)(h5:m<=b*c):m<=U*V:=λhg=>far (aW (aW (aW (bE hg) (aN h5)) (cq (aN h1) (aN h3))) (cq (aN h2) (aN h4))) (WT b c U V m)
theorem XG(b d U V m:RE):((m-(U*V)))+((b*d-(m)))+((0-(V))*(b-(U)))+((0-(b))*(d-(V)))=0:=by grind
theorem am9(b d U V m:RE)(h1:V<=0)(h2:b<=0)(h3:U<=b)(h4:V<=d)(h5:m<=b*d):m<=U*V:=λhg=>far (aW (aW (aW (bE hg) (aN h5)) (cq (aN h1) (aN h3))) (cq (aN h2) (aN h4))) (XG b d U V m)
theorem V4(b d U V m:RE):((U*V-(m)))+((m-(b*d)))+((V-(0))*(b-(U)))+((b-(0))*(d-(V)))=0:=by grind
theorem amj(b d U V m:RE)(h1:0<=V)(h2:0<=b)(h3:U<=b)(h4:V<=d)(h5:b*d<=m):U*V<=m:=λhg=>far (aW (aW (aW (bE hg) (aN h5)) (cq (aN h1) (aN h3))) (cq (aN h2) (aN h4))) (V4 b d U V m)
theorem Ys(b c U V m:RE):((U*V-(m)))+((m-(b*c)))+((V-(0))*(b-(U)))+((0-(b))*(V-(c)))=0:=by grind
theorem aim(b c U V m:RE)(h1:0<=V)(h2:b<=0)(h3:U<=b)(h4:c<=V)(h5:b*c<=m):U*V<=m:=λhg=>far (aW (aW (aW (bE hg) (aN h5)) (cq (aN h1) (aN h3))) (cq (aN h2) (aN h4))) (Ys b c U V m)
theorem Yd(a d U V m:RE):((U*V-(m)))+((m-(a*d)))+((0-(V))*(U-(a)))+((a-(0))*(d-(V)))=0:=by grind
theorem alG(a d U V m:RE)(h1:V<=0)(h2:0<=a)(h3:a<=U)(h4:V<=d)(h5:a*d<=m):U*V<=m:=λhg=>far (aW (aW (aW (bE hg) (aN h5)) (cq (aN h1) (aN h3))) (cq (aN h2) (aN h4))) (Yd a d U V m)
theorem WR(a c U V m:RE):((U*V-(m)))+((m-(a*c)))+((0-(V))*(U-(a)))+((0-(a))*(V-(c)))=0:=by grind
theorem amf(a c U V m:RE)(h1:V<=0)(h2:a<=0)(h3:a<=U)(h4:c<=V)(h5:a*c<=m):U*V<=m:=λhg=>far (aW (aW (aW (bE hg) (aN h5)) (cq (aN h1) (aN h3))) (cq (aN h2) (aN h4))) (WR a c U V m)
theorem aey(u x y:RE):u*x*(u*y)=u*(x*y)*u:=by grind
theorem Wv(a b u:RE):((u-(0))*(a-(b)))+((b*u-(a*u)))=0:=by grind
theorem abY(a b u:RE)(h1:0<u)(h2:a*u<=b*u):a<=b:=λhg=>far (aW (mul_pos (bE h1) (bE hg)) (aN h2)) (Wv a b u)
theorem oC:0<of 65536:=kE (by decide+kernel)
end RE
end Go.Proofs.YtoimchcjhdcdmaaGreat
end
