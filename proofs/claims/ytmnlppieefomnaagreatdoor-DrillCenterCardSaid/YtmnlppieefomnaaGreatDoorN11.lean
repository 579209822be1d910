/- The reference's integers: parts as a whole, DivMod, GCD. -/
import Derived.Test.YtmnlppieefomnaaGreatDoorN10
import Derived.Test.YtmnlppieefomnaaGreatDoorN8
import Derived.Test.YtmnlppieefomnaaGreatDoorN9
noncomputable section
namespace Go.Proofs.YtmnlppieefomnaaGreatDoor
open Go.RowKit Go.IntKind
theorem amA:type_of% @Bool.and_eq_true_iff:=@Bool.and_eq_true_iff
theorem amT:type_of% @beq_eq_false_iff_ne:=@beq_eq_false_iff_ne
theorem aoB:type_of% @decide_eq_true_eq:=@decide_eq_true_eq
theorem apB:type_of% @Prod.ext:=@Prod.ext
def abY:Cn 61 [apD,apD]:=cn λ(a b:List Int)=>lf (Ej a b) [.d apD (ae (val a/val b).toNat),.d apD (ae (val a%val b).toNat)] λh=>by
 refine a8 SS (show jP.Res _ _ _ from ?_);obtain⟨⟨ha,sa⟩,⟨hb,sb⟩,hne⟩:=h;have a0:=aL ha.1;have b0:0<val b:=eo hb hne;have hlen:=am1.2 hne;have la:=bU ha.1;have lb:=bU hb.1;by_cases hsm:a.length<=2/\b.length<=2
 ·have p2:pw 2=1000000000000000000:=by decide
  have m1:=df hsm.1;have m2:=df hsm.2;have q0:0<=val a/val b:=anh a0 (by omega);have q1:val a/val b<=val a:=aoe _ a0;have r0:=ans (val a) (show val b≠0 by omega);have r1:=am4 (val a) b0;refine Si _ _ ⟨0,?_⟩;unfold Ff;rw[dT (show(a.length:Int)<=2 by omega),dT (show(b.length:Int)<=2 by omega),dT (show qy a from⟨⟨ha.1,by omega⟩,by omega⟩),dT (show qy b from⟨⟨hb.1,by omega⟩,by omega⟩),dF (show ¬val b=0 by omega),gC a0,ju a0,bH (x:=val a/val b) q0 (by omega),dT (show ip (val a/val b) from⟨q0,by omega⟩),dT (show ip (val a%val b) from⟨r0,by omega⟩)]
 ·obtain⟨n,hn⟩:∃n,b.length=n+1:=⟨b.length-1,by omega⟩
  have hbn:n<b.length:=by omega
  have ht:=ur hb hn;have hbl:=hb.1.get hbn;obtain⟨hs0,hs1,hs2⟩:=aeb (x:=b[n]) ht hbl.2;have hVp:0<val b*qsc b[n]:=Int.mul_pos b0 (by omega)
  have hVl:(ae (val b*qsc b[n]).toNat).length<=1000001:=by
   refine cr (by omega) ?_;have h1:val b*qsc b[n]<=val b*999999999:=amo (by omega) (by omega);have h2:=df sb;rw[bW 1000000];omega
  have hUl:(ae (val a*qsc b[n]).toNat).length<=a.length+1:=by
   refine cr (anc a0 (by omega)) ?_;have h1:val a*qsc b[n]<=val a*999999999:=amo (by omega) (by omega);rw[bW];omega
  obtain⟨m,x2,hm,hg,hx1,hx2,hxp⟩:=Gm hVp
  obtain⟨q,hq⟩:=FF a b b[n] x2 (val b*qsc b[n]) rfl ⟨hs1,hs2⟩ hVp hUl ⟨ha.1,sa⟩ hVl m hm ⟨hx1,hx2⟩ hxp (ae (val a*qsc b[n]).toNat).length 0 (List.replicate (a.length+1) 0) (amm _) (by omega) hVp (by simp) (Lim.rep _) (λk hk _=>by simp) (λk hk _=>by simp) (by
   rw[ant,bR (anc a0 (by omega)),gj];omega)
  refine Si _ _ ⟨q,?_⟩;have hw1:i64.wrap ((b.length:Int)-1)=(n:Int):=by rw[aO (by omega) (by omega)];omega
  have hx1w:¬u64.wrap (u64.wrap b[n]+1)=0:=by rw[bH (x:=b[n]) (by omega) (by omega),bH (by omega) (by omega)];omega
  have hbyb:byP b (qsc b[n]):=⟨⟨hb.1,by omega⟩,by omega,hs2⟩
  have hbya:byP a (qsc b[n]):=⟨⟨ha.1,by omega⟩,by omega,hs2⟩
  have hw2:i64.wrap (((m+1:Nat):Int)-1)=(m:Int):=by rw[aO (by omega) (by omega)];omega
  have hsub:(match aH b (i64.wrap ((b.length:Int)-1))with|some x1=>(match decide (u64.wrap ((u64.wrap x1)+1)=(0:Int))with|true=>none|false=>(match decide (byP b (qsc x1))with|true=>(match aH (ae (val b*(qsc x1)).toNat) (i64.wrap (((ae (val b*(qsc x1)).toNat).length:Int)-1))with|some x2=>(match decide ((0:Int)<=i64.wrap ((a.length:Int)+1)/\(i64.wrap ((a.length:Int)+1))*((4:Nat):Int)<=140737488355328/\i64.wrap ((a.length:Int)+1)<=140737488355328)with|true=>(match decide (byP a (qsc x1))with|true=>(match decide ((0:Int)<=0/\0<=((ae (val a*(qsc x1)).toNat).length:Int)/\((ae (val a*(qsc x1)).toNat).length:Int)<=((List.replicate (i64.wrap ((a.length:Int)+1)).toNat (0:Int)).length:Int))with|true=>(jP.k q) 30 (kv a b x1 x2 ([]) (i64.wrap (((ae (val a*(qsc x1)).toNat).length:Int)-1)) (List.replicate (i64.wrap ((a.length:Int)+1)).toNat (0:Int)))|false=>none)|false=>none)|false=>none)|none=>none)|false=>none))|none=>none)=some [.d apD (ae (val a/val b).toNat),.d apD (ae (val a%val b).toNat)]:=by
   rw[hw1,ai,amg hbn];dsimp only;rw[dF hx1w,dT hbyb,hm,hw2,ai,hg];dsimp only;rw[aT (k:=a.length) (by omega),sP (n:=a.length+1) (by omega),dT hbya,aC,aop,dT (show(0:Int)<=0/\(0:Int)<=((ae (val a*qsc b[n]).toNat).length:Int)/\((ae (val a*qsc b[n]).toNat).length:Int)<=((a.length+1:Nat):Int) from⟨by omega,by omega,by omega⟩),aO (x:=((ae (val a*qsc b[n]).toNat).length:Int)-1) (by omega) (by omega)];exact hq
  unfold Ff;by_cases h1:a.length<=2
  ·rw[dT (show(a.length:Int)<=2 by omega),dF (show ¬(b.length:Int)<=2 by omega)];exact hsub
  ·rw[dF (show ¬(a.length:Int)<=2 by omega)];exact hsub
def Gh:List En:=[enK uz,enK CY,enF xB,enF xD,enK WK,enK Gg,enK abY,enK xM,enK aa0,enK Hn,enK Cp]
def Qs(x y:Bool×List Int)(_k:KT):OLR:=let y1:=ae (val x.2/val y.2).toNat;let y2:=ae (val x.2%val y.2).toNat;let y3:=ah (bX (!(x.1==y.1)) (val y1));let y4:=ah (bX x.1 (val y2));let y5:OLR:=match decide ((y2.length:Int)>0)with|true=>(match !(x.1==y.1)with|true=>(og (decide (aR (1:Int))) (og (decide (okI y3/\okI (ah (1:Int)))) (og (decide (okI y4/\okI y)) (dup (.b .l .l) (some [RV.d y3Y (ah (ab y3-ab (ah (1:Int)))),RV.d y3Y (ah (ab y4+ab y)),RV.d apE 0])))))|false=>dup (.b .l .l) (some [RV.d y3Y y3,RV.d y3Y y4,RV.d apE 0]))|false=>dup (.b .l .l) (some [RV.d y3Y y3,RV.d y3Y y4,RV.d apE 0]);let y6:OLR:=match decide (aN y2)with|true=>y5|false=>none;match(y.2.length:Int)==0 with|true=>some [RV.d y3Y (false,[]),RV.d y3Y (false,[]),RV.d apE 6]|false=>(og (decide (Ej x.2 y.2)) (cW (og (decide (aN y1)) (cW (og (decide (aN y2)) (dup (.b .l .l) y5)) (dup (.b (.b .l .l) (.b .l .l)) y6))) (dup (.b .l .l) (cW (og (decide (aN y1)) (dup (.b .l .l) y6)) (og (decide (aN y1)) y6)))))
def UJ:NT:=[((30,6),{keep:=[4,5,6],pure_:=[(5,.int .u32),(6,.int .u32)],hl:=3}),((30,29),{keep:=[4,9,10],hl:=3})]
def uX:Ctx:=CX (ens Gh) UJ
def t8(x y:Bool×List Int)(s5 s6:List Int):Cfg:=⟨30,[.blk 0,.seq 17],[(4,.box 2 0),(5,.d apD s5),(6,.d apD s6)],[.box 26 [SB x.1,.d apD x.2],.box 26 [SB y.1,.d apD y.2],.box 26 [SB false,.nil]],0,[]⟩
def pn(x y:Bool×List Int)(s9 s10:Int):Cfg:=⟨30,[.blk 2,.seq 38],[(4,.box 2 0),(9,.d (.int .u64) s9),(10,.d (.int .u64) s10)],[.box 26 [SB x.1,.d apD x.2],.box 26 [SB y.1,.d apD y.2],.box 26 [SB false,.nil]],0,[]⟩
def abd(x y:Bool×List Int)(k:KT):OLR:=k 6 (t8 x y x.2 y.2)
theorem aen(x y:Bool×List Int):RS uX 30 [.d y3Y x,.d y3Y y] (abd x y):=rsX
def qf(x y:Bool×List Int)(s5 s6:List Int)(k:KT):OLR:=match decide ((s6.length:Int)>0)with|true=>(match decide ((s5.length:Int)>2)with|true=>(og (decide (Ej s5 s6)) (k 6 (t8 x y s6 (ae (val s5%val s6).toNat))))|false=>(match decide ((s6.length:Int)>2)with|true=>(og (decide (Ej s5 s6)) (k 6 (t8 x y s6 (ae (val s5%val s6).toNat))))|false=>(match(s6.length:Int)==0 with|true=>(og (decide (aN s5)) (some [RV.d y3Y (ah (bX false (val s5)))]))|false=>(og (decide (qy s5)) (og (decide (qy s6)) (k 29 (pn x y (val s5) (val s6))))))))|false=>(match(s6.length:Int)==0 with|true=>(og (decide (aN s5)) (some [RV.d y3Y (ah (bX false (val s5)))]))|false=>(og (decide (qy s5)) (og (decide (qy s6)) (k 29 (pn x y (val s5) (val s6))))))
theorem uD(x y:Bool×List Int)(s5 s6:List Int):RL uX 6 (t8 x y s5 s6) (qf x y s5 s6):=rlX
def rY(x y:Bool×List Int)(s9 s10:Int)(k:KT):OLR:=match decide (s10>0)with|true=>(match decide (s10=(0:Int))with|true=>none|false=>k 29 (pn x y s10 (Int.tmod s9 s10)))|false=>(og (decide (ip s9)) (og (decide (aN (ae s9.toNat))) (some [RV.d y3Y (ah (bX false (val (ae s9.toNat))))])))
theorem yn(x y:Bool×List Int)(s9 s10:Int):RL uX 29 (pn x y s9 s10) (rY x y s9 s10):=rlX
def Qt:Cn 145 [y3Y,y3Y]:=cn λ(x y:Bool×List Int)=>lf (eZ x y) [.d y3Y (ah (ab x/ab y)),.d y3Y (ah (ab x%ab y)),.d apE 0] λh=>by
 refine aA Gh (Qs x y) ⟨0,?_⟩;obtain⟨hx,hy,hp⟩:=h;obtain⟨x0,x1,x2⟩:=cp hx;obtain⟨y0,y1,y2⟩:=cp hy;have sx:=hx.2.2;have sy:=hy.2.2
 have ey:y.1=false:=by
  cases e:y.1
  ·rfl
  ·rw[bL,e]at hp;simp only[bX,cond_true]at hp;omega
 have dy:ab y=val y.2:=by rw[bL,ey];rfl
 rw[dy]at hp;have hne:y.2≠[]:=λe=>by rw[y2]at e;omega
 have hprt:Ej x.2 y.2:=⟨⟨hx.1,sx⟩,⟨hy.1,sy⟩,hne⟩
 have hylen:=am1.2 hne;have r0:=ans (val x.2) (show val y.2≠0 by omega);have r1:=am4 (val x.2) hp;have q0:0<=val x.2/val y.2:=anh x0 y0;have q1:val x.2/val y.2<=val x.2:=aoe _ x0;have vx:=bU hx.1.1;have vy:=bU hy.1.1;have mx:=df sx;have my:=df sy;have szq:szI (val x.2/val y.2)<=1000000:=eP (by have:=cg 1000000;omega) (by omega);have szr:szI (val x.2%val y.2)<=1000000:=eP (by have:=cg 1000000;omega) (by omega);have lq:(ae (val x.2/val y.2).toNat).length<=1000000:=cr q0 (by omega);have lr:(ae (val x.2%val y.2).toNat).length<=1000000:=cr r0 (by omega);unfold Qs;simp only[da]
 rw[show((y.2.length:Int)==0)=false by simp;omega,dT hprt,dT (cC (n:=(val x.2/val y.2).toNat) (by omega)),dT (cC (n:=(val x.2%val y.2).toNat) (by omega)),dT (show aR 1 by decide),bR q0,bR r0,
  dT (show okI (ah (bX (!(x.1==y.1)) (val x.2/val y.2)))/\okI (ah (1:Int)) from⟨aS (by rw[A0];exact szq),iR⟩),dT (show okI (ah (bX x.1 (val x.2%val y.2)))/\okI y from⟨aS (by rw[A0];exact szr),hy⟩)]
 simp only[dec_enc,dy,cO];rw[bL x,ey]
 have hlen:(((ae (val x.2%val y.2).toNat).length:Int)>0)↔0<val x.2%val y.2:=by
  constructor
  ·intro hl;rcases amM 0 (val x.2%val y.2)with h|h
   ·exact h
   ·rw[show(val x.2%val y.2).toNat=0 by omega,fw]at hl;simp at hl
  ·intro hl;have:ae (val x.2%val y.2).toNat≠[]:=λe=>by rw[gG]at e;omega
   have:=am1.2 this;omega
 obtain⟨n1,n2⟩:=I9 (a:=val x.2) (b:=val y.2) x0 hp;rcases amM 0 (val x.2%val y.2)with hr|hr
 ·rw[dT (hlen.2 hr)];cases x.1
  ·rfl
  ·obtain⟨e1,e2⟩:=n2 hr;simp only[bX,cond_true,Bool.not_false,show((true==false):Bool)=false from rfl];rw[e1,e2]
 ·rw[dF (λh'=>by have:=hlen.1 h';omega)];dsimp only;have e0:val x.2%val y.2=0:=by omega
  cases x.1
  ·simp only[bX,cond_false,show((false==false):Bool)=true from rfl,Bool.not_true]
  ·obtain⟨e1,e2⟩:=n1 e0;simp only[bX,cond_true,Bool.not_false,show((true==false):Bool)=false from rfl];rw[e1,e2,e0];rfl
theorem Kd(x y:BI)(B:Nat)(hB:(B:Int)<18446744073709551616):∀(v u:Nat),u<=B->v<=B->uX.RunsE 29 (pn x y (u:Int) (v:Int)) [.d y3Y (ah ((Nat.gcd u v:Nat):Int))]:=by
 intro v;induction v using Nat.strongRecOn with
 |ind v ih=>
  intro u hu hv;rcases am8 v with h0|h0
  ·refine yn _ _ _ _ ⟨0,λn _=>?_⟩;have hp:ip (u:Int):=⟨by omega,by omega⟩
   have hl:(ae u).length<=3:=dh (aoO (show(u:Int)<18446744073709551616 by omega) (by decide));unfold rY;rw[dF (show ¬(v:Int)>0 by omega),dT hp,aoy,dT (cC (n:=u) (by omega)),bG,show Nat.gcd u v=u by rw[h0];exact Nat.gcd_zero_right u];rfl
  ·obtain⟨n0,hn⟩:=ih (u%v) (ao4 _ h0) v hv (amt (Nat.le_of_lt (ao4 _ h0)) hv);refine yn _ _ _ _ ⟨n0,λn hn'=>?_⟩;unfold rY;rw[dT (show(v:Int)>0 by omega),dF (show ¬(v:Int)=0 by omega),ju (by omega)];dsimp only;rw[show((u:Int)%(v:Int))=((u%v:Nat):Int) by simp,aoq u v,Nat.gcd_rec v u,aoq];exact hn n hn'
theorem HJ{u:Nat}(h:(ae u).length<=2):(u:Int)<1000000000000000000:=by
 have h1:=bU (bS u);rw[bG]at h1;have h2:=df h;grind [pw]
theorem Kp(x y:BI):∀(v u:Nat),(ae u).length<=1000000->(ae v).length<=1000000->
  uX.RunsE 6 (t8 x y (ae u) (ae v)) [.d y3Y (ah ((Nat.gcd u v:Nat):Int))]:=by
 intro v;induction v using Nat.strongRecOn with
 |ind v ih=>
  intro u hu hv;rcases am8 v with h0|h0
  ·refine uD _ _ _ _ ⟨0,λn _=>?_⟩;unfold qf;rw[h0,Nat.gcd_zero_right,dF (show ¬((ae 0).length:Int)>0 by decide),show(((ae 0).length:Int)==0)=true by decide];dsimp only;rw[dT (cC (n:=u) (by omega)),bG];rfl
  ·have hne:ae v≠[]:=λe=>by rw[gG]at e;omega
   have hl:=am1.2 hne;have hm:=ao4 u h0
   have hms:(ae (u%v)).length<=1000000:=dh (by
    have:=bU (bS v);rw[bG]at this;have:=df hv;omega)
   have hz:(((ae v).length:Int)==0)=false:=by simp;omega
   have hprt:Ej (ae u) (ae v):=⟨⟨dK _,hu⟩,⟨dK _,hv⟩,hne⟩
   have hmod:(val (ae u)%val (ae v)).toNat=u%v:=by rw[bG,bG];omega
   by_cases hsm:(ae u).length<=2/\(ae v).length<=2
   ·have lu:=HJ hsm.1;have lv:=HJ hsm.2;obtain⟨n0,hn⟩:=Kd x y 1000000000000000000 (by decide) v u (by omega) (by omega);refine uD _ _ _ _ ⟨n0,λn hn'=>?_⟩;unfold qf;rw[dT (show((ae v).length:Int)>0 by omega),dF (show ¬((ae u).length:Int)>2 by omega),dF (show ¬((ae v).length:Int)>2 by omega),hz,dT (show qy (ae u) from⟨cC (by omega),by rw[bG];omega⟩),dT (show qy (ae v) from⟨cC (by omega),by rw[bG];omega⟩),bG,bG];exact hn n hn'
   ·obtain⟨n0,hn⟩:=ih (u%v) hm v hv hms;refine uD _ _ _ _ ⟨n0,λn hn'=>?_⟩;have:=hn n hn';rw[show Nat.gcd v (u%v)=Nat.gcd u v by rw[aoq u v,Nat.gcd_rec v u,aoq]]at this;unfold qf;rw[dT (show((ae v).length:Int)>0 by omega),dT hprt,hmod];by_cases h2:(ae u).length<=2
    ·rw[dF (show ¬((ae u).length:Int)>2 by omega),dT (show((ae v).length:Int)>2 by omega)];exact this
    ·rw[dT (show((ae u).length:Int)>2 by omega)];exact this
def Hk:Cn 30 [y3Y,y3Y]:=cn λ(x y:Bool×List Int)=>lf (okI x/\okI y) [.d y3Y (ah ((Int.gcd (ab x) (ab y):Nat):Int))] λh=>by
 refine a8 Gh (show uX.Res _ _ _ from ?_);obtain⟨hx,hy⟩:=h;obtain⟨x0,_,_⟩:=cp hx;obtain⟨y0,_,_⟩:=cp hy;have ex:((ab x).natAbs:Int)=val x.2:=by rw[bL];unfold bX;cases x.1<;>simp<;>omega
 have ey:((ab y).natAbs:Int)=val y.2:=by rw[bL];unfold bX;cases y.1<;>simp<;>omega
 have cx:=pK hx.1;have cy:=pK hy.1;rw[show(val x.2).toNat=(ab x).natAbs by omega]at cx;rw[show(val y.2).toNat=(ab y).natAbs by omega]at cy;obtain⟨n1,h1⟩:=Kp x y (ab y).natAbs (ab x).natAbs (by rw[<-cx];exact hx.2.2) (by rw[<-cy];exact hy.2.2);rw[<-cx,<-cy]at h1;exact aen _ _ ⟨n1,h1 n1 (amm _)⟩
section
abbrev tI:Ty:=.st (.pair .bool apD)
abbrev tR:Ty:=.st (.pair tI tI)
abbrev tV:Ty:=.st (.pair tR tR)
abbrev tO:Ty:=.st (.pair tR (.pair tR tR))
abbrev tP:Ty:=.st (.pair tR (.pair tR (.pair tR (.pair tR tR))))
abbrev tQ:Ty:=.st (.pair tR (.pair tR (.pair tR (.pair tR (.pair tR tR)))))
abbrev tG:Ty:=.st (.pair apE apE)
abbrev BV:=BR×BR
abbrev BO3:=BR×BR×BR
abbrev BP:=BR×BR×BR×BR×BR
abbrev BQ:=BR×BR×BR×BR×BR×BR
abbrev hAd(a b:BR):BR:=hid (am (ag a+ag b))
abbrev hSu(a b:BR):BR:=hid (am (ag a-ag b))
abbrev hMu(a b:BR):BR:=hid (am (ag a*ag b))
abbrev hDi(a b:BR):BR:=hid (am (ag a/ag b))
abbrev hNe(a:BR):BR:=hid (am (-ag a))
class Cod (α:Type) (A:outParam Type) where
 enc:α->A
 dec:A->α
 bd:Nat->α->Prop
 ok:Nat->A->Prop
 okD:∀k x,Decidable (ok k x)
 mono:∀j k x,j<=k->bd j x->bd k x
 dec_enc:∀x,dec (enc x)=x
 ok_enc:∀k x,k<=480000->bd k x->ok k (enc x)
 ok_dec:∀k x,ok k x->x=enc (dec x)/\bd k (dec x)
def enc{α A:Type}[Cod α A](x:α):A:=Cod.enc x
def dec{α A:Type}[Cod α A](x:A):α:=Cod.dec x
def ok(α:Type){A:Type}[Cod α A](k:Nat)(x:A):Prop:=Cod.ok (α:=α) k x
instance (α A:Type) [Cod α A] (k:Nat) (x:A):Decidable (ok α k x):=Cod.okD k x
theorem au{α A:Type}[Cod α A](x:α):dec (enc x)=x:=Cod.dec_enc x
class Bd {α A:Type} [Cod α A] (x:α) (k:outParam Nat):Prop where le:Cod.bd k x
theorem aM{α A:Type}[Cod α A]{k:Nat}{x:A}(h:ok α k x):∃v:α,x=enc v/\Bd v k:=⟨_,(Cod.ok_dec k x h).1,⟨(Cod.ok_dec k x h).2⟩⟩
theorem okd{α A:Type}[Cod α A]{x:α}{j k:Nat}[h:Bd x j](hj:j<=k)(hk:k<=480000):decide (ok α k (enc x))=true:=
 amh (Cod.ok_enc k x hk (Cod.mono j k x hj h.le))
instance alI:Cod Rat BR where
 enc:=am
 dec:=ag
 bd:=bdR
 ok k x:=okR x/\x.1.2.length<=k/\x.2.2.length<=k
 okD _ _:=instDecidableAnd
 mono _ _ _ hk h:=b9 h hk
 dec_enc:=eA
 ok_enc k _ hk h:=⟨qb h hk,h.1,h.2⟩
 ok_dec k x h:=by
  obtain⟨h1,h2,h3⟩:=h;refine⟨O5 h1,?_⟩;obtain⟨e1,e2⟩:=cJ h1;unfold bdR szI;rw[e1,e2];rw[gR h1.1]at h2;rw[gR h1.2.1]at h3;exact⟨h2,h3⟩
instance alg:Cod Int Int where
 enc x:=x
 dec x:=x
 bd _ x:=aR x
 ok _ x:=aR x
 okD _ _:=inferInstance
 mono _ _ _ _ h:=h
 dec_enc _:=rfl
 ok_enc _ _ _ h:=h
 ok_dec _ _ h:=⟨rfl,h⟩
instance akY:Cod Bool Bool where
 enc x:=x
 dec x:=x
 bd _ _:=True
 ok _ _:=True
 okD _ _:=inferInstance
 mono _ _ _ _ h:=h
 dec_enc _:=rfl
 ok_enc _ _ _ h:=h
 ok_dec _ _ h:=⟨rfl,h⟩
instance ak1 (α β A B:Type) [Cod α A] [Cod β B]:Cod (α×β) (A×B) where
 enc x:=(enc x.1,enc x.2)
 dec x:=(dec x.1,dec x.2)
 bd k x:=Cod.bd k x.1/\Cod.bd k x.2
 ok k x:=ok α k x.1/\ok β k x.2
 okD _ _:=instDecidableAnd
 mono _ _ _ hk h:=⟨Cod.mono _ _ _ hk h.1,Cod.mono _ _ _ hk h.2⟩
 dec_enc x:=by rw[au,au]
 ok_enc k _ hk h:=⟨Cod.ok_enc _ _ hk h.1,Cod.ok_enc _ _ hk h.2⟩
 ok_dec k x h:=⟨apB (Cod.ok_dec k x.1 h.1).1 (Cod.ok_dec k x.2 h.2).1,(Cod.ok_dec k x.1 h.1).2,(Cod.ok_dec k x.2 h.2).2⟩
theorem nr{α:Type}{a b:α}(h:a=b):a=b:=h
theorem sB{α β A B:Type}[Cod α A][Cod β B](x:α×β):(enc x).1=enc x.1:=nr rfl
theorem C5{α β A B:Type}[Cod α A][Cod β B](x:α×β):(enc x).2=enc x.2:=nr rfl
theorem aG{α β A B:Type}[Cod α A][Cod β B](x:α)(y:β):enc (x,y)=(enc x,enc y):=nr rfl
theorem lO(q:Rat):enc q=am q:=nr rfl
theorem I2(x:BR):dec x=ag x:=nr rfl
theorem J5(q:Int):enc q=q:=nr rfl
theorem DF(q:Bool):enc q=q:=nr rfl
theorem qA{q:Rat}{j:Nat}[h:Bd q j](hj:j<=480000):decide (okR (am q))=true:=amh (qb h.le hj)
def mx(j k:Nat):Nat:=bif decide (j<=k)then k else j
theorem KZ(j k:Nat):j<=mx j k:=by
 unfold mx;by_cases h:j<=k
 ·rw[amh h];exact h
 ·rw[ami h];exact amm _
theorem K7(j k:Nat):k<=mx j k:=by
 unfold mx;by_cases h:j<=k
 ·rw[amh h];exact amm _
 ·rw[ami h];show k<=j;omega
theorem lN{q:Rat}{j k:Nat}[h:Bd q j](hj:j<=k)(hk:k<=480000):decide (ok Rat k (am q))=true:=okd (x:=q) hj hk
section
variable {α β A B:Type} [Cod α A] [Cod β B]
instance ak8 {x:α×β} {k:Nat} [h:Bd x k]:Bd x.1 k:=⟨h.le.1⟩
instance ak7 {x:α×β} {k:Nat} [h:Bd x k]:Bd x.2 k:=⟨h.le.2⟩
instance al1 {x:α} {y:β} {j k:Nat} [h:Bd x j] [h':Bd y k]:Bd (x,y) (mx j k):=⟨Cod.mono _ _ _ (KZ _ _) h.le,Cod.mono _ _ _ (K7 _ _) h'.le⟩
instance akU {b:Bool} {x y:α} {j k:Nat} [h:Bd x j] [h':Bd y k]:Bd (bif b then x else y) (mx j k):=by
 refine⟨?_⟩;cases b
 ·exact Cod.mono _ _ _ (K7 _ _) h'.le
 ·exact Cod.mono _ _ _ (KZ _ _) h.le
theorem Bd.mono{x:α}{j k:Nat}(h:Bd x j)(hk:j<=k):Bd x k:=⟨Cod.mono _ _ _ hk h.le⟩
end
section
variable {a b:Rat} {j k:Nat}
instance aly [h:Bd a j] [h':Bd b k]:Bd (a+b) (j+k+1):=⟨JL h.le h'.le⟩
instance alE [h:Bd a j] [h':Bd b k]:Bd (a-b) (j+k+1):=⟨Va h.le h'.le⟩
instance alb [h:Bd a j] [h':Bd b k]:Bd (a*b) (j+k):=⟨IK h.le h'.le⟩
instance alJ [h:Bd a j]:Bd (-a) j:=⟨v7 h.le⟩
theorem rE(h:bdR k b):1<=k:=by
 have h1:=h.2;have h2:=GU (b.den:Int);have h3:=b.den_pos;rcases am8 k with e|e
 ·subst e;have:szI (b.den:Int)=0:=by omega
  rw[this]at h2;have:pw 0=1:=rfl;omega
 ·exact e
instance alv [h:Bd a j] [h':Bd b k]:Bd (a/b) (j+k):=by
 refine⟨?_⟩;by_cases h0:b=0
 ·subst h0;rw[Rat.div_def,Rat.inv_zero,Rat.mul_zero];have:=rE h'.le;exact b9 (j:=1) ⟨by decide+kernel,by decide+kernel⟩ (by omega)
 ·exact T2 h.le h'.le h0
end
theorem dZ{n:Int}(h:aR n):Bd (n:Rat) 3:=by
 refine⟨?_⟩;show bdR 3 (n:Rat);refine⟨?_,?_⟩
 ·rw[Rat.num_intCast];have:pw 3=1000000000000000000000000000:=by decide
  exact eP (by have:=h.1;omega) (by have:=h.2;omega)
 ·rw[Rat.den_intCast];exact eP (by decide) (by decide)
instance sQ:Bd (0:Rat) 1:=⟨⟨by decide+kernel,by decide+kernel⟩⟩
theorem fT{x:BR}(h:okR x):∃q:Rat,x=am q/\Bd q 480000:=⟨ag x,O5 h,⟨B0 h⟩⟩
def ajY(a b:Rat×Rat):Rat:=a.1*b.1+a.2*b.2
end
def MN:List En:=[enK xM,enK Cp,enK P2,enF Gv,enF GP,enK Nj,enK Qt,enK Hk]
def PB(_k:KT):OLR:=og (decide (aR (1:Int))) (some [RV.d y3Y (ah (1:Int))])
def FU:Cn 31 []:=cn<|lf True [.d y3Y (ah 1)] λ_=>by
 refine aA MN (PB) ⟨0,?_⟩;unfold PB;rw[dT (show aR 1 by decide)]
def Nu:List En:=enK FU::MN
def ZJ(x y:Bool×List Int)(_k:KT):OLR:=og (decide (okI y)) (match decide ((bV (ab y) 0)<0)with|true=>(og (decide (okI x)) (og (decide (okI y)) (og (decide (okI (ah (-ab x))/\okI (ah (-ab y)))) (og (decide (eZ (ah (-ab x)) (ah ((Int.gcd (ab (ah (-ab x))) (ab (ah (-ab y))):Nat):Int)))) (og (decide (eZ (ah (-ab y)) (ah ((Int.gcd (ab (ah (-ab x))) (ab (ah (-ab y))):Nat):Int)))) (some [RV.d (.st (.pair y3Y y3Y)) ((ah (ab (ah (-ab x))/ab (ah ((Int.gcd (ab (ah (-ab x))) (ab (ah (-ab y))):Nat):Int)))),(ah (ab (ah (-ab y))/ab (ah ((Int.gcd (ab (ah (-ab x))) (ab (ah (-ab y))):Nat):Int)))))]))))))|false=>(og (decide (okI x/\okI y)) (og (decide (eZ x (ah ((Int.gcd (ab x) (ab y):Nat):Int)))) (og (decide (eZ y (ah ((Int.gcd (ab x) (ab y):Nat):Int)))) (some [RV.d (.st (.pair y3Y y3Y)) ((ah (ab x/ab (ah ((Int.gcd (ab x) (ab y):Nat):Int)))),(ah (ab y/ab (ah ((Int.gcd (ab x) (ab y):Nat):Int)))))])))))
def X8:Cn 148 [y3Y,y3Y]:=cn λ(x y:Bool×List Int)=>lf (jQ x y) [.d (.st (.pair y3Y y3Y)) (eT x y)] λh=>by
 refine aA Nu (ZJ x y) ⟨0,?_⟩;obtain⟨hx,hy,hne⟩:=h;have sx:=gK hx;have sy:=gK hy;have hgp:0<Int.gcd (ab x) (ab y):=aoN λe=>hne (Int.gcd_eq_zero_iff.1 e).2;have hgs:=PC (a:=ab x) hne sy;have og:okI (ah ((Int.gcd (ab x) (ab y):Nat):Int)):=aS hgs;have o1:okI (ah (-ab x)):=aS (by rw[i7];exact sx);have o2:okI (ah (-ab y)):=aS (by rw[i7];exact sy);have ig:∀z:BI,okI z->eZ z (ah ((Int.gcd (ab x) (ab y):Nat):Int)):=λz hz=>⟨hz,og,by rw[dec_enc];omega⟩
 unfold ZJ eT;rw[dT hy];rcases aos hne with hn|hn
 ·rw[cQ hn,dT (show(-1:Int)<0 by decide),dT hx];simp only[dec_enc,Int.gcd_neg,Int.neg_gcd];rw[dT (show okI (ah (-ab x))/\okI (ah (-ab y)) from⟨o1,o2⟩),dT (ig _ o1),dT (ig _ o2),<-Rat.neg_divInt_neg,oe (by omega),Int.gcd_neg,Int.neg_gcd]
 ·rw[cq hn,dF (show ¬(1:Int)<0 by decide)];simp only[dec_enc];rw[dT (show okI x/\okI y from⟨hx,hy⟩),dT (ig _ hx),dT (ig _ hy),oe hn]
def oK:List En:=enK X8::Nu
def Mf(a:(Bool×List Int)×Bool×List Int)(_k:KT):OLR:=og (decide (okI a.1)) (some [RV.d apE (bV (ab a.1) 0)])
def Nf(n:Int)(_k:KT):OLR:=og (decide (aR n)) (some [RV.d (.st (.pair y3Y y3Y)) ((ah n),(ah 1))])
def Mi(a b:(Bool×List Int)×Bool×List Int)(_k:KT):OLR:=og (decide (okI a.1/\okI b.2)) (og (decide (okI b.1/\okI a.2)) (og (decide (okI (ah (ab a.1*ab b.2))/\okI (ah (ab b.1*ab a.2)))) (some [RV.d apE (bV (ab (ah (ab a.1*ab b.2))) (ab (ah (ab b.1*ab a.2))))])))
def RP(a b:(Bool×List Int)×Bool×List Int)(_k:KT):OLR:=og (decide (okI a.1/\okI b.2)) (og (decide (okI b.1/\okI a.2)) (og (decide (okI (ah (ab a.1*ab b.2))/\okI (ah (ab b.1*ab a.2)))) (og (decide (okI a.2/\okI b.2)) (og (decide (jQ (ah (ab (ah (ab a.1*ab b.2))+ab (ah (ab b.1*ab a.2)))) (ah (ab a.2*ab b.2)))) (some [RV.d (.st (.pair y3Y y3Y)) (((eT (ah (ab (ah (ab a.1*ab b.2))+ab (ah (ab b.1*ab a.2)))) (ah (ab a.2*ab b.2))).1),((eT (ah (ab (ah (ab a.1*ab b.2))+ab (ah (ab b.1*ab a.2)))) (ah (ab a.2*ab b.2))).2))])))))
def L7(a b:(Bool×List Int)×Bool×List Int)(_k:KT):OLR:=og (decide (okI a.1/\okI b.1)) (og (decide (okI a.2/\okI b.2)) (og (decide (jQ (ah (ab a.1*ab b.1)) (ah (ab a.2*ab b.2)))) (some [RV.d (.st (.pair y3Y y3Y)) (((eT (ah (ab a.1*ab b.1)) (ah (ab a.2*ab b.2))).1),((eT (ah (ab a.1*ab b.1)) (ah (ab a.2*ab b.2))).2))])))
def Pm(a:(Bool×List Int)×Bool×List Int)(_k:KT):OLR:=og (decide (okI a.1)) (some [RV.d (.st (.pair y3Y y3Y)) ((ah (-ab a.1)),a.2)])
def OH(x y:Bool×List Int)(_k:KT):OLR:=og (decide (okI y)) (match(bV (ab y) 0)==0 with|true=>some [RV.d (.st (.pair y3Y y3Y)) ((false,[]),(false,[])),RV.d apE 6]|false=>(og (decide (jQ x y)) (some [RV.d (.st (.pair y3Y y3Y)) (((eT x y).1),((eT x y).2)),RV.d apE 0])))
def ack:Cn 279 [y3Y,y3Y]:=cn λ(x y:Bool×List Int)=>lf (jQ x y) [.d (.st (.pair y3Y y3Y)) (eT x y),.d apE 0] λh=>by
 refine aA oK (OH x y) ⟨0,?_⟩;obtain⟨hx,hy,hne⟩:=h
 have hnz:(bV (ab y) 0==0)=false:=by
  rcases aos hne with h|h
  ·rw[cQ h];rfl
  ·rw[cq h];rfl
 unfold OH;rw[dT hy,hnz,dT (show jQ x y from⟨hx,hy,hne⟩)]
def HO:List En:=enK ack::oK
def MO(a b:(Bool×List Int)×Bool×List Int)(_k:KT):OLR:=match decide (okI a.1/\okI b.2)with|true=>(match decide (okI a.2/\okI b.1)with|true=>(match decide (jQ (ah (ab a.1*ab b.2)) (ah (ab a.2*ab b.1)))with|true=>some [RV.d (.st (.pair y3Y y3Y)) (((eT (ah (ab a.1*ab b.2)) (ah (ab a.2*ab b.1))).1),((eT (ah (ab a.1*ab b.2)) (ah (ab a.2*ab b.1))).2)),RV.d apE 0]|false=>none)|false=>none)|false=>none
def l9:Cn 71 [(.st (.pair y3Y y3Y))]:=cn λ(a:(Bool×List Int)×Bool×List Int)=>lf (okR a) [.d apE (aD (ag a) 0)] λh=>by
 refine aA oK (Mf a) ⟨0,?_⟩;unfold Mf;rw[dT h.1,<-uK,(cJ h).1]
def ru:Cn 56 [apE]:=cn λ(n:Int)=>lf (aR n) [.d (.st (.pair y3Y y3Y)) (am (n:Rat))] λh=>by
 refine aA oK (Nf n) ⟨0,?_⟩;unfold Nf am;rw[dT h,Rat.num_intCast,Rat.den_intCast];rfl
def uq:Cn 158 [(.st (.pair y3Y y3Y)),(.st (.pair y3Y y3Y))]:=cn λ(a b:(Bool×List Int)×Bool×List Int)=>lf (okR a/\okR b) [.d apE (aD (ag a) (ag b))] λh=>by
 refine aA oK (Mi a b) ⟨0,?_⟩;obtain⟨ha,hb⟩:=h;obtain⟨a1,a2⟩:=cJ ha;obtain⟨b1,b2⟩:=cJ hb;obtain⟨sa1,sa2⟩:=fW ha;obtain⟨sb1,sb2⟩:=fW hb;have h1:=cN sa1 sb2;have h2:=cN sb1 sa2;unfold Mi;rw[dT (show okI a.1/\okI b.2 from⟨ha.1,hb.2.1⟩),dT (show okI b.1/\okI a.2 from⟨hb.1,ha.2.1⟩),dT (show okI (ah (ab a.1*ab b.2))/\okI (ah (ab b.1*ab a.2)) from⟨aS (by omega),aS (by omega)⟩),dec_enc,dec_enc,<-a1,<-a2,<-b1,<-b2,yE]
def nB:Cn 169 [(.st (.pair y3Y y3Y))]:=cn λ(a:(Bool×List Int)×Bool×List Int)=>lf (okR a) [.d (.st (.pair y3Y y3Y)) (am (-ag a))] λh=>by
 refine aA oK (Pm a) ⟨0,?_⟩;obtain⟨a1,a2⟩:=cJ h;unfold Pm
 have e:am (-ag a)=(ah (-ab a.1),a.2):=by
  unfold am;rw[Rat.neg_num,a1,show((-ag a).den:Int)=((ag a).den:Int) from rfl,a2,<-gR h.2.1]
 rw[dT h.1,e]
def vp:Cn 231 [(.st (.pair y3Y y3Y)),(.st (.pair y3Y y3Y))]:=cn λ(a b:(Bool×List Int)×Bool×List Int)=>lf (okR a/\okR b) [.d (.st (.pair y3Y y3Y)) (am (ag a+ag b))] λh=>by
 refine aA oK (RP a b) ⟨0,?_⟩;obtain⟨ha,hb⟩:=h;obtain⟨a1,a2⟩:=cJ ha;obtain⟨b1,b2⟩:=cJ hb;obtain⟨sa1,sa2⟩:=fW ha;obtain⟨sb1,sb2⟩:=fW hb;have pa:=ha.2.2.1;have pb:=hb.2.2.1;have h1:=cN sa1 sb2;have h2:=cN sb1 sa2;have h3:=cN sa2 sb2;have h4:=wG h1 h2;have hda:ag a=Rat.divInt (ab a.1) (ab a.2):=by rw[<-a1,<-a2,ani]
 have hdb:ag b=Rat.divInt (ab b.1) (ab b.2):=by rw[<-b1,<-b2,ani]
 unfold RP;rw[dT (show okI a.1/\okI b.2 from⟨ha.1,hb.2.1⟩),dT (show okI b.1/\okI a.2 from⟨hb.1,ha.2.1⟩),dT (show okI (ah (ab a.1*ab b.2))/\okI (ah (ab b.1*ab a.2)) from⟨aS (by omega),aS (by omega)⟩),dT (show okI a.2/\okI b.2 from⟨ha.2.1,hb.2.1⟩)];simp only[dec_enc];rw[dT (show jQ (ah (ab a.1*ab b.2+ab b.1*ab a.2)) (ah (ab a.2*ab b.2)) from⟨aS (by omega),aS (by omega),by rw[dec_enc];exact aoY (by omega) (by omega)⟩)]
 have e:eT (ah (ab a.1*ab b.2+ab b.1*ab a.2)) (ah (ab a.2*ab b.2))=am (ag a+ag b):=by
  unfold eT;rw[dec_enc,dec_enc,hda,hdb,Rat.divInt_add_divInt _ _ (by omega) (by omega)]
 rw[e]
def rK:Cn 221 [(.st (.pair y3Y y3Y)),(.st (.pair y3Y y3Y))]:=cn λ(a b:(Bool×List Int)×Bool×List Int)=>lf (okR a/\okR b) [.d (.st (.pair y3Y y3Y)) (am (ag a*ag b))] λh=>by
 refine aA oK (L7 a b) ⟨0,?_⟩;obtain⟨ha,hb⟩:=h;obtain⟨a1,a2⟩:=cJ ha;obtain⟨b1,b2⟩:=cJ hb;obtain⟨sa1,sa2⟩:=fW ha;obtain⟨sb1,sb2⟩:=fW hb;have pa:=ha.2.2.1;have pb:=hb.2.2.1;have h1:=cN sa1 sb1;have h3:=cN sa2 sb2;have hda:ag a=Rat.divInt (ab a.1) (ab a.2):=by rw[<-a1,<-a2,ani]
 have hdb:ag b=Rat.divInt (ab b.1) (ab b.2):=by rw[<-b1,<-b2,ani]
 unfold L7;rw[dT (show okI a.1/\okI b.1 from⟨ha.1,hb.1⟩),dT (show okI a.2/\okI b.2 from⟨ha.2.1,hb.2.1⟩),dT (show jQ (ah (ab a.1*ab b.1)) (ah (ab a.2*ab b.2)) from⟨aS (by omega),aS (by omega),by rw[dec_enc];exact aoY (by omega) (by omega)⟩)]
 have e:eT (ah (ab a.1*ab b.1)) (ah (ab a.2*ab b.2))=am (ag a*ag b):=by
  unfold eT;rw[dec_enc,dec_enc,hda,hdb,aoZ]
 rw[e]
def wK:Cn 215 [(.st (.pair y3Y y3Y)),(.st (.pair y3Y y3Y))]:=cn λ(a b:(Bool×List Int)×Bool×List Int)=>lf (kV a b) [.d (.st (.pair y3Y y3Y)) (am (ag a/ag b)),.d apE 0] λh=>by
 refine aA HO (MO a b) ⟨0,?_⟩;obtain⟨ha,hb,hne⟩:=h;obtain⟨a1,a2⟩:=cJ ha;obtain⟨b1,b2⟩:=cJ hb;obtain⟨sa1,sa2⟩:=fW ha;obtain⟨sb1,sb2⟩:=fW hb;have pa:=ha.2.2.1;have h1:=cN sa1 sb2;have h3:=cN sa2 sb1;have hda:ag a=Rat.divInt (ab a.1) (ab a.2):=by rw[<-a1,<-a2,ani]
 have hdb:ag b=Rat.divInt (ab b.1) (ab b.2):=by rw[<-b1,<-b2,ani]
 have hmz:ab a.2*ab b.1≠0:=aoY (by omega) hne;unfold MO;rw[dT (show okI a.1/\okI b.2 from⟨ha.1,hb.2.1⟩),dT (show okI a.2/\okI b.1 from⟨ha.2.1,hb.1⟩)];simp only;rw[dT (show jQ (ah (ab a.1*ab b.2)) (ah (ab a.2*ab b.1)) from⟨aS (by omega),aS (by omega),by rw[dec_enc];exact hmz⟩)]
 have e:eT (ah (ab a.1*ab b.2)) (ah (ab a.2*ab b.1))=am (ag a/ag b):=by
  unfold eT;rw[dec_enc,dec_enc,hda,hdb,Rat.div_def,Rat.inv_divInt,aoZ]
 rw[e]
def aa7:List En:=enK vp::enK nB::enK wK::HO
def SF(a b:(Bool×List Int)×Bool×List Int)(_k:KT):OLR:=match decide (okR b)with|true=>(match decide (okR a/\okR (am (-ag b)))with|true=>some [RV.d (.st (.pair y3Y y3Y)) (((am (ag a+ag (am (-ag b)))).1),((am (ag a+ag (am (-ag b)))).2))]|false=>none)|false=>none
def yc:Cn 270 [(.st (.pair y3Y y3Y)),(.st (.pair y3Y y3Y))]:=cn λ(a b:(Bool×List Int)×Bool×List Int)=>lf (okR a/\okR b) [.d (.st (.pair y3Y y3Y)) (am (ag a-ag b))] λh=>by
 refine aA aa7 (SF a b) ⟨0,?_⟩;obtain⟨ha,hb⟩:=h;unfold SF;rw[dT hb,eA,Rat.sub_eq_add_neg,dT (show okR a/\okR (am (-ag b)) from⟨ha,qb (v7 (B0 hb)) (amm _)⟩)]
theorem i9{a b:Rat}{j k:Nat}[ha:Bd a j][hb:Bd b k](hj:j<=480000)(hk:k<=480000)(h:b≠0):decide (kV (am a) (am b))=true:=
 amh ⟨qb ha.le hj,qb hb.le hk,by show ab (ah b.num)≠0;rw[dec_enc];exact λe=>h (Rat.num_eq_zero.1 e)⟩
theorem bE:type_of% @dz/\type_of% @cO/\type_of% @da/\type_of% @aQ/\type_of% @au/\type_of% @sB/\type_of% @C5/\type_of% @lO/\type_of% @J5/\type_of% @DF/\type_of% @I2/\type_of% @eA/\type_of% @aiB/\type_of% @aja/\type_of% @ajf/\type_of% @okd/\type_of% @lN/\type_of% @qA/\type_of% @i9/\type_of% @aol/\type_of% @Bool.and_true/\type_of% @anD/\type_of% @anP/\type_of% @mx.eq_1/\type_of% @decide_true/\type_of% @decide_false/\(∀{α:Type} (a b:α),cond true a b=a)/\∀{α:Type} (a b:α),cond false a b=b:=
 ⟨@dz,@cO,@da,@aQ,@au,@sB,@C5,@lO,@J5,@DF,@I2,@eA,@aiB,@aja,@ajf,@okd,@lN,@qA,@i9,@aol,@Bool.and_true,@anD,@anP,@mx.eq_1,@decide_true,@decide_false,@cond_true,@cond_false⟩
theorem av(a b:Rat):decide (aD a b>0)=decide (b<a):=by
 rcases(by grind:a<b\/a=b\/b<a)with h|h|h
 ·rw[d9 h,ami (show ¬b<a by grind)];rfl
 ·rw[h,eD,ami (show ¬b<b by grind)];rfl
 ·rw[dL h,amh h];rfl
theorem aq(a b:Rat):decide (aD a b<0)=decide (a<b):=by
 rcases(by grind:a<b\/a=b\/b<a)with h|h|h
 ·rw[d9 h,amh h];rfl
 ·rw[h,eD,ami (show ¬b<b by grind)];rfl
 ·rw[dL h,ami (show ¬a<b by grind)];rfl
theorem ao(a b:Rat):(aD a b==0)=decide (a=b):=by
 rcases(by grind:a<b\/a=b\/b<a)with h|h|h
 ·rw[d9 h,ami (show ¬a=b by grind)];rfl
 ·rw[h,eD,amh rfl];rfl
 ·rw[dL h,ami (show ¬a=b by grind)];rfl
theorem lM(a b:Rat): -1<=aD a b/\aD a b<=1:=by
 rcases(by grind:a<b\/a=b\/b<a)with h|h|h
 ·rw[d9 h];decide
 ·rw[h,eD];decide
 ·rw[dL h];decide
theorem pQ{a b c d:Rat}:i64.wrap (aD a b*aD c d)=aD a b*aD c d:=by
 rcases(by grind:a<b\/a=b\/b<a)with h|h|h<;>rcases(by grind:c<d\/c=d\/d<c)with h'|h'|h';all_goals first|rw[d9 h]|(subst h;rw[eD])|rw[dL h]
 all_goals first|rw[d9 h']|(subst h';rw[eD])|rw[dL h']
 all_goals decide
abbrev Rt:=Rat×Rat×Rat
def gf(a b m:Rat):Int:=RE.addS (aD a 0) (aD b 0*aD m 0) (aD (a*a) (b*b*m))
def C4(A B C D M N:Rat):Int:=bif decide (M<0)||decide (N<0)then 0
 else RE.addS (gf A B M) (gf C D M*aD N 0) (gf (A*A+B*B*M-N*(C*C+D*D*M)) (2*(A*B-N*(C*D))) M)
def bQ(x y:Rt):Int:=C4 (x.1-y.1) x.2.1 (-y.2.1) 0 x.2.2 y.2.2
theorem yO(a b:Rat):aD (a-b) 0=aD a b:=by
 rcases(by grind:a<b\/a=b\/b<a)with h|h|h
 ·rw[d9 h,d9 (by grind)]
 ·rw[h,eD,show b-b=0 by grind,eD]
 ·rw[dL h,dL (by grind)]
namespace RE
def rq(m:Rat):RE:=xp (of m)
theorem Sq(m:Rat):0<=rq m:=pH _
theorem qD{m:Rat}(h:0<=m):rq m*rq m=of m:=BF (oz.2 h)
theorem UA{x:RE}(h:0<=x):sg (xp x)=sg x:=by
 have h1:=pH x;have h2:=BF h;rcases ph h1 with h'|h'
 ·rw[jc h',<-h2,jc (mul_pos h' h')]
 ·rw[h',mul_zero]at h2;rw[h',h2]
theorem Qq{m:Rat}(h:0<=m):sg (rq m)=aD m 0:=by
 unfold rq;rw[UA (oz.2 h),sg_of]
def v2(a b m:Rat):RE:=of a+of b*rq m
def vR(x:Rt):RE:=v2 x.1 x.2.1 x.2.2
theorem sq2(a b s:RE):a*a-b*s*(b*s)=a*a-b*b*(s*s):=by grind
theorem sq4(A B C D s t:RE):(A+B*s)*(A+B*s)-(C+D*s)*t*((C+D*s)*t)=A*A+B*B*(s*s)-t*t*(C*C+D*D*(s*s))+2*(A*B-t*t*(C*D))*s:=by grind
theorem af9(A B C D s t:RE):A+B*s+(C+D*s)*t=A+B*s+C*t+D*(s*t):=by grind
theorem aca(a b c d s t:RE):a-c+b*s+(-d)*t+0*(s*t)=a+b*s-(c+d*t):=by grind
theorem sgn2_re{a b m:Rat}(h:0<=m):gf a b m=sg (v2 a b m):=by
 unfold v2;rw[Qf,sq2,qD h,uF,sg_of,sg_of,Qq h,<-bO,<-bO,<-bO,<-of_sub,sg_of,yO];rfl
theorem aea:of 2=2:=rfl
def vQ(A B C D M N:Rat):RE:=of A+of B*rq M+of C*rq N+of D*(rq M*rq N)
theorem sgnQ_re{A B C D M N:Rat}(hM:0<=M)(hN:0<=N):C4 A B C D M N=sg (vQ A B C D M N):=by
 unfold C4 vQ;rw[ami (by grind),ami (by grind),<-af9,Qf,sq4,qD hM,qD hN,uF,Qq hN,sgn2_re hM,sgn2_re hM,sgn2_re hM];unfold v2;simp only[of_sub,of_add,bO,aea];rfl
theorem cmpT_re{x y:Rt}(hx:0<=x.2.2)(hy:0<=y.2.2):bQ x y=sg (vR x-vR y):=by
 unfold bQ vR v2;rw[sgnQ_re hx hy,<-aca,<-of_sub,<-of_neg];rfl
end RE
theorem Cu{s t:Int}(hs: -1<=s/\s<=1)(ht: -1<=t/\t<=1): -1<=s*t/\s*t<=1:=by
 have h1:s= -1\/s=0\/s=1:=by omega
 have h2:t= -1\/t=0\/t=1:=by omega
 rcases h1 with rfl|rfl|rfl<;>rcases h2 with rfl|rfl|rfl<;>decide
theorem IH{s t d:Int}(hs: -1<=s/\s<=1)(ht: -1<=t/\t<=1)(hd: -1<=d/\d<=1): -1<=RE.addS s t d/\RE.addS s t d<=1:=by
 unfold RE.addS;cases(t==0||s==t)
 ·cases s==0
  ·exact Cu hs hd
  ·exact ht
 ·exact hs
theorem lD(a b m:Rat): -1<=gf a b m/\gf a b m<=1:=IH (lM _ _) (Cu (lM _ _) (lM _ _)) (lM _ _)
theorem VP(A B C D M N:Rat): -1<=C4 A B C D M N/\C4 A B C D M N<=1:=by
 unfold C4;cases(decide (M<0)||decide (N<0))
 ·exact IH (lD _ _ _) (Cu (lD _ _ _) (lM _ _)) (lD _ _ _)
 ·exact⟨by show(-1:Int)<=0;decide,by show(0:Int)<=1;decide⟩
theorem ww(x y:Rt): -1<=bQ x y/\bQ x y<=1:=VP _ _ _ _ _ _
theorem m8(a b:Int):(bV a b==0)=decide (a=b):=by
 rcases Int.lt_trichotomy a b with h|h|h
 ·rw[cQ h,ami (by omega)];rfl
 ·rw[h,dB,amh rfl];rfl
 ·rw[cq h,ami (by omega)];rfl
def MH:List En:=[enK xM,enF GP,enK Cp,enK Hn,enK Qt]
def TF:NT:=[((100,23),{keep:=[1,2,4,5],hl:=6})]
def CT:Ctx:=CX (ens MH) TF
def kX(x:Bool×List Int)(b4_0:Bool)(b4_1:List Int):Cfg:=⟨100,[.blk 0],[(1,.box 0 0),(2,.box 1 0),(4,.box 4 0),(5,.box 5 0)],[.box 26 [SB x.1,.d apD x.2],.box 26 [SB false,.nil],.gone,.row 109 apG ([1]),.box 26 [SB b4_0,.d apD b4_1],.box 26 [SB ((ah (2:Int)).1),.d apD ((ah (2:Int)).2)]],0,[]⟩
def B5(x:Bool×List Int)(k:KT):OLR:=match x.1 with|true=>some [RV.d y3Y (false,[]),RV.d apE 7]|false=>(match(x.2.length:Int)==0 with|true=>some [RV.d y3Y (false,[]),RV.d apE 0]|false=>(og (decide ((0:Int)<=i64.wrap (Int.tdiv (i64.wrap ((x.2.length:Int)+1)) 2)/\(i64.wrap (Int.tdiv (i64.wrap ((x.2.length:Int)+1)) 2))*((4:Nat):Int)<=140737488355328/\i64.wrap (Int.tdiv (i64.wrap ((x.2.length:Int)+1)) 2)<=140737488355328)) (og (decide (((List.replicate (i64.wrap (Int.tdiv (i64.wrap ((x.2.length:Int)+1)) 2)).toNat (0:Int)).length+([1]).length)*4<=140737488355328/\(List.replicate (i64.wrap (Int.tdiv (i64.wrap ((x.2.length:Int)+1)) 2)).toNat (0:Int)).length+([1]).length<=140737488355328)) (og (decide (aR (2:Int))) (k 23 (kX x false ((List.replicate (i64.wrap (Int.tdiv (i64.wrap ((x.2.length:Int)+1)) 2)).toNat (0:Int))++([1]))))))))
theorem GW(x:Bool×List Int):RS CT 100 [.d y3Y x] (B5 x):=rsX
def qV(x:Bool×List Int)(b4_0:Bool)(b4_1:List Int)(k:KT):OLR:=og (decide (eZ x (b4_0,b4_1))) (cW (og (decide (okI (b4_0,b4_1)/\okI (ah (ab x/ab (b4_0,b4_1))))) (cW (og (decide (eZ (ah (ab (b4_0,b4_1)+ab (ah (ab x/ab (b4_0,b4_1))))) (ah (2:Int)))) (dup (.b .l .l) (og (decide (okI (ah (ab (ah (ab (b4_0,b4_1)+ab (ah (ab x/ab (b4_0,b4_1)))))/ab (ah (2:Int))))/\okI (b4_0,b4_1))) (match decide ((bV (ab (ah (ab (ah (ab (b4_0,b4_1)+ab (ah (ab x/ab (b4_0,b4_1)))))/ab (ah (2:Int))))) (ab (b4_0,b4_1)))>=0)with|true=>some [RV.d y3Y (b4_0,b4_1),RV.d apE 0]|false=>k 23 (kX x ((ah (ab (ah (ab (b4_0,b4_1)+ab (ah (ab x/ab (b4_0,b4_1)))))/ab (ah (2:Int)))).1) ((ah (ab (ah (ab (b4_0,b4_1)+ab (ah (ab x/ab (b4_0,b4_1)))))/ab (ah (2:Int)))).2)))))) (dup (.b (.b .l .l) (.b .l .l)) (og (decide (eZ (ah (ab (b4_0,b4_1)+ab (ah (ab x/ab (b4_0,b4_1))))) (ah (2:Int)))) (og (decide (okI (ah (ab (ah (ab (b4_0,b4_1)+ab (ah (ab x/ab (b4_0,b4_1)))))/ab (ah (2:Int))))/\okI (b4_0,b4_1))) (match decide ((bV (ab (ah (ab (ah (ab (b4_0,b4_1)+ab (ah (ab x/ab (b4_0,b4_1)))))/ab (ah (2:Int))))) (ab (b4_0,b4_1)))>=0)with|true=>some [RV.d y3Y (b4_0,b4_1),RV.d apE 0]|false=>k 23 (kX x ((ah (ab (ah (ab (b4_0,b4_1)+ab (ah (ab x/ab (b4_0,b4_1)))))/ab (ah (2:Int)))).1) ((ah (ab (ah (ab (b4_0,b4_1)+ab (ah (ab x/ab (b4_0,b4_1)))))/ab (ah (2:Int)))).2)))))))) (dup (.b .l .l) (cW (og (decide (okI (b4_0,b4_1)/\okI (ah (ab x/ab (b4_0,b4_1))))) (dup (.b .l .l) (og (decide (eZ (ah (ab (b4_0,b4_1)+ab (ah (ab x/ab (b4_0,b4_1))))) (ah (2:Int)))) (og (decide (okI (ah (ab (ah (ab (b4_0,b4_1)+ab (ah (ab x/ab (b4_0,b4_1)))))/ab (ah (2:Int))))/\okI (b4_0,b4_1))) (match decide ((bV (ab (ah (ab (ah (ab (b4_0,b4_1)+ab (ah (ab x/ab (b4_0,b4_1)))))/ab (ah (2:Int))))) (ab (b4_0,b4_1)))>=0)with|true=>some [RV.d y3Y (b4_0,b4_1),RV.d apE 0]|false=>k 23 (kX x ((ah (ab (ah (ab (b4_0,b4_1)+ab (ah (ab x/ab (b4_0,b4_1)))))/ab (ah (2:Int)))).1) ((ah (ab (ah (ab (b4_0,b4_1)+ab (ah (ab x/ab (b4_0,b4_1)))))/ab (ah (2:Int)))).2))))))) (og (decide (okI (b4_0,b4_1)/\okI (ah (ab x/ab (b4_0,b4_1))))) (og (decide (eZ (ah (ab (b4_0,b4_1)+ab (ah (ab x/ab (b4_0,b4_1))))) (ah (2:Int)))) (og (decide (okI (ah (ab (ah (ab (b4_0,b4_1)+ab (ah (ab x/ab (b4_0,b4_1)))))/ab (ah (2:Int))))/\okI (b4_0,b4_1))) (match decide ((bV (ab (ah (ab (ah (ab (b4_0,b4_1)+ab (ah (ab x/ab (b4_0,b4_1)))))/ab (ah (2:Int))))) (ab (b4_0,b4_1)))>=0)with|true=>some [RV.d y3Y (b4_0,b4_1),RV.d apE 0]|false=>k 23 (kX x ((ah (ab (ah (ab (b4_0,b4_1)+ab (ah (ab x/ab (b4_0,b4_1)))))/ab (ah (2:Int)))).1) ((ah (ab (ah (ab (b4_0,b4_1)+ab (ah (ab x/ab (b4_0,b4_1)))))/ab (ah (2:Int)))).2)))))))))
theorem yS(x:Bool×List Int)(b4_0:Bool)(b4_1:List Int):RN CT 23 (kX x b4_0 b4_1) (qV x b4_0 b4_1):=rnX
theorem KH(x:BI)(hx:okI x)(h0:0<ab x):∀(m:Nat) (X:Int),X.toNat=m->0<X->bK (ab x)<=X->szI X<=900000->CT.Runs 23 (kX x (ah X).1 (ah X).2) [.d y3Y (ah (bK (ab x))),.d apE 0]:=by
 intro m;induction m using Nat.strongRecOn with
 |ind m ih=>
  intro X hm hX hs hsz;obtain⟨g0,g1,g2⟩:=fJ (amY h0);have hq0:0<=ab x/X:=anh (by omega) (by omega);have hq1:ab x/X<=ab x:=aoe _ (by omega);have oX:okI (ah X):=aS (by omega);have sq:szI (ab x/X)<=1000000:=amt (dm (by omega)) (gK hx);have p1:eZ x (ah X):=⟨hx,oX,by rw[dec_enc];exact hX⟩
  have ssum:szI (X+ab x/X)<=1000000:=by
   have b1:=nP hsz;have b2:=nP (gK hx);have e:pw 1000000=pw 900000*pw 100000:=by rw[<-fc]
   have p9:(1000:Int)<=pw 100000:=by
    have:pw 100000=pw 99999*1000000000:=bW 99999;have:=cg 99999;omega
   have p8:=cg 900000;have h8:pw 900000*1000<=pw 900000*pw 100000:=amo p9 (by omega);rcases amM X 2 with hX1|hX1
   ·-- X=1:then the number is less than 4
    have:X=1:=by omega
    subst this;have:bK (ab x)<=1:=hs
    have h4:ab x<4:=by
     have:=tW (a:=bK (ab x)+1) (b:=2) (by omega) (by omega);omega
    refine eP ?_ ?_<;>(rw[e,Int.ediv_one];omega)
   ·have hq2:ab x/X<=ab x/2:=by
     have:=Int.ediv_mul_le (ab x) (show X≠0 by omega);have h2:ab x/X*2<=ab x/X*X:=amo hX1 hq0;omega
    refine eP ?_ ?_<;>(rw[e]at b2 ⊢;omega)
  have o1:okI (ah X)/\okI (ah (ab x/X)):=⟨oX,aS sq⟩
  have p2:eZ (ah (X+ab x/X)) (ah 2):=⟨aS ssum,by decide,by rw[dec_enc];decide⟩
  have hn:=Px hX g0 g1;have o2:okI (ah ((X+ab x/X)/2))/\okI (ah X):=⟨aS (amt (dm (by omega)) ssum),oX⟩
  by_cases hc:X<=(X+ab x/X)/2
  ·have hXs:=yy hX hs g1 g2 g0 hc;refine yS _ _ _ ⟨0,?_⟩;unfold qV;simp only[cO,da];have e:∀z:Int,((ah z).1,(ah z).2)=ah z:=λz=>rfl;simp only[e,dec_enc,amh p1,amh o1,amh p2,amh o2]
   have hg:decide (bV ((X+ab x/X)/2) X>=0)=true:=by
    rcases aou hc with h|h
    ·rw[cq h];rfl
    ·rw[<-h,dB];rfl
   rw[hg,hXs]
  ·obtain⟨n,hN⟩:=ih ((X+ab x/X)/2).toNat (by omega) ((X+ab x/X)/2) rfl (by
    rcases amM 0 (bK (ab x))with h|h
    ·omega
    ·exfalso;have:bK (ab x)=0:=by omega
     rw[this]at g2;omega) hn (amt (dm (by omega)) hsz)
   refine yS _ _ _ ⟨n,?_⟩;unfold qV;simp only[cO,da];have e:∀z:Int,((ah z).1,(ah z).2)=ah z:=λz=>rfl;simp only[e,dec_enc,amh p1,amh o1,amh p2,amh o2];rw[cQ (by omega)];exact hN
def acL:Cn 100 [y3Y]:=cn λ(x:Bool×List Int)=>lf (okI x) [.d y3Y (fE x),.d apE (vM x)] λh=>by
 refine a8 MH (show CT.Res _ _ _ from ?_);obtain⟨x0,x1,x2⟩:=cp h;have hl:=h.2.2;cases hn:x.1
 ·by_cases hz:x.2=[]
  ·refine GW _ ⟨0,?_⟩;unfold B5 fE vM;have:ab x=0:=by unfold ab;rw[hn,hz];rfl
   rw[hn,hz,this];rfl
  ·have hp:0<val x.2:=eo h.1 hz;have hd:ab x=val x.2:=by unfold ab;rw[hn];rfl
   have hlen:=am1.2 hz
   have hk:i64.wrap (Int.tdiv (i64.wrap ((x.2.length:Int)+1)) 2)=(((x.2.length+1)/2:Nat):Int):=by
    rw[aT (by omega),gC (by omega),aO (by omega) (by omega)];omega
   have hv:val (List.replicate ((x.2.length+1)/2) 0++[1])=pw ((x.2.length+1)/2):=by
    rw[dv,gj,aop];simp[val]
   have hL:aN (List.replicate ((x.2.length+1)/2) 0++[1]):=by
    refine⟨λy hy=>?_,by simp;omega⟩;rcases amG.1 hy with hy|hy
    ·have:=List.eq_of_mem_replicate hy;omega
    ·simp at hy;omega
   have hpos:=cg ((x.2.length+1)/2)
   obtain⟨n,hN⟩:=KH x h (by omega) _ (pw ((x.2.length+1)/2)) rfl hpos (by
     obtain⟨g0,g1,g2⟩:=fJ (show 0<=ab x by omega);have hlt:=bU h.1.1;have hm:=df (show x.2.length<=(x.2.length+1)/2+(x.2.length+1)/2 by omega);rw[fc]at hm;have:=sq_lt (a:=bK (ab x)) (b:=pw ((x.2.length+1)/2)) (by omega) (by omega)
     omega) (eP (k:=900000) (by have:=cg 900000;omega) (by
      have:=df (show(x.2.length+1)/2+1<=900000 by omega);rw[bW]at this;omega))
   refine GW _ ⟨n,?_⟩;unfold B5 fE vM;simp only[hk];rw[hn,show((x.2.length:Int)==0)=false by simp;omega];simp only[aoy];rw[amh (show(0:Int)<=(((x.2.length+1)/2:Nat):Int)/\(((x.2.length+1)/2:Nat):Int)*((4:Nat):Int)<=140737488355328/\(((x.2.length+1)/2:Nat):Int)<=140737488355328 by omega)];rw[amh (show((List.replicate ((x.2.length+1)/2) (0:Int)).length+([1]:List Nat).length)*4<=140737488355328/\(List.replicate ((x.2.length+1)/2) (0:Int)).length+([1]:List Nat).length<=140737488355328 by simp;omega)];rw[amh (show aR 2 by decide)]
   have he:ah (pw ((x.2.length+1)/2))=(false,List.replicate ((x.2.length+1)/2) 0++[1]):=by
    have ho:okI ((false,List.replicate ((x.2.length+1)/2) 0++[1]):BI):=⟨⟨hL.1,by simp⟩,(λe=>by cases e),(by simp;omega)⟩
    rw[gR ho];congr 1;exact hv.symm
   rw[he]at hN;exact hN
 ·refine GW _ ⟨0,?_⟩;unfold B5 fE vM;rw[hn];rfl
def afe:List En:=enF xD::MH
def Ml(x y:Bool×List Int)(_k:KT):OLR:=match x.1==y.1 with|true=>(og (decide (rV x.2 y.2)) (some [RV.d .bool ((bV (val x.2) (val y.2))==0)]))|false=>some [RV.d .bool false]
def Cy:Cn 29 [y3Y,y3Y]:=cn λ(x y:Bool×List Int)=>lf (okI x/\okI y) [.d .bool (decide (ab x=ab y))] λh=>by
 refine aA afe (Ml x y) ⟨0,?_⟩;obtain⟨hx,hy⟩:=h;obtain⟨x0,x1,x2⟩:=cp hx;obtain⟨y0,y1,y2⟩:=cp hy;unfold Ml;rw[dT (show rV x.2 y.2 from⟨⟨hx.1,by have:=hx.2.2;omega⟩,⟨hy.1,by have:=hy.2.2;omega⟩⟩)];rw[bL,bL];unfold bX;cases ex:x.1<;>cases ey:y.1<;>simp only[cond_true,cond_false]
 ·show some [RV.d .bool (bV (val x.2) (val y.2)==0)]=_;rw[m8]
 ·have:=y1 ey;rw[ami (show ¬val x.2= -val y.2 by omega)];rfl
 ·have:=x1 ex;rw[ami (show ¬ -val x.2=val y.2 by omega)];rfl
 ·show some [RV.d .bool (bV (val x.2) (val y.2)==0)]=_;rw[m8,show decide (val x.2=val y.2)=decide (-val x.2= -val y.2) from aoI.2 (by omega)]
def dP(q:Rat):Bool:=decide (bK q.num*bK q.num=q.num)&&decide (bK (q.den:Int)*bK (q.den:Int)=(q.den:Int))
def rtQ(q:Rat):Rat:=mkRat (bK q.num) (bK (q.den:Int)).toNat
theorem Cg(z:Int):0<=bK z:=by unfold bK;omega
theorem Bf{s:Int}(h:0<=s):bK (s*s)=s:=UG h (Int.le_refl _) (by grind)
theorem pe{z:Int}(h:z<0):bK z=0:=by
 unfold bK;rw[show z.toNat=0 by omega];rfl
theorem ahR{s t:Nat}(ht:0<t)(hg:(s*s).Coprime (t*t)):(mkRat (s:Int) t).num=(s:Int)/\(mkRat (s:Int) t).den=t:=by
 have hc:s.Coprime t:=Nat.Coprime.coprime_dvd_left (Nat.dvd_mul_left s s) (Nat.Coprime.coprime_dvd_right (Nat.dvd_mul_left t t) hg);rw[apj,apk,amJ (by omega),amJ (by omega),aor,show t.gcd s=1 from hc.symm];simp
theorem GB{q:Rat}(h:dP q=true):(rtQ q).num=bK q.num/\((rtQ q).den:Int)=bK (q.den:Int)/\rtQ q*rtQ q=q/\0<=rtQ q:=by
 unfold dP at h;simp only[aml,aoB]at h;obtain⟨h1,h2⟩:=h;have hd:=q.den_pos;have hr:=q.reduced;obtain⟨s,hs⟩:=anQ (Cg q.num);obtain⟨t,ht⟩:=anQ (Cg (q.den:Int));unfold rtQ;rw[hs,ht,aoy];rw[hs]at h1;rw[ht]at h2;have e1:q.num.natAbs=s*s:=by rw[<-h1,<-anB,aor]
 have e2:q.den=t*t:=by rw[<-anB]at h2;omega
 have hg:(s*s).Coprime (t*t):=by rw[<-e1,<-e2];exact hr
 have tp:0<t:=aoN λe=>by rw[e2,e]at hd;simp at hd
 obtain⟨g1,g2⟩:=ahR tp hg;refine⟨g1,by rw[g2],?_,?_⟩
 ·rw[Rat.mkRat_mul_mkRat,<-e2,h1,Rat.mkRat_self]
 ·exact Rat.num_nonneg.1 (by rw[g1];omega)
theorem Jm(r:Rat):dP (r*r)=true:=by
 have hd:=r.den_pos
 have hc:(r.den*r.den).gcd (r.num*r.num).natAbs=1:=by
  rw[Int.natAbs_mul];have:=r.reduced.symm;exact Nat.Coprime.mul_left (Nat.Coprime.mul_right this this) (Nat.Coprime.mul_right this this)
 have e1:(r*r).num=r.num*r.num:=by
  rw[Rat.mul_def',apj,hc,amJ (Nat.mul_ne_zero (by omega) (by omega))];simp
 have e2:((r*r).den:Int)=(r.den:Int)*(r.den:Int):=by
  rw[Rat.mul_def',apk,hc,amJ (Nat.mul_ne_zero (by omega) (by omega)),Nat.div_one,anB]
 unfold dP;rw[e1,e2,Bf (s:=(r.den:Int)) (by omega)];rcases amM r.num 0 with h|h
 ·rw[show r.num*r.num= -r.num* -r.num by grind,Bf (by omega)];simp
 ·rw[Bf h];simp
def rtB(q:Rat):BR:=bif dP q then am (rtQ q)else((false,[]),(false,[]))
theorem CC{x:BI}(h:okI x):fE x=ah (bK (ab x)):=by
 obtain⟨x0,x1,x2⟩:=cp h;unfold fE;cases hx:x.1
 ·rfl
 ·have:=x1 hx;have hd:ab x= -val x.2:=by rw[bL,hx];rfl
  rw[hd,pe (by omega)];rfl
theorem HK{z:Int}(h:szI z<=1000000):szI (bK z)<=500000:=by
 have h1:=nP h;have e:pw 1000000=pw 500000*pw 500000:=by rw[<-fc]
 have hp:=cg 500000;rcases amM z 0 with h0|h0
 ·rw[pe h0];exact eP (by omega) hp
 ·obtain⟨g0,g1,g2⟩:=fJ h0;have:=sq_lt (a:=bK z) (b:=pw 500000) (by omega) (by omega);exact eP (by omega) this
theorem PK(a b:Int):(ah a==ah b)=decide (a=b):=by
 by_cases h:a=b
 ·rw[h,amh rfl];simp
 ·rw[ami h,amT];intro e;exact h (by rw[<-dec_enc a,e,dec_enc])
theorem IR{x y:BI}(hx:okI x)(hy:okI y):(x==y)=decide (ab x=ab y):=by
 rw[gR hx,gR hy,PK,dec_enc,dec_enc]
def Bn:dJ:=spN true true [tI,tI] (λx=>decide (okI x.1/\okI x.2.1)) (λx=>[RV.d apE (bV (ab x.1) (ab x.2.1))])
theorem xi:SpK 82 Bn:=spX λx h=>IJ x.1 x.2.1 (amj h)
def F6:dJ:=spN false true [tI,tI] (λx=>decide (okI x.1/\okI x.2.1)) (λx=>[RV.d tI (hid (ah (ab x.1*ab x.2.1)))])
theorem EX:SpK 86 F6:=spX λx h=>by simp only[aQ];exact Jp x.1 x.2.1 (amj h)
def Xf:List En:=[⟨82,Bn,xi⟩,⟨86,F6,EX⟩,enL WT]
def ZP(x:BI)(_k:KT):OLR:=og (decide (okI x)) (match(vM x)==0 with|true=>(og (decide (okI (hid (fE x))/\okI (hid (fE x)))) (og (decide (okI (hid (ah (ab (hid (fE x))*ab (hid (fE x)))))/\okI x)) (some [RV.d tI (hid (fE x)),RV.d .bool ((bV (ab (hid (ah (ab (hid (fE x))*ab (hid (fE x)))))) (ab x))==0)])))|false=>some [RV.d tI (hid (fE x)),RV.d .bool false])
def agH:Cn 48 [tI]:=cn λ(x:BI)=>lf (okI x) [.d tI (ah (bK (ab x))),.d .bool (decide (bK (ab x)*bK (ab x)=ab x))] λh=>by
 refine aA Xf (ZP x) ⟨0,?_⟩;have hs:=gK h;have hz:szI (bK (ab x))<=500000:=HK hs;have o1:okI (ah (bK (ab x))):=aS (by omega);have o2:okI (ah (bK (ab x)*bK (ab x))):=aS (by have:=cN hz hz;omega);have o3:okI (ah (bK (ab x)*bK (ab x)))/\okI x:=⟨o2,h⟩
 have o4:okI (ah (bK (ab x)))/\okI (ah (bK (ab x))):=⟨o1,o1⟩
 have hng:x.1=true->decide (bK (ab x)*bK (ab x)=ab x)=false:=λe=>ami (by
  have:=(cp h).2.1 e;have hd:ab x= -val x.2:=by rw[bL,e];rfl
  rw[pe (by omega)];omega)
 unfold ZP;simp only[aQ,CC h,dec_enc,dT h,dT o4,dT o3,m8];unfold vM;cases e:x.1
 ·rfl
 ·rw[hng e];rfl
def afX:List En:=enL agH::Xf
def ZA(a:BR)(_k:KT):OLR:=og (decide (okI a.1)) (match decide (bK (ab a.1)*bK (ab a.1)=ab a.1)with|true=>(og (decide (okI a.2)) (match decide (bK (ab a.2)*bK (ab a.2)=ab a.2)with|true=>some [RV.d tR (hid (ah (bK (ab a.1))),hid (ah (bK (ab a.2)))),RV.d .bool true]|false=>some [RV.d tR ((false,[]),(false,[])),RV.d .bool false]))|false=>some [RV.d tR ((false,[]),(false,[])),RV.d .bool false])
def NZ:Cn 19 [tR]:=cn λ(a:BR)=>lf (okR a) [.d tR (rtB (ag a)),.d .bool (dP (ag a))] λh=>by
 refine aA afX (ZA a) ⟨0,?_⟩;obtain⟨a1,a2⟩:=cJ h;unfold ZA rtB dP;rw[dT h.1,dT h.2.1,a1,a2];simp only[aQ];cases e1:decide (bK (ab a.1)*bK (ab a.1)=ab a.1)
 ·rfl
 ·cases e2:decide (bK (ab a.2)*bK (ab a.2)=ab a.2)
  ·rfl
  ·obtain⟨r1,r2,_⟩:=GB (q:=ag a) (by unfold dP;rw[a1,a2,e1,e2];rfl);simp only[anD,cond_true];unfold am;rw[r1,r2,a1,a2];try rfl
def PD:List En:=[enL Nj,enL acL,enT Cy]
def Rz(x:BI)(_k:KT):OLR:=og (decide (okI x)) (match(vM x)==0 with|true=>(og (decide (okI (hid (fE x))/\okI (hid (fE x)))) (og (decide (okI (hid (ah (ab (hid (fE x))*ab (hid (fE x)))))/\okI x)) (some [RV.d tI (hid (fE x)),RV.d .bool (decide (ab (hid (ah (ab (hid (fE x))*ab (hid (fE x)))))=ab x))])))|false=>some [RV.d tI (hid (fE x)),RV.d .bool false])
def acT:Cn 57 [tI]:=cn λ(x:BI)=>lf (okI x) [.d tI (ah (bK (ab x))),.d .bool (decide (bK (ab x)*bK (ab x)=ab x))] λh=>by
 refine aA PD (Rz x) ⟨0,?_⟩;have hs:=gK h;have hz:szI (bK (ab x))<=500000:=HK hs;have o1:okI (ah (bK (ab x))):=aS (by omega);have o2:okI (ah (bK (ab x)*bK (ab x))):=aS (by have:=cN hz hz;omega);have o3:okI (ah (bK (ab x)*bK (ab x)))/\okI x:=⟨o2,h⟩
 have o4:okI (ah (bK (ab x)))/\okI (ah (bK (ab x))):=⟨o1,o1⟩
 have hng:x.1=true->decide (bK (ab x)*bK (ab x)=ab x)=false:=λe=>ami (by
  have:=(cp h).2.1 e;have hd:ab x= -val x.2:=by rw[bL,e];rfl
  rw[pe (by omega)];omega)
 unfold Rz;simp only[aQ,CC h,dec_enc,dT h,dT o4,dT o3];unfold vM;cases e:x.1
 ·rfl
 ·rw[hng e];rfl
def ad1:List En:=enL acT::PD
def Pa(a:BR)(_k:KT):OLR:=og (decide (okI a.1)) (og (decide (okI a.2)) (match !(decide (bK (ab a.1)*bK (ab a.1)=ab a.1))with|true=>some [RV.d tR ((false,[]),(false,[])),RV.d .bool false]|false=>(match !(decide (bK (ab a.2)*bK (ab a.2)=ab a.2))with|true=>some [RV.d tR ((false,[]),(false,[])),RV.d .bool false]|false=>some [RV.d tR (hid (ah (bK (ab a.1))),hid (ah (bK (ab a.2)))),RV.d .bool true])))
def BH:Cn 23 [tR]:=cn λ(a:BR)=>lf (okR a) [.d tR (rtB (ag a)),.d .bool (dP (ag a))] λh=>by
 refine aA ad1 (Pa a) ⟨0,?_⟩;obtain⟨a1,a2⟩:=cJ h;unfold Pa rtB dP;rw[dT h.1,dT h.2.1,a1,a2];simp only[aQ];cases e1:decide (bK (ab a.1)*bK (ab a.1)=ab a.1)
 ·rfl
 ·cases e2:decide (bK (ab a.2)*bK (ab a.2)=ab a.2)
  ·rfl
  ·obtain⟨r1,r2,_⟩:=GB (q:=ag a) (by unfold dP;rw[a1,a2,e1,e2];rfl);simp only[anD,cond_true];unfold am;rw[r1,r2,a1,a2];try rfl
def OB:dJ:=spN false true [tI,tI] (λx=>decide (eZ x.1 x.2.1)) (λx=>[RV.d tI (hid (ah (ab x.1/ab x.2.1))),RV.d tI (hid (ah (ab x.1%ab x.2.1))),RV.d apE 0])
theorem Rh:SpK 127 OB:=spX λx h=>by simp only[aQ];exact I8 x.1 x.2.1 (amj h)
def aiZ:List En:=[⟨127,OB,Rh⟩]
def Xh(a:BR)(_k:KT):OLR:=og (decide (eZ a.1 a.2)) (some [RV.d tI (hid (ah (ab a.1/ab a.2)))])
def Re:Cn 309 [tR]:=cn λ(a:BR)=>lf (okR a) [.d tI (ah (ag a).floor)] λh=>by
 refine aA aiZ (Xh a) ⟨0,?_⟩;obtain⟨a1,a2⟩:=cJ h;unfold Xh;rw[dT (show eZ a.1 a.2 from⟨h.1,h.2.1,h.2.2.1⟩),Rat.floor_def,a1,a2];simp only[aQ]
def XR:List En:=[enK uz]
def V6:NT:=[((27,6),{keep:=[1,3],hl:=1})]
def CB:Ctx:=CX (ens XR) V6
def wz(x:BI)(s3:Int):Cfg:=⟨27,[.blk 0,.seq 23],[(1,.box 0 0),(3,SI s3)],[.box 26 [SB x.1,.d apD x.2]],0,[]⟩
def aeD(x:BI)(k:KT):OLR:=k 6 (wz x 0)
theorem acb(x:BI):RS CB 27 [.d tI x] (aeD x):=rsX
def uA(x:BI)(s3:Int)(k:KT):OLR:=match decide (s3<(x.2.length:Int))with|true=>(match aH x.2 s3 with|some x1=>(match decide (x1>=1000000000)with|true=>some [RV.d .bool false]|false=>k 6 (wz x (i64.wrap (s3+1))))|none=>none)|false=>(og (decide (aN x.2)) (match((ae (val x.2).toNat).length:Int)==(x.2.length:Int)with|true=>(match !x.1 with|true=>some [RV.d .bool true]|false=>some [RV.d .bool (decide ((x.2.length:Int)>0))])|false=>some [RV.d .bool false]))
theorem zU(x:BI)(s3:Int):RN CB 6 (wz x s3) (uA x s3):=rnX
theorem Kf(x:BI)(h:okI x):∀(j i:Nat),i+j=x.2.length->CB.Runs 6 (wz x (i:Int)) [.d .bool true]:=by
 obtain⟨x0,x1,x2⟩:=cp h;have hlim:=fi h;have hl:=h.2.2;intro j;induction j with
 |zero=>
  intro i hi;refine zU _ _ ⟨0,?_⟩;unfold uA;have hc:ae (val x.2).toNat=x.2:=(pK h.1).symm;rw[aX (by omega),dT hlim,hc,beq_self_eq_true];dsimp only;cases e:x.1
  ·rfl
  ·have:=x1 e;have:x.2≠[]:=λe=>by rw[x2]at e;omega
   have:=am1.2 this;rw[amh (by omega)];rfl
 |succ j ih=>
  intro i hi;have hil:i<x.2.length:=by omega
  obtain⟨q,hq⟩:=ih (i+1) (by omega);refine zU _ _ ⟨q,?_⟩;unfold uA;have hb:=(hlim.1 x.2[i] (ams hil)).2;rw[aK hil,ai,amg hil,aT (by omega)];dsimp only;rw[ami (by omega)];exact hq
def acE:Cn 27 [tI]:=cn λ(x:BI)=>lf (okI x) [.d .bool true] λh=>by
 refine a8 XR (show CB.Res _ _ _ from ?_);obtain⟨q,hq⟩:=Kf x h x.2.length 0 (by omega);exact acb _ ⟨q,hq⟩
def aii:List En:=[enT Cy,enT acE,enT Gv,enL Hk,enL FU]
def Ri(a:BR)(_k:KT):OLR:=og (decide (okI a.1)) (og (decide (okI a.2)) (og (decide (okI a.2)) (match(bV (ab a.2) 0) !=1 with|true=>some [RV.d .bool false]|false=>(og (decide (okI a.1/\okI a.2)) (og (decide (okI (hid (ah ((Int.gcd (ab a.1) (ab a.2):Nat):Int)))/\okI (hid (ah 1)))) (some [RV.d .bool (decide (ab (hid (ah ((Int.gcd (ab a.1) (ab a.2):Nat):Int)))=ab (hid (ah 1))))]))))))
def GT:Cn 10 [tR]:=cn λ(a:BR)=>lf (okR a) [.d .bool true] λh=>by
 refine aA aii (Ri a) ⟨0,?_⟩;obtain⟨h1,h2,h3,h4,_⟩:=h;have o1:okI (ah ((Int.gcd (ab a.1) (ab a.2):Nat):Int)):=by rw[h4];exact iR
 unfold Ri;simp only[aQ];rw[dT h1,dT h2,dT (show okI a.1/\okI a.2 from⟨h1,h2⟩),cq h3,dT (show okI (ah ((Int.gcd (ab a.1) (ab a.2):Nat):Int))/\okI (ah 1) from⟨o1,iR⟩),dec_enc,dec_enc,h4];rfl
def mkR(a b c:Rat):Rt:=bif dP c then(a+b*rtQ c,0,0)else bif decide (b=0)then(a,0,0)else(a,b,c)
def coR(a b c:Rat):Rt:=bif decide (b=0)then(a,0,0)else(a,b,c)
class Nn (c:Rat):Prop where le:0<=c
def T4(x:Rt):Prop:=(x.2.1=0/\x.2.2=0)\/(x.2.1≠0/\0<x.2.2/\dP x.2.2=false)
instance (x:Rt):Decidable (T4 x):=by unfold T4;infer_instance
class Rdd (x:Rt):Prop where
 rd:T4 x
def okT(k:Nat)(x:BO3):Prop:=ok Rt k x/\T4 (dec x)
instance (k:Nat) (x:BO3):Decidable (okT k x):=by unfold okT;infer_instance
theorem iE{k:Nat}{x:BO3}(h:okT k x):∃v:Rt,x=enc v/\Bd v k/\Rdd v:=by
 obtain⟨h1,h2⟩:=h;obtain⟨v,rfl,bv⟩:=aM h1;rw[au]at h2;exact⟨v,rfl,bv,⟨h2⟩⟩
theorem aP{x:Rt}{j k:Nat}[h:Bd x j][r:Rdd x](hj:j<=k)(hk:k<=480000):decide (okT k (enc x))=true:=amh ⟨amj (okd hj hk),by rw[au];exact r.rd⟩
theorem Rdd.nn{x:Rt}(h:Rdd x):0<=x.2.2:=by
 rcases h.rd with h|h<;>grind
instance al4 {x:Rt} [h:Rdd x]:Nn x.2.2:=⟨h.nn⟩
theorem yr:dP 0=true:=by decide+kernel
theorem HQ{c:Rat}(h:0<=c)(hc:dP c=false):0<c:=by
 rcases(by grind:c=0\/0<c)with h|h
 ·rw[h,yr]at hc;cases hc
 ·exact h
instance Ms {a b c:Rat} [h:Nn c]:Rdd (mkR a b c):=by
 refine⟨?_⟩;unfold mkR;cases hc:dP c
 ·simp only[cond_false];by_cases hb:b=0
  ·rw[amh hb];exact .inl ⟨rfl,rfl⟩
  ·rw[ami hb];exact .inr ⟨hb,HQ h.le hc,hc⟩
 ·exact .inl ⟨rfl,rfl⟩
instance alG {a:Rat}:Rdd (a,0,0):=⟨.inl ⟨rfl,rfl⟩⟩
namespace RE
theorem SW{c:Rat}(h:dP c=true):rq c=of (rtQ c):=by
 obtain⟨_,_,e,h0⟩:=GB h;refine Yg _ _ (Sq c) (oz.2 h0) ?_;rw[qD (by rw[<-e];exact am6 h0 h0),<-bO,e]
theorem ef(a c:Rat):v2 a 0 c=of a:=by
 unfold v2;rw[sX,zero_mul,add_zero]
theorem vR_mk(a b c:Rat):vR (mkR a b c)=v2 a b c:=by
 unfold mkR vR;cases hc:dP c
 ·simp only[cond_false];by_cases hb:b=0
  ·rw[amh hb];subst hb;show v2 a 0 0=_;rw[ef,ef]
  ·rw[ami hb];rfl
 ·show v2 (a+b*rtQ c) 0 0=_;rw[ef];unfold v2;rw[SW hc,of_add,bO]
theorem vR_co(a b c:Rat):vR (coR a b c)=v2 a b c:=by
 unfold coR vR;by_cases hb:b=0
 ·rw[amh hb];subst hb;show v2 a 0 0=_;rw[ef,ef]
 ·rw[ami hb];rfl
end RE
theorem TC{z:Int}(h:0<=z):bK z<=z:=by
 obtain⟨g0,g1,g2⟩:=fJ h;rcases amM (bK z) 1 with h'|h'
 ·omega
 ·have:bK z*1<=bK z*bK z:=amo h' g0;omega
theorem Ex(z:Int):szI (bK z)<=szI z:=by
 have h0:=Cg z;rcases amM z 0 with h|h
 ·rw[pe h];exact dm (by omega)
 ·have:=TC h;exact dm (by omega)
instance al2 {c:Rat} {k:Nat} [h:Bd c k]:Bd (rtQ c) k:=by
 have hd:=c.den_pos
 have h1:0<bK (c.den:Int):=by
  obtain⟨g0,g1,g2⟩:=fJ (show(0:Int)<=(c.den:Int) by omega);rcases amM 0 (bK (c.den:Int))with h|h
  ·exact h
  ·rw[show bK (c.den:Int)=0 by omega]at g2;omega
 refine⟨yo (by omega) (amt (Ex _) h.le.1) ?_⟩;rw[apc (by omega)];exact amt (Ex _) h.le.2
instance alc {a b c:Rat} {i j k:Nat} [ha:Bd a i] [hb:Bd b j] [hc:Bd c k]:Bd (mkR a b c) (i+(j+k)+1):=by
 have z:bdR (i+(j+k)+1) 0:=b9 sQ.le (by omega);refine⟨?_⟩;unfold mkR;cases dP c
 ·simp only[cond_false];cases decide (b=0)
  ·exact⟨b9 ha.le (by omega),b9 hb.le (by omega),b9 hc.le (by omega)⟩
  ·exact⟨b9 ha.le (by omega),z,z⟩
 ·exact⟨(inferInstance:Bd (a+b*rtQ c) (i+(j+k)+1)).le,z,z⟩
instance ale {a b c:Rat} {i j k:Nat} [ha:Bd a i] [hb:Bd b j] [hc:Bd c k]:Bd (coR a b c) (mx i (mx j k)):=by
 have h1:=KZ i (mx j k);have h2:=K7 i (mx j k);have h3:=KZ j k;have h4:=K7 j k;have h5:=rE ha.le;have z:bdR (mx i (mx j k)) 0:=b9 sQ.le (by omega);refine⟨?_⟩;unfold coR;cases decide (b=0)
 ·exact⟨b9 ha.le (by omega),b9 hb.le (by omega),b9 hc.le (by omega)⟩
 ·exact⟨b9 ha.le (by omega),z,z⟩
class Ns (c:Rat):Prop where ns:c=0\/(0<c/\dP c=false)
theorem Ns.nn{c:Rat}(h:Ns c):0<=c:=by rcases h.ns with h|h<;>grind
instance al5 {c:Rat} [h:Ns c]:Nn c:=⟨h.nn⟩
def sgR(x:Rt):Int:=gf x.1 x.2.1 x.2.2
def noR(x:Rt):Rat:=x.1*x.1-x.2.1*x.2.1*x.2.2
theorem PF{x:Rt}(h:0<=x.2.2):sgR x=RE.sg (RE.vR x):=RE.sgn2_re h
def iJ(a b c:Rat):Rt:=bif decide (b=0)then(a,0,0)else bif decide (c=0)then(a,0,0)else(a,b,c)
instance alu {x:Rt} {k:Nat} [h:Bd x k]:Bd (noR x) (5*k+1):=(inferInstance:Bd (x.1*x.1-x.2.1*x.2.1*x.2.2) (k+k+(k+k+k)+1)).mono (by omega)
theorem DG{c:Rat}(h:dP c=true):rtB c=am (rtQ c):=by unfold rtB;rw[h];rfl
theorem abb{x:Rt}(h:Rdd x)(hb:x.2.1≠0):noR x≠0:=by
 intro e;rcases h.rd with h|⟨_,h1,h2⟩
 ·exact hb h.1
 ·unfold noR at e;have:x.2.2=x.1/x.2.1*(x.1/x.2.1):=by grind
  rw[this,Jm]at h2;cases h2
theorem WI{x:Rt}(h:Rdd x):sgR x=bif aD x.2.1 0==0 then aD x.1 0 else bif aD x.1 0==aD x.2.1 0 then aD x.1 0 else bif aD x.1 0==0 then aD x.2.1 0 else aD x.1 0*aD (noR x) 0:=by
 unfold sgR gf RE.addS;rcases h.rd with⟨h1,h2⟩|⟨h0,h1,h2⟩
 ·rw[h1,eD];simp
 ·have hb:(aD x.2.1 0==0)=false:=by rw[ao,ami h0]
  rw[dL h1,aoW,hb];unfold noR;rw[yO];rfl
def io:dJ:=spN false true [apE] (λx=>decide (aR x.1)) (λx=>[RV.d tR (hid (am (x.1:Rat)))])
theorem eL:SpK 47 io:=spX λx h=>by simp only[aQ];exact Vv x.1 (amj h)
def nN:dJ:=spN false true [tR,tR] (λx=>decide (okR x.1/\okR x.2.1)) (λx=>[RV.d tR (hAd x.1 x.2.1)])
theorem jn:SpK 260 nN:=spX λx h=>by simp only[aQ];exact HX x.1 x.2.1 (amj h)
def lW:dJ:=spN false true [tR,tR] (λx=>decide (okR x.1/\okR x.2.1)) (λx=>[RV.d tR (hSu x.1 x.2.1)])
theorem gQ:SpK 266 lW:=spX λx h=>by simp only[aQ];exact Vd x.1 x.2.1 (amj h)
def jC:dJ:=spN false true [tR,tR] (λx=>decide (okR x.1/\okR x.2.1)) (λx=>[RV.d tR (hMu x.1 x.2.1)])
theorem fC:SpK 261 jC:=spX λx h=>by simp only[aQ];exact Ua x.1 x.2.1 (amj h)
def fS:dJ:=spN true true [tR] (λx=>decide (okR x.1)) (λx=>[RV.d apE (aD (ag x.1) 0)])
theorem dX:SpK 85 fS:=spX λx h=>JB x.1 (amj h)
def Oe:List En:=[⟨47,io,eL⟩,⟨260,nN,jn⟩,⟨266,lW,gQ⟩,⟨261,jC,fC⟩,⟨85,fS,dX⟩,enL NZ]
def Xi(_k:KT):OLR:=og (decide (aR (0:Int))) (some [RV.d tR (hid (am ((0:Int):Rat)))])
def ajL:Cn 319 []:=cn<|lf True [.d tR (am 0)] λ_=>by
 refine aA Oe (Xi) ⟨0,?_⟩;unfold Xi;rw[dT (show aR 0 by decide)];simp only[aQ];rfl
def Se:List En:=enL ajL::Oe
def Yj(a:BR)(_k:KT):OLR:=some [RV.d tO (a,(hid (am 0),hid (am 0)))]
def E0:Cn 259 [tR]:=cn λ(a:BR)=>lf (okR a) [.d tO (enc ((ag a,0,0):Rt))] λh=>by
 refine aA Se (Yj a) ⟨0,?_⟩;have ha:=h;obtain⟨a,rfl,ba⟩:=fT ha;unfold Yj;simp only[bE,aG];try rfl
def YA(a b c:BR)(_k:KT):OLR:=og (o1 b) (match(aD (ag b) 0)==0 with|true=>some [RV.d tO (a,(b,hid (am 0)))]|false=>some [RV.d tO (a,(b,c))])
def In:Cn 262 [tR,tR,tR]:=cn λ(a b c:BR)=>lf (okR a/\okR b/\okR c) [.d tO (enc (coR (ag a) (ag b) (ag c)))] λh=>by
 refine aA Se (YA a b c) ⟨0,?_⟩;obtain⟨ha,hb,hc⟩:=h;obtain⟨a,rfl,ba⟩:=fT ha;obtain⟨b,rfl,bb⟩:=fT hb;obtain⟨c,rfl,bc⟩:=fT hc;unfold YA;simp only[bE,Nat.reduceLeDiff,ao];unfold coR;by_cases e:b=0
 ·subst e;rw[amh rfl];rfl
 ·rw[ami e];rfl
def ajE:List En:=enL E0::enL In::Se
def Ww(a b c:BR)(_k:KT):OLR:=og (o1 c) (match decide ((aD (ag c) 0)<0)with|true=>some [RV.d tO (((false,[]),(false,[])),(((false,[]),(false,[])),((false,[]),(false,[])))),RV.d apE 7]|false=>(og (o1 c) (match dP (ag c)with|true=>(og (o2 b (hid (rtB (ag c)))) (og (o2 a (hMu b (hid (rtB (ag c))))) (og (o1 (hAd a (hMu b (hid (rtB (ag c)))))) (some [RV.d tO (hid (enc ((ag (hAd a (hMu b (hid (rtB (ag c))))),0,0):Rt))),RV.d apE 0]))))|false=>(og (decide (okR a/\okR b/\okR c)) (some [RV.d tO (hid (enc (coR (ag a) (ag b) (ag c)))),RV.d apE 0])))))
def agz:Cn 193 [tR,tR,tR]:=cn λ(a b c:BR)=>lf (ok Rat 100000 a/\ok Rat 100000 b/\ok Rat 100000 c/\0<=ag c) [.d tO (enc (mkR (ag a) (ag b) (ag c))),.d apE 0] λh=>by
 refine aA ajE (Ww a b c) ⟨0,?_⟩;obtain⟨ha,hb,hc,hc_3⟩:=h;obtain⟨a,rfl,ba⟩:=aM ha;obtain⟨b,rfl,bb⟩:=aM hb;obtain⟨c,rfl,bc⟩:=aM hc;rw[lO,eA]at hc_3;unfold Ww;simp only[bE,aG,Nat.reduceLeDiff,aq,ami (show ¬c<0 by grind)];unfold mkR;cases hq:dP c
 ·have hz:c≠0:=λe=>by rw[e,yr]at hq;cases hq
  simp only[bE];try rfl
 ·rw[DG hq];simp only[bE,aG,Nat.reduceAdd,Nat.reduceLeDiff];try rfl
def Qa:List En:=[enL ru,enL vp,enL yc,enL rK,enT l9,enL BH,enT GT]
def QQ(_k:KT):OLR:=og (decide (aR (0:Int))) (some [RV.d tR (hid (am ((0:Int):Rat)))])
def OC:Cn 280 []:=cn<|lf True [.d tR (am 0)] λ_=>by
 refine aA Qa (QQ) ⟨0,?_⟩;unfold QQ;rw[dT (show aR 0 by decide)];simp only[aQ];rfl
def RX:List En:=enL OC::Qa
def OJ(a:BR)(_k:KT):OLR:=some [RV.d tO (a,(hid (am 0),hid (am 0)))]
def GD:Cn 216 [tR]:=cn λ(a:BR)=>lf (okR a) [.d tO (enc ((ag a,0,0):Rt))] λh=>by
 refine aA RX (OJ a) ⟨0,?_⟩;have ha:=h;obtain⟨a,rfl,ba⟩:=fT ha;unfold OJ;simp only[bE,aG];try rfl
def R7:List En:=enL GD::RX
def RD(a b c:BR)(_k:KT):OLR:=og (o1 b) (match(aD (ag b) 0)==0 with|true=>(og (o1 a) (some [RV.d tO (hid (enc ((ag a,0,0):Rt)))]))|false=>(og (o1 c) (match(aD (ag c) 0)==0 with|true=>(og (o1 a) (some [RV.d tO (hid (enc ((ag a,0,0):Rt)))]))|false=>some [RV.d tO (a,(b,c))])))
def Hg:Cn 276 [tR,tR,tR]:=cn λ(a b c:BR)=>lf (okR a/\okR b/\okR c) [.d tO (enc (iJ (ag a) (ag b) (ag c)))] λh=>by
 refine aA R7 (RD a b c) ⟨0,?_⟩;obtain⟨ha,hb,hc⟩:=h;obtain⟨a,rfl,ba⟩:=fT ha;obtain⟨b,rfl,bb⟩:=fT hb;obtain⟨c,rfl,bc⟩:=fT hc;unfold RD;simp only[bE,aG,Nat.reduceLeDiff,ao];unfold iJ;by_cases e:b=0
 ·rw[amh e];rfl
 ·rw[ami e];by_cases e:c=0
  ·rw[amh e];rfl
  ·rw[ami e];rfl
def aev:List En:=enL Hg::R7
def Q5(a b c:BR)(_k:KT):OLR:=og (o1 c) (match decide ((aD (ag c) 0)<0)with|true=>some [RV.d tO (((false,[]),(false,[])),(((false,[]),(false,[])),((false,[]),(false,[])))),RV.d apE 7]|false=>(og (o1 c) (match dP (ag c)with|true=>(og (o2 b (hid (rtB (ag c)))) (og (o2 a (hMu b (hid (rtB (ag c))))) (og (o1 (hAd a (hMu b (hid (rtB (ag c)))))) (some [RV.d tO (hid (enc ((ag (hAd a (hMu b (hid (rtB (ag c))))),0,0):Rt))),RV.d apE 0]))))|false=>(og (decide (okR a/\okR b/\okR c)) (some [RV.d tO (hid (enc (iJ (ag a) (ag b) (ag c)))),RV.d apE 0])))))
def acR:Cn 210 [tR,tR,tR]:=cn λ(a b c:BR)=>lf (ok Rat 100000 a/\ok Rat 100000 b/\ok Rat 100000 c/\0<=ag c) [.d tO (enc (mkR (ag a) (ag b) (ag c))),.d apE 0] λh=>by
 refine aA aev (Q5 a b c) ⟨0,?_⟩;obtain⟨ha,hb,hc,hc_3⟩:=h;obtain⟨a,rfl,ba⟩:=aM ha;obtain⟨b,rfl,bb⟩:=aM hb;obtain⟨c,rfl,bc⟩:=aM hc;rw[lO,eA]at hc_3;unfold Q5;simp only[bE,aG,Nat.reduceLeDiff,aq,ami (show ¬c<0 by grind)];unfold mkR;cases hq:dP c
 ·have hz:c≠0:=λe=>by rw[e,yr]at hq;cases hq
  simp only[bE,iJ,ami hz];try rfl
 ·rw[DG hq];simp only[bE,aG,Nat.reduceAdd,Nat.reduceLeDiff];try rfl
def Yx(r:BO3)(_k:KT):OLR:=og (o2 r.1 r.1) (og (o2 r.2.1 r.2.1) (og (o2 (hMu r.2.1 r.2.1) r.2.2) (og (o2 (hMu r.1 r.1) (hMu (hMu r.2.1 r.2.1) r.2.2)) (some [RV.d tR (hSu (hMu r.1 r.1) (hMu (hMu r.2.1 r.2.1) r.2.2))]))))
def X2:Cn 363 [tO]:=cn λ(r:BO3)=>lf (ok Rt 15000 r) [.d tR (am (noR (dec r)))] λh=>by
 refine aA Oe (Yx r) ⟨0,?_⟩;have hr:=h;obtain⟨r,rfl,br⟩:=aM hr;unfold Yx;simp only[bE,Nat.reduceAdd,Nat.reduceLeDiff];try rfl
abbrev Iv:=Int×Int
def prI(i:Iv):Prop:= -2305843009213693952<=i.1/\i.1<=i.2/\i.2<=2305843009213693952
instance (i:Iv):Decidable (prI i):=by unfold prI;infer_instance
def iv0:Iv:=(0,0)
theorem fu:prI iv0:=by decide
def oF(lo hi:Int):Iv×Bool:=bif decide (lo< -2305843009213693952)then(iv0,false)else bif decide (hi>2305843009213693952)then(iv0,false)else((lo,hi),true)
theorem Bi{lo hi:Int}(h:lo<=hi):prI (oF lo hi).1:=by
 unfold oF;by_cases h1:lo< -2305843009213693952
 ·rw[amh h1];exact fu
 ·rw[ami h1];by_cases h2:hi>2305843009213693952
  ·rw[amh h2];exact fu
  ·rw[ami h2];exact⟨by show _<=lo;omega,h,by show hi<=_;omega⟩
theorem AZ{lo hi:Int}(h:(oF lo hi).2=true):(oF lo hi).1=(lo,hi):=by
 unfold oF at h ⊢;by_cases h1:lo< -2305843009213693952
 ·rw[amh h1]at h;cases h
 ·rw[ami h1]at h ⊢;by_cases h2:hi>2305843009213693952
  ·rw[amh h2]at h;cases h
  ·rw[ami h2];rfl
def frF(q:Rat):Iv×Bool:=bif decide (aR (q*65536).floor)then bif decide (aR (-(-(q*65536)).floor))then oF (q*65536).floor (-(-(q*65536)).floor)else(iv0,false)else(iv0,false)
def dH(a b:Iv):Iv×Bool:=oF (a.1+b.1) (a.2+b.2)
def mC(a:Iv):Iv:=(-a.2,-a.1)
def scF(x y:Int):(Int×Int)×Bool:=
 bif decide (x.natAbs*y.natAbs>=1208925819614629174706176)then((0,0),false)else bif decide (x.natAbs*y.natAbs/65536>2305843009213693952)then((0,0),false)
 else bif decide (x<0)==decide (y<0)then((((x.natAbs*y.natAbs/65536:Nat):Int),(((x.natAbs*y.natAbs+65535)/65536:Nat):Int)),decide ((x.natAbs*y.natAbs+65535)/65536<=2305843009213693952))
 else((-(((x.natAbs*y.natAbs+65535)/65536:Nat):Int),-((x.natAbs*y.natAbs/65536:Nat):Int)),decide ((x.natAbs*y.natAbs+65535)/65536<=2305843009213693952))
theorem abm{x y:Int}(h:(scF x y).2=true):(scF x y).1.1*65536<=x*y/\x*y<=(scF x y).1.2*65536/\ -2305843009213693952<=(scF x y).1.1/\(scF x y).1.2<=2305843009213693952:=by
 have ep:(((x.natAbs*y.natAbs:Nat)):Int)=(x.natAbs:Int)*(y.natAbs:Int):=anB _ _
 have hs:(decide (x<0)==decide (y<0))=true->x*y=(((x.natAbs*y.natAbs:Nat)):Int):=λe=>by
  rw[ep];by_cases hx:x<0<;>by_cases hy:y<0
  ·rw[show(x.natAbs:Int)= -x by omega,show(y.natAbs:Int)= -y by omega];grind
  ·simp[hx,hy]at e
  ·simp[hx,hy]at e
  ·rw[show(x.natAbs:Int)=x by omega,show(y.natAbs:Int)=y by omega]
 have hd:(decide (x<0)==decide (y<0))=false->x*y= -(((x.natAbs*y.natAbs:Nat)):Int):=λe=>by
  rw[ep];by_cases hx:x<0<;>by_cases hy:y<0
  ·simp[hx,hy]at e
  ·rw[show(x.natAbs:Int)= -x by omega,show(y.natAbs:Int)=y by omega];grind
  ·rw[show(x.natAbs:Int)=x by omega,show(y.natAbs:Int)= -y by omega];grind
  ·simp[hx,hy]at e
 unfold scF at h ⊢;generalize x.natAbs*y.natAbs=p at*
 by_cases h1:p>=1208925819614629174706176
 ·rw[amh h1]at h;cases h
 rw[ami h1]at h ⊢;by_cases h2:p/65536>2305843009213693952
 ·rw[amh h2]at h;cases h
 rw[ami h2]at h ⊢;cases e:(decide (x<0)==decide (y<0))<;>rw[e]at h<;>have h3:=amj h
 ·rw[hd e];show-(((p+65535)/65536:Nat):Int)*65536<=_/\_<= -((p/65536:Nat):Int)*65536/\_<= -(((p+65535)/65536:Nat):Int)/\ -((p/65536:Nat):Int)<=_;omega
 ·rw[hs e];show((p/65536:Nat):Int)*65536<=_/\_<=(((p+65535)/65536:Nat):Int)*65536/\_<=((p/65536:Nat):Int)/\(((p+65535)/65536:Nat):Int)<=_;omega
def gU(s:Iv×Bool)(x y:Int):Iv×Bool:=bif s.2&&(scF x y).2 then((if(scF x y).1.1<s.1.1 then(scF x y).1.1 else s.1.1,if(scF x y).1.2>s.1.2 then(scF x y).1.2 else s.1.2),true)else(iv0,false)
def cE(a b:Iv):Iv×Bool:=gU (gU (gU (gU ((2305843009213693952,-2305843009213693952),true) a.1 b.1) a.1 b.2) a.2 b.1) a.2 b.2
theorem lT{s:Iv×Bool}{x y:Int}(h:(gU s x y).2=true):s.2=true/\(gU s x y).1.1<=s.1.1/\s.1.2<=(gU s x y).1.2/\(gU s x y).1.1*65536<=x*y/\x*y<=(gU s x y).1.2*65536/\((-2305843009213693952<=s.1.1/\s.1.2<=2305843009213693952)-> -2305843009213693952<=(gU s x y).1.1/\(gU s x y).1.2<=2305843009213693952):=by
 unfold gU at h ⊢;cases e:(s.2&&(scF x y).2)<;>rw[e]at h
 ·cases h
 ·obtain⟨e1,e2⟩:=amA.1 e;obtain⟨g1,g2,g3,g4⟩:=abm e2;refine⟨e1,?_⟩;simp only[cond_true];split<;>split<;>refine⟨by omega,by omega,by omega,by omega,λh=>by omega⟩
theorem sI(a b:Iv):prI (cE a b).1:=by
 cases h:(cE a b).2
 ·unfold cE gU at h ⊢;revert h;cases((_:Iv×Bool).2&&(scF a.2 b.2).2)
  ·intro _;exact fu
  ·intro h;cases h
 ·unfold cE at h ⊢;obtain⟨h3,a3,b3,c3,d3,e3⟩:=lT h;obtain⟨h2,a2,b2,c2,d2,e2⟩:=lT h3;obtain⟨h1,a1,b1,c1,d1,e1⟩:=lT h2;obtain⟨h0,a0,b0,c0,d0,e0⟩:=lT h1;have k:=e3 (e2 (e1 (e0 (by decide))));exact⟨k.1,by omega,k.2⟩
theorem UH{a b:Iv}(h:(cE a b).2=true):∀x y,(x=a.1\/x=a.2)->(y=b.1\/y=b.2)->(cE a b).1.1*65536<=x*y/\x*y<=(cE a b).1.2*65536:=by
 unfold cE at h ⊢;obtain⟨h3,a3,b3,c3,d3,e3⟩:=lT h;obtain⟨h2,a2,b2,c2,d2,e2⟩:=lT h3;obtain⟨h1,a1,b1,c1,d1,e1⟩:=lT h2;obtain⟨h0,a0,b0,c0,d0,e0⟩:=lT h1;intro x y hx hy;rcases hx with rfl|rfl<;>rcases hy with rfl|rfl<;>constructor<;>omega
def eg(n:Int):Int:=bK (n*65536)
def sqF(a:Iv):Iv×Bool:=bif decide (a.2<0)then(iv0,false)else oF (eg (if 0>a.1 then 0 else a.1)) (bif decide (eg a.2*eg a.2=a.2*65536)then eg a.2 else eg a.2+1)
def sgF(a:Iv):Int×Bool:=bif decide (a.1>0)then(1,true)else bif decide (a.2<0)then(-1,true)else(0,decide (a.1=0)&&decide (a.2=0))
namespace RE
def inI(i:Iv)(x:RE):Prop:=of (i.1:Rat)<=of 65536*x/\of 65536*x<=of (i.2:Rat)
theorem Wg(a b u x y:RE)(h1:a<=u*x)(h2:b<=u*y):a+b<=u*(x+y):=by grind
theorem UQ(a b u x y:RE)(h1:u*x<=a)(h2:u*y<=b):u*(x+y)<=a+b:=by grind
theorem VB(a u x:RE)(h1:u*x<=a): -a<=u*(-x):=by grind
theorem VF(a u x:RE)(h1:a<=u*x):u*(-x)<= -a:=by grind
theorem VJ(a c U V m:RE):((m-(U*V)))+((a*c-(m)))+((V-(0))*(U-(a)))+((a-(0))*(V-(c)))=0:=by grind
theorem agc(a c U V m:RE)(h1:0<=V)(h2:0<=a)(h3:a<=U)(h4:c<=V)(h5:m<=a*c):m<=U*V:=λhg=>far (aW (aW (aW (bz hg) (aJ h5)) (ct (aJ h1) (aJ h3))) (ct (aJ h2) (aJ h4))) (VJ a c U V m)
theorem VO(a d U V m:RE):((m-(U*V)))+((a*d-(m)))+((V-(0))*(U-(a)))+((0-(a))*(d-(V)))=0:=by grind
theorem ahC(a d U V m:RE)(h1:0<=V)(h2:a<=0)(h3:a<=U)(h4:V<=d)(h5:m<=a*d):m<=U*V:=λhg=>far (aW (aW (aW (bz hg) (aJ h5)) (ct (aJ h1) (aJ h3))) (ct (aJ h2) (aJ h4))) (VO a d U V m)
theorem UK(b c U V m:RE):((m-(U*V)))+((b*c-(m)))+((0-(V))*(b-(U)))+((b-(0))*(V-(c)))=0:=by grind
theorem afR(b c U V m:RE)(h1:V<=0)(h2:0<=b)(h3:U<=b)(h4:c<=V)(h5:m<=b*c):m<=U*V:=λhg=>far (aW (aW (aW (bz hg) (aJ h5)) (ct (aJ h1) (aJ h3))) (ct (aJ h2) (aJ h4))) (UK b c U V m)
theorem Wi(b d U V m:RE):((m-(U*V)))+((b*d-(m)))+((0-(V))*(b-(U)))+((0-(b))*(d-(V)))=0:=by grind
theorem ahj(b d U V m:RE)(h1:V<=0)(h2:b<=0)(h3:U<=b)(h4:V<=d)(h5:m<=b*d):m<=U*V:=λhg=>far (aW (aW (aW (bz hg) (aJ h5)) (ct (aJ h1) (aJ h3))) (ct (aJ h2) (aJ h4))) (Wi b d U V m)
theorem V0(b d U V m:RE):((U*V-(m)))+((m-(b*d)))+((V-(0))*(b-(U)))+((b-(0))*(d-(V)))=0:=by grind
theorem akv(b d U V m:RE)(h1:0<=V)(h2:0<=b)(h3:U<=b)(h4:V<=d)(h5:b*d<=m):U*V<=m:=λhg=>far (aW (aW (aW (bz hg) (aJ h5)) (ct (aJ h1) (aJ h3))) (ct (aJ h2) (aJ h4))) (V0 b d U V m)
theorem Ve(b c U V m:RE):((U*V-(m)))+((m-(b*c)))+((V-(0))*(b-(U)))+((0-(b))*(V-(c)))=0:=by grind
theorem ajT(b c U V m:RE)(h1:0<=V)(h2:b<=0)(h3:U<=b)(h4:c<=V)(h5:b*c<=m):U*V<=m:=λhg=>far (aW (aW (aW (bz hg) (aJ h5)) (ct (aJ h1) (aJ h3))) (ct (aJ h2) (aJ h4))) (Ve b c U V m)
theorem UY(a d U V m:RE):((U*V-(m)))+((m-(a*d)))+((0-(V))*(U-(a)))+((a-(0))*(d-(V)))=0:=by grind
theorem agY(a d U V m:RE)(h1:V<=0)(h2:0<=a)(h3:a<=U)(h4:V<=d)(h5:a*d<=m):U*V<=m:=λhg=>far (aW (aW (aW (bz hg) (aJ h5)) (ct (aJ h1) (aJ h3))) (ct (aJ h2) (aJ h4))) (UY a d U V m)
theorem TN(a c U V m:RE):((U*V-(m)))+((m-(a*c)))+((0-(V))*(U-(a)))+((0-(a))*(V-(c)))=0:=by grind
theorem akh(a c U V m:RE)(h1:V<=0)(h2:a<=0)(h3:a<=U)(h4:c<=V)(h5:a*c<=m):U*V<=m:=λhg=>far (aW (aW (aW (bz hg) (aJ h5)) (ct (aJ h1) (aJ h3))) (ct (aJ h2) (aJ h4))) (TN a c U V m)
theorem aeL(u x y:RE):u*x*(u*y)=u*(x*y)*u:=by grind
theorem UV(a b u:RE):((u-(0))*(a-(b)))+((b*u-(a*u)))=0:=by grind
theorem XG(a b u:RE)(h1:0<u)(h2:a*u<=b*u):a<=b:=λhg=>far (aW (mul_pos (bz h1) (bz hg)) (aJ h2)) (UV a b u)
theorem ow:0<of 65536:=kS (by decide+kernel)
end RE
end Go.Proofs.YtmnlppieefomnaaGreatDoor
end
