/- The law DistancePieces returns true. -/
import Derived.Test.YtlahabkjhgkkjaaGreatY18
import Derived.Test.YtlahabkjhgkkjaaGreatYNeA
import Derived.Test.YtlahabkjhgkkjaaGreatYPiA
noncomputable section
namespace Go.Proofs.YtlahabkjhgkkjaaGreat
open Go.RowKit Go.IntKind
def fi:aO:=spN false true [y3Y] (fun x=>decide (gJ x.1)) (fun x=>[RV.d tV (hid (enc (cE x.1)))])
theorem fE:SpK 13 fi:=spX fun x h=>by simp only[ak];exact nG x.1 (au0 h)
def ae8:Env:=[(11,tb),(12,qr),(26,AS),(27,HX),(28,A5),(13,fi),(29,uW),(16,tM),(15,wX)]
theorem Ym:EnvAll Tryz.prog ae8:=⟨mY,oS,v9,Ds,wG,fE,tD,mR,rH,trivial⟩
def amc:NT:=[((6,26),{keep:=[5,7,9,29,30,31],own:=[(9,41,tP)],hl:=5})]
def U3:Ctx:=CX ae8 amc
def uO(x:Pce)(y:Dr)(s:Int×Int×Int)(s31:Int)(r4:List BP):Cfg:=⟨6,[.blk 0,.seq 41],[(5,.box 2 0),(7,.box 3 0),(9,.own 4),(29,.d (.sl tCU) (ofL y)),(30,SI ((ofL y).length:Int)),(31,SI s31)],[.box 26 (Ty.split ko x),.box 24 (Ty.split tDr y),.box 29 [.d (.int .i16) s.1,.d (.int .i16) s.2.1,.d (.int .u8) s.2.2],.box 43 (Ty.split tCU (hid (dg x))),.row 41 tP r4],0,[]⟩
def af9(x:Pce)(y:Dr)(s:Int×Int×Int)(k:KT):Option (List RV):=match decide (pZ x)with|true=>(match !(o9 x)with|true=>some [RV.d .bool true]|false=>(match decide (pW y)with|true=>k 26 (uO x y s 0 ([]))|false=>none))|false=>none
theorem asn(x:Pce)(y:Dr)(s:Int×Int×Int):RS U3 6 [.d ko x,.d tDr y,.d y3Y s] (af9 x y s):=rsX
def rW(x:Pce)(y:Dr)(s:Int×Int×Int)(s31:Int)(r4:List BP)(k:KT):Option (List RV):=match decide (s31<((ofL y).length:Int))with|true=>(match bG (ofL y) s31 with|some x1=>(match decide (rD (hid (dg x)) x1)with|true=>(match decide ((r4.length+(ma (hid (dg x)) x1).length)*320≤140737488355328∧r4.length+(ma (hid (dg x)) x1).length≤140737488355328)with|true=>k 26 (uO x y s (i64.wrap (s31+1)) (r4++(ma (hid (dg x)) x1)))|false=>none)|false=>none)|none=>none)|false=>(match decide (ym (hid (dg x)) r4)with|true=>(match 0 !=0 with|true=>some [RV.d .bool true]|false=>(match((fj (hid (dg x)) r4).length:Int)==0 with|true=>some [RV.d .bool true]|false=>(match decide (gJ s)with|true=>(match decide (sJ (fj (hid (dg x)) r4) (hid (enc (cE s))))with|true=>(match(EQ (fj (hid (dg x)) r4))==0 with|true=>(match decide (okC 500 (hid (dg x))∧ok (Rat×Rat) 200 (hid (enc (cE s))))with|true=>(match decide (okT 15000 (o0 (fj (hid (dg x)) r4) (dec (hid (enc (cE s)))))∧okT 15000 (hid (enc (cd (dC (hid (dg x))) (dec (hid (enc (cE s))))))))with|true=>some [RV.d .bool (bI (dec (o0 (fj (hid (dg x)) r4) (dec (hid (enc (cE s)))))) (dec (hid (enc (cd (dC (hid (dg x))) (dec (hid (enc (cE s))))))))==0)]|false=>none)|false=>none)|false=>some [RV.d .bool false])|false=>none)|false=>none)))|false=>none)
theorem zV(x:Pce)(y:Dr)(s:Int×Int×Int)(s31:Int)(r4:List BP):RN U3 26 (uO x y s s31 r4) (rW x y s s31 r4):=rnX
theorem ajF(x:Pce)(y:Dr)(s:Int×Int×Int)(hs:gJ s)(c:BCU)(hc:hid (dg x)=c)(g:gdN c)(B:List BCU)(hB:ofL y=B)(gB:∀d∈B,gdN d)(lB:B.length≤2):∀(j i:Nat),i+j=B.length→∀r:List BP,r.length≤4*i→(∀p∈r,okP 500 p∧onR (dC c) (dec p)=true)→U3.Runs 26 (uO x y s (i:Int) r) [.d .bool true]:=by
 intro j
 induction j with
 |zero=>
  intro i hi r hr ho
  refine zV _ _ _ _ _ ⟨0,?_⟩
  have hsp:=Kx g (l:=r) (by omega) ho
  obtain⟨l1,l2⟩:=Dm g r
  have hg:=CM g ho
  have bv6:=CU hs
  have bv:Bd (cE s) 200:=bv6.mono (by decide)
  have v1:ok (Rat×Rat) 200 (enc (cE s)):=mr
  obtain⟨⟨p,hp,ep⟩,hd⟩:=aeq g ho (cE s)
  have h2:fine (cd (dC c) (cE s)):=dO g.1.1
  unfold rW
  rw[hc,hB,cC (by omega)]
  dsimp only
  rw[dT hsp]
  generalize fj c r=L at l1 l2 hg hp hd ⊢
  cases L with
  |nil=>exact absurd l1 (by decide)
  |cons d q=>
   have hk:∀e∈d::q,okC 500 e:=fun e he=>(hg e he).1.1
   have f:=Cu (v:=cE s) hk
   have p1:sJ (d::q) (enc (cE s)):=⟨by omega,hk,v1⟩
   have e:o0 (d::q) (cE s)=enc (Ga (cE s) d q):=rfl
   have e2:(((d::q).length:Int)==0)=false:=by simp;omega
   have e4:(EQ (d::q)==0)=true:=rfl
   have e5:((0:Int) !=0)=false:=rfl
   have ev:RE.vR (Ga (cE s) d q)=RE.vR (cd (dC c) (cE s)):=by
    refine RE.le_antisymm ?_ ?_
    ·rw[←ep]
     exact RE.lea_le hk p hp
    ·obtain⟨d',hd',ed⟩:=ac1 (cE s) d q
     rw[ed]
     exact hd d' hd'
   have e1:=RE.cmpT_same f.2 h2.2 ev
   simp only[ak,am,dT hs,dT p1,e,e1,e2,e4,dT (show okC 500 c∧ok (Rat×Rat) 200 (enc (cE s)) from⟨g.1.1,v1⟩),dT (show okT 15000 _∧okT 15000 _ from⟨f.t,h2.t⟩)]
   rfl
 |succ j ih=>
  intro i hi r hr ho
  have hil:i<B.length:=by omega
  have hm:rD c B[i]:=⟨g.1,(gB _ (avF hil)).1⟩
  obtain⟨m1,m2⟩:=Cp hm
  obtain⟨n,hn⟩:=ih (i+1) (by omega) (r++ma c B[i]) (by rw[avT];omega) (fun p hp=>by
   rcases avI.1 hp with h|h
   ·exact ho p h
   ·exact⟨(m2 p h).1,(m2 p h).2.1⟩)
  refine zV _ _ _ _ _ ⟨n,?_⟩
  unfold rW
  rw[hc,hB,bS hil,aD,au2 hil]
  dsimp only
  rw[dT hm,qK (by omega) (by omega),cD (by omega)]
  exact hn
theorem acn(x:Pce)(y:Dr)(s:Int×Int×Int)(hx:Ty.ok ko x)(hy:Ty.ok tDr y)(hs:Ty.ok y3Y s):Con Tryz.prog 6 [.d ko x,.d tDr y,.d y3Y s] [.d .bool true]:=by
 have h1:=CK hx
 have h2:=K7 hy
 refine aR Ym (asn _ _ _ ?_)
 unfold af9
 rw[dT h1,dT h2]
 cases ho:o9 x
 ·exact⟨0,rfl⟩
 ·exact ajF x y s (FF hs) (dg x) (ak _) (J9 h1 ho) _ rfl (qt h2) (BY y) _ 0 (avD _) [] (avb _) (fun p hp=>by cases hp)
end Go.Proofs.YtlahabkjhgkkjaaGreat
end
