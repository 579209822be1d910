/- The distance of any point: the reference's Point, Move; points of places. -/
import Derived.Test.YtlahabkjhgkkjaaGreatW16
import Derived.Test.YtlahabkjhgkkjaaGreatW18
import Derived.Test.YtlahabkjhgkkjaaGreatW17
import Derived.Test.YtlahabkjhgkkjaaGreatW6
import Derived.Stop.Joined
noncomputable section
namespace Go.Proofs.YtlahabkjhgkkjaaGreat
open Go.RowKit Go.IntKind
def rwX(p:Pt)(v:Rat×Rat):Rt:=(p.1-v.1,p.2.1,p.2.2.2.2)
def rwY(p:Pt)(v:Rat×Rat):Rt:=(p.2.2.1-v.2,p.2.2.2.1,p.2.2.2.2)
def tiQ(x y:Rt):Qd:=(x.1*y.1,x.2.1*y.1,x.1*y.2.1,x.2.1*y.2.1,x.2.2,y.2.2)
def plQ(p q:Qd):Qd:=(p.1+q.1,p.2.1+q.2.1,p.2.2.1+q.2.2.1,p.2.2.2.1+q.2.2.2.1,p.2.2.2.2.1,p.2.2.2.2.2)
def miQ(p:Qd):Qd:=(-p.1,-p.2.1,-p.2.2.1,-p.2.2.2.1,p.2.2.2.2.1,p.2.2.2.2.2)
def alR(d:Rat×Rat)(p:Pt):Rt:=mkR (d.1*p.1+d.2*p.2.2.1) (d.1*p.2.1+d.2*p.2.2.2.1) p.2.2.2.2
abbrev Plc:=Int×Int×Int×Int×Int×Int
abbrev Dy:Ty:=.st (.pair (.int .i16) (.pair (.int .i16) (.pair (.int .i16) (.pair (.int .i16) (.pair (.int .u16) (.int .u8))))))
def Bz(n:Int):Prop:= -32768≤n∧n≤32767
instance (n:Int):Decidable (Bz n):=by unfold Bz;infer_instance
def Es(x:Plc):Prop:=Bz x.1∧Bz x.2.1∧Bz x.2.2.1∧Bz x.2.2.2.1∧(0≤x.2.2.2.2.1∧x.2.2.2.2.1≤65535)∧u8P x.2.2.2.2.2
instance (x:Plc):Decidable (Es x):=by unfold Es;infer_instance
def WM(a b c d:Int):Rt:=mkR (Rat.divInt a (d+1)) (Rat.divInt b (d+1)) (c:Rat)
def nT(x:Plc):Pt:=mkP (WM x.1 x.2.1 x.2.2.2.2.1 x.2.2.2.2.2) (WM x.2.2.1 x.2.2.2.1 x.2.2.2.2.1 x.2.2.2.2.2)
def mvB(c:BCU)(v:Rat×Rat):BCU:=(c.1,bif c.1 then c.2.1 else enc (RE.mvLn (dec c.2.1) v),bif c.1 then enc (RE.mvCi (dec c.2.2.1) v)else c.2.2.1,c.2.2.2.1,enc (trP (dec c.2.2.2.2.1) v),enc (trP (dec c.2.2.2.2.2) v))
namespace RE
theorem X2(a b c d m n:RE):a*c+b*c*m+a*d*n+b*d*(m*n)=(a+b*m)*(c+d*n):=by
 induction a using aqq
 induction b using aqq
 induction c using aqq
 induction d using aqq
 induction m using aqq
 induction n using aqq
 exact snd fun n=>by
  simp only[RL.add,RL.mul]
  grind
theorem aag(A B C D E F G H m n:RE):A+E+(B+F)*m+(C+G)*n+(D+H)*(m*n)=A+B*m+C*n+D*(m*n)+(E+F*m+G*n+H*(m*n)):=by
 induction A using aqq
 induction B using aqq
 induction C using aqq
 induction D using aqq
 induction E using aqq
 induction F using aqq
 induction G using aqq
 induction H using aqq
 induction m using aqq
 induction n using aqq
 exact snd fun n=>by
  simp only[RL.add,RL.mul]
  grind
theorem Zu(A B C D m n:RE): -A+ -B*m+ -C*n+ -D*(m*n)= -(A+B*m+C*n+D*(m*n)):=by
 induction A using aqq
 induction B using aqq
 induction C using aqq
 induction D using aqq
 induction m using aqq
 induction n using aqq
 exact snd fun n=>by
  simp only[RL.add,RL.mul,RL.neg]
  grind
theorem aaV(x y:Rt):vq (tiQ x y)=vR x*vR y:=by
 unfold vq vQ tiQ vR v2
 dsimp only
 simp only[cE]
 exact X2 _ _ _ _ _ _
theorem anr(p q:Qd)(h:q.2.2.2.2=p.2.2.2.2):vq (plQ p q)=vq p+vq q:=by
 unfold vq vQ plQ
 dsimp only
 rw[h]
 simp only[of_add]
 exact aag _ _ _ _ _ _ _ _ _ _
theorem an9(p:Qd):vq (miQ p)= -vq p:=by
 unfold vq vQ miQ
 dsimp only
 simp only[of_neg]
 exact Zu _ _ _ _ _ _
theorem QJ(p:Pt)(v:Rat×Rat):vR (rwX p v)=(sbE v (pR p)).1:=by
 unfold rwX sbE pR pX vR v2
 dsimp only
 rw[of_sub,zR]
theorem Sa(p:Pt)(v:Rat×Rat):vR (rwY p v)=(sbE v (pR p)).2:=by
 unfold rwY sbE pR pY vR v2
 dsimp only
 rw[of_sub,zR]
def crR(v:Rat×Rat)(p q:Pt):Qd:=plQ (tiQ (rwX p v) (rwY q v)) (miQ (tiQ (rwY p v) (rwX q v)))
theorem crR_re(v:Rat×Rat){p q:Pt}[hp:Rpd p][hq:Rpd q]:sgQ (crR v p q)=turS v (pR p) (pR q):=by
 rw[DK (q:=crR v p q) (show 0≤p.2.2.2.2 from hp.nn) (show 0≤q.2.2.2.2 from hq.nn)]
 unfold crR
 rw[anr (tiQ (rwX p v) (rwY q v)) (miQ (tiQ (rwY p v) (rwX q v))) rfl,an9,aaV,aaV,QJ,QJ,Sa,Sa]
 rfl
end RE
instance apq {p:Pt} {v:Rat×Rat} {j k:Nat} [h:Bd p j] [h':Bd v k]:Bd (rwX p v) (j+k+1):=by
 have i:Bd ((p.1-v.1,p.2.1,p.2.2.2.2):Rt) _:=inferInstance
 exact i.mono (cH (by omega) (cH (by omega) (by omega)))
instance apB {p:Pt} {v:Rat×Rat} {j k:Nat} [h:Bd p j] [h':Bd v k]:Bd (rwY p v) (j+k+1):=by
 have i:Bd ((p.2.2.1-v.2,p.2.2.2.1,p.2.2.2.2):Rt) _:=inferInstance
 exact i.mono (cH (by omega) (cH (by omega) (by omega)))
instance apA {x y:Rt} {i j:Nat} [h:Bd x i] [h':Bd y j]:Bd (tiQ x y) (i+j):=by
 have t:Bd ((x.1*y.1,x.2.1*y.1,x.1*y.2.1,x.2.1*y.2.1,x.2.2,y.2.2):Qd) _:=inferInstance
 exact t.mono (cH (by omega) (cH (by omega) (cH (by omega) (cH (by omega) (cH (by omega) (by omega))))))
instance apN {p q:Qd} {i j:Nat} [h:Bd p i] [h':Bd q j]:Bd (plQ p q) (i+j+1):=by
 have t:Bd ((p.1+q.1,p.2.1+q.2.1,p.2.2.1+q.2.2.1,p.2.2.2.1+q.2.2.2.1,p.2.2.2.2.1,p.2.2.2.2.2):Qd) _:=inferInstance
 exact t.mono (cH (by omega) (cH (by omega) (cH (by omega) (cH (by omega) (cH (by omega) (by omega))))))
instance apw {p:Qd} {i:Nat} [h:Bd p i]:Bd (miQ p) i:=by
 have t:Bd ((-p.1,-p.2.1,-p.2.2.1,-p.2.2.2.1,p.2.2.2.2.1,p.2.2.2.2.2):Qd) _:=inferInstance
 exact t.mono (cH (by omega) (cH (by omega) (cH (by omega) (cH (by omega) (cH (by omega) (by omega))))))
namespace RE
theorem apV(a b c:Int):(match decide (a>0)with|true=>(match decide (b≥0)with|true=>some [RV.d .bool (decide (c≥0))]|false=>some [RV.d .bool false])|false=>(match a==0 with|true=>(match decide (b≥0)with|true=>some [RV.d .bool (decide (c≥0))]|false=>some [RV.d .bool false])|false=>(match decide (-c>0)with|true=>some [RV.d .bool (!(decide (-b>0)))]|false=>some [RV.d .bool (!false)])))=some [RV.d .bool (Kq a b c)]:=by
 have h1:decide (-c>0)=!decide (0≤c):=by rw[←decide_not];exact aq6.2 (by omega)
 have h2:decide (-b>0)=!decide (0≤b):=by rw[←decide_not];exact aq6.2 (by omega)
 have h3:decide (c<0)=!decide (0≤c):=by rw[←decide_not];exact aq6.2 (by omega)
 have h4:decide (b<0)=!decide (0≤b):=by rw[←decide_not];exact aq6.2 (by omega)
 have h5:decide (0≤a)=(decide (a>0)||(a==0)):=by
  by_cases g:0≤a
  ·rw[aqs g]
   by_cases k:a=0
   ·rw[k];rfl
   ·rw[aqs (show a>0 by omega)];rfl
  ·rw[aqu g,aqu (show ¬a>0 by omega),as7.2 (show a≠0 by omega)];rfl
 unfold Kq
 simp only[h1,h2,h3,h4,h5,ge_iff_le]
 cases decide (a>0)<;>cases a==0<;>cases decide (0≤b)<;>cases decide (0≤c)<;>rfl
end RE
def qC:Env:=[(78,fo),(124,i7),(50,gA),(132,gn),(107,jb),(127,gW),(161,gY),(52,rV),(49,oS),(120,Aw),(209,AE),(20,kT),(109,sE),(45,pK),(54,sB),(136,zW),(122,sh),(140,sR),(141,pM),(121,AC),(59,Hw),(119,mo),(85,oA),(207,zj),(60,yE),(144,zY),(61,za)]
theorem jD:EnvAll Tryz.prog qC:=⟨dR,fZ,eP,eJ,fY,fG,fA,qt,mi,xZ,xl,ic,qn,mO,qO,yg,ql,rE,mt,xg,IY,jF,mM,xm,vO,uA,u5,trivial⟩
def am2:Ctx:=CX qC []
def abQ(p:BP)(v:BV)(_k:KT):Option (List RV):=cg (match decide (okR p.1∧okR v.1)with|true=>cg (match decide (okR p.2.2.1∧okR v.2)with|true=>dup (.b (.b .l .l) (.b (.b .l .l) (.b .l .l))) (some [RV.d tO (hid (ag (ab p.1-ab v.1)),(p.2.1,p.2.2.2.2)),RV.d tO (hid (ag (ab p.2.2.1-ab v.2)),p.2.2.2)])|false=>none) (dup (.b .l .l) (cg (match decide (okR p.2.2.1∧okR v.2)with|true=>dup (.b .l .l) (some [RV.d tO (hid (ag (ab p.1-ab v.1)),(p.2.1,p.2.2.2.2)),RV.d tO (hid (ag (ab p.2.2.1-ab v.2)),p.2.2.2)])|false=>none) (match decide (okR p.2.2.1∧okR v.2)with|true=>some [RV.d tO (hid (ag (ab p.1-ab v.1)),(p.2.1,p.2.2.2.2)),RV.d tO (hid (ag (ab p.2.2.1-ab v.2)),p.2.2.2)]|false=>none)))|false=>none) (dup (.b .l .l) (cg (match decide (okR p.1∧okR v.1)with|true=>cg (match decide (okR p.2.2.1∧okR v.2)with|true=>dup (.b .l .l) (some [RV.d tO (hid (ag (ab p.1-ab v.1)),(p.2.1,p.2.2.2.2)),RV.d tO (hid (ag (ab p.2.2.1-ab v.2)),p.2.2.2)])|false=>none) (match decide (okR p.2.2.1∧okR v.2)with|true=>some [RV.d tO (hid (ag (ab p.1-ab v.1)),(p.2.1,p.2.2.2.2)),RV.d tO (hid (ag (ab p.2.2.1-ab v.2)),p.2.2.2)]|false=>none)|false=>none) (match decide (okR p.1∧okR v.1)with|true=>(match decide (okR p.2.2.1∧okR v.2)with|true=>some [RV.d tO (hid (ag (ab p.1-ab v.1)),(p.2.1,p.2.2.2.2)),RV.d tO (hid (ag (ab p.2.2.1-ab v.2)),p.2.2.2)]|false=>none)|false=>none)))
theorem akI(p:BP)(v:BV):RS am2 203 [.d tP p,.d tV v] (abQ p v):=rsX
theorem ZJ(p:BP)(v:BV)(h:okP 580 p∧ok (Rat×Rat) 400 v):Con Tryz.prog 203 [.d tP p,.d tV v] [.d tO (enc (rwX (dec p) (dec v))),.d tO (enc (rwY (dec p) (dec v)))]:=by
 refine aN jD (akI _ _ ⟨0,?_⟩)
 obtain⟨hp,hv⟩:=h
 obtain⟨p,rfl,bp,rp⟩:=bG hp
 obtain⟨v,rfl,bv⟩:=aQ hv
 unfold abQ
 simp only[ao,aK,aj,ak,aD,aE,aA,av,aT,aqv,aqw,Nat.reduceLeDiff]
 try rfl
def akU:Ctx:=CX qC []
def acd(x y:BO3)(_k:KT):Option (List RV):=match decide (okR x.1∧okR y.1)with|true=>(match decide (okR x.2.1∧okR y.1)with|true=>(match decide (okR x.1∧okR y.2.1)with|true=>(match decide (okR x.2.1∧okR y.2.1)with|true=>some [RV.d tQ (hid (ag (ab x.1*ab y.1)),(hid (ag (ab x.2.1*ab y.1)),(hid (ag (ab x.1*ab y.2.1)),(hid (ag (ab x.2.1*ab y.2.1)),(x.2.2,y.2.2)))))]|false=>none)|false=>none)|false=>none)|false=>none
theorem anM(x y:BO3):RS akU 205 [.d tO x,.d tO y] (acd x y):=rsX
theorem WI(x y:BO3)(h:ok Rt 3000 x∧ok Rt 3000 y):Con Tryz.prog 205 [.d tO x,.d tO y] [.d tQ (enc (tiQ (dec x) (dec y)))]:=by
 refine aN jD (anM _ _ ⟨0,?_⟩)
 obtain⟨hx,hy⟩:=h
 obtain⟨x,rfl,bx⟩:=aQ hx
 obtain⟨y,rfl,b_y⟩:=aQ hy
 unfold acd
 simp only[aj,ak,aD,aE,aA,av,aT,aqv,aqw,Nat.reduceLeDiff]
 try rfl
def amq:Ctx:=CX qC []
def abj(p q:BQ)(_k:KT):Option (List RV):=match decide (okR p.1∧okR q.1)with|true=>(match decide (okR p.2.1∧okR q.2.1)with|true=>(match decide (okR p.2.2.1∧okR q.2.2.1)with|true=>(match decide (okR p.2.2.2.1∧okR q.2.2.2.1)with|true=>some [RV.d tQ (hid (ag (ab p.1+ab q.1)),(hid (ag (ab p.2.1+ab q.2.1)),(hid (ag (ab p.2.2.1+ab q.2.2.1)),(hid (ag (ab p.2.2.2.1+ab q.2.2.2.1)),p.2.2.2.2))))]|false=>none)|false=>none)|false=>none)|false=>none
theorem alh(p q:BQ):RS amq 204 [.d tQ p,.d tQ q] (abj p q):=rsX
theorem Xl(p q:BQ)(h:ok Qd 14000 p∧ok Qd 14000 q):Con Tryz.prog 204 [.d tQ p,.d tQ q] [.d tQ (enc (plQ (dec p) (dec q)))]:=by
 refine aN jD (alh _ _ ⟨0,?_⟩)
 obtain⟨hp,hq⟩:=h
 obtain⟨p,rfl,bp⟩:=aQ hp
 obtain⟨q,rfl,bq⟩:=aQ hq
 unfold abj
 simp only[aj,ak,aD,aE,aA,av,aT,aqv,aqw,Nat.reduceLeDiff]
 try rfl
def ajt:Ctx:=CX qC []
def acK(p:BQ)(_k:KT):Option (List RV):=match decide (okR p.1)with|true=>(match decide (okR p.2.1)with|true=>(match decide (okR p.2.2.1)with|true=>(match decide (okR p.2.2.2.1)with|true=>some [RV.d tQ (hid (ag (-ab p.1)),(hid (ag (-ab p.2.1)),(hid (ag (-ab p.2.2.1)),(hid (ag (-ab p.2.2.2.1)),p.2.2.2.2))))]|false=>none)|false=>none)|false=>none)|false=>none
theorem aiM(p:BQ):RS ajt 206 [.d tQ p] (acK p):=rsX
theorem XH(p:BQ)(h:ok Qd 30000 p):Con Tryz.prog 206 [.d tQ p] [.d tQ (enc (miQ (dec p)))]:=by
 refine aN jD (aiM _ ⟨0,?_⟩)
 have hp:=h
 obtain⟨p,rfl,bp⟩:=aQ hp
 unfold acK
 simp only[aj,ak,aD,aE,aA,av,aT,Nat.reduceLeDiff]
 try rfl
def MJ:aM:=spN false true [tP,tV] (fun x=>decide (okP 580 x.1∧ok (Rat×Rat) 400 x.2.1)) (fun x=>[RV.d tO (hid (enc (rwX (dec x.1) (dec x.2.1)))),RV.d tO (hid (enc (rwY (dec x.1) (dec x.2.1))))])
theorem Vk:SpK 203 MJ:=spX fun x h=>by simp only[aj];exact ZJ x.1 x.2.1 (aqr h)
def Pi:aM:=spN false true [tO,tO] (fun x=>decide (ok Rt 3000 x.1∧ok Rt 3000 x.2.1)) (fun x=>[RV.d tQ (hid (enc (tiQ (dec x.1) (dec x.2.1))))])
theorem KZ:SpK 205 Pi:=spX fun x h=>by simp only[aj];exact WI x.1 x.2.1 (aqr h)
def PF:aM:=spN false true [tQ,tQ] (fun x=>decide (ok Qd 14000 x.1∧ok Qd 14000 x.2.1)) (fun x=>[RV.d tQ (hid (enc (plQ (dec x.1) (dec x.2.1))))])
theorem Qr:SpK 204 PF:=spX fun x h=>by simp only[aj];exact Xl x.1 x.2.1 (aqr h)
def Qk:aM:=spN false true [tQ] (fun x=>decide (ok Qd 30000 x.1)) (fun x=>[RV.d tQ (hid (enc (miQ (dec x.1))))])
theorem Ol:SpK 206 Qk:=spX fun x h=>by simp only[aj];exact XH x.1 (aqr h)
def nZ:Env:=(203,MJ)::(205,Pi)::(204,PF)::(206,Qk)::qC
theorem im:EnvAll Tryz.prog nZ:=⟨Vk,KZ,Qr,Ol,jD⟩
def aiY:Ctx:=CX nZ []
def acW(v:BV)(p q:BP)(_k:KT):Option (List RV):=match decide (okP 580 p∧ok (Rat×Rat) 400 v)with|true=>(match decide (okP 580 q∧ok (Rat×Rat) 400 v)with|true=>(match decide (ok Rt 3000 (hid (enc (rwX (dec p) (dec v))))∧ok Rt 3000 (hid (enc (rwY (dec q) (dec v)))))with|true=>(match decide (ok Rt 3000 (hid (enc (rwY (dec p) (dec v))))∧ok Rt 3000 (hid (enc (rwX (dec q) (dec v)))))with|true=>(match decide (ok Qd 30000 (hid (enc (tiQ (dec (hid (enc (rwY (dec p) (dec v))))) (dec (hid (enc (rwX (dec q) (dec v)))))))))with|true=>(match decide (ok Qd 14000 (hid (enc (tiQ (dec (hid (enc (rwX (dec p) (dec v))))) (dec (hid (enc (rwY (dec q) (dec v))))))))∧ok Qd 14000 (hid (enc (miQ (dec (hid (enc (tiQ (dec (hid (enc (rwY (dec p) (dec v))))) (dec (hid (enc (rwX (dec q) (dec v)))))))))))))with|true=>(match decide (okQ (hid (enc (plQ (dec (hid (enc (tiQ (dec (hid (enc (rwX (dec p) (dec v))))) (dec (hid (enc (rwY (dec q) (dec v))))))))) (dec (hid (enc (miQ (dec (hid (enc (tiQ (dec (hid (enc (rwY (dec p) (dec v))))) (dec (hid (enc (rwX (dec q) (dec v)))))))))))))))))with|true=>some [RV.d atB (sgQ (dec (hid (enc (plQ (dec (hid (enc (tiQ (dec (hid (enc (rwX (dec p) (dec v))))) (dec (hid (enc (rwY (dec q) (dec v))))))))) (dec (hid (enc (miQ (dec (hid (enc (tiQ (dec (hid (enc (rwY (dec p) (dec v))))) (dec (hid (enc (rwX (dec q) (dec v))))))))))))))))))]|false=>none)|false=>none)|false=>none)|false=>none)|false=>none)|false=>none)|false=>none
theorem aoa(v:BV)(p q:BP):RS aiY 210 [.d tV v,.d tP p,.d tP q] (acW v p q):=rsX
theorem XT(v:BV)(p q:BP)(h:ok (Rat×Rat) 400 v∧okP 580 p∧okP 580 q):Con Tryz.prog 210 [.d tV v,.d tP p,.d tP q] [.d atB (RE.turS (dec v) (RE.pR (dec p)) (RE.pR (dec q)))]:=by
 refine aN im (aoa _ _ _ ⟨0,?_⟩)
 obtain⟨hv,hp,hq⟩:=h
 obtain⟨v,rfl,bv⟩:=aQ hv
 obtain⟨p,rfl,bp,rp⟩:=bG hp
 obtain⟨q,rfl,bq,rq⟩:=bG hq
 have o1:decide (okQ (enc (plQ (tiQ (rwX p v) (rwY q v)) (miQ (tiQ (rwY p v) (rwX q v))))))=true:=SF (k:=6000) (h:=(inferInstance:Bd (plQ (tiQ (rwX p v) (rwY q v)) (miQ (tiQ (rwY p v) (rwX q v)))) _).mono (by decide)) (by decide) rp.nn rq.nn
 unfold acW
 simp only[aj,ak,okd,aqv,aqw,Nat.reduceAdd,Nat.reduceLeDiff,bg,o1]
 rw[←RE.crR_re]
 rfl
def alm:Ctx:=CX nZ []
def acz(d:BV)(p:BP)(_k:KT):Option (List RV):=match decide (okR d.1∧okR p.1)with|true=>(match decide (okR d.2∧okR p.2.2.1)with|true=>(match decide (okR (hid (ag (ab d.1*ab p.1)))∧okR (hid (ag (ab d.2*ab p.2.2.1))))with|true=>(match decide (okR d.1∧okR p.2.1)with|true=>(match decide (okR d.2∧okR p.2.2.2.1)with|true=>(match decide (okR (hid (ag (ab d.1*ab p.2.1)))∧okR (hid (ag (ab d.2*ab p.2.2.2.1))))with|true=>(match decide (ok Rat 100000 (hid (ag (ab (hid (ag (ab d.1*ab p.1)))+ab (hid (ag (ab d.2*ab p.2.2.1))))))∧ok Rat 100000 (hid (ag (ab (hid (ag (ab d.1*ab p.2.1)))+ab (hid (ag (ab d.2*ab p.2.2.2.1))))))∧ok Rat 100000 p.2.2.2.2∧0≤ab p.2.2.2.2)with|true=>some [RV.d tO (hid (enc (mkR (ab (hid (ag (ab (hid (ag (ab d.1*ab p.1)))+ab (hid (ag (ab d.2*ab p.2.2.1))))))) (ab (hid (ag (ab (hid (ag (ab d.1*ab p.2.1)))+ab (hid (ag (ab d.2*ab p.2.2.2.1))))))) (ab p.2.2.2.2))))]|false=>none)|false=>none)|false=>none)|false=>none)|false=>none)|false=>none)|false=>none
theorem aoD(d:BV)(p:BP):RS alm 118 [.d tV d,.d tP p] (acz d p):=rsX
theorem aaf(d:BV)(p:BP)(h:ok (Rat×Rat) 400 d∧okP 580 p):Con Tryz.prog 118 [.d tV d,.d tP p] [.d tO (enc (alR (dec d) (dec p)))]:=by
 refine aN im (aoD _ _ ⟨0,?_⟩)
 obtain⟨hd,hp⟩:=h
 obtain⟨d,rfl,bd⟩:=aQ hd
 obtain⟨p,rfl,bp,rp⟩:=bG hp
 have hn:0≤p.2.2.2.2:=rp.nn
 unfold acz
 simp only[aj,ak,aD,aE,aA,av,aC,aT,aqv,aqw,Nat.reduceAdd,Nat.reduceLeDiff,dT hn]
 rfl
def adY:Ctx:=CX nZ []
def SQ(l:BO3)(v:BV)(_k:KT):Option (List RV):=match decide (okR l.1∧okR v.1)with|true=>(match decide (okR l.2.1∧okR v.2)with|true=>(match decide (okR (hid (ag (ab l.1*ab v.1)))∧okR (hid (ag (ab l.2.1*ab v.2))))with|true=>(match decide (okR l.2.2∧okR (hid (ag (ab (hid (ag (ab l.1*ab v.1)))+ab (hid (ag (ab l.2.1*ab v.2)))))))with|true=>some [RV.d tO (l.1,(l.2.1,hid (ag (ab l.2.2+ab (hid (ag (ab (hid (ag (ab l.1*ab v.1)))+ab (hid (ag (ab l.2.1*ab v.2))))))))))]|false=>none)|false=>none)|false=>none)|false=>none
theorem afi(l:BO3)(v:BV):RS adY 126 [.d tO l,.d tV v] (SQ l v):=rsX
theorem Pf(l:BO3)(v:BV)(h:ok Ln 300 l∧ok (Rat×Rat) 200 v):Con Tryz.prog 126 [.d tO l,.d tV v] [.d tO (enc (RE.mvLn (dec l) (dec v)))]:=by
 refine aN im (afi _ _ ⟨0,?_⟩)
 obtain⟨hl,hv⟩:=h
 obtain⟨l,rfl,bl⟩:=aQ hl
 obtain⟨v,rfl,bv⟩:=aQ hv
 unfold SQ
 simp only[aj,ak,aD,aE,aA,av,aT,aqv,aqw,Nat.reduceAdd,Nat.reduceLeDiff]
 try rfl
def afn:Ctx:=CX nZ []
def Q8(c:BO3)(v:BV)(_k:KT):Option (List RV):=match decide (okR c.1∧okR v.1)with|true=>(match decide (okR c.2.1∧okR v.2)with|true=>some [RV.d tO (hid (ag (ab c.1+ab v.1)),(hid (ag (ab c.2.1+ab v.2)),c.2.2))]|false=>none)|false=>none
theorem afo(c:BO3)(v:BV):RS afn 125 [.d tO c,.d tV v] (Q8 c v):=rsX
theorem Vm(c:BO3)(v:BV)(h:ok Ln 300 c∧ok (Rat×Rat) 200 v):Con Tryz.prog 125 [.d tO c,.d tV v] [.d tO (enc (RE.mvCi (dec c) (dec v)))]:=by
 refine aN im (afo _ _ ⟨0,?_⟩)
 obtain⟨hc,hv⟩:=h
 obtain⟨c,rfl,bc⟩:=aQ hc
 obtain⟨v,rfl,bv⟩:=aQ hv
 unfold Q8
 simp only[aj,ak,aD,aE,aA,av,aT,aqv,aqw,Nat.reduceLeDiff]
 try rfl
def adX:Ctx:=CX nZ []
def LL(x:Plc)(_k:KT):Option (List RV):=let y1:=i64.wrap x.2.2.2.2.1;let y2:=i64.wrap x.1;let y3:=i64.wrap ((i64.wrap x.2.2.2.2.2)+1);let y4:=i64.wrap x.2.1;let y5:=hid (ag (Rat.divInt y2 y3));let y6:=hid (ag (Rat.divInt y4 y3));let y7:=hid (ag (y1:Rat));let y8:=i64.wrap x.2.2.1;let y9:=i64.wrap x.2.2.2.1;let y10:=hid (ag (Rat.divInt y8 y3));let y11:=hid (ag (Rat.divInt y9 y3));let y12:=hid (enc (mkR (ab y5) (ab y6) (ab y7)));let y13:=hid (enc (mkR (ab y10) (ab y11) (ab y7)));match decide (aX y1)with|true=>(match decide (qi y2 y3)with|true=>(match decide (qi y4 y3)with|true=>(match decide (ok Rat 100000 y5∧ok Rat 100000 y6∧ok Rat 100000 y7∧0≤ab y7)with|true=>(match decide (qi y8 y3)with|true=>(match decide (qi y9 y3)with|true=>(match decide (ok Rat 100000 y10∧ok Rat 100000 y11∧ok Rat 100000 y7∧0≤ab y7)with|true=>(match decide (okT 15000 y12∧okT 15000 y13∧rR (dec y12) (dec y13))with|true=>some [RV.d tP (hid (enc (mkP (dec y12) (dec y13))))]|false=>none)|false=>none)|false=>none)|false=>none)|false=>none)|false=>none)|false=>none)|false=>none
theorem adW(x:Plc):RS adX 40 [.d Dy x] (LL x):=rsX
theorem TM(x:Plc)(h:Es x):Con Tryz.prog 40 [.d Dy x] [.d tP (enc (nT x))]:=by
 refine aN im (adW _ ⟨0,?_⟩)
 obtain⟨h1,h2,h3,h4,⟨h5,h5'⟩,h6,h6'⟩:=h
 have f:∀n,Bz n→Bd (Rat.divInt n (x.2.2.2.2.2+1)) 3∧qi n (x.2.2.2.2.2+1)∧i64.wrap n=n:=fun n hn=>by
  obtain⟨g1,g2⟩:=hn
  exact⟨zZ ⟨by omega,by omega⟩ ⟨by omega,by omega⟩ (by omega),⟨⟨by omega,by omega⟩,⟨by omega,by omega⟩,by omega⟩,bi (by omega) (by omega)⟩
 obtain⟨b1,p1,w1⟩:=f _ h1
 obtain⟨b2,p2,w2⟩:=f _ h2
 obtain⟨b3,p3,w3⟩:=f _ h3
 obtain⟨b4,p4,w4⟩:=f _ h4
 have i5:aX x.2.2.2.2.1:=⟨by omega,by omega⟩
 have b5:Bd (x.2.2.2.2.1:Rat) 3:=cP i5
 have n5:0≤(x.2.2.2.2.1:Rat):=Rat.intCast_nonneg.2 h5
 have N5:Nn (x.2.2.2.2.1:Rat):=⟨n5⟩
 have w5:i64.wrap x.2.2.2.2.1=x.2.2.2.2.1:=bi (by omega) (by omega)
 have w6:i64.wrap x.2.2.2.2.2=x.2.2.2.2.2:=bi (by omega) (by omega)
 have w7:i64.wrap (x.2.2.2.2.2+1)=x.2.2.2.2.2+1:=bi (by omega) (by omega)
 unfold LL
 simp only[aj,ak,av,aC,aqv,aqw,Nat.reduceAdd,Nat.reduceLeDiff,bh,w1,w2,w3,w4,w5,w6,w7,dT i5,dT p1,dT p2,dT p3,dT p4,dT n5,dT (sI _ _ _ _ _)]
 rfl
def Tw:aM:=spN true true [tV,tP,tP] (fun x=>decide (ok (Rat×Rat) 400 x.1∧okP 580 x.2.1∧okP 580 x.2.2.1)) (fun x=>[RV.d atB (RE.turS (dec x.1) (RE.pR (dec x.2.1)) (RE.pR (dec x.2.2.1)))])
theorem Pa:SpK 210 Tw:=spX fun x h=>XT x.1 x.2.1 x.2.2.1 (aqr h)
def TH:aM:=spN false true [tV,tP] (fun x=>decide (ok (Rat×Rat) 400 x.1∧okP 580 x.2.1)) (fun x=>[RV.d tO (hid (enc (alR (dec x.1) (dec x.2.1))))])
theorem Rh:SpK 118 TH:=spX fun x h=>by simp only[aj];exact aaf x.1 x.2.1 (aqr h)
def FX:aM:=spN false true [tO,tV] (fun x=>decide (ok Ln 300 x.1∧ok (Rat×Rat) 200 x.2.1)) (fun x=>[RV.d tO (hid (enc (RE.mvLn (dec x.1) (dec x.2.1))))])
theorem JL:SpK 126 FX:=spX fun x h=>by simp only[aj];exact Pf x.1 x.2.1 (aqr h)
def GA:aM:=spN false true [tO,tV] (fun x=>decide (ok Ln 300 x.1∧ok (Rat×Rat) 200 x.2.1)) (fun x=>[RV.d tO (hid (enc (RE.mvCi (dec x.1) (dec x.2.1))))])
theorem JH:SpK 125 GA:=spX fun x h=>by simp only[aj];exact Vm x.1 x.2.1 (aqr h)
def zp:aM:=spN false true [Dy] (fun x=>decide (Es x.1)) (fun x=>[RV.d tP (hid (enc (nT x.1)))])
theorem wZ:SpK 40 zp:=spX fun x h=>by simp only[aj];exact TM x.1 (aqr h)
def UK:Env:=(210,Tw)::(118,TH)::(126,FX)::(125,GA)::(40,zp)::nZ
theorem J7:EnvAll Tryz.prog UK:=⟨Pa,Rh,JL,JH,wZ,im⟩
def aoz:Ctx:=CX UK []
def abs(c:BCU)(v:BV)(_k:KT):Option (List RV):=match c.1 with|true=>(match decide (ok Ln 300 c.2.2.1∧ok (Rat×Rat) 200 v)with|true=>(match decide (ok Pt 21000 c.2.2.2.2.1∧ok (Rat×Rat) 1000 v)with|true=>(match decide (ok Pt 21000 c.2.2.2.2.2∧ok (Rat×Rat) 1000 v)with|true=>some [RV.d tCU (c.1,(c.2.1,(hid (enc (RE.mvCi (dec c.2.2.1) (dec v))),(c.2.2.2.1,(hid (enc (trP (dec c.2.2.2.2.1) (dec v))),hid (enc (trP (dec c.2.2.2.2.2) (dec v))))))))]|false=>none)|false=>none)|false=>none)|false=>(match decide (ok Ln 300 c.2.1∧ok (Rat×Rat) 200 v)with|true=>(match decide (ok Pt 21000 c.2.2.2.2.1∧ok (Rat×Rat) 1000 v)with|true=>(match decide (ok Pt 21000 c.2.2.2.2.2∧ok (Rat×Rat) 1000 v)with|true=>some [RV.d tCU (c.1,(hid (enc (RE.mvLn (dec c.2.1) (dec v))),(c.2.2.1,(c.2.2.2.1,(hid (enc (trP (dec c.2.2.2.2.1) (dec v))),hid (enc (trP (dec c.2.2.2.2.2) (dec v))))))))]|false=>none)|false=>none)|false=>none)
theorem ajT(c:BCU)(v:BV):RS aoz 44 [.d tCU c,.d tV v] (abs c v):=rsX
theorem XK(c:BCU)(v:BV)(h:okC 500 c∧ok (Rat×Rat) 10 v):Con Tryz.prog 44 [.d tCU c,.d tV v] [.d tCU (mvB c (dec v))]:=by
 refine aN J7 (ajT _ _ ⟨0,?_⟩)
 obtain⟨hc,hv⟩:=h
 obtain⟨v,rfl,bv⟩:=aQ hv
 obtain⟨ar,li,ci,cw,fr,to⟩:=c
 have h3:=hc.2.2.1
 have h4:=hc.2.2.2
 simp only at h3 h4
 obtain⟨fr,rfl,bf,rf⟩:=bG h3
 obtain⟨to,rfl,bt,rt⟩:=bG h4
 unfold abs mvB
 cases ar
 ·obtain⟨c2,_⟩:=hc.2.1 rfl
  simp only at c2
  obtain⟨li,rfl,bl⟩:=aQ c2
  simp only[aj,ak,okd,aqv,aqw,Nat.reduceLeDiff,cond_false]
 ·obtain⟨c1,_⟩:=hc.1 rfl
  simp only at c1
  obtain⟨ci,rfl,bc⟩:=aQ c1
  simp only[aj,ak,okd,aqv,aqw,Nat.reduceLeDiff,cond_true]
def QA:aM:=spN false true [tCU,tV] (fun x=>decide (okC 500 x.1∧ok (Rat×Rat) 10 x.2.1)) (fun x=>[RV.d tCU (hid (mvB x.1 (dec x.2.1)))])
theorem Vp:SpK 44 QA:=spX fun x h=>by simp only[aj];exact XK x.1 x.2.1 (aqr h)
theorem agc{x:Plc}(h:Es x):Bd (nT x) 20∧Rpd (nT x):=by
 obtain⟨h1,h2,h3,h4,⟨h5,h5'⟩,h6,h6'⟩:=h
 have f:∀n,Bz n→Bd (Rat.divInt n (x.2.2.2.2.2+1)) 3:=fun n hn=>by
  obtain⟨g1,g2⟩:=hn
  exact zZ ⟨by omega,by omega⟩ ⟨by omega,by omega⟩ (by omega)
 have b1:=f _ h1
 have b2:=f _ h2
 have b3:=f _ h3
 have b4:=f _ h4
 have b5:Bd (x.2.2.2.2.1:Rat) 3:=cP ⟨by omega,by omega⟩
 have N5:Nn (x.2.2.2.2.1:Rat):=⟨Rat.intCast_nonneg.2 h5⟩
 have bX:Bd (WM x.1 x.2.1 x.2.2.2.2.1 x.2.2.2.2.2) 20:=(inferInstance:Bd (mkR (Rat.divInt x.1 (x.2.2.2.2.2+1)) (Rat.divInt x.2.1 (x.2.2.2.2.2+1)) (x.2.2.2.2.1:Rat)) _).mono (by decide)
 have bY:Bd (WM x.2.2.1 x.2.2.2.1 x.2.2.2.2.1 x.2.2.2.2.2) 20:=(inferInstance:Bd (mkR (Rat.divInt x.2.2.1 (x.2.2.2.2.2+1)) (Rat.divInt x.2.2.2.1 (x.2.2.2.2.2+1)) (x.2.2.2.2.1:Rat)) _).mono (by decide)
 exact⟨M0 (h:=bX) (h':=bY),abq pP pP (sI _ _ _ _ _)⟩
theorem VC{y:Plc}(h:Ty.ok Dy y):Es y:=⟨bounds_i16 h.1,bounds_i16 h.2.1,bounds_i16 h.2.2.1,bounds_i16 h.2.2.2.1,bounds_u16 h.2.2.2.2.1,GT h.2.2.2.2.2⟩
theorem ai2{c:BCU}(h:gdN c){v:Rat×Rat}[bv:Bd v 3]:okC 580 (mvB c v):=by
 obtain⟨⟨hc,hs⟩,_⟩:=h
 obtain⟨ar,li,ci,cw,fr,to⟩:=c
 have h3:=hc.2.2.1
 have h4:=hc.2.2.2
 simp only at h3 h4
 obtain⟨fr,rfl,bf,rf⟩:=bG h3
 obtain⟨to,rfl,bt,rt⟩:=bG h4
 have o3:okP 580 (enc (trP (dec (enc fr)) v)):=by
  rw[ak]
  exact aqr (bg (by decide) (by decide))
 have o4:okP 580 (enc (trP (dec (enc to)) v)):=by
  rw[ak]
  exact aqr (bg (by decide) (by decide))
 cases ar
 ·have k:=hs.2 rfl
  simp only at k
  obtain⟨li,rfl,⟨ba,bb,bc⟩,nz⟩:=fu k
  refine⟨fun e=>(by cases e),fun _=>?_,o3,o4⟩
  show Mc (enc (RE.mvLn (dec (enc li)) v))
  rw[ak]
  have bm:Bd (RE.mvLn li v) 300:=(inferInstance:Bd ((li.1,li.2.1,li.2.2+(li.1*v.1+li.2.1*v.2)):Ln) _).mono (by decide)
  exact⟨aqr (okd (by decide) (by decide)),by rw[ak];exact nz⟩
 ·have k:=hs.1 rfl
  simp only at k
  obtain⟨ci,rfl,⟨ba,bb,bc⟩,nz⟩:=eZ k
  refine⟨fun _=>?_,fun e=>(by cases e),o3,o4⟩
  show nY (enc (RE.mvCi (dec (enc ci)) v))
  rw[ak]
  have bm:Bd (RE.mvCi ci v) 300:=(inferInstance:Bd ((ci.1+v.1,ci.2.1+v.2,ci.2.2):Ln) _).mono (by decide)
  exact⟨aqr (okd (by decide) (by decide)),by rw[ak];exact nz⟩
theorem aiH(c:BCU)(v:Rat×Rat):dC (mvB c v)=RE.mvCv (dC c) v:=by
 obtain⟨ar,li,ci,cw,fr,to⟩:=c
 unfold mvB RE.mvCv dC
 cases ar<;>simp only[ak,cond_true,cond_false]
namespace RE
end RE
def uv:BCU:=(false,enc ((0,2,0):Ln),o00,false,enc (atP (-1,0)),enc (atP (1,0)))
def iU:BCU:=(true,o00,enc ((0,0,1):Ln),false,enc (atP (1,0)),enc (atP (-1,0)))
theorem PO:dC uv=(false,(0,2,0),dec o00,false,atP (-1,0),atP (1,0)):=by
 unfold dC uv
 simp only[ak]
theorem vg:dC iU=(true,dec o00,(0,0,1),false,atP (1,0),atP (-1,0)):=by
 unfold dC iU
 simp only[ak]
theorem agW:uG (vcR (-1) 0) (vcR 1 0)=uv:=by
 have h1:wg (vcR (-1) 0) (vcR 1 0)=false:=by decide+kernel
 have h2:pF (vcR (-1) 0) (vcR 1 0)=(0,2,0):=by decide+kernel
 unfold uG uv
 rw[h1,h2]
 rfl
theorem aeI:uT (vcR 1 0) (vcR 0 1) (vcR (-1) 0)=iU:=by
 have h1:decide (dL (vcR 1 0) (vcR 0 1) (vcR (-1) 0)=0)=false:=by decide+kernel
 have h2:ni (vcR 1 0) (vcR 0 1) (vcR (-1) 0)=(0,0,1):=by decide+kernel
 have h3:decide (rJ (vcR 1 0) (vcR 0 1) (vcR (-1) 0)<0)=false:=by decide+kernel
 unfold uT iU
 rw[h1,h2,h3]
 rfl
theorem HG:okC 500 uv:=by
 refine⟨fun h=>(by cases h),fun _=>⟨aqr (okd (x:=((0,2,0):Ln)) (by decide) (by decide)),?_⟩,iI (v:=(-1,0)) (by decide) (by decide),iI (v:=(1,0)) (by decide) (by decide)⟩
 show(dec (enc ((0,2,0):Ln)):Ln).1≠0∨_
 rw[ak]
 exact .inr (by decide+kernel)
theorem zX:okC 500 iU:=by
 refine⟨fun _=>⟨aqr (okd (x:=((0,0,1):Ln)) (by decide) (by decide)),?_⟩,fun h=>(by cases h),iI (v:=(1,0)) (by decide) (by decide),iI (v:=(-1,0)) (by decide) (by decide)⟩
 show 0<(dec (enc ((0,0,1):Ln)):Ln).2.2
 rw[ak]
 decide+kernel
theorem Gx:atP (vcR 0 1)=atP (0,1):=by decide+kernel
theorem Ys:wr iU [enc (atP (vcR 0 1))]:=by
 refine⟨dB zX (by decide) (by decide),by simp,fun x hx=>?_⟩
 have hx:x=enc (atP (vcR 0 1)):=by simpa using hx
 rw[hx,Gx,ak,vg]
 exact⟨iI (v:=(0,1)) (by decide) (by decide),by decide+kernel⟩
def ahx:List BCU:=[sZ iU (enc (atP (1,0))) (enc (atP (0,1))),sZ iU (enc (atP (0,1))) (enc (atP (-1,0)))]
theorem afY:gJ iU [enc (atP (vcR 0 1))]=ahx:=by
 have b1:decide (du (dC iU) (atP (1,0)) (atP (-1,0))<0)=true:=by rw[vg];decide+kernel
 have b2:decide (du (dC iU) (atP (1,0)) (atP (0,1))<0)=true:=by rw[vg];decide+kernel
 have b3:decide (du (dC iU) (atP (-1,0)) (atP (0,1))<0)=false:=by rw[vg];decide+kernel
 have b4:(cz (atP (-1,0)) (atP (0,1))==0)=false:=by decide+kernel
 have e1:iU.2.2.2.2.1=enc (atP (1,0)):=rfl
 have e2:iU.2.2.2.2.2=enc (atP (-1,0)):=rfl
 unfold gJ qH fI
 rw[Gx,e1,e2]
 simp only[List.cons_append,asO,List.foldl_cons,List.foldl_nil,fR,ak,b1,b2,b3,b4,cond_true,cond_false]
 rfl
theorem Nm:okC 500 (sZ iU (enc (atP (1,0))) (enc (atP (0,1)))):=⟨zX.1,fun h=>(by cases h),iI (v:=(1,0)) (by decide) (by decide),iI (v:=(0,1)) (by decide) (by decide)⟩
theorem akZ:dC (sZ iU (enc (atP (1,0))) (enc (atP (0,1))))=(true,dec o00,(0,0,1),false,atP (1,0),atP (0,1)):=by
 unfold dC sZ iU
 simp only[ak]
theorem q1:bL (jN (dC uv) (vcR 0 2)) (((4:Int):Rat),0,0)=0:=by rw[PO];decide+kernel
theorem q2:bL (jN (dC uv) (vcR 4 4)) (((25:Int):Rat),0,0)=0:=by rw[PO];decide+kernel
theorem q3:D3 (dC iU) (vcR 0 3) ((2:Int):Rat)=0:=by rw[vg];decide+kernel
theorem q4:D3 (dC iU) (vcR 0 0) ((1:Int):Rat)=0:=by rw[vg];decide+kernel
theorem q5:bL (jN (dC iU) (vcR 0 (-1))) (((2:Int):Rat),0,0)=0:=by rw[vg];decide+kernel
theorem q6:bL (jN (dC (sZ iU (enc (atP (1,0))) (enc (atP (0,1))))) (vcR 1 1)) (mkR ((3:Int):Rat) ((-2:Int):Rat) ((2:Int):Rat))=0:=by rw[akZ];decide+kernel
def HN:aM:=spN true true [tO,tO] (fun x=>decide (okT 15000 x.1∧okT 15000 x.2.1)) (fun x=>[RV.d .bool (bL (dec x.1) (dec x.2.1)==0)])
theorem Jf:SpK 63 HN:=spX fun x h=>TS x.1 x.2.1 (aqr h)
def Ga:Env:=[(31,Ak),(78,fo),(131,r7),(50,gA),(63,HN)]
theorem uJ:EnvAll Tryz.prog Ga:=⟨xO,dR,qx,eP,Jf,trivial⟩
def af3:Ctx:=CX Ga []
def Py(r:BO3)(_k:KT):Option (List RV):=match decide (okR r.1)with|true=>(match decide (okR r.2.1)with|true=>(match decide (okR r.2.2)with|true=>(match decide (okR r.2.1)with|true=>(match(aS (ab r.2.1) 0)==0 with|true=>(match decide (okR r.2.1)with|true=>(match(aS (ab r.2.1) 0)==0 with|true=>(match decide (okR r.2.2)with|true=>some [RV.d .bool ((aS (ab r.2.2) 0)==0)]|false=>none)|false=>some [RV.d .bool false])|false=>none)|false=>(match decide (okR r.2.2)with|true=>(match(aS (ab r.2.2) 0)==0 with|true=>(match decide (okR r.2.1)with|true=>(match(aS (ab r.2.1) 0)==0 with|true=>(match decide (okR r.2.2)with|true=>some [RV.d .bool ((aS (ab r.2.2) 0)==0)]|false=>none)|false=>some [RV.d .bool false])|false=>none)|false=>(match decide (okR r.2.2)with|true=>(match decide (okR r.2.2)with|true=>(match decide ((aS (ab r.2.2) 0)>0)with|true=>some [RV.d .bool (!(ec (ab r.2.2)))]|false=>some [RV.d .bool false])|false=>none)|false=>none))|false=>none))|false=>none)|false=>none)|false=>none)|false=>none
theorem adP(r:BO3):RS af3 62 [.d tO r] (Py r):=rsX
theorem Ll(r:BO3)(h:okT 15000 r):Con Tryz.prog 62 [.d tO r] [.d .bool true]:=by
 refine aN uJ (adP _ ⟨0,?_⟩)
 have hr:=h
 obtain⟨r,rfl,br,rr⟩:=ew hr
 unfold Py
 simp only[aD,aE,aA,av,aT,Nat.reduceLeDiff,aH,aL]
 rcases rr.rd with⟨h1,h2⟩|⟨h1,h2,h3⟩
 ·rw[aqs h1,aqs h2]
 ·have h4:r.2.2≠0:=by grind
  rw[aqu h1,aqu h4,aqs h2,h3]
  rfl
def an1:Ctx:=CX Ga []
def adD(x y:Int)(_k:KT):Option (List RV):=match decide (aX x)with|true=>(match decide (aX y)with|true=>some [RV.d tV (hid (ag (x:Rat)),hid (ag (y:Rat)))]|false=>none)|false=>none
theorem ann(x y:Int):RS an1 47 [SI x,SI y] (adD x y):=rsX
theorem We(x y:Int)(h:aX x∧aX y):Con Tryz.prog 47 [.d atB x,.d atB y] [.d tV (enc (vcR x y))]:=by
 refine aN uJ (ann _ _ ⟨0,?_⟩)
 obtain⟨h1,h2⟩:=h
 unfold adD
 rw[dT h1,dT h2]
 simp only[aj]
 rfl
def Hd:aM:=spN true true [tO] (fun x=>decide (okT 15000 x.1)) (fun _=>[RV.d .bool true])
theorem Ka:SpK 62 Hd:=spX fun x h=>Ll x.1 (aqr h)
def RG:aM:=spN false true [atB,atB] (fun x=>decide (aX x.1∧aX x.2.1)) (fun x=>[RV.d tV (hid (enc (vcR x.1 x.2.1)))])
theorem Ob:SpK 47 RG:=spX fun x h=>by simp only[aj];exact We x.1 x.2.1 (aqr h)
def O7:Env:=(62,Hd)::(47,RG)::Ga
theorem BB:EnvAll Tryz.prog O7:=⟨Ka,Ob,uJ⟩
def an0:Ctx:=CX O7 []
def aa9(a w:BO3)(_k:KT):Option (List RV):=match decide (okT 15000 a)with|true=>(match decide (okT 15000 a∧okT 15000 w)with|true=>some [RV.d .bool (bL (dec a) (dec w)==0)]|false=>none)|false=>none
theorem an5(a w:BO3):RS an0 15 [.d tO a,.d tO w] (aa9 a w):=rsX
theorem YB(a w:BO3)(h:okT 15000 a∧okT 15000 w):Con Tryz.prog 15 [.d tO a,.d tO w] [.d .bool (bL (dec a) (dec w)==0)]:=by
 refine aN BB (an5 _ _ ⟨0,?_⟩)
 obtain⟨h1,h2⟩:=h
 unfold aa9
 rw[dT h1,dT (show okT 15000 a∧okT 15000 w from⟨h1,h2⟩)]
def S2:aM:=spN true true [tO,tO] (fun x=>decide (okT 15000 x.1∧okT 15000 x.2.1)) (fun x=>[RV.d .bool (bL (dec x.1) (dec x.2.1)==0)])
theorem Sd:SpK 15 S2:=spX fun x h=>YB x.1 x.2.1 (aqr h)
def Ij:aM:=spN false true [atB] (fun x=>decide (aX x.1)) (fun x=>[RV.d tO (hid (enc (((x.1:Rat),0,0):Rt)))])
theorem JX:SpK 51 Ij:=spX fun x h=>by simp only[aj];exact Vd x.1 (aqr h)
def ade:Env:=(15,S2)::(46,zx)::(48,yw)::(28,Fu)::(20,kT)::(49,oS)::(51,Ij)::(16,EQ)::(21,Ps)::O7
theorem KX:EnvAll Tryz.prog ade:=⟨Sd,xV,wP,Dg,ic,mi,JX,CU,OB,BB⟩
def ajg:Ctx:=CX ade []
def ac8(_k:KT):Option (List RV):=let y1:=hid (enc (vcR ((-1):Int) (0:Int)));let y2:=hid (enc (vcR (1:Int) (0:Int)));let y3:=hid (enc (vcR (0:Int) (1:Int)));let y4:=hid (uT (dec y2) (dec y3) (dec y1));let y5:=gJ y4 ([hid (enc (atP (dec y3)))]);let y6:=hid (ag ((3:Int):Rat));let y7:=hid (ag (((-2):Int):Rat));let y8:=hid (ag ((2:Int):Rat));let y9:=hid (uG (dec y1) (dec y2));let y10:=hid (enc (vcR (0:Int) (2:Int)));let y11:=hid (enc (jN (dC y9) (dec y10)));let y12:=hid (enc ((((4:Int):Rat),0,0):Rt));let y13:=hid (enc (vcR (4:Int) (4:Int)));let y14:=hid (enc (jN (dC y9) (dec y13)));let y15:=hid (enc ((((25:Int):Rat),0,0):Rt));let y16:=hid (enc (vcR (0:Int) (3:Int)));let y17:=hid (enc (vcR (0:Int) (0:Int)));let y18:=hid (ag ((1:Int):Rat));let y19:=hid (enc (vcR (0:Int) ((-1):Int)));let y20:=hid (enc (jN (dC y4) (dec y19)));let y21:=hid (enc ((((2:Int):Rat),0,0):Rt));let y22:=hid (enc (vcR (1:Int) (1:Int)));let y23:=hid (enc (mkR (ab y6) (ab y7) (ab y8)));match decide (aX ((-1):Int)∧aX (0:Int))with|true=>(match decide (aX (1:Int)∧aX (0:Int))with|true=>(match decide (ok (Rat×Rat) 100 y1∧ok (Rat×Rat) 100 y2)with|true=>(match decide (aX (1:Int)∧aX (0:Int))with|true=>(match decide (aX (0:Int)∧aX (1:Int))with|true=>(match decide (aX ((-1):Int)∧aX (0:Int))with|true=>(match decide (ok (Rat×Rat) 100 y2∧ok (Rat×Rat) 100 y3∧ok (Rat×Rat) 100 y1)with|true=>(match decide (aX (0:Int)∧aX (1:Int))with|true=>(match decide (ok (Rat×Rat) 100000 y3)with|true=>(match decide (wr y4 ([hid (enc (atP (dec y3)))]))with|true=>(match(pn (dec y1) (dec y2)) !=0 with|true=>some [RV.d .bool false]|false=>(match(pi (dec y2) (dec y3) (dec y1)) !=0 with|true=>some [RV.d .bool false]|false=>(match 0 !=0 with|true=>some [RV.d .bool false]|false=>(match(y5.length:Int) !=2 with|true=>some [RV.d .bool false]|false=>(match decide (aX (3:Int))with|true=>(match decide (aX ((-2):Int))with|true=>(match decide (aX (2:Int))with|true=>(match decide (ok Rat 100000 y6∧ok Rat 100000 y7∧ok Rat 100000 y8∧0≤ab y8)with|true=>(match decide (aX (0:Int)∧aX (2:Int))with|true=>(match decide (okC 500 y9∧ok (Rat×Rat) 200 y10)with|true=>(match decide (aX (4:Int))with|true=>(match decide (okT 15000 y11∧okT 15000 y12)with|true=>(match bL (dec y11) (dec y12)==0 with|true=>(match decide (aX (4:Int)∧aX (4:Int))with|true=>(match decide (okC 500 y9∧ok (Rat×Rat) 200 y13)with|true=>(match decide (aX (25:Int))with|true=>(match decide (okT 15000 y14∧okT 15000 y15)with|true=>(match bL (dec y14) (dec y15)==0 with|true=>(match decide (aX (0:Int)∧aX (3:Int))with|true=>(match decide (aX (2:Int))with|true=>(match decide (okC 500 y4∧ok (Rat×Rat) 200 y16∧ok Rat 1000 y8)with|true=>(match(D3 (dC y4) (dec y16) (ab y8))==0 with|true=>(match decide (aX (0:Int)∧aX (0:Int))with|true=>(match decide (aX (1:Int))with|true=>(match decide (okC 500 y4∧ok (Rat×Rat) 200 y17∧ok Rat 1000 y18)with|true=>(match(D3 (dC y4) (dec y17) (ab y18))==0 with|true=>(match decide (aX (0:Int)∧aX ((-1):Int))with|true=>(match decide (okC 500 y4∧ok (Rat×Rat) 200 y19)with|true=>(match decide (aX (2:Int))with|true=>(match decide (okT 15000 y20∧okT 15000 y21)with|true=>(match bL (dec y20) (dec y21)==0 with|true=>(match bu y5 0 with|some x1=>(match decide (aX (1:Int)∧aX (1:Int))with|true=>(match decide (okC 500 x1∧ok (Rat×Rat) 200 y22)with|true=>(match decide (okT 15000 (hid (enc (jN (dC x1) (dec y22))))∧okT 15000 y23)with|true=>some [RV.d .bool (bL (dec (hid (enc (jN (dC x1) (dec y22))))) (dec y23)==0)]|false=>none)|false=>none)|false=>none)|none=>none)|false=>some [RV.d .bool false])|false=>none)|false=>none)|false=>none)|false=>none)|false=>some [RV.d .bool false])|false=>none)|false=>none)|false=>none)|false=>some [RV.d .bool false])|false=>none)|false=>none)|false=>none)|false=>some [RV.d .bool false])|false=>none)|false=>none)|false=>none)|false=>none)|false=>some [RV.d .bool false])|false=>none)|false=>none)|false=>none)|false=>none)|false=>none)|false=>none)|false=>none)|false=>none)))))|false=>none)|false=>none)|false=>none)|false=>none)|false=>none)|false=>none)|false=>none)|false=>none)|false=>none)|false=>none
theorem amA:RS ajg 11 [] (ac8):=rsX
theorem X7:Con Tryz.prog 11 [] [.d .bool true]:=by
 have bn:∀n:Int,aX n→Bd (n:Rat) 3:=fun n h=>cP h
 have z0:=bn 0 (by decide)
 have z1:=bn 1 (by decide)
 have z2:=bn 2 (by decide)
 have z3:=bn 3 (by decide)
 have z4:=bn 4 (by decide)
 have z25:=bn 25 (by decide)
 have zm1:=bn (-1) (by decide)
 have zm2:=bn (-2) (by decide)
 have i0:decide (aX 0)=true:=by decide
 have i1:decide (aX 1)=true:=by decide
 have i2:decide (aX 2)=true:=by decide
 have i3:decide (aX 3)=true:=by decide
 have i4:decide (aX 4)=true:=by decide
 have i25:decide (aX 25)=true:=by decide
 have im1:decide (aX (-1))=true:=by decide
 have im2:decide (aX (-2))=true:=by decide
 have s1:pn (vcR (-1) 0) (vcR 1 0)=0:=by decide+kernel
 have s2:pi (vcR 1 0) (vcR 0 1) (vcR (-1) 0)=0:=by decide+kernel
 have hq:0≤((2:Int):Rat):=by decide+kernel
 have nn2:Nn ((2:Int):Rat):=⟨hq⟩
 have d1:=fun{v:Rat×Rat} (bv:Bd v 200)=>sC HG (v:=v) (bv:=bv)
 have d2:=fun{v:Rat×Rat} (bv:Bd v 200)=>sC zX (v:=v) (bv:=bv)
 have d3:=fun{v:Rat×Rat} (bv:Bd v 200)=>sC Nm (v:=v) (bv:=bv)
 have v02:Bd (vcR 0 2) 200:=(inferInstance:Bd (vcR 0 2) _).mono (by decide)
 have v44:Bd (vcR 4 4) 200:=(inferInstance:Bd (vcR 4 4) _).mono (by decide)
 have v0m:Bd (vcR 0 (-1)) 200:=(inferInstance:Bd (vcR 0 (-1)) _).mono (by decide)
 have v11:Bd (vcR 1 1) 200:=(inferInstance:Bd (vcR 1 1) _).mono (by decide)
 obtain⟨t1,u1⟩:=d1 v02
 obtain⟨t2,u2⟩:=d1 v44
 obtain⟨t3,u3⟩:=d2 v0m
 obtain⟨t4,u4⟩:=d3 v11
 have g0:bu ahx 0=some (sZ iU (enc (atP (1,0))) (enc (atP (0,1)))):=rfl
 have gl:((ahx.length:Int) !=2)=false:=rfl
 refine aN KX (amA ⟨0,?_⟩)
 unfold ac8
 simp only[aj,ak,av,okd,aC,aqv,aqw,mx,Nat.reduceAdd,Nat.reduceLeDiff,aqC,cond_true,bh,i0,i1,i2,i3,i4,i25,im1,im2,agW,aeI,afY,aqs Ys,s1,s2,dT hq,aqs HG,aqs zX,aqs Nm,q1,q2,q3,q4,q5,q6,g0,gl]
 rfl
def Rf:aM:=spN true true [] (fun _=>true) (fun _=>[RV.d .bool true])
theorem Q2:SpK 11 Rf:=spX fun _ _=>X7
def adG:Env:=[(11,Rf),(12,F9),(40,zp),(22,Ut),(41,U8),(44,QA),(45,pK)]
theorem Qp:EnvAll Tryz.prog adG:=⟨Q2,I3,wZ,Qw,LZ,Vp,mO,trivial⟩
def amU:Ctx:=CX adG []
def acr(x:Pce)(y:Plc)(b:Int×Int×Int)(_k:KT):Option (List RV):=match decide (wc x)with|true=>(match !(yK x)with|true=>some [RV.d .bool true]|false=>(match decide (i8P b.1)with|true=>(match decide (i8P b.2.1)with|true=>(match decide (Es y)with|true=>(match decide (i8P b.2.2)with|true=>(match decide (okC 500 (hid (oE x))∧ok (Rat×Rat) 10 (hid (ag (Rat.divInt b.1 4)),hid (ag (Rat.divInt b.2.1 4))))with|true=>(match decide (ok Pt 21000 (hid (enc (nT y)))∧ok (Rat×Rat) 1000 (hid (ag (Rat.divInt b.1 4)),hid (ag (Rat.divInt b.2.1 4))))with|true=>(match decide (okC 580 (hid (mvB (hid (oE x)) (dec (hid (ag (Rat.divInt b.1 4)),hid (ag (Rat.divInt b.2.1 4))))))∧okP 150 (hid (enc (trP (dec (hid (enc (nT y)))) (dec (hid (ag (Rat.divInt b.1 4)),hid (ag (Rat.divInt b.2.1 4)))))))∧ok Rat 1000 (hid (ag (Rat.divInt b.2.2 4))))with|true=>(match decide (okC 580 (hid (oE x))∧okP 150 (hid (enc (nT y)))∧ok Rat 1000 (hid (ag (Rat.divInt b.2.2 4))))with|true=>some [RV.d .bool ((RE.poiE (dC (hid (mvB (hid (oE x)) (dec (hid (ag (Rat.divInt b.1 4)),hid (ag (Rat.divInt b.2.1 4))))))) (RE.pR (dec (hid (enc (trP (dec (hid (enc (nT y)))) (dec (hid (ag (Rat.divInt b.1 4)),hid (ag (Rat.divInt b.2.1 4))))))))) (ab (hid (ag (Rat.divInt b.2.2 4)))))==(RE.poiE (dC (hid (oE x))) (RE.pR (dec (hid (enc (nT y))))) (ab (hid (ag (Rat.divInt b.2.2 4))))))]|false=>none)|false=>none)|false=>none)|false=>none)|false=>none)|false=>none)|false=>none)|false=>none))|false=>none
theorem ama(x:Pce)(y:Plc)(b:Int×Int×Int):RS amU 10 [.d Cm x,.d Dy y,.d (.st (.pair (.int .i8) (.pair (.int .i8) (.int .i8)))) b] (acr x y b):=rsX
theorem Zg(x:Pce)(y:Plc)(b:Int×Int×Int)(hx:Ty.ok Cm x)(hy:Ty.ok Dy y)(hb:Ty.ok (.st (.pair (.int .i8) (.pair (.int .i8) (.int .i8)))) b):Con Tryz.prog 10 [.d Cm x,.d Dy y,.d (.st (.pair (.int .i8) (.pair (.int .i8) (.int .i8)))) b] [.d .bool true]:=by
 have h1:=afK hx
 have h2:=VC hy
 have h3:=pS hb.1
 have h4:=pS hb.2.1
 have h5:=pS hb.2.2
 refine aN Qp (ama _ _ _ ⟨0,?_⟩)
 unfold acr
 rw[dT h1]
 cases ho:yK x
 ·rfl
 ·have hg:=XE h1 ho
  obtain⟨bp,rp⟩:=agc h2
  have b1:=ET h3
  have b2:=ET h4
  have bv:Bd ((Rat.divInt b.1 4,Rat.divInt b.2.1 4):Rat×Rat) 3:=(inferInstance:Bd ((Rat.divInt b.1 4,Rat.divInt b.2.1 4):Rat×Rat) _).mono (by decide)
  have e0:((ag (Rat.divInt b.1 4),ag (Rat.divInt b.2.1 4)):BV)=enc ((Rat.divInt b.1 4,Rat.divInt b.2.1 4):Rat×Rat):=rfl
  generalize ((Rat.divInt b.1 4,Rat.divInt b.2.1 4):Rat×Rat)=v at bv e0
  have oP:okP 150 (enc (nT y)):=aqr (bg (by decide) (by decide))
  have oQ:okP 150 (enc (trP (nT y) v)):=aqr (bg (by decide) (by decide))
  have oP4:ok Pt 21000 (enc (nT y)):=aqr (okd (by decide) (by decide))
  have v1:ok (Rat×Rat) 10 (enc v):=aqr (okd (by decide) (by decide))
  have v2:ok (Rat×Rat) 1000 (enc v):=aqr (okd (by decide) (by decide))
  have oR:ok Rat 1000 (ag (Rat.divInt b.2.2 4)):=afm h5 (by decide) (by decide)
  have c1:=dB (k:=580) hg.1.1 (by decide) (by decide)
  have c2:=ai2 hg (v:=v)
  simp only[aj,e0,ak,av,dT h2,dT h3,dT h4,dT h5,dT (show okC 500 (oE x)∧ok (Rat×Rat) 10 (enc v) from⟨hg.1.1,v1⟩),dT (show ok Pt 21000 (enc (nT y))∧ok (Rat×Rat) 1000 (enc v) from⟨oP4,v2⟩),dT (show okC 580 (mvB (oE x) v)∧okP 150 (enc (trP (nT y) v))∧ok Rat 1000 (ag (Rat.divInt b.2.2 4)) from⟨c2,oQ,oR⟩),dT (show okC 580 (oE x)∧okP 150 (enc (nT y))∧ok Rat 1000 (ag (Rat.divInt b.2.2 4)) from⟨c1,oP,oR⟩),aiH,RE.pR_tr,RE.poi_mv,beq_self_eq_true,Bool.not_true]
section
open Go.ChangeShapes Go.WideShapes Go.ChangeAt Go.WideMaps Go.WideElems Go.RowKit Go.Maps
section
variable {H:Type} {enc:TypeId×Value→H} {P:Program}
theorem wb{f:Func}{s:ChangeSpec}{apart fresh handsOn again:Bool}{W W':World}{args:Array Value}{v:Value}{ds gs:List (DataW H)}{before pa pv:List MemPlace}
  (hW:DataW.Whole enc P f.params.toList s.vars apart W args.toList ds gs before)
  (hres:∀(b:Nat) (sp:Nat→Bool) (hd:Bool),DataW.TrodAll enc P W' b sp hd f.resultTypes.toList (v.resultList f.resultTypes.size) (s.fn H (ds++gs)).results [])
  (hargs:∀sp:Nat→Bool,(∀p∈before,sp p.block=true)→DataW.TrodAll enc P W' 0 sp true f.params.toList args.toList (s.fn H (ds++gs)).args pa)
  (hvars:∀sp:Nat→Bool,(∀p∈before,sp p.block=true)→DataW.TrodVars enc P W' sp s.vars (s.fn H (ds++gs)).vars pv)
  (hps:before=pa++pv) (hb:Below W.heap.size W W')
  (hok:∀(j:Nat) (t:TypeId) (r:Value),f.resultTypes[j]?=some t→(v.resultList f.resultTypes.size)[j]?=some r→Value.okWide P W' .any 0 t r):
  s.post enc P f apart fresh handsOn again W args v W':=by
 have hlt:∀p∈before,p.block<W.heap.size:=fun p hp=>hW.lt p hp
 have hold:∀p∈before,(fun b=>decide (b<W.heap.size)) p.block=true:=fun p hp=>by simpa using hlt p hp
 refine⟨ds,gs,before,[],pa,pv,hW,hres _ _ _,hargs _ hold,hvars _ hold,World.keptBut_mono (fun p hp=>⟨hp,?_⟩) (hb.frame (·∈before)),fun _=>?_⟩
 ·rw[hps,aq7]at hp
  exact Or.inr hp
 ·obtain⟨_,_,_,_,_,hz,hn⟩:=hW
  refine⟨hok,_,_,([]++pa)++pv,⟨[]++pa,pv,trodAll_append (hargs _ (fun _ _=>rfl)) (hres _ _ _),hvars _ (fun _ _=>rfl),rfl,?_,?_⟩,?_⟩
  ·intro b off hp
   have hin:MemPlace.cell b off∈before:=by rw[hps];simpa using hp
   rw[hb.frozen (hlt _ hin)]
   exact hz b off hin
  ·intro ha
   have:=hn ha
   rw[hps]at this
   simpa using this
  ·intro p hp _
   rw[hps]
   simpa using hp
end
theorem SX:laidOutB Tryz.prog=true:=by kernel_rfl
theorem nA{H:Type}{enc:TypeId×Value→H}{P:Program}(hl:laidOutB P=true){W W':World}{sp:Nat→Bool}:∀(ts:List TypeId) (vs:List Value) (ds:List (DataW H)) (ps:List MemPlace),
  (ts.all fun t=>P.readableRec t&&Nat.ble (t+1) P.types.size)=true→DataW.TrodAll enc P W 0 (fun _=>true) true ts vs ds ps→(∀p∈ps,W.sameAt W' p)→(∀p∈ps,sp p.block=true)→DataW.TrodAll enc P W' 0 sp true ts vs ds ps
 |[],vs,ds,ps,_,h,_,_=>by obtain⟨rfl,rfl,rfl⟩:=trodAll_nil h;exact trodAll_mk0
 |t::ts,vs,ds,ps,ht,h,hs,hp=>by
  obtain⟨v,vs',d,ds',p,q,rfl,rfl,rfl,h0,h1⟩:=trodAll_cons h
  simp only[asY,aqB]at ht
  exact trodAll_cons_mk (Trod_stays hl ht.1.1 (aqD ht.1.2) h0 (fun x hx=>hs x (asu _ hx)) (fun x hx=>hp x (asu _ hx)))
   (nA hl ts vs' ds' q ht.2 h1 (fun x hx=>hs x (asn _ hx)) (fun x hx=>hp x (asn _ hx)))
set_option maxRecDepth 100000 in
theorem ME{H:Type}{enc:TypeId×Value→H}{f:Func}{s:ChangeSpec}{apart fresh handsOn again:Bool}{W W':World}{args:Array Value}{ds:List (DataW H)}{before:List MemPlace}
  (hW:DataW.Whole enc Tryz.prog f.params.toList s.vars apart W args.toList ds [] before) (hv:s.vars=[]) (hr:f.resultTypes= #[4]) (hfn:(s.fn H (ds++[])).results=[.lit (.bool true)]∧(s.fn H (ds++[])).args=ds∧(s.fn H (ds++[])).vars=[])
  (hp:(f.params.toList.all fun t=>Tryz.prog.readableRec t&&Nat.ble (t+1) Tryz.prog.types.size)=true) (hb:Below W.heap.size W W'):s.post enc Tryz.prog f apart fresh handsOn again W args (.bool true) W':=by
 have hW':=hW
 obtain⟨p,q,hA,hV,rfl,hfz,hnd⟩:=hW
 have hq:q=[]:=by
  rw[hv]at hV
  exact(trodVars_none hV).2
 subst hq
 have hlt:∀x∈p,x.block<W.heap.size:=fun x hx=>hW'.lt x (by simpa using hx)
 refine wb (pa:=p) (pv:=[]) hW' ?_ ?_ ?_ rfl hb ?_
 ·intro b sp hd
  rw[hr,hfn.1]
  exact trodAll_mk1 (shut_bool Tryz.underlying4 _)
 ·intro sp hsp
  rw[hfn.2.1]
  exact nA SX _ _ _ _ hp hA (fun x hx=>hb.same (hlt x hx)) (fun x hx=>hsp x (by simpa using hx))
 ·intro sp _
  rw[hv,hfn.2.2]
  rfl
 ·exact ok_one hr rfl (okWide_bool_mk (P:=Tryz.prog) Tryz.underlying4 true)
theorem EP{P:Program}{w:World}{r:Reach}{base:Nat}{t e:TypeId}{n:Nat}{v:Value}(ht:P.underlying t=some (.array n e))(h:Value.okWide P w r base t v):∃cs,v=.agg cs∧cs.size=P.cellsOf t:=by
 simp only[Value.okWide,ht]at h
 obtain⟨cs,h1,h2,_⟩:=h
 exact⟨cs,h1,h2⟩
theorem Ed{P:Program}{w:World}{r:Reach}{base:Nat}{t:TypeId}{v:Value}(ht:P.underlying t=some .string)(h:Value.okWide P w r base t v):∃s,v=.string s:=by
 simp only[Value.okWide,ht,Cell.okWide]at h
 cases v<;>simp_all [Cell.ok]
theorem uq{H:Type}{enc:TypeId×Value→H}{P:Program}{w:World}{r:Reach}{b0 base:Nat}{spare:Nat→Bool}{held:Bool}{v:Value}{d:DataW H}{p:List MemPlace}{t:TypeId}(n:Nat)(ty:Ty)(hrep:rep P n t ty=true)(hv:Value.okWide P w r b0 t v)(h:DataW.Trod enc P w base spare held t v d p):
  ∃y:ty.D,Rel1 [] (fun _=>True) w (.d ty y) v∧ty.ok y:=by
 obtain⟨fuel,hf⟩:=h
 have fin:v.cells.toList.length=ty.n→v=mkV ty v.cells.toList→∃y:ty.D,Rel1 [] (fun _=>True) w (.d ty y) v∧ty.ok y:=fun hl hm=>by
  obtain⟨y,h1,h2⟩:=(Wr ty).1 n t hrep fuel _ _ hl hf
  exact⟨y,⟨_,h1,hm⟩,h2⟩
 cases n with
 |zero=>simp[rep]at hrep
 |succ n=>
  have hrep':=hrep
  unfold rep at hrep'
  split at hrep'<;>try (cases hrep';done)
  ·rename_i hu;obtain⟨m,rfl⟩:=okWide_int hu hv;exact fin rfl rfl
  ·rename_i hu;obtain⟨m,rfl⟩:=okWide_bool hu hv;exact fin rfl rfl
  ·rename_i hu;obtain⟨m,rfl⟩:=Ed hu hv;exact fin rfl rfl
  ·rename_i hu;obtain⟨q,m,c,rfl⟩:=okWide_slice hu hv;exact fin rfl rfl
  ·rename_i hu
   obtain⟨cs,rfl,hsz⟩:=okWide_struct hu hv
   simp only[aqB]at hrep'
   exact fin (by simp only[Value.cells,Array.length_toList,hsz];exact aqA hrep'.2) (by simp[mkV,Ty.isSt,Value.cells])
  ·rename_i hu
   obtain⟨cs,rfl,hsz⟩:=EP hu hv
   simp only[aqB]at hrep'
   exact fin (by simp only[Value.cells,Array.length_toList,hsz];exact aqA hrep'.2) (by simp[mkV,Ty.isSt,Value.cells])
end
end Go.Proofs.YtlahabkjhgkkjaaGreat
end
namespace Go.Proofs.YtlahabkjhgkkjaaGreat.lawDistanceMoved
open Go.ChangeShapes Go.WideShapes Go.ChangeAt Go.RowKit
set_option maxRecDepth 100000 in
theorem contract(H:Type)(enc:TypeId×Value→H)(W:World)(base:Nat)(args:Array Value)(ds gs:List (DataW H))(before:List MemPlace)
  (hval:∀(j:Nat) t v,Tryz.f10.params[j]?=some t→args[j]?=some v→Value.okWide Tryz.prog W .any base t v)
  (hW:DataW.Whole enc Tryz.prog Tryz.f10.params.toList Rows.distanceMovedSpec.vars false W args.toList ds gs before):
  Calls Tryz.prog 10 args W fun e W'=>∃v,e=.returned v∧Rows.distanceMovedSpec.post enc Tryz.prog Tryz.f10 false true false false W args v W':=by
 have hW':=hW
 obtain⟨p,q,hA0,hV,rfl,hfz,hnd⟩:=hW
 have hA:DataW.TrodAll enc Tryz.prog W 0 (fun _=>true) true Tryz.f10.params.toList args.toList ds p:=hA0
 rw[Tryz.params10]at hA hval
 obtain⟨v0,vs0,d0,ds0,p0,q0,e0,rfl,rfl,h0,r0⟩:=trodAll_cons hA
 obtain⟨v1,vs1,d1,ds1,p1,q1,e1,rfl,rfl,h1,r1⟩:=trodAll_cons r0
 obtain⟨v2,vs2,d2,ds2,p2,q2,e2,rfl,rfl,h2,r2⟩:=trodAll_cons r1
 obtain⟨en,rfl,rfl⟩:=trodAll_nil r2
 obtain rfl:args= #[v0,v1,v2]:=by cases args;simp_all
 obtain⟨rfl,rfl⟩:=trodVars_none hV
 obtain⟨y0,s0,k0⟩:=uq 12 (Cm) (by kernel_rfl) (hval 0 26 v0 rfl rfl) h0
 obtain⟨y1,s1,k1⟩:=uq 12 (Dy) (by kernel_rfl) (hval 1 88 v1 rfl rfl) h1
 obtain⟨y2,s2,k2⟩:=uq 12 (.st (.pair (.int .i8) (.pair (.int .i8) (.int .i8)))) (by kernel_rfl) (hval 2 94 v2 rfl rfl) h2
 clear hA0
 refine(Zg y0 y1 y2 k0 k1 k2 (fun _=>True) W [v0,v1,v2] Mh ⟨s0,s1,s2,trivial⟩).mono ?_
 rintro e W' ⟨v,rfl,hb,hres⟩
 have hv:v=.bool true:=oU (G:=[]) (dK hres)
 subst hv
 exact⟨_,rfl,ME hW' rfl (by kernel_rfl) ⟨rfl,rfl,rfl⟩ (by kernel_rfl) hb⟩
set_option maxRecDepth 100000 in
theorem lifted(os:Os)(started:os.Started)(H:Type)(enc:TypeId×Value→H):
  ReturnsInHanded {} Tryz.checked os 10 .any (Rows.distanceMovedSpec.pre6 enc Tryz.prog Tryz.f10 Rows.distanceMovedRow.domain false) (Rows.distanceMovedSpec.post enc Tryz.prog Tryz.f10 false true false false):=by
 refine returnsInHanded_of_change (C:=Tryz.checked) QP started (by kernel_rfl) Tryz.func10
  (ChangeSpec.witness6 (enc:=enc) (C:=Tryz.checked) false ⟨#[],#[.agg #[.int .u8 0,.int .u8 0,.int .i8 0,.int .i8 0,.int .i8 0,.int .i8 0,.int .i8 0,.int .i8 0,.int .u8 0,.int .u8 0,.int .i8 0,.int .i8 0,.int .i8 0,.int .i8 0,.int .i8 0,.int .i8 0,.int .u8 0],.agg #[.int .i16 0,.int .i16 0,.int .i16 0,.int .i16 0,.int .u16 0,.int .u8 0],.agg #[.int .i8 0,.int .i8 0,.int .i8 0]],[]⟩ 8 (by kernel_rfl) (by kernel_rfl) (by kernel_rfl) (by kernel_rfl)) ?_
 intro W base args ds gs before hval hW _ _
 exact contract H enc W base args ds gs before hval hW
theorem proved:Rows.DistanceMovedSaid:=
 OpenClaim.holds_of_wide 10 Tryz.f10 rfl rfl rfl rfl rfl rfl rfl ⟨rfl,rfl,rfl,rfl,rfl⟩ rfl rfl rfl rfl rfl (by kernel_rfl) Tryz.func10 (by kernel_rfl)
  (of_decide_eq_true (by kernel_rfl)) (by unfold Func.isWrapper;first|(rw[if_pos (by decide+kernel)];kernel_rfl)|(rw[if_neg (by decide+kernel)];exact⟨rfl,rfl⟩))
  (fun os started H enc _=>lifted os started H enc)
end Go.Proofs.YtlahabkjhgkkjaaGreat.lawDistanceMoved
