/- The answer for a point's distance is about the least square of all distances. -/
import Derived.Test.YtnkndpoojnflmaaGreatH15
import Derived.Test.YtnkndpoojnflmaaGreatH13
noncomputable section
namespace Go.Proofs.YtnkndpoojnflmaaGreat
open Go.RowKit Go.IntKind
theorem aoq:type_of% @List.mem_filter:=@List.mem_filter
theorem aoK:type_of% @List.any_cons:=@List.any_cons
namespace RE
theorem Gr{c:Cv}(ha:c.1=false):onE c=segE (lnC c) (pR (frC c)) (pR (toC c)):=by funext p;unfold onE;rw[ha];rfl
theorem GK{c:Cv}(ha:c.1=true):onE c=arcE (ciC c) (pR (ccF c)) (pR (ccT c)):=by funext p;unfold onE;rw[ama ha]
structure alC (c:Cv):Prop where
 q:0<(ciC c).2.2
 u:fw (ciC c) (pR (ccF c))
 w:fw (ciC c) (pR (ccT c))
 ne:frm (ciC c) (pR (ccF c))≠frm (ciC c) (pR (ccT c))
theorem VM{c:Ln}{p q:PE}(e:frm c p=frm c q):p=q:=amV (gE _ _ _ (congrArg Prod.fst e)) (gE _ _ _ (congrArg Prod.snd e))
end RE
section
def vI(x u y v k:Rat):Pt:=mkP (mkR x u k) (mkR y v k)
def ftL(l c:Ln):Rat×Rat:=(ftX l c,ftY l c)
def yo(l c:Ln):Rat:=(ftX l c-c.1)*(ftX l c-c.1)+(ftY l c-c.2.1)*(ftY l c-c.2.1)
def d9(l c:Ln):Rat:=(c.2.2-yo l c)/cj l
def EG(l:Ln):Bool:=decide (l.2.1<0)||(decide (l.2.1=0)&&decide (-l.1<0))
def qC(l:Ln):Rat:=bif EG l then-l.2.1 else l.2.1
def qG(l:Ln):Rat:=bif EG l then- -l.1 else-l.1
def lcM(l c:Ln):Pt:=vI (ftX l c) (-qC l) (ftY l c) (-qG l) (d9 l c)
def lcN(l c:Ln):Pt:=vI (ftX l c) (qC l) (ftY l c) (qG l) (d9 l c)
def kE(l c:Ln):List Pt:=bif decide (d9 l c<0)then []else bif decide (d9 l c=0)then [atP (ftL l c)]else [lcM l c,lcN l c]
def Sg(l m:Ln):Int:=bif !decide (dk l m=0)then 0 else bif lU l m then 10 else 0
def rJ(c d:Ln):List Pt:=bif gM c d then []else kE (mU c d) c
def VR(c d:Ln):Int:=bif ni c d then 10 else 0
def gi(a b:Cv):List Pt:=bif a.1&&b.1 then rJ (ciC a) (ciC b)else bif a.1 then kE (lnC b) (ciC a)else bif b.1 then kE (lnC a) (ciC b)else lk (lnC a) (lnC b)
def af4(a b:Cv):Int:=bif a.1&&b.1 then VR (ciC a) (ciC b)else bif a.1 then 0 else bif b.1 then 0 else Sg (lnC a) (lnC b)
theorem UH(l c:Ln):dV l (c.1,c.2.1)=ftL l c:=rfl
theorem Qp{x u y v k:Rat}[h:Nn k]:Rpd (vI x u y v k):=WE tW tW (qr _ _ _ _ _)
section
variable {l c:Ln}
theorem acm [BdL l]:Bd (qC l) 12∧Bd (qG l) 12:=by
 unfold qC qG
 cases EG l
 ·exact⟨(inferInstance:Bd l.2.1 12),(inferInstance:Bd (-l.1) 12)⟩
 ·exact⟨(inferInstance:Bd (-l.2.1) 12),(inferInstance:Bd (- -l.1) 12)⟩
end
theorem OX{x u y v k:Rat}{a b c:Nat}(h1:Bd x a)(h2:Bd u b)(h3:Bd y a)(h4:Bd v b)(h5:Bd k c){n:Nat}(hn:a+(b+c)+1≤n):Bd (vI x u y v k) n:=by
 have z:bdR n 0:=bJ lR.le (by omega)
 have i1:Bd (mkR x u k) (a+(b+c)+1):=inferInstance
 have i2:Bd (mkR y v k) (a+(b+c)+1):=inferInstance
 have f1:=i1.mono hn
 have f2:=i2.mono hn
 refine⟨?_⟩
 unfold vI mkP rdP
 dsimp only
 refine⟨f1.le.1,f1.le.2.1,f2.le.1,f2.le.2.1,?_⟩
 cases decide ((mkR x u k).2.1=0)&&decide ((mkR y v k).2.1=0)
 ·cases decide ((mkR x u k).2.1=0)
  ·exact f1.le.2.2
  ·exact f2.le.2.2
 ·exact z
section
variable {l c:Ln}
theorem On [BdL l][h:BdC c]:Bd (d9 l c) 1000:=by
 obtain⟨f1,f2,_,_⟩:=uS (l:=l) (c:=c)
 have hx:=h.x
 have hy:=h.y
 have hq:=h.q
 have i1:Bd (cj l) 49:=inferInstanceAs (Bd (l.1*l.1+l.2.1*l.2.1) _)
 have i2:Bd (yo l c) 673:=(inferInstance:Bd ((ftX l c-c.1)*(ftX l c-c.1)+(ftY l c-c.2.1)*(ftY l c-c.2.1)) _).mono (by decide)
 exact(inferInstance:Bd ((c.2.2-yo l c)/cj l) _).mono (by decide)
theorem FE [BdL l][h:BdC c]:Bd (ftL l c) 163:=by
 obtain⟨f1,f2,_,_⟩:=uS (l:=l) (c:=c)
 exact(inferInstance:Bd ((ftX l c,ftY l c):Rat×Rat) _).mono (by decide)
theorem act [BdL l][BdC c]:Bd (lcM l c) 1200∧Bd (lcN l c) 1200:=by
 obtain⟨f1,f2,_,_⟩:=uS (l:=l) (c:=c)
 obtain⟨d1,d2⟩:=acm (l:=l)
 have k:=On (l:=l) (c:=c)
 have n1:Bd (-qC l) 12:=inferInstance
 have n2:Bd (-qG l) 12:=inferInstance
 exact⟨OX f1 n1 f2 n2 k (by decide),OX f1 d1 f2 d2 k (by decide)⟩
theorem sO [BdL l][BdC c]:(kE l c).length≤2∧∀p∈kE l c,Bd p 1200∧Rpd p:=by
 unfold kE
 by_cases h0:d9 l c<0
 ·rw[alF h0]
  exact⟨by simp,fun p hp=>by cases hp⟩
 ·rw[alH h0]
  by_cases h1:d9 l c=0
  ·rw[alF h1]
   have:=FE (l:=l) (c:=c)
   refine⟨by simp,fun p hp=>?_⟩
   have:p=atP (ftL l c):=by simpa using hp
   rw[this]
   exact⟨(inferInstance:Bd (atP (ftL l c)) _).mono (by decide),inferInstance⟩
  ·rw[alH h1]
   obtain⟨q1,q2⟩:=act (l:=l) (c:=c)
   have nn:Nn (d9 l c):=⟨by grind⟩
   refine⟨by simp,fun p hp=>?_⟩
   have:p=lcM l c∨p=lcN l c:=by simpa using hp
   rcases this with e|e<;>rw[e]
   ·exact⟨q1,Qp⟩
   ·exact⟨q2,Qp⟩
end
end
section
namespace RE
theorem ajP(A B x y u v s:RE):A*(x+u*s)+B*(y+v*s)=(A*x+B*y)+(A*u+B*v)*s:=by grind
theorem ajO(x y u v s p q:RE):(x+u*s-p)*(x+u*s-p)+(y+v*s-q)*(y+v*s-q)=((x-p)*(x-p)+(y-q)*(y-q))+((x-p)*u+(y-q)*v)*s+((x-p)*u+(y-q)*v)*s+(u*u+v*v)*(s*s):=by grind
theorem ajT(b n r:RE):b*(r*n)=b*n*r:=by grind
theorem ajJ(r n:RE):r*n*(r*n)=r*r*(n*n):=by grind
theorem ajv(x y p q a b m n:RE):(x-a)*(x-a)+(y-b)*(y-b)=((x-p)*(x-p)+(y-q)*(y-q))+(a*a+b*b-m)-(p*p+q*q-n)-((1+1)*(a-p)*x+(1+1)*(b-q)*y)+(m-n):=by grind
theorem ak6(a b n m:RE):n+a-b-(a-b)+(m-n)=m:=by grind
theorem o9(x u y v k:Rat):pR (vI x u y v k)=(v2 x u k,v2 y v k):=by
 unfold vI
 rw[WW (qr _ _ _ _ _),vR_mk,vR_mk]
section
variable {l c:Ln}
theorem IF(hl:l.1≠0∨l.2.1≠0):0<cj l:=by
 have h:=nQ hl
 have h1:0≤cj l:=pi (l.1,l.2.1)
 grind
theorem FL(hl:l.1≠0∨l.2.1≠0):d9 l c*(cj l*cj l)=jx l c:=by
 have hn:=nQ hl
 have t:vlL l c.1 c.2.1/cj l*cj l=vlL l c.1 c.2.1:=al5 hn
 have k:(c.2.2-yo l c)/cj l*cj l=c.2.2-yo l c:=al5 hn
 unfold d9
 rw[←Rat.mul_assoc,k]
 unfold yo ftX ftY jx
 generalize vlL l c.1 c.2.1/cj l=s at*
 rw[←t]
 unfold cj
 grind
theorem adX(hl:l.1≠0∨l.2.1≠0):(d9 l c<0↔jx l c<0)∧(d9 l c=0↔jx l c=0):=by
 have hn:=IF hl
 have h2:0<cj l*cj l:=amy hn hn
 have e:=FL (c:=c) hl
 rcases(by grind:d9 l c<0∨d9 l c=0∨0<d9 l c)with h|h|h
 ·have:=amy (show 0< -d9 l c by grind) h2
  have e2: -d9 l c*(cj l*cj l)= -jx l c:=by rw[Rat.neg_mul,e]
  rw[e2]at this
  constructor<;>constructor<;>intro<;>grind
 ·rw[h,Rat.zero_mul]at e
  constructor<;>constructor<;>intro<;>grind
 ·have:=amy h h2
  rw[e]at this
  constructor<;>constructor<;>intro<;>grind
theorem acr(hl:l.1≠0∨l.2.1≠0)(h0:0≤d9 l c):rq (jx l c)=rq (d9 l c)*of (cj l):=by
 have hn:=IF hl
 have hr:0≤jx l c:=by
  rw[←FL hl]
  exact al8 h0 (al8 (by grind) (by grind))
 refine Ji _ _ (qM _) (bi (qM _) (jQ.2 (by grind))) ?_
 rw[ajJ,fS hr,fS h0,←aF,←aF,FL hl]
theorem A4(hl:l.1≠0∨l.2.1≠0)(h0:0≤d9 l c)(a b:Rat):v2 a b (d9 l c)=v2 a (b/cj l) (jx l c):=by
 unfold v2
 rw[acr hl h0,ajT,←aF,al5 (nQ hl)]
theorem ndv(a b:Rat): -a/b= -(a/b):=by rw[aom,aom,Rat.neg_mul]
theorem akU(hl:l.1≠0∨l.2.1≠0)(v:PE):(∃p∈kE l c,pR p=v)↔∃p∈re l c,pR p=v:=by
 obtain⟨s1,s2⟩:=adX (c:=c) hl
 unfold kE re
 by_cases h0:d9 l c<0
 ·rw[alF h0,alF (s1.1 h0)]
  exact Iff.rfl
 ·rw[alH h0,alH (fun h=>h0 (s1.2 h))]
  by_cases h1:d9 l c=0
  ·rw[alF h1,alF (s2.1 h1)]
   exact Iff.rfl
  ·rw[alH h1,alH (fun h=>h1 (s2.2 h))]
   have hp:0≤d9 l c:=by grind
   have e:(pR (lcM l c)=pR (tX l c)∧pR (lcN l c)=pR (se l c))∨(pR (lcM l c)=pR (se l c)∧pR (lcN l c)=pR (tX l c)):=by
    unfold lcM lcN tX se
    rw[o9,o9,uW,uW,A4 hl hp,A4 hl hp,A4 hl hp,A4 hl hp]
    unfold qC qG
    cases EG l
    ·left
     simp only[cond_false,ndv,aoN,and_self]
    ·right
     simp only[cond_true,ndv,aoN,and_self]
   have m2:∀{a b:Pt},(∃p∈[a,b],pR p=v)↔(pR a=v∨pR b=v):=fun{a b}=>by simp
   simp only[cond_false]
   cases decide (aX (tX l c) (se l c)>0)
   ·simp only[cond_false]
    rw[m2,m2]
    rcases e with⟨e1,e2⟩|⟨e1,e2⟩<;>rw[e1,e2]
    exact Or.comm
   ·simp only[cond_true]
    rw[m2,m2]
    rcases e with⟨e1,e2⟩|⟨e1,e2⟩<;>rw[e1,e2]
    exact Or.comm
theorem FG(hl:l.1≠0∨l.2.1≠0){u v k:Rat}(hk:0≤k)(h1:l.1*u+l.2.1*v=0)(h2:yo l c+(u*u+v*v)*k=c.2.2):fx l (v2 (ftX l c) u k,v2 (ftY l c) v k)∧fw c (v2 (ftX l c) u k,v2 (ftY l c) v k):=by
 have hn:=nQ hl
 have t:vlL l c.1 c.2.1/cj l*cj l=vlL l c.1 c.2.1:=al5 hn
 have e1:l.1*ftX l c+l.2.1*ftY l c=l.2.2:=by
  unfold ftX ftY
  generalize vlL l c.1 c.2.1/cj l=s at*
  unfold cj vlL at t
  grind
 have e3:(ftX l c-c.1)*u+(ftY l c-c.2.1)*v=0:=by
  unfold ftX ftY
  generalize vlL l c.1 c.2.1/cj l=s at*
  have:(c.1-s*l.1-c.1)*u+(c.2.1-s*l.2.1-c.2.1)*v= -s*(l.1*u+l.2.1*v):=by grind
  rw[this,h1,Rat.mul_zero]
 unfold fx fw frm v2
 dsimp only
 constructor
 ·rw[ajP,←aF,←aF,←aF,←aF,←of_add,←of_add,e1,h1,nS,zero_mul,add_zero]
 ·rw[ajO,fS hk,←of_sub,←of_sub,←aF,←aF,←aF,←aF,←aF,←aF,←of_add,←of_add,←of_add,e3,nS,zero_mul,add_zero,add_zero,←aF,←of_add]
  exact congrArg of h2
theorem aa3(_hl:l.1≠0∨l.2.1≠0):l.1*qC l+l.2.1*qG l=0∧qC l*qC l+qG l*qG l=cj l:=by
 unfold qC qG cj
 cases EG l
 ·simp only[cond_false];constructor<;>grind
 ·simp only[cond_true];constructor<;>grind
theorem I7(hl:l.1≠0∨l.2.1≠0){p:Pt}(hp:p∈kE l c):fx l (pR p)∧fw c (pR p):=by
 have hn:=nQ hl
 have k:d9 l c*cj l=c.2.2-yo l c:=al5 hn
 obtain⟨d1,d2⟩:=aa3 hl
 unfold kE at hp
 by_cases h0:d9 l c<0
 ·rw[alF h0]at hp
  cases hp
 ·rw[alH h0]at hp
  by_cases h1:d9 l c=0
  ·rw[alF h1]at hp
   have:p=atP (ftL l c):=by simpa using hp
   rw[this,lE]
   have:=FG (c:=c) (u:=0) (v:=0) (k:=0) hl (by decide) (by grind) (by rw[h1]at k;grind)
   rw[dN,dN]at this
   exact this
  ·rw[alH h1]at hp
   have hk:0≤d9 l c:=by grind
   have:p=lcM l c∨p=lcN l c:=by simpa using hp
   rcases this with e|e
   ·rw[e]
    unfold lcM
    rw[o9]
    refine FG hl hk (by grind) ?_
    rw[show-qC l* -qC l+ -qG l* -qG l=cj l by rw[←d2];grind,anu,k]
    grind
   ·rw[e]
    unfold lcN
    rw[o9]
    refine FG hl hk d1 ?_
    rw[d2,anu,k]
    grind
end
theorem LD{c d:Ln}{v:PE}(hl:fx (mU c d) v)(hc:fw c v):fw d v:=by
 unfold fx mU qB at hl
 unfold fw frm at*
 dsimp only at*
 have o2:of 2=1+1:=by
  rw[←As,←of_add]
  exact congrArg of (by decide+kernel)
 rw[ajv v.1 v.2 (of c.1) (of c.2.1) (of d.1) (of d.2.1) (of d.2.2) (of c.2.2),hc]
 simp only[of_sub,aF,of_add,o2]at hl
 rw[hl,ak6]
theorem aaT{l m:Ln}{p:Pt}(hp:p∈lk l m):fx l (pR p)∧fx m (pR p):=by
 unfold lk at hp
 by_cases h0:dk l m=0
 ·rw[alF h0]at hp
  cases hp
 ·rw[alH h0]at hp
  have:p=atP (lj l m/dk l m,ln l m/dk l m):=by simpa using hp
  rw[this,lE]
  have ex:lj l m/dk l m*dk l m=lj l m:=al5 h0
  have ey:ln l m/dk l m*dk l m=ln l m:=al5 h0
  have key:∀a b q:Rat,a*lj l m+b*ln l m=q*dk l m→a*(lj l m/dk l m)+b*(ln l m/dk l m)=q:=fun a b q e=>by
   generalize lj l m/dk l m=x at*
   generalize ln l m/dk l m=y at*
   rw[←ex,←ey]at e
   have:(a*x+b*y-q)*dk l m=0:=by grind
   rcases anX.1 this with h|h
   ·grind
   ·exact absurd h h0
  unfold fx
  rw[←aF,←aF,←of_add,←aF,←aF,←of_add,key l.1 l.2.1 l.2.2 (by unfold lj ln dk;grind),key m.1 m.2.1 m.2.2 (by unfold lj ln dk;grind)]
  exact⟨rfl,rfl⟩
end RE
end
def jR(c:BCU)(l:List BCU):List BP:=(l.map (rl c)).flatten
def wV(x:Pce):Prop:=yO x.1∧yO x.2.1∧u8P x.2.2
instance (x:Pce):Decidable (wV x):=by unfold wV;infer_instance
def DL(x:Pce):List BCU:=match ofL x.1 with
 |[]=>[]
 |c::_=>lm c (jR c (ofL x.2.1))
def w9(x:Pce):Bool:=!(ofL x.1).isEmpty
def kS(x:Pce):BCU:=bif w9 x then(DL x).getD (x.2.2%((DL x).length:Int)).toNat c00 else c00
def XM:List En:=[enL afs,enL afp,enK agO]
def Th:NT:=[((11,18),{keep:=[1,2,4,5,6,7],own:=[(6,37,tP)],hl:=3})]
def Gi:Ctx:=CX (ens XM) Th
def tz(x:Pce)(s7:Int)(r2:List BP):Cfg:=⟨11,[.blk 0,.seq 31],[(1,.box 0 0),(2,.box 1 0),(4,.d (.sl tCU) (ofL x.1)),(5,.d (.sl tCU) (ofL x.2.1)),(6,.own 2),(7,SI s7)],[.box 26 [.d (.int .u8) x.1.1,.d (.int .u8) x.1.2.1,.d (.int .i8) x.1.2.2.1,.d (.int .i8) x.1.2.2.2.1,.d (.int .i8) x.1.2.2.2.2.1,.d (.int .i8) x.1.2.2.2.2.2.1,.d (.int .i8) x.1.2.2.2.2.2.2.1,.d (.int .i8) x.1.2.2.2.2.2.2.2,.d (.int .u8) x.2.1.1,.d (.int .u8) x.2.1.2.1,.d (.int .i8) x.2.1.2.2.1,.d (.int .i8) x.2.1.2.2.2.1,.d (.int .i8) x.2.1.2.2.2.2.1,.d (.int .i8) x.2.1.2.2.2.2.2.1,.d (.int .i8) x.2.1.2.2.2.2.2.2.1,.d (.int .i8) x.2.1.2.2.2.2.2.2.2,.d (.int .u8) x.2.2],.box 39 [SB false,SB false,.nil,SB false,.nil,SB false,.nil,SB false,.nil,SB false,.nil,SB false,.nil,SB false,.nil,SB false,.nil,SB false,.nil,SB false,.nil,SB false,.nil,SB false,.nil,SB false,SB false,.nil,SB false,.nil,SB false,.nil,SB false,.nil,SB false,.nil,SB false,.nil,SB false,.nil,SB false,.nil,SB false,.nil,SB false,.nil,SB false,.nil,SB false,.nil,SB false,.nil,SB false,.nil,SB false,.nil,SB false,.nil,SB false,.nil,SB false,.nil,SB false,.nil,SB false,.nil],.row 37 tP r2],0,[]⟩
def Qu(x:Pce)(k:KT):Option (List RV):=og (decide (yO x.1)) (og (decide (yO x.2.1)) (match((ofL x.1).length:Int)==0 with|true=>some [RV.d tCU (false,((((false,[]),(false,[])),(((false,[]),(false,[])),((false,[]),(false,[])))),((((false,[]),(false,[])),(((false,[]),(false,[])),((false,[]),(false,[])))),(false,((((false,[]),(false,[])),(((false,[]),(false,[])),(((false,[]),(false,[])),(((false,[]),(false,[])),((false,[]),(false,[])))))),(((false,[]),(false,[])),(((false,[]),(false,[])),(((false,[]),(false,[])),(((false,[]),(false,[])),((false,[]),(false,[]))))))))))),RV.d .bool false]|false=>k 18 (tz x 0 ([]))))
theorem abp(x:Pce):RS Gi 11 [.d xS x] (Qu x):=rsX
def rP(x:Pce)(s7:Int)(r2:List BP)(k:KT):Option (List RV):=match decide (s7<((ofL x.2.1).length:Int))with|true=>(match aR (ofL x.1) 0 with|some x1=>(match aR (ofL x.2.1) s7 with|some x2=>(og (decide (gj x1 x2)) (og (decide ((r2.length+(rl x1 x2).length)*320≤140737488355328∧r2.length+(rl x1 x2).length≤140737488355328)) (k 18 (tz x (i64.wrap (s7+1)) (r2++(rl x1 x2))))))|none=>none)|none=>none)|false=>(match aR (ofL x.1) 0 with|some x1=>(og (decide (EK x1 r2)) (match decide (((lm x1 r2).length:Int)=(0:Int))with|true=>none|false=>(match aR (lm x1 r2) (Int.tmod (i64.wrap x.2.2) ((lm x1 r2).length:Int))with|some x2=>some [RV.d tCU x2,RV.d .bool true]|none=>none)))|none=>none)
theorem ye(x:Pce)(s7:Int)(r2:List BP):RN Gi 18 (tz x s7 r2) (rP x s7 r2):=rnX
theorem GY{c d:BCU}(h:gj c d):(rl c d).length≤4∧∀x∈rl c d,okP 580 x∧onR (dC c) (dec x)=true∧onR (dC d) (dec x)=true:=by
 obtain⟨h1,h2⟩:=Jd h
 unfold rl UY
 have h3:=wu (dC c) ((yR c d).filter fun p=>onR (dC c) (dec p)&&onR (dC d) (dec p)) []
 have h4:=List.length_filter_le (fun p=>onR (dC c) (dec p)&&onR (dC d) (dec p)) (yR c d)
 refine⟨by
  unfold gZ
  rw[List.length_nil,aml]at h3
  exact alU h3 (alU h4 h1),I9 fun x hx=>?_⟩
 obtain⟨g1,g2⟩:=aoq.1 hx
 obtain⟨g3,g4⟩:=alQ.1 g2
 exact⟨h2 x g1,g3,g4⟩
theorem Rv(c:Cv)(x:BP):∀r:List BP,r.length≤(iB c r x).length
 |[]=>by simp
 |z::r=>by
  have:=Rv c x r
  simp only[iB]
  cases decide (dg c (dec z) (dec x)<0)
  ·cases aX (dec z) (dec x)==0<;>simp
  ·simp only[cond_true,alY];omega
theorem Qh(c:Cv):∀(l out:List BP),out.length≤(l.foldl (iB c) out).length
 |[],_=>alL _
 |x::l,out=>alU (Rv c x out) (Qh c l _)
theorem Ix(c:BCU):∀s:List BP,(wU c s).length=s.length-1
 |[]=>rfl
 |[_]=>rfl
 |x::y::r=>by
  have:=Ix c (y::r)
  simp only[wU,alY]at this ⊢
  omega
theorem Vg{c:BCU}(h:aX (dec c.2.2.2.2.1) (dec c.2.2.2.2.2)≠0)(l:List BP):2≤(sM c l).length:=by
 unfold sM gZ
 refine alU ?_ (Qh (dC c) l _)
 simp only[iB]
 rw[anH.2 h]
 cases decide (dg (dC c) (dec c.2.2.2.2.1) (dec c.2.2.2.2.2)<0)<;>exact alL _
theorem II{c:BCU}(h:gdN c)(l:List BP):1≤(lm c l).length∧(lm c l).length≤l.length+1:=by
 have h1:=Vg h.2.2.2 l
 have h2:=G5 c l
 unfold lm
 rw[Ix]
 omega
theorem Um{c:BCU}(h:gdN c){l:List BP}(hl:l.length≤900000)(ho:∀p∈l,okP 580 p∧onR (dC c) (dec p)=true):EK c l:=
 ⟨cg h.1.1 (by decide) (by decide),hl,fun x hx=>⟨cK (ho x hx).1 (by decide) (by decide),(ho x hx).2⟩⟩
def gdM(c:BCU):Prop:=mG c∧ge (dC c) (frC (dC c))=true∧ge (dC c) (toC (dC c))=true
theorem gdM.gd{c:BCU}(h:gdM c):gdC c:=⟨h.1.1,h.2.1,h.2.2⟩
theorem gdN.m{c:BCU}(h:gdN c):gdM c:=⟨h.1,h.2.1,h.2.2.1⟩
theorem aat{c:BCU}(h:gdN c){l:List BP}(ho:∀p∈l,okP 580 p∧onR (dC c) (dec p)=true):∀p∈lm c l,gdM p:=by
 intro p hp
 obtain⟨x,y,hx,hy,e⟩:=AJ hp
 have f:∀z,z∈sM c l→okP 580 z∧ge (dC c) (dec z)=true:=fun z hz=>by
  rcases Cf hz with e|e|e
  ·rw[e];exact⟨h.1.1.2.2.1,h.2.1⟩
  ·rw[e];exact⟨h.1.1.2.2.2,h.2.2.1⟩
  ·exact⟨(ho z e).1,(alQ.1 (ho z e).2).1⟩
 obtain⟨x1,x2⟩:=f x hx
 obtain⟨y1,y2⟩:=f y hy
 rw[e]
 exact⟨⟨⟨h.1.1.1,h.1.1.2.1,x1,y1⟩,h.1.2⟩,x2,y2⟩
theorem acV(x:Dr):(ofL x).length≤2:=by
 unfold ofL
 cases x.1%3==2
 ·cases x.1%3==1
  ·cases segE (drA x) (drB x) !=0<;>simp
  ·cases arcE (drA x) (drB x) (drC x) !=0<;>simp
 ·cases decide ((drB x).1≤0)
  ·unfold tk;simp
  ·simp
theorem NE{c:BCU}(h:gdN c):∀{l:List BCU},(∀d∈l,gdN d)→(jR c l).length≤4*l.length∧∀p∈jR c l,okP 580 p∧onR (dC c) (dec p)=true
 |[],_=>⟨alL _,fun p hp=>by cases hp⟩
 |d::r,hd=>by
  obtain⟨i1,i2⟩:=NE h (l:=r) (fun e he=>hd e (alV _ he))
  obtain⟨m1,m2⟩:=GY (show gj c d from⟨h.1,(hd d (by simp)).1⟩)
  have e:jR c (d::r)=rl c d++jR c r:=rfl
  rw[e]
  refine⟨by rw[amf,alY];omega,fun p hp=>?_⟩
  rcases amr.1 hp with g|g
  ·exact⟨(m2 p g).1,(m2 p g).2.1⟩
  ·exact i2 p g
def ZC(x:Pce)(l:List BCU):BCU:=l.getD (x.2.2%(l.length:Int)).toNat c00
theorem T5(x:Pce)(h:wV x)(c:BCU)(hc:gdN c)(g0:aR (ofL x.1) 0=some c)(B:List BCU)(hB:ofL x.2.1=B)(gB:∀d∈B,gdN d)(lB:B.length≤2):∀(j i:Nat),i+j=B.length→∀r2:List BP,r2.length≤4*i→(∀p∈r2,okP 580 p∧onR (dC c) (dec p)=true)→
  Gi.Runs 18 (tz x (i:Int) r2) [.d tCU (ZC x (lm c (r2++jR c (B.drop i)))),.d .bool true]:=by
 intro j
 induction j with
 |zero=>
  intro i hi r2 hr ho
  refine ye _ _ _ ⟨0,?_⟩
  obtain⟨l1,l2⟩:=II hc r2
  have hs:=Um hc (l:=r2) (by omega) ho
  obtain⟨u1,u2⟩:=h.2.2
  have e1:Int.tmod (i64.wrap x.2.2) ((lm c r2).length:Int)=x.2.2%((lm c r2).length:Int):=by
   rw[aT (by omega) (by omega),Int.tmod_eq_emod_of_nonneg u1]
  have m0:=amK x.2.2 (show((lm c r2).length:Int)≠0 by omega)
  have m1:=amp x.2.2 (show 0<((lm c r2).length:Int) by omega)
  obtain⟨k,hk⟩:=amO m0
  have hkl:k<(lm c r2).length:=by omega
  have hd:B.drop i=[]:=List.drop_eq_nil_iff.2 (by omega)
  have hcut:jR c []=[]:=rfl
  unfold rP
  rw[hB,b9 (by omega),g0]
  dsimp only
  rw[dT hs,dF (show ¬((lm c r2).length:Int)=0 by omega),e1,hk,ao,alG hkl,hd,hcut,ame]
  unfold ZC
  rw[hk,anm,List.getD_eq_getElem?_getD,alG hkl]
  rfl
 |succ j ih=>
  intro i hi r2 hr ho
  have hil:i<B.length:=by omega
  have hm:gj c B[i]:=⟨hc.1,(gB _ (amh hil)).1⟩
  obtain⟨m1,m2⟩:=GY hm
  obtain⟨n,hn⟩:=ih (i+1) (by omega) (r2++rl c B[i]) (by rw[amf];omega) (fun p hp=>by
   rcases amr.1 hp with g|g
   ·exact ho p g
   ·exact⟨(m2 p g).1,(m2 p g).2.1⟩)
  have hd:B.drop i=B[i]::B.drop (i+1):=al1 hil
  have hcut:jR c (B[i]::B.drop (i+1))=rl c B[i]++jR c (B.drop (i+1)):=rfl
  refine ye _ _ _ ⟨n,?_⟩
  unfold rP
  rw[hB,bH hil,g0,ao,alG hil]
  dsimp only
  rw[dT hm,dT (by omega),bV (by omega),hd,hcut,←al7]
  exact hn
def adb:Cn 11 [xS]:=cn fun(x:Pce)=>lf (wV x) [.d tCU (kS x),.d .bool (w9 x)] fun h=>by
 have hB:=vf h.2.1
 have hA:=vf h.1
 refine cZ XM (abp _ ?_)
 unfold Qu kS w9
 rw[dT h.1,dT h.2.1]
 cases hl:ofL x.1 with
 |nil=>exact⟨0,rfl⟩
 |cons c r=>
  rw[hl]at hA
  obtain⟨n,hn⟩:=T5 x h c (hA c (by simp)) (by rw[hl];rfl) _ rfl hB (acV _) _ 0 (aml _) [] (alL _) (fun p hp=>by cases hp)
  refine⟨n,?_⟩
  have e:(((c::r).length:Int)==0)=false:=by simp;omega
  rw[e]
  unfold DL
  rw[hl]
  exact hn
theorem He{x:Pce}(h:wV x)(ho:w9 x=true):kS x∈DL x:=by
 have hA:=vf h.1
 unfold kS DL
 rw[ho]
 unfold w9 at ho
 cases hl:ofL x.1 with
 |nil=>rw[hl]at ho;cases ho
 |cons c r=>
  rw[hl]at hA
  obtain⟨l1,l2⟩:=II (hA c (by simp)) (jR c (ofL x.2.1))
  have m0:=amK x.2.2 (show((lm c (jR c (ofL x.2.1))).length:Int)≠0 by omega)
  have m1:=amp x.2.2 (show 0<((lm c (jR c (ofL x.2.1))).length:Int) by omega)
  have hk:(x.2.2%((lm c (jR c (ofL x.2.1))).length:Int)).toNat<(lm c (jR c (ofL x.2.1))).length:=by omega
  simp only[cond_true]
  rw[List.getD_eq_getElem?_getD,alG hk]
  exact amh hk
section
section
variable {α:Type} {lt:α→α→Prop} {f:α→α→Int}
theorem LZ(h:oD lt):oD (fun x y=>lt y x):=⟨h.irr,fun x y z a b=>h.tr z y x b a,fun x y=>by
 rcases h.tri x y with g|g|g
 ·exact .inr (.inr g)
 ·exact .inr (.inl g)
 ·exact .inl g⟩
theorem JR(h:t7 lt f):t7 (fun x y=>lt y x) (fun x y=> -f x y):=fun x y=>⟨fun g=>(by show-f x y= -1;rw[(h x y).2.2 g]),fun g=>(by show-f x y=0;rw[(h x y).2.1 g];rfl),fun g=>(by show-f x y=1;rw[(h x y).1 g];rfl)⟩
def aLt(lt:α→α→Prop)(u v:Bool×α):Prop:=(u.1=false∧v.1=true)∨(u.1=false∧v.1=false∧lt u.2 v.2)∨(u.1=true∧v.1=true∧lt v.2 u.2)
theorem KO(h:oD lt):oD (aLt lt):=by
 refine⟨fun⟨a,u⟩ g=>?_,fun⟨a,u⟩ ⟨b,v⟩ ⟨c,w⟩ g g'=>?_,fun⟨a,u⟩ ⟨b,v⟩=>?_⟩
 ·rcases g with⟨g1,g2⟩|⟨_,_,g⟩|⟨_,_,g⟩
  ·rw[g1]at g2;cases g2
  ·exact h.irr _ g
  ·exact h.irr _ g
 ·unfold aLt at*
  cases a<;>cases b<;>cases c<;>simp only[true_and,false_and,and_false,aoU,aob,false_or,reduceCtorEq,and_self]at g g' ⊢
  ·exact h.tr _ _ _ g g'
  ·exact h.tr _ _ _ g' g
 ·unfold aLt
  cases a<;>cases b<;>simp only[true_and,false_and,and_false,aoU,aob,false_or,reduceCtorEq,and_self,or_true,true_or]
  ·rcases h.tri u v with g|g|g
   ·exact .inl g
   ·exact .inr (.inl (by rw[g]))
   ·exact .inr (.inr g)
  ·rcases h.tri u v with g|g|g
   ·exact .inr (.inr g)
   ·exact .inr (.inl (by rw[g]))
   ·exact .inl g
theorem P1(h:t7 lt f):t7 (aLt lt) (jI f):=fun⟨a,u⟩ ⟨b,v⟩=>by
 refine⟨fun g=>?_,fun g=>?_,fun g=>?_⟩
 ·unfold aLt at g
  unfold jI
  cases a<;>cases b<;>simp only[true_and,false_and,and_false,aoU,aob,false_or,reduceCtorEq,and_self]at g
  ·exact(h u v).1 g
  ·rfl
  ·show-f u v= -1
   rw[(h u v).2.2 g]
 ·injection g with g1 g2
  subst g1 g2
  unfold jI
  have:=(h u u).2.1 rfl
  cases a
  ·exact this
  ·show-f u u=0
   rw[this];rfl
 ·unfold aLt at g
  unfold jI
  cases a<;>cases b<;>simp only[true_and,false_and,and_false,aoU,aob,false_or,reduceCtorEq,and_self]at g
  ·exact(h u v).2.2 g
  ·rfl
  ·show-f u v=1
   rw[(h u v).1 g];rfl
def cLt(lt:α→α→Prop)(o u v:α):Prop:=(¬lt u o∧lt v o)∨((lt u o↔lt v o)∧lt u v)
theorem WG(h:oD lt)(o:α):oD (cLt lt o):=by
 refine⟨fun u g=>?_,fun u v w g g'=>?_,fun u v=>?_⟩
 ·rcases g with⟨g1,g2⟩|⟨_,g⟩
  ·exact g1 g2
  ·exact h.irr _ g
 ·rcases g with⟨g1,g2⟩|⟨g1,g2⟩<;>rcases g' with⟨g3,g4⟩|⟨g3,g4⟩
  ·exact absurd g2 g3
  ·exact .inl ⟨g1,g3.1 g2⟩
  ·exact .inl ⟨fun e=>g3 (g1.1 e),g4⟩
  ·exact .inr ⟨g1.trans g3,h.tr _ _ _ g2 g4⟩
 ·by_cases e1:lt u o<;>by_cases e2:lt v o
  ·rcases h.tri u v with g|g|g
   ·exact .inl (.inr ⟨⟨fun _=>e2,fun _=>e1⟩,g⟩)
   ·exact .inr (.inl g)
   ·exact .inr (.inr (.inr ⟨⟨fun _=>e1,fun _=>e2⟩,g⟩))
  ·exact .inr (.inr (.inl ⟨e2,e1⟩))
  ·exact .inl (.inl ⟨e1,e2⟩)
  ·rcases h.tri u v with g|g|g
   ·exact .inl (.inr ⟨⟨fun e=>absurd e e1,fun e=>absurd e e2⟩,g⟩)
   ·exact .inr (.inl g)
   ·exact .inr (.inr (.inr ⟨⟨fun e=>absurd e e2,fun e=>absurd e e1⟩,g⟩))
theorem yi(hl:oD lt)(h:t7 lt f)(x y:α):decide (f x y<0)=true↔lt x y:=by
 rw[amL]
 rcases hl.tri x y with g|g|g
 ·rw[(h x y).1 g];exact⟨fun _=>g,fun _=>by decide⟩
 ·rw[(h x y).2.1 g];exact⟨fun e=>absurd e (by decide),fun e=>absurd e (by rw[g];exact hl.irr _)⟩
 ·rw[(h x y).2.2 g];exact⟨fun e=>absurd e (by decide),fun e=>absurd (hl.tr _ _ _ e g) (hl.irr _)⟩
theorem C9(hl:oD lt)(h:t7 lt f)(o:Bool×α):t7 (cLt (aLt lt) o) (jT f o):=fun u v=>by
 have ha:=P1 h
 have n:=yi (KO hl) ha
 have tf:∀x,¬aLt lt x o→decide (jI f x o<0)=false:=fun x g=>by
  cases e:decide (jI f x o<0)
  ·rfl
  ·exact absurd ((n x o).1 e) g
 unfold jT
 refine⟨fun g=>?_,fun g=>?_,fun g=>?_⟩
 ·rcases g with⟨g1,g2⟩|⟨g1,g2⟩
  ·rw[tf u g1,(n v o).2 g2];rfl
  ·have e:(decide (jI f u o<0)==decide (jI f v o<0))=true:=by
    by_cases e:aLt lt u o
    ·rw[(n u o).2 e,(n v o).2 (g1.1 e)];rfl
    ·rw[tf u e,tf v (fun e'=>e (g1.2 e'))];rfl
   rw[e];exact(ha u v).1 g2
 ·subst g
  rw[beq_self_eq_true];exact(ha u u).2.1 rfl
 ·rcases g with⟨g1,g2⟩|⟨g1,g2⟩
  ·rw[tf v g1,(n u o).2 g2];rfl
  ·have e:(decide (jI f u o<0)==decide (jI f v o<0))=true:=by
    by_cases e:aLt lt u o
    ·rw[(n u o).2 e,(n v o).2 (g1.2 e)];rfl
    ·rw[tf u e,tf v (fun e'=>e (g1.1 e'))];rfl
   rw[e];exact(ha u v).2.2 g2
end
def Sp(c:Cv)(p:Pt):Prop:=Rpd p∧ge c p=true
structure Crp (c:Cv):Prop where
 f:Sp c (frC c)
 t:Sp c (toC c)
 q:c.1=true→0<(ciC c).2.2
 l:c.1=false→(lnC c).1≠0∨(lnC c).2.1≠0
theorem uw{c:BCU}(h:gdC c):Crp (dC c):=by
 obtain⟨h1,h2,h3⟩:=h
 exact⟨⟨ky h1.2.2.1,h2⟩,⟨ky h1.2.2.2,h3⟩,fun e=>(h1.1 e).2,fun e=>(h1.2.1 e).2⟩
open RE in
theorem Crp.e{c:Cv}(h:Crp c)(hne:aX (frC c) (toC c)≠0):GdE c:=by
 have hf:=h.f.1
 have ht:=h.t.1
 have s:=fun p (hp:Sp c p)=>hp.2
 refine⟨hf,ht,fun e=>hne (cmpP_0.2 e),fun e=>?_,fun e=>?_⟩
 ·have h2:=h.f.2
  have h3:=h.t.2
  unfold ge at h2 h3
  rw[e]at h2 h3
  exact⟨h.q e,ins_on (amR.1 h2),ins_on (amR.1 h3)⟩
 ·have h2:=h.f.2
  have h3:=h.t.2
  unfold ge at h2 h3
  rw[e]at h2 h3
  exact⟨h.l e,FK (amR.1 h2),FK (amR.1 h3)⟩
namespace RE
theorem GL(v w:RE):((v-(w))*(v-(w)))+((w*w-(v*v)))+2*((w-(0))*(v-(w)))=0:=by grind
theorem O6(v w:RE)(h1:v*v=w*w)(_h2:0≤v)(h3:0≤w):v≤w:=fun hg=>far (aI (aI (mul_pos (aK hg) (aK hg)) (aE (oa h1))) (im (by decide+kernel:(0:Rat)<2) (bi (aE h3) (le_of_lt (aK hg))))) (GL v w)
theorem Gl(v w:RE):((w-(v))*(w-(v)))+((v*v-(w*w)))+2*((v-(0))*(w-(v)))=0:=by grind
theorem KU(v w:RE)(h1:v*v=w*w)(h2:0≤v)(_h3:0≤w):w≤v:=fun hg=>far (aI (aI (mul_pos (aK hg) (aK hg)) (aE (mM h1))) (im (by decide+kernel:(0:Rat)<2) (bi (aE h2) (le_of_lt (aK hg))))) (Gl v w)
theorem Vn(v w:RE)(h1:v*v=w*w)(h2:0≤v)(h3:0≤w):v=w:=le_antisymm (O6 v w h1 h2 h3) (KU v w h1 h2 h3)
theorem Cx(v w:RE):((v-(w))*(v-(w)))+((v*v-(w*w)))+2*((0-(v))*(v-(w)))=0:=by grind
theorem JC(v w:RE)(h1:v*v=w*w)(h2:v≤0)(_h3:w≤0):v≤w:=fun hg=>far (aI (aI (mul_pos (aK hg) (aK hg)) (aE (mM h1))) (im (by decide+kernel:(0:Rat)<2) (bi (aE h2) (le_of_lt (aK hg))))) (Cx v w)
theorem C6(v w:RE):((w-(v))*(w-(v)))+((w*w-(v*v)))+2*((0-(w))*(w-(v)))=0:=by grind
theorem Kw(v w:RE)(h1:v*v=w*w)(_h2:v≤0)(h3:w≤0):w≤v:=fun hg=>far (aI (aI (mul_pos (aK hg) (aK hg)) (aE (oa h1))) (im (by decide+kernel:(0:Rat)<2) (bi (aE h3) (le_of_lt (aK hg))))) (C6 v w)
theorem RM(v w:RE)(h1:v*v=w*w)(h2:v≤0)(h3:w≤0):v=w:=le_antisymm (JC v w h1 h2 h3) (Kw v w h1 h2 h3)
theorem aak(u v w Q:RE)(h1:u*u+v*v=Q)(h2:u*u+w*w=Q):v*v≤w*w:=by grind
theorem adK(u v w Q:RE)(h1:u*u+v*v=Q)(h2:u*u+w*w=Q):w*w≤v*v:=by grind
theorem aim(u v w Q:RE)(h1:u*u+v*v=Q)(h2:u*u+w*w=Q):v*v=w*w:=le_antisymm (aak u v w Q h1 h2) (adK u v w Q h1 h2)
theorem Qo(a b:RE)(h1: -a= -b):a≤b:=by grind
theorem Sa(a b:RE)(h1: -a= -b):b≤a:=by grind
theorem VS(a b:RE)(h1: -a= -b):a=b:=le_antisymm (Qo a b h1) (Sa a b h1)
theorem Eb{u v:RE}:(upA (cls u v)=true→0≤v)∧(upA (cls u v)=false→v≤0)∧(ufA (cls u v)=true→0≤v)∧(ufA (cls u v)=false→v≤0):=by
 unfold cls upA ufA
 rcases bh v with⟨h,e⟩|⟨h,e⟩|⟨h,e⟩<;>rw[e]
 ·exact⟨fun _=>le_of_lt h,fun g=>(by cases g),fun _=>le_of_lt h,fun g=>(by cases g)⟩
 ·rw[h];exact⟨fun _=>le_refl _,fun _=>le_refl _,fun _=>le_refl _,fun _=>le_refl _⟩
 ·exact⟨fun g=>(by cases g),fun _=>le_of_lt h,fun g=>(by cases g),fun _=>le_of_lt h⟩
theorem Ia{c:Ln}{p q:Pt}(hp:onCi c p)(hq:onCi c q)(hx:pX p=pX q)(g:(0≤pY p-of c.2.1∧0≤pY q-of c.2.1)∨(pY p-of c.2.1≤0∧pY q-of c.2.1≤0)):pR p=pR q:=by
 unfold onCi at hp hq
 rw[hx]at hp
 have e:=aim _ _ _ _ hp hq
 refine amV hx ?_
 rcases g with⟨a,b⟩|⟨a,b⟩
 ·exact gE _ _ _ (Vn _ _ e a b)
 ·exact gE _ _ _ (RM _ _ e a b)
end RE
open RE in
theorem jG{c:Cv}(ha:c.1=true){p:Pt}(hp:Sp c p):onCi (ciC c) p:=by
 have:=hp.1
 have g:=hp.2
 unfold ge at g
 rw[ha]at g
 exact ins_on (amR.1 g)
open RE in
theorem HB{c:Cv}(h:Crp c)(ha:c.1=true):∃κ:Pt→Bool×RE,(∀d:Cv,d.1=true→ciC d=ciC c→cwC d=cwC c→Sp c (frC d)→∀p q,Sp c p→Sp c q→dg d p q=jT (fun x y:RE=>sg (x-y)) (κ (frC d)) (κ p) (κ q))∧∀p q,Sp c p→Sp c q→(κ p=κ q↔aX p q=0):=by
 cases hw:cwC c
 ·refine⟨fun p=>(upR (ciC c) p,pX p),fun d d1 d2 d3 hd p q hp hq=>?_,fun p q hp hq=>?_⟩
  ·have i1:=hd.1
   have:=hp.1
   have:=hq.1
   have e:∀{x y:Pt},Rpd x→Rpd y→a8 (xP x) (xP y)=sg (pX x-pX y):=fun{x y} _ _=>by rw[cmpT_re lC lC,sA,sA]
   unfold dg
   rw[d1,d3,cond_true,cond_false,d2]
   exact fH (e hp.1 i1) (e hq.1 i1) (e hp.1 hq.1)
  ·have r1:=hp.1
   have r2:=hq.1
   rw[cmpP_0]
   constructor
   ·intro e
    injection e with e1 e2
    rw[gW,gW]at e1
    refine Ia (jG ha hp) (jG ha hq) e2 ?_
    cases g:upA (cls (pX p-of (ciC c).1) (pY p-of (ciC c).2.1))
    ·exact .inr ⟨Eb.2.1 g,Eb.2.1 (e1.symm.trans g)⟩
    ·exact .inl ⟨Eb.1 g,Eb.1 (e1.symm.trans g)⟩
   ·intro e
    have e1:pX p=pX q:=congrArg Prod.fst e
    have e2:pY p=pY q:=congrArg Prod.snd e
    show(upR (ciC c) p,pX p)=(upR (ciC c) q,pX q)
    rw[gW,gW,e1,e2]
 ·refine⟨fun p=>(upR (flC (ciC c)) (flP p),-pX p),fun d d1 d2 d3 hd p q hp hq=>?_,fun p q hp hq=>?_⟩
  ·have i1:=hd.1
   have:=hp.1
   have:=hq.1
   have e:∀{x y:Pt},Rpd x→Rpd y→a8 (xP (flP x)) (xP (flP y))=sg (-pX x- -pX y):=fun{x y} _ _=>by rw[cmpT_re lC lC,sA,sA,Ey,Ey]
   unfold dg
   rw[d1,d3,cond_true,cond_true,d2]
   exact fH (e hp.1 i1) (e hq.1 i1) (e hp.1 hq.1)
  ·have r1:=hp.1
   have r2:=hq.1
   rw[cmpP_0]
   have u1:=ve (h.q ha) (jG ha hp)
   have u2:=ve (h.q ha) (jG ha hq)
   constructor
   ·intro e
    injection e with e1 e2
    rw[u1,u2]at e1
    refine Ia (jG ha hp) (jG ha hq) (VS _ _ e2) ?_
    cases g:ufA (cls (pX p-of (ciC c).1) (pY p-of (ciC c).2.1))
    ·exact .inr ⟨Eb.2.2.2 g,Eb.2.2.2 (e1.symm.trans g)⟩
    ·exact .inl ⟨Eb.2.2.1 g,Eb.2.2.1 (e1.symm.trans g)⟩
   ·intro e
    have e1:pX p=pX q:=congrArg Prod.fst e
    have e2:pY p=pY q:=congrArg Prod.snd e
    show(upR (flC (ciC c)) (flP p),-pX p)=(upR (flC (ciC c)) (flP q),-pX q)
    rw[u1,u2,e1,e2]
open RE in
theorem wa{c:Cv}(h:Crp c):∃(K:Type) (lt:K→K→Prop) (κ:Pt→K) (f:K→K→Int),oD lt∧t7 lt f∧(∀p q,Sp c p→Sp c q→dg c p q=f (κ p) (κ q))∧∀p q,Sp c p→Sp c q→(κ p=κ q↔aX p q=0):=by
 have hF:=h.f
 cases ha:c.1
 ·cases hd:decide (aX (frC c) (toC c)>0)
  ·refine⟨PE,adm,pR,lxc,jJ,ik,fun p q hp hq=>?_,fun p q hp hq=>?_⟩
   ·have:=hp.1
    have:=hq.1
    unfold dg
    rw[ha,hd,cond_false,cond_false,iW]
   ·have:=hp.1
    have:=hq.1
    exact cmpP_0.symm
  ·refine⟨PE,_,pR,_,LZ jJ,JR ik,fun p q hp hq=>?_,fun p q hp hq=>?_⟩
   ·have:=hp.1
    have:=hq.1
    unfold dg
    rw[ha,hd,cond_false,cond_true,iW]
   ·have:=hp.1
    have:=hq.1
    exact cmpP_0.symm
 ·obtain⟨κ,h1,h2⟩:=HB h ha
  exact⟨Bool×RE,_,κ,_,WG (KO lt_lin) (κ (frC c)),C9 lt_lin sg_cmpO _,h1 c ha rfl rfl hF,h2⟩
structure Ord (c:Cv):Prop where
 tr:∀{p q r},Sp c p→Sp c q→Sp c r→dg c p q<0→dg c q r<0→dg c p r<0
 tri:∀{p q},Sp c p→Sp c q→dg c p q<0∨aX p q=0∨dg c q p<0
 irr:∀{p q},Sp c p→Sp c q→aX p q=0→dg c p q=0
 asy:∀{p q},Sp c p→Sp c q→dg c p q<0→0<dg c q p
theorem yh{c:Cv}(h:Crp c):Ord c:=by
 obtain⟨K,lt,κ,f,hl,hc,ho,hk⟩:=wa h
 have n:∀{p q},Sp c p→Sp c q→(dg c p q<0↔lt (κ p) (κ q)):=fun{p q} hp hq=>by
  rw[ho p q hp hq,←amL (p:=f (κ p) (κ q)<0)]
  exact yi hl hc _ _
 refine⟨fun{p q r} hp hq hr g g'=>?_,fun{p q} hp hq=>?_,fun{p q} hp hq g=>?_,fun{p q} hp hq g=>?_⟩
 ·rw[n hp hr]
  exact hl.tr _ _ _ ((n hp hq).1 g) ((n hq hr).1 g')
 ·rw[n hp hq,n hq hp,←hk p q hp hq]
  exact hl.tri _ _
 ·rw[ho p q hp hq,(hc _ _).2.1 ((hk p q hp hq).2 g)]
 ·rw[ho q p hq hp,(hc _ _).2.2 ((n hp hq).1 g)]
  decide
def Spb(c:Cv)(x:BP):Prop:=Sp c (dec x)
theorem PT{c:Cv}(o:Ord c){x:BP}(hx:Spb c x):∀{l:List BP},(∀y∈l,Spb c y)→l.Pairwise (fun a b=>dg c (dec a) (dec b)<0)→(iB c l x).Pairwise (fun a b=>dg c (dec a) (dec b)<0)
 |[],_,_=>by simp[iB]
 |y::r,hl,hp=>by
  have hy:=hl y (by simp)
  have hr:∀z∈r,Spb c z:=fun z hz=>hl z (alV _ hz)
  obtain⟨p1,p2⟩:=amo.1 hp
  simp only[iB]
  by_cases h1:dg c (dec y) (dec x)<0
  ·rw[alF h1,cond_true]
   refine amo.2 ⟨fun z hz=>?_,PT o hx hr p2⟩
   rcases oJ hz with g|g
   ·exact p1 z g
   ·rw[g];exact h1
  ·rw[alH h1,cond_false]
   by_cases h2:aX (dec y) (dec x)=0
   ·rw[amR.2 h2,cond_true];exact hp
   ·rw[anH.2 h2,cond_false]
    have h3:dg c (dec x) (dec y)<0:=by
     rcases o.tri hy hx with g|g|g
     ·exact absurd g h1
     ·exact absurd g h2
     ·exact g
    refine amo.2 ⟨fun z hz=>?_,hp⟩
    rcases al0.1 hz with g|g
    ·rw[g];exact h3
    ·exact o.tr hx hy (hr z g) h3 (p1 z g)
theorem HF{c:Cv}(o:Ord c):∀{l out:List BP},(∀y∈l,Spb c y)→(∀y∈out,Spb c y)→out.Pairwise (fun a b=>dg c (dec a) (dec b)<0)→(l.foldl (iB c) out).Pairwise (fun a b=>dg c (dec a) (dec b)<0)
 |[],_,_,_,h=>h
 |x::l,out,hl,ho,h=>HF o (l:=l) (fun y hy=>hl y (alV _ hy)) (fun y hy=>by
   rcases oJ hy with g|g
   ·exact ho y g
   ·rw[g];exact hl x (by simp)) (PT o (hl x (by simp)) ho h)
theorem acG{c:Cv}(o:Ord c){l:List BP}(hl:∀y∈l,Spb c y):(gZ c l).Pairwise (fun a b=>dg c (dec a) (dec b)<0):=HF o hl (fun y hy=>by cases hy) List.Pairwise.nil
theorem QG{c:BCU}{R:BP→BP→Prop}{p:BCU}:∀{s:List BP},s.Pairwise R→p∈wU c s→∃x y,x∈s∧y∈s∧R x y∧p=BZ c x y
 |[],_,h=>by cases h
 |[_],_,h=>by cases h
 |x::y::r,hp,h=>by
  obtain⟨p1,p2⟩:=amo.1 hp
  simp only[wU]at h
  rcases al0.1 h with h|h
  ·exact⟨x,y,by simp,by simp,p1 y (by simp),h⟩
  ·obtain⟨a,b,h1,h2,h3,h4⟩:=QG p2 h
   exact⟨a,b,alV _ h1,alV _ h2,h3,h4⟩
theorem Pf{c:BCU}(h:gdN c){l:List BP}(ho:∀p∈l,okP 580 p∧onR (dC c) (dec p)=true):∀x∈sM c l,okP 580 x∧Spb (dC c) x:=by
 intro z hz
 rcases Cf hz with e|e|e
 ·rw[e];exact⟨h.1.1.2.2.1,ky h.1.1.2.2.1,h.2.1⟩
 ·rw[e];exact⟨h.1.1.2.2.2,ky h.1.1.2.2.2,h.2.2.1⟩
 ·exact⟨(ho z e).1,ky (ho z e).1,(alQ.1 (ho z e).2).1⟩
theorem adE{c:BCU}(h:gdN c){l:List BP}(ho:∀p∈l,okP 580 p∧onR (dC c) (dec p)=true):(sM c l).Pairwise (fun a b=>dg (dC c) (dec a) (dec b)<0):=by
 refine acG (yh (uw h.gd)) fun y hy=>?_
 rcases amr.1 hy with hy|hy
 ·simp only[al0,amZ,aob]at hy
  rcases hy with e|e
  ·rw[e];exact⟨ky h.1.1.2.2.1,h.2.1⟩
  ·rw[e];exact⟨ky h.1.1.2.2.2,h.2.2.1⟩
 ·exact⟨ky (ho y hy).1,(alQ.1 (ho y hy).2).1⟩
theorem Tn{c:BCU}(h:gdN c){l:List BP}(ho:∀p∈l,okP 580 p∧onR (dC c) (dec p)=true):∀p∈lm c l,gdN p:=by
 intro p hp
 have hm:=aat h ho p hp
 obtain⟨x,y,hx,hy,hr,e⟩:=QG (adE h ho) hp
 have o:=yh (uw h.gd)
 refine⟨hm.1,hm.2.1,hm.2.2,fun g=>?_⟩
 rw[e]at g
 have:=o.irr (Pf h ho x hx).2 (Pf h ho y hy).2 g
 omega
theorem UE{x:Pce}(h:wV x):∀p∈DL x,gdN p:=by
 intro p hp
 have hA:=vf h.1
 unfold DL at hp
 cases hl:ofL x.1 with
 |nil=>rw[hl]at hp;cases hp
 |cons c r=>
  rw[hl]at hp hA
  exact Tn (hA c (by simp)) (NE (hA c (by simp)) (vf h.2.1)).2 p hp
theorem Je{x:Pce}(h:wV x)(ho:w9 x=true):gdN (kS x):=UE h _ (He h ho)
theorem gdN.e{c:BCU}(h:gdN c):RE.GdE (dC c):=(uw h.gd).e h.2.2.2
end
theorem UZ{α:Type}{lt:α→α→Prop}{f:α→α→Int}(hl:oD lt)(h:t7 lt f)(x y:α):f x y≤0↔¬lt y x:=by
 rcases hl.tri x y with g|g|g
 ·rw[(h x y).1 g];exact⟨fun _ e=>hl.irr _ (hl.tr _ _ _ e g),fun _=>by decide⟩
 ·rw[(h x y).2.1 g];exact⟨fun _ e=>by rw[g]at e;exact hl.irr _ e,fun _=>by decide⟩
 ·rw[(h x y).2.2 g];exact⟨fun e=>absurd e (by decide),fun e=>absurd g e⟩
theorem nJ{α:Type}{lt:α→α→Prop}{f:α→α→Int}(hl:oD lt)(h:t7 lt f)(x y:α):f x y<0↔lt x y:=by
 rw[←amL (p:=f x y<0)]
 exact yi hl h x y
structure ajC (c:Cv):Prop extends Ord c where
 le:∀{p q},Sp c p→Sp c q→(dg c p q≤0↔¬dg c q p<0)
 lt:∀{p q r},Sp c p→Sp c q→Sp c r→¬dg c q p<0→¬dg c r q<0→¬dg c r p<0
theorem TS{c:Cv}(h:Crp c):ajC c:=by
 obtain⟨K,lt,κ,f,hl,hc,ho,hk⟩:=wa h
 refine⟨yh h,fun{p q} hp hq=>?_,fun{p q r} hp hq hr=>?_⟩
 ·rw[ho p q hp hq,ho q p hq hp,UZ hl hc,nJ hl hc]
 ·rw[ho q p hq hp,ho r q hr hq,ho r p hr hp,nJ hl hc,nJ hl hc,nJ hl hc]
  intro g g' e
  rcases hl.tri (κ q) (κ p)with a|a|a
  ·exact g a
  ·exact g' (by rw[a];exact e)
  ·exact g' (hl.tr _ _ _ e a)
theorem AT{c:Cv}(h:Crp c){p:Pt}(hp:Rpd p):onR c p=true↔ge c p=true∧¬dg c p (frC c)<0∧¬dg c (toC c) p<0:=by
 have o:=TS h
 unfold onR
 rw[alQ,alQ,amL,amL]
 refine and_congr_right fun hs=>?_
 rw[o.le h.f ⟨hp,hs⟩,o.le ⟨hp,hs⟩ h.t]
theorem aeP{c:BCU}(h:gdN c):dg (dC c) (frC (dC c)) (toC (dC c))<0:=by
 have k:=uw h.gd
 have hne:aX (frC (dC c)) (toC (dC c))≠0:=h.2.2.2
 cases ha:(dC c).1
 ·unfold dg
  rw[ha,cond_false]
  cases hd:decide (aX (frC (dC c)) (toC (dC c))>0)
  ·have:=amz hd
   rw[cond_false];omega
  ·have:=alI hd
   rw[cond_true];omega
 ·rcases(yh k).tri k.f k.t with g|g|g
  ·exact g
  ·exact absurd g hne
  ·obtain⟨κ,h1,h2⟩:=HB k ha
   have hl:=KO RE.lt_lin
   rw[h1 (dC c) ha rfl rfl k.f _ _ k.t k.f,nJ (WG hl _) (C9 RE.lt_lin RE.sg_cmpO _)]at g
   rcases g with⟨_,g⟩|⟨g1,g2⟩
   ·exact absurd g (hl.irr _)
   ·exact absurd (g1.1 g2) (hl.irr _)
theorem Gx{c:BCU}(h:gdN c):onR (dC c) (frC (dC c))=true∧onR (dC c) (toC (dC c))=true:=by
 have k:=uw h.gd
 have o:=yh k
 have irr:∀{q},Sp (dC c) q→dg (dC c) q q=0:=fun{q} hq=>by
  have:=hq.1
  exact o.irr hq hq (RE.cmpP_0.2 rfl)
 have tf:=o.asy k.f k.t (aeP h)
 rw[AT k k.f.1,AT k k.t.1,irr k.f,irr k.t]
 exact⟨⟨k.f.2,by omega,by omega⟩,k.t.2,by omega,by omega⟩
def A6(c:Cv)(p q:Pt):Int:=bif c.1 then(bif cwC c then-(gC a8 (ptd (ciC c) (toC c)) (ptd (ciC c) p) (ptd (ciC c) q))else gC a8 (ptd (ciC c) (frC c)) (ptd (ciC c) p) (ptd (ciC c) q))else aX p q*aX (toC c) (frC c)
namespace RE
theorem UC:∀kF kP kQ:Fin 4,∀iF iP iQ:Fin 3,Fp kF.1 iF.1 kP.1 iP.1 kQ.1 iQ.1=true→
  gC cI (upA kF.1,iF.1) (upA kP.1,iP.1) (upA kQ.1,iQ.1)=jT cI (upA kF.1,iF.1) (upA kP.1,iP.1) (upA kQ.1,iQ.1):=by decide+kernel
theorem aci:∀kF kT:Fin 4,∀iF iT:Fin 4,(ml kF.1 iF.1 kT.1 iT.1&&ml kT.1 iT.1 kF.1 iF.1)=true→∀kP iP:Fin 4,(ml kF.1 iF.1 kP.1 iP.1&&ml kP.1 iP.1 kF.1 iF.1&&ml kT.1 iT.1 kP.1 iP.1&&ml kP.1 iP.1 kT.1 iT.1&&decide (gC cI (upA kT.1,iT.1) (upA kP.1,iP.1) (upA kF.1,iF.1)≤0))=true→
  ∀kQ iQ:Fin 4,(ml kF.1 iF.1 kQ.1 iQ.1&&ml kQ.1 iQ.1 kF.1 iF.1&&ml kT.1 iT.1 kQ.1 iQ.1&&ml kQ.1 iQ.1 kT.1 iT.1&&ml kP.1 iP.1 kQ.1 iQ.1&&ml kQ.1 iQ.1 kP.1 iP.1&&decide (gC cI (upA kT.1,iT.1) (upA kQ.1,iQ.1) (upA kF.1,iF.1)≤0))=true→
  -(gC cI (upA kT.1,iT.1) (upA kP.1,iP.1) (upA kQ.1,iQ.1))=jT dI (ufA kF.1,iF.1) (ufA kP.1,iP.1) (ufA kQ.1,iQ.1):=by decide+kernel
theorem aaK{ci:Ln}{F P Q:Pt}[Rpd F][Rpd P][Rpd Q](hQ:0<ci.2.2)(hF:onCi ci F)(hP:onCi ci P)(hq:onCi ci Q):
  gC a8 (ptd ci F) (ptd ci P) (ptd ci Q)=jT a8 (ptd ci F) (ptd ci P) (ptd ci Q):=by
 have mF:pX F∈[pX F,pX P,pX Q]:=by simp
 have mP:pX P∈[pX F,pX P,pX Q]:=by simp
 have mQ:pX Q∈[pX F,pX P,pX Q]:=by simp
 have h0:0<of ci.2.2:=iz hQ
 have hcon:Fp (cls (pX F-of ci.1) (pY F-of ci.2.1)) (rk (fun a b:RE=>a<b) [pX F,pX P,pX Q] (pX F)) (cls (pX P-of ci.1) (pY P-of ci.2.1)) (rk (fun a b:RE=>a<b) [pX F,pX P,pX Q] (pX P)) (cls (pX Q-of ci.1) (pY Q-of ci.2.1)) (rk (fun a b:RE=>a<b) [pX F,pX P,pX Q] (pX Q))=true:=by
  unfold Fp
  rw[c9 h0 hF hP mF mP,c9 h0 hP hF mP mF,c9 h0 hF hq mF mQ,c9 h0 hq hF mQ mF,c9 h0 hP hq mP mQ,c9 h0 hq hP mQ mP]
  rfl
 have a:=UC ⟨_,gT (pX F-of ci.1) (pY F-of ci.2.1)⟩ ⟨_,gT (pX P-of ci.1) (pY P-of ci.2.1)⟩ ⟨_,gT (pX Q-of ci.1) (pY Q-of ci.2.1)⟩ ⟨_,iG lt_lin mF⟩ ⟨_,iG lt_lin mP⟩ ⟨_,iG lt_lin mQ⟩ hcon
 simp only at a
 unfold ptd
 rw[gW,gW,gW,gQ (eV mP mF) (eV mQ mF) (eV mP mQ),fH (eV mP mF) (eV mQ mF) (eV mP mQ)]
 exact a
theorem ahd{ci:Ln}{F T P Q:Pt}[Rpd F][Rpd T][Rpd P][Rpd Q](hQ:0<ci.2.2)(hF:onCi ci F)(hT:onCi ci T)(hP:onCi ci P)(hq:onCi ci Q)
  (oP:decide (gC a8 (ptd ci T) (ptd ci P) (ptd ci F)≤0)=true) (oQ:decide (gC a8 (ptd ci T) (ptd ci Q) (ptd ci F)≤0)=true):
  -(gC a8 (ptd ci T) (ptd ci P) (ptd ci Q))=jT a8 (ptd (flC ci) (flP F)) (ptd (flC ci) (flP P)) (ptd (flC ci) (flP Q)):=by
 have mF:pX F∈[pX F,pX T,pX P,pX Q]:=by simp
 have mT:pX T∈[pX F,pX T,pX P,pX Q]:=by simp
 have mP:pX P∈[pX F,pX T,pX P,pX Q]:=by simp
 have mQ:pX Q∈[pX F,pX T,pX P,pX Q]:=by simp
 have h0:0<of ci.2.2:=iz hQ
 revert oP oQ
 unfold ptd
 rw[gW,gW,gW,gW,ve hQ hF,ve hQ hP,ve hQ hq,gQ (eV mP mT) (eV mF mT) (eV mP mF),gQ (eV mQ mT) (eV mF mT) (eV mQ mF),gQ (eV mP mT) (eV mQ mT) (eV mP mQ),fH (nX mP mF) (nX mQ mF) (nX mP mQ)]
 intro oP oQ
 refine aci ⟨_,gT (pX F-of ci.1) (pY F-of ci.2.1)⟩ ⟨_,gT (pX T-of ci.1) (pY T-of ci.2.1)⟩ ⟨_,iG lt_lin mF⟩ ⟨_,iG lt_lin mT⟩ ?_ ⟨_,gT (pX P-of ci.1) (pY P-of ci.2.1)⟩ ⟨_,iG lt_lin mP⟩ ?_ ⟨_,gT (pX Q-of ci.1) (pY Q-of ci.2.1)⟩ ⟨_,iG lt_lin mQ⟩ ?_
 ·simp only
  rw[c9 h0 hF hT mF mT,c9 h0 hT hF mT mF]
  rfl
 ·simp only
  rw[c9 h0 hF hP mF mP,c9 h0 hP hF mP mF,c9 h0 hT hP mT mP,c9 h0 hP hT mP mT,oP]
  rfl
 ·simp only
  rw[c9 h0 hF hq mF mQ,c9 h0 hq hF mQ mF,c9 h0 hT hq mT mQ,c9 h0 hq hT mQ mT,c9 h0 hP hq mP mQ,c9 h0 hq hP mQ mP,oQ]
  rfl
theorem JJ{p q:Pt}[Rpd p][Rpd q]:aX p q= -aX q p:=by
 rw[iW,iW]
 rcases jJ.tri (pR p) (pR q)with h|h|h
 ·rw[(ik _ _).1 h,(ik _ _).2.2 h]
 ·rw[h,(ik (pR q) (pR q)).2.1 rfl];rfl
 ·rw[(ik _ _).2.2 h,(ik _ _).1 h];rfl
theorem ord_eq{c:Cv}(h:Crp c)(hne:aX (frC c) (toC c)≠0){p q:Pt}(hp:Rpd p)(hq:Rpd q)(op:onP c p=true)(oq:onP c q=true):A6 c p q=dg c p q:=by
 have hf:=h.f.1
 have ht:=h.t.1
 unfold onP at op oq
 obtain⟨sp,rp⟩:=alQ.1 op
 obtain⟨sq,rq⟩:=alQ.1 oq
 unfold A6 dg
 unfold hZ at rp rq
 cases ha:c.1
 ·rw[cond_false,cond_false,JJ (p:=toC c)]
  have hb:=wq (frC c) (toC c)
  by_cases hd:aX (frC c) (toC c)>0
  ·rw[alF hd,cond_true,show aX (frC c) (toC c)=1 by omega]
   omega
  ·rw[alH hd,cond_false,show aX (frC c) (toC c)= -1 by omega]
   omega
 ·rw[ha,cond_true]at rp rq
  rw[cond_true,cond_true]
  have q0:=h.q ha
  have oF:=jG ha h.f
  have oT:=jG ha h.t
  have oP:=jG ha ⟨hp,sp⟩
  have oQ:=jG ha ⟨hq,sq⟩
  unfold ccF ccT at rp rq
  cases hw:cwC c
  ·rw[cond_false,cond_false]
   exact aaK q0 oF oP oQ
  ·rw[hw,cond_true,cond_true]at rp rq
   rw[cond_true,cond_true]
   exact ahd q0 oF oT oP oQ rp rq
end RE
abbrev oL(c:Cv)(A:List BP):Prop:=A.Pairwise (fun a b=>dg c (dec a) (dec b)<0)
section
section
variable {α K:Type}
def ll(lt:α→α→Bool):List α→α→List α
 |[],a=>[a]
 |b::r,a=>bif lt a b then b::ll lt r a else a::b::r
def sG(lt:α→α→Bool)(l:List α):List α:=(l.foldl (ll lt) []).reverse
def jD(eq:α→α→Bool):α→List α→List α
 |_,[]=>[]
 |p,q::r=>bif eq q p then jD eq q r else q::jD eq q r
def vH(eq:α→α→Bool):List α→List α
 |[]=>[]
 |x::r=>x::jD eq x r
theorem mE{lt:α→α→Bool}{a x:α}:∀{r:List α},x∈ll lt r a↔x=a∨x∈r
 |[]=>by simp[ll]
 |b::r=>by
  unfold ll
  cases lt a b
  ·simp
  ·simp only[cond_true,al0,mE (r:=r)]
   constructor
   ·rintro (h|h|h)
    ·exact .inr (.inl h)
    ·exact .inl h
    ·exact .inr (.inr h)
   ·rintro (h|h|h)
    ·exact .inr (.inl h)
    ·exact .inl h
    ·exact .inr (.inr h)
theorem Ew{lt:α→α→Bool}{x:α}:∀{l r:List α},x∈l.foldl (ll lt) r↔x∈l∨x∈r
 |[],r=>by simp
 |a::l,r=>by
  rw[anF,Ew,mE,al0]
  constructor
  ·rintro (h|h|h)
   ·exact .inl (.inr h)
   ·exact .inl (.inl h)
   ·exact .inr h
  ·rintro ((h|h)|h)
   ·exact .inr (.inl h)
   ·exact .inl h
   ·exact .inr (.inr h)
theorem pe{lt:α→α→Bool}{x:α}{l:List α}:x∈sG lt l↔x∈l:=by
 unfold sG
 rw[List.mem_reverse,Ew]
 simp
theorem sQ{lt:α→α→Bool}{a:α}:∀{r:List α},(ll lt r a).length=r.length+1
 |[]=>rfl
 |b::r=>by
  unfold ll
  cases lt a b
  ·rfl
  ·simp[sQ (r:=r)]
theorem Ht{lt:α→α→Bool}:∀{l r:List α},(l.foldl (ll lt) r).length=l.length+r.length
 |[],r=>by simp
 |a::l,r=>by
  rw[anF,Ht,sQ,alY]
  omega
theorem DR{lt:α→α→Bool}{l:List α}:(sG lt l).length=l.length:=by
 unfold sG
 rw[List.length_reverse,Ht]
 rfl
theorem Ep{eq:α→α→Bool}:∀{l:List α} {p:α},(jD eq p l).length≤l.length
 |[],_=>alL _
 |q::r,p=>by
  unfold jD
  have:=Ep (eq:=eq) (l:=r) (p:=q)
  cases eq q p
  ·simp only[cond_false,alY];omega
  ·simp only[cond_true,alY];omega
theorem Q6{eq:α→α→Bool}{l:List α}:(vH eq l).length≤l.length:=by
 cases l with
 |nil=>exact alL _
 |cons x r=>
  have:=Ep (eq:=eq) (l:=r) (p:=x)
  simp only[vH,alY]
  omega
theorem xu{eq:α→α→Bool}{x:α}:∀{l:List α} {p:α},x∈jD eq p l→x∈l
 |[],_,h=>h
 |q::r,p,h=>by
  unfold jD at h
  cases hq:eq q p<;>rw[hq]at h
  ·rcases al0.1 h with e|e
   ·rw[e];simp
   ·exact alV _ (xu e)
  ·exact alV _ (xu h)
theorem LR{eq:α→α→Bool}{x:α}{l:List α}(h:x∈vH eq l):x∈l:=by
 cases l with
 |nil=>exact h
 |cons y r=>
  rcases al0.1 h with e|e
  ·rw[e];simp
  ·exact alV _ (xu e)
variable {lt:K→K→Prop} (hl:oD lt) (κ:α→K)
abbrev upK(lt:K→K→Prop)(κ:α→K)(l:List α):Prop:=l.Pairwise fun a b=>¬lt (κ b) (κ a)
abbrev dnK(lt:K→K→Prop)(κ:α→K)(l:List α):Prop:=l.Pairwise fun a b=>¬lt (κ a) (κ b)
include hl in
theorem Jn{f:α→α→Bool}{a:α}:∀{r:List α},(∀b∈r,(f a b=true↔lt (κ a) (κ b)))→dnK lt κ r→dnK lt κ (ll f r a)
 |[],_,_=>by simp[ll]
 |b::r,hf,hp=>by
  obtain⟨p1,p2⟩:=amo.1 hp
  have hb:=hf b (by simp)
  unfold ll
  cases hfb:f a b
  ·simp only[cond_false]
   have nlt:¬lt (κ a) (κ b):=fun h=>by rw[hb.2 h]at hfb;cases hfb
   refine amo.2 ⟨fun x hx=>?_,hp⟩
   rcases al0.1 hx with e|e
   ·rw[e];exact nlt
   ·intro h
    rcases hl.tri (κ b) (κ x)with g|g|g
    ·exact p1 x e g
    ·rw[←g]at h;exact nlt h
    ·exact nlt (hl.tr _ _ _ h g)
  ·simp only[cond_true]
   have hlt:=hb.1 hfb
   refine amo.2 ⟨fun x hx=>?_,Jn (fun y hy=>hf y (alV _ hy)) p2⟩
   rcases mE.1 hx with e|e
   ·rw[e];intro h;exact hl.irr _ (hl.tr _ _ _ h hlt)
   ·exact p1 x e
include hl in
theorem IO{f:α→α→Bool}:∀{l r:List α},(∀a b,(a∈l∨a∈r)→(b∈l∨b∈r)→(f a b=true↔lt (κ a) (κ b)))→dnK lt κ r→dnK lt κ (l.foldl (ll f) r)
 |[],_,_,h=>h
 |a::l,r,hf,h=>by
  rw[anF]
  refine IO (fun x y hx hy=>hf x y ?_ ?_) (Jn hl κ (fun b hb=>hf a b (.inl (by simp)) (.inr hb)) h)
  ·rcases hx with e|e
   ·exact .inl (alV _ e)
   ·rcases mE.1 e with g|g
    ·exact .inl (by rw[g];simp)
    ·exact .inr g
  ·rcases hy with e|e
   ·exact .inl (alV _ e)
   ·rcases mE.1 e with g|g
    ·exact .inl (by rw[g];simp)
    ·exact .inr g
include hl in
theorem Tq{f:α→α→Bool}{l:List α}(hf:∀a∈l,∀b∈l,(f a b=true↔lt (κ a) (κ b))):upK lt κ (sG f l):=by
 unfold sG
 refine List.pairwise_reverse.2 (IO hl κ (fun a b ha hb=>hf a ?_ b ?_) (by simp))
 ·rcases ha with h|h
  ·exact h
  ·cases h
 ·rcases hb with h|h
  ·exact h
  ·cases h
include hl in
theorem G4{g:α→α→Bool}:∀{l:List α} {p:α},(∀a b,a∈p::l→b∈p::l→(g a b=true↔κ a=κ b))→upK lt κ (p::l)→
  (p::jD g p l).Pairwise (fun a b=>lt (κ a) (κ b))∧∀x∈p::l,∃y∈p::jD g p l,κ y=κ x
 |[],p,_,_=>⟨by simp[jD],fun x hx=>⟨x,hx,rfl⟩⟩
 |q::r,p,hg,hp=>by
  obtain⟨p1,p2⟩:=amo.1 hp
  obtain⟨i1,i2⟩:=G4 (l:=r) (p:=q) (fun a b ha hb=>hg a b (alV _ ha) (alV _ hb)) p2
  obtain⟨j1,j2⟩:=amo.1 i1
  have hq:=hg q p (by simp) (by simp)
  unfold jD
  cases hqp:g q p
  ·simp only[cond_false]
   have hlt:lt (κ p) (κ q):=by
    rcases hl.tri (κ p) (κ q)with e|e|e
    ·exact e
    ·rw[hq.2 e.symm]at hqp;cases hqp
    ·exact absurd e (p1 q (by simp))
   refine⟨amo.2 ⟨fun x hx=>?_,i1⟩,fun x hx=>?_⟩
   ·rcases al0.1 hx with e|e
    ·rw[e];exact hlt
    ·exact hl.tr _ _ _ hlt (j1 x e)
   ·rcases al0.1 hx with e|e
    ·exact⟨p,by simp,by rw[e]⟩
    ·obtain⟨y,hy,e2⟩:=i2 x e
     exact⟨y,alV _ hy,e2⟩
  ·simp only[cond_true]
   have he:=hq.1 hqp
   refine⟨amo.2 ⟨fun x hx=>by rw[←he];exact j1 x hx,j2⟩,fun x hx=>?_⟩
   have tr:∀y,y∈q::jD g q r→∃z∈p::jD g q r,κ z=κ y:=fun y hy=>by
    rcases al0.1 hy with e|e
    ·exact⟨p,by simp,by rw[e,he]⟩
    ·exact⟨y,alV _ e,rfl⟩
   rcases al0.1 hx with e|e
   ·exact⟨p,by simp,by rw[e]⟩
   ·obtain⟨y,hy,e2⟩:=i2 x e
    obtain⟨z,hz,e3⟩:=tr y hy
    exact⟨z,hz,e3.trans e2⟩
include hl in
theorem SD{g:α→α→Bool}{l:List α}(hg:∀a∈l,∀b∈l,(g a b=true↔κ a=κ b))(hp:upK lt κ l):(vH g l).Pairwise (fun a b=>lt (κ a) (κ b))∧∀x∈l,∃y∈vH g l,κ y=κ x:=by
 cases l with
 |nil=>exact⟨by simp[vH],fun x hx=>by cases hx⟩
 |cons p r=>exact G4 hl κ (fun a b ha hb=>hg a ha b hb) hp
end
def ltP(c:Cv)(a b:BP):Bool:=decide (A6 c (dec a) (dec b)<0)
def ia(a b:BP):Bool:=aX (dec a) (dec b)==0
def df(c:Cv)(l:List BP):List BP:=vH ia (sG (ltP c) l)
theorem jv{c:Cv}{l:List BP}{x:BP}(h:x∈df c l):x∈l:=pe.1 (LR h)
theorem oO{c:Cv}{l:List BP}:(df c l).length≤l.length:=by
 have:=Q6 (eq:=ia) (l:=sG (ltP c) l)
 rw[DR]at this
 exact this
theorem HA{c:Cv}(h:Crp c)(hne:aX (frC c) (toC c)≠0){l:List BP}(hon:∀x∈l,Rpd (dec x:Pt)∧onP c (dec x)=true):oL c (df c l)∧∀x∈l,∃y∈df c l,aX (dec y) (dec x)=0:=by
 obtain⟨K,lt,κ,f,hl,hc,ho,hk⟩:=wa h
 have sp:∀x∈l,Spb c x:=fun x hx=>⟨(hon x hx).1,(alQ.1 (hon x hx).2).1⟩
 have up:=Tq hl (fun x:BP=>κ (dec x)) (f:=ltP c) (l:=l) fun a ha b hb=>by
  unfold ltP
  rw[amL,RE.ord_eq h hne (hon a ha).1 (hon b hb).1 (hon a ha).2 (hon b hb).2,ho _ _ (sp a ha) (sp b hb)]
  exact nJ hl hc _ _
 have q:=SD hl (fun x:BP=>κ (dec x)) (g:=ia) (l:=sG (ltP c) l) (fun a ha b hb=>by
  unfold ia
  rw[amR]
  exact(hk _ _ (sp a (pe.1 ha)) (sp b (pe.1 hb))).symm) up
 refine⟨List.Pairwise.imp_of_mem (fun{a b} ha hb g=>?_) q.1,fun x hx=>?_⟩
 ·have ha':=jv (c:=c) ha
  have hb':=jv (c:=c) hb
  rw[ho _ _ (sp a ha') (sp b hb')]
  exact(nJ hl hc _ _).2 g
 ·obtain⟨y,hy,e⟩:=q.2 x (pe.2 hx)
  exact⟨y,hy,(hk _ _ (sp y (jv (c:=c) hy)) (sp x hx)).1 e⟩
end
theorem abP{c:Cv}(h:Crp c):Crv c:=⟨h.f.1,h.t.1,fun ha=>⟨h.q ha,jG ha h.f,jG ha h.t⟩⟩
theorem il{c:Cv}(h:Crp c){p:Pt}(hp:Rpd p):onP c p=onR c p:=aeh (abP h) hp
namespace RE
theorem fo{c:Cv}{p:Pt}[Rpd p]:ge c p=true↔bif c.1 then fw (ciC c) (pR p)else fx (lnC c) (pR p):=by
 unfold ge
 cases c.1
 ·exact Br
 ·exact so
theorem uK{q:Rat}(hq:q≠0){x y:RE}(h:of q*x=of q*y):x=y:=by
 have e:∀z:RE,of q⁻¹*(of q*z)=z:=fun z=>by
  rw[←mul_assoc,←aF,Rat.inv_mul_cancel _ hq,As,one_mul]
 rw[←e x,h,e y]
theorem akw(a p q x y:RE):a*(p*x+q*y)=p*(a*x)+a*q*y:=by grind
theorem akO(p a b x y:RE):p*(a*x+b*y)=p*(a*x)+b*p*y:=by grind
theorem akm(b p q x y:RE):b*(p*x+q*y)=b*p*x+q*(b*y):=by grind
theorem akg(q a b x y:RE):q*(a*x+b*y)=a*q*x+q*(b*y):=by grind
theorem abf{l m:Ln}(hl:l.1≠0∨l.2.1≠0)(h:lU l m=true){v:PE}(hv:fx l v):fx m v:=by
 unfold lU at h
 obtain⟨h1,h23⟩:=alQ.1 h
 obtain⟨h2,h3⟩:=alQ.1 h23
 have h1:=alI h1
 have h2:=alI h2
 have h3:=alI h3
 unfold fx at*
 rcases hl with ha|hb
 ·refine uK ha ?_
  rw[akw,←aF l.1 m.2.1,h1,aF,←akO,hv,←aF,←aF,h2,anu]
 ·refine uK hb ?_
  rw[akm,←aF l.2.1 m.1,←h1,aF,←akg,hv,←aF,←aF,h3,anu]
theorem Ux{l m:Ln}(h:lU l m=true):lU m l=true:=by
 unfold lU at*
 obtain⟨h1,h23⟩:=alQ.1 h
 obtain⟨h2,h3⟩:=alQ.1 h23
 have h1:=alI h1
 have h2:=alI h2
 have h3:=alI h3
 rw[dT (show m.1*l.2.1=m.2.1*l.1 by grind),dT (show m.1*l.2.2=m.2.2*l.1 by grind),dT (show m.2.1*l.2.2=m.2.2*l.2.1 by grind)]
 rfl
theorem abB{c d:Ln}(h:ni c d=true):c=d:=by
 unfold ni at h
 obtain⟨h1,h23⟩:=alQ.1 h
 obtain⟨h2,h3⟩:=alQ.1 h23
 exact amV (alI h1) (amV (alI h2) (alI h3))
theorem Ae{c d:Cv}(h:cC c d=true):c.1=d.1:=by
 unfold cC at h
 cases e:c.1==d.1
 ·rw[e]at h;cases h
 ·exact amR.1 e
theorem R9{c d:Cv}(h:cC c d=true)(ha:c.1=true):ciC c=ciC d:=by
 have e:=Ae h
 unfold cC at h
 rw[←e,ha]at h
 exact abB h
theorem L6{c d:Cv}(h:cC c d=true)(ha:c.1=false):lU (lnC c) (lnC d)=true:=by
 have e:=Ae h
 unfold cC at h
 rw[←e,ha]at h
 exact h
theorem AH{c d:Cv}(h:cC c d=true):cC d c=true:=by
 have e:=Ae h
 unfold cC
 rw[←e,beq_self_eq_true,cond_true]
 cases ha:c.1
 ·exact Ux (L6 h ha)
 ·rw[cond_true,R9 h ha]
  unfold ni
  rw[dT rfl,dT rfl,dT rfl]
  rfl
theorem vN{c d:Cv}(hc:Crp c)(h:cC c d=true){p:Pt}[Rpd p](hp:ge c p=true):ge d p=true:=by
 have e:=Ae h
 rw[fo]at*
 rw[←e]
 cases ha:c.1
 ·rw[ha,cond_false]at hp
  exact abf (hc.l ha) (L6 h ha) hp
 ·rw[ha,cond_true]at hp
  rw[cond_true,←R9 h ha]
  exact hp
theorem supF_eq{c:Cv}{p q:Pt}[Rpd p][Rpd q](e:pR p=pR q)(h:ge c p=true):ge c q=true:=by
 rw[fo]at*
 rw[←e]
 exact h
end RE
theorem CQ{c:Cv}(h:Crp c){p q r:Pt}(hp:Sp c p)(hq:Sp c q)(hr:Sp c r)(e:aX p q=0):dg c p r=dg c q r∧dg c r p=dg c r q:=by
 obtain⟨K,lt,κ,f,hl,hc,ho,hk⟩:=wa h
 have ek:=(hk p q hp hq).2 e
 rw[ho p r hp hr,ho q r hq hr,ho r p hr hp,ho r q hr hq,ek]
 exact⟨rfl,rfl⟩
theorem ain{c:Cv}{p q:Pt}(hp:Sp c p)(hq:Rpd q)(e:aX p q=0):Sp c q:=by
 have:=hp.1
 exact⟨hq,RE.supF_eq (RE.cmpP_0.1 e) hp.2⟩
theorem aeN{p:Pt}(_h:Rpd p):aX p p=0:=RE.cmpP_0.2 rfl
theorem ML{p q:Pt}[Rpd p][Rpd q](e:aX p q=0):aX q p=0:=RE.cmpP_0.2 (RE.cmpP_0.1 e).symm
theorem agX{p q r:Pt}[Rpd p][Rpd q][Rpd r](e:aX p q=0)(e':aX q r=0):aX p r=0:=RE.cmpP_0.2 ((RE.cmpP_0.1 e).trans (RE.cmpP_0.1 e'))
theorem CJ{c:Cv}(h:Crp c){p q:Pt}(hp:Rpd p)(hq:Rpd q)(e:aX p q=0)(ho:onR c p=true):onR c q=true:=by
 obtain⟨h1,h2,h3⟩:=(AT h hp).1 ho
 have sp:Sp c p:=⟨hp,h1⟩
 have sq:=ain sp hq e
 rw[AT h hq]
 rw[(CQ h sp sq h.f e).1]at h2
 rw[(CQ h sp sq h.t e).2]at h3
 exact⟨sq.2,h2,h3⟩
theorem IQ{c:Cv}(h:Crp c){p q:Pt}(hp:Rpd p)(hq:Rpd q)(e:aX p q=0):onR c p=onR c q:=by
 cases h1:onR c p
 ·cases h2:onR c q
  ·rfl
  ·rw[CJ h hq hp (ML e) h2]at h1;cases h1
 ·rw[CJ h hp hq e h1]
theorem Ph{c:Cv}{x:BP}{l:List BP}(h:x∈gZ c l):x∈l:=by
 rcases vP h with h|h
 ·cases h
 ·exact h
section
def jF(c d:BCU):List BP:=bif cC (dC c) (dC d)then [c.2.2.2.2.1,c.2.2.2.2.2,d.2.2.2.2.1,d.2.2.2.2.2]else(gi (dC c) (dC d)).map enc
def gP(c d:BCU)(p:BP):Bool:=hZ (dC c) (dec p)&&hZ (dC d) (dec p)
def fR(c d:BCU):List BP:=df (dC c) ((jF c d).filter (gP c d))
theorem jH{c:BCU}(h:pp c):(c.1=true→BdC (ciC (dC c))∧0<(ciC (dC c)).2.2)∧(c.1=false→BdL (lnC (dC c))∧((lnC (dC c)).1≠0∨(lnC (dC c)).2.1≠0)):=by
 refine⟨fun e=>?_,fun e=>?_⟩
 ·obtain⟨l,e1,bl,nl⟩:=cJ (h.1 e)
  show BdC (dec c.2.2.1)∧_
  rw[show ciC (dC c)=dec c.2.2.1 from rfl,e1,az]
  exact⟨bl,nl⟩
 ·obtain⟨l,e1,bl,nl⟩:=dW (h.2 e)
  show BdL (dec c.2.1)∧_
  rw[show lnC (dC c)=dec c.2.1 from rfl,e1,az]
  exact⟨bl,nl⟩
namespace RE
theorem supM_on{c d:BCU}(hc:pp c)(hd:pp d){p:Pt}(hp:p∈gi (dC c) (dC d)):Bd p 1200∧Rpd p∧ge (dC c) p=true∧ge (dC d) p=true:=by
 obtain⟨c1,c2⟩:=jH hc
 obtain⟨d1,d2⟩:=jH hd
 have ec:(dC c).1=c.1:=rfl
 have ed:(dC d).1=d.1:=rfl
 unfold gi at hp
 rw[ec,ed]at hp
 cases ha:c.1<;>cases hb:d.1<;>rw[ha,hb]at hp
 ·have i1:=(c2 ha).1
  have i2:=(d2 hb).1
  have hp:p∈lk (lnC (dC c)) (lnC (dC d)):=hp
  obtain⟨b,r⟩:=vZ.2 p hp
  obtain⟨o1,o2⟩:=aaT hp
  refine⟨b.mono (by decide),r,?_,?_⟩
  ·rw[fo,ec,ha];exact o1
  ·rw[fo,ed,hb];exact o2
 ·have i1:=(c2 ha).1
  have i2:=(d1 hb).1
  have hp:p∈kE (lnC (dC c)) (ciC (dC d)):=hp
  obtain⟨b,r⟩:=sO.2 p hp
  obtain⟨o1,o2⟩:=I7 (c2 ha).2 hp
  refine⟨b,r,?_,?_⟩
  ·rw[fo,ec,ha];exact o1
  ·rw[fo,ed,hb];exact o2
 ·have i1:=(c1 ha).1
  have i2:=(d2 hb).1
  have hp:p∈kE (lnC (dC d)) (ciC (dC c)):=hp
  obtain⟨b,r⟩:=sO.2 p hp
  obtain⟨o1,o2⟩:=I7 (d2 hb).2 hp
  refine⟨b,r,?_,?_⟩
  ·rw[fo,ec,ha];exact o2
  ·rw[fo,ed,hb];exact o1
 ·have i1:=(c1 ha).1
  have i2:=(d1 hb).1
  have hp:p∈rJ (ciC (dC c)) (ciC (dC d)):=hp
  unfold rJ at hp
  cases hq:gM (ciC (dC c)) (ciC (dC d))<;>rw[hq]at hp
  ·have i3:BdL (mU (ciC (dC c)) (ciC (dC d))):=ym
   obtain⟨b,r⟩:=sO.2 p hp
   obtain⟨o1,o2⟩:=I7 (ui hq) hp
   refine⟨b,r,?_,?_⟩
   ·rw[fo,ec,ha];exact o2
   ·rw[fo,ed,hb];exact LD o1 o2
  ·cases hp
end RE
open RE
theorem gdN.crp{c:BCU}(h:gdN c):Crp (dC c):=uw h.gd
theorem gdN.ne{c:BCU}(h:gdN c):aX (frC (dC c)) (toC (dC c))≠0:=h.2.2.2
theorem gdN.fr{c:BCU}(h:gdN c):okP 580 c.2.2.2.2.1:=h.1.1.2.2.1
theorem gdN.to{c:BCU}(h:gdN c):okP 580 c.2.2.2.2.2:=h.1.1.2.2.2
theorem vT{c d:BCU}(hc:gdN c)(hd:gdN d):(jF c d).length≤4∧∀x∈jF c d,okP 1200 x∧Spb (dC c) x∧Spb (dC d) x:=by
 have kc:=hc.crp
 have kd:=hd.crp
 unfold jF
 cases hs:cC (dC c) (dC d)
 ·refine⟨?_,fun x hx=>?_⟩
  ·simp only[cond_false,anq]
   have:∀l c,[BdL l]→[BdC c]→(kE l c).length≤4:=fun l c _ _=>alU sO.1 (by decide)
   obtain⟨c1,c2⟩:=jH hc.1.2
   obtain⟨d1,d2⟩:=jH hd.1.2
   have ec:(dC c).1=c.1:=rfl
   have ed:(dC d).1=d.1:=rfl
   unfold gi
   rw[ec,ed]
   cases ha:c.1<;>cases hb:d.1
   ·have i1:=(c2 ha).1
    have i2:=(d2 hb).1
    exact alU vZ.1 (by decide)
   ·have i1:=(c2 ha).1
    have i2:=(d1 hb).1
    exact this _ _
   ·have i1:=(c1 ha).1
    have i2:=(d2 hb).1
    exact this _ _
   ·have i1:=(c1 ha).1
    have i2:=(d1 hb).1
    show(rJ _ _).length≤4
    unfold rJ
    cases hq:gM (ciC (dC c)) (ciC (dC d))
    ·have i3:BdL (mU (ciC (dC c)) (ciC (dC d))):=ym
     exact this _ _
    ·exact aoc _
  ·obtain⟨p,hp,rfl⟩:=anh.1 hx
   obtain⟨b,r,o1,o2⟩:=supM_on hc.1.2 hd.1.2 hp
   refine⟨alI (aJ (by decide) (by decide)),?_,?_⟩
   ·unfold Spb;rw[az];exact⟨r,o1⟩
   ·unfold Spb;rw[az];exact⟨r,o2⟩
 ·have hs':=AH hs
  refine⟨by simp,fun x hx=>?_⟩
  have:x=c.2.2.2.2.1∨x=c.2.2.2.2.2∨x=d.2.2.2.2.1∨x=d.2.2.2.2.2:=by simpa using hx
  have up:∀{x},okP 580 x→okP 1200 x:=fun h=>cK h (by decide) (by decide)
  rcases this with e|e|e|e<;>rw[e]
  ·have i:Rpd (dec c.2.2.2.2.1:Pt):=kc.f.1
   exact⟨up hc.fr,kc.f,kc.f.1,vN kc hs kc.f.2⟩
  ·have i:Rpd (dec c.2.2.2.2.2:Pt):=kc.t.1
   exact⟨up hc.to,kc.t,kc.t.1,vN kc hs kc.t.2⟩
  ·have i:Rpd (dec d.2.2.2.2.1:Pt):=kd.f.1
   exact⟨up hd.fr,⟨kd.f.1,vN kd hs' kd.f.2⟩,kd.f⟩
  ·have i:Rpd (dec d.2.2.2.2.2:Pt):=kd.t.1
   exact⟨up hd.to,⟨kd.t.1,vN kd hs' kd.t.2⟩,kd.t⟩
theorem yF{c d:BCU}(hc:gdN c)(hd:gdN d){x:BP}(hx:x∈fR c d):x∈jF c d∧okP 1200 x∧Spb (dC c) x∧Spb (dC d) x∧onR (dC c) (dec x)=true∧onR (dC d) (dec x)=true:=by
 obtain⟨hm,hk⟩:=aoq.1 (jv hx)
 obtain⟨h0,h1,h2⟩:=(vT hc hd).2 x hm
 obtain⟨k1,k2⟩:=alQ.1 hk
 refine⟨hm,h0,h1,h2,?_,?_⟩
 ·rw[←il hc.crp h1.1]
  exact alQ.2 ⟨h1.2,k1⟩
 ·rw[←il hd.crp h2.1]
  exact alQ.2 ⟨h2.2,k2⟩
theorem P8{c d:BCU}{x:BP}(hx:x∈rl c d):x∈yR c d∧onR (dC c) (dec x)=true∧onR (dC d) (dec x)=true:=by
 obtain⟨hm,hk⟩:=aoq.1 (Ph (show x∈gZ (dC c) (UY c d) from hx))
 exact⟨hm,alQ.1 hk⟩
theorem Hh{c d:BCU}{x:BP}(hc:gdN c)(hd:gdN d)(hr:Rpd (dec x:Pt))(h1:onR (dC c) (dec x)=true)(h2:onR (dC d) (dec x)=true):gP c d x=true:=by
 rw[←il hc.crp hr]at h1
 rw[←il hd.crp hr]at h2
 exact alQ.2 ⟨(alQ.1 h1).2,(alQ.1 h2).2⟩
theorem Qk{c d:BCU}(hc:gdN c)(hd:gdN d):∀x∈(jF c d).filter (gP c d),Rpd (dec x:Pt)∧onP (dC c) (dec x)=true:=fun x hx=>by
 obtain⟨hm,hk⟩:=aoq.1 hx
 obtain⟨h0,h1,h2⟩:=(vT hc hd).2 x hm
 exact⟨h1.1,alQ.2 ⟨h1.2,(alQ.1 hk).1⟩⟩
end
section
open RE
def yQ(c:BCU):BP→List BP→List BCU
 |f,[]=>[BZ c f c.2.2.2.2.2]
 |f,p::r=>bif ia p c.2.2.2.2.1||ia p c.2.2.2.2.2 then yQ c f r else BZ c f p::yQ c p r
def aah(c:BCU)(l:List BP):List BCU:=yQ c c.2.2.2.2.1 (df (dC c) l)
def abd(c:BCU)(l:List BP):Bool:=l.any fun p=>!onP (dC c) (dec p)
def rO(c:BCU)(l:List BP):List BCU:=bif abd c l then []else aah c l
def aj9(c:BCU)(l:List BP):Int:=bif abd c l then 1 else 0
section
variable {c:BCU} (h:gdN c) {l:List BP} (ho:∀x∈l,Rpd (dec x:Pt)∧onR (dC c) (dec x)=true)
include h ho
omit h ho in
end
end
section
open RE
def frB(c:BCU):BP:=c.2.2.2.2.1
def toB(c:BCU):BP:=c.2.2.2.2.2
def Eo(d p:BCU):Bool:=(onP (dC d) (dec (frB p))&&onP (dC d) (dec (toB p)))&&(bif d.1 then !ia (frB (dU p)) (toB (dU d))&&decide (gC a8 (ptd (dec (dU d).2.2.1) (dec (frB (dU p)))) (ptd (dec (dU d).2.2.1) (dec (toB (dU p)))) (ptd (dec (dU d).2.2.1) (dec (toB (dU d))))≤0)else true)
def wZ(c d:BCU)(l:List BP):Bool:=(rO c l).any (Eo d)
def pG(c d:BCU):Bool:=cC (dC c) (dC d)&&wZ c d (fR c d)
end
def wC(d p q r:Rat):Int:=sgQ (d-p-q-r*r,-2*r,-2*r,-2,p,q)
def DG(x y z r:Rat):Int:=sgQ (x+y-z-r*r,2,-(2*r),0,x*y,z)
def mx2(a b:Int):Int:=if b>a then b else a
theorem GJ(a b:Int):mn2 a b=min a b:=by unfold mn2;omega
theorem abZ(a b:Int):mx2 a b=max a b:=by unfold mx2;omega
theorem T9(a b c d:Int):J3 a b c d=min (min (min a b) c) d:=by unfold J3;simp only[GJ]
def Kf(b:Bool)(x:Int):Int:=bif b then x else 1
def ftv(s a:Cv):Rat×Rat:=dV (lnC s) (ctr (ciC a))
def wyv(c d:Cv):Rat×Rat:=cU (ctr (ciC c)) (ctr (ciC d))
def By(s a:Cv)(r:Rat):Int:=Kf (onP s (atP (ftv s a))) (uf a (ftv s a) r)
def nT(c d:Cv):Bool:=fe c (wyv c d)
def fT(c d:Cv):Bool:=fe c (bkV (wyv c d))
def nD(c d:Cv):Rat:=bI (wyv c d) (wyv c d)
def O7(c d:Cv)(r:Rat):Int:=bif decide (nD c d=0)then 1 else
 min (min (Kf (nT c d&&fe d (bkV (wyv c d))) (max (wC (nD c d) (ciC c).2.2 (ciC d).2.2 r) (DG (ciC c).2.2 (ciC d).2.2 (nD c d) r)))
  (Kf (nT c d&&fe d (wyv c d)) (max (DG (nD c d) (ciC d).2.2 (ciC c).2.2 r) (wC (ciC c).2.2 (nD c d) (ciC d).2.2 r))))
  (Kf (fT c d&&fe d (bkV (wyv c d))) (max (DG (nD c d) (ciC c).2.2 (ciC d).2.2 r) (wC (ciC d).2.2 (nD c d) (ciC c).2.2 r)))
theorem OQ(q:Qd):sgQ q≤1:=(Ik _ _ _ _ _ _).2
def yM(c d:Cv)(r:Rat):Int:=min (min (min (RE.poiE d (RE.pR (frC c)) r) (RE.poiE d (RE.pR (toC c)) r)) (RE.poiE c (RE.pR (frC d)) r)) (RE.poiE c (RE.pR (toC d)) r)
def qF(c d:Cv)(r:Rat):Int:=bif c.1 then(bif d.1 then min (yM c d r) (O7 c d r)else min (yM c d r) (By d c r))else bif d.1 then min (yM c d r) (By c d r)else yM c d r
def Vj(m:Bool)(o:Int)(r:Rat):Int:=bif decide (r<0)then 1 else bif m then-aG r 0 else o
def n3P(x y z:BR):Prop:=ok Rat 2000 x∧ok Rat 2000 y∧ok Rat 2000 z∧0≤ah x∧0≤ah y∧0≤ah z
instance (x y z:BR):Decidable (n3P x y z):=by unfold n3P;infer_instance
def n4P(x y z r:BR):Prop:=n3P x y z∧ok Rat 2000 r∧0≤ah r
instance (x y z r:BR):Decidable (n4P x y z r):=by unfold n4P;infer_instance
theorem afZ{x y z:BR}(h:n3P x y z):∃a b c:Rat,x=enc a∧y=enc b∧z=enc c∧Bd a 2000∧Bd b 2000∧Bd c 2000∧0≤a∧0≤b∧0≤c:=by
 obtain⟨h1,h2,h3,h4,h5,h6⟩:=h
 obtain⟨a,rfl,ba⟩:=aB h1
 obtain⟨b,rfl,bb⟩:=aB h2
 obtain⟨c,rfl,bc⟩:=aB h3
 rw[eO,cA]at h4 h5 h6
 exact⟨a,b,c,rfl,rfl,rfl,ba,bb,bc,h4,h5,h6⟩
theorem WC{x y z r:BR}(h:n4P x y z r):∃a b c e:Rat,(x=enc a∧y=enc b∧z=enc c∧r=enc e)∧Bd a 2000∧Bd b 2000∧Bd c 2000∧Bd e 2000∧0≤a∧0≤b∧0≤c∧0≤e:=by
 obtain⟨h,h1,h2⟩:=h
 obtain⟨a,b,c,e1,e2,e3,ba,bb,bc,na,nb,nc⟩:=afZ h
 obtain⟨e,rfl,be⟩:=aB h1
 rw[eO,cA]at h2
 exact⟨a,b,c,e,⟨e1,e2,e3,rfl⟩,ba,bb,bc,be,na,nb,nc,h2⟩
theorem ad3{a b c:Rat}{i j k:Nat}[ba:Bd a i][bb:Bd b j][bc:Bd c k](hi:i≤2000)(hj:j≤2000)(hk:k≤2000)(na:0≤a)(nb:0≤b)(nc:0≤c):n3P (am a) (am b) (am c):=
 ⟨alI (okd hi (by decide)),alI (okd hj (by decide)),alI (okd hk (by decide)),by rwa [cA],by rwa [cA],by rwa [cA]⟩
theorem afB{a b c e:Rat}{i j k l:Nat}[ba:Bd a i][bb:Bd b j][bc:Bd c k][be:Bd e l](hi:i≤2000)(hj:j≤2000)(hk:k≤2000)(hl:l≤2000)(na:0≤a)(nb:0≤b)(nc:0≤c)(ne:0≤e):n4P (am a) (am b) (am c) (am e):=
 ⟨ad3 hi hj hk na nb nc,alI (okd hl (by decide)),by rwa [cA]⟩
theorem PA{a b c e:Rat}{i j k l:Nat}[ba:Bd a i][bb:Bd b j][bc:Bd c k][be:Bd e l](hi:i≤2000)(hj:j≤2000)(hk:k≤2000)(hl:l≤2000)(na:0≤a)(nb:0≤b)(nc:0≤c)(ne:0≤e):decide (n4P (am a) (am b) (am c) (am e))=true:=alF (afB hi hj hk hl na nb nc ne)
def Fa(s a:BCU):Prop:=mG s∧mG a∧s.1=false∧a.1=true
instance (s a:BCU):Decidable (Fa s a):=by unfold Fa;infer_instance
def Nj(c d:BCU):Prop:=mG c∧mG d∧c.1=true∧d.1=true
instance (c d:BCU):Decidable (Nj c d):=by unfold Nj;infer_instance
def mg(c d:BCU)(r:Rat):Int:=Vj (decide (((fR c d).length:Int)>0)||pG c d) (qF (dC c) (dC d) r) r
namespace RE
end RE
section
open RE
theorem Gu{s a:BCU}(hs:pp s)(ha:pp a)(e:s.1=false)(e':a.1=true):Bd (ftv (dC s) (dC a)) 200:=by
 obtain⟨bl,_⟩:=(jH hs).2 e
 obtain⟨bc,_⟩:=(jH ha).1 e'
 have x1:Bd (kY (lnC (dC s)) (ctr (ciC (dC a)))) _:=(inferInstance:Bd (((lnC (dC s)).1*(ciC (dC a)).1+(lnC (dC s)).2.1*(ciC (dC a)).2.1-(lnC (dC s)).2.2)/((lnC (dC s)).1*(lnC (dC s)).1+(lnC (dC s)).2.1*(lnC (dC s)).2.1)) _)
 exact(inferInstance:Bd (((ciC (dC a)).1-kY (lnC (dC s)) (ctr (ciC (dC a)))*(lnC (dC s)).1,(ciC (dC a)).2.1-kY (lnC (dC s)) (ctr (ciC (dC a)))*(lnC (dC s)).2.1):Rat×Rat) _).mono (by decide)
theorem Qc{c:BCU}(h:gdN c){v:Rat×Rat}(hv:Bd v 200){r:Rat}(hr:0≤r):uf (dC c) v r=sg (vR (me (dC c) v)-of (r*r)):=by
 unfold uf
 rw[dF (show ¬r<0 by grind),cond_false,cmpTR_re (Bv (bv:=hv) h.1.1).2.nn]
theorem Ib{c d:BCU}(hc:gdN c)(hd:gdN d)(h:fR c d=[]):pG c d=false:=by
 cases hN:pG c d
 ·rfl
 ·exfalso
  unfold pG at hN
  obtain⟨hs,ho⟩:=alQ.1 hN
  rw[h]at ho
  have ho:([BZ c c.2.2.2.2.1 c.2.2.2.2.2].any (Eo d))=true:=ho
  have h1:onP (dC d) (dec c.2.2.2.2.1)=true:=by
   simp only[aoK,List.any_nil,Bool.or_false]at ho
   unfold Eo at ho
   exact(alQ.1 (alQ.1 ho).1).1
  have r:Rpd (dec c.2.2.2.2.1:Pt):=hc.crp.f.1
  have hx:c.2.2.2.2.1∈jF c d:=by unfold jF;rw[hs];simp
  have k:=Hh hc hd r (Gx hc).1 (by rw[←il hd.crp r];exact h1)
  obtain⟨y,hy,_⟩:=(HA hc.crp hc.ne (Qk hc hd)).2 _ (aoq.2 ⟨hx,k⟩)
  have hy:y∈fR c d:=hy
  rw[h]at hy
  cases hy
end
section
open RE
theorem TQ{c d:BCU}(hc:gdN c)(hd:gdN d){x:BP}(hx:x∈fR c d):Spb (dC c) x∧Spb (dC d) x:=by
 obtain⟨_,_,s1,s2,_⟩:=yF hc hd hx
 exact⟨s1,s2⟩
end
section
namespace RE
theorem ajz(A B x y m:RE):B*(m*(B*x-A*y))=m*(B*B*x+A*(A*x)-A*(A*x+B*y)):=by grind
theorem akW(A B x y m:RE): -A*(m*(B*x-A*y))=m*(A*A*y+B*(B*y)-B*(A*x+B*y)):=by grind
theorem ajM(A B x y a b:RE):A*(x-a)+B*(y-b)=(A*x+B*y)-(A*a+B*b):=by grind
theorem aki(A x m B:RE):m*(B*B*x+A*(A*x)-A*0)=m*(A*A+B*B)*x:=by grind
theorem akY(A y m B:RE):m*(A*A*y+B*(B*y)-B*0)=m*(A*A+B*B)*y:=by grind
theorem ajB(f g u v s p q:RE):(f+u*s-p)*(f+u*s-p)+(g+v*s-q)*(g+v*s-q)=((f-p)*(f-p)+(g-q)*(g-q))+((f-p)*u+(g-q)*v)*s+((f-p)*u+(g-q)*v)*s+(u*u+v*v)*(s*s):=by grind
theorem ak5(a b:RE):(a-b)*(a+b)=a*a-b*b:=by grind
theorem ae9(x f:RE):f+(x-f)=x:=by grind
theorem ak2(s u f:RE):f+u* -s=f+ -u*s:=by grind
theorem ajA(x y p q a b m n:RE):((1+1)*(p-a))*x+((1+1)*(q-b))*y=(((x-a)*(x-a)+(y-b)*(y-b))-m)-(((x-p)*(x-p)+(y-q)*(y-q))-n)+((p*p+q*q-n)-(a*a+b*b-m)):=by grind
theorem ak4(m n a b:RE):(m-m)-(n-n)+(b-a)=b-a:=by grind
theorem akE(d k:RE):d+k-d=k:=by grind
theorem RQ(a b:RE):a- -b=a+b:=by grind
theorem pO{x y:RE}(h:x*y=0):x=0∨y=0:=by
 rcases lt_lin.tri x 0 with a|a|a
 ·rcases lt_lin.tri y 0 with b|b|b
  ·have e:=dp x y
   rw[h,db,gk a,gk b]at e
   exact absurd e (by decide)
  ·exact .inr b
  ·have e:=dp x y
   rw[h,db,gk a,dt b]at e
   exact absurd e (by decide)
 ·exact .inl a
 ·rcases lt_lin.tri y 0 with b|b|b
  ·have e:=dp x y
   rw[h,db,dt a,gk b]at e
   exact absurd e (by decide)
  ·exact .inr b
  ·have e:=dp x y
   rw[h,db,dt a,dt b]at e
   exact absurd e (by decide)
section
variable {l c:Ln}
theorem AU(hl:l.1≠0∨l.2.1≠0){v:PE}(h1:fx l v)(h2:fw c v):∃p∈kE l c,pR p=v:=by
 have hn:=nQ hl
 have t0:vlL l c.1 c.2.1/cj l*cj l=vlL l c.1 c.2.1:=al5 hn
 have e1:l.1*ftX l c+l.2.1*ftY l c=l.2.2:=by
  unfold ftX ftY
  generalize vlL l c.1 c.2.1/cj l=s at*
  unfold cj vlL at t0
  grind
 have e3:(ftX l c-c.1)*l.2.1+(ftY l c-c.2.1)* -l.1=0:=by
  unfold ftX ftY
  grind
 have k0:d9 l c*cj l=c.2.2-yo l c:=al5 hn
 have hz:of l.1*(v.1-of (ftX l c))+of l.2.1*(v.2-of (ftY l c))=0:=by
  unfold fx at h1
  rw[ajM,h1,←aF,←aF,←of_add,e1,sub_self]
 have hm:of (cj l)⁻¹*(of l.1*of l.1+of l.2.1*of l.2.1)=1:=by
  rw[←aF,←aF,←of_add,←aF,←As]
  exact congrArg of (Rat.inv_mul_cancel _ hn)
 obtain⟨t,ht⟩:∃t,t=of (cj l)⁻¹*(of l.2.1*(v.1-of (ftX l c))-of l.1*(v.2-of (ftY l c))):=⟨_,rfl⟩
 have w1:of l.2.1*t=v.1-of (ftX l c):=by rw[ht,ajz,hz,aki,hm,one_mul]
 have w2: -of l.1*t=v.2-of (ftY l c):=by rw[ht,akW,hz,akY,hm,one_mul]
 have v1:v.1=of (ftX l c)+of l.2.1*t:=by rw[w1,ae9]
 have v2':v.2=of (ftY l c)+of (-l.1)*t:=by rw[of_neg,w2,ae9]
 have hq:of (cj l)*(t*t)=of (d9 l c*cj l):=by
  have h2':=h2
  unfold fw frm at h2'
  dsimp only at h2'
  rw[v1,v2',ajB,←of_sub,←of_sub,←aF,←aF,←aF,←aF,←aF,←aF,←of_add,←of_add,←of_add,e3,nS,zero_mul,add_zero,add_zero,show l.2.1*l.2.1+ -l.1* -l.1=cj l by unfold cj;grind]at h2'
  have e4:(ftX l c-c.1)*(ftX l c-c.1)+(ftY l c-c.2.1)*(ftY l c-c.2.1)=yo l c:=rfl
  rw[e4]at h2'
  rw[k0,of_sub,←h2']
  rw[akE]
 have tt:t*t=of (d9 l c):=uK hn (by rw[hq,←aF,anu])
 have kn:0≤d9 l c:=by
  rcases(by grind:0≤d9 l c∨d9 l c<0)with h|h
  ·exact h
  ·have:=iz h
   rw[←tt]at this
   exact absurd this (ir t)
 have dd:(qC l=l.2.1∧qG l= -l.1)∨(qC l= -l.2.1∧qG l=l.1):=by
  unfold qC qG
  cases EG l
  ·exact .inl ⟨rfl,rfl⟩
  ·exact .inr ⟨rfl,aoN _⟩
 have hv:t=rq (d9 l c)∨t= -rq (d9 l c):=by
  have hs:=fS kn
  have:(t-rq (d9 l c))*(t+rq (d9 l c))=0:=by rw[ak5,tt,hs,sub_self]
  rcases pO this with h|h
  ·exact .inl (fY _ _ h)
  ·refine .inr (fY _ _ ?_)
   rw[←h,RQ]
 unfold kE
 rw[dF (show ¬d9 l c<0 by grind)]
 by_cases hk0:d9 l c=0
 ·rw[dT hk0]
  refine⟨atP (ftL l c),by simp,?_⟩
  have t00:t=0:=by
   rw[hk0,nS]at tt
   rcases pO tt with h|h<;>exact h
  rw[lE]
  refine amV ?_ ?_
  ·rw[v1,t00,mul_zero,add_zero];rfl
  ·rw[v2',t00,mul_zero,add_zero];rfl
 ·rw[dF hk0]
  have neg2:∀f u:Rat,v2 f (-u) (d9 l c)=of f+of u* -rq (d9 l c):=fun f u=>by
   unfold v2
   rw[of_neg,ak2]
  rcases dd with⟨g1,g2⟩|⟨g1,g2⟩<;>rcases hv with ht'|ht'
  ·refine⟨lcN l c,by simp,?_⟩
   unfold lcN
   rw[o9,g1,g2]
   exact amV (by rw[v1,ht'];rfl) (by rw[v2',ht'];rfl)
  ·refine⟨lcM l c,by simp,?_⟩
   unfold lcM
   rw[o9,g1,g2,neg2,neg2]
   exact amV (by rw[v1,ht']) (by rw[v2',ht'])
  ·refine⟨lcM l c,by simp,?_⟩
   unfold lcM
   rw[o9,g1,g2,aoN]
   exact amV (by rw[v1,ht'];rfl) (by rw[v2',ht'];rfl)
  ·refine⟨lcN l c,by simp,?_⟩
   unfold lcN
   rw[o9,g1,g2]
   refine amV ?_ ?_
   ·show v2 _ (-l.2.1) _=_
    rw[neg2,v1,ht']
   ·show v2 _ l.1 _=_
    rw[v2',ht',show l.1= -(-l.1) from(aoN _).symm,neg2,aoN]
end
theorem MJ{c d:Ln}{v:PE}(hc:fw c v)(hd:fw d v):fx (mU c d) v:=by
 have o2:of 2=1+1:=by
  rw[←As,←of_add]
  exact congrArg of (by decide+kernel)
 unfold fw frm at hc hd
 unfold fx mU qB
 dsimp only at*
 simp only[of_sub,aF,of_add,o2]
 rw[ajA v.1 v.2 (of d.1) (of d.2.1) (of c.1) (of c.2.1) (of c.2.2) (of d.2.2),hc,hd,ak4]
end RE
end
section
open RE
theorem Ja(c d:Ln):gM d c=gM c d:=by
 unfold gM
 have e1:decide (d.1=c.1)=decide (c.1=d.1):=amc.2 eq_comm
 have e2:decide (d.2.1=c.2.1)=decide (c.2.1=d.2.1):=amc.2 eq_comm
 rw[e1,e2]
theorem SZ{l m:Ln}{p:Pt}(hp:p∈lk l m):p∈lk m l:=by
 unfold lk at*
 have ec:dk m l= -dk l m:=by unfold dk;grind
 by_cases h0:dk l m=0
 ·rw[dT h0]at hp
  cases hp
 ·have h1:¬dk m l=0:=by rw[ec];grind
  rw[dF h0]at hp
  rw[dF h1]
  have:p=atP (lj l m/dk l m,ln l m/dk l m):=by simpa using hp
  rw[this]
  have dv:∀a b:Rat,b≠0→ -a/ -b=a/b:=fun a b hb=>by
   have h1: -a/ -b* -b= -a:=al5 (by grind)
   have h2:a/b*b=a:=al5 hb
   generalize-a/ -b=x at*
   generalize a/b=y at*
   have:(x-y)*b=0:=by grind
   rcases anX.1 this with h|h
   ·grind
   ·exact absurd h hb
  have ex:lj m l= -lj l m:=by unfold lj;grind
  have ey:ln m l= -ln l m:=by unfold ln;grind
  rw[ec,ex,ey,dv _ _ h0,dv _ _ h0]
  simp
theorem QV{c d:BCU}(hc:pp c)(hd:pp d){p:Pt}(hp:p∈gi (dC c) (dC d)):∃q∈gi (dC d) (dC c),pR q=pR p:=by
 obtain⟨c1,c2⟩:=jH hc
 obtain⟨d1,d2⟩:=jH hd
 have ec:(dC c).1=c.1:=rfl
 have ed:(dC d).1=d.1:=rfl
 unfold gi at*
 rw[ec,ed]at hp ⊢
 cases ha:c.1<;>cases hb:d.1<;>rw[ha,hb]at hp
 ·have hp:p∈lk (lnC (dC c)) (lnC (dC d)):=hp
  exact⟨p,SZ hp,rfl⟩
 ·exact⟨p,hp,rfl⟩
 ·exact⟨p,hp,rfl⟩
 ·have i1:=(c1 ha).1
  have i2:=(d1 hb).1
  have hp:p∈rJ (ciC (dC c)) (ciC (dC d)):=hp
  show ∃q∈rJ (ciC (dC d)) (ciC (dC c)),_
  unfold rJ at*
  rw[Ja]
  cases hq:gM (ciC (dC c)) (ciC (dC d))<;>rw[hq]at hp
  ·obtain⟨o1,o2⟩:=I7 (ui hq) hp
   have o3:=LD o1 o2
   exact AU (ui (by rw[Ja];exact hq)) (MJ o3 o2) o3
  ·cases hp
theorem wW{c d:BCU}(hc:gdN c)(hd:gdN d){x:BP}(hx:x∈jF c d)(o1:onR (dC c) (dec x)=true)(o2:onR (dC d) (dec x)=true):∃y∈fR c d,aX (dec y) (dec x)=0:=by
 obtain⟨_,p2⟩:=HA hc.crp hc.ne (Qk hc hd)
 have r:=((vT hc hd).2 x hx).2.1.1
 exact p2 x (aoq.2 ⟨hx,Hh hc hd r o1 o2⟩)
theorem Pj{c d:BCU}(hc:gdN c)(hd:gdN d){a:BP}(ha:a∈fR c d):∃b∈fR d c,aX (dec a) (dec b)=0:=by
 obtain⟨hm,_,s1,s2,o1,o2⟩:=yF hc hd ha
 have ra:=s1.1
 have key:∃z∈jF d c,aX (dec z) (dec a)=0:=by
  unfold jF at hm
  unfold jF
  cases hs:cC (dC c) (dC d)
  ·have hs':cC (dC d) (dC c)=false:=by
    cases h:cC (dC d) (dC c)with
    |false=>rfl
    |true=>rw[AH h]at hs;cases hs
   rw[hs]at hm
   rw[hs']
   obtain⟨p,hp,e⟩:=anh.1 hm
   obtain⟨q,hq,e2⟩:=QV hc.1.2 hd.1.2 hp
   obtain⟨_,rq,_⟩:=supM_on hd.1.2 hc.1.2 hq
   refine⟨enc q,anh.2 ⟨q,hq,rfl⟩,?_⟩
   have:Rpd (dec (enc q):Pt):=by rw[az];exact rq
   refine cmpP_0.2 ?_
   rw[az,e2,←e,az]
  ·rw[hs]at hm
   rw[AH hs]
   refine⟨a,?_,aeN ra⟩
   have:a=c.2.2.2.2.1∨a=c.2.2.2.2.2∨a=d.2.2.2.2.1∨a=d.2.2.2.2.2:=by simpa using hm
   rcases this with e|e|e|e<;>simp[e]
 obtain⟨z,hz,ez⟩:=key
 have rz:=((vT hd hc).2 z hz).2.1.1
 obtain⟨y,hy,ey⟩:=wW hd hc hz (by rw[IQ hd.crp rz ra ez];exact o2) (by rw[IQ hc.crp rz ra ez];exact o1)
 have ry:=(TQ hd hc hy).1.1
 exact⟨y,hy,ML (agX ey ez)⟩
end
namespace RE
theorem Mn.zero{S:PE→Prop}{v:PE}{m:RE}(h:Mn S v m):m=0↔S v:=by
 obtain⟨⟨p,hp,e⟩,hl⟩:=h
 constructor
 ·intro h0
  rw[h0]at e
  obtain⟨a,b⟩:=wi e
  have:p=v:=amV (fY _ _ a) (fY _ _ b)
  rw[←this];exact hp
 ·intro hv
  have h1:=hl v hv
  have h2:dsE v v=0:=by
   unfold dsE
   rw[sub_self,sub_self,mul_zero,add_zero]
  rw[h2]at h1
  refine le_antisymm h1 ?_
  rw[←e]
  exact EC _ _ (ir _) (ir _)
theorem zH{x y:Rt}(hx:Rdd x)(hy:Rdd y)(h:vR x=vR y):(a8 x y==0)=true:=by
 rw[cmpT_re hx.nn hy.nn,h,sub_self,db]
 rfl
end RE
section
open RE
theorem adg{c d c' d':BCU}(hc:gdN c)(hd:gdN d)(hc':gdN c')(hd':gdN d')(h:fR c d=[]↔fR c' d'=[]):(decide (((fR c d).length:Int)>0)||pG c d)=(decide (((fR c' d').length:Int)>0)||pG c' d'):=by
 by_cases e:fR c d=[]
 ·have e':=h.1 e
  rw[Ib hc hd e,Ib hc' hd' e',e,e']
 ·have l:=ami.2 e
  have l':=ami.2 fun q=>e (h.2 q)
  rw[dT (show((fR c d).length:Int)>0 by omega),dT (show((fR c' d').length:Int)>0 by omega),Bool.true_or,Bool.true_or]
theorem aaJ{l:List BP}{P:Prop}(h:∀a∈l,P)(n:¬P):l=[]:=by
 cases l with
 |nil=>rfl
 |cons a r=>exact absurd (h a List.mem_cons_self) n
theorem El{c d:BCU}(hc:gdN c)(hd:gdN d)(e:fR c d=[]):fR d c=[]:=
 aaJ (fun _ ha=>(Pj hd hc ha).imp fun _ h=>h.1) fun⟨b,hb⟩=>by rw[e]at hb;cases hb
theorem gdN.cn{c:BCU}(h:gdN c)(e:c.1=true):0≤(ciC (dC c)).2.2:=by
 have:=h.crp.q e
 grind
theorem acI{c d c' d':BCU}(hc:gdN c)(hd:gdN d)(hc':gdN c')(hd':gdN d')(h:fR c d=[]↔fR c' d'=[])(r:Rat)(ho:0≤r→qF (dC c) (dC d) r=qF (dC c') (dC d') r):mg c d r=mg c' d' r:=by
 unfold mg Vj
 rw[adg hc hd hc' hd' h]
 by_cases hr:r<0
 ·rw[dT hr];rfl
 ·rw[dF hr,ho (by grind)]
end
section
open RE
theorem Ot{l m:Ln}(hs:lU l m=false){v:PE}(o1:fx l v)(o2:fx m v):∃q∈lk l m,pR q=v:=by
 unfold lk
 unfold fx at o1 o2
 by_cases h0:dk l m=0
 ·exfalso
  have e1:l.1*m.2.1=l.2.1*m.1:=by unfold dk at h0;grind
  have k:of l.1*of m.2.1=of l.2.1*of m.1:=by rw[←aF,e1,aF]
  have k1:=congrArg (·*v.1) k
  have k2:=congrArg (·*v.2) k
  have e2:l.1*m.2.2=l.2.2*m.1:=m5 (by rw[aF,aF,←o1,←o2];grind)
  have e3:l.2.1*m.2.2=l.2.2*m.2.1:=m5 (by rw[aF,aF,←o1,←o2];grind)
  unfold lU at hs
  rw[dT e1,dT e2,dT e3]at hs
  cases hs
 ·rw[dF h0]
  refine⟨_,an8.2 rfl,?_⟩
  have nz:of (dk l m)≠0:=fun e=>h0 (m5 e)
  have f:∀{a:Rat} {y:RE},of (dk l m)*y=of a→of (a/dk l m)=y:=fun{a y} h=>by
   have q:of (a/dk l m)*of (dk l m)=of a:=by rw[←aF,al5 h0]
   rcases pO (show of (dk l m)*(of (a/dk l m)-y)=0 by grind)with g|g
   ·exact absurd g nz
   ·grind
  rw[lE]
  refine amV (f ?_) (f ?_)
  ·unfold dk lj
   rw[of_sub,aF,aF,of_sub,aF,aF,←o1,←o2]
   grind
  ·unfold dk ln
   rw[of_sub,aF,aF,of_sub,aF,aF,←o1,←o2]
   grind
theorem IL{c:BCU}{v:PE}(o:onE (dC c) v):(c.1=false→fx (lnC (dC c)) v)∧(c.1=true→fw (ciC (dC c)) v):=by
 have e:(dC c).1=c.1:=rfl
 constructor<;>intro ha
 ·rw[Gr (e.trans ha)]at o
  exact o.1
 ·rw[GK (e.trans ha)]at o
  exact o.1
theorem SW{c d:BCU}(hc:pp c)(hd:pp d)(hs:cC (dC c) (dC d)=false){v:PE}(o1:onE (dC c) v)(o2:onE (dC d) v):∃q∈gi (dC c) (dC d),pR q=v:=by
 obtain⟨_,c2⟩:=jH hc
 obtain⟨_,d2⟩:=jH hd
 obtain⟨a1,a2⟩:=IL o1
 obtain⟨b1,b2⟩:=IL o2
 have ec:(dC c).1=c.1:=rfl
 have ed:(dC d).1=d.1:=rfl
 unfold cC at hs
 unfold gi
 rw[ec,ed]at hs ⊢
 cases ha:c.1<;>cases hb:d.1<;>rw[ha,hb]at hs
 ·exact Ot hs (a1 ha) (b1 hb)
 ·exact AU (c2 ha).2 (a1 ha) (b2 hb)
 ·exact AU (d2 hb).2 (b1 hb) (a2 ha)
 ·have o1:=a2 ha
  have o2:=b2 hb
  show ∃q∈rJ (ciC (dC c)) (ciC (dC d)),_
  unfold rJ
  cases hq:gM (ciC (dC c)) (ciC (dC d))
  ·exact AU (ui hq) (MJ o1 o2) o1
  ·exfalso
   have hs:ni (ciC (dC c)) (ciC (dC d))=false:=hs
   obtain⟨q1,q2⟩:=alQ.1 hq
   have q1:=alI q1
   have q2:=alI q2
   unfold fw frm at o1 o2
   rw[q1,q2,o2]at o1
   unfold ni at hs
   rw[dT q1,dT q2,dT (m5 o1).symm]at hs
   cases hs
theorem H4{c d:BCU}(hc:gdN c)(hd:gdN d)(hs:cC (dC c) (dC d)=false){v:PE}(o1:onE (dC c) v)(o2:onE (dC d) v):fR c d≠[]:=by
 obtain⟨q,hq,e⟩:=SW hc.1.2 hd.1.2 hs o1 o2
 subst e
 have r:Rpd q:=(supM_on hc.1.2 hd.1.2 hq).2.1
 have hx:(enc q:BP)∈jF c d:=by unfold jF;rw[hs];exact List.mem_map_of_mem hq
 obtain⟨y,hy,_⟩:=wW hc hd hx (by rw[az,←il hc.crp r];exact(gJ hc.e).2 o1) (by rw[az,←il hd.crp r];exact(gJ hd.e).2 o2)
 intro n
 rw[n]at hy
 cases hy
theorem wg{c d:BCU}(hc:gdN c)(hd:gdN d){x:BP}(hx:x=c.2.2.2.2.1∨x=c.2.2.2.2.2)(o:onE (dC d) (pR (dec x))):fR c d≠[]:=by
 have r:Rpd (dec x:Pt):=by
  rcases hx with rfl|rfl
  ·exact hc.crp.f.1
  ·exact hc.crp.t.1
 have k1:onR (dC c) (dec x)=true:=by
  rcases hx with rfl|rfl
  ·exact(Gx hc).1
  ·exact(Gx hc).2
 have k2:onR (dC d) (dec x)=true:=by rw[←il hd.crp r];exact(gJ hd.e).2 o
 cases hs:cC (dC c) (dC d)
 ·exact H4 hc hd hs ((gJ hc.e).1 (by rw[il hc.crp r];exact k1)) o
 ·obtain⟨y,hy,_⟩:=wW hc hd (x:=x) (by unfold jF;rw[hs];rcases hx with rfl|rfl<;>simp) k1 k2
  intro n
  rw[n]at hy
  cases hy
end
end Go.Proofs.YtnkndpoojnflmaaGreat
end
