/- integer: divide, the code. -/
import Derived.Test.YtlahabkjhgkkjaaGreatX7
noncomputable section
namespace Go.Proofs.YtlahabkjhgkkjaaGreat
open Go.RowKit Go.IntKind
theorem auR:type_of% @List.length_pos_iff:=@List.length_pos_iff
theorem avk:type_of% @Classical.choose_spec:=@Classical.choose_spec
theorem avx:type_of% @beq_iff_eq:=@beq_iff_eq
theorem avW:type_of% @Int.ediv_le_self:=@Int.ediv_le_self
theorem awg:type_of% @Int.mul_ediv_cancel_left:=@Int.mul_ediv_cancel_left
theorem awh:type_of% @decide_eq_true_eq:=@decide_eq_true_eq
theorem awt:type_of% @Prod.ext:=@Prod.ext
theorem awK:type_of% @Int.natAbs_mul:=@Int.natAbs_mul
theorem awM:type_of% @Int.mul_neg:=@Int.mul_neg
theorem awU:type_of% @Int.zero_mul:=@Int.zero_mul
def HE:aN:=spN true false [axe,axe] (fun x=>decide (bi x.1∧bi x.2.1)) (fun x=>[RV.new 183 axg (dig (max x.1.length x.2.1.length+1) (val x.1+val x.2.1))])
theorem Dy:SpK 263 HE:=spX fun x h=>abj x.1 x.2.1 (at6 h)
def E9:aN:=spN true false [axe,axe] (fun x=>decide (lL x.1 x.2.1)) (fun x=>[RV.new 183 axg (dig x.1.length (val x.1-val x.2.1))])
theorem D5:SpK 264 E9:=spX fun x h=>abq x.1 x.2.1 (at6 h)
def Fj:aN:=spN true false [axe,axe] (fun x=>decide (bi x.1∧bi x.2.1)) (fun x=>[RV.new 183 axg (dig (x.1.length+x.2.1.length) (val x.1*val x.2.1))])
theorem Dn:SpK 248 Fj:=spX fun x h=>ab2 x.1 x.2.1 (at6 h)
def VG:aN:=spN false false [axe,axg] (fun x=>decide (DW x.1 x.2.1)) (fun x=>[RV.d axe (dig x.1.length (val x.1/x.2.1)),RV.d axe ([val x.1%x.2.1])])
theorem Oa:SpK 298 VG:=spX fun x h=>aac x.1 x.2.1 (at6 h)
def GZ:aN:=spN true false [axe,axe] (fun x=>decide (bi x.1∧bi x.2.1)) (fun x=>[RV.d axf (ck (val x.1) (val x.2.1))])
theorem DS:SpK 247 GZ:=spX fun x h=>aa3 x.1 x.2.1 (at6 h)
def NK:Env:=[(278,F9),(263,HE),(264,E9),(248,Fj),(298,VG),(247,GZ)]
theorem Mp:EnvAll Tryz.prog NK:=⟨DI,Dy,D5,Dn,Oa,DS,trivial⟩
def aiQ:NT:=[((286,34),{keep:=[6,7,8,9,10,11],hl:=6}),((286,49),{keep:=[6,7,8,9,10,11,13,14],hl:=6}),((299,8),{keep:=[0,1,2,7,8,14,15],hl:=6}),((300,5),{keep:=[0,1,4,8,9],hl:=6}),((286,68),{keep:=[6,7,8,9,10,11,13,151],hl:=0}),((286,72),{keep:=[6,7,8,9,10,11,13],hl:=0})]
def fB:Ctx:=CX NK aiQ
def nD(b:List Int)(x2 s11:Int)(r5 r1:List Int):Cfg:=⟨286,[.blk 0,.seq 76],[(6,SI ((ai (val b).toNat).length:Int)),(7,.d axg (u32.wrap (u64.wrap (Int.tdiv 1000000000 (u64.wrap ((u64.wrap x2)+1)))))),(8,.own 1),(9,.d axe (ai (val (dig ((ai (val b).toNat).length+([u32.wrap (u64.wrap (Int.tdiv 1000000000 (u64.wrap ((u64.wrap x2)+1))))]).length) (val (ai (val b).toNat)*val ([u32.wrap (u64.wrap (Int.tdiv 1000000000 (u64.wrap ((u64.wrap x2)+1))))])))).toNat)),(10,.own 5),(11,SI s11)],[.row 183 axg ([u32.wrap (u64.wrap (Int.tdiv 1000000000 (u64.wrap ((u64.wrap x2)+1))))]),.row 183 axg r1,.row 183 axg ([0]),.row 183 axg ([u32.wrap (u64.wrap (Int.tdiv 1000000000 (u64.wrap ((u64.wrap x2)+1))))]),.gone,.row 183 axg r5],0,[]⟩
def kW(b:List Int)(x2 s11:Int)(r1 r5:List Int)(s13 s14:Int):Cfg:=⟨286,[.blk 2,.seq 66,.blk 1,.seq 75,.lp 34,.blk 0,.seq 76],[(6,SI ((ai (val b).toNat).length:Int)),(7,.d axg (u32.wrap (u64.wrap (Int.tdiv 1000000000 (u64.wrap ((u64.wrap x2)+1)))))),(8,.own 1),(9,.d axe (ai (val (dig ((ai (val b).toNat).length+([u32.wrap (u64.wrap (Int.tdiv 1000000000 (u64.wrap ((u64.wrap x2)+1))))]).length) (val (ai (val b).toNat)*val ([u32.wrap (u64.wrap (Int.tdiv 1000000000 (u64.wrap ((u64.wrap x2)+1))))])))).toNat)),(10,.own 5),(11,SI s11),(13,.d (.int .u64) s13),(14,.d (.int .u64) s14)],[.row 183 axg ([u32.wrap (u64.wrap (Int.tdiv 1000000000 (u64.wrap ((u64.wrap x2)+1))))]),.row 183 axg r1,.row 183 axg ([0]),.row 183 axg ([u32.wrap (u64.wrap (Int.tdiv 1000000000 (u64.wrap ((u64.wrap x2)+1))))]),.gone,.row 183 axg r5],0,[]⟩
def cU(b:List Int)(x2 s11:Int)(r5:List Int)(s299_2 f299_0_13 s299_7 s299_8 s299_15:Int)(r299_1:List Int):Cfg:=⟨299,[.blk 0,.seq 43],[(0,.osl 1 1 ((s11:Int).toNat) ((i64.wrap ((i64.wrap (s11+((ai (val b).toNat).length:Int)))+1):Int).toNat-(s11:Int).toNat)),(1,.d axe (ai (val (dig ((ai (val b).toNat).length+([u32.wrap (u64.wrap (Int.tdiv 1000000000 (u64.wrap ((u64.wrap x2)+1))))]).length) (val (ai (val b).toNat)*val ([u32.wrap (u64.wrap (Int.tdiv 1000000000 (u64.wrap ((u64.wrap x2)+1))))])))).toNat)),(2,.d (.int .u64) s299_2),(7,.d (.int .u64) s299_7),(8,.d (.int .u64) s299_8),(14,SI (((i64.wrap ((i64.wrap (s11+((ai (val b).toNat).length:Int)))+1):Int).toNat-(s11:Int).toNat:Nat):Int)),(15,SI s299_15)],[.row 183 axg ([u32.wrap (u64.wrap (Int.tdiv 1000000000 (u64.wrap ((u64.wrap x2)+1))))]),.row 183 axg r299_1,.row 183 axg ([0]),.row 183 axg ([u32.wrap (u64.wrap (Int.tdiv 1000000000 (u64.wrap ((u64.wrap x2)+1))))]),.gone,.row 183 axg r5],6,[⟨286,[.seq 69,.seq 74,.blk 1,.seq 75,.lp 34,.blk 0,.seq 76],68,9,[(6,SI ((ai (val b).toNat).length:Int)),(7,.d axg (u32.wrap (u64.wrap (Int.tdiv 1000000000 (u64.wrap ((u64.wrap x2)+1)))))),(8,.own 1),(9,.d axe (ai (val (dig ((ai (val b).toNat).length+([u32.wrap (u64.wrap (Int.tdiv 1000000000 (u64.wrap ((u64.wrap x2)+1))))]).length) (val (ai (val b).toNat)*val ([u32.wrap (u64.wrap (Int.tdiv 1000000000 (u64.wrap ((u64.wrap x2)+1))))])))).toNat)),(10,.own 5),(11,SI s11),(13,.d (.int .u64) f299_0_13)],0,none⟩]⟩
def dp(b:List Int)(x2 s11:Int)(r5:List Int)(f299_0_13 s300_4 s300_9:Int)(r300_1:List Int):Cfg:=⟨300,[.blk 0],[(0,.osl 1 1 ((s11:Int).toNat) ((i64.wrap ((i64.wrap (s11+((ai (val b).toNat).length:Int)))+1):Int).toNat-(s11:Int).toNat)),(1,.d axe (ai (val (dig ((ai (val b).toNat).length+([u32.wrap (u64.wrap (Int.tdiv 1000000000 (u64.wrap ((u64.wrap x2)+1))))]).length) (val (ai (val b).toNat)*val ([u32.wrap (u64.wrap (Int.tdiv 1000000000 (u64.wrap ((u64.wrap x2)+1))))])))).toNat)),(4,.d axg s300_4),(8,SI (((i64.wrap ((i64.wrap (s11+((ai (val b).toNat).length:Int)))+1):Int).toNat-(s11:Int).toNat:Nat):Int)),(9,SI s300_9)],[.row 183 axg ([u32.wrap (u64.wrap (Int.tdiv 1000000000 (u64.wrap ((u64.wrap x2)+1))))]),.row 183 axg r300_1,.row 183 axg ([0]),.row 183 axg ([u32.wrap (u64.wrap (Int.tdiv 1000000000 (u64.wrap ((u64.wrap x2)+1))))]),.gone,.row 183 axg r5],6,[⟨286,[.seq 74,.blk 1,.seq 75,.lp 34,.blk 0,.seq 76],72,8,[(6,SI ((ai (val b).toNat).length:Int)),(7,.d axg (u32.wrap (u64.wrap (Int.tdiv 1000000000 (u64.wrap ((u64.wrap x2)+1)))))),(8,.own 1),(9,.d axe (ai (val (dig ((ai (val b).toNat).length+([u32.wrap (u64.wrap (Int.tdiv 1000000000 (u64.wrap ((u64.wrap x2)+1))))]).length) (val (ai (val b).toNat)*val ([u32.wrap (u64.wrap (Int.tdiv 1000000000 (u64.wrap ((u64.wrap x2)+1))))])))).toNat)),(10,.own 5),(11,SI s11),(13,.d (.int .u64) (u64.wrap (f299_0_13-1)))],0,none⟩]⟩
def Iq(a b:List Int)(k:KT):Option (List RV):=match decide (bi a)with|true=>(match decide (bi b)with|true=>(match((ai (val b).toNat).length:Int)==1 with|true=>(match bH (ai (val b).toNat) 0 with|some x1=>(match decide (DW (ai (val a).toNat) x1)with|true=>some [RV.d axe (dig (ai (val a).toNat).length (val (ai (val a).toNat)/x1)),RV.d axe ([val (ai (val a).toNat)%x1])]|false=>none)|none=>none)|false=>(match decide (bi (ai (val a).toNat)∧bi (ai (val b).toNat))with|true=>(match decide ((ck (val (ai (val a).toNat)) (val (ai (val b).toNat)))<0)with|true=>(match decide ((ai (val a).toNat).length*4≤140737488355328∧(ai (val a).toNat).length≤140737488355328)with|true=>some [RV.d axe ([]),RV.d axe (ai (val a).toNat)]|false=>none)|false=>(match bH (ai (val b).toNat) (i64.wrap (((ai (val b).toNat).length:Int)-1))with|some x2=>(match decide (u64.wrap ((u64.wrap x2)+1)=(0:Int))with|true=>none|false=>(match decide (bi (ai (val a).toNat)∧bi ([u32.wrap (u64.wrap (Int.tdiv 1000000000 (u64.wrap ((u64.wrap x2)+1))))]))with|true=>(match decide (((dig ((ai (val a).toNat).length+([u32.wrap (u64.wrap (Int.tdiv 1000000000 (u64.wrap ((u64.wrap x2)+1))))]).length) (val (ai (val a).toNat)*val ([u32.wrap (u64.wrap (Int.tdiv 1000000000 (u64.wrap ((u64.wrap x2)+1))))]))).length+([0]).length)*4≤140737488355328∧(dig ((ai (val a).toNat).length+([u32.wrap (u64.wrap (Int.tdiv 1000000000 (u64.wrap ((u64.wrap x2)+1))))]).length) (val (ai (val a).toNat)*val ([u32.wrap (u64.wrap (Int.tdiv 1000000000 (u64.wrap ((u64.wrap x2)+1))))]))).length+([0]).length≤140737488355328)with|true=>(match decide (bi (ai (val b).toNat)∧bi ([u32.wrap (u64.wrap (Int.tdiv 1000000000 (u64.wrap ((u64.wrap x2)+1))))]))with|true=>(match decide (bi (dig ((ai (val b).toNat).length+([u32.wrap (u64.wrap (Int.tdiv 1000000000 (u64.wrap ((u64.wrap x2)+1))))]).length) (val (ai (val b).toNat)*val ([u32.wrap (u64.wrap (Int.tdiv 1000000000 (u64.wrap ((u64.wrap x2)+1))))]))))with|true=>(match decide ((0:Int)≤i64.wrap ((((dig ((ai (val a).toNat).length+([u32.wrap (u64.wrap (Int.tdiv 1000000000 (u64.wrap ((u64.wrap x2)+1))))]).length) (val (ai (val a).toNat)*val ([u32.wrap (u64.wrap (Int.tdiv 1000000000 (u64.wrap ((u64.wrap x2)+1))))])))++([0])).length:Int)-((ai (val b).toNat).length:Int))∧(i64.wrap ((((dig ((ai (val a).toNat).length+([u32.wrap (u64.wrap (Int.tdiv 1000000000 (u64.wrap ((u64.wrap x2)+1))))]).length) (val (ai (val a).toNat)*val ([u32.wrap (u64.wrap (Int.tdiv 1000000000 (u64.wrap ((u64.wrap x2)+1))))])))++([0])).length:Int)-((ai (val b).toNat).length:Int)))*((4:Nat):Int)≤140737488355328∧i64.wrap ((((dig ((ai (val a).toNat).length+([u32.wrap (u64.wrap (Int.tdiv 1000000000 (u64.wrap ((u64.wrap x2)+1))))]).length) (val (ai (val a).toNat)*val ([u32.wrap (u64.wrap (Int.tdiv 1000000000 (u64.wrap ((u64.wrap x2)+1))))])))++([0])).length:Int)-((ai (val b).toNat).length:Int))≤140737488355328)with|true=>k 34 (nD b x2 (i64.wrap ((i64.wrap ((((dig ((ai (val a).toNat).length+([u32.wrap (u64.wrap (Int.tdiv 1000000000 (u64.wrap ((u64.wrap x2)+1))))]).length) (val (ai (val a).toNat)*val ([u32.wrap (u64.wrap (Int.tdiv 1000000000 (u64.wrap ((u64.wrap x2)+1))))])))++([0])).length:Int)-((ai (val b).toNat).length:Int)))-1)) (List.replicate (i64.wrap ((((dig ((ai (val a).toNat).length+([u32.wrap (u64.wrap (Int.tdiv 1000000000 (u64.wrap ((u64.wrap x2)+1))))]).length) (val (ai (val a).toNat)*val ([u32.wrap (u64.wrap (Int.tdiv 1000000000 (u64.wrap ((u64.wrap x2)+1))))])))++([0])).length:Int)-((ai (val b).toNat).length:Int))).toNat (0:Int)) ((dig ((ai (val a).toNat).length+([u32.wrap (u64.wrap (Int.tdiv 1000000000 (u64.wrap ((u64.wrap x2)+1))))]).length) (val (ai (val a).toNat)*val ([u32.wrap (u64.wrap (Int.tdiv 1000000000 (u64.wrap ((u64.wrap x2)+1))))])))++([0])))|false=>none)|false=>none)|false=>none)|false=>none)|false=>none))|none=>none))|false=>none))|false=>none)|false=>none
theorem Na(a b:List Int):RS fB 286 [.d axe a,.d axe b] (Iq a b):=rsX
def rn(b:List Int)(x2 s11:Int)(r5 r1:List Int)(k:KT):Option (List RV):=match decide (s11≥0)with|true=>(match bH r1 (i64.wrap (s11+((ai (val b).toNat).length:Int)))with|some _=>(match true,r1[(i64.wrap (s11+((ai (val b).toNat).length:Int))).toNat]? with|true,some x3=>(match bH r1 (i64.wrap ((i64.wrap (s11+((ai (val b).toNat).length:Int)))-1))with|some _=>(match true,r1[(i64.wrap ((i64.wrap (s11+((ai (val b).toNat).length:Int)))-1)).toNat]? with|true,some x4=>(match bH (ai (val (dig ((ai (val b).toNat).length+([u32.wrap (u64.wrap (Int.tdiv 1000000000 (u64.wrap ((u64.wrap x2)+1))))]).length) (val (ai (val b).toNat)*val ([u32.wrap (u64.wrap (Int.tdiv 1000000000 (u64.wrap ((u64.wrap x2)+1))))])))).toNat) (i64.wrap (((ai (val b).toNat).length:Int)-1))with|some x5=>(match decide (u64.wrap x5=(0:Int))with|true=>none|false=>(match bH (ai (val (dig ((ai (val b).toNat).length+([u32.wrap (u64.wrap (Int.tdiv 1000000000 (u64.wrap ((u64.wrap x2)+1))))]).length) (val (ai (val b).toNat)*val ([u32.wrap (u64.wrap (Int.tdiv 1000000000 (u64.wrap ((u64.wrap x2)+1))))])))).toNat) (i64.wrap (((ai (val b).toNat).length:Int)-1))with|some x6=>(match decide (u64.wrap x6=(0:Int))with|true=>none|false=>k 49 (kW b x2 s11 r1 r5 (u64.wrap (Int.tdiv (u64.wrap ((u64.wrap ((u64.wrap x3)*1000000000))+(u64.wrap x4))) (u64.wrap x5))) (Int.tmod (u64.wrap ((u64.wrap ((u64.wrap x3)*1000000000))+(u64.wrap x4))) (u64.wrap x6))))|none=>none))|none=>none)|_,_=>none)|none=>none)|_,_=>none)|none=>none)|false=>(match decide ((0:Int)≤0∧0≤((ai (val b).toNat).length:Int)∧((ai (val b).toNat).length:Int)≤(r1.length:Int))with|true=>(match decide (bi ((r1.drop ((0:Int).toNat)).take ((((ai (val b).toNat).length:Int):Int).toNat-(0:Int).toNat)))with|true=>(match decide (DW (ai (val ((r1.drop ((0:Int).toNat)).take ((((ai (val b).toNat).length:Int):Int).toNat-(0:Int).toNat))).toNat) (u32.wrap (u64.wrap (Int.tdiv 1000000000 (u64.wrap ((u64.wrap x2)+1))))))with|true=>some [RV.d axe r5,RV.d axe (dig (ai (val ((r1.drop ((0:Int).toNat)).take ((((ai (val b).toNat).length:Int):Int).toNat-(0:Int).toNat))).toNat).length (val (ai (val ((r1.drop ((0:Int).toNat)).take ((((ai (val b).toNat).length:Int):Int).toNat-(0:Int).toNat))).toNat)/(u32.wrap (u64.wrap (Int.tdiv 1000000000 (u64.wrap ((u64.wrap x2)+1)))))))]|false=>none)|false=>none)|false=>none)
theorem xN(b:List Int)(x2 s11:Int)(r5 r1:List Int):RN fB 34 (nD b x2 s11 r5 r1) (rn b x2 s11 r5 r1):=rnX
def kz(b:List Int)(x2 s11:Int)(r1 r5:List Int)(s13 s14:Int)(k:KT):Option (List RV):=match decide (s13≥1000000000)with|true=>(match bH (ai (val (dig ((ai (val b).toNat).length+([u32.wrap (u64.wrap (Int.tdiv 1000000000 (u64.wrap ((u64.wrap x2)+1))))]).length) (val (ai (val b).toNat)*val ([u32.wrap (u64.wrap (Int.tdiv 1000000000 (u64.wrap ((u64.wrap x2)+1))))])))).toNat) (i64.wrap (((ai (val b).toNat).length:Int)-1))with|some x7=>(match decide ((u64.wrap (s14+(u64.wrap x7)))≥1000000000)with|true=>(match decide ((0:Int)≤s11∧s11≤i64.wrap ((i64.wrap (s11+((ai (val b).toNat).length:Int)))+1)∧i64.wrap ((i64.wrap (s11+((ai (val b).toNat).length:Int)))+1)≤(r1.length:Int))with|true=>k 8 (cU b x2 s11 r5 (u64.wrap (s13-1)) (u64.wrap (s13-1)) 0 0 0 r1)|false=>none)|false=>k 49 (kW b x2 s11 r1 r5 (u64.wrap (s13-1)) (u64.wrap (s14+(u64.wrap x7)))))|none=>none)|false=>(match bH (ai (val (dig ((ai (val b).toNat).length+([u32.wrap (u64.wrap (Int.tdiv 1000000000 (u64.wrap ((u64.wrap x2)+1))))]).length) (val (ai (val b).toNat)*val ([u32.wrap (u64.wrap (Int.tdiv 1000000000 (u64.wrap ((u64.wrap x2)+1))))])))).toNat) (i64.wrap (((ai (val b).toNat).length:Int)-2))with|some x8=>(match bH r1 (i64.wrap ((i64.wrap (s11+((ai (val b).toNat).length:Int)))-2))with|some _=>(match true,r1[(i64.wrap ((i64.wrap (s11+((ai (val b).toNat).length:Int)))-2)).toNat]? with|true,some x9=>(match decide ((u64.wrap (s13*(u64.wrap x8)))>(u64.wrap ((u64.wrap (s14*1000000000))+(u64.wrap x9))))with|true=>(match bH (ai (val (dig ((ai (val b).toNat).length+([u32.wrap (u64.wrap (Int.tdiv 1000000000 (u64.wrap ((u64.wrap x2)+1))))]).length) (val (ai (val b).toNat)*val ([u32.wrap (u64.wrap (Int.tdiv 1000000000 (u64.wrap ((u64.wrap x2)+1))))])))).toNat) (i64.wrap (((ai (val b).toNat).length:Int)-1))with|some x10=>(match decide ((u64.wrap (s14+(u64.wrap x10)))≥1000000000)with|true=>(match decide ((0:Int)≤s11∧s11≤i64.wrap ((i64.wrap (s11+((ai (val b).toNat).length:Int)))+1)∧i64.wrap ((i64.wrap (s11+((ai (val b).toNat).length:Int)))+1)≤(r1.length:Int))with|true=>k 8 (cU b x2 s11 r5 (u64.wrap (s13-1)) (u64.wrap (s13-1)) 0 0 0 r1)|false=>none)|false=>k 49 (kW b x2 s11 r1 r5 (u64.wrap (s13-1)) (u64.wrap (s14+(u64.wrap x10)))))|none=>none)|false=>(match decide ((0:Int)≤s11∧s11≤i64.wrap ((i64.wrap (s11+((ai (val b).toNat).length:Int)))+1)∧i64.wrap ((i64.wrap (s11+((ai (val b).toNat).length:Int)))+1)≤(r1.length:Int))with|true=>k 8 (cU b x2 s11 r5 s13 s13 0 0 0 r1)|false=>none))|_,_=>none)|none=>none)|none=>none)
theorem nw(b:List Int)(x2 s11:Int)(r1 r5:List Int)(s13 s14:Int):RN fB 49 (kW b x2 s11 r1 r5 s13 s14) (kz b x2 s11 r1 r5 s13 s14):=rnX
def cY(b:List Int)(x2 s11:Int)(r5:List Int)(s299_2 f299_0_13 s299_7 s299_8 s299_15:Int)(r299_1:List Int)(k:KT):Option (List RV):=match decide (s299_15<(((i64.wrap ((i64.wrap (s11+((ai (val b).toNat).length:Int)))+1):Int).toNat-(s11:Int).toNat:Nat):Int))with|true=>(match decide (s299_15<((ai (val (dig ((ai (val b).toNat).length+([u32.wrap (u64.wrap (Int.tdiv 1000000000 (u64.wrap ((u64.wrap x2)+1))))]).length) (val (ai (val b).toNat)*val ([u32.wrap (u64.wrap (Int.tdiv 1000000000 (u64.wrap ((u64.wrap x2)+1))))])))).toNat).length:Int))with|true=>(match bH (ai (val (dig ((ai (val b).toNat).length+([u32.wrap (u64.wrap (Int.tdiv 1000000000 (u64.wrap ((u64.wrap x2)+1))))]).length) (val (ai (val b).toNat)*val ([u32.wrap (u64.wrap (Int.tdiv 1000000000 (u64.wrap ((u64.wrap x2)+1))))])))).toNat) s299_15 with|some x11=>(match true,decide ((0:Int)≤s299_15∧s299_15<(((i64.wrap ((i64.wrap (s11+((ai (val b).toNat).length:Int)))+1):Int).toNat-(s11:Int).toNat:Nat):Int))with|true,true=>(match true,r299_1[(s11:Int).toNat+(s299_15).toNat]? with|true,some x12=>(match decide ((u64.wrap x12)<(u64.wrap ((Int.tmod (u64.wrap (s299_7+(u64.wrap ((u64.wrap x11)*s299_2)))) 1000000000)+s299_8)))with|true=>(match true,decide ((0:Int)≤s299_15∧s299_15<(((i64.wrap ((i64.wrap (s11+((ai (val b).toNat).length:Int)))+1):Int).toNat-(s11:Int).toNat:Nat):Int))with|true,true=>(match true,r299_1[(s11:Int).toNat+(s299_15).toNat]? with|true,some _=>k 8 (cU b x2 s11 r5 s299_2 f299_0_13 (u64.wrap (Int.tdiv (u64.wrap (s299_7+(u64.wrap ((u64.wrap x11)*s299_2)))) 1000000000)) 1 (i64.wrap (s299_15+1)) (r299_1.set ((s11:Int).toNat+(s299_15).toNat) (u32.wrap (u64.wrap ((u64.wrap ((u64.wrap x12)+1000000000))-(u64.wrap ((Int.tmod (u64.wrap (s299_7+(u64.wrap ((u64.wrap x11)*s299_2)))) 1000000000)+s299_8)))))))|_,_=>none)|_,_=>none)|false=>(match true,decide ((0:Int)≤s299_15∧s299_15<(((i64.wrap ((i64.wrap (s11+((ai (val b).toNat).length:Int)))+1):Int).toNat-(s11:Int).toNat:Nat):Int))with|true,true=>(match true,r299_1[(s11:Int).toNat+(s299_15).toNat]? with|true,some _=>k 8 (cU b x2 s11 r5 s299_2 f299_0_13 (u64.wrap (Int.tdiv (u64.wrap (s299_7+(u64.wrap ((u64.wrap x11)*s299_2)))) 1000000000)) 0 (i64.wrap (s299_15+1)) (r299_1.set ((s11:Int).toNat+(s299_15).toNat) (u32.wrap (u64.wrap ((u64.wrap x12)-(u64.wrap ((Int.tmod (u64.wrap (s299_7+(u64.wrap ((u64.wrap x11)*s299_2)))) 1000000000)+s299_8)))))))|_,_=>none)|_,_=>none))|_,_=>none)|_,_=>none)|none=>none)|false=>(match true,decide ((0:Int)≤s299_15∧s299_15<(((i64.wrap ((i64.wrap (s11+((ai (val b).toNat).length:Int)))+1):Int).toNat-(s11:Int).toNat:Nat):Int))with|true,true=>(match true,r299_1[(s11:Int).toNat+(s299_15).toNat]? with|true,some x15=>(match decide ((u64.wrap x15)<(u64.wrap ((Int.tmod s299_7 1000000000)+s299_8)))with|true=>(match true,decide ((0:Int)≤s299_15∧s299_15<(((i64.wrap ((i64.wrap (s11+((ai (val b).toNat).length:Int)))+1):Int).toNat-(s11:Int).toNat:Nat):Int))with|true,true=>(match true,r299_1[(s11:Int).toNat+(s299_15).toNat]? with|true,some _=>k 8 (cU b x2 s11 r5 s299_2 f299_0_13 (u64.wrap (Int.tdiv s299_7 1000000000)) 1 (i64.wrap (s299_15+1)) (r299_1.set ((s11:Int).toNat+(s299_15).toNat) (u32.wrap (u64.wrap ((u64.wrap ((u64.wrap x15)+1000000000))-(u64.wrap ((Int.tmod s299_7 1000000000)+s299_8)))))))|_,_=>none)|_,_=>none)|false=>(match true,decide ((0:Int)≤s299_15∧s299_15<(((i64.wrap ((i64.wrap (s11+((ai (val b).toNat).length:Int)))+1):Int).toNat-(s11:Int).toNat:Nat):Int))with|true,true=>(match true,r299_1[(s11:Int).toNat+(s299_15).toNat]? with|true,some _=>k 8 (cU b x2 s11 r5 s299_2 f299_0_13 (u64.wrap (Int.tdiv s299_7 1000000000)) 0 (i64.wrap (s299_15+1)) (r299_1.set ((s11:Int).toNat+(s299_15).toNat) (u32.wrap (u64.wrap ((u64.wrap x15)-(u64.wrap ((Int.tmod s299_7 1000000000)+s299_8)))))))|_,_=>none)|_,_=>none))|_,_=>none)|_,_=>none))|false=>(match decide (s299_8>0)with|true=>(match decide ((0:Int)≤s11∧s11≤i64.wrap ((i64.wrap (s11+((ai (val b).toNat).length:Int)))+1)∧i64.wrap ((i64.wrap (s11+((ai (val b).toNat).length:Int)))+1)≤(r299_1.length:Int))with|true=>k 5 (dp b x2 s11 r5 f299_0_13 0 0 r299_1)|false=>none)|false=>(match decide (s299_7>0)with|true=>(match decide ((0:Int)≤s11∧s11≤i64.wrap ((i64.wrap (s11+((ai (val b).toNat).length:Int)))+1)∧i64.wrap ((i64.wrap (s11+((ai (val b).toNat).length:Int)))+1)≤(r299_1.length:Int))with|true=>k 5 (dp b x2 s11 r5 f299_0_13 0 0 r299_1)|false=>none)|false=>(match bH r5 s11 with|some _=>(match true,r5[(s11).toNat]? with|true,some _=>k 34 (nD b x2 (i64.wrap (s11-1)) (r5.set ((s11).toNat) (u32.wrap f299_0_13)) r299_1)|_,_=>none)|none=>none)))
theorem fb(b:List Int)(x2 s11:Int)(r5:List Int)(s299_2 f299_0_13 s299_7 s299_8 s299_15:Int)(r299_1:List Int):RN fB 8 (cU b x2 s11 r5 s299_2 f299_0_13 s299_7 s299_8 s299_15 r299_1) (cY b x2 s11 r5 s299_2 f299_0_13 s299_7 s299_8 s299_15 r299_1):=rnX
def dN(b:List Int)(x2 s11:Int)(r5:List Int)(f299_0_13 s300_4 s300_9:Int)(r300_1:List Int)(k:KT):Option (List RV):=match decide (s300_9<(((i64.wrap ((i64.wrap (s11+((ai (val b).toNat).length:Int)))+1):Int).toNat-(s11:Int).toNat:Nat):Int))with|true=>(match true,decide ((0:Int)≤s300_9∧s300_9<(((i64.wrap ((i64.wrap (s11+((ai (val b).toNat).length:Int)))+1):Int).toNat-(s11:Int).toNat:Nat):Int))with|true,true=>(match true,r300_1[(s11:Int).toNat+(s300_9).toNat]? with|true,some x19=>(match decide (s300_9<((ai (val (dig ((ai (val b).toNat).length+([u32.wrap (u64.wrap (Int.tdiv 1000000000 (u64.wrap ((u64.wrap x2)+1))))]).length) (val (ai (val b).toNat)*val ([u32.wrap (u64.wrap (Int.tdiv 1000000000 (u64.wrap ((u64.wrap x2)+1))))])))).toNat).length:Int))with|true=>(match bH (ai (val (dig ((ai (val b).toNat).length+([u32.wrap (u64.wrap (Int.tdiv 1000000000 (u64.wrap ((u64.wrap x2)+1))))]).length) (val (ai (val b).toNat)*val ([u32.wrap (u64.wrap (Int.tdiv 1000000000 (u64.wrap ((u64.wrap x2)+1))))])))).toNat) s300_9 with|some x20=>(match decide ((u32.wrap ((u32.wrap (x19+s300_4))+x20))≥1000000000)with|true=>(match true,decide ((0:Int)≤s300_9∧s300_9<(((i64.wrap ((i64.wrap (s11+((ai (val b).toNat).length:Int)))+1):Int).toNat-(s11:Int).toNat:Nat):Int))with|true,true=>(match true,r300_1[(s11:Int).toNat+(s300_9).toNat]? with|true,some _=>k 5 (dp b x2 s11 r5 f299_0_13 1 (i64.wrap (s300_9+1)) (r300_1.set ((s11:Int).toNat+(s300_9).toNat) (u32.wrap ((u32.wrap ((u32.wrap (x19+s300_4))+x20))-1000000000))))|_,_=>none)|_,_=>none)|false=>(match true,decide ((0:Int)≤s300_9∧s300_9<(((i64.wrap ((i64.wrap (s11+((ai (val b).toNat).length:Int)))+1):Int).toNat-(s11:Int).toNat:Nat):Int))with|true,true=>(match true,r300_1[(s11:Int).toNat+(s300_9).toNat]? with|true,some _=>k 5 (dp b x2 s11 r5 f299_0_13 0 (i64.wrap (s300_9+1)) (r300_1.set ((s11:Int).toNat+(s300_9).toNat) (u32.wrap ((u32.wrap (x19+s300_4))+x20))))|_,_=>none)|_,_=>none))|none=>none)|false=>(match decide ((u32.wrap (x19+s300_4))≥1000000000)with|true=>(match true,decide ((0:Int)≤s300_9∧s300_9<(((i64.wrap ((i64.wrap (s11+((ai (val b).toNat).length:Int)))+1):Int).toNat-(s11:Int).toNat:Nat):Int))with|true,true=>(match true,r300_1[(s11:Int).toNat+(s300_9).toNat]? with|true,some _=>k 5 (dp b x2 s11 r5 f299_0_13 1 (i64.wrap (s300_9+1)) (r300_1.set ((s11:Int).toNat+(s300_9).toNat) (u32.wrap ((u32.wrap (x19+s300_4))-1000000000))))|_,_=>none)|_,_=>none)|false=>(match true,decide ((0:Int)≤s300_9∧s300_9<(((i64.wrap ((i64.wrap (s11+((ai (val b).toNat).length:Int)))+1):Int).toNat-(s11:Int).toNat:Nat):Int))with|true,true=>(match true,r300_1[(s11:Int).toNat+(s300_9).toNat]? with|true,some _=>k 5 (dp b x2 s11 r5 f299_0_13 0 (i64.wrap (s300_9+1)) (r300_1.set ((s11:Int).toNat+(s300_9).toNat) (u32.wrap (x19+s300_4))))|_,_=>none)|_,_=>none)))|_,_=>none)|_,_=>none)|false=>(match bH r5 s11 with|some _=>(match true,r5[(s11).toNat]? with|true,some _=>k 34 (nD b x2 (i64.wrap (s11-1)) (r5.set ((s11).toNat) (u32.wrap (u64.wrap (f299_0_13-1)))) r300_1)|_,_=>none)|none=>none)
theorem eU(b:List Int)(x2 s11:Int)(r5:List Int)(f299_0_13 s300_4 s300_9:Int)(r300_1:List Int):RN fB 5 (dp b x2 s11 r5 f299_0_13 s300_4 s300_9 r300_1) (dN b x2 s11 r5 f299_0_13 s300_4 s300_9 r300_1):=rnX
section
theorem NY{x:Int}(h1:1≤x)(h2:x<1000000000):1≤1000000000/(x+1)∧1000000000/(x+1)≤500000000∧(x+1)*(1000000000/(x+1))≤1000000000∧500000000≤x*(1000000000/(x+1)):=by
 have m0:=avi 1000000000 (show x+1≠0 by omega)
 have m1:=auL 1000000000 (show 0<x+1 by omega)
 have md:=auU 1000000000 (x+1)
 have d1:1≤1000000000/(x+1):=Int.le_ediv_of_mul_le (by omega) (by omega)
 have d2:1000000000/(x+1)≤500000000:=by
  have:1000000000/(x+1)<500000001:=avG (by omega) (by omega)
  omega
 generalize 1000000000/(x+1)=d at*
 refine⟨d1,d2,by omega,?_⟩
 rcases auC x 500000000 with hx|hx
 ·rcases auC (x*d) 500000000 with hd|hd
  ·exfalso
   have e1:(x+1)*(x*d)=x*((x+1)*d):=by grind
   have e2:(x+1)*d≥1000000000-x:=by omega
   have e3:(x+1)*(x*d)≤(x+1)*499999999:=aum (by omega) (by omega)
   have e4:x*(1000000000-x)≤x*((x+1)*d):=aum e2 (by omega)
   have e5:0≤(x-1)*(500000000-x):=au5 (by omega) (by omega)
   have e6:(x-1)*(500000000-x)=x*(1000000000-x)-(x+1)*499999999-1:=by grind
   omega
  ·exact hd
 ·have:=awa hx d1 (by decide) (by omega)
  omega
structure Kn (w V u2 u1 u0 v1 v0:Int):Prop where
 P:∃P wl vl:Int,0<P∧0≤wl∧wl<P∧0≤vl∧vl<P∧w=wl+P*(u0+1000000000*u1+1000000000*1000000000*u2)∧V=vl+P*(v0+1000000000*v1)
 u2:0≤u2∧u2<1000000000
 u1:0≤u1∧u1<1000000000
 u0:0≤u0∧u0<1000000000
 v1:500000000≤v1∧v1<1000000000
 v0:0≤v0∧v0<1000000000
 lt:w<V*1000000000
section
variable {w V u2 u1 u0 v1 v0:Int} (h:Kn w V u2 u1 u0 v1 v0)
include h
theorem Kn.top:u2≤v1:=by
 obtain⟨⟨P,wl,vl,p0,a1,a2,b1,b2,hw,hV⟩,⟨x1,x2⟩,⟨x3,x4⟩,⟨x5,x6⟩,⟨y1,y2⟩,⟨y3,y4⟩,hlt⟩:=h
 rcases auC v1 u2 with hc|hc
 ·exfalso
  have e1:P*(1000000000*1000000000*(v1+1))≤P*(u0+1000000000*u1+1000000000*1000000000*u2):=aum (by omega) (by omega)
  have e2:P*(v0+1000000000*v1)≤P*(999999999+1000000000*v1):=aum (by omega) (by omega)
  have e3:P*(1000000000*1000000000*(v1+1))=1000000000*(P*(999999999+1000000000*v1))+1000000000*P:=by grind
  omega
 ·exact hc
theorem Kn.pos:0<V:=by
 obtain⟨⟨P,wl,vl,p0,a1,a2,b1,b2,hw,hV⟩,⟨x1,x2⟩,⟨x3,x4⟩,⟨x5,x6⟩,⟨y1,y2⟩,⟨y3,y4⟩,hlt⟩:=h
 have:=Int.mul_pos p0 (show 0<v0+1000000000*v1 by omega)
 omega
theorem Kn.great{g rest:Int}(hg:0≤g)(he:g*v1+rest=u2*1000000000+u1)(hc:rest*1000000000+u0<g*v0):w<g*V:=by
 obtain⟨⟨P,wl,vl,p0,a1,a2,b1,b2,hw,hV⟩,⟨x1,x2⟩,⟨x3,x4⟩,⟨x5,x6⟩,⟨y1,y2⟩,⟨y3,y4⟩,hlt⟩:=h
 have e1:g*V=g*vl+P*(g*v0+1000000000*(g*v1)):=by rw[hV];grind
 have e2:0≤g*vl:=au5 hg b1
 have e3:P*(u0+1000000000*u1+1000000000*1000000000*u2+1)≤P*(g*v0+1000000000*(g*v1)):=aum (by omega) (by omega)
 have e4:P*(u0+1000000000*u1+1000000000*1000000000*u2+1)=P*(u0+1000000000*u1+1000000000*1000000000*u2)+P:=by grind
 omega
theorem Kn.small{g rest:Int}(_hg:0≤g)(hgB:g≤1000000000)(he:g*v1+rest=u2*1000000000+u1)(hc:g*v0≤rest*1000000000+u0):g*V<w+V:=by
 obtain⟨⟨P,wl,vl,p0,a1,a2,b1,b2,hw,hV⟩,⟨x1,x2⟩,⟨x3,x4⟩,⟨x5,x6⟩,⟨y1,y2⟩,⟨y3,y4⟩,hlt⟩:=h
 have e1:g*V=g*vl+P*(g*v0+1000000000*(g*v1)):=by rw[hV];grind
 have e2:g*vl≤1000000000*P:=awa hgB (by omega) b1 (by decide)
 have e3:P*(g*v0+1000000000*(g*v1))≤P*(u0+1000000000*u1+1000000000*1000000000*u2):=aum (by omega) (by omega)
 have e4:P*(1000000000*500000000)≤P*(v0+1000000000*v1):=aum (by omega) (by omega)
 omega
theorem Kn.first{g:Int}(hg:g=(u2*1000000000+u1)/v1):w<(g+1)*V:=by
 obtain⟨⟨P,wl,vl,p0,a1,a2,b1,b2,hw,hV⟩,⟨x1,x2⟩,⟨x3,x4⟩,⟨x5,x6⟩,⟨y1,y2⟩,⟨y3,y4⟩,hlt⟩:=h
 have m1:=auL (u2*1000000000+u1) (show 0<v1 by omega)
 have md:=auU (u2*1000000000+u1) v1
 rw[←hg]at md
 have g0:0≤g:=by rw[hg];exact avd (by omega) (by omega)
 have e1:(g+1)*V=(g+1)*vl+P*((g+1)*v0+1000000000*((g+1)*v1)):=by rw[hV];grind
 have e2:0≤(g+1)*vl:=au5 (by omega) b1
 have e3:0≤(g+1)*v0:=au5 (by omega) y3
 have e4:(g+1)*v1=v1*g+v1:=by grind
 have e5:P*(1000000000*(u2*1000000000+u1+1))≤P*((g+1)*v0+1000000000*((g+1)*v1)):=aum (by omega) (by omega)
 have e6:P*(u0+1000000000*u1+1000000000*1000000000*u2)+P≤P*(1000000000*(u2*1000000000+u1+1)):=by
  have:P*(u0+1000000000*u1+1000000000*1000000000*u2+1)≤P*(1000000000*(u2*1000000000+u1+1)):=aum (by omega) (by omega)
  rw[aw3,av9]at this
  exact this
 omega
end
theorem Eu{l:List Int}{m:Nat}(h:l.length=m+2):val l=val (l.take m)+pw m*(l[m]+1000000000*l[m+1]):=by
 have e:=bk (l:=l) (n:=m+1) (by omega)
 rw[auV (by omega),bk (by omega),ce]at e
 rw[e]
 grind
theorem UU{l:List Int}{m:Nat}(h:l.length=m+3):val l=val (l.take m)+pw m*(l[m]+1000000000*l[m+1]+1000000000*1000000000*l[m+2]):=by
 have e:=bk (l:=l) (n:=m+2) (by omega)
 rw[auV (by omega),bk (by omega),bk (by omega)]at e
 simp only[ce]at e
 rw[e]
 grind
def win(k n:Nat)(r:List Int):Int:=val ((r.drop k).take (n+1))
theorem JC{k n:Nat}{r:List Int}(h:k+n+1≤r.length)(hz:val (r.drop (k+n+1))=0):val r=val (r.take k)+pw k*win k n r:=by
 have h1:=fe r k
 have h2:=fe (r.drop k) (n+1)
 rw[aw4,show k+(n+1)=k+n+1 by omega,hz]at h2
 rw[auI (by omega)]at h1
 rw[h1,h2]
 unfold win
 simp
theorem SY{k n:Nat}{r:List Int}(hl:Lim r)(h:k+n+1≤r.length):0≤win k n r∧win k n r<pw (n+1):=by
 have h1:=(hl.drop k).take (n+1)
 have h2:=bZ h1
 rw[auW,awk,auI (by omega)]at h2
 exact⟨bg h1,h2⟩
theorem alK{v r:List Int}{k m:Nat}(hv:Lim v)(hvl:v.length=m+2)(hr:Lim r)(hk:k+m+3≤r.length)(htop:500000000≤v[m+1])(hlt:win k (m+2) r<val v*1000000000):
  Kn (win k (m+2) r) (val v) r[k+m+2] r[k+m+1] r[k+m] v[m+1] v[m]:=by
 have hwl:((r.drop k).take (m+2+1)).length=m+3:=by rw[auW,awk];omega
 have h3:=UU hwl
 have h2:=Eu hvl
 have hl1:=(hr.drop k).take (m+2+1)
 have g:∀j (hj:j<m+3),((r.drop k).take (m+2+1))[j]=r[k+j]:=fun j hj=>by simp
 rw[g m (by omega),g (m+1) (by omega),g (m+2) (by omega)]at h3
 have t1:=hl1.take m
 have t2:=hv.take m
 have b1:=bZ t1
 have b2:=bZ t2
 rw[auW,auI (by omega)]at b1 b2
 exact⟨⟨pw m,_,_,b8 m,bg t1,b1,bg t2,b2,h3,h2⟩,hr.get (by omega),hr.get (by omega),hr.get (by omega),⟨htop,(hv.get (by omega)).2⟩,hv.get (by omega),hlt⟩
end
section
theorem sY{r:List Int}{k i:Nat}(y:Int):(r.set (k+i) y).take k=r.take k:=List.take_set_of_le (by omega)
theorem tb{r:List Int}{k i n:Nat}(y:Int)(h:i≤n):(r.set (k+i) y).drop (k+n+1)=r.drop (k+n+1):=List.drop_set_of_lt (by omega)
section
variable (b:List Int) (x2:Int) (v:List Int) (m:Nat) (hN:(ai (val b).toNat).length=m+2) (hv:ai (val (dig ((ai (val b).toNat).length+([u32.wrap (u64.wrap (Int.tdiv 1000000000 (u64.wrap ((u64.wrap x2)+1))))]).length) (val (ai (val b).toNat)*val ([u32.wrap (u64.wrap (Int.tdiv 1000000000 (u64.wrap ((u64.wrap x2)+1))))])))).toNat=v) (lv:Lim v) (hvl:v.length=m+2)
include hN hv lv hvl
theorem V9(k:Nat)(r0 r5:List Int)(g:Int)(hg:0≤g∧g<1000000000)(hk:k+(m+2)+1≤r0.length)(hsz:r0.length≤4000000000)(R:List RV)
  (hno:∀r,Lim r→r.length=r0.length→r.take k=r0.take k→r.drop (k+(m+2)+1)=r0.drop (k+(m+2)+1)→val r=val r0-pw k*(g*val v)→∃q,cY b x2 (k:Int) r5 g g 0 0 ((m+2+1:Nat):Int) r (fB.k q)=some R)
  (hyes:∀r,Lim r→r.length=r0.length→r.take k=r0.take k→r.drop (k+(m+2)+1)=r0.drop (k+(m+2)+1)→val r=val r0-pw k*(g*val v)+pw (k+(m+2)+1)→∃q,cY b x2 (k:Int) r5 g g 0 1 ((m+2+1:Nat):Int) r (fB.k q)=some R):
  ∀(j i:Nat) (c bo:Int) (r:List Int),i+j=m+2+1→0≤c→c<1000000000→(i=m+2+1→c=0)→0≤bo→bo≤1→Lim r→r.length=r0.length→r.take k=r0.take k→r.drop (k+(m+2)+1)=r0.drop (k+(m+2)+1)→
   val r=val r0-pw k*(g*val (v.take i))+pw (k+i)*(c+bo)→fB.Runs 8 (cU b x2 (k:Int) r5 g g c bo (i:Int) r) R:=by
 have e1:i64.wrap ((k:Int)+((m+2:Nat):Int))=((k+(m+2):Nat):Int):=by rw[bj (by omega) (by omega)];simp
 have e2:i64.wrap (((k+(m+2):Nat):Int)+1)=((k+(m+2)+1:Nat):Int):=cO (by omega)
 have e3:k+(m+2)+1-k=m+2+1:=by omega
 intro j
 induction j with
 |zero=>
  intro i c bo r hi c0 c1 hc b0 b1 lr hl ht hd hval
  obtain rfl:i=m+2+1:=by omega
  obtain rfl:=hc rfl
  rw[auV (by omega)]at hval
  refine fb _ _ _ _ _ _ _ _ _ _ ?_
  rcases(show bo=0∨bo=1 by omega)with rfl|rfl
  ·exact hno r lr hl ht hd (by rw[hval];simp)
  ·exact hyes r lr hl ht hd (by rw[hval];simp;rfl)
 |succ j ih=>
  intro i c bo r hi c0 c1 hc b0 b1 lr hl ht hd hval
  have hir:k+i<r.length:=by omega
  have xr:=lr.get hir
  have hwi:decide ((0:Int)≤(i:Int)∧(i:Int)<((m+2+1:Nat):Int))=true:=at7 (by omega)
  have hlt:decide ((i:Int)<((m+2+1:Nat):Int))=true:=at7 (by omega)
  have hw:=hv
  have step:∀(c' y bo':Int),0≤c'→c'<1000000000→(i+1=m+2+1→c'=0)→0≤y→y<1000000000→0≤bo'→bo'≤1→y=r[k+i]-(val (v.take (i+1))-val (v.take i))/pw i*g-c+1000000000*c'-bo+1000000000*bo'→pw i*((val (v.take (i+1))-val (v.take i))/pw i)=val (v.take (i+1))-val (v.take i)→
    fB.Runs 8 (cU b x2 (k:Int) r5 g g c' bo' ((i+1:Nat):Int) (r.set (k+i) y)) R:=by
   intro c' y bo' k0 k1 kc y0 y1 k2 k3 hy hp
   refine ih (i+1) c' bo' (r.set (k+i) y) (by omega) k0 k1 kc k2 k3 (lr.set _ ⟨y0,y1⟩) (by simpa using hl) (by rw[sY];exact ht) (by rw[tb _ (by omega)];exact hd) ?_
   rw[eF hir,hval,hy,show k+(i+1)=k+i+1 by omega,ce,eO]
   generalize (val (v.take (i+1))-val (v.take i))/pw i=d at*
   have:val (v.take (i+1))=val (v.take i)+pw i*d:=by omega
   rw[this]
   grind
  by_cases hiv:i<m+2
  ·have hiv':i<v.length:=by omega
   have xv:=lv.get hiv'
   have hdv:(val (v.take (i+1))-val (v.take i))/pw i=v[i]:=by
    rw[bk hiv',show val (v.take i)+pw i*v[i]-val (v.take i)=pw i*v[i] by omega,awg _ (by have:=b8 i;omega)]
   rw[hdv]at step
   have hbd:=Fy (r:=0) (by decide) xv hg ⟨c0,c1⟩
   have t0:0≤c+v[i]*g:=by omega
   have q0:0≤(c+v[i]*g)/1000000000∧(c+v[i]*g)/1000000000<1000000000:=by omega
   have hpv:pw i*v[i]=val (v.take (i+1))-val (v.take i):=by rw[bk hiv'];omega
   by_cases hc2:r[k+i]<(c+v[i]*g)%1000000000+bo
   ·obtain⟨q,hq⟩:=step ((c+v[i]*g)/1000000000) (r[k+i]+1000000000-((c+v[i]*g)%1000000000+bo)) 1 q0.1 q0.2 (by omega) (by omega) (by omega) (by omega) (by omega) (by omega) hpv
    refine fb _ _ _ _ _ _ _ _ _ _ ⟨q,?_⟩
    unfold cY
    rw[hw,hN,e1,e2,aR,aR,e3,hlt,hwi,hvl,cg hiv,aM v i,at8 hiv',aR,at8 hir]
    dsimp only
    rw[bK (x:=v[i]) (by omega) (by omega),bK (x:=v[i]*g) (by omega) (by omega),bK (x:=c+v[i]*g) (by omega) (by omega),ic t0,fA t0,bK (x:=(c+v[i]*g)/1000000000) (by omega) (by omega),bK (x:=(c+v[i]*g)%1000000000+bo) (by omega) (by omega),bK (x:=r[k+i]) (by omega) (by omega),at7 hc2,
     bK (x:=r[k+i]+1000000000) (by omega) (by omega),bK (x:=r[k+i]+1000000000-((c+v[i]*g)%1000000000+bo)) (by omega) (by omega),cV (x:=r[k+i]+1000000000-((c+v[i]*g)%1000000000+bo)) (by omega) (by omega),cO (k:=i) (by omega)]
    exact hq
   ·obtain⟨q,hq⟩:=step ((c+v[i]*g)/1000000000) (r[k+i]-((c+v[i]*g)%1000000000+bo)) 0 q0.1 q0.2 (by omega) (by omega) (by omega) (by omega) (by omega) (by omega) hpv
    refine fb _ _ _ _ _ _ _ _ _ _ ⟨q,?_⟩
    unfold cY
    rw[hw,hN,e1,e2,aR,aR,e3,hlt,hwi,hvl,cg hiv,aM v i,at8 hiv',aR,at8 hir]
    dsimp only
    rw[bK (x:=v[i]) (by omega) (by omega),bK (x:=v[i]*g) (by omega) (by omega),bK (x:=c+v[i]*g) (by omega) (by omega),ic t0,fA t0,bK (x:=(c+v[i]*g)/1000000000) (by omega) (by omega),bK (x:=(c+v[i]*g)%1000000000+bo) (by omega) (by omega),bK (x:=r[k+i]) (by omega) (by omega),at9 hc2,
     bK (x:=r[k+i]-((c+v[i]*g)%1000000000+bo)) (by omega) (by omega),cV (x:=r[k+i]-((c+v[i]*g)%1000000000+bo)) (by omega) (by omega),cO (k:=i) (by omega)]
    exact hq
  ·have hpz:val (v.take (i+1))-val (v.take i)=0:=by rw[iD (by omega)];omega
   rw[hpz]at step
   simp only[Int.zero_ediv,awU,av5,Int.sub_zero,forall_const]at step
   have m0:c%1000000000=c:=by omega
   have d0:c/1000000000=0:=by omega
   by_cases hc2:r[k+i]<c+bo
   ·obtain⟨q,hq⟩:=step 0 (r[k+i]+1000000000-(c+bo)) 1 (by omega) (by omega) (by omega) (by omega) (by omega) (by omega) (by omega) (by omega)
    refine fb _ _ _ _ _ _ _ _ _ _ ⟨q,?_⟩
    unfold cY
    rw[hw,hN,e1,e2,aR,aR,e3,hlt,hwi,hvl,cN (show m+2≤i by omega),aR,at8 hir]
    dsimp only
    rw[ic c0,fA c0,m0,d0,bK (x:=0) (by omega) (by omega),bK (x:=c+bo) (by omega) (by omega),bK (x:=r[k+i]) (by omega) (by omega),at7 hc2,
     bK (x:=r[k+i]+1000000000) (by omega) (by omega),bK (x:=r[k+i]+1000000000-(c+bo)) (by omega) (by omega),cV (x:=r[k+i]+1000000000-(c+bo)) (by omega) (by omega),cO (k:=i) (by omega)]
    exact hq
   ·obtain⟨q,hq⟩:=step 0 (r[k+i]-(c+bo)) 0 (by omega) (by omega) (by omega) (by omega) (by omega) (by omega) (by omega) (by omega)
    refine fb _ _ _ _ _ _ _ _ _ _ ⟨q,?_⟩
    unfold cY
    rw[hw,hN,e1,e2,aR,aR,e3,hlt,hwi,hvl,cN (show m+2≤i by omega),aR,at8 hir]
    dsimp only
    rw[ic c0,fA c0,m0,d0,bK (x:=0) (by omega) (by omega),bK (x:=c+bo) (by omega) (by omega),bK (x:=r[k+i]) (by omega) (by omega),at9 hc2,
     bK (x:=r[k+i]-(c+bo)) (by omega) (by omega),cV (x:=r[k+i]-(c+bo)) (by omega) (by omega),cO (k:=i) (by omega)]
    exact hq
end
end
section
section
variable (b:List Int) (x2:Int) (v:List Int) (m:Nat) (hN:(ai (val b).toNat).length=m+2) (hv:ai (val (dig ((ai (val b).toNat).length+([u32.wrap (u64.wrap (Int.tdiv 1000000000 (u64.wrap ((u64.wrap x2)+1))))]).length) (val (ai (val b).toNat)*val ([u32.wrap (u64.wrap (Int.tdiv 1000000000 (u64.wrap ((u64.wrap x2)+1))))])))).toNat=v) (lv:Lim v) (hvl:v.length=m+2)
include hN hv lv hvl
theorem Xz(k:Nat)(r0 r5:List Int)(f:Int)(hk:k+(m+2)+1≤r0.length)(hsz:r0.length≤4000000000)(R:List RV)
  (hend:∀r c,Lim r→r.length=r0.length→r.take k=r0.take k→r.drop (k+(m+2)+1)=r0.drop (k+(m+2)+1)→0≤c→c≤1→val r=val r0+pw k*val v-pw (k+(m+2)+1)*c→∃q,dN b x2 (k:Int) r5 f c ((m+2+1:Nat):Int) r (fB.k q)=some R):
  ∀(j i:Nat) (c:Int) (r:List Int),i+j=m+2+1→0≤c→c≤1→Lim r→r.length=r0.length→r.take k=r0.take k→r.drop (k+(m+2)+1)=r0.drop (k+(m+2)+1)→
   val r=val r0+pw k*val (v.take i)-pw (k+i)*c→fB.Runs 5 (dp b x2 (k:Int) r5 f c (i:Int) r) R:=by
 have e1:i64.wrap ((k:Int)+((m+2:Nat):Int))=((k+(m+2):Nat):Int):=by rw[bj (by omega) (by omega)];simp
 have e2:i64.wrap (((k+(m+2):Nat):Int)+1)=((k+(m+2)+1:Nat):Int):=cO (by omega)
 have e3:k+(m+2)+1-k=m+2+1:=by omega
 intro j
 induction j with
 |zero=>
  intro i c r hi c0 c1 lr hl ht hd hval
  obtain rfl:i=m+2+1:=by omega
  rw[auV (by omega)]at hval
  refine eU _ _ _ _ _ _ _ _ ?_
  exact hend r c lr hl ht hd c0 c1 hval
 |succ j ih=>
  intro i c r hi c0 c1 lr hl ht hd hval
  have hir:k+i<r.length:=by omega
  have xr:=lr.get hir
  have hwi:decide ((0:Int)≤(i:Int)∧(i:Int)<((m+2+1:Nat):Int))=true:=at7 (by omega)
  have hlt:decide ((i:Int)<((m+2+1:Nat):Int))=true:=at7 (by omega)
  have hw:=hv
  have step:∀(c' y d:Int),0≤c'→c'≤1→0≤y→y<1000000000→y=r[k+i]+c+d-1000000000*c'→val (v.take (i+1))=val (v.take i)+pw i*d→
    fB.Runs 5 (dp b x2 (k:Int) r5 f c' ((i+1:Nat):Int) (r.set (k+i) y)) R:=by
   intro c' y d k0 k1 y0 y1 hy hp
   refine ih (i+1) c' (r.set (k+i) y) (by omega) k0 k1 (lr.set _ ⟨y0,y1⟩) (by simpa using hl) (by rw[sY];exact ht) (by rw[tb _ (by omega)];exact hd) ?_
   rw[eF hir,hval,hy,hp,show k+(i+1)=k+i+1 by omega,ce,eO]
   grind
  by_cases hiv:i<m+2
  ·have hiv':i<v.length:=by omega
   have xv:=lv.get hiv'
   have hpv:=bk hiv'
   by_cases hc2:r[k+i]+c+v[i]≥1000000000
   ·obtain⟨q,hq⟩:=step 1 (r[k+i]+c+v[i]-1000000000) v[i] (by omega) (by omega) (by omega) (by omega) (by omega) hpv
    refine eU _ _ _ _ _ _ _ _ ⟨q,?_⟩
    unfold dN
    rw[hw,hN,e1,e2,aR,aR,e3,hlt,hwi,hvl,cg hiv,aM v i,at8 hiv',aR,at8 hir]
    dsimp only
    rw[cV (x:=r[k+i]+c) (by omega) (by omega),cV (x:=r[k+i]+c+v[i]) (by omega) (by omega),at7 hc2,cV (x:=r[k+i]+c+v[i]-1000000000) (by omega) (by omega),cO (k:=i) (by omega)]
    exact hq
   ·obtain⟨q,hq⟩:=step 0 (r[k+i]+c+v[i]) v[i] (by omega) (by omega) (by omega) (by omega) (by omega) hpv
    refine eU _ _ _ _ _ _ _ _ ⟨q,?_⟩
    unfold dN
    rw[hw,hN,e1,e2,aR,aR,e3,hlt,hwi,hvl,cg hiv,aM v i,at8 hiv',aR,at8 hir]
    dsimp only
    rw[cV (x:=r[k+i]+c) (by omega) (by omega),cV (x:=r[k+i]+c+v[i]) (by omega) (by omega),at9 hc2,cO (k:=i) (by omega)]
    exact hq
  ·have hpz:val (v.take (i+1))=val (v.take i)+pw i*0:=by rw[iD (by omega)];simp
   by_cases hc2:r[k+i]+c≥1000000000
   ·obtain⟨q,hq⟩:=step 1 (r[k+i]+c-1000000000) 0 (by omega) (by omega) (by omega) (by omega) (by omega) hpz
    refine eU _ _ _ _ _ _ _ _ ⟨q,?_⟩
    unfold dN
    rw[hw,hN,e1,e2,aR,aR,e3,hlt,hwi,hvl,cN (show m+2≤i by omega),aR,at8 hir]
    dsimp only
    rw[cV (x:=r[k+i]+c) (by omega) (by omega),at7 hc2,cV (x:=r[k+i]+c-1000000000) (by omega) (by omega),cO (k:=i) (by omega)]
    exact hq
   ·obtain⟨q,hq⟩:=step 0 (r[k+i]+c) 0 (by omega) (by omega) (by omega) (by omega) (by omega) hpz
    refine eU _ _ _ _ _ _ _ _ ⟨q,?_⟩
    unfold dN
    rw[hw,hN,e1,e2,aR,aR,e3,hlt,hwi,hvl,cN (show m+2≤i by omega),aR,at8 hir]
    dsimp only
    rw[cV (x:=r[k+i]+c) (by omega) (by omega),at9 hc2,cO (k:=i) (by omega)]
    exact hq
theorem Fq(k:Nat)(r1 r5:List Int)(hk:k+m+3≤r1.length)(hsz:r1.length≤4000000000)(R:List RV)(K:Kn (win k (m+2) r1) (val v) r1[k+m+2] r1[k+m+1] r1[k+m] v[m+1] v[m])
  (hafter:∀g,0≤g→g<1000000000→win k (m+2) r1<(g+1)*val v→g*val v<win k (m+2) r1+val v→fB.Runs 8 (cU b x2 (k:Int) r5 g g 0 0 0 r1) R):
  ∀(fuel:Nat) (g rest:Int),g≤(fuel:Int)→0≤g→g≤2000000000→0≤rest→rest<1000000000→g*v[m+1]+rest=r1[k+m+2]*1000000000+r1[k+m+1]→win k (m+2) r1<(g+1)*val v→fB.Runs 49 (kW b x2 (k:Int) r1 r5 g rest) R:=by
 have _lv:=lv
 have e1:i64.wrap ((k:Int)+((m+2:Nat):Int))=((k+m+2:Nat):Int):=by rw[bj (by omega) (by omega)];simp;omega
 have e2:i64.wrap (((k+m+2:Nat):Int)+1)=((k+m+3:Nat):Int):=by rw[bj (by omega) (by omega)];simp;omega
 have e3:i64.wrap (((m+2:Nat):Int)-1)=((m+1:Nat):Int):=by rw[bj (by omega) (by omega)];omega
 have e4:i64.wrap (((m+2:Nat):Int)-2)=((m:Nat):Int):=by rw[bj (by omega) (by omega)];omega
 have e5:i64.wrap (((k+m+2:Nat):Int)-2)=((k+m:Nat):Int):=by rw[bj (by omega) (by omega)];omega
 have hsl:decide ((0:Int)≤(k:Int)∧(k:Int)≤((k+m+3:Nat):Int)∧((k+m+3:Nat):Int)≤(r1.length:Int))=true:=at7 (by omega)
 have hV:=K.pos
 have htop:=K.top
 have ku2:=K.u2
 have ku1:=K.u1
 have ku0:=K.u0
 have kv1:=K.v1
 have kv0:=K.v0
 intro fuel
 induction fuel with
 |zero=>
  intro g rest hf g0 gB r0 r1' he hlt
  obtain rfl:g=0:=by omega
  obtain⟨q,hq⟩:=hafter 0 (by omega) (by omega) hlt (by have:=hlt;have:=K.small (g:=0) (rest:=rest) (by omega) (by omega) he (by omega);omega)
  refine nw _ _ _ _ _ _ _ ⟨q,?_⟩
  unfold kz
  rw[at9 (by omega),hv,hN,e1,e2,e4,e5,aM v m,at8 (by omega),aM r1 (k+m),aR,at8 (show k+m<r1.length by omega)]
  dsimp only
  rw[bK (x:=v[m]) (by omega) (by omega),awU,bK (x:=0) (by omega) (by omega),bK (x:=rest*1000000000) (by omega) (by omega),bK (x:=r1[k+m]) (by omega) (by omega),bK (x:=rest*1000000000+r1[k+m]) (by omega) (by omega),at9 (by omega),hsl]
  exact hq
 |succ fuel ih=>
  intro g rest hf g0 gB rr0 rr1 he hlt
  have down:win k (m+2) r1<g*val v→∃q,(match decide (u64.wrap (rest+u64.wrap v[m+1])≥1000000000)with|true=>fB.k q 8 (cU b x2 (k:Int) r5 (u64.wrap (g-1)) (u64.wrap (g-1)) 0 0 0 r1)|false=>fB.k q 49 (kW b x2 (k:Int) r1 r5 (u64.wrap (g-1)) (u64.wrap (rest+u64.wrap v[m+1]))))=some R:=by
   intro hw
   have gp:1≤g:=by
    rcases auC 0 g with h|h
    ·exact h
    ·exfalso
     have hg:g=0:=by omega
     subst hg
     rw[awU]at hw
     obtain⟨⟨P,wl,vl,p0,a1,a2,b1,b2,hw',hV'⟩,_⟩:=K
     have:=au5 (auJ p0) (show 0≤r1[k+m]+1000000000*r1[k+m+1]+1000000000*1000000000*r1[k+m+2] by omega)
     omega
   have he':(g-1)*v[m+1]+(rest+v[m+1])=r1[k+m+2]*1000000000+r1[k+m+1]:=by rw[←he];grind
   have hw':win k (m+2) r1<(g-1+1)*val v:=by rw[show g-1+1=g by omega];exact hw
   rw[bK (x:=v[m+1]) (by omega) (by omega),bK (x:=rest+v[m+1]) (by omega) (by omega),bK (x:=g-1) (by omega) (by omega)]
   by_cases hb:rest+v[m+1]≥1000000000
   ·have gl:g-1<1000000000:=by
     rcases auC (g-1) 1000000000 with h|h
     ·exact h
     ·exfalso
      have e1:=auq h (show 0≤v[m+1] by omega)
      have e2:=auq htop (show(0:Int)≤1000000000 by decide)
      omega
    have e1:(g-1)*v[m]≤1000000000*1000000000:=awa (by omega) (by omega) (by omega) (by decide)
    obtain⟨q,hq⟩:=hafter (g-1) (by omega) gl hw' (K.small (by omega) (by omega) he' (by omega))
    exact⟨q,by rw[at7 hb];exact hq⟩
   ·obtain⟨q,hq⟩:=ih (g-1) (rest+v[m+1]) (by omega) (by omega) (by omega) (by omega) (by omega) he' hw'
    exact⟨q,by rw[at9 hb];exact hq⟩
  by_cases hgB:g≥1000000000
  ·obtain⟨q,hq⟩:=down (by
    have h1:=K.lt
    have:=auq hgB (auJ hV)
    rw[avL]at h1
    omega)
   refine nw _ _ _ _ _ _ _ ⟨q,?_⟩
   unfold kz
   rw[at7 hgB,hv,hN,e1,e2,e3,aM v (m+1),at8 (show m+1<v.length by omega),hsl]
   exact hq
  ·have hgv:g*v[m]≤1000000000*1000000000:=awa (by omega) (by omega) (by omega) (by decide)
   have hgv0:0≤g*v[m]:=au5 g0 (by omega)
   by_cases hc:g*v[m]>rest*1000000000+r1[k+m]
   ·obtain⟨q,hq⟩:=down (K.great g0 he hc)
    refine nw _ _ _ _ _ _ _ ⟨q,?_⟩
    unfold kz
    rw[at9 hgB,hv,hN,e1,e2,e3,e4,e5,aM v m,at8 (show m<v.length by omega),aM v (m+1),at8 (show m+1<v.length by omega),aM r1 (k+m),aR,at8 (show k+m<r1.length by omega),hsl]
    dsimp only
    rw[bK (x:=v[m]) (by omega) (by omega),bK (x:=g*v[m]) (by omega) (by omega),bK (x:=rest*1000000000) (by omega) (by omega),bK (x:=r1[k+m]) (by omega) (by omega),bK (x:=rest*1000000000+r1[k+m]) (by omega) (by omega),at7 hc]
    exact hq
   ·obtain⟨q,hq⟩:=hafter g g0 (by omega) hlt (K.small g0 (by omega) he (by omega))
    refine nw _ _ _ _ _ _ _ ⟨q,?_⟩
    unfold kz
    rw[at9 hgB,hv,hN,e1,e2,e4,e5,aM v m,at8 (show m<v.length by omega),aM r1 (k+m),aR,at8 (show k+m<r1.length by omega),hsl]
    dsimp only
    rw[bK (x:=v[m]) (by omega) (by omega),bK (x:=g*v[m]) (by omega) (by omega),bK (x:=rest*1000000000) (by omega) (by omega),bK (x:=r1[k+m]) (by omega) (by omega),bK (x:=rest*1000000000+r1[k+m]) (by omega) (by omega),at9 hc]
    exact hq
end
end
section
section
variable (b:List Int) (x2:Int) (v:List Int) (m:Nat) (hN:(ai (val b).toNat).length=m+2) (hv:ai (val (dig ((ai (val b).toNat).length+([u32.wrap (u64.wrap (Int.tdiv 1000000000 (u64.wrap ((u64.wrap x2)+1))))]).length) (val (ai (val b).toNat)*val ([u32.wrap (u64.wrap (Int.tdiv 1000000000 (u64.wrap ((u64.wrap x2)+1))))])))).toNat=v) (lv:Lim v) (hvl:v.length=m+2)
include hN hv lv hvl
set_option maxHeartbeats 2000000 in
theorem VO(sc:Int)(hsc:u32.wrap (u64.wrap (Int.tdiv 1000000000 (u64.wrap ((u64.wrap x2)+1))))=sc)(hs1:1≤sc)(hs2:sc≤500000000)(htop:500000000≤v[m+1])(A:Int):
  ∀(M:Nat) (r5 r1:List Int),Lim r5→Lim r1→r1.length=r5.length+(m+2)→r1.length≤1000000000→M≤r5.length→val v*val r5+val r1=A→(∀j (hj:j<r5.length),j<M→r5[j]=0)→val r1<val v*pw M→
   ∃qL rL,(Lim qL∧Lim rL∧qL.length=r5.length∧rL.length≤m+2∧val qL=A/val v∧val rL=A%val v/sc)∧fB.Runs 34 (nD b x2 ((M:Int)-1) r5 r1) [.d axe qL,.d axe rL]:=by
 have hVlt:=bZ lv
 rw[hvl]at hVlt
 have hV0:0<val v:=by
  rw[Eu hvl]
  have h1:=bg (lv.take m)
  have h2:=lv.get (show m<v.length by omega)
  have h3:=Int.mul_pos (b8 m) (show 0<v[m]+1000000000*v[m+1] by omega)
  omega
 intro M
 induction M with
 |zero=>
  intro r5 r1 l5 l1 hlen hsz hM hA hz hlt
  rw[kR,av9]at hlt
  have h0:=bg l1
  have eQ:A/val v=val r5:=by rw[←hA,awT,avS _ _ (by omega),avq h0 hlt];omega
  have eR:A%val v=val r1:=by rw[←hA,awT,av3];exact awf h0 hlt
  have ht:val (r1.take (m+2))=val r1:=by
   have hs:=fe r1 (m+2)
   rw[auI (by omega)]at hs
   have h2:=bg (l1.drop (m+2))
   have h3:=bg (l1.take (m+2))
   rcases auC 0 (val (r1.drop (m+2)))with hc|hc
   ·have:=aum (show 1≤val (r1.drop (m+2)) by omega) (auJ (b8 (m+2)))
    omega
   ·have e:val (r1.drop (m+2))=0:=by omega
    rw[e]at hs
    omega
  have hlX:(ai (val r1).toNat).length≤m+2:=c8 (by omega)
  have hX:=bL (val r1).toNat
  have hXv:val (ai (val r1).toNat)=val r1:=by omega
  have hd0:0≤val r1/sc:=avd h0 (by omega)
  have hd1:val r1/sc≤val r1:=avW _ h0
  have hXl:=bZ (b9 (val r1).toNat)
  refine⟨r5,dig (ai (val r1).toNat).length (val r1/sc),⟨l5,ld _ _,rfl,by rw[gU];exact hlX,eQ.symm,by rw[eR,f0 _ _ hd0 (by omega)]⟩,xN _ _ _ _ _ ⟨0,?_⟩⟩
  unfold rn
  rw[at9 (by omega),hN,hsc,aR,show(0:Int).toNat=0 from rfl,awQ,avX,at7 (show(0:Int)≤0∧(0:Int)≤((m+2:Nat):Int)∧((m+2:Nat):Int)≤(r1.length:Int) by omega),ht,hXv,
   at7 (show bi (r1.take (m+2)) from⟨l1.take _,by rw[auW];omega⟩),at7 (show DW (ai (val r1).toNat) sc from⟨⟨b9 _,by omega⟩,hs1,by omega⟩)]
 |succ k ih=>
  intro r5 r1 l5 l1 hlen hsz hM hA hz hlt
  have hk3:k+(m+2)+1≤r1.length:=by omega
  have hP:=b8 k
  have hr0:=bg l1
  have hz1:val (r1.drop (k+(m+2)+1))=0:=by
   have hs:=fe r1 (k+(m+2)+1)
   rw[auI hk3]at hs
   have h2:=bg (l1.drop (k+(m+2)+1))
   have h3:=bg (l1.take (k+(m+2)+1))
   rcases auC 0 (val (r1.drop (k+(m+2)+1)))with hc|hc
   ·exfalso
    have e1:=aum (show 1≤val (r1.drop (k+(m+2)+1)) by omega) (auJ (b8 (k+(m+2)+1)))
    have e2:=auq (auJ hVlt) (auJ (b8 (k+1)))
    rw[←eO,show m+2+(k+1)=k+(m+2)+1 by omega]at e2
    omega
   ·omega
  have hw1:=JC hk3 hz1
  have hwb:=SY l1 hk3
  have hwlt:win k (m+2) r1<val v*1000000000:=by
   rcases auC (win k (m+2) r1) (val v*1000000000)with hc|hc
   ·exact hc
   ·exfalso
    have e1:=aum hc (auJ hP)
    have e2:=bg (l1.take k)
    have e3:val v*pw (k+1)=pw k*(val v*1000000000):=by rw[ce];grind
    omega
  have K:=alK lv hvl l1 (show k+m+3≤r1.length by omega) htop hwlt
  have htk:=bZ (l1.take k)
  rw[auW,auI (by omega)]at htk
  have htk0:=bg (l1.take k)
  have hk5:k<r5.length:=by omega
  have hr5:=hz k hk5 (by omega)
  have e1:i64.wrap ((k:Int)+((m+2:Nat):Int))=((k+(m+2):Nat):Int):=by rw[bj (by omega) (by omega)];simp
  have e2:i64.wrap (((k+(m+2):Nat):Int)+1)=((k+(m+2)+1:Nat):Int):=cO (by omega)
  have e3:k+(m+2)+1-k=m+2+1:=by omega
  have fin:∀(d:Int) (r:List Int),0≤d→d<1000000000→Lim r→r.length=r1.length→r.take k=r1.take k→r.drop (k+(m+2)+1)=r1.drop (k+(m+2)+1)→val r=val r1-pw k*(d*val v)→win k (m+2) r1-d*val v<val v→
    ∃qL rL,(Lim qL∧Lim rL∧qL.length=r5.length∧rL.length≤m+2∧val qL=A/val v∧val rL=A%val v/sc)∧fB.Runs 34 (nD b x2 ((k:Int)-1) (r5.set k d) r) [.d axe qL,.d axe rL]:=by
   intro d r d0 d1 lr hl ht hd hval hwd
   obtain⟨qL,rL,⟨a1,a2,a3,a4,a5,a6⟩,a7⟩:=ih (r5.set k d) r (l5.set k ⟨d0,d1⟩) lr (by simp;omega) (by omega) (by simp;omega) (by
     rw[eF hk5,hr5,hval,←hA];grind) (fun j hj hjk=>by rw[avB (by omega)];exact hz j (by simpa using hj) (by omega)) (by
     rw[hval,hw1]
     have e4:=aum (show win k (m+2) r1-d*val v≤val v-1 by omega) (auJ hP)
     rw[Int.mul_sub,Int.mul_sub,av9]at e4
     rw[avL (val v)]
     omega)
   exact⟨qL,rL,⟨a1,a2,by simpa using a3,a4,a5,a6⟩,a7⟩
  have wof:∀(r:List Int) (x:Int),Lim r→r.length=r1.length→r.take k=r1.take k→r.drop (k+(m+2)+1)=r1.drop (k+(m+2)+1)→val r=val r1+pw k*x→win k (m+2) r=win k (m+2) r1+x∧0≤win k (m+2) r∧win k (m+2) r<pw (m+2+1):=by
   intro r x lr hl ht hd hval
   have h1:=JC (k:=k) (n:=m+2) (r:=r) (by omega) (by rw[hd];exact hz1)
   rw[ht]at h1
   have h2:=SY (k:=k) (n:=m+2) lr (by omega)
   refine⟨?_,h2⟩
   have:pw k*win k (m+2) r=pw k*(win k (m+2) r1+x):=by rw[aw3];omega
   exact Int.eq_of_mul_eq_mul_left (by omega) this
  have hpw:pw (k+(m+2)+1)=pw k*pw (m+2+1):=by rw[←eO];congr 1
  have xt:=K.u2
  have xt1:=K.u1
  have xv:=K.v1
  have hg0:0≤(r1[k+m+2]*1000000000+r1[k+m+1])/v[m+1]:=avd (by omega) (by omega)
  have hg1:(r1[k+m+2]*1000000000+r1[k+m+1])/v[m+1]<2000000000:=avG (by omega) (by
   have:=aum xv.1 (show(0:Int)≤2000000000 by decide)
   omega)
  have md:=auU (r1[k+m+2]*1000000000+r1[k+m+1]) v[m+1]
  have m0:=avi (r1[k+m+2]*1000000000+r1[k+m+1]) (show v[m+1]≠0 by omega)
  have m1:=auL (r1[k+m+2]*1000000000+r1[k+m+1]) (show 0<v[m+1] by omega)
  have key:∃qL rL,(Lim qL∧Lim rL∧qL.length=r5.length∧rL.length≤m+2∧val qL=A/val v∧val rL=A%val v/sc)∧fB.Runs 49 (kW b x2 (k:Int) r1 r5 ((r1[k+m+2]*1000000000+r1[k+m+1])/v[m+1]) ((r1[k+m+2]*1000000000+r1[k+m+1])%v[m+1])) [.d axe qL,.d axe rL]:=by
   have hex:∃g,0≤g∧g<1000000000∧g*val v≤win k (m+2) r1∧win k (m+2) r1<(g+1)*val v:=by
    have h1:=auU (win k (m+2) r1) (val v)
    have h2:=avi (win k (m+2) r1) (show val v≠0 by omega)
    have h3:=auL (win k (m+2) r1) hV0
    refine⟨win k (m+2) r1/val v,avd hwb.1 (by omega),avG hV0 (by rw[avL];exact hwlt),?_,?_⟩
    ·rw[avL];omega
    ·rw[Int.add_mul,avz,avL];omega
   obtain⟨d,d0,d1,d2,d3⟩:=hex
   have dv0:0≤d*val v:=au5 d0 (by omega)
   have hrow:∃r,Lim r∧r.length=r1.length∧r.take k=r1.take k∧r.drop (k+(m+2)+1)=r1.drop (k+(m+2)+1)∧val r=val r1-pw k*(d*val v):=by
    refine⟨r1.take k++(dig (m+2+1) (win k (m+2) r1-d*val v)++r1.drop (k+(m+2)+1)),(l1.take k).append ((ld _ _).append (l1.drop _)),by simp[gU];omega,?_,?_,?_⟩
    ·rw[List.take_append_of_le_length (by simp;omega),List.take_take,Nat.min_self]
    ·rw[←avw,List.drop_append_of_le_length (by simp[gU];omega),au1 (by simp[gU];omega),awv]
    ·rw[dh,dh,hz1,f0 _ _ (by omega) (by omega),auW,auI (by omega),hw1]
     grind
   obtain⟨rr,q1,q2,q3,q4,q5⟩:=hrow
   obtain⟨qL,rL,hf,hrun⟩:=fin d rr d0 d1 q1 q2 q3 q4 q5 (by rw[Int.add_mul,avz]at d3;omega)
   refine⟨qL,rL,hf,Fq b x2 v m hN hv lv hvl k r1 r5 (by omega) (by omega) _ K ?_ 2000000000 _ _ (by omega) hg0 (by omega) m0 (by omega) (by rw[avL];omega) (K.first rfl)⟩
   intro g g0 g1 hg2 hg3
   have same:∀r,Lim r→r.length=r1.length→r.take k=r1.take k→r.drop (k+(m+2)+1)=r1.drop (k+(m+2)+1)→val r=val r1-pw k*(d*val v)→r=rr:=fun r a1 a2 a3 a4 a5=>zL a1 q1 (by omega) (by omega)
   refine V9 b x2 v m hN hv lv hvl k r1 r5 g ⟨g0,g1⟩ hk3 (by omega) _ ?_ ?_ (m+2+1) 0 0 0 r1 (by omega) (by omega) (by omega) (fun _=>rfl) (by omega) (by omega) l1 rfl rfl rfl (by simp[val])
   ·intro r a1 a2 a3 a4 a5
    obtain⟨w1,w2,w3⟩:=wof r (-(g*val v)) a1 a2 a3 a4 (by rw[a5,awM];omega)
    have hgd:g=d:=by
     have h1:¬g<d:=fun hc=>by
      have:=auq (show g+1≤d by omega) (auJ hV0)
      omega
     have h2:¬d<g:=fun hc=>by
      have:=auq (show d+1≤g by omega) (auJ hV0)
      omega
     omega
    subst hgd
    rw[same r a1 a2 a3 a4 a5]
    obtain⟨q,hq⟩:=hrun
    refine⟨q,?_⟩
    unfold cY
    rw[hv,hN,e1,e2,aR,aR,e3,cN (auj _),at9 (show ¬(0:Int)>0 by decide),aM r5 k,at8 hk5,cV (x:=g) (by omega) (by omega),bj (x:=(k:Int)-1) (by omega) (by omega)]
    exact hq
   ·intro r a1 a2 a3 a4 a5
    obtain⟨w1,w2,w3⟩:=wof r (-(g*val v)+pw (m+2+1)) a1 a2 a3 a4 (by rw[a5,hpw,aw3,awM];omega)
    have hwg:win k (m+2) r1<g*val v:=by omega
    have hgd:g=d+1:=by
     have h1:¬g<d+1:=fun hc=>by
      have:=auq (show g≤d by omega) (auJ hV0)
      omega
     have h2:¬d+1<g:=fun hc=>by
      have:=auq (show d+2≤g by omega) (auJ hV0)
      rw[Int.add_mul]at this d3
      omega
     omega
    subst hgd
    have hres:fB.Runs 5 (dp b x2 (k:Int) r5 (d+1) 0 0 r) [.d axe qL,.d axe rL]:=by
     refine Xz b x2 v m hN hv lv hvl k r r5 (d+1) (by omega) (by omega) _ ?_ (m+2+1) 0 0 r (by omega) (by omega) (by omega) a1 rfl rfl rfl (by simp[val])
     intro r' c b1 b2 b3 b4 c0 c1 b5
     obtain⟨u1,u2,u3⟩:=wof r' (-((d+1)*val v)+pw (m+2+1)+val v-pw (m+2+1)*c) b1 (by omega) (b3.trans a3) (b4.trans a4) (by rw[b5,a5,hpw,Int.mul_sub,aw3,aw3,awM];grind)
     have hc:c=1:=by
      rcases(show c=0∨c=1 by omega)with hc|hc
      ·exfalso
       subst hc
       rw[av5,Int.sub_zero]at u1
       rw[Int.add_mul,avz]at u1
       omega
      ·exact hc
     subst hc
     rw[same r' b1 (by omega) (b3.trans a3) (b4.trans a4) (by rw[b5,a5];grind)]
     obtain⟨q,hq⟩:=hrun
     refine⟨q,?_⟩
     unfold dN
     rw[hN,e1,e2,aR,aR,e3,cN (auj _),aM r5 k,at8 hk5,show d+1-1=d by omega,bK (x:=d) (by omega) (by omega),cV (x:=d) (by omega) (by omega),bj (x:=(k:Int)-1) (by omega) (by omega)]
     exact hq
    obtain⟨q,hq⟩:=hres
    refine⟨q,?_⟩
    unfold cY
    rw[hv,hN,e1,e2,aR,aR,e3,cN (auj _),at7 (show(1:Int)>0 by decide),at7 (show(0:Int)≤(k:Int)∧(k:Int)≤((k+(m+2)+1:Nat):Int)∧((k+(m+2)+1:Nat):Int)≤(r.length:Int) by omega)]
    exact hq
  obtain⟨qL,rL,hf,q,hq⟩:=key
  refine⟨qL,rL,hf,xN _ _ _ _ _ ⟨q,?_⟩⟩
  have e4:i64.wrap (((k+(m+2):Nat):Int)-1)=((k+m+1:Nat):Int):=by rw[bj (by omega) (by omega)];omega
  have e5:i64.wrap (((m+2:Nat):Int)-1)=((m+1:Nat):Int):=by rw[bj (by omega) (by omega)];omega
  unfold rn
  rw[show((k+1:Nat):Int)-1=(k:Int) by omega,at7 (by omega),hv,hN,e1,e4,e5,aM r1 (k+(m+2)),aR,at8 (show k+(m+2)<r1.length by omega),aM r1 (k+m+1),aR,at8 (show k+m+1<r1.length by omega),aM v (m+1),at8 (show m+1<v.length by omega)]
  dsimp only
  rw[bK (x:=v[m+1]) (by omega) (by omega),at9 (show ¬v[m+1]=0 by omega)]
  dsimp only
  have e6:r1[k+(m+2)]=r1[k+m+2]:=rfl
  rw[e6,bK (x:=r1[k+m+2]) (by omega) (by omega),bK (x:=r1[k+m+1]) (by omega) (by omega),bK (x:=r1[k+m+2]*1000000000) (by omega) (by omega),bK (x:=r1[k+m+2]*1000000000+r1[k+m+1]) (by omega) (by omega),fA (by omega),ic (by omega),bK (x:=(r1[k+m+2]*1000000000+r1[k+m+1])/v[m+1]) (by omega) (by omega)]
  exact hq
end
end
def lY(a b:List Int):Prop:=(Lim a∧a.length≤100000000)∧(Lim b∧b.length≤100000000)∧0<val b
instance (a b:List Int):Decidable (lY a b):=by unfold lY;infer_instance
structure alO (a b q r:List Int):Prop where
 lq:Lim q
 lr:Lim r
 sq:q.length≤200000000
 sr:r.length≤200000000
 q:val q=val a/val b
 r:val r=val a%val b
theorem tH(x:Int):val [x]=x:=by simp[val]
theorem rY{l:List Int}(h:can l){m:Nat}(hl:l.length=m+1):1≤l[m]:=by
 have h2:=h.2
 rw[List.getLast?_eq_getElem?,hl,Nat.add_sub_cancel,at8 (by omega)]at h2
 have h1:=h.1.get (show m<l.length by omega)
 have:l[m]≠0:=fun e=>h2 (by rw[e])
 omega
set_option maxHeartbeats 1000000 in
theorem A7(a b:List Int)(h:lY a b):∃q r,alO a b q r∧Con Tryz.prog 286 [.d axe a,.d axe b] [.d axe q,.d axe r]:=by
 obtain⟨⟨la,sa⟩,⟨lb,sb⟩,hb⟩:=h
 have ha:bi a:=⟨la,by omega⟩
 have hb':bi b:=⟨lb,by omega⟩
 have va:=bL (val a).toNat
 have vb:=bL (val b).toNat
 have na:=bg la
 have va':val (ai (val a).toNat)=val a:=by omega
 have vb':val (ai (val b).toNat)=val b:=by omega
 have lna:=iv la
 have lnb:=iv lb
 have ca:=dK (val a).toNat
 have cb:=dK (val b).toNat
 have hla:bi (ai (val a).toNat):=⟨ca.1,by omega⟩
 have hlb:bi (ai (val b).toNat):=⟨cb.1,by omega⟩
 have go:∀{q r},fB.Res 286 [.d axe a,.d axe b] [.d axe q,.d axe r]→Con Tryz.prog 286 [.d axe a,.d axe b] [.d axe q,.d axe r]:=fun hr=>aP Mp hr
 have hb0:ai (val b).toNat≠[]:=fun e=>by rw[fU]at e;omega
 by_cases h1:(ai (val b).toNat).length=1
 ·have t1:=rY cb (m:=0) h1
  have t2:=cb.1.get (show 0<(ai (val b).toNat).length by omega)
  have e0:(ai (val b).toNat)[0]=val b:=by
   obtain⟨x,hx⟩:=List.length_eq_one_iff.1 h1
   have:=vb'
   rw[hx,tH]at this
   simp[hx,this]
  have hq0:0≤val a/val b:=avd na (by omega)
  have hq1:val a/val b≤val a:=avW _ na
  have hr0:=avi (val a) (show val b≠0 by omega)
  have hr1:=auL (val a) hb
  have hal:=bZ ca.1
  refine⟨dig (ai (val a).toNat).length (val a/val b),[val a%val b],⟨ld _ _,Lim.cons ⟨hr0,by omega⟩ Lim.nil,by rw[gU];omega,by simp,f0 _ _ hq0 (by omega),tH _⟩,go (Na _ _ ⟨0,?_⟩)⟩
  unfold Iq
  rw[at7 ha,at7 hb',h1,yL,at8 (show 0<(ai (val b).toNat).length by omega),e0]
  dsimp only
  rw[at7 (show DW (ai (val a).toNat) (val b) from⟨hla,by omega,by omega⟩),va']
  rfl
 have hlen:2≤(ai (val b).toNat).length:=by
  rcases auz (ai (val b).toNat).length 2 with h|h
  ·exfalso
   have:(ai (val b).toNat).length≠0:=fun e=>hb0 (avV e)
   omega
  ·exact h
 by_cases hlt:val a<val b
 ·refine⟨[],ai (val a).toNat,⟨Lim.nil,ca.1,by simp,by omega,?_,?_⟩,go (Na _ _ ⟨0,?_⟩)⟩
  ·rw[avq na hlt];rfl
  ·rw[awf na hlt];exact va'
  ·unfold Iq
   rw[at7 ha,at7 hb',show(((ai (val b).toNat).length:Int)==1)=false by simp;omega,at7 (show bi (ai (val a).toNat)∧bi (ai (val b).toNat) from⟨hla,hlb⟩),va',vb',cQ hlt,at7 (show(ai (val a).toNat).length*4≤140737488355328∧(ai (val a).toNat).length≤140737488355328 by omega)]
   rfl
 ·obtain⟨m,hm⟩:∃m,(ai (val b).toNat).length=m+2:=⟨(ai (val b).toNat).length-2,by omega⟩
  have hxm:m+1<(ai (val b).toNat).length:=by omega
  have t1:=rY cb (m:=m+1) hm
  have t2:=cb.1.get hxm
  generalize hx2:(ai (val b).toNat)[m+1]=x2 at t1 t2
  obtain⟨s1,s2,s3,s4⟩:=NY t1 t2.2
  have esc:u32.wrap (u64.wrap (Int.tdiv 1000000000 (u64.wrap ((u64.wrap x2)+1))))=1000000000/(x2+1):=by
   rw[bK (x:=x2) (by omega) (by omega),bK (x:=x2+1) (by omega) (by omega),fA (by omega),bK (x:=1000000000/(x2+1)) (by omega) (by omega),cV (x:=1000000000/(x2+1)) (by omega) (by omega)]
  generalize hsc:1000000000/(x2+1)=sc at s1 s2 s3 s4 esc
  have hsl:bi [sc]:=⟨Lim.cons ⟨by omega,by omega⟩ Lim.nil,by simp⟩
  have hbl:=bZ cb.1
  rw[vb',hm]at hbl
  have hP:=b8 (m+1)
  have hbtop:=bk hxm
  rw[auV (by omega),vb',hx2]at hbtop
  have hbt0:=bg (cb.1.take (m+1))
  have hbt1:=bZ (cb.1.take (m+1))
  rw[auW,auI (by omega)]at hbt1
  have hVhi:val b*sc<pw (m+2):=by
   have e1:val b*sc<(pw (m+1)*(x2+1))*sc:=Int.mul_lt_mul_of_pos_right (by rw[aw3,av9];omega) (by omega)
   have e2:(pw (m+1)*(x2+1))*sc=pw (m+1)*((x2+1)*sc):=Int.mul_assoc _ _ _
   have e3:pw (m+1)*((x2+1)*sc)≤pw (m+1)*1000000000:=aum s3 (auJ hP)
   rw[ce]
   omega
  have hVlo:pw (m+1)*500000000≤val b*sc:=by
   have e1:pw (m+1)*x2*sc≤val b*sc:=auq (by omega) (by omega)
   have e2:pw (m+1)*x2*sc=pw (m+1)*(x2*sc):=Int.mul_assoc _ _ _
   have e3:pw (m+1)*500000000≤pw (m+1)*(x2*sc):=aum s4 (auJ hP)
   omega
  have hV0:0<val b*sc:=Int.mul_pos hb (by omega)
  have edv:val (dig (m+2+1) (val b*sc))=val b*sc:=f0 _ _ (by omega) (by rw[ce];omega)
  obtain⟨v,hv⟩:∃v,ai (val b*sc).toNat=v:=⟨_,rfl⟩
  have cv:=dK (val b*sc).toNat
  have vv:=bL (val b*sc).toNat
  rw[hv]at cv vv
  have hvv:val v=val b*sc:=by omega
  have hvl:v.length=m+2:=by
   have h1:v.length≤m+2:=by rw[←hv];exact c8 (by omega)
   have h2:m+1<v.length:=by rw[←hv];exact AB (by omega)
   omega
  have htop:500000000≤v[m+1]:=by
   rcases auC v[m+1] 500000000 with hc|hc
   ·exfalso
    have e1:=bk (l:=v) (n:=m+1) (by omega)
    rw[auV (by omega),hvv]at e1
    have e2:=bZ (cv.1.take (m+1))
    rw[auW,auI (by omega)]at e2
    have e3:=aum (show v[m+1]≤499999999 by omega) (auJ hP)
    omega
   ·exact hc
  have hal:=bZ ca.1
  rw[va']at hal
  have hA0:0≤val a*sc:=au5 na (by omega)
  have hA1:val a*sc<pw ((ai (val a).toNat).length+1):=by
   have e1:val a*sc≤pw (ai (val a).toNat).length*sc:=auq (by omega) (by omega)
   have e2:pw (ai (val a).toNat).length*sc<pw (ai (val a).toNat).length*1000000000:=Int.mul_lt_mul_of_pos_left (by omega) (b8 _)
   rw[ce]
   omega
  have lab:m+2≤(ai (val a).toNat).length:=by
   rw[←hm]
   rcases auz (ai (val a).toNat).length (ai (val b).toNat).length with hc|hc
   ·have:=ue hc;omega
   ·exact hc
  generalize hlA:(ai (val a).toNat).length=L at*
  have hdl:(dig (L+1) (val a*sc)++[0]).length=L+2:=by simp[gU]
  have hdv:val (dig (L+1) (val a*sc)++[0])=val a*sc:=by rw[dh,f0 _ _ hA0 hA1];simp[val]
  have hmul:=hvv
  obtain⟨q,r,⟨f1,f2,f3,f4,f5,f6⟩,n,hrun⟩:=VO b x2 v m hm (by rw[esc,hm,vb',tH];simp only[auH];rw[edv];exact hv) cv.1 hvl sc esc s1 s2 htop (val a*sc) (L-m) (List.replicate (L-m) 0) (dig (L+1) (val a*sc)++[0])
   (Lim.rep _) ((ld _ _).append (Lim.cons (by decide) Lim.nil)) (by rw[hdl];simp;omega) (by rw[hdl];omega) (by simp) (by rw[fJ,hdv];omega) (fun j hj _=>by simp) (by
    rw[hdv,hvv]
    have e1:pw (m+1)*500000000*pw (L-m)≤val b*sc*pw (L-m):=auq hVlo (auJ (b8 _))
    have e2:pw (m+1)*500000000*pw (L-m)=pw (L+1)*500000000:=by
     rw[show L+1=m+1+(L-m) by omega,eO (m+1) (L-m),Int.mul_right_comm]
    have:=b8 (L+1)
    omega)
  have hq:val a*sc/(val b*sc)=val a/val b:=Int.mul_ediv_mul_of_pos_left _ _ (by omega)
  have hr:val a*sc%(val b*sc)/sc=val a%val b:=by
   rw[avL (val a),avL (val b),Int.mul_emod_mul_of_pos _ _ (by omega),avL]
   exact Int.mul_ediv_cancel _ (by omega)
  rw[hvv]at f5 f6
  rw[hq]at f5
  rw[hr]at f6
  refine⟨q,r,⟨f1,f2,by rw[f3];simp;omega,by omega,f5,f6⟩,go (Na _ _ ⟨n,?_⟩)⟩
  unfold Iq
  have e1:i64.wrap (((m+2:Nat):Int)-1)=((m+1:Nat):Int):=by rw[bj (by omega) (by omega)];omega
  have e2:i64.wrap (((L+2:Nat):Int)-((m+2:Nat):Int))=((L-m:Nat):Int):=by rw[bj (by omega) (by omega)];omega
  have e3:i64.wrap (((L-m:Nat):Int)-1)=((L-m:Nat):Int)-1:=bj (by omega) (by omega)
  rw[at7 ha,at7 hb',hm,show(((m+2:Nat):Int)==1)=false by simp;omega,at7 (show bi (ai (val a).toNat)∧bi (ai (val b).toNat) from⟨hla,hlb⟩),va',vb',show decide (ck (val a) (val b)<0)=false by
   rcases auC (val b) (val a)with hc|hc
   ·rw[cH hc];rfl
   ·rw[show val a=val b by omega,dB];rfl,e1,aM (ai (val b).toNat) (m+1),at8 hxm,hx2]
  dsimp only
  rw[esc,bK (x:=x2) (by omega) (by omega),bK (x:=x2+1) (by omega) (by omega),at9 (show ¬x2+1=0 by omega),at7 (show bi (ai (val a).toNat)∧bi [sc] from⟨hla,hsl⟩),at7 (show bi (ai (val b).toNat)∧bi [sc] from⟨hlb,hsl⟩),tH,hlA]
  rw[auH,auH,hdl,gU (L+1)]
  rw[at7 (show(L+1+1)*4≤140737488355328∧L+1+1≤140737488355328 by omega),at7 (show bi (dig (m+2+1) (val b*sc)) from hZ (by omega) _),e2,pH (by omega),aR,e3]
  exact hrun
abbrev BI:=Bool×List Int
def okI(x:BI):Prop:=can x.2∧(x.1=true→x.2≠[])∧x.2.length≤1000000
instance (x:BI):Decidable (okI x):=by unfold okI;infer_instance
theorem bS(x:BI):ah x=cf x.1 (val x.2):=rfl
theorem ge{x:BI}(h:okI x):x=ak (ah x):=by
 obtain⟨h1,h2,h3⟩:=h
 have h0:=bg h1.1
 rw[bS,kJ _ h0,←l7 h1]
 refine awt ?_ rfl
 show x.1=(x.1&&decide (0<val x.2))
 cases hx:x.1
 ·rfl
 ·rw[at7 (d7 h1 (h2 hx))];rfl
def szI(z:Int):Nat:=(ai z.natAbs).length
theorem bu{z:Int}(h:szI z≤1000000):okI (ak z):=by
 refine⟨dK _,fun e=>?_,h⟩
 unfold ak at e ⊢
 simp only[awh]at e
 intro e'
 rw[fU]at e'
 omega
theorem eE{z:Int}{k:Nat}(h1: -pw k<z)(h2:z<pw k):szI z≤k:=c8 (by omega)
theorem Gu(z:Int): -pw (szI z)<z∧z<pw (szI z):=by
 have h:=bZ (b9 z.natAbs)
 rw[bL]at h
 unfold szI
 omega
theorem lm{z:Int}{k:Nat}(h:szI z≤k): -pw k<z∧z<pw k:=by
 have h1:=Gu z
 have h2:=c7 h
 omega
theorem gP(z:Int):szI (-z)=szI z:=by unfold szI;rw[Int.natAbs_neg]
theorem um{a b:Int}{k:Nat}(h1:szI a≤k)(h2:szI b≤k):szI (a+b)≤k+1:=by
 have e1:=lm h1
 have e2:=lm h2
 have hp:=b8 k
 exact eE (by rw[ce];omega) (by rw[ce];omega)
theorem cK{a b:Int}{j k:Nat}(h1:szI a≤j)(h2:szI b≤k):szI (a*b)≤j+k:=by
 have e1:=lm h1
 have e2:=lm h2
 have h:(a*b).natAbs<(pw (j+k)).toNat:=by
  rw[awK,eO]
  have p1:=b8 j
  have p2:=b8 k
  have:(pw j*pw k).toNat=(pw j).toNat*(pw k).toNat:=Int.toNat_mul (by omega) (by omega)
  rw[this]
  exact Nat.mul_lt_mul'' (by omega) (by omega)
 have hp:=b8 (j+k)
 exact eE (by omega) (by omega)
theorem dl{a b:Int}(h:a.natAbs≤b.natAbs):szI a≤szI b:=by
 have:=Gu b
 exact eE (by omega) (by omega)
theorem gJ{x:BI}(h:okI x):szI (ah x)≤1000000:=by
 have:=ge h
 have h3:=h.2.2
 unfold szI
 rw[this]at h3
 exact h3
theorem fi{x:BI}(h:okI x):bi x.2:=⟨h.1.1,by have:=h.2.2;omega⟩
theorem cA{x:BI}(h:okI x):0≤val x.2∧(x.1=true→0<val x.2)∧(x.2=[]↔val x.2=0):=by
 refine⟨bg h.1.1,fun e=>d7 h.1 (h.2.1 e),⟨fun e=>by rw[e];rfl,fun e=>?_⟩⟩
 rcases List.eq_nil_or_concat x.2 with h'|⟨l,y,h'⟩
 ·exact h'
 ·have:=d7 h.1 (by rw[h'];simp)
  omega
def mU:aN:=spN false false [axf] (fun x=>decide (aY x.1)) (fun x=>[RV.d y2Y (ak x.1)])
theorem je:SpK 160 mU:=spX fun x h=>J0 x.1 (at6 h)
def dvQ(a b:List Int):List Int:=if h:lY a b then Classical.choose (A7 a b h)else []
def dvR(a b:List Int):List Int:=if h:lY a b then Classical.choose (avk (A7 a b h))else []
theorem ac3{a b:List Int}(h:lY a b):alO a b (dvQ a b) (dvR a b):=by
 unfold dvQ dvR
 rw[dif_pos h,dif_pos h]
 exact(avk (avk (A7 a b h))).1
theorem acD(a b:List Int)(h:lY a b):Con Tryz.prog 286 [.d axe a,.d axe b] [.d axe (dvQ a b),.d axe (dvR a b)]:=by
 unfold dvQ dvR
 rw[dif_pos h,dif_pos h]
 exact(avk (avk (A7 a b h))).2
def Hu:aN:=spN false false [axe,axe] (fun x=>decide (lY x.1 x.2.1)) (fun x=>[RV.d axe (dvQ x.1 x.2.1),RV.d axe (dvR x.1 x.2.1)])
theorem Ct:SpK 286 Hu:=spX fun x h=>acD x.1 x.2.1 (at6 h)
def oO:Env:=[(226,wO),(227,BW),(263,HE),(264,E9),(248,Fj),(247,GZ),(160,mU),(286,Hu)]
theorem iE:EnvAll Tryz.prog oO:=⟨qy,xg,Dy,D5,Dn,DS,je,Ct,trivial⟩
def ap8:Ctx:=CX oO []
def afT(x y:Bool×List Int)(_k:KT):Option (List RV):=match !(x.1==y.1)with|true=>(match x.1 with|true=>some [RV.d axf (-1)]|false=>some [RV.d axf 1])|false=>(match x.1 with|true=>(match decide (bi y.2∧bi x.2)with|true=>some [RV.d axf (ck (val y.2) (val x.2))]|false=>none)|false=>(match decide (bi x.2∧bi y.2)with|true=>some [RV.d axf (ck (val x.2) (val y.2))]|false=>none))
theorem an3(x y:Bool×List Int):RS ap8 183 [.d y2Y x,.d y2Y y] (afT x y):=rsX
def aoV:Ctx:=CX oO []
def agA(x y:Bool×List Int)(_k:KT):Option (List RV):=match x.1==y.1 with|true=>(match decide (bi x.2∧bi y.2)with|true=>(match decide (bi (dig (max x.2.length y.2.length+1) (val x.2+val y.2)))with|true=>some [RV.d y2Y (ak (cf x.1 (val (dig (max x.2.length y.2.length+1) (val x.2+val y.2)))))]|false=>none)|false=>none)|false=>(match decide (bi x.2∧bi y.2)with|true=>(match decide ((ck (val x.2) (val y.2))<0)with|true=>(match decide (lL y.2 x.2)with|true=>(match decide (bi (dig y.2.length (val y.2-val x.2)))with|true=>some [RV.d y2Y (ak (cf y.1 (val (dig y.2.length (val y.2-val x.2)))))]|false=>none)|false=>none)|false=>(match decide (lL x.2 y.2)with|true=>(match decide (bi (dig x.2.length (val x.2-val y.2)))with|true=>some [RV.d y2Y (ak (cf x.1 (val (dig x.2.length (val x.2-val y.2)))))]|false=>none)|false=>none))|false=>none)
theorem aqL(x y:Bool×List Int):RS aoV 222 [.d y2Y x,.d y2Y y] (agA x y):=rsX
def ant:Ctx:=CX oO []
def agc(x y:Bool×List Int)(_k:KT):Option (List RV):=match decide (bi x.2∧bi y.2)with|true=>(match decide (bi (dig (x.2.length+y.2.length) (val x.2*val y.2)))with|true=>some [RV.d y2Y (ak (cf (!(x.1==y.1)) (val (dig (x.2.length+y.2.length) (val x.2*val y.2)))))]|false=>none)|false=>none
theorem aro(x y:Bool×List Int):RS ant 184 [.d y2Y x,.d y2Y y] (agc x y):=rsX
def aqU:Ctx:=CX oO []
def ad3(x:Bool×List Int)(_k:KT):Option (List RV):=match decide (x.2.length*4≤140737488355328∧x.2.length≤140737488355328)with|true=>(match decide (bi x.2)with|true=>some [RV.d y2Y (ak (cf (!x.1) (val x.2)))]|false=>none)|false=>none
theorem anv(x:Bool×List Int):RS aqU 254 [.d y2Y x] (ad3 x):=rsX
def amW:Ctx:=CX oO []
def aeE(x:Bool×List Int)(_k:KT):Option (List RV):=match x.1 with|true=>some [RV.d axf (-1)]|false=>(match decide ((x.2.length:Int)>0)with|true=>some [RV.d axf 1]|false=>some [RV.d axf 0])
theorem ao4(x:Bool×List Int):RS amW 168 [.d y2Y x] (aeE x):=rsX
theorem Zb(x:BI)(h:okI x):Con Tryz.prog 168 [.d y2Y x] [.d axf (ck (ah x) 0)]:=by
 refine aP iE (ao4 _ ⟨0,?_⟩)
 obtain⟨h0,h1,h2⟩:=cA h
 unfold aeE
 rw[bS]
 unfold cf
 cases hx:x.1
 ·simp only[cond_false]
  rcases auC 0 (val x.2)with hc|hc
  ·have:x.2≠[]:=fun e=>by rw[h2]at e;omega
   have:=auR.2 this
   rw[at7 (by omega),cH hc]
  ·have e:x.2=[]:=h2.2 (by omega)
   rw[e]
   rfl
 ·simp only[cond_true]
  rw[cQ (by have:=h1 hx;omega)]
theorem IX{a b:Int}(_ha:0≤a)(_hb:0≤b):ck (-a) (-b)=ck b a:=by
 rcases avY a b with h|h|h
 ·rw[cH (by omega),cH h]
 ·rw[h,dB,dB]
 ·rw[cQ (by omega),cQ h]
theorem JB(x y:BI)(h:okI x∧okI y):Con Tryz.prog 183 [.d y2Y x,.d y2Y y] [.d axf (ck (ah x) (ah y))]:=by
 refine aP iE (an3 _ _ ⟨0,?_⟩)
 obtain⟨hx,hy⟩:=h
 obtain⟨x0,x1,x2⟩:=cA hx
 obtain⟨y0,y1,y2⟩:=cA hy
 have lx:=fi hx
 have ly:=fi hy
 unfold afT
 rw[bS,bS,at7 (show bi x.2∧bi y.2 from⟨lx,ly⟩),at7 (show bi y.2∧bi x.2 from⟨ly,lx⟩)]
 unfold cf
 cases ex:x.1<;>cases ey:y.1<;>simp only[cond_true,cond_false]
 ·rfl
 ·have:=y1 ey
  rw[cH (a:=val x.2) (b:= -val y.2) (by omega)]
  rfl
 ·have:=x1 ex
  rw[cQ (a:= -val x.2) (b:=val y.2) (by omega)]
  rfl
 ·rw[IX x0 y0]
  rfl
theorem MW{a b:List Int}(ha:Lim a)(hb:Lim b):val (dig (max a.length b.length+1) (val a+val b))=val a+val b:=by
 have h1:=bZ ha
 have h2:=bZ hb
 have h3:=bg ha
 have h4:=bg hb
 have h5:=c7 (Nat.le_max_left a.length b.length)
 have h6:=c7 (Nat.le_max_right a.length b.length)
 have:=b8 (max a.length b.length)
 exact f0 _ _ (by omega) (by rw[ce];omega)
theorem zu{a b:List Int}(ha:Lim a)(hb:Lim b)(hle:val b≤val a):val (dig a.length (val a-val b))=val a-val b:=by
 have h1:=bZ ha
 have h4:=bg hb
 exact f0 _ _ (by omega) (by omega)
theorem Le{a b:List Int}(ha:Lim a)(hb:Lim b):val (dig (a.length+b.length) (val a*val b))=val a*val b:=by
 have h1:=bZ ha
 have h2:=bZ hb
 have h3:=bg ha
 have h4:=bg hb
 refine f0 _ _ (au5 h3 h4) ?_
 rw[eO]
 have e1:=auq (auJ h1) h4
 have e2:=Int.mul_lt_mul_of_pos_left h2 (b8 a.length)
 omega
theorem ach(x y:BI)(h:okI x∧okI y):Con Tryz.prog 222 [.d y2Y x,.d y2Y y] [.d y2Y (ak (ah x+ah y))]:=by
 refine aP iE (aqL _ _ ⟨0,?_⟩)
 obtain⟨hx,hy⟩:=h
 obtain⟨x0,x1,x2⟩:=cA hx
 obtain⟨y0,y1,y2⟩:=cA hy
 have lx:=fi hx
 have ly:=fi hy
 have sx:=hx.2.2
 have sy:=hy.2.2
 unfold agA
 rw[bS,bS,at7 (show bi x.2∧bi y.2 from⟨lx,ly⟩),at7 (show bi (dig (max x.2.length y.2.length+1) (val x.2+val y.2)) from hZ (by omega) _),MW lx.1 ly.1,at7 (show bi (dig x.2.length (val x.2-val y.2)) from hZ (by omega) _),at7 (show bi (dig y.2.length (val y.2-val x.2)) from hZ (by omega) _)]
 cases hs:x.1==y.1
 ·dsimp only
  rcases auC (val x.2) (val y.2)with hc|hc
  ·rw[cQ hc,at7 (show(-1:Int)<0 by decide),at7 (show lL y.2 x.2 from⟨ly,lx,by omega⟩),zu ly.1 lx.1 (by omega)]
   dsimp only
   unfold cf
   cases ex:x.1<;>cases ey:y.1<;>simp_all<;>congr 2<;>omega
  ·have hcm:decide (ck (val x.2) (val y.2)<0)=false:=by
    rcases auC (val y.2) (val x.2)with h|h
    ·rw[cH h];rfl
    ·rw[show val x.2=val y.2 by omega,dB];rfl
   rw[hcm,at7 (show lL x.2 y.2 from⟨lx,ly,hc⟩),zu lx.1 ly.1 hc]
   dsimp only
   unfold cf
   cases ex:x.1<;>cases ey:y.1<;>simp_all<;>congr 2<;>omega
 ·dsimp only
  have e:=avx.1 hs
  rw[←e]
  unfold cf
  cases x.1
  ·rfl
  ·simp only[cond_true]
   rw[show-(val x.2+val y.2)= -val x.2+ -val y.2 by omega]
theorem JV(x:BI)(h:okI x):Con Tryz.prog 254 [.d y2Y x] [.d y2Y (ak (-ah x))]:=by
 refine aP iE (anv _ ⟨0,?_⟩)
 have sx:=h.2.2
 unfold ad3
 rw[bS,at7 (show x.2.length*4≤140737488355328∧x.2.length≤140737488355328 by omega),at7 (fi h)]
 unfold cf
 cases x.1<;>simp
theorem Jm(x y:BI)(h:okI x∧okI y):Con Tryz.prog 184 [.d y2Y x,.d y2Y y] [.d y2Y (ak (ah x*ah y))]:=by
 refine aP iE (aro _ _ ⟨0,?_⟩)
 obtain⟨hx,hy⟩:=h
 have lx:=fi hx
 have ly:=fi hy
 have sx:=hx.2.2
 have sy:=hy.2.2
 unfold agc
 rw[bS,bS,at7 (show bi x.2∧bi y.2 from⟨lx,ly⟩),at7 (show bi (dig (x.2.length+y.2.length) (val x.2*val y.2)) from hZ (by omega) _),Le lx.1 ly.1]
 unfold cf
 cases x.1<;>cases y.1<;>simp[Int.neg_mul,awM]
def mX:aN:=spN false false [y2Y,y2Y] (fun x=>decide (okI x.1∧okI x.2.1)) (fun x=>[RV.d y2Y (ak (ah x.1+ah x.2.1))])
theorem i9:SpK 222 mX:=spX fun x h=>ach x.1 x.2.1 (at6 h)
def GK:Env:=(222,mX)::oO
theorem yj:EnvAll Tryz.prog GK:=⟨i9,iE⟩
def anr:Ctx:=CX GK []
def aeC(x y:Bool×List Int)(_k:KT):Option (List RV):=match !y.1 with|true=>(match decide (okI x∧okI (decide ((y.2.length:Int)>0),y.2))with|true=>some [RV.d y2Y (ak (ah x+ah (decide ((y.2.length:Int)>0),y.2)))]|false=>none)|false=>(match decide (okI x∧okI (false,y.2))with|true=>some [RV.d y2Y (ak (ah x+ah (false,y.2)))]|false=>none)
theorem aqo(x y:Bool×List Int):RS anr 301 [.d y2Y x,.d y2Y y] (aeC x y):=rsX
theorem Rq{y:BI}(h:okI y):okI (!y.1&&decide ((y.2.length:Int)>0),y.2)∧ah (!y.1&&decide ((y.2.length:Int)>0),y.2)= -ah y:=by
 obtain⟨y0,y1,y2⟩:=cA h
 refine⟨⟨h.1,fun e=>?_,h.2.2⟩,?_⟩
 ·simp only[aug,awh]at e
  intro e'
  have e2:=e.2
  have e'':y.2=[]:=e'
  rw[e'']at e2
  simp at e2
 ·rw[bS,bS]
  unfold cf
  dsimp only
  cases ey:y.1
  ·simp only[Bool.not_false,auc,cond_false]
   rcases auC 0 (val y.2)with hc|hc
   ·have:y.2≠[]:=fun e=>by rw[y2]at e;omega
    have:=auR.2 this
    rw[at7 (by omega)]
    rfl
   ·have e:y.2=[]:=y2.2 (by omega)
    rw[e]
    rfl
  ·simp
theorem ZC(x y:BI)(h:okI x∧okI y):Con Tryz.prog 301 [.d y2Y x,.d y2Y y] [.d y2Y (ak (ah x-ah y))]:=by
 refine aP yj (aqo _ _ ⟨0,?_⟩)
 obtain⟨hx,hy⟩:=h
 obtain⟨f1,f2⟩:=Rq hy
 rw[Int.sub_eq_add_neg,←f2]
 unfold aeC
 cases ey:y.1
 ·rw[ey]at f1
  simp only[Bool.not_false,auc]at f1 ⊢
  rw[at7 ⟨hx,f1⟩]
 ·rw[ey]at f1
  simp only[Bool.not_true,Bool.false_and]at f1 ⊢
  rw[at7 ⟨hx,f1⟩]
def Vp:aN:=spN false false [y2Y,y2Y] (fun x=>decide (okI x.1∧okI x.2.1)) (fun x=>[RV.d y2Y (ak (ah x.1-ah x.2.1))])
theorem Rz:SpK 301 Vp:=spX fun x h=>ZC x.1 x.2.1 (at6 h)
def Ng:Env:=(301,Vp)::GK
theorem K0:EnvAll Tryz.prog Ng:=⟨Rz,yj⟩
def asd:Ctx:=CX Ng []
def ac7(x y:Bool×List Int)(_k:KT):Option (List RV):=let y1:=bi (dvQ x.2 y.2);let y2:=bi (dvR x.2 y.2);let y3:=ak (cf x.1 (val (dvR x.2 y.2)));let y4:=ak (cf (!(x.1==y.1)) (val (dvQ x.2 y.2)));let y5:Option (List RV):=match decide (((y3.2).length:Int)>0)with|true=>(match !((y3.1)==y.1)with|true=>(match decide (aY (1:Int))with|true=>(match decide (okI y4∧okI (ak (1:Int)))with|true=>(match decide (okI y3∧okI y)with|true=>dup (.b .l .l) (some [RV.d y2Y (ak (ah y4-ah (ak (1:Int)))),RV.d y2Y (ak (ah y3+ah y)),RV.d axf 0])|false=>none)|false=>none)|false=>none)|false=>dup (.b .l .l) (some [RV.d y2Y y4,RV.d y2Y y3,RV.d axf 0]))|false=>dup (.b .l .l) (some [RV.d y2Y y4,RV.d y2Y y3,RV.d axf 0]);let y6:Option (List RV):=match decide y2 with|true=>y5|false=>none;match(y.2.length:Int)==0 with|true=>some [RV.d y2Y (false,[]),RV.d y2Y (false,[]),RV.d axf 6]|false=>(match decide (lY x.2 y.2)with|true=>cp (match decide y1 with|true=>cp (match decide y2 with|true=>dup (.b .l .l) y5|false=>none) (dup (.b (.b .l .l) (.b .l .l)) y6)|false=>none) (dup (.b .l .l) (cp (match decide y1 with|true=>dup (.b .l .l) y6|false=>none) (match decide y1 with|true=>y6|false=>none)))|false=>none)
theorem anU(x y:Bool×List Int):RS asd 287 [.d y2Y x,.d y2Y y] (ac7 x y):=rsX
end Go.Proofs.YtlahabkjhgkkjaaGreat
end
