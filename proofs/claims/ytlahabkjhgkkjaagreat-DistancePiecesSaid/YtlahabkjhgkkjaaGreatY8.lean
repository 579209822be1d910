/- integer: divide, the code. -/
import Derived.Test.YtlahabkjhgkkjaaGreatY7
noncomputable section
namespace Go.Proofs.YtlahabkjhgkkjaaGreat
open Go.RowKit Go.IntKind
theorem avO:type_of% @List.length_pos_iff:=@List.length_pos_iff
theorem awf:type_of% @beq_iff_eq:=@beq_iff_eq
theorem awi:type_of% @Classical.choose_spec:=@Classical.choose_spec
theorem awJ:type_of% @decide_eq_true_eq:=@decide_eq_true_eq
theorem awS:type_of% @Int.ediv_le_self:=@Int.ediv_le_self
theorem axc:type_of% @Int.mul_ediv_cancel_left:=@Int.mul_ediv_cancel_left
theorem axe:type_of% @Prod.ext:=@Prod.ext
theorem axG:type_of% @Int.natAbs_mul:=@Int.natAbs_mul
theorem axI:type_of% @Int.mul_neg:=@Int.mul_neg
theorem ax0:type_of% @Int.zero_mul:=@Int.zero_mul
def H8:aO:=spN true false [ax7,ax7] (fun x=>decide (a9 x.1∧a9 x.2.1)) (fun x=>[RV.new 183 ax9 (dig (max x.1.length x.2.1.length+1) (val x.1+val x.2.1))])
theorem Ge:SpK 263 H8:=spX fun x h=>abX x.1 x.2.1 (au0 h)
def I1:aO:=spN true false [ax7,ax7] (fun x=>decide (lD x.1 x.2.1)) (fun x=>[RV.new 183 ax9 (dig x.1.length (val x.1-val x.2.1))])
theorem FL:SpK 264 I1:=spX fun x h=>acS x.1 x.2.1 (au0 h)
def IF:aO:=spN true false [ax7,ax7] (fun x=>decide (a9 x.1∧a9 x.2.1)) (fun x=>[RV.new 183 ax9 (dig (x.1.length+x.2.1.length) (val x.1*val x.2.1))])
theorem EM:SpK 248 IF:=spX fun x h=>acV x.1 x.2.1 (au0 h)
def SW:aO:=spN false false [ax7,ax9] (fun x=>decide (Gi x.1 x.2.1)) (fun x=>[RV.d ax7 (dig x.1.length (val x.1/x.2.1)),RV.d ax7 ([val x.1%x.2.1])])
theorem Pv:SpK 298 SW:=spX fun x h=>Zx x.1 x.2.1 (au0 h)
def Ii:aO:=spN true false [ax7,ax7] (fun x=>decide (a9 x.1∧a9 x.2.1)) (fun x=>[RV.d ax8 (ct (val x.1) (val x.2.1))])
theorem EU:SpK 247 Ii:=spX fun x h=>ZD x.1 x.2.1 (au0 h)
def Y6:Env:=[(278,I9),(263,H8),(264,I1),(248,IF),(298,SW),(247,Ii)]
theorem Mv:EnvAll Tryz.prog Y6:=⟨Fo,Ge,FL,EM,Pv,EU,trivial⟩
def ama:NT:=[((286,34),{keep:=[6,7,8,9,10,11],hl:=6}),((286,49),{keep:=[6,7,8,9,10,11,13,14],hl:=6}),((299,8),{keep:=[0,1,2,7,8,14,15],hl:=6}),((300,5),{keep:=[0,1,4,8,9],hl:=6}),((286,68),{keep:=[6,7,8,9,10,11,13,151],hl:=0}),((286,72),{keep:=[6,7,8,9,10,11,13],hl:=0})]
def fR:Ctx:=CX Y6 ama
def oG(b:List Int)(x2 s11:Int)(r5 r1:List Int):Cfg:=⟨286,[.blk 0,.seq 76],[(6,SI ((ah (val b).toNat).length:Int)),(7,.d ax9 (u32.wrap (u64.wrap (Int.tdiv 1000000000 (u64.wrap ((u64.wrap x2)+1)))))),(8,.own 1),(9,.d ax7 (ah (val (dig ((ah (val b).toNat).length+([u32.wrap (u64.wrap (Int.tdiv 1000000000 (u64.wrap ((u64.wrap x2)+1))))]).length) (val (ah (val b).toNat)*val ([u32.wrap (u64.wrap (Int.tdiv 1000000000 (u64.wrap ((u64.wrap x2)+1))))])))).toNat)),(10,.own 5),(11,SI s11)],[.row 183 ax9 ([u32.wrap (u64.wrap (Int.tdiv 1000000000 (u64.wrap ((u64.wrap x2)+1))))]),.row 183 ax9 r1,.row 183 ax9 ([0]),.row 183 ax9 ([u32.wrap (u64.wrap (Int.tdiv 1000000000 (u64.wrap ((u64.wrap x2)+1))))]),.gone,.row 183 ax9 r5],0,[]⟩
def lX(b:List Int)(x2 s11:Int)(r1 r5:List Int)(s13 s14:Int):Cfg:=⟨286,[.blk 2,.seq 66,.blk 1,.seq 75,.lp 34,.blk 0,.seq 76],[(6,SI ((ah (val b).toNat).length:Int)),(7,.d ax9 (u32.wrap (u64.wrap (Int.tdiv 1000000000 (u64.wrap ((u64.wrap x2)+1)))))),(8,.own 1),(9,.d ax7 (ah (val (dig ((ah (val b).toNat).length+([u32.wrap (u64.wrap (Int.tdiv 1000000000 (u64.wrap ((u64.wrap x2)+1))))]).length) (val (ah (val b).toNat)*val ([u32.wrap (u64.wrap (Int.tdiv 1000000000 (u64.wrap ((u64.wrap x2)+1))))])))).toNat)),(10,.own 5),(11,SI s11),(13,.d (.int .u64) s13),(14,.d (.int .u64) s14)],[.row 183 ax9 ([u32.wrap (u64.wrap (Int.tdiv 1000000000 (u64.wrap ((u64.wrap x2)+1))))]),.row 183 ax9 r1,.row 183 ax9 ([0]),.row 183 ax9 ([u32.wrap (u64.wrap (Int.tdiv 1000000000 (u64.wrap ((u64.wrap x2)+1))))]),.gone,.row 183 ax9 r5],0,[]⟩
def cW(b:List Int)(x2 s11:Int)(r5:List Int)(s299_2 f299_0_13 s299_7 s299_8 s299_15:Int)(r299_1:List Int):Cfg:=⟨299,[.blk 0,.seq 43],[(0,.osl 1 1 ((s11:Int).toNat) ((i64.wrap ((i64.wrap (s11+((ah (val b).toNat).length:Int)))+1):Int).toNat-(s11:Int).toNat)),(1,.d ax7 (ah (val (dig ((ah (val b).toNat).length+([u32.wrap (u64.wrap (Int.tdiv 1000000000 (u64.wrap ((u64.wrap x2)+1))))]).length) (val (ah (val b).toNat)*val ([u32.wrap (u64.wrap (Int.tdiv 1000000000 (u64.wrap ((u64.wrap x2)+1))))])))).toNat)),(2,.d (.int .u64) s299_2),(7,.d (.int .u64) s299_7),(8,.d (.int .u64) s299_8),(14,SI (((i64.wrap ((i64.wrap (s11+((ah (val b).toNat).length:Int)))+1):Int).toNat-(s11:Int).toNat:Nat):Int)),(15,SI s299_15)],[.row 183 ax9 ([u32.wrap (u64.wrap (Int.tdiv 1000000000 (u64.wrap ((u64.wrap x2)+1))))]),.row 183 ax9 r299_1,.row 183 ax9 ([0]),.row 183 ax9 ([u32.wrap (u64.wrap (Int.tdiv 1000000000 (u64.wrap ((u64.wrap x2)+1))))]),.gone,.row 183 ax9 r5],6,[⟨286,[.seq 69,.seq 74,.blk 1,.seq 75,.lp 34,.blk 0,.seq 76],68,9,[(6,SI ((ah (val b).toNat).length:Int)),(7,.d ax9 (u32.wrap (u64.wrap (Int.tdiv 1000000000 (u64.wrap ((u64.wrap x2)+1)))))),(8,.own 1),(9,.d ax7 (ah (val (dig ((ah (val b).toNat).length+([u32.wrap (u64.wrap (Int.tdiv 1000000000 (u64.wrap ((u64.wrap x2)+1))))]).length) (val (ah (val b).toNat)*val ([u32.wrap (u64.wrap (Int.tdiv 1000000000 (u64.wrap ((u64.wrap x2)+1))))])))).toNat)),(10,.own 5),(11,SI s11),(13,.d (.int .u64) f299_0_13)],0,none⟩]⟩
def dv(b:List Int)(x2 s11:Int)(r5:List Int)(f299_0_13 s300_4 s300_9:Int)(r300_1:List Int):Cfg:=⟨300,[.blk 0],[(0,.osl 1 1 ((s11:Int).toNat) ((i64.wrap ((i64.wrap (s11+((ah (val b).toNat).length:Int)))+1):Int).toNat-(s11:Int).toNat)),(1,.d ax7 (ah (val (dig ((ah (val b).toNat).length+([u32.wrap (u64.wrap (Int.tdiv 1000000000 (u64.wrap ((u64.wrap x2)+1))))]).length) (val (ah (val b).toNat)*val ([u32.wrap (u64.wrap (Int.tdiv 1000000000 (u64.wrap ((u64.wrap x2)+1))))])))).toNat)),(4,.d ax9 s300_4),(8,SI (((i64.wrap ((i64.wrap (s11+((ah (val b).toNat).length:Int)))+1):Int).toNat-(s11:Int).toNat:Nat):Int)),(9,SI s300_9)],[.row 183 ax9 ([u32.wrap (u64.wrap (Int.tdiv 1000000000 (u64.wrap ((u64.wrap x2)+1))))]),.row 183 ax9 r300_1,.row 183 ax9 ([0]),.row 183 ax9 ([u32.wrap (u64.wrap (Int.tdiv 1000000000 (u64.wrap ((u64.wrap x2)+1))))]),.gone,.row 183 ax9 r5],6,[⟨286,[.seq 74,.blk 1,.seq 75,.lp 34,.blk 0,.seq 76],72,8,[(6,SI ((ah (val b).toNat).length:Int)),(7,.d ax9 (u32.wrap (u64.wrap (Int.tdiv 1000000000 (u64.wrap ((u64.wrap x2)+1)))))),(8,.own 1),(9,.d ax7 (ah (val (dig ((ah (val b).toNat).length+([u32.wrap (u64.wrap (Int.tdiv 1000000000 (u64.wrap ((u64.wrap x2)+1))))]).length) (val (ah (val b).toNat)*val ([u32.wrap (u64.wrap (Int.tdiv 1000000000 (u64.wrap ((u64.wrap x2)+1))))])))).toNat)),(10,.own 5),(11,SI s11),(13,.d (.int .u64) (u64.wrap (f299_0_13-1)))],0,none⟩]⟩
def KB(a b:List Int)(k:KT):Option (List RV):=match decide (a9 a)with|true=>(match decide (a9 b)with|true=>(match((ah (val b).toNat).length:Int)==1 with|true=>(match bG (ah (val b).toNat) 0 with|some x1=>(match decide (Gi (ah (val a).toNat) x1)with|true=>some [RV.d ax7 (dig (ah (val a).toNat).length (val (ah (val a).toNat)/x1)),RV.d ax7 ([val (ah (val a).toNat)%x1])]|false=>none)|none=>none)|false=>(match decide (a9 (ah (val a).toNat)∧a9 (ah (val b).toNat))with|true=>(match decide ((ct (val (ah (val a).toNat)) (val (ah (val b).toNat)))<0)with|true=>(match decide ((ah (val a).toNat).length*4≤140737488355328∧(ah (val a).toNat).length≤140737488355328)with|true=>some [RV.d ax7 ([]),RV.d ax7 (ah (val a).toNat)]|false=>none)|false=>(match bG (ah (val b).toNat) (i64.wrap (((ah (val b).toNat).length:Int)-1))with|some x2=>(match decide (u64.wrap ((u64.wrap x2)+1)=(0:Int))with|true=>none|false=>(match decide (a9 (ah (val a).toNat)∧a9 ([u32.wrap (u64.wrap (Int.tdiv 1000000000 (u64.wrap ((u64.wrap x2)+1))))]))with|true=>(match decide (((dig ((ah (val a).toNat).length+([u32.wrap (u64.wrap (Int.tdiv 1000000000 (u64.wrap ((u64.wrap x2)+1))))]).length) (val (ah (val a).toNat)*val ([u32.wrap (u64.wrap (Int.tdiv 1000000000 (u64.wrap ((u64.wrap x2)+1))))]))).length+([0]).length)*4≤140737488355328∧(dig ((ah (val a).toNat).length+([u32.wrap (u64.wrap (Int.tdiv 1000000000 (u64.wrap ((u64.wrap x2)+1))))]).length) (val (ah (val a).toNat)*val ([u32.wrap (u64.wrap (Int.tdiv 1000000000 (u64.wrap ((u64.wrap x2)+1))))]))).length+([0]).length≤140737488355328)with|true=>(match decide (a9 (ah (val b).toNat)∧a9 ([u32.wrap (u64.wrap (Int.tdiv 1000000000 (u64.wrap ((u64.wrap x2)+1))))]))with|true=>(match decide (a9 (dig ((ah (val b).toNat).length+([u32.wrap (u64.wrap (Int.tdiv 1000000000 (u64.wrap ((u64.wrap x2)+1))))]).length) (val (ah (val b).toNat)*val ([u32.wrap (u64.wrap (Int.tdiv 1000000000 (u64.wrap ((u64.wrap x2)+1))))]))))with|true=>(match decide ((0:Int)≤i64.wrap ((((dig ((ah (val a).toNat).length+([u32.wrap (u64.wrap (Int.tdiv 1000000000 (u64.wrap ((u64.wrap x2)+1))))]).length) (val (ah (val a).toNat)*val ([u32.wrap (u64.wrap (Int.tdiv 1000000000 (u64.wrap ((u64.wrap x2)+1))))])))++([0])).length:Int)-((ah (val b).toNat).length:Int))∧(i64.wrap ((((dig ((ah (val a).toNat).length+([u32.wrap (u64.wrap (Int.tdiv 1000000000 (u64.wrap ((u64.wrap x2)+1))))]).length) (val (ah (val a).toNat)*val ([u32.wrap (u64.wrap (Int.tdiv 1000000000 (u64.wrap ((u64.wrap x2)+1))))])))++([0])).length:Int)-((ah (val b).toNat).length:Int)))*((4:Nat):Int)≤140737488355328∧i64.wrap ((((dig ((ah (val a).toNat).length+([u32.wrap (u64.wrap (Int.tdiv 1000000000 (u64.wrap ((u64.wrap x2)+1))))]).length) (val (ah (val a).toNat)*val ([u32.wrap (u64.wrap (Int.tdiv 1000000000 (u64.wrap ((u64.wrap x2)+1))))])))++([0])).length:Int)-((ah (val b).toNat).length:Int))≤140737488355328)with|true=>k 34 (oG b x2 (i64.wrap ((i64.wrap ((((dig ((ah (val a).toNat).length+([u32.wrap (u64.wrap (Int.tdiv 1000000000 (u64.wrap ((u64.wrap x2)+1))))]).length) (val (ah (val a).toNat)*val ([u32.wrap (u64.wrap (Int.tdiv 1000000000 (u64.wrap ((u64.wrap x2)+1))))])))++([0])).length:Int)-((ah (val b).toNat).length:Int)))-1)) (List.replicate (i64.wrap ((((dig ((ah (val a).toNat).length+([u32.wrap (u64.wrap (Int.tdiv 1000000000 (u64.wrap ((u64.wrap x2)+1))))]).length) (val (ah (val a).toNat)*val ([u32.wrap (u64.wrap (Int.tdiv 1000000000 (u64.wrap ((u64.wrap x2)+1))))])))++([0])).length:Int)-((ah (val b).toNat).length:Int))).toNat (0:Int)) ((dig ((ah (val a).toNat).length+([u32.wrap (u64.wrap (Int.tdiv 1000000000 (u64.wrap ((u64.wrap x2)+1))))]).length) (val (ah (val a).toNat)*val ([u32.wrap (u64.wrap (Int.tdiv 1000000000 (u64.wrap ((u64.wrap x2)+1))))])))++([0])))|false=>none)|false=>none)|false=>none)|false=>none)|false=>none))|none=>none))|false=>none))|false=>none)|false=>none
theorem Qc(a b:List Int):RS fR 286 [.d ax7 a,.d ax7 b] (KB a b):=rsX
def tn(b:List Int)(x2 s11:Int)(r5 r1:List Int)(k:KT):Option (List RV):=match decide (s11≥0)with|true=>(match bG r1 (i64.wrap (s11+((ah (val b).toNat).length:Int)))with|some _=>(match true,r1[(i64.wrap (s11+((ah (val b).toNat).length:Int))).toNat]? with|true,some x3=>(match bG r1 (i64.wrap ((i64.wrap (s11+((ah (val b).toNat).length:Int)))-1))with|some _=>(match true,r1[(i64.wrap ((i64.wrap (s11+((ah (val b).toNat).length:Int)))-1)).toNat]? with|true,some x4=>(match bG (ah (val (dig ((ah (val b).toNat).length+([u32.wrap (u64.wrap (Int.tdiv 1000000000 (u64.wrap ((u64.wrap x2)+1))))]).length) (val (ah (val b).toNat)*val ([u32.wrap (u64.wrap (Int.tdiv 1000000000 (u64.wrap ((u64.wrap x2)+1))))])))).toNat) (i64.wrap (((ah (val b).toNat).length:Int)-1))with|some x5=>(match decide (u64.wrap x5=(0:Int))with|true=>none|false=>(match bG (ah (val (dig ((ah (val b).toNat).length+([u32.wrap (u64.wrap (Int.tdiv 1000000000 (u64.wrap ((u64.wrap x2)+1))))]).length) (val (ah (val b).toNat)*val ([u32.wrap (u64.wrap (Int.tdiv 1000000000 (u64.wrap ((u64.wrap x2)+1))))])))).toNat) (i64.wrap (((ah (val b).toNat).length:Int)-1))with|some x6=>(match decide (u64.wrap x6=(0:Int))with|true=>none|false=>k 49 (lX b x2 s11 r1 r5 (u64.wrap (Int.tdiv (u64.wrap ((u64.wrap ((u64.wrap x3)*1000000000))+(u64.wrap x4))) (u64.wrap x5))) (Int.tmod (u64.wrap ((u64.wrap ((u64.wrap x3)*1000000000))+(u64.wrap x4))) (u64.wrap x6))))|none=>none))|none=>none)|_,_=>none)|none=>none)|_,_=>none)|none=>none)|false=>(match decide ((0:Int)≤0∧0≤((ah (val b).toNat).length:Int)∧((ah (val b).toNat).length:Int)≤(r1.length:Int))with|true=>(match decide (a9 ((r1.drop ((0:Int).toNat)).take ((((ah (val b).toNat).length:Int):Int).toNat-(0:Int).toNat)))with|true=>(match decide (Gi (ah (val ((r1.drop ((0:Int).toNat)).take ((((ah (val b).toNat).length:Int):Int).toNat-(0:Int).toNat))).toNat) (u32.wrap (u64.wrap (Int.tdiv 1000000000 (u64.wrap ((u64.wrap x2)+1))))))with|true=>some [RV.d ax7 r5,RV.d ax7 (dig (ah (val ((r1.drop ((0:Int).toNat)).take ((((ah (val b).toNat).length:Int):Int).toNat-(0:Int).toNat))).toNat).length (val (ah (val ((r1.drop ((0:Int).toNat)).take ((((ah (val b).toNat).length:Int):Int).toNat-(0:Int).toNat))).toNat)/(u32.wrap (u64.wrap (Int.tdiv 1000000000 (u64.wrap ((u64.wrap x2)+1)))))))]|false=>none)|false=>none)|false=>none)
theorem z7(b:List Int)(x2 s11:Int)(r5 r1:List Int):RN fR 34 (oG b x2 s11 r5 r1) (tn b x2 s11 r5 r1):=rnX
def kQ(b:List Int)(x2 s11:Int)(r1 r5:List Int)(s13 s14:Int)(k:KT):Option (List RV):=match decide (s13≥1000000000)with|true=>(match bG (ah (val (dig ((ah (val b).toNat).length+([u32.wrap (u64.wrap (Int.tdiv 1000000000 (u64.wrap ((u64.wrap x2)+1))))]).length) (val (ah (val b).toNat)*val ([u32.wrap (u64.wrap (Int.tdiv 1000000000 (u64.wrap ((u64.wrap x2)+1))))])))).toNat) (i64.wrap (((ah (val b).toNat).length:Int)-1))with|some x7=>(match decide ((u64.wrap (s14+(u64.wrap x7)))≥1000000000)with|true=>(match decide ((0:Int)≤s11∧s11≤i64.wrap ((i64.wrap (s11+((ah (val b).toNat).length:Int)))+1)∧i64.wrap ((i64.wrap (s11+((ah (val b).toNat).length:Int)))+1)≤(r1.length:Int))with|true=>k 8 (cW b x2 s11 r5 (u64.wrap (s13-1)) (u64.wrap (s13-1)) 0 0 0 r1)|false=>none)|false=>k 49 (lX b x2 s11 r1 r5 (u64.wrap (s13-1)) (u64.wrap (s14+(u64.wrap x7)))))|none=>none)|false=>(match bG (ah (val (dig ((ah (val b).toNat).length+([u32.wrap (u64.wrap (Int.tdiv 1000000000 (u64.wrap ((u64.wrap x2)+1))))]).length) (val (ah (val b).toNat)*val ([u32.wrap (u64.wrap (Int.tdiv 1000000000 (u64.wrap ((u64.wrap x2)+1))))])))).toNat) (i64.wrap (((ah (val b).toNat).length:Int)-2))with|some x8=>(match bG r1 (i64.wrap ((i64.wrap (s11+((ah (val b).toNat).length:Int)))-2))with|some _=>(match true,r1[(i64.wrap ((i64.wrap (s11+((ah (val b).toNat).length:Int)))-2)).toNat]? with|true,some x9=>(match decide ((u64.wrap (s13*(u64.wrap x8)))>(u64.wrap ((u64.wrap (s14*1000000000))+(u64.wrap x9))))with|true=>(match bG (ah (val (dig ((ah (val b).toNat).length+([u32.wrap (u64.wrap (Int.tdiv 1000000000 (u64.wrap ((u64.wrap x2)+1))))]).length) (val (ah (val b).toNat)*val ([u32.wrap (u64.wrap (Int.tdiv 1000000000 (u64.wrap ((u64.wrap x2)+1))))])))).toNat) (i64.wrap (((ah (val b).toNat).length:Int)-1))with|some x10=>(match decide ((u64.wrap (s14+(u64.wrap x10)))≥1000000000)with|true=>(match decide ((0:Int)≤s11∧s11≤i64.wrap ((i64.wrap (s11+((ah (val b).toNat).length:Int)))+1)∧i64.wrap ((i64.wrap (s11+((ah (val b).toNat).length:Int)))+1)≤(r1.length:Int))with|true=>k 8 (cW b x2 s11 r5 (u64.wrap (s13-1)) (u64.wrap (s13-1)) 0 0 0 r1)|false=>none)|false=>k 49 (lX b x2 s11 r1 r5 (u64.wrap (s13-1)) (u64.wrap (s14+(u64.wrap x10)))))|none=>none)|false=>(match decide ((0:Int)≤s11∧s11≤i64.wrap ((i64.wrap (s11+((ah (val b).toNat).length:Int)))+1)∧i64.wrap ((i64.wrap (s11+((ah (val b).toNat).length:Int)))+1)≤(r1.length:Int))with|true=>k 8 (cW b x2 s11 r5 s13 s13 0 0 0 r1)|false=>none))|_,_=>none)|none=>none)|none=>none)
theorem oh(b:List Int)(x2 s11:Int)(r1 r5:List Int)(s13 s14:Int):RN fR 49 (lX b x2 s11 r1 r5 s13 s14) (kQ b x2 s11 r1 r5 s13 s14):=rnX
def df(b:List Int)(x2 s11:Int)(r5:List Int)(s299_2 f299_0_13 s299_7 s299_8 s299_15:Int)(r299_1:List Int)(k:KT):Option (List RV):=match decide (s299_15<(((i64.wrap ((i64.wrap (s11+((ah (val b).toNat).length:Int)))+1):Int).toNat-(s11:Int).toNat:Nat):Int))with|true=>(match decide (s299_15<((ah (val (dig ((ah (val b).toNat).length+([u32.wrap (u64.wrap (Int.tdiv 1000000000 (u64.wrap ((u64.wrap x2)+1))))]).length) (val (ah (val b).toNat)*val ([u32.wrap (u64.wrap (Int.tdiv 1000000000 (u64.wrap ((u64.wrap x2)+1))))])))).toNat).length:Int))with|true=>(match bG (ah (val (dig ((ah (val b).toNat).length+([u32.wrap (u64.wrap (Int.tdiv 1000000000 (u64.wrap ((u64.wrap x2)+1))))]).length) (val (ah (val b).toNat)*val ([u32.wrap (u64.wrap (Int.tdiv 1000000000 (u64.wrap ((u64.wrap x2)+1))))])))).toNat) s299_15 with|some x11=>(match true,decide ((0:Int)≤s299_15∧s299_15<(((i64.wrap ((i64.wrap (s11+((ah (val b).toNat).length:Int)))+1):Int).toNat-(s11:Int).toNat:Nat):Int))with|true,true=>(match true,r299_1[(s11:Int).toNat+(s299_15).toNat]? with|true,some x12=>(match decide ((u64.wrap x12)<(u64.wrap ((Int.tmod (u64.wrap (s299_7+(u64.wrap ((u64.wrap x11)*s299_2)))) 1000000000)+s299_8)))with|true=>(match true,decide ((0:Int)≤s299_15∧s299_15<(((i64.wrap ((i64.wrap (s11+((ah (val b).toNat).length:Int)))+1):Int).toNat-(s11:Int).toNat:Nat):Int))with|true,true=>(match true,r299_1[(s11:Int).toNat+(s299_15).toNat]? with|true,some _=>k 8 (cW b x2 s11 r5 s299_2 f299_0_13 (u64.wrap (Int.tdiv (u64.wrap (s299_7+(u64.wrap ((u64.wrap x11)*s299_2)))) 1000000000)) 1 (i64.wrap (s299_15+1)) (r299_1.set ((s11:Int).toNat+(s299_15).toNat) (u32.wrap (u64.wrap ((u64.wrap ((u64.wrap x12)+1000000000))-(u64.wrap ((Int.tmod (u64.wrap (s299_7+(u64.wrap ((u64.wrap x11)*s299_2)))) 1000000000)+s299_8)))))))|_,_=>none)|_,_=>none)|false=>(match true,decide ((0:Int)≤s299_15∧s299_15<(((i64.wrap ((i64.wrap (s11+((ah (val b).toNat).length:Int)))+1):Int).toNat-(s11:Int).toNat:Nat):Int))with|true,true=>(match true,r299_1[(s11:Int).toNat+(s299_15).toNat]? with|true,some _=>k 8 (cW b x2 s11 r5 s299_2 f299_0_13 (u64.wrap (Int.tdiv (u64.wrap (s299_7+(u64.wrap ((u64.wrap x11)*s299_2)))) 1000000000)) 0 (i64.wrap (s299_15+1)) (r299_1.set ((s11:Int).toNat+(s299_15).toNat) (u32.wrap (u64.wrap ((u64.wrap x12)-(u64.wrap ((Int.tmod (u64.wrap (s299_7+(u64.wrap ((u64.wrap x11)*s299_2)))) 1000000000)+s299_8)))))))|_,_=>none)|_,_=>none))|_,_=>none)|_,_=>none)|none=>none)|false=>(match true,decide ((0:Int)≤s299_15∧s299_15<(((i64.wrap ((i64.wrap (s11+((ah (val b).toNat).length:Int)))+1):Int).toNat-(s11:Int).toNat:Nat):Int))with|true,true=>(match true,r299_1[(s11:Int).toNat+(s299_15).toNat]? with|true,some x15=>(match decide ((u64.wrap x15)<(u64.wrap ((Int.tmod s299_7 1000000000)+s299_8)))with|true=>(match true,decide ((0:Int)≤s299_15∧s299_15<(((i64.wrap ((i64.wrap (s11+((ah (val b).toNat).length:Int)))+1):Int).toNat-(s11:Int).toNat:Nat):Int))with|true,true=>(match true,r299_1[(s11:Int).toNat+(s299_15).toNat]? with|true,some _=>k 8 (cW b x2 s11 r5 s299_2 f299_0_13 (u64.wrap (Int.tdiv s299_7 1000000000)) 1 (i64.wrap (s299_15+1)) (r299_1.set ((s11:Int).toNat+(s299_15).toNat) (u32.wrap (u64.wrap ((u64.wrap ((u64.wrap x15)+1000000000))-(u64.wrap ((Int.tmod s299_7 1000000000)+s299_8)))))))|_,_=>none)|_,_=>none)|false=>(match true,decide ((0:Int)≤s299_15∧s299_15<(((i64.wrap ((i64.wrap (s11+((ah (val b).toNat).length:Int)))+1):Int).toNat-(s11:Int).toNat:Nat):Int))with|true,true=>(match true,r299_1[(s11:Int).toNat+(s299_15).toNat]? with|true,some _=>k 8 (cW b x2 s11 r5 s299_2 f299_0_13 (u64.wrap (Int.tdiv s299_7 1000000000)) 0 (i64.wrap (s299_15+1)) (r299_1.set ((s11:Int).toNat+(s299_15).toNat) (u32.wrap (u64.wrap ((u64.wrap x15)-(u64.wrap ((Int.tmod s299_7 1000000000)+s299_8)))))))|_,_=>none)|_,_=>none))|_,_=>none)|_,_=>none))|false=>(match decide (s299_8>0)with|true=>(match decide ((0:Int)≤s11∧s11≤i64.wrap ((i64.wrap (s11+((ah (val b).toNat).length:Int)))+1)∧i64.wrap ((i64.wrap (s11+((ah (val b).toNat).length:Int)))+1)≤(r299_1.length:Int))with|true=>k 5 (dv b x2 s11 r5 f299_0_13 0 0 r299_1)|false=>none)|false=>(match decide (s299_7>0)with|true=>(match decide ((0:Int)≤s11∧s11≤i64.wrap ((i64.wrap (s11+((ah (val b).toNat).length:Int)))+1)∧i64.wrap ((i64.wrap (s11+((ah (val b).toNat).length:Int)))+1)≤(r299_1.length:Int))with|true=>k 5 (dv b x2 s11 r5 f299_0_13 0 0 r299_1)|false=>none)|false=>(match bG r5 s11 with|some _=>(match true,r5[(s11).toNat]? with|true,some _=>k 34 (oG b x2 (i64.wrap (s11-1)) (r5.set ((s11).toNat) (u32.wrap f299_0_13)) r299_1)|_,_=>none)|none=>none)))
theorem fv(b:List Int)(x2 s11:Int)(r5:List Int)(s299_2 f299_0_13 s299_7 s299_8 s299_15:Int)(r299_1:List Int):RN fR 8 (cW b x2 s11 r5 s299_2 f299_0_13 s299_7 s299_8 s299_15 r299_1) (df b x2 s11 r5 s299_2 f299_0_13 s299_7 s299_8 s299_15 r299_1):=rnX
def dX(b:List Int)(x2 s11:Int)(r5:List Int)(f299_0_13 s300_4 s300_9:Int)(r300_1:List Int)(k:KT):Option (List RV):=match decide (s300_9<(((i64.wrap ((i64.wrap (s11+((ah (val b).toNat).length:Int)))+1):Int).toNat-(s11:Int).toNat:Nat):Int))with|true=>(match true,decide ((0:Int)≤s300_9∧s300_9<(((i64.wrap ((i64.wrap (s11+((ah (val b).toNat).length:Int)))+1):Int).toNat-(s11:Int).toNat:Nat):Int))with|true,true=>(match true,r300_1[(s11:Int).toNat+(s300_9).toNat]? with|true,some x19=>(match decide (s300_9<((ah (val (dig ((ah (val b).toNat).length+([u32.wrap (u64.wrap (Int.tdiv 1000000000 (u64.wrap ((u64.wrap x2)+1))))]).length) (val (ah (val b).toNat)*val ([u32.wrap (u64.wrap (Int.tdiv 1000000000 (u64.wrap ((u64.wrap x2)+1))))])))).toNat).length:Int))with|true=>(match bG (ah (val (dig ((ah (val b).toNat).length+([u32.wrap (u64.wrap (Int.tdiv 1000000000 (u64.wrap ((u64.wrap x2)+1))))]).length) (val (ah (val b).toNat)*val ([u32.wrap (u64.wrap (Int.tdiv 1000000000 (u64.wrap ((u64.wrap x2)+1))))])))).toNat) s300_9 with|some x20=>(match decide ((u32.wrap ((u32.wrap (x19+s300_4))+x20))≥1000000000)with|true=>(match true,decide ((0:Int)≤s300_9∧s300_9<(((i64.wrap ((i64.wrap (s11+((ah (val b).toNat).length:Int)))+1):Int).toNat-(s11:Int).toNat:Nat):Int))with|true,true=>(match true,r300_1[(s11:Int).toNat+(s300_9).toNat]? with|true,some _=>k 5 (dv b x2 s11 r5 f299_0_13 1 (i64.wrap (s300_9+1)) (r300_1.set ((s11:Int).toNat+(s300_9).toNat) (u32.wrap ((u32.wrap ((u32.wrap (x19+s300_4))+x20))-1000000000))))|_,_=>none)|_,_=>none)|false=>(match true,decide ((0:Int)≤s300_9∧s300_9<(((i64.wrap ((i64.wrap (s11+((ah (val b).toNat).length:Int)))+1):Int).toNat-(s11:Int).toNat:Nat):Int))with|true,true=>(match true,r300_1[(s11:Int).toNat+(s300_9).toNat]? with|true,some _=>k 5 (dv b x2 s11 r5 f299_0_13 0 (i64.wrap (s300_9+1)) (r300_1.set ((s11:Int).toNat+(s300_9).toNat) (u32.wrap ((u32.wrap (x19+s300_4))+x20))))|_,_=>none)|_,_=>none))|none=>none)|false=>(match decide ((u32.wrap (x19+s300_4))≥1000000000)with|true=>(match true,decide ((0:Int)≤s300_9∧s300_9<(((i64.wrap ((i64.wrap (s11+((ah (val b).toNat).length:Int)))+1):Int).toNat-(s11:Int).toNat:Nat):Int))with|true,true=>(match true,r300_1[(s11:Int).toNat+(s300_9).toNat]? with|true,some _=>k 5 (dv b x2 s11 r5 f299_0_13 1 (i64.wrap (s300_9+1)) (r300_1.set ((s11:Int).toNat+(s300_9).toNat) (u32.wrap ((u32.wrap (x19+s300_4))-1000000000))))|_,_=>none)|_,_=>none)|false=>(match true,decide ((0:Int)≤s300_9∧s300_9<(((i64.wrap ((i64.wrap (s11+((ah (val b).toNat).length:Int)))+1):Int).toNat-(s11:Int).toNat:Nat):Int))with|true,true=>(match true,r300_1[(s11:Int).toNat+(s300_9).toNat]? with|true,some _=>k 5 (dv b x2 s11 r5 f299_0_13 0 (i64.wrap (s300_9+1)) (r300_1.set ((s11:Int).toNat+(s300_9).toNat) (u32.wrap (x19+s300_4))))|_,_=>none)|_,_=>none)))|_,_=>none)|_,_=>none)|false=>(match bG r5 s11 with|some _=>(match true,r5[(s11).toNat]? with|true,some _=>k 34 (oG b x2 (i64.wrap (s11-1)) (r5.set ((s11).toNat) (u32.wrap (u64.wrap (f299_0_13-1)))) r300_1)|_,_=>none)|none=>none)
theorem fk(b:List Int)(x2 s11:Int)(r5:List Int)(f299_0_13 s300_4 s300_9:Int)(r300_1:List Int):RN fR 5 (dv b x2 s11 r5 f299_0_13 s300_4 s300_9 r300_1) (dX b x2 s11 r5 f299_0_13 s300_4 s300_9 r300_1):=rnX
section
theorem W7{x:Int}(h1:1≤x)(h2:x<1000000000):1≤1000000000/(x+1)∧1000000000/(x+1)≤500000000∧(x+1)*(1000000000/(x+1))≤1000000000∧500000000≤x*(1000000000/(x+1)):=by
 have m0:=awe 1000000000 (show x+1≠0 by omega)
 have m1:=avJ 1000000000 (show 0<x+1 by omega)
 have md:=avS 1000000000 (x+1)
 have d1:1≤1000000000/(x+1):=Int.le_ediv_of_mul_le (by omega) (by omega)
 have d2:1000000000/(x+1)≤500000000:=by
  have:1000000000/(x+1)<500000001:=awB (by omega) (by omega)
  omega
 generalize 1000000000/(x+1)=d at*
 refine⟨d1,d2,by omega,?_⟩
 rcases avA x 500000000 with hx|hx
 ·rcases avA (x*d) 500000000 with hd|hd
  ·exfalso
   have e1:(x+1)*(x*d)=x*((x+1)*d):=by grind
   have e2:(x+1)*d≥1000000000-x:=by omega
   have e3:(x+1)*(x*d)≤(x+1)*499999999:=avg (by omega) (by omega)
   have e4:x*(1000000000-x)≤x*((x+1)*d):=avg e2 (by omega)
   have e5:0≤(x-1)*(500000000-x):=av2 (by omega) (by omega)
   have e6:(x-1)*(500000000-x)=x*(1000000000-x)-(x+1)*499999999-1:=by grind
   omega
  ·exact hd
 ·have:=aw7 hx d1 (by decide) (by omega)
  omega
structure Kn (w V u2 u1 u0 v1 v0:Int):Prop where
 P:∃P wl vl:Int,0<P∧0≤wl∧wl<P∧0≤vl∧vl<P∧w=wl+P*(u0+1000000000*u1+1000000000*1000000000*u2)∧V=vl+P*(v0+1000000000*v1)
 u2:0≤u2∧u2<1000000000
 u1:0≤u1∧u1<1000000000
 u0:0≤u0∧u0<1000000000
 v1:500000000≤v1∧v1<1000000000
 v0:0≤v0∧v0<1000000000
 lt:w<V*1000000000
section
variable {w V u2 u1 u0 v1 v0:Int} (h:Kn w V u2 u1 u0 v1 v0)
include h
theorem Kn.top:u2≤v1:=by
 obtain⟨⟨P,wl,vl,p0,a1,a2,b1,b2,hw,hV⟩,⟨x1,x2⟩,⟨x3,x4⟩,⟨x5,x6⟩,⟨y1,y2⟩,⟨y3,y4⟩,hlt⟩:=h
 rcases avA v1 u2 with hc|hc
 ·exfalso
  have e1:P*(1000000000*1000000000*(v1+1))≤P*(u0+1000000000*u1+1000000000*1000000000*u2):=avg (by omega) (by omega)
  have e2:P*(v0+1000000000*v1)≤P*(999999999+1000000000*v1):=avg (by omega) (by omega)
  have e3:P*(1000000000*1000000000*(v1+1))=1000000000*(P*(999999999+1000000000*v1))+1000000000*P:=by grind
  omega
 ·exact hc
theorem Kn.pos:0<V:=by
 obtain⟨⟨P,wl,vl,p0,a1,a2,b1,b2,hw,hV⟩,⟨x1,x2⟩,⟨x3,x4⟩,⟨x5,x6⟩,⟨y1,y2⟩,⟨y3,y4⟩,hlt⟩:=h
 have:=Int.mul_pos p0 (show 0<v0+1000000000*v1 by omega)
 omega
theorem Kn.great{g rest:Int}(hg:0≤g)(he:g*v1+rest=u2*1000000000+u1)(hc:rest*1000000000+u0<g*v0):w<g*V:=by
 obtain⟨⟨P,wl,vl,p0,a1,a2,b1,b2,hw,hV⟩,⟨x1,x2⟩,⟨x3,x4⟩,⟨x5,x6⟩,⟨y1,y2⟩,⟨y3,y4⟩,hlt⟩:=h
 have e1:g*V=g*vl+P*(g*v0+1000000000*(g*v1)):=by rw[hV];grind
 have e2:0≤g*vl:=av2 hg b1
 have e3:P*(u0+1000000000*u1+1000000000*1000000000*u2+1)≤P*(g*v0+1000000000*(g*v1)):=avg (by omega) (by omega)
 have e4:P*(u0+1000000000*u1+1000000000*1000000000*u2+1)=P*(u0+1000000000*u1+1000000000*1000000000*u2)+P:=by grind
 omega
theorem Kn.small{g rest:Int}(_hg:0≤g)(hgB:g≤1000000000)(he:g*v1+rest=u2*1000000000+u1)(hc:g*v0≤rest*1000000000+u0):g*V<w+V:=by
 obtain⟨⟨P,wl,vl,p0,a1,a2,b1,b2,hw,hV⟩,⟨x1,x2⟩,⟨x3,x4⟩,⟨x5,x6⟩,⟨y1,y2⟩,⟨y3,y4⟩,hlt⟩:=h
 have e1:g*V=g*vl+P*(g*v0+1000000000*(g*v1)):=by rw[hV];grind
 have e2:g*vl≤1000000000*P:=aw7 hgB (by omega) b1 (by decide)
 have e3:P*(g*v0+1000000000*(g*v1))≤P*(u0+1000000000*u1+1000000000*1000000000*u2):=avg (by omega) (by omega)
 have e4:P*(1000000000*500000000)≤P*(v0+1000000000*v1):=avg (by omega) (by omega)
 omega
theorem Kn.first{g:Int}(hg:g=(u2*1000000000+u1)/v1):w<(g+1)*V:=by
 obtain⟨⟨P,wl,vl,p0,a1,a2,b1,b2,hw,hV⟩,⟨x1,x2⟩,⟨x3,x4⟩,⟨x5,x6⟩,⟨y1,y2⟩,⟨y3,y4⟩,hlt⟩:=h
 have m1:=avJ (u2*1000000000+u1) (show 0<v1 by omega)
 have md:=avS (u2*1000000000+u1) v1
 rw[←hg]at md
 have g0:0≤g:=by rw[hg];exact av9 (by omega) (by omega)
 have e1:(g+1)*V=(g+1)*vl+P*((g+1)*v0+1000000000*((g+1)*v1)):=by rw[hV];grind
 have e2:0≤(g+1)*vl:=av2 (by omega) b1
 have e3:0≤(g+1)*v0:=av2 (by omega) y3
 have e4:(g+1)*v1=v1*g+v1:=by grind
 have e5:P*(1000000000*(u2*1000000000+u1+1))≤P*((g+1)*v0+1000000000*((g+1)*v1)):=avg (by omega) (by omega)
 have e6:P*(u0+1000000000*u1+1000000000*1000000000*u2)+P≤P*(1000000000*(u2*1000000000+u1+1)):=by
  have:P*(u0+1000000000*u1+1000000000*1000000000*u2+1)≤P*(1000000000*(u2*1000000000+u1+1)):=avg (by omega) (by omega)
  rw[axW,aw6]at this
  exact this
 omega
end
theorem Fl{l:List Int}{m:Nat}(h:l.length=m+2):val l=val (l.take m)+pw m*(l[m]+1000000000*l[m+1]):=by
 have e:=bj (l:=l) (n:=m+1) (by omega)
 rw[avB (by omega),bj (by omega),cr]at e
 rw[e]
 grind
theorem PA{l:List Int}{m:Nat}(h:l.length=m+3):val l=val (l.take m)+pw m*(l[m]+1000000000*l[m+1]+1000000000*1000000000*l[m+2]):=by
 have e:=bj (l:=l) (n:=m+2) (by omega)
 rw[avB (by omega),bj (by omega),bj (by omega)]at e
 simp only[cr]at e
 rw[e]
 grind
def win(k n:Nat)(r:List Int):Int:=val ((r.drop k).take (n+1))
theorem K5{k n:Nat}{r:List Int}(h:k+n+1≤r.length)(hz:val (r.drop (k+n+1))=0):val r=val (r.take k)+pw k*win k n r:=by
 have h1:=fA r k
 have h2:=fA (r.drop k) (n+1)
 rw[axX,show k+(n+1)=k+n+1 by omega,hz]at h2
 rw[avG (by omega)]at h1
 rw[h1,h2]
 unfold win
 simp
theorem TP{k n:Nat}{r:List Int}(hl:Lim r)(h:k+n+1≤r.length):0≤win k n r∧win k n r<pw (n+1):=by
 have h1:=(hl.drop k).take (n+1)
 have h2:=cj h1
 rw[avU,axh,avG (by omega)]at h2
 exact⟨aZ h1,h2⟩
theorem apv{v r:List Int}{k m:Nat}(hv:Lim v)(hvl:v.length=m+2)(hr:Lim r)(hk:k+m+3≤r.length)(htop:500000000≤v[m+1])(hlt:win k (m+2) r<val v*1000000000):
  Kn (win k (m+2) r) (val v) r[k+m+2] r[k+m+1] r[k+m] v[m+1] v[m]:=by
 have hwl:((r.drop k).take (m+2+1)).length=m+3:=by rw[avU,axh];omega
 have h3:=PA hwl
 have h2:=Fl hvl
 have hl1:=(hr.drop k).take (m+2+1)
 have g:∀j (hj:j<m+3),((r.drop k).take (m+2+1))[j]=r[k+j]:=fun j hj=>by simp
 rw[g m (by omega),g (m+1) (by omega),g (m+2) (by omega)]at h3
 have t1:=hl1.take m
 have t2:=hv.take m
 have b1:=cj t1
 have b2:=cj t2
 rw[avU,avG (by omega)]at b1 b2
 exact⟨⟨pw m,_,_,ck m,aZ t1,b1,aZ t2,b2,h3,h2⟩,hr.get (by omega),hr.get (by omega),hr.get (by omega),⟨htop,(hv.get (by omega)).2⟩,hv.get (by omega),hlt⟩
end
section
theorem um{r:List Int}{k i:Nat}(y:Int):(r.set (k+i) y).take k=r.take k:=List.take_set_of_le (by omega)
theorem ul{r:List Int}{k i n:Nat}(y:Int)(h:i≤n):(r.set (k+i) y).drop (k+n+1)=r.drop (k+n+1):=List.drop_set_of_lt (by omega)
section
variable (b:List Int) (x2:Int) (v:List Int) (m:Nat) (hN:(ah (val b).toNat).length=m+2) (hv:ah (val (dig ((ah (val b).toNat).length+([u32.wrap (u64.wrap (Int.tdiv 1000000000 (u64.wrap ((u64.wrap x2)+1))))]).length) (val (ah (val b).toNat)*val ([u32.wrap (u64.wrap (Int.tdiv 1000000000 (u64.wrap ((u64.wrap x2)+1))))])))).toNat=v) (lv:Lim v) (hvl:v.length=m+2)
include hN hv lv hvl
theorem Wc(k:Nat)(r0 r5:List Int)(g:Int)(hg:0≤g∧g<1000000000)(hk:k+(m+2)+1≤r0.length)(hsz:r0.length≤4000000000)(R:List RV)
  (hno:∀r,Lim r→r.length=r0.length→r.take k=r0.take k→r.drop (k+(m+2)+1)=r0.drop (k+(m+2)+1)→val r=val r0-pw k*(g*val v)→∃q,df b x2 (k:Int) r5 g g 0 0 ((m+2+1:Nat):Int) r (fR.k q)=some R)
  (hyes:∀r,Lim r→r.length=r0.length→r.take k=r0.take k→r.drop (k+(m+2)+1)=r0.drop (k+(m+2)+1)→val r=val r0-pw k*(g*val v)+pw (k+(m+2)+1)→∃q,df b x2 (k:Int) r5 g g 0 1 ((m+2+1:Nat):Int) r (fR.k q)=some R):
  ∀(j i:Nat) (c bo:Int) (r:List Int),i+j=m+2+1→0≤c→c<1000000000→(i=m+2+1→c=0)→0≤bo→bo≤1→Lim r→r.length=r0.length→r.take k=r0.take k→r.drop (k+(m+2)+1)=r0.drop (k+(m+2)+1)→
   val r=val r0-pw k*(g*val (v.take i))+pw (k+i)*(c+bo)→fR.Runs 8 (cW b x2 (k:Int) r5 g g c bo (i:Int) r) R:=by
 have e1:i64.wrap ((k:Int)+((m+2:Nat):Int))=((k+(m+2):Nat):Int):=by rw[bi (by omega) (by omega)];simp
 have e2:i64.wrap (((k+(m+2):Nat):Int)+1)=((k+(m+2)+1:Nat):Int):=cD (by omega)
 have e3:k+(m+2)+1-k=m+2+1:=by omega
 intro j
 induction j with
 |zero=>
  intro i c bo r hi c0 c1 hc b0 b1 lr hl ht hd hval
  obtain rfl:i=m+2+1:=by omega
  obtain rfl:=hc rfl
  rw[avB (by omega)]at hval
  refine fv _ _ _ _ _ _ _ _ _ _ ?_
  rcases(show bo=0∨bo=1 by omega)with rfl|rfl
  ·exact hno r lr hl ht hd (by rw[hval];simp)
  ·exact hyes r lr hl ht hd (by rw[hval];simp;rfl)
 |succ j ih=>
  intro i c bo r hi c0 c1 hc b0 b1 lr hl ht hd hval
  have hir:k+i<r.length:=by omega
  have xr:=lr.get hir
  have hwi:decide ((0:Int)≤(i:Int)∧(i:Int)<((m+2+1:Nat):Int))=true:=au1 (by omega)
  have hlt:decide ((i:Int)<((m+2+1:Nat):Int))=true:=au1 (by omega)
  have hw:=hv
  have step:∀(c' y bo':Int),0≤c'→c'<1000000000→(i+1=m+2+1→c'=0)→0≤y→y<1000000000→0≤bo'→bo'≤1→y=r[k+i]-(val (v.take (i+1))-val (v.take i))/pw i*g-c+1000000000*c'-bo+1000000000*bo'→pw i*((val (v.take (i+1))-val (v.take i))/pw i)=val (v.take (i+1))-val (v.take i)→
    fR.Runs 8 (cW b x2 (k:Int) r5 g g c' bo' ((i+1:Nat):Int) (r.set (k+i) y)) R:=by
   intro c' y bo' k0 k1 kc y0 y1 k2 k3 hy hp
   refine ih (i+1) c' bo' (r.set (k+i) y) (by omega) k0 k1 kc k2 k3 (lr.set _ ⟨y0,y1⟩) (by simpa using hl) (by rw[um];exact ht) (by rw[ul _ (by omega)];exact hd) ?_
   rw[eN hir,hval,hy,show k+(i+1)=k+i+1 by omega,cr,ff]
   generalize (val (v.take (i+1))-val (v.take i))/pw i=d at*
   have:val (v.take (i+1))=val (v.take i)+pw i*d:=by omega
   rw[this]
   grind
  by_cases hiv:i<m+2
  ·have hiv':i<v.length:=by omega
   have xv:=lv.get hiv'
   have hdv:(val (v.take (i+1))-val (v.take i))/pw i=v[i]:=by
    rw[bj hiv',show val (v.take i)+pw i*v[i]-val (v.take i)=pw i*v[i] by omega,axc _ (by have:=ck i;omega)]
   rw[hdv]at step
   have hbd:=HB (r:=0) (by decide) xv hg ⟨c0,c1⟩
   have t0:0≤c+v[i]*g:=by omega
   have q0:0≤(c+v[i]*g)/1000000000∧(c+v[i]*g)/1000000000<1000000000:=by omega
   have hpv:pw i*v[i]=val (v.take (i+1))-val (v.take i):=by rw[bj hiv'];omega
   by_cases hc2:r[k+i]<(c+v[i]*g)%1000000000+bo
   ·obtain⟨q,hq⟩:=step ((c+v[i]*g)/1000000000) (r[k+i]+1000000000-((c+v[i]*g)%1000000000+bo)) 1 q0.1 q0.2 (by omega) (by omega) (by omega) (by omega) (by omega) (by omega) hpv
    refine fv _ _ _ _ _ _ _ _ _ _ ⟨q,?_⟩
    unfold df
    rw[hw,hN,e1,e2,aS,aS,e3,hlt,hwi,hvl,bS hiv,aD v i,au2 hiv',aS,au2 hir]
    dsimp only
    rw[bO (x:=v[i]) (by omega) (by omega),bO (x:=v[i]*g) (by omega) (by omega),bO (x:=c+v[i]*g) (by omega) (by omega),ir t0,fN t0,bO (x:=(c+v[i]*g)/1000000000) (by omega) (by omega),bO (x:=(c+v[i]*g)%1000000000+bo) (by omega) (by omega),bO (x:=r[k+i]) (by omega) (by omega),au1 hc2,
     bO (x:=r[k+i]+1000000000) (by omega) (by omega),bO (x:=r[k+i]+1000000000-((c+v[i]*g)%1000000000+bo)) (by omega) (by omega),cZ (x:=r[k+i]+1000000000-((c+v[i]*g)%1000000000+bo)) (by omega) (by omega),cD (k:=i) (by omega)]
    exact hq
   ·obtain⟨q,hq⟩:=step ((c+v[i]*g)/1000000000) (r[k+i]-((c+v[i]*g)%1000000000+bo)) 0 q0.1 q0.2 (by omega) (by omega) (by omega) (by omega) (by omega) (by omega) hpv
    refine fv _ _ _ _ _ _ _ _ _ _ ⟨q,?_⟩
    unfold df
    rw[hw,hN,e1,e2,aS,aS,e3,hlt,hwi,hvl,bS hiv,aD v i,au2 hiv',aS,au2 hir]
    dsimp only
    rw[bO (x:=v[i]) (by omega) (by omega),bO (x:=v[i]*g) (by omega) (by omega),bO (x:=c+v[i]*g) (by omega) (by omega),ir t0,fN t0,bO (x:=(c+v[i]*g)/1000000000) (by omega) (by omega),bO (x:=(c+v[i]*g)%1000000000+bo) (by omega) (by omega),bO (x:=r[k+i]) (by omega) (by omega),au3 hc2,
     bO (x:=r[k+i]-((c+v[i]*g)%1000000000+bo)) (by omega) (by omega),cZ (x:=r[k+i]-((c+v[i]*g)%1000000000+bo)) (by omega) (by omega),cD (k:=i) (by omega)]
    exact hq
  ·have hpz:val (v.take (i+1))-val (v.take i)=0:=by rw[ja (by omega)];omega
   rw[hpz]at step
   simp only[Int.zero_ediv,ax0,aw1,Int.sub_zero,forall_const]at step
   have m0:c%1000000000=c:=by omega
   have d0:c/1000000000=0:=by omega
   by_cases hc2:r[k+i]<c+bo
   ·obtain⟨q,hq⟩:=step 0 (r[k+i]+1000000000-(c+bo)) 1 (by omega) (by omega) (by omega) (by omega) (by omega) (by omega) (by omega) (by omega)
    refine fv _ _ _ _ _ _ _ _ _ _ ⟨q,?_⟩
    unfold df
    rw[hw,hN,e1,e2,aS,aS,e3,hlt,hwi,hvl,cC (show m+2≤i by omega),aS,au2 hir]
    dsimp only
    rw[ir c0,fN c0,m0,d0,bO (x:=0) (by omega) (by omega),bO (x:=c+bo) (by omega) (by omega),bO (x:=r[k+i]) (by omega) (by omega),au1 hc2,
     bO (x:=r[k+i]+1000000000) (by omega) (by omega),bO (x:=r[k+i]+1000000000-(c+bo)) (by omega) (by omega),cZ (x:=r[k+i]+1000000000-(c+bo)) (by omega) (by omega),cD (k:=i) (by omega)]
    exact hq
   ·obtain⟨q,hq⟩:=step 0 (r[k+i]-(c+bo)) 0 (by omega) (by omega) (by omega) (by omega) (by omega) (by omega) (by omega) (by omega)
    refine fv _ _ _ _ _ _ _ _ _ _ ⟨q,?_⟩
    unfold df
    rw[hw,hN,e1,e2,aS,aS,e3,hlt,hwi,hvl,cC (show m+2≤i by omega),aS,au2 hir]
    dsimp only
    rw[ir c0,fN c0,m0,d0,bO (x:=0) (by omega) (by omega),bO (x:=c+bo) (by omega) (by omega),bO (x:=r[k+i]) (by omega) (by omega),au3 hc2,
     bO (x:=r[k+i]-(c+bo)) (by omega) (by omega),cZ (x:=r[k+i]-(c+bo)) (by omega) (by omega),cD (k:=i) (by omega)]
    exact hq
end
end
section
section
variable (b:List Int) (x2:Int) (v:List Int) (m:Nat) (hN:(ah (val b).toNat).length=m+2) (hv:ah (val (dig ((ah (val b).toNat).length+([u32.wrap (u64.wrap (Int.tdiv 1000000000 (u64.wrap ((u64.wrap x2)+1))))]).length) (val (ah (val b).toNat)*val ([u32.wrap (u64.wrap (Int.tdiv 1000000000 (u64.wrap ((u64.wrap x2)+1))))])))).toNat=v) (lv:Lim v) (hvl:v.length=m+2)
include hN hv lv hvl
theorem T3(k:Nat)(r0 r5:List Int)(f:Int)(hk:k+(m+2)+1≤r0.length)(hsz:r0.length≤4000000000)(R:List RV)
  (hend:∀r c,Lim r→r.length=r0.length→r.take k=r0.take k→r.drop (k+(m+2)+1)=r0.drop (k+(m+2)+1)→0≤c→c≤1→val r=val r0+pw k*val v-pw (k+(m+2)+1)*c→∃q,dX b x2 (k:Int) r5 f c ((m+2+1:Nat):Int) r (fR.k q)=some R):
  ∀(j i:Nat) (c:Int) (r:List Int),i+j=m+2+1→0≤c→c≤1→Lim r→r.length=r0.length→r.take k=r0.take k→r.drop (k+(m+2)+1)=r0.drop (k+(m+2)+1)→
   val r=val r0+pw k*val (v.take i)-pw (k+i)*c→fR.Runs 5 (dv b x2 (k:Int) r5 f c (i:Int) r) R:=by
 have e1:i64.wrap ((k:Int)+((m+2:Nat):Int))=((k+(m+2):Nat):Int):=by rw[bi (by omega) (by omega)];simp
 have e2:i64.wrap (((k+(m+2):Nat):Int)+1)=((k+(m+2)+1:Nat):Int):=cD (by omega)
 have e3:k+(m+2)+1-k=m+2+1:=by omega
 intro j
 induction j with
 |zero=>
  intro i c r hi c0 c1 lr hl ht hd hval
  obtain rfl:i=m+2+1:=by omega
  rw[avB (by omega)]at hval
  refine fk _ _ _ _ _ _ _ _ ?_
  exact hend r c lr hl ht hd c0 c1 hval
 |succ j ih=>
  intro i c r hi c0 c1 lr hl ht hd hval
  have hir:k+i<r.length:=by omega
  have xr:=lr.get hir
  have hwi:decide ((0:Int)≤(i:Int)∧(i:Int)<((m+2+1:Nat):Int))=true:=au1 (by omega)
  have hlt:decide ((i:Int)<((m+2+1:Nat):Int))=true:=au1 (by omega)
  have hw:=hv
  have step:∀(c' y d:Int),0≤c'→c'≤1→0≤y→y<1000000000→y=r[k+i]+c+d-1000000000*c'→val (v.take (i+1))=val (v.take i)+pw i*d→
    fR.Runs 5 (dv b x2 (k:Int) r5 f c' ((i+1:Nat):Int) (r.set (k+i) y)) R:=by
   intro c' y d k0 k1 y0 y1 hy hp
   refine ih (i+1) c' (r.set (k+i) y) (by omega) k0 k1 (lr.set _ ⟨y0,y1⟩) (by simpa using hl) (by rw[um];exact ht) (by rw[ul _ (by omega)];exact hd) ?_
   rw[eN hir,hval,hy,hp,show k+(i+1)=k+i+1 by omega,cr,ff]
   grind
  by_cases hiv:i<m+2
  ·have hiv':i<v.length:=by omega
   have xv:=lv.get hiv'
   have hpv:=bj hiv'
   by_cases hc2:r[k+i]+c+v[i]≥1000000000
   ·obtain⟨q,hq⟩:=step 1 (r[k+i]+c+v[i]-1000000000) v[i] (by omega) (by omega) (by omega) (by omega) (by omega) hpv
    refine fk _ _ _ _ _ _ _ _ ⟨q,?_⟩
    unfold dX
    rw[hw,hN,e1,e2,aS,aS,e3,hlt,hwi,hvl,bS hiv,aD v i,au2 hiv',aS,au2 hir]
    dsimp only
    rw[cZ (x:=r[k+i]+c) (by omega) (by omega),cZ (x:=r[k+i]+c+v[i]) (by omega) (by omega),au1 hc2,cZ (x:=r[k+i]+c+v[i]-1000000000) (by omega) (by omega),cD (k:=i) (by omega)]
    exact hq
   ·obtain⟨q,hq⟩:=step 0 (r[k+i]+c+v[i]) v[i] (by omega) (by omega) (by omega) (by omega) (by omega) hpv
    refine fk _ _ _ _ _ _ _ _ ⟨q,?_⟩
    unfold dX
    rw[hw,hN,e1,e2,aS,aS,e3,hlt,hwi,hvl,bS hiv,aD v i,au2 hiv',aS,au2 hir]
    dsimp only
    rw[cZ (x:=r[k+i]+c) (by omega) (by omega),cZ (x:=r[k+i]+c+v[i]) (by omega) (by omega),au3 hc2,cD (k:=i) (by omega)]
    exact hq
  ·have hpz:val (v.take (i+1))=val (v.take i)+pw i*0:=by rw[ja (by omega)];simp
   by_cases hc2:r[k+i]+c≥1000000000
   ·obtain⟨q,hq⟩:=step 1 (r[k+i]+c-1000000000) 0 (by omega) (by omega) (by omega) (by omega) (by omega) hpz
    refine fk _ _ _ _ _ _ _ _ ⟨q,?_⟩
    unfold dX
    rw[hw,hN,e1,e2,aS,aS,e3,hlt,hwi,hvl,cC (show m+2≤i by omega),aS,au2 hir]
    dsimp only
    rw[cZ (x:=r[k+i]+c) (by omega) (by omega),au1 hc2,cZ (x:=r[k+i]+c-1000000000) (by omega) (by omega),cD (k:=i) (by omega)]
    exact hq
   ·obtain⟨q,hq⟩:=step 0 (r[k+i]+c) 0 (by omega) (by omega) (by omega) (by omega) (by omega) hpz
    refine fk _ _ _ _ _ _ _ _ ⟨q,?_⟩
    unfold dX
    rw[hw,hN,e1,e2,aS,aS,e3,hlt,hwi,hvl,cC (show m+2≤i by omega),aS,au2 hir]
    dsimp only
    rw[cZ (x:=r[k+i]+c) (by omega) (by omega),au3 hc2,cD (k:=i) (by omega)]
    exact hq
theorem Ho(k:Nat)(r1 r5:List Int)(hk:k+m+3≤r1.length)(hsz:r1.length≤4000000000)(R:List RV)(K:Kn (win k (m+2) r1) (val v) r1[k+m+2] r1[k+m+1] r1[k+m] v[m+1] v[m])
  (hafter:∀g,0≤g→g<1000000000→win k (m+2) r1<(g+1)*val v→g*val v<win k (m+2) r1+val v→fR.Runs 8 (cW b x2 (k:Int) r5 g g 0 0 0 r1) R):
  ∀(fuel:Nat) (g rest:Int),g≤(fuel:Int)→0≤g→g≤2000000000→0≤rest→rest<1000000000→g*v[m+1]+rest=r1[k+m+2]*1000000000+r1[k+m+1]→win k (m+2) r1<(g+1)*val v→fR.Runs 49 (lX b x2 (k:Int) r1 r5 g rest) R:=by
 have _lv:=lv
 have e1:i64.wrap ((k:Int)+((m+2:Nat):Int))=((k+m+2:Nat):Int):=by rw[bi (by omega) (by omega)];simp;omega
 have e2:i64.wrap (((k+m+2:Nat):Int)+1)=((k+m+3:Nat):Int):=by rw[bi (by omega) (by omega)];simp;omega
 have e3:i64.wrap (((m+2:Nat):Int)-1)=((m+1:Nat):Int):=by rw[bi (by omega) (by omega)];omega
 have e4:i64.wrap (((m+2:Nat):Int)-2)=((m:Nat):Int):=by rw[bi (by omega) (by omega)];omega
 have e5:i64.wrap (((k+m+2:Nat):Int)-2)=((k+m:Nat):Int):=by rw[bi (by omega) (by omega)];omega
 have hsl:decide ((0:Int)≤(k:Int)∧(k:Int)≤((k+m+3:Nat):Int)∧((k+m+3:Nat):Int)≤(r1.length:Int))=true:=au1 (by omega)
 have hV:=K.pos
 have htop:=K.top
 have ku2:=K.u2
 have ku1:=K.u1
 have ku0:=K.u0
 have kv1:=K.v1
 have kv0:=K.v0
 intro fuel
 induction fuel with
 |zero=>
  intro g rest hf g0 gB r0 r1' he hlt
  obtain rfl:g=0:=by omega
  obtain⟨q,hq⟩:=hafter 0 (by omega) (by omega) hlt (by have:=hlt;have:=K.small (g:=0) (rest:=rest) (by omega) (by omega) he (by omega);omega)
  refine oh _ _ _ _ _ _ _ ⟨q,?_⟩
  unfold kQ
  rw[au3 (by omega),hv,hN,e1,e2,e4,e5,aD v m,au2 (by omega),aD r1 (k+m),aS,au2 (show k+m<r1.length by omega)]
  dsimp only
  rw[bO (x:=v[m]) (by omega) (by omega),ax0,bO (x:=0) (by omega) (by omega),bO (x:=rest*1000000000) (by omega) (by omega),bO (x:=r1[k+m]) (by omega) (by omega),bO (x:=rest*1000000000+r1[k+m]) (by omega) (by omega),au3 (by omega),hsl]
  exact hq
 |succ fuel ih=>
  intro g rest hf g0 gB rr0 rr1 he hlt
  have down:win k (m+2) r1<g*val v→∃q,(match decide (u64.wrap (rest+u64.wrap v[m+1])≥1000000000)with|true=>fR.k q 8 (cW b x2 (k:Int) r5 (u64.wrap (g-1)) (u64.wrap (g-1)) 0 0 0 r1)|false=>fR.k q 49 (lX b x2 (k:Int) r1 r5 (u64.wrap (g-1)) (u64.wrap (rest+u64.wrap v[m+1]))))=some R:=by
   intro hw
   have gp:1≤g:=by
    rcases avA 0 g with h|h
    ·exact h
    ·exfalso
     have hg:g=0:=by omega
     subst hg
     rw[ax0]at hw
     obtain⟨⟨P,wl,vl,p0,a1,a2,b1,b2,hw',hV'⟩,_⟩:=K
     have:=av2 (avH p0) (show 0≤r1[k+m]+1000000000*r1[k+m+1]+1000000000*1000000000*r1[k+m+2] by omega)
     omega
   have he':(g-1)*v[m+1]+(rest+v[m+1])=r1[k+m+2]*1000000000+r1[k+m+1]:=by rw[←he];grind
   have hw':win k (m+2) r1<(g-1+1)*val v:=by rw[show g-1+1=g by omega];exact hw
   rw[bO (x:=v[m+1]) (by omega) (by omega),bO (x:=rest+v[m+1]) (by omega) (by omega),bO (x:=g-1) (by omega) (by omega)]
   by_cases hb:rest+v[m+1]≥1000000000
   ·have gl:g-1<1000000000:=by
     rcases avA (g-1) 1000000000 with h|h
     ·exact h
     ·exfalso
      have e1:=avl h (show 0≤v[m+1] by omega)
      have e2:=avl htop (show(0:Int)≤1000000000 by decide)
      omega
    have e1:(g-1)*v[m]≤1000000000*1000000000:=aw7 (by omega) (by omega) (by omega) (by decide)
    obtain⟨q,hq⟩:=hafter (g-1) (by omega) gl hw' (K.small (by omega) (by omega) he' (by omega))
    exact⟨q,by rw[au1 hb];exact hq⟩
   ·obtain⟨q,hq⟩:=ih (g-1) (rest+v[m+1]) (by omega) (by omega) (by omega) (by omega) (by omega) he' hw'
    exact⟨q,by rw[au3 hb];exact hq⟩
  by_cases hgB:g≥1000000000
  ·obtain⟨q,hq⟩:=down (by
    have h1:=K.lt
    have:=avl hgB (avH hV)
    rw[awE]at h1
    omega)
   refine oh _ _ _ _ _ _ _ ⟨q,?_⟩
   unfold kQ
   rw[au1 hgB,hv,hN,e1,e2,e3,aD v (m+1),au2 (show m+1<v.length by omega),hsl]
   exact hq
  ·have hgv:g*v[m]≤1000000000*1000000000:=aw7 (by omega) (by omega) (by omega) (by decide)
   have hgv0:0≤g*v[m]:=av2 g0 (by omega)
   by_cases hc:g*v[m]>rest*1000000000+r1[k+m]
   ·obtain⟨q,hq⟩:=down (K.great g0 he hc)
    refine oh _ _ _ _ _ _ _ ⟨q,?_⟩
    unfold kQ
    rw[au3 hgB,hv,hN,e1,e2,e3,e4,e5,aD v m,au2 (show m<v.length by omega),aD v (m+1),au2 (show m+1<v.length by omega),aD r1 (k+m),aS,au2 (show k+m<r1.length by omega),hsl]
    dsimp only
    rw[bO (x:=v[m]) (by omega) (by omega),bO (x:=g*v[m]) (by omega) (by omega),bO (x:=rest*1000000000) (by omega) (by omega),bO (x:=r1[k+m]) (by omega) (by omega),bO (x:=rest*1000000000+r1[k+m]) (by omega) (by omega),au1 hc]
    exact hq
   ·obtain⟨q,hq⟩:=hafter g g0 (by omega) hlt (K.small g0 (by omega) he (by omega))
    refine oh _ _ _ _ _ _ _ ⟨q,?_⟩
    unfold kQ
    rw[au3 hgB,hv,hN,e1,e2,e4,e5,aD v m,au2 (show m<v.length by omega),aD r1 (k+m),aS,au2 (show k+m<r1.length by omega),hsl]
    dsimp only
    rw[bO (x:=v[m]) (by omega) (by omega),bO (x:=g*v[m]) (by omega) (by omega),bO (x:=rest*1000000000) (by omega) (by omega),bO (x:=r1[k+m]) (by omega) (by omega),bO (x:=rest*1000000000+r1[k+m]) (by omega) (by omega),au3 hc]
    exact hq
end
end
section
section
variable (b:List Int) (x2:Int) (v:List Int) (m:Nat) (hN:(ah (val b).toNat).length=m+2) (hv:ah (val (dig ((ah (val b).toNat).length+([u32.wrap (u64.wrap (Int.tdiv 1000000000 (u64.wrap ((u64.wrap x2)+1))))]).length) (val (ah (val b).toNat)*val ([u32.wrap (u64.wrap (Int.tdiv 1000000000 (u64.wrap ((u64.wrap x2)+1))))])))).toNat=v) (lv:Lim v) (hvl:v.length=m+2)
include hN hv lv hvl
set_option maxHeartbeats 2000000 in
theorem Pe(sc:Int)(hsc:u32.wrap (u64.wrap (Int.tdiv 1000000000 (u64.wrap ((u64.wrap x2)+1))))=sc)(hs1:1≤sc)(hs2:sc≤500000000)(htop:500000000≤v[m+1])(A:Int):
  ∀(M:Nat) (r5 r1:List Int),Lim r5→Lim r1→r1.length=r5.length+(m+2)→r1.length≤1000000000→M≤r5.length→val v*val r5+val r1=A→(∀j (hj:j<r5.length),j<M→r5[j]=0)→val r1<val v*pw M→
   ∃qL rL,(Lim qL∧Lim rL∧qL.length=r5.length∧rL.length≤m+2∧val qL=A/val v∧val rL=A%val v/sc)∧fR.Runs 34 (oG b x2 ((M:Int)-1) r5 r1) [.d ax7 qL,.d ax7 rL]:=by
 have hVlt:=cj lv
 rw[hvl]at hVlt
 have hV0:0<val v:=by
  rw[Fl hvl]
  have h1:=aZ (lv.take m)
  have h2:=lv.get (show m<v.length by omega)
  have h3:=Int.mul_pos (ck m) (show 0<v[m]+1000000000*v[m+1] by omega)
  omega
 intro M
 induction M with
 |zero=>
  intro r5 r1 l5 l1 hlen hsz hM hA hz hlt
  rw[lF,aw6]at hlt
  have h0:=aZ l1
  have eQ:A/val v=val r5:=by rw[←hA,axN,awN _ _ (by omega),awn h0 hlt];omega
  have eR:A%val v=val r1:=by rw[←hA,axN,awY];exact axb h0 hlt
  have ht:val (r1.take (m+2))=val r1:=by
   have hs:=fA r1 (m+2)
   rw[avG (by omega)]at hs
   have h2:=aZ (l1.drop (m+2))
   have h3:=aZ (l1.take (m+2))
   rcases avA 0 (val (r1.drop (m+2)))with hc|hc
   ·have:=avg (show 1≤val (r1.drop (m+2)) by omega) (avH (ck (m+2)))
    omega
   ·have e:val (r1.drop (m+2))=0:=by omega
    rw[e]at hs
    omega
  have hlX:(ah (val r1).toNat).length≤m+2:=da (by omega)
  have hX:=bL (val r1).toNat
  have hXv:val (ah (val r1).toNat)=val r1:=by omega
  have hd0:0≤val r1/sc:=av9 h0 (by omega)
  have hd1:val r1/sc≤val r1:=awS _ h0
  have hXl:=cj (co (val r1).toNat)
  refine⟨r5,dig (ah (val r1).toNat).length (val r1/sc),⟨l5,lU _ _,rfl,by rw[hZ];exact hlX,eQ.symm,by rw[eR,gz _ _ hd0 (by omega)]⟩,z7 _ _ _ _ _ ⟨0,?_⟩⟩
  unfold tn
  rw[au3 (by omega),hN,hsc,aS,show(0:Int).toNat=0 from rfl,axL,awU,au1 (show(0:Int)≤0∧(0:Int)≤((m+2:Nat):Int)∧((m+2:Nat):Int)≤(r1.length:Int) by omega),ht,hXv,
   au1 (show a9 (r1.take (m+2)) from⟨l1.take _,by rw[avU];omega⟩),au1 (show Gi (ah (val r1).toNat) sc from⟨⟨co _,by omega⟩,hs1,by omega⟩)]
 |succ k ih=>
  intro r5 r1 l5 l1 hlen hsz hM hA hz hlt
  have hk3:k+(m+2)+1≤r1.length:=by omega
  have hP:=ck k
  have hr0:=aZ l1
  have hz1:val (r1.drop (k+(m+2)+1))=0:=by
   have hs:=fA r1 (k+(m+2)+1)
   rw[avG hk3]at hs
   have h2:=aZ (l1.drop (k+(m+2)+1))
   have h3:=aZ (l1.take (k+(m+2)+1))
   rcases avA 0 (val (r1.drop (k+(m+2)+1)))with hc|hc
   ·exfalso
    have e1:=avg (show 1≤val (r1.drop (k+(m+2)+1)) by omega) (avH (ck (k+(m+2)+1)))
    have e2:=avl (avH hVlt) (avH (ck (k+1)))
    rw[←ff,show m+2+(k+1)=k+(m+2)+1 by omega]at e2
    omega
   ·omega
  have hw1:=K5 hk3 hz1
  have hwb:=TP l1 hk3
  have hwlt:win k (m+2) r1<val v*1000000000:=by
   rcases avA (win k (m+2) r1) (val v*1000000000)with hc|hc
   ·exact hc
   ·exfalso
    have e1:=avg hc (avH hP)
    have e2:=aZ (l1.take k)
    have e3:val v*pw (k+1)=pw k*(val v*1000000000):=by rw[cr];grind
    omega
  have K:=apv lv hvl l1 (show k+m+3≤r1.length by omega) htop hwlt
  have htk:=cj (l1.take k)
  rw[avU,avG (by omega)]at htk
  have htk0:=aZ (l1.take k)
  have hk5:k<r5.length:=by omega
  have hr5:=hz k hk5 (by omega)
  have e1:i64.wrap ((k:Int)+((m+2:Nat):Int))=((k+(m+2):Nat):Int):=by rw[bi (by omega) (by omega)];simp
  have e2:i64.wrap (((k+(m+2):Nat):Int)+1)=((k+(m+2)+1:Nat):Int):=cD (by omega)
  have e3:k+(m+2)+1-k=m+2+1:=by omega
  have fin:∀(d:Int) (r:List Int),0≤d→d<1000000000→Lim r→r.length=r1.length→r.take k=r1.take k→r.drop (k+(m+2)+1)=r1.drop (k+(m+2)+1)→val r=val r1-pw k*(d*val v)→win k (m+2) r1-d*val v<val v→
    ∃qL rL,(Lim qL∧Lim rL∧qL.length=r5.length∧rL.length≤m+2∧val qL=A/val v∧val rL=A%val v/sc)∧fR.Runs 34 (oG b x2 ((k:Int)-1) (r5.set k d) r) [.d ax7 qL,.d ax7 rL]:=by
   intro d r d0 d1 lr hl ht hd hval hwd
   obtain⟨qL,rL,⟨a1,a2,a3,a4,a5,a6⟩,a7⟩:=ih (r5.set k d) r (l5.set k ⟨d0,d1⟩) lr (by simp;omega) (by omega) (by simp;omega) (by
     rw[eN hk5,hr5,hval,←hA];grind) (fun j hj hjk=>by rw[awv (by omega)];exact hz j (by simpa using hj) (by omega)) (by
     rw[hval,hw1]
     have e4:=avg (show win k (m+2) r1-d*val v≤val v-1 by omega) (avH hP)
     rw[Int.mul_sub,Int.mul_sub,aw6]at e4
     rw[awE (val v)]
     omega)
   exact⟨qL,rL,⟨a1,a2,by simpa using a3,a4,a5,a6⟩,a7⟩
  have wof:∀(r:List Int) (x:Int),Lim r→r.length=r1.length→r.take k=r1.take k→r.drop (k+(m+2)+1)=r1.drop (k+(m+2)+1)→val r=val r1+pw k*x→win k (m+2) r=win k (m+2) r1+x∧0≤win k (m+2) r∧win k (m+2) r<pw (m+2+1):=by
   intro r x lr hl ht hd hval
   have h1:=K5 (k:=k) (n:=m+2) (r:=r) (by omega) (by rw[hd];exact hz1)
   rw[ht]at h1
   have h2:=TP (k:=k) (n:=m+2) lr (by omega)
   refine⟨?_,h2⟩
   have:pw k*win k (m+2) r=pw k*(win k (m+2) r1+x):=by rw[axW];omega
   exact Int.eq_of_mul_eq_mul_left (by omega) this
  have hpw:pw (k+(m+2)+1)=pw k*pw (m+2+1):=by rw[←ff];congr 1
  have xt:=K.u2
  have xt1:=K.u1
  have xv:=K.v1
  have hg0:0≤(r1[k+m+2]*1000000000+r1[k+m+1])/v[m+1]:=av9 (by omega) (by omega)
  have hg1:(r1[k+m+2]*1000000000+r1[k+m+1])/v[m+1]<2000000000:=awB (by omega) (by
   have:=avg xv.1 (show(0:Int)≤2000000000 by decide)
   omega)
  have md:=avS (r1[k+m+2]*1000000000+r1[k+m+1]) v[m+1]
  have m0:=awe (r1[k+m+2]*1000000000+r1[k+m+1]) (show v[m+1]≠0 by omega)
  have m1:=avJ (r1[k+m+2]*1000000000+r1[k+m+1]) (show 0<v[m+1] by omega)
  have key:∃qL rL,(Lim qL∧Lim rL∧qL.length=r5.length∧rL.length≤m+2∧val qL=A/val v∧val rL=A%val v/sc)∧fR.Runs 49 (lX b x2 (k:Int) r1 r5 ((r1[k+m+2]*1000000000+r1[k+m+1])/v[m+1]) ((r1[k+m+2]*1000000000+r1[k+m+1])%v[m+1])) [.d ax7 qL,.d ax7 rL]:=by
   have hex:∃g,0≤g∧g<1000000000∧g*val v≤win k (m+2) r1∧win k (m+2) r1<(g+1)*val v:=by
    have h1:=avS (win k (m+2) r1) (val v)
    have h2:=awe (win k (m+2) r1) (show val v≠0 by omega)
    have h3:=avJ (win k (m+2) r1) hV0
    refine⟨win k (m+2) r1/val v,av9 hwb.1 (by omega),awB hV0 (by rw[awE];exact hwlt),?_,?_⟩
    ·rw[awE];omega
    ·rw[Int.add_mul,awu,awE];omega
   obtain⟨d,d0,d1,d2,d3⟩:=hex
   have dv0:0≤d*val v:=av2 d0 (by omega)
   have hrow:∃r,Lim r∧r.length=r1.length∧r.take k=r1.take k∧r.drop (k+(m+2)+1)=r1.drop (k+(m+2)+1)∧val r=val r1-pw k*(d*val v):=by
    refine⟨r1.take k++(dig (m+2+1) (win k (m+2) r1-d*val v)++r1.drop (k+(m+2)+1)),(l1.take k).append ((lU _ _).append (l1.drop _)),by simp[hZ];omega,?_,?_,?_⟩
    ·rw[List.take_append_of_le_length (by simp;omega),List.take_take,Nat.min_self]
    ·rw[←awd,List.drop_append_of_le_length (by simp[hZ];omega),avY (by simp[hZ];omega),axq]
    ·rw[dt,dt,hz1,gz _ _ (by omega) (by omega),avU,avG (by omega),hw1]
     grind
   obtain⟨rr,q1,q2,q3,q4,q5⟩:=hrow
   obtain⟨qL,rL,hf,hrun⟩:=fin d rr d0 d1 q1 q2 q3 q4 q5 (by rw[Int.add_mul,awu]at d3;omega)
   refine⟨qL,rL,hf,Ho b x2 v m hN hv lv hvl k r1 r5 (by omega) (by omega) _ K ?_ 2000000000 _ _ (by omega) hg0 (by omega) m0 (by omega) (by rw[awE];omega) (K.first rfl)⟩
   intro g g0 g1 hg2 hg3
   have same:∀r,Lim r→r.length=r1.length→r.take k=r1.take k→r.drop (k+(m+2)+1)=r1.drop (k+(m+2)+1)→val r=val r1-pw k*(d*val v)→r=rr:=fun r a1 a2 a3 a4 a5=>CO a1 q1 (by omega) (by omega)
   refine Wc b x2 v m hN hv lv hvl k r1 r5 g ⟨g0,g1⟩ hk3 (by omega) _ ?_ ?_ (m+2+1) 0 0 0 r1 (by omega) (by omega) (by omega) (fun _=>rfl) (by omega) (by omega) l1 rfl rfl rfl (by simp[val])
   ·intro r a1 a2 a3 a4 a5
    obtain⟨w1,w2,w3⟩:=wof r (-(g*val v)) a1 a2 a3 a4 (by rw[a5,axI];omega)
    have hgd:g=d:=by
     have h1:¬g<d:=fun hc=>by
      have:=avl (show g+1≤d by omega) (avH hV0)
      omega
     have h2:¬d<g:=fun hc=>by
      have:=avl (show d+1≤g by omega) (avH hV0)
      omega
     omega
    subst hgd
    rw[same r a1 a2 a3 a4 a5]
    obtain⟨q,hq⟩:=hrun
    refine⟨q,?_⟩
    unfold df
    rw[hv,hN,e1,e2,aS,aS,e3,cC (avb _),au3 (show ¬(0:Int)>0 by decide),aD r5 k,au2 hk5,cZ (x:=g) (by omega) (by omega),bi (x:=(k:Int)-1) (by omega) (by omega)]
    exact hq
   ·intro r a1 a2 a3 a4 a5
    obtain⟨w1,w2,w3⟩:=wof r (-(g*val v)+pw (m+2+1)) a1 a2 a3 a4 (by rw[a5,hpw,axW,axI];omega)
    have hwg:win k (m+2) r1<g*val v:=by omega
    have hgd:g=d+1:=by
     have h1:¬g<d+1:=fun hc=>by
      have:=avl (show g≤d by omega) (avH hV0)
      omega
     have h2:¬d+1<g:=fun hc=>by
      have:=avl (show d+2≤g by omega) (avH hV0)
      rw[Int.add_mul]at this d3
      omega
     omega
    subst hgd
    have hres:fR.Runs 5 (dv b x2 (k:Int) r5 (d+1) 0 0 r) [.d ax7 qL,.d ax7 rL]:=by
     refine T3 b x2 v m hN hv lv hvl k r r5 (d+1) (by omega) (by omega) _ ?_ (m+2+1) 0 0 r (by omega) (by omega) (by omega) a1 rfl rfl rfl (by simp[val])
     intro r' c b1 b2 b3 b4 c0 c1 b5
     obtain⟨u1,u2,u3⟩:=wof r' (-((d+1)*val v)+pw (m+2+1)+val v-pw (m+2+1)*c) b1 (by omega) (b3.trans a3) (b4.trans a4) (by rw[b5,a5,hpw,Int.mul_sub,axW,axW,axI];grind)
     have hc:c=1:=by
      rcases(show c=0∨c=1 by omega)with hc|hc
      ·exfalso
       subst hc
       rw[aw1,Int.sub_zero]at u1
       rw[Int.add_mul,awu]at u1
       omega
      ·exact hc
     subst hc
     rw[same r' b1 (by omega) (b3.trans a3) (b4.trans a4) (by rw[b5,a5];grind)]
     obtain⟨q,hq⟩:=hrun
     refine⟨q,?_⟩
     unfold dX
     rw[hN,e1,e2,aS,aS,e3,cC (avb _),aD r5 k,au2 hk5,show d+1-1=d by omega,bO (x:=d) (by omega) (by omega),cZ (x:=d) (by omega) (by omega),bi (x:=(k:Int)-1) (by omega) (by omega)]
     exact hq
    obtain⟨q,hq⟩:=hres
    refine⟨q,?_⟩
    unfold df
    rw[hv,hN,e1,e2,aS,aS,e3,cC (avb _),au1 (show(1:Int)>0 by decide),au1 (show(0:Int)≤(k:Int)∧(k:Int)≤((k+(m+2)+1:Nat):Int)∧((k+(m+2)+1:Nat):Int)≤(r.length:Int) by omega)]
    exact hq
  obtain⟨qL,rL,hf,q,hq⟩:=key
  refine⟨qL,rL,hf,z7 _ _ _ _ _ ⟨q,?_⟩⟩
  have e4:i64.wrap (((k+(m+2):Nat):Int)-1)=((k+m+1:Nat):Int):=by rw[bi (by omega) (by omega)];omega
  have e5:i64.wrap (((m+2:Nat):Int)-1)=((m+1:Nat):Int):=by rw[bi (by omega) (by omega)];omega
  unfold tn
  rw[show((k+1:Nat):Int)-1=(k:Int) by omega,au1 (by omega),hv,hN,e1,e4,e5,aD r1 (k+(m+2)),aS,au2 (show k+(m+2)<r1.length by omega),aD r1 (k+m+1),aS,au2 (show k+m+1<r1.length by omega),aD v (m+1),au2 (show m+1<v.length by omega)]
  dsimp only
  rw[bO (x:=v[m+1]) (by omega) (by omega),au3 (show ¬v[m+1]=0 by omega)]
  dsimp only
  have e6:r1[k+(m+2)]=r1[k+m+2]:=rfl
  rw[e6,bO (x:=r1[k+m+2]) (by omega) (by omega),bO (x:=r1[k+m+1]) (by omega) (by omega),bO (x:=r1[k+m+2]*1000000000) (by omega) (by omega),bO (x:=r1[k+m+2]*1000000000+r1[k+m+1]) (by omega) (by omega),fN (by omega),ir (by omega),bO (x:=(r1[k+m+2]*1000000000+r1[k+m+1])/v[m+1]) (by omega) (by omega)]
  exact hq
end
end
def mQ(a b:List Int):Prop:=(Lim a∧a.length≤100000000)∧(Lim b∧b.length≤100000000)∧0<val b
instance (a b:List Int):Decidable (mQ a b):=by unfold mQ;infer_instance
structure aoX (a b q r:List Int):Prop where
 lq:Lim q
 lr:Lim r
 sq:q.length≤200000000
 sr:r.length≤200000000
 q:val q=val a/val b
 r:val r=val a%val b
theorem uV(x:Int):val [x]=x:=by simp[val]
theorem r8{l:List Int}(h:can l){m:Nat}(hl:l.length=m+1):1≤l[m]:=by
 have h2:=h.2
 rw[List.getLast?_eq_getElem?,hl,Nat.add_sub_cancel,au2 (by omega)]at h2
 have h1:=h.1.get (show m<l.length by omega)
 have:l[m]≠0:=fun e=>h2 (by rw[e])
 omega
set_option maxHeartbeats 1000000 in
theorem CL(a b:List Int)(h:mQ a b):∃q r,aoX a b q r∧Con Tryz.prog 286 [.d ax7 a,.d ax7 b] [.d ax7 q,.d ax7 r]:=by
 obtain⟨⟨la,sa⟩,⟨lb,sb⟩,hb⟩:=h
 have ha:a9 a:=⟨la,by omega⟩
 have hb':a9 b:=⟨lb,by omega⟩
 have va:=bL (val a).toNat
 have vb:=bL (val b).toNat
 have na:=aZ la
 have va':val (ah (val a).toNat)=val a:=by omega
 have vb':val (ah (val b).toNat)=val b:=by omega
 have lna:=iR la
 have lnb:=iR lb
 have ca:=dQ (val a).toNat
 have cb:=dQ (val b).toNat
 have hla:a9 (ah (val a).toNat):=⟨ca.1,by omega⟩
 have hlb:a9 (ah (val b).toNat):=⟨cb.1,by omega⟩
 have go:∀{q r},fR.Res 286 [.d ax7 a,.d ax7 b] [.d ax7 q,.d ax7 r]→Con Tryz.prog 286 [.d ax7 a,.d ax7 b] [.d ax7 q,.d ax7 r]:=fun hr=>aR Mv hr
 have hb0:ah (val b).toNat≠[]:=fun e=>by rw[ge]at e;omega
 by_cases h1:(ah (val b).toNat).length=1
 ·have t1:=r8 cb (m:=0) h1
  have t2:=cb.1.get (show 0<(ah (val b).toNat).length by omega)
  have e0:(ah (val b).toNat)[0]=val b:=by
   obtain⟨x,hx⟩:=List.length_eq_one_iff.1 h1
   have:=vb'
   rw[hx,uV]at this
   simp[hx,this]
  have hq0:0≤val a/val b:=av9 na (by omega)
  have hq1:val a/val b≤val a:=awS _ na
  have hr0:=awe (val a) (show val b≠0 by omega)
  have hr1:=avJ (val a) hb
  have hal:=cj ca.1
  refine⟨dig (ah (val a).toNat).length (val a/val b),[val a%val b],⟨lU _ _,Lim.cons ⟨hr0,by omega⟩ Lim.nil,by rw[hZ];omega,by simp,gz _ _ hq0 (by omega),uV _⟩,go (Qc _ _ ⟨0,?_⟩)⟩
  unfold KB
  rw[au1 ha,au1 hb',h1,Aj,au2 (show 0<(ah (val b).toNat).length by omega),e0]
  dsimp only
  rw[au1 (show Gi (ah (val a).toNat) (val b) from⟨hla,by omega,by omega⟩),va']
  rfl
 have hlen:2≤(ah (val b).toNat).length:=by
  rcases avt (ah (val b).toNat).length 2 with h|h
  ·exfalso
   have:(ah (val b).toNat).length≠0:=fun e=>hb0 (awR e)
   omega
  ·exact h
 by_cases hlt:val a<val b
 ·refine⟨[],ah (val a).toNat,⟨Lim.nil,ca.1,by simp,by omega,?_,?_⟩,go (Qc _ _ ⟨0,?_⟩)⟩
  ·rw[awn na hlt];rfl
  ·rw[axb na hlt];exact va'
  ·unfold KB
   rw[au1 ha,au1 hb',show(((ah (val b).toNat).length:Int)==1)=false by simp;omega,au1 (show a9 (ah (val a).toNat)∧a9 (ah (val b).toNat) from⟨hla,hlb⟩),va',vb',cX hlt,au1 (show(ah (val a).toNat).length*4≤140737488355328∧(ah (val a).toNat).length≤140737488355328 by omega)]
   rfl
 ·obtain⟨m,hm⟩:∃m,(ah (val b).toNat).length=m+2:=⟨(ah (val b).toNat).length-2,by omega⟩
  have hxm:m+1<(ah (val b).toNat).length:=by omega
  have t1:=r8 cb (m:=m+1) hm
  have t2:=cb.1.get hxm
  generalize hx2:(ah (val b).toNat)[m+1]=x2 at t1 t2
  obtain⟨s1,s2,s3,s4⟩:=W7 t1 t2.2
  have esc:u32.wrap (u64.wrap (Int.tdiv 1000000000 (u64.wrap ((u64.wrap x2)+1))))=1000000000/(x2+1):=by
   rw[bO (x:=x2) (by omega) (by omega),bO (x:=x2+1) (by omega) (by omega),fN (by omega),bO (x:=1000000000/(x2+1)) (by omega) (by omega),cZ (x:=1000000000/(x2+1)) (by omega) (by omega)]
  generalize hsc:1000000000/(x2+1)=sc at s1 s2 s3 s4 esc
  have hsl:a9 [sc]:=⟨Lim.cons ⟨by omega,by omega⟩ Lim.nil,by simp⟩
  have hbl:=cj cb.1
  rw[vb',hm]at hbl
  have hP:=ck (m+1)
  have hbtop:=bj hxm
  rw[avB (by omega),vb',hx2]at hbtop
  have hbt0:=aZ (cb.1.take (m+1))
  have hbt1:=cj (cb.1.take (m+1))
  rw[avU,avG (by omega)]at hbt1
  have hVhi:val b*sc<pw (m+2):=by
   have e1:val b*sc<(pw (m+1)*(x2+1))*sc:=Int.mul_lt_mul_of_pos_right (by rw[axW,aw6];omega) (by omega)
   have e2:(pw (m+1)*(x2+1))*sc=pw (m+1)*((x2+1)*sc):=Int.mul_assoc _ _ _
   have e3:pw (m+1)*((x2+1)*sc)≤pw (m+1)*1000000000:=avg s3 (avH hP)
   rw[cr]
   omega
  have hVlo:pw (m+1)*500000000≤val b*sc:=by
   have e1:pw (m+1)*x2*sc≤val b*sc:=avl (by omega) (by omega)
   have e2:pw (m+1)*x2*sc=pw (m+1)*(x2*sc):=Int.mul_assoc _ _ _
   have e3:pw (m+1)*500000000≤pw (m+1)*(x2*sc):=avg s4 (avH hP)
   omega
  have hV0:0<val b*sc:=Int.mul_pos hb (by omega)
  have edv:val (dig (m+2+1) (val b*sc))=val b*sc:=gz _ _ (by omega) (by rw[cr];omega)
  obtain⟨v,hv⟩:∃v,ah (val b*sc).toNat=v:=⟨_,rfl⟩
  have cv:=dQ (val b*sc).toNat
  have vv:=bL (val b*sc).toNat
  rw[hv]at cv vv
  have hvv:val v=val b*sc:=by omega
  have hvl:v.length=m+2:=by
   have h1:v.length≤m+2:=by rw[←hv];exact da (by omega)
   have h2:m+1<v.length:=by rw[←hv];exact BW (by omega)
   omega
  have htop:500000000≤v[m+1]:=by
   rcases avA v[m+1] 500000000 with hc|hc
   ·exfalso
    have e1:=bj (l:=v) (n:=m+1) (by omega)
    rw[avB (by omega),hvv]at e1
    have e2:=cj (cv.1.take (m+1))
    rw[avU,avG (by omega)]at e2
    have e3:=avg (show v[m+1]≤499999999 by omega) (avH hP)
    omega
   ·exact hc
  have hal:=cj ca.1
  rw[va']at hal
  have hA0:0≤val a*sc:=av2 na (by omega)
  have hA1:val a*sc<pw ((ah (val a).toNat).length+1):=by
   have e1:val a*sc≤pw (ah (val a).toNat).length*sc:=avl (by omega) (by omega)
   have e2:pw (ah (val a).toNat).length*sc<pw (ah (val a).toNat).length*1000000000:=Int.mul_lt_mul_of_pos_left (by omega) (ck _)
   rw[cr]
   omega
  have lab:m+2≤(ah (val a).toNat).length:=by
   rw[←hm]
   rcases avt (ah (val a).toNat).length (ah (val b).toNat).length with hc|hc
   ·have:=vd hc;omega
   ·exact hc
  generalize hlA:(ah (val a).toNat).length=L at*
  have hdl:(dig (L+1) (val a*sc)++[0]).length=L+2:=by simp[hZ]
  have hdv:val (dig (L+1) (val a*sc)++[0])=val a*sc:=by rw[dt,gz _ _ hA0 hA1];simp[val]
  have hmul:=hvv
  obtain⟨q,r,⟨f1,f2,f3,f4,f5,f6⟩,n,hrun⟩:=Pe b x2 v m hm (by rw[esc,hm,vb',uV];simp only[avu];rw[edv];exact hv) cv.1 hvl sc esc s1 s2 htop (val a*sc) (L-m) (List.replicate (L-m) 0) (dig (L+1) (val a*sc)++[0])
   (Lim.rep _) ((lU _ _).append (Lim.cons (by decide) Lim.nil)) (by rw[hdl];simp;omega) (by rw[hdl];omega) (by simp) (by rw[fV,hdv];omega) (fun j hj _=>by simp) (by
    rw[hdv,hvv]
    have e1:pw (m+1)*500000000*pw (L-m)≤val b*sc*pw (L-m):=avl hVlo (avH (ck _))
    have e2:pw (m+1)*500000000*pw (L-m)=pw (L+1)*500000000:=by
     rw[show L+1=m+1+(L-m) by omega,ff (m+1) (L-m),Int.mul_right_comm]
    have:=ck (L+1)
    omega)
  have hq:val a*sc/(val b*sc)=val a/val b:=Int.mul_ediv_mul_of_pos_left _ _ (by omega)
  have hr:val a*sc%(val b*sc)/sc=val a%val b:=by
   rw[awE (val a),awE (val b),Int.mul_emod_mul_of_pos _ _ (by omega),awE]
   exact Int.mul_ediv_cancel _ (by omega)
  rw[hvv]at f5 f6
  rw[hq]at f5
  rw[hr]at f6
  refine⟨q,r,⟨f1,f2,by rw[f3];simp;omega,by omega,f5,f6⟩,go (Qc _ _ ⟨n,?_⟩)⟩
  unfold KB
  have e1:i64.wrap (((m+2:Nat):Int)-1)=((m+1:Nat):Int):=by rw[bi (by omega) (by omega)];omega
  have e2:i64.wrap (((L+2:Nat):Int)-((m+2:Nat):Int))=((L-m:Nat):Int):=by rw[bi (by omega) (by omega)];omega
  have e3:i64.wrap (((L-m:Nat):Int)-1)=((L-m:Nat):Int)-1:=bi (by omega) (by omega)
  rw[au1 ha,au1 hb',hm,show(((m+2:Nat):Int)==1)=false by simp;omega,au1 (show a9 (ah (val a).toNat)∧a9 (ah (val b).toNat) from⟨hla,hlb⟩),va',vb',show decide (ct (val a) (val b)<0)=false by
   rcases avA (val b) (val a)with hc|hc
   ·rw[cS hc];rfl
   ·rw[show val a=val b by omega,dG];rfl,e1,aD (ah (val b).toNat) (m+1),au2 hxm,hx2]
  dsimp only
  rw[esc,bO (x:=x2) (by omega) (by omega),bO (x:=x2+1) (by omega) (by omega),au3 (show ¬x2+1=0 by omega),au1 (show a9 (ah (val a).toNat)∧a9 [sc] from⟨hla,hsl⟩),au1 (show a9 (ah (val b).toNat)∧a9 [sc] from⟨hlb,hsl⟩),uV,hlA]
  rw[avu,avu,hdl,hZ (L+1)]
  rw[au1 (show(L+1+1)*4≤140737488355328∧L+1+1≤140737488355328 by omega),au1 (show a9 (dig (m+2+1) (val b*sc)) from iu (by omega) _),e2,qP (by omega),aS,e3]
  exact hrun
abbrev BI:=Bool×List Int
def okI(x:BI):Prop:=can x.2∧(x.1=true→x.2≠[])∧x.2.length≤1000000
instance (x:BI):Decidable (okI x):=by unfold okI;infer_instance
theorem bU(x:BI):ag x=cp x.1 (val x.2):=rfl
theorem gu{x:BI}(h:okI x):x=aj (ag x):=by
 obtain⟨h1,h2,h3⟩:=h
 have h0:=aZ h1.1
 rw[bU,kO _ h0,←nt h1]
 refine axe ?_ rfl
 show x.1=(x.1&&decide (0<val x.2))
 cases hx:x.1
 ·rfl
 ·rw[au1 (em h1 (h2 hx))];rfl
def szI(z:Int):Nat:=(ah z.natAbs).length
theorem bk{z:Int}(h:szI z≤1000000):okI (aj z):=by
 refine⟨dQ _,fun e=>?_,h⟩
 unfold aj at e ⊢
 simp only[awJ]at e
 intro e'
 rw[ge]at e'
 omega
theorem eL{z:Int}{k:Nat}(h1: -pw k<z)(h2:z<pw k):szI z≤k:=da (by omega)
theorem GI(z:Int): -pw (szI z)<z∧z<pw (szI z):=by
 have h:=cj (co z.natAbs)
 rw[bL]at h
 unfold szI
 omega
theorem me{z:Int}{k:Nat}(h:szI z≤k): -pw k<z∧z<pw k:=by
 have h1:=GI z
 have h2:=db h
 omega
theorem ik(z:Int):szI (-z)=szI z:=by unfold szI;rw[Int.natAbs_neg]
theorem uM{a b:Int}{k:Nat}(h1:szI a≤k)(h2:szI b≤k):szI (a+b)≤k+1:=by
 have e1:=me h1
 have e2:=me h2
 have hp:=ck k
 exact eL (by rw[cr];omega) (by rw[cr];omega)
theorem cU{a b:Int}{j k:Nat}(h1:szI a≤j)(h2:szI b≤k):szI (a*b)≤j+k:=by
 have e1:=me h1
 have e2:=me h2
 have h:(a*b).natAbs<(pw (j+k)).toNat:=by
  rw[axG,ff]
  have p1:=ck j
  have p2:=ck k
  have:(pw j*pw k).toNat=(pw j).toNat*(pw k).toNat:=Int.toNat_mul (by omega) (by omega)
  rw[this]
  exact Nat.mul_lt_mul'' (by omega) (by omega)
 have hp:=ck (j+k)
 exact eL (by omega) (by omega)
theorem dq{a b:Int}(h:a.natAbs≤b.natAbs):szI a≤szI b:=by
 have:=GI b
 exact eL (by omega) (by omega)
theorem gZ{x:BI}(h:okI x):szI (ag x)≤1000000:=by
 have:=gu h
 have h3:=h.2.2
 unfold szI
 rw[this]at h3
 exact h3
theorem fx{x:BI}(h:okI x):a9 x.2:=⟨h.1.1,by have:=h.2.2;omega⟩
theorem cJ{x:BI}(h:okI x):0≤val x.2∧(x.1=true→0<val x.2)∧(x.2=[]↔val x.2=0):=by
 refine⟨aZ h.1.1,fun e=>em h.1 (h.2.1 e),⟨fun e=>by rw[e];rfl,fun e=>?_⟩⟩
 rcases List.eq_nil_or_concat x.2 with h'|⟨l,y,h'⟩
 ·exact h'
 ·have:=em h.1 (by rw[h'];simp)
  omega
def nR:aO:=spN false false [ax8] (fun x=>decide (bg x.1)) (fun x=>[RV.d y2Y (aj x.1)])
theorem jv:SpK 160 nR:=spX fun x h=>Kt x.1 (au0 h)
def dvQ(a b:List Int):List Int:=if h:mQ a b then Classical.choose (CL a b h)else []
def dvR(a b:List Int):List Int:=if h:mQ a b then Classical.choose (awi (CL a b h))else []
theorem agO{a b:List Int}(h:mQ a b):aoX a b (dvQ a b) (dvR a b):=by
 unfold dvQ dvR
 rw[dif_pos h,dif_pos h]
 exact(awi (awi (CL a b h))).1
theorem aem(a b:List Int)(h:mQ a b):Con Tryz.prog 286 [.d ax7 a,.d ax7 b] [.d ax7 (dvQ a b),.d ax7 (dvR a b)]:=by
 unfold dvQ dvR
 rw[dif_pos h,dif_pos h]
 exact(awi (awi (CL a b h))).2
def GY:aO:=spN false false [ax7,ax7] (fun x=>decide (mQ x.1 x.2.1)) (fun x=>[RV.d ax7 (dvQ x.1 x.2.1),RV.d ax7 (dvR x.1 x.2.1)])
theorem DI:SpK 286 GY:=spX fun x h=>aem x.1 x.2.1 (au0 h)
def pp:Env:=[(226,xX),(227,B6),(263,H8),(264,I1),(248,IF),(247,Ii),(160,nR),(286,GY)]
theorem iV:EnvAll Tryz.prog pp:=⟨re,yf,Ge,FL,EM,EU,jv,DI,trivial⟩
def arY:Ctx:=CX pp []
def ahO(x y:Bool×List Int)(_k:KT):Option (List RV):=match !(x.1==y.1)with|true=>(match x.1 with|true=>some [RV.d ax8 (-1)]|false=>some [RV.d ax8 1])|false=>(match x.1 with|true=>(match decide (a9 y.2∧a9 x.2)with|true=>some [RV.d ax8 (ct (val y.2) (val x.2))]|false=>none)|false=>(match decide (a9 x.2∧a9 y.2)with|true=>some [RV.d ax8 (ct (val x.2) (val y.2))]|false=>none))
theorem aqc(x y:Bool×List Int):RS arY 183 [.d y2Y x,.d y2Y y] (ahO x y):=rsX
def apw:Ctx:=CX pp []
def ae0(x y:Bool×List Int)(_k:KT):Option (List RV):=match x.1==y.1 with|true=>(match decide (a9 x.2∧a9 y.2)with|true=>(match decide (a9 (dig (max x.2.length y.2.length+1) (val x.2+val y.2)))with|true=>some [RV.d y2Y (aj (cp x.1 (val (dig (max x.2.length y.2.length+1) (val x.2+val y.2)))))]|false=>none)|false=>none)|false=>(match decide (a9 x.2∧a9 y.2)with|true=>(match decide ((ct (val x.2) (val y.2))<0)with|true=>(match decide (lD y.2 x.2)with|true=>(match decide (a9 (dig y.2.length (val y.2-val x.2)))with|true=>some [RV.d y2Y (aj (cp y.1 (val (dig y.2.length (val y.2-val x.2)))))]|false=>none)|false=>none)|false=>(match decide (lD x.2 y.2)with|true=>(match decide (a9 (dig x.2.length (val x.2-val y.2)))with|true=>some [RV.d y2Y (aj (cp x.1 (val (dig x.2.length (val x.2-val y.2)))))]|false=>none)|false=>none))|false=>none)
theorem as9(x y:Bool×List Int):RS apw 222 [.d y2Y x,.d y2Y y] (ae0 x y):=rsX
def as3:Ctx:=CX pp []
def afC(x y:Bool×List Int)(_k:KT):Option (List RV):=match decide (a9 x.2∧a9 y.2)with|true=>(match decide (a9 (dig (x.2.length+y.2.length) (val x.2*val y.2)))with|true=>some [RV.d y2Y (aj (cp (!(x.1==y.1)) (val (dig (x.2.length+y.2.length) (val x.2*val y.2)))))]|false=>none)|false=>none
theorem aoL(x y:Bool×List Int):RS as3 184 [.d y2Y x,.d y2Y y] (afC x y):=rsX
def asD:Ctx:=CX pp []
def ahI(x:Bool×List Int)(_k:KT):Option (List RV):=match decide (x.2.length*4≤140737488355328∧x.2.length≤140737488355328)with|true=>(match decide (a9 x.2)with|true=>some [RV.d y2Y (aj (cp (!x.1) (val x.2)))]|false=>none)|false=>none
theorem aoZ(x:Bool×List Int):RS asD 254 [.d y2Y x] (ahI x):=rsX
def atc:Ctx:=CX pp []
def ahj(x:Bool×List Int)(_k:KT):Option (List RV):=match x.1 with|true=>some [RV.d ax8 (-1)]|false=>(match decide ((x.2.length:Int)>0)with|true=>some [RV.d ax8 1]|false=>some [RV.d ax8 0])
theorem aqJ(x:Bool×List Int):RS atc 168 [.d y2Y x] (ahj x):=rsX
theorem aaS(x:BI)(h:okI x):Con Tryz.prog 168 [.d y2Y x] [.d ax8 (ct (ag x) 0)]:=by
 refine aR iV (aqJ _ ⟨0,?_⟩)
 obtain⟨h0,h1,h2⟩:=cJ h
 unfold ahj
 rw[bU]
 unfold cp
 cases hx:x.1
 ·simp only[cond_false]
  rcases avA 0 (val x.2)with hc|hc
  ·have:x.2≠[]:=fun e=>by rw[h2]at e;omega
   have:=avO.2 this
   rw[au1 (by omega),cS hc]
  ·have e:x.2=[]:=h2.2 (by omega)
   rw[e]
   rfl
 ·simp only[cond_true]
  rw[cX (by have:=h1 hx;omega)]
theorem K4{a b:Int}(_ha:0≤a)(_hb:0≤b):ct (-a) (-b)=ct b a:=by
 rcases awV a b with h|h|h
 ·rw[cS (by omega),cS h]
 ·rw[h,dG,dG]
 ·rw[cX (by omega),cX h]
theorem JA(x y:BI)(h:okI x∧okI y):Con Tryz.prog 183 [.d y2Y x,.d y2Y y] [.d ax8 (ct (ag x) (ag y))]:=by
 refine aR iV (aqc _ _ ⟨0,?_⟩)
 obtain⟨hx,hy⟩:=h
 obtain⟨x0,x1,x2⟩:=cJ hx
 obtain⟨y0,y1,y2⟩:=cJ hy
 have lx:=fx hx
 have ly:=fx hy
 unfold ahO
 rw[bU,bU,au1 (show a9 x.2∧a9 y.2 from⟨lx,ly⟩),au1 (show a9 y.2∧a9 x.2 from⟨ly,lx⟩)]
 unfold cp
 cases ex:x.1<;>cases ey:y.1<;>simp only[cond_true,cond_false]
 ·rfl
 ·have:=y1 ey
  rw[cS (a:=val x.2) (b:= -val y.2) (by omega)]
  rfl
 ·have:=x1 ex
  rw[cX (a:= -val x.2) (b:=val y.2) (by omega)]
  rfl
 ·rw[K4 x0 y0]
  rfl
theorem Qj{a b:List Int}(ha:Lim a)(hb:Lim b):val (dig (max a.length b.length+1) (val a+val b))=val a+val b:=by
 have h1:=cj ha
 have h2:=cj hb
 have h3:=aZ ha
 have h4:=aZ hb
 have h5:=db (Nat.le_max_left a.length b.length)
 have h6:=db (Nat.le_max_right a.length b.length)
 have:=ck (max a.length b.length)
 exact gz _ _ (by omega) (by rw[cr];omega)
theorem yM{a b:List Int}(ha:Lim a)(hb:Lim b)(hle:val b≤val a):val (dig a.length (val a-val b))=val a-val b:=by
 have h1:=cj ha
 have h4:=aZ hb
 exact gz _ _ (by omega) (by omega)
theorem NP{a b:List Int}(ha:Lim a)(hb:Lim b):val (dig (a.length+b.length) (val a*val b))=val a*val b:=by
 have h1:=cj ha
 have h2:=cj hb
 have h3:=aZ ha
 have h4:=aZ hb
 refine gz _ _ (av2 h3 h4) ?_
 rw[ff]
 have e1:=avl (avH h1) h4
 have e2:=Int.mul_lt_mul_of_pos_left h2 (ck a.length)
 omega
theorem ZZ(x y:BI)(h:okI x∧okI y):Con Tryz.prog 222 [.d y2Y x,.d y2Y y] [.d y2Y (aj (ag x+ag y))]:=by
 refine aR iV (as9 _ _ ⟨0,?_⟩)
 obtain⟨hx,hy⟩:=h
 obtain⟨x0,x1,x2⟩:=cJ hx
 obtain⟨y0,y1,y2⟩:=cJ hy
 have lx:=fx hx
 have ly:=fx hy
 have sx:=hx.2.2
 have sy:=hy.2.2
 unfold ae0
 rw[bU,bU,au1 (show a9 x.2∧a9 y.2 from⟨lx,ly⟩),au1 (show a9 (dig (max x.2.length y.2.length+1) (val x.2+val y.2)) from iu (by omega) _),Qj lx.1 ly.1,au1 (show a9 (dig x.2.length (val x.2-val y.2)) from iu (by omega) _),au1 (show a9 (dig y.2.length (val y.2-val x.2)) from iu (by omega) _)]
 cases hs:x.1==y.1
 ·dsimp only
  rcases avA (val x.2) (val y.2)with hc|hc
  ·rw[cX hc,au1 (show(-1:Int)<0 by decide),au1 (show lD y.2 x.2 from⟨ly,lx,by omega⟩),yM ly.1 lx.1 (by omega)]
   dsimp only
   unfold cp
   cases ex:x.1<;>cases ey:y.1<;>simp_all<;>congr 2<;>omega
  ·have hcm:decide (ct (val x.2) (val y.2)<0)=false:=by
    rcases avA (val y.2) (val x.2)with h|h
    ·rw[cS h];rfl
    ·rw[show val x.2=val y.2 by omega,dG];rfl
   rw[hcm,au1 (show lD x.2 y.2 from⟨lx,ly,hc⟩),yM lx.1 ly.1 hc]
   dsimp only
   unfold cp
   cases ex:x.1<;>cases ey:y.1<;>simp_all<;>congr 2<;>omega
 ·dsimp only
  have e:=awf.1 hs
  rw[←e]
  unfold cp
  cases x.1
  ·rfl
  ·simp only[cond_true]
   rw[show-(val x.2+val y.2)= -val x.2+ -val y.2 by omega]
theorem KK(x:BI)(h:okI x):Con Tryz.prog 254 [.d y2Y x] [.d y2Y (aj (-ag x))]:=by
 refine aR iV (aoZ _ ⟨0,?_⟩)
 have sx:=h.2.2
 unfold ahI
 rw[bU,au1 (show x.2.length*4≤140737488355328∧x.2.length≤140737488355328 by omega),au1 (fx h)]
 unfold cp
 cases x.1<;>simp
theorem Lj(x y:BI)(h:okI x∧okI y):Con Tryz.prog 184 [.d y2Y x,.d y2Y y] [.d y2Y (aj (ag x*ag y))]:=by
 refine aR iV (aoL _ _ ⟨0,?_⟩)
 obtain⟨hx,hy⟩:=h
 have lx:=fx hx
 have ly:=fx hy
 have sx:=hx.2.2
 have sy:=hy.2.2
 unfold afC
 rw[bU,bU,au1 (show a9 x.2∧a9 y.2 from⟨lx,ly⟩),au1 (show a9 (dig (x.2.length+y.2.length) (val x.2*val y.2)) from iu (by omega) _),NP lx.1 ly.1]
 unfold cp
 cases x.1<;>cases y.1<;>simp[Int.neg_mul,axI]
def nF:aO:=spN false false [y2Y,y2Y] (fun x=>decide (okI x.1∧okI x.2.1)) (fun x=>[RV.d y2Y (aj (ag x.1+ag x.2.1))])
theorem jC:SpK 222 nF:=spX fun x h=>ZZ x.1 x.2.1 (au0 h)
def Ir:Env:=(222,nF)::pp
theorem yL:EnvAll Tryz.prog Ir:=⟨jC,iV⟩
def ar5:Ctx:=CX Ir []
def ahy(x y:Bool×List Int)(_k:KT):Option (List RV):=match !y.1 with|true=>(match decide (okI x∧okI (decide ((y.2.length:Int)>0),y.2))with|true=>some [RV.d y2Y (aj (ag x+ag (decide ((y.2.length:Int)>0),y.2)))]|false=>none)|false=>(match decide (okI x∧okI (false,y.2))with|true=>some [RV.d y2Y (aj (ag x+ag (false,y.2)))]|false=>none)
theorem ap8(x y:Bool×List Int):RS ar5 301 [.d y2Y x,.d y2Y y] (ahy x y):=rsX
theorem PO{y:BI}(h:okI y):okI (!y.1&&decide ((y.2.length:Int)>0),y.2)∧ag (!y.1&&decide ((y.2.length:Int)>0),y.2)= -ag y:=by
 obtain⟨y0,y1,y2⟩:=cJ h
 refine⟨⟨h.1,fun e=>?_,h.2.2⟩,?_⟩
 ·simp only[au8,awJ]at e
  intro e'
  have e2:=e.2
  have e'':y.2=[]:=e'
  rw[e'']at e2
  simp at e2
 ·rw[bU,bU]
  unfold cp
  dsimp only
  cases ey:y.1
  ·simp only[Bool.not_false,au5,cond_false]
   rcases avA 0 (val y.2)with hc|hc
   ·have:y.2≠[]:=fun e=>by rw[y2]at e;omega
    have:=avO.2 this
    rw[au1 (by omega)]
    rfl
   ·have e:y.2=[]:=y2.2 (by omega)
    rw[e]
    rfl
  ·simp
theorem acr(x y:BI)(h:okI x∧okI y):Con Tryz.prog 301 [.d y2Y x,.d y2Y y] [.d y2Y (aj (ag x-ag y))]:=by
 refine aR yL (ap8 _ _ ⟨0,?_⟩)
 obtain⟨hx,hy⟩:=h
 obtain⟨f1,f2⟩:=PO hy
 rw[Int.sub_eq_add_neg,←f2]
 unfold ahy
 cases ey:y.1
 ·rw[ey]at f1
  simp only[Bool.not_false,au5]at f1 ⊢
  rw[au1 ⟨hx,f1⟩]
 ·rw[ey]at f1
  simp only[Bool.not_true,Bool.false_and]at f1 ⊢
  rw[au1 ⟨hx,f1⟩]
def Yy:aO:=spN false false [y2Y,y2Y] (fun x=>decide (okI x.1∧okI x.2.1)) (fun x=>[RV.d y2Y (aj (ag x.1-ag x.2.1))])
theorem QB:SpK 301 Yy:=spX fun x h=>acr x.1 x.2.1 (au0 h)
def OZ:Env:=(301,Yy)::Ir
theorem NE:EnvAll Tryz.prog OZ:=⟨QB,yL⟩
def asv:Ctx:=CX OZ []
def ahu(x y:Bool×List Int)(_k:KT):Option (List RV):=let y1:=a9 (dvQ x.2 y.2);let y2:=a9 (dvR x.2 y.2);let y3:=aj (cp x.1 (val (dvR x.2 y.2)));let y4:=aj (cp (!(x.1==y.1)) (val (dvQ x.2 y.2)));let y5:Option (List RV):=match decide (((y3.2).length:Int)>0)with|true=>(match !((y3.1)==y.1)with|true=>(match decide (bg (1:Int))with|true=>(match decide (okI y4∧okI (aj (1:Int)))with|true=>(match decide (okI y3∧okI y)with|true=>dup (.b .l .l) (some [RV.d y2Y (aj (ag y4-ag (aj (1:Int)))),RV.d y2Y (aj (ag y3+ag y)),RV.d ax8 0])|false=>none)|false=>none)|false=>none)|false=>dup (.b .l .l) (some [RV.d y2Y y4,RV.d y2Y y3,RV.d ax8 0]))|false=>dup (.b .l .l) (some [RV.d y2Y y4,RV.d y2Y y3,RV.d ax8 0]);let y6:Option (List RV):=match decide y2 with|true=>y5|false=>none;match(y.2.length:Int)==0 with|true=>some [RV.d y2Y (false,[]),RV.d y2Y (false,[]),RV.d ax8 6]|false=>(match decide (mQ x.2 y.2)with|true=>cQ (match decide y1 with|true=>cQ (match decide y2 with|true=>dup (.b .l .l) y5|false=>none) (dup (.b (.b .l .l) (.b .l .l)) y6)|false=>none) (dup (.b .l .l) (cQ (match decide y1 with|true=>dup (.b .l .l) y6|false=>none) (match decide y1 with|true=>y6|false=>none)))|false=>none)
theorem anM(x y:Bool×List Int):RS asv 287 [.d y2Y x,.d y2Y y] (ahu x y):=rsX
end Go.Proofs.YtlahabkjhgkkjaaGreat
end
