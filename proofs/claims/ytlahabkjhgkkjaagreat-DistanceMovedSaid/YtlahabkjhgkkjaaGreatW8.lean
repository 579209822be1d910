/- integer: divide, the code. -/
import Derived.Test.YtlahabkjhgkkjaaGreatW7
noncomputable section
namespace Go.Proofs.YtlahabkjhgkkjaaGreat
open Go.RowKit Go.IntKind
theorem ara:type_of% @List.length_pos_iff:=@List.length_pos_iff
theorem arF:type_of% @Classical.choose_spec:=@Classical.choose_spec
theorem asf:type_of% @Int.ediv_le_self:=@Int.ediv_le_self
theorem asi:type_of% @beq_iff_eq:=@beq_iff_eq
theorem asx:type_of% @Int.mul_ediv_cancel_left:=@Int.mul_ediv_cancel_left
theorem asz:type_of% @decide_eq_true_eq:=@decide_eq_true_eq
theorem as4:type_of% @Int.natAbs_mul:=@Int.natAbs_mul
theorem ath:type_of% @Prod.ext:=@Prod.ext
theorem atp:type_of% @Int.mul_neg:=@Int.mul_neg
def Er:aM:=spN true false [atA,atA] (fun x=>decide (a9 x.1∧a9 x.2.1)) (fun x=>[RV.new 183 atC (dig (max x.1.length x.2.1.length+1) (val x.1+val x.2.1))])
theorem Cn:SpK 263 Er:=spX fun x h=>V4 x.1 x.2.1 (aqr h)
def Ey:aM:=spN true false [atA,atA] (fun x=>decide (kS x.1 x.2.1)) (fun x=>[RV.new 183 atC (dig x.1.length (val x.1-val x.2.1))])
theorem B4:SpK 264 Ey:=spX fun x h=>W8 x.1 x.2.1 (aqr h)
def Ft:aM:=spN true false [atA,atA] (fun x=>decide (a9 x.1∧a9 x.2.1)) (fun x=>[RV.new 183 atC (dig (x.1.length+x.2.1.length) (val x.1*val x.2.1))])
theorem AZ:SpK 248 Ft:=spX fun x h=>V1 x.1 x.2.1 (aqr h)
def MF:aM:=spN false false [atA,atC] (fun x=>decide (Bi x.1 x.2.1)) (fun x=>[RV.d atA (dig x.1.length (val x.1/x.2.1)),RV.d atA ([val x.1%x.2.1])])
theorem Q3:SpK 298 MF:=spX fun x h=>WK x.1 x.2.1 (aqr h)
def Ff:aM:=spN true false [atA,atA] (fun x=>decide (a9 x.1∧a9 x.2.1)) (fun x=>[RV.d atB (ce (val x.1) (val x.2.1))])
theorem Df:SpK 247 Ff:=spX fun x h=>ZU x.1 x.2.1 (aqr h)
def QN:Env:=[(278,Ek),(263,Er),(264,Ey),(248,Ft),(298,MF),(247,Ff)]
theorem JN:EnvAll Tryz.prog QN:=⟨Dx,Cn,B4,AZ,Q3,Df,trivial⟩
def ad8:NT:=[((286,34),{keep:=[6,7,8,9,10,11],hl:=6}),((286,49),{keep:=[6,7,8,9,10,11,13,14],hl:=6}),((299,8),{keep:=[0,1,2,7,8,14,15],hl:=6}),((300,5),{keep:=[0,1,4,8,9],hl:=6}),((286,68),{keep:=[6,7,8,9,10,11,13,151],hl:=0}),((286,72),{keep:=[6,7,8,9,10,11,13],hl:=0})]
def fj:Ctx:=CX QN ad8
def mI(b:List Int)(x2 s11:Int)(r5 r1:List Int):Cfg:=⟨286,[.blk 0,.seq 76],[(6,SI ((ah (val b).toNat).length:Int)),(7,.d atC (u32.wrap (u64.wrap (Int.tdiv 1000000000 (u64.wrap ((u64.wrap x2)+1)))))),(8,.own 1),(9,.d atA (ah (val (dig ((ah (val b).toNat).length+([u32.wrap (u64.wrap (Int.tdiv 1000000000 (u64.wrap ((u64.wrap x2)+1))))]).length) (val (ah (val b).toNat)*val ([u32.wrap (u64.wrap (Int.tdiv 1000000000 (u64.wrap ((u64.wrap x2)+1))))])))).toNat)),(10,.own 5),(11,SI s11)],[.row 183 atC ([u32.wrap (u64.wrap (Int.tdiv 1000000000 (u64.wrap ((u64.wrap x2)+1))))]),.row 183 atC r1,.row 183 atC ([0]),.row 183 atC ([u32.wrap (u64.wrap (Int.tdiv 1000000000 (u64.wrap ((u64.wrap x2)+1))))]),.gone,.row 183 atC r5],0,[]⟩
def kO(b:List Int)(x2 s11:Int)(r1 r5:List Int)(s13 s14:Int):Cfg:=⟨286,[.blk 2,.seq 66,.blk 1,.seq 75,.lp 34,.blk 0,.seq 76],[(6,SI ((ah (val b).toNat).length:Int)),(7,.d atC (u32.wrap (u64.wrap (Int.tdiv 1000000000 (u64.wrap ((u64.wrap x2)+1)))))),(8,.own 1),(9,.d atA (ah (val (dig ((ah (val b).toNat).length+([u32.wrap (u64.wrap (Int.tdiv 1000000000 (u64.wrap ((u64.wrap x2)+1))))]).length) (val (ah (val b).toNat)*val ([u32.wrap (u64.wrap (Int.tdiv 1000000000 (u64.wrap ((u64.wrap x2)+1))))])))).toNat)),(10,.own 5),(11,SI s11),(13,.d (.int .u64) s13),(14,.d (.int .u64) s14)],[.row 183 atC ([u32.wrap (u64.wrap (Int.tdiv 1000000000 (u64.wrap ((u64.wrap x2)+1))))]),.row 183 atC r1,.row 183 atC ([0]),.row 183 atC ([u32.wrap (u64.wrap (Int.tdiv 1000000000 (u64.wrap ((u64.wrap x2)+1))))]),.gone,.row 183 atC r5],0,[]⟩
def cL(b:List Int)(x2 s11:Int)(r5:List Int)(s299_2 f299_0_13 s299_7 s299_8 s299_15:Int)(r299_1:List Int):Cfg:=⟨299,[.blk 0,.seq 43],[(0,.osl 1 1 ((s11:Int).toNat) ((i64.wrap ((i64.wrap (s11+((ah (val b).toNat).length:Int)))+1):Int).toNat-(s11:Int).toNat)),(1,.d atA (ah (val (dig ((ah (val b).toNat).length+([u32.wrap (u64.wrap (Int.tdiv 1000000000 (u64.wrap ((u64.wrap x2)+1))))]).length) (val (ah (val b).toNat)*val ([u32.wrap (u64.wrap (Int.tdiv 1000000000 (u64.wrap ((u64.wrap x2)+1))))])))).toNat)),(2,.d (.int .u64) s299_2),(7,.d (.int .u64) s299_7),(8,.d (.int .u64) s299_8),(14,SI (((i64.wrap ((i64.wrap (s11+((ah (val b).toNat).length:Int)))+1):Int).toNat-(s11:Int).toNat:Nat):Int)),(15,SI s299_15)],[.row 183 atC ([u32.wrap (u64.wrap (Int.tdiv 1000000000 (u64.wrap ((u64.wrap x2)+1))))]),.row 183 atC r299_1,.row 183 atC ([0]),.row 183 atC ([u32.wrap (u64.wrap (Int.tdiv 1000000000 (u64.wrap ((u64.wrap x2)+1))))]),.gone,.row 183 atC r5],6,[⟨286,[.seq 69,.seq 74,.blk 1,.seq 75,.lp 34,.blk 0,.seq 76],68,9,[(6,SI ((ah (val b).toNat).length:Int)),(7,.d atC (u32.wrap (u64.wrap (Int.tdiv 1000000000 (u64.wrap ((u64.wrap x2)+1)))))),(8,.own 1),(9,.d atA (ah (val (dig ((ah (val b).toNat).length+([u32.wrap (u64.wrap (Int.tdiv 1000000000 (u64.wrap ((u64.wrap x2)+1))))]).length) (val (ah (val b).toNat)*val ([u32.wrap (u64.wrap (Int.tdiv 1000000000 (u64.wrap ((u64.wrap x2)+1))))])))).toNat)),(10,.own 5),(11,SI s11),(13,.d (.int .u64) f299_0_13)],0,none⟩]⟩
def cY(b:List Int)(x2 s11:Int)(r5:List Int)(f299_0_13 s300_4 s300_9:Int)(r300_1:List Int):Cfg:=⟨300,[.blk 0],[(0,.osl 1 1 ((s11:Int).toNat) ((i64.wrap ((i64.wrap (s11+((ah (val b).toNat).length:Int)))+1):Int).toNat-(s11:Int).toNat)),(1,.d atA (ah (val (dig ((ah (val b).toNat).length+([u32.wrap (u64.wrap (Int.tdiv 1000000000 (u64.wrap ((u64.wrap x2)+1))))]).length) (val (ah (val b).toNat)*val ([u32.wrap (u64.wrap (Int.tdiv 1000000000 (u64.wrap ((u64.wrap x2)+1))))])))).toNat)),(4,.d atC s300_4),(8,SI (((i64.wrap ((i64.wrap (s11+((ah (val b).toNat).length:Int)))+1):Int).toNat-(s11:Int).toNat:Nat):Int)),(9,SI s300_9)],[.row 183 atC ([u32.wrap (u64.wrap (Int.tdiv 1000000000 (u64.wrap ((u64.wrap x2)+1))))]),.row 183 atC r300_1,.row 183 atC ([0]),.row 183 atC ([u32.wrap (u64.wrap (Int.tdiv 1000000000 (u64.wrap ((u64.wrap x2)+1))))]),.gone,.row 183 atC r5],6,[⟨286,[.seq 74,.blk 1,.seq 75,.lp 34,.blk 0,.seq 76],72,8,[(6,SI ((ah (val b).toNat).length:Int)),(7,.d atC (u32.wrap (u64.wrap (Int.tdiv 1000000000 (u64.wrap ((u64.wrap x2)+1)))))),(8,.own 1),(9,.d atA (ah (val (dig ((ah (val b).toNat).length+([u32.wrap (u64.wrap (Int.tdiv 1000000000 (u64.wrap ((u64.wrap x2)+1))))]).length) (val (ah (val b).toNat)*val ([u32.wrap (u64.wrap (Int.tdiv 1000000000 (u64.wrap ((u64.wrap x2)+1))))])))).toNat)),(10,.own 5),(11,SI s11),(13,.d (.int .u64) (u64.wrap (f299_0_13-1)))],0,none⟩]⟩
def He(a b:List Int)(k:KT):Option (List RV):=match decide (a9 a)with|true=>(match decide (a9 b)with|true=>(match((ah (val b).toNat).length:Int)==1 with|true=>(match bu (ah (val b).toNat) 0 with|some x1=>(match decide (Bi (ah (val a).toNat) x1)with|true=>some [RV.d atA (dig (ah (val a).toNat).length (val (ah (val a).toNat)/x1)),RV.d atA ([val (ah (val a).toNat)%x1])]|false=>none)|none=>none)|false=>(match decide (a9 (ah (val a).toNat)∧a9 (ah (val b).toNat))with|true=>(match decide ((ce (val (ah (val a).toNat)) (val (ah (val b).toNat)))<0)with|true=>(match decide ((ah (val a).toNat).length*4≤140737488355328∧(ah (val a).toNat).length≤140737488355328)with|true=>some [RV.d atA ([]),RV.d atA (ah (val a).toNat)]|false=>none)|false=>(match bu (ah (val b).toNat) (i64.wrap (((ah (val b).toNat).length:Int)-1))with|some x2=>(match decide (u64.wrap ((u64.wrap x2)+1)=(0:Int))with|true=>none|false=>(match decide (a9 (ah (val a).toNat)∧a9 ([u32.wrap (u64.wrap (Int.tdiv 1000000000 (u64.wrap ((u64.wrap x2)+1))))]))with|true=>(match decide (((dig ((ah (val a).toNat).length+([u32.wrap (u64.wrap (Int.tdiv 1000000000 (u64.wrap ((u64.wrap x2)+1))))]).length) (val (ah (val a).toNat)*val ([u32.wrap (u64.wrap (Int.tdiv 1000000000 (u64.wrap ((u64.wrap x2)+1))))]))).length+([0]).length)*4≤140737488355328∧(dig ((ah (val a).toNat).length+([u32.wrap (u64.wrap (Int.tdiv 1000000000 (u64.wrap ((u64.wrap x2)+1))))]).length) (val (ah (val a).toNat)*val ([u32.wrap (u64.wrap (Int.tdiv 1000000000 (u64.wrap ((u64.wrap x2)+1))))]))).length+([0]).length≤140737488355328)with|true=>(match decide (a9 (ah (val b).toNat)∧a9 ([u32.wrap (u64.wrap (Int.tdiv 1000000000 (u64.wrap ((u64.wrap x2)+1))))]))with|true=>(match decide (a9 (dig ((ah (val b).toNat).length+([u32.wrap (u64.wrap (Int.tdiv 1000000000 (u64.wrap ((u64.wrap x2)+1))))]).length) (val (ah (val b).toNat)*val ([u32.wrap (u64.wrap (Int.tdiv 1000000000 (u64.wrap ((u64.wrap x2)+1))))]))))with|true=>(match decide ((0:Int)≤i64.wrap ((((dig ((ah (val a).toNat).length+([u32.wrap (u64.wrap (Int.tdiv 1000000000 (u64.wrap ((u64.wrap x2)+1))))]).length) (val (ah (val a).toNat)*val ([u32.wrap (u64.wrap (Int.tdiv 1000000000 (u64.wrap ((u64.wrap x2)+1))))])))++([0])).length:Int)-((ah (val b).toNat).length:Int))∧(i64.wrap ((((dig ((ah (val a).toNat).length+([u32.wrap (u64.wrap (Int.tdiv 1000000000 (u64.wrap ((u64.wrap x2)+1))))]).length) (val (ah (val a).toNat)*val ([u32.wrap (u64.wrap (Int.tdiv 1000000000 (u64.wrap ((u64.wrap x2)+1))))])))++([0])).length:Int)-((ah (val b).toNat).length:Int)))*((4:Nat):Int)≤140737488355328∧i64.wrap ((((dig ((ah (val a).toNat).length+([u32.wrap (u64.wrap (Int.tdiv 1000000000 (u64.wrap ((u64.wrap x2)+1))))]).length) (val (ah (val a).toNat)*val ([u32.wrap (u64.wrap (Int.tdiv 1000000000 (u64.wrap ((u64.wrap x2)+1))))])))++([0])).length:Int)-((ah (val b).toNat).length:Int))≤140737488355328)with|true=>k 34 (mI b x2 (i64.wrap ((i64.wrap ((((dig ((ah (val a).toNat).length+([u32.wrap (u64.wrap (Int.tdiv 1000000000 (u64.wrap ((u64.wrap x2)+1))))]).length) (val (ah (val a).toNat)*val ([u32.wrap (u64.wrap (Int.tdiv 1000000000 (u64.wrap ((u64.wrap x2)+1))))])))++([0])).length:Int)-((ah (val b).toNat).length:Int)))-1)) (List.replicate (i64.wrap ((((dig ((ah (val a).toNat).length+([u32.wrap (u64.wrap (Int.tdiv 1000000000 (u64.wrap ((u64.wrap x2)+1))))]).length) (val (ah (val a).toNat)*val ([u32.wrap (u64.wrap (Int.tdiv 1000000000 (u64.wrap ((u64.wrap x2)+1))))])))++([0])).length:Int)-((ah (val b).toNat).length:Int))).toNat (0:Int)) ((dig ((ah (val a).toNat).length+([u32.wrap (u64.wrap (Int.tdiv 1000000000 (u64.wrap ((u64.wrap x2)+1))))]).length) (val (ah (val a).toNat)*val ([u32.wrap (u64.wrap (Int.tdiv 1000000000 (u64.wrap ((u64.wrap x2)+1))))])))++([0])))|false=>none)|false=>none)|false=>none)|false=>none)|false=>none))|none=>none))|false=>none))|false=>none)|false=>none
theorem Ud(a b:List Int):RS fj 286 [.d atA a,.d atA b] (He a b):=rsX
def qT(b:List Int)(x2 s11:Int)(r5 r1:List Int)(k:KT):Option (List RV):=match decide (s11≥0)with|true=>(match bu r1 (i64.wrap (s11+((ah (val b).toNat).length:Int)))with|some _=>(match true,r1[(i64.wrap (s11+((ah (val b).toNat).length:Int))).toNat]? with|true,some x3=>(match bu r1 (i64.wrap ((i64.wrap (s11+((ah (val b).toNat).length:Int)))-1))with|some _=>(match true,r1[(i64.wrap ((i64.wrap (s11+((ah (val b).toNat).length:Int)))-1)).toNat]? with|true,some x4=>(match bu (ah (val (dig ((ah (val b).toNat).length+([u32.wrap (u64.wrap (Int.tdiv 1000000000 (u64.wrap ((u64.wrap x2)+1))))]).length) (val (ah (val b).toNat)*val ([u32.wrap (u64.wrap (Int.tdiv 1000000000 (u64.wrap ((u64.wrap x2)+1))))])))).toNat) (i64.wrap (((ah (val b).toNat).length:Int)-1))with|some x5=>(match decide (u64.wrap x5=(0:Int))with|true=>none|false=>(match bu (ah (val (dig ((ah (val b).toNat).length+([u32.wrap (u64.wrap (Int.tdiv 1000000000 (u64.wrap ((u64.wrap x2)+1))))]).length) (val (ah (val b).toNat)*val ([u32.wrap (u64.wrap (Int.tdiv 1000000000 (u64.wrap ((u64.wrap x2)+1))))])))).toNat) (i64.wrap (((ah (val b).toNat).length:Int)-1))with|some x6=>(match decide (u64.wrap x6=(0:Int))with|true=>none|false=>k 49 (kO b x2 s11 r1 r5 (u64.wrap (Int.tdiv (u64.wrap ((u64.wrap ((u64.wrap x3)*1000000000))+(u64.wrap x4))) (u64.wrap x5))) (Int.tmod (u64.wrap ((u64.wrap ((u64.wrap x3)*1000000000))+(u64.wrap x4))) (u64.wrap x6))))|none=>none))|none=>none)|_,_=>none)|none=>none)|_,_=>none)|none=>none)|false=>(match decide ((0:Int)≤0∧0≤((ah (val b).toNat).length:Int)∧((ah (val b).toNat).length:Int)≤(r1.length:Int))with|true=>(match decide (a9 ((r1.drop ((0:Int).toNat)).take ((((ah (val b).toNat).length:Int):Int).toNat-(0:Int).toNat)))with|true=>(match decide (Bi (ah (val ((r1.drop ((0:Int).toNat)).take ((((ah (val b).toNat).length:Int):Int).toNat-(0:Int).toNat))).toNat) (u32.wrap (u64.wrap (Int.tdiv 1000000000 (u64.wrap ((u64.wrap x2)+1))))))with|true=>some [RV.d atA r5,RV.d atA (dig (ah (val ((r1.drop ((0:Int).toNat)).take ((((ah (val b).toNat).length:Int):Int).toNat-(0:Int).toNat))).toNat).length (val (ah (val ((r1.drop ((0:Int).toNat)).take ((((ah (val b).toNat).length:Int):Int).toNat-(0:Int).toNat))).toNat)/(u32.wrap (u64.wrap (Int.tdiv 1000000000 (u64.wrap ((u64.wrap x2)+1)))))))]|false=>none)|false=>none)|false=>none)
theorem wx(b:List Int)(x2 s11:Int)(r5 r1:List Int):RN fj 34 (mI b x2 s11 r5 r1) (qT b x2 s11 r5 r1):=rnX
def jE(b:List Int)(x2 s11:Int)(r1 r5:List Int)(s13 s14:Int)(k:KT):Option (List RV):=match decide (s13≥1000000000)with|true=>(match bu (ah (val (dig ((ah (val b).toNat).length+([u32.wrap (u64.wrap (Int.tdiv 1000000000 (u64.wrap ((u64.wrap x2)+1))))]).length) (val (ah (val b).toNat)*val ([u32.wrap (u64.wrap (Int.tdiv 1000000000 (u64.wrap ((u64.wrap x2)+1))))])))).toNat) (i64.wrap (((ah (val b).toNat).length:Int)-1))with|some x7=>(match decide ((u64.wrap (s14+(u64.wrap x7)))≥1000000000)with|true=>(match decide ((0:Int)≤s11∧s11≤i64.wrap ((i64.wrap (s11+((ah (val b).toNat).length:Int)))+1)∧i64.wrap ((i64.wrap (s11+((ah (val b).toNat).length:Int)))+1)≤(r1.length:Int))with|true=>k 8 (cL b x2 s11 r5 (u64.wrap (s13-1)) (u64.wrap (s13-1)) 0 0 0 r1)|false=>none)|false=>k 49 (kO b x2 s11 r1 r5 (u64.wrap (s13-1)) (u64.wrap (s14+(u64.wrap x7)))))|none=>none)|false=>(match bu (ah (val (dig ((ah (val b).toNat).length+([u32.wrap (u64.wrap (Int.tdiv 1000000000 (u64.wrap ((u64.wrap x2)+1))))]).length) (val (ah (val b).toNat)*val ([u32.wrap (u64.wrap (Int.tdiv 1000000000 (u64.wrap ((u64.wrap x2)+1))))])))).toNat) (i64.wrap (((ah (val b).toNat).length:Int)-2))with|some x8=>(match bu r1 (i64.wrap ((i64.wrap (s11+((ah (val b).toNat).length:Int)))-2))with|some _=>(match true,r1[(i64.wrap ((i64.wrap (s11+((ah (val b).toNat).length:Int)))-2)).toNat]? with|true,some x9=>(match decide ((u64.wrap (s13*(u64.wrap x8)))>(u64.wrap ((u64.wrap (s14*1000000000))+(u64.wrap x9))))with|true=>(match bu (ah (val (dig ((ah (val b).toNat).length+([u32.wrap (u64.wrap (Int.tdiv 1000000000 (u64.wrap ((u64.wrap x2)+1))))]).length) (val (ah (val b).toNat)*val ([u32.wrap (u64.wrap (Int.tdiv 1000000000 (u64.wrap ((u64.wrap x2)+1))))])))).toNat) (i64.wrap (((ah (val b).toNat).length:Int)-1))with|some x10=>(match decide ((u64.wrap (s14+(u64.wrap x10)))≥1000000000)with|true=>(match decide ((0:Int)≤s11∧s11≤i64.wrap ((i64.wrap (s11+((ah (val b).toNat).length:Int)))+1)∧i64.wrap ((i64.wrap (s11+((ah (val b).toNat).length:Int)))+1)≤(r1.length:Int))with|true=>k 8 (cL b x2 s11 r5 (u64.wrap (s13-1)) (u64.wrap (s13-1)) 0 0 0 r1)|false=>none)|false=>k 49 (kO b x2 s11 r1 r5 (u64.wrap (s13-1)) (u64.wrap (s14+(u64.wrap x10)))))|none=>none)|false=>(match decide ((0:Int)≤s11∧s11≤i64.wrap ((i64.wrap (s11+((ah (val b).toNat).length:Int)))+1)∧i64.wrap ((i64.wrap (s11+((ah (val b).toNat).length:Int)))+1)≤(r1.length:Int))with|true=>k 8 (cL b x2 s11 r5 s13 s13 0 0 0 r1)|false=>none))|_,_=>none)|none=>none)|none=>none)
theorem mD(b:List Int)(x2 s11:Int)(r1 r5:List Int)(s13 s14:Int):RN fj 49 (kO b x2 s11 r1 r5 s13 s14) (jE b x2 s11 r1 r5 s13 s14):=rnX
def cN(b:List Int)(x2 s11:Int)(r5:List Int)(s299_2 f299_0_13 s299_7 s299_8 s299_15:Int)(r299_1:List Int)(k:KT):Option (List RV):=match decide (s299_15<(((i64.wrap ((i64.wrap (s11+((ah (val b).toNat).length:Int)))+1):Int).toNat-(s11:Int).toNat:Nat):Int))with|true=>(match decide (s299_15<((ah (val (dig ((ah (val b).toNat).length+([u32.wrap (u64.wrap (Int.tdiv 1000000000 (u64.wrap ((u64.wrap x2)+1))))]).length) (val (ah (val b).toNat)*val ([u32.wrap (u64.wrap (Int.tdiv 1000000000 (u64.wrap ((u64.wrap x2)+1))))])))).toNat).length:Int))with|true=>(match bu (ah (val (dig ((ah (val b).toNat).length+([u32.wrap (u64.wrap (Int.tdiv 1000000000 (u64.wrap ((u64.wrap x2)+1))))]).length) (val (ah (val b).toNat)*val ([u32.wrap (u64.wrap (Int.tdiv 1000000000 (u64.wrap ((u64.wrap x2)+1))))])))).toNat) s299_15 with|some x11=>(match true,decide ((0:Int)≤s299_15∧s299_15<(((i64.wrap ((i64.wrap (s11+((ah (val b).toNat).length:Int)))+1):Int).toNat-(s11:Int).toNat:Nat):Int))with|true,true=>(match true,r299_1[(s11:Int).toNat+(s299_15).toNat]? with|true,some x12=>(match decide ((u64.wrap x12)<(u64.wrap ((Int.tmod (u64.wrap (s299_7+(u64.wrap ((u64.wrap x11)*s299_2)))) 1000000000)+s299_8)))with|true=>(match true,decide ((0:Int)≤s299_15∧s299_15<(((i64.wrap ((i64.wrap (s11+((ah (val b).toNat).length:Int)))+1):Int).toNat-(s11:Int).toNat:Nat):Int))with|true,true=>(match true,r299_1[(s11:Int).toNat+(s299_15).toNat]? with|true,some _=>k 8 (cL b x2 s11 r5 s299_2 f299_0_13 (u64.wrap (Int.tdiv (u64.wrap (s299_7+(u64.wrap ((u64.wrap x11)*s299_2)))) 1000000000)) 1 (i64.wrap (s299_15+1)) (r299_1.set ((s11:Int).toNat+(s299_15).toNat) (u32.wrap (u64.wrap ((u64.wrap ((u64.wrap x12)+1000000000))-(u64.wrap ((Int.tmod (u64.wrap (s299_7+(u64.wrap ((u64.wrap x11)*s299_2)))) 1000000000)+s299_8)))))))|_,_=>none)|_,_=>none)|false=>(match true,decide ((0:Int)≤s299_15∧s299_15<(((i64.wrap ((i64.wrap (s11+((ah (val b).toNat).length:Int)))+1):Int).toNat-(s11:Int).toNat:Nat):Int))with|true,true=>(match true,r299_1[(s11:Int).toNat+(s299_15).toNat]? with|true,some _=>k 8 (cL b x2 s11 r5 s299_2 f299_0_13 (u64.wrap (Int.tdiv (u64.wrap (s299_7+(u64.wrap ((u64.wrap x11)*s299_2)))) 1000000000)) 0 (i64.wrap (s299_15+1)) (r299_1.set ((s11:Int).toNat+(s299_15).toNat) (u32.wrap (u64.wrap ((u64.wrap x12)-(u64.wrap ((Int.tmod (u64.wrap (s299_7+(u64.wrap ((u64.wrap x11)*s299_2)))) 1000000000)+s299_8)))))))|_,_=>none)|_,_=>none))|_,_=>none)|_,_=>none)|none=>none)|false=>(match true,decide ((0:Int)≤s299_15∧s299_15<(((i64.wrap ((i64.wrap (s11+((ah (val b).toNat).length:Int)))+1):Int).toNat-(s11:Int).toNat:Nat):Int))with|true,true=>(match true,r299_1[(s11:Int).toNat+(s299_15).toNat]? with|true,some x15=>(match decide ((u64.wrap x15)<(u64.wrap ((Int.tmod s299_7 1000000000)+s299_8)))with|true=>(match true,decide ((0:Int)≤s299_15∧s299_15<(((i64.wrap ((i64.wrap (s11+((ah (val b).toNat).length:Int)))+1):Int).toNat-(s11:Int).toNat:Nat):Int))with|true,true=>(match true,r299_1[(s11:Int).toNat+(s299_15).toNat]? with|true,some _=>k 8 (cL b x2 s11 r5 s299_2 f299_0_13 (u64.wrap (Int.tdiv s299_7 1000000000)) 1 (i64.wrap (s299_15+1)) (r299_1.set ((s11:Int).toNat+(s299_15).toNat) (u32.wrap (u64.wrap ((u64.wrap ((u64.wrap x15)+1000000000))-(u64.wrap ((Int.tmod s299_7 1000000000)+s299_8)))))))|_,_=>none)|_,_=>none)|false=>(match true,decide ((0:Int)≤s299_15∧s299_15<(((i64.wrap ((i64.wrap (s11+((ah (val b).toNat).length:Int)))+1):Int).toNat-(s11:Int).toNat:Nat):Int))with|true,true=>(match true,r299_1[(s11:Int).toNat+(s299_15).toNat]? with|true,some _=>k 8 (cL b x2 s11 r5 s299_2 f299_0_13 (u64.wrap (Int.tdiv s299_7 1000000000)) 0 (i64.wrap (s299_15+1)) (r299_1.set ((s11:Int).toNat+(s299_15).toNat) (u32.wrap (u64.wrap ((u64.wrap x15)-(u64.wrap ((Int.tmod s299_7 1000000000)+s299_8)))))))|_,_=>none)|_,_=>none))|_,_=>none)|_,_=>none))|false=>(match decide (s299_8>0)with|true=>(match decide ((0:Int)≤s11∧s11≤i64.wrap ((i64.wrap (s11+((ah (val b).toNat).length:Int)))+1)∧i64.wrap ((i64.wrap (s11+((ah (val b).toNat).length:Int)))+1)≤(r299_1.length:Int))with|true=>k 5 (cY b x2 s11 r5 f299_0_13 0 0 r299_1)|false=>none)|false=>(match decide (s299_7>0)with|true=>(match decide ((0:Int)≤s11∧s11≤i64.wrap ((i64.wrap (s11+((ah (val b).toNat).length:Int)))+1)∧i64.wrap ((i64.wrap (s11+((ah (val b).toNat).length:Int)))+1)≤(r299_1.length:Int))with|true=>k 5 (cY b x2 s11 r5 f299_0_13 0 0 r299_1)|false=>none)|false=>(match bu r5 s11 with|some _=>(match true,r5[(s11).toNat]? with|true,some _=>k 34 (mI b x2 (i64.wrap (s11-1)) (r5.set ((s11).toNat) (u32.wrap f299_0_13)) r299_1)|_,_=>none)|none=>none)))
theorem eE(b:List Int)(x2 s11:Int)(r5:List Int)(s299_2 f299_0_13 s299_7 s299_8 s299_15:Int)(r299_1:List Int):RN fj 8 (cL b x2 s11 r5 s299_2 f299_0_13 s299_7 s299_8 s299_15 r299_1) (cN b x2 s11 r5 s299_2 f299_0_13 s299_7 s299_8 s299_15 r299_1):=rnX
def dv(b:List Int)(x2 s11:Int)(r5:List Int)(f299_0_13 s300_4 s300_9:Int)(r300_1:List Int)(k:KT):Option (List RV):=match decide (s300_9<(((i64.wrap ((i64.wrap (s11+((ah (val b).toNat).length:Int)))+1):Int).toNat-(s11:Int).toNat:Nat):Int))with|true=>(match true,decide ((0:Int)≤s300_9∧s300_9<(((i64.wrap ((i64.wrap (s11+((ah (val b).toNat).length:Int)))+1):Int).toNat-(s11:Int).toNat:Nat):Int))with|true,true=>(match true,r300_1[(s11:Int).toNat+(s300_9).toNat]? with|true,some x19=>(match decide (s300_9<((ah (val (dig ((ah (val b).toNat).length+([u32.wrap (u64.wrap (Int.tdiv 1000000000 (u64.wrap ((u64.wrap x2)+1))))]).length) (val (ah (val b).toNat)*val ([u32.wrap (u64.wrap (Int.tdiv 1000000000 (u64.wrap ((u64.wrap x2)+1))))])))).toNat).length:Int))with|true=>(match bu (ah (val (dig ((ah (val b).toNat).length+([u32.wrap (u64.wrap (Int.tdiv 1000000000 (u64.wrap ((u64.wrap x2)+1))))]).length) (val (ah (val b).toNat)*val ([u32.wrap (u64.wrap (Int.tdiv 1000000000 (u64.wrap ((u64.wrap x2)+1))))])))).toNat) s300_9 with|some x20=>(match decide ((u32.wrap ((u32.wrap (x19+s300_4))+x20))≥1000000000)with|true=>(match true,decide ((0:Int)≤s300_9∧s300_9<(((i64.wrap ((i64.wrap (s11+((ah (val b).toNat).length:Int)))+1):Int).toNat-(s11:Int).toNat:Nat):Int))with|true,true=>(match true,r300_1[(s11:Int).toNat+(s300_9).toNat]? with|true,some _=>k 5 (cY b x2 s11 r5 f299_0_13 1 (i64.wrap (s300_9+1)) (r300_1.set ((s11:Int).toNat+(s300_9).toNat) (u32.wrap ((u32.wrap ((u32.wrap (x19+s300_4))+x20))-1000000000))))|_,_=>none)|_,_=>none)|false=>(match true,decide ((0:Int)≤s300_9∧s300_9<(((i64.wrap ((i64.wrap (s11+((ah (val b).toNat).length:Int)))+1):Int).toNat-(s11:Int).toNat:Nat):Int))with|true,true=>(match true,r300_1[(s11:Int).toNat+(s300_9).toNat]? with|true,some _=>k 5 (cY b x2 s11 r5 f299_0_13 0 (i64.wrap (s300_9+1)) (r300_1.set ((s11:Int).toNat+(s300_9).toNat) (u32.wrap ((u32.wrap (x19+s300_4))+x20))))|_,_=>none)|_,_=>none))|none=>none)|false=>(match decide ((u32.wrap (x19+s300_4))≥1000000000)with|true=>(match true,decide ((0:Int)≤s300_9∧s300_9<(((i64.wrap ((i64.wrap (s11+((ah (val b).toNat).length:Int)))+1):Int).toNat-(s11:Int).toNat:Nat):Int))with|true,true=>(match true,r300_1[(s11:Int).toNat+(s300_9).toNat]? with|true,some _=>k 5 (cY b x2 s11 r5 f299_0_13 1 (i64.wrap (s300_9+1)) (r300_1.set ((s11:Int).toNat+(s300_9).toNat) (u32.wrap ((u32.wrap (x19+s300_4))-1000000000))))|_,_=>none)|_,_=>none)|false=>(match true,decide ((0:Int)≤s300_9∧s300_9<(((i64.wrap ((i64.wrap (s11+((ah (val b).toNat).length:Int)))+1):Int).toNat-(s11:Int).toNat:Nat):Int))with|true,true=>(match true,r300_1[(s11:Int).toNat+(s300_9).toNat]? with|true,some _=>k 5 (cY b x2 s11 r5 f299_0_13 0 (i64.wrap (s300_9+1)) (r300_1.set ((s11:Int).toNat+(s300_9).toNat) (u32.wrap (x19+s300_4))))|_,_=>none)|_,_=>none)))|_,_=>none)|_,_=>none)|false=>(match bu r5 s11 with|some _=>(match true,r5[(s11).toNat]? with|true,some _=>k 34 (mI b x2 (i64.wrap (s11-1)) (r5.set ((s11).toNat) (u32.wrap (u64.wrap (f299_0_13-1)))) r300_1)|_,_=>none)|none=>none)
theorem eF(b:List Int)(x2 s11:Int)(r5:List Int)(f299_0_13 s300_4 s300_9:Int)(r300_1:List Int):RN fj 5 (cY b x2 s11 r5 f299_0_13 s300_4 s300_9 r300_1) (dv b x2 s11 r5 f299_0_13 s300_4 s300_9 r300_1):=rnX
section
theorem Px{x:Int}(h1:1≤x)(h2:x<1000000000):1≤1000000000/(x+1)∧1000000000/(x+1)≤500000000∧(x+1)*(1000000000/(x+1))≤1000000000∧500000000≤x*(1000000000/(x+1)):=by
 have m0:=arD 1000000000 (show x+1≠0 by omega)
 have m1:=aq4 1000000000 (show 0<x+1 by omega)
 have md:=arg 1000000000 (x+1)
 have d1:1≤1000000000/(x+1):=Int.le_ediv_of_mul_le (by omega) (by omega)
 have d2:1000000000/(x+1)≤500000000:=by
  have:1000000000/(x+1)<500000001:=ar0 (by omega) (by omega)
  omega
 generalize 1000000000/(x+1)=d at*
 refine⟨d1,d2,by omega,?_⟩
 rcases aqX x 500000000 with hx|hx
 ·rcases aqX (x*d) 500000000 with hd|hd
  ·exfalso
   have e1:(x+1)*(x*d)=x*((x+1)*d):=by grind
   have e2:(x+1)*d≥1000000000-x:=by omega
   have e3:(x+1)*(x*d)≤(x+1)*499999999:=aqH (by omega) (by omega)
   have e4:x*(1000000000-x)≤x*((x+1)*d):=aqH e2 (by omega)
   have e5:0≤(x-1)*(500000000-x):=arq (by omega) (by omega)
   have e6:(x-1)*(500000000-x)=x*(1000000000-x)-(x+1)*499999999-1:=by grind
   omega
  ·exact hd
 ·have:=asr hx d1 (by decide) (by omega)
  omega
structure Kn (w V u2 u1 u0 v1 v0:Int):Prop where
 P:∃P wl vl:Int,0<P∧0≤wl∧wl<P∧0≤vl∧vl<P∧w=wl+P*(u0+1000000000*u1+1000000000*1000000000*u2)∧V=vl+P*(v0+1000000000*v1)
 u2:0≤u2∧u2<1000000000
 u1:0≤u1∧u1<1000000000
 u0:0≤u0∧u0<1000000000
 v1:500000000≤v1∧v1<1000000000
 v0:0≤v0∧v0<1000000000
 lt:w<V*1000000000
section
variable {w V u2 u1 u0 v1 v0:Int} (h:Kn w V u2 u1 u0 v1 v0)
include h
theorem Kn.top:u2≤v1:=by
 obtain⟨⟨P,wl,vl,p0,a1,a2,b1,b2,hw,hV⟩,⟨x1,x2⟩,⟨x3,x4⟩,⟨x5,x6⟩,⟨y1,y2⟩,⟨y3,y4⟩,hlt⟩:=h
 rcases aqX v1 u2 with hc|hc
 ·exfalso
  have e1:P*(1000000000*1000000000*(v1+1))≤P*(u0+1000000000*u1+1000000000*1000000000*u2):=aqH (by omega) (by omega)
  have e2:P*(v0+1000000000*v1)≤P*(999999999+1000000000*v1):=aqH (by omega) (by omega)
  have e3:P*(1000000000*1000000000*(v1+1))=1000000000*(P*(999999999+1000000000*v1))+1000000000*P:=by grind
  omega
 ·exact hc
theorem Kn.pos:0<V:=by
 obtain⟨⟨P,wl,vl,p0,a1,a2,b1,b2,hw,hV⟩,⟨x1,x2⟩,⟨x3,x4⟩,⟨x5,x6⟩,⟨y1,y2⟩,⟨y3,y4⟩,hlt⟩:=h
 have:=Int.mul_pos p0 (show 0<v0+1000000000*v1 by omega)
 omega
theorem Kn.great{g rest:Int}(hg:0≤g)(he:g*v1+rest=u2*1000000000+u1)(hc:rest*1000000000+u0<g*v0):w<g*V:=by
 obtain⟨⟨P,wl,vl,p0,a1,a2,b1,b2,hw,hV⟩,⟨x1,x2⟩,⟨x3,x4⟩,⟨x5,x6⟩,⟨y1,y2⟩,⟨y3,y4⟩,hlt⟩:=h
 have e1:g*V=g*vl+P*(g*v0+1000000000*(g*v1)):=by rw[hV];grind
 have e2:0≤g*vl:=arq hg b1
 have e3:P*(u0+1000000000*u1+1000000000*1000000000*u2+1)≤P*(g*v0+1000000000*(g*v1)):=aqH (by omega) (by omega)
 have e4:P*(u0+1000000000*u1+1000000000*1000000000*u2+1)=P*(u0+1000000000*u1+1000000000*1000000000*u2)+P:=by grind
 omega
theorem Kn.small{g rest:Int}(_hg:0≤g)(hgB:g≤1000000000)(he:g*v1+rest=u2*1000000000+u1)(hc:g*v0≤rest*1000000000+u0):g*V<w+V:=by
 obtain⟨⟨P,wl,vl,p0,a1,a2,b1,b2,hw,hV⟩,⟨x1,x2⟩,⟨x3,x4⟩,⟨x5,x6⟩,⟨y1,y2⟩,⟨y3,y4⟩,hlt⟩:=h
 have e1:g*V=g*vl+P*(g*v0+1000000000*(g*v1)):=by rw[hV];grind
 have e2:g*vl≤1000000000*P:=asr hgB (by omega) b1 (by decide)
 have e3:P*(g*v0+1000000000*(g*v1))≤P*(u0+1000000000*u1+1000000000*1000000000*u2):=aqH (by omega) (by omega)
 have e4:P*(1000000000*500000000)≤P*(v0+1000000000*v1):=aqH (by omega) (by omega)
 omega
theorem Kn.first{g:Int}(hg:g=(u2*1000000000+u1)/v1):w<(g+1)*V:=by
 obtain⟨⟨P,wl,vl,p0,a1,a2,b1,b2,hw,hV⟩,⟨x1,x2⟩,⟨x3,x4⟩,⟨x5,x6⟩,⟨y1,y2⟩,⟨y3,y4⟩,hlt⟩:=h
 have m1:=aq4 (u2*1000000000+u1) (show 0<v1 by omega)
 have md:=arg (u2*1000000000+u1) v1
 rw[←hg]at md
 have g0:0≤g:=by rw[hg];exact ary (by omega) (by omega)
 have e1:(g+1)*V=(g+1)*vl+P*((g+1)*v0+1000000000*((g+1)*v1)):=by rw[hV];grind
 have e2:0≤(g+1)*vl:=arq (by omega) b1
 have e3:0≤(g+1)*v0:=arq (by omega) y3
 have e4:(g+1)*v1=v1*g+v1:=by grind
 have e5:P*(1000000000*(u2*1000000000+u1+1))≤P*((g+1)*v0+1000000000*((g+1)*v1)):=aqH (by omega) (by omega)
 have e6:P*(u0+1000000000*u1+1000000000*1000000000*u2)+P≤P*(1000000000*(u2*1000000000+u1+1)):=by
  have:P*(u0+1000000000*u1+1000000000*1000000000*u2+1)≤P*(1000000000*(u2*1000000000+u1+1)):=aqH (by omega) (by omega)
  rw[atn,asC]at this
  exact this
 omega
end
theorem C0{l:List Int}{m:Nat}(h:l.length=m+2):val l=val (l.take m)+pw m*(l[m]+1000000000*l[m+1]):=by
 have e:=bj (l:=l) (n:=m+1) (by omega)
 rw[arh (by omega),bj (by omega),b8]at e
 rw[e]
 grind
theorem QO{l:List Int}{m:Nat}(h:l.length=m+3):val l=val (l.take m)+pw m*(l[m]+1000000000*l[m+1]+1000000000*1000000000*l[m+2]):=by
 have e:=bj (l:=l) (n:=m+2) (by omega)
 rw[arh (by omega),bj (by omega),bj (by omega)]at e
 simp only[b8]at e
 rw[e]
 grind
def win(k n:Nat)(r:List Int):Int:=val ((r.drop k).take (n+1))
theorem H8{k n:Nat}{r:List Int}(h:k+n+1≤r.length)(hz:val (r.drop (k+n+1))=0):val r=val (r.take k)+pw k*win k n r:=by
 have h1:=eN r k
 have h2:=eN (r.drop k) (n+1)
 rw[atq,show k+(n+1)=k+n+1 by omega,hz]at h2
 rw[aq0 (by omega)]at h1
 rw[h1,h2]
 unfold win
 simp
theorem TN{k n:Nat}{r:List Int}(hl:Lim r)(h:k+n+1≤r.length):0≤win k n r∧win k n r<pw (n+1):=by
 have h1:=(hl.drop k).take (n+1)
 have h2:=bV h1
 rw[arb,asE,aq0 (by omega)]at h2
 exact⟨aY h1,h2⟩
theorem ake{v r:List Int}{k m:Nat}(hv:Lim v)(hvl:v.length=m+2)(hr:Lim r)(hk:k+m+3≤r.length)(htop:500000000≤v[m+1])(hlt:win k (m+2) r<val v*1000000000):
  Kn (win k (m+2) r) (val v) r[k+m+2] r[k+m+1] r[k+m] v[m+1] v[m]:=by
 have hwl:((r.drop k).take (m+2+1)).length=m+3:=by rw[arb,asE];omega
 have h3:=QO hwl
 have h2:=C0 hvl
 have hl1:=(hr.drop k).take (m+2+1)
 have g:∀j (hj:j<m+3),((r.drop k).take (m+2+1))[j]=r[k+j]:=fun j hj=>by simp
 rw[g m (by omega),g (m+1) (by omega),g (m+2) (by omega)]at h3
 have t1:=hl1.take m
 have t2:=hv.take m
 have b1:=bV t1
 have b2:=bV t2
 rw[arb,aq0 (by omega)]at b1 b2
 exact⟨⟨pw m,_,_,bU m,aY t1,b1,aY t2,b2,h3,h2⟩,hr.get (by omega),hr.get (by omega),hr.get (by omega),⟨htop,(hv.get (by omega)).2⟩,hv.get (by omega),hlt⟩
end
section
theorem rG{r:List Int}{k i:Nat}(y:Int):(r.set (k+i) y).take k=r.take k:=List.take_set_of_le (by omega)
theorem rP{r:List Int}{k i n:Nat}(y:Int)(h:i≤n):(r.set (k+i) y).drop (k+n+1)=r.drop (k+n+1):=List.drop_set_of_lt (by omega)
section
variable (b:List Int) (x2:Int) (v:List Int) (m:Nat) (hN:(ah (val b).toNat).length=m+2) (hv:ah (val (dig ((ah (val b).toNat).length+([u32.wrap (u64.wrap (Int.tdiv 1000000000 (u64.wrap ((u64.wrap x2)+1))))]).length) (val (ah (val b).toNat)*val ([u32.wrap (u64.wrap (Int.tdiv 1000000000 (u64.wrap ((u64.wrap x2)+1))))])))).toNat=v) (lv:Lim v) (hvl:v.length=m+2)
include hN hv lv hvl
theorem MS(k:Nat)(r0 r5:List Int)(g:Int)(hg:0≤g∧g<1000000000)(hk:k+(m+2)+1≤r0.length)(hsz:r0.length≤4000000000)(R:List RV)
  (hno:∀r,Lim r→r.length=r0.length→r.take k=r0.take k→r.drop (k+(m+2)+1)=r0.drop (k+(m+2)+1)→val r=val r0-pw k*(g*val v)→∃q,cN b x2 (k:Int) r5 g g 0 0 ((m+2+1:Nat):Int) r (fj.k q)=some R)
  (hyes:∀r,Lim r→r.length=r0.length→r.take k=r0.take k→r.drop (k+(m+2)+1)=r0.drop (k+(m+2)+1)→val r=val r0-pw k*(g*val v)+pw (k+(m+2)+1)→∃q,cN b x2 (k:Int) r5 g g 0 1 ((m+2+1:Nat):Int) r (fj.k q)=some R):
  ∀(j i:Nat) (c bo:Int) (r:List Int),i+j=m+2+1→0≤c→c<1000000000→(i=m+2+1→c=0)→0≤bo→bo≤1→Lim r→r.length=r0.length→r.take k=r0.take k→r.drop (k+(m+2)+1)=r0.drop (k+(m+2)+1)→
   val r=val r0-pw k*(g*val (v.take i))+pw (k+i)*(c+bo)→fj.Runs 8 (cL b x2 (k:Int) r5 g g c bo (i:Int) r) R:=by
 have e1:i64.wrap ((k:Int)+((m+2:Nat):Int))=((k+(m+2):Nat):Int):=by rw[bi (by omega) (by omega)];simp
 have e2:i64.wrap (((k+(m+2):Nat):Int)+1)=((k+(m+2)+1:Nat):Int):=cG (by omega)
 have e3:k+(m+2)+1-k=m+2+1:=by omega
 intro j
 induction j with
 |zero=>
  intro i c bo r hi c0 c1 hc b0 b1 lr hl ht hd hval
  obtain rfl:i=m+2+1:=by omega
  obtain rfl:=hc rfl
  rw[arh (by omega)]at hval
  refine eE _ _ _ _ _ _ _ _ _ _ ?_
  rcases(show bo=0∨bo=1 by omega)with rfl|rfl
  ·exact hno r lr hl ht hd (by rw[hval];simp)
  ·exact hyes r lr hl ht hd (by rw[hval];simp;rfl)
 |succ j ih=>
  intro i c bo r hi c0 c1 hc b0 b1 lr hl ht hd hval
  have hir:k+i<r.length:=by omega
  have xr:=lr.get hir
  have hwi:decide ((0:Int)≤(i:Int)∧(i:Int)<((m+2+1:Nat):Int))=true:=aqs (by omega)
  have hlt:decide ((i:Int)<((m+2+1:Nat):Int))=true:=aqs (by omega)
  have hw:=hv
  have step:∀(c' y bo':Int),0≤c'→c'<1000000000→(i+1=m+2+1→c'=0)→0≤y→y<1000000000→0≤bo'→bo'≤1→y=r[k+i]-(val (v.take (i+1))-val (v.take i))/pw i*g-c+1000000000*c'-bo+1000000000*bo'→pw i*((val (v.take (i+1))-val (v.take i))/pw i)=val (v.take (i+1))-val (v.take i)→
    fj.Runs 8 (cL b x2 (k:Int) r5 g g c' bo' ((i+1:Nat):Int) (r.set (k+i) y)) R:=by
   intro c' y bo' k0 k1 kc y0 y1 k2 k3 hy hp
   refine ih (i+1) c' bo' (r.set (k+i) y) (by omega) k0 k1 kc k2 k3 (lr.set _ ⟨y0,y1⟩) (by simpa using hl) (by rw[rG];exact ht) (by rw[rP _ (by omega)];exact hd) ?_
   rw[dW hir,hval,hy,show k+(i+1)=k+i+1 by omega,b8,eo]
   generalize (val (v.take (i+1))-val (v.take i))/pw i=d at*
   have:val (v.take (i+1))=val (v.take i)+pw i*d:=by omega
   rw[this]
   grind
  by_cases hiv:i<m+2
  ·have hiv':i<v.length:=by omega
   have xv:=lv.get hiv'
   have hdv:(val (v.take (i+1))-val (v.take i))/pw i=v[i]:=by
    rw[bj hiv',show val (v.take i)+pw i*v[i]-val (v.take i)=pw i*v[i] by omega,asx _ (by have:=bU i;omega)]
   rw[hdv]at step
   have hbd:=Fs (r:=0) (by decide) xv hg ⟨c0,c1⟩
   have t0:0≤c+v[i]*g:=by omega
   have q0:0≤(c+v[i]*g)/1000000000∧(c+v[i]*g)/1000000000<1000000000:=by omega
   have hpv:pw i*v[i]=val (v.take (i+1))-val (v.take i):=by rw[bj hiv'];omega
   by_cases hc2:r[k+i]<(c+v[i]*g)%1000000000+bo
   ·obtain⟨q,hq⟩:=step ((c+v[i]*g)/1000000000) (r[k+i]+1000000000-((c+v[i]*g)%1000000000+bo)) 1 q0.1 q0.2 (by omega) (by omega) (by omega) (by omega) (by omega) (by omega) hpv
    refine eE _ _ _ _ _ _ _ _ _ _ ⟨q,?_⟩
    unfold cN
    rw[hw,hN,e1,e2,aO,aO,e3,hlt,hwi,hvl,cd hiv,aI v i,aqt hiv',aO,aqt hir]
    dsimp only
    rw[bH (x:=v[i]) (by omega) (by omega),bH (x:=v[i]*g) (by omega) (by omega),bH (x:=c+v[i]*g) (by omega) (by omega),gI t0,fe t0,bH (x:=(c+v[i]*g)/1000000000) (by omega) (by omega),bH (x:=(c+v[i]*g)%1000000000+bo) (by omega) (by omega),bH (x:=r[k+i]) (by omega) (by omega),aqs hc2,
     bH (x:=r[k+i]+1000000000) (by omega) (by omega),bH (x:=r[k+i]+1000000000-((c+v[i]*g)%1000000000+bo)) (by omega) (by omega),cM (x:=r[k+i]+1000000000-((c+v[i]*g)%1000000000+bo)) (by omega) (by omega),cG (k:=i) (by omega)]
    exact hq
   ·obtain⟨q,hq⟩:=step ((c+v[i]*g)/1000000000) (r[k+i]-((c+v[i]*g)%1000000000+bo)) 0 q0.1 q0.2 (by omega) (by omega) (by omega) (by omega) (by omega) (by omega) hpv
    refine eE _ _ _ _ _ _ _ _ _ _ ⟨q,?_⟩
    unfold cN
    rw[hw,hN,e1,e2,aO,aO,e3,hlt,hwi,hvl,cd hiv,aI v i,aqt hiv',aO,aqt hir]
    dsimp only
    rw[bH (x:=v[i]) (by omega) (by omega),bH (x:=v[i]*g) (by omega) (by omega),bH (x:=c+v[i]*g) (by omega) (by omega),gI t0,fe t0,bH (x:=(c+v[i]*g)/1000000000) (by omega) (by omega),bH (x:=(c+v[i]*g)%1000000000+bo) (by omega) (by omega),bH (x:=r[k+i]) (by omega) (by omega),aqu hc2,
     bH (x:=r[k+i]-((c+v[i]*g)%1000000000+bo)) (by omega) (by omega),cM (x:=r[k+i]-((c+v[i]*g)%1000000000+bo)) (by omega) (by omega),cG (k:=i) (by omega)]
    exact hq
  ·have hpz:val (v.take (i+1))-val (v.take i)=0:=by rw[ib (by omega)];omega
   rw[hpz]at step
   simp only[Int.zero_ediv,Int.zero_mul,asA,Int.sub_zero,forall_const]at step
   have m0:c%1000000000=c:=by omega
   have d0:c/1000000000=0:=by omega
   by_cases hc2:r[k+i]<c+bo
   ·obtain⟨q,hq⟩:=step 0 (r[k+i]+1000000000-(c+bo)) 1 (by omega) (by omega) (by omega) (by omega) (by omega) (by omega) (by omega) (by omega)
    refine eE _ _ _ _ _ _ _ _ _ _ ⟨q,?_⟩
    unfold cN
    rw[hw,hN,e1,e2,aO,aO,e3,hlt,hwi,hvl,cF (show m+2≤i by omega),aO,aqt hir]
    dsimp only
    rw[gI c0,fe c0,m0,d0,bH (x:=0) (by omega) (by omega),bH (x:=c+bo) (by omega) (by omega),bH (x:=r[k+i]) (by omega) (by omega),aqs hc2,
     bH (x:=r[k+i]+1000000000) (by omega) (by omega),bH (x:=r[k+i]+1000000000-(c+bo)) (by omega) (by omega),cM (x:=r[k+i]+1000000000-(c+bo)) (by omega) (by omega),cG (k:=i) (by omega)]
    exact hq
   ·obtain⟨q,hq⟩:=step 0 (r[k+i]-(c+bo)) 0 (by omega) (by omega) (by omega) (by omega) (by omega) (by omega) (by omega) (by omega)
    refine eE _ _ _ _ _ _ _ _ _ _ ⟨q,?_⟩
    unfold cN
    rw[hw,hN,e1,e2,aO,aO,e3,hlt,hwi,hvl,cF (show m+2≤i by omega),aO,aqt hir]
    dsimp only
    rw[gI c0,fe c0,m0,d0,bH (x:=0) (by omega) (by omega),bH (x:=c+bo) (by omega) (by omega),bH (x:=r[k+i]) (by omega) (by omega),aqu hc2,
     bH (x:=r[k+i]-(c+bo)) (by omega) (by omega),cM (x:=r[k+i]-(c+bo)) (by omega) (by omega),cG (k:=i) (by omega)]
    exact hq
end
end
section
section
variable (b:List Int) (x2:Int) (v:List Int) (m:Nat) (hN:(ah (val b).toNat).length=m+2) (hv:ah (val (dig ((ah (val b).toNat).length+([u32.wrap (u64.wrap (Int.tdiv 1000000000 (u64.wrap ((u64.wrap x2)+1))))]).length) (val (ah (val b).toNat)*val ([u32.wrap (u64.wrap (Int.tdiv 1000000000 (u64.wrap ((u64.wrap x2)+1))))])))).toNat=v) (lv:Lim v) (hvl:v.length=m+2)
include hN hv lv hvl
theorem T5(k:Nat)(r0 r5:List Int)(f:Int)(hk:k+(m+2)+1≤r0.length)(hsz:r0.length≤4000000000)(R:List RV)
  (hend:∀r c,Lim r→r.length=r0.length→r.take k=r0.take k→r.drop (k+(m+2)+1)=r0.drop (k+(m+2)+1)→0≤c→c≤1→val r=val r0+pw k*val v-pw (k+(m+2)+1)*c→∃q,dv b x2 (k:Int) r5 f c ((m+2+1:Nat):Int) r (fj.k q)=some R):
  ∀(j i:Nat) (c:Int) (r:List Int),i+j=m+2+1→0≤c→c≤1→Lim r→r.length=r0.length→r.take k=r0.take k→r.drop (k+(m+2)+1)=r0.drop (k+(m+2)+1)→
   val r=val r0+pw k*val (v.take i)-pw (k+i)*c→fj.Runs 5 (cY b x2 (k:Int) r5 f c (i:Int) r) R:=by
 have e1:i64.wrap ((k:Int)+((m+2:Nat):Int))=((k+(m+2):Nat):Int):=by rw[bi (by omega) (by omega)];simp
 have e2:i64.wrap (((k+(m+2):Nat):Int)+1)=((k+(m+2)+1:Nat):Int):=cG (by omega)
 have e3:k+(m+2)+1-k=m+2+1:=by omega
 intro j
 induction j with
 |zero=>
  intro i c r hi c0 c1 lr hl ht hd hval
  obtain rfl:i=m+2+1:=by omega
  rw[arh (by omega)]at hval
  refine eF _ _ _ _ _ _ _ _ ?_
  exact hend r c lr hl ht hd c0 c1 hval
 |succ j ih=>
  intro i c r hi c0 c1 lr hl ht hd hval
  have hir:k+i<r.length:=by omega
  have xr:=lr.get hir
  have hwi:decide ((0:Int)≤(i:Int)∧(i:Int)<((m+2+1:Nat):Int))=true:=aqs (by omega)
  have hlt:decide ((i:Int)<((m+2+1:Nat):Int))=true:=aqs (by omega)
  have hw:=hv
  have step:∀(c' y d:Int),0≤c'→c'≤1→0≤y→y<1000000000→y=r[k+i]+c+d-1000000000*c'→val (v.take (i+1))=val (v.take i)+pw i*d→
    fj.Runs 5 (cY b x2 (k:Int) r5 f c' ((i+1:Nat):Int) (r.set (k+i) y)) R:=by
   intro c' y d k0 k1 y0 y1 hy hp
   refine ih (i+1) c' (r.set (k+i) y) (by omega) k0 k1 (lr.set _ ⟨y0,y1⟩) (by simpa using hl) (by rw[rG];exact ht) (by rw[rP _ (by omega)];exact hd) ?_
   rw[dW hir,hval,hy,hp,show k+(i+1)=k+i+1 by omega,b8,eo]
   grind
  by_cases hiv:i<m+2
  ·have hiv':i<v.length:=by omega
   have xv:=lv.get hiv'
   have hpv:=bj hiv'
   by_cases hc2:r[k+i]+c+v[i]≥1000000000
   ·obtain⟨q,hq⟩:=step 1 (r[k+i]+c+v[i]-1000000000) v[i] (by omega) (by omega) (by omega) (by omega) (by omega) hpv
    refine eF _ _ _ _ _ _ _ _ ⟨q,?_⟩
    unfold dv
    rw[hw,hN,e1,e2,aO,aO,e3,hlt,hwi,hvl,cd hiv,aI v i,aqt hiv',aO,aqt hir]
    dsimp only
    rw[cM (x:=r[k+i]+c) (by omega) (by omega),cM (x:=r[k+i]+c+v[i]) (by omega) (by omega),aqs hc2,cM (x:=r[k+i]+c+v[i]-1000000000) (by omega) (by omega),cG (k:=i) (by omega)]
    exact hq
   ·obtain⟨q,hq⟩:=step 0 (r[k+i]+c+v[i]) v[i] (by omega) (by omega) (by omega) (by omega) (by omega) hpv
    refine eF _ _ _ _ _ _ _ _ ⟨q,?_⟩
    unfold dv
    rw[hw,hN,e1,e2,aO,aO,e3,hlt,hwi,hvl,cd hiv,aI v i,aqt hiv',aO,aqt hir]
    dsimp only
    rw[cM (x:=r[k+i]+c) (by omega) (by omega),cM (x:=r[k+i]+c+v[i]) (by omega) (by omega),aqu hc2,cG (k:=i) (by omega)]
    exact hq
  ·have hpz:val (v.take (i+1))=val (v.take i)+pw i*0:=by rw[ib (by omega)];simp
   by_cases hc2:r[k+i]+c≥1000000000
   ·obtain⟨q,hq⟩:=step 1 (r[k+i]+c-1000000000) 0 (by omega) (by omega) (by omega) (by omega) (by omega) hpz
    refine eF _ _ _ _ _ _ _ _ ⟨q,?_⟩
    unfold dv
    rw[hw,hN,e1,e2,aO,aO,e3,hlt,hwi,hvl,cF (show m+2≤i by omega),aO,aqt hir]
    dsimp only
    rw[cM (x:=r[k+i]+c) (by omega) (by omega),aqs hc2,cM (x:=r[k+i]+c-1000000000) (by omega) (by omega),cG (k:=i) (by omega)]
    exact hq
   ·obtain⟨q,hq⟩:=step 0 (r[k+i]+c) 0 (by omega) (by omega) (by omega) (by omega) (by omega) hpz
    refine eF _ _ _ _ _ _ _ _ ⟨q,?_⟩
    unfold dv
    rw[hw,hN,e1,e2,aO,aO,e3,hlt,hwi,hvl,cF (show m+2≤i by omega),aO,aqt hir]
    dsimp only
    rw[cM (x:=r[k+i]+c) (by omega) (by omega),aqu hc2,cG (k:=i) (by omega)]
    exact hq
theorem Fc(k:Nat)(r1 r5:List Int)(hk:k+m+3≤r1.length)(hsz:r1.length≤4000000000)(R:List RV)(K:Kn (win k (m+2) r1) (val v) r1[k+m+2] r1[k+m+1] r1[k+m] v[m+1] v[m])
  (hafter:∀g,0≤g→g<1000000000→win k (m+2) r1<(g+1)*val v→g*val v<win k (m+2) r1+val v→fj.Runs 8 (cL b x2 (k:Int) r5 g g 0 0 0 r1) R):
  ∀(fuel:Nat) (g rest:Int),g≤(fuel:Int)→0≤g→g≤2000000000→0≤rest→rest<1000000000→g*v[m+1]+rest=r1[k+m+2]*1000000000+r1[k+m+1]→win k (m+2) r1<(g+1)*val v→fj.Runs 49 (kO b x2 (k:Int) r1 r5 g rest) R:=by
 have _lv:=lv
 have e1:i64.wrap ((k:Int)+((m+2:Nat):Int))=((k+m+2:Nat):Int):=by rw[bi (by omega) (by omega)];simp;omega
 have e2:i64.wrap (((k+m+2:Nat):Int)+1)=((k+m+3:Nat):Int):=by rw[bi (by omega) (by omega)];simp;omega
 have e3:i64.wrap (((m+2:Nat):Int)-1)=((m+1:Nat):Int):=by rw[bi (by omega) (by omega)];omega
 have e4:i64.wrap (((m+2:Nat):Int)-2)=((m:Nat):Int):=by rw[bi (by omega) (by omega)];omega
 have e5:i64.wrap (((k+m+2:Nat):Int)-2)=((k+m:Nat):Int):=by rw[bi (by omega) (by omega)];omega
 have hsl:decide ((0:Int)≤(k:Int)∧(k:Int)≤((k+m+3:Nat):Int)∧((k+m+3:Nat):Int)≤(r1.length:Int))=true:=aqs (by omega)
 have hV:=K.pos
 have htop:=K.top
 have ku2:=K.u2
 have ku1:=K.u1
 have ku0:=K.u0
 have kv1:=K.v1
 have kv0:=K.v0
 intro fuel
 induction fuel with
 |zero=>
  intro g rest hf g0 gB r0 r1' he hlt
  obtain rfl:g=0:=by omega
  obtain⟨q,hq⟩:=hafter 0 (by omega) (by omega) hlt (by have:=hlt;have:=K.small (g:=0) (rest:=rest) (by omega) (by omega) he (by omega);omega)
  refine mD _ _ _ _ _ _ _ ⟨q,?_⟩
  unfold jE
  rw[aqu (by omega),hv,hN,e1,e2,e4,e5,aI v m,aqt (by omega),aI r1 (k+m),aO,aqt (show k+m<r1.length by omega)]
  dsimp only
  rw[bH (x:=v[m]) (by omega) (by omega),Int.zero_mul,bH (x:=0) (by omega) (by omega),bH (x:=rest*1000000000) (by omega) (by omega),bH (x:=r1[k+m]) (by omega) (by omega),bH (x:=rest*1000000000+r1[k+m]) (by omega) (by omega),aqu (by omega),hsl]
  exact hq
 |succ fuel ih=>
  intro g rest hf g0 gB rr0 rr1 he hlt
  have down:win k (m+2) r1<g*val v→∃q,(match decide (u64.wrap (rest+u64.wrap v[m+1])≥1000000000)with|true=>fj.k q 8 (cL b x2 (k:Int) r5 (u64.wrap (g-1)) (u64.wrap (g-1)) 0 0 0 r1)|false=>fj.k q 49 (kO b x2 (k:Int) r1 r5 (u64.wrap (g-1)) (u64.wrap (rest+u64.wrap v[m+1]))))=some R:=by
   intro hw
   have gp:1≤g:=by
    rcases aqX 0 g with h|h
    ·exact h
    ·exfalso
     have hg:g=0:=by omega
     subst hg
     rw[Int.zero_mul]at hw
     obtain⟨⟨P,wl,vl,p0,a1,a2,b1,b2,hw',hV'⟩,_⟩:=K
     have:=arq (aq2 p0) (show 0≤r1[k+m]+1000000000*r1[k+m+1]+1000000000*1000000000*r1[k+m+2] by omega)
     omega
   have he':(g-1)*v[m+1]+(rest+v[m+1])=r1[k+m+2]*1000000000+r1[k+m+1]:=by rw[←he];grind
   have hw':win k (m+2) r1<(g-1+1)*val v:=by rw[show g-1+1=g by omega];exact hw
   rw[bH (x:=v[m+1]) (by omega) (by omega),bH (x:=rest+v[m+1]) (by omega) (by omega),bH (x:=g-1) (by omega) (by omega)]
   by_cases hb:rest+v[m+1]≥1000000000
   ·have gl:g-1<1000000000:=by
     rcases aqX (g-1) 1000000000 with h|h
     ·exact h
     ·exfalso
      have e1:=aqL h (show 0≤v[m+1] by omega)
      have e2:=aqL htop (show(0:Int)≤1000000000 by decide)
      omega
    have e1:(g-1)*v[m]≤1000000000*1000000000:=asr (by omega) (by omega) (by omega) (by decide)
    obtain⟨q,hq⟩:=hafter (g-1) (by omega) gl hw' (K.small (by omega) (by omega) he' (by omega))
    exact⟨q,by rw[aqs hb];exact hq⟩
   ·obtain⟨q,hq⟩:=ih (g-1) (rest+v[m+1]) (by omega) (by omega) (by omega) (by omega) (by omega) he' hw'
    exact⟨q,by rw[aqu hb];exact hq⟩
  by_cases hgB:g≥1000000000
  ·obtain⟨q,hq⟩:=down (by
    have h1:=K.lt
    have:=aqL hgB (aq2 hV)
    rw[ar4]at h1
    omega)
   refine mD _ _ _ _ _ _ _ ⟨q,?_⟩
   unfold jE
   rw[aqs hgB,hv,hN,e1,e2,e3,aI v (m+1),aqt (show m+1<v.length by omega),hsl]
   exact hq
  ·have hgv:g*v[m]≤1000000000*1000000000:=asr (by omega) (by omega) (by omega) (by decide)
   have hgv0:0≤g*v[m]:=arq g0 (by omega)
   by_cases hc:g*v[m]>rest*1000000000+r1[k+m]
   ·obtain⟨q,hq⟩:=down (K.great g0 he hc)
    refine mD _ _ _ _ _ _ _ ⟨q,?_⟩
    unfold jE
    rw[aqu hgB,hv,hN,e1,e2,e3,e4,e5,aI v m,aqt (show m<v.length by omega),aI v (m+1),aqt (show m+1<v.length by omega),aI r1 (k+m),aO,aqt (show k+m<r1.length by omega),hsl]
    dsimp only
    rw[bH (x:=v[m]) (by omega) (by omega),bH (x:=g*v[m]) (by omega) (by omega),bH (x:=rest*1000000000) (by omega) (by omega),bH (x:=r1[k+m]) (by omega) (by omega),bH (x:=rest*1000000000+r1[k+m]) (by omega) (by omega),aqs hc]
    exact hq
   ·obtain⟨q,hq⟩:=hafter g g0 (by omega) hlt (K.small g0 (by omega) he (by omega))
    refine mD _ _ _ _ _ _ _ ⟨q,?_⟩
    unfold jE
    rw[aqu hgB,hv,hN,e1,e2,e4,e5,aI v m,aqt (show m<v.length by omega),aI r1 (k+m),aO,aqt (show k+m<r1.length by omega),hsl]
    dsimp only
    rw[bH (x:=v[m]) (by omega) (by omega),bH (x:=g*v[m]) (by omega) (by omega),bH (x:=rest*1000000000) (by omega) (by omega),bH (x:=r1[k+m]) (by omega) (by omega),bH (x:=rest*1000000000+r1[k+m]) (by omega) (by omega),aqu hc]
    exact hq
end
end
section
section
variable (b:List Int) (x2:Int) (v:List Int) (m:Nat) (hN:(ah (val b).toNat).length=m+2) (hv:ah (val (dig ((ah (val b).toNat).length+([u32.wrap (u64.wrap (Int.tdiv 1000000000 (u64.wrap ((u64.wrap x2)+1))))]).length) (val (ah (val b).toNat)*val ([u32.wrap (u64.wrap (Int.tdiv 1000000000 (u64.wrap ((u64.wrap x2)+1))))])))).toNat=v) (lv:Lim v) (hvl:v.length=m+2)
include hN hv lv hvl
set_option maxHeartbeats 2000000 in
theorem N9(sc:Int)(hsc:u32.wrap (u64.wrap (Int.tdiv 1000000000 (u64.wrap ((u64.wrap x2)+1))))=sc)(hs1:1≤sc)(hs2:sc≤500000000)(htop:500000000≤v[m+1])(A:Int):
  ∀(M:Nat) (r5 r1:List Int),Lim r5→Lim r1→r1.length=r5.length+(m+2)→r1.length≤1000000000→M≤r5.length→val v*val r5+val r1=A→(∀j (hj:j<r5.length),j<M→r5[j]=0)→val r1<val v*pw M→
   ∃qL rL,(Lim qL∧Lim rL∧qL.length=r5.length∧rL.length≤m+2∧val qL=A/val v∧val rL=A%val v/sc)∧fj.Runs 34 (mI b x2 ((M:Int)-1) r5 r1) [.d atA qL,.d atA rL]:=by
 have hVlt:=bV lv
 rw[hvl]at hVlt
 have hV0:0<val v:=by
  rw[C0 hvl]
  have h1:=aY (lv.take m)
  have h2:=lv.get (show m<v.length by omega)
  have h3:=Int.mul_pos (bU m) (show 0<v[m]+1000000000*v[m+1] by omega)
  omega
 intro M
 induction M with
 |zero=>
  intro r5 r1 l5 l1 hlen hsz hM hA hz hlt
  rw[kp,asC]at hlt
  have h0:=aY l1
  have eQ:A/val v=val r5:=by rw[←hA,atd,asb _ _ (by omega),arL h0 hlt];omega
  have eR:A%val v=val r1:=by rw[←hA,atd,asm];exact asw h0 hlt
  have ht:val (r1.take (m+2))=val r1:=by
   have hs:=eN r1 (m+2)
   rw[aq0 (by omega)]at hs
   have h2:=aY (l1.drop (m+2))
   have h3:=aY (l1.take (m+2))
   rcases aqX 0 (val (r1.drop (m+2)))with hc|hc
   ·have:=aqH (show 1≤val (r1.drop (m+2)) by omega) (aq2 (bU (m+2)))
    omega
   ·have e:val (r1.drop (m+2))=0:=by omega
    rw[e]at hs
    omega
  have hlX:(ah (val r1).toNat).length≤m+2:=cO (by omega)
  have hX:=bI (val r1).toNat
  have hXv:val (ah (val r1).toNat)=val r1:=by omega
  have hd0:0≤val r1/sc:=ary h0 (by omega)
  have hd1:val r1/sc≤val r1:=asf _ h0
  have hXl:=bV (bW (val r1).toNat)
  refine⟨r5,dig (ah (val r1).toNat).length (val r1/sc),⟨l5,kL _ _,rfl,by rw[gk];exact hlX,eQ.symm,by rw[eR,fP _ _ hd0 (by omega)]⟩,wx _ _ _ _ _ ⟨0,?_⟩⟩
  unfold qT
  rw[aqu (by omega),hN,hsc,aO,show(0:Int).toNat=0 from rfl,ata,asg,aqs (show(0:Int)≤0∧(0:Int)≤((m+2:Nat):Int)∧((m+2:Nat):Int)≤(r1.length:Int) by omega),ht,hXv,
   aqs (show a9 (r1.take (m+2)) from⟨l1.take _,by rw[arb];omega⟩),aqs (show Bi (ah (val r1).toNat) sc from⟨⟨bW _,by omega⟩,hs1,by omega⟩)]
 |succ k ih=>
  intro r5 r1 l5 l1 hlen hsz hM hA hz hlt
  have hk3:k+(m+2)+1≤r1.length:=by omega
  have hP:=bU k
  have hr0:=aY l1
  have hz1:val (r1.drop (k+(m+2)+1))=0:=by
   have hs:=eN r1 (k+(m+2)+1)
   rw[aq0 hk3]at hs
   have h2:=aY (l1.drop (k+(m+2)+1))
   have h3:=aY (l1.take (k+(m+2)+1))
   rcases aqX 0 (val (r1.drop (k+(m+2)+1)))with hc|hc
   ·exfalso
    have e1:=aqH (show 1≤val (r1.drop (k+(m+2)+1)) by omega) (aq2 (bU (k+(m+2)+1)))
    have e2:=aqL (aq2 hVlt) (aq2 (bU (k+1)))
    rw[←eo,show m+2+(k+1)=k+(m+2)+1 by omega]at e2
    omega
   ·omega
  have hw1:=H8 hk3 hz1
  have hwb:=TN l1 hk3
  have hwlt:win k (m+2) r1<val v*1000000000:=by
   rcases aqX (win k (m+2) r1) (val v*1000000000)with hc|hc
   ·exact hc
   ·exfalso
    have e1:=aqH hc (aq2 hP)
    have e2:=aY (l1.take k)
    have e3:val v*pw (k+1)=pw k*(val v*1000000000):=by rw[b8];grind
    omega
  have K:=ake lv hvl l1 (show k+m+3≤r1.length by omega) htop hwlt
  have htk:=bV (l1.take k)
  rw[arb,aq0 (by omega)]at htk
  have htk0:=aY (l1.take k)
  have hk5:k<r5.length:=by omega
  have hr5:=hz k hk5 (by omega)
  have e1:i64.wrap ((k:Int)+((m+2:Nat):Int))=((k+(m+2):Nat):Int):=by rw[bi (by omega) (by omega)];simp
  have e2:i64.wrap (((k+(m+2):Nat):Int)+1)=((k+(m+2)+1:Nat):Int):=cG (by omega)
  have e3:k+(m+2)+1-k=m+2+1:=by omega
  have fin:∀(d:Int) (r:List Int),0≤d→d<1000000000→Lim r→r.length=r1.length→r.take k=r1.take k→r.drop (k+(m+2)+1)=r1.drop (k+(m+2)+1)→val r=val r1-pw k*(d*val v)→win k (m+2) r1-d*val v<val v→
    ∃qL rL,(Lim qL∧Lim rL∧qL.length=r5.length∧rL.length≤m+2∧val qL=A/val v∧val rL=A%val v/sc)∧fj.Runs 34 (mI b x2 ((k:Int)-1) (r5.set k d) r) [.d atA qL,.d atA rL]:=by
   intro d r d0 d1 lr hl ht hd hval hwd
   obtain⟨qL,rL,⟨a1,a2,a3,a4,a5,a6⟩,a7⟩:=ih (r5.set k d) r (l5.set k ⟨d0,d1⟩) lr (by simp;omega) (by omega) (by simp;omega) (by
     rw[dW hk5,hr5,hval,←hA];grind) (fun j hj hjk=>by rw[arV (by omega)];exact hz j (by simpa using hj) (by omega)) (by
     rw[hval,hw1]
     have e4:=aqH (show win k (m+2) r1-d*val v≤val v-1 by omega) (aq2 hP)
     rw[Int.mul_sub,Int.mul_sub,asC]at e4
     rw[ar4 (val v)]
     omega)
   exact⟨qL,rL,⟨a1,a2,by simpa using a3,a4,a5,a6⟩,a7⟩
  have wof:∀(r:List Int) (x:Int),Lim r→r.length=r1.length→r.take k=r1.take k→r.drop (k+(m+2)+1)=r1.drop (k+(m+2)+1)→val r=val r1+pw k*x→win k (m+2) r=win k (m+2) r1+x∧0≤win k (m+2) r∧win k (m+2) r<pw (m+2+1):=by
   intro r x lr hl ht hd hval
   have h1:=H8 (k:=k) (n:=m+2) (r:=r) (by omega) (by rw[hd];exact hz1)
   rw[ht]at h1
   have h2:=TN (k:=k) (n:=m+2) lr (by omega)
   refine⟨?_,h2⟩
   have:pw k*win k (m+2) r=pw k*(win k (m+2) r1+x):=by rw[atn];omega
   exact Int.eq_of_mul_eq_mul_left (by omega) this
  have hpw:pw (k+(m+2)+1)=pw k*pw (m+2+1):=by rw[←eo];congr 1
  have xt:=K.u2
  have xt1:=K.u1
  have xv:=K.v1
  have hg0:0≤(r1[k+m+2]*1000000000+r1[k+m+1])/v[m+1]:=ary (by omega) (by omega)
  have hg1:(r1[k+m+2]*1000000000+r1[k+m+1])/v[m+1]<2000000000:=ar0 (by omega) (by
   have:=aqH xv.1 (show(0:Int)≤2000000000 by decide)
   omega)
  have md:=arg (r1[k+m+2]*1000000000+r1[k+m+1]) v[m+1]
  have m0:=arD (r1[k+m+2]*1000000000+r1[k+m+1]) (show v[m+1]≠0 by omega)
  have m1:=aq4 (r1[k+m+2]*1000000000+r1[k+m+1]) (show 0<v[m+1] by omega)
  have key:∃qL rL,(Lim qL∧Lim rL∧qL.length=r5.length∧rL.length≤m+2∧val qL=A/val v∧val rL=A%val v/sc)∧fj.Runs 49 (kO b x2 (k:Int) r1 r5 ((r1[k+m+2]*1000000000+r1[k+m+1])/v[m+1]) ((r1[k+m+2]*1000000000+r1[k+m+1])%v[m+1])) [.d atA qL,.d atA rL]:=by
   have hex:∃g,0≤g∧g<1000000000∧g*val v≤win k (m+2) r1∧win k (m+2) r1<(g+1)*val v:=by
    have h1:=arg (win k (m+2) r1) (val v)
    have h2:=arD (win k (m+2) r1) (show val v≠0 by omega)
    have h3:=aq4 (win k (m+2) r1) hV0
    refine⟨win k (m+2) r1/val v,ary hwb.1 (by omega),ar0 hV0 (by rw[ar4];exact hwlt),?_,?_⟩
    ·rw[ar4];omega
    ·rw[Int.add_mul,ato,ar4];omega
   obtain⟨d,d0,d1,d2,d3⟩:=hex
   have dv0:0≤d*val v:=arq d0 (by omega)
   have hrow:∃r,Lim r∧r.length=r1.length∧r.take k=r1.take k∧r.drop (k+(m+2)+1)=r1.drop (k+(m+2)+1)∧val r=val r1-pw k*(d*val v):=by
    refine⟨r1.take k++(dig (m+2+1) (win k (m+2) r1-d*val v)++r1.drop (k+(m+2)+1)),(l1.take k).append ((kL _ _).append (l1.drop _)),by simp[gk];omega,?_,?_,?_⟩
    ·rw[List.take_append_of_le_length (by simp;omega),List.take_take,Nat.min_self]
    ·rw[←arR,List.drop_append_of_le_length (by simp[gk];omega),arm (by simp[gk];omega),asO]
    ·rw[cX,cX,hz1,fP _ _ (by omega) (by omega),arb,aq0 (by omega),hw1]
     grind
   obtain⟨rr,q1,q2,q3,q4,q5⟩:=hrow
   obtain⟨qL,rL,hf,hrun⟩:=fin d rr d0 d1 q1 q2 q3 q4 q5 (by rw[Int.add_mul,ato]at d3;omega)
   refine⟨qL,rL,hf,Fc b x2 v m hN hv lv hvl k r1 r5 (by omega) (by omega) _ K ?_ 2000000000 _ _ (by omega) hg0 (by omega) m0 (by omega) (by rw[ar4];omega) (K.first rfl)⟩
   intro g g0 g1 hg2 hg3
   have same:∀r,Lim r→r.length=r1.length→r.take k=r1.take k→r.drop (k+(m+2)+1)=r1.drop (k+(m+2)+1)→val r=val r1-pw k*(d*val v)→r=rr:=fun r a1 a2 a3 a4 a5=>zU a1 q1 (by omega) (by omega)
   refine MS b x2 v m hN hv lv hvl k r1 r5 g ⟨g0,g1⟩ hk3 (by omega) _ ?_ ?_ (m+2+1) 0 0 0 r1 (by omega) (by omega) (by omega) (fun _=>rfl) (by omega) (by omega) l1 rfl rfl rfl (by simp[val])
   ·intro r a1 a2 a3 a4 a5
    obtain⟨w1,w2,w3⟩:=wof r (-(g*val v)) a1 a2 a3 a4 (by rw[a5,atp];omega)
    have hgd:g=d:=by
     have h1:¬g<d:=fun hc=>by
      have:=aqL (show g+1≤d by omega) (aq2 hV0)
      omega
     have h2:¬d<g:=fun hc=>by
      have:=aqL (show d+1≤g by omega) (aq2 hV0)
      omega
     omega
    subst hgd
    rw[same r a1 a2 a3 a4 a5]
    obtain⟨q,hq⟩:=hrun
    refine⟨q,?_⟩
    unfold cN
    rw[hv,hN,e1,e2,aO,aO,e3,cF (aqE _),aqu (show ¬(0:Int)>0 by decide),aI r5 k,aqt hk5,cM (x:=g) (by omega) (by omega),bi (x:=(k:Int)-1) (by omega) (by omega)]
    exact hq
   ·intro r a1 a2 a3 a4 a5
    obtain⟨w1,w2,w3⟩:=wof r (-(g*val v)+pw (m+2+1)) a1 a2 a3 a4 (by rw[a5,hpw,atn,atp];omega)
    have hwg:win k (m+2) r1<g*val v:=by omega
    have hgd:g=d+1:=by
     have h1:¬g<d+1:=fun hc=>by
      have:=aqL (show g≤d by omega) (aq2 hV0)
      omega
     have h2:¬d+1<g:=fun hc=>by
      have:=aqL (show d+2≤g by omega) (aq2 hV0)
      rw[Int.add_mul]at this d3
      omega
     omega
    subst hgd
    have hres:fj.Runs 5 (cY b x2 (k:Int) r5 (d+1) 0 0 r) [.d atA qL,.d atA rL]:=by
     refine T5 b x2 v m hN hv lv hvl k r r5 (d+1) (by omega) (by omega) _ ?_ (m+2+1) 0 0 r (by omega) (by omega) (by omega) a1 rfl rfl rfl (by simp[val])
     intro r' c b1 b2 b3 b4 c0 c1 b5
     obtain⟨u1,u2,u3⟩:=wof r' (-((d+1)*val v)+pw (m+2+1)+val v-pw (m+2+1)*c) b1 (by omega) (b3.trans a3) (b4.trans a4) (by rw[b5,a5,hpw,Int.mul_sub,atn,atn,atp];grind)
     have hc:c=1:=by
      rcases(show c=0∨c=1 by omega)with hc|hc
      ·exfalso
       subst hc
       rw[asA,Int.sub_zero]at u1
       rw[Int.add_mul,ato]at u1
       omega
      ·exact hc
     subst hc
     rw[same r' b1 (by omega) (b3.trans a3) (b4.trans a4) (by rw[b5,a5];grind)]
     obtain⟨q,hq⟩:=hrun
     refine⟨q,?_⟩
     unfold dv
     rw[hN,e1,e2,aO,aO,e3,cF (aqE _),aI r5 k,aqt hk5,show d+1-1=d by omega,bH (x:=d) (by omega) (by omega),cM (x:=d) (by omega) (by omega),bi (x:=(k:Int)-1) (by omega) (by omega)]
     exact hq
    obtain⟨q,hq⟩:=hres
    refine⟨q,?_⟩
    unfold cN
    rw[hv,hN,e1,e2,aO,aO,e3,cF (aqE _),aqs (show(1:Int)>0 by decide),aqs (show(0:Int)≤(k:Int)∧(k:Int)≤((k+(m+2)+1:Nat):Int)∧((k+(m+2)+1:Nat):Int)≤(r.length:Int) by omega)]
    exact hq
  obtain⟨qL,rL,hf,q,hq⟩:=key
  refine⟨qL,rL,hf,wx _ _ _ _ _ ⟨q,?_⟩⟩
  have e4:i64.wrap (((k+(m+2):Nat):Int)-1)=((k+m+1:Nat):Int):=by rw[bi (by omega) (by omega)];omega
  have e5:i64.wrap (((m+2:Nat):Int)-1)=((m+1:Nat):Int):=by rw[bi (by omega) (by omega)];omega
  unfold qT
  rw[show((k+1:Nat):Int)-1=(k:Int) by omega,aqs (by omega),hv,hN,e1,e4,e5,aI r1 (k+(m+2)),aO,aqt (show k+(m+2)<r1.length by omega),aI r1 (k+m+1),aO,aqt (show k+m+1<r1.length by omega),aI v (m+1),aqt (show m+1<v.length by omega)]
  dsimp only
  rw[bH (x:=v[m+1]) (by omega) (by omega),aqu (show ¬v[m+1]=0 by omega)]
  dsimp only
  have e6:r1[k+(m+2)]=r1[k+m+2]:=rfl
  rw[e6,bH (x:=r1[k+m+2]) (by omega) (by omega),bH (x:=r1[k+m+1]) (by omega) (by omega),bH (x:=r1[k+m+2]*1000000000) (by omega) (by omega),bH (x:=r1[k+m+2]*1000000000+r1[k+m+1]) (by omega) (by omega),fe (by omega),gI (by omega),bH (x:=(r1[k+m+2]*1000000000+r1[k+m+1])/v[m+1]) (by omega) (by omega)]
  exact hq
end
end
def mc(a b:List Int):Prop:=(Lim a∧a.length≤100000000)∧(Lim b∧b.length≤100000000)∧0<val b
instance (a b:List Int):Decidable (mc a b):=by unfold mc;infer_instance
structure aom (a b q r:List Int):Prop where
 lq:Lim q
 lr:Lim r
 sq:q.length≤200000000
 sr:r.length≤200000000
 q:val q=val a/val b
 r:val r=val a%val b
theorem sW(x:Int):val [x]=x:=by simp[val]
theorem pU{l:List Int}(h:can l){m:Nat}(hl:l.length=m+1):1≤l[m]:=by
 have h2:=h.2
 rw[List.getLast?_eq_getElem?,hl,Nat.add_sub_cancel,aqt (by omega)]at h2
 have h1:=h.1.get (show m<l.length by omega)
 have:l[m]≠0:=fun e=>h2 (by rw[e])
 omega
set_option maxHeartbeats 1000000 in
theorem zD(a b:List Int)(h:mc a b):∃q r,aom a b q r∧Con Tryz.prog 286 [.d atA a,.d atA b] [.d atA q,.d atA r]:=by
 obtain⟨⟨la,sa⟩,⟨lb,sb⟩,hb⟩:=h
 have ha:a9 a:=⟨la,by omega⟩
 have hb':a9 b:=⟨lb,by omega⟩
 have va:=bI (val a).toNat
 have vb:=bI (val b).toNat
 have na:=aY la
 have va':val (ah (val a).toNat)=val a:=by omega
 have vb':val (ah (val b).toNat)=val b:=by omega
 have lna:=hU la
 have lnb:=hU lb
 have ca:=dq (val a).toNat
 have cb:=dq (val b).toNat
 have hla:a9 (ah (val a).toNat):=⟨ca.1,by omega⟩
 have hlb:a9 (ah (val b).toNat):=⟨cb.1,by omega⟩
 have go:∀{q r},fj.Res 286 [.d atA a,.d atA b] [.d atA q,.d atA r]→Con Tryz.prog 286 [.d atA a,.d atA b] [.d atA q,.d atA r]:=fun hr=>aN JN hr
 have hb0:ah (val b).toNat≠[]:=fun e=>by rw[fF]at e;omega
 by_cases h1:(ah (val b).toNat).length=1
 ·have t1:=pU cb (m:=0) h1
  have t2:=cb.1.get (show 0<(ah (val b).toNat).length by omega)
  have e0:(ah (val b).toNat)[0]=val b:=by
   obtain⟨x,hx⟩:=List.length_eq_one_iff.1 h1
   have:=vb'
   rw[hx,sW]at this
   simp[hx,this]
  have hq0:0≤val a/val b:=ary na (by omega)
  have hq1:val a/val b≤val a:=asf _ na
  have hr0:=arD (val a) (show val b≠0 by omega)
  have hr1:=aq4 (val a) hb
  have hal:=bV ca.1
  refine⟨dig (ah (val a).toNat).length (val a/val b),[val a%val b],⟨kL _ _,Lim.cons ⟨hr0,by omega⟩ Lim.nil,by rw[gk];omega,by simp,fP _ _ hq0 (by omega),sW _⟩,go (Ud _ _ ⟨0,?_⟩)⟩
  unfold He
  rw[aqs ha,aqs hb',h1,xI,aqt (show 0<(ah (val b).toNat).length by omega),e0]
  dsimp only
  rw[aqs (show Bi (ah (val a).toNat) (val b) from⟨hla,by omega,by omega⟩),va']
  rfl
 have hlen:2≤(ah (val b).toNat).length:=by
  rcases aqT (ah (val b).toNat).length 2 with h|h
  ·exfalso
   have:(ah (val b).toNat).length≠0:=fun e=>hb0 (ase e)
   omega
  ·exact h
 by_cases hlt:val a<val b
 ·refine⟨[],ah (val a).toNat,⟨Lim.nil,ca.1,by simp,by omega,?_,?_⟩,go (Ud _ _ ⟨0,?_⟩)⟩
  ·rw[arL na hlt];rfl
  ·rw[asw na hlt];exact va'
  ·unfold He
   rw[aqs ha,aqs hb',show(((ah (val b).toNat).length:Int)==1)=false by simp;omega,aqs (show a9 (ah (val a).toNat)∧a9 (ah (val b).toNat) from⟨hla,hlb⟩),va',vb',cK hlt,aqs (show(ah (val a).toNat).length*4≤140737488355328∧(ah (val a).toNat).length≤140737488355328 by omega)]
   rfl
 ·obtain⟨m,hm⟩:∃m,(ah (val b).toNat).length=m+2:=⟨(ah (val b).toNat).length-2,by omega⟩
  have hxm:m+1<(ah (val b).toNat).length:=by omega
  have t1:=pU cb (m:=m+1) hm
  have t2:=cb.1.get hxm
  generalize hx2:(ah (val b).toNat)[m+1]=x2 at t1 t2
  obtain⟨s1,s2,s3,s4⟩:=Px t1 t2.2
  have esc:u32.wrap (u64.wrap (Int.tdiv 1000000000 (u64.wrap ((u64.wrap x2)+1))))=1000000000/(x2+1):=by
   rw[bH (x:=x2) (by omega) (by omega),bH (x:=x2+1) (by omega) (by omega),fe (by omega),bH (x:=1000000000/(x2+1)) (by omega) (by omega),cM (x:=1000000000/(x2+1)) (by omega) (by omega)]
  generalize hsc:1000000000/(x2+1)=sc at s1 s2 s3 s4 esc
  have hsl:a9 [sc]:=⟨Lim.cons ⟨by omega,by omega⟩ Lim.nil,by simp⟩
  have hbl:=bV cb.1
  rw[vb',hm]at hbl
  have hP:=bU (m+1)
  have hbtop:=bj hxm
  rw[arh (by omega),vb',hx2]at hbtop
  have hbt0:=aY (cb.1.take (m+1))
  have hbt1:=bV (cb.1.take (m+1))
  rw[arb,aq0 (by omega)]at hbt1
  have hVhi:val b*sc<pw (m+2):=by
   have e1:val b*sc<(pw (m+1)*(x2+1))*sc:=Int.mul_lt_mul_of_pos_right (by rw[atn,asC];omega) (by omega)
   have e2:(pw (m+1)*(x2+1))*sc=pw (m+1)*((x2+1)*sc):=Int.mul_assoc _ _ _
   have e3:pw (m+1)*((x2+1)*sc)≤pw (m+1)*1000000000:=aqH s3 (aq2 hP)
   rw[b8]
   omega
  have hVlo:pw (m+1)*500000000≤val b*sc:=by
   have e1:pw (m+1)*x2*sc≤val b*sc:=aqL (by omega) (by omega)
   have e2:pw (m+1)*x2*sc=pw (m+1)*(x2*sc):=Int.mul_assoc _ _ _
   have e3:pw (m+1)*500000000≤pw (m+1)*(x2*sc):=aqH s4 (aq2 hP)
   omega
  have hV0:0<val b*sc:=Int.mul_pos hb (by omega)
  have edv:val (dig (m+2+1) (val b*sc))=val b*sc:=fP _ _ (by omega) (by rw[b8];omega)
  obtain⟨v,hv⟩:∃v,ah (val b*sc).toNat=v:=⟨_,rfl⟩
  have cv:=dq (val b*sc).toNat
  have vv:=bI (val b*sc).toNat
  rw[hv]at cv vv
  have hvv:val v=val b*sc:=by omega
  have hvl:v.length=m+2:=by
   have h1:v.length≤m+2:=by rw[←hv];exact cO (by omega)
   have h2:m+1<v.length:=by rw[←hv];exact yY (by omega)
   omega
  have htop:500000000≤v[m+1]:=by
   rcases aqX v[m+1] 500000000 with hc|hc
   ·exfalso
    have e1:=bj (l:=v) (n:=m+1) (by omega)
    rw[arh (by omega),hvv]at e1
    have e2:=bV (cv.1.take (m+1))
    rw[arb,aq0 (by omega)]at e2
    have e3:=aqH (show v[m+1]≤499999999 by omega) (aq2 hP)
    omega
   ·exact hc
  have hal:=bV ca.1
  rw[va']at hal
  have hA0:0≤val a*sc:=arq na (by omega)
  have hA1:val a*sc<pw ((ah (val a).toNat).length+1):=by
   have e1:val a*sc≤pw (ah (val a).toNat).length*sc:=aqL (by omega) (by omega)
   have e2:pw (ah (val a).toNat).length*sc<pw (ah (val a).toNat).length*1000000000:=Int.mul_lt_mul_of_pos_left (by omega) (bU _)
   rw[b8]
   omega
  have lab:m+2≤(ah (val a).toNat).length:=by
   rw[←hm]
   rcases aqT (ah (val a).toNat).length (ah (val b).toNat).length with hc|hc
   ·have:=r9 hc;omega
   ·exact hc
  generalize hlA:(ah (val a).toNat).length=L at*
  have hdl:(dig (L+1) (val a*sc)++[0]).length=L+2:=by simp[gk]
  have hdv:val (dig (L+1) (val a*sc)++[0])=val a*sc:=by rw[cX,fP _ _ hA0 hA1];simp[val]
  have hmul:=hvv
  obtain⟨q,r,⟨f1,f2,f3,f4,f5,f6⟩,n,hrun⟩:=N9 b x2 v m hm (by rw[esc,hm,vb',sW];simp only[aqZ];rw[edv];exact hv) cv.1 hvl sc esc s1 s2 htop (val a*sc) (L-m) (List.replicate (L-m) 0) (dig (L+1) (val a*sc)++[0])
   (Lim.rep _) ((kL _ _).append (Lim.cons (by decide) Lim.nil)) (by rw[hdl];simp;omega) (by rw[hdl];omega) (by simp) (by rw[fq,hdv];omega) (fun j hj _=>by simp) (by
    rw[hdv,hvv]
    have e1:pw (m+1)*500000000*pw (L-m)≤val b*sc*pw (L-m):=aqL hVlo (aq2 (bU _))
    have e2:pw (m+1)*500000000*pw (L-m)=pw (L+1)*500000000:=by
     rw[show L+1=m+1+(L-m) by omega,eo (m+1) (L-m),Int.mul_right_comm]
    have:=bU (L+1)
    omega)
  have hq:val a*sc/(val b*sc)=val a/val b:=Int.mul_ediv_mul_of_pos_left _ _ (by omega)
  have hr:val a*sc%(val b*sc)/sc=val a%val b:=by
   rw[ar4 (val a),ar4 (val b),Int.mul_emod_mul_of_pos _ _ (by omega),ar4]
   exact Int.mul_ediv_cancel _ (by omega)
  rw[hvv]at f5 f6
  rw[hq]at f5
  rw[hr]at f6
  refine⟨q,r,⟨f1,f2,by rw[f3];simp;omega,by omega,f5,f6⟩,go (Ud _ _ ⟨n,?_⟩)⟩
  unfold He
  have e1:i64.wrap (((m+2:Nat):Int)-1)=((m+1:Nat):Int):=by rw[bi (by omega) (by omega)];omega
  have e2:i64.wrap (((L+2:Nat):Int)-((m+2:Nat):Int))=((L-m:Nat):Int):=by rw[bi (by omega) (by omega)];omega
  have e3:i64.wrap (((L-m:Nat):Int)-1)=((L-m:Nat):Int)-1:=bi (by omega) (by omega)
  rw[aqs ha,aqs hb',hm,show(((m+2:Nat):Int)==1)=false by simp;omega,aqs (show a9 (ah (val a).toNat)∧a9 (ah (val b).toNat) from⟨hla,hlb⟩),va',vb',show decide (ce (val a) (val b)<0)=false by
   rcases aqX (val b) (val a)with hc|hc
   ·rw[cA hc];rfl
   ·rw[show val a=val b by omega,dg];rfl,e1,aI (ah (val b).toNat) (m+1),aqt hxm,hx2]
  dsimp only
  rw[esc,bH (x:=x2) (by omega) (by omega),bH (x:=x2+1) (by omega) (by omega),aqu (show ¬x2+1=0 by omega),aqs (show a9 (ah (val a).toNat)∧a9 [sc] from⟨hla,hsl⟩),aqs (show a9 (ah (val b).toNat)∧a9 [sc] from⟨hlb,hsl⟩),sW,hlA]
  rw[aqZ,aqZ,hdl,gk (L+1)]
  rw[aqs (show(L+1+1)*4≤140737488355328∧L+1+1≤140737488355328 by omega),aqs (show a9 (dig (m+2+1) (val b*sc)) from gK (by omega) _),e2,o9 (by omega),aO,e3]
  exact hrun
abbrev BI:=Bool×List Int
def okI(x:BI):Prop:=can x.2∧(x.1=true→x.2≠[])∧x.2.length≤1000000
instance (x:BI):Decidable (okI x):=by unfold okI;infer_instance
theorem bO(x:BI):ae x=bZ x.1 (val x.2):=rfl
theorem fL{x:BI}(h:okI x):x=ai (ae x):=by
 obtain⟨h1,h2,h3⟩:=h
 have h0:=aY h1.1
 rw[bO,jK _ h0,←lD h1]
 refine ath ?_ rfl
 show x.1=(x.1&&decide (0<val x.2))
 cases hx:x.1
 ·rfl
 ·rw[aqs (dI h1 (h2 hx))];rfl
def szI(z:Int):Nat:=(ah z.natAbs).length
theorem bk{z:Int}(h:szI z≤1000000):okI (ai z):=by
 refine⟨dq _,fun e=>?_,h⟩
 unfold ai at e ⊢
 simp only[asz]at e
 intro e'
 rw[fF]at e'
 omega
theorem d7{z:Int}{k:Nat}(h1: -pw k<z)(h2:z<pw k):szI z≤k:=cO (by omega)
theorem EB(z:Int): -pw (szI z)<z∧z<pw (szI z):=by
 have h:=bV (bW z.natAbs)
 rw[bI]at h
 unfold szI
 omega
theorem kP{z:Int}{k:Nat}(h:szI z≤k): -pw k<z∧z<pw k:=by
 have h1:=EB z
 have h2:=cQ h
 omega
theorem gv(z:Int):szI (-z)=szI z:=by unfold szI;rw[Int.natAbs_neg]
theorem sH{a b:Int}{k:Nat}(h1:szI a≤k)(h2:szI b≤k):szI (a+b)≤k+1:=by
 have e1:=kP h1
 have e2:=kP h2
 have hp:=bU k
 exact d7 (by rw[b8];omega) (by rw[b8];omega)
theorem cB{a b:Int}{j k:Nat}(h1:szI a≤j)(h2:szI b≤k):szI (a*b)≤j+k:=by
 have e1:=kP h1
 have e2:=kP h2
 have h:(a*b).natAbs<(pw (j+k)).toNat:=by
  rw[as4,eo]
  have p1:=bU j
  have p2:=bU k
  have:(pw j*pw k).toNat=(pw j).toNat*(pw k).toNat:=Int.toNat_mul (by omega) (by omega)
  rw[this]
  exact Nat.mul_lt_mul'' (by omega) (by omega)
 have hp:=bU (j+k)
 exact d7 (by omega) (by omega)
theorem cU{a b:Int}(h:a.natAbs≤b.natAbs):szI a≤szI b:=by
 have:=EB b
 exact d7 (by omega) (by omega)
theorem gg{x:BI}(h:okI x):szI (ae x)≤1000000:=by
 have:=fL h
 have h3:=h.2.2
 unfold szI
 rw[this]at h3
 exact h3
theorem eW{x:BI}(h:okI x):a9 x.2:=⟨h.1.1,by have:=h.2.2;omega⟩
theorem co{x:BI}(h:okI x):0≤val x.2∧(x.1=true→0<val x.2)∧(x.2=[]↔val x.2=0):=by
 refine⟨aY h.1.1,fun e=>dI h.1 (h.2.1 e),⟨fun e=>by rw[e];rfl,fun e=>?_⟩⟩
 rcases List.eq_nil_or_concat x.2 with h'|⟨l,y,h'⟩
 ·exact h'
 ·have:=dI h.1 (by rw[h'];simp)
  omega
def lV:aM:=spN false false [atB] (fun x=>decide (aX x.1)) (fun x=>[RV.d y2Y (ai x.1)])
theorem iF:SpK 160 lV:=spX fun x h=>GS x.1 (aqr h)
def dvQ(a b:List Int):List Int:=if h:mc a b then Classical.choose (zD a b h)else []
def dvR(a b:List Int):List Int:=if h:mc a b then Classical.choose (arF (zD a b h))else []
theorem aaX{a b:List Int}(h:mc a b):aom a b (dvQ a b) (dvR a b):=by
 unfold dvQ dvR
 rw[dif_pos h,dif_pos h]
 exact(arF (arF (zD a b h))).1
theorem XY(a b:List Int)(h:mc a b):Con Tryz.prog 286 [.d atA a,.d atA b] [.d atA (dvQ a b),.d atA (dvR a b)]:=by
 unfold dvQ dvR
 rw[dif_pos h,dif_pos h]
 exact(arF (arF (zD a b h))).2
def EL:aM:=spN false false [atA,atA] (fun x=>decide (mc x.1 x.2.1)) (fun x=>[RV.d atA (dvQ x.1 x.2.1),RV.d atA (dvR x.1 x.2.1)])
theorem Bq:SpK 286 EL:=spX fun x h=>XY x.1 x.2.1 (aqr h)
def nV:Env:=[(226,uw),(227,yu),(263,Er),(264,Ey),(248,Ft),(247,Ff),(160,lV),(286,EL)]
theorem io:EnvAll Tryz.prog nV:=⟨oM,uE,Cn,B4,AZ,Df,iF,Bq,trivial⟩
def aiu:Ctx:=CX nV []
def abf(x y:Bool×List Int)(_k:KT):Option (List RV):=match !(x.1==y.1)with|true=>(match x.1 with|true=>some [RV.d atB (-1)]|false=>some [RV.d atB 1])|false=>(match x.1 with|true=>(match decide (a9 y.2∧a9 x.2)with|true=>some [RV.d atB (ce (val y.2) (val x.2))]|false=>none)|false=>(match decide (a9 x.2∧a9 y.2)with|true=>some [RV.d atB (ce (val x.2) (val y.2))]|false=>none))
theorem amN(x y:Bool×List Int):RS aiu 183 [.d y2Y x,.d y2Y y] (abf x y):=rsX
def akJ:Ctx:=CX nV []
def acf(x y:Bool×List Int)(_k:KT):Option (List RV):=match x.1==y.1 with|true=>(match decide (a9 x.2∧a9 y.2)with|true=>(match decide (a9 (dig (max x.2.length y.2.length+1) (val x.2+val y.2)))with|true=>some [RV.d y2Y (ai (bZ x.1 (val (dig (max x.2.length y.2.length+1) (val x.2+val y.2)))))]|false=>none)|false=>none)|false=>(match decide (a9 x.2∧a9 y.2)with|true=>(match decide ((ce (val x.2) (val y.2))<0)with|true=>(match decide (kS y.2 x.2)with|true=>(match decide (a9 (dig y.2.length (val y.2-val x.2)))with|true=>some [RV.d y2Y (ai (bZ y.1 (val (dig y.2.length (val y.2-val x.2)))))]|false=>none)|false=>none)|false=>(match decide (kS x.2 y.2)with|true=>(match decide (a9 (dig x.2.length (val x.2-val y.2)))with|true=>some [RV.d y2Y (ai (bZ x.1 (val (dig x.2.length (val x.2-val y.2)))))]|false=>none)|false=>none))|false=>none)
theorem aoP(x y:Bool×List Int):RS akJ 222 [.d y2Y x,.d y2Y y] (acf x y):=rsX
def aiO:Ctx:=CX nV []
def abm(x y:Bool×List Int)(_k:KT):Option (List RV):=match decide (a9 x.2∧a9 y.2)with|true=>(match decide (a9 (dig (x.2.length+y.2.length) (val x.2*val y.2)))with|true=>some [RV.d y2Y (ai (bZ (!(x.1==y.1)) (val (dig (x.2.length+y.2.length) (val x.2*val y.2)))))]|false=>none)|false=>none
theorem ajl(x y:Bool×List Int):RS aiO 184 [.d y2Y x,.d y2Y y] (abm x y):=rsX
def alK:Ctx:=CX nV []
def acn(x:Bool×List Int)(_k:KT):Option (List RV):=match decide (x.2.length*4≤140737488355328∧x.2.length≤140737488355328)with|true=>(match decide (a9 x.2)with|true=>some [RV.d y2Y (ai (bZ (!x.1) (val x.2)))]|false=>none)|false=>none
theorem aou(x:Bool×List Int):RS alK 254 [.d y2Y x] (acn x):=rsX
def ant:Ctx:=CX nV []
def acA(x:Bool×List Int)(_k:KT):Option (List RV):=match x.1 with|true=>some [RV.d atB (-1)]|false=>(match decide ((x.2.length:Int)>0)with|true=>some [RV.d atB 1]|false=>some [RV.d atB 0])
theorem amI(x:Bool×List Int):RS ant 168 [.d y2Y x] (acA x):=rsX
theorem Zf(x:BI)(h:okI x):Con Tryz.prog 168 [.d y2Y x] [.d atB (ce (ae x) 0)]:=by
 refine aN io (amI _ ⟨0,?_⟩)
 obtain⟨h0,h1,h2⟩:=co h
 unfold acA
 rw[bO]
 unfold bZ
 cases hx:x.1
 ·simp only[cond_false]
  rcases aqX 0 (val x.2)with hc|hc
  ·have:x.2≠[]:=fun e=>by rw[h2]at e;omega
   have:=ara.2 this
   rw[aqs (by omega),cA hc]
  ·have e:x.2=[]:=h2.2 (by omega)
   rw[e]
   rfl
 ·simp only[cond_true]
  rw[cK (by have:=h1 hx;omega)]
theorem Iy{a b:Int}(_ha:0≤a)(_hb:0≤b):ce (-a) (-b)=ce b a:=by
 rcases ash a b with h|h|h
 ·rw[cA (by omega),cA h]
 ·rw[h,dg,dg]
 ·rw[cK (by omega),cK h]
theorem F3(x y:BI)(h:okI x∧okI y):Con Tryz.prog 183 [.d y2Y x,.d y2Y y] [.d atB (ce (ae x) (ae y))]:=by
 refine aN io (amN _ _ ⟨0,?_⟩)
 obtain⟨hx,hy⟩:=h
 obtain⟨x0,x1,x2⟩:=co hx
 obtain⟨y0,y1,y2⟩:=co hy
 have lx:=eW hx
 have ly:=eW hy
 unfold abf
 rw[bO,bO,aqs (show a9 x.2∧a9 y.2 from⟨lx,ly⟩),aqs (show a9 y.2∧a9 x.2 from⟨ly,lx⟩)]
 unfold bZ
 cases ex:x.1<;>cases ey:y.1<;>simp only[cond_true,cond_false]
 ·rfl
 ·have:=y1 ey
  rw[cA (a:=val x.2) (b:= -val y.2) (by omega)]
  rfl
 ·have:=x1 ex
  rw[cK (a:= -val x.2) (b:=val y.2) (by omega)]
  rfl
 ·rw[Iy x0 y0]
  rfl
theorem Qi{a b:List Int}(ha:Lim a)(hb:Lim b):val (dig (max a.length b.length+1) (val a+val b))=val a+val b:=by
 have h1:=bV ha
 have h2:=bV hb
 have h3:=aY ha
 have h4:=aY hb
 have h5:=cQ (Nat.le_max_left a.length b.length)
 have h6:=cQ (Nat.le_max_right a.length b.length)
 have:=bU (max a.length b.length)
 exact fP _ _ (by omega) (by rw[b8];omega)
theorem wO{a b:List Int}(ha:Lim a)(hb:Lim b)(hle:val b≤val a):val (dig a.length (val a-val b))=val a-val b:=by
 have h1:=bV ha
 have h4:=aY hb
 exact fP _ _ (by omega) (by omega)
theorem Kl{a b:List Int}(ha:Lim a)(hb:Lim b):val (dig (a.length+b.length) (val a*val b))=val a*val b:=by
 have h1:=bV ha
 have h2:=bV hb
 have h3:=aY ha
 have h4:=aY hb
 refine fP _ _ (arq h3 h4) ?_
 rw[eo]
 have e1:=aqL (aq2 h1) h4
 have e2:=Int.mul_lt_mul_of_pos_left h2 (bU a.length)
 omega
theorem XU(x y:BI)(h:okI x∧okI y):Con Tryz.prog 222 [.d y2Y x,.d y2Y y] [.d y2Y (ai (ae x+ae y))]:=by
 refine aN io (aoP _ _ ⟨0,?_⟩)
 obtain⟨hx,hy⟩:=h
 obtain⟨x0,x1,x2⟩:=co hx
 obtain⟨y0,y1,y2⟩:=co hy
 have lx:=eW hx
 have ly:=eW hy
 have sx:=hx.2.2
 have sy:=hy.2.2
 unfold acf
 rw[bO,bO,aqs (show a9 x.2∧a9 y.2 from⟨lx,ly⟩),aqs (show a9 (dig (max x.2.length y.2.length+1) (val x.2+val y.2)) from gK (by omega) _),Qi lx.1 ly.1,aqs (show a9 (dig x.2.length (val x.2-val y.2)) from gK (by omega) _),aqs (show a9 (dig y.2.length (val y.2-val x.2)) from gK (by omega) _)]
 cases hs:x.1==y.1
 ·dsimp only
  rcases aqX (val x.2) (val y.2)with hc|hc
  ·rw[cK hc,aqs (show(-1:Int)<0 by decide),aqs (show kS y.2 x.2 from⟨ly,lx,by omega⟩),wO ly.1 lx.1 (by omega)]
   dsimp only
   unfold bZ
   cases ex:x.1<;>cases ey:y.1<;>simp_all<;>congr 2<;>omega
  ·have hcm:decide (ce (val x.2) (val y.2)<0)=false:=by
    rcases aqX (val y.2) (val x.2)with h|h
    ·rw[cA h];rfl
    ·rw[show val x.2=val y.2 by omega,dg];rfl
   rw[hcm,aqs (show kS x.2 y.2 from⟨lx,ly,hc⟩),wO lx.1 ly.1 hc]
   dsimp only
   unfold bZ
   cases ex:x.1<;>cases ey:y.1<;>simp_all<;>congr 2<;>omega
 ·dsimp only
  have e:=asi.1 hs
  rw[←e]
  unfold bZ
  cases x.1
  ·rfl
  ·simp only[cond_true]
   rw[show-(val x.2+val y.2)= -val x.2+ -val y.2 by omega]
theorem Ig(x:BI)(h:okI x):Con Tryz.prog 254 [.d y2Y x] [.d y2Y (ai (-ae x))]:=by
 refine aN io (aou _ ⟨0,?_⟩)
 have sx:=h.2.2
 unfold acn
 rw[bO,aqs (show x.2.length*4≤140737488355328∧x.2.length≤140737488355328 by omega),aqs (eW h)]
 unfold bZ
 cases x.1<;>simp
theorem HM(x y:BI)(h:okI x∧okI y):Con Tryz.prog 184 [.d y2Y x,.d y2Y y] [.d y2Y (ai (ae x*ae y))]:=by
 refine aN io (ajl _ _ ⟨0,?_⟩)
 obtain⟨hx,hy⟩:=h
 have lx:=eW hx
 have ly:=eW hy
 have sx:=hx.2.2
 have sy:=hy.2.2
 unfold abm
 rw[bO,bO,aqs (show a9 x.2∧a9 y.2 from⟨lx,ly⟩),aqs (show a9 (dig (x.2.length+y.2.length) (val x.2*val y.2)) from gK (by omega) _),Kl lx.1 ly.1]
 unfold bZ
 cases x.1<;>cases y.1<;>simp[Int.neg_mul,atp]
def lW:aM:=spN false false [y2Y,y2Y] (fun x=>decide (okI x.1∧okI x.2.1)) (fun x=>[RV.d y2Y (ai (ae x.1+ae x.2.1))])
theorem iR:SpK 222 lW:=spX fun x h=>XU x.1 x.2.1 (aqr h)
def Fp:Env:=(222,lW)::nV
theorem xT:EnvAll Tryz.prog Fp:=⟨iR,io⟩
def akE:Ctx:=CX Fp []
def abe(x y:Bool×List Int)(_k:KT):Option (List RV):=match !y.1 with|true=>(match decide (okI x∧okI (decide ((y.2.length:Int)>0),y.2))with|true=>some [RV.d y2Y (ai (ae x+ae (decide ((y.2.length:Int)>0),y.2)))]|false=>none)|false=>(match decide (okI x∧okI (false,y.2))with|true=>some [RV.d y2Y (ai (ae x+ae (false,y.2)))]|false=>none)
theorem aon(x y:Bool×List Int):RS akE 301 [.d y2Y x,.d y2Y y] (abe x y):=rsX
theorem O9{y:BI}(h:okI y):okI (!y.1&&decide ((y.2.length:Int)>0),y.2)∧ae (!y.1&&decide ((y.2.length:Int)>0),y.2)= -ae y:=by
 obtain⟨y0,y1,y2⟩:=co h
 refine⟨⟨h.1,fun e=>?_,h.2.2⟩,?_⟩
 ·simp only[aqB,asz]at e
  intro e'
  have e2:=e.2
  have e'':y.2=[]:=e'
  rw[e'']at e2
  simp at e2
 ·rw[bO,bO]
  unfold bZ
  dsimp only
  cases ey:y.1
  ·simp only[Bool.not_false,aqx,cond_false]
   rcases aqX 0 (val y.2)with hc|hc
   ·have:y.2≠[]:=fun e=>by rw[y2]at e;omega
    have:=ara.2 this
    rw[aqs (by omega)]
    rfl
   ·have e:y.2=[]:=y2.2 (by omega)
    rw[e]
    rfl
  ·simp
theorem Z2(x y:BI)(h:okI x∧okI y):Con Tryz.prog 301 [.d y2Y x,.d y2Y y] [.d y2Y (ai (ae x-ae y))]:=by
 refine aN xT (aon _ _ ⟨0,?_⟩)
 obtain⟨hx,hy⟩:=h
 obtain⟨f1,f2⟩:=O9 hy
 rw[Int.sub_eq_add_neg,←f2]
 unfold abe
 cases ey:y.1
 ·rw[ey]at f1
  simp only[Bool.not_false,aqx]at f1 ⊢
  rw[aqs ⟨hx,f1⟩]
 ·rw[ey]at f1
  simp only[Bool.not_true,Bool.false_and]at f1 ⊢
  rw[aqs ⟨hx,f1⟩]
def MO:aM:=spN false false [y2Y,y2Y] (fun x=>decide (okI x.1∧okI x.2.1)) (fun x=>[RV.d y2Y (ai (ae x.1-ae x.2.1))])
theorem Lw:SpK 301 MO:=spX fun x h=>Z2 x.1 x.2.1 (aqr h)
def Pb:Env:=(301,MO)::Fp
theorem Jp:EnvAll Tryz.prog Pb:=⟨Lw,xT⟩
def ajM:Ctx:=CX Pb []
def adb(x y:Bool×List Int)(_k:KT):Option (List RV):=let y1:=a9 (dvQ x.2 y.2);let y2:=a9 (dvR x.2 y.2);let y3:=ai (bZ x.1 (val (dvR x.2 y.2)));let y4:=ai (bZ (!(x.1==y.1)) (val (dvQ x.2 y.2)));let y5:Option (List RV):=match decide (((y3.2).length:Int)>0)with|true=>(match !((y3.1)==y.1)with|true=>(match decide (aX (1:Int))with|true=>(match decide (okI y4∧okI (ai (1:Int)))with|true=>(match decide (okI y3∧okI y)with|true=>dup (.b .l .l) (some [RV.d y2Y (ai (ae y4-ae (ai (1:Int)))),RV.d y2Y (ai (ae y3+ae y)),RV.d atB 0])|false=>none)|false=>none)|false=>none)|false=>dup (.b .l .l) (some [RV.d y2Y y4,RV.d y2Y y3,RV.d atB 0]))|false=>dup (.b .l .l) (some [RV.d y2Y y4,RV.d y2Y y3,RV.d atB 0]);let y6:Option (List RV):=match decide y2 with|true=>y5|false=>none;match(y.2.length:Int)==0 with|true=>some [RV.d y2Y (false,[]),RV.d y2Y (false,[]),RV.d atB 6]|false=>(match decide (mc x.2 y.2)with|true=>cg (match decide y1 with|true=>cg (match decide y2 with|true=>dup (.b .l .l) y5|false=>none) (dup (.b (.b .l .l) (.b .l .l)) y6)|false=>none) (dup (.b .l .l) (cg (match decide y1 with|true=>dup (.b .l .l) y6|false=>none) (match decide y1 with|true=>y6|false=>none)))|false=>none)
theorem amv(x y:Bool×List Int):RS ajM 287 [.d y2Y x,.d y2Y y] (adb x y):=rsX
end Go.Proofs.YtlahabkjhgkkjaaGreat
end
