/- integer: divide, the code. -/
import Derived.Test.YtlahabkjhgkkjaaGreatZ7
namespace Go.Proofs.YtlahabkjhgkkjaaGreat
open Go.RowKit
def AG:aL:=spN true false [(.sl (.int .u32)),(.sl (.int .u32))] (fun x=>decide (a8 x.1∧a8 x.2.1)) (fun x=>[RV.new 183 (.int .u32) (dig (max x.1.length x.2.1.length+1) (val x.1+val x.2.1))])
theorem CQ:af Tryz.prog 263=true∧ao Tryz.prog 263 AG∧∀g,AG.mut_=some g→aK Tryz.prog 263 g:=aq (by kernel_rfl) fun x h=>Xh x.1 x.2.1 (of_decide_eq_true h)
def yc:aL:=spN true false [(.sl (.int .u32)),(.sl (.int .u32))] (fun x=>decide (kK x.1 x.2.1)) (fun x=>[RV.new 183 (.int .u32) (dig x.1.length (val x.1-val x.2.1))])
theorem BY:af Tryz.prog 264=true∧ao Tryz.prog 264 yc∧∀g,yc.mut_=some g→aK Tryz.prog 264 g:=aq (by kernel_rfl) fun x h=>V2 x.1 x.2.1 (of_decide_eq_true h)
def yk:aL:=spN true false [(.sl (.int .u32)),(.sl (.int .u32))] (fun x=>decide (a8 x.1∧a8 x.2.1)) (fun x=>[RV.new 183 (.int .u32) (dig (x.1.length+x.2.1.length) (val x.1*val x.2.1))])
theorem Dg:af Tryz.prog 248=true∧ao Tryz.prog 248 yk∧∀g,yk.mut_=some g→aK Tryz.prog 248 g:=aq (by kernel_rfl) fun x h=>XS x.1 x.2.1 (of_decide_eq_true h)
def EN:aL:=spN false false [(.sl (.int .u32)),(.int .u32)] (fun x=>decide (C3 x.1 x.2.1)) (fun x=>[RV.d (.sl (.int .u32)) (dig x.1.length (val x.1/x.2.1)),RV.d (.sl (.int .u32)) ([val x.1%x.2.1])])
theorem Uk:af Tryz.prog 298=true∧ao Tryz.prog 298 EN∧∀g,EN.mut_=some g→aK Tryz.prog 298 g:=aq (by kernel_rfl) fun x h=>Yp x.1 x.2.1 (of_decide_eq_true h)
def A6:aL:=spN true false [(.sl (.int .u32)),(.sl (.int .u32))] (fun x=>decide (a8 x.1∧a8 x.2.1)) (fun x=>[RV.d (.int .i64) (b8 (val x.1) (val x.2.1))])
theorem DK:af Tryz.prog 247=true∧ao Tryz.prog 247 A6∧∀g,A6.mut_=some g→aK Tryz.prog 247 g:=aq (by kernel_rfl) fun x h=>YQ x.1 x.2.1 (of_decide_eq_true h)
def nf:Env:=[(278,AX),(263,AG),(264,yc),(248,yk),(298,EN),(247,A6)]
theorem M5:EnvAll Tryz.prog nf:=⟨CA,CQ,BY,Dg,Uk,DK,trivial⟩
def pu:NT:=[((286,34),{keep:=[6,7,8,9,10,11],hl:=6}),((286,49),{keep:=[6,7,8,9,10,11,13,14],hl:=6}),((299,8),{keep:=[0,1,2,7,8,14,15],hl:=6}),((300,5),{keep:=[0,1,4,8,9],hl:=6}),((286,68),{keep:=[6,7,8,9,10,11,13,151],hl:=0}),((286,72),{keep:=[6,7,8,9,10,11,13],hl:=0})]
noncomputable def dA:Ctx:=⟨Tryz.prog,ft,tys,nf,pu⟩
def ja(b:List Int)(x2:Int)(s11:Int)(r5:List Int)(r1:List Int):Cfg:=⟨286,[.blk 0,.seq 76],[(6,SI ((ac (val b).toNat).length:Int)),(7,.d (.int .u32) (IntKind.u32.wrap (IntKind.u64.wrap (Int.tdiv 1000000000 (IntKind.u64.wrap ((IntKind.u64.wrap x2)+1)))))),(8,.own 1),(9,.d (.sl (.int .u32)) (ac (val (dig ((ac (val b).toNat).length+([IntKind.u32.wrap (IntKind.u64.wrap (Int.tdiv 1000000000 (IntKind.u64.wrap ((IntKind.u64.wrap x2)+1))))]).length) (val (ac (val b).toNat)*val ([IntKind.u32.wrap (IntKind.u64.wrap (Int.tdiv 1000000000 (IntKind.u64.wrap ((IntKind.u64.wrap x2)+1))))])))).toNat)),(10,.own 5),(11,SI s11)],[.row 183 (.int .u32) ([IntKind.u32.wrap (IntKind.u64.wrap (Int.tdiv 1000000000 (IntKind.u64.wrap ((IntKind.u64.wrap x2)+1))))]),.row 183 (.int .u32) r1,.row 183 (.int .u32) ([0]),.row 183 (.int .u32) ([IntKind.u32.wrap (IntKind.u64.wrap (Int.tdiv 1000000000 (IntKind.u64.wrap ((IntKind.u64.wrap x2)+1))))]),.gone,.row 183 (.int .u32) r5],0,[]⟩
def gS(b:List Int)(x2:Int)(s11:Int)(r1:List Int)(r5:List Int)(s13:Int)(s14:Int):Cfg:=⟨286,[.blk 2,.seq 66,.blk 1,.seq 75,.lp 34,.blk 0,.seq 76],[(6,SI ((ac (val b).toNat).length:Int)),(7,.d (.int .u32) (IntKind.u32.wrap (IntKind.u64.wrap (Int.tdiv 1000000000 (IntKind.u64.wrap ((IntKind.u64.wrap x2)+1)))))),(8,.own 1),(9,.d (.sl (.int .u32)) (ac (val (dig ((ac (val b).toNat).length+([IntKind.u32.wrap (IntKind.u64.wrap (Int.tdiv 1000000000 (IntKind.u64.wrap ((IntKind.u64.wrap x2)+1))))]).length) (val (ac (val b).toNat)*val ([IntKind.u32.wrap (IntKind.u64.wrap (Int.tdiv 1000000000 (IntKind.u64.wrap ((IntKind.u64.wrap x2)+1))))])))).toNat)),(10,.own 5),(11,SI s11),(13,.d (.int .u64) s13),(14,.d (.int .u64) s14)],[.row 183 (.int .u32) ([IntKind.u32.wrap (IntKind.u64.wrap (Int.tdiv 1000000000 (IntKind.u64.wrap ((IntKind.u64.wrap x2)+1))))]),.row 183 (.int .u32) r1,.row 183 (.int .u32) ([0]),.row 183 (.int .u32) ([IntKind.u32.wrap (IntKind.u64.wrap (Int.tdiv 1000000000 (IntKind.u64.wrap ((IntKind.u64.wrap x2)+1))))]),.gone,.row 183 (.int .u32) r5],0,[]⟩
def cq(b:List Int)(x2:Int)(s11:Int)(r5:List Int)(s299_2:Int)(f299_0_13:Int)(s299_7:Int)(s299_8:Int)(s299_15:Int)(r299_1:List Int):Cfg:=⟨299,[.blk 0,.seq 43],[(0,.osl 1 1 ((s11:Int).toNat) ((IntKind.i64.wrap ((IntKind.i64.wrap (s11+((ac (val b).toNat).length:Int)))+1):Int).toNat-(s11:Int).toNat)),(1,.d (.sl (.int .u32)) (ac (val (dig ((ac (val b).toNat).length+([IntKind.u32.wrap (IntKind.u64.wrap (Int.tdiv 1000000000 (IntKind.u64.wrap ((IntKind.u64.wrap x2)+1))))]).length) (val (ac (val b).toNat)*val ([IntKind.u32.wrap (IntKind.u64.wrap (Int.tdiv 1000000000 (IntKind.u64.wrap ((IntKind.u64.wrap x2)+1))))])))).toNat)),(2,.d (.int .u64) s299_2),(7,.d (.int .u64) s299_7),(8,.d (.int .u64) s299_8),(14,SI (((IntKind.i64.wrap ((IntKind.i64.wrap (s11+((ac (val b).toNat).length:Int)))+1):Int).toNat-(s11:Int).toNat:Nat):Int)),(15,SI s299_15)],[.row 183 (.int .u32) ([IntKind.u32.wrap (IntKind.u64.wrap (Int.tdiv 1000000000 (IntKind.u64.wrap ((IntKind.u64.wrap x2)+1))))]),.row 183 (.int .u32) r299_1,.row 183 (.int .u32) ([0]),.row 183 (.int .u32) ([IntKind.u32.wrap (IntKind.u64.wrap (Int.tdiv 1000000000 (IntKind.u64.wrap ((IntKind.u64.wrap x2)+1))))]),.gone,.row 183 (.int .u32) r5],6,[⟨286,[.seq 69,.seq 74,.blk 1,.seq 75,.lp 34,.blk 0,.seq 76],68,9,[(6,SI ((ac (val b).toNat).length:Int)),(7,.d (.int .u32) (IntKind.u32.wrap (IntKind.u64.wrap (Int.tdiv 1000000000 (IntKind.u64.wrap ((IntKind.u64.wrap x2)+1)))))),(8,.own 1),(9,.d (.sl (.int .u32)) (ac (val (dig ((ac (val b).toNat).length+([IntKind.u32.wrap (IntKind.u64.wrap (Int.tdiv 1000000000 (IntKind.u64.wrap ((IntKind.u64.wrap x2)+1))))]).length) (val (ac (val b).toNat)*val ([IntKind.u32.wrap (IntKind.u64.wrap (Int.tdiv 1000000000 (IntKind.u64.wrap ((IntKind.u64.wrap x2)+1))))])))).toNat)),(10,.own 5),(11,SI s11),(13,.d (.int .u64) f299_0_13)],0,none⟩]⟩
def cE(b:List Int)(x2:Int)(s11:Int)(r5:List Int)(f299_0_13:Int)(s300_4:Int)(s300_9:Int)(r300_1:List Int):Cfg:=⟨300,[.blk 0],[(0,.osl 1 1 ((s11:Int).toNat) ((IntKind.i64.wrap ((IntKind.i64.wrap (s11+((ac (val b).toNat).length:Int)))+1):Int).toNat-(s11:Int).toNat)),(1,.d (.sl (.int .u32)) (ac (val (dig ((ac (val b).toNat).length+([IntKind.u32.wrap (IntKind.u64.wrap (Int.tdiv 1000000000 (IntKind.u64.wrap ((IntKind.u64.wrap x2)+1))))]).length) (val (ac (val b).toNat)*val ([IntKind.u32.wrap (IntKind.u64.wrap (Int.tdiv 1000000000 (IntKind.u64.wrap ((IntKind.u64.wrap x2)+1))))])))).toNat)),(4,.d (.int .u32) s300_4),(8,SI (((IntKind.i64.wrap ((IntKind.i64.wrap (s11+((ac (val b).toNat).length:Int)))+1):Int).toNat-(s11:Int).toNat:Nat):Int)),(9,SI s300_9)],[.row 183 (.int .u32) ([IntKind.u32.wrap (IntKind.u64.wrap (Int.tdiv 1000000000 (IntKind.u64.wrap ((IntKind.u64.wrap x2)+1))))]),.row 183 (.int .u32) r300_1,.row 183 (.int .u32) ([0]),.row 183 (.int .u32) ([IntKind.u32.wrap (IntKind.u64.wrap (Int.tdiv 1000000000 (IntKind.u64.wrap ((IntKind.u64.wrap x2)+1))))]),.gone,.row 183 (.int .u32) r5],6,[⟨286,[.seq 74,.blk 1,.seq 75,.lp 34,.blk 0,.seq 76],72,8,[(6,SI ((ac (val b).toNat).length:Int)),(7,.d (.int .u32) (IntKind.u32.wrap (IntKind.u64.wrap (Int.tdiv 1000000000 (IntKind.u64.wrap ((IntKind.u64.wrap x2)+1)))))),(8,.own 1),(9,.d (.sl (.int .u32)) (ac (val (dig ((ac (val b).toNat).length+([IntKind.u32.wrap (IntKind.u64.wrap (Int.tdiv 1000000000 (IntKind.u64.wrap ((IntKind.u64.wrap x2)+1))))]).length) (val (ac (val b).toNat)*val ([IntKind.u32.wrap (IntKind.u64.wrap (Int.tdiv 1000000000 (IntKind.u64.wrap ((IntKind.u64.wrap x2)+1))))])))).toNat)),(10,.own 5),(11,SI s11),(13,.d (.int .u64) (IntKind.u64.wrap (f299_0_13-1)))],0,none⟩]⟩
def vC(k:KT)(a:List Int)(b:List Int):Option (List RV):=match decide (a8 a)with|true=>(match decide (a8 b)with|true=>(match((ac (val b).toNat).length:Int)==1 with|true=>(match bw (ac (val b).toNat) 0 with|some x1=>(match decide (C3 (ac (val a).toNat) x1)with|true=>some [RV.d (.sl (.int .u32)) (dig (ac (val a).toNat).length (val (ac (val a).toNat)/x1)),RV.d (.sl (.int .u32)) ([val (ac (val a).toNat)%x1])]|false=>none)|none=>none)|false=>(match decide (a8 (ac (val a).toNat)∧a8 (ac (val b).toNat))with|true=>(match decide ((b8 (val (ac (val a).toNat)) (val (ac (val b).toNat)))<0)with|true=>(match decide ((ac (val a).toNat).length*4≤140737488355328∧(ac (val a).toNat).length≤140737488355328)with|true=>some [RV.d (.sl (.int .u32)) ([]),RV.d (.sl (.int .u32)) (ac (val a).toNat)]|false=>none)|false=>(match bw (ac (val b).toNat) (IntKind.i64.wrap (((ac (val b).toNat).length:Int)-1))with|some x2=>(match decide (IntKind.u64.wrap ((IntKind.u64.wrap x2)+1)=(0:Int))with|true=>none|false=>(match decide (a8 (ac (val a).toNat)∧a8 ([IntKind.u32.wrap (IntKind.u64.wrap (Int.tdiv 1000000000 (IntKind.u64.wrap ((IntKind.u64.wrap x2)+1))))]))with|true=>(match decide (((dig ((ac (val a).toNat).length+([IntKind.u32.wrap (IntKind.u64.wrap (Int.tdiv 1000000000 (IntKind.u64.wrap ((IntKind.u64.wrap x2)+1))))]).length) (val (ac (val a).toNat)*val ([IntKind.u32.wrap (IntKind.u64.wrap (Int.tdiv 1000000000 (IntKind.u64.wrap ((IntKind.u64.wrap x2)+1))))]))).length+([0]).length)*4≤140737488355328∧(dig ((ac (val a).toNat).length+([IntKind.u32.wrap (IntKind.u64.wrap (Int.tdiv 1000000000 (IntKind.u64.wrap ((IntKind.u64.wrap x2)+1))))]).length) (val (ac (val a).toNat)*val ([IntKind.u32.wrap (IntKind.u64.wrap (Int.tdiv 1000000000 (IntKind.u64.wrap ((IntKind.u64.wrap x2)+1))))]))).length+([0]).length≤140737488355328)with|true=>(match decide (a8 (ac (val b).toNat)∧a8 ([IntKind.u32.wrap (IntKind.u64.wrap (Int.tdiv 1000000000 (IntKind.u64.wrap ((IntKind.u64.wrap x2)+1))))]))with|true=>(match decide (a8 (dig ((ac (val b).toNat).length+([IntKind.u32.wrap (IntKind.u64.wrap (Int.tdiv 1000000000 (IntKind.u64.wrap ((IntKind.u64.wrap x2)+1))))]).length) (val (ac (val b).toNat)*val ([IntKind.u32.wrap (IntKind.u64.wrap (Int.tdiv 1000000000 (IntKind.u64.wrap ((IntKind.u64.wrap x2)+1))))]))))with|true=>(match decide ((0:Int)≤IntKind.i64.wrap ((((dig ((ac (val a).toNat).length+([IntKind.u32.wrap (IntKind.u64.wrap (Int.tdiv 1000000000 (IntKind.u64.wrap ((IntKind.u64.wrap x2)+1))))]).length) (val (ac (val a).toNat)*val ([IntKind.u32.wrap (IntKind.u64.wrap (Int.tdiv 1000000000 (IntKind.u64.wrap ((IntKind.u64.wrap x2)+1))))])))++([0])).length:Int)-((ac (val b).toNat).length:Int))∧(IntKind.i64.wrap ((((dig ((ac (val a).toNat).length+([IntKind.u32.wrap (IntKind.u64.wrap (Int.tdiv 1000000000 (IntKind.u64.wrap ((IntKind.u64.wrap x2)+1))))]).length) (val (ac (val a).toNat)*val ([IntKind.u32.wrap (IntKind.u64.wrap (Int.tdiv 1000000000 (IntKind.u64.wrap ((IntKind.u64.wrap x2)+1))))])))++([0])).length:Int)-((ac (val b).toNat).length:Int)))*((4:Nat):Int)≤140737488355328∧IntKind.i64.wrap ((((dig ((ac (val a).toNat).length+([IntKind.u32.wrap (IntKind.u64.wrap (Int.tdiv 1000000000 (IntKind.u64.wrap ((IntKind.u64.wrap x2)+1))))]).length) (val (ac (val a).toNat)*val ([IntKind.u32.wrap (IntKind.u64.wrap (Int.tdiv 1000000000 (IntKind.u64.wrap ((IntKind.u64.wrap x2)+1))))])))++([0])).length:Int)-((ac (val b).toNat).length:Int))≤140737488355328)with|true=>k 34 (ja b x2 (IntKind.i64.wrap ((IntKind.i64.wrap ((((dig ((ac (val a).toNat).length+([IntKind.u32.wrap (IntKind.u64.wrap (Int.tdiv 1000000000 (IntKind.u64.wrap ((IntKind.u64.wrap x2)+1))))]).length) (val (ac (val a).toNat)*val ([IntKind.u32.wrap (IntKind.u64.wrap (Int.tdiv 1000000000 (IntKind.u64.wrap ((IntKind.u64.wrap x2)+1))))])))++([0])).length:Int)-((ac (val b).toNat).length:Int)))-1)) (List.replicate (IntKind.i64.wrap ((((dig ((ac (val a).toNat).length+([IntKind.u32.wrap (IntKind.u64.wrap (Int.tdiv 1000000000 (IntKind.u64.wrap ((IntKind.u64.wrap x2)+1))))]).length) (val (ac (val a).toNat)*val ([IntKind.u32.wrap (IntKind.u64.wrap (Int.tdiv 1000000000 (IntKind.u64.wrap ((IntKind.u64.wrap x2)+1))))])))++([0])).length:Int)-((ac (val b).toNat).length:Int))).toNat (0:Int)) ((dig ((ac (val a).toNat).length+([IntKind.u32.wrap (IntKind.u64.wrap (Int.tdiv 1000000000 (IntKind.u64.wrap ((IntKind.u64.wrap x2)+1))))]).length) (val (ac (val a).toNat)*val ([IntKind.u32.wrap (IntKind.u64.wrap (Int.tdiv 1000000000 (IntKind.u64.wrap ((IntKind.u64.wrap x2)+1))))])))++([0])))|false=>none)|false=>none)|false=>none)|false=>none)|false=>none))|none=>none))|false=>none))|false=>none)|false=>none
theorem Q1(a:List Int)(b:List Int){rX:List RV}(hX:∃nX,vC (dA.k nX) a b=some rX):dA.Res 286 [.d (.sl (.int .u32)) a,.d (.sl (.int .u32)) b] rX:=aO (t:=fun k=>vC k a b) (fun k=>show go2 Tryz.prog ft tys nf pu k 4000 (az 286 [.d (.sl (.int .u32)) a,.d (.sl (.int .u32)) b]) (.node 0)=vC k a b by kernel_rfl) hX
def jO(k:KT)(b:List Int)(x2:Int)(s11:Int)(r5:List Int)(r1:List Int):Option (List RV):=match decide (s11≥0)with|true=>(match bw r1 (IntKind.i64.wrap (s11+((ac (val b).toNat).length:Int)))with|some _=>(match true,r1[(IntKind.i64.wrap (s11+((ac (val b).toNat).length:Int))).toNat]? with|true,some x3=>(match bw r1 (IntKind.i64.wrap ((IntKind.i64.wrap (s11+((ac (val b).toNat).length:Int)))-1))with|some _=>(match true,r1[(IntKind.i64.wrap ((IntKind.i64.wrap (s11+((ac (val b).toNat).length:Int)))-1)).toNat]? with|true,some x4=>(match bw (ac (val (dig ((ac (val b).toNat).length+([IntKind.u32.wrap (IntKind.u64.wrap (Int.tdiv 1000000000 (IntKind.u64.wrap ((IntKind.u64.wrap x2)+1))))]).length) (val (ac (val b).toNat)*val ([IntKind.u32.wrap (IntKind.u64.wrap (Int.tdiv 1000000000 (IntKind.u64.wrap ((IntKind.u64.wrap x2)+1))))])))).toNat) (IntKind.i64.wrap (((ac (val b).toNat).length:Int)-1))with|some x5=>(match decide (IntKind.u64.wrap x5=(0:Int))with|true=>none|false=>(match bw (ac (val (dig ((ac (val b).toNat).length+([IntKind.u32.wrap (IntKind.u64.wrap (Int.tdiv 1000000000 (IntKind.u64.wrap ((IntKind.u64.wrap x2)+1))))]).length) (val (ac (val b).toNat)*val ([IntKind.u32.wrap (IntKind.u64.wrap (Int.tdiv 1000000000 (IntKind.u64.wrap ((IntKind.u64.wrap x2)+1))))])))).toNat) (IntKind.i64.wrap (((ac (val b).toNat).length:Int)-1))with|some x6=>(match decide (IntKind.u64.wrap x6=(0:Int))with|true=>none|false=>k 49 (gS b x2 s11 r1 r5 (IntKind.u64.wrap (Int.tdiv (IntKind.u64.wrap ((IntKind.u64.wrap ((IntKind.u64.wrap x3)*1000000000))+(IntKind.u64.wrap x4))) (IntKind.u64.wrap x5))) (Int.tmod (IntKind.u64.wrap ((IntKind.u64.wrap ((IntKind.u64.wrap x3)*1000000000))+(IntKind.u64.wrap x4))) (IntKind.u64.wrap x6))))|none=>none))|none=>none)|_,_=>none)|none=>none)|_,_=>none)|none=>none)|false=>(match decide ((0:Int)≤0∧0≤((ac (val b).toNat).length:Int)∧((ac (val b).toNat).length:Int)≤(r1.length:Int))with|true=>(match decide (a8 ((r1.drop ((0:Int).toNat)).take ((((ac (val b).toNat).length:Int):Int).toNat-(0:Int).toNat)))with|true=>(match decide (C3 (ac (val ((r1.drop ((0:Int).toNat)).take ((((ac (val b).toNat).length:Int):Int).toNat-(0:Int).toNat))).toNat) (IntKind.u32.wrap (IntKind.u64.wrap (Int.tdiv 1000000000 (IntKind.u64.wrap ((IntKind.u64.wrap x2)+1))))))with|true=>some [RV.d (.sl (.int .u32)) r5,RV.d (.sl (.int .u32)) (dig (ac (val ((r1.drop ((0:Int).toNat)).take ((((ac (val b).toNat).length:Int):Int).toNat-(0:Int).toNat))).toNat).length (val (ac (val ((r1.drop ((0:Int).toNat)).take ((((ac (val b).toNat).length:Int):Int).toNat-(0:Int).toNat))).toNat)/(IntKind.u32.wrap (IntKind.u64.wrap (Int.tdiv 1000000000 (IntKind.u64.wrap ((IntKind.u64.wrap x2)+1)))))))]|false=>none)|false=>none)|false=>none)
theorem wc(b:List Int)(x2:Int)(s11:Int)(r5:List Int)(r1:List Int){rX:List RV}(hX:∃nX,jO (dA.k nX) b x2 s11 r5 r1=some rX):dA.Runs 34 (ja b x2 s11 r5 r1) rX:=em (t:=fun k=>jO k b x2 s11 r5 r1) (fun k=>show go2 Tryz.prog ft tys nf pu k 4000 {ja b x2 s11 r5 r1 with K:=.lp 34::(ja b x2 s11 r5 r1).K} (.node 35)=jO k b x2 s11 r5 r1 by kernel_rfl) hX
def gj(k:KT)(b:List Int)(x2:Int)(s11:Int)(r1:List Int)(r5:List Int)(s13:Int)(s14:Int):Option (List RV):=match decide (s13≥1000000000)with|true=>(match bw (ac (val (dig ((ac (val b).toNat).length+([IntKind.u32.wrap (IntKind.u64.wrap (Int.tdiv 1000000000 (IntKind.u64.wrap ((IntKind.u64.wrap x2)+1))))]).length) (val (ac (val b).toNat)*val ([IntKind.u32.wrap (IntKind.u64.wrap (Int.tdiv 1000000000 (IntKind.u64.wrap ((IntKind.u64.wrap x2)+1))))])))).toNat) (IntKind.i64.wrap (((ac (val b).toNat).length:Int)-1))with|some x7=>(match decide ((IntKind.u64.wrap (s14+(IntKind.u64.wrap x7)))≥1000000000)with|true=>(match decide ((0:Int)≤s11∧s11≤IntKind.i64.wrap ((IntKind.i64.wrap (s11+((ac (val b).toNat).length:Int)))+1)∧IntKind.i64.wrap ((IntKind.i64.wrap (s11+((ac (val b).toNat).length:Int)))+1)≤(r1.length:Int))with|true=>k 8 (cq b x2 s11 r5 (IntKind.u64.wrap (s13-1)) (IntKind.u64.wrap (s13-1)) 0 0 0 r1)|false=>none)|false=>k 49 (gS b x2 s11 r1 r5 (IntKind.u64.wrap (s13-1)) (IntKind.u64.wrap (s14+(IntKind.u64.wrap x7)))))|none=>none)|false=>(match bw (ac (val (dig ((ac (val b).toNat).length+([IntKind.u32.wrap (IntKind.u64.wrap (Int.tdiv 1000000000 (IntKind.u64.wrap ((IntKind.u64.wrap x2)+1))))]).length) (val (ac (val b).toNat)*val ([IntKind.u32.wrap (IntKind.u64.wrap (Int.tdiv 1000000000 (IntKind.u64.wrap ((IntKind.u64.wrap x2)+1))))])))).toNat) (IntKind.i64.wrap (((ac (val b).toNat).length:Int)-2))with|some x8=>(match bw r1 (IntKind.i64.wrap ((IntKind.i64.wrap (s11+((ac (val b).toNat).length:Int)))-2))with|some _=>(match true,r1[(IntKind.i64.wrap ((IntKind.i64.wrap (s11+((ac (val b).toNat).length:Int)))-2)).toNat]? with|true,some x9=>(match decide ((IntKind.u64.wrap (s13*(IntKind.u64.wrap x8)))>(IntKind.u64.wrap ((IntKind.u64.wrap (s14*1000000000))+(IntKind.u64.wrap x9))))with|true=>(match bw (ac (val (dig ((ac (val b).toNat).length+([IntKind.u32.wrap (IntKind.u64.wrap (Int.tdiv 1000000000 (IntKind.u64.wrap ((IntKind.u64.wrap x2)+1))))]).length) (val (ac (val b).toNat)*val ([IntKind.u32.wrap (IntKind.u64.wrap (Int.tdiv 1000000000 (IntKind.u64.wrap ((IntKind.u64.wrap x2)+1))))])))).toNat) (IntKind.i64.wrap (((ac (val b).toNat).length:Int)-1))with|some x10=>(match decide ((IntKind.u64.wrap (s14+(IntKind.u64.wrap x10)))≥1000000000)with|true=>(match decide ((0:Int)≤s11∧s11≤IntKind.i64.wrap ((IntKind.i64.wrap (s11+((ac (val b).toNat).length:Int)))+1)∧IntKind.i64.wrap ((IntKind.i64.wrap (s11+((ac (val b).toNat).length:Int)))+1)≤(r1.length:Int))with|true=>k 8 (cq b x2 s11 r5 (IntKind.u64.wrap (s13-1)) (IntKind.u64.wrap (s13-1)) 0 0 0 r1)|false=>none)|false=>k 49 (gS b x2 s11 r1 r5 (IntKind.u64.wrap (s13-1)) (IntKind.u64.wrap (s14+(IntKind.u64.wrap x10)))))|none=>none)|false=>(match decide ((0:Int)≤s11∧s11≤IntKind.i64.wrap ((IntKind.i64.wrap (s11+((ac (val b).toNat).length:Int)))+1)∧IntKind.i64.wrap ((IntKind.i64.wrap (s11+((ac (val b).toNat).length:Int)))+1)≤(r1.length:Int))with|true=>k 8 (cq b x2 s11 r5 s13 s13 0 0 0 r1)|false=>none))|_,_=>none)|none=>none)|none=>none)
theorem mu(b:List Int)(x2:Int)(s11:Int)(r1:List Int)(r5:List Int)(s13:Int)(s14:Int){rX:List RV}(hX:∃nX,gj (dA.k nX) b x2 s11 r1 r5 s13 s14=some rX):dA.Runs 49 (gS b x2 s11 r1 r5 s13 s14) rX:=em (t:=fun k=>gj k b x2 s11 r1 r5 s13 s14) (fun k=>show go2 Tryz.prog ft tys nf pu k 4000 {gS b x2 s11 r1 r5 s13 s14 with K:=.lp 49::(gS b x2 s11 r1 r5 s13 s14).K} (.node 50)=gj k b x2 s11 r1 r5 s13 s14 by kernel_rfl) hX
def cB(k:KT)(b:List Int)(x2:Int)(s11:Int)(r5:List Int)(s299_2:Int)(f299_0_13:Int)(s299_7:Int)(s299_8:Int)(s299_15:Int)(r299_1:List Int):Option (List RV):=match decide (s299_15<(((IntKind.i64.wrap ((IntKind.i64.wrap (s11+((ac (val b).toNat).length:Int)))+1):Int).toNat-(s11:Int).toNat:Nat):Int))with|true=>(match decide (s299_15<((ac (val (dig ((ac (val b).toNat).length+([IntKind.u32.wrap (IntKind.u64.wrap (Int.tdiv 1000000000 (IntKind.u64.wrap ((IntKind.u64.wrap x2)+1))))]).length) (val (ac (val b).toNat)*val ([IntKind.u32.wrap (IntKind.u64.wrap (Int.tdiv 1000000000 (IntKind.u64.wrap ((IntKind.u64.wrap x2)+1))))])))).toNat).length:Int))with|true=>(match bw (ac (val (dig ((ac (val b).toNat).length+([IntKind.u32.wrap (IntKind.u64.wrap (Int.tdiv 1000000000 (IntKind.u64.wrap ((IntKind.u64.wrap x2)+1))))]).length) (val (ac (val b).toNat)*val ([IntKind.u32.wrap (IntKind.u64.wrap (Int.tdiv 1000000000 (IntKind.u64.wrap ((IntKind.u64.wrap x2)+1))))])))).toNat) s299_15 with|some x11=>(match true,decide ((0:Int)≤s299_15∧s299_15<(((IntKind.i64.wrap ((IntKind.i64.wrap (s11+((ac (val b).toNat).length:Int)))+1):Int).toNat-(s11:Int).toNat:Nat):Int))with|true,true=>(match true,r299_1[(s11:Int).toNat+(s299_15).toNat]? with|true,some x12=>(match decide ((IntKind.u64.wrap x12)<(IntKind.u64.wrap ((Int.tmod (IntKind.u64.wrap (s299_7+(IntKind.u64.wrap ((IntKind.u64.wrap x11)*s299_2)))) 1000000000)+s299_8)))with|true=>(match true,decide ((0:Int)≤s299_15∧s299_15<(((IntKind.i64.wrap ((IntKind.i64.wrap (s11+((ac (val b).toNat).length:Int)))+1):Int).toNat-(s11:Int).toNat:Nat):Int))with|true,true=>(match true,r299_1[(s11:Int).toNat+(s299_15).toNat]? with|true,some _=>k 8 (cq b x2 s11 r5 s299_2 f299_0_13 (IntKind.u64.wrap (Int.tdiv (IntKind.u64.wrap (s299_7+(IntKind.u64.wrap ((IntKind.u64.wrap x11)*s299_2)))) 1000000000)) 1 (IntKind.i64.wrap (s299_15+1)) (r299_1.set ((s11:Int).toNat+(s299_15).toNat) (IntKind.u32.wrap (IntKind.u64.wrap ((IntKind.u64.wrap ((IntKind.u64.wrap x12)+1000000000))-(IntKind.u64.wrap ((Int.tmod (IntKind.u64.wrap (s299_7+(IntKind.u64.wrap ((IntKind.u64.wrap x11)*s299_2)))) 1000000000)+s299_8)))))))|_,_=>none)|_,_=>none)|false=>(match true,decide ((0:Int)≤s299_15∧s299_15<(((IntKind.i64.wrap ((IntKind.i64.wrap (s11+((ac (val b).toNat).length:Int)))+1):Int).toNat-(s11:Int).toNat:Nat):Int))with|true,true=>(match true,r299_1[(s11:Int).toNat+(s299_15).toNat]? with|true,some _=>k 8 (cq b x2 s11 r5 s299_2 f299_0_13 (IntKind.u64.wrap (Int.tdiv (IntKind.u64.wrap (s299_7+(IntKind.u64.wrap ((IntKind.u64.wrap x11)*s299_2)))) 1000000000)) 0 (IntKind.i64.wrap (s299_15+1)) (r299_1.set ((s11:Int).toNat+(s299_15).toNat) (IntKind.u32.wrap (IntKind.u64.wrap ((IntKind.u64.wrap x12)-(IntKind.u64.wrap ((Int.tmod (IntKind.u64.wrap (s299_7+(IntKind.u64.wrap ((IntKind.u64.wrap x11)*s299_2)))) 1000000000)+s299_8)))))))|_,_=>none)|_,_=>none))|_,_=>none)|_,_=>none)|none=>none)|false=>(match true,decide ((0:Int)≤s299_15∧s299_15<(((IntKind.i64.wrap ((IntKind.i64.wrap (s11+((ac (val b).toNat).length:Int)))+1):Int).toNat-(s11:Int).toNat:Nat):Int))with|true,true=>(match true,r299_1[(s11:Int).toNat+(s299_15).toNat]? with|true,some x15=>(match decide ((IntKind.u64.wrap x15)<(IntKind.u64.wrap ((Int.tmod s299_7 1000000000)+s299_8)))with|true=>(match true,decide ((0:Int)≤s299_15∧s299_15<(((IntKind.i64.wrap ((IntKind.i64.wrap (s11+((ac (val b).toNat).length:Int)))+1):Int).toNat-(s11:Int).toNat:Nat):Int))with|true,true=>(match true,r299_1[(s11:Int).toNat+(s299_15).toNat]? with|true,some _=>k 8 (cq b x2 s11 r5 s299_2 f299_0_13 (IntKind.u64.wrap (Int.tdiv s299_7 1000000000)) 1 (IntKind.i64.wrap (s299_15+1)) (r299_1.set ((s11:Int).toNat+(s299_15).toNat) (IntKind.u32.wrap (IntKind.u64.wrap ((IntKind.u64.wrap ((IntKind.u64.wrap x15)+1000000000))-(IntKind.u64.wrap ((Int.tmod s299_7 1000000000)+s299_8)))))))|_,_=>none)|_,_=>none)|false=>(match true,decide ((0:Int)≤s299_15∧s299_15<(((IntKind.i64.wrap ((IntKind.i64.wrap (s11+((ac (val b).toNat).length:Int)))+1):Int).toNat-(s11:Int).toNat:Nat):Int))with|true,true=>(match true,r299_1[(s11:Int).toNat+(s299_15).toNat]? with|true,some _=>k 8 (cq b x2 s11 r5 s299_2 f299_0_13 (IntKind.u64.wrap (Int.tdiv s299_7 1000000000)) 0 (IntKind.i64.wrap (s299_15+1)) (r299_1.set ((s11:Int).toNat+(s299_15).toNat) (IntKind.u32.wrap (IntKind.u64.wrap ((IntKind.u64.wrap x15)-(IntKind.u64.wrap ((Int.tmod s299_7 1000000000)+s299_8)))))))|_,_=>none)|_,_=>none))|_,_=>none)|_,_=>none))|false=>(match decide (s299_8>0)with|true=>(match decide ((0:Int)≤s11∧s11≤IntKind.i64.wrap ((IntKind.i64.wrap (s11+((ac (val b).toNat).length:Int)))+1)∧IntKind.i64.wrap ((IntKind.i64.wrap (s11+((ac (val b).toNat).length:Int)))+1)≤(r299_1.length:Int))with|true=>k 5 (cE b x2 s11 r5 f299_0_13 0 0 r299_1)|false=>none)|false=>(match decide (s299_7>0)with|true=>(match decide ((0:Int)≤s11∧s11≤IntKind.i64.wrap ((IntKind.i64.wrap (s11+((ac (val b).toNat).length:Int)))+1)∧IntKind.i64.wrap ((IntKind.i64.wrap (s11+((ac (val b).toNat).length:Int)))+1)≤(r299_1.length:Int))with|true=>k 5 (cE b x2 s11 r5 f299_0_13 0 0 r299_1)|false=>none)|false=>(match bw r5 s11 with|some _=>(match true,r5[(s11).toNat]? with|true,some _=>k 34 (ja b x2 (IntKind.i64.wrap (s11-1)) (r5.set ((s11).toNat) (IntKind.u32.wrap f299_0_13)) r299_1)|_,_=>none)|none=>none)))
theorem d8(b:List Int)(x2:Int)(s11:Int)(r5:List Int)(s299_2:Int)(f299_0_13:Int)(s299_7:Int)(s299_8:Int)(s299_15:Int)(r299_1:List Int){rX:List RV}(hX:∃nX,cB (dA.k nX) b x2 s11 r5 s299_2 f299_0_13 s299_7 s299_8 s299_15 r299_1=some rX):dA.Runs 8 (cq b x2 s11 r5 s299_2 f299_0_13 s299_7 s299_8 s299_15 r299_1) rX:=em (t:=fun k=>cB k b x2 s11 r5 s299_2 f299_0_13 s299_7 s299_8 s299_15 r299_1) (fun k=>show go2 Tryz.prog ft tys nf pu k 4000 {cq b x2 s11 r5 s299_2 f299_0_13 s299_7 s299_8 s299_15 r299_1 with K:=.lp 8::(cq b x2 s11 r5 s299_2 f299_0_13 s299_7 s299_8 s299_15 r299_1).K} (.node 9)=cB k b x2 s11 r5 s299_2 f299_0_13 s299_7 s299_8 s299_15 r299_1 by kernel_rfl) hX
def cL(k:KT)(b:List Int)(x2:Int)(s11:Int)(r5:List Int)(f299_0_13:Int)(s300_4:Int)(s300_9:Int)(r300_1:List Int):Option (List RV):=match decide (s300_9<(((IntKind.i64.wrap ((IntKind.i64.wrap (s11+((ac (val b).toNat).length:Int)))+1):Int).toNat-(s11:Int).toNat:Nat):Int))with|true=>(match true,decide ((0:Int)≤s300_9∧s300_9<(((IntKind.i64.wrap ((IntKind.i64.wrap (s11+((ac (val b).toNat).length:Int)))+1):Int).toNat-(s11:Int).toNat:Nat):Int))with|true,true=>(match true,r300_1[(s11:Int).toNat+(s300_9).toNat]? with|true,some x19=>(match decide (s300_9<((ac (val (dig ((ac (val b).toNat).length+([IntKind.u32.wrap (IntKind.u64.wrap (Int.tdiv 1000000000 (IntKind.u64.wrap ((IntKind.u64.wrap x2)+1))))]).length) (val (ac (val b).toNat)*val ([IntKind.u32.wrap (IntKind.u64.wrap (Int.tdiv 1000000000 (IntKind.u64.wrap ((IntKind.u64.wrap x2)+1))))])))).toNat).length:Int))with|true=>(match bw (ac (val (dig ((ac (val b).toNat).length+([IntKind.u32.wrap (IntKind.u64.wrap (Int.tdiv 1000000000 (IntKind.u64.wrap ((IntKind.u64.wrap x2)+1))))]).length) (val (ac (val b).toNat)*val ([IntKind.u32.wrap (IntKind.u64.wrap (Int.tdiv 1000000000 (IntKind.u64.wrap ((IntKind.u64.wrap x2)+1))))])))).toNat) s300_9 with|some x20=>(match decide ((IntKind.u32.wrap ((IntKind.u32.wrap (x19+s300_4))+x20))≥1000000000)with|true=>(match true,decide ((0:Int)≤s300_9∧s300_9<(((IntKind.i64.wrap ((IntKind.i64.wrap (s11+((ac (val b).toNat).length:Int)))+1):Int).toNat-(s11:Int).toNat:Nat):Int))with|true,true=>(match true,r300_1[(s11:Int).toNat+(s300_9).toNat]? with|true,some _=>k 5 (cE b x2 s11 r5 f299_0_13 1 (IntKind.i64.wrap (s300_9+1)) (r300_1.set ((s11:Int).toNat+(s300_9).toNat) (IntKind.u32.wrap ((IntKind.u32.wrap ((IntKind.u32.wrap (x19+s300_4))+x20))-1000000000))))|_,_=>none)|_,_=>none)|false=>(match true,decide ((0:Int)≤s300_9∧s300_9<(((IntKind.i64.wrap ((IntKind.i64.wrap (s11+((ac (val b).toNat).length:Int)))+1):Int).toNat-(s11:Int).toNat:Nat):Int))with|true,true=>(match true,r300_1[(s11:Int).toNat+(s300_9).toNat]? with|true,some _=>k 5 (cE b x2 s11 r5 f299_0_13 0 (IntKind.i64.wrap (s300_9+1)) (r300_1.set ((s11:Int).toNat+(s300_9).toNat) (IntKind.u32.wrap ((IntKind.u32.wrap (x19+s300_4))+x20))))|_,_=>none)|_,_=>none))|none=>none)|false=>(match decide ((IntKind.u32.wrap (x19+s300_4))≥1000000000)with|true=>(match true,decide ((0:Int)≤s300_9∧s300_9<(((IntKind.i64.wrap ((IntKind.i64.wrap (s11+((ac (val b).toNat).length:Int)))+1):Int).toNat-(s11:Int).toNat:Nat):Int))with|true,true=>(match true,r300_1[(s11:Int).toNat+(s300_9).toNat]? with|true,some _=>k 5 (cE b x2 s11 r5 f299_0_13 1 (IntKind.i64.wrap (s300_9+1)) (r300_1.set ((s11:Int).toNat+(s300_9).toNat) (IntKind.u32.wrap ((IntKind.u32.wrap (x19+s300_4))-1000000000))))|_,_=>none)|_,_=>none)|false=>(match true,decide ((0:Int)≤s300_9∧s300_9<(((IntKind.i64.wrap ((IntKind.i64.wrap (s11+((ac (val b).toNat).length:Int)))+1):Int).toNat-(s11:Int).toNat:Nat):Int))with|true,true=>(match true,r300_1[(s11:Int).toNat+(s300_9).toNat]? with|true,some _=>k 5 (cE b x2 s11 r5 f299_0_13 0 (IntKind.i64.wrap (s300_9+1)) (r300_1.set ((s11:Int).toNat+(s300_9).toNat) (IntKind.u32.wrap (x19+s300_4))))|_,_=>none)|_,_=>none)))|_,_=>none)|_,_=>none)|false=>(match bw r5 s11 with|some _=>(match true,r5[(s11).toNat]? with|true,some _=>k 34 (ja b x2 (IntKind.i64.wrap (s11-1)) (r5.set ((s11).toNat) (IntKind.u32.wrap (IntKind.u64.wrap (f299_0_13-1)))) r300_1)|_,_=>none)|none=>none)
theorem ed(b:List Int)(x2:Int)(s11:Int)(r5:List Int)(f299_0_13:Int)(s300_4:Int)(s300_9:Int)(r300_1:List Int){rX:List RV}(hX:∃nX,cL (dA.k nX) b x2 s11 r5 f299_0_13 s300_4 s300_9 r300_1=some rX):dA.Runs 5 (cE b x2 s11 r5 f299_0_13 s300_4 s300_9 r300_1) rX:=em (t:=fun k=>cL k b x2 s11 r5 f299_0_13 s300_4 s300_9 r300_1) (fun k=>show go2 Tryz.prog ft tys nf pu k 4000 {cE b x2 s11 r5 f299_0_13 s300_4 s300_9 r300_1 with K:=.lp 5::(cE b x2 s11 r5 f299_0_13 s300_4 s300_9 r300_1).K} (.node 6)=cL k b x2 s11 r5 f299_0_13 s300_4 s300_9 r300_1 by kernel_rfl) hX
end Go.Proofs.YtlahabkjhgkkjaaGreat
namespace Go.Proofs.YtlahabkjhgkkjaaGreat
open Go.RowKit
theorem QO{x:Int}(h1:1≤x)(h2:x<1000000000):1≤1000000000/(x+1)∧1000000000/(x+1)≤500000000∧(x+1)*(1000000000/(x+1))≤1000000000∧500000000≤x*(1000000000/(x+1)):=by
 have m0:=Int.emod_nonneg 1000000000 (show x+1≠0 by omega)
 have m1:=Int.emod_lt_of_pos 1000000000 (show 0<x+1 by omega)
 have md:=Int.mul_ediv_add_emod 1000000000 (x+1)
 have d1:1≤1000000000/(x+1):=Int.le_ediv_of_mul_le (by omega) (by omega)
 have d2:1000000000/(x+1)≤500000000:=by
  have:1000000000/(x+1)<500000001:=Int.ediv_lt_of_lt_mul (by omega) (by omega)
  omega
 generalize 1000000000/(x+1)=d at*
 refine⟨d1,d2,by omega,?_⟩
 rcases Int.lt_or_le x 500000000 with hx|hx
 ·rcases Int.lt_or_le (x*d) 500000000 with hd|hd
  ·exfalso
   have e1:(x+1)*(x*d)=x*((x+1)*d):=by grind
   have e2:(x+1)*d≥1000000000-x:=by omega
   have e3:(x+1)*(x*d)≤(x+1)*499999999:=Int.mul_le_mul_of_nonneg_left (by omega) (by omega)
   have e4:x*(1000000000-x)≤x*((x+1)*d):=Int.mul_le_mul_of_nonneg_left e2 (by omega)
   have e5:0≤(x-1)*(500000000-x):=Int.mul_nonneg (by omega) (by omega)
   have e6:(x-1)*(500000000-x)=x*(1000000000-x)-(x+1)*499999999-1:=by grind
   omega
  ·exact hd
 ·have:=Int.mul_le_mul hx d1 (by decide) (by omega)
  omega
structure Kn (w V u2 u1 u0 v1 v0:Int):Prop where
 P:∃P wl vl:Int,0<P∧0≤wl∧wl<P∧0≤vl∧vl<P∧w=wl+P*(u0+1000000000*u1+1000000000*1000000000*u2)∧V=vl+P*(v0+1000000000*v1)
 u2:0≤u2∧u2<1000000000
 u1:0≤u1∧u1<1000000000
 u0:0≤u0∧u0<1000000000
 v1:500000000≤v1∧v1<1000000000
 v0:0≤v0∧v0<1000000000
 lt:w<V*1000000000
section
variable {w V u2 u1 u0 v1 v0:Int} (h:Kn w V u2 u1 u0 v1 v0)
include h
theorem Kn.top:u2≤v1:=by
 obtain⟨⟨P,wl,vl,p0,a1,a2,b1,b2,hw,hV⟩,⟨x1,x2⟩,⟨x3,x4⟩,⟨x5,x6⟩,⟨y1,y2⟩,⟨y3,y4⟩,hlt⟩:=h
 rcases Int.lt_or_le v1 u2 with hc|hc
 ·exfalso
  have e1:P*(1000000000*1000000000*(v1+1))≤P*(u0+1000000000*u1+1000000000*1000000000*u2):=Int.mul_le_mul_of_nonneg_left (by omega) (by omega)
  have e2:P*(v0+1000000000*v1)≤P*(999999999+1000000000*v1):=Int.mul_le_mul_of_nonneg_left (by omega) (by omega)
  have e3:P*(1000000000*1000000000*(v1+1))=1000000000*(P*(999999999+1000000000*v1))+1000000000*P:=by grind
  omega
 ·exact hc
theorem Kn.pos:0<V:=by
 obtain⟨⟨P,wl,vl,p0,a1,a2,b1,b2,hw,hV⟩,⟨x1,x2⟩,⟨x3,x4⟩,⟨x5,x6⟩,⟨y1,y2⟩,⟨y3,y4⟩,hlt⟩:=h
 have:=Int.mul_pos p0 (show 0<v0+1000000000*v1 by omega)
 omega
theorem Kn.great{g rest:Int}(hg:0≤g)(he:g*v1+rest=u2*1000000000+u1)(hc:rest*1000000000+u0<g*v0):w<g*V:=by
 obtain⟨⟨P,wl,vl,p0,a1,a2,b1,b2,hw,hV⟩,⟨x1,x2⟩,⟨x3,x4⟩,⟨x5,x6⟩,⟨y1,y2⟩,⟨y3,y4⟩,hlt⟩:=h
 have e1:g*V=g*vl+P*(g*v0+1000000000*(g*v1)):=by rw[hV];grind
 have e2:0≤g*vl:=Int.mul_nonneg hg b1
 have e3:P*(u0+1000000000*u1+1000000000*1000000000*u2+1)≤P*(g*v0+1000000000*(g*v1)):=Int.mul_le_mul_of_nonneg_left (by omega) (by omega)
 have e4:P*(u0+1000000000*u1+1000000000*1000000000*u2+1)=P*(u0+1000000000*u1+1000000000*1000000000*u2)+P:=by grind
 omega
theorem Kn.small{g rest:Int}(_hg:0≤g)(hgB:g≤1000000000)(he:g*v1+rest=u2*1000000000+u1)(hc:g*v0≤rest*1000000000+u0):g*V<w+V:=by
 obtain⟨⟨P,wl,vl,p0,a1,a2,b1,b2,hw,hV⟩,⟨x1,x2⟩,⟨x3,x4⟩,⟨x5,x6⟩,⟨y1,y2⟩,⟨y3,y4⟩,hlt⟩:=h
 have e1:g*V=g*vl+P*(g*v0+1000000000*(g*v1)):=by rw[hV];grind
 have e2:g*vl≤1000000000*P:=Int.mul_le_mul hgB (by omega) b1 (by decide)
 have e3:P*(g*v0+1000000000*(g*v1))≤P*(u0+1000000000*u1+1000000000*1000000000*u2):=Int.mul_le_mul_of_nonneg_left (by omega) (by omega)
 have e4:P*(1000000000*500000000)≤P*(v0+1000000000*v1):=Int.mul_le_mul_of_nonneg_left (by omega) (by omega)
 omega
theorem Kn.first{g:Int}(hg:g=(u2*1000000000+u1)/v1):w<(g+1)*V:=by
 obtain⟨⟨P,wl,vl,p0,a1,a2,b1,b2,hw,hV⟩,⟨x1,x2⟩,⟨x3,x4⟩,⟨x5,x6⟩,⟨y1,y2⟩,⟨y3,y4⟩,hlt⟩:=h
 have m1:=Int.emod_lt_of_pos (u2*1000000000+u1) (show 0<v1 by omega)
 have md:=Int.mul_ediv_add_emod (u2*1000000000+u1) v1
 rw[←hg]at md
 have g0:0≤g:=by rw[hg];exact Int.ediv_nonneg (by omega) (by omega)
 have e1:(g+1)*V=(g+1)*vl+P*((g+1)*v0+1000000000*((g+1)*v1)):=by rw[hV];grind
 have e2:0≤(g+1)*vl:=Int.mul_nonneg (by omega) b1
 have e3:0≤(g+1)*v0:=Int.mul_nonneg (by omega) y3
 have e4:(g+1)*v1=v1*g+v1:=by grind
 have e5:P*(1000000000*(u2*1000000000+u1+1))≤P*((g+1)*v0+1000000000*((g+1)*v1)):=Int.mul_le_mul_of_nonneg_left (by omega) (by omega)
 have e6:P*(u0+1000000000*u1+1000000000*1000000000*u2)+P≤P*(1000000000*(u2*1000000000+u1+1)):=by
  have:P*(u0+1000000000*u1+1000000000*1000000000*u2+1)≤P*(1000000000*(u2*1000000000+u1+1)):=Int.mul_le_mul_of_nonneg_left (by omega) (by omega)
  rw[Int.mul_add,Int.mul_one]at this
  exact this
 omega
end
theorem Dc{l:List Int}{m:Nat}(h:l.length=m+2):val l=val (l.take m)+pw m*(l[m]+1000000000*l[m+1]):=by
 have e:=bi (l:=l) (n:=m+1) (by omega)
 rw[List.take_of_length_le (by omega),bi (by omega),bZ]at e
 rw[e]
 grind
theorem Qo{l:List Int}{m:Nat}(h:l.length=m+3):val l=val (l.take m)+pw m*(l[m]+1000000000*l[m+1]+1000000000*1000000000*l[m+2]):=by
 have e:=bi (l:=l) (n:=m+2) (by omega)
 rw[List.take_of_length_le (by omega),bi (by omega),bi (by omega)]at e
 simp only[bZ]at e
 rw[e]
 grind
def win(k n:Nat)(r:List Int):Int:=val ((r.drop k).take (n+1))
theorem J9{k n:Nat}{r:List Int}(h:k+n+1≤r.length)(hz:val (r.drop (k+n+1))=0):val r=val (r.take k)+pw k*win k n r:=by
 have h1:=eu r k
 have h2:=eu (r.drop k) (n+1)
 rw[List.drop_drop,show k+(n+1)=k+n+1 by omega,hz]at h2
 rw[Nat.min_eq_left (by omega)]at h1
 rw[h1,h2]
 unfold win
 simp
theorem Ue{k n:Nat}{r:List Int}(hl:Lim r)(h:k+n+1≤r.length):0≤win k n r∧win k n r<pw (n+1):=by
 have h1:=(hl.drop k).take (n+1)
 have h2:=bQ h1
 rw[List.length_take,List.length_drop,Nat.min_eq_left (by omega)]at h2
 exact⟨aY h1,h2⟩
theorem ac8{v r:List Int}{k m:Nat}(hv:Lim v)(hvl:v.length=m+2)(hr:Lim r)(hk:k+m+3≤r.length)(htop:500000000≤v[m+1])(hlt:win k (m+2) r<val v*1000000000):
  Kn (win k (m+2) r) (val v) r[k+m+2] r[k+m+1] r[k+m] v[m+1] v[m]:=by
 have hwl:((r.drop k).take (m+2+1)).length=m+3:=by rw[List.length_take,List.length_drop];omega
 have h3:=Qo hwl
 have h2:=Dc hvl
 have hl1:=(hr.drop k).take (m+2+1)
 have g:∀j (hj:j<m+3),((r.drop k).take (m+2+1))[j]=r[k+j]:=fun j hj=>by simp
 rw[g m (by omega),g (m+1) (by omega),g (m+2) (by omega)]at h3
 have t1:=hl1.take m
 have t2:=hv.take m
 have b1:=bQ t1
 have b2:=bQ t2
 rw[List.length_take,Nat.min_eq_left (by omega)]at b1 b2
 exact⟨⟨pw m,_,_,bR m,aY t1,b1,aY t2,b2,h3,h2⟩,hr.get (by omega),hr.get (by omega),hr.get (by omega),⟨htop,(hv.get (by omega)).2⟩,hv.get (by omega),hlt⟩
end Go.Proofs.YtlahabkjhgkkjaaGreat
namespace Go.Proofs.YtlahabkjhgkkjaaGreat
open Go.RowKit
theorem qD{r:List Int}{k i:Nat}(y:Int):(r.set (k+i) y).take k=r.take k:=List.take_set_of_le (by omega)
theorem qt{r:List Int}{k i n:Nat}(y:Int)(h:i≤n):(r.set (k+i) y).drop (k+n+1)=r.drop (k+n+1):=List.drop_set_of_lt (by omega)
section
variable (b:List Int) (x2:Int) (v:List Int) (m:Nat) (hN:(ac (val b).toNat).length=m+2) (hv:ac (val (dig ((ac (val b).toNat).length+([IntKind.u32.wrap (IntKind.u64.wrap (Int.tdiv 1000000000 (IntKind.u64.wrap ((IntKind.u64.wrap x2)+1))))]).length) (val (ac (val b).toNat)*val ([IntKind.u32.wrap (IntKind.u64.wrap (Int.tdiv 1000000000 (IntKind.u64.wrap ((IntKind.u64.wrap x2)+1))))])))).toNat=v) (lv:Lim v) (hvl:v.length=m+2)
include hN hv lv hvl
theorem Vt(k:Nat)(r0 r5:List Int)(g:Int)(hg:0≤g∧g<1000000000)(hk:k+(m+2)+1≤r0.length)(hsz:r0.length≤4000000000)(R:List RV)
  (hno:∀r,Lim r→r.length=r0.length→r.take k=r0.take k→r.drop (k+(m+2)+1)=r0.drop (k+(m+2)+1)→val r=val r0-pw k*(g*val v)→∃q,cB (dA.k q) b x2 (k:Int) r5 g g 0 0 ((m+2+1:Nat):Int) r=some R)
  (hyes:∀r,Lim r→r.length=r0.length→r.take k=r0.take k→r.drop (k+(m+2)+1)=r0.drop (k+(m+2)+1)→val r=val r0-pw k*(g*val v)+pw (k+(m+2)+1)→∃q,cB (dA.k q) b x2 (k:Int) r5 g g 0 1 ((m+2+1:Nat):Int) r=some R):
  ∀(j i:Nat) (c bo:Int) (r:List Int),i+j=m+2+1→0≤c→c<1000000000→(i=m+2+1→c=0)→0≤bo→bo≤1→Lim r→r.length=r0.length→r.take k=r0.take k→r.drop (k+(m+2)+1)=r0.drop (k+(m+2)+1)→
   val r=val r0-pw k*(g*val (v.take i))+pw (k+i)*(c+bo)→dA.Runs 8 (cq b x2 (k:Int) r5 g g c bo (i:Int) r) R:=by
 have e1:IntKind.i64.wrap ((k:Int)+((m+2:Nat):Int))=((k+(m+2):Nat):Int):=by rw[bk (by omega) (by omega)];simp
 have e2:IntKind.i64.wrap (((k+(m+2):Nat):Int)+1)=((k+(m+2)+1:Nat):Int):=cI (by omega)
 have e3:k+(m+2)+1-k=m+2+1:=by omega
 intro j
 induction j with
 |zero=>
  intro i c bo r hi c0 c1 hc b0 b1 lr hl ht hd hval
  obtain rfl:i=m+2+1:=by omega
  obtain rfl:=hc rfl
  rw[List.take_of_length_le (by omega)]at hval
  refine d8 _ _ _ _ _ _ _ _ _ _ ?_
  rcases(show bo=0∨bo=1 by omega)with rfl|rfl
  ·exact hno r lr hl ht hd (by rw[hval];simp)
  ·exact hyes r lr hl ht hd (by rw[hval];simp;rfl)
 |succ j ih=>
  intro i c bo r hi c0 c1 hc b0 b1 lr hl ht hd hval
  have hir:k+i<r.length:=by omega
  have xr:=lr.get hir
  have hwi:decide ((0:Int)≤(i:Int)∧(i:Int)<((m+2+1:Nat):Int))=true:=decide_eq_true (by omega)
  have hlt:decide ((i:Int)<((m+2+1:Nat):Int))=true:=decide_eq_true (by omega)
  have hw:=hv
  have step:∀(c' y bo':Int),0≤c'→c'<1000000000→(i+1=m+2+1→c'=0)→0≤y→y<1000000000→0≤bo'→bo'≤1→y=r[k+i]-(val (v.take (i+1))-val (v.take i))/pw i*g-c+1000000000*c'-bo+1000000000*bo'→pw i*((val (v.take (i+1))-val (v.take i))/pw i)=val (v.take (i+1))-val (v.take i)→
    dA.Runs 8 (cq b x2 (k:Int) r5 g g c' bo' ((i+1:Nat):Int) (r.set (k+i) y)) R:=by
   intro c' y bo' k0 k1 kc y0 y1 k2 k3 hy hp
   refine ih (i+1) c' bo' (r.set (k+i) y) (by omega) k0 k1 kc k2 k3 (lr.set _ ⟨y0,y1⟩) (by simpa using hl) (by rw[qD];exact ht) (by rw[qt _ (by omega)];exact hd) ?_
   rw[dN hir,hval,hy,show k+(i+1)=k+i+1 by omega,bZ,dV]
   generalize (val (v.take (i+1))-val (v.take i))/pw i=d at*
   have:val (v.take (i+1))=val (v.take i)+pw i*d:=by omega
   rw[this]
   grind
  by_cases hiv:i<m+2
  ·have hiv':i<v.length:=by omega
   have xv:=lv.get hiv'
   have hdv:(val (v.take (i+1))-val (v.take i))/pw i=v[i]:=by
    rw[bi hiv',show val (v.take i)+pw i*v[i]-val (v.take i)=pw i*v[i] by omega,Int.mul_ediv_cancel_left _ (by have:=bR i;omega)]
   rw[hdv]at step
   have hbd:=GN (r:=0) (by decide) xv hg ⟨c0,c1⟩
   have t0:0≤c+v[i]*g:=by omega
   have q0:0≤(c+v[i]*g)/1000000000∧(c+v[i]*g)/1000000000<1000000000:=by omega
   have hpv:pw i*v[i]=val (v.take (i+1))-val (v.take i):=by rw[bi hiv'];omega
   by_cases hc2:r[k+i]<(c+v[i]*g)%1000000000+bo
   ·obtain⟨q,hq⟩:=step ((c+v[i]*g)/1000000000) (r[k+i]+1000000000-((c+v[i]*g)%1000000000+bo)) 1 q0.1 q0.2 (by omega) (by omega) (by omega) (by omega) (by omega) (by omega) hpv
    refine d8 _ _ _ _ _ _ _ _ _ _ ⟨q,?_⟩
    unfold cB
    rw[hw,hN,e1,e2,aM,aM,e3,hlt,hwi,hvl,ct hiv,aB v i,List.getElem?_eq_getElem hiv',aM,List.getElem?_eq_getElem hir]
    dsimp only
    rw[bz (x:=v[i]) (by omega) (by omega),bz (x:=v[i]*g) (by omega) (by omega),bz (x:=c+v[i]*g) (by omega) (by omega),gJ t0,eN t0,bz (x:=(c+v[i]*g)/1000000000) (by omega) (by omega),bz (x:=(c+v[i]*g)%1000000000+bo) (by omega) (by omega),bz (x:=r[k+i]) (by omega) (by omega),decide_eq_true hc2,
     bz (x:=r[k+i]+1000000000) (by omega) (by omega),bz (x:=r[k+i]+1000000000-((c+v[i]*g)%1000000000+bo)) (by omega) (by omega),cG (x:=r[k+i]+1000000000-((c+v[i]*g)%1000000000+bo)) (by omega) (by omega),cI (k:=i) (by omega)]
    exact hq
   ·obtain⟨q,hq⟩:=step ((c+v[i]*g)/1000000000) (r[k+i]-((c+v[i]*g)%1000000000+bo)) 0 q0.1 q0.2 (by omega) (by omega) (by omega) (by omega) (by omega) (by omega) hpv
    refine d8 _ _ _ _ _ _ _ _ _ _ ⟨q,?_⟩
    unfold cB
    rw[hw,hN,e1,e2,aM,aM,e3,hlt,hwi,hvl,ct hiv,aB v i,List.getElem?_eq_getElem hiv',aM,List.getElem?_eq_getElem hir]
    dsimp only
    rw[bz (x:=v[i]) (by omega) (by omega),bz (x:=v[i]*g) (by omega) (by omega),bz (x:=c+v[i]*g) (by omega) (by omega),gJ t0,eN t0,bz (x:=(c+v[i]*g)/1000000000) (by omega) (by omega),bz (x:=(c+v[i]*g)%1000000000+bo) (by omega) (by omega),bz (x:=r[k+i]) (by omega) (by omega),decide_eq_false hc2,
     bz (x:=r[k+i]-((c+v[i]*g)%1000000000+bo)) (by omega) (by omega),cG (x:=r[k+i]-((c+v[i]*g)%1000000000+bo)) (by omega) (by omega),cI (k:=i) (by omega)]
    exact hq
  ·have hpz:val (v.take (i+1))-val (v.take i)=0:=by rw[ij (by omega)];omega
   rw[hpz]at step
   simp only[Int.zero_ediv,Int.zero_mul,Int.mul_zero,Int.sub_zero,forall_const]at step
   have m0:c%1000000000=c:=by omega
   have d0:c/1000000000=0:=by omega
   by_cases hc2:r[k+i]<c+bo
   ·obtain⟨q,hq⟩:=step 0 (r[k+i]+1000000000-(c+bo)) 1 (by omega) (by omega) (by omega) (by omega) (by omega) (by omega) (by omega) (by omega)
    refine d8 _ _ _ _ _ _ _ _ _ _ ⟨q,?_⟩
    unfold cB
    rw[hw,hN,e1,e2,aM,aM,e3,hlt,hwi,hvl,cN (show m+2≤i by omega),aM,List.getElem?_eq_getElem hir]
    dsimp only
    rw[gJ c0,eN c0,m0,d0,bz (x:=0) (by omega) (by omega),bz (x:=c+bo) (by omega) (by omega),bz (x:=r[k+i]) (by omega) (by omega),decide_eq_true hc2,
     bz (x:=r[k+i]+1000000000) (by omega) (by omega),bz (x:=r[k+i]+1000000000-(c+bo)) (by omega) (by omega),cG (x:=r[k+i]+1000000000-(c+bo)) (by omega) (by omega),cI (k:=i) (by omega)]
    exact hq
   ·obtain⟨q,hq⟩:=step 0 (r[k+i]-(c+bo)) 0 (by omega) (by omega) (by omega) (by omega) (by omega) (by omega) (by omega) (by omega)
    refine d8 _ _ _ _ _ _ _ _ _ _ ⟨q,?_⟩
    unfold cB
    rw[hw,hN,e1,e2,aM,aM,e3,hlt,hwi,hvl,cN (show m+2≤i by omega),aM,List.getElem?_eq_getElem hir]
    dsimp only
    rw[gJ c0,eN c0,m0,d0,bz (x:=0) (by omega) (by omega),bz (x:=c+bo) (by omega) (by omega),bz (x:=r[k+i]) (by omega) (by omega),decide_eq_false hc2,
     bz (x:=r[k+i]-(c+bo)) (by omega) (by omega),cG (x:=r[k+i]-(c+bo)) (by omega) (by omega),cI (k:=i) (by omega)]
    exact hq
end
end Go.Proofs.YtlahabkjhgkkjaaGreat
namespace Go.Proofs.YtlahabkjhgkkjaaGreat
open Go.RowKit
section
variable (b:List Int) (x2:Int) (v:List Int) (m:Nat) (hN:(ac (val b).toNat).length=m+2) (hv:ac (val (dig ((ac (val b).toNat).length+([IntKind.u32.wrap (IntKind.u64.wrap (Int.tdiv 1000000000 (IntKind.u64.wrap ((IntKind.u64.wrap x2)+1))))]).length) (val (ac (val b).toNat)*val ([IntKind.u32.wrap (IntKind.u64.wrap (Int.tdiv 1000000000 (IntKind.u64.wrap ((IntKind.u64.wrap x2)+1))))])))).toNat=v) (lv:Lim v) (hvl:v.length=m+2)
include hN hv lv hvl
theorem Qr(k:Nat)(r0 r5:List Int)(f:Int)(hk:k+(m+2)+1≤r0.length)(hsz:r0.length≤4000000000)(R:List RV)
  (hend:∀r c,Lim r→r.length=r0.length→r.take k=r0.take k→r.drop (k+(m+2)+1)=r0.drop (k+(m+2)+1)→0≤c→c≤1→val r=val r0+pw k*val v-pw (k+(m+2)+1)*c→∃q,cL (dA.k q) b x2 (k:Int) r5 f c ((m+2+1:Nat):Int) r=some R):
  ∀(j i:Nat) (c:Int) (r:List Int),i+j=m+2+1→0≤c→c≤1→Lim r→r.length=r0.length→r.take k=r0.take k→r.drop (k+(m+2)+1)=r0.drop (k+(m+2)+1)→
   val r=val r0+pw k*val (v.take i)-pw (k+i)*c→dA.Runs 5 (cE b x2 (k:Int) r5 f c (i:Int) r) R:=by
 have e1:IntKind.i64.wrap ((k:Int)+((m+2:Nat):Int))=((k+(m+2):Nat):Int):=by rw[bk (by omega) (by omega)];simp
 have e2:IntKind.i64.wrap (((k+(m+2):Nat):Int)+1)=((k+(m+2)+1:Nat):Int):=cI (by omega)
 have e3:k+(m+2)+1-k=m+2+1:=by omega
 intro j
 induction j with
 |zero=>
  intro i c r hi c0 c1 lr hl ht hd hval
  obtain rfl:i=m+2+1:=by omega
  rw[List.take_of_length_le (by omega)]at hval
  refine ed _ _ _ _ _ _ _ _ ?_
  exact hend r c lr hl ht hd c0 c1 hval
 |succ j ih=>
  intro i c r hi c0 c1 lr hl ht hd hval
  have hir:k+i<r.length:=by omega
  have xr:=lr.get hir
  have hwi:decide ((0:Int)≤(i:Int)∧(i:Int)<((m+2+1:Nat):Int))=true:=decide_eq_true (by omega)
  have hlt:decide ((i:Int)<((m+2+1:Nat):Int))=true:=decide_eq_true (by omega)
  have hw:=hv
  have step:∀(c' y d:Int),0≤c'→c'≤1→0≤y→y<1000000000→y=r[k+i]+c+d-1000000000*c'→val (v.take (i+1))=val (v.take i)+pw i*d→
    dA.Runs 5 (cE b x2 (k:Int) r5 f c' ((i+1:Nat):Int) (r.set (k+i) y)) R:=by
   intro c' y d k0 k1 y0 y1 hy hp
   refine ih (i+1) c' (r.set (k+i) y) (by omega) k0 k1 (lr.set _ ⟨y0,y1⟩) (by simpa using hl) (by rw[qD];exact ht) (by rw[qt _ (by omega)];exact hd) ?_
   rw[dN hir,hval,hy,hp,show k+(i+1)=k+i+1 by omega,bZ,dV]
   grind
  by_cases hiv:i<m+2
  ·have hiv':i<v.length:=by omega
   have xv:=lv.get hiv'
   have hpv:=bi hiv'
   by_cases hc2:r[k+i]+c+v[i]≥1000000000
   ·obtain⟨q,hq⟩:=step 1 (r[k+i]+c+v[i]-1000000000) v[i] (by omega) (by omega) (by omega) (by omega) (by omega) hpv
    refine ed _ _ _ _ _ _ _ _ ⟨q,?_⟩
    unfold cL
    rw[hw,hN,e1,e2,aM,aM,e3,hlt,hwi,hvl,ct hiv,aB v i,List.getElem?_eq_getElem hiv',aM,List.getElem?_eq_getElem hir]
    dsimp only
    rw[cG (x:=r[k+i]+c) (by omega) (by omega),cG (x:=r[k+i]+c+v[i]) (by omega) (by omega),decide_eq_true hc2,cG (x:=r[k+i]+c+v[i]-1000000000) (by omega) (by omega),cI (k:=i) (by omega)]
    exact hq
   ·obtain⟨q,hq⟩:=step 0 (r[k+i]+c+v[i]) v[i] (by omega) (by omega) (by omega) (by omega) (by omega) hpv
    refine ed _ _ _ _ _ _ _ _ ⟨q,?_⟩
    unfold cL
    rw[hw,hN,e1,e2,aM,aM,e3,hlt,hwi,hvl,ct hiv,aB v i,List.getElem?_eq_getElem hiv',aM,List.getElem?_eq_getElem hir]
    dsimp only
    rw[cG (x:=r[k+i]+c) (by omega) (by omega),cG (x:=r[k+i]+c+v[i]) (by omega) (by omega),decide_eq_false hc2,cI (k:=i) (by omega)]
    exact hq
  ·have hpz:val (v.take (i+1))=val (v.take i)+pw i*0:=by rw[ij (by omega)];simp
   by_cases hc2:r[k+i]+c≥1000000000
   ·obtain⟨q,hq⟩:=step 1 (r[k+i]+c-1000000000) 0 (by omega) (by omega) (by omega) (by omega) (by omega) hpz
    refine ed _ _ _ _ _ _ _ _ ⟨q,?_⟩
    unfold cL
    rw[hw,hN,e1,e2,aM,aM,e3,hlt,hwi,hvl,cN (show m+2≤i by omega),aM,List.getElem?_eq_getElem hir]
    dsimp only
    rw[cG (x:=r[k+i]+c) (by omega) (by omega),decide_eq_true hc2,cG (x:=r[k+i]+c-1000000000) (by omega) (by omega),cI (k:=i) (by omega)]
    exact hq
   ·obtain⟨q,hq⟩:=step 0 (r[k+i]+c) 0 (by omega) (by omega) (by omega) (by omega) (by omega) hpz
    refine ed _ _ _ _ _ _ _ _ ⟨q,?_⟩
    unfold cL
    rw[hw,hN,e1,e2,aM,aM,e3,hlt,hwi,hvl,cN (show m+2≤i by omega),aM,List.getElem?_eq_getElem hir]
    dsimp only
    rw[cG (x:=r[k+i]+c) (by omega) (by omega),decide_eq_false hc2,cI (k:=i) (by omega)]
    exact hq
theorem GA(k:Nat)(r1 r5:List Int)(hk:k+m+3≤r1.length)(hsz:r1.length≤4000000000)(R:List RV)(K:Kn (win k (m+2) r1) (val v) r1[k+m+2] r1[k+m+1] r1[k+m] v[m+1] v[m])
  (hafter:∀g,0≤g→g<1000000000→win k (m+2) r1<(g+1)*val v→g*val v<win k (m+2) r1+val v→dA.Runs 8 (cq b x2 (k:Int) r5 g g 0 0 0 r1) R):
  ∀(fuel:Nat) (g rest:Int),g≤(fuel:Int)→0≤g→g≤2000000000→0≤rest→rest<1000000000→g*v[m+1]+rest=r1[k+m+2]*1000000000+r1[k+m+1]→win k (m+2) r1<(g+1)*val v→dA.Runs 49 (gS b x2 (k:Int) r1 r5 g rest) R:=by
 have _lv:=lv
 have e1:IntKind.i64.wrap ((k:Int)+((m+2:Nat):Int))=((k+m+2:Nat):Int):=by rw[bk (by omega) (by omega)];simp;omega
 have e2:IntKind.i64.wrap (((k+m+2:Nat):Int)+1)=((k+m+3:Nat):Int):=by rw[bk (by omega) (by omega)];simp;omega
 have e3:IntKind.i64.wrap (((m+2:Nat):Int)-1)=((m+1:Nat):Int):=by rw[bk (by omega) (by omega)];omega
 have e4:IntKind.i64.wrap (((m+2:Nat):Int)-2)=((m:Nat):Int):=by rw[bk (by omega) (by omega)];omega
 have e5:IntKind.i64.wrap (((k+m+2:Nat):Int)-2)=((k+m:Nat):Int):=by rw[bk (by omega) (by omega)];omega
 have hsl:decide ((0:Int)≤(k:Int)∧(k:Int)≤((k+m+3:Nat):Int)∧((k+m+3:Nat):Int)≤(r1.length:Int))=true:=decide_eq_true (by omega)
 have hV:=K.pos
 have htop:=K.top
 have ku2:=K.u2
 have ku1:=K.u1
 have ku0:=K.u0
 have kv1:=K.v1
 have kv0:=K.v0
 intro fuel
 induction fuel with
 |zero=>
  intro g rest hf g0 gB r0 r1' he hlt
  obtain rfl:g=0:=by omega
  obtain⟨q,hq⟩:=hafter 0 (by omega) (by omega) hlt (by have:=hlt;have:=K.small (g:=0) (rest:=rest) (by omega) (by omega) he (by omega);omega)
  refine mu _ _ _ _ _ _ _ ⟨q,?_⟩
  unfold gj
  rw[decide_eq_false (by omega),hv,hN,e1,e2,e4,e5,aB v m,List.getElem?_eq_getElem (by omega),aB r1 (k+m),aM,List.getElem?_eq_getElem (show k+m<r1.length by omega)]
  dsimp only
  rw[bz (x:=v[m]) (by omega) (by omega),Int.zero_mul,bz (x:=0) (by omega) (by omega),bz (x:=rest*1000000000) (by omega) (by omega),bz (x:=r1[k+m]) (by omega) (by omega),bz (x:=rest*1000000000+r1[k+m]) (by omega) (by omega),decide_eq_false (by omega),hsl]
  exact hq
 |succ fuel ih=>
  intro g rest hf g0 gB rr0 rr1 he hlt
  have down:win k (m+2) r1<g*val v→∃q,(match decide (IntKind.u64.wrap (rest+IntKind.u64.wrap v[m+1])≥1000000000)with|true=>dA.k q 8 (cq b x2 (k:Int) r5 (IntKind.u64.wrap (g-1)) (IntKind.u64.wrap (g-1)) 0 0 0 r1)|false=>dA.k q 49 (gS b x2 (k:Int) r1 r5 (IntKind.u64.wrap (g-1)) (IntKind.u64.wrap (rest+IntKind.u64.wrap v[m+1]))))=some R:=by
   intro hw
   have gp:1≤g:=by
    rcases Int.lt_or_le 0 g with h|h
    ·exact h
    ·exfalso
     have hg:g=0:=by omega
     subst hg
     rw[Int.zero_mul]at hw
     obtain⟨⟨P,wl,vl,p0,a1,a2,b1,b2,hw',hV'⟩,_⟩:=K
     have:=Int.mul_nonneg (Int.le_of_lt p0) (show 0≤r1[k+m]+1000000000*r1[k+m+1]+1000000000*1000000000*r1[k+m+2] by omega)
     omega
   have he':(g-1)*v[m+1]+(rest+v[m+1])=r1[k+m+2]*1000000000+r1[k+m+1]:=by rw[←he];grind
   have hw':win k (m+2) r1<(g-1+1)*val v:=by rw[show g-1+1=g by omega];exact hw
   rw[bz (x:=v[m+1]) (by omega) (by omega),bz (x:=rest+v[m+1]) (by omega) (by omega),bz (x:=g-1) (by omega) (by omega)]
   by_cases hb:rest+v[m+1]≥1000000000
   ·have gl:g-1<1000000000:=by
     rcases Int.lt_or_le (g-1) 1000000000 with h|h
     ·exact h
     ·exfalso
      have e1:=Int.mul_le_mul_of_nonneg_right h (show 0≤v[m+1] by omega)
      have e2:=Int.mul_le_mul_of_nonneg_right htop (show(0:Int)≤1000000000 by decide)
      omega
    have e1:(g-1)*v[m]≤1000000000*1000000000:=Int.mul_le_mul (by omega) (by omega) (by omega) (by decide)
    obtain⟨q,hq⟩:=hafter (g-1) (by omega) gl hw' (K.small (by omega) (by omega) he' (by omega))
    exact⟨q,by rw[decide_eq_true hb];exact hq⟩
   ·obtain⟨q,hq⟩:=ih (g-1) (rest+v[m+1]) (by omega) (by omega) (by omega) (by omega) (by omega) he' hw'
    exact⟨q,by rw[decide_eq_false hb];exact hq⟩
  by_cases hgB:g≥1000000000
  ·obtain⟨q,hq⟩:=down (by
    have h1:=K.lt
    have:=Int.mul_le_mul_of_nonneg_right hgB (Int.le_of_lt hV)
    rw[Int.mul_comm]at h1
    omega)
   refine mu _ _ _ _ _ _ _ ⟨q,?_⟩
   unfold gj
   rw[decide_eq_true hgB,hv,hN,e1,e2,e3,aB v (m+1),List.getElem?_eq_getElem (show m+1<v.length by omega),hsl]
   exact hq
  ·have hgv:g*v[m]≤1000000000*1000000000:=Int.mul_le_mul (by omega) (by omega) (by omega) (by decide)
   have hgv0:0≤g*v[m]:=Int.mul_nonneg g0 (by omega)
   by_cases hc:g*v[m]>rest*1000000000+r1[k+m]
   ·obtain⟨q,hq⟩:=down (K.great g0 he hc)
    refine mu _ _ _ _ _ _ _ ⟨q,?_⟩
    unfold gj
    rw[decide_eq_false hgB,hv,hN,e1,e2,e3,e4,e5,aB v m,List.getElem?_eq_getElem (show m<v.length by omega),aB v (m+1),List.getElem?_eq_getElem (show m+1<v.length by omega),aB r1 (k+m),aM,List.getElem?_eq_getElem (show k+m<r1.length by omega),hsl]
    dsimp only
    rw[bz (x:=v[m]) (by omega) (by omega),bz (x:=g*v[m]) (by omega) (by omega),bz (x:=rest*1000000000) (by omega) (by omega),bz (x:=r1[k+m]) (by omega) (by omega),bz (x:=rest*1000000000+r1[k+m]) (by omega) (by omega),decide_eq_true hc]
    exact hq
   ·obtain⟨q,hq⟩:=hafter g g0 (by omega) hlt (K.small g0 (by omega) he (by omega))
    refine mu _ _ _ _ _ _ _ ⟨q,?_⟩
    unfold gj
    rw[decide_eq_false hgB,hv,hN,e1,e2,e4,e5,aB v m,List.getElem?_eq_getElem (show m<v.length by omega),aB r1 (k+m),aM,List.getElem?_eq_getElem (show k+m<r1.length by omega),hsl]
    dsimp only
    rw[bz (x:=v[m]) (by omega) (by omega),bz (x:=g*v[m]) (by omega) (by omega),bz (x:=rest*1000000000) (by omega) (by omega),bz (x:=r1[k+m]) (by omega) (by omega),bz (x:=rest*1000000000+r1[k+m]) (by omega) (by omega),decide_eq_false hc]
    exact hq
end
end Go.Proofs.YtlahabkjhgkkjaaGreat
namespace Go.Proofs.YtlahabkjhgkkjaaGreat
open Go.RowKit
section
variable (b:List Int) (x2:Int) (v:List Int) (m:Nat) (hN:(ac (val b).toNat).length=m+2) (hv:ac (val (dig ((ac (val b).toNat).length+([IntKind.u32.wrap (IntKind.u64.wrap (Int.tdiv 1000000000 (IntKind.u64.wrap ((IntKind.u64.wrap x2)+1))))]).length) (val (ac (val b).toNat)*val ([IntKind.u32.wrap (IntKind.u64.wrap (Int.tdiv 1000000000 (IntKind.u64.wrap ((IntKind.u64.wrap x2)+1))))])))).toNat=v) (lv:Lim v) (hvl:v.length=m+2)
include hN hv lv hvl
set_option maxHeartbeats 2000000 in
theorem PE(sc:Int)(hsc:IntKind.u32.wrap (IntKind.u64.wrap (Int.tdiv 1000000000 (IntKind.u64.wrap ((IntKind.u64.wrap x2)+1))))=sc)(hs1:1≤sc)(hs2:sc≤500000000)(htop:500000000≤v[m+1])(A:Int):
  ∀(M:Nat) (r5 r1:List Int),Lim r5→Lim r1→r1.length=r5.length+(m+2)→r1.length≤1000000000→M≤r5.length→val v*val r5+val r1=A→(∀j (hj:j<r5.length),j<M→r5[j]=0)→val r1<val v*pw M→
   ∃qL rL,(Lim qL∧Lim rL∧qL.length=r5.length∧rL.length≤m+2∧val qL=A/val v∧val rL=A%val v/sc)∧dA.Runs 34 (ja b x2 ((M:Int)-1) r5 r1) [.d (.sl (.int .u32)) qL,.d (.sl (.int .u32)) rL]:=by
 have hVlt:=bQ lv
 rw[hvl]at hVlt
 have hV0:0<val v:=by
  rw[Dc hvl]
  have h1:=aY (lv.take m)
  have h2:=lv.get (show m<v.length by omega)
  have h3:=Int.mul_pos (bR m) (show 0<v[m]+1000000000*v[m+1] by omega)
  omega
 intro M
 induction M with
 |zero=>
  intro r5 r1 l5 l1 hlen hsz hM hA hz hlt
  rw[kr,Int.mul_one]at hlt
  have h0:=aY l1
  have eQ:A/val v=val r5:=by rw[←hA,Int.add_comm,Int.add_mul_ediv_left _ _ (by omega),Int.ediv_eq_zero_of_lt h0 hlt];omega
  have eR:A%val v=val r1:=by rw[←hA,Int.add_comm,Int.add_mul_emod_self_left];exact Int.emod_eq_of_lt h0 hlt
  have ht:val (r1.take (m+2))=val r1:=by
   have hs:=eu r1 (m+2)
   rw[Nat.min_eq_left (by omega)]at hs
   have h2:=aY (l1.drop (m+2))
   have h3:=aY (l1.take (m+2))
   rcases Int.lt_or_le 0 (val (r1.drop (m+2)))with hc|hc
   ·have:=Int.mul_le_mul_of_nonneg_left (show 1≤val (r1.drop (m+2)) by omega) (Int.le_of_lt (bR (m+2)))
    omega
   ·have e:val (r1.drop (m+2))=0:=by omega
    rw[e]at hs
    omega
  have hlX:(ac (val r1).toNat).length≤m+2:=cJ (by omega)
  have hX:=bE (val r1).toNat
  have hXv:val (ac (val r1).toNat)=val r1:=by omega
  have hd0:0≤val r1/sc:=Int.ediv_nonneg h0 (by omega)
  have hd1:val r1/sc≤val r1:=Int.ediv_le_self _ h0
  have hXl:=bQ (bT (val r1).toNat)
  refine⟨r5,dig (ac (val r1).toNat).length (val r1/sc),⟨l5,kP _ _,rfl,by rw[gu];exact hlX,eQ.symm,by rw[eR,fx _ _ hd0 (by omega)]⟩,wc _ _ _ _ _ ⟨0,?_⟩⟩
  unfold jO
  rw[decide_eq_false (by omega),hN,hsc,aM,show(0:Int).toNat=0 from rfl,Nat.sub_zero,List.drop_zero,decide_eq_true (show(0:Int)≤0∧(0:Int)≤((m+2:Nat):Int)∧((m+2:Nat):Int)≤(r1.length:Int) by omega),ht,hXv,
   decide_eq_true (show a8 (r1.take (m+2)) from⟨l1.take _,by rw[List.length_take];omega⟩),decide_eq_true (show C3 (ac (val r1).toNat) sc from⟨⟨bT _,by omega⟩,hs1,by omega⟩)]
 |succ k ih=>
  intro r5 r1 l5 l1 hlen hsz hM hA hz hlt
  have hk3:k+(m+2)+1≤r1.length:=by omega
  have hP:=bR k
  have hr0:=aY l1
  have hz1:val (r1.drop (k+(m+2)+1))=0:=by
   have hs:=eu r1 (k+(m+2)+1)
   rw[Nat.min_eq_left hk3]at hs
   have h2:=aY (l1.drop (k+(m+2)+1))
   have h3:=aY (l1.take (k+(m+2)+1))
   rcases Int.lt_or_le 0 (val (r1.drop (k+(m+2)+1)))with hc|hc
   ·exfalso
    have e1:=Int.mul_le_mul_of_nonneg_left (show 1≤val (r1.drop (k+(m+2)+1)) by omega) (Int.le_of_lt (bR (k+(m+2)+1)))
    have e2:=Int.mul_le_mul_of_nonneg_right (Int.le_of_lt hVlt) (Int.le_of_lt (bR (k+1)))
    rw[←dV,show m+2+(k+1)=k+(m+2)+1 by omega]at e2
    omega
   ·omega
  have hw1:=J9 hk3 hz1
  have hwb:=Ue l1 hk3
  have hwlt:win k (m+2) r1<val v*1000000000:=by
   rcases Int.lt_or_le (win k (m+2) r1) (val v*1000000000)with hc|hc
   ·exact hc
   ·exfalso
    have e1:=Int.mul_le_mul_of_nonneg_left hc (Int.le_of_lt hP)
    have e2:=aY (l1.take k)
    have e3:val v*pw (k+1)=pw k*(val v*1000000000):=by rw[bZ];grind
    omega
  have K:=ac8 lv hvl l1 (show k+m+3≤r1.length by omega) htop hwlt
  have htk:=bQ (l1.take k)
  rw[List.length_take,Nat.min_eq_left (by omega)]at htk
  have htk0:=aY (l1.take k)
  have hk5:k<r5.length:=by omega
  have hr5:=hz k hk5 (by omega)
  have e1:IntKind.i64.wrap ((k:Int)+((m+2:Nat):Int))=((k+(m+2):Nat):Int):=by rw[bk (by omega) (by omega)];simp
  have e2:IntKind.i64.wrap (((k+(m+2):Nat):Int)+1)=((k+(m+2)+1:Nat):Int):=cI (by omega)
  have e3:k+(m+2)+1-k=m+2+1:=by omega
  have fin:∀(d:Int) (r:List Int),0≤d→d<1000000000→Lim r→r.length=r1.length→r.take k=r1.take k→r.drop (k+(m+2)+1)=r1.drop (k+(m+2)+1)→val r=val r1-pw k*(d*val v)→win k (m+2) r1-d*val v<val v→
    ∃qL rL,(Lim qL∧Lim rL∧qL.length=r5.length∧rL.length≤m+2∧val qL=A/val v∧val rL=A%val v/sc)∧dA.Runs 34 (ja b x2 ((k:Int)-1) (r5.set k d) r) [.d (.sl (.int .u32)) qL,.d (.sl (.int .u32)) rL]:=by
   intro d r d0 d1 lr hl ht hd hval hwd
   obtain⟨qL,rL,⟨a1,a2,a3,a4,a5,a6⟩,a7⟩:=ih (r5.set k d) r (l5.set k ⟨d0,d1⟩) lr (by simp;omega) (by omega) (by simp;omega) (by
     rw[dN hk5,hr5,hval,←hA];grind) (fun j hj hjk=>by rw[List.getElem_set_ne (by omega)];exact hz j (by simpa using hj) (by omega)) (by
     rw[hval,hw1]
     have e4:=Int.mul_le_mul_of_nonneg_left (show win k (m+2) r1-d*val v≤val v-1 by omega) (Int.le_of_lt hP)
     rw[Int.mul_sub,Int.mul_sub,Int.mul_one]at e4
     rw[Int.mul_comm (val v)]
     omega)
   exact⟨qL,rL,⟨a1,a2,by simpa using a3,a4,a5,a6⟩,a7⟩
  have wof:∀(r:List Int) (x:Int),Lim r→r.length=r1.length→r.take k=r1.take k→r.drop (k+(m+2)+1)=r1.drop (k+(m+2)+1)→val r=val r1+pw k*x→win k (m+2) r=win k (m+2) r1+x∧0≤win k (m+2) r∧win k (m+2) r<pw (m+2+1):=by
   intro r x lr hl ht hd hval
   have h1:=J9 (k:=k) (n:=m+2) (r:=r) (by omega) (by rw[hd];exact hz1)
   rw[ht]at h1
   have h2:=Ue (k:=k) (n:=m+2) lr (by omega)
   refine⟨?_,h2⟩
   have:pw k*win k (m+2) r=pw k*(win k (m+2) r1+x):=by rw[Int.mul_add];omega
   exact Int.eq_of_mul_eq_mul_left (by omega) this
  have hpw:pw (k+(m+2)+1)=pw k*pw (m+2+1):=by rw[←dV];congr 1
  have xt:=K.u2
  have xt1:=K.u1
  have xv:=K.v1
  have hg0:0≤(r1[k+m+2]*1000000000+r1[k+m+1])/v[m+1]:=Int.ediv_nonneg (by omega) (by omega)
  have hg1:(r1[k+m+2]*1000000000+r1[k+m+1])/v[m+1]<2000000000:=Int.ediv_lt_of_lt_mul (by omega) (by
   have:=Int.mul_le_mul_of_nonneg_left xv.1 (show(0:Int)≤2000000000 by decide)
   omega)
  have md:=Int.mul_ediv_add_emod (r1[k+m+2]*1000000000+r1[k+m+1]) v[m+1]
  have m0:=Int.emod_nonneg (r1[k+m+2]*1000000000+r1[k+m+1]) (show v[m+1]≠0 by omega)
  have m1:=Int.emod_lt_of_pos (r1[k+m+2]*1000000000+r1[k+m+1]) (show 0<v[m+1] by omega)
  have key:∃qL rL,(Lim qL∧Lim rL∧qL.length=r5.length∧rL.length≤m+2∧val qL=A/val v∧val rL=A%val v/sc)∧dA.Runs 49 (gS b x2 (k:Int) r1 r5 ((r1[k+m+2]*1000000000+r1[k+m+1])/v[m+1]) ((r1[k+m+2]*1000000000+r1[k+m+1])%v[m+1])) [.d (.sl (.int .u32)) qL,.d (.sl (.int .u32)) rL]:=by
   have hex:∃g,0≤g∧g<1000000000∧g*val v≤win k (m+2) r1∧win k (m+2) r1<(g+1)*val v:=by
    have h1:=Int.mul_ediv_add_emod (win k (m+2) r1) (val v)
    have h2:=Int.emod_nonneg (win k (m+2) r1) (show val v≠0 by omega)
    have h3:=Int.emod_lt_of_pos (win k (m+2) r1) hV0
    refine⟨win k (m+2) r1/val v,Int.ediv_nonneg hwb.1 (by omega),Int.ediv_lt_of_lt_mul hV0 (by rw[Int.mul_comm];exact hwlt),?_,?_⟩
    ·rw[Int.mul_comm];omega
    ·rw[Int.add_mul,Int.one_mul,Int.mul_comm];omega
   obtain⟨d,d0,d1,d2,d3⟩:=hex
   have dv0:0≤d*val v:=Int.mul_nonneg d0 (by omega)
   have hrow:∃r,Lim r∧r.length=r1.length∧r.take k=r1.take k∧r.drop (k+(m+2)+1)=r1.drop (k+(m+2)+1)∧val r=val r1-pw k*(d*val v):=by
    refine⟨r1.take k++(dig (m+2+1) (win k (m+2) r1-d*val v)++r1.drop (k+(m+2)+1)),(l1.take k).append ((kP _ _).append (l1.drop _)),by simp[gu];omega,?_,?_,?_⟩
    ·rw[List.take_append_of_le_length (by simp;omega),List.take_take,Nat.min_self]
    ·rw[←List.append_assoc,List.drop_append_of_le_length (by simp[gu];omega),List.drop_eq_nil_of_le (by simp[gu];omega),List.nil_append]
    ·rw[cT,cT,hz1,fx _ _ (by omega) (by omega),List.length_take,Nat.min_eq_left (by omega),hw1]
     grind
   obtain⟨rr,q1,q2,q3,q4,q5⟩:=hrow
   obtain⟨qL,rL,hf,hrun⟩:=fin d rr d0 d1 q1 q2 q3 q4 q5 (by rw[Int.add_mul,Int.one_mul]at d3;omega)
   refine⟨qL,rL,hf,GA b x2 v m hN hv lv hvl k r1 r5 (by omega) (by omega) _ K ?_ 2000000000 _ _ (by omega) hg0 (by omega) m0 (by omega) (by rw[Int.mul_comm];omega) (K.first rfl)⟩
   intro g g0 g1 hg2 hg3
   have same:∀r,Lim r→r.length=r1.length→r.take k=r1.take k→r.drop (k+(m+2)+1)=r1.drop (k+(m+2)+1)→val r=val r1-pw k*(d*val v)→r=rr:=fun r a1 a2 a3 a4 a5=>zI a1 q1 (by omega) (by omega)
   refine Vt b x2 v m hN hv lv hvl k r1 r5 g ⟨g0,g1⟩ hk3 (by omega) _ ?_ ?_ (m+2+1) 0 0 0 r1 (by omega) (by omega) (by omega) (fun _=>rfl) (by omega) (by omega) l1 rfl rfl rfl (by simp[val])
   ·intro r a1 a2 a3 a4 a5
    obtain⟨w1,w2,w3⟩:=wof r (-(g*val v)) a1 a2 a3 a4 (by rw[a5,Int.mul_neg];omega)
    have hgd:g=d:=by
     have h1:¬g<d:=fun hc=>by
      have:=Int.mul_le_mul_of_nonneg_right (show g+1≤d by omega) (Int.le_of_lt hV0)
      omega
     have h2:¬d<g:=fun hc=>by
      have:=Int.mul_le_mul_of_nonneg_right (show d+1≤g by omega) (Int.le_of_lt hV0)
      omega
     omega
    subst hgd
    rw[same r a1 a2 a3 a4 a5]
    obtain⟨q,hq⟩:=hrun
    refine⟨q,?_⟩
    unfold cB
    rw[hv,hN,e1,e2,aM,aM,e3,cN (Nat.le_refl _),decide_eq_false (show ¬(0:Int)>0 by decide),aB r5 k,List.getElem?_eq_getElem hk5,cG (x:=g) (by omega) (by omega),bk (x:=(k:Int)-1) (by omega) (by omega)]
    exact hq
   ·intro r a1 a2 a3 a4 a5
    obtain⟨w1,w2,w3⟩:=wof r (-(g*val v)+pw (m+2+1)) a1 a2 a3 a4 (by rw[a5,hpw,Int.mul_add,Int.mul_neg];omega)
    have hwg:win k (m+2) r1<g*val v:=by omega
    have hgd:g=d+1:=by
     have h1:¬g<d+1:=fun hc=>by
      have:=Int.mul_le_mul_of_nonneg_right (show g≤d by omega) (Int.le_of_lt hV0)
      omega
     have h2:¬d+1<g:=fun hc=>by
      have:=Int.mul_le_mul_of_nonneg_right (show d+2≤g by omega) (Int.le_of_lt hV0)
      rw[Int.add_mul]at this d3
      omega
     omega
    subst hgd
    have hres:dA.Runs 5 (cE b x2 (k:Int) r5 (d+1) 0 0 r) [.d (.sl (.int .u32)) qL,.d (.sl (.int .u32)) rL]:=by
     refine Qr b x2 v m hN hv lv hvl k r r5 (d+1) (by omega) (by omega) _ ?_ (m+2+1) 0 0 r (by omega) (by omega) (by omega) a1 rfl rfl rfl (by simp[val])
     intro r' c b1 b2 b3 b4 c0 c1 b5
     obtain⟨u1,u2,u3⟩:=wof r' (-((d+1)*val v)+pw (m+2+1)+val v-pw (m+2+1)*c) b1 (by omega) (b3.trans a3) (b4.trans a4) (by rw[b5,a5,hpw,Int.mul_sub,Int.mul_add,Int.mul_add,Int.mul_neg];grind)
     have hc:c=1:=by
      rcases(show c=0∨c=1 by omega)with hc|hc
      ·exfalso
       subst hc
       rw[Int.mul_zero,Int.sub_zero]at u1
       rw[Int.add_mul,Int.one_mul]at u1
       omega
      ·exact hc
     subst hc
     rw[same r' b1 (by omega) (b3.trans a3) (b4.trans a4) (by rw[b5,a5];grind)]
     obtain⟨q,hq⟩:=hrun
     refine⟨q,?_⟩
     unfold cL
     rw[hN,e1,e2,aM,aM,e3,cN (Nat.le_refl _),aB r5 k,List.getElem?_eq_getElem hk5,show d+1-1=d by omega,bz (x:=d) (by omega) (by omega),cG (x:=d) (by omega) (by omega),bk (x:=(k:Int)-1) (by omega) (by omega)]
     exact hq
    obtain⟨q,hq⟩:=hres
    refine⟨q,?_⟩
    unfold cB
    rw[hv,hN,e1,e2,aM,aM,e3,cN (Nat.le_refl _),decide_eq_true (show(1:Int)>0 by decide),decide_eq_true (show(0:Int)≤(k:Int)∧(k:Int)≤((k+(m+2)+1:Nat):Int)∧((k+(m+2)+1:Nat):Int)≤(r.length:Int) by omega)]
    exact hq
  obtain⟨qL,rL,hf,q,hq⟩:=key
  refine⟨qL,rL,hf,wc _ _ _ _ _ ⟨q,?_⟩⟩
  have e4:IntKind.i64.wrap (((k+(m+2):Nat):Int)-1)=((k+m+1:Nat):Int):=by rw[bk (by omega) (by omega)];omega
  have e5:IntKind.i64.wrap (((m+2:Nat):Int)-1)=((m+1:Nat):Int):=by rw[bk (by omega) (by omega)];omega
  unfold jO
  rw[show((k+1:Nat):Int)-1=(k:Int) by omega,decide_eq_true (by omega),hv,hN,e1,e4,e5,aB r1 (k+(m+2)),aM,List.getElem?_eq_getElem (show k+(m+2)<r1.length by omega),aB r1 (k+m+1),aM,List.getElem?_eq_getElem (show k+m+1<r1.length by omega),aB v (m+1),List.getElem?_eq_getElem (show m+1<v.length by omega)]
  dsimp only
  rw[bz (x:=v[m+1]) (by omega) (by omega),decide_eq_false (show ¬v[m+1]=0 by omega)]
  dsimp only
  have e6:r1[k+(m+2)]=r1[k+m+2]:=rfl
  rw[e6,bz (x:=r1[k+m+2]) (by omega) (by omega),bz (x:=r1[k+m+1]) (by omega) (by omega),bz (x:=r1[k+m+2]*1000000000) (by omega) (by omega),bz (x:=r1[k+m+2]*1000000000+r1[k+m+1]) (by omega) (by omega),eN (by omega),gJ (by omega),bz (x:=(r1[k+m+2]*1000000000+r1[k+m+1])/v[m+1]) (by omega) (by omega)]
  exact hq
end
end Go.Proofs.YtlahabkjhgkkjaaGreat
namespace Go.Proofs.YtlahabkjhgkkjaaGreat
open Go.RowKit
def lN(a b:List Int):Prop:=(Lim a∧a.length≤100000000)∧(Lim b∧b.length≤100000000)∧0<val b
instance (a b:List Int):Decidable (lN a b):=by unfold lN;infer_instance
structure acS (a b q r:List Int):Prop where
 lq:Lim q
 lr:Lim r
 sq:q.length≤200000000
 sr:r.length≤200000000
 q:val q=val a/val b
 r:val r=val a%val b
theorem qN(x:Int):val [x]=x:=by simp[val]
theorem qf{l:List Int}(h:can l){m:Nat}(hl:l.length=m+1):1≤l[m]:=by
 have h2:=h.2
 rw[List.getLast?_eq_getElem?,hl,Nat.add_sub_cancel,List.getElem?_eq_getElem (by omega)]at h2
 have h1:=h.1.get (show m<l.length by omega)
 have:l[m]≠0:=fun e=>h2 (by rw[e])
 omega
set_option maxHeartbeats 1000000 in
theorem A5(a b:List Int)(h:lN a b):∃q r,acS a b q r∧Con Tryz.prog 286 [.d (.sl (.int .u32)) a,.d (.sl (.int .u32)) b] [.d (.sl (.int .u32)) q,.d (.sl (.int .u32)) r]:=by
 obtain⟨⟨la,sa⟩,⟨lb,sb⟩,hb⟩:=h
 have ha:a8 a:=⟨la,by omega⟩
 have hb':a8 b:=⟨lb,by omega⟩
 have va:=bE (val a).toNat
 have vb:=bE (val b).toNat
 have na:=aY la
 have va':val (ac (val a).toNat)=val a:=by omega
 have vb':val (ac (val b).toNat)=val b:=by omega
 have lna:=gX la
 have lnb:=gX lb
 have ca:=db (val a).toNat
 have cb:=db (val b).toNat
 have hla:a8 (ac (val a).toNat):=⟨ca.1,by omega⟩
 have hlb:a8 (ac (val b).toNat):=⟨cb.1,by omega⟩
 have go:∀{q r},dA.Res 286 [.d (.sl (.int .u32)) a,.d (.sl (.int .u32)) b] [.d (.sl (.int .u32)) q,.d (.sl (.int .u32)) r]→Con Tryz.prog 286 [.d (.sl (.int .u32)) a,.d (.sl (.int .u32)) b] [.d (.sl (.int .u32)) q,.d (.sl (.int .u32)) r]:=fun hr=>Ctx.Res.con (C:=dA) (au M5) hr (fn:=Tryz.f286) (by kernel_rfl) (by kernel_rfl)
 have hb0:ac (val b).toNat≠[]:=fun e=>by rw[fu]at e;omega
 by_cases h1:(ac (val b).toNat).length=1
 ·have t1:=qf cb (m:=0) h1
  have t2:=cb.1.get (show 0<(ac (val b).toNat).length by omega)
  have e0:(ac (val b).toNat)[0]=val b:=by
   obtain⟨x,hx⟩:=List.length_eq_one_iff.1 h1
   have:=vb'
   rw[hx,qN]at this
   simp[hx,this]
  have hq0:0≤val a/val b:=Int.ediv_nonneg na (by omega)
  have hq1:val a/val b≤val a:=Int.ediv_le_self _ na
  have hr0:=Int.emod_nonneg (val a) (show val b≠0 by omega)
  have hr1:=Int.emod_lt_of_pos (val a) hb
  have hal:=bQ ca.1
  refine⟨dig (ac (val a).toNat).length (val a/val b),[val a%val b],⟨kP _ _,Lim.cons ⟨hr0,by omega⟩ Lim.nil,by rw[gu];omega,by simp,fx _ _ hq0 (by omega),qN _⟩,go (Q1 _ _ ⟨0,?_⟩)⟩
  unfold vC
  rw[decide_eq_true ha,decide_eq_true hb',h1,u7,List.getElem?_eq_getElem (show 0<(ac (val b).toNat).length by omega),e0]
  dsimp only
  rw[decide_eq_true (show C3 (ac (val a).toNat) (val b) from⟨hla,by omega,by omega⟩),va']
  rfl
 have hlen:2≤(ac (val b).toNat).length:=by
  rcases Nat.lt_or_ge (ac (val b).toNat).length 2 with h|h
  ·exfalso
   have:(ac (val b).toNat).length≠0:=fun e=>hb0 (List.eq_nil_of_length_eq_zero e)
   omega
  ·exact h
 by_cases hlt:val a<val b
 ·refine⟨[],ac (val a).toNat,⟨Lim.nil,ca.1,by simp,by omega,?_,?_⟩,go (Q1 _ _ ⟨0,?_⟩)⟩
  ·rw[Int.ediv_eq_zero_of_lt na hlt];rfl
  ·rw[Int.emod_eq_of_lt na hlt];exact va'
  ·unfold vC
   rw[decide_eq_true ha,decide_eq_true hb',show(((ac (val b).toNat).length:Int)==1)=false by simp;omega,decide_eq_true (show a8 (ac (val a).toNat)∧a8 (ac (val b).toNat) from⟨hla,hlb⟩),va',vb',cF hlt,decide_eq_true (show(ac (val a).toNat).length*4≤140737488355328∧(ac (val a).toNat).length≤140737488355328 by omega)]
   rfl
 ·obtain⟨m,hm⟩:∃m,(ac (val b).toNat).length=m+2:=⟨(ac (val b).toNat).length-2,by omega⟩
  have hxm:m+1<(ac (val b).toNat).length:=by omega
  have t1:=qf cb (m:=m+1) hm
  have t2:=cb.1.get hxm
  generalize hx2:(ac (val b).toNat)[m+1]=x2 at t1 t2
  obtain⟨s1,s2,s3,s4⟩:=QO t1 t2.2
  have esc:IntKind.u32.wrap (IntKind.u64.wrap (Int.tdiv 1000000000 (IntKind.u64.wrap ((IntKind.u64.wrap x2)+1))))=1000000000/(x2+1):=by
   rw[bz (x:=x2) (by omega) (by omega),bz (x:=x2+1) (by omega) (by omega),eN (by omega),bz (x:=1000000000/(x2+1)) (by omega) (by omega),cG (x:=1000000000/(x2+1)) (by omega) (by omega)]
  generalize hsc:1000000000/(x2+1)=sc at s1 s2 s3 s4 esc
  have hsl:a8 [sc]:=⟨Lim.cons ⟨by omega,by omega⟩ Lim.nil,by simp⟩
  have hbl:=bQ cb.1
  rw[vb',hm]at hbl
  have hP:=bR (m+1)
  have hbtop:=bi hxm
  rw[List.take_of_length_le (by omega),vb',hx2]at hbtop
  have hbt0:=aY (cb.1.take (m+1))
  have hbt1:=bQ (cb.1.take (m+1))
  rw[List.length_take,Nat.min_eq_left (by omega)]at hbt1
  have hVhi:val b*sc<pw (m+2):=by
   have e1:val b*sc<(pw (m+1)*(x2+1))*sc:=Int.mul_lt_mul_of_pos_right (by rw[Int.mul_add,Int.mul_one];omega) (by omega)
   have e2:(pw (m+1)*(x2+1))*sc=pw (m+1)*((x2+1)*sc):=Int.mul_assoc _ _ _
   have e3:pw (m+1)*((x2+1)*sc)≤pw (m+1)*1000000000:=Int.mul_le_mul_of_nonneg_left s3 (Int.le_of_lt hP)
   rw[bZ]
   omega
  have hVlo:pw (m+1)*500000000≤val b*sc:=by
   have e1:pw (m+1)*x2*sc≤val b*sc:=Int.mul_le_mul_of_nonneg_right (by omega) (by omega)
   have e2:pw (m+1)*x2*sc=pw (m+1)*(x2*sc):=Int.mul_assoc _ _ _
   have e3:pw (m+1)*500000000≤pw (m+1)*(x2*sc):=Int.mul_le_mul_of_nonneg_left s4 (Int.le_of_lt hP)
   omega
  have hV0:0<val b*sc:=Int.mul_pos hb (by omega)
  have edv:val (dig (m+2+1) (val b*sc))=val b*sc:=fx _ _ (by omega) (by rw[bZ];omega)
  obtain⟨v,hv⟩:∃v,ac (val b*sc).toNat=v:=⟨_,rfl⟩
  have cv:=db (val b*sc).toNat
  have vv:=bE (val b*sc).toNat
  rw[hv]at cv vv
  have hvv:val v=val b*sc:=by omega
  have hvl:v.length=m+2:=by
   have h1:v.length≤m+2:=by rw[←hv];exact cJ (by omega)
   have h2:m+1<v.length:=by rw[←hv];exact xg (by omega)
   omega
  have htop:500000000≤v[m+1]:=by
   rcases Int.lt_or_le v[m+1] 500000000 with hc|hc
   ·exfalso
    have e1:=bi (l:=v) (n:=m+1) (by omega)
    rw[List.take_of_length_le (by omega),hvv]at e1
    have e2:=bQ (cv.1.take (m+1))
    rw[List.length_take,Nat.min_eq_left (by omega)]at e2
    have e3:=Int.mul_le_mul_of_nonneg_left (show v[m+1]≤499999999 by omega) (Int.le_of_lt hP)
    omega
   ·exact hc
  have hal:=bQ ca.1
  rw[va']at hal
  have hA0:0≤val a*sc:=Int.mul_nonneg na (by omega)
  have hA1:val a*sc<pw ((ac (val a).toNat).length+1):=by
   have e1:val a*sc≤pw (ac (val a).toNat).length*sc:=Int.mul_le_mul_of_nonneg_right (by omega) (by omega)
   have e2:pw (ac (val a).toNat).length*sc<pw (ac (val a).toNat).length*1000000000:=Int.mul_lt_mul_of_pos_left (by omega) (bR _)
   rw[bZ]
   omega
  have lab:m+2≤(ac (val a).toNat).length:=by
   rw[←hm]
   rcases Nat.lt_or_ge (ac (val a).toNat).length (ac (val b).toNat).length with hc|hc
   ·have:=rg hc;omega
   ·exact hc
  generalize hlA:(ac (val a).toNat).length=L at*
  have hdl:(dig (L+1) (val a*sc)++[0]).length=L+2:=by simp[gu]
  have hdv:val (dig (L+1) (val a*sc)++[0])=val a*sc:=by rw[cT,fx _ _ hA0 hA1];simp[val]
  have hmul:=hvv
  obtain⟨q,r,⟨f1,f2,f3,f4,f5,f6⟩,n,hrun⟩:=PE b x2 v m hm (by rw[esc,hm,vb',qN];simp only[List.length_singleton];rw[edv];exact hv) cv.1 hvl sc esc s1 s2 htop (val a*sc) (L-m) (List.replicate (L-m) 0) (dig (L+1) (val a*sc)++[0])
   (Lim.rep _) ((kP _ _).append (Lim.cons (by decide) Lim.nil)) (by rw[hdl];simp;omega) (by rw[hdl];omega) (by simp) (by rw[eU,hdv];omega) (fun j hj _=>by simp) (by
    rw[hdv,hvv]
    have e1:pw (m+1)*500000000*pw (L-m)≤val b*sc*pw (L-m):=Int.mul_le_mul_of_nonneg_right hVlo (Int.le_of_lt (bR _))
    have e2:pw (m+1)*500000000*pw (L-m)=pw (L+1)*500000000:=by
     rw[show L+1=m+1+(L-m) by omega,dV (m+1) (L-m),Int.mul_right_comm]
    have:=bR (L+1)
    omega)
  have hq:val a*sc/(val b*sc)=val a/val b:=Int.mul_ediv_mul_of_pos_left _ _ (by omega)
  have hr:val a*sc%(val b*sc)/sc=val a%val b:=by
   rw[Int.mul_comm (val a),Int.mul_comm (val b),Int.mul_emod_mul_of_pos _ _ (by omega),Int.mul_comm]
   exact Int.mul_ediv_cancel _ (by omega)
  rw[hvv]at f5 f6
  rw[hq]at f5
  rw[hr]at f6
  refine⟨q,r,⟨f1,f2,by rw[f3];simp;omega,by omega,f5,f6⟩,go (Q1 _ _ ⟨n,?_⟩)⟩
  unfold vC
  have e1:IntKind.i64.wrap (((m+2:Nat):Int)-1)=((m+1:Nat):Int):=by rw[bk (by omega) (by omega)];omega
  have e2:IntKind.i64.wrap (((L+2:Nat):Int)-((m+2:Nat):Int))=((L-m:Nat):Int):=by rw[bk (by omega) (by omega)];omega
  have e3:IntKind.i64.wrap (((L-m:Nat):Int)-1)=((L-m:Nat):Int)-1:=bk (by omega) (by omega)
  rw[decide_eq_true ha,decide_eq_true hb',hm,show(((m+2:Nat):Int)==1)=false by simp;omega,decide_eq_true (show a8 (ac (val a).toNat)∧a8 (ac (val b).toNat) from⟨hla,hlb⟩),va',vb',show decide (b8 (val a) (val b)<0)=false by
   rcases Int.lt_or_le (val b) (val a)with hc|hc
   ·rw[cz hc];rfl
   ·rw[show val a=val b by omega,cV];rfl,e1,aB (ac (val b).toNat) (m+1),List.getElem?_eq_getElem hxm,hx2]
  dsimp only
  rw[esc,bz (x:=x2) (by omega) (by omega),bz (x:=x2+1) (by omega) (by omega),decide_eq_false (show ¬x2+1=0 by omega),decide_eq_true (show a8 (ac (val a).toNat)∧a8 [sc] from⟨hla,hsl⟩),decide_eq_true (show a8 (ac (val b).toNat)∧a8 [sc] from⟨hlb,hsl⟩),qN,hlA]
  rw[List.length_singleton,List.length_singleton,hdl,gu (L+1)]
  rw[decide_eq_true (show(L+1+1)*4≤140737488355328∧L+1+1≤140737488355328 by omega),decide_eq_true (show a8 (dig (m+2+1) (val b*sc)) from gI (by omega) _),e2,oP (by omega),aM,e3]
  exact hrun
end Go.Proofs.YtlahabkjhgkkjaaGreat
