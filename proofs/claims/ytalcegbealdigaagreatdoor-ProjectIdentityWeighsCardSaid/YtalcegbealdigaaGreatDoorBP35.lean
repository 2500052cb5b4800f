/-
Proofs for the law ProjectIdentityWeighs, part 35. Conditions: none.
-/
import Derived.Test.YtalcegbealdigaaGreatDoorBP33
import Derived.Test.YtalcegbealdigaaGreatDoorBP17
import Derived.KernelRfl
import Derived.Shelf.SlGeneric
import Derived.Shelf.SlSortCmp.WholeK
set_option maxRecDepth 100000
set_option maxHeartbeats 4000000
set_option linter.all false
namespace Go.Ab
open Go.Proofs Go.Shelf
def z8d:Go.Shelf.Ren:=⟨fun|6=>320|15=>350|14=>349|28=>375|29=>343|20=>367|21=>368|22=>369|23=>370|24=>371|25=>372|26=>373|27=>374|46=>380|47=>381|48=>382|49=>383|50=>384|57=>387|n=>n,fun|22=>46|24=>123|25=>286|3=>3|39=>174|0=>0|53=>145|55=>45|4=>4|46=>323|45=>322|50=>327|5=>5|9=>9|66=>338|70=>342|76=>345|77=>346|n=>n,fun|n=>n⟩
theorem sl6:Go.Proofs.SlLaysF0.n6 Tryz.prog z8d:={
 mixed:=by kernel_rfl
 f6:=⟨Tryz.f320.name,by decide,Tryz.func320.trans (congrArg some (by kernel_rfl))⟩
 f14:=⟨Tryz.f349.name,by decide,Tryz.func349.trans (congrArg some (by kernel_rfl))⟩
 f15:=Tryz.func350.trans (congrArg some (by kernel_rfl))
 f20:=⟨Tryz.f367.name,by decide,Tryz.func367.trans (congrArg some (by kernel_rfl))⟩
 f21:=⟨Tryz.f368.name,by decide,Tryz.func368.trans (congrArg some (by kernel_rfl))⟩
 f22:=⟨Tryz.f369.name,by decide,Tryz.func369.trans (congrArg some (by kernel_rfl))⟩
 f23:=⟨Tryz.f370.name,by decide,Tryz.func370.trans (congrArg some (by kernel_rfl))⟩
 f24:=⟨Tryz.f371.name,by decide,Tryz.func371.trans (congrArg some (by kernel_rfl))⟩
 f25:=⟨Tryz.f372.name,by decide,Tryz.func372.trans (congrArg some (by kernel_rfl))⟩
 f26:=⟨Tryz.f373.name,by decide,Tryz.func373.trans (congrArg some (by kernel_rfl))⟩
 f27:=⟨Tryz.f374.name,by decide,Tryz.func374.trans (congrArg some (by kernel_rfl))⟩
 f28:=Tryz.func375.trans (congrArg some (by kernel_rfl))
 f29:=Tryz.func343.trans (congrArg some (by kernel_rfl))
 f46:=⟨Tryz.f380.name,by decide,Tryz.func380.trans (congrArg some (by kernel_rfl))⟩
 f47:=Tryz.func381.trans (congrArg some (by kernel_rfl))
 f48:=Tryz.func382.trans (congrArg some (by kernel_rfl))
 f49:=⟨Tryz.f383.name,by decide,Tryz.func383.trans (congrArg some (by kernel_rfl))⟩
 f50:=⟨Tryz.f384.name,by decide,Tryz.func384.trans (congrArg some (by kernel_rfl))⟩
 f57:=⟨Tryz.f387.name,by decide,Tryz.func387.trans (congrArg some (by kernel_rfl))⟩
 t0:=Tryz.underlying0
 a0:=Tryz.isAgg0
 z0:=Tryz.sizeOf0
 v0:=Tryz.zeroValue0
 t3:=Tryz.underlying3
 a3:=Tryz.isAgg3
 z3:=Tryz.sizeOf3
 v3:=Tryz.zeroValue3
 t4:=Tryz.underlying4
 a4:=Tryz.isAgg4
 z4:=Tryz.sizeOf4
 v4:=Tryz.zeroValue4
 t5:=Tryz.underlying5
 a5:=Tryz.isAgg5
 z5:=Tryz.sizeOf5
 v5:=Tryz.zeroValue5
 t9:=Tryz.underlying9
 a9:=Tryz.isAgg9
 z9:=Tryz.sizeOf9
 v9:=Tryz.zeroValue9
 t22:=Tryz.underlying46
 a22:=Tryz.isAgg46
 z22:=Tryz.sizeOf46
 v22:=Tryz.zeroValue46
 t25:=Tryz.underlying286
 a25:=Tryz.isAgg286
 z25:=Tryz.sizeOf286
 v25:=Tryz.zeroValue286
 t39:=Tryz.underlying174
 a39:=Tryz.isAgg174
 z39:=Tryz.sizeOf174
 v39:=Tryz.zeroValue174
 t45:=Tryz.underlying322
 a45:=Tryz.isAgg322
 z45:=Tryz.sizeOf322
 v45:=Tryz.zeroValue322
 t46:=Tryz.underlying323
 a46:=Tryz.isAgg323
 z46:=Tryz.sizeOf323
 v46:=Tryz.zeroValue323
 t50:=Tryz.underlying327
 a50:=Tryz.isAgg327
 z50:=Tryz.sizeOf327
 v50:=Tryz.zeroValue327
 t53:=Tryz.underlying145
 a53:=Tryz.isAgg145
 z53:=Tryz.sizeOf145
 v53:=Tryz.zeroValue145
 t55:=Tryz.underlying45
 a55:=Tryz.isAgg45
 z55:=Tryz.sizeOf45
 v55:=Tryz.zeroValue45
 t66:=Tryz.underlying338
 a66:=Tryz.isAgg338
 z66:=Tryz.sizeOf338
 v66:=Tryz.zeroValue338
 t70:=Tryz.underlying342
 a70:=Tryz.isAgg342
 z70:=Tryz.sizeOf342
 v70:=Tryz.zeroValue342
 t76:=Tryz.underlying345
 a76:=Tryz.isAgg345
 z76:=Tryz.sizeOf345
 v76:=Tryz.zeroValue345
 t77:=Tryz.underlying346
 a77:=Tryz.isAgg346
 z77:=Tryz.sizeOf346
 v77:=Tryz.zeroValue346 }
theorem sortK0:z64 P F.ch 6:=by
 rw [P_eq]
 intro α _ en hk h1 cf hO g cb blk off cap d w eg hc hH hb hs
 exact Go.Proofs.AnyQ.slices_SortFunc sl6 6 (fun w=>by kernel_rfl) (fun w=>by kernel_rfl) en hk h1 cf hO g cb blk off cap d w eg hc hH hb hs
end Go.Ab
