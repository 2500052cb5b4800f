/-
Proofs for the law CountIsFinite, part 32. Conditions: none.
-/
import Derived.Test.YtdkocfjbmbenfaaGreatDoorDP30
import Derived.Test.YtdkocfjbmbenfaaGreatDoorDP17
import Derived.KernelRfl
import Derived.Shelf.SlGeneric
import Derived.Shelf.SlSortCmp.WholeK
set_option maxRecDepth 100000
set_option maxHeartbeats 4000000
set_option linter.all false
namespace Go.Ab
open Go.Proofs Go.Shelf
def z3v:Go.Shelf.Ren:=⟨fun|6=>323|15=>349|14=>348|28=>201|29=>342|20=>365|21=>366|22=>367|23=>368|24=>369|25=>370|26=>371|27=>372|46=>377|47=>378|48=>379|49=>380|50=>381|57=>384|n=>n,fun|22=>74|24=>172|25=>289|3=>3|39=>138|0=>0|53=>131|55=>73|4=>4|46=>324|45=>323|50=>328|5=>5|9=>9|66=>339|70=>343|76=>346|77=>347|n=>n,fun|n=>n⟩
theorem sl6:Go.Proofs.SlLaysF0.n6 Tryz.prog z3v:={
 mixed:=by kernel_rfl
 f6:=⟨Tryz.f323.name,by decide,Tryz.func323.trans (congrArg some (by kernel_rfl))⟩
 f14:=⟨Tryz.f348.name,by decide,Tryz.func348.trans (congrArg some (by kernel_rfl))⟩
 f15:=Tryz.func349.trans (congrArg some (by kernel_rfl))
 f20:=⟨Tryz.f365.name,by decide,Tryz.func365.trans (congrArg some (by kernel_rfl))⟩
 f21:=⟨Tryz.f366.name,by decide,Tryz.func366.trans (congrArg some (by kernel_rfl))⟩
 f22:=⟨Tryz.f367.name,by decide,Tryz.func367.trans (congrArg some (by kernel_rfl))⟩
 f23:=⟨Tryz.f368.name,by decide,Tryz.func368.trans (congrArg some (by kernel_rfl))⟩
 f24:=⟨Tryz.f369.name,by decide,Tryz.func369.trans (congrArg some (by kernel_rfl))⟩
 f25:=⟨Tryz.f370.name,by decide,Tryz.func370.trans (congrArg some (by kernel_rfl))⟩
 f26:=⟨Tryz.f371.name,by decide,Tryz.func371.trans (congrArg some (by kernel_rfl))⟩
 f27:=⟨Tryz.f372.name,by decide,Tryz.func372.trans (congrArg some (by kernel_rfl))⟩
 f28:=Tryz.func201.trans (congrArg some (by kernel_rfl))
 f29:=Tryz.func342.trans (congrArg some (by kernel_rfl))
 f46:=⟨Tryz.f377.name,by decide,Tryz.func377.trans (congrArg some (by kernel_rfl))⟩
 f47:=Tryz.func378.trans (congrArg some (by kernel_rfl))
 f48:=Tryz.func379.trans (congrArg some (by kernel_rfl))
 f49:=⟨Tryz.f380.name,by decide,Tryz.func380.trans (congrArg some (by kernel_rfl))⟩
 f50:=⟨Tryz.f381.name,by decide,Tryz.func381.trans (congrArg some (by kernel_rfl))⟩
 f57:=⟨Tryz.f384.name,by decide,Tryz.func384.trans (congrArg some (by kernel_rfl))⟩
 t0:=Tryz.underlying0
 a0:=Tryz.isAgg0
 z0:=Tryz.sizeOf0
 v0:=Tryz.zeroValue0
 t3:=Tryz.underlying3
 a3:=Tryz.isAgg3
 z3:=Tryz.sizeOf3
 v3:=Tryz.zeroValue3
 t4:=Tryz.underlying4
 a4:=Tryz.isAgg4
 z4:=Tryz.sizeOf4
 v4:=Tryz.zeroValue4
 t5:=Tryz.underlying5
 a5:=Tryz.isAgg5
 z5:=Tryz.sizeOf5
 v5:=Tryz.zeroValue5
 t9:=Tryz.underlying9
 a9:=Tryz.isAgg9
 z9:=Tryz.sizeOf9
 v9:=Tryz.zeroValue9
 t22:=Tryz.underlying74
 a22:=Tryz.isAgg74
 z22:=Tryz.sizeOf74
 v22:=Tryz.zeroValue74
 t25:=Tryz.underlying289
 a25:=Tryz.isAgg289
 z25:=Tryz.sizeOf289
 v25:=Tryz.zeroValue289
 t39:=Tryz.underlying138
 a39:=Tryz.isAgg138
 z39:=Tryz.sizeOf138
 v39:=Tryz.zeroValue138
 t45:=Tryz.underlying323
 a45:=Tryz.isAgg323
 z45:=Tryz.sizeOf323
 v45:=Tryz.zeroValue323
 t46:=Tryz.underlying324
 a46:=Tryz.isAgg324
 z46:=Tryz.sizeOf324
 v46:=Tryz.zeroValue324
 t50:=Tryz.underlying328
 a50:=Tryz.isAgg328
 z50:=Tryz.sizeOf328
 v50:=Tryz.zeroValue328
 t53:=Tryz.underlying131
 a53:=Tryz.isAgg131
 z53:=Tryz.sizeOf131
 v53:=Tryz.zeroValue131
 t55:=Tryz.underlying73
 a55:=Tryz.isAgg73
 z55:=Tryz.sizeOf73
 v55:=Tryz.zeroValue73
 t66:=Tryz.underlying339
 a66:=Tryz.isAgg339
 z66:=Tryz.sizeOf339
 v66:=Tryz.zeroValue339
 t70:=Tryz.underlying343
 a70:=Tryz.isAgg343
 z70:=Tryz.sizeOf343
 v70:=Tryz.zeroValue343
 t76:=Tryz.underlying346
 a76:=Tryz.isAgg346
 z76:=Tryz.sizeOf346
 v76:=Tryz.zeroValue346
 t77:=Tryz.underlying347
 a77:=Tryz.isAgg347
 z77:=Tryz.sizeOf347
 v77:=Tryz.zeroValue347 }
theorem sortK0:z2w P F.bz 6:=by
 rw [P_eq]
 intro α _ en hk h1 cf hO g cb blk off cap d w eg hc hH hb hs
 exact Go.Proofs.AnyQ.slices_SortFunc sl6 6 (fun w=>by kernel_rfl) (fun w=>by kernel_rfl) en hk h1 cf hO g cb blk off cap d w eg hc hH hb hs
end Go.Ab
