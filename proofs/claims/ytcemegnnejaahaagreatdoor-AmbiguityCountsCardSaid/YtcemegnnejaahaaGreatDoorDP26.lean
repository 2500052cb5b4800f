/- Lemmas for the law AmbiguityCounts, part 26. No conditions. -/
import Derived.Test.YtcemegnnejaahaaGreatDoorDP24
import Derived.Shelf.SlGeneric
set_option maxRecDepth 100000
set_option maxHeartbeats 4000000
set_option linter.all false
namespace Go.Ab
open Go.Proofs Go.Shelf
def z5j:Go.Shelf.Ren:=⟨fun|6=>328|15=>355|14=>354|28=>263|29=>348|20=>371|21=>372|22=>373|23=>374|24=>375|25=>376|26=>377|27=>378|46=>383|47=>384|48=>385|49=>386|50=>387|57=>390|n=>n,fun|22=>83|24=>190|25=>311|3=>3|39=>53|0=>0|53=>155|55=>82|4=>4|46=>346|45=>345|50=>350|5=>5|9=>9|66=>361|70=>365|76=>368|77=>369|n=>n,fun|n=>n⟩
theorem sl6:Go.Proofs.SlLaysF0.n6 Tryz.prog z5j:={
 mixed:=by kernel_rfl
 f6:=⟨Tryz.f328.name,by decide,Tryz.func328.trans (congrArg some (by kernel_rfl))⟩
 f14:=⟨Tryz.f354.name,by decide,Tryz.func354.trans (congrArg some (by kernel_rfl))⟩
 f15:=Tryz.func355.trans (congrArg some (by kernel_rfl))
 f20:=⟨Tryz.f371.name,by decide,Tryz.func371.trans (congrArg some (by kernel_rfl))⟩
 f21:=⟨Tryz.f372.name,by decide,Tryz.func372.trans (congrArg some (by kernel_rfl))⟩
 f22:=⟨Tryz.f373.name,by decide,Tryz.func373.trans (congrArg some (by kernel_rfl))⟩
 f23:=⟨Tryz.f374.name,by decide,Tryz.func374.trans (congrArg some (by kernel_rfl))⟩
 f24:=⟨Tryz.f375.name,by decide,Tryz.func375.trans (congrArg some (by kernel_rfl))⟩
 f25:=⟨Tryz.f376.name,by decide,Tryz.func376.trans (congrArg some (by kernel_rfl))⟩
 f26:=⟨Tryz.f377.name,by decide,Tryz.func377.trans (congrArg some (by kernel_rfl))⟩
 f27:=⟨Tryz.f378.name,by decide,Tryz.func378.trans (congrArg some (by kernel_rfl))⟩
 f28:=Tryz.func263.trans (congrArg some (by kernel_rfl))
 f29:=Tryz.func348.trans (congrArg some (by kernel_rfl))
 f46:=⟨Tryz.f383.name,by decide,Tryz.func383.trans (congrArg some (by kernel_rfl))⟩
 f47:=Tryz.func384.trans (congrArg some (by kernel_rfl))
 f48:=Tryz.func385.trans (congrArg some (by kernel_rfl))
 f49:=⟨Tryz.f386.name,by decide,Tryz.func386.trans (congrArg some (by kernel_rfl))⟩
 f50:=⟨Tryz.f387.name,by decide,Tryz.func387.trans (congrArg some (by kernel_rfl))⟩
 f57:=⟨Tryz.f390.name,by decide,Tryz.func390.trans (congrArg some (by kernel_rfl))⟩
 t0:=Tryz.underlying0
 a0:=Tryz.isAgg0
 z0:=Tryz.sizeOf0
 v0:=Tryz.zeroValue0
 t3:=Tryz.underlying3
 a3:=Tryz.isAgg3
 z3:=Tryz.sizeOf3
 v3:=Tryz.zeroValue3
 t4:=Tryz.underlying4
 a4:=Tryz.isAgg4
 z4:=Tryz.sizeOf4
 v4:=Tryz.zeroValue4
 t5:=Tryz.underlying5
 a5:=Tryz.isAgg5
 z5:=Tryz.sizeOf5
 v5:=Tryz.zeroValue5
 t9:=Tryz.underlying9
 a9:=Tryz.isAgg9
 z9:=Tryz.sizeOf9
 v9:=Tryz.zeroValue9
 t22:=Tryz.underlying83
 a22:=Tryz.isAgg83
 z22:=Tryz.sizeOf83
 v22:=Tryz.zeroValue83
 t25:=Tryz.underlying311
 a25:=Tryz.isAgg311
 z25:=Tryz.sizeOf311
 v25:=Tryz.zeroValue311
 t39:=Tryz.underlying53
 a39:=Tryz.isAgg53
 z39:=Tryz.sizeOf53
 v39:=Tryz.zeroValue53
 t45:=Tryz.underlying345
 a45:=Tryz.isAgg345
 z45:=Tryz.sizeOf345
 v45:=Tryz.zeroValue345
 t46:=Tryz.underlying346
 a46:=Tryz.isAgg346
 z46:=Tryz.sizeOf346
 v46:=Tryz.zeroValue346
 t50:=Tryz.underlying350
 a50:=Tryz.isAgg350
 z50:=Tryz.sizeOf350
 v50:=Tryz.zeroValue350
 t53:=Tryz.underlying155
 a53:=Tryz.isAgg155
 z53:=Tryz.sizeOf155
 v53:=Tryz.zeroValue155
 t55:=Tryz.underlying82
 a55:=Tryz.isAgg82
 z55:=Tryz.sizeOf82
 v55:=Tryz.zeroValue82
 t66:=Tryz.underlying361
 a66:=Tryz.isAgg361
 z66:=Tryz.sizeOf361
 v66:=Tryz.zeroValue361
 t70:=Tryz.underlying365
 a70:=Tryz.isAgg365
 z70:=Tryz.sizeOf365
 v70:=Tryz.zeroValue365
 t76:=Tryz.underlying368
 a76:=Tryz.isAgg368
 z76:=Tryz.sizeOf368
 v76:=Tryz.zeroValue368
 t77:=Tryz.underlying369
 a77:=Tryz.isAgg369
 z77:=Tryz.sizeOf369
 v77:=Tryz.zeroValue369 }
theorem sortK0:z3z P F.ch 6:=by rw[P_eq];intro α _ en hk h1 cf hO g cb blk off cap d w eg hc hH hb hs;exact Go.Proofs.AnyQ.slices_SortFunc sl6 6 (fun w=>by kernel_rfl) (fun w=>by kernel_rfl) en hk h1 cf hO g cb blk off cap d w eg hc hH hb hs
end Go.Ab
