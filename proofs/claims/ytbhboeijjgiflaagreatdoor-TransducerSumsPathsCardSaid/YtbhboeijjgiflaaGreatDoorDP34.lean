/-
Proofs for the law TransducerSumsPaths, part 34. Conditions: none.
-/
import Derived.Test.YtbhboeijjgiflaaGreatDoorDP32
import Derived.Test.YtbhboeijjgiflaaGreatDoorDP18
import Derived.KernelRfl
import Derived.Shelf.SlGeneric
import Derived.Shelf.SlSortCmp.WholeK
set_option maxRecDepth 100000
set_option maxHeartbeats 4000000
set_option linter.all false
namespace Go.Ab
open Go.Proofs Go.Shelf
def ycf:Go.Shelf.Ren:=⟨fun|6=>293|15=>323|14=>322|28=>348|29=>316|20=>340|21=>341|22=>342|23=>343|24=>344|25=>345|26=>346|27=>347|46=>353|47=>354|48=>355|49=>356|50=>357|57=>360|n=>n,fun|22=>35|24=>101|25=>263|3=>3|39=>149|0=>0|53=>146|55=>34|4=>4|46=>300|45=>299|50=>304|5=>5|9=>9|66=>315|70=>319|76=>322|77=>323|n=>n,fun|n=>n⟩
theorem sl6:Go.Proofs.SlLaysF0.n6 Tryz.prog ycf:={
 mixed:=by kernel_rfl
 f6:=⟨Tryz.f293.name,by decide,Tryz.func293.trans (congrArg some (by kernel_rfl))⟩
 f14:=⟨Tryz.f322.name,by decide,Tryz.func322.trans (congrArg some (by kernel_rfl))⟩
 f15:=Tryz.func323.trans (congrArg some (by kernel_rfl))
 f20:=⟨Tryz.f340.name,by decide,Tryz.func340.trans (congrArg some (by kernel_rfl))⟩
 f21:=⟨Tryz.f341.name,by decide,Tryz.func341.trans (congrArg some (by kernel_rfl))⟩
 f22:=⟨Tryz.f342.name,by decide,Tryz.func342.trans (congrArg some (by kernel_rfl))⟩
 f23:=⟨Tryz.f343.name,by decide,Tryz.func343.trans (congrArg some (by kernel_rfl))⟩
 f24:=⟨Tryz.f344.name,by decide,Tryz.func344.trans (congrArg some (by kernel_rfl))⟩
 f25:=⟨Tryz.f345.name,by decide,Tryz.func345.trans (congrArg some (by kernel_rfl))⟩
 f26:=⟨Tryz.f346.name,by decide,Tryz.func346.trans (congrArg some (by kernel_rfl))⟩
 f27:=⟨Tryz.f347.name,by decide,Tryz.func347.trans (congrArg some (by kernel_rfl))⟩
 f28:=Tryz.func348.trans (congrArg some (by kernel_rfl))
 f29:=Tryz.func316.trans (congrArg some (by kernel_rfl))
 f46:=⟨Tryz.f353.name,by decide,Tryz.func353.trans (congrArg some (by kernel_rfl))⟩
 f47:=Tryz.func354.trans (congrArg some (by kernel_rfl))
 f48:=Tryz.func355.trans (congrArg some (by kernel_rfl))
 f49:=⟨Tryz.f356.name,by decide,Tryz.func356.trans (congrArg some (by kernel_rfl))⟩
 f50:=⟨Tryz.f357.name,by decide,Tryz.func357.trans (congrArg some (by kernel_rfl))⟩
 f57:=⟨Tryz.f360.name,by decide,Tryz.func360.trans (congrArg some (by kernel_rfl))⟩
 t0:=Tryz.underlying0
 a0:=Tryz.isAgg0
 z0:=Tryz.sizeOf0
 v0:=Tryz.zeroValue0
 t3:=Tryz.underlying3
 a3:=Tryz.isAgg3
 z3:=Tryz.sizeOf3
 v3:=Tryz.zeroValue3
 t4:=Tryz.underlying4
 a4:=Tryz.isAgg4
 z4:=Tryz.sizeOf4
 v4:=Tryz.zeroValue4
 t5:=Tryz.underlying5
 a5:=Tryz.isAgg5
 z5:=Tryz.sizeOf5
 v5:=Tryz.zeroValue5
 t9:=Tryz.underlying9
 a9:=Tryz.isAgg9
 z9:=Tryz.sizeOf9
 v9:=Tryz.zeroValue9
 t22:=Tryz.underlying35
 a22:=Tryz.isAgg35
 z22:=Tryz.sizeOf35
 v22:=Tryz.zeroValue35
 t25:=Tryz.underlying263
 a25:=Tryz.isAgg263
 z25:=Tryz.sizeOf263
 v25:=Tryz.zeroValue263
 t39:=Tryz.underlying149
 a39:=Tryz.isAgg149
 z39:=Tryz.sizeOf149
 v39:=Tryz.zeroValue149
 t45:=Tryz.underlying299
 a45:=Tryz.isAgg299
 z45:=Tryz.sizeOf299
 v45:=Tryz.zeroValue299
 t46:=Tryz.underlying300
 a46:=Tryz.isAgg300
 z46:=Tryz.sizeOf300
 v46:=Tryz.zeroValue300
 t50:=Tryz.underlying304
 a50:=Tryz.isAgg304
 z50:=Tryz.sizeOf304
 v50:=Tryz.zeroValue304
 t53:=Tryz.underlying146
 a53:=Tryz.isAgg146
 z53:=Tryz.sizeOf146
 v53:=Tryz.zeroValue146
 t55:=Tryz.underlying34
 a55:=Tryz.isAgg34
 z55:=Tryz.sizeOf34
 v55:=Tryz.zeroValue34
 t66:=Tryz.underlying315
 a66:=Tryz.isAgg315
 z66:=Tryz.sizeOf315
 v66:=Tryz.zeroValue315
 t70:=Tryz.underlying319
 a70:=Tryz.isAgg319
 z70:=Tryz.sizeOf319
 v70:=Tryz.zeroValue319
 t76:=Tryz.underlying322
 a76:=Tryz.isAgg322
 z76:=Tryz.sizeOf322
 v76:=Tryz.zeroValue322
 t77:=Tryz.underlying323
 a77:=Tryz.isAgg323
 z77:=Tryz.sizeOf323
 v77:=Tryz.zeroValue323 }
theorem sortK0:yam P F.dg 6:=by rw[P_eq];intro α _ en hk h1 cf hO g cb blk off cap d w eg hc hH hb hs;exact Go.Proofs.AnyQ.slices_SortFunc sl6 6 (fun w=>by kernel_rfl) (fun w=>by kernel_rfl) en hk h1 cf hO g cb blk off cap d w eg hc hH hb hs
end Go.Ab
