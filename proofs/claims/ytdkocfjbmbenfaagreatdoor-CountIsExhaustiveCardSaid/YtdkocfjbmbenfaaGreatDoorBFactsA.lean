/-
Closed facts of the given row, by the kernel (part A).
-/
import Derived.Test.YtdkocfjbmbenfaaGreatDoorTie
import Derived.Test.YtdkocfjbmbenfaaGreatDoorCards
import Derived.JoinedOf
import Derived.SevenTiedAt
import GoSem.ClaimSeven
import Derived.KernelRfl
namespace Go.Proofs.YtdkocfjbmbenfaaGreatDoor
set_option maxRecDepth 100000
theorem k01 : Rows.countIsExhaustiveRow.wf (OpenSpec.ofChange Rows.countIsExhaustiveSpec) = true := by kernel_rfl
theorem k02 : laidOutB Tryz.prog = true := by kernel_rfl
theorem k03 : mapsRowed Tryz.prog = true := by kernel_rfl
theorem k04 : Tryz.f4.params.all (Tryz.prog.readableRec ·) = true := by kernel_rfl
theorem k05 : namedTie Tryz.prog Rows.countIsExhaustiveRow.named Rows.countIsExhaustiveSpec.vars = true := by kernel_rfl
theorem k06 : (Rows.countIsExhaustiveRow.stops == []) = true := by kernel_rfl
theorem k07 : (Tryz.prog.stops == []) = true := by kernel_rfl
theorem k08 : (Rows.countIsExhaustiveRow.knobs == []) = true := by kernel_rfl
theorem k09 : (Tryz.prog.stopKnobs == []) = true := by kernel_rfl
theorem k14 : (Rows.countIsExhaustiveRow.maps == (Tryz.f4.params.toList ++ Rows.countIsExhaustiveSpec.plain.varTypes Tryz.prog).any (Tryz.prog.mapsRec ·)) = true := by kernel_rfl
theorem k15 : (Rows.countIsExhaustiveRow.ifaces == (Tryz.f4.params.toList ++ Rows.countIsExhaustiveSpec.plain.varTypes Tryz.prog).any (Tryz.prog.ifacesRec ·)) = true := by kernel_rfl
theorem k16 : (Rows.countIsExhaustiveRow.mapsOut == Tryz.prog.mapsAmong Tryz.f4.resultTypes.toList) = true := by kernel_rfl
theorem k17 : (Rows.countIsExhaustiveRow.loops == (Tryz.f4.params.toList ++ Rows.countIsExhaustiveSpec.plain.varTypes Tryz.prog).any (Tryz.prog.loopsFrom ·)) = true := by kernel_rfl
theorem k18 : (Rows.countIsExhaustiveRow.wideKeys == (Tryz.f4.params.toList ++ Rows.countIsExhaustiveSpec.plain.varTypes Tryz.prog ++ Tryz.f4.resultTypes.toList).any (Tryz.prog.wideKeysFrom ·)) = true := by kernel_rfl
theorem k19 : Rows.countIsExhaustiveSpec.vars.all (Tryz.prog.varReadable ·) = true := by kernel_rfl
theorem k20 : Tryz.f4.resultTypes.all (fun t => Tryz.prog.readableRec t && decide (t < Tryz.prog.types.size)) = true := by kernel_rfl
theorem k21 : (Rows.countIsExhaustiveRow.ifacesOut == Tryz.f4.resultTypes.toList.any (Tryz.prog.ifacesRec ·)) = true := by kernel_rfl
theorem k22 : (Rows.countIsExhaustiveRow.loopsOut == Tryz.f4.resultTypes.toList.any (Tryz.prog.loopsFrom ·)) = true := by kernel_rfl
theorem k24 : Rows.countIsExhaustiveRow.shortTexts.isNone = true := by kernel_rfl
theorem k26 : Tryz.prog.mayEnter = true := by kernel_rfl
theorem k27 : (Rows.countIsExhaustiveRow.lifted == Tryz.prog.liftsFinal) = true := by kernel_rfl
theorem k28 : (Tryz.prog.make == some Rows.countIsExhaustiveRow.make) = true := by kernel_rfl
theorem k29 : (Rows.countIsExhaustiveRow.kinds == (if Rows.countIsExhaustiveRow.domain.isEmpty then [] else Tryz.f4.params.toList.map fun t => match Tryz.prog.underlying t with | some (.int k) => some k | _ => Option.none)) = true := by kernel_rfl
theorem k30 : (Rows.countIsExhaustiveRow.pinned == Rows.countIsExhaustiveRow.pinnedBy) = true := by kernel_rfl
theorem k31 : (Rows.countIsExhaustiveRow.veiled == (Tryz.f4.params.toList ++ Rows.countIsExhaustiveSpec.plain.varTypes Tryz.prog ++ Tryz.f4.resultTypes.toList).any (Tryz.prog.veiledRec ·)) = true := by kernel_rfl
theorem k32 : Rows.countIsExhaustiveRow.veiledFits Tryz.prog Tryz.f4.params.toList (Tryz.f4.params.toList ++ Rows.countIsExhaustiveSpec.plain.varTypes Tryz.prog ++ Tryz.f4.resultTypes.toList) = true := by kernel_rfl
theorem g1 : false = Rows.countIsExhaustiveRow.goesBy Tryz.prog := by kernel_rfl
end Go.Proofs.YtdkocfjbmbenfaaGreatDoor
