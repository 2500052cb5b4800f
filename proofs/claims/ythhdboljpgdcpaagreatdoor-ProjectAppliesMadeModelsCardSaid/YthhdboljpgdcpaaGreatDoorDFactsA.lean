/-
Closed facts of the given row, by the kernel (part A).
-/
import Derived.Test.YthhdboljpgdcpaaGreatDoorTie
import Derived.Test.YthhdboljpgdcpaaGreatDoorCards
import Derived.JoinedOf
import Derived.SevenTiedAt
import GoSem.ClaimSeven
import Derived.KernelRfl
namespace Go.Proofs.YthhdboljpgdcpaaGreatDoor
set_option maxRecDepth 100000
theorem k01 : Rows.projectAppliesMadeModelsRow.wf (OpenSpec.ofChange Rows.projectAppliesMadeModelsSpec) = true := by kernel_rfl
theorem k02 : laidOutB Tryz.prog = true := by kernel_rfl
theorem k03 : mapsRowed Tryz.prog = true := by kernel_rfl
theorem k04 : Tryz.f6.params.all (Tryz.prog.readableRec ·) = true := by kernel_rfl
theorem k05 : namedTie Tryz.prog Rows.projectAppliesMadeModelsRow.named Rows.projectAppliesMadeModelsSpec.vars = true := by kernel_rfl
theorem k06 : (Rows.projectAppliesMadeModelsRow.stops == []) = true := by kernel_rfl
theorem k07 : (Tryz.prog.stops == []) = true := by kernel_rfl
theorem k08 : (Rows.projectAppliesMadeModelsRow.knobs == []) = true := by kernel_rfl
theorem k09 : (Tryz.prog.stopKnobs == []) = true := by kernel_rfl
theorem k14 : (Rows.projectAppliesMadeModelsRow.maps == (Tryz.f6.params.toList ++ Rows.projectAppliesMadeModelsSpec.plain.varTypes Tryz.prog).any (Tryz.prog.mapsRec ·)) = true := by kernel_rfl
theorem k15 : (Rows.projectAppliesMadeModelsRow.ifaces == (Tryz.f6.params.toList ++ Rows.projectAppliesMadeModelsSpec.plain.varTypes Tryz.prog).any (Tryz.prog.ifacesRec ·)) = true := by kernel_rfl
theorem k16 : (Rows.projectAppliesMadeModelsRow.mapsOut == Tryz.prog.mapsAmong Tryz.f6.resultTypes.toList) = true := by kernel_rfl
theorem k17 : (Rows.projectAppliesMadeModelsRow.loops == (Tryz.f6.params.toList ++ Rows.projectAppliesMadeModelsSpec.plain.varTypes Tryz.prog).any (Tryz.prog.loopsFrom ·)) = true := by kernel_rfl
theorem k18 : (Rows.projectAppliesMadeModelsRow.wideKeys == (Tryz.f6.params.toList ++ Rows.projectAppliesMadeModelsSpec.plain.varTypes Tryz.prog ++ Tryz.f6.resultTypes.toList).any (Tryz.prog.wideKeysFrom ·)) = true := by kernel_rfl
theorem k19 : Rows.projectAppliesMadeModelsSpec.vars.all (Tryz.prog.varReadable ·) = true := by kernel_rfl
theorem k20 : Tryz.f6.resultTypes.all (fun t => Tryz.prog.readableRec t && decide (t < Tryz.prog.types.size)) = true := by kernel_rfl
theorem k21 : (Rows.projectAppliesMadeModelsRow.ifacesOut == Tryz.f6.resultTypes.toList.any (Tryz.prog.ifacesRec ·)) = true := by kernel_rfl
theorem k22 : (Rows.projectAppliesMadeModelsRow.loopsOut == Tryz.f6.resultTypes.toList.any (Tryz.prog.loopsFrom ·)) = true := by kernel_rfl
theorem k24 : Rows.projectAppliesMadeModelsRow.shortTexts.isNone = true := by kernel_rfl
theorem k26 : Tryz.prog.mayEnter = true := by kernel_rfl
theorem k27 : (Rows.projectAppliesMadeModelsRow.lifted == Tryz.prog.liftsFinal) = true := by kernel_rfl
theorem k28 : (Tryz.prog.make == some Rows.projectAppliesMadeModelsRow.make) = true := by kernel_rfl
theorem k29 : (Rows.projectAppliesMadeModelsRow.kinds == (if Rows.projectAppliesMadeModelsRow.domain.isEmpty then [] else Tryz.f6.params.toList.map fun t => match Tryz.prog.underlying t with | some (.int k) => some k | _ => Option.none)) = true := by kernel_rfl
theorem k30 : (Rows.projectAppliesMadeModelsRow.pinned == Rows.projectAppliesMadeModelsRow.pinnedBy) = true := by kernel_rfl
theorem k31 : (Rows.projectAppliesMadeModelsRow.veiled == (Tryz.f6.params.toList ++ Rows.projectAppliesMadeModelsSpec.plain.varTypes Tryz.prog ++ Tryz.f6.resultTypes.toList).any (Tryz.prog.veiledRec ·)) = true := by kernel_rfl
theorem k32 : Rows.projectAppliesMadeModelsRow.veiledFits Tryz.prog Tryz.f6.params.toList (Tryz.f6.params.toList ++ Rows.projectAppliesMadeModelsSpec.plain.varTypes Tryz.prog ++ Tryz.f6.resultTypes.toList) = true := by kernel_rfl
end Go.Proofs.YthhdboljpgdcpaaGreatDoor
