/-
Closed facts of the given row, by the kernel (part A).
-/
import Derived.Test.YtbhboeijjgiflaaGreatDoorTie
import Derived.Test.YtbhboeijjgiflaaGreatDoorCards
import Derived.JoinedOf
import Derived.SevenTiedAt
import GoSem.ClaimSeven
import Derived.KernelRfl
namespace Go.Proofs.YtbhboeijjgiflaaGreatDoor
set_option maxRecDepth 100000
theorem k01 : Rows.transducerSumsPathsRow.wf (OpenSpec.ofChange Rows.transducerSumsPathsSpec) = true := by kernel_rfl
theorem k02 : laidOutB Tryz.prog = true := by kernel_rfl
theorem k03 : mapsRowed Tryz.prog = true := by kernel_rfl
theorem k04 : Tryz.f5.params.all (Tryz.prog.readableRec ·) = true := by kernel_rfl
theorem k05 : namedTie Tryz.prog Rows.transducerSumsPathsRow.named Rows.transducerSumsPathsSpec.vars = true := by kernel_rfl
theorem k06 : (Rows.transducerSumsPathsRow.stops == []) = true := by kernel_rfl
theorem k07 : (Tryz.prog.stops == []) = true := by kernel_rfl
theorem k08 : (Rows.transducerSumsPathsRow.knobs == []) = true := by kernel_rfl
theorem k09 : (Tryz.prog.stopKnobs == []) = true := by kernel_rfl
theorem k14 : (Rows.transducerSumsPathsRow.maps == (Tryz.f5.params.toList ++ Rows.transducerSumsPathsSpec.plain.varTypes Tryz.prog).any (Tryz.prog.mapsRec ·)) = true := by kernel_rfl
theorem k15 : (Rows.transducerSumsPathsRow.ifaces == (Tryz.f5.params.toList ++ Rows.transducerSumsPathsSpec.plain.varTypes Tryz.prog).any (Tryz.prog.ifacesRec ·)) = true := by kernel_rfl
theorem k16 : (Rows.transducerSumsPathsRow.mapsOut == Tryz.prog.mapsAmong Tryz.f5.resultTypes.toList) = true := by kernel_rfl
theorem k17 : (Rows.transducerSumsPathsRow.loops == (Tryz.f5.params.toList ++ Rows.transducerSumsPathsSpec.plain.varTypes Tryz.prog).any (Tryz.prog.loopsFrom ·)) = true := by kernel_rfl
theorem k18 : (Rows.transducerSumsPathsRow.wideKeys == (Tryz.f5.params.toList ++ Rows.transducerSumsPathsSpec.plain.varTypes Tryz.prog ++ Tryz.f5.resultTypes.toList).any (Tryz.prog.wideKeysFrom ·)) = true := by kernel_rfl
theorem k19 : Rows.transducerSumsPathsSpec.vars.all (Tryz.prog.varReadable ·) = true := by kernel_rfl
theorem k20 : Tryz.f5.resultTypes.all (fun t => Tryz.prog.readableRec t && decide (t < Tryz.prog.types.size)) = true := by kernel_rfl
theorem k21 : (Rows.transducerSumsPathsRow.ifacesOut == Tryz.f5.resultTypes.toList.any (Tryz.prog.ifacesRec ·)) = true := by kernel_rfl
theorem k22 : (Rows.transducerSumsPathsRow.loopsOut == Tryz.f5.resultTypes.toList.any (Tryz.prog.loopsFrom ·)) = true := by kernel_rfl
theorem k24 : Rows.transducerSumsPathsRow.shortTexts.isNone = true := by kernel_rfl
theorem k26 : Tryz.prog.mayEnter = true := by kernel_rfl
theorem k27 : (Rows.transducerSumsPathsRow.lifted == Tryz.prog.liftsFinal) = true := by kernel_rfl
theorem k28 : (Tryz.prog.make == some Rows.transducerSumsPathsRow.make) = true := by kernel_rfl
theorem k29 : (Rows.transducerSumsPathsRow.kinds == (if Rows.transducerSumsPathsRow.domain.isEmpty then [] else Tryz.f5.params.toList.map fun t => match Tryz.prog.underlying t with | some (.int k) => some k | _ => Option.none)) = true := by kernel_rfl
theorem k30 : (Rows.transducerSumsPathsRow.pinned == Rows.transducerSumsPathsRow.pinnedBy) = true := by kernel_rfl
theorem k31 : (Rows.transducerSumsPathsRow.veiled == (Tryz.f5.params.toList ++ Rows.transducerSumsPathsSpec.plain.varTypes Tryz.prog ++ Tryz.f5.resultTypes.toList).any (Tryz.prog.veiledRec ·)) = true := by kernel_rfl
theorem k32 : Rows.transducerSumsPathsRow.veiledFits Tryz.prog Tryz.f5.params.toList (Tryz.f5.params.toList ++ Rows.transducerSumsPathsSpec.plain.varTypes Tryz.prog ++ Tryz.f5.resultTypes.toList) = true := by kernel_rfl
theorem g1 : false = Rows.transducerSumsPathsRow.goesBy Tryz.prog := by kernel_rfl
end Go.Proofs.YtbhboeijjgiflaaGreatDoor
