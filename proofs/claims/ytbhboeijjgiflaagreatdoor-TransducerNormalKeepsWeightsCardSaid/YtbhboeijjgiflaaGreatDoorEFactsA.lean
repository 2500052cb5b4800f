/-
Closed facts of the given row, by the kernel (part A).
-/
import Derived.Test.YtbhboeijjgiflaaGreatDoorTie
import Derived.Test.YtbhboeijjgiflaaGreatDoorCards
import Derived.JoinedOf
import Derived.SevenTiedAt
import GoSem.ClaimSeven
import Derived.KernelRfl
namespace Go.Proofs.YtbhboeijjgiflaaGreatDoor
set_option maxRecDepth 100000
theorem k01 : Rows.transducerNormalKeepsWeightsRow.wf (OpenSpec.ofChange Rows.transducerNormalKeepsWeightsSpec) = true := by kernel_rfl
theorem k02 : laidOutB Tryz.prog = true := by kernel_rfl
theorem k03 : mapsRowed Tryz.prog = true := by kernel_rfl
theorem k04 : Tryz.f7.params.all (Tryz.prog.readableRec ·) = true := by kernel_rfl
theorem k05 : namedTie Tryz.prog Rows.transducerNormalKeepsWeightsRow.named Rows.transducerNormalKeepsWeightsSpec.vars = true := by kernel_rfl
theorem k06 : (Rows.transducerNormalKeepsWeightsRow.stops == []) = true := by kernel_rfl
theorem k07 : (Tryz.prog.stops == []) = true := by kernel_rfl
theorem k08 : (Rows.transducerNormalKeepsWeightsRow.knobs == []) = true := by kernel_rfl
theorem k09 : (Tryz.prog.stopKnobs == []) = true := by kernel_rfl
theorem k14 : (Rows.transducerNormalKeepsWeightsRow.maps == (Tryz.f7.params.toList ++ Rows.transducerNormalKeepsWeightsSpec.plain.varTypes Tryz.prog).any (Tryz.prog.mapsRec ·)) = true := by kernel_rfl
theorem k15 : (Rows.transducerNormalKeepsWeightsRow.ifaces == (Tryz.f7.params.toList ++ Rows.transducerNormalKeepsWeightsSpec.plain.varTypes Tryz.prog).any (Tryz.prog.ifacesRec ·)) = true := by kernel_rfl
theorem k16 : (Rows.transducerNormalKeepsWeightsRow.mapsOut == Tryz.prog.mapsAmong Tryz.f7.resultTypes.toList) = true := by kernel_rfl
theorem k17 : (Rows.transducerNormalKeepsWeightsRow.loops == (Tryz.f7.params.toList ++ Rows.transducerNormalKeepsWeightsSpec.plain.varTypes Tryz.prog).any (Tryz.prog.loopsFrom ·)) = true := by kernel_rfl
theorem k18 : (Rows.transducerNormalKeepsWeightsRow.wideKeys == (Tryz.f7.params.toList ++ Rows.transducerNormalKeepsWeightsSpec.plain.varTypes Tryz.prog ++ Tryz.f7.resultTypes.toList).any (Tryz.prog.wideKeysFrom ·)) = true := by kernel_rfl
theorem k19 : Rows.transducerNormalKeepsWeightsSpec.vars.all (Tryz.prog.varReadable ·) = true := by kernel_rfl
theorem k20 : Tryz.f7.resultTypes.all (fun t => Tryz.prog.readableRec t && decide (t < Tryz.prog.types.size)) = true := by kernel_rfl
theorem k21 : (Rows.transducerNormalKeepsWeightsRow.ifacesOut == Tryz.f7.resultTypes.toList.any (Tryz.prog.ifacesRec ·)) = true := by kernel_rfl
theorem k22 : (Rows.transducerNormalKeepsWeightsRow.loopsOut == Tryz.f7.resultTypes.toList.any (Tryz.prog.loopsFrom ·)) = true := by kernel_rfl
theorem k24 : Rows.transducerNormalKeepsWeightsRow.shortTexts.isNone = true := by kernel_rfl
theorem k26 : Tryz.prog.mayEnter = true := by kernel_rfl
theorem k27 : (Rows.transducerNormalKeepsWeightsRow.lifted == Tryz.prog.liftsFinal) = true := by kernel_rfl
theorem k28 : (Tryz.prog.make == some Rows.transducerNormalKeepsWeightsRow.make) = true := by kernel_rfl
theorem k29 : (Rows.transducerNormalKeepsWeightsRow.kinds == (if Rows.transducerNormalKeepsWeightsRow.domain.isEmpty then [] else Tryz.f7.params.toList.map fun t => match Tryz.prog.underlying t with | some (.int k) => some k | _ => Option.none)) = true := by kernel_rfl
theorem k30 : (Rows.transducerNormalKeepsWeightsRow.pinned == Rows.transducerNormalKeepsWeightsRow.pinnedBy) = true := by kernel_rfl
theorem k31 : (Rows.transducerNormalKeepsWeightsRow.veiled == (Tryz.f7.params.toList ++ Rows.transducerNormalKeepsWeightsSpec.plain.varTypes Tryz.prog ++ Tryz.f7.resultTypes.toList).any (Tryz.prog.veiledRec ·)) = true := by kernel_rfl
theorem k32 : Rows.transducerNormalKeepsWeightsRow.veiledFits Tryz.prog Tryz.f7.params.toList (Tryz.f7.params.toList ++ Rows.transducerNormalKeepsWeightsSpec.plain.varTypes Tryz.prog ++ Tryz.f7.resultTypes.toList) = true := by kernel_rfl
theorem g1 : false = Rows.transducerNormalKeepsWeightsRow.goesBy Tryz.prog := by kernel_rfl
end Go.Proofs.YtbhboeijjgiflaaGreatDoor
