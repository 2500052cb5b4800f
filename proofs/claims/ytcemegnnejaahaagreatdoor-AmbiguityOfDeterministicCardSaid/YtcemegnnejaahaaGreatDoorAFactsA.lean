/-
Closed facts of the given row, by the kernel (part A).
-/
import Derived.Test.YtcemegnnejaahaaGreatDoorTie
import Derived.Test.YtcemegnnejaahaaGreatDoorCards
import Derived.JoinedOf
import Derived.SevenTiedAt
import GoSem.ClaimSeven
import Derived.KernelRfl
namespace Go.Proofs.YtcemegnnejaahaaGreatDoor
set_option maxRecDepth 100000
theorem k01 : Rows.ambiguityOfDeterministicRow.wf (OpenSpec.ofChange Rows.ambiguityOfDeterministicSpec) = true := by kernel_rfl
theorem k02 : laidOutB Tryz.prog = true := by kernel_rfl
theorem k03 : mapsRowed Tryz.prog = true := by kernel_rfl
theorem k04 : Tryz.f3.params.all (Tryz.prog.readableRec ·) = true := by kernel_rfl
theorem k05 : namedTie Tryz.prog Rows.ambiguityOfDeterministicRow.named Rows.ambiguityOfDeterministicSpec.vars = true := by kernel_rfl
theorem k06 : (Rows.ambiguityOfDeterministicRow.stops == []) = true := by kernel_rfl
theorem k07 : (Tryz.prog.stops == []) = true := by kernel_rfl
theorem k08 : (Rows.ambiguityOfDeterministicRow.knobs == []) = true := by kernel_rfl
theorem k09 : (Tryz.prog.stopKnobs == []) = true := by kernel_rfl
theorem k14 : (Rows.ambiguityOfDeterministicRow.maps == (Tryz.f3.params.toList ++ Rows.ambiguityOfDeterministicSpec.plain.varTypes Tryz.prog).any (Tryz.prog.mapsRec ·)) = true := by kernel_rfl
theorem k15 : (Rows.ambiguityOfDeterministicRow.ifaces == (Tryz.f3.params.toList ++ Rows.ambiguityOfDeterministicSpec.plain.varTypes Tryz.prog).any (Tryz.prog.ifacesRec ·)) = true := by kernel_rfl
theorem k16 : (Rows.ambiguityOfDeterministicRow.mapsOut == Tryz.prog.mapsAmong Tryz.f3.resultTypes.toList) = true := by kernel_rfl
theorem k17 : (Rows.ambiguityOfDeterministicRow.loops == (Tryz.f3.params.toList ++ Rows.ambiguityOfDeterministicSpec.plain.varTypes Tryz.prog).any (Tryz.prog.loopsFrom ·)) = true := by kernel_rfl
theorem k18 : (Rows.ambiguityOfDeterministicRow.wideKeys == (Tryz.f3.params.toList ++ Rows.ambiguityOfDeterministicSpec.plain.varTypes Tryz.prog ++ Tryz.f3.resultTypes.toList).any (Tryz.prog.wideKeysFrom ·)) = true := by kernel_rfl
theorem k19 : Rows.ambiguityOfDeterministicSpec.vars.all (Tryz.prog.varReadable ·) = true := by kernel_rfl
theorem k20 : Tryz.f3.resultTypes.all (fun t => Tryz.prog.readableRec t && decide (t < Tryz.prog.types.size)) = true := by kernel_rfl
theorem k21 : (Rows.ambiguityOfDeterministicRow.ifacesOut == Tryz.f3.resultTypes.toList.any (Tryz.prog.ifacesRec ·)) = true := by kernel_rfl
theorem k22 : (Rows.ambiguityOfDeterministicRow.loopsOut == Tryz.f3.resultTypes.toList.any (Tryz.prog.loopsFrom ·)) = true := by kernel_rfl
theorem k24 : Rows.ambiguityOfDeterministicRow.shortTexts.isNone = true := by kernel_rfl
theorem k26 : Tryz.prog.mayEnter = true := by kernel_rfl
theorem k27 : (Rows.ambiguityOfDeterministicRow.lifted == Tryz.prog.liftsFinal) = true := by kernel_rfl
theorem k28 : (Tryz.prog.make == some Rows.ambiguityOfDeterministicRow.make) = true := by kernel_rfl
theorem k29 : (Rows.ambiguityOfDeterministicRow.kinds == (if Rows.ambiguityOfDeterministicRow.domain.isEmpty then [] else Tryz.f3.params.toList.map fun t => match Tryz.prog.underlying t with | some (.int k) => some k | _ => Option.none)) = true := by kernel_rfl
theorem k30 : (Rows.ambiguityOfDeterministicRow.pinned == Rows.ambiguityOfDeterministicRow.pinnedBy) = true := by kernel_rfl
theorem k31 : (Rows.ambiguityOfDeterministicRow.veiled == (Tryz.f3.params.toList ++ Rows.ambiguityOfDeterministicSpec.plain.varTypes Tryz.prog ++ Tryz.f3.resultTypes.toList).any (Tryz.prog.veiledRec ·)) = true := by kernel_rfl
theorem k32 : Rows.ambiguityOfDeterministicRow.veiledFits Tryz.prog Tryz.f3.params.toList (Tryz.f3.params.toList ++ Rows.ambiguityOfDeterministicSpec.plain.varTypes Tryz.prog ++ Tryz.f3.resultTypes.toList) = true := by kernel_rfl
theorem g1 : false = Rows.ambiguityOfDeterministicRow.goesBy Tryz.prog := by kernel_rfl
end Go.Proofs.YtcemegnnejaahaaGreatDoor
