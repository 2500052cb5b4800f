/-
Closed facts of the given row, by the kernel (part A).
-/
import Derived.Test.YtcemegnnejaahaaGreatDoorTie
import Derived.Test.YtcemegnnejaahaaGreatDoorCards
import Derived.JoinedOf
import Derived.SevenTiedAt
import GoSem.ClaimSeven
import Derived.KernelRfl
namespace Go.Proofs.YtcemegnnejaahaaGreatDoor
set_option maxRecDepth 100000
theorem k01 : Rows.ambiguityCountsRow.wf (OpenSpec.ofChange Rows.ambiguityCountsSpec) = true := by kernel_rfl
theorem k02 : laidOutB Tryz.prog = true := by kernel_rfl
theorem k03 : mapsRowed Tryz.prog = true := by kernel_rfl
theorem k04 : Tryz.f7.params.all (Tryz.prog.readableRec ·) = true := by kernel_rfl
theorem k05 : namedTie Tryz.prog Rows.ambiguityCountsRow.named Rows.ambiguityCountsSpec.vars = true := by kernel_rfl
theorem k06 : (Rows.ambiguityCountsRow.stops == []) = true := by kernel_rfl
theorem k07 : (Tryz.prog.stops == []) = true := by kernel_rfl
theorem k08 : (Rows.ambiguityCountsRow.knobs == []) = true := by kernel_rfl
theorem k09 : (Tryz.prog.stopKnobs == []) = true := by kernel_rfl
theorem k14 : (Rows.ambiguityCountsRow.maps == (Tryz.f7.params.toList ++ Rows.ambiguityCountsSpec.plain.varTypes Tryz.prog).any (Tryz.prog.mapsRec ·)) = true := by kernel_rfl
theorem k15 : (Rows.ambiguityCountsRow.ifaces == (Tryz.f7.params.toList ++ Rows.ambiguityCountsSpec.plain.varTypes Tryz.prog).any (Tryz.prog.ifacesRec ·)) = true := by kernel_rfl
theorem k16 : (Rows.ambiguityCountsRow.mapsOut == Tryz.prog.mapsAmong Tryz.f7.resultTypes.toList) = true := by kernel_rfl
theorem k17 : (Rows.ambiguityCountsRow.loops == (Tryz.f7.params.toList ++ Rows.ambiguityCountsSpec.plain.varTypes Tryz.prog).any (Tryz.prog.loopsFrom ·)) = true := by kernel_rfl
theorem k18 : (Rows.ambiguityCountsRow.wideKeys == (Tryz.f7.params.toList ++ Rows.ambiguityCountsSpec.plain.varTypes Tryz.prog ++ Tryz.f7.resultTypes.toList).any (Tryz.prog.wideKeysFrom ·)) = true := by kernel_rfl
theorem k19 : Rows.ambiguityCountsSpec.vars.all (Tryz.prog.varReadable ·) = true := by kernel_rfl
theorem k20 : Tryz.f7.resultTypes.all (fun t => Tryz.prog.readableRec t && decide (t < Tryz.prog.types.size)) = true := by kernel_rfl
theorem k21 : (Rows.ambiguityCountsRow.ifacesOut == Tryz.f7.resultTypes.toList.any (Tryz.prog.ifacesRec ·)) = true := by kernel_rfl
theorem k22 : (Rows.ambiguityCountsRow.loopsOut == Tryz.f7.resultTypes.toList.any (Tryz.prog.loopsFrom ·)) = true := by kernel_rfl
theorem k24 : Rows.ambiguityCountsRow.shortTexts.isNone = true := by kernel_rfl
theorem k26 : Tryz.prog.mayEnter = true := by kernel_rfl
theorem k27 : (Rows.ambiguityCountsRow.lifted == Tryz.prog.liftsFinal) = true := by kernel_rfl
theorem k28 : (Tryz.prog.make == some Rows.ambiguityCountsRow.make) = true := by kernel_rfl
theorem k29 : (Rows.ambiguityCountsRow.kinds == (if Rows.ambiguityCountsRow.domain.isEmpty then [] else Tryz.f7.params.toList.map fun t => match Tryz.prog.underlying t with | some (.int k) => some k | _ => Option.none)) = true := by kernel_rfl
theorem k30 : (Rows.ambiguityCountsRow.pinned == Rows.ambiguityCountsRow.pinnedBy) = true := by kernel_rfl
theorem k31 : (Rows.ambiguityCountsRow.veiled == (Tryz.f7.params.toList ++ Rows.ambiguityCountsSpec.plain.varTypes Tryz.prog ++ Tryz.f7.resultTypes.toList).any (Tryz.prog.veiledRec ·)) = true := by kernel_rfl
theorem k32 : Rows.ambiguityCountsRow.veiledFits Tryz.prog Tryz.f7.params.toList (Tryz.f7.params.toList ++ Rows.ambiguityCountsSpec.plain.varTypes Tryz.prog ++ Tryz.f7.resultTypes.toList) = true := by kernel_rfl
theorem g1 : false = Rows.ambiguityCountsRow.goesBy Tryz.prog := by kernel_rfl
end Go.Proofs.YtcemegnnejaahaaGreatDoor
