/-
Closed facts of the given row, by the kernel (part A).
-/
import Derived.Test.YtcemegnnejaahaaGreatDoorTie
import Derived.Test.YtcemegnnejaahaaGreatDoorCards
import Derived.JoinedOf
import Derived.SevenTiedAt
import GoSem.ClaimSeven
import Derived.KernelRfl
namespace Go.Proofs.YtcemegnnejaahaaGreatDoor
set_option maxRecDepth 100000
theorem k01 : Rows.ambiguityLoopsRow.wf (OpenSpec.ofChange Rows.ambiguityLoopsSpec) = true := by kernel_rfl
theorem k02 : laidOutB Tryz.prog = true := by kernel_rfl
theorem k03 : mapsRowed Tryz.prog = true := by kernel_rfl
theorem k04 : Tryz.f4.params.all (Tryz.prog.readableRec ·) = true := by kernel_rfl
theorem k05 : namedTie Tryz.prog Rows.ambiguityLoopsRow.named Rows.ambiguityLoopsSpec.vars = true := by kernel_rfl
theorem k06 : (Rows.ambiguityLoopsRow.stops == []) = true := by kernel_rfl
theorem k07 : (Tryz.prog.stops == []) = true := by kernel_rfl
theorem k08 : (Rows.ambiguityLoopsRow.knobs == []) = true := by kernel_rfl
theorem k09 : (Tryz.prog.stopKnobs == []) = true := by kernel_rfl
theorem k14 : (Rows.ambiguityLoopsRow.maps == (Tryz.f4.params.toList ++ Rows.ambiguityLoopsSpec.plain.varTypes Tryz.prog).any (Tryz.prog.mapsRec ·)) = true := by kernel_rfl
theorem k15 : (Rows.ambiguityLoopsRow.ifaces == (Tryz.f4.params.toList ++ Rows.ambiguityLoopsSpec.plain.varTypes Tryz.prog).any (Tryz.prog.ifacesRec ·)) = true := by kernel_rfl
theorem k16 : (Rows.ambiguityLoopsRow.mapsOut == Tryz.prog.mapsAmong Tryz.f4.resultTypes.toList) = true := by kernel_rfl
theorem k17 : (Rows.ambiguityLoopsRow.loops == (Tryz.f4.params.toList ++ Rows.ambiguityLoopsSpec.plain.varTypes Tryz.prog).any (Tryz.prog.loopsFrom ·)) = true := by kernel_rfl
theorem k18 : (Rows.ambiguityLoopsRow.wideKeys == (Tryz.f4.params.toList ++ Rows.ambiguityLoopsSpec.plain.varTypes Tryz.prog ++ Tryz.f4.resultTypes.toList).any (Tryz.prog.wideKeysFrom ·)) = true := by kernel_rfl
theorem k19 : Rows.ambiguityLoopsSpec.vars.all (Tryz.prog.varReadable ·) = true := by kernel_rfl
theorem k20 : Tryz.f4.resultTypes.all (fun t => Tryz.prog.readableRec t && decide (t < Tryz.prog.types.size)) = true := by kernel_rfl
theorem k21 : (Rows.ambiguityLoopsRow.ifacesOut == Tryz.f4.resultTypes.toList.any (Tryz.prog.ifacesRec ·)) = true := by kernel_rfl
theorem k22 : (Rows.ambiguityLoopsRow.loopsOut == Tryz.f4.resultTypes.toList.any (Tryz.prog.loopsFrom ·)) = true := by kernel_rfl
theorem k24 : Rows.ambiguityLoopsRow.shortTexts.isNone = true := by kernel_rfl
theorem k26 : Tryz.prog.mayEnter = true := by kernel_rfl
theorem k27 : (Rows.ambiguityLoopsRow.lifted == Tryz.prog.liftsFinal) = true := by kernel_rfl
theorem k28 : (Tryz.prog.make == some Rows.ambiguityLoopsRow.make) = true := by kernel_rfl
theorem k29 : (Rows.ambiguityLoopsRow.kinds == (if Rows.ambiguityLoopsRow.domain.isEmpty then [] else Tryz.f4.params.toList.map fun t => match Tryz.prog.underlying t with | some (.int k) => some k | _ => Option.none)) = true := by kernel_rfl
theorem k30 : (Rows.ambiguityLoopsRow.pinned == Rows.ambiguityLoopsRow.pinnedBy) = true := by kernel_rfl
theorem k31 : (Rows.ambiguityLoopsRow.veiled == (Tryz.f4.params.toList ++ Rows.ambiguityLoopsSpec.plain.varTypes Tryz.prog ++ Tryz.f4.resultTypes.toList).any (Tryz.prog.veiledRec ·)) = true := by kernel_rfl
theorem k32 : Rows.ambiguityLoopsRow.veiledFits Tryz.prog Tryz.f4.params.toList (Tryz.f4.params.toList ++ Rows.ambiguityLoopsSpec.plain.varTypes Tryz.prog ++ Tryz.f4.resultTypes.toList) = true := by kernel_rfl
theorem g1 : false = Rows.ambiguityLoopsRow.goesBy Tryz.prog := by kernel_rfl
end Go.Proofs.YtcemegnnejaahaaGreatDoor
