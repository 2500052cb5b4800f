/-
Closed facts of the given row, by the kernel (part A).
-/
import Derived.Test.YtalcegbealdigaaGreatDoorTie
import Derived.Test.YtalcegbealdigaaGreatDoorCards
import Derived.JoinedOf
import Derived.SevenTiedAt
namespace Go.Proofs.YtalcegbealdigaaGreatDoor
set_option maxRecDepth 100000
theorem k01 : Rows.projectIdentityWeighsRow.wf (OpenSpec.ofChange Rows.projectIdentityWeighsSpec) = true := by kernel_rfl
theorem k02 : laidOutB Tryz.prog = true := by kernel_rfl
theorem k03 : mapsRowed Tryz.prog = true := by kernel_rfl
theorem k04 : Tryz.f4.params.all (Tryz.prog.readableRec ·) = true := by kernel_rfl
theorem k05 : namedTie Tryz.prog Rows.projectIdentityWeighsRow.named Rows.projectIdentityWeighsSpec.vars = true := by kernel_rfl
theorem k06 : (Rows.projectIdentityWeighsRow.stops == []) = true := by kernel_rfl
theorem k07 : (Tryz.prog.stops == []) = true := by kernel_rfl
theorem k08 : (Rows.projectIdentityWeighsRow.knobs == []) = true := by kernel_rfl
theorem k09 : (Tryz.prog.stopKnobs == []) = true := by kernel_rfl
theorem k14 : (Rows.projectIdentityWeighsRow.maps == (Tryz.f4.params.toList ++ Rows.projectIdentityWeighsSpec.plain.varTypes Tryz.prog).any (Tryz.prog.mapsRec ·)) = true := by kernel_rfl
theorem k15 : (Rows.projectIdentityWeighsRow.ifaces == (Tryz.f4.params.toList ++ Rows.projectIdentityWeighsSpec.plain.varTypes Tryz.prog).any (Tryz.prog.ifacesRec ·)) = true := by kernel_rfl
theorem k16 : (Rows.projectIdentityWeighsRow.mapsOut == Tryz.prog.mapsAmong Tryz.f4.resultTypes.toList) = true := by kernel_rfl
theorem k17 : (Rows.projectIdentityWeighsRow.loops == (Tryz.f4.params.toList ++ Rows.projectIdentityWeighsSpec.plain.varTypes Tryz.prog).any (Tryz.prog.loopsFrom ·)) = true := by kernel_rfl
theorem k18 : (Rows.projectIdentityWeighsRow.wideKeys == (Tryz.f4.params.toList ++ Rows.projectIdentityWeighsSpec.plain.varTypes Tryz.prog ++ Tryz.f4.resultTypes.toList).any (Tryz.prog.wideKeysFrom ·)) = true := by kernel_rfl
theorem k19 : Rows.projectIdentityWeighsSpec.vars.all (Tryz.prog.varReadable ·) = true := by kernel_rfl
theorem k20 : Tryz.f4.resultTypes.all (fun t => Tryz.prog.readableRec t && decide (t < Tryz.prog.types.size)) = true := by kernel_rfl
theorem k21 : (Rows.projectIdentityWeighsRow.ifacesOut == Tryz.f4.resultTypes.toList.any (Tryz.prog.ifacesRec ·)) = true := by kernel_rfl
theorem k22 : (Rows.projectIdentityWeighsRow.loopsOut == Tryz.f4.resultTypes.toList.any (Tryz.prog.loopsFrom ·)) = true := by kernel_rfl
theorem k24 : Rows.projectIdentityWeighsRow.shortTexts.isNone = true := by kernel_rfl
theorem k26 : Tryz.prog.mayEnter = true := by kernel_rfl
theorem k27 : (Rows.projectIdentityWeighsRow.lifted == Tryz.prog.liftsFinal) = true := by kernel_rfl
theorem k28 : (Tryz.prog.make == some Rows.projectIdentityWeighsRow.make) = true := by kernel_rfl
theorem k29 : (Rows.projectIdentityWeighsRow.kinds == (if Rows.projectIdentityWeighsRow.domain.isEmpty then [] else Tryz.f4.params.toList.map fun t => match Tryz.prog.underlying t with | some (.int k) => some k | _ => Option.none)) = true := by kernel_rfl
theorem k30 : (Rows.projectIdentityWeighsRow.pinned == Rows.projectIdentityWeighsRow.pinnedBy) = true := by kernel_rfl
theorem k31 : (Rows.projectIdentityWeighsRow.veiled == (Tryz.f4.params.toList ++ Rows.projectIdentityWeighsSpec.plain.varTypes Tryz.prog ++ Tryz.f4.resultTypes.toList).any (Tryz.prog.veiledRec ·)) = true := by kernel_rfl
theorem k32 : Rows.projectIdentityWeighsRow.veiledFits Tryz.prog Tryz.f4.params.toList (Tryz.f4.params.toList ++ Rows.projectIdentityWeighsSpec.plain.varTypes Tryz.prog ++ Tryz.f4.resultTypes.toList) = true := by kernel_rfl
end Go.Proofs.YtalcegbealdigaaGreatDoor
