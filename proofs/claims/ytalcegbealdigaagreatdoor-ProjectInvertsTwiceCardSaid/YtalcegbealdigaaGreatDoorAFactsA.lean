/-
Closed facts of the given row, by the kernel (part A).
-/
import Derived.Test.YtalcegbealdigaaGreatDoorTie
import Derived.Test.YtalcegbealdigaaGreatDoorCards
import Derived.JoinedOf
import Derived.SevenTiedAt
namespace Go.Proofs.YtalcegbealdigaaGreatDoor
set_option maxRecDepth 100000
theorem k01 : Rows.projectInvertsTwiceRow.wf (OpenSpec.ofChange Rows.projectInvertsTwiceSpec) = true := by kernel_rfl
theorem k02 : laidOutB Tryz.prog = true := by kernel_rfl
theorem k03 : mapsRowed Tryz.prog = true := by kernel_rfl
theorem k04 : Tryz.f3.params.all (Tryz.prog.readableRec ·) = true := by kernel_rfl
theorem k05 : namedTie Tryz.prog Rows.projectInvertsTwiceRow.named Rows.projectInvertsTwiceSpec.vars = true := by kernel_rfl
theorem k06 : (Rows.projectInvertsTwiceRow.stops == []) = true := by kernel_rfl
theorem k07 : (Tryz.prog.stops == []) = true := by kernel_rfl
theorem k08 : (Rows.projectInvertsTwiceRow.knobs == []) = true := by kernel_rfl
theorem k09 : (Tryz.prog.stopKnobs == []) = true := by kernel_rfl
theorem k14 : (Rows.projectInvertsTwiceRow.maps == (Tryz.f3.params.toList ++ Rows.projectInvertsTwiceSpec.plain.varTypes Tryz.prog).any (Tryz.prog.mapsRec ·)) = true := by kernel_rfl
theorem k15 : (Rows.projectInvertsTwiceRow.ifaces == (Tryz.f3.params.toList ++ Rows.projectInvertsTwiceSpec.plain.varTypes Tryz.prog).any (Tryz.prog.ifacesRec ·)) = true := by kernel_rfl
theorem k16 : (Rows.projectInvertsTwiceRow.mapsOut == Tryz.prog.mapsAmong Tryz.f3.resultTypes.toList) = true := by kernel_rfl
theorem k17 : (Rows.projectInvertsTwiceRow.loops == (Tryz.f3.params.toList ++ Rows.projectInvertsTwiceSpec.plain.varTypes Tryz.prog).any (Tryz.prog.loopsFrom ·)) = true := by kernel_rfl
theorem k18 : (Rows.projectInvertsTwiceRow.wideKeys == (Tryz.f3.params.toList ++ Rows.projectInvertsTwiceSpec.plain.varTypes Tryz.prog ++ Tryz.f3.resultTypes.toList).any (Tryz.prog.wideKeysFrom ·)) = true := by kernel_rfl
theorem k19 : Rows.projectInvertsTwiceSpec.vars.all (Tryz.prog.varReadable ·) = true := by kernel_rfl
theorem k20 : Tryz.f3.resultTypes.all (fun t => Tryz.prog.readableRec t && decide (t < Tryz.prog.types.size)) = true := by kernel_rfl
theorem k21 : (Rows.projectInvertsTwiceRow.ifacesOut == Tryz.f3.resultTypes.toList.any (Tryz.prog.ifacesRec ·)) = true := by kernel_rfl
theorem k22 : (Rows.projectInvertsTwiceRow.loopsOut == Tryz.f3.resultTypes.toList.any (Tryz.prog.loopsFrom ·)) = true := by kernel_rfl
theorem k24 : Rows.projectInvertsTwiceRow.shortTexts.isNone = true := by kernel_rfl
theorem k26 : Tryz.prog.mayEnter = true := by kernel_rfl
theorem k27 : (Rows.projectInvertsTwiceRow.lifted == Tryz.prog.liftsFinal) = true := by kernel_rfl
theorem k28 : (Tryz.prog.make == some Rows.projectInvertsTwiceRow.make) = true := by kernel_rfl
theorem k29 : (Rows.projectInvertsTwiceRow.kinds == (if Rows.projectInvertsTwiceRow.domain.isEmpty then [] else Tryz.f3.params.toList.map fun t => match Tryz.prog.underlying t with | some (.int k) => some k | _ => Option.none)) = true := by kernel_rfl
theorem k30 : (Rows.projectInvertsTwiceRow.pinned == Rows.projectInvertsTwiceRow.pinnedBy) = true := by kernel_rfl
theorem k31 : (Rows.projectInvertsTwiceRow.veiled == (Tryz.f3.params.toList ++ Rows.projectInvertsTwiceSpec.plain.varTypes Tryz.prog ++ Tryz.f3.resultTypes.toList).any (Tryz.prog.veiledRec ·)) = true := by kernel_rfl
theorem k32 : Rows.projectInvertsTwiceRow.veiledFits Tryz.prog Tryz.f3.params.toList (Tryz.f3.params.toList ++ Rows.projectInvertsTwiceSpec.plain.varTypes Tryz.prog ++ Tryz.f3.resultTypes.toList) = true := by kernel_rfl
end Go.Proofs.YtalcegbealdigaaGreatDoor
