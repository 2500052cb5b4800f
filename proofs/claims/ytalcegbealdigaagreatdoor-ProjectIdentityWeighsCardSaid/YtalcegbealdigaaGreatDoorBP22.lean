/-
Proofs for the law ProjectIdentityWeighs, part 22. Conditions: none.
-/
import Derived.Test.YtalcegbealdigaaGreatDoorBP17
import Derived.KernelRfl
set_option maxRecDepth 100000
set_option maxHeartbeats 4000000
set_option linter.all false
namespace Go.Ab
open Go.Proofs
theorem c.ku:zac P F.ku=some ⟨9,2,g.ku.er,[]⟩:=by kernel_rfl
theorem c.i9:zac P F.i9=some ⟨53,4,g.i9.er,[]⟩:=by kernel_rfl
theorem c.nm:zac P F.nm=some ⟨53,4,g.nm.er,[]⟩:=by kernel_rfl
theorem c.iy:zac P F.iy=some ⟨53,4,g.iy.er,[]⟩:=by kernel_rfl
theorem c.jk:zac P F.jk=some ⟨148,5,g.jk.er,[]⟩:=by kernel_rfl
theorem c.ml:zac P F.ml=some ⟨63,3,g.ml.er,[]⟩:=by kernel_rfl
theorem c.lm:zac P F.lm=some ⟨63,3,g.lm.er,[]⟩:=by kernel_rfl
theorem c.fi:zac P F.fi=some ⟨33,1,g.fi.er,[(2,some 8),(3,none)]⟩:=by kernel_rfl
theorem c.kd:zac P F.kd=some ⟨64,2,g.kd.er,[(4,none)]⟩:=by kernel_rfl
theorem c.gi:zac P F.gi=some ⟨8,2,g.gi.er,[(3,none)]⟩:=by kernel_rfl
theorem c.fy:zac P F.fy=some ⟨103,1,g.fy.er,[(2,none)]⟩:=by kernel_rfl
theorem c.dg:zac P F.dg=some ⟨27,2,g.dg.er,[(4,none)]⟩:=by kernel_rfl
theorem c.kq:zac P F.kq=some ⟨9,1,g.kq.er,[(2,none)]⟩:=by kernel_rfl
theorem c.kr:zac P F.kr=some ⟨17,3,g.kr.er,[(6,none)]⟩:=by kernel_rfl
theorem c.g9:zac P F.g9=some ⟨8,2,g.g9.er,[(3,none)]⟩:=by kernel_rfl
end Go.Ab
