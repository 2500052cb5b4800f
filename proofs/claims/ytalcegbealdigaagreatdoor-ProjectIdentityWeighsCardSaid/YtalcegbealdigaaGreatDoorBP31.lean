/-
Proofs for the law ProjectIdentityWeighs, part 31. Conditions: none.
-/
import Derived.Test.YtalcegbealdigaaGreatDoorBP23
import Derived.Test.YtalcegbealdigaaGreatDoorBP14
import Derived.KernelRfl
set_option maxRecDepth 100000
set_option maxHeartbeats 4000000
set_option linter.all false
namespace Go.Ab
open Go.Proofs
def T.bool:TypeId:=4
def T.int:TypeId:=3
def T.ints:TypeId:=22
def T.limbs:TypeId:=42
def T.u32:TypeId:=145
def T.u64:TypeId:=45
def T.key:TypeId:=121
def T.rat:TypeId:=44
def T.mono:TypeId:=123
def T.poly:TypeId:=46
def T.weight:TypeId:=48
def T.weights:TypeId:=27
def T.ring:TypeId:=26
def T.arc:TypeId:=83
def T.arcs:TypeId:=36
def T.tarc:TypeId:=70
def T.tarcs:TypeId:=28
def T.auto:TypeId:=38
def T.trans:TypeId:=30
def T.model:TypeId:=24
theorem ty.map:P.underlying 237=some (.map 121 44):=by kernel_rfl
theorem ty.key:P.underlying 121=some (.array 3 3):=by kernel_rfl
theorem ty.int:P.underlying 3=some (.int .i64):=by kernel_rfl
theorem ty.bool:P.underlying 4=some .bool:=by kernel_rfl
theorem ty.u32:P.underlying 145=some (.int .u32):=by kernel_rfl
theorem ty.u64:P.underlying 45=some (.int .u64):=by kernel_rfl
theorem ty.cells:P.cellsOf 121=3:=by kernel_rfl
theorem ty.cell:P.cellsOf 3=1:=by kernel_rfl
theorem ty.cu32:P.cellsOf 145=1:=by kernel_rfl
theorem ty.size:0<P.types.size:=of_decide_eq_true (by kernel_rfl)
theorem ty.ints:P.underlying T.ints=some (.slice 3):=by kernel_rfl
theorem ty.limbs:P.underlying T.limbs=some (.slice 145):=by kernel_rfl
theorem ty.poly:P.underlying T.poly=some (.slice T.mono):=by kernel_rfl
theorem ty.cmono:P.cellsOf T.mono=6:=by kernel_rfl
theorem ty.weights:P.underlying T.weights=some (.slice T.weight):=by kernel_rfl
theorem ty.cweight:P.cellsOf T.weight=8:=by kernel_rfl
theorem ty.arcs:P.underlying T.arcs=some (.slice T.arc):=by kernel_rfl
theorem ty.carc:P.cellsOf T.arc=11:=by kernel_rfl
theorem ty.tarcs:P.underlying T.tarcs=some (.slice T.tarc):=by kernel_rfl
theorem ty.ctarc:P.cellsOf T.tarc=12:=by kernel_rfl
theorem ty.rat:shp P T.rat=some ([(T.bool,0,1),(T.limbs,1,1),(T.limbs,2,1)],3):=by kernel_rfl
theorem ty.mono:shp P T.mono=some ([(T.key,0,3),(T.rat,3,3)],6):=by kernel_rfl
theorem ty.weight:shp P T.weight=some ([(T.rat,0,3),(T.int,3,1),(T.bool,4,1),(T.u64,5,1),(T.poly,6,1),(T.weights,7,1)],8):=by kernel_rfl
theorem ty.ring:shp P T.ring=some ([(T.int,0,1),(T.ints,1,1)],2):=by kernel_rfl
theorem ty.arc:shp P T.arc=some ([(T.int,0,1),(T.int,1,1),(T.int,2,1),(T.weight,3,8)],11):=by kernel_rfl
theorem ty.tarc:shp P T.tarc=some ([(T.int,0,1),(T.int,1,1),(T.int,2,1),(T.int,3,1),(T.weight,4,8)],12):=by kernel_rfl
theorem ty.auto:shp P T.auto=some ([(T.ring,0,2),(T.int,2,1),(T.int,3,1),(T.weights,4,1),(T.weights,5,1),(T.arcs,6,1)],7):=by kernel_rfl
theorem ty.trans:shp P T.trans=some ([(T.ring,0,2),(T.int,2,1),(T.int,3,1),(T.int,4,1),(T.weights,5,1),(T.weights,6,1),(T.tarcs,7,1)],8):=by kernel_rfl
theorem ty.model:shp P T.model=some ([(T.int,0,1),(T.ints,1,1),(T.ints,2,1),(T.ints,3,1),(T.bool,4,1)],5):=by kernel_rfl
end Go.Ab
