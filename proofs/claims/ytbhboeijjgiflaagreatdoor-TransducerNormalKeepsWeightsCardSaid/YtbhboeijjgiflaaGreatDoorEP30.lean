/-
Proofs for the law TransducerNormalKeepsWeights, part 30. Conditions: none.
-/
import Derived.Test.YtbhboeijjgiflaaGreatDoorEP29
import Derived.Test.YtbhboeijjgiflaaGreatDoorEP12
import Derived.Test.YtbhboeijjgiflaaGreatDoorEP23
import Derived.Test.YtbhboeijjgiflaaGreatDoorEP15
import Derived.KernelRfl
set_option maxRecDepth 100000
set_option maxHeartbeats 4000000
set_option linter.all false
namespace Go.Ab
open Enc (enc)
attribute [local go_sem] zal Opd.slots
theorem z5u (v w:GW) (hv:v.sm 1048576) (hw:w.sm 1048576):Sp P F.d6 [enc v,enc w] (.pure (enc (zau 1 v w))):=by
 refine Sp.vz c.d6 fun _=>?_
 simp [g.d6,go_sem]
 refine zaa (zmk v.q w.q hv.q hw.q) rfl ?_
 simp [zau,go_sem]
theorem z5f (v w:GW):Sp P F.cn [enc v,enc w] (.pure (enc (zau 4 v w))):=by
 refine Sp.vz c.cn fun _=>?_
 simp [g.cn,go_sem,zau,zwn]
theorem yaw (v w:GW):Sp P F.cd [enc v,enc w] (.pure (.bool (!v.inf&&(w.inf||decide (v.cost<w.cost))))):=by
 refine Sp.vz c.cd fun _=>?_
 simp [g.cd,go_sem]
 rcases Bool.eq_false_or_eq_true v.inf with h1|h1<;>rcases Bool.eq_false_or_eq_true w.inf with h2|h2<;>simp [go_sem,h1,h2]
theorem z7l (v w:GW) (hv:v.si 2) (hw:w.si 2):Sp P F.ca [enc v,enc w] (.pure (enc (zau 2 v w))):=by
 refine Sp.vz c.ca fun _=>?_
 simp [g.ca,go_sem]
 refine zab (yaw w v) ?_
 rcases Bool.eq_false_or_eq_true v.inf with h1|h1
 ·rcases Bool.eq_false_or_eq_true w.inf with h2|h2
  ·have hvw:v=w:=by
    have a:=si2.1 hv
    have b:=si2.1 hw
    exact GW.ext (by rw [a.2.1,b.2.1]) (by rw [a.2.2.2.2.2.2 h1,b.2.2.2.2.2.2 h2]) (by rw [h1,h2]) (by rw [a.2.2.1,b.2.2.1]) (by rw [a.2.2.2.1,b.2.2.2.1]) (by rw [a.1,b.1])
   subst hvw
   simp [go_sem,h1,zau]
  ·simp [go_sem,h1,h2,zau]
 ·rcases Bool.eq_false_or_eq_true w.inf with h2|h2
  ·simp [go_sem,h1,h2,zau]
  ·by_cases h3:w.cost<v.cost
   ·simp [go_sem,h1,h2,h3,zau]
   ·simp [go_sem,h1,h2,h3,zau]
theorem z6z (v w:GW) (hv:v.sm 1048576) (hw:w.sm 1048576):Sp P F.d9 [enc v,enc w] (.pure (.bool (decide (w.q.v<v.q.v)))):=by
 refine Sp.vz c.d9 fun _=>?_
 simp [g.d9,go_sem]
 refine zaa (zmj v.q w.q hv.q hw.q) rfl ?_
 simp [go_sem,z0l]
theorem z6y (v w:GW) (hv:v.sm 1048576) (hw:w.sm 1048576) (sv:v.si 3) (sw:w.si 3):Sp P F.ee [enc v,enc w,.ref fraZ] (.pure (enc (zau 3 v w))):=by
 refine Sp.of_vmW c.ee (by simp) (Weak.openRef (t:=2) (v:=fraZ) (n:=9) (by simp [go_sem]) rfl) ?_
 simp [g.ee,go_sem,fraZ]
 refine zab (z6z w v hw hv) ?_
 have key:∀ x:GW,x.si 3->x=.mk (rto x.q.v) 0 false 0 [] []:=fun x hx=>by
  have a:=si3.1 hx
  exact GW.ext (zgt a.2.2.2.2.2.1).symm a.2.2.1 a.2.1 a.2.2.2.1 a.2.2.2.2.1 a.1
 have hg0:gr0.v=0:=by rw [show gr0=rto 0 from zb8.symm,zbd]
 by_cases h:v.q.v<w.q.v
 ·have e:zau 3 v w=.mk (rto w.q.v) 0 false 0 [] []:=by simp only [zau,h,if_true]; exact key w sw
  rw [e]
  simp [go_sem,h]
  have:=zmk w.q gr0 hw.q (zgs _)
  rw [hg0,Rat.add_zero] at this
  refine zaa this rfl ?_
  simp [go_sem]
 ·have e:zau 3 v w=.mk (rto v.q.v) 0 false 0 [] []:=by simp only [zau,h,if_false]; exact key v sv
  rw [e]
  simp [go_sem,h]
  have:=zmk v.q gr0 hv.q (zgs _)
  rw [hg0,Rat.add_zero] at this
  refine zaa this rfl ?_
  simp [go_sem]
end Go.Ab
namespace Go.Ab
open Go.Proofs
def T.bool:TypeId:=4
def T.int:TypeId:=3
def T.ints:TypeId:=22
def T.limbs:TypeId:=31
def T.u32:TypeId:=146
def T.u64:TypeId:=34
def T.key:TypeId:=99
def T.rat:TypeId:=33
def T.mono:TypeId:=101
def T.poly:TypeId:=35
def T.weight:TypeId:=37
def T.weights:TypeId:=25
def T.ring:TypeId:=24
def T.arc:TypeId:=342
def T.arcs:TypeId:=338
def T.tarc:TypeId:=53
def T.tarcs:TypeId:=26
def T.auto:TypeId:=340
def T.trans:TypeId:=28
def T.model:TypeId:=44
theorem ty.map:P.underlying 218=some (.map 99 33):=by kernel_rfl
theorem ty.key:P.underlying 99=some (.array 3 3):=by kernel_rfl
theorem ty.int:P.underlying 3=some (.int .i64):=by kernel_rfl
theorem ty.bool:P.underlying 4=some .bool:=by kernel_rfl
theorem ty.u32:P.underlying 146=some (.int .u32):=by kernel_rfl
theorem ty.u64:P.underlying 34=some (.int .u64):=by kernel_rfl
theorem ty.cells:P.cellsOf 99=3:=by kernel_rfl
theorem ty.cell:P.cellsOf 3=1:=by kernel_rfl
theorem ty.cu32:P.cellsOf 146=1:=by kernel_rfl
theorem ty.size:0<P.types.size:=of_decide_eq_true (by kernel_rfl)
theorem ty.ints:P.underlying T.ints=some (.slice 3):=by kernel_rfl
theorem ty.limbs:P.underlying T.limbs=some (.slice 146):=by kernel_rfl
theorem ty.poly:P.underlying T.poly=some (.slice T.mono):=by kernel_rfl
theorem ty.cmono:P.cellsOf T.mono=6:=by kernel_rfl
theorem ty.weights:P.underlying T.weights=some (.slice T.weight):=by kernel_rfl
theorem ty.cweight:P.cellsOf T.weight=8:=by kernel_rfl
theorem ty.arcs:P.underlying T.arcs=some (.slice T.arc):=by kernel_rfl
theorem ty.carc:P.cellsOf T.arc=11:=by kernel_rfl
theorem ty.tarcs:P.underlying T.tarcs=some (.slice T.tarc):=by kernel_rfl
theorem ty.ctarc:P.cellsOf T.tarc=12:=by kernel_rfl
theorem ty.rat:shp P T.rat=some ([(T.bool,0,1),(T.limbs,1,1),(T.limbs,2,1)],3):=by kernel_rfl
theorem ty.mono:shp P T.mono=some ([(T.key,0,3),(T.rat,3,3)],6):=by kernel_rfl
theorem ty.weight:shp P T.weight=some ([(T.rat,0,3),(T.int,3,1),(T.bool,4,1),(T.u64,5,1),(T.poly,6,1),(T.weights,7,1)],8):=by kernel_rfl
theorem ty.ring:shp P T.ring=some ([(T.int,0,1),(T.ints,1,1)],2):=by kernel_rfl
theorem ty.arc:shp P T.arc=some ([(T.int,0,1),(T.int,1,1),(T.int,2,1),(T.weight,3,8)],11):=by kernel_rfl
theorem ty.tarc:shp P T.tarc=some ([(T.int,0,1),(T.int,1,1),(T.int,2,1),(T.int,3,1),(T.weight,4,8)],12):=by kernel_rfl
theorem ty.auto:shp P T.auto=some ([(T.ring,0,2),(T.int,2,1),(T.int,3,1),(T.weights,4,1),(T.weights,5,1),(T.arcs,6,1)],7):=by kernel_rfl
theorem ty.trans:shp P T.trans=some ([(T.ring,0,2),(T.int,2,1),(T.int,3,1),(T.int,4,1),(T.weights,5,1),(T.weights,6,1),(T.tarcs,7,1)],8):=by kernel_rfl
theorem ty.model:shp P T.model=some ([(T.int,0,1),(T.ints,1,1),(T.ints,2,1),(T.ints,3,1),(T.bool,4,1)],5):=by kernel_rfl
end Go.Ab
