/-
Proofs for the law TransducerSumsPaths, part 30. Conditions: none.
-/
import Derived.Test.YtbhboeijjgiflaaGreatDoorDP29
import Derived.Test.YtbhboeijjgiflaaGreatDoorDP12
import Derived.Test.YtbhboeijjgiflaaGreatDoorDP23
import Derived.Test.YtbhboeijjgiflaaGreatDoorDP15
import Derived.KernelRfl
set_option maxRecDepth 100000
set_option maxHeartbeats 4000000
set_option linter.all false
namespace Go.Ab
open Enc (enc)
attribute [local go_sem] zal Opd.slots
theorem z79(v w:GW)(hv:v.sm 1048576)(hw:w.sm 1048576):Sp P F.d7 [enc v,enc w] (.pure (enc (zap 1 v w))):=by refine Sp.vz c.d7 fun _=>?_;simp[g.d7,go_sem];refine zaa (znd v.q w.q hv.q hw.q) rfl ?_;simp[zap,go_sem]
theorem z7t(v w:GW):Sp P F.cq [enc v,enc w] (.pure (enc (zap 4 v w))):=by refine Sp.vz c.cq fun _=>?_;simp[g.cq,go_sem,zap,zyc]
theorem ydk(v w:GW):Sp P F.cg [enc v,enc w] (.pure (.bool (!v.inf&&(w.inf||decide (v.cost<w.cost))))):=by refine Sp.vz c.cg fun _=>?_;simp[g.cg,go_sem];rcases ymz v.inf with h1|h1<;>rcases ymz w.inf with h2|h2<;>simp[go_sem,h1,h2]
theorem z93(v w:GW)(hv:v.si 2)(hw:w.si 2):Sp P F.cd [enc v,enc w] (.pure (enc (zap 2 v w))):=by
 refine Sp.vz c.cd fun _=>?_;simp[g.cd,go_sem];refine zab (ydk w v) ?_;rcases ymz v.inf with h1|h1
 ·rcases ymz w.inf with h2|h2
  ·have hvw:v=w:=by have a:=si2.1 hv;have b:=si2.1 hw;exact GW.ext (by rw[a.2.1,b.2.1]) (by rw[a.2.2.2.2.2.2 h1,b.2.2.2.2.2.2 h2]) (by rw[h1,h2]) (by rw[a.2.2.1,b.2.2.1]) (by rw[a.2.2.2.1,b.2.2.2.1]) (by rw[a.1,b.1])
   subst hvw;simp[go_sem,h1,zap]
  ·simp[go_sem,h1,h2,zap]
 ·rcases ymz w.inf with h2|h2
  ·simp[go_sem,h1,h2,zap]
  ·by_cases h3:w.cost<v.cost
   ·simp[go_sem,h1,h2,h3,zap]
   ·simp[go_sem,h1,h2,h3,zap]
theorem z9h(v w:GW)(hv:v.sm 1048576)(hw:w.sm 1048576):Sp P F.ee [enc v,enc w] (.pure (.bool (decide (w.q.v<v.q.v)))):=by refine Sp.vz c.ee fun _=>?_;simp[g.ee,go_sem];refine zaa (znc v.q w.q hv.q hw.q) rfl ?_;simp[go_sem,z2l]
theorem z9g(v w:GW)(hv:v.sm 1048576)(hw:w.sm 1048576)(sv:v.si 3)(sw:w.si 3):Sp P F.ef [enc v,enc w,.ref fraZ] (.pure (enc (zap 3 v w))):=by
 refine Sp.of_vmW c.ef (by simp) (Weak.openRef (t:=2) (v:=fraZ) (n:=9) (by simp[go_sem]) rfl) ?_;simp[g.ef,go_sem,fraZ];refine zab (z9h w v hw hv) ?_;have key:∀ x:GW,x.si 3->x=.mk (rto x.q.v) 0 false 0 [] []:=fun x hx=>by have a:=si3.1 hx;exact GW.ext (zf0 a.2.2.2.2.2.1).symm a.2.2.1 a.2.1 a.2.2.2.1 a.2.2.2.2.1 a.1
 have hg0:gr0.v=0:=by rw[show gr0=rto 0 from zce.symm,zbe]
 by_cases h:v.q.v<w.q.v
 ·have e:zap 3 v w=.mk (rto w.q.v) 0 false 0 [] []:=by simp only[zap,h,ym2];exact key w sw
  rw[e];simp[go_sem,h];have:=znd w.q gr0 hw.q (zg6 _);rw[hg0,yn5]at this;refine zaa this rfl ?_;simp[go_sem]
 ·have e:zap 3 v w=.mk (rto v.q.v) 0 false 0 [] []:=by simp only[zap,h,ym9];exact key v sv
  rw[e];simp[go_sem,h];have:=znd v.q gr0 hv.q (zg6 _);rw[hg0,yn5]at this;refine zaa this rfl ?_;simp[go_sem]
end Go.Ab
namespace Go.Ab
open Go.Proofs
def T.bool:TypeId:=4
def T.int:TypeId:=3
def T.ints:TypeId:=22
def T.limbs:TypeId:=31
def T.u32:TypeId:=146
def T.u64:TypeId:=34
def T.key:TypeId:=99
def T.rat:TypeId:=33
def T.mono:TypeId:=101
def T.poly:TypeId:=35
def T.weight:TypeId:=37
def T.weights:TypeId:=25
def T.ring:TypeId:=24
def T.arc:TypeId:=342
def T.arcs:TypeId:=338
def T.tarc:TypeId:=53
def T.tarcs:TypeId:=26
def T.auto:TypeId:=340
def T.trans:TypeId:=28
def T.model:TypeId:=44
theorem ty.map:P.underlying 218=some (.map 99 33):=by kernel_rfl
theorem ty.key:P.underlying 99=some (.array 3 3):=by kernel_rfl
theorem ty.int:P.underlying 3=some (.int .i64):=by kernel_rfl
theorem ty.bool:P.underlying 4=some .bool:=by kernel_rfl
theorem ty.u32:P.underlying 146=some (.int .u32):=by kernel_rfl
theorem ty.u64:P.underlying 34=some (.int .u64):=by kernel_rfl
theorem ty.cells:P.cellsOf 99=3:=by kernel_rfl
theorem ty.cell:P.cellsOf 3=1:=by kernel_rfl
theorem ty.cu32:P.cellsOf 146=1:=by kernel_rfl
theorem ty.size:0<P.types.size:=of_decide_eq_true (by kernel_rfl)
theorem ty.ints:P.underlying T.ints=some (.slice 3):=by kernel_rfl
theorem ty.limbs:P.underlying T.limbs=some (.slice 146):=by kernel_rfl
theorem ty.poly:P.underlying T.poly=some (.slice T.mono):=by kernel_rfl
theorem ty.cmono:P.cellsOf T.mono=6:=by kernel_rfl
theorem ty.weights:P.underlying T.weights=some (.slice T.weight):=by kernel_rfl
theorem ty.cweight:P.cellsOf T.weight=8:=by kernel_rfl
theorem ty.arcs:P.underlying T.arcs=some (.slice T.arc):=by kernel_rfl
theorem ty.carc:P.cellsOf T.arc=11:=by kernel_rfl
theorem ty.tarcs:P.underlying T.tarcs=some (.slice T.tarc):=by kernel_rfl
theorem ty.ctarc:P.cellsOf T.tarc=12:=by kernel_rfl
theorem ty.rat:shp P T.rat=some ([(T.bool,0,1),(T.limbs,1,1),(T.limbs,2,1)],3):=by kernel_rfl
theorem ty.mono:shp P T.mono=some ([(T.key,0,3),(T.rat,3,3)],6):=by kernel_rfl
theorem ty.weight:shp P T.weight=some ([(T.rat,0,3),(T.int,3,1),(T.bool,4,1),(T.u64,5,1),(T.poly,6,1),(T.weights,7,1)],8):=by kernel_rfl
theorem ty.ring:shp P T.ring=some ([(T.int,0,1),(T.ints,1,1)],2):=by kernel_rfl
theorem ty.arc:shp P T.arc=some ([(T.int,0,1),(T.int,1,1),(T.int,2,1),(T.weight,3,8)],11):=by kernel_rfl
theorem ty.tarc:shp P T.tarc=some ([(T.int,0,1),(T.int,1,1),(T.int,2,1),(T.int,3,1),(T.weight,4,8)],12):=by kernel_rfl
theorem ty.auto:shp P T.auto=some ([(T.ring,0,2),(T.int,2,1),(T.int,3,1),(T.weights,4,1),(T.weights,5,1),(T.arcs,6,1)],7):=by kernel_rfl
theorem ty.trans:shp P T.trans=some ([(T.ring,0,2),(T.int,2,1),(T.int,3,1),(T.int,4,1),(T.weights,5,1),(T.weights,6,1),(T.tarcs,7,1)],8):=by kernel_rfl
theorem ty.model:shp P T.model=some ([(T.int,0,1),(T.ints,1,1),(T.ints,2,1),(T.ints,3,1),(T.bool,4,1)],5):=by kernel_rfl
end Go.Ab
