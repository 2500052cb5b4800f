/-
Proofs for the law TransducerWeighsMadeModels, part 30. Conditions: none.
-/
import Derived.Test.YtbhboeijjgiflaaGreatDoorCP29
import Derived.Test.YtbhboeijjgiflaaGreatDoorCP12
import Derived.Test.YtbhboeijjgiflaaGreatDoorCP23
import Derived.Test.YtbhboeijjgiflaaGreatDoorCP15
import Derived.KernelRfl
set_option maxRecDepth 100000
set_option maxHeartbeats 4000000
set_option linter.all false
namespace Go.Ab
open Enc (enc)
attribute [local go_sem] zal Opd.slots
theorem zx2(x y:UInt64):orI .u64 x.toNat y.toNat=((x ||| y).toNat:Int):=by rw[zvz x.toNat_lt y.toNat_lt,UInt64.toNat_or]
def zaq(k:Int)(v w:GW):GW :=
 if k=1 then .mk (rto (v.q.v+w.q.v)) 0 false 0 [] []
 else if k=2 then if v.inf=true\/(w.inf=false/\w.cost<v.cost)then w else v
 else if k=3 then if v.q.v<w.q.v then w else v
 else if k=4 then .mk gr0 0 false (v.set ||| w.set) [] []
 else .mk gr0 0 false 0 (padd v.poly w.poly) []
theorem z3f(v w:GW)(hv:v.sm 1048576)(hw:w.sm 1048576)(cv:v.chk ⟨1,[]⟩)(cw:w.chk ⟨1,[]⟩):Sp P F.aa [enc (⟨1,[]⟩:GRing),enc v,enc w] (.pure (enc (zaq 1 v w))):=by have hr0:(⟨1,[]⟩:GRing).ok=true:=zem (by omega);have t1:v.tk ⟨1,[]⟩=v:=yl0 cv;have t2:w.tk ⟨1,[]⟩=w:=yl0 cw;have k1:=zay ⟨1,[]⟩ v hv;have k2:=zay ⟨1,[]⟩ w hw;rw[t1]at k1;rw[t2]at k2;refine Sp.vz c.aa fun _=>?_;simp[g.aa,go_sem];refine zaa (zax ⟨1,[]⟩) rfl ?_;simp[hr0,go_sem];refine zab k1 ?_;simp[go_sem];refine zab k2 ?_;simp[go_sem];refine zaa (zwz v.q w.q hv.q hw.q) rfl ?_;simp[zaq,go_sem]
theorem z3e(v w:GW)(hv:v.sm 1048576)(hw:w.sm 1048576)(cv:v.chk ⟨2,[]⟩)(cw:w.chk ⟨2,[]⟩):Sp P F.aa [enc (⟨2,[]⟩:GRing),enc v,enc w] (.pure (enc (zaq 2 v w))):=by
 have hr0:(⟨2,[]⟩:GRing).ok=true:=zem (by omega);have t1:v.tk ⟨2,[]⟩=v:=yl0 cv;have t2:w.tk ⟨2,[]⟩=w:=yl0 cw;have k1:=zay ⟨2,[]⟩ v hv;have k2:=zay ⟨2,[]⟩ w hw;rw[t1]at k1;rw[t2]at k2;refine Sp.vz c.aa fun _=>?_;simp[g.aa,go_sem];refine zaa (zax ⟨2,[]⟩) rfl ?_;simp[hr0,go_sem];refine zab k1 ?_;simp[go_sem];refine zab k2 ?_;simp[go_sem];rcases ym0 v.inf with h1|h1
 ·simp[zaq,h1,go_sem]
 rcases ym0 w.inf with h2|h2
 ·simp[zaq,h1,h2,go_sem]
 simp[zaq,h1,h2,go_sem];refine⟨fun h3=>by simp[h3,h2,go_sem],fun h3=>by simp[show ¬ w.cost<v.cost by omega,h1,go_sem]⟩
theorem z3d(v w:GW)(hv:v.sm 1048576)(hw:w.sm 1048576)(cv:v.chk ⟨3,[]⟩)(cw:w.chk ⟨3,[]⟩):Sp P F.aa [enc (⟨3,[]⟩:GRing),enc v,enc w] (.pure (enc (zaq 3 v w))):=by
 have hr0:(⟨3,[]⟩:GRing).ok=true:=zem (by omega);have t1:v.tk ⟨3,[]⟩=v:=yl0 cv;have t2:w.tk ⟨3,[]⟩=w:=yl0 cw;have k1:=zay ⟨3,[]⟩ v hv;have k2:=zay ⟨3,[]⟩ w hw;rw[t1]at k1;rw[t2]at k2;refine Sp.vz c.aa fun _=>?_;simp[g.aa,go_sem];refine zaa (zax ⟨3,[]⟩) rfl ?_;simp[hr0,go_sem];refine zab k1 ?_;simp[go_sem];refine zab k2 ?_;simp[go_sem];refine zaa (zyk v.q w.q hv.q hw.q) rfl ?_;by_cases h1:v.q.v<w.q.v
 ·simp[zaq,h1,go_sem]
 ·simp[zaq,h1,go_sem]
theorem z3c(v w:GW)(hv:v.sm 1048576)(hw:w.sm 1048576)(cv:v.chk ⟨4,[]⟩)(cw:w.chk ⟨4,[]⟩):Sp P F.aa [enc (⟨4,[]⟩:GRing),enc v,enc w] (.pure (enc (zaq 4 v w))):=by have hr0:(⟨4,[]⟩:GRing).ok=true:=zem (by omega);have t1:v.tk ⟨4,[]⟩=v:=yl0 cv;have t2:w.tk ⟨4,[]⟩=w:=yl0 cw;have k1:=zay ⟨4,[]⟩ v hv;have k2:=zay ⟨4,[]⟩ w hw;rw[t1]at k1;rw[t2]at k2;refine Sp.vz c.aa fun _=>?_;simp[g.aa,go_sem];refine zaa (zax ⟨4,[]⟩) rfl ?_;simp[hr0,go_sem];refine zab k1 ?_;simp[go_sem];refine zab k2 ?_;simp[go_sem];simp[zaq,zx2,go_sem]
theorem z3b(v w:GW)(hv:v.sm 1048576)(hw:w.sm 1048576)(cv:v.chk ⟨5,[]⟩)(cw:w.chk ⟨5,[]⟩)(D B B':Nat)(h1:pqb D B v.poly)(h2:pqb D B' w.poly)(hD0:D≠0)(hD:D<4294967296^1048576)(hB:B+B'<4294967296^1048576):Sp P F.aa [enc (⟨5,[]⟩:GRing),enc v,enc w] (.pure (enc (zaq 5 v w))):=by have k3:=z6m v.poly w.poly D B B' (zo2 cv) (zo2 cw) h1 h2 hD0 hD hB;clear hD hB;have hr0:(⟨5,[]⟩:GRing).ok=true:=zem (by omega);have t1:v.tk ⟨5,[]⟩=v:=yl0 cv;have t2:w.tk ⟨5,[]⟩=w:=yl0 cw;have k1:=zay ⟨5,[]⟩ v hv;have k2:=zay ⟨5,[]⟩ w hw;rw[t1]at k1;rw[t2]at k2;refine Sp.vz c.aa fun _=>?_;simp[g.aa,go_sem];refine zaa (zax ⟨5,[]⟩) rfl ?_;simp[hr0,go_sem];refine zab k1 ?_;simp[go_sem];refine zab k2 ?_;simp[go_sem];refine zaa k3 rfl ?_;simp[zaq,go_sem]
theorem z73(v w:GW)(hv:v.sm 1048576)(hw:w.sm 1048576):Sp P F.eq [enc v,enc w] (.pure (enc (zaq 1 v w))):=by refine Sp.vz c.eq fun _=>?_;simp[g.eq,go_sem];refine zaa (zm4 v.q w.q hv.q hw.q) rfl ?_;simp[zaq,go_sem]
theorem z7n(v w:GW):Sp P F.dg [enc v,enc w] (.pure (enc (zaq 4 v w))):=by refine Sp.vz c.dg fun _=>?_;simp[g.dg,go_sem,zaq,zx2]
theorem ycv(v w:GW):Sp P F.cr [enc v,enc w] (.pure (.bool (!v.inf&&(w.inf||decide (v.cost<w.cost))))):=by refine Sp.vz c.cr fun _=>?_;simp[g.cr,go_sem];rcases ym0 v.inf with h1|h1<;>rcases ym0 w.inf with h2|h2<;>simp[go_sem,h1,h2]
theorem z9y(v w:GW)(hv:v.si 2)(hw:w.si 2):Sp P F.cq [enc v,enc w] (.pure (enc (zaq 2 v w))):=by
 refine Sp.vz c.cq fun _=>?_;simp[g.cq,go_sem];refine zab (ycv w v) ?_;rcases ym0 v.inf with h1|h1
 ·rcases ym0 w.inf with h2|h2
  ·have hvw:v=w:=by have a:=si2.1 hv;have b:=si2.1 hw;exact GW.ext (by rw[a.2.1,b.2.1]) (by rw[a.2.2.2.2.2.2 h1,b.2.2.2.2.2.2 h2]) (by rw[h1,h2]) (by rw[a.2.2.1,b.2.2.1]) (by rw[a.2.2.2.1,b.2.2.2.1]) (by rw[a.1,b.1])
   subst hvw;simp[go_sem,h1,zaq]
  ·simp[go_sem,h1,h2,zaq]
 ·rcases ym0 w.inf with h2|h2
  ·simp[go_sem,h1,h2,zaq]
  ·by_cases h3:w.cost<v.cost
   ·simp[go_sem,h1,h2,h3,zaq]
   ·simp[go_sem,h1,h2,h3,zaq]
theorem z9d(v w:GW)(hv:v.sm 1048576)(hw:w.sm 1048576):Sp P F.fb [enc v,enc w] (.pure (.bool (decide (w.q.v<v.q.v)))):=by refine Sp.vz c.fb fun _=>?_;simp[g.fb,go_sem];refine zaa (zm3 v.q w.q hv.q hw.q) rfl ?_;simp[go_sem,z2c]
theorem z9c(v w:GW)(hv:v.sm 1048576)(hw:w.sm 1048576)(sv:v.si 3)(sw:w.si 3):Sp P F.fc [enc v,enc w,.ref fraZ] (.pure (enc (zaq 3 v w))):=by
 refine Sp.of_vmW c.fc (by simp) (Weak.openRef (t:=2) (v:=fraZ) (n:=9) (by simp[go_sem]) rfl) ?_;simp[g.fc,go_sem,fraZ];refine zab (z9d w v hw hv) ?_;have key:∀ x:GW,x.si 3->x=.mk (rto x.q.v) 0 false 0 [] []:=fun x hx=>by have a:=si3.1 hx;exact GW.ext (zg7 a.2.2.2.2.2.1).symm a.2.2.1 a.2.1 a.2.2.2.1 a.2.2.2.2.1 a.1
 have hg0:gr0.v=0:=by rw[show gr0=rto 0 from zca.symm,zbf]
 by_cases h:v.q.v<w.q.v
 ·have e:zaq 3 v w=.mk (rto w.q.v) 0 false 0 [] []:=by simp only[zaq,h,yl2];exact key w sw
  rw[e];simp[go_sem,h];have:=zm4 w.q gr0 hw.q (zg6 _);rw[hg0,ym6]at this;refine zaa this rfl ?_;simp[go_sem]
 ·have e:zaq 3 v w=.mk (rto v.q.v) 0 false 0 [] []:=by simp only[zaq,h,yl9];exact key v sv
  rw[e];simp[go_sem,h];have:=zm4 v.q gr0 hv.q (zg6 _);rw[hg0,ym6]at this;refine zaa this rfl ?_;simp[go_sem]
end Go.Ab
namespace Go.Ab
open Go.Proofs
def T.bool:TypeId:=4
def T.int:TypeId:=3
def T.ints:TypeId:=22
def T.limbs:TypeId:=31
def T.u32:TypeId:=146
def T.u64:TypeId:=34
def T.key:TypeId:=99
def T.rat:TypeId:=33
def T.mono:TypeId:=101
def T.poly:TypeId:=35
def T.weight:TypeId:=37
def T.weights:TypeId:=25
def T.ring:TypeId:=24
def T.arc:TypeId:=342
def T.arcs:TypeId:=338
def T.tarc:TypeId:=53
def T.tarcs:TypeId:=26
def T.auto:TypeId:=340
def T.trans:TypeId:=28
def T.model:TypeId:=44
theorem ty.map:P.underlying 218=some (.map 99 33):=by kernel_rfl
theorem ty.key:P.underlying 99=some (.array 3 3):=by kernel_rfl
theorem ty.int:P.underlying 3=some (.int .i64):=by kernel_rfl
theorem ty.bool:P.underlying 4=some .bool:=by kernel_rfl
theorem ty.u32:P.underlying 146=some (.int .u32):=by kernel_rfl
theorem ty.u64:P.underlying 34=some (.int .u64):=by kernel_rfl
theorem ty.cells:P.cellsOf 99=3:=by kernel_rfl
theorem ty.cell:P.cellsOf 3=1:=by kernel_rfl
theorem ty.cu32:P.cellsOf 146=1:=by kernel_rfl
theorem ty.size:0<P.types.size:=of_decide_eq_true (by kernel_rfl)
theorem ty.ints:P.underlying T.ints=some (.slice 3):=by kernel_rfl
theorem ty.limbs:P.underlying T.limbs=some (.slice 146):=by kernel_rfl
theorem ty.poly:P.underlying T.poly=some (.slice T.mono):=by kernel_rfl
theorem ty.cmono:P.cellsOf T.mono=6:=by kernel_rfl
theorem ty.weights:P.underlying T.weights=some (.slice T.weight):=by kernel_rfl
theorem ty.cweight:P.cellsOf T.weight=8:=by kernel_rfl
theorem ty.arcs:P.underlying T.arcs=some (.slice T.arc):=by kernel_rfl
theorem ty.carc:P.cellsOf T.arc=11:=by kernel_rfl
theorem ty.tarcs:P.underlying T.tarcs=some (.slice T.tarc):=by kernel_rfl
theorem ty.ctarc:P.cellsOf T.tarc=12:=by kernel_rfl
theorem ty.rat:shp P T.rat=some ([(T.bool,0,1),(T.limbs,1,1),(T.limbs,2,1)],3):=by kernel_rfl
theorem ty.mono:shp P T.mono=some ([(T.key,0,3),(T.rat,3,3)],6):=by kernel_rfl
theorem ty.weight:shp P T.weight=some ([(T.rat,0,3),(T.int,3,1),(T.bool,4,1),(T.u64,5,1),(T.poly,6,1),(T.weights,7,1)],8):=by kernel_rfl
theorem ty.ring:shp P T.ring=some ([(T.int,0,1),(T.ints,1,1)],2):=by kernel_rfl
theorem ty.arc:shp P T.arc=some ([(T.int,0,1),(T.int,1,1),(T.int,2,1),(T.weight,3,8)],11):=by kernel_rfl
theorem ty.tarc:shp P T.tarc=some ([(T.int,0,1),(T.int,1,1),(T.int,2,1),(T.int,3,1),(T.weight,4,8)],12):=by kernel_rfl
theorem ty.auto:shp P T.auto=some ([(T.ring,0,2),(T.int,2,1),(T.int,3,1),(T.weights,4,1),(T.weights,5,1),(T.arcs,6,1)],7):=by kernel_rfl
theorem ty.trans:shp P T.trans=some ([(T.ring,0,2),(T.int,2,1),(T.int,3,1),(T.int,4,1),(T.weights,5,1),(T.weights,6,1),(T.tarcs,7,1)],8):=by kernel_rfl
theorem ty.model:shp P T.model=some ([(T.int,0,1),(T.ints,1,1),(T.ints,2,1),(T.ints,3,1),(T.bool,4,1)],5):=by kernel_rfl
end Go.Ab
