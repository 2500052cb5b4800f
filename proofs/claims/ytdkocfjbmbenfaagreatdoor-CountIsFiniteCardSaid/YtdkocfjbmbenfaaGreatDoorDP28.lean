/-
Proofs for the law CountIsFinite, part 28. Conditions: none.
-/
import Derived.Test.YtdkocfjbmbenfaaGreatDoorDP27
import Derived.Test.YtdkocfjbmbenfaaGreatDoorDP12
import Derived.Test.YtdkocfjbmbenfaaGreatDoorDP22
import Derived.Test.YtdkocfjbmbenfaaGreatDoorDP14
import Derived.KernelRfl
set_option maxRecDepth 100000
set_option maxHeartbeats 4000000
set_option linter.all false
namespace Go.Ab
open Enc (enc)
attribute [local go_sem] zal Opd.slots
theorem zvt (k:Int) (hk:1<=k/\k<=5) (i:Int):Sp P F.fj [zlx k,.int .i64 i] (.pure (enc (zcx k))):=by
 obtain ⟨f5,f6,f7,f8,c5,c8,hA⟩:=zfj k hk
 rw [hA]
 refine Sp.vz c.fj fun _=>?_
 simp [g.fj,go_sem]
 refine zaa (zr8 k hk) rfl ?_
 simp [go_sem]
theorem zgm (r:GRing):Sp P F.a7 [enc r] (.pure (enc r.zero)):=by
 refine Sp.vz c.a7 fun _=>?_
 simp [g.a7,go_sem]
 refine zaa (zft r) rfl ?_
 rcases Bool.eq_false_or_eq_true r.ok with hr0|hr0
 rotate_left
 ·simp [hr0,GRing.zero,gw0,go_sem]
 simp [hr0,go_sem]
 refine ⟨fun h6=>?_,fun h6=>?_⟩
 ·have hp:=GRing.ok_parts hr0 h6
  refine zaa (zzc r hp.2.2 hp.2.1 F.fj [] (r.parts.map zcx) (by simp) fun i h h'=>by simpa using zvt r.parts[i] (hp.2.2 _ (List.getElem_mem h)) i) rfl ?_
  simp [hr0,GRing.zero,h6,go_sem]
 ·have hk:=GRing.ok_kind hr0 h6
  obtain ⟨f5,f6,f7,f8,c5,c8,hA⟩:=zfj r.kind ⟨hk.1,hk.2.1⟩
  refine zaa (zk3 r.kind ⟨hk.1,hk.2.1⟩) rfl ?_
  simp [hA,go_sem]
  refine zaa (zr8 r.kind ⟨hk.1,hk.2.1⟩) rfl ?_
  simp [hr0,GRing.zero,hk.2.2,zcx,go_sem]
theorem zlm (r:GRing) (w:GW) (hw:w.sm 1048576):Sp P F.da [enc r,enc w] (.pure (.bool (decide (w.chk r)))):=by
 refine Sp.vz c.da fun _=>?_
 simp [g.da,go_sem]
 refine zaa (zft r) rfl ?_
 rcases Bool.eq_false_or_eq_true r.ok with hr0|hr0
 rotate_left
 ·simp [hr0,GW.chk,go_sem]
 simp [hr0,go_sem]
 refine ⟨fun h6=>?_,fun h6=>?_⟩
 rotate_left
 ·have hk:=GRing.ok_kind hr0 h6
  obtain ⟨f5,f6,f7,f8,c5,c8,hA⟩:=zfj r.kind ⟨hk.1,hk.2.1⟩
  refine zaa (zk3 r.kind ⟨hk.1,hk.2.1⟩) rfl ?_
  simp [hA,go_sem]
  refine zaf (zzi r.kind ⟨hk.1,hk.2.1⟩ w hw) ?_
  simp [GW.chk,hr0,h6,go_sem]
 have hp:=GRing.ok_parts hr0 h6
 refine ⟨fun hl=>?_,fun hl h=>?_⟩
 rotate_left
 ·have:=(h.2.2 h6).1; omega
 have hl':w.parts.length=r.parts.length:=by omega
 refine zaf (zdf w hw (.mk gr0 0 false 0 [] w.parts)) ?_
 simp [go_sem]
 refine ⟨fun he=>?_,fun he h=>he (h.2.2 h6).2.1⟩
 refine zai (S:=fun k:Nat=>mkSt [(3,.ptr 1 0 0 0),(35,.p (.sl (ens r.parts))),(36,.p (.int .i64 r.parts.length)),(37,.p (.int .i64 k))] [(1,⟨8,[.p (enc w)]⟩)]) (I:=fun k=>k<=r.parts.length/\∀ i,(h:i<r.parts.length)->(h':i<w.parts.length)->i<k->w.parts[i].si r.parts[i]) (m:=fun k=>r.parts.length - k) 0
  (Weak.to [3,35,36,37] [((3,0),1)] (by simp [go_sem])) ⟨by omega,fun i h h' h0=>by omega⟩ ?_
 rintro k ⟨h7,h8⟩ R hn hr hx
 have e1:=i64s k (by omega)
 simp [g.o7,mkSt,go_sem]
 refine ⟨fun hk=>?_,fun hk=>hx _ _ ?_⟩
 ·have hk2:k<w.parts.length:=by omega
  have hpk:=hp.2.2 _ (List.getElem_mem hk)
  obtain ⟨f5,f6,f7,f8,c5,c8,hA⟩:=zfj r.parts[k] hpk
  refine zae hk ?_
  try simp [go_sem]
  refine zaa (zk3 r.parts[k] hpk) rfl ?_
  simp [hA,go_sem]
  refine zae hk2 ?_
  try simp [go_sem]
  refine zaf (zzi r.parts[k] hpk w.parts[k] (hw.parts _ (List.getElem_mem hk2))) ?_
  by_cases h9:w.parts[k].si r.parts[k]
  ·simp [h9,e1,go_sem]
   refine hn (k+1) _ (Weak.to [3,35,36,37] [((1,0),1)] (by simp [go_sem])) ⟨by omega,fun i h h' hi=>?_⟩ (by omega)
   by_cases hik:i<k
   ·exact h8 i h h' hik
   ·have:i=k:=by omega
    subst this; exact h9
  ·simp [h9,go_sem]
   refine hr _ ?_
   have:¬ w.chk r:=fun h=>h9 ((h.2.2 h6).2.2 k hk hk2)
   simp [this,go_sem]
 ·have:w.chk r:=⟨hr0,fun h=>absurd h6 h,fun _=>⟨hl',he,fun i h h'=>h8 i h h' (by omega)⟩⟩
  simp [this,go_sem]
theorem zhj (r:GRing) (w:GW) (hw:w.sm 1048576):Sp P F.jm [enc r,enc w] (.pure (enc (w.tk r))):=by
 refine Sp.vz c.jm fun _=>?_
 simp [g.jm,go_sem]
 refine zaf (zlm r w hw) ?_
 by_cases hc:w.chk r
 ·simp [hc,GW.tk,go_sem]
 ·simp [hc,GW.tk,go_sem]
  refine zaf (zgm r) ?_
  simp [go_sem]
end Go.Ab
namespace Go.Ab
open Enc (enc)
attribute [local go_sem] zal Opd.slots
end Go.Ab
namespace Go.Ab
open Enc (enc)
attribute [local go_sem] zal Opd.slots
end Go.Ab
namespace Go.Ab
open Enc (enc)
attribute [local go_sem] zal Opd.slots
theorem z06 (x y:UInt64):orI .u64 x.toNat y.toNat=((x ||| y).toNat:Int):=by rw [zq9 x.toNat_lt y.toNat_lt,UInt64.toNat_or]
def za4 (k:Int) (v w:GW):GW :=
 if k=1 then .mk (rto (v.q.v+w.q.v)) 0 false 0 [] []
 else if k=2 then if v.inf=true\/(w.inf=false/\w.cost<v.cost) then w else v
 else if k=3 then if v.q.v<w.q.v then w else v
 else if k=4 then .mk gr0 0 false (v.set ||| w.set) [] []
 else .mk gr0 0 false 0 (padd v.poly w.poly) []
end Go.Ab
namespace Go.Ab
open Enc (enc)
attribute [local go_sem] zal Opd.slots
theorem z0v (v w:GW) (hv:v.sm 1048576) (hw:w.sm 1048576):Sp P F.dh [enc v,enc w] (.pure (enc (za4 1 v w))):=by
 refine Sp.vz c.dh fun _=>?_
 simp [g.dh,go_sem]
 refine zaa (zg5 v.q w.q hv.q hw.q) rfl ?_
 simp [za4,go_sem]
theorem z0j (v w:GW):Sp P F.bw [enc v,enc w] (.pure (enc (za4 4 v w))):=by
 refine Sp.vz c.bw fun _=>?_
 simp [g.bw,go_sem,za4,z06]
theorem z4u (v w:GW):Sp P F.bq [enc v,enc w] (.pure (.bool (!v.inf&&(w.inf||decide (v.cost<w.cost))))):=by
 refine Sp.vz c.bq fun _=>?_
 simp [g.bq,go_sem]
 rcases Bool.eq_false_or_eq_true v.inf with h1|h1<;>rcases Bool.eq_false_or_eq_true w.inf with h2|h2<;>simp [go_sem,h1,h2]
theorem z2g (v w:GW) (hv:v.si 2) (hw:w.si 2):Sp P F.bp [enc v,enc w] (.pure (enc (za4 2 v w))):=by
 refine Sp.vz c.bp fun _=>?_
 simp [g.bp,go_sem]
 refine zaf (z4u w v) ?_
 rcases Bool.eq_false_or_eq_true v.inf with h1|h1
 ·rcases Bool.eq_false_or_eq_true w.inf with h2|h2
  ·have hvw:v=w:=by
    have a:=si2.1 hv
    have b:=si2.1 hw
    exact GW.ext (by rw [a.2.1,b.2.1]) (by rw [a.2.2.2.2.2.2 h1,b.2.2.2.2.2.2 h2]) (by rw [h1,h2]) (by rw [a.2.2.1,b.2.2.1]) (by rw [a.2.2.2.1,b.2.2.2.1]) (by rw [a.1,b.1])
   subst hvw
   simp [go_sem,h1,za4]
  ·simp [go_sem,h1,h2,za4]
 ·rcases Bool.eq_false_or_eq_true w.inf with h2|h2
  ·simp [go_sem,h1,h2,za4]
  ·by_cases h3:w.cost<v.cost
   ·simp [go_sem,h1,h2,h3,za4]
   ·simp [go_sem,h1,h2,h3,za4]
theorem z1u (v w:GW) (hv:v.sm 1048576) (hw:w.sm 1048576):Sp P F.dj [enc v,enc w] (.pure (.bool (decide (w.q.v<v.q.v)))):=by
 refine Sp.vz c.dj fun _=>?_
 simp [g.dj,go_sem]
 refine zaa (zfc v.q w.q hv.q hw.q) rfl ?_
 simp [go_sem,zwq]
theorem z1t (v w:GW) (hv:v.sm 1048576) (hw:w.sm 1048576) (sv:v.si 3) (sw:w.si 3):Sp P F.dm [enc v,enc w,.ref fraZ] (.pure (enc (za4 3 v w))):=by
 refine Sp.of_vmW c.dm (by simp) (Weak.openRef (t:=2) (v:=fraZ) (n:=9) (by simp [go_sem]) rfl) ?_
 simp [g.dm,go_sem,fraZ]
 refine zaf (z1u w v hw hv) ?_
 have key:∀ x:GW,x.si 3->x=.mk (rto x.q.v) 0 false 0 [] []:=fun x hx=>by
  have a:=si3.1 hx
  exact GW.ext (znl a.2.2.2.2.2.1).symm a.2.2.1 a.2.1 a.2.2.2.1 a.2.2.2.2.1 a.1
 have hg0:gr0.v=0:=by rw [show gr0=rto 0 from zdv.symm,zg3]
 by_cases h:v.q.v<w.q.v
 ·have e:za4 3 v w=.mk (rto w.q.v) 0 false 0 [] []:=by simp only [za4,h,if_true]; exact key w sw
  rw [e]
  simp [go_sem,h]
  have:=zg5 w.q gr0 hw.q (zga _)
  rw [hg0,Rat.add_zero] at this
  refine zaa this rfl ?_
  simp [go_sem]
 ·have e:za4 3 v w=.mk (rto v.q.v) 0 false 0 [] []:=by simp only [za4,h,if_false]; exact key v sv
  rw [e]
  simp [go_sem,h]
  have:=zg5 v.q gr0 hv.q (zga _)
  rw [hg0,Rat.add_zero] at this
  refine zaa this rfl ?_
  simp [go_sem]
end Go.Ab
namespace Go.Ab
open Go.Proofs
def T.bool:TypeId:=4
def T.int:TypeId:=3
def T.ints:TypeId:=22
def T.plan:TypeId:=24
theorem ty.map:P.underlying 246=some (.map 170 37):=by kernel_rfl
theorem ty.key:P.underlying 170=some (.array 3 3):=by kernel_rfl
theorem ty.int:P.underlying 3=some (.int .i64):=by kernel_rfl
theorem ty.bool:P.underlying 4=some .bool:=by kernel_rfl
theorem ty.cells:P.cellsOf 170=3:=by kernel_rfl
theorem ty.cell:P.cellsOf 3=1:=by kernel_rfl
theorem ty.size:0<P.types.size:=of_decide_eq_true (by kernel_rfl)
theorem ty.ints:P.underlying T.ints=some (.slice 3):=by kernel_rfl
theorem ty.plan:shp P T.plan=some ([(T.int,0,1),(T.int,1,1),(T.bool,2,1),(T.bool,3,1),(T.ints,4,1)],5):=by kernel_rfl
end Go.Ab
