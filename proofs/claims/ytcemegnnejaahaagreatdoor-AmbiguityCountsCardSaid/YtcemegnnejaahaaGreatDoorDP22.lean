/- Lemmas for the law AmbiguityCounts, part 22. No conditions. -/
import Derived.Test.YtcemegnnejaahaaGreatDoorDP21
set_option maxRecDepth 100000
set_option maxHeartbeats 4000000
set_option linter.all false
namespace Go.Ab
open Enc (enc)
attribute [local simp] zai Opd.slots
theorem zv2(k:Int)(hk:1<=k/\k<=5)(i:Int):Sp P F.ge [zl7 k,.int .i64 i] (.pure (enc (zc5 k))):=by obtain⟨f5,f6,f7,f8,c5,c8,hA⟩:=zfp k hk;rw[hA];refine Sp.vz c.ge fun _=>?_;simp[g.ge];refine zaa (zsh k hk) rfl ?_;simp
theorem zgy(r:GRing):Sp P F.bc [enc r] (.pure (enc r.zero)):=by
 refine Sp.vz c.bc fun _=>?_;simp[g.bc];refine zaa (zf4 r) rfl ?_;rcases yge r.ok with hr0|hr0;rotate_left
 ·simp[hr0,GRing.zero,gw0]
 simp[hr0];refine⟨fun h6=>?_,fun h6=>?_⟩
 ·have hp:=GRing.ok_parts hr0 h6;refine zaa (zzm r hp.2.2 hp.2.1 F.ge [] (r.parts.map zc5) (by simp) fun i h h'=>by simpa using zv2 r.parts[i] (hp.2.2 _ (List.getElem_mem h)) i) rfl ?_;simp[hr0,GRing.zero,h6]
 ·have hk:=GRing.ok_kind hr0 h6;obtain⟨f5,f6,f7,f8,c5,c8,hA⟩:=zfp r.kind ⟨hk.1,hk.2.1⟩;refine zaa (zle r.kind ⟨hk.1,hk.2.1⟩) rfl ?_;simp[hA];refine zaa (zsh r.kind ⟨hk.1,hk.2.1⟩) rfl ?_;simp[hr0,GRing.zero,hk.2.2,zc5]
theorem zly(r:GRing)(w:GW)(hw:w.sm 1048576):Sp P F.dr [enc r,enc w] (.pure (.bool (decide (w.chk r)))):=by
 refine Sp.vz c.dr fun _=>?_;simp[g.dr];refine zaa (zf4 r) rfl ?_;rcases yge r.ok with hr0|hr0;rotate_left
 ·simp[hr0,GW.chk]
 simp[hr0];refine⟨fun h6=>?_,fun h6=>?_⟩;rotate_left
 ·have hk:=GRing.ok_kind hr0 h6;obtain⟨f5,f6,f7,f8,c5,c8,hA⟩:=zfp r.kind ⟨hk.1,hk.2.1⟩;refine zaa (zle r.kind ⟨hk.1,hk.2.1⟩) rfl ?_;simp[hA];refine zaf (zzv r.kind ⟨hk.1,hk.2.1⟩ w hw) ?_;simp[GW.chk,hr0,h6]
 have hp:=GRing.ok_parts hr0 h6;refine⟨fun hl=>?_,fun hl h=>?_⟩;rotate_left
 ·have:=(h.2.2 h6).1;omega
 have hl':w.parts.length=r.parts.length:=by omega
 refine zaf (zdp w hw (.mk gr0 0 false 0 [] w.parts)) ?_;simp;refine⟨fun he=>?_,fun he h=>he (h.2.2 h6).2.1⟩
 refine zaj (S:=fun k:Nat=>mkSt [(3,.ptr 1 0 0 0),(35,.p (.sl (ens r.parts))),(36,.p (.int .i64 r.parts.length)),(37,.p (.int .i64 k))] [(1,⟨8,[.p (enc w)]⟩)]) (I:=fun k=>k<=r.parts.length/\∀ i,(h:i<r.parts.length)->(h':i<w.parts.length)->i<k->w.parts[i].si r.parts[i]) (m:=fun k=>r.parts.length - k) 0
  (Weak.to [3,35,36,37] [((3,0),1)] (by simp)) ⟨by omega,fun i h h' h0=>by omega⟩ ?_
 rintro k ⟨h7,h8⟩ R hn hr hx;have e1:=i64s k;simp[g.ql,mkSt];refine⟨fun hk=>?_,fun hk=>hx _ _ ?_⟩
 ·have hk2:k<w.parts.length:=by omega
  have hpk:=hp.2.2 _ (yfi hk);obtain⟨f5,f6,f7,f8,c5,c8,hA⟩:=zfp r.parts[k] hpk;refine zad hk ?_
  try simp
  refine zaa (zle r.parts[k] hpk) rfl ?_;simp[hA];refine zad hk2 ?_
  try simp
  refine zaf (zzv r.parts[k] hpk w.parts[k] (hw.parts _ (yfi hk2))) ?_;by_cases h9:w.parts[k].si r.parts[k]
  ·simp[h9,e1];refine hn (k+1) _ (Weak.to [3,35,36,37] [((1,0),1)] (by simp)) ⟨by omega,fun i h h' hi=>?_⟩ (by omega);by_cases hik:i<k
   ·exact h8 i h h' hik
   ·have:i=k:=by omega
    subst this;exact h9
  ·simp[h9];refine hr _ ?_;have:¬ w.chk r:=fun h=>h9 ((h.2.2 h6).2.2 k hk hk2);simp[this]
 ·have:w.chk r:=⟨hr0,fun h=>absurd h6 h,fun _=>⟨hl',he,fun i h h'=>h8 i h h' (by omega)⟩⟩;simp[this]
theorem zhx(r:GRing)(w:GW)(hw:w.sm 1048576):Sp P F.jx [enc r,enc w] (.pure (enc (w.tk r))):=by
 refine Sp.vz c.jx fun _=>?_;simp[g.jx];refine zaf (zly r w hw) ?_;by_cases hc:w.chk r
 ·simp[hc,GW.tk]
 ·simp[hc,GW.tk];refine zaf (zgy r) ?_;simp
theorem z1w(x y:UInt64):orI .u64 x.toNat y.toNat=((x ||| y).toNat:Int):=by rw[zrk x.toNat_lt y.toNat_lt,UInt64.toNat_or]
def za3(k:Int)(v w:GW):GW :=
 if k=1 then .mk (rto (v.q.v+w.q.v)) 0 false 0 [] []
 else if k=2 then if v.inf=true\/(w.inf=false/\w.cost<v.cost)then w else v
 else if k=3 then if v.q.v<w.q.v then w else v
 else if k=4 then .mk gr0 0 false (v.set ||| w.set) [] []
 else .mk gr0 0 false 0 (padd v.poly w.poly) []
theorem z1k(v w:GW)(hv:v.sm 1048576)(hw:w.sm 1048576):Sp P F.dv [enc v,enc w] (.pure (enc (za3 1 v w))):=by refine Sp.vz c.dv fun _=>?_;simp[g.dv];refine zaa (zfi v.q w.q hv.q hw.q) rfl ?_;simp[za3]
theorem z04(v w:GW):Sp P F.cg [enc v,enc w] (.pure (enc (za3 4 v w))):=by refine Sp.vz c.cg fun _=>?_;simp[g.cg,za3,z1w]
theorem z6u(v w:GW):Sp P F.b8 [enc v,enc w] (.pure (.bool (!v.inf&&(w.inf||decide (v.cost<w.cost))))):=by refine Sp.vz c.b8 fun _=>?_;simp[g.b8];rcases yge v.inf with h1|h1<;>rcases yge w.inf with h2|h2<;>simp[h1,h2]
theorem z3a(v w:GW)(hv:v.si 2)(hw:w.si 2):Sp P F.b7 [enc v,enc w] (.pure (enc (za3 2 v w))):=by
 refine Sp.vz c.b7 fun _=>?_;simp[g.b7];refine zaf (z6u w v) ?_;rcases yge v.inf with h1|h1
 ·rcases yge w.inf with h2|h2
  ·have hvw:v=w:=by have a:=si2.1 hv;have b:=si2.1 hw;exact GW.ext (by rw[a.2.1,b.2.1]) (by rw[a.2.2.2.2.2.2 h1,b.2.2.2.2.2.2 h2]) (by rw[h1,h2]) (by rw[a.2.2.1,b.2.2.1]) (by rw[a.2.2.2.1,b.2.2.2.1]) (by rw[a.1,b.1])
   subst hvw;simp[h1,za3]
  ·simp[h1,h2,za3]
 ·rcases yge w.inf with h2|h2
  ·simp[h1,h2,za3]
  ·by_cases h3:w.cost<v.cost
   ·simp[h1,h2,h3,za3]
   ·simp[h1,h2,h3,za3]
theorem z2j(v w:GW)(hv:v.sm 1048576)(hw:w.sm 1048576):Sp P F.dz [enc v,enc w] (.pure (.bool (decide (w.q.v<v.q.v)))):=by refine Sp.vz c.dz fun _=>?_;simp[g.dz];refine zaa (zkt v.q w.q hv.q hw.q) rfl ?_;simp[zwt]
theorem z2i(v w:GW)(hv:v.sm 1048576)(hw:w.sm 1048576)(sv:v.si 3)(sw:w.si 3):Sp P F.d0 [enc v,enc w,.ref fraZ] (.pure (enc (za3 3 v w))):=by
 refine Sp.of_vmW c.d0 (by simp) (Weak.openRef (t:=2) (v:=fraZ) (n:=9) (by simp) rfl) ?_;simp[g.d0,fraZ];refine zaf (z2j w v hw hv) ?_;have key:∀ x:GW,x.si 3->x=.mk (rto x.q.v) 0 false 0 [] []:=fun x hx=>by have a:=si3.1 hx;exact GW.ext (znu a.2.2.2.2.2.1).symm a.2.2.1 a.2.1 a.2.2.2.1 a.2.2.2.2.1 a.1
 have hg0:gr0.v=0:=by rw[show gr0=rto 0 from zec.symm,zhi]
 by_cases h:v.q.v<w.q.v
 ·have e:za3 3 v w=.mk (rto w.q.v) 0 false 0 [] []:=by simp only[za3,h,yf2];exact key w sw
  rw[e];simp[h];have:=zfi w.q gr0 hw.q (zgm _);rw[hg0,ygo]at this;refine zaa this rfl ?_;simp
 ·have e:za3 3 v w=.mk (rto v.q.v) 0 false 0 [] []:=by simp only[za3,h,yf9];exact key v sv
  rw[e];simp[h];have:=zfi v.q gr0 hv.q (zgm _);rw[hg0,ygo]at this;refine zaa this rfl ?_;simp
end Go.Ab
namespace Go.Ab
open Go.Proofs
def T.bool:TypeId:=4
def T.int:TypeId:=3
def T.ints:TypeId:=22
def T.plan:TypeId:=24
theorem ty.map:P.underlying 267=some (.map 112 47):=by kernel_rfl
theorem ty.key:P.underlying 112=some (.array 3 3):=by kernel_rfl
theorem ty.int:P.underlying 3=some (.int .i64):=by kernel_rfl
theorem ty.bool:P.underlying 4=some .bool:=by kernel_rfl
theorem ty.cells:P.cellsOf 112=3:=by kernel_rfl
theorem ty.cell:P.cellsOf 3=1:=by kernel_rfl
theorem ty.size:0<P.types.size:=of_decide_eq_true (by kernel_rfl)
theorem ty.ints:P.underlying T.ints=some (.slice 3):=by kernel_rfl
theorem ty.plan:shp P T.plan=some ([(T.int,0,1),(T.int,1,1),(T.bool,2,1),(T.bool,3,1),(T.ints,4,1)],5):=by kernel_rfl
end Go.Ab
