/-
Proofs for the law TransducerHasAForm, part 45. Conditions: none.
-/
import Derived.Test.YtbhboeijjgiflaaGreatDoorAP44
import Derived.Test.YtbhboeijjgiflaaGreatDoorAP38
import Derived.Test.YtbhboeijjgiflaaGreatDoorAP15
import Derived.Test.YtbhboeijjgiflaaGreatDoorAP30
set_option maxRecDepth 100000
set_option maxHeartbeats 4000000
set_option linter.all false
namespace Go.Ab
open Enc (enc)
attribute [local go_sem] zal Opd.slots
theorem zt6 (t:GTrans) (n:Nat) (hn:n<=90) (hn1:3<=n) (h:t.sm n) (hl:t.arcs.length<=19) (li:t.ini.length<=1000000) (lf:t.fin.length<=1000000) :
  Sp P F.jh [enc t] (.pure (.tup [enc (if t.ok then t.nf else zdm),.int .i64 (if t.ok then 0 else 4)])):=by
 refine Sp.vz c.jh fun _=>?_;simp [g.jh,go_sem];refine zab (zhf t (h.mono (by omega)) li lf) ?_;by_cases ok:t.ok
 ·have k:=z2g t n hn hn1 h hl (by
   have:=GRing.ok_parts (r:=t.ring) ok.ring;by_cases h6:t.ring.kind=6
   ·have:=(this h6).2.1;omega
   ·rw [(GRing.ok_kind ok.ring h6).2.2]; simp) (by have:=ok.st2; omega) ok.il ok.fl ok.ini ok.fin (fun x hx=>(ok.arcs x hx).2.2.2.2.2.2.2.2)
  generalize t.nf=u at *
  simp [go_sem,ok];refine zab k ?_;simp [go_sem]
 ·simp [go_sem,ok,zdm]
theorem zy1 (t:GTrans) (h:t.sm 1048576) (li:t.ini.length<=1000000) (lf:t.fin.length<=1000000) (ok:¬ t.ok):Sp P F.bj [enc t] (.pure (.bool false)):=by refine Sp.vz c.bj fun _=>?_;simp [g.bj,go_sem];refine zab (zhf t h li lf) ?_;simp [go_sem,ok]
theorem hasAForm_sp (t u:GTrans):Sp P F.mw [enc t,enc u] (.pure (.bool true)):=by
 refine Sp.vz c.mw fun hok=>?_;simp [g.mw,go_sem];refine zab (zi6 t) ?_;by_cases lt:t.lt;rotate_left
 ·rw [decide_eq_false lt]; simp [go_sem];refine zab zke ?_;simp [go_sem]
 rw [decide_eq_true lt]; simp [go_sem];refine zab (zi6 u) ?_;by_cases lu:u.lt;rotate_left
 ·rw [decide_eq_false lu]; simp [go_sem];refine zab zke ?_;simp [go_sem]
 rw [decide_eq_true lu]; simp [go_sem];have st:=lt.sm;have l1:=lt.al;have l3:=lt.ini.1;have l4:=lt.fin.1;have l5:=lt.ring;have k1:=zhp t 8 (by omega) (by omega) st (by omega) (by omega) (by omega);have k2:=zt6 t 8 (by omega) (by omega) st (by omega) (by omega) (by omega);have k3:=zlu t (st.mono (by omega)) (by omega) (by omega);have k4:=zhf t (st.mono (by omega)) (by omega) (by omega);have f1:(if t.ok then t.nf else zdm).fit:=by
  split
  ·rename_i ok; exact z93 ok (n:=8) (by omega) (by omega) st (by omega)
  ·exact zui
 have k5:=zvn t u (st.mono (by omega)) (by omega) (by omega) (by omega) (by omega);have k6:=zrn t u (st.mono (by omega)) (by omega) (by omega) (by omega);have k7:=zvn t t (st.mono (by omega)) (by omega) (by omega) (by omega) (by omega);have k8:∃ b:Bool,Sp P F.ax [enc t] (.pure (.bool b))/\Sp P F.bj [enc t] (.pure (.bool b)):=by
  by_cases ok:t.ok
  ·exact ⟨_,zsa t 8 (by omega) (by omega) st (by omega) ok,zy0 t 8 (by omega) (by omega) st (by omega) ok⟩
  ·exact ⟨_,z1v t 8 (by omega) (by omega) st (by omega) (by omega) (by omega) ok,zy1 t (st.mono (by omega)) (by omega) (by omega) ok⟩
 obtain ⟨b,k8,k9⟩:=k8;generalize (if t.ok then t.nf else zdm)=v at *
 generalize (if t.ok then (0:Int) else 4)=e at *
 generalize decide t.ok=d at *
 generalize decide (t=u)=d2 at *
 refine zab k1 ?_;simp [go_sem];refine zab k2 ?_;simp [go_sem];refine zab zke ?_;simp [go_sem];refine zab k3 ?_;simp [go_sem];refine zab k4 ?_;simp [go_sem];refine zab (ztl f1) ?_;simp [go_sem];refine zab k5 ?_;simp [go_sem];refine zab k6 ?_;simp [go_sem];refine zab k7 ?_;simp [go_sem];refine zab k8 ?_;simp [go_sem];refine zab k9 ?_;simp [go_sem]
end Go.Ab
namespace Go.Ab
open Enc (enc)
attribute [local go_sem] zal Opd.slots
structure GTrans.lw (t:GTrans):Prop where
 sm:t.sm 8
 li:∀ w∈t.wts,w.li
 i5:t.ini.length<=5
 f5:t.fin.length<=5
 al:t.arcs.length<=12
end Go.Ab
namespace Go.Ab
open Enc (enc)
attribute [local go_sem] zal Opd.slots
end Go.Ab
namespace Go.Ab
open Enc (enc)
attribute [local go_sem] zal Opd.slots
end Go.Ab
namespace Go.Ab
open Enc (enc)
structure GW.pl (n:Nat) (w:GW):Prop where
 o:w.poly.length<=n
 ps:∀ x∈w.parts,x.poly.length<=n
end Go.Ab
namespace Go.Ab
open Enc (enc)
attribute [local go_sem] zal Opd.slots
section
variable (t:GTrans) (r:GRing) (X Y:List Int) (v s:GW) (j:Nat) (R:Exit->St->Option FA->Prop)
end
end Go.Ab
namespace Go.Ab
open Enc (enc)
attribute [local go_sem] zal Opd.slots
section
variable (t:GTrans) (r:GRing) (X Y:List Int) (v s:GW) (j:Nat) (R:Exit->St->Option FA->Prop)
end
end Go.Ab
namespace Go.Ab
open Enc (enc)
attribute [local go_sem] zal Opd.slots
end Go.Ab
set_option linter.all false
namespace Go.Ab
open Enc (enc)
section
variable {H:Type} {en:TypeId × Value->H} {w:World}
theorem rdInt (n:Nat):RdN en P w n T.int (IsC Int):=yc5 ty.int
theorem rdBool (n:Nat):RdN en P w n T.bool (IsC Bool):=z9a ty.bool
theorem rdInts (n:Nat):RdN en P w n T.ints (IsC (List Int)):=zhj (fun _=>rfl) (fun _=>rfl) ty.ints ty.cell fun k _=>rdInt k
theorem z0e (n:Nat):RdN en P w n T.limbs (IsC (List UInt32)):=zhj (fun _=>rfl) (fun _=>rfl) ty.limbs ty.cu32 fun k _=>yc4 ty.u32
theorem yc8 (n:Nat):RdN en P w n T.rat (IsC GRat):=zfl (Ds:=[IsC Bool,IsC (List UInt32),IsC (List UInt32)]) ty.rat rfl (fun m _=>⟨rdBool m,z0e m,z0e m,trivial⟩) fun ls h=>by obtain ⟨_,ls1,rfl,⟨a,rfl⟩,h1⟩:=h.cons;obtain ⟨_,ls2,rfl,⟨b,rfl⟩,h2⟩:=h1.cons;obtain ⟨_,ls3,rfl,⟨c,rfl⟩,h3⟩:=h2.cons;obtain rfl:=h3.nil;exact ⟨⟨a,b,c⟩,by simp [PV.cells,go_sem]⟩
theorem yda (n:Nat):RdN en P w n T.mono (IsC GMono):=zfl (Ds:=[(fun l=>∃ a b c:Int,l=[.int .i64 a,.int .i64 b,.int .i64 c]),IsC GRat]) ty.mono rfl (fun m _=>⟨z0d ty.key ty.int ty.cell ty.cells,yc8 m,trivial⟩) fun ls h=>by obtain ⟨_,ls1,rfl,⟨a,b,c,rfl⟩,h1⟩:=h.cons;obtain ⟨_,ls2,rfl,⟨q,rfl⟩,h2⟩:=h1.cons;obtain rfl:=h2.nil;exact ⟨⟨⟨a,b,c⟩,q⟩,by simp [PV.cells,go_sem]⟩
theorem z2e (x:GMono):(enc x).cells.all PV.one=true:=by simp [go_sem,PV.cells]
theorem z72 (x:GW):(enc x).cells.all PV.one=true:=by simp [go_sem,PV.cells]
theorem z2b (x:GTArc):(enc x).cells.all PV.one=true:=by simp [go_sem,PV.cells]
theorem gtrans_one (x:GTrans):(enc x).cells.all PV.one=true:=by simp [go_sem,PV.cells]
theorem yc9 (n:Nat):RdN en P w n T.poly (IsC (List GMono)):=zhj z2e (fun _=>rfl) ty.poly ty.cmono fun k _=>yda k
theorem zvo (n:Nat):RdN en P w n T.weight (IsC GW):=by
 induction n using Nat.strongRecOn with
 | ind n ih =>
  refine zfl (Ds:=[IsC GRat,IsC Int,IsC Bool,IsC UInt64,IsC (List GMono),IsC (List GW)]) ty.weight rfl (fun m hm=>⟨yc8 m,rdInt m,rdBool m,yc3 ty.u64,yc9 m,zhj z72 (fun x=>by simp [go_sem,PV.cells]) ty.weights ty.cweight fun k hk=>ih k (by omega),trivial⟩) fun ls h=>?_;obtain ⟨_,ls1,rfl,⟨a,rfl⟩,h1⟩:=h.cons;obtain ⟨_,ls2,rfl,⟨b,rfl⟩,h2⟩:=h1.cons;obtain ⟨_,ls3,rfl,⟨c,rfl⟩,h3⟩:=h2.cons;obtain ⟨_,ls4,rfl,⟨d,rfl⟩,h4⟩:=h3.cons;obtain ⟨_,ls5,rfl,⟨e,rfl⟩,h5⟩:=h4.cons;obtain ⟨_,ls6,rfl,⟨f,rfl⟩,h6⟩:=h5.cons;obtain rfl:=h6.nil;exact ⟨.mk a b c d e f,by simp [PV.cells,go_sem]⟩
theorem zrt (n:Nat):RdN en P w n T.weights (IsC (List GW)):=zhj z72 (fun x=>by simp [go_sem,PV.cells]) ty.weights ty.cweight fun k _=>zvo k
theorem yc7 (n:Nat):RdN en P w n T.ring (IsC GRing):=zfl (Ds:=[IsC Int,IsC (List Int)]) ty.ring rfl (fun m _=>⟨rdInt m,rdInts m,trivial⟩) fun ls h=>by obtain ⟨_,ls1,rfl,⟨a,rfl⟩,h1⟩:=h.cons;obtain ⟨_,ls2,rfl,⟨b,rfl⟩,h2⟩:=h1.cons;obtain rfl:=h2.nil;exact ⟨⟨a,b⟩,by simp [PV.cells,go_sem]⟩
theorem yc6 (n:Nat):RdN en P w n T.tarc (IsC GTArc):=zfl (Ds:=[IsC Int,IsC Int,IsC Int,IsC Int,IsC GW]) ty.tarc rfl (fun m _=>⟨rdInt m,rdInt m,rdInt m,rdInt m,zvo m,trivial⟩) fun ls h=>by obtain ⟨_,ls1,rfl,⟨a,rfl⟩,h1⟩:=h.cons;obtain ⟨_,ls2,rfl,⟨b,rfl⟩,h2⟩:=h1.cons;obtain ⟨_,ls3,rfl,⟨c,rfl⟩,h3⟩:=h2.cons;obtain ⟨_,ls4,rfl,⟨e,rfl⟩,h4⟩:=h3.cons;obtain ⟨_,ls5,rfl,⟨d,rfl⟩,h5⟩:=h4.cons;obtain rfl:=h5.nil;exact ⟨⟨a,b,c,e,d⟩,by simp [PV.cells,go_sem]⟩
theorem rdTrans (n:Nat):RdN en P w n T.trans (IsC GTrans):=zfl (Ds:=[IsC GRing,IsC Int,IsC Int,IsC Int,IsC (List GW),IsC (List GW),IsC (List GTArc)]) ty.trans rfl (fun m _=>⟨yc7 m,rdInt m,rdInt m,rdInt m,zrt m,zrt m,zhj z2b (fun _=>rfl) ty.tarcs ty.ctarc fun k _=>yc6 k,trivial⟩) fun ls h=>by obtain ⟨_,ls1,rfl,⟨a,rfl⟩,h1⟩:=h.cons;obtain ⟨_,ls2,rfl,⟨b,rfl⟩,h2⟩:=h1.cons;obtain ⟨_,ls3,rfl,⟨c,rfl⟩,h3⟩:=h2.cons;obtain ⟨_,ls4,rfl,⟨g,rfl⟩,h4⟩:=h3.cons;obtain ⟨_,ls5,rfl,⟨d,rfl⟩,h5⟩:=h4.cons;obtain ⟨_,ls6,rfl,⟨e,rfl⟩,h6⟩:=h5.cons;obtain ⟨_,ls7,rfl,⟨f,rfl⟩,h7⟩:=h6.cons;obtain rfl:=h7.nil;exact ⟨⟨a,b,c,g,d,e,f⟩,by simp [PV.cells,go_sem]⟩
end
end Go.Ab
