/-
Proofs for the law ProjectSides of the seat, part 39 (texts G2). Conditions: none.
-/
import Derived.Test.YtalcegbealdigaaGreatDoorP14
import Derived.Test.YtalcegbealdigaaGreatDoorP38
import Derived.Test.YtalcegbealdigaaGreatDoorP30
set_option maxRecDepth 100000
set_option maxHeartbeats 4000000
set_option linter.all false
namespace Go.Ab
open Enc (enc)
section
variable {H : Type} {en : TypeId × Value -> H} {w : World}
theorem rdInt (n : Nat) : RdN en P w n T.int (IsC Int) := rd_int ty.int
theorem rdBool (n : Nat) : RdN en P w n T.bool (IsC Bool) := rd_bool ty.bool
theorem rdInts (n : Nat) : RdN en P w n T.ints (IsC (List Int)) := rd_slice (fun _ => rfl) (fun _ => rfl) ty.ints ty.cell fun k _ => rdInt k
theorem rdLimbs (n : Nat) : RdN en P w n T.limbs (IsC (List UInt32)) := rd_slice (fun _ => rfl) (fun _ => rfl) ty.limbs ty.cu32 fun k _ => rd_u32 ty.u32
theorem rdRat (n : Nat) : RdN en P w n T.rat (IsC GRat) := rd_struct (Ds := [IsC Bool, IsC (List UInt32), IsC (List UInt32)]) ty.rat rfl (fun m _ => ⟨rdBool m, rdLimbs m, rdLimbs m, trivial⟩) fun ls h => by
 obtain ⟨_, ls1, rfl, ⟨a, rfl⟩, h1⟩ := h.cons
 obtain ⟨_, ls2, rfl, ⟨b, rfl⟩, h2⟩ := h1.cons
 obtain ⟨_, ls3, rfl, ⟨c, rfl⟩, h3⟩ := h2.cons
 obtain rfl := h3.nil
 exact ⟨⟨a, b, c⟩, by simp [PV.cells, go_sem]⟩
theorem rdMono (n : Nat) : RdN en P w n T.mono (IsC GMono) := rd_struct (Ds := [(fun l => ∃ a b c : Int, l = [.int .i64 a, .int .i64 b, .int .i64 c]), IsC GRat]) ty.mono rfl (fun m _ => ⟨rd_array3 ty.key ty.int ty.cell ty.cells, rdRat m, trivial⟩) fun ls h => by
 obtain ⟨_, ls1, rfl, ⟨a, b, c, rfl⟩, h1⟩ := h.cons
 obtain ⟨_, ls2, rfl, ⟨q, rfl⟩, h2⟩ := h1.cons
 obtain rfl := h2.nil
 exact ⟨⟨⟨a, b, c⟩, q⟩, by simp [PV.cells, go_sem]⟩
theorem gmono_one (x : GMono) : (enc x).cells.all PV.one = true := by simp [go_sem, PV.cells]
theorem gw_one (x : GW) : (enc x).cells.all PV.one = true := by simp [go_sem, PV.cells]
theorem garc_one (x : GArc) : (enc x).cells.all PV.one = true := by simp [go_sem, PV.cells]
theorem gtarc_one (x : GTArc) : (enc x).cells.all PV.one = true := by simp [go_sem, PV.cells]
theorem gauto_one (x : GAuto) : (enc x).cells.all PV.one = true := by simp [go_sem, PV.cells]
theorem gtrans_one (x : GTrans) : (enc x).cells.all PV.one = true := by simp [go_sem, PV.cells]
theorem rdPoly (n : Nat) : RdN en P w n T.poly (IsC (List GMono)) := rd_slice gmono_one (fun _ => rfl) ty.poly ty.cmono fun k _ => rdMono k
theorem rdWeight (n : Nat) : RdN en P w n T.weight (IsC GW) := by
 induction n using Nat.strongRecOn with
 | ind n ih =>
  refine rd_struct (Ds := [IsC GRat, IsC Int, IsC Bool, IsC UInt64, IsC (List GMono), IsC (List GW)]) ty.weight rfl (fun m hm => ⟨rdRat m, rdInt m, rdBool m, rd_u64 ty.u64, rdPoly m, rd_slice gw_one (fun x => by simp [go_sem, PV.cells]) ty.weights ty.cweight fun k hk => ih k (by omega), trivial⟩) fun ls h => ?_
  obtain ⟨_, ls1, rfl, ⟨a, rfl⟩, h1⟩ := h.cons
  obtain ⟨_, ls2, rfl, ⟨b, rfl⟩, h2⟩ := h1.cons
  obtain ⟨_, ls3, rfl, ⟨c, rfl⟩, h3⟩ := h2.cons
  obtain ⟨_, ls4, rfl, ⟨d, rfl⟩, h4⟩ := h3.cons
  obtain ⟨_, ls5, rfl, ⟨e, rfl⟩, h5⟩ := h4.cons
  obtain ⟨_, ls6, rfl, ⟨f, rfl⟩, h6⟩ := h5.cons
  obtain rfl := h6.nil
  exact ⟨.mk a b c d e f, by simp [PV.cells, go_sem]⟩
theorem rdWeights (n : Nat) : RdN en P w n T.weights (IsC (List GW)) := rd_slice gw_one (fun x => by simp [go_sem, PV.cells]) ty.weights ty.cweight fun k _ => rdWeight k
theorem rdRing (n : Nat) : RdN en P w n T.ring (IsC GRing) := rd_struct (Ds := [IsC Int, IsC (List Int)]) ty.ring rfl (fun m _ => ⟨rdInt m, rdInts m, trivial⟩) fun ls h => by
 obtain ⟨_, ls1, rfl, ⟨a, rfl⟩, h1⟩ := h.cons
 obtain ⟨_, ls2, rfl, ⟨b, rfl⟩, h2⟩ := h1.cons
 obtain rfl := h2.nil
 exact ⟨⟨a, b⟩, by simp [PV.cells, go_sem]⟩
theorem rdArc (n : Nat) : RdN en P w n T.arc (IsC GArc) := rd_struct (Ds := [IsC Int, IsC Int, IsC Int, IsC GW]) ty.arc rfl (fun m _ => ⟨rdInt m, rdInt m, rdInt m, rdWeight m, trivial⟩) fun ls h => by
 obtain ⟨_, ls1, rfl, ⟨a, rfl⟩, h1⟩ := h.cons
 obtain ⟨_, ls2, rfl, ⟨b, rfl⟩, h2⟩ := h1.cons
 obtain ⟨_, ls3, rfl, ⟨c, rfl⟩, h3⟩ := h2.cons
 obtain ⟨_, ls4, rfl, ⟨d, rfl⟩, h4⟩ := h3.cons
 obtain rfl := h4.nil
 exact ⟨⟨a, b, c, d⟩, by simp [PV.cells, go_sem]⟩
theorem rdTArc (n : Nat) : RdN en P w n T.tarc (IsC GTArc) := rd_struct (Ds := [IsC Int, IsC Int, IsC Int, IsC Int, IsC GW]) ty.tarc rfl (fun m _ => ⟨rdInt m, rdInt m, rdInt m, rdInt m, rdWeight m, trivial⟩) fun ls h => by
 obtain ⟨_, ls1, rfl, ⟨a, rfl⟩, h1⟩ := h.cons
 obtain ⟨_, ls2, rfl, ⟨b, rfl⟩, h2⟩ := h1.cons
 obtain ⟨_, ls3, rfl, ⟨c, rfl⟩, h3⟩ := h2.cons
 obtain ⟨_, ls4, rfl, ⟨e, rfl⟩, h4⟩ := h3.cons
 obtain ⟨_, ls5, rfl, ⟨d, rfl⟩, h5⟩ := h4.cons
 obtain rfl := h5.nil
 exact ⟨⟨a, b, c, e, d⟩, by simp [PV.cells, go_sem]⟩
theorem rdAuto (n : Nat) : RdN en P w n T.auto (IsC GAuto) := rd_struct (Ds := [IsC GRing, IsC Int, IsC Int, IsC (List GW), IsC (List GW), IsC (List GArc)]) ty.auto rfl (fun m _ => ⟨rdRing m, rdInt m, rdInt m, rdWeights m, rdWeights m, rd_slice garc_one (fun _ => rfl) ty.arcs ty.carc fun k _ => rdArc k, trivial⟩) fun ls h => by
 obtain ⟨_, ls1, rfl, ⟨a, rfl⟩, h1⟩ := h.cons
 obtain ⟨_, ls2, rfl, ⟨b, rfl⟩, h2⟩ := h1.cons
 obtain ⟨_, ls3, rfl, ⟨c, rfl⟩, h3⟩ := h2.cons
 obtain ⟨_, ls4, rfl, ⟨d, rfl⟩, h4⟩ := h3.cons
 obtain ⟨_, ls5, rfl, ⟨e, rfl⟩, h5⟩ := h4.cons
 obtain ⟨_, ls6, rfl, ⟨f, rfl⟩, h6⟩ := h5.cons
 obtain rfl := h6.nil
 exact ⟨⟨a, b, c, d, e, f⟩, by simp [PV.cells, go_sem]⟩
theorem rdTrans (n : Nat) : RdN en P w n T.trans (IsC GTrans) := rd_struct (Ds := [IsC GRing, IsC Int, IsC Int, IsC Int, IsC (List GW), IsC (List GW), IsC (List GTArc)]) ty.trans rfl (fun m _ => ⟨rdRing m, rdInt m, rdInt m, rdInt m, rdWeights m, rdWeights m, rd_slice gtarc_one (fun _ => rfl) ty.tarcs ty.ctarc fun k _ => rdTArc k, trivial⟩) fun ls h => by
 obtain ⟨_, ls1, rfl, ⟨a, rfl⟩, h1⟩ := h.cons
 obtain ⟨_, ls2, rfl, ⟨b, rfl⟩, h2⟩ := h1.cons
 obtain ⟨_, ls3, rfl, ⟨c, rfl⟩, h3⟩ := h2.cons
 obtain ⟨_, ls4, rfl, ⟨g, rfl⟩, h4⟩ := h3.cons
 obtain ⟨_, ls5, rfl, ⟨d, rfl⟩, h5⟩ := h4.cons
 obtain ⟨_, ls6, rfl, ⟨e, rfl⟩, h6⟩ := h5.cons
 obtain ⟨_, ls7, rfl, ⟨f, rfl⟩, h7⟩ := h6.cons
 obtain rfl := h7.nil
 exact ⟨⟨a, b, c, g, d, e, f⟩, by simp [PV.cells, go_sem]⟩
end
end Go.Ab
