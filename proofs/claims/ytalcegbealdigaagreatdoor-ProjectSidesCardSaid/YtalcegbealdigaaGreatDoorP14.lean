/-
Proofs for the law ProjectSides of the seat, part 14 (texts G1 DevS). Conditions: none.
-/
import Derived.Test.YtalcegbealdigaaGreatDoorP11
import Derived.Test.YtalcegbealdigaaGreatDoorP13
import Derived.ChangeBook
import Derived.ChangeStays
import Derived.ChangeSame
import Derived.ChangeArms
import Derived.OpenShut
import Derived.Test.YtalcegbealdigaaGreatDoorP09
set_option maxRecDepth 100000
set_option maxHeartbeats 4000000
set_option linter.all false
namespace Go.Ab
open Enc (enc)
section
variable {H : Type} {en : TypeId × Value -> H} {P : Program} {w : World} {n : Nat} {t e : TypeId} {D D' : List PV -> Prop} {α : Type} [Enc α]
def RdN (en : TypeId × Value -> H) (P : Program) (w : World) (n : Nat) (t : TypeId) (D : List PV -> Prop) : Prop :=
 ∀ m, m ≤ n -> ∀ cs x, DataW.trod en P w 0 (fun _ => true) true m t cs = some x -> ∃ l, D l ∧ PReps (fun b => w.heap[b]?) l cs
def IsC (α : Type) [Enc α] (l : List PV) : Prop := ∃ x : α, l = (enc x).cells
theorem rd_bool (ht : P.underlying t = some .bool) : RdN en P w n t (IsC Bool) := fun m _ cs x h => by
 obtain ⟨b, rfl, _⟩ := DataW.trod_bool ht h
 exact ⟨_, ⟨b, rfl⟩, .cons _ _ _ _ (.bool b) .nil⟩
theorem rd_int (ht : P.underlying t = some (.int .i64)) : RdN en P w n t (IsC Int) := fun m _ cs x h => by
 obtain ⟨b, rfl, _⟩ := DataW.trod_int ht h
 exact ⟨_, ⟨b, rfl⟩, .cons _ _ _ _ (.int .i64 b) .nil⟩
theorem rd_u32 (ht : P.underlying t = some (.int .u32)) : RdN en P w n t (IsC UInt32) := fun m _ cs x h => by
 obtain ⟨b, rfl, _, hw⟩ := DataW.trod_int ht h
 have h1 : 0 ≤ b ∧ b ≤ 4294967295 := by simpa [Lit.wf, IntKind.min, IntKind.max, IntKind.signed, IntKind.bits] using hw
 obtain ⟨k, rfl⟩ := Int.eq_ofNat_of_zero_le h1.1
 refine ⟨_, ⟨UInt32.ofNat k, rfl⟩, .cons _ _ _ _ ?_ .nil⟩
 have : ((UInt32.ofNat k).toNat : Int) = (k : Int) := by
  have : k < 4294967296 := by omega
  simp [UInt32.toNat_ofNat, Nat.mod_eq_of_lt this]
 rw [enc_u32, this]
 exact .int .u32 _
theorem rd_u64 (ht : P.underlying t = some (.int .u64)) : RdN en P w n t (IsC UInt64) := fun m _ cs x h => by
 obtain ⟨b, rfl, _, hw⟩ := DataW.trod_int ht h
 have h1 : 0 ≤ b ∧ b ≤ 18446744073709551615 := by simpa [Lit.wf, IntKind.min, IntKind.max, IntKind.signed, IntKind.bits] using hw
 obtain ⟨k, rfl⟩ := Int.eq_ofNat_of_zero_le h1.1
 refine ⟨_, ⟨UInt64.ofNat k, rfl⟩, .cons _ _ _ _ ?_ .nil⟩
 have : ((UInt64.ofNat k).toNat : Int) = (k : Int) := by
  have : k < 18446744073709551616 := by omega
  simp [UInt64.toNat_ofNat, Nat.mod_eq_of_lt this]
 rw [enc_u64, this]
 exact .int .u64 _
theorem rd_slice (hone : ∀ x : α, (enc x).cells.all PV.one = true) (hlen : ∀ x : α, (enc x).cells.length = Enc.sz α) (ht : P.underlying t = some (.slice e)) (hc : P.cellsOf e = Enc.sz α)
  (he : ∀ k, k < n -> RdN en P w k e (IsC α)) : RdN en P w n t (IsC (List α)) := by
 intro m hm cs x h
 rcases DataW.trod_slice ht h with ⟨rfl, _⟩ | ⟨a, len, cap, elems, rest, k, rfl, rfl, _, _, h1, h2, h3, h4, _, _⟩
 ·exact ⟨_, ⟨[], rfl⟩, .cons _ _ _ _ (.sl0 none 0) .nil⟩
 have hel : ∀ i, i < len -> ∃ (y : α) (c : List Value), w.cells? 0 (a.add (i * Enc.sz α)) (Enc.sz α) = some c ∧ PReps (fun b => w.heap[b]?) (enc y).cells c := by
  intro i hi
  have h5 := h4 i hi
  rw [List.getElem?_eq_getElem (by omega), Option.bind_eq_some_iff] at h5
  obtain ⟨c, hc1, hc2⟩ := h5
  obtain ⟨l, ⟨y, rfl⟩, hr⟩ := he k (by omega) k (Nat.le_refl k) c _ hc2
  exact ⟨y, c, by rw [<- hc]; exact hc1, hr⟩
 rcases Nat.eq_zero_or_pos len with rfl | hpos
 ·exact ⟨_, ⟨[], rfl⟩, .cons _ _ _ _ (.sl0 (some a) cap) .nil⟩
 have hz := Enc.pos (α := α)
 obtain ⟨cur, T, fr, hb, hs⟩ : ∃ cur T fr, w.heap[a.block]? = some (.cells cur T fr) ∧ a.spot = none := by
  obtain ⟨y0, c0, e0, _⟩ := hel 0 hpos
  obtain ⟨_, l0, g0⟩ := World.cells?_some e0
  have hc0 := g0 0 hz
  rw [List.getElem?_eq_getElem (by omega)] at hc0
  simp only [World.cell?, Addr.add, Nat.zero_mul, if_true] at hc0
  split at hc0
  ·rename_i cur T fr hb
   split at hc0
   ·cases hc0
   ·rename_i hsp
    exact ⟨cur, T, fr, hb, by simpa using hsp⟩
  ·cases hc0
 have hadd : ∀ i, a.add i = ⟨a.block, a.off + i, none⟩ := fun i => by
  obtain ⟨ab, ao, asp⟩ := a
  simp only at hs
  subst hs
  by_cases hi : i = 0 <;> simp [Addr.add, hi]
 have hcell : ∀ i, w.cell? (a.add i) = cur[a.off + i]? := fun i => by simp [World.cell?, hadd, hb]
 have main : ∀ k, k ≤ len -> ∃ (ys : List α) (vals : List Value), ys.length = k ∧ PReps (fun b => w.heap[b]?) ((ens ys).flatMap PV.cells) vals ∧ vals.length = k * Enc.sz α ∧ ∀ i v, vals[i]? = some v -> cur[a.off + i]? = some v := by
  intro k
  induction k with
  | zero => intro _; exact ⟨[], [], rfl, .nil, by simp, fun i v hv => by simp at hv⟩
  | succ k ih =>
   intro hk
   obtain ⟨ys, vals, i1, i2, i3, i4⟩ := ih (by omega)
   obtain ⟨y, c, e1, e2⟩ := hel k (by omega)
   obtain ⟨_, l1, g1⟩ := World.cells?_some e1
   refine ⟨ys ++ [y], vals ++ c, by simp [i1], ?_, by rw [List.length_append, i3, l1, Nat.add_mul, Nat.one_mul], fun i v hv => ?_⟩
   ·have : (ens (ys ++ [y])).flatMap PV.cells = (ens ys).flatMap PV.cells ++ (enc y).cells := by simp [ens]
    rw [this]; exact i2.append e2
   ·rcases Nat.lt_or_ge i vals.length with hi | hi
    ·rw [List.getElem?_append_left hi] at hv
     exact i4 i v hv
    ·rw [List.getElem?_append_right hi, i3] at hv
     have hj : i - k * Enc.sz α < c.length := by
      rcases Nat.lt_or_ge (i - k * Enc.sz α) c.length with h | h
      ·exact h
      ·rw [List.getElem?_eq_none h] at hv; cases hv
     have h6 := g1 (i - k * Enc.sz α) (by omega)
     rw [hv] at h6
     have h7 : (a.add (k * Enc.sz α)).add (i - k * Enc.sz α) = a.add i := by
      rw [hadd, hadd]
      have h8 : k * Enc.sz α + (i - k * Enc.sz α) = i := by omega
      by_cases hi0 : i - k * Enc.sz α = 0
      ·simp [Addr.add, hi0]; omega
      ·simp [Addr.add, hi0]; omega
     rw [h7, hcell] at h6
     exact h6
 obtain ⟨ys, vals, i1, i2, i3, i4⟩ := main len (Nat.le_refl _)
 subst i1
 refine ⟨_, ⟨ys, rfl⟩, .cons _ _ _ _ ?_ .nil⟩
 obtain ⟨ab, ao, asp⟩ := a
 simp only at hs hb i4
 subst hs
 have := PRep.sl (M := fun b => w.heap[b]?) (ens ys) ab ao cap cur T fr (Enc.sz α) vals hb hz (fun v hv => by obtain ⟨y, _, rfl⟩ := List.mem_map.1 hv; exact Enc.ok y) (fun c hc => by
  obtain ⟨v, hv, hc⟩ := List.mem_flatMap.1 hc
  obtain ⟨y, _, rfl⟩ := List.mem_map.1 hv
  exact List.all_eq_true.1 (hone y) c hc) i2 i4 (by simpa [ens] using h1) (by simpa [ens] using Nat.le_trans h1 h2)
 rw [show (ens ys).length = ys.length by simp [ens]] at this
 exact this
def shp (P : Program) (t : TypeId) : Option (List (TypeId × Nat × Nat) × Nat) :=
 match P.underlying t with
 | some (.struct fs) => some (fs.toList.map fun f => (f.type, f.offset, P.cellsOf f.type), P.cellsOf t)
 | _ => none
def contig : Nat -> List (TypeId × Nat × Nat) -> Option Nat
 | o, [] => some o
 | o, (_, f, c) :: r => if f = o then contig (o + c) r else none
def RdF (en : TypeId × Value -> H) (P : Program) (w : World) (n : Nat) : List (TypeId × Nat × Nat) -> List (List PV -> Prop) -> Prop
 | [], [] => True
 | f :: fs, D :: Ds => RdN en P w n f.1 D ∧ RdF en P w n fs Ds
 | _, _ => False
def AllD : List (List PV -> Prop) -> List (List PV) -> Prop
 | [], [] => True
 | D :: Ds, l :: ls => D l ∧ AllD Ds ls
 | _, _ => False
theorem AllD.cons {Ds : List (List PV -> Prop)} {ls : List (List PV)} (h : AllD (D :: Ds) ls) : ∃ l ls', ls = l :: ls' ∧ D l ∧ AllD Ds ls' := by
 cases ls with
 | nil => exact h.elim
 | cons l ls => exact ⟨l, ls, rfl, h.1, h.2⟩
theorem AllD.nil {ls : List (List PV)} (h : AllD [] ls) : ls = [] := by
 cases ls with
 | nil => rfl
 | cons l ls => exact h.elim
theorem rd_fields {cs : List Value} {k : Nat} : ∀ (ts : List (TypeId × Nat × Nat)) (Ds : List (List PV -> Prop)) (o : Nat), contig o ts = some k -> RdF en P w n ts Ds ->
  (∀ f ∈ ts, ∃ y, DataW.trod en P w 0 (fun _ => true) true n f.1 ((cs.drop f.2.1).take f.2.2) = some y) -> ∃ ls, AllD Ds ls ∧ PReps (fun b => w.heap[b]?) ls.flatten ((cs.drop o).take (k - o)) ∧ o ≤ k
 | [], [], o, hk, _, _ => by
  simp only [contig, Option.some.injEq] at hk
  subst hk
  exact ⟨[], trivial, by simpa using PReps.nil, Nat.le_refl _⟩
 | [], D :: Ds, o, _, h, _ => h.elim
 | f :: fs, [], o, _, h, _ => h.elim
 | (t, f, c) :: fs, D :: Ds, o, hk, h, hy => by
  simp only [contig] at hk
  split at hk
  ·rename_i hf
   subst hf
   obtain ⟨y, hy1⟩ := hy (t, f, c) (by simp)
   obtain ⟨l, hl1, hl2⟩ := h.1 n (Nat.le_refl _) _ _ hy1
   obtain ⟨ls, g1, g2, g3⟩ := rd_fields fs Ds (f + c) hk h.2 fun x hx => hy x (List.mem_cons_of_mem _ hx)
   refine ⟨l :: ls, ⟨hl1, g1⟩, ?_, by omega⟩
   have e1 : k - f = c + (k - (f + c)) := by omega
   rw [e1, List.take_add, List.drop_drop, List.flatten_cons]
   exact hl2.append g2
  ·cases hk
theorem rd_struct {ts : List (TypeId × Nat × Nat)} {k : Nat} {Ds : List (List PV -> Prop)} (ht : shp P t = some (ts, k)) (hc : contig 0 ts = some k) (hd : ∀ m, m < n -> RdF en P w m ts Ds) (hD : ∀ ls, AllD Ds ls -> D ls.flatten) : RdN en P w n t D := by
 intro m hm cs x h
 unfold shp at ht
 split at ht
 ·rename_i fs hu
  simp only [Option.some.injEq, Prod.mk.injEq] at ht
  obtain ⟨rfl, rfl⟩ := ht
  obtain ⟨xs, i, rfl, _, h1, h2, h3⟩ := DataW.trod_struct hu h
  obtain ⟨ls, g1, g2, _⟩ := rd_fields (cs := cs) _ Ds 0 hc (hd i (by omega)) fun f hf => by
   obtain ⟨f', hf', rfl⟩ := List.mem_map.1 hf
   obtain ⟨j, hj, rfl⟩ := List.mem_iff_getElem.1 hf'
   have h4 := h3 j fs[j] (by simp)
   have hj' : j < xs.length := by rw [h2]; simpa using hj
   rw [List.getElem?_eq_getElem hj'] at h4
   exact ⟨_, by simpa using h4⟩
  refine ⟨_, hD ls g1, ?_⟩
  rw [List.drop_zero, Nat.sub_zero, <- h1, List.take_length] at g2
  exact g2
 ·cases ht
theorem rd_array3 (ht : P.underlying t = some (.array 3 e)) (he : P.underlying e = some (.int .i64)) (h1 : P.cellsOf e = 1) (h3 : P.cellsOf t = 3) : RdN en P w n t fun l => ∃ a b c : Int, l = [.int .i64 a, .int .i64 b, .int .i64 c] := by
 intro m hm cs x h
 obtain ⟨xs, k, rfl, _, l1, l2, l3⟩ := DataW.trod_array ht h
 rw [h3] at l1
 rw [h1] at l3
 match cs, l1, xs, l2 with
 | [c0, c1, c2], _, [x0, x1, x2], _ =>
  have g0 := l3 0 (by decide)
  have g1 := l3 1 (by decide)
  have g2 := l3 2 (by decide)
  simp at g0 g1 g2
  obtain ⟨a, e0, _⟩ := DataW.trod_int he g0
  obtain ⟨b, e1, _⟩ := DataW.trod_int he g1
  obtain ⟨c, e2, _⟩ := DataW.trod_int he g2
  simp only [List.cons.injEq, and_true] at e0 e1 e2
  subst e0 e1 e2
  exact ⟨_, ⟨a, b, c, rfl⟩, .cons _ _ _ _ (.int .i64 a) (.cons _ _ _ _ (.int .i64 b) (.cons _ _ _ _ (.int .i64 c) .nil))⟩
theorem prep_agg {M : Nat -> Option Obj} {cs : List PV} {c : Array Value} (h1 : ∀ x ∈ cs, x.one = true) (h : PReps M cs c.toList) : PRep M (.agg cs) (.agg c) := by
 have := PRep.agg cs c.toList h1 h
 rwa [Array.toArray_toList] at this
theorem keep_same {W W' : World} (hk : Keep W W' fun _ => False) {p : MemPlace} (hp : p.block < W.heap.size) : W.sameAt W' p := by
 have h := hk.blk p.block hp fun h => h
 cases p with
 | cell b off =>
  show W'.cell? ⟨b, off, none⟩ = W.cell? ⟨b, off, none⟩
  simp only [MemPlace.block] at h
  simp only [World.cell?, h]
 | map b => exact h
theorem good_lt {W : World} {p : MemPlace} (h : Go.Good W p) : p.block < W.heap.size := by
 cases p with
 | cell b off =>
  obtain ⟨v, hv, _⟩ := h
  simp only [World.cell?] at hv
  split at hv
  ·rename_i cur T fr hb
   exact (Array.getElem?_eq_some_iff.1 hb).1
  ·cases hv
 | map b =>
  obtain ⟨es, clock, hb⟩ := h
  exact (Array.getElem?_eq_some_iff.1 hb).1
theorem keep_trod {W W' : World} (hk : Keep W W' fun _ => False) {T : TypeId -> Prop} (K : Kids P T) (hsz : ∀ {t e : TypeId}, T t -> P.underlying t = some (.slice e) -> 0 < P.cellsOf e) (hT : T t) {m : Nat} {cs : List Value} {x : DataW H × List MemPlace}
  (h : DataW.trod en P W 0 (fun _ => true) true m t cs = some x) : DataW.trod en P W' 0 (fun b => decide (b < W.heap.size)) true m t cs = some x := by
 have hg := DataW.trod_good K (fun h => by cases h) m t cs x hT h
 exact DataW.trod_stays K hsz (fun h => by cases h) hT h (fun p hp => keep_same hk (good_lt (hg p hp))) fun p hp => by simpa using good_lt (hg p hp)
theorem keep_kept {W W' : World} (hk : Keep W W' fun _ => False) (may : MemPlace -> Prop) : W.keptBut W' may := by
 refine ⟨hk.os, hk.output, fun i hi => ?_⟩
 rw [hk.blk i hi fun h => h]
 cases W.heap[i]? with
 | none => rfl
 | some o =>
  cases o with
  | cells c t fr => exact ⟨rfl, rfl, rfl, fun _ _ => rfl⟩
  | map es clock => exact .inr ⟨rfl, rfl⟩
  | _ => rfl
end
end Go.Ab
namespace Go.Ab
abbrev zm (d s : Nat) : Ins := ⟨some d, .mv (.t s), none⟩
abbrev zf (d k s : Nat) : Ins := ⟨some d, .faddr k (.t s), none⟩
abbrev zt (d n s : Nat) : Ins := ⟨some d, .load n true (.t s), none⟩
abbrev zl (d n s : Nat) : Ins := ⟨some d, .load n false (.t s), none⟩
abbrev zb (d : Nat) (o : BinOp) (a b : Nat) : Ins := ⟨some d, .ibin o (.t a) (.t b), none⟩
abbrev zc (d : Nat) (f : FuncId) (xs : List Opd) : Ins := ⟨some d, .call f xs, none⟩
abbrev zs (n a b : Nat) : Ins := ⟨none, .store n (.t a) (.t b), none⟩
abbrev zn (d s : Nat) : Ins := ⟨some d, .len (.t s), none⟩
abbrev zi (d n a b : Nat) : Ins := ⟨some d, .iaddr n (.t a) (.t b), none⟩
abbrev zg (d s g : Nat) (b : Bool) : Ins := ⟨some d, .mv (.t s), some (g, b)⟩
abbrev zh (d k s g : Nat) (b : Bool) : Ins := ⟨some d, .faddr k (.t s), some (g, b)⟩
abbrev zk (d n : Nat) (x : Bool) (s g : Nat) (b : Bool) : Ins := ⟨some d, .load n x (.t s), some (g, b)⟩
abbrev zo (d : Nat) (o : IOp) : Ins := ⟨some d, o, none⟩
end Go.Ab
