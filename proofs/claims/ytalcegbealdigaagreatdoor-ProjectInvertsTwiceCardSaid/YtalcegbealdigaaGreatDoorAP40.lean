/-
Proofs for the law ProjectInvertsTwice, part 40. Conditions: none.
-/
import Derived.Test.YtalcegbealdigaaGreatDoorAP39
set_option maxRecDepth 100000
set_option maxHeartbeats 4000000
set_option linter.all false
namespace Go.Ab
open Enc (enc)
section
variable (t : GTrans) (wx wy : List Int)
def rowL (i k : Nat) : List (List GW) := (List.range' k (wy.length + 1 - k)).map (tabW t wx wy i)
def zlj (i : Nat) : List (List (List GW)) := (List.range' i (wx.length + 1 - i)).map fun i => rowL t wx wy i 0
theorem zlk {i k : Nat} (h : k <= wy.length) : rowL t wx wy i k = tabW t wx wy i k :: rowL t wx wy i (k + 1) := by
 unfold rowL
 rw [show wy.length + 1 - k = (wy.length + 1 - (k + 1)) + 1 by omega, List.range'_succ, List.map_cons]
theorem z20 (i : Nat) : rowL t wx wy i (wy.length + 1) = [] := by simp [rowL]
theorem zku (i k : Nat) : (rowL t wx wy i k).length = wy.length + 1 - k := by simp [rowL]
theorem z2z {i b : Nat} (h : b <= wy.length) : (rowL t wx wy i 0)[b]? = some (tabW t wx wy i b) := by
 unfold rowL
 rw [List.getElem?_map, List.getElem?_range' (by omega)]; simp
theorem zjd {i : Nat} (h : i <= wx.length) : zlj t wx wy i = rowL t wx wy i 0 :: zlj t wx wy (i + 1) := by
 unfold zlj
 rw [show wx.length + 1 - i = (wx.length + 1 - (i + 1)) + 1 by omega, List.range'_succ, List.map_cons]
theorem zyx : zlj t wx wy (wx.length + 1) = [] := by simp [zlj]
theorem zig (i : Nat) : (zlj t wx wy i).length = wx.length + 1 - i := by simp [zlj]
end
theorem z93 (label : Int) (w : List Int) (a : Nat) : -1 <= nx label w a := by
 unfold nx
 split
 ·omega
 ·split <;> omega
theorem z15 {A : Prop} {N : Nat} {Q : Exit -> St -> Prop} {b : GC} {ks : List Kt} (W : St -> Prop) (h : ∀ st, W st -> vL P N Q b ks st) (k : (∀ st, W st -> vL P N Q b ks st) -> A) : A := k h
theorem z2p {α : Type} (i : Nat) (a x : α) : (List.replicate (i + 1) a).set i x = List.replicate i a ++ [x] := by
 rw [List.replicate_succ', List.set_append_right _ _ (by simp)]
 simp
theorem yae {α : Type} (i : Nat) (a : α) (l : List α) : (List.replicate (i + 1) a ++ l)[i]? = some a := by
 rw [List.getElem?_append_left (by simp)]; simp
theorem yc1 {α : Type} (i : Nat) (a x y : α) (l : List α) : (List.replicate i a ++ y :: l).set i x = List.replicate i a ++ x :: l := by
 rw [List.set_append_right _ _ (by simp)]; simp
theorem z4b {α : Type} (i : Nat) (a x : α) (l : List α) : (List.replicate i a ++ x :: l)[i]? = some x := by
 rw [List.getElem?_append_right (by simp)]; simp
theorem ydh {α : Type} (i : Nat) (a x y : α) (l : List α) : (List.replicate i a ++ x :: y :: l)[i + 1]? = some y := by
 rw [List.getElem?_append_right (by simp)]; simp
def zjy (w : List Int) (m : Int) : Prop := (1 <= m /\ m <= 32) /\ w.length <= 256 /\ ∀ x ∈ w, 1 <= x /\ x <= m
noncomputable instance (w : List Int) (m : Int) : Decidable (zjy w m) := Classical.propDecidable _
theorem zs0 {r : GRing} (M : Meas r) {z : Nat} (t : GTrans) (n : Nat) (hn : n <= 90) (hn1 : 3 <= n) (h : t.sm n) (hl : t.arcs.length <= 19) (ok : t.ok) (ht : t.nf.fits M z) (wx wy : List Int) (lx : wx.length <= 256) (ly : wy.length <= 256)
  (hlim : lvl t.nf z (wx.length + wy.length + 1) + z + 1 + t.st.toNat <= M.lim) (hc : emC t = false) (hwx : zjy wx t.i) (hwy : zjy wy t.o) :
  Sp P F.bf [enc t, .sl (ens wx), .sl (ens wy)] (.pure (.tup [enc (wgt t.nf wx wy), .int .i64 0])) := by
 have h0 := ok.il
 have h2 := ok.fl
 have h3 := ok.st2
 have hst := ht.st
 have hA := zpm t
 refine Sp.vz c.bf fun _ => ?_
 simp [g.bf, go_sem]
 refine zab (zi7 t (h.mono (by omega)) (by omega) (by omega)) ?_
 simp [go_sem, ok]
 refine zab (zo1 t n hn hn1 h hl ok) ?_
 simp [go_sem, hc]
 have vx := zqu wx t.i (by omega)
 have vy := zqu wy t.o (by omega)
 have dx : decide ((1 <= t.i /\ t.i <= 32) /\ wx.length <= 256 /\ ∀ x ∈ wx, 1 <= x /\ x <= t.i) = true := decide_eq_true hwx
 have dy : decide ((1 <= t.o /\ t.o <= 32) /\ wy.length <= 256 /\ ∀ x ∈ wy, 1 <= x /\ x <= t.o) = true := decide_eq_true hwy
 rw [dx] at vx
 rw [dy] at vy
 refine zab vx ?_
 simp [go_sem]
 refine zab vy ?_
 simp [go_sem]
 have hp : t.ring.parts.length <= 1000000 := by
  by_cases h6 : t.ring.kind = 6
  ·have := (GRing.ok_parts ok.ring h6).2.1; omega
  ·rw [(GRing.ok_kind ok.ring h6).2.2]; simp
 refine zab (zr9 t n hn hn1 h hl hp (by omega) h0 h2 ok.ini ok.fin fun x hx => (ok.arcs x hx).2.2.2.2.2.2.2.2) ?_
 have ust : t.nf.st = t.st := rfl
 have ex : IntKind.i64.wrap ((wx.length : Int) + 1) = ((wx.length + 1 : Nat) : Int) := i64w (by omega) (by omega)
 have ey : IntKind.i64.wrap ((wy.length : Int) + 1) = ((wy.length + 1 : Nat) : Int) := i64w (by omega) (by omega)
 rw [<- ust] at hlim
 simp [go_sem, ex]
 generalize t.nf = u at *
 have hur := ht.ring
 subst hur
 have hA2 : u.arcs.length <= 19 := by omega
 have hlv : lvl u z (wx.length + wy.length + 1) = lvl u z (wx.length + wy.length) + (u.st.toNat + 1) * (z + 1 + u.arcs.length) := by unfold lvl; rw [Nat.succ_mul]
 have hlm : (u.st.toNat + 1) * (z + 1 + u.arcs.length) = u.st.toNat * (z + 1 + u.arcs.length) + (z + 1 + u.arcs.length) := Nat.succ_mul _ _
 refine ⟨by omega, ?_⟩
 refine zah (S := fun kk : Nat => mkSt [(1, .p (.sl (ens wx))), (2, .p (.sl (ens wy))), (3, .ptr 3 0 0 0), (6, .ptr 6 0 0 0), (8, .own 1 0 0 (wx.length + 1)), (9, .p (.int .i64 ((kk : Int) - 1)))]
   [(3, ⟨8, [.p (enc u)]⟩), (6, ⟨8, [.agg [.p (.bool false), .nil, .nil, .p (.int .i64 0), .p (.bool false), .p (.int .u64 0), .nil, .nil]]⟩), (1, ⟨1, avs (List.replicate kk ([] : List (List GW)) ++ zlj u wx wy kk)⟩)])
  (I := fun kk => kk <= wx.length + 1) (m := fun kk => kk) (wx.length + 1) (Weak.to [1, 2, 3, 6, 8, 9] [((3, 0), 3), ((6, 0), 6), ((46, 0), 1)] (by simp [go_sem, zyx])) (Nat.le_refl _) ?_
 rintro kk h1 R hn' hr hx
 simp [g.pi, mkSt, go_sem]
 refine ⟨fun hk => ?_, fun hk => hx _ _ ?_⟩
 ·obtain ⟨i, rfl⟩ : ∃ i, kk = i + 1 := ⟨kk - 1, by omega⟩
  have hi : i <= wx.length := by omega
  have ei : ((i + 1 : Nat) : Int) - 1 = i := by omega
  simp [go_sem, ey, ei, z2p]
  refine ⟨by omega, by rw [zig]; omega, ?_⟩
  rw [zeh]
  refine zbv (yae ..) ?_
  simp [go_sem, z2p]
  refine zah (S := fun kk : Nat => mkSt [(1, .p (.sl (ens wx))), (2, .p (.sl (ens wy))), (3, .ptr 3 0 0 0), (6, .ptr 6 0 0 0), (8, .own 1 0 0 (wx.length + 1)), (9, .p (.int .i64 i)), (10, .p (.int .i64 ((kk : Int) - 1)))]
    [(3, ⟨8, [.p (enc u)]⟩), (6, ⟨8, [.agg [.p (.bool false), .nil, .nil, .p (.int .i64 0), .p (.bool false), .p (.int .u64 0), .nil, .nil]]⟩), (1, ⟨1, List.replicate i (.p (.sl [])) ++ .own 2 0 0 (wy.length + 1) :: avs (zlj u wx wy (i + 1))⟩),
     (2, ⟨1, avs (List.replicate kk ([] : List GW) ++ rowL u wx wy i kk)⟩)])
   (I := fun kk => kk <= wy.length + 1) (m := fun kk => kk) (wy.length + 1) (Weak.to [1, 2, 3, 6, 8, 9, 10] [((3, 0), 3), ((6, 0), 6), ((1, 0), 1), ((58, 0), 2)] (by simp [go_sem, z20])) (Nat.le_refl _) ?_
  rintro kk h4 R2 hn2 hr2 hx2
  simp [g.ph, mkSt, go_sem]
  refine ⟨fun hk => ?_, fun hk => hx2 _ _ ?_⟩
  ·obtain ⟨k, rfl⟩ : ∃ k, kk = k + 1 := ⟨kk - 1, by omega⟩
   have hkl : k <= wy.length := by omega
   have ek : ((k + 1 : Nat) : Int) - 1 = k := by omega
   simp [go_sem, ek]
   obtain ⟨nn, hnn⟩ : ∃ nn : Nat, u.st = nn := ⟨u.st.toNat, by omega⟩
   refine zaa (zxy u.ring nn (by omega)) (by simp [go_sem, hnn]) ?_
   simp [go_sem]
   have hN : u.st.toNat = nn := by omega
   let S1 : Nat -> St := fun j => mkSt [(1, .p (.sl (ens wx))), (2, .p (.sl (ens wy))), (3, .ptr 3 0 0 0), (6, .ptr 6 0 0 0), (8, .own 1 0 0 (wx.length + 1)), (9, .p (.int .i64 i)), (10, .p (.int .i64 k)),
     (11, .p (.sl (ens (accW u.ring (zdy wx wy i k (tabW u wx wy)) (u.arcs.take j) (zga u wx wy i k))))), (12, .p (.int .i64 j))]
    [(3, ⟨8, [.p (enc u)]⟩), (6, ⟨8, [.agg [.p (.bool false), .nil, .nil, .p (.int .i64 0), .p (.bool false), .p (.int .u64 0), .nil, .nil]]⟩), (1, ⟨1, List.replicate i (.p (.sl [])) ++ .own 2 0 0 (wy.length + 1) :: avs (zlj u wx wy (i + 1))⟩),
     (2, ⟨1, avs (List.replicate (k + 1) ([] : List GW) ++ rowL u wx wy i (k + 1))⟩)]
   refine z15 (fun st => Weak st (S1 0)) (fun st hw => ?_) (fun hm => ⟨fun a => ⟨fun b => hm _ (Weak.to [1, 2, 3, 6, 8, 9, 10, 11, 12] [((3, 0), 3), ((6, 0), 6), ((1, 0), 1), ((2, 0), 2)] ?_), fun b => hm _ (Weak.to [1, 2, 3, 6, 8, 9, 10, 11, 12] [((3, 0), 3), ((6, 0), 6), ((1, 0), 1), ((2, 0), 2)] ?_)⟩, fun a => hm _ (Weak.to [1, 2, 3, 6, 8, 9, 10, 11, 12] [((3, 0), 3), ((6, 0), 6), ((1, 0), 1), ((2, 0), 2)] ?_)⟩)
   rotate_left
   ·have hb : zga u wx wy i k = u.fin := by unfold zga; rw [if_pos ⟨by omega, by omega⟩]
    simp [S1, go_sem, accW, hb]
   ·have hb : zga u wx wy i k = List.replicate nn u.ring.zero := by unfold zga; rw [if_neg (by omega), hN]
    simp [S1, go_sem, accW, hb]
   ·have hb : zga u wx wy i k = List.replicate nn u.ring.zero := by unfold zga; rw [if_neg (by omega), hN]
    simp [S1, go_sem, accW, hb]
   refine zah (S := S1) (I := fun j => j <= u.arcs.length) (m := fun j => u.arcs.length - j) 0 hw (by omega) ?_
   rintro j h5 R1 hn1 hr1 hx1
   have e4 := i64s j (by omega)
   simp [S1, g.pg, mkSt, go_sem]
   refine ⟨fun hj => ?_, fun hj => hx1 _ _ ?_⟩
   ·refine zae hj ?_
    try simp [go_sem]
    refine zab (zrw u.arcs[j].i wx i (by omega) (by omega)) ?_
    try simp [go_sem]
    refine zab (zrw u.arcs[j].o wy k (by omega) (by omega)) ?_
    have hst := zsx (r := u.ring) (p := zdy wx wy i k (tabW u wx wy)) hj (zga u wx wy i k)
    unfold accS at hst
    cases hsp : zdy wx wy i k (tabW u wx wy) u.arcs[j] with
    | none =>
     rw [hsp] at hst
     have n1 := z3o (label := u.arcs[j].i) hi
     have n2 := z3o (label := u.arcs[j].o) hkl
     have n3 := z93 u.arcs[j].i wx i
     have n4 := z93 u.arcs[j].o wy k
     unfold zdy at hsp
     split at hsp
     ·cases hsp
     ·rename_i hc
      generalize nx u.arcs[j].i wx i = a at *
      generalize nx u.arcs[j].o wy k = b at *
      have e6 : IntKind.i64.wrap ((i : Int) + k) = (i : Int) + k := i64w (by omega) (by omega)
      have e7 : IntKind.i64.wrap (a + b) = a + b := i64w (by omega) (by omega)
      by_cases ha : 0 <= a
      ·by_cases hb : 0 <= b
       ·have hS : ¬ ((i : Int) + k < a + b) := fun h => hc ⟨ha, hb, h⟩
        simp [go_sem, ha, hb, e6, e7, hS, e4]
        exact hn1 (j + 1) _ (Weak.to [1, 2, 3, 6, 8, 9, 10, 11, 12] [((3, 0), 3), ((6, 0), 6), ((1, 0), 1), ((2, 0), 2)] (by simp [S1, go_sem, mkSt, hst])) (by omega) (by omega)
       ·simp [go_sem, ha, hb, e4]
        exact hn1 (j + 1) _ (Weak.to [1, 2, 3, 6, 8, 9, 10, 11, 12] [((3, 0), 3), ((6, 0), 6), ((1, 0), 1), ((2, 0), 2)] (by simp [S1, go_sem, mkSt, hst])) (by omega) (by omega)
      ·simp [go_sem, ha, e4]
       exact hn1 (j + 1) _ (Weak.to [1, 2, 3, 6, 8, 9, 10, 11, 12] [((3, 0), 3), ((6, 0), 6), ((1, 0), 1), ((2, 0), 2)] (by simp [S1, go_sem, mkSt, hst])) (by omega) (by omega)
    | some e =>
     rw [hsp] at hst
     obtain ⟨a, b, b1, b2, b3, b4, b5, b6, b7, b8, b9, rfl⟩ := zfa hi hkl hsp
     have e6 : IntKind.i64.wrap ((i : Int) + k) = ((i + k : Nat) : Int) := i64w (by omega) (by omega)
     have e7 : IntKind.i64.wrap ((a : Int) + b) = ((a + b : Nat) : Int) := i64w (by omega) (by omega)
     rw [b1, b2]
     simp [go_sem, e6, e7]
     have hb0 := zqk ht wx wy i k
     have hacc := zm3 M (p := zdy wx wy i k (tabW u wx wy)) (c := z) (E := lvl u z (wx.length + wy.length)) (N := u.st.toNat) (K := z + lvl u z (wx.length + wy.length) + 1) (Nat.le_refl _) (zsc ht.arcs j) (fun x hx e he => zs9 ht hi hkl x (List.mem_of_mem_take hx) e he) (zd8 hb0.1 (by omega)) hb0.2 0
     have hlen := zi6 (r := u.ring) (zdy wx wy i k (tabW u wx wy)) (u.arcs.take j) (zga u wx wy i k)
     have hx1 := ht.arcs _ (List.getElem_mem hj)
     have hv := zs9 ht hi hkl _ (List.getElem_mem hj) _ hsp
     have htl : (u.arcs.take j).length = j := by rw [List.length_take]; omega
     rw [htl, Nat.add_zero] at hacc
     have hcall := zwi M (x := u.arcs[j]) hacc hv.1 hx1.1 hx1.2 (hlen.trans hb0.2) hv.2 (by omega) (by omega) (by omega)
     generalize haq : accW u.ring (zdy wx wy i k (tabW u wx wy)) (u.arcs.take j) (zga u wx wy i k) = acc at *
     refine ⟨fun _ => ⟨⟨by omega, by rw [zig]; omega⟩, ?_⟩, fun h => absurd h (by omega)⟩
     rw [zeh]
     rcases (by omega : a = i \/ a = i + 1) with rfl | rfl
     ·obtain rfl : b = k + 1 := by omega
      refine zbv (z4b ..) ?_
      simp [go_sem]
      refine ⟨by rw [zku]; omega, ?_⟩
      rw [zeh]
      refine zbv (x := .p (enc (tabW u wx wy a (k + 1)))) (by rw [zlk u wx wy (by omega)]; exact z4b ..) ?_
      simp [go_sem]
      refine zab hcall ?_
      simp [go_sem, e4]
      exact hn1 (j + 1) _ (Weak.to [1, 2, 3, 6, 8, 9, 10, 11, 12] [((3, 0), 3), ((6, 0), 6), ((1, 0), 1), ((2, 0), 2)] (by simp [S1, go_sem, mkSt, hst])) (by omega) (by omega)
     ·refine zbv (x := .p (enc (rowL u wx wy (i + 1) 0))) (by rw [zjd u wx wy (by omega)]; exact ydh ..) ?_
      simp [go_sem]
      refine zbv (z2z u wx wy b8) ?_
      try simp [go_sem]
      refine zab hcall ?_
      simp [go_sem, e4]
      exact hn1 (j + 1) _ (Weak.to [1, 2, 3, 6, 8, 9, 10, 11, 12] [((3, 0), 3), ((6, 0), 6), ((1, 0), 1), ((2, 0), 2)] (by simp [S1, go_sem, mkSt, hst])) (by omega) (by omega)
   ·have : j = u.arcs.length := by omega
    subst this
    simp [go_sem]
    refine ⟨by rw [zig]; omega, ?_⟩
    rw [zeh]
    refine zbv (z4b ..) ?_
    simp [go_sem]
    have hrow := zyy ht (zs9 ht hi hkl)
    have hspr := ztc M u ht hrow (zpb ht ..) (by omega) (by omega)
    have hcell : sprN u.ring u.arcs (rowW u wx wy i k (tabW u wx wy)) u.st.toNat = tabW u wx wy i k := (z59 hi hkl).symm
    rw [hcell] at hspr
    unfold rowW at hspr
    refine zab hspr ?_
    try simp [go_sem, z2p]
    refine ⟨⟨by omega, by rw [zku]; omega⟩, ?_⟩
    rw [zeh]
    refine zbv (yae ..) ?_
    have e5 : IntKind.i64.wrap ((k : Int) - 1) = (k : Int) - 1 := i64w (by omega) (by omega)
    simp [go_sem, z2p, e5]
    exact hn2 k _ (Weak.to [1, 2, 3, 6, 8, 9, 10] [((3, 0), 3), ((6, 0), 6), ((1, 0), 1), ((2, 0), 2)] (by simp [go_sem, mkSt, zlk u wx wy hkl])) (by omega) (by omega)
  ·have : kk = 0 := by omega
   subst this
   simp [go_sem]
   have hrl : (rowL u wx wy i 0).take (wy.length + 1) = rowL u wx wy i 0 := List.take_of_length_le (by rw [zku]; omega)
   have e5 : IntKind.i64.wrap ((i : Int) - 1) = (i : Int) - 1 := i64w (by omega) (by omega)
   refine hn' i _ ((Weak.freezeEl (s := 1) (g := 0) (i := i) (e := .own 2 0 0 (wy.length + 1)) (p := .sl (ens (rowL u wx wy i 0))) rfl (z4b ..) (by simp [go_sem, zku, hrl]) rfl rfl rfl rfl rfl (by simp [go_sem])).trans (Weak.to [1, 2, 3, 6, 8, 9] [((3, 0), 3), ((6, 0), 6), ((1, 0), 1)] (by simp [go_sem, yc1, mkSt, zjd u wx wy hi, e5]))) (by omega) (by omega)
 ·have : kk = 0 := by omega
  subst this
  simp [go_sem]
  refine zab (zfp u.ring) ?_
  simp [go_sem]
  have htab := zyh ht (wx := wx) (wy := wy) (i := 0) (k := 0) (by omega) (by omega)
  have hini := ht.ini
  refine zah (S := fun s : Nat => mkSt [(3, .ptr 3 0 0 0), (6, .ptr 6 0 0 0), (8, .own 1 0 0 (wx.length + 1)), (16, .ptr 16 0 0 0), (17, .p (.int .i64 s))]
    [(3, ⟨8, [.p (enc u)]⟩), (6, ⟨8, [.agg [.p (.bool false), .nil, .nil, .p (.int .i64 0), .p (.bool false), .p (.int .u64 0), .nil, .nil]]⟩), (1, ⟨1, avs (zlj u wx wy 0)⟩), (16, ⟨8, [.p (enc (sumN u.ring u.ini (tabW u wx wy 0 0) s))]⟩)])
   (I := fun s => s <= u.st.toNat) (m := fun s => u.st.toNat - s) 0 (Weak.to [3, 6, 8, 16, 17] [((3, 0), 3), ((6, 0), 6), ((1, 0), 1), ((16, 0), 16)] (by simp [go_sem, sumN])) (by omega) ?_
  rintro s h5 R1 hn1 hr1 hx1
  have e4 := i64s s (by omega)
  simp [g.pj, mkSt, go_sem]
  refine ⟨fun hs => ?_, fun hs => hx1 _ _ ?_⟩
  ·have hs1 : s < u.ini.length := by omega
   have hs2 : s < (tabW u wx wy 0 0).length := by omega
   have k1 := hini.1 _ (List.getElem_mem hs1)
   have k2 := htab.1 _ (List.getElem_mem hs2)
   have k3 := zs8 (M := M) ht.rok hini.1 htab.1 s (by omega) (by omega)
   have ct := zdd k1.1 k2.1
   have s1 := M.timesS (v := u.ini[s]) (w := (tabW u wx wy 0 0)[s]) (n := M.lim) (Nat.le_refl _) k1.1 k2.1 (M.mono k1.2 (by omega)) (M.mono k2.2 (by omega))
   have s2 := M.plusS (v := sumN u.ring u.ini (tabW u wx wy 0 0) s) (w := u.ring.times u.ini[s] (tabW u wx wy 0 0)[s]) (n := M.lim) (Nat.le_refl _) k3.1 ct (M.mono k3.2 (by omega)) (M.mono (M.times k1.1 k2.1 k1.2 k2.2) (by omega))
   have hsum := zq3 (r := u.ring) hs1 hs2
   refine zae hs1 ⟨by rw [zig]; omega, zbv (by rw [zjd u wx wy (by omega)]; rfl) (zbv (by rw [zlk u wx wy (by omega)]; rfl) (zae hs2 ?_))⟩
   refine zab s1 ?_
   simp [go_sem]
   refine zab s2 ?_
   simp [go_sem, e4]
   exact hn1 (s + 1) _ (Weak.to [3, 6, 8, 16, 17] [((3, 0), 3), ((6, 0), 6), ((1, 0), 1), ((16, 0), 16)] (by simp [go_sem, mkSt, hsum])) (by omega) (by omega)
  ·have : s = u.st.toNat := by omega
   subst this
   have hall : sumN u.ring u.ini (tabW u wx wy 0 0) u.st.toNat = wgt u wx wy := zuv (by omega)
   simp [go_sem, hall]
theorem zsz (t : GTrans) (n : Nat) (hn : n <= 90) (hn1 : 3 <= n) (h : t.sm n) (hl : t.arcs.length <= 19) (ok : t.ok) (wx wy : List Int) (hc : emC t = true) :
  Sp P F.bf [enc t, .sl (ens wx), .sl (ens wy)] (.pure (.tup [enc gw0, .int .i64 10])) := by
 have h0 := ok.il
 have h2 := ok.fl
 have h3 := ok.st2
 refine Sp.vz c.bf fun _ => ?_
 simp [g.bf, go_sem]
 refine zab (zi7 t (h.mono (by omega)) (by omega) (by omega)) ?_
 simp [go_sem, ok]
 refine zab (zo1 t n hn hn1 h hl ok) ?_
 simp [go_sem, hc]
 exact ⟨rfl, rfl, rfl, rfl, rfl, rfl, rfl, rfl⟩
end Go.Ab
namespace Go.Ab
open Enc (enc)
theorem zih (a : Int) (d k B : Nat) (h : d * k = 6) (hb : a.natAbs <= B) : qb 6 (B * k) (Rat.divInt a d) := by
 have h1 : qb d B (Rat.divInt a d) := ⟨a, Rat.divInt_ofNat a d, hb⟩
 have h2 := zel k (by rintro rfl; omega) h1
 rwa [h] at h2
def numD (v : Int) : Int := 1 + IntKind.i64.wrap (v.tdiv 13) % 3
def numR (v : Int) : Rat := Rat.divInt (v % 13 - 6) (numD v)
theorem zlz (v : Int) : qb 6 36 (numR v) := by
 have h1 : numD v = 1 \/ numD v = 2 \/ numD v = 3 := by unfold numD; omega
 have h2 : (v % 13 - 6).natAbs <= 6 := by omega
 unfold numR
 rcases h1 with h | h | h <;> rw [h]
 ·exact za5 (zih _ 1 6 6 rfl h2) (by omega)
 ·exact za5 (zih _ 2 3 6 rfl h2) (by omega)
 ·exact za5 (zih _ 3 2 6 rfl h2) (by omega)
theorem z5h {B : Nat} {q : Rat} (h : qb 6 B q) (hB : B < 4294967296) : (rto q).sm 1 := zy6 h (by omega) (by omega) (by omega)
theorem zrt (v : Int) : Sp P F.jv [.int .i64 v] (.pure (enc (rto (numR v)))) := by
 have e1 : IntKind.i64.wrap (v % 13 - 6) = v % 13 - 6 := i64w (by omega) (by omega)
 have e2 : IntKind.i64.wrap (1 + IntKind.i64.wrap (v.tdiv 13) % 3) = numD v := i64w (by omega) (by omega)
 have h1 : numD v = 1 \/ numD v = 2 \/ numD v = 3 := by unfold numD; omega
 refine Sp.vz c.jv fun _ => ?_
 simp [g.jv, go_sem]
 refine zab (zcq v 13 (by omega) (by omega)) ?_
 simp [go_sem, e1]
 refine zab (zcq (IntKind.i64.wrap (v.tdiv 13)) 3 (by omega) (by omega)) ?_
 simp [go_sem, e2]
 refine zab (zgr (v % 13 - 6) (numD v) (by omega) (by omega) (by omega)) ?_
 simp [go_sem, numR]
def zro (v : Int) : List GMono :=
 let p := pput [] ⟨0, 0, 0⟩ (Rat.divInt (v % 5 - 2) 3)
 if IntKind.i64.wrap (v.tdiv 5) % 2 = 1 then padd p (pmul (zc1 (IntKind.i64.wrap (v.tdiv 10) % 3)) (zbt (numR v))) else p
def zfz (k v : Int) : GW :=
 if k = 1 then .mk (rto (numR v)) 0 false 0 [] []
 else if k = 2 then (if v % 11 = 10 then (⟨2, []⟩ : GRing).zero else .mk gr0 (v % 11) false 0 [] [])
 else if k = 3 then .mk (rto (Rat.divInt (v % 7) 6)) 0 false 0 [] []
 else if k = 4 then .mk gr0 0 false (UInt64.ofNat (v % 16).toNat) [] []
 else .mk gr0 0 false 0 (zro v) []
theorem zrl (q : Rat) : PVal (pput [] ⟨0, 0, 0⟩ q) := zkw _ _ zhs
theorem zij {B : Nat} {q : Rat} (h : qb 6 B q) : pqb 6 B (pput [] ⟨0, 0, 0⟩ q) := by
 have := ztm (ztn 6) h (by omega) ⟨0, 0, 0⟩
 rwa [Nat.zero_add] at this
theorem zny (i : Int) : PVal (zc1 i) := by
 unfold zc1
 split
 ·refine zaj.2 ⟨fun m hm => ?_, List.pairwise_singleton _ _⟩
  rw [List.mem_singleton.1 hm]
  refine GMono.ok_iff.2 ⟨?_, za8 1, by rw [zbj]; decide⟩
  have h3 : i = 0 \/ i = 1 \/ i = 2 := by omega
  rcases h3 with rfl | rfl | rfl <;> rfl
 ·exact zhs
theorem zrm (i : Int) : pqb 1 1 (zc1 i) := fun e => by
 unfold zc1
 split
 ·simp only [pc]
  rw [zbj]
  split
  ·exact ⟨1, by rw [Rat.add_zero]; exact (Rat.mkRat_self 1).symm, by decide⟩
  ·exact za5 (by rw [Rat.add_zero]; exact zje 1) (by omega)
 ·exact za5 (zje 1) (by omega)
theorem znz (v : Int) : PVal (zro v) /\ pqb 6 1700000 (zro v) := by
 have h0 : qb 6 36 (Rat.divInt (v % 5 - 2) 3) := za5 (zih (v % 5 - 2) 3 2 6 rfl (by omega)) (by omega)
 have p0 := zrl (Rat.divInt (v % 5 - 2) 3)
 have q0 := zij h0
 unfold zro
 simp only
 split
 ·have hv := zny (IntKind.i64.wrap (v.tdiv 10) % 3)
  have hq := zrm (IntKind.i64.wrap (v.tdiv 10) % 3)
  have hc : pqb 6 36 (zbt (numR v)) := zij (zlz v)
  have hm := zpg (zen hq hv) (zen hc (zd5 _)) (by omega)
  have l1 := zba hv
  have l2 := zba (zd5 (numR v))
  have h3 : (zc1 (IntKind.i64.wrap (v.tdiv 10) % 3)).length * ((zbt (numR v)).length * (1 * 36)) <= 216 * (216 * (1 * 36)) := Nat.mul_le_mul l1 (Nat.mul_le_mul_right _ l2)
  refine ⟨zb4 _ p0, fun e => za5 (zy9 q0 (fun e => za5 (hm e) h3) (zik _ _) (by omega) e) (by omega)⟩
 ·exact ⟨p0, fun e => za5 (q0 e) (by omega)⟩
theorem zza (v : Int) : Sp P F.bt [enc (rto (Rat.divInt (v % 5 - 2) 3))] (.pure (.sl (ens (pput [] ⟨0, 0, 0⟩ (Rat.divInt (v % 5 - 2) 3))))) := by
 have h0 : qb 6 36 (Rat.divInt (v % 5 - 2) 3) := za5 (zih (v % 5 - 2) 3 2 6 rfl (by omega)) (by omega)
 have := zg0 (rto (Rat.divInt (v % 5 - 2) 3)) ((z5h h0 (by omega)).mono (by omega))
 rwa [zbj] at this
theorem qm1 {B : Nat} {q : Rat} (h : qb 6 B q) (hB : B <= 6291456) : qm 1 q := by
 unfold qm
 rw [show mD 1 = 6 from rfl, show mB 1 = 6291456 from rfl]
 exact za5 h hB
theorem zjj {k : Int} (hk : 1 <= k /\ k <= 5) (v : Int) : (zfz k v).si k /\ (zfz k v).mb1 1 := by
 have h : k = 1 \/ k = 2 \/ k = 3 \/ k = 4 \/ k = 5 := by omega
 rcases h with rfl | rfl | rfl | rfl | rfl
 ·refine ⟨si1.2 ⟨rfl, rfl, rfl, rfl, rfl, za8 _⟩, ?_, fun e => zcl 1⟩
  show qm 1 (rto (numR v)).v
  rw [zbj]; exact qm1 (zlz v) (by omega)
 ·unfold zfz
  rw [if_neg (by omega), if_pos rfl]
  split
  ·exact ⟨zo2 (k := 2) (by omega), ze0 ..⟩
  ·exact ⟨si2.2 ⟨rfl, rfl, rfl, rfl, by show 0 <= v % 11; omega, by show v % 11 <= 1099511627776; omega, fun h => by cases h⟩, ze0 ..⟩
 ·have hq : qb 6 6 (Rat.divInt (v % 7) 6) := za5 (zih (v % 7) 6 1 6 rfl (by omega)) (by omega)
  refine ⟨si3.2 ⟨rfl, rfl, rfl, rfl, rfl, za8 _, ?_, ?_⟩, ?_, fun e => zcl 1⟩
  ·show 0 <= (rto (Rat.divInt (v % 7) 6)).v
   rw [zbj]; exact Rat.divInt_nonneg (by omega) (by omega)
  ·show (rto (Rat.divInt (v % 7) 6)).v <= 1
   rw [zbj, Rat.le_iff_sub_nonneg, show (1 : Rat) = Rat.divInt 6 6 from rfl, Rat.divInt_sub_divInt _ _ (by omega) (by omega)]
   exact Rat.divInt_nonneg (by omega) (by omega)
  ·show qm 1 (rto (Rat.divInt (v % 7) 6)).v
   rw [zbj]; exact qm1 hq (by omega)
 ·exact ⟨si4.2 ⟨rfl, rfl, rfl, rfl, rfl⟩, ze0 ..⟩
 ·refine ⟨si5.2 ⟨rfl, rfl, rfl, rfl, rfl, (znz v).1⟩, ?_, fun e => qm1 ((znz v).2 e) (by omega)⟩
  show qm 1 gr0.v
  rw [zhy]; exact zcl 1
theorem zWself (n : Nat) (h : n ≠ 0) : 4294967296 <= 4294967296 ^ n := Nat.le_self_pow h _
theorem znl (k : Int) (hk : 1 <= k /\ k <= 5) (v : Int) : Sp P F.aj [enc (⟨k, []⟩ : GRing), .int .i64 v] (.pure (enc (zfz k v))) := by
 have h : k = 1 \/ k = 2 \/ k = 3 \/ k = 4 \/ k = 5 := by omega
 rcases h with rfl | rfl | rfl | rfl | rfl
 ·refine Sp.vz c.aj fun _ => ?_
  simp [g.aj, go_sem]
  refine zab (zrt v) ?_
  simp [go_sem, zfz]
 ·refine Sp.vz c.aj fun _ => ?_
  simp [g.aj, go_sem]
  refine zab (zcq v 11 (by omega) (by omega)) ?_
  simp [go_sem]
  refine ⟨fun h => ?_, fun h => ?_⟩
  ·refine zab (zfp ⟨2, []⟩) ?_
   simp [go_sem, zfz, h]
  ·refine zab (zcq v 11 (by omega) (by omega)) ?_
   simp [go_sem, zfz, h, gr0]
 ·refine Sp.vz c.aj fun _ => ?_
  simp [g.aj, go_sem]
  refine zab (zcq v 7 (by omega) (by omega)) ?_
  simp [go_sem]
  refine zab (zgr (v % 7) 6 (by omega) (by omega) (by omega)) ?_
  simp [go_sem, zfz]
 ·refine Sp.vz c.aj fun _ => ?_
  simp [g.aj, go_sem]
  refine zab (zcq v 16 (by omega) (by omega)) ?_
  simp [go_sem, zfz]
  omega
 ·have e1 : IntKind.i64.wrap (v % 5 - 2) = v % 5 - 2 := i64w (by omega) (by omega)
  refine Sp.vz c.aj fun _ => ?_
  simp [g.aj, go_sem]
  refine zab (zcq v 5 (by omega) (by omega)) ?_
  simp [go_sem, e1]
  refine zab (zgr (v % 5 - 2) 3 (by omega) (by omega) (by omega)) ?_
  simp [go_sem]
  refine zab (zza v) ?_
  simp [go_sem]
  refine zab (zcq (IntKind.i64.wrap (v.tdiv 5)) 2 (by omega) (by omega)) ?_
  have h0 : qb 6 36 (Rat.divInt (v % 5 - 2) 3) := za5 (zih (v % 5 - 2) 3 2 6 rfl (by omega)) (by omega)
  have p0 := zrl (Rat.divInt (v % 5 - 2) 3)
  have q0 := zij h0
  simp [go_sem]
  refine ⟨fun h => ?_, fun h => ?_⟩
  ·refine zab (zcq (IntKind.i64.wrap (v.tdiv 10)) 3 (by omega) (by omega)) ?_
   simp [go_sem]
   have hv := zny (IntKind.i64.wrap (v.tdiv 10) % 3)
   have hq := zrm (IntKind.i64.wrap (v.tdiv 10) % 3)
   have hc : pqb 6 36 (zbt (numR v)) := zij (zlz v)
   have hm := zpg (zen hq hv) (zen hc (zd5 _)) (by omega)
   have l1 := zba hv
   have l2 := zba (zd5 (numR v))
   have h3 : (zc1 (IntKind.i64.wrap (v.tdiv 10) % 3)).length * ((zbt (numR v)).length * (1 * 36)) <= 216 * (216 * (1 * 36)) := Nat.mul_le_mul l1 (Nat.mul_le_mul_right _ l2)
   have big := zWself 1048576 (by omega)
   have hmv := zik (zc1 (IntKind.i64.wrap (v.tdiv 10) % 3)) (zbt (numR v))
   have s1 := zyu (zc1 (IntKind.i64.wrap (v.tdiv 10) % 3)) (rto (numR v)) 1 6 1 36 hv hq (by rw [zbj]; exact zlz v) (by omega) (by omega) (by omega) (by omega) (fun m hm => (zhp (n := 1) hq hv (by omega) (by omega) (by omega) m hm).mono (by omega)) ((z5h (zlz v) (by omega)).mono (by omega))
   have s2 := z1y (pput [] ⟨0, 0, 0⟩ (Rat.divInt (v % 5 - 2) 3)) (pmul (zc1 (IntKind.i64.wrap (v.tdiv 10) % 3)) (zbt (numR v))) 6 36 1679616 p0 hmv q0 (fun e => za5 (hm e) h3) (by omega) (by omega) (by omega)
   rw [zbj] at s1
   refine zab (zpk (IntKind.i64.wrap (v.tdiv 10) % 3)) ?_
   simp [go_sem]
   refine zab (zrt v) ?_
   simp [go_sem]
   refine zab s1 ?_
   simp [go_sem]
   refine zab s2 ?_
   simp [go_sem, zfz, zro, h]
  ·simp [go_sem, zfz, zro, h]
def zc2 (ks : List Int) (v : Int) (n : Nat) : List GW := (List.range n).map fun i => zfz (ks.getD i 0) (IntKind.i64.wrap (v + i))
def zji (r : GRing) (v : Int) : GW := if r.kind = 6 then .mk gr0 0 false 0 [] (zc2 r.parts v r.parts.length) else zfz r.kind v
theorem ztq (ks : List Int) (v : Int) (n : Nat) (h : n < ks.length) : zc2 ks v (n + 1) = zc2 ks v n ++ [zfz ks[n] (IntKind.i64.wrap (v + n))] := by
 unfold zc2
 rw [List.range_succ, List.map_append]
 simp [List.getElem?_eq_getElem h]
theorem zfe (ks : List Int) (v : Int) (n : Nat) : (zc2 ks v n).length = n := by simp [zc2]
theorem zw7 {r : GRing} (hr : r.ok = true) (v : Int) : (zji r v).chk r /\ (zji r v).mb 1 := by
 unfold zji
 by_cases h6 : r.kind = 6
 ·have hp := GRing.ok_parts hr h6
  have hs : ∀ i, (h : i < r.parts.length) -> (h' : i < (zc2 r.parts v r.parts.length).length) -> (zc2 r.parts v r.parts.length)[i].si r.parts[i] /\ (zc2 r.parts v r.parts.length)[i].mb1 1 := fun i h h' => by
   have e : (zc2 r.parts v r.parts.length)[i] = zfz r.parts[i] (IntKind.i64.wrap (v + i)) := by simp [zc2, List.getElem?_eq_getElem h]
   rw [e]; exact zjj (hp.2.2 _ (List.getElem_mem h)) _
  rw [if_pos h6]
  refine ⟨⟨hr, fun h => absurd h6 h, fun _ => ⟨zfe .., rfl, fun i h h' => (hs i h h').1⟩⟩, ⟨zit .., fun x hx => ?_⟩⟩
  obtain ⟨i, hi, rfl⟩ := List.mem_iff_getElem.1 hx
  have hi' : i < (zc2 r.parts v r.parts.length).length := hi
  exact (hs i (by rw [zfe] at hi'; exact hi') hi').2
 ·have hk := GRing.ok_kind hr h6
  have h := zjj ⟨hk.1, hk.2.1⟩ v
  rw [if_neg h6]
  refine ⟨⟨hr, fun _ => h.1, fun h' => absurd h' h6⟩, ⟨h.2, fun x hx => ?_⟩⟩
  rw [h.1.1] at hx; cases hx
theorem znm (r : GRing) (hr : r.ok = true) (v : Int) : Sp P F.aj [enc r, .int .i64 v] (.pure (enc (zji r v))) := by
 by_cases h6 : r.kind = 6
 rotate_left
 ·have hk := GRing.ok_kind hr h6
  have e : r = ⟨r.kind, []⟩ := by rw [<- hk.2.2]
  have := znl r.kind ⟨hk.1, hk.2.1⟩ v
  rw [<- e] at this
  rw [show zji r v = zfz r.kind v by unfold zji; rw [if_neg h6]]
  exact this
 ·have hp := GRing.ok_parts hr h6
  refine Sp.vz c.aj fun _ => ?_
  simp [g.aj, go_sem, h6]
  refine zah (S := fun k : Nat => mkSt [(1, .p (.int .i64 v)), (2, .ptr 2 0 0 0), (4, .ptr 4 0 0 0), (6, .ptr 6 0 0 0), (7, .p (.int .i64 k))]
    [(2, ⟨2, [.p (enc r)]⟩), (4, ⟨8, [.agg [.p (.bool false), .nil, .nil, .p (.int .i64 0), .p (.bool false), .p (.int .u64 0), .nil, .nil]]⟩),
     (6, ⟨8, [.agg [.p (.bool false), .nil, .nil, .p (.int .i64 0), .p (.bool false), .p (.int .u64 0), .nil, .own 5 0 0 k]]⟩), (5, ⟨8, avs (zc2 r.parts v k)⟩)])
   (I := fun k => k <= r.parts.length) (m := fun k => r.parts.length - k) 0
   ((Weak.nilCell (s0 := 6) (g0 := 0) (i := 7) (s := 77) (sz := 8) rfl).trans (Weak.to [1, 2, 4, 6, 7] [((2, 0), 2), ((4, 0), 4), ((6, 0), 6), ((77, 0), 5)] (by simp [go_sem, zc2, h6]))) (by omega) ?_
  rintro k h1 R hn' hr' hx
  have e1 := i64s k (by omega)
  simp [g.pm, mkSt, go_sem]
  refine ⟨fun hk => ?_, fun hk => hx _ _ ?_⟩
  ·refine zae hk ?_
   try simp [go_sem]
   have hc := znl r.parts[k] (hp.2.2 _ (List.getElem_mem hk)) (IntKind.i64.wrap (v + k))
   have hts := ztq r.parts v k hk
   have hlen := zfe r.parts v k
   refine zab hc ?_
   simp [go_sem, e1, hlen]
   exact ⟨by omega, hn' (k + 1) _ (Weak.to [1, 2, 4, 6, 7] [((2, 0), 2), ((4, 0), 4), ((6, 0), 6), ((80, 0), 5)] (by simp [go_sem, mkSt, hts, h6])) (by omega) (by omega)⟩
  ·have : k = r.parts.length := by omega
   subst this
   have hW : zji r v = .mk gr0 0 false 0 [] (zc2 r.parts v r.parts.length) := by unfold zji; rw [if_pos h6]
   have hT : (zc2 r.parts v r.parts.length).take r.parts.length = zc2 r.parts v r.parts.length := List.take_of_length_le (by rw [zfe]; omega)
   simp [go_sem, hW, hT, zfe, gr0]
end Go.Ab
namespace Go.Ab
open Enc (enc)
def zll (k : Int) : GRing := if k % 7 = 5 then ⟨6, [1, 2]⟩ else if k % 7 = 6 then ⟨6, [3, 4, 5]⟩ else ⟨k % 7 + 1, []⟩
theorem zu0 (k : Int) : (zll k).ok = true := by
 have h : k % 7 = 0 \/ k % 7 = 1 \/ k % 7 = 2 \/ k % 7 = 3 \/ k % 7 = 4 \/ k % 7 = 5 \/ k % 7 = 6 := by omega
 unfold zll
 rcases h with h | h | h | h | h | h | h <;> rw [h] <;> decide
theorem z6m (k : Int) : Sp P F.ji [.int .i64 k] (.pure (enc (zll k))) := by
 have e1 : IntKind.i64.wrap (k % 7 + 1) = k % 7 + 1 := i64w (by omega) (by omega)
 refine Sp.vz c.ji fun _ => ?_
 simp [g.ji, go_sem]
 refine zab (zcq k 7 (by omega) (by omega)) ?_
 simp [go_sem]
 refine ⟨fun h => by simp [zll, h, go_sem], fun h => ⟨fun h2 => by simp [zll, h, h2, go_sem], fun h2 => ?_⟩⟩
 have := zcq (k % 7) 7 (by omega) (by omega)
 rw [Int.emod_emod] at this
 refine zab this ?_
 simp [go_sem, zll, h, h2, e1]
theorem zzr {k : Int} (hk : 1 <= k /\ k <= 5) : (oneW k []).si k /\ (oneW k []).mb1 1 := by
 have h : k = 1 \/ k = 2 \/ k = 3 \/ k = 4 \/ k = 5 := by omega
 have hq : qm 1 (1 : Rat) := qm1 (zih 1 1 6 1 rfl (by decide)) (by omega)
 rcases h with rfl | rfl | rfl | rfl | rfl
 ·exact ⟨si1.2 ⟨rfl, rfl, rfl, rfl, rfl, za8 1⟩, by show qm 1 (rto 1).v; rw [zbj]; exact hq, fun e => zcl 1⟩
 ·exact ⟨si2.2 ⟨rfl, rfl, rfl, rfl, by decide, by decide, fun h => by cases h⟩, ze0 ..⟩
 ·refine ⟨si3.2 ⟨rfl, rfl, rfl, rfl, rfl, za8 1, ?_, ?_⟩, by show qm 1 (rto 1).v; rw [zbj]; exact hq, fun e => zcl 1⟩
  ·show 0 <= (rto 1).v
   rw [zbj]; decide
  ·show (rto 1).v <= 1
   rw [zbj]; exact Rat.le_refl
 ·exact ⟨si4.2 ⟨rfl, rfl, rfl, rfl, rfl⟩, ze0 ..⟩
 ·refine ⟨si5.2 ⟨rfl, rfl, rfl, rfl, rfl, zd5 1⟩, ?_, fun e => ?_⟩
  ·show qm 1 gr0.v
   rw [zhy]; exact zcl 1
  ·have h1 : pqb 6 6 (zbt 1) := zij (zih 1 1 6 1 rfl (by decide))
   exact qm1 (h1 e) (by omega)
theorem z3m {r : GRing} (hr : r.ok = true) : r.one.chk r /\ r.one.mb 1 := by
 unfold GRing.one
 rw [if_pos hr]
 by_cases h6 : r.kind = 6
 ·have hp := GRing.ok_parts hr h6
  rw [h6]
  have e : oneW 6 (r.parts.map fun k => oneW k []) = .mk gr0 0 false 0 [] (r.parts.map fun k => oneW k []) := rfl
  rw [e]
  have hs : ∀ i, (h : i < r.parts.length) -> (h' : i < (r.parts.map fun k => oneW k []).length) -> (r.parts.map fun k => oneW k [])[i].si r.parts[i] /\ (r.parts.map fun k => oneW k [])[i].mb1 1 := fun i h h' => by
   rw [List.getElem_map]; exact zzr (hp.2.2 _ (List.getElem_mem h))
  refine ⟨⟨hr, fun h => absurd h6 h, fun _ => ⟨List.length_map .., rfl, fun i h h' => (hs i h h').1⟩⟩, ⟨zit .., fun x hx => ?_⟩⟩
  obtain ⟨i, hi, rfl⟩ := List.mem_iff_getElem.1 hx
  have hi' : i < (r.parts.map fun k => oneW k []).length := hi
  exact (hs i (by rw [List.length_map] at hi'; exact hi') hi').2
 ·have hk := GRing.ok_kind hr h6
  have h := zzr ⟨hk.1, hk.2.1⟩
  rw [hk.2.2]
  exact ⟨⟨hr, fun _ => h.1, fun h' => absurd h' h6⟩, ⟨h.2, fun x hx => by rw [show (oneW r.kind ([].map fun k => oneW k [])).parts = [] from h.1.1] at hx; cases hx⟩⟩
def endM (r : GRing) (l : List Int) (i : Nat) (one : Int) : GW := if h : i < l.length then zji r l[i] else if (i : Int) = one then r.one else r.zero
theorem zui {r : GRing} (hr : r.ok = true) : r.zero.mb 0 := by
 unfold GRing.zero
 rw [if_pos hr]
 refine ⟨zit .., fun x hx => ?_⟩
 obtain ⟨k, _, rfl⟩ := List.mem_map.1 hx
 exact ze0 ..
theorem z5s (r : GRing) (hr : r.ok = true) (l : List Int) (i : Nat) (one : Int) : Sp P F.fe [enc r, .sl (ens l), .int .i64 i, .int .i64 one] (.pure (enc (endM r l i one))) := by
 refine Sp.vz c.fe fun _ => ?_
 simp [g.fe, go_sem]
 refine ⟨fun h => zae h ?_, fun h => ⟨fun h2 => ?_, fun h2 => ?_⟩⟩
 ·refine zab (znm r hr l[i]) ?_
  simp [go_sem, endM, h]
 ·refine zab (zzt r) ?_
  simp [go_sem, endM, h2, show ¬ i < l.length by omega]
 ·refine zab (zfp r) ?_
  simp [go_sem, endM, h2, show ¬ i < l.length by omega]
def mbM (r : GRing) (hr : r.ok = true) : Meas r where
 mb n w := w.mb n
 lim := 900
 mono h k := h.mono k
 zero := zui hr
 plus cv cw hv hw := zze cv cw hv hw
 times cv cw hv hw := z2a cv cw hv hw
 plusS := fun {v w n} hn cv cw hv hw => z3c r v w (max n 216) (hv.mono (by omega)) (hw.mono (by omega)) (by omega) (by omega) cv cw
 timesS := fun {v w n} hn cv cw hv hw => zyc r v w (max n 216) (hv.mono (by omega)) (hw.mono (by omega)) (by omega) (by omega) cv cw
end Go.Ab
namespace Go.Ab
open Enc (enc)
structure GModel where
 st : Int
 ini : List Int
 fin : List Int
 arcs : List Int
 em : Bool
instance : Enc GModel := ⟨fun x => .agg [.int .i64 x.st, .sl (ens x.ini), .sl (ens x.fin), .sl (ens x.arcs), .bool x.em], 5, by decide, fun _ => rfl⟩
@[go_sem] theorem yam (x : GModel) : enc x = .agg [.int .i64 x.st, .sl (ens x.ini), .sl (ens x.fin), .sl (ens x.arcs), .bool x.em] := rfl
@[go_sem] theorem z7v : Enc.sz GModel = 5 := rfl
def numN (m : GModel) (s : Int) : Int := 1 + IntKind.i64.wrap (m.st - 1) % s
def quoI (a b : Int) : Int := IntKind.i64.wrap (a.tdiv b)
def arcM (m : GModel) (r : GRing) (i o n a b c d : Int) : GTArc := ⟨a % n, if m.em = true then b % (i + 1) else 1 + b % i, if m.em = true then quoI b (i + 1) % (o + 1) else 1 + quoI b i % o, c % n, zji r d⟩
def zkn (m : GModel) (r : GRing) (i o n : Int) (k : Nat) : List GTArc := (List.range k).map fun j => arcM m r i o n (m.arcs.getD (4 * j) 0) (m.arcs.getD (4 * j + 1) 0) (m.arcs.getD (4 * j + 2) 0) (m.arcs.getD (4 * j + 3) 0)
def ze1 (r : GRing) (l : List Int) (one : Int) (k : Nat) : List GW := (List.range k).map fun j => endM r l j one
def zh9 (m : GModel) (r : GRing) (i o s : Int) : GTrans := ⟨r, i, o, numN m s, ze1 r m.ini 0 (numN m s).toNat, ze1 r m.fin (numN m s - 1) (numN m s).toNat, zkn m r i o (numN m s) (min 7 (m.arcs.length / 4))⟩
theorem zxh (r : GRing) (l : List Int) (one : Int) (k : Nat) : ze1 r l one (k + 1) = ze1 r l one k ++ [endM r l k one] := by
 unfold ze1; rw [List.range_succ, List.map_append]; rfl
theorem zee (r : GRing) (l : List Int) (one : Int) (k : Nat) : (ze1 r l one k).length = k := by simp [ze1]
theorem zi4 (m : GModel) (r : GRing) (i o n : Int) (k : Nat) : (zkn m r i o n k).length = k := by simp [zkn]
theorem zxw (m : GModel) (r : GRing) (i o n : Int) (k : Nat) (h : 4 * k + 3 < m.arcs.length) : zkn m r i o n (k + 1) = zkn m r i o n k ++ [arcM m r i o n m.arcs[4 * k] m.arcs[4 * k + 1] m.arcs[4 * k + 2] m.arcs[4 * k + 3]] := by
 unfold zkn
 rw [List.range_succ, List.map_append]
 simp [List.getElem?_eq_getElem (show 4 * k < m.arcs.length by omega), List.getElem?_eq_getElem (show 4 * k + 1 < m.arcs.length by omega), List.getElem?_eq_getElem (show 4 * k + 2 < m.arcs.length by omega), List.getElem?_eq_getElem h]
theorem z16 (m : GModel) (r : GRing) (i o s : Int) (hr : r.ok = true) (hi : 1 <= i /\ i <= 32) (ho : 1 <= o /\ o <= 32) (hs : 1 <= s /\ s <= 64) : Sp P F.jh [enc m, enc r, .int .i64 i, .int .i64 o, .int .i64 s] (.pure (enc (zh9 m r i o s))) := by
 have hn : 1 <= numN m s /\ numN m s <= s := by
  have h1 := Int.emod_nonneg (IntKind.i64.wrap (m.st - 1)) (show s ≠ 0 by omega)
  have h2 := Int.emod_lt_of_pos (IntKind.i64.wrap (m.st - 1)) (show 0 < s by omega)
  unfold numN; omega
 have e0 : IntKind.i64.wrap (1 + IntKind.i64.wrap (m.st - 1) % s) = numN m s := i64w (by unfold numN at hn; omega) (by unfold numN at hn; omega)
 have hT : zh9 m r i o s = ⟨r, i, o, numN m s, ze1 r m.ini 0 (numN m s).toNat, ze1 r m.fin (numN m s - 1) (numN m s).toNat, zkn m r i o (numN m s) (min 7 (m.arcs.length / 4))⟩ := rfl
 refine Sp.vz c.jh fun _ => ?_
 simp [g.jh, go_sem]
 refine zab (zcq (IntKind.i64.wrap (m.st - 1)) s (by omega) (by omega)) ?_
 simp [go_sem, e0]
 generalize numN m s = n at *
 obtain ⟨nn, rfl⟩ : ∃ nn : Nat, n = nn := ⟨n.toNat, by omega⟩
 have e5 : IntKind.i64.wrap ((nn : Int) - 1) = (nn : Int) - 1 := i64w (by omega) (by omega)
 refine zah (S := fun k : Nat => mkSt [(2, .p (.int .i64 i)), (3, .p (.int .i64 o)), (5, .ptr 5 0 0 0), (6, .ptr 6 0 0 0), (10, .ptr 10 0 0 0), (11, .p (.int .i64 nn)), (12, .ptr 12 0 0 0), (13, .p (.int .i64 k))]
   [(5, ⟨5, [.p (enc m)]⟩), (6, ⟨2, [.p (enc r)]⟩), (10, ⟨8, [.agg [.p (.int .i64 0), .nil, .p (.int .i64 0), .p (.int .i64 0), .p (.int .i64 0), .nil, .nil, .nil]]⟩),
    (12, ⟨8, [.agg [.p (.int .i64 r.kind), .p (.sl (ens r.parts)), .p (.int .i64 i), .p (.int .i64 o), .p (.int .i64 nn), .own 1 0 0 k, .own 2 0 0 k, .nil]]⟩), (1, ⟨8, avs (ze1 r m.ini 0 k)⟩), (2, ⟨8, avs (ze1 r m.fin (nn - 1) k)⟩)])
  (I := fun k => k <= nn) (m := fun k => nn - k) 0
  ((Weak.nilCell (s0 := 12) (g0 := 0) (i := 5) (s := 77) (sz := 8) rfl).trans ((Weak.nilCell (s0 := 12) (g0 := 0) (i := 6) (s := 78) (sz := 8) rfl).trans (Weak.to [2, 3, 5, 6, 10, 11, 12, 13] [((5, 0), 5), ((6, 0), 6), ((10, 0), 10), ((12, 0), 12), ((77, 0), 1), ((78, 0), 2)] (by simp [go_sem, ze1])))) (by omega) ?_
 rintro k h1 R hn' hr' hx
 have e1 := i64s k (by omega)
 simp [g.pb, mkSt, go_sem]
 refine ⟨fun hk => ?_, fun hk => hx _ _ ?_⟩
 ·refine zab (z5s r hr m.ini k 0) ?_
  simp [go_sem, e5, zee]
  refine ⟨by omega, ?_⟩
  refine zab (z5s r hr m.fin k (nn - 1)) ?_
  simp [go_sem, e1, zee]
  refine ⟨by omega, ?_⟩
  exact hn' (k + 1) _ (Weak.to [2, 3, 5, 6, 10, 11, 12, 13] [((5, 0), 5), ((6, 0), 6), ((10, 0), 10), ((12, 0), 12), ((40, 0), 1), ((52, 0), 2)] (by simp [go_sem, mkSt, zxh])) (by omega) (by omega)
 ·obtain rfl : nn = k := by omega
  simp [go_sem]
  generalize hJ : min 7 (m.arcs.length / 4) = J at *
  refine zah (S := fun j : Nat => mkSt [(2, .p (.int .i64 i)), (3, .p (.int .i64 o)), (5, .ptr 5 0 0 0), (6, .ptr 6 0 0 0), (10, .ptr 10 0 0 0), (11, .p (.int .i64 nn)), (12, .ptr 12 0 0 0), (14, .p (.int .i64 (4 * (j : Int))))]
    [(5, ⟨5, [.p (enc m)]⟩), (6, ⟨2, [.p (enc r)]⟩), (10, ⟨8, [.agg [.p (.int .i64 0), .nil, .p (.int .i64 0), .p (.int .i64 0), .p (.int .i64 0), .nil, .nil, .nil]]⟩),
     (12, ⟨8, [.agg [.p (.int .i64 r.kind), .p (.sl (ens r.parts)), .p (.int .i64 i), .p (.int .i64 o), .p (.int .i64 nn), .own 1 0 0 nn, .own 2 0 0 nn, .own 3 0 0 j]]⟩), (1, ⟨8, avs (ze1 r m.ini 0 nn)⟩), (2, ⟨8, avs (ze1 r m.fin (nn - 1) nn)⟩), (3, ⟨12, avs (zkn m r i o nn j)⟩)])
   (I := fun j => j <= J) (m := fun j => J - j) 0
   ((Weak.nilCell (s0 := 12) (g0 := 0) (i := 7) (s := 77) (sz := 12) rfl).trans (Weak.to [2, 3, 5, 6, 10, 11, 12, 14] [((5, 0), 5), ((6, 0), 6), ((10, 0), 10), ((12, 0), 12), ((1, 0), 1), ((2, 0), 2), ((77, 0), 3)] (by simp [go_sem, zkn]))) (by omega) ?_
  rintro j h2 R2 hn2 hr2 hx2
  have f1 : IntKind.i64.wrap (4 * (j : Int) + 1) = 4 * (j : Int) + 1 := i64w (by omega) (by omega)
  have f2 : IntKind.i64.wrap (4 * (j : Int) + 2) = 4 * (j : Int) + 2 := i64w (by omega) (by omega)
  have f3 : IntKind.i64.wrap (4 * (j : Int) + 3) = 4 * (j : Int) + 3 := i64w (by omega) (by omega)
  have f4 : IntKind.i64.wrap (4 * (j : Int) + 4) = 4 * ((j + 1 : Nat) : Int) := by rw [i64w (by omega) (by omega)]; omega
  have g0 : (4 * (j : Int)).toNat = 4 * j := by omega
  have g1 : (4 * (j : Int) + 1).toNat = 4 * j + 1 := by omega
  have g2 : (4 * (j : Int) + 2).toNat = 4 * j + 2 := by omega
  have g3 : (4 * (j : Int) + 3).toNat = 4 * j + 3 := by omega
  have p0 : 0 <= 4 * (j : Int) := by omega
  have p1 : 0 <= 4 * (j : Int) + 1 := by omega
  have p2 : 0 <= 4 * (j : Int) + 2 := by omega
  have p3 : 0 <= 4 * (j : Int) + 3 := by omega
  simp [g.pd, mkSt, go_sem, f3, f2, f1, g0, p0]
  refine ⟨fun a1 => ⟨fun a2 => ?_, fun a2 => hx2 _ _ ?_⟩, fun a1 => hx2 _ _ ?_⟩
  ·have hj : 4 * j + 3 < m.arcs.length := by omega
   have hsu := zxw m r i o nn j hj
   have hln := zi4 m r i o nn j
   refine zae (by omega) ?_
   refine zab (zcq m.arcs[4 * j] nn (by omega) (by omega)) ?_
   simp [go_sem, f2, g2, p2]
   refine zae (by omega) ?_
   refine zab (zcq m.arcs[4 * j + 2] nn (by omega) (by omega)) ?_
   simp [go_sem, f3, g3, p3]
   refine zae (by omega) ?_
   refine zab (znm r hr m.arcs[4 * j + 3]) ?_
   simp [go_sem, f1, g1, p1]
   refine zae (by omega) ?_
   refine zab (zcq m.arcs[4 * j + 1] i (by omega) (by omega)) ?_
   have b1 := Int.emod_nonneg m.arcs[4 * j + 1] (show i ≠ 0 by omega)
   have b2 := Int.emod_lt_of_pos m.arcs[4 * j + 1] (show 0 < i by omega)
   have w1 : IntKind.i64.wrap (1 + m.arcs[4 * j + 1] % i) = 1 + m.arcs[4 * j + 1] % i := i64w (by omega) (by omega)
   simp [go_sem, f1, g1, p1, w1]
   refine zae (by omega) ⟨by omega, ?_⟩
   refine zaa (zcq (quoI m.arcs[4 * j + 1] i) o (by omega) (by omega)) (by simp [go_sem, quoI]) ?_
   have c1 := Int.emod_nonneg (quoI m.arcs[4 * j + 1] i) (show o ≠ 0 by omega)
   have c2 := Int.emod_lt_of_pos (quoI m.arcs[4 * j + 1] i) (show 0 < o by omega)
   have w2 : IntKind.i64.wrap (1 + quoI m.arcs[4 * j + 1] i % o) = 1 + quoI m.arcs[4 * j + 1] i % o := i64w (by omega) (by omega)
   simp [go_sem, w2]
   refine ⟨fun hem => ?_, fun hem => ?_⟩
   ·have wi : IntKind.i64.wrap (i + 1) = i + 1 := i64w (by omega) (by omega)
    have wo : IntKind.i64.wrap (o + 1) = o + 1 := i64w (by omega) (by omega)
    simp [go_sem, f1, g1, p1, wi]
    refine zae (by omega) ?_
    refine zab (zcq m.arcs[4 * j + 1] (i + 1) (by omega) (by omega)) ?_
    simp [go_sem, f1, g1, p1, wi, wo]
    refine zae (by omega) ⟨by omega, ?_⟩
    refine zaa (zcq (quoI m.arcs[4 * j + 1] (i + 1)) (o + 1) (by omega) (by omega)) (by simp [go_sem, quoI]) ?_
    simp [go_sem, f4, hln]
    exact ⟨by omega, hn2 (j + 1) _ (Weak.to [2, 3, 5, 6, 10, 11, 12, 14] [((5, 0), 5), ((6, 0), 6), ((10, 0), 10), ((12, 0), 12), ((1, 0), 1), ((2, 0), 2), ((141, 0), 3)] (by simp [go_sem, mkSt, hsu, arcM, hem])) (by omega) (by omega)⟩
   ·simp [go_sem, f4, hln]
    exact ⟨by omega, hn2 (j + 1) _ (Weak.to [2, 3, 5, 6, 10, 11, 12, 14] [((5, 0), 5), ((6, 0), 6), ((10, 0), 10), ((12, 0), 12), ((1, 0), 1), ((2, 0), 2), ((141, 0), 3)] (by simp [go_sem, mkSt, hsu, arcM, hem])) (by omega) (by omega)⟩
  all_goals
   obtain rfl : j = J := by omega
   have t1 : (ze1 r m.ini 0 nn).take nn = ze1 r m.ini 0 nn := List.take_of_length_le (by rw [zee]; omega)
   have t2 : (ze1 r m.fin (nn - 1) nn).take nn = ze1 r m.fin (nn - 1) nn := List.take_of_length_le (by rw [zee]; omega)
   have t3 : (zkn m r i o nn j).take j = zkn m r i o nn j := List.take_of_length_le (by rw [zi4]; omega)
   simp [go_sem, hT, zee, zi4, t1, t2, t3]
end Go.Ab
