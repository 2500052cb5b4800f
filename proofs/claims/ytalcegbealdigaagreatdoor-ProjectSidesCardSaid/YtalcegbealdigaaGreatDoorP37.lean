/-
Proofs for the law ProjectSides of the seat, part 37 (texts X35 X36 X37 X38 Z1 Z2 Z3 Z4 Z5). Conditions: none.
-/
import Derived.Test.YtalcegbealdigaaGreatDoorP36
set_option maxRecDepth 100000
set_option maxHeartbeats 4000000
set_option linter.all false
namespace Go.Ab
open Enc (enc)
def inT (x : GTArc) (t : GTrans) : Prop := 0 ≤ x.f ∧ x.f < t.st ∧ 0 ≤ x.t ∧ x.t < t.st ∧ 0 ≤ x.i ∧ x.i ≤ t.i ∧ 0 ≤ x.o ∧ x.o ≤ t.o ∧ x.w.chk t.ring
structure GTrans.ok (t : GTrans) : Prop where
 ring : t.ring.ok = true
 i1 : 1 ≤ t.i ∧ t.i ≤ 32
 o1 : 1 ≤ t.o ∧ t.o ≤ 32
 st1 : 0 ≤ t.st
 st2 : t.st ≤ 64
 il : (t.ini.length : Int) = t.st
 fl : (t.fin.length : Int) = t.st
 al : t.arcs.length ≤ 2048
 arcs : ∀ x ∈ t.arcs, inT x t
 ini : ∀ w ∈ t.ini, w.chk t.ring
 fin : ∀ w ∈ t.fin, w.chk t.ring
noncomputable instance (x : GTArc) (a : GTrans) : Decidable (inT x a) := Classical.propDecidable _
noncomputable instance (a : GTrans) : Decidable a.ok := Classical.propDecidable _
structure GTrans.sm (a : GTrans) (n : Nat) : Prop where
 ini : ∀ w ∈ a.ini, w.sm n
 fin : ∀ w ∈ a.fin, w.sm n
 arcs : ∀ x ∈ a.arcs, x.w.sm n
theorem GTrans.sm.mono {a : GTrans} {m n : Nat} (h : a.sm m) (k : m ≤ n) : a.sm n := ⟨fun w hw => (h.ini w hw).mono k, fun w hw => (h.fin w hw).mono k, fun x hx => (h.arcs x hx).mono k⟩
theorem validT_sp (t : GTrans) (h : t.sm 1048576) (li : t.ini.length ≤ 1000000) (lf : t.fin.length ≤ 1000000) : Sp P F.transducer_Valid [enc t] (.pure (.bool (decide t.ok))) := by
 refine Sp.of_vm' c.transducer_Valid (by simp) fun _ => ?_
 simp [g.transducer_Valid, go_sem]
 refine callP_pure (validS_sp t.ring) rfl ?_
 cases hr : t.ring.ok
 ·simp [go_sem]; intro ok; rw [ok.ring] at hr; cases hr
 simp [go_sem]
 refine callP_pure (symbolsT_sp t.i) rfl ?_
 by_cases h1 : 1 ≤ t.i ∧ t.i ≤ 32
 rotate_left
 ·simp [go_sem, h1]; intro ok; exact h1 ok.i1
 simp [go_sem, h1]
 refine callP_pure (symbolsT_sp t.o) rfl ?_
 by_cases h2 : 1 ≤ t.o ∧ t.o ≤ 32
 rotate_left
 ·simp [go_sem, h2]; intro ok; exact h2 ok.o1
 simp [go_sem, h2]
 refine ⟨fun h3 ok => by have := ok.st1; omega, fun h3 => ⟨fun h4 ok => by have := ok.st2; omega, fun h4 => ⟨fun h5 ok => by have := ok.al; omega, fun h5 => ?_⟩⟩⟩
 refine vL_rule (S := fun k : Nat => mkSt [(1, .ptr 1 0 0 0), (38, .p (.sl (ens t.arcs))), (39, .p (.int .i64 t.arcs.length)), (40, .p (.int .i64 k))] [(1, ⟨8, [.p (enc t)]⟩)]) (I := fun k => k ≤ t.arcs.length ∧ ∀ i, (hi : i < t.arcs.length) -> i < k -> inT t.arcs[i] t) (m := fun k => t.arcs.length - k) 0
  (Weak.to [1, 38, 39, 40] [((1, 0), 1)] (by simp [go_sem])) ⟨by omega, fun i _ h0 => by omega⟩ ?_
 rintro k ⟨h6, h7⟩ R hn hr' hx
 have e1 : IntKind.i64.wrap ((k : Int) + 1) = ((k + 1 : Nat) : Int) := i64w (by omega) (by omega)
 simp [g.transducer_Valid_l1, mkSt, go_sem]
 refine ⟨fun hk => ?_, fun hk => hx _ _ ?_⟩
 ·refine atP_get hk ?_
  have hret : ¬ inT t.arcs[k] t -> ¬ t.ok := fun h ok => h (ok.arcs _ (List.getElem_mem hk))
  have hsw : t.arcs[k].w.sm 1048576 := h.arcs _ (List.getElem_mem hk)
  have hnext : inT t.arcs[k] t -> ∀ i, (hi : i < t.arcs.length) -> i < k + 1 -> inT t.arcs[i] t := fun hx i hi h0 => by
   by_cases hik : i < k
   ·exact h7 i hi hik
   ·have : i = k := by omega
    subst this; exact hx
  generalize t.arcs[k] = x at *
  refine ⟨fun h8 => hr' _ ?_, fun h8 => ⟨fun h9 => hr' _ ?_, fun h9 => ⟨fun h10 => hr' _ ?_, fun h10 => ⟨fun h11 => hr' _ ?_, fun h11 => ?_⟩⟩⟩⟩
  ·simp [go_sem]
   refine hret fun hT => ?_
   obtain ⟨a1, a2, a3, a4, a5, a6, a7, a8, a9⟩ := hT
   revert h8; (repeat' split) <;> omega
  ·simp [go_sem]
   refine hret fun hT => ?_
   obtain ⟨a1, a2, a3, a4, a5, a6, a7, a8, a9⟩ := hT
   revert h9; (repeat' split) <;> omega
  ·simp [go_sem]
   exact hret fun hT => by have := hT.2.2.2.2.2.1; omega
  ·simp [go_sem]
   exact hret fun hT => by have := hT.2.2.2.2.2.2.2.1; omega
  have h12 : 0 ≤ x.f ∧ 0 ≤ x.t ∧ 0 ≤ x.i ∧ 0 ≤ x.o := by revert h8; (repeat' split) <;> intro h8 <;> omega
  have h13 : x.f < t.st ∧ x.t < t.st := by revert h9; (repeat' split) <;> intro h9 <;> omega
  refine callP_pure (checkS_sp t.ring x.w hsw) (by simp [go_sem]) ?_
  by_cases hc : x.w.chk t.ring
  rotate_left
  ·simp [go_sem, hc]
   refine hr' _ ?_
   simp [go_sem]
   exact hret fun hT => hc hT.2.2.2.2.2.2.2.2
  simp [go_sem, hc, e1]
  exact hn (k + 1) _ (Weak.to [1, 38, 39, 40] [((1, 0), 1)] (by simp [mkSt, go_sem])) ⟨by omega, hnext ⟨h12.1, h13.1, h12.2.1, h13.2, h12.2.2.1, h10, h12.2.2.2, h11, hc⟩⟩ (by omega)
 ·simp [go_sem]
  have hall : ∀ x ∈ t.arcs, inT x t := fun x hx => by
   obtain ⟨i, hi, rfl⟩ := List.mem_iff_getElem.1 hx
   exact h7 i hi (by omega)
  refine callP_pure (weightsT_sp t.ring t.ini t.st h.ini (by omega)) (by simp [go_sem]) ?_
  by_cases h8 : (t.ini.length : Int) = t.st ∧ ∀ w ∈ t.ini, w.chk t.ring
  rotate_left
  ·rw [decide_eq_false h8]; simp [go_sem]
   intro ok; exact h8 ⟨ok.il, ok.ini⟩
  rw [decide_eq_true h8]; simp [go_sem]
  refine callP_pure (weightsT_sp t.ring t.fin t.st h.fin (by omega)) (by simp [go_sem]) ?_
  by_cases h9 : (t.fin.length : Int) = t.st ∧ ∀ w ∈ t.fin, w.chk t.ring
  rotate_left
  ·have : ¬ t.ok := fun ok => h9 ⟨ok.fl, ok.fin⟩
   rw [decide_eq_false h9, decide_eq_false this]; simp [go_sem]
  have ok : t.ok := ⟨hr, h1, h2, h3, h4, h8.1, h9.1, by omega, hall, h8.2, h9.2⟩
  rw [decide_eq_true h9, decide_eq_true ok]; simp [go_sem]
end Go.Ab
namespace Go.Ab
open Enc (enc)
def gtrans0 : GTrans := ⟨⟨0, []⟩, 0, 0, 0, [], [], []⟩
noncomputable def GTrans.nf (a : GTrans) : GTrans := ⟨a.ring, a.i, a.o, a.st, a.ini, a.fin, tidT a.ring a.arcs⟩
theorem normalT_sp (a : GTrans) (n : Nat) (hn : n ≤ 90) (hn1 : 3 ≤ n) (h : a.sm n) (hl : a.arcs.length ≤ 19) (li : a.ini.length ≤ 1000000) (lf : a.fin.length ≤ 1000000) :
  Sp P F.transducer_Normal [enc a] (.pure (.tup [enc (if a.ok then a.nf else gtrans0), .int .i64 (if a.ok then 0 else 4)])) := by
 refine Sp.of_vm' c.transducer_Normal (by simp) fun _ => ?_
 simp [g.transducer_Normal, go_sem]
 refine callP_pure (validT_sp a (h.mono (by omega)) li lf) (by simp [go_sem]) ?_
 by_cases ok : a.ok
 rotate_left
 ·rw [decide_eq_false ok, if_neg ok, if_neg ok]; simp [go_sem, gtrans0]
 rw [decide_eq_true ok, if_pos ok, if_pos ok]
 have i1 := ok.il; have i2 := ok.fl; have i3 := ok.st2
 simp [go_sem]
 refine callP_pure (clonep_int a.ring.parts (by have := ok_plen ok.ring; omega)) (by simp [go_sem]) ?_
 simp [go_sem]
 refine callP_pure (copyC_sp a.ring a.ini n hn hn1 ok.ring (by omega) h.ini ok.ini) (by simp [go_sem]) ?_
 simp [go_sem]
 refine callP_pure (copyC_sp a.ring a.fin n hn hn1 ok.ring (by omega) h.fin ok.fin) (by simp [go_sem]) ?_
 simp [go_sem]
 refine callP_pure (tidyT_sp a.ring a.arcs n hn hn1 hl fun x hx => ⟨h.arcs x hx, (ok.arcs x hx).2.2.2.2.2.2.2.2⟩) (by simp [go_sem]) ?_
 simp [go_sem, GTrans.nf]
end Go.Ab
namespace Go.Ab
open Enc (enc)
def labA (f : GTArc -> Int) (x : GTArc) : GArc := ⟨x.f, f x, x.t, x.w⟩
theorem labelled_sp (t : GTrans) (sy : Int) (fid : FuncId) (f : GTArc -> Int) (hf : ∀ x, Sp P fid [enc x] (.pure (.int .i64 (f x)))) (n : Nat) (hn : n ≤ 90) (hn1 : 3 ≤ n) (h : t.sm n) (hl : t.arcs.length ≤ 19) (li : t.ini.length ≤ 1000000) (lf : t.fin.length ≤ 1000000) {A : GAuto} (hA : A = ⟨t.ring, sy, t.st, t.ini, t.fin, t.arcs.map (labA f)⟩) {v : GAuto} {e : Int} (h0 : ¬ t.ok -> v = gauto0 ∧ e = 4) (h1 : t.ok -> v = (if A.vb then A.nf else gauto0) ∧ e = if A.vb then 0 else 4) :
  Sp P F.project_labelled [enc t, .int .i64 sy, .fn fid []] (.pure (.tup [enc v, .int .i64 e])) := by
 refine Sp.of_vm' c.project_labelled (by simp) fun _ => ?_
 simp [g.project_labelled, go_sem]
 refine callP_pure (validT_sp t (h.mono (by omega)) li lf) (by simp [go_sem]) ?_
 by_cases ok : t.ok
 rotate_left
 ·obtain ⟨rfl, rfl⟩ := h0 ok
  rw [decide_eq_false ok]; simp [go_sem, gauto0]
 rw [decide_eq_true ok]
 obtain ⟨rfl, rfl⟩ := h1 ok
 have smA : A.sm n := by
  subst hA
  refine ⟨h.ini, h.fin, fun x hx => ?_⟩
  obtain ⟨y, hy, rfl⟩ := List.mem_map.1 hx
  exact h.arcs y hy
 have hnA := normalA_sp A n hn hn1 smA (by subst hA; simpa using hl)
 generalize (if A.vb = true then A.nf else gauto0) = v0 at *
 generalize (if A.vb = true then (0 : Int) else 4) = e0 at *
 simp [go_sem]
 refine vL_rule (S := fun k : Nat => mkSt [(2, .p (.fn fid [])), (6, .ptr 1 0 0 0), (8, .ptr 2 0 0 0), (26, .p (.sl (ens t.arcs))), (27, .p (.int .i64 t.arcs.length)), (28, .p (.int .i64 k))]
   [(1, ⟨7, [.agg [.p (.int .i64 0), .nil, .p (.int .i64 0), .p (.int .i64 0), .nil, .nil, .nil]]⟩), (2, ⟨7, [.agg [.p (.int .i64 t.ring.kind), .p (.sl (ens t.ring.parts)), .p (.int .i64 sy), .p (.int .i64 t.st), .p (.sl (ens t.ini)), .p (.sl (ens t.fin)), .own 3 0 0 k]]⟩), (3, ⟨11, avs ((t.arcs.map (labA f)).take k)⟩)])
  (I := fun k => k ≤ t.arcs.length) (m := fun k => t.arcs.length - k) 0
  ((Weak.nilCell (s0 := 8) (g0 := 0) (i := 6) (s := 77) (sz := 11) rfl).trans (Weak.to [2, 6, 8, 26, 27, 28] [((6, 0), 1), ((8, 0), 2), ((77, 0), 3)] (by simp [go_sem]))) (by omega) ?_
 rintro k h6 R hn' hr hx
 have e1 : IntKind.i64.wrap ((k : Int) + 1) = ((k + 1 : Nat) : Int) := i64w (by omega) (by omega)
 simp [g.project_labelled_l1, mkSt, go_sem]
 refine ⟨fun hk => ?_, fun hk => hx _ _ ?_⟩
 ·refine atP_get hk ?_
  refine callP_pure (hf t.arcs[k]) (by simp [go_sem]) ?_
  have hts : avs ((t.arcs.map (labA f)).take (k + 1)) = avs ((t.arcs.map (labA f)).take k) ++ [.p (enc (labA f t.arcs[k]))] := by
   rw [List.take_succ_eq_append_getElem (by simpa using hk), avs_append]; simp [go_sem]
  simp [go_sem, e1]
  exact ⟨by omega, hn' (k + 1) _ (Weak.to [2, 6, 8, 26, 27, 28] [((1, 0), 1), ((2, 0), 2), ((45, 0), 3)] (by simp [mkSt, go_sem, hts, labA])) (by omega) (by omega)⟩
 ·have : k = t.arcs.length := by omega
  subst this
  have hts : (t.arcs.map (labA f)).take t.arcs.length = t.arcs.map (labA f) := List.take_of_length_le (by simp)
  subst hA
  simp [go_sem]
  refine callP_pure hnA (by simp [go_sem, hts]) ?_
  simp [go_sem]
theorem inK1_sp (x : GTArc) : Sp P F.project_Input_k1 [enc x] (.pure (.int .i64 x.i)) := by
 refine Sp.of_vm' c.project_Input_k1 (by simp) fun _ => ?_
 simp [g.project_Input_k1, go_sem]
theorem outK1_sp (x : GTArc) : Sp P F.project_Output_k1 [enc x] (.pure (.int .i64 x.o)) := by
 refine Sp.of_vm' c.project_Output_k1 (by simp) fun _ => ?_
 simp [g.project_Output_k1, go_sem]
noncomputable def sideV (t : GTrans) (A : GAuto) : GAuto := if t.ok then (if A.vb then A.nf else gauto0) else gauto0
noncomputable def sideE (t : GTrans) (A : GAuto) : Int := if t.ok then (if A.vb then 0 else 4) else 4
def GTrans.inA (t : GTrans) : GAuto := ⟨t.ring, t.i, t.st, t.ini, t.fin, t.arcs.map (labA GTArc.i)⟩
def GTrans.outA (t : GTrans) : GAuto := ⟨t.ring, t.o, t.st, t.ini, t.fin, t.arcs.map (labA GTArc.o)⟩
theorem inputP_sp (t : GTrans) (n : Nat) (hn : n ≤ 90) (hn1 : 3 ≤ n) (h : t.sm n) (hl : t.arcs.length ≤ 19) (li : t.ini.length ≤ 1000000) (lf : t.fin.length ≤ 1000000) :
  Sp P F.project_Input [enc t] (.pure (.tup [enc (sideV t t.inA), .int .i64 (sideE t t.inA)])) := by
 refine Sp.of_vm' c.project_Input (by simp) fun _ => ?_
 simp [g.project_Input, go_sem]
 refine callP_pure (labelled_sp t t.i F.project_Input_k1 GTArc.i inK1_sp n hn hn1 h hl li lf (A := t.inA) (v := sideV t t.inA) (e := sideE t t.inA) rfl (fun h => by simp [sideV, sideE, h]) (fun h => by simp [sideV, sideE, h])) (by simp [go_sem]) ?_
 simp [go_sem]
theorem outputP_sp (t : GTrans) (n : Nat) (hn : n ≤ 90) (hn1 : 3 ≤ n) (h : t.sm n) (hl : t.arcs.length ≤ 19) (li : t.ini.length ≤ 1000000) (lf : t.fin.length ≤ 1000000) :
  Sp P F.project_Output [enc t] (.pure (.tup [enc (sideV t t.outA), .int .i64 (sideE t t.outA)])) := by
 refine Sp.of_vm' c.project_Output (by simp) fun _ => ?_
 simp [g.project_Output, go_sem]
 refine callP_pure (labelled_sp t t.o F.project_Output_k1 GTArc.o outK1_sp n hn hn1 h hl li lf (A := t.outA) (v := sideV t t.outA) (e := sideE t t.outA) rfl (fun h => by simp [sideV, sideE, h]) (fun h => by simp [sideV, sideE, h])) (by simp [go_sem]) ?_
 simp [go_sem]
end Go.Ab
namespace Go.Ab
open Enc (enc)
def swT (x : GTArc) : GTArc := ⟨x.f, x.o, x.i, x.t, x.w⟩
def GTrans.inv (t : GTrans) : GTrans := ⟨t.ring, t.o, t.i, t.st, t.ini, t.fin, t.arcs.map swT⟩
noncomputable def trV (t : GTrans) : GTrans := if t.ok then t.nf else gtrans0
noncomputable def trE (t : GTrans) : Int := if t.ok then 0 else 4
theorem invertP_sp (t : GTrans) (n : Nat) (hn : n ≤ 90) (hn1 : 3 ≤ n) (h : t.sm n) (hl : t.arcs.length ≤ 19) (li : t.ini.length ≤ 1000000) (lf : t.fin.length ≤ 1000000) :
  Sp P F.project_Invert [enc t] (.pure (.tup [enc (trV t.inv), .int .i64 (trE t.inv)])) := by
 have smA : t.inv.sm n := by
  refine ⟨h.ini, h.fin, fun x hx => ?_⟩
  obtain ⟨y, hy, rfl⟩ := List.mem_map.1 hx
  exact h.arcs y hy
 have hnA := normalT_sp t.inv n hn hn1 smA (by simpa [GTrans.inv] using hl) li lf
 change Sp P F.transducer_Normal [enc t.inv] (.pure (.tup [enc (trV t.inv), .int .i64 (trE t.inv)])) at hnA
 generalize trV t.inv = v0 at *
 generalize trE t.inv = e0 at *
 refine Sp.of_vm' c.project_Invert (by simp) fun _ => ?_
 simp [g.project_Invert, go_sem]
 refine vL_rule (S := fun k : Nat => mkSt [(2, .ptr 1 0 0 0), (4, .ptr 2 0 0 0), (16, .p (.sl (ens t.arcs))), (17, .p (.int .i64 t.arcs.length)), (18, .p (.int .i64 k))]
   [(1, ⟨8, [.agg [.p (.int .i64 0), .nil, .p (.int .i64 0), .p (.int .i64 0), .p (.int .i64 0), .nil, .nil, .nil]]⟩), (2, ⟨8, [.agg [.p (.int .i64 t.ring.kind), .p (.sl (ens t.ring.parts)), .p (.int .i64 t.o), .p (.int .i64 t.i), .p (.int .i64 t.st), .p (.sl (ens t.ini)), .p (.sl (ens t.fin)), .own 3 0 0 k]]⟩), (3, ⟨12, avs ((t.arcs.map swT).take k)⟩)])
  (I := fun k => k ≤ t.arcs.length) (m := fun k => t.arcs.length - k) 0
  ((Weak.nilCell (s0 := 4) (g0 := 0) (i := 7) (s := 77) (sz := 12) rfl).trans (Weak.to [2, 4, 16, 17, 18] [((2, 0), 1), ((4, 0), 2), ((77, 0), 3)] (by simp [go_sem]))) (by omega) ?_
 rintro k h6 R hn' hr hx
 have e1 : IntKind.i64.wrap ((k : Int) + 1) = ((k + 1 : Nat) : Int) := i64w (by omega) (by omega)
 simp [g.project_Invert_l1, mkSt, go_sem]
 refine ⟨fun hk => ?_, fun hk => hx _ _ ?_⟩
 ·refine atP_get hk ?_
  have hts : avs ((t.arcs.map swT).take (k + 1)) = avs ((t.arcs.map swT).take k) ++ [.p (enc (swT t.arcs[k]))] := by
   rw [List.take_succ_eq_append_getElem (by simpa using hk), avs_append]; simp [go_sem]
  simp [go_sem, e1]
  exact ⟨by omega, hn' (k + 1) _ (Weak.to [2, 4, 16, 17, 18] [((1, 0), 1), ((2, 0), 2), ((32, 0), 3)] (by simp [mkSt, go_sem, hts, swT])) (by omega) (by omega)⟩
 ·have : k = t.arcs.length := by omega
  subst this
  have hts : (t.arcs.map swT).take t.arcs.length = t.arcs.map swT := List.take_of_length_le (by simp)
  simp [go_sem]
  refine callP_pure hnA (by simp [go_sem, hts, GTrans.inv]) ?_
  simp [go_sem]
def idT (x : GArc) : GTArc := ⟨x.f, x.l, x.l, x.t, x.w⟩
def GAuto.idt (a : GAuto) : GTrans := ⟨a.ring, a.sy, a.sy, a.st, a.ini, a.fin, a.arcs.map idT⟩
theorem identityP_sp (a : GAuto) (n : Nat) (hn : n ≤ 90) (hn1 : 3 ≤ n) (h : a.sm n) (hl : a.arcs.length ≤ 19) (li : a.ini.length ≤ 1000000) (lf : a.fin.length ≤ 1000000) :
  Sp P F.project_Identity [enc a] (.pure (.tup [enc (if a.vb then trV a.idt else gtrans0), .int .i64 (if a.vb then trE a.idt else 4)])) := by
 have smA : a.idt.sm n := by
  refine ⟨h.ini, h.fin, fun x hx => ?_⟩
  obtain ⟨y, hy, rfl⟩ := List.mem_map.1 hx
  exact h.arcs y hy
 have hnA := normalT_sp a.idt n hn hn1 smA (by simpa [GAuto.idt] using hl) li lf
 change Sp P F.transducer_Normal [enc a.idt] (.pure (.tup [enc (trV a.idt), .int .i64 (trE a.idt)])) at hnA
 generalize trV a.idt = v0 at *
 generalize trE a.idt = e0 at *
 refine Sp.of_vm' c.project_Identity (by simp) fun _ => ?_
 simp [g.project_Identity, go_sem]
 refine callP_pure (validA_sp a (h.mono (by omega))) (by simp [go_sem]) ?_
 cases hv : a.vb
 ·simp [go_sem, gtrans0]
 simp [go_sem]
 refine vL_rule (S := fun k : Nat => mkSt [(2, .ptr 1 0 0 0), (4, .ptr 2 0 0 0), (25, .p (.sl (ens a.arcs))), (26, .p (.int .i64 a.arcs.length)), (27, .p (.int .i64 k))]
   [(1, ⟨8, [.agg [.p (.int .i64 0), .nil, .p (.int .i64 0), .p (.int .i64 0), .p (.int .i64 0), .nil, .nil, .nil]]⟩), (2, ⟨8, [.agg [.p (.int .i64 a.ring.kind), .p (.sl (ens a.ring.parts)), .p (.int .i64 a.sy), .p (.int .i64 a.sy), .p (.int .i64 a.st), .p (.sl (ens a.ini)), .p (.sl (ens a.fin)), .own 3 0 0 k]]⟩), (3, ⟨12, avs ((a.arcs.map idT).take k)⟩)])
  (I := fun k => k ≤ a.arcs.length) (m := fun k => a.arcs.length - k) 0
  ((Weak.nilCell (s0 := 4) (g0 := 0) (i := 7) (s := 77) (sz := 12) rfl).trans (Weak.to [2, 4, 25, 26, 27] [((2, 0), 1), ((4, 0), 2), ((77, 0), 3)] (by simp [go_sem]))) (by omega) ?_
 rintro k h6 R hn' hr hx
 have e1 : IntKind.i64.wrap ((k : Int) + 1) = ((k + 1 : Nat) : Int) := i64w (by omega) (by omega)
 simp [g.project_Identity_l1, mkSt, go_sem]
 refine ⟨fun hk => ?_, fun hk => hx _ _ ?_⟩
 ·refine atP_get hk ?_
  have hts : avs ((a.arcs.map idT).take (k + 1)) = avs ((a.arcs.map idT).take k) ++ [.p (enc (idT a.arcs[k]))] := by
   rw [List.take_succ_eq_append_getElem (by simpa using hk), avs_append]; simp [go_sem]
  simp [go_sem, e1]
  exact ⟨by omega, hn' (k + 1) _ (Weak.to [2, 4, 25, 26, 27] [((1, 0), 1), ((2, 0), 2), ((45, 0), 3)] (by simp [mkSt, go_sem, hts, idT])) (by omega) (by omega)⟩
 ·have : k = a.arcs.length := by omega
  subst this
  have hts : (a.arcs.map idT).take a.arcs.length = a.arcs.map idT := List.take_of_length_le (by simp)
  simp [go_sem]
  refine callP_pure hnA (by simp [go_sem, hts, GAuto.idt]) ?_
  simp [go_sem]
end Go.Ab
namespace Go.Ab
open Enc (enc)
def cmp5 (v w : List Int) : Int := if v.length ≠ w.length then (if v.length < w.length then -1 else 1) else lexI v w
theorem lexI_drop {v w : List Int} {k : Nat} (h : k < v.length) (h' : k < w.length) : lexI (v.drop k) (w.drop k) = if v[k] < w[k] then -1 else if w[k] < v[k] then 1 else lexI (v.drop (k + 1)) (w.drop (k + 1)) := by
 rw [List.drop_eq_getElem_cons h, List.drop_eq_getElem_cons h']; rfl
theorem compare5_sp (v w : List Int) (hl : v.length ≤ 1000000000) : Sp P F.ref05_Compare [.sl (ens v), .sl (ens w)] (.pure (.int .i64 (cmp5 v w))) := by
 refine Sp.of_vm' c.ref05_Compare (by simp) fun _ => ?_
 by_cases hlen : v.length = w.length
 rotate_left
 ·have hne : ¬ (v.length : Int) = w.length := by omega
  simp [g.ref05_Compare, go_sem, hlen, cmp5]
  by_cases h : v.length < w.length
  ·simp [h]; intro h'; omega
  ·simp [h]; intro h'; omega
 have e0 : cmp5 v w = lexI v w := by simp [cmp5, hlen]
 rw [e0]
 simp [g.ref05_Compare, go_sem, hlen]
 refine vL_rule (S := fun k : Nat => mkSt [(0, .p (.sl (ens v))), (1, .p (.sl (ens w))), (5, .p (.int .i64 k))] []) (I := fun k => k ≤ v.length ∧ lexI v w = lexI (v.drop k) (w.drop k)) (m := fun k => v.length - k) 0
  (Weak.to [0, 1, 5] [] (by simp [go_sem])) ⟨by omega, by simp⟩ ?_
 rintro k ⟨h6, h7⟩ R hn' hr hx
 have e1 : IntKind.i64.wrap ((k : Int) + 1) = ((k + 1 : Nat) : Int) := i64w (by omega) (by omega)
 by_cases hk : k < v.length
 ·have hk' : k < w.length := by omega
  have hd := lexI_drop hk hk'
  simp [g.ref05_Compare_l1, mkSt, go_sem, hk, hk']
  refine atP_get hk ?_
  refine atP_get hk' ?_
  refine ⟨fun h8 => hr _ ?_, fun h8 => ?_⟩
  ·rw [if_pos h8] at hd
   simp [go_sem, h7, hd]
  refine atP_get hk ?_
  refine atP_get hk' ?_
  refine ⟨fun h9 => hr _ ?_, fun h9 => ?_⟩
  ·rw [if_neg (by omega), if_pos h9] at hd
   simp [go_sem, h7, hd]
  ·rw [if_neg (by omega), if_neg (by omega)] at hd
   rw [e1]
   exact hn' (k + 1) _ (Weak.to [0, 1, 5] [] (by simp [mkSt, go_sem])) ⟨by omega, by rw [h7, hd]⟩ (by omega)
 ·simp [g.ref05_Compare_l1, mkSt, go_sem, hk]
  refine hx _ _ ?_
  have : lexI v w = 0 := by
   rw [h7, List.drop_eq_nil_of_le (by omega)]; rfl
  simp [go_sem, this]
theorem alphabet5_sp (m : Int) : Sp P F.ref05_Alphabet [.int .i64 m] (.pure (.bool (decide (1 ≤ m ∧ m ≤ 32)))) := by
 refine Sp.of_vm' c.ref05_Alphabet (by simp) fun _ => ?_
 simp [g.ref05_Alphabet, go_sem]
 exact ⟨fun h _ => h, fun h h' => by omega⟩
theorem in6_sp (v lo hi : Int) : Sp P F.ref06_In [.int .i64 v, .int .i64 lo, .int .i64 hi] (.pure (.bool (decide (lo ≤ v ∧ v ≤ hi)))) := by
 refine Sp.of_vm' c.ref06_In (by simp) fun _ => ?_
 simp [g.ref06_In, go_sem]
 exact ⟨fun h _ => h, fun h h' => by omega⟩
theorem weights6_sp (r : GRing) (l : List GW) (m : Int) (hl : ∀ w ∈ l, w.sm 1048576) (hlen : l.length ≤ 1000000000) : Sp P F.ref06_Weights [enc r, .sl (ens l), .int .i64 m] (.pure (.bool (decide ((l.length : Int) = m ∧ ∀ w ∈ l, w.chk r)))) := by
 refine Sp.of_vm' c.ref06_Weights (by simp) fun _ => ?_
 by_cases hm : (l.length : Int) = m
 rotate_left
 ·simp [g.ref06_Weights, go_sem, hm]
 subst hm
 simp [g.ref06_Weights, go_sem]
 refine vL_rule (S := fun k : Nat => mkSt [(1, .p (.sl (ens l))), (2, .p (.int .i64 l.length)), (3, .ptr 1 0 0 0), (7, .p (.int .i64 k))] [(1, ⟨2, [.p (enc r)]⟩)]) (I := fun k => k ≤ l.length ∧ ∀ i, (hi : i < l.length) -> i < k -> l[i].chk r) (m := fun k => l.length - k) 0
  (Weak.to [1, 2, 3, 7] [((3, 0), 1)] (by simp [go_sem])) ⟨by omega, fun i _ h => by omega⟩ ?_
 rintro k ⟨h6, h7⟩ R hn' hr hx
 have e1 : IntKind.i64.wrap ((k : Int) + 1) = ((k + 1 : Nat) : Int) := i64w (by omega) (by omega)
 simp [g.ref06_Weights_l1, mkSt, go_sem]
 refine ⟨fun hk => ?_, fun hk => hx _ _ ?_⟩
 ·refine atP_get hk ?_
  try simp [go_sem]
  have hmem := List.getElem_mem hk
  refine callP_pure (check3_sp r l[k] (hl _ hmem)) (by simp [go_sem]) ?_
  by_cases hc : l[k].chk r
  ·simp [go_sem, hc, e1]
   refine hn' (k + 1) _ (Weak.to [1, 2, 3, 7] [((1, 0), 1)] (by simp [mkSt, go_sem])) ⟨by omega, fun i hi h0 => ?_⟩ (by omega)
   by_cases hik : i < k
   ·exact h7 i hi hik
   ·have : i = k := by omega
    subst this; exact hc
  ·simp [go_sem, hc]
   refine hr _ ?_
   simp [go_sem]
   exact ⟨_, hmem, hc⟩
 ·have : ∀ w ∈ l, w.chk r := fun x hx => by
   obtain ⟨i, hi, rfl⟩ := List.mem_iff_getElem.1 hx
   exact h7 i hi (by omega)
  simp [go_sem]
  exact this
theorem order6_sp (x y : GArc) : Sp P F.ref06_order [enc x, enc y] (.pure (.int .i64 (lexI x.key y.key))) := by
 refine Sp.of_vm' c.ref06_order (by simp) fun _ => ?_
 simp [g.ref06_order, go_sem]
 have k := compare5_sp x.key y.key (by simp [GArc.key])
 rw [show cmp5 x.key y.key = lexI x.key y.key from rfl] at k
 refine callP_pure k (by simp [go_sem, GArc.key]) ?_
 simp [go_sem]
theorem take6_sp (r : GRing) (l : List GW) (hl : ∀ w ∈ l, w.sm 1048576) (hlen : l.length ≤ 1000000) : Sp P F.ref06_take [enc r, .sl (ens l)] (.pure (.sl (ens (l.map fun w => w.tk r)))) := by
 refine Sp.of_vm' c.ref06_take (by simp) fun _ => ?_
 simp [g.ref06_take, go_sem]
 refine vL_rule (S := fun k : Nat => mkSt [(1, .p (.sl (ens l))), (2, .ptr 2 0 0 0), (5, .own 1 0 0 k), (6, .p (.int .i64 k))] [(2, ⟨2, [.p (enc r)]⟩), (1, ⟨8, avs ((l.map fun w => w.tk r).take k)⟩)]) (I := fun k => k ≤ l.length) (m := fun k => l.length - k) 0
  (Weak.nl 5 77 8 rfl (Weak.to [1, 2, 5, 6] [((2, 0), 2), ((77, 0), 1)] (by simp [go_sem]))) (by omega) ?_
 rintro k h1 R hn' hr hx
 have e3 : IntKind.i64.wrap ((k : Int) + 1) = ((k + 1 : Nat) : Int) := i64w (by omega) (by omega)
 simp [g.ref06_take_l1, mkSt, go_sem]
 refine ⟨fun hk => ?_, fun hk => hx _ _ ?_⟩
 ·refine atP_get hk ?_
  try simp [go_sem]
  refine callP_pure (take3_sp r l[k] (hl _ (List.getElem_mem hk))) (by simp [go_sem]) ?_
  have hts : avs ((l.map fun w => w.tk r).take (k + 1)) = avs ((l.map fun w => w.tk r).take k) ++ [.p (enc (l[k].tk r))] := by
   rw [List.take_succ_eq_append_getElem (by simpa using hk), avs_append]; simp [go_sem]
  simp [go_sem, e3]
  exact ⟨⟨by omega, by omega⟩, hn' (k + 1) _ (Weak.to [1, 2, 5, 6] [((2, 0), 2), ((21, 0), 1)] (by simp [mkSt, go_sem, hts])) (by omega) (by omega)⟩
 ·have : k = l.length := by omega
  subst this
  have hts : (l.map fun w => w.tk r).take l.length = l.map fun w => w.tk r := List.take_of_length_le (by simp)
  simp [go_sem, hts]
theorem ring6_sp (r : GRing) (hl : r.parts.length ≤ 1000000) : Sp P F.ref06_ring [enc r] (.pure (enc r)) := by
 refine Sp.of_vm' c.ref06_ring (by simp) fun _ => ?_
 simp [g.ref06_ring, go_sem]
 try omega
end Go.Ab
namespace Go.Ab
open Enc (enc)
theorem vb_false {a : GAuto} (h : ¬ a.ok) : a.vb = false := by
 cases hv : a.vb
 ·rfl
 ·exact absurd (GAuto.vb_iff.1 hv) h
theorem valid6_sp (a : GAuto) (h : a.sm 1048576) (li : a.ini.length ≤ 1000000) (lf : a.fin.length ≤ 1000000) : Sp P F.ref06_Valid [enc a] (.pure (.bool a.vb)) := by
 refine Sp.of_vm' c.ref06_Valid (by simp) fun _ => ?_
 simp [g.ref06_Valid, go_sem]
 refine callP_pure (valid3_sp a.ring) rfl ?_
 cases hr : a.ring.ok
 ·simp [go_sem]; exact vb_false fun ok => by rw [ok.ring] at hr; cases hr
 simp [go_sem]
 refine callP_pure (alphabet5_sp a.sy) rfl ?_
 by_cases h1 : 1 ≤ a.sy ∧ a.sy ≤ 32
 rotate_left
 ·rw [decide_eq_false h1]; simp [go_sem]; exact vb_false fun ok => h1 ⟨ok.sy1, ok.sy2⟩
 rw [decide_eq_true h1]; simp [go_sem]
 refine callP_pure (in6_sp a.st 0 64) rfl ?_
 by_cases h2 : 0 ≤ a.st ∧ a.st ≤ 64
 rotate_left
 ·rw [decide_eq_false h2]; simp [go_sem]; exact vb_false fun ok => h2 ⟨ok.st1, ok.st2⟩
 rw [decide_eq_true h2]; simp [go_sem]
 refine callP_pure (weights6_sp a.ring a.ini a.st h.ini (by omega)) (by simp [go_sem]) ?_
 by_cases h3 : (a.ini.length : Int) = a.st ∧ ∀ w ∈ a.ini, w.chk a.ring
 rotate_left
 ·rw [decide_eq_false h3]; simp [go_sem]; exact vb_false fun ok => h3 ⟨ok.il, ok.ini⟩
 rw [decide_eq_true h3]; simp [go_sem]
 refine callP_pure (weights6_sp a.ring a.fin a.st h.fin (by omega)) (by simp [go_sem]) ?_
 by_cases h4 : (a.fin.length : Int) = a.st ∧ ∀ w ∈ a.fin, w.chk a.ring
 rotate_left
 ·rw [decide_eq_false h4]; simp [go_sem]; exact vb_false fun ok => h4 ⟨ok.fl, ok.fin⟩
 rw [decide_eq_true h4]; simp [go_sem]
 refine ⟨fun h5 => vb_false fun ok => by have := ok.al; omega, fun h5 => ?_⟩
 refine vL_rule (S := fun k : Nat => mkSt [(1, .ptr 1 0 0 0), (3, .p (.int .i64 k))] [(1, ⟨7, [.p (enc a)]⟩)]) (I := fun k => k ≤ a.arcs.length ∧ ∀ i, (hi : i < a.arcs.length) -> i < k -> inA a.arcs[i] a) (m := fun k => a.arcs.length - k) 0
  (Weak.to [1, 3] [((1, 0), 1)] (by simp [go_sem])) ⟨by omega, fun i _ h0 => by omega⟩ ?_
 rintro k ⟨h6, h7⟩ R hn hr' hx
 have e1 : IntKind.i64.wrap ((k : Int) + 1) = ((k + 1 : Nat) : Int) := i64w (by omega) (by omega)
 have e2 : IntKind.i64.wrap (a.st - 1) = a.st - 1 := by
  by_cases hs : 1 ≤ a.st
  ·obtain ⟨m, hm⟩ := Int.eq_ofNat_of_zero_le (show 0 ≤ a.st - 1 by omega)
   rw [hm]; exact i64w (by omega) (by omega)
  ·have : a.st = 0 := by omega
   rw [this]; rfl
 simp [g.ref06_Valid_l1, mkSt, go_sem, e2]
 refine ⟨fun hk => ?_, fun hk => hx _ _ ?_⟩
 ·refine atP_get hk ?_
  have hret : ¬ inA a.arcs[k] a -> ¬ a.ok := fun h ok => h (ok.arcs _ (List.getElem_mem hk))
  have hsw : a.arcs[k].w.sm 1048576 := h.arcs _ (List.getElem_mem hk)
  have hnext : inA a.arcs[k] a -> ∀ i, (hi : i < a.arcs.length) -> i < k + 1 -> inA a.arcs[i] a := fun hx i hi h0 => by
   by_cases hik : i < k
   ·exact h7 i hi hik
   ·have : i = k := by omega
    subst this; exact hx
  generalize a.arcs[k] = x at *
  refine callP_pure (in6_sp x.f 0 (a.st - 1)) rfl ?_
  by_cases h8 : 0 ≤ x.f ∧ x.f ≤ a.st - 1
  rotate_left
  ·rw [decide_eq_false h8]; simp [go_sem]
   refine hr' _ ?_
   simp [go_sem]
   exact vb_false (hret fun hT => h8 ⟨hT.1, by have := hT.2.1; omega⟩)
  rw [decide_eq_true h8]; simp [go_sem, e2]
  refine callP_pure (in6_sp x.t 0 (a.st - 1)) rfl ?_
  by_cases h9 : 0 ≤ x.t ∧ x.t ≤ a.st - 1
  rotate_left
  ·rw [decide_eq_false h9]; simp [go_sem]
   refine hr' _ ?_
   simp [go_sem]
   exact vb_false (hret fun hT => h9 ⟨hT.2.2.1, by have := hT.2.2.2.1; omega⟩)
  rw [decide_eq_true h9]; simp [go_sem]
  refine callP_pure (in6_sp x.l 0 a.sy) rfl ?_
  by_cases h10 : 0 ≤ x.l ∧ x.l ≤ a.sy
  rotate_left
  ·rw [decide_eq_false h10]; simp [go_sem]
   refine hr' _ ?_
   simp [go_sem]
   exact vb_false (hret fun hT => h10 ⟨hT.2.2.2.2.1, hT.2.2.2.2.2.1⟩)
  rw [decide_eq_true h10]; simp [go_sem]
  refine callP_pure (check3_sp a.ring x.w hsw) (by simp [go_sem]) ?_
  by_cases hc : x.w.chk a.ring
  rotate_left
  ·simp [go_sem, hc]
   refine hr' _ ?_
   simp [go_sem]
   exact vb_false (hret fun hT => hc hT.2.2.2.2.2.2)
  simp [go_sem, hc, e1]
  exact hn (k + 1) _ (Weak.to [1, 3] [((1, 0), 1)] (by simp [mkSt, go_sem])) ⟨by omega, hnext ⟨h8.1, by omega, h9.1, by omega, h10.1, h10.2, hc⟩⟩ (by omega)
 ·have hall : ∀ x ∈ a.arcs, inA x a := fun x hx => by
   obtain ⟨i, hi, rfl⟩ := List.mem_iff_getElem.1 hx
   exact h7 i hi (by omega)
  have ok : a.ok := ⟨hr, h1.1, h1.2, h2.1, h2.2, h3.1, h4.1, by omega, hall, h3.2, h4.2⟩
  simp [go_sem, GAuto.vb_iff.2 ok]
end Go.Ab
namespace Go.Ab
open Enc (enc)
attribute [local go_sem] optOpd Opd.slots
section
variable {α : Type} {key : α -> List Int} {up : α -> α -> α} {nw : α -> α}
theorem insF_skip {B : List α} {x : α} : ∀ {A : List α}, (∀ a ∈ A, key a < key x) -> insF key up nw (A ++ B) x = A ++ insF key up nw B x
 | [], _ => rfl
 | a :: A, h => by
  rw [List.cons_append, List.cons_append, <- insF_skip (A := A) fun b hb => h b (by simp [hb])]
  simp [insF, h a (by simp)]
theorem insF_at {O : List α} {x : α} {k : Nat} (h : ∀ i, (hi : i < O.length) -> i < k -> key O[i] < key x) : insF key up nw O x = O.take k ++ insF key up nw (O.drop k) x := by
 have e := insF_skip (up := up) (nw := nw) (B := O.drop k) (x := x) (A := O.take k) fun a ha => by
  obtain ⟨i, hi, rfl⟩ := List.mem_iff_getElem.1 ha
  have hi' := hi
  rw [List.length_take] at hi'
  rw [List.getElem_take]
  exact h i (by omega) (by omega)
 rwa [List.take_append_drop] at e
theorem insF_end {O : List α} {x : α} (h : ∀ i, (hi : i < O.length) -> key O[i] < key x) : insF key up nw O x = O ++ [nw x] := by
 rw [insF_at (k := O.length) fun i hi _ => h i hi]; simp [insF]
theorem insF_eq {O : List α} {x : α} {k : Nat} (hk : k < O.length) (h : ∀ i, (hi : i < O.length) -> i < k -> key O[i] < key x) (he : key O[k] = key x) : insF key up nw O x = O.set k (up O[k] x) := by
 rw [insF_at h, List.drop_eq_getElem_cons hk]
 have : ¬ key O[k] < key x := by rw [he]; exact List.lt_irrefl _
 simp only [insF, if_neg this, if_pos he]
 rw [List.set_eq_take_append_cons_drop, if_pos hk]
theorem insF_new {O : List α} {x : α} {k : Nat} (hk : k < O.length) (h : ∀ i, (hi : i < O.length) -> i < k -> key O[i] < key x) (h1 : ¬ key O[k] < key x) (h2 : key O[k] ≠ key x) : insF key up nw O x = O.take k ++ nw x :: O.drop k := by
 rw [insF_at h, List.drop_eq_getElem_cons hk]
 simp [insF, h1, h2]
end
noncomputable def formA (r : GRing) (l : List GArc) : List GArc := (nfm GArc.key (upA r) id l).filter fun x => !decide (x.w = r.zero)
theorem formA_inv {r : GRing} {n : Nat} (hn1 : 1 ≤ n) {l : List GArc} (h : ∀ x ∈ l, x.w.sm n ∧ x.w.chk r) (k : Nat) (hk : k ≤ l.length) :
  (nfm GArc.key (upA r) id (l.take k)).length ≤ k ∧ ∀ x ∈ nfm GArc.key (upA r) id (l.take k), x.w.sm ((k + 1) * (n + 1)) ∧ x.w.chk r := by
 refine nfm_all (up := upA r) (nw := id) (Q := fun k x => x.w.sm ((k + 1) * (n + 1)) ∧ x.w.chk r) (fun k x hx => ⟨hx.1.mono (Nat.mul_le_mul_right _ (by omega)), hx.2⟩) (fun x hx => ⟨(h x hx).1.mono (by omega), (h x hx).2⟩) (fun k z x hx hz => ⟨?_, (plus_chk hz.2 (h x hx).2 : (r.plus z.w x.w).chk r)⟩) (fun k x hx => ⟨hx.1.mono (Nat.mul_le_mul_right _ (by omega)), hx.2⟩) k hk
 have := plus_sm hz.1 (h x hx).1 hz.2 (h x hx).2 (Nat.le_trans hn1 (by rw [Nat.add_mul]; omega)) hn1
 have e : (k + 1) * (n + 1) + n + 1 = (k + 1 + 1) * (n + 1) := by rw [Nat.add_mul (k + 1) 1]; omega
 rw [<- e]; exact this
theorem formA_tidA (r : GRing) (l : List GArc) : formA r l = tidA r l := by
 unfold formA tidA
 rw [(mrg_srt (up := upA r) (nw := id) (fun _ _ => rfl) (fun _ => rfl) l).1]
theorem arcs6_sp (r : GRing) (l : List GArc) (n : Nat) (hn : n ≤ 90) (hn1 : 3 ≤ n) (hl : l.length ≤ 19) (h : ∀ x ∈ l, x.w.sm n ∧ x.w.chk r) :
  Sp P F.ref06_Arcs [enc r, .sl (ens l)] (.pure (.sl (ens (formA r l)))) := by
 have inv := formA_inv (r := r) (n := n) (by omega) h
 refine Sp.of_vm' c.ref06_Arcs (by simp) fun _ => ?_
 simp [g.ref06_Arcs, go_sem]
 refine vL_rule (S := fun k : Nat => mkSt [(1, .p (.sl (ens l))), (2, .ptr 2 0 0 0), (5, .own 1 0 0 (nfm GArc.key (upA r) id (l.take k)).length), (6, .p (.int .i64 k))] [(2, ⟨2, [.p (enc r)]⟩), (1, ⟨11, avs (nfm GArc.key (upA r) id (l.take k))⟩)]) (I := fun k => k ≤ l.length) (m := fun k => l.length - k) 0
  (Weak.nl 5 77 11 rfl (Weak.to [1, 2, 5, 6] [((2, 0), 2), ((77, 0), 1)] (by simp [go_sem, nfm]))) (by omega) ?_
 rintro k h1 R hn' hr hx
 have e3 : IntKind.i64.wrap ((k : Int) + 1) = ((k + 1 : Nat) : Int) := i64w (by omega) (by omega)
 obtain ⟨iv1, iv2⟩ := inv k h1
 generalize hO : nfm GArc.key (upA r) id (l.take k) = O at *
 by_cases hk : k < l.length
 ·have hw := h _ (List.getElem_mem hk)
  have hnx := nfm_take_succ (key := GArc.key) (up := upA r) (nw := id) hk
  rw [hO] at hnx
  simp [g.ref06_Arcs_l2, mkSt, go_sem, hk]
  refine atP_get hk ?_
  try simp [go_sem]
  generalize l[k] = x at *
  refine callP_pure (take3_sp r x.w (hw.1.mono (by omega))) (by simp [go_sem]) ?_
  rw [tk_chk hw.2]
  simp [go_sem]
  refine vL_rule (S := fun i : Nat => mkSt [(1, .p (.sl (ens l))), (2, .ptr 2 0 0 0), (5, .own 1 0 0 O.length), (6, .p (.int .i64 k)), (7, .ptr 3 0 0 0), (8, .p (.int .i64 i))] [(2, ⟨2, [.p (enc r)]⟩), (1, ⟨11, avs O⟩), (3, ⟨11, [.p (enc x)]⟩)]) (I := fun i => i ≤ O.length ∧ ∀ j, (hj : j < O.length) -> j < i -> O[j].key < x.key) (m := fun i => O.length - i) 0
   (Weak.to [1, 2, 5, 6, 7, 8] [((2, 0), 2), ((1, 0), 1), ((7, 0), 3)] (by simp [go_sem])) ⟨by omega, fun j _ hj => by omega⟩ ?_
  rintro i ⟨j1, j2⟩ R2 hn2 hr2 hx2
  have e4 : IntKind.i64.wrap ((i : Int) + 1) = ((i + 1 : Nat) : Int) := i64w (by omega) (by omega)
  by_cases hi : i < O.length
  ·simp [g.ref06_Arcs_l1, mkSt, go_sem, hi]
   refine atP_get hi ?_
   refine callP_pure (order6_sp O[i] x) (by simp [go_sem]) ?_
   have hlt : lexI O[i].key x.key < 0 ↔ O[i].key < x.key := lexI_lt (by simp [GArc.key])
   have hle : lexI O[i].key x.key = 0 ↔ O[i].key = x.key := lexI_eq (by simp [GArc.key])
   simp [go_sem]
   refine ⟨fun h8 => ?_, fun h8 => hx2 _ _ ?_⟩
   ·rw [e4]
    refine hn2 (i + 1) _ (Weak.to [1, 2, 5, 6, 7, 8] [((2, 0), 2), ((1, 0), 1), ((3, 0), 3)] (by simp [mkSt, go_sem])) ⟨by omega, fun j hj h0 => ?_⟩ (by omega)
    by_cases hji : j < i
    ·exact j2 j hj hji
    ·have : j = i := by omega
     subst this; exact hlt.1 h8
   ·simp [go_sem, hi]
    refine atP_get hi ?_
    refine callP_pure (order6_sp O[i] x) (by simp [go_sem]) ?_
    simp [go_sem]
    refine ⟨fun h0 => ?_, fun h0 => ?_⟩
    ·rw [insF_eq hi j2 (hle.1 h0)] at hnx
     have hz := iv2 _ (List.getElem_mem hi)
     have hb2 : (k + 1) * (n + 1) ≤ 2000 := by
      have := Nat.mul_le_mul (show k + 1 ≤ 20 by omega) (show n + 1 ≤ 91 by omega)
      omega
     have hb3 : n ≤ (k + 1) * (n + 1) := by rw [Nat.add_mul]; omega
     refine ⟨hi, atP_get hi ?_⟩
     refine callP_pure (plus3_sp r O[i].w x.w _ hz.1 (hw.1.mono hb3) hb2 (by omega) hz.2 hw.2) (by simp [go_sem]) ?_
     simp [go_sem, e3, hi]
     refine atP_get hi ?_
     refine hn' (k + 1) _ (Weak.to [1, 2, 5, 6] [((2, 0), 2), ((1, 0), 1)] ?_) (by omega) (by omega)
     rw [hnx]
     simp [mkSt, go_sem, upA]
    ·rw [insF_new hi j2 (fun h => by have := hlt.2 h; omega) (fun h => h0 (hle.2 h))] at hnx
     have hO2 : O.length ≤ 19 := by omega
     have hm : min i O.length = i := by omega
     rw [hm]
     refine ⟨by omega, ⟨by omega, by omega⟩, by omega, by omega, ⟨by omega, by omega⟩, ?_⟩
     rw [e3]
     have hlen : i + 1 + (O.length - i) = O.length + 1 := by omega
     refine hn' (k + 1) _ (Weak.to [1, 2, 5, 6] [((2, 0), 2), ((77, 0), 1)] ?_) (by omega) (by omega)
     rw [hnx]
     simp [mkSt, go_sem, hlen]
     exact ⟨by omega, by rw [List.take_of_length_le (by simp)]⟩
  ·have : i = O.length := by omega
   subst this
   rw [insF_end fun j hj => j2 j hj hj] at hnx
   simp [g.ref06_Arcs_l1, mkSt, go_sem]
   refine hx2 _ _ ?_
   simp [go_sem]
   rw [e3]
   refine ⟨by omega, by omega, hn' (k + 1) _ (Weak.to [1, 2, 5, 6] [((2, 0), 2), ((77, 0), 1)] ?_) (by omega) (by omega)⟩
   rw [hnx]
   simp [mkSt, go_sem]
 ·have : k = l.length := by omega
  subst this
  rw [List.take_of_length_le (Nat.le_refl _)] at hO
  have hf : formA r l = O.filter fun x => !decide (x.w = r.zero) := by rw [<- hO]; rfl
  have hb2 : (l.length + 1) * (n + 1) ≤ 1048576 := by
   have := Nat.mul_le_mul (show l.length + 1 ≤ 20 by omega) (show n + 1 ≤ 91 by omega)
   omega
  simp [g.ref06_Arcs_l2, mkSt, go_sem]
  refine hx _ _ ?_
  simp [go_sem]
  rw [hf]
  clear hx hr hn'
  refine vL_rule (S := fun j : Nat => mkSt [(2, .ptr 2 0 0 0), (5, .own 1 0 0 O.length), (9, .own 3 0 0 ((O.take j).filter fun x => !decide (x.w = r.zero)).length), (10, .p (.int .i64 j))] [(2, ⟨2, [.p (enc r)]⟩), (1, ⟨11, avs O⟩), (3, ⟨11, avs ((O.take j).filter fun x => !decide (x.w = r.zero))⟩)]) (I := fun j => j ≤ O.length) (m := fun j => O.length - j) 0
   (Weak.nl 9 78 11 rfl (Weak.to [2, 5, 9, 10] [((2, 0), 2), ((1, 0), 1), ((78, 0), 3)] (by simp [go_sem]))) (by omega) ?_
  rintro j j1 R hn' hr hx
  have e4 : IntKind.i64.wrap ((j : Int) + 1) = ((j + 1 : Nat) : Int) := i64w (by omega) (by omega)
  by_cases hj : j < O.length
  ·have hlj : ((O.take j).filter fun x => !decide (x.w = r.zero)).length ≤ j := Nat.le_trans (List.length_filter_le _ _) (by rw [List.length_take]; omega)
   have hts : (O.take (j + 1)).filter (fun x => !decide (x.w = r.zero)) = (O.take j).filter (fun x => !decide (x.w = r.zero)) ++ if O[j].w = r.zero then [] else [O[j]] := by
    rw [List.take_succ_eq_append_getElem hj, List.filter_append]; by_cases hz : O[j].w = r.zero <;> simp [hz]
   generalize hT : (O.take j).filter (fun x => !decide (x.w = r.zero)) = T at *
   have hz := iv2 _ (List.getElem_mem hj)
   simp [g.ref06_Arcs_l3, mkSt, go_sem, hj]
   refine atP_get hj ?_
   refine callP_pure (isZero3_sp r O[j].w (hz.1.mono hb2)) (by simp [go_sem]) ?_
   by_cases h0 : O[j].w = r.zero
   ·rw [decide_eq_true h0]; simp [go_sem, e4]
    rw [if_pos h0] at hts
    refine hn' (j + 1) _ (Weak.to [2, 5, 9, 10] [((2, 0), 2), ((1, 0), 1), ((3, 0), 3)] ?_) (by omega) (by omega)
    rw [hts]
    simp [mkSt, go_sem]
   ·rw [decide_eq_false h0]; simp [go_sem, hj]
    rw [if_neg h0] at hts
    refine atP_get hj ?_
    rw [e4]
    refine ⟨by omega, hn' (j + 1) _ (Weak.to [2, 5, 9, 10] [((2, 0), 2), ((1, 0), 1), ((98, 0), 3)] ?_) (by omega) (by omega)⟩
    rw [hts]
    simp [mkSt, go_sem]
  ·have : j = O.length := by omega
   subst this
   simp [g.ref06_Arcs_l3, mkSt, go_sem]
   refine hx _ _ ?_
   simp [go_sem]
end Go.Ab
namespace Go.Ab
open Enc (enc)
attribute [local go_sem] optOpd Opd.slots
theorem tk_id {r : GRing} {l : List GW} (h : ∀ w ∈ l, w.chk r) : (l.map fun w => w.tk r) = l := by
 have : (l.map fun w => w.tk r) = l.map id := List.map_congr_left fun w hw => tk_chk (h w hw)
 rw [this, List.map_id]
theorem form6_sp (a : GAuto) (n : Nat) (hn : n ≤ 90) (hn1 : 3 ≤ n) (h : a.sm n) (hl : a.arcs.length ≤ 19) (hp : a.ring.parts.length ≤ 1000000) (li : a.ini.length ≤ 1000000) (lf : a.fin.length ≤ 1000000)
  (ci : ∀ w ∈ a.ini, w.chk a.ring) (cf : ∀ w ∈ a.fin, w.chk a.ring) (ca : ∀ x ∈ a.arcs, x.w.chk a.ring) :
  Sp P F.ref06_Form [enc a] (.pure (enc a.nf)) := by
 have k1 := take6_sp a.ring a.ini (fun w hw => (h.ini w hw).mono (by omega)) li
 have k2 := take6_sp a.ring a.fin (fun w hw => (h.fin w hw).mono (by omega)) lf
 rw [tk_id ci] at k1
 rw [tk_id cf] at k2
 have k3 := arcs6_sp a.ring a.arcs n hn hn1 hl fun x hx => ⟨h.arcs x hx, ca x hx⟩
 rw [formA_tidA] at k3
 refine Sp.of_vm' c.ref06_Form (by simp) fun _ => ?_
 simp [g.ref06_Form, go_sem]
 refine callP_pure (ring6_sp a.ring hp) (by simp [go_sem]) ?_
 simp [go_sem]
 refine callP_pure k1 (by simp [go_sem]) ?_
 simp [go_sem]
 refine callP_pure k2 (by simp [go_sem]) ?_
 simp [go_sem]
 refine callP_pure k3 (by simp [go_sem]) ?_
 simp [go_sem, GAuto.nf]
noncomputable instance : DecidableEq GArc := fun _ _ => Classical.propDecidable _
noncomputable instance : DecidableEq GTArc := fun _ _ => Classical.propDecidable _
noncomputable instance : DecidableEq GAuto := fun _ _ => Classical.propDecidable _
noncomputable instance : DecidableEq GTrans := fun _ _ => Classical.propDecidable _
theorem arc_ext {x y : GArc} : x = y ↔ x.key = y.key ∧ x.w = y.w := by
 cases x; cases y; simp [GArc.key, and_assoc]
theorem tarc_ext {x y : GTArc} : x = y ↔ x.key = y.key ∧ x.w = y.w := by
 cases x; cases y; simp [GTArc.key, and_assoc]
theorem same6_sp (a b : GAuto) (h : a.sm 1048576) (li : a.ini.length ≤ 1000000) (lf : a.fin.length ≤ 1000000) (la : a.arcs.length ≤ 1000000) :
  Sp P F.ref06_Same [enc a, enc b] (.pure (.bool (decide (a = b)))) := by
 refine Sp.of_vm' c.ref06_Same (by simp) fun _ => ?_
 simp [g.ref06_Same, go_sem]
 refine callP_pure (same3_sp a.ring b.ring) (by simp [go_sem]) ?_
 by_cases h1 : a.ring = b.ring
 rotate_left
 ·rw [decide_eq_false h1]; simp [go_sem]; exact fun h => h1 (by rw [h])
 rw [decide_eq_true h1]; simp [go_sem]
 by_cases h2 : a.sy = b.sy
 rotate_left
 ·simp [h2]; exact fun h => h2 (by rw [h])
 by_cases h3 : a.st = b.st
 rotate_left
 ·simp [h2, h3]; exact fun h => h3 (by rw [h])
 simp [h2, h3]
 refine callP_pure (sameList3_sp a.ini b.ini (by omega) h.ini) (by simp [go_sem]) ?_
 by_cases h4 : a.ini = b.ini
 rotate_left
 ·rw [decide_eq_false h4]; simp [go_sem]; exact fun h => h4 (by rw [h])
 rw [decide_eq_true h4]; simp [go_sem]
 refine callP_pure (sameList3_sp a.fin b.fin (by omega) h.fin) (by simp [go_sem]) ?_
 by_cases h5 : a.fin = b.fin
 rotate_left
 ·rw [decide_eq_false h5]; simp [go_sem]; exact fun h => h5 (by rw [h])
 rw [decide_eq_true h5]; simp [go_sem]
 by_cases h6 : a.arcs.length = b.arcs.length
 rotate_left
 ·have : ¬ (a.arcs.length : Int) = b.arcs.length := by omega
  simp [this]; exact fun h => h6 (by rw [h])
 simp [h6]
 refine vL_rule (S := fun k : Nat => mkSt [(2, .ptr 1 0 0 0), (3, .ptr 2 0 0 0), (5, .p (.int .i64 k))] [(1, ⟨7, [.p (enc a)]⟩), (2, ⟨7, [.p (enc b)]⟩)]) (I := fun k => k ≤ a.arcs.length ∧ a.arcs.take k = b.arcs.take k) (m := fun k => a.arcs.length - k) 0
  (Weak.to [2, 3, 5] [((2, 0), 1), ((3, 0), 2)] (by simp [go_sem, h2, h3])) ⟨by omega, by simp⟩ ?_
 rintro k ⟨h7, h8⟩ R hn hr' hx
 have e1 : IntKind.i64.wrap ((k : Int) + 1) = ((k + 1 : Nat) : Int) := i64w (by omega) (by omega)
 by_cases hk : k < a.arcs.length
 ·have hk' : k < b.arcs.length := by omega
  have hmem : a.arcs[k].w.sm 1048576 := h.arcs _ (List.getElem_mem hk)
  have hne : a.arcs[k] ≠ b.arcs[k] -> a ≠ b := fun h1 h2 => by subst h2; exact h1 rfl
  have htk : a.arcs[k] = b.arcs[k] -> a.arcs.take (k + 1) = b.arcs.take (k + 1) := fun h1 => by
   rw [List.take_succ_eq_append_getElem hk, List.take_succ_eq_append_getElem hk', h8, h1]
  simp [g.ref06_Same_l1, mkSt, go_sem, hk, hk']
  refine atP_get hk ?_
  refine atP_get hk' ?_
  have hle : lexI a.arcs[k].key b.arcs[k].key = 0 ↔ a.arcs[k].key = b.arcs[k].key := lexI_eq (by simp [GArc.key])
  refine callP_pure (order6_sp a.arcs[k] b.arcs[k]) (by simp [go_sem]) ?_
  simp [go_sem]
  refine ⟨fun h9 => ?_, fun h9 => hr' _ ?_⟩
  ·refine atP_get hk ?_
   refine atP_get hk' ?_
   refine callP_pure (equal3_sp a.arcs[k].w hmem b.arcs[k].w) (by simp [go_sem]) ?_
   by_cases h10 : a.arcs[k].w = b.arcs[k].w
   ·rw [decide_eq_true h10]; simp [go_sem, e1]
    exact hn (k + 1) _ (Weak.to [2, 3, 5] [((1, 0), 1), ((2, 0), 2)] (by simp [mkSt, go_sem])) ⟨by omega, htk (arc_ext.2 ⟨hle.1 h9, h10⟩)⟩ (by omega)
   ·rw [decide_eq_false h10]; simp [go_sem]
    refine hr' _ ?_
    simp [go_sem]
    exact hne fun h => h10 (by rw [h])
  ·simp [go_sem]
   exact hne fun h => h9 (hle.2 (by rw [h]))
 ·simp [g.ref06_Same_l1, mkSt, go_sem, hk]
  refine hx _ _ ?_
  have hall : a.arcs = b.arcs := by
   rw [List.take_of_length_le (by omega), List.take_of_length_le (by omega)] at h8; exact h8
  have : a = b := by cases a; cases b; simp_all
  simp [go_sem, this]
end Go.Ab
namespace Go.Ab
open Enc (enc)
attribute [local go_sem] optOpd Opd.slots
theorem order17_sp (x y : GTArc) : Sp P F.ref17_order [enc x, enc y] (.pure (.int .i64 (lexI x.key y.key))) := by
 refine Sp.of_vm' c.ref17_order (by simp) fun _ => ?_
 simp [g.ref17_order, go_sem]
 have k := compare5_sp x.key y.key (by simp [GTArc.key])
 rw [show cmp5 x.key y.key = lexI x.key y.key from rfl] at k
 refine callP_pure k (by simp [go_sem, GTArc.key]) ?_
 simp [go_sem]
theorem valid17_sp (a : GTrans) (h : a.sm 1048576) (li : a.ini.length ≤ 1000000) (lf : a.fin.length ≤ 1000000) : Sp P F.ref17_Valid [enc a] (.pure (.bool (decide a.ok))) := by
 refine Sp.of_vm' c.ref17_Valid (by simp) fun _ => ?_
 simp [g.ref17_Valid, go_sem]
 refine callP_pure (valid3_sp a.ring) rfl ?_
 cases hr : a.ring.ok
 ·simp [go_sem]; exact fun ok => by rw [ok.ring] at hr; cases hr
 simp [go_sem]
 refine callP_pure (alphabet5_sp a.i) rfl ?_
 by_cases h1 : 1 ≤ a.i ∧ a.i ≤ 32
 rotate_left
 ·rw [decide_eq_false h1]; simp [go_sem]; exact fun ok => h1 ok.i1
 rw [decide_eq_true h1]; simp [go_sem]
 refine callP_pure (alphabet5_sp a.o) rfl ?_
 by_cases h0 : 1 ≤ a.o ∧ a.o ≤ 32
 rotate_left
 ·rw [decide_eq_false h0]; simp [go_sem]; exact fun ok => h0 ok.o1
 rw [decide_eq_true h0]; simp [go_sem]
 refine callP_pure (in6_sp a.st 0 64) rfl ?_
 by_cases h2 : 0 ≤ a.st ∧ a.st ≤ 64
 rotate_left
 ·rw [decide_eq_false h2]; simp [go_sem]; exact fun ok => h2 ⟨ok.st1, ok.st2⟩
 rw [decide_eq_true h2]; simp [go_sem]
 refine callP_pure (weights6_sp a.ring a.ini a.st h.ini (by omega)) (by simp [go_sem]) ?_
 by_cases h3 : (a.ini.length : Int) = a.st ∧ ∀ w ∈ a.ini, w.chk a.ring
 rotate_left
 ·rw [decide_eq_false h3]; simp [go_sem]; exact fun ok => h3 ⟨ok.il, ok.ini⟩
 rw [decide_eq_true h3]; simp [go_sem]
 refine callP_pure (weights6_sp a.ring a.fin a.st h.fin (by omega)) (by simp [go_sem]) ?_
 by_cases h4 : (a.fin.length : Int) = a.st ∧ ∀ w ∈ a.fin, w.chk a.ring
 rotate_left
 ·rw [decide_eq_false h4]; simp [go_sem]; exact fun ok => h4 ⟨ok.fl, ok.fin⟩
 rw [decide_eq_true h4]; simp [go_sem]
 refine ⟨fun h5 => fun ok => by have := ok.al; omega, fun h5 => ?_⟩
 refine vL_rule (S := fun k : Nat => mkSt [(1, .ptr 1 0 0 0), (3, .p (.int .i64 k))] [(1, ⟨8, [.p (enc a)]⟩)]) (I := fun k => k ≤ a.arcs.length ∧ ∀ i, (hi : i < a.arcs.length) -> i < k -> inT a.arcs[i] a) (m := fun k => a.arcs.length - k) 0
  (Weak.to [1, 3] [((1, 0), 1)] (by simp [go_sem])) ⟨by omega, fun i _ h0 => by omega⟩ ?_
 rintro k ⟨h6, h7⟩ R hn hr' hx
 have e1 : IntKind.i64.wrap ((k : Int) + 1) = ((k + 1 : Nat) : Int) := i64w (by omega) (by omega)
 have e2 : IntKind.i64.wrap (a.st - 1) = a.st - 1 := by
  by_cases hs : 1 ≤ a.st
  ·obtain ⟨m, hm⟩ := Int.eq_ofNat_of_zero_le (show 0 ≤ a.st - 1 by omega)
   rw [hm]; exact i64w (by omega) (by omega)
  ·have : a.st = 0 := by omega
   rw [this]; rfl
 simp [g.ref17_Valid_l1, mkSt, go_sem, e2]
 refine ⟨fun hk => ?_, fun hk => hx _ _ ?_⟩
 ·refine atP_get hk ?_
  have hret : ¬ inT a.arcs[k] a -> ¬ a.ok := fun h ok => h (ok.arcs _ (List.getElem_mem hk))
  have hsw : a.arcs[k].w.sm 1048576 := h.arcs _ (List.getElem_mem hk)
  have hnext : inT a.arcs[k] a -> ∀ i, (hi : i < a.arcs.length) -> i < k + 1 -> inT a.arcs[i] a := fun hx i hi h0 => by
   by_cases hik : i < k
   ·exact h7 i hi hik
   ·have : i = k := by omega
    subst this; exact hx
  generalize a.arcs[k] = x at *
  refine callP_pure (in6_sp x.f 0 (a.st - 1)) rfl ?_
  by_cases h8 : 0 ≤ x.f ∧ x.f ≤ a.st - 1
  rotate_left
  ·rw [decide_eq_false h8]; simp [go_sem]
   refine hr' _ ?_
   simp [go_sem]
   exact (hret fun hT => h8 ⟨hT.1, by have := hT.2.1; omega⟩)
  rw [decide_eq_true h8]; simp [go_sem, e2]
  refine callP_pure (in6_sp x.t 0 (a.st - 1)) rfl ?_
  by_cases h9 : 0 ≤ x.t ∧ x.t ≤ a.st - 1
  rotate_left
  ·rw [decide_eq_false h9]; simp [go_sem]
   refine hr' _ ?_
   simp [go_sem]
   exact (hret fun hT => h9 ⟨hT.2.2.1, by have := hT.2.2.2.1; omega⟩)
  rw [decide_eq_true h9]; simp [go_sem]
  refine callP_pure (in6_sp x.i 0 a.i) rfl ?_
  by_cases h10 : 0 ≤ x.i ∧ x.i ≤ a.i
  rotate_left
  ·rw [decide_eq_false h10]; simp [go_sem]
   refine hr' _ ?_
   simp [go_sem]
   exact (hret fun hT => h10 ⟨hT.2.2.2.2.1, hT.2.2.2.2.2.1⟩)
  rw [decide_eq_true h10]; simp [go_sem]
  refine callP_pure (in6_sp x.o 0 a.o) rfl ?_
  by_cases h11 : 0 ≤ x.o ∧ x.o ≤ a.o
  rotate_left
  ·rw [decide_eq_false h11]; simp [go_sem]
   refine hr' _ ?_
   simp [go_sem]
   exact (hret fun hT => h11 ⟨hT.2.2.2.2.2.2.1, hT.2.2.2.2.2.2.2.1⟩)
  rw [decide_eq_true h11]; simp [go_sem]
  refine callP_pure (check3_sp a.ring x.w hsw) (by simp [go_sem]) ?_
  by_cases hc : x.w.chk a.ring
  rotate_left
  ·simp [go_sem, hc]
   refine hr' _ ?_
   simp [go_sem]
   exact (hret fun hT => hc hT.2.2.2.2.2.2.2.2)
  simp [go_sem, hc, e1]
  exact hn (k + 1) _ (Weak.to [1, 3] [((1, 0), 1)] (by simp [mkSt, go_sem])) ⟨by omega, hnext ⟨h8.1, by omega, h9.1, by omega, h10.1, h10.2, h11.1, h11.2, hc⟩⟩ (by omega)
 ·have hall : ∀ x ∈ a.arcs, inT x a := fun x hx => by
   obtain ⟨i, hi, rfl⟩ := List.mem_iff_getElem.1 hx
   exact h7 i hi (by omega)
  have ok : a.ok := ⟨hr, h1, h0, h2.1, h2.2, h3.1, h4.1, by omega, hall, h3.2, h4.2⟩
  simp [go_sem, ok]
end Go.Ab
