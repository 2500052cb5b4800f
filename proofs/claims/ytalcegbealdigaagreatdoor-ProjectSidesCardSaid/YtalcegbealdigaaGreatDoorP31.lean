/-
Proofs for the law ProjectSides of the seat, part 31 (texts X18 W9 W10 W11 Y1 Fw45 X20). Conditions: none.
-/
import Derived.Test.YtalcegbealdigaaGreatDoorP29
import Derived.Test.YtalcegbealdigaaGreatDoorP26
import Derived.Test.YtalcegbealdigaaGreatDoorP30
import Derived.Test.YtalcegbealdigaaGreatDoorP24
import Derived.Test.YtalcegbealdigaaGreatDoorP27
set_option maxRecDepth 100000
set_option maxHeartbeats 4000000
set_option linter.all false
namespace Go.Ab
open Enc (enc)
def kcE (e : Ex) : List PV := [.int .i64 e.a, .int .i64 e.b, .int .i64 e.c]
theorem enc_kcE (e : Ex) : enc e = .agg (kcE e) := rfl
theorem eqI_kcE (e e' : Ex) : eqI (kcE e) (kcE e') = true ↔ e = e' := by
 cases e; cases e'; simp [kcE, eqI, and_assoc]
def zR : GRat := ⟨false, [], []⟩
def mgetZ (e : Ex) (L : List (Ex × GRat)) : GRat := (mget e L).getD zR
def madd (m : GMono) (L : List (Ex × GRat)) : List (Ex × GRat) := mset m.e (rto ((mgetZ m.e L).v + m.coef.v)) L
theorem nomp_ens32 (l : List UInt32) : nompL (ens l) = true := by
 rw [nompL_iff]; intro v hv; obtain ⟨x, _, rfl⟩ := List.mem_map.1 hv; rfl
theorem nomp_mks (L : List (Ex × GRat)) : nompL (mks L) = true := by
 rw [nompL_iff]; intro v hv; obtain ⟨x, _, rfl⟩ := List.mem_map.1 hv; rfl
theorem nomp_mvs (L : List (Ex × GRat)) : nompL (mvs L) = true := by
 rw [nompL_iff]; intro v hv; obtain ⟨x, _, rfl⟩ := List.mem_map.1 hv
 show (PV.agg [.bool x.2.neg, .sl (ens x.2.num), .sl (ens x.2.den)]).nomp = true
 simp [PV.nomp, nompL, nomp_ens32]
theorem keyOk_ok {e : Ex} (h : e.ok = true) : keyOk (List.replicate 3 .i64) (kcE e) = true := by
 simp only [Ex.ok, decide_eq_true_eq] at h
 simp [kcE, keyOk, List.replicate, Lit.wf, IntKind.min, IntKind.max, IntKind.signed, IntKind.bits]
 omega
theorem keysOk_mks {L : List (Ex × GRat)} (h : ∀ p ∈ L, p.1.ok = true) : (mks L).all (keyOkP (List.replicate 3 .i64)) = true := by
 simp only [List.all_eq_true]; intro v hv; obtain ⟨x, hx, rfl⟩ := List.mem_map.1 hv
 exact keyOk_ok (h x hx)
def addPost (r : Nat) (ks' vs' : List PV) (ex : Exit) (s : St) (B : Option FA) : Prop := (ex = .normal ∨ ex = .ret) ∧ (B = some (mapFA r ks' vs') ∨ (B = some (fzFA r) ∧ s.get 0 = .p (.mp r ks' vs')))
theorem sumadd_sp (m : GMono) (L : List (Ex × GRat)) (hm : m.e.ok = true) (hc : m.coef.sm 1048576) (hL : ∀ p ∈ L, p.1.ok = true ∧ p.2.sm 1048576) :
  SpU P F.polynomial_sum_add (mks L) (mvs L) [enc m.e, enc m.coef] (mks (madd m L)) (mvs (madd m L)) := by
 refine SpU.of_mr c.polynomial_sum_add (by simp) fun r => ?_
 show MR P _ _ _ _ (addPost r (mks (madd m L)) (mvs (madd m L)))
 have hm' := hm
 simp only [Ex.ok, decide_eq_true_eq] at hm'
 unfold g.polynomial_sum_add
 refine MR.gseq ?_
 simp [go_sem]
 refine MR.gseq ?_
 simp [go_sem]
 refine callP_pure (pdegree_sp m.e ⟨⟨by omega, by omega⟩, ⟨by omega, by omega⟩, by omega, by omega⟩) rfl ?_
 simp [go_sem]
 refine MR.gcond (t := true) (by simp [go_sem]; omega) (fun _ => ?_) (fun h => by cases h)
 refine MR.gregD rfl (by decide) ?_
 have hfind := mapFind_mget enc_kcE eqI_kcE m.e L
 have hput := mapPut_mset enc_kcE eqI_kcE m.e (rto ((mgetZ m.e L).v + m.coef.v)) L
 have hk := keyOk_ok hm
 have hks := keysOk_mks fun p hp => (hL p hp).1
 simp only [kcE, List.replicate] at hfind hk hks
 have fin : ∀ s : St, s.get 9 = .p (.mp r (mks L) (mvs L)) -> s.get 10 = .p (.agg (kcE m.e)) -> s.get 15 = .p (enc (rto ((mgetZ m.e L).v + m.coef.v))) ->
   MOp P 16 ⟨none, .raw (.mapUpdate 237 (.tmp 9) (.tmp 10) (.tmp 15)), none⟩ s (some (fzFA r)) fun s B => addPost r (mks (madd m L)) (mvs (madd m L)) .normal s B := fun s h1 h2 h3 => by
  refine mop_mapUpdate (d := none) ty.map ty.key ty.int ty.cells ty.cell ty.size h1 h2 h3 (keysOk_mks fun p hp => (hL p hp).1) (keyOk_ok hm) ?_ ?_ ?_
  ·rw [hput]; exact nomp_mks _
  ·rw [hput]; exact nomp_mvs _
  ·rw [hput]; exact ⟨.inl rfl, .inl rfl⟩
 cases hg : mget m.e L with
 | none =>
  rw [hg] at hfind
  have hz : mgetZ m.e L = zR := by simp [mgetZ, hg]
  simp [go_sem, hfind, hk, hks]
  rw [hz] at fin
  refine callP_pure (radd_sp zR m.coef ⟨by simp [zR], by simp [zR]⟩ hc) rfl ?_
  simp [go_sem]
  exact fin _ rfl rfl rfl
 | some c =>
  rw [hg] at hfind
  have hz : mgetZ m.e L = c := by simp [mgetZ, hg]
  rw [hz] at fin
  simp [go_sem, hfind, hk, hks]
  refine callP_pure (radd_sp c m.coef (hL _ (mget_mem hg)).2 hc) rfl ?_
  simp [go_sem]
  exact fin _ rfl rfl rfl
end Go.Ab
namespace Go.Ab
open Enc (enc)
attribute [local go_sem] optOpd Opd.slots
end Go.Ab
namespace Go.Ab
open Enc (enc)
attribute [local go_sem] optOpd Opd.slots
structure GW.wb (D B : Nat) (w : GW) : Prop where
 q : qb D B w.q.v
 p : pqb D B w.poly
end Go.Ab
namespace Go.Ab
open Enc (enc)
attribute [local go_sem] optOpd Opd.slots
end Go.Ab
namespace Go.Ab
open Enc (enc)
theorem qb_self (q : Rat) : qb q.den q.num.natAbs q := ⟨q.num, (Rat.mkRat_self q).symm, Nat.le_refl _⟩
theorem lt_pow_len {n m : Nat} (h : (lb n).length ≤ m) : n < 4294967296 ^ m := Nat.lt_of_lt_of_le (lb_lt n) (Nat.pow_le_pow_right (by omega) h)
theorem ratb {x : GRat} {m : Nat} (hx : x.sm m) (hm : 1 ≤ m) : x.v.num.natAbs < 4294967296 ^ m ∧ x.v.den < 4294967296 ^ m := by
 have := frq_sm hx hm
 exact ⟨lt_pow_len this.1, lt_pow_len this.2⟩
theorem two_pow_W (n : Nat) (a b : Nat) (ha : a < 4294967296 ^ n) (hb : b < 4294967296 ^ n) : a + b < 4294967296 ^ (n + 1) := by
 rw [Nat.pow_succ]
 generalize 4294967296 ^ n = W at *
 omega
theorem rto_add_sm {x y : GRat} {m n : Nat} (hx : x.sm m) (hy : y.sm n) (hm : 1 ≤ m) (hn : 1 ≤ n) : (rto (x.v + y.v)).sm (m + n + 1) := by
 obtain ⟨a1, a2⟩ := ratb hx hm
 obtain ⟨b1, b2⟩ := ratb hy hn
 have h1 := qb_scale y.v.den y.v.den_nz (qb_self x.v)
 have h2 := qb_scale x.v.den x.v.den_nz (qb_self y.v)
 rw [Nat.mul_comm y.v.den] at h2
 have hD : x.v.den * y.v.den ≠ 0 := Nat.mul_ne_zero x.v.den_nz y.v.den_nz
 have h3 := qb_add h1 h2 hD
 have hpos : ∀ k, 0 < 4294967296 ^ k := fun k => Nat.pow_pos (by omega)
 have c1 : x.v.num.natAbs * y.v.den < 4294967296 ^ (m + n) := by
  rw [Nat.pow_add]; exact Nat.mul_lt_mul'' a1 b2
 have c2 : y.v.num.natAbs * x.v.den < 4294967296 ^ (m + n) := by
  rw [Nat.pow_add, Nat.mul_comm]; exact Nat.mul_lt_mul'' a2 b1
 have c3 : x.v.den * y.v.den < 4294967296 ^ (m + n) := by
  rw [Nat.pow_add]; exact Nat.mul_lt_mul'' a2 b2
 refine qb_sm h3 hD (Nat.lt_of_lt_of_le c3 (Nat.pow_le_pow_right (by omega) (by omega))) ?_
 exact two_pow_W _ _ _ c1 c2
def pden : List GMono -> Nat
 | [] => 1
 | m :: p => m.coef.v.den * pden p
theorem pden_pos (p : List GMono) : pden p ≠ 0 := by
 induction p with
 | nil => simp [pden]
 | cons m p ih => exact Nat.mul_ne_zero m.coef.v.den_nz ih
theorem pden_lt {p : List GMono} {n : Nat} (hp : psm p n) (hn : 1 ≤ n) : pden p < 4294967296 ^ (n * p.length + 1) := by
 induction p with
 | nil => simp [pden]
 | cons m p ih =>
  have h1 := (ratb (hp m (by simp)) hn).2
  have h2 := ih fun x hx => hp x (by simp [hx])
  have : n * (m :: p).length + 1 = n + (n * p.length + 1) := by simp [Nat.mul_add]; omega
  rw [this, Nat.pow_add]
  exact Nat.mul_lt_mul'' h1 h2
theorem qb_pden {p : List GMono} {m : GMono} (hm : m ∈ p) (k : Nat) (hk : k ≠ 0) : qb (pden p * k) (m.coef.v.num.natAbs * (pden p * k)) m.coef.v := by
 induction p with
 | nil => simp at hm
 | cons x p ih =>
  rcases List.mem_cons.1 hm with rfl | hm
  ·have h := qb_scale (pden p * k) (Nat.mul_ne_zero (pden_pos p) hk) (qb_self m.coef.v)
   rw [show pden (m :: p) * k = m.coef.v.den * (pden p * k) by simp [pden, Nat.mul_assoc]]
   exact qb_mono h (Nat.mul_le_mul_left _ (Nat.le_mul_of_pos_left _ (Nat.pos_of_ne_zero m.coef.v.den_nz)))
  ·have h := qb_scale x.coef.v.den x.coef.v.den_nz (ih hm)
   have e : pden (x :: p) * k = pden p * k * x.coef.v.den := by
    simp only [pden]; rw [Nat.mul_assoc, Nat.mul_comm]
   rw [e, <- Nat.mul_assoc (m.coef.v.num.natAbs)]
   exact h
theorem pqb_pden {p : List GMono} {n k : Nat} (hv : PVal p) (hp : psm p n) (hn : 1 ≤ n) (hk : k ≠ 0) : pqb (pden p * k) (4294967296 ^ n * (pden p * k)) p := by
 intro e
 by_cases h : ∃ m ∈ p, m.e = e
 ·obtain ⟨m, hm, rfl⟩ := h
  rw [pc_mem hv hm]
  exact qb_mono (qb_pden hm k hk) (Nat.mul_le_mul_right _ (Nat.le_of_lt (ratb (hp m hm) hn).1))
 ·rw [pc_none fun m hm he => h ⟨m, hm, he⟩]
  exact qb_mono (qb_zero _) (Nat.zero_le _)
theorem pc_cases {p : List GMono} (hv : PVal p) (e : Ex) : pc p e = 0 ∨ ∃ m ∈ p, pc p e = m.coef.v := by
 by_cases h : ∃ m ∈ p, m.e = e
 ·obtain ⟨m, hm, rfl⟩ := h; exact .inr ⟨m, hm, pc_mem hv hm⟩
 ·exact .inl (pc_none fun m hm he => h ⟨m, hm, he⟩)
theorem pput_len (p : List GMono) (e : Ex) (q : Rat) : (pput p e q).length ≤ p.length + 1 := by
 rw [pput_pins]; split
 ·omega
 ·induction p with
  | nil => simp [pins]
  | cons m p ih =>
   simp only [pins]; (repeat' split) <;> simp <;> omega
theorem padd_len (p q : List GMono) : (padd p q).length ≤ p.length + q.length := by
 induction q generalizing p with
 | nil => simp [padd]
 | cons m q ih =>
  have := ih (pput p m.e m.coef.v)
  have h2 := pput_len p m.e m.coef.v
  show (padd (pput p m.e m.coef.v) q).length ≤ _
  simp; omega
theorem gr0_v : gr0.v = 0 := by rw [show gr0 = rto 0 from rto_zero.symm, v_rto]
theorem padd_sm {p q : List GMono} {m n : Nat} (hv : PVal p) (hw : PVal q) (hp : psm p m) (hq : psm q n) (hm : 1 ≤ m) (hn : 1 ≤ n) : psm (padd p q) (m + n + 1) := by
 intro x hx
 have hval := padd_val q hv
 have hok := GMono.ok_iff.1 ((pval_iff.1 hval).1 x hx)
 have h1 : x.coef.v = pc p x.e + pc q x.e := by rw [<- pc_mem hval hx, pc_padd p (pval_iff.1 hw).1]
 rw [<- rto_v hok.2.1, h1]
 have ga : ∃ a : GRat, a.sm m ∧ a.v = pc p x.e := by
  rcases pc_cases hv x.e with h | ⟨y, hy, h⟩
  ·exact ⟨gr0, gr0_sm m, by rw [gr0_v, h]⟩
  ·exact ⟨y.coef, hp y hy, h.symm⟩
 have gb : ∃ b : GRat, b.sm n ∧ b.v = pc q x.e := by
  rcases pc_cases hw x.e with h | ⟨y, hy, h⟩
  ·exact ⟨gr0, gr0_sm n, by rw [gr0_v, h]⟩
  ·exact ⟨y.coef, hq y hy, h.symm⟩
 obtain ⟨a, a1, a2⟩ := ga
 obtain ⟨b, b1, b2⟩ := gb
 rw [<- a2, <- b2]
 exact rto_add_sm a1 b1 hm hn
end Go.Ab
namespace Go.Ab
open Enc (enc)
def SpV (P : Program) (f : FuncId) (vals : List Value) (res : RV) : Prop :=
 (∃ fn, P.funcs[f]? = some fn ∧ fn.body.isSome = true ∧ fn.name ≠ "runtime.NumGoroutine") ∧
 ∀ (w : World) (M : Nat -> Option Obj), (∀ b o, M b = some o -> w.heap[b]? = some o) ->
  Calls P f vals.toArray w fun e w' => ∃ x M', e = .returned x ∧ (∀ b o, M b = some o -> M' b = some o) ∧ (∀ b o, M' b = some o -> w'.heap[b]? = some o) ∧
   (∀ b o, M' b = some o -> M b = some o ∨ w.heap.size ≤ b) ∧ Keep w w' (fun _ => False) ∧ RRep M' w w' res x
section
variable {P : Program} {K : Ctx} {Z Z' : Cz} {st st' st1 : St} {w w' : World} {a : Act} {N : Nat} {A B : Option FA} {Post : Exit -> St -> Option FA -> Prop} {PostI : St -> Option FA -> Prop} {v : AV}
theorem mop_callV {d : Option Nat} {f : FuncId} {xs : List Opd} {vals : List Value} {res : RV} (hsp : SpV P f vals res) (hv : ∀ (Z : Cz) (ys : List Value), AReps Z st (xs.map st.ev) ys -> ys = vals) (hres : callRes ⟨f, [], res, none⟩ st (d.getD 0) [] = some (v, st1)) (hsl : st1.sl = st.sl)
  (k : PostI (st1.put d v) none) : MOp P N ⟨d, .call f xs, none⟩ st none PostI := by
 intro ops j o K Z w a Q Kt hN hj hcc hs hA hK
 obtain ⟨h1, h2, h3, h4⟩ := compIns_spec hcc
 obtain ⟨cc, h, hop, hf, hh, hops⟩ := compOp_cal h1
 have hg : o.guard = none := by
  cases hg : o.guard with
  | none => rfl
  | some jb =>
   obtain ⟨j, b⟩ := jb
   rw [hg] at h2; simp only [compGuard] at h2
   split at h2 <;> cases h2
 have hw : Region.wanted o (yielded ops a.tmps) = true := by simp [Region.wanted, hg]
 have hd : d = o.dst := h3
 obtain ⟨hfn, hsp⟩ := hsp
 have hr := opds_ok hops hs
 have hfr := opd_ok hh hs
 simp only [St.ev] at hfr
 have hfv : a.eval h = .func (.func f) #[] #[] := by
  have hp := hfr.inv_p
  generalize a.eval h = F at hp ⊢
  cases hp with
  | fn _ _ vals h => cases h; rfl
 have hvs : cc.args.toList.map a.eval = vals := hv Z _ (by simpa using hr)
 have hrun : (execOp a.eval o).run P w = .ok (.enter f vals.toArray) w := by
  have := callFunc_run (P := P) (w := w) (args := (cc.args.toList.map a.eval).toArray) hfn
  simp only [execOp, hop, resolve, hf, hfv, Deferred.ofValue, Sem.run_bind, Sem.run_pure, Result.andThen_ok, invoke]
  have e : #[] ++ cc.args.map a.eval ++ #[] = (cc.args.toList.map a.eval).toArray := by simp [<- Array.toList_map]
  rw [e, this, hvs]
 refine (show o.wp P a w Kt Q from ?_) |> fun h => by unfold wpOp; simp only [hj, hw, if_true]; exact .inl h
 unfold Oper.wp
 rw [hrun, Oper.upon_enter]
 have hmx : ∀ b o, Mx Z st w [] b = some o -> Z.M b = some o := fun b o hb => by
  rcases Mx_spec hb with h | ⟨_, _, s, g, ob, h, _⟩
  ·exact h
  ·cases h
 refine (hsp w (Mx Z st w []) (fun b o hb => hs.heap.mem b o (hmx b o hb))).mono ?_
 rintro e w' ⟨x, M', rfl, p1, p2, p3, p4, p5⟩
 obtain ⟨Z', q1, q2, q3⟩ := call_post (c := ⟨f, [], res, none⟩) (vs := []) hs.heap p1 p2 p3 p4 p5 hres
 refine hK _ _ Z' _ _ k ?_ trivial
 rw [hd]
 exact hs.put hsl q3 q1 q2 (by subst hN; exact h4) hs.defers
theorem Weak.trunc0 {t s sz : Nat} {es : List AV} (hp : s ≠ PIN) : Weak ⟨[(t, .own s 0 0 0)], [(s, [some ⟨sz, es⟩])]⟩ ⟨[(t, .own s 0 0 0)], [(s, [some ⟨sz, []⟩])]⟩ := by
 intro K Z w a hs
 have hobj : ∀ (es : List AV) s' g' o', (⟨[(t, .own s 0 0 0)], [(s, [some ⟨sz, es⟩])]⟩ : St).obj s' g' = some o' -> s' = s ∧ g' = 0 ∧ o' = ⟨sz, es⟩ := by
  intro es s' g' o' h
  simp only [St.obj, St.site, look] at h
  split at h
  ·rename_i hs0
   cases g' with
   | zero => simp at h; exact ⟨hs0.symm, rfl, h.symm⟩
   | succ g => simp at h
  ·simp at h
 have h00 : ∀ es : List AV, (⟨[(t, .own s 0 0 0)], [(s, [some ⟨sz, es⟩])]⟩ : St).obj s 0 = some ⟨sz, es⟩ := fun es => by simp [St.obj, St.site, look]
 have hO := hs.heap.objs s 0 _ (h00 es)
 refine ⟨Z, ⟨fun u => ?_, hs.defers, hs.size, ⟨fun s' g' o' h => ?_, fun s1 g1 s2 g2 o1 o2 b h1 h2 _ _ => ?_, hs.heap.mem, fun s' g' o' b h hb => ?_, fun s' g' o' b h hb => ?_, hs.heap.m0, hs.heap.prov, hs.heap.keep⟩⟩, fun h0 => ?_⟩
 ·have hu := hs.slots u
  simp only [St.get, look] at hu ⊢
  split at hu
  ·rename_i hut; simp only [hut, if_true]
   generalize a.tmps.getD u Go.undef = x at hu
   cases hu with
   | own0 _ _ o ho hb => exact .own0 _ _ _ (h00 []) hb
   | own _ _ _ _ o b ad c ho hb h1 h2 h3 h4 => exact .own _ _ _ _ _ b ad c (h00 []) hb h1 (fun h => absurd h (by omega)) (by simp) h4
   | ownD _ _ _ _ _ _ _ hd => rw [h00] at hd; cases hd
  ·rename_i hut; simp only [hut, if_false]; exact .undef _
 ·obtain ⟨rfl, rfl, rfl⟩ := hobj _ _ _ _ h
  refine ⟨hO.pos, by simp, by simp, fun _ => rfl, fun b hb => ?_⟩
  obtain ⟨cur, T, vals, k1, k2, k3, k4, k5, k6⟩ := hO.blk b hb
  exact ⟨cur, T, [], k1, .nil, by simp, k4, by simp, k6⟩
 ·obtain ⟨rfl, rfl, _⟩ := hobj _ _ _ _ h1
  obtain ⟨rfl, rfl, _⟩ := hobj _ _ _ _ h2
  exact ⟨rfl, rfl⟩
 ·obtain ⟨rfl, rfl, rfl⟩ := hobj _ _ _ _ h; exact hs.heap.sep _ _ _ b (h00 es) hb
 ·obtain ⟨rfl, rfl, rfl⟩ := hobj _ _ _ _ h; exact hs.heap.own _ _ _ b (h00 es) hb
 ·exfalso
  simp only [St.site, look, if_neg hp] at h0
  simp at h0
theorem SpV.of_vm {f : FuncId} {vals : List Value} {res : RV} {n np : Nat} {b : GC} {rs : List (Nat × Option Nat)} (hc : compFn P f = some ⟨n, np, b.er, rs⟩) (hn : vals.length ≤ n)
  (hst : st.hp = []) (hreps : ∀ (M : Nat -> Option Obj) (t : Nat), ARep ⟨M, fun _ _ => none, fun _ _ => 0⟩ st (st.get t) ((vals.toArray ++ Array.replicate (n - vals.toArray.size) Go.undef).getD t Go.undef))
  (h : vm P n (fun ex s => ∃ s', Weak s s' ∧ retP rs res ex s') [.code b] st) : SpV P f vals res := by
 have hno : ∀ s g, st.obj s g = none := fun s g => by simp [St.obj, St.site, hst, look]
 obtain ⟨ex, s, hrun, s', hw, hret⟩ := vm_ok _ (Nat.le_refl _) h
 have hrun := hrun.weakR hw
 have hr : (ex = .ret ∨ ex = .normal) ∧ ∃ vs, resVals s' rs = some vs ∧ ResOk s' (resOf vs) res := by
  have key : (ex = .ret ∨ ex = .normal) ∧ ∃ vs, resVals s' rs = some vs ∧ resP s' (resOf vs) res := by
   cases ex with
   | ret => exact ⟨.inl rfl, hret⟩
   | normal => exact ⟨.inr rfl, hret⟩
   | _ => exact hret.elim
  obtain ⟨k1, vs, r3, r4⟩ := key
  refine ⟨k1, vs, r3, ?_⟩
  unfold resP at r4
  split at r4
  ·exact .pure _ _ r4
  ·split at r4
   ·rename_i sz es s' g off len hv
    obtain ⟨o, h1, rfl, h2, rfl, h4⟩ := r4
    rw [hv]
    exact .fresh _ _ _ _ _ h1 h2 h4
   ·rename_i hv; rw [hv, r4]; exact .nil _
   ·exact r4.elim
  ·exact r4.elim
 obtain ⟨hex, vs, hvs, hres⟩ := hr
 unfold compFn at hc
 split at hc
 ·rename_i fn hf
  split at hc
  ·rename_i hname
   split at hc
   ·rename_i c hb
    split at hc
    ·rename_i bd rs' h1 h2
     simp only [Option.some.injEq, FnC.mk.injEq] at hc
     obtain ⟨rfl, _, rfl, rfl⟩ := hc
     refine ⟨⟨fn, hf, by rw [hb]; rfl, hname⟩, fun w M hM => ?_⟩
     refine calls_of_wp hf hb ?_
     refine hrun c h1 ⟨w, M, fun _ => False, fn.ntmps⟩ ⟨M, fun _ _ => none, fun _ _ => 0⟩ w _ _ rfl ⟨hreps M, rfl, by simp; omega, ⟨fun s g o ho => (by rw [hno] at ho; cases ho), fun s g _ _ o _ b ho => (by rw [hno] at ho; cases ho), hM, fun s g o b ho => (by rw [hno] at ho; cases ho), fun s g o b ho => (by rw [hno] at ho; cases ho), fun _ _ h => h, fun _ _ h => .inl h, Keep.refl w _⟩⟩ (fun Z' w' a' hs _ => ?_)
     have hfin : a'.defers = [] ∧ ∃ v, (results fn a'.tmps).run P w' = .ok v w' ∧ ∃ x M', Ending.returned v = .returned x ∧ (∀ b o, M b = some o -> M' b = some o) ∧ (∀ b o, M' b = some o -> w'.heap[b]? = some o) ∧
       (∀ b o, M' b = some o -> M b = some o ∨ w.heap.size ≤ b) ∧ Keep w w' (fun _ => False) ∧ RRep M' w w' res x := by
      obtain ⟨xs, e1, e2⟩ := res_run hs h2 hvs
      obtain ⟨M', m1, m2, m3, m4, m5⟩ := res_post hs.heap e2.resOf hres
      refine ⟨hs.defers, _, ?_, _, M', rfl, m1, m2, m3, m4, m5⟩
      unfold results
      rw [Array.mapM_eq_mapM_toList]
      simp only [Sem.run_bind, map_eq_pure_bind, Sem.run_pure]
      exact congrArg (fun r => (Result.andThen r fun a w' => Result.ok a.toArray w').andThen fun (a : Array Value) w' => Result.ok (if h : a.size = 1 then a[0] else Value.tuple a) w') e1
     rcases hex with rfl | rfl
     ·exact hfin
     ·exact hfin
    ·cases hc
   ·cases hc
  ·cases hc
 ·cases hc
end
end Go.Ab
namespace Go.Ab
open Enc (enc)
theorem grow_init (v : Value) (x : AV) (n : Nat) (M : Nat -> Option Obj) (st : St) (h0 : st.get 0 = .nil) (h1 : st.get 1 = x) (h2 : ∀ t, st.get (t + 2) = .undef) (hx : ARep ⟨M, fun _ _ => none, fun _ _ => 0⟩ st x v) (t : Nat) :
  ARep ⟨M, fun _ _ => none, fun _ _ => 0⟩ st (st.get t) (([.slice none 0 0, v].toArray ++ Array.replicate n Go.undef).getD t Go.undef) := by
 match t with
 | 0 =>
  have e : ([.slice none 0 0, v].toArray ++ Array.replicate n Go.undef).getD 0 Go.undef = .slice none 0 0 := by simp [Array.getElem?_append]
  rw [h0, e]; exact .nil
 | 1 =>
  have e : ([.slice none 0 0, v].toArray ++ Array.replicate n Go.undef).getD 1 Go.undef = v := by simp [Array.getElem?_append]
  rw [h1, e]; exact hx
 | t + 2 => rw [h2]; exact .undef _
theorem grow_spv (k : Nat) (hk : k ≤ 1073741824) : SpV P F.slices_Grow_api_Monomial [.slice none 0 0, .int .i64 k] (.fresh 6 []) := by
 refine SpV.of_vm (st := ⟨[(0, .nil), (1, .p (.int .i64 k))], []⟩) c.slices_Grow_api_Monomial (by simp) rfl (fun M t => grow_init _ _ _ M _ rfl rfl (fun t => by simp [St.get, look]) (.p _ _ (.int _ _)) t) ?_
 simp [g.slices_Grow_api_Monomial, go_sem]
 have e0 : IntKind.i64.wrap (k : Int) = k := i64w (by omega) (by omega)
 simp only [e0]
 refine ⟨fun h => ⟨⟨by omega, by omega, by omega⟩, by omega, ⟨_, Weak.trunc0 (by decide), ?_⟩⟩, fun h => ⟨_, Weak.refl _, ?_⟩⟩
 ·simp [look]
 ·simp [look]
theorem mins_end {P : Program} {N : Nat} {st : St} {A : Option FA} {PostI : St -> Option FA -> Prop} (dead : List (List Nat)) {is : List Ins} (h : vm P N (fun ex s => ex = .normal -> PostI s A) [.ins is dead] st) : MIns P N is st A PostI := by
 obtain ⟨gs, s1, s2, r1, r2, r3⟩ := vm_ok _ (Nat.le_refl _) h
 have h2 : MIns P N (is ++ []) st A PostI := .run r1 ⟨s2, r2, r3 rfl⟩
 simpa using h2
theorem concat_sp (p q : List GMono) (hl : p.length + q.length ≤ 1073741824) : Sp P F.slices_Concat_api_Monomial [.sl (ens [p, q])] (.fresh 6 (ens (p ++ q))) := by
 refine Sp.of_mr c.slices_Concat_api_Monomial (by simp) ?_
 unfold g.slices_Concat_api_Monomial
 have e0 : IntKind.i64.wrap (0 + (p.length : Int)) = p.length := by rw [i64w (by omega) (by omega)]; omega
 have e1 : IntKind.i64.wrap ((p.length : Int) + q.length) = ((p.length + q.length : Nat) : Int) := i64w (by omega) (by omega)
 have e2 : IntKind.i64.wrap (p.length : Int) = p.length := i64w (by omega) (by omega)
 generalize hP : (fun ex s (_ : Option FA) => retP [(2, none)] (RV.fresh 6 (ens (p ++ q))) ex s) = Post
 refine MR.gseq ?_
 simp [go_sem]
 refine MR.gseq ?_
 simp [go_sem]
 refine MR.gseq ?_
 simp [go_sem]
 refine vL_unr fun R hn hr hx => ?_
 simp [g.slices_Concat_api_Monomial_l1, go_sem, e0, e1, e2]
 refine hn _ ?_
 refine vL_unr fun R hn hr hx => ?_
 simp [g.slices_Concat_api_Monomial_l1, go_sem, e0, e1, e2]
 refine ⟨by omega, fun _ => hn _ ?_⟩
 refine vL_unr fun R hn hr hx => ?_
 simp [g.slices_Concat_api_Monomial_l1, go_sem, e0, e1, e2]
 refine hx _ _ ?_
 simp [go_sem]
 refine MR.gseq' (MR.greg (mins_vmN 1 [[3, 9, 10, 11]] ?_))
 simp [go_sem]
 refine MIns.cons (mop_callV (v := .own 24 0 0 0) (grow_spv _ hl) (fun Z ys h => ?_) rfl rfl ?_)
 ·cases h with
  | cons _ _ _ _ h1 h =>
   cases h with
   | cons _ _ _ _ h2 h =>
    cases h
    cases h1
    cases h2.inv_p
    simp
 refine mins_end [[24]] ?_
 simp [go_sem]
 clear hn hr hx
 subst hP
 refine MR.of_vm ?_
 simp [go_sem]
 refine vL_unr fun R hn hr hx => ?_
 simp [g.slices_Concat_api_Monomial_l2, go_sem]
 refine ⟨by omega, hn _ ?_⟩
 refine vL_unr fun R hn hr hx => ?_
 simp [g.slices_Concat_api_Monomial_l2, go_sem]
 refine ⟨by omega, hn _ ?_⟩
 refine vL_unr fun R hn hr hx => ?_
 simp [g.slices_Concat_api_Monomial_l2, go_sem]
 refine hx _ _ ?_
 simp [go_sem]
end Go.Ab
