/-
Proofs for the law ProjectInvertsTwice, part 37. Conditions: none.
-/
import Derived.Test.YtalcegbealdigaaGreatDoorAP28
import Derived.Test.YtalcegbealdigaaGreatDoorAP11
import Derived.Test.YtalcegbealdigaaGreatDoorAP36
import Derived.Test.YtalcegbealdigaaGreatDoorAP29
import Derived.Test.YtalcegbealdigaaGreatDoorAP30
set_option maxRecDepth 100000
set_option maxHeartbeats 4000000
set_option linter.all false
namespace Go.Ab
open Enc (enc)
attribute [local go_sem] zat Opd.slots
def gw0' : GW := .mk ⟨false, [], []⟩ 0 false 0 [] []
theorem zsj (df : FuncId) (caps : List PV) (p : GArc -> Bool) (l : List GArc) (hl : l.length <= 1000000) (hp : ∀ x ∈ l, Sp P df (enc x :: caps) (.pure (.bool (p x)))) :
  SpM P F.kx [.sl (ens l), .fn df caps] 0 11 (ens (l.filter (fun x => !p x) ++ List.replicate (l.length - (l.filter fun x => !p x).length) (⟨0, 0, 0, gw0'⟩ : GArc))) (.same (l.filter fun x => !p x).length) := by
 have hfl : (l.filter fun x => !p x).length <= l.length := List.length_filter_le _ _
 refine SpM.of_vm c.kx (by simp) rfl (by simp [go_sem]; omega) ?_
 simp [g.kx, go_sem]
 refine zab (zj8 l df caps p (by omega) hp) ?_
 cases hi : l.findIdx? p with
 | none =>
  have hn := List.findIdx?_eq_none_iff.1 hi
  have hf : l.filter (fun x => !p x) = l := List.filter_eq_self.2 fun x hx => by simp [hn x hx]
  have hx : idxI p l = -1 := by simp [idxI, hi]
  simp [hx, hf, go_sem]
 | some k =>
  obtain ⟨hk, hpk, hbef⟩ := List.findIdx?_eq_some_iff_getElem.1 hi
  have hx : idxI p l = k := by simp [idxI, hi]
  have hne : ¬ ((k : Int) = -1) := by omega
  have e1 := i64s k (by omega)
  simp [hx, hne, e1, go_sem]
  have htk : (l.take k).filter (fun x => !p x) = l.take k := List.filter_eq_self.2 fun x hx => by
   rw [List.mem_take_iff_getElem] at hx
   obtain ⟨i, hi, rfl⟩ := hx
   have := hbef i (by omega)
   simpa using this
  have htk1 : (l.take (k + 1)).filter (fun x => !p x) = l.take k := by
   rw [List.take_succ_eq_append_getElem hk, List.filter_append, htk]; simp [hpk]
  refine zah (S := fun x : List GArc × Nat × Nat => mkSt [(0, .own PIN 0 0 l.length), (1, .p (.fn df caps)), (5, .p (.int .i64 x.2.1)), (6, .p (.int .i64 x.2.2))] [(PIN, ⟨11, avs x.1⟩)])
   (I := fun x => x.1.length = l.length /\ x.2.1 < x.2.2 /\ x.2.2 <= l.length /\ x.1.take x.2.1 = (l.take x.2.2).filter (fun x => !p x) /\ x.1.drop x.2.2 = l.drop x.2.2 /\ x.2.1 <= l.length) (m := fun x => l.length - x.2.2) (l, k, k + 1)
   (Weak.to [0, 1, 5, 6] [((PIN, 0), PIN)] (by simp [go_sem])) ⟨rfl, by simp, by simp; omega, by rw [htk1], rfl, by simp; omega⟩ ?_
  rintro ⟨L, i, j⟩ ⟨h1, h2, h3, h4, h5, h6⟩ R hn hr hx2
  simp only at h1 h2 h3 h4 h5 h6
  simp [g.rd, mkSt, go_sem]
  refine ⟨fun hj => ?_, fun hj => hx2 _ _ ?_⟩
  ·have e2 := i64s j (by omega)
   have e3 := i64s i (by omega)
   have hjL : L[j]? = some l[j] := by
    have : (L.drop j)[0]? = (l.drop j)[0]? := by rw [h5]
    simpa [hj] using this
   refine ⟨by omega, zbv hjL ?_⟩
   try simp [go_sem]
   refine zaa (hp l[j] (List.getElem_mem hj)) (zbp (by simp [go_sem]) (zd2 _ _)) ?_
   have htj : (l.take (j + 1)).filter (fun x => !p x) = (l.take j).filter (fun x => !p x) ++ (if p l[j] then [] else [l[j]]) := by
    rw [List.take_succ_eq_append_getElem hj, List.filter_append]
    by_cases h : p l[j] <;> simp [h]
   rcases Bool.eq_false_or_eq_true (p l[j]) with h7 | h7
   ·simp [h7, e2, go_sem]
    refine hn (L, i, j + 1) _ (Weak.to [0, 1, 5, 6] [((PIN, 0), PIN)] (by simp [go_sem])) ⟨h1, by show i < j + 1; omega, by show j + 1 <= l.length; omega, by show L.take i = _; rw [htj, h4]; simp [h7], ?_, h6⟩ (by show l.length - (j + 1) < l.length - j; omega)
    show L.drop (j + 1) = l.drop (j + 1)
    rw [<- List.drop_drop, h5, List.drop_drop]
   ·simp [h7, go_sem]
    refine ⟨by omega, ?_⟩
    refine zbv (l := L) (n := i) (x := L[i]'(by omega)) (by simp) ?_
    simp [e2, e3, go_sem]
    have htki : (L.set i l[j]).take (i + 1) = L.take i ++ [l[j]] := by
     rw [List.take_succ_eq_append_getElem (by simp; omega), List.take_set_of_le (Nat.le_refl i)]
     simp
    refine hn (L.set i l[j], i + 1, j + 1) _ (Weak.to [0, 1, 5, 6] [((PIN, 0), PIN)] (by simp [go_sem])) ⟨by simp [h1], by show i + 1 < j + 1; omega, by show j + 1 <= l.length; omega, by show (L.set i l[j]).take (i + 1) = _; rw [htki, htj, h4]; simp [h7], ?_, by show i + 1 <= l.length; omega⟩ (by show l.length - (j + 1) < l.length - j; omega)
    show (L.set i l[j]).drop (j + 1) = l.drop (j + 1)
    rw [List.drop_set_of_lt (by omega), <- List.drop_drop, h5, List.drop_drop]
  ·have hjl : j = l.length := by omega
   subst hjl
   rw [List.take_length] at h4
   have hil : i = (l.filter fun x => !p x).length := by rw [<- h4]; simp; omega
   generalize (l.filter fun x => !p x) = D at *
   subst hil
   have ht : (avs L).take D.length = avs D := by rw [zql, h4]
   have hm1 : min D.length l.length = D.length := Nat.min_eq_left h6
   have hm2 : D.length + (l.length - D.length) = l.length := by omega
   simp [go_sem, h1, h6, hm1, hm2, h4]
   have hdl : L.drop l.length = [] := by rw [<- h1]; simp
   rw [hdl, z1q, List.append_nil]
   rfl
theorem zqa (df : FuncId) (caps : List PV) (p : GTArc -> Bool) (l : List GTArc) (hl : l.length <= 1000000) (hp : ∀ x ∈ l, Sp P df (enc x :: caps) (.pure (.bool (p x)))) :
  SpM P F.kd [.sl (ens l), .fn df caps] 0 12 (ens (l.filter (fun x => !p x) ++ List.replicate (l.length - (l.filter fun x => !p x).length) (⟨0, 0, 0, 0, gw0'⟩ : GTArc))) (.same (l.filter fun x => !p x).length) := by
 have hfl : (l.filter fun x => !p x).length <= l.length := List.length_filter_le _ _
 refine SpM.of_vm c.kd (by simp) rfl (by simp [go_sem]; omega) ?_
 simp [g.kd, go_sem]
 refine zab (zp5 l df caps p (by omega) hp) ?_
 cases hi : l.findIdx? p with
 | none =>
  have hn := List.findIdx?_eq_none_iff.1 hi
  have hf : l.filter (fun x => !p x) = l := List.filter_eq_self.2 fun x hx => by simp [hn x hx]
  have hx : idxI p l = -1 := by simp [idxI, hi]
  simp [hx, hf, go_sem]
 | some k =>
  obtain ⟨hk, hpk, hbef⟩ := List.findIdx?_eq_some_iff_getElem.1 hi
  have hx : idxI p l = k := by simp [idxI, hi]
  have hne : ¬ ((k : Int) = -1) := by omega
  have e1 := i64s k (by omega)
  simp [hx, hne, e1, go_sem]
  have htk : (l.take k).filter (fun x => !p x) = l.take k := List.filter_eq_self.2 fun x hx => by
   rw [List.mem_take_iff_getElem] at hx
   obtain ⟨i, hi, rfl⟩ := hx
   have := hbef i (by omega)
   simpa using this
  have htk1 : (l.take (k + 1)).filter (fun x => !p x) = l.take k := by
   rw [List.take_succ_eq_append_getElem hk, List.filter_append, htk]; simp [hpk]
  refine zah (S := fun x : List GTArc × Nat × Nat => mkSt [(0, .own PIN 0 0 l.length), (1, .p (.fn df caps)), (5, .p (.int .i64 x.2.1)), (6, .p (.int .i64 x.2.2))] [(PIN, ⟨12, avs x.1⟩)])
   (I := fun x => x.1.length = l.length /\ x.2.1 < x.2.2 /\ x.2.2 <= l.length /\ x.1.take x.2.1 = (l.take x.2.2).filter (fun x => !p x) /\ x.1.drop x.2.2 = l.drop x.2.2 /\ x.2.1 <= l.length) (m := fun x => l.length - x.2.2) (l, k, k + 1)
   (Weak.to [0, 1, 5, 6] [((PIN, 0), PIN)] (by simp [go_sem])) ⟨rfl, by simp, by simp; omega, by rw [htk1], rfl, by simp; omega⟩ ?_
  rintro ⟨L, i, j⟩ ⟨h1, h2, h3, h4, h5, h6⟩ R hn hr hx2
  simp only at h1 h2 h3 h4 h5 h6
  simp [g.qr, mkSt, go_sem]
  refine ⟨fun hj => ?_, fun hj => hx2 _ _ ?_⟩
  ·have e2 := i64s j (by omega)
   have e3 := i64s i (by omega)
   have hjL : L[j]? = some l[j] := by
    have : (L.drop j)[0]? = (l.drop j)[0]? := by rw [h5]
    simpa [hj] using this
   refine ⟨by omega, zbv hjL ?_⟩
   try simp [go_sem]
   refine zaa (hp l[j] (List.getElem_mem hj)) (zbp (by simp [go_sem]) (zd2 _ _)) ?_
   have htj : (l.take (j + 1)).filter (fun x => !p x) = (l.take j).filter (fun x => !p x) ++ (if p l[j] then [] else [l[j]]) := by
    rw [List.take_succ_eq_append_getElem hj, List.filter_append]
    by_cases h : p l[j] <;> simp [h]
   rcases Bool.eq_false_or_eq_true (p l[j]) with h7 | h7
   ·simp [h7, e2, go_sem]
    refine hn (L, i, j + 1) _ (Weak.to [0, 1, 5, 6] [((PIN, 0), PIN)] (by simp [go_sem])) ⟨h1, by show i < j + 1; omega, by show j + 1 <= l.length; omega, by show L.take i = _; rw [htj, h4]; simp [h7], ?_, h6⟩ (by show l.length - (j + 1) < l.length - j; omega)
    show L.drop (j + 1) = l.drop (j + 1)
    rw [<- List.drop_drop, h5, List.drop_drop]
   ·simp [h7, go_sem]
    refine ⟨by omega, ?_⟩
    refine zbv (l := L) (n := i) (x := L[i]'(by omega)) (by simp) ?_
    simp [e2, e3, go_sem]
    have htki : (L.set i l[j]).take (i + 1) = L.take i ++ [l[j]] := by
     rw [List.take_succ_eq_append_getElem (by simp; omega), List.take_set_of_le (Nat.le_refl i)]
     simp
    refine hn (L.set i l[j], i + 1, j + 1) _ (Weak.to [0, 1, 5, 6] [((PIN, 0), PIN)] (by simp [go_sem])) ⟨by simp [h1], by show i + 1 < j + 1; omega, by show j + 1 <= l.length; omega, by show (L.set i l[j]).take (i + 1) = _; rw [htki, htj, h4]; simp [h7], ?_, by show i + 1 <= l.length; omega⟩ (by show l.length - (j + 1) < l.length - j; omega)
    show (L.set i l[j]).drop (j + 1) = l.drop (j + 1)
    rw [List.drop_set_of_lt (by omega), <- List.drop_drop, h5, List.drop_drop]
  ·have hjl : j = l.length := by omega
   subst hjl
   rw [List.take_length] at h4
   have hil : i = (l.filter fun x => !p x).length := by rw [<- h4]; simp; omega
   generalize (l.filter fun x => !p x) = D at *
   subst hil
   have ht : (avs L).take D.length = avs D := by rw [zql, h4]
   have hm1 : min D.length l.length = D.length := Nat.min_eq_left h6
   have hm2 : D.length + (l.length - D.length) = l.length := by omega
   simp [go_sem, h1, h6, hm1, hm2, h4]
   have hdl : L.drop l.length = [] := by rw [<- h1]; simp
   rw [hdl, z1q, List.append_nil]
   rfl
end Go.Ab
namespace Go.Ab
open Enc (enc)
@[go_sem] theorem z80 {P : Program} {N : Nat} {Q : Exit -> St -> Prop} {α : Type} [Enc α] (o : List α) (x : AV) (f : AV -> Outc) (d : Option Nat) (dd : List (List Nat)) (ks : List Kt) : vmO P N Q (.el (avs o ++ [x]) o.length f) d dd ks = vmO P N Q (f x) d dd ks := by
 have : (avs o ++ [x])[o.length]? = some x := by rw [List.getElem?_append_right (by simp [go_sem])]; simp [go_sem]
 simp only [vmO, runO, this]
 exact propext ⟨fun ⟨e, h, k⟩ => by cases h; exact k, fun k => ⟨_, rfl, k⟩⟩
@[go_sem] theorem ybg {α : Type} [Enc α] (o : List α) (x y : AV) : (avs o ++ [x]).set o.length y = avs o ++ [y] := by
 rw [List.set_append_right _ _ (by simp [go_sem])]; simp [go_sem]
theorem zut {α : Type} [Enc α] (l : List α) (r : List α) : ((ens (l ++ r)).map AV.p).take l.length = avs l := by simp [avs, ens]
theorem zkg {st : St} {f : FuncId} {e : Nat} {vs : List AV} {args : List PV} {sz : Nat} {es : List PV} {K : PCall -> AV -> St -> Prop} (hs : Sp P f args (.fresh sz es)) (hv : vs.mapM (toPV st FUEL) = some args)
  (h : es.all (fun v => v.sz == sz) = true /\ 0 < sz /\ es.length <= LIM) (h0 : vs.flatMap (deps st FUEL) = [])
  (k : K ⟨f, args, .fresh sz es, none⟩ (.own e (st.site e).length 0 es.length) (st.alloc e ⟨sz, es.map .p⟩)) : zkm P st e f vs K :=
 zh1 hs hv h st (by rw [h0]; simp [killAll]) k
theorem zoz {st : St} {f : FuncId} {e : Nat} {vs : List AV} {args : List PV} {i sz : Nat} {es' : List PV} {r : PV} {K : PCall -> AV -> St -> Prop} (hs : SpM P f args i sz es' (.pure r)) (hv : vs.mapM (toPV st FUEL) = some args)
  {s g len : Nat} {sl : Bool} (href : zj0 vs[i]? = some (s, g, len, sl)) {o : AObj} (ho : st.obj s g = some o) (hi : i < vs.length) (hl : len = o.es.length) (hl2 : es'.length = len) (hsz : o.sz = sz) (hall : es'.all (fun v => v.sz == sz) = true) (hone : (es'.flatMap PV.cells).all PV.one = true)
  (h0 : (vs.eraseIdx i).flatMap (deps st FUEL) ++ o.es.flatMap (deps st 4) = [])
  (k : K ⟨f, args, .pure r, some (i, sz, es')⟩ (.p r) (st.setObj s g ⟨sz, es'.map .p⟩)) : zkm P st e f vs K := by
 refine zdm hs hv href ho hi hl hl2 hsz hall hone (by rw [h0]; rfl) ?_
 rw [h0]
 simpa [killAll] using k
theorem zye (x : GArc) (r : GRing) (hw : x.w.sm 1048576) : Sp P F.ia [enc x, .ref (enc r)] (.pure (.bool (decide (x.w = r.zero)))) := by
 refine Sp.of_vmW c.ia (by simp) (Weak.openRef (t := 1) (v := enc r) (n := 2) (by simp [go_sem]) (by simp [go_sem])) ?_
 simp [g.ia, go_sem]
 refine zab (zoj r x.w hw) ?_
 simp [go_sem]
def upA (r : GRing) (z y : GArc) : GArc := ⟨z.f, z.l, z.t, r.plus z.w y.w⟩
noncomputable def tidA (r : GRing) (l : List GArc) : List GArc := (mrg GArc.key (upA r) id (srt GArc.key l)).filter fun x => !decide (x.w = r.zero)
theorem zq1 {r : GRing} {n : Nat} (hn1 : 1 <= n) {l : List GArc} (h : ∀ x ∈ l, x.w.sm n /\ x.w.chk r) (k : Nat) (hk : k <= l.length) :
  (mrg GArc.key (upA r) id (l.take k)).length <= k /\ ∀ x ∈ mrg GArc.key (upA r) id (l.take k), x.w.sm ((k + 1) * (n + 1)) /\ x.w.chk r := by
 refine zl5 (up := upA r) (nw := id) (Q := fun k x => x.w.sm ((k + 1) * (n + 1)) /\ x.w.chk r) (fun k x hx => ⟨hx.1.mono (Nat.mul_le_mul_right _ (by omega)), hx.2⟩) (fun x hx => ⟨(h x hx).1.mono (by omega), (h x hx).2⟩) (fun k z x hx hz => ⟨?_, (zd0 hz.2 (h x hx).2 : (r.plus z.w x.w).chk r)⟩) (fun k x hx => ⟨hx.1.mono (Nat.mul_le_mul_right _ (by omega)), hx.2⟩) k hk
 have := zto hz.1 (h x hx).1 hz.2 (h x hx).2 (Nat.le_trans hn1 (by rw [Nat.add_mul]; omega)) hn1
 have e : (k + 1) * (n + 1) + n + 1 = (k + 1 + 1) * (n + 1) := by rw [Nat.add_mul (k + 1) 1]; omega
 rw [<- e]; exact this
theorem z2h (r : GRing) (l : List GArc) (n : Nat) (hn : n <= 90) (hn1 : 3 <= n) (hl : l.length <= 19) (h : ∀ x ∈ l, x.w.sm n /\ x.w.chk r) :
  Sp P F.kf [enc r, .sl (ens l)] (.pure (.sl (ens (tidA r l)))) := by
 have hs := zax (key := GArc.key) l
 have h' : ∀ x ∈ srt GArc.key l, x.w.sm n /\ x.w.chk r := fun x hx => h x ((hs.2.2 x).1 hx)
 have inv := zq1 (by omega) h'
 unfold tidA
 generalize hS : srt GArc.key l = S at *
 have hSl : S.length = l.length := hs.2.1
 have hone : ∀ x : GArc, (enc x).cells.all PV.one = true := fun x => by simp [go_sem, PV.cells]
 refine Sp.vz c.kf fun _ => ?_
 simp [g.kf, go_sem]
 refine zkg (zqe l (by omega)) (by simp [go_sem]) ⟨zc8 _ _ rfl, by decide, by simp [ens, LIM]; omega⟩ (by simp [go_sem]) ?_
 simp [go_sem]
 refine zoz (zo9 rfl hone GArc.key F.bv l hl fun x hx y hy => ⟨_, zn5 x y, zpu rfl⟩) (by simp [go_sem]) rfl rfl (by simp) (by simp [go_sem]) (by simp [go_sem, hS, hSl]) rfl (zc8 _ _ rfl) (cells_one hone _) (by simp [go_sem]) ?_
 simp [go_sem]
 rw [hS]
 have hone' : 3 <= n + 1 := by omega
 refine zah (S := fun k : Nat => mkSt [(2, .ptr 2 0 0 0), (6, .own 1 0 0 (mrg GArc.key (upA r) id (S.take k)).length), (14, .own 3 0 0 S.length), (15, .p (.int .i64 S.length)), (16, .p (.int .i64 k))] [(2, ⟨2, [.p (enc r)]⟩), (1, ⟨11, avs (mrg GArc.key (upA r) id (S.take k))⟩), (3, ⟨11, avs S⟩)]) (I := fun k => k <= S.length) (m := fun k => S.length - k) 0
  (Weak.nl 6 77 11 rfl (Weak.to [2, 6, 14, 15, 16] [((2, 0), 2), ((77, 0), 1), ((11, 0), 3)] (by simp [go_sem, hSl, mrg]))) (by omega) ?_
 rintro k h1 R hn' hr hx
 have e3 := i64s k (by omega)
 obtain ⟨iv1, iv2⟩ := inv k h1
 generalize hO : mrg GArc.key (upA r) id (S.take k) = O at *
 by_cases hk : k < S.length
 rotate_left
 ·have : k = S.length := by omega
  subst this
  rw [List.take_of_length_le (Nat.le_refl _)] at hO
  rw [hO] at hx hr
  have hb : (O.length + 1) * (n + 1) <= 1048576 := by
   have := Nat.mul_le_mul (show O.length + 1 <= 20 by omega) (show n + 1 <= 91 by omega)
   omega
  have hb2 : (S.length + 1) * (n + 1) <= 1048576 := by
   have := Nat.mul_le_mul (show S.length + 1 <= 20 by omega) (show n + 1 <= 91 by omega)
   omega
  simp [g.nj, mkSt, go_sem]
  refine hx _ _ ?_
  simp [go_sem]
  refine zoy (zsj F.ia [.ref (enc r)] (fun x => decide (x.w = r.zero)) O (by omega) fun x hx => zye x r ((iv2 x hx).1.mono hb2)) (by simp [go_sem, ze9, zjb]) rfl rfl (by simp) (by simp [go_sem]) (by simp [go_sem]; have := List.length_filter_le (fun x : GArc => !decide (x.w = r.zero)) O; omega) rfl (zc8 _ _ rfl) (cells_one hone _) (by simp [go_sem]) (List.length_filter_le _ _) ?_
  generalize hF : O.filter (fun x => !decide (x.w = r.zero)) = F0 at *
  have hFl : F0.length <= O.length := by rw [<- hF]; exact List.length_filter_le _ _
  have hA1 := zut F0 (List.replicate (O.length - F0.length) (⟨0, 0, 0, gw0'⟩ : GArc))
  have hA2 : F0.length <= (ens (F0 ++ List.replicate (O.length - F0.length) (⟨0, 0, 0, gw0'⟩ : GArc))).length := by simp [ens]
  generalize ens (F0 ++ List.replicate (O.length - F0.length) (⟨0, 0, 0, gw0'⟩ : GArc)) = A0 at *
  cases hfl : A0.all PV.flat
  ·simp [go_sem, killAll]
   rw [hA1]; simp [go_sem, hA2]
  ·simp [go_sem, killAll]
   rw [hA1]; simp [go_sem, hA2]
 have hw := h' _ (List.getElem_mem hk)
 have hnx := zfx (key := GArc.key) (up := upA r) (nw := id) hk
 rw [hO] at hnx
 have cz := zch hw.2.1
 have sz := zs1 (n := n) hw.2.1 hn1
 have pz := zcm hw.2
 rcases List.eq_nil_or_concat O with rfl | ⟨o, z, rfl⟩
 ·simp [g.nj, mkSt, go_sem, hk]
  refine zae hk ?_
  refine zaa (zfo r) rfl ?_
  simp [go_sem]
  refine zab (zfu r S[k].w r.zero n hw.1 sz (by omega) (by omega) hw.2 cz) ?_
  rw [pz]
  simp [go_sem, e3]
  refine hn' (k + 1) _ (Weak.to [2, 6, 14, 15, 16] [((2, 0), 2), ((59, 0), 1), ((3, 0), 3)] ?_) (by omega) (by omega)
  rw [hnx]
  simp [mkSt, go_sem, mst]
 ·have e4 : IntKind.i64.wrap (o.length : Int) = (o.length : Int) := i64w (by omega) (by simp at iv1; omega)
  simp [g.nj, mkSt, go_sem, hk, e4]
  refine zae hk ?_
  refine zab (zn5 z S[k]) ?_
  simp [go_sem, e4]
  have hz := iv2 z (by simp)
  have hb2 : (k + 1) * (n + 1) <= 2000 := by
   have := Nat.mul_le_mul (show k + 1 <= 20 by omega) (show n + 1 <= 91 by omega)
   omega
  have hb3 : n <= (k + 1) * (n + 1) := by rw [Nat.add_mul]; omega
  have hle : lexI z.key S[k].key = 0 ↔ z.key = S[k].key := zjk (by simp [GArc.key])
  refine ⟨fun h0 => ?_, fun h0 => ?_⟩
  ·rw [List.concat_eq_append, zpn (key := GArc.key) (z := z) (y := S[k]) (hle.1 h0)] at hnx
   refine zab (zfu r z.w S[k].w _ hz.1 (hw.1.mono hb3) hb2 (by omega) hz.2 hw.2) ?_
   simp [go_sem, e3, e4]
   refine hn' (k + 1) _ (Weak.to [2, 6, 14, 15, 16] [((2, 0), 2), ((1, 0), 1), ((3, 0), 3)] ?_) (by omega) (by omega)
   rw [hnx]
   simp [mkSt, go_sem, upA]
  ·rw [List.concat_eq_append, zl3 (key := GArc.key) (z := z) (y := S[k]) (fun h => h0 (hle.2 h))] at hnx
   refine zaa (zfo r) rfl ?_
   simp [go_sem]
   refine zab (zfu r S[k].w r.zero n hw.1 sz (by omega) (by omega) hw.2 cz) ?_
   rw [pz]
   simp [go_sem, e3]
   refine ⟨by simp at iv1; omega, hn' (k + 1) _ (Weak.to [2, 6, 14, 15, 16] [((2, 0), 2), ((59, 0), 1), ((3, 0), 3)] ?_) (by omega) (by omega)⟩
   rw [hnx]
   simp [mkSt, go_sem, upA]
end Go.Ab
namespace Go.Ab
open Enc (enc)
structure GAuto.ok (a : GAuto) : Prop where
 ring : a.ring.ok = true
 sy1 : 1 <= a.sy
 sy2 : a.sy <= 32
 st1 : 0 <= a.st
 st2 : a.st <= 64
 il : (a.ini.length : Int) = a.st
 fl : (a.fin.length : Int) = a.st
 al : a.arcs.length <= 2048
 arcs : ∀ x ∈ a.arcs, inA x a
 ini : ∀ w ∈ a.ini, w.chk a.ring
 fin : ∀ w ∈ a.fin, w.chk a.ring
theorem z8c {r : GRing} {l : List GW} : (!l.any fun w => !decide (w.chk r)) = true ↔ ∀ w ∈ l, w.chk r := by
 simp
theorem GAuto.vb_iff {a : GAuto} : a.vb = true ↔ a.ok := by
 unfold GAuto.vb
 simp only [Bool.and_eq_true, decide_eq_true_eq, z8c]
 constructor
 ·rintro ⟨h1, h2, h3, h4, h5, h6, h7, h8, h9, h10, h11⟩
  exact ⟨h1, h2, h3, h4, h5, h6, h7, h8, fun x hx => by simpa using (by simpa using h9 : ∀ x ∈ a.arcs, inA x a) x hx, h10, h11⟩
 ·rintro ⟨h1, h2, h3, h4, h5, h6, h7, h8, h9, h10, h11⟩
  exact ⟨h1, h2, h3, h4, h5, h6, h7, h8, by simpa using h9, h10, h11⟩
def zkb : GAuto := ⟨⟨0, []⟩, 0, 0, [], [], []⟩
noncomputable def GAuto.nf (a : GAuto) : GAuto := ⟨a.ring, a.sy, a.st, a.ini, a.fin, tidA a.ring a.arcs⟩
theorem GAuto.sm.mono {a : GAuto} {m n : Nat} (h : a.sm m) (k : m <= n) : a.sm n := ⟨fun w hw => (h.ini w hw).mono k, fun w hw => (h.fin w hw).mono k, fun x hx => (h.arcs x hx).mono k⟩
theorem z75 {r : GRing} {l : List GW} (h : ∀ w ∈ l, w.chk r) : (l.map fun w => r.plus w r.zero) = l := by
 have : (l.map fun w => r.plus w r.zero) = l.map id := List.map_congr_left fun w hw => zcm (h w hw)
 rw [this, List.map_id]
theorem zzu {r : GRing} (h : r.ok = true) : r.parts.length <= 3 := by
 by_cases h6 : r.kind = 6
 ·exact (GRing.ok_parts h h6).2.1
 ·simp [(GRing.ok_kind h h6).2.2]
theorem zk3 (r : GRing) (l : List GW) (n : Nat) (hn : n <= 90) (hn1 : 3 <= n) (hr : r.ok = true) (hl : l.length <= 64) (h : ∀ w ∈ l, w.sm n) (c : ∀ w ∈ l, w.chk r) : Sp P F.ck [enc r, .sl (ens l)] (.pure (.sl (ens l))) := by
 have k := z4x r l n (by omega) (by omega) (by omega) (fun w hw => ⟨h w hw, c w hw⟩) (zs1 hr hn1) (zch hr)
 rwa [z75 c] at k
theorem zw2 (a : GAuto) (n : Nat) (hn : n <= 90) (hn1 : 3 <= n) (h : a.sm n) (hl : a.arcs.length <= 19) :
  Sp P F.jz [enc a] (.pure (.tup [enc (if a.vb then a.nf else zkb), .int .i64 (if a.vb then 0 else 4)])) := by
 refine Sp.vz c.jz fun _ => ?_
 simp [g.jz, go_sem]
 refine zab (zx4 a (h.mono (by omega))) ?_
 cases hv : a.vb
 ·simp [go_sem, zkb]
 have ok := GAuto.vb_iff.1 hv
 have i1 := ok.il; have i2 := ok.fl; have i3 := ok.st2
 simp [go_sem]
 refine zab (z23 a.ring (by have := zzu ok.ring; omega)) ?_
 simp [go_sem]
 refine zab (zk3 a.ring a.ini n hn hn1 ok.ring (by omega) h.ini ok.ini) ?_
 simp [go_sem]
 refine zab (zk3 a.ring a.fin n hn hn1 ok.ring (by omega) h.fin ok.fin) ?_
 simp [go_sem]
 refine zab (z2h a.ring a.arcs n hn hn1 hl fun x hx => ⟨h.arcs x hx, (ok.arcs x hx).2.2.2.2.2.2⟩) ?_
 simp [go_sem, GAuto.nf]
end Go.Ab
namespace Go.Ab
open Enc (enc)
theorem zn4 (x y : GTArc) : Sp P F.c9 [enc x, enc y] (.pure (.int .i64 (lexI x.key y.key))) := by
 rw [<- zjs x.key y.key rfl, show List.zipWith cmpI x.key y.key = [cmpI x.f y.f, cmpI x.i y.i, cmpI x.o y.o, cmpI x.t y.t] from rfl]
 refine Sp.vz c.c9 fun _ => ?_
 simp [g.c9, go_sem]
 refine zaa (ze3 x.f y.f) rfl ?_
 simp [go_sem]
 refine zaa (ze3 x.i y.i) rfl ?_
 simp [go_sem]
 refine zaa (ze3 x.o y.o) rfl ?_
 simp [go_sem]
 refine zaa (ze3 x.t y.t) rfl ?_
 simp [go_sem]
 refine zab (zwe [cmpI x.f y.f, cmpI x.i y.i, cmpI x.o y.o, cmpI x.t y.t] (by simp)) ?_
 simp [go_sem]
theorem zo3 (r : GRing) (w : GW) (hw : w.sm 1048576) : Sp P F.gv [enc w, .ref (enc r)] (.pure (.bool (!decide (w.chk r)))) := by
 refine Sp.of_vmW c.gv (by simp) (Weak.openRef (t := 1) (v := enc r) (n := 2) (by simp [go_sem]) (by simp [go_sem])) ?_
 simp [g.gv, go_sem]
 refine zab (zg2 r w hw) ?_
 simp [go_sem]
theorem zk6 (r : GRing) (l : List GW) (m : Int) (hl : ∀ w ∈ l, w.sm 1048576) (hlen : l.length <= 2147483648) : Sp P F.ka [enc r, .sl (ens l), .int .i64 m] (.pure (.bool (decide ((l.length : Int) = m /\ ∀ w ∈ l, w.chk r)))) := by
 refine Sp.vz c.ka fun _ => ?_
 have e : decide ((l.length : Int) = m /\ ∀ w ∈ l, w.chk r) = (decide ((l.length : Int) = m) && !l.any fun w => !decide (w.chk r)) := by
  rw [Bool.eq_iff_iff]; simp
 rw [e]
 simp [g.ka, go_sem]
 refine ⟨fun h => ?_, fun h => by simp [h]⟩
 refine zaa (zhm l F.gv [.ref (enc r)] (fun w => !decide (w.chk r)) (by omega) fun w hw => zo3 r w (hl w hw)) (by simp [go_sem, ze9, zjb]) ?_
 simp [go_sem, h]
theorem zld (m : Int) : Sp P F.j9 [.int .i64 m] (.pure (.bool (decide (1 <= m /\ m <= 32)))) := by
 refine Sp.vz c.j9 fun _ => ?_
 simp [g.j9, go_sem]
 exact ⟨fun h _ => h, fun h h' => by omega⟩
end Go.Ab
namespace Go.Ab
open Enc (enc)
theorem zwo (x : GTArc) (r : GRing) (hw : x.w.sm 1048576) : Sp P F.ge [enc x, .ref (enc r)] (.pure (.bool (decide (x.w = r.zero)))) := by
 refine Sp.of_vmW c.ge (by simp) (Weak.openRef (t := 1) (v := enc r) (n := 2) (by simp [go_sem]) (by simp [go_sem])) ?_
 simp [g.ge, go_sem]
 refine zab (zoj r x.w hw) ?_
 simp [go_sem]
def upT (r : GRing) (z y : GTArc) : GTArc := ⟨z.f, z.i, z.o, z.t, r.plus z.w y.w⟩
noncomputable def tidT (r : GRing) (l : List GTArc) : List GTArc := (mrg GTArc.key (upT r) id (srt GTArc.key l)).filter fun x => !decide (x.w = r.zero)
theorem zlc {r : GRing} {n : Nat} (hn1 : 1 <= n) {l : List GTArc} (h : ∀ x ∈ l, x.w.sm n /\ x.w.chk r) (k : Nat) (hk : k <= l.length) :
  (mrg GTArc.key (upT r) id (l.take k)).length <= k /\ ∀ x ∈ mrg GTArc.key (upT r) id (l.take k), x.w.sm ((k + 1) * (n + 1)) /\ x.w.chk r := by
 refine zl5 (up := upT r) (nw := id) (Q := fun k x => x.w.sm ((k + 1) * (n + 1)) /\ x.w.chk r) (fun k x hx => ⟨hx.1.mono (Nat.mul_le_mul_right _ (by omega)), hx.2⟩) (fun x hx => ⟨(h x hx).1.mono (by omega), (h x hx).2⟩) (fun k z x hx hz => ⟨?_, (zd0 hz.2 (h x hx).2 : (r.plus z.w x.w).chk r)⟩) (fun k x hx => ⟨hx.1.mono (Nat.mul_le_mul_right _ (by omega)), hx.2⟩) k hk
 have := zto hz.1 (h x hx).1 hz.2 (h x hx).2 (Nat.le_trans hn1 (by rw [Nat.add_mul]; omega)) hn1
 have e : (k + 1) * (n + 1) + n + 1 = (k + 1 + 1) * (n + 1) := by rw [Nat.add_mul (k + 1) 1]; omega
 rw [<- e]; exact this
theorem z2g (r : GRing) (l : List GTArc) (n : Nat) (hn : n <= 90) (hn1 : 3 <= n) (hl : l.length <= 19) (h : ∀ x ∈ l, x.w.sm n /\ x.w.chk r) :
  Sp P F.jy [enc r, .sl (ens l)] (.pure (.sl (ens (tidT r l)))) := by
 have hs := zax (key := GTArc.key) l
 have h' : ∀ x ∈ srt GTArc.key l, x.w.sm n /\ x.w.chk r := fun x hx => h x ((hs.2.2 x).1 hx)
 have inv := zlc (by omega) h'
 unfold tidT
 generalize hS : srt GTArc.key l = S at *
 have hSl : S.length = l.length := hs.2.1
 have hone : ∀ x : GTArc, (enc x).cells.all PV.one = true := fun x => by simp [go_sem, PV.cells]
 refine Sp.vz c.jy fun _ => ?_
 simp [g.jy, go_sem]
 refine zkg (znj l (by omega)) (by simp [go_sem]) ⟨zc8 _ _ rfl, by decide, by simp [ens, LIM]; omega⟩ (by simp [go_sem]) ?_
 simp [go_sem]
 refine zoz (zm6 rfl hone GTArc.key F.c9 l hl fun x hx y hy => ⟨_, zn4 x y, zpu rfl⟩) (by simp [go_sem]) rfl rfl (by simp) (by simp [go_sem]) (by simp [go_sem, hS, hSl]) rfl (zc8 _ _ rfl) (cells_one hone _) (by simp [go_sem]) ?_
 simp [go_sem]
 rw [hS]
 have hone' : 3 <= n + 1 := by omega
 refine zah (S := fun k : Nat => mkSt [(2, .ptr 2 0 0 0), (6, .own 1 0 0 (mrg GTArc.key (upT r) id (S.take k)).length), (14, .own 3 0 0 S.length), (15, .p (.int .i64 S.length)), (16, .p (.int .i64 k))] [(2, ⟨2, [.p (enc r)]⟩), (1, ⟨12, avs (mrg GTArc.key (upT r) id (S.take k))⟩), (3, ⟨12, avs S⟩)]) (I := fun k => k <= S.length) (m := fun k => S.length - k) 0
  (Weak.nl 6 77 12 rfl (Weak.to [2, 6, 14, 15, 16] [((2, 0), 2), ((77, 0), 1), ((11, 0), 3)] (by simp [go_sem, hSl, mrg]))) (by omega) ?_
 rintro k h1 R hn' hr hx
 have e3 := i64s k (by omega)
 obtain ⟨iv1, iv2⟩ := inv k h1
 generalize hO : mrg GTArc.key (upT r) id (S.take k) = O at *
 by_cases hk : k < S.length
 rotate_left
 ·have : k = S.length := by omega
  subst this
  rw [List.take_of_length_le (Nat.le_refl _)] at hO
  rw [hO] at hx hr
  have hb : (O.length + 1) * (n + 1) <= 1048576 := by
   have := Nat.mul_le_mul (show O.length + 1 <= 20 by omega) (show n + 1 <= 91 by omega)
   omega
  have hb2 : (S.length + 1) * (n + 1) <= 1048576 := by
   have := Nat.mul_le_mul (show S.length + 1 <= 20 by omega) (show n + 1 <= 91 by omega)
   omega
  simp [g.ni, mkSt, go_sem]
  refine hx _ _ ?_
  simp [go_sem]
  refine zoy (zqa F.ge [.ref (enc r)] (fun x => decide (x.w = r.zero)) O (by omega) fun x hx => zwo x r ((iv2 x hx).1.mono hb2)) (by simp [go_sem, ze9, zjb]) rfl rfl (by simp) (by simp [go_sem]) (by simp [go_sem]; have := List.length_filter_le (fun x : GTArc => !decide (x.w = r.zero)) O; omega) rfl (zc8 _ _ rfl) (cells_one hone _) (by simp [go_sem]) (List.length_filter_le _ _) ?_
  generalize hF : O.filter (fun x => !decide (x.w = r.zero)) = F0 at *
  have hFl : F0.length <= O.length := by rw [<- hF]; exact List.length_filter_le _ _
  have hA1 := zut F0 (List.replicate (O.length - F0.length) (⟨0, 0, 0, 0, gw0'⟩ : GTArc))
  have hA2 : F0.length <= (ens (F0 ++ List.replicate (O.length - F0.length) (⟨0, 0, 0, 0, gw0'⟩ : GTArc))).length := by simp [ens]
  generalize ens (F0 ++ List.replicate (O.length - F0.length) (⟨0, 0, 0, 0, gw0'⟩ : GTArc)) = A0 at *
  cases hfl : A0.all PV.flat
  ·simp [go_sem, killAll]
   rw [hA1]; simp [go_sem, hA2]
  ·simp [go_sem, killAll]
   rw [hA1]; simp [go_sem, hA2]
 have hw := h' _ (List.getElem_mem hk)
 have hnx := zfx (key := GTArc.key) (up := upT r) (nw := id) hk
 rw [hO] at hnx
 have cz := zch hw.2.1
 have sz := zs1 (n := n) hw.2.1 hn1
 have pz := zcm hw.2
 rcases List.eq_nil_or_concat O with rfl | ⟨o, z, rfl⟩
 ·simp [g.ni, mkSt, go_sem, hk]
  refine zae hk ?_
  refine zaa (zfo r) rfl ?_
  simp [go_sem]
  refine zab (zfu r S[k].w r.zero n hw.1 sz (by omega) (by omega) hw.2 cz) ?_
  rw [pz]
  simp [go_sem, e3]
  refine hn' (k + 1) _ (Weak.to [2, 6, 14, 15, 16] [((2, 0), 2), ((59, 0), 1), ((3, 0), 3)] ?_) (by omega) (by omega)
  rw [hnx]
  simp [mkSt, go_sem, mst]
 ·have e4 : IntKind.i64.wrap (o.length : Int) = (o.length : Int) := i64w (by omega) (by simp at iv1; omega)
  simp [g.ni, mkSt, go_sem, hk, e4]
  refine zae hk ?_
  refine zaa (zfo r) rfl ?_
  simp [go_sem]
  refine zab (zfu r S[k].w r.zero n hw.1 sz (by omega) (by omega) hw.2 cz) ?_
  rw [pz]
  simp [go_sem, e4]
  refine zab (zn4 z S[k]) ?_
  simp [go_sem, e4]
  have hz := iv2 z (by simp)
  have hb2 : (k + 1) * (n + 1) <= 2000 := by
   have := Nat.mul_le_mul (show k + 1 <= 20 by omega) (show n + 1 <= 91 by omega)
   omega
  have hb3 : n <= (k + 1) * (n + 1) := by rw [Nat.add_mul]; omega
  have hle : lexI z.key S[k].key = 0 ↔ z.key = S[k].key := zjk (by simp [GTArc.key])
  refine ⟨fun h0 => ?_, fun h0 => ?_⟩
  ·rw [List.concat_eq_append, zpn (key := GTArc.key) (z := z) (y := S[k]) (hle.1 h0)] at hnx
   refine zab (zfu r z.w S[k].w _ hz.1 (hw.1.mono hb3) hb2 (by omega) hz.2 hw.2) ?_
   simp [go_sem, e3, e4]
   refine hn' (k + 1) _ (Weak.to [2, 6, 14, 15, 16] [((2, 0), 2), ((1, 0), 1), ((3, 0), 3)] ?_) (by omega) (by omega)
   rw [hnx]
   simp [mkSt, go_sem, upT]
  ·rw [List.concat_eq_append, zl3 (key := GTArc.key) (z := z) (y := S[k]) (fun h => h0 (hle.2 h))] at hnx
   simp [go_sem, e3]
   refine ⟨by simp at iv1; omega, hn' (k + 1) _ (Weak.to [2, 6, 14, 15, 16] [((2, 0), 2), ((59, 0), 1), ((3, 0), 3)] ?_) (by omega) (by omega)⟩
   rw [hnx]
   simp [mkSt, go_sem, upT]
end Go.Ab
namespace Go.Ab
open Enc (enc)
def inT (x : GTArc) (t : GTrans) : Prop := 0 <= x.f /\ x.f < t.st /\ 0 <= x.t /\ x.t < t.st /\ 0 <= x.i /\ x.i <= t.i /\ 0 <= x.o /\ x.o <= t.o /\ x.w.chk t.ring
structure GTrans.ok (t : GTrans) : Prop where
 ring : t.ring.ok = true
 i1 : 1 <= t.i /\ t.i <= 32
 o1 : 1 <= t.o /\ t.o <= 32
 st1 : 0 <= t.st
 st2 : t.st <= 64
 il : (t.ini.length : Int) = t.st
 fl : (t.fin.length : Int) = t.st
 al : t.arcs.length <= 2048
 arcs : ∀ x ∈ t.arcs, inT x t
 ini : ∀ w ∈ t.ini, w.chk t.ring
 fin : ∀ w ∈ t.fin, w.chk t.ring
noncomputable instance (x : GTArc) (a : GTrans) : Decidable (inT x a) := Classical.propDecidable _
noncomputable instance (a : GTrans) : Decidable a.ok := Classical.propDecidable _
structure GTrans.sm (a : GTrans) (n : Nat) : Prop where
 ini : ∀ w ∈ a.ini, w.sm n
 fin : ∀ w ∈ a.fin, w.sm n
 arcs : ∀ x ∈ a.arcs, x.w.sm n
theorem GTrans.sm.mono {a : GTrans} {m n : Nat} (h : a.sm m) (k : m <= n) : a.sm n := ⟨fun w hw => (h.ini w hw).mono k, fun w hw => (h.fin w hw).mono k, fun x hx => (h.arcs x hx).mono k⟩
theorem zqt (t : GTrans) (h : t.sm 1048576) (li : t.ini.length <= 1000000) (lf : t.fin.length <= 1000000) : Sp P F.ft [enc t] (.pure (.bool (decide t.ok))) := by
 refine Sp.vz c.ft fun _ => ?_
 simp [g.ft, go_sem]
 refine zaa (ze5 t.ring) rfl ?_
 cases hr : t.ring.ok
 ·simp [go_sem]; intro ok; rw [ok.ring] at hr; cases hr
 simp [go_sem]
 refine zaa (zld t.i) rfl ?_
 by_cases h1 : 1 <= t.i /\ t.i <= 32
 rotate_left
 ·simp [go_sem, h1]; intro ok; exact h1 ok.i1
 simp [go_sem, h1]
 refine zaa (zld t.o) rfl ?_
 by_cases h2 : 1 <= t.o /\ t.o <= 32
 rotate_left
 ·simp [go_sem, h2]; intro ok; exact h2 ok.o1
 simp [go_sem, h2]
 refine ⟨fun h3 ok => by have := ok.st1; omega, fun h3 => ⟨fun h4 ok => by have := ok.st2; omega, fun h4 => ⟨fun h5 ok => by have := ok.al; omega, fun h5 => ?_⟩⟩⟩
 refine zah (S := fun k : Nat => mkSt [(1, .ptr 1 0 0 0), (38, .p (.sl (ens t.arcs))), (39, .p (.int .i64 t.arcs.length)), (40, .p (.int .i64 k))] [(1, ⟨8, [.p (enc t)]⟩)]) (I := fun k => k <= t.arcs.length /\ ∀ i, (hi : i < t.arcs.length) -> i < k -> inT t.arcs[i] t) (m := fun k => t.arcs.length - k) 0
  (Weak.to [1, 38, 39, 40] [((1, 0), 1)] (by simp [go_sem])) ⟨by omega, fun i _ h0 => by omega⟩ ?_
 rintro k ⟨h6, h7⟩ R hn hr' hx
 have e1 := i64s k (by omega)
 simp [g.qg, mkSt, go_sem]
 refine ⟨fun hk => ?_, fun hk => hx _ _ ?_⟩
 ·refine zae hk ?_
  have hret : ¬ inT t.arcs[k] t -> ¬ t.ok := fun h ok => h (ok.arcs _ (List.getElem_mem hk))
  have hsw : t.arcs[k].w.sm 1048576 := h.arcs _ (List.getElem_mem hk)
  have hnext : inT t.arcs[k] t -> ∀ i, (hi : i < t.arcs.length) -> i < k + 1 -> inT t.arcs[i] t := fun hx i hi h0 => by
   by_cases hik : i < k
   ·exact h7 i hi hik
   ·have : i = k := by omega
    subst this; exact hx
  generalize t.arcs[k] = x at *
  refine ⟨fun h8 => hr' _ ?_, fun h8 => ⟨fun h9 => hr' _ ?_, fun h9 => ⟨fun h10 => hr' _ ?_, fun h10 => ⟨fun h11 => hr' _ ?_, fun h11 => ?_⟩⟩⟩⟩
  ·simp [go_sem]
   refine hret fun hT => ?_
   obtain ⟨a1, a2, a3, a4, a5, a6, a7, a8, a9⟩ := hT
   revert h8; (repeat' split) <;> omega
  ·simp [go_sem]
   refine hret fun hT => ?_
   obtain ⟨a1, a2, a3, a4, a5, a6, a7, a8, a9⟩ := hT
   revert h9; (repeat' split) <;> omega
  ·simp [go_sem]
   exact hret fun hT => by have := hT.2.2.2.2.2.1; omega
  ·simp [go_sem]
   exact hret fun hT => by have := hT.2.2.2.2.2.2.2.1; omega
  have h12 : 0 <= x.f /\ 0 <= x.t /\ 0 <= x.i /\ 0 <= x.o := by revert h8; (repeat' split) <;> intro h8 <;> omega
  have h13 : x.f < t.st /\ x.t < t.st := by revert h9; (repeat' split) <;> intro h9 <;> omega
  refine zab (zg2 t.ring x.w hsw) ?_
  by_cases hc : x.w.chk t.ring
  rotate_left
  ·simp [go_sem, hc]
   refine hr' _ ?_
   simp [go_sem]
   exact hret fun hT => hc hT.2.2.2.2.2.2.2.2
  simp [go_sem, hc, e1]
  exact hn (k + 1) _ (Weak.to [1, 38, 39, 40] [((1, 0), 1)] (by simp [mkSt, go_sem])) ⟨by omega, hnext ⟨h12.1, h13.1, h12.2.1, h13.2, h12.2.2.1, h10, h12.2.2.2, h11, hc⟩⟩ (by omega)
 ·simp [go_sem]
  have hall : ∀ x ∈ t.arcs, inT x t := fun x hx => by
   obtain ⟨i, hi, rfl⟩ := List.mem_iff_getElem.1 hx
   exact h7 i hi (by omega)
  refine zab (zk6 t.ring t.ini t.st h.ini (by omega)) ?_
  by_cases h8 : (t.ini.length : Int) = t.st /\ ∀ w ∈ t.ini, w.chk t.ring
  rotate_left
  ·rw [decide_eq_false h8]; simp [go_sem]
   intro ok; exact h8 ⟨ok.il, ok.ini⟩
  rw [decide_eq_true h8]; simp [go_sem]
  refine zab (zk6 t.ring t.fin t.st h.fin (by omega)) ?_
  by_cases h9 : (t.fin.length : Int) = t.st /\ ∀ w ∈ t.fin, w.chk t.ring
  rotate_left
  ·have : ¬ t.ok := fun ok => h9 ⟨ok.fl, ok.fin⟩
   rw [decide_eq_false h9, decide_eq_false this]; simp [go_sem]
  have ok : t.ok := ⟨hr, h1, h2, h3, h4, h8.1, h9.1, by omega, hall, h8.2, h9.2⟩
  rw [decide_eq_true h9, decide_eq_true ok]; simp [go_sem]
end Go.Ab
namespace Go.Ab
open Enc (enc)
def zt2 : GTrans := ⟨⟨0, []⟩, 0, 0, 0, [], [], []⟩
noncomputable def GTrans.nf (a : GTrans) : GTrans := ⟨a.ring, a.i, a.o, a.st, a.ini, a.fin, tidT a.ring a.arcs⟩
theorem zw1 (a : GTrans) (n : Nat) (hn : n <= 90) (hn1 : 3 <= n) (h : a.sm n) (hl : a.arcs.length <= 19) (li : a.ini.length <= 1000000) (lf : a.fin.length <= 1000000) :
  Sp P F.ff [enc a] (.pure (.tup [enc (if a.ok then a.nf else zt2), .int .i64 (if a.ok then 0 else 4)])) := by
 refine Sp.vz c.ff fun _ => ?_
 simp [g.ff, go_sem]
 refine zab (zqt a (h.mono (by omega)) li lf) ?_
 by_cases ok : a.ok
 rotate_left
 ·rw [decide_eq_false ok, if_neg ok, if_neg ok]; simp [go_sem, zt2]
 rw [decide_eq_true ok, if_pos ok, if_pos ok]
 have i1 := ok.il; have i2 := ok.fl; have i3 := ok.st2
 simp [go_sem]
 refine zab (zox a.ring.parts (by have := zzu ok.ring; omega)) ?_
 simp [go_sem]
 refine zab (zk3 a.ring a.ini n hn hn1 ok.ring (by omega) h.ini ok.ini) ?_
 simp [go_sem]
 refine zab (zk3 a.ring a.fin n hn hn1 ok.ring (by omega) h.fin ok.fin) ?_
 simp [go_sem]
 refine zab (z2g a.ring a.arcs n hn hn1 hl fun x hx => ⟨h.arcs x hx, (ok.arcs x hx).2.2.2.2.2.2.2.2⟩) ?_
 simp [go_sem, GTrans.nf]
end Go.Ab
namespace Go.Ab
open Enc (enc)
def labA (f : GTArc -> Int) (x : GTArc) : GArc := ⟨x.f, f x, x.t, x.w⟩
theorem zme (t : GTrans) (sy : Int) (fid : FuncId) (f : GTArc -> Int) (hf : ∀ x, Sp P fid [enc x] (.pure (.int .i64 (f x)))) (n : Nat) (hn : n <= 90) (hn1 : 3 <= n) (h : t.sm n) (hl : t.arcs.length <= 19) (li : t.ini.length <= 1000000) (lf : t.fin.length <= 1000000) {A : GAuto} (hA : A = ⟨t.ring, sy, t.st, t.ini, t.fin, t.arcs.map (labA f)⟩) {v : GAuto} {e : Int} (h0 : ¬ t.ok -> v = zkb /\ e = 4) (h1 : t.ok -> v = (if A.vb then A.nf else zkb) /\ e = if A.vb then 0 else 4) :
  Sp P F.fg [enc t, .int .i64 sy, .fn fid []] (.pure (.tup [enc v, .int .i64 e])) := by
 refine Sp.vz c.fg fun _ => ?_
 simp [g.fg, go_sem]
 refine zab (zqt t (h.mono (by omega)) li lf) ?_
 by_cases ok : t.ok
 rotate_left
 ·obtain ⟨rfl, rfl⟩ := h0 ok
  rw [decide_eq_false ok]; simp [go_sem, zkb]
 rw [decide_eq_true ok]
 obtain ⟨rfl, rfl⟩ := h1 ok
 have smA : A.sm n := by
  subst hA
  refine ⟨h.ini, h.fin, fun x hx => ?_⟩
  obtain ⟨y, hy, rfl⟩ := List.mem_map.1 hx
  exact h.arcs y hy
 have hnA := zw2 A n hn hn1 smA (by subst hA; simpa using hl)
 generalize (if A.vb = true then A.nf else zkb) = v0 at *
 generalize (if A.vb = true then (0 : Int) else 4) = e0 at *
 simp [go_sem]
 refine zah (S := fun k : Nat => mkSt [(2, .p (.fn fid [])), (6, .ptr 1 0 0 0), (8, .ptr 2 0 0 0), (26, .p (.sl (ens t.arcs))), (27, .p (.int .i64 t.arcs.length)), (28, .p (.int .i64 k))]
   [(1, ⟨7, [.agg [.p (.int .i64 0), .nil, .p (.int .i64 0), .p (.int .i64 0), .nil, .nil, .nil]]⟩), (2, ⟨7, [.agg [.p (.int .i64 t.ring.kind), .p (.sl (ens t.ring.parts)), .p (.int .i64 sy), .p (.int .i64 t.st), .p (.sl (ens t.ini)), .p (.sl (ens t.fin)), .own 3 0 0 k]]⟩), (3, ⟨11, avs ((t.arcs.map (labA f)).take k)⟩)])
  (I := fun k => k <= t.arcs.length) (m := fun k => t.arcs.length - k) 0
  ((Weak.nilCell (s0 := 8) (g0 := 0) (i := 6) (s := 77) (sz := 11) rfl).trans (Weak.to [2, 6, 8, 26, 27, 28] [((6, 0), 1), ((8, 0), 2), ((77, 0), 3)] (by simp [go_sem]))) (by omega) ?_
 rintro k h6 R hn' hr hx
 have e1 := i64s k (by omega)
 simp [g.pn, mkSt, go_sem]
 refine ⟨fun hk => ?_, fun hk => hx _ _ ?_⟩
 ·refine zae hk ?_
  refine zab (hf t.arcs[k]) ?_
  have hts : avs ((t.arcs.map (labA f)).take (k + 1)) = avs ((t.arcs.map (labA f)).take k) ++ [.p (enc (labA f t.arcs[k]))] := by
   rw [List.take_succ_eq_append_getElem (by simpa using hk), zbo]; simp [go_sem]
  simp [go_sem, e1]
  exact ⟨by omega, hn' (k + 1) _ (Weak.to [2, 6, 8, 26, 27, 28] [((1, 0), 1), ((2, 0), 2), ((45, 0), 3)] (by simp [mkSt, go_sem, hts, labA])) (by omega) (by omega)⟩
 ·have : k = t.arcs.length := by omega
  subst this
  have hts : (t.arcs.map (labA f)).take t.arcs.length = t.arcs.map (labA f) := List.take_of_length_le (by simp)
  subst hA
  simp [go_sem]
  refine zaa hnA (by simp [go_sem, hts]) ?_
  simp [go_sem]
theorem z7p (x : GTArc) : Sp P F.fh [enc x] (.pure (.int .i64 x.i)) := by
 refine Sp.vz c.fh fun _ => ?_
 simp [g.fh, go_sem]
theorem z3k (x : GTArc) : Sp P F.fi [enc x] (.pure (.int .i64 x.o)) := by
 refine Sp.vz c.fi fun _ => ?_
 simp [g.fi, go_sem]
noncomputable def zic (t : GTrans) (A : GAuto) : GAuto := if t.ok then (if A.vb then A.nf else zkb) else zkb
noncomputable def zid (t : GTrans) (A : GAuto) : Int := if t.ok then (if A.vb then 0 else 4) else 4
def GTrans.inA (t : GTrans) : GAuto := ⟨t.ring, t.i, t.st, t.ini, t.fin, t.arcs.map (labA GTArc.i)⟩
def GTrans.outA (t : GTrans) : GAuto := ⟨t.ring, t.o, t.st, t.ini, t.fin, t.arcs.map (labA GTArc.o)⟩
theorem zr3 (t : GTrans) (n : Nat) (hn : n <= 90) (hn1 : 3 <= n) (h : t.sm n) (hl : t.arcs.length <= 19) (li : t.ini.length <= 1000000) (lf : t.fin.length <= 1000000) :
  Sp P F.eu [enc t] (.pure (.tup [enc (zic t t.inA), .int .i64 (zid t t.inA)])) := by
 refine Sp.vz c.eu fun _ => ?_
 simp [g.eu, go_sem]
 refine zab (zme t t.i F.fh GTArc.i z7p n hn hn1 h hl li lf (A := t.inA) (v := zic t t.inA) (e := zid t t.inA) rfl (fun h => by simp [zic, zid, h]) (fun h => by simp [zic, zid, h])) ?_
 simp [go_sem]
theorem zwx (t : GTrans) (n : Nat) (hn : n <= 90) (hn1 : 3 <= n) (h : t.sm n) (hl : t.arcs.length <= 19) (li : t.ini.length <= 1000000) (lf : t.fin.length <= 1000000) :
  Sp P F.jk [enc t] (.pure (.tup [enc (zic t t.outA), .int .i64 (zid t t.outA)])) := by
 refine Sp.vz c.jk fun _ => ?_
 simp [g.jk, go_sem]
 refine zab (zme t t.o F.fi GTArc.o z3k n hn hn1 h hl li lf (A := t.outA) (v := zic t t.outA) (e := zid t t.outA) rfl (fun h => by simp [zic, zid, h]) (fun h => by simp [zic, zid, h])) ?_
 simp [go_sem]
end Go.Ab
namespace Go.Ab
open Enc (enc)
def swT (x : GTArc) : GTArc := ⟨x.f, x.o, x.i, x.t, x.w⟩
def GTrans.inv (t : GTrans) : GTrans := ⟨t.ring, t.o, t.i, t.st, t.ini, t.fin, t.arcs.map swT⟩
noncomputable def trV (t : GTrans) : GTrans := if t.ok then t.nf else zt2
noncomputable def trE (t : GTrans) : Int := if t.ok then 0 else 4
theorem zok (t : GTrans) (n : Nat) (hn : n <= 90) (hn1 : 3 <= n) (h : t.sm n) (hl : t.arcs.length <= 19) (li : t.ini.length <= 1000000) (lf : t.fin.length <= 1000000) :
  Sp P F.jj [enc t] (.pure (.tup [enc (trV t.inv), .int .i64 (trE t.inv)])) := by
 have smA : t.inv.sm n := by
  refine ⟨h.ini, h.fin, fun x hx => ?_⟩
  obtain ⟨y, hy, rfl⟩ := List.mem_map.1 hx
  exact h.arcs y hy
 have hnA := zw1 t.inv n hn hn1 smA (by simpa [GTrans.inv] using hl) li lf
 change Sp P F.ff [enc t.inv] (.pure (.tup [enc (trV t.inv), .int .i64 (trE t.inv)])) at hnA
 generalize trV t.inv = v0 at *
 generalize trE t.inv = e0 at *
 refine Sp.vz c.jj fun _ => ?_
 simp [g.jj, go_sem]
 refine zah (S := fun k : Nat => mkSt [(2, .ptr 1 0 0 0), (4, .ptr 2 0 0 0), (16, .p (.sl (ens t.arcs))), (17, .p (.int .i64 t.arcs.length)), (18, .p (.int .i64 k))]
   [(1, ⟨8, [.agg [.p (.int .i64 0), .nil, .p (.int .i64 0), .p (.int .i64 0), .p (.int .i64 0), .nil, .nil, .nil]]⟩), (2, ⟨8, [.agg [.p (.int .i64 t.ring.kind), .p (.sl (ens t.ring.parts)), .p (.int .i64 t.o), .p (.int .i64 t.i), .p (.int .i64 t.st), .p (.sl (ens t.ini)), .p (.sl (ens t.fin)), .own 3 0 0 k]]⟩), (3, ⟨12, avs ((t.arcs.map swT).take k)⟩)])
  (I := fun k => k <= t.arcs.length) (m := fun k => t.arcs.length - k) 0
  ((Weak.nilCell (s0 := 4) (g0 := 0) (i := 7) (s := 77) (sz := 12) rfl).trans (Weak.to [2, 4, 16, 17, 18] [((2, 0), 1), ((4, 0), 2), ((77, 0), 3)] (by simp [go_sem]))) (by omega) ?_
 rintro k h6 R hn' hr hx
 have e1 := i64s k (by omega)
 simp [g.pe, mkSt, go_sem]
 refine ⟨fun hk => ?_, fun hk => hx _ _ ?_⟩
 ·refine zae hk ?_
  have hts : avs ((t.arcs.map swT).take (k + 1)) = avs ((t.arcs.map swT).take k) ++ [.p (enc (swT t.arcs[k]))] := by
   rw [List.take_succ_eq_append_getElem (by simpa using hk), zbo]; simp [go_sem]
  simp [go_sem, e1]
  exact ⟨by omega, hn' (k + 1) _ (Weak.to [2, 4, 16, 17, 18] [((1, 0), 1), ((2, 0), 2), ((32, 0), 3)] (by simp [mkSt, go_sem, hts, swT])) (by omega) (by omega)⟩
 ·have : k = t.arcs.length := by omega
  subst this
  have hts : (t.arcs.map swT).take t.arcs.length = t.arcs.map swT := List.take_of_length_le (by simp)
  simp [go_sem]
  refine zaa hnA (by simp [go_sem, hts, GTrans.inv]) ?_
  simp [go_sem]
end Go.Ab
namespace Go.Ab
section
variable {α : Type} {key : α -> List Int} {wt : α -> GW} {r : GRing} {up : α -> α -> α} (hr : r.ok = true) (hk : ∀ z y, key (up z y) = key z) (hw : ∀ z y, wt (up z y) = r.plus (wt z) (wt y))
def atK (key : α -> List Int) (wt : α -> GW) (r : GRing) (l : List α) (k : List Int) : GW := atQ key wt r l fun x => decide (x = k)
theorem zqm {L : List α} {k : List Int} (h : ∀ x ∈ L, key x ≠ k) : atK key wt r L k = r.zero := by
 unfold atK atQ
 rw [List.filter_eq_nil_iff.2 fun x hx => by simpa using h x hx]; rfl
theorem zm2 {L : List α} (s : SSrt key L) (c : ∀ x ∈ L, (wt x).chk r) {x : α} (hx : x ∈ L) : atK key wt r L (key x) = wt x := by
 induction L with
 | nil => cases hx
 | cons z t ih =>
  have s' := List.pairwise_cons.1 s
  unfold atK
  rw [zb6]
  simp only [decide_eq_true_eq]
  rcases List.mem_cons.1 hx with rfl | hx'
  ·rw [if_pos rfl, show atQ key wt r t (fun a => decide (a = key x)) = r.zero from zqm (wt := wt) (r := r) fun y hy h => by have := s'.1 y hy; rw [h] at this; exact List.lt_irrefl _ this]
   exact zcm (c x (by simp))
  ·have hne : ¬ key z = key x := fun h => by have := s'.1 x hx'; rw [h] at this; exact List.lt_irrefl _ this
   rw [if_neg hne]
   exact ih s'.2 (fun y hy => c y (by simp [hy])) hx'
theorem ztb : ∀ {L L' : List α}, SSrt key L -> SSrt key L' -> (∀ x, x ∈ L ↔ x ∈ L') -> L = L'
 | [], [], _, _, _ => rfl
 | [], y :: t, _, _, h => by have := (h y).2 (by simp); cases this
 | x :: t, [], _, _, h => by have := (h x).1 (by simp); cases this
 | x :: t, y :: t', s, s', h => by
  have p := List.pairwise_cons.1 s
  have p' := List.pairwise_cons.1 s'
  have exy : x = y := by
   rcases List.mem_cons.1 ((h x).1 (by simp)) with e | hx
   ·exact e
   ·rcases List.mem_cons.1 ((h y).2 (by simp)) with e | hy
    ·exact e.symm
    ·exact absurd (p'.1 x hx) (List.lt_asymm (p.1 y hy))
  subst exy
  congr 1
  refine ztb p.2 p'.2 fun z => ⟨fun hz => ?_, fun hz => ?_⟩
  ·rcases List.mem_cons.1 ((h z).1 (by simp [hz])) with e | h1
   ·have := p.1 z hz; rw [e] at this; exact absurd this (List.lt_irrefl _)
   ·exact h1
  ·rcases List.mem_cons.1 ((h z).2 (by simp [hz])) with e | h1
   ·have := p'.1 z hz; rw [e] at this; exact absurd this (List.lt_irrefl _)
   ·exact h1
theorem z4g (ext : ∀ x y, key x = key y -> wt x = wt y -> x = y) {L L' : List α} (s : SSrt key L) (s' : SSrt key L') (c : ∀ x ∈ L, (wt x).chk r) (c' : ∀ x ∈ L', (wt x).chk r) (n : ∀ x ∈ L, wt x ≠ r.zero) (n' : ∀ x ∈ L', wt x ≠ r.zero) (h : ∀ k, atK key wt r L k = atK key wt r L' k) : L = L' := by
 have one : ∀ {L L' : List α}, SSrt key L -> SSrt key L' -> (∀ x ∈ L, (wt x).chk r) -> (∀ x ∈ L', (wt x).chk r) -> (∀ x ∈ L, wt x ≠ r.zero) -> (∀ k, atK key wt r L k = atK key wt r L' k) -> ∀ x ∈ L, x ∈ L' := by
  intro L L' s s' c c' n h x hx
  have h1 := h (key x)
  rw [zm2 s c hx] at h1
  by_cases he : ∃ y ∈ L', key y = key x
  ·obtain ⟨y, hy, e⟩ := he
   have h2 := zm2 s' c' hy
   rw [e, <- h1] at h2
   rw [ext x y e.symm h2]; exact hy
  ·rw [zqm (wt := wt) (r := r) fun y hy e => he ⟨y, hy, e⟩] at h1
   exact absurd h1 (n x hx)
 exact ztb s s' fun x => ⟨one s s' c c' n h x, one s' s c' c n' (fun k => (h k).symm) x⟩
include hr in
theorem zxu {l : List α} (h : ∀ x ∈ l, (wt x).chk r) (p : List Int -> Bool) : atQ key wt r (l.filter fun x => !decide (wt x = r.zero)) p = atQ key wt r l p := by
 induction l with
 | nil => rfl
 | cons x l ih =>
  have ih' := ih fun y hy => h y (by simp [hy])
  by_cases hz : wt x = r.zero
  ·rw [List.filter_cons_of_neg (by simp [hz]), ih', zb6]
   split
   ·rw [hz, zk4 hr (zuf hr (fun y hy => h y (by simp [hy])) p)]
   ·rfl
  ·rw [List.filter_cons_of_pos (by simp [hz]), zb6, zb6, ih']
noncomputable def tid (key : α -> List Int) (wt : α -> GW) (r : GRing) (up : α -> α -> α) (l : List α) : List α := (mrg key up id (srt key l)).filter fun x => !decide (wt x = r.zero)
include hr hk hw in
theorem zkr {l : List α} (h : ∀ x ∈ l, (wt x).chk r) : SSrt key (tid key wt r up l) /\ (∀ x ∈ tid key wt r up l, (wt x).chk r /\ wt x ≠ r.zero) /\ ∀ p, atQ key wt r (tid key wt r up l) p = atQ key wt r l p := by
 have hm := (zz3 (key := key) (up := up) (nw := id) hk (fun _ => rfl) l)
 have hs := (zhb (key := key) (up := up) (nw := id) hk (fun _ => rfl) _ (srt key l) rfl hm.2).1
 have hn := fun p => z1t (key := key) (up := up) hr hk hw h p l.length (Nat.le_refl _)
 rw [List.take_length] at hn
 have e : mrg key up id (srt key l) = nfm key up id l := hm.1
 unfold tid
 refine ⟨List.Pairwise.filter _ hs, fun x hx => ?_, fun p => ?_⟩
 ·have := List.mem_filter.1 hx
  rw [e] at this
  exact ⟨(hn fun _ => true).1 x this.1, by simpa using this.2⟩
 ·rw [e, zxu hr (hn p).1, (hn p).2]
include hr hk hw in
theorem zs6 (ext : ∀ x y, key x = key y -> wt x = wt y -> x = y) {l l' : List α} (h : ∀ x ∈ l, (wt x).chk r) (h' : ∀ x ∈ l', (wt x).chk r) (he : ∀ p, atQ key wt r l p = atQ key wt r l' p) : tid key wt r up l = tid key wt r up l' := by
 obtain ⟨a1, a2, a3⟩ := zkr (up := up) hr hk hw h
 obtain ⟨b1, b2, b3⟩ := zkr (up := up) hr hk hw h'
 exact z4g ext a1 b1 (fun x hx => (a2 x hx).1) (fun x hx => (b2 x hx).1) (fun x hx => (a2 x hx).2) (fun x hx => (b2 x hx).2) fun k => by unfold atK; rw [a3, b3, he]
end
theorem zjx {α β : Type} {key : α -> List Int} {wt : α -> GW} {keyb : β -> List Int} {wtb : β -> GW} {r : GRing} (f : α -> β) (g : List Int -> List Int) (hkey : ∀ x, keyb (f x) = g (key x)) (hwt : ∀ x, wtb (f x) = wt x) (l : List α) (p : List Int -> Bool) : atQ keyb wtb r (l.map f) p = atQ key wt r l fun k => p (g k) := by
 induction l with
 | nil => rfl
 | cons x l ih => rw [List.map_cons, zb6, zb6, ih, hkey, hwt]
theorem zyg (r : GRing) (l : List GTArc) : tidT r l = tid GTArc.key GTArc.w r (upT r) l := rfl
end Go.Ab
