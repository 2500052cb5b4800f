/-
Proofs for the law ProjectSides of the seat, part 8 (texts Fw23 Fw24 Fw25 Fw26). Conditions: none.
-/
import Derived.Test.YtalcegbealdigaaGreatDoorP07
set_option maxRecDepth 100000
set_option maxHeartbeats 4000000
set_option linter.all false
namespace Go.Ab
def St.freeze? (st : St) (t : Nat) : Option St :=
 match toPV st FUEL (st.get t) with
 | some p => some ((killAll st (deps st FUEL (st.get t))).put (some t) (.p p))
 | none => none
def St.nilSlot? (st : St) (t s sz : Nat) : Option St :=
 match st.get t with
 | .nil => if 0 < sz then some ((st.alloc s ⟨sz, []⟩).put (some t) (.own s (st.site s).length 0 0)) else none
 | _ => none
def nilIn (e : AV) (osz i : Nat) (r : AV) : Option AV :=
 if osz = 1 then (match e with | .nil => some r | _ => none)
 else match e.cells[i]? with
  | some .nil => some (.agg (e.cells.set i r))
  | _ => none
def St.nilCell? (st : St) (s0 g0 i s sz : Nat) : Option St :=
 match st.obj s0 g0 with
 | some o => match o.es with
  | [e] => if 0 < sz ∧ s ≠ s0 then (match nilIn e o.sz i (.own s (st.site s).length 0 0) with
   | some e' => some ((st.alloc s ⟨sz, []⟩).setObj s0 g0 ⟨o.sz, [e']⟩)
   | none => none) else none
  | _ => none
 | none => none
section
variable {P : Program} {K : Ctx} {Z Z' : Cz} {st st' st1 st2 : St} {w w' : World} {a : Act} {N : Nat}
theorem Keep.refl (w : World) (X : Nat -> Prop) : Keep w w X := ⟨rfl, rfl, rfl, Nat.le_refl _, Nat.le_refl _, fun _ _ _ => rfl⟩
theorem Weak.freeze {t : Nat} (h : st.freeze? t = some st') : Weak st st' := by
 intro K Z w a hs
 unfold St.freeze? at h
 split at h
 ·rename_i p hp
  cases h
  generalize hids : deps st FUEL (st.get t) = ids
  have hM : ∀ b o, Z.M b = some o -> Mx Z st w ids b = some o := fun b o hb => Mx_M hb
  have hz : ZLe Z st { Z with M := Mx Z st w ids } (killAll st ids) := (ZLe.killAll ids st).trans (ZLe.growM hM)
  have hh : HRep K { Z with M := Mx Z st w ids } (killAll st ids) w := by
   refine (HRep.killAll ids hs.heap).grow (Keep.refl w _) _ hM (fun b o hb => ?_) (fun b o hb => ?_) (fun s g o b ho hb => ?_)
   ·rcases Mx_spec hb with h | ⟨_, h, _⟩
    ·exact hs.heap.mem b o h
    ·exact h
   ·rcases Mx_spec hb with h | ⟨_, _, s, g, ob, _, e2, e3⟩
    ·exact .inl h
    ·exact .inr (hs.heap.own s g ob b e2 e3)
   ·obtain ⟨ho1, ho2⟩ := obj_killAll ids st ho
    cases hm : Mx Z st w ids b with
    | none => rfl
    | some y =>
     exfalso
     rcases Mx_spec hm with h | ⟨_, _, s', g', ob, e1, e2, e3⟩
     ·rw [hs.heap.sep s g o b ho1 hb] at h; cases h
     ·obtain ⟨rfl, rfl⟩ := hs.heap.inj s g s' g' o ob b ho1 e2 hb e3
      exact ho2 e1
  have hpr : PRep (Mx Z st w ids) p (a.tmps.getD t Go.undef) := toPV_ok hs.heap ids FUEL _ _ _ (hs.slots t) hp (fun i hi => by rw [<- hids]; exact hi)
  refine ⟨{ Z with M := Mx Z st w ids }, ⟨fun u => ?_, hs.defers, hs.size, hh.of_site (fun i => site_put _ _ _ i)⟩, .of_zle (hz.trans (zle_site (fun i => site_put _ _ _ i) _))⟩
  rw [get_put]
  split
  ·rename_i hu
   cases hu
   exact .p _ _ hpr
  ·rw [get_sl (sl_killAll ids st)]
   exact ARep.mono (zle_site (fun i => site_put _ _ _ i) _) (ARep.mono hz (hs.slots u))
 ·cases h
theorem Weak.nilSlot {t s sz : Nat} (h : st.nilSlot? t s sz = some st') : Weak st st' := by
 intro K Z w a hs
 unfold St.nilSlot? at h
 split at h
 ·rename_i hn
  split at h
  ·rename_i hp
   cases h
   have hh := hs.heap.allocNil s sz hp
   have hz := ZLe.alloc Z st s ⟨sz, []⟩ none 0
   have hx : a.tmps.getD t Go.undef = .slice none 0 0 := by
    have := hs.slots t
    rw [hn] at this
    generalize a.tmps.getD t Go.undef = x at this ⊢
    cases this; rfl
   refine ⟨_, ⟨fun u => ?_, hs.defers, hs.size, hh.of_site (fun i => site_put _ _ _ i)⟩, .of_zle (hz.trans (zle_site (fun i => site_put _ _ _ i) _))⟩
   rw [get_put]
   refine ARep.mono (zle_site (s := st.alloc s ⟨sz, []⟩) (fun i => site_put _ _ _ i) _) ?_
   split
   ·rename_i hu
    cases hu
    rw [hx]
    exact .own0 s _ ⟨sz, []⟩ (by rw [obj_alloc, if_pos ⟨rfl, rfl⟩]) (by simp [Cz.setB])
   ·exact ARep.mono hz (hs.slots u)
  ·cases h
 ·cases h
theorem HRep.same (h : HRep K Z st w) {s g : Nat} {o : AObj} (ho : st.obj s g = some o) {es : List AV} (hl : es.length = o.es.length) (h2 : ∀ e ∈ es, e.sz = o.sz) (h3 : ∀ c ∈ es.flatMap AV.cells, c.one = true)
  (h4 : ∀ vals, AReps Z st (o.es.flatMap AV.cells) vals -> AReps Z st (es.flatMap AV.cells) vals) : HRep K Z (st.setObj s g ⟨o.sz, es⟩) w := by
 have hg := obj_lt ho
 have hz := ZLe.setObj Z st s g o ⟨o.sz, es⟩ ho rfl hl
 have old : ∀ {s' g' : Nat} {o' : AObj}, (st.setObj s g ⟨o.sz, es⟩).obj s' g' = some o' -> ∃ o0, st.obj s' g' = some o0 := by
  intro s' g' o' ho'
  rw [obj_setObj _ _ _ _ _ _ hg] at ho'
  split at ho'
  ·rename_i hc; obtain ⟨rfl, rfl⟩ := hc; exact ⟨o, ho⟩
  ·exact ⟨o', ho'⟩
 refine ⟨fun s' g' o' ho' => ?_, fun s' g' s'' g'' o' o'' b a1 a2 b1 b2 => ?_, h.mem, fun s' g' o' b a1 b1 => ?_, fun s' g' o' b a1 b1 => ?_, h.m0, h.prov, h.keep⟩
 ·rw [obj_setObj _ _ _ _ _ _ hg] at ho'
  split at ho'
  ·rename_i hc
   obtain ⟨rfl, rfl⟩ := hc
   cases ho'
   obtain ⟨k1, k2, k3, k4, k5⟩ := h.objs s' g' o ho
   refine ⟨k1, h2, h3, fun hb => List.eq_nil_of_length_eq_zero (by rw [hl, k4 hb]; rfl), fun b hb => ?_⟩
   obtain ⟨cur, T, vals, e1, e2, e3, e4, e5, e6⟩ := k5 b hb
   exact ⟨cur, T, vals, e1, AReps.mono hz (h4 vals e2), e3, e4, by simpa [hl] using e5, e6⟩
  ·exact (h.objs s' g' o' ho').later hz rfl rfl (fun _ _ => rfl)
 ·obtain ⟨o1, c1⟩ := old a1
  obtain ⟨o2, c2⟩ := old a2
  exact h.inj _ _ _ _ _ _ b c1 c2 b1 b2
 ·obtain ⟨o1, c1⟩ := old a1; exact h.sep _ _ _ b c1 b1
 ·obtain ⟨o1, c1⟩ := old a1; exact h.own _ _ _ b c1 b1
theorem AReps.set {vs : List AV} {xs : List Value} (i : Nat) {r : AV} (h : AReps Z st vs xs) (hr : ∀ x, xs[i]? = some x -> ARep Z st r x) : AReps Z st (vs.set i r) xs := by
 induction i generalizing vs xs with
 | zero =>
  cases h with
  | nil => exact .nil
  | cons v x vs xs h hs => exact .cons _ _ _ _ (hr x rfl) hs
 | succ i ih =>
  cases h with
  | nil => exact .nil
  | cons v x vs xs h hs => exact .cons _ _ _ _ h (ih hs (fun y hy => hr y hy))
theorem Weak.nilCell {s0 g0 i s sz : Nat} (h : st.nilCell? s0 g0 i s sz = some st') : Weak st st' := by
 intro K Z w a hs
 unfold St.nilCell? at h
 split at h
 ·rename_i o ho
  split at h
  ·rename_i e hes
   split at h
   ·rename_i hc
    obtain ⟨hp, hne⟩ := hc
    split at h
    ·rename_i e' he'
     cases h
     have hh := hs.heap.allocNil s sz hp
     have hz := ZLe.alloc Z st s ⟨sz, []⟩ none 0
     generalize hZ : Z.setB s (st.site s).length none 0 = Z1 at hh hz
     have hown : ARep Z1 (st.alloc s ⟨sz, []⟩) (.own s (st.site s).length 0 0) (.slice none 0 0) := .own0 s _ ⟨sz, []⟩ (by rw [obj_alloc, if_pos ⟨rfl, rfl⟩]) (by rw [<- hZ]; simp [Cz.setB])
     have ho1 : (st.alloc s ⟨sz, []⟩).obj s0 g0 = some o := by rw [obj_alloc, if_neg (by rintro ⟨rfl, _⟩; exact hne rfl)]; exact ho
     have hO := hs.heap.objs s0 g0 o ho
     have hesz := hO.els e (by simp [hes])
     have heone : ∀ c ∈ e.cells, c.one = true := fun c hc => hO.one c (by simp [hes, hc])
     have hnil : ∀ x, ARep Z1 (st.alloc s ⟨sz, []⟩) .nil x -> x = .slice none 0 0 := fun x hx => by cases hx; rfl
     have facts : e'.sz = o.sz ∧ (∀ c ∈ e'.cells, c.one = true) ∧ ∀ vals, AReps Z1 (st.alloc s ⟨sz, []⟩) e.cells vals -> AReps Z1 (st.alloc s ⟨sz, []⟩) e'.cells vals := by
      unfold nilIn at he'
      split at he'
      ·rename_i h1
       split at he'
       ·cases he'
        refine ⟨by rw [h1]; rfl, by simp [AV.cells, AV.one], fun vals hv => ?_⟩
        simp only [AV.cells] at hv ⊢
        cases hv with
        | cons _ x _ _ hx hr => cases hr; have := hnil x hx; subst this; exact .cons _ _ _ _ hown .nil
       ·cases he'
      ·rename_i h1
       split at he'
       ·rename_i hi
        cases he'
        have hpos := hO.pos
        have hlen : e.cells.length = o.sz := by rw [AV.cells_len (by omega)]; exact hesz
        refine ⟨?_, fun c hc => ?_, fun vals hv => ?_⟩
        ·simp only [AV.sz, List.length_set, hlen]; rw [if_neg (by omega)]
        ·simp only [AV.cells] at hc
         rcases List.mem_or_eq_of_mem_set hc with h | h
         ·exact heone c h
         ·rw [h]; rfl
        ·simp only [AV.cells] at hv ⊢
         refine hv.set i (fun x hx => ?_)
         obtain ⟨y, hy, hr⟩ := hv.get i .nil hi
         rw [hx] at hy; cases hy
         rw [hnil x hr]; exact hown
       ·cases he'
     obtain ⟨f1, f2, f3⟩ := facts
     have hsame := hh.same ho1 (es := [e']) (by rw [hes]; rfl) (by simpa using f1) (by simpa using f2) (fun vals hv => by rw [hes] at hv; simpa using f3 vals (by simpa using hv))
     have hz2 := ZLe.setObj Z1 (st.alloc s ⟨sz, []⟩) s0 g0 o ⟨o.sz, [e']⟩ ho1 rfl (by rw [hes]; rfl)
     exact ⟨Z1, ⟨fun u => ARep.mono (hz.trans hz2) (hs.slots u), hs.defers, hs.size, hsame⟩, .of_zle (hz.trans hz2)⟩
    ·cases h
   ·cases h
  ·cases h
 ·cases h
end
end Go.Ab
namespace Go.Ab
def initSl : Nat -> List PV -> List (Nat × AV)
 | _, [] => []
 | i, v :: r => (i, .p v) :: initSl (i + 1) r
def initSt (args : List PV) : St := ⟨initSl 0 args, []⟩
def compRes (P : Program) : List ResultVar -> Option (List (Nat × Option Nat))
 | [] => some []
 | .tmp t :: r => (compRes P r).map ((t, none) :: ·)
 | .cell a t :: r => if tok P t (tsz P t) (tagg P t) = true then (compRes P r).map ((a, some (tsz P t)) :: ·) else none
def resVal (st : St) (t : Nat) (c : Option Nat) : Option AV :=
 match c with
 | none => some (st.get t)
 | some sz => match st.get t with
  | .ptr s g ix off => match st.obj s g with
   | some o => match o.es[ix]? with
    | some e => if off = 0 ∧ sz = o.sz then some e else none
    | none => none
   | none => none
  | _ => none
def resVals (st : St) : List (Nat × Option Nat) -> Option (List AV)
 | [] => some []
 | (t, c) :: r => match resVal st t c, resVals st r with
  | some v, some l => some (v :: l)
  | _, _ => none
def resOf : List AV -> AV
 | [v] => v
 | vs => .tup vs
structure FnC where
 N : Nat
 np : Nat
 body : AC
 res : List (Nat × Option Nat)
def compFn (P : Program) (f : FuncId) : Option FnC :=
 match P.funcs[f]? with
 | some fn => if fn.name ≠ "runtime.NumGoroutine" then match fn.body with
  | some c => match comp P fn.ntmps c, compRes P fn.results.toList with
   | some b, some r => some ⟨fn.ntmps, fn.params.size + fn.nfree, b, r⟩
   | _, _ => none
  | none => none
  else none
 | none => none
inductive ResOk (st : St) : AV -> RV -> Prop
 | pure (v : AV) (p : PV) : toPV st FUEL v = some p -> ResOk st v (.pure p)
 | fresh (s g len : Nat) (o : AObj) (es : List PV) : st.obj s g = some o -> len = o.es.length -> o.es = es.map .p -> ResOk st (.own s g 0 len) (.fresh o.sz es)
 | nil (sz : Nat) : ResOk st .nil (.fresh sz [])
section
variable {P : Program} {K : Ctx} {Z Z' : Cz} {st st' st1 st2 : St} {w w' : World} {a : Act} {N : Nat} {args : List PV}
theorem look_init : ∀ (args : List PV) (i t : Nat), look (initSl i args) t AV.undef = if t < i then .undef else match args[t - i]? with | some v => .p v | none => .undef
 | [], i, t => by simp [initSl, look]
 | v :: r, i, t => by
  simp only [initSl, look]
  split
  ·rename_i h; subst h; simp
  ·rename_i h
   rw [look_init r (i + 1) t]
   by_cases h1 : t < i
   ·rw [if_pos (by omega), if_pos h1]
   ·rw [if_neg (by omega), if_neg h1]
    have : t - i = (t - (i + 1)) + 1 := by omega
    rw [this]; rfl
theorem init_rep {M : Nat -> Option Obj} {vals : List Value} (hM : ∀ b o, M b = some o -> w.heap[b]? = some o) (hv : PReps M args vals) (hn : args.length ≤ N) :
  StRep ⟨w, M, fun _ => False, N⟩ ⟨M, fun _ _ => none, fun _ _ => 0⟩ (initSt args) w { tmps := vals.toArray ++ Array.replicate (N - vals.toArray.size) Go.undef, defers := [] } := by
 have hl := hv.length
 have hno : ∀ s g, (initSt args).obj s g = none := fun s g => rfl
 refine ⟨fun t => ?_, rfl, by simp; omega, ⟨fun s g o ho => (by rw [hno] at ho; cases ho), fun s g _ _ o _ b ho => (by rw [hno] at ho; cases ho), hM, fun s g o b ho => (by rw [hno] at ho; cases ho), fun s g o b ho => (by rw [hno] at ho; cases ho), fun _ _ h => h, fun _ _ h => .inl h, Keep.refl w _⟩⟩
 have hget : (initSt args).get t = match args[t]? with | some v => .p v | none => .undef := by
  have := look_init args 0 t
  simpa [St.get, initSt] using this
 rw [hget]
 cases hx : args[t]? with
 | none => exact .undef _
 | some v =>
  obtain ⟨x, h1, h2⟩ := hv.get t v hx
  have hlt := (List.getElem?_eq_some_iff.1 h1).1
  have : (vals.toArray ++ Array.replicate (N - vals.toArray.size) Go.undef).getD t Go.undef = x := by
   simp [Array.getElem?_append, hlt]
   have := (List.getElem?_eq_some_iff.1 h1).2
   simpa using this
  rw [this]
  exact .p _ _ h2
theorem cell_run {t : TypeId} {s g ix : Nat} {o : AObj} {e : AV} {x : Value} (ht : tok P t (tsz P t) (tagg P t) = true) (hh : HRep K Z st w) (hx : ARep Z st (.ptr s g ix 0) x) (ho : st.obj s g = some o) (hix : o.es[ix]? = some e) (hsz : tsz P t = o.sz) :
  ∃ y, (do loadVar t (<- asAddr x) : Sem Value).run P w = .ok y w ∧ ARep Z st e y := by
 obtain ⟨b, hb, rfl⟩ := ptr_spec hx ho
 obtain ⟨_, _, _, _, _, _, hag, hna⟩ := tok_spec ht
 have hO := hh.objs s g o ho
 obtain ⟨cur, T, vals, k1, k2, k3, k4, k5, k6⟩ := hO.blk b hb
 have hes : ∀ e ∈ o.es, (AV.cells e).length = o.sz := fun e he => by rw [AV.cells_len (by rw [hO.els e he]; exact hO.pos), hO.els e he]
 have hseg := flat_seg AV.cells o.sz o.es ix e hes hix
 have hlt := flat_lt AV.cells o.sz o.es ix e hes hix
 have hem : e ∈ o.es := List.mem_of_getElem? hix
 have hone : ∀ c ∈ e.cells, c.one = true := fun c hc => hO.one c (List.mem_flatMap.2 ⟨e, hem, hc⟩)
 have hk3 : ∀ (i : Nat) (v : Value), vals[i]? = some v -> cur[0 + i]? = some v := by simpa using k3
 obtain ⟨xs, h1, h2, h3, h4⟩ := load_at (P := P) (Z := Z) (st := st) (k := ix * o.sz) (o := 0) ht k1 k2 hk3 (by rw [hsz]; exact hlt)
 rw [hsz, hseg] at h1
 obtain ⟨r1, r2⟩ := elem_of_cells ((hO.els e hem).trans hsz.symm) hag hna hone h1
 cases hg : tagg P t with
 | true =>
  have h3 := h3 hg
  simp only [Nat.zero_add] at h3
  refine ⟨_, ?_, r1 hg⟩
  simp only [asAddr, Sem.run_bind, Sem.run_pure, Result.andThen_ok, Nat.add_zero, h3]
 | false =>
  obtain ⟨x1, e1, e2⟩ := h4 hg
  obtain ⟨x2, e3, e4⟩ := r2 hg
  rw [e1] at e3; cases e3
  simp only [Nat.zero_add] at e2
  refine ⟨_, ?_, e4⟩
  simp only [asAddr, Sem.run_bind, Sem.run_pure, Result.andThen_ok, Nat.add_zero, e2]
theorem res_run (hs : StRep K Z st w a) : ∀ {rs : List ResultVar} {cs : List (Nat × Option Nat)} {vs : List AV}, compRes P rs = some cs -> resVals st cs = some vs ->
  ∃ xs, (rs.mapM (m := Sem) fun | .tmp t => pure (a.tmps.getD t Go.undef) | .cell p t => do loadVar t (<- asAddr (a.tmps.getD p Go.undef))).run P w = .ok xs w ∧ AReps Z st vs xs
 | [], cs, vs, hc, hv => by
  simp only [compRes, Option.some.injEq] at hc
  subst hc
  simp only [resVals, Option.some.injEq] at hv
  subst hv
  exact ⟨[], by simp, .nil⟩
 | r :: rs, cs, vs, hc, hv => by
  have step : ∃ (t : Nat) (c : Option Nat) (cs' : List (Nat × Option Nat)), cs = (t, c) :: cs' ∧ compRes P rs = some cs' ∧ ∀ v, resVal st t c = some v ->
    ∃ y, ((fun | .tmp t => pure (a.tmps.getD t Go.undef) | .cell p t => do loadVar t (<- asAddr (a.tmps.getD p Go.undef)) : ResultVar -> Sem Value) r).run P w = .ok y w ∧ ARep Z st v y := by
   cases r with
   | tmp t =>
    simp only [compRes] at hc
    obtain ⟨l, h1, rfl⟩ := mapS hc
    exact ⟨t, none, l, rfl, h1, fun v hv => by simp only [resVal, Option.some.injEq] at hv; subst hv; exact ⟨_, by simp, hs.slots t⟩⟩
   | cell p t =>
    simp only [compRes] at hc
    split at hc
    ·rename_i ht
     obtain ⟨l, h1, rfl⟩ := mapS hc
     refine ⟨p, some (tsz P t), l, rfl, h1, fun v hv => ?_⟩
     simp only [resVal] at hv
     split at hv
     ·rename_i s g ix off hev
      split at hv
      ·rename_i o ho
       split at hv
       ·rename_i e he
        split at hv
        ·rename_i hcond
         obtain ⟨rfl, hsz⟩ := hcond
         cases hv
         have hx := hs.slots p
         rw [hev] at hx
         exact cell_run ht hs.heap hx ho he hsz
        ·cases hv
       ·cases hv
      ·cases hv
     ·cases hv
    ·cases hc
  obtain ⟨t, c, cs', rfl, h1, h2⟩ := step
  simp only [resVals] at hv
  split at hv
  ·rename_i v l hv1 hl
   cases hv
   obtain ⟨y, e1, e2⟩ := h2 v hv1
   obtain ⟨ys, e3, e4⟩ := res_run hs h1 hl
   refine ⟨y :: ys, ?_, .cons _ _ _ _ e2 e4⟩
   simp only [List.mapM_cons, Sem.run_bind, e1, Result.andThen_ok, e3, Sem.run_pure]
  ·cases hv
theorem AReps.resOf {vs : List AV} {xs : List Value} (h : AReps Z st vs xs) : ARep Z st (resOf vs) (if h : xs.toArray.size = 1 then xs.toArray[0] else .tuple xs.toArray) := by
 cases h with
 | nil => exact .tup _ _ .nil
 | cons v x vs xs h hs =>
  cases hs with
  | nil => exact h
  | cons u y us ys k ks => simp only [Ab.resOf]; rw [dif_neg (by simp)]; exact .tup _ _ (.cons _ _ _ _ h (.cons _ _ _ _ k ks))
theorem res_post {M : Nat -> Option Obj} {v : AV} {x : Value} {res : RV} (hh : HRep ⟨w, M, fun _ => False, N⟩ Z' st' w') (hx : ARep Z' st' v x) (hres : ResOk st' v res) :
  ∃ M', (∀ b o, M b = some o -> M' b = some o) ∧ (∀ b o, M' b = some o -> w'.heap[b]? = some o) ∧ (∀ b o, M' b = some o -> M b = some o ∨ w.heap.size ≤ b) ∧ Keep w w' (fun _ => False) ∧ RRep M' w w' res x := by
 have hprov : ∀ b o, Z'.M b = some o -> M b = some o ∨ w.heap.size ≤ b := fun b o hb => by
  rcases hh.prov b o hb with h | h | h
  ·exact .inl h
  ·exact h.elim
  ·exact .inr h
 have hown : ∀ s g o b, st'.obj s g = some o -> Z'.B s g = some b -> w.heap.size ≤ b := fun s g o b ho hb => by
  rcases hh.own s g o b ho hb with h | h
  ·exact h.elim
  ·exact h
 cases hres with
 | pure _ p hp =>
  refine ⟨Mx Z' st' w' (deps st' FUEL v), fun b o hb => Mx_M (hh.m0 b o hb), fun b o hb => ?_, fun b o hb => ?_, hh.keep, ?_⟩
  ·rcases Mx_spec hb with h | ⟨_, h, _⟩
   ·exact hh.mem b o h
   ·exact h
  ·rcases Mx_spec hb with h | ⟨_, _, s, g, ob, _, q2, q3⟩
   ·exact hprov b o h
   ·exact .inr (hown s g ob b q2 q3)
  ·exact toPV_ok hh _ FUEL _ _ _ hx hp (fun i hi => hi)
 | fresh s g len o es ho hl hes =>
  refine ⟨Z'.M, fun b o hb => hh.m0 b o hb, hh.mem, hprov, hh.keep, ?_⟩
  have hO := hh.objs s g o ho
  have hle : o.es.length = es.length := by rw [hes]; simp
  cases hx with
  | own0 _ _ o' ho' hb =>
   rw [ho] at ho'; cases ho'
   have := hO.non hb
   refine .inl ⟨List.eq_nil_of_length_eq_zero (by rw [<- hle, this]; rfl), rfl⟩
  | own _ _ _ _ o' b ad c ho' hb h1 h2 h3 h4 =>
   rw [ho] at ho'; cases ho'
   obtain ⟨rfl, rfl⟩ := h1 rfl
   obtain ⟨cur, T, vals, k1, k2, k3, k4, k5, k6⟩ := hO.blk b hb
   refine .inr ⟨b, Z'.cap s g, cur, T, vals, by rw [hl, hle], hown s g o b ho hb, hh.sep s g o b ho hb, k1, ?_, k3, k4, by rw [<- hle]; exact k5, k6, fun c hc => ?_⟩
   ·rw [hes, flatMap_cells_p] at k2; exact k2.to_p
   ·have := hO.one (.p c) (by rw [hes, flatMap_cells_p]; exact List.mem_map.2 ⟨c, hc, rfl⟩)
    exact this
  | ownD _ _ _ _ _ _ _ hd => exact (obj_none_ne ho hd).elim
 | nil sz =>
  refine ⟨Z'.M, fun b o hb => hh.m0 b o hb, hh.mem, hprov, hh.keep, .inl ⟨rfl, ?_⟩⟩
  cases hx; rfl
theorem Sp.of_runs {f : FuncId} {C : FnC} {ex : Exit} {vs : List AV} {res : RV} (hc : compFn P f = some C) (hn : args.length ≤ C.N) (hrun : Runs P C.N C.body (initSt args) ex st') (hex : ex = .ret ∨ ex = .normal)
  (hvs : resVals st' C.res = some vs) (hres : ResOk st' (resOf vs) res) : Sp P f args res := by
 unfold compFn at hc
 split at hc
 ·rename_i fn hf
  split at hc
  ·rename_i hname
   split at hc
   ·rename_i c hb
    split at hc
    ·rename_i bd rs h1 h2
     cases hc
     refine ⟨⟨fn, hf, by rw [hb]; rfl, hname⟩, fun w M vals hM hv => ?_⟩
     refine calls_of_wp hf hb ?_
     refine hrun c h1 ⟨w, M, fun _ => False, fn.ntmps⟩ _ w _ _ rfl (init_rep hM hv hn) (fun Z' w' a' hs _ => ?_)
     have hfin : a'.defers = [] ∧ ∃ v, (results fn a'.tmps).run P w' = .ok v w' ∧ ∃ x M', Ending.returned v = .returned x ∧ (∀ b o, M b = some o -> M' b = some o) ∧ (∀ b o, M' b = some o -> w'.heap[b]? = some o) ∧
       (∀ b o, M' b = some o -> M b = some o ∨ w.heap.size ≤ b) ∧ Keep w w' (fun _ => False) ∧ RRep M' w w' res x := by
      obtain ⟨xs, e1, e2⟩ := res_run hs h2 hvs
      obtain ⟨M', m1, m2, m3, m4, m5⟩ := res_post hs.heap e2.resOf hres
      refine ⟨hs.defers, _, ?_, _, M', rfl, m1, m2, m3, m4, m5⟩
      unfold results
      rw [Array.mapM_eq_mapM_toList]
      simp only [Sem.run_bind, map_eq_pure_bind, Sem.run_pure]
      exact congrArg (fun r => (Result.andThen r fun a w' => Result.ok a.toArray w').andThen fun (a : Array Value) w' => Result.ok (if h : a.size = 1 then a[0] else Value.tuple a) w') e1
     rcases hex with rfl | rfl
     ·exact hfin
     ·exact hfin
    ·cases hc
   ·cases hc
  ·cases hc
 ·cases hc
end
end Go.Ab
namespace Go.Ab
def initSlM (i : Nat) (r : AV) : Nat -> List PV -> List (Nat × AV)
 | _, [] => []
 | n, v :: l => (n, if n = i then r else .p v) :: initSlM i r (n + 1) l
def refM (p : PV) : AV :=
 match p with
 | .ref _ => .ptr PIN 0 0 0
 | .sl es => .own PIN 0 0 es.length
 | _ => .undef
def elsM (p : PV) : List PV :=
 match p with
 | .ref e => [e]
 | .sl es => es
 | _ => []
def initStM (args : List PV) (i sz : Nat) (p : PV) : St := ⟨initSlM i (refM p) 0 args, [(PIN, [some ⟨sz, (elsM p).map .p⟩])]⟩
inductive ResM (st : St) : AV -> Nat -> RV -> Prop
 | pure (v : AV) (n : Nat) (p : PV) : toPV st FUEL v = some p -> (PIN, 0) ∉ deps st FUEL v -> ResM st v n (.pure p)
 | same (l n : Nat) : l ≤ n -> ResM st (.own PIN 0 0 l) n (.same l)
section
variable {P : Program} {K : Ctx} {Z Z' : Cz} {st st' st1 st2 : St} {w w' : World} {a : Act} {N : Nat} {args : List PV}
theorem look_initM {i : Nat} {r : AV} : ∀ (args : List PV) (n t : Nat), look (initSlM i r n args) t AV.undef = if t < n then .undef else match args[t - n]? with | some v => if t = i then r else .p v | none => .undef
 | [], n, t => by simp [initSlM, look]
 | v :: l, n, t => by
  simp only [initSlM, look]
  split
  ·rename_i h; subst h; simp
  ·rename_i h
   rw [look_initM l (n + 1) t]
   by_cases h1 : t < n
   ·rw [if_pos (by omega), if_pos h1]
   ·rw [if_neg (by omega), if_neg h1]
    have : t - n = (t - (n + 1)) + 1 := by omega
    rw [this]; rfl
theorem initM_rep {M : Nat -> Option Obj} {vals : List Value} {i sz cap : Nat} {p : PV} {b : Option Nat} {es : List PV} (hM : ∀ b o, M b = some o -> w.heap[b]? = some o) (hvl : vals.length = args.length) (hp : args[i]? = some p) (href : ∃ x, vals[i]? = some x ∧ MRef p es b cap x)
  (ha : MArr M w b cap sz es) (ho : ∀ j q, j ≠ i -> args[j]? = some q -> ∃ x, vals[j]? = some x ∧ PRep M q x) (hn : args.length ≤ N) :
  es = elsM p ∧ StRep ⟨w, M, fun c => b = some c, N⟩ ⟨M, fun _ _ => b, fun _ _ => cap⟩ (initStM args i sz p) w { tmps := vals.toArray ++ Array.replicate (N - vals.toArray.size) Go.undef, defers := [] } := by
 obtain ⟨x, hx, hr⟩ := href
 obtain ⟨a1, a2, a3, a4, a5⟩ := ha
 have hes : es = elsM p := by
  rcases hr with ⟨rfl, _⟩ | ⟨e, b', rfl, rfl, _, _⟩ <;> rfl
 have hobj : ∀ s g o, (initStM args i sz p).obj s g = some o -> s = PIN ∧ g = 0 ∧ o = ⟨sz, es.map .p⟩ := by
  intro s g o h
  simp only [St.obj, St.site, initStM, look] at h
  split at h
  ·rename_i hs
   cases g with
   | zero => simp at h; subst hs; subst h; rw [hes]; exact ⟨rfl, rfl, rfl⟩
   | succ g => simp at h
  ·simp at h
 have hpin : (initStM args i sz p).obj PIN 0 = some ⟨sz, es.map .p⟩ := by simp [St.obj, St.site, initStM, look, hes]
 refine ⟨hes, fun t => ?_, rfl, by simp; omega, ⟨fun s g o h => ?_, fun s g s' g' o o' b' h h' _ _ => ?_, hM, fun s g o b' h hb => (a5 b' hb).1, fun s g o b' _ hb => .inl hb, fun _ _ h => h, fun _ _ h => .inl h, Keep.refl w _⟩⟩
 ·have hget : (initStM args i sz p).get t = match args[t]? with | some v => if t = i then refM p else .p v | none => .undef := by
   have := look_initM (i := i) (r := refM p) args 0 t
   simpa [St.get, initStM] using this
  rw [hget]
  have hval : ∀ y, vals[t]? = some y -> (vals.toArray ++ Array.replicate (N - vals.toArray.size) Go.undef).getD t Go.undef = y := by
   intro y hy
   have hlt := (List.getElem?_eq_some_iff.1 hy).1
   simp [Array.getElem?_append, hlt]
   simpa using (List.getElem?_eq_some_iff.1 hy).2
  cases hq : args[t]? with
  | none => exact .undef _
  | some q =>
   simp only
   split
   ·rename_i hti
    subst hti
    rw [hp] at hq; cases hq
    rw [hval x hx]
    rcases hr with ⟨rfl, rfl⟩ | ⟨e, b', rfl, rfl, rfl, rfl⟩
    ·simp only [refM]
     cases b with
     | none =>
      have := a4 rfl
      subst this
      exact .own0 _ _ _ hpin rfl
     | some b =>
      obtain ⟨_, cur, T, cv, k1, k2, k3, k4, k5, k6⟩ := a5 b rfl
      exact .own _ _ 0 es.length _ b _ cap hpin rfl (fun _ => ⟨rfl, rfl⟩) (fun _ => by simp) (by simp) k5
    ·simp only [refM]
     have := ARep.ptr (Z := ⟨M, fun _ _ => some b', fun _ _ => cap⟩) (st := initStM args t sz (.ref e)) PIN 0 0 0 _ b' hpin rfl
     simpa using this
   ·rename_i hti
    obtain ⟨y, hy, hr'⟩ := ho t q hti hq
    rw [hval y hy]
    exact .p _ _ hr'
 ·obtain ⟨rfl, rfl, rfl⟩ := hobj s g o h
  refine ⟨a1, fun e he => ?_, fun c hc => ?_, fun hb => ?_, fun b' hb => ?_⟩
  ·obtain ⟨q, hq, rfl⟩ := List.mem_map.1 he; exact a2 q hq
  ·rw [flatMap_cells_p] at hc; obtain ⟨q, hq, rfl⟩ := List.mem_map.1 hc; exact a3 q hq
  ·simp only at hb; rw [a4 hb]; rfl
  ·obtain ⟨_, cur, T, cv, k1, k2, k3, k4, k5, k6⟩ := a5 b' hb
   exact ⟨cur, T, cv, k1, by rw [flatMap_cells_p]; exact AReps.of_p k2, k3, k4, by simpa using k5, k6⟩
 ·obtain ⟨rfl, rfl, _⟩ := hobj s g o h
  obtain ⟨rfl, rfl, _⟩ := hobj s' g' o' h'
  exact ⟨rfl, rfl⟩
theorem SpM.of_runs {f : FuncId} {C : FnC} {ex : Exit} {vs : List AV} {res : RV} {i sz : Nat} {p : PV} {es' : List PV} (hc : compFn P f = some C) (hn : args.length ≤ C.N) (hp : args[i]? = some p)
  (hrun : Runs P C.N C.body (initStM args i sz p) ex st') (hex : ex = .ret ∨ ex = .normal) (hvs : resVals st' C.res = some vs) (hpin : st'.obj PIN 0 = some ⟨sz, es'.map .p⟩) (hlen : es'.length = (elsM p).length) (hres : ResM st' (resOf vs) (elsM p).length res) :
  SpM P f args i sz es' res := by
 unfold compFn at hc
 split at hc
 ·rename_i fn hf
  split at hc
  ·rename_i hname
   split at hc
   ·rename_i c hb
    split at hc
    ·rename_i bd rs h1 h2
     cases hc
     refine ⟨⟨fn, hf, by rw [hb]; rfl, hname⟩, fun w M vals b cap es hM hvl href hi ha ho => ?_⟩
     obtain ⟨hes, hinit⟩ := initM_rep hM hvl hp (href p hp) ha ho hn
     subst hes
     refine calls_of_wp hf hb ?_
     refine hrun c h1 ⟨w, M, fun c => b = some c, fn.ntmps⟩ _ w _ _ rfl hinit (fun Z' w' a' hs hpl => ?_)
     have hfin : a'.defers = [] ∧ ∃ v, (results fn a'.tmps).run P w' = .ok v w' ∧ ∃ x M', Ending.returned v = .returned x ∧ (∀ b o, M b = some o -> M' b = some o) ∧ (∀ b o, M' b = some o -> w'.heap[b]? = some o) ∧
       (∀ b o, M' b = some o -> M b = some o ∨ w.heap.size ≤ b) ∧ Keep w w' (fun c => b = some c) ∧ es'.length = (elsM p).length ∧ MArr M' w' b cap sz es' ∧ MRes M' w w' b cap (elsM p).length res x := by
      obtain ⟨xs, e1, e2⟩ := res_run hs h2 hvs
      have hx := e2.resOf
      generalize hxx : (if h : xs.toArray.size = 1 then xs.toArray[0] else .tuple xs.toArray) = x at hx
      have hrun : (results fn a'.tmps).run P w' = .ok x w' := by
       rw [<- hxx]
       unfold results
       rw [Array.mapM_eq_mapM_toList]
       simp only [Sem.run_bind, map_eq_pure_bind, Sem.run_pure]
       exact congrArg (fun r => (Result.andThen r fun a w' => Result.ok a.toArray w').andThen fun (a : Array Value) w' => Result.ok (if h : a.size = 1 then a[0] else Value.tuple a) w') e1
      obtain ⟨_, hpl2⟩ := hpl (by simp [St.site, initStM, look])
      obtain ⟨_, _, hB, hC⟩ := hpl2 _ hpin
      simp only at hB hC
      have hO := hs.heap.objs _ _ _ hpin
      have hprov : ∀ c o, Z'.M c = some o -> M c = some o ∨ w.heap.size ≤ c := fun c o hc => by
       rcases hs.heap.prov c o hc with h | h | h
       ·exact .inl h
       ·rw [hs.heap.sep PIN 0 _ c hpin (hB.trans h)] at hc; cases hc
       ·exact .inr h
      have harr : ∀ M', (∀ c o, Z'.M c = some o -> M' c = some o) -> (∀ c, b = some c -> M' c = none) -> MArr M' w' b cap sz es' := by
       intro M' hmm hno
       refine ⟨hO.pos, fun e he => hO.els (.p e) (List.mem_map.2 ⟨e, he, rfl⟩), fun q hq => ?_, fun hb => ?_, fun b' hb' => ?_⟩
       ·have := hO.one (.p q) (by rw [flatMap_cells_p]; exact List.mem_map.2 ⟨q, hq, rfl⟩); exact this
       ·have := hO.non (hB.trans hb); simpa using this
       ·obtain ⟨cur, T, cv, k1, k2, k3, k4, k5, k6⟩ := hO.blk b' (hB.trans hb')
        rw [flatMap_cells_p] at k2
        rw [hC] at k4 k5 k6
        exact ⟨hno b' hb', cur, T, cv, k1, k2.to_p.mono hmm, k3, k4, by simpa using k5, k6⟩
      have hsepM : ∀ c, b = some c -> Z'.M c = none := fun c hc => hs.heap.sep PIN 0 _ c hpin (hB.trans hc)
      generalize resOf vs = v at hx hres
      generalize hnn : (elsM p).length = n at hres hlen
      refine ⟨hs.defers, _, hrun, ?_⟩
      cases hres with
      | pure _ _ q hq hni =>
       refine ⟨x, Mx Z' st' w' (deps st' FUEL v), rfl, fun b o hb => Mx_M (hs.heap.m0 b o hb), fun b o hb => ?_, fun b o hb => ?_, hs.heap.keep, by rw [hlen], harr _ (fun c o hc => Mx_M hc) (fun c hc => ?_), ?_⟩
       ·rcases Mx_spec hb with h | ⟨_, h, _⟩
        ·exact hs.heap.mem b o h
        ·exact h
       ·rcases Mx_spec hb with h | ⟨_, _, s, g, ob, m1, m2, m3⟩
        ·exact hprov b o h
        ·rcases hs.heap.own s g ob b m2 m3 with h | h
         ·obtain ⟨rfl, rfl⟩ := hs.heap.inj s g PIN 0 ob _ b m2 hpin m3 (hB.trans h)
          exact absurd m1 hni
         ·exact .inr h
       ·cases hm : Mx Z' st' w' (deps st' FUEL v) c with
        | none => rfl
        | some y =>
         exfalso
         rcases Mx_spec hm with h | ⟨_, _, s, g, ob, m1, m2, m3⟩
         ·rw [hsepM c hc] at h; cases h
         ·obtain ⟨rfl, rfl⟩ := hs.heap.inj s g PIN 0 ob _ c m2 hpin m3 (hB.trans hc)
          exact hni m1
       ·exact toPV_ok hs.heap _ FUEL _ _ _ hx hq (fun i hi => hi)
      | same l _ hl =>
       refine ⟨x, Z'.M, rfl, hs.heap.m0, hs.heap.mem, hprov, hs.heap.keep, by rw [hlen], harr _ (fun _ _ h => h) hsepM, hl, ?_⟩
       cases hx with
       | own0 _ _ o ho hb0 => rw [<- hB, hb0]
       | own _ _ _ _ o b' ad c ho hb' h1 h2 h3 h4 =>
        obtain ⟨rfl, rfl⟩ := h1 rfl
        rw [<- hB, hb', hC]
       | ownD _ _ _ _ _ _ _ hd => exact (obj_none_ne hpin hd).elim
     rcases hex with rfl | rfl
     ·exact hfin
     ·exact hfin
    ·cases hc
   ·cases hc
  ·cases hc
 ·cases hc
end
end Go.Ab
namespace Go.Ab
inductive Outc : Type 1
 | ok (c : Prop) (v : AV) (s : St)
 | el {α : Type} (l : List α) (n : Nat) (f : α -> Outc)
 | br (t : Bool) (a b : Outc)
 | bad
def runO (K : AV -> St -> Prop) : Outc -> Prop
 | .ok c v s => c ∧ K v s
 | .el l n f => ∃ e, l[n]? = some e ∧ runO K (f e)
 | .br t a b => (t = true -> runO K a) ∧ (t = false -> runO K b)
 | .bad => False
def optO {α : Type} : Option α -> (α -> Outc) -> Outc
 | some x, f => f x
 | none, _ => .bad
def Outc.and (c : Prop) : Outc -> Outc
 | .ok d v s => .ok (c ∧ d) v s
 | .el l n f => .el l n fun x => (f x).and c
 | .br t a b => .br t (a.and c) (b.and c)
 | .bad => .bad
def brO : AV -> Outc -> Outc -> Outc
 | .p (.bool t), a, b => .br t a b
 | _, _, _ => .bad
def natO : AV -> (Nat -> Outc) -> Outc
 | .p (.int _ n), f => (f n.toNat).and (0 ≤ n)
 | _, _ => .bad
def optNatO (st : St) (o : Option Opd) (n : Nat) (f : Nat -> Outc) : Outc :=
 match o with
 | some x => natO (st.ev x) f
 | none => f n
def andI (k : IntKind) (a b : Int) : Int := k.wrap (BitVec.ofInt k.bits a &&& BitVec.ofInt k.bits b).toNat
def orI (k : IntKind) (a b : Int) : Int := k.wrap (BitVec.ofInt k.bits a ||| BitVec.ofInt k.bits b).toNat
def xorI (k : IntKind) (a b : Int) : Int := k.wrap (BitVec.ofInt k.bits a ^^^ BitVec.ofInt k.bits b).toNat
def andNotI (k : IntKind) (a b : Int) : Int := k.wrap (BitVec.ofInt k.bits a &&& ~~~ BitVec.ofInt k.bits b).toNat
def int2O (op : BinOp) (k : IntKind) (a b : Int) (st : St) : Outc :=
 match op with
 | .add => .ok True (.p (.int k (k.wrap (a + b)))) st
 | .sub => .ok True (.p (.int k (k.wrap (a - b)))) st
 | .mul => .ok True (.p (.int k (k.wrap (a * b)))) st
 | .quo => .ok (b ≠ 0) (.p (.int k (k.wrap (a.tdiv b)))) st
 | .rem => .ok (b ≠ 0) (.p (.int k (a.tmod b))) st
 | .and => .ok True (.p (.int k (andI k a b))) st
 | .or => .ok True (.p (.int k (orI k a b))) st
 | .xor => .ok True (.p (.int k (xorI k a b))) st
 | .andNot => .ok True (.p (.int k (andNotI k a b))) st
 | .eql => .ok True (.p (.bool (decide (a = b)))) st
 | .neq => .ok True (.p (.bool (!decide (a = b)))) st
 | .lss => .ok True (.p (.bool (decide (a < b)))) st
 | .leq => .ok True (.p (.bool (decide (a ≤ b)))) st
 | .gtr => .ok True (.p (.bool (decide (b < a)))) st
 | .geq => .ok True (.p (.bool (decide (b ≤ a)))) st
 | .shl => .ok (0 ≤ b) (.p (.int k (k.wrap (a * 2 ^ Nat.min b.toNat k.bits)))) st
 | .shr => .ok (0 ≤ b) (.p (.int k (a / (2 ^ Nat.min b.toNat k.bits)))) st
def ibinO (op : BinOp) (x y : AV) (st : St) : Outc :=
 match x, y with
 | .p (.int k a), .p (.int k' b) => if isShift op = true ∨ k = k' then int2O op k a b st else .bad
 | _, _ => .bad
def elsO (st : St) (v : AV) (f : List AV -> Outc) : Outc :=
 match v with
 | .p (.sl es) => f (es.map .p)
 | .nil => f []
 | .p .nl => f []
 | .p .sle => f []
 | .own s g off len => optO (st.obj s g) fun o => (f ((o.es.drop off).take len)).and (off + len ≤ o.es.length)
 | _ => .bad
def szs (sz : Nat) (l : List AV) : Prop := (l.all fun v => v.sz == sz) = true ∧ 0 < sz
def szsP (sz : Nat) (l : List PV) : Prop := (l.all fun v => v.sz == sz) = true ∧ 0 < sz
def oc (st : St) (d : Nat) : IOp -> Outc
 | .mv x => .ok True (st.ev x) st
 | .pick c a b => brO (st.ev c) (.ok True (st.ev a) st) (.ok True (st.ev b) st)
 | .alloc sz zero => .ok (zero.sz = sz ∧ 0 < sz) (.ptr d (st.site d).length 0 0) (st.alloc d ⟨sz, [zero]⟩)
 | .box sz x => .ok ((st.ev x).sz = sz ∧ 0 < sz) (.ptr d (st.site d).length 0 0) (st.alloc d ⟨sz, [st.ev x]⟩)
 | .build zero parts => optO (fillParts zero (parts.map fun (o, s, x) => (o, s, st.ev x))) fun cs => .ok True (mkAgg cs) st
 | .bslice sz zero n parts => optO (fillElems (List.replicate n zero.pur) sz (parts.map fun (i, x) => (i, (st.ev x).pur))) fun es => .ok (zero.sz = sz ∧ 0 < sz ∧ n * sz ≤ 16777216) (.own d (st.site d).length 0 n) (st.alloc d ⟨sz, es⟩)
 | .load sz ag x => match st.ev x with
  | .ptr s g ix off => optO (st.obj s g) fun o => .el o.es ix fun e => if off = 0 ∧ sz = o.sz then .ok True e st else optO (e.seg off sz ag) fun v => .ok True v st
  | .cp v vsz off => if off = 0 ∧ sz = vsz then .ok True (.p v) st else optO (v.seg off sz ag) fun v => .ok True (.p v) st
  | _ => .bad
 | .store sz a x => match st.ev a with
  | .ptr s g ix off => optO (st.obj s g) fun o => .el o.es ix fun e =>
    if off = 0 ∧ sz = o.sz then .ok ((st.ev x).sz = sz ∧ 0 < sz) .undef (st.setObj s g ⟨o.sz, o.es.set ix (st.ev x)⟩)
    else optO (e.setSeg off (st.ev x)) fun e' => .ok ((st.ev x).sz = sz ∧ 0 < sz) .undef (st.setObj s g ⟨o.sz, o.es.set ix e'⟩)
  | _ => .bad
 | .nilck x => match st.ev x with
  | .ptr s g ix off => optO (st.obj s g) fun _ => .ok True (.ptr s g ix off) st
  | .p (.fn f caps) => .ok True (.p (.fn f caps)) st
  | .fn f caps => .ok True (.fn f caps) st
  | .p (.ref v) => .ok True (.p (.ref v)) st
  | .cp v vsz off => .ok True (.cp v vsz off) st
  | _ => .bad
 | .ibin op x y => ibinO op (st.ev x) (st.ev y) st
 | .bbin op x y => optO (bbin op (st.ev x) (st.ev y)) fun v => .ok True (.p v) st
 | .abin ks op x y => optO (abin ks op (st.ev x) (st.ev y)) fun v => .ok True (.p v) st
 | .not x => match st.ev x with
  | .p (.bool b) => .ok True (.p (.bool (!b))) st
  | _ => .bad
 | .neg x => match st.ev x with
  | .p (.int k n) => .ok True (.p (.int k (k.wrap (0 - n)))) st
  | _ => .bad
 | .ixor x => match st.ev x with
  | .p (.int k n) => .ok True (.p (.int k (xorI k (if k.signed then -1 else k.max) n))) st
  | _ => .bad
 | .conv k x => match st.ev x with
  | .p (.int _ n) => .ok True (.p (.int k (k.wrap n))) st
  | _ => .bad
 | .mkfn f caps => .ok ((caps.map st.ev).all AV.one = true) (.fn f (caps.map st.ev)) st
 | .mkslice sz zero l c => natO (st.ev l) fun n => natO (st.ev c) fun m => .ok (n ≤ m ∧ m ≤ LIM ∧ zero.sz = sz ∧ 0 < sz) (.own d (st.site d).length 0 n) (st.alloc d ⟨sz, List.replicate n zero.pur⟩)
 | .slice sz x lo hi => optNatO st lo 0 fun l => match st.ev x with
  | .p (.sl es) => optNatO st hi es.length fun h => .ok ((l ≤ h ∧ h ≤ es.length) ∧ szsP sz es) (.p (.sl ((es.drop l).take (h - l)))) st
  | .own s g off len => optNatO st hi len fun h => optO (st.obj s g) fun o => .ok (l ≤ h ∧ h ≤ len ∧ off + len ≤ o.es.length ∧ o.sz = sz) (.own s g (off + l) (h - l)) st
  | .nil => optNatO st hi 0 fun h => .ok (l = 0 ∧ h = 0) .nil st
  | _ => .bad
 | .faddr off x => match st.ev x with
  | .ptr s g ix o => optO (st.obj s g) fun _ => .ok True (.ptr s g ix (o + off)) st
  | .cp v vsz o => .ok True (.cp v vsz (o + off)) st
  | _ => .bad
 | .field off sz ag x => optO (st.ev x).acells fun cs => optO (segL cs off sz ag) fun v => .ok True v st
 | .iaddr sz x i => natO (st.ev i) fun n => match st.ev x with
  | .p (.sl es) => .el es n fun e => .ok (e.sz = sz ∧ 0 < sz) (.cp e sz 0) st
  | .own s g off len => optO (st.obj s g) fun o => .ok (n < len ∧ off + len ≤ o.es.length ∧ o.sz = sz) (.ptr s g (off + n) 0) st
  | _ => .bad
 | .iaddrA m sz x i => natO (st.ev i) fun n => match st.ev x with
  | .ptr s g ix o => optO (st.obj s g) fun _ => .ok (n < m) (.ptr s g ix (o + n * sz)) st
  | .cp v vsz o => .ok (n < m) (.cp v vsz (o + n * sz)) st
  | _ => .bad
 | .idx m sz ag x i => natO (st.ev i) fun n => optO (st.ev x).acells fun cs => optO (segL cs (n * sz) sz ag) fun v => .ok (n < m) v st
 | .extract x i => match st.ev x with
  | .tup vs => optO vs[i]? fun v => .ok True v st
  | .p (.tup vs) => optO vs[i]? fun v => .ok True (.p v) st
  | _ => .bad
 | .len x => match st.ev x with
  | .p (.sl es) => .ok True (.p (.int .i64 es.length)) st
  | .nil => .ok True (.p (.int .i64 0)) st
  | .own _ _ _ len => .ok True (.p (.int .i64 len)) st
  | _ => .bad
 | .append sz a x => elsO st (st.ev x) fun xs => match st.ev a with
  | .nil => .ok (szs sz (xs.map AV.pur) ∧ xs.length ≤ LIM) (.own d (st.site d).length 0 xs.length) (st.alloc d ⟨sz, xs.map AV.pur⟩)
  | .own s g off len => optO (st.obj s g) fun o => .ok (szs sz (xs.map AV.pur) ∧ (off = 0 ∧ len = o.es.length ∧ o.sz = sz ∧ len + xs.length ≤ LIM))
    (.own d ((killAll st [(s, g)]).site d).length 0 (len + xs.length)) ((killAll st [(s, g)]).alloc d ⟨sz, o.es ++ xs.map AV.pur⟩)
  | _ => .bad
 | .isnil neg x => match st.ev x with
  | .nil => .ok True (.p (.bool (!neg))) st
  | .p .nl => .ok True (.p (.bool (!neg))) st
  | .p .sle => .ok True (.p (.bool neg)) st
  | .p (.sl es) => .ok (es ≠ []) (.p (.bool neg)) st
  | .own s g _ len => optO (st.obj s g) fun _ => .ok (0 < len) (.p (.bool neg)) st
  | _ => .bad
 | .cap x => match st.ev x with
  | .nil => .ok True (.p (.int .i64 0)) st
  | _ => .bad
 | .clear sz zero x => match st.ev x with
  | .nil => .ok True (.tup []) st
  | .own s g off len => optO (st.obj s g) fun o => .ok (off + len ≤ o.es.length ∧ o.sz = sz ∧ zero.sz = sz) (.tup []) (st.setObj s g ⟨o.sz, o.es.take off ++ List.replicate len zero.pur ++ o.es.drop (off + len)⟩)
  | _ => .bad
 | .appendz sz zero a x => natO (st.ev x) fun n => match st.ev a with
  | .nil => .ok (0 < n ∧ n ≤ LIM ∧ zero.sz = sz ∧ 0 < sz) (.own d (st.site d).length 0 n) (st.alloc d ⟨sz, List.replicate n zero.pur⟩)
  | _ => .bad
 | .mlook qs zero x k => match st.ev x, st.ev k with
  | .p (.mp _ ks vs), .p (.agg kc) => .ok (keyOk qs kc = true ∧ ks.all (keyOkP qs) = true) (match mapFind kc ks vs with | some v => .p v | none => zero) st
  | _, _ => .bad
 | .sidx x i => natO (st.ev i) fun n => match st.ev x with
  | .p (.str s) => .el s.data.toList n fun b => .ok True (.p (.int .u8 b.toNat)) st
  | _ => .bad
 | .min xs => optO (minmax false (xs.map st.ev)) fun v => .ok True (.p v) st
 | .max xs => optO (minmax true (xs.map st.ev)) fun v => .ok True (.p v) st
 | _ => .bad
section
variable {P : Program} {N : Nat} {st s1 st' : St} {d : Nat} {K : AV -> St -> Prop}
theorem runO_and' {c : Prop} : ∀ {o : Outc}, runO K (o.and c) -> runO K o ∧ c
 | .ok d v s, h => ⟨⟨h.1.2, h.2⟩, h.1.1⟩
 | .el l n f, ⟨e, h1, h2⟩ => ⟨⟨e, h1, (runO_and' h2).1⟩, (runO_and' h2).2⟩
 | .br true a b, h => ⟨⟨fun _ => (runO_and' (h.1 rfl)).1, fun h => by cases h⟩, (runO_and' (h.1 rfl)).2⟩
 | .br false a b, h => ⟨⟨fun h => (by cases h), fun _ => (runO_and' (h.2 rfl)).1⟩, (runO_and' (h.2 rfl)).2⟩
theorem brO_elim {v : AV} {a b : Outc} (h : runO K (brO v a b)) : (v = .p (.bool true) ∧ runO K a) ∨ (v = .p (.bool false) ∧ runO K b) := by
 unfold brO at h
 split at h
 ·rename_i t
  cases t
  ·exact .inr ⟨rfl, h.2 rfl⟩
  ·exact .inl ⟨rfl, h.1 rfl⟩
 ·exact h.elim
theorem optO_elim {α : Type} {o : Option α} {f : α -> Outc} (h : runO K (optO o f)) : ∃ e, o = some e ∧ runO K (f e) := by
 cases o with
 | none => exact h.elim
 | some x => exact ⟨x, rfl, h⟩
theorem natO_elim {v : AV} {f : Nat -> Outc} (h : runO K (natO v f)) : ∃ n, natOf v = some n ∧ runO K (f n) := by
 unfold natO at h
 split at h
 ·rename_i k n
  have := runO_and' h
  exact ⟨n.toNat, by simp [natOf, this.2], this.1⟩
 ·exact h.elim
theorem optNatO_elim {o : Option Opd} {m : Nat} {f : Nat -> Outc} (h : runO K (optNatO st o m f)) : ∃ n, optNat st o m = some n ∧ runO K (f n) := by
 unfold optNatO at h
 cases o with
 | none => exact ⟨m, rfl, h⟩
 | some x => exact natO_elim h
theorem elsO_elim {v : AV} {f : List AV -> Outc} (h : runO K (elsO st v f)) : ∃ l, st.elems v = some l ∧ runO K (f l) := by
 unfold elsO at h
 split at h
 ·exact ⟨_, rfl, h⟩
 ·exact ⟨_, rfl, h⟩
 ·exact ⟨_, rfl, h⟩
 ·exact ⟨_, rfl, h⟩
 ·obtain ⟨o, h1, h2⟩ := optO_elim h
  have := runO_and' h2
  exact ⟨_, by simp [St.elems, h1, this.2], this.1⟩
 ·exact h.elim
theorem ibinO_elim {op : BinOp} {x y : AV} (h : runO K (ibinO op x y st)) : ∃ v, ibin op x y = some v ∧ K (.p v) st := by
 unfold ibinO at h
 split at h
 ·rename_i k a k' b
  split at h
  ·rename_i hk
   by_cases hs : isShift op = true
   ·cases op <;> simp only [isShift, Bool.false_eq_true] at hs
    ·obtain ⟨h1, h2⟩ := h
     exact ⟨_, by simp only [ibin, isShift, if_true, shiftBin]; rw [if_neg (by omega)], h2⟩
    ·obtain ⟨h1, h2⟩ := h
     exact ⟨_, by simp only [ibin, isShift, if_true, shiftBin]; rw [if_neg (by omega), Int.fdiv_eq_ediv_of_nonneg _ (Int.pow_nonneg (by decide))], h2⟩
   ·have hkk : k = k' := hk.resolve_left hs
    subst hkk
    have hb : ∃ v, intBin op k a b = some v ∧ K (.p v) st := by
     cases op <;> simp only [isShift, not_true_eq_false] at hs <;> simp only [int2O, runO] at h <;> first
      | exact ⟨_, rfl, h.2⟩
      | (obtain ⟨h1, h2⟩ := h; exact ⟨_, by simp only [intBin]; rw [if_neg h1], h2⟩)
      | exact ⟨_, by simp only [intBin, bne, beq_eq_decide], h.2⟩
    obtain ⟨v, h1, h2⟩ := hb
    exact ⟨v, by simp only [ibin, hs, h1, if_true]; rfl, h2⟩
  ·exact h.elim
 ·exact h.elim
theorem oc_ok {op : IOp} (h : runO K (oc st d op)) : ∃ v s, eff none st d op = some (v, s) ∧ K v s := by
 cases op <;> simp only [oc] at h <;> simp only [eff]
 case mv x => exact ⟨_, _, rfl, h.2⟩
 case pick c a b =>
  rcases brO_elim h with ⟨e, h⟩ | ⟨e, h⟩ <;> rw [e] <;> exact ⟨_, _, rfl, h.2⟩
 case alloc sz zero => exact ⟨_, _, by rw [if_pos h.1], h.2⟩
 case box sz x => exact ⟨_, _, by rw [if_pos h.1], h.2⟩
 case build zero parts => obtain ⟨cs, h1, h2⟩ := optO_elim h; exact ⟨_, _, by rw [h1], h2.2⟩
 case bslice sz zero n parts => obtain ⟨cs, h1, h2⟩ := optO_elim h; exact ⟨_, _, by rw [if_pos h2.1, h1], h2.2⟩
 case load sz ag x =>
  split at h
  ·rename_i he
   simp only [he]
   obtain ⟨o, h1, e, h2, h3⟩ := optO_elim h
   simp only [h1, h2]
   split at h3
   ·rename_i hc; exact ⟨_, _, by rw [if_pos hc], h3.2⟩
   ·rename_i hc; obtain ⟨v, h4, h5⟩ := optO_elim h3; exact ⟨_, _, by rw [if_neg hc, h4], h5.2⟩
  ·rename_i he
   simp only [he]
   split at h
   ·rename_i hc; exact ⟨_, _, by rw [if_pos hc], h.2⟩
   ·rename_i hc; obtain ⟨v, h4, h5⟩ := optO_elim h; exact ⟨_, _, by rw [if_neg hc, h4], h5.2⟩
  ·exact h.elim
 case store sz a x =>
  split at h
  ·rename_i he
   simp only [he]
   obtain ⟨o, h1, e, h2, h4⟩ := optO_elim h
   simp only [h1, h2]
   split at h4
   ·rename_i hc; exact ⟨_, _, by rw [if_pos h4.1, if_pos hc], h4.2⟩
   ·rename_i hc; obtain ⟨v, h5, h6⟩ := optO_elim h4; exact ⟨_, _, by rw [if_pos h6.1, if_neg hc, h5], h6.2⟩
  ·exact h.elim
 case nilck x =>
  split at h
  ·rename_i he; simp only [he]; obtain ⟨o, h1, h2⟩ := optO_elim h; exact ⟨_, _, by rw [h1], h2.2⟩
  all_goals first | exact h.elim | (rename_i he; simp only [he]; exact ⟨_, _, rfl, h.2⟩)
 case ibin op x y => obtain ⟨v, h1, h2⟩ := ibinO_elim h; exact ⟨_, _, by rw [h1], h2⟩
 case bbin op x y => obtain ⟨v, h1, h2⟩ := optO_elim h; exact ⟨_, _, by rw [h1], h2.2⟩
 case abin ks op x y => obtain ⟨v, h1, h2⟩ := optO_elim h; exact ⟨_, _, by rw [h1], h2.2⟩
 case not x => split at h <;> first | exact h.elim | (rename_i he; simp only [he]; exact ⟨_, _, rfl, h.2⟩)
 case neg x => split at h <;> first | exact h.elim | (rename_i he; simp only [he]; exact ⟨_, _, rfl, h.2⟩)
 case ixor x => split at h <;> first | exact h.elim | (rename_i he; simp only [he]; exact ⟨_, _, rfl, h.2⟩)
 case conv k x => split at h <;> first | exact h.elim | (rename_i he; simp only [he]; exact ⟨_, _, rfl, h.2⟩)
 case mkfn f caps => exact ⟨_, _, by rw [if_pos h.1], h.2⟩
 case mkslice sz zero l c =>
  obtain ⟨n, h1, h⟩ := natO_elim h
  obtain ⟨m, h2, h⟩ := natO_elim h
  exact ⟨_, _, by simp only [h1, h2]; rw [if_pos h.1], h.2⟩
 case slice sz x lo hi =>
  obtain ⟨l, h1, h⟩ := optNatO_elim h
  simp only [h1]
  split at h
  ·rename_i he
   simp only [he]
   obtain ⟨k, h2, ⟨h3, h4⟩, h5⟩ := optNatO_elim h
   simp only [h2]
   exact ⟨_, _, by rw [if_pos ⟨h3.1, h3.2, h4.1, h4.2⟩], h5⟩
  ·rename_i he
   simp only [he]
   obtain ⟨k, h2, h⟩ := optNatO_elim h
   obtain ⟨o, h3, h4, h5⟩ := optO_elim h
   simp only [h2, h3]
   exact ⟨_, _, by rw [if_pos h4], h5⟩
  ·rename_i he
   simp only [he]
   obtain ⟨k, h2, h4, h5⟩ := optNatO_elim h
   simp only [h2]
   exact ⟨_, _, by rw [if_pos h4], h5⟩
  ·exact h.elim
 case faddr off x =>
  split at h
  ·rename_i he; simp only [he]; obtain ⟨o, h1, h2⟩ := optO_elim h; exact ⟨_, _, by rw [h1], h2.2⟩
  ·rename_i he; simp only [he]; exact ⟨_, _, rfl, h.2⟩
  ·exact h.elim
 case field off sz ag x => obtain ⟨v, h1, h⟩ := optO_elim h; obtain ⟨u, h2, h3⟩ := optO_elim h; exact ⟨_, _, by simp only [h1, h2], h3.2⟩
 case iaddr sz x i =>
  obtain ⟨n, h1, h⟩ := natO_elim h
  simp only [h1]
  split at h
  ·rename_i he; simp only [he]; obtain ⟨e, h2, h3, h4⟩ := h; exact ⟨_, _, by simp only [h2]; rw [if_pos h3], h4⟩
  ·rename_i he; simp only [he]; obtain ⟨e, h2, h3, h4⟩ := optO_elim h; exact ⟨_, _, by simp only [h2]; rw [if_pos h3], h4⟩
  ·exact h.elim
 case iaddrA m sz x i =>
  obtain ⟨n, h1, h⟩ := natO_elim h
  simp only [h1]
  split at h
  ·rename_i he; simp only [he]; obtain ⟨e, h2, h3, h4⟩ := optO_elim h; exact ⟨_, _, by simp only [h2]; rw [if_pos h3], h4⟩
  ·rename_i he; simp only [he]; exact ⟨_, _, by rw [if_pos h.1], h.2⟩
  ·exact h.elim
 case idx m sz ag x i =>
  obtain ⟨n, h1, h⟩ := natO_elim h
  obtain ⟨v, h2, h⟩ := optO_elim h
  obtain ⟨u, h3, h0, h4⟩ := optO_elim h
  exact ⟨_, _, by simp only [h1, h0, if_true, h2, h3], h4⟩
 case extract x i =>
  split at h
  ·rename_i he; simp only [he]; obtain ⟨e, h2, h3⟩ := optO_elim h; exact ⟨_, _, by rw [h2], h3.2⟩
  ·rename_i he; simp only [he]; obtain ⟨e, h2, h3⟩ := optO_elim h; exact ⟨_, _, by rw [h2], h3.2⟩
  ·exact h.elim
 case len x => split at h <;> first | exact h.elim | (rename_i he; simp only [he]; exact ⟨_, _, rfl, h.2⟩)
 case append sz a x =>
  obtain ⟨xs, h1, h⟩ := elsO_elim h
  simp only [h1]
  split at h
  ·rename_i he
   obtain ⟨⟨h0, h2⟩, h3⟩ := h
   have h0' : ((xs.map AV.pur).all fun v => v.sz == sz) = true ∧ 0 < sz := h0
   simp only [he]
   rw [if_pos h0']
   exact ⟨_, _, by rw [if_pos h2], h3⟩
  ·rename_i he
   obtain ⟨o, h2, ⟨h0, h3⟩, h4⟩ := optO_elim h
   have h0' : ((xs.map AV.pur).all fun v => v.sz == sz) = true ∧ 0 < sz := h0
   simp only [he]
   rw [if_pos h0']
   simp only [h2]
   exact ⟨_, _, by rw [if_pos h3], h4⟩
  ·exact h.elim
 case isnil neg x =>
  split at h
  ·rename_i he; simp only [he]; exact ⟨_, _, rfl, h.2⟩
  ·rename_i he; simp only [he]; exact ⟨_, _, rfl, h.2⟩
  ·rename_i he; simp only [he]; exact ⟨_, _, rfl, h.2⟩
  ·rename_i es he
   cases es with
   | nil => exact absurd rfl h.1
   | cons y ys => simp only [he]; exact ⟨_, _, rfl, h.2⟩
  ·rename_i he; simp only [he]; obtain ⟨o, h1, h2, h3⟩ := optO_elim h; exact ⟨_, _, by simp only [h1]; rw [if_pos h2], h3⟩
  ·exact h.elim
 case cap x => split at h <;> first | exact h.elim | (rename_i he; simp only [he]; exact ⟨_, _, rfl, h.2⟩)
 case clear sz zero x =>
  split at h
  ·rename_i he; simp only [he]; exact ⟨_, _, rfl, h.2⟩
  ·rename_i he; simp only [he]; obtain ⟨o, h1, h2, h3⟩ := optO_elim h; exact ⟨_, _, by simp only [h1]; rw [if_pos h2], h3⟩
  ·exact h.elim
 case appendz sz zero a x =>
  obtain ⟨n, h1, h⟩ := natO_elim h
  split at h
  ·rename_i he; simp only [he, h1]; exact ⟨_, _, by rw [if_pos h.1], h.2⟩
  ·exact h.elim
 case mlook qs zero x k =>
  split at h
  ·rename_i r ks vs kc h1 h2; simp only [h1, h2]; refine ⟨_, _, ?_, h.2⟩; rw [if_pos h.1]; cases mapFind kc ks vs <;> rfl
  ·exact h.elim
 case sidx x i =>
  obtain ⟨n, h1, h⟩ := natO_elim h
  split at h
  ·rename_i s he
   simp only [he, h1]
   obtain ⟨b, hb, h2, h3⟩ := h
   have : s[n]? = some b := by
    have h0 := (List.getElem?_eq_some_iff.1 hb)
    obtain ⟨hlt, he2⟩ := h0
    have hlt' : n < s.size := by simpa using hlt
    rw [getElem?_pos s n hlt', <- he2]; rfl
   exact ⟨_, _, by simp only [this], h3⟩
  ·exact h.elim
 case min xs => obtain ⟨v, h1, h2⟩ := optO_elim h; exact ⟨_, _, by rw [h1], h2.2⟩
 case max xs => obtain ⟨v, h1, h2⟩ := optO_elim h; exact ⟨_, _, by rw [h1], h2.2⟩
 all_goals exact h.elim
end
end Go.Ab
