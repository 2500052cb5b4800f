/-
Proofs for the law ProjectInvertsTwice, part 41. Conditions: none.
-/
import Derived.Test.YtalcegbealdigaaGreatDoorAP40
import Derived.Test.YtalcegbealdigaaGreatDoorAP38
import Derived.Test.YtalcegbealdigaaGreatDoorAP14
import Derived.Test.YtalcegbealdigaaGreatDoorAP31
set_option maxRecDepth 100000
set_option maxHeartbeats 4000000
set_option linter.all false
namespace Go.Ab
theorem zxc {α β : Type} {f : β -> α -> β} {Pb : β -> Prop} {Qa : α -> Prop} (hp : ∀ b x, Pb b -> Qa x -> Pb (f b x)) (hc : ∀ b x y, Pb b -> Qa x -> Qa y -> f (f b x) y = f (f b y) x) {l l' : List α} (h : l.Perm l') :
  (∀ x ∈ l, Qa x) -> ∀ b, Pb b -> l.foldl f b = l'.foldl f b := by
 induction h with
 | nil => intro _ b _; rfl
 | cons x _ ih => intro hq b hb; exact ih (fun y hy => hq y (List.mem_cons_of_mem _ hy)) _ (hp b x hb (hq x List.mem_cons_self))
 | swap x y l => intro hq b hb; simp only [List.foldl_cons]; rw [hc b y x hb (hq y List.mem_cons_self) (hq x (List.mem_cons_of_mem _ List.mem_cons_self))]
 | trans h1 _ ih1 ih2 => intro hq b hb; rw [ih1 hq b hb, ih2 (fun y hy => hq y (h1.mem_iff.2 hy)) b hb]
section
variable {r : GRing}
def ckL (r : GRing) (N : Nat) (l : List GW) : Prop := (∀ w ∈ l, w.chk r) /\ l.length = N
theorem zi1 {N : Nat} {l : List GW} (h : ckL r N l) {i : Nat} (hi : i < N) : (l.getD i r.zero).chk r := by
 rw [List.getD_eq_getElem?_getD, List.getElem?_eq_getElem (by rw [h.2]; exact hi)]; exact h.1 _ (List.getElem_mem _)
theorem z8f {N : Nat} {b e : List GW} {x : GTArc} (hb : ckL r N b) (he : ckL r N e) (hw : x.w.chk r) (hx : x.fit N) : ckL r N (addW r b x e) := by
 refine ⟨fun w hw' => ?_, by rw [zwh]; exact hb.2⟩
 obtain ⟨⟨a1, a2⟩, a3, a4⟩ := hx
 rcases List.mem_or_eq_of_mem_set hw' with h | h
 ·exact hb.1 w h
 ·rw [h]; exact zd0 (zi1 hb (by omega)) (zdd hw (zi1 he (by omega)))
theorem z1w {N : Nat} {b e e' : List GW} {x y : GTArc} (hb : ckL r N b) (he : ckL r N e) (he' : ckL r N e') (hwx : x.w.chk r) (hwy : y.w.chk r) (hx : x.fit N) (hy : y.fit N) : addW r (addW r b x e) y e' = addW r (addW r b y e') x e := by
 obtain ⟨⟨a1, a2⟩, a3, a4⟩ := hx
 obtain ⟨⟨b1, b2⟩, b3, b4⟩ := hy
 have c1 := zdd hwx (zi1 he (i := x.t.toNat) (by omega))
 have c2 := zdd hwy (zi1 he' (i := y.t.toNat) (by omega))
 have lb := hb.2
 unfold addW
 generalize r.times x.w (e.getD x.t.toNat r.zero) = tx at *
 generalize r.times y.w (e'.getD y.t.toNat r.zero) = ty at *
 have hfx : x.f.toNat < b.length := by omega
 have hfy : y.f.toNat < b.length := by omega
 generalize x.f.toNat = i at *
 generalize y.f.toNat = j at *
 by_cases hij : i = j
 ·subst hij
  have c0 : (b.getD i r.zero).chk r := zi1 hb (by omega)
  have g1 : ∀ v : GW, (b.set i v).getD i r.zero = v := fun v => by
   rw [List.getD_eq_getElem?_getD, List.getElem?_set_self hfx]; rfl
  rw [g1, g1, List.set_set, List.set_set, zd4 c0 c1 c2, zd4 c0 c2 c1, zil c1 c2]
 ·have g1 : ∀ v : GW, (b.set i v).getD j r.zero = b.getD j r.zero := fun v => by
   rw [List.getD_eq_getElem?_getD, List.getElem?_set_ne hij, <- List.getD_eq_getElem?_getD]
  have g2 : ∀ v : GW, (b.set j v).getD i r.zero = b.getD i r.zero := fun v => by
   rw [List.getD_eq_getElem?_getD, List.getElem?_set_ne (Ne.symm hij), <- List.getD_eq_getElem?_getD]
  rw [g1, g2, List.set_comm _ _ hij]
def okA (r : GRing) (N : Nat) (p : GTArc -> Option (List GW)) (x : GTArc) : Prop := x.w.chk r /\ x.fit N /\ ∀ e, p x = some e -> ckL r N e
theorem z10 {N : Nat} {p : GTArc -> Option (List GW)} {b : List GW} {x : GTArc} (hb : ckL r N b) (hx : okA r N p x) : ckL r N (accS r p b x) := by
 unfold accS
 cases h : p x with
 | none => exact hb
 | some e => exact z8f hb (hx.2.2 e h) hx.1 hx.2.1
theorem z1z {N : Nat} {p : GTArc -> Option (List GW)} {b : List GW} {x y : GTArc} (hb : ckL r N b) (hx : okA r N p x) (hy : okA r N p y) : accS r p (accS r p b x) y = accS r p (accS r p b y) x := by
 unfold accS
 cases h : p x with
 | none => rfl
 | some e =>
  cases h' : p y with
  | none => rfl
  | some e' => exact z1w hb (hx.2.2 e h) (hy.2.2 e' h') hx.1 hy.1 hx.2.1 hy.2.1
theorem zuh {N : Nat} {p : GTArc -> Option (List GW)} : ∀ {l : List GTArc} {b : List GW}, ckL r N b -> (∀ x ∈ l, okA r N p x) -> ckL r N (accW r p l b)
 | [], _, hb, _ => hb
 | x :: l, b, hb, h => zuh (l := l) (z10 hb (h x List.mem_cons_self)) fun y hy => h y (List.mem_cons_of_mem _ hy)
theorem zsy {N : Nat} {p : GTArc -> Option (List GW)} {l l' : List GTArc} (hl : l.Perm l') {b : List GW} (hb : ckL r N b) (h : ∀ x ∈ l, okA r N p x) : accW r p l b = accW r p l' b :=
 zxc (Pb := ckL r N) (Qa := okA r N p) (fun _ _ => z10) (fun _ _ _ => z1z) hl h b hb
theorem zqn {p q : GTArc -> Option (List GW)} (f : GTArc -> GTArc) (hf : ∀ x, (f x).f = x.f /\ (f x).t = x.t /\ (f x).w = x.w) : ∀ {l : List GTArc} {b : List GW}, (∀ x ∈ l, p (f x) = q x) -> accW r p (l.map f) b = accW r q l b
 | [], _, _ => rfl
 | x :: l, b, h => by
  show accW r p (l.map f) (accS r p b (f x)) = accW r q l (accS r q b x)
  have : accS r p b (f x) = accS r q b x := by
   unfold accS
   rw [h x List.mem_cons_self]
   cases q x with
   | none => rfl
   | some e =>
    obtain ⟨h1, h2, h3⟩ := hf x
    simp only [addW, h1, h2, h3]
  rw [this]
  exact zqn f hf fun y hy => h y (List.mem_cons_of_mem _ hy)
theorem z02 (x : GTArc) : emF (swT x) = emF x := by
 unfold emF swT
 exact Bool.and_comm _ _
def z5v (r : GRing) (N : Nat) (l : List GTArc) : Prop := ∀ x ∈ l, x.w.chk r /\ x.fit N
theorem zyk {N : Nat} {l l' : List GTArc} (hl : l'.Perm (l.map swT)) {b : List GW} (hb : ckL r N b) (h : z5v r N l) : ∀ n, sprN r l' b n = sprN r l b n /\ ckL r N (sprN r l b n)
 | 0 => ⟨rfl, hb⟩
 | n + 1 => by
  obtain ⟨ih, ik⟩ := zyk hl hb h n
  have hok : ∀ x ∈ l, okA r N (zeb (sprN r l b n)) x := fun x hx => ⟨(h x hx).1, (h x hx).2, fun e he => by
   unfold zeb at he
   split at he
   ·cases he; exact ik
   ·cases he⟩
  refine ⟨?_, zuh hb hok⟩
  show accW r (zeb (sprN r l' b n)) l' b = accW r (zeb (sprN r l b n)) l b
  rw [ih]
  have hok' : ∀ x ∈ l', okA r N (zeb (sprN r l b n)) x := fun x hx => by
   obtain ⟨y, hy, rfl⟩ := List.mem_map.1 (hl.mem_iff.1 hx)
   refine ⟨(h y hy).1, (h y hy).2, fun e he => (hok y hy).2.2 e ?_⟩
   unfold zeb at he ⊢
   rwa [z02] at he
  rw [zsy hl hb hok']
  exact zqn swT (fun _ => ⟨rfl, rfl, rfl⟩) fun x _ => by unfold zeb; rw [z02]
theorem zuw (wx wy : List Int) (i k : Nat) (f g : Nat -> Nat -> List GW) (hfg : ∀ a b, f b a = g a b) (x : GTArc) : zdy wy wx k i f (swT x) = zdy wx wy i k g x := by
 unfold zdy
 show (if 0 <= nx x.o wy k /\ 0 <= nx x.i wx i /\ (k : Int) + i < nx x.o wy k + nx x.i wx i then _ else _) = _
 by_cases h : 0 <= nx x.i wx i /\ 0 <= nx x.o wy k /\ (i : Int) + k < nx x.i wx i + nx x.o wy k
 ·rw [if_pos h, if_pos ⟨h.2.1, h.1, by omega⟩]
  exact congrArg some (hfg _ _)
 ·rw [if_neg h, if_neg fun h' => h ⟨h'.2.1, h'.1, by omega⟩]
structure swap (t u : GTrans) : Prop where
 ring : u.ring = t.ring
 st : u.st = t.st
 ini : u.ini = t.ini
 fin : u.fin = t.fin
 arcs : u.arcs.Perm (t.arcs.map swT)
structure ckT (r : GRing) (t : GTrans) : Prop where
 ring : t.ring = r
 rok : r.ok = true
 fin : ckL r t.st.toNat t.fin
 arcs : z5v r t.st.toNat t.arcs
theorem z47 {t : GTrans} (ht : ckT r t) (wx wy : List Int) (i k : Nat) : ckL r t.st.toNat (zga t wx wy i k) := by
 unfold zga
 split
 ·exact ht.fin
 ·rw [ht.ring]
  exact ⟨fun w hw => by rw [List.eq_of_mem_replicate hw]; exact zch ht.rok, by simp⟩
theorem zs4 {t u : GTrans} (ht : ckT r t) (hs : swap t u) (wx wy : List Int) : ∀ (n i k : Nat), i <= wx.length -> k <= wy.length -> wx.length - i + (wy.length - k) < n -> valW u wy wx n k i = valW t wx wy n i k /\ ckL r t.st.toNat (valW t wx wy n i k)
 | 0, _, _, _, _, h => by omega
 | n + 1, i, k, hi, hk, hn => by
  have hr := ht.ring
  show zgd u wy wx k i (valW u wy wx n) = zgd t wx wy i k (valW t wx wy n) /\ ckL r t.st.toNat (zgd t wx wy i k (valW t wx wy n))
  have hcong : zgd u wy wx k i (valW u wy wx n) = zgd u wy wx k i (fun b a => valW t wx wy n a b) := zh0 hk hi fun b a h1 h2 h3 h4 h5 => (zs4 ht hs wx wy n a b h4 h3 (by omega)).1
  rw [hcong]
  have hb := z47 ht wx wy i k
  have hbe : zga u wy wx k i = zga t wx wy i k := by
   unfold zga
   rw [hs.ring, hs.st, hs.fin]
   by_cases h : i = wx.length /\ k = wy.length
   ·rw [if_pos h, if_pos ⟨h.2, h.1⟩]
   ·rw [if_neg h, if_neg fun h' => h ⟨h'.2, h'.1⟩]
  have hok : ∀ x ∈ t.arcs, okA r t.st.toNat (zdy wx wy i k (valW t wx wy n)) x := fun x hx => ⟨(ht.arcs x hx).1, (ht.arcs x hx).2, fun e he => by
   obtain ⟨a, b, h1, h2, h3, h4, h5, h6, h7, h8, h9, rfl⟩ := zfa hi hk he
   exact (zs4 ht hs wx wy n a b h7 h8 (by omega)).2⟩
  have hok' : ∀ x ∈ u.arcs, okA r t.st.toNat (zdy wy wx k i fun b a => valW t wx wy n a b) x := fun x hx => by
   obtain ⟨y, hy, rfl⟩ := List.mem_map.1 (hs.arcs.mem_iff.1 hx)
   exact ⟨(hok y hy).1, (hok y hy).2.1, fun e he => (hok y hy).2.2 e (by rwa [zuw wx wy i k _ (valW t wx wy n) fun _ _ => rfl] at he)⟩
  have hrow : rowW u wy wx k i (fun b a => valW t wx wy n a b) = rowW t wx wy i k (valW t wx wy n) := by
   unfold rowW
   rw [hbe, hs.ring, hr, zsy hs.arcs hb hok']
   exact zqn swT (fun _ => ⟨rfl, rfl, rfl⟩) fun x _ => zuw wx wy i k _ _ (fun _ _ => rfl) x
  have hrc : ckL r t.st.toNat (rowW t wx wy i k (valW t wx wy n)) := by
   unfold rowW
   rw [hr]; exact zuh hb hok
  unfold zgd
  rw [hrow, hs.ring, hs.st, hr]
  exact zyk hs.arcs hrc ht.arcs _
theorem z8x {t u : GTrans} (ht : ckT r t) (hs : swap t u) (wx wy : List Int) : wgt u wy wx = wgt t wx wy := by
 unfold wgt tabW
 rw [hs.ring, hs.ini, show wy.length - 0 + (wx.length - 0) + 1 = wx.length - 0 + (wy.length - 0) + 1 by omega, (zs4 ht hs wx wy _ 0 0 (by omega) (by omega) (by omega)).1]
end
section
variable {α : Type} {key : α -> List Int} {wt : α -> GW} {r : GRing}
theorem zv5 (ext : ∀ x y, key x = key y -> wt x = wt y -> x = y) {L : List α} (s : SSrt key L) (c : ∀ x ∈ L, (wt x).chk r) (n : ∀ x ∈ L, wt x ≠ r.zero) (x : α) : x ∈ L ↔ wt x ≠ r.zero /\ atK key wt r L (key x) = wt x := by
 constructor
 ·exact fun h => ⟨n x h, zm2 s c h⟩
 ·rintro ⟨h1, h2⟩
  by_cases h : ∃ y ∈ L, key y = key x
  ·obtain ⟨y, hy, e⟩ := h
   have h3 := zm2 s c hy
   rw [e, h2] at h3
   rw [ext x y e.symm h3]; exact hy
  ·have h3 : atK key wt r L (key x) = r.zero := zqm fun y hy e => h ⟨y, hy, e⟩
   exact absurd (h2.symm.trans h3) h1
theorem znq {L : List α} (s : SSrt key L) : L.Nodup := s.imp fun {a b} h e => by rw [e] at h; exact List.lt_irrefl _ h
end
theorem z0o {t : GTrans} (ok : t.ok) (x : GTArc) : x ∈ t.inv.nf.arcs ↔ swT x ∈ t.nf.arcs := by
 have hc : ∀ x ∈ t.arcs, x.w.chk t.ring := fun x hx => (ok.arcs x hx).2.2.2.2.2.2.2.2
 have h1 : ∀ y ∈ t.arcs.map swT, y.w.chk t.ring := zjv (wt := GTArc.w) (f := swT) (fun _ => rfl) hc
 obtain ⟨a1, a2, a3⟩ := zd9 ok.ring h1
 obtain ⟨b1, b2, b3⟩ := zd9 ok.ring hc
 show x ∈ tid GTArc.key GTArc.w t.ring (upT t.ring) (t.arcs.map swT) ↔ swT x ∈ tid GTArc.key GTArc.w t.ring (upT t.ring) t.arcs
 have ext : ∀ x y : GTArc, x.key = y.key -> x.w = y.w -> x = y := fun x y h h' => zks.2 ⟨h, h'⟩
 rw [zv5 ext a1 (fun x hx => (a2 x hx).1) (fun x hx => (a2 x hx).2), zv5 ext b1 (fun x hx => (b2 x hx).1) (fun x hx => (b2 x hx).2)]
 show x.w ≠ _ /\ _ ↔ x.w ≠ _ /\ _ = x.w
 refine and_congr_right fun _ => ?_
 unfold atK
 rw [a3, b3, zjx (key := GTArc.key) (wt := GTArc.w) swT swK (fun _ => rfl) (fun _ => rfl)]
 have : (fun k => decide (swK k = x.key)) = fun k : List Int => decide (k = (swT x).key) := by
  funext k
  have : swK k = x.key ↔ k = (swT x).key := ⟨fun h => by rw [<- zs7 k, h]; rfl, fun h => by rw [h, show (swT x).key = swK x.key from rfl, zs7]⟩
  exact decide_eq_decide.2 this
 rw [this]
theorem z6d (x : GTArc) : swT (swT x) = x := rfl
theorem zky {t : GTrans} (ok : t.ok) : SSrt GTArc.key t.nf.arcs := (zd9 ok.ring fun x hx => (ok.arcs x hx).2.2.2.2.2.2.2.2).1
theorem z30 {t : GTrans} (ok : t.ok) : t.inv.nf.arcs.Perm (t.nf.arcs.map swT) := by
 refine (List.perm_ext_iff_of_nodup (znq (zky (zol ok))) ?_).2 fun x => ?_
 ·refine List.pairwise_map.2 ((znq (zky ok)).imp fun {a b} h e => h ?_)
  rw [<- z6d a, e]; rfl
 ·rw [z0o ok, List.mem_map]
  exact ⟨fun h => ⟨swT x, h, rfl⟩, fun ⟨y, hy, e⟩ => by rw [<- e]; exact hy⟩
theorem z3z {t : GTrans} (ok : t.ok) : swap t.nf t.inv.nf := ⟨rfl, rfl, rfl, rfl, z30 ok⟩
theorem z7m {t : GTrans} (ok : t.ok) : emP t.inv.nf.arcs = emP t.nf.arcs := by
 unfold emP
 congr 1
 refine ztb (key := GTArc.key) ((zky (zol ok)).filter _) ((zky ok).filter _) fun x => ?_
 rw [List.mem_filter, List.mem_filter, z0o ok]
 constructor
 ·rintro ⟨h, he⟩
  have e : swT x = x := by
   simp only [emF, Bool.and_eq_true, decide_eq_true_eq] at he
   cases x with
   | mk f i o t w =>
    obtain ⟨h1, h2⟩ : i = 0 /\ o = 0 := he
    rw [h1, h2]; rfl
  rw [e] at h; exact ⟨h, he⟩
 ·rintro ⟨h, he⟩
  have e : swT x = x := by
   simp only [emF, Bool.and_eq_true, decide_eq_true_eq] at he
   cases x with
   | mk f i o t w =>
    obtain ⟨h1, h2⟩ : i = 0 /\ o = 0 := he
    rw [h1, h2]; rfl
  rw [e]; exact ⟨h, he⟩
theorem zzz {t : GTrans} (ok : t.ok) : t.nf.nf = t.nf := by
 have hc : ∀ x ∈ t.arcs, x.w.chk t.ring := fun x hx => (ok.arcs x hx).2.2.2.2.2.2.2.2
 obtain ⟨b1, b2, b3⟩ := zd9 ok.ring hc
 have e : tidT t.ring (tidT t.ring t.arcs) = tidT t.ring t.arcs := zs6 (key := GTArc.key) (wt := GTArc.w) (up := upT t.ring) ok.ring (fun _ _ => rfl) (fun _ _ => rfl) (fun x y h h' => zks.2 ⟨h, h'⟩) (fun x hx => (b2 x hx).1) hc b3
 cases t
 simp only [GTrans.nf] at e ⊢
 rw [e]
theorem z0p {t : GTrans} (ok : t.ok) : emC t.inv.nf = emC t.nf := by
 unfold emC
 rw [zzz (zol ok), zzz ok, z7m ok]; rfl
end Go.Ab
namespace Go.Ab
open Enc (enc)
attribute [local go_sem] zat Opd.slots
inductive GW.lt : GW -> Prop
 | mk {q : GRat} {c : Int} {i : Bool} {s : UInt64} {p : List GMono} {ps : List GW} : q.sm 3 -> p.length <= 8 -> ps.length <= 4 -> psm p 2 -> (∀ w ∈ ps, GW.lt w) -> GW.lt (.mk q c i s p ps)
noncomputable instance (w : GW) : Decidable w.lt := Classical.propDecidable _
end Go.Ab
namespace Go.Ab
open Enc (enc)
attribute [local go_sem] zat Opd.slots
structure GAuto.lt (a : GAuto) : Prop where
 ring : a.ring.parts.length <= 6
 ini : a.ini.length <= 6 /\ ∀ w ∈ a.ini, w.lt
 fin : a.fin.length <= 6 /\ ∀ w ∈ a.fin, w.lt
 al : a.arcs.length <= 16
 arcs : ∀ x ∈ a.arcs, x.w.lt
noncomputable instance (a : GAuto) : Decidable a.lt := Classical.propDecidable _
structure GTrans.lt (a : GTrans) : Prop where
 ring : a.ring.parts.length <= 6
 ini : a.ini.length <= 5 /\ ∀ w ∈ a.ini, w.lt
 fin : a.fin.length <= 5 /\ ∀ w ∈ a.fin, w.lt
 al : a.arcs.length <= 12
 arcs : ∀ x ∈ a.arcs, x.w.lt
noncomputable instance (a : GTrans) : Decidable a.lt := Classical.propDecidable _
end Go.Ab
namespace Go.Ab
open Enc (enc)
attribute [local go_sem] zat Opd.slots
def aw1 : GW := .mk (rto 1) 0 false 0 [] []
def aw2 : GW := .mk (rto 2) 0 false 0 [] []
def ar1 : GRing := ⟨1, []⟩
theorem z67 : ar1.one = aw1 := by simp [GRing.one, ar1, GRing.ok, aw1, oneW]
theorem zuo : aw1.chk ar1 := ⟨rfl, fun _ => si1.2 ⟨rfl, rfl, rfl, rfl, rfl, za8 1⟩, fun h => by cases h⟩
theorem z5y : aw1.sm 3 := .one 1 ⟨Nat.le_trans zli.1 (by omega), Nat.le_trans zli.2 (by omega)⟩ (zls 3) (by simp)
theorem w11 : ar1.plus aw1 aw1 = aw2 := by
 have : ar1.plus aw1 aw1 = zar 1 aw1 aw1 := rfl
 rw [this]
 simp only [zar, if_true, aw1, aw2, GW.q_mk, zbj]
 congr 2
 exact (by decide +kernel : (1 : Rat) + 1 = 2)
theorem ych : aw2 ≠ ar1.zero := by
 have : ar1.zero = .mk gr0 0 false 0 [] [] := by simp [GRing.zero, ar1, GRing.ok]
 rw [this]
 intro h
 simp only [aw2, GW.mk.injEq] at h
 have h1 := congrArg GRat.v h.1
 rw [zbj, zhy] at h1
 exact absurd h1 (by decide)
def at0 : GTrans := ⟨ar1, 1, 3, 1, [aw1], [aw1], [⟨0, 1, 2, 0, aw1⟩, ⟨0, 1, 3, 0, aw1⟩]⟩
theorem z2j : at0.ok := by
 refine ⟨rfl, by decide, by decide, by decide, by decide, rfl, rfl, by decide, ?_, ?_, ?_⟩
 ·intro x hx
  simp only [at0, List.mem_cons, List.not_mem_nil, or_false] at hx
  rcases hx with rfl | rfl
  ·exact ⟨by decide, by decide, by decide, by decide, by decide, by decide, by decide, by decide, zuo⟩
  ·exact ⟨by decide, by decide, by decide, by decide, by decide, by decide, by decide, by decide, zuo⟩
 ·intro w hw; simp [at0] at hw; subst hw; exact zuo
 ·intro w hw; simp [at0] at hw; subst hw; exact zuo
theorem ycx : at0.sm 3 := by
 refine ⟨?_, ?_, ?_⟩
 ·intro w hw; simp [at0] at hw; subst hw; exact z5y
 ·intro w hw; simp [at0] at hw; subst hw; exact z5y
 ·intro x hx
  simp only [at0, List.mem_cons, List.not_mem_nil, or_false] at hx
  rcases hx with rfl | rfl <;> exact z5y
theorem z9d : tidA ar1 (at0.arcs.map (labA GTArc.i)) = [⟨0, 1, 0, aw2⟩] := by
 have : mrg GArc.key (upA ar1) id (srt GArc.key (at0.arcs.map (labA GTArc.i))) = [⟨0, 1, 0, ar1.plus aw1 aw1⟩] := by
  simp [at0, labA, srt, insR, mrg, mst, GArc.key, upA]
 unfold tidA
 rw [this, w11]
 simp [ych]
theorem z48 : Sp P F.jl [] (.pure (.bool true)) := by
 refine Sp.vz c.jl fun hok => ?_
 have hi := zr3 at0 3 (by omega) (by omega) ycx (by simp [at0]) (by simp [at0]) (by simp [at0])
 have hv : zic at0 at0.inA = ⟨ar1, 1, 1, [aw1], [aw1], [⟨0, 1, 0, aw2⟩]⟩ := by
  simp only [zic, z2j, if_true, GAuto.vb_iff.2 (zv0 z2j)]
  show GAuto.mk _ _ _ _ _ _ = _
  rw [<- z9d]; rfl
 have he : zid at0 at0.inA = 0 := by simp [zid, z2j, GAuto.vb_iff.2 (zv0 z2j)]
 rw [hv, he] at hi
 have h1 := zzt ar1
 rw [z67] at h1
 simp [g.jl, go_sem]
 refine zaa h1 (by simp [go_sem, ar1]) ?_
 simp [go_sem]
 refine zaa hi (by simp [go_sem, at0, ar1]) ?_
 simp [go_sem]
 refine ⟨fun x _ h => by omega, ?_⟩
 have hof := zgr 2 1 (by omega) (by omega) (by omega)
 rw [show Rat.divInt 2 1 = 2 by decide] at hof
 refine zab hof ?_
 have h4 : (rto 2).sm 1073741824 := ⟨Nat.le_trans (show (rto 2).num.length <= 1 from zas (by decide)) (by omega), Nat.le_trans (show (rto 2).den.length <= 1 by decide) (by omega)⟩
 simp [go_sem, aw2]
 refine zab (zb2 (rto 2) (rto 2) h4) ?_
 simp [go_sem]
end Go.Ab
namespace Go.Ab
open Enc (enc)
attribute [local go_sem] zat Opd.slots
theorem z57 {r : GRing} {n : Nat} (hn : n <= 90) (hn1 : 1 <= n) {l : List GArc} (hl : l.length <= 19) (h : ∀ x ∈ l, x.w.sm n /\ x.w.chk r) : (∀ x ∈ tidA r l, x.w.sm 1048576) /\ (tidA r l).length <= 19 := by
 have hs := zax (key := GArc.key) l
 have iv := zq1 (r := r) hn1 (fun x hx => h x ((hs.2.2 x).1 hx)) _ (Nat.le_refl _)
 rw [List.take_of_length_le (Nat.le_refl _), hs.2.1] at iv
 refine ⟨fun x hx => (iv.2 x (List.mem_filter.1 hx).1).1.mono ?_, Nat.le_trans (List.length_filter_le _ _) (Nat.le_trans iv.1 hl)⟩
 have := Nat.mul_le_mul (show l.length + 1 <= 20 by omega) (show n + 1 <= 91 by omega)
 omega
theorem z54 {r : GRing} {n : Nat} (hn : n <= 90) (hn1 : 1 <= n) {l : List GTArc} (hl : l.length <= 19) (h : ∀ x ∈ l, x.w.sm n /\ x.w.chk r) : (∀ x ∈ tidT r l, x.w.sm 1048576) /\ (tidT r l).length <= 19 := by
 have hs := zax (key := GTArc.key) l
 have iv := zlc (r := r) hn1 (fun x hx => h x ((hs.2.2 x).1 hx)) _ (Nat.le_refl _)
 rw [List.take_of_length_le (Nat.le_refl _), hs.2.1] at iv
 refine ⟨fun x hx => (iv.2 x (List.mem_filter.1 hx).1).1.mono ?_, Nat.le_trans (List.length_filter_le _ _) (Nat.le_trans iv.1 hl)⟩
 have := Nat.mul_le_mul (show l.length + 1 <= 20 by omega) (show n + 1 <= 91 by omega)
 omega
structure GAuto.fit (a : GAuto) : Prop where
 sm : a.sm 1048576
 li : a.ini.length <= 1000000
 lf : a.fin.length <= 1000000
 la : a.arcs.length <= 1000000
structure GTrans.fit (a : GTrans) : Prop where
 sm : a.sm 1048576
 li : a.ini.length <= 1000000
 lf : a.fin.length <= 1000000
 la : a.arcs.length <= 1000000
theorem z7b {a : GAuto} {n : Nat} (ok : a.ok) (hn : n <= 90) (hn1 : 1 <= n) (h : a.sm n) (hl : a.arcs.length <= 19) : a.nf.fit := by
 have t := z57 (r := a.ring) hn hn1 hl fun x hx => ⟨h.arcs x hx, (ok.arcs x hx).2.2.2.2.2.2⟩
 have := ok.il; have := ok.fl; have := ok.st2
 exact ⟨⟨fun w hw => (h.ini w hw).mono (by omega), fun w hw => (h.fin w hw).mono (by omega), t.1⟩, by show a.ini.length <= _; omega, by show a.fin.length <= _; omega, Nat.le_trans t.2 (by omega)⟩
theorem z7a {a : GTrans} {n : Nat} (ok : a.ok) (hn : n <= 90) (hn1 : 1 <= n) (h : a.sm n) (hl : a.arcs.length <= 19) : a.nf.fit := by
 have t := z54 (r := a.ring) hn hn1 hl fun x hx => ⟨h.arcs x hx, (ok.arcs x hx).2.2.2.2.2.2.2.2⟩
 have := ok.il; have := ok.fl; have := ok.st2
 exact ⟨⟨fun w hw => (h.ini w hw).mono (by omega), fun w hw => (h.fin w hw).mono (by omega), t.1⟩, by show a.ini.length <= _; omega, by show a.fin.length <= _; omega, Nat.le_trans t.2 (by omega)⟩
theorem zwr {a : GAuto} (h : a.fit) : Sp P F.fc [enc a, enc a] (.pure (.bool true)) := by
 have := z2w a a h.sm h.li h.lf h.la
 simpa using this
theorem ztg {a : GTrans} (h : a.fit) : Sp P F.fa [enc a, enc a] (.pure (.bool true)) := by
 have := zyv a a h.sm h.li h.lf h.la
 simpa using this
end Go.Ab
namespace Go.Ab
open Enc (enc)
structure GW.tiny (r : GRing) (w : GW) : Prop where
 chk : w.chk r
 mb : w.mb 1
 pl : w.poly.length <= 3
 ps : ∀ x ∈ w.parts, x.poly.length <= 3
theorem z5e {k : Int} {w : GW} (hs : w.si k) (h : w.mb1 1) (hl : w.poly.length <= 3) : w.sm 3 := by
 have hq := si_q hs
 have hp := si_p hs
 cases w with
 | mk q c i s p ps =>
  have e : ps = [] := hs.1
  subst e
  have h1 : q.sm 3 := by
   have := zy6 (n := 3) h.q (ztz 1) (by decide) (by decide)
   rwa [show rto (GW.q (GW.mk q c i s p [])).v = q from zgc hq] at this
  have h2 : psm p 3 := zhp h.p hp (ztz 1) (by decide) (by decide)
  exact .mk h1 h2 hl (by simp) (by simp)
theorem GW.tiny.sm {r : GRing} {w : GW} (h : w.tiny r) : w.sm 3 := by
 by_cases h6 : r.kind = 6
 ·obtain ⟨l, e, hs⟩ := h.chk.2.2 h6
  have hp := GRing.ok_parts h.chk.1 h6
  rw [e]
  refine .tup (by omega) fun x hx => ?_
  obtain ⟨i, hi, rfl⟩ := List.mem_iff_getElem.1 hx
  exact z5e (hs i (by omega) hi) (h.mb.ps _ hx) (h.ps _ hx)
 ·exact z5e (h.chk.2.1 h6) h.mb.o h.pl
theorem zu4 (m : GMono) : ∀ (q o : List GMono), (prow m q o).length <= o.length + q.length
 | [], o => by simp [prow]
 | x :: q, o => by
  have h1 := zu4 m q (pput o (m.e.add x.e) (m.coef.v * x.coef.v))
  have h2 := zkx o (m.e.add x.e) (m.coef.v * x.coef.v)
  have e : prow m (x :: q) o = prow m q (pput o (m.e.add x.e) (m.coef.v * x.coef.v)) := rfl
  rw [e, List.length_cons]; omega
theorem zn3 (q : Rat) : (zbt q).length <= 1 := zkx [] _ q
theorem zzb (v : Int) : (zro v).length <= 3 := by
 have h0 : (pput [] ⟨0, 0, 0⟩ (Rat.divInt (v % 5 - 2) 3)).length <= 1 := zkx [] _ _
 unfold zro
 simp only
 split
 ·refine Nat.le_trans (zpl _ _) ?_
  have h1 := zn3 (numR v)
  have h2 : (pmul (zc1 (IntKind.i64.wrap (v.tdiv 10) % 3)) (zbt (numR v))).length <= 1 := by
   unfold zc1
   split
   ·have := zu4 ⟨Ex.unit (IntKind.i64.wrap (v.tdiv 10) % 3), rto 1⟩ (zbt (numR v)) []
    simp only [List.length_nil, Nat.zero_add] at this
    exact Nat.le_trans this h1
   ·exact Nat.zero_le _
  omega
 ·omega
theorem zvp (k v : Int) : (zfz k v).poly.length <= 3 := by
 unfold zfz
 split
 ·exact Nat.zero_le _
 ·split
  ·split
   ·unfold GRing.zero; split <;> exact Nat.zero_le _
   ·exact Nat.zero_le _
  ·split
   ·exact Nat.zero_le _
   ·split
    ·exact Nat.zero_le _
    ·exact zzb v
theorem z3w {k : Int} (hk : 1 <= k /\ k <= 5) (v : Int) : (zfz k v).parts = [] := (zjj hk v).1.1
theorem zod {r : GRing} (hr : r.ok = true) (v : Int) : (zji r v).tiny r := by
 have h := zw7 hr v
 refine ⟨h.1, h.2, ?_, fun x hx => ?_⟩
 ·unfold zji
  split
  ·exact Nat.zero_le _
  ·exact zvp _ _
 ·unfold zji at hx
  split at hx
  ·obtain ⟨i, _, rfl⟩ := List.mem_map.1 (show x ∈ zc2 r.parts v r.parts.length from hx)
   exact zvp _ _
  ·rename_i h6
   have hk := GRing.ok_kind hr h6
   rw [z3w ⟨hk.1, hk.2.1⟩] at hx; cases hx
theorem zzs (k : Int) (ps : List GW) : (oneW k ps).poly.length <= 3 := by
 show (if k = 5 then zbt 1 else []).length <= 3
 split
 ·have := zn3 1; omega
 ·exact Nat.zero_le _
theorem z3l {r : GRing} (hr : r.ok = true) : r.one.tiny r := by
 have h := z3m hr
 refine ⟨h.1, h.2, ?_, fun x hx => ?_⟩
 ·unfold GRing.one
  rw [if_pos hr]; exact zzs _ _
 ·unfold GRing.one at hx
  rw [if_pos hr] at hx
  obtain ⟨k, _, rfl⟩ := List.mem_map.1 (show x ∈ r.parts.map fun k => oneW k [] from hx)
  exact zzs _ _
theorem zxz {r : GRing} (hr : r.ok = true) : r.zero.tiny r := by
 refine ⟨zch hr, (zui hr).mono (by omega), ?_, fun x hx => ?_⟩
 ·unfold GRing.zero
  rw [if_pos hr]; exact Nat.zero_le _
 ·unfold GRing.zero at hx
  rw [if_pos hr] at hx
  obtain ⟨k, _, rfl⟩ := List.mem_map.1 (show x ∈ r.parts.map zcz from hx)
  exact Nat.zero_le _
theorem z0z {r : GRing} (hr : r.ok = true) (l : List Int) (i : Nat) (one : Int) : (endM r l i one).tiny r := by
 unfold endM
 split
 ·exact zod hr _
 ·split
  ·exact z3l hr
  ·exact zxz hr
structure GTrans.tin (t : GTrans) : Prop where
 ok : t.ok
 st : t.st <= 3
 al : t.arcs.length <= 7
 ini : ∀ w ∈ t.ini, w.tiny t.ring
 fin : ∀ w ∈ t.fin, w.tiny t.ring
 arcs : ∀ x ∈ t.arcs, x.w.tiny t.ring
theorem zoq {r : GRing} (hr : r.ok = true) (l : List Int) (one : Int) (k : Nat) : ∀ w ∈ ze1 r l one k, w.tiny r := fun w hw => by
 obtain ⟨j, _, rfl⟩ := List.mem_map.1 hw
 exact z0z hr _ _ _
theorem zwm (m : GModel) (r : GRing) (i o s : Int) (hr : r.ok = true) (hi : 1 <= i /\ i <= 32) (ho : 1 <= o /\ o <= 32) (hs : 1 <= s /\ s <= 3) : (zh9 m r i o s).tin := by
 have hn : 1 <= numN m s /\ numN m s <= s := by
  have h1 := Int.emod_nonneg (IntKind.i64.wrap (m.st - 1)) (show s ≠ 0 by omega)
  have h2 := Int.emod_lt_of_pos (IntKind.i64.wrap (m.st - 1)) (show 0 < s by omega)
  unfold numN; omega
 have la : (zh9 m r i o s).arcs.length = min 7 (m.arcs.length / 4) := zi4 ..
 have hx : ∀ x ∈ (zh9 m r i o s).arcs, inT x (zh9 m r i o s) /\ x.w.tiny r := fun x hx => by
  obtain ⟨j, _, rfl⟩ := List.mem_map.1 (show x ∈ zkn m r i o (numN m s) (min 7 (m.arcs.length / 4)) from hx)
  have hw := zod hr (m.arcs.getD (4 * j + 3) 0)
  have g : ∀ (a b : Int), 0 < b -> 0 <= a % b /\ a % b < b := fun a b h => ⟨Int.emod_nonneg a (by omega), Int.emod_lt_of_pos a h⟩
  have g1 := g (m.arcs.getD (4 * j) 0) (numN m s) (by omega)
  have g2 := g (m.arcs.getD (4 * j + 2) 0) (numN m s) (by omega)
  have g3 := g (m.arcs.getD (4 * j + 1) 0) (i + 1) (by omega)
  have g4 := g (m.arcs.getD (4 * j + 1) 0) i (by omega)
  have g5 := g (quoI (m.arcs.getD (4 * j + 1) 0) (i + 1)) (o + 1) (by omega)
  have g6 := g (quoI (m.arcs.getD (4 * j + 1) 0) i) o (by omega)
  refine ⟨⟨g1.1, g1.2, g2.1, g2.2, ?_, ?_, ?_, ?_, hw.chk⟩, hw⟩
  ·show 0 <= if m.em = true then _ else _
   split <;> omega
  ·show (if m.em = true then _ else _) <= i
   split <;> omega
  ·show 0 <= if m.em = true then _ else _
   split <;> omega
  ·show (if m.em = true then _ else _) <= o
   split <;> omega
 have e1 := zoq hr m.ini 0 (numN m s).toNat
 have e2 := zoq hr m.fin (numN m s - 1) (numN m s).toNat
 exact ⟨⟨hr, hi, ho, by show 0 <= numN m s; omega, by show numN m s <= 64; omega, by show ((ze1 r m.ini 0 (numN m s).toNat).length : Int) = numN m s; rw [zee]; omega,
  by show ((ze1 r m.fin (numN m s - 1) (numN m s).toNat).length : Int) = numN m s; rw [zee]; omega, by omega, fun x h => (hx x h).1, fun w h => (e1 w h).chk, fun w h => (e2 w h).chk⟩, by show numN m s <= 3; omega, by omega, e1, e2, fun x h => (hx x h).2⟩
theorem GTrans.tin.sm {t : GTrans} (h : t.tin) : t.sm 3 := ⟨fun w hw => (h.ini w hw).sm, fun w hw => (h.fin w hw).sm, fun x hx => (h.arcs x hx).sm⟩
theorem GTrans.tin.inv {t : GTrans} (h : t.tin) : t.inv.tin := ⟨zol h.ok, h.st, by show (t.arcs.map swT).length <= 7; rw [List.length_map]; exact h.al, h.ini, h.fin, fun x hx => by
 obtain ⟨y, hy, rfl⟩ := List.mem_map.1 (show x ∈ t.arcs.map swT from hx)
 exact h.arcs y hy⟩
theorem z2i {r : GRing} {n : Nat} (hn1 : 1 <= n) {l : List GTArc} (h : ∀ x ∈ l, x.w.sm n /\ x.w.chk r) : ∀ x ∈ tidT r l, x.w.sm ((l.length + 1) * (n + 1)) := fun x hx => by
 have hs := zax (key := GTArc.key) l
 have iv := zlc (r := r) hn1 (fun x hx => h x ((hs.2.2 x).1 hx)) _ (Nat.le_refl _)
 rw [List.take_of_length_le (Nat.le_refl _), hs.2.1] at iv
 exact (iv.2 x (List.mem_filter.1 hx).1).1
theorem z56 {r : GRing} {n : Nat} {l : List GTArc} (h : ∀ x ∈ l, x.w.mb n /\ x.w.chk r) : ∀ x ∈ tidT r l, x.w.mb (l.length + n) := fun x hx => by
 have hs := zax (key := GTArc.key) l
 have h' : ∀ x ∈ srt GTArc.key l, x.w.mb n /\ x.w.chk r := fun x hx => h x ((hs.2.2 x).1 hx)
 have iv := zl5 (key := GTArc.key) (up := upT r) (nw := id) (Q := fun k x => x.w.mb (k + n) /\ x.w.chk r) (fun k x hx => ⟨hx.1.mono (by omega), hx.2⟩) (l := srt GTArc.key l) (fun x hx => ⟨(h' x hx).1.mono (by show n <= 0 + n; omega), (h' x hx).2⟩)
  (fun k z x hx hz => ⟨by have := zze hz.2 (h' x hx).2 hz.1 ((h' x hx).1.mono (by omega)); exact this.mono (by omega), (zd0 hz.2 (h' x hx).2 : (r.plus z.w x.w).chk r)⟩) (fun k x hx => ⟨hx.1.mono (by omega), hx.2⟩) _ (Nat.le_refl _)
 rw [List.take_of_length_le (Nat.le_refl _), hs.2.1] at iv
 exact (iv.2 x (List.mem_filter.1 hx).1).1
theorem GTrans.tin.nf_sm {t : GTrans} (h : t.tin) : t.nf.sm 32 := by
 have := z2i (r := t.ring) (n := 3) (by omega) fun x hx => ⟨h.sm.arcs x hx, (h.arcs x hx).chk⟩
 have hl := h.al
 exact ⟨fun w hw => (h.sm.ini w hw).mono (by omega), fun w hw => (h.sm.fin w hw).mono (by omega), fun x hx => (this x hx).mono (by omega)⟩
theorem GTrans.tin.nf_len {t : GTrans} (h : t.tin) : t.nf.arcs.length <= 7 := Nat.le_trans (zpm t) h.al
theorem GTrans.tin.nf_fits {t : GTrans} (h : t.tin) : t.nf.fits (mbM t.ring h.ok.ring) 8 := by
 have ok := h.ok
 have h0 := ok.il
 have h1 := ok.fl
 have ht := z56 (r := t.ring) (n := 1) fun x hx => ⟨(h.arcs x hx).mb, (h.arcs x hx).chk⟩
 have hl := h.al
 refine ⟨rfl, ⟨ok.st1, ok.st2⟩, fun x hx => ?_, ⟨fun w hw => ⟨(h.ini w hw).chk, (h.ini w hw).mb.mono (by omega)⟩, by show t.ini.length = t.st.toNat; omega⟩, ⟨fun w hw => ⟨(h.fin w hw).chk, (h.fin w hw).mb.mono (by omega)⟩, by show t.fin.length = t.st.toNat; omega⟩, ok.ring⟩
 obtain ⟨a1, a2, a3, a4, a5, a6, a7, a8, a9⟩ := (zz0 ok).arcs x hx
 have e : t.nf.st = t.st := rfl
 refine ⟨⟨a9, (ht x hx).mono (by omega)⟩, ⟨a1, by show x.f < (t.nf.st.toNat : Int); omega⟩, a3, by show x.t < (t.nf.st.toNat : Int); omega⟩
end Go.Ab
namespace Go.Ab
open Enc (enc)
attribute [local go_sem] zat Opd.slots
def zeg (l : List Int) (m : Int) (most : Nat) : List Int := (l.take most).map fun x => 1 + x % m
theorem zum (l : List Int) (m : Int) (most : Nat) (hm : 1 <= m /\ m <= 32) (h : most <= 256) : zjy (zeg l m most) m := ⟨hm, by simp only [zeg, List.length_map, List.length_take]; omega, fun x hx => by
 obtain ⟨y, _, rfl⟩ := List.mem_map.1 hx
 have h1 := Int.emod_nonneg y (show m ≠ 0 by omega)
 have h2 := Int.emod_lt_of_pos y (show 0 < m by omega)
 exact ⟨by omega, by omega⟩⟩
theorem zqq (l : List Int) (m : Int) (most : Nat) : (zeg l m most).length <= most := by simp only [zeg, List.length_map, List.length_take]; omega
noncomputable def wV (t : GTrans) (wx wy : List Int) : GW := if emC t = true then gw0 else wgt t.nf wx wy
noncomputable def wE (t : GTrans) : Int := if emC t = true then 10 else 0
theorem zqs (t : GTrans) (n : Nat) (hn : n <= 90) (hn1 : 3 <= n) (h : t.sm n) (hl : t.arcs.length <= 7) (ok : t.ok) (hst : t.st <= 3) (hr : t.ring.ok = true) (ht : t.nf.fits (mbM t.ring hr) 8) (wx wy : List Int) (lx : wx.length <= 2) (ly : wy.length <= 2)
  (hwx : zjy wx t.i) (hwy : zjy wy t.o) : Sp P F.bf [enc t, .sl (ens wx), .sl (ens wy)] (.pure (.tup [enc (wV t wx wy), .int .i64 (wE t)])) := by
 have hA := zpm t
 have hS : t.nf.st.toNat <= 3 := by show t.st.toNat <= 3; omega
 unfold wV wE
 rcases Bool.eq_false_or_eq_true (emC t) with hc | hc
 ·rw [if_pos hc, if_pos hc]; exact zsz t n hn hn1 h (by omega) ok wx wy hc
 ·rw [hc, if_neg (by decide), if_neg (by decide)]
  refine zs0 (mbM t.ring hr) t n hn hn1 h (by omega) ok ht wx wy (by omega) (by omega) ?_ hc hwx hwy
  show lvl t.nf 8 (wx.length + wy.length + 1) + 8 + 1 + t.st.toNat <= 900
  unfold lvl
  have h1 : (t.nf.st.toNat + 1) * (8 + 1 + t.nf.arcs.length) <= 4 * 16 := Nat.mul_le_mul (by omega) (by omega)
  have h2 := Nat.mul_le_mul (show wx.length + wy.length + 1 <= 5 by omega) h1
  omega
theorem z8y {t : GTrans} {r : GRing} (hr : r.ok = true) (ht : t.fits (mbM r hr) 8) (hl : t.arcs.length <= 7) (hst : t.st <= 3) (wx wy : List Int) (lx : wx.length <= 2) (ly : wy.length <= 2) : (wgt t wx wy).sm 1048576 := by
 have h := zyh ht (wx := wx) (wy := wy) (i := 0) (k := 0) (by omega) (by omega)
 have h3 := zs8 (M := mbM r hr) hr ht.ini.1 h.1 t.st.toNat (by rw [ht.ini.2]; omega) (by rw [h.2]; omega)
 have e : sumN r t.ini (tabW t wx wy 0 0) t.st.toNat = wgt t wx wy := by
  rw [zuv (by rw [ht.ini.2]; omega)]; unfold wgt; rw [ht.ring]
 rw [e] at h3
 have hb : (wgt t wx wy).mb (8 + lvl t 8 (wx.length + wy.length + 1) + 1 + t.st.toNat) := h3.2
 have h1 : (t.st.toNat + 1) * (8 + 1 + t.arcs.length) <= 4 * 16 := Nat.mul_le_mul (by omega) (by omega)
 have h2 : lvl t 8 (wx.length + wy.length + 1) <= 5 * (4 * 16) := Nat.mul_le_mul (by omega) h1
 exact (zsr h3.1 (hb.mono (show _ <= 900 by omega)) (by omega)).mono (by omega)
theorem z5n {t : GTrans} (ok : t.ok) : emC t.nf = emC t := by
 unfold emC
 rw [zzz ok]; rfl
theorem invertsTwice_sp (k : Int) (m : GModel) (wi wo : List Int) : Sp P F.mr [.int .i64 k, enc m, .sl (ens wi), .sl (ens wo)] (.pure (.bool true)) := by
 have hT := zwm m (zll k) 2 2 3 (zu0 k) (by omega) (by omega) (by omega)
 have hts := z16 m (zll k) 2 2 3 (zu0 k) (by omega) (by omega) (by omega)
 have hi : (zh9 m (zll k) 2 2 3).i = 2 := rfl
 have ho : (zh9 m (zll k) 2 2 3).o = 2 := rfl
 generalize zh9 m (zll k) 2 2 3 = t at *
 have ok := hT.ok
 have oki := zol ok
 have h0 := ok.il
 have h1 := ok.fl
 have h2 := ok.st2
 have hal := hT.al
 have su := hT.inv.nf_sm
 have lu := hT.inv.nf_len
 have oku : t.inv.nf.ok := zz0 oki
 have u0 := oku.il
 have u1 := oku.fl
 have u2 := oku.st2
 have lx := zqq wi 2 2
 have ly := zqq wo 2 2
 have wx := zum wi 2 2 (by omega) (by omega)
 have wy := zum wo 2 2 (by omega) (by omega)
 have c1 := zok t 3 (by omega) (by omega) hT.sm (by omega) (by omega) (by omega)
 rw [show trV t.inv = t.inv.nf by unfold trV; rw [if_pos oki], show trE t.inv = 0 by unfold trE; rw [if_pos oki]] at c1
 have c2 := zok t.inv.nf 32 (by omega) (by omega) su (by omega) (by omega) (by omega)
 have okui := zol oku
 rw [show trV t.inv.nf.inv = t.nf by unfold trV; rw [if_pos okui, z0n ok], show trE t.inv.nf.inv = 0 by unfold trE; rw [if_pos okui]] at c2
 have c3 := zr3 t.inv.nf 32 (by omega) (by omega) su (by omega) (by omega) (by omega)
 rw [show zic t.inv.nf t.inv.nf.inA = t.outA.nf by unfold zic; rw [if_pos oku, if_pos (GAuto.vb_iff.2 (zv0 oku)), z0q ok], show zid t.inv.nf t.inv.nf.inA = 0 by unfold zid; rw [if_pos oku, if_pos (GAuto.vb_iff.2 (zv0 oku))]] at c3
 have c4 := zwx t 3 (by omega) (by omega) hT.sm (by omega) (by omega) (by omega)
 rw [show zic t t.outA = t.outA.nf by unfold zic; rw [if_pos ok, if_pos (GAuto.vb_iff.2 (ztt ok))], show zid t t.outA = 0 by unfold zid; rw [if_pos ok, if_pos (GAuto.vb_iff.2 (ztt ok))]] at c4
 have w1 := zqs t 3 (by omega) (by omega) hT.sm hal ok hT.st ok.ring hT.nf_fits (zeg wi 2 2) (zeg wo 2 2) lx ly (by rw [hi]; exact wx) (by rw [ho]; exact wy)
 have w2 := zqs t.inv.nf 32 (by omega) (by omega) su lu oku hT.st ok.ring (by rw [zzz oki]; exact hT.inv.nf_fits) (zeg wo 2 2) (zeg wi 2 2) ly lx (by show zjy _ t.o; rw [ho]; exact wy) (by show zjy _ t.i; rw [hi]; exact wx)
 have hp : t.ring.parts.length <= 1000000 := by
  by_cases h6 : t.ring.kind = 6
  ·have := (GRing.ok_parts ok.ring h6).2.1; omega
  ·rw [(GRing.ok_kind ok.ring h6).2.2]; simp
 have c5 := zr9 t 3 (by omega) (by omega) hT.sm (by omega) hp (by omega) h0 h1 ok.ini ok.fin fun x hx => (hT.arcs x hx).chk
 have hE : wE t.inv.nf = wE t := by unfold wE; rw [z0p ok, z5n ok]
 have hck : ckT t.ring t.nf := by
  have f := hT.nf_fits
  exact ⟨rfl, ok.ring, ⟨fun w hw => (f.fin.1 w hw).1, f.fin.2⟩, fun x hx => ⟨(f.arcs x hx).1.1, (f.arcs x hx).2⟩⟩
 have hV : wV t.inv.nf (zeg wo 2 2) (zeg wi 2 2) = wV t (zeg wi 2 2) (zeg wo 2 2) := by
  unfold wV
  rw [z0p ok, z5n ok, zzz oki, z8x hck (z3z ok)]
 rw [hE, hV] at w2
 have hsm : (wV t (zeg wi 2 2) (zeg wo 2 2)).sm 1048576 := by
  unfold wV
  split
  ·exact yac _
  ·exact z8y ok.ring hT.nf_fits hT.nf_len hT.st _ _ lx ly
 have c6 := zfk _ hsm (wV t (zeg wi 2 2) (zeg wo 2 2))
 rw [decide_eq_true rfl] at c6
 have f17 := ztg (z7a ok (n := 3) (by omega) (by omega) hT.sm (by omega))
 have f6 := zwr (z7b (ztt ok) (n := 3) (by omega) (by omega) hT.sm.outA (by show (t.arcs.map _).length <= 19; rw [List.length_map]; omega))
 have cx := zx1 wi 2 2 (by omega) (by omega) (by omega)
 have cy := zx1 wo 2 2 (by omega) (by omega) (by omega)
 change Sp P F.bq _ (.pure (.sl (ens (zeg wi 2 2)))) at cx
 change Sp P F.bq _ (.pure (.sl (ens (zeg wo 2 2)))) at cy
 generalize wV t (zeg wi 2 2) (zeg wo 2 2) = V at *
 generalize wE t = E at *
 generalize zeg wi 2 2 = X at *
 generalize zeg wo 2 2 = Y at *
 generalize t.inv.nf = u at *
 generalize t.outA.nf = o at *
 refine Sp.vz c.mr fun _ => ?_
 simp [g.mr, go_sem]
 refine zab (z6m k) ?_
 simp [go_sem]
 refine zab hts ?_
 simp [go_sem]
 refine zab c1 ?_
 simp [go_sem]
 refine zab c2 ?_
 simp [go_sem]
 refine zab c3 ?_
 simp [go_sem]
 refine zab c4 ?_
 simp [go_sem]
 refine zab cx ?_
 simp [go_sem]
 refine zab cy ?_
 simp [go_sem]
 refine zab w1 ?_
 simp [go_sem]
 refine zab w2 ?_
 simp [go_sem]
 refine zab z48 ?_
 simp [go_sem]
 refine zab c5 ?_
 simp [go_sem]
 refine zab f17 ?_
 simp [go_sem]
 refine zab f6 ?_
 simp [go_sem]
 refine zab c6 ?_
 simp [go_sem]
end Go.Ab
namespace Go.Ab
open Enc (enc)
section
variable {H : Type} {en : TypeId × Value -> H} {w : World}
theorem rdInt (n : Nat) : RdN en P w n T.int (IsC Int) := z9k ty.int
theorem rdBool (n : Nat) : RdN en P w n T.bool (IsC Bool) := z6p ty.bool
theorem rdInts (n : Nat) : RdN en P w n T.ints (IsC (List Int)) := z27 (fun _ => rfl) (fun _ => rfl) ty.ints ty.cell fun k _ => rdInt k
theorem gmodel_one (x : GModel) : (enc x).cells.all PV.one = true := by simp [go_sem, PV.cells]
theorem rdModel (n : Nat) : RdN en P w n T.model (IsC GModel) := zy3 (Ds := [IsC Int, IsC (List Int), IsC (List Int), IsC (List Int), IsC Bool]) ty.model rfl (fun m _ => ⟨rdInt m, rdInts m, rdInts m, rdInts m, rdBool m, trivial⟩) fun ls h => by
 obtain ⟨_, ls1, rfl, ⟨a, rfl⟩, h1⟩ := h.cons
 obtain ⟨_, ls2, rfl, ⟨b, rfl⟩, h2⟩ := h1.cons
 obtain ⟨_, ls3, rfl, ⟨c, rfl⟩, h3⟩ := h2.cons
 obtain ⟨_, ls4, rfl, ⟨d, rfl⟩, h4⟩ := h3.cons
 obtain ⟨_, ls5, rfl, ⟨e, rfl⟩, h5⟩ := h4.cons
 obtain rfl := h5.nil
 exact ⟨⟨a, b, c, d, e⟩, by simp [PV.cells, go_sem]⟩
end
end Go.Ab
