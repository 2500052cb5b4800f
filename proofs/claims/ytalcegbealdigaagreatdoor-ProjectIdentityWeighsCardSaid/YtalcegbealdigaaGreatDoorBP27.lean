/-
Proofs for the law ProjectIdentityWeighs, part 27. Conditions: none.
-/
import Derived.Test.YtalcegbealdigaaGreatDoorBP26
set_option maxRecDepth 100000
set_option maxHeartbeats 4000000
set_option linter.all false
namespace Go.Ab
open Enc (enc)
def qb (D B:Nat) (q:Rat):Prop:=∃ a:Int,q=mkRat a D/\a.natAbs<=B
theorem zv4 {D B B':Nat} {x y:Rat} (hx:qb D B x) (hy:qb D B' y) (hD:D≠0):qb D (B+B') (x+y):=by
 obtain ⟨a,rfl,h1⟩:=hx
 obtain ⟨b,rfl,h2⟩:=hy
 refine ⟨a+b,?_,by omega⟩
 rw [Rat.mkRat_add_mkRat _ _ hD hD,<- Int.add_mul,Rat.mkRat_mul_right hD]
theorem z7b {D D' B B':Nat} {x y:Rat} (hx:qb D B x) (hy:qb D' B' y):qb (D*D') (B*B') (x*y):=by
 obtain ⟨a,rfl,h1⟩:=hx
 obtain ⟨b,rfl,h2⟩:=hy
 refine ⟨a*b,?_,?_⟩
 ·rw [Rat.mkRat_mul_mkRat]
 ·rw [Int.natAbs_mul]; exact Nat.mul_le_mul h1 h2
theorem zeu {D B:Nat} {x:Rat} (k:Nat) (hk:k≠0) (hx:qb D B x):qb (D*k) (B*k) x:=by
 obtain ⟨a,rfl,h1⟩:=hx
 refine ⟨a*k,?_,?_⟩
 ·rw [Rat.mkRat_mul_right hk]
 ·rw [Int.natAbs_mul]; exact Nat.mul_le_mul h1 (by simp)
theorem zjy (D:Nat):qb D 0 0:=⟨0,by simp,by simp⟩
theorem zbb {D B B':Nat} {x:Rat} (h:qb D B x) (k:B<=B'):qb D B' x:=by obtain ⟨a,e,h⟩:=h; exact ⟨a,e,by omega⟩
theorem z0o {D B n:Nat} {x:Rat} (h:qb D B x) (hD:D≠0) (h1:D<4294967296^n) (h2:B<4294967296^n):(rto x).sm n:=by
 obtain ⟨a,rfl,h⟩:=h
 have e1:(mkRat a D).num.natAbs<=B:=by
  rw [Rat.num_mkRat,if_neg hD]
  exact Nat.le_trans (Int.natAbs_ediv_le_natAbs _ _) h
 have e2:(mkRat a D).den<=D:=by
  rw [Rat.den_mkRat,if_neg hD]; exact Nat.div_le_self _ _
 refine ⟨zat (Nat.lt_of_le_of_lt e1 h2),?_⟩
 show (if (mkRat a D).den=1 then [] else lb (mkRat a D).den).length<=n
 split
 ·simp
 ·exact zat (Nat.lt_of_le_of_lt e2 h1)
def Ex.code (e:Ex):Int:=e.a*36+e.b*6+e.c
theorem Ex.ok_iff {e:Ex}:e.ok=true ↔ (0<=e.a/\e.a<=5/\0<=e.b/\e.b<=5/\0<=e.c/\e.c<=5/\e.a+e.b+e.c<=5):=by simp [Ex.ok]
theorem Ex.code_lt {e:Ex} (h:e.ok=true):0<=e.code/\e.code<216:=by rw [Ex.ok_iff] at h; unfold Ex.code; omega
theorem Ex.cmp_neg {x y:Ex} (hx:x.ok=true) (hy:y.ok=true):x.cmp y<0 ↔ x.code<y.code:=by
 rw [Ex.ok_iff] at hx hy; unfold Ex.cmp Ex.code; (repeat' split)<;>omega
theorem Ex.cmp_pos {x y:Ex} (hx:x.ok=true) (hy:y.ok=true):0<x.cmp y ↔ y.code<x.code:=by
 rw [Ex.ok_iff] at hx hy; unfold Ex.cmp Ex.code; (repeat' split)<;>omega
theorem Ex.code_inj {x y:Ex} (hx:x.ok=true) (hy:y.ok=true):x.code=y.code ↔ x=y:=by
 rw [Ex.ok_iff] at hx hy; unfold Ex.code; obtain ⟨a,b,c⟩:=x; obtain ⟨a',b',c'⟩:=y
 simp only [Ex.mk.injEq] at *; omega
theorem zaj {p:List GMono}:PVal p ↔ (∀ m∈p,m.ok=true)/\p.Pairwise (fun x y=>y.e.code<x.e.code):=by
 have ok_e:∀ {m:GMono},m.ok=true->m.e.ok=true:=fun h=>by simp [GMono.ok] at h; exact h.1.1
 constructor
 ·intro h
  have h1:∀ m∈p,m.ok=true:=fun m hm=>by
   obtain ⟨i,hi,rfl⟩:=List.getElem_of_mem hm; exact (h i hi).1
  refine ⟨h1,List.pairwise_iff_getElem.2 fun i j hi hj hij=>?_⟩
  obtain ⟨d,rfl⟩:∃ d,j=i+1+d:=⟨j - i - 1,by omega⟩
  clear hij
  induction d with
  | zero =>
   have:=(h (i+1) hj).2 (by omega)
   exact (Ex.cmp_neg (ok_e (h1 _ (List.getElem_mem _))) (ok_e (h1 _ (List.getElem_mem _)))).1 this
  | succ d ih =>
   have h2:=ih (by omega)
   have h3:=(h (i+1+(d+1)) hj).2 (by omega)
   have h4:=(Ex.cmp_neg (ok_e (h1 _ (List.getElem_mem _))) (ok_e (h1 _ (List.getElem_mem _)))).1 h3
   exact Int.lt_trans h4 h2
 ·rintro ⟨h1,h2⟩ i hi
  refine ⟨h1 _ (List.getElem_mem hi),fun h0=>?_⟩
  refine (Ex.cmp_neg (ok_e (h1 _ (List.getElem_mem _))) (ok_e (h1 _ (List.getElem_mem _)))).2 ?_
  exact List.pairwise_iff_getElem.1 h2 (i - 1) i (by omega) hi (by omega)
def pc:List GMono->Ex->Rat
 | [],_=>0
 | m::p,e=>(if m.e=e then m.coef.v else 0)+pc p e
theorem zmc (p q:List GMono) (e:Ex):pc (p++q) e=pc p e+pc q e:=by
 induction p with
 | nil=>simp [pc,Rat.zero_add]
 | cons m p ih=>simp [pc,ih,Rat.add_assoc]
theorem zh7 {p:List GMono} {e:Ex} (h:∀ m∈p,m.e≠e):pc p e=0:=by
 induction p with
 | nil=>rfl
 | cons m p ih=>simp only [pc,if_neg (h m (by simp)),Rat.zero_add]; exact ih fun x hx=>h x (by simp [hx])
theorem zg4 {m:GMono} {p:List GMono} (h:PVal (m::p)):pc (m::p) m.e=m.coef.v:=by
 have:=zaj.1 h
 simp only [pc,if_true]
 rw [zh7,Rat.add_zero]
 intro x hx he
 have:=(List.pairwise_cons.1 this.2).1 x hx
 rw [he] at this; omega
theorem PVal.tail {m:GMono} {p:List GMono} (h:PVal (m::p)):PVal p:=by
 have:=zaj.1 h
 exact zaj.2 ⟨fun x hx=>this.1 x (by simp [hx]),(List.pairwise_cons.1 this.2).2⟩
theorem zi3 {p q:List GMono} (hp:PVal p) (hq:PVal q) (h:∀ e,pc p e=pc q e):p=q:=by
 have okm:∀ {m:GMono},m.ok=true->m.e.ok=true/\m.coef.valid=true/\m.coef.v≠0:=fun h=>by simp [GMono.ok] at h; exact ⟨h.1.1,h.1.2,h.2⟩
 induction p generalizing q with
 | nil =>
  cases q with
  | nil=>rfl
  | cons m q =>
   have:=h m.e
   rw [zg4 hq] at this
   exact absurd this.symm (okm ((zaj.1 hq).1 m (by simp))).2.2
 | cons m p ih =>
  cases q with
  | nil =>
   have:=h m.e
   rw [zg4 hp] at this
   exact absurd this (okm ((zaj.1 hp).1 m (by simp))).2.2
  | cons m' q =>
   have o1:=okm ((zaj.1 hp).1 m (by simp))
   have o2:=okm ((zaj.1 hq).1 m' (by simp))
   have he:m.e=m'.e:=by
    rcases Int.lt_trichotomy m.e.code m'.e.code with h1|h1|h1
    ·have:=h m'.e
     rw [zg4 hq,zh7] at this
     ·exact absurd this.symm o2.2.2
     ·intro x hx hxe
      rcases List.mem_cons.1 hx with rfl|hx
      ·rw [hxe] at h1; omega
      ·have:=(List.pairwise_cons.1 (zaj.1 hp).2).1 x hx; rw [hxe] at this; omega
    ·exact (Ex.code_inj o1.1 o2.1).1 h1
    ·have:=h m.e
     rw [zg4 hp,zh7] at this
     ·exact absurd this o1.2.2
     ·intro x hx hxe
      rcases List.mem_cons.1 hx with rfl|hx
      ·rw [hxe] at h1; omega
      ·have:=(List.pairwise_cons.1 (zaj.1 hq).2).1 x hx; rw [hxe] at this; omega
   have hc:m.coef=m'.coef:=by
    have:=h m.e
    rw [zg4 hp,he,zg4 hq] at this
    rw [<- zgo o1.2.1,<- zgo o2.2.1,this]
   have hm:m=m':=by cases m; cases m'; simp at he hc; simp [he,hc]
   subst hm
   congr 1
   refine ih hp.tail hq.tail fun e=>?_
   have:=h e
   simp only [pc] at this
   exact Rat.add_left_cancel _ this
end Go.Ab
namespace Go.Ab
open Enc (enc)
def pins:List GMono->Ex->Rat->List GMono
 | [],e,q=>[⟨e,rto q⟩]
 | m::p,e,q=>if 0<m.e.cmp e then m::pins p e q else if m.e=e then (if q+m.coef.v=0 then p else ⟨e,rto (q+m.coef.v)⟩::p) else ⟨e,rto q⟩::m::p
theorem zg1 (p:List GMono) (e:Ex) (q:Rat):pput p e q=if e.ok=false\/q=0 then p else pins p e q:=by
 unfold pput
 split
 ·rfl
 ·rename_i h
  induction p with
  | nil=>simp [pat,pins]
  | cons m p ih =>
   by_cases h1:0<m.e.cmp e
   ·simp only [pat,if_pos h1,List.getElem?_cons_succ,List.take_succ_cons,List.drop_succ_cons,pins,<- ih]
    cases p[pat p e]? with
    | none=>simp
    | some x=>simp only [List.cons_append]; (repeat' split)<;>rfl
   ·simp [pat,pins,h1]
theorem GMono.ok_iff {m:GMono}:m.ok=true ↔ m.e.ok=true/\m.coef.valid=true/\m.coef.v≠0:=by simp [GMono.ok,and_assoc]
theorem z48 {p:List GMono} {e:Ex} {q:Rat} {x:GMono} (h:x∈pins p e q):x.e=e\/x∈p:=by
 induction p with
 | nil=>simp [pins] at h; exact .inl (by rw [h])
 | cons m p ih =>
  simp only [pins] at h
  split at h
  ·rcases List.mem_cons.1 h with rfl|h
   ·exact .inr (by simp)
   ·rcases ih h with h|h
    ·exact .inl h
    ·exact .inr (by simp [h])
  ·split at h
   ·split at h
    ·exact .inr (by simp [h])
    ·rcases List.mem_cons.1 h with rfl|h
     ·exact .inl rfl
     ·exact .inr (by simp [h])
   ·rcases List.mem_cons.1 h with rfl|h
    ·exact .inl rfl
    ·exact .inr h
theorem z47 {p:List GMono} {e:Ex} {q:Rat} (hp:PVal p) (he:e.ok=true) (hq:q≠0):PVal (pins p e q):=by
 have okq:∀ {r:Rat},r≠0->(⟨e,rto r⟩:GMono).ok=true:=fun {r} h=>GMono.ok_iff.2 ⟨he,zbe r,by rw [zbg]; exact h⟩
 induction p with
 | nil=>exact zaj.2 ⟨fun m hm=>by simp [pins] at hm; rw [hm]; exact okq hq,by simp [pins]⟩
 | cons m p ih =>
  have h:=zaj.1 hp
  have ho:=(GMono.ok_iff.1 (h.1 m (by simp))).1
  have h1:=(List.pairwise_cons.1 h.2).1
  simp only [pins]
  split
  ·rename_i h2
   have h3:=zaj.1 (ih hp.tail)
   refine zaj.2 ⟨fun x hx=>?_,List.pairwise_cons.2 ⟨fun x hx=>?_,h3.2⟩⟩
   ·rcases List.mem_cons.1 hx with rfl|hx
    ·exact h.1 x (by simp)
    ·exact h3.1 x hx
   ·rcases z48 hx with h4|h4
    ·rw [h4]; exact (Ex.cmp_pos ho he).1 h2
    ·exact h1 x h4
  ·rename_i h2
   split
   ·rename_i h3
    split
    ·exact hp.tail
    ·rename_i h4
     refine zaj.2 ⟨fun x hx=>?_,List.pairwise_cons.2 ⟨fun x hx=>?_,(zaj.1 hp.tail).2⟩⟩
     ·rcases List.mem_cons.1 hx with rfl|hx
      ·exact okq h4
      ·exact h.1 x (by simp [hx])
     ·have:=h1 x hx; rw [h3] at this; exact this
   ·rename_i h3
    have h4:m.e.code<e.code:=by
     have h5:¬ (e.code<m.e.code):=fun h=>h2 ((Ex.cmp_pos ho he).2 h)
     have h6:¬ (m.e.code=e.code):=fun h=>h3 ((Ex.code_inj ho he).1 h)
     omega
    refine zaj.2 ⟨fun x hx=>?_,List.pairwise_cons.2 ⟨fun x hx=>?_,h.2⟩⟩
    ·rcases List.mem_cons.1 hx with rfl|hx
     ·exact okq hq
     ·exact h.1 x hx
    ·rcases List.mem_cons.1 hx with rfl|hx
     ·exact h4
     ·exact Int.lt_trans (h1 x hx) h4
theorem z82 (p:List GMono) (e:Ex) (q:Rat) (e':Ex):pc (pins p e q) e'=pc p e'+if e=e' then q else 0:=by
 induction p with
 | nil=>simp only [pins,pc,zbg,Rat.add_zero,Rat.zero_add]
 | cons m p ih =>
  simp only [pins]
  split
  ·simp only [pc,ih,Rat.add_assoc]
  ·split
   ·rename_i h
    split
    ·rename_i h2
     simp only [pc,h]
     by_cases h3:e=e'
     ·simp only [if_pos h3]
      rw [Rat.add_comm (m.coef.v) (pc p e'),Rat.add_assoc,Rat.add_comm m.coef.v q,h2,Rat.add_zero]
     ·simp [h3,Rat.zero_add,Rat.add_zero]
    ·simp only [pc,h,zbg]
     by_cases h3:e=e'
     ·simp only [if_pos h3]
      rw [Rat.add_comm q m.coef.v,Rat.add_assoc,Rat.add_assoc,Rat.add_comm q (pc p e')]
     ·simp [h3,Rat.zero_add,Rat.add_zero]
   ·simp only [pc,zbg]
    rw [Rat.add_comm]
theorem zle {p:List GMono} (e:Ex) (q:Rat) (hp:PVal p):PVal (pput p e q):=by
 rw [zg1]; split
 ·exact hp
 ·rename_i h; exact z47 hp (by rcases Bool.eq_false_or_eq_true e.ok with h'|h'; exact h'; exact absurd (.inl h') h) (fun h'=>h (.inr h'))
theorem z04 (p:List GMono) (e:Ex) (q:Rat) (e':Ex):pc (pput p e q) e'=pc p e'+if e.ok=true/\e=e' then q else 0:=by
 rw [zg1]; split
 ·rename_i h
  rcases h with h|h
  ·simp [h,Rat.add_zero]
  ·simp [h,Rat.add_zero]
 ·rename_i h
  have:e.ok=true:=by rcases Bool.eq_false_or_eq_true e.ok with h'|h'; exact h'; exact absurd (.inl h') h
  rw [z82]; simp [this]
theorem zbh {p:List GMono} (h:PVal p):p.length<=216:=by
 have h1:=zaj.1 h
 have:∀ (p:List GMono) (n:Int),(∀ m∈p,0<=m.e.code/\m.e.code<n)->p.Pairwise (fun x y=>y.e.code<x.e.code)->(p.length:Int)<=n\/p=[]:=by
  intro p
  induction p with
  | nil=>intro n _ _; exact .inr rfl
  | cons m p ih =>
   intro n h2 h3
   have h4:=List.pairwise_cons.1 h3
   rcases ih m.e.code (fun x hx=>⟨(h2 x (by simp [hx])).1,h4.1 x hx⟩) h4.2 with h5|h5
   ·have:=h2 m (by simp); left; simp; omega
   ·have:=h2 m (by simp); left; subst h5; simp; omega
 rcases this p 216 (fun m hm=>Ex.code_lt (GMono.ok_iff.1 (h1.1 m hm)).1) h1.2 with h2|h2
 ·omega
 ·simp [h2]
end Go.Ab
namespace Go.Ab
open Enc (enc)
attribute [local go_sem] zas Opd.slots
theorem zsj {p:List GMono} (hp:PVal p) {m:GMono} (hm:m∈p):pc p m.e=m.coef.v:=by
 induction p with
 | nil=>simp at hm
 | cons x p ih =>
  rcases List.mem_cons.1 hm with rfl|hm
  ·exact zg4 hp
  ·have h1:=(List.pairwise_cons.1 (zaj.1 hp).2).1 m hm
   have h2:x.e≠m.e:=fun h=>by rw [h] at h1; omega
   simp only [pc,if_neg h2,Rat.zero_add]; exact ih hp.tail hm
theorem z81 {p:List GMono} (hp:PVal p) (k:Nat) (e:Ex):pc (p.take k) e=0\/pc (p.take k) e=pc p e:=by
 induction p generalizing k with
 | nil=>simp [pc]
 | cons x p ih =>
  cases k with
  | zero=>simp [pc]
  | succ k =>
   by_cases h:x.e=e
   ·right
    subst h
    rw [zg4 hp,List.take_succ_cons]
    simp only [pc,if_true]
    rw [zh7,Rat.add_zero]
    intro y hy he
    have:=(List.pairwise_cons.1 (zaj.1 hp).2).1 y (List.mem_of_mem_take hy)
    rw [he] at this; omega
   ·simp only [List.take_succ_cons,pc,if_neg h,Rat.zero_add]; exact ih hp.tail k
def pqb (D B:Nat) (p:List GMono):Prop:=∀ e,qb D B (pc p e)
theorem zh6 {D B n:Nat} {p:List GMono} (h:pqb D B p) (hp:PVal p) (hD:D≠0) (h1:D<4294967296^n) (h2:B<4294967296^n):psm p n:=by
 intro m hm
 have h3:=GMono.ok_iff.1 ((zaj.1 hp).1 m hm)
 have:=z0o (h m.e) hD h1 h2
 rw [zsj hp hm,zgo h3.2.1] at this
 exact this
theorem zug (D:Nat):pqb D 0 []:=fun _=>zjy D
theorem zuf {D B B':Nat} {p:List GMono} (h:pqb D B p) {q:Rat} (hq:qb D B' q) (hD:D≠0) (e:Ex):pqb D (B+B') (pput p e q):=by
 intro e'
 rw [z04]
 split
 ·exact zv4 (h e') hq hD
 ·exact zbb (by rw [Rat.add_zero]; exact h e') (by omega)
theorem zh9:PVal []:=fun i h=>by simp at h
def padd (p q:List GMono):List GMono:=q.foldl (fun o m=>pput o m.e m.coef.v) p
theorem zb9 {p:List GMono} (q:List GMono) (hp:PVal p):PVal (padd p q):=by
 induction q generalizing p with
 | nil=>exact hp
 | cons m q ih=>exact ih (zle _ _ hp)
theorem zfa (p:List GMono) {q:List GMono} (hq:∀ m∈q,m.ok=true) (e:Ex):pc (padd p q) e=pc p e+pc q e:=by
 induction q generalizing p with
 | nil=>simp [padd,pc,Rat.add_zero]
 | cons m q ih =>
  have:=ih (pput p m.e m.coef.v) fun x hx=>hq x (by simp [hx])
  show pc (padd (pput p m.e m.coef.v) q) e=_
  rw [this,z04]
  have:=(GMono.ok_iff.1 (hq m (by simp))).1
  simp [pc,this,Rat.add_assoc]
theorem PVal.take {p:List GMono} (hp:PVal p) (k:Nat):PVal (p.take k):=by
 have:=zaj.1 hp
 exact zaj.2 ⟨fun x hx=>this.1 x (List.mem_of_mem_take hx),this.2.sublist (List.take_sublist _ _)⟩
theorem z4z {D B:Nat} {p:List GMono} (h:pqb D B p) (hp:PVal p) (k:Nat):pqb D B (p.take k):=by
 intro e
 rcases z81 hp k e with h1|h1
 ·rw [h1]; exact zbb (zjy D) (by omega)
 ·rw [h1]; exact h e
theorem z0r {D B B':Nat} {p q:List GMono} (h:pqb D B p) (h':pqb D B' q) (hq:PVal q) (hD:D≠0):pqb D (B+B') (padd p q):=by
 intro e; rw [zfa p (zaj.1 hq).1]; exact zv4 (h e) (h' e) hD
theorem znx {p q:List GMono} {k:Nat} (h:k<q.length):padd p (q.take (k+1))=pput (padd p (q.take k)) q[k].e q[k].coef.v:=by
 unfold padd; rw [List.take_succ_eq_append_getElem h,List.foldl_append]; rfl
theorem z3n (p q:List GMono) (D B B':Nat) (hp:PVal p) (hq:PVal q) (h1:pqb D B p) (h2:pqb D B' q) (hD0:D≠0) (hD:D<4294967296^1048576) (hB:B+B'<4294967296^1048576) :
  Sp P F.fx [.sl (ens p),.sl (ens q)] (.pure (.sl (ens (padd p q)))):=by
 have hbp:psm p 1048576:=zh6 h1 hp hD0 hD (Nat.lt_of_le_of_lt (Nat.le_add_right _ _) hB)
 have hbq:psm q 1048576:=zh6 h2 hq hD0 hD (Nat.lt_of_le_of_lt (Nat.le_add_left _ _) hB)
 have hpl:=zbh hp
 have hql:=zbh hq
 have hb:∀ k,psm (padd p (q.take k)) 1048576:=fun k=>zh6 (z0r h1 (z4z h2 hq k) (hq.take k) hD0) (zb9 _ hp) hD0 hD hB
 clear hD hB
 refine Sp.vz c.fx fun _=>?_
 simp [g.fx,go_sem]
 refine zaa (zhq p hbp (by omega)) rfl ?_
 simp [go_sem]
 refine zaa (zhq q hbq (by omega)) rfl ?_
 simp [go_sem,zsb hp,zsb hq]
 refine zag (S:=fun k:Nat=>mkSt [(1,.p (.sl (ens q))),(5,.p (.sl (ens (padd p (q.take k))))),(6,.p (.int .i64 k))] []) (I:=fun k=>k<=q.length) (m:=fun k=>q.length - k) 0
  (Weak.to [1,5,6] [] (by simp [go_sem,padd])) (by omega) ?_
 rintro k h3 R hn hr hx
 have e1:=i64s k (by omega)
 simp [g.rc,mkSt,go_sem]
 refine ⟨fun hk=>?_,fun hk=>hx _ _ ?_⟩
 ·refine zae hk ?_
  have hv:=zb9 (q.take k) hp
  have hl:=zbh hv
  refine zaa (zue (padd p (q.take k)) q[k] (hb k) (by omega) (hbq _ (List.getElem_mem hk)) (GMono.ok_iff.1 (hq k hk).1).2.1) rfl ?_
  simp [go_sem,e1]
  exact hn (k+1) _ (Weak.to [1,5,6] [] (by simp [go_sem,znx hk])) (by omega) (by omega)
 ·have:k=q.length:=by omega
  subst this
  simp [go_sem]
def Ex.add (x y:Ex):Ex:=⟨x.a+y.a,x.b+y.b,x.c+y.c⟩
def prow (m:GMono) (q:List GMono) (o:List GMono):List GMono:=q.foldl (fun o m'=>pput o (m.e.add m'.e) (m.coef.v*m'.coef.v)) o
def pmul (p q:List GMono):List GMono:=p.foldl (fun o m=>prow m q o) []
theorem znt {m:GMono} {o q:List GMono} {k:Nat} (h:k<q.length):prow m (q.take (k+1)) o=pput (prow m (q.take k) o) (m.e.add q[k].e) (m.coef.v*q[k].coef.v):=by
 unfold prow; rw [List.take_succ_eq_append_getElem h,List.foldl_append]; rfl
theorem znv {p q:List GMono} {k:Nat} (h:k<p.length):pmul (p.take (k+1)) q=prow p[k] q (pmul (p.take k) q):=by
 unfold pmul; rw [List.take_succ_eq_append_getElem h,List.foldl_append]; rfl
theorem zp1 {m:GMono} (q:List GMono) {o:List GMono} (h:PVal o):PVal (prow m q o):=by
 induction q generalizing o with
 | nil=>exact h
 | cons x q ih=>exact ih (zle _ _ h)
theorem zdn (p q:List GMono):PVal (pmul p q):=by
 suffices ∀ o,PVal o->PVal (p.foldl (fun o m=>prow m q o) o) from this [] zh9
 induction p with
 | nil=>exact fun o h=>h
 | cons x p ih=>exact fun o h=>ih _ (zp1 q h)
theorem z0p {D D' B B' C:Nat} {m:GMono} {q o:List GMono} (hm:qb D B m.coef.v) (hq:∀ x∈q,qb D' B' x.coef.v) (ho:pqb (D*D') C o) (hD:D*D'≠0):pqb (D*D') (C+q.length*(B*B')) (prow m q o):=by
 induction q generalizing o C with
 | nil=>simpa [prow] using ho
 | cons x q ih =>
  have:=ih (fun y hy=>hq y (by simp [hy])) (zuf ho (z7b hm (hq x (by simp))) hD (m.e.add x.e))
  intro e
  refine zbb (this e) ?_
  simp [Nat.add_mul]; omega
theorem zp2 {D D' B B':Nat} {p q:List GMono} (hp:∀ x∈p,qb D B x.coef.v) (hq:∀ x∈q,qb D' B' x.coef.v) (hD:D*D'≠0):pqb (D*D') (p.length*(q.length*(B*B'))) (pmul p q):=by
 suffices ∀ o C,pqb (D*D') C o->pqb (D*D') (C+p.length*(q.length*(B*B'))) (p.foldl (fun o m=>prow m q o) o) by
  have:=this [] 0 (zug _); rw [Nat.zero_add] at this; exact this
 induction p with
 | nil=>intro o C h; simpa using h
 | cons x p ih =>
  intro o C h
  have:=ih (fun y hy=>hp y (by simp [hy])) _ _ (z0p (hp x (by simp)) hq h hD)
  intro e
  refine zbb (this e) ?_
  simp [Nat.add_mul]; omega
theorem zew {D B:Nat} {p:List GMono} (h:pqb D B p) (hp:PVal p):∀ x∈p,qb D B x.coef.v:=fun x hx=>by rw [<- zsj hp hx]; exact h _
theorem z1l (p q:List GMono) (D D' B B':Nat) (hp:PVal p) (hq:PVal q) (h1:pqb D B p) (h2:pqb D' B' q) (hD0:D≠0) (hD0':D'≠0) (hD:D*D'<4294967296^1048576)
  (hB:46656*(B*B')<4294967296^1048576) (hs:psm p 524288) (hs':psm q 524288) :
  Sp P F.gf [.sl (ens p),.sl (ens q)] (.pure (.sl (ens (pmul p q)))):=by
 have hpl:=zbh hp
 have hql:=zbh hq
 have c1:=zew h1 hp
 have c2:=zew h2 hq
 have hDD:D*D'≠0:=Nat.mul_ne_zero hD0 hD0'
 have hpr:∀ x∈p,∀ y∈q,(rto (x.coef.v*y.coef.v)).sm 1048576:=fun x hx y hy=>(zx5 (hs x hx) (hs' y hy) (by omega)).mono (by omega)
 have hb:∀ i k,(h:i<p.length)->psm (prow p[i] (q.take k) (pmul (p.take i) q)) 1048576:=fun i k h=>by
  have h3:=z0p (m:=p[i]) (q:=q.take k) (c1 _ (List.getElem_mem h)) (fun x hx=>c2 x (List.mem_of_mem_take hx)) (zp2 (p:=p.take i) (fun x hx=>c1 x (List.mem_of_mem_take hx)) c2 hDD) hDD
  refine zh6 h3 (zp1 _ (zdn _ _)) hDD hD (Nat.lt_of_le_of_lt ?_ hB)
  have h4:(p.take i).length+1<=216:=by simp; omega
  have h5:(q.take k).length<=216:=by simp; omega
  generalize B*B'=C at *
  calc (p.take i).length*(q.length*C)+(q.take k).length*C<=(p.take i).length*(216*C)+1*(216*C):=Nat.add_le_add (Nat.mul_le_mul_left _ (Nat.mul_le_mul_right _ hql)) (by rw [Nat.one_mul]; exact Nat.mul_le_mul_right _ h5)
   _=((p.take i).length+1)*(216*C):=by rw [Nat.add_mul]
   _<=216*(216*C):=Nat.mul_le_mul_right _ h4
   _=46656*C:=by omega
 clear hD hB
 refine Sp.vz c.gf fun _=>?_
 simp [g.gf,go_sem]
 refine zaa (zhq p (hs.mono (by omega)) (by omega)) rfl ?_
 simp [go_sem]
 refine zaa (zhq q (hs'.mono (by omega)) (by omega)) rfl ?_
 simp [go_sem,zsb hp,zsb hq]
 refine zag (S:=fun i:Nat=>mkSt [(0,.p (.sl (ens p))),(1,.p (.sl (ens q))),(5,.p (.sl (ens (pmul (p.take i) q)))),(6,.p (.int .i64 i))] []) (I:=fun i=>i<=p.length) (m:=fun i=>p.length - i) 0
  ((Weak.freeze (t:=5) rfl).trans (Weak.to [0,1,5,6] [] (by simp [go_sem,pmul]))) (by omega) ?_
 rintro i h3 R hn hr hx
 have e1:=i64s i (by omega)
 simp [g.ri,mkSt,go_sem]
 refine ⟨fun hi=>?_,fun hi=>hx _ _ ?_⟩
 rotate_left
 ·have:i=p.length:=by omega
  subst this
  simp [go_sem]
 clear hx hr
 refine zag (S:=fun k:Nat=>mkSt [(0,.p (.sl (ens p))),(1,.p (.sl (ens q))),(5,.p (.sl (ens (prow p[i] (q.take k) (pmul (p.take i) q))))),(6,.p (.int .i64 i)),(7,.p (.int .i64 k))] []) (I:=fun k=>k<=q.length) (m:=fun k=>q.length - k) 0
  (Weak.to [0,1,5,6,7] [] (by simp [go_sem,prow])) (by omega) ?_
 rintro k h4 R2 hn2 hr2 hx2
 have e2:=i64s k (by omega)
 simp [g.rh,mkSt,go_sem]
 refine ⟨fun hk=>?_,fun hk=>hx2 _ _ ?_⟩
 rotate_left
 ·have:k=q.length:=by omega
  subst this
  simp [go_sem,e1]
  exact hn (i+1) _ (Weak.to [0,1,5,6] [] (by simp [go_sem,znv hi])) (by omega) (by omega)
 clear hx2 hr2 hn
 refine zae hi ?_
 refine zae hk ?_
 refine zaa (zuq p[i].coef q[k].coef ((hs _ (List.getElem_mem hi)).mono (by omega)) ((hs' _ (List.getElem_mem hk)).mono (by omega))) rfl ?_
 simp [go_sem]
 have eok:∀ {e:Ex},e.ok=true->(-100<e.a/\e.a<100)/\(-100<e.b/\e.b<100) /\ -100<e.c/\e.c<100:=fun h=>by rw [Ex.ok_iff] at h; omega
 have o1:=eok (GMono.ok_iff.1 (hp i hi).1).1
 have o2:=eok (GMono.ok_iff.1 (hq k hk).1).1
 have ea:IntKind.i64.wrap (p[i].e.a+q[k].e.a)=p[i].e.a+q[k].e.a:=i64w (by omega) (by omega)
 have eb:IntKind.i64.wrap (p[i].e.b+q[k].e.b)=p[i].e.b+q[k].e.b:=i64w (by omega) (by omega)
 have ec:IntKind.i64.wrap (p[i].e.c+q[k].e.c)=p[i].e.c+q[k].e.c:=i64w (by omega) (by omega)
 refine zak fun R3 hn3 hr3 hx3=>?_
 simp [g.oe,go_sem]
 refine zae hi ?_
 refine zae hk ?_
 simp [go_sem,ea]
 refine hn3 _ ?_
 clear hn3 hx3 hr3
 refine zak fun R3 hn3 hr3 hx3=>?_
 simp [g.oe,go_sem]
 refine zae hi ?_
 refine zae hk ?_
 simp [go_sem,eb]
 refine hn3 _ ?_
 clear hn3 hx3 hr3
 refine zak fun R3 hn3 hr3 hx3=>?_
 simp [g.oe,go_sem]
 refine zae hi ?_
 refine zae hk ?_
 simp [go_sem,ec]
 refine hn3 _ ?_
 clear hn3 hx3 hr3
 refine zak fun R3 hn3 hr3 hx3=>?_
 simp [g.oe,go_sem]
 refine hx3 _ _ ?_
 clear hn3 hx3 hr3
 simp [go_sem]
 have hv:=zp1 (m:=p[i]) (q.take k) (zdn (p.take i) q)
 have hl:=zbh hv
 refine zaa (zue (prow p[i] (q.take k) (pmul (p.take i) q)) ⟨p[i].e.add q[k].e,rto (p[i].coef.v*q[k].coef.v)⟩ (hb i k hi) (by omega) (hpr _ (List.getElem_mem hi) _ (List.getElem_mem hk)) (zbe _)) rfl ?_
 simp [go_sem,e2]
 exact hn2 (k+1) _ (Weak.to [0,1,5,6,7] [] (by simp [go_sem,znt hk,zbg])) (by omega) (by omega)
theorem zhf (x:GRat) (hx:x.sm 1048576):Sp P F.bu [enc x] (.pure (.sl (ens (pput [] ⟨0,0,0⟩ x.v)))):=by
 refine Sp.vz c.bu fun _=>?_
 simp [g.bu,go_sem]
 refine zaa (zdm x (hx.mono (by omega))) rfl ?_
 simp [go_sem]
 have:=zue [] ⟨⟨0,0,0⟩,rto x.v⟩ (by intro m hm; simp at hm) (by simp) (z7a hx) (zbe _)
 rw [zbg] at this
 refine zaa this rfl ?_
 simp [go_sem]
end Go.Ab
namespace Go.Ab
open Enc (enc)
attribute [local go_sem] zas Opd.slots
def zb0 (q:Rat):List GMono:=pput [] ⟨0,0,0⟩ q
theorem zeh (q:Rat):PVal (zb0 q):=zle _ _ zh9
theorem zuh {q:Rat} {m:GMono} (h:m∈zb0 q):m.coef=rto q:=by
 unfold zb0 at h; rw [zg1] at h
 split at h
 ·simp at h
 ·simp [pins] at h; rw [h]
theorem z0d (p:List GMono) (x:GRat) (D D' B B':Nat) (hp:PVal p) (h1:pqb D B p) (h2:qb D' B' x.v) (hD0:D≠0) (hD0':D'≠0) (hD:D*D'<4294967296^1048576)
  (hB:46656*(B*B')<4294967296^1048576) (hs:psm p 524288) (hs':x.sm 524288) :
  Sp P F.j8 [.sl (ens p),enc x] (.pure (.sl (ens (pmul p (zb0 x.v))))):=by
 have h3:pqb D' B' (zb0 x.v):=fun e=>by
  have:=zuf (zug D') h2 hD0' ⟨0,0,0⟩ e
  rw [Nat.zero_add] at this; exact this
 have h4:psm (zb0 x.v) 524288:=fun m hm=>by rw [zuh hm]; exact z7a hs'
 have h5:=z1l p (zb0 x.v) D D' B B' hp (zeh _) h1 h3 hD0 hD0' hD hB hs h4
 clear hD hB
 refine Sp.vz c.j8 fun _=>?_
 simp [g.j8,go_sem]
 refine zaa (zhf x (hs'.mono (by omega))) rfl ?_
 simp [go_sem]
 refine zaa h5 rfl ?_
 simp [go_sem]
def Ex.unit (i:Int):Ex:=if i=0 then ⟨1,0,0⟩ else if i=1 then ⟨0,1,0⟩ else ⟨0,0,1⟩
def zdc (i:Int):List GMono:=if 0<=i/\i<3 then [⟨Ex.unit i,rto 1⟩] else []
theorem zp8 (i:Int):Sp P F.j9 [.int .i64 i] (.pure (.sl (ens (zdc i)))):=by
 refine Sp.vz c.j9 fun _=>?_
 simp [g.j9,go_sem]
 have hof:=zg5 1 1 (by omega) (by omega) (by omega)
 have hd:Rat.divInt 1 1=1:=rfl
 rw [hd] at hof
 refine ⟨fun h=>by simp [zdc,show ¬ 0<=i by omega,go_sem],fun h=>⟨fun h2=>by simp [zdc,show ¬ i<3 by omega,go_sem],fun h2=>?_⟩⟩
 refine zaa hof rfl ?_
 have h3:i=0\/i=1\/i=2:=by omega
 rcases h3 with rfl|rfl|rfl
 ·simp [zdc,Ex.unit,go_sem]
 ·simp [zdc,Ex.unit,go_sem]
 ·simp [zdc,Ex.unit,go_sem]
theorem z4o (p q:List GMono) (hp:psm p 1048576) (hl:p.length<=1073741824):Sp P F.jz [.sl (ens p),.sl (ens q)] (.pure (.bool (decide (p=q)))):=by
 refine Sp.vz c.jz fun _=>?_
 simp [g.jz,go_sem]
 refine ⟨fun h=>?_,fun h=>fun he=>h (by rw [he])⟩
 have hlen:p.length=q.length:=by omega
 refine zag (S:=fun k:Nat=>mkSt [(0,.p (.sl (ens p))),(1,.p (.sl (ens q))),(5,.p (.int .i64 k))] []) (I:=fun k=>k<=p.length/\p.take k=q.take k) (m:=fun k=>p.length - k) 0
  (Weak.to [0,1,5] [] (by simp [go_sem])) ⟨by omega,by simp⟩ ?_
 rintro k ⟨h1,h2⟩ R hn hr hx
 have e1:=i64s k (by omega)
 simp [g.q6,mkSt,go_sem]
 refine ⟨fun hk=>?_,fun hk=>hx _ _ ?_⟩
 ·have hk2:k<q.length:=by omega
  have bad:p[k]≠q[k]->p≠q:=fun h h'=>by subst h'; exact h rfl
  refine zae hk ?_
  refine zae hk2 ?_
  refine ⟨fun h3=>hr _ ?_,fun h3 h4 h5=>?_⟩
  ·have:p≠q:=bad fun h=>by rw [h] at h3; simp at h3
   simp [this,go_sem]
  refine zae hk ?_
  refine zae hk2 ?_
  refine zaa (zcc p[k].coef q[k].coef ((hp _ (List.getElem_mem hk)).mono (by omega))) rfl ?_
  by_cases h6:p[k].coef=q[k].coef
  ·simp [h6,e1,go_sem]
   have h7:p[k]=q[k]:=by
    have:p[k].e=q[k].e:=by
     generalize p[k].e=x at *; generalize q[k].e=y at *; cases x; cases y; simp at h3 h4 h5; simp [h3,h4,h5]
    generalize p[k]=x at *; generalize q[k]=y at *; cases x; cases y; simp at this h6; simp [this,h6]
   exact hn (k+1) _ (Weak.to [0,1,5] [] (by simp [go_sem])) ⟨by omega,by rw [List.take_succ_eq_append_getElem hk,List.take_succ_eq_append_getElem hk2,h2,h7]⟩ (by omega)
  ·have h8:p≠q:=bad fun h=>h6 (by rw [h])
   simp [h6,go_sem]
   exact hr _ (by simp [h8,go_sem])
 ·have h3:p=q:=by rw [<- List.take_length (l:=p),<- List.take_length (l:=q),<- hlen,show p.length=k by omega]; exact h2
  simp [h3,go_sem]
end Go.Ab
namespace Go.Ab
open Enc (enc)
attribute [local go_sem] zas Opd.slots
inductive GW where
 | mk (q:GRat) (cost:Int) (inf:Bool) (set:UInt64) (poly:List GMono) (parts:List GW)
namespace GW
def q:GW->GRat|mk q _ _ _ _ _=>q
def cost:GW->Int|mk _ c _ _ _ _=>c
def inf:GW->Bool|mk _ _ i _ _ _=>i
def set:GW->UInt64|mk _ _ _ s _ _=>s
def poly:GW->List GMono|mk _ _ _ _ p _=>p
def parts:GW->List GW|mk _ _ _ _ _ ps=>ps
mutual
def en:GW->PV
 | mk q c i s p ps=>.agg [.bool q.neg,.sl (ens q.num),.sl (ens q.den),.int .i64 c,.bool i,.int .u64 s.toNat,.sl (ens p),.sl (ensW ps)]
def ensW:List GW->List PV
 | []=>[]
 | w::ps=>en w::ensW ps
end
end GW
instance:Enc GW:=⟨GW.en,8,by decide,fun w=>by cases w; simp [GW.en]; rfl⟩
theorem z9r (ps:List GW):GW.ensW ps=ens ps:=by
 induction ps with
 | nil=>simp [GW.ensW,ens]
 | cons w ps ih=>simp [GW.ensW,ens,ih]; rfl
@[go_sem] theorem ygt (w:GW):enc w=.agg [.bool w.q.neg,.sl (ens w.q.num),.sl (ens w.q.den),.int .i64 w.cost,.bool w.inf,.int .u64 w.set.toNat,.sl (ens w.poly),.sl (ens w.parts)]:=by
 cases w; show GW.en _=_; simp [GW.en,z9r]; simp [GW.q,GW.cost,GW.inf,GW.set,GW.poly,GW.parts]
@[go_sem] theorem yfn:Enc.sz GW=8:=rfl
theorem GW.ext {v w:GW} (h1:v.q=w.q) (h2:v.cost=w.cost) (h3:v.inf=w.inf) (h4:v.set=w.set) (h5:v.poly=w.poly) (h6:v.parts=w.parts):v=w:=by
 cases v; cases w; simp [GW.q,GW.cost,GW.inf,GW.set,GW.poly,GW.parts] at *; simp [*]
noncomputable instance:DecidableEq GW:=fun _ _=>Classical.propDecidable _
structure GRing where
 kind:Int
 parts:List Int
 deriving DecidableEq
instance:Enc GRing:=⟨fun r=>.agg [.int .i64 r.kind,.sl (ens r.parts)],2,by decide,fun _=>rfl⟩
@[go_sem] theorem z6d (r:GRing):enc r=.agg [.int .i64 r.kind,.sl (ens r.parts)]:=rfl
@[go_sem] theorem yak:Enc.sz GRing=2:=rfl
def GRing.ok (r:GRing):Bool:=if r.kind=6 then decide (2<=r.parts.length/\r.parts.length<=3/\∀ k∈r.parts,1<=k/\k<=5) else decide (1<=r.kind/\r.kind<=5/\r.parts=[])
theorem zau (r:GRing):Sp P F.ax [enc r] (.pure (.bool r.ok)):=by
 refine Sp.vz c.ax fun _=>?_
 simp [g.ax,go_sem]
 refine ⟨fun h6=>⟨fun h=>?_,fun h=>⟨fun h2=>?_,fun h2=>?_⟩⟩,fun h6=>⟨fun h=>⟨fun h2=>?_,fun h2=>?_⟩,fun h=>?_⟩⟩
 ·simp [GRing.ok,h6]; intro h'; omega
 ·simp [GRing.ok,h6]; intro h' h''; omega
 rotate_left
 ·simp [GRing.ok,h6,h,h2]
 ·simp [GRing.ok,h6]; intro h'; omega
 ·simp [GRing.ok,h6]; intro h'; omega
 refine zag (S:=fun k:Nat=>mkSt [(1,.ptr 1 0 0 0),(3,.p (.int .i64 k))] [(1,⟨2,[.p (enc r)]⟩)]) (I:=fun k=>k<=r.parts.length/\∀ i,(h:i<r.parts.length)->i<k->1<=r.parts[i]/\r.parts[i]<=5) (m:=fun k=>r.parts.length - k) 0
  (Weak.to [1,3] [((1,0),1)] (by simp [go_sem])) ⟨by omega,fun i h h0=>by omega⟩ ?_
 rintro k ⟨h3,h4⟩ R hn hr hx
 have e1:=i64s k (by omega)
 simp [g.q9,mkSt,go_sem]
 refine ⟨fun hk=>?_,fun hk=>hx _ _ ?_⟩
 ·have bad:¬ (1<=r.parts[k]/\r.parts[k]<=5)->r.ok=false:=fun hb=>by
   simp only [GRing.ok,if_pos h6,decide_eq_false_iff_not]
   exact fun h'=>hb (h'.2.2 _ (List.getElem_mem hk))
  refine zae hk ?_
  refine ⟨fun h5=>hr _ ?_,fun h5=>?_⟩
  ·simp [bad (by omega),go_sem]
  refine zae hk ?_
  simp [e1,go_sem]
  refine ⟨fun h7=>hr _ ?_,fun h7=>hn (k+1) _ (Weak.to [1,3] [((1,0),1)] (by simp [go_sem])) ⟨by omega,fun i h hi=>?_⟩ (by omega)⟩
  ·simp [bad (by omega),go_sem]
  ·by_cases hik:i<k
   ·exact h4 i h hik
   ·have:i=k:=by omega
    subst this; omega
 ·have:r.ok=true:=by
   simp only [GRing.ok,if_pos h6,decide_eq_true_eq]
   refine ⟨by omega,by omega,fun x hx=>?_⟩
   obtain ⟨i,hi,rfl⟩:=List.getElem_of_mem hx
   exact h4 i hi (by omega)
  simp [this,go_sem]
theorem z4n (r s:GRing):Sp P F.jx [enc r,enc s] (.pure (.bool (decide (r=s)))):=by
 refine Sp.vz c.jx fun hok=>?_
 simp [g.jx,go_sem]
 refine ⟨fun hk=>⟨fun hl=>?_,fun hl=>fun h=>hl (by rw [h])⟩,fun hk h=>hk (by rw [h])⟩
 have hlen:r.parts.length=s.parts.length:=by omega
 have hmax:r.parts.length<=maxLen:=by simp only [z6d,okL,okP] at hok; simpa [zkb] using hok.1.2.1.1
 unfold maxLen at hmax
 refine zag (S:=fun k:Nat=>mkSt [(2,.ptr 1 0 0 0),(3,.ptr 2 0 0 0),(5,.p (.int .i64 k))] [(1,⟨2,[.p (enc r)]⟩),(2,⟨2,[.p (enc s)]⟩)]) (I:=fun k=>k<=r.parts.length/\r.parts.take k=s.parts.take k) (m:=fun k=>r.parts.length - k) 0
  (Weak.to [2,3,5] [((2,0),1),((3,0),2)] (by simp [go_sem])) ⟨by omega,by simp⟩ ?_
 rintro k ⟨h1,h2⟩ R hn hr hx
 simp [g.qy,mkSt,go_sem]
 refine ⟨fun hk'=>?_,fun hk'=>hx _ _ ?_⟩
 ·have hk2:k<s.parts.length:=by omega
  have e1:=i64s k (by omega)
  refine zae hk' ?_
  refine zae hk2 ?_
  simp [e1,go_sem]
  refine ⟨fun h3=>?_,fun h3=>?_⟩
  ·exact hn (k+1) _ (Weak.to [2,3,5] [((1,0),1),((2,0),2)] (by simp [go_sem])) ⟨by omega,by rw [List.take_succ_eq_append_getElem hk',List.take_succ_eq_append_getElem hk2,h2,h3]⟩ (by omega)
  ·refine hr _ ?_
   have:r≠s:=fun h=>h3 (by subst h; rfl)
   simp [this,go_sem]
 ·have h3:r=s:=by
   have:r.parts=s.parts:=by rw [<- List.take_length (l:=r.parts),<- List.take_length (l:=s.parts),<- hlen,show r.parts.length=k by omega]; exact h2
   cases r; cases s; simp at hk this; simp [hk,this]
  simp [h3,go_sem]
inductive GW.sm (n:Nat):GW->Prop
 | mk {q:GRat} {c:Int} {i:Bool} {s:UInt64} {p:List GMono} {ps:List GW}:q.sm n->psm p n->p.length<=n->ps.length<=n->(∀ w∈ps,GW.sm n w)->GW.sm n (.mk q c i s p ps)
theorem GW.sm.q {n:Nat} {w:GW} (h:w.sm n):w.q.sm n:=by cases h; assumption
theorem GW.sm.poly {n:Nat} {w:GW} (h:w.sm n):psm w.poly n:=by cases h; assumption
theorem GW.sm.len {n:Nat} {w:GW} (h:w.sm n):w.poly.length<=n:=by cases h; assumption
theorem GW.sm.plen {n:Nat} {w:GW} (h:w.sm n):w.parts.length<=n:=by cases h; assumption
theorem GW.sm.parts {n:Nat} {w:GW} (h:w.sm n):∀ x∈w.parts,x.sm n:=by cases h; assumption
theorem GW.sm.ind {n:Nat} {M:GW->Prop} (h:∀ v,v.sm n->(∀ w∈v.parts,M w)->M v):∀ v,v.sm n->M v:=by
 intro v hv
 induction hv with|@mk q c i s p ps hq hp hpl hps hw ih=>exact h _ (.mk hq hp hpl hps hw) ih
theorem zhd (v:GW) (hv:v.sm 1048576):∀ w:GW,Sp P F.az [enc v,enc w] (.pure (.bool (decide (v=w)))):=by
 revert v
 refine GW.sm.ind fun v hv ih w=>?_
 refine Sp.vz c.az fun hok=>?_
 simp [g.az,go_sem]
 refine zaa (zcc v.q w.q (hv.q.mono (by omega))) rfl ?_
 simp [go_sem]
 refine ⟨fun h1=>⟨fun h2=>⟨fun h3=>⟨fun h4=>?_,fun h4 h=>h4 (by rw [h])⟩,fun h3 h=>h3 (by rw [h])⟩,fun h2 h=>h2 (by rw [h])⟩,fun h1 h=>h1 (by rw [h])⟩
 have h4:v.set=w.set:=UInt64.toNat_inj.1 (by omega)
 refine zaa (z4o v.poly w.poly hv.poly (by have:=hv.len; omega)) rfl ?_
 simp [go_sem]
 refine ⟨fun h5=>⟨fun h6=>?_,fun h6 h=>h6 (by rw [h])⟩,fun h5 h=>h5 (by rw [h])⟩
 have hlen:v.parts.length=w.parts.length:=by omega
 have hmax:=hv.plen
 refine zag (S:=fun k:Nat=>mkSt [(2,.ptr 1 0 0 0),(3,.ptr 2 0 0 0),(5,.p (.int .i64 k))] [(1,⟨8,[.p (enc v)]⟩),(2,⟨8,[.p (enc w)]⟩)]) (I:=fun k=>k<=v.parts.length/\v.parts.take k=w.parts.take k) (m:=fun k=>v.parts.length - k) 0
  (Weak.to [2,3,5] [((2,0),1),((3,0),2)] (by simp [go_sem])) ⟨by omega,by simp⟩ ?_
 rintro k ⟨h7,h8⟩ R hn hr hx
 have e1:=i64s k (by omega)
 simp [g.qk,mkSt,go_sem]
 refine ⟨fun hk=>?_,fun hk=>hx _ _ ?_⟩
 ·have hk2:k<w.parts.length:=by omega
  refine zae hk ?_
  refine zae hk2 ?_
  refine zaa (ih _ (List.getElem_mem hk) w.parts[k]) ?_ ?_
  ·simp [go_sem]
  simp [e1,go_sem]
  refine ⟨fun h9=>?_,fun h9=>?_⟩
  ·exact hn (k+1) _ (Weak.to [2,3,5] [((1,0),1),((2,0),2)] (by simp [go_sem])) ⟨by omega,by rw [List.take_succ_eq_append_getElem hk,List.take_succ_eq_append_getElem hk2,h8,h9]⟩ (by omega)
  ·refine hr _ ?_
   have:v≠w:=fun h=>h9 (by subst h; rfl)
   simp [this,go_sem]
 ·have h9:v=w:=by
   refine GW.ext h1 h2 h3 h4 h5 ?_
   rw [<- List.take_length (l:=v.parts),<- List.take_length (l:=w.parts),<- hlen,show v.parts.length=k by omega]; exact h8
  simp [h9,go_sem]
theorem zi5 (r:GRing) (i:Nat) (h:i<r.parts.length):Sp P F.bh [enc r,.int .i64 i] (.pure (enc (⟨r.parts[i],[]⟩:GRing))):=by
 refine Sp.vz c.bh fun _=>?_
 simp [g.bh,go_sem]
 refine zae h ?_
 simp [go_sem]
end Go.Ab
namespace Go.Ab
open Enc (enc)
attribute [local go_sem] zas Opd.slots
def gr0:GRat:=⟨false,[],[]⟩
def gw0:GW:=.mk gr0 0 false 0 [] []
def GW.si (k:Int) (w:GW):Prop:=w.parts=[]/\(k≠1->k≠3->w.q=gr0)/\(k≠2->w.inf=false/\w.cost=0)/\(k≠4->w.set=0)/\(k≠5->w.poly=[]) /\
 (k=1->w.q.valid=true)/\(k=2->0<=w.cost/\w.cost<=1099511627776/\(w.inf=true->w.cost=0))/\(k=3->w.q.valid=true/\0<=w.q.v/\w.q.v<=1)/\(k=5->PVal w.poly)
noncomputable instance (k:Int) (w:GW):Decidable (w.si k):=Classical.propDecidable _
theorem set0 {x:UInt64}:x.toNat=0 ↔ x=0:=by rw [<- UInt64.toNat_inj]; rfl
theorem len0 {α : Type} {l:List α}:0<l.length ↔ l≠[]:=List.length_pos_iff
theorem si1 {w:GW}:w.si 1 ↔ w.parts=[]/\w.inf=false/\w.cost=0/\w.set=0/\w.poly=[]/\w.q.valid=true:=by simp [GW.si,and_assoc]
theorem si2 {w:GW}:w.si 2 ↔ w.parts=[]/\w.q=gr0/\w.set=0/\w.poly=[]/\0<=w.cost/\w.cost<=1099511627776/\(w.inf=true->w.cost=0):=by simp [GW.si]
theorem si3 {w:GW}:w.si 3 ↔ w.parts=[]/\w.inf=false/\w.cost=0/\w.set=0/\w.poly=[]/\w.q.valid=true/\0<=w.q.v/\w.q.v<=1:=by simp [GW.si,and_assoc]
theorem si4 {w:GW}:w.si 4 ↔ w.parts=[]/\w.q=gr0/\w.inf=false/\w.cost=0/\w.poly=[]:=by simp [GW.si,and_assoc]
theorem si5 {w:GW}:w.si 5 ↔ w.parts=[]/\w.q=gr0/\w.inf=false/\w.cost=0/\w.set=0/\PVal w.poly:=by simp [GW.si,and_assoc]
theorem zf4 {q:Rat}:0<=sgnR q ↔ 0<=q:=by
 rw [<- Rat.num_nonneg]; unfold sgnR; (repeat' split)<;>omega
theorem zl0:(rto 1).sm 1:=⟨zat (by decide),by decide⟩
theorem zz8 (w:GW) (hw:w.sm 1048576):Sp P F.ah [.int .i64 1,enc w] (.pure (.bool (decide (w.si 1)))):=by
 refine Sp.vz c.ah fun _=>?_
 rcases Bool.eq_false_or_eq_true w.inf with hb|hb
 ·simp [g.ah,go_sem]
  refine zaa (zcc w.q gr0 (hw.q.mono (by omega))) rfl ?_
  simp [hb,go_sem]
  exact ⟨fun _ h=>by have:=(si1.1 h).2; simp [hb] at this,fun _ h=>by have:=(si1.1 h).2; simp [hb] at this⟩
 ·simp [g.ah,go_sem]
  refine zaa (zcc w.q gr0 (hw.q.mono (by omega))) rfl ?_
  simp [hb,go_sem]
  simp only [si1,set0,len0,hb]
  refine ⟨fun h1 h=>h1 h.1,fun h1=>⟨fun h2=>⟨fun h3=>⟨fun h4 h=>h4 h.2.2.2.2.1,fun h4=>?_⟩,fun h3 h=>h3 h.2.2.2.1⟩,fun h2 h=>h2 h.2.2.1⟩⟩
  refine zaa (zir w.q (hw.q.mono (by omega))) rfl ?_
  simp [h1,h2,h3,h4,go_sem]
theorem zz7 (w:GW) (hw:w.sm 1048576):Sp P F.ah [.int .i64 2,enc w] (.pure (.bool (decide (w.si 2)))):=by
 refine Sp.vz c.ah fun _=>?_
 rcases Bool.eq_false_or_eq_true w.inf with hb|hb
 ·simp [g.ah,go_sem]
  refine zaa (zcc w.q gr0 (hw.q.mono (by omega))) rfl ?_
  simp [hb,go_sem]
  simp only [si2,set0,len0,hb]
  refine ⟨fun h1 h=>h1 h.1,fun h1=>⟨fun h2=>⟨fun h3=>⟨fun h4 h=>h4 h.2.2.2.1,fun h4=>⟨fun h5=>⟨fun h6=>?_,fun h6 h=>?_⟩,fun h5 h=>?_⟩⟩,fun h3 h=>h3 h.2.2.1⟩,fun h2 h=>h2 h.2.1⟩⟩
  ·simp [h1,h2,h3,h4,h5,h6]
  ·have:=h.2.2.2.2.2.1; omega
  ·have:=h.2.2.2.2.1; omega
 ·simp [g.ah,go_sem]
  refine zaa (zcc w.q gr0 (hw.q.mono (by omega))) rfl ?_
  simp [hb,go_sem]
  simp only [si2,set0,len0,hb]
  refine ⟨fun h1 h=>h1 h.1,fun h1=>⟨fun h2=>⟨fun h3=>⟨fun h4 h=>h4 h.2.2.2.1,fun h4=>⟨fun h5=>⟨fun h6=>?_,fun h6 h=>?_⟩,fun h5 h=>?_⟩⟩,fun h3 h=>h3 h.2.2.1⟩,fun h2 h=>h2 h.2.1⟩⟩
  ·simp [h1,h2,h3,h4,h5,h6]
  ·have:=h.2.2.2.2.2.1; omega
  ·have:=h.2.2.2.2.1; omega
theorem zz6 (w:GW) (hw:w.sm 1048576):Sp P F.ah [.int .i64 3,enc w] (.pure (.bool (decide (w.si 3)))):=by
 refine Sp.vz c.ah fun _=>?_
 rcases Bool.eq_false_or_eq_true w.inf with hb|hb
 ·simp [g.ah,go_sem]
  refine zaa (zcc w.q gr0 (hw.q.mono (by omega))) rfl ?_
  simp [hb,go_sem]
  exact ⟨fun _ h=>by have:=(si3.1 h).2; simp [hb] at this,fun _ h=>by have:=(si3.1 h).2; simp [hb] at this⟩
 ·simp [g.ah,go_sem]
  refine zaa (zcc w.q gr0 (hw.q.mono (by omega))) rfl ?_
  simp [hb,go_sem]
  simp only [si3,set0,len0,hb]
  refine ⟨fun h1 h=>h1 h.1,fun h1=>⟨fun h2=>⟨fun h3=>⟨fun h4 h=>h4 h.2.2.2.2.1,fun h4=>?_⟩,fun h3 h=>h3 h.2.2.2.1⟩,fun h2 h=>h2 h.2.2.1⟩⟩
  refine zaa (zir w.q (hw.q.mono (by omega))) rfl ?_
  rcases Bool.eq_false_or_eq_true w.q.valid with h5|h5
  rotate_left
  ·simp [h1,h2,h3,h4,h5,go_sem]
  simp [h1,h2,h3,h4,h5,go_sem]
  refine zaa (ziw w.q (hw.q.mono (by omega))) rfl ?_
  simp [go_sem]
  refine ⟨fun h6=>?_,fun h6=>?_⟩
  ·have hd:Rat.divInt 1 1=1:=rfl
   have hof:=zg5 1 1 (by omega) (by omega) (by omega)
   rw [hd] at hof
   refine zaa hof rfl ?_
   simp [go_sem]
   refine zaa (zwx (rto 1) w.q (zl0.mono (by omega)) hw.q) rfl ?_
   have h7:=zf4.1 h6
   simp [go_sem,zbg,h7]
   by_cases h8:1<w.q.v
   ·simp [h8,Rat.not_le.2 h8]
   ·simp [h8,Rat.not_lt.1 h8]
  ·have h7:¬ 0<=w.q.v:=fun h=>by have:=zf4.2 h; omega
   simp [h7]
theorem zz5 (w:GW) (hw:w.sm 1048576):Sp P F.ah [.int .i64 4,enc w] (.pure (.bool (decide (w.si 4)))):=by
 refine Sp.vz c.ah fun _=>?_
 rcases Bool.eq_false_or_eq_true w.inf with hb|hb
 ·simp [g.ah,go_sem]
  refine zaa (zcc w.q gr0 (hw.q.mono (by omega))) rfl ?_
  simp [hb,go_sem]
  exact ⟨fun _ h=>by have:=(si4.1 h).2; simp [hb] at this,fun _ h=>by have:=(si4.1 h).2; simp [hb] at this⟩
 ·simp [g.ah,go_sem]
  refine zaa (zcc w.q gr0 (hw.q.mono (by omega))) rfl ?_
  simp [hb,go_sem]
  simp only [si4,set0,len0,hb]
  refine ⟨fun h1 h=>h1 h.1,fun h1=>⟨fun h2=>⟨fun h3=>⟨fun h4 h=>h4 h.2.2.2.2,fun h4=>by simp [h1,h2,h3,h4]⟩,fun h3 h=>h3 h.2.2.2.1⟩,fun h2 h=>h2 h.2.1⟩⟩
theorem zz4 (w:GW) (hw:w.sm 1048576):Sp P F.ah [.int .i64 5,enc w] (.pure (.bool (decide (w.si 5)))):=by
 refine Sp.vz c.ah fun _=>?_
 rcases Bool.eq_false_or_eq_true w.inf with hb|hb
 ·simp [g.ah,go_sem]
  refine zaa (zcc w.q gr0 (hw.q.mono (by omega))) rfl ?_
  simp [hb,go_sem]
  exact ⟨fun _ h=>by have:=(si5.1 h).2; simp [hb] at this,fun _ h=>by have:=(si5.1 h).2; simp [hb] at this⟩
 ·simp [g.ah,go_sem]
  refine zaa (zcc w.q gr0 (hw.q.mono (by omega))) rfl ?_
  simp [hb,go_sem]
  simp only [si5,set0,len0,hb]
  refine ⟨fun h1 h=>h1 h.1,fun h1=>⟨fun h2=>⟨fun h3=>⟨fun h4=>?_,fun h4 h=>h4 h.2.2.2.2.1⟩,fun h3 h=>h3 h.2.2.2.1⟩,fun h2 h=>h2 h.2.1⟩⟩
  refine zaa (zrm w.poly hw.poly (by have:=hw.len; omega)) rfl ?_
  simp [h1,h2,h3,h4,go_sem]
theorem zr0 (k:Int) (w:GW) (hk:1<=k/\k<=5) (hw:w.sm 1048576):Sp P F.ah [.int .i64 k,enc w] (.pure (.bool (decide (w.si k)))):=by
 have:k=1\/k=2\/k=3\/k=4\/k=5:=by omega
 rcases this with rfl|rfl|rfl|rfl|rfl
 ·exact zz8 w hw
 ·exact zz7 w hw
 ·exact zz6 w hw
 ·exact zz5 w hw
 ·exact zz4 w hw
end Go.Ab
namespace Go.Ab
open Enc (enc)
attribute [local go_sem] zas Opd.slots
def GW.chk (r:GRing) (w:GW):Prop:=r.ok=true/\(r.kind≠6->w.si r.kind)/\(r.kind=6->w.parts.length=r.parts.length/\w=.mk gr0 0 false 0 [] w.parts/\∀ i,(h:i<r.parts.length)->(h':i<w.parts.length)->w.parts[i].si r.parts[i])
noncomputable instance (r:GRing) (w:GW):Decidable (w.chk r):=Classical.propDecidable _
theorem GRing.ok_kind {r:GRing} (h:r.ok=true) (h6:r.kind≠6):1<=r.kind/\r.kind<=5/\r.parts=[]:=by
 simp only [GRing.ok,if_neg h6,decide_eq_true_eq] at h; exact h
theorem GRing.ok_parts {r:GRing} (h:r.ok=true) (h6:r.kind=6):2<=r.parts.length/\r.parts.length<=3/\∀ k∈r.parts,1<=k/\k<=5:=by
 simp only [GRing.ok,if_pos h6,decide_eq_true_eq] at h; exact h
@[go_sem] theorem GW.q_mk (q:GRat) (c:Int) (i:Bool) (s:UInt64) (p:List GMono) (ps:List GW):(GW.mk q c i s p ps).q=q:=rfl
@[go_sem] theorem GW.cost_mk (q:GRat) (c:Int) (i:Bool) (s:UInt64) (p:List GMono) (ps:List GW):(GW.mk q c i s p ps).cost=c:=rfl
@[go_sem] theorem GW.inf_mk (q:GRat) (c:Int) (i:Bool) (s:UInt64) (p:List GMono) (ps:List GW):(GW.mk q c i s p ps).inf=i:=rfl
@[go_sem] theorem GW.set_mk (q:GRat) (c:Int) (i:Bool) (s:UInt64) (p:List GMono) (ps:List GW):(GW.mk q c i s p ps).set=s:=rfl
@[go_sem] theorem GW.poly_mk (q:GRat) (c:Int) (i:Bool) (s:UInt64) (p:List GMono) (ps:List GW):(GW.mk q c i s p ps).poly=p:=rfl
@[go_sem] theorem GW.parts_mk (q:GRat) (c:Int) (i:Bool) (s:UInt64) (p:List GMono) (ps:List GW):(GW.mk q c i s p ps).parts=ps:=rfl
@[go_sem] theorem yfj:gr0.neg=false:=rfl
@[go_sem] theorem yfi:gr0.num=[]:=rfl
@[go_sem] theorem yfk:gr0.den=[]:=rfl
theorem zh3 (n:Nat):gr0.sm n:=⟨by simp [gr0],by simp [gr0]⟩
theorem GW.sm.tup {n:Nat} {ps:List GW} (h:ps.length<=n) (k:∀ w∈ps,w.sm n):(GW.mk gr0 0 false 0 [] ps).sm n:=.mk (zh3 n) (by intro m hm; simp at hm) (by simp) h k
theorem zhi (r:GRing) (w:GW) (hw:w.sm 1048576):Sp P F.bv [enc r,enc w] (.pure (.bool (decide (w.chk r)))):=by
 refine Sp.vz c.bv fun _=>?_
 simp [g.bv,go_sem]
 refine zaa (zau r) rfl ?_
 rcases Bool.eq_false_or_eq_true r.ok with hr0|hr0
 rotate_left
 ·simp [hr0,GW.chk,go_sem]
 simp [hr0,go_sem]
 refine ⟨fun h6=>?_,fun h6=>?_⟩
 rotate_left
 ·have hk:=GRing.ok_kind hr0 h6
  refine zab (zr0 r.kind w ⟨hk.1,hk.2.1⟩ hw) ?_
  simp [GW.chk,hr0,h6,go_sem]
 refine ⟨fun hl=>?_,fun hl h=>?_⟩
 rotate_left
 ·have:=(h.2.2 h6).1; omega
 have hl':w.parts.length=r.parts.length:=by omega
 have hp:=GRing.ok_parts hr0 h6
 refine zab (zhd (.mk gr0 0 false 0 [] w.parts) (.tup hw.plen hw.parts) w) ?_
 by_cases he:GW.mk gr0 0 false 0 [] w.parts=w
 rotate_left
 ·simp [he,go_sem]
  exact fun h=>he (h.2.2 h6).2.1.symm
 simp [he,go_sem]
 refine zag (S:=fun k:Nat=>mkSt [(2,.ptr 1 0 0 0),(3,.ptr 2 0 0 0),(5,.p (.int .i64 k))] [(1,⟨2,[.p (enc r)]⟩),(2,⟨8,[.p (enc w)]⟩)]) (I:=fun k=>k<=r.parts.length/\∀ i,(h:i<r.parts.length)->(h':i<w.parts.length)->i<k->w.parts[i].si r.parts[i]) (m:=fun k=>r.parts.length - k) 0
  (Weak.to [2,3,5] [((2,0),1),((3,0),2)] (by simp [go_sem])) ⟨by omega,fun i h h' h0=>by omega⟩ ?_
 rintro k ⟨h7,h8⟩ R hn hr hx
 have e1:=i64s k (by omega)
 simp [g.rg,mkSt,go_sem]
 refine ⟨fun hk=>?_,fun hk=>hx _ _ ?_⟩
 ·have hk2:k<w.parts.length:=by omega
  refine zae hk ?_
  refine zae hk2 ?_
  refine zab (zr0 r.parts[k] w.parts[k] (hp.2.2 _ (List.getElem_mem hk)) (hw.parts _ (List.getElem_mem hk2))) ?_
  by_cases h9:w.parts[k].si r.parts[k]
  ·simp [h9,e1,go_sem]
   refine hn (k+1) _ (Weak.to [2,3,5] [((1,0),1),((2,0),2)] (by simp [go_sem])) ⟨by omega,fun i h h' hi=>?_⟩ (by omega)
   by_cases hik:i<k
   ·exact h8 i h h' hik
   ·have:i=k:=by omega
    subst this; exact h9
  ·simp [h9,go_sem]
   refine hr _ ?_
   have:¬ w.chk r:=fun h=>h9 ((h.2.2 h6).2.2 k hk hk2)
   simp [this,go_sem]
 ·have:w.chk r:=⟨hr0,fun h=>absurd h6 h,fun _=>⟨hl',he.symm,fun i h h'=>h8 i h h' (by omega)⟩⟩
  simp [this,go_sem]
end Go.Ab
namespace Go.Ab
open Enc (enc)
attribute [local go_sem] zas Opd.slots
def zbz (k:Int):GW:=.mk gr0 0 (decide (k=2)) 0 [] []
def GRing.zero (r:GRing):GW:=if r.ok then .mk gr0 0 (decide (r.kind=2)) 0 [] (r.parts.map zbz) else gw0
theorem z7v (r:GRing) (h:r.parts=[]):Sp P F.am [enc r] (.pure (enc r.zero)):=by
 refine Sp.vz c.am fun _=>?_
 simp [g.am,go_sem]
 refine zaa (zau r) rfl ?_
 rcases Bool.eq_false_or_eq_true r.ok with hr0|hr0
 rotate_left
 ·simp [hr0,GRing.zero,gw0,go_sem]
 simp [hr0,go_sem]
 refine zak fun R hn hr hx=>?_
 simp [g.o6,h,go_sem]
 refine hx _ _ ?_
 simp [hr0,GRing.zero,h,go_sem]
theorem zdk (r:GRing):Sp P F.am [enc r] (.pure (enc r.zero)):=by
 refine Sp.vz c.am fun _=>?_
 simp [g.am,go_sem]
 refine zaa (zau r) rfl ?_
 rcases Bool.eq_false_or_eq_true r.ok with hr0|hr0
 rotate_left
 ·simp [hr0,GRing.zero,gw0,go_sem]
 simp [hr0,go_sem]
 refine zag (S:=fun k:Nat=>mkSt [(1,.ptr 1 0 0 0),(2,.ptr 2 0 0 0),(3,.ptr 3 0 0 0),(4,.p (.int .i64 k))]
   [(1,⟨2,[.p (enc r)]⟩),(2,⟨8,[.agg [.p (.bool false),.nil,.nil,.p (.int .i64 0),.p (.bool false),.p (.int .u64 0),.nil,.nil]]⟩),
    (3,⟨8,[.agg [.p (.bool false),.nil,.nil,.p (.int .i64 0),.p (.bool (decide (r.kind=2))),.p (.int .u64 0),.nil,.own 4 0 0 k]]⟩),(4,⟨8,avs ((r.parts.map zbz).take k)⟩)])
  (I:=fun k=>k<=r.parts.length) (m:=fun k=>r.parts.length - k) 0
  ((Weak.nilCell (s0:=3) (g0:=0) (i:=7) (s:=77) (sz:=8) rfl).trans (Weak.to [1,2,3,4] [((1,0),1),((2,0),2),((3,0),3),((77,0),4)] (by simp [go_sem]))) (by omega) ?_
 rintro k h1 R hn hr hx
 have hlen:r.parts.length<=3:=by
  by_cases h6:r.kind=6
  ·exact (GRing.ok_parts hr0 h6).2.1
  ·simp [(GRing.ok_kind hr0 h6).2.2]
 have e1:=i64s k (by omega)
 simp [g.o6,mkSt,go_sem]
 refine ⟨fun hk=>?_,fun hk=>hx _ _ ?_⟩
 ·have h6:r.kind=6:=by
   by_cases h6:r.kind=6
   ·exact h6
   ·have:=(GRing.ok_kind hr0 h6).2.2; rw [this] at hk; simp at hk
  have hpk:=(GRing.ok_parts hr0 h6).2.2 _ (List.getElem_mem hk)
  refine zaa (zi5 r k hk) rfl ?_
  simp [go_sem]
  refine zaa (z7v ⟨r.parts[k],[]⟩ rfl) rfl ?_
  have hz:(⟨r.parts[k],[]⟩:GRing).zero=zbz r.parts[k]:=by
   have h7:r.parts[k]≠6:=by omega
   simp [GRing.zero,GRing.ok,h7,hpk,zbz]
  have hk':k<(r.parts.map zbz).length:=by simpa using hk
  rw [hz]
  simp [e1,go_sem]
  refine ⟨by omega,hn (k+1) _ (Weak.to [1,2,3,4] [((1,0),1),((2,0),2),((3,0),3),((28,0),4)] (by simp [go_sem,List.take_succ_eq_append_getElem hk',zbp])) (by omega) (by omega)⟩
 ·have:k=r.parts.length:=by omega
  subst this
  have ht:(r.parts.map zbz).take r.parts.length=r.parts.map zbz:=by rw [List.take_of_length_le (by simp)]
  simp [hr0,GRing.zero,go_sem]
  simp only [ht]
theorem zo4 (r:GRing) (w:GW) (hw:w.sm 1048576):Sp P F.gg [enc r,enc w] (.pure (.bool (decide (w=r.zero)))):=by
 refine Sp.vz c.gg fun _=>?_
 simp [g.gg,go_sem]
 refine zab (zdk r) ?_
 simp [go_sem]
 refine zab (zhd w hw r.zero) ?_
 simp [go_sem]
end Go.Ab
