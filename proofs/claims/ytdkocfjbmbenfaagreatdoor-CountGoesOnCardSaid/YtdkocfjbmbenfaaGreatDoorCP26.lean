/-
Proofs for the law CountGoesOn, part 26. Conditions: none.
-/
import Derived.Test.YtdkocfjbmbenfaaGreatDoorCP25
set_option maxRecDepth 100000
set_option maxHeartbeats 4000000
set_option linter.all false
namespace Go.Ab
open Enc (enc)
def qb (D B:Nat) (q:Rat):Prop:=∃ a:Int,q=mkRat a D/\a.natAbs<=B
theorem z0f {D B B':Nat} {x y:Rat} (hx:qb D B x) (hy:qb D B' y) (hD:D≠0):qb D (B+B') (x+y):=by
 obtain ⟨a,rfl,h1⟩:=hx
 obtain ⟨b,rfl,h2⟩:=hy
 refine ⟨a+b,?_,by omega⟩
 rw [Rat.mkRat_add_mkRat _ _ hD hD,<- Int.add_mul,Rat.mkRat_mul_right hD]
theorem ych {D D' B B':Nat} {x y:Rat} (hx:qb D B x) (hy:qb D' B' y):qb (D*D') (B*B') (x*y):=by
 obtain ⟨a,rfl,h1⟩:=hx
 obtain ⟨b,rfl,h2⟩:=hy
 refine ⟨a*b,?_,?_⟩
 ·rw [Rat.mkRat_mul_mkRat]
 ·rw [Int.natAbs_mul]; exact Nat.mul_le_mul h1 h2
theorem zky {D B:Nat} {x:Rat} (k:Nat) (hk:k≠0) (hx:qb D B x):qb (D*k) (B*k) x:=by
 obtain ⟨a,rfl,h1⟩:=hx
 refine ⟨a*k,?_,?_⟩
 ·rw [Rat.mkRat_mul_right hk]
 ·rw [Int.natAbs_mul]; exact Nat.mul_le_mul h1 (by simp)
theorem ztp (D:Nat):qb D 0 0:=⟨0,by simp,by simp⟩
theorem zhx {D B B':Nat} {x:Rat} (h:qb D B x) (k:B<=B'):qb D B' x:=by obtain ⟨a,e,h⟩:=h; exact ⟨a,e,by omega⟩
theorem ycg {D B n:Nat} {x:Rat} (h:qb D B x) (hD:D≠0) (h1:D<4294967296^n) (h2:B<4294967296^n):(rto x).sm n:=by
 obtain ⟨a,rfl,h⟩:=h
 have e1:(mkRat a D).num.natAbs<=B:=by
  rw [Rat.num_mkRat,if_neg hD]
  exact Nat.le_trans (Int.natAbs_ediv_le_natAbs _ _) h
 have e2:(mkRat a D).den<=D:=by
  rw [Rat.den_mkRat,if_neg hD]; exact Nat.div_le_self _ _
 refine ⟨zat (Nat.lt_of_le_of_lt e1 h2),?_⟩
 show (if (mkRat a D).den=1 then [] else lb (mkRat a D).den).length<=n
 split
 ·simp
 ·exact zat (Nat.lt_of_le_of_lt e2 h1)
def Ex.code (e:Ex):Int:=e.a*36+e.b*6+e.c
theorem Ex.ok_iff {e:Ex}:e.ok=true ↔ (0<=e.a/\e.a<=5/\0<=e.b/\e.b<=5/\0<=e.c/\e.c<=5/\e.a+e.b+e.c<=5):=by simp [Ex.ok]
theorem Ex.code_lt {e:Ex} (h:e.ok=true):0<=e.code/\e.code<216:=by rw [Ex.ok_iff] at h; unfold Ex.code; omega
theorem Ex.cmp_neg {x y:Ex} (hx:x.ok=true) (hy:y.ok=true):x.cmp y<0 ↔ x.code<y.code:=by
 rw [Ex.ok_iff] at hx hy; unfold Ex.cmp Ex.code; (repeat' split)<;>omega
theorem Ex.cmp_pos {x y:Ex} (hx:x.ok=true) (hy:y.ok=true):0<x.cmp y ↔ y.code<x.code:=by
 rw [Ex.ok_iff] at hx hy; unfold Ex.cmp Ex.code; (repeat' split)<;>omega
theorem Ex.code_inj {x y:Ex} (hx:x.ok=true) (hy:y.ok=true):x.code=y.code ↔ x=y:=by
 rw [Ex.ok_iff] at hx hy; unfold Ex.code; obtain ⟨a,b,c⟩:=x; obtain ⟨a',b',c'⟩:=y
 simp only [Ex.mk.injEq] at *; omega
theorem zan {p:List GMono}:PVal p ↔ (∀ m∈p,m.ok=true)/\p.Pairwise (fun x y=>y.e.code<x.e.code):=by
 have ok_e:∀ {m:GMono},m.ok=true->m.e.ok=true:=fun h=>by simp [GMono.ok] at h; exact h.1.1
 constructor
 ·intro h
  have h1:∀ m∈p,m.ok=true:=fun m hm=>by
   obtain ⟨i,hi,rfl⟩:=List.getElem_of_mem hm; exact (h i hi).1
  refine ⟨h1,List.pairwise_iff_getElem.2 fun i j hi hj hij=>?_⟩
  obtain ⟨d,rfl⟩:∃ d,j=i+1+d:=⟨j - i - 1,by omega⟩
  clear hij
  induction d with
  | zero =>
   have:=(h (i+1) hj).2 (by omega)
   exact (Ex.cmp_neg (ok_e (h1 _ (List.getElem_mem _))) (ok_e (h1 _ (List.getElem_mem _)))).1 this
  | succ d ih =>
   have h2:=ih (by omega)
   have h3:=(h (i+1+(d+1)) hj).2 (by omega)
   have h4:=(Ex.cmp_neg (ok_e (h1 _ (List.getElem_mem _))) (ok_e (h1 _ (List.getElem_mem _)))).1 h3
   exact Int.lt_trans h4 h2
 ·rintro ⟨h1,h2⟩ i hi
  refine ⟨h1 _ (List.getElem_mem hi),fun h0=>?_⟩
  refine (Ex.cmp_neg (ok_e (h1 _ (List.getElem_mem _))) (ok_e (h1 _ (List.getElem_mem _)))).2 ?_
  exact List.pairwise_iff_getElem.1 h2 (i - 1) i (by omega) hi (by omega)
def pc:List GMono->Ex->Rat
 | [],_=>0
 | m::p,e=>(if m.e=e then m.coef.v else 0)+pc p e
theorem zlu (p q:List GMono) (e:Ex):pc (p++q) e=pc p e+pc q e:=by
 induction p with
 | nil=>simp [pc,Rat.zero_add]
 | cons m p ih=>simp [pc,ih,Rat.add_assoc]
theorem zhy {p:List GMono} {e:Ex} (h:∀ m∈p,m.e≠e):pc p e=0:=by
 induction p with
 | nil=>rfl
 | cons m p ih=>simp only [pc,if_neg (h m (by simp)),Rat.zero_add]; exact ih fun x hx=>h x (by simp [hx])
theorem zgu {m:GMono} {p:List GMono} (h:PVal (m::p)):pc (m::p) m.e=m.coef.v:=by
 have:=zan.1 h
 simp only [pc,if_true]
 rw [zhy,Rat.add_zero]
 intro x hx he
 have:=(List.pairwise_cons.1 this.2).1 x hx
 rw [he] at this; omega
theorem PVal.tail {m:GMono} {p:List GMono} (h:PVal (m::p)):PVal p:=by
 have:=zan.1 h
 exact zan.2 ⟨fun x hx=>this.1 x (by simp [hx]),(List.pairwise_cons.1 this.2).2⟩
theorem zpf {p q:List GMono} (hp:PVal p) (hq:PVal q) (h:∀ e,pc p e=pc q e):p=q:=by
 have okm:∀ {m:GMono},m.ok=true->m.e.ok=true/\m.coef.valid=true/\m.coef.v≠0:=fun h=>by simp [GMono.ok] at h; exact ⟨h.1.1,h.1.2,h.2⟩
 induction p generalizing q with
 | nil =>
  cases q with
  | nil=>rfl
  | cons m q =>
   have:=h m.e
   rw [zgu hq] at this
   exact absurd this.symm (okm ((zan.1 hq).1 m (by simp))).2.2
 | cons m p ih =>
  cases q with
  | nil =>
   have:=h m.e
   rw [zgu hp] at this
   exact absurd this (okm ((zan.1 hp).1 m (by simp))).2.2
  | cons m' q =>
   have o1:=okm ((zan.1 hp).1 m (by simp))
   have o2:=okm ((zan.1 hq).1 m' (by simp))
   have he:m.e=m'.e:=by
    rcases Int.lt_trichotomy m.e.code m'.e.code with h1|h1|h1
    ·have:=h m'.e
     rw [zgu hq,zhy] at this
     ·exact absurd this.symm o2.2.2
     ·intro x hx hxe
      rcases List.mem_cons.1 hx with rfl|hx
      ·rw [hxe] at h1; omega
      ·have:=(List.pairwise_cons.1 (zan.1 hp).2).1 x hx; rw [hxe] at this; omega
    ·exact (Ex.code_inj o1.1 o2.1).1 h1
    ·have:=h m.e
     rw [zgu hp,zhy] at this
     ·exact absurd this o1.2.2
     ·intro x hx hxe
      rcases List.mem_cons.1 hx with rfl|hx
      ·rw [hxe] at h1; omega
      ·have:=(List.pairwise_cons.1 (zan.1 hq).2).1 x hx; rw [hxe] at this; omega
   have hc:m.coef=m'.coef:=by
    have:=h m.e
    rw [zgu hp,he,zgu hq] at this
    rw [<- zhv o1.2.1,<- zhv o2.2.1,this]
   have hm:m=m':=by cases m; cases m'; simp at he hc; simp [he,hc]
   subst hm
   congr 1
   refine ih hp.tail hq.tail fun e=>?_
   have:=h e
   simp only [pc] at this
   exact Rat.add_left_cancel _ this
end Go.Ab
namespace Go.Ab
open Enc (enc)
def pins:List GMono->Ex->Rat->List GMono
 | [],e,q=>[⟨e,rto q⟩]
 | m::p,e,q=>if 0<m.e.cmp e then m::pins p e q else if m.e=e then (if q+m.coef.v=0 then p else ⟨e,rto (q+m.coef.v)⟩::p) else ⟨e,rto q⟩::m::p
theorem zlq (p:List GMono) (e:Ex) (q:Rat):pput p e q=if e.ok=false\/q=0 then p else pins p e q:=by
 unfold pput
 split
 ·rfl
 ·rename_i h
  induction p with
  | nil=>simp [pat,pins]
  | cons m p ih =>
   by_cases h1:0<m.e.cmp e
   ·simp only [pat,if_pos h1,List.getElem?_cons_succ,List.take_succ_cons,List.drop_succ_cons,pins,<- ih]
    cases p[pat p e]? with
    | none=>simp
    | some x=>simp only [List.cons_append]; (repeat' split)<;>rfl
   ·simp [pat,pins,h1]
theorem GMono.ok_iff {m:GMono}:m.ok=true ↔ m.e.ok=true/\m.coef.valid=true/\m.coef.v≠0:=by simp [GMono.ok,and_assoc]
theorem z5e {p:List GMono} {e:Ex} {q:Rat} {x:GMono} (h:x∈pins p e q):x.e=e\/x∈p:=by
 induction p with
 | nil=>simp [pins] at h; exact .inl (by rw [h])
 | cons m p ih =>
  simp only [pins] at h
  split at h
  ·rcases List.mem_cons.1 h with rfl|h
   ·exact .inr (by simp)
   ·rcases ih h with h|h
    ·exact .inl h
    ·exact .inr (by simp [h])
  ·split at h
   ·split at h
    ·exact .inr (by simp [h])
    ·rcases List.mem_cons.1 h with rfl|h
     ·exact .inl rfl
     ·exact .inr (by simp [h])
   ·rcases List.mem_cons.1 h with rfl|h
    ·exact .inl rfl
    ·exact .inr h
theorem z5d {p:List GMono} {e:Ex} {q:Rat} (hp:PVal p) (he:e.ok=true) (hq:q≠0):PVal (pins p e q):=by
 have okq:∀ {r:Rat},r≠0->(⟨e,rto r⟩:GMono).ok=true:=fun {r} h=>GMono.ok_iff.2 ⟨he,zcd r,by rw [ze8]; exact h⟩
 induction p with
 | nil=>exact zan.2 ⟨fun m hm=>by simp [pins] at hm; rw [hm]; exact okq hq,by simp [pins]⟩
 | cons m p ih =>
  have h:=zan.1 hp
  have ho:=(GMono.ok_iff.1 (h.1 m (by simp))).1
  have h1:=(List.pairwise_cons.1 h.2).1
  simp only [pins]
  split
  ·rename_i h2
   have h3:=zan.1 (ih hp.tail)
   refine zan.2 ⟨fun x hx=>?_,List.pairwise_cons.2 ⟨fun x hx=>?_,h3.2⟩⟩
   ·rcases List.mem_cons.1 hx with rfl|hx
    ·exact h.1 x (by simp)
    ·exact h3.1 x hx
   ·rcases z5e hx with h4|h4
    ·rw [h4]; exact (Ex.cmp_pos ho he).1 h2
    ·exact h1 x h4
  ·rename_i h2
   split
   ·rename_i h3
    split
    ·exact hp.tail
    ·rename_i h4
     refine zan.2 ⟨fun x hx=>?_,List.pairwise_cons.2 ⟨fun x hx=>?_,(zan.1 hp.tail).2⟩⟩
     ·rcases List.mem_cons.1 hx with rfl|hx
      ·exact okq h4
      ·exact h.1 x (by simp [hx])
     ·have:=h1 x hx; rw [h3] at this; exact this
   ·rename_i h3
    have h4:m.e.code<e.code:=by
     have h5:¬ (e.code<m.e.code):=fun h=>h2 ((Ex.cmp_pos ho he).2 h)
     have h6:¬ (m.e.code=e.code):=fun h=>h3 ((Ex.code_inj ho he).1 h)
     omega
    refine zan.2 ⟨fun x hx=>?_,List.pairwise_cons.2 ⟨fun x hx=>?_,h.2⟩⟩
    ·rcases List.mem_cons.1 hx with rfl|hx
     ·exact okq hq
     ·exact h.1 x hx
    ·rcases List.mem_cons.1 hx with rfl|hx
     ·exact h4
     ·exact Int.lt_trans (h1 x hx) h4
theorem z9h (p:List GMono) (e:Ex) (q:Rat) (e':Ex):pc (pins p e q) e'=pc p e'+if e=e' then q else 0:=by
 induction p with
 | nil=>simp only [pins,pc,ze8,Rat.add_zero,Rat.zero_add]
 | cons m p ih =>
  simp only [pins]
  split
  ·simp only [pc,ih,Rat.add_assoc]
  ·split
   ·rename_i h
    split
    ·rename_i h2
     simp only [pc,h]
     by_cases h3:e=e'
     ·simp only [if_pos h3]
      rw [Rat.add_comm (m.coef.v) (pc p e'),Rat.add_assoc,Rat.add_comm m.coef.v q,h2,Rat.add_zero]
     ·simp [h3,Rat.zero_add,Rat.add_zero]
    ·simp only [pc,h,ze8]
     by_cases h3:e=e'
     ·simp only [if_pos h3]
      rw [Rat.add_comm q m.coef.v,Rat.add_assoc,Rat.add_assoc,Rat.add_comm q (pc p e')]
     ·simp [h3,Rat.zero_add,Rat.add_zero]
   ·simp only [pc,ze8]
    rw [Rat.add_comm]
theorem zvl {p:List GMono} (e:Ex) (q:Rat) (hp:PVal p):PVal (pput p e q):=by
 rw [zlq]; split
 ·exact hp
 ·rename_i h; exact z5d hp (by rcases Bool.eq_false_or_eq_true e.ok with h'|h'; exact h'; exact absurd (.inl h') h) (fun h'=>h (.inr h'))
theorem z0r (p:List GMono) (e:Ex) (q:Rat) (e':Ex):pc (pput p e q) e'=pc p e'+if e.ok=true/\e=e' then q else 0:=by
 rw [zlq]; split
 ·rename_i h
  rcases h with h|h
  ·simp [h,Rat.add_zero]
  ·simp [h,Rat.add_zero]
 ·rename_i h
  have:e.ok=true:=by rcases Bool.eq_false_or_eq_true e.ok with h'|h'; exact h'; exact absurd (.inl h') h
  rw [z9h]; simp [this]
theorem zci {p:List GMono} (h:PVal p):p.length<=216:=by
 have h1:=zan.1 h
 have:∀ (p:List GMono) (n:Int),(∀ m∈p,0<=m.e.code/\m.e.code<n)->p.Pairwise (fun x y=>y.e.code<x.e.code)->(p.length:Int)<=n\/p=[]:=by
  intro p
  induction p with
  | nil=>intro n _ _; exact .inr rfl
  | cons m p ih =>
   intro n h2 h3
   have h4:=List.pairwise_cons.1 h3
   rcases ih m.e.code (fun x hx=>⟨(h2 x (by simp [hx])).1,h4.1 x hx⟩) h4.2 with h5|h5
   ·have:=h2 m (by simp); left; simp; omega
   ·have:=h2 m (by simp); left; subst h5; simp; omega
 rcases this p 216 (fun m hm=>Ex.code_lt (GMono.ok_iff.1 (h1.1 m hm)).1) h1.2 with h2|h2
 ·omega
 ·simp [h2]
end Go.Ab
namespace Go.Ab
open Enc (enc)
attribute [local go_sem] zam Opd.slots
theorem zrt {p:List GMono} (hp:PVal p) {m:GMono} (hm:m∈p):pc p m.e=m.coef.v:=by
 induction p with
 | nil=>simp at hm
 | cons x p ih =>
  rcases List.mem_cons.1 hm with rfl|hm
  ·exact zgu hp
  ·have h1:=(List.pairwise_cons.1 (zan.1 hp).2).1 m hm
   have h2:x.e≠m.e:=fun h=>by rw [h] at h1; omega
   simp only [pc,if_neg h2,Rat.zero_add]; exact ih hp.tail hm
theorem z9g {p:List GMono} (hp:PVal p) (k:Nat) (e:Ex):pc (p.take k) e=0\/pc (p.take k) e=pc p e:=by
 induction p generalizing k with
 | nil=>simp [pc]
 | cons x p ih =>
  cases k with
  | zero=>simp [pc]
  | succ k =>
   by_cases h:x.e=e
   ·right
    subst h
    rw [zgu hp,List.take_succ_cons]
    simp only [pc,if_true]
    rw [zhy,Rat.add_zero]
    intro y hy he
    have:=(List.pairwise_cons.1 (zan.1 hp).2).1 y (List.mem_of_mem_take hy)
    rw [he] at this; omega
   ·simp only [List.take_succ_cons,pc,if_neg h,Rat.zero_add]; exact ih hp.tail k
def pqb (D B:Nat) (p:List GMono):Prop:=∀ e,qb D B (pc p e)
theorem zpi {D B n:Nat} {p:List GMono} (h:pqb D B p) (hp:PVal p) (hD:D≠0) (h1:D<4294967296^n) (h2:B<4294967296^n):psm p n:=by
 intro m hm
 have h3:=GMono.ok_iff.1 ((zan.1 hp).1 m hm)
 have:=ycg (h m.e) hD h1 h2
 rw [zrt hp hm,zhv h3.2.1] at this
 exact this
theorem z82 (D:Nat):pqb D 0 []:=fun _=>ztp D
theorem z81 {D B B':Nat} {p:List GMono} (h:pqb D B p) {q:Rat} (hq:qb D B' q) (hD:D≠0) (e:Ex):pqb D (B+B') (pput p e q):=by
 intro e'
 rw [z0r]
 split
 ·exact z0f (h e') hq hD
 ·exact zhx (by rw [Rat.add_zero]; exact h e') (by omega)
theorem zpq:PVal []:=fun i h=>by simp at h
def padd (p q:List GMono):List GMono:=q.foldl (fun o m=>pput o m.e m.coef.v) p
theorem zcj {p:List GMono} (q:List GMono) (hp:PVal p):PVal (padd p q):=by
 induction q generalizing p with
 | nil=>exact hp
 | cons m q ih=>exact ih (zvl _ _ hp)
theorem zfv (p:List GMono) {q:List GMono} (hq:∀ m∈q,m.ok=true) (e:Ex):pc (padd p q) e=pc p e+pc q e:=by
 induction q generalizing p with
 | nil=>simp [padd,pc,Rat.add_zero]
 | cons m q ih =>
  have:=ih (pput p m.e m.coef.v) fun x hx=>hq x (by simp [hx])
  show pc (padd (pput p m.e m.coef.v) q) e=_
  rw [this,z0r]
  have:=(GMono.ok_iff.1 (hq m (by simp))).1
  simp [pc,this,Rat.add_assoc]
theorem PVal.take {p:List GMono} (hp:PVal p) (k:Nat):PVal (p.take k):=by
 have:=zan.1 hp
 exact zan.2 ⟨fun x hx=>this.1 x (List.mem_of_mem_take hx),this.2.sublist (List.take_sublist _ _)⟩
theorem z48 {D B:Nat} {p:List GMono} (h:pqb D B p) (hp:PVal p) (k:Nat):pqb D B (p.take k):=by
 intro e
 rcases z9g hp k e with h1|h1
 ·rw [h1]; exact zhx (ztp D) (by omega)
 ·rw [h1]; exact h e
theorem z83 {D B B':Nat} {p q:List GMono} (h:pqb D B p) (h':pqb D B' q) (hq:PVal q) (hD:D≠0):pqb D (B+B') (padd p q):=by
 intro e; rw [zfv p (zan.1 hq).1]; exact z0f (h e) (h' e) hD
theorem znj {p q:List GMono} {k:Nat} (h:k<q.length):padd p (q.take (k+1))=pput (padd p (q.take k)) q[k].e q[k].coef.v:=by
 unfold padd; rw [List.take_succ_eq_append_getElem h,List.foldl_append]; rfl
theorem yaz (p q:List GMono) (D B B':Nat) (hp:PVal p) (hq:PVal q) (h1:pqb D B p) (h2:pqb D B' q) (hD0:D≠0) (hD:D<4294967296^1048576) (hB:B+B'<4294967296^1048576) :
  Sp P F.ke [.sl (ens p),.sl (ens q)] (.pure (.sl (ens (padd p q)))):=by
 have hbp:psm p 1048576:=zpi h1 hp hD0 hD (Nat.lt_of_le_of_lt (Nat.le_add_right _ _) hB)
 have hbq:psm q 1048576:=zpi h2 hq hD0 hD (Nat.lt_of_le_of_lt (Nat.le_add_left _ _) hB)
 have hpl:=zci hp
 have hql:=zci hq
 have hb:∀ k,psm (padd p (q.take k)) 1048576:=fun k=>zpi (z83 h1 (z48 h2 hq k) (hq.take k) hD0) (zcj _ hp) hD0 hD hB
 clear hD hB
 refine Sp.vz c.ke fun _=>?_
 simp [g.ke,go_sem]
 refine zaa (zhc p hbp (by omega)) rfl ?_
 simp [go_sem]
 refine zaa (zhc q hbq (by omega)) rfl ?_
 simp [go_sem,zrq hp,zrq hq]
 refine zai (S:=fun k:Nat=>mkSt [(1,.p (.sl (ens q))),(5,.p (.sl (ens (padd p (q.take k))))),(6,.p (.int .i64 k))] []) (I:=fun k=>k<=q.length) (m:=fun k=>q.length - k) 0
  (Weak.to [1,5,6] [] (by simp [go_sem,padd])) (by omega) ?_
 rintro k h3 R hn hr hx
 have e1:=i64s k (by omega)
 simp [g.re,mkSt,go_sem]
 refine ⟨fun hk=>?_,fun hk=>hx _ _ ?_⟩
 ·refine zae hk ?_
  have hv:=zcj (q.take k) hp
  have hl:=zci hv
  refine zaa (z0g (padd p (q.take k)) q[k] (hb k) (by omega) (hbq _ (List.getElem_mem hk)) (GMono.ok_iff.1 (hq k hk).1).2.1) rfl ?_
  simp [go_sem,e1]
  exact hn (k+1) _ (Weak.to [1,5,6] [] (by simp [go_sem,znj hk])) (by omega) (by omega)
 ·have:k=q.length:=by omega
  subst this
  simp [go_sem]
def Ex.add (x y:Ex):Ex:=⟨x.a+y.a,x.b+y.b,x.c+y.c⟩
def prow (m:GMono) (q:List GMono) (o:List GMono):List GMono:=q.foldl (fun o m'=>pput o (m.e.add m'.e) (m.coef.v*m'.coef.v)) o
def pmul (p q:List GMono):List GMono:=p.foldl (fun o m=>prow m q o) []
theorem znf {m:GMono} {o q:List GMono} {k:Nat} (h:k<q.length):prow m (q.take (k+1)) o=pput (prow m (q.take k) o) (m.e.add q[k].e) (m.coef.v*q[k].coef.v):=by
 unfold prow; rw [List.take_succ_eq_append_getElem h,List.foldl_append]; rfl
theorem znh {p q:List GMono} {k:Nat} (h:k<p.length):pmul (p.take (k+1)) q=prow p[k] q (pmul (p.take k) q):=by
 unfold pmul; rw [List.take_succ_eq_append_getElem h,List.foldl_append]; rfl
theorem zph {m:GMono} (q:List GMono) {o:List GMono} (h:PVal o):PVal (prow m q o):=by
 induction q generalizing o with
 | nil=>exact h
 | cons x q ih=>exact ih (zvl _ _ h)
theorem zpj (p q:List GMono):PVal (pmul p q):=by
 suffices ∀ o,PVal o->PVal (p.foldl (fun o m=>prow m q o) o) from this [] zpq
 induction p with
 | nil=>exact fun o h=>h
 | cons x p ih=>exact fun o h=>ih _ (zph q h)
theorem z0h {D D' B B' C:Nat} {m:GMono} {q o:List GMono} (hm:qb D B m.coef.v) (hq:∀ x∈q,qb D' B' x.coef.v) (ho:pqb (D*D') C o) (hD:D*D'≠0):pqb (D*D') (C+q.length*(B*B')) (prow m q o):=by
 induction q generalizing o C with
 | nil=>simpa [prow] using ho
 | cons x q ih =>
  have:=ih (fun y hy=>hq y (by simp [hy])) (z81 ho (ych hm (hq x (by simp))) hD (m.e.add x.e))
  intro e
  refine zhx (this e) ?_
  simp [Nat.add_mul]; omega
theorem z84 {D D' B B':Nat} {p q:List GMono} (hp:∀ x∈p,qb D B x.coef.v) (hq:∀ x∈q,qb D' B' x.coef.v) (hD:D*D'≠0):pqb (D*D') (p.length*(q.length*(B*B'))) (pmul p q):=by
 suffices ∀ o C,pqb (D*D') C o->pqb (D*D') (C+p.length*(q.length*(B*B'))) (p.foldl (fun o m=>prow m q o) o) by
  have:=this [] 0 (z82 _); rw [Nat.zero_add] at this; exact this
 induction p with
 | nil=>intro o C h; simpa using h
 | cons x p ih =>
  intro o C h
  have:=ih (fun y hy=>hp y (by simp [hy])) _ _ (z0h (hp x (by simp)) hq h hD)
  intro e
  refine zhx (this e) ?_
  simp [Nat.add_mul]; omega
theorem zvk {D B:Nat} {p:List GMono} (h:pqb D B p) (hp:PVal p):∀ x∈p,qb D B x.coef.v:=fun x hx=>by rw [<- zrt hp hx]; exact h _
theorem z9t (p q:List GMono) (D D' B B':Nat) (hp:PVal p) (hq:PVal q) (h1:pqb D B p) (h2:pqb D' B' q) (hD0:D≠0) (hD0':D'≠0) (hD:D*D'<4294967296^1048576)
  (hB:46656*(B*B')<4294967296^1048576) (hs:psm p 524288) (hs':psm q 524288) :
  Sp P F.kf [.sl (ens p),.sl (ens q)] (.pure (.sl (ens (pmul p q)))):=by
 have hpl:=zci hp
 have hql:=zci hq
 have c1:=zvk h1 hp
 have c2:=zvk h2 hq
 have hDD:D*D'≠0:=Nat.mul_ne_zero hD0 hD0'
 have hpr:∀ x∈p,∀ y∈q,(rto (x.coef.v*y.coef.v)).sm 1048576:=fun x hx y hy=>(zxf (hs x hx) (hs' y hy) (by omega)).mono (by omega)
 have hb:∀ i k,(h:i<p.length)->psm (prow p[i] (q.take k) (pmul (p.take i) q)) 1048576:=fun i k h=>by
  have h3:=z0h (m:=p[i]) (q:=q.take k) (c1 _ (List.getElem_mem h)) (fun x hx=>c2 x (List.mem_of_mem_take hx)) (z84 (p:=p.take i) (fun x hx=>c1 x (List.mem_of_mem_take hx)) c2 hDD) hDD
  refine zpi h3 (zph _ (zpj _ _)) hDD hD (Nat.lt_of_le_of_lt ?_ hB)
  have h4:(p.take i).length+1<=216:=by simp; omega
  have h5:(q.take k).length<=216:=by simp; omega
  generalize B*B'=C at *
  calc (p.take i).length*(q.length*C)+(q.take k).length*C<=(p.take i).length*(216*C)+1*(216*C):=Nat.add_le_add (Nat.mul_le_mul_left _ (Nat.mul_le_mul_right _ hql)) (by rw [Nat.one_mul]; exact Nat.mul_le_mul_right _ h5)
   _=((p.take i).length+1)*(216*C):=by rw [Nat.add_mul]
   _<=216*(216*C):=Nat.mul_le_mul_right _ h4
   _=46656*C:=by omega
 clear hD hB
 refine Sp.vz c.kf fun _=>?_
 simp [g.kf,go_sem]
 refine zaa (zhc p (hs.mono (by omega)) (by omega)) rfl ?_
 simp [go_sem]
 refine zaa (zhc q (hs'.mono (by omega)) (by omega)) rfl ?_
 simp [go_sem,zrq hp,zrq hq]
 refine zai (S:=fun i:Nat=>mkSt [(0,.p (.sl (ens p))),(1,.p (.sl (ens q))),(5,.p (.sl (ens (pmul (p.take i) q)))),(6,.p (.int .i64 i))] []) (I:=fun i=>i<=p.length) (m:=fun i=>p.length - i) 0
  ((Weak.freeze (t:=5) rfl).trans (Weak.to [0,1,5,6] [] (by simp [go_sem,pmul]))) (by omega) ?_
 rintro i h3 R hn hr hx
 have e1:=i64s i (by omega)
 simp [g.rg,mkSt,go_sem]
 refine ⟨fun hi=>?_,fun hi=>hx _ _ ?_⟩
 rotate_left
 ·have:i=p.length:=by omega
  subst this
  simp [go_sem]
 clear hx hr
 refine zai (S:=fun k:Nat=>mkSt [(0,.p (.sl (ens p))),(1,.p (.sl (ens q))),(5,.p (.sl (ens (prow p[i] (q.take k) (pmul (p.take i) q))))),(6,.p (.int .i64 i)),(7,.p (.int .i64 k))] []) (I:=fun k=>k<=q.length) (m:=fun k=>q.length - k) 0
  (Weak.to [0,1,5,6,7] [] (by simp [go_sem,prow])) (by omega) ?_
 rintro k h4 R2 hn2 hr2 hx2
 have e2:=i64s k (by omega)
 simp [g.rf,mkSt,go_sem]
 refine ⟨fun hk=>?_,fun hk=>hx2 _ _ ?_⟩
 rotate_left
 ·have:k=q.length:=by omega
  subst this
  simp [go_sem,e1]
  exact hn (i+1) _ (Weak.to [0,1,5,6] [] (by simp [go_sem,znh hi])) (by omega) (by omega)
 clear hx2 hr2 hn
 refine zae hi ?_
 refine zae hk ?_
 refine zaa (zt0 p[i].coef q[k].coef ((hs _ (List.getElem_mem hi)).mono (by omega)) ((hs' _ (List.getElem_mem hk)).mono (by omega))) rfl ?_
 simp [go_sem]
 have eok:∀ {e:Ex},e.ok=true->(-100<e.a/\e.a<100)/\(-100<e.b/\e.b<100) /\ -100<e.c/\e.c<100:=fun h=>by rw [Ex.ok_iff] at h; omega
 have o1:=eok (GMono.ok_iff.1 (hp i hi).1).1
 have o2:=eok (GMono.ok_iff.1 (hq k hk).1).1
 have ea:IntKind.i64.wrap (p[i].e.a+q[k].e.a)=p[i].e.a+q[k].e.a:=i64w (by omega) (by omega)
 have eb:IntKind.i64.wrap (p[i].e.b+q[k].e.b)=p[i].e.b+q[k].e.b:=i64w (by omega) (by omega)
 have ec:IntKind.i64.wrap (p[i].e.c+q[k].e.c)=p[i].e.c+q[k].e.c:=i64w (by omega) (by omega)
 refine zas fun R3 hn3 hr3 hx3=>?_
 simp [g.m9,go_sem]
 refine zae hi ?_
 refine zae hk ?_
 simp [go_sem,ea]
 refine hn3 _ ?_
 clear hn3 hx3 hr3
 refine zas fun R3 hn3 hr3 hx3=>?_
 simp [g.m9,go_sem]
 refine zae hi ?_
 refine zae hk ?_
 simp [go_sem,eb]
 refine hn3 _ ?_
 clear hn3 hx3 hr3
 refine zas fun R3 hn3 hr3 hx3=>?_
 simp [g.m9,go_sem]
 refine zae hi ?_
 refine zae hk ?_
 simp [go_sem,ec]
 refine hn3 _ ?_
 clear hn3 hx3 hr3
 refine zas fun R3 hn3 hr3 hx3=>?_
 simp [g.m9,go_sem]
 refine hx3 _ _ ?_
 clear hn3 hx3 hr3
 simp [go_sem]
 have hv:=zph (m:=p[i]) (q.take k) (zpj (p.take i) q)
 have hl:=zci hv
 refine zaa (z0g (prow p[i] (q.take k) (pmul (p.take i) q)) ⟨p[i].e.add q[k].e,rto (p[i].coef.v*q[k].coef.v)⟩ (hb i k hi) (by omega) (hpr _ (List.getElem_mem hi) _ (List.getElem_mem hk)) (zcd _)) rfl ?_
 simp [go_sem,e2]
 exact hn2 (k+1) _ (Weak.to [0,1,5,6,7] [] (by simp [go_sem,znf hk,ze8])) (by omega) (by omega)
end Go.Ab
namespace Go.Ab
open Enc (enc)
attribute [local go_sem] zam Opd.slots
theorem z4u (p q:List GMono) (hp:psm p 1048576) (hl:p.length<=1073741824):Sp P F.j0 [.sl (ens p),.sl (ens q)] (.pure (.bool (decide (p=q)))):=by
 refine Sp.vz c.j0 fun _=>?_
 simp [g.j0,go_sem]
 refine ⟨fun h=>?_,fun h=>fun he=>h (by rw [he])⟩
 have hlen:p.length=q.length:=by omega
 refine zai (S:=fun k:Nat=>mkSt [(0,.p (.sl (ens p))),(1,.p (.sl (ens q))),(5,.p (.int .i64 k))] []) (I:=fun k=>k<=p.length/\p.take k=q.take k) (m:=fun k=>p.length - k) 0
  (Weak.to [0,1,5] [] (by simp [go_sem])) ⟨by omega,by simp⟩ ?_
 rintro k ⟨h1,h2⟩ R hn hr hx
 have e1:=i64s k (by omega)
 simp [g.q6,mkSt,go_sem]
 refine ⟨fun hk=>?_,fun hk=>hx _ _ ?_⟩
 ·have hk2:k<q.length:=by omega
  have bad:p[k]≠q[k]->p≠q:=fun h h'=>by subst h'; exact h rfl
  refine zae hk ?_
  refine zae hk2 ?_
  refine ⟨fun h3=>hr _ ?_,fun h3 h4 h5=>?_⟩
  ·have:p≠q:=bad fun h=>by rw [h] at h3; simp at h3
   simp [this,go_sem]
  refine zae hk ?_
  refine zae hk2 ?_
  refine zaa (zch p[k].coef q[k].coef ((hp _ (List.getElem_mem hk)).mono (by omega))) rfl ?_
  by_cases h6:p[k].coef=q[k].coef
  ·simp [h6,e1,go_sem]
   have h7:p[k]=q[k]:=by
    have:p[k].e=q[k].e:=by
     generalize p[k].e=x at *; generalize q[k].e=y at *; cases x; cases y; simp at h3 h4 h5; simp [h3,h4,h5]
    generalize p[k]=x at *; generalize q[k]=y at *; cases x; cases y; simp at this h6; simp [this,h6]
   exact hn (k+1) _ (Weak.to [0,1,5] [] (by simp [go_sem])) ⟨by omega,by rw [List.take_succ_eq_append_getElem hk,List.take_succ_eq_append_getElem hk2,h2,h7]⟩ (by omega)
  ·have h8:p≠q:=bad fun h=>h6 (by rw [h])
   simp [h6,go_sem]
   exact hr _ (by simp [h8,go_sem])
 ·have h3:p=q:=by rw [<- List.take_length (l:=p),<- List.take_length (l:=q),<- hlen,show p.length=k by omega]; exact h2
  simp [h3,go_sem]
end Go.Ab
namespace Go.Ab
open Enc (enc)
attribute [local go_sem] zam Opd.slots
inductive GW where
 | mk (q:GRat) (cost:Int) (inf:Bool) (set:UInt64) (poly:List GMono) (parts:List GW)
namespace GW
def q:GW->GRat|mk q _ _ _ _ _=>q
def cost:GW->Int|mk _ c _ _ _ _=>c
def inf:GW->Bool|mk _ _ i _ _ _=>i
def set:GW->UInt64|mk _ _ _ s _ _=>s
def poly:GW->List GMono|mk _ _ _ _ p _=>p
def parts:GW->List GW|mk _ _ _ _ _ ps=>ps
mutual
def en:GW->PV
 | mk q c i s p ps=>.agg [.bool q.neg,.sl (ens q.num),.sl (ens q.den),.int .i64 c,.bool i,.int .u64 s.toNat,.sl (ens p),.sl (ensW ps)]
def ensW:List GW->List PV
 | []=>[]
 | w::ps=>en w::ensW ps
end
end GW
instance:Enc GW:=⟨GW.en,8,by decide,fun w=>by cases w; simp [GW.en]; rfl⟩
theorem yac (ps:List GW):GW.ensW ps=ens ps:=by
 induction ps with
 | nil=>simp [GW.ensW,ens]
 | cons w ps ih=>simp [GW.ensW,ens,ih]; rfl
@[go_sem] theorem yhn (w:GW):enc w=.agg [.bool w.q.neg,.sl (ens w.q.num),.sl (ens w.q.den),.int .i64 w.cost,.bool w.inf,.int .u64 w.set.toNat,.sl (ens w.poly),.sl (ens w.parts)]:=by
 cases w; show GW.en _=_; simp [GW.en,yac]; simp [GW.q,GW.cost,GW.inf,GW.set,GW.poly,GW.parts]
@[go_sem] theorem ygh:Enc.sz GW=8:=rfl
theorem GW.ext {v w:GW} (h1:v.q=w.q) (h2:v.cost=w.cost) (h3:v.inf=w.inf) (h4:v.set=w.set) (h5:v.poly=w.poly) (h6:v.parts=w.parts):v=w:=by
 cases v; cases w; simp [GW.q,GW.cost,GW.inf,GW.set,GW.poly,GW.parts] at *; simp [*]
noncomputable instance:DecidableEq GW:=fun _ _=>Classical.propDecidable _
structure GRing where
 kind:Int
 parts:List Int
 deriving DecidableEq
instance:Enc GRing:=⟨fun r=>.agg [.int .i64 r.kind,.sl (ens r.parts)],2,by decide,fun _=>rfl⟩
@[go_sem] theorem yeh (r:GRing):enc r=.agg [.int .i64 r.kind,.sl (ens r.parts)]:=rfl
@[go_sem] theorem ya8:Enc.sz GRing=2:=rfl
def GRing.ok (r:GRing):Bool:=if r.kind=6 then decide (2<=r.parts.length/\r.parts.length<=3/\∀ k∈r.parts,1<=k/\k<=5) else decide (1<=r.kind/\r.kind<=5/\r.parts=[])
theorem zbd (r:GRing):Sp P F.be [enc r] (.pure (.bool r.ok)):=by
 refine Sp.vz c.be fun _=>?_
 simp [g.be,go_sem]
 refine ⟨fun h6=>⟨fun h=>?_,fun h=>⟨fun h2=>?_,fun h2=>?_⟩⟩,fun h6=>⟨fun h=>⟨fun h2=>?_,fun h2=>?_⟩,fun h=>?_⟩⟩
 ·simp [GRing.ok,h6]; intro h'; omega
 ·simp [GRing.ok,h6]; intro h' h''; omega
 rotate_left
 ·simp [GRing.ok,h6,h,h2]
 ·simp [GRing.ok,h6]; intro h'; omega
 ·simp [GRing.ok,h6]; intro h'; omega
 refine zai (S:=fun k:Nat=>mkSt [(1,.ptr 1 0 0 0),(3,.p (.int .i64 k))] [(1,⟨2,[.p (enc r)]⟩)]) (I:=fun k=>k<=r.parts.length/\∀ i,(h:i<r.parts.length)->i<k->1<=r.parts[i]/\r.parts[i]<=5) (m:=fun k=>r.parts.length - k) 0
  (Weak.to [1,3] [((1,0),1)] (by simp [go_sem])) ⟨by omega,fun i h h0=>by omega⟩ ?_
 rintro k ⟨h3,h4⟩ R hn hr hx
 have e1:=i64s k (by omega)
 simp [g.qk,mkSt,go_sem]
 refine ⟨fun hk=>?_,fun hk=>hx _ _ ?_⟩
 ·have bad:¬ (1<=r.parts[k]/\r.parts[k]<=5)->r.ok=false:=fun hb=>by
   simp only [GRing.ok,if_pos h6,decide_eq_false_iff_not]
   exact fun h'=>hb (h'.2.2 _ (List.getElem_mem hk))
  refine zae hk ?_
  refine ⟨fun h5=>hr _ ?_,fun h5=>?_⟩
  ·simp [bad (by omega),go_sem]
  refine zae hk ?_
  simp [e1,go_sem]
  refine ⟨fun h7=>hr _ ?_,fun h7=>hn (k+1) _ (Weak.to [1,3] [((1,0),1)] (by simp [go_sem])) ⟨by omega,fun i h hi=>?_⟩ (by omega)⟩
  ·simp [bad (by omega),go_sem]
  ·by_cases hik:i<k
   ·exact h4 i h hik
   ·have:i=k:=by omega
    subst this; omega
 ·have:r.ok=true:=by
   simp only [GRing.ok,if_pos h6,decide_eq_true_eq]
   refine ⟨by omega,by omega,fun x hx=>?_⟩
   obtain ⟨i,hi,rfl⟩:=List.getElem_of_mem hx
   exact h4 i hi (by omega)
  simp [this,go_sem]
inductive GW.sm (n:Nat):GW->Prop
 | mk {q:GRat} {c:Int} {i:Bool} {s:UInt64} {p:List GMono} {ps:List GW}:q.sm n->psm p n->p.length<=n->ps.length<=n->(∀ w∈ps,GW.sm n w)->GW.sm n (.mk q c i s p ps)
theorem GW.sm.q {n:Nat} {w:GW} (h:w.sm n):w.q.sm n:=by cases h; assumption
theorem GW.sm.poly {n:Nat} {w:GW} (h:w.sm n):psm w.poly n:=by cases h; assumption
theorem GW.sm.len {n:Nat} {w:GW} (h:w.sm n):w.poly.length<=n:=by cases h; assumption
theorem GW.sm.plen {n:Nat} {w:GW} (h:w.sm n):w.parts.length<=n:=by cases h; assumption
theorem GW.sm.parts {n:Nat} {w:GW} (h:w.sm n):∀ x∈w.parts,x.sm n:=by cases h; assumption
theorem GW.sm.ind {n:Nat} {M:GW->Prop} (h:∀ v,v.sm n->(∀ w∈v.parts,M w)->M v):∀ v,v.sm n->M v:=by
 intro v hv
 induction hv with|@mk q c i s p ps hq hp hpl hps hw ih=>exact h _ (.mk hq hp hpl hps hw) ih
theorem zsj (v:GW) (hv:v.sm 1048576):∀ w:GW,Sp P F.dt [enc v,enc w] (.pure (.bool (decide (v=w)))):=by
 revert v
 refine GW.sm.ind fun v hv ih w=>?_
 refine Sp.vz c.dt fun hok=>?_
 simp [g.dt,go_sem]
 refine zaa (zch v.q w.q (hv.q.mono (by omega))) rfl ?_
 simp [go_sem]
 refine ⟨fun h1=>⟨fun h2=>⟨fun h3=>⟨fun h4=>?_,fun h4 h=>h4 (by rw [h])⟩,fun h3 h=>h3 (by rw [h])⟩,fun h2 h=>h2 (by rw [h])⟩,fun h1 h=>h1 (by rw [h])⟩
 have h4:v.set=w.set:=UInt64.toNat_inj.1 (by omega)
 refine zaa (z4u v.poly w.poly hv.poly (by have:=hv.len; omega)) rfl ?_
 simp [go_sem]
 refine ⟨fun h5=>⟨fun h6=>?_,fun h6 h=>h6 (by rw [h])⟩,fun h5 h=>h5 (by rw [h])⟩
 have hlen:v.parts.length=w.parts.length:=by omega
 have hmax:=hv.plen
 refine zai (S:=fun k:Nat=>mkSt [(2,.ptr 1 0 0 0),(3,.ptr 2 0 0 0),(5,.p (.int .i64 k))] [(1,⟨8,[.p (enc v)]⟩),(2,⟨8,[.p (enc w)]⟩)]) (I:=fun k=>k<=v.parts.length/\v.parts.take k=w.parts.take k) (m:=fun k=>v.parts.length - k) 0
  (Weak.to [2,3,5] [((2,0),1),((3,0),2)] (by simp [go_sem])) ⟨by omega,by simp⟩ ?_
 rintro k ⟨h7,h8⟩ R hn hr hx
 have e1:=i64s k (by omega)
 simp [g.qi,mkSt,go_sem]
 refine ⟨fun hk=>?_,fun hk=>hx _ _ ?_⟩
 ·have hk2:k<w.parts.length:=by omega
  refine zae hk ?_
  refine zae hk2 ?_
  refine zaa (ih _ (List.getElem_mem hk) w.parts[k]) ?_ ?_
  ·simp [go_sem]
  simp [e1,go_sem]
  refine ⟨fun h9=>?_,fun h9=>?_⟩
  ·exact hn (k+1) _ (Weak.to [2,3,5] [((1,0),1),((2,0),2)] (by simp [go_sem])) ⟨by omega,by rw [List.take_succ_eq_append_getElem hk,List.take_succ_eq_append_getElem hk2,h8,h9]⟩ (by omega)
  ·refine hr _ ?_
   have:v≠w:=fun h=>h9 (by subst h; rfl)
   simp [this,go_sem]
 ·have h9:v=w:=by
   refine GW.ext h1 h2 h3 h4 h5 ?_
   rw [<- List.take_length (l:=v.parts),<- List.take_length (l:=w.parts),<- hlen,show v.parts.length=k by omega]; exact h8
  simp [h9,go_sem]
theorem zk1 (r:GRing) (i:Nat) (h:i<r.parts.length):Sp P F.bu [enc r,.int .i64 i] (.pure (enc (⟨r.parts[i],[]⟩:GRing))):=by
 refine Sp.vz c.bu fun _=>?_
 simp [g.bu,go_sem]
 refine zae h ?_
 simp [go_sem]
end Go.Ab
namespace Go.Ab
section
variable {α : Type} (key : α -> List Int) (up : α -> α -> α) (nw : α -> α)
def mst (out:List α) (y : α):List α :=
 match out with
 | []=>[nw y]
 | [z]=>if key z=key y then [up z y] else [z,nw y]
 | z::r=>z::mst r y
def mrg (l:List α):List α := l.foldl (mst key up nw) []
def insR (s:List α) (x : α):List α :=
 match s with
 | []=>[x]
 | z::r=>if key x<key z then x::z::r else z::insR r x
def insF (out:List α) (x : α):List α :=
 match out with
 | []=>[nw x]
 | z::r=>if key z<key x then z::insF r x else if key z=key x then up z x::r else nw x::z::r
def srt (l:List α):List α := l.foldl (insR key) []
def nfm (l:List α):List α := l.foldl (insF key up nw) []
variable {key up nw} (hup:∀ a b,key (up a b)=key a) (hnw:∀ a,key (nw a)=key a)
theorem zp4 (a b:List Int):a<b\/a=b\/b<a:=by
 by_cases h:a<b
 ·exact .inl h
 ·by_cases h2:b<a
  ·exact .inr (.inr h2)
  ·exact .inr (.inl (List.le_antisymm (List.not_lt.1 h2) (List.not_lt.1 h)))
theorem z10 {a b c:List Int} (h:¬ b<a) (k:b<c):a<c:=by
 rcases zp4 a b with h1|h1|h1
 ·exact List.lt_trans h1 k
 ·rw [h1]; exact k
 ·exact absurd h1 h
theorem zmf {a b c:List Int} (h:a<b) (k:¬ c<b):a<c:=by
 rcases zp4 b c with h1|h1|h1
 ·exact List.lt_trans h h1
 ·rw [<- h1]; exact h
 ·exact absurd h1 k
theorem yc0 (out:List α) (y : α):mst key up nw out y≠[]:=by
 match out with
 | []=>simp [mst]
 | [z]=>simp only [mst]; split<;>simp
 | z::w::r=>simp [mst]
theorem zl3 (z : α) {r:List α} (y : α) (h:r≠[]):mst key up nw (z::r) y=z::mst key up nw r y:=by
 match r with
 | []=>exact absurd rfl h
 | w::r=>rfl
theorem zpt (o:List α) {r:List α} (y : α) (h:r≠[]):mst key up nw (o++r) y=o++mst key up nw r y:=by
 induction o with
 | nil=>rfl
 | cons z o ih=>rw [List.cons_append,zl3 z y (by simp [h]),ih]; rfl
theorem zws (o:List α):∀ (l:List α) {r:List α},r≠[]->l.foldl (mst key up nw) (o++r)=o++l.foldl (mst key up nw) r
 | [],r,_=>rfl
 | y::l,r,h=>by
  simp only [List.foldl_cons]
  rw [zpt o y h]
  exact zws o l (yc0 r y)
include hup hnw in
theorem zps (out:List α) (y : α):∃ o z,mst key up nw out y=o++[z]/\key z=key y:=by
 match out with
 | []=>exact ⟨[],nw y,rfl,hnw y⟩
 | [z] =>
  simp only [mst]
  split
  ·rename_i h; exact ⟨[],up z y,rfl,by rw [hup,h]⟩
  ·exact ⟨[z],nw y,rfl,hnw y⟩
 | z::w::r =>
  obtain ⟨o,u,h1,h2⟩:=zps (w::r) y
  exact ⟨z::o,u,by rw [zl3 z y (by simp),h1]; rfl,h2⟩
theorem zpr {o:List α} {z y : α} (h:key z≠key y):mst key up nw (o++[z]) y=o++[z,nw y]:=by
 rw [zpt o y (by simp)]; simp [mst,h]
theorem zt1 {o:List α} {z y : α} (h:key z=key y):mst key up nw (o++[z]) y=o++[up z y]:=by
 rw [zpt o y (by simp)]; simp [mst,h]
theorem zwr {o:List α} {z : α} {B:List α} (h:∀ b∈B,key z≠key b):B.foldl (mst key up nw) (o++[z])=o++[z]++mrg key up nw B:=by
 cases B with
 | nil=>simp [mrg]
 | cons b B =>
  simp only [List.foldl_cons,mrg]
  rw [zpr (h b (by simp))]
  have:o++[z,nw b]=(o++[z])++[nw b]:=by simp
  rw [this,zws (o++[z]) B (by simp)]
  rfl
def Srt (key : α -> List Int) (l:List α):Prop:=l.Pairwise fun a b=>¬ key b<key a
def SSrt (key : α -> List Int) (l:List α):Prop:=l.Pairwise fun a b=>key a<key b
theorem zv3 (l:List α) (y : α):mrg key up nw (l++[y])=mst key up nw (mrg key up nw l) y:=by simp [mrg,List.foldl_append]
include hup hnw in
theorem zhf:∀ (n:Nat) (l:List α),l.length=n->Srt key l->SSrt key (mrg key up nw l)/\(∀ z∈mrg key up nw l,∃ y∈l,key z=key y)/\(l=[]\/∃ o z o' y,mrg key up nw l=o++[z]/\l=o'++[y]/\key z=key y)
 | 0,l,hl,_=>by
  have:l=[]:=List.eq_nil_of_length_eq_zero hl
  subst this
  exact ⟨by simp [mrg,SSrt],by simp [mrg],.inl rfl⟩
 | n+1,l,hl,hs=>by
  obtain ⟨l',y,rfl⟩:∃ l' y,l=l'++[y]:=⟨l.dropLast,l.getLast (by intro h; simp [h] at hl),(List.dropLast_concat_getLast _).symm⟩
  have hl':l'.length=n:=by simpa using hl
  have hs':Srt key l':=(List.pairwise_append.1 hs).1
  have hle:∀ a∈l',¬ key y<key a:=fun a ha=>(List.pairwise_append.1 hs).2.2 a ha y (by simp)
  obtain ⟨i1,i2,i3⟩:=zhf n l' hl' hs'
  rw [zv3]
  obtain ⟨o,u,e1,e2⟩:=zps hup hnw (mrg key up nw l') y
  refine ⟨?_,?_,.inr ⟨o,u,l',y,e1,rfl,e2⟩⟩
  ·rcases i3 with rfl|⟨o1,z,o',y',f1,f2,f3⟩
   ·simp [mrg,mst,SSrt]
   ·rw [f1] at i1 ⊢
    have g:=List.pairwise_append.1 i1
    by_cases hk:key z=key y
    ·rw [zt1 hk]
     refine List.pairwise_append.2 ⟨g.1,by simp,fun a ha b hb=>?_⟩
     simp only [List.mem_singleton] at hb; subst hb
     rw [hup]; exact g.2.2 a ha z (by simp)
    ·rw [zpr hk]
     have hzy:key z<key y:=by
      rcases zp4 (key z) (key y) with h|h|h
      ·exact h
      ·exact absurd h hk
      ·rw [f3] at h; exact absurd h (hle y' (by rw [f2]; simp))
     refine List.pairwise_append.2 ⟨g.1,by simp [hnw,hzy],fun a ha b hb=>?_⟩
     have haz:=g.2.2 a ha z (by simp)
     simp only [List.mem_cons,List.not_mem_nil,or_false] at hb
     rcases hb with rfl|rfl
     ·exact haz
     ·rw [hnw]; exact List.lt_trans haz hzy
  ·intro z hz
   rcases i3 with rfl|⟨o1,z1,o',y',f1,f2,f3⟩
   ·simp [mrg,mst] at hz; subst hz; exact ⟨y,by simp,hnw y⟩
   ·rw [f1] at hz
    by_cases hk:key z1=key y
    ·rw [zt1 hk] at hz
     rcases List.mem_append.1 hz with h|h
     ·obtain ⟨q,q1,q2⟩:=i2 z (by rw [f1]; simp [h])
      exact ⟨q,by simp [q1],q2⟩
     ·simp at h; subst h; exact ⟨y,by simp,by rw [hup,hk]⟩
    ·rw [zpr hk] at hz
     simp only [List.mem_append,List.mem_cons,List.not_mem_nil,or_false] at hz
     rcases hz with h|rfl|rfl
     ·obtain ⟨q,q1,q2⟩:=i2 z (by rw [f1]; simp [h])
      exact ⟨q,by simp [q1],q2⟩
     ·obtain ⟨q,q1,q2⟩:=i2 z (by rw [f1]; simp)
      exact ⟨q,by simp [q1],q2⟩
     ·exact ⟨y,by simp,hnw y⟩
include hnw in
theorem zqa {x : α} {B:List α} (hB:∀ b∈B,key x<key b):∀ (A:List α),SSrt key A->(∀ a∈A,¬ key x<key a)->insF key up nw (A++B) x=mst key up nw A x++B
 | [],_,_=>by
  cases B with
  | nil=>rfl
  | cons b B =>
   have h:=hB b (by simp)
   have h1:¬ key b<key x:=List.lt_asymm h
   have h2:key b≠key x:=fun e=>by rw [e] at h; exact List.lt_irrefl _ h
   simp [insF,mst,h1,h2]
 | [z],hs,hle=>by
  rcases zp4 (key z) (key x) with h|h|h
  ·have hne:key z≠key x:=fun e=>by rw [e] at h; exact List.lt_irrefl _ h
   have:=zqa hB [] (by simp [SSrt]) (by simp)
   simp only [List.nil_append,mst] at this
   simp [insF,mst,h,hne,this]
  ·have h2:¬ key x<key x:=List.lt_irrefl _
   simp [insF,mst,h,h2]
  ·exact absurd h (hle z (by simp))
 | z::w::r,hs,hle=>by
  have hs2:=List.pairwise_cons.1 hs
  have hzx:key z<key x:=zmf (hs2.1 w (by simp)) (hle w (by simp))
  have ih:=zqa hB (w::r) hs2.2 (fun a ha=>hle a (by simp [ha]))
  rw [zl3 z x (by simp)]
  simp only [List.cons_append,insF,hzx,if_true] at ih ⊢
  rw [<- ih]
theorem zjv (x : α):∀ (s:List α),Srt key s->∃ A B,s=A++B/\insR key s x=A++x::B/\(∀ a∈A,¬ key x<key a)/\(∀ b∈B,key x<key b)
 | [],_=>⟨[],[],rfl,rfl,by simp,by simp⟩
 | z::r,hs=>by
  have hs2:=List.pairwise_cons.1 hs
  by_cases h:key x<key z
  ·refine ⟨[],z::r,rfl,by simp [insR,h],by simp,fun b hb=>?_⟩
   rcases List.mem_cons.1 hb with rfl|hb
   ·exact h
   ·exact zmf h (hs2.1 b hb)
  ·obtain ⟨A,B,h1,h2,h3,h4⟩:=zjv x r hs2.2
   exact ⟨z::A,B,by rw [h1]; rfl,by simp [insR,h,h2],fun a ha=>by
    rcases List.mem_cons.1 ha with rfl|ha
    ·exact h
    ·exact h3 a ha,h4⟩
theorem zmh {x : α} {s:List α} (hs:Srt key s):Srt key (insR key s x):=by
 obtain ⟨A,B,h1,h2,h3,h4⟩:=zjv x s hs
 rw [h2]
 rw [h1] at hs
 have g:=List.pairwise_append.1 hs
 refine List.pairwise_append.2 ⟨g.1,List.pairwise_cons.2 ⟨fun b hb=>List.lt_asymm (h4 b hb),g.2.1⟩,fun a ha b hb=>?_⟩
 rcases List.mem_cons.1 hb with rfl|hb
 ·exact h3 a ha
 ·exact g.2.2 a ha b hb
include hup hnw in
theorem z5q {x : α} {s:List α} (hs:Srt key s):mrg key up nw (insR key s x)=insF key up nw (mrg key up nw s) x:=by
 obtain ⟨A,B,h1,h2,h3,h4⟩:=zjv x s hs
 subst h1
 have g:=List.pairwise_append.1 hs
 obtain ⟨a1,a2,a3⟩:=zhf hup hnw A.length A rfl g.1
 obtain ⟨b1,b2,b3⟩:=zhf hup hnw B.length B rfl g.2.1
 have hBk:∀ b∈mrg key up nw B,key x<key b:=fun b hb=>by
  obtain ⟨y,y1,y2⟩:=b2 b hb
  rw [y2]; exact h4 y y1
 have e1:mrg key up nw (A++B)=mrg key up nw A++mrg key up nw B:=by
  rcases a3 with rfl|⟨o,z,o',y,f1,f2,f3⟩
  ·simp [mrg]
  ·have:mrg key up nw (A++B)=B.foldl (mst key up nw) (mrg key up nw A):=by simp [mrg,List.foldl_append]
   rw [this,f1]
   refine zwr fun b hb=>?_
   have hlt:key z<key b:=by rw [f3]; exact z10 (h3 y (by rw [f2]; simp)) (h4 b hb)
   intro e; rw [e] at hlt; exact List.lt_irrefl _ hlt
 have e2:mrg key up nw (A++x::B)=mst key up nw (mrg key up nw A) x++mrg key up nw B:=by
  have:mrg key up nw (A++x::B)=B.foldl (mst key up nw) (mst key up nw (mrg key up nw A) x):=by simp [mrg,List.foldl_append]
  rw [this]
  obtain ⟨o,u,f1,f2⟩:=zps hup hnw (mrg key up nw A) x
  rw [f1]
  refine zwr fun b hb=>?_
  intro e; have:=h4 b hb; rw [<- f2,e] at this; exact List.lt_irrefl _ this
 rw [h2,e1,e2]
 exact (zqa hnw hBk _ a1 (fun a ha=>by
  obtain ⟨y,y1,y2⟩:=a2 a ha
  rw [y2]; exact h3 y y1)).symm
include hup hnw in
theorem z1e (l:List α):mrg key up nw (srt key l)=nfm key up nw l/\Srt key (srt key l):=by
 have key':∀ (l s:List α),Srt key s->mrg key up nw (l.foldl (insR key) s)=l.foldl (insF key up nw) (mrg key up nw s)/\Srt key (l.foldl (insR key) s):=by
  intro l
  induction l with
  | nil=>intro s hs; exact ⟨rfl,hs⟩
  | cons x l ih =>
   intro s hs
   simp only [List.foldl_cons]
   rw [<- z5q hup hnw hs]
   exact ih _ (zmh hs)
 exact key' l [] (by simp [Srt])
end
end Go.Ab
namespace Go.Ab
def lexI:List Int->List Int->Int
 | x::xs,y::ys=>if x<y then -1 else if y<x then 1 else lexI xs ys
 | _,_=>0
theorem zt5:∀ {a b:List Int},a.length=b.length->(lexI a b<0 ↔ a<b)
 | [],[],_=>by simp [lexI]
 | x::xs,y::ys,h=>by
  have ih:=zt5 (a:=xs) (b:=ys) (by simpa using h)
  simp only [lexI,List.cons_lt_cons_iff]
  by_cases h1:x<y
  ·simp [h1]
  ·by_cases h2:y<x
   ·simp [h1,h2]; omega
   ·have:x=y:=by omega
    subst this; simp [ih]
theorem zt6:∀ {a b:List Int},a.length=b.length->(lexI a b=0 ↔ a=b)
 | [],[],_=>by simp [lexI]
 | x::xs,y::ys,h=>by
  have ih:=zt6 (a:=xs) (b:=ys) (by simpa using h)
  simp only [lexI,List.cons.injEq]
  by_cases h1:x<y
  ·simp [h1]; omega
  ·by_cases h2:y<x
   ·simp [h1,h2]; omega
   ·have:x=y:=by omega
    subst this; simp [ih]
def cmpI (x y:Int):Int:=if x<y then -1 else if y<x then 1 else 0
end Go.Ab
namespace Go.Ab
open Enc (enc)
structure GArc where
 f:Int
 l:Int
 t:Int
 w:GW
structure GTArc where
 f:Int
 i:Int
 o:Int
 t:Int
 w:GW
def GW.cl (w:GW):List PV:=[.bool w.q.neg,.sl (ens w.q.num),.sl (ens w.q.den),.int .i64 w.cost,.bool w.inf,.int .u64 w.set.toNat,.sl (ens w.poly),.sl (ens w.parts)]
instance:Enc GArc:=⟨fun x=>.agg ([.int .i64 x.f,.int .i64 x.l,.int .i64 x.t]++x.w.cl),11,by decide,fun _=>rfl⟩
instance:Enc GTArc:=⟨fun x=>.agg ([.int .i64 x.f,.int .i64 x.i,.int .i64 x.o,.int .i64 x.t]++x.w.cl),12,by decide,fun _=>rfl⟩
@[go_sem] theorem ygl (x:GArc):enc x=.agg [.int .i64 x.f,.int .i64 x.l,.int .i64 x.t,.bool x.w.q.neg,.sl (ens x.w.q.num),.sl (ens x.w.q.den),.int .i64 x.w.cost,.bool x.w.inf,.int .u64 x.w.set.toNat,.sl (ens x.w.poly),.sl (ens x.w.parts)]:=rfl
@[go_sem] theorem yeg (x:GTArc):enc x=.agg [.int .i64 x.f,.int .i64 x.i,.int .i64 x.o,.int .i64 x.t,.bool x.w.q.neg,.sl (ens x.w.q.num),.sl (ens x.w.q.den),.int .i64 x.w.cost,.bool x.w.inf,.int .u64 x.w.set.toNat,.sl (ens x.w.poly),.sl (ens x.w.parts)]:=rfl
@[go_sem] theorem yc9:Enc.sz GArc=11:=rfl
@[go_sem] theorem ya7:Enc.sz GTArc=12:=rfl
structure GAuto where
 ring:GRing
 sy:Int
 st:Int
 ini:List GW
 fin:List GW
 arcs:List GArc
structure GTrans where
 ring:GRing
 i:Int
 o:Int
 st:Int
 ini:List GW
 fin:List GW
 arcs:List GTArc
instance:Enc GAuto:=⟨fun x=>.agg [.int .i64 x.ring.kind,.sl (ens x.ring.parts),.int .i64 x.sy,.int .i64 x.st,.sl (ens x.ini),.sl (ens x.fin),.sl (ens x.arcs)],7,by decide,fun _=>rfl⟩
instance:Enc GTrans:=⟨fun x=>.agg [.int .i64 x.ring.kind,.sl (ens x.ring.parts),.int .i64 x.i,.int .i64 x.o,.int .i64 x.st,.sl (ens x.ini),.sl (ens x.fin),.sl (ens x.arcs)],8,by decide,fun _=>rfl⟩
@[go_sem] theorem yem (x:GAuto):enc x=.agg [.int .i64 x.ring.kind,.sl (ens x.ring.parts),.int .i64 x.sy,.int .i64 x.st,.sl (ens x.ini),.sl (ens x.fin),.sl (ens x.arcs)]:=rfl
@[go_sem] theorem yda (x:GTrans):enc x=.agg [.int .i64 x.ring.kind,.sl (ens x.ring.parts),.int .i64 x.i,.int .i64 x.o,.int .i64 x.st,.sl (ens x.ini),.sl (ens x.fin),.sl (ens x.arcs)]:=rfl
@[go_sem] theorem ybe:Enc.sz GAuto=7:=rfl
@[go_sem] theorem yad:Enc.sz GTrans=8:=rfl
def GArc.key (x:GArc):List Int:=[x.f,x.l,x.t]
end Go.Ab
