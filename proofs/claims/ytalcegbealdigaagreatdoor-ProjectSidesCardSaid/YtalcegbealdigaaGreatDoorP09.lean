/-
Proofs for the law ProjectSides of the seat, part 9 (texts Fw27). Conditions: none.
-/
import Derived.Test.YtalcegbealdigaaGreatDoorP08
set_option maxRecDepth 100000
set_option maxHeartbeats 4000000
set_option linter.all false
namespace Go.Ab
inductive GC where
 | nop
 | reg (ops : List Ins) (dead : List (List Nat))
 | regD (ops : List Ins) (pre : List (List Nat)) (dead : List (List Nat))
 | seq (a b : GC)
 | cond (c : Opd) (dead : List Nat) (a b : GC)
 | blk (id : Nat) (b : GC)
 | loop (b : GC)
 | ext (id : Nat)
 | ret
 | bad
 | cut (b : GC)
def GC.er : GC -> AC
 | .nop => .nop
 | .reg is _ => .reg is
 | .regD is pre _ => .regD is pre
 | .seq a b => .seq a.er b.er
 | .cond c _ a b => .cond c a.er b.er
 | .blk id b => .blk id b.er
 | .loop b => .loop b.er
 | .ext id => .ext id
 | .ret => .ret
 | .bad => .bad
 | .cut b => b.er
inductive Kt where
 | ins (is : List Ins) (dead : List (List Nat))
 | insD (is : List Ins) (fs : List FP) (pre : List (List Nat)) (dead : List (List Nat))
 | code (b : GC)
 | blk (id : Nat)
def GC.sz : GC -> Nat
 | .reg is _ => is.length + 2
 | .regD is _ _ => is.length + 2
 | .seq a b => a.sz + b.sz + 1
 | .cond _ _ a b => a.sz + b.sz + 1
 | .blk _ b => b.sz + 2
 | .cut b => b.sz + 1
 | _ => 1
def Kt.sz : Kt -> Nat
 | .ins is _ => is.length + 1
 | .insD is _ _ _ => is.length + 1
 | .code b => b.sz
 | .blk _ => 1
def szK : List Kt -> Nat
 | [] => 0
 | k :: ks => k.sz + szK ks
theorem GC.sz_pos (b : GC) : 0 < b.sz := by cases b <;> simp [GC.sz]
theorem Kt.sz_pos (k : Kt) : 0 < k.sz := by cases k <;> simp [Kt.sz, GC.sz_pos]
def unwind (id : Nat) : List Kt -> Option (List Kt)
 | [] => none
 | .blk j :: ks => if j = id then some ks else unwind id ks
 | _ :: ks => unwind id ks
theorem unwind_sz {id : Nat} : ∀ {ks r : List Kt}, unwind id ks = some r -> szK r < szK ks
 | .blk j :: ks, r, h => by
  simp only [unwind] at h
  simp only [szK, Kt.sz]
  split at h
  ·cases h; omega
  ·have := unwind_sz h; omega
 | .ins _ _ :: ks, r, h => by have := unwind_sz (ks := ks) h; simp only [szK, Kt.sz]; omega
 | .insD _ _ _ _ :: ks, r, h => by have := unwind_sz (ks := ks) h; simp only [szK, Kt.sz]; omega
 | .code _ :: ks, r, h => by have := unwind_sz (ks := ks) h; simp only [szK, Kt.sz]; omega
def rep : List (Nat × AV) -> Nat -> AV -> List (Nat × AV)
 | [], t, v => [(t, v)]
 | (k, w) :: r, t, v => if k = t then (t, v) :: r else (k, w) :: rep r t v
def St.rep (st : St) (d : Option Nat) (v : AV) : St :=
 match d with
 | some t => ⟨Ab.rep st.sl t v, st.hp⟩
 | none => st
def dropSl (dead : List Nat) : List (Nat × AV) -> List (Nat × AV)
 | [] => []
 | (k, w) :: r => if dead.elem k then dropSl dead r else (k, w) :: dropSl dead r
def St.drop (st : St) (dead : List Nat) : St := ⟨dropSl dead st.sl, st.hp⟩
def St.dropI (st : St) : List (List Nat) -> St
 | [] :: _ => st
 | (a :: l) :: _ => st.drop (a :: l)
 | [] => st
def callP (P : Program) (st : St) (d : Nat) (f : FuncId) (vs : List AV) (K : PCall -> AV -> St -> Prop) : Prop :=
 ∃ c : PCall, c.ok P ∧ ∃ v s, callWith (some c) st d f vs = some (v, s) ∧ K c v s
def callvP (P : Program) (st : St) (d : Nat) (f : AV) (vs : List AV) (K : PCall -> AV -> St -> Prop) : Prop :=
 match f with
 | .p (.fn f caps) => callP P st d f (vs ++ caps.map .p) K
 | .fn f caps => callP P st d f (vs ++ caps) K
 | _ => False
def opnP (P : Program) (st : St) (d : Nat) (op : IOp) (K : Option PCall -> AV -> St -> Prop) : Prop :=
 match op with
 | .call f args => callP P st d f (args.map st.ev) fun c => K (some c)
 | .callv x args => callvP P st d (st.ev x) (args.map st.ev) fun c => K (some c)
 | op => runO (K none) (oc st d op)
def guardP (st : St) (g : Option (Nat × Bool)) (K : St -> Prop) (J : St -> Prop) : Prop :=
 match g with
 | none => K st
 | some (t, b) => match st.get t with
  | .p (.bool c) => (c = b -> K (st.rep (some t) (.p (.bool b)))) ∧ (c = (!b) -> J (st.rep (some t) (.p (.bool !b))))
  | .skip => J st
  | _ => False
def condP : AV -> Prop -> Prop -> Prop
 | .p (.bool t), A, B => (t = true -> A) ∧ (t = false -> B)
 | _, _, _ => False
def semX (P : Program) (N : Nat) (Q : Exit -> St -> Prop) : List Kt -> Exit -> St -> Prop
 | [], ex, s => Q ex s
 | .blk id :: ks, ex, s => match ex with
  | .exit j => if j = id then semX P N Q ks .normal s else semX P N Q ks (.exit j) s
  | ex => semX P N Q ks ex s
 | .code b :: ks, ex, s => match ex with
  | .normal => ∃ ex' s', Runs P N b.er s ex' s' ∧ semX P N Q ks ex' s'
  | ex => semX P N Q ks ex s
 | .ins is _ :: ks, ex, s => match ex with
  | .normal => ∃ gs s1 s2, Run P is gs s s1 ∧ Weak s1 s2 ∧ semX P N Q ks .normal s2
  | ex => semX P N Q ks ex s
 | .insD is fs pre _ :: ks, ex, s => match ex with
  | .normal => ∃ gs s1 s2, Run P is gs s s1 ∧ chk [] 0 (fs ++ gs) pre = true ∧ Weak s1 s2 ∧ semX P N Q ks .normal s2
  | ex => semX P N Q ks ex s
def vL (P : Program) (N : Nat) (Q : Exit -> St -> Prop) (b : GC) (ks : List Kt) (st : St) : Prop := ∃ ex s, Loops P N b.er st ex s ∧ semX P N Q ks ex s
def vm (P : Program) (N : Nat) (Q : Exit -> St -> Prop) (ks : List Kt) (st : St) : Prop :=
 match ks with
 | [] => Q .normal st
 | .blk _ :: ks => vm P N Q ks st
 | .ins [] dead :: ks => vm P N Q ks st
 | .ins (i :: is) dead :: ks => guardP st i.guard
   (fun st => opnP P st (i.dst.getD 0) i.op fun _ v s => vm P N Q (.ins is dead.tail :: ks) ((s.rep i.dst v).dropI dead))
   (fun st => vm P N Q (.ins is dead.tail :: ks) ((st.rep i.dst .skip).dropI dead))
 | .insD [] fs pre dead :: ks => chk [] 0 fs pre = true ∧ vm P N Q ks st
 | .insD (i :: is) fs pre dead :: ks => guardP st i.guard
   (fun st => opnP P st (i.dst.getD 0) i.op fun c v s => vm P N Q (.insD is (fs ++ [fp c st i]) pre dead.tail :: ks) ((s.rep i.dst v).dropI dead))
   (fun st => vm P N Q (.insD is (fs ++ [fp none st i]) pre dead.tail :: ks) ((st.rep i.dst .skip).dropI dead))
 | .code .nop :: ks => vm P N Q ks st
 | .code (.reg is dead) :: ks => vm P N Q (.ins is dead :: ks) st
 | .code (.regD is pre dead) :: ks => vm P N Q (.insD is [] pre dead :: ks) st
 | .code (.seq a b) :: ks => vm P N Q (.code a :: .code b :: ks) st
 | .code (.cond c dead a b) :: ks => condP (st.ev c) (vm P N Q (.code a :: ks) (st.drop dead)) (vm P N Q (.code b :: ks) (st.drop dead))
 | .code (.blk id b) :: ks => vm P N Q (.code b :: .blk id :: ks) st
 | .code (.loop b) :: ks => vL P N Q b ks st
 | .code (.ext id) :: ks => match h : unwind id ks with
  | some ks' => vm P N Q ks' st
  | none => Q (.exit id) st
 | .code .ret :: _ => Q .ret st
 | .code .bad :: _ => False
 | .code (.cut b) :: ks => semX P N Q (.code b :: ks) .normal st
termination_by szK ks
decreasing_by all_goals (try have := unwind_sz h); simp only [szK, Kt.sz, GC.sz, List.length_cons]; (try have := GC.sz_pos ‹GC›); omega
end Go.Ab
