/-
Proofs for the law CountIsFinite, part 8. Conditions: none.
-/
import Derived.Test.YtdkocfjbmbenfaaGreatDoorDP07
import Derived.Scope
set_option maxRecDepth 100000
set_option maxHeartbeats 4000000
set_option linter.all false
namespace Go.Ab
section
variable {P:Program} {K:Ctx} {Z Z':Cz} {st st' st2:St} {w w':World} {a:Act} {orc:Option PCall} {d:Nat} {v:AV}
theorem zbf {s t:St} (h:∀ i,t.site i=s.site i) (Z:Cz):ZLe Z s Z t :=
 ⟨fun _ _ h=>h,fun i=>by rw [h]; exact Nat.le_refl _,fun i g _ hd=>by rw [zad (h i)]; exact hd,fun i g o ho=>.inr ⟨o,by rw [zad (h i)]; exact ho,rfl,rfl,rfl,rfl⟩⟩
theorem HRep.of_site (h:HRep K Z st w) (e:∀ i,st2.site i=st.site i):HRep K Z st2 w:=by
 have eo:∀ s g,st2.obj s g=st.obj s g:=fun s g=>zad (e s)
 refine ⟨fun s g o ho=>?_,fun s g s' g' o o' b ho ho'=>?_,h.mem,fun s g o b ho=>?_,fun s g o b ho=>?_,h.m0,h.prov,h.keep⟩
 ·rw [eo] at ho
  obtain ⟨h1,h2,h3,h4,h5⟩:=h.objs s g o ho
  refine ⟨h1,h2,h3,h4,fun b hb=>?_⟩
  obtain ⟨cur,T,vals,k1,k2,k3⟩:=h5 b hb
  exact ⟨cur,T,vals,k1,AReps.mono (zbf e Z) k2,k3⟩
 ·rw [eo] at ho ho'; exact h.inj s g s' g' o o' b ho ho'
 ·rw [eo] at ho; exact h.sep s g o b ho
 ·rw [eo] at ho; exact h.own s g o b ho
theorem StRep.eqv (h:StRep K Z st w a) (e:Eqv st st2):StRep K Z st2 w a :=
 ⟨fun t=>by rw [e.get]; exact ARep.mono (zbf e.site Z) (h.slots t),h.defers,h.size,h.heap.of_site e.site⟩
def PIN:Nat:=999998
def PINB:Nat:=900000
structure PinLe (Z:Cz) (st:St) (Z':Cz) (st':St):Prop where
 len:∀ s,PINB<=s->s<999999->(st.site s).length<=(st'.site s).length
 dead:∀ s g,PINB<=s->s<999999->g<(st.site s).length->st.obj s g=none->st'.obj s g=none
 live:∀ s g o,PINB<=s->s<999999->st.obj s g=some o->st'.obj s g=none\/∃ o',st'.obj s g=some o'/\o'.sz=o.sz/\o'.es.length=o.es.length/\Z'.B s g=Z.B s g/\Z'.cap s g=Z.cap s g
theorem PinLe.of_zle {Z':Cz} {st':St} (h:ZLe Z st Z' st'):PinLe Z st Z' st':=⟨fun s _ _=>h.len s,fun s g _ _=>h.dead s g,fun s g o _ _=>h.live s g o⟩
theorem PinLe.refl (Z:Cz) (st:St):PinLe Z st Z st:=.of_zle (ZLe.refl Z st)
theorem PinLe.trans {Z1 Z2 Z3:Cz} {s1 s2 s3:St} (h:PinLe Z1 s1 Z2 s2) (k:PinLe Z2 s2 Z3 s3):PinLe Z1 s1 Z3 s3:=by
 refine ⟨fun s a b=>Nat.le_trans (h.len s a b) (k.len s a b),fun s g a b hg hd=>k.dead s g a b (Nat.lt_of_lt_of_le hg (h.len s a b)) (h.dead s g a b hg hd),fun s g o a b ho=>?_⟩
 rcases h.live s g o a b ho with hd|⟨o',ho',e1,e2,e3,e4⟩
 ·exact .inl (k.dead s g a b (Nat.lt_of_lt_of_le (zbt ho) (h.len s a b)) hd)
 ·rcases k.live s g o' a b ho' with hd|⟨o2,ho2,f1,f2,f3,f4⟩
  ·exact .inl hd
  ·exact .inr ⟨o2,ho2,f1.trans e1,f2.trans e2,f3.trans e3,f4.trans e4⟩
def zdi (ops:Array Oper):Option (Nat × Bool)->Option (Option (Nat × Bool))
 | none=>some none
 | some (j,b)=>match (ops[j]?).bind (·.dst) with
  | some t=>some (some (t,b))
  | none=>none
def zzd (N:Nat):Option Nat->Bool
 | none=>true
 | some d=>d<N
def zdn (P:Program) (N:Nat) (ops:Array Oper) (o:Oper):Option Ins :=
 match zbv P o.op,zdi ops o.guard with
 | some i,some g=>if zzd N o.dst=true then some ⟨o.dst,i,g⟩ else none
 | _,_=>none
def zfn (P:Program) (N:Nat) (ops:Array Oper):List Oper->Option (List Ins)
 | []=>some []
 | o::r=>match zdn P N ops o,zfn P N ops r with
  | some i,some l=>some (i::l)
  | _,_=>none
theorem zdh {N:Nat} {ops:Array Oper} {o:Oper} {x:Ins} (h:zdn P N ops o=some x) :
  zbv P o.op=some x.op/\zdi ops o.guard=some x.guard/\x.dst=o.dst/\zzd N o.dst=true:=by
 unfold zdn at h
 split at h
 ·rename_i i g h1 h2
  split at h
  ·rename_i h3; cases h; exact ⟨h1,h2,rfl,h3⟩
  ·cases h
 ·cases h
theorem StRep.put {dst:Option Nat} {x:Value} {w2:World} (hs:StRep K Z st w a) (hsl:st'.sl=st.sl) (hz:ZLe Z st Z' st') (hh:HRep K Z' st' w2) (hv:ARep Z' st' v x) (hd:zzd K.N dst=true) (hdef:a.defers=[]) :
  StRep K Z' (st'.put dst v) w2 (a.put dst x):=by
 have hmono:∀ {u:AV} {y:Value},ARep Z' st' u y->ARep Z' (st'.put dst v) u y:=fun h=>ARep.mono (zbf (fun i=>za5 _ _ _ i) Z') h
 refine ⟨fun t=>?_,?_,?_,hh.of_site (fun i=>za5 _ _ _ i)⟩
 ·rw [zdm]
  cases dst with
  | none=>simp only [reduceCtorEq,if_false,Act.put]; rw [zja hsl]; exact hmono (ARep.mono hz (hs.slots t))
  | some d =>
   simp only [zzd,decide_eq_true_eq] at hd
   simp only [Option.some.injEq,Act.put]
   split
   ·rename_i h; subst h
    have:(a.tmps.setIfInBounds d x).getD d Go.undef=x:=by simp [hs.size,hd]
    rw [this]; exact hmono hv
   ·rename_i h
    have:(a.tmps.setIfInBounds d x).getD t Go.undef=a.tmps.getD t Go.undef:=by simp [Array.getElem?_setIfInBounds_ne h]
    rw [this,zja hsl]; exact hmono (ARep.mono hz (hs.slots t))
 ·cases dst<;>exact hdef
 ·cases dst<;>simp [Act.put,hs.size]
def zjl (P:Program) (orc:Option PCall):Prop:=∀ c,orc=some c->c.ok P
theorem z8i {op:IOp} (he:eff orc st d op=some (v,st')):st'.sl=st.sl:=by
 obtain ⟨st2',h1,h2⟩:=zli (st2:=st) he (fun _ _=>rfl) (fun _ _=>rfl)
 exact h2.2.2.2.2.1
theorem zqb {o:Oper} {x:Ins} {Q:Exit->Act->World->Prop} {Kt:Act->World->Prop} (h1:zbv P o.op=some x.op) (h3:x.dst=o.dst) (h4:zzd K.N o.dst=true) (hs:StRep K Z st w a) (horc:zjl P orc)
  (he:zdr orc st x=some st') (hK:∀ Z' w' a',StRep K Z' st' w' a'->PinLe Z st Z' st'->Kt a' w'):o.wp P a w Kt Q:=by
 unfold zdr at he
 split at he
 ·rename_i v s hev
  cases he
  have hsl:=z8i hev
  by_cases hcall:∃ c f,o.op=.call c/\c.callee=.value f
  ·obtain ⟨c,f,hop,hf⟩:=hcall
   refine z5s h1 hop hf hs hev horc (fun w' Z' y hh hv hz=>?_)
   rw [h3] at hK
   exact hK _ _ _ (hs.put hsl hz hh hv h4 hs.defers) (.of_zle (hz.trans (zbf (fun i=>za5 _ _ _ i) _)))
  ·obtain ⟨n,y,w',Z',e1,e2,e3,e4,e5⟩:=z8j h1 (fun c f hop hf=>hcall ⟨c,f,hop,hf⟩) hs hev
   unfold Oper.wp
   rw [e1]
   rw [h3] at hK
   have:=hK _ _ _ (hs.put hsl e5 e3 e4 h4 hs.defers) (.of_zle (e5.trans (zbf (fun i=>za5 _ _ _ i) _)))
   rcases e2 with rfl|⟨rfl,rfl⟩
   ·exact this
   ·exact this
 ·cases he
theorem zom {ops:Array Oper} {i:Nat} {o:Oper} {x:Ins} {Q:Exit->Act->World->Prop} {Kt:Act->World->Prop} (hi:ops[i]?=some o) (hc:zdn P K.N ops o=some x) (hs:StRep K Z st w a) (horc:zjl P orc)
  (he:exec orc st x=some st') (hK:∀ Z' w' a',StRep K Z' st' w' a'->PinLe Z st Z' st'->Kt a' w'):wpOp P ops Q i Kt a w:=by
 obtain ⟨h1,h2,h3,h4⟩:=zdh hc
 unfold wpOp
 simp only [hi]
 have skip:st'=st.put x.dst .skip->Kt (a.put o.dst Go.undef) w:=by
  rintro rfl
  rw [h3] at hK
  exact hK _ _ _ (hs.put rfl (ZLe.refl Z st) hs.heap .skip h4 hs.defers) (.of_zle (zbf (fun i=>za5 _ _ _ i) _))
 unfold exec at he
 cases hg:o.guard with
 | none =>
  rw [hg] at h2
  simp only [zdi,Option.some.injEq] at h2
  rw [<- h2] at he
  have hw:Region.wanted o (yielded ops a.tmps)=true:=by simp [Region.wanted,hg]
  simp only [hw,if_true]
  exact .inl (zqb h1 h3 h4 hs horc he hK)
 | some jb =>
  obtain ⟨j,b⟩:=jb
  rw [hg] at h2
  simp only [zdi] at h2
  split at h2
  ·rename_i t ht
   simp only [Option.some.injEq] at h2
   rw [<- h2] at he
   have hsl:=hs.slots t
   simp only at he
   split at he
   ·rename_i c hc0
    rw [hc0] at hsl
    have hb:=hsl.inv_bool
    have hy:yielded ops a.tmps j=some c:=by
     have:a.tmps[t]?=some (.bool c):=by
      cases h:a.tmps[t]? with
      | none=>simp [h,Go.undef] at hb
      | some y=>simp [h] at hb; rw [hb]
     simp [yielded,ht,this]
    split at he
    ·rename_i hcb
     have hw:Region.wanted o (yielded ops a.tmps)=true:=by simp [Region.wanted,hg,hy,hcb]
     simp only [hw,if_true]
     exact .inl (zqb h1 h3 h4 hs horc he hK)
    ·rename_i hcb
     have hw:Region.wanted o (yielded ops a.tmps)=false:=by simp [Region.wanted,hg,hy,hcb]
     simp only [hw,Bool.false_eq_true,if_false]
     cases he
     exact skip rfl
   ·rename_i hc0
    rw [hc0] at hsl
    have hu:a.tmps.getD t Go.undef=Go.undef:=by
     generalize a.tmps.getD t Go.undef=y at hsl ⊢
     cases hsl; rfl
    have hy:yielded ops a.tmps j=none:=by
     simp only [yielded,ht,Option.bind_some]
     cases h:a.tmps[t]? with
     | none=>rfl
     | some y=>simp [h] at hu; rw [hu]; rfl
    have hw:Region.wanted o (yielded ops a.tmps)=false:=by simp [Region.wanted,hg,hy]
    simp only [hw,Bool.false_eq_true,if_false]
    cases he
    exact skip rfl
   ·cases he
  ·cases h2
end
end Go.Ab
namespace Go.Ab
inductive Run (P:Program):List Ins->List FP->St->St->Prop
 | nil (st:St):Run P [] [] st st
 | cons (orc:Option PCall) (i:Ins) (is:List Ins) (f:FP) (fs:List FP) (st s1 st':St):zjl P orc->exec orc st i=some s1->(fp orc st i).Sub f->Run P is fs s1 st'->Run P (i::is) (f::fs) st st'
section
variable {P:Program} {K:Ctx} {Z Z':Cz} {st st' st2:St} {w w':World} {a:Act} {orc:Option PCall} {d:Nat} {v:AV} {ops:Array Oper} {Q:Exit->Act->World->Prop}
theorem Run.items:∀ {is:List Ins} {fs:List FP} {st st':St},Run P is fs st st'->∃ items:List Item,items.map (·.1.2)=is/\items.map (·.2)=fs/\(∀ x∈items,zjl P x.1.1)/\RunL items st st'
 | _,_,_,_,.nil st=>⟨[],rfl,rfl,by simp,.nil st⟩
 | _,_,_,_,.cons orc i is f fs st s1 st' h0 h1 h2 h3=>by
  obtain ⟨items,e1,e2,e3,e4⟩:=Run.items h3
  exact ⟨((orc,i),f)::items,by simp [e1],by simp [e2],fun x hx=>(List.mem_cons.1 hx).elim (fun h=>h ▸ h0) (e3 x),.cons _ _ _ _ _ h1 h2 e4⟩
theorem zoz {it:Nat->Item}:∀ (R:List Nat) {st:St} {Z:Cz} {w:World} {a:Act},(∀ i∈R,∃ o,ops[i]?=some o/\zdn P K.N ops o=some (it i).1.2/\zjl P (it i).1.1)->RunL (R.map it) st st'->StRep K Z st w a ->
  (∀ Z' w' a',StRep K Z' st' w' a'->PinLe Z st Z' st'->Q .normal a' w')->wpOps P ops Q R a w
 | [],st,Z,w,a,_,h,hs,hQ=>by cases h; exact hQ _ _ _ hs (PinLe.refl _ _)
 | i::R,st,Z,w,a,hc,h,hs,hQ=>by
  rw [List.map_cons] at h
  cases h with
  | cons _ _ _ s1 _ h1 h2 h3 =>
   obtain ⟨o,e1,e2,e3⟩:=hc i (by simp)
   rw [wpOps_cons]
   exact zom e1 e2 hs e3 h1 (fun Z' w' a' hs' hp=>zoz R (fun j hj=>hc j (by simp [hj])) h3 hs' (fun Z2 w2 a2 hs2 hp2=>hQ Z2 w2 a2 hs2 (hp.trans hp2)))
def topo (md:Region.Mode) (ops:Array Oper):List Nat->List Nat->Bool
 | [],seen=>(List.range ops.size).all (seen.contains ·)
 | x::r,seen=>(match ops[x]? with
  | some o=>o.after.toList.all fun e => !Region.binds md e||seen.contains e.on
  | none=>false)&&topo md ops r (x::seen)
theorem zia {md:Region.Mode} {listed:Array Bool}:∀ (L seen:List Nat),listed.size=ops.size->topo md ops L seen=true->(∀ x∈seen,listed.getD x false=true)->(∃ i,i<ops.size/\listed.getD i true=false)->Region.ready md ops listed≠[]
 | [],seen,_,h,hs,⟨i,hi,hl⟩=>by
  simp only [topo,List.all_eq_true,List.mem_range] at h
  have h1:=hs i (by simpa using h i hi)
  rcases Nat.lt_or_ge i listed.size with h'|h'
  ·simp [h'] at h1 hl; rw [h1] at hl; cases hl
  ·simp [Array.getElem?_eq_none h'] at h1
 | x::r,seen,hsz,h,hs,hex=>by
  simp only [topo,Bool.and_eq_true] at h
  obtain ⟨h1,h2⟩:=h
  split at h1
  ·rename_i o ho
   cases hx:listed.getD x true with
   | false =>
    intro hr
    have:x∈Region.ready md ops listed:=mem_ready.2 ⟨hx,o,ho,fun e he hb=>by
     have:=List.all_eq_true.1 h1 e (by simpa using he)
     simp [hb] at this
     exact hs _ this⟩
    rw [hr] at this; cases this
   | true =>
    have hlt:x<listed.size:=by rw [hsz]; exact (Array.getElem?_eq_some_iff.1 ho).1
    refine zia r (x::seen) hsz h2 (fun y hy=>?_) hex
    rcases List.mem_cons.1 hy with rfl|hy
    ·simp [hlt] at hx ⊢; exact hx
    ·exact hs y hy
  ·cases h1
theorem zqr {md:Region.Mode} {e:Edge} (h:Region.binds .any e=true):Region.binds md e=true:=by
 unfold Region.binds at h ⊢
 cases hg:e.ground<;>simp_all
inductive Bef (ops:Array Oper):Nat->Nat->Prop
 | one {x y:Nat} {o:Oper} {e:Edge}:ops[x]?=some o->e∈o.after->e.on=y->Region.binds .any e=true->Bef ops y x
 | more {x y z:Nat} {o:Oper} {e:Edge}:Bef ops y z->ops[x]?=some o->e∈o.after->e.on=z->Region.binds .any e=true->Bef ops y x
theorem zo0 {md:Region.Mode} {it:Nat->Item} {pre:Nat->List Nat} (hpre:∀ x o,ops[x]?=some o->∀ y∈pre x,Bef ops y x)
  (hc:∀ i,i<ops.size->∃ o,ops[i]?=some o/\zdn P K.N ops o=some (it i).1.2/\zjl P (it i).1.1) {L:List Nat} (htopo:topo md ops L []=true) :
  ∀ (n:Nat) (R:List Nat) {listed:Array Bool} {st st':St} {Z:Cz} {w:World} {a:Act},R.length=n->R.Nodup->listed.size=ops.size->(∀ y z,listed.getD z false=true->Bef ops y z->listed.getD y false=true)->(∀ i,i∈R ↔ i<ops.size/\listed.getD i true=false) ->
   R.Pairwise (fun y x=>y∈pre x\/zk7 (it y).2 (it x).2=true)->RunL (R.map it) st st'->StRep K Z st w a ->
   (∀ Z' w' a',StRep K Z' st' w' a'->PinLe Z st Z' st'->Q .normal a' w')->wpAny P md ops Q n listed a w
 | 0,R,listed,st,st',Z,w,a,hn,_,hsz,_,hR,_,hrun,hs,hQ=>by
  have:R=[]:=List.length_eq_zero_iff.1 hn
  subst this
  refine ⟨?_,?_⟩
  ·apply List.eq_nil_iff_forall_not_mem.2
   intro i hi
   obtain ⟨h1,o,h2,_⟩:=mem_ready.1 hi
   have:=(hR i).2 ⟨(Array.getElem?_eq_some_iff.1 h2).1,h1⟩
   cases this
  ·cases hrun; exact hQ _ _ _ hs (PinLe.refl _ _)
 | n+1,R,listed,st,st',Z,w,a,hn,hnd,hsz,hcl,hR,hpw,hrun,hs,hQ=>by
  refine ⟨fun hr=>?_,fun i hi=>?_⟩
  ·exact absurd hr (zia L [] hsz htopo (by simp) (by
    obtain ⟨i,hi⟩:∃ i,i∈R:=by
     cases R with
     | nil=>simp at hn
     | cons i r=>exact ⟨i,by simp⟩
    exact ⟨i,(hR i).1 hi⟩))
  ·obtain ⟨h1,o,h2,h3⟩:=mem_ready.1 hi
   have hiR:=(hR i).2 ⟨(Array.getElem?_eq_some_iff.1 h2).1,h1⟩
   obtain ⟨ys,xs,rfl⟩:=List.append_of_mem hiR
   have gd:∀ e∈o.after,Region.binds .any e=true->listed.getD e.on false=true:=by
    intro e he hb
    have h4:=h3 e he (zqr hb)
    rcases Nat.lt_or_ge e.on listed.size with h'|h'
    ·simp [h'] at h4 ⊢; exact h4
    ·simp [Array.getElem?_eq_none h'] at h4
   have hbef:∀ y,Bef ops y i->listed.getD y false=true:=by
    intro y hy
    cases hy with
    | one k1 k2 k3 k4=>rw [h2] at k1; cases k1; rw [<- k3]; exact gd _ k2 k4
    | more k0 k1 k2 k3 k4=>rw [h2] at k1; cases k1; exact hcl _ _ (by rw [<- k3]; exact gd _ k2 k4) k0
   have hind:∀ y∈ys,zk7 (it y).2 (it i).2=true:=by
    intro y hy
    have:=(List.pairwise_append.1 hpw).2.2 y hy i (by simp)
    rcases this with h|h
    ·have h4:=hbef y (hpre i o h2 y h)
     have h5:=((hR y).1 (by simp [hy])).2
     rcases Nat.lt_or_ge y listed.size with h'|h'
     ·simp [h'] at h4 h5; rw [h4] at h5; cases h5
     ·simp [Array.getElem?_eq_none h'] at h4
    ·exact h
   rw [List.map_append,List.map_cons] at hrun
   obtain ⟨st1,hrun1,heqv⟩:=RunL.front hrun (fun y hy=>by obtain ⟨z,hz,rfl⟩:=List.mem_map.1 hy; exact hind z hz)
   cases hrun1 with
   | cons _ _ _ s1 _ k1 k2 k3 =>
    obtain ⟨o',e1,e2,e3⟩:=hc i (Array.getElem?_eq_some_iff.1 h2).1
    refine zom e1 e2 hs e3 k1 (fun Z' w' a' hs' hp=>?_)
    have hnd':=List.nodup_append.1 hnd
    have hndx:i∉ys:=fun h=>hnd'.2.2 i h i (by simp) rfl
    have hndy:i∉xs:=(List.nodup_cons.1 hnd'.2.1).1
    rw [<- List.map_append] at k3
    refine zo0 hpre hc htopo n (ys++xs) (by simp at hn ⊢; omega) ?_ (by simpa using hsz) ?_ ?_ ?_ k3 hs' ?_
    ·refine List.nodup_append.2 ⟨hnd'.1,(List.nodup_cons.1 hnd'.2.1).2,fun y hy z hz=>hnd'.2.2 y hy z (by simp [hz])⟩
    ·intro y z hz hyz
     by_cases hyi:y=i
     ·subst hyi
      have hlt:y<listed.size:=by rw [hsz]; exact (Array.getElem?_eq_some_iff.1 h2).1
      simp [hlt]
     ·rw [getD_set_ne false (Ne.symm hyi)]
      by_cases hzi:z=i
      ·subst hzi; exact hbef y hyz
      ·rw [getD_set_ne false (Ne.symm hzi)] at hz; exact hcl y z hz hyz
    ·intro j
     by_cases hji:j=i
     ·subst hji
      have hlt:j<listed.size:=by rw [hsz]; exact (Array.getElem?_eq_some_iff.1 h2).1
      simp [hndx,hndy,hlt]
     ·rw [getD_set_ne true (Ne.symm hji),<- hR j]
      simp [hji]
    ·refine List.Pairwise.sublist ?_ hpw
     exact List.Sublist.append_left (List.sublist_cons_self _ _) _
    ·intro Z2 w' a' hs' hp2
     refine hQ _ _ _ (hs'.eqv (Eqv.symm heqv)) ((hp.trans hp2).trans (.of_zle (zbf (Eqv.symm heqv).site _)))
end
end Go.Ab
namespace Go.Ab
def pres (ops:List Oper):List (List Nat):=ops.map fun o=>(o.after.toList.filter (Region.binds .any)).map (·.on)
def zqe:List Nat->List Nat
 | []=>[]
 | x::l=>if (zqe l).contains x then zqe l else x::zqe l
def clos:List (List Nat)->List (List Nat)->List (List Nat)
 | acc,[]=>acc
 | acc,p::ps=>clos (acc++[zqe (p++p.flatMap fun y=>acc.getD y [])]) ps
def z3q (ops:Array Oper):Bool :=
 topo .any ops (List.range ops.size) []&&(!Region.departs ops||(topo .text ops (List.range ops.size) []&&topo .gc ops (Region.linearise .gc ops 0) []))
def comp (P:Program) (N:Nat):Code->Option AC
 | .skip=>some .nop
 | .region _ ops draw=>if draw=true then (if z3q ops=true then (zfn P N ops ops.toList).map fun l=>.regD l (clos [] (pres ops.toList)) else none) else (zfn P N ops ops.toList).map .reg
 | .seq a b=>match comp P N a,comp P N b with
  | some x,some y=>some (.seq x y)
  | _,_=>none
 | .cond c a b=>match zag c,comp P N a,comp P N b with
  | some c,some x,some y=>some (.cond c x y)
  | _,_,_=>none
 | .block id b=>(comp P N b).map (.blk id)
 | .loop b=>(comp P N b).map .loop
 | .exit id=>some (.ext id)
 | .ret=>some .ret
 | .label _=>some .nop
 | .scope b=>(comp P N b).map .scp
 | _=>none
def chk:List (Nat × FP)->Nat->List FP->List (List Nat)->Bool
 | _,_,[],_=>true
 | done,n,f::fs,pr::prs=>(done.all fun (y,g)=>pr.contains y||zk7 g f)&&chk ((n,f)::done) (n+1) fs prs
 | _,_,_::_,[]=>false
section
variable {P:Program} {K:Ctx} {Z Z':Cz} {st st' st1 st2:St} {w w':World} {a:Act} {orc:Option PCall} {d N:Nat} {v:AV} {ops:Array Oper} {Q:Exit->Act->World->Prop}
theorem zot:∀ {done:List (Nat × FP)} {n:Nat} {fs:List FP} {prs:List (List Nat)},chk done n fs prs=true->∀ (x:Nat) (f:FP),fs[x]?=some f ->
  (∀ y g,(y,g)∈done->y∈prs.getD x []\/zk7 g f=true)/\∀ y g,fs[y]?=some g->y<x->n+y∈prs.getD x []\/zk7 g f=true
 | _,_,[],_,_,x,f,hf=>by simp at hf
 | done,n,f0::fs,[],h,x,f,hf=>by simp [chk] at h
 | done,n,f0::fs,pr::prs,h,x,f,hf=>by
  simp only [chk,Bool.and_eq_true,List.all_eq_true] at h
  obtain ⟨h1,h2⟩:=h
  cases x with
  | zero =>
   simp only [List.getElem?_cons_zero,Option.some.injEq] at hf
   subst hf
   refine ⟨fun y g hy=>?_,fun y g _ hy=>by omega⟩
   have:=h1 (y,g) hy
   simpa using this
  | succ x =>
   obtain ⟨i1,i2⟩:=zot h2 x f (by simpa using hf)
   refine ⟨fun y g hy=>?_,fun y g hg hy=>?_⟩
   ·simpa using i1 y g (by simp [hy])
   ·cases y with
    | zero =>
     simp only [List.getElem?_cons_zero,Option.some.injEq] at hg
     subst hg
     simpa using i1 n f0 (by simp)
    | succ y =>
     have:=i2 y g (by simpa using hg) (by omega)
     simpa [Nat.add_assoc,Nat.add_comm 1] using this
theorem zbr:∀ {l:List Oper} {is:List Ins},zfn P N ops l=some is->is.length=l.length/\∀ (i:Nat) (o:Oper),l[i]?=some o->∃ x,zdn P N ops o=some x/\is[i]?=some x
 | [],is,h=>by simp [zfn] at h; subst h; simp
 | o::l,is,h=>by
  simp only [zfn] at h
  split at h
  ·rename_i x xs h1 h2
   cases h
   obtain ⟨i1,i2⟩:=zbr h2
   refine ⟨by simp [i1],fun i o' hi=>?_⟩
   cases i with
   | zero=>simp at hi; subst hi; exact ⟨x,h1,rfl⟩
   | succ i=>simpa using i2 i o' (by simpa using hi)
  ·cases h
def Runs (P:Program) (N:Nat) (ac:AC) (st:St) (ex:Exit) (st':St):Prop :=
 ∀ code,comp P N code=some ac->∀ (K:Ctx) (Z:Cz) (w:World) (a:Act) (Q:Exit->Act->World->Prop),K.N=N->StRep K Z st w a->(∀ Z' w' a',StRep K Z' st' w' a'->PinLe Z st Z' st'->Q ex a' w')->code.wp P Q a w
def Weak (st st':St):Prop:=∀ (K:Ctx) (Z:Cz) (w:World) (a:Act),StRep K Z st w a->∃ Z',StRep K Z' st' w a/\PinLe Z st Z' st'
theorem Weak.refl (st:St):Weak st st:=fun _ Z _ _ h=>⟨Z,h,PinLe.refl _ _⟩
theorem Weak.trans (h:Weak st st1) (k:Weak st1 st2):Weak st st2:=fun K Z w a hs=>let ⟨Z',h',p⟩:=h K Z w a hs; let ⟨Z2,h2,p2⟩:=k K Z' w a h'; ⟨Z2,h2,p.trans p2⟩
def zbl:Item:=((none,⟨none,.bad,none⟩),⟨[],[],[],[]⟩)
theorem zob {is:List Ins} {items:List Item} (e1:items.map (·.1.2)=is) (e3:∀ x∈items,zjl P x.1.1) (hc:zfn P N ops ops.toList=some is) :
  ∀ i,i<ops.size->∃ o,ops[i]?=some o/\zdn P N ops o=some (items.getD i zbl).1.2/\zjl P (items.getD i zbl).1.1:=by
 intro i hi
 obtain ⟨hl,h1⟩:=zbr hc
 have ho:ops[i]?=some ops[i]:=Array.getElem?_eq_getElem hi
 obtain ⟨x,hx,hix⟩:=h1 i ops[i] (by simp [hi])
 have hlen:items.length=is.length:=by rw [<- e1]; simp
 have hit:i<items.length:=by rw [hlen,hl]; simpa using hi
 refine ⟨ops[i],ho,?_,?_⟩
 ·rw [<- e1] at hix
  simp [hit] at hix
  rw [hx,<- hix]; simp [hit]
 ·have:items.getD i zbl=items[i]:=by simp [hit]
  rw [this]; exact e3 _ (List.getElem_mem hit)
theorem zeq {α : Type} (l:List α) (d : α) (n:Nat) (h:l.length=n):(List.range n).map (fun i=>l.getD i d)=l:=by
 apply List.ext_getElem?
 intro i
 by_cases hi:i<n
 ·have:i<l.length:=by omega
  simp [hi,this]
 ·have:l.length<=i:=by omega
  simp [hi,this]
theorem Runs.reg {is:List Ins} {fs:List FP} (h:Run P is fs st st'):Runs P N (.reg is) st .normal st':=by
 intro code hc K Z w a Q hN hs hQ
 cases code<;>simp only [comp] at hc
 case region id ops draw =>
  split at hc
  ·split at hc
   ·obtain ⟨l,_,h2⟩:=mapS hc; cases h2
   ·cases hc
  ·rename_i hd
   obtain ⟨l,h1,h2⟩:=mapS hc
   cases h2
   have:draw=false:=by simpa using hd
   subst this
   refine wp_region ?_
   subst hN
   obtain ⟨items,e1,e2,e3,e4⟩:=h.items
   have hl:=(zbr h1).1
   have hlen:items.length=ops.size:=by rw [<- Array.length_toList,<- hl,<- e1]; simp
   have hrun:RunL ((List.range ops.size).map fun i=>items.getD i zbl) st st':=by rw [zeq _ _ _ hlen]; exact e4
   exact zoz _ (fun i hi=>zob e1 e3 h1 i (List.mem_range.1 hi)) hrun hs hQ
 all_goals (first|cases hc|(split at hc<;>cases hc)|(obtain ⟨_,_,h2⟩:=mapS hc; cases h2))
theorem zx1 {l:List Nat} {x:Nat} (h:x∈zqe l):x∈l:=by
 induction l with
 | nil=>exact h
 | cons y l ih =>
  simp only [zqe] at h
  split at h
  ·exact List.mem_cons_of_mem _ (ih h)
  ·rcases List.mem_cons.1 h with rfl|h
   ·simp
   ·exact List.mem_cons_of_mem _ (ih h)
theorem zql {ops:Array Oper}:∀ {ps acc:List (List Nat)},(∀ x y,y∈acc.getD x []->Bef ops y x) ->
  (∀ i p,ps[i]?=some p->∀ z∈p,∃ o e,ops[acc.length+i]?=some o/\e∈o.after/\e.on=z/\Region.binds .any e=true)->∀ x y,y∈(clos acc ps).getD x []->Bef ops y x
 | [],acc,h,_,x,y,hy=>h x y hy
 | p::ps,acc,h,h2,x,y,hy=>by
  refine zql (acc:=acc++[zqe (p++p.flatMap fun y=>acc.getD y [])]) ?_ ?_ x y hy
  ·intro x y hy
   rcases Nat.lt_trichotomy x acc.length with hx|hx|hx
   ·rw [List.getD_eq_getElem?_getD,List.getElem?_append_left hx,<- List.getD_eq_getElem?_getD] at hy; exact h x y hy
   ·subst hx
    simp only [List.getD_eq_getElem?_getD,List.getElem?_append_right (Nat.le_refl _),Nat.sub_self,List.getElem?_cons_zero,Option.getD_some] at hy
    rcases List.mem_append.1 (zx1 hy) with hy|hy
    ·obtain ⟨o,e,k1,k2,k3,k4⟩:=h2 0 p rfl y hy
     exact .one k1 k2 k3 k4
    ·obtain ⟨z,hz,hy⟩:=List.mem_flatMap.1 hy
     obtain ⟨o,e,k1,k2,k3,k4⟩:=h2 0 p rfl z hz
     exact .more (h z y (by rw [List.getD_eq_getElem?_getD]; exact hy)) k1 k2 k3 k4
   ·have:(acc++[zqe (p++p.flatMap fun y=>acc.getD y [])])[x]?=none:=List.getElem?_eq_none (by simp; omega)
    rw [List.getD_eq_getElem?_getD,this] at hy; simp at hy
  ·intro i q hq z hz
   have:=h2 (i+1) q hq z hz
   simpa [Nat.add_assoc,Nat.add_comm 1 i] using this
theorem zll (ops:Array Oper) (x y:Nat) (h:y∈(clos [] (pres ops.toList)).getD x []):Bef ops y x:=by
 refine zql (ops:=ops) (by simp) ?_ x y h
 intro i p hp z hz
 simp only [pres,List.getElem?_map,Array.getElem?_toList] at hp
 cases ho:ops[i]? with
 | none=>rw [ho] at hp; cases hp
 | some o =>
  rw [ho] at hp; simp only [Option.map_some,Option.some.injEq] at hp
  subst hp
  obtain ⟨e,he,hey⟩:=List.mem_map.1 hz
  have:=List.mem_filter.1 he
  exact ⟨o,e,by simpa using ho,by simpa using this.1,hey,this.2⟩
theorem Runs.regD {is:List Ins} {fs:List FP} {pre:List (List Nat)} (h:Run P is fs st st') (hp:chk [] 0 fs pre=true):Runs P N (.regD is pre) st .normal st':=by
 intro code hc K Z w a Q hN hs hQ
 cases code<;>simp only [comp] at hc
 case region id ops draw =>
  split at hc
  ·rename_i hd
   subst hd
   split at hc
   ·rename_i ht
    obtain ⟨l,h1,h2⟩:=mapS hc
    cases h2
    subst hN
    obtain ⟨items,e1,e2,e3,e4⟩:=h.items
    have hl:=(zbr h1).1
    have hlen:items.length=ops.size:=by rw [<- Array.length_toList,<- hl,<- e1]; simp
    have hrun:RunL ((List.range ops.size).map fun i=>items.getD i zbl) st st':=by rw [zeq _ _ _ hlen]; exact e4
    have hany:∀ (md:Region.Mode) (L:List Nat),topo md ops L []=true->wpAny P md ops Q ops.size (Array.replicate ops.size false) a { w with drawn:=w.drawn+1 }:=by
     intro md L hL
     refine zo0 (pre:=fun i=>(clos [] (pres ops.toList)).getD i []) (it:=fun i=>items.getD i zbl) ?_ (zob e1 e3 h1) hL ops.size (List.range ops.size) (by simp) List.nodup_range (by simp) (fun y z hz _=>by simp [Array.getD_eq_getD_getElem?,Array.getElem?_replicate] at hz; split at hz<;>simp at hz) (fun i=>by simp; intro hi; simp [Array.getElem?_replicate,hi]) ?_ hrun (Z:=Z) ⟨hs.slots,hs.defers,hs.size,hs.heap.drew⟩ hQ
     ·intro x o ho y hy
      exact zll ops x y hy
     ·refine List.Pairwise.imp_of_mem ?_ List.pairwise_lt_range
      intro y x hy hx hyx
      have hx:=List.mem_range.1 hx
      have hy:=List.mem_range.1 hy
      have hfx:fs[x]?=some (items.getD x zbl).2:=by rw [<- e2]; simp [hlen,hx]
      have hfy:fs[y]?=some (items.getD y zbl).2:=by rw [<- e2]; simp [hlen,hy]
      simpa using (zot hp x _ hfx).2 y _ hfy hyx
    simp only [z3q,Bool.and_eq_true,Bool.or_eq_true,Bool.not_eq_true'] at ht
    obtain ⟨t1,t2⟩:=ht
    refine wp_region_draw fun t=>?_
    unfold Region.schedule
    split
    ·exact wpAny_sound ops.size t _ a _ (hany .any _ t1)
    ·rename_i hm
     rcases t2 with t2|⟨t2,t3⟩
     ·simp [t2] at hm
     ·split
      ·exact wpAny_sound ops.size _ _ a _ (hany .text _ t2)
      ·exact wpAny_sound ops.size _ _ a _ (hany .gc _ t3)
   ·cases hc
  ·obtain ⟨l,_,h2⟩:=mapS hc; cases h2
 all_goals (first|cases hc|(split at hc<;>cases hc)|(obtain ⟨_,_,h2⟩:=mapS hc; cases h2))
end
end Go.Ab
namespace Go.Ab
inductive Loops (P:Program) (N:Nat) (body:AC):St->Exit->St->Prop
 | out (st:St) (ex:Exit) (st':St):Runs P N body st ex st'->ex ≠ .normal->Loops P N body st ex st'
 | next (st st1:St) (ex:Exit) (st':St):Runs P N body st .normal st1->Loops P N body st1 ex st'->Loops P N body st ex st'
section
variable {P:Program} {K:Ctx} {Z Z':Cz} {st st' st1 st2:St} {w w':World} {a:Act} {N:Nat} {x y:AC} {ex:Exit}
theorem Runs.nop:Runs P N .nop st .normal st:=by
 intro code hc K Z w a Q hN hs hQ
 cases code<;>simp only [comp] at hc
 case skip=>exact wp_skip (hQ _ _ _ hs (PinLe.refl _ _))
 case label=>exact wp_label (hQ _ _ _ hs (PinLe.refl _ _))
 all_goals (repeat' split at hc)<;>first|cases hc|(obtain ⟨_,_,h2⟩:=mapS hc; cases h2)
theorem Runs.ret:Runs P N .ret st .ret st:=by
 intro code hc K Z w a Q hN hs hQ
 cases code<;>simp only [comp] at hc
 case ret=>exact wp_ret (hQ _ _ _ hs (PinLe.refl _ _))
 all_goals (repeat' split at hc)<;>first|cases hc|(obtain ⟨_,_,h2⟩:=mapS hc; cases h2)
theorem Runs.ext {id:Nat}:Runs P N (.ext id) st (.exit id) st:=by
 intro code hc K Z w a Q hN hs hQ
 cases code<;>simp only [comp] at hc
 case exit=>cases hc; exact wp_exit (hQ _ _ _ hs (PinLe.refl _ _))
 all_goals (repeat' split at hc)<;>first|cases hc|(obtain ⟨_,_,h2⟩:=mapS hc; cases h2)
theorem zq1 {code:Code} (hc:comp P N code=some (.seq x y)):∃ a b,code=.seq a b/\comp P N a=some x/\comp P N b=some y:=by
 cases code<;>simp only [comp] at hc
 case seq a b =>
  split at hc
  ·rename_i h1 h2; cases hc; exact ⟨a,b,rfl,h1,h2⟩
  ·cases hc
 all_goals (repeat' split at hc)<;>first|cases hc|(obtain ⟨_,_,h2⟩:=mapS hc; cases h2)
theorem Runs.seq (h:Runs P N x st .normal st1) (k:Runs P N y st1 ex st'):Runs P N (.seq x y) st ex st':=by
 intro code hc K Z w a Q hN hs hQ
 obtain ⟨c1,c2,rfl,h1,h2⟩:=zq1 hc
 exact wp_seq (h c1 h1 K Z w a _ hN hs fun Z' w' a' hs' hp=>k c2 h2 K Z' w' a' Q hN hs' (fun Z2 w2 a2 hs2 hp2=>hQ Z2 w2 a2 hs2 (hp.trans hp2)))
theorem Runs.seqX (h:Runs P N x st ex st') (he:ex ≠ .normal):Runs P N (.seq x y) st ex st':=by
 intro code hc K Z w a Q hN hs hQ
 obtain ⟨c1,c2,rfl,h1,h2⟩:=zq1 hc
 refine wp_seq (h c1 h1 K Z w a _ hN hs fun Z' w' a' hs' hp=>?_)
 cases ex<;>first|exact absurd rfl he|exact hQ _ _ _ hs' hp
theorem zt2 {code:Code} {c:Opd} (hc:comp P N code=some (.cond c x y)):∃ o a b,code=.cond o a b/\zag o=some c/\comp P N a=some x/\comp P N b=some y:=by
 cases code<;>simp only [comp] at hc
 case cond o a b =>
  split at hc
  ·rename_i h1 h2 h3; cases hc; exact ⟨o,a,b,rfl,h1,h2,h3⟩
  ·cases hc
 all_goals (repeat' split at hc)<;>first|cases hc|(obtain ⟨_,_,h2⟩:=mapS hc; cases h2)
theorem Runs.cond {c:Opd} {t:Bool} (hv:st.ev c=.p (.bool t)) (h:Runs P N (if t then x else y) st ex st'):Runs P N (.cond c x y) st ex st':=by
 intro code hc K Z w a Q hN hs hQ
 obtain ⟨o,c1,c2,rfl,h0,h1,h2⟩:=zt2 hc
 have hr:=zap h0 hs
 rw [hv] at hr
 refine wp_cond hr.inv_bool ?_
 cases t with
 | true=>exact h c1 h1 K Z w a Q hN hs hQ
 | false=>exact h c2 h2 K Z w a Q hN hs hQ
theorem Runs.condT {c:Opd} (hv:st.ev c=.p (.bool true)) (h:Runs P N x st ex st'):Runs P N (.cond c x y) st ex st':=.cond hv (t:=true) h
theorem Runs.condF {c:Opd} (hv:st.ev c=.p (.bool false)) (h:Runs P N y st ex st'):Runs P N (.cond c x y) st ex st':=.cond hv (t:=false) h
theorem zoy {code:Code} {id:Nat} (hc:comp P N code=some (.blk id x)):∃ b,code=.block id b/\comp P N b=some x:=by
 cases code<;>simp only [comp] at hc
 case block id b=>obtain ⟨z,h1,h2⟩:=mapS hc; cases h2; exact ⟨b,rfl,h1⟩
 all_goals (repeat' split at hc)<;>first|cases hc|(obtain ⟨_,_,h2⟩:=mapS hc; cases h2)
theorem z3z {code:Code} (hc:comp P N code=some (.scp x)):∃ b,code=.scope b/\comp P N b=some x:=by
 cases code<;>simp only [comp] at hc
 case scope b=>obtain ⟨z,h1,h2⟩:=mapS hc; cases h2; exact ⟨b,rfl,h1⟩
 all_goals (repeat' split at hc)<;>first|cases hc|(obtain ⟨_,_,h2⟩:=mapS hc; cases h2)
theorem Runs.blk {id:Nat} (h:Runs P N x st ex st') (he:∀ j,ex ≠ .exit j):Runs P N (.blk id x) st ex st':=by
 intro code hc K Z w a Q hN hs hQ
 obtain ⟨b,rfl,h1⟩:=zoy hc
 refine wp_block (h b h1 K Z w a _ hN hs fun Z' w' a' hs' hp=>?_)
 cases ex<;>first|exact absurd rfl (he _)|exact hQ _ _ _ hs' hp
theorem Runs.blkE {id:Nat} (h:Runs P N x st (.exit id) st'):Runs P N (.blk id x) st .normal st':=by
 intro code hc K Z w a Q hN hs hQ
 obtain ⟨b,rfl,h1⟩:=zoy hc
 refine wp_block (h b h1 K Z w a _ hN hs fun Z' w' a' hs' hp=>?_)
 simp only [Exit.inBlock,if_true]
 exact hQ _ _ _ hs' hp
theorem Runs.blkX {id j:Nat} (h:Runs P N x st (.exit j) st') (hj:j≠id):Runs P N (.blk id x) st (.exit j) st':=by
 intro code hc K Z w a Q hN hs hQ
 obtain ⟨b,rfl,h1⟩:=zoy hc
 refine wp_block (h b h1 K Z w a _ hN hs fun Z' w' a' hs' hp=>?_)
 simp only [Exit.inBlock,hj,if_false]
 exact hQ _ _ _ hs' hp
theorem ztb {code:Code} (hc:comp P N code=some (.loop x)):∃ b,code=.loop b/\comp P N b=some x:=by
 cases code<;>simp only [comp] at hc
 case loop b=>obtain ⟨z,h1,h2⟩:=mapS hc; cases h2; exact ⟨b,rfl,h1⟩
 all_goals (repeat' split at hc)<;>first|cases hc|(obtain ⟨_,_,h2⟩:=mapS hc; cases h2)
theorem Loops.key {c:Code} (hc:comp P N c=some x) (hN:K.N=N):∀ {st:St} {ex:Exit} {st':St},Loops P N x st ex st'->∀ {Z:Cz} {w:World} {a:Act} {Q:Exit->Act->World->Prop},StRep K Z st w a->(∀ Z' w' a',StRep K Z' st' w' a'->PinLe Z st Z' st'->Q ex a' w') ->
  ∀ (b:Frame) (k:List Go.Item) (cs:List Frame),∃ e a' w',Q e a' w'/\Arrives P (lone (b.at a (.code c::.inLoop c::k)) cs w) b k cs e a' w':=by
 intro st ex st' h
 induction h with
 | out st ex st' h he =>
  intro Z w a Q hs hQ b k cs
  obtain ⟨e,a1,w1,⟨rfl,hq⟩,harr⟩:=h c hc K Z w a (fun e a' w'=>e=ex/\∃ Z',StRep K Z' st' w' a'/\PinLe Z st Z' st') hN hs (fun Z' w' a' hs' hp=>⟨rfl,Z',hs',hp⟩) b (.inLoop c::k) cs
  obtain ⟨Z',hs',hp⟩:=hq
  exact ⟨e,a1,w1,hQ _ _ _ hs' hp,.pass (x:=.inLoop c) rfl (fun _ _=>.inl he) harr⟩
 | next st st1 ex st' h hl ih =>
  intro Z w a Q hs hQ b k cs
  obtain ⟨e,a1,w1,⟨rfl,hq⟩,harr⟩:=h c hc K Z w a (fun e a' w'=>e=.normal/\∃ Z',StRep K Z' st1 w' a'/\PinLe Z st Z' st1) hN hs (fun Z' w' a' hs' hp=>⟨rfl,Z',hs',hp⟩) b (.inLoop c::k) cs
  obtain ⟨Z',hs',hp⟩:=hq
  obtain ⟨e2,a2,w2,hq2,harr2⟩:=ih hs' (fun Z2 w2 a2 hs2 hp2=>hQ Z2 w2 a2 hs2 (hp.trans hp2)) b k cs
  exact ⟨e2,a2,w2,hq2,.of_steps (Steps.trans harr (.one step_inLoop)) harr2⟩
theorem Runs.loop (h:Loops P N x st ex st'):Runs P N (.loop x) st ex st':=by
 intro code hc K Z w a Q hN hs hQ
 obtain ⟨c,rfl,h1⟩:=ztb hc
 intro b k cs
 obtain ⟨e,a',w',hq,harr⟩:=h.key h1 hN hs hQ b k cs
 exact ⟨e,a',w',hq,.of_steps (.one step_loop) harr⟩
theorem Runs.weakL (h:Weak st st1) (k:Runs P N x st1 ex st'):Runs P N x st ex st':=by
 intro code hc K Z w a Q hN hs hQ
 obtain ⟨Z',hs',hp⟩:=h K Z w a hs
 exact k code hc K Z' w a Q hN hs' (fun Z2 w2 a2 hs2 hp2=>hQ Z2 w2 a2 hs2 (hp.trans hp2))
theorem Runs.weakR (k:Runs P N x st ex st1) (h:Weak st1 st'):Runs P N x st ex st':=by
 intro code hc K Z w a Q hN hs hQ
 refine k code hc K Z w a Q hN hs (fun Z' w' a' hs' hp=>?_)
 obtain ⟨Z'',hs'',hp'⟩:=h K Z' w' a' hs'
 exact hQ _ _ _ hs'' (hp.trans hp')
theorem Loops.weakL (h:Weak st st1) (k:Loops P N x st1 ex st'):Loops P N x st ex st':=by
 cases k with
 | out _ _ _ k he=>exact .out _ _ _ (.weakL h k) he
 | next _ s1 _ _ k hl=>exact .next _ s1 _ _ (.weakL h k) hl
end
end Go.Ab
