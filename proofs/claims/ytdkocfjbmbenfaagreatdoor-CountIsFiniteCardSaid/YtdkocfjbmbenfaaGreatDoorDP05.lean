/-
Proofs for the law CountIsFinite, part 5. Conditions: none.
-/
import Derived.Test.YtdkocfjbmbenfaaGreatDoorDP04
set_option maxRecDepth 100000
set_option maxHeartbeats 4000000
set_option linter.all false
namespace Go.Ab
def RRep (M:Nat->Option Obj) (w0 w:World):RV->Value->Prop
 | .pure v,x=>PRep M v x
 | .fresh sz es,x=>(es=[]/\x=.slice none 0 0)\/∃ (b cap:Nat) (cur:Array Value) (T:TypeId) (vals:List Value),x=.slice (some ⟨b,0,none⟩) es.length cap/\w0.heap.size<=b/\M b=none /\
   w.heap[b]?=some (.cells cur T (0,0))/\PReps M (es.flatMap PV.cells) vals/\(∀ (i:Nat) (v:Value),vals[i]?=some v->cur[i]?=some v)/\cur.size=cap*sz/\es.length<=cap/\cap<=maxLen /\
   (∀ c∈es.flatMap PV.cells,c.one=true)
 | .same _,_=>False
 | .hsp _ _ _ _,_=>False
def MArr (M:Nat->Option Obj) (w:World) (b:Option Nat) (cap sz:Nat) (es:List PV):Prop :=
 0<sz/\(∀ e∈es,e.sz=sz)/\(∀ c∈es.flatMap PV.cells,c.one=true)/\(b=none->es=[]) /\
 ∀ b',b=some b'->M b'=none/\∃ (cur:Array Value) (T:TypeId) (vals:List Value),w.heap[b']?=some (.cells cur T (0,0))/\PReps M (es.flatMap PV.cells) vals /\
  (∀ (i:Nat) (v:Value),vals[i]?=some v->cur[i]?=some v)/\cur.size=cap*sz/\es.length<=cap/\cap<=maxLen
def MRef (p:PV) (es:List PV) (b:Option Nat) (cap:Nat) (x:Value):Prop :=
 (p=.sl es/\x=match b with|none=>.slice none 0 0|some b=>.slice (some ⟨b,0,none⟩) es.length cap) \/
 (∃ e b',p=.ref e/\es=[e]/\b=some b'/\x=.pointer (some ⟨b',0,none⟩))
def MRes (M:Nat->Option Obj) (w0 w:World) (b:Option Nat) (cap n:Nat):RV->Value->Prop
 | .same l,x=>l<=n/\x=match b with|none=>.slice none 0 0|some b=>.slice (some ⟨b,0,none⟩) l cap
 | r,x=>RRep M w0 w r x
def SpM (P:Program) (f:FuncId) (args:List PV) (i sz:Nat) (es':List PV) (res:RV):Prop :=
 (∃ fn,P.funcs[f]?=some fn/\fn.body.isSome=true/\fn.name ≠ "runtime.NumGoroutine") /\
 ∀ (w:World) (M:Nat->Option Obj) (vals:List Value) (b:Option Nat) (cap:Nat) (es:List PV),(∀ b o,M b=some o->w.heap[b]?=some o)->vals.length=args.length ->
  (∀ p,args[i]?=some p->∃ x,vals[i]?=some x/\MRef p es b cap x)->i<args.length->MArr M w b cap sz es->(∀ j p,j≠i->args[j]?=some p->∃ x,vals[j]?=some x/\PRep M p x) ->
  Calls P f vals.toArray w fun e w'=>∃ x M',e=.returned x/\(∀ b o,M b=some o->M' b=some o)/\(∀ b o,M' b=some o->w'.heap[b]?=some o) /\
   (∀ b o,M' b=some o->M b=some o\/w.heap.size<=b)/\Keep w w' (fun c=>b=some c)/\es'.length=es.length/\MArr M' w' b cap sz es'/\MRes M' w w' b cap es.length res x
def Sp (P:Program) (f:FuncId) (args:List PV) (res:RV):Prop :=
 (∃ fn,P.funcs[f]?=some fn/\fn.body.isSome=true/\fn.name ≠ "runtime.NumGoroutine") /\
 ∀ (w:World) (M:Nat->Option Obj) (vals:List Value),(∀ b o,M b=some o->w.heap[b]?=some o)->PReps M args vals ->
  Calls P f vals.toArray w fun e w'=>∃ x M',e=.returned x/\(∀ b o,M b=some o->M' b=some o)/\(∀ b o,M' b=some o->w'.heap[b]?=some o) /\
   (∀ b o,M' b=some o->M b=some o\/w.heap.size<=b)/\Keep w w' (fun _=>False)/\RRep M' w w' res x
section
variable {P:Program} {K:Ctx} {Z Z':Cz} {st st':St} {w w':World} {a:Act} {orc:Option PCall} {d:Nat} {v:AV}
noncomputable def Mx (Z:Cz) (st:St) (w:World) (ids:List (Nat × Nat)) (b:Nat):Option Obj :=
 match Z.M b with
 | some o=>some o
 | none=>@ite _ (∃ s g o,(s,g)∈ids/\st.obj s g=some o/\Z.B s g=some b) (Classical.propDecidable _) (w.heap[b]?) none
theorem Mx_M {ids:List (Nat × Nat)} {b:Nat} {o:Obj} (h:Z.M b=some o):Mx Z st w ids b=some o:=by simp [Mx,h]
theorem z3j {ids:List (Nat × Nat)} {s g b:Nat} {o:AObj} (hh:HRep K Z st w) (hm:(s,g)∈ids) (ho:st.obj s g=some o) (hb:Z.B s g=some b):Mx Z st w ids b=w.heap[b]?:=by
 have h0:=hh.sep s g o b ho hb
 simp only [Mx,h0]
 exact if_pos ⟨s,g,o,hm,ho,hb⟩
theorem zbs {ids:List (Nat × Nat)} {b:Nat} {x:Obj} (h:Mx Z st w ids b=some x):Z.M b=some x\/(Z.M b=none/\w.heap[b]?=some x/\∃ s g o,(s,g)∈ids/\st.obj s g=some o/\Z.B s g=some b):=by
 unfold Mx at h
 split at h
 ·rename_i o ho; cases h; exact .inl ho
 ·rename_i ho
  split at h
  ·rename_i hc; exact .inr ⟨ho,h,hc⟩
  ·cases h
theorem zbw {α β : Type} {f : α -> Option β} {x : α} {xs:List α} {r:List β} (h:(x::xs).mapM f=some r):∃ y ys,f x=some y/\xs.mapM f=some ys/\r=y::ys:=by
 simp only [List.mapM_cons,Option.bind_eq_bind,Option.pure_def] at h
 cases hx:f x with
 | none=>simp [hx] at h
 | some y =>
  cases hs:xs.mapM f with
  | none=>simp [hx,hs] at h
  | some ys=>simp [hx,hs] at h; exact ⟨y,ys,rfl,rfl,h.symm⟩
theorem zb6 {α β : Type} {f : α -> Option β} {r:List β} (h:([]:List α).mapM f=some r):r=[]:=by simpa using h.symm
theorem zfh {α β : Type} {f : α -> Option β}:∀ {xs:List α} {r:List β},xs.mapM f=some r->r.length=xs.length
 | [],r,h=>by rw [zb6 h]; rfl
 | x::xs,r,h=>by obtain ⟨y,ys,_,h2,rfl⟩:=zbw h; simp [zfh h2]
theorem zsy {n:Nat} {u:AV} {p:PV} (h:toPV st n u=some p) (ho:u.one=true):p.one=true:=by
 cases n with
 | zero=>simp [toPV,ho] at h; subst h; rfl
 | succ n =>
  cases u<;>simp only [toPV] at h
  case p v=>cases h; exact ho
  case nil=>cases h; rfl
  case own s g off len =>
   split at h
   ·split at h
    ·obtain ⟨l,_,rfl⟩:=Option.map_eq_some_iff.1 h; rfl
    ·cases h
   ·cases h
  case ptr s g ix off =>
   split at h
   ·split at h
    ·split at h
     ·obtain ⟨l,_,rfl⟩:=Option.map_eq_some_iff.1 h; rfl
     ·cases h
    ·cases h
   ·cases h
  case cp v vsz off =>
   split at h
   ·cases h; rfl
   ·cases h
  case agg=>simp [AV.one] at ho
  case fn f caps=>obtain ⟨l,_,rfl⟩:=Option.map_eq_some_iff.1 h; rfl
  case tup=>simp [AV.one] at ho
  case skip=>cases h
  case undef=>cases h
theorem z3r {n:Nat} {u:AV} {p:PV} (h:toPV st n u=some p) (hs:0<u.sz):p.sz=u.sz:=by
 rcases AV.sz_pos hs with h1|⟨cs,rfl,h1⟩|⟨cs,rfl,h1⟩
 ·rw [(AV.cells_one h1).2,(PV.cells_one (zsy h h1)).2]
 ·cases n with
  | zero=>simp [toPV,AV.one] at h
  | succ n =>
   simp only [toPV] at h
   obtain ⟨l,hl,rfl⟩:=Option.map_eq_some_iff.1 h
   simp [PV.sz,AV.sz,zfh hl]
 ·cases n with
  | zero=>simp [toPV,AV.one,PV.one] at h
  | succ n=>simp only [toPV,Option.some.injEq] at h; subst h; rfl
theorem zf0 {n:Nat} {ids:List (Nat × Nat)} (ih:∀ (u:AV) (x:Value) (p:PV),ARep Z st u x->toPV st n u=some p->(∀ i∈deps st n u,i∈ids)->PRep (Mx Z st w ids) p x) :
  ∀ {vs:List AV} {xs:List Value} {ps:List PV},AReps Z st vs xs->vs.mapM (toPV st n)=some ps->(∀ i∈vs.flatMap (deps st n),i∈ids)->PReps (Mx Z st w ids) ps xs
 | _,_,ps,.nil,h,_=>by rw [zb6 h]; exact .nil
 | _,_,ps,.cons u x us xs hx hs,h,hd=>by
  obtain ⟨p,qs,h1,h2,rfl⟩:=zbw h
  exact .cons _ _ _ _ (ih u x p hx h1 (fun i hi=>hd i (by simp [hi]))) (zf0 ih hs h2 (fun i hi=>hd i (by simp only [List.flatMap_cons,List.mem_append]; exact .inr hi)))
theorem zgb {n:Nat} {sz:Nat} {ids:List (Nat × Nat)} (hp:0<sz) (ih:∀ (u:AV) (x:Value) (p:PV),ARep Z st u x->toPV st n u=some p->(∀ i∈deps st n u,i∈ids)->PRep (Mx Z st w ids) p x) :
  ∀ {es:List AV} {xs:List Value} {ps:List PV},AReps Z st (es.flatMap AV.cells) xs->es.mapM (toPV st n)=some ps->(∀ e∈es,e.sz=sz)->(∀ c∈es.flatMap AV.cells,c.one=true)->(∀ i∈es.flatMap (deps st n),i∈ids) ->
   PReps (Mx Z st w ids) (ps.flatMap PV.cells) xs/\(∀ p∈ps,p.sz=sz)/\(∀ c∈ps.flatMap PV.cells,c.one=true)
 | [],xs,ps,h,hm,_,_,_=>by
  rw [zb6 hm]
  cases h
  exact ⟨.nil,by simp,by simp⟩
 | e::es,xs,ps,h,hm,hsz,h1,hd=>by
  obtain ⟨p,qs,e1,e2,rfl⟩:=zbw hm
  rw [List.flatMap_cons] at h h1
  have hes:=hsz e (by simp)
  have hcl:e.cells.length=sz:=by rw [AV.cells_len (by omega)]; exact hes
  have ha:AReps Z st e.cells (xs.take sz):=by
   have:=h.take sz
   rwa [List.take_append_of_le_length (by omega),List.take_of_length_le (by omega)] at this
  have hb:AReps Z st (es.flatMap AV.cells) (xs.drop sz):=by
   have:=h.drop sz
   rwa [List.drop_append_of_le_length (by omega),List.drop_of_length_le (by omega),List.nil_append] at this
  obtain ⟨r1,r2,r3⟩:=zgb hp ih hb e2 (fun q hq=>hsz q (by simp [hq])) (fun c hc=>h1 c (List.mem_append.2 (.inr hc))) (fun i hi=>hd i (by simp only [List.flatMap_cons,List.mem_append]; exact .inr hi))
  have ho:∀ c∈e.cells,c.one=true:=fun c hc=>h1 c (List.mem_append.2 (.inl hc))
  have hpsz:=z3r e1 (by omega)
  have hde:∀ i∈deps st n e,i∈ids:=fun i hi=>hd i (by simp only [List.flatMap_cons,List.mem_append]; exact .inl hi)
  have key:PReps (Mx Z st w ids) p.cells (xs.take sz)/\∀ c∈p.cells,c.one=true:=by
   obtain ⟨k1,k2⟩:=ARep.of_cells (by omega) ho ha
   cases hone:e.one with
   | true =>
    obtain ⟨x,ex,hx⟩:=k1 hone
    have:=(ih e x p hx e1 hde).cells (by omega)
    have hx1:=hx.one_val hone
    rw [zgi hx1] at this
    rw [ex]
    exact ⟨this.1,this.2.2⟩
   | false =>
    have hx:=k2 hone
    have:=(ih e _ p hx e1 hde).cells (by omega)
    exact ⟨by simpa [Value.cells] using this.1,this.2.2⟩
  refine ⟨?_,?_,?_⟩
  ·rw [List.flatMap_cons,<- List.take_append_drop sz xs]; exact key.1.append r1
  ·intro q hq
   rcases List.mem_cons.1 hq with rfl|hq
   ·rw [hpsz]; exact hes
   ·exact r2 q hq
  ·rw [List.flatMap_cons]
   intro c hc
   rcases List.mem_append.1 hc with h|h
   ·exact key.2 c h
   ·exact r3 c h
theorem zfv (hh:HRep K Z st w) (ids:List (Nat × Nat)):∀ (n:Nat) (u:AV) (x:Value) (p:PV),ARep Z st u x->toPV st n u=some p->(∀ i∈deps st n u,i∈ids)->PRep (Mx Z st w ids) p x
 | 0,u,x,p,hr,h,_=>by
  simp [toPV] at h
  obtain ⟨h1,rfl⟩:=h
  exact .any x (hr.one_val h1)
 | n+1,u,x,p,hr,h,hd=>by
  have ih:=zfv hh ids n
  cases u<;>simp only [toPV] at h
  case p v=>cases h; exact hr.inv_p.mono (fun b o ho=>Mx_M ho)
  case nil=>cases h; cases hr; exact .sl0 none 0
  case own s g off len =>
   split at h
   ·rename_i o ho
    split at h
    ·rename_i hle
     obtain ⟨ps,hps,rfl⟩:=Option.map_eq_some_iff.1 h
     have hO:=hh.objs s g o ho
     have hpl:=zfh hps
     have hxl:((o.es.drop off).take len).length=len:=by simp; omega
     rw [hxl] at hpl
     simp only [deps,ho] at hd
     cases hr with
     | own0=>rw [List.eq_nil_of_length_eq_zero hpl]; exact .sl0 none 0
     | own _ _ _ _ o' b ad c e1 e2 e3 e4 e5 e6 =>
      rw [ho] at e1; cases e1
      rcases Nat.eq_zero_or_pos len with h0|h0
      ·subst h0; rw [List.eq_nil_of_length_eq_zero hpl]; exact .sl0 _ _
      ·have had:=e4 h0
       subst had
       obtain ⟨cur,T,vals,k1,k2,k3,k4,k5,k6⟩:=hO.blk b e2
       have hes:∀ e∈o.es,(AV.cells e).length=o.sz:=fun e he=>by rw [AV.cells_len (by rw [hO.els e he]; exact hO.pos),hO.els e he]
       have hfl:((o.es.drop off).take len).flatMap AV.cells=((o.es.flatMap AV.cells).drop (off*o.sz)).take (len*o.sz):=by
        rw [zde AV.cells o.sz _ len (fun e he=>hes e (List.mem_of_mem_drop he)),zd7 AV.cells o.sz _ off hes]
       obtain ⟨r1,r2,r3⟩:=zgb (w:=w) hO.pos ih (es:=(o.es.drop off).take len) (xs:=(vals.drop (off*o.sz)).take (len*o.sz)) (by rw [hfl]; exact (k2.drop _).take _) hps
        (fun e he=>hO.els e (List.mem_of_mem_drop (List.mem_of_mem_take he)))
        (fun c hc=>by rw [hfl] at hc; exact hO.one c (List.mem_of_mem_drop (List.mem_of_mem_take hc)))
        (fun i hi=>hd i (by
         obtain ⟨e,he,hie⟩:=List.mem_flatMap.1 hi
         exact List.mem_cons.2 (.inr (List.mem_flatMap.2 ⟨e,List.mem_of_mem_drop (List.mem_of_mem_take he),hie⟩))))
       have:=PRep.sl (M:=Mx Z st w ids) ps b (off*o.sz) c cur T (0,0) o.sz _ (by rw [z3j hh (hd (s,g) (by simp)) ho e2]; exact k1) hO.pos r2 r3 r1
        (fun i y hy=>by
         rw [List.getElem?_take] at hy
         split at hy
         ·rw [List.getElem?_drop] at hy; exact k3 _ _ hy
         ·cases hy) (by omega) (by omega)
       rwa [hpl] at this
     | ownD _ _ _ _ _ _ _ e2=>exact (zax ho e2).elim
    ·cases h
   ·cases h
  case ptr s g ix off =>
   split at h
   ·rename_i hix
    obtain ⟨rfl,rfl⟩:=hix
    split at h
    ·rename_i o ho
     split at h
     ·rename_i e hes
      obtain ⟨q,hq,rfl⟩:=Option.map_eq_some_iff.1 h
      have hO:=hh.objs s g o ho
      obtain ⟨b,hb,rfl⟩:=zed hr ho
      obtain ⟨cur,T,vals,k1,k2,k3,k4,k5,k6⟩:=hO.blk b hb
      simp only [deps,ho] at hd
      obtain ⟨r1,r2,r3⟩:=zgb (w:=w) (n:=n) hO.pos ih (es:=o.es) (xs:=vals) (ps:=[q]) k2 (by rw [hes]; simp [hq]) hO.els hO.one (fun i hi=>hd i (by simp only [List.mem_cons]; exact .inr hi))
      simp only [Nat.zero_mul,Nat.add_zero]
      exact .ref q b 0 cur T (0,0) vals (by rw [z3j hh (hd (s,g) (by simp)) ho hb]; exact k1) (by rw [r2 q (by simp)]; exact hO.pos) (by simpa using r3) (by simpa using r1) (by simpa using k3)
     ·cases h
    ·cases h
   ·cases h
  case cp v vsz off =>
   split at h
   ·rename_i h0
    subst h0
    cases h
    cases hr with
    | cp _ _ _ b o cur T fr vals m0 m1 m2 m3 m4 m5=>exact .ref v b o cur T fr vals (Mx_M m0) (by omega) m3 (m4.mono (fun b o ho=>Mx_M ho)) m5
   ·cases h
  case agg cs =>
   obtain ⟨ps,hps,rfl⟩:=Option.map_eq_some_iff.1 h
   cases hr with
   | agg _ vals h1 h2 =>
    refine .agg ps vals (fun c hc=>?_) (zf0 ih h2 hps (by simpa [deps] using hd))
    have hone:∀ {cs:List AV} {ps:List PV},(∀ c∈cs,c.one=true)->cs.mapM (toPV st n)=some ps->∀ p∈ps,p.one=true:=by
     intro cs
     induction cs with
     | nil=>intro ps _ h p hp; rw [zb6 h] at hp; simp at hp
     | cons c cs ihc =>
      intro ps h1 h p hp
      obtain ⟨y,ys,e1,e2,rfl⟩:=zbw h
      rcases List.mem_cons.1 hp with rfl|hp
      ·exact zsy e1 (h1 c (by simp))
      ·exact ihc (fun c hc=>h1 c (by simp [hc])) e2 p hp
    exact hone h1 hps c hc
  case fn f caps =>
   obtain ⟨ps,hps,rfl⟩:=Option.map_eq_some_iff.1 h
   cases hr with
   | fn _ _ vals h2=>exact .fn f ps vals (zf0 ih h2 hps (by simpa [deps] using hd))
  case tup vs =>
   obtain ⟨ps,hps,rfl⟩:=Option.map_eq_some_iff.1 h
   cases hr with
   | tup _ vals h2=>exact .tup ps vals (zf0 ih h2 hps (by simpa [deps] using hd))
  case skip=>cases h
  case undef=>cases h
end
end Go.Ab
namespace Go.Ab
section
variable {P:Program} {K:Ctx} {Z Z':Cz} {st st':St} {w w':World} {a:Act} {orc:Option PCall} {d:Nat} {v:AV}
theorem Keep.trans {w0 w1 w2:World} {X:Nat->Prop} (h:Keep w0 w1 X) (k:Keep w1 w2 (fun _=>False)):Keep w0 w2 X :=
 ⟨k.os.trans h.os,k.tape.trans h.tape,k.output.trans h.output,Nat.le_trans h.drawn k.drawn,Nat.le_trans h.size k.size,fun b hb hx=>(k.blk b (Nat.lt_of_lt_of_le hb h.size) (fun h=>h)).trans (h.blk b hb hx)⟩
theorem ZLe.growM {M1:Nat->Option Obj} (h1:∀ b o,Z.M b=some o->M1 b=some o):ZLe Z st { Z with M:=M1 } st :=
 ⟨h1,fun _=>Nat.le_refl _,fun _ _ _ h=>h,fun _ _ o h=>.inr ⟨o,h,rfl,rfl,rfl,rfl⟩⟩
theorem HRep.grow (h:HRep K Z st w) (hk:Keep w w' (fun _=>False)) (M1:Nat->Option Obj) (h1:∀ b o,Z.M b=some o->M1 b=some o) (h2:∀ b o,M1 b=some o->w'.heap[b]?=some o)
  (h3:∀ b o,M1 b=some o->Z.M b=some o\/K.X0 b\/K.w0.heap.size<=b) (h4:∀ s g o b,st.obj s g=some o->Z.B s g=some b->M1 b=none):HRep K { Z with M:=M1 } st w':=by
 refine ⟨fun s g o ho=>(h.objs s g o ho).later (ZLe.growM h1) rfl rfl (fun b hb=>hk.blk b (h.lt ho hb) (fun h=>h)),h.inj,h2,h4,h.own,fun b o hb=>h1 b o (h.m0 b o hb),fun b o hb=>?_,h.keep.trans hk⟩
 rcases h3 b o hb with h|h|h
 ·exact HRep.prov ‹_› b o h
 ·exact .inr (.inl h)
 ·exact .inr (.inr h)
theorem HRep.adopt (h:HRep K Z st w) (d:Nat) (o:AObj) (b:Nat) (cur:Array Value) (T:TypeId) (c:Nat) (vals:List Value) (hb:w.heap[b]?=some (.cells cur T (0,0))) (hM:Z.M b=none)
  (hno:∀ s g o,st.obj s g=some o->Z.B s g≠some b) (hx:K.X0 b\/K.w0.heap.size<=b)
  (h1:0<o.sz) (h2:∀ e∈o.es,e.sz=o.sz) (h3:∀ x∈o.es.flatMap AV.cells,x.one=true) (h4:AReps Z st (o.es.flatMap AV.cells) vals)
  (h5:∀ (i:Nat) (v:Value),vals[i]?=some v->cur[i]?=some v) (h6:cur.size=c*o.sz) (h7:o.es.length<=c) (h8:c<=maxLen) :
  HRep K (Z.setB d (st.site d).length (some b) c) (st.alloc d o) w:=by
 have hz:=ZLe.alloc Z st d o (some b) c
 have hB:∀ {s g:Nat},¬ (s=d/\g=(st.site d).length)->(Z.setB d (st.site d).length (some b) c).B s g=Z.B s g:=fun hx=>by simp only [Cz.setB]; rw [if_neg hx]
 have hC:∀ {s g:Nat},¬ (s=d/\g=(st.site d).length)->(Z.setB d (st.site d).length (some b) c).cap s g=Z.cap s g:=fun hx=>by simp only [Cz.setB]; rw [if_neg hx]
 refine ⟨fun s g o' ho=>?_,fun s g s' g' o' o'' b' ho ho' hb1 hb2=>?_,h.mem,fun s g o' b' ho hb'=>?_,fun s g o' b' ho hb'=>?_,h.m0,h.prov,h.keep⟩
 ·rw [zam] at ho
  by_cases hx:s=d/\g=(st.site d).length
  ·rw [if_pos hx] at ho; cases ho
   obtain ⟨rfl,rfl⟩:=hx
   refine ⟨h1,h2,h3,fun hnn=>(by simp [Cz.setB] at hnn),fun b' hb'=>?_⟩
   simp only [Cz.setB,and_self,if_true,Option.some.injEq] at hb' ⊢
   subst hb'
   exact ⟨cur,T,vals,hb,AReps.mono hz h4,h5,h6,h7,h8⟩
  ·rw [if_neg hx] at ho
   exact (h.objs s g o' ho).later hz (hB hx) (hC hx) (fun _ _=>rfl)
 ·rw [zam] at ho ho'
  by_cases hx1:s=d/\g=(st.site d).length<;>by_cases hx2:s'=d/\g'=(st.site d).length
  ·exact ⟨hx1.1.trans hx2.1.symm,hx1.2.trans hx2.2.symm⟩
  ·rw [if_neg hx2] at ho'; rw [hB hx2] at hb2
   obtain ⟨rfl,rfl⟩:=hx1
   simp only [Cz.setB,and_self,if_true,Option.some.injEq] at hb1
   subst hb1
   exact absurd hb2 (hno s' g' o'' ho')
  ·rw [if_neg hx1] at ho; rw [hB hx1] at hb1
   obtain ⟨rfl,rfl⟩:=hx2
   simp only [Cz.setB,and_self,if_true,Option.some.injEq] at hb2
   subst hb2
   exact absurd hb1 (hno s g o' ho)
  ·rw [if_neg hx1] at ho; rw [if_neg hx2] at ho'; rw [hB hx1] at hb1; rw [hB hx2] at hb2
   exact h.inj s g s' g' o' o'' b' ho ho' hb1 hb2
 ·rw [zam] at ho
  by_cases hx1:s=d/\g=(st.site d).length
  ·obtain ⟨rfl,rfl⟩:=hx1
   simp only [Cz.setB,and_self,if_true,Option.some.injEq] at hb'
   subst hb'; exact hM
  ·rw [if_neg hx1] at ho; rw [hB hx1] at hb'; exact h.sep s g o' b' ho hb'
 ·rw [zam] at ho
  by_cases hx1:s=d/\g=(st.site d).length
  ·obtain ⟨rfl,rfl⟩:=hx1
   simp only [Cz.setB,and_self,if_true,Option.some.injEq] at hb'
   subst hb'; exact hx
  ·rw [if_neg hx1] at ho; rw [hB hx1] at hb'; exact h.own s g o' b' ho hb'
theorem HRep.killAll:∀ (ids:List (Nat × Nat)) {st:St},HRep K Z st w->HRep K Z (killAll st ids) w
 | [],_,h=>h
 | (s,g)::r,_,h=>HRep.killAll r (h.kill s g)
theorem ZLe.killAll:∀ (ids:List (Nat × Nat)) (st:St),ZLe Z st Z (killAll st ids)
 | [],st=>ZLe.refl Z st
 | (s,g)::r,st=>(ZLe.kill Z st s g).trans (ZLe.killAll r (st.kill s g))
theorem zc0:∀ (ids:List (Nat × Nat)) (st:St) {s g:Nat} {o:AObj},(killAll st ids).obj s g=some o->st.obj s g=some o/\(s,g)∉ids
 | [],st,s,g,o,h=>⟨h,by simp⟩
 | (s',g')::r,st,s,g,o,h=>by
  obtain ⟨h1,h2⟩:=zc0 r (st.kill s' g') h
  rw [zeg] at h1
  split at h1
  ·cases h1
  ·rename_i hne
   exact ⟨h1,by simp only [List.mem_cons,Prod.mk.injEq,not_or]; exact ⟨hne,h2⟩⟩
theorem zb4:∀ (ids:List (Nat × Nat)) (st:St),(killAll st ids).sl=st.sl
 | [],_=>rfl
 | (s,g)::r,st=>zb4 r (st.kill s g)
theorem zp5 {M M':Nat->Option Obj} {v:PV} {x:Value} (hf:v.flat1=true) (h:PRep M v x):PRep M' v x:=by
 cases v<;>first|(simp [PV.flat1] at hf; done)|(cases h; constructor; done)|(cases h; exact .any _ (by assumption))
theorem zis {M M':Nat->Option Obj}:∀ {vs:List PV} {xs:List Value},(∀ c∈vs,c.flat1=true)->PReps M vs xs->PReps M' vs xs
 | _,_,_,.nil=>.nil
 | _,_,hf,.cons _ _ _ _ h hs=>.cons _ _ _ _ (zp5 (hf _ (by simp)) h) (zis (fun c hc=>hf c (by simp [hc])) hs)
theorem zts {M M':Nat->Option Obj} {v:PV} {x:Value} (hf:v.flat=true) (h:PRep M v x):PRep M' v x:=by
 cases v<;>first|exact zp5 hf h|skip
 cases h with
 | agg _ vals h1 h2=>exact .agg _ vals h1 (zis (by simpa [PV.flat] using hf) h2)
theorem zlc {M M':Nat->Option Obj}:∀ {es:List PV} {vals:List Value},(∀ e∈es,e.flat=true)->PReps M (es.flatMap PV.cells) vals->PReps M' (es.flatMap PV.cells) vals
 | [],vals,_,h=>by cases h; exact .nil
 | e::es,vals,hf,h=>by
  rw [List.flatMap_cons] at h ⊢
  have h1:=h.take e.cells.length
  have h2:=h.drop e.cells.length
  rw [List.take_left] at h1
  rw [List.drop_left] at h2
  have he:=hf e (by simp)
  rw [<- List.take_append_drop e.cells.length vals]
  refine PReps.append ?_ (zlc (fun q hq=>hf q (by simp [hq])) h2)
  refine zis (fun c hc=>?_) h1
  cases e<;>first|(simp only [PV.cells,List.mem_singleton] at hc; subst hc; exact he)|skip
  simp only [PV.flat,List.all_eq_true] at he
  exact he c hc
theorem zqn {c:PCall} {vs:List AV} {x:Value} {M':Nat->Option Obj} (hs:HRep K Z st w) (hM:∀ b o,Mx Z st w (vs.flatMap (deps st FUEL)) b=some o->M' b=some o) (hw:∀ b o,M' b=some o->w'.heap[b]?=some o)
  (hpv:∀ b o,M' b=some o->Mx Z st w (vs.flatMap (deps st FUEL)) b=some o\/w.heap.size<=b) (hk:Keep w w' (fun _=>False)) (hr:RRep M' w w' c.res x) (he:zev c st d (vs.flatMap (deps st FUEL))=some (v,st')) :
  ∃ Z',HRep K Z' st' w'/\ARep Z' st' v x/\ZLe Z st Z' st':=by
 generalize hids:vs.flatMap (deps st FUEL)=ids at *
 obtain ⟨Z1,st1,g1,g2,g3,g4,g5,g6⟩:∃ (Z1:Cz) (st1:St),st1=(if c.res.flat then st else killAll st ids)/\HRep K Z1 st1 w'/\ZLe Z st Z1 st1/\Z1.B=Z.B /\
   (∀ s g o,st1.obj s g=some o->st.obj s g=some o)/\((c.res.flat=true)\/Z1.M=M')/\(∀ b,M' b=none->Z1.M b=none):=by
  cases hfl:c.res.flat with
  | true =>
   have hM1:∀ b o,Z.M b=some o->(fun b=>match M' b with|some o=>if (Z.M b).isSome=true\/w.heap.size<=b then some o else none|none=>none) b=some o:=by
    intro b o hb
    have:=hM b o (Mx_M hb)
    simp [this,hb]
   refine ⟨{ Z with M:=fun b=>match M' b with|some o=>if (Z.M b).isSome=true\/w.heap.size<=b then some o else none|none=>none },st,by simp,?_,ZLe.growM hM1,rfl,fun _ _ _ h=>h,.inl rfl,fun b hb=>by simp [hb]⟩
   have hsplit:∀ b o,(match M' b with|some o=>if (Z.M b).isSome=true\/w.heap.size<=b then some o else none|none=>none)=some o->M' b=some o/\((Z.M b).isSome=true\/w.heap.size<=b):=by
    intro b o h
    split at h
    ·rename_i o' ho'
     split at h
     ·rename_i hc; cases h; exact ⟨ho',hc⟩
     ·cases h
    ·cases h
   refine hs.grow hk _ hM1 (fun b o hb=>hw b o (hsplit b o hb).1) (fun b o hb=>?_) (fun s g o b ho hb=>?_)
   ·obtain ⟨m1,m2⟩:=hsplit b o hb
    rcases m2 with m2|m2
    ·obtain ⟨o',ho'⟩:=Option.isSome_iff_exists.1 m2
     have:=hM b o' (Mx_M ho')
     rw [m1] at this; cases this
     exact .inl ho'
    ·exact .inr (.inr (Nat.le_trans hs.keep.size m2))
   ·have h0:=hs.sep s g o b ho hb
    have h1:=hs.lt ho hb
    cases hm:M' b with
    | none=>simp [hm]
    | some y=>simp [hm,h0]; omega
  | false =>
   have hM1:∀ b o,Z.M b=some o->M' b=some o:=fun b o hb=>hM b o (Mx_M hb)
   refine ⟨{ Z with M:=M' },killAll st ids,by simp,?_,(ZLe.killAll ids st).trans (ZLe.growM hM1),rfl,fun s g o h=>(zc0 ids st h).1,.inr rfl,fun _ h=>h⟩
   refine (HRep.killAll ids hs).grow hk M' hM1 hw (fun b o hb=>?_) (fun s g o b ho hb=>?_)
   ·rcases hpv b o hb with h|h
    ·rcases zbs h with h|⟨_,_,s,g,ob,_,e2,e3⟩
     ·exact .inl h
     ·exact .inr (hs.own s g ob b e2 e3)
    ·exact .inr (.inr (Nat.le_trans hs.keep.size h))
   ·obtain ⟨ho1,ho2⟩:=zc0 ids st ho
    cases hm:M' b with
    | none=>rfl
    | some y =>
     exfalso
     rcases hpv b y hm with h|h
     ·rcases zbs h with h|⟨_,_,s',g',ob,e1,e2,e3⟩
      ·rw [hs.sep s g o b ho1 hb] at h; cases h
      ·obtain ⟨rfl,rfl⟩:=hs.inj s g s' g' o ob b ho1 e2 hb e3
       exact ho2 e1
     ·have:=hs.lt ho1 hb; omega
 obtain ⟨g6,g7⟩:=g6
 unfold zev at he
 rw [<- g1] at he
 cases hres:c.res with
 | pure u =>
  rw [hres] at hr he g6
  simp only [Option.some.injEq,Prod.mk.injEq] at he
  obtain ⟨rfl,rfl⟩:=he
  refine ⟨Z1,g2,.p _ _ ?_,g3⟩
  rcases g6 with g6|g6
  ·exact zts g6 hr
  ·rw [g6]; exact hr
 | fresh sz es =>
  rw [hres] at hr he g6
  simp only at he
  split at he
  ·rename_i hc
   obtain ⟨hall,hp,hlim⟩:=hc
   simp only [Option.some.injEq,Prod.mk.injEq] at he
   obtain ⟨rfl,rfl⟩:=he
   have hsz:∀ e∈es,e.sz=sz:=fun e he=>by simpa using List.all_eq_true.1 hall e he
   rcases hr with ⟨rfl,rfl⟩|⟨b,cap,cur,T,vals,rfl,r1,r2,r3,r4,r5,r6,r7,r8,r9⟩
   ·exact ⟨_,g2.allocNil d sz hp,.own0 d _ ⟨sz,[]⟩ (by rw [zam,if_pos ⟨rfl,rfl⟩]; rfl) (by simp [Cz.setB]),g3.trans (ZLe.alloc _ _ _ _ _ _)⟩
   ·have hreps:AReps Z1 st1 ((es.map AV.p).flatMap AV.cells) vals:=by
     rw [zaj]
     refine AReps.of_p ?_
     rcases g6 with g6|g6
     ·exact zlc (by simpa [RV.flat] using g6) r4
     ·rw [g6]; exact r4
    have had:=g2.adopt d ⟨sz,es.map .p⟩ b cur T cap vals r3 (g7 b r2) (fun s g o ho hb=>by rw [g4] at hb; have:=hs.lt (g5 s g o ho) hb; omega) (.inr (Nat.le_trans hs.keep.size r1)) hp
     (fun e he=>by simp at he; obtain ⟨q,hq,rfl⟩:=he; exact hsz q hq)
     (fun q hq=>by rw [zaj] at hq; simp only [List.mem_map] at hq; obtain ⟨u,hu,rfl⟩:=hq; exact r9 u hu)
     hreps r5 r6 (by simpa using r7) r8
    refine ⟨_,had,?_,g3.trans (ZLe.alloc _ _ _ _ _ _)⟩
    exact .own d _ 0 es.length ⟨sz,es.map .p⟩ b _ cap (by rw [zam,if_pos ⟨rfl,rfl⟩]) (by simp [Cz.setB]) (fun _=>⟨rfl,by simp [Cz.setB]⟩) (fun _=>by simp) (by simp) r7
  ·cases he
 | same l=>rw [hres] at he; simp only at he; cases he
 | hsp _ _ _ _=>rw [hres] at he; simp only at he; cases he
theorem HRep.growX (h:HRep K Z st w) {s g:Nat} {o:AObj} (ho:st.obj s g=some o) (hk:Keep w w' (fun c=>Z.B s g=some c)) (M1:Nat->Option Obj) (h1:∀ b o,Z.M b=some o->M1 b=some o) (h2:∀ b o,M1 b=some o->w'.heap[b]?=some o)
  (h3:∀ b o,M1 b=some o->Z.M b=some o\/K.X0 b\/K.w0.heap.size<=b) (h4:∀ s g o b,st.obj s g=some o->Z.B s g=some b->M1 b=none) (es':List PV) (hl:es'.length=o.es.length) (ha:MArr M1 w' (Z.B s g) (Z.cap s g) o.sz es') :
  HRep K { Z with M:=M1 } (st.setObj s g ⟨o.sz,es'.map .p⟩) w':=by
 have hg:=zbt ho
 have hz:ZLe Z st { Z with M:=M1 } (st.setObj s g ⟨o.sz,es'.map .p⟩):=(ZLe.growM h1).trans (ZLe.setObj _ st s g o ⟨o.sz,es'.map .p⟩ ho rfl (by simpa using hl))
 have ob:∀ {s' g':Nat} {o':AObj},(st.setObj s g ⟨o.sz,es'.map .p⟩).obj s' g'=some o'->∃ o1,st.obj s' g'=some o1:=by
  intro s' g' o' hx
  rw [za8 _ _ _ _ _ _ hg] at hx
  split at hx
  ·rename_i he; obtain ⟨rfl,rfl⟩:=he; exact ⟨o,ho⟩
  ·exact ⟨o',hx⟩
 obtain ⟨a1,a2,a3,a4,a5⟩:=ha
 refine ⟨fun s' g' o' ho'=>?_,fun s' g' s'' g'' o' o'' b' b1 b2 b3 b4=>?_,h2,fun s' g' o' b' b1 b2=>?_,fun s' g' o' b' b1 b2=>?_,fun b o hb=>h1 b o (h.m0 b o hb),fun b o hb=>?_,?_⟩
 ·rw [za8 _ _ _ _ _ _ hg] at ho'
  by_cases he:s'=s/\g'=g
  ·rw [if_pos he] at ho'; cases ho'
   obtain ⟨rfl,rfl⟩:=he
   refine ⟨a1,fun e he=>?_,fun c hc=>?_,fun hn=>?_,fun b' hb'=>?_⟩
   ·obtain ⟨q,hq,rfl⟩:=List.mem_map.1 he; exact a2 q hq
   ·rw [zaj] at hc; obtain ⟨q,hq,rfl⟩:=List.mem_map.1 hc; exact a3 q hq
   ·have:=a4 hn; rw [this]; rfl
   ·obtain ⟨_,cur,T,vals,k1,k2,k3,k4,k5,k6⟩:=a5 b' hb'
    exact ⟨cur,T,vals,k1,by rw [zaj]; exact AReps.of_p k2,k3,k4,by simpa using k5,k6⟩
  ·rw [if_neg he] at ho'
   refine (h.objs s' g' o' ho').later hz rfl rfl (fun b' hb'=>hk.blk b' (h.lt ho' hb') (fun hx=>?_))
   exact he (h.inj s' g' s g o' o b' ho' ho hb' hx)
 ·obtain ⟨o1,x1⟩:=ob b1
  obtain ⟨o2,x2⟩:=ob b2
  exact h.inj s' g' s'' g'' o1 o2 b' x1 x2 b3 b4
 ·obtain ⟨o1,x1⟩:=ob b1; exact h4 s' g' o1 b' x1 b2
 ·obtain ⟨o1,x1⟩:=ob b1; exact h.own s' g' o1 b' x1 b2
 ·rcases h3 b o hb with h'|h'|h'
  ·exact h.prov b o h'
  ·exact .inr (.inl h')
  ·exact .inr (.inr h')
 ·refine ⟨hk.os.trans h.keep.os,hk.tape.trans h.keep.tape,hk.output.trans h.keep.output,Nat.le_trans h.keep.drawn hk.drawn,Nat.le_trans h.keep.size hk.size,fun b hb hx=>?_⟩
  rw [hk.blk b (Nat.lt_of_lt_of_le hb h.keep.size) (fun hB=>?_)]
  ·exact h.keep.blk b hb hx
  ·rcases h.own s g o b ho hB with h'|h'
   ·exact hx h'
   ·omega
theorem zks {u:Option AV} {s g len:Nat} {sl:Bool} (h:zi1 u=some (s,g,len,sl)):(u=some (.own s g 0 len)/\sl=true)\/(u=some (.ptr s g 0 0)/\len=1/\sl=false):=by
 unfold zi1 at h
 split at h
 ·split at h
  ·rename_i h0; cases h; subst h0; exact .inl ⟨rfl,rfl⟩
  ·cases h
 ·split at h
  ·rename_i h0; cases h; obtain ⟨rfl,rfl⟩:=h0; exact .inr ⟨rfl,rfl,rfl⟩
  ·cases h
 ·cases h
theorem zjf {c:PCall} {i sz:Nat} {es':List PV} {vs:List AV} (he:zfp c i sz es' st vs=some (v,st')):∃ s g len sl o,zi1 vs[i]?=some (s,g,len,sl)/\st.obj s g=some o/\i<vs.length/\len=o.es.length/\es'.length=len/\o.sz=sz /\
  (s,g)∉(vs.eraseIdx i).flatMap (deps st FUEL)++o.es.flatMap (deps st 5) /\
  ((∃ u,c.res=.pure u/\v=.p u)\/∃ l,c.res=.same l/\l<=len/\sl=true/\v=.own s g 0 l) /\
  st'=zuv c es' st ((vs.eraseIdx i).flatMap (deps st FUEL)++o.es.flatMap (deps st 5)) s g sz:=by
 unfold zfp at he
 split at he
 ·rename_i s g len sl href
  split at he
  ·rename_i o ho
   dsimp only at he
   generalize hids:(vs.eraseIdx i).flatMap (deps st FUEL)++o.es.flatMap (deps st 5)=ids at he
   by_cases hc:i<vs.length/\len=o.es.length/\es'.length=len/\o.sz=sz/\es'.all (fun v=>v.sz == sz)=true/\(es'.flatMap PV.cells).all PV.one=true/\ids.contains (s,g)=false
   ·rw [if_pos hc] at he
    obtain ⟨c1,c2,c3,c4,c5,c6,c7⟩:=hc
    have hni:(s,g)∉ids:=by
     intro hm
     have:=List.contains_iff_mem.2 hm
     rw [c7] at this; cases this
    split at he
    ·rename_i u hu
     simp only [Option.some.injEq,Prod.mk.injEq] at he
     obtain ⟨rfl,rfl⟩:=he
     exact ⟨s,g,len,sl,o,href,ho,c1,c2,c3,c4,by rw [hids]; exact hni,.inl ⟨u,hu,rfl⟩,by rw [hids]⟩
    ·cases he
    ·rename_i l hl
     split at he
     ·rename_i hll
      simp only [Option.some.injEq,Prod.mk.injEq] at he
      obtain ⟨rfl,rfl⟩:=he
      exact ⟨s,g,len,sl,o,href,ho,c1,c2,c3,c4,by rw [hids]; exact hni,.inr ⟨l,hl,hll.1,hll.2,rfl⟩,by rw [hids]⟩
     ·cases he
    ·cases he
   ·rw [if_neg hc] at he; cases he
  ·cases he
 ·cases he
theorem zvj {c:PCall} {i sz:Nat} {es':List PV} {vs:List AV} {x:Value} {M':Nat->Option Obj} {s g len:Nat} {sl:Bool} {o:AObj} (hs:HRep K Z st w) (ho:st.obj s g=some o) (hlen:len=o.es.length) (hsz:o.sz=sz)
  (hni:(s,g)∉(vs.eraseIdx i).flatMap (deps st FUEL)++o.es.flatMap (deps st 5))
  (hM:∀ b o',Mx Z st w ((vs.eraseIdx i).flatMap (deps st FUEL)++o.es.flatMap (deps st 5)) b=some o'->M' b=some o') (hw:∀ b o,M' b=some o->w'.heap[b]?=some o)
  (hpv:∀ b o',M' b=some o'->Mx Z st w ((vs.eraseIdx i).flatMap (deps st FUEL)++o.es.flatMap (deps st 5)) b=some o'\/w.heap.size<=b) (hk:Keep w w' (fun c=>Z.B s g=some c)) (hl:es'.length=o.es.length)
  (harr:MArr M' w' (Z.B s g) (Z.cap s g) sz es') (hr:MRes M' w w' (Z.B s g) (Z.cap s g) o.es.length c.res x)
  (hv:(∃ u,c.res=.pure u/\v=.p u)\/∃ l,c.res=.same l/\l<=len/\sl=true/\v=.own s g 0 l)
  (hst:st'=zuv c es' st ((vs.eraseIdx i).flatMap (deps st FUEL)++o.es.flatMap (deps st 5)) s g sz) :
  ∃ Z',HRep K Z' st' w'/\ARep Z' st' v x/\ZLe Z st Z' st':=by
 generalize hids:(vs.eraseIdx i).flatMap (deps st FUEL)++o.es.flatMap (deps st 5)=ids at *
 subst hsz
 unfold zuv at hst
 have fin:∀ {Z1:Cz} {st1:St},Z1.B=Z.B->Z1.cap=Z.cap->(st1.setObj s g ⟨o.sz,es'.map .p⟩).obj s g=some ⟨o.sz,es'.map .p⟩->(∀ u,c.res=.pure u->PRep Z1.M u x)->ARep Z1 (st1.setObj s g ⟨o.sz,es'.map .p⟩) v x:=by
  intro Z1 st1 hB hC hob hp
  rcases hv with ⟨u,hu,rfl⟩|⟨l,hlr,hll,hsl1,rfl⟩
  ·exact .p _ _ (hp u hu)
  ·rw [hlr] at hr
   obtain ⟨_,hx⟩:=hr
   cases hb:Z.B s g with
   | none =>
    rw [hb] at hx harr
    have h0:=harr.2.2.2.1 rfl
    have:l=0:=by rw [h0] at hl; simp at hl; omega
    subst this
    rw [hx]
    exact .own0 s g _ hob (by rw [hB,hb])
   | some b =>
    rw [hb] at hx harr
    obtain ⟨_,cur,T,vals,k1,k2,k3,k4,k5,k6⟩:=harr.2.2.2.2 b rfl
    rw [hx]
    exact .own s g 0 l _ b ⟨b,0,none⟩ _ hob (by rw [hB,hb]) (fun _=>⟨rfl,by rw [hC]⟩) (fun _=>by simp) (by simp; omega) (by omega)
 by_cases hfl:(c.res.flat&&es'.all PV.flat)=true
 ·rw [if_pos hfl] at hst
  subst hst
  simp only [Bool.and_eq_true] at hfl
  obtain ⟨hf1,hf2⟩:=hfl
  generalize hM2:(fun b=>match M' b with|some o=>if (Z.M b).isSome=true\/w.heap.size<=b then some o else none|none=>none)=M2
  have hsplit:∀ b o,M2 b=some o->M' b=some o/\((Z.M b).isSome=true\/w.heap.size<=b):=by
   intro b o h
   rw [<- hM2] at h
   simp only at h
   split at h
   ·rename_i o' ho'
    split at h
    ·rename_i hc; cases h; exact ⟨ho',hc⟩
    ·cases h
   ·cases h
  have hM1:∀ b o,Z.M b=some o->M2 b=some o:=by
   intro b o hb
   have:=hM b o (Mx_M hb)
   rw [<- hM2]
   simp [this,hb]
  have hh:=hs.growX ho hk M2 hM1 (fun b o hb=>hw b o (hsplit b o hb).1) (fun b o hb=>by
   obtain ⟨m1,m2⟩:=hsplit b o hb
   rcases m2 with m2|m2
   ·obtain ⟨o',ho'⟩:=Option.isSome_iff_exists.1 m2
    have:=hM b o' (Mx_M ho')
    rw [m1] at this; cases this
    exact .inl ho'
   ·exact .inr (.inr (Nat.le_trans hs.keep.size m2))) (fun s g o b ho hb=>by
    have h0:=hs.sep s g o b ho hb
    have h1:=hs.lt ho hb
    cases hm:M2 b with
    | none=>rfl
    | some y =>
     obtain ⟨_,m2⟩:=hsplit b y hm
     rcases m2 with m2|m2
     ·rw [h0] at m2; cases m2
     ·omega) es' hl (by
    obtain ⟨q1,q2,q3,q4,q5⟩:=harr
    refine ⟨q1,q2,q3,q4,fun b hb=>?_⟩
    obtain ⟨r0,cur,T,vals,r1,r2,r3⟩:=q5 b hb
    refine ⟨?_,cur,T,vals,r1,zlc (by simpa using hf2) r2,r3⟩
    rw [<- hM2]; simp [r0])
  have hz:ZLe Z st { Z with M:=M2 } (st.setObj s g ⟨o.sz,es'.map .p⟩):=(ZLe.growM hM1).trans (ZLe.setObj _ st s g o ⟨o.sz,es'.map .p⟩ ho rfl (by simpa using hl))
  refine ⟨_,hh,fin rfl rfl (by rw [za8 _ _ _ _ _ _ (zbt ho),if_pos ⟨rfl,rfl⟩]) (fun u hu=>?_),hz⟩
  rw [hu] at hr hf1
  exact zts hf1 hr
 ·rw [if_neg hfl] at hst
  subst hst
  have ho2:(killAll st ids).obj s g=some o:=by
   have key:∀ (l:List (Nat × Nat)) (st:St),(s,g)∉l->st.obj s g=some o->(killAll st l).obj s g=some o:=by
    intro l
    induction l with
    | nil=>intro st _ h; exact h
    | cons q r ih =>
     intro st hq h
     obtain ⟨s',g'⟩:=q
     simp only [List.mem_cons,Prod.mk.injEq,not_or] at hq
     exact ih (st.kill s' g') hq.2 (by rw [zeg,if_neg hq.1]; exact h)
   exact key ids st hni ho
  have hM1:∀ b o,Z.M b=some o->M' b=some o:=fun b o hb=>hM b o (Mx_M hb)
  have hh:=(HRep.killAll ids hs).growX ho2 hk M' hM1 hw (fun b o hb=>by
   rcases hpv b o hb with h|h
   ·rcases zbs h with h|⟨_,_,s,g,ob,_,e2,e3⟩
    ·exact .inl h
    ·exact .inr (hs.own s g ob b e2 e3)
   ·exact .inr (.inr (Nat.le_trans hs.keep.size h))) (fun s g o b ho hb=>by
    obtain ⟨ho1,ho2⟩:=zc0 ids st ho
    cases hm:M' b with
    | none=>rfl
    | some y =>
     exfalso
     rcases hpv b y hm with h|h
     ·rcases zbs h with h|⟨_,_,s',g',ob,e1,e2,e3⟩
      ·rw [hs.sep s g o b ho1 hb] at h; cases h
      ·obtain ⟨rfl,rfl⟩:=hs.inj s g s' g' o ob b ho1 e2 hb e3
       exact ho2 e1
     ·have:=hs.lt ho1 hb; omega) es' hl harr
  have hz:ZLe Z st { Z with M:=M' } ((killAll st ids).setObj s g ⟨o.sz,es'.map .p⟩):=((ZLe.killAll ids st).trans (ZLe.growM hM1)).trans (ZLe.setObj _ _ s g o ⟨o.sz,es'.map .p⟩ ho2 rfl (by simpa using hl))
  refine ⟨_,hh,fin rfl rfl (by rw [za8 _ _ _ _ _ _ (zbt ho2),if_pos ⟨rfl,rfl⟩]) (fun u hu=>?_),hz⟩
  rw [hu] at hr
  exact hr
end
end Go.Ab
