/- Lemmas for the law AmbiguityCounts, part 3. No conditions. -/
import Derived.Test.YtcemegnnejaahaaGreatDoorDP02
set_option maxRecDepth 100000
set_option maxHeartbeats 4000000
set_option linter.all false
namespace Go.Ab
def RRep(M:Nat->Option Obj)(w0 w:World):RV->Value->Prop
 | .pure v,x=>PRep M v x
 | .fresh sz es,x=>(es=[]/\x=.slice none 0 0)\/∃ (b cap:Nat) (cur:Array Value) (T:TypeId) (vals:List Value),x=.slice (some ⟨b,0,none⟩) es.length cap/\w0.heap.size<=b/\M b=none /\
   w.heap[b]?=some (.cells cur T (0,0))/\PReps M (es.flatMap PV.cells) vals/\(∀ (i:Nat) (v:Value),vals[i]?=some v->cur[i]?=some v)/\cur.size=cap*sz/\es.length<=cap/\cap<=maxLen /\
   (∀ c∈es.flatMap PV.cells,c.one=true)
 | .same _,_=>False
 | .hsp _ _ _ _,_=>False
def MArr(M:Nat->Option Obj)(w:World)(b:Option Nat)(cap sz:Nat)(es:List PV):Prop :=
 0<sz/\(∀ e∈es,e.sz=sz)/\(∀ c∈es.flatMap PV.cells,c.one=true)/\(b=none->es=[]) /\
 ∀ b',b=some b'->M b'=none/\∃ (cur:Array Value) (T:TypeId) (vals:List Value),w.heap[b']?=some (.cells cur T (0,0))/\PReps M (es.flatMap PV.cells) vals /\
  (∀ (i:Nat) (v:Value),vals[i]?=some v->cur[i]?=some v)/\cur.size=cap*sz/\es.length<=cap/\cap<=maxLen
def MRef(p:PV)(es:List PV)(b:Option Nat)(cap:Nat)(x:Value):Prop :=
 (p=.sl es/\x=match b with|none=>.slice none 0 0|some b=>.slice (some ⟨b,0,none⟩) es.length cap) \/
 (∃ e b',p=.ref e/\es=[e]/\b=some b'/\x=.pointer (some ⟨b',0,none⟩))
def MRes(M:Nat->Option Obj)(w0 w:World)(b:Option Nat)(cap n:Nat):RV->Value->Prop
 | .same l,x=>l<=n/\x=match b with|none=>.slice none 0 0|some b=>.slice (some ⟨b,0,none⟩) l cap
 | r,x=>RRep M w0 w r x
def SpM(P:Program)(f:FuncId)(args:List PV)(i sz:Nat)(es':List PV)(res:RV):Prop :=
 (∃ fn,P.funcs[f]?=some fn/\fn.body.isSome=true/\fn.name ≠ "runtime.NumGoroutine") /\
 ∀ (w:World) (M:Nat->Option Obj) (vals:List Value) (b:Option Nat) (cap:Nat) (es:List PV),(∀ b o,M b=some o->w.heap[b]?=some o)->vals.length=args.length ->
  (∀ p,args[i]?=some p->∃ x,vals[i]?=some x/\MRef p es b cap x)->i<args.length->MArr M w b cap sz es->(∀ j p,j≠i->args[j]?=some p->∃ x,vals[j]?=some x/\PRep M p x) ->
  Calls P f vals.toArray w fun e w'=>∃ x M',e=.returned x/\(∀ b o,M b=some o->M' b=some o)/\(∀ b o,M' b=some o->w'.heap[b]?=some o) /\
   (∀ b o,M' b=some o->M b=some o\/w.heap.size<=b)/\Keep w w' (fun c=>b=some c)/\es'.length=es.length/\MArr M' w' b cap sz es'/\MRes M' w w' b cap es.length res x
def Sp(P:Program)(f:FuncId)(args:List PV)(res:RV):Prop :=
 (∃ fn,P.funcs[f]?=some fn/\fn.body.isSome=true/\fn.name ≠ "runtime.NumGoroutine") /\
 ∀ (w:World) (M:Nat->Option Obj) (vals:List Value),(∀ b o,M b=some o->w.heap[b]?=some o)->PReps M args vals ->
  Calls P f vals.toArray w fun e w'=>∃ x M',e=.returned x/\(∀ b o,M b=some o->M' b=some o)/\(∀ b o,M' b=some o->w'.heap[b]?=some o) /\
   (∀ b o,M' b=some o->M b=some o\/w.heap.size<=b)/\Keep w w' (fun _=>False)/\RRep M' w w' res x
section
variable {P:Program} {K:Ctx} {Z Z':Cz} {st st':St} {w w':World} {a:Act} {orc:Option PCall} {d:Nat} {v:AV}
noncomputable def Mx(Z:Cz)(st:St)(w:World)(ids:List (Nat × Nat))(b:Nat):Option Obj :=
 match Z.M b with
 | some o=>some o
 | none=>@ite _ (∃ s g o,(s,g)∈ids/\st.obj s g=some o/\Z.B s g=some b) (Classical.propDecidable _) (w.heap[b]?) none
theorem Mx_M{ids:List (Nat × Nat)}{b:Nat}{o:Obj}(h:Z.M b=some o):Mx Z st w ids b=some o:=by simp[Mx,h]
theorem z4u{ids:List (Nat × Nat)}{s g b:Nat}{o:AObj}(hh:HRep K Z st w)(hm:(s,g)∈ids)(ho:st.obj s g=some o)(hb:Z.B s g=some b):Mx Z st w ids b=w.heap[b]?:=by have h0:=hh.sep s g o b ho hb;simp only[Mx,h0];exact yf1 ⟨s,g,o,hm,ho,hb⟩
theorem zbx{ids:List (Nat × Nat)}{b:Nat}{x:Obj}(h:Mx Z st w ids b=some x):Z.M b=some x\/(Z.M b=none/\w.heap[b]?=some x/\∃ s g o,(s,g)∈ids/\st.obj s g=some o/\Z.B s g=some b):=by
 unfold Mx at h;split at h
 ·grind
 ·simp_all
theorem zbz{α β : Type}{f : α -> Option β}{x : α}{xs:List α}{r:List β}(h:(x::xs).mapM f=some r):∃ y ys,f x=some y/\xs.mapM f=some ys/\r=y::ys:=by
 cases hx:f x with
 | none=>simp[hx]at h
 | some y =>
  cases hs:xs.mapM f with
  | none=>simp[hs]at h
  | some ys=>simp[hx,hs]at h;exact⟨y,ys,rfl,rfl,h.symm⟩
theorem zb9{α β : Type}{f : α -> Option β}{r:List β}(h:([]:List α).mapM f=some r):r=[]:=by simp_all
theorem zfn{α β : Type}{f : α -> Option β}:∀ {xs:List α} {r:List β},xs.mapM f=some r->r.length=xs.length
 | [],r,h=>by rw[zb9 h];rfl
 | x::xs,r,h=>by obtain⟨y,ys,_,h2,rfl⟩:=zbz h;simp[zfn h2]
theorem zs8{n:Nat}{u:AV}{p:PV}(h:toPV st n u=some p)(ho:u.one=true):p.one=true:=by
 cases n with
 | zero=>simp[toPV,ho]at h;subst h;rfl
 | succ n =>
  cases u<;>simp only[toPV]at h
  case p v=>cases h;exact ho
  case nil=>cases h;rfl
  case own s g off len =>
   split at h
   ·split at h
    ·obtain⟨l,_,rfl⟩:=ygv.1 h;rfl
    ·grind
   ·grind
  case ptr s g ix off =>
   split at h
   ·split at h
    ·split at h
     ·obtain⟨l,_,rfl⟩:=ygv.1 h;rfl
     ·grind
    ·grind
   ·grind
  case cp v vsz off =>
   split at h
   ·cases h;rfl
   ·grind
  case agg=>simp[AV.one]at ho
  case fn f caps=>obtain⟨l,_,rfl⟩:=ygv.1 h;rfl
  case tup=>simp[AV.one]at ho
  case skip=>cases h
  grind
theorem z5d{n:Nat}{u:AV}{p:PV}(h:toPV st n u=some p)(hs:0<u.sz):p.sz=u.sz:=by
 rcases AV.sz_pos hs with h1|⟨cs,rfl,h1⟩|⟨cs,rfl,h1⟩
 ·rw[(AV.cells_one h1).2,(PV.cells_one (zs8 h h1)).2]
 ·cases n with
  | zero=>simp[toPV,AV.one]at h
  | succ n =>
   obtain⟨l,hl,rfl⟩:=ygv.1 h;simp[PV.sz,AV.sz,zfn hl]
 ·cases n with
  | zero=>simp[toPV,AV.one,PV.one]at h
  | succ n=>simp[toPV]at h;subst h;rfl
theorem zgd{n:Nat}{ids:List (Nat × Nat)}(ih:∀ (u:AV) (x:Value) (p:PV),ARep Z st u x->toPV st n u=some p->(∀ i∈deps st n u,i∈ids)->PRep (Mx Z st w ids) p x) :
  ∀ {vs:List AV} {xs:List Value} {ps:List PV},AReps Z st vs xs->vs.mapM (toPV st n)=some ps->(∀ i∈vs.flatMap (deps st n),i∈ids)->PReps (Mx Z st w ids) ps xs
 | _,_,ps,.nil,h,_=>by rw[zb9 h];exact .nil
 | _,_,ps,.cons u x us xs hx hs,h,hd=>by obtain⟨p,qs,h1,h2,rfl⟩:=zbz h;exact .cons _ _ _ _ (ih u x p hx h1 (fun i hi=>hd i (by simp[hi]))) (zgd ih hs h2 (fun i hi=>hd i (by simp only[yft,yfk];exact .inr hi)))
theorem zgn{n:Nat}{sz:Nat}{ids:List (Nat × Nat)}(hp:0<sz)(ih:∀ (u:AV) (x:Value) (p:PV),ARep Z st u x->toPV st n u=some p->(∀ i∈deps st n u,i∈ids)->PRep (Mx Z st w ids) p x) :
  ∀ {es:List AV} {xs:List Value} {ps:List PV},AReps Z st (es.flatMap AV.cells) xs->es.mapM (toPV st n)=some ps->(∀ e∈es,e.sz=sz)->(∀ c∈es.flatMap AV.cells,c.one=true)->(∀ i∈es.flatMap (deps st n),i∈ids) ->
   PReps (Mx Z st w ids) (ps.flatMap PV.cells) xs/\(∀ p∈ps,p.sz=sz)/\(∀ c∈ps.flatMap PV.cells,c.one=true)
 | [],xs,ps,h,hm,_,_,_=>by
  rw[zb9 hm];cases h;exact⟨.nil,by simp,by simp⟩
 | e::es,xs,ps,h,hm,hsz,h1,hd=>by
  obtain⟨p,qs,e1,e2,rfl⟩:=zbz hm;rw[yft]at h h1;have hes:=hsz e (by simp);have hcl:e.cells.length=sz:=by rw[AV.cells_len (by omega)];exact hes
  have ha:AReps Z st e.cells (xs.take sz):=by
   have:=h.take sz
   rwa[yj8 (by omega),yfw (by omega)]at this
  have hb:AReps Z st (es.flatMap AV.cells) (xs.drop sz):=by
   have:=h.drop sz
   rwa[yis (by omega),yhf (by omega),yh7]at this
  obtain⟨r1,r2,r3⟩:=zgn hp ih hb e2 (fun q hq=>hsz q (by simp[hq])) (fun c hc=>h1 c (yfk.2 (.inr hc))) (fun i hi=>hd i (by simp only[yft,yfk];exact .inr hi));have ho:∀ c∈e.cells,c.one=true:=fun c hc=>h1 c (yfk.2 (.inl hc));have hpsz:=z5d e1 (by omega);have hde:∀ i∈deps st n e,i∈ids:=fun i hi=>hd i (by simp only[yft,yfk];exact .inl hi);have key:PReps (Mx Z st w ids) p.cells (xs.take sz)/\∀ c∈p.cells,c.one=true:=by
   obtain⟨k1,k2⟩:=ARep.of_cells (by omega) ho ha;cases hone:e.one with
   | true =>
    obtain⟨x,ex,hx⟩:=k1 hone;have:=(ih e x p hx e1 hde).cells (by omega);have hx1:=hx.one_val hone;rw[zgv hx1]at this;rw[ex];exact⟨this.1,this.2.2⟩
   | false =>
    have hx:=k2 hone;have:=(ih e _ p hx e1 hde).cells (by omega);exact⟨by simpa[Value.cells]using this.1,this.2.2⟩
  refine⟨?_,?_,?_⟩
  ·rw[yft,<- List.take_append_drop sz xs];exact key.1.append r1
  ·intro q hq;rcases yf4.1 hq with rfl|hq
   ·rw[hpsz];exact hes
   ·exact r2 q hq
  ·rw[yft];intro c hc;rcases yfk.1 hc with h|h
   ·exact key.2 c h
   ·exact r3 c h
theorem zf6(hh:HRep K Z st w)(ids:List (Nat × Nat)):∀ (n:Nat) (u:AV) (x:Value) (p:PV),ARep Z st u x->toPV st n u=some p->(∀ i∈deps st n u,i∈ids)->PRep (Mx Z st w ids) p x
 | 0,u,x,p,hr,h,_=>by
  simp[toPV]at h;obtain⟨h1,rfl⟩:=h;exact .any x (hr.one_val h1)
 | n+1,u,x,p,hr,h,hd=>by
  have ih:=zf6 hh ids n;cases u<;>simp only[toPV]at h
  case p v=>cases h;exact hr.inv_p.mono (fun b o ho=>Mx_M ho)
  case nil=>cases h;cases hr;exact .sl0 none 0
  case own s g off len =>
   split at h
   ·rename_i o ho;split at h
    ·rename_i hle;obtain⟨ps,hps,rfl⟩:=ygv.1 h;have hO:=hh.objs s g o ho;have hpl:=zfn hps;have hxl:((o.es.drop off).take len).length=len:=by simp;omega
     rw[hxl]at hpl;simp only[deps,ho]at hd;cases hr with
     | own0=>rw[yii hpl];exact .sl0 none 0
     | own _ _ _ _ o' b ad c e1 e2 e3 e4 e5 e6 =>
      rw[ho]at e1;cases e1;rcases yha len with h0|h0
      ·subst h0;rw[yii hpl];exact .sl0 _ _
      ·have had:=e4 h0;subst had;obtain⟨cur,T,vals,k1,k2,k3,k4,k5,k6⟩:=hO.blk b e2;have hes:∀ e∈o.es,(AV.cells e).length=o.sz:=fun e he=>by rw[AV.cells_len (by rw[hO.els e he];exact hO.pos),hO.els e he]
       have hfl:((o.es.drop off).take len).flatMap AV.cells=((o.es.flatMap AV.cells).drop (off*o.sz)).take (len*o.sz):=by rw[zgo AV.cells o.sz _ len (fun e he=>hes e (yga he)),zgp AV.cells o.sz _ off hes]
       obtain⟨r1,r2,r3⟩:=zgn (w:=w) hO.pos ih (es:=(o.es.drop off).take len) (xs:=(vals.drop (off*o.sz)).take (len*o.sz)) (by rw[hfl];exact(k2.drop _).take _) hps
        (fun e he=>hO.els e (yga (ygb he)))
        (fun c hc=>by rw[hfl]at hc;exact hO.one c (yga (ygb hc)))
        (fun i hi=>hd i (by
         obtain⟨e,he,hie⟩:=yg3.1 hi;exact yf4.2 (.inr (yg3.2 ⟨e,yga (ygb he),hie⟩))))
       have:=PRep.sl (M:=Mx Z st w ids) ps b (off*o.sz) c cur T (0,0) o.sz _ (by rw[z4u hh (hd (s,g) (by simp)) ho e2];exact k1) hO.pos r2 r3 r1
        (fun i y hy=>by
         rw[yit]at hy;split at hy
         ·rw[yic]at hy;exact k3 _ _ hy
         ·cases hy) (by omega) (by omega)
       rwa[hpl]at this
     | ownD _ _ _ _ _ _ _ e2=>exact(za4 ho e2).elim
    ·cases h
   ·cases h
  case ptr s g ix off =>
   split at h
   ·rename_i hix;obtain⟨rfl,rfl⟩:=hix;split at h
    ·rename_i o ho;split at h
     ·rename_i e hes;obtain⟨q,hq,rfl⟩:=Option.map_eq_some_iff.1 h;have hO:=hh.objs s g o ho;obtain⟨b,hb,rfl⟩:=zed hr ho;obtain⟨cur,T,vals,k1,k2,k3,k4,k5,k6⟩:=hO.blk b hb;simp only[deps,ho]at hd;obtain⟨r1,r2,r3⟩:=zgn (w:=w) (n:=n) hO.pos ih (es:=o.es) (xs:=vals) (ps:=[q]) k2 (by rw[hes];simp[hq]) hO.els hO.one (fun i hi=>hd i (by simp only[List.mem_cons];exact .inr hi));simp only[Nat.zero_mul,Nat.add_zero];exact .ref q b 0 cur T (0,0) vals (by rw[z4u hh (hd (s,g) (by simp)) ho hb];exact k1) (by rw[r2 q (by simp)];exact hO.pos) (by simpa using r3) (by simpa using r1) (by simpa using k3)
     ·cases h
    ·cases h
   ·cases h
  case cp v vsz off =>
   split at h
   ·rename_i h0;subst h0;cases h;cases hr with
    | cp _ _ _ b o cur T fr vals m0 m1 m2 m3 m4 m5=>exact .ref v b o cur T fr vals (Mx_M m0) (by omega) m3 (m4.mono (fun b o ho=>Mx_M ho)) m5
   ·cases h
  case agg cs =>
   obtain⟨ps,hps,rfl⟩:=ygv.1 h;cases hr with
   | agg _ vals h1 h2 =>
    refine .agg ps vals (fun c hc=>?_) (zgd ih h2 hps (by simpa[deps]using hd));have hone:∀ {cs:List AV} {ps:List PV},(∀ c∈cs,c.one=true)->cs.mapM (toPV st n)=some ps->∀ p∈ps,p.one=true:=by
     intro cs
     induction cs with
     | nil=>intro ps _ h p hp;rw[zb9 h]at hp;simp at hp
     | cons c cs ihc =>
      intro ps h1 h p hp;obtain⟨y,ys,e1,e2,rfl⟩:=zbz h;rcases yf4.1 hp with rfl|hp
      ·exact zs8 e1 (h1 c (by simp))
      ·exact ihc (fun c hc=>h1 c (by simp[hc])) e2 p hp
    exact hone h1 hps c hc
  case fn f caps =>
   obtain⟨ps,hps,rfl⟩:=ygv.1 h;cases hr with
   | fn _ _ vals h2=>exact .fn f ps vals (zgd ih h2 hps (by simpa[deps]using hd))
  case tup vs =>
   obtain⟨ps,hps,rfl⟩:=ygv.1 h;cases hr with
   | tup _ vals h2=>exact .tup ps vals (zgd ih h2 hps (by simpa[deps]using hd))
  case skip=>cases h
  case undef=>cases h
end
section
variable {P:Program} {K:Ctx} {Z Z':Cz} {st st':St} {w w':World} {a:Act} {orc:Option PCall} {d:Nat} {v:AV}
theorem Keep.trans{w0 w1 w2:World}{X:Nat->Prop}(h:Keep w0 w1 X)(k:Keep w1 w2 (fun _=>False)):Keep w0 w2 X :=
 ⟨k.os.trans h.os,k.tape.trans h.tape,k.output.trans h.output,yf7 h.drawn k.drawn,yf7 h.size k.size,fun b hb hx=>(k.blk b (yfo hb h.size) (fun h=>h)).trans (h.blk b hb hx)⟩
theorem ZLe.growM{M1:Nat->Option Obj}(h1:∀ b o,Z.M b=some o->M1 b=some o):ZLe Z st { Z with M:=M1 } st :=
 ⟨h1,fun _=>yf8 _,fun _ _ _ h=>h,fun _ _ o h=>.inr ⟨o,h,rfl,rfl,rfl,rfl⟩⟩
theorem HRep.grow(h:HRep K Z st w)(hk:Keep w w' (fun _=>False))(M1:Nat->Option Obj)(h1:∀ b o,Z.M b=some o->M1 b=some o)(h2:∀ b o,M1 b=some o->w'.heap[b]?=some o)
  (h3:∀ b o,M1 b=some o->Z.M b=some o\/K.X0 b\/K.w0.heap.size<=b) (h4:∀ s g o b,st.obj s g=some o->Z.B s g=some b->M1 b=none):HRep K { Z with M:=M1 } st w':=by
 refine⟨fun s g o ho=>(h.objs s g o ho).later (ZLe.growM h1) rfl rfl (fun b hb=>hk.blk b (h.lt ho hb) (fun h=>h)),h.inj,h2,h4,h.own,fun b o hb=>h1 b o (h.m0 b o hb),fun b o hb=>?_,h.keep.trans hk⟩;rcases h3 b o hb with h|h|h
 ·exact HRep.prov ‹_› b o h
 ·exact .inr (.inl h)
 ·exact .inr (.inr h)
theorem HRep.adopt(h:HRep K Z st w)(d:Nat)(o:AObj)(b:Nat)(cur:Array Value)(T:TypeId)(c:Nat)(vals:List Value)(hb:w.heap[b]?=some (.cells cur T (0,0)))(hM:Z.M b=none)
  (hno:∀ s g o,st.obj s g=some o->Z.B s g≠some b) (hx:K.X0 b\/K.w0.heap.size<=b)
  (h1:0<o.sz) (h2:∀ e∈o.es,e.sz=o.sz) (h3:∀ x∈o.es.flatMap AV.cells,x.one=true) (h4:AReps Z st (o.es.flatMap AV.cells) vals)
  (h5:∀ (i:Nat) (v:Value),vals[i]?=some v->cur[i]?=some v) (h6:cur.size=c*o.sz) (h7:o.es.length<=c) (h8:c<=maxLen) :
  HRep K (Z.setB d (st.site d).length (some b) c) (st.alloc d o) w:=by
 have hz:=ZLe.alloc Z st d o (some b) c;have hB:∀ {s g:Nat},¬ (s=d/\g=(st.site d).length)->(Z.setB d (st.site d).length (some b) c).B s g=Z.B s g:=fun hx=>by simp only[Cz.setB];rw[yf0 hx]
 have hC:∀ {s g:Nat},¬ (s=d/\g=(st.site d).length)->(Z.setB d (st.site d).length (some b) c).cap s g=Z.cap s g:=fun hx=>by simp only[Cz.setB];rw[yf0 hx]
 refine⟨fun s g o' ho=>?_,fun s g s' g' o' o'' b' ho ho' hb1 hb2=>?_,h.mem,fun s g o' b' ho hb'=>?_,fun s g o' b' ho hb'=>?_,h.m0,h.prov,h.keep⟩
 ·rw[zan]at ho;by_cases hx:s=d/\g=(st.site d).length
  ·rw[yf1 hx]at ho;cases ho;obtain⟨rfl,rfl⟩:=hx;refine⟨h1,h2,h3,fun hnn=>(by simp[Cz.setB]at hnn),fun b' hb'=>?_⟩;simp only[Cz.setB,and_self,yf2,yf3]at hb' ⊢;subst hb';exact⟨cur,T,vals,hb,AReps.mono hz h4,h5,h6,h7,h8⟩
  ·rw[yf0 hx]at ho;exact(h.objs s g o' ho).later hz (hB hx) (hC hx) (fun _ _=>rfl)
 ·rw[zan]at ho ho';by_cases hx1:s=d/\g=(st.site d).length<;>by_cases hx2:s'=d/\g'=(st.site d).length
  ·exact⟨hx1.1.trans hx2.1.symm,hx1.2.trans hx2.2.symm⟩
  ·rw[yf0 hx2]at ho';rw[hB hx2]at hb2;obtain⟨rfl,rfl⟩:=hx1;simp only[Cz.setB,and_self,yf2,yf3]at hb1;subst hb1;exact absurd hb2 (hno s' g' o'' ho')
  ·rw[yf0 hx1]at ho;rw[hB hx1]at hb1;obtain⟨rfl,rfl⟩:=hx2;simp only[Cz.setB,and_self,yf2,yf3]at hb2;subst hb2;exact absurd hb1 (hno s g o' ho)
  ·rw[yf0 hx1]at ho;rw[yf0 hx2]at ho';rw[hB hx1]at hb1;rw[hB hx2]at hb2;exact h.inj s g s' g' o' o'' b' ho ho' hb1 hb2
 ·rw[zan]at ho;by_cases hx1:s=d/\g=(st.site d).length
  ·obtain⟨rfl,rfl⟩:=hx1;simp only[Cz.setB,and_self,yf2,yf3]at hb';subst hb';exact hM
  ·rw[yf0 hx1]at ho;rw[hB hx1]at hb';exact h.sep s g o' b' ho hb'
 ·rw[zan]at ho;by_cases hx1:s=d/\g=(st.site d).length
  ·obtain⟨rfl,rfl⟩:=hx1;simp only[Cz.setB,and_self,yf2,yf3]at hb';subst hb';exact hx
  ·rw[yf0 hx1]at ho;rw[hB hx1]at hb';exact h.own s g o' b' ho hb'
theorem HRep.killAll:∀ (ids:List (Nat × Nat)) {st:St},HRep K Z st w->HRep K Z (killAll st ids) w
 | [],_,h=>h
 | (s,g)::r,_,h=>HRep.killAll r (h.kill s g)
theorem ZLe.killAll:∀ (ids:List (Nat × Nat)) (st:St),ZLe Z st Z (killAll st ids)
 | [],st=>ZLe.refl Z st
 | (s,g)::r,st=>(ZLe.kill Z st s g).trans (ZLe.killAll r (st.kill s g))
theorem zc7:∀ (ids:List (Nat × Nat)) (st:St) {s g:Nat} {o:AObj},(killAll st ids).obj s g=some o->st.obj s g=some o/\(s,g)∉ids
 | [],st,s,g,o,h=>⟨h,by simp⟩
 | (s',g')::r,st,s,g,o,h=>by
  obtain⟨h1,h2⟩:=zc7 r (st.kill s' g') h;rw[zeg]at h1;split at h1
  ·cases h1
  ·rename_i hne;exact⟨h1,by simp only[yf4,yf5,not_or];exact⟨hne,h2⟩⟩
theorem zbh:∀ (ids:List (Nat × Nat)) (st:St),(killAll st ids).sl=st.sl
 | [],_=>rfl
 | (s,g)::r,st=>zbh r (st.kill s g)
theorem zqg{M M':Nat->Option Obj}{v:PV}{x:Value}(hf:v.flat1=true)(h:PRep M v x):PRep M' v x:=by cases v<;>first|(simp[PV.flat1]at hf;done)|(cases h;constructor;done)|(cases h;exact .any _ (by assumption))
theorem ziy{M M':Nat->Option Obj}:∀ {vs:List PV} {xs:List Value},(∀ c∈vs,c.flat1=true)->PReps M vs xs->PReps M' vs xs
 | _,_,_,.nil=>.nil
 | _,_,hf,.cons _ _ _ _ h hs=>.cons _ _ _ _ (zqg (hf _ (by simp)) h) (ziy (fun c hc=>hf c (by simp[hc])) hs)
theorem z2n{M M':Nat->Option Obj}{v:PV}{x:Value}(hf:v.flat=true)(h:PRep M v x):PRep M' v x:=by
 cases v<;>first|exact zqg hf h|skip
 cases h with
 | agg _ vals h1 h2=>exact .agg _ vals h1 (ziy (by simpa[PV.flat]using hf) h2)
theorem zqf{M M':Nat->Option Obj}{v:PV}{x:Value}(hf:v.flatU=true)(h:PRep M v x):PRep M' v x:=by
 rcases(yij _ _).mp hf with hf|hf
 ·exact z2n hf h
 ·unfold PV.unit at hf;split at hf
  ·cases h with
   | tup _ vals h=>cases h;exact .tup _ [] .nil
  ·cases hf
theorem zlo{M M':Nat->Option Obj}:∀ {es:List PV} {vals:List Value},(∀ e∈es,e.flat=true)->PReps M (es.flatMap PV.cells) vals->PReps M' (es.flatMap PV.cells) vals
 | [],vals,_,h=>by cases h;exact .nil
 | e::es,vals,hf,h=>by
  rw[yft]at h ⊢;have h1:=h.take e.cells.length;have h2:=h.drop e.cells.length;rw[List.take_left]at h1;rw[List.drop_left]at h2;have he:=hf e (by simp);rw[<- List.take_append_drop e.cells.length vals];refine PReps.append ?_ (zlo (fun q hq=>hf q (by simp[hq])) h2);refine ziy (fun c hc=>?_) h1;cases e<;>first|(simp only[PV.cells,ygj]at hc;subst hc;exact he)|skip
  simp only[PV.flat,yfp]at he;exact he c hc
theorem zqu{c:PCall}{vs:List AV}{x:Value}{M':Nat->Option Obj}(hs:HRep K Z st w)(hM:∀ b o,Mx Z st w (vs.flatMap (deps st FUEL)) b=some o->M' b=some o)(hw:∀ b o,M' b=some o->w'.heap[b]?=some o)
  (hpv:∀ b o,M' b=some o->Mx Z st w (vs.flatMap (deps st FUEL)) b=some o\/w.heap.size<=b) (hk:Keep w w' (fun _=>False)) (hr:RRep M' w w' c.res x) (he:zex c st d (vs.flatMap (deps st FUEL))=some (v,st')) :
  ∃ Z',HRep K Z' st' w'/\ARep Z' st' v x/\ZLe Z st Z' st':=by
 generalize hids:vs.flatMap (deps st FUEL)=ids at *
 obtain⟨Z1,st1,g1,g2,g3,g4,g5,g6⟩:∃ (Z1:Cz) (st1:St),st1=(if c.res.flat then st else killAll st ids)/\HRep K Z1 st1 w'/\ZLe Z st Z1 st1/\Z1.B=Z.B /\
   (∀ s g o,st1.obj s g=some o->st.obj s g=some o)/\((c.res.flat=true)\/Z1.M=M')/\(∀ b,M' b=none->Z1.M b=none):=by
  cases hfl:c.res.flat with
  | true =>
   have hM1:∀ b o,Z.M b=some o->(fun b=>match M' b with|some o=>if (Z.M b).isSome=true\/w.heap.size<=b then some o else none|none=>none) b=some o:=by intro b o hb;have:=hM b o (Mx_M hb);simp[this,hb]
   refine⟨{ Z with M:=fun b=>match M' b with|some o=>if (Z.M b).isSome=true\/w.heap.size<=b then some o else none|none=>none },st,by simp,?_,ZLe.growM hM1,rfl,fun _ _ _ h=>h,.inl rfl,fun b hb=>by simp[hb]⟩;have hsplit:∀ b o,(match M' b with|some o=>if (Z.M b).isSome=true\/w.heap.size<=b then some o else none|none=>none)=some o->M' b=some o/\((Z.M b).isSome=true\/w.heap.size<=b):=by
    intro b o h;split at h
    ·rename_i o' ho';split at h
     ·rename_i hc;cases h;exact⟨ho',hc⟩
     ·cases h
    ·cases h
   refine hs.grow hk _ hM1 (fun b o hb=>hw b o (hsplit b o hb).1) (fun b o hb=>?_) (fun s g o b ho hb=>?_)
   ·obtain⟨m1,m2⟩:=hsplit b o hb;rcases m2 with m2|m2
    ·obtain⟨o',ho'⟩:=yhy.1 m2;have:=hM b o' (Mx_M ho');rw[m1]at this;cases this;exact .inl ho'
    ·exact .inr (.inr (yf7 hs.keep.size m2))
   ·have h0:=hs.sep s g o b ho hb;have h1:=hs.lt ho hb;cases hm:M' b with
    | none=>simp
    | some y=>simp[h0];omega
  | false =>
   have hM1:∀ b o,Z.M b=some o->M' b=some o:=fun b o hb=>hM b o (Mx_M hb);refine⟨{ Z with M:=M' },killAll st ids,by simp,?_,(ZLe.killAll ids st).trans (ZLe.growM hM1),rfl,fun s g o h=>(zc7 ids st h).1,.inr rfl,fun _ h=>h⟩;refine(HRep.killAll ids hs).grow hk M' hM1 hw (fun b o hb=>?_) (fun s g o b ho hb=>?_)
   ·rcases hpv b o hb with h|h
    ·rcases zbx h with h|⟨_,_,s,g,ob,_,e2,e3⟩
     ·exact .inl h
     ·exact .inr (hs.own s g ob b e2 e3)
    ·exact .inr (.inr (yf7 hs.keep.size h))
   ·obtain⟨ho1,ho2⟩:=zc7 ids st ho;cases hm:M' b with
    | none=>rfl
    | some y =>
     exfalso;rcases hpv b y hm with h|h
     ·rcases zbx h with h|⟨_,_,s',g',ob,e1,e2,e3⟩
      ·rw[hs.sep s g o b ho1 hb]at h;cases h
      ·obtain⟨rfl,rfl⟩:=hs.inj s g s' g' o ob b ho1 e2 hb e3;exact ho2 e1
     ·have:=hs.lt ho1 hb;omega
 obtain⟨g6,g7⟩:=g6;unfold zex at he;rw[<- g1]at he;cases hres:c.res with
 | pure u =>
  rw[hres]at hr he g6;simp only[yf3,yf5]at he;obtain⟨rfl,rfl⟩:=he;refine⟨Z1,g2,.p _ _ ?_,g3⟩;rcases g6 with g6|g6
  ·exact zqf g6 hr
  ·rw[g6];exact hr
 | fresh sz es =>
  rw[hres]at hr he g6;simp only at he;split at he
  ·rename_i hc;obtain⟨hall,hp,hlim⟩:=hc;simp only[Option.some.injEq,Prod.mk.injEq]at he;obtain⟨rfl,rfl⟩:=he;have hsz:∀ e∈es,e.sz=sz:=fun e he=>by simpa using List.all_eq_true.1 hall e he
   rcases hr with⟨rfl,rfl⟩|⟨b,cap,cur,T,vals,rfl,r1,r2,r3,r4,r5,r6,r7,r8,r9⟩
   ·exact⟨_,g2.allocNil d sz hp,.own0 d _ ⟨sz,[]⟩ (by rw[zan,yf1 ⟨rfl,rfl⟩];rfl) (by simp[Cz.setB]),g3.trans (ZLe.alloc _ _ _ _ _ _)⟩
   ·have hreps:AReps Z1 st1 ((es.map AV.p).flatMap AV.cells) vals:=by
     rw[zal];refine AReps.of_p ?_;rcases g6 with g6|g6
     ·exact zlo (by simpa[RV.flat]using g6) r4
     ·rw[g6];exact r4
    have had:=g2.adopt d ⟨sz,es.map .p⟩ b cur T cap vals r3 (g7 b r2) (fun s g o ho hb=>by rw[g4]at hb;have:=hs.lt (g5 s g o ho) hb;omega) (.inr (yf7 hs.keep.size r1)) hp
     (fun e he=>by simp at he;obtain⟨q,hq,rfl⟩:=he;exact hsz q hq)
     (fun q hq=>by rw[zal]at hq;simp only[yf6]at hq;obtain⟨u,hu,rfl⟩:=hq;exact r9 u hu)
     hreps r5 r6 (by simpa using r7) r8
    refine⟨_,had,?_,g3.trans (ZLe.alloc _ _ _ _ _ _)⟩;exact .own d _ 0 es.length ⟨sz,es.map .p⟩ b _ cap (by rw[zan,yf1 ⟨rfl,rfl⟩]) (by simp[Cz.setB]) (fun _=>⟨rfl,by simp[Cz.setB]⟩) (fun _=>by simp) (by simp) r7
  ·cases he
 | same l=>rw[hres]at he;simp only at he;cases he
 | hsp _ _ _ _=>rw[hres]at he;simp only at he;cases he
theorem HRep.growX(h:HRep K Z st w){s g:Nat}{o:AObj}(ho:st.obj s g=some o)(hk:Keep w w' (fun c=>Z.B s g=some c))(M1:Nat->Option Obj)(h1:∀ b o,Z.M b=some o->M1 b=some o)(h2:∀ b o,M1 b=some o->w'.heap[b]?=some o)
  (h3:∀ b o,M1 b=some o->Z.M b=some o\/K.X0 b\/K.w0.heap.size<=b) (h4:∀ s g o b,st.obj s g=some o->Z.B s g=some b->M1 b=none) (es':List PV) (hl:es'.length=o.es.length) (ha:MArr M1 w' (Z.B s g) (Z.cap s g) o.sz es') :
  HRep K { Z with M:=M1 } (st.setObj s g ⟨o.sz,es'.map .p⟩) w':=by
 have hg:=zby ho;have hz:ZLe Z st { Z with M:=M1 } (st.setObj s g ⟨o.sz,es'.map .p⟩):=(ZLe.growM h1).trans (ZLe.setObj _ st s g o ⟨o.sz,es'.map .p⟩ ho rfl (by simpa using hl));have ob:∀ {s' g':Nat} {o':AObj},(st.setObj s g ⟨o.sz,es'.map .p⟩).obj s' g'=some o'->∃ o1,st.obj s' g'=some o1:=by
  intro s' g' o' hx;rw[za9 _ _ _ _ _ _ hg]at hx;split at hx
  ·rename_i he;obtain⟨rfl,rfl⟩:=he;exact⟨o,ho⟩
  ·exact⟨o',hx⟩
 obtain⟨a1,a2,a3,a4,a5⟩:=ha;refine⟨fun s' g' o' ho'=>?_,fun s' g' s'' g'' o' o'' b' b1 b2 b3 b4=>?_,h2,fun s' g' o' b' b1 b2=>?_,fun s' g' o' b' b1 b2=>?_,fun b o hb=>h1 b o (h.m0 b o hb),fun b o hb=>?_,?_⟩
 ·rw[za9 _ _ _ _ _ _ hg]at ho';by_cases he:s'=s/\g'=g
  ·rw[yf1 he]at ho';cases ho';obtain⟨rfl,rfl⟩:=he;refine⟨a1,fun e he=>?_,fun c hc=>?_,fun hn=>?_,fun b' hb'=>?_⟩
   ·obtain⟨q,hq,rfl⟩:=yf6.1 he;exact a2 q hq
   ·rw[zal]at hc;obtain⟨q,hq,rfl⟩:=yf6.1 hc;exact a3 q hq
   ·have:=a4 hn;rw[this];rfl
   ·obtain⟨_,cur,T,vals,k1,k2,k3,k4,k5,k6⟩:=a5 b' hb';exact⟨cur,T,vals,k1,by rw[zal];exact AReps.of_p k2,k3,k4,by simpa using k5,k6⟩
  ·rw[yf0 he]at ho';refine(h.objs s' g' o' ho').later hz rfl rfl (fun b' hb'=>hk.blk b' (h.lt ho' hb') (fun hx=>?_));exact he (h.inj s' g' s g o' o b' ho' ho hb' hx)
 ·obtain⟨o1,x1⟩:=ob b1;obtain⟨o2,x2⟩:=ob b2;exact h.inj s' g' s'' g'' o1 o2 b' x1 x2 b3 b4
 ·obtain⟨o1,x1⟩:=ob b1;exact h4 s' g' o1 b' x1 b2
 ·obtain⟨o1,x1⟩:=ob b1;exact h.own s' g' o1 b' x1 b2
 ·rcases h3 b o hb with h'|h'|h'
  ·exact h.prov b o h'
  ·exact .inr (.inl h')
  ·exact .inr (.inr h')
 ·refine⟨hk.os.trans h.keep.os,hk.tape.trans h.keep.tape,hk.output.trans h.keep.output,yf7 h.keep.drawn hk.drawn,yf7 h.keep.size hk.size,fun b hb hx=>?_⟩;rw[hk.blk b (yfo hb h.keep.size) (fun hB=>?_)]
  ·exact h.keep.blk b hb hx
  ·rcases h.own s g o b ho hB with h'|h'
   ·exact hx h'
   ·omega
theorem zk3{u:Option AV}{s g len:Nat}{sl:Bool}(h:zi5 u=some (s,g,len,sl)):(u=some (.own s g 0 len)/\sl=true)\/(u=some (.ptr s g 0 0)/\len=1/\sl=false):=by
 unfold zi5 at h;split at h
 ·split at h
  ·rename_i h0;cases h;subst h0;exact .inl ⟨rfl,rfl⟩
  ·cases h
 ·split at h
  ·rename_i h0;cases h;obtain⟨rfl,rfl⟩:=h0;exact .inr ⟨rfl,rfl,rfl⟩
  ·cases h
 ·cases h
theorem zjm{c:PCall}{i sz:Nat}{es':List PV}{vs:List AV}(he:zfz c i sz es' st vs=some (v,st')):∃ s g len sl o,zi5 vs[i]?=some (s,g,len,sl)/\st.obj s g=some o/\i<vs.length/\len=o.es.length/\es'.length=len/\o.sz=sz /\
  (s,g)∉(vs.eraseIdx i).flatMap (deps st FUEL)++o.es.flatMap (deps st 5) /\
  ((∃ u,c.res=.pure u/\v=.p u)\/∃ l,c.res=.same l/\l<=len/\sl=true/\v=.own s g 0 l) /\
  st'=zu5 c es' st ((vs.eraseIdx i).flatMap (deps st FUEL)++o.es.flatMap (deps st 5)) s g sz:=by
 unfold zfz at he;split at he
 ·rename_i s g len sl href;split at he
  ·rename_i o ho;dsimp only at he;generalize hids:(vs.eraseIdx i).flatMap (deps st FUEL)++o.es.flatMap (deps st 5)=ids at he;by_cases hc:i<vs.length/\len=o.es.length/\es'.length=len/\o.sz=sz/\es'.all (fun v=>v.sz == sz)=true/\(es'.flatMap PV.cells).all PV.one=true/\ids.contains (s,g)=false
   ·rw[yf1 hc]at he;obtain⟨c1,c2,c3,c4,c5,c6,c7⟩:=hc;have hni:(s,g)∉ids:=by intro hm;have:=yiy.2 hm;rw[c7]at this;cases this
    split at he
    ·rename_i u hu;simp only[yf3,yf5]at he;obtain⟨rfl,rfl⟩:=he;exact⟨s,g,len,sl,o,href,ho,c1,c2,c3,c4,by rw[hids];exact hni,.inl ⟨u,hu,rfl⟩,by rw[hids]⟩
    ·cases he
    ·rename_i l hl;split at he
     ·rename_i hll;simp only[yf3,yf5]at he;obtain⟨rfl,rfl⟩:=he;exact⟨s,g,len,sl,o,href,ho,c1,c2,c3,c4,by rw[hids];exact hni,.inr ⟨l,hl,hll.1,hll.2,rfl⟩,by rw[hids]⟩
     ·cases he
    ·cases he
   ·rw[yf0 hc]at he;cases he
  ·cases he
 ·cases he
theorem zvt{c:PCall}{i sz:Nat}{es':List PV}{vs:List AV}{x:Value}{M':Nat->Option Obj}{s g len:Nat}{sl:Bool}{o:AObj}(hs:HRep K Z st w)(ho:st.obj s g=some o)(hlen:len=o.es.length)(hsz:o.sz=sz)
  (hni:(s,g)∉(vs.eraseIdx i).flatMap (deps st FUEL)++o.es.flatMap (deps st 5))
  (hM:∀ b o',Mx Z st w ((vs.eraseIdx i).flatMap (deps st FUEL)++o.es.flatMap (deps st 5)) b=some o'->M' b=some o') (hw:∀ b o,M' b=some o->w'.heap[b]?=some o)
  (hpv:∀ b o',M' b=some o'->Mx Z st w ((vs.eraseIdx i).flatMap (deps st FUEL)++o.es.flatMap (deps st 5)) b=some o'\/w.heap.size<=b) (hk:Keep w w' (fun c=>Z.B s g=some c)) (hl:es'.length=o.es.length)
  (harr:MArr M' w' (Z.B s g) (Z.cap s g) sz es') (hr:MRes M' w w' (Z.B s g) (Z.cap s g) o.es.length c.res x)
  (hv:(∃ u,c.res=.pure u/\v=.p u)\/∃ l,c.res=.same l/\l<=len/\sl=true/\v=.own s g 0 l)
  (hst:st'=zu5 c es' st ((vs.eraseIdx i).flatMap (deps st FUEL)++o.es.flatMap (deps st 5)) s g sz) :
  ∃ Z',HRep K Z' st' w'/\ARep Z' st' v x/\ZLe Z st Z' st':=by
 generalize hids:(vs.eraseIdx i).flatMap (deps st FUEL)++o.es.flatMap (deps st 5)=ids at *
 subst hsz;unfold zu5 at hst;have fin:∀ {Z1:Cz} {st1:St},Z1.B=Z.B->Z1.cap=Z.cap->(st1.setObj s g ⟨o.sz,es'.map .p⟩).obj s g=some ⟨o.sz,es'.map .p⟩->(∀ u,c.res=.pure u->PRep Z1.M u x)->ARep Z1 (st1.setObj s g ⟨o.sz,es'.map .p⟩) v x:=by
  intro Z1 st1 hB hC hob hp;rcases hv with⟨u,hu,rfl⟩|⟨l,hlr,hll,hsl1,rfl⟩
  ·exact .p _ _ (hp u hu)
  ·rw[hlr]at hr;obtain⟨_,hx⟩:=hr;cases hb:Z.B s g with
   | none =>
    rw[hb]at hx harr;have h0:=harr.2.2.2.1 rfl;have:l=0:=by rw[h0]at hl;simp at hl;omega
    subst this;rw[hx];exact .own0 s g _ hob (by rw[hB,hb])
   | some b =>
    rw[hb]at hx harr;obtain⟨_,cur,T,vals,k1,k2,k3,k4,k5,k6⟩:=harr.2.2.2.2 b rfl;rw[hx];exact .own s g 0 l _ b ⟨b,0,none⟩ _ hob (by rw[hB,hb]) (fun _=>⟨rfl,by rw[hC]⟩) (fun _=>by simp) (by simp;omega) (by omega)
 by_cases hfl:(c.res.flat&&es'.all PV.flat)=true
 ·rw[yf1 hfl]at hst;subst hst;simp only[yfr]at hfl;obtain⟨hf1,hf2⟩:=hfl;generalize hM2:(fun b=>match M' b with|some o=>if (Z.M b).isSome=true\/w.heap.size<=b then some o else none|none=>none)=M2;have hsplit:∀ b o,M2 b=some o->M' b=some o/\((Z.M b).isSome=true\/w.heap.size<=b):=by
   intro b o h;rw[<- hM2]at h;simp only at h;split at h
   ·rename_i o' ho';split at h
    ·rename_i hc;cases h;exact⟨ho',hc⟩
    ·cases h
   ·cases h
  have hM1:∀ b o,Z.M b=some o->M2 b=some o:=by intro b o hb;have:=hM b o (Mx_M hb);rw[<- hM2];simp[this,hb]
  have hh:=hs.growX ho hk M2 hM1 (fun b o hb=>hw b o (hsplit b o hb).1) (fun b o hb=>by
   obtain⟨m1,m2⟩:=hsplit b o hb;rcases m2 with m2|m2
   ·obtain⟨o',ho'⟩:=yhy.1 m2;have:=hM b o' (Mx_M ho');rw[m1]at this;cases this;exact .inl ho'
   ·exact .inr (.inr (yf7 hs.keep.size m2))) (fun s g o b ho hb=>by
    have h0:=hs.sep s g o b ho hb;have h1:=hs.lt ho hb;cases hm:M2 b with
    | none=>rfl
    | some y =>
     obtain⟨_,m2⟩:=hsplit b y hm;rcases m2 with m2|m2
     ·rw[h0]at m2;cases m2
     ·omega) es' hl (by
    obtain⟨q1,q2,q3,q4,q5⟩:=harr;refine⟨q1,q2,q3,q4,fun b hb=>?_⟩;obtain⟨r0,cur,T,vals,r1,r2,r3⟩:=q5 b hb;refine⟨?_,cur,T,vals,r1,zlo (by simpa using hf2) r2,r3⟩;rw[<- hM2];simp[r0])
  have hz:ZLe Z st { Z with M:=M2 } (st.setObj s g ⟨o.sz,es'.map .p⟩):=(ZLe.growM hM1).trans (ZLe.setObj _ st s g o ⟨o.sz,es'.map .p⟩ ho rfl (by simpa using hl));refine⟨_,hh,fin rfl rfl (by rw[za9 _ _ _ _ _ _ (zby ho),if_pos ⟨rfl,rfl⟩]) (fun u hu=>?_),hz⟩;rw[hu]at hr hf1;exact zqf hf1 hr
 ·rw[yf0 hfl]at hst;subst hst;have ho2:(killAll st ids).obj s g=some o:=by
   have key:∀ (l:List (Nat × Nat)) (st:St),(s,g)∉l->st.obj s g=some o->(killAll st l).obj s g=some o:=by
    intro l
    induction l with
    | nil=>intro st _ h;exact h
    | cons q r ih =>
     intro st hq h;obtain⟨s',g'⟩:=q;simp only[yf4,yf5,not_or]at hq;exact ih (st.kill s' g') hq.2 (by rw[zeg,yf0 hq.1];exact h)
   exact key ids st hni ho
  have hM1:∀ b o,Z.M b=some o->M' b=some o:=fun b o hb=>hM b o (Mx_M hb);have hh:=(HRep.killAll ids hs).growX ho2 hk M' hM1 hw (fun b o hb=>by
   rcases hpv b o hb with h|h
   ·rcases zbx h with h|⟨_,_,s,g,ob,_,e2,e3⟩
    ·exact .inl h
    ·exact .inr (hs.own s g ob b e2 e3)
   ·exact .inr (.inr (yf7 hs.keep.size h))) (fun s g o b ho hb=>by
    obtain⟨ho1,ho2⟩:=zc7 ids st ho;cases hm:M' b with
    | none=>rfl
    | some y =>
     exfalso;rcases hpv b y hm with h|h
     ·rcases zbx h with h|⟨_,_,s',g',ob,e1,e2,e3⟩
      ·rw[hs.sep s g o b ho1 hb]at h;cases h
      ·obtain⟨rfl,rfl⟩:=hs.inj s g s' g' o ob b ho1 e2 hb e3;exact ho2 e1
     ·have:=hs.lt ho1 hb;omega) es' hl harr
  have hz:ZLe Z st { Z with M:=M' } ((killAll st ids).setObj s g ⟨o.sz,es'.map .p⟩):=((ZLe.killAll ids st).trans (ZLe.growM hM1)).trans (ZLe.setObj _ _ s g o ⟨o.sz,es'.map .p⟩ ho2 rfl (by simpa using hl));refine⟨_,hh,fin rfl rfl (by rw[za9 _ _ _ _ _ _ (zby ho2),if_pos ⟨rfl,rfl⟩]) (fun u hu=>?_),hz⟩;rw[hu]at hr;exact hr
end
def zyb(M:Nat->Option Obj)(ks vs:List PV)(es:Array MapEntry)(clock:Nat):Prop :=
 PReps M ks (es.toList.map (·.key))/\PReps M vs (es.toList.map (·.val))/\(es.toList.map (·.key)).Nodup/\(∀ e∈es.toList,e.born<clock)/\(es.toList.map (·.born)).Nodup
structure Fgn (Z:Cz) (st:St) (w:World) (r:Nat):Prop where
 m:Z.M r=none
 o:∀ s g o,st.obj s g=some o->Z.B s g≠some r
 lt:r<w.heap.size
def ownB(Z:Cz)(st:St)(b:Nat):Prop:=∃ s g o,st.obj s g=some o/\Z.B s g=some b
abbrev MapD:=Nat × List PV × List PV
def isR:Option MapD->Nat->Prop
 | none,_=>False
 | some m,b=>b=m.1
def zev(o:Option MapD)(K:Ctx)(Z:Cz)(st:St)(w:World):Prop :=
 match o with
 | none=>True
 | some m=>Fgn Z st w m.1/\(K.X0 m.1\/K.w0.heap.size<=m.1)/\∃ es clock,w.heap[m.1]?=some (.map es clock)/\zyb Z.M m.2.1 m.2.2 es clock
def HRes(res:HV)(Z:Cz)(st:St)(w0 w:World)(x:Value):Prop :=
 match res with
 | .av v=>ARep Z st v x
 | .fr sz es=>RRep Z.M w0 w (.fresh sz es) x/\∀ b n c,x=.slice (some ⟨b,0,none⟩) n c->∀ s g o,st.obj s g=some o->Z.B s g≠some b
 | .bx sz e us=>∃ (b cap:Nat) (cur:Array Value) (T:TypeId) (vals ys:List Value),x=.tuple (.pointer (some ⟨b,0,none⟩)::ys).toArray/\PReps Z.M us ys/\w0.heap.size<=b/\Z.M b=none/\w.heap[b]?=some (.cells cur T (0,0))/\AReps Z st e.cells vals /\
  (∀ (i:Nat) (v:Value),vals[i]?=some v->cur[i]?=some v)/\cur.size=cap*sz/\(1<=cap/\cap<=maxLen)/\(∀ c∈e.cells,c.one=true)/\∀ s g o,st.obj s g=some o->Z.B s g≠some b
abbrev ctxH(Z:Cz)(hp:List Site)(o:Option MapD)(w:World):Ctx:=⟨w,Z.M,fun b=>ownB Z ⟨[],hp⟩ b\/isR o b,0⟩
def HSpG(P:Program)(f:FuncId)(vs:List AV)(hp:List Site)(o:Option MapD)(res:HV)(hp':List Site)(o':Option MapD):Prop :=
 (∃ fn,P.funcs[f]?=some fn/\fn.body.isSome=true/\fn.name ≠ "runtime.NumGoroutine") /\
 ∀ (Z:Cz) (w:World) (vals:List Value),HRep (ctxH Z hp o w) Z ⟨[],hp⟩ w->zev o (ctxH Z hp o w) Z ⟨[],hp⟩ w->AReps Z ⟨[],hp⟩ vs vals ->
  Calls P f vals.toArray w fun e w'=>∃ x Z',e=.returned x/\HRep (ctxH Z hp o w) Z' ⟨[],hp'⟩ w'/\HRes res Z' ⟨[],hp'⟩ w w' x/\ZLe Z ⟨[],hp⟩ Z' ⟨[],hp'⟩/\zev o' (ctxH Z hp o w) Z' ⟨[],hp'⟩ w'
def HSp(P:Program)(f:FuncId)(vs:List AV)(hp:List Site)(v:AV)(hp':List Site):Prop:=HSpG P f vs hp none (.av v) hp' none
structure LaterX (R:Nat->Prop) (Z:Cz) (st:St) (w:World) (Z':Cz) (st':St) (w':World):Prop where
 M:∀ b o,Z.M b=some o->Z'.M b=some o
 f:∀ r,¬ R r->Fgn Z st w r->Fgn Z' st' w' r/\w'.heap[r]?=w.heap[r]?
 z:ZLe Z st Z' st'
theorem zae{st st2:St}{s g:Nat}(h:st2.site s=st.site s):st2.obj s g=st.obj s g:=by simp[St.obj,h]
theorem zh5{α : Type}{d : α}:∀ {l:List (Nat × α)} {s:Nat},look l s d=d\/∃ q∈l,q.1=s/\look l s d=q.2
 | [],_=>.inl rfl
 | (k,v)::r,s=>by
  simp[look];split
  ·simp_all
  ·rcases zh5 (d:=d) (l:=r) (s:=s)with h|⟨q,h1,h2⟩
   ·grind
   ·grind
theorem ze3(ks:List Nat):∀ l:List AV,zam ks l=l.all (zce ks)
 | []=>rfl
 | v::r=>by simp[zam,ze3 ks r]
section
variable {P:Program} {K:Ctx} {Z Z' Z2:Cz} {st st' st1 st2:St} {w w':World} {a:Act} {ks:List Nat} {v:AV}
theorem zhj{u:AV}(h:zce ks u=true):zam ks u.cells=true:=by
 cases u with
 | p p =>
  cases p with
  | agg cs=>simp[AV.cells,ze3,zce]
  | _=>rfl
 | agg cs=>exact h
 | _=>simp[AV.cells,zam,h]
theorem zrf{es:List AV}(h:zam ks es=true):zam ks (es.flatMap AV.cells)=true:=by
 simp only[ze3,yfp]at h ⊢;intro c hc;obtain⟨e,he,hc⟩:=yg3.1 hc;have:=zhj (h e he);rw[ze3]at this
 grind
mutual
theorem ARep.into(hs:∀ s,ks.contains s=true->st2.site s=st.site s)(hM:∀ b o,Z.M b=some o->Z2.M b=some o)(hB:∀ s g,ks.contains s=true->Z2.B s g=Z.B s g/\Z2.cap s g=Z.cap s g):∀ {u:AV} {x:Value},ARep Z st u x->zce ks u=true->ARep Z2 st2 u x
 | _,_,.p u x hp,_=>.p u x (PRep.mono hM hp)
 | _,_,.nil,_=>.nil
 | _,_,.own0 s g o ho hb,h=>.own0 s g o (by rw[zae (hs s h)];exact ho) (by rw[(hB s g h).1];exact hb)
 | _,_,.own s g off len o b ad c ho hb h1 h2 h3 h4,h=>.own s g off len o b ad c (by rw[zae (hs s h)];exact ho) (by rw[(hB s g h).1];exact hb) (by rw[(hB s g h).2];exact h1) h2 h3 h4
 | _,_,.ownD s g off len ad c hg hd,h=>.ownD s g off len ad c (by rw[hs s h];exact hg) (by rw[zae (hs s h)];exact hd)
 | _,_,.ptr s g ix off o b ho hb,h=>.ptr s g ix off o b (by rw[zae (hs s h)];exact ho) (by rw[(hB s g h).1];exact hb)
 | _,_,.ptrD s g ix off ad hg hd,h=>.ptrD s g ix off ad (by rw[hs s h];exact hg) (by rw[zae (hs s h)];exact hd)
 | _,_,.cp u vsz off b o cur T fr vals h0 h1 h2 h3 h4 h5,_=>.cp u vsz off b o cur T fr vals (hM _ _ h0) h1 h2 h3 (PReps.mono hM h4) h5
 | _,_,.agg cs vals h1 h2,h=>.agg cs vals h1 (AReps.into hs hM hB h2 h)
 | _,_,.fn f caps vals h1,h=>.fn f caps vals (AReps.into hs hM hB h1 h)
 | _,_,.tup vs vals h1,h=>.tup vs vals (AReps.into hs hM hB h1 h)
 | _,_,.skip,_=>.skip
 | _,_,.undef x,_=>.undef x
theorem AReps.into(hs:∀ s,ks.contains s=true->st2.site s=st.site s)(hM:∀ b o,Z.M b=some o->Z2.M b=some o)(hB:∀ s g,ks.contains s=true->Z2.B s g=Z.B s g/\Z2.cap s g=Z.cap s g):∀ {u:List AV} {x:List Value},AReps Z st u x->zam ks u=true->AReps Z2 st2 u x
 | _,_,.nil,_=>.nil
 | _,_,.cons u x us xs h1 h2,h=>by simp only[zam,yfr]at h;exact .cons _ _ _ _ (ARep.into hs hM hB h1 h.1) (AReps.into hs hM hB h2 h.2)
end
theorem ORep.into(hs:∀ s,ks.contains s=true->st2.site s=st.site s)(hM:∀ b o,Z.M b=some o->Z2.M b=some o)(hB:∀ s g,ks.contains s=true->Z2.B s g=Z.B s g/\Z2.cap s g=Z.cap s g){s g:Nat}{o:AObj}(hk:ks.contains s=true)(hr:zam ks o.es=true)
  (h:ORep Z st w s g o):ORep Z2 st2 w s g o:=by
 refine⟨h.pos,h.els,h.one,fun hn=>h.non (by rw[<- (hB s g hk).1];exact hn),fun b hb=>?_⟩;rw[(hB s g hk).1]at hb;obtain⟨cur,T,vals,k1,k2,k3,k4,k5,k6⟩:=h.blk b hb;rw[(hB s g hk).2];exact⟨cur,T,vals,k1,AReps.into hs hM hB k2 (zrf hr),k3,k4,k5,k6⟩
theorem zgl{hp:List Site}{s:Nat}(h:(hp.map (·.1)).contains s=false):look hp s []=[]:=by
 rcases zh5 (d:=([]:List (Option AObj))) (l:=hp) (s:=s)with h1|⟨q,h1,rfl,_⟩
 ·omega
 ·grind
theorem zob{hp r:List Site}{s:Nat}:look (hp++r) s []=if (hp.map (·.1)).contains s=true then look hp s []else look r s []:=by
 induction hp with
 | nil=>simp
 | cons q l ih =>
  obtain⟨k,x⟩:=q;simp[yi2,look];by_cases h:k=s
  ·grind
  ·grind
theorem zom{hp:List Site}(h:hpOk ks hp=true){s g:Nat}{o:AObj}(ho:(⟨[],hp⟩:St).obj s g=some o):zam ks o.es=true:=by
 rcases zh5 (d:=([]:List (Option AObj))) (l:=hp) (s:=s)with h1|⟨q,h1,_,h3⟩
 ·simp[St.obj,St.site,h1]at ho
 ·have:=yfp.1 (yfp.1 h q h1);simp[St.obj,St.site,h3]at ho;cases hg:q.2[g]? with
  | none=>rw[hg]at ho;cases ho
  | some x =>
   rw[hg]at ho;subst ho;exact this _ (yhi hg)
theorem zl1{hp:List Site}:∀ {r:List Site},zbb st hp r->∀ q∈r,st.site q.1=look hp q.1 []
 | q::r,h,x,hx=>by
  rcases yf4.1 hx with rfl|hx
  ·exact h.1
  ·exact zl1 h.2 x hx
theorem zvw{hp hp':List Site}{o o':Option MapD}{res:HV}{x:Value}(hoo:o'.map (·.1)=o.map (·.1))(hks:hp'.map (·.1)=hp.map (·.1))(hsite:∀ s,(hp.map (·.1)).contains s=true->st.site s=look hp s [])(hr1:hpOk (hp.map (·.1)) hp'=true)(hr2:(match res with | .av v=>zce (hp.map (·.1)) v | .bx _ e _=>zce (hp.map (·.1)) e|_=>true)=true)
  (hs:HRep K Z st w) (hm:zev o K Z st w) (hH:HRep (ctxH Z hp o w) Z' ⟨[],hp'⟩ w') (hx:HRes res Z' ⟨[],hp'⟩ w w' x) (hz:ZLe Z ⟨[],hp⟩ Z' ⟨[],hp'⟩) (hm':zev o' (ctxH Z hp o w) Z' ⟨[],hp'⟩ w') :
  ∃ Z2,HRep K Z2 ⟨st.sl,hp'++st.hp⟩ w'/\HRes res Z2 ⟨st.sl,hp'++st.hp⟩ w w' x/\ZLe Z st Z2 ⟨st.sl,hp'++st.hp⟩/\LaterX (isR o) Z st w Z2 ⟨st.sl,hp'++st.hp⟩ w'/\zev o' K Z2 ⟨st.sl,hp'++st.hp⟩ w':=by
 have mr:∀ b,isR o b->Fgn Z st w b/\(K.X0 b\/K.w0.heap.size<=b)/\Fgn Z' ⟨[],hp'⟩ w' b/\isR o' b:=fun b hb=>by
  cases o with
  | none=>exact hb.elim
  | some m =>
   cases o' with
   | none=>cases hoo
   | some m' =>
    have e:m'.1=m.1:=by simpa using hoo
    have hb:b=m.1:=hb;subst hb;exact⟨hm.1,hm.2.1,by have:=hm'.1;rw[e]at this;exact this,e.symm⟩
 have mr':∀ b,isR o' b->isR o b:=fun b hb=>by
  cases o with
  | none=>cases o' with
   | none=>exact hb
   | some m'=>cases hoo
  | some m =>
   cases o' with
   | none=>cases hoo
   | some m' =>
    have e:m'.1=m.1:=by simpa using hoo
    have hb:b=m'.1:=hb;show b=m.1;rw[hb,e]
 generalize hK:hp.map (·.1)=ks at *
 have s1:∀ s,ks.contains s=true->(⟨st.sl,hp'++st.hp⟩:St).site s=(⟨[],hp'⟩:St).site s:=fun s h=>by simp only[St.site,zob,hks,h,yf2]
 have s2:∀ s,ks.contains s=false->(⟨st.sl,hp'++st.hp⟩:St).site s=st.site s:=fun s h=>by simp only[St.site,zob,hks,h,yfl,yf9]
 have s0:∀ s,ks.contains s=true->st.site s=(⟨[],hp⟩:St).site s:=hsite;have e0:∀ s,ks.contains s=false->(⟨[],hp⟩:St).site s=[]:=fun s h=>zgl (by rw[hK];exact h);have e1:∀ s,ks.contains s=false->(⟨[],hp'⟩:St).site s=[]:=fun s h=>zgl (by rw[hks];exact h);have k1:∀ {s g o},(⟨[],hp'⟩:St).obj s g=some o->ks.contains s=true:=fun {s g o} ho=>by
  cases h:ks.contains s with
  | true=>rfl
  | false=>simp[St.obj,e1 s h]at ho
 have o0:∀ {s g o},ks.contains s=true->st.obj s g=some o->(⟨[],hp⟩:St).obj s g=some o:=fun {s g o} h ho=>by rw[zae (s0 s h)]at ho;exact ho
 have own0:∀ b,ownB Z ⟨[],hp⟩ b->∃ s g o,ks.contains s=true/\st.obj s g=some o/\Z.B s g=some b:=fun b ⟨s,g,o,ho,hb⟩=>by
  cases h:ks.contains s with
  | true=>exact⟨s,g,o,rfl.trans h,by rw[zae (s0 s h)];exact ho,hb⟩
  | false=>simp[St.obj,e0 s h]at ho
 let Z2:Cz:=⟨Z'.M,fun s g=>if ks.contains s=true then Z'.B s g else Z.B s g,fun s g=>if ks.contains s=true then Z'.cap s g else Z.cap s g⟩
 have B1:∀ s g,ks.contains s=true->Z2.B s g=Z'.B s g/\Z2.cap s g=Z'.cap s g:=fun s g h=>by simp only[Z2,h,yf2,and_self]
 have B2:∀ s g,ks.contains s=false->Z2.B s g=Z.B s g/\Z2.cap s g=Z.cap s g:=fun s g h=>by simp only[Z2,h,yfl,yf9,and_self]
 have hM:∀ b o,Z.M b=some o->Z'.M b=some o:=hH.m0;have hzl:ZLe Z st Z2 ⟨st.sl,hp'++st.hp⟩:=by
  refine⟨hM,fun s=>?_,fun s g hg hd=>?_,fun s g o ho=>?_⟩<;>cases h:ks.contains s
  ·rw[s2 s h];exact yf8 _
  ·rw[s1 s h,s0 s h];exact hz.len s
  ·rw[zae (s2 s h)];exact hd
  ·rw[zae (s1 s h)];exact hz.dead s g (by rw[<- s0 s h];exact hg) (by rw[<- zae (s0 s h)];exact hd)
  ·exact .inr ⟨o,by rw[zae (s2 s h)];exact ho,rfl,rfl,(B2 s g h).1,(B2 s g h).2⟩
  ·rw[zae (s1 s h),(B1 s g h).1,(B1 s g h).2];exact hz.live s g o (o0 h ho)
 have far:∀ {s g o b},ks.contains s=false->st.obj s g=some o->Z.B s g=some b->¬ ownB Z ⟨[],hp⟩ b/\b<w.heap.size:=fun {s g o b} h ho hb=>by refine⟨fun hx=>?_,hs.lt ho hb⟩;obtain⟨s3,g3,o3,c1,c2,c3⟩:=own0 b hx;obtain⟨rfl,rfl⟩:=hs.inj _ _ _ _ _ _ b ho c2 hb c3;rw[h]at c1;cases c1
 have hh:HRep K Z2 ⟨st.sl,hp'++st.hp⟩ w':=by
  have hk0:=hH.keep;refine⟨fun s g o ho=>?_,fun s g s' g' o o' b a1 a2 b1 b2=>?_,hH.mem,fun s g o b a1 b1=>?_,fun s g o b a1 b1=>?_,fun b o hb=>hM b o (hs.m0 b o hb),fun b o hb=>?_,?_⟩
  ·cases h:ks.contains s with
   | true =>
    rw[zae (s1 s h)]at ho;exact ORep.into (Z:=Z') (Z2:=Z2) s1 (fun _ _ h=>h) B1 h (zom hr1 ho) (hH.objs s g o ho)
   | false =>
    rw[zae (s2 s h)]at ho;exact(hs.objs s g o ho).later hzl (B2 s g h).1 (B2 s g h).2 fun b hb=>hk0.blk b (far h ho hb).2 (fun c=>c.elim (far h ho hb).1 fun c=>(mr b c).1.o _ _ _ ho hb)
  ·cases h:ks.contains s<;>cases h':ks.contains s'
   ·rw[zae (s2 _ h)]at a1;rw[zae (s2 _ h')]at a2;rw[(B2 _ _ h).1]at b1;rw[(B2 _ _ h').1]at b2;exact hs.inj _ _ _ _ _ _ b a1 a2 b1 b2
   ·rw[zae (s2 _ h)]at a1;rw[zae (s1 _ h')]at a2;rw[(B2 _ _ h).1]at b1;rw[(B1 _ _ h').1]at b2;have f:=far h a1 b1;rcases hH.own _ _ _ b a2 b2 with(c|c)|c
    ·exact absurd c f.1
    ·exact absurd b2 ((mr b c).2.2.1.o _ _ _ a2)
    ·have c':w.heap.size<=b:=c;omega
   ·rw[zae (s1 _ h)]at a1;rw[zae (s2 _ h')]at a2;rw[(B1 _ _ h).1]at b1;rw[(B2 _ _ h').1]at b2;have f:=far h' a2 b2;rcases hH.own _ _ _ b a1 b1 with(c|c)|c
    ·exact absurd c f.1
    ·exact absurd b1 ((mr b c).2.2.1.o _ _ _ a1)
    ·have c':w.heap.size<=b:=c;omega
   ·rw[zae (s1 _ h)]at a1;rw[zae (s1 _ h')]at a2;rw[(B1 _ _ h).1]at b1;rw[(B1 _ _ h').1]at b2;exact hH.inj _ _ _ _ _ _ b a1 a2 b1 b2
  ·cases h:ks.contains s
   ·rw[zae (s2 _ h)]at a1;rw[(B2 _ _ h).1]at b1;have f:=far h a1 b1;cases hm:Z'.M b with
    | none=>rfl
    | some y =>
     exfalso;rcases hH.prov b y hm with c|(c|c)|c
     ·have c':Z.M b=some y:=c;rw[hs.sep _ _ _ b a1 b1]at c';cases c'
     ·exact f.1 c
     ·rw[(mr b c).2.2.1.m]at hm;cases hm
     ·have c':w.heap.size<=b:=c;omega
   ·rw[zae (s1 _ h)]at a1;rw[(B1 _ _ h).1]at b1;exact hH.sep _ _ _ b a1 b1
  ·have old:∀ b,ownB Z ⟨[],hp⟩ b->K.X0 b\/K.w0.heap.size<=b:=fun b hx=>by obtain⟨s3,g3,o3,_,c2,c3⟩:=own0 b hx;exact hs.own _ _ _ b c2 c3
   cases h:ks.contains s
   ·rw[zae (s2 _ h)]at a1;rw[(B2 _ _ h).1]at b1;exact hs.own _ _ _ b a1 b1
   ·rw[zae (s1 _ h)]at a1;rw[(B1 _ _ h).1]at b1;rcases hH.own _ _ _ b a1 b1 with(c|c)|c
    ·exact old b c
    ·exact absurd b1 ((mr b c).2.2.1.o _ _ _ a1)
    ·exact .inr (yf7 hs.keep.size c)
  ·rcases hH.prov b o hb with c|(c|c)|c
   ·exact hs.prov b o c
   ·obtain⟨s3,g3,o3,_,c2,c3⟩:=own0 b c;exact .inr (hs.own _ _ _ b c2 c3)
   ·rw[(mr b c).2.2.1.m]at hb;cases hb
   ·exact .inr (.inr (yf7 hs.keep.size c))
  ·have k1:=hs.keep;refine⟨hk0.os.trans k1.os,hk0.tape.trans k1.tape,hk0.output.trans k1.output,yf7 k1.drawn hk0.drawn,yf7 k1.size hk0.size,fun b hb hx=>?_⟩;rw[hk0.blk b (yfo hb k1.size) (fun h=>?_),k1.blk b hb hx];have hxx:K.X0 b\/K.w0.heap.size<=b:=by
    rcases h with h|h
    ·obtain⟨s3,g3,o3,_,c2,c3⟩:=own0 b h;exact hs.own _ _ _ b c2 c3
    ·exact(mr b h).2.1
   rcases hxx with c|c
   ·exact hx c
   ·omega
 have hf:∀ r,Fgn Z st w r->(∀ s g o,(⟨[],hp'⟩:St).obj s g=some o->Z'.B s g≠some r)->Z'.M r=none->Fgn Z2 ⟨st.sl,hp'++st.hp⟩ w' r:=fun r hr h1 h2=>by
  refine⟨h2,fun s g o a1 b1=>?_,yfo hr.lt hH.keep.size⟩;cases h:ks.contains s
  ·rw[zae (s2 _ h)]at a1;rw[(B2 _ _ h).1]at b1;exact hr.o _ _ _ a1 b1
  ·rw[zae (s1 _ h)]at a1;rw[(B1 _ _ h).1]at b1;exact h1 _ _ _ a1 b1
 refine⟨Z2,hh,?_,hzl,⟨hM,fun r hR hr=>?_,hzl⟩,?_⟩
 ·cases res with
  | av v=>exact ARep.into (Z:=Z') (Z2:=Z2) s1 (fun _ _ h=>h) B1 hx hr2
  | fr sz es =>
   refine⟨hx.1,fun b n c hxe s g o a1 b1=>?_⟩;cases h:ks.contains s
   ·rw[zae (s2 _ h)]at a1;rw[(B2 _ _ h).1]at b1;have f:=far h a1 b1;rcases hx.1 with⟨_,h0⟩|⟨b',_,_,_,_,h0,h1,_⟩
    ·rw[hxe]at h0;cases h0
    ·rw[hxe]at h0;cases h0;omega
   ·rw[zae (s1 _ h)]at a1;rw[(B1 _ _ h).1]at b1;exact hx.2 b n c hxe s g o a1 b1
  | bx sz e us =>
   obtain⟨b,cap,cur,T,vals,ys,h1,h2,h3,h4,h5,h6,h7,h8,h8',h9,h10⟩:=hx;refine⟨b,cap,cur,T,vals,ys,h1,h2,h3,h4,h5,AReps.into (Z:=Z') (Z2:=Z2) s1 (fun _ _ h=>h) B1 h6 (zhj hr2),h7,h8,h8',h9,fun s g o a1 b1=>?_⟩;cases h:ks.contains s
   ·rw[zae (s2 _ h)]at a1;rw[(B2 _ _ h).1]at b1;have f:=far h a1 b1;omega
   ·rw[zae (s1 _ h)]at a1;rw[(B1 _ _ h).1]at b1;exact h10 s g o a1 b1
 ·have hno:¬ ownB Z ⟨[],hp⟩ r:=fun hx=>by obtain⟨s3,g3,o3,_,c2,c3⟩:=own0 r hx;exact hr.o _ _ _ c2 c3
  refine⟨hf r hr (fun s g o a1 b1=>?_) ?_,hH.keep.blk r hr.lt fun c=>c.elim hno hR⟩
  ·rcases hH.own _ _ _ r a1 b1 with(c|c)|c
   ·exact hno c
   ·exact hR c
   ·have c':w.heap.size<=r:=c;have:=hr.lt;omega
  ·cases hm:Z'.M r with
   | none=>rfl
   | some y =>
    exfalso;rcases hH.prov r y hm with c|(c|c)|c
    ·have c':Z.M r=some y:=c;rw[hr.m]at c';cases c'
    ·exact hno c
    ·exact hR c
    ·have c':w.heap.size<=r:=c;have:=hr.lt;omega
 ·cases ho':o' with
  | none=>trivial
  | some m' =>
   subst ho';obtain⟨g1,g2,g3⟩:=mr m'.1 (mr' _ rfl);obtain⟨m1,m2,m3⟩:=hm';exact⟨hf _ g1 m1.o m1.m,g2,m3⟩
theorem zz0{hp:List Site}{o:Option MapD}(hsite:∀ s,(hp.map (·.1)).contains s=true->st.site s=look hp s [])(hr:hpOk (hp.map (·.1)) hp=true)(hs:HRep K Z st w)(hm:zev o K Z st w):HRep (ctxH Z hp o w) Z ⟨[],hp⟩ w/\zev o (ctxH Z hp o w) Z ⟨[],hp⟩ w:=by
 have k0:∀ {s g o},(⟨[],hp⟩:St).obj s g=some o->(hp.map (·.1)).contains s=true:=fun {s g o} ho=>by
  cases h:(hp.map (·.1)).contains s with
  | true=>rfl
  | false=>simp[St.obj,St.site,zgl h]at ho
 have o0:∀ {s g o},(⟨[],hp⟩:St).obj s g=some o->st.obj s g=some o:=fun {s g o} ho=>by rw[zae (st2:=st) (st:=⟨[],hp⟩) (hsite s (k0 ho))];exact ho
 refine⟨⟨fun s g o ho=>ORep.into (st:=st) (st2:=⟨[],hp⟩) (Z2:=Z) (fun s h=>(hsite s h).symm) (fun _ _ h=>h) (fun _ _ _=>⟨rfl,rfl⟩) (k0 ho) (zom hr ho) (hs.objs s g o (o0 ho)),fun s g s' g' o o' b a1 a2=>hs.inj s g s' g' o o' b (o0 a1) (o0 a2),hs.mem,fun s g o b a1=>hs.sep s g o b (o0 a1),
  fun s g o b a1 b1=>.inl (.inl ⟨s,g,o,a1,b1⟩),fun _ _ h=>h,fun _ _ h=>.inl h,⟨rfl,rfl,rfl,yf8 _,yf8 _,fun _ _ _=>rfl⟩⟩,?_⟩
 cases o with
 | none=>trivial
 | some m=>exact⟨⟨hm.1.m,fun s g o a1=>hm.1.o s g o (o0 a1),hm.1.lt⟩,.inl (.inr rfl),hm.2.2⟩
theorem HRes.take{res:HV}{dd:Nat}{x:Value}{o:Option MapD}{w0:World}(hs:HRep K Z st w)(h:HRes res Z st w0 w x)(hr:zdi ks res=true)(h0:K.w0.heap.size<=w0.heap.size)(hm:zev o K Z st w)(hmlt:∀ b,isR o b->b<w0.heap.size) :
  ∃ Z2 v st2,zcd res st dd=(v,st2)/\HRep K Z2 st2 w/\ARep Z2 st2 v x/\st2.sl=st.sl/\ZLe Z st Z2 st2/\(∀ r,r<w0.heap.size->Fgn Z st w r->Fgn Z2 st2 w r)/\zev o K Z2 st2 w:=by
 have mk:∀ {Z2:Cz} {bo:Option Nat} {c:Nat} {u:AV} {ob:AObj},Z2=Z.setB dd (st.site dd).length bo c->(∀ b,bo=some b->w0.heap.size<=b)->zcd res st dd=(u,st.alloc dd ob)->HRep K Z2 (st.alloc dd ob) w->ARep Z2 (st.alloc dd ob) u x ->
    ∃ Z2 v st2,zcd res st dd=(v,st2)/\HRep K Z2 st2 w/\ARep Z2 st2 v x/\st2.sl=st.sl/\ZLe Z st Z2 st2/\(∀ r,r<w0.heap.size->Fgn Z st w r->Fgn Z2 st2 w r)/\zev o K Z2 st2 w:=by
  rintro Z2 bo c u ob rfl hb he h1 h2;have hf:∀ r,r<w0.heap.size->Fgn Z st w r->Fgn (Z.setB dd (st.site dd).length bo c) (st.alloc dd ob) w r:=fun r hr hF=>by
   refine⟨hF.m,fun s g o a1 b1=>?_,hF.lt⟩;rw[zan]at a1;simp only[Cz.setB]at b1;by_cases hx:s=dd/\g=(st.site dd).length
   ·grind
   ·rw[yf0 hx]at a1 b1;exact hF.o _ _ _ a1 b1
  refine⟨_,_,_,he,h1,h2,rfl,ZLe.alloc _ _ _ _ _ _,hf,?_⟩;cases o with
  | none=>trivial
  | some m=>exact⟨hf _ (hmlt _ rfl) hm.1,hm.2⟩
 cases res with
 | av v=>exact⟨Z,v,st,rfl,hs,h,rfl,ZLe.refl Z st,fun _ _ h=>h,hm⟩
 | bx sz e us =>
  simp only[zdi,yfr,decide_eq_true_eq,beq_iff_eq]at hr;obtain⟨⟨hsz,hp⟩,_⟩:=hr;obtain⟨b,cap,cur,T,vals,ys,rfl,h2,h3,h4,h5,h6,h7,h8,h8',h9,h10⟩:=h
  have had:=hs.adopt dd ⟨sz,[e]⟩ b cur T cap vals h5 h4 (fun s g o ho=>h10 s g o ho) (.inr (yf7 h0 h3)) hp (fun x hx=>by rw[ygj]at hx;subst hx;exact hsz)
    (fun q hq=>h9 q (by simpa using hq)) (by simpa using h6) h7 h8 (by simpa using h8'.1) h8'.2
  refine mk (u:=.tup (.ptr dd (st.site dd).length 0 0::us.map .p)) (ob:=⟨sz,[e]⟩) rfl (fun b' hb=>by cases hb;exact h3) rfl had (.tup _ _ (.cons _ _ _ _ ?_ (AReps.of_p h2)));have:=ARep.ptr (Z:=Z.setB dd (st.site dd).length (some b) cap) (st:=st.alloc dd ⟨sz,[e]⟩) dd (st.site dd).length 0 0 ⟨sz,[e]⟩ b (by rw[zan,if_pos ⟨rfl,rfl⟩]) (by simp[Cz.setB]);simpa using this
 | fr sz es =>
  simp only[zdi,Bool.and_eq_true,decide_eq_true_eq]at hr;obtain⟨hall,hp⟩:=hr;have hsz:∀ e∈es,e.sz=sz:=fun e he=>by simpa using List.all_eq_true.1 hall e he
  obtain⟨hrr,hno⟩:=h;rcases hrr with⟨rfl,rfl⟩|⟨b,cap,cur,T,vals,rfl,r1,r2,r3,r4,r5,r6,r7,r8,r9⟩
  ·exact mk (u:=.own dd (st.site dd).length 0 0) (ob:=⟨sz,[]⟩) rfl (fun b hb=>(by cases hb)) rfl (hs.allocNil dd sz hp) (.own0 dd _ ⟨sz,[]⟩ (by rw[zan,yf1 ⟨rfl,rfl⟩]) (by simp[Cz.setB]))
  ·have hreps:AReps Z st ((es.map AV.p).flatMap AV.cells) vals:=by rw[zal];exact AReps.of_p r4
   have had:=hs.adopt dd ⟨sz,es.map .p⟩ b cur T cap vals r3 r2 (fun s g o ho=>hno b _ _ rfl s g o ho) (.inr (yf7 h0 r1)) hp
     (fun e he=>by simp at he;obtain⟨q,hq,rfl⟩:=he;exact hsz q hq)
     (fun q hq=>by rw[zal]at hq;simp only[yf6]at hq;obtain⟨u,hu,rfl⟩:=hq;exact r9 u hu)
     hreps r5 r6 (by simpa using r7) r8
   exact mk (u:=.own dd (st.site dd).length 0 es.length) (ob:=⟨sz,es.map .p⟩) rfl (fun b' hb=>by cases hb;exact r1) rfl had (.own dd _ 0 es.length ⟨sz,es.map .p⟩ b _ cap (by rw[zan,yf1 ⟨rfl,rfl⟩]) (by simp[Cz.setB]) (fun _=>⟨rfl,by simp[Cz.setB]⟩) (fun _=>by simp) (by simp) r7)
end
end Go.Ab
