/-
Proofs for the law CountIsFinite, part 13. Conditions: none.
-/
import Derived.Test.YtdkocfjbmbenfaaGreatDoorDP12
import Derived.Maps.RangeRun
set_option maxRecDepth 100000
set_option maxHeartbeats 4000000
set_option linter.all false
namespace Go.Ab
open Enc (enc)
structure FA where
 r:Nat
 p:(Nat->Option Obj)->Option Obj->Prop
 mono:∀ M M' o,(∀ b x,M b=some x->M' b=some x)->p M o->p M' o
 fz:Bool:=false
 nb:Bool:=false
 pin:Ctx->Cz->St->World->Prop:=fun _ _ _ _=>True
 pmono:∀ K Z st w Z' st' w',Later Z st w Z' st' w'->pin K Z st w->pin K Z' st' w':=by intros; trivial
def zec (A:Option FA) (K:Ctx) (Z:Cz) (st:St) (w:World):Prop :=
 match A with
 | none=>True
 | some A=>match A.nb with
  | true=>A.pin K Z st w
  | false=>match A.fz with
  | true=>K.M0 A.r=none/\(K.X0 A.r\/K.w0.heap.size<=A.r)
  | false=>Fgn Z st w A.r/\(K.X0 A.r\/K.w0.heap.size<=A.r)/\A.p Z.M (w.heap[A.r]?)
section
variable {P:Program} {K:Ctx} {Z Z':Cz} {st st' st1 st2:St} {w w':World} {a:Act} {N:Nat} {ex:Exit} {A B:Option FA} {Post Post':Exit->St->Option FA->Prop} {PostI:St->Option FA->Prop}
theorem zec.later (h:zec A K Z st w) (hl:Later Z st w Z' st' w'):zec A K Z' st' w':=by
 cases A with
 | none=>trivial
 | some A =>
  unfold zec at h ⊢
  simp only at h ⊢
  cases hn:A.nb with
  | true=>rw [hn] at h; exact A.pmono _ _ _ _ _ _ _ hl h
  | false =>
  rw [hn] at h
  simp only at h ⊢
  cases hz:A.fz with
  | true=>rw [hz] at h; exact h
  | false =>
   rw [hz] at h
   obtain ⟨h1,h2,h3⟩:=h
   obtain ⟨k1,k2⟩:=hl.f _ h1
   refine ⟨k1,h2,?_⟩
   rw [k2]; exact A.mono _ _ _ hl.M h3
theorem Weak.frame (h:Weak st st') (hs:StRep K Z st w a):∃ Z',StRep K Z' st' w a/\Later Z st w Z' st' w:=by
 obtain ⟨Z',h1,h2⟩:=h _ _ _ _ hs.root
 exact ⟨Z',hs.unroot h1,⟨h1.heap.m0,fun r hr=>hr.later h1,h2⟩⟩
def MOp (P:Program) (N:Nat) (i:Ins) (st:St) (A:Option FA) (Post:St->Option FA->Prop):Prop :=
 ∀ (ops:Array Oper) (j:Nat) (o:Oper) (K:Ctx) (Z:Cz) (w:World) (a:Act) (Q:Exit->Act->World->Prop) (Kt:Act->World->Prop),K.N=N->ops[j]?=some o->zdn P N ops o=some i->StRep K Z st w a->zec A K Z st w ->
  (∀ st' A' Z' w' a',Post st' A'->StRep K Z' st' w' a'->zec A' K Z' st' w'->Kt a' w')->wpOp P ops Q j Kt a w
def MIns (P:Program) (N:Nat):List Ins->St->Option FA->(St->Option FA->Prop)->Prop
 | [],st,A,Post=>∃ st1,Weak st st1/\Post st1 A
 | i::is,st,A,Post=>MOp P N i st A fun s B=>MIns P N is s B Post
def MR (P:Program) (N:Nat) (ac:AC) (st:St) (A:Option FA) (Post:Exit->St->Option FA->Prop):Prop :=
 ∀ code,comp P N code=some ac->∀ (K:Ctx) (Z:Cz) (w:World) (a:Act) (Q:Exit->Act->World->Prop),K.N=N->StRep K Z st w a->zec A K Z st w ->
  (∀ ex st' A' Z' w' a',Post ex st' A'->StRep K Z' st' w' a'->zec A' K Z' st' w'->Q ex a' w')->code.wp P Q a w
theorem MOp.nat {orc:Option PCall} {i:Ins} (horc:zjl P orc) (he:exec orc st i=some st') (k:PostI st' A):MOp P N i st A PostI:=by
 intro ops j o K Z w a Q Kt hN hj hc hs hA hK
 subst hN
 refine zom (K:=⟨w,Z.M,ownB Z st,K.N⟩) hj hc hs.root horc he fun Z' w' a' hs' hp=>?_
 exact hK _ _ _ _ _ k (hs.unroot hs') (hA.later ⟨hs'.heap.m0,fun r hr=>hr.later hs',hp⟩)
theorem MOp.weak {i:Ins} (h:Weak st st1) (k:MOp P N i st1 A PostI):MOp P N i st A PostI:=by
 intro ops j o K Z w a Q Kt hN hj hc hs hA hK
 obtain ⟨Z',h1,h2⟩:=h.frame hs
 exact k ops j o K Z' w a Q Kt hN hj hc h1 (hA.later h2) hK
theorem MIns.run {is js:List Ins} {fs:List FP} (h:Run P is fs st st') (k:MIns P N js st' A PostI):MIns P N (is++js) st A PostI:=by
 induction h with
 | nil=>exact k
 | cons orc i is f fs st s1 st' h0 h1 h2 h3 ih=>exact .nat h0 h1 (ih k)
theorem MR.weak {ac:AC} (h:Weak st st1) (k:MR P N ac st1 A Post):MR P N ac st A Post:=by
 intro code hc K Z w a Q hN hs hA hQ
 obtain ⟨Z',h1,h2⟩:=h.frame hs
 exact k code hc K Z' w a Q hN h1 (hA.later h2) hQ
theorem MR.of_runs {ac:AC} (h:Runs P N ac st ex st') (k:Post ex st' A):MR P N ac st A Post:=by
 intro code hc K Z w a Q hN hs hA hQ
 exact h.frame hc hN hs fun Z' w' a' hs' _ hl=>hQ _ _ _ _ _ _ k hs' (hA.later hl)
theorem MR.of_vm {b:GC} (h:vm P N (fun ex s=>Post ex s A) [.code b] st):MR P N b.er st A Post:=by
 obtain ⟨ex,s,r1,r2⟩:=zcv _ (Nat.le_refl _) h
 exact .of_runs r1 r2
theorem MR.mono {ac:AC} (h:MR P N ac st A Post) (k:∀ ex s B,Post ex s B->Post' ex s B):MR P N ac st A Post' :=
 fun code hc K Z w a Q hN hs hA hQ=>h code hc K Z w a Q hN hs hA fun ex st' A' Z' w' a' hp=>hQ ex st' A' Z' w' a' (k _ _ _ hp)
theorem MR.seq {x y:AC} (h:MR P N x st A fun ex s B=>(ex=.normal->MR P N y s B Post)/\(ex ≠ .normal->Post ex s B)):MR P N (.seq x y) st A Post:=by
 intro code hc K Z w a Q hN hs hA hQ
 obtain ⟨c1,c2,rfl,h1,h2⟩:=zq1 hc
 refine wp_seq (h c1 h1 K Z w a _ hN hs hA fun ex st' A' Z' w' a' hp hs' hA'=>?_)
 cases ex with
 | normal=>exact hp.1 rfl c2 h2 K Z' w' a' Q hN hs' hA' hQ
 | _=>exact hQ _ _ _ _ _ _ (hp.2 (by simp)) hs' hA'
theorem MR.cond {x y:AC} {c:Opd} {t:Bool} (hv:st.ev c=.p (.bool t)) (h:MR P N (if t then x else y) st A Post):MR P N (.cond c x y) st A Post:=by
 intro code hc K Z w a Q hN hs hA hQ
 obtain ⟨o,c1,c2,rfl,h0,h1,h2⟩:=zt2 hc
 have hr:=zap h0 hs
 rw [hv] at hr
 refine wp_cond hr.inv_bool ?_
 cases t with
 | true=>exact h c1 h1 K Z w a Q hN hs hA hQ
 | false=>exact h c2 h2 K Z w a Q hN hs hA hQ
def exB (id:Nat):Exit->Exit
 | .exit j=>if j=id then .normal else .exit j
 | e=>e
theorem MR.blk {x:AC} {id:Nat} (h:MR P N x st A fun ex s B=>Post (exB id ex) s B):MR P N (.blk id x) st A Post:=by
 intro code hc K Z w a Q hN hs hA hQ
 obtain ⟨b,rfl,h1⟩:=zoy hc
 refine wp_block (h b h1 K Z w a _ hN hs hA fun ex st' A' Z' w' a' hp hs' hA'=>?_)
 have hq:=hQ _ _ _ _ _ _ hp hs' hA'
 cases ex with
 | exit j=>by_cases hj:j=id<;>simp only [exB,hj,if_true,if_false,Exit.inBlock] at hq ⊢ <;> exact hq
 | _=>exact hq
theorem MR.scp {x:AC} (h:MR P N x st A fun ex s B=>(∀ l,ex ≠ .goto l)/\Post ex s B):MR P N (.scp x) st A Post:=by
 intro code hc K Z w a Q hN hs hA hQ
 obtain ⟨b,rfl,h1⟩:=z3z hc
 refine wp_scope_straight (h b h1 K Z w a _ hN hs hA fun ex st' A' Z' w' a' hp hs' hA'=>?_)
 have hq:=hQ _ _ _ _ _ _ hp.2 hs' hA'
 cases ex<;>first|exact absurd rfl (hp.1 _)|exact hq
theorem MR.ext {id:Nat} (h:Post (.exit id) st A):MR P N (.ext id) st A Post:=.of_runs .ext h
theorem MR.nop (h:Post .normal st A):MR P N .nop st A Post:=.of_runs .nop h
theorem MR.reg {is:List Ins} (h:MIns P N is st A fun s B=>Post .normal s B):MR P N (.reg is) st A Post:=by
 intro code hc K Z w a Q hN hs hA hQ
 cases code<;>simp only [comp] at hc
 case region id ops draw =>
  split at hc
  ·split at hc
   ·obtain ⟨l,_,h2⟩:=mapS hc; cases h2
   ·cases hc
  ·rename_i hd
   obtain ⟨l,h1,h2⟩:=mapS hc
   cases h2
   have:draw=false:=by simpa using hd
   subst this
   refine wp_region ?_
   subst hN
   obtain ⟨hl,hi⟩:=zbr h1
   have key:∀ (is:List Ins) (R:List Nat),R.length=is.length->(∀ (k x:Nat) (i:Ins),R[k]?=some x->is[k]?=some i->∃ o,ops[x]?=some o/\zdn P K.N ops o=some i)->∀ (st:St) (A:Option FA) (Z:Cz) (w:World) (a:Act),
     MIns P K.N is st A (fun s B=>Post .normal s B)->StRep K Z st w a->zec A K Z st w->wpOps P ops Q R a w:=by
    intro is
    induction is with
    | nil=>intro R hR _ st A Z w a h hs hA; cases R with
     | nil =>
      obtain ⟨st1,hw,hp⟩:=h
      obtain ⟨Z',h1,h2⟩:=hw.frame hs
      exact hQ _ _ _ _ _ _ hp h1 (hA.later h2)
     | cons _ _=>simp at hR
    | cons i is ih=>intro R hR hx st A Z w a h hs hA; cases R with
     | nil=>simp at hR
     | cons x R =>
      obtain ⟨o,e1,e2⟩:=hx 0 x i rfl rfl
      rw [wpOps_cons]
      exact h ops x o K Z w a Q _ rfl e1 e2 hs hA fun st' A' Z' w' a' hp hs' hA'=>ih R (by simpa using hR) (fun k x i hk hi=>hx (k+1) x i (by simpa using hk) (by simpa using hi)) st' A' Z' w' a' hp hs' hA'
   refine key is (List.range ops.size) (by rw [hl]; simp) (fun k x i hk hi'=>?_) st A Z w a h hs hA
   have hk':=List.getElem?_eq_some_iff.1 hk
   obtain ⟨hlt,hkx⟩:=hk'
   simp at hlt hkx
   subst hkx
   obtain ⟨x,e1,e2⟩:=hi k ops[k] (by simp [hlt])
   rw [hi'] at e2; cases e2
   exact ⟨ops[k],by simp [hlt],e1⟩
 all_goals (first|cases hc|(split at hc<;>cases hc)|(obtain ⟨_,_,h2⟩:=mapS hc; cases h2))
theorem MIns.vm {is js:List Ins} {dead:List (List Nat)} (h:vm P N (fun ex s=>ex=.normal->MIns P N js s A PostI) [.ins is dead] st):MIns P N (is++js) st A PostI:=by
 obtain ⟨gs,s1,s2,r1,r2,r3⟩:=zcv _ (Nat.le_refl _) h
 refine .run r1 ?_
 have:=r3 rfl
 cases js with
 | nil =>
  obtain ⟨s3,u1,u2⟩:=this
  exact ⟨s3,r2.trans u1,u2⟩
 | cons j js=>exact MOp.weak r2 this
theorem MR.loop_key {c:Code} {x:AC} (hc:comp P N c=some x) {I:Nat->St->Option FA->Prop} (step:∀ n st A,I n st A->MR P N x st A fun ex s B=>(ex=.normal->∃ m,m<n/\I m s B)/\(ex ≠ .normal->Post ex s B)) (hN:K.N=N) :
  ∀ (n n0:Nat),n0<n->∀ {st:St} {A:Option FA},I n0 st A->∀ {Z:Cz} {w:World} {a:Act} {Q:Exit->Act->World->Prop},StRep K Z st w a->zec A K Z st w->(∀ ex st' A' Z' w' a',Post ex st' A'->StRep K Z' st' w' a'->zec A' K Z' st' w'->Q ex a' w') ->
  ∀ (b:Frame) (k:List Go.Item) (cs:List Frame),∃ e a' w',Q e a' w'/\Arrives P (lone (b.at a (.code c::.inLoop c::k)) cs w) b k cs e a' w'
 | 0,_,h,_,_,_=>absurd h (Nat.not_lt_zero _)
 | n+1,n0,hn,st,A,hI=>by
  intro hs hA hQ b k cs
  rename_i Z w a Q
  obtain ⟨e,a1,w1,⟨s1,B,Z1,q1,q2,q3⟩,harr⟩:=step n0 st A hI c hc K Z w a (fun e a' w'=>∃ s B Z',((e=.normal->∃ m,m<n0/\I m s B)/\(e ≠ .normal->Post e s B))/\StRep K Z' s w' a'/\zec B K Z' s w') hN hs hA (fun ex st' A' Z' w' a' hp hs' hA'=>⟨st',A',Z',hp,hs',hA'⟩) b (.inLoop c::k) cs
  by_cases he:e=.normal
  ·subst he
   obtain ⟨m,hm,hIm⟩:=q1.1 rfl
   obtain ⟨e2,a2,w2,hq2,harr2⟩:=MR.loop_key hc step hN n m (by omega) hIm q2 q3 hQ b k cs
   exact ⟨e2,a2,w2,hq2,.of_steps (Steps.trans harr (.one step_inLoop)) harr2⟩
  ·exact ⟨e,a1,w1,hQ _ _ _ _ _ _ (q1.2 he) q2 q3,.pass (x:=.inLoop c) rfl (fun _ _=>.inl he) harr⟩
theorem MR.loop {x:AC} {I:Nat->St->Option FA->Prop} (n:Nat) (hI:I n st A) (step:∀ n st A,I n st A->MR P N x st A fun ex s B=>(ex=.normal->∃ m,m<n/\I m s B)/\(ex ≠ .normal->Post ex s B)):MR P N (.loop x) st A Post:=by
 intro code hc K Z w a Q hN hs hA hQ
 obtain ⟨c,rfl,h1⟩:=ztb hc
 intro b k cs
 obtain ⟨e,a',w',hq,harr⟩:=MR.loop_key h1 step hN (n+1) n (Nat.lt_succ_self _) hI hs hA hQ b k cs
 exact ⟨e,a',w',hq,.of_steps (.one step_loop) harr⟩
end
end Go.Ab
namespace Go.Ab
open Enc (enc)
section
variable {P:Program} {K:Ctx} {Z Z':Cz} {st st' st1 st2:St} {w w':World} {a:Act} {N:Nat} {ex:Exit} {A B:Option FA} {PostI:St->Option FA->Prop}
theorem zl2 {c:Callee} {ts:Array TypeId} {as:List Opd} {r:Op} (h:zck P c ts as=some (.raw r)):False:=by
 unfold zck at h
 repeat' split at h
 all_goals first
  | cases h
  | (obtain ⟨_,_,h⟩:=mapS h; cases h)
theorem za3 {α : Type} {x:Option α} {f : α -> Option IOp} {r:Op} (h:x.bind f=some (.raw r)) (k:∀ y,f y≠some (.raw r)):False:=by
 obtain ⟨y,_,h⟩:=zch h; exact k y h
theorem zd6 {α : Type} {x:Option α} {f : α -> IOp} {r:Op} (h:x.map f=some (.raw r)) (k:∀ y,f y ≠ .raw r):False:=by
 obtain ⟨y,_,h⟩:=mapS h; exact k y h
theorem zqj {t:TypeId} {m k:Operand} {c:Bool} {r:Op} (h:zfm P t m k c=some (.raw r)):False:=by
 unfold zfm at h
 repeat' split at h
 all_goals first
  | exact za3 h fun _ h=>za3 h fun _ h=>za3 h fun _ h=>zd6 h fun _ h=>by cases h
  | cases h
theorem zop {t:TypeId} {x:Operand} {lo hi mx:Option Operand} {r:Op} (h:ze5 P t x lo hi mx=some (.raw r)):False:=by
 unfold ze5 at h
 repeat' split at h
 all_goals first
  | exact za3 h fun _ h=>za3 h fun _ h=>zd6 h fun _ h=>by cases h
  | cases h
theorem zrz {op:BinOp} {x y:Opd} {r:Op} (h:zhe op x y=some (.raw r)):False:=by
 unfold zhe at h
 repeat' split at h
 all_goals cases h
theorem zqh {fn:Fn} {x y:Array Operand} {r:Op} (h:zgs fn x y=some (.raw r)):False:=by
 unfold zgs at h
 repeat' split at h
 all_goals first
  | exact zd6 h fun _ h=>by cases h
  | cases h
theorem zm6 {op r:Op} (h:zbv P op=some (.raw r)):op=r:=by
 cases op
 case call c=>exact (za3 h fun _ h=>zl2 h).elim
 case makeMap|mapUpdate|range|next|entry=>simp only [zbv,Option.some.injEq,IOp.raw.injEq] at h; exact h
 case lookup t m k c=>exact (zqj h).elim
 case slice=>exact (zop h).elim
 case makeFunc=>exact (zqh h).elim
 case move|assign|alloc|box|nilCheck|extract=>exact (zd6 h fun _ h=>by cases h).elim
 case pick=>exact (za3 h fun _ h=>za3 h fun _ h=>zd6 h fun _ h=>by cases h).elim
 case binOp =>
  refine (za3 h fun _ h=>za3 h fun _ h=>?_).elim
  split at h
  ·cases h
  ·cases h
  ·exact zrz h
  ·exact zd6 h fun _ h=>by cases h
 case unOp =>
  refine (za3 h fun _ h=>?_).elim
  split at h<;>cases h
 case convert =>
  refine (za3 h fun _ h=>?_).elim
  split at h<;>cases h
 case load=>refine (za3 h fun _ h=>?_).elim; split at h<;>cases h
 case store=>refine (za3 h fun _ h=>za3 h fun _ h=>?_).elim; split at h<;>cases h
 case build =>
  simp only [zbv] at h
  split at h
  ·refine (za3 h fun _ h=>za3 h fun _ h=>?_).elim
   split at h
   ·exact zd6 h fun _ h=>by cases h
   ·cases h
  ·refine (za3 h fun _ h=>za3 h fun _ h=>?_).elim
   split at h
   ·exact zd6 h fun _ h=>by cases h
   ·cases h
  ·cases h
 case buildSlice =>
  simp only [zbv] at h
  split at h
  ·exact (za3 h fun _ h=>zd6 h fun _ h=>by cases h).elim
  ·cases h
 case makeSlice =>
  simp only [zbv] at h
  split at h
  ·refine (za3 h fun _ h=>za3 h fun _ h=>za3 h fun _ h=>?_).elim
   split at h<;>cases h
  ·cases h
 case fieldAddr =>
  simp only [zbv] at h
  split at h
  ·split at h
   ·split at h
    ·exact (zd6 h fun _ h=>by cases h).elim
    ·cases h
   ·cases h
  ·cases h
 case field =>
  simp only [zbv] at h
  split at h
  ·split at h
   ·split at h
    ·exact (zd6 h fun _ h=>by cases h).elim
    ·cases h
   ·cases h
  ·cases h
 case indexAddr =>
  simp only [zbv] at h
  split at h
  ·split at h
   ·exact (za3 h fun _ h=>zd6 h fun _ h=>by cases h).elim
   ·cases h
  ·split at h
   ·exact (za3 h fun _ h=>zd6 h fun _ h=>by cases h).elim
   ·cases h
  ·cases h
 case index =>
  simp only [zbv] at h
  split at h
  ·split at h
   ·exact (za3 h fun _ h=>zd6 h fun _ h=>by cases h).elim
   ·cases h
  ·exact (za3 h fun _ h=>zd6 h fun _ h=>by cases h).elim
  ·cases h
 all_goals cases h
theorem zec.site (h:zec A K Z st w) (hs:∀ s,st'.site s=st.site s):zec A K Z st' w:=by
 refine h.later ⟨fun _ _ h=>h,fun r hr=>⟨⟨hr.m,fun s g o ho=>hr.o s g o (by rw [<- ho]; exact (zad (hs s)).symm),hr.lt⟩,rfl⟩,.of_zle (zbf hs _)⟩
theorem MOp.raw {d:Option Nat} {op:Op} (h:∀ (K:Ctx) (Z:Cz) (w:World) (a:Act),K.N=N->StRep K Z st w a->zec A K Z st w->∀ o:Oper,o.op=op ->
  ∃ nx y w' v A' Z',(execOp a.eval o).run P w=.ok nx w'/\(nx=.value y\/(nx=.skip/\y=Go.undef))/\ARep Z' st v y/\HRep K Z' st w'/\ZLe Z st Z' st/\zec A' K Z' st w'/\PostI (st.put d v) A'):MOp P N ⟨d,.raw op,none⟩ st A PostI:=by
 intro ops j o K Z w a Q Kt hN hj hc hs hA hK
 obtain ⟨h1,h2,h3,h4⟩:=zdh hc
 have hop:o.op=op:=zm6 h1
 obtain ⟨nx,y,w',v,A',Z',e1,e2,e3,e4,e5,e6,e7⟩:=h K Z w a hN hs hA o hop
 have hg:o.guard=none:=by
  cases hg:o.guard with
  | none=>rfl
  | some jb =>
   obtain ⟨j,b⟩:=jb
   rw [hg] at h2; simp only [zdi] at h2
   split at h2<;>cases h2
 have hw:Region.wanted o (yielded ops a.tmps)=true:=by simp [Region.wanted,hg]
 have h3':d=o.dst:=h3
 have fin:Kt (a.put o.dst y) w':=by
  refine hK _ _ _ _ _ e7 (?_:StRep K Z' (st.put d v) w' _) (e6.site fun s=>za5 st d v s)
  rw [h3']
  exact hs.put rfl e5 e4 e3 (by subst hN; exact h4) hs.defers
 unfold wpOp
 simp only [hj,hw,if_true]
 refine .inl ?_
 unfold Oper.wp
 rw [e1]
 rcases e2 with rfl|⟨rfl,rfl⟩
 ·exact fin
 ·exact fin
end
end Go.Ab
namespace Go.Ab
open Enc (enc)
section
variable {P:Program} {K:Ctx} {Z Z':Cz} {st st' st1 st2:St} {w w':World} {a:Act} {N:Nat} {ex:Exit} {A B:Option FA} {PostI:St->Option FA->Prop}
theorem PReps.get' {M:Nat->Option Obj}:∀ {vs:List PV} {xs:List Value},PReps M vs xs->∀ (i:Nat) (x:Value),xs[i]?=some x->∃ v,vs[i]?=some v/\PRep M v x
 | _,_,.nil,i,x,h=>by simp at h
 | _,_,.cons u y _ _ h _,0,x,e=>by simp at e; subst e; exact ⟨u,by simp,h⟩
 | _,_,.cons _ _ _ _ _ hs,i+1,x,e=>by simp at e; simpa using PReps.get' hs i x e
theorem HRep.world {X:Nat->Prop} (h:HRep K Z st w) (k:Keep w w' X) (hX:∀ b,X b->Z.M b=none/\(∀ s g o,st.obj s g=some o->Z.B s g≠some b)/\(K.X0 b\/K.w0.heap.size<=b)):HRep K Z st w':=by
 have hblk:∀ b o,w.heap[b]?=some o->¬ X b->w'.heap[b]?=some o:=fun b o hb hx=>by
  rw [k.blk b (Array.getElem?_eq_some_iff.1 hb).1 hx]; exact hb
 refine ⟨fun s g o ho=>?_,h.inj,fun b o hb=>hblk b o (h.mem b o hb) fun hx=>?_,h.sep,h.own,h.m0,h.prov,?_⟩
 ·have hO:=h.objs s g o ho
  refine ⟨hO.pos,hO.els,hO.one,hO.non,fun b hb=>?_⟩
  obtain ⟨cur,T,vals,k1,k2⟩:=hO.blk b hb
  exact ⟨cur,T,vals,hblk b _ k1 fun hx=>(hX b hx).2.1 s g o ho hb,k2⟩
 ·have:=(hX b hx).1; rw [hb] at this; cases this
 ·have k0:=h.keep
  refine ⟨k.os.trans k0.os,k.tape.trans k0.tape,k.output.trans k0.output,Nat.le_trans k0.drawn k.drawn,Nat.le_trans k0.size k.size,fun b hb hx=>?_⟩
  rw [k.blk b (Nat.lt_of_lt_of_le hb k0.size) fun hX'=>by
   rcases (hX b hX').2.2 with h|h
   ·exact hx h
   ·omega]
  exact k0.blk b hb hx
theorem zmx (w:World) (o:Obj):Keep w (w.alloc o) fun _=>False :=
 ⟨rfl,rfl,rfl,Nat.le_refl _,by show w.heap.size<=(w.heap.push o).size; simp,fun b hb _=>by show (w.heap.push o)[b]?=_; rw [Array.getElem?_push_lt hb,Array.getElem?_eq_getElem hb]⟩
theorem ztg (w:World) (r:Nat) (o:Obj):Keep w (ChangeMaps.setBlock w r o) fun b=>b=r :=
 ⟨rfl,rfl,rfl,Nat.le_refl _,by show w.heap.size<=(w.heap.setIfInBounds r o).size; simp,fun b _ hb=>by show (w.heap.setIfInBounds r o)[b]?=_; simp [Ne.symm hb]⟩
theorem zye (w:World):Keep w w.drew fun _=>False:=⟨rfl,rfl,rfl,Nat.le_succ _,Nat.le_refl _,fun _ _ _=>rfl⟩
def zha (r:Nat) (ks vs:List PV):FA:=⟨r,fun M o=>∃ es clock,o=some (.map es clock)/\zx2 M ks vs es clock,by
 rintro M M' o hM ⟨es,clock,h0,h1,h2,h3⟩
 exact ⟨es,clock,h0,h1.mono hM,h2.mono hM,h3⟩,false,false,fun _ _ _ _=>True,fun _ _ _ _ _ _ _ _ h=>h⟩
def itFA (r rm:Nat) (ks vs:List PV) (L:List Nat) (cur:Option Nat):FA:=⟨r,fun M o=>∃ es clock seen,M rm=some (.map es clock)/\zx2 M ks vs es clock/\o=some (.mapIter (some rm) clock seen clock) /\
  (∀ j e,es.toList[j]?=some e->(j∈L ↔ e.born∉seen))/\(∀ j∈L,j<ks.length)/\(∀ j,cur=some j->∃ (e:MapEntry) (seen':Array Nat),es.toList[j]?=some e/\seen=seen'.push e.born),by
 rintro M M' o hM ⟨es,clock,seen,h0,⟨h1,h2,h3⟩,h4⟩
 exact ⟨es,clock,seen,hM _ _ h0,⟨h1.mono hM,h2.mono hM,h3⟩,h4⟩,false,false,fun _ _ _ _=>True,fun _ _ _ _ _ _ _ _ h=>h⟩
theorem zrg {d:Option Nat} {t:TypeId} (k:∀ r,PostI (st.put d (.p (.mapv r))) (some (zha r [] []))):MOp P N ⟨d,.raw (.makeMap t none),none⟩ st none PostI:=by
 refine .raw fun K Z w a hN hs hA o ho=>?_
 have hrun:(Instr.makeMap t none).run P w=.ok (.map (some w.heap.size)) (w.alloc (.map #[] 0)):=by simp [Instr.makeMap,Result.andThen]
 refine ⟨.value (.map (some w.heap.size)),.map (some w.heap.size),w.alloc (.map #[] 0),.p (.mapv w.heap.size),some (zha w.heap.size [] []),Z,by simp [execOp,ho,hrun,Result.andThen],.inl rfl,.p _ _ (.mapv _),hs.heap.world (zmx w _) (fun _ h=>h.elim),ZLe.refl Z st,?_,k _⟩
 have hlt:∀ b o,w.heap[b]?=some o->b<w.heap.size:=fun b o h=>(Array.getElem?_eq_some_iff.1 h).1
 refine ⟨⟨?_,fun s g o ho hb=>?_,by show w.heap.size<(w.heap.push _).size; simp⟩,.inr hs.heap.keep.size,#[],0,(MapKept.heap_alloc w _).1,.nil,.nil,by simp,by simp,by simp⟩
 ·show Z.M w.heap.size=none
  cases hm:Z.M w.heap.size with
  | none=>rfl
  | some o=>have:=hlt _ _ (hs.heap.mem _ _ hm); omega
 ·obtain ⟨cur,T,vals,k1,_⟩:=(hs.heap.objs s g o ho).blk _ hb
  have:w.heap.size<w.heap.size:=hlt _ _ k1; omega
theorem zxt {d:Option Nat} {t kt et:TypeId} {x rm:Nat} {ks vs:List PV} (ht:P.underlying t=some (.map kt et)) (hx:st.get x=.p (.mp rm ks vs)) (k:∀ r,PostI (st.put d (.p (.itv r))) (some (itFA r rm ks vs (List.range ks.length) none))) :
  MOp P N ⟨d,.raw (.range t (.tmp x)),none⟩ st none PostI:=by
 refine .raw fun K Z w a hN hs hA o ho=>?_
 have hsl:=hs.slots x
 rw [hx] at hsl
 have hev:a.eval (.tmp x)=a.tmps.getD x Go.undef:=rfl
 generalize a.tmps.getD x Go.undef=X at hsl hev
 cases hsl.inv_p with
 | mp _ _ _ es clock m0 m1 m2 m3 m4 m5 =>
  have hb:=hs.heap.mem _ _ m0
  have hrun:=run_range_map (P:=P) w t kt et rm es clock ht hb
  refine ⟨.value (.pointer (some ⟨w.heap.size,0,none⟩)),.pointer (some ⟨w.heap.size,0,none⟩),w.alloc (.mapIter (some rm) clock #[] clock),.p (.itv w.heap.size),some (itFA w.heap.size rm ks vs (List.range ks.length) none),Z,by simp [execOp,ho,hev,hrun,Result.andThen],.inl rfl,.p _ _ (.itv _),hs.heap.world (zmx w _) (fun _ h=>h.elim),ZLe.refl Z st,?_,k _⟩
  have hlt:∀ b o,w.heap[b]?=some o->b<w.heap.size:=fun b o h=>(Array.getElem?_eq_some_iff.1 h).1
  have hkl:ks.length=es.toList.length:=by have:=m1.length; simpa using this.symm
  refine ⟨⟨?_,fun s g o ho hb=>?_,by show w.heap.size<(w.heap.push _).size; simp⟩,.inr hs.heap.keep.size,es,clock,#[],m0,⟨m1,m2,m3,m4,m5⟩,(MapKept.heap_alloc w _).1,fun j e he=>?_,fun j hj=>by simpa using hj,by simp⟩
  ·show Z.M w.heap.size=none
   cases hm:Z.M w.heap.size with
   | none=>rfl
   | some o=>have:=hlt _ _ (hs.heap.mem _ _ hm); omega
  ·obtain ⟨cur,T,vals,k1,_⟩:=(hs.heap.objs s g o ho).blk _ hb
   have:w.heap.size<w.heap.size:=hlt _ _ k1; omega
  ·have:=(List.getElem?_eq_some_iff.1 he).1
   simp [hkl]; simpa using this
theorem z1d {d:Option Nat} {x r rm:Nat} {ks vs:List PV} {L:List Nat} {cur:Option Nat} (hx:st.get x=.p (.itv r))
  (k0:L=[]->PostI (st.put d (.p (.tup [.bool false]))) (some (itFA r rm ks vs L cur)))
  (k1:∀ j∈L,∀ kv vv,ks[j]?=some kv->vs[j]?=some vv->PostI (st.put d (.p (.tup [.bool true,kv,vv]))) (some (itFA r rm ks vs (L.filter fun i=>i≠j) (some j)))) :
  MOp P N ⟨d,.raw (.next (.tmp x) false),none⟩ st (some (itFA r rm ks vs L cur)) PostI:=by
 refine .raw fun K Z w a hN hs hA o ho=>?_
 have hsl:=hs.slots x
 rw [hx] at hsl
 have hev:a.eval (.tmp x)=a.tmps.getD x Go.undef:=rfl
 generalize a.tmps.getD x Go.undef=X at hsl hev
 cases hsl.inv_p
 obtain ⟨hF,hX,es,clock,seen,m0,⟨m1,m2,m3,m4,m5⟩,hr,h1,h2,h3⟩:=hA
 simp only [itFA] at hF hX hr
 have hb:=hs.heap.mem _ _ m0
 rcases run_next_at (P:=P) w o.type r rm clock clock seen es clock hr hb m4 (Nat.le_refl _) with ⟨e1,e2⟩|⟨e,he,w1,e2,e3⟩
 ·have hL:L=[]:=by
   cases L with
   | nil=>rfl
   | cons j L =>
    exfalso
    have hj:=h2 j (by simp)
    have hkl:ks.length=es.toList.length:=by have:=m1.length; simpa using this.symm
    have hj':j<es.toList.length:=by omega
    have hns:=(h1 j es.toList[j] (List.getElem?_eq_getElem hj')).1 (by simp)
    have:es.toList[j]∈(leftOf es seen).toList:=by
     simp only [leftOf,Array.toList_filter,List.mem_filter]
     exact ⟨List.getElem_mem hj',by simpa using hns⟩
    have h0:(leftOf es seen).toList.length=0:=by simpa using e1
    rw [List.length_eq_zero_iff.1 h0] at this; cases this
  exact ⟨.value (.tuple #[.bool false]),.tuple #[.bool false],w,.p (.tup [.bool false]),some (itFA r rm ks vs L cur),Z,by simp [execOp,ho,hev,e2,Result.andThen],.inl rfl,.p _ _ (.tup _ _ (.cons _ _ _ _ (.bool _) .nil)),hs.heap,ZLe.refl Z st,⟨hF,hX,es,clock,seen,m0,⟨m1,m2,m3,m4,m5⟩,hr,h1,h2,h3⟩,k0 hL⟩
 ·have hmem:e∈es.toList/\e.born∉seen:=by
   simp only [leftOf,Array.toList_filter,List.mem_filter] at he
   exact ⟨he.1,by simpa using he.2⟩
  obtain ⟨j,hj⟩:=List.getElem?_of_mem hmem.1
  have hjL:j∈L:=(h1 j e hj).2 hmem.2
  obtain ⟨kv,g1,g2⟩:=m1.get' j e.key (by simp [hj])
  obtain ⟨vv,g3,g4⟩:=m2.get' j e.val (by simp [hj])
  have hw1:Keep w w1 fun _=>False:=by rcases e2 with rfl|rfl; exact Keep.refl _ _; exact zye w
  have hrlt:r<w.heap.size:=hF.lt
  have hH:HRep K Z st (ChangeMaps.setBlock w1 r (.mapIter (some rm) clock (seen.push e.born) clock)) :=
   (hs.heap.world hw1 fun _ h=>h.elim).world (ztg w1 r _) fun b hb=>by subst hb; exact ⟨hF.m,hF.o,hX⟩
  have hsz:w1.heap.size=w.heap.size:=by rcases e2 with rfl|rfl<;>rfl
  refine ⟨.value (.tuple #[.bool true,e.key,e.val]),.tuple #[.bool true,e.key,e.val],_,.p (.tup [.bool true,kv,vv]),some (itFA r rm ks vs (L.filter fun i=>i≠j) (some j)),Z,by simp [execOp,ho,hev,e3,Result.andThen],.inl rfl,.p _ _ (.tup _ [.bool true,e.key,e.val] (.cons _ _ _ _ (.bool _) (.cons _ _ _ _ g2 (.cons _ _ _ _ g4 .nil)))),hH,ZLe.refl Z st,?_,k1 j hjL kv vv g1 g3⟩
  refine ⟨⟨hF.m,hF.o,?_⟩,hX,es,clock,seen.push e.born,m0,⟨m1,m2,m3,m4,m5⟩,?_,fun i e' he'=>?_,fun i hi=>h2 i (List.mem_filter.1 hi).1,fun i hi=>?_⟩
  ·show r<(w1.heap.setIfInBounds r _).size
   simp [hsz]; exact hrlt
  ·show (w1.heap.setIfInBounds r _)[r]?=_
   rw [Array.getElem?_setIfInBounds_self]; simp [hsz,hrlt]
  ·rw [List.mem_filter,h1 i e' he']
   simp only [Array.mem_push,not_or,decide_eq_true_eq]
   have hbne:e'.born≠e.born ↔ i≠j:=by
    constructor
    ·rintro h rfl; rw [hj] at he'; cases he'; exact h rfl
    ·intro h hbe
     refine h ?_
     have l1:=(List.getElem?_eq_some_iff.1 he')
     have l2:=(List.getElem?_eq_some_iff.1 hj)
     obtain ⟨l1,q1⟩:=l1; obtain ⟨l2,q2⟩:=l2
     have hlen:i<(es.toList.map (·.born)).length:=by simpa using l1
     have hlen2:j<(es.toList.map (·.born)).length:=by simpa using l2
     exact (List.getElem_inj (h₀ := hlen) (h₁ := hlen2) m5).1 (by simp only [List.getElem_map,q1,q2,hbe])
   exact and_congr_right fun _=>hbne.symm
  ·cases hi; exact ⟨e,seen,hj,rfl⟩
theorem zxu {d:Option Nat} {x r rm:Nat} {ks vs:List PV} {L:List Nat} {j:Nat} {kv vv:PV} (hx:st.get x=.p (.itv r)) (hk:ks[j]?=some kv) (hv:vs[j]?=some vv)
  (k:PostI (st.put d (.p (.tup [kv,vv]))) (some (itFA r rm ks vs L (some j)))) :
  MOp P N ⟨d,.raw (.entry (.tmp x)),none⟩ st (some (itFA r rm ks vs L (some j))) PostI:=by
 refine .raw fun K Z w a hN hs hA o ho=>?_
 have hsl:=hs.slots x
 rw [hx] at hsl
 have hev:a.eval (.tmp x)=a.tmps.getD x Go.undef:=rfl
 generalize a.tmps.getD x Go.undef=X at hsl hev
 cases hsl.inv_p
 have hA0:=hA
 obtain ⟨hF,hX,es,clock,seen,m0,⟨m1,m2,m3,m4,m5⟩,hr,h1,h2,h3⟩:=hA
 simp only [itFA] at hF hX hr
 have hb:=hs.heap.mem _ _ m0
 obtain ⟨e,seen',hj,rfl⟩:=h3 j rfl
 have hrun:=run_entry_at (P:=P) w r rm clock seen' es clock e hr hb (List.mem_of_getElem? hj) m5
 obtain ⟨kv',g1,g2⟩:=m1.get' j e.key (by simp [hj])
 obtain ⟨vv',g3,g4⟩:=m2.get' j e.val (by simp [hj])
 rw [hk] at g1; cases g1
 rw [hv] at g3; cases g3
 exact ⟨.value (.tuple #[e.key,e.val]),.tuple #[e.key,e.val],w,.p (.tup [kv,vv]),_,Z,by simp [execOp,ho,hev,hrun,Result.andThen],.inl rfl,.p _ _ (.tup _ [e.key,e.val] (.cons _ _ _ _ g2 (.cons _ _ _ _ g4 .nil))),hs.heap,ZLe.refl Z st,hA0,k⟩
end
end Go.Ab
namespace Go.Ab
open Enc (enc)
section
variable {P:Program} {K:Ctx} {Z Z':Cz} {st st' st1 st2:St} {w w':World} {a:Act} {N:Nat} {ex:Exit} {A B:Option FA} {Post:Exit->St->Option FA->Prop} {ops:Array Oper} {Q:Exit->Act->World->Prop}
theorem zl5 {md:Region.Mode} {it:Nat->Item} {pre:Nat->List Nat} {n0:Nat} (hpre:∀ x o,ops[x]?=some o->∀ y∈pre x,Bef ops y x)
  (hc:∀ i,i<ops.size->∃ o,ops[i]?=some o/\zdn P K.N ops o=some (it i).1.2/\zjl P (it i).1.1) {L:List Nat} (htopo:topo md ops L []=true) (hn0:ops.size=n0+1) (hlast:∀ y,y<n0->Bef ops y n0) :
  ∀ (n:Nat) (R:List Nat) {listed:Array Bool} {st st':St} {Z:Cz} {w:World} {a:Act},R.length=n->R.Nodup->listed.size=ops.size->(∀ y z,listed.getD z false=true->Bef ops y z->listed.getD y false=true)->(∀ i,i∈R ↔ i<n0/\listed.getD i true=false)->listed.getD n0 true=false ->
   R.Pairwise (fun y x=>y∈pre x\/zk7 (it y).2 (it x).2=true)->RunL (R.map it) st st'->StRep K Z st w a ->
   (∀ Z' w' a',StRep K Z' st' w' a'->PinLe Z st Z' st'->wpOp P ops Q n0 (fun a w=>Q .normal a w) a' w')->wpAny P md ops Q (n+1) listed a w
 | n,R,listed,st,st',Z,w,a,hn,hnd,hsz,hcl,hR,hl0,hpw,hrun,hs,hQ=>by
  have hbefl:∀ {i:Nat} {o:Oper},ops[i]?=some o->(∀ e∈o.after,Region.binds md e=true->listed.getD e.on false=true)->∀ y,Bef ops y i->listed.getD y false=true:=by
   intro i o h2 h3 y hy
   have gd:∀ e∈o.after,Region.binds .any e=true->listed.getD e.on false=true:=fun e he hb=>h3 e he (zqr hb)
   cases hy with
   | one k1 k2 k3 k4=>rw [h2] at k1; cases k1; rw [<- k3]; exact gd _ k2 k4
   | more k0 k1 k2 k3 k4=>rw [h2] at k1; cases k1; exact hcl _ _ (by rw [<- k3]; exact gd _ k2 k4) k0
  have hnot:∀ y,listed.getD y true=false->listed.getD y false=true->False:=by
   intro y h5 h4
   rcases Nat.lt_or_ge y listed.size with h'|h'
   ·simp [h'] at h4 h5; rw [h4] at h5; cases h5
   ·simp [Array.getElem?_eq_none h'] at h4
  refine ⟨fun hr=>?_,fun i hi=>?_⟩
  ·exact absurd hr (zia L [] hsz htopo (by simp) ⟨n0,by omega,hl0⟩)
  ·obtain ⟨h1,o,h2,h3⟩:=mem_ready.1 hi
   have h3':∀ e∈o.after,Region.binds md e=true->listed.getD e.on false=true:=by
    intro e he hb
    have h4:=h3 e he hb
    rcases Nat.lt_or_ge e.on listed.size with h'|h'
    ·simp [h'] at h4 ⊢; exact h4
    ·simp [Array.getElem?_eq_none h'] at h4
   have hbef:=hbefl h2 h3'
   have hisz:=(Array.getElem?_eq_some_iff.1 h2).1
   by_cases hi0:i=n0
   ·subst hi0
    cases R with
    | cons y R =>
     exfalso
     have hy:=(hR y).1 (by simp)
     exact hnot y hy.2 (hbef y (hlast y hy.1))
    | nil =>
     cases n with
     | succ n=>simp at hn
     | zero =>
      cases hrun
      refine wpOp_mono (fun a w hq=>?_) (hQ _ _ _ hs (PinLe.refl _ _))
      refine ⟨?_,hq⟩
      apply List.eq_nil_iff_forall_not_mem.2
      intro j hj
      obtain ⟨g1,o',g2,_⟩:=mem_ready.1 hj
      have hjs:=(Array.getElem?_eq_some_iff.1 g2).1
      by_cases hji:j=i
      ·subst hji
       have hlt:j<listed.size:=by rw [hsz]; exact hjs
       simp [hlt] at g1
      ·rw [getD_set_ne true (Ne.symm hji)] at g1
       have:=(hR j).2 ⟨by omega,g1⟩
       cases this
   ·have hiR:=(hR i).2 ⟨by omega,h1⟩
    obtain ⟨ys,xs,rfl⟩:=List.append_of_mem hiR
    have hind:∀ y∈ys,zk7 (it y).2 (it i).2=true:=by
     intro y hy
     have:=(List.pairwise_append.1 hpw).2.2 y hy i (by simp)
     rcases this with h|h
     ·exact (hnot y ((hR y).1 (by simp [hy])).2 (hbef y (hpre i o h2 y h))).elim
     ·exact h
    rw [List.map_append,List.map_cons] at hrun
    obtain ⟨st1,hrun1,heqv⟩:=RunL.front hrun (fun y hy=>by obtain ⟨z,hz,rfl⟩:=List.mem_map.1 hy; exact hind z hz)
    cases n with
    | zero=>simp at hn
    | succ n =>
    cases hrun1 with
    | cons _ _ _ s1 _ k1 k2 k3 =>
     obtain ⟨o',e1,e2,e3⟩:=hc i hisz
     refine zom e1 e2 hs e3 k1 (fun Z' w' a' hs' hp=>?_)
     have hnd':=List.nodup_append.1 hnd
     have hndx:i∉ys:=fun h=>hnd'.2.2 i h i (by simp) rfl
     have hndy:i∉xs:=(List.nodup_cons.1 hnd'.2.1).1
     rw [<- List.map_append] at k3
     refine zl5 hpre hc htopo hn0 hlast n (ys++xs) (by simp at hn ⊢; omega) ?_ (by simpa using hsz) ?_ ?_ ?_ ?_ k3 hs' ?_
     ·refine List.nodup_append.2 ⟨hnd'.1,(List.nodup_cons.1 hnd'.2.1).2,fun y hy z hz=>hnd'.2.2 y hy z (by simp [hz])⟩
     ·intro y z hz hyz
      by_cases hyi:y=i
      ·subst hyi
       have hlt:y<listed.size:=by rw [hsz]; exact hisz
       simp [hlt]
      ·rw [getD_set_ne false (Ne.symm hyi)]
       by_cases hzi:z=i
       ·subst hzi; exact hbef y hyz
       ·rw [getD_set_ne false (Ne.symm hzi)] at hz; exact hcl y z hz hyz
     ·intro j
      by_cases hji:j=i
      ·subst hji
       have hlt:j<listed.size:=by rw [hsz]; exact hisz
       simp [hndx,hndy,hlt]
      ·rw [getD_set_ne true (Ne.symm hji),<- hR j]
       simp [hji]
     ·rw [getD_set_ne true hi0]; exact hl0
     ·refine List.Pairwise.sublist ?_ hpw
      exact List.Sublist.append_left (List.sublist_cons_self _ _) _
     ·intro Z2 w' a' hs' hp2
      exact hQ _ _ _ (hs'.eqv (Eqv.symm heqv)) ((hp.trans hp2).trans (.of_zle (zbf (Eqv.symm heqv).site _)))
def zgq (i:Ins):Item:=((none,i),⟨[],[],[],[]⟩)
def zya (pre:List (List Nat)) (n:Nat):Bool:=(List.range n).all fun y=>(pre.getD n []).contains y
theorem MR.regDL {is:List Ins} {i:Ins} {fs:List FP} {pre:List (List Nat)} (h:Run P is fs st st1) (hp:chk [] 0 fs pre=true) (hl:zya pre is.length=true) (k:MOp P N i st1 A fun s B=>Post .normal s B):MR P N (.regD (is++[i]) pre) st A Post:=by
 intro code hc K Z w a Q hN hs hA hQ
 cases code<;>simp only [comp] at hc
 case region id ops draw =>
  split at hc
  ·rename_i hd
   subst hd
   split at hc
   ·rename_i ht
    obtain ⟨l,h1,h2⟩:=mapS hc
    simp only [AC.regD.injEq] at h2
    obtain ⟨rfl,rfl⟩:=h2
    subst hN
    obtain ⟨items,e1,e2,e3,e4⟩:=h.items
    have hll:=(zbr h1).1
    have hlen:items.length=is.length:=by rw [<- e1]; simp
    have hsz:ops.size=is.length+1:=by rw [<- Array.length_toList,<- hll]; simp
    obtain ⟨o,k1,k2⟩:∃ o,ops[is.length]?=some o/\zdn P K.N ops o=some i:=by
     obtain ⟨_,hi⟩:=zbr h1
     obtain ⟨x,q1,q2⟩:=hi is.length ops[is.length] (by simp [hsz])
     simp at q2; subst q2
     exact ⟨ops[is.length],by simp [hsz],q1⟩
    have hat:=zob (items:=items++[zgq i]) (by simp [e1,zgq]) (fun x hx=>by
     rcases List.mem_append.1 hx with hx|hx
     ·exact e3 x hx
     ·simp at hx; subst hx; intro c hc; cases hc) h1
    have hgd:∀ x,x<is.length->(items++[zgq i]).getD x zbl=items.getD x zbl:=by
     intro x hx; simp [List.getD_eq_getElem?_getD,List.getElem?_append_left,hlen,hx]
    have hrun:RunL ((List.range is.length).map fun x=>(items++[zgq i]).getD x zbl) st st1:=by
     rw [show ((List.range is.length).map fun x=>(items++[zgq i]).getD x zbl)=(List.range is.length).map fun x=>items.getD x zbl from List.map_congr_left fun x hx=>hgd x (List.mem_range.1 hx),zeq _ _ _ hlen]
     exact e4
    have hany:∀ (md:Region.Mode) (L:List Nat),topo md ops L []=true->wpAny P md ops Q ops.size (Array.replicate ops.size false) a { w with drawn:=w.drawn+1 }:=by
     intro md L hL
     have hr:=hs.root
     rw [hsz]
     refine zl5 (K:=⟨w,Z.M,ownB Z st,K.N⟩) (pre:=fun i=>(clos [] (pres ops.toList)).getD i []) (it:=fun x=>(items++[zgq i]).getD x zbl) (fun x o ho y hy=>zll ops x y hy) hat hL hsz (fun y hy=>?_) is.length (List.range is.length) (by simp) List.nodup_range (by simp [hsz]) (fun y z hz _=>by simp [Array.getD_eq_getD_getElem?,Array.getElem?_replicate] at hz; split at hz<;>simp at hz) (fun i=>by simp [Array.getD_eq_getD_getElem?,Array.getElem?_replicate]; intro hi; rw [if_pos (by omega)]; rfl) (by simp [Array.getD_eq_getD_getElem?,Array.getElem?_replicate]) ?_ hrun (Z:=Z) ⟨hr.slots,hr.defers,hr.size,hr.heap.drew⟩ (fun Z' w' a' hs' hp=>?_)
     ·refine zll ops _ y ?_
      simp only [zya,List.all_eq_true,List.mem_range] at hl
      simpa using hl y hy
     ·refine List.Pairwise.imp_of_mem ?_ List.pairwise_lt_range
      intro y x hy hx hyx
      have hx:=List.mem_range.1 hx
      have hy:=List.mem_range.1 hy
      rw [hgd x hx,hgd y hy]
      have hfx:fs[x]?=some (items.getD x zbl).2:=by rw [<- e2]; simp [hlen,hx]
      have hfy:fs[y]?=some (items.getD y zbl).2:=by rw [<- e2]; simp [hlen,hy]
      simpa using (zot hp x _ hfx).2 y _ hfy hyx
     ·exact k ops is.length o K Z' w' a' Q _ rfl k1 k2 (hs.unroot hs') (hA.later ⟨hs'.heap.m0,fun r hr=>hr.later hs',hp⟩) fun st' A' Z2 w2 a2 hp hs2 hA2=>hQ _ _ _ _ _ _ hp hs2 hA2
    simp only [z3q,Bool.and_eq_true,Bool.or_eq_true,Bool.not_eq_true'] at ht
    obtain ⟨t1,t2⟩:=ht
    refine wp_region_draw fun t=>?_
    unfold Region.schedule
    split
    ·exact wpAny_sound ops.size t _ a _ (hany .any _ t1)
    ·rename_i hm
     rcases t2 with t2|⟨t2,t3⟩
     ·simp [t2] at hm
     ·split
      ·exact wpAny_sound ops.size _ _ a _ (hany .text _ t2)
      ·exact wpAny_sound ops.size _ _ a _ (hany .gc _ t3)
   ·cases hc
  ·obtain ⟨l,_,h2⟩:=mapS hc; cases h2
 all_goals (first|cases hc|(split at hc<;>cases hc)|(obtain ⟨_,_,h2⟩:=mapS hc; cases h2))
end
end Go.Ab
namespace Go.Ab
open Enc (enc)
def zcb (kc:List PV) (v:PV):List PV->List PV->List PV × List PV
 | .agg c::ks,x::vs=>if eqI c kc=true then (.agg c::ks,v::vs) else (.agg c::(zcb kc v ks vs).1,x::(zcb kc v ks vs).2)
 | _,_=>([.agg kc],[v])
theorem zkw {M:Nat->Option Obj} {qs:List IntKind} {kc:List PV} {v:PV} {vals:List Value} (hok:zcf qs kc=true) (hr:PReps M kc vals):∀ {ks vs:List PV} {es:List MapEntry},ks.all (zek qs)=true->PReps M ks (es.map (·.key))->PReps M vs (es.map (·.val))->(es.map (·.key)).Nodup ->
  ((∀ e:MapEntry,e∈es->e.key ≠ .agg vals.toArray)->zcb kc v ks vs=(ks++[.agg kc],vs++[v]))/\∀ (j:Nat) (e:MapEntry),es[j]?=some e->e.key=.agg vals.toArray->zcb kc v ks vs=(ks,vs.set j v)
 | [],vs,es,_,h1,h2,_=>by
  cases es with
  | nil=>cases h2; exact ⟨fun _=>rfl,fun j e h=>by simp at h⟩
  | cons e es=>cases h1
 | k::ks,vs,[],_,h1,_,_=>by cases h1
 | k::ks,vs,e::es,ha,h1,h2,hnd=>by
  simp only [List.all_cons,Bool.and_eq_true] at ha
  simp only [List.map_cons] at h1 h2 hnd
  cases h1 with
  | cons _ _ _ _ hk hks =>
   cases h2 with
   | cons x _ vs _ hv hvs =>
    obtain ⟨i1,i2⟩:=zkw (v:=v) hok hr ha.2 hks hvs (List.nodup_cons.1 hnd).2
    cases k<;>simp only [zek,Bool.false_eq_true,false_and] at ha
    rename_i c
    generalize hek:e.key=ek at hk hnd
    cases hk with
    | agg _ us _ hus =>
     have heq:=zrr ha.1 hok hus hr
     have hval:(Value.agg us.toArray=.agg vals.toArray) ↔ us=vals:=by
      constructor
      ·intro h; have:=congrArg (fun v=>match v with|Value.agg cs=>cs.toList|_=>[]) h; simpa using this
      ·rintro rfl; rfl
     by_cases hu:us=vals
     ·refine ⟨fun h=>absurd (hek.trans (hval.2 hu)) (h e (by simp)),fun j e' hj hke=>?_⟩
      have hput:zcb kc v (.agg c::ks) (x::vs)=(.agg c::ks,v::vs):=by simp [zcb,heq.2 hu]
      cases j with
      | zero=>exact hput
      | succ j =>
       exfalso
       simp at hj
       have hm:e'∈es:=List.mem_of_getElem? hj
       refine (List.nodup_cons.1 hnd).1 (List.mem_map.2 ⟨e',hm,?_⟩)
       rw [hke]; exact (hval.2 hu).symm
     ·have hne:¬ eqI c kc=true:=fun h=>hu (heq.1 h)
      have hput:zcb kc v (.agg c::ks) (x::vs)=(.agg c::(zcb kc v ks vs).1,x::(zcb kc v ks vs).2):=by simp [zcb,hne]
      rw [hput]
      refine ⟨fun h=>?_,fun j e' hj hke=>?_⟩
      ·rw [i1 fun x hx=>h x (by simp [hx])]; rfl
      ·cases j with
       | zero=>simp at hj; subst hj; exact absurd (hval.1 (hek.symm.trans hke)) hu
       | succ j=>rw [i2 j e' (by simpa using hj) hke]; rfl
theorem PReps.set {M:Nat->Option Obj} {vs:List PV} {xs:List Value} (i:Nat) {r:PV} {x:Value} (h:PReps M vs xs) (hr:PRep M r x):PReps M (vs.set i r) (xs.set i x):=by
 induction i generalizing vs xs with
 | zero =>
  cases h with
  | nil=>exact .nil
  | cons v y vs xs h hs=>exact .cons _ _ _ _ hr hs
 | succ i ih =>
  cases h with
  | nil=>exact .nil
  | cons v y vs xs h hs=>exact .cons _ _ _ _ h (ih hs)
theorem PReps.snoc {M:Nat->Option Obj}:∀ {vs:List PV} {xs:List Value} {r:PV} {x:Value},PReps M vs xs->PRep M r x->PReps M (vs++[r]) (xs++[x])
 | _,_,_,_,.nil,h=>.cons _ _ _ _ h .nil
 | _,_,_,_,.cons _ _ _ _ h hs,k=>.cons _ _ _ _ h (PReps.snoc hs k)
theorem znk {P:Program} {w:World} {t kt et:TypeId} {qs:List IntKind} {M:Nat->Option Obj} {r:Nat} {ks vs kc:List PV} {v:PV} {vals:List Value} {x:Value} {es:Array MapEntry} {clock:Nat}
  (ht:P.underlying t=some (.map kt et)) (law:WideMaps.KeyLaw P kt) (hko:∀ {kc:List PV} {vals:List Value},zcf qs kc=true->PReps M kc vals->∃ l,keyOf P kt (.agg vals.toArray)=some l)
  (hb:w.heap[r]?=some (.map es clock)) (hm:zx2 M ks vs es clock) (hks:ks.all (zek qs)=true) (hkc:zcf qs kc=true) (hv:PReps M kc vals) (hone:∀ c∈kc,c.one=true) (hx:PRep M v x) :
  ∃ es' clock',(Instr.mapUpdate t (.map (some r)) (.agg vals.toArray) x).run P w=.ok () (ChangeMaps.setBlock w r (.map es' clock'))/\zx2 M (zcb kc v ks vs).1 (zcb kc v ks vs).2 es' clock':=by
 obtain ⟨m1,m2,m3,m4,m5⟩:=hm
 obtain ⟨l,hl⟩:=hko hkc hv
 have hall:=zio hko hks m1
 obtain ⟨f1,f2⟩:=zkw (v:=v) hkc hv hks m1 m2 m3
 have hchk:=law.check w false hl
 have hget:(getObj r).run P w=.ok (.map es clock) w:=MapKept.run_getObj_map hb
 have hset:∀ o',(setObj r o').run P w=.ok () (ChangeMaps.setBlock w r o'):=fun o'=>MapKept.run_setObj_map o' hb
 have hstays:=law.stays w hl
 rcases law.find w hl es.toList hall with ⟨g1,g2⟩|⟨j,e0,g1,g2,g3⟩
 ·refine ⟨es.push ⟨.agg vals.toArray,x,clock⟩,clock+1,by simp [Instr.mapUpdate,run_underlying ht,hget,hchk,g1,hset,Result.andThen],?_⟩
  rw [f1 g2]
  obtain ⟨s1,s2,s3⟩:=MapKept.stamped_push ⟨m4,m5,m3⟩ (key:=.agg vals.toArray) (val:=x) g2
  exact ⟨by simpa using m1.snoc (.agg kc vals hone hv),by simpa using m2.snoc hx,s3,s1,s2⟩
 ·have hj:es[j]?=some e0:=by simpa using g2
  refine ⟨es.modify j fun y=>{ y with key:=.agg vals.toArray,val:=x },clock,by simp [Instr.mapUpdate,run_underlying ht,hget,hchk,g1,hj,g3,hstays,hset,Result.andThen],?_⟩
  rw [f2 j e0 g2 g3]
  have hkey:∀ e',es[j]?=some e'->({ e' with key:=.agg vals.toArray,val:=x }:MapEntry).key=e'.key:=fun e' he'=>by rw [hj] at he'; cases he'; exact g3.symm
  obtain ⟨s1,s2,s3⟩:=MapKept.stamped_modify ⟨m4,m5,m3⟩ j (fun y=>{ y with key:=.agg vals.toArray,val:=x }) (fun _ _=>rfl) (fun e' _ he'=>hkey e' he')
  refine ⟨?_,?_,s3,s1,s2⟩
  ·rw [MapKept.modify_keys j _ hkey]; exact m1
  ·have:(es.modify j fun y=>{ y with key:=.agg vals.toArray,val:=x }).toList.map (·.val)=(es.toList.map (·.val)).set j x:=by
    apply List.ext_getElem?
    intro i
    simp only [List.getElem?_map,Array.getElem?_toList,Array.getElem?_modify,List.getElem?_set]
    by_cases hij:j=i
    ·subst hij
     have:j<es.size:=(Array.getElem?_eq_some_iff.1 hj).1
     simp [hj,this]
    ·simp [hij]
   rw [this]; exact m2.set j hx
section
variable {P:Program} {K:Ctx} {Z Z':Cz} {st st' st1 st2:St} {w w':World} {a:Act} {N:Nat} {ex:Exit} {A B:Option FA} {Post:Exit->St->Option FA->Prop} {PostI:St->Option FA->Prop}
def fzFA (r:Nat):FA:=⟨r,fun _ _=>True,fun _ _ _ _ h=>h,true,false,fun _ _ _ _=>True,fun _ _ _ _ _ _ _ _ h=>h⟩
theorem zn0 {d:Option Nat} {t kt et e:TypeId} {n:Nat} {q:IntKind} {x y z r:Nat} {ks vs kc:List PV} {v:PV} (ht:P.underlying t=some (.map kt et)) (hk:P.underlying kt=some (.array n e)) (he:P.underlying e=some (.int q)) (hn:P.cellsOf kt=n) (hc:P.cellsOf e=1) (h0:0<P.types.size)
  (hx:st.get x=.p (.mp r ks vs)) (hy:st.get y=.p (.agg kc)) (hz:st.get z=.p v) (hks:ks.all (zek (List.replicate n q))=true) (hkc:zcf (List.replicate n q) kc=true)
  (hn1:zdz (zcb kc v ks vs).1=true) (hn2:zdz (zcb kc v ks vs).2=true)
  (k:PostI ⟨[],[]⟩ (some (zha r (zcb kc v ks vs).1 (zcb kc v ks vs).2))):MOp P N ⟨none,.raw (.mapUpdate t (.tmp x) (.tmp y) (.tmp z)),none⟩ st (some (fzFA r)) PostI:=by
 intro ops j o K Z w a Q Kt hN hj hcc hs hA hK
 obtain ⟨h1,h2,h3,h4⟩:=zdh hcc
 have hop:o.op=.mapUpdate t (.tmp x) (.tmp y) (.tmp z):=zm6 h1
 have hg:o.guard=none:=by
  cases hg:o.guard with
  | none=>rfl
  | some jb =>
   obtain ⟨j,b⟩:=jb
   rw [hg] at h2; simp only [zdi] at h2
   split at h2<;>cases h2
 have hw:Region.wanted o (yielded ops a.tmps)=true:=by simp [Region.wanted,hg]
 have hd:o.dst=none:=h3.symm
 have q1:=hs.slots x; have q2:=hs.slots y; have q3:=hs.slots z
 rw [hx] at q1; rw [hy] at q2; rw [hz] at q3
 have e1:a.eval (.tmp x)=a.tmps.getD x Go.undef:=rfl
 have e2:a.eval (.tmp y)=a.tmps.getD y Go.undef:=rfl
 have e3:a.eval (.tmp z)=a.tmps.getD z Go.undef:=rfl
 generalize a.tmps.getD x Go.undef=X at q1 e1
 generalize a.tmps.getD y Go.undef=Y at q2 e2
 generalize a.tmps.getD z Go.undef=V at q3 e3
 have q3':=q3.inv_p
 cases q1.inv_p with
 | mp _ _ _ es clock m0 m1 m2 m3 m4 m5 =>
  cases q2.inv_p with
  | agg _ vals hone hv =>
   have hb:=hs.heap.mem _ _ m0
   obtain ⟨es',clock',hrun,hm'⟩:=znk ht (ztf hk he hn hc) (fun h1 h2=>zmv hk he hn hc h0 h1 h2) hb ⟨m1,m2,m3,m4,m5⟩ hks hkc hv hone q3'
   have hrlt:r<w.heap.size:=(Array.getElem?_eq_some_iff.1 hb).1
   obtain ⟨hA1,hA2⟩:K.M0 r=none/\(K.X0 r\/K.w0.heap.size<=r):=hA
   let M1:Nat->Option Obj:=fun b=>if b=r then none else Z.M b
   have hM1:∀ b o,M1 b=some o->b≠r/\Z.M b=some o:=fun b o h=>by
    simp only [M1] at h; split at h
    ·cases h
    ·exact ⟨by assumption,h⟩
   have hcells:∀ b cur T fr,Z.M b=some (.cells cur T fr)->M1 b=some (.cells cur T fr):=fun b cur T fr h=>by
    simp only [M1]; rw [if_neg]; · exact h
    ·rintro rfl; rw [m0] at h; cases h
   obtain ⟨p1,p2,p3,p4,p5⟩:=hm'
   have hno:∀ s g,(⟨[],[]⟩:St).obj s g=none:=fun _ _=>rfl
   refine (show o.wp P a w Kt Q from ?_) |> fun h=>by unfold wpOp; simp only [hj,hw,if_true]; exact .inl h
   unfold Oper.wp
   have hex:(execOp a.eval o).run P w=.ok .skip (ChangeMaps.setBlock w r (.map es' clock')):=by simp [execOp,hop,e1,e2,e3,hrun,Result.andThen]
   rw [hex]
   refine hK ⟨[],[]⟩ (some (zha r (zcb kc v ks vs).1 (zcb kc v ks vs).2)) ⟨M1,Z.B,Z.cap⟩ _ _ k ?_ ?_
   ·rw [hd]
    have kp:=ztg w r (.map es' clock')
    refine ⟨fun t=>.undef _,hs.defers,hs.size,⟨fun s g o ho=>(by rw [hno] at ho; cases ho),fun s g _ _ o _ b ho=>(by rw [hno] at ho; cases ho),fun b o hb=>?_,fun s g o b ho=>(by rw [hno] at ho; cases ho),fun s g o b ho=>(by rw [hno] at ho; cases ho),fun b o hb0=>?_,fun b o hb=>hs.heap.prov b o (hM1 b o hb).2,?_⟩⟩
    ·obtain ⟨h1,h2⟩:=hM1 b o hb
     have h3:=hs.heap.mem b o h2
     rw [kp.blk b (Array.getElem?_eq_some_iff.1 h3).1 h1]; exact h3
    ·have:=hs.heap.m0 b o hb0
     show (if b=r then none else Z.M b)=some o
     rw [if_neg]; · exact this
     ·rintro rfl; rw [hA1] at hb0; cases hb0
    ·have k0:=hs.heap.keep
     refine ⟨kp.os.trans k0.os,kp.tape.trans k0.tape,kp.output.trans k0.output,Nat.le_trans k0.drawn kp.drawn,Nat.le_trans k0.size kp.size,fun b hb hxx=>?_⟩
     rw [kp.blk b (Nat.lt_of_lt_of_le hb k0.size) fun hX'=>by
      subst hX'
      rcases hA2 with h|h
      ·exact hxx h
      ·omega]
     exact k0.blk b hb hxx
   ·refine ⟨⟨by simp [M1,zha],fun s g o ho=>(by rw [hno] at ho; cases ho),?_⟩,hA2,es',clock',?_,?_⟩
    ·show r<(w.heap.setIfInBounds r _).size
     simpa using hrlt
    ·show (w.heap.setIfInBounds r _)[r]?=_
     rw [Array.getElem?_setIfInBounds_self]; simp [hrlt]
    ·exact ⟨p1.nomp hcells hn1,p2.nomp hcells hn2,p3,p4,p5⟩
def SpU (P:Program) (f:FuncId) (ks vs args:List PV) (ks' vs':List PV):Prop :=
 (∃ fn,P.funcs[f]?=some fn/\fn.body.isSome=true/\fn.name ≠ "runtime.NumGoroutine") /\
 ∀ (w:World) (M:Nat->Option Obj) (r:Nat) (vals:List Value),(∀ b o,M b=some o->w.heap[b]?=some o)->PReps M (.mp r ks vs::args) vals ->
  Calls P f vals.toArray w fun e w'=>∃ M',e=.returned (.tuple #[])/\(∀ b o,b≠r->M b=some o->M' b=some o)/\(∀ b o,M' b=some o->w'.heap[b]?=some o) /\
   (∀ b o,M' b=some o->b=r\/M b=some o\/w.heap.size<=b)/\Keep w w' (fun b=>b=r)/\PRep M' (.mp r ks' vs') (.map (some r))
theorem SpU.of_mr {f:FuncId} {ks vs args ks' vs':List PV} {n np:Nat} {b:GC} (hc:zac P f=some ⟨n,np,b.er,[]⟩) (hn:args.length+1<=n)
  (h:∀ r,MR P n b.er (zel (.mp r ks vs::args)) (some (fzFA r)) fun ex s B=>(ex=.normal\/ex=.ret)/\(B=some (zha r ks' vs')\/(B=some (fzFA r)/\s.get 0=.p (.mp r ks' vs')))):SpU P f ks vs args ks' vs':=by
 unfold zac at hc
 split at hc
 ·rename_i fn hf
  split at hc
  ·rename_i hname
   split at hc
   ·rename_i c hb
    split at hc
    ·rename_i bd rs h1 h2
     simp only [Option.some.injEq,FnC.mk.injEq] at hc
     obtain ⟨rfl,_,rfl,rfl⟩:=hc
     refine ⟨⟨fn,hf,by rw [hb]; rfl,hname⟩,fun w M r vals hM hv=>?_⟩
     refine calls_of_wp hf hb ?_
     obtain ⟨es,clock,m0⟩:∃ es clock,M r=some (.map es clock):=by
      cases hv with
      | cons _ _ _ _ h _=>cases h with
       | mp _ _ _ es clock m0=>exact ⟨es,clock,m0⟩
     have hrlt:r<w.heap.size:=(Array.getElem?_eq_some_iff.1 (hM _ _ m0)).1
     have hi:=zoe hM hv (N:=fn.ntmps) (by simpa using hn)
     have hi':StRep ⟨w,fun b=>if b=r then none else M b,fun b=>b=r,fn.ntmps⟩ ⟨M,fun _ _=>none,fun _ _=>0⟩ (zel (.mp r ks vs::args)) w { tmps:=vals.toArray++Array.replicate (fn.ntmps - vals.toArray.size) Go.undef,defers:=[] }:=by
      refine ⟨hi.slots,hi.defers,hi.size,⟨hi.heap.objs,hi.heap.inj,hi.heap.mem,hi.heap.sep,fun s g o b ho hb=>(by cases hb),fun b o hb=>?_,fun b o hb=>?_,⟨rfl,rfl,rfl,Nat.le_refl _,Nat.le_refl _,fun _ _ _=>rfl⟩⟩⟩
      ·simp only at hb; split at hb
       ·cases hb
       ·exact hb
      ·by_cases hbr:b=r
       ·exact .inr (.inl hbr)
       ·exact .inl (by simp only; rw [if_neg hbr]; exact hb)
     refine h r _ h1 _ _ w _ _ rfl hi' ⟨by simp [fzFA],.inl rfl⟩ fun ex st' A' Z' w' a' hp hs' hA'=>?_
     have hfin:a'.defers=[]/\∃ v,(results fn a'.tmps).run P w'=.ok v w'/\∃ M',Ending.returned v=.returned (.tuple #[])/\(∀ b o,b≠r->M b=some o->M' b=some o)/\(∀ b o,M' b=some o->w'.heap[b]?=some o) /\
       (∀ b o,M' b=some o->b=r\/M b=some o\/w.heap.size<=b)/\Keep w w' (fun b=>b=r)/\PRep M' (.mp r ks' vs') (.map (some r)):=by
      have hrs:fn.results.toList=[]:=by
       cases hl:fn.results.toList with
       | nil=>rfl
       | cons x xs =>
        rw [hl] at h2
        cases x with
        | tmp t=>simp only [zet] at h2; obtain ⟨_,_,h⟩:=mapS h2; cases h
        | cell _ _ =>
         simp only [zet] at h2; split at h2<;>try cases h2
         obtain ⟨_,_,h⟩:=mapS h2; cases h
      have hres:(results fn a'.tmps).run P w'=.ok (.tuple #[]) w':=by
       unfold results
       rw [Array.mapM_eq_mapM_toList,hrs]
       simp
      refine ⟨hs'.defers,_,hres,?_⟩
      have hm0:∀ b o,b≠r->M b=some o->Z'.M b=some o:=fun b o hb ho=>hs'.heap.m0 b o (by simp only; rw [if_neg hb]; exact ho)
      have hprov:∀ b o,Z'.M b=some o->b=r\/M b=some o\/w.heap.size<=b:=fun b o ho=>by
       rcases hs'.heap.prov b o ho with h|h|h
       ·simp only at h; split at h
        ·cases h
        ·exact .inr (.inl h)
       ·exact .inl h
       ·exact .inr (.inr h)
      rcases hp.2 with rfl|⟨rfl,hg⟩
      ·obtain ⟨hF,_,es',clock',q0,q1,q2,q3,q4,q5⟩:=hA'
       have hsub:∀ b o,Z'.M b=some o->(if b=r then w'.heap[r]? else Z'.M b)=some o:=fun b o ho=>by
        rw [if_neg]; · exact ho
        ·rintro rfl; have:=hF.m; simp only [zha] at this; rw [this] at ho; cases ho
       refine ⟨fun b=>if b=r then w'.heap[r]? else Z'.M b,rfl,fun b o hb ho=>by simp only; rw [if_neg hb]; exact hm0 b o hb ho,fun b o ho=>?_,fun b o ho=>?_,hs'.heap.keep,?_⟩
       ·simp only at ho; split at ho
        ·rename_i hb; subst hb; exact ho
        ·exact hs'.heap.mem b o ho
       ·simp only at ho; split at ho
        ·rename_i hb; exact .inl hb
        ·exact hprov b o ho
       ·exact .mp r ks' vs' es' clock' (by simp only [if_true]; exact q0) (q1.mono hsub) (q2.mono hsub) q3 q4 q5
      ·refine ⟨Z'.M,rfl,hm0,hs'.heap.mem,hprov,hs'.heap.keep,?_⟩
       have h0:=hs'.slots 0
       rw [hg] at h0
       have h1:=h0.inv_p
       generalize a'.tmps.getD 0 Go.undef=X at h1
       cases h1 with
       | mp _ _ _ es clock m0 m1 m2 m3 m4 m5=>exact .mp _ _ _ es clock m0 m1 m2 m3 m4 m5
     rcases hp.1 with rfl|rfl
     ·exact hfin
     ·exact hfin
    ·cases hc
   ·cases hc
  ·cases hc
 ·cases hc
end
end Go.Ab
