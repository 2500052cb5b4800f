/-
Proofs for the law TransducerHasAForm, part 29. Conditions: none.
-/
import Derived.Test.YtbhboeijjgiflaaGreatDoorAP28
set_option maxRecDepth 100000
set_option maxHeartbeats 4000000
set_option linter.all false
namespace Go.Ab
open Enc (enc)
def SpV (P:Program) (f:FuncId) (vals:List Value) (res:RV):Prop :=
 (∃ fn,P.funcs[f]?=some fn/\fn.body.isSome=true/\fn.name ≠ "runtime.NumGoroutine") /\
 ∀ (w:World) (M:Nat->Option Obj),(∀ b o,M b=some o->w.heap[b]?=some o) ->
  Calls P f vals.toArray w fun e w'=>∃ x M',e=.returned x/\(∀ b o,M b=some o->M' b=some o)/\(∀ b o,M' b=some o->w'.heap[b]?=some o) /\
   (∀ b o,M' b=some o->M b=some o\/w.heap.size<=b)/\Keep w w' (fun _=>False)/\RRep M' w w' res x
section
variable {P:Program} {K:Ctx} {Z Z':Cz} {st st' st1:St} {w w':World} {a:Act} {N:Nat} {A B:Option FA} {Post:Exit->St->Option FA->Prop} {PostI:St->Option FA->Prop} {v:AV}
theorem z1l {d:Option Nat} {f:FuncId} {xs:List Opd} {vals:List Value} {res:RV} (hsp:SpV P f vals res) (hv:∀ (Z:Cz) (ys:List Value),AReps Z st (xs.map st.ev) ys->ys=vals) (hres:zgf ⟨f,[],res,none⟩ st (d.getD 0) []=some (v,st1)) (hsl:st1.sl=st.sl)
  (k:PostI (st1.put d v) none):MOp P N ⟨d,.call f xs,none⟩ st none PostI:=by
 intro ops j o K Z w a Q Kt hN hj hcc hs hA hK
 obtain ⟨h1,h2,h3,h4⟩:=zcw hcc
 obtain ⟨cc,h,hop,hf,hh,hops⟩:=zkd h1
 have hg:o.guard=none:=by
  cases hg:o.guard with
  | none=>rfl
  | some jb =>
   obtain ⟨j,b⟩:=jb
   rw [hg] at h2; simp only [zc9] at h2
   split at h2<;>cases h2
 have hw:Region.wanted o (yielded ops a.tmps)=true:=by simp [Region.wanted,hg]
 have hd:d=o.dst:=h3
 obtain ⟨hfn,hsp⟩:=hsp
 have hr:=zh7 hops hs
 have hfr:=zap hh hs
 simp only [St.ev] at hfr
 have hfv:a.eval h=.func (.func f) #[] #[]:=by
  have hp:=hfr.inv_p
  generalize a.eval h=F at hp ⊢
  cases hp with
  | fn _ _ vals h=>cases h; rfl
 have hvs:cc.args.toList.map a.eval=vals:=hv Z _ (by simpa using hr)
 have hrun:(execOp a.eval o).run P w=.ok (.enter f vals.toArray) w:=by
  have:=ze5 (P:=P) (w:=w) (args:=(cc.args.toList.map a.eval).toArray) hfn
  simp only [execOp,hop,resolve,hf,hfv,Deferred.ofValue,Sem.run_bind,Sem.run_pure,Result.andThen_ok,invoke]
  have e : #[]++cc.args.map a.eval ++ #[]=(cc.args.toList.map a.eval).toArray:=by simp [<- Array.toList_map]
  rw [e,this,hvs]
 refine (show o.wp P a w Kt Q from ?_) |> fun h=>by unfold wpOp; simp only [hj,hw,if_true]; exact .inl h
 unfold Oper.wp
 rw [hrun,Oper.upon_enter]
 have hmx:∀ b o,Mx Z st w [] b=some o->Z.M b=some o:=fun b o hb=>by
  rcases zbw hb with h|⟨_,_,s,g,ob,h,_⟩
  ·exact h
  ·cases h
 refine (hsp w (Mx Z st w []) (fun b o hb=>hs.heap.mem b o (hmx b o hb))).mono ?_
 rintro e w' ⟨x,M',rfl,p1,p2,p3,p4,p5⟩
 obtain ⟨Z',q1,q2,q3⟩:=zs4 (c:=⟨f,[],res,none⟩) (vs:=[]) hs.heap p1 p2 p3 p4 p5 hres
 refine hK _ _ Z' _ _ k ?_ trivial
 rw [hd]
 exact hs.put hsl q3 q1 q2 (by subst hN; exact h4) hs.defers
theorem Weak.trunc0 {t s sz:Nat} {es:List AV} (hp:s<PINB):Weak ⟨[(t,.own s 0 0 0)],[(s,[some ⟨sz,es⟩])]⟩ ⟨[(t,.own s 0 0 0)],[(s,[some ⟨sz,[]⟩])]⟩:=by
 intro K Z w a hs
 have hobj:∀ (es:List AV) s' g' o',(⟨[(t,.own s 0 0 0)],[(s,[some ⟨sz,es⟩])]⟩:St).obj s' g'=some o'->s'=s/\g'=0/\o'=⟨sz,es⟩:=by
  intro es s' g' o' h
  simp only [St.obj,St.site,look] at h
  split at h
  ·rename_i hs0
   cases g' with
   | zero=>simp at h; exact ⟨hs0.symm,rfl,h.symm⟩
   | succ g=>simp at h
  ·simp at h
 have h00:∀ es:List AV,(⟨[(t,.own s 0 0 0)],[(s,[some ⟨sz,es⟩])]⟩:St).obj s 0=some ⟨sz,es⟩:=fun es=>by simp [St.obj,St.site,look]
 have hO:=hs.heap.objs s 0 _ (h00 es)
 refine ⟨Z,⟨fun u=>?_,hs.defers,hs.size,⟨fun s' g' o' h=>?_,fun s1 g1 s2 g2 o1 o2 b h1 h2 _ _=>?_,hs.heap.mem,fun s' g' o' b h hb=>?_,fun s' g' o' b h hb=>?_,hs.heap.m0,hs.heap.prov,hs.heap.keep⟩⟩,⟨fun u a _=>?_,fun u g a _ hg _=>?_,fun u g o a _ ho=>?_⟩⟩
 case refine_6=>simp only [St.site,look]; split<;>simp
 case refine_7 =>
  simp only [St.site,look] at hg
  split at hg
  ·omega
  ·simp at hg
 case refine_8=>have:=(hobj _ _ _ _ ho).1; omega
 ·have hu:=hs.slots u
  simp only [St.get,look] at hu ⊢
  split at hu
  ·rename_i hut; simp only [hut,if_true]
   generalize a.tmps.getD u Go.undef=x at hu
   cases hu with
   | own0 _ _ o ho hb=>exact .own0 _ _ _ (h00 []) hb
   | own _ _ _ _ o b ad c ho hb h1 h2 h3 h4=>exact .own _ _ _ _ _ b ad c (h00 []) hb h1 (fun h=>absurd h (by omega)) (by simp) h4
   | ownD _ _ _ _ _ _ _ hd=>rw [h00] at hd; cases hd
  ·rename_i hut; simp only [hut,if_false]; exact .undef _
 ·obtain ⟨rfl,rfl,rfl⟩:=hobj _ _ _ _ h
  refine ⟨hO.pos,by simp,by simp,fun _=>rfl,fun b hb=>?_⟩
  obtain ⟨cur,T,vals,k1,k2,k3,k4,k5,k6⟩:=hO.blk b hb
  exact ⟨cur,T,[],k1,.nil,by simp,k4,by simp,k6⟩
 ·obtain ⟨rfl,rfl,_⟩:=hobj _ _ _ _ h1
  obtain ⟨rfl,rfl,_⟩:=hobj _ _ _ _ h2
  exact ⟨rfl,rfl⟩
 ·obtain ⟨rfl,rfl,rfl⟩:=hobj _ _ _ _ h; exact hs.heap.sep _ _ _ b (h00 es) hb
 ·obtain ⟨rfl,rfl,rfl⟩:=hobj _ _ _ _ h; exact hs.heap.own _ _ _ b (h00 es) hb
theorem SpV.of_vm {f:FuncId} {vals:List Value} {res:RV} {n np:Nat} {b:GC} {rs:List (Nat × Option Nat)} (hc:zad P f=some ⟨n,np,b.er,rs⟩) (hn:vals.length<=n)
  (hst:st.hp=[]) (hreps:∀ (M:Nat->Option Obj) (t:Nat),ARep ⟨M,fun _ _=>none,fun _ _=>0⟩ st (st.get t) ((vals.toArray++Array.replicate (n - vals.toArray.size) Go.undef).getD t Go.undef))
  (h:vm P n (fun ex s=>∃ s',Weak s s'/\retP rs res ex s') [.code b] st):SpV P f vals res:=by
 have hno:∀ s g,st.obj s g=none:=fun s g=>by simp [St.obj,St.site,hst,look]
 obtain ⟨ex,s,hrun,s',hw,hret⟩:=zde _ (Nat.le_refl _) h
 have hrun:=hrun.weakR hw
 have hr:(ex=.ret\/ex=.normal)/\∃ vs,zbj s' rs=some vs/\ResOk s' (resOf vs) res:=by
  have key:(ex=.ret\/ex=.normal)/\∃ vs,zbj s' rs=some vs/\resP s' (resOf vs) res:=by
   cases ex with
   | ret=>exact ⟨.inl rfl,hret⟩
   | normal=>exact ⟨.inr rfl,hret⟩
   | _=>exact hret.elim
  obtain ⟨k1,vs,r3,r4⟩:=key
  refine ⟨k1,vs,r3,?_⟩
  unfold resP at r4
  split at r4
  ·exact .pure _ _ r4
  ·split at r4
   ·rename_i sz es s' g off len hv
    obtain ⟨o,h1,rfl,h2,rfl,h4⟩:=r4
    rw [hv]
    exact .fresh _ _ _ _ _ h1 h2 h4
   ·rename_i hv; rw [hv,r4]; exact .nil _
   ·exact r4.elim
  ·exact r4.elim
 obtain ⟨hex,vs,hvs,hres⟩:=hr
 unfold zad at hc
 split at hc
 ·rename_i fn hf
  split at hc
  ·rename_i hname
   split at hc
   ·rename_i c hb
    split at hc
    ·rename_i bd rs' h1 h2
     simp only [Option.some.injEq,FnC.mk.injEq] at hc
     obtain ⟨rfl,_,rfl,rfl⟩:=hc
     refine ⟨⟨fn,hf,by rw [hb]; rfl,hname⟩,fun w M hM=>?_⟩
     refine calls_of_wp hf hb ?_
     refine hrun c h1 ⟨w,M,fun _=>False,fn.ntmps⟩ ⟨M,fun _ _=>none,fun _ _=>0⟩ w _ _ rfl ⟨hreps M,rfl,by simp; omega,⟨fun s g o ho=>(by rw [hno] at ho; cases ho),fun s g _ _ o _ b ho=>(by rw [hno] at ho; cases ho),hM,fun s g o b ho=>(by rw [hno] at ho; cases ho),fun s g o b ho=>(by rw [hno] at ho; cases ho),fun _ _ h=>h,fun _ _ h=>.inl h,Keep.refl w _⟩⟩ (fun Z' w' a' hs _=>?_)
     have hfin:a'.defers=[]/\∃ v,(results fn a'.tmps).run P w'=.ok v w'/\∃ x M',Ending.returned v=.returned x/\(∀ b o,M b=some o->M' b=some o)/\(∀ b o,M' b=some o->w'.heap[b]?=some o) /\
       (∀ b o,M' b=some o->M b=some o\/w.heap.size<=b)/\Keep w w' (fun _=>False)/\RRep M' w w' res x:=by
      obtain ⟨xs,e1,e2⟩:=zjv hs h2 hvs
      obtain ⟨M',m1,m2,m3,m4,m5⟩:=zpn hs.heap e2.resOf hres
      refine ⟨hs.defers,_,?_,_,M',rfl,m1,m2,m3,m4,m5⟩
      unfold results
      rw [Array.mapM_eq_mapM_toList]
      simp only [Sem.run_bind,map_eq_pure_bind,Sem.run_pure]
      exact congrArg (fun r=>(Result.andThen r fun a w'=>Result.ok a.toArray w').andThen fun (a:Array Value) w'=>Result.ok (if h:a.size=1 then a[0] else Value.tuple a) w') e1
     rcases hex with rfl|rfl
     ·exact hfin
     ·exact hfin
    ·cases hc
   ·cases hc
  ·cases hc
 ·cases hc
end
end Go.Ab
namespace Go.Ab
section
variable {P:Program} {K:Ctx} {Z Z':Cz} {st st':St} {w w':World} {a:Act}
theorem HRep.same2 (h:HRep K Z st w) {s g:Nat} {o:AObj} (ho:st.obj s g=some o) {es:List AV} (hl:es.length=o.es.length) (h2:∀ e∈es,e.sz=o.sz) (h3:∀ c∈es.flatMap AV.cells,c.one=true)
  (h4:∀ b,Z.B s g=some b->∃ (cur:Array Value) (T:TypeId) (vals:List Value),w.heap[b]?=some (.cells cur T (0,0))/\AReps Z st (es.flatMap AV.cells) vals /\
   (∀ (i:Nat) (v:Value),vals[i]?=some v->cur[i]?=some v)/\cur.size=Z.cap s g*o.sz/\o.es.length<=Z.cap s g/\Z.cap s g<=maxLen):HRep K Z (st.setObj s g ⟨o.sz,es⟩) w:=by
 have hg:=zb8 ho
 have hz:=ZLe.setObj Z st s g o ⟨o.sz,es⟩ ho rfl hl
 have old:∀ {s' g':Nat} {o':AObj},(st.setObj s g ⟨o.sz,es⟩).obj s' g'=some o'->∃ o0,st.obj s' g'=some o0:=by
  intro s' g' o' ho'
  rw [zbc _ _ _ _ _ _ hg] at ho'
  split at ho'
  ·rename_i hc; obtain ⟨rfl,rfl⟩:=hc; exact ⟨o,ho⟩
  ·exact ⟨o',ho'⟩
 refine ⟨fun s' g' o' ho'=>?_,fun s' g' s'' g'' o' o'' b a1 a2 b1 b2=>?_,h.mem,fun s' g' o' b a1 b1=>?_,fun s' g' o' b a1 b1=>?_,h.m0,h.prov,h.keep⟩
 ·rw [zbc _ _ _ _ _ _ hg] at ho'
  split at ho'
  ·rename_i hc
   obtain ⟨rfl,rfl⟩:=hc
   cases ho'
   obtain ⟨k1,k2,k3,k4,k5⟩:=h.objs s' g' o ho
   refine ⟨k1,h2,h3,fun hb=>List.eq_nil_of_length_eq_zero (by rw [hl,k4 hb]; rfl),fun b hb=>?_⟩
   obtain ⟨cur,T,vals,e1,e2,e3,e4,e5,e6⟩:=h4 b hb
   exact ⟨cur,T,vals,e1,AReps.mono hz e2,e3,e4,by simpa [hl] using e5,e6⟩
  ·exact (h.objs s' g' o' ho').later hz rfl rfl (fun _ _=>rfl)
 ·obtain ⟨o1,c1⟩:=old a1
  obtain ⟨o2,c2⟩:=old a2
  exact h.inj _ _ _ _ _ _ b c1 c2 b1 b2
 ·obtain ⟨o1,c1⟩:=old a1; exact h.sep _ _ _ b c1 b1
 ·obtain ⟨o1,c1⟩:=old a1; exact h.own _ _ _ b c1 b1
theorem zh4:∀ (ids:List (Nat × Nat)) {st:St} {s g:Nat} {o:AObj},st.obj s g=some o->(s,g)∉ids->(killAll st ids).obj s g=some o
 | [],_,_,_,_,h,_=>h
 | (s',g')::r,st,s,g,o,h,hn=>by
  simp only [List.mem_cons,Prod.mk.injEq,not_or] at hn
  rw [ze2]
  refine zh4 r ?_ hn.2
  rw [zez,if_neg hn.1]; exact h
end
end Go.Ab
namespace Go.Ab
section
variable {P:Program} {K:Ctx} {Z Z':Cz} {st st':St} {w w':World} {a:Act}
def zev:List AV->List AV->Prop
 | [],[]=>True
 | x::l,y::r=>(x=y\/(x=.p .any/\y.one=true))/\zev l r
 | _,_=>False
theorem zev.reps:∀ {l r:List AV} {vals:List Value},zev l r->AReps Z st r vals->AReps Z st l vals
 | [],[],_,_,h=>h
 | [],_::_,_,h,_=>h.elim
 | _::_,[],_,h,_=>h.elim
 | x::l,y::r,_,h,.cons _ v _ vs h1 h2=>by
  refine .cons _ _ _ _ ?_ (zev.reps h.2 h2)
  rcases h.1 with rfl|⟨rfl,ho⟩
  ·exact h1
  ·exact .p _ _ (.any _ (ARep.one_val h1 ho))
theorem zev.one:∀ {l r:List AV},zev l r->(∀ c∈r,c.one=true)->∀ c∈l,c.one=true
 | [],[],_,_,c,hc=>by cases hc
 | [],_::_,h,_,_,_=>h.elim
 | _::_,[],h,_,_,_=>h.elim
 | x::l,y::r,h,hr,c,hc=>by
  rcases List.mem_cons.1 hc with rfl|hc
  ·rcases h.1 with rfl|⟨rfl,_⟩
   ·exact hr _ List.mem_cons_self
   ·rfl
  ·exact zev.one h.2 (fun c hc=>hr c (List.mem_cons_of_mem _ hc)) c hc
theorem Weak.anyCells {s g:Nat} {o:AObj} (es:List AV) (ho:st.obj s g=some o) (hl:es.length=o.es.length) (h2:∀ e∈es,e.sz=o.sz) (hc:zev (es.flatMap AV.cells) (o.es.flatMap AV.cells)):Weak st (st.setObj s g ⟨o.sz,es⟩):=by
 intro K Z w a hs
 have hO:=hs.heap.objs s g o ho
 have hz:=ZLe.setObj Z st s g o ⟨o.sz,es⟩ ho rfl hl
 have hss:=hs.heap.same2 ho hl h2 (hc.one hO.one) (fun b hb=>by
  obtain ⟨cur,T,vals,e1,e2,e3,e4,e5,e6⟩:=hO.blk b hb
  exact ⟨cur,T,vals,e1,hc.reps e2,e3,e4,e5,e6⟩)
 refine ⟨Z,⟨fun u=>?_,hs.defers,hs.size,hss⟩,.of_zle hz⟩
 rw [show (st.setObj s g ⟨o.sz,es⟩).get u=st.get u from rfl]
 exact ARep.mono hz (hs.slots u)
end
def endW (rs:List (Nat × Option Nat)) (res:RV) (ex:Exit) (s:St):Prop:=∃ s1,Weak s s1/\retP rs res ex s1
theorem Sp.of_vmE {P:Program} {f:FuncId} {args:List PV} {res:RV} {n np:Nat} {b:GC} {rs:List (Nat × Option Nat)} (hc:zad P f=some ⟨n,np,b.er,rs⟩) (hn:args.length<=n) (h:vm P n (endW rs res) [.code b] (ze3 args)):Sp P f args res:=by
 obtain ⟨ex,s0,r1,s,hw,r2⟩:=zde _ (Nat.le_refl _) h
 have key:(ex=.ret\/ex=.normal)/\∃ vs,zbj s rs=some vs/\resP s (resOf vs) res:=by
  cases ex with
  | ret=>exact ⟨.inl rfl,r2⟩
  | normal=>exact ⟨.inr rfl,r2⟩
  | _=>exact r2.elim
 obtain ⟨k1,vs,r3,r4⟩:=key
 refine Sp.of_runs hc hn (Runs.weakR r1 hw) k1 r3 ?_
 unfold resP at r4
 split at r4
 ·exact .pure _ _ r4
 ·split at r4
  ·rename_i sz es s' g off len hv
   obtain ⟨o,h1,rfl,h2,rfl,h4⟩:=r4
   rw [hv]
   exact .fresh _ _ _ _ _ h1 h2 h4
  ·rename_i hv; rw [hv,r4]; exact .nil _
  ·exact r4.elim
 ·exact r4.elim
end Go.Ab
namespace Go.Ab
open Enc (enc)
attribute [local go_sem] zal Opd.slots
def ratA:PV:=.agg [.fn F.d8 [],.fn F.bc [],.fn F.ip [],.fn F.ee [],.fn F.be [],.fn F.o9 [],.fn F.my [],.fn F.nq [],.fn F.pb []]
def polA:PV:=.agg [.fn F.eu [],.fn F.fa [],.fn F.oe [],.fn F.fb [],.fn F.fc [],.fn F.pg [],.fn F.my [],.fn F.ph [],.fn F.pi []]
def fraB (x:PV):PV:=.agg [.fn F.cd [],.fn F.bc [],.fn F.ip [],.fn F.eq [x],.fn F.be [],.fn F.l9 [.ref (.fn F.ip [])],.fn F.ep [],.fn F.nq [],.fn F.pe [x]]
def cosB (x:PV):PV:=.agg [.fn F.bz [],.fn F.b7 [],.fn F.m8 [],.fn F.b8 [],.fn F.bf [],.fn F.l9 [.ref (.fn F.m8 [])],.fn F.b9 [],.fn F.n9 [],.fn F.pd [x]]
def setB (x:PV):PV:=.agg [.fn F.ch [],.fn F.cj [],.fn F.m9 [],.fn F.cm [],.fn F.cn [],.fn F.l9 [.ref (.fn F.m9 [])],.fn F.my [],.fn F.od [],.fn F.pf [x]]
def fraZ:PV:=.agg [.fn F.cd [],.fn F.bc [],.fn F.ip [],.any,.fn F.be [],.fn F.l9 [.ref (.fn F.ip [])],.fn F.ep [],.fn F.nq [],.any]
def cosZ:PV:=.agg [.fn F.bz [],.fn F.b7 [],.fn F.m8 [],.fn F.b8 [],.fn F.bf [],.fn F.l9 [.ref (.fn F.m8 [])],.fn F.b9 [],.fn F.n9 [],.any]
def setZ:PV:=.agg [.fn F.ch [],.fn F.cj [],.fn F.m9 [],.fn F.cm [],.fn F.cn [],.fn F.l9 [.ref (.fn F.m9 [])],.fn F.my [],.fn F.od [],.any]
def fraA:PV:=fraB (.ref fraZ)
def cosA:PV:=cosB (.ref cosZ)
def setA:PV:=setB (.ref setZ)
theorem zgv:Sp P F.d6 [] (.pure ratA):=by
 refine Sp.vz c.d6 fun _=>?_
 simp [g.d6,go_sem,ratA]
theorem znx:Sp P F.ky [] (.pure polA):=by
 refine Sp.vz c.ky fun _=>?_
 simp [g.ky,go_sem,polA]
theorem ztd (f:FuncId):Sp P F.ej [.fn f []] (.pure (.fn F.l9 [.ref (.fn f [])])):=by
 refine Sp.vz c.ej fun _=>?_
 simp [g.ej,go_sem,toPV]
theorem zsm:Sp P F.ku [] (.pure fraA):=by
 refine Sp.of_vmE c.ku (by simp) ?_
 simp [g.ku,go_sem]
 refine zaa zgv rfl ?_
 simp [go_sem,ratA]
 refine zaa (ztd F.ip) rfl ?_
 simp [go_sem]
 refine ⟨_,Weak.anyCells (s:=1) (g:=0) [.p fraZ] rfl rfl (by simp [fraZ,go_sem]) ?_,?_⟩
 ·simp [fraZ,zev,AV.cells,PV.cells]; decide
 simp [go_sem,toPV,retP,resP,zbj,zkm,resOf,fraA,fraB,St.setObj]
theorem z60:Sp P F.kr [] (.pure cosA):=by
 refine Sp.of_vmE c.kr (by simp) ?_
 simp [g.kr,go_sem]
 refine zaa (ztd F.m8) rfl ?_
 simp [go_sem]
 refine ⟨_,Weak.anyCells (s:=1) (g:=0) [.p cosZ] rfl rfl (by simp [cosZ,go_sem]) ?_,?_⟩
 ·simp [cosZ,zev,AV.cells,PV.cells]; decide
 simp [go_sem,toPV,retP,resP,zbj,zkm,resOf,cosA,cosB,St.setObj]
theorem z84:Sp P F.kx [] (.pure setA):=by
 refine Sp.of_vmE c.kx (by simp) ?_
 simp [g.kx,go_sem]
 refine zaa (ztd F.m9) rfl ?_
 simp [go_sem]
 refine ⟨_,Weak.anyCells (s:=1) (g:=0) [.p setZ] rfl rfl (by simp [setZ,go_sem]) ?_,?_⟩
 ·simp [setZ,zev,AV.cells,PV.cells]; decide
 simp [go_sem,toPV,retP,resP,zbj,zkm,resOf,setA,setB,St.setObj]
def zmz (k:Int):PV:=if k=1 then ratA else if k=2 then cosA else if k=3 then fraA else if k=4 then setA else polA
theorem zj3 (k:Int) (hk:1<=k/\k<=5):Sp P F.aj [.int .i64 k] (.pure (zmz k)):=by
 have:k=1\/k=2\/k=3\/k=4\/k=5:=by omega
 rcases this with rfl|rfl|rfl|rfl|rfl
 ·refine Sp.vz c.aj fun _=>?_
  simp [g.aj,go_sem]
  refine zaa zgv rfl ?_
  simp [go_sem,zmz,ratA]
 ·refine Sp.vz c.aj fun _=>?_
  simp [g.aj,go_sem]
  refine zaa z60 rfl ?_
  simp [go_sem,zmz,cosA,cosB]
 ·refine Sp.vz c.aj fun _=>?_
  simp [g.aj,go_sem]
  refine zaa zsm rfl ?_
  simp [go_sem,zmz,fraA,fraB]
 ·refine Sp.vz c.aj fun _=>?_
  simp [g.aj,go_sem]
  refine zaa z84 rfl ?_
  simp [go_sem,zmz,setA,setB]
 ·refine Sp.vz c.aj fun _=>?_
  simp [g.aj,go_sem]
  refine zaa znx rfl ?_
  simp [go_sem,zmz,polA]
theorem zrk (k:Int):Sp P F.gp [.int .i64 k] (.pure (.bool (decide (1<=k/\k<=5)))):=by
 refine Sp.vz c.gp fun _=>?_
 simp [g.gp,go_sem]
 refine ⟨fun h=>by simp [h],fun h=>by simp [show ¬ 1<=k by omega]⟩
theorem zxh (k:Int):Sp P F.gr [.int .i64 k] (.pure (.bool (!decide (1<=k/\k<=5)))):=by
 refine Sp.vz c.gr fun _=>?_
 simp [g.gr,go_sem]
 refine zaa (zrk k) rfl ?_
 simp [go_sem]
theorem zeo (r:GRing):Sp P F.bn [enc r] (.pure (.bool r.ok)):=by
 refine Sp.vz c.bn fun hok=>?_
 simp [g.bn,go_sem]
 refine ⟨fun h6=>⟨fun h2=>⟨fun h3=>?_,fun h3=>?_⟩,fun h2=>?_⟩,fun h6=>?_⟩
 ·refine zaa (yam r.parts F.gr [] (fun k => !decide (1<=k/\k<=5)) (by omega) fun k _=>zxh k) rfl ?_
  have:r.ok = !(r.parts.any fun k => !decide (1<=k/\k<=5)):=by
   rw [Bool.eq_iff_iff]
   simp only [GRing.ok,if_pos h6,decide_eq_true_eq,Bool.not_eq_true',List.any_eq_false]
   constructor
   ·intro h x hx; have:=h.2.2 x hx; simp [this]
   ·intro h; exact ⟨by omega,by omega,fun k hk=>by have:=h k hk; simpa using this⟩
  simp [go_sem,this]
 ·simp [GRing.ok,h6]; intro h; omega
 ·simp [GRing.ok,h6]; intro h; omega
 ·refine zaa (zrk r.kind) rfl ?_
  by_cases hk:1<=r.kind/\r.kind<=5
  ·simp [go_sem,hk,GRing.ok,h6]
  ·have:r.ok=false:=by simp only [GRing.ok,if_neg h6,decide_eq_false_iff_not]; omega
   simp [go_sem,hk,this]
end Go.Ab
namespace Go.Ab
open Enc (enc)
attribute [local go_sem] zal Opd.slots
theorem zsi (w:GW) (q:GRat) (c:Int) (i:Bool) (s:UInt64) (p:List GMono) (ps:List GW):w=.mk q c i s p ps ↔ w.q=q/\w.cost=c/\w.inf=i/\w.set=s/\w.poly=p/\w.parts=ps:=by
 cases w; simp [GW.q,GW.cost,GW.inf,GW.set,GW.poly,GW.parts]
theorem zvr (w:GW) (hw:w.sm 1048576):Sp P F.d8 [enc w] (.pure (.bool (decide (w.si 1)))):=by
 refine Sp.vz c.d8 fun _=>?_
 simp [g.d8,go_sem]
 refine zaa (zl4 w.q (hw.q.mono (by omega))) rfl ?_
 rcases Bool.eq_false_or_eq_true w.q.valid with hv|hv
 ·simp [go_sem,hv]
  refine zab (zcq w hw (.mk w.q 0 false 0 [] [])) ?_
  simp [go_sem]
  rw [si1,zsi]
  simp [hv]
  exact ⟨fun ⟨a,b,c,d,e⟩=>⟨e,b,a,c,d⟩,fun ⟨e,b,a,c,d⟩=>⟨a,b,c,d,e⟩⟩
 ·have:¬ w.si 1:=fun h=>by have:=(si1.1 h).2.2.2.2.2; rw [hv] at this; cases this
  simp [go_sem,hv,this]
theorem z5c (w:GW) (hw:w.sm 1048576):Sp P F.eu [enc w] (.pure (.bool (decide (w.si 5)))):=by
 refine Sp.vz c.eu fun _=>?_
 simp [g.eu,go_sem]
 refine zaa (zrv w.poly hw.poly (by have:=hw.len; omega)) rfl ?_
 by_cases hv:PVal w.poly
 ·simp [go_sem,hv]
  refine zab (zcq w hw (.mk gr0 0 false 0 w.poly [])) ?_
  simp [go_sem]
  rw [si5,zsi]
  simp [hv]
  exact ⟨fun ⟨a,b,c,d,e⟩=>⟨e,a,c,b,d⟩,fun ⟨e,a,c,b,d⟩=>⟨a,b,c,d,e⟩⟩
 ·have:¬ w.si 5:=fun h=>hv (si5.1 h).2.2.2.2.2
  simp [go_sem,hv,this]
theorem z4t (w:GW) (hw:w.sm 1048576):Sp P F.ch [enc w] (.pure (.bool (decide (w.si 4)))):=by
 refine Sp.vz c.ch fun _=>?_
 simp [g.ch,go_sem]
 refine zab (zcq w hw (.mk gr0 0 false w.set [] [])) ?_
 simp [go_sem]
 rw [si4,zsi]
 simp
 exact ⟨fun ⟨a,b,c,d,e⟩=>⟨e,a,c,b,d⟩,fun ⟨e,a,c,b,d⟩=>⟨a,b,c,d,e⟩⟩
theorem z64 (w:GW) (hw:w.sm 1048576):Sp P F.bz [enc w] (.pure (.bool (decide (w.si 2)))):=by
 refine Sp.vz c.bz fun _=>?_
 simp [g.bz,go_sem]
 have no:¬ (0<=w.cost/\w.cost<=1099511627776/\(w.inf=true->w.cost=0))->¬ w.si 2:=fun h h2=>h (si2.1 h2).2.2.2.2
 refine ⟨fun h1=>⟨fun h2=>?_,fun h2=>?_⟩,fun h1=>?_⟩
 ·rcases Bool.eq_false_or_eq_true w.inf with hi|hi
  ·simp [go_sem,hi]
   refine ⟨fun h3=>?_,fun h3=>no (fun h=>h3 (h.2.2 hi))⟩
   refine zaa (zcq w hw (.mk gr0 w.cost true 0 [] [])) (by simp [go_sem,hi]) ?_
   simp [go_sem]
   rw [si2,zsi]
   simp [hi,h3]
   exact ⟨fun ⟨a,b,c,d⟩=>⟨d,a,b,c⟩,fun ⟨d,a,b,c⟩=>⟨a,b,c,d⟩⟩
  ·simp [go_sem,hi]
   refine zaa (zcq w hw (.mk gr0 w.cost false 0 [] [])) (by simp [go_sem,hi]) ?_
   simp [go_sem]
   rw [si2,zsi]
   simp [hi,h1,h2]
   exact ⟨fun ⟨a,b,c,d⟩=>⟨d,a,b,c⟩,fun ⟨d,a,b,c⟩=>⟨a,b,c,d⟩⟩
 ·exact no (by omega)
 ·exact no (by omega)
theorem z86:Sp P F.i6 [.int .i64 1,.int .i64 1] (.pure (.tup [enc (rto 1),.int .i64 0])):=by
 have h:=z41 1 1 (by omega) (by omega)
 have hd:Rat.divInt 1 1=1:=rfl
 simp [hd] at h
 exact h
theorem zx4:Sp P F.lr [.int .i64 1] (.pure (enc (.mk (rto 1) 0 false 0 [] []:GW))):=by
 refine Sp.vz c.lr fun _=>?_
 simp [g.lr,go_sem]
 refine zaa z86 rfl ?_
 simp [go_sem]
theorem ydz {x y:Rat}:x<y ↔ (x - y).num<0:=by
 rw [Rat.lt_iff_sub_pos]
 have:(x - y) = -(y - x):=by rw [Rat.neg_sub]
 rw [this,Rat.neg_num]
 have h1:0<=y - x ↔ 0<=(y - x).num:=Rat.num_nonneg.symm
 have h2:(y - x)=0 ↔ (y - x).num=0:=Rat.num_eq_zero.symm
 rw [Rat.lt_iff_le_and_ne,h1,ne_comm,Ne,h2]; omega
theorem z5o (x y:Rat):(x - y).num = -(y - x).num:=by
 have:(x - y) = -(y - x):=by rw [Rat.neg_sub]
 rw [this,Rat.neg_num]
theorem zz0 {x y:Rat}:0<sgnR (x - y) ↔ y<x:=by
 rw [ydz]
 have:=z5o x y
 unfold sgnR; (repeat' split)<;>omega
theorem ycy {x y:Rat}:sgnR (x - y)<=0 ↔ x<=y:=by
 rw [<- Rat.not_lt,<- zz0]; omega
theorem z6g (w:GW) (hw:w.sm 1048576):Sp P F.cd [enc w] (.pure (.bool (decide (w.si 3)))):=by
 refine Sp.vz c.cd fun _=>?_
 simp [g.cd,go_sem]
 refine zaa zgv rfl ?_
 simp [go_sem,ratA]
 refine zab (zvr w hw) ?_
 have i3:w.si 3 ↔ w.si 1/\0<=w.q.v/\w.q.v<=1:=by
  rw [si3,si1]; exact ⟨fun ⟨a,b,c,d,e,f,g,h⟩=>⟨⟨a,b,c,d,e,f⟩,g,h⟩,fun ⟨⟨a,b,c,d,e,f⟩,g,h⟩=>⟨a,b,c,d,e,f,g,h⟩⟩
 by_cases h1:w.si 1
 ·simp [go_sem,h1]
  refine zaa (zle w.q (hw.q.mono (by omega))) rfl ?_
  simp [go_sem]
  refine ⟨fun h2=>?_,fun h2=>?_⟩
  ·refine zaa zx4 rfl ?_
   simp [go_sem]
   refine zaa (zl9 w.q (rto 1) hw.q (zl6.mono (by omega))) rfl ?_
   simp [go_sem]
   rw [zbt]
   have a1:=zf1.1 h2
   rw [ycy,i3]
   simp [h1,a1]
  ·have:¬ 0<=w.q.v:=fun h=>by have:=zf1.2 h; omega
   simp [i3,this]
 ·simp [go_sem,i3,h1]
end Go.Ab
namespace Go.Ab
open Enc (enc)
attribute [local go_sem] zal Opd.slots
def zb3 (k:Int):GW:=.mk gr0 0 (decide (k=2)) 0 [] []
def GRing.zero (r:GRing):GW:=if r.ok then .mk gr0 0 (decide (r.kind=2)) 0 [] (r.parts.map zb3) else gw0
theorem z8e (r:GRing) (h:r.parts=[]):Sp P F.av [enc r] (.pure (enc r.zero)):=by
 refine Sp.vz c.av fun _=>?_
 simp [g.av,go_sem]
 refine zaa (zax r) rfl ?_
 rcases Bool.eq_false_or_eq_true r.ok with hr0|hr0
 rotate_left
 ·simp [hr0,GRing.zero,gw0,go_sem]
 simp [hr0,go_sem]
 refine zam fun R hn hr hx=>?_
 simp [g.oi,h,go_sem]
 refine hx _ _ ?_
 simp [hr0,GRing.zero,h,go_sem]
theorem zpe (r:GRing):Sp P F.av [enc r] (.pure (enc r.zero)):=by
 refine Sp.vz c.av fun _=>?_
 simp [g.av,go_sem]
 refine zaa (zax r) rfl ?_
 rcases Bool.eq_false_or_eq_true r.ok with hr0|hr0
 rotate_left
 ·simp [hr0,GRing.zero,gw0,go_sem]
 simp [hr0,go_sem]
 refine zai (S:=fun k:Nat=>mkSt [(1,.ptr 1 0 0 0),(2,.ptr 2 0 0 0),(3,.ptr 3 0 0 0),(4,.p (.int .i64 k))]
   [(1,⟨2,[.p (enc r)]⟩),(2,⟨8,[.agg [.p (.bool false),.nil,.nil,.p (.int .i64 0),.p (.bool false),.p (.int .u64 0),.nil,.nil]]⟩),
    (3,⟨8,[.agg [.p (.bool false),.nil,.nil,.p (.int .i64 0),.p (.bool (decide (r.kind=2))),.p (.int .u64 0),.nil,.own 4 0 0 k]]⟩),(4,⟨8,avs ((r.parts.map zb3).take k)⟩)])
  (I:=fun k=>k<=r.parts.length) (m:=fun k=>r.parts.length - k) 0
  ((Weak.nilCell (s0:=3) (g0:=0) (i:=7) (s:=77) (sz:=8) rfl).trans (Weak.to [1,2,3,4] [((1,0),1),((2,0),2),((3,0),3),((77,0),4)] (by simp [go_sem]))) (by omega) ?_
 rintro k h1 R hn hr hx
 have hlen:r.parts.length<=3:=by
  by_cases h6:r.kind=6
  ·exact (GRing.ok_parts hr0 h6).2.1
  ·simp [(GRing.ok_kind hr0 h6).2.2]
 have e1:=i64s k (by omega)
 simp [g.oi,mkSt,go_sem]
 refine ⟨fun hk=>?_,fun hk=>hx _ _ ?_⟩
 ·have h6:r.kind=6:=by
   by_cases h6:r.kind=6
   ·exact h6
   ·have:=(GRing.ok_kind hr0 h6).2.2; rw [this] at hk; simp at hk
  have hpk:=(GRing.ok_parts hr0 h6).2.2 _ (List.getElem_mem hk)
  refine zaa (ziy r k hk) rfl ?_
  simp [go_sem]
  refine zaa (z8e ⟨r.parts[k],[]⟩ rfl) rfl ?_
  have hz:(⟨r.parts[k],[]⟩:GRing).zero=zb3 r.parts[k]:=by
   have h7:r.parts[k]≠6:=by omega
   simp [GRing.zero,GRing.ok,h7,hpk,zb3]
  have hk':k<(r.parts.map zb3).length:=by simpa using hk
  rw [hz]
  simp [e1,go_sem]
  refine ⟨by omega,hn (k+1) _ (Weak.to [1,2,3,4] [((1,0),1),((2,0),2),((3,0),3),((28,0),4)] (by simp [go_sem,List.take_succ_eq_append_getElem hk',zcy])) (by omega) (by omega)⟩
 ·have:k=r.parts.length:=by omega
  subst this
  have ht:(r.parts.map zb3).take r.parts.length=r.parts.map zb3:=by rw [List.take_of_length_le (by simp)]
  simp [hr0,GRing.zero,go_sem]
  simp only [ht]
theorem zya (r:GRing) (w:GW) (hw:w.sm 1048576):Sp P F.j6 [enc r,enc w] (.pure (.bool (decide (w=r.zero)))):=by
 refine Sp.vz c.j6 fun _=>?_
 simp [g.j6,go_sem]
 refine zab (zpe r) ?_
 simp [go_sem]
 refine zab (zjh w hw r.zero) ?_
 simp [go_sem]
end Go.Ab
namespace Go.Ab
open Enc (enc)
attribute [local go_sem] zal Opd.slots
noncomputable def GW.tk (r:GRing) (w:GW):GW:=if w.chk r then w else r.zero
theorem zm7:gr0.valid=true:=by have:=zbx 0; rw [zb5] at this; exact this
theorem si_q {k:Int} {w:GW} (h:w.si k):w.q.valid=true:=by
 by_cases h1:k=1
 ·exact h.2.2.2.2.2.1 h1
 ·by_cases h3:k=3
  ·exact (h.2.2.2.2.2.2.2.1 h3).1
  ·rw [h.2.1 h1 h3]; exact zm7
theorem si_p {k:Int} {w:GW} (h:w.si k):PVal w.poly:=by
 by_cases h1:k=5
 ·exact h.2.2.2.2.2.2.2.2 h1
 ·rw [h.2.2.2.2.1 h1]; exact zml
theorem ye6 {r:GRing} {w:GW} (h:w.chk r):w.q.valid=true:=by
 by_cases h6:r.kind=6
 ·have:=(h.2.2 h6).2.1; rw [this]; exact zm7
 ·exact si_q (h.2.1 h6)
theorem zn5 {r:GRing} {w:GW} (h:w.chk r):PVal w.poly:=by
 by_cases h6:r.kind=6
 ·have:=(h.2.2 h6).2.1; rw [this]; exact zml
 ·exact si_p (h.2.1 h6)
theorem zed {k:Int} (h:1<=k/\k<=5):(⟨k,[]⟩:GRing).ok=true:=by
 have h7:k≠6:=by omega
 simp [GRing.ok,h7,h]
theorem zel {r:GRing} {w:GW} (h:w.chk r) (h6:r.kind=6) {i:Nat} (hi:i<r.parts.length) (hi':i<w.parts.length):w.parts[i].chk ⟨r.parts[i],[]⟩:=by
 have hp:=(GRing.ok_parts h.1 h6).2.2 _ (List.getElem_mem hi)
 refine ⟨zed hp,fun _=>(h.2.2 h6).2.2 i hi hi',fun h'=>?_⟩
 simp at h'; omega
theorem z8s (r:GRing) (w:GW) (hw:w.sm 1048576) (h:w.parts=[]):Sp P F.ar [enc r,enc w] (.pure (enc (w.tk r))):=by
 refine Sp.vz c.ar fun _=>?_
 simp [g.ar,go_sem]
 refine zab (zjm r w hw) ?_
 by_cases hc:w.chk r
 rotate_left
 ·simp [hc,GW.tk,go_sem]
  refine zab (zpe r) ?_
  simp [go_sem]
 simp [hc,GW.tk,go_sem]
 refine zaa (zdp w.q (hw.q.mono (by omega))) rfl ?_
 rw [zgt (ye6 hc)]
 simp [go_sem]
 refine zaa (zhi w.poly hw.poly (by have:=hw.len; omega)) rfl ?_
 rw [znv (zn5 hc)]
 simp [go_sem]
 refine zam fun R hn hr hx=>?_
 simp [g.oy,h,go_sem]
 refine hx _ _ ?_
 simp [h,go_sem]
theorem zay (r:GRing) (w:GW) (hw:w.sm 1048576):Sp P F.ar [enc r,enc w] (.pure (enc (w.tk r))):=by
 refine Sp.vz c.ar fun _=>?_
 simp [g.ar,go_sem]
 refine zab (zjm r w hw) ?_
 by_cases hc:w.chk r
 rotate_left
 ·simp [hc,GW.tk,go_sem]
  refine zab (zpe r) ?_
  simp [go_sem]
 simp [hc,GW.tk,go_sem]
 refine zaa (zdp w.q (hw.q.mono (by omega))) rfl ?_
 rw [zgt (ye6 hc)]
 simp [go_sem]
 refine zaa (zhi w.poly hw.poly (by have:=hw.len; omega)) rfl ?_
 rw [znv (zn5 hc)]
 simp [go_sem]
 refine zai (S:=fun k:Nat=>mkSt [(2,.ptr 1 0 0 0),(3,.ptr 2 0 0 0),(4,.ptr 3 0 0 0),(5,.ptr 4 0 0 0),(6,.p (.int .i64 k))]
   [(1,⟨2,[.p (enc r)]⟩),(2,⟨8,[.p (enc w)]⟩),(3,⟨8,[.agg [.p (.bool false),.nil,.nil,.p (.int .i64 0),.p (.bool false),.p (.int .u64 0),.nil,.nil]]⟩),
    (4,⟨8,[.agg [.p (.bool w.q.neg),.p (.sl (ens w.q.num)),.p (.sl (ens w.q.den)),.p (.int .i64 w.cost),.p (.bool w.inf),.p (.int .u64 w.set.toNat),.p (.sl (ens w.poly)),.own 5 0 0 k]]⟩),(5,⟨8,avs (w.parts.take k)⟩)])
  (I:=fun k=>k<=w.parts.length) (m:=fun k=>w.parts.length - k) 0
  ((Weak.nilCell (s0:=5) (g0:=0) (i:=7) (s:=77) (sz:=8) rfl).trans (Weak.to [2,3,4,5,6] [((2,0),1),((3,0),2),((4,0),3),((5,0),4),((77,0),5)] (by simp [go_sem]))) (by omega) ?_
 rintro k h1 R hn hr hx
 have hlen:=hw.plen
 have e1:=i64s k (by omega)
 simp [g.oy,mkSt,go_sem]
 refine ⟨fun hk=>?_,fun hk=>hx _ _ ?_⟩
 ·have h6:r.kind=6:=by
   by_cases h6:r.kind=6
   ·exact h6
   ·have:=(hc.2.1 h6).1; rw [this] at hk; simp at hk
  have hl:=(hc.2.2 h6).1
  have hkr:k<r.parts.length:=by omega
  refine zaa (ziy r k hkr) rfl ?_
  simp [go_sem]
  refine zae hk ?_
  have hpart:=zel hc h6 hkr hk
  have hnil:w.parts[k].parts=[]:=((hc.2.2 h6).2.2 k hkr hk).1
  refine zab (z8s ⟨r.parts[k],[]⟩ w.parts[k] (hw.parts _ (List.getElem_mem hk)) hnil) ?_
  have ht:w.parts[k].tk ⟨r.parts[k],[]⟩=w.parts[k]:=if_pos hpart
  rw [ht]
  have hts:avs (w.parts.take (k+1))=avs (w.parts.take k)++[.p (enc w.parts[k])]:=by
   rw [List.take_succ_eq_append_getElem hk,zcy]; rfl
  simp [e1,go_sem]
  refine ⟨by omega,hn (k+1) _ (Weak.to [2,3,4,5,6] [((1,0),1),((2,0),2),((3,0),3),((4,0),4),((45,0),5)] (by simp [go_sem,hts])) (by omega) (by omega)⟩
 ·have:k=w.parts.length:=by omega
  subst this
  simp [go_sem]
end Go.Ab
namespace Go.Ab
open Enc (enc)
attribute [local go_sem] zal Opd.slots
def kF (a b c d e:FuncId) (k:Int):FuncId:=if k=1 then a else if k=2 then b else if k=3 then c else if k=4 then d else e
def kF0:=kF F.d8 F.bz F.cd F.ch F.eu
def kF1:=kF F.bc F.b7 F.bc F.cj F.fa
def kF2:=kF F.ip F.m8 F.ip F.m9 F.oe
def kF3:=kF F.ee F.b8 F.eq F.cm F.fb
def kC3 (k:Int):List PV:=if k=3 then [.ref fraZ] else []
def kF4:=kF F.be F.bf F.be F.cn F.fc
theorem zek (k:Int) (hk:1<=k/\k<=5):∃ f5 f6 f7 f8 c5 c8,zmz k=.agg [.fn (kF0 k) [],.fn (kF1 k) [],.fn (kF2 k) [],.fn (kF3 k) (kC3 k),.fn (kF4 k) [],.fn f5 c5,.fn f6 [],.fn f7 [],.fn f8 c8]:=by
 have:k=1\/k=2\/k=3\/k=4\/k=5:=by omega
 rcases this with rfl|rfl|rfl|rfl|rfl<;>exact ⟨_,_,_,_,_,_,rfl⟩
theorem z3c (k:Int) (hk:1<=k/\k<=5) (w:GW) (hw:w.sm 1048576):Sp P (kF0 k) [enc w] (.pure (.bool (decide (w.si k)))):=by
 have:k=1\/k=2\/k=3\/k=4\/k=5:=by omega
 rcases this with rfl|rfl|rfl|rfl|rfl
 ·exact zvr w hw
 ·exact z64 w hw
 ·exact z6g w hw
 ·exact z4t w hw
 ·exact z5c w hw
theorem zvq:Sp P F.bc [] (.pure (enc (.mk gr0 0 false 0 [] []:GW))):=by
 refine Sp.vz c.bc fun _=>?_
 simp [g.bc,go_sem]
theorem z4s:Sp P F.cj [] (.pure (enc (.mk gr0 0 false 0 [] []:GW))):=by
 refine Sp.vz c.cj fun _=>?_
 simp [g.cj,go_sem]
theorem z5b:Sp P F.fa [] (.pure (enc (.mk gr0 0 false 0 [] []:GW))):=by
 refine Sp.vz c.fa fun _=>?_
 simp [g.fa,go_sem]
theorem z63:Sp P F.b7 [] (.pure (enc (.mk gr0 0 true 0 [] []:GW))):=by
 refine Sp.vz c.b7 fun _=>?_
 simp [g.b7,go_sem]
theorem zu7 (k:Int) (hk:1<=k/\k<=5):Sp P (kF1 k) [] (.pure (enc (zb3 k))):=by
 have:k=1\/k=2\/k=3\/k=4\/k=5:=by omega
 rcases this with rfl|rfl|rfl|rfl|rfl
 ·exact zvq
 ·exact z63
 ·exact zvq
 ·exact z4s
 ·exact z5b
theorem zus (r:GRing) (hp:∀ k∈r.parts,1<=k/\k<=5) (hl:r.parts.length<=3) (f:FuncId) (caps:List PV) (out:List GW) (ho:out.length=r.parts.length)
  (hf:∀ i,(h:i<r.parts.length)->(h':i<out.length)->Sp P f (zmz r.parts[i]::.int .i64 i::caps) (.pure (enc out[i]))) :
  Sp P F.d0 [enc r,.fn f caps] (.pure (enc (.mk gr0 0 false 0 [] out:GW))):=by
 refine Sp.vz c.d0 fun _=>?_
 simp [g.d0,go_sem]
 refine zai (S:=fun k:Nat=>mkSt [(1,.p (.fn f caps)),(4,.ptr 1 0 0 0),(5,.ptr 2 0 0 0),(9,.p (.sl (ens r.parts))),(10,.p (.int .i64 r.parts.length)),(11,.p (.int .i64 k))]
   [(1,⟨8,[.agg [.p (.bool false),.nil,.nil,.p (.int .i64 0),.p (.bool false),.p (.int .u64 0),.nil,.nil]]⟩),
    (2,⟨8,[.agg [.p (.bool false),.nil,.nil,.p (.int .i64 0),.p (.bool false),.p (.int .u64 0),.nil,.own 3 0 0 k]]⟩),(3,⟨8,avs (out.take k)⟩)])
  (I:=fun k=>k<=r.parts.length) (m:=fun k=>r.parts.length - k) 0
  ((Weak.nilCell (s0:=5) (g0:=0) (i:=7) (s:=77) (sz:=8) rfl).trans (Weak.to [1,4,5,9,10,11] [((4,0),1),((5,0),2),((77,0),3)] (by simp [go_sem]))) (by omega) ?_
 rintro k h1 R hn hr hx
 have e1:=i64s k (by omega)
 simp [g.qu,mkSt,go_sem]
 refine ⟨fun hk=>?_,fun hk=>hx _ _ ?_⟩
 ·have hk':k<out.length:=by omega
  refine zae hk ?_
  try simp [go_sem]
  refine zaa (zj3 r.parts[k] (hp _ (List.getElem_mem hk))) rfl ?_
  obtain ⟨f5,f6,f7,f8,c5,c8,hA⟩:=zek r.parts[k] (hp _ (List.getElem_mem hk))
  have hf':=hf k hk hk'
  rw [hA] at hf'
  simp [hA,go_sem]
  refine zaa hf' (zby rfl (zby rfl (zf7 _ _))) ?_
  have hts:avs (out.take (k+1))=avs (out.take k)++[.p (enc out[k])]:=by
   rw [List.take_succ_eq_append_getElem hk',zcy]; rfl
  simp [e1,go_sem]
  exact ⟨⟨by omega,by omega⟩,hn (k+1) _ (Weak.to [1,4,5,9,10,11] [((1,0),1),((2,0),2),((24,0),3)] (by simp [go_sem,hts])) (by omega) (by omega)⟩
 ·have:k=out.length:=by omega
  subst this
  simp [go_sem]
end Go.Ab
namespace Go.Ab
open Enc (enc)
attribute [local go_sem] zal Opd.slots
theorem zy4 (k:Int) (hk:1<=k/\k<=5) (i:Int):Sp P F.ge [zmz k,.int .i64 i] (.pure (enc (zb3 k))):=by
 obtain ⟨f5,f6,f7,f8,c5,c8,hA⟩:=zek k hk
 rw [hA]
 refine Sp.vz c.ge fun _=>?_
 simp [g.ge,go_sem]
 refine zaa (zu7 k hk) rfl ?_
 simp [go_sem]
theorem zfx (r:GRing):Sp P F.ay [enc r] (.pure (enc r.zero)):=by
 refine Sp.vz c.ay fun _=>?_
 simp [g.ay,go_sem]
 refine zaa (zeo r) rfl ?_
 rcases Bool.eq_false_or_eq_true r.ok with hr0|hr0
 rotate_left
 ·simp [hr0,GRing.zero,gw0,go_sem]
 simp [hr0,go_sem]
 refine ⟨fun h6=>?_,fun h6=>?_⟩
 ·have hp:=GRing.ok_parts hr0 h6
  refine zaa (zus r hp.2.2 hp.2.1 F.ge [] (r.parts.map zb3) (by simp) fun i h h'=>by simpa using zy4 r.parts[i] (hp.2.2 _ (List.getElem_mem h)) i) rfl ?_
  simp [hr0,GRing.zero,h6,go_sem]
 ·have hk:=GRing.ok_kind hr0 h6
  obtain ⟨f5,f6,f7,f8,c5,c8,hA⟩:=zek r.kind ⟨hk.1,hk.2.1⟩
  refine zaa (zj3 r.kind ⟨hk.1,hk.2.1⟩) rfl ?_
  simp [hA,go_sem]
  refine zaa (zu7 r.kind ⟨hk.1,hk.2.1⟩) rfl ?_
  simp [hr0,GRing.zero,hk.2.2,zb3,go_sem]
theorem znm (r:GRing) (w:GW) (hw:w.sm 1048576):Sp P F.dr [enc r,enc w] (.pure (.bool (decide (w.chk r)))):=by
 refine Sp.vz c.dr fun _=>?_
 simp [g.dr,go_sem]
 refine zaa (zeo r) rfl ?_
 rcases Bool.eq_false_or_eq_true r.ok with hr0|hr0
 rotate_left
 ·simp [hr0,GW.chk,go_sem]
 simp [hr0,go_sem]
 refine ⟨fun h6=>?_,fun h6=>?_⟩
 rotate_left
 ·have hk:=GRing.ok_kind hr0 h6
  obtain ⟨f5,f6,f7,f8,c5,c8,hA⟩:=zek r.kind ⟨hk.1,hk.2.1⟩
  refine zaa (zj3 r.kind ⟨hk.1,hk.2.1⟩) rfl ?_
  simp [hA,go_sem]
  refine zab (z3c r.kind ⟨hk.1,hk.2.1⟩ w hw) ?_
  simp [GW.chk,hr0,h6,go_sem]
 have hp:=GRing.ok_parts hr0 h6
 refine ⟨fun hl=>?_,fun hl h=>?_⟩
 rotate_left
 ·have:=(h.2.2 h6).1; omega
 have hl':w.parts.length=r.parts.length:=by omega
 refine zab (zcq w hw (.mk gr0 0 false 0 [] w.parts)) ?_
 simp [go_sem]
 refine ⟨fun he=>?_,fun he h=>he (h.2.2 h6).2.1⟩
 refine zai (S:=fun k:Nat=>mkSt [(3,.ptr 1 0 0 0),(35,.p (.sl (ens r.parts))),(36,.p (.int .i64 r.parts.length)),(37,.p (.int .i64 k))] [(1,⟨8,[.p (enc w)]⟩)]) (I:=fun k=>k<=r.parts.length/\∀ i,(h:i<r.parts.length)->(h':i<w.parts.length)->i<k->w.parts[i].si r.parts[i]) (m:=fun k=>r.parts.length - k) 0
  (Weak.to [3,35,36,37] [((3,0),1)] (by simp [go_sem])) ⟨by omega,fun i h h' h0=>by omega⟩ ?_
 rintro k ⟨h7,h8⟩ R hn hr hx
 have e1:=i64s k (by omega)
 simp [g.qj,mkSt,go_sem]
 refine ⟨fun hk=>?_,fun hk=>hx _ _ ?_⟩
 ·have hk2:k<w.parts.length:=by omega
  have hpk:=hp.2.2 _ (List.getElem_mem hk)
  obtain ⟨f5,f6,f7,f8,c5,c8,hA⟩:=zek r.parts[k] hpk
  refine zae hk ?_
  try simp [go_sem]
  refine zaa (zj3 r.parts[k] hpk) rfl ?_
  simp [hA,go_sem]
  refine zae hk2 ?_
  try simp [go_sem]
  refine zab (z3c r.parts[k] hpk w.parts[k] (hw.parts _ (List.getElem_mem hk2))) ?_
  by_cases h9:w.parts[k].si r.parts[k]
  ·simp [h9,e1,go_sem]
   refine hn (k+1) _ (Weak.to [3,35,36,37] [((1,0),1)] (by simp [go_sem])) ⟨by omega,fun i h h' hi=>?_⟩ (by omega)
   by_cases hik:i<k
   ·exact h8 i h h' hik
   ·have:i=k:=by omega
    subst this; exact h9
  ·simp [h9,go_sem]
   refine hr _ ?_
   have:¬ w.chk r:=fun h=>h9 ((h.2.2 h6).2.2 k hk hk2)
   simp [this,go_sem]
 ·have:w.chk r:=⟨hr0,fun h=>absurd h6 h,fun _=>⟨hl',he,fun i h h'=>h8 i h h' (by omega)⟩⟩
  simp [this,go_sem]
theorem zdq (r:GRing) (w:GW) (hw:w.sm 1048576):Sp P F.gf [enc r,enc w] (.pure (enc (w.tk r))):=by
 refine Sp.vz c.gf fun _=>?_
 simp [g.gf,go_sem]
 refine zab (znm r w hw) ?_
 by_cases hc:w.chk r
 ·simp [hc,GW.tk,go_sem]
 ·simp [hc,GW.tk,go_sem]
  refine zab (zfx r) ?_
  simp [go_sem]
end Go.Ab
namespace Go.Ab
open Enc (enc)
attribute [local go_sem] zal Opd.slots
def oneW (k:Int) (ps:List GW):GW:=.mk (if k=1\/k=3 then rto 1 else gr0) 0 false (if k=4 then 18446744073709551615 else 0) (if k=5 then zon 1 else []) ps
def GRing.one (r:GRing):GW:=if r.ok then oneW r.kind (r.parts.map fun k=>oneW k []) else gw0
theorem ydv:Sp P F.af [enc (⟨1,[]⟩:GRing)] (.pure (enc (oneW 1 []))):=by
 have hd:Rat.divInt 1 1=1:=rfl
 have hof:=zmj 1 1 (by omega) (by omega) (by omega)
 rw [hd] at hof
 have hr0:(⟨1,[]⟩:GRing).ok=true:=zed (by omega)
 refine Sp.vz c.af fun _=>?_
 simp [g.af,go_sem]
 refine zaa (zax ⟨1,[]⟩) rfl ?_
 simp [hr0,go_sem]
 refine zaa hof rfl ?_
 simp [go_sem]
 refine zam fun R hn hr hx=>?_
 simp [g.na,go_sem]
 refine hx _ _ ?_
 simp [oneW,zon,zbt,go_sem]
theorem ydu:Sp P F.af [enc (⟨2,[]⟩:GRing)] (.pure (enc (oneW 2 []))):=by
 have hd:Rat.divInt 1 1=1:=rfl
 have hof:=zmj 1 1 (by omega) (by omega) (by omega)
 rw [hd] at hof
 have hr0:(⟨2,[]⟩:GRing).ok=true:=zed (by omega)
 refine Sp.vz c.af fun _=>?_
 simp [g.af,go_sem]
 refine zaa (zax ⟨2,[]⟩) rfl ?_
 simp [hr0,go_sem]
 refine zam fun R hn hr hx=>?_
 simp [g.na,go_sem]
 refine hx _ _ ?_
 simp [oneW,zon,zbt,go_sem]
theorem ydt:Sp P F.af [enc (⟨3,[]⟩:GRing)] (.pure (enc (oneW 3 []))):=by
 have hd:Rat.divInt 1 1=1:=rfl
 have hof:=zmj 1 1 (by omega) (by omega) (by omega)
 rw [hd] at hof
 have hr0:(⟨3,[]⟩:GRing).ok=true:=zed (by omega)
 refine Sp.vz c.af fun _=>?_
 simp [g.af,go_sem]
 refine zaa (zax ⟨3,[]⟩) rfl ?_
 simp [hr0,go_sem]
 refine zaa hof rfl ?_
 simp [go_sem]
 refine zam fun R hn hr hx=>?_
 simp [g.na,go_sem]
 refine hx _ _ ?_
 simp [oneW,zon,zbt,go_sem]
theorem yds:Sp P F.af [enc (⟨4,[]⟩:GRing)] (.pure (enc (oneW 4 []))):=by
 have hd:Rat.divInt 1 1=1:=rfl
 have hof:=zmj 1 1 (by omega) (by omega) (by omega)
 rw [hd] at hof
 have hr0:(⟨4,[]⟩:GRing).ok=true:=zed (by omega)
 refine Sp.vz c.af fun _=>?_
 simp [g.af,go_sem]
 refine zaa (zax ⟨4,[]⟩) rfl ?_
 simp [hr0,go_sem]
 refine zam fun R hn hr hx=>?_
 simp [g.na,go_sem]
 refine hx _ _ ?_
 simp [oneW,zon,zbt,go_sem]
theorem ydr:Sp P F.af [enc (⟨5,[]⟩:GRing)] (.pure (enc (oneW 5 []))):=by
 have hd:Rat.divInt 1 1=1:=rfl
 have hof:=zmj 1 1 (by omega) (by omega) (by omega)
 rw [hd] at hof
 have hr0:(⟨5,[]⟩:GRing).ok=true:=zed (by omega)
 refine Sp.vz c.af fun _=>?_
 simp [g.af,go_sem]
 refine zaa (zax ⟨5,[]⟩) rfl ?_
 simp [hr0,go_sem]
 refine zaa hof rfl ?_
 simp [go_sem]
 refine zaa (zsx (rto 1) (zl6.mono (by omega))) rfl ?_
 simp [go_sem]
 refine zam fun R hn hr hx=>?_
 simp [g.na,go_sem]
 refine hx _ _ ?_
 simp [oneW,zon,zbt,go_sem]
theorem z7z (k:Int) (hk:1<=k/\k<=5):Sp P F.af [enc (⟨k,[]⟩:GRing)] (.pure (enc (oneW k []))):=by
 have:k=1\/k=2\/k=3\/k=4\/k=5:=by omega
 rcases this with rfl|rfl|rfl|rfl|rfl
 ·exact ydv
 ·exact ydu
 ·exact ydt
 ·exact yds
 ·exact ydr
theorem z9z (r:GRing):Sp P F.af [enc r] (.pure (enc r.one)):=by
 rcases Bool.eq_false_or_eq_true r.ok with hr0|hr0
 rotate_left
 ·refine Sp.vz c.af fun _=>?_
  simp [g.af,go_sem]
  refine zaa (zax r) rfl ?_
  simp [hr0,GRing.one,gw0,go_sem]
 by_cases h6:r.kind=6
 rotate_left
 ·have hk:=GRing.ok_kind hr0 h6
  have he:r=⟨r.kind,[]⟩:=by rw [<- hk.2.2]
  have h1:r.one=oneW r.kind []:=by simp [GRing.one,hr0,hk.2.2]
  rw [h1,he]
  exact z7z r.kind ⟨hk.1,hk.2.1⟩
 have hp:=GRing.ok_parts hr0 h6
 refine Sp.vz c.af fun _=>?_
 simp [g.af,go_sem]
 refine zaa (zax r) rfl ?_
 simp [hr0,h6,go_sem]
 refine zai (S:=fun k:Nat=>mkSt [(1,.ptr 1 0 0 0),(2,.ptr 2 0 0 0),(3,.ptr 3 0 0 0),(4,.p (.int .i64 k))]
   [(1,⟨2,[.p (enc r)]⟩),(2,⟨8,[.agg [.p (.bool false),.nil,.nil,.p (.int .i64 0),.p (.bool false),.p (.int .u64 0),.nil,.nil]]⟩),
    (3,⟨8,[.agg [.p (.bool false),.nil,.nil,.p (.int .i64 0),.p (.bool false),.p (.int .u64 0),.nil,.own 4 0 0 k]]⟩),(4,⟨8,avs ((r.parts.map fun k=>oneW k []).take k)⟩)])
  (I:=fun k=>k<=r.parts.length) (m:=fun k=>r.parts.length - k) 0
  ((Weak.nilCell (s0:=3) (g0:=0) (i:=7) (s:=77) (sz:=8) rfl).trans (Weak.to [1,2,3,4] [((1,0),1),((2,0),2),((3,0),3),((77,0),4)] (by simp [go_sem,h6]))) (by omega) ?_
 rintro k h1 R hn hr hx
 have e1:=i64s k (by omega)
 simp [g.na,mkSt,go_sem]
 refine ⟨fun hk=>?_,fun hk=>hx _ _ ?_⟩
 ·have hpk:=hp.2.2 _ (List.getElem_mem hk)
  refine zaa (ziy r k hk) rfl ?_
  simp [go_sem]
  refine zaa (z7z r.parts[k] hpk) rfl ?_
  have hk':k<(r.parts.map fun k=>oneW k []).length:=by simpa using hk
  have hts:avs ((r.parts.map fun k=>oneW k []).take (k+1))=avs ((r.parts.map fun k=>oneW k []).take k)++[.p (enc (oneW r.parts[k] []))]:=by
   rw [List.take_succ_eq_append_getElem hk',zcy]; simp; rfl
  simp [e1,go_sem]
  exact ⟨⟨(Nat.min_eq_left h1).symm,by omega⟩,hn (k+1) _ (Weak.to [1,2,3,4] [((1,0),1),((2,0),2),((3,0),3),((39,0),4)] (by simp [go_sem,hts])) (by omega) (by omega)⟩
 ·have:k=r.parts.length:=by omega
  subst this
  have ht:(r.parts.map fun k=>oneW k []).take r.parts.length=r.parts.map fun k=>oneW k []:=by rw [List.take_of_length_le (by simp)]
  simp [hr0,h6,GRing.one,oneW,go_sem]
  simp only [oneW] at ht
  simp only [ht]
end Go.Ab
namespace Go.Ab
open Enc (enc)
attribute [local go_sem] zal Opd.slots
theorem zkk (p q:List GW) (hl:p.length<=1073741824) (hp:∀ w∈p,w.sm 1048576):Sp P F.jw [.sl (ens p),.sl (ens q)] (.pure (.bool (decide (p=q)))):=by
 refine Sp.vz c.jw fun _=>?_
 simp [g.jw,go_sem]
 refine ⟨fun h=>?_,fun h=>fun he=>h (by rw [he])⟩
 have hlen:p.length=q.length:=by omega
 refine zai (S:=fun k:Nat=>mkSt [(0,.p (.sl (ens p))),(1,.p (.sl (ens q))),(5,.p (.int .i64 k))] []) (I:=fun k=>k<=p.length/\p.take k=q.take k) (m:=fun k=>p.length - k) 0
  (Weak.to [0,1,5] [] (by simp [go_sem])) ⟨by omega,by simp⟩ ?_
 rintro k ⟨h1,h2⟩ R hn hr hx
 have e1:=i64s k (by omega)
 simp [g.qo,mkSt,go_sem]
 refine ⟨fun hk=>?_,fun hk=>hx _ _ ?_⟩
 ·have hk2:k<q.length:=by omega
  have bad:p[k]≠q[k]->p≠q:=fun h h'=>by subst h'; exact h rfl
  refine zae hk ?_
  refine zae hk2 ?_
  refine zab (zjh p[k] (hp _ (List.getElem_mem hk)) q[k]) ?_
  by_cases h6:p[k]=q[k]
  ·simp [h6,e1,go_sem]
   exact hn (k+1) _ (Weak.to [0,1,5] [] (by simp [go_sem])) ⟨by omega,by rw [List.take_succ_eq_append_getElem hk,List.take_succ_eq_append_getElem hk2,h2,h6]⟩ (by omega)
  ·have h8:p≠q:=bad h6
   simp [h6,go_sem]
   exact hr _ (by simp [h8,go_sem])
 ·have h3:p=q:=by rw [<- List.take_length (l:=p),<- List.take_length (l:=q),<- hlen,show p.length=k by omega]; exact h2
  simp [h3,go_sem]
end Go.Ab
