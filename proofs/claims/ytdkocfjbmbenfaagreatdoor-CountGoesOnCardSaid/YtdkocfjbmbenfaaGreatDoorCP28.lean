/-
Proofs for the law CountGoesOn, part 28. Conditions: none.
-/
import Derived.Test.YtdkocfjbmbenfaaGreatDoorCP27
import Derived.Test.YtdkocfjbmbenfaaGreatDoorCP12
import Derived.Test.YtdkocfjbmbenfaaGreatDoorCP22
import Derived.Test.YtdkocfjbmbenfaaGreatDoorCP14
import Derived.KernelRfl
set_option maxRecDepth 100000
set_option maxHeartbeats 4000000
set_option linter.all false
namespace Go.Ab
open Enc (enc)
def SpV (P:Program) (f:FuncId) (vals:List Value) (res:RV):Prop :=
 (∃ fn,P.funcs[f]?=some fn/\fn.body.isSome=true/\fn.name ≠ "runtime.NumGoroutine") /\
 ∀ (w:World) (M:Nat->Option Obj),(∀ b o,M b=some o->w.heap[b]?=some o) ->
  Calls P f vals.toArray w fun e w'=>∃ x M',e=.returned x/\(∀ b o,M b=some o->M' b=some o)/\(∀ b o,M' b=some o->w'.heap[b]?=some o) /\
   (∀ b o,M' b=some o->M b=some o\/w.heap.size<=b)/\Keep w w' (fun _=>False)/\RRep M' w w' res x
section
variable {P:Program} {K:Ctx} {Z Z':Cz} {st st' st1:St} {w w':World} {a:Act} {N:Nat} {A B:Option FA} {Post:Exit->St->Option FA->Prop} {PostI:St->Option FA->Prop} {v:AV}
theorem z1i {d:Option Nat} {f:FuncId} {xs:List Opd} {vals:List Value} {res:RV} (hsp:SpV P f vals res) (hv:∀ (Z:Cz) (ys:List Value),AReps Z st (xs.map st.ev) ys->ys=vals) (hres:ze6 ⟨f,[],res,none⟩ st (d.getD 0) []=some (v,st1)) (hsl:st1.sl=st.sl)
  (k:PostI (st1.put d v) none):MOp P N ⟨d,.call f xs,none⟩ st none PostI:=by
 intro ops j o K Z w a Q Kt hN hj hcc hs hA hK
 obtain ⟨h1,h2,h3,h4⟩:=zdr hcc
 obtain ⟨cc,h,hop,hf,hh,hops⟩:=zou h1
 have hg:o.guard=none:=by
  cases hg:o.guard with
  | none=>rfl
  | some jb =>
   obtain ⟨j,b⟩:=jb
   rw [hg] at h2; simp only [zds] at h2
   split at h2<;>cases h2
 have hw:Region.wanted o (yielded ops a.tmps)=true:=by simp [Region.wanted,hg]
 have hd:d=o.dst:=h3
 obtain ⟨hfn,hsp⟩:=hsp
 have hr:=zjn hops hs
 have hfr:=zap hh hs
 simp only [St.ev] at hfr
 have hfv:a.eval h=.func (.func f) #[] #[]:=by
  have hp:=hfr.inv_p
  generalize a.eval h=F at hp ⊢
  cases hp with
  | fn _ _ vals h=>cases h; rfl
 have hvs:cc.args.toList.map a.eval=vals:=hv Z _ (by simpa using hr)
 have hrun:(execOp a.eval o).run P w=.ok (.enter f vals.toArray) w:=by
  have:=ze1 (P:=P) (w:=w) (args:=(cc.args.toList.map a.eval).toArray) hfn
  simp only [execOp,hop,resolve,hf,hfv,Deferred.ofValue,Sem.run_bind,Sem.run_pure,Result.andThen_ok,invoke]
  have e : #[]++cc.args.map a.eval ++ #[]=(cc.args.toList.map a.eval).toArray:=by simp [<- Array.toList_map]
  rw [e,this,hvs]
 refine (show o.wp P a w Kt Q from ?_) |> fun h=>by unfold wpOp; simp only [hj,hw,if_true]; exact .inl h
 unfold Oper.wp
 rw [hrun,Oper.upon_enter]
 have hmx:∀ b o,Mx Z st w [] b=some o->Z.M b=some o:=fun b o hb=>by
  rcases zbu hb with h|⟨_,_,s,g,ob,h,_⟩
  ·exact h
  ·cases h
 refine (hsp w (Mx Z st w []) (fun b o hb=>hs.heap.mem b o (hmx b o hb))).mono ?_
 rintro e w' ⟨x,M',rfl,p1,p2,p3,p4,p5⟩
 obtain ⟨Z',q1,q2,q3⟩:=zsz (c:=⟨f,[],res,none⟩) (vs:=[]) hs.heap p1 p2 p3 p4 p5 hres
 refine hK _ _ Z' _ _ k ?_ trivial
 rw [hd]
 exact hs.put hsl q3 q1 q2 (by subst hN; exact h4) hs.defers
theorem Weak.trunc0 {t s sz:Nat} {es:List AV} (hp:s<PINB):Weak ⟨[(t,.own s 0 0 0)],[(s,[some ⟨sz,es⟩])]⟩ ⟨[(t,.own s 0 0 0)],[(s,[some ⟨sz,[]⟩])]⟩:=by
 intro K Z w a hs
 have hobj:∀ (es:List AV) s' g' o',(⟨[(t,.own s 0 0 0)],[(s,[some ⟨sz,es⟩])]⟩:St).obj s' g'=some o'->s'=s/\g'=0/\o'=⟨sz,es⟩:=by
  intro es s' g' o' h
  simp only [St.obj,St.site,look] at h
  split at h
  ·rename_i hs0
   cases g' with
   | zero=>simp at h; exact ⟨hs0.symm,rfl,h.symm⟩
   | succ g=>simp at h
  ·simp at h
 have h00:∀ es:List AV,(⟨[(t,.own s 0 0 0)],[(s,[some ⟨sz,es⟩])]⟩:St).obj s 0=some ⟨sz,es⟩:=fun es=>by simp [St.obj,St.site,look]
 have hO:=hs.heap.objs s 0 _ (h00 es)
 refine ⟨Z,⟨fun u=>?_,hs.defers,hs.size,⟨fun s' g' o' h=>?_,fun s1 g1 s2 g2 o1 o2 b h1 h2 _ _=>?_,hs.heap.mem,fun s' g' o' b h hb=>?_,fun s' g' o' b h hb=>?_,hs.heap.m0,hs.heap.prov,hs.heap.keep⟩⟩,⟨fun u a _=>?_,fun u g a _ hg _=>?_,fun u g o a _ ho=>?_⟩⟩
 case refine_6=>simp only [St.site,look]; split<;>simp
 case refine_7 =>
  simp only [St.site,look] at hg
  split at hg
  ·omega
  ·simp at hg
 case refine_8=>have:=(hobj _ _ _ _ ho).1; omega
 ·have hu:=hs.slots u
  simp only [St.get,look] at hu ⊢
  split at hu
  ·rename_i hut; simp only [hut,if_true]
   generalize a.tmps.getD u Go.undef=x at hu
   cases hu with
   | own0 _ _ o ho hb=>exact .own0 _ _ _ (h00 []) hb
   | own _ _ _ _ o b ad c ho hb h1 h2 h3 h4=>exact .own _ _ _ _ _ b ad c (h00 []) hb h1 (fun h=>absurd h (by omega)) (by simp) h4
   | ownD _ _ _ _ _ _ _ hd=>rw [h00] at hd; cases hd
  ·rename_i hut; simp only [hut,if_false]; exact .undef _
 ·obtain ⟨rfl,rfl,rfl⟩:=hobj _ _ _ _ h
  refine ⟨hO.pos,by simp,by simp,fun _=>rfl,fun b hb=>?_⟩
  obtain ⟨cur,T,vals,k1,k2,k3,k4,k5,k6⟩:=hO.blk b hb
  exact ⟨cur,T,[],k1,.nil,by simp,k4,by simp,k6⟩
 ·obtain ⟨rfl,rfl,_⟩:=hobj _ _ _ _ h1
  obtain ⟨rfl,rfl,_⟩:=hobj _ _ _ _ h2
  exact ⟨rfl,rfl⟩
 ·obtain ⟨rfl,rfl,rfl⟩:=hobj _ _ _ _ h; exact hs.heap.sep _ _ _ b (h00 es) hb
 ·obtain ⟨rfl,rfl,rfl⟩:=hobj _ _ _ _ h; exact hs.heap.own _ _ _ b (h00 es) hb
theorem SpV.of_vm {f:FuncId} {vals:List Value} {res:RV} {n np:Nat} {b:GC} {rs:List (Nat × Option Nat)} (hc:zad P f=some ⟨n,np,b.er,rs⟩) (hn:vals.length<=n)
  (hst:st.hp=[]) (hreps:∀ (M:Nat->Option Obj) (t:Nat),ARep ⟨M,fun _ _=>none,fun _ _=>0⟩ st (st.get t) ((vals.toArray++Array.replicate (n - vals.toArray.size) Go.undef).getD t Go.undef))
  (h:vm P n (fun ex s=>∃ s',Weak s s'/\retP rs res ex s') [.code b] st):SpV P f vals res:=by
 have hno:∀ s g,st.obj s g=none:=fun s g=>by simp [St.obj,St.site,hst,look]
 obtain ⟨ex,s,hrun,s',hw,hret⟩:=zc2 _ (Nat.le_refl _) h
 have hrun:=hrun.weakR hw
 have hr:(ex=.ret\/ex=.normal)/\∃ vs,zbg s' rs=some vs/\ResOk s' (resOf vs) res:=by
  have key:(ex=.ret\/ex=.normal)/\∃ vs,zbg s' rs=some vs/\resP s' (resOf vs) res:=by
   cases ex with
   | ret=>exact ⟨.inl rfl,hret⟩
   | normal=>exact ⟨.inr rfl,hret⟩
   | _=>exact hret.elim
  obtain ⟨k1,vs,r3,r4⟩:=key
  refine ⟨k1,vs,r3,?_⟩
  unfold resP at r4
  split at r4
  ·exact .pure _ _ r4
  ·split at r4
   ·rename_i sz es s' g off len hv
    obtain ⟨o,h1,rfl,h2,rfl,h4⟩:=r4
    rw [hv]
    exact .fresh _ _ _ _ _ h1 h2 h4
   ·rename_i hv; rw [hv,r4]; exact .nil _
   ·exact r4.elim
  ·exact r4.elim
 obtain ⟨hex,vs,hvs,hres⟩:=hr
 unfold zad at hc
 split at hc
 ·rename_i fn hf
  split at hc
  ·rename_i hname
   split at hc
   ·rename_i c hb
    split at hc
    ·rename_i bd rs' h1 h2
     simp only [Option.some.injEq,FnC.mk.injEq] at hc
     obtain ⟨rfl,_,rfl,rfl⟩:=hc
     refine ⟨⟨fn,hf,by rw [hb]; rfl,hname⟩,fun w M hM=>?_⟩
     refine calls_of_wp hf hb ?_
     refine hrun _ h1 ⟨w,M,fun _=>False,fn.ntmps⟩ ⟨M,fun _ _=>none,fun _ _=>0⟩ w _ _ rfl ⟨hreps M,rfl,by simp; omega,⟨fun s g o ho=>(by rw [hno] at ho; cases ho),fun s g _ _ o _ b ho=>(by rw [hno] at ho; cases ho),hM,fun s g o b ho=>(by rw [hno] at ho; cases ho),fun s g o b ho=>(by rw [hno] at ho; cases ho),fun _ _ h=>h,fun _ _ h=>.inl h,Keep.refl w _⟩⟩ (fun Z' w' a' hs _=>?_)
     have hfin:a'.defers=[]/\∃ v,(results fn a'.tmps).run P w'=.ok v w'/\∃ x M',Ending.returned v=.returned x/\(∀ b o,M b=some o->M' b=some o)/\(∀ b o,M' b=some o->w'.heap[b]?=some o) /\
       (∀ b o,M' b=some o->M b=some o\/w.heap.size<=b)/\Keep w w' (fun _=>False)/\RRep M' w w' res x:=by
      obtain ⟨xs,e1,e2⟩:=zjl hs h2 hvs
      obtain ⟨M',m1,m2,m3,m4,m5⟩:=zpe hs.heap e2.resOf hres
      refine ⟨hs.defers,_,?_,_,M',rfl,m1,m2,m3,m4,m5⟩
      unfold results
      rw [Array.mapM_eq_mapM_toList]
      simp only [Sem.run_bind,map_eq_pure_bind,Sem.run_pure]
      exact congrArg (fun r=>(Result.andThen r fun a w'=>Result.ok a.toArray w').andThen fun (a:Array Value) w'=>Result.ok (if h:a.size=1 then a[0] else Value.tuple a) w') e1
     rcases hex with rfl|rfl
     ·exact hfin
     ·exact hfin
    ·cases hc
   ·cases hc
  ·cases hc
 ·cases hc
end
end Go.Ab
namespace Go.Ab
section
variable {P:Program} {K:Ctx} {Z Z':Cz} {st st':St} {w w':World} {a:Act}
theorem HRep.same2 (h:HRep K Z st w) {s g:Nat} {o:AObj} (ho:st.obj s g=some o) {es:List AV} (hl:es.length=o.es.length) (h2:∀ e∈es,e.sz=o.sz) (h3:∀ c∈es.flatMap AV.cells,c.one=true)
  (h4:∀ b,Z.B s g=some b->∃ (cur:Array Value) (T:TypeId) (vals:List Value),w.heap[b]?=some (.cells cur T (0,0))/\AReps Z st (es.flatMap AV.cells) vals /\
   (∀ (i:Nat) (v:Value),vals[i]?=some v->cur[i]?=some v)/\cur.size=Z.cap s g*o.sz/\o.es.length<=Z.cap s g/\Z.cap s g<=maxLen):HRep K Z (st.setObj s g ⟨o.sz,es⟩) w:=by
 have hg:=zbx ho
 have hz:=ZLe.setObj Z st s g o ⟨o.sz,es⟩ ho rfl hl
 have old:∀ {s' g':Nat} {o':AObj},(st.setObj s g ⟨o.sz,es⟩).obj s' g'=some o'->∃ o0,st.obj s' g'=some o0:=by
  intro s' g' o' ho'
  rw [zbb _ _ _ _ _ _ hg] at ho'
  split at ho'
  ·rename_i hc; obtain ⟨rfl,rfl⟩:=hc; exact ⟨o,ho⟩
  ·exact ⟨o',ho'⟩
 refine ⟨fun s' g' o' ho'=>?_,fun s' g' s'' g'' o' o'' b a1 a2 b1 b2=>?_,h.mem,fun s' g' o' b a1 b1=>?_,fun s' g' o' b a1 b1=>?_,h.m0,h.prov,h.keep⟩
 ·rw [zbb _ _ _ _ _ _ hg] at ho'
  split at ho'
  ·rename_i hc
   obtain ⟨rfl,rfl⟩:=hc
   cases ho'
   obtain ⟨k1,k2,k3,k4,k5⟩:=h.objs s' g' o ho
   refine ⟨k1,h2,h3,fun hb=>List.eq_nil_of_length_eq_zero (by rw [hl,k4 hb]; rfl),fun b hb=>?_⟩
   obtain ⟨cur,T,vals,e1,e2,e3,e4,e5,e6⟩:=h4 b hb
   exact ⟨cur,T,vals,e1,AReps.mono hz e2,e3,e4,by simpa [hl] using e5,e6⟩
  ·exact (h.objs s' g' o' ho').later hz rfl rfl (fun _ _=>rfl)
 ·obtain ⟨o1,c1⟩:=old a1
  obtain ⟨o2,c2⟩:=old a2
  exact h.inj _ _ _ _ _ _ b c1 c2 b1 b2
 ·obtain ⟨o1,c1⟩:=old a1; exact h.sep _ _ _ b c1 b1
 ·obtain ⟨o1,c1⟩:=old a1; exact h.own _ _ _ b c1 b1
theorem zht:∀ (ids:List (Nat × Nat)) {st:St} {s g:Nat} {o:AObj},st.obj s g=some o->(s,g)∉ids->(killAll st ids).obj s g=some o
 | [],_,_,_,_,h,_=>h
 | (s',g')::r,st,s,g,o,h,hn=>by
  simp only [List.mem_cons,Prod.mk.injEq,not_or] at hn
  rw [zex]
  refine zht r ?_ hn.2
  rw [zev,if_neg hn.1]; exact h
end
end Go.Ab
namespace Go.Ab
section
variable {P:Program} {K:Ctx} {Z Z':Cz} {st st':St} {w w':World} {a:Act}
def zen:List AV->List AV->Prop
 | [],[]=>True
 | x::l,y::r=>(x=y\/(x=.p .any/\y.one=true))/\zen l r
 | _,_=>False
theorem zen.reps:∀ {l r:List AV} {vals:List Value},zen l r->AReps Z st r vals->AReps Z st l vals
 | [],[],_,_,h=>h
 | [],_::_,_,h,_=>h.elim
 | _::_,[],_,h,_=>h.elim
 | x::l,y::r,_,h,.cons _ v _ vs h1 h2=>by
  refine .cons _ _ _ _ ?_ (zen.reps h.2 h2)
  rcases h.1 with rfl|⟨rfl,ho⟩
  ·exact h1
  ·exact .p _ _ (.any _ (ARep.one_val h1 ho))
theorem zen.one:∀ {l r:List AV},zen l r->(∀ c∈r,c.one=true)->∀ c∈l,c.one=true
 | [],[],_,_,c,hc=>by cases hc
 | [],_::_,h,_,_,_=>h.elim
 | _::_,[],h,_,_,_=>h.elim
 | x::l,y::r,h,hr,c,hc=>by
  rcases List.mem_cons.1 hc with rfl|hc
  ·rcases h.1 with rfl|⟨rfl,_⟩
   ·exact hr _ List.mem_cons_self
   ·rfl
  ·exact zen.one h.2 (fun c hc=>hr c (List.mem_cons_of_mem _ hc)) c hc
theorem Weak.anyCells {s g:Nat} {o:AObj} (es:List AV) (ho:st.obj s g=some o) (hl:es.length=o.es.length) (h2:∀ e∈es,e.sz=o.sz) (hc:zen (es.flatMap AV.cells) (o.es.flatMap AV.cells)):Weak st (st.setObj s g ⟨o.sz,es⟩):=by
 intro K Z w a hs
 have hO:=hs.heap.objs s g o ho
 have hz:=ZLe.setObj Z st s g o ⟨o.sz,es⟩ ho rfl hl
 have hss:=hs.heap.same2 ho hl h2 (hc.one hO.one) (fun b hb=>by
  obtain ⟨cur,T,vals,e1,e2,e3,e4,e5,e6⟩:=hO.blk b hb
  exact ⟨cur,T,vals,e1,hc.reps e2,e3,e4,e5,e6⟩)
 refine ⟨Z,⟨fun u=>?_,hs.defers,hs.size,hss⟩,.of_zle hz⟩
 rw [show (st.setObj s g ⟨o.sz,es⟩).get u=st.get u from rfl]
 exact ARep.mono hz (hs.slots u)
end
def endW (rs:List (Nat × Option Nat)) (res:RV) (ex:Exit) (s:St):Prop:=∃ s1,Weak s s1/\retP rs res ex s1
theorem Sp.of_vmE {P:Program} {f:FuncId} {args:List PV} {res:RV} {n np:Nat} {b:GC} {rs:List (Nat × Option Nat)} (hc:zad P f=some ⟨n,np,b.er,rs⟩) (hn:args.length<=n) (h:vm P n (endW rs res) [.code b] (zez args)):Sp P f args res:=by
 obtain ⟨ex,s0,r1,s,hw,r2⟩:=zc2 _ (Nat.le_refl _) h
 have key:(ex=.ret\/ex=.normal)/\∃ vs,zbg s rs=some vs/\resP s (resOf vs) res:=by
  cases ex with
  | ret=>exact ⟨.inl rfl,r2⟩
  | normal=>exact ⟨.inr rfl,r2⟩
  | _=>exact r2.elim
 obtain ⟨k1,vs,r3,r4⟩:=key
 refine Sp.of_runs hc hn (Runs.weakR r1 hw) k1 r3 ?_
 unfold resP at r4
 split at r4
 ·exact .pure _ _ r4
 ·split at r4
  ·rename_i sz es s' g off len hv
   obtain ⟨o,h1,rfl,h2,rfl,h4⟩:=r4
   rw [hv]
   exact .fresh _ _ _ _ _ h1 h2 h4
  ·rename_i hv; rw [hv,r4]; exact .nil _
  ·exact r4.elim
 ·exact r4.elim
end Go.Ab
namespace Go.Ab
open Enc (enc)
attribute [local go_sem] zam Opd.slots
def ratA:PV:=.agg [.fn F.ej [],.fn F.ba [],.fn F.iq [],.fn F.ep [],.fn F.my [],.fn F.pe [],.fn F.mq [],.fn F.ng [],.fn F.pf []]
def polA:PV:=.agg [.fn F.fb [],.fn F.fc [],.fn F.n7 [],.fn F.fe [],.fn F.n8 [],.fn F.pj [],.fn F.mq [],.fn F.pk [],.fn F.pm []]
def fraB (x:PV):PV:=.agg [.fn F.cg [],.fn F.ba [],.fn F.iq [],.fn F.fa [x],.fn F.my [],.fn F.l9 [.ref (.fn F.iq [])],.fn F.eu [],.fn F.ng [],.fn F.ph [x]]
def cosB (x:PV):PV:=.agg [.fn F.b7 [],.fn F.b8 [],.fn F.mu [],.fn F.b9 [],.fn F.nh [],.fn F.l9 [.ref (.fn F.mu [])],.fn F.cd [],.fn F.n4 [],.fn F.pg [x]]
def setB (x:PV):PV:=.agg [.fn F.ch [],.fn F.cj [],.fn F.mw [],.fn F.cm [],.fn F.ni [],.fn F.l9 [.ref (.fn F.mw [])],.fn F.mq [],.fn F.n5 [],.fn F.pi [x]]
def fraZ:PV:=.agg [.fn F.cg [],.fn F.ba [],.fn F.iq [],.any,.fn F.my [],.fn F.l9 [.ref (.fn F.iq [])],.fn F.eu [],.fn F.ng [],.any]
def cosZ:PV:=.agg [.fn F.b7 [],.fn F.b8 [],.fn F.mu [],.fn F.b9 [],.fn F.nh [],.fn F.l9 [.ref (.fn F.mu [])],.fn F.cd [],.fn F.n4 [],.any]
def setZ:PV:=.agg [.fn F.ch [],.fn F.cj [],.fn F.mw [],.fn F.cm [],.fn F.ni [],.fn F.l9 [.ref (.fn F.mw [])],.fn F.mq [],.fn F.n5 [],.any]
def fraA:PV:=fraB (.ref fraZ)
def cosA:PV:=cosB (.ref cosZ)
def setA:PV:=setB (.ref setZ)
theorem zgs:Sp P F.d8 [] (.pure ratA):=by
 refine Sp.vz c.d8 fun _=>?_
 simp [g.d8,go_sem,ratA]
theorem zng:Sp P F.lr [] (.pure polA):=by
 refine Sp.vz c.lr fun _=>?_
 simp [g.lr,go_sem,polA]
theorem ztc (f:FuncId):Sp P F.eq [.fn f []] (.pure (.fn F.l9 [.ref (.fn f [])])):=by
 refine Sp.vz c.eq fun _=>?_
 simp [g.eq,go_sem,toPV]
theorem zse:Sp P F.lm [] (.pure fraA):=by
 refine Sp.of_vmE c.lm (by simp) ?_
 simp [g.lm,go_sem]
 refine zaa zgs rfl ?_
 simp [go_sem,ratA]
 refine zaa (ztc F.iq) rfl ?_
 simp [go_sem]
 refine ⟨_,Weak.anyCells (s:=1) (g:=0) [.p fraZ] rfl rfl (by simp [fraZ,go_sem]) ?_,?_⟩
 ·simp [fraZ,zen,AV.cells,PV.cells]; decide
 simp [go_sem,toPV,retP,resP,zbg,zj6,resOf,fraA,fraB,St.setObj]
theorem z6v:Sp P F.lk [] (.pure cosA):=by
 refine Sp.of_vmE c.lk (by simp) ?_
 simp [g.lk,go_sem]
 refine zaa (ztc F.mu) rfl ?_
 simp [go_sem]
 refine ⟨_,Weak.anyCells (s:=1) (g:=0) [.p cosZ] rfl rfl (by simp [cosZ,go_sem]) ?_,?_⟩
 ·simp [cosZ,zen,AV.cells,PV.cells]; decide
 simp [go_sem,toPV,retP,resP,zbg,zj6,resOf,cosA,cosB,St.setObj]
theorem z8n:Sp P F.ln [] (.pure setA):=by
 refine Sp.of_vmE c.ln (by simp) ?_
 simp [g.ln,go_sem]
 refine zaa (ztc F.mw) rfl ?_
 simp [go_sem]
 refine ⟨_,Weak.anyCells (s:=1) (g:=0) [.p setZ] rfl rfl (by simp [setZ,go_sem]) ?_,?_⟩
 ·simp [setZ,zen,AV.cells,PV.cells]; decide
 simp [go_sem,toPV,retP,resP,zbg,zj6,resOf,setA,setB,St.setObj]
def znk (k:Int):PV:=if k=1 then ratA else if k=2 then cosA else if k=3 then fraA else if k=4 then setA else polA
theorem zme (k:Int) (hk:1<=k/\k<=5):Sp P F.ai [.int .i64 k] (.pure (znk k)):=by
 have:k=1\/k=2\/k=3\/k=4\/k=5:=by omega
 rcases this with rfl|rfl|rfl|rfl|rfl
 ·refine Sp.vz c.ai fun _=>?_
  simp [g.ai,go_sem]
  refine zaa zgs rfl ?_
  simp [go_sem,znk,ratA]
 ·refine Sp.vz c.ai fun _=>?_
  simp [g.ai,go_sem]
  refine zaa z6v rfl ?_
  simp [go_sem,znk,cosA,cosB]
 ·refine Sp.vz c.ai fun _=>?_
  simp [g.ai,go_sem]
  refine zaa zse rfl ?_
  simp [go_sem,znk,fraA,fraB]
 ·refine Sp.vz c.ai fun _=>?_
  simp [g.ai,go_sem]
  refine zaa z8n rfl ?_
  simp [go_sem,znk,setA,setB]
 ·refine Sp.vz c.ai fun _=>?_
  simp [g.ai,go_sem]
  refine zaa zng rfl ?_
  simp [go_sem,znk,polA]
theorem zrd (k:Int):Sp P F.ic [.int .i64 k] (.pure (.bool (decide (1<=k/\k<=5)))):=by
 refine Sp.vz c.ic fun _=>?_
 simp [g.ic,go_sem]
 refine ⟨fun h=>by simp [h],fun h=>by simp [show ¬ 1<=k by omega]⟩
theorem zw9 (k:Int):Sp P F.ig [.int .i64 k] (.pure (.bool (!decide (1<=k/\k<=5)))):=by
 refine Sp.vz c.ig fun _=>?_
 simp [g.ig,go_sem]
 refine zaa (zrd k) rfl ?_
 simp [go_sem]
theorem zgg (r:GRing):Sp P F.bw [enc r] (.pure (.bool r.ok)):=by
 refine Sp.vz c.bw fun hok=>?_
 simp [g.bw,go_sem]
 refine ⟨fun h6=>⟨fun h2=>⟨fun h3=>?_,fun h3=>?_⟩,fun h2=>?_⟩,fun h6=>?_⟩
 ·refine zaa (z98 r.parts F.ig [] (fun k => !decide (1<=k/\k<=5)) (by omega) fun k _=>zw9 k) rfl ?_
  have:r.ok = !(r.parts.any fun k => !decide (1<=k/\k<=5)):=by
   rw [Bool.eq_iff_iff]
   simp only [GRing.ok,if_pos h6,decide_eq_true_eq,Bool.not_eq_true',List.any_eq_false]
   constructor
   ·intro h x hx; have:=h.2.2 x hx; simp [this]
   ·intro h; exact ⟨by omega,by omega,fun k hk=>by have:=h k hk; simpa using this⟩
  simp [go_sem,this]
 ·simp [GRing.ok,h6]; intro h; omega
 ·simp [GRing.ok,h6]; intro h; omega
 ·refine zaa (zrd r.kind) rfl ?_
  by_cases hk:1<=r.kind/\r.kind<=5
  ·simp [go_sem,hk,GRing.ok,h6]
  ·have:r.ok=false:=by simp only [GRing.ok,if_neg h6,decide_eq_false_iff_not]; omega
   simp [go_sem,hk,this]
end Go.Ab
namespace Go.Ab
open Enc (enc)
attribute [local go_sem] zam Opd.slots
theorem zr8 (w:GW) (q:GRat) (c:Int) (i:Bool) (s:UInt64) (p:List GMono) (ps:List GW):w=.mk q c i s p ps ↔ w.q=q/\w.cost=c/\w.inf=i/\w.set=s/\w.poly=p/\w.parts=ps:=by
 cases w; simp [GW.q,GW.cost,GW.inf,GW.set,GW.poly,GW.parts]
theorem zvi (w:GW) (hw:w.sm 1048576):Sp P F.ej [enc w] (.pure (.bool (decide (w.si 1)))):=by
 refine Sp.vz c.ej fun _=>?_
 simp [g.ej,go_sem]
 refine zaa (zim w.q (hw.q.mono (by omega))) rfl ?_
 rcases Bool.eq_false_or_eq_true w.q.valid with hv|hv
 ·simp [go_sem,hv]
  refine zab (zdp w hw (.mk w.q 0 false 0 [] [])) ?_
  simp [go_sem]
  rw [si1,zr8]
  simp [hv]
  exact ⟨fun ⟨a,b,c,d,e⟩=>⟨e,b,a,c,d⟩,fun ⟨e,b,a,c,d⟩=>⟨a,b,c,d,e⟩⟩
 ·have:¬ w.si 1:=fun h=>by have:=(si1.1 h).2.2.2.2.2; rw [hv] at this; cases this
  simp [go_sem,hv,this]
theorem z5b (w:GW) (hw:w.sm 1048576):Sp P F.fb [enc w] (.pure (.bool (decide (w.si 5)))):=by
 refine Sp.vz c.fb fun _=>?_
 simp [g.fb,go_sem]
 refine zaa (zrp w.poly hw.poly (by have:=hw.len; omega)) rfl ?_
 by_cases hv:PVal w.poly
 ·simp [go_sem,hv]
  refine zab (zdp w hw (.mk gr0 0 false 0 w.poly [])) ?_
  simp [go_sem]
  rw [si5,zr8]
  simp [hv]
  exact ⟨fun ⟨a,b,c,d,e⟩=>⟨e,a,c,b,d⟩,fun ⟨e,a,c,b,d⟩=>⟨a,b,c,d,e⟩⟩
 ·have:¬ w.si 5:=fun h=>hv (si5.1 h).2.2.2.2.2
  simp [go_sem,hv,this]
theorem z4q (w:GW) (hw:w.sm 1048576):Sp P F.ch [enc w] (.pure (.bool (decide (w.si 4)))):=by
 refine Sp.vz c.ch fun _=>?_
 simp [g.ch,go_sem]
 refine zab (zdp w hw (.mk gr0 0 false w.set [] [])) ?_
 simp [go_sem]
 rw [si4,zr8]
 simp
 exact ⟨fun ⟨a,b,c,d,e⟩=>⟨e,a,c,b,d⟩,fun ⟨e,a,c,b,d⟩=>⟨a,b,c,d,e⟩⟩
theorem z6y (w:GW) (hw:w.sm 1048576):Sp P F.b7 [enc w] (.pure (.bool (decide (w.si 2)))):=by
 refine Sp.vz c.b7 fun _=>?_
 simp [g.b7,go_sem]
 have no:¬ (0<=w.cost/\w.cost<=1099511627776/\(w.inf=true->w.cost=0))->¬ w.si 2:=fun h h2=>h (si2.1 h2).2.2.2.2
 refine ⟨fun h1=>⟨fun h2=>?_,fun h2=>?_⟩,fun h1=>?_⟩
 ·rcases Bool.eq_false_or_eq_true w.inf with hi|hi
  ·simp [go_sem,hi]
   refine ⟨fun h3=>?_,fun h3=>no (fun h=>h3 (h.2.2 hi))⟩
   refine zaa (zdp w hw (.mk gr0 w.cost true 0 [] [])) (by simp [go_sem,hi]) ?_
   simp [go_sem]
   rw [si2,zr8]
   simp [hi,h3]
   exact ⟨fun ⟨a,b,c,d⟩=>⟨d,a,b,c⟩,fun ⟨d,a,b,c⟩=>⟨a,b,c,d⟩⟩
  ·simp [go_sem,hi]
   refine zaa (zdp w hw (.mk gr0 w.cost false 0 [] [])) (by simp [go_sem,hi]) ?_
   simp [go_sem]
   rw [si2,zr8]
   simp [hi,h1,h2]
   exact ⟨fun ⟨a,b,c,d⟩=>⟨d,a,b,c⟩,fun ⟨d,a,b,c⟩=>⟨a,b,c,d⟩⟩
 ·exact no (by omega)
 ·exact no (by omega)
theorem z8q:Sp P F.bc [.int .i64 1,.int .i64 1] (.pure (.tup [enc (rto 1),.int .i64 0])):=by
 have h:=zvf 1 1 (by omega) (by omega)
 have hd:Rat.divInt 1 1=1:=rfl
 simp [hd] at h
 exact h
theorem zxm:Sp P F.l7 [.int .i64 1] (.pure (enc (.mk (rto 1) 0 false 0 [] []:GW))):=by
 refine Sp.vz c.l7 fun _=>?_
 simp [g.l7,go_sem]
 refine zaa z8q rfl ?_
 simp [go_sem]
theorem ycw {x y:Rat}:x<y ↔ (x - y).num<0:=by
 rw [Rat.lt_iff_sub_pos]
 have:(x - y) = -(y - x):=by rw [Rat.neg_sub]
 rw [this,Rat.neg_num]
 have h1:0<=y - x ↔ 0<=(y - x).num:=Rat.num_nonneg.symm
 have h2:(y - x)=0 ↔ (y - x).num=0:=Rat.num_eq_zero.symm
 rw [Rat.lt_iff_le_and_ne,h1,ne_comm,Ne,h2]; omega
theorem z5m (x y:Rat):(x - y).num = -(y - x).num:=by
 have:(x - y) = -(y - x):=by rw [Rat.neg_sub]
 rw [this,Rat.neg_num]
theorem zzv {x y:Rat}:0<sgnR (x - y) ↔ y<x:=by
 rw [ycw]
 have:=z5m x y
 unfold sgnR; (repeat' split)<;>omega
theorem yb7 {x y:Rat}:sgnR (x - y)<=0 ↔ x<=y:=by
 rw [<- Rat.not_lt,<- zzv]; omega
theorem z6d (w:GW) (hw:w.sm 1048576):Sp P F.cg [enc w] (.pure (.bool (decide (w.si 3)))):=by
 refine Sp.vz c.cg fun _=>?_
 simp [g.cg,go_sem]
 refine zaa zgs rfl ?_
 simp [go_sem,ratA]
 refine zab (zvi w hw) ?_
 have i3:w.si 3 ↔ w.si 1/\0<=w.q.v/\w.q.v<=1:=by
  rw [si3,si1]; exact ⟨fun ⟨a,b,c,d,e,f,g,h⟩=>⟨⟨a,b,c,d,e,f⟩,g,h⟩,fun ⟨⟨a,b,c,d,e,f⟩,g,h⟩=>⟨a,b,c,d,e,f,g,h⟩⟩
 by_cases h1:w.si 1
 ·simp [go_sem,h1]
  refine zaa (zio w.q (hw.q.mono (by omega))) rfl ?_
  simp [go_sem]
  refine ⟨fun h2=>?_,fun h2=>?_⟩
  ·refine zaa zxm rfl ?_
   simp [go_sem]
   refine zaa (zfs w.q (rto 1) hw.q (zz0.mono (by omega))) rfl ?_
   simp [go_sem]
   rw [ze8]
   have a1:=zfr.1 h2
   rw [yb7,i3]
   simp [h1,a1]
  ·have:¬ 0<=w.q.v:=fun h=>by have:=zfr.2 h; omega
   simp [i3,this]
 ·simp [go_sem,i3,h1]
end Go.Ab
namespace Go.Ab
open Enc (enc)
attribute [local go_sem] zam Opd.slots
def zc5 (k:Int):GW:=.mk gr0 0 (decide (k=2)) 0 [] []
def GRing.zero (r:GRing):GW:=if r.ok then .mk gr0 0 (decide (r.kind=2)) 0 [] (r.parts.map zc5) else gw0
theorem z74 (r:GRing) (h:r.parts=[]):Sp P F.ak [enc r] (.pure (enc r.zero)):=by
 refine Sp.vz c.ak fun _=>?_
 simp [g.ak,go_sem]
 refine zaa (zbd r) rfl ?_
 rcases Bool.eq_false_or_eq_true r.ok with hr0|hr0
 rotate_left
 ·simp [hr0,GRing.zero,gw0,go_sem]
 simp [hr0,go_sem]
 refine zas fun R hn hr hx=>?_
 simp [g.ou,h,go_sem]
 refine hx _ _ ?_
 simp [hr0,GRing.zero,h,go_sem]
theorem zha (r:GRing):Sp P F.ak [enc r] (.pure (enc r.zero)):=by
 refine Sp.vz c.ak fun _=>?_
 simp [g.ak,go_sem]
 refine zaa (zbd r) rfl ?_
 rcases Bool.eq_false_or_eq_true r.ok with hr0|hr0
 rotate_left
 ·simp [hr0,GRing.zero,gw0,go_sem]
 simp [hr0,go_sem]
 refine zai (S:=fun k:Nat=>mkSt [(1,.ptr 1 0 0 0),(2,.ptr 2 0 0 0),(3,.ptr 3 0 0 0),(4,.p (.int .i64 k))]
   [(1,⟨2,[.p (enc r)]⟩),(2,⟨8,[.agg [.p (.bool false),.nil,.nil,.p (.int .i64 0),.p (.bool false),.p (.int .u64 0),.nil,.nil]]⟩),
    (3,⟨8,[.agg [.p (.bool false),.nil,.nil,.p (.int .i64 0),.p (.bool (decide (r.kind=2))),.p (.int .u64 0),.nil,.own 4 0 0 k]]⟩),(4,⟨8,avs ((r.parts.map zc5).take k)⟩)])
  (I:=fun k=>k<=r.parts.length) (m:=fun k=>r.parts.length - k) 0
  ((Weak.nilCell (s0:=3) (g0:=0) (i:=7) (s:=77) (sz:=8) rfl).trans (Weak.to [1,2,3,4] [((1,0),1),((2,0),2),((3,0),3),((77,0),4)] (by simp [go_sem]))) (by omega) ?_
 rintro k h1 R hn hr hx
 have hlen:r.parts.length<=3:=by
  by_cases h6:r.kind=6
  ·exact (GRing.ok_parts hr0 h6).2.1
  ·simp [(GRing.ok_kind hr0 h6).2.2]
 have e1:=i64s k (by omega)
 simp [g.ou,mkSt,go_sem]
 refine ⟨fun hk=>?_,fun hk=>hx _ _ ?_⟩
 ·have h6:r.kind=6:=by
   by_cases h6:r.kind=6
   ·exact h6
   ·have:=(GRing.ok_kind hr0 h6).2.2; rw [this] at hk; simp at hk
  have hpk:=(GRing.ok_parts hr0 h6).2.2 _ (List.getElem_mem hk)
  refine zaa (zk1 r k hk) rfl ?_
  simp [go_sem]
  refine zaa (z74 ⟨r.parts[k],[]⟩ rfl) rfl ?_
  have hz:(⟨r.parts[k],[]⟩:GRing).zero=zc5 r.parts[k]:=by
   have h7:r.parts[k]≠6:=by omega
   simp [GRing.zero,GRing.ok,h7,hpk,zc5]
  have hk':k<(r.parts.map zc5).length:=by simpa using hk
  rw [hz]
  simp [e1,go_sem]
  refine ⟨by omega,hn (k+1) _ (Weak.to [1,2,3,4] [((1,0),1),((2,0),2),((3,0),3),((28,0),4)] (by simp [go_sem,List.take_succ_eq_append_getElem hk',zdb])) (by omega) (by omega)⟩
 ·have:k=r.parts.length:=by omega
  subst this
  have ht:(r.parts.map zc5).take r.parts.length=r.parts.map zc5:=by rw [List.take_of_length_le (by simp)]
  simp [hr0,GRing.zero,go_sem]
  simp only [ht]
theorem zxy (r:GRing) (w:GW) (hw:w.sm 1048576):Sp P F.ki [enc r,enc w] (.pure (.bool (decide (w=r.zero)))):=by
 refine Sp.vz c.ki fun _=>?_
 simp [g.ki,go_sem]
 refine zab (zha r) ?_
 simp [go_sem]
 refine zab (zsj w hw r.zero) ?_
 simp [go_sem]
end Go.Ab
namespace Go.Ab
open Enc (enc)
attribute [local go_sem] zam Opd.slots
noncomputable def GW.tk (r:GRing) (w:GW):GW:=if w.chk r then w else r.zero
theorem zmp:gr0.valid=true:=by have:=zcd 0; rw [zd6] at this; exact this
theorem si_q {k:Int} {w:GW} (h:w.si k):w.q.valid=true:=by
 by_cases h1:k=1
 ·exact h.2.2.2.2.2.1 h1
 ·by_cases h3:k=3
  ·exact (h.2.2.2.2.2.2.2.1 h3).1
  ·rw [h.2.1 h1 h3]; exact zmp
theorem si_p {k:Int} {w:GW} (h:w.si k):PVal w.poly:=by
 by_cases h1:k=5
 ·exact h.2.2.2.2.2.2.2.2 h1
 ·rw [h.2.2.2.2.1 h1]; exact zpq
theorem ydw {r:GRing} {w:GW} (h:w.chk r):w.q.valid=true:=by
 by_cases h6:r.kind=6
 ·have:=(h.2.2 h6).2.1; rw [this]; exact zmp
 ·exact si_q (h.2.1 h6)
theorem zku {r:GRing} {w:GW} (h:w.chk r):PVal w.poly:=by
 by_cases h6:r.kind=6
 ·have:=(h.2.2 h6).2.1; rw [this]; exact zpq
 ·exact si_p (h.2.1 h6)
theorem zgv {k:Int} (h:1<=k/\k<=5):(⟨k,[]⟩:GRing).ok=true:=by
 have h7:k≠6:=by omega
 simp [GRing.ok,h7,h]
theorem zf6 {r:GRing} {w:GW} (h:w.chk r) (h6:r.kind=6) {i:Nat} (hi:i<r.parts.length) (hi':i<w.parts.length):w.parts[i].chk ⟨r.parts[i],[]⟩:=by
 have hp:=(GRing.ok_parts h.1 h6).2.2 _ (List.getElem_mem hi)
 refine ⟨zgv hp,fun _=>(h.2.2 h6).2.2 i hi hi',fun h'=>?_⟩
 simp at h'; omega
theorem z8d (r:GRing) (w:GW) (hw:w.sm 1048576) (h:w.parts=[]):Sp P F.ap [enc r,enc w] (.pure (enc (w.tk r))):=by
 refine Sp.vz c.ap fun _=>?_
 simp [g.ap,go_sem]
 refine zab (zi8 r w hw) ?_
 by_cases hc:w.chk r
 rotate_left
 ·simp [hc,GW.tk,go_sem]
  refine zab (zha r) ?_
  simp [go_sem]
 simp [hc,GW.tk,go_sem]
 refine zaa (zd4 w.q (hw.q.mono (by omega))) rfl ?_
 rw [zhv (ydw hc)]
 simp [go_sem]
 refine zaa (zhc w.poly hw.poly (by have:=hw.len; omega)) rfl ?_
 rw [zrq (zku hc)]
 simp [go_sem]
 refine zas fun R hn hr hx=>?_
 simp [g.o9,h,go_sem]
 refine hx _ _ ?_
 simp [h,go_sem]
theorem zaw (r:GRing) (w:GW) (hw:w.sm 1048576):Sp P F.ap [enc r,enc w] (.pure (enc (w.tk r))):=by
 refine Sp.vz c.ap fun _=>?_
 simp [g.ap,go_sem]
 refine zab (zi8 r w hw) ?_
 by_cases hc:w.chk r
 rotate_left
 ·simp [hc,GW.tk,go_sem]
  refine zab (zha r) ?_
  simp [go_sem]
 simp [hc,GW.tk,go_sem]
 refine zaa (zd4 w.q (hw.q.mono (by omega))) rfl ?_
 rw [zhv (ydw hc)]
 simp [go_sem]
 refine zaa (zhc w.poly hw.poly (by have:=hw.len; omega)) rfl ?_
 rw [zrq (zku hc)]
 simp [go_sem]
 refine zai (S:=fun k:Nat=>mkSt [(2,.ptr 1 0 0 0),(3,.ptr 2 0 0 0),(4,.ptr 3 0 0 0),(5,.ptr 4 0 0 0),(6,.p (.int .i64 k))]
   [(1,⟨2,[.p (enc r)]⟩),(2,⟨8,[.p (enc w)]⟩),(3,⟨8,[.agg [.p (.bool false),.nil,.nil,.p (.int .i64 0),.p (.bool false),.p (.int .u64 0),.nil,.nil]]⟩),
    (4,⟨8,[.agg [.p (.bool w.q.neg),.p (.sl (ens w.q.num)),.p (.sl (ens w.q.den)),.p (.int .i64 w.cost),.p (.bool w.inf),.p (.int .u64 w.set.toNat),.p (.sl (ens w.poly)),.own 5 0 0 k]]⟩),(5,⟨8,avs (w.parts.take k)⟩)])
  (I:=fun k=>k<=w.parts.length) (m:=fun k=>w.parts.length - k) 0
  ((Weak.nilCell (s0:=5) (g0:=0) (i:=7) (s:=77) (sz:=8) rfl).trans (Weak.to [2,3,4,5,6] [((2,0),1),((3,0),2),((4,0),3),((5,0),4),((77,0),5)] (by simp [go_sem]))) (by omega) ?_
 rintro k h1 R hn hr hx
 have hlen:=hw.plen
 have e1:=i64s k (by omega)
 simp [g.o9,mkSt,go_sem]
 refine ⟨fun hk=>?_,fun hk=>hx _ _ ?_⟩
 ·have h6:r.kind=6:=by
   by_cases h6:r.kind=6
   ·exact h6
   ·have:=(hc.2.1 h6).1; rw [this] at hk; simp at hk
  have hl:=(hc.2.2 h6).1
  have hkr:k<r.parts.length:=by omega
  refine zaa (zk1 r k hkr) rfl ?_
  simp [go_sem]
  refine zae hk ?_
  have hpart:=zf6 hc h6 hkr hk
  have hnil:w.parts[k].parts=[]:=((hc.2.2 h6).2.2 k hkr hk).1
  refine zab (z8d ⟨r.parts[k],[]⟩ w.parts[k] (hw.parts _ (List.getElem_mem hk)) hnil) ?_
  have ht:w.parts[k].tk ⟨r.parts[k],[]⟩=w.parts[k]:=if_pos hpart
  rw [ht]
  have hts:avs (w.parts.take (k+1))=avs (w.parts.take k)++[.p (enc w.parts[k])]:=by
   rw [List.take_succ_eq_append_getElem hk,zdb]; rfl
  simp [e1,go_sem]
  refine ⟨by omega,hn (k+1) _ (Weak.to [2,3,4,5,6] [((1,0),1),((2,0),2),((3,0),3),((4,0),4),((45,0),5)] (by simp [go_sem,hts])) (by omega) (by omega)⟩
 ·have:k=w.parts.length:=by omega
  subst this
  simp [go_sem]
end Go.Ab
namespace Go.Ab
open Enc (enc)
attribute [local go_sem] zam Opd.slots
def kF (a b c d e:FuncId) (k:Int):FuncId:=if k=1 then a else if k=2 then b else if k=3 then c else if k=4 then d else e
def kF0:=kF F.ej F.b7 F.cg F.ch F.fb
def kF1:=kF F.ba F.b8 F.ba F.cj F.fc
def kF2:=kF F.iq F.mu F.iq F.mw F.n7
def kF3:=kF F.ep F.b9 F.fa F.cm F.fe
def kC3 (k:Int):List PV:=if k=3 then [.ref fraZ] else []
def kF4:=kF F.my F.nh F.my F.ni F.n8
theorem zf1 (k:Int) (hk:1<=k/\k<=5):∃ f5 f6 f7 f8 c5 c8,znk k=.agg [.fn (kF0 k) [],.fn (kF1 k) [],.fn (kF2 k) [],.fn (kF3 k) (kC3 k),.fn (kF4 k) [],.fn f5 c5,.fn f6 [],.fn f7 [],.fn f8 c8]:=by
 have:k=1\/k=2\/k=3\/k=4\/k=5:=by omega
 rcases this with rfl|rfl|rfl|rfl|rfl<;>exact ⟨_,_,_,_,_,_,rfl⟩
theorem z3c (k:Int) (hk:1<=k/\k<=5) (w:GW) (hw:w.sm 1048576):Sp P (kF0 k) [enc w] (.pure (.bool (decide (w.si k)))):=by
 have:k=1\/k=2\/k=3\/k=4\/k=5:=by omega
 rcases this with rfl|rfl|rfl|rfl|rfl
 ·exact zvi w hw
 ·exact z6y w hw
 ·exact z6d w hw
 ·exact z4q w hw
 ·exact z5b w hw
theorem zvh:Sp P F.ba [] (.pure (enc (.mk gr0 0 false 0 [] []:GW))):=by
 refine Sp.vz c.ba fun _=>?_
 simp [g.ba,go_sem]
theorem z4p:Sp P F.cj [] (.pure (enc (.mk gr0 0 false 0 [] []:GW))):=by
 refine Sp.vz c.cj fun _=>?_
 simp [g.cj,go_sem]
theorem z5a:Sp P F.fc [] (.pure (enc (.mk gr0 0 false 0 [] []:GW))):=by
 refine Sp.vz c.fc fun _=>?_
 simp [g.fc,go_sem]
theorem z6x:Sp P F.b8 [] (.pure (enc (.mk gr0 0 true 0 [] []:GW))):=by
 refine Sp.vz c.b8 fun _=>?_
 simp [g.b8,go_sem]
theorem zuy (k:Int) (hk:1<=k/\k<=5):Sp P (kF1 k) [] (.pure (enc (zc5 k))):=by
 have:k=1\/k=2\/k=3\/k=4\/k=5:=by omega
 rcases this with rfl|rfl|rfl|rfl|rfl
 ·exact zvh
 ·exact z6x
 ·exact zvh
 ·exact z4p
 ·exact z5a
theorem z26 (r:GRing) (hp:∀ k∈r.parts,1<=k/\k<=5) (hl:r.parts.length<=3) (f:FuncId) (caps:List PV) (out:List GW) (ho:out.length=r.parts.length)
  (hf:∀ i,(h:i<r.parts.length)->(h':i<out.length)->Sp P f (znk r.parts[i]::.int .i64 i::caps) (.pure (enc out[i]))) :
  Sp P F.g8 [enc r,.fn f caps] (.pure (enc (.mk gr0 0 false 0 [] out:GW))):=by
 refine Sp.vz c.g8 fun _=>?_
 simp [g.g8,go_sem]
 refine zai (S:=fun k:Nat=>mkSt [(1,.p (.fn f caps)),(4,.ptr 1 0 0 0),(5,.ptr 2 0 0 0),(9,.p (.sl (ens r.parts))),(10,.p (.int .i64 r.parts.length)),(11,.p (.int .i64 k))]
   [(1,⟨8,[.agg [.p (.bool false),.nil,.nil,.p (.int .i64 0),.p (.bool false),.p (.int .u64 0),.nil,.nil]]⟩),
    (2,⟨8,[.agg [.p (.bool false),.nil,.nil,.p (.int .i64 0),.p (.bool false),.p (.int .u64 0),.nil,.own 3 0 0 k]]⟩),(3,⟨8,avs (out.take k)⟩)])
  (I:=fun k=>k<=r.parts.length) (m:=fun k=>r.parts.length - k) 0
  ((Weak.nilCell (s0:=5) (g0:=0) (i:=7) (s:=77) (sz:=8) rfl).trans (Weak.to [1,4,5,9,10,11] [((4,0),1),((5,0),2),((77,0),3)] (by simp [go_sem]))) (by omega) ?_
 rintro k h1 R hn hr hx
 have e1:=i64s k (by omega)
 simp [g.rl,mkSt,go_sem]
 refine ⟨fun hk=>?_,fun hk=>hx _ _ ?_⟩
 ·have hk':k<out.length:=by omega
  refine zae hk ?_
  try simp [go_sem]
  refine zaa (zme r.parts[k] (hp _ (List.getElem_mem hk))) rfl ?_
  obtain ⟨f5,f6,f7,f8,c5,c8,hA⟩:=zf1 r.parts[k] (hp _ (List.getElem_mem hk))
  have hf':=hf k hk hk'
  rw [hA] at hf'
  simp [hA,go_sem]
  refine zaa hf' (zb1 rfl (zb1 rfl (zfz _ _))) ?_
  have hts:avs (out.take (k+1))=avs (out.take k)++[.p (enc out[k])]:=by
   rw [List.take_succ_eq_append_getElem hk',zdb]; rfl
  simp [e1,go_sem]
  exact ⟨⟨by omega,by omega⟩,hn (k+1) _ (Weak.to [1,4,5,9,10,11] [((1,0),1),((2,0),2),((24,0),3)] (by simp [go_sem,hts])) (by omega) (by omega)⟩
 ·have:k=out.length:=by omega
  subst this
  simp [go_sem]
end Go.Ab
namespace Go.Ab
open Enc (enc)
attribute [local go_sem] zam Opd.slots
theorem zyo (k:Int) (hk:1<=k/\k<=5) (i:Int):Sp P F.g9 [znk k,.int .i64 i] (.pure (enc (zc5 k))):=by
 obtain ⟨f5,f6,f7,f8,c5,c8,hA⟩:=zf1 k hk
 rw [hA]
 refine Sp.vz c.g9 fun _=>?_
 simp [g.g9,go_sem]
 refine zaa (zuy k hk) rfl ?_
 simp [go_sem]
theorem zg9 (r:GRing):Sp P F.bg [enc r] (.pure (enc r.zero)):=by
 refine Sp.vz c.bg fun _=>?_
 simp [g.bg,go_sem]
 refine zaa (zgg r) rfl ?_
 rcases Bool.eq_false_or_eq_true r.ok with hr0|hr0
 rotate_left
 ·simp [hr0,GRing.zero,gw0,go_sem]
 simp [hr0,go_sem]
 refine ⟨fun h6=>?_,fun h6=>?_⟩
 ·have hp:=GRing.ok_parts hr0 h6
  refine zaa (z26 r hp.2.2 hp.2.1 F.g9 [] (r.parts.map zc5) (by simp) fun i h h'=>by simpa using zyo r.parts[i] (hp.2.2 _ (List.getElem_mem h)) i) rfl ?_
  simp [hr0,GRing.zero,h6,go_sem]
 ·have hk:=GRing.ok_kind hr0 h6
  obtain ⟨f5,f6,f7,f8,c5,c8,hA⟩:=zf1 r.kind ⟨hk.1,hk.2.1⟩
  refine zaa (zme r.kind ⟨hk.1,hk.2.1⟩) rfl ?_
  simp [hA,go_sem]
  refine zaa (zuy r.kind ⟨hk.1,hk.2.1⟩) rfl ?_
  simp [hr0,GRing.zero,hk.2.2,zc5,go_sem]
theorem zm4 (r:GRing) (w:GW) (hw:w.sm 1048576):Sp P F.d7 [enc r,enc w] (.pure (.bool (decide (w.chk r)))):=by
 refine Sp.vz c.d7 fun _=>?_
 simp [g.d7,go_sem]
 refine zaa (zgg r) rfl ?_
 rcases Bool.eq_false_or_eq_true r.ok with hr0|hr0
 rotate_left
 ·simp [hr0,GW.chk,go_sem]
 simp [hr0,go_sem]
 refine ⟨fun h6=>?_,fun h6=>?_⟩
 rotate_left
 ·have hk:=GRing.ok_kind hr0 h6
  obtain ⟨f5,f6,f7,f8,c5,c8,hA⟩:=zf1 r.kind ⟨hk.1,hk.2.1⟩
  refine zaa (zme r.kind ⟨hk.1,hk.2.1⟩) rfl ?_
  simp [hA,go_sem]
  refine zab (z3c r.kind ⟨hk.1,hk.2.1⟩ w hw) ?_
  simp [GW.chk,hr0,h6,go_sem]
 have hp:=GRing.ok_parts hr0 h6
 refine ⟨fun hl=>?_,fun hl h=>?_⟩
 rotate_left
 ·have:=(h.2.2 h6).1; omega
 have hl':w.parts.length=r.parts.length:=by omega
 refine zab (zdp w hw (.mk gr0 0 false 0 [] w.parts)) ?_
 simp [go_sem]
 refine ⟨fun he=>?_,fun he h=>he (h.2.2 h6).2.1⟩
 refine zai (S:=fun k:Nat=>mkSt [(3,.ptr 1 0 0 0),(35,.p (.sl (ens r.parts))),(36,.p (.int .i64 r.parts.length)),(37,.p (.int .i64 k))] [(1,⟨8,[.p (enc w)]⟩)]) (I:=fun k=>k<=r.parts.length/\∀ i,(h:i<r.parts.length)->(h':i<w.parts.length)->i<k->w.parts[i].si r.parts[i]) (m:=fun k=>r.parts.length - k) 0
  (Weak.to [3,35,36,37] [((3,0),1)] (by simp [go_sem])) ⟨by omega,fun i h h' h0=>by omega⟩ ?_
 rintro k ⟨h7,h8⟩ R hn hr hx
 have e1:=i64s k (by omega)
 simp [g.rr,mkSt,go_sem]
 refine ⟨fun hk=>?_,fun hk=>hx _ _ ?_⟩
 ·have hk2:k<w.parts.length:=by omega
  have hpk:=hp.2.2 _ (List.getElem_mem hk)
  obtain ⟨f5,f6,f7,f8,c5,c8,hA⟩:=zf1 r.parts[k] hpk
  refine zae hk ?_
  try simp [go_sem]
  refine zaa (zme r.parts[k] hpk) rfl ?_
  simp [hA,go_sem]
  refine zae hk2 ?_
  try simp [go_sem]
  refine zab (z3c r.parts[k] hpk w.parts[k] (hw.parts _ (List.getElem_mem hk2))) ?_
  by_cases h9:w.parts[k].si r.parts[k]
  ·simp [h9,e1,go_sem]
   refine hn (k+1) _ (Weak.to [3,35,36,37] [((1,0),1)] (by simp [go_sem])) ⟨by omega,fun i h h' hi=>?_⟩ (by omega)
   by_cases hik:i<k
   ·exact h8 i h h' hik
   ·have:i=k:=by omega
    subst this; exact h9
  ·simp [h9,go_sem]
   refine hr _ ?_
   have:¬ w.chk r:=fun h=>h9 ((h.2.2 h6).2.2 k hk hk2)
   simp [this,go_sem]
 ·have:w.chk r:=⟨hr0,fun h=>absurd h6 h,fun _=>⟨hl',he,fun i h h'=>h8 i h h' (by omega)⟩⟩
  simp [this,go_sem]
theorem zie (r:GRing) (w:GW) (hw:w.sm 1048576):Sp P F.ld [enc r,enc w] (.pure (enc (w.tk r))):=by
 refine Sp.vz c.ld fun _=>?_
 simp [g.ld,go_sem]
 refine zab (zm4 r w hw) ?_
 by_cases hc:w.chk r
 ·simp [hc,GW.tk,go_sem]
 ·simp [hc,GW.tk,go_sem]
  refine zab (zg9 r) ?_
  simp [go_sem]
end Go.Ab
namespace Go.Ab
open Enc (enc)
attribute [local go_sem] zam Opd.slots
end Go.Ab
namespace Go.Ab
open Enc (enc)
attribute [local go_sem] zam Opd.slots
end Go.Ab
namespace Go.Ab
open Enc (enc)
attribute [local go_sem] zam Opd.slots
theorem zvs (x y:UInt64):orI .u64 x.toNat y.toNat=((x ||| y).toNat:Int):=by rw [ztv x.toNat_lt y.toNat_lt,UInt64.toNat_or]
def zau (k:Int) (v w:GW):GW :=
 if k=1 then .mk (rto (v.q.v+w.q.v)) 0 false 0 [] []
 else if k=2 then if v.inf=true\/(w.inf=false/\w.cost<v.cost) then w else v
 else if k=3 then if v.q.v<w.q.v then w else v
 else if k=4 then .mk gr0 0 false (v.set ||| w.set) [] []
 else .mk gr0 0 false 0 (padd v.poly w.poly) []
theorem z9c (v w:GW) (hv:v.sm 1048576) (hw:w.sm 1048576) (cv:v.chk ⟨1,[]⟩) (cw:w.chk ⟨1,[]⟩):Sp P F.aa [enc (⟨1,[]⟩:GRing),enc v,enc w] (.pure (enc (zau 1 v w))):=by
 have hr0:(⟨1,[]⟩:GRing).ok=true:=zgv (by omega)
 have t1:v.tk ⟨1,[]⟩=v:=if_pos cv
 have t2:w.tk ⟨1,[]⟩=w:=if_pos cw
 have k1:=zaw ⟨1,[]⟩ v hv
 have k2:=zaw ⟨1,[]⟩ w hw
 rw [t1] at k1; rw [t2] at k2
 refine Sp.vz c.aa fun _=>?_
 simp [g.aa,go_sem]
 refine zaa (zbd ⟨1,[]⟩) rfl ?_
 simp [hr0,go_sem]
 refine zab k1 ?_
 simp [go_sem]
 refine zab k2 ?_
 simp [go_sem]
 refine zaa (zuw v.q w.q hv.q hw.q) rfl ?_
 simp [zau,go_sem]
theorem z9b (v w:GW) (hv:v.sm 1048576) (hw:w.sm 1048576) (cv:v.chk ⟨2,[]⟩) (cw:w.chk ⟨2,[]⟩):Sp P F.aa [enc (⟨2,[]⟩:GRing),enc v,enc w] (.pure (enc (zau 2 v w))):=by
 have hr0:(⟨2,[]⟩:GRing).ok=true:=zgv (by omega)
 have t1:v.tk ⟨2,[]⟩=v:=if_pos cv
 have t2:w.tk ⟨2,[]⟩=w:=if_pos cw
 have k1:=zaw ⟨2,[]⟩ v hv
 have k2:=zaw ⟨2,[]⟩ w hw
 rw [t1] at k1; rw [t2] at k2
 refine Sp.vz c.aa fun _=>?_
 simp [g.aa,go_sem]
 refine zaa (zbd ⟨2,[]⟩) rfl ?_
 simp [hr0,go_sem]
 refine zab k1 ?_
 simp [go_sem]
 refine zab k2 ?_
 simp [go_sem]
 rcases Bool.eq_false_or_eq_true v.inf with h1|h1
 ·simp [zau,h1,go_sem]
 rcases Bool.eq_false_or_eq_true w.inf with h2|h2
 ·simp [zau,h1,h2,go_sem]
 simp [zau,h1,h2,go_sem]
 refine ⟨fun h3=>by simp [h3,h2,go_sem],fun h3=>by simp [show ¬ w.cost<v.cost by omega,h1,go_sem]⟩
theorem z9a (v w:GW) (hv:v.sm 1048576) (hw:w.sm 1048576) (cv:v.chk ⟨3,[]⟩) (cw:w.chk ⟨3,[]⟩):Sp P F.aa [enc (⟨3,[]⟩:GRing),enc v,enc w] (.pure (enc (zau 3 v w))):=by
 have hr0:(⟨3,[]⟩:GRing).ok=true:=zgv (by omega)
 have t1:v.tk ⟨3,[]⟩=v:=if_pos cv
 have t2:w.tk ⟨3,[]⟩=w:=if_pos cw
 have k1:=zaw ⟨3,[]⟩ v hv
 have k2:=zaw ⟨3,[]⟩ w hw
 rw [t1] at k1; rw [t2] at k2
 refine Sp.vz c.aa fun _=>?_
 simp [g.aa,go_sem]
 refine zaa (zbd ⟨3,[]⟩) rfl ?_
 simp [hr0,go_sem]
 refine zab k1 ?_
 simp [go_sem]
 refine zab k2 ?_
 simp [go_sem]
 refine zaa (zwe v.q w.q hv.q hw.q) rfl ?_
 by_cases h1:v.q.v<w.q.v
 ·simp [zau,h1,go_sem]
 ·simp [zau,h1,go_sem]
theorem z89 (v w:GW) (hv:v.sm 1048576) (hw:w.sm 1048576) (cv:v.chk ⟨4,[]⟩) (cw:w.chk ⟨4,[]⟩):Sp P F.aa [enc (⟨4,[]⟩:GRing),enc v,enc w] (.pure (enc (zau 4 v w))):=by
 have hr0:(⟨4,[]⟩:GRing).ok=true:=zgv (by omega)
 have t1:v.tk ⟨4,[]⟩=v:=if_pos cv
 have t2:w.tk ⟨4,[]⟩=w:=if_pos cw
 have k1:=zaw ⟨4,[]⟩ v hv
 have k2:=zaw ⟨4,[]⟩ w hw
 rw [t1] at k1; rw [t2] at k2
 refine Sp.vz c.aa fun _=>?_
 simp [g.aa,go_sem]
 refine zaa (zbd ⟨4,[]⟩) rfl ?_
 simp [hr0,go_sem]
 refine zab k1 ?_
 simp [go_sem]
 refine zab k2 ?_
 simp [go_sem]
 simp [zau,zvs,go_sem]
theorem z88 (v w:GW) (hv:v.sm 1048576) (hw:w.sm 1048576) (cv:v.chk ⟨5,[]⟩) (cw:w.chk ⟨5,[]⟩) (D B B':Nat) (h1:pqb D B v.poly) (h2:pqb D B' w.poly) (hD0:D≠0) (hD:D<4294967296^1048576) (hB:B+B'<4294967296^1048576):Sp P F.aa [enc (⟨5,[]⟩:GRing),enc v,enc w] (.pure (enc (zau 5 v w))):=by
 have k3:=yaz v.poly w.poly D B B' (zku cv) (zku cw) h1 h2 hD0 hD hB
 clear hD hB
 have hr0:(⟨5,[]⟩:GRing).ok=true:=zgv (by omega)
 have t1:v.tk ⟨5,[]⟩=v:=if_pos cv
 have t2:w.tk ⟨5,[]⟩=w:=if_pos cw
 have k1:=zaw ⟨5,[]⟩ v hv
 have k2:=zaw ⟨5,[]⟩ w hw
 rw [t1] at k1; rw [t2] at k2
 refine Sp.vz c.aa fun _=>?_
 simp [g.aa,go_sem]
 refine zaa (zbd ⟨5,[]⟩) rfl ?_
 simp [hr0,go_sem]
 refine zab k1 ?_
 simp [go_sem]
 refine zab k2 ?_
 simp [go_sem]
 refine zaa k3 rfl ?_
 simp [zau,go_sem]
end Go.Ab
namespace Go.Ab
open Enc (enc)
attribute [local go_sem] zam Opd.slots
theorem z44 (v w:GW) (hv:v.sm 1048576) (hw:w.sm 1048576):Sp P F.ep [enc v,enc w] (.pure (enc (zau 1 v w))):=by
 refine Sp.vz c.ep fun _=>?_
 simp [g.ep,go_sem]
 refine zaa (zft v.q w.q hv.q hw.q) rfl ?_
 simp [zau,go_sem]
theorem z4o (v w:GW):Sp P F.cm [enc v,enc w] (.pure (enc (zau 4 v w))):=by
 refine Sp.vz c.cm fun _=>?_
 simp [g.cm,go_sem,zau,zvs]
theorem z9u (v w:GW):Sp P F.cd [enc v,enc w] (.pure (.bool (!v.inf&&(w.inf||decide (v.cost<w.cost))))):=by
 refine Sp.vz c.cd fun _=>?_
 simp [g.cd,go_sem]
 rcases Bool.eq_false_or_eq_true v.inf with h1|h1<;>rcases Bool.eq_false_or_eq_true w.inf with h2|h2<;>simp [go_sem,h1,h2]
theorem z6w (v w:GW) (hv:v.si 2) (hw:w.si 2):Sp P F.b9 [enc v,enc w] (.pure (enc (zau 2 v w))):=by
 refine Sp.vz c.b9 fun _=>?_
 simp [g.b9,go_sem]
 refine zab (z9u w v) ?_
 rcases Bool.eq_false_or_eq_true v.inf with h1|h1
 ·rcases Bool.eq_false_or_eq_true w.inf with h2|h2
  ·have hvw:v=w:=by
    have a:=si2.1 hv
    have b:=si2.1 hw
    exact GW.ext (by rw [a.2.1,b.2.1]) (by rw [a.2.2.2.2.2.2 h1,b.2.2.2.2.2.2 h2]) (by rw [h1,h2]) (by rw [a.2.2.1,b.2.2.1]) (by rw [a.2.2.2.1,b.2.2.2.1]) (by rw [a.1,b.1])
   subst hvw
   simp [go_sem,h1,zau]
  ·simp [go_sem,h1,h2,zau]
 ·rcases Bool.eq_false_or_eq_true w.inf with h2|h2
  ·simp [go_sem,h1,h2,zau]
  ·by_cases h3:w.cost<v.cost
   ·simp [go_sem,h1,h2,h3,zau]
   ·simp [go_sem,h1,h2,h3,zau]
theorem z6c (v w:GW) (hv:v.sm 1048576) (hw:w.sm 1048576):Sp P F.eu [enc v,enc w] (.pure (.bool (decide (w.q.v<v.q.v)))):=by
 refine Sp.vz c.eu fun _=>?_
 simp [g.eu,go_sem]
 refine zaa (zfs v.q w.q hv.q hw.q) rfl ?_
 simp [go_sem,zzv]
theorem z6b (v w:GW) (hv:v.sm 1048576) (hw:w.sm 1048576) (sv:v.si 3) (sw:w.si 3):Sp P F.fa [enc v,enc w,.ref fraZ] (.pure (enc (zau 3 v w))):=by
 refine Sp.of_vmW c.fa (by simp) (Weak.openRef (t:=2) (v:=fraZ) (n:=9) (by simp [go_sem]) rfl) ?_
 simp [g.fa,go_sem,fraZ]
 refine zab (z6c w v hw hv) ?_
 have key:∀ x:GW,x.si 3->x=.mk (rto x.q.v) 0 false 0 [] []:=fun x hx=>by
  have a:=si3.1 hx
  exact GW.ext (zhv a.2.2.2.2.2.1).symm a.2.2.1 a.2.1 a.2.2.2.1 a.2.2.2.2.1 a.1
 have hg0:gr0.v=0:=by rw [show gr0=rto 0 from zd6.symm,ze8]
 by_cases h:v.q.v<w.q.v
 ·have e:zau 3 v w=.mk (rto w.q.v) 0 false 0 [] []:=by simp only [zau,h,if_true]; exact key w sw
  rw [e]
  simp [go_sem,h]
  have:=zft w.q gr0 hw.q (zgz _)
  rw [hg0,Rat.add_zero] at this
  refine zaa this rfl ?_
  simp [go_sem]
 ·have e:zau 3 v w=.mk (rto v.q.v) 0 false 0 [] []:=by simp only [zau,h,if_false]; exact key v sv
  rw [e]
  simp [go_sem,h]
  have:=zft v.q gr0 hv.q (zgz _)
  rw [hg0,Rat.add_zero] at this
  refine zaa this rfl ?_
  simp [go_sem]
end Go.Ab
namespace Go.Ab
open Go.Proofs
def T.bool:TypeId:=4
def T.int:TypeId:=3
def T.ints:TypeId:=22
def T.plan:TypeId:=24
theorem ty.map:P.underlying 246=some (.map 170 37):=by kernel_rfl
theorem ty.key:P.underlying 170=some (.array 3 3):=by kernel_rfl
theorem ty.int:P.underlying 3=some (.int .i64):=by kernel_rfl
theorem ty.bool:P.underlying 4=some .bool:=by kernel_rfl
theorem ty.cells:P.cellsOf 170=3:=by kernel_rfl
theorem ty.cell:P.cellsOf 3=1:=by kernel_rfl
theorem ty.size:0<P.types.size:=of_decide_eq_true (by kernel_rfl)
theorem ty.ints:P.underlying T.ints=some (.slice 3):=by kernel_rfl
theorem ty.plan:shp P T.plan=some ([(T.int,0,1),(T.int,1,1),(T.bool,2,1),(T.bool,3,1),(T.ints,4,1)],5):=by kernel_rfl
end Go.Ab
