/-
Proofs for the law ProjectIdentityWeighs, part 32. Conditions: none.
-/
import Derived.Test.YtalcegbealdigaaGreatDoorBP29
import Derived.Test.YtalcegbealdigaaGreatDoorBP25
import Derived.Test.YtalcegbealdigaaGreatDoorBP30
import Derived.Test.YtalcegbealdigaaGreatDoorBP31
import Derived.Test.YtalcegbealdigaaGreatDoorBP23
import Derived.Test.YtalcegbealdigaaGreatDoorBP26
set_option maxRecDepth 100000
set_option maxHeartbeats 4000000
set_option linter.all false
namespace Go.Ab
open Enc (enc)
def kcE (e:Ex):List PV:=[.int .i64 e.a,.int .i64 e.b,.int .i64 e.c]
theorem z2m (e:Ex):enc e=.agg (kcE e):=rfl
theorem z2k (e e':Ex):eqI (kcE e) (kcE e')=true ↔ e=e':=by
 cases e; cases e'; simp [kcE,eqI,and_assoc]
def zR:GRat:=⟨false,[],[]⟩
def zia (e:Ex) (L:List (Ex × GRat)):GRat:=(mget e L).getD zR
def madd (m:GMono) (L:List (Ex × GRat)):List (Ex × GRat):=mset m.e (rto ((zia m.e L).v+m.coef.v)) L
theorem zyg (l:List UInt32):zec (ens l)=true:=by
 rw [zfq]; intro v hv; obtain ⟨x,_,rfl⟩:=List.mem_map.1 hv; rfl
theorem zwl (L:List (Ex × GRat)):zec (mks L)=true:=by
 rw [zfq]; intro v hv; obtain ⟨x,_,rfl⟩:=List.mem_map.1 hv; rfl
theorem zwk (L:List (Ex × GRat)):zec (mvs L)=true:=by
 rw [zfq]; intro v hv; obtain ⟨x,_,rfl⟩:=List.mem_map.1 hv
 show (PV.agg [.bool x.2.neg,.sl (ens x.2.num),.sl (ens x.2.den)]).nomp=true
 simp [PV.nomp,zec,zyg]
theorem zqm {e:Ex} (h:e.ok=true):zfc (List.replicate 3 .i64) (kcE e)=true:=by
 simp only [Ex.ok,decide_eq_true_eq] at h
 simp [kcE,zfc,List.replicate,Lit.wf,IntKind.min,IntKind.max,IntKind.signed,IntKind.bits]
 omega
theorem zo0 {L:List (Ex × GRat)} (h:∀ p∈L,p.1.ok=true):(mks L).all (zfr (List.replicate 3 .i64))=true:=by
 simp only [List.all_eq_true]; intro v hv; obtain ⟨x,hx,rfl⟩:=List.mem_map.1 hv
 exact zqm (h x hx)
def z3m (r:Nat) (ks' vs':List PV) (ex:Exit) (s:St) (B:Option FA):Prop:=(ex=.normal\/ex=.ret)/\(B=some (zib r ks' vs')\/(B=some (fzFA r)/\s.get 0=.p (.mp r ks' vs')))
theorem zzv (m:GMono) (L:List (Ex × GRat)) (hm:m.e.ok=true) (hc:m.coef.sm 1048576) (hL:∀ p∈L,p.1.ok=true/\p.2.sm 1048576) :
  SpU P F.my (mks L) (mvs L) [enc m.e,enc m.coef] (mks (madd m L)) (mvs (madd m L)):=by
 refine SpU.of_mr c.my (by simp) fun r=>?_
 show MR P _ _ _ _ (z3m r (mks (madd m L)) (mvs (madd m L)))
 have hm':=hm
 simp only [Ex.ok,decide_eq_true_eq] at hm'
 unfold g.my
 refine MR.gseq ?_
 simp [go_sem]
 refine MR.gseq ?_
 simp [go_sem]
 refine zaa (zol m.e ⟨⟨by omega,by omega⟩,⟨by omega,by omega⟩,by omega,by omega⟩) rfl ?_
 simp [go_sem]
 refine MR.gcond (t:=true) (by simp [go_sem]; omega) (fun _=>?_) (fun h=>by cases h)
 refine MR.gregD rfl (by decide) ?_
 have hfind:=zko z2m z2k m.e L
 have hput:=zmr z2m z2k m.e (rto ((zia m.e L).v+m.coef.v)) L
 have hk:=zqm hm
 have hks:=zo0 fun p hp=>(hL p hp).1
 simp only [kcE,List.replicate] at hfind hk hks
 have fin:∀ s:St,s.get 9=.p (.mp r (mks L) (mvs L))->s.get 10=.p (.agg (kcE m.e))->s.get 15=.p (enc (rto ((zia m.e L).v+m.coef.v))) ->
   MOp P 16 ⟨none,.raw (.mapUpdate 237 (.tmp 9) (.tmp 10) (.tmp 15)),none⟩ s (some (fzFA r)) fun s B=>z3m r (mks (madd m L)) (mvs (madd m L)) .normal s B:=fun s h1 h2 h3=>by
  refine zqe (d:=none) ty.map ty.key ty.int ty.cells ty.cell ty.size h1 h2 h3 (zo0 fun p hp=>(hL p hp).1) (zqm hm) ?_ ?_ ?_
  ·rw [hput]; exact zwl _
  ·rw [hput]; exact zwk _
  ·rw [hput]; exact ⟨.inl rfl,.inl rfl⟩
 cases hg:mget m.e L with
 | none =>
  rw [hg] at hfind
  have hz:zia m.e L=zR:=by simp [zia,hg]
  simp [go_sem,hfind,hk,hks]
  rw [hz] at fin
  refine zaa (zl8 zR m.coef ⟨by simp [zR],by simp [zR]⟩ hc) rfl ?_
  simp [go_sem]
  exact fin _ rfl rfl rfl
 | some c =>
  rw [hg] at hfind
  have hz:zia m.e L=c:=by simp [zia,hg]
  rw [hz] at fin
  simp [go_sem,hfind,hk,hks]
  refine zaa (zl8 c m.coef (hL _ (zwo hg)).2 hc) rfl ?_
  simp [go_sem]
  exact fin _ rfl rfl rfl
end Go.Ab
namespace Go.Ab
open Enc (enc)
def SpV (P:Program) (f:FuncId) (vals:List Value) (res:RV):Prop :=
 (∃ fn,P.funcs[f]?=some fn/\fn.body.isSome=true/\fn.name ≠ "runtime.NumGoroutine") /\
 ∀ (w:World) (M:Nat->Option Obj),(∀ b o,M b=some o->w.heap[b]?=some o) ->
  Calls P f vals.toArray w fun e w'=>∃ x M',e=.returned x/\(∀ b o,M b=some o->M' b=some o)/\(∀ b o,M' b=some o->w'.heap[b]?=some o) /\
   (∀ b o,M' b=some o->M b=some o\/w.heap.size<=b)/\Keep w w' (fun _=>False)/\RRep M' w w' res x
section
variable {P:Program} {K:Ctx} {Z Z':Cz} {st st' st1:St} {w w':World} {a:Act} {N:Nat} {A B:Option FA} {Post:Exit->St->Option FA->Prop} {PostI:St->Option FA->Prop} {v:AV}
theorem z1p {d:Option Nat} {f:FuncId} {xs:List Opd} {vals:List Value} {res:RV} (hsp:SpV P f vals res) (hv:∀ (Z:Cz) (ys:List Value),AReps Z st (xs.map st.ev) ys->ys=vals) (hres:zgk ⟨f,[],res,none⟩ st (d.getD 0) []=some (v,st1)) (hsl:st1.sl=st.sl)
  (k:PostI (st1.put d v) none):MOp P N ⟨d,.call f xs,none⟩ st none PostI:=by
 intro ops j o K Z w a Q Kt hN hj hcc hs hA hK
 obtain ⟨h1,h2,h3,h4⟩:=zdx hcc
 obtain ⟨cc,h,hop,hf,hh,hops⟩:=zpg h1
 have hg:o.guard=none:=by
  cases hg:o.guard with
  | none=>rfl
  | some jb =>
   obtain ⟨j,b⟩:=jb
   rw [hg] at h2; simp only [zdy] at h2
   split at h2<;>cases h2
 have hw:Region.wanted o (yielded ops a.tmps)=true:=by simp [Region.wanted,hg]
 have hd:d=o.dst:=h3
 obtain ⟨hfn,hsp⟩:=hsp
 have hr:=zjz hops hs
 have hfr:=zal hh hs
 simp only [St.ev] at hfr
 have hfv:a.eval h=.func (.func f) #[] #[]:=by
  have hp:=hfr.inv_p
  generalize a.eval h=F at hp ⊢
  cases hp with
  | fn _ _ vals h=>cases h; rfl
 have hvs:cc.args.toList.map a.eval=vals:=hv Z _ (by simpa using hr)
 have hrun:(execOp a.eval o).run P w=.ok (.enter f vals.toArray) w:=by
  have:=ze3 (P:=P) (w:=w) (args:=(cc.args.toList.map a.eval).toArray) hfn
  simp only [execOp,hop,resolve,hf,hfv,Deferred.ofValue,Sem.run_bind,Sem.run_pure,Result.andThen_ok,invoke]
  have e : #[]++cc.args.map a.eval ++ #[]=(cc.args.toList.map a.eval).toArray:=by simp [<- Array.toList_map]
  rw [e,this,hvs]
 refine (show o.wp P a w Kt Q from ?_) |> fun h=>by unfold wpOp; simp only [hj,hw,if_true]; exact .inl h
 unfold Oper.wp
 rw [hrun,Oper.upon_enter]
 have hmx:∀ b o,Mx Z st w [] b=some o->Z.M b=some o:=fun b o hb=>by
  rcases zby hb with h|⟨_,_,s,g,ob,h,_⟩
  ·exact h
  ·cases h
 refine (hsp w (Mx Z st w []) (fun b o hb=>hs.heap.mem b o (hmx b o hb))).mono ?_
 rintro e w' ⟨x,M',rfl,p1,p2,p3,p4,p5⟩
 obtain ⟨Z',q1,q2,q3⟩:=zto (c:=⟨f,[],res,none⟩) (vs:=[]) hs.heap p1 p2 p3 p4 p5 hres
 refine hK _ _ Z' _ _ k ?_ trivial
 rw [hd]
 exact hs.put hsl q3 q1 q2 (by subst hN; exact h4) hs.defers
theorem Weak.trunc0 {t s sz:Nat} {es:List AV} (hp:s<PINB):Weak ⟨[(t,.own s 0 0 0)],[(s,[some ⟨sz,es⟩])]⟩ ⟨[(t,.own s 0 0 0)],[(s,[some ⟨sz,[]⟩])]⟩:=by
 intro K Z w a hs
 have hobj:∀ (es:List AV) s' g' o',(⟨[(t,.own s 0 0 0)],[(s,[some ⟨sz,es⟩])]⟩:St).obj s' g'=some o'->s'=s/\g'=0/\o'=⟨sz,es⟩:=by
  intro es s' g' o' h
  simp only [St.obj,St.site,look] at h
  split at h
  ·rename_i hs0
   cases g' with
   | zero=>simp at h; exact ⟨hs0.symm,rfl,h.symm⟩
   | succ g=>simp at h
  ·simp at h
 have h00:∀ es:List AV,(⟨[(t,.own s 0 0 0)],[(s,[some ⟨sz,es⟩])]⟩:St).obj s 0=some ⟨sz,es⟩:=fun es=>by simp [St.obj,St.site,look]
 have hO:=hs.heap.objs s 0 _ (h00 es)
 refine ⟨Z,⟨fun u=>?_,hs.defers,hs.size,⟨fun s' g' o' h=>?_,fun s1 g1 s2 g2 o1 o2 b h1 h2 _ _=>?_,hs.heap.mem,fun s' g' o' b h hb=>?_,fun s' g' o' b h hb=>?_,hs.heap.m0,hs.heap.prov,hs.heap.keep⟩⟩,⟨fun u a _=>?_,fun u g a _ hg _=>?_,fun u g o a _ ho=>?_⟩⟩
 case refine_6=>simp only [St.site,look]; split<;>simp
 case refine_7 =>
  simp only [St.site,look] at hg
  split at hg
  ·omega
  ·simp at hg
 case refine_8=>have:=(hobj _ _ _ _ ho).1; omega
 ·have hu:=hs.slots u
  simp only [St.get,look] at hu ⊢
  split at hu
  ·rename_i hut; simp only [hut,if_true]
   generalize a.tmps.getD u Go.undef=x at hu
   cases hu with
   | own0 _ _ o ho hb=>exact .own0 _ _ _ (h00 []) hb
   | own _ _ _ _ o b ad c ho hb h1 h2 h3 h4=>exact .own _ _ _ _ _ b ad c (h00 []) hb h1 (fun h=>absurd h (by omega)) (by simp) h4
   | ownD _ _ _ _ _ _ _ hd=>rw [h00] at hd; cases hd
  ·rename_i hut; simp only [hut,if_false]; exact .undef _
 ·obtain ⟨rfl,rfl,rfl⟩:=hobj _ _ _ _ h
  refine ⟨hO.pos,by simp,by simp,fun _=>rfl,fun b hb=>?_⟩
  obtain ⟨cur,T,vals,k1,k2,k3,k4,k5,k6⟩:=hO.blk b hb
  exact ⟨cur,T,[],k1,.nil,by simp,k4,by simp,k6⟩
 ·obtain ⟨rfl,rfl,_⟩:=hobj _ _ _ _ h1
  obtain ⟨rfl,rfl,_⟩:=hobj _ _ _ _ h2
  exact ⟨rfl,rfl⟩
 ·obtain ⟨rfl,rfl,rfl⟩:=hobj _ _ _ _ h; exact hs.heap.sep _ _ _ b (h00 es) hb
 ·obtain ⟨rfl,rfl,rfl⟩:=hobj _ _ _ _ h; exact hs.heap.own _ _ _ b (h00 es) hb
theorem SpV.of_vm {f:FuncId} {vals:List Value} {res:RV} {n np:Nat} {b:GC} {rs:List (Nat × Option Nat)} (hc:zac P f=some ⟨n,np,b.er,rs⟩) (hn:vals.length<=n)
  (hst:st.hp=[]) (hreps:∀ (M:Nat->Option Obj) (t:Nat),ARep ⟨M,fun _ _=>none,fun _ _=>0⟩ st (st.get t) ((vals.toArray++Array.replicate (n - vals.toArray.size) Go.undef).getD t Go.undef))
  (h:vm P n (fun ex s=>∃ s',Weak s s'/\retP rs res ex s') [.code b] st):SpV P f vals res:=by
 have hno:∀ s g,st.obj s g=none:=fun s g=>by simp [St.obj,St.site,hst,look]
 obtain ⟨ex,s,hrun,s',hw,hret⟩:=zde _ (Nat.le_refl _) h
 have hrun:=hrun.weakR hw
 have hr:(ex=.ret\/ex=.normal)/\∃ vs,zb6 s' rs=some vs/\ResOk s' (resOf vs) res:=by
  have key:(ex=.ret\/ex=.normal)/\∃ vs,zb6 s' rs=some vs/\resP s' (resOf vs) res:=by
   cases ex with
   | ret=>exact ⟨.inl rfl,hret⟩
   | normal=>exact ⟨.inr rfl,hret⟩
   | _=>exact hret.elim
  obtain ⟨k1,vs,r3,r4⟩:=key
  refine ⟨k1,vs,r3,?_⟩
  unfold resP at r4
  split at r4
  ·exact .pure _ _ r4
  ·split at r4
   ·rename_i sz es s' g off len hv
    obtain ⟨o,h1,rfl,h2,rfl,h4⟩:=r4
    rw [hv]
    exact .fresh _ _ _ _ _ h1 h2 h4
   ·rename_i hv; rw [hv,r4]; exact .nil _
   ·exact r4.elim
  ·exact r4.elim
 obtain ⟨hex,vs,hvs,hres⟩:=hr
 unfold zac at hc
 split at hc
 ·rename_i fn hf
  split at hc
  ·rename_i hname
   split at hc
   ·rename_i c hb
    split at hc
    ·rename_i bd rs' h1 h2
     simp only [Option.some.injEq,FnC.mk.injEq] at hc
     obtain ⟨rfl,_,rfl,rfl⟩:=hc
     refine ⟨⟨fn,hf,by rw [hb]; rfl,hname⟩,fun w M hM=>?_⟩
     refine calls_of_wp hf hb ?_
     refine hrun c h1 ⟨w,M,fun _=>False,fn.ntmps⟩ ⟨M,fun _ _=>none,fun _ _=>0⟩ w _ _ rfl ⟨hreps M,rfl,by simp; omega,⟨fun s g o ho=>(by rw [hno] at ho; cases ho),fun s g _ _ o _ b ho=>(by rw [hno] at ho; cases ho),hM,fun s g o b ho=>(by rw [hno] at ho; cases ho),fun s g o b ho=>(by rw [hno] at ho; cases ho),fun _ _ h=>h,fun _ _ h=>.inl h,Keep.refl w _⟩⟩ (fun Z' w' a' hs _=>?_)
     have hfin:a'.defers=[]/\∃ v,(results fn a'.tmps).run P w'=.ok v w'/\∃ x M',Ending.returned v=.returned x/\(∀ b o,M b=some o->M' b=some o)/\(∀ b o,M' b=some o->w'.heap[b]?=some o) /\
       (∀ b o,M' b=some o->M b=some o\/w.heap.size<=b)/\Keep w w' (fun _=>False)/\RRep M' w w' res x:=by
      obtain ⟨xs,e1,e2⟩:=zl3 hs h2 hvs
      obtain ⟨M',m1,m2,m3,m4,m5⟩:=zpz hs.heap e2.resOf hres
      refine ⟨hs.defers,_,?_,_,M',rfl,m1,m2,m3,m4,m5⟩
      unfold results
      rw [Array.mapM_eq_mapM_toList]
      simp only [Sem.run_bind,map_eq_pure_bind,Sem.run_pure]
      exact congrArg (fun r=>(Result.andThen r fun a w'=>Result.ok a.toArray w').andThen fun (a:Array Value) w'=>Result.ok (if h:a.size=1 then a[0] else Value.tuple a) w') e1
     rcases hex with rfl|rfl
     ·exact hfin
     ·exact hfin
    ·cases hc
   ·cases hc
  ·cases hc
 ·cases hc
end
end Go.Ab
namespace Go.Ab
open Enc (enc)
theorem z2c (v:Value) (x:AV) (n:Nat) (M:Nat->Option Obj) (st:St) (h0:st.get 0=.nil) (h1:st.get 1=x) (h2:∀ t,st.get (t+2)=.undef) (hx:ARep ⟨M,fun _ _=>none,fun _ _=>0⟩ st x v) (t:Nat) :
  ARep ⟨M,fun _ _=>none,fun _ _=>0⟩ st (st.get t) (([.slice none 0 0,v].toArray++Array.replicate n Go.undef).getD t Go.undef):=by
 match t with
 | 0 =>
  have e:([.slice none 0 0,v].toArray++Array.replicate n Go.undef).getD 0 Go.undef=.slice none 0 0:=by simp [Array.getElem?_append]
  rw [h0,e]; exact .nil
 | 1 =>
  have e:([.slice none 0 0,v].toArray++Array.replicate n Go.undef).getD 1 Go.undef=v:=by simp [Array.getElem?_append]
  rw [h1,e]; exact hx
 | t+2=>rw [h2]; exact .undef _
theorem z51 (k:Nat) (hk:k<=1073741824):SpV P F.ne [.slice none 0 0,.int .i64 k] (.fresh 6 []):=by
 refine SpV.of_vm (st:=⟨[(0,.nil),(1,.p (.int .i64 k))],[]⟩) c.ne (by simp) rfl (fun M t=>z2c _ _ _ M _ rfl rfl (fun t=>by simp [St.get,look]) (.p _ _ (.int _ _)) t) ?_
 simp [g.ne,go_sem]
 have e0:IntKind.i64.wrap (k:Int)=k:=i64w (by omega) (by omega)
 simp only [e0]
 refine ⟨fun h=>⟨⟨by omega,by omega,by omega⟩,by omega,⟨_,Weak.trunc0 (by decide),?_⟩⟩,fun h=>⟨_,Weak.refl _,?_⟩⟩
 ·simp [look]
 ·simp [look]
theorem zga {P:Program} {N:Nat} {st:St} {A:Option FA} {PostI:St->Option FA->Prop} (dead:List (List Nat)) {is:List Ins} (h:vm P N (fun ex s=>ex=.normal->PostI s A) [.ins is dead] st):MIns P N is st A PostI:=by
 obtain ⟨gs,s1,s2,r1,r2,r3⟩:=zde _ (Nat.le_refl _) h
 have h2:MIns P N (is++[]) st A PostI:=.run r1 ⟨s2,r2,r3 rfl⟩
 simpa using h2
theorem z26 (p q:List GMono) (hl:p.length+q.length<=1073741824):Sp P F.m8 [.sl (ens [p,q])] (.fresh 6 (ens (p++q))):=by
 refine Sp.of_mr c.m8 (by simp) ?_
 unfold g.m8
 have e0:IntKind.i64.wrap (0+(p.length:Int))=p.length:=by rw [i64w (by omega) (by omega)]; omega
 have e1:IntKind.i64.wrap ((p.length:Int)+q.length)=((p.length+q.length:Nat):Int):=i64w (by omega) (by omega)
 have e2:IntKind.i64.wrap (p.length:Int)=p.length:=i64w (by omega) (by omega)
 generalize hP:(fun ex s (_:Option FA)=>retP [(2,none)] (RV.fresh 6 (ens (p++q))) ex s)=Post
 refine MR.gseq ?_
 simp [go_sem]
 refine MR.gseq ?_
 simp [go_sem]
 refine MR.gseq ?_
 simp [go_sem]
 refine zgn fun R hn hr hx=>?_
 simp [g.oq,go_sem,e0,e1,e2]
 refine hn _ ?_
 refine zgn fun R hn hr hx=>?_
 simp [g.oq,go_sem,e0,e1,e2]
 refine ⟨by omega,fun _=>hn _ ?_⟩
 refine zgn fun R hn hr hx=>?_
 simp [g.oq,go_sem,e0,e1,e2]
 refine hx _ _ ?_
 simp [go_sem]
 refine MR.gseq' (MR.greg (zqf 1 [[3,9,10,11]] ?_))
 simp [go_sem]
 refine MIns.cons (z1p (v:=.own 24 0 0 0) (z51 _ hl) (fun Z ys h=>?_) rfl rfl ?_)
 ·cases h with
  | cons _ _ _ _ h1 h =>
   cases h with
   | cons _ _ _ _ h2 h =>
    cases h
    cases h1
    cases h2.inv_p
    simp
 refine zga [[24]] ?_
 simp [go_sem]
 clear hn hr hx
 subst hP
 refine MR.of_vm ?_
 simp [go_sem]
 refine zgn fun R hn hr hx=>?_
 simp [g.ot,go_sem]
 refine ⟨by omega,hn _ ?_⟩
 refine zgn fun R hn hr hx=>?_
 simp [g.ot,go_sem]
 refine ⟨by omega,hn _ ?_⟩
 refine zgn fun R hn hr hx=>?_
 simp [g.ot,go_sem]
 refine hx _ _ ?_
 simp [go_sem]
end Go.Ab
