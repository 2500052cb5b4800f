/- Lemmas for the law AmbiguityOfDeterministic, part 23. No conditions. -/
import Derived.Test.YtcemegnnejaahaaGreatDoorAP22
set_option maxRecDepth 100000
set_option maxHeartbeats 4000000
set_option linter.all false
namespace Go.Ab
open Enc (enc)
def SpV(P:Program)(f:FuncId)(vals:List Value)(res:RV):Prop :=
 (∃ fn,P.funcs[f]?=some fn/\fn.body.isSome=true/\fn.name ≠ "runtime.NumGoroutine") /\
 ∀ (w:World) (M:Nat->Option Obj),(∀ b o,M b=some o->w.heap[b]?=some o) ->
  Calls P f vals.toArray w fun e w'=>∃ x M',e=.returned x/\(∀ b o,M b=some o->M' b=some o)/\(∀ b o,M' b=some o->w'.heap[b]?=some o) /\
   (∀ b o,M' b=some o->M b=some o\/w.heap.size<=b)/\Keep w w' (fun _=>False)/\RRep M' w w' res x
section
variable {P:Program} {K:Ctx} {Z Z':Cz} {st st' st1:St} {w w':World} {a:Act} {N:Nat} {A B:Option FA} {Post:Exit->St->Option FA->Prop} {PostI:St->Option FA->Prop} {v:AV}
theorem z3l{d:Option Nat}{f:FuncId}{xs:List Opd}{vals:List Value}{res:RV}(hsp:SpV P f vals res)(hv:∀ (Z:Cz) (ys:List Value),AReps Z st (xs.map st.ev) ys->ys=vals)(hres:zfc ⟨f,[],res,none⟩ st (d.getD 0) []=some (v,st1))(hsl:st1.sl=st.sl)
  (k:PostI (st1.put d v) none):MOp P N ⟨d,.call f xs,none⟩ st none PostI:=by
 intro ops j o K Z w a Q Kt hN hj hcc hs hA hK;obtain⟨h1,h2,h3,h4⟩:=zdz hcc;obtain⟨cc,h,hop,hf,hh,hops⟩:=zph h1;have hg:o.guard=none:=by
  cases hg:o.guard with
  | none=>rfl
  | some jb =>
   obtain⟨j,b⟩:=jb;rw[hg]at h2;simp only[zd0]at h2;split at h2<;>cases h2
 have hw:Region.wanted o (yielded ops a.tmps)=true:=by simp[Region.wanted,hg]
 have hd:d=o.dst:=h3;obtain⟨hfn,hsp⟩:=hsp;have hr:=zjx hops hs;have hfr:=zap hh hs;simp only[St.ev]at hfr;have hfv:a.eval h=.func (.func f) #[] #[]:=by
  have hp:=hfr.inv_p;generalize a.eval h=F at hp ⊢;cases hp with
  | fn _ _ vals h=>cases h;rfl
 have hvs:cc.args.toList.map a.eval=vals:=hv Z _ (by simpa using hr);have hrun:(execOp a.eval o).run P w=.ok (.enter f vals.toArray) w:=by
  have:=ze2 (P:=P) (w:=w) (args:=(cc.args.toList.map a.eval).toArray) hfn;simp only[execOp,hop,resolve,hf,hfv,Deferred.ofValue,ymw,yn2,yn8,invoke];have e : #[]++cc.args.map a.eval ++ #[]=(cc.args.toList.map a.eval).toArray:=by simp[<- Array.toList_map]
  rw[e,this,hvs]
 refine(show o.wp P a w Kt Q from ?_) |> fun h=>by unfold wpOp;simp only[hj,hw,ym2];exact .inl h
 unfold Oper.wp;rw[hrun,yq0];have hmx:∀ b o,Mx Z st w [] b=some o->Z.M b=some o:=fun b o hb=>by
  rcases zbz hb with h|⟨_,_,s,g,ob,h,_⟩
  ·exact h
  ·cases h
 refine(hsp w (Mx Z st w []) (fun b o hb=>hs.heap.mem b o (hmx b o hb))).mono ?_;rintro e w' ⟨x,M',rfl,p1,p2,p3,p4,p5⟩;obtain⟨Z',q1,q2,q3⟩:=zto (c:=⟨f,[],res,none⟩) (vs:=[]) hs.heap p1 p2 p3 p4 p5 hres;refine hK _ _ Z' _ _ k ?_ trivial;rw[hd];exact hs.put hsl q3 q1 q2 (by subst hN;exact h4) hs.defers
theorem Weak.trunc0{t s sz:Nat}{es:List AV}(hp:s<PINB):Weak ⟨[(t,.own s 0 0 0)],[(s,[some ⟨sz,es⟩])]⟩ ⟨[(t,.own s 0 0 0)],[(s,[some ⟨sz,[]⟩])]⟩:=by
 intro K Z w a hs;have hobj:∀ (es:List AV) s' g' o',(⟨[(t,.own s 0 0 0)],[(s,[some ⟨sz,es⟩])]⟩:St).obj s' g'=some o'->s'=s/\g'=0/\o'=⟨sz,es⟩:=by
  intro es s' g' o' h;simp only[St.obj,St.site,look]at h;split at h
  ·rename_i hs0;cases g' with
   | zero=>simp at h;exact⟨hs0.symm,rfl,h.symm⟩
   | succ g=>simp at h
  ·simp at h
 have h00:∀ es:List AV,(⟨[(t,.own s 0 0 0)],[(s,[some ⟨sz,es⟩])]⟩:St).obj s 0=some ⟨sz,es⟩:=fun es=>by simp[St.obj,St.site,look]
 have hO:=hs.heap.objs s 0 _ (h00 es);refine⟨Z,⟨fun u=>?_,hs.defers,hs.size,⟨fun s' g' o' h=>?_,fun s1 g1 s2 g2 o1 o2 b h1 h2 _ _=>?_,hs.heap.mem,fun s' g' o' b h hb=>?_,fun s' g' o' b h hb=>?_,hs.heap.m0,hs.heap.prov,hs.heap.keep⟩⟩,⟨fun u a _=>?_,fun u g a _ hg _=>?_,fun u g o a _ ho=>?_⟩⟩
 case refine_6=>simp only[St.site,look];split<;>simp
 case refine_7 =>
  simp only[St.site,look]at hg;split at hg
  ·omega
  ·simp at hg
 case refine_8=>have:=(hobj _ _ _ _ ho).1;omega
 ·have hu:=hs.slots u;simp only[St.get,look]at hu ⊢;split at hu
  ·rename_i hut;simp only[hut,ym2];generalize a.tmps.getD u Go.undef=x at hu;cases hu with
   | own0 _ _ o ho hb=>exact .own0 _ _ _ (h00 []) hb
   | own _ _ _ _ o b ad c ho hb h1 h2 h3 h4=>exact .own _ _ _ _ _ b ad c (h00 []) hb h1 (fun h=>absurd h (by omega)) (by simp) h4
   | ownD _ _ _ _ _ _ _ hd=>rw[h00]at hd;cases hd
  ·rename_i hut;simp only[hut,ymb];exact .undef _
 ·obtain⟨rfl,rfl,rfl⟩:=hobj _ _ _ _ h;refine⟨hO.pos,by simp,by simp,fun _=>rfl,fun b hb=>?_⟩;obtain⟨cur,T,vals,k1,k2,k3,k4,k5,k6⟩:=hO.blk b hb;exact⟨cur,T,[],k1,.nil,by simp,k4,by simp,k6⟩
 ·obtain⟨rfl,rfl,_⟩:=hobj _ _ _ _ h1;obtain⟨rfl,rfl,_⟩:=hobj _ _ _ _ h2;exact⟨rfl,rfl⟩
 ·obtain⟨rfl,rfl,rfl⟩:=hobj _ _ _ _ h;exact hs.heap.sep _ _ _ b (h00 es) hb
 ·obtain⟨rfl,rfl,rfl⟩:=hobj _ _ _ _ h;exact hs.heap.own _ _ _ b (h00 es) hb
theorem SpV.of_vm{f:FuncId}{vals:List Value}{res:RV}{n np:Nat}{b:GC}{rs:List (Nat × Option Nat)}(hc:zac P f=some ⟨n,np,b.er,rs⟩)(hn:vals.length<=n)
  (hst:st.hp=[]) (hreps:∀ (M:Nat->Option Obj) (t:Nat),ARep ⟨M,fun _ _=>none,fun _ _=>0⟩ st (st.get t) ((vals.toArray++Array.replicate (n - vals.toArray.size) Go.undef).getD t Go.undef))
  (h:vm P n (fun ex s=>∃ s',Weak s s'/\retP rs res ex s') [.code b] st):SpV P f vals res:=by
 have hno:∀ s g,st.obj s g=none:=fun s g=>by simp[St.obj,St.site,hst,look]
 obtain⟨ex,s,hrun,s',hw,hret⟩:=zcy _ (ym9 _) h;have hrun:=hrun.weakR hw;have hr:(ex=.ret\/ex=.normal)/\∃ vs,zbd s' rs=some vs/\ResOk s' (resOf vs) res:=by
  have key:(ex=.ret\/ex=.normal)/\∃ vs,zbd s' rs=some vs/\resP s' (resOf vs) res:=by
   cases ex with
   | ret=>exact⟨.inl rfl,hret⟩
   | normal=>exact⟨.inr rfl,hret⟩
   | _=>exact hret.elim
  obtain⟨k1,vs,r3,r4⟩:=key;refine⟨k1,vs,r3,?_⟩;unfold resP at r4;split at r4
  ·exact .pure _ _ r4
  ·split at r4
   ·rename_i sz es s' g off len hv;obtain⟨o,h1,rfl,h2,rfl,h4⟩:=r4;rw[hv];exact .fresh _ _ _ _ _ h1 h2 h4
   ·rename_i hv;rw[hv,r4];exact .nil _
   ·exact r4.elim
  ·exact r4.elim
 obtain⟨hex,vs,hvs,hres⟩:=hr;unfold zac at hc;split at hc
 ·rename_i fn hf;split at hc
  ·rename_i hname;split at hc
   ·rename_i c hb;split at hc
    ·rename_i bd rs' h1 h2;simp only[ym1,FnC.mk.injEq]at hc;obtain⟨rfl,_,rfl,rfl⟩:=hc;refine⟨⟨fn,hf,by rw[hb];rfl,hname⟩,fun w M hM=>?_⟩;refine calls_of_wp hf hb ?_;refine hrun _ h1 ⟨w,M,fun _=>False,fn.ntmps⟩ ⟨M,fun _ _=>none,fun _ _=>0⟩ w _ _ rfl ⟨hreps M,rfl,by simp;omega,⟨fun s g o ho=>(by rw[hno]at ho;cases ho),fun s g _ _ o _ b ho=>(by rw[hno]at ho;cases ho),hM,fun s g o b ho=>(by rw[hno]at ho;cases ho),fun s g o b ho=>(by rw[hno]at ho;cases ho),fun _ _ h=>h,fun _ _ h=>.inl h,Keep.refl w _⟩⟩ (fun Z' w' a' hs _=>?_)
     have hfin:a'.defers=[]/\∃ v,(results fn a'.tmps).run P w'=.ok v w'/\∃ x M',Ending.returned v=.returned x/\(∀ b o,M b=some o->M' b=some o)/\(∀ b o,M' b=some o->w'.heap[b]?=some o) /\
       (∀ b o,M' b=some o->M b=some o\/w.heap.size<=b)/\Keep w w' (fun _=>False)/\RRep M' w w' res x:=by
      obtain⟨xs,e1,e2⟩:=zjt hs h2 hvs;obtain⟨M',m1,m2,m3,m4,m5⟩:=zp5 hs.heap e2.resOf hres;refine⟨hs.defers,_,?_,_,M',rfl,m1,m2,m3,m4,m5⟩;unfold results;rw[ypm];simp only[ymw,map_eq_pure_bind,yn2];exact congrArg (fun r=>(Result.andThen r fun a w'=>Result.ok a.toArray w').andThen fun(a:Array Value) w'=>Result.ok (if h:a.size=1 then a[0]else Value.tuple a) w') e1
     rcases hex with rfl|rfl
     ·exact hfin
     ·exact hfin
    ·cases hc
   ·cases hc
  ·cases hc
 ·cases hc
end
section
variable {P:Program} {K:Ctx} {Z Z':Cz} {st st':St} {w w':World} {a:Act}
theorem HRep.same2(h:HRep K Z st w){s g:Nat}{o:AObj}(ho:st.obj s g=some o){es:List AV}(hl:es.length=o.es.length)(h2:∀ e∈es,e.sz=o.sz)(h3:∀ c∈es.flatMap AV.cells,c.one=true)
  (h4:∀ b,Z.B s g=some b->∃ (cur:Array Value) (T:TypeId) (vals:List Value),w.heap[b]?=some (.cells cur T (0,0))/\AReps Z st (es.flatMap AV.cells) vals /\
   (∀ (i:Nat) (v:Value),vals[i]?=some v->cur[i]?=some v)/\cur.size=Z.cap s g*o.sz/\o.es.length<=Z.cap s g/\Z.cap s g<=maxLen):HRep K Z (st.setObj s g ⟨o.sz,es⟩) w:=by
 have hg:=zb1 ho;have hz:=ZLe.setObj Z st s g o ⟨o.sz,es⟩ ho rfl hl;have old:∀ {s' g':Nat} {o':AObj},(st.setObj s g ⟨o.sz,es⟩).obj s' g'=some o'->∃ o0,st.obj s' g'=some o0:=by
  intro s' g' o' ho';rw[zba _ _ _ _ _ _ hg]at ho';split at ho'
  ·rename_i hc;obtain⟨rfl,rfl⟩:=hc;exact⟨o,ho⟩
  ·exact⟨o',ho'⟩
 refine⟨fun s' g' o' ho'=>?_,fun s' g' s'' g'' o' o'' b a1 a2 b1 b2=>?_,h.mem,fun s' g' o' b a1 b1=>?_,fun s' g' o' b a1 b1=>?_,h.m0,h.prov,h.keep⟩
 ·rw[zba _ _ _ _ _ _ hg]at ho';split at ho'
  ·rename_i hc;obtain⟨rfl,rfl⟩:=hc;cases ho';obtain⟨k1,k2,k3,k4,k5⟩:=h.objs s' g' o ho;refine⟨k1,h2,h3,fun hb=>List.eq_nil_of_length_eq_zero (by rw[hl,k4 hb];rfl),fun b hb=>?_⟩;obtain⟨cur,T,vals,e1,e2,e3,e4,e5,e6⟩:=h4 b hb;exact⟨cur,T,vals,e1,AReps.mono hz e2,e3,e4,by simpa[hl]using e5,e6⟩
  ·exact(h.objs s' g' o' ho').later hz rfl rfl (fun _ _=>rfl)
 ·obtain⟨o1,c1⟩:=old a1;obtain⟨o2,c2⟩:=old a2;exact h.inj _ _ _ _ _ _ b c1 c2 b1 b2
 ·obtain⟨o1,c1⟩:=old a1;exact h.sep _ _ _ b c1 b1
 ·obtain⟨o1,c1⟩:=old a1;exact h.own _ _ _ b c1 b1
theorem zh4:∀ (ids:List (Nat × Nat)) {st:St} {s g:Nat} {o:AObj},st.obj s g=some o->(s,g)∉ids->(killAll st ids).obj s g=some o
 | [],_,_,_,_,h,_=>h
 | (s',g')::r,st,s,g,o,h,hn=>by simp only[ym3,ym4,not_or]at hn;rw[zew];refine zh4 r ?_ hn.2;rw[zeu,yl9 hn.1];exact h
end
section
variable {P:Program} {K:Ctx} {Z Z':Cz} {st st':St} {w w':World} {a:Act}
def zel:List AV->List AV->Prop
 | [],[]=>True
 | x::l,y::r=>(x=y\/(x=.p .any/\y.one=true))/\zel l r
 | _,_=>False
theorem zel.reps:∀ {l r:List AV} {vals:List Value},zel l r->AReps Z st r vals->AReps Z st l vals
 | [],[],_,_,h=>h
 | [],_::_,_,h,_=>h.elim
 | _::_,[],_,h,_=>h.elim
 | x::l,y::r,_,h,.cons _ v _ vs h1 h2=>by
  refine .cons _ _ _ _ ?_ (zel.reps h.2 h2);rcases h.1 with rfl|⟨rfl,ho⟩
  ·exact h1
  ·exact .p _ _ (.any _ (ARep.one_val h1 ho))
theorem zel.one:∀ {l r:List AV},zel l r->(∀ c∈r,c.one=true)->∀ c∈l,c.one=true
 | [],[],_,_,c,hc=>by cases hc
 | [],_::_,h,_,_,_=>h.elim
 | _::_,[],h,_,_,_=>h.elim
 | x::l,y::r,h,hr,c,hc=>by
  rcases ym3.1 hc with rfl|hc
  ·rcases h.1 with rfl|⟨rfl,_⟩
   ·exact hr _ yne
   ·rfl
  ·exact zel.one h.2 (fun c hc=>hr c (ymr _ hc)) c hc
theorem Weak.anyCells{s g:Nat}{o:AObj}(es:List AV)(ho:st.obj s g=some o)(hl:es.length=o.es.length)(h2:∀ e∈es,e.sz=o.sz)(hc:zel (es.flatMap AV.cells) (o.es.flatMap AV.cells)):Weak st (st.setObj s g ⟨o.sz,es⟩):=by
 intro K Z w a hs;have hO:=hs.heap.objs s g o ho;have hz:=ZLe.setObj Z st s g o ⟨o.sz,es⟩ ho rfl hl;have hss:=hs.heap.same2 ho hl h2 (hc.one hO.one) (fun b hb=>by
  obtain⟨cur,T,vals,e1,e2,e3,e4,e5,e6⟩:=hO.blk b hb;exact⟨cur,T,vals,e1,hc.reps e2,e3,e4,e5,e6⟩)
 refine⟨Z,⟨fun u=>?_,hs.defers,hs.size,hss⟩,.of_zle hz⟩;rw[show(st.setObj s g ⟨o.sz,es⟩).get u=st.get u from rfl];exact ARep.mono hz (hs.slots u)
end
def endW(rs:List (Nat × Option Nat))(res:RV)(ex:Exit)(s:St):Prop:=∃ s1,Weak s s1/\retP rs res ex s1
theorem Sp.of_vmE{P:Program}{f:FuncId}{args:List PV}{res:RV}{n np:Nat}{b:GC}{rs:List (Nat × Option Nat)}(hc:zac P f=some ⟨n,np,b.er,rs⟩)(hn:args.length<=n)(h:vm P n (endW rs res) [.code b] (zey args)):Sp P f args res:=by
 obtain⟨ex,s0,r1,s,hw,r2⟩:=zcy _ (ym9 _) h;have key:(ex=.ret\/ex=.normal)/\∃ vs,zbd s rs=some vs/\resP s (resOf vs) res:=by
  cases ex with
  | ret=>exact⟨.inl rfl,r2⟩
  | normal=>exact⟨.inr rfl,r2⟩
  | _=>exact r2.elim
 obtain⟨k1,vs,r3,r4⟩:=key;refine Sp.of_runs hc hn (Runs.weakR r1 hw) k1 r3 ?_;unfold resP at r4;split at r4
 ·exact .pure _ _ r4
 ·split at r4
  ·rename_i sz es s' g off len hv;obtain⟨o,h1,rfl,h2,rfl,h4⟩:=r4;rw[hv];exact .fresh _ _ _ _ _ h1 h2 h4
  ·rename_i hv;rw[hv,r4];exact .nil _
  ·exact r4.elim
 ·exact r4.elim
end Go.Ab
namespace Go.Ab
open Enc (enc)
attribute [local simp] zaj Opd.slots
def ratA:PV:=.agg [.fn F.ft [],.fn F.bi [],.fn F.jt [],.fn F.fu [],.fn F.oz [],.fn F.rv [],.fn F.ow [],.fn F.pe [],.fn F.rx []]
def polA:PV:=.agg [.fn F.f9 [],.fn F.ge [],.fn F.ql [],.fn F.gh [],.fn F.qn [],.fn F.sb [],.fn F.ow [],.fn F.sc [],.fn F.sd []]
def fraB(x:PV):PV:=.agg [.fn F.dq [],.fn F.bi [],.fn F.jt [],.fn F.fy [x],.fn F.oz [],.fn F.n9 [.ref (.fn F.jt [])],.fn F.fx [],.fn F.pe [],.fn F.rz [x]]
def cosB(x:PV):PV:=.agg [.fn F.dh [],.fn F.di [],.fn F.ox [],.fn F.dj [],.fn F.pf [],.fn F.n9 [.ref (.fn F.ox [])],.fn F.dm [],.fn F.qj [],.fn F.ry [x]]
def setB(x:PV):PV:=.agg [.fn F.dr [],.fn F.dt [],.fn F.oy [],.fn F.du [],.fn F.pg [],.fn F.n9 [.ref (.fn F.oy [])],.fn F.ow [],.fn F.qk [],.fn F.sa [x]]
def fraZ:PV:=.agg [.fn F.dq [],.fn F.bi [],.fn F.jt [],.any,.fn F.oz [],.fn F.n9 [.ref (.fn F.jt [])],.fn F.fx [],.fn F.pe [],.any]
def cosZ:PV:=.agg [.fn F.dh [],.fn F.di [],.fn F.ox [],.fn F.dj [],.fn F.pf [],.fn F.n9 [.ref (.fn F.ox [])],.fn F.dm [],.fn F.qj [],.any]
def setZ:PV:=.agg [.fn F.dr [],.fn F.dt [],.fn F.oy [],.fn F.du [],.fn F.pg [],.fn F.n9 [.ref (.fn F.oy [])],.fn F.ow [],.fn F.qk [],.any]
def fraA:PV:=fraB (.ref fraZ)
def cosA:PV:=cosB (.ref cosZ)
def setA:PV:=setB (.ref setZ)
theorem zgz:Sp P F.fm [] (.pure ratA):=by refine Sp.vz c.fm fun _=>?_;simp[g.fm,ratA]
theorem zny:Sp P F.nh [] (.pure polA):=by refine Sp.vz c.nh fun _=>?_;simp[g.nh,polA]
theorem ztz(f:FuncId):Sp P F.fv [.fn f []] (.pure (.fn F.n9 [.ref (.fn f [])])):=by refine Sp.vz c.fv fun _=>?_;simp[g.fv,toPV]
theorem zs4:Sp P F.ne [] (.pure fraA):=by
 refine Sp.of_vmE c.ne (by simp) ?_;simp[g.ne];refine zaa zgz rfl ?_;simp[ratA];refine zaa (ztz F.jt) rfl ?_;simp;refine⟨_,Weak.anyCells (s:=1) (g:=0) [.p fraZ] rfl rfl (by simp[fraZ]) ?_,?_⟩
 ·simp[fraZ,zel,AV.cells]<;>decide
 simp[toPV,retP,resP,zbd,zkh,resOf,fraA,fraB,St.setObj]
theorem z9a:Sp P F.nd [] (.pure cosA):=by
 refine Sp.of_vmE c.nd (by simp) ?_;simp[g.nd];refine zaa (ztz F.ox) rfl ?_;simp;refine⟨_,Weak.anyCells (s:=1) (g:=0) [.p cosZ] rfl rfl (by simp[cosZ]) ?_,?_⟩
 ·simp[cosZ,zel,AV.cells]<;>decide
 simp[toPV,retP,resP,zbd,zkh,resOf,cosA,cosB,St.setObj]
theorem yb1:Sp P F.ng [] (.pure setA):=by
 refine Sp.of_vmE c.ng (by simp) ?_;simp[g.ng];refine zaa (ztz F.oy) rfl ?_;simp;refine⟨_,Weak.anyCells (s:=1) (g:=0) [.p setZ] rfl rfl (by simp[setZ]) ?_,?_⟩
 ·simp[setZ,zel,AV.cells]<;>decide
 simp[toPV,retP,resP,zbd,zkh,resOf,setA,setB,St.setObj]
def zn1(k:Int):PV:=if k=1 then ratA else if k=2 then cosA else if k=3 then fraA else if k=4 then setA else polA
theorem zm2(k:Int)(hk:1<=k/\k<=5):Sp P F.af [.int .i64 k] (.pure (zn1 k)):=by
 have:k=1\/k=2\/k=3\/k=4\/k=5:=by omega
 rcases this with rfl|rfl|rfl|rfl|rfl
 ·refine Sp.vz c.af fun _=>?_;simp[g.af];refine zaa zgz rfl ?_;simp[zn1,ratA]
 ·refine Sp.vz c.af fun _=>?_;simp[g.af];refine zaa z9a rfl ?_;simp[zn1,cosA,cosB]
 ·refine Sp.vz c.af fun _=>?_;simp[g.af];refine zaa zs4 rfl ?_;simp[zn1,fraA,fraB]
 ·refine Sp.vz c.af fun _=>?_;simp[g.af];refine zaa yb1 rfl ?_;simp[zn1,setA,setB]
 ·refine Sp.vz c.af fun _=>?_;simp[g.af];refine zaa zny rfl ?_;simp[zn1,polA]
theorem zr1(k:Int):Sp P F.jn [.int .i64 k] (.pure (.bool (decide (1<=k/\k<=5)))):=by refine Sp.vz c.jn fun _=>?_;simp[g.jn];refine⟨fun h=>by simp[h],fun h=>by simp[show ¬ 1<=k by omega]⟩
theorem zyu(k:Int):Sp P F.jo [.int .i64 k] (.pure (.bool (!decide (1<=k/\k<=5)))):=by refine Sp.vz c.jo fun _=>?_;simp[g.jo];refine zaa (zr1 k) rfl ?_;simp
theorem zgl(r:GRing):Sp P F.de [enc r] (.pure (.bool r.ok)):=by
 refine Sp.vz c.de fun hok=>?_;simp[g.de];refine⟨fun h6=>⟨fun h2=>⟨fun h3=>?_,fun h3=>?_⟩,fun h2=>?_⟩,fun h6=>?_⟩
 ·refine zaa (yds r.parts F.jo [] (fun k => !decide (1<=k/\k<=5)) (by omega) fun k _=>zyu k) rfl ?_;have:r.ok = !(r.parts.any fun k => !decide (1<=k/\k<=5)):=by
   rw[yoh];simp only[GRing.ok,ym0 h6,decide_eq_true_eq,yr1,List.any_eq_false];constructor
   ·intro h x hx;have:=h.2.2 x hx;simp[this]
   ·intro h;exact⟨by omega,by omega,fun k hk=>by have:=h k hk;simpa using this⟩
  simp[this]
 ·simp[GRing.ok,h6];intro h;omega
 ·simp[GRing.ok,h6];intro h;omega
 ·refine zaa (zr1 r.kind) rfl ?_;by_cases hk:1<=r.kind/\r.kind<=5
  ·simp[hk,GRing.ok,h6]
  ·have:r.ok=false:=by simp only[GRing.ok,yl9 h6,decide_eq_false_iff_not];omega
   simp[hk,this]
theorem zsy(w:GW)(q:GRat)(c:Int)(i:Bool)(s:UInt64)(p:List GMono)(ps:List GW):w=.mk q c i s p ps ↔ w.q=q/\w.cost=c/\w.inf=i/\w.set=s/\w.poly=p/\w.parts=ps:=by cases w;simp[GW.q,GW.cost,GW.inf,GW.set,GW.poly,GW.parts]
theorem zwq(w:GW)(hw:w.sm 1048576):Sp P F.ft [enc w] (.pure (.bool (decide (w.si 1)))):=by
 refine Sp.vz c.ft fun _=>?_;simp[g.ft];refine zaa (zl7 w.q (hw.q.mono (by omega))) rfl ?_;rcases yms w.q.valid with hv|hv
 ·simp[hv];refine zab (zdx w hw (.mk w.q 0 false 0 [] [])) ?_;simp;rw[si1,zsy];simp[hv];exact⟨fun⟨a,b,c,d,e⟩=>⟨e,b,a,c,d⟩,fun⟨e,b,a,c,d⟩=>⟨a,b,c,d,e⟩⟩
 ·have:¬ w.si 1:=fun h=>by have:=(si1.1 h).2.2.2.2.2;rw[hv]at this;cases this
  simp[hv,this]
theorem z7i(w:GW)(hw:w.sm 1048576):Sp P F.f9 [enc w] (.pure (.bool (decide (w.si 5)))):=by
 refine Sp.vz c.f9 fun _=>?_;simp[g.f9];refine zaa (zse w.poly hw.poly (by have:=hw.len;omega)) rfl ?_;by_cases hv:PVal w.poly
 ·simp[hv];refine zab (zdx w hw (.mk gr0 0 false 0 w.poly [])) ?_;simp;rw[si5,zsy];simp[hv];exact⟨fun⟨a,b,c,d,e⟩=>⟨e,a,c,b,d⟩,fun⟨e,a,c,b,d⟩=>⟨a,b,c,d,e⟩⟩
 ·have:¬ w.si 5:=fun h=>hv (si5.1 h).2.2.2.2.2;simp[hv,this]
theorem z6x(w:GW)(hw:w.sm 1048576):Sp P F.dr [enc w] (.pure (.bool (decide (w.si 4)))):=by refine Sp.vz c.dr fun _=>?_;simp[g.dr];refine zab (zdx w hw (.mk gr0 0 false w.set [] [])) ?_;simp;rw[si4,zsy];simp;exact⟨fun⟨a,b,c,d,e⟩=>⟨e,a,c,b,d⟩,fun⟨e,a,c,b,d⟩=>⟨a,b,c,d,e⟩⟩
theorem z9d(w:GW)(hw:w.sm 1048576):Sp P F.dh [enc w] (.pure (.bool (decide (w.si 2)))):=by
 refine Sp.vz c.dh fun _=>?_;simp[g.dh];have no:¬ (0<=w.cost/\w.cost<=1099511627776/\(w.inf=true->w.cost=0))->¬ w.si 2:=fun h h2=>h (si2.1 h2).2.2.2.2;refine⟨fun h1=>⟨fun h2=>?_,fun h2=>?_⟩,fun h1=>?_⟩
 ·rcases yms w.inf with hi|hi
  ·simp[hi];refine⟨fun h3=>?_,fun h3=>no (fun h=>h3 (h.2.2 hi))⟩;refine zaa (zdx w hw (.mk gr0 w.cost true 0 [] [])) (by simp[hi]) ?_;simp;rw[si2,zsy];simp[hi,h3];exact⟨fun⟨a,b,c,d⟩=>⟨d,a,b,c⟩,fun⟨d,a,b,c⟩=>⟨a,b,c,d⟩⟩
  ·simp[hi];refine zaa (zdx w hw (.mk gr0 w.cost false 0 [] [])) (by simp[hi]) ?_;simp;rw[si2,zsy];simp[hi,h1,h2];exact⟨fun⟨a,b,c,d⟩=>⟨d,a,b,c⟩,fun⟨d,a,b,c⟩=>⟨a,b,c,d⟩⟩
 ·exact no (by omega)
 ·exact no (by omega)
theorem yb3:Sp P F.ct [.int .i64 1,.int .i64 1] (.pure (.tup [enc (rto 1),.int .i64 0])):=by have h:=zwo 1 1 (by omega) (by omega);have hd:Rat.divInt 1 1=1:=rfl;simp[hd]at h;exact h
theorem zy9:Sp P F.nt [.int .i64 1] (.pure (enc (.mk (rto 1) 0 false 0 [] []:GW))):=by refine Sp.vz c.nt fun _=>?_;simp[g.nt];refine zaa yb3 rfl ?_;simp
theorem ygk{x y:Rat}:x<y ↔ (x - y).num<0:=by
 rw[Rat.lt_iff_sub_pos];have:(x - y) = -(y - x):=by rw[Rat.neg_sub]
 rw[this,Rat.neg_num];have h1:0<=y - x ↔ 0<=(y - x).num:=Rat.num_nonneg.symm;have h2:(y - x)=0 ↔ (y - x).num=0:=Rat.num_eq_zero.symm;rw[Rat.lt_iff_le_and_ne,h1,ne_comm,Ne,h2];omega
theorem z7u(x y:Rat):(x - y).num = -(y - x).num:=by
 have:(x - y) = -(y - x):=by rw[Rat.neg_sub]
 rw[this,Rat.neg_num]
theorem z1v{x y:Rat}:0<sgnR (x - y) ↔ y<x:=by rw[ygk];have:=z7u x y;unfold sgnR;(repeat' split)<;>omega
theorem yfy{x y:Rat}:sgnR (x - y)<=0 ↔ x<=y:=by rw[<- Rat.not_lt,<- z1v];omega
theorem z8n(w:GW)(hw:w.sm 1048576):Sp P F.dq [enc w] (.pure (.bool (decide (w.si 3)))):=by
 refine Sp.vz c.dq fun _=>?_;simp[g.dq];refine zaa zgz rfl ?_;simp[ratA];refine zab (zwq w hw) ?_;have i3:w.si 3 ↔ w.si 1/\0<=w.q.v/\w.q.v<=1:=by rw[si3,si1];exact⟨fun⟨a,b,c,d,e,f,g,h⟩=>⟨⟨a,b,c,d,e,f⟩,g,h⟩,fun⟨⟨a,b,c,d,e,f⟩,g,h⟩=>⟨a,b,c,d,e,f,g,h⟩⟩
 by_cases h1:w.si 1
 ·simp[h1];refine zaa (zld w.q (hw.q.mono (by omega))) rfl ?_;simp;refine⟨fun h2=>?_,fun h2=>?_⟩
  ·refine zaa zy9 rfl ?_;simp;refine zaa (zmc w.q (rto 1) hw.q (z15.mono (by omega))) rfl ?_;simp;rw[zgm];have a1:=zfy.1 h2;rw[yfy,i3];simp[h1,a1]
  ·have:¬ 0<=w.q.v:=fun h=>by have:=zfy.2 h;omega
   simp[i3,this]
 ·simp[i3,h1]
def zdc(k:Int):GW:=.mk gr0 0 (decide (k=2)) 0 [] []
def GRing.zero(r:GRing):GW:=if r.ok then .mk gr0 0 (decide (r.kind=2)) 0 [] (r.parts.map zdc)else gw0
theorem ya4(r:GRing)(h:r.parts=[]):Sp P F.au [enc r] (.pure (enc r.zero)):=by
 refine Sp.vz c.au fun _=>?_;simp[g.au];refine zaa (zch r) rfl ?_;rcases yms r.ok with hr0|hr0;rotate_left
 ·simp[hr0,GRing.zero,gw0]
 simp[hr0];refine zaw fun R hn hr hx=>?_;simp[g.qw,h];refine hx _ _ ?_;simp[hr0,GRing.zero,h]
theorem zk4(r:GRing):Sp P F.au [enc r] (.pure (enc r.zero)):=by
 refine Sp.vz c.au fun _=>?_;simp[g.au];refine zaa (zch r) rfl ?_;rcases yms r.ok with hr0|hr0;rotate_left
 ·simp[hr0,GRing.zero,gw0]
 simp[hr0]
 refine zag (S:=fun k:Nat=>mkSt [(1,.ptr 1 0 0 0),(2,.ptr 2 0 0 0),(3,.ptr 3 0 0 0),(4,.p (.int .i64 k))]
   [(1,⟨2,[.p (enc r)]⟩),(2,⟨8,[.agg [.p (.bool false),.nil,.nil,.p (.int .i64 0),.p (.bool false),.p (.int .u64 0),.nil,.nil]]⟩),
    (3,⟨8,[.agg [.p (.bool false),.nil,.nil,.p (.int .i64 0),.p (.bool (decide (r.kind=2))),.p (.int .u64 0),.nil,.own 4 0 0 k]]⟩),(4,⟨8,avs ((r.parts.map zdc).take k)⟩)])
  (I:=fun k=>k<=r.parts.length) (m:=fun k=>r.parts.length - k) 0
  ((Weak.nilCell (s0:=3) (g0:=0) (i:=7) (s:=77) (sz:=8) rfl).trans (Weak.to [1,2,3,4] [((1,0),1),((2,0),2),((3,0),3),((77,0),4)] (by simp))) (by omega) ?_
 rintro k h1 R hn hr hx;have hlen:r.parts.length<=3:=by
  by_cases h6:r.kind=6
  ·exact(GRing.ok_parts hr0 h6).2.1
  ·simp[(GRing.ok_kind hr0 h6).2.2]
 have e1:=i64s k;simp[g.qw,mkSt];refine⟨fun hk=>?_,fun hk=>hx _ _ ?_⟩
 ·have h6:r.kind=6:=by
   by_cases h6:r.kind=6
   ·exact h6
   ·have:=(GRing.ok_kind hr0 h6).2.2;rw[this]at hk;simp at hk
  have hpk:=(GRing.ok_parts hr0 h6).2.2 _ (ym7 hk);refine zaa (zqc r k hk) rfl ?_;simp;refine zaa (ya4 ⟨r.parts[k],[]⟩ rfl) rfl ?_;have hz:(⟨r.parts[k],[]⟩:GRing).zero=zdc r.parts[k]:=by
   have h7:r.parts[k]≠6:=by omega
   simp[GRing.zero,GRing.ok,h7,hpk,zdc]
  have hk':k<(r.parts.map zdc).length:=by simpa using hk
  rw[hz];simp[e1];refine⟨by omega,hn (k+1) _ (Weak.to [1,2,3,4] [((1,0),1),((2,0),2),((3,0),3),((28,0),4)] (by simp[ymg hk',zce])) (by omega) (by omega)⟩
 ·have:k=r.parts.length:=by omega
  subst this;have ht:(r.parts.map zdc).take r.parts.length=r.parts.map zdc:=by rw[ymh (by simp)]
  simp[hr0,GRing.zero];simp only[ht]
theorem zo7(r:GRing)(w:GW)(hw:w.sm 1048576):Sp P F.iu [enc r,enc w] (.pure (.bool (decide (w=r.zero)))):=by refine Sp.vz c.iu fun _=>?_;simp[g.iu];refine zab (zk4 r) ?_;simp;refine zab (zs9 w hw r.zero) ?_;simp
noncomputable def GW.tk(r:GRing)(w:GW):GW:=if w.chk r then w else r.zero
theorem znc:gr0.valid=true:=by have:=zfi 0;rw[zea]at this;exact this
theorem si_q{k:Int}{w:GW}(h:w.si k):w.q.valid=true:=by
 by_cases h1:k=1
 ·exact h.2.2.2.2.2.1 h1
 ·by_cases h3:k=3
  ·exact(h.2.2.2.2.2.2.2.1 h3).1
  ·rw[h.2.1 h1 h3];exact znc
theorem si_p{k:Int}{w:GW}(h:w.si k):PVal w.poly:=by
 by_cases h1:k=5
 ·exact h.2.2.2.2.2.2.2.2 h1
 ·rw[h.2.2.2.2.1 h1];exact zur
theorem yh1{r:GRing}{w:GW}(h:w.chk r):w.q.valid=true:=by
 by_cases h6:r.kind=6
 ·have:=(h.2.2 h6).2.1;rw[this];exact znc
 ·exact si_q (h.2.1 h6)
theorem ztm{r:GRing}{w:GW}(h:w.chk r):PVal w.poly:=by
 by_cases h6:r.kind=6
 ·have:=(h.2.2 h6).2.1;rw[this];exact zur
 ·exact si_p (h.2.1 h6)
theorem zop{k:Int}(h:1<=k/\k<=5):(⟨k,[]⟩:GRing).ok=true:=by
 have h7:k≠6:=by omega
 simp[GRing.ok,h7,h]
theorem zjh{r:GRing}{w:GW}(h:w.chk r)(h6:r.kind=6){i:Nat}(hi:i<r.parts.length)(hi':i<w.parts.length):w.parts[i].chk ⟨r.parts[i],[]⟩:=by have hp:=(GRing.ok_parts h.1 h6).2.2 _ (ym7 hi);refine⟨zop hp,fun _=>(h.2.2 h6).2.2 i hi hi',fun h'=>?_⟩;simp at h';omega
theorem ybm(r:GRing)(w:GW)(hw:w.sm 1048576)(h:w.parts=[]):Sp P F.ay [enc r,enc w] (.pure (enc (w.tk r))):=by
 refine Sp.vz c.ay fun _=>?_;simp[g.ay];refine zab (zji r w hw) ?_;by_cases hc:w.chk r;rotate_left
 ·simp[hc,GW.tk];refine zab (zk4 r) ?_;simp
 simp[hc,GW.tk];refine zaa (zfx w.q (hw.q.mono (by omega))) rfl ?_;rw[zib (yh1 hc)];simp;refine zaa (zk8 w.poly hw.poly (by have:=hw.len;omega)) rfl ?_;rw[zy1 (ztm hc)];simp;refine zaw fun R hn hr hx=>?_;simp[g.ro,h];refine hx _ _ ?_;simp[h]
theorem zb4(r:GRing)(w:GW)(hw:w.sm 1048576):Sp P F.ay [enc r,enc w] (.pure (enc (w.tk r))):=by
 refine Sp.vz c.ay fun _=>?_;simp[g.ay];refine zab (zji r w hw) ?_;by_cases hc:w.chk r;rotate_left
 ·simp[hc,GW.tk];refine zab (zk4 r) ?_;simp
 simp[hc,GW.tk];refine zaa (zfx w.q (hw.q.mono (by omega))) rfl ?_;rw[zib (yh1 hc)];simp;refine zaa (zk8 w.poly hw.poly (by have:=hw.len;omega)) rfl ?_;rw[zy1 (ztm hc)];simp
 refine zag (S:=fun k:Nat=>mkSt [(2,.ptr 1 0 0 0),(3,.ptr 2 0 0 0),(4,.ptr 3 0 0 0),(5,.ptr 4 0 0 0),(6,.p (.int .i64 k))]
   [(1,⟨2,[.p (enc r)]⟩),(2,⟨8,[.p (enc w)]⟩),(3,⟨8,[.agg [.p (.bool false),.nil,.nil,.p (.int .i64 0),.p (.bool false),.p (.int .u64 0),.nil,.nil]]⟩),
    (4,⟨8,[.agg [.p (.bool w.q.neg),.p (.sl (ens w.q.num)),.p (.sl (ens w.q.den)),.p (.int .i64 w.cost),.p (.bool w.inf),.p (.int .u64 w.set.toNat),.p (.sl (ens w.poly)),.own 5 0 0 k]]⟩),(5,⟨8,avs (w.parts.take k)⟩)])
  (I:=fun k=>k<=w.parts.length) (m:=fun k=>w.parts.length - k) 0
  ((Weak.nilCell (s0:=5) (g0:=0) (i:=7) (s:=77) (sz:=8) rfl).trans (Weak.to [2,3,4,5,6] [((2,0),1),((3,0),2),((4,0),3),((5,0),4),((77,0),5)] (by simp))) (by omega) ?_
 rintro k h1 R hn hr hx;have hlen:=hw.plen;have e1:=i64s k;simp[g.ro,mkSt];refine⟨fun hk=>?_,fun hk=>hx _ _ ?_⟩
 ·have h6:r.kind=6:=by
   by_cases h6:r.kind=6
   ·exact h6
   ·have:=(hc.2.1 h6).1;rw[this]at hk;simp at hk
  have hl:=(hc.2.2 h6).1;have hkr:k<r.parts.length:=by omega
  refine zaa (zqc r k hkr) rfl ?_;simp;refine zae hk ?_;have hpart:=zjh hc h6 hkr hk;have hnil:w.parts[k].parts=[]:=((hc.2.2 h6).2.2 k hkr hk).1;refine zab (ybm ⟨r.parts[k],[]⟩ w.parts[k] (hw.parts _ (ym7 hk)) hnil) ?_;have ht:w.parts[k].tk ⟨r.parts[k],[]⟩=w.parts[k]:=ym0 hpart;rw[ht];have hts:avs (w.parts.take (k+1))=avs (w.parts.take k)++[.p (enc w.parts[k])]:=by rw[ymg hk,zce];rfl
  simp[e1];refine⟨by omega,hn (k+1) _ (Weak.to [2,3,4,5,6] [((1,0),1),((2,0),2),((3,0),3),((4,0),4),((45,0),5)] (by simp[hts])) (by omega) (by omega)⟩
 ·have:k=w.parts.length:=by omega
  subst this;simp
def kF(a b c d e:FuncId)(k:Int):FuncId:=if k=1 then a else if k=2 then b else if k=3 then c else if k=4 then d else e
def kF0:=kF F.ft F.dh F.dq F.dr F.f9
def kF1:=kF F.bi F.di F.bi F.dt F.ge
def kF2:=kF F.jt F.ox F.jt F.oy F.ql
def kF3:=kF F.fu F.dj F.fy F.du F.gh
def kC3(k:Int):List PV:=if k=3 then[.ref fraZ]else[]
def kF4:=kF F.oz F.pf F.oz F.pg F.qn
theorem zf7(k:Int)(hk:1<=k/\k<=5):∃ f5 f6 f7 f8 c5 c8,zn1 k=.agg [.fn (kF0 k) [],.fn (kF1 k) [],.fn (kF2 k) [],.fn (kF3 k) (kC3 k),.fn (kF4 k) [],.fn f5 c5,.fn f6 [],.fn f7 [],.fn f8 c8]:=by
 have:k=1\/k=2\/k=3\/k=4\/k=5:=by omega
 rcases this with rfl|rfl|rfl|rfl|rfl<;>exact⟨_,_,_,_,_,_,rfl⟩
theorem z5g(k:Int)(hk:1<=k/\k<=5)(w:GW)(hw:w.sm 1048576):Sp P (kF0 k) [enc w] (.pure (.bool (decide (w.si k)))):=by
 have:k=1\/k=2\/k=3\/k=4\/k=5:=by omega
 rcases this with rfl|rfl|rfl|rfl|rfl
 ·exact zwq w hw
 ·exact z9d w hw
 ·exact z8n w hw
 ·exact z6x w hw
 ·exact z7i w hw
theorem zwp:Sp P F.bi [] (.pure (enc (.mk gr0 0 false 0 [] []:GW))):=by refine Sp.vz c.bi fun _=>?_;simp[g.bi]
theorem z6w:Sp P F.dt [] (.pure (enc (.mk gr0 0 false 0 [] []:GW))):=by refine Sp.vz c.dt fun _=>?_;simp[g.dt]
theorem z7h:Sp P F.ge [] (.pure (enc (.mk gr0 0 false 0 [] []:GW))):=by refine Sp.vz c.ge fun _=>?_;simp[g.ge]
theorem z9c:Sp P F.di [] (.pure (enc (.mk gr0 0 true 0 [] []:GW))):=by refine Sp.vz c.di fun _=>?_;simp[g.di]
theorem zvw(k:Int)(hk:1<=k/\k<=5):Sp P (kF1 k) [] (.pure (enc (zdc k))):=by
 have:k=1\/k=2\/k=3\/k=4\/k=5:=by omega
 rcases this with rfl|rfl|rfl|rfl|rfl
 ·exact zwp
 ·exact z9c
 ·exact zwp
 ·exact z6w
 ·exact z7h
theorem z5a(r:GRing)(hp:∀ k∈r.parts,1<=k/\k<=5)(hl:r.parts.length<=3)(f:FuncId)(caps:List PV)(out:List GW)(ho:out.length=r.parts.length)
  (hf:∀ i,(h:i<r.parts.length)->(h':i<out.length)->Sp P f (zn1 r.parts[i]::.int .i64 i::caps) (.pure (enc out[i]))) :
  Sp P F.jh [enc r,.fn f caps] (.pure (enc (.mk gr0 0 false 0 [] out:GW))):=by
 refine Sp.vz c.jh fun _=>?_;simp[g.jh]
 refine zag (S:=fun k:Nat=>mkSt [(1,.p (.fn f caps)),(4,.ptr 1 0 0 0),(5,.ptr 2 0 0 0),(9,.p (.sl (ens r.parts))),(10,.p (.int .i64 r.parts.length)),(11,.p (.int .i64 k))]
   [(1,⟨8,[.agg [.p (.bool false),.nil,.nil,.p (.int .i64 0),.p (.bool false),.p (.int .u64 0),.nil,.nil]]⟩),
    (2,⟨8,[.agg [.p (.bool false),.nil,.nil,.p (.int .i64 0),.p (.bool false),.p (.int .u64 0),.nil,.own 3 0 0 k]]⟩),(3,⟨8,avs (out.take k)⟩)])
  (I:=fun k=>k<=r.parts.length) (m:=fun k=>r.parts.length - k) 0
  ((Weak.nilCell (s0:=5) (g0:=0) (i:=7) (s:=77) (sz:=8) rfl).trans (Weak.to [1,4,5,9,10,11] [((4,0),1),((5,0),2),((77,0),3)] (by simp))) (by omega) ?_
 rintro k h1 R hn hr hx;have e1:=i64s k;simp[g.uo,mkSt];refine⟨fun hk=>?_,fun hk=>hx _ _ ?_⟩
 ·have hk':k<out.length:=by omega
  refine zae hk ?_
  try simp
  refine zaa (zm2 r.parts[k] (hp _ (ym7 hk))) rfl ?_;obtain⟨f5,f6,f7,f8,c5,c8,hA⟩:=zf7 r.parts[k] (hp _ (ym7 hk));have hf':=hf k hk hk';rw[hA]at hf';simp[hA];refine zaa hf' (zb5 rfl (zb5 rfl (zf4 _ _))) ?_;have hts:avs (out.take (k+1))=avs (out.take k)++[.p (enc out[k])]:=by rw[ymg hk',zce];rfl
  simp[e1];exact⟨⟨by omega,by omega⟩,hn (k+1) _ (Weak.to [1,4,5,9,10,11] [((1,0),1),((2,0),2),((24,0),3)] (by simp[hts])) (by omega) (by omega)⟩
 ·have:k=out.length:=by omega
  subst this;simp
theorem z0b(k:Int)(hk:1<=k/\k<=5)(i:Int):Sp P F.ji [zn1 k,.int .i64 i] (.pure (enc (zdc k))):=by obtain⟨f5,f6,f7,f8,c5,c8,hA⟩:=zf7 k hk;rw[hA];refine Sp.vz c.ji fun _=>?_;simp[g.ji];refine zaa (zvw k hk) rfl ?_;simp
theorem zhj(r:GRing):Sp P F.bu [enc r] (.pure (enc r.zero)):=by
 refine Sp.vz c.bu fun _=>?_;simp[g.bu];refine zaa (zgl r) rfl ?_;rcases yms r.ok with hr0|hr0;rotate_left
 ·simp[hr0,GRing.zero,gw0]
 simp[hr0];refine⟨fun h6=>?_,fun h6=>?_⟩
 ·have hp:=GRing.ok_parts hr0 h6;refine zaa (z5a r hp.2.2 hp.2.1 F.ji [] (r.parts.map zdc) (by simp) fun i h h'=>by simpa using z0b r.parts[i] (hp.2.2 _ (List.getElem_mem h)) i) rfl ?_;simp[hr0,GRing.zero,h6]
 ·have hk:=GRing.ok_kind hr0 h6;obtain⟨f5,f6,f7,f8,c5,c8,hA⟩:=zf7 r.kind ⟨hk.1,hk.2.1⟩;refine zaa (zm2 r.kind ⟨hk.1,hk.2.1⟩) rfl ?_;simp[hA];refine zaa (zvw r.kind ⟨hk.1,hk.2.1⟩) rfl ?_;simp[hr0,GRing.zero,hk.2.2,zdc]
theorem znq(r:GRing)(w:GW)(hw:w.sm 1048576):Sp P F.fo [enc r,enc w] (.pure (.bool (decide (w.chk r)))):=by
 refine Sp.vz c.fo fun _=>?_;simp[g.fo];refine zaa (zgl r) rfl ?_;rcases yms r.ok with hr0|hr0;rotate_left
 ·simp[hr0,GW.chk]
 simp[hr0];refine⟨fun h6=>?_,fun h6=>?_⟩;rotate_left
 ·have hk:=GRing.ok_kind hr0 h6;obtain⟨f5,f6,f7,f8,c5,c8,hA⟩:=zf7 r.kind ⟨hk.1,hk.2.1⟩;refine zaa (zm2 r.kind ⟨hk.1,hk.2.1⟩) rfl ?_;simp[hA];refine zab (z5g r.kind ⟨hk.1,hk.2.1⟩ w hw) ?_;simp[GW.chk,hr0,h6]
 have hp:=GRing.ok_parts hr0 h6;refine⟨fun hl=>?_,fun hl h=>?_⟩;rotate_left
 ·have:=(h.2.2 h6).1;omega
 have hl':w.parts.length=r.parts.length:=by omega
 refine zab (zdx w hw (.mk gr0 0 false 0 [] w.parts)) ?_;simp;refine⟨fun he=>?_,fun he h=>he (h.2.2 h6).2.1⟩
 refine zag (S:=fun k:Nat=>mkSt [(3,.ptr 1 0 0 0),(35,.p (.sl (ens r.parts))),(36,.p (.int .i64 r.parts.length)),(37,.p (.int .i64 k))] [(1,⟨8,[.p (enc w)]⟩)]) (I:=fun k=>k<=r.parts.length/\∀ i,(h:i<r.parts.length)->(h':i<w.parts.length)->i<k->w.parts[i].si r.parts[i]) (m:=fun k=>r.parts.length - k) 0
  (Weak.to [3,35,36,37] [((3,0),1)] (by simp)) ⟨by omega,fun i h h' h0=>by omega⟩ ?_
 rintro k ⟨h7,h8⟩ R hn hr hx;have e1:=i64s k;simp[g.vc,mkSt];refine⟨fun hk=>?_,fun hk=>hx _ _ ?_⟩
 ·have hk2:k<w.parts.length:=by omega
  have hpk:=hp.2.2 _ (ym7 hk);obtain⟨f5,f6,f7,f8,c5,c8,hA⟩:=zf7 r.parts[k] hpk;refine zae hk ?_
  try simp
  refine zaa (zm2 r.parts[k] hpk) rfl ?_;simp[hA];refine zae hk2 ?_
  try simp
  refine zab (z5g r.parts[k] hpk w.parts[k] (hw.parts _ (ym7 hk2))) ?_;by_cases h9:w.parts[k].si r.parts[k]
  ·simp[h9,e1];refine hn (k+1) _ (Weak.to [3,35,36,37] [((1,0),1)] (by simp)) ⟨by omega,fun i h h' hi=>?_⟩ (by omega);by_cases hik:i<k
   ·exact h8 i h h' hik
   ·have:i=k:=by omega
    subst this;exact h9
  ·simp[h9];refine hr _ ?_;have:¬ w.chk r:=fun h=>h9 ((h.2.2 h6).2.2 k hk hk2);simp[this]
 ·have:w.chk r:=⟨hr0,fun h=>absurd h6 h,fun _=>⟨hl',he,fun i h h'=>h8 i h h' (by omega)⟩⟩;simp[this]
theorem ziu(r:GRing)(w:GW)(hw:w.sm 1048576):Sp P F.ml [enc r,enc w] (.pure (enc (w.tk r))):=by
 refine Sp.vz c.ml fun _=>?_;simp[g.ml];refine zab (znq r w hw) ?_;by_cases hc:w.chk r
 ·simp[hc,GW.tk]
 ·simp[hc,GW.tk];refine zab (zhj r) ?_;simp
theorem zwy(x y:UInt64):orI .u64 x.toNat y.toNat=((x ||| y).toNat:Int):=by rw[zun x.toNat_lt y.toNat_lt,UInt64.toNat_or]
def zav(k:Int)(v w:GW):GW :=
 if k=1 then .mk (rto (v.q.v+w.q.v)) 0 false 0 [] []
 else if k=2 then if v.inf=true\/(w.inf=false/\w.cost<v.cost)then w else v
 else if k=3 then if v.q.v<w.q.v then w else v
 else if k=4 then .mk gr0 0 false (v.set ||| w.set) [] []
 else .mk gr0 0 false 0 (padd v.poly w.poly) []
theorem ycm(v w:GW)(hv:v.sm 1048576)(hw:w.sm 1048576)(cv:v.chk ⟨1,[]⟩)(cw:w.chk ⟨1,[]⟩):Sp P F.aa [enc (⟨1,[]⟩:GRing),enc v,enc w] (.pure (enc (zav 1 v w))):=by have hr0:(⟨1,[]⟩:GRing).ok=true:=zop (by omega);have t1:v.tk ⟨1,[]⟩=v:=ym0 cv;have t2:w.tk ⟨1,[]⟩=w:=ym0 cw;have k1:=zb4 ⟨1,[]⟩ v hv;have k2:=zb4 ⟨1,[]⟩ w hw;rw[t1]at k1;rw[t2]at k2;refine Sp.vz c.aa fun _=>?_;simp[g.aa];refine zaa (zch ⟨1,[]⟩) rfl ?_;simp[hr0];refine zab k1 ?_;simp;refine zab k2 ?_;simp;refine zaa (zvu v.q w.q hv.q hw.q) rfl ?_;simp[zav]
theorem ycl(v w:GW)(hv:v.sm 1048576)(hw:w.sm 1048576)(cv:v.chk ⟨2,[]⟩)(cw:w.chk ⟨2,[]⟩):Sp P F.aa [enc (⟨2,[]⟩:GRing),enc v,enc w] (.pure (enc (zav 2 v w))):=by
 have hr0:(⟨2,[]⟩:GRing).ok=true:=zop (by omega);have t1:v.tk ⟨2,[]⟩=v:=ym0 cv;have t2:w.tk ⟨2,[]⟩=w:=ym0 cw;have k1:=zb4 ⟨2,[]⟩ v hv;have k2:=zb4 ⟨2,[]⟩ w hw;rw[t1]at k1;rw[t2]at k2;refine Sp.vz c.aa fun _=>?_;simp[g.aa];refine zaa (zch ⟨2,[]⟩) rfl ?_;simp[hr0];refine zab k1 ?_;simp;refine zab k2 ?_;simp;rcases yms v.inf with h1|h1
 ·simp[zav,h1]
 rcases yms w.inf with h2|h2
 ·simp[zav,h1,h2]
 simp[zav,h1,h2];refine⟨fun h3=>by simp[h3,h2],fun h3=>by simp[show ¬ w.cost<v.cost by omega,h1]⟩
theorem yck(v w:GW)(hv:v.sm 1048576)(hw:w.sm 1048576)(cv:v.chk ⟨3,[]⟩)(cw:w.chk ⟨3,[]⟩):Sp P F.aa [enc (⟨3,[]⟩:GRing),enc v,enc w] (.pure (enc (zav 3 v w))):=by
 have hr0:(⟨3,[]⟩:GRing).ok=true:=zop (by omega);have t1:v.tk ⟨3,[]⟩=v:=ym0 cv;have t2:w.tk ⟨3,[]⟩=w:=ym0 cw;have k1:=zb4 ⟨3,[]⟩ v hv;have k2:=zb4 ⟨3,[]⟩ w hw;rw[t1]at k1;rw[t2]at k2;refine Sp.vz c.aa fun _=>?_;simp[g.aa];refine zaa (zch ⟨3,[]⟩) rfl ?_;simp[hr0];refine zab k1 ?_;simp;refine zab k2 ?_;simp;refine zaa (zxu v.q w.q hv.q hw.q) rfl ?_;by_cases h1:v.q.v<w.q.v
 ·simp[zav,h1]
 ·simp[zav,h1]
theorem ycj(v w:GW)(hv:v.sm 1048576)(hw:w.sm 1048576)(cv:v.chk ⟨4,[]⟩)(cw:w.chk ⟨4,[]⟩):Sp P F.aa [enc (⟨4,[]⟩:GRing),enc v,enc w] (.pure (enc (zav 4 v w))):=by have hr0:(⟨4,[]⟩:GRing).ok=true:=zop (by omega);have t1:v.tk ⟨4,[]⟩=v:=ym0 cv;have t2:w.tk ⟨4,[]⟩=w:=ym0 cw;have k1:=zb4 ⟨4,[]⟩ v hv;have k2:=zb4 ⟨4,[]⟩ w hw;rw[t1]at k1;rw[t2]at k2;refine Sp.vz c.aa fun _=>?_;simp[g.aa];refine zaa (zch ⟨4,[]⟩) rfl ?_;simp[hr0];refine zab k1 ?_;simp;refine zab k2 ?_;simp;simp[zav,zwy]
theorem yci(v w:GW)(hv:v.sm 1048576)(hw:w.sm 1048576)(cv:v.chk ⟨5,[]⟩)(cw:w.chk ⟨5,[]⟩)(D B B':Nat)(h1:pqb D B v.poly)(h2:pqb D B' w.poly)(hD0:D≠0)(hD:D<4294967296^1048576)(hB:B+B'<4294967296^1048576):Sp P F.aa [enc (⟨5,[]⟩:GRing),enc v,enc w] (.pure (enc (zav 5 v w))):=by have k3:=yen v.poly w.poly D B B' (ztm cv) (ztm cw) h1 h2 hD0 hD hB;clear hD hB;have hr0:(⟨5,[]⟩:GRing).ok=true:=zop (by omega);have t1:v.tk ⟨5,[]⟩=v:=ym0 cv;have t2:w.tk ⟨5,[]⟩=w:=ym0 cw;have k1:=zb4 ⟨5,[]⟩ v hv;have k2:=zb4 ⟨5,[]⟩ w hw;rw[t1]at k1;rw[t2]at k2;refine Sp.vz c.aa fun _=>?_;simp[g.aa];refine zaa (zch ⟨5,[]⟩) rfl ?_;simp[hr0];refine zab k1 ?_;simp;refine zab k2 ?_;simp;refine zaa k3 rfl ?_;simp[zav]
theorem z7b(v w:GW)(hv:v.sm 1048576)(hw:w.sm 1048576):Sp P F.fu [enc v,enc w] (.pure (enc (zav 1 v w))):=by refine Sp.vz c.fu fun _=>?_;simp[g.fu];refine zaa (zid v.q w.q hv.q hw.q) rfl ?_;simp[zav]
theorem z6v(v w:GW):Sp P F.du [enc v,enc w] (.pure (enc (zav 4 v w))):=by refine Sp.vz c.du fun _=>?_;simp[g.du,zav,zwy]
theorem yde(v w:GW):Sp P F.dm [enc v,enc w] (.pure (.bool (!v.inf&&(w.inf||decide (v.cost<w.cost))))):=by refine Sp.vz c.dm fun _=>?_;simp[g.dm];rcases yms v.inf with h1|h1<;>rcases yms w.inf with h2|h2<;>simp[h1,h2]
theorem z9b(v w:GW)(hv:v.si 2)(hw:w.si 2):Sp P F.dj [enc v,enc w] (.pure (enc (zav 2 v w))):=by
 refine Sp.vz c.dj fun _=>?_;simp[g.dj];refine zab (yde w v) ?_;rcases yms v.inf with h1|h1
 ·rcases yms w.inf with h2|h2
  ·have hvw:v=w:=by have a:=si2.1 hv;have b:=si2.1 hw;exact GW.ext (by rw[a.2.1,b.2.1]) (by rw[a.2.2.2.2.2.2 h1,b.2.2.2.2.2.2 h2]) (by rw[h1,h2]) (by rw[a.2.2.1,b.2.2.1]) (by rw[a.2.2.2.1,b.2.2.2.1]) (by rw[a.1,b.1])
   subst hvw;simp[h1,zav]
  ·simp[h1,h2,zav]
 ·rcases yms w.inf with h2|h2
  ·simp[h1,h2,zav]
  ·by_cases h3:w.cost<v.cost
   ·simp[h1,h2,h3,zav]
   ·simp[h1,h2,h3,zav]
theorem z8m(v w:GW)(hv:v.sm 1048576)(hw:w.sm 1048576):Sp P F.fx [enc v,enc w] (.pure (.bool (decide (w.q.v<v.q.v)))):=by refine Sp.vz c.fx fun _=>?_;simp[g.fx];refine zaa (zmc v.q w.q hv.q hw.q) rfl ?_;simp[z1v]
theorem z8l(v w:GW)(hv:v.sm 1048576)(hw:w.sm 1048576)(sv:v.si 3)(sw:w.si 3):Sp P F.fy [enc v,enc w,.ref fraZ] (.pure (enc (zav 3 v w))):=by
 refine Sp.of_vmW c.fy (by simp) (Weak.openRef (t:=2) (v:=fraZ) (n:=9) (by simp) rfl) ?_;simp[g.fy,fraZ];refine zab (z8m w v hw hv) ?_;have key:∀ x:GW,x.si 3->x=.mk (rto x.q.v) 0 false 0 [] []:=fun x hx=>by have a:=si3.1 hx;exact GW.ext (zib a.2.2.2.2.2.1).symm a.2.2.1 a.2.1 a.2.2.2.1 a.2.2.2.2.1 a.1
 have hg0:gr0.v=0:=by rw[show gr0=rto 0 from zea.symm,zgm]
 by_cases h:v.q.v<w.q.v
 ·have e:zav 3 v w=.mk (rto w.q.v) 0 false 0 [] []:=by simp only[zav,h,ym2];exact key w sw
  rw[e];simp[h];have:=zid w.q gr0 hw.q (zg7 _);rw[hg0,ynp]at this;refine zaa this rfl ?_;simp
 ·have e:zav 3 v w=.mk (rto v.q.v) 0 false 0 [] []:=by simp only[zav,h,ymb];exact key v sv
  rw[e];simp[h];have:=zid v.q gr0 hv.q (zg7 _);rw[hg0,ynp]at this;refine zaa this rfl ?_;simp
end Go.Ab
namespace Go.Ab
open Go.Proofs
def T.bool:TypeId:=4
def T.int:TypeId:=3
def T.ints:TypeId:=22
def T.plan:TypeId:=24
theorem ty.map:P.underlying 267=some (.map 112 47):=by kernel_rfl
theorem ty.key:P.underlying 112=some (.array 3 3):=by kernel_rfl
theorem ty.int:P.underlying 3=some (.int .i64):=by kernel_rfl
theorem ty.bool:P.underlying 4=some .bool:=by kernel_rfl
theorem ty.cells:P.cellsOf 112=3:=by kernel_rfl
theorem ty.cell:P.cellsOf 3=1:=by kernel_rfl
theorem ty.size:0<P.types.size:=of_decide_eq_true (by kernel_rfl)
theorem ty.ints:P.underlying T.ints=some (.slice 3):=by kernel_rfl
theorem ty.plan:shp P T.plan=some ([(T.int,0,1),(T.int,1,1),(T.bool,2,1),(T.bool,3,1),(T.ints,4,1)],5):=by kernel_rfl
end Go.Ab
