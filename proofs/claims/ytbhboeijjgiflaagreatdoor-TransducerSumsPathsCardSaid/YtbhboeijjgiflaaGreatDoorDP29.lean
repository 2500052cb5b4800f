/-
Proofs for the law TransducerSumsPaths, part 29. Conditions: none.
-/
import Derived.Test.YtbhboeijjgiflaaGreatDoorDP28
set_option maxRecDepth 100000
set_option maxHeartbeats 4000000
set_option linter.all false
namespace Go.Ab
open Enc (enc)
def SpV(P:Program)(f:FuncId)(vals:List Value)(res:RV):Prop :=
 (∃ fn,P.funcs[f]?=some fn/\fn.body.isSome=true/\fn.name ≠ "runtime.NumGoroutine") /\
 ∀ (w:World) (M:Nat->Option Obj),(∀ b o,M b=some o->w.heap[b]?=some o) ->
  Calls P f vals.toArray w fun e w'=>∃ x M',e=.returned x/\(∀ b o,M b=some o->M' b=some o)/\(∀ b o,M' b=some o->w'.heap[b]?=some o) /\
   (∀ b o,M' b=some o->M b=some o\/w.heap.size<=b)/\Keep w w' (fun _=>False)/\RRep M' w w' res x
section
variable {P:Program} {K:Ctx} {Z Z':Cz} {st st' st1:St} {w w':World} {a:Act} {N:Nat} {A B:Option FA} {Post:Exit->St->Option FA->Prop} {PostI:St->Option FA->Prop} {v:AV}
theorem z4j{d:Option Nat}{f:FuncId}{xs:List Opd}{vals:List Value}{res:RV}(hsp:SpV P f vals res)(hv:∀ (Z:Cz) (ys:List Value),AReps Z st (xs.map st.ev) ys->ys=vals)(hres:zg1 ⟨f,[],res,none⟩ st (d.getD 0) []=some (v,st1))(hsl:st1.sl=st.sl)
  (k:PostI (st1.put d v) none):MOp P N ⟨d,.call f xs,none⟩ st none PostI:=by
 intro ops j o K Z w a Q Kt hN hj hcc hs hA hK;obtain⟨h1,h2,h3,h4⟩:=zc1 hcc;obtain⟨cc,h,hop,hf,hh,hops⟩:=zla h1;have hg:o.guard=none:=by
  cases hg:o.guard with
  | none=>rfl
  | some jb =>
   obtain⟨j,b⟩:=jb;rw[hg]at h2;simp only[zdf]at h2;split at h2<;>cases h2
 have hw:Region.wanted o (yielded ops a.tmps)=true:=by simp[Region.wanted,hg]
 have hd:d=o.dst:=h3;obtain⟨hfn,hsp⟩:=hsp;have hr:=ziv hops hs;have hfr:=zaq hh hs;simp only[St.ev]at hfr;have hfv:a.eval h=.func (.func f) #[] #[]:=by
  have hp:=hfr.inv_p;generalize a.eval h=F at hp ⊢;cases hp with
  | fn _ _ vals h=>cases h;rfl
 have hvs:cc.args.toList.map a.eval=vals:=hv Z _ (by simpa using hr);have hrun:(execOp a.eval o).run P w=.ok (.enter f vals.toArray) w:=by
  have:=zec (P:=P) (w:=w) (args:=(cc.args.toList.map a.eval).toArray) hfn;simp only[execOp,hop,resolve,hf,hfv,Deferred.ofValue,yna,yni,yno,invoke];have e : #[]++cc.args.map a.eval ++ #[]=(cc.args.toList.map a.eval).toArray:=by simp[<- Array.toList_map]
  rw[e,this,hvs]
 refine(show o.wp P a w Kt Q from ?_) |> fun h=>by unfold wpOp;simp only[hj,hw,ym2];exact .inl h
 unfold Oper.wp;rw[hrun,yql];have hmx:∀ b o,Mx Z st w [] b=some o->Z.M b=some o:=fun b o hb=>by
  rcases zb2 hb with h|⟨_,_,s,g,ob,h,_⟩
  ·exact h
  ·cases h
 refine(hsp w (Mx Z st w []) (fun b o hb=>hs.heap.mem b o (hmx b o hb))).mono ?_;rintro e w' ⟨x,M',rfl,p1,p2,p3,p4,p5⟩;obtain⟨Z',q1,q2,q3⟩:=zuv (c:=⟨f,[],res,none⟩) (vs:=[]) hs.heap p1 p2 p3 p4 p5 hres;refine hK _ _ Z' _ _ k ?_ trivial;rw[hd];exact hs.put hsl q3 q1 q2 (by subst hN;exact h4) hs.defers
theorem Weak.trunc0{t s sz:Nat}{es:List AV}(hp:s<PINB):Weak ⟨[(t,.own s 0 0 0)],[(s,[some ⟨sz,es⟩])]⟩ ⟨[(t,.own s 0 0 0)],[(s,[some ⟨sz,[]⟩])]⟩:=by
 intro K Z w a hs;have hobj:∀ (es:List AV) s' g' o',(⟨[(t,.own s 0 0 0)],[(s,[some ⟨sz,es⟩])]⟩:St).obj s' g'=some o'->s'=s/\g'=0/\o'=⟨sz,es⟩:=by
  intro es s' g' o' h;simp only[St.obj,St.site,look]at h;split at h
  ·rename_i hs0;cases g' with
   | zero=>simp at h;exact⟨hs0.symm,rfl,h.symm⟩
   | succ g=>simp at h
  ·simp at h
 have h00:∀ es:List AV,(⟨[(t,.own s 0 0 0)],[(s,[some ⟨sz,es⟩])]⟩:St).obj s 0=some ⟨sz,es⟩:=fun es=>by simp[St.obj,St.site,look]
 have hO:=hs.heap.objs s 0 _ (h00 es);refine⟨Z,⟨fun u=>?_,hs.defers,hs.size,⟨fun s' g' o' h=>?_,fun s1 g1 s2 g2 o1 o2 b h1 h2 _ _=>?_,hs.heap.mem,fun s' g' o' b h hb=>?_,fun s' g' o' b h hb=>?_,hs.heap.m0,hs.heap.prov,hs.heap.keep⟩⟩,⟨fun u a _=>?_,fun u g a _ hg _=>?_,fun u g o a _ ho=>?_⟩⟩
 case refine_6=>simp only[St.site,look];split<;>simp
 case refine_7 =>
  simp only[St.site,look]at hg;split at hg
  ·omega
  ·simp at hg
 case refine_8=>have:=(hobj _ _ _ _ ho).1;omega
 ·have hu:=hs.slots u;simp only[St.get,look]at hu ⊢;split at hu
  ·rename_i hut;simp only[hut,ym2];generalize a.tmps.getD u Go.undef=x at hu;cases hu with
   | own0 _ _ o ho hb=>exact .own0 _ _ _ (h00 []) hb
   | own _ _ _ _ o b ad c ho hb h1 h2 h3 h4=>exact .own _ _ _ _ _ b ad c (h00 []) hb h1 (fun h=>absurd h (by omega)) (by simp) h4
   | ownD _ _ _ _ _ _ _ hd=>rw[h00]at hd;cases hd
  ·rename_i hut;simp only[hut,ym9];exact .undef _
 ·obtain⟨rfl,rfl,rfl⟩:=hobj _ _ _ _ h;refine⟨hO.pos,by simp,by simp,fun _=>rfl,fun b hb=>?_⟩;obtain⟨cur,T,vals,k1,k2,k3,k4,k5,k6⟩:=hO.blk b hb;exact⟨cur,T,[],k1,.nil,by simp,k4,by simp,k6⟩
 ·obtain⟨rfl,rfl,_⟩:=hobj _ _ _ _ h1;obtain⟨rfl,rfl,_⟩:=hobj _ _ _ _ h2;exact⟨rfl,rfl⟩
 ·obtain⟨rfl,rfl,rfl⟩:=hobj _ _ _ _ h;exact hs.heap.sep _ _ _ b (h00 es) hb
 ·obtain⟨rfl,rfl,rfl⟩:=hobj _ _ _ _ h;exact hs.heap.own _ _ _ b (h00 es) hb
theorem SpV.of_vm{f:FuncId}{vals:List Value}{res:RV}{n np:Nat}{b:GC}{rs:List (Nat × Option Nat)}(hc:zad P f=some ⟨n,np,b.er,rs⟩)(hn:vals.length<=n)
  (hst:st.hp=[]) (hreps:∀ (M:Nat->Option Obj) (t:Nat),ARep ⟨M,fun _ _=>none,fun _ _=>0⟩ st (st.get t) ((vals.toArray++Array.replicate (n - vals.toArray.size) Go.undef).getD t Go.undef))
  (h:vm P n (fun ex s=>∃ s',Weak s s'/\retP rs res ex s') [.code b] st):SpV P f vals res:=by
 have hno:∀ s g,st.obj s g=none:=fun s g=>by simp[St.obj,St.site,hst,look]
 obtain⟨ex,s,hrun,s',hw,hret⟩:=zdl _ (ym8 _) h;have hrun:=hrun.weakR hw;have hr:(ex=.ret\/ex=.normal)/\∃ vs,zbq s' rs=some vs/\ResOk s' (resOf vs) res:=by
  have key:(ex=.ret\/ex=.normal)/\∃ vs,zbq s' rs=some vs/\resP s' (resOf vs) res:=by
   cases ex with
   | ret=>exact⟨.inl rfl,hret⟩
   | normal=>exact⟨.inr rfl,hret⟩
   | _=>exact hret.elim
  obtain⟨k1,vs,r3,r4⟩:=key;refine⟨k1,vs,r3,?_⟩;unfold resP at r4;split at r4
  ·exact .pure _ _ r4
  ·split at r4
   ·rename_i sz es s' g off len hv;obtain⟨o,h1,rfl,h2,rfl,h4⟩:=r4;rw[hv];exact .fresh _ _ _ _ _ h1 h2 h4
   ·rename_i hv;rw[hv,r4];exact .nil _
   ·exact r4.elim
  ·exact r4.elim
 obtain⟨hex,vs,hvs,hres⟩:=hr;unfold zad at hc;split at hc
 ·rename_i fn hf;split at hc
  ·rename_i hname;split at hc
   ·rename_i c hb;split at hc
    ·rename_i bd rs' h1 h2;simp only[ym4,FnC.mk.injEq]at hc;obtain⟨rfl,_,rfl,rfl⟩:=hc;refine⟨⟨fn,hf,by rw[hb];rfl,hname⟩,fun w M hM=>?_⟩;refine calls_of_wp hf hb ?_;refine hrun c h1 ⟨w,M,fun _=>False,fn.ntmps⟩ ⟨M,fun _ _=>none,fun _ _=>0⟩ w _ _ rfl ⟨hreps M,rfl,by simp;omega,⟨fun s g o ho=>(by rw[hno]at ho;cases ho),fun s g _ _ o _ b ho=>(by rw[hno]at ho;cases ho),hM,fun s g o b ho=>(by rw[hno]at ho;cases ho),fun s g o b ho=>(by rw[hno]at ho;cases ho),fun _ _ h=>h,fun _ _ h=>.inl h,Keep.refl w _⟩⟩ (fun Z' w' a' hs _=>?_)
     have hfin:a'.defers=[]/\∃ v,(results fn a'.tmps).run P w'=.ok v w'/\∃ x M',Ending.returned v=.returned x/\(∀ b o,M b=some o->M' b=some o)/\(∀ b o,M' b=some o->w'.heap[b]?=some o) /\
       (∀ b o,M' b=some o->M b=some o\/w.heap.size<=b)/\Keep w w' (fun _=>False)/\RRep M' w w' res x:=by
      obtain⟨xs,e1,e2⟩:=zko hs h2 hvs;obtain⟨M',m1,m2,m3,m4,m5⟩:=zq3 hs.heap e2.resOf hres;refine⟨hs.defers,_,?_,_,M',rfl,m1,m2,m3,m4,m5⟩;unfold results;rw[yq8];simp only[yna,map_eq_pure_bind,yni];exact congrArg (fun r=>(Result.andThen r fun a w'=>Result.ok a.toArray w').andThen fun(a:Array Value) w'=>Result.ok (if h:a.size=1 then a[0]else Value.tuple a) w') e1
     rcases hex with rfl|rfl
     ·exact hfin
     ·exact hfin
    ·cases hc
   ·cases hc
  ·cases hc
 ·cases hc
end
section
variable {P:Program} {K:Ctx} {Z Z':Cz} {st st':St} {w w':World} {a:Act}
theorem HRep.same2(h:HRep K Z st w){s g:Nat}{o:AObj}(ho:st.obj s g=some o){es:List AV}(hl:es.length=o.es.length)(h2:∀ e∈es,e.sz=o.sz)(h3:∀ c∈es.flatMap AV.cells,c.one=true)
  (h4:∀ b,Z.B s g=some b->∃ (cur:Array Value) (T:TypeId) (vals:List Value),w.heap[b]?=some (.cells cur T (0,0))/\AReps Z st (es.flatMap AV.cells) vals /\
   (∀ (i:Nat) (v:Value),vals[i]?=some v->cur[i]?=some v)/\cur.size=Z.cap s g*o.sz/\o.es.length<=Z.cap s g/\Z.cap s g<=maxLen):HRep K Z (st.setObj s g ⟨o.sz,es⟩) w:=by
 have hg:=zcg ho;have hz:=ZLe.setObj Z st s g o ⟨o.sz,es⟩ ho rfl hl;have old:∀ {s' g':Nat} {o':AObj},(st.setObj s g ⟨o.sz,es⟩).obj s' g'=some o'->∃ o0,st.obj s' g'=some o0:=by
  intro s' g' o' ho';rw[zbi _ _ _ _ _ _ hg]at ho';split at ho'
  ·rename_i hc;obtain⟨rfl,rfl⟩:=hc;exact⟨o,ho⟩
  ·exact⟨o',ho'⟩
 refine⟨fun s' g' o' ho'=>?_,fun s' g' s'' g'' o' o'' b a1 a2 b1 b2=>?_,h.mem,fun s' g' o' b a1 b1=>?_,fun s' g' o' b a1 b1=>?_,h.m0,h.prov,h.keep⟩
 ·rw[zbi _ _ _ _ _ _ hg]at ho';split at ho'
  ·rename_i hc;obtain⟨rfl,rfl⟩:=hc;cases ho';obtain⟨k1,k2,k3,k4,k5⟩:=h.objs s' g' o ho;refine⟨k1,h2,h3,fun hb=>List.eq_nil_of_length_eq_zero (by rw[hl,k4 hb];rfl),fun b hb=>?_⟩;obtain⟨cur,T,vals,e1,e2,e3,e4,e5,e6⟩:=h4 b hb;exact⟨cur,T,vals,e1,AReps.mono hz e2,e3,e4,by simpa[hl]using e5,e6⟩
  ·exact(h.objs s' g' o' ho').later hz rfl rfl (fun _ _=>rfl)
 ·obtain⟨o1,c1⟩:=old a1;obtain⟨o2,c2⟩:=old a2;exact h.inj _ _ _ _ _ _ b c1 c2 b1 b2
 ·obtain⟨o1,c1⟩:=old a1;exact h.sep _ _ _ b c1 b1
 ·obtain⟨o1,c1⟩:=old a1;exact h.own _ _ _ b c1 b1
theorem ziq:∀ (ids:List (Nat × Nat)) {st:St} {s g:Nat} {o:AObj},st.obj s g=some o->(s,g)∉ids->(killAll st ids).obj s g=some o
 | [],_,_,_,_,h,_=>h
 | (s',g')::r,st,s,g,o,h,hn=>by simp only[ym7,ym5,not_or]at hn;rw[zfh];refine ziq r ?_ hn.2;rw[zfe,ym1 hn.1];exact h
end
section
variable {P:Program} {K:Ctx} {Z Z':Cz} {st st':St} {w w':World} {a:Act}
def ze7:List AV->List AV->Prop
 | [],[]=>True
 | x::l,y::r=>(x=y\/(x=.p .any/\y.one=true))/\ze7 l r
 | _,_=>False
theorem ze7.reps:∀ {l r:List AV} {vals:List Value},ze7 l r->AReps Z st r vals->AReps Z st l vals
 | [],[],_,_,h=>h
 | [],_::_,_,h,_=>h.elim
 | _::_,[],_,h,_=>h.elim
 | x::l,y::r,_,h,.cons _ v _ vs h1 h2=>by
  refine .cons _ _ _ _ ?_ (ze7.reps h.2 h2);rcases h.1 with rfl|⟨rfl,ho⟩
  ·exact h1
  ·exact .p _ _ (.any _ (ARep.one_val h1 ho))
theorem ze7.one:∀ {l r:List AV},ze7 l r->(∀ c∈r,c.one=true)->∀ c∈l,c.one=true
 | [],[],_,_,c,hc=>by cases hc
 | [],_::_,h,_,_,_=>h.elim
 | _::_,[],h,_,_,_=>h.elim
 | x::l,y::r,h,hr,c,hc=>by
  rcases ym7.1 hc with rfl|hc
  ·rcases h.1 with rfl|⟨rfl,_⟩
   ·exact hr _ ynt
   ·rfl
  ·exact ze7.one h.2 (fun c hc=>hr c (yn9 _ hc)) c hc
theorem Weak.anyCells{s g:Nat}{o:AObj}(es:List AV)(ho:st.obj s g=some o)(hl:es.length=o.es.length)(h2:∀ e∈es,e.sz=o.sz)(hc:ze7 (es.flatMap AV.cells) (o.es.flatMap AV.cells)):Weak st (st.setObj s g ⟨o.sz,es⟩):=by
 intro K Z w a hs;have hO:=hs.heap.objs s g o ho;have hz:=ZLe.setObj Z st s g o ⟨o.sz,es⟩ ho rfl hl;have hss:=hs.heap.same2 ho hl h2 (hc.one hO.one) (fun b hb=>by
  obtain⟨cur,T,vals,e1,e2,e3,e4,e5,e6⟩:=hO.blk b hb;exact⟨cur,T,vals,e1,hc.reps e2,e3,e4,e5,e6⟩)
 refine⟨Z,⟨fun u=>?_,hs.defers,hs.size,hss⟩,.of_zle hz⟩;rw[show(st.setObj s g ⟨o.sz,es⟩).get u=st.get u from rfl];exact ARep.mono hz (hs.slots u)
end
def endW(rs:List (Nat × Option Nat))(res:RV)(ex:Exit)(s:St):Prop:=∃ s1,Weak s s1/\retP rs res ex s1
theorem Sp.of_vmE{P:Program}{f:FuncId}{args:List PV}{res:RV}{n np:Nat}{b:GC}{rs:List (Nat × Option Nat)}(hc:zad P f=some ⟨n,np,b.er,rs⟩)(hn:args.length<=n)(h:vm P n (endW rs res) [.code b] (zfi args)):Sp P f args res:=by
 obtain⟨ex,s0,r1,s,hw,r2⟩:=zdl _ (ym8 _) h;have key:(ex=.ret\/ex=.normal)/\∃ vs,zbq s rs=some vs/\resP s (resOf vs) res:=by
  cases ex with
  | ret=>exact⟨.inl rfl,r2⟩
  | normal=>exact⟨.inr rfl,r2⟩
  | _=>exact r2.elim
 obtain⟨k1,vs,r3,r4⟩:=key;refine Sp.of_runs hc hn (Runs.weakR r1 hw) k1 r3 ?_;unfold resP at r4;split at r4
 ·exact .pure _ _ r4
 ·split at r4
  ·rename_i sz es s' g off len hv;obtain⟨o,h1,rfl,h2,rfl,h4⟩:=r4;rw[hv];exact .fresh _ _ _ _ _ h1 h2 h4
  ·rename_i hv;rw[hv,r4];exact .nil _
  ·exact r4.elim
 ·exact r4.elim
end Go.Ab
namespace Go.Ab
open Enc (enc)
attribute [local go_sem] zal Opd.slots
def ratA:PV:=.agg [.fn F.d5 [],.fn F.bg [],.fn F.iq [],.fn F.d7 [],.fn F.bh [],.fn F.oz [],.fn F.mr [],.fn F.nk [],.fn F.o4 []]
def polA:PV:=.agg [.fn F.ej [],.fn F.ep [],.fn F.od [],.fn F.eq [],.fn F.eu [],.fn F.o8 [],.fn F.mr [],.fn F.o9 [],.fn F.pb []]
def fraB(x:PV):PV:=.agg [.fn F.ch [],.fn F.bg [],.fn F.iq [],.fn F.ef [x],.fn F.bh [],.fn F.l5 [.ref (.fn F.iq [])],.fn F.ee [],.fn F.nk [],.fn F.o6 [x]]
def cosB(x:PV):PV:=.agg [.fn F.b8 [],.fn F.b9 [],.fn F.mu [],.fn F.cd [],.fn F.bi [],.fn F.l5 [.ref (.fn F.mu [])],.fn F.cg [],.fn F.n8 [],.fn F.o5 [x]]
def setB(x:PV):PV:=.agg [.fn F.cm [],.fn F.cn [],.fn F.mw [],.fn F.cq [],.fn F.cr [],.fn F.l5 [.ref (.fn F.mw [])],.fn F.mr [],.fn F.n9 [],.fn F.o7 [x]]
def fraZ:PV:=.agg [.fn F.ch [],.fn F.bg [],.fn F.iq [],.any,.fn F.bh [],.fn F.l5 [.ref (.fn F.iq [])],.fn F.ee [],.fn F.nk [],.any]
def cosZ:PV:=.agg [.fn F.b8 [],.fn F.b9 [],.fn F.mu [],.fn F.cd [],.fn F.bi [],.fn F.l5 [.ref (.fn F.mu [])],.fn F.cg [],.fn F.n8 [],.any]
def setZ:PV:=.agg [.fn F.cm [],.fn F.cn [],.fn F.mw [],.fn F.cq [],.fn F.cr [],.fn F.l5 [.ref (.fn F.mw [])],.fn F.mr [],.fn F.n9 [],.any]
def fraA:PV:=fraB (.ref fraZ)
def cosA:PV:=cosB (.ref cosZ)
def setA:PV:=setB (.ref setZ)
theorem zhj:Sp P F.d3 [] (.pure ratA):=by refine Sp.vz c.d3 fun _=>?_;simp[g.d3,go_sem,ratA]
theorem zo1:Sp P F.kr [] (.pure polA):=by refine Sp.vz c.kr fun _=>?_;simp[g.kr,go_sem,polA]
theorem zu5(f:FuncId):Sp P F.d9 [.fn f []] (.pure (.fn F.l5 [.ref (.fn f [])])):=by refine Sp.vz c.d9 fun _=>?_;simp[g.d9,go_sem,toPV]
theorem zue:Sp P F.ko [] (.pure fraA):=by
 refine Sp.of_vmE c.ko (by simp) ?_;simp[g.ko,go_sem];refine zaa zhj rfl ?_;simp[go_sem,ratA];refine zaa (zu5 F.iq) rfl ?_;simp[go_sem];refine⟨_,Weak.anyCells (s:=1) (g:=0) [.p fraZ] rfl rfl (by simp[fraZ,go_sem]) ?_,?_⟩
 ·simp[fraZ,ze7,AV.cells,PV.cells];decide
 simp[go_sem,toPV,retP,resP,zbq,zlh,resOf,fraA,fraB,St.setObj]
theorem z91:Sp P F.km [] (.pure cosA):=by
 refine Sp.of_vmE c.km (by simp) ?_;simp[g.km,go_sem];refine zaa (zu5 F.mu) rfl ?_;simp[go_sem];refine⟨_,Weak.anyCells (s:=1) (g:=0) [.p cosZ] rfl rfl (by simp[cosZ,go_sem]) ?_,?_⟩
 ·simp[cosZ,ze7,AV.cells,PV.cells];decide
 simp[go_sem,toPV,retP,resP,zbq,zlh,resOf,cosA,cosB,St.setObj]
theorem yci:Sp P F.kq [] (.pure setA):=by
 refine Sp.of_vmE c.kq (by simp) ?_;simp[g.kq,go_sem];refine zaa (zu5 F.mw) rfl ?_;simp[go_sem];refine⟨_,Weak.anyCells (s:=1) (g:=0) [.p setZ] rfl rfl (by simp[setZ,go_sem]) ?_,?_⟩
 ·simp[setZ,ze7,AV.cells,PV.cells];decide
 simp[go_sem,toPV,retP,resP,zbq,zlh,resOf,setA,setB,St.setObj]
def zn1(k:Int):PV:=if k=1 then ratA else if k=2 then cosA else if k=3 then fraA else if k=4 then setA else polA
theorem zk0(k:Int)(hk:1<=k/\k<=5):Sp P F.am [.int .i64 k] (.pure (zn1 k)):=by
 have:k=1\/k=2\/k=3\/k=4\/k=5:=by omega
 rcases this with rfl|rfl|rfl|rfl|rfl
 ·refine Sp.vz c.am fun _=>?_;simp[g.am,go_sem];refine zaa zhj rfl ?_;simp[go_sem,zn1,ratA]
 ·refine Sp.vz c.am fun _=>?_;simp[g.am,go_sem];refine zaa z91 rfl ?_;simp[go_sem,zn1,cosA,cosB]
 ·refine Sp.vz c.am fun _=>?_;simp[g.am,go_sem];refine zaa zue rfl ?_;simp[go_sem,zn1,fraA,fraB]
 ·refine Sp.vz c.am fun _=>?_;simp[g.am,go_sem];refine zaa yci rfl ?_;simp[go_sem,zn1,setA,setB]
 ·refine Sp.vz c.am fun _=>?_;simp[g.am,go_sem];refine zaa zo1 rfl ?_;simp[go_sem,zn1,polA]
theorem ztd(k:Int):Sp P F.gr [.int .i64 k] (.pure (.bool (decide (1<=k/\k<=5)))):=by refine Sp.vz c.gr fun _=>?_;simp[g.gr,go_sem];refine⟨fun h=>by simp[h],fun h=>by simp[show ¬ 1<=k by omega]⟩
theorem zzn(k:Int):Sp P F.gv [.int .i64 k] (.pure (.bool (!decide (1<=k/\k<=5)))):=by refine Sp.vz c.gv fun _=>?_;simp[g.gv,go_sem];refine zaa (ztd k) rfl ?_;simp[go_sem]
theorem zex(r:GRing):Sp P F.bo [enc r] (.pure (.bool r.ok)):=by
 refine Sp.vz c.bo fun hok=>?_;simp[g.bo,go_sem];refine⟨fun h6=>⟨fun h2=>⟨fun h3=>?_,fun h3=>?_⟩,fun h2=>?_⟩,fun h6=>?_⟩
 ·refine zaa (ydy r.parts F.gv [] (fun k => !decide (1<=k/\k<=5)) (by omega) fun k _=>zzn k) rfl ?_;have:r.ok = !(r.parts.any fun k => !decide (1<=k/\k<=5)):=by
   rw[Bool.eq_iff_iff];simp only[GRing.ok,ym0 h6,decide_eq_true_eq,yr5,yrw];constructor
   ·intro h x hx;have:=h.2.2 x hx;simp[this]
   ·intro h;exact⟨by omega,by omega,fun k hk=>by have:=h k hk;simpa using this⟩
  simp[go_sem,this]
 ·simp[GRing.ok,h6];intro h;omega
 ·simp[GRing.ok,h6];intro h;omega
 ·refine zaa (ztd r.kind) rfl ?_;by_cases hk:1<=r.kind/\r.kind<=5
  ·simp[go_sem,hk,GRing.ok,h6]
  ·have:r.ok=false:=by simp only[GRing.ok,ym1 h6,decide_eq_false_iff_not];omega
   simp[go_sem,hk,this]
theorem zub(w:GW)(q:GRat)(c:Int)(i:Bool)(s:UInt64)(p:List GMono)(ps:List GW):w=.mk q c i s p ps ↔ w.q=q/\w.cost=c/\w.inf=i/\w.set=s/\w.poly=p/\w.parts=ps:=by cases w;simp[GW.q,GW.cost,GW.inf,GW.set,GW.poly,GW.parts]
theorem zxv(w:GW)(hw:w.sm 1048576):Sp P F.d5 [enc w] (.pure (.bool (decide (w.si 1)))):=by
 refine Sp.vz c.d5 fun _=>?_;simp[g.d5,go_sem];refine zaa (zm7 w.q (hw.q.mono (by omega))) rfl ?_;rcases ymz w.q.valid with hv|hv
 ·simp[go_sem,hv];refine zab (ze5 w hw (.mk w.q 0 false 0 [] [])) ?_;simp[go_sem];rw[si1,zub];simp[hv];exact⟨fun⟨a,b,c,d,e⟩=>⟨e,b,a,c,d⟩,fun⟨e,b,a,c,d⟩=>⟨a,b,c,d,e⟩⟩
 ·have:¬ w.si 1:=fun h=>by have:=(si1.1 h).2.2.2.2.2;rw[hv]at this;cases this
  simp[go_sem,hv,this]
theorem z8d(w:GW)(hw:w.sm 1048576):Sp P F.ej [enc w] (.pure (.bool (decide (w.si 5)))):=by
 refine Sp.vz c.ej fun _=>?_;simp[g.ej,go_sem];refine zaa (ztn w.poly hw.poly (by have:=hw.len;omega)) rfl ?_;by_cases hv:PVal w.poly
 ·simp[go_sem,hv];refine zab (ze5 w hw (.mk gr0 0 false 0 w.poly [])) ?_;simp[go_sem];rw[si5,zub];simp[hv];exact⟨fun⟨a,b,c,d,e⟩=>⟨e,a,c,b,d⟩,fun⟨e,a,c,b,d⟩=>⟨a,b,c,d,e⟩⟩
 ·have:¬ w.si 5:=fun h=>hv (si5.1 h).2.2.2.2.2;simp[go_sem,hv,this]
theorem z7v(w:GW)(hw:w.sm 1048576):Sp P F.cm [enc w] (.pure (.bool (decide (w.si 4)))):=by refine Sp.vz c.cm fun _=>?_;simp[g.cm,go_sem];refine zab (ze5 w hw (.mk gr0 0 false w.set [] [])) ?_;simp[go_sem];rw[si4,zub];simp;exact⟨fun⟨a,b,c,d,e⟩=>⟨e,a,c,b,d⟩,fun⟨e,a,c,b,d⟩=>⟨a,b,c,d,e⟩⟩
theorem z95(w:GW)(hw:w.sm 1048576):Sp P F.b8 [enc w] (.pure (.bool (decide (w.si 2)))):=by
 refine Sp.vz c.b8 fun _=>?_;simp[g.b8,go_sem];have no:¬ (0<=w.cost/\w.cost<=1099511627776/\(w.inf=true->w.cost=0))->¬ w.si 2:=fun h h2=>h (si2.1 h2).2.2.2.2;refine⟨fun h1=>⟨fun h2=>?_,fun h2=>?_⟩,fun h1=>?_⟩
 ·rcases ymz w.inf with hi|hi
  ·simp[go_sem,hi];refine⟨fun h3=>?_,fun h3=>no (fun h=>h3 (h.2.2 hi))⟩;refine zaa (ze5 w hw (.mk gr0 w.cost true 0 [] [])) (by simp[go_sem,hi]) ?_;simp[go_sem];rw[si2,zub];simp[hi,h3];exact⟨fun⟨a,b,c,d⟩=>⟨d,a,b,c⟩,fun⟨d,a,b,c⟩=>⟨a,b,c,d⟩⟩
  ·simp[go_sem,hi];refine zaa (ze5 w hw (.mk gr0 w.cost false 0 [] [])) (by simp[go_sem,hi]) ?_;simp[go_sem];rw[si2,zub];simp[hi,h1,h2];exact⟨fun⟨a,b,c,d⟩=>⟨d,a,b,c⟩,fun⟨d,a,b,c⟩=>⟨a,b,c,d⟩⟩
 ·exact no (by omega)
 ·exact no (by omega)
theorem yck:Sp P F.i7 [.int .i64 1,.int .i64 1] (.pure (.tup [enc (rto 1),.int .i64 0])):=by have h:=z72 1 1 (by omega) (by omega);have hd:Rat.divInt 1 1=1:=rfl;simp[hd]at h;exact h
theorem z0h:Sp P F.lj [.int .i64 1] (.pure (enc (.mk (rto 1) 0 false 0 [] []:GW))):=by refine Sp.vz c.lj fun _=>?_;simp[g.lj,go_sem];refine zaa yck rfl ?_;simp[go_sem]
theorem yhd{x y:Rat}:x<y ↔ (x - y).num<0:=by
 rw[Rat.lt_iff_sub_pos];have:(x - y) = -(y - x):=by rw[Rat.neg_sub]
 rw[this,Rat.neg_num];have h1:0<=y - x ↔ 0<=(y - x).num:=Rat.num_nonneg.symm;have h2:(y - x)=0 ↔ (y - x).num=0:=Rat.num_eq_zero.symm;rw[Rat.lt_iff_le_and_ne,h1,ne_comm,Ne,h2];omega
theorem z8r(x y:Rat):(x - y).num = -(y - x).num:=by
 have:(x - y) = -(y - x):=by rw[Rat.neg_sub]
 rw[this,Rat.neg_num]
theorem z2l{x y:Rat}:0<sgnR (x - y) ↔ y<x:=by rw[yhd];have:=z8r x y;unfold sgnR;(repeat' split)<;>omega
theorem ygh{x y:Rat}:sgnR (x - y)<=0 ↔ x<=y:=by rw[<- Rat.not_lt,<- z2l];omega
theorem z9i(w:GW)(hw:w.sm 1048576):Sp P F.ch [enc w] (.pure (.bool (decide (w.si 3)))):=by
 refine Sp.vz c.ch fun _=>?_;simp[g.ch,go_sem];refine zaa zhj rfl ?_;simp[go_sem,ratA];refine zab (zxv w hw) ?_;have i3:w.si 3 ↔ w.si 1/\0<=w.q.v/\w.q.v<=1:=by rw[si3,si1];exact⟨fun⟨a,b,c,d,e,f,g,h⟩=>⟨⟨a,b,c,d,e,f⟩,g,h⟩,fun⟨⟨a,b,c,d,e,f⟩,g,h⟩=>⟨a,b,c,d,e,f,g,h⟩⟩
 by_cases h1:w.si 1
 ·simp[go_sem,h1];refine zaa (zmc w.q (hw.q.mono (by omega))) rfl ?_;simp[go_sem];refine⟨fun h2=>?_,fun h2=>?_⟩
  ·refine zaa z0h rfl ?_;simp[go_sem];refine zaa (znc w.q (rto 1) hw.q (zm9.mono (by omega))) rfl ?_;simp[go_sem];rw[zbe];have a1:=zgl.1 h2;rw[ygh,i3];simp[h1,a1]
  ·have:¬ 0<=w.q.v:=fun h=>by have:=zgl.2 h;omega
   simp[i3,this]
 ·simp[go_sem,i3,h1]
def zb3(k:Int):GW:=.mk gr0 0 (decide (k=2)) 0 [] []
def GRing.zero(r:GRing):GW:=if r.ok then .mk gr0 0 (decide (r.kind=2)) 0 [] (r.parts.map zb3)else gw0
theorem ybi(r:GRing)(h:r.parts=[]):Sp P F.ar [enc r] (.pure (enc r.zero)):=by
 refine Sp.vz c.ar fun _=>?_;simp[g.ar,go_sem];refine zaa (zax r) rfl ?_;rcases ymz r.ok with hr0|hr0;rotate_left
 ·simp[hr0,GRing.zero,gw0,go_sem]
 simp[hr0,go_sem];refine zan fun R hn hr hx=>?_;simp[g.og,h,go_sem];refine hx _ _ ?_;simp[hr0,GRing.zero,h,go_sem]
theorem zgh(r:GRing):Sp P F.ar [enc r] (.pure (enc r.zero)):=by
 refine Sp.vz c.ar fun _=>?_;simp[g.ar,go_sem];refine zaa (zax r) rfl ?_;rcases ymz r.ok with hr0|hr0;rotate_left
 ·simp[hr0,GRing.zero,gw0,go_sem]
 simp[hr0,go_sem]
 refine zai (S:=fun k:Nat=>mkSt [(1,.ptr 1 0 0 0),(2,.ptr 2 0 0 0),(3,.ptr 3 0 0 0),(4,.p (.int .i64 k))]
   [(1,⟨2,[.p (enc r)]⟩),(2,⟨8,[.agg [.p (.bool false),.nil,.nil,.p (.int .i64 0),.p (.bool false),.p (.int .u64 0),.nil,.nil]]⟩),
    (3,⟨8,[.agg [.p (.bool false),.nil,.nil,.p (.int .i64 0),.p (.bool (decide (r.kind=2))),.p (.int .u64 0),.nil,.own 4 0 0 k]]⟩),(4,⟨8,avs ((r.parts.map zb3).take k)⟩)])
  (I:=fun k=>k<=r.parts.length) (m:=fun k=>r.parts.length - k) 0
  ((Weak.nilCell (s0:=3) (g0:=0) (i:=7) (s:=77) (sz:=8) rfl).trans (Weak.to [1,2,3,4] [((1,0),1),((2,0),2),((3,0),3),((77,0),4)] (by simp[go_sem]))) (by omega) ?_
 rintro k h1 R hn hr hx;have hlen:r.parts.length<=3:=by
  by_cases h6:r.kind=6
  ·exact(GRing.ok_parts hr0 h6).2.1
  ·simp[(GRing.ok_kind hr0 h6).2.2]
 have e1:=i64s k (by omega);simp[g.og,mkSt,go_sem];refine⟨fun hk=>?_,fun hk=>hx _ _ ?_⟩
 ·have h6:r.kind=6:=by
   by_cases h6:r.kind=6
   ·exact h6
   ·have:=(GRing.ok_kind hr0 h6).2.2;rw[this]at hk;simp at hk
  have hpk:=(GRing.ok_parts hr0 h6).2.2 _ (ym3 hk);refine zaa (zjr r k hk) rfl ?_;simp[go_sem];refine zaa (ybi ⟨r.parts[k],[]⟩ rfl) rfl ?_;have hz:(⟨r.parts[k],[]⟩:GRing).zero=zb3 r.parts[k]:=by
   have h7:r.parts[k]≠6:=by omega
   simp[GRing.zero,GRing.ok,h7,hpk,zb3]
  have hk':k<(r.parts.map zb3).length:=by simpa using hk
  rw[hz];simp[e1,go_sem];refine⟨by omega,hn (k+1) _ (Weak.to [1,2,3,4] [((1,0),1),((2,0),2),((3,0),3),((28,0),4)] (by simp[go_sem,ymr hk',zcs])) (by omega) (by omega)⟩
 ·have:k=r.parts.length:=by omega
  subst this;have ht:(r.parts.map zb3).take r.parts.length=r.parts.map zb3:=by rw[ymq (by simp)]
  simp[hr0,GRing.zero,go_sem];simp only[ht]
theorem yhk(n:Nat):gw0.sm n:=.mk (zg6 n) (by intro m hm;simp at hm) (by simp) (by simp) (by simp)
theorem z0o(r:GRing)(w:GW)(hw:w.sm 1048576):Sp P F.j4 [enc r,enc w] (.pure (.bool (decide (w=r.zero)))):=by refine Sp.vz c.j4 fun _=>?_;simp[g.j4,go_sem];refine zab (zgh r) ?_;simp[go_sem];refine zab (zoj w hw r.zero) ?_;simp[go_sem]
noncomputable def GW.tk(r:GRing)(w:GW):GW:=if w.chk r then w else r.zero
theorem zoa:gr0.valid=true:=by have:=zbf 0;rw[zce]at this;exact this
theorem si_q{k:Int}{w:GW}(h:w.si k):w.q.valid=true:=by
 by_cases h1:k=1
 ·exact h.2.2.2.2.2.1 h1
 ·by_cases h3:k=3
  ·exact(h.2.2.2.2.2.2.2.1 h3).1
  ·rw[h.2.1 h1 h3];exact zoa
theorem si_p{k:Int}{w:GW}(h:w.si k):PVal w.poly:=by
 by_cases h1:k=5
 ·exact h.2.2.2.2.2.2.2.2 h1
 ·rw[h.2.2.2.2.1 h1];exact zhp
theorem yil{r:GRing}{w:GW}(h:w.chk r):w.q.valid=true:=by
 by_cases h6:r.kind=6
 ·have:=(h.2.2 h6).2.1;rw[this];exact zoa
 ·exact si_q (h.2.1 h6)
theorem zl4{r:GRing}{w:GW}(h:w.chk r):PVal w.poly:=by
 by_cases h6:r.kind=6
 ·have:=(h.2.2 h6).2.1;rw[this];exact zhp
 ·exact si_p (h.2.1 h6)
theorem zem{k:Int}(h:1<=k/\k<=5):(⟨k,[]⟩:GRing).ok=true:=by
 have h7:k≠6:=by omega
 simp[GRing.ok,h7,h]
theorem zdh{r:GRing}{w:GW}(h:w.chk r)(h6:r.kind=6){i:Nat}(hi:i<r.parts.length)(hi':i<w.parts.length):w.parts[i].chk ⟨r.parts[i],[]⟩:=by have hp:=(GRing.ok_parts h.1 h6).2.2 _ (ym3 hi);refine⟨zem hp,fun _=>(h.2.2 h6).2.2 i hi hi',fun h'=>?_⟩;simp at h';omega
theorem ybz(r:GRing)(w:GW)(hw:w.sm 1048576)(h:w.parts=[]):Sp P F.ay [enc r,enc w] (.pure (enc (w.tk r))):=by
 refine Sp.vz c.ay fun _=>?_;simp[g.ay,go_sem];refine zab (zkd r w hw) ?_;by_cases hc:w.chk r;rotate_left
 ·simp[hc,GW.tk,go_sem];refine zab (zgh r) ?_;simp[go_sem]
 simp[hc,GW.tk,go_sem];refine zaa (zdz w.q (hw.q.mono (by omega))) rfl ?_;rw[zf0 (yil hc)];simp[go_sem];refine zaa (zh8 w.poly hw.poly (by have:=hw.len;omega)) rfl ?_;rw[zoz (zl4 hc)];simp[go_sem];refine zan fun R hn hr hx=>?_;simp[g.om,h,go_sem];refine hx _ _ ?_;simp[h,go_sem]
theorem zaz(r:GRing)(w:GW)(hw:w.sm 1048576):Sp P F.ay [enc r,enc w] (.pure (enc (w.tk r))):=by
 refine Sp.vz c.ay fun _=>?_;simp[g.ay,go_sem];refine zab (zkd r w hw) ?_;by_cases hc:w.chk r;rotate_left
 ·simp[hc,GW.tk,go_sem];refine zab (zgh r) ?_;simp[go_sem]
 simp[hc,GW.tk,go_sem];refine zaa (zdz w.q (hw.q.mono (by omega))) rfl ?_;rw[zf0 (yil hc)];simp[go_sem];refine zaa (zh8 w.poly hw.poly (by have:=hw.len;omega)) rfl ?_;rw[zoz (zl4 hc)];simp[go_sem]
 refine zai (S:=fun k:Nat=>mkSt [(2,.ptr 1 0 0 0),(3,.ptr 2 0 0 0),(4,.ptr 3 0 0 0),(5,.ptr 4 0 0 0),(6,.p (.int .i64 k))]
   [(1,⟨2,[.p (enc r)]⟩),(2,⟨8,[.p (enc w)]⟩),(3,⟨8,[.agg [.p (.bool false),.nil,.nil,.p (.int .i64 0),.p (.bool false),.p (.int .u64 0),.nil,.nil]]⟩),
    (4,⟨8,[.agg [.p (.bool w.q.neg),.p (.sl (ens w.q.num)),.p (.sl (ens w.q.den)),.p (.int .i64 w.cost),.p (.bool w.inf),.p (.int .u64 w.set.toNat),.p (.sl (ens w.poly)),.own 5 0 0 k]]⟩),(5,⟨8,avs (w.parts.take k)⟩)])
  (I:=fun k=>k<=w.parts.length) (m:=fun k=>w.parts.length - k) 0
  ((Weak.nilCell (s0:=5) (g0:=0) (i:=7) (s:=77) (sz:=8) rfl).trans (Weak.to [2,3,4,5,6] [((2,0),1),((3,0),2),((4,0),3),((5,0),4),((77,0),5)] (by simp[go_sem]))) (by omega) ?_
 rintro k h1 R hn hr hx;have hlen:=hw.plen;have e1:=i64s k (by omega);simp[g.om,mkSt,go_sem];refine⟨fun hk=>?_,fun hk=>hx _ _ ?_⟩
 ·have h6:r.kind=6:=by
   by_cases h6:r.kind=6
   ·exact h6
   ·have:=(hc.2.1 h6).1;rw[this]at hk;simp at hk
  have hl:=(hc.2.2 h6).1;have hkr:k<r.parts.length:=by omega
  refine zaa (zjr r k hkr) rfl ?_;simp[go_sem];refine zae hk ?_;have hpart:=zdh hc h6 hkr hk;have hnil:w.parts[k].parts=[]:=((hc.2.2 h6).2.2 k hkr hk).1;refine zab (ybz ⟨r.parts[k],[]⟩ w.parts[k] (hw.parts _ (ym3 hk)) hnil) ?_;have ht:w.parts[k].tk ⟨r.parts[k],[]⟩=w.parts[k]:=ym0 hpart;rw[ht];have hts:avs (w.parts.take (k+1))=avs (w.parts.take k)++[.p (enc w.parts[k])]:=by rw[ymr hk,zcs];rfl
  simp[e1,go_sem];refine⟨by omega,hn (k+1) _ (Weak.to [2,3,4,5,6] [((1,0),1),((2,0),2),((3,0),3),((4,0),4),((45,0),5)] (by simp[go_sem,hts])) (by omega) (by omega)⟩
 ·have:k=w.parts.length:=by omega
  subst this;simp[go_sem]
def kF(a b c d e:FuncId)(k:Int):FuncId:=if k=1 then a else if k=2 then b else if k=3 then c else if k=4 then d else e
def kF0:=kF F.d5 F.b8 F.ch F.cm F.ej
def kF1:=kF F.bg F.b9 F.bg F.cn F.ep
def kF2:=kF F.iq F.mu F.iq F.mw F.od
def kF3:=kF F.d7 F.cd F.ef F.cq F.eq
def kC3(k:Int):List PV:=if k=3 then[.ref fraZ]else[]
def kF4:=kF F.bh F.bi F.bh F.cr F.eu
theorem zet(k:Int)(hk:1<=k/\k<=5):∃ f5 f6 f7 f8 c5 c8,zn1 k=.agg [.fn (kF0 k) [],.fn (kF1 k) [],.fn (kF2 k) [],.fn (kF3 k) (kC3 k),.fn (kF4 k) [],.fn f5 c5,.fn f6 [],.fn f7 [],.fn f8 c8]:=by
 have:k=1\/k=2\/k=3\/k=4\/k=5:=by omega
 rcases this with rfl|rfl|rfl|rfl|rfl<;>exact⟨_,_,_,_,_,_,rfl⟩
theorem z6d(k:Int)(hk:1<=k/\k<=5)(w:GW)(hw:w.sm 1048576):Sp P (kF0 k) [enc w] (.pure (.bool (decide (w.si k)))):=by
 have:k=1\/k=2\/k=3\/k=4\/k=5:=by omega
 rcases this with rfl|rfl|rfl|rfl|rfl
 ·exact zxv w hw
 ·exact z95 w hw
 ·exact z9i w hw
 ·exact z7v w hw
 ·exact z8d w hw
theorem zxu:Sp P F.bg [] (.pure (enc (.mk gr0 0 false 0 [] []:GW))):=by refine Sp.vz c.bg fun _=>?_;simp[g.bg,go_sem]
theorem z7u:Sp P F.cn [] (.pure (enc (.mk gr0 0 false 0 [] []:GW))):=by refine Sp.vz c.cn fun _=>?_;simp[g.cn,go_sem]
theorem z8c:Sp P F.ep [] (.pure (enc (.mk gr0 0 false 0 [] []:GW))):=by refine Sp.vz c.ep fun _=>?_;simp[g.ep,go_sem]
theorem z94:Sp P F.b9 [] (.pure (enc (.mk gr0 0 true 0 [] []:GW))):=by refine Sp.vz c.b9 fun _=>?_;simp[g.b9,go_sem]
theorem zw2(k:Int)(hk:1<=k/\k<=5):Sp P (kF1 k) [] (.pure (enc (zb3 k))):=by
 have:k=1\/k=2\/k=3\/k=4\/k=5:=by omega
 rcases this with rfl|rfl|rfl|rfl|rfl
 ·exact zxu
 ·exact z94
 ·exact zxu
 ·exact z7u
 ·exact z8c
theorem zwn(r:GRing)(hp:∀ k∈r.parts,1<=k/\k<=5)(hl:r.parts.length<=3)(f:FuncId)(caps:List PV)(out:List GW)(ho:out.length=r.parts.length)
  (hf:∀ i,(h:i<r.parts.length)->(h':i<out.length)->Sp P f (zn1 r.parts[i]::.int .i64 i::caps) (.pure (enc out[i]))) :
  Sp P F.dv [enc r,.fn f caps] (.pure (enc (.mk gr0 0 false 0 [] out:GW))):=by
 refine Sp.vz c.dv fun _=>?_;simp[g.dv,go_sem]
 refine zai (S:=fun k:Nat=>mkSt [(1,.p (.fn f caps)),(4,.ptr 1 0 0 0),(5,.ptr 2 0 0 0),(9,.p (.sl (ens r.parts))),(10,.p (.int .i64 r.parts.length)),(11,.p (.int .i64 k))]
   [(1,⟨8,[.agg [.p (.bool false),.nil,.nil,.p (.int .i64 0),.p (.bool false),.p (.int .u64 0),.nil,.nil]]⟩),
    (2,⟨8,[.agg [.p (.bool false),.nil,.nil,.p (.int .i64 0),.p (.bool false),.p (.int .u64 0),.nil,.own 3 0 0 k]]⟩),(3,⟨8,avs (out.take k)⟩)])
  (I:=fun k=>k<=r.parts.length) (m:=fun k=>r.parts.length - k) 0
  ((Weak.nilCell (s0:=5) (g0:=0) (i:=7) (s:=77) (sz:=8) rfl).trans (Weak.to [1,4,5,9,10,11] [((4,0),1),((5,0),2),((77,0),3)] (by simp[go_sem]))) (by omega) ?_
 rintro k h1 R hn hr hx;have e1:=i64s k (by omega);simp[g.qp,mkSt,go_sem];refine⟨fun hk=>?_,fun hk=>hx _ _ ?_⟩
 ·have hk':k<out.length:=by omega
  refine zae hk ?_
  try simp[go_sem]
  refine zaa (zk0 r.parts[k] (hp _ (ym3 hk))) rfl ?_;obtain⟨f5,f6,f7,f8,c5,c8,hA⟩:=zet r.parts[k] (hp _ (ym3 hk));have hf':=hf k hk hk';rw[hA]at hf';simp[hA,go_sem];refine zaa hf' (zb7 rfl (zb7 rfl (zgs _ _))) ?_;have hts:avs (out.take (k+1))=avs (out.take k)++[.p (enc out[k])]:=by rw[ymr hk',zcs];rfl
  simp[e1,go_sem];exact⟨⟨by omega,by omega⟩,hn (k+1) _ (Weak.to [1,4,5,9,10,11] [((1,0),1),((2,0),2),((24,0),3)] (by simp[go_sem,hts])) (by omega) (by omega)⟩
 ·have:k=out.length:=by omega
  subst this;simp[go_sem]
theorem z1i(k:Int)(hk:1<=k/\k<=5)(i:Int):Sp P F.gf [zn1 k,.int .i64 i] (.pure (enc (zb3 k))):=by obtain⟨f5,f6,f7,f8,c5,c8,hA⟩:=zet k hk;rw[hA];refine Sp.vz c.gf fun _=>?_;simp[g.gf,go_sem];refine zaa (zw2 k hk) rfl ?_;simp[go_sem]
theorem zgg(r:GRing):Sp P F.bb [enc r] (.pure (enc r.zero)):=by
 refine Sp.vz c.bb fun _=>?_;simp[g.bb,go_sem];refine zaa (zex r) rfl ?_;rcases ymz r.ok with hr0|hr0;rotate_left
 ·simp[hr0,GRing.zero,gw0,go_sem]
 simp[hr0,go_sem];refine⟨fun h6=>?_,fun h6=>?_⟩
 ·have hp:=GRing.ok_parts hr0 h6;refine zaa (zwn r hp.2.2 hp.2.1 F.gf [] (r.parts.map zb3) (by simp) fun i h h'=>by simpa using z1i r.parts[i] (hp.2.2 _ (List.getElem_mem h)) i) rfl ?_;simp[hr0,GRing.zero,h6,go_sem]
 ·have hk:=GRing.ok_kind hr0 h6;obtain⟨f5,f6,f7,f8,c5,c8,hA⟩:=zet r.kind ⟨hk.1,hk.2.1⟩;refine zaa (zk0 r.kind ⟨hk.1,hk.2.1⟩) rfl ?_;simp[hA,go_sem];refine zaa (zw2 r.kind ⟨hk.1,hk.2.1⟩) rfl ?_;simp[hr0,GRing.zero,hk.2.2,zb3,go_sem]
theorem zor(r:GRing)(w:GW)(hw:w.sm 1048576):Sp P F.dq [enc r,enc w] (.pure (.bool (decide (w.chk r)))):=by
 refine Sp.vz c.dq fun _=>?_;simp[g.dq,go_sem];refine zaa (zex r) rfl ?_;rcases ymz r.ok with hr0|hr0;rotate_left
 ·simp[hr0,GW.chk,go_sem]
 simp[hr0,go_sem];refine⟨fun h6=>?_,fun h6=>?_⟩;rotate_left
 ·have hk:=GRing.ok_kind hr0 h6;obtain⟨f5,f6,f7,f8,c5,c8,hA⟩:=zet r.kind ⟨hk.1,hk.2.1⟩;refine zaa (zk0 r.kind ⟨hk.1,hk.2.1⟩) rfl ?_;simp[hA,go_sem];refine zab (z6d r.kind ⟨hk.1,hk.2.1⟩ w hw) ?_;simp[GW.chk,hr0,h6,go_sem]
 have hp:=GRing.ok_parts hr0 h6;refine⟨fun hl=>?_,fun hl h=>?_⟩;rotate_left
 ·have:=(h.2.2 h6).1;omega
 have hl':w.parts.length=r.parts.length:=by omega
 refine zab (ze5 w hw (.mk gr0 0 false 0 [] w.parts)) ?_;simp[go_sem];refine⟨fun he=>?_,fun he h=>he (h.2.2 h6).2.1⟩
 refine zai (S:=fun k:Nat=>mkSt [(3,.ptr 1 0 0 0),(35,.p (.sl (ens r.parts))),(36,.p (.int .i64 r.parts.length)),(37,.p (.int .i64 k))] [(1,⟨8,[.p (enc w)]⟩)]) (I:=fun k=>k<=r.parts.length/\∀ i,(h:i<r.parts.length)->(h':i<w.parts.length)->i<k->w.parts[i].si r.parts[i]) (m:=fun k=>r.parts.length - k) 0
  (Weak.to [3,35,36,37] [((3,0),1)] (by simp[go_sem])) ⟨by omega,fun i h h' h0=>by omega⟩ ?_
 rintro k ⟨h7,h8⟩ R hn hr hx;have e1:=i64s k (by omega);simp[g.qi,mkSt,go_sem];refine⟨fun hk=>?_,fun hk=>hx _ _ ?_⟩
 ·have hk2:k<w.parts.length:=by omega
  have hpk:=hp.2.2 _ (ym3 hk);obtain⟨f5,f6,f7,f8,c5,c8,hA⟩:=zet r.parts[k] hpk;refine zae hk ?_
  try simp[go_sem]
  refine zaa (zk0 r.parts[k] hpk) rfl ?_;simp[hA,go_sem];refine zae hk2 ?_
  try simp[go_sem]
  refine zab (z6d r.parts[k] hpk w.parts[k] (hw.parts _ (ym3 hk2))) ?_;by_cases h9:w.parts[k].si r.parts[k]
  ·simp[h9,e1,go_sem];refine hn (k+1) _ (Weak.to [3,35,36,37] [((1,0),1)] (by simp[go_sem])) ⟨by omega,fun i h h' hi=>?_⟩ (by omega);by_cases hik:i<k
   ·exact h8 i h h' hik
   ·have:i=k:=by omega
    subst this;exact h9
  ·simp[h9,go_sem];refine hr _ ?_;have:¬ w.chk r:=fun h=>h9 ((h.2.2 h6).2.2 k hk hk2);simp[this,go_sem]
 ·have:w.chk r:=⟨hr0,fun h=>absurd h6 h,fun _=>⟨hl',he,fun i h h'=>h8 i h h' (by omega)⟩⟩;simp[this,go_sem]
theorem zd1(r:GRing)(w:GW)(hw:w.sm 1048576):Sp P F.gg [enc r,enc w] (.pure (enc (w.tk r))):=by
 refine Sp.vz c.gg fun _=>?_;simp[g.gg,go_sem];refine zab (zor r w hw) ?_;by_cases hc:w.chk r
 ·simp[hc,GW.tk,go_sem]
 ·simp[hc,GW.tk,go_sem];refine zab (zgg r) ?_;simp[go_sem]
def oneW(k:Int)(ps:List GW):GW:=.mk (if k=1\/k=3 then rto 1 else gr0) 0 false (if k=4 then 18446744073709551615 else 0) (if k=5 then zb6 1 else[]) ps
def GRing.one(r:GRing):GW:=if r.ok then oneW r.kind (r.parts.map fun k=>oneW k [])else gw0
theorem yg9:Sp P F.af [enc (⟨1,[]⟩:GRing)] (.pure (enc (oneW 1 []))):=by have hd:Rat.divInt 1 1=1:=rfl;have hof:=zho 1 1 (by omega) (by omega) (by omega);rw[hd]at hof;have hr0:(⟨1,[]⟩:GRing).ok=true:=zem (by omega);refine Sp.vz c.af fun _=>?_;simp[g.af,go_sem];refine zaa (zax ⟨1,[]⟩) rfl ?_;simp[hr0,go_sem];refine zaa hof rfl ?_;simp[go_sem];refine zan fun R hn hr hx=>?_;simp[g.m8,go_sem];refine hx _ _ ?_;simp[oneW,zb6,zbe,go_sem]
theorem yg8:Sp P F.af [enc (⟨2,[]⟩:GRing)] (.pure (enc (oneW 2 []))):=by have hd:Rat.divInt 1 1=1:=rfl;have hof:=zho 1 1 (by omega) (by omega) (by omega);rw[hd]at hof;have hr0:(⟨2,[]⟩:GRing).ok=true:=zem (by omega);refine Sp.vz c.af fun _=>?_;simp[g.af,go_sem];refine zaa (zax ⟨2,[]⟩) rfl ?_;simp[hr0,go_sem];refine zan fun R hn hr hx=>?_;simp[g.m8,go_sem];refine hx _ _ ?_;simp[oneW,zb6,zbe,go_sem]
theorem yg7:Sp P F.af [enc (⟨3,[]⟩:GRing)] (.pure (enc (oneW 3 []))):=by have hd:Rat.divInt 1 1=1:=rfl;have hof:=zho 1 1 (by omega) (by omega) (by omega);rw[hd]at hof;have hr0:(⟨3,[]⟩:GRing).ok=true:=zem (by omega);refine Sp.vz c.af fun _=>?_;simp[g.af,go_sem];refine zaa (zax ⟨3,[]⟩) rfl ?_;simp[hr0,go_sem];refine zaa hof rfl ?_;simp[go_sem];refine zan fun R hn hr hx=>?_;simp[g.m8,go_sem];refine hx _ _ ?_;simp[oneW,zb6,zbe,go_sem]
theorem yg6:Sp P F.af [enc (⟨4,[]⟩:GRing)] (.pure (enc (oneW 4 []))):=by have hd:Rat.divInt 1 1=1:=rfl;have hof:=zho 1 1 (by omega) (by omega) (by omega);rw[hd]at hof;have hr0:(⟨4,[]⟩:GRing).ok=true:=zem (by omega);refine Sp.vz c.af fun _=>?_;simp[g.af,go_sem];refine zaa (zax ⟨4,[]⟩) rfl ?_;simp[hr0,go_sem];refine zan fun R hn hr hx=>?_;simp[g.m8,go_sem];refine hx _ _ ?_;simp[oneW,zb6,zbe,go_sem]
theorem yg5:Sp P F.af [enc (⟨5,[]⟩:GRing)] (.pure (enc (oneW 5 []))):=by have hd:Rat.divInt 1 1=1:=rfl;have hof:=zho 1 1 (by omega) (by omega) (by omega);rw[hd]at hof;have hr0:(⟨5,[]⟩:GRing).ok=true:=zem (by omega);refine Sp.vz c.af fun _=>?_;simp[g.af,go_sem];refine zaa (zax ⟨5,[]⟩) rfl ?_;simp[hr0,go_sem];refine zaa hof rfl ?_;simp[go_sem];refine zaa (zhy (rto 1) (zm9.mono (by omega))) rfl ?_;simp[go_sem];refine zan fun R hn hr hx=>?_;simp[g.m8,go_sem];refine hx _ _ ?_;simp[oneW,zb6,zbe,go_sem]
theorem ya4(k:Int)(hk:1<=k/\k<=5):Sp P F.af [enc (⟨k,[]⟩:GRing)] (.pure (enc (oneW k []))):=by
 have:k=1\/k=2\/k=3\/k=4\/k=5:=by omega
 rcases this with rfl|rfl|rfl|rfl|rfl
 ·exact yg9
 ·exact yg8
 ·exact yg7
 ·exact yg6
 ·exact yg5
theorem z35(r:GRing):Sp P F.af [enc r] (.pure (enc r.one)):=by
 rcases ymz r.ok with hr0|hr0;rotate_left
 ·refine Sp.vz c.af fun _=>?_;simp[g.af,go_sem];refine zaa (zax r) rfl ?_;simp[hr0,GRing.one,gw0,go_sem]
 by_cases h6:r.kind=6;rotate_left
 ·have hk:=GRing.ok_kind hr0 h6;have he:r=⟨r.kind,[]⟩:=by rw[<- hk.2.2]
  have h1:r.one=oneW r.kind []:=by simp[GRing.one,hr0,hk.2.2]
  rw[h1,he];exact ya4 r.kind ⟨hk.1,hk.2.1⟩
 have hp:=GRing.ok_parts hr0 h6;refine Sp.vz c.af fun _=>?_;simp[g.af,go_sem];refine zaa (zax r) rfl ?_;simp[hr0,h6,go_sem]
 refine zai (S:=fun k:Nat=>mkSt [(1,.ptr 1 0 0 0),(2,.ptr 2 0 0 0),(3,.ptr 3 0 0 0),(4,.p (.int .i64 k))]
   [(1,⟨2,[.p (enc r)]⟩),(2,⟨8,[.agg [.p (.bool false),.nil,.nil,.p (.int .i64 0),.p (.bool false),.p (.int .u64 0),.nil,.nil]]⟩),
    (3,⟨8,[.agg [.p (.bool false),.nil,.nil,.p (.int .i64 0),.p (.bool false),.p (.int .u64 0),.nil,.own 4 0 0 k]]⟩),(4,⟨8,avs ((r.parts.map fun k=>oneW k []).take k)⟩)])
  (I:=fun k=>k<=r.parts.length) (m:=fun k=>r.parts.length - k) 0
  ((Weak.nilCell (s0:=3) (g0:=0) (i:=7) (s:=77) (sz:=8) rfl).trans (Weak.to [1,2,3,4] [((1,0),1),((2,0),2),((3,0),3),((77,0),4)] (by simp[go_sem,h6]))) (by omega) ?_
 rintro k h1 R hn hr hx;have e1:=i64s k (by omega);simp[g.m8,mkSt,go_sem];refine⟨fun hk=>?_,fun hk=>hx _ _ ?_⟩
 ·have hpk:=hp.2.2 _ (List.getElem_mem hk);refine zaa (zjr r k hk) rfl ?_;simp[go_sem];refine zaa (ya4 r.parts[k] hpk) rfl ?_;have hk':k<(r.parts.map fun k=>oneW k []).length:=by simpa using hk
  have hts:avs ((r.parts.map fun k=>oneW k []).take (k+1))=avs ((r.parts.map fun k=>oneW k []).take k)++[.p (enc (oneW r.parts[k] []))]:=by rw[ymr hk',zcs];simp;rfl
  simp[e1,go_sem];exact⟨⟨(yod h1).symm,by omega⟩,hn (k+1) _ (Weak.to [1,2,3,4] [((1,0),1),((2,0),2),((3,0),3),((39,0),4)] (by simp[go_sem,hts])) (by omega) (by omega)⟩
 ·have:k=r.parts.length:=by omega
  subst this;have ht:(r.parts.map fun k=>oneW k []).take r.parts.length=r.parts.map fun k=>oneW k []:=by rw[ymq (by simp)]
  simp[hr0,h6,GRing.one,oneW,go_sem];simp only[oneW]at ht;simp only[ht]
theorem zyc(x y:UInt64):orI .u64 x.toNat y.toNat=((x ||| y).toNat:Int):=by rw[zvz x.toNat_lt y.toNat_lt,UInt64.toNat_or]
def zap(k:Int)(v w:GW):GW :=
 if k=1 then .mk (rto (v.q.v+w.q.v)) 0 false 0 [] []
 else if k=2 then if v.inf=true\/(w.inf=false/\w.cost<v.cost)then w else v
 else if k=3 then if v.q.v<w.q.v then w else v
 else if k=4 then .mk gr0 0 false (v.set ||| w.set) [] []
 else .mk gr0 0 false 0 (padd v.poly w.poly) []
theorem z3n(v w:GW)(hv:v.sm 1048576)(hw:w.sm 1048576)(cv:v.chk ⟨1,[]⟩)(cw:w.chk ⟨1,[]⟩):Sp P F.aa [enc (⟨1,[]⟩:GRing),enc v,enc w] (.pure (enc (zap 1 v w))):=by have hr0:(⟨1,[]⟩:GRing).ok=true:=zem (by omega);have t1:v.tk ⟨1,[]⟩=v:=ym0 cv;have t2:w.tk ⟨1,[]⟩=w:=ym0 cw;have k1:=zaz ⟨1,[]⟩ v hv;have k2:=zaz ⟨1,[]⟩ w hw;rw[t1]at k1;rw[t2]at k2;refine Sp.vz c.aa fun _=>?_;simp[g.aa,go_sem];refine zaa (zax ⟨1,[]⟩) rfl ?_;simp[hr0,go_sem];refine zab k1 ?_;simp[go_sem];refine zab k2 ?_;simp[go_sem];refine zaa (zwy v.q w.q hv.q hw.q) rfl ?_;simp[zap,go_sem]
theorem z3m(v w:GW)(hv:v.sm 1048576)(hw:w.sm 1048576)(cv:v.chk ⟨2,[]⟩)(cw:w.chk ⟨2,[]⟩):Sp P F.aa [enc (⟨2,[]⟩:GRing),enc v,enc w] (.pure (enc (zap 2 v w))):=by
 have hr0:(⟨2,[]⟩:GRing).ok=true:=zem (by omega);have t1:v.tk ⟨2,[]⟩=v:=ym0 cv;have t2:w.tk ⟨2,[]⟩=w:=ym0 cw;have k1:=zaz ⟨2,[]⟩ v hv;have k2:=zaz ⟨2,[]⟩ w hw;rw[t1]at k1;rw[t2]at k2;refine Sp.vz c.aa fun _=>?_;simp[g.aa,go_sem];refine zaa (zax ⟨2,[]⟩) rfl ?_;simp[hr0,go_sem];refine zab k1 ?_;simp[go_sem];refine zab k2 ?_;simp[go_sem];rcases ymz v.inf with h1|h1
 ·simp[zap,h1,go_sem]
 rcases ymz w.inf with h2|h2
 ·simp[zap,h1,h2,go_sem]
 simp[zap,h1,h2,go_sem];refine⟨fun h3=>by simp[h3,h2,go_sem],fun h3=>by simp[show ¬ w.cost<v.cost by omega,h1,go_sem]⟩
theorem z3l(v w:GW)(hv:v.sm 1048576)(hw:w.sm 1048576)(cv:v.chk ⟨3,[]⟩)(cw:w.chk ⟨3,[]⟩):Sp P F.aa [enc (⟨3,[]⟩:GRing),enc v,enc w] (.pure (enc (zap 3 v w))):=by
 have hr0:(⟨3,[]⟩:GRing).ok=true:=zem (by omega);have t1:v.tk ⟨3,[]⟩=v:=ym0 cv;have t2:w.tk ⟨3,[]⟩=w:=ym0 cw;have k1:=zaz ⟨3,[]⟩ v hv;have k2:=zaz ⟨3,[]⟩ w hw;rw[t1]at k1;rw[t2]at k2;refine Sp.vz c.aa fun _=>?_;simp[g.aa,go_sem];refine zaa (zax ⟨3,[]⟩) rfl ?_;simp[hr0,go_sem];refine zab k1 ?_;simp[go_sem];refine zab k2 ?_;simp[go_sem];refine zaa (zyr v.q w.q hv.q hw.q) rfl ?_;by_cases h1:v.q.v<w.q.v
 ·simp[zap,h1,go_sem]
 ·simp[zap,h1,go_sem]
theorem z3k(v w:GW)(hv:v.sm 1048576)(hw:w.sm 1048576)(cv:v.chk ⟨4,[]⟩)(cw:w.chk ⟨4,[]⟩):Sp P F.aa [enc (⟨4,[]⟩:GRing),enc v,enc w] (.pure (enc (zap 4 v w))):=by have hr0:(⟨4,[]⟩:GRing).ok=true:=zem (by omega);have t1:v.tk ⟨4,[]⟩=v:=ym0 cv;have t2:w.tk ⟨4,[]⟩=w:=ym0 cw;have k1:=zaz ⟨4,[]⟩ v hv;have k2:=zaz ⟨4,[]⟩ w hw;rw[t1]at k1;rw[t2]at k2;refine Sp.vz c.aa fun _=>?_;simp[g.aa,go_sem];refine zaa (zax ⟨4,[]⟩) rfl ?_;simp[hr0,go_sem];refine zab k1 ?_;simp[go_sem];refine zab k2 ?_;simp[go_sem];simp[zap,zyc,go_sem]
theorem z3j(v w:GW)(hv:v.sm 1048576)(hw:w.sm 1048576)(cv:v.chk ⟨5,[]⟩)(cw:w.chk ⟨5,[]⟩)(D B B':Nat)(h1:pqb D B v.poly)(h2:pqb D B' w.poly)(hD0:D≠0)(hD:D<4294967296^1048576)(hB:B+B'<4294967296^1048576):Sp P F.aa [enc (⟨5,[]⟩:GRing),enc v,enc w] (.pure (enc (zap 5 v w))):=by have k3:=z6t v.poly w.poly D B B' (zl4 cv) (zl4 cw) h1 h2 hD0 hD hB;clear hD hB;have hr0:(⟨5,[]⟩:GRing).ok=true:=zem (by omega);have t1:v.tk ⟨5,[]⟩=v:=ym0 cv;have t2:w.tk ⟨5,[]⟩=w:=ym0 cw;have k1:=zaz ⟨5,[]⟩ v hv;have k2:=zaz ⟨5,[]⟩ w hw;rw[t1]at k1;rw[t2]at k2;refine Sp.vz c.aa fun _=>?_;simp[g.aa,go_sem];refine zaa (zax ⟨5,[]⟩) rfl ?_;simp[hr0,go_sem];refine zab k1 ?_;simp[go_sem];refine zab k2 ?_;simp[go_sem];refine zaa k3 rfl ?_;simp[zap,go_sem]
end Go.Ab
