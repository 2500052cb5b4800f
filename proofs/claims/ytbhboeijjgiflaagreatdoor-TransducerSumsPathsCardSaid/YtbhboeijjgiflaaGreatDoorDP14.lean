/-
Proofs for the law TransducerSumsPaths, part 14. Conditions: none.
-/
import Derived.Test.YtbhboeijjgiflaaGreatDoorDP13
set_option maxRecDepth 100000
set_option maxHeartbeats 4000000
set_option linter.all false
namespace Go.Ab
open Enc (enc)
def zcv(kc:List PV)(v:PV):List PV->List PV->List PV × List PV
 | .agg c::ks,x::vs=>if eqI c kc=true then(.agg c::ks,v::vs)else(.agg c::(zcv kc v ks vs).1,x::(zcv kc v ks vs).2)
 | _,_=>([.agg kc],[v])
theorem znv{M:Nat->Option Obj}{qs:List IntKind}{kc:List PV}{v:PV}{vals:List Value}(hok:zfq qs kc=true)(hr:PReps M kc vals):∀ {ks vs:List PV} {es:List MapEntry},ks.all (zf7 qs)=true->PReps M ks (es.map (·.key))->PReps M vs (es.map (·.val))->(es.map (·.key)).Nodup ->
  ((∀ e:MapEntry,e∈es->e.key ≠ .agg vals.toArray)->zcv kc v ks vs=(ks++[.agg kc],vs++[v]))/\∀ (j:Nat) (e:MapEntry),es[j]?=some e->e.key=.agg vals.toArray->zcv kc v ks vs=(ks,vs.set j v)
 | [],vs,es,_,h1,h2,_=>by
  cases es with
  | nil=>cases h2;exact⟨fun _=>rfl,fun j e h=>by simp at h⟩
  | cons e es=>cases h1
 | k::ks,vs,[],_,h1,_,_=>by cases h1
 | k::ks,vs,e::es,ha,h1,h2,hnd=>by
  simp only[yq4,ync]at ha;simp only[ymy]at h1 h2 hnd;cases h1 with
  | cons _ _ _ _ hk hks =>
   cases h2 with
   | cons x _ vs _ hv hvs =>
    obtain⟨i1,i2⟩:=znv (v:=v) hok hr ha.2 hks hvs (yo0.1 hnd).2;cases k<;>simp only[zf7,ymw,false_and]at ha;rename_i c;generalize hek:e.key=ek at hk hnd;cases hk with
    | agg _ us _ hus =>
     have heq:=zwh ha.1 hok hus hr;have hval:(Value.agg us.toArray=.agg vals.toArray) ↔ us=vals:=by
      constructor
      ·intro h;have:=congrArg (fun v=>match v with|Value.agg cs=>cs.toList|_=>[]) h;simpa using this
      ·rintro rfl;rfl
     by_cases hu:us=vals
     ·refine⟨fun h=>absurd (hek.trans (hval.2 hu)) (h e (by simp)),fun j e' hj hke=>?_⟩;have hput:zcv kc v (.agg c::ks) (x::vs)=(.agg c::ks,v::vs):=by simp[zcv,heq.2 hu]
      cases j with
      | zero=>exact hput
      | succ j =>
       exfalso;simp at hj;have hm:e'∈es:=yow hj;refine(yo0.1 hnd).1 (ym6.2 ⟨e',hm,?_⟩);rw[hke];exact(hval.2 hu).symm
     ·have hne:¬ eqI c kc=true:=fun h=>hu (heq.1 h);have hput:zcv kc v (.agg c::ks) (x::vs)=(.agg c::(zcv kc v ks vs).1,x::(zcv kc v ks vs).2):=by simp[zcv,hne]
      rw[hput];refine⟨fun h=>?_,fun j e' hj hke=>?_⟩
      ·rw[i1 fun x hx=>h x (by simp[hx])];rfl
      ·cases j with
       | zero=>simp at hj;subst hj;exact absurd (hval.1 (hek.symm.trans hke)) hu
       | succ j=>rw[i2 j e' (by simpa using hj) hke];rfl
theorem PReps.set{M:Nat->Option Obj}{vs:List PV}{xs:List Value}(i:Nat){r:PV}{x:Value}(h:PReps M vs xs)(hr:PRep M r x):PReps M (vs.set i r) (xs.set i x):=by
 induction i generalizing vs xs with
 | zero =>
  cases h with
  | nil=>exact .nil
  | cons v y vs xs h hs=>exact .cons _ _ _ _ hr hs
 | succ i ih =>
  cases h with
  | nil=>exact .nil
  | cons v y vs xs h hs=>exact .cons _ _ _ _ h (ih hs)
theorem PReps.snoc{M:Nat->Option Obj}:∀ {vs:List PV} {xs:List Value} {r:PV} {x:Value},PReps M vs xs->PRep M r x->PReps M (vs++[r]) (xs++[x])
 | _,_,_,_,.nil,h=>.cons _ _ _ _ h .nil
 | _,_,_,_,.cons _ _ _ _ h hs,k=>.cons _ _ _ _ h (PReps.snoc hs k)
theorem zqc{P:Program}{kt e:TypeId}{n:Nat}{q:IntKind}{M:Nat->Option Obj}(hk:P.underlying kt=some (.array n e))(he:P.underlying e=some (.int q))(hn:P.cellsOf kt=n)(hc:P.cellsOf e=1)(h0:0<P.types.size) :
  ∀ {ks:List PV} {es:List MapEntry},ks.all (zf7 (List.replicate n q))=true->PReps M ks (es.map (·.key))->∀ e∈es,∃ l,keyOf P kt e.key=some l
 | [],[],_,_,e,he=>by cases he
 | [],e::es,_,h,_,_=>by cases h
 | k::ks,[],_,h,_,_=>by cases h
 | k::ks,e::es,ha,h,e',he'=>by
  simp only[yq4,ync]at ha;simp only[ymy]at h;cases h with
  | cons _ _ _ _ hk0 hks =>
   rcases ym7.1 he' with rfl|he'
   ·obtain⟨ha,_⟩:=ha;cases k<;>simp only[zf7,ymw]at ha;generalize e'.key=ek at hk0;cases hk0 with
    | agg _ us _ hus=>exact zid hk he hn hc h0 ha hus
   ·exact zqc hk he hn hc h0 ha.2 hks e' he'
theorem zq2{P:Program}{w:World}{t kt et e:TypeId}{n:Nat}{q:IntKind}{M:Nat->Option Obj}{r:Nat}{ks vs kc:List PV}{v:PV}{vals:List Value}{x:Value}{es:Array MapEntry}{clock:Nat}
  (ht:P.underlying t=some (.map kt et)) (hk:P.underlying kt=some (.array n e)) (he:P.underlying e=some (.int q)) (hn:P.cellsOf kt=n) (hc:P.cellsOf e=1) (h0:0<P.types.size)
  (hb:w.heap[r]?=some (.map es clock)) (hm:z8x M ks vs es clock) (hks:ks.all (zf7 (List.replicate n q))=true) (hkc:zfq (List.replicate n q) kc=true) (hv:PReps M kc vals) (hone:∀ c∈kc,c.one=true) (hx:PRep M v x) :
  ∃ es' clock',(Instr.mapUpdate t (.map (some r)) (.agg vals.toArray) x).run P w=.ok () (ChangeMaps.setBlock w r (.map es' clock'))/\z8x M (zcv kc v ks vs).1 (zcv kc v ks vs).2 es' clock':=by
 obtain⟨m1,m2,m3,m4,m5⟩:=hm;have law:=zyt hk he hn hc;obtain⟨l,hl⟩:=zid hk he hn hc h0 hkc hv;have hall:=zqc hk he hn hc h0 hks m1;obtain⟨f1,f2⟩:=znv (v:=v) hkc hv hks m1 m2 m3;have hchk:=law.check w false hl;have hget:(getObj r).run P w=.ok (.map es clock) w:=MapKept.run_getObj_map hb;have hset:∀ o',(setObj r o').run P w=.ok () (ChangeMaps.setBlock w r o'):=fun o'=>MapKept.run_setObj_map o' hb;have hstays:=law.stays w hl;rcases law.find w hl es.toList hall with⟨g1,g2⟩|⟨j,e0,g1,g2,g3⟩
 ·refine⟨es.push ⟨.agg vals.toArray,x,clock⟩,clock+1,by simp[Instr.mapUpdate,run_underlying ht,hget,hchk,g1,hset,Result.andThen],?_⟩;rw[f1 g2];obtain⟨s1,s2,s3⟩:=MapKept.stamped_push ⟨m4,m5,m3⟩ (key:=.agg vals.toArray) (val:=x) g2;exact⟨by simpa using m1.snoc (.agg kc vals hone hv),by simpa using m2.snoc hx,s3,s1,s2⟩
 ·have hj:es[j]?=some e0:=by simpa using g2
  refine⟨es.modify j fun y=>{ y with key:=.agg vals.toArray,val:=x },clock,by simp[Instr.mapUpdate,run_underlying ht,hget,hchk,g1,hj,g3,hstays,hset,Result.andThen],?_⟩;rw[f2 j e0 g2 g3];have hkey:∀ e',es[j]?=some e'->({ e' with key:=.agg vals.toArray,val:=x }:MapEntry).key=e'.key:=fun e' he'=>by rw[hj]at he';cases he';exact g3.symm
  obtain⟨s1,s2,s3⟩:=MapKept.stamped_modify ⟨m4,m5,m3⟩ j (fun y=>{ y with key:=.agg vals.toArray,val:=x }) (fun _ _=>rfl) (fun e' _ he'=>hkey e' he');refine⟨?_,?_,s3,s1,s2⟩
  ·rw[MapKept.modify_keys j _ hkey];exact m1
  ·have:(es.modify j fun y=>{ y with key:=.agg vals.toArray,val:=x }).toList.map (·.val)=(es.toList.map (·.val)).set j x:=by
    apply yq2;intro i;simp only[ynb,Array.getElem?_toList,Array.getElem?_modify,yqe];by_cases hij:j=i
    ·subst hij;have:j<es.size:=(ynv.1 hj).1;simp[hj,this]
    ·simp[hij]
   rw[this];exact m2.set j hx
section
variable {P:Program} {K:Ctx} {Z Z':Cz} {st st' st1 st2:St} {w w':World} {a:Act} {N:Nat} {ex:Exit} {A B:Option FA} {Post:Exit->St->Option FA->Prop} {PostI:St->Option FA->Prop}
def fzFA(r:Nat):FA:=⟨r,fun _ _=>True,fun _ _ _ _ h=>h,true,false,fun _ _=>True,fun _ _ _ _ _ h=>h⟩
theorem zrn{d:Option Nat}{t kt et e:TypeId}{n:Nat}{q:IntKind}{x y z r:Nat}{ks vs kc:List PV}{v:PV}(ht:P.underlying t=some (.map kt et))(hk:P.underlying kt=some (.array n e))(he:P.underlying e=some (.int q))(hn:P.cellsOf kt=n)(hc:P.cellsOf e=1)(h0:0<P.types.size)
  (hx:st.get x=.p (.mp r ks vs)) (hy:st.get y=.p (.agg kc)) (hz:st.get z=.p v) (hks:ks.all (zf7 (List.replicate n q))=true) (hkc:zfq (List.replicate n q) kc=true)
  (hn1:zes (zcv kc v ks vs).1=true) (hn2:zes (zcv kc v ks vs).2=true)
  (k:PostI ⟨[],[]⟩ (some (zii r (zcv kc v ks vs).1 (zcv kc v ks vs).2))):MOp P N ⟨none,.raw (.mapUpdate t (.tmp x) (.tmp y) (.tmp z)),none⟩ st (some (fzFA r)) PostI:=by
 intro ops j o K Z w a Q Kt hN hj hcc hs hA hK;obtain⟨h1,h2,h3,h4⟩:=zc1 hcc;have hop:o.op=.mapUpdate t (.tmp x) (.tmp y) (.tmp z):=zqr h1;have hg:o.guard=none:=by
  cases hg:o.guard with
  | none=>rfl
  | some jb =>
   obtain⟨j,b⟩:=jb;rw[hg]at h2;simp only[zdf]at h2;split at h2<;>cases h2
 have hw:Region.wanted o (yielded ops a.tmps)=true:=by simp[Region.wanted,hg]
 have hd:o.dst=none:=h3.symm;have q1:=hs.slots x;have q2:=hs.slots y;have q3:=hs.slots z
 rw[hx]at q1;rw[hy]at q2;rw[hz]at q3;have e1:a.eval (.tmp x)=a.tmps.getD x Go.undef:=rfl;have e2:a.eval (.tmp y)=a.tmps.getD y Go.undef:=rfl;have e3:a.eval (.tmp z)=a.tmps.getD z Go.undef:=rfl;generalize a.tmps.getD x Go.undef=X at q1 e1;generalize a.tmps.getD y Go.undef=Y at q2 e2;generalize a.tmps.getD z Go.undef=V at q3 e3;have q3':=q3.inv_p;cases q1.inv_p with
 | mp _ _ _ es clock m0 m1 m2 m3 m4 m5 =>
  cases q2.inv_p with
  | agg _ vals hone hv =>
   have hb:=hs.heap.mem _ _ m0;obtain⟨es',clock',hrun,hm'⟩:=zq2 ht hk he hn hc h0 hb ⟨m1,m2,m3,m4,m5⟩ hks hkc hv hone q3';have hrlt:r<w.heap.size:=(ynv.1 hb).1;obtain⟨hA1,hA2⟩:K.M0 r=none/\(K.X0 r\/K.w0.heap.size<=r):=hA
   let M1:Nat->Option Obj:=fun b=>if b=r then none else Z.M b
   have hM1:∀ b o,M1 b=some o->b≠r/\Z.M b=some o:=fun b o h=>by
    simp only[M1]at h;split at h
    ·cases h
    ·exact⟨by assumption,h⟩
   have hcells:∀ b cur T fr,Z.M b=some (.cells cur T fr)->M1 b=some (.cells cur T fr):=fun b cur T fr h=>by
    simp only[M1];rw[ym1];· exact h
    ·rintro rfl;rw[m0]at h;cases h
   obtain⟨p1,p2,p3,p4,p5⟩:=hm';have hno:∀ s g,(⟨[],[]⟩:St).obj s g=none:=fun _ _=>rfl;refine(show o.wp P a w Kt Q from ?_) |> fun h=>by unfold wpOp;simp only[hj,hw,ym2];exact .inl h
   unfold Oper.wp;have hex:(execOp a.eval o).run P w=.ok .skip (ChangeMaps.setBlock w r (.map es' clock')):=by simp[execOp,hop,e1,e2,e3,hrun,Result.andThen]
   rw[hex];refine hK ⟨[],[]⟩ (some (zii r (zcv kc v ks vs).1 (zcv kc v ks vs).2)) ⟨M1,Z.B,Z.cap⟩ _ _ k ?_ ?_
   ·rw[hd];have kp:=zyu w r (.map es' clock');refine⟨fun t=>.undef _,hs.defers,hs.size,⟨fun s g o ho=>(by rw[hno]at ho;cases ho),fun s g _ _ o _ b ho=>(by rw[hno]at ho;cases ho),fun b o hb=>?_,fun s g o b ho=>(by rw[hno]at ho;cases ho),fun s g o b ho=>(by rw[hno]at ho;cases ho),fun b o hb0=>?_,fun b o hb=>hs.heap.prov b o (hM1 b o hb).2,?_⟩⟩
    ·obtain⟨h1,h2⟩:=hM1 b o hb;have h3:=hs.heap.mem b o h2;rw[kp.blk b (ynv.1 h3).1 h1];exact h3
    ·have:=hs.heap.m0 b o hb0;show(if b=r then none else Z.M b)=some o;rw[ym1];· exact this
     ·rintro rfl;rw[hA1]at hb0;cases hb0
    ·have k0:=hs.heap.keep;refine⟨kp.os.trans k0.os,kp.tape.trans k0.tape,kp.output.trans k0.output,ymm k0.drawn kp.drawn,ymm k0.size kp.size,fun b hb hxx=>?_⟩;rw[kp.blk b (ymp hb k0.size) fun hX'=>by
      subst hX';rcases hA2 with h|h
      ·exact hxx h
      ·omega]
     exact k0.blk b hb hxx
   ·refine⟨⟨by simp[M1,zii],fun s g o ho=>(by rw[hno]at ho;cases ho),?_⟩,hA2,es',clock',?_,?_⟩
    ·show r<(w.heap.setIfInBounds r _).size;simpa using hrlt
    ·show(w.heap.setIfInBounds r _)[r]?=_;rw[ys6];simp[hrlt]
    ·exact⟨p1.nomp hcells hn1,p2.nomp hcells hn2,p3,p4,p5⟩
def SpU(P:Program)(f:FuncId)(ks vs args:List PV)(ks' vs':List PV):Prop :=
 (∃ fn,P.funcs[f]?=some fn/\fn.body.isSome=true/\fn.name ≠ "runtime.NumGoroutine") /\
 ∀ (w:World) (M:Nat->Option Obj) (r:Nat) (vals:List Value),(∀ b o,M b=some o->w.heap[b]?=some o)->PReps M (.mp r ks vs::args) vals ->
  Calls P f vals.toArray w fun e w'=>∃ M',e=.returned (.tuple #[])/\(∀ b o,b≠r->M b=some o->M' b=some o)/\(∀ b o,M' b=some o->w'.heap[b]?=some o) /\
   (∀ b o,M' b=some o->b=r\/M b=some o\/w.heap.size<=b)/\Keep w w' (fun b=>b=r)/\PRep M' (.mp r ks' vs') (.map (some r))
theorem SpU.of_mr{f:FuncId}{ks vs args ks' vs':List PV}{n np:Nat}{b:GC}(hc:zad P f=some ⟨n,np,b.er,[]⟩)(hn:args.length+1<=n)
  (h:∀ r,MR P n b.er (zfi (.mp r ks vs::args)) (some (fzFA r)) fun ex s B=>(ex=.normal\/ex=.ret)/\(B=some (zii r ks' vs')\/(B=some (fzFA r)/\s.get 0=.p (.mp r ks' vs')))):SpU P f ks vs args ks' vs':=by
 unfold zad at hc;split at hc
 ·rename_i fn hf;split at hc
  ·rename_i hname;split at hc
   ·rename_i c hb;split at hc
    ·rename_i bd rs h1 h2;simp only[ym4,FnC.mk.injEq]at hc;obtain⟨rfl,_,rfl,rfl⟩:=hc;refine⟨⟨fn,hf,by rw[hb];rfl,hname⟩,fun w M r vals hM hv=>?_⟩;refine calls_of_wp hf hb ?_;obtain⟨es,clock,m0⟩:∃ es clock,M r=some (.map es clock):=by
      cases hv with
      | cons _ _ _ _ h _=>cases h with
       | mp _ _ _ es clock m0=>exact⟨es,clock,m0⟩
     have hrlt:r<w.heap.size:=(Array.getElem?_eq_some_iff.1 (hM _ _ m0)).1;have hi:=zr3 hM hv (N:=fn.ntmps) (by simpa using hn);have hi':StRep ⟨w,fun b=>if b=r then none else M b,fun b=>b=r,fn.ntmps⟩ ⟨M,fun _ _=>none,fun _ _=>0⟩ (zfi (.mp r ks vs::args)) w { tmps:=vals.toArray++Array.replicate (fn.ntmps - vals.toArray.size) Go.undef,defers:=[] }:=by
      refine⟨hi.slots,hi.defers,hi.size,⟨hi.heap.objs,hi.heap.inj,hi.heap.mem,hi.heap.sep,fun s g o b ho hb=>(by cases hb),fun b o hb=>?_,fun b o hb=>?_,⟨rfl,rfl,rfl,ym8 _,ym8 _,fun _ _ _=>rfl⟩⟩⟩
      ·simp only at hb;split at hb
       ·cases hb
       ·exact hb
      ·by_cases hbr:b=r
       ·exact .inr (.inl hbr)
       ·exact .inl (by simp only;rw[ym1 hbr];exact hb)
     refine h r c h1 _ _ w _ _ rfl hi' ⟨by simp[fzFA],.inl rfl⟩ fun ex st' A' Z' w' a' hp hs' hA'=>?_
     have hfin:a'.defers=[]/\∃ v,(results fn a'.tmps).run P w'=.ok v w'/\∃ M',Ending.returned v=.returned (.tuple #[])/\(∀ b o,b≠r->M b=some o->M' b=some o)/\(∀ b o,M' b=some o->w'.heap[b]?=some o) /\
       (∀ b o,M' b=some o->b=r\/M b=some o\/w.heap.size<=b)/\Keep w w' (fun b=>b=r)/\PRep M' (.mp r ks' vs') (.map (some r)):=by
      have hrs:fn.results.toList=[]:=by
       cases hl:fn.results.toList with
       | nil=>rfl
       | cons x xs =>
        rw[hl]at h2;cases x with
        | tmp t=>simp only[zft]at h2;obtain⟨_,_,h⟩:=mapS h2;cases h
        | cell _ _ =>
         simp only[zft]at h2;split at h2<;>try cases h2
         obtain⟨_,_,h⟩:=mapS h2;cases h
      have hres:(results fn a'.tmps).run P w'=.ok (.tuple #[]) w':=by unfold results;rw[yq8,hrs];simp
      refine⟨hs'.defers,_,hres,?_⟩;have hm0:∀ b o,b≠r->M b=some o->Z'.M b=some o:=fun b o hb ho=>hs'.heap.m0 b o (by simp only;rw[ym1 hb];exact ho);have hprov:∀ b o,Z'.M b=some o->b=r\/M b=some o\/w.heap.size<=b:=fun b o ho=>by
       rcases hs'.heap.prov b o ho with h|h|h
       ·simp only at h;split at h
        ·cases h
        ·exact .inr (.inl h)
       ·exact .inl h
       ·exact .inr (.inr h)
      rcases hp.2 with rfl|⟨rfl,hg⟩
      ·obtain⟨hF,_,es',clock',q0,q1,q2,q3,q4,q5⟩:=hA';have hsub:∀ b o,Z'.M b=some o->(if b=r then w'.heap[r]? else Z'.M b)=some o:=fun b o ho=>by
        rw[ym1];· exact ho
        ·rintro rfl;have:=hF.m;simp only[zii]at this;rw[this]at ho;cases ho
       refine⟨fun b=>if b=r then w'.heap[r]? else Z'.M b,rfl,fun b o hb ho=>by simp only;rw[ym1 hb];exact hm0 b o hb ho,fun b o ho=>?_,fun b o ho=>?_,hs'.heap.keep,?_⟩
       ·simp only at ho;split at ho
        ·rename_i hb;subst hb;exact ho
        ·exact hs'.heap.mem b o ho
       ·simp only at ho;split at ho
        ·rename_i hb;exact .inl hb
        ·exact hprov b o ho
       ·exact .mp r ks' vs' es' clock' (by simp only[ym2];exact q0) (q1.mono hsub) (q2.mono hsub) q3 q4 q5
      ·refine⟨Z'.M,rfl,hm0,hs'.heap.mem,hprov,hs'.heap.keep,?_⟩;have h0:=hs'.slots 0;rw[hg]at h0;have h1:=h0.inv_p;generalize a'.tmps.getD 0 Go.undef=X at h1;cases h1 with
       | mp _ _ _ es clock m0 m1 m2 m3 m4 m5=>exact .mp _ _ _ es clock m0 m1 m2 m3 m4 m5
     rcases hp.1 with rfl|rfl
     ·exact hfin
     ·exact hfin
    ·cases hc
   ·cases hc
  ·cases hc
 ·cases hc
end
end Go.Ab
