/-
Proofs for the law TransducerSumsPaths, part 6. Conditions: none.
-/
import Derived.Test.YtbhboeijjgiflaaGreatDoorDP05
set_option maxRecDepth 100000
set_option maxHeartbeats 4000000
set_option linter.all false
namespace Go.Ab
section
variable {P:Program} {K:Ctx} {Z Z':Cz} {st st':St} {w w':World} {a:Act} {orc:Option PCall} {d:Nat} {v:AV}
theorem zc3{α β : Type}{x:Option α}{f : α -> Option β}{b : β}(h:x.bind f=some b):∃ y,x=some y/\f y=some b:=by
 cases x with
 | none=>cases h
 | some y=>exact⟨y,rfl,h⟩
theorem mapS{α β : Type}{x:Option α}{f : α -> β}{b : β}(h:x.map f=some b):∃ y,x=some y/\f y=b:=by
 cases x with
 | none=>cases h
 | some y=>exact⟨y,rfl,by simpa using h⟩
theorem z5x{t:TypeId}{m k:Operand}{o:IOp}(hc:zgx P t m k=some o)(hs:StRep K Z st w a)(he:eff orc st d o=some (v,st')) :
  Good P K Z st ((do pure (Next.value (<- Instr.lookup t (a.eval m) (a.eval k) false)):Sem Next).run P w) v st':=by
 unfold zgx at hc;split at hc
 ·rename_i kt et ht;split at hc
  ·rename_i n e hk;split at hc
   ·rename_i q hq;split at hc
    ·rename_i hcond;obtain⟨hn,hc1,h0⟩:=hcond;obtain⟨m',hm,hc⟩:=zc3 hc;obtain⟨k',hk',hc⟩:=zc3 hc;obtain⟨z,hz,rfl⟩:=mapS hc;have hrm:=zaq hm hs;have hrk:=zaq hk' hs;obtain⟨i,zx,hi,hzi,hzr⟩:=zdy hz;generalize a.eval m=X at hrm ⊢;generalize a.eval k=Y at hrk ⊢;simp only[eff]at he;split at he
     ·rename_i r ks vs kc h1 h2;rw[h1]at hrm;rw[h2]at hrk;split at he
      ·rename_i hkk;obtain⟨hk1,hk2⟩:=hkk;simp only[ym4,ym5]at he;obtain⟨rfl,rfl⟩:=he;cases hrm.inv_p with
       | mp _ _ _ es clock m0 m1 m2 m3 m4 m5 =>
        cases hrk.inv_p with
        | agg _ vals _ hvals =>
         have law:=zyt hk hq hn hc1;obtain⟨l,hl⟩:=zid hk hq hn hc1 h0 hk1 hvals;have hb:=hs.heap.mem r _ m0;have hall:∀ e∈es.toList,∃ l,keyOf P kt e.key=some l:=by
          have:∀ {ks:List PV} {es:List MapEntry},ks.all (zf7 (List.replicate n q))=true->PReps Z.M ks (es.map (·.key))->∀ e∈es,∃ l,keyOf P kt e.key=some l:=by
           intro ks
           induction ks with
           | nil=>intro es _ h;cases es with|nil=>simp|cons _ _=>cases h
           | cons k ks ih =>
            intro es ha h;cases es with
            | nil=>simp
            | cons e es =>
             simp only[yq4,ync]at ha;simp only[ymy]at h;cases h with
             | cons _ _ _ _ hk0 hks =>
              intro e' he';rcases ym7.1 he' with rfl|he'
              ·cases k<;>simp only[zf7,ymw,false_and]at ha;generalize e'.key=ek at hk0;cases hk0 with
               | agg _ us _ hus=>exact zid hk hq hn hc1 h0 ha.1 hus
              ·exact ih ha.2 hks e' he'
          exact this hk2 m1
         obtain⟨f1,f2⟩:=zll hk1 hvals hk2 m1 m2 m3;have hchk:=law.check w es.isEmpty hl;have hget:(getObj r).run P w=.ok (.map es clock) w:=by simp[getObj,Sem.run,hb]
         have hzv:(zeroValue et).run P w=.ok zx w:=by simp[zeroValue,typeInfo,hi,hzi]
         rcases law.find w hl es.toList hall with⟨g1,g2⟩|⟨j,e0,g1,g2,g3⟩
         ·rw[f1 g2];exact zar (by simp[Instr.lookup,run_underlying ht,hget,hchk,g1,hzv]) hs (hzr Z st)
         ·obtain⟨u,hu1,hu2⟩:=f2 j e0 g2 g3;rw[hu1];exact zar (by simp[Instr.lookup,run_underlying ht,hget,hchk,g1]) hs (.p _ _ hu2)
      ·cases he
     ·cases he
    ·cases hc
   ·cases hc
  ·cases hc
 ·cases hc
theorem z32{l:List Operand}{x:Opd}(h:za5 l=some [x]):∃ x0,l=[x0]/\zah x0=some x:=by
 cases l with
 | nil=>simp[za5]at h
 | cons y ys =>
  simp only[za5]at h;split at h
  ·rename_i p q e1 e2;cases h;cases ys with
   | nil=>exact⟨y,rfl,e1⟩
   | cons z zs=>simp only[za5]at e2;split at e2<;>cases e2
  ·cases h
theorem zqx{l:List Operand}{x y:Opd}(h:za5 l=some [x,y]):∃ x0 y0,l=[x0,y0]/\zah x0=some x/\zah y0=some y:=by
 cases l with
 | nil=>simp[za5]at h
 | cons a l =>
  simp only[za5]at h;split at h
  ·rename_i p q e1 e2;cases h;cases l with
   | nil=>simp[za5]at e2
   | cons b l =>
    simp only[za5]at e2;split at e2
    ·rename_i p' q' e3 e4;cases e2;cases l with
     | nil=>exact⟨a,b,rfl,e1,e3⟩
     | cons c l=>simp only[za5]at e4;split at e4<;>cases e4
    ·cases e2
  ·cases h
theorem yh1{o:Oper}{i:IOp}(hc:zb8 P o.op=some i)(hn:∀ c f,o.op=.call c->c.callee ≠ .value f)(hs:StRep K Z st w a)(he:eff orc st d i=some (v,st')):Good P K Z st ((execOp a.eval o).run P w) v st':=by
 unfold execOp;cases hop:o.op<;>rw[hop]at hc<;>simp only[zb8]at hc
 case move x=>obtain⟨y,h1,rfl⟩:=mapS hc;exact ybc h1 hs he
 case assign x=>obtain⟨y,h1,rfl⟩:=mapS hc;exact ybc h1 hs he
 case pick c x y =>
  obtain⟨c',h1,hc⟩:=zc3 hc;obtain⟨x',h2,hc⟩:=zc3 hc;obtain⟨y',h3,rfl⟩:=mapS hc;exact z9r h1 h2 h3 hs he
 case alloc e=>obtain⟨z,h1,rfl⟩:=mapS hc;exact z57 h1 hs he
 case box e x=>obtain⟨y,h1,rfl⟩:=mapS hc;exact yej h1 hs he
 case build t parts =>
  split at hc
  ·rename_i fs hu;obtain⟨pl,h1,hc⟩:=zc3 hc;obtain⟨z,h2,hc⟩:=zc3 hc;split at hc
   ·rename_i hz;obtain⟨l,h3,rfl⟩:=mapS hc;exact z56 hu h1 h2 hz h3 hs he
   ·cases hc
  ·rename_i n e hu;obtain⟨ie,h1,hc⟩:=zc3 hc;obtain⟨z,h2,hc⟩:=zc3 hc;split at hc
   ·rename_i hz;obtain⟨l,h3,rfl⟩:=mapS hc;exact z00 hu h1 h2 hz h3 hs he
   ·cases hc
  ·cases hc
 case buildSlice t n parts =>
  split at hc
  ·rename_i e hu;obtain⟨z,h1,hc⟩:=zc3 hc;obtain⟨l,h2,rfl⟩:=mapS hc;exact z01 hu h1 h2 hs he
  ·cases hc
 case load t x =>
  obtain⟨y,h1,hc⟩:=zc3 hc;split at hc
  ·rename_i ht;cases hc;exact z9t h1 ht hs he
  ·cases hc
 case store t p x =>
  obtain⟨q,h1,hc⟩:=zc3 hc;obtain⟨y,h2,hc⟩:=zc3 hc;split at hc
  ·rename_i ht;cases hc;have:v=.undef:=by
    simp only[eff]at he
    (repeat' split at he)<;>first|cases he;rfl|cases he
   subst this;exact z5u h1 h2 ht hs he
  ·cases hc
 case nilCheck x=>obtain⟨y,h1,rfl⟩:=mapS hc;exact z5w h1 hs he
 case binOp op t x y t2 =>
  obtain⟨x',h1,hc⟩:=zc3 hc;obtain⟨y',h2,hc⟩:=zc3 hc;split at hc
  ·cases hc;exact z9v h1 h2 hs he
  ·rename_i hu;cases hc;exact z9y hu h1 h2 hs he
  ·rename_i hu;exact z5y hu h1 h2 hc hs he
  ·obtain⟨ks,h3,rfl⟩:=mapS hc;exact z9z h3 h1 h2 hs he
 case unOp op t x =>
  obtain⟨x',h1,hc⟩:=zc3 hc;split at hc
  ·cases hc;exact yed h1 hs he
  ·cases hc;exact yee h1 hs he
  ·cases hc;exact z9u h1 hs he
  ·cases hc
 case convert s t x =>
  obtain⟨x',h1,hc⟩:=zc3 hc;split at hc
  ·rename_i h2 h3;cases hc;exact z9x h2 h3 h1 hs he
  ·cases hc
 case makeFunc fn first caps =>
  unfold zif at hc;split at hc
  ·rename_i f;split at hc
   ·rename_i h0;obtain⟨l,h1,rfl⟩:=mapS hc;have:first = #[]:=Array.eq_empty_of_size_eq_zero h0
    subst this;exact z9s h1 hs he
   ·cases hc
  ·cases hc
 case makeSlice t l c =>
  split at hc
  ·rename_i e hu;obtain⟨l',h1,hc⟩:=zc3 hc;obtain⟨c',h2,hc⟩:=zc3 hc;obtain⟨z,h3,hc⟩:=zc3 hc;split at hc
   ·rename_i hb;cases hc;exact zwk hu h3 hb h1 h2 hs he
   ·cases hc
  ·cases hc
 case slice t x lo hi mx =>
  unfold zgc at hc;split at hc
  ·cases hc
  ·split at hc
   ·rename_i e hu;split at hc
    ·rename_i hi0;obtain⟨x',h1,hc⟩:=zc3 hc;obtain⟨lo',h2,hc⟩:=zc3 hc;obtain⟨hi',h3,rfl⟩:=mapS hc;have hoo:∀ {y:Option Operand} {y':Option Opd},zzb y=some y'->(y=none/\y'=none)\/∃ l l',y=some l/\y'=some l'/\zah l=some l':=by
      intro y y' h;cases y with
      | none=>simp[zzb]at h;exact .inl ⟨rfl,h.symm⟩
      | some l=>obtain⟨l',h4,rfl⟩:=mapS h;exact .inr ⟨l,l',rfl,rfl,h4⟩
     exact z5v hu hi0 h1 (hoo h2) (hoo h3) hs he
    ·cases hc
   ·cases hc
 case fieldAddr s x f =>
  split at hc
  ·rename_i fs hu;split at hc
   ·rename_i fd hf;split at hc
    ·rename_i hp;obtain⟨x',h1,rfl⟩:=mapS hc;exact z52 hu hf hp h1 hs he
    ·cases hc
   ·cases hc
  ·cases hc
 case field s x f =>
  split at hc
  ·rename_i fs hu;split at hc
   ·rename_i fd hf;split at hc
    ·rename_i ht;obtain⟨x',h1,rfl⟩:=mapS hc;exact z51 hu hf ht h1 hs he
    ·cases hc
   ·cases hc
  ·cases hc
 case indexAddr t x i =>
  split at hc
  ·rename_i e hu;split at hc
   ·rename_i hi;obtain⟨x',h1,hc⟩:=zc3 hc;obtain⟨i',h2,rfl⟩:=mapS hc;exact z5z hu hi h1 h2 hs he
   ·cases hc
  ·rename_i n e hu;split at hc
   ·rename_i hi;obtain⟨x',h1,hc⟩:=zc3 hc;obtain⟨i',h2,rfl⟩:=mapS hc;exact z0z hu hi h1 h2 hs he
   ·cases hc
  ·cases hc
 case index t x i =>
  split at hc
  ·rename_i n e hu;split at hc
   ·rename_i ht;obtain⟨x',h1,hc⟩:=zc3 hc;obtain⟨i',h2,rfl⟩:=mapS hc;exact yeg hu ht h1 h2 hs he
   ·cases hc
  ·rename_i hu;obtain⟨x',h1,hc⟩:=zc3 hc;obtain⟨i',h2,rfl⟩:=mapS hc;exact z9q hu h1 h2 hs he
  ·cases hc
 case extract x i=>obtain⟨x',h1,rfl⟩:=mapS hc;exact zwl h1 hs he
 case call c =>
  obtain⟨as,h1,hc⟩:=zc3 hc;have hargs:c.args.map a.eval=((c.args.toList).map a.eval).toArray:=by simp[<- Array.toList_map]
  unfold zc2 at hc;split at hc
  ·rename_i f hcal;exact(hn c f hop hcal).elim
  ·cases hc
  ·rename_i b hcal;split at hc
   ·split at hc
    ·rename_i x;split at hc
     ·rename_i ht;cases hc;obtain⟨x0,hx0,hx1⟩:∃ x0,c.args.toList=[x0]/\zah x0=some x:=by
       cases hl:c.args.toList with
       | nil=>rw[hl]at h1;simp[za5]at h1
       | cons y ys =>
        rw[hl]at h1;simp only[za5]at h1;split at h1
        ·rename_i p q e1 e2;cases h1;cases ys with
         | nil=>exact⟨y,rfl,e1⟩
         | cons z zs=>simp only[za5]at e2;split at e2<;>cases e2
        ·cases h1
      have:=yef (args:=c.argTypes) (ty:=o.type) ht hx1 hs he;simpa[resolve,hcal,invoke,builtin,hargs,hx0]using this
     ·cases hc
    ·cases hc
   ·split at hc
    ·rename_i x y t u h3 h4;split at hc
     ·rename_i e hu;split at hc
      ·rename_i hcond;obtain⟨g1,g2,g3⟩:=hcond;cases hc;obtain⟨x0,y0,hl,hx,hy⟩:=zqx h1;obtain⟨z0,hz0,hz1⟩:=Option.map_eq_some_iff.1 g2;have:=z02 (A:=c.argTypes) (ty:=o.type) h3 h4 hu g1 (by rw[hz0];rfl) g3 (fun z hz=>by rw[hz0]at hz;cases hz;exact hz1) hx hy hs he;simpa[resolve,hcal,invoke,builtin,hargs,hl]using this
      ·split at hc
       ·rename_i hcond;obtain⟨g1,g2,g3⟩:=hcond;obtain⟨z0,hz0,rfl⟩:=mapS hc;obtain⟨x0,y0,hl,hx,hy⟩:=zqx h1;obtain⟨k,hk⟩:∃ k,P.underlying u=some (.int k):=by
         cases hu2:P.underlying u with
         | none=>simp[hu2,ydt]at g1
         | some d=>cases d<;>simp[hu2,ydt]at g1;exact⟨_,rfl⟩
        have:=zwm (A:=c.argTypes) (ty:=o.type) h3 h4 hu hk hz0 g3 hx hy hs he;simpa[resolve,hcal,invoke,builtin,hargs,hl]using this
       ·cases hc
     ·cases hc
    ·cases hc
   ·split at hc
    ·rename_i x;split at hc
     ·rename_i ht;cases hc;obtain⟨x0,hx0,hx1⟩:=z32 h1;have:=yei (args:=c.argTypes) (ty:=o.type) ht hx1 hs he;simpa[resolve,hcal,invoke,builtin,hargs,hx0]using this
     ·cases hc
    ·cases hc
   ·split at hc
    ·rename_i x t h3;split at hc
     ·rename_i e hu;obtain⟨z,hz,rfl⟩:=mapS hc;obtain⟨x0,hx0,hx1⟩:=z32 h1;have:=z54 (A:=c.argTypes) (ty:=o.type) h3 hu hz hx1 hs he;simpa[resolve,hcal,invoke,builtin,hargs,hx0]using this
     ·cases hc
    ·cases hc
   ·split at hc
    ·rename_i a1 x1 t h3;split at hc
     ·rename_i e hu;split at hc
      ·rename_i hz;cases hc;obtain⟨x0,y0,hl,hx,hy⟩:=zqx h1;have:=z9w (A:=c.argTypes) (ty:=o.type) h3 hu hz hx hy hs he;simpa[resolve,hcal,invoke,builtin,hargs,hl]using this
      ·cases hc
     ·cases hc
    ·cases hc
   ·cases hc;simp only[eff]at he;split at he
    ·rename_i r hr;simp only[Option.some.injEq,Prod.mk.injEq]at he;obtain⟨rfl,rfl⟩:=he;have:=zqn (P:=P) (mx:=false) (args:=c.argTypes) (ty:=o.type) h1 hs hr;simpa[resolve,hcal,invoke,builtin]using this
    ·cases he
   ·cases hc;simp only[eff]at he;split at he
    ·rename_i r hr;simp only[Option.some.injEq,Prod.mk.injEq]at he;obtain⟨rfl,rfl⟩:=he;have:=zqn (P:=P) (mx:=true) (args:=c.argTypes) (ty:=o.type) h1 hs hr;simpa[resolve,hcal,invoke,builtin]using this
    ·cases he
   ·cases hc
 case lookup t m k b =>
  cases b with
  | true=>cases hc
  | false=>exact z5x hc hs he
 all_goals first|(cases hc;done)|(cases hc;simp only[eff]at he;cases he)
theorem zec{f:FuncId}{args:Array Value}(h:∃ fn,P.funcs[f]?=some fn/\fn.body.isSome=true/\fn.name ≠ "runtime.NumGoroutine"):(callFunc f args).run P w=.ok (.enter f args) w:=by obtain⟨fn,h1,h2,h3⟩:=h;simp[callFunc,h1,h3];intro hb;simp[hb]at h2
def PCall.ok(P:Program)(c:PCall):Prop :=
 match c.tn with
 | none=>Sp P c.f c.args c.res
 | some (i,sz,es')=>SpM P c.f c.args i sz es' c.res
def zh2(c:PCall)(st:St)(d:Nat)(vs:List AV):Option (AV × St) :=
 match c.tn with
 | none=>zg1 c st d (vs.flatMap (deps st FUEL))
 | some (i,sz,es')=>zg2 c i sz es' st vs
theorem zdi{f:FuncId}{vs:List AV}(he:zdj orc st d f vs=some (v,st')):∃ c,orc=some c/\f=c.f/\vs.mapM (toPV st FUEL)=some c.args/\zh2 c st d vs=some (v,st'):=by
 unfold zdj at he;split at he
 ·rename_i c;by_cases h:f=c.f/\vs.mapM (toPV st FUEL)=some c.args
  ·rw[ym0 h]at he;exact⟨c,rfl,h.1,h.2,he⟩
  ·rw[ym1 h]at he;cases he
 ·cases he
theorem zml{α β : Type}{f : α -> Option β}:∀ {xs:List α} {r:List β},xs.mapM f=some r->∀ (j:Nat) (x : α),xs[j]?=some x->∃ y,r[j]?=some y/\f x=some y
 | [],r,_,j,x,hx=>by simp at hx
 | z::xs,r,h,j,x,hx=>by
  obtain⟨y,ys,h1,h2,rfl⟩:=zcb h;cases j with
  | zero=>simp at hx;subst hx;exact⟨y,rfl,h1⟩
  | succ j=>simpa using zml h2 j x (by simpa using hx)
theorem z68{n s g off len:Nat}:toPV st (n+1) (.own s g off len)=match st.obj s g with
  | some o=>if off+len<=o.es.length then(((o.es.drop off).take len).mapM (toPV st n)).map .sl else none
  | none=>none:=rfl
theorem z67{n s g ix off:Nat}:toPV st (n+1) (.ptr s g ix off)=if ix=0/\off=0 then match st.obj s g with
   | some o=>match o.es with
    | [e]=>(toPV st n e).map .ref
    | _=>none
   | none=>none
   else none:=rfl
theorem z8t{vs:List AV}{vals:List Value}{args:List PV}{s g len i:Nat}{sl:Bool}{o:AObj}{ids:List (Nat × Nat)}(hs:HRep K Z st w)(hr:AReps Z st vs vals)(hm:vs.mapM (toPV st FUEL)=some args)(href:zli vs[i]?=some (s,g,len,sl))(ho:st.obj s g=some o)(hlen:len=o.es.length)
  (hids:ids=(vs.eraseIdx i).flatMap (deps st FUEL)++o.es.flatMap (deps st 5)) (hni:(s,g)∉ids) :
  ∃ es,MArr (Mx Z st w ids) w (Z.B s g) (Z.cap s g) o.sz es/\es.length=o.es.length/\∀ p,args[i]?=some p->∃ x,vals[i]?=some x/\MRef p es (Z.B s g) (Z.cap s g) x:=by
 have hO:=hs.objs s g o ho;have key:∀ es,o.es.mapM (toPV st 5)=some es->MArr (Mx Z st w ids) w (Z.B s g) (Z.cap s g) o.sz es:=by
  intro es hes;have hlen:=zgt hes;cases hb:Z.B s g with
  | none =>
   have h0:=hO.non hb;rw[h0]at hes;have:=zcp hes;subst this;exact⟨hO.pos,by simp,by simp,fun _=>rfl,fun b hb=>by cases hb⟩
  | some b =>
   obtain⟨cur,T,vals,k1,k2,k3,k4,k5,k6⟩:=hO.blk b hb;obtain⟨r1,r2,r3⟩:=zht (w:=w) (n:=5) (ids:=ids) hO.pos (zhc hs ids 5) k2 hes hO.els hO.one (fun i hi=>by rw[hids];exact ymn.2 (.inr hi));refine⟨hO.pos,r2,r3,fun(h:some b=none)=>(by cases h),fun b' hb'=>?_⟩;cases hb';refine⟨?_,cur,T,vals,k1,r1,k3,k4,by omega,k6⟩;cases hmx:Mx Z st w ids b with
   | none=>rfl
   | some y =>
    exfalso;rcases zb2 hmx with h|⟨_,_,s',g',ob,e1,e2,e3⟩
    ·rw[hs.sep s g o b ho hb]at h;cases h
    ·obtain⟨rfl,rfl⟩:=hs.inj s g s' g' o ob b ho e2 hb e3;exact hni e1
 rcases znp href with⟨hu,_⟩|⟨hu,hl1,_⟩
 ·obtain⟨p,hp,htp⟩:=zml hm i _ hu;obtain⟨x,hx,hrx⟩:=hr.get i _ hu;rw[FUEL,z68]at htp;simp only[ho,yn6,ypj]at htp;rw[ym0 (by omega),ymq (by omega)]at htp;obtain⟨es,hes,rfl⟩:=yof.1 htp;have hl:=zgt hes;refine⟨es,key es hes,hl,fun q hq=>⟨x,hx,?_⟩⟩;rw[hp]at hq;cases hq;refine .inl ⟨rfl,?_⟩;cases hrx with
  | own0 _ _ o' ho' hb=>rw[hb]
  | own _ _ _ _ o' b ad c ho' hb h1 h2 h3 h4 =>
   obtain⟨rfl,rfl⟩:=h1 rfl;rw[hb,hl,<- hlen]
  | ownD _ _ _ _ _ _ _ hd=>exact(zbc ho hd).elim
 ·obtain⟨p,hp,htp⟩:=zml hm i _ hu;obtain⟨x,hx,hrx⟩:=hr.get i _ hu;rw[FUEL,z67]at htp;simp only[ho,and_self,ym2]at htp;split at htp
  ·rename_i e he;obtain⟨q,hq,rfl⟩:=yof.1 htp;refine⟨[q],key [q] (by rw[he];simp[hq]),by rw[he];rfl,fun q' hq'=>⟨x,hx,?_⟩⟩;rw[hp]at hq';cases hq';obtain⟨b,hb,rfl⟩:=zfb hrx ho;exact .inr ⟨q,b,rfl,rfl,hb,by simp⟩
  ·cases htp
theorem yep{o:Oper}{i:IOp}{cc:Call}{f:Operand}(hc:zb8 P o.op=some i)(hop:o.op=.call cc)(hf:cc.callee=.value f)(hs:StRep K Z st w a)(he:eff orc st d i=some (v,st'))(horc:∀ c,orc=some c->c.ok P)
  {next:Act->World->Prop} {Q:Exit->Act->World->Prop} (hnext:∀ w' Z' x,HRep K Z' st' w'->ARep Z' st' v x->ZLe Z st Z' st'->next (a.put o.dst x) w'):o.wp P a w next Q:=by
 obtain⟨as,hops,hcal⟩:∃ as,za5 cc.args.toList=some as/\zc2 P cc.callee cc.argTypes as=some i:=by rw[hop]at hc;simp only[zb8]at hc;obtain⟨as,h1,h2⟩:=zc3 hc;exact⟨as,h1,h2⟩
 have hr:=ziv hops hs;have hargs:cc.args.map a.eval=((cc.args.toList).map a.eval).toArray:=by simp[<- Array.toList_map]
 obtain⟨c,caps,cvals,horc',hfv,hcv,hm,hres⟩:∃ (c:PCall) (caps:List AV) (cvals:List Value),orc=some c/\a.eval f=.func (.func c.f) #[] cvals.toArray/\AReps Z st caps cvals /\
   (as.map st.ev++caps).mapM (toPV st FUEL)=some c.args/\zh2 c st d (as.map st.ev++caps)=some (v,st'):=by
  rw[hf]at hcal;simp only[zc2]at hcal;split at hcal
  ·rename_i g hg;cases hcal;have hfr:=zaq hg hs;simp only[St.ev]at hfr;simp only[eff]at he;obtain⟨c,h1,h2,h3,h4⟩:=zdi he;subst h2;have hp:=hfr.inv_p;generalize a.eval f=F at hp ⊢;cases hp with
   | fn _ _ vals h=>cases h;exact⟨c,[],[],h1,rfl,.nil,by simpa using h3,by simpa using h4⟩
  ·rename_i f' hg;cases hcal;have hfr:=zaq hg hs;simp only[eff]at he;split at he
   ·rename_i g caps hev;rw[hev]at hfr;obtain⟨c,h1,h2,h3,h4⟩:=zdi he;subst h2;have hp:=hfr.inv_p;generalize a.eval f=F at hp ⊢;cases hp with
    | fn _ _ vals h=>exact⟨c,caps.map .p,vals,h1,rfl,AReps.of_p h,h3,h4⟩
   ·rename_i g caps hev;rw[hev]at hfr;obtain⟨c,h1,h2,h3,h4⟩:=zdi he;subst h2;generalize a.eval f=F at hfr ⊢;cases hfr with
    | fn _ _ vals h=>exact⟨c,caps,vals,h1,rfl,h,h3,h4⟩
   ·cases he
  ·cases hcal
 have hok:=horc c horc';have hvals:=hr.append hcv;have hrun:(∃ fn,P.funcs[c.f]?=some fn/\fn.body.isSome=true/\fn.name ≠ "runtime.NumGoroutine")->(execOp a.eval o).run P w=.ok (.enter c.f ((cc.args.toList.map a.eval++cvals).toArray)) w:=by
  intro hfn;have:=zec (P:=P) (w:=w) (args:=(cc.args.toList.map a.eval++cvals).toArray) hfn;simp only[execOp,hop,resolve,hf,hfv,Deferred.ofValue,yna,yni,yno,invoke];have e : #[]++cc.args.map a.eval++cvals.toArray=(cc.args.toList.map a.eval++cvals).toArray:=by rw[hargs];simp
  rw[e];exact this
 unfold Oper.wp;unfold PCall.ok at hok;unfold zh2 at hres;cases htn:c.tn with
 | none =>
  rw[htn]at hok hres;obtain⟨hfn,hsp⟩:=hok;rw[hrun hfn,yql];have hp:=zhi (w:=w) (zhc hs.heap ((as.map st.ev++caps).flatMap (deps st FUEL)) FUEL) hvals hm (fun i hi=>hi);refine(hsp w _ _ (fun b ob hb=>?_) hp).mono ?_
  ·rcases zb2 hb with h|⟨_,h,_⟩
   ·exact hs.heap.mem b ob h
   ·exact h
  ·rintro e w' ⟨x,M',rfl,p1,p2,p3,p4,p5⟩;obtain⟨Z',q1,q2,q3⟩:=zuv (vs:=as.map st.ev++caps) hs.heap p1 p2 p3 p4 p5 hres;exact hnext w' Z' x q1 q2 q3
 | some t =>
  obtain⟨i,sz,es'⟩:=t;rw[htn]at hok hres;obtain⟨hfn,hsp⟩:=hok;simp only at hsp hres;rw[hrun hfn,yql];obtain⟨s,g,len,sl,ob,href,ho,hi,hlen,hle,hsz,hni,hv,hst⟩:=zlw hres;generalize hvs:as.map st.ev++caps=vs at *
  obtain⟨es,m1,m2,m3⟩:=z8t hs.heap hvals hm href ho hlen rfl hni;rw[hsz]at m1;have hal:vs.length=c.args.length:=(zgt hm).symm;have hvl:(cc.args.toList.map a.eval++cvals).length=c.args.length:=by rw[<- hal];exact hvals.length
  refine(hsp w _ _ (Z.B s g) (Z.cap s g) es (fun b ob hb=>?_) hvl m3 (by rw[<- hal];exact hi) m1 (fun j p hj hp=>?_)).mono ?_
  ·rcases zb2 hb with h|⟨_,h,_⟩
   ·exact hs.heap.mem b ob h
   ·exact h
  ·obtain⟨u,hu⟩:∃ u,vs[j]?=some u:=by
    have:j<vs.length:=by rw[hal];exact(yo3.1 hp).1
    exact⟨vs[j],yms this⟩
   obtain⟨q,hq,htq⟩:=zml hm j u hu;rw[hp]at hq;cases hq;obtain⟨x,hx,hrx⟩:=hvals.get j u hu;refine⟨x,hx,zhc hs.heap _ FUEL u x p hrx htq (fun k hk=>ymn.2 (.inl (yny.2 ⟨u,?_,hk⟩)))⟩;rw[List.mem_eraseIdx_iff_getElem?];exact⟨j,hj,hu⟩
  ·rintro e w' ⟨x,M',rfl,p1,p2,p3,p4,p5,p6,p7⟩;obtain⟨Z',q1,q2,q3⟩:=z07 (vs:=vs) hs.heap ho hlen hsz hni p1 p2 p3 p4 (by rw[p5,m2]) p6 (by rw[m2]at p7;exact p7) hv hst;exact hnext w' Z' x q1 q2 q3
end
end Go.Ab
