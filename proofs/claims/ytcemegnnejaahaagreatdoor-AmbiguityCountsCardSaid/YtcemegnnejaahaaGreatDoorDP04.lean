/- Lemmas for the law AmbiguityCounts, part 4. No conditions. -/
import Derived.Test.YtcemegnnejaahaaGreatDoorDP03
set_option maxRecDepth 100000
set_option maxHeartbeats 4000000
set_option linter.all false
namespace Go.Ab
section
variable {P:Program} {K:Ctx} {Z Z':Cz} {st st':St} {w w':World} {a:Act} {orc:Option PCall} {d:Nat} {v:AV}
theorem zcn{α β : Type}{x:Option α}{f : α -> Option β}{b : β}(h:x.bind f=some b):∃ y,x=some y/\f y=some b:=by
 cases x with
 | none=>cases h
 | some y=>exact⟨y,rfl,h⟩
theorem mapS{α β : Type}{x:Option α}{f : α -> β}{b : β}(h:x.map f=some b):∃ y,x=some y/\f y=b:=by
 cases x with
 | none=>cases h
 | some y=>exact⟨y,rfl,by simpa using h⟩
def ydw(z:AV):Bool->Option PV->AV
 | false,some u=>.p u
 | false,none=>z
 | true,some u=>.tup [.p u,.p (.bool true)]
 | true,none=>.tup [z,.p (.bool false)]
theorem zze{t:TypeId}{m k:Operand}{c:Bool}{o:IOp}(hc:zfu P t m k c=some o)(hs:StRep K Z st w a)(he:eff orc st d o=some (v,st')) :
  Good P K Z st ((do pure (Next.value (<- Instr.lookup t (a.eval m) (a.eval k) c)):Sem Next).run P w) v st':=by
 unfold zfu at hc;split at hc
 ·rename_i kt et ht;obtain⟨qs,hq,hc⟩:=zcn hc;obtain⟨m',hm,hc⟩:=zcn hc;obtain⟨k',hk',hc⟩:=zcn hc;obtain⟨z,hz,rfl⟩:=mapS hc;have hrm:=zaq hm hs;have hrk:=zaq hk' hs;obtain⟨i,zx,hi,hzi,hzr⟩:=zd2 hz;obtain⟨law,hko⟩:=zvq hq;generalize a.eval m=X at hrm ⊢;generalize a.eval k=Y at hrk ⊢
  have key:∀ {r:Nat} {ks vs kc:List PV},st.ev m'=.p (.mp r ks vs)->st.ev k'=.p (.agg kc)->zcl qs kc=true->ks.all (zek qs)=true ->
    ∃ x,(Instr.lookup t X Y c).run P w=.ok x w/\ARep Z st (ydw z c (zbu kc ks vs)) x:=by
   intro r ks vs kc h1 h2 hk1 hk2;rw[h1]at hrm;rw[h2]at hrk;cases hrm.inv_p with
   | mp _ _ _ es clock m0 m1 m2 m3 m4 m5 =>
    cases hrk.inv_p with
    | agg _ vals _ hvals =>
     obtain⟨l,hl⟩:=hko hk1 hvals;have hb:=hs.heap.mem r _ m0;have hall:=zit (fun h1 h2=>hko h1 h2) hk2 m1;obtain⟨f1,f2⟩:=zi7 hk1 hvals hk2 m1 m2 m3;have hchk:=law.check w es.isEmpty hl;have hget:(getObj r).run P w=.ok (.map es clock) w:=by simp[getObj,Sem.run,hb]
     have hzv:(zeroValue et).run P w=.ok zx w:=by simp[zeroValue,typeInfo,hi,hzi]
     rcases law.find w hl es.toList hall with⟨g1,g2⟩|⟨j,e0,g1,g2,g3⟩
     ·rw[f1 g2];cases c with
      | false=>exact⟨zx,by simp[Instr.lookup,run_underlying ht,hget,hchk,g1,hzv],hzr Z st⟩
      | true=>exact⟨.tuple #[zx,.bool false],by simp[Instr.lookup,run_underlying ht,hget,hchk,g1,hzv],.tup _ [zx,.bool false] (.cons _ _ _ _ (hzr Z st) (.cons _ _ _ _ (.p _ _ (.bool false)) .nil))⟩
     ·obtain⟨u,hu1,hu2⟩:=f2 j e0 g2 g3;rw[hu1];cases c with
      | false=>exact⟨e0.val,by simp[Instr.lookup,run_underlying ht,hget,hchk,g1],.p _ _ hu2⟩
      | true=>exact⟨.tuple #[e0.val,.bool true],by simp[Instr.lookup,run_underlying ht,hget,hchk,g1],.tup _ [e0.val,.bool true] (.cons _ _ _ _ (.p _ _ hu2) (.cons _ _ _ _ (.p _ _ (.bool true)) .nil))⟩
  cases c with
  | false =>
   simp only[eff,yfl,yf9]at he;split at he
   ·rename_i r ks vs kc h1 h2;split at he
    ·rename_i hkk;simp only[yf3,yf5]at he;obtain⟨rfl,rfl⟩:=he;obtain⟨x,e1,e2⟩:=key h1 h2 hkk.1 hkk.2;refine zap (x:=x) (by simp[e1]) hs ?_;cases hf:zbu kc ks vs<;>rw[hf]at e2<;>exact e2
    ·cases he
   ·cases he
  | true =>
   simp only[eff,yf2]at he;split at he
   ·rename_i r ks vs kc h1 h2;split at he
    ·rename_i hkk;simp only[yf3,yf5]at he;obtain⟨rfl,rfl⟩:=he;obtain⟨x,e1,e2⟩:=key h1 h2 hkk.1 hkk.2;refine zap (x:=x) (by simp[e1]) hs ?_;cases hf:zbu kc ks vs<;>rw[hf]at e2<;>exact e2
    ·cases he
   ·cases he
 ·cases hc
theorem zxn{l:List Operand}{x:Opd}(h:zaz l=some [x]):∃ x0,l=[x0]/\zag x0=some x:=by
 cases l with
 | nil=>simp[zaz]at h
 | cons y ys =>
  simp only[zaz]at h;split at h
  ·rename_i p q e1 e2;cases h;cases ys with
   | nil=>exact⟨y,rfl,e1⟩
   | cons z zs=>simp only[zaz]at e2;split at e2<;>cases e2
  ·cases h
theorem zss{l:List Operand}{x y:Opd}(h:zaz l=some [x,y]):∃ x0 y0,l=[x0,y0]/\zag x0=some x/\zag y0=some y:=by
 cases l with
 | nil=>simp[zaz]at h
 | cons a l =>
  simp only[zaz]at h;split at h
  ·rename_i p q e1 e2;cases h;cases l with
   | nil=>simp[zaz]at e2
   | cons b l =>
    simp only[zaz]at e2;split at e2
    ·rename_i p' q' e3 e4;cases e2;cases l with
     | nil=>exact⟨a,b,rfl,e1,e3⟩
     | cons c l=>simp only[zaz]at e4;split at e4<;>cases e4
    ·cases e2
  ·cases h
theorem yar{o:Oper}{i:IOp}(hc:zb2 P o.op=some i)(hn:∀ c f,o.op=.call c->c.callee ≠ .value f)(hs:StRep K Z st w a)(he:eff orc st d i=some (v,st')):Good P K Z st ((execOp a.eval o).run P w) v st':=by
 unfold execOp;cases hop:o.op<;>rw[hop]at hc<;>simp only[zb2]at hc
 case move x=>obtain⟨y,h1,rfl⟩:=mapS hc;exact z4q h1 hs he
 case assign x=>obtain⟨y,h1,rfl⟩:=mapS hc;exact z4q h1 hs he
 case pick c x y =>
  obtain⟨c',h1,hc⟩:=zcn hc;obtain⟨x',h2,hc⟩:=zcn hc;obtain⟨y',h3,rfl⟩:=mapS hc;exact z2v h1 h2 h3 hs he
 case alloc e=>obtain⟨z,h1,rfl⟩:=mapS hc;exact zzl h1 hs he
 case box e x=>obtain⟨y,h1,rfl⟩:=mapS hc;exact z7l h1 hs he
 case build t parts =>
  split at hc
  ·rename_i fs hu;obtain⟨pl,h1,hc⟩:=zcn hc;obtain⟨z,h2,hc⟩:=zcn hc;split at hc
   ·rename_i hz;obtain⟨l,h3,rfl⟩:=mapS hc;exact zzk hu h1 h2 hz h3 hs he
   ·cases hc
  ·rename_i n e hu;obtain⟨ie,h1,hc⟩:=zcn hc;obtain⟨z,h2,hc⟩:=zcn hc;split at hc
   ·rename_i hz;obtain⟨l,h3,rfl⟩:=mapS hc;exact zvl hu h1 h2 hz h3 hs he
   ·cases hc
  ·cases hc
 case buildSlice t n parts =>
  split at hc
  ·rename_i e hu;obtain⟨z,h1,hc⟩:=zcn hc;obtain⟨l,h2,rfl⟩:=mapS hc;exact zvm hu h1 h2 hs he
  ·cases hc
 case load t x =>
  obtain⟨y,h1,hc⟩:=zcn hc;split at hc
  ·rename_i ht;cases hc;exact z2y h1 ht hs he
  ·cases hc
 case store t p x =>
  obtain⟨q,h1,hc⟩:=zcn hc;obtain⟨y,h2,hc⟩:=zcn hc;split at hc
  ·rename_i ht;cases hc;have:v=.undef:=by
    simp only[eff]at he
    (repeat' split at he)<;>first|cases he;rfl|cases he
   subst this;exact zzb h1 h2 ht hs he
  ·cases hc
 case nilCheck x=>obtain⟨y,h1,rfl⟩:=mapS hc;exact zzd h1 hs he
 case binOp op t x y t2 =>
  obtain⟨x',h1,hc⟩:=zcn hc;obtain⟨y',h2,hc⟩:=zcn hc;split at hc
  ·cases hc;exact z20 h1 h2 hs he
  ·rename_i hu;cases hc;exact z23 hu h1 h2 hs he
  ·rename_i hu;exact zzf hu h1 h2 hc hs he
  ·obtain⟨ks,h3,rfl⟩:=mapS hc;exact z24 h3 h1 h2 hs he
 case unOp op t x =>
  obtain⟨x',h1,hc⟩:=zcn hc;split at hc
  ·cases hc;exact z7f h1 hs he
  ·cases hc;exact z7g h1 hs he
  ·cases hc;exact z2z h1 hs he
  ·cases hc
 case convert s t x =>
  obtain⟨x',h1,hc⟩:=zcn hc;split at hc
  ·rename_i h2 h3;cases hc;exact z21 h2 h3 h1 hs he
  ·cases hc
 case makeFunc fn first caps =>
  unfold zg6 at hc;split at hc
  ·rename_i f;split at hc
   ·rename_i h0;obtain⟨l,h1,rfl⟩:=mapS hc;have:first = #[]:=ykf h0
    subst this;exact z2w h1 hs he
   ·split at hc
    ·rename_i h0;have:caps = #[]:=ykf h0;subst this;split at hc
     ·rename_i x hf;obtain⟨y,h1,rfl⟩:=mapS hc;exact z2x hf h1 hs he
     ·cases hc
    ·cases hc
  ·cases hc
 case makeSlice t l c =>
  split at hc
  ·rename_i e hu;obtain⟨l',h1,hc⟩:=zcn hc;obtain⟨c',h2,hc⟩:=zcn hc;obtain⟨z,h3,hc⟩:=zcn hc;split at hc
   ·rename_i hb;cases hc;exact zr3 hu h3 hb h1 h2 hs he
   ·cases hc
  ·cases hc
 case slice t x lo hi mx =>
  unfold zfb at hc;split at hc
  ·cases hc
  ·split at hc
   ·rename_i e hu;split at hc
    ·rename_i hi0;obtain⟨x',h1,hc⟩:=zcn hc;obtain⟨lo',h2,hc⟩:=zcn hc;obtain⟨hi',h3,rfl⟩:=mapS hc;have hoo:∀ {y:Option Operand} {y':Option Opd},zuj y=some y'->(y=none/\y'=none)\/∃ l l',y=some l/\y'=some l'/\zag l=some l':=by
      intro y y' h;cases y with
      | none=>simp[zuj]at h;exact .inl ⟨rfl,h.symm⟩
      | some l=>obtain⟨l',h4,rfl⟩:=mapS h;exact .inr ⟨l,l',rfl,rfl,h4⟩
     exact zzc hu hi0 h1 (hoo h2) (hoo h3) hs he
    ·cases hc
   ·cases hc
 case fieldAddr s x f =>
  split at hc
  ·rename_i fs hu;split at hc
   ·rename_i fd hf;split at hc
    ·rename_i hp;obtain⟨x',h1,rfl⟩:=mapS hc;exact zzi hu hf hp h1 hs he
    ·cases hc
   ·cases hc
  ·cases hc
 case field s x f =>
  split at hc
  ·rename_i fs hu;split at hc
   ·rename_i fd hf;split at hc
    ·rename_i ht;obtain⟨x',h1,rfl⟩:=mapS hc;exact zzh hu hf ht h1 hs he
    ·cases hc
   ·cases hc
  ·cases hc
 case indexAddr t x i =>
  split at hc
  ·rename_i e hu;split at hc
   ·rename_i hi;obtain⟨x',h1,hc⟩:=zcn hc;obtain⟨i',h2,rfl⟩:=mapS hc;exact zzg hu hi h1 h2 hs he
   ·cases hc
  ·rename_i n e hu;split at hc
   ·rename_i hi;obtain⟨x',h1,hc⟩:=zcn hc;obtain⟨i',h2,rfl⟩:=mapS hc;exact zvk hu hi h1 h2 hs he
   ·cases hc
  ·cases hc
 case index t x i =>
  split at hc
  ·rename_i n e hu;split at hc
   ·rename_i ht;obtain⟨x',h1,hc⟩:=zcn hc;obtain⟨i',h2,rfl⟩:=mapS hc;exact z7i hu ht h1 h2 hs he
   ·cases hc
  ·rename_i hu;obtain⟨x',h1,hc⟩:=zcn hc;obtain⟨i',h2,rfl⟩:=mapS hc;exact z2u hu h1 h2 hs he
  ·cases hc
 case extract x i=>obtain⟨x',h1,rfl⟩:=mapS hc;exact zr4 h1 hs he
 case call c =>
  obtain⟨as,h1,hc⟩:=zcn hc;have hargs:c.args.map a.eval=((c.args.toList).map a.eval).toArray:=by simp[<- Array.toList_map]
  unfold zcp at hc;split at hc
  ·rename_i f hcal;exact(hn c f hop hcal).elim
  ·cases hc
  ·rename_i b hcal;split at hc
   ·split at hc
    ·rename_i x;split at hc
     ·rename_i ht;cases hc;obtain⟨x0,hx0,hx1⟩:∃ x0,c.args.toList=[x0]/\zag x0=some x:=by
       cases hl:c.args.toList with
       | nil=>rw[hl]at h1;simp[zaz]at h1
       | cons y ys =>
        rw[hl]at h1;simp only[zaz]at h1;split at h1
        ·rename_i p q e1 e2;cases h1;cases ys with
         | nil=>exact⟨y,rfl,e1⟩
         | cons z zs=>simp only[zaz]at e2;split at e2<;>cases e2
        ·cases h1
      have:=z7h (args:=c.argTypes) (ty:=o.type) ht hx1 hs he;simpa[resolve,hcal,invoke,builtin,hargs,hx0]using this
     ·cases hc
    ·cases hc
   ·split at hc
    ·rename_i x y t u h3 h4;split at hc
     ·rename_i e hu;split at hc
      ·rename_i hcond;obtain⟨g1,g2,g3⟩:=hcond;cases hc;obtain⟨x0,y0,hl,hx,hy⟩:=zss h1;obtain⟨z0,hz0,hz1⟩:=Option.map_eq_some_iff.1 g2;have:=zvn (A:=c.argTypes) (ty:=o.type) h3 h4 hu g1 (by rw[hz0];rfl) g3 (fun z hz=>by rw[hz0]at hz;cases hz;exact hz1) hx hy hs he;simpa[resolve,hcal,invoke,builtin,hargs,hl]using this
      ·split at hc
       ·rename_i hcond;obtain⟨g1,g2,g3⟩:=hcond;obtain⟨z0,hz0,rfl⟩:=mapS hc;obtain⟨x0,y0,hl,hx,hy⟩:=zss h1;obtain⟨k,hk⟩:∃ k,P.underlying u=some (.int k):=by
         cases hu2:P.underlying u with
         | none=>simp[hu2,z63]at g1
         | some d=>cases d<;>simp[hu2,z63]at g1;exact⟨_,rfl⟩
        have:=zr5 (A:=c.argTypes) (ty:=o.type) h3 h4 hu hk hz0 g3 hx hy hs he;simpa[resolve,hcal,invoke,builtin,hargs,hl]using this
       ·cases hc
     ·cases hc
    ·cases hc
   ·split at hc
    ·rename_i x;split at hc
     ·rename_i ht;cases hc;obtain⟨x0,hx0,hx1⟩:=zxn h1;have:=z7k (args:=c.argTypes) (ty:=o.type) ht hx1 hs he;simpa[resolve,hcal,invoke,builtin,hargs,hx0]using this
     ·cases hc
    ·cases hc
   ·split at hc
    ·rename_i x t h3;split at hc
     ·rename_i e hu;obtain⟨z,hz,rfl⟩:=mapS hc;obtain⟨x0,hx0,hx1⟩:=zxn h1;have:=zzj (A:=c.argTypes) (ty:=o.type) h3 hu hz hx1 hs he;simpa[resolve,hcal,invoke,builtin,hargs,hx0]using this
     ·cases hc
    ·cases hc
   ·cases hc;simp only[eff]at he;split at he
    ·rename_i r hr;simp only[Option.some.injEq,Prod.mk.injEq]at he;obtain⟨rfl,rfl⟩:=he;have:=zna (P:=P) (mx:=false) (args:=c.argTypes) (ty:=o.type) h1 hs hr;simpa[resolve,hcal,invoke,builtin]using this
    ·cases he
   ·cases hc;simp only[eff]at he;split at he
    ·rename_i r hr;simp only[Option.some.injEq,Prod.mk.injEq]at he;obtain⟨rfl,rfl⟩:=he;have:=zna (P:=P) (mx:=true) (args:=c.argTypes) (ty:=o.type) h1 hs hr;simpa[resolve,hcal,invoke,builtin]using this
    ·cases he
   ·cases hc
 case lookup t m k b=>exact zze hc hs he
 all_goals first|(cases hc;done)|(cases hc;simp only[eff]at he;cases he)
theorem zep{f:FuncId}{args:Array Value}(h:∃ fn,P.funcs[f]?=some fn/\fn.body.isSome=true/\fn.name ≠ "runtime.NumGoroutine"):(callFunc f args).run P w=.ok (.enter f args) w:=by obtain⟨fn,h1,h2,h3⟩:=h;simp[callFunc,h1,h3];intro hb;simp[hb]at h2
def PCall.ok(P:Program)(c:PCall):Prop :=
 match c.res with
 | .hsp vs hp res hp'=>HSpG P c.f vs hp none res hp' none
 | _=>match c.tn with
  | none=>Sp P c.f c.args c.res
  | some (i,sz,es')=>SpM P c.f c.args i sz es' c.res
theorem zcb{f:FuncId}{vs:List AV}(he:zcc orc st d f vs=some (v,st')):∃ c,orc=some c/\f=c.f/\zjl c st vs/\zey c st d vs=some (v,st'):=by
 unfold zcc at he;split at he
 ·rename_i c;by_cases h:f=c.f/\zjl c st vs
  ·rw[yf1 h]at he;exact⟨c,rfl,h.1,h.2,he⟩
  ·rw[yf0 h]at he;cases he
 ·cases he
def zp7:RV->Bool
 | .hsp _ _ _ _=>true
 | _=>false
theorem zxx{c:PCall}(h:zp7 c.res=false)(st:St)(vs:List AV):zjl c st vs=(vs.mapM (toPV st FUEL)=some c.args):=by unfold zjl;cases hr:c.res<;>first|rfl|(rw[hr]at h;cases h)
theorem zxy{c:PCall}(h:zp7 c.res=false)(st:St)(d:Nat)(vs:List AV):zey c st d vs=match c.tn with|none=>zex c st d (vs.flatMap (deps st FUEL))|some (i,sz,es')=>zfz c i sz es' st vs:=by unfold zey;cases hr:c.res<;>first|rfl|(rw[hr]at h;cases h)
theorem ydu{c:PCall}(h:zp7 c.res=false):PCall.ok P c=match c.tn with|none=>Sp P c.f c.args c.res|some (i,sz,es')=>SpM P c.f c.args i sz es' c.res:=by unfold PCall.ok;cases hr:c.res<;>first|rfl|(rw[hr]at h;cases h)
theorem zj3{α β : Type}{f : α -> Option β}:∀ {xs:List α} {r:List β},xs.mapM f=some r->∀ (j:Nat) (x : α),xs[j]?=some x->∃ y,r[j]?=some y/\f x=some y
 | [],r,_,j,x,hx=>by simp at hx
 | z::xs,r,h,j,x,hx=>by
  obtain⟨y,ys,h1,h2,rfl⟩:=zbz h;cases j with
  | zero=>simp at hx;subst hx;exact⟨y,rfl,h1⟩
  | succ j=>simpa using zj3 h2 j x (by simpa using hx)
theorem z0r{n s g off len:Nat}:toPV st (n+1) (.own s g off len)=match st.obj s g with
  | some o=>if off+len<=o.es.length then(((o.es.drop off).take len).mapM (toPV st n)).map .sl else none
  | none=>none:=rfl
theorem z0q{n s g ix off:Nat}:toPV st (n+1) (.ptr s g ix off)=if ix=0/\off=0 then match st.obj s g with
   | some o=>match o.es with
    | [e]=>(toPV st n e).map .ref
    | _=>none
   | none=>none
   else none:=rfl
theorem z10{vs:List AV}{vals:List Value}{args:List PV}{s g len i:Nat}{sl:Bool}{o:AObj}{ids:List (Nat × Nat)}(hs:HRep K Z st w)(hr:AReps Z st vs vals)(hm:vs.mapM (toPV st FUEL)=some args)(href:zi5 vs[i]?=some (s,g,len,sl))(ho:st.obj s g=some o)(hlen:len=o.es.length)
  (hids:ids=(vs.eraseIdx i).flatMap (deps st FUEL)++o.es.flatMap (deps st 5)) (hni:(s,g)∉ids) :
  ∃ es,MArr (Mx Z st w ids) w (Z.B s g) (Z.cap s g) o.sz es/\es.length=o.es.length/\∀ p,args[i]?=some p->∃ x,vals[i]?=some x/\MRef p es (Z.B s g) (Z.cap s g) x:=by
 have hO:=hs.objs s g o ho;have key:∀ es,o.es.mapM (toPV st 5)=some es->MArr (Mx Z st w ids) w (Z.B s g) (Z.cap s g) o.sz es:=by
  intro es hes;have hlen:=zfn hes;cases hb:Z.B s g with
  | none =>
   have h0:=hO.non hb;rw[h0]at hes;have:=zb9 hes;subst this;exact⟨hO.pos,by simp,by simp,fun _=>rfl,fun b hb=>by cases hb⟩
  | some b =>
   obtain⟨cur,T,vals,k1,k2,k3,k4,k5,k6⟩:=hO.blk b hb;obtain⟨r1,r2,r3⟩:=zgn (w:=w) (n:=5) (ids:=ids) hO.pos (zf6 hs ids 5) k2 hes hO.els hO.one (fun i hi=>by rw[hids];exact yfk.2 (.inr hi));refine⟨hO.pos,r2,r3,fun(h:some b=none)=>(by cases h),fun b' hb'=>?_⟩;cases hb';refine⟨?_,cur,T,vals,k1,r1,k3,k4,by omega,k6⟩;cases hmx:Mx Z st w ids b with
   | none=>rfl
   | some y =>
    exfalso;rcases zbx hmx with h|⟨_,_,s',g',ob,e1,e2,e3⟩
    ·rw[hs.sep s g o b ho hb]at h;cases h
    ·obtain⟨rfl,rfl⟩:=hs.inj s g s' g' o ob b ho e2 hb e3;exact hni e1
 rcases zk3 href with⟨hu,_⟩|⟨hu,hl1,_⟩
 ·obtain⟨p,hp,htp⟩:=zj3 hm i _ hu;obtain⟨x,hx,hrx⟩:=hr.get i _ hu;rw[FUEL,z0r]at htp;simp only[ho,ygm,yhx]at htp;rw[yf1 (by omega),yfw (by omega)]at htp;obtain⟨es,hes,rfl⟩:=ygv.1 htp;have hl:=zfn hes;refine⟨es,key es hes,hl,fun q hq=>⟨x,hx,?_⟩⟩;rw[hp]at hq;cases hq;refine .inl ⟨rfl,?_⟩;cases hrx with
  | own0 _ _ o' ho' hb=>rw[hb]
  | own _ _ _ _ o' b ad c ho' hb h1 h2 h3 h4 =>
   obtain⟨rfl,rfl⟩:=h1 rfl;rw[hb,hl,<- hlen]
  | ownD _ _ _ _ _ _ _ hd=>exact(za4 ho hd).elim
 ·obtain⟨p,hp,htp⟩:=zj3 hm i _ hu;obtain⟨x,hx,hrx⟩:=hr.get i _ hu;rw[FUEL,z0q]at htp;simp only[ho,and_self,yf2]at htp;split at htp
  ·rename_i e he;obtain⟨q,hq,rfl⟩:=ygv.1 htp;refine⟨[q],key [q] (by rw[he];simp[hq]),by rw[he];rfl,fun q' hq'=>⟨x,hx,?_⟩⟩;rw[hp]at hq';cases hq';obtain⟨b,hb,rfl⟩:=zed hrx ho;exact .inr ⟨q,b,rfl,rfl,hb,by simp⟩
  ·cases htp
theorem z7s{o:Oper}{i:IOp}{cc:Call}{f:Operand}(hc:zb2 P o.op=some i)(hop:o.op=.call cc)(hf:cc.callee=.value f)(hs:StRep K Z st w a)(he:eff orc st d i=some (v,st'))(horc:∀ c,orc=some c->c.ok P)
  {next:Act->World->Prop} {Q:Exit->Act->World->Prop} (hnext:∀ w' Z' x,HRep K Z' st' w'->ARep Z' st' v x->ZLe Z st Z' st'->next (a.put o.dst x) w'):o.wp P a w next Q:=by
 obtain⟨as,hops,hcal⟩:∃ as,zaz cc.args.toList=some as/\zcp P cc.callee cc.argTypes as=some i:=by rw[hop]at hc;simp only[zb2]at hc;obtain⟨as,h1,h2⟩:=zcn hc;exact⟨as,h1,h2⟩
 have hr:=zim hops hs;have hargs:cc.args.map a.eval=((cc.args.toList).map a.eval).toArray:=by simp[<- Array.toList_map]
 obtain⟨c,vas,vvs,lvs,cvals,horc',hfv,hvv,hvals,hm,hres⟩:∃ (c:PCall) (vas:List AV) (vvs lvs cvals:List Value),orc=some c/\a.eval f=.func (.func c.f) lvs.toArray cvals.toArray/\vvs=lvs++(cc.args.toList.map a.eval++cvals)/\AReps Z st vas vvs /\
   zjl c st vas/\zey c st d vas=some (v,st'):=by
  rw[hf]at hcal;simp only[zcp]at hcal;split at hcal
  ·rename_i g hg;cases hcal;have hfr:=zaq hg hs;simp only[St.ev]at hfr;simp only[eff]at he;obtain⟨c,h1,h2,h3,h4⟩:=zcb he;subst h2;have hp:=hfr.inv_p;generalize a.eval f=F at hp ⊢;cases hp with
   | fn _ _ vals h=>cases h;exact⟨c,_,_,[],[],h1,rfl,rfl,by simpa using hr,by simpa using h3,by simpa using h4⟩
  ·rename_i f' hg;cases hcal;have hfr:=zaq hg hs;simp only[eff]at he;split at he
   ·rename_i g caps hev;rw[hev]at hfr;obtain⟨c,h1,h2,h3,h4⟩:=zcb he;subst h2;have hp:=hfr.inv_p;generalize a.eval f=F at hp ⊢;cases hp with
    | fn _ _ vals h=>exact⟨c,_,_,[],vals,h1,rfl,rfl,hr.append (AReps.of_p h),h3,h4⟩
   ·rename_i g caps hev;rw[hev]at hfr;obtain⟨c,h1,h2,h3,h4⟩:=zcb he;subst h2;generalize a.eval f=F at hfr ⊢;cases hfr with
    | fn _ _ vals h=>exact⟨c,_,_,[],vals,h1,rfl,rfl,hr.append h,h3,h4⟩
   ·rename_i g u hev;rw[hev]at hfr;obtain⟨c,h1,h2,h3,h4⟩:=zcb he;subst h2;have hp:=hfr.inv_p;generalize a.eval f=F at hp ⊢;cases hp with
    | bm _ _ x h=>exact⟨c,_,_,[x],[],h1,rfl,rfl,.cons _ _ _ _ (.p _ _ h) (by simpa using hr),h3,h4⟩
   ·cases he
  ·cases hcal
 have hok:=horc c horc';have hrun:(∃ fn,P.funcs[c.f]?=some fn/\fn.body.isSome=true/\fn.name ≠ "runtime.NumGoroutine")->(execOp a.eval o).run P w=.ok (.enter c.f vvs.toArray) w:=by
  intro hfn;have:=zep (P:=P) (w:=w) (args:=vvs.toArray) hfn;simp only[execOp,hop,resolve,hf,hfv,Deferred.ofValue,yfx,yg0,yg8,invoke];have e:lvs.toArray++cc.args.map a.eval++cvals.toArray=vvs.toArray:=by rw[hargs,hvv];simp
  rw[e];exact this
 unfold Oper.wp;cases hH:zp7 c.res with
 | true =>
  unfold PCall.ok at hok;unfold zey at hres;unfold zjl at hm;cases hr0:c.res with
  | hsp vs0 hp res hp' =>
   rw[hr0]at hok hres hm;simp only at hok hres hm;obtain⟨rfl,_,hk,hks,hchk⟩:=hm;obtain⟨hfn,hsp⟩:=hok;rw[hrun hfn,yiz];simp only[yfr]at hchk;obtain⟨⟨⟨r1,r2⟩,r3⟩,r4⟩:=hchk;have hsite:∀ s,(hp.map (·.1)).contains s=true->st.site s=look hp s []:=fun s hs=>by obtain⟨q,hq,rfl⟩:=yf6.1 (yiy.1 hs);exact zl1 hk q hq
   obtain⟨u1,u2⟩:=zz0 (o:=none) hsite r2 hs.heap trivial;refine(hsp Z w _ u1 u2 (AReps.into (st:=st) (st2:=⟨[],hp⟩) (Z2:=Z) (fun s h=>(hsite s h).symm) (fun _ _ h=>h) (fun _ _ _=>⟨rfl,rfl⟩) hvals r1)).mono ?_;rintro e w' ⟨x,Z',rfl,p1,p2,p3,p4⟩;obtain⟨Z2,q1,q2,q3,q4,q5⟩:=zvw rfl hks hsite r4 (by cases res with|av v=>exact r3|fr _ _=>rfl|bx _ _ _=>exact(Bool.and_eq_true_iff.1 r3).2) hs.heap (o:=none) (o':=none) trivial p1 p2 p3 p4;obtain⟨Z3,v1,st3,e1,t1,t2,t3,t4,t5,t6⟩:=HRes.take (dd:=d) q1 q2 r3 hs.heap.keep.size q5 (fun b hb=>hb.elim);rw[e1]at hres;simp only[yf3,yf5]at hres;obtain⟨rfl,rfl⟩:=hres;exact hnext w' Z3 x t1 t2 (q3.trans t4)
  | _=>rw[hr0]at hH;cases hH
 | false =>
 rw[zxx hH]at hm;rw[zxy hH]at hres;rw[ydu hH]at hok;cases htn:c.tn with
 | none =>
  rw[htn]at hok hres;obtain⟨hfn,hsp⟩:=hok;rw[hrun hfn,yiz];have hp:=zgd (w:=w) (zf6 hs.heap (vas.flatMap (deps st FUEL)) FUEL) hvals hm (fun i hi=>hi);refine(hsp w _ _ (fun b ob hb=>?_) hp).mono ?_
  ·rcases zbx hb with h|⟨_,h,_⟩
   ·exact hs.heap.mem b ob h
   ·exact h
  ·rintro e w' ⟨x,M',rfl,p1,p2,p3,p4,p5⟩;obtain⟨Z',q1,q2,q3⟩:=zqu (vs:=vas) hs.heap p1 p2 p3 p4 p5 hres;exact hnext w' Z' x q1 q2 q3
 | some t =>
  obtain⟨i,sz,es'⟩:=t;rw[htn]at hok hres;obtain⟨hfn,hsp⟩:=hok;simp only at hsp hres;rw[hrun hfn,yiz];obtain⟨s,g,len,sl,ob,href,ho,hi,hlen,hle,hsz,hni,hv,hst⟩:=zjm hres;generalize vas=vs at *
  obtain⟨es,m1,m2,m3⟩:=z10 hs.heap hvals hm href ho hlen rfl hni;rw[hsz]at m1;have hal:vs.length=c.args.length:=(zfn hm).symm;have hvl:vvs.length=c.args.length:=by rw[<- hal];exact hvals.length
  refine(hsp w _ _ (Z.B s g) (Z.cap s g) es (fun b ob hb=>?_) hvl m3 (by rw[<- hal];exact hi) m1 (fun j p hj hp=>?_)).mono ?_
  ·rcases zbx hb with h|⟨_,h,_⟩
   ·exact hs.heap.mem b ob h
   ·exact h
  ·obtain⟨u,hu⟩:∃ u,vs[j]?=some u:=by
    have:j<vs.length:=by rw[hal];exact(yh6.1 hp).1
    exact⟨vs[j],yfm this⟩
   obtain⟨q,hq,htq⟩:=zj3 hm j u hu;rw[hp]at hq;cases hq;obtain⟨x,hx,hrx⟩:=hvals.get j u hu;refine⟨x,hx,zf6 hs.heap _ FUEL u x p hrx htq (fun k hk=>yfk.2 (.inl (yg3.2 ⟨u,?_,hk⟩)))⟩;rw[List.mem_eraseIdx_iff_getElem?];exact⟨j,hj,hu⟩
  ·rintro e w' ⟨x,M',rfl,p1,p2,p3,p4,p5,p6,p7⟩;obtain⟨Z',q1,q2,q3⟩:=zvt (vs:=vs) hs.heap ho hlen hsz hni p1 p2 p3 p4 (by rw[p5,m2]) p6 (by rw[m2]at p7;exact p7) hv hst;exact hnext w' Z' x q1 q2 q3
end
def zbm:AV->List Nat
 | .own s _ _ _=>[s]
 | .ptr s _ _ _=>[s]
 | _=>[]
def Opd.slots:Opd->List Nat
 | .t n=>[n]
 | .c _=>[]
def zai:Option Opd->List Opd
 | some x=>[x]
 | none=>[]
def IOp.opds:IOp->List Opd
 | .mv x | .box _ x | .load _ _ x | .nilck x | .not x | .neg x | .ixor x | .conv _ x | .faddr _ x | .field _ _ _ x | .extract x _ | .len x | .isnil _ x | .cap x | .clear _ _ x=>[x]
 | .pick c a b=>[c,a,b]
 | .alloc _ _ | .raw _ | .bad=>[]
 | .build _ ps=>ps.map (·.2.2)
 | .bslice _ _ _ ps=>ps.map (·.2)
 | .store _ a v | .ibin _ a v | .bbin _ a v | .abin _ _ a v | .mkslice _ _ a v | .iaddr _ a v | .iaddrA _ _ a v | .idx _ _ _ a v | .append _ a v | .appendz _ _ a v | .sidx a v | .mlook _ _ a v | .mlookc _ _ a v=>[a,v]
 | .mkfn _ caps=>caps
 | .mkbm _ x=>[x]
 | .slice _ x lo hi=>x::(zai lo++zai hi)
 | .min xs | .max xs=>xs
 | .call _ args=>args
 | .callv f args=>f::args
def zcj(st:St):IOp->List AV
 | .call _ args=>args.map st.ev
 | .callv x args=>match st.ev x with
  | .p (.fn _ caps)=>args.map st.ev++caps.map .p
  | .fn _ caps=>args.map st.ev++caps
  | .p (.bm _ v)=>.p v::args.map st.ev
  | _=>[]
 | _=>[]
def zfd(orc:Option PCall)(st:St)(vs:List AV):List Nat :=
 match orc with
 | some c=>match c.res with
  | .hsp _ hp _ _=>hp.map (·.1)
  | _=>(vs.flatMap (deps st FUEL)).map (·.1)
 | none=>(vs.flatMap (deps st FUEL)).map (·.1)
def effR(orc:Option PCall)(st:St)(d:Nat)(op:IOp):List Nat :=
 match op with
 | .alloc _ _ | .box _ _ | .bslice _ _ _ _ | .mkslice _ _ _ _ | .appendz _ _ _ _=>[d]
 | .load _ _ x | .nilck x | .faddr _ x | .slice _ x _ _ | .iaddr _ x _ | .iaddrA _ _ x _ | .isnil _ x | .clear _ _ x=>zbm (st.ev x)
 | .store _ a _=>zbm (st.ev a)
 | .append _ a x=>d::(zbm (st.ev a)++zbm (st.ev x))
 | .call _ _ | .callv _ _=>d::zfd orc st (zcj st op)
 | _=>[]
def zqv(orc:Option PCall)(d:Nat)(ids:List Nat):List Nat :=
 match orc with
 | some c=>match c.res with
  | .hsp _ _ _ _=>d::ids
  | _=>match c.tn with
   | some _=>d::ids
   | none=>(if c.res.flat then[]else ids)++(match c.res with | .fresh _ _=>[d]|_=>[])
 | none=>[]
def effW(orc:Option PCall)(st:St)(d:Nat)(op:IOp):List Nat :=
 match op with
 | .alloc _ _ | .box _ _ | .bslice _ _ _ _ | .mkslice _ _ _ _ | .appendz _ _ _ _=>[d]
 | .store _ a _=>zbm (st.ev a)
 | .clear _ _ a=>zbm (st.ev a)
 | .append _ a _=>d::zbm (st.ev a)
 | .call _ _ | .callv _ _=>zqv orc d (zfd orc st (zcj st op))
 | _=>[]
section
variable {orc:Option PCall} {st st' st2:St} {d:Nat} {v:AV}
theorem zcs{o:AObj}{s:Nat}(h:st2.site d=st.site d)(hs:s=d\/st2.site s=st.site s):(st2.alloc d o).site s=(st.alloc d o).site s:=by
 rw[za8,za8,h];split
 ·rfl
 ·grind
theorem zmf:∀ (n:Nat) (u:AV),(∀ i∈deps st n u,st2.site i.1=st.site i.1)->toPV st2 n u=toPV st n u/\deps st2 n u=deps st n u
 | 0,_,_=>⟨rfl,rfl⟩
 | n+1,u,h=>by
  have ih:=zmf n;have lst:∀ (l:List AV),(∀ i∈l.flatMap (deps st n),st2.site i.1=st.site i.1)->l.mapM (toPV st2 n)=l.mapM (toPV st n)/\l.flatMap (deps st2 n)=l.flatMap (deps st n):=by
   intro l
   induction l with
   | nil=>intro _;exact⟨rfl,rfl⟩
   | cons x xs ihl =>
    intro h;obtain⟨a1,a2⟩:=ih x (fun i hi=>h i (by simp only[yft,yfk];exact .inl hi));obtain⟨b1,b2⟩:=ihl (fun i hi=>h i (by simp only[yft,yfk];exact .inr hi));exact⟨by rw[yhz,yhz,a1,b1],by rw[yft,yft,a2,b2]⟩
  cases u with
  | p v=>exact⟨rfl,rfl⟩
  | nil=>exact⟨rfl,rfl⟩
  | skip=>exact⟨rfl,rfl⟩
  | undef=>exact⟨rfl,rfl⟩
  | cp v vsz off=>exact⟨rfl,rfl⟩
  | agg cs=>obtain⟨b1,b2⟩:=lst cs h;exact⟨by simp only[toPV,b1],b2⟩
  | tup cs=>obtain⟨b1,b2⟩:=lst cs h;exact⟨by simp only[toPV,b1],b2⟩
  | fn f cs=>obtain⟨b1,b2⟩:=lst cs h;exact⟨by simp only[toPV,b1],b2⟩
  | own s g off len =>
   have ho:st2.obj s g=st.obj s g:=zae (h (s,g) (by simp[deps]));simp only[toPV,deps,ho]at h ⊢;cases hob:st.obj s g with
   | none=>exact⟨rfl,rfl⟩
   | some o =>
    simp only[hob,yf4,forall_eq_or_imp]at h;obtain⟨b1,b2⟩:=lst o.es h.2;obtain⟨c1,_⟩:=lst ((o.es.drop off).take len) (fun i hi=>h.2 i (by
     obtain⟨e,he,hie⟩:=yg3.1 hi;exact yg3.2 ⟨e,yga (ygb he),hie⟩))
    exact⟨by simp only[c1],by simp only[b2]⟩
  | ptr s g ix off =>
   have ho:st2.obj s g=st.obj s g:=zae (h (s,g) (by simp[deps]));simp only[toPV,deps,ho]at h ⊢;cases hob:st.obj s g with
   | none=>exact⟨rfl,rfl⟩
   | some o =>
    simp only[hob,yf4,forall_eq_or_imp]at h;obtain⟨b1,b2⟩:=lst o.es h.2;refine⟨?_,by simp only[b2]⟩;split
    ·split
     ·rename_i o' ho';cases ho';split
      ·rename_i e he;rw[he]at h;obtain⟨c1,_⟩:=ih e (fun i hi=>h.2 i (by simp[hi]));rw[c1]
      ·rfl
     ·rfl
    ·rfl
theorem zay:∀ (ids:List (Nat × Nat)) {st st2:St} {s:Nat},st2.site s=st.site s->(killAll st2 ids).site s=(killAll st ids).site s
 | [],_,_,_,h=>h
 | (s',g)::r,st,st2,s,h=>by
  rw[zej,zej];refine zay r ?_;rw[zga,zga];split
  ·grind
  ·omega
theorem zax:∀ (ids:List (Nat × Nat)) {st:St} {s:Nat},s∉ids.map (·.1)->(killAll st ids).site s=st.site s
 | [],_,_,_=>rfl
 | (s',g)::r,st,s,h=>by
  rw[zej,zax r (by simp at h ⊢;exact h.2),zga]
  grind
def Same(st st' st2 st2':St)(R W:List Nat):Prop :=
 (∀ s,s∈W->st2'.site s=st'.site s)/\(∀ s,s∉W->st2'.site s=st2.site s)/\(∀ s,s∉W->st'.site s=st.site s)/\st2'.sl=st2.sl/\st'.sl=st.sl/\(∀ s∈W,s∈R)
theorem zak{R:List Nat}:Same st st st2 st2 R []:=⟨by simp,by simp,by simp,rfl,rfl,by simp⟩
theorem zc6{R:List Nat}{o:AObj}(h:st2.site d=st.site d)(hR:d∈R):Same st (st.alloc d o) st2 (st2.alloc d o) R [d]:=by
 refine⟨fun s hs=>?_,fun s hs=>?_,fun s hs=>?_,rfl,rfl,by simpa using hR⟩
 ·simp at hs;exact zcs h (.inl hs)
 ·simp at hs;rw[za8,yf0 hs]
 ·simp at hs;rw[za8,yf0 hs]
theorem zo0{c:PCall}{ids:List (Nat × Nat)}(hn:c.tn=none)(he:zex c st d ids=some (v,st'))(hi:∀ i∈ids,st2.site i.1=st.site i.1)(hd:st2.site d=st.site d) :
  ∃ st2',zex c st2 d ids=some (v,st2')/\Same st st' st2 st2' (d::ids.map (·.1)) (zqv (some c) d (ids.map (·.1))):=by
 have hi':∀ s∈ids.map (·.1),st2.site s=st.site s:=fun s hs=>by obtain⟨i,hi1,rfl⟩:=yf6.1 hs;exact hi i hi1
 have hkd:(killAll st2 ids).site d=(killAll st ids).site d:=zay ids hd
 have hkill:Same st (killAll st ids) st2 (killAll st2 ids) (d::ids.map (·.1)) (ids.map (·.1)) :=
  ⟨fun s hs=>zay ids (hi' s hs),fun s hs=>zax ids hs,fun s hs=>zax ids hs,zbh ids st2,zbh ids st,fun s hs=>by simp only[yf4];exact .inr hs⟩
 obtain⟨cf,cargs,res,tn⟩:=c;subst hn;by_cases hH:zp7 res=true
 ·cases res with
  | hsp=>simp[zex]at he
  | _=>cases hH
 unfold zex at he ⊢;unfold zqv;dsimp only at he ⊢;generalize hf:res.flat=fl at he ⊢;cases fl<;>cases res<;>(try exact absurd rfl hH)<;>dsimp only at he ⊢ <;> simp only[yf2,yf9,yfl]at he ⊢
 ·grind
 ·split at he
  ·rename_i hc;obtain⟨rfl,rfl⟩:=he;refine⟨(killAll st2 ids).alloc d _,by rw[yf1 hc,hkd],fun s hs=>?_,fun s hs=>?_,fun s hs=>?_,zbh ids st2,zbh ids st,fun s hs=>?_⟩
   ·rcases yfk.1 hs with h|h
    ·exact zcs hkd (.inr (hkill.1 s h))
    ·simp at h;exact zcs hkd (.inl h)
   ·simp only[yfk,ygj,not_or]at hs;rw[za8,yf0 hs.2];exact hkill.2.1 s hs.1
   ·simp only[yfk,ygj,not_or]at hs;rw[za8,yf0 hs.2];exact hkill.2.2.1 s hs.1
   ·grind
  ·grind
 ·grind
 ·simp at he;obtain⟨rfl,rfl⟩:=he;exact⟨_,rfl,zak⟩
 ·split at he
  ·rename_i hc;obtain⟨rfl,rfl⟩:=he;exact⟨st2.alloc d _,by rw[yf1 hc,hd],zc6 hd (by simp)⟩
  ·grind
 ·grind
theorem zbv{n:Nat}:∀ {vs:List AV},(∀ i∈vs.flatMap (deps st n),st2.site i.1=st.site i.1)->vs.flatMap (deps st2 n)=vs.flatMap (deps st n)/\vs.mapM (toPV st2 n)=vs.mapM (toPV st n)
 | [],_=>⟨rfl,rfl⟩
 | x::xs,h=>by
  obtain⟨a1,a2⟩:=zmf n x (fun i hi=>h i (by simp;exact .inl hi));obtain⟨b1,b2⟩:=zbv (vs:=xs) (fun i hi=>h i (by simp only[yft,yfk];exact .inr hi))
  grind
theorem zo3{c:PCall}{i sz:Nat}{es':List PV}{vs:List AV}(he:zfz c i sz es' st vs=some (v,st'))(hi:∀ i∈vs.flatMap (deps st FUEL),st2.site i.1=st.site i.1) :
  ∃ st2',zfz c i sz es' st2 vs=some (v,st2')/\Same st st' st2 st2' (d::(vs.flatMap (deps st FUEL)).map (·.1)) ((vs.flatMap (deps st FUEL)).map (·.1)):=by
 obtain⟨s,g,len,sl,o,href,ho,hlt,hlen,hle,hsz,hni,hv,hst⟩:=zjm he;have hu:∃ u,vs[i]?=some u/\deps st FUEL u=(s,g)::o.es.flatMap (deps st 5):=by
  rcases zk3 href with⟨hu,_⟩|⟨hu,_,_⟩
  ·exact⟨_,hu,by simp only[FUEL,deps,ho]⟩
  ·exact⟨_,hu,by simp only[FUEL,deps,ho]⟩
 obtain⟨u,hu,hdu⟩:=hu;have hmem:∀ k∈(s,g)::o.es.flatMap (deps st 5),k∈vs.flatMap (deps st FUEL):=fun k hk=>yg3.2 ⟨u,yhi hu,by rw[hdu];exact hk⟩;have hs:=hi (s,g) (hmem _ (by simp));have ho2:st2.obj s g=some o:=by rw[zae hs];exact ho
 have hsub:∀ k∈(vs.eraseIdx i).flatMap (deps st FUEL),k∈vs.flatMap (deps st FUEL):=fun k hk=>by obtain⟨y,hy,hk⟩:=yg3.1 hk;exact yg3.2 ⟨y,List.mem_of_mem_eraseIdx hy,hk⟩
 have e1:=(zbv (st2:=st2) (n:=FUEL) (vs:=vs.eraseIdx i) (fun k hk=>hi k (hsub k hk))).1;have e2:=(zbv (st2:=st2) (n:=5) (vs:=o.es) (fun k hk=>hi k (hmem k (by simp only[yf4];exact .inr hk)))).1;have hallids:∀ k∈(vs.eraseIdx i).flatMap (deps st FUEL)++o.es.flatMap (deps st 5),k∈vs.flatMap (deps st FUEL):=fun k hk=>by
  rcases yfk.1 hk with h|h
  ·grind
  ·grind
 refine⟨zu5 c es' st2 ((vs.eraseIdx i).flatMap (deps st FUEL)++o.es.flatMap (deps st 5)) s g sz,?_,?_⟩
 ·unfold zfz at he ⊢;rw[href]at he ⊢;simp only[ho,ho2,e1,e2]at he ⊢;generalize hids:(vs.eraseIdx i).flatMap (deps st FUEL)++o.es.flatMap (deps st 5)=ids at he hst ⊢;by_cases hc:i<vs.length/\len=o.es.length/\es'.length=len/\o.sz=sz/\es'.all (fun v=>v.sz == sz)=true/\(es'.flatMap PV.cells).all PV.one=true/\ids.contains (s,g)=false
  ·rw[yf1 hc]at he ⊢;rcases hv with⟨u,hu,rfl⟩|⟨l,hl,h1,h2,rfl⟩
   ·rw[hu]
   ·rw[hl];simp only[h1,h2,and_self,yf2]
  ·rw[yf0 hc]at he;cases he
 ·generalize hids:(vs.eraseIdx i).flatMap (deps st FUEL)++o.es.flatMap (deps st 5)=ids at *
  have hk1:∀ t,t∉(vs.flatMap (deps st FUEL)).map (·.1)->t∉ids.map (·.1):=fun t ht h=>by obtain⟨k,hk,rfl⟩:=yf6.1 h;exact ht (yf6.2 ⟨k,hallids k hk,rfl⟩)
  have hts:∀ t,t∉(vs.flatMap (deps st FUEL)).map (·.1)->t≠s:=fun t ht h=>ht (yf6.2 ⟨(s,g),hmem _ (by simp),h.symm⟩);have hagree:∀ t∈(vs.flatMap (deps st FUEL)).map (·.1),st2.site t=st.site t:=fun t ht=>by obtain⟨k,hk,rfl⟩:=yf6.1 ht;exact hi k hk
  have hset:∀ (x:St) (t:Nat) (o:AObj),(x.setObj s g o).site t=if t=s then(x.site s).set g (some o)else x.site t:=fun x t o=>by rw[zbj]
  subst hst;unfold zu5;refine⟨fun t ht=>?_,fun t ht=>?_,fun t ht=>?_,?_,?_,fun t ht=>by simp only[yf4];exact .inr ht⟩
  ·rw[hset,hset];have ha:=hagree t ht;by_cases hf:(c.res.flat&&es'.all PV.flat)=true
   ·simp only[hf,yf2];rw[ha,hs]
   ·simp only[hf,yf9,yfl];rw[zay ids hs,zay ids ha]
  ·rw[hset,yf0 (hts t ht)];by_cases hf:(c.res.flat&&es'.all PV.flat)=true
   ·simp only[hf,yf2]
   ·simp only[hf,yf9,yfl];exact zax ids (hk1 t ht)
  ·rw[hset,yf0 (hts t ht)];by_cases hf:(c.res.flat&&es'.all PV.flat)=true
   ·simp only[hf,yf2]
   ·simp only[hf,yf9,yfl];exact zax ids (hk1 t ht)
  ·by_cases hf:(c.res.flat&&es'.all PV.flat)=true
   ·simp only[hf,yf2];rfl
   ·simp only[hf,yf9,yfl];exact zbh ids st2
  ·by_cases hf:(c.res.flat&&es'.all PV.flat)=true
   ·simp only[hf,yf2];rfl
   ·simp only[hf,yf9,yfl];exact zbh ids st
theorem zde{f:FuncId}{vs:List AV}(he:zcc orc st d f vs=some (v,st'))(hi:∀ s∈zfd orc st vs,st2.site s=st.site s)(hd:st2.site d=st.site d) :
  ∃ st2',zcc orc st2 d f vs=some (v,st2')/\Same st st' st2 st2' (d::zfd orc st vs) (zqv orc d (zfd orc st vs)):=by
 obtain⟨c,rfl,rfl,h3,h4⟩:=zcb he;cases hH:zp7 c.res with
 | true =>
  obtain⟨cf,cargs,cres,ctn⟩:=c;cases cres with
  | hsp vs0 hp res hp' =>
   simp only[zfd,zqv]at hi ⊢;obtain⟨rfl,hu,hk,hks,hchk⟩:=h3;have hk2:zbb st2 hp hp:=by
    have:∀ (r:List Site),(∀ q∈r,q.1∈hp.map (·.1))->zbb st hp r->zbb st2 hp r:=by
     intro r
     induction r with
     | nil=>intro _ _;trivial
     | cons q r ih =>
      intro h1 h2;exact⟨(hi q.1 (h1 q (by simp))).trans h2.1,ih (fun x hx=>h1 x (by simp[hx])) h2.2⟩
    grind
   have hpos:zcc (some ⟨cf,cargs,.hsp vs hp res hp',ctn⟩) st2 d cf vs=some (zcd res ⟨st2.sl,hp'++st2.hp⟩ d):=yf1 ⟨rfl,rfl,hu,hk2,hks,hchk⟩;rw[hpos];have hsite:∀ (t:St) (s:Nat),(⟨t.sl,hp'++t.hp⟩:St).site s=if (hp.map (·.1)).contains s=true then look hp' s []else t.site s:=fun t s=>by simp only[St.site,zob,hks]
   have hs1:∀ s,s∈hp.map (·.1)\/s=d->(⟨st2.sl,hp'++st2.hp⟩:St).site s=(⟨st.sl,hp'++st.hp⟩:St).site s:=fun s hs=>by
    rw[hsite,hsite];by_cases hc:(hp.map (·.1)).contains s=true
    ·grind
    ·grind
   have hs2:∀ (t:St) (s:Nat),s∉hp.map (·.1)->(⟨t.sl,hp'++t.hp⟩:St).site s=t.site s:=fun t s hs=>by
    grind
   have gen:∀ (o:AObj),Same st ((⟨st.sl,hp'++st.hp⟩:St).alloc d o) st2 ((⟨st2.sl,hp'++st2.hp⟩:St).alloc d o) (d::hp.map (·.1)) (d::hp.map (·.1)):=fun o=>by
    refine⟨fun s hs=>?_,fun s hs=>?_,fun s hs=>?_,rfl,rfl,fun s hs=>hs⟩
    ·rw[za8,za8,hs1 s (by rcases yf4.1 hs with h|h;exact .inr h;exact .inl h),hs1 d (.inr rfl)]
    ·simp only[yf4,not_or]at hs;rw[za8,yf0 hs.1];exact hs2 _ s hs.2
    ·simp only[yf4,not_or]at hs;rw[za8,yf0 hs.1];exact hs2 _ s hs.2
   have hlen:((⟨st2.sl,hp'++st2.hp⟩:St).site d).length=((⟨st.sl,hp'++st.hp⟩:St).site d).length:=by rw[hs1 d (.inr rfl)]
   simp only[yf3]at h4 ⊢;cases res with
   | av u =>
    simp only[zcd,yf5]at h4 ⊢;obtain⟨rfl,rfl⟩:=h4;refine⟨_,⟨rfl,rfl⟩,fun s hs=>?_,fun s hs=>?_,fun s hs=>?_,rfl,rfl,fun s hs=>hs⟩
    ·exact hs1 s (by rcases yf4.1 hs with h|h;exact .inr h;exact .inl h)
    ·simp only[yf4,not_or]at hs;exact hs2 _ s hs.2
    ·simp only[yf4,not_or]at hs;exact hs2 _ s hs.2
   | fr sz es =>
    simp only[zcd,yf5]at h4 ⊢;obtain⟨rfl,rfl⟩:=h4;exact⟨_,⟨by rw[hlen],rfl⟩,gen _⟩
   | bx sz e us =>
    simp only[zcd,yf5]at h4 ⊢;obtain⟨rfl,rfl⟩:=h4;exact⟨_,⟨by rw[hlen],rfl⟩,gen _⟩
  | _=>cases hH
 | false =>
 have hrv:∀ t,zfd (some c) t vs=(vs.flatMap (deps t FUEL)).map (·.1):=fun t=>by simp only[zfd];cases hr:c.res<;>first|rfl|(rw[hr]at hH;cases hH)
 rw[hrv]at hi ⊢;have hi:∀ i∈vs.flatMap (deps st FUEL),st2.site i.1=st.site i.1:=fun i h=>hi i.1 (yf6.2 ⟨i,h,rfl⟩);rw[zxx hH]at h3;rw[zxy hH]at h4;obtain⟨hv2,hv1⟩:=zbv hi;unfold zcc;simp only[zxx hH,zxy hH,hv1,hv2,h3,and_self,yf2];cases htn:c.tn with
 | none =>
  rw[htn]at h4;exact zo0 htn h4 hi hd
 | some t =>
  obtain⟨i,sz,es'⟩:=t;rw[htn]at h4;obtain⟨st2',e1,e2⟩:=zo3 (d:=d) h4 hi;refine⟨st2',e1,?_⟩;have hcw:zqv (some c) d ((vs.flatMap (deps st FUEL)).map (·.1))=d::(vs.flatMap (deps st FUEL)).map (·.1):=by simp only[zqv,htn];cases hr:c.res<;>rfl
  rw[hcw];obtain⟨a1,a2,a3,a4,a5,a6⟩:=e2;refine⟨fun s hs=>?_,fun s hs=>a2 s (fun h=>hs (yf4.2 (.inr h))),fun s hs=>a3 s (fun h=>hs (yf4.2 (.inr h))),a4,a5,fun s hs=>hs⟩;by_cases hm:s∈(vs.flatMap (deps st FUEL)).map (·.1)
  ·exact a1 s hm
  ·rcases yf4.1 hs with rfl|hs
   ·rw[a2 s hm,a3 s hm,hd]
   ·exact absurd hs hm
theorem zlu{op:IOp}(he:eff orc st d op=some (v,st'))(hs:∀ x∈op.opds,st2.ev x=st.ev x)(hr:∀ s∈effR orc st d op,st2.site s=st.site s) :
  ∃ st2',eff orc st2 d op=some (v,st2')/\Same st st' st2 st2' (effR orc st d op) (effW orc st d op):=by
 cases op with
 | mv x =>
  obtain⟨rfl,rfl⟩:=he;exact⟨st2,by simp only[eff,hs x (by simp[IOp.opds])],zak⟩
 | pick c x y =>
  simp only[eff]at he ⊢;rw[hs c (by simp[IOp.opds]),hs x (by simp[IOp.opds]),hs y (by simp[IOp.opds])];split at he<;>first|(cases he;done)|(simp only[yf3,yf5]at he;obtain⟨rfl,rfl⟩:=he;exact⟨st2,by simp only[*],zak⟩)
 | alloc sz z =>
  have hd:st2.site d=st.site d:=hr d (by simp[effR]);simp only[eff]at he ⊢;split at he
  ·rename_i hc;cases he;rw[hd,yf1 hc];exact⟨_,rfl,zc6 hd (by simp[effR])⟩
  ·cases he
 | box sz x =>
  have hd:st2.site d=st.site d:=hr d (by simp[effR]);simp only[eff]at he ⊢;rw[hs x (by simp[IOp.opds])];split at he
  ·rename_i hc;cases he;rw[hd,yf1 hc];exact⟨_,rfl,zc6 hd (by simp[effR])⟩
  ·cases he
 | build z ps =>
  have hp:ps.map (fun(o,s,x)=>(o,s,st2.ev x))=ps.map (fun(o,s,x)=>(o,s,st.ev x)):=ygc fun q hq=>by obtain⟨o,s,x⟩:=q;simp only[hs x (yf6.2 ⟨(o,s,x),hq,rfl⟩)]
  simp only[eff]at he ⊢;rw[hp];split at he<;>first|(cases he;done)|(simp only[yf3,yf5]at he;obtain⟨rfl,rfl⟩:=he;exact⟨st2,by simp only[*],zak⟩)
 | bslice sz z n ps =>
  have hd:st2.site d=st.site d:=hr d (by simp[effR]);have hp:ps.map (fun(i,x)=>(i,(st2.ev x).pur))=ps.map (fun(i,x)=>(i,(st.ev x).pur)):=ygc fun q hq=>by obtain⟨i,x⟩:=q;simp only[hs x (yf6.2 ⟨(i,x),hq,rfl⟩)]
  simp only[eff]at he ⊢;rw[hp,hd];split at he
  ·rename_i hc;split at he
   ·rename_i es hes;cases he;exact⟨_,by rw[yf1 hc,hes],zc6 hd (by simp[effR])⟩
   ·cases he
  ·cases he
 | load sz ag x =>
  have hx:=hs x (by simp[IOp.opds]);simp only[effR]at hr ⊢;simp only[eff,effW]at he ⊢;rw[hx];split at he
  ·rename_i s g ix off hev;rw[hev]at hr;rw[zae (g:=g) (hr s (by simp[zbm]))]
   (repeat' split at he)<;>first|(cases he;done)|(simp only[yf3,yf5]at he;obtain⟨rfl,rfl⟩:=he;exact⟨st2,by simp only[*,yf2,yf9,and_self],zak⟩)
  ·(repeat' split at he)<;>first|(cases he;done)|(simp only[yf3,yf5]at he;obtain⟨rfl,rfl⟩:=he;exact⟨st2,by simp only[*,yf2,yf9,and_self],zak⟩)
  ·cases he
 | store sz p x =>
  have hp:=hs p (by simp[IOp.opds]);have hx:=hs x (by simp[IOp.opds]);simp only[effR]at hr ⊢;simp only[eff,effW]at he ⊢;rw[hx,hp];split at he
  ·rename_i s g ix off hev;rw[hev]at hr;have hsite:=hr s (by simp[zbm]);rw[hev];rw[zae (g:=g) hsite];have hset:∀ o,Same st (st.setObj s g o) st2 (st2.setObj s g o) (zbm (.ptr s g ix off)) (zbm (.ptr s g ix off)):=by
    intro o;refine⟨fun t ht=>?_,fun t ht=>?_,fun t ht=>?_,rfl,rfl,fun _ h=>h⟩
    ·simp[zbm]at ht;subst ht;rw[zbj,zbj,hsite]
    ·simp[zbm]at ht;rw[zbj,yf0 ht]
    ·simp[zbm]at ht;rw[zbj,yf0 ht]
   split at he
   ·rename_i o ho;split at he
    ·rename_i e hix;split at he
     ·rename_i h1;split at he
      ·rename_i h2;simp only[yf3,yf5]at he;obtain⟨rfl,rfl⟩:=he;exact⟨_,by simp only[yf1 h1,yf1 h2],hset _⟩
      ·rename_i h2;split at he
       ·rename_i e' he';simp only[yf3,yf5]at he;obtain⟨rfl,rfl⟩:=he;exact⟨_,by simp only[yf1 h1,yf0 h2],hset _⟩
       ·cases he
     ·cases he
    ·cases he
   ·cases he
  ·cases he
 | nilck x =>
  have hx:=hs x (by simp[IOp.opds]);simp only[effR]at hr ⊢;simp only[eff,effW]at he ⊢;rw[hx];split at he
  ·rename_i s g ix off hev;rw[hev]at hr;rw[zae (g:=g) (hr s (by simp[zbm]))]
   (repeat' split at he)<;>first|(cases he;done)|(simp only[yf3,yf5]at he;obtain⟨rfl,rfl⟩:=he;exact⟨st2,by simp only[*],zak⟩)
  all_goals first|(cases he;done)|(simp only[yf3,yf5]at he;obtain⟨rfl,rfl⟩:=he;exact⟨st2,by simp only[*],zak⟩)
 | ibin op x y =>
  simp only[eff]at he ⊢;rw[hs x (by simp[IOp.opds]),hs y (by simp[IOp.opds])];split at he<;>first|(cases he;done)|(simp only[yf3,yf5]at he;obtain⟨rfl,rfl⟩:=he;exact⟨st2,by simp only[*],zak⟩)
 | bbin op x y =>
  simp only[eff]at he ⊢;rw[hs x (by simp[IOp.opds]),hs y (by simp[IOp.opds])];split at he<;>first|(cases he;done)|(simp only[yf3,yf5]at he;obtain⟨rfl,rfl⟩:=he;exact⟨st2,by simp only[*],zak⟩)
 | abin ks op x y =>
  simp only[eff]at he ⊢;rw[hs x (by simp[IOp.opds]),hs y (by simp[IOp.opds])];split at he<;>first|(cases he;done)|(simp only[yf3,yf5]at he;obtain⟨rfl,rfl⟩:=he;exact⟨st2,by simp only[*],zak⟩)
 | not x =>
  simp only[eff]at he ⊢;rw[hs x (by simp[IOp.opds])];split at he<;>first|(cases he;done)|(simp only[yf3,yf5]at he;obtain⟨rfl,rfl⟩:=he;exact⟨st2,by simp only[*],zak⟩)
 | neg x =>
  simp only[eff]at he ⊢;rw[hs x (by simp[IOp.opds])];split at he<;>first|(cases he;done)|(simp only[yf3,yf5]at he;obtain⟨rfl,rfl⟩:=he;exact⟨st2,by simp only[*],zak⟩)
 | ixor x =>
  simp only[eff]at he ⊢;rw[hs x (by simp[IOp.opds])]
  (repeat' split at he)<;>first|(cases he;done)|(simp only[yf3,yf5]at he;obtain⟨rfl,rfl⟩:=he;exact⟨st2,by simp only[*],zak⟩)
 | conv k x =>
  simp only[eff]at he ⊢;rw[hs x (by simp[IOp.opds])];split at he<;>first|(cases he;done)|(simp only[yf3,yf5]at he;obtain⟨rfl,rfl⟩:=he;exact⟨st2,by simp only[*],zak⟩)
 | mkbm f x =>
  simp only[eff]at he ⊢;rw[hs x (by simp[IOp.opds])];split at he<;>first|(cases he;done)|(simp only[yf3,yf5]at he;obtain⟨rfl,rfl⟩:=he;exact⟨st2,by simp only[*],zak⟩)
 | mkfn f caps =>
  have hp:caps.map st2.ev=caps.map st.ev:=ygc fun q hq=>hs q hq;simp only[eff]at he ⊢;rw[hp];split at he<;>first|(cases he;done)|(simp only[yf3,yf5]at he;obtain⟨rfl,rfl⟩:=he;exact⟨st2,by simp only[*,yf2],zak⟩)
 | mkslice sz z l c =>
  have hd:st2.site d=st.site d:=hr d (by simp[effR]);simp only[eff]at he ⊢;rw[hs l (by simp[IOp.opds]),hs c (by simp[IOp.opds]),hd];split at he
  ·rename_i n m hn hm;split at he
   ·rename_i hc;cases he;exact⟨_,by simp only[yf1 hc],zc6 hd (by simp[effR])⟩
   ·cases he
  ·cases he
 | slice sz x lo hi =>
  have hx:=hs x (by simp[IOp.opds]);have hlo:∀ n,zdk st2 lo n=zdk st lo n:=by
   intro n;cases lo with
   | none=>rfl
   | some l=>simp only[zdk];rw[hs l (by simp[IOp.opds,zai])]
  have hhi:∀ n,zdk st2 hi n=zdk st hi n:=by
   intro n;cases hi with
   | none=>rfl
   | some l=>simp only[zdk];rw[hs l (by simp[IOp.opds,zai])]
  simp only[effR]at hr ⊢;simp only[eff,effW]at he ⊢;rw[hx,hlo];split at he
  ·simp only[hhi]
   (repeat' split at he)<;>first|(cases he;done)|(simp only[yf3,yf5]at he;obtain⟨rfl,rfl⟩:=he;exact⟨st2,by simp only[*,yf2,and_self],zak⟩)
  ·rename_i l s g off len hl hev;rw[hev]at hr;simp only[hhi];rw[zae (g:=g) (hr s (by simp[zbm]))]
   (repeat' split at he)<;>first|(cases he;done)|(simp only[yf3,yf5]at he;obtain⟨rfl,rfl⟩:=he;exact⟨st2,by simp only[*,yf2,and_self],zak⟩)
  ·simp only[hhi]
   (repeat' split at he)<;>first|(cases he;done)|(simp only[yf3,yf5]at he;obtain⟨rfl,rfl⟩:=he;exact⟨st2,by simp only[*,yf2,and_self],zak⟩)
  ·cases he
 | faddr off x =>
  have hx:=hs x (by simp[IOp.opds]);simp only[effR]at hr ⊢;simp only[eff,effW]at he ⊢;rw[hx];split at he
  ·rename_i s g ix off hev;rw[hev]at hr;rw[zae (g:=g) (hr s (by simp[zbm]))]
   (repeat' split at he)<;>first|(cases he;done)|(simp only[yf3,yf5]at he;obtain⟨rfl,rfl⟩:=he;exact⟨st2,by simp only[*],zak⟩)
  all_goals first|(cases he;done)|(simp only[yf3,yf5]at he;obtain⟨rfl,rfl⟩:=he;exact⟨st2,by simp only[*],zak⟩)
 | field off sz ag x =>
  simp only[eff]at he ⊢;rw[hs x (by simp[IOp.opds])]
  (repeat' split at he)<;>first|(cases he;done)|(simp only[yf3,yf5]at he;obtain⟨rfl,rfl⟩:=he;exact⟨st2,by simp only[*],zak⟩)
 | iaddr sz x i =>
  have hx:=hs x (by simp[IOp.opds]);simp only[effR]at hr ⊢;simp only[eff,effW]at he ⊢;rw[hx,hs i (by simp[IOp.opds])];split at he
  ·(repeat' split at he)<;>first|(cases he;done)|(simp only[yf3,yf5]at he;obtain⟨rfl,rfl⟩:=he;exact⟨st2,by simp only[*,yf2,and_self],zak⟩)
  ·rename_i m s g off len hm hev;rw[hev]at hr;rw[zae (g:=g) (hr s (by simp[zbm]))]
   (repeat' split at he)<;>first|(cases he;done)|(simp only[yf3,yf5]at he;obtain⟨rfl,rfl⟩:=he;exact⟨st2,by simp only[*,yf2,and_self],zak⟩)
  ·cases he
 | iaddrA m sz x i =>
  have hx:=hs x (by simp[IOp.opds]);simp only[effR]at hr ⊢;simp only[eff,effW]at he ⊢;rw[hx,hs i (by simp[IOp.opds])];split at he
  ·rename_i n s g ix o hm hev;rw[hev]at hr;rw[zae (g:=g) (hr s (by simp[zbm]))]
   (repeat' split at he)<;>first|(cases he;done)|(simp only[yf3,yf5]at he;obtain⟨rfl,rfl⟩:=he;exact⟨st2,by simp only[*,yf2],zak⟩)
  ·(repeat' split at he)<;>first|(cases he;done)|(simp only[yf3,yf5]at he;obtain⟨rfl,rfl⟩:=he;exact⟨st2,by simp only[*,yf2],zak⟩)
  ·cases he
 | idx m sz ag x i =>
  simp only[eff]at he ⊢;rw[hs x (by simp[IOp.opds]),hs i (by simp[IOp.opds])]
  (repeat' split at he)<;>first|(cases he;done)|(simp only[yf3,yf5]at he;obtain⟨rfl,rfl⟩:=he;exact⟨st2,by simp only[*,yf2],zak⟩)
 | extract x i =>
  simp only[eff]at he ⊢;rw[hs x (by simp[IOp.opds])]
  (repeat' split at he)<;>first|(cases he;done)|(simp only[yf3,yf5]at he;obtain⟨rfl,rfl⟩:=he;exact⟨st2,by simp only[*],zak⟩)
 | len x =>
  simp only[eff]at he ⊢;rw[hs x (by simp[IOp.opds])];split at he<;>first|(cases he;done)|(simp only[yf3,yf5]at he;obtain⟨rfl,rfl⟩:=he;exact⟨st2,by simp only[*],zak⟩)
 | append sz x y =>
  have hx:=hs x (by simp[IOp.opds]);have hy:=hs y (by simp[IOp.opds]);have hd:st2.site d=st.site d:=hr d (by simp[effR]);have hel:st2.elems (st.ev y)=st.elems (st.ev y):=by
   unfold St.elems;split
   ·rfl
   ·rfl
   ·rfl
   ·rfl
   ·rename_i s g off len hev;rw[zae (g:=g) (hr s (by simp[effR,hev,zbm]))]
   ·rfl
  simp only[eff]at he ⊢;simp only[effR,effW]at hr ⊢;rw[hx,hy,hel];split at he
  ·rename_i xs hxs;split at he
   ·rename_i hc1;split at he
    ·rename_i hev;split at he
     ·rename_i hc2;cases he;exact⟨st2.alloc d ⟨sz,xs.map AV.pur⟩,by simp only[yf1 hc1,yf1 hc2,hd],by rw[hev];exact zc6 hd (by simp)⟩
     ·cases he
    ·rename_i s g off len hev;have hsite:=hr s (by simp[hev,zbm]);split at he
     ·rename_i o ho;split at he
      ·rename_i hc2;cases he;have hkd:(killAll st2 [(s,g)]).site d=(killAll st [(s,g)]).site d:=zay _ hd;have hks:(killAll st2 [(s,g)]).site s=(killAll st [(s,g)]).site s:=zay _ hsite;refine⟨(killAll st2 [(s,g)]).alloc d ⟨sz,o.es++xs.map AV.pur⟩,by simp only[yf1 hc1,zae (g:=g) hsite,ho,yf1 hc2,hkd],fun t ht=>?_,fun t ht=>?_,fun t ht=>?_,rfl,rfl,fun t ht=>?_⟩
       ·simp only[hev,zbm,yf4,List.mem_nil_iff,or_false]at ht;rcases ht with rfl|rfl
        ·exact zcs hkd (.inl rfl)
        ·exact zcs hkd (.inr hks)
       ·simp only[hev,zbm,List.mem_cons,List.mem_nil_iff,or_false,not_or]at ht;rw[za8,if_neg ht.1];exact zax _ (by simpa using ht.2)
       ·simp only[hev,zbm,List.mem_cons,List.mem_nil_iff,or_false,not_or]at ht;rw[za8,if_neg ht.1];exact zax _ (by simpa using ht.2)
       ·simp only[yf4,yfk]at ht ⊢;rcases ht with h|h
        ·exact .inl h
        ·exact .inr (.inl h)
      ·cases he
     ·cases he
    ·cases he
   ·cases he
  ·cases he
 | min xs =>
  have hp:xs.map st2.ev=xs.map st.ev:=ygc fun q hq=>hs q hq;simp only[eff]at he ⊢;rw[hp];split at he<;>first|(cases he;done)|(simp only[yf3,yf5]at he;obtain⟨rfl,rfl⟩:=he;exact⟨st2,by simp only[*],zak⟩)
 | max xs =>
  have hp:xs.map st2.ev=xs.map st.ev:=ygc fun q hq=>hs q hq;simp only[eff]at he ⊢;rw[hp];split at he<;>first|(cases he;done)|(simp only[yf3,yf5]at he;obtain⟨rfl,rfl⟩:=he;exact⟨st2,by simp only[*],zak⟩)
 | call f args =>
  have hp:args.map st2.ev=args.map st.ev:=ygc fun q hq=>hs q hq;simp only[eff,effR,effW,zcj]at he hr ⊢;rw[hp];exact zde he (fun s hs=>hr s (yf4.2 (.inr hs))) (hr d (by simp))
 | callv f args =>
  have hf:=hs f (by simp[IOp.opds]);have hp:args.map st2.ev=args.map st.ev:=ygc fun q hq=>hs q (by simp[IOp.opds,hq]);simp only[eff,effR,effW,zcj]at he hr ⊢;rw[hp,hf];split at he
  ·rename_i g caps hev;simp only[hev]at hr ⊢;exact zde he (fun s hs=>hr s (yf4.2 (.inr hs))) (hr d (by simp))
  ·rename_i g caps hev;simp only[hev]at hr ⊢;exact zde he (fun s hs=>hr s (yf4.2 (.inr hs))) (hr d (by simp))
  ·rename_i g caps hev;simp only[hev]at hr ⊢;exact zde he (fun s hs=>hr s (yf4.2 (.inr hs))) (hr d (by simp))
  ·cases he
 | isnil neg x =>
  have hx:=hs x (by simp[IOp.opds]);simp only[effR]at hr ⊢;simp only[eff,effW]at he ⊢;rw[hx];split at he
  case h_5 =>
   rename_i s g off len hev;rw[hev]at hr;rw[zae (g:=g) (hr s (by simp[zbm]))]
   (repeat' split at he)<;>first|(cases he;done)|(simp only[yf3,yf5]at he;obtain⟨rfl,rfl⟩:=he;exact⟨st2,by simp only[*,yf2],zak⟩)
  all_goals first|(cases he;done)|(simp only[yf3,yf5]at he;obtain⟨rfl,rfl⟩:=he;exact⟨st2,by simp only[*],zak⟩)
 | cap x =>
  simp only[eff]at he ⊢;rw[hs x (by simp[IOp.opds])];split at he<;>first|(cases he;done)|(simp only[yf3,yf5]at he;obtain⟨rfl,rfl⟩:=he;exact⟨st2,by simp only[*],zak⟩)
 | clear sz zero x =>
  have hx:=hs x (by simp[IOp.opds]);simp only[effR]at hr ⊢;simp only[eff,effW]at he ⊢;rw[hx];split at he
  ·rename_i hev;simp only[yf3,yf5]at he;obtain⟨rfl,rfl⟩:=he;exact⟨st2,rfl,by rw[hev];exact zak⟩
  ·rename_i s g off len hev;rw[hev]at hr;have hsite:=hr s (by simp[zbm]);rw[hev];rw[zae (g:=g) hsite];split at he
   ·rename_i o ho;split at he
    ·rename_i h1;simp only[yf3,yf5]at he;obtain⟨rfl,rfl⟩:=he;refine⟨st2.setObj s g ⟨o.sz,o.es.take off++List.replicate len zero.pur++o.es.drop (off+len)⟩,by simp only[yf1 h1],fun t ht=>?_,fun t ht=>?_,fun t ht=>?_,rfl,rfl,fun _ h=>h⟩
     ·simp[zbm]at ht;subst ht;rw[zbj,zbj,hsite]
     ·simp[zbm]at ht;rw[zbj,yf0 ht]
     ·simp[zbm]at ht;rw[zbj,yf0 ht]
    ·cases he
   ·cases he
  ·cases he
 | appendz sz z a x =>
  have hd:st2.site d=st.site d:=hr d (by simp[effR]);simp only[eff]at he ⊢;rw[hs a (by simp[IOp.opds]),hs x (by simp[IOp.opds]),hd];split at he
  ·rename_i n h1 h2;split at he
   ·rename_i hc;cases he;exact⟨_,by simp only[yf1 hc],zc6 hd (by simp[effR])⟩
   ·cases he
  ·cases he
 | sidx x i =>
  simp only[eff]at he ⊢;rw[hs x (by simp[IOp.opds]),hs i (by simp[IOp.opds])]
  (repeat' split at he)<;>first|(cases he;done)|(simp only[yf3,yf5]at he;obtain⟨rfl,rfl⟩:=he;exact⟨st2,by simp only[*],zak⟩)
 | mlook qs z x k =>
  simp only[eff]at he ⊢;rw[hs x (by simp[IOp.opds]),hs k (by simp[IOp.opds])]
  (repeat' split at he)<;>first|(cases he;done)|(simp only[yf3,yf5]at he;obtain⟨rfl,rfl⟩:=he;exact⟨st2,by simp only[*,yf2,and_self],zak⟩)
 | mlookc qs z x k =>
  simp only[eff]at he ⊢;rw[hs x (by simp[IOp.opds]),hs k (by simp[IOp.opds])]
  (repeat' split at he)<;>first|(cases he;done)|(simp only[yf3,yf5]at he;obtain⟨rfl,rfl⟩:=he;exact⟨st2,by simp only[*,yf2,and_self],zak⟩)
 | raw op=>simp only[eff]at he;cases he
 | bad=>simp only[eff]at he;cases he
end
noncomputable def zdz(orc:Option PCall)(st:St)(i:Ins):Option St :=
 match eff orc st (i.dst.getD 0) i.op with
 | some (v,s)=>some (s.put i.dst v)
 | none=>none
noncomputable def exec(orc:Option PCall)(st:St)(i:Ins):Option St :=
 match i.guard with
 | none=>zdz orc st i
 | some (t,b)=>match st.get t with
  | .p (.bool c)=>if c=b then zdz orc st i else some (st.put i.dst .skip)
  | .skip=>some (st.put i.dst .skip)
  | _=>none
def runs(st:St)(i:Ins):Bool :=
 match i.guard with
 | none=>true
 | some (t,b)=>match st.get t with
  | .p (.bool c)=>c == b
  | _=>false
structure FP where
 ds:List Nat
 rs:List Nat
 rt:List Nat
 wt:List Nat
def fp(orc:Option PCall)(st:St)(i:Ins):FP :=
 {ds:=i.dst.toList,rs:=(i.guard.map (·.1)).toList++i.op.opds.flatMap Opd.slots,
  rt:=if runs st i then effR orc st (i.dst.getD 0) i.op else[],wt:=if runs st i then effW orc st (i.dst.getD 0) i.op else[] }
structure FP.Sub (f g:FP):Prop where
 ds:∀ t∈f.ds,t∈g.ds
 rs:∀ t∈f.rs,t∈g.rs
 rt:∀ t∈f.rt,t∈g.rt
 wt:∀ t∈f.wt,t∈g.wt
theorem FP.Sub.refl(f:FP):FP.Sub f f:=⟨fun _ h=>h,fun _ h=>h,fun _ h=>h,fun _ h=>h⟩
def disj(a b:List Nat):Bool:=a.all fun x => !b.contains x
def zli(f g:FP):Bool:=disj f.ds g.rs&&disj f.ds g.ds&&disj g.ds f.rs&&disj f.wt g.rt&&disj g.wt f.rt
structure Eqv (s t:St):Prop where
 get:∀ n,t.get n=s.get n
 site:∀ n,t.site n=s.site n
section
variable {orc:Option PCall} {st st' st2:St} {d:Nat} {v:AV}
theorem Eqv.refl(s:St):Eqv s s:=⟨fun _=>rfl,fun _=>rfl⟩
theorem Eqv.symm{s t:St}(h:Eqv s t):Eqv t s:=⟨fun n=>(h.get n).symm,fun n=>(h.site n).symm⟩
theorem Eqv.trans{s t u:St}(h:Eqv s t)(k:Eqv t u):Eqv s u:=⟨fun n=>(k.get n).trans (h.get n),fun n=>(k.site n).trans (h.site n)⟩
theorem zdw(st:St)(d:Option Nat)(v:AV)(t:Nat):(st.put d v).get t=if d=some t then v else st.get t:=by
 cases d with
 | none=>simp[St.put]
 | some d =>
  simp[St.put,St.get,look]
theorem za6(st:St)(d:Option Nat)(v:AV)(s:Nat):(st.put d v).site s=st.site s:=by cases d<;>rfl
theorem zjf{s t:St}(h:s.sl=t.sl)(n:Nat):s.get n=t.get n:=by simp[St.get,h]
theorem zqw{op:IOp}(hs:∀ x∈op.opds,st2.ev x=st.ev x)(hr:∀ s∈zfd orc st (zcj st op),st2.site s=st.site s):zfd orc st2 (zcj st2 op)=zfd orc st (zcj st op):=by
 have ha:zcj st2 op=zcj st op:=by
  cases op<;>simp only[zcj]
  case call f args=>exact ygc fun q hq=>hs q hq
  case callv f args =>
   have hp:args.map st2.ev=args.map st.ev:=ygc fun q hq=>hs q (by simp[IOp.opds,hq]);rw[hp,hs f (by simp[IOp.opds])]
 rw[ha];generalize zcj st op=l at hr;unfold zfd at hr ⊢;cases orc with
 | none=>rw[(zbv (st2:=st2) (n:=FUEL) (vs:=l) fun i hi=>hr i.1 (yf6.2 ⟨i,hi,rfl⟩)).1]
 | some c =>
  simp only at hr ⊢;cases hc:c.res<;>rw[hc]at hr<;>simp only at hr ⊢ <;> first|rfl|rw[(zbv (st2:=st2) (n:=FUEL) (vs:=l) fun i hi=>hr i.1 (yf6.2 ⟨i,hi,rfl⟩)).1]
theorem znb{op:IOp}(hs:∀ x∈op.opds,st2.ev x=st.ev x)(hr:∀ s∈effR orc st d op,st2.site s=st.site s):effR orc st2 d op=effR orc st d op/\effW orc st2 d op=effW orc st d op:=by
 cases op<;>simp only[effR,effW]at hr ⊢ <;> first
  | exact⟨trivial,trivial⟩
  | (rename_i x;rw[hs x (by simp[IOp.opds])];first|exact⟨rfl,rfl⟩|exact⟨rfl,trivial⟩|exact⟨trivial,trivial⟩)
  | (rename_i x y;rw[hs x (by simp[IOp.opds]),hs y (by simp[IOp.opds])];first|exact⟨rfl,rfl⟩|exact⟨rfl,trivial⟩|exact⟨trivial,trivial⟩)
  | (rename_i x y z;rw[hs y (by simp[IOp.opds])];first|exact⟨rfl,rfl⟩|exact⟨rfl,trivial⟩|exact⟨trivial,trivial⟩)
  | (rename_i x y z t;rw[hs y (by simp[IOp.opds])];first|exact⟨rfl,rfl⟩|exact⟨rfl,trivial⟩|exact⟨trivial,trivial⟩)
  | (rw[zqw hs (fun s h=>hr s (yf4.2 (.inr h)))];exact⟨rfl,rfl⟩)
theorem zg5{i:Ins}(he:exec orc st i=some st')(hs:∀ t∈(fp orc st i).rs,st2.get t=st.get t)(hr:∀ s∈(fp orc st i).rt,st2.site s=st.site s) :
  ∃ st2',exec orc st2 i=some st2'/\fp orc st2 i=fp orc st i/\(∀ t∈(fp orc st i).ds,st2'.get t=st'.get t)/\(∀ t,t∉(fp orc st i).ds->st2'.get t=st2.get t/\st'.get t=st.get t) /\
   (∀ s∈(fp orc st i).wt,st2'.site s=st'.site s)/\(∀ s,s∉(fp orc st i).wt->st2'.site s=st2.site s/\st'.site s=st.site s)/\(∀ s∈(fp orc st i).wt,s∈(fp orc st i).rt):=by
 have hops:∀ x∈i.op.opds,st2.ev x=st.ev x:=by
  intro x hx;cases x with
  | c v=>rfl
  | t n=>exact hs n (by simp only[fp,yfk];exact .inr (yg3.2 ⟨.t n,hx,by simp[Opd.slots]⟩))
 have hg:∀ t b,i.guard=some (t,b)->st2.get t=st.get t:=fun t b h=>hs t (by simp[fp,h]);have hruns:runs st2 i=runs st i:=by
  unfold runs
  grind
 have hfp:fp orc st2 i=fp orc st i:=by
  unfold fp at hr ⊢;rw[hruns];cases hrn:runs st i with
  | false=>rfl
  | true =>
   simp only[hrn,yf2]at hr ⊢;obtain⟨e1,e2⟩:=znb (orc:=orc) (d:=i.dst.getD 0) hops hr
   grind
 have hput:∀ {s1 s2 s s':St} {v:AV} {R W:List Nat},Same s1 s s2 s' R W->(∀ t∈i.dst.toList,(s'.put i.dst v).get t=(s.put i.dst v).get t)/\(∀ t,t∉i.dst.toList->(s'.put i.dst v).get t=s2.get t/\(s.put i.dst v).get t=s1.get t) /\
   (∀ t∈W,(s'.put i.dst v).site t=(s.put i.dst v).site t)/\(∀ t,t∉W->(s'.put i.dst v).site t=s2.site t/\(s.put i.dst v).site t=s1.site t)/\(∀ t∈W,t∈R):=by
  intro s1 s2 s s' v R W h;obtain⟨a1,a2,a3,a4,a5,a6⟩:=h;refine⟨fun t ht=>?_,fun t ht=>?_,fun t ht=>?_,fun t ht=>?_,a6⟩
  ·rw[zdw,zdw];cases hd:i.dst with
   | none=>simp[hd]at ht
   | some d=>simp[hd]at ht;subst ht;simp
  ·rw[zdw,zdw];have:i.dst≠some t:=by intro h;simp[h]at ht
   rw[yf0 this,yf0 this];exact⟨zjf a4 t,zjf a5 t⟩
  ·rw[za6,za6];exact a1 t ht
  ·rw[za6,za6];exact⟨a2 t ht,a3 t ht⟩
 have way1:runs st i=true->zdz orc st i=some st'->∃ st2',zdz orc st2 i=some st2'/\(∀ t∈(fp orc st i).ds,st2'.get t=st'.get t)/\(∀ t,t∉(fp orc st i).ds->st2'.get t=st2.get t/\st'.get t=st.get t) /\
   (∀ s∈(fp orc st i).wt,st2'.site s=st'.site s)/\(∀ s,s∉(fp orc st i).wt->st2'.site s=st2.site s/\st'.site s=st.site s)/\(∀ s∈(fp orc st i).wt,s∈(fp orc st i).rt):=by
  intro hrn h;unfold zdz at h ⊢;split at h
  ·rename_i v s hev;cases h;have hr':∀ s∈effR orc st (i.dst.getD 0) i.op,st2.site s=st.site s:=fun s hs=>hr s (by simp[fp,hrn,hs]);obtain⟨s2,e1,e2⟩:=zlu hev hops hr';refine⟨s2.put i.dst v,by rw[e1],?_⟩;simp only[fp,hrn,yf2];exact hput e2
  ·cases h
 have way2:runs st i=false->st'=st.put i.dst .skip->(∀ t∈(fp orc st i).ds,(st2.put i.dst .skip).get t=st'.get t)/\(∀ t,t∉(fp orc st i).ds->(st2.put i.dst .skip).get t=st2.get t/\st'.get t=st.get t) /\
   (∀ s∈(fp orc st i).wt,(st2.put i.dst .skip).site s=st'.site s)/\(∀ s,s∉(fp orc st i).wt->(st2.put i.dst .skip).site s=st2.site s/\st'.site s=st.site s)/\(∀ s∈(fp orc st i).wt,s∈(fp orc st i).rt):=by
  intro hrn h;subst h;simp only[fp,hrn,yf9,yfl];exact hput (zak (R:=[]))
 unfold exec at he ⊢;split at he
 ·rename_i h;obtain⟨s2,e1,e2⟩:=way1 (by simp[runs,h]) he;exact⟨s2,e1,hfp,e2⟩
 ·rename_i t b h;simp only[hg t b h];split at he
  ·rename_i c hc;split at he
   ·rename_i hcb;obtain⟨s2,e1,e2⟩:=way1 (by simp[runs,h,hc,hcb]) he;exact⟨s2,by rw[yf1 hcb];exact e1,hfp,e2⟩
   ·rename_i hcb;cases he;exact⟨_,by rw[yf0 hcb],hfp,way2 (by simp[runs,h,hc,hcb]) rfl⟩
  ·rename_i hc;cases he;exact⟨_,rfl,hfp,way2 (by simp[runs,h,hc]) rfl⟩
  ·cases he
theorem zue{i:Ins}(he:exec orc st i=some st')(h:Eqv st st2):∃ st2',exec orc st2 i=some st2'/\fp orc st2 i=fp orc st i/\Eqv st' st2':=by
 obtain⟨s2,e1,e2,e3,e4,e5,e6,_⟩:=zg5 he (fun t _=>h.get t) (fun s _=>h.site s);refine⟨s2,e1,e2,fun t=>?_,fun s=>?_⟩
 ·by_cases ht:t∈(fp orc st i).ds
  ·grind
  ·rw[(e4 t ht).1,(e4 t ht).2];exact h.get t
 ·by_cases ht:s∈(fp orc st i).wt
  ·grind
  ·rw[(e6 s ht).1,(e6 s ht).2];exact h.site s
abbrev Item:=(Option PCall × Ins) × FP
inductive RunL:List Item->St->St->Prop
 | nil (st:St):RunL [] st st
 | cons (x:Item) (xs:List Item) (st s1 st':St):exec x.1.1 st x.1.2=some s1->(fp x.1.1 st x.1.2).Sub x.2->RunL xs s1 st'->RunL (x::xs) st st'
theorem RunL.eqv:∀ {xs:List Item} {st st' st2:St},RunL xs st st'->Eqv st st2->∃ st2',RunL xs st2 st2'/\Eqv st' st2'
 | _,_,_,st2,.nil st,h=>⟨st2,.nil st2,h⟩
 | _,_,_,st2,.cons x xs st s1 st' h1 h2 h3,h=>by obtain⟨s2,e1,e2,e3⟩:=zue h1 h;obtain⟨st2',f1,f2⟩:=RunL.eqv h3 e3;exact⟨st2',.cons x xs st2 s2 st2' e1 (e2 ▸ h2) f1,f2⟩
theorem zfa{a b:List Nat}(h:disj a b=true){x:Nat}(hx:x∈a):x∉b:=by
 have:=yfp.1 h x hx
 grind
theorem RunL.swap{x y:Item}{xs:List Item}{st st':St}(h:RunL (x::y::xs) st st')(hi:zli x.2 y.2=true):∃ st'',RunL (y::x::xs) st st''/\Eqv st' st'':=by
 cases h with
 | cons _ _ _ s1 _ h1 h2 h3 =>
  cases h3 with
  | cons _ _ _ s2 _ k1 k2 k3 =>
   simp only[zli,yfr]at hi;obtain⟨⟨⟨⟨i1,i2⟩,i3⟩,i4⟩,i5⟩:=hi;have hx:=zg5 (st2:=st) h1 (fun _ _=>rfl) (fun _ _=>rfl);obtain⟨_,_,_,_,x4,_,x6,xw⟩:=hx
   obtain⟨t1,a1,a2,a3,a4,a5,a6,aw⟩:=zg5 (st2:=st) k1
    (fun t ht=>((x4 t (fun hh=>zfa i1 (h2.ds _ hh) (k2.rs _ ht))).2).symm)
    (fun s hs=>((x6 s (fun hh=>zfa i4 (h2.wt _ hh) (k2.rt _ hs))).2).symm)
   obtain⟨t2,b1,b2,b3,b4,b5,b6,_⟩:=zg5 (st2:=t1) h1
    (fun t ht=>(a4 t (fun hh=>zfa i3 (k2.ds _ hh) (h2.rs _ ht))).1)
    (fun s hs=>(a6 s (fun hh=>zfa i5 (k2.wt _ hh) (h2.rt _ hs))).1)
   have heq:Eqv s2 t2:=by
    refine⟨fun t=>?_,fun s=>?_⟩
    ·by_cases hx:t∈(fp x.1.1 st x.1.2).ds
     ·rw[b3 t hx];have hy:t∉(fp y.1.1 s1 y.1.2).ds:=fun hh=>zfa i2 (h2.ds _ hx) (k2.ds _ hh)
      grind
     ·grind
    ·by_cases hx:s∈(fp x.1.1 st x.1.2).wt
     ·rw[b5 s hx];have hy:s∉(fp y.1.1 s1 y.1.2).wt:=fun hh=>zfa i4 (h2.wt _ hx) (k2.rt _ (aw s hh))
      grind
     ·grind
   obtain⟨st'',c1,c2⟩:=RunL.eqv k3 heq;exact⟨st'',.cons y _ st t1 st'' a1 (a2 ▸ k2) (.cons x _ t1 t2 st'' b1 (b2 ▸ h2) c1),c2⟩
theorem RunL.front{x:Item}{xs:List Item}:∀ {ys:List Item} {st st':St},RunL (ys++x::xs) st st'->(∀ y∈ys,zli y.2 x.2=true)->∃ st'',RunL (x::(ys++xs)) st st''/\Eqv st' st''
 | [],st,st',h,_=>⟨st',h,Eqv.refl st'⟩
 | y::ys,st,st',h,hi=>by
  cases h with
  | cons _ _ _ s1 _ h1 h2 h3 =>
   obtain⟨s',e1,e2⟩:=RunL.front h3 (fun z hz=>hi z (by simp[hz]));obtain⟨s'',f1,f2⟩:=RunL.swap (.cons y _ st s1 s' h1 h2 e1) (hi y (by simp));exact⟨s'',f1,e2.trans f2⟩
end
end Go.Ab
