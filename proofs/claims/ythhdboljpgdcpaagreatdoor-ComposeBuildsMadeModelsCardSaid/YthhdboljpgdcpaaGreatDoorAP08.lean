/- Lemmas for the law ComposeBuildsMadeModels, part 8. No conditions. -/
import Derived.Test.YthhdboljpgdcpaaGreatDoorAP07
set_option maxRecDepth 100000
set_option maxHeartbeats 4000000
set_option linter.all false
namespace Go.Ab
def CM:Nat->List PV->List (Nat × AV)
 | _,[]=>[]
 | i,v::r=>(i,.p v)::CM (i+1) r
def vi(args:List PV):St:=⟨CM 0 args,[]⟩
def yu(P:Program):List ResultVar->Option (List (Nat × Option Nat))
 | []=>some []
 | .tmp t::r=>(yu P r).map ((t,none) :: ·)
 | .cell a t::r=>if tok P t (ey P t) (jI P t)=true then(yu P r).map ((a,some (ey P t)) :: ·)else none
def AI(st:St)(t:Nat)(c:Option Nat):Option AV :=
 match c with
 | none=>some (st.get t)
 | some h=>match st.get t with
  | .ptr s g f b=>match st.obj s g with
   | some o=>match o.es[f]? with
    | some e=>if b=0/\h=o.sz then some e else none
    | none=>none
   | none=>none
  | _=>none
def oE(st:St):List (Nat × Option Nat)->Option (List AV)
 | []=>some []
 | (t,c)::r=>match AI st t c,oE st r with
  | some v,some l=>some (v::l)
  | _,_=>none
def dB:List AV->AV
 | [v]=>v
 | vs=>.bP vs
structure Bt where
 N:Nat
 np:Nat
 body:AC
 res:List (Nat × Option Nat)
def aV(P:Program)(f:FuncId):Option Bt :=
 match P.funcs[f]? with
 | some h=>if h.name ≠ "runtime.NumGoroutine" then match h.body with
  | some c=>match comp P h.ntmps c,yu P h.results.toList with
   | some b,some r=>some ⟨h.ntmps,h.params.size+h.nfree,b,r⟩
   | _,_=>none
  | none=>none
  else none
 | none=>none
inductive pF (st:St):AV->RV->Prop
 | pure (v:AV) (p:PV):bE st aZ v=some p->pF st v (.pure p)
 | fresh (s g len:Nat) (o:bD) (es:List PV):st.obj s g=some o->len=o.es.length->o.es=es.map .p->pF st (.own s g 0 len) (.fresh o.sz es)
 | nil (sz:Nat):pF st .nil (.fresh sz [])
section
variable {P:Program} {K:Ctx} {Z Z':Cz} {st st' st1 st2:St} {w w':World} {a:Act} {N:Nat} {args:List PV}
theorem OL:∀ (args:List PV) (i t:Nat),look (CM i args) t AV.undef=if t<i then .undef else match args[t - i]? with|some v=>.p v|none=>.undef
 | [],i,t=>by simp[CM,look]
 | v::r,i,t=>by
  simp only[CM,look];split
  .rename_i h;subst h;simp
  .rename_i h;rw[OL r (i+1) t];by_cases b:t<i
   .rw[aW (by omega),aW b]
   .rw[aY (by omega),aY b];have:t - i=(t - (i+1))+1:=by omega
    rw[this];rfl
theorem J5{M:Nat->Option Obj}{vals:List Value}(r:∀ b o,M b=some o->w.heap[b]?=some o)(m:PReps M args vals)(hn:args.length<=N) :
  aN ⟨w,M,λ_=>False,N⟩ ⟨M,λ_ _=>none,λ_ _=>0⟩ (vi args) w { tmps:=vals.toArray++Array.replicate (N - vals.toArray.size) Go.undef,defers:=[] }:=by
 have y:=m.length;have i:∀ s g,(vi args).obj s g=none:=λs g=>rfl;refine⟨λt=>?_,rfl,by simp;omega,⟨λs g o f=>(by rw[i]at f;cases f),λs g _ _ o _ b f=>(by rw[i]at f;cases f),r,λs g o b f=>(by rw[i]at f;cases f),λs g o b f=>(by rw[i]at f;cases f),λ_ _ h=>h,λ_ _ h=>.inl h,Keep.refl w _⟩⟩;have j:(vi args).get t=match args[t]? with|some v=>.p v|none=>.undef:=by have:=OL args 0 t;simpa[St.get,vi]using this
 rw[j];cases u:args[t]? with
 | none=>exact .undef _
 | some v =>
  obtain⟨x,l,n⟩:=m.get t v u;have k:=(List.getElem?_eq_some_iff.1 l).1;have:(vals.toArray++Array.replicate (N - vals.toArray.size) Go.undef).getD t Go.undef=x:=by simp[Array.getElem?_append,k];have:=(List.getElem?_eq_some_iff.1 l).2;simpa using this
  rw[this];exact .p _ _ n
theorem ybx{t:TypeId}{s g r:Nat}{o:bD}{e:AV}{x:Value}(M:tok P t (ey P t) (jI P t)=true)(V:bC K Z st w)(W:aM Z st (.ptr s g r 0) x)(L:st.obj s g=some o)(f:o.es[r]?=some e)(h:ey P t=o.sz) :
  ∃ y,(do loadVar t (<- asAddr x):Sem Value).run P w=.ok y w/\aM Z st e y:=by
 obtain⟨b,S,rfl⟩:=AT W L;obtain⟨_,_,_,_,_,_,C,F⟩:=EV M;have j:=V.bR s g o L;obtain⟨B,T,u,X,Y,k3,k4,k5,k6⟩:=j.bU b S;have m:∀ e∈o.es,(AV.cells e).length=o.sz:=λe J=>by rw[AV.bS (by rw[j.jC e J];exact j.pos),j.jC e J]
 have p:=EO AV.cells o.sz o.es r e m f;have E:=Jz AV.cells o.sz o.es r e m f;have l:e∈o.es:=List.mem_of_getElem? f;have n:∀ c∈e.cells,c.one=true:=λc U=>j.one c (List.mem_flatMap.2 ⟨e,l,U⟩);have D:∀ (i:Nat) (v:Value),u[i]?=some v->B[0+i]?=some v:=by simpa using k3
 obtain⟨xs,I,h2,z,R⟩:=BB (P:=P) (Z:=Z) (st:=st) (k:=r*o.sz) (o:=0) M X Y D (by rw[h];exact E);rw[h,p]at I;obtain⟨r1,r2⟩:=LI ((j.jC e l).trans h.symm) C F n I;cases A:jI P t with
 | true =>
  have z:=z A;simp only[qW]at z;refine⟨_,?_,r1 A⟩;simp only[asAddr,mT,oI,qB,vB,z]
 | false =>
  obtain⟨x1,O,G⟩:=R A;obtain⟨x2,H,Q⟩:=r2 A;rw[O]at H;cases H;simp only[qW]at G;refine⟨_,?_,Q⟩;simp only[asAddr,mT,oI,qB,vB,G]
theorem CY(hs:aN K Z st w a):∀ {rs:List ResultVar} {cs:List (Nat × Option Nat)} {vs:List AV},yu P rs=some cs->oE st cs=some vs ->
  ∃ xs,(rs.mapM (m:=Sem) λ| .tmp t=>pure (a.tmps.getD t Go.undef) | .cell p t=>do loadVar t (<- asAddr (a.tmps.getD p Go.undef))).run P w=.ok xs w/\aG Z st vs xs
 | [],cs,vs,f,b=>by
  simp only[yu,cF]at f;subst f;simp only[oE,cF]at b;subst b;exact⟨[],by simp,.nil⟩
 | r::rs,cs,vs,f,b=>by
  have step:∃ (t:Nat) (c:Option Nat) (h:List (Nat × Option Nat)),cs=(t,c)::h/\yu P rs=some h/\∀ v,AI st t c=some v ->
    ∃ y,((λ| .tmp t=>pure (a.tmps.getD t Go.undef) | .cell p t=>do loadVar t (<- asAddr (a.tmps.getD p Go.undef)):ResultVar->Sem Value) r).run P w=.ok y w/\aM Z st v y:=by
   cases r with
   | tmp t =>
    simp only[yu]at f;obtain⟨l,j,rfl⟩:=cM f;exact⟨t,none,l,rfl,j,λv b=>by simp only[AI,cF]at b;subst b;exact⟨_,by simp,hs.aR t⟩⟩
   | cell p t =>
    simp only[yu]at f;split at f
    .rename_i H;obtain⟨l,j,rfl⟩:=cM f;refine⟨p,some (ey P t),l,rfl,j,λv b=>?_⟩;simp only[AI]at b;split at b
     .rename_i s g L I k;split at b
      .rename_i o G;split at b
       .rename_i e E;split at b
        .rename_i i;obtain⟨rfl,n⟩:=i;cases b;have x:=hs.aR p;rw[k]at x;exact ybx H hs.heap x G E n
        .cases b
       .cases b
      .cases b
     .cases b
    .cases f
  obtain⟨t,c,h,rfl,j,D⟩:=step;simp only[oE]at b;split at b
  .rename_i v l u F;cases b;obtain⟨y,z,A⟩:=D v u;obtain⟨J,B,C⟩:=CY hs j F;refine⟨y::J,?_,.cons _ _ _ _ A C⟩;simp only[Bf,mT,z,qB,B,oI]
  .cases b
theorem aG.dB{vs:List AV}{xs:List Value}(h:aG Z st vs xs):aM Z st (dB vs) (if h:xs.toArray.size=1 then xs.toArray[0]else .tuple xs.toArray):=by
 cases h with
 | nil=>exact .bP _ _ .nil
 | cons v x vs xs h hs =>
  cases hs with
  | nil=>exact h
  | cons u y us b k ks=>simp only[Ab.dB];rw[dif_neg (by simp)];exact .bP _ _ (.cons _ _ _ _ h (.cons _ _ _ _ k ks))
theorem KD{M:Nat->Option Obj}{v:AV}{x:Value}{y:RV}(k:bC ⟨w,M,λ_=>False,N⟩ Z' st' w')(E:aM Z' st' v x)(u:pF st' v y) :
  ∃ A,(∀ b o,M b=some o->A b=some o)/\(∀ b o,A b=some o->w'.heap[b]?=some o)/\(∀ b o,A b=some o->M b=some o\/w.heap.size<=b)/\Keep w w' (λ_=>False)/\sf A w w' y x:=by
 have j:∀ b o,Z'.M b=some o->M b=some o\/w.heap.size<=b:=λb o f=>by
  obtain h|h|h:=k.eE b o f
  .exact .inl h
  .exact h.elim
  .exact .inr h
 have n:∀ s g o b,st'.obj s g=some o->Z'.B s g=some b->w.heap.size<=b:=λs g o b m f=>by
  obtain h|h:=k.own s g o b m f
  .exact h.elim
  .exact h
 cases u with
 | pure _ p Q =>
  refine⟨Mx Z' st' w' (aO st' aZ v),λb o f=>mH (k.m0 b o f),λb o f=>?_,λb o f=>?_,k.keep,?_⟩
  .obtain h|⟨_,h,_⟩:=rJ f
   .exact k.mem b o h
   .exact h
  .obtain h|⟨_,_,s,g,ob,_,q2,q3⟩:=rJ f
   .exact j b o h
   .exact .inr (n s g ob b q2 q3)
  .exact AL k _ aZ _ _ _ E Q (λi L=>L)
 | fresh s g X o G m O r =>
  refine⟨Z'.M,λb o f=>k.m0 b o f,k.mem,j,k.keep,?_⟩;have D:=k.bR s g o m;have t:o.es.length=G.length:=by rw[r];simp
  cases E with
  | dU _ _ Y l f =>
   rw[m]at l;cases l;have:=D.xt f;refine .inl ⟨qV (by rw[<- t,this];rfl),rfl⟩
  | own _ _ _ _ Y b ad c l f H h2 h3 h4 =>
   rw[m]at l;cases l;obtain⟨rfl,rfl⟩:=H rfl;obtain⟨C,T,z,R,F,S,U,V,W⟩:=D.bU b f;refine .inr ⟨b,Z'.cap s g,C,T,z,by rw[O,t],n s g o b m f,k.sep s g o b m f,R,?_,S,U,by rw[<- t];exact V,W,λc I=>?_⟩
   .rw[r,qT]at F;exact F.oT
   .have:=D.one (.p c) (by rw[r,qT];exact cD.2 ⟨c,I,rfl⟩);exact this
  | eN _ _ _ _ _ _ _ J=>exact(vv m J).elim
 | nil sz =>
  refine⟨Z'.M,λb o f=>k.m0 b o f,k.mem,j,k.keep,.inl ⟨rfl,?_⟩⟩;cases E;rfl
theorem Sp.gA{f:FuncId}{C:Bt}{ex:Exit}{vs:List AV}{res:RV}(i:aV P f=some C)(hn:args.length<=C.N)(m:cT P C.N C.body (vi args) ex st')(n:ex=.ret\/ex=.normal)
  (p:oE st' C.res=some vs) (l:pF st' (dB vs) res):Sp P f args res:=by
 unfold aV at i;split at i
 .rename_i fn u;split at i
  .rename_i k;split at i
   .rename_i c t;split at i
    .rename_i L rs A B;cases i;refine⟨⟨fn,u,by rw[t];rfl,k⟩,λw M vals D E=>?_⟩;refine calls_of_wp u t ?_;refine m _ A ⟨w,M,λ_=>False,fn.ntmps⟩ _ w _ _ rfl (J5 D E hn) (λZ' w' s hs _=>?_)
     have j:s.defers=[]/\∃ v,(results fn s.tmps).run P w'=.ok v w'/\∃ x M',Ending.returned v=.returned x/\(∀ b o,M b=some o->M' b=some o)/\(∀ b o,M' b=some o->w'.heap[b]?=some o) /\
       (∀ b o,M' b=some o->M b=some o\/w.heap.size<=b)/\Keep w w' (λ_=>False)/\sf M' w w' res x:=by
      obtain⟨xs,y,z⟩:=CY hs B p;obtain⟨M',F,G,H,I,J⟩:=KD hs.heap z.dB l;refine⟨hs.defers,_,?_,_,M',rfl,F,G,H,I,J⟩;unfold results;rw[DR];simp only[mT,map_eq_pure_bind,oI];exact congrArg (λr=>(Result.andThen r λa w'=>Result.ok a.toArray w').andThen λ(a:Array Value) w'=>Result.ok (if h:a.size=1 then a[0]else Value.tuple a) w') y
     obtain rfl|rfl:=n
     .exact j
     .exact j
    .cases i
   .cases i
  .cases i
 .cases i
end
def CT(i:Nat)(r:AV):Nat->List PV->List (Nat × AV)
 | _,[]=>[]
 | n,v::l=>(n,if n=i then r else .p v)::CT i r (n+1) l
def wC(p:PV):AV :=
 match p with
 | .ref _=>.ptr bG 0 0 0
 | .sl b=>.own bG 0 0 b.length
 | _=>.undef
def mf(p:PV):List PV :=
 match p with
 | .ref e=>[e]
 | .sl b=>b
 | _=>[]
def xc(args:List PV)(i sz:Nat)(p:PV):St:=⟨CT i (wC p) 0 args,[(bG,[some ⟨sz,(mf p).map .p⟩])]⟩
inductive CA (st:St):AV->Nat->RV->Prop
 | pure (v:AV) (n:Nat) (p:PV):bE st aZ v=some p->(bG,0)∉aO st aZ v->CA st v n (.pure p)
 | same (l n:Nat):l<=n->CA st (.own bG 0 0 l) n (.same l)
section
variable {P:Program} {K:Ctx} {Z Z':Cz} {st st' st1 st2:St} {w w':World} {a:Act} {N:Nat} {args:List PV}
theorem PB{i:Nat}{r:AV}:∀ (args:List PV) (n t:Nat),look (CT i r n args) t AV.undef=if t<n then .undef else match args[t - n]? with|some v=>if t=i then r else .p v|none=>.undef
 | [],n,t=>by simp[CT,look]
 | v::l,n,t=>by
  simp only[CT,look];split
  .rename_i h;subst h;simp
  .rename_i h;rw[PB l (n+1) t];by_cases b:t<n
   .rw[aW (by omega),aW b]
   .rw[aY (by omega),aY b];have:t - n=(t - (n+1))+1:=by omega
    rw[this];rfl
theorem Wo{M:Nat->Option Obj}{vals:List Value}{i sz cap:Nat}{p:PV}{b:Option Nat}{es:List PV}(hM:∀ b o,M b=some o->w.heap[b]?=some o)(ad:vals.length=args.length)(hp:args[i]?=some p)(D:∃ x,vals[i]?=some x/\CC p es b cap x)
  (ha:sg M w b cap sz es) (ho:∀ j q,j≠i->args[j]?=some q->∃ x,vals[j]?=some x/\PRep M q x) (hn:args.length<=N) :
  es=mf p/\aN ⟨w,M,λc=>b=some c,N⟩ ⟨M,λ_ _=>b,λ_ _=>cap⟩ (xc args i sz p) w { tmps:=vals.toArray++Array.replicate (N - vals.toArray.size) Go.undef,defers:=[] }:=by
 obtain⟨x,hx,Q⟩:=D;obtain⟨X,Y,a3,J,F⟩:=ha;have u:es=mf p:=by obtain⟨rfl,_⟩|⟨e,l,rfl,rfl,_,_⟩:=Q<;>rfl
 have f:∀ s g o,(xc args i sz p).obj s g=some o->s=bG/\g=0/\o=⟨sz,es.map .p⟩:=by
  intro s g o h;simp only[St.obj,St.site,xc,look]at h;split at h
  .rename_i hs;cases g with
   | zero=>simp at h;subst hs;subst h;rw[u];exact⟨rfl,rfl,rfl⟩
   | succ g=>simp at h
  .simp at h
 have k:(xc args i sz p).obj bG 0=some ⟨sz,es.map .p⟩:=by simp[St.obj,St.site,xc,look,u]
 refine⟨u,λt=>?_,rfl,by simp;omega,⟨λs g o h=>?_,λs g s' g' o o' l h h' _ _=>?_,hM,λs g o l h m=>(F l m).1,λs g o l _ m=>.inl m,λ_ _ h=>h,λ_ _ h=>.inl h,Keep.refl w _⟩⟩
 .have C:(xc args i sz p).get t=match args[t]? with|some v=>if t=i then wC p else .p v|none=>.undef:=by have:=PB (i:=i) (r:=wC p) args 0 t;simpa[St.get,xc]using this
  rw[C];have n:∀ y,vals[t]?=some y->(vals.toArray++Array.replicate (N - vals.toArray.size) Go.undef).getD t Go.undef=y:=by intro y E;have G:=(List.getElem?_eq_some_iff.1 E).1;simp[Array.getElem?_append,G];simpa using (List.getElem?_eq_some_iff.1 E).2
  cases z:args[t]? with
  | none=>exact .undef _
  | some q =>
   simp only;split
   .rename_i A;subst A;rw[hp]at z;cases z;rw[n x hx];obtain⟨rfl,rfl⟩|⟨e,l,rfl,rfl,rfl,rfl⟩:=Q
    .simp only[wC];cases b with
     | none =>
      have:=J rfl;subst this;exact .dU _ _ _ k rfl
     | some b =>
      obtain⟨_,B,T,L,R,S,U,V,I,W⟩:=F b rfl;exact .own _ _ 0 es.length _ b _ cap k rfl (λ_=>⟨rfl,rfl⟩) (λ_=>by simp) (by simp) I
    .simp only[wC];have:=aM.ptr (Z:=⟨M,λ_ _=>some l,λ_ _=>cap⟩) (st:=xc args t sz (.ref e)) bG 0 0 0 _ l k rfl;simpa using this
   .rename_i A;obtain⟨y,E,H⟩:=ho t q A z;rw[n y E];exact .p _ _ H
 .obtain⟨rfl,rfl,rfl⟩:=f s g o h;refine⟨X,λe he=>?_,λc O=>?_,λm=>?_,λl m=>?_⟩
  .obtain⟨q,z,rfl⟩:=cD.1 he;exact Y q z
  .rw[qT]at O;obtain⟨q,z,rfl⟩:=cD.1 O;exact a3 q z
  .simp only at m;rw[J m];rfl
  .obtain⟨_,B,T,L,R,S,U,V,I,W⟩:=F l m;exact⟨B,T,L,R,by rw[qT];exact aG.lS S,U,V,by simpa using I,W⟩
 .obtain⟨rfl,rfl,_⟩:=f s g o h;obtain⟨rfl,rfl,_⟩:=f s' g' o' h';exact⟨rfl,rfl⟩
theorem jD.gA{f:FuncId}{C:Bt}{ex:Exit}{vs:List AV}{res:RV}{i sz:Nat}{p:PV}{m:List PV}(k:aV P f=some C)(hn:args.length<=C.N)(hp:args[i]?=some p)
  (A:cT P C.N C.body (xc args i sz p) ex st') (al:ex=.ret\/ex=.normal) (av:oE st' C.res=some vs) (j:st'.obj bG 0=some ⟨sz,m.map .p⟩) (t:m.length=(mf p).length) (z:CA st' (dB vs) (mf p).length res) :
  jD P f args i sz m res:=by
 unfold aV at k;split at k
 .rename_i fn hf;split at k
  .rename_i L;split at k
   .rename_i c E;split at k
    .rename_i bd rs O U;cases k;refine⟨⟨fn,hf,by rw[E];rfl,L⟩,λw M vals b cap es hM au S hi ha ho=>?_⟩;obtain⟨ag,J⟩:=Wo hM au hp (S p hp) ha ho hn;subst ag;refine calls_of_wp hf E ?_;refine A _ O ⟨w,M,λc=>b=some c,fn.ntmps⟩ _ w _ _ rfl J (λZ' w' a' hs aq=>?_)
     have I:a'.defers=[]/\∃ v,(results fn a'.tmps).run P w'=.ok v w'/\∃ x M',Ending.returned v=.returned x/\(∀ b o,M b=some o->M' b=some o)/\(∀ b o,M' b=some o->w'.heap[b]?=some o) /\
       (∀ b o,M' b=some o->M b=some o\/w.heap.size<=b)/\Keep w w' (λc=>b=some c)/\m.length=(mf p).length/\sg M' w' b cap sz m/\CB M' w w' b cap (mf p).length res x:=by
      obtain⟨xs,e1,e2⟩:=CY hs U av;have V:=e2.dB;generalize aw:(if h:xs.toArray.size=1 then xs.toArray[0]else .tuple xs.toArray)=x at V;have A:(results fn a'.tmps).run P w'=.ok x w':=by rw[<- aw];unfold results;rw[DR];simp only[mT,map_eq_pure_bind,oI];exact congrArg (λr=>(Result.andThen r λa w'=>Result.ok a.toArray w').andThen λ(a:Array Value) w'=>Result.ok (if h:a.size=1 then a[0]else Value.tuple a) w') e1
      obtain⟨G,hC⟩:Z'.B bG 0=b/\Z'.cap bG 0=cap:=by
       obtain h|⟨_,_,_,_,O,U⟩:=aq.live bG 0 ⟨sz,(mf p).map .p⟩ (by decide) (by decide) (by simp[St.obj,St.site,xc,look])
       .rw[j]at h;cases h
       .exact⟨O,U⟩
      have Q:=hs.heap.bR _ _ _ j;have u:∀ c o,Z'.M c=some o->M c=some o\/w.heap.size<=c:=λc o k=>by
       obtain h|h|h:=hs.heap.eE c o k
       .exact .inl h
       .rw[hs.heap.sep bG 0 _ c j (G.trans h)]at k;cases k
       .exact .inr h
      have H:∀ M',(∀ c o,Z'.M c=some o->M' c=some o)->(∀ c,b=some c->M' c=none)->sg M' w' b cap sz m:=by
       intro M' ao ap;refine⟨Q.pos,λe he=>Q.jC (.p e) (cD.2 ⟨e,he,rfl⟩),λq hq=>?_,λE=>?_,λb' F=>?_⟩
       .have:=Q.one (.p q) (by rw[qT];exact cD.2 ⟨q,hq,rfl⟩);exact this
       .have:=Q.xt (G.trans E);simpa using this
       .obtain⟨cur,T,cv,k1,k2,k3,k4,k5,k6⟩:=Q.bU b' (G.trans F);rw[qT]at k2;rw[hC]at k4 k5 k6;exact⟨ap b' F,cur,T,cv,k1,k2.oT.mono ao,k3,k4,by simpa using k5,k6⟩
      have D:∀ c,b=some c->Z'.M c=none:=λc k=>hs.heap.sep bG 0 _ c j (G.trans k);generalize dB vs=v at V z;generalize bb:(mf p).length=n at z t;refine⟨hs.defers,_,A,?_⟩;cases z with
      | pure _ _ q hq R =>
       refine⟨x,Mx Z' st' w' (aO st' aZ v),rfl,λb o E=>mH (hs.heap.m0 b o E),λb o E=>?_,λb o E=>?_,hs.heap.keep,by rw[t],H _ (λc o k=>mH k) (λc k=>?_),?_⟩
       .obtain h|⟨_,h,_⟩:=rJ E
        .exact hs.heap.mem b o h
        .exact h
       .obtain h|⟨_,_,s,g,Y,m1,W,X⟩:=rJ E
        .exact u b o h
        .obtain h|h:=hs.heap.own s g Y b W X
         .obtain⟨rfl,rfl⟩:=hs.heap.inj s g bG 0 Y _ b W j X (G.trans h);exact absurd m1 R
         .exact .inr h
       .cases hm:Mx Z' st' w' (aO st' aZ v) c with
        | none=>rfl
        | some y =>
         exfalso;obtain h|⟨_,_,s,g,Y,m1,W,X⟩:=rJ hm
         .rw[D c k]at h;cases h
         .obtain⟨rfl,rfl⟩:=hs.heap.inj s g bG 0 Y _ c W j X (G.trans k);exact R m1
       .exact AL hs.heap _ aZ _ _ _ V hq (λi hi=>hi)
      | same l _ hl =>
       refine⟨x,Z'.M,rfl,hs.heap.m0,hs.heap.mem,u,hs.heap.keep,by rw[t],H _ (λ_ _ h=>h) D,hl,?_⟩;cases V with
       | dU _ _ o ho af=>rw[<- G,af]
       | own _ _ _ _ o b' ad c ho F O U h3 h4 =>
        obtain⟨rfl,rfl⟩:=O rfl;rw[<- G,F,hC]
       | eN _ _ _ _ _ _ _ hd=>exact(vv j hd).elim
     obtain rfl|rfl:=al
     .exact I
     .exact I
    .cases k
   .cases k
  .cases k
 .cases k
end
inductive d':Type 1
 | ok (c:Prop) (v:AV) (s:St)
 | el {α : Type} (l:List α) (n:Nat) (f : α -> d')
 | br (t:Bool) (a b:d')
 | bad
def fT(K:AV->St->Prop):d'->Prop
 | .ok c v s=>c/\K v s
 | .el l n f=>∃ e,l[n]?=some e/\fT K (f e)
 | .br t a b=>(t=true->fT K a)/\(t=false->fT K b)
 | .bad=>False
def fB{α : Type}:Option α -> (α -> d')->d'
 | some x,f=>f x
 | none,_=>.bad
def d'.and(c:Prop):d'->d'
 | .ok d v s=>.ok (c/\d) v s
 | .el l n f=>.el l n λx=>(f x).and c
 | .br t a b=>.br t (a.and c) (b.and c)
 | .bad=>.bad
def I6:AV->d'->d'->d'
 | .p (.bool t),a,b=>.br t a b
 | _,_,_=>.bad
def oZ:AV->(Nat->d')->d'
 | .p (.int _ n),f=>(f n.toNat).and (0<=n)
 | _,_=>.bad
def BD(st:St)(o:Option bL)(n:Nat)(f:Nat->d'):d' :=
 match o with
 | some x=>oZ (st.ev x) f
 | none=>f n
def Ar(k:IntKind)(a b:Int):Int:=k.wrap (BitVec.ofInt k.bits a &&& BitVec.ofInt k.bits b).toNat
def Ec(k:IntKind)(a b:Int):Int:=k.wrap (BitVec.ofInt k.bits a ||| BitVec.ofInt k.bits b).toNat
def FM(k:IntKind)(a b:Int):Int:=k.wrap (BitVec.ofInt k.bits a ^^^ BitVec.ofInt k.bits b).toNat
def Zb(k:IntKind)(a b:Int):Int:=k.wrap (BitVec.ofInt k.bits a &&& ~~~ BitVec.ofInt k.bits b).toNat
def Mq(f:BinOp)(k:IntKind)(a b:Int)(st:St):d' :=
 match f with
 | .add=>.ok True (.p (.int k (k.wrap (a+b)))) st
 | .sub=>.ok True (.p (.int k (k.wrap (a - b)))) st
 | .mul=>.ok True (.p (.int k (k.wrap (a*b)))) st
 | .quo=>.ok (b≠0) (.p (.int k (k.wrap (a.tdiv b)))) st
 | .rem=>.ok (b≠0) (.p (.int k (a.tmod b))) st
 | .and=>.ok True (.p (.int k (Ar k a b))) st
 | .or=>.ok True (.p (.int k (Ec k a b))) st
 | .xor=>.ok True (.p (.int k (FM k a b))) st
 | .andNot=>.ok True (.p (.int k (Zb k a b))) st
 | .eql=>.ok True (.p (.bool (decide (a=b)))) st
 | .neq=>.ok True (.p (.bool (!decide (a=b)))) st
 | .lss=>.ok True (.p (.bool (decide (a<b)))) st
 | .leq=>.ok True (.p (.bool (decide (a<=b)))) st
 | .gtr=>.ok True (.p (.bool (decide (b<a)))) st
 | .geq=>.ok True (.p (.bool (decide (b<=a)))) st
 | .shl=>.ok (0<=b) (.p (.int k (k.wrap (a*2^Nat.min b.toNat k.bits)))) st
 | .shr=>.ok (0<=b) (.p (.int k (a / (2^Nat.min b.toNat k.bits)))) st
def IG(f:BinOp)(x y:AV)(st:St):d' :=
 match x,y with
 | .p (.int k a),.p (.int h b)=>if xd f=true\/k=h then Mq f k a b st else .bad
 | _,_=>.bad
def Am(st:St)(v:AV)(f:List AV->d'):d' :=
 match v with
 | .p (.sl i)=>f (i.map .p)
 | .nil=>f []
 | .p .nl=>f []
 | .p .sle=>f []
 | .own s g h b=>fB (st.obj s g) λo=>(f ((o.es.drop h).take b)).and (h+b<=o.es.length)
 | _=>.bad
def vF(sz:Nat)(l:List AV):Prop:=(l.all λv=>v.sz == sz)=true/\0<sz
def xU(sz:Nat)(l:List PV):Prop:=(l.all λv=>v.sz == sz)=true/\0<sz
def oc(st:St)(d:Nat):c7->d'
 | .mv x=>.ok True (st.ev x) st
 | .pick c a b=>I6 (st.ev c) (.ok True (st.ev a) st) (.ok True (st.ev b) st)
 | .alloc r zero=>.ok (zero.sz=r/\0<r) (.ptr d (st.site d).length 0 0) (st.alloc d ⟨r,[zero]⟩)
 | .box r x=>.ok ((st.ev x).sz=r/\0<r) (.ptr d (st.site d).length 0 0) (st.alloc d ⟨r,[st.ev x]⟩)
 | .build zero parts=>fB (zU zero (parts.map λ(o,s,x)=>(o,s,st.ev x))) λH=>.ok True (eJ H) st
 | .b0 r zero n parts=>fB (zP (List.replicate n zero.fL) r (parts.map λ(i,x)=>(i,(st.ev x).fL))) λA=>.ok (zero.sz=r/\0<r/\n*r<=16777216) (.own d (st.site d).length 0 n) (st.alloc d ⟨r,A⟩)
 | .load r G x=>match st.ev x with
  | .ptr s g C j=>fB (st.obj s g) λo=>.el o.es C λe=>if j=0/\r=o.sz then .ok True e st else fB (e.xY j r G) λv=>.ok True v st
  | .cp v z j=>if j=0/\r=z then .ok True (.p v) st else fB (v.xY j r G) λv=>.ok True (.p v) st
  | _=>.bad
 | .store r a x=>match st.ev a with
  | .ptr s g C j=>fB (st.obj s g) λo=>.el o.es C λe=>
    if j=0/\r=o.sz then .ok ((st.ev x).sz=r/\0<r) .undef (st.setObj s g ⟨o.sz,o.es.set C (st.ev x)⟩)
    else fB (e.rR j (st.ev x)) λM=>.ok ((st.ev x).sz=r/\0<r) .undef (st.setObj s g ⟨o.sz,o.es.set C M⟩)
  | _=>.bad
 | .bT x=>match st.ev x with
  | .ptr s g C j=>fB (st.obj s g) λ_=>.ok True (.ptr s g C j) st
  | .p (.fn f u)=>.ok True (.p (.fn f u)) st
  | .fn f u=>.ok True (.fn f u) st
  | .p (.ref v)=>.ok True (.p (.ref v)) st
  | .cp v z j=>.ok True (.cp v z j) st
  | _=>.bad
 | .dH I x y=>IG I (st.ev x) (st.ev y) st
 | .gD I x y=>fB (gD I (st.ev x) (st.ev y)) λv=>.ok True (.p v) st
 | .jZ E I x y=>fB (jZ E I (st.ev x) (st.ev y)) λv=>.ok True (.p v) st
 | .not x=>match st.ev x with
  | .p (.bool b)=>.ok True (.p (.bool (!b))) st
  | _=>.bad
 | .neg x=>match st.ev x with
  | .p (.int k n)=>.ok True (.p (.int k (k.wrap (0 - n)))) st
  | _=>.bad
 | .tA x=>match st.ev x with
  | .p (.int k n)=>.ok True (.p (.int k (FM k (if k.signed then -1 else k.max) n))) st
  | _=>.bad
 | .conv k x=>match st.ev x with
  | .p (.int _ n)=>.ok True (.p (.int k (k.wrap n))) st
  | _=>.bad
 | .jK f u=>.ok ((u.map st.ev).all AV.one=true) (.fn f (u.map st.ev)) st
 | .cJ r zero l c=>oZ (st.ev l) λn=>oZ (st.ev c) λm=>.ok (n<=m/\m<=eS/\zero.sz=r/\0<r) (.own d (st.site d).length 0 n) (st.alloc d ⟨r,List.replicate n zero.uM⟩)
 | .slice r x O L=>BD st O 0 λl=>match st.ev x with
  | .p (.sl A)=>BD st L A.length λh=>.ok ((l<=h/\h<=A.length)/\xU r A) (.p (.sl ((A.drop l).take (h - l)))) st
  | .own s g j t=>BD st L t λh=>fB (st.obj s g) λo=>.ok (l<=h/\h<=t/\j+t<=o.es.length/\o.sz=r) (.own s g (j+l) (h - l)) st
  | .nil=>BD st L 0 λh=>.ok (l=0/\h=0) .nil st
  | _=>.bad
 | .iK j x=>match st.ev x with
  | .ptr s g C o=>fB (st.obj s g) λ_=>.ok True (.ptr s g C (o+j)) st
  | .cp v z o=>.ok True (.cp v z (o+j)) st
  | _=>.bad
 | .field j r G x=>fB (st.ev x).iZ λH=>fB (sT H j r G) λv=>.ok True v st
 | .cE r x i=>oZ (st.ev i) λn=>match st.ev x with
  | .p (.sl A)=>.el A n λe=>.ok (e.sz=r/\0<r) (.cp e r 0) st
  | .own s g j t=>fB (st.obj s g) λo=>.ok (n<t/\j+t<=o.es.length/\o.sz=r) (.ptr s g (j+n) 0) st
  | _=>.bad
 | .cK m r x i=>oZ (st.ev i) λn=>match st.ev x with
  | .ptr s g C o=>fB (st.obj s g) λ_=>.ok (n<m) (.ptr s g C (o+n*r)) st
  | .cp v z o=>.ok (n<m) (.cp v z (o+n*r)) st
  | _=>.bad
 | .idx m r G x i=>oZ (st.ev i) λn=>fB (st.ev x).iZ λH=>fB (sT H (n*r) r G) λv=>.ok (n<m) v st
 | .extract x i=>match st.ev x with
  | .bP F=>fB F[i]? λv=>.ok True v st
  | .p (.bP F)=>fB F[i]? λv=>.ok True (.p v) st
  | _=>.bad
 | .len x=>match st.ev x with
  | .p (.sl A)=>.ok True (.p (.int .i64 A.length)) st
  | .nil=>.ok True (.p (.int .i64 0)) st
  | .own _ _ _ t=>.ok True (.p (.int .i64 t)) st
  | _=>.bad
 | .append r a x=>Am st (st.ev x) λB=>match st.ev a with
  | .nil=>.ok (vF r (B.map AV.fL)/\B.length<=eS) (.own d (st.site d).length 0 B.length) (st.alloc d ⟨r,B.map AV.fL⟩)
  | .own s g j t=>fB (st.obj s g) λo=>.ok (vF r (B.map AV.fL)/\(j=0/\t=o.es.length/\o.sz=r/\t+B.length<=eS))
    (.own d ((aJ st [(s,g)]).site d).length 0 (t+B.length)) ((aJ st [(s,g)]).alloc d ⟨r,o.es++B.map AV.fL⟩)
  | _=>.bad
 | .iI D x=>match st.ev x with
  | .nil=>.ok True (.p (.bool (!D))) st
  | .p .nl=>.ok True (.p (.bool (!D))) st
  | .p .sle=>.ok True (.p (.bool D)) st
  | .p (.sl A)=>.ok (A≠[]) (.p (.bool D)) st
  | .own s g _ t=>fB (st.obj s g) λ_=>.ok (0<t) (.p (.bool D)) st
  | _=>.bad
 | .cap x=>match st.ev x with
  | .nil=>.ok True (.p (.int .i64 0)) st
  | _=>.bad
 | .clear r zero x=>match st.ev x with
  | .nil=>.ok True (.bP []) st
  | .own s g j t=>fB (st.obj s g) λo=>.ok (j+t<=o.es.length/\o.sz=r/\zero.sz=r) (.bP []) (st.setObj s g ⟨o.sz,o.es.take j++List.replicate t zero.fL++o.es.drop (j+t)⟩)
  | _=>.bad
 | .eZ r zero a x=>oZ (st.ev x) λn=>match st.ev a with
  | .nil=>.ok (0<n/\n<=eS/\zero.sz=r/\0<r) (.own d (st.site d).length 0 n) (st.alloc d ⟨r,List.replicate n zero.fL⟩)
  | _=>.bad
 | .lW J zero x k=>match st.ev x,st.ev k with
  | .p (.mp _ E F),.p (.agg kc)=>.ok (j' J kc=true/\E.all (su J)=true) (match oD kc E F with|some v=>.p v|none=>zero) st
  | _,_=>.bad
 | .jW J zero x k=>match st.ev x,st.ev k with
  | .p (.mp _ E F),.p (.agg kc)=>.ok (j' J kc=true/\E.all (su J)=true) (match oD kc E F with|some v=>.bP [.p v,.p (.bool true)]|none=>.bP [zero,.p (.bool false)]) st
  | _,_=>.bad
 | .qG x i=>oZ (st.ev i) λn=>match st.ev x with
  | .p (.str s)=>.el s.data.toList n λb=>.ok True (.p (.int .u8 b.toNat)) st
  | _=>.bad
 | .min B=>fB (xE false (B.map st.ev)) λv=>.ok True (.p v) st
 | .max B=>fB (xE true (B.map st.ev)) λv=>.ok True (.p v) st
 | _=>.bad
section
variable {P:Program} {N:Nat} {st s1 st':St} {d:Nat} {K:AV->St->Prop}
theorem A3{c:Prop}:∀ {o:d'},fT K (o.and c)->fT K o/\c
 | .ok d v s,h=>⟨⟨h.1.2,h.2⟩,h.1.1⟩
 | .el l n f,⟨e,j,i⟩=>⟨⟨e,j,(A3 i).1⟩,(A3 i).2⟩
 | .br true a b,h=>⟨⟨λ_=>(A3 (h.1 rfl)).1,λh=>by cases h⟩,(A3 (h.1 rfl)).2⟩
 | .br false a b,h=>⟨⟨λh=>(by cases h),λ_=>(A3 (h.2 rfl)).1⟩,(A3 (h.2 rfl)).2⟩
def ybz{v:AV}{a b:d'}(h:fT K (I6 v a b)):(v=.p (.bool true)/\fT K a)\/(v=.p (.bool false)/\fT K b):=by
 unfold I6 at h;split at h
 .rename_i t;cases t
  .exact .inr ⟨rfl,h.2 rfl⟩
  .exact .inl ⟨rfl,h.1 rfl⟩
 .exact h.elim
theorem nG{α : Type}{o:Option α}{f : α -> d'}(h:fT K (fB o f)):∃ e,o=some e/\fT K (f e):=by
 cases o with
 | none=>exact h.elim
 | some x=>exact⟨x,rfl,h⟩
def AX{v:AV}{f:Nat->d'}(h:fT K (oZ v f)):∃ n,vS v=some n/\fT K (f n):=by
 unfold oZ at h;split at h
 .rename_i k n;have:=A3 h;exact⟨n.toNat,by simp[vS,this.2],this.1⟩
 .exact h.elim
theorem HJ{o:Option bL}{m:Nat}{f:Nat->d'}(h:fT K (BD st o m f)):∃ n,sN st o m=some n/\fT K (f n):=by
 unfold BD at h;cases o with
 | none=>exact⟨m,rfl,h⟩
 | some x=>exact AX h
def Wj{v:AV}{f:List AV->d'}(h:fT K (Am st v f)):∃ l,st.elems v=some l/\fT K (f l):=by
 unfold Am at h;split at h
 .exact⟨_,rfl,h⟩
 .exact⟨_,rfl,h⟩
 .exact⟨_,rfl,h⟩
 .exact⟨_,rfl,h⟩
 .obtain⟨o,b,i⟩:=nG h;have:=A3 i;exact⟨_,by simp[St.elems,b,this.2],this.1⟩
 .exact h.elim
def XY{i:BinOp}{x y:AV}(h:fT K (IG i x y st)):∃ v,dH i x y=some v/\K (.p v) st:=by
 unfold IG at h;split at h
 .rename_i k a r b;split at h
  .rename_i o;by_cases l:xd i=true
   .cases i<;>simp only[xd,gJ]at l
    .obtain⟨j,f⟩:=h;exact⟨_,by simp only[dH,xd,cB,ET];rw[aY (by omega)],f⟩
    .obtain⟨j,f⟩:=h;exact⟨_,by simp only[dH,xd,cB,ET];rw[aY (by omega),Int.fdiv_eq_ediv_of_nonneg _ (Int.pow_nonneg (by decide))],f⟩
   .have m:k=r:=o.resolve_left l;subst m;have n:∃ v,AA i k a b=some v/\K (.p v) st:=by
     cases i<;>simp only[xd,not_true_eq_false]at l<;>simp only[Mq,fT]at h<;>first
      | exact⟨_,rfl,h.2⟩
      | (obtain⟨j,f⟩:=h;exact⟨_,by simp only[AA];rw[aY j],f⟩)
      | exact⟨_,by simp only[AA,bne,beq_eq_decide],h.2⟩
    obtain⟨v,j,f⟩:=n;exact⟨v,by simp only[dH,l,j,cB];rfl,f⟩
  .exact h.elim
 .exact h.elim
def Yb{G:c7}(h:fT K (oc st d G)):∃ v s,bX none st d G=some (v,s)/\K v s:=by
 cases G<;>simp only[oc]at h<;>simp only[bX]
 case mv x=>exact⟨_,_,rfl,h.2⟩
 case pick c a b =>
  obtain⟨e,h⟩|⟨e,h⟩:=ybz h<;>rw[e]<;>exact⟨_,_,rfl,h.2⟩
 case alloc B zero=>exact⟨_,_,by rw[aW h.1],h.2⟩
 case box B x=>exact⟨_,_,by rw[aW h.1],h.2⟩
 case build zero parts=>obtain⟨V,t,p⟩:=nG h;exact⟨_,_,by rw[t],p.2⟩
 case b0 B zero n parts=>obtain⟨V,t,p⟩:=nG h;exact⟨_,_,by rw[aW p.1,t],p.2⟩
 case load B R x =>
  split at h
  .rename_i j;simp only[j];obtain⟨o,t,e,p,z⟩:=nG h;simp only[t,p];split at z
   .rename_i D;exact⟨_,_,by rw[aW D],z.2⟩
   .rename_i D;obtain⟨v,A,C⟩:=nG z;exact⟨_,_,by rw[aY D,A],C.2⟩
  .rename_i j;simp only[j];split at h
   .rename_i D;exact⟨_,_,by rw[aW D],h.2⟩
   .rename_i D;obtain⟨v,A,C⟩:=nG h;exact⟨_,_,by rw[aY D,A],C.2⟩
  .exact h.elim
 case store B a x =>
  split at h
  .rename_i j;simp only[j];obtain⟨o,t,e,p,A⟩:=nG h;simp only[t,p];split at A
   .rename_i D;exact⟨_,_,by rw[aW A.1,aW D],A.2⟩
   .rename_i D;obtain⟨v,C,U⟩:=nG A;exact⟨_,_,by rw[aW U.1,aY D,C],U.2⟩
  .exact h.elim
 case bT x =>
  split at h
  .rename_i j;simp only[j];obtain⟨o,t,p⟩:=nG h;exact⟨_,_,by rw[t],p.2⟩
  all_goals first|exact h.elim|(rename_i j;simp only[j];exact⟨_,_,rfl,h.2⟩)
 case dH G x y=>obtain⟨v,t,p⟩:=XY h;exact⟨_,_,by rw[t],p⟩
 case gD G x y=>obtain⟨v,t,p⟩:=nG h;exact⟨_,_,by rw[t],p.2⟩
 case jZ I G x y=>obtain⟨v,t,p⟩:=nG h;exact⟨_,_,by rw[t],p.2⟩
 case not x=>split at h<;>first|exact h.elim|(rename_i j;simp only[j];exact⟨_,_,rfl,h.2⟩)
 case neg x=>split at h<;>first|exact h.elim|(rename_i j;simp only[j];exact⟨_,_,rfl,h.2⟩)
 case tA x=>split at h<;>first|exact h.elim|(rename_i j;simp only[j];exact⟨_,_,rfl,h.2⟩)
 case conv k x=>split at h<;>first|exact h.elim|(rename_i j;simp only[j];exact⟨_,_,rfl,h.2⟩)
 case jK f S=>exact⟨_,_,by rw[aW h.1],h.2⟩
 case cJ B zero l c =>
  obtain⟨n,t,h⟩:=AX h;obtain⟨m,p,h⟩:=AX h;exact⟨_,_,by simp only[t,p];rw[aW h.1],h.2⟩
 case slice B x lo hi =>
  obtain⟨l,t,h⟩:=HJ h;simp only[t];split at h
  .rename_i j;simp only[j];obtain⟨k,p,⟨z,A⟩,C⟩:=HJ h;simp only[p];exact⟨_,_,by rw[aW ⟨z.1,z.2,A.1,A.2⟩],C⟩
  .rename_i j;simp only[j];obtain⟨k,p,h⟩:=HJ h;obtain⟨o,z,A,C⟩:=nG h;simp only[p,z];exact⟨_,_,by rw[aW A],C⟩
  .rename_i j;simp only[j];obtain⟨k,p,A,C⟩:=HJ h;simp only[p];exact⟨_,_,by rw[aW A],C⟩
  .exact h.elim
 case iK O x =>
  split at h
  .rename_i j;simp only[j];obtain⟨o,t,p⟩:=nG h;exact⟨_,_,by rw[t],p.2⟩
  .rename_i j;simp only[j];exact⟨_,_,rfl,h.2⟩
  .exact h.elim
 case field O B R x=>obtain⟨v,t,h⟩:=nG h;obtain⟨u,p,z⟩:=nG h;exact⟨_,_,by simp only[t,p],z.2⟩
 case cE B x i =>
  obtain⟨n,t,h⟩:=AX h;simp only[t];split at h
  .rename_i j;simp only[j];obtain⟨e,p,z,A⟩:=h;exact⟨_,_,by simp only[p];rw[aW z],A⟩
  .rename_i j;simp only[j];obtain⟨e,p,z,A⟩:=nG h;exact⟨_,_,by simp only[p];rw[aW z],A⟩
  .exact h.elim
 case cK m B x i =>
  obtain⟨n,t,h⟩:=AX h;simp only[t];split at h
  .rename_i j;simp only[j];obtain⟨e,p,z,A⟩:=nG h;exact⟨_,_,by simp only[p];rw[aW z],A⟩
  .rename_i j;simp only[j];exact⟨_,_,by rw[aW h.1],h.2⟩
  .exact h.elim
 case idx m B R x i =>
  obtain⟨n,t,h⟩:=AX h;obtain⟨v,p,h⟩:=nG h;obtain⟨u,z,E,A⟩:=nG h;exact⟨_,_,by simp only[t,E,cB,p,z],A⟩
 case extract x i =>
  split at h
  .rename_i j;simp only[j];obtain⟨e,p,z⟩:=nG h;exact⟨_,_,by rw[p],z.2⟩
  .rename_i j;simp only[j];obtain⟨e,p,z⟩:=nG h;exact⟨_,_,by rw[p],z.2⟩
  .exact h.elim
 case len x=>split at h<;>first|exact h.elim|(rename_i j;simp only[j];exact⟨_,_,rfl,h.2⟩)
 case append B a x =>
  obtain⟨J,t,h⟩:=Wj h;simp only[t];split at h
  .rename_i j;obtain⟨⟨E,p⟩,z⟩:=h;have F:((J.map AV.fL).all λv=>v.sz == B)=true/\0<B:=E;simp only[j];rw[aW F];exact⟨_,_,by rw[aW p],z⟩
  .rename_i j;obtain⟨o,p,⟨E,z⟩,A⟩:=nG h;have F:((J.map AV.fL).all λv=>v.sz == B)=true/\0<B:=E;simp only[j];rw[aW F];simp only[p];exact⟨_,_,by rw[aW z],A⟩
  .exact h.elim
 case iI neg x =>
  split at h
  .rename_i j;simp only[j];exact⟨_,_,rfl,h.2⟩
  .rename_i j;simp only[j];exact⟨_,_,rfl,h.2⟩
  .rename_i j;simp only[j];exact⟨_,_,rfl,h.2⟩
  .rename_i W j;cases W with
   | nil=>exact absurd rfl h.1
   | cons y ys=>simp only[j];exact⟨_,_,rfl,h.2⟩
  .rename_i j;simp only[j];obtain⟨o,t,p,z⟩:=nG h;exact⟨_,_,by simp only[t];rw[aW p],z⟩
  .exact h.elim
 case cap x=>split at h<;>first|exact h.elim|(rename_i j;simp only[j];exact⟨_,_,rfl,h.2⟩)
 case clear B zero x =>
  split at h
  .rename_i j;simp only[j];exact⟨_,_,rfl,h.2⟩
  .rename_i j;simp only[j];obtain⟨o,t,p,z⟩:=nG h;exact⟨_,_,by simp only[t];rw[aW p],z⟩
  .exact h.elim
 case eZ B zero a x =>
  obtain⟨n,t,h⟩:=AX h;split at h
  .rename_i j;simp only[j,t];exact⟨_,_,by rw[aW h.1],h.2⟩
  .exact h.elim
 case lW Y zero x k =>
  split at h
  .rename_i r I Q kc t p;simp only[t,p];refine⟨_,_,?_,h.2⟩;rw[aW h.1];cases oD kc I Q<;>rfl
  .exact h.elim
 case jW Y zero x k =>
  split at h
  .rename_i r I Q kc t p;simp only[t,p];refine⟨_,_,?_,h.2⟩;rw[aW h.1];cases oD kc I Q<;>rfl
  .exact h.elim
 case qG x i =>
  obtain⟨n,t,h⟩:=AX h;split at h
  .rename_i s j;simp only[j,t];obtain⟨b,X,p,z⟩:=h;have:s[n]?=some b:=by
    have E:=(List.getElem?_eq_some_iff.1 X);obtain⟨M,L⟩:=E;have H:n<s.size:=by simpa using M
    rw[getElem?_pos s n H,<- L];rfl
   exact⟨_,_,by simp only[this],z⟩
  .exact h.elim
 case min J=>obtain⟨v,t,p⟩:=nG h;exact⟨_,_,by rw[t],p.2⟩
 case max J=>obtain⟨v,t,p⟩:=nG h;exact⟨_,_,by rw[t],p.2⟩
 all_goals exact h.elim
end
inductive GC where
 | iX
 | cY (ops:List Ins) (dead:List (List Nat))
 | fM (ops:List Ins) (pre:List (List Nat)) (dead:List (List Nat))
 | seq (a b:GC)
 | cond (c:bL) (dead:List Nat) (a b:GC)
 | bU (id:Nat) (b:GC)
 | loop (b:GC)
 | ext (id:Nat)
 | ret
 | bad
 | cut (b:GC)
 | Cm (b:GC)
def GC.er:GC->AC
 | .iX=>.iX
 | .cY is _=>.cY is
 | .fM is pre _=>.fM is pre
 | .seq a b=>.seq a.er b.er
 | .cond c _ a b=>.cond c a.er b.er
 | .bU id b=>.bU id b.er
 | .loop b=>.loop b.er
 | .ext id=>.ext id
 | .ret=>.ret
 | .bad=>.bad
 | .cut b=>b.er
 | .Cm b=>.Cm b.er
inductive Kt where
 | ins (is:List Ins) (dead:List (List Nat))
 | fJ (is:List Ins) (fs:List FP) (pre:List (List Nat)) (dead:List (List Nat))
 | code (b:GC)
 | bU (id:Nat)
def GC.sz:GC->Nat
 | .cY is _=>is.length+2
 | .fM is _ _=>is.length+2
 | .seq a b=>a.sz+b.sz+1
 | .cond _ _ a b=>a.sz+b.sz+1
 | .bU _ b=>b.sz+2
 | .cut b=>b.sz+1
 | .Cm b=>b.sz+1
 | _=>1
def Kt.sz:Kt->Nat
 | .ins is _=>is.length+1
 | .fJ is _ _ _=>is.length+1
 | .code b=>b.sz
 | .bU _=>1
def mV:List Kt->Nat
 | []=>0
 | k::b=>k.sz+mV b
def GC.eA(b:GC):0<b.sz:=by cases b<;>simp[GC.sz]
def Kt.eA(k:Kt):0<k.sz:=by cases k<;>simp[Kt.sz,GC.eA]
def fS(id:Nat):List Kt->Option (List Kt)
 | []=>none
 | .bU j::b=>if j=id then some b else fS id b
 | _::b=>fS id b
theorem Dq{id:Nat}:∀ {ks r:List Kt},fS id ks=some r->mV r<mV ks
 | .bU j::ks,r,h=>by
  simp only[fS]at h;simp only[mV,Kt.sz];split at h
  .cases h;omega
  .have:=Dq h;omega
 | .ins _ _::ks,r,h=>by have:=Dq (ks:=ks) h;simp only[mV,Kt.sz];omega
 | .fJ _ _ _ _::ks,r,h=>by have:=Dq (ks:=ks) h;simp only[mV,Kt.sz];omega
 | .code _::ks,r,h=>by have:=Dq (ks:=ks) h;simp only[mV,Kt.sz];omega
def rep:List (Nat × AV)->Nat->AV->List (Nat × AV)
 | [],t,v=>[(t,v)]
 | (k,w)::r,t,v=>if k=t then(t,v)::r else(k,w)::rep r t v
def St.rep(st:St)(d:Option Nat)(v:AV):St :=
 match d with
 | some t=>⟨Ab.rep st.sl t v,st.hp⟩
 | none=>st
def xB(b:List Nat):List (Nat × AV)->List (Nat × AV)
 | []=>[]
 | (k,w)::r=>if b.elem k then xB b r else(k,w)::xB b r
def St.drop(st:St)(dead:List Nat):St:=⟨xB dead st.sl,st.hp⟩
def St.eK(st:St):List (List Nat)->St
 | []::_=>st
 | (a::l)::_=>st.drop (a::l)
 | []=>st
def vP(P:Program)(st:St)(d:Nat)(f:FuncId)(vs:List AV)(K:bI->AV->St->Prop):Prop :=
 ∃ c:bI,c.ok P/\∃ v s,xn (some c) st d f vs=some (v,s)/\K c v s
def Eg(P:Program)(st:St)(d:Nat)(f:AV)(vs:List AV)(K:bI->AV->St->Prop):Prop :=
 match f with
 | .p (.fn f b)=>vP P st d f (vs++b.map .p) K
 | .fn f b=>vP P st d f (vs++b) K
 | _=>False
def oW(P:Program)(st:St)(d:Nat)(op:c7)(K:Option bI->AV->St->Prop):Prop :=
 match op with
 | .call f args=>vP P st d f (args.map st.ev) λc=>K (some c)
 | .gS x args=>Eg P st d (st.ev x) (args.map st.ev) λc=>K (some c)
 | op=>fT (K none) (oc st d op)
def Az(st:St)(g:Option (Nat × Bool))(K:St->Prop)(J:St->Prop):Prop :=
 match g with
 | none=>K st
 | some (t,b)=>match st.get t with
  | .p (.bool c)=>(c=b->K (st.rep (some t) (.p (.bool b))))/\(c=(!b)->J (st.rep (some t) (.p (.bool !b))))
  | .skip=>J st
  | _=>False
def Iy:AV->Prop->Prop->Prop
 | .p (.bool t),A,B=>(t=true->A)/\(t=false->B)
 | _,_,_=>False
def eM(P:Program)(N:Nat)(Q:Exit->St->Prop):List Kt->Exit->St->Prop
 | [],ex,s=>Q ex s
 | .bU id::f,ex,s=>match ex with
  | .exit j=>if j=id then eM P N Q f .normal s else eM P N Q f (.exit j) s
  | ex=>eM P N Q f ex s
 | .code b::f,ex,s=>match ex with
  | .normal=>∃ h m,cT P N b.er s h m/\eM P N Q f h m
  | ex=>eM P N Q f ex s
 | .ins l _::f,ex,s=>match ex with
  | .normal=>∃ k s1 i,rG P l k s s1/\aA s1 i/\eM P N Q f .normal i
  | ex=>eM P N Q f ex s
 | .fJ l n pre _::f,ex,s=>match ex with
  | .normal=>∃ k s1 i,rG P l k s s1/\aQ [] 0 (n++k) pre=true/\aA s1 i/\eM P N Q f .normal i
  | ex=>eM P N Q f ex s
def vL(P:Program)(N:Nat)(Q:Exit->St->Prop)(b:GC)(ks:List Kt)(st:St):Prop:=∃ f s,fY P N b.er st f s/\eM P N Q ks f s
def vm(P:Program)(N:Nat)(Q:Exit->St->Prop)(ks:List Kt)(st:St):Prop :=
 match ks with
 | []=>Q .normal st
 | .bU _::ks=>vm P N Q ks st
 | .ins [] f::ks=>vm P N Q ks st
 | .ins (i::j) f::ks=>Az st i.guard
   (λst=>oW P st (i.dst.getD 0) i.op λ_ v s=>vm P N Q (.ins j f.tail::ks) ((s.rep i.dst v).eK f))
   (λst=>vm P N Q (.ins j f.tail::ks) ((st.rep i.dst .skip).eK f))
 | .fJ [] k pre f::ks=>aQ [] 0 k pre=true/\vm P N Q ks st
 | .fJ (i::j) k pre f::ks=>Az st i.guard
   (λst=>oW P st (i.dst.getD 0) i.op λc v s=>vm P N Q (.fJ j (k++[fp c st i]) pre f.tail::ks) ((s.rep i.dst v).eK f))
   (λst=>vm P N Q (.fJ j (k++[fp none st i]) pre f.tail::ks) ((st.rep i.dst .skip).eK f))
 | .code .iX::ks=>vm P N Q ks st
 | .code (.cY j f)::ks=>vm P N Q (.ins j f::ks) st
 | .code (.fM j pre f)::ks=>vm P N Q (.fJ j [] pre f::ks) st
 | .code (.seq a b)::ks=>vm P N Q (.code a::.code b::ks) st
 | .code (.cond c f a b)::ks=>Iy (st.ev c) (vm P N Q (.code a::ks) (st.drop f)) (vm P N Q (.code b::ks) (st.drop f))
 | .code (.bU id b)::ks=>vm P N Q (.code b::.bU id::ks) st
 | .code (.loop b)::ks=>vL P N Q b ks st
 | .code (.ext id)::ks=>match h:fS id ks with
  | some l=>vm P N Q l st
  | none=>Q (.exit id) st
 | .code .ret::_=>Q .ret st
 | .code .bad::_=>False
 | .code (.cut b)::ks=>eM P N Q (.code b::ks) .normal st
 | .code (.Cm _)::_=>False
termination_by mV ks
decreasing_by all_goals (try have:=Dq h);simp only[mV,Kt.sz,GC.sz,pQ];(try have:=GC.eA ‹GC›);omega
end Go.Ab
