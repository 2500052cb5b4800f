/- Lemmas for the law ComposeBuildsMadeModels, part 5. No conditions. -/
import Derived.Test.YthhdboljpgdcpaaGreatDoorAP04
set_option maxRecDepth 100000
set_option maxHeartbeats 4000000
set_option linter.all false
namespace Go.Ab
section
variable {P:Program} {K:Ctx} {Z Z':Cz} {st st':St} {w w':World} {a:Act} {orc:Option bI} {d:Nat} {v:AV}
theorem kW{α β : Type}{x:Option α}{f : α -> Option β}{b : β}(h:x.bind f=some b):∃ y,x=some y/\f y=some b:=by
 cases x with
 | none=>cases h
 | some y=>exact⟨y,rfl,h⟩
theorem cM{α β : Type}{x:Option α}{f : α -> β}{b : β}(h:x.map f=some b):∃ y,x=some y/\f y=b:=by
 cases x with
 | none=>cases h
 | some y=>exact⟨y,rfl,by simpa using h⟩
def X7(z:AV):Bool->Option PV->AV
 | false,some u=>.p u
 | false,none=>z
 | true,some u=>.bP [.p u,.p (.bool true)]
 | true,none=>.bP [z,.p (.bool false)]
def Wf{t:TypeId}{m k:Operand}{c:Bool}{o:c7}(y:BG P t m k c=some o)(hs:aN K Z st w a)(f:bX orc st d o=some (v,st')) :
  Good P K Z st ((do pure (Next.value (<- Instr.lookup t (a.eval m) (a.eval k) c)):Sem Next).run P w) v st':=by
 unfold BG at y;split at y
 .rename_i kt et W;obtain⟨qs,hq,y⟩:=kW y;obtain⟨m',hm,y⟩:=kW y;obtain⟨k',ad,y⟩:=kW y;obtain⟨z,hz,rfl⟩:=cM y;have F:=fD hm hs;have E:=fD ad hs;obtain⟨i,zx,hi,ag,Q⟩:=zB hz;obtain⟨U,N⟩:=Pt hq;generalize a.eval m=X at F ⊢;generalize a.eval k=Y at E ⊢
  have S:∀ {r:Nat} {A G kc:List PV},st.ev m'=.p (.mp r A G)->st.ev k'=.p (.agg kc)->j' qs kc=true->A.all (su qs)=true ->
    ∃ x,(Instr.lookup t X Y c).run P w=.ok x w/\aM Z st (X7 z c (oD kc A G)) x:=by
   intro r A G kc C D L M;rw[C]at F;rw[D]at E;cases F.cA with
   | mp _ _ _ es B m0 m1 m2 m3 m4 m5 =>
    cases E.cA with
    | agg _ al _ s =>
     obtain⟨l,hl⟩:=N L s;have hb:=hs.heap.mem r _ m0;have J:=Lj (λC D=>N C D) M m1;obtain⟨f1,f2⟩:=QQ L s M m1 m2 m3;have b:=U.check w es.isEmpty hl;have h:(getObj r).run P w=.ok (.map es B) w:=by simp[getObj,Sem.run,hb]
     have R:(zeroValue et).run P w=.ok zx w:=by simp[zeroValue,typeInfo,hi,ag]
     obtain⟨I,g2⟩|⟨j,V,I,g2,g3⟩:=U.find w hl es.toList J
     .rw[f1 g2];cases c with
      | false=>exact⟨zx,by simp[Instr.lookup,run_underlying W,h,b,I,R],Q Z st⟩
      | true=>exact⟨.tuple #[zx,.bool false],by simp[Instr.lookup,run_underlying W,h,b,I,R],.bP _ [zx,.bool false] (.cons _ _ _ _ (Q Z st) (.cons _ _ _ _ (.p _ _ (.bool false)) .nil))⟩
     .obtain⟨u,af,O⟩:=f2 j V g2 g3;rw[af];cases c with
      | false=>exact⟨V.val,by simp[Instr.lookup,run_underlying W,h,b,I],.p _ _ O⟩
      | true=>exact⟨.tuple #[V.val,.bool true],by simp[Instr.lookup,run_underlying W,h,b,I],.bP _ [V.val,.bool true] (.cons _ _ _ _ (.p _ _ O) (.cons _ _ _ _ (.p _ _ (.bool true)) .nil))⟩
  cases c with
  | false =>
   simp only[bX,gJ,fQ]at f;split at f
   .rename_i r A G kc C D;split at f
    .rename_i n;simp only[cF,dA]at f;obtain⟨rfl,rfl⟩:=f;obtain⟨x,e1,H⟩:=S C D n.1 n.2;refine iA (x:=x) (by simp[e1]) hs ?_;cases hf:oD kc A G<;>rw[hf]at H<;>exact H
    .cases f
   .cases f
  | true =>
   simp only[bX,cB]at f;split at f
   .rename_i r A G kc C D;split at f
    .rename_i n;simp only[cF,dA]at f;obtain⟨rfl,rfl⟩:=f;obtain⟨x,e1,H⟩:=S C D n.1 n.2;refine iA (x:=x) (by simp[e1]) hs ?_;cases hf:oD kc A G<;>rw[hf]at H<;>exact H
    .cases f
   .cases f
 .cases y
theorem RI{l:List Operand}{x:bL}(h:oP l=some [x]):∃ f,l=[f]/\dJ f=some x:=by
 cases l with
 | nil=>simp[oP]at h
 | cons y j =>
  simp only[oP]at h;split at h
  .rename_i p q i b;cases h;cases j with
   | nil=>exact⟨y,rfl,i⟩
   | cons z zs=>simp only[oP]at b;split at b<;>cases b
  .cases h
theorem N8{l:List Operand}{x y:bL}(h:oP l=some [x,y]):∃ j k,l=[j,k]/\dJ j=some x/\dJ k=some y:=by
 cases l with
 | nil=>simp[oP]at h
 | cons a l =>
  simp only[oP]at h;split at h
  .rename_i p q m f;cases h;cases l with
   | nil=>simp[oP]at f
   | cons b l =>
    simp only[oP]at f;split at f
    .rename_i o r n i;cases f;cases l with
     | nil=>exact⟨a,b,rfl,m,n⟩
     | cons c l=>simp only[oP]at i;split at i<;>cases i
    .cases f
  .cases h
def Yu{o:Oper}{i:c7}(j:oC P o.op=some i)(hn:∀ c f,o.op=.call c->c.callee ≠ .value f)(hs:aN K Z st w a)(C:bX orc st d i=some (v,st')):Good P K Z st ((execOp a.eval o).run P w) v st':=by
 unfold execOp;cases W:o.op<;>rw[W]at j<;>simp only[oC]at j
 case move x=>obtain⟨y,B,rfl⟩:=cM j;exact TA B hs C
 case assign x=>obtain⟨y,B,rfl⟩:=cM j;exact TA B hs C
 case pick c x y =>
  obtain⟨c',B,j⟩:=kW j;obtain⟨N,F,j⟩:=kW j;obtain⟨U,H,rfl⟩:=cM j;exact ybg B F H hs C
 case alloc e=>obtain⟨z,B,rfl⟩:=cM j;exact V9 B hs C
 case box e x=>obtain⟨y,B,rfl⟩:=cM j;exact ZG B hs C
 case build t parts =>
  split at j
  .rename_i fs D;obtain⟨pl,B,j⟩:=kW j;obtain⟨z,F,j⟩:=kW j;split at j
   .rename_i Q;obtain⟨l,H,rfl⟩:=cM j;exact V' D B F Q H hs C
   .cases j
  .rename_i n e D;obtain⟨ie,B,j⟩:=kW j;obtain⟨z,F,j⟩:=kW j;split at j
   .rename_i Q;obtain⟨l,H,rfl⟩:=cM j;exact Xt D B F Q H hs C
   .cases j
  .cases j
 case buildSlice t n parts =>
  split at j
  .rename_i e D;obtain⟨z,B,j⟩:=kW j;obtain⟨l,F,rfl⟩:=cM j;exact Xs D B F hs C
  .cases j
 case load t x =>
  obtain⟨y,B,j⟩:=kW j;split at j
  .rename_i J;cases j;exact ybi B J hs C
  .cases j
 case store t p x =>
  obtain⟨q,B,j⟩:=kW j;obtain⟨y,F,j⟩:=kW j;split at j
  .rename_i J;cases j;have:v=.undef:=by
    simp only[bX]at C
    (repeat' split at C)<;>first|cases C;rfl|cases C
   subst this;exact Wi B F J hs C
  .cases j
 case nilCheck x=>obtain⟨y,B,rfl⟩:=cM j;exact Wg B hs C
 case binOp op t x y t2 =>
  obtain⟨N,B,j⟩:=kW j;obtain⟨U,F,j⟩:=kW j;split at j
  .cases j;exact ybk B F hs C
  .rename_i D;cases j;exact ybm D B F hs C
  .rename_i D;exact We D B F j hs C
  .obtain⟨ks,H,rfl⟩:=cM j;exact ybn H B F hs C
 case unOp op t x =>
  obtain⟨N,B,j⟩:=kW j;split at j
  .cases j;exact Zi B hs C
  .cases j;exact Zh B hs C
  .cases j;exact ybj B hs C
  .cases j
 case convert s t x =>
  obtain⟨N,B,j⟩:=kW j;split at j
  .rename_i F H;cases j;exact ybl F H B hs C
  .cases j
 case makeFunc fn first ag =>
  unfold C6 at j;split at j
  .rename_i f;split at j
   .rename_i h0;obtain⟨l,B,rfl⟩:=cM j;have:first = #[]:=Array.eq_empty_of_size_eq_zero h0
    subst this;exact ybh B hs C
   .cases j
  .cases j
 case makeSlice t l c =>
  split at j
  .rename_i e D;obtain⟨Y,B,j⟩:=kW j;obtain⟨c',F,j⟩:=kW j;obtain⟨z,H,j⟩:=kW j;split at j
   .rename_i hb;cases j;exact Ud D H hb B F hs C
   .cases j
  .cases j
 case slice t x lo hi mx =>
  unfold De at j;split at j
  .cases j
  .split at j
   .rename_i e D;split at j
    .rename_i ad;obtain⟨N,B,j⟩:=kW j;obtain⟨ao,F,j⟩:=kW j;obtain⟨al,H,rfl⟩:=cM j;have V:∀ {y:Option Operand} {U:Option bL},HS y=some U->(y=none/\U=none)\/∃ l Y,y=some l/\U=some Y/\dJ l=some Y:=by
      intro y U h;cases y with
      | none=>simp[HS]at h;exact .inl ⟨rfl,h.symm⟩
      | some l=>obtain⟨Y,h4,rfl⟩:=cM h;exact .inr ⟨l,Y,rfl,rfl,h4⟩
     exact Wh D ad B (V F) (V H) hs C
    .cases j
   .cases j
 case fieldAddr s x f =>
  split at j
  .rename_i fs D;split at j
   .rename_i fd hf;split at j
    .rename_i hp;obtain⟨N,B,rfl⟩:=cM j;exact Wb D hf hp B hs C
    .cases j
   .cases j
  .cases j
 case field s x f =>
  split at j
  .rename_i fs D;split at j
   .rename_i fd hf;split at j
    .rename_i J;obtain⟨N,B,rfl⟩:=cM j;exact Wc D hf J B hs C
    .cases j
   .cases j
  .cases j
 case indexAddr t x i =>
  split at j
  .rename_i e D;split at j
   .rename_i hi;obtain⟨N,B,j⟩:=kW j;obtain⟨i',F,rfl⟩:=cM j;exact Wd D hi B F hs C
   .cases j
  .rename_i n e D;split at j
   .rename_i hi;obtain⟨N,B,j⟩:=kW j;obtain⟨i',F,rfl⟩:=cM j;exact Xu D hi B F hs C
   .cases j
  .cases j
 case index t x i =>
  split at j
  .rename_i n e D;split at j
   .rename_i J;obtain⟨N,B,j⟩:=kW j;obtain⟨i',F,rfl⟩:=cM j;exact Zf D J B F hs C
   .cases j
  .rename_i D;obtain⟨N,B,j⟩:=kW j;obtain⟨i',F,rfl⟩:=cM j;exact ybf D B F hs C
  .cases j
 case extract x i=>obtain⟨N,B,rfl⟩:=cM j;exact Uc B hs C
 case call c =>
  obtain⟨as,B,j⟩:=kW j;have G:c.args.map a.eval=((c.args.toList).map a.eval).toArray:=by simp[<- Array.toList_map]
  unfold A5 at j;split at j
  .rename_i f E;exact(hn c f W E).elim
  .cases j
  .rename_i b E;split at j
   .split at j
    .rename_i x;split at j
     .rename_i J;cases j;obtain⟨R,L,M⟩:∃ R,c.args.toList=[R]/\dJ R=some x:=by
       cases S:c.args.toList with
       | nil=>rw[S]at B;simp[oP]at B
       | cons y ys =>
        rw[S]at B;simp only[oP]at B;split at B
        .rename_i p q e1 e2;cases B;cases ys with
         | nil=>exact⟨y,rfl,e1⟩
         | cons z zs=>simp only[oP]at e2;split at e2<;>cases e2
        .cases B
      have:=Zg (args:=c.argTypes) (ty:=o.type) J M hs C;simpa[resolve,E,invoke,builtin,G,L]using this
     .cases j
    .cases j
   .split at j
    .rename_i x y t u H h4;split at j
     .rename_i e D;split at j
      .rename_i I;obtain⟨g1,g2,g3⟩:=I;cases j;obtain⟨R,y0,S,hx,hy⟩:=N8 B;obtain⟨z0,O,af⟩:=Option.map_eq_some_iff.1 g2;have:=Xr (A:=c.argTypes) (ty:=o.type) H h4 D g1 (by rw[O];rfl) g3 (λz Q=>by rw[O]at Q;cases Q;exact af) hx hy hs C;simpa[resolve,E,invoke,builtin,G,S]using this
      .split at j
       .rename_i I;obtain⟨g1,g2,g3⟩:=I;obtain⟨z0,O,rfl⟩:=cM j;obtain⟨R,y0,S,hx,hy⟩:=N8 B;obtain⟨k,hk⟩:∃ k,P.underlying u=some (.int k):=by
         cases X:P.underlying u with
         | none=>simp[X,Mr]at g1
         | some d=>cases d<;>simp[X,Mr]at g1;exact⟨_,rfl⟩
        have:=Ub (A:=c.argTypes) (ty:=o.type) H h4 D hk O g3 hx hy hs C;simpa[resolve,E,invoke,builtin,G,S]using this
       .cases j
     .cases j
    .cases j
   .split at j
    .rename_i x;split at j
     .rename_i J;cases j;obtain⟨R,L,M⟩:=RI B;have:=ZH (args:=c.argTypes) (ty:=o.type) J M hs C;simpa[resolve,E,invoke,builtin,G,L]using this
     .cases j
    .cases j
   .split at j
    .rename_i x t H;split at j
     .rename_i e D;obtain⟨z,Q,rfl⟩:=cM j;obtain⟨R,L,M⟩:=RI B;have:=Wa (A:=c.argTypes) (ty:=o.type) H D Q M hs C;simpa[resolve,E,invoke,builtin,G,L]using this
     .cases j
    .cases j
   .cases j;simp only[bX]at C;split at C
    .rename_i r hr;simp only[Option.some.injEq,Prod.mk.injEq]at C;obtain⟨rfl,rfl⟩:=C;have:=Pz (P:=P) (mx:=false) (args:=c.argTypes) (ty:=o.type) B hs hr;simpa[resolve,E,invoke,builtin]using this
    .cases C
   .cases j;simp only[bX]at C;split at C
    .rename_i r hr;simp only[Option.some.injEq,Prod.mk.injEq]at C;obtain⟨rfl,rfl⟩:=C;have:=Pz (P:=P) (mx:=true) (args:=c.argTypes) (ty:=o.type) B hs hr;simpa[resolve,E,invoke,builtin]using this
    .cases C
   .cases j
 case lookup t m k b=>exact Wf j hs C
 all_goals first|(cases j;done)|(cases j;simp only[bX]at C;cases C)
def Fj{f:FuncId}{args:Array Value}(h:∃ b,P.funcs[f]?=some b/\b.body.isSome=true/\b.name ≠ "runtime.NumGoroutine"):(callFunc f args).run P w=.ok (.enter f args) w:=by obtain⟨b,i,j,k⟩:=h;simp[callFunc,i,k];intro l;simp[l]at j
def bI.ok(P:Program)(c:bI):Prop :=
 match c.res with
 | .oa vs hp res iJ=>kO P c.f vs hp none res iJ none
 | _=>match c.tn with
  | none=>Sp P c.f c.args c.res
  | some (i,sz,b)=>jD P c.f c.args i sz b c.res
def Fk{f:FuncId}{vs:List AV}(b:xn orc st d f vs=some (v,st')):∃ c,orc=some c/\f=c.f/\Ay c st vs/\yq c st d vs=some (v,st'):=by
 unfold xn at b;split at b
 .rename_i c;by_cases h:f=c.f/\Ay c st vs
  .rw[aW h]at b;exact⟨c,rfl,h.1,h.2,b⟩
  .rw[aY h]at b;cases b
 .cases b
def Av:RV->Bool
 | .oa _ _ _ _=>true
 | _=>false
def Fu{c:bI}(h:Av c.res=false)(st:St)(vs:List AV):Ay c st vs=(vs.mapM (bE st aZ)=some c.args):=by unfold Ay;cases b:c.res<;>first|rfl|(rw[b]at h;cases h)
def LU{c:bI}(h:Av c.res=false)(st:St)(d:Nat)(vs:List AV):yq c st d vs=match c.tn with|none=>yr c st d (vs.flatMap (aO st aZ))|some (i,sz,b)=>za c i sz b st vs:=by unfold yq;cases f:c.res<;>first|rfl|(rw[f]at h;cases h)
def Ya{c:bI}(h:Av c.res=false):bI.ok P c=match c.tn with|none=>Sp P c.f c.args c.res|some (i,sz,b)=>jD P c.f c.args i sz b c.res:=by unfold bI.ok;cases j:c.res<;>first|rfl|(rw[j]at h;cases h)
theorem G3{α β : Type}{f : α -> Option β}:∀ {xs:List α} {r:List β},xs.mapM f=some r->∀ (j:Nat) (x : α),xs[j]?=some x->∃ y,r[j]?=some y/\f x=some y
 | [],r,_,j,x,b=>by simp at b
 | z::xs,r,h,j,x,b=>by
  obtain⟨y,l,i,k,rfl⟩:=DA h;cases j with
  | zero=>simp at b;subst b;exact⟨y,rfl,i⟩
  | succ j=>simpa using G3 k j x (by simpa using b)
theorem VQ{n s g off b:Nat}:bE st (n+1) (.own s g off b)=match st.obj s g with
  | some o=>if off+b<=o.es.length then(((o.es.drop off).take b).mapM (bE st n)).map .sl else none
  | none=>none:=rfl
theorem VR{n s g b off:Nat}:bE st (n+1) (.ptr s g b off)=if b=0/\off=0 then match st.obj s g with
   | some o=>match o.es with
    | [e]=>(bE st n e).map .ref
    | _=>none
   | none=>none
   else none:=rfl
def yal{vs:List AV}{vals:List Value}{args:List PV}{s g E i:Nat}{sl:Bool}{o:bD}{ids:List (Nat × Nat)}(hs:bC K Z st w)(S:aG Z st vs vals)(R:vs.mapM (bE st aZ)=some args)(A:AG vs[i]?=some (s,g,E,sl))(r:st.obj s g=some o)(l:E=o.es.length)
  (u:ids=(vs.eraseIdx i).flatMap (aO st aZ)++o.es.flatMap (aO st 5)) (J:(s,g)∉ids) :
  ∃ es,sg (Mx Z st w ids) w (Z.B s g) (Z.cap s g) o.sz es/\es.length=o.es.length/\∀ p,args[i]?=some p->∃ x,vals[i]?=some x/\CC p es (Z.B s g) (Z.cap s g) x:=by
 have m:=hs.bR s g o r;have D:∀ es,o.es.mapM (bE st 5)=some es->sg (Mx Z st w ids) w (Z.B s g) (Z.cap s g) o.sz es:=by
  intro es j;have l:=BM j;cases k:Z.B s g with
  | none =>
   have Y:=m.xt k;rw[Y]at j;have:=Dz j;subst this;exact⟨m.pos,by simp,by simp,λ_=>rfl,λb k=>by cases k⟩
  | some b =>
   obtain⟨G,T,vals,k1,k2,k3,k4,k5,k6⟩:=m.bU b k;obtain⟨r1,r2,r3⟩:=E9 (w:=w) (n:=5) (ids:=ids) m.pos (AL hs ids 5) k2 j m.jC m.one (λi hi=>by rw[u];exact dT.2 (.inr hi));refine⟨m.pos,r2,r3,λ(h:some b=none)=>(by cases h),λb' H=>?_⟩;cases H;refine⟨?_,G,T,vals,k1,r1,k3,k4,by omega,k6⟩;cases I:Mx Z st w ids b with
   | none=>rfl
   | some y =>
    exfalso;obtain h|⟨_,_,s',X,ob,U,V,W⟩:=rJ I
    .rw[hs.sep s g o b r k]at h;cases h
    .obtain⟨rfl,rfl⟩:=hs.inj s g s' X o ob b r V k W;exact J U
 obtain⟨C,_⟩|⟨C,af,_⟩:=Qo A
 .obtain⟨p,M,f⟩:=G3 R i _ C;obtain⟨x,N,t⟩:=S.get i _ C;rw[aZ,VQ]at f;simp only[r,qW,yJ]at f;rw[aW (by omega),fK (by omega)]at f;obtain⟨es,j,rfl⟩:=wa.1 f;have Q:=BM j;refine⟨es,D es j,Q,λq F=>⟨x,N,?_⟩⟩;rw[M]at F;cases F;refine .inl ⟨rfl,?_⟩;cases t with
  | dU _ _ o' L k=>rw[k]
  | own _ _ _ _ o' b ad c L k h1 h2 h3 h4 =>
   obtain⟨rfl,rfl⟩:=h1 rfl;rw[k,Q,<- l]
  | eN _ _ _ _ _ _ _ hd=>exact(vv r hd).elim
 .obtain⟨p,M,f⟩:=G3 R i _ C;obtain⟨x,N,t⟩:=S.get i _ C;rw[aZ,VR]at f;simp only[r,and_self,cB]at f;split at f
  .rename_i e O;obtain⟨q,F,rfl⟩:=wa.1 f;refine⟨[q],D [q] (by rw[O];simp[F]),by rw[O];rfl,λq' z=>⟨x,N,?_⟩⟩;rw[M]at z;cases z;obtain⟨b,k,rfl⟩:=AT t r;exact .inr ⟨q,b,rfl,rfl,k,by simp⟩
  .cases f
theorem ZD{o:Oper}{i:c7}{I:Call}{f:Operand}(hc:oC P o.op=some i)(af:o.op=.call I)(hf:I.callee=.value f)(hs:aN K Z st w a)(V:bX orc st d i=some (v,st'))(al:∀ c,orc=some c->c.ok P)
  {next:Act->World->Prop} {Q:Exit->Act->World->Prop} (D:∀ w' Z' x,bC K Z' st' w'->aM Z' st' v x->cO Z st Z' st'->next (a.put o.dst x) w'):o.wp P a w next Q:=by
 obtain⟨as,ag,y⟩:∃ as,oP I.args.toList=some as/\A5 P I.callee I.argTypes as=some i:=by rw[af]at hc;simp only[oC]at hc;obtain⟨as,O,R⟩:=kW hc;exact⟨as,O,R⟩
 have hr:=BC ag hs;have U:I.args.map a.eval=((I.args.toList).map a.eval).toArray:=by simp[<- Array.toList_map]
 obtain⟨c,m,n,X,bb,aw,L,l⟩:∃ (c:bI) (m:List AV) (n:List Value),orc=some c/\a.eval f=.func (.func c.f) #[] n.toArray/\aG Z st m n /\
   Ay c st (as.map st.ev++m)/\yq c st d (as.map st.ev++m)=some (v,st'):=by
  rw[hf]at y;simp only[A5]at y;split at y
  .rename_i g hg;cases y;have A:=fD hg hs;simp only[St.ev]at A;simp only[bX]at V;obtain⟨c,O,R,Y,h4⟩:=Fk V;subst R;have G:=A.cA;generalize a.eval f=F at G ⊢;cases G with
   | fn _ _ H h=>cases h;exact⟨c,[],[],O,rfl,.nil,by simpa using Y,by simpa using h4⟩
  .rename_i f' hg;cases y;have A:=fD hg hs;simp only[bX]at V;split at V
   .rename_i g m W;rw[W]at A;obtain⟨c,O,R,Y,h4⟩:=Fk V;subst R;have G:=A.cA;generalize a.eval f=F at G ⊢;cases G with
    | fn _ _ H h=>exact⟨c,m.map .p,H,O,rfl,aG.lS h,Y,h4⟩
   .rename_i g m W;rw[W]at A;obtain⟨c,O,R,Y,h4⟩:=Fk V;subst R;generalize a.eval f=F at A ⊢;cases A with
    | fn _ _ H h=>exact⟨c,m,H,O,rfl,h,Y,h4⟩
   .cases V
  .cases y
 have z:=al c X;have r:=hr.append aw;have J:(∃ fn,P.funcs[c.f]?=some fn/\fn.body.isSome=true/\fn.name ≠ "runtime.NumGoroutine")->(execOp a.eval o).run P w=.ok (.enter c.f ((I.args.toList.map a.eval++n).toArray)) w:=by
  intro C;have:=Fj (P:=P) (w:=w) (args:=(I.args.toList.map a.eval++n).toArray) C;simp only[execOp,af,resolve,hf,bb,Deferred.ofValue,mT,oI,qB,invoke];have e : #[]++I.args.map a.eval++n.toArray=(I.args.toList.map a.eval++n).toArray:=by rw[U];simp
  rw[e];exact this
 unfold Oper.wp;cases hH:Av c.res with
 | true =>
  unfold bI.ok at z;unfold yq at l;unfold Ay at L;cases ao:c.res with
  | oa ct G ca cm =>
   rw[ao]at z l L;simp only at z l L;obtain⟨rfl,_,hk,bk,M⟩:=L;obtain⟨C,oa⟩:=z;rw[J C,DV];simp only[kq]at M;obtain⟨⟨⟨r1,r2⟩,r3⟩,r4⟩:=M;have E:∀ s,(G.map (·.1)).contains s=true->st.site s=look G s []:=λs hs=>by obtain⟨q,hq,rfl⟩:=cD.1 (DW.1 hs);exact G9 hk q hq
   obtain⟨u1,u2⟩:=Ot (o:=none) E r2 hs.heap trivial;refine(oa Z w _ u1 u2 (aG.gN (st:=st) (st2:=⟨[],G⟩) (Z2:=Z) (λs h=>(E s h).symm) (λ_ _ h=>h) (λ_ _ _=>⟨rfl,rfl⟩) r r1)).mono ?_;rintro e w' ⟨x,Z',rfl,p1,p2,p3,p4⟩;obtain⟨Z2,q1,q2,q3,q4,q5⟩:=Pr rfl bk E r4 (by cases ca with|av v=>exact r3|fr _ _=>rfl|bx _ _ _=>exact(Bool.and_eq_true_iff.1 r3).2) hs.heap (o:=none) (o':=none) trivial p1 p2 p3 p4;obtain⟨Z3,v1,cs,e1,t1,t2,t3,t4,t5,t6⟩:=sh.take (dd:=d) q1 q2 r3 hs.heap.keep.size q5 (λb hb=>hb.elim);rw[e1]at l;simp only[cF,dA]at l;obtain⟨rfl,rfl⟩:=l;exact D w' Z3 x t1 t2 (q3.trans t4)
  | _=>rw[ao]at hH;cases hH
 | false =>
 rw[Fu hH]at L;rw[LU hH]at l;rw[Ya hH]at z;cases au:c.tn with
 | none =>
  rw[au]at z l;obtain⟨C,oa⟩:=z;rw[J C,DV];have G:=E3 (w:=w) (AL hs.heap ((as.map st.ev++m).flatMap (aO st aZ)) aZ) r L (λi hi=>hi);refine(oa w _ _ (λb ob hb=>?_) G).mono ?_
  .obtain h|⟨_,h,_⟩:=rJ hb
   .exact hs.heap.mem b ob h
   .exact h
  .rintro e w' ⟨x,M',rfl,p1,p2,p3,p4,p5⟩;obtain⟨Z',q1,q2,q3⟩:=Ou (vs:=as.map st.ev++m) hs.heap p1 p2 p3 p4 p5 l;exact D w' Z' x q1 q2 q3
 | some t =>
  obtain⟨i,sz,ce⟩:=t;rw[au]at z l;obtain⟨C,oa⟩:=z;simp only at oa l;rw[J C,DV];obtain⟨s,g,cp,sl,ob,ap,ho,hi,N,cf,aq,ad,hv,br⟩:=QE l;generalize co:as.map st.ev++m=vs at *
  obtain⟨es,m1,m2,m3⟩:=yal hs.heap r L ap ho N rfl ad;rw[aq]at m1;have S:vs.length=c.args.length:=(BM L).symm;have bu:(I.args.toList.map a.eval++n).length=c.args.length:=by rw[<- S];exact r.length
  refine(oa w _ _ (Z.B s g) (Z.cap s g) es (λb ob hb=>?_) bu m3 (by rw[<- S];exact hi) m1 (λj p hj G=>?_)).mono ?_
  .obtain h|⟨_,h,_⟩:=rJ hb
   .exact hs.heap.mem b ob h
   .exact h
  .obtain⟨u,hu⟩:∃ u,vs[j]?=some u:=by
    have:j<vs.length:=by rw[S];exact(iR.1 G).1
    exact⟨vs[j],dF this⟩
   obtain⟨q,hq,bt⟩:=G3 L j u hu;rw[G]at hq;cases hq;obtain⟨x,hx,bo⟩:=r.get j u hu;refine⟨x,hx,AL hs.heap _ aZ u x p bo bt (λk hk=>dT.2 (.inl (kv.2 ⟨u,?_,hk⟩)))⟩;rw[List.mem_eraseIdx_iff_getElem?];exact⟨j,hj,hu⟩
  .rintro e w' ⟨x,M',rfl,p1,p2,p3,p4,p5,p6,p7⟩;obtain⟨Z',q1,q2,q3⟩:=Xm (vs:=vs) hs.heap ho N aq ad p1 p2 p3 p4 (by rw[p5,m2]) p6 (by rw[m2]at p7;exact p7) hv br;exact D w' Z' x q1 q2 q3
end
end Go.Ab
