/- Lemmas for the law ProjectAppliesMadeModels, part 2. No conditions. -/
import Derived.Test.YthhdboljpgdcpaaGreatDoorDP01
import Derived.Scope
set_option maxRecDepth 100000
set_option maxHeartbeats 4000000
set_option linter.all false
namespace Go.Ab
section
variable {P:Program} {K:Ctx} {Z Z':Cz} {st st' st2:St} {w w':World} {a:Act} {orc:Option bJ} {d:Nat} {v:AV}
def sC{s t:St}(h:∀ i,t.site i=s.site i)(Z:Cz):cP Z s Z t :=
 ⟨λ_ _ h=>h,λi=>by rw[h];exact dE _,λi g _ b=>by rw[fB (h i)];exact b,λi g o f=>.inr ⟨o,by rw[fB (h i)];exact f,rfl,rfl,rfl,rfl⟩⟩
def bG.jl(h:bG K Z st w)(e:∀ i,st2.site i=st.site i):bG K Z st2 w:=by
 have k:∀ s g,st2.obj s g=st.obj s g:=λs g=>fB (e s);refine⟨λs g o f=>?_,λs g s' g' o o' b f j=>?_,h.mem,λs g o b f=>?_,λs g o b f=>?_,h.m0,h.eM,h.keep⟩
 .rw[k]at f;obtain⟨l,m,h3,n,p⟩:=h.bT s g o f;refine⟨l,m,h3,n,λb r=>?_⟩;obtain⟨cur,T,vals,t,u,z⟩:=p b r;exact⟨cur,T,vals,t,aG.mono (sC e Z) u,z⟩
 .rw[k]at f j;exact h.inj s g s' g' o o' b f j
 .rw[k]at f;exact h.sep s g o b f
 .rw[k]at f;exact h.own s g o b f
def aN.eqv(h:aN K Z st w a)(e:iw st st2):aN K Z st2 w a :=
 ⟨λt=>by rw[e.get];exact aQ.mono (sC e.site Z) (h.aY t),h.defers,h.size,h.heap.jl e.site⟩
def bC:Nat:=999998
def fU:Nat:=900000
structure cY (Z:Cz) (st:St) (Z':Cz) (st':St):Prop where
 len:∀ s,fU<=s->s<999999->(st.site s).length<=(st'.site s).length
 dead:∀ s g,fU<=s->s<999999->g<(st.site s).length->st.obj s g=none->st'.obj s g=none
 live:∀ s g o,fU<=s->s<999999->st.obj s g=some o->st'.obj s g=none\/∃ o',st'.obj s g=some o'/\o'.sz=o.sz/\o'.es.length=o.es.length/\Z'.B s g=Z.B s g/\Z'.cap s g=Z.cap s g
def cY.dW{Z':Cz}{st':St}(h:cP Z st Z' st'):cY Z st Z' st':=⟨λs _ _=>h.len s,λs g _ _=>h.dead s g,λs g o _ _=>h.live s g o⟩
def cY.refl(Z:Cz)(st:St):cY Z st Z st:=.dW (cP.refl Z st)
theorem cY.trans{j Z2 l:Cz}{s1 p r:St}(h:cY j s1 Z2 p)(k:cY Z2 p l r):cY j s1 l r:=by
 refine⟨λs a b=>dM (h.len s a b) (k.len s a b),λs g a b m hd=>k.dead s g a b (iL m (h.len s a b)) (h.dead s g a b m hd),λs g o a b n=>?_⟩;obtain hd|⟨o',f,t,u,z,A⟩:=h.live s g o a b n
 .exact .inl (k.dead s g a b (iL (nQ n) (h.len s a b)) hd)
 .obtain hd|⟨F,i,B,C,D,E⟩:=k.live s g o' a b f
  .exact .inl hd
  .exact .inr ⟨F,i,B.trans t,C.trans u,D.trans z,E.trans A⟩
def A3(ops:Array Oper):Option (Nat × Bool)->Option (Option (Nat × Bool))
 | none=>some none
 | some (j,b)=>match (ops[j]?).bind (·.dst)with
  | some t=>some (some (t,b))
  | none=>none
def Gy(N:Nat):Option Nat->Bool
 | none=>true
 | some d=>d<N
def xL(P:Program)(N:Nat)(ops:Array Oper)(o:Oper):Option Ins :=
 match oD P o.op,A3 ops o.guard with
 | some i,some g=>if Gy N o.dst=true then some ⟨o.dst,i,g⟩else none
 | _,_=>none
def CO(P:Program)(N:Nat)(ops:Array Oper):List Oper->Option (List Ins)
 | []=>some []
 | o::r=>match xL P N ops o,CO P N ops r with
  | some i,some l=>some (i::l)
  | _,_=>none
def EE{N:Nat}{ops:Array Oper}{o:Oper}{x:Ins}(h:xL P N ops o=some x) :
  oD P o.op=some x.op/\A3 ops o.guard=some x.guard/\x.dst=o.dst/\Gy N o.dst=true:=by
 unfold xL at h;split at h
 .rename_i i g b f;split at h
  .rename_i j;cases h;exact⟨b,f,rfl,j⟩
  .cases h
 .cases h
theorem aN.put{dst:Option Nat}{x:Value}{w2:World}(hs:aN K Z st w a)(j:st'.sl=st.sl)(hz:cP Z st Z' st')(k:bG K Z' st' w2)(l:aQ Z' st' v x)(hd:Gy K.N dst=true)(f:a.defers=[]) :
  aN K Z' (st'.put dst v) w2 (a.put dst x):=by
 have b:∀ {u:AV} {y:Value},aQ Z' st' u y->aQ Z' (st'.put dst v) u y:=λh=>aQ.mono (sC (λi=>pT _ _ _ i) Z') h;refine⟨λt=>?_,?_,?_,k.jl (λi=>pT _ _ _ i)⟩
 .rw[xM];cases dst with
  | none=>simp only[reduceCtorEq,fQ,Act.put];rw[AB j];exact b (aQ.mono hz (hs.aY t))
  | some d =>
   simp only[Gy,decide_eq_true_eq]at hd;simp only[cD,Act.put];split
   .rename_i h;subst h;have:(a.tmps.setIfInBounds d x).getD d Go.undef=x:=by simp[hs.size,hd]
    rw[this];exact b l
   .rename_i h;have:(a.tmps.setIfInBounds d x).getD t Go.undef=a.tmps.getD t Go.undef:=by simp[Array.getElem?_setIfInBounds_ne h]
    rw[this,AB j];exact b (aQ.mono hz (hs.aY t))
 .cases dst<;>exact f
 .cases dst<;>simp[Act.put,hs.size]
def xH(P:Program)(orc:Option bJ):Prop:=∀ c,orc=some c->c.ok P
theorem ZH{i:c7}(h:bY orc st d i=some (v,st')):st'.sl=st.sl:=by obtain⟨b,j,f⟩:=LW (st2:=st) h (λ_ _=>rfl) (λ_ _=>rfl);exact f.2.2.2.2.1
theorem Pt{o:Oper}{x:Ins}{Q:Exit->Act->World->Prop}{Kt:Act->World->Prop}(z:oD P o.op=some x.op)(A:x.dst=o.dst)(B:Gy K.N o.dst=true)(hs:aN K Z st w a)(k:xH P orc)
  (p:tM orc st x=some st') (m:∀ Z' w' t,aN K Z' st' w' t->cY Z st Z' st'->Kt t w'):o.wp P a w Kt Q:=by
 unfold tM at p;split at p
 .rename_i v s h;cases p;have l:=ZH h;by_cases b:∃ c f,o.op=.call c/\c.callee=.value f
  .obtain⟨c,f,j,r⟩:=b;refine yg6 z j r hs h k (λw' Z' y H I C=>?_);rw[A]at m;exact m _ _ _ (hs.put l C H I B hs.defers) (.dW (C.trans (sC (λi=>pT _ _ _ i) _)))
  .obtain⟨n,y,w',Z',D,E,F,G,u⟩:=ZG z (λc f j r=>b ⟨c,f,j,r⟩) hs h;unfold Oper.wp;rw[D];rw[A]at m;have:=m _ _ _ (hs.put l u F G B hs.defers) (.dW (u.trans (sC (λi=>pT _ _ _ i) _)));obtain rfl|⟨rfl,rfl⟩:=E
   .exact this
   .exact this
 .cases p
theorem HD{ops:Array Oper}{i:Nat}{o:Oper}{x:Ins}{Q:Exit->Act->World->Prop}{Kt:Act->World->Prop}(I:ops[i]?=some o)(H:xL P K.N ops o=some x)(hs:aN K Z st w a)(m:xH P orc)
  (f:exec orc st x=some st') (u:∀ Z' w' D,aN K Z' st' w' D->cY Z st Z' st'->Kt D w'):wpOp P ops Q i Kt a w:=by
 obtain⟨E,l,A,B⟩:=EE H;unfold wpOp;simp only[I];have skip:st'=st.put x.dst .skip->Kt (a.put o.dst Go.undef) w:=by rintro rfl;rw[A]at u;exact u _ _ _ (hs.put rfl (cP.refl Z st) hs.heap .skip B hs.defers) (.dW (sC (λi=>pT _ _ _ i) _))
 unfold exec at f;cases s:o.guard with
 | none =>
  rw[s]at l;simp only[A3,cD]at l;rw[<- l]at f;have r:Region.wanted o (yielded ops a.tmps)=true:=by simp[Region.wanted,s]
  simp only[r,cH];exact .inl (Pt E A B hs m f u)
 | some J =>
  obtain⟨j,b⟩:=J;rw[s]at l;simp only[A3]at l;split at l
  .rename_i t F;simp only[cD]at l;rw[<- l]at f;have k:=hs.aY t;simp only at f;split at f
   .rename_i c n;rw[n]at k;have C:=k.fT;have z:yielded ops a.tmps j=some c:=by
     have:a.tmps[t]?=some (.bool c):=by
      cases h:a.tmps[t]? with
      | none=>simp[h,Go.undef]at C
      | some y=>simp[h]at C;rw[C]
     simp[yielded,F,this]
    split at f
    .rename_i p;have r:Region.wanted o (yielded ops a.tmps)=true:=by simp[Region.wanted,s,z,p]
     simp only[r,cH];exact .inl (Pt E A B hs m f u)
    .rename_i p;have r:Region.wanted o (yielded ops a.tmps)=false:=by simp[Region.wanted,s,z,p]
     simp only[r,gP,fQ];cases f;exact skip rfl
   .rename_i n;rw[n]at k;have G:a.tmps.getD t Go.undef=Go.undef:=by generalize a.tmps.getD t Go.undef=y at k ⊢;cases k;rfl
    have z:yielded ops a.tmps j=none:=by
     simp only[yielded,F,Option.bind_some];cases h:a.tmps[t]? with
     | none=>rfl
     | some y=>simp[h]at G;rw[G];rfl
    have r:Region.wanted o (yielded ops a.tmps)=false:=by simp[Region.wanted,s,z]
    simp only[r,gP,fQ];cases f;exact skip rfl
   .cases f
  .cases l
end
inductive rK (P:Program):List Ins->List FP->St->St->Prop
 | nil (st:St):rK P [] [] st st
 | cons (orc:Option bJ) (i:Ins) (is:List Ins) (f:FP) (fs:List FP) (st s1 st':St):xH P orc->exec orc st i=some s1->(fp orc st i).Sub f->rK P is fs s1 st'->rK P (i::is) (f::fs) st st'
section
variable {P:Program} {K:Ctx} {Z Z':Cz} {st st' st2:St} {w w':World} {a:Act} {orc:Option bJ} {d:Nat} {v:AV} {ops:Array Oper} {Q:Exit->Act->World->Prop}
theorem rK.items:∀ {is:List Ins} {fs:List FP} {st st':St},rK P is fs st st'->∃ items:List Item,items.map (·.1.2)=is/\items.map (·.2)=fs/\(∀ x∈items,xH P x.1.1)/\fX items st st'
 | _,_,_,_,.nil st=>⟨[],rfl,rfl,by simp,.nil st⟩
 | _,_,_,_,.cons orc i is f fs st s1 st' m n o h3=>by obtain⟨items,b,j,k,l⟩:=rK.items h3;exact⟨((orc,i),f)::items,by simp[b],by simp[j],λx p=>(cI.1 p).elim (λh=>h ▸ m) (k x),.cons _ _ _ _ _ n o l⟩
theorem Qk{it:Nat->Item}:∀ (R:List Nat) {st:St} {Z:Cz} {w:World} {a:Act},(∀ i∈R,∃ o,ops[i]?=some o/\xL P K.N ops o=some (it i).1.2/\xH P (it i).1.1)->fX (R.map it) st st'->aN K Z st w a ->
  (∀ Z' w' b,aN K Z' st' w' b->cY Z st Z' st'->Q .normal b w')->wpOps P ops Q R a w
 | [],st,Z,w,a,_,h,l,f=>by cases h;exact f _ _ _ l (cY.refl _ _)
 | i::R,st,Z,w,a,p,h,l,f=>by
  rw[jH]at h;cases h with
  | cons _ _ _ s1 _ A E B =>
   obtain⟨o,t,u,z⟩:=p i (by simp);rw[wpOps_cons];exact HD t u l z A (λZ' w' b m D=>Qk R (λj C=>p j (by simp[C])) B m (λr w2 s n k=>f r w2 s n (D.trans k)))
def oZ(b:Region.Mode)(ops:Array Oper):List Nat->List Nat->Bool
 | [],seen=>(List.range ops.size).all (seen.contains ·)
 | x::r,seen=>(match ops[x]? with
  | some o=>o.after.toList.all λe=>!Region.binds b e||seen.contains e.on
  | none=>false)&&oZ b ops r (x::seen)
theorem ML{u:Region.Mode}{b:Array Bool}:∀ (L seen:List Nat),b.size=ops.size->oZ u ops L seen=true->(∀ x∈seen,b.getD x false=true)->(∃ i,i<ops.size/\b.getD i true=false)->Region.ready u ops b≠[]
 | [],seen,_,h,k,⟨i,D,n⟩=>by
  simp only[oZ,List.all_eq_true,List.mem_range]at h;have f:=k i (by simpa using h i D);obtain l|l:=Nat.lt_or_ge i b.size
  .simp[l]at f n;rw[f]at n;cases n
  .simp[E1 l]at f
 | x::r,seen,j,h,k,m=>by
  simp only[oZ,jO]at h;obtain⟨f,A⟩:=h;split at f
  .rename_i o z;cases s:b.getD x true with
   | false =>
    intro E;have:x∈Region.ready u ops b:=mem_ready.2 ⟨s,o,z,λe C B=>by
     have:=List.all_eq_true.1 f e (by simpa using C);simp[B]at this;exact k _ this⟩
    rw[E]at this;cases this
   | true =>
    have p:x<b.size:=by rw[j];exact(sH.1 z).1
    refine ML r (x::seen) j A (λy t=>?_) m;obtain rfl|t:=cI.1 t
    .simp[p]at s ⊢;exact s
    .exact k y t
  .cases f
def Pn{b:Region.Mode}{e:Edge}(h:Region.binds .any e=true):Region.binds b e=true:=by unfold Region.binds at h ⊢;cases f:e.ground<;>simp_all
inductive xF (ops:Array Oper):Nat->Nat->Prop
 | one {x y:Nat} {o:Oper} {e:Edge}:ops[x]?=some o->e∈o.after->e.on=y->Region.binds .any e=true->xF ops y x
 | more {x y z:Nat} {o:Oper} {e:Edge}:xF ops y z->ops[x]?=some o->e∈o.after->e.on=z->Region.binds .any e=true->xF ops y x
theorem Qj{md:Region.Mode}{it:Nat->Item}{pre:Nat->List Nat}(u:∀ x o,ops[x]?=some o->∀ y∈pre x,xF ops y x)
  (hc:∀ i,i<ops.size->∃ o,ops[i]?=some o/\xL P K.N ops o=some (it i).1.2/\xH P (it i).1.1) {L:List Nat} (m:oZ md ops L []=true) :
  ∀ (n:Nat) (R:List Nat) {b:Array Bool} {st st':St} {Z:Cz} {w:World} {a:Act},R.length=n->R.Nodup->b.size=ops.size->(∀ y z,b.getD z false=true->xF ops y z->b.getD y false=true)->(∀ i,i∈R ↔ i<ops.size/\b.getD i true=false) ->
   R.Pairwise (λy x=>y∈pre x\/yb (it y).2 (it x).2=true)->fX (R.map it) st st'->aN K Z st w a ->
   (∀ Z' w' a',aN K Z' st' w' a'->cY Z st Z' st'->Q .normal a' w')->wpAny P md ops Q n b a w
 | 0,R,b,st,st',Z,w,a,hn,_,l,_,I,_,k,hs,hQ=>by
  have:R=[]:=List.length_eq_zero_iff.1 hn;subst this;refine⟨?_,?_⟩
  .apply TO.2;intro i S;obtain⟨h1,o,p,_⟩:=mem_ready.1 S;have:=(I i).2 ⟨(sH.1 p).1,h1⟩;cases this
  .cases k;exact hQ _ _ _ hs (cY.refl _ _)
 | n+1,R,b,st,st',Z,w,a,hn,al,l,O,I,X,k,hs,hQ=>by
  refine⟨λhr=>?_,λi S=>?_⟩
  .exact absurd hr (ML L [] l m (by simp) (by
    obtain⟨i,S⟩:∃ i,i∈R:=by
     cases R with
     | nil=>simp at hn
     | cons i r=>exact⟨i,by simp⟩
    exact⟨i,(I i).1 S⟩))
  .obtain⟨h1,o,p,h3⟩:=mem_ready.1 S;have ag:=(I i).2 ⟨(sH.1 p).1,h1⟩;obtain⟨ys,xs,rfl⟩:=NC ag;have gd:∀ e∈o.after,Region.binds .any e=true->b.getD e.on false=true:=by
    intro e he hb;have C:=h3 e he (Pn hb);obtain B|B:=pW e.on b.size
    .simp[B]at C ⊢;exact C
    .simp[E1 B]at C
   have s:∀ y,xF ops y i->b.getD y false=true:=by
    intro y A;cases A with
    | one H k2 M k4=>rw[p]at H;cases H;rw[<- M];exact gd _ k2 k4
    | more k0 H k2 M k4=>rw[p]at H;cases H;exact O _ _ (by rw[<- M];exact gd _ k2 k4) k0
   have U:∀ y∈ys,yb (it y).2 (it i).2=true:=by
    intro y A;have:=(tY.1 X).2.2 y A i (by simp);obtain h|h:=this
    .have C:=s y (u i o p y h);have h5:=((I y).1 (by simp[A])).2;obtain B|B:=pW y b.size
     .simp[B]at C h5;rw[C]at h5;cases h5
     .simp[E1 B]at C
    .exact h
   rw[sS,jH]at k;obtain⟨st1,F,t⟩:=fX.front k (λy A=>by obtain⟨z,J,rfl⟩:=cA.1 A;exact U z J);cases F with
   | cons _ _ _ s1 _ H k2 M =>
    obtain⟨o',e1,e2,e3⟩:=hc i (Array.getElem?_eq_some_iff.1 p).1;refine HD e1 e2 hs e3 H (λZ' w' a' G hp=>?_);have f:=List.nodup_append.1 al;have V:i∉ys:=λh=>f.2.2 i h i (by simp) rfl;have W:i∉xs:=(List.nodup_cons.1 f.2.1).1;rw[<- List.map_append]at M;refine Qj u hc m n (ys++xs) (by simp at hn ⊢;omega) ?_ (by simpa using l) ?_ ?_ ?_ M G ?_
    .refine GS.2 ⟨f.1,(uL.1 f.2.1).2,λy A z J=>f.2.2 y A z (by simp[J])⟩
    .intro y z J ad;by_cases Y:y=i
     .subst Y;have E:y<b.size:=by rw[l];exact(sH.1 p).1
      simp[E]
     .rw[getD_set_ne false (wJ Y)];by_cases af:z=i
      .subst af;exact s y ad
      .rw[getD_set_ne false (wJ af)]at J;exact O y z J ad
    .intro j;by_cases D:j=i
     .subst D;have E:j<b.size:=by rw[l];exact(sH.1 p).1
      simp[V,W,E]
     .rw[getD_set_ne true (wJ D),<- I j];simp[D]
    .refine JF ?_ X;exact List.Sublist.append_left (List.sublist_cons_self _ _) _
    .intro Z2 w' a' G ao;refine hQ _ _ _ (G.eqv (iw.symm t)) ((hp.trans ao).trans (.dW (sC (iw.symm t).site _)))
end
def yS(ops:List Oper):List (List Nat):=ops.map λo=>(o.after.toList.filter (Region.binds .any)).map (·.on)
def BB:List Nat->List Nat
 | []=>[]
 | x::l=>if (BB l).contains x then BB l else x::BB l
def xC:List (List Nat)->List (List Nat)->List (List Nat)
 | b,[]=>b
 | b,p::f=>xC (b++[BB (p++p.flatMap λy=>b.getD y [])]) f
def NO(ops:Array Oper):Bool :=
 oZ .any ops (List.range ops.size) []&&(!Region.departs ops||(oZ .text ops (List.range ops.size) []&&oZ .gc ops (Region.linearise .gc ops 0) []))
def comp(P:Program)(N:Nat):Code->Option AC
 | .skip=>some .js
 | .region _ ops f=>if f=true then(if NO ops=true then(CO P N ops ops.toList).map λl=>.fR l (xC [] (yS ops.toList))else none)else(CO P N ops ops.toList).map .cX
 | .seq a b=>match comp P N a,comp P N b with
  | some x,some y=>some (.seq x y)
  | _,_=>none
 | .cond c a b=>match dJ c,comp P N a,comp P N b with
  | some c,some x,some y=>some (.cond c x y)
  | _,_,_=>none
 | .block id b=>(comp P N b).map (.bX id)
 | .loop b=>(comp P N b).map .loop
 | .exit id=>some (.ext id)
 | .ret=>some .ret
 | .label _=>some .js
 | .scope b=>(comp P N b).map .Dp
 | _=>none
def aJ:List (Nat × FP)->Nat->List FP->List (List Nat)->Bool
 | _,_,[],_=>true
 | done,n,f::b,h::nX=>(done.all λ(y,g)=>h.contains y||yb g f)&&aJ ((n,f)::done) (n+1) b nX
 | _,_,_::_,[]=>false
section
variable {P:Program} {K:Ctx} {Z Z':Cz} {st st' st1 st2:St} {w w':World} {a:Act} {orc:Option bJ} {d N:Nat} {v:AV} {ops:Array Oper} {Q:Exit->Act->World->Prop}
theorem K8:∀ {done:List (Nat × FP)} {n:Nat} {i:List FP} {nX:List (List Nat)},aJ done n i nX=true->∀ (x:Nat) (f:FP),i[x]?=some f ->
  (∀ y g,(y,g)∈done->y∈nX.getD x []\/yb g f=true)/\∀ y g,i[y]?=some g->y<x->n+y∈nX.getD x []\/yb g f=true
 | _,_,[],_,_,x,f,b=>by simp at b
 | done,n,l::i,[],h,x,f,b=>by simp[aJ]at h
 | done,n,l::i,s::nX,h,x,f,b=>by
  simp only[aJ,jO,k8]at h;obtain⟨o,p⟩:=h;cases x with
  | zero =>
   simp only[List.getElem?_cons_zero,Option.some.injEq]at b;subst b;refine⟨λy g j=>?_,λy g _ j=>by omega⟩;have:=o (y,g) j;simpa using this
  | succ x =>
   obtain⟨m,r⟩:=K8 p x f (by simpa using b);refine⟨λy g j=>?_,λy g k j=>?_⟩
   .simpa using m y g (by simp[j])
   .cases y with
    | zero =>
     simp only[List.getElem?_cons_zero,Option.some.injEq]at k;subst k;simpa using m n l (by simp)
    | succ y =>
     have:=r y g (by simpa using k) (by omega);simpa[Nat.add_assoc,Nat.add_comm 1]using this
theorem C4:∀ {l:List Oper} {b:List Ins},CO P N ops l=some b->b.length=l.length/\∀ (i:Nat) (o:Oper),l[i]?=some o->∃ x,xL P N ops o=some x/\b[i]?=some x
 | [],b,h=>by simp[CO]at h;subst h;simp
 | o::l,b,h=>by
  simp only[CO]at h;split at h
  .rename_i x r j k;cases h;obtain⟨m,n⟩:=C4 k;refine⟨by simp[m],λi p f=>?_⟩;cases i with
   | zero=>simp at f;subst f;exact⟨x,j,rfl⟩
   | succ i=>simpa using n i p (by simpa using f)
  .cases h
def cU(P:Program)(N:Nat)(ac:AC)(st:St)(ex:Exit)(st':St):Prop :=
 ∀ b,comp P N b=some ac->∀ (K:Ctx) (Z:Cz) (w:World) (a:Act) (Q:Exit->Act->World->Prop),K.N=N->aN K Z st w a->(∀ Z' w' f,aN K Z' st' w' f->cY Z st Z' st'->Q ex f w')->b.wp P Q a w
def aA(st st':St):Prop:=∀ (K:Ctx) (Z:Cz) (w:World) (a:Act),aN K Z st w a->∃ Z',aN K Z' st' w a/\cY Z st Z' st'
theorem aA.refl(st:St):aA st st:=λ_ Z _ _ h=>⟨Z,h,cY.refl _ _⟩
theorem aA.trans(h:aA st st1)(k:aA st1 st2):aA st st2:=λK Z w a hs=>let ⟨Z',f,p⟩:=h K Z w a hs;let ⟨b,i,j⟩:=k K Z' w a f;⟨b,i,p.trans j⟩
def tS:Item:=((none,⟨none,.bad,none⟩),⟨[],[],[],[]⟩)
def LK{k:List Ins}{items:List Item}(l:items.map (·.1.2)=k)(m:∀ x∈items,xH P x.1.1)(p:CO P N ops ops.toList=some k) :
  ∀ i,i<ops.size->∃ o,ops[i]?=some o/\xL P N ops o=some (items.getD i tS).1.2/\xH P (items.getD i tS).1.1:=by
 intro i j;obtain⟨r,n⟩:=C4 p;have s:ops[i]?=some ops[i]:=Array.getElem?_eq_getElem j;obtain⟨x,t,f⟩:=n i ops[i] (by simp[j]);have h:items.length=k.length:=by rw[<- l];simp
 have b:i<items.length:=by rw[h,r];simpa using j
 refine⟨ops[i],s,?_,?_⟩
 .rw[<- l]at f;simp[b]at f;rw[t,<- f];simp[b]
 .have:items.getD i tS=items[i]:=by simp[b]
  rw[this];exact m _ (bU b)
def M3{α : Type}(l:List α)(d : α)(n:Nat)(h:l.length=n):(List.range n).map (λi=>l.getD i d)=l:=by
 apply E6;intro i;by_cases b:i<n
 .have:i<l.length:=by omega
  simp[b,this]
 .have:l.length<=i:=by omega
  simp[b,this]
theorem cU.cX{is:List Ins}{fs:List FP}(h:rK P is fs st st'):cU P N (.cX is) st .normal st':=by
 intro code f K Z w a Q t hs u;cases code<;>simp only[comp]at f
 case region id ops j =>
  split at f
  .split at f
   .obtain⟨l,_,k⟩:=cO f;cases k
   .cases f
  .rename_i hd;obtain⟨l,p,k⟩:=cO f;cases k;have:j=false:=by simpa using hd
   subst this;refine wp_region ?_;subst t;obtain⟨b,o,z,r,s⟩:=h.items;have hl:=(C4 p).1;have m:b.length=ops.size:=by rw[<- Array.length_toList,<- hl,<- o];simp
   have n:fX ((List.range ops.size).map λi=>b.getD i tS) st st':=by rw[M3 _ _ _ m];exact s
   exact Qk _ (λi hi=>LK o r p i (yF.1 hi)) n hs u
 all_goals (first|cases f|(split at f<;>cases f)|(obtain⟨_,_,k⟩:=cO f;cases k))
theorem Xy{l:List Nat}{x:Nat}(h:x∈BB l):x∈l:=by
 induction l with
 | nil=>exact h
 | cons y l b =>
  simp only[BB]at h;split at h
  .exact tX _ (b h)
  .obtain rfl|h:=cI.1 h
   .simp
   .exact tX _ (b h)
theorem Pq{ops:Array Oper}:∀ {ps acc:List (List Nat)},(∀ x y,y∈acc.getD x []->xF ops y x) ->
  (∀ i p,ps[i]?=some p->∀ z∈p,∃ o e,ops[acc.length+i]?=some o/\e∈o.after/\e.on=z/\Region.binds .any e=true)->∀ x y,y∈(xC acc ps).getD x []->xF ops y x
 | [],acc,h,_,x,y,b=>h x y b
 | p::ps,acc,h,j,x,y,b=>by
  refine Pq (acc:=acc++[BB (p++p.flatMap λy=>acc.getD y [])]) ?_ ?_ x y b
  .intro x y b;obtain f|f|f:=NB x acc.length
   .rw[eV,wN f,<- List.getD_eq_getElem?_getD]at b;exact h x y b
   .subst f;simp only[eV,qG (dE _),Db,List.getElem?_cons_zero,xW]at b;obtain b|b:=dN.1 (Xy b)
    .obtain⟨o,e,l,m,n,r⟩:=j 0 p rfl y b;exact .one l m n r
    .obtain⟨z,k,b⟩:=kC.1 b;obtain⟨o,e,l,m,n,r⟩:=j 0 p rfl z k;exact .more (h z y (by rw[eV];exact b)) l m n r
   .have:(acc++[BB (p++p.flatMap λy=>acc.getD y [])])[x]?=none:=E0 (by simp;omega);rw[eV,this]at b;simp at b
  .intro i q s z k;have:=j (i+1) q s z k;simpa[Nat.add_assoc,Nat.add_comm 1 i]using this
theorem LU(ops:Array Oper)(x y:Nat)(h:y∈(xC [] (yS ops.toList)).getD x []):xF ops y x:=by
 refine Pq (ops:=ops) (by simp) ?_ x y h;intro i p b z l;simp only[yS,EZ,Array.getElem?_toList]at b;cases j:ops[i]? with
 | none=>rw[j]at b;cases b
 | some o =>
  rw[j]at b;simp only[Option.map_some,Option.some.injEq]at b;subst b;obtain⟨e,k,f⟩:=List.mem_map.1 l;have:=List.mem_filter.1 k;exact⟨o,e,by simpa using j,by simpa using this.1,f,this.2⟩
theorem cU.fR{is:List Ins}{fs:List FP}{pre:List (List Nat)}(h:rK P is fs st st')(hp:aJ [] 0 fs pre=true):cU P N (.fR is pre) st .normal st':=by
 intro code k K Z w a Q O hs R;cases code<;>simp only[comp]at k
 case region id ops D =>
  split at k
  .rename_i hd;subst hd;split at k
   .rename_i H;obtain⟨l,G,m⟩:=cO k;cases m;subst O;obtain⟨b,E,F,I,J⟩:=h.items;have hl:=(C4 G).1;have j:b.length=ops.size:=by rw[<- Array.length_toList,<- hl,<- E];simp
    have n:fX ((List.range ops.size).map λi=>b.getD i tS) st st':=by rw[M3 _ _ _ j];exact J
    have f:∀ (C:Region.Mode) (L:List Nat),oZ C ops L []=true->wpAny P C ops Q ops.size (Array.replicate ops.size false) a { w with drawn:=w.drawn+1 }:=by
     intro C L M;refine Qj (pre:=λi=>(xC [] (yS ops.toList)).getD i []) (it:=λi=>b.getD i tS) ?_ (LK E I G) M ops.size (List.range ops.size) (by simp) List.nodup_range (by simp) (λy z hz _=>by simp[JE,NA]at hz;split at hz<;>simp at hz) (λi=>by simp;intro hi;simp[hi]) ?_ n (Z:=Z) ⟨hs.aY,hs.defers,hs.size,hs.heap.drew⟩ R
     .intro x o V y p;exact LU ops x y p
     .refine JD ?_ Nz;intro y x p A B;have A:=yF.1 A;have p:=yF.1 p;have s:fs[x]?=some (b.getD x tS).2:=by rw[<- F];simp[j,A]
      have u:fs[y]?=some (b.getD y tS).2:=by rw[<- F];simp[j,p]
      simpa using (K8 hp x _ s).2 y _ u B
    simp only[NO,jO,Dc,Ny]at H;obtain⟨S,r⟩:=H;refine wp_region_draw λt=>?_;unfold Region.schedule;split
    .exact wpAny_sound ops.size t _ a _ (f .any _ S)
    .rename_i hm;obtain r|⟨r,U⟩:=r
     .simp[r]at hm
     .split
      .exact wpAny_sound ops.size _ _ a _ (f .text _ r)
      .exact wpAny_sound ops.size _ _ a _ (f .gc _ U)
   .cases k
  .obtain⟨l,_,m⟩:=cO k;cases m
 all_goals (first|cases k|(split at k<;>cases k)|(obtain⟨_,_,m⟩:=cO k;cases m))
end
inductive gu (P:Program) (N:Nat) (body:AC):St->Exit->St->Prop
 | out (st:St) (ex:Exit) (st':St):cU P N body st ex st'->ex ≠ .normal->gu P N body st ex st'
 | next (st st1:St) (ex:Exit) (st':St):cU P N body st .normal st1->gu P N body st1 ex st'->gu P N body st ex st'
section
variable {P:Program} {K:Ctx} {Z Z':Cz} {st st' st1 st2:St} {w w':World} {a:Act} {N:Nat} {x y:AC} {ex:Exit}
theorem cU.js:cU P N .js st .normal st:=by
 intro code b K Z w a Q i hs f;cases code<;>simp only[comp]at b
 case skip=>exact wp_skip (f _ _ _ hs (cY.refl _ _))
 case label=>exact wp_label (f _ _ _ hs (cY.refl _ _))
 all_goals (repeat' split at b)<;>first|cases b|(obtain⟨_,_,h⟩:=cO b;cases h)
theorem cU.ret:cU P N .ret st .ret st:=by
 intro code b K Z w a Q i hs h;cases code<;>simp only[comp]at b
 case ret=>exact wp_ret (h _ _ _ hs (cY.refl _ _))
 all_goals (repeat' split at b)<;>first|cases b|(obtain⟨_,_,f⟩:=cO b;cases f)
theorem cU.ext{id:Nat}:cU P N (.ext id) st (.exit id) st:=by
 intro code b K Z w a Q i hs h;cases code<;>simp only[comp]at b
 case exit=>cases b;exact wp_exit (h _ _ _ hs (cY.refl _ _))
 all_goals (repeat' split at b)<;>first|cases b|(obtain⟨_,_,f⟩:=cO b;cases f)
def K0{f:Code}(h:comp P N f=some (.seq x y)):∃ a b,f=.seq a b/\comp P N a=some x/\comp P N b=some y:=by
 cases f<;>simp only[comp]at h
 case seq a b =>
  split at h
  .rename_i j i;cases h;exact⟨a,b,rfl,j,i⟩
  .cases h
 all_goals (repeat' split at h)<;>first|cases h|(obtain⟨_,_,i⟩:=cO h;cases i)
theorem cU.seq(h:cU P N x st .normal st1)(k:cU P N y st1 ex st'):cU P N (.seq x y) st ex st':=by intro code u K Z w a Q j hs t;obtain⟨o,p,rfl,r,s⟩:=K0 u;exact wp_seq (h o r K Z w a _ j hs λZ' w' m f hp=>k p s K Z' w' m Q j f (λl w2 n i b=>t l w2 n i (hp.trans b)))
theorem cU.NU(h:cU P N x st ex st')(m:ex ≠ .normal):cU P N (.seq x y) st ex st':=by intro code l K Z w a Q j hs k;obtain⟨f,o,rfl,i,p⟩:=K0 l;refine wp_seq (h f i K Z w a _ j hs λZ' w' n b hp=>?_);cases ex<;>first|exact absurd rfl m|exact k _ _ _ b hp
def Td{f:Code}{c:bP}(h:comp P N f=some (.cond c x y)):∃ o a b,f=.cond o a b/\dJ o=some c/\comp P N a=some x/\comp P N b=some y:=by
 cases f<;>simp only[comp]at h
 case cond o a b =>
  split at h
  .rename_i j i k;cases h;exact⟨o,a,b,rfl,j,i,k⟩
  .cases h
 all_goals (repeat' split at h)<;>first|cases h|(obtain⟨_,_,i⟩:=cO h;cases i)
theorem cU.cond{c:bP}{t:Bool}(s:st.ev c=.p (.bool t))(h:cU P N (if t then x else y) st ex st'):cU P N (.cond c x y) st ex st':=by
 intro code r K Z w a Q b hs f;obtain⟨o,j,k,rfl,l,m,n⟩:=Td r;have i:=fH l hs;rw[s]at i;refine wp_cond i.fT ?_;cases t with
 | true=>exact h j m K Z w a Q b hs f
 | false=>exact h k n K Z w a Q b hs f
def cU.Hn{c:bP}(b:st.ev c=.p (.bool true))(h:cU P N x st ex st'):cU P N (.cond c x y) st ex st':=.cond b (t:=true) h
def cU.Ho{c:bP}(b:st.ev c=.p (.bool false))(h:cU P N y st ex st'):cU P N (.cond c x y) st ex st':=.cond b (t:=false) h
def HG{f:Code}{id:Nat}(h:comp P N f=some (.bX id x)):∃ b,f=.block id b/\comp P N b=some x:=by
 cases f<;>simp only[comp]at h
 case block id b=>obtain⟨z,j,i⟩:=cO h;cases i;exact⟨b,rfl,j⟩
 all_goals (repeat' split at h)<;>first|cases h|(obtain⟨_,_,i⟩:=cO h;cases i)
theorem cU.bX{id:Nat}(h:cU P N x st ex st')(n:∀ j,ex ≠ .exit j):cU P N (.bX id x) st ex st':=by intro code m K Z w a Q k hs l;obtain⟨b,rfl,i⟩:=HG m;refine wp_block (h b i K Z w a _ k hs λZ' w' o f hp=>?_);cases ex<;>first|exact absurd rfl (n _)|exact l _ _ _ f hp
theorem cU.Oy{id:Nat}(h:cU P N x st (.exit id) st'):cU P N (.bX id x) st .normal st':=by intro code l K Z w a Q j hs k;obtain⟨b,rfl,i⟩:=HG l;refine wp_block (h b i K Z w a _ j hs λZ' w' m f hp=>?_);simp only[Exit.inBlock,cH];exact k _ _ _ f hp
theorem cU.Ox{id j:Nat}(h:cU P N x st (.exit j) st')(n:j≠id):cU P N (.bX id x) st (.exit j) st':=by intro code m K Z w a Q k hs l;obtain⟨b,rfl,i⟩:=HG m;refine wp_block (h b i K Z w a _ k hs λZ' w' o f hp=>?_);simp only[Exit.inBlock,n,fQ];exact l _ _ _ f hp
def Ty{f:Code}(h:comp P N f=some (.loop x)):∃ b,f=.loop b/\comp P N b=some x:=by
 cases f<;>simp only[comp]at h
 case loop b=>obtain⟨z,j,i⟩:=cO h;cases i;exact⟨b,rfl,j⟩
 all_goals (repeat' split at h)<;>first|cases h|(obtain⟨_,_,i⟩:=cO h;cases i)
theorem gu.key{c:Code}(t:comp P N c=some x)(s:K.N=N):∀ {st:St} {ex:Exit} {st':St},gu P N x st ex st'->∀ {Z:Cz} {w:World} {a:Act} {Q:Exit->Act->World->Prop},aN K Z st w a->(∀ Z' w' i,aN K Z' st' w' i->cY Z st Z' st'->Q ex i w') ->
  ∀ (b:Frame) (k:List Go.Item) (cs:List Frame),∃ e i w',Q e i w'/\Arrives P (lone (b.at a (.code c::.inLoop c::k)) cs w) b k cs e i w':=by
 intro st ex st' h
 induction h with
 | out st ex st' h A =>
  intro Z w a Q hs n b k cs;obtain⟨e,a1,w1,⟨rfl,hq⟩,j⟩:=h c t K Z w a (λe i w'=>e=ex/\∃ Z',aN K Z' st' w' i/\cY Z st Z' st') s hs (λZ' w' i f hp=>⟨rfl,Z',f,hp⟩) b (.inLoop c::k) cs;obtain⟨Z',f,hp⟩:=hq;exact⟨e,a1,w1,n _ _ _ f hp,.pass (x:=.inLoop c) rfl (λ_ _=>.inl A) j⟩
 | next st st1 ex st' h hl B =>
  intro Z w a Q hs n b k cs;obtain⟨e,a1,w1,⟨rfl,hq⟩,j⟩:=h c t K Z w a (λe i w'=>e=.normal/\∃ Z',aN K Z' st1 w' i/\cY Z st Z' st1) s hs (λZ' w' i f hp=>⟨rfl,Z',f,hp⟩) b (.inLoop c::k) cs;obtain⟨Z',f,hp⟩:=hq;obtain⟨z,m,w2,p,l⟩:=B f (λu w2 m r o=>n u w2 m r (hp.trans o)) b k cs;exact⟨z,m,w2,p,.of_steps (Steps.trans j (.one step_inLoop)) l⟩
theorem cU.loop(h:gu P N x st ex st'):cU P N (.loop x) st ex st':=by intro code n K Z w a Q l hs m;obtain⟨c,rfl,j⟩:=Ty n;intro b k cs;obtain⟨e,i,w',hq,f⟩:=h.key j l hs m b k cs;exact⟨e,i,w',hq,.of_steps (.one step_loop) f⟩
theorem cU.nK(h:aA st st1)(k:cU P N x st1 ex st'):cU P N x st ex st':=by intro code o K Z w a Q m hs n;obtain⟨Z',f,hp⟩:=h K Z w a hs;exact k code o K Z' w a Q m f (λj w2 l i b=>n j w2 l i (hp.trans b))
theorem cU.sU(k:cU P N x st ex st1)(h:aA st1 st'):cU P N x st ex st':=by intro code n K Z w a Q l hs m;refine k code n K Z w a Q l hs (λZ' w' j f hp=>?_);obtain⟨i,b,iO⟩:=h K Z' w' j f;exact m _ _ _ b (hp.trans iO)
theorem gu.nK(h:aA st st1)(k:gu P N x st1 ex st'):gu P N x st ex st':=by
 cases k with
 | out _ _ _ k b=>exact .out _ _ _ (.nK h k) b
 | next _ s1 _ _ k hl=>exact .next _ s1 _ _ (.nK h k) hl
end
def aO:Nat:=999999
def nF(ids:List ((Nat × Nat) × Nat))(s g:Nat):Nat :=
 match ids with
 | []=>aO
 | ((f,b),s1)::r=>if f=s/\b=g then s1 else nF r s g
mutual
def eo(c6:List Nat)(ids:List ((Nat × Nat) × Nat)):AV->AV
 | .own s g b i=>if c6.contains s=true then .own s g b i else .own (nF ids s g) 0 b i
 | .ptr s g k b=>if c6.contains s=true then .ptr s g k b else .ptr (nF ids s g) 0 k b
 | .agg h=>.agg (fq c6 ids h)
 | .fn f h=>.fn f (fq c6 ids h)
 | .bM h=>.bM (fq c6 ids h)
 | .p v=>.p v
 | .nil=>.nil
 | .cp v j b=>.cp v j b
 | .skip=>.skip
 | .undef=>.undef
def fq(c6:List Nat)(ids:List ((Nat × Nat) × Nat)):List AV->List AV
 | []=>[]
 | v::r=>eo c6 ids v::fq c6 ids r
end
def aB(sl:List (Nat × AV))(b:List (Nat × bI)):St:=⟨sl,b.map (λq=>(q.1,[some q.2]))++[(aO,[none])]⟩
def Eg(c6:List Nat)(st:St)(ids:List ((Nat × Nat) × Nat)):List ((Nat × Nat) × Nat)->Option (List (Nat × bI))
 | []=>some []
 | ((s,g),b)::r=>match st.obj s g,Eg c6 st ids r with
  | some o,some l=>some ((b,⟨o.sz,fq c6 ids o.es⟩)::l)
  | _,_=>none
def xK:List Nat->Bool
 | []=>true
 | x::r =>!r.contains x&&xK r
def Fo:List (Nat × Nat)->Bool
 | []=>true
 | x::r =>!r.contains x&&Fo r
def JS(c6:List Nat)(ids:List ((Nat × Nat) × Nat))(hp:List Site):Bool:=hp.all λq=>decide (q.1<fU)||decide (999999<=q.1)||c6.contains q.1||(ids.contains ((q.1,0),q.1)&&decide (q.2.length<=1))
def St.mX(st:St)(keep:List Nat)(c6:List Nat)(ids:List ((Nat × Nat) × Nat)):Option St :=
 if (Fo (ids.map (·.1))&&xK (aO::ids.map (·.2))&&JS c6 ids st.hp&&c6.all λs=>!(s == aO) && !(ids.map (·.2)).contains s && !(ids.map (·.1.1)).contains s&&(st.site s).all (vT c6))=true then
  (Eg c6 st ids ids).map λbT=>⟨keep.map λt=>(t,eo c6 ids (st.get t)),c6.map (λs=>(s,st.site s))++(aB [] bT).hp⟩
 else none
def St.yI(st:St)(keep:List Nat)(ids:List ((Nat × Nat) × Nat)):Option St:=st.mX keep [] ids
section
variable {P:Program} {K:Ctx} {Z Z':Cz} {st st' st1 st2:St} {w w':World} {a:Act} {N:Nat} {c6:List Nat} {ids:List ((Nat × Nat) × Nat)}
theorem tV:∀ (l:List AV),fq c6 ids l=l.map (eo c6 ids)
 | []=>rfl
 | v::r=>by simp[fq,tV r]
theorem Ur(l:List PV):fq c6 ids (l.map .p)=l.map .p:=by rw[tV,yG];apply uK;intro x _;rfl
def ZQ(v:AV):(eo c6 ids v).sz=v.sz:=by cases v<;>simp[eo]<;>(try split)<;>simp[AV.sz,tV]
def SL(v:AV):(eo c6 ids v).one=v.one:=by cases v<;>simp[eo]<;>(try split)<;>simp[AV.one]
theorem XQ(v:AV):(eo c6 ids v).cells=v.cells.map (eo c6 ids):=by
 cases v with
 | own s g f b=>simp only[eo];split<;>simp only[AV.cells,jH,JC,eo]<;>simp only[*,cH,fQ,gP]
 | ptr s g f b=>simp only[eo];split<;>simp only[AV.cells,jH,JC,eo]<;>simp only[*,cH,fQ,gP]
 | agg h=>simp[eo,AV.cells,tV]
 | p v=>?_
 | _=>rfl
 cases v<;>first|rfl|skip
 simp only[AV.cells,yG];apply uK;intro x _;rfl
theorem QF(es:List AV):(fq c6 ids es).flatMap AV.cells=(es.flatMap AV.cells).map (eo c6 ids):=by
 induction es with
 | nil=>rfl
 | cons e es b=>simp[fq,b,XQ]
mutual
theorem ZP:∀ {v:AV},pR c6 v=true->eo c6 ids v=v
 | .own s g i b,h=>by simp only[pR]at h;simp only[eo,h,cH]
 | .ptr s g i b,h=>by simp only[pR]at h;simp only[eo,h,cH]
 | .agg j,h=>by simp only[pR]at h;simp only[eo,wC h]
 | .fn f j,h=>by simp only[pR]at h;simp only[eo,wC h]
 | .bM j,h=>by simp only[pR]at h;simp only[eo,wC h]
 | .p _,_ | .nil,_ | .cp _ _ _,_ | .skip,_ | .undef,_=>rfl
theorem wC:∀ {l:List AV},lC c6 l=true->fq c6 ids l=l
 | [],_=>rfl
 | v::r,h=>by simp only[lC,jO]at h;simp only[fq,ZP h.1,wC h.2]
end
theorem I5:∀ {l:List Nat},xK l=true->l.Nodup
 | [],_=>List.nodup_nil
 | x::r,h=>by simp[xK]at h;exact List.nodup_cons.2 ⟨by simpa using h.1,I5 h.2⟩
theorem Rc:∀ {l:List (Nat × Nat)},Fo l=true->l.Nodup
 | [],_=>List.nodup_nil
 | x::r,h=>by simp[Fo]at h;exact List.nodup_cons.2 ⟨by simpa using h.1,Rc h.2⟩
def ET(ids:List ((Nat × Nat) × Nat))(b:Nat):Option (Nat × Nat) :=
 match ids with
 | []=>none
 | (i,s1)::r=>if s1=b then some i else ET r b
theorem En:∀ {ids:List ((Nat × Nat) × Nat)} {s g:Nat},nF ids s g≠aO->((s,g),nF ids s g)∈ids
 | [],s,g,h=>by simp[nF]at h
 | ((i,f),s1)::r,s,g,h=>by
  simp only[nF]at h ⊢;split
  .grind
  .rename_i b;rw[bD b]at h;exact cI.2 (.inr (En h))
theorem B0:∀ {ids:List ((Nat × Nat) × Nat)} {b:Nat} {i:Nat × Nat},(ids.map (·.2)).Nodup->(i,b)∈ids->ET ids b=some i
 | [],_,_,_,h=>by simp at h
 | (j,s1)::r,b,i,f,h=>by
  rw[jH,uL]at f;simp[ET];obtain h|h:=cI.1 h
  .grind
  .rw[bD]
   .exact B0 f.2 h
   .grind
theorem Sh:∀ {ids:List ((Nat × Nat) × Nat)} {i:Nat × Nat} {s f:Nat},(ids.map (·.1)).Nodup->(i,s)∈ids->(i,f)∈ids->s=f
 | [],_,_,_,_,h,_=>by simp at h
 | (k,s1)::r,i,s,f,j,h,b=>by
  rw[jH,uL]at j;obtain h|h:=cI.1 h<;>obtain b|b:=cI.1 b
  .grind
  .grind
  .grind
  .exact Sh j.2 h b
theorem RO{ids:List ((Nat × Nat) × Nat)}:∀ {l:List ((Nat × Nat) × Nat)} {b:List (Nat × bI)},Eg c6 st ids l=some b->(l.map (·.2)).Nodup->aO∉l.map (·.2) ->
  (∀ i f,(i,f)∈l->∃ o,st.obj i.1 i.2=some o/\look (b.map (λq=>(q.1,[some q.2]))++[(aO,[none])]) f []=[some ⟨o.sz,fq c6 ids o.es⟩]) /\
  (∀ f,f∉l.map (·.2)->look (b.map (λq=>(q.1,[some q.2]))++[(aO,[none])]) f []=if aO=f then[none]else[])
 | [],b,h,_,_=>by
  simp only[Eg,cD]at h;subst h;exact⟨by simp,by simp[look]⟩
 | ((s,g),s1)::r,b,h,j,k=>by
  simp only[Eg]at h;split at h
  .rename_i o l t p;cases h;simp only[jH,uL,cI,not_or]at j k;obtain⟨u,z⟩:=RO p j.2 k.2;refine⟨λi f hm=>?_,λf hm=>?_⟩
   .obtain hm|hm:=cI.1 hm
    .cases hm;exact⟨o,t,by simp[look]⟩
    .obtain⟨A,m,n⟩:=u i f hm;refine⟨A,m,?_⟩;have:s1≠f:=by rintro rfl;exact j.1 (cA.2 ⟨_,hm,rfl⟩)
     simpa[look,this]using n
   .simp only[jH,cI,not_or]at hm;have:=z f hm.2;simp only[jH,xX,look]
    grind
  .cases h
def Cz.eo(Z:Cz)(c6:List Nat)(ids:List ((Nat × Nat) × Nat)):Cz where
 M:=Z.M
 B s g:=if c6.contains s=true then Z.B s g else if g=0 then(match ET ids s with|some i=>Z.B i.1 i.2|none=>none)else none
 cap s g:=if c6.contains s=true then Z.cap s g else match ET ids s with|some i=>Z.cap i.1 i.2|none=>0
structure pM (st st':St) (c6:List Nat) (ids:List ((Nat × Nat) × Nat)):Prop where
 old:(ids.map (·.1)).Nodup
 new:(ids.map (·.2)).Nodup
 live:∀ i s',(i,s')∈ids->c6.contains s'=false/\c6.contains i.1=false/\∃ o,st.obj i.1 i.2=some o/\st'.obj s' 0=some ⟨o.sz,fq c6 ids o.es⟩
 all:∀ s' g' o',st'.obj s' g'=some o'->c6.contains s'=true\/(c6.contains s'=false/\g'=0/\∃ i,(i,s')∈ids)
 dead:0<(st'.site aO).length/\st'.obj aO 0=none
 c6:∀ s,c6.contains s=true->st'.site s=st.site s/\∀ g o,st.obj s g=some o->fq c6 ids o.es=o.es
def pM.tC(h:pM st st' c6 ids){s g:Nat}(b:c6.contains s=true):st'.obj s g=st.obj s g:=fB (h.c6 s b).1
mutual
theorem aQ.eo(h:pM st st' c6 ids):∀ {v:AV} {x:Value},aQ Z st v x->aQ (Z.eo c6 ids) st' (Ab.eo c6 ids v) x
 | _,_,.p v x hp=>.p v x hp
 | _,_,.nil=>.nil
 | _,_,.d' s g o r n=>by
  simp only[Ab.eo];split
  .rename_i i;exact .d' _ _ o (by rw[h.tC i];exact r) (by simp only[Cz.eo,i,cH];exact n)
  .by_cases hd:nF ids s g=aO
   .rw[hd];exact .eO _ _ _ _ _ _ h.dead.1 h.dead.2
   .have hm:=En hd;obtain⟨t,_,o',k,m⟩:=h.live _ _ hm;exact .d' _ _ _ m (by simp only[Cz.eo,t,gP,fQ,cH,B0 h.new hm,n])
 | _,_,.own s g off len o b ad c r n k m h3 z=>by
  simp only[Ab.eo];split
  .rename_i i;exact .own _ _ _ _ o b ad c (by rw[h.tC i];exact r) (by simp only[Cz.eo,i,cH];exact n) (by simp only[Cz.eo,i,cH];exact k) m h3 z
  .by_cases hd:nF ids s g=aO
   .rw[hd];exact .eO _ _ _ _ _ _ h.dead.1 h.dead.2
   .have hm:=En hd;obtain⟨t,_,o',j,u⟩:=h.live _ _ hm;simp only at j;rw[r]at j;cases j;exact .own _ _ _ _ _ b ad c u (by simp only[Cz.eo,t,Bool.false_eq_true,if_false,if_true,B0 h.new hm,n]) (by simp only[Cz.eo,t,Bool.false_eq_true,if_false,B0 h.new hm];exact k) m (by simpa[tV]using h3) z
 | _,_,.eO s g off len ad c A l=>by
  simp only[Ab.eo];split
  .rename_i i;exact .eO _ _ _ _ _ _ (by rw[(h.c6 s i).1];exact A) (by rw[h.tC i];exact l)
  .by_cases hd:nF ids s g=aO
   .rw[hd];exact .eO _ _ _ _ _ _ h.dead.1 h.dead.2
   .obtain⟨_,_,o',j,u⟩:=h.live _ _ (En hd);simp only at j;rw[l]at j;cases j
 | _,_,.ptr s g ix off o b r n=>by
  simp only[Ab.eo];split
  .rename_i i;exact .ptr _ _ ix off o b (by rw[h.tC i];exact r) (by simp only[Cz.eo,i,cH];exact n)
  .by_cases hd:nF ids s g=aO
   .rw[hd];exact .kP _ _ _ _ _ h.dead.1 h.dead.2
   .have hm:=En hd;obtain⟨t,_,o',j,u⟩:=h.live _ _ hm;simp only at j;rw[r]at j;cases j;exact .ptr _ _ ix off ⟨o.sz,fq c6 ids o.es⟩ b u (by simp only[Cz.eo,t,gP,fQ,cH,B0 h.new hm,n])
 | _,_,.kP s g ix off ad A l=>by
  simp only[Ab.eo];split
  .rename_i i;exact .kP _ _ _ _ _ (by rw[(h.c6 s i).1];exact A) (by rw[h.tC i];exact l)
  .by_cases hd:nF ids s g=aO
   .rw[hd];exact .kP _ _ _ _ _ h.dead.1 h.dead.2
   .obtain⟨_,_,o',j,u⟩:=h.live _ _ (En hd);simp only at j;rw[l]at j;cases j
 | _,_,.cp v vM off b o cur T fr vals C k m h3 z D=>.cp v vM off b o cur T fr vals C k m h3 z D
 | _,_,.agg cs vals k m=>by
  simp only[Ab.eo];exact .agg _ vals (λc B=>by rw[tV]at B;obtain⟨d,hd,rfl⟩:=cA.1 B;rw[SL];exact k d hd) (aG.eo h m)
 | _,_,.fn f cs vals k=>by simp only[Ab.eo];exact .fn f _ vals (aG.eo h k)
 | _,_,.bM vs vals k=>by simp only[Ab.eo];exact .bM _ vals (aG.eo h k)
 | _,_,.skip=>.skip
 | _,_,.undef x=>.undef x
theorem aG.eo(h:pM st st' c6 ids):∀ {v:List AV} {x:List Value},aG Z st v x->aG (Z.eo c6 ids) st' (fq c6 ids v) x
 | _,_,.nil=>.nil
 | _,_,.cons v x vs xs b hs=>.cons _ _ _ _ (aQ.eo h b) (aG.eo h hs)
end
theorem bG.eo(h:bG K Z st w)(r:pM st st' c6 ids):bG K (Z.eo c6 ids) st' w:=by
 have f:∀ {s g:Nat} {o:bI},st'.obj s g=some o->∃ i m,st.obj i.1 i.2=some m/\o=⟨m.sz,fq c6 ids m.es⟩/\(Z.eo c6 ids).B s g=Z.B i.1 i.2/\(Z.eo c6 ids).cap s g=Z.cap i.1 i.2 /\
   ((c6.contains s=true/\i=(s,g))\/(c6.contains s=false/\c6.contains i.1=false/\g=0/\(i,s)∈ids)):=by
  intro s g o l;obtain n|⟨n,rfl,i,hi⟩:=r.all s g o l
  .have k:=r.tC (g:=g) n;rw[l]at k;exact⟨(s,g),o,k.symm,by rw[(r.c6 s n).2 g o k.symm],by simp only[Cz.eo,n,cH],by simp only[Cz.eo,n,cH],.inl ⟨n,rfl⟩⟩
  .obtain⟨F,u,m,k,M⟩:=r.live i s hi;rw[l]at M;cases M;exact⟨i,m,k,rfl,by simp only[Cz.eo,n,gP,fQ,cH,B0 r.new hi],by simp only[Cz.eo,n,gP,fQ,B0 r.new hi],.inr ⟨n,u,rfl,hi⟩⟩
 refine⟨λs g o l=>?_,λs g s' g' o o' b l J j z=>?_,h.mem,λs g o b l j=>?_,λs g o b l j=>?_,h.m0,h.eM,h.keep⟩
 .obtain⟨i,m,k,rfl,p,E,_⟩:=f l;obtain⟨k1,k2,k3,k4,k5⟩:=h.bT i.1 i.2 m k;refine⟨k1,λe R=>?_,λc O=>?_,λj=>?_,λb j=>?_⟩
  .simp only[tV,cA]at R;obtain⟨W,I,rfl⟩:=R;rw[ZQ];exact k2 W I
  .simp only[QF,cA]at O;obtain⟨S,H,rfl⟩:=O;rw[SL];exact k3 S H
  .rw[p]at j;simp[k4 j,fq]
  .rw[p]at j;obtain⟨cur,T,vals,A,C,X,Y,e5,e6⟩:=k5 b j;refine⟨cur,T,vals,A,?_,X,by rw[E];exact Y,by rw[E];simpa[tV]using e5,by rw[E];exact e6⟩;rw[QF,<- tV];exact aG.eo r C
 .obtain⟨i,m,k,_,p,_,U⟩:=f l;obtain⟨i',ad,G,_,D,_,V⟩:=f J;rw[p]at j;rw[D]at z;obtain⟨A,C⟩:=h.inj _ _ _ _ _ _ b k G j z;have e:i=i':=Prod.ext A C;subst e;obtain⟨F,rfl⟩|⟨F,u,rfl,m1⟩:=U<;>obtain⟨L,t⟩|⟨L,t,rfl,m2⟩:=V
  .cases t;exact⟨rfl,rfl⟩
  .simp only at t;rw[F]at t;cases t
  .subst t;simp only at u;rw[L]at u;cases u
  .exact⟨Sh r.old m1 m2,rfl⟩
 .obtain⟨i,m,k,_,p,_,_⟩:=f l;rw[p]at j;exact h.sep _ _ _ b k j
 .obtain⟨i,m,k,_,p,_,_⟩:=f l;rw[p]at j;exact h.own _ _ _ b k j
theorem Tw(f:Nat->List (Option bI))(r:List Site)(s:Nat):∀ c6:List Nat,look (c6.map (λs=>(s,f s))++r) s []=if c6.contains s=true then f s else look r s []
 | []=>by simp
 | k::l=>by
  have b:=Tw f r s l;simp[jH,look];by_cases h:k=s
  .grind
  .grind
def z80{keep:List Nat}(h:st.mX keep c6 ids=some st'):pM st st' c6 ids/\(st'.sl=keep.map λt=>(t,Ab.eo c6 ids (st.get t)))/\(JS c6 ids st.hp=true):=by
 unfold St.mX at h;split at h
 .rename_i B;simp only[jO]at B;obtain⟨⟨⟨C,D⟩,E⟩,R⟩:=B;have z:=Rc C;have f:=I5 D;rw[uL]at f;have k:∀ s,c6.contains s=true->s≠aO/\s∉ids.map (·.2)/\s∉ids.map (·.1.1)/\(st.site s).all (vT c6)=true:=λs l=>by
   grind
  have r:∀ s,(c6.contains s=true->False)->c6.contains s=false:=λs h=>by cases B:c6.contains s<;>simp_all
  obtain⟨n,m,rfl⟩:=cO h;obtain⟨J,L⟩:=RO m f.2 f.1;have b:∀ s,(⟨keep.map λt=>(t,Ab.eo c6 ids (st.get t)),c6.map (λs=>(s,st.site s))++(aB [] n).hp⟩:St).site s=if c6.contains s=true then st.site s else look (n.map (λq=>(q.1,[some q.2]))++[(aO,[none])]) s []:=λs=>Tw _ _ s c6
  refine⟨⟨z,f.2,λi p u=>?_,λp I U j=>?_,?_,λs l=>⟨by rw[b,aX l],λg o m=>wC ?_⟩⟩,rfl,E⟩
  .obtain⟨o,G,A⟩:=J i p u;have H:c6.contains p=false:=r p λl=>(k p l).2.1 (cA.2 ⟨_,u,rfl⟩);have O:c6.contains i.1=false:=r i.1 λl=>(k i.1 l).2.2.1 (cA.2 ⟨_,u,rfl⟩);exact⟨H,O,o,G,by simp only[St.obj,b,H,A];rfl⟩
  .cases l:c6.contains p with
   | true=>exact .inl rfl
   | false =>
   refine .inr ⟨rfl,?_⟩;simp only[St.obj,b,l,gP,fQ]at j;by_cases u:p∈ids.map (·.2)
   .obtain⟨⟨i,s1⟩,M,rfl⟩:=cA.1 u;obtain⟨o,G,A⟩:=J i s1 M;refine⟨?_,i,M⟩;rw[A]at j;cases I with
    | zero=>rfl
    | succ _=>simp at j
   .exfalso;rw[L p u]at j;split at j
    .cases I<;>simp at j
    .simp at j
  .have S:c6.contains aO=false:=r aO λl=>(k aO l).1 rfl;have:=L aO f.1;simp only[St.obj,b,S,gP,fQ,this];exact⟨by simp,rfl⟩
  .have:=(k s l).2.2.2;rw[k8]at this;unfold St.obj at m;cases F:(st.site s)[g]? with
   | none=>rw[F]at m;cases m
   | some x =>
    rw[F]at m;simp only[xW]at m;subst m;exact this _ (wM F)
 .cases h
theorem L9(f:Nat->AV)(t:Nat):∀ (keep:List Nat),look (keep.map λt=>(t,f t)) t AV.undef=f t\/look (keep.map λt=>(t,f t)) t AV.undef=.undef
 | []=>.inr rfl
 | k::r=>by
  simp[jH,look];split
  .grind
  .exact L9 f t r
theorem yfl(m:pM st st' c6 ids)(hp:JS c6 ids st.hp=true):cY Z st (Z.eo c6 ids) st':=by
 have f:∀ s,fU<=s->s<999999->st.site s=[]\/c6.contains s=true\/((st.site s).length<=1/\c6.contains s=false/\∃ o,st.obj s 0=some o/\st'.obj s 0=some ⟨o.sz,fq c6 ids o.es⟩/\ET ids s=some (s,0)):=by
  intro s a b;obtain h|⟨q,u,rfl,z⟩:=BR (d:=([]:List (Option bI))) (l:=st.hp) (s:=s)
  .exact .inl h
  .have:=k8.1 hp q u;simp only[Dc,jO,decide_eq_true_eq]at this;obtain((h|h)|h)|⟨h,t⟩:=this
   .omega
   .omega
   .grind
   .rw[E3]at h;obtain⟨n,_,o,i,j⟩:=m.live _ _ h;exact .inr (.inr ⟨by show(look st.hp q.1 []).length<=1;rw[z];exact t,n,o,i,j,B0 m.new h⟩)
 refine⟨λs a b=>?_,λs g a b A p=>?_,λs g o a b k=>?_⟩
 .obtain h|h|⟨h,_,o,i,j,_⟩:=f s a b
  .grind
  .rw[(m.c6 s h).1];exact dE _
  .have:=nQ j;omega
 .obtain h|h|⟨h,_,o,i,j,_⟩:=f s a b
  .simp_all
  .rw[m.tC h];exact p
  .obtain rfl:g=0:=by omega
   rw[i]at p;cases p
 .obtain h|h|⟨h,n,B,i,j,r⟩:=f s a b
  .have:=nQ k;rw[h]at this;simp at this
  .exact .inr ⟨o,by rw[m.tC h];exact k,rfl,rfl,by simp only[Cz.eo,h,cH],by simp only[Cz.eo,h,cH]⟩
  .have:=nQ k;obtain rfl:g=0:=by omega
   rw[i]at k;cases k;exact .inr ⟨_,j,rfl,by simp[tV],by simp only[Cz.eo,r,n,gP,fQ,cH],by simp only[Cz.eo,r,n,gP,fQ]⟩
theorem aA.UK{keep:List Nat}(h:st.mX keep c6 ids=some st'):aA st st':=by
 intro K Z w a hs;obtain⟨f,i,b⟩:=z80 h;refine⟨Z.eo c6 ids,⟨λt=>?_,hs.defers,hs.size,hs.heap.eo f⟩,yfl f b⟩;have:st'.get t=look (keep.map λt=>(t,Ab.eo c6 ids (st.get t))) t .undef:=by rw[<- i];rfl
 rw[this];obtain h|h:=L9 (λt=>Ab.eo c6 ids (st.get t)) t keep
 .rw[h];exact(hs.aY t).eo f
 .rw[h];exact .undef _
def aA.of{keep:List Nat}(h:st.yI keep ids=some st'):aA st st':=aA.UK h
end
def St.vQ(st:St)(t:Nat):Option St :=
 match bH st bF (st.get t)with
 | some p=>some ((aI st (aS st bF (st.get t))).put (some t) (.p p))
 | none=>none
def St.mf(st:St)(t s sz:Nat):Option St :=
 match st.get t with
 | .nil=>if 0<sz then some ((st.alloc s ⟨sz,[]⟩).put (some t) (.own s (st.site s).length 0 0))else none
 | _=>none
def TW(e:AV)(b i:Nat)(r:AV):Option AV :=
 if b=1 then(match e with | .nil=>some r|_=>none)
 else match e.cells[i]? with
  | some .nil=>some (.agg (e.cells.set i r))
  | _=>none
def St.s6(st:St)(s0 g0 i s sz:Nat):Option St :=
 match st.obj s0 g0 with
 | some o=>match o.es with
  | [e]=>if 0<sz/\s≠s0 then(match TW e o.sz i (.own s (st.site s).length 0 0)with
   | some b=>some ((st.alloc s ⟨sz,[]⟩).setObj s0 g0 ⟨o.sz,[b]⟩)
   | none=>none)else none
  | _=>none
 | none=>none
section
variable {P:Program} {K:Ctx} {Z Z':Cz} {st st' st1 st2:St} {w w':World} {a:Act} {N:Nat}
def Keep.refl(w:World)(X:Nat->Prop):Keep w w X:=⟨rfl,rfl,rfl,dE _,dE _,λ_ _ _=>rfl⟩
theorem aA.freeze{t:Nat}(h:st.vQ t=some st'):aA st st':=by
 intro K Z w a hs;unfold St.vQ at h;split at h
 .rename_i p hp;cases h;generalize j:aS st bF (st.get t)=ids;have A:∀ b o,Z.M b=some o->Mx Z st w ids b=some o:=λb o f=>mM f;have hz:cP Z st { Z with M:=Mx Z st w ids } (aI st ids):=(cP.aI ids st).trans (cP.j3 A);have C:bG K { Z with M:=Mx Z st w ids } (aI st ids) w:=by
   refine(bG.aI ids hs.heap).grow (Keep.refl w _) _ A (λb o f=>?_) (λb o f=>?_) (λs g o b D f=>?_)
   .obtain h|⟨_,h,_⟩:=rM f
    .exact hs.heap.mem b o h
    .exact h
   .obtain h|⟨_,_,s,g,z,_,l,m⟩:=rM f
    .exact .inl h
    .exact .inr (hs.heap.own s g z b l m)
   .obtain⟨k,n⟩:=EG ids st D;cases hm:Mx Z st w ids b with
    | none=>rfl
    | some y =>
     exfalso;obtain h|⟨_,_,s',g',z,B,l,m⟩:=rM hm
     .rw[hs.heap.sep s g o b k f]at h;cases h
     .obtain⟨rfl,rfl⟩:=hs.heap.inj s g s' g' o z b k l f m;exact n B
  have r:PRep (Mx Z st w ids) p (a.tmps.getD t Go.undef):=BN hs.heap ids bF _ _ _ (hs.aY t) hp (λi hi=>by rw[<- j];exact hi);refine⟨{ Z with M:=Mx Z st w ids },⟨λu=>?_,hs.defers,hs.size,C.jl (λi=>pT _ _ _ i)⟩,.dW (hz.trans (sC (λi=>pT _ _ _ i) _))⟩;rw[xM];split
  .rename_i hu;cases hu;exact .p _ _ r
  .rw[AB (A9 ids st)];exact aQ.mono (sC (λi=>pT _ _ _ i) _) (aQ.mono hz (hs.aY u))
 .cases h
theorem aA.Bp{t s sz:Nat}(h:st.mf t s sz=some st'):aA st st':=by
 intro K Z w a hs;unfold St.mf at h;split at h
 .rename_i hn;split at h
  .rename_i hp;cases h;have b:=hs.heap.iQ s sz hp;have hz:=cP.alloc Z st s ⟨sz,[]⟩ none 0;have f:a.tmps.getD t Go.undef=.slice none 0 0:=by have:=hs.aY t;rw[hn]at this;generalize a.tmps.getD t Go.undef=x at this ⊢;cases this;rfl
   refine⟨_,⟨λu=>?_,hs.defers,hs.size,b.jl (λi=>pT _ _ _ i)⟩,.dW (hz.trans (sC (λi=>pT _ _ _ i) _))⟩;rw[xM];refine aQ.mono (sC (s:=st.alloc s ⟨sz,[]⟩) (λi=>pT _ _ _ i) _) ?_;split
   .rename_i hu;cases hu;rw[f];exact .d' s _ ⟨sz,[]⟩ (by rw[lD,aX ⟨rfl,rfl⟩]) (by simp[Cz.bR])
   .exact aQ.mono hz (hs.aY u)
  .cases h
 .cases h
def bG.same(h:bG K Z st w){s g:Nat}{o:bI}(k:st.obj s g=some o){es:List AV}(hl:es.length=o.es.length)(F:∀ e∈es,e.sz=o.sz)(h3:∀ c∈es.flatMap AV.cells,c.one=true)
  (G:∀ vals,aG Z st (o.es.flatMap AV.cells) vals->aG Z st (es.flatMap AV.cells) vals):bG K Z (st.setObj s g ⟨o.sz,es⟩) w:=by
 have n:=nQ k;have hz:=cP.setObj Z st s g o ⟨o.sz,es⟩ k rfl hl;have old:∀ {s' g':Nat} {o':bI},(st.setObj s g ⟨o.sz,es⟩).obj s' g'=some o'->∃ M,st.obj s' g'=some M:=by
  intro s' g' o' f;rw[vF _ _ _ _ _ _ n]at f;split at f
  .rename_i m;obtain⟨rfl,rfl⟩:=m;exact⟨o,k⟩
  .exact⟨o',f⟩
 refine⟨λs' g' o' f=>?_,λs' g' O E o' L b a1 p i r=>?_,h.mem,λs' g' o' b a1 i=>?_,λs' g' o' b a1 i=>?_,h.m0,h.eM,h.keep⟩
 .rw[vF _ _ _ _ _ _ n]at f;split at f
  .rename_i m;obtain⟨rfl,rfl⟩:=m;cases f;obtain⟨H,R,S,I,J⟩:=h.bT s' g' o k;refine⟨H,F,h3,λl=>List.eq_nil_of_length_eq_zero (by rw[hl,I l];rfl),λb l=>?_⟩;obtain⟨cur,T,vals,u,z,A,B,C,D⟩:=J b l;exact⟨cur,T,vals,u,aG.mono hz (G vals z),A,B,by simpa[hl]using C,D⟩
  .exact(h.bT s' g' o' f).later hz rfl rfl (λ_ _=>rfl)
 .obtain⟨o1,j⟩:=old a1;obtain⟨U,t⟩:=old p;exact h.inj _ _ _ _ _ _ b j t i r
 .obtain⟨o1,j⟩:=old a1;exact h.sep _ _ _ b j i
 .obtain⟨o1,j⟩:=old a1;exact h.own _ _ _ b j i
theorem aG.set{vs:List AV}{xs:List Value}(i:Nat){r:AV}(h:aG Z st vs xs)(b:∀ x,xs[i]?=some x->aQ Z st r x):aG Z st (vs.set i r) xs:=by
 induction i generalizing vs xs with
 | zero =>
  cases h with
  | nil=>exact .nil
  | cons v x vs xs h hs=>exact .cons _ _ _ _ (b x rfl) hs
 | succ i j =>
  cases h with
  | nil=>exact .nil
  | cons v x vs xs h hs=>exact .cons _ _ _ _ h (j hs (λy f=>b y f))
theorem aA.b5{s0 g0 i s sz:Nat}(h:st.s6 s0 g0 i s sz=some st'):aA st st':=by
 intro K Z w a hs;unfold St.s6 at h;split at h
 .rename_i o L;split at h
  .rename_i e f;split at h
   .rename_i t;obtain⟨hp,G⟩:=t;split at h
    .rename_i z b;cases h;have J:=hs.heap.iQ s sz hp;have hz:=cP.alloc Z st s ⟨sz,[]⟩ none 0;generalize V:Z.bR s (st.site s).length none 0=r at J hz;have l:aQ r (st.alloc s ⟨sz,[]⟩) (.own s (st.site s).length 0 0) (.slice none 0 0):=.d' s _ ⟨sz,[]⟩ (by rw[lD,aX ⟨rfl,rfl⟩]) (by rw[<- V];simp[Cz.bR]);have C:(st.alloc s ⟨sz,[]⟩).obj s0 g0=some o:=by rw[lD,bD (by rintro⟨rfl,_⟩;exact G rfl)];exact L
     have F:=hs.heap.bT s0 g0 o L;have A:=F.iI e (by simp[f]);have n:∀ c∈e.cells,c.one=true:=λc t=>F.one c (by simp[f,t]);have k:∀ x,aQ r (st.alloc s ⟨sz,[]⟩) .nil x->x=.slice none 0 0:=λx D=>by cases D;rfl
     have m:z.sz=o.sz/\(∀ c∈z.cells,c.one=true)/\∀ vals,aG r (st.alloc s ⟨sz,[]⟩) e.cells vals->aG r (st.alloc s ⟨sz,[]⟩) z.cells vals:=by
      unfold TW at b;split at b
      .rename_i I;split at b
       .cases b;refine⟨by rw[I];rfl,by simp[AV.cells,AV.one],λvals j=>?_⟩;simp only[AV.cells]at j ⊢;cases j with
        | cons _ x _ _ D H=>cases H;have:=k x D;subst this;exact .cons _ _ _ _ l .nil
       .cases b
      .rename_i I;split at b
       .rename_i hi;cases b;have M:=F.pos;have B:e.cells.length=o.sz:=by rw[AV.bO (by omega)];exact A
        refine⟨?_,λc t=>?_,λvals j=>?_⟩
        .simp only[AV.sz,List.length_set,B];rw[bD (by omega)]
        .simp only[AV.cells]at t;obtain h|h:=E5 t
         .exact n c h
         .rw[h];rfl
        .simp only[AV.cells]at j ⊢;refine j.set i (λx D=>?_);obtain⟨y,O,H⟩:=j.get i .nil hi;rw[D]at O;cases O;rw[k x H];exact l
       .cases b
     obtain⟨R,S,U⟩:=m;have p:=J.same C (es:=[z]) (by rw[f];rfl) (by simpa using R) (by simpa using S) (λvals j=>by rw[f]at j;simpa using U vals (by simpa using j));have E:=cP.setObj r (st.alloc s ⟨sz,[]⟩) s0 g0 o ⟨o.sz,[z]⟩ C rfl (by rw[f];rfl);exact⟨r,⟨λu=>aQ.mono (hz.trans E) (hs.aY u),hs.defers,hs.size,p⟩,.dW (hz.trans E)⟩
    .cases h
   .cases h
  .cases h
 .cases h
end
def DQ:Nat->List PV->List (Nat × AV)
 | _,[]=>[]
 | i,v::r=>(i,.p v)::DQ (i+1) r
def vy(args:List PV):St:=⟨DQ 0 args,[]⟩
def zO(P:Program):List ResultVar->Option (List (Nat × Option Nat))
 | []=>some []
 | .tmp t::r=>(zO P r).map ((t,none) :: ·)
 | .cell a t::r=>if tok P t (ew P t) (jI P t)=true then(zO P r).map ((a,some (ew P t)) :: ·)else none
def BJ(st:St)(t:Nat)(c:Option Nat):Option AV :=
 match c with
 | none=>some (st.get t)
 | some h=>match st.get t with
  | .ptr s g f b=>match st.obj s g with
   | some o=>match o.es[f]? with
    | some e=>if b=0/\h=o.sz then some e else none
    | none=>none
   | none=>none
  | _=>none
def oF(st:St):List (Nat × Option Nat)->Option (List AV)
 | []=>some []
 | (t,c)::r=>match BJ st t c,oF st r with
  | some v,some l=>some (v::l)
  | _,_=>none
def dD:List AV->AV
 | [v]=>v
 | vs=>.bM vs
structure Cv where
 N:Nat
 np:Nat
 body:AC
 res:List (Nat × Option Nat)
def aP(P:Program)(f:FuncId):Option Cv :=
 match P.funcs[f]? with
 | some h=>if h.name ≠ "runtime.NumGoroutine" then match h.body with
  | some c=>match comp P h.ntmps c,zO P h.results.toList with
   | some b,some r=>some ⟨h.ntmps,h.params.size+h.nfree,b,r⟩
   | _,_=>none
  | none=>none
  else none
 | none=>none
inductive pL (st:St):AV->RV->Prop
 | pure (v:AV) (p:PV):bH st bF v=some p->pL st v (.pure p)
 | fresh (s g len:Nat) (o:bI) (es:List PV):st.obj s g=some o->len=o.es.length->o.es=es.map .p->pL st (.own s g 0 len) (.fresh o.sz es)
 | nil (sz:Nat):pL st .nil (.fresh sz [])
section
variable {P:Program} {K:Ctx} {Z Z':Cz} {st st' st1 st2:St} {w w':World} {a:Act} {N:Nat} {args:List PV}
theorem PD:∀ (args:List PV) (i t:Nat),look (DQ i args) t AV.undef=if t<i then .undef else match args[t - i]? with|some v=>.p v|none=>.undef
 | [],i,t=>by simp[DQ,look]
 | v::r,i,t=>by
  simp only[DQ,look];split
  .rename_i h;subst h;simp
  .rename_i h;rw[PD r (i+1) t];by_cases b:t<i
   .rw[aX (by omega),aX b]
   .rw[bD (by omega),bD b];have:t - i=(t - (i+1))+1:=by omega
    rw[this];rfl
theorem LH{M:Nat->Option Obj}{vals:List Value}(r:∀ b o,M b=some o->w.heap[b]?=some o)(m:PReps M args vals)(hn:args.length<=N) :
  aN ⟨w,M,λ_=>False,N⟩ ⟨M,λ_ _=>none,λ_ _=>0⟩ (vy args) w { tmps:=vals.toArray++Array.replicate (N - vals.toArray.size) Go.undef,defers:=[] }:=by
 have z:=m.length;have i:∀ s g,(vy args).obj s g=none:=λs g=>rfl;refine⟨λt=>?_,rfl,by simp;omega,⟨λs g o f=>(by rw[i]at f;cases f),λs g _ _ o _ b f=>(by rw[i]at f;cases f),r,λs g o b f=>(by rw[i]at f;cases f),λs g o b f=>(by rw[i]at f;cases f),λ_ _ h=>h,λ_ _ h=>.inl h,Keep.refl w _⟩⟩;have j:(vy args).get t=match args[t]? with|some v=>.p v|none=>.undef:=by have:=PD args 0 t;simpa[St.get,vy]using this
 rw[j];cases u:args[t]? with
 | none=>exact .undef _
 | some v =>
  obtain⟨x,l,n⟩:=m.get t v u;have k:=(List.getElem?_eq_some_iff.1 l).1;have:(vals.toArray++Array.replicate (N - vals.toArray.size) Go.undef).getD t Go.undef=x:=by simp[Array.getElem?_append,k];have:=(List.getElem?_eq_some_iff.1 l).2;simpa using this
  rw[this];exact .p _ _ n
theorem ycp{t:TypeId}{s g r:Nat}{o:bI}{e:AV}{x:Value}(M:tok P t (ew P t) (jI P t)=true)(W:bG K Z st w)(X:aQ Z st (.ptr s g r 0) x)(L:st.obj s g=some o)(f:o.es[r]?=some e)(h:ew P t=o.sz) :
  ∃ y,(do loadVar t (<- asAddr x):Sem Value).run P w=.ok y w/\aQ Z st e y:=by
 obtain⟨b,U,rfl⟩:=BV X L;obtain⟨_,_,_,_,_,_,C,F⟩:=F7 M;have j:=W.bT s g o L;obtain⟨B,T,u,Y,k2,k3,k4,k5,k6⟩:=j.bX b U;have m:∀ e∈o.es,(AV.cells e).length=o.sz:=λe J=>by rw[AV.bO (by rw[j.iI e J];exact j.pos),j.iI e J]
 have p:=FV AV.cells o.sz o.es r e m f;have E:=Kw AV.cells o.sz o.es r e m f;have l:e∈o.es:=List.mem_of_getElem? f;have n:∀ c∈e.cells,c.one=true:=λc V=>j.one c (List.mem_flatMap.2 ⟨e,l,V⟩);have D:∀ (i:Nat) (v:Value),u[i]?=some v->B[0+i]?=some v:=by simpa using k3
 obtain⟨xs,I,h2,z,S⟩:=CH (P:=P) (Z:=Z) (st:=st) (k:=r*o.sz) (o:=0) M Y k2 D (by rw[h];exact E);rw[h,p]at I;obtain⟨r1,r2⟩:=MY ((j.iI e l).trans h.symm) C F n I;cases A:jI P t with
 | true =>
  have z:=z A;simp only[sG]at z;refine⟨_,?_,r1 A⟩;simp only[asAddr,mW,oJ,qF,uO,z]
 | false =>
  obtain⟨x1,O,G⟩:=S A;obtain⟨x2,H,R⟩:=r2 A;rw[O]at H;cases H;simp only[sG]at G;refine⟨_,?_,R⟩;simp only[asAddr,mW,oJ,qF,uO,G]
theorem D7(hs:aN K Z st w a):∀ {rs:List ResultVar} {cs:List (Nat × Option Nat)} {vs:List AV},zO P rs=some cs->oF st cs=some vs ->
  ∃ xs,(rs.mapM (m:=Sem) λ| .tmp t=>pure (a.tmps.getD t Go.undef) | .cell p t=>do loadVar t (<- asAddr (a.tmps.getD p Go.undef))).run P w=.ok xs w/\aG Z st vs xs
 | [],cs,vs,f,b=>by
  simp only[zO,cD]at f;subst f;simp only[oF,cD]at b;subst b;exact⟨[],by simp,.nil⟩
 | r::rs,cs,vs,f,b=>by
  have step:∃ (t:Nat) (c:Option Nat) (h:List (Nat × Option Nat)),cs=(t,c)::h/\zO P rs=some h/\∀ v,BJ st t c=some v ->
    ∃ y,((λ| .tmp t=>pure (a.tmps.getD t Go.undef) | .cell p t=>do loadVar t (<- asAddr (a.tmps.getD p Go.undef)):ResultVar->Sem Value) r).run P w=.ok y w/\aQ Z st v y:=by
   cases r with
   | tmp t =>
    simp only[zO]at f;obtain⟨l,j,rfl⟩:=cO f;exact⟨t,none,l,rfl,j,λv b=>by simp only[BJ,cD]at b;subst b;exact⟨_,by simp,hs.aY t⟩⟩
   | cell p t =>
    simp only[zO]at f;split at f
    .rename_i I;obtain⟨l,j,rfl⟩:=cO f;refine⟨p,some (ew P t),l,rfl,j,λv b=>?_⟩;simp only[BJ]at b;split at b
     .rename_i s g M J k;split at b
      .rename_i o H;split at b
       .rename_i e F;split at b
        .rename_i i;obtain⟨rfl,n⟩:=i;cases b;have z:=hs.aY p;rw[k]at z;exact ycp I hs.heap z H F n
        .cases b
       .cases b
      .cases b
     .cases b
    .cases f
  obtain⟨t,c,h,rfl,j,E⟩:=step;simp only[oF]at b;split at b
  .rename_i v l u G;cases b;obtain⟨y,A,B⟩:=E v u;obtain⟨L,C,D⟩:=D7 hs j G;refine⟨y::L,?_,.cons _ _ _ _ B D⟩;simp only[Cg,mW,A,qF,C,oJ]
  .cases b
theorem aG.dD{vs:List AV}{xs:List Value}(h:aG Z st vs xs):aQ Z st (dD vs) (if h:xs.toArray.size=1 then xs.toArray[0]else .tuple xs.toArray):=by
 cases h with
 | nil=>exact .bM _ _ .nil
 | cons v x vs xs h hs =>
  cases hs with
  | nil=>exact h
  | cons u y us b k ks=>simp only[Ab.dD];rw[dif_neg (by simp)];exact .bM _ _ (.cons _ _ _ _ h (.cons _ _ _ _ k ks))
theorem LN{M:Nat->Option Obj}{v:AV}{x:Value}{z:RV}(k:bG ⟨w,M,λ_=>False,N⟩ Z' st' w')(F:aQ Z' st' v x)(u:pL st' v z) :
  ∃ C,(∀ b o,M b=some o->C b=some o)/\(∀ b o,C b=some o->w'.heap[b]?=some o)/\(∀ b o,C b=some o->M b=some o\/w.heap.size<=b)/\Keep w w' (λ_=>False)/\sq C w w' z x:=by
 have j:∀ b o,Z'.M b=some o->M b=some o\/w.heap.size<=b:=λb o f=>by
  obtain h|h|h:=k.eM b o f
  .exact .inl h
  .exact h.elim
  .exact .inr h
 have n:∀ s g o b,st'.obj s g=some o->Z'.B s g=some b->w.heap.size<=b:=λs g o b m f=>by
  obtain h|h:=k.own s g o b m f
  .exact h.elim
  .exact h
 cases u with
 | pure _ p S =>
  refine⟨Mx Z' st' w' (aS st' bF v),λb o f=>mM (k.m0 b o f),λb o f=>?_,λb o f=>?_,k.keep,?_⟩
  .obtain h|⟨_,h,_⟩:=rM f
   .exact k.mem b o h
   .exact h
  .obtain h|⟨_,_,s,g,ob,_,q2,q3⟩:=rM f
   .exact j b o h
   .exact .inr (n s g ob b q2 q3)
  .exact BN k _ bF _ _ _ F S (λi O=>O)
 | fresh s g af o H m R r =>
  refine⟨Z'.M,λb o f=>k.m0 b o f,k.mem,j,k.keep,?_⟩;have E:=k.bT s g o m;have t:o.es.length=H.length:=by rw[r];simp
  cases F with
  | d' _ _ o' l f =>
   rw[m]at l;cases l;have:=E.x5 f;refine .inl ⟨q9 (by rw[<- t,this];rfl),rfl⟩
  | own _ _ _ _ o' b ad c l f I h2 h3 h4 =>
   rw[m]at l;cases l;obtain⟨rfl,rfl⟩:=I rfl;obtain⟨D,T,A,U,G,V,W,X,Y⟩:=E.bX b f;refine .inr ⟨b,Z'.cap s g,D,T,A,by rw[R,t],n s g o b m f,k.sep s g o b m f,U,?_,V,W,by rw[<- t];exact X,Y,λc J=>?_⟩
   .rw[r,qU]at G;exact G.pq
   .have:=E.one (.p c) (by rw[r,qU];exact cA.2 ⟨c,J,rfl⟩);exact this
  | eO _ _ _ _ _ _ _ L=>exact(uH m L).elim
 | nil sz =>
  refine⟨Z'.M,λb o f=>k.m0 b o f,k.mem,j,k.keep,.inl ⟨rfl,?_⟩⟩;cases F;rfl
theorem Sp.gG{f:FuncId}{C:Cv}{ex:Exit}{vs:List AV}{res:RV}(i:aP P f=some C)(hn:args.length<=C.N)(m:cU P C.N C.body (vy args) ex st')(n:ex=.ret\/ex=.normal)
  (p:oF st' C.res=some vs) (l:pL st' (dD vs) res):Sp P f args res:=by
 unfold aP at i;split at i
 .rename_i fn u;split at i
  .rename_i k;split at i
   .rename_i c t;split at i
    .rename_i O rs B D;cases i;refine⟨⟨fn,u,by rw[t];rfl,k⟩,λw M vals E F=>?_⟩;refine calls_of_wp u t ?_;refine m _ B ⟨w,M,λ_=>False,fn.ntmps⟩ _ w _ _ rfl (LH E F hn) (λZ' w' s hs _=>?_)
     have j:s.defers=[]/\∃ v,(results fn s.tmps).run P w'=.ok v w'/\∃ x M',Ending.returned v=.returned x/\(∀ b o,M b=some o->M' b=some o)/\(∀ b o,M' b=some o->w'.heap[b]?=some o) /\
       (∀ b o,M' b=some o->M b=some o\/w.heap.size<=b)/\Keep w w' (λ_=>False)/\sq M' w w' res x:=by
      obtain⟨xs,z,A⟩:=D7 hs D p;obtain⟨M',G,H,I,J,L⟩:=LN hs.heap A.dD l;refine⟨hs.defers,_,?_,_,M',rfl,G,H,I,J,L⟩;unfold results;rw[EY];simp only[mW,map_eq_pure_bind,oJ];exact congrArg (λr=>(Result.andThen r λa w'=>Result.ok a.toArray w').andThen λ(a:Array Value) w'=>Result.ok (if h:a.size=1 then a[0]else Value.tuple a) w') z
     obtain rfl|rfl:=n
     .exact j
     .exact j
    .cases i
   .cases i
  .cases i
 .cases i
end
def DY(i:Nat)(r:AV):Nat->List PV->List (Nat × AV)
 | _,[]=>[]
 | n,v::l=>(n,if n=i then r else .p v)::DY i r (n+1) l
def wR(p:PV):AV :=
 match p with
 | .ref _=>.ptr bC 0 0 0
 | .sl b=>.own bC 0 0 b.length
 | _=>.undef
def mF(p:PV):List PV :=
 match p with
 | .ref e=>[e]
 | .sl b=>b
 | _=>[]
def xN(args:List PV)(i sz:Nat)(p:PV):St:=⟨DY i (wR p) 0 args,[(bC,[some ⟨sz,(mF p).map .p⟩])]⟩
inductive DI (st:St):AV->Nat->RV->Prop
 | pure (v:AV) (n:Nat) (p:PV):bH st bF v=some p->(bC,0)∉aS st bF v->DI st v n (.pure p)
 | same (l n:Nat):l<=n->DI st (.own bC 0 0 l) n (.same l)
section
variable {P:Program} {K:Ctx} {Z Z':Cz} {st st' st1 st2:St} {w w':World} {a:Act} {N:Nat} {args:List PV}
theorem QX{i:Nat}{r:AV}:∀ (args:List PV) (n t:Nat),look (DY i r n args) t AV.undef=if t<n then .undef else match args[t - n]? with|some v=>if t=i then r else .p v|none=>.undef
 | [],n,t=>by simp[DY,look]
 | v::l,n,t=>by
  simp only[DY,look];split
  .rename_i h;subst h;simp
  .rename_i h;rw[QX l (n+1) t];by_cases b:t<n
   .rw[aX (by omega),aX b]
   .rw[bD (by omega),bD b];have:t - n=(t - (n+1))+1:=by omega
    rw[this];rfl
theorem XE{M:Nat->Option Obj}{vals:List Value}{i sz cap:Nat}{p:PV}{b:Option Nat}{es:List PV}(hM:∀ b o,M b=some o->w.heap[b]?=some o)(ad:vals.length=args.length)(hp:args[i]?=some p)(D:∃ x,vals[i]?=some x/\DK p es b cap x)
  (ha:sr M w b cap sz es) (ho:∀ j q,j≠i->args[j]?=some q->∃ x,vals[j]?=some x/\PRep M q x) (hn:args.length<=N) :
  es=mF p/\aN ⟨w,M,λc=>b=some c,N⟩ ⟨M,λ_ _=>b,λ_ _=>cap⟩ (xN args i sz p) w { tmps:=vals.toArray++Array.replicate (N - vals.toArray.size) Go.undef,defers:=[] }:=by
 obtain⟨x,hx,R⟩:=D;obtain⟨Y,a2,a3,J,F⟩:=ha;have u:es=mF p:=by obtain⟨rfl,_⟩|⟨e,l,rfl,rfl,_,_⟩:=R<;>rfl
 have f:∀ s g o,(xN args i sz p).obj s g=some o->s=bC/\g=0/\o=⟨sz,es.map .p⟩:=by
  intro s g o h;simp only[St.obj,St.site,xN,look]at h;split at h
  .rename_i hs;cases g with
   | zero=>simp at h;subst hs;subst h;rw[u];exact⟨rfl,rfl,rfl⟩
   | succ g=>simp at h
  .simp at h
 have k:(xN args i sz p).obj bC 0=some ⟨sz,es.map .p⟩:=by simp[St.obj,St.site,xN,look,u]
 refine⟨u,λt=>?_,rfl,by simp;omega,⟨λs g o h=>?_,λs g s' g' o o' l h h' _ _=>?_,hM,λs g o l h m=>(F l m).1,λs g o l _ m=>.inl m,λ_ _ h=>h,λ_ _ h=>.inl h,Keep.refl w _⟩⟩
 .have C:(xN args i sz p).get t=match args[t]? with|some v=>if t=i then wR p else .p v|none=>.undef:=by have:=QX (i:=i) (r:=wR p) args 0 t;simpa[St.get,xN]using this
  rw[C];have n:∀ y,vals[t]?=some y->(vals.toArray++Array.replicate (N - vals.toArray.size) Go.undef).getD t Go.undef=y:=by intro y E;have G:=(List.getElem?_eq_some_iff.1 E).1;simp[Array.getElem?_append,G];simpa using (List.getElem?_eq_some_iff.1 E).2
  cases z:args[t]? with
  | none=>exact .undef _
  | some q =>
   simp only;split
   .rename_i A;subst A;rw[hp]at z;cases z;rw[n x hx];obtain⟨rfl,rfl⟩|⟨e,l,rfl,rfl,rfl,rfl⟩:=R
    .simp only[wR];cases b with
     | none =>
      have:=J rfl;subst this;exact .d' _ _ _ k rfl
     | some b =>
      obtain⟨_,B,T,L,S,U,V,W,I,X⟩:=F b rfl;exact .own _ _ 0 es.length _ b _ cap k rfl (λ_=>⟨rfl,rfl⟩) (λ_=>by simp) (by simp) I
    .simp only[wR];have:=aQ.ptr (Z:=⟨M,λ_ _=>some l,λ_ _=>cap⟩) (st:=xN args t sz (.ref e)) bC 0 0 0 _ l k rfl;simpa using this
   .rename_i A;obtain⟨y,E,H⟩:=ho t q A z;rw[n y E];exact .p _ _ H
 .obtain⟨rfl,rfl,rfl⟩:=f s g o h;refine⟨Y,λe he=>?_,λc O=>?_,λm=>?_,λl m=>?_⟩
  .obtain⟨q,z,rfl⟩:=cA.1 he;exact a2 q z
  .rw[qU]at O;obtain⟨q,z,rfl⟩:=cA.1 O;exact a3 q z
  .simp only at m;rw[J m];rfl
  .obtain⟨_,B,T,L,S,U,V,W,I,X⟩:=F l m;exact⟨B,T,L,S,by rw[qU];exact aG.lZ U,V,W,by simpa using I,X⟩
 .obtain⟨rfl,rfl,_⟩:=f s g o h;obtain⟨rfl,rfl,_⟩:=f s' g' o' h';exact⟨rfl,rfl⟩
theorem gO.gG{f:FuncId}{C:Cv}{ex:Exit}{vs:List AV}{res:RV}{i sz:Nat}{p:PV}{m:List PV}(k:aP P f=some C)(hn:args.length<=C.N)(hp:args[i]?=some p)
  (A:cU P C.N C.body (xN args i sz p) ex st') (al:ex=.ret\/ex=.normal) (av:oF st' C.res=some vs) (j:st'.obj bC 0=some ⟨sz,m.map .p⟩) (t:m.length=(mF p).length) (z:DI st' (dD vs) (mF p).length res) :
  gO P f args i sz m res:=by
 unfold aP at k;split at k
 .rename_i fn hf;split at k
  .rename_i L;split at k
   .rename_i c E;split at k
    .rename_i bd rs O V;cases k;refine⟨⟨fn,hf,by rw[E];rfl,L⟩,λw M vals b cap es hM au U hi ha ho=>?_⟩;obtain⟨ag,J⟩:=XE hM au hp (U p hp) ha ho hn;subst ag;refine calls_of_wp hf E ?_;refine A _ O ⟨w,M,λc=>b=some c,fn.ntmps⟩ _ w _ _ rfl J (λZ' w' a' hs aq=>?_)
     have I:a'.defers=[]/\∃ v,(results fn a'.tmps).run P w'=.ok v w'/\∃ x M',Ending.returned v=.returned x/\(∀ b o,M b=some o->M' b=some o)/\(∀ b o,M' b=some o->w'.heap[b]?=some o) /\
       (∀ b o,M' b=some o->M b=some o\/w.heap.size<=b)/\Keep w w' (λc=>b=some c)/\m.length=(mF p).length/\sr M' w' b cap sz m/\DJ M' w w' b cap (mF p).length res x:=by
      obtain⟨xs,e1,e2⟩:=D7 hs V av;have W:=e2.dD;generalize aw:(if h:xs.toArray.size=1 then xs.toArray[0]else .tuple xs.toArray)=x at W;have A:(results fn a'.tmps).run P w'=.ok x w':=by rw[<- aw];unfold results;rw[EY];simp only[mW,map_eq_pure_bind,oJ];exact congrArg (λr=>(Result.andThen r λa w'=>Result.ok a.toArray w').andThen λ(a:Array Value) w'=>Result.ok (if h:a.size=1 then a[0]else Value.tuple a) w') e1
      obtain⟨G,hC⟩:Z'.B bC 0=b/\Z'.cap bC 0=cap:=by
       obtain h|⟨_,_,_,_,O,V⟩:=aq.live bC 0 ⟨sz,(mF p).map .p⟩ (by decide) (by decide) (by simp[St.obj,St.site,xN,look])
       .rw[j]at h;cases h
       .exact⟨O,V⟩
      have R:=hs.heap.bT _ _ _ j;have u:∀ c o,Z'.M c=some o->M c=some o\/w.heap.size<=c:=λc o k=>by
       obtain h|h|h:=hs.heap.eM c o k
       .exact .inl h
       .rw[hs.heap.sep bC 0 _ c j (G.trans h)]at k;cases k
       .exact .inr h
      have H:∀ M',(∀ c o,Z'.M c=some o->M' c=some o)->(∀ c,b=some c->M' c=none)->sr M' w' b cap sz m:=by
       intro M' ao ap;refine⟨R.pos,λe he=>R.iI (.p e) (cA.2 ⟨e,he,rfl⟩),λq hq=>?_,λE=>?_,λb' F=>?_⟩
       .have:=R.one (.p q) (by rw[qU];exact cA.2 ⟨q,hq,rfl⟩);exact this
       .have:=R.x5 (G.trans E);simpa using this
       .obtain⟨cur,T,cv,k1,k2,k3,k4,k5,k6⟩:=R.bX b' (G.trans F);rw[qU]at k2;rw[hC]at k4 k5 k6;exact⟨ap b' F,cur,T,cv,k1,k2.pq.mono ao,k3,k4,by simpa using k5,k6⟩
      have D:∀ c,b=some c->Z'.M c=none:=λc k=>hs.heap.sep bC 0 _ c j (G.trans k);generalize dD vs=v at W z;generalize bb:(mF p).length=n at z t;refine⟨hs.defers,_,A,?_⟩;cases z with
      | pure _ _ q hq S =>
       refine⟨x,Mx Z' st' w' (aS st' bF v),rfl,λb o E=>mM (hs.heap.m0 b o E),λb o E=>?_,λb o E=>?_,hs.heap.keep,by rw[t],H _ (λc o k=>mM k) (λc k=>?_),?_⟩
       .obtain h|⟨_,h,_⟩:=rM E
        .exact hs.heap.mem b o h
        .exact h
       .obtain h|⟨_,_,s,g,ob,m1,X,Y⟩:=rM E
        .exact u b o h
        .obtain h|h:=hs.heap.own s g ob b X Y
         .obtain⟨rfl,rfl⟩:=hs.heap.inj s g bC 0 ob _ b X j Y (G.trans h);exact absurd m1 S
         .exact .inr h
       .cases hm:Mx Z' st' w' (aS st' bF v) c with
        | none=>rfl
        | some y =>
         exfalso;obtain h|⟨_,_,s,g,ob,m1,X,Y⟩:=rM hm
         .rw[D c k]at h;cases h
         .obtain⟨rfl,rfl⟩:=hs.heap.inj s g bC 0 ob _ c X j Y (G.trans k);exact S m1
       .exact BN hs.heap _ bF _ _ _ W hq (λi hi=>hi)
      | same l _ hl =>
       refine⟨x,Z'.M,rfl,hs.heap.m0,hs.heap.mem,u,hs.heap.keep,by rw[t],H _ (λ_ _ h=>h) D,hl,?_⟩;cases W with
       | d' _ _ o ho af=>rw[<- G,af]
       | own _ _ _ _ o b' ad c ho F O V h3 h4 =>
        obtain⟨rfl,rfl⟩:=O rfl;rw[<- G,F,hC]
       | eO _ _ _ _ _ _ _ hd=>exact(uH j hd).elim
     obtain rfl|rfl:=al
     .exact I
     .exact I
    .cases k
   .cases k
  .cases k
 .cases k
end
inductive eB:Type 1
 | ok (c:Prop) (v:AV) (s:St)
 | el {α : Type} (l:List α) (n:Nat) (f : α -> eB)
 | br (t:Bool) (a b:eB)
 | bad
def fV(K:AV->St->Prop):eB->Prop
 | .ok c v s=>c/\K v s
 | .el l n f=>∃ e,l[n]?=some e/\fV K (f e)
 | .br t a b=>(t=true->fV K a)/\(t=false->fV K b)
 | .bad=>False
def fC{α : Type}:Option α -> (α -> eB)->eB
 | some x,f=>f x
 | none,_=>.bad
def eB.and(c:Prop):eB->eB
 | .ok d v s=>.ok (c/\d) v s
 | .el l n f=>.el l n λx=>(f x).and c
 | .br t a b=>.br t (a.and c) (b.and c)
 | .bad=>.bad
def Ki:AV->eB->eB->eB
 | .p (.bool t),a,b=>.br t a b
 | _,_,_=>.bad
def pC:AV->(Nat->eB)->eB
 | .p (.int _ n),f=>(f n.toNat).and (0<=n)
 | _,_=>.bad
def CK(st:St)(o:Option bP)(n:Nat)(f:Nat->eB):eB :=
 match o with
 | some x=>pC (st.ev x) f
 | none=>f n
def Bx(k:IntKind)(a b:Int):Int:=k.wrap (BitVec.ofInt k.bits a &&& BitVec.ofInt k.bits b).toNat
def Fi(k:IntKind)(a b:Int):Int:=k.wrap (BitVec.ofInt k.bits a ||| BitVec.ofInt k.bits b).toNat
def G1(k:IntKind)(a b:Int):Int:=k.wrap (BitVec.ofInt k.bits a ^^^ BitVec.ofInt k.bits b).toNat
def yhg(k:IntKind)(a b:Int):Int:=k.wrap (BitVec.ofInt k.bits a &&& ~~~ BitVec.ofInt k.bits b).toNat
def NI(f:BinOp)(k:IntKind)(a b:Int)(st:St):eB :=
 match f with
 | .add=>.ok True (.p (.int k (k.wrap (a+b)))) st
 | .sub=>.ok True (.p (.int k (k.wrap (a - b)))) st
 | .mul=>.ok True (.p (.int k (k.wrap (a*b)))) st
 | .quo=>.ok (b≠0) (.p (.int k (k.wrap (a.tdiv b)))) st
 | .rem=>.ok (b≠0) (.p (.int k (a.tmod b))) st
 | .and=>.ok True (.p (.int k (Bx k a b))) st
 | .or=>.ok True (.p (.int k (Fi k a b))) st
 | .xor=>.ok True (.p (.int k (G1 k a b))) st
 | .andNot=>.ok True (.p (.int k (yhg k a b))) st
 | .eql=>.ok True (.p (.bool (decide (a=b)))) st
 | .neq=>.ok True (.p (.bool (!decide (a=b)))) st
 | .lss=>.ok True (.p (.bool (decide (a<b)))) st
 | .leq=>.ok True (.p (.bool (decide (a<=b)))) st
 | .gtr=>.ok True (.p (.bool (decide (b<a)))) st
 | .geq=>.ok True (.p (.bool (decide (b<=a)))) st
 | .shl=>.ok (0<=b) (.p (.int k (k.wrap (a*2^Nat.min b.toNat k.bits)))) st
 | .shr=>.ok (0<=b) (.p (.int k (a / (2^Nat.min b.toNat k.bits)))) st
def JR(f:BinOp)(x y:AV)(st:St):eB :=
 match x,y with
 | .p (.int k a),.p (.int h b)=>if xO f=true\/k=h then NI f k a b st else .bad
 | _,_=>.bad
def zaY(st:St)(v:AV)(f:List AV->eB):eB :=
 match v with
 | .p (.sl i)=>f (i.map .p)
 | .nil=>f []
 | .p .nl=>f []
 | .p .sle=>f []
 | .own s g h b=>fC (st.obj s g) λo=>(f ((o.es.drop h).take b)).and (h+b<=o.es.length)
 | _=>.bad
def tZ(sz:Nat)(l:List AV):Prop:=(l.all λv=>v.sz == sz)=true/\0<sz
def yL(sz:Nat)(l:List PV):Prop:=(l.all λv=>v.sz == sz)=true/\0<sz
def oc(st:St)(d:Nat):c7->eB
 | .mv x=>.ok True (st.ev x) st
 | .pick c a b=>Ki (st.ev c) (.ok True (st.ev a) st) (.ok True (st.ev b) st)
 | .alloc r zero=>.ok (zero.sz=r/\0<r) (.ptr d (st.site d).length 0 0) (st.alloc d ⟨r,[zero]⟩)
 | .box r x=>.ok ((st.ev x).sz=r/\0<r) (.ptr d (st.site d).length 0 0) (st.alloc d ⟨r,[st.ev x]⟩)
 | .build zero parts=>fC (A5 zero (parts.map λ(o,s,x)=>(o,s,st.ev x))) λH=>.ok True (eQ H) st
 | .b4 r zero n parts=>fC (A4 (List.replicate n zero.ey) r (parts.map λ(i,x)=>(i,(st.ev x).ey))) λA=>.ok (zero.sz=r/\0<r/\n*r<=16777216) (.own d (st.site d).length 0 n) (st.alloc d ⟨r,A⟩)
 | .load r G x=>match st.ev x with
  | .ptr s g C j=>fC (st.obj s g) λo=>.el o.es C λe=>if j=0/\r=o.sz then .ok True e st else fC (e.yO j r G) λv=>.ok True v st
  | .cp v z j=>if j=0/\r=z then .ok True (.p v) st else fC (v.yO j r G) λv=>.ok True (.p v) st
  | _=>.bad
 | .store r a x=>match st.ev a with
  | .ptr s g C j=>fC (st.obj s g) λo=>.el o.es C λe=>
    if j=0/\r=o.sz then .ok ((st.ev x).sz=r/\0<r) .undef (st.setObj s g ⟨o.sz,o.es.set C (st.ev x)⟩)
    else fC (e.rT j (st.ev x)) λM=>.ok ((st.ev x).sz=r/\0<r) .undef (st.setObj s g ⟨o.sz,o.es.set C M⟩)
  | _=>.bad
 | .bV x=>match st.ev x with
  | .ptr s g C j=>fC (st.obj s g) λ_=>.ok True (.ptr s g C j) st
  | .p (.fn f u)=>.ok True (.p (.fn f u)) st
  | .fn f u=>.ok True (.fn f u) st
  | .p (.ref v)=>.ok True (.p (.ref v)) st
  | .cp v z j=>.ok True (.cp v z j) st
  | _=>.bad
 | .dI I x y=>JR I (st.ev x) (st.ev y) st
 | .gJ I x y=>fC (gJ I (st.ev x) (st.ev y)) λv=>.ok True (.p v) st
 | .j' E I x y=>fC (j' E I (st.ev x) (st.ev y)) λv=>.ok True (.p v) st
 | .not x=>match st.ev x with
  | .p (.bool b)=>.ok True (.p (.bool (!b))) st
  | _=>.bad
 | .neg x=>match st.ev x with
  | .p (.int k n)=>.ok True (.p (.int k (k.wrap (0 - n)))) st
  | _=>.bad
 | .tA x=>match st.ev x with
  | .p (.int k n)=>.ok True (.p (.int k (G1 k (if k.signed then -1 else k.max) n))) st
  | _=>.bad
 | .conv k x=>match st.ev x with
  | .p (.int _ n)=>.ok True (.p (.int k (k.wrap n))) st
  | _=>.bad
 | .gT f u=>.ok ((u.map st.ev).all AV.one=true) (.fn f (u.map st.ev)) st
 | .cM r zero l c=>pC (st.ev l) λn=>pC (st.ev c) λm=>.ok (n<=m/\m<=eL/\zero.sz=r/\0<r) (.own d (st.site d).length 0 n) (st.alloc d ⟨r,List.replicate n zero.uT⟩)
 | .slice r x O L=>CK st O 0 λl=>match st.ev x with
  | .p (.sl A)=>CK st L A.length λh=>.ok ((l<=h/\h<=A.length)/\yL r A) (.p (.sl ((A.drop l).take (h - l)))) st
  | .own s g j t=>CK st L t λh=>fC (st.obj s g) λo=>.ok (l<=h/\h<=t/\j+t<=o.es.length/\o.sz=r) (.own s g (j+l) (h - l)) st
  | .nil=>CK st L 0 λh=>.ok (l=0/\h=0) .nil st
  | _=>.bad
 | .iP j x=>match st.ev x with
  | .ptr s g C o=>fC (st.obj s g) λ_=>.ok True (.ptr s g C (o+j)) st
  | .cp v z o=>.ok True (.cp v z (o+j)) st
  | _=>.bad
 | .field j r G x=>fC (st.ev x).jB λH=>fC (sW H j r G) λv=>.ok True v st
 | .cG r x i=>pC (st.ev i) λn=>match st.ev x with
  | .p (.sl A)=>.el A n λe=>.ok (e.sz=r/\0<r) (.cp e r 0) st
  | .own s g j t=>fC (st.obj s g) λo=>.ok (n<t/\j+t<=o.es.length/\o.sz=r) (.ptr s g (j+n) 0) st
  | _=>.bad
 | .cB m r x i=>pC (st.ev i) λn=>match st.ev x with
  | .ptr s g C o=>fC (st.obj s g) λ_=>.ok (n<m) (.ptr s g C (o+n*r)) st
  | .cp v z o=>.ok (n<m) (.cp v z (o+n*r)) st
  | _=>.bad
 | .idx m r G x i=>pC (st.ev i) λn=>fC (st.ev x).jB λH=>fC (sW H (n*r) r G) λv=>.ok (n<m) v st
 | .extract x i=>match st.ev x with
  | .bM F=>fC F[i]? λv=>.ok True v st
  | .p (.bM F)=>fC F[i]? λv=>.ok True (.p v) st
  | _=>.bad
 | .len x=>match st.ev x with
  | .p (.sl A)=>.ok True (.p (.int .i64 A.length)) st
  | .nil=>.ok True (.p (.int .i64 0)) st
  | .own _ _ _ t=>.ok True (.p (.int .i64 t)) st
  | _=>.bad
 | .append r a x=>zaY st (st.ev x) λB=>match st.ev a with
  | .nil=>.ok (tZ r (B.map AV.ey)/\B.length<=eL) (.own d (st.site d).length 0 B.length) (st.alloc d ⟨r,B.map AV.ey⟩)
  | .own s g j t=>fC (st.obj s g) λo=>.ok (tZ r (B.map AV.ey)/\(j=0/\t=o.es.length/\o.sz=r/\t+B.length<=eL))
    (.own d ((aI st [(s,g)]).site d).length 0 (t+B.length)) ((aI st [(s,g)]).alloc d ⟨r,o.es++B.map AV.ey⟩)
  | _=>.bad
 | .ic D x=>match st.ev x with
  | .nil=>.ok True (.p (.bool (!D))) st
  | .p .nl=>.ok True (.p (.bool (!D))) st
  | .p .sle=>.ok True (.p (.bool D)) st
  | .p (.sl A)=>.ok (A≠[]) (.p (.bool D)) st
  | .own s g _ t=>fC (st.obj s g) λ_=>.ok (0<t) (.p (.bool D)) st
  | _=>.bad
 | .cap x=>match st.ev x with
  | .nil=>.ok True (.p (.int .i64 0)) st
  | _=>.bad
 | .clear r zero x=>match st.ev x with
  | .nil=>.ok True (.bM []) st
  | .own s g j t=>fC (st.obj s g) λo=>.ok (j+t<=o.es.length/\o.sz=r/\zero.sz=r) (.bM []) (st.setObj s g ⟨o.sz,o.es.take j++List.replicate t zero.ey++o.es.drop (j+t)⟩)
  | _=>.bad
 | .fE r zero a x=>pC (st.ev x) λn=>match st.ev a with
  | .nil=>.ok (0<n/\n<=eL/\zero.sz=r/\0<r) (.own d (st.site d).length 0 n) (st.alloc d ⟨r,List.replicate n zero.ey⟩)
  | _=>.bad
 | .mr J zero x k=>match st.ev x,st.ev k with
  | .p (.mp _ E F),.p (.agg kc)=>.ok (kA J kc=true/\E.all (sA J)=true) (match oE kc E F with|some v=>.p v|none=>zero) st
  | _,_=>.bad
 | .jY J zero x k=>match st.ev x,st.ev k with
  | .p (.mp _ E F),.p (.agg kc)=>.ok (kA J kc=true/\E.all (sA J)=true) (match oE kc E F with|some v=>.bM [.p v,.p (.bool true)]|none=>.bM [zero,.p (.bool false)]) st
  | _,_=>.bad
 | .qK x i=>pC (st.ev i) λn=>match st.ev x with
  | .p (.str s)=>.el s.data.toList n λb=>.ok True (.p (.int .u8 b.toNat)) st
  | _=>.bad
 | .min B=>fC (yh false (B.map st.ev)) λv=>.ok True (.p v) st
 | .max B=>fC (yh true (B.map st.ev)) λv=>.ok True (.p v) st
 | _=>.bad
section
variable {P:Program} {N:Nat} {st s1 st':St} {d:Nat} {K:AV->St->Prop}
theorem B1{c:Prop}:∀ {o:eB},fV K (o.and c)->fV K o/\c
 | .ok d v s,h=>⟨⟨h.1.2,h.2⟩,h.1.1⟩
 | .el l n f,⟨e,j,i⟩=>⟨⟨e,j,(B1 i).1⟩,(B1 i).2⟩
 | .br true a b,h=>⟨⟨λ_=>(B1 (h.1 rfl)).1,λh=>by cases h⟩,(B1 (h.1 rfl)).2⟩
 | .br false a b,h=>⟨⟨λh=>(by cases h),λ_=>(B1 (h.2 rfl)).1⟩,(B1 (h.2 rfl)).2⟩
def ycr{v:AV}{a b:eB}(h:fV K (Ki v a b)):(v=.p (.bool true)/\fV K a)\/(v=.p (.bool false)/\fV K b):=by
 unfold Ki at h;split at h
 .rename_i t;cases t
  .exact .inr ⟨rfl,h.2 rfl⟩
  .exact .inl ⟨rfl,h.1 rfl⟩
 .exact h.elim
theorem mV{α : Type}{o:Option α}{f : α -> eB}(h:fV K (fC o f)):∃ e,o=some e/\fV K (f e):=by
 cases o with
 | none=>exact h.elim
 | some x=>exact⟨x,rfl,h⟩
def BZ{v:AV}{f:Nat->eB}(h:fV K (pC v f)):∃ n,vw v=some n/\fV K (f n):=by
 unfold pC at h;split at h
 .rename_i k n;have:=B1 h;exact⟨n.toNat,by simp[vw,this.2],this.1⟩
 .exact h.elim
theorem I9{o:Option bP}{m:Nat}{f:Nat->eB}(h:fV K (CK st o m f)):∃ n,sP st o m=some n/\fV K (f n):=by
 unfold CK at h;cases o with
 | none=>exact⟨m,rfl,h⟩
 | some x=>exact BZ h
def PM{v:AV}{f:List AV->eB}(h:fV K (zaY st v f)):∃ l,st.elems v=some l/\fV K (f l):=by
 unfold zaY at h;split at h
 .exact⟨_,rfl,h⟩
 .exact⟨_,rfl,h⟩
 .exact⟨_,rfl,h⟩
 .exact⟨_,rfl,h⟩
 .obtain⟨o,b,i⟩:=mV h;have:=B1 i;exact⟨_,by simp[St.elems,b,this.2],this.1⟩
 .exact h.elim
def Yu{i:BinOp}{x y:AV}(h:fV K (JR i x y st)):∃ v,dI i x y=some v/\K (.p v) st:=by
 unfold JR at h;split at h
 .rename_i k a r b;split at h
  .rename_i o;by_cases l:xO i=true
   .cases i<;>simp only[xO,gP]at l
    .obtain⟨j,f⟩:=h;exact⟨_,by simp only[dI,xO,cH,F4];rw[bD (by omega)],f⟩
    .obtain⟨j,f⟩:=h;exact⟨_,by simp only[dI,xO,cH,F4];rw[bD (by omega),Int.fdiv_eq_ediv_of_nonneg _ (Int.pow_nonneg (by decide))],f⟩
   .have m:k=r:=o.resolve_left l;subst m;have n:∃ v,BF i k a b=some v/\K (.p v) st:=by
     cases i<;>simp only[xO,not_true_eq_false]at l<;>simp only[NI,fV]at h<;>first
      | exact⟨_,rfl,h.2⟩
      | (obtain⟨j,f⟩:=h;exact⟨_,by simp only[BF];rw[bD j],f⟩)
      | exact⟨_,by simp only[BF,bne,beq_eq_decide],h.2⟩
    obtain⟨v,j,f⟩:=n;exact⟨v,by simp only[dI,l,j,cH];rfl,f⟩
  .exact h.elim
 .exact h.elim
def YX{G:c7}(h:fV K (oc st d G)):∃ v s,bY none st d G=some (v,s)/\K v s:=by
 cases G<;>simp only[oc]at h<;>simp only[bY]
 case mv x=>exact⟨_,_,rfl,h.2⟩
 case pick c a b =>
  obtain⟨e,h⟩|⟨e,h⟩:=ycr h<;>rw[e]<;>exact⟨_,_,rfl,h.2⟩
 case alloc B zero=>exact⟨_,_,by rw[aX h.1],h.2⟩
 case box B x=>exact⟨_,_,by rw[aX h.1],h.2⟩
 case build zero parts=>obtain⟨W,t,p⟩:=mV h;exact⟨_,_,by rw[t],p.2⟩
 case b4 B zero n parts=>obtain⟨W,t,p⟩:=mV h;exact⟨_,_,by rw[aX p.1,t],p.2⟩
 case load B S x =>
  split at h
  .rename_i j;simp only[j];obtain⟨o,t,e,p,z⟩:=mV h;simp only[t,p];split at z
   .rename_i D;exact⟨_,_,by rw[aX D],z.2⟩
   .rename_i D;obtain⟨v,A,C⟩:=mV z;exact⟨_,_,by rw[bD D,A],C.2⟩
  .rename_i j;simp only[j];split at h
   .rename_i D;exact⟨_,_,by rw[aX D],h.2⟩
   .rename_i D;obtain⟨v,A,C⟩:=mV h;exact⟨_,_,by rw[bD D,A],C.2⟩
  .exact h.elim
 case store B a x =>
  split at h
  .rename_i j;simp only[j];obtain⟨o,t,e,p,A⟩:=mV h;simp only[t,p];split at A
   .rename_i D;exact⟨_,_,by rw[aX A.1,aX D],A.2⟩
   .rename_i D;obtain⟨v,C,V⟩:=mV A;exact⟨_,_,by rw[aX V.1,bD D,C],V.2⟩
  .exact h.elim
 case bV x =>
  split at h
  .rename_i j;simp only[j];obtain⟨o,t,p⟩:=mV h;exact⟨_,_,by rw[t],p.2⟩
  all_goals first|exact h.elim|(rename_i j;simp only[j];exact⟨_,_,rfl,h.2⟩)
 case dI G x y=>obtain⟨v,t,p⟩:=Yu h;exact⟨_,_,by rw[t],p⟩
 case gJ G x y=>obtain⟨v,t,p⟩:=mV h;exact⟨_,_,by rw[t],p.2⟩
 case j' I G x y=>obtain⟨v,t,p⟩:=mV h;exact⟨_,_,by rw[t],p.2⟩
 case not x=>split at h<;>first|exact h.elim|(rename_i j;simp only[j];exact⟨_,_,rfl,h.2⟩)
 case neg x=>split at h<;>first|exact h.elim|(rename_i j;simp only[j];exact⟨_,_,rfl,h.2⟩)
 case tA x=>split at h<;>first|exact h.elim|(rename_i j;simp only[j];exact⟨_,_,rfl,h.2⟩)
 case conv k x=>split at h<;>first|exact h.elim|(rename_i j;simp only[j];exact⟨_,_,rfl,h.2⟩)
 case gT f U=>exact⟨_,_,by rw[aX h.1],h.2⟩
 case cM B zero l c =>
  obtain⟨n,t,h⟩:=BZ h;obtain⟨m,p,h⟩:=BZ h;exact⟨_,_,by simp only[t,p];rw[aX h.1],h.2⟩
 case slice B x lo hi =>
  obtain⟨l,t,h⟩:=I9 h;simp only[t];split at h
  .rename_i j;simp only[j];obtain⟨k,p,⟨z,A⟩,C⟩:=I9 h;simp only[p];exact⟨_,_,by rw[aX ⟨z.1,z.2,A.1,A.2⟩],C⟩
  .rename_i j;simp only[j];obtain⟨k,p,h⟩:=I9 h;obtain⟨o,z,A,C⟩:=mV h;simp only[p,z];exact⟨_,_,by rw[aX A],C⟩
  .rename_i j;simp only[j];obtain⟨k,p,A,C⟩:=I9 h;simp only[p];exact⟨_,_,by rw[aX A],C⟩
  .exact h.elim
 case iP O x =>
  split at h
  .rename_i j;simp only[j];obtain⟨o,t,p⟩:=mV h;exact⟨_,_,by rw[t],p.2⟩
  .rename_i j;simp only[j];exact⟨_,_,rfl,h.2⟩
  .exact h.elim
 case field O B S x=>obtain⟨v,t,h⟩:=mV h;obtain⟨u,p,z⟩:=mV h;exact⟨_,_,by simp only[t,p],z.2⟩
 case cG B x i =>
  obtain⟨n,t,h⟩:=BZ h;simp only[t];split at h
  .rename_i j;simp only[j];obtain⟨e,p,z,A⟩:=h;exact⟨_,_,by simp only[p];rw[aX z],A⟩
  .rename_i j;simp only[j];obtain⟨e,p,z,A⟩:=mV h;exact⟨_,_,by simp only[p];rw[aX z],A⟩
  .exact h.elim
 case cB m B x i =>
  obtain⟨n,t,h⟩:=BZ h;simp only[t];split at h
  .rename_i j;simp only[j];obtain⟨e,p,z,A⟩:=mV h;exact⟨_,_,by simp only[p];rw[aX z],A⟩
  .rename_i j;simp only[j];exact⟨_,_,by rw[aX h.1],h.2⟩
  .exact h.elim
 case idx m B S x i =>
  obtain⟨n,t,h⟩:=BZ h;obtain⟨v,p,h⟩:=mV h;obtain⟨u,z,E,A⟩:=mV h;exact⟨_,_,by simp only[t,E,cH,p,z],A⟩
 case extract x i =>
  split at h
  .rename_i j;simp only[j];obtain⟨e,p,z⟩:=mV h;exact⟨_,_,by rw[p],z.2⟩
  .rename_i j;simp only[j];obtain⟨e,p,z⟩:=mV h;exact⟨_,_,by rw[p],z.2⟩
  .exact h.elim
 case len x=>split at h<;>first|exact h.elim|(rename_i j;simp only[j];exact⟨_,_,rfl,h.2⟩)
 case append B a x =>
  obtain⟨J,t,h⟩:=PM h;simp only[t];split at h
  .rename_i j;obtain⟨⟨E,p⟩,z⟩:=h;have F:((J.map AV.ey).all λv=>v.sz == B)=true/\0<B:=E;simp only[j];rw[aX F];exact⟨_,_,by rw[aX p],z⟩
  .rename_i j;obtain⟨o,p,⟨E,z⟩,A⟩:=mV h;have F:((J.map AV.ey).all λv=>v.sz == B)=true/\0<B:=E;simp only[j];rw[aX F];simp only[p];exact⟨_,_,by rw[aX z],A⟩
  .exact h.elim
 case ic neg x =>
  split at h
  .rename_i j;simp only[j];exact⟨_,_,rfl,h.2⟩
  .rename_i j;simp only[j];exact⟨_,_,rfl,h.2⟩
  .rename_i j;simp only[j];exact⟨_,_,rfl,h.2⟩
  .rename_i X j;cases X with
   | nil=>exact absurd rfl h.1
   | cons y ys=>simp only[j];exact⟨_,_,rfl,h.2⟩
  .rename_i j;simp only[j];obtain⟨o,t,p,z⟩:=mV h;exact⟨_,_,by simp only[t];rw[aX p],z⟩
  .exact h.elim
 case cap x=>split at h<;>first|exact h.elim|(rename_i j;simp only[j];exact⟨_,_,rfl,h.2⟩)
 case clear B zero x =>
  split at h
  .rename_i j;simp only[j];exact⟨_,_,rfl,h.2⟩
  .rename_i j;simp only[j];obtain⟨o,t,p,z⟩:=mV h;exact⟨_,_,by simp only[t];rw[aX p],z⟩
  .exact h.elim
 case fE B zero a x =>
  obtain⟨n,t,h⟩:=BZ h;split at h
  .rename_i j;simp only[j,t];exact⟨_,_,by rw[aX h.1],h.2⟩
  .exact h.elim
 case mr qs zero x k =>
  split at h
  .rename_i r I R kc t p;simp only[t,p];refine⟨_,_,?_,h.2⟩;rw[aX h.1];cases oE kc I R<;>rfl
  .exact h.elim
 case jY qs zero x k =>
  split at h
  .rename_i r I R kc t p;simp only[t,p];refine⟨_,_,?_,h.2⟩;rw[aX h.1];cases oE kc I R<;>rfl
  .exact h.elim
 case qK x i =>
  obtain⟨n,t,h⟩:=BZ h;split at h
  .rename_i s j;simp only[j,t];obtain⟨b,Y,p,z⟩:=h;have:s[n]?=some b:=by
    have E:=(List.getElem?_eq_some_iff.1 Y);obtain⟨M,L⟩:=E;have H:n<s.size:=by simpa using M
    rw[getElem?_pos s n H,<- L];rfl
   exact⟨_,_,by simp only[this],z⟩
  .exact h.elim
 case min J=>obtain⟨v,t,p⟩:=mV h;exact⟨_,_,by rw[t],p.2⟩
 case max J=>obtain⟨v,t,p⟩:=mV h;exact⟨_,_,by rw[t],p.2⟩
 all_goals exact h.elim
end
inductive GC where
 | js
 | cX (ops:List Ins) (dead:List (List Nat))
 | fR (ops:List Ins) (pre:List (List Nat)) (dead:List (List Nat))
 | seq (a b:GC)
 | cond (c:bP) (dead:List Nat) (a b:GC)
 | bX (id:Nat) (b:GC)
 | loop (b:GC)
 | ext (id:Nat)
 | ret
 | bad
 | cut (b:GC)
 | Dp (b:GC)
def GC.er:GC->AC
 | .js=>.js
 | .cX is _=>.cX is
 | .fR is pre _=>.fR is pre
 | .seq a b=>.seq a.er b.er
 | .cond c _ a b=>.cond c a.er b.er
 | .bX id b=>.bX id b.er
 | .loop b=>.loop b.er
 | .ext id=>.ext id
 | .ret=>.ret
 | .bad=>.bad
 | .cut b=>b.er
 | .Dp b=>.Dp b.er
inductive Kt where
 | ins (is:List Ins) (dead:List (List Nat))
 | fN (is:List Ins) (fs:List FP) (pre:List (List Nat)) (dead:List (List Nat))
 | code (b:GC)
 | bX (id:Nat)
def GC.sz:GC->Nat
 | .cX is _=>is.length+2
 | .fR is _ _=>is.length+2
 | .seq a b=>a.sz+b.sz+1
 | .cond _ _ a b=>a.sz+b.sz+1
 | .bX _ b=>b.sz+2
 | .cut b=>b.sz+1
 | .Dp b=>b.sz+1
 | _=>1
def Kt.sz:Kt->Nat
 | .ins is _=>is.length+1
 | .fN is _ _ _=>is.length+1
 | .code b=>b.sz
 | .bX _=>1
def mZ:List Kt->Nat
 | []=>0
 | k::b=>k.sz+mZ b
def GC.eI(b:GC):0<b.sz:=by cases b<;>simp[GC.sz]
def Kt.eI(k:Kt):0<k.sz:=by cases k<;>simp[Kt.sz,GC.eI]
def fO(id:Nat):List Kt->Option (List Kt)
 | []=>none
 | .bX j::b=>if j=id then some b else fO id b
 | _::b=>fO id b
theorem Ew{id:Nat}:∀ {ks r:List Kt},fO id ks=some r->mZ r<mZ ks
 | .bX j::ks,r,h=>by
  simp only[fO]at h;simp only[mZ,Kt.sz];split at h
  .cases h;omega
  .have:=Ew h;omega
 | .ins _ _::ks,r,h=>by have:=Ew (ks:=ks) h;simp only[mZ,Kt.sz];omega
 | .fN _ _ _ _::ks,r,h=>by have:=Ew (ks:=ks) h;simp only[mZ,Kt.sz];omega
 | .code _::ks,r,h=>by have:=Ew (ks:=ks) h;simp only[mZ,Kt.sz];omega
def rep:List (Nat × AV)->Nat->AV->List (Nat × AV)
 | [],t,v=>[(t,v)]
 | (k,w)::r,t,v=>if k=t then(t,v)::r else(k,w)::rep r t v
def St.rep(st:St)(d:Option Nat)(v:AV):St :=
 match d with
 | some t=>⟨Ab.rep st.sl t v,st.hp⟩
 | none=>st
def yc(b:List Nat):List (Nat × AV)->List (Nat × AV)
 | []=>[]
 | (k,w)::r=>if b.elem k then yc b r else(k,w)::yc b r
def St.drop(st:St)(dead:List Nat):St:=⟨yc dead st.sl,st.hp⟩
def St.eR(st:St):List (List Nat)->St
 | []::_=>st
 | (a::l)::_=>st.drop (a::l)
 | []=>st
def vW(P:Program)(st:St)(d:Nat)(f:FuncId)(vs:List AV)(K:bJ->AV->St->Prop):Prop :=
 ∃ c:bJ,c.ok P/\∃ v s,xR (some c) st d f vs=some (v,s)/\K c v s
def Fk(P:Program)(st:St)(d:Nat)(f:AV)(vs:List AV)(K:bJ->AV->St->Prop):Prop :=
 match f with
 | .p (.fn f b)=>vW P st d f (vs++b.map .p) K
 | .fn f b=>vW P st d f (vs++b) K
 | _=>False
def pA(P:Program)(st:St)(d:Nat)(op:c7)(K:Option bJ->AV->St->Prop):Prop :=
 match op with
 | .call f args=>vW P st d f (args.map st.ev) λc=>K (some c)
 | .iv x args=>Fk P st d (st.ev x) (args.map st.ev) λc=>K (some c)
 | op=>fV (K none) (oc st d op)
def BE(st:St)(g:Option (Nat × Bool))(K:St->Prop)(J:St->Prop):Prop :=
 match g with
 | none=>K st
 | some (t,b)=>match st.get t with
  | .p (.bool c)=>(c=b->K (st.rep (some t) (.p (.bool b))))/\(c=(!b)->J (st.rep (some t) (.p (.bool !b))))
  | .skip=>J st
  | _=>False
def JM:AV->Prop->Prop->Prop
 | .p (.bool t),A,B=>(t=true->A)/\(t=false->B)
 | _,_,_=>False
def eT(P:Program)(N:Nat)(Q:Exit->St->Prop):List Kt->Exit->St->Prop
 | [],ex,s=>Q ex s
 | .bX id::f,ex,s=>match ex with
  | .exit j=>if j=id then eT P N Q f .normal s else eT P N Q f (.exit j) s
  | ex=>eT P N Q f ex s
 | .code b::f,ex,s=>match ex with
  | .normal=>∃ h m,cU P N b.er s h m/\eT P N Q f h m
  | ex=>eT P N Q f ex s
 | .ins l _::f,ex,s=>match ex with
  | .normal=>∃ k s1 i,rK P l k s s1/\aA s1 i/\eT P N Q f .normal i
  | ex=>eT P N Q f ex s
 | .fN l n pre _::f,ex,s=>match ex with
  | .normal=>∃ k s1 i,rK P l k s s1/\aJ [] 0 (n++k) pre=true/\aA s1 i/\eT P N Q f .normal i
  | ex=>eT P N Q f ex s
def vL(P:Program)(N:Nat)(Q:Exit->St->Prop)(b:GC)(ks:List Kt)(st:St):Prop:=∃ ex s,gu P N b.er st ex s/\eT P N Q ks ex s
def vm(P:Program)(N:Nat)(Q:Exit->St->Prop)(ks:List Kt)(st:St):Prop :=
 match ks with
 | []=>Q .normal st
 | .bX _::ks=>vm P N Q ks st
 | .ins [] f::ks=>vm P N Q ks st
 | .ins (i::j) f::ks=>BE st i.guard
   (λst=>pA P st (i.dst.getD 0) i.op λ_ v s=>vm P N Q (.ins j f.tail::ks) ((s.rep i.dst v).eR f))
   (λst=>vm P N Q (.ins j f.tail::ks) ((st.rep i.dst .skip).eR f))
 | .fN [] k pre f::ks=>aJ [] 0 k pre=true/\vm P N Q ks st
 | .fN (i::j) k pre f::ks=>BE st i.guard
   (λst=>pA P st (i.dst.getD 0) i.op λc v s=>vm P N Q (.fN j (k++[fp c st i]) pre f.tail::ks) ((s.rep i.dst v).eR f))
   (λst=>vm P N Q (.fN j (k++[fp none st i]) pre f.tail::ks) ((st.rep i.dst .skip).eR f))
 | .code .js::ks=>vm P N Q ks st
 | .code (.cX j f)::ks=>vm P N Q (.ins j f::ks) st
 | .code (.fR j pre f)::ks=>vm P N Q (.fN j [] pre f::ks) st
 | .code (.seq a b)::ks=>vm P N Q (.code a::.code b::ks) st
 | .code (.cond c f a b)::ks=>JM (st.ev c) (vm P N Q (.code a::ks) (st.drop f)) (vm P N Q (.code b::ks) (st.drop f))
 | .code (.bX id b)::ks=>vm P N Q (.code b::.bX id::ks) st
 | .code (.loop b)::ks=>vL P N Q b ks st
 | .code (.ext id)::ks=>match h:fO id ks with
  | some l=>vm P N Q l st
  | none=>Q (.exit id) st
 | .code .ret::_=>Q .ret st
 | .code .bad::_=>False
 | .code (.cut b)::ks=>eT P N Q (.code b::ks) .normal st
 | .code (.Dp _)::_=>False
termination_by mZ ks
decreasing_by all_goals (try have:=Ew h);simp only[mZ,Kt.sz,GC.sz,qH];(try have:=GC.eI ‹GC›);omega
section
variable {P:Program} {N:Nat} {st s1 st':St} {d:Nat} {Q:Exit->St->Prop}
theorem Tx(t:Nat)(v:AV)(n:Nat):∀ l:List (Nat × AV),look (rep l t v) n AV.undef=if t=n then v else look l n AV.undef
 | []=>by simp[rep,look]
 | (k,w)::r=>by
  have a:=Tx t v n r;simp[rep];split
  .rename_i h;subst h;simp[look]
   grind
  .rename_i h;simp[look,a];split
   .grind
   .rfl
theorem Mi(a:List Nat)(n:Nat):∀ l:List (Nat × AV),look (yc a l) n AV.undef=look l n AV.undef\/look (yc a l) n AV.undef=.undef
 | []=>.inl rfl
 | (k,w)::r=>by
  have h:=Mi a n r;have b:∀ l:List (Nat × AV),a.elem n=true->look (yc a l) n AV.undef=.undef:=by
   intro l i
   induction l with
   | nil=>rfl
   | cons q l h =>
    simp[yc];split
    .omega
    .rename_i f;simp[look];split
     .grind
     .omega
  simp[yc];split
  .rename_i f;simp[look];split
   .grind
   .omega
  .simp[look];split
   .simp
   .omega
theorem Fy(st:St)(t:Option Nat)(v:AV):iw (st.put t v) (st.rep t v):=by
 cases t with
 | none=>exact iw.refl _
 | some t =>
  refine⟨λn=>?_,λn=>rfl⟩;rw[xM];show look (rep st.sl t v) n AV.undef=_;rw[Tx];simp[St.get]
def Rv{t:Nat}{v:AV}(h:st.get t=v):iw st (st.rep (some t) v):=by
 refine iw.trans (t:=st.put (some t) v) ⟨λn=>?_,λn=>rfl⟩ (Fy st (some t) v);rw[xM];split
 .grind
 .rfl
def Ij{s t:St}(h:iw s t):aA s t:=λ_ Z _ _ a=>⟨Z,a.eqv h,.dW (sC h.site _)⟩
def II(st:St)(b:List Nat):aA st (st.drop b):=λK Z w a f=>by
 have i:cP Z st Z (st.drop b):=sC (s:=st) (t:=st.drop b) (λ_=>rfl) Z;refine⟨Z,⟨λt=>?_,f.defers,f.size,f.heap.jl λ_=>rfl⟩,.dW i⟩;obtain h|h:=Mi b t st.sl
 .show aQ Z _ (look (yc b st.sl) t AV.undef) _;rw[h];exact aQ.mono i (f.aY t)
 .show aQ Z _ (look (yc b st.sl) t AV.undef) _;rw[h];exact .undef _
structure Le (s t:St):Prop where
 get:∀ n,s.get n=t.get n\/s.get n=.undef
 site:∀ n,t.site n=s.site n
def Le.refl(s:St):Le s s:=⟨λ_=>.inl rfl,λ_=>rfl⟩
def Le.trans{s t u:St}(h:Le s t)(k:Le t u):Le s u :=
 ⟨λn=>(h.get n).elim (λe=>(k.get n).elim (λa=>.inl (e.trans a)) (λa=>.inr (e.trans a))) .inr,λn=>(k.site n).trans (h.site n)⟩
def Le.rW{s t:St}(h:iw s t):Le s t:=⟨λn=>.inl (h.get n).symm,h.site⟩
def Le.eE{s t:St}(h:Le s t):aA t s:=λK Z w a hs=>by
 have hz:cP Z t Z s:=sC (s:=t) (t:=s) (λn=>(h.site n).symm) Z;refine⟨Z,⟨λn=>?_,hs.defers,hs.size,hs.heap.jl λn=>(h.site n).symm⟩,.dW hz⟩;obtain e|e:=h.get n
 .rw[e];exact aQ.mono hz (hs.aY n)
 .rw[e];exact .undef _
def ygc(st:St)(a:List Nat):Le (st.drop a) st:=⟨λn=>Mi a n st.sl,λ_=>rfl⟩
theorem H'(st:St)(b:List (List Nat)):Le (st.eR b) st:=by
 match b with
 | []=>exact Le.refl _
 | []::_=>exact Le.refl _
 | (a::l)::_=>exact ygc st (a::l)
def Le.put{s t:St}(h:Le s t)(d:Option Nat){v w:AV}(a:v=w\/v=.undef):Le (s.put d v) (t.put d w):=by
 refine⟨λn=>?_,λn=>by rw[pT,pT];exact h.site n⟩;rw[xM,xM];split
 .omega
 .exact h.get n
theorem Le.ev{s t:St}(h:Le s t)(x:bP):s.ev x=t.ev x\/s.ev x=.undef:=by
 cases x with
 | t n=>exact h.get n
 | c v=>exact .inl rfl
theorem RJ:∀ {ps:List (Nat × Nat × AV)} {cells cs:List AV},A5 cells ps=some cs->∀ p∈ps,p.2.2 ≠ .undef
 | [],_,_,_,p,hp=>by cases hp
 | (b,f,v)::r,cells,cs,h,p,hp=>by
  simp only[A5]at h;split at h
  .rename_i a;obtain rfl|hp:=cI.1 hp
   .intro e;simp only at e;rw[e]at a;simp[AV.sz]at a;omega
   .exact RJ h p hp
  .grind
theorem RI:∀ {sz:Nat} {ps:List (Nat × AV)} {es r:List AV},0<sz->A4 es sz ps=some r->∀ p∈ps,p.2 ≠ .undef
 | _,[],_,_,_,_,p,hp=>by cases hp
 | sz,(i,v)::ps,es,r,b,h,p,hp=>by
  simp only[A4]at h;split at h
  .rename_i a;obtain rfl|hp:=cI.1 hp
   .intro e;simp only at e;rw[e]at a;simp[AV.sz]at a;omega
   .exact RI b h p hp
  .grind
def YL(st:St)(n:Nat):bH st n .undef=none:=by cases n<;>rfl
theorem Tz{st:St}:∀ {l:List AV} {ps:List PV},l.mapM (bH st bF)=some ps->∀ v∈l,v ≠ .undef
 | [],_,_,v,a=>by cases a
 | u::l,ps,h,v,a=>by
  obtain⟨y,i,b,f,_⟩:=EJ h;obtain rfl|a:=cI.1 a
  .intro e;rw[e]at b;cases b
  .exact Tz f v a
theorem MU{orc:Option bJ}{f:FuncId}{vs:List AV}{v:AV}{s:St}(h:xR orc st d f vs=some (v,s)):∀ v∈vs,v ≠ .undef:=by
 obtain⟨c,_,_,a,_⟩:=Gs h;cases b:BC c.res with
 | true =>
  unfold BD at a;cases i:c.res with
  | oo m n l j=>rw[i]at a;intro v k e;subst e;exact a.2.1 k
  | _=>rw[i]at b;cases b
 | false =>
  rw[z51 b]at a;exact Tz a
def Q0{mx:Bool}:∀ {l:List AV} {r:PV},yh mx l=some r->∀ v∈l,v ≠ .undef:=by
 have m:∀ (f:PV->AV->Option PV) (k:∀ a,f a .undef=none) (l:List AV) (a r:PV),l.foldlM f a=some r->∀ v∈l,v ≠ .undef:=by
  intro f k l
  induction l with
  | nil=>intro a r _ v i;cases i
  | cons x l n =>
   intro a r h v i;simp at h;cases j:f a x with
   | none=>rw[j]at h;cases h
   | some b =>
    rw[j]at h;obtain rfl|i:=cI.1 i
    .grind
    .grind
 intro l r h;unfold yh at h;split at h
 .grind
 .grind
theorem EB{o:Option bP}{n m:Nat}(h:sP st o n=some m):∀ x∈iJ o,st.ev x ≠ .undef:=by
 intro x a;cases o with
 | none=>cases a
 | some y =>
  simp[iJ]at a;subst a;intro e;simp only[sP,e]at h;cases h
def A6{v:AV}{n:Nat}(h:vw v=some n):v ≠ .undef:=by intro e;rw[e]at h;cases h
def ygz{orc:Option bJ}{w:c7}{v:AV}{s:St}(h:bY orc st d w=some (v,s)):(∃ x,w=.mv x)\/(∃ c a b,w=.pick c a b)\/∀ x∈w.bZ,st.ev x ≠ .undef:=by
 cases w<;>simp only[bY]at h<;>simp only[c7.bZ]
 case mv x=>exact .inl ⟨x,rfl⟩
 case pick c a b=>exact .inr (.inl ⟨c,a,b,rfl⟩)
 all_goals refine .inr (.inr λz hz=>?_)
 case alloc|raw|bad=>cases hz
 case box u x =>
  simp only[iT]at hz;subst hz;split at h
  .rename_i t;intro e;rw[e]at t;simp[AV.sz]at t;omega
  .cases h
 case build zero I =>
  split at h
  .rename_i L t;obtain⟨p,B,rfl⟩:=cA.1 hz;exact RJ t (p.1,p.2.1,st.ev p.2.2) (cA.2 ⟨p,B,rfl⟩)
  .cases h
 case b4 u zero n I =>
  split at h
  .rename_i G;split at h
   .rename_i F t;obtain⟨p,B,rfl⟩:=cA.1 hz;have:=RI G.2.1 t (p.1,(st.ev p.2).ey) (cA.2 ⟨p,B,rfl⟩);intro e;exact this (by simp only[e,AV.ey])
   .cases h
  .cases h
 case load|bV|not|neg|tA|conv|iP|extract|len|ic|cap|clear =>
  simp only[iT]at hz;subst hz;intro e;simp only[e]at h;cases h
 case field C u E x =>
  simp only[iT]at hz;subst hz;intro e;simp only[e,AV.jB]at h;cases h
 case fE u z a x =>
  simp only[cI,sF,or_false]at hz;split at h
  .rename_i j o;obtain rfl|rfl:=hz
   .rw[j];intro e;cases e
   .exact A6 o
  .cases h
 case mr J z x k =>
  simp only[cI,sF,or_false]at hz;split at h
  .rename_i j o;obtain rfl|rfl:=hz
   .rw[j];intro e;cases e
   .rw[o];intro e;cases e
  .cases h
 case jY J z x k =>
  simp only[cI,sF,or_false]at hz;split at h
  .rename_i j o;obtain rfl|rfl:=hz
   .rw[j];intro e;cases e
   .rw[o];intro e;cases e
  .cases h
 case qK x i =>
  simp only[cI,sF,or_false]at hz;split at h
  .rename_i j o;obtain rfl|rfl:=hz
   .rw[j];intro e;cases e
   .exact A6 o
  .cases h
 case store u a x =>
  simp only[cI,sF,or_false]at hz;split at h
  .rename_i H;split at h
   .split at h
    .split at h
     .rename_i t;obtain rfl|rfl:=hz
      .rw[H];intro e;cases e
      .intro e;rw[e]at t;simp[AV.sz]at t;omega
     .cases h
    .cases h
   .cases h
  .cases h
 case dI w x y =>
  simp only[cI,sF,or_false]at hz;split at h
  .rename_i r;unfold dI at r;split at r
   .rename_i j o;obtain rfl|rfl:=hz
    .rw[j];intro e;cases e
    .rw[o];intro e;cases e
   .cases r
  .cases h
 case gJ w x y =>
  simp only[cI,sF,or_false]at hz;split at h
  .rename_i r;unfold gJ at r;split at r
   .rename_i j o;obtain rfl|rfl:=hz
    .rw[j];intro e;cases e
    .rw[o];intro e;cases e
   .cases r
  .cases h
 case j' O w x y =>
  simp only[cI,sF,or_false]at hz;split at h
  .rename_i r;unfold j' at r;split at r
   .rename_i j o;obtain rfl|rfl:=hz
    .rw[j];intro e;cases e
    .rw[o];intro e;cases e
   .cases r
  .cases h
 case gT f D =>
  split at h
  .rename_i t;have:=k8.1 t (st.ev z) (cA.2 ⟨z,hz,rfl⟩);intro e;rw[e]at this;cases this
  .cases h
 case cM u zero l c =>
  simp only[cI,sF,or_false]at hz;split at h
  .rename_i j o;obtain rfl|rfl:=hz
   .exact A6 j
   .exact A6 o
  .cases h
 case slice u x R M =>
  simp only[cI,dN]at hz;split at h
  .rename_i l F j o;split at h
   .rename_i k A;obtain rfl|hz|hz:=hz
    .rw[o];intro e;cases e
    .exact EB j z hz
    .exact EB A z hz
   .cases h
  .rename_i l S g C len j o;split at h
   .rename_i k A;obtain rfl|hz|hz:=hz
    .rw[o];intro e;cases e
    .exact EB j z hz
    .exact EB A z hz
   .cases h
  .rename_i l j o;split at h
   .rename_i k A;obtain rfl|hz|hz:=hz
    .rw[o];intro e;cases e
    .exact EB j z hz
    .exact EB A z hz
   .cases h
  .cases h
 case cG u x i =>
  simp only[cI,sF,or_false]at hz;split at h
  .rename_i j o;obtain rfl|rfl:=hz
   .rw[o];intro e;cases e
   .exact A6 j
  .rename_i j o;obtain rfl|rfl:=hz
   .rw[o];intro e;cases e
   .exact A6 j
  .cases h
 case cB m u x i =>
  simp only[cI,sF,or_false]at hz;split at h
  .rename_i j o;obtain rfl|rfl:=hz
   .rw[o];intro e;cases e
   .exact A6 j
  .rename_i j o;obtain rfl|rfl:=hz
   .rw[o];intro e;cases e
   .exact A6 j
  .cases h
 case idx m u E x i =>
  simp only[cI,sF,or_false]at hz;split at h
  .rename_i j;obtain rfl|rfl:=hz
   .intro e;simp only[e,AV.jB]at h;split at h<;>cases h
   .exact A6 j
  .cases h
 case append u a x =>
  simp only[cI,sF,or_false]at hz;split at h
  .rename_i j;obtain rfl|rfl:=hz
   .intro e;simp only[e]at h;split at h<;>cases h
   .intro e;rw[e]at j;cases j
  .cases h
 case min K =>
  split at h
  .rename_i j;exact Q0 j _ (cA.2 ⟨z,hz,rfl⟩)
  .cases h
 case max K =>
  split at h
  .rename_i j;exact Q0 j _ (cA.2 ⟨z,hz,rfl⟩)
  .cases h
 case call f args=>exact MU h _ (cA.2 ⟨z,hz,rfl⟩)
 case iv x args =>
  simp only[cI]at hz;split at h
  .rename_i j;obtain rfl|hz:=hz
   .rw[j];intro e;cases e
   .exact MU h _ (dN.2 (.inl (cA.2 ⟨z,hz,rfl⟩)))
  .rename_i j;obtain rfl|hz:=hz
   .rw[j];intro e;cases e
   .exact MU h _ (dN.2 (.inl (cA.2 ⟨z,hz,rfl⟩)))
  .cases h
def yga{s t s1 a:St}{R W:List Nat}(h:Le s t)(e:pJ s s1 t a R W)(d:Option Nat)(v:AV):Le (s1.put d v) (a.put d v):=by
 obtain⟨p,f,i,j,k,r⟩:=e;have o:Le s1 a:=by
  refine⟨λn=>?_,λn=>?_⟩
  .have l:s1.get n=s.get n:=AB k n;have m:a.get n=t.get n:=AB j n;rw[l,m];exact h.get n
  .by_cases b:n∈W
   .grind
   .rw[f n b,i n b];exact h.site n
 exact o.put d (.inl rfl)
theorem ygp{orc:Option bJ}{i:Ins}{s B t:St}(h:Le s t)(l:exec orc s i=some B):∃ D,exec orc t i=some D/\fp orc t i=fp orc s i/\Le B D:=by
 have z:(∃ v s1,bY orc s (i.dst.getD 0) i.op=some (v,s1)/\B=s1.put i.dst v/\(∀ orc,exec orc t i=tM orc t i)/\runs t i=runs s i) \/
   (B=s.put i.dst .skip/\exec orc t i=some (t.put i.dst .skip)/\runs t i=false/\runs s i=false):=by
  unfold exec at l;split at l
  .rename_i o;unfold tM at l;split at l
   .rename_i v s1 j;cases l;exact .inl ⟨v,s1,j,rfl,λorc=>by simp only[exec,o],by simp only[runs,o]⟩
   .grind
  .rename_i g b o;split at l
   .rename_i c r;have k:t.get g=.p (.bool c):=by
     obtain e|e:=h.get g
     .grind
     .grind
    split at l
    .rename_i m;unfold tM at l;split at l
     .rename_i v s1 j;cases l;exact .inl ⟨v,s1,j,rfl,λorc=>by simp only[exec,o,k,m,cH],by simp only[runs,o,k,r]⟩
     .grind
    .rename_i m;cases l;exact .inr ⟨rfl,by simp only[exec,o,k,m,if_false],by simp only[runs,o,k];simpa using m,by simp only[runs,o,r];simpa using m⟩
   .rename_i r;have k:t.get g=.skip:=by
     obtain e|e:=h.get g
     .rw[<- e,r]
     .rw[r]at e;cases e
    cases l;exact .inr ⟨rfl,by simp only[exec,o,k],by simp only[runs,o,k],by simp only[runs,o,r]⟩
   .cases l
 obtain⟨v,s1,j,rfl,w,A⟩|⟨rfl,j,G,H⟩:=z
 .obtain⟨x,f⟩|⟨c,a,b,f⟩|hd:=ygz j
  .rw[f]at j;simp only[bY,cD,c5]at j;obtain⟨rfl,rfl⟩:=j;refine⟨t.put i.dst (t.ev x),by rw[w];simp only[tM,f,bY],by simp only[fp,A,f,ek,gV],h.put _ (h.ev x)⟩
  .rw[f]at j;simp only[bY]at j;have r:∀ q,s.ev c=.p (.bool q)->t.ev c=.p (.bool q):=λq u=>by
    obtain e|e:=h.ev c
    .rw[<- e,u]
    .rw[u]at e;cases e
   split at j
   .rename_i u;cases j;exact⟨t.put i.dst (t.ev a),by rw[w];simp only[tM,f,bY,r _ u],by simp only[fp,A,f,ek,gV],h.put _ (h.ev a)⟩
   .rename_i u;cases j;exact⟨t.put i.dst (t.ev b),by rw[w];simp only[tM,f,bY,r _ u],by simp only[fp,A,f,ek,gV],h.put _ (h.ev b)⟩
   .cases j
  .have y:∀ x∈i.op.bZ,t.ev x=s.ev x:=λx w=>(h.ev x).elim (λe=>e.symm) (λe=>absurd e (hd x w));obtain⟨I,E,F⟩:=LW (orc:=orc) j y (λn _=>h.site n);have C:=Qt (orc:=orc) (d:=i.dst.getD 0) y (λn _=>h.site n);refine⟨I.put i.dst v,by rw[w];simp only[tM,E],by simp only[fp,A,C.1,C.2],?_⟩;exact yga h F i.dst v
 .exact⟨_,j,by simp only[fp,G,H,gP,fQ],h.put _ (.inl rfl)⟩
theorem FU{b:List Ins}:∀ {a:List FP} {st s1 st':St},rK P b a st st'->iw st s1->∃ k,rK P b a s1 k/\iw st' k
 | _,st,s1,_,.nil _,h=>⟨s1,.nil _,h⟩
 | _,st,s1,_,.cons j i b f a _ k _ o p r s,h=>by obtain⟨x,l,m,n⟩:=TF p h;obtain⟨w,t,u⟩:=FU s n;exact⟨w,.cons j i b f a _ _ _ o l (m ▸ r) t,u⟩
theorem Fu{b:List Ins}:∀ {a:List FP} {st s1 st':St},rK P b a st st'->Le st s1->∃ k,rK P b a s1 k/\Le st' k
 | _,st,s1,_,.nil _,h=>⟨s1,.nil _,h⟩
 | _,st,s1,_,.cons j i b f a _ k _ o p r s,h=>by obtain⟨x,l,m,n⟩:=ygp h p;obtain⟨w,t,u⟩:=Fu s n;exact⟨w,.cons j i b f a _ _ _ o l (m ▸ r) t,u⟩
def Sw{m:c7}{K:Option bJ->AV->St->Prop}(h:pA P st d m K):∃ orc v s,xH P orc/\bY orc st d m=some (v,s)/\K orc v s:=by
 unfold pA at h;split at h
 .obtain⟨c,a,v,s,b,k⟩:=h;exact⟨some c,v,s,λ_ i=>by cases i;exact a,b,k⟩
 .unfold Fk at h;split at h
  .rename_i f j l;obtain⟨c,a,v,s,b,k⟩:=h;exact⟨some c,v,s,λ_ i=>by cases i;exact a,by simp[bY,l];exact b,k⟩
  .rename_i f j l;obtain⟨c,a,v,s,b,k⟩:=h;exact⟨some c,v,s,λ_ i=>by cases i;exact a,by simp[bY,l];exact b,k⟩
  .grind
 .obtain⟨v,s,a,b⟩:=YX h;exact⟨none,v,s,λ_ i=>(by cases i),a,b⟩
def PR{i:Ins}{K:St->Option bJ->AV->St->Prop}{J:St->Prop}
  (h:BE st i.guard (λst=>pA P st (i.dst.getD 0) i.op (K st)) J) :
  (∃ s0 orc v s,iw s0 st/\xH P orc/\exec orc s0 i=some (s.put i.dst v)/\K s0 orc v s)\/(∃ s0,iw s0 st/\exec none s0 i=some (s0.put i.dst .skip)/\J s0):=by
 unfold BE at h;split at h
 .rename_i l;obtain⟨orc,v,s,n,o,r⟩:=Sw h;exact .inl ⟨st,orc,v,s,iw.refl _,n,by simp only[exec,l,tM,o],r⟩
 .rename_i t b l;split at h
  .rename_i c j;by_cases m:c=b
   .subst m;obtain⟨orc,v,s,n,o,r⟩:=Sw (h.1 rfl);have k:=Rv (t:=t) j;have f:(st.rep (some t) (.p (.bool c))).get t=.p (.bool c):=by rw[k.get];exact j
    exact .inl ⟨_,orc,v,s,iw.symm k,n,by simp only[exec,l,f,cH,tM,o],r⟩
   .have a:c = !b:=by cases c<;>cases b<;>simp_all
    have k:=Rv (t:=t) (v:=.p (.bool !b)) (by rw[j,a]);have f:(st.rep (some t) (.p (.bool !b))).get t=.p (.bool !b):=by rw[k.get,j,a]
    refine .inr ⟨_,iw.symm k,?_,h.2 a⟩;simp only[exec,l,f];rw[bD (by cases b<;>simp)]
  .rename_i j;exact .inr ⟨st,iw.refl _,by simp only[exec,l,j],h⟩
  .exact h.elim
def z21{v:AV}{A B:Prop}(h:JM v A B):(v=.p (.bool true)/\A)\/(v=.p (.bool false)/\B):=by
 unfold JM at h;split at h
 .rename_i t;cases t
  .grind
  .grind
 .grind
theorem Es{id:Nat}:∀ {ks:List Kt} {s:St},(match fO id ks with|some a=>eT P N Q a .normal s|none=>Q (.exit id) s)->eT P N Q ks (.exit id) s
 | [],s,h=>h
 | .bX j::ks,s,h=>by
  simp[fO]at h;simp[eT];by_cases b:j=id
  .grind
  .rw[bD (λh=>b h.symm)];simp[b]at h;exact Es h
 | .ins _ _::ks,s,h=>Es (ks:=ks) h
 | .fN _ _ _ _::ks,s,h=>Es (ks:=ks) h
 | .code _::ks,s,h=>Es (ks:=ks) h
theorem zU:∀ {ks:List Kt} {s:St},Q .ret s->eT P N Q ks .ret s
 | [],s,h=>h
 | .bX j::ks,s,h=>zU (ks:=ks) h
 | .ins _ _::ks,s,h=>zU (ks:=ks) h
 | .fN _ _ _ _::ks,s,h=>zU (ks:=ks) h
 | .code _::ks,s,h=>zU (ks:=ks) h
theorem WO{b:List Ins}{a:List (List Nat)}{ks:List Kt}(h:eT P N Q (.ins b a::ks) .normal st):eT P N Q (.code (.cX b a)::ks) .normal st:=by obtain⟨l,s1,k,f,i,j⟩:=h;exact⟨.normal,k,(cU.cX f).sU i,j⟩
theorem XR{b:List Ins}{pre:List (List Nat)}{a:List (List Nat)}{ks:List Kt}(h:eT P N Q (.fN b [] pre a::ks) .normal st):eT P N Q (.code (.fR b pre a)::ks) .normal st:=by obtain⟨m,s1,l,i,f,j,k⟩:=h;exact⟨.normal,l,(cU.fR i (by simpa using f)).sU j,k⟩
theorem z91{a b:GC}{ks:List Kt}(h:eT P N Q (.code a::.code b::ks) .normal st):eT P N Q (.code (.seq a b)::ks) .normal st:=by
 obtain⟨f,s1,i,j⟩:=h;cases f with
 | normal =>
  obtain⟨f,m,k,l⟩:=j;exact⟨f,m,.seq i k,l⟩
 | _=>exact⟨_,s1,.NU i (by simp),j⟩
theorem z93{id:Nat}{b:GC}{ks:List Kt}(h:eT P N Q (.code b::.bX id::ks) .normal st):eT P N Q (.code (.bX id b)::ks) .normal st:=by
 obtain⟨k,s,i,a⟩:=h;cases k with
 | exit j =>
  simp[eT]at a;split at a
  .rename_i f;subst f;exact⟨_,s,.Oy i,a⟩
  .rename_i f;exact⟨_,s,.Ox i f,a⟩
 | _=>exact⟨_,s,.bX i (by simp),a⟩
theorem lL:∀ (n:Nat) {ks:List Kt} {st:St},mZ ks<=n->vm P N Q ks st->eT P N Q ks .normal st
 | n,[],st,l,h=>by unfold vm at h;exact h
 | 0,k::ks,st,l,h=>by simp only[mZ]at l;have:=Kt.eI k;omega
 | n+1,.bX j::ks,st,l,h=>by
  unfold vm at h;have S:mZ ks<=n:=by simp only[mZ,Kt.sz]at l;omega
  exact(lL n S h:eT P N Q ks .normal st)
 | n+1,.ins [] f::ks,st,l,h=>by
  unfold vm at h;exact⟨[],st,_,.nil _,aA.refl _,lL n (by simp only[mZ,Kt.sz,List.length_nil]at l ⊢;omega) h⟩
 | n+1,.fN [] R pre f::ks,st,l,h=>by
  unfold vm at h;exact⟨[],st,_,.nil _,by simpa using h.1,aA.refl _,lL n (by simp only[mZ,Kt.sz,List.length_nil]at l ⊢;omega) h.2⟩
 | n+1,.ins (i::r) f::ks,st,l,h=>by
  unfold vm at h;have p:mZ (.ins r f.tail::ks)<=n:=by simp only[mZ,Kt.sz,qH]at l ⊢;omega
  obtain⟨u,x,v,s,w,M,y,z⟩|⟨u,w,y,z⟩:=PR (K:=λ_ _ v s=>vm P N Q (.ins r f.tail::ks) ((s.rep i.dst v).eR f)) h
  .obtain⟨t,s1,D,m,o,C⟩:=lL n p z;obtain⟨E,A,B⟩:=Fu m ((H' _ f).trans (Le.rW (iw.symm (Fy s i.dst v))));obtain⟨F,G,H⟩:=FU (rK.cons x i r _ t u _ E M y (FP.Sub.refl _) A) w;exact⟨_,F,D,G,(Ij (iw.symm H)).trans (B.eE.trans o),C⟩
  .obtain⟨t,s1,D,m,o,C⟩:=lL n p z;obtain⟨E,A,B⟩:=Fu m ((H' _ f).trans (Le.rW (iw.symm (Fy u i.dst .skip))));obtain⟨F,G,H⟩:=FU (rK.cons none i r _ t u _ E (λ_ L=>by cases L) y (FP.Sub.refl _) A) w;exact⟨_,F,D,G,(Ij (iw.symm H)).trans (B.eE.trans o),C⟩
 | n+1,.fN (i::r) R pre f::ks,st,l,h=>by
  unfold vm at h;have p:∀ t,mZ (.fN r t pre f.tail::ks)<=n:=by intro t;simp only[mZ,Kt.sz,qH]at l ⊢;omega
  obtain⟨u,x,v,s,w,M,y,z⟩|⟨u,w,y,z⟩:=PR (K:=λst c v s=>vm P N Q (.fN r (R++[fp c st i]) pre f.tail::ks) ((s.rep i.dst v).eR f)) h
  .obtain⟨t,s1,D,m,O,o,C⟩:=lL n (p _) z;obtain⟨E,A,B⟩:=Fu m ((H' _ f).trans (Le.rW (iw.symm (Fy s i.dst v))));obtain⟨F,G,H⟩:=FU (rK.cons x i r _ t u _ E M y (FP.Sub.refl _) A) w;exact⟨_,F,D,G,by simpa using O,(Ij (iw.symm H)).trans (B.eE.trans o),C⟩
  .obtain⟨t,s1,D,m,O,o,C⟩:=lL n (p _) z;obtain⟨E,A,B⟩:=Fu m ((H' _ f).trans (Le.rW (iw.symm (Fy u i.dst .skip))));obtain⟨F,G,H⟩:=FU (rK.cons none i r _ t u _ E (λ_ L=>by cases L) y (FP.Sub.refl _) A) w;exact⟨_,F,D,G,by simpa using O,(Ij (iw.symm H)).trans (B.eE.trans o),C⟩
 | n+1,.code .js::ks,st,l,h=>by
  unfold vm at h;exact⟨.normal,st,.js,lL n (by simp only[mZ,Kt.sz,GC.sz]at l ⊢;omega) h⟩
 | n+1,.code (.cX r f)::ks,st,l,h=>by
  unfold vm at h;exact WO (lL n (by simp only[mZ,Kt.sz,GC.sz]at l ⊢;omega) h)
 | n+1,.code (.fR r pre f)::ks,st,l,h=>by
  unfold vm at h;exact XR (lL n (by simp only[mZ,Kt.sz,GC.sz]at l ⊢;omega) h)
 | n+1,.code (.seq a b)::ks,st,l,h=>by
  unfold vm at h;exact z91 (lL n (by simp only[mZ,Kt.sz,GC.sz]at l ⊢;omega) h)
 | n+1,.code (.bX id b)::ks,st,l,h=>by
  unfold vm at h;exact z93 (lL n (by simp only[mZ,Kt.sz,GC.sz]at l ⊢;omega) h)
 | n+1,.code (.cond c f a b)::ks,st,l,h=>by
  unfold vm at h;obtain⟨e,h⟩|⟨e,h⟩:=z21 h
  .obtain⟨I,s,m,o⟩:=lL n (by have:=GC.eI b;simp only[mZ,Kt.sz,GC.sz]at l ⊢;omega) h;exact⟨I,s,.Hn e (m.nK (II _ _)),o⟩
  .obtain⟨I,s,m,o⟩:=lL n (by have:=GC.eI a;simp only[mZ,Kt.sz,GC.sz]at l ⊢;omega) h;exact⟨I,s,.Ho e (m.nK (II _ _)),o⟩
 | n+1,.code (.loop b)::ks,st,l,h=>by
  unfold vm at h;obtain⟨I,s,m,o⟩:=h;exact⟨I,s,.loop m,by cases I<;>exact o⟩
 | n+1,.code (.ext id)::ks,st,l,h=>by
  unfold vm at h;refine⟨.exit id,st,.ext,Es ?_⟩;split at h
  .rename_i U J;simp only[J];exact lL n (by have:=Ew J;simp only[mZ,Kt.sz,GC.sz]at l ⊢;omega) h
  .rename_i J;simp only[J];exact h
 | n+1,.code .ret::ks,st,l,h=>by
  unfold vm at h;exact⟨.ret,st,.ret,zU h⟩
 | n+1,.code .bad::ks,st,l,h=>by
  unfold vm at h;exact h.elim
 | n+1,.code (.Dp b)::ks,st,l,h=>by unfold vm at h;exact h.elim
 | n+1,.code (.cut b)::ks,st,l,h=>by unfold vm at h;exact h
end
end Go.Ab
