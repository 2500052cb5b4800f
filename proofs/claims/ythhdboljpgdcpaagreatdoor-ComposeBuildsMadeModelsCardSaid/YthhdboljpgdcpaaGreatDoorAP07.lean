/- Lemmas for the law ComposeBuildsMadeModels, part 7. No conditions. -/
import Derived.Test.YthhdboljpgdcpaaGreatDoorAP06
import Derived.Scope
set_option maxRecDepth 100000
set_option maxHeartbeats 4000000
set_option linter.all false
namespace Go.Ab
inductive rG (P:Program):List Ins->List FP->St->St->Prop
 | nil (st:St):rG P [] [] st st
 | cons (orc:Option bI) (i:Ins) (is:List Ins) (f:FP) (fs:List FP) (st s1 st':St):wU P orc->exec orc st i=some s1->(fp orc st i).Sub f->rG P is fs s1 st'->rG P (i::is) (f::fs) st st'
section
variable {P:Program} {K:Ctx} {Z Z':Cz} {st st' st2:St} {w w':World} {a:Act} {orc:Option bI} {d:Nat} {v:AV} {ops:Array Oper} {Q:Exit->Act->World->Prop}
theorem rG.items:∀ {is:List Ins} {fs:List FP} {st st':St},rG P is fs st st'->∃ items:List Item,items.map (·.1.2)=is/\items.map (·.2)=fs/\(∀ x∈items,wU P x.1.1)/\fW items st st'
 | _,_,_,_,.nil st=>⟨[],rfl,rfl,by simp,.nil st⟩
 | _,_,_,_,.cons orc i is f fs st s1 st' m n o h3=>by obtain⟨items,b,j,k,l⟩:=rG.items h3;exact⟨((orc,i),f)::items,by simp[b],by simp[j],λx p=>(bY.1 p).elim (λh=>h ▸ m) (k x),.cons _ _ _ _ _ n o l⟩
theorem Pg{it:Nat->Item}:∀ (R:List Nat) {st:St} {Z:Cz} {w:World} {a:Act},(∀ i∈R,∃ o,ops[i]?=some o/\xa P K.N ops o=some (it i).1.2/\wU P (it i).1.1)->fW (R.map it) st st'->aN K Z st w a ->
  (∀ Z' w' b,aN K Z' st' w' b->cV Z st Z' st'->Q .normal b w')->wpOps P ops Q R a w
 | [],st,Z,w,a,_,h,l,f=>by cases h;exact f _ _ _ l (cV.refl _ _)
 | i::R,st,Z,w,a,p,h,l,f=>by
  rw[jH]at h;cases h with
  | cons _ _ _ F _ A E B =>
   obtain⟨o,t,u,z⟩:=p i (by simp);rw[wpOps_cons];exact Gr t u l z A (λZ' w' b m D=>Pg R (λj C=>p j (by simp[C])) B m (λr w2 s n k=>f r w2 s n (D.trans k)))
def oS(b:Region.Mode)(ops:Array Oper):List Nat->List Nat->Bool
 | [],seen=>(List.range ops.size).all (seen.contains ·)
 | x::r,seen=>(match ops[x]? with
  | some o=>o.after.toList.all λe=>!Region.binds b e||seen.contains e.on
  | none=>false)&&oS b ops r (x::seen)
theorem Lo{u:Region.Mode}{b:Array Bool}:∀ (L seen:List Nat),b.size=ops.size->oS u ops L seen=true->(∀ x∈seen,b.getD x false=true)->(∃ i,i<ops.size/\b.getD i true=false)->Region.ready u ops b≠[]
 | [],seen,_,h,k,⟨i,D,n⟩=>by
  simp only[oS,List.all_eq_true,List.mem_range]at h;have f:=k i (by simpa using h i D);obtain l|l:=Nat.lt_or_ge i b.size
  .simp[l]at f n;rw[f]at n;cases n
  .simp[DU l]at f
 | x::r,seen,j,h,k,m=>by
  simp only[oS,kq]at h;obtain⟨f,A⟩:=h;split at f
  .rename_i o z;cases s:b.getD x true with
   | false =>
    intro E;have:x∈Region.ready u ops b:=mem_ready.2 ⟨s,o,z,λe C B=>by
     have:=List.all_eq_true.1 f e (by simpa using C);simp[B]at this;exact k _ this⟩
    rw[E]at this;cases this
   | true =>
    have p:x<b.size:=by rw[j];exact(sG.1 z).1
    refine Lo r (x::seen) j A (λy t=>?_) m;obtain rfl|t:=bY.1 t
    .simp[p]at s ⊢;exact s
    .exact k y t
  .cases f
def Oq{b:Region.Mode}{e:Edge}(h:Region.binds .any e=true):Region.binds b e=true:=by unfold Region.binds at h ⊢;cases f:e.ground<;>simp_all
inductive wS (ops:Array Oper):Nat->Nat->Prop
 | one {x y:Nat} {o:Oper} {e:Edge}:ops[x]?=some o->e∈o.after->e.on=y->Region.binds .any e=true->wS ops y x
 | more {x y z:Nat} {o:Oper} {e:Edge}:wS ops y z->ops[x]?=some o->e∈o.after->e.on=z->Region.binds .any e=true->wS ops y x
theorem Pf{md:Region.Mode}{it:Nat->Item}{pre:Nat->List Nat}(u:∀ x o,ops[x]?=some o->∀ y∈pre x,wS ops y x)
  (hc:∀ i,i<ops.size->∃ o,ops[i]?=some o/\xa P K.N ops o=some (it i).1.2/\wU P (it i).1.1) {L:List Nat} (m:oS md ops L []=true) :
  ∀ (n:Nat) (R:List Nat) {b:Array Bool} {st st':St} {Z:Cz} {w:World} {a:Act},R.length=n->R.Nodup->b.size=ops.size->(∀ y z,b.getD z false=true->wS ops y z->b.getD y false=true)->(∀ i,i∈R ↔ i<ops.size/\b.getD i true=false) ->
   R.Pairwise (λy x=>y∈pre x\/xz (it y).2 (it x).2=true)->fW (R.map it) st st'->aN K Z st w a ->
   (∀ Z' w' a',aN K Z' st' w' a'->cV Z st Z' st'->Q .normal a' w')->wpAny P md ops Q n b a w
 | 0,R,b,st,st',Z,w,a,hn,_,l,_,I,_,k,hs,hQ=>by
  have:R=[]:=List.length_eq_zero_iff.1 hn;subst this;refine⟨?_,?_⟩
  .apply SO.2;intro i S;obtain⟨h1,o,p,_⟩:=mem_ready.1 S;have:=(I i).2 ⟨(sG.1 p).1,h1⟩;cases this
  .cases k;exact hQ _ _ _ hs (cV.refl _ _)
 | n+1,R,b,st,st',Z,w,a,hn,al,l,O,I,X,k,hs,hQ=>by
  refine⟨λhr=>?_,λi S=>?_⟩
  .exact absurd hr (Lo L [] l m (by simp) (by
    obtain⟨i,S⟩:∃ i,i∈R:=by
     cases R with
     | nil=>simp at hn
     | cons i r=>exact⟨i,by simp⟩
    exact⟨i,(I i).1 S⟩))
  .obtain⟨h1,o,p,h3⟩:=mem_ready.1 S;have ag:=(I i).2 ⟨(sG.1 p).1,h1⟩;obtain⟨ys,xs,rfl⟩:=Ml ag;have gd:∀ e∈o.after,Region.binds .any e=true->b.getD e.on false=true:=by
    intro e he hb;have C:=h3 e he (Oq hb);obtain B|B:=pR e.on b.size
    .simp[B]at C ⊢;exact C
    .simp[DU B]at C
   have s:∀ y,wS ops y i->b.getD y false=true:=by
    intro y A;cases A with
    | one H k2 M k4=>rw[p]at H;cases H;rw[<- M];exact gd _ k2 k4
    | more k0 H k2 M k4=>rw[p]at H;cases H;exact O _ _ (by rw[<- M];exact gd _ k2 k4) k0
   have U:∀ y∈ys,xz (it y).2 (it i).2=true:=by
    intro y A;have:=(vy.1 X).2.2 y A i (by simp);obtain h|h:=this
    .have C:=s y (u i o p y h);have h5:=((I y).1 (by simp[A])).2;obtain B|B:=pR y b.size
     .simp[B]at C h5;rw[C]at h5;cases h5
     .simp[DU B]at C
    .exact h
   rw[qY,jH]at k;obtain⟨st1,F,t⟩:=fW.front k (λy A=>by obtain⟨z,J,rfl⟩:=cD.1 A;exact U z J);cases F with
   | cons _ _ _ s1 _ H k2 M =>
    obtain⟨o',e1,e2,e3⟩:=hc i (Array.getElem?_eq_some_iff.1 p).1;refine Gr e1 e2 hs e3 H (λZ' w' a' G hp=>?_);have f:=List.nodup_append.1 al;have V:i∉ys:=λh=>f.2.2 i h i (by simp) rfl;have W:i∉xs:=(List.nodup_cons.1 f.2.1).1;rw[<- List.map_append]at M;refine Pf u hc m n (ys++xs) (by simp at hn ⊢;omega) ?_ (by simpa using l) ?_ ?_ ?_ M G ?_
    .refine FF.2 ⟨f.1,(uH.1 f.2.1).2,λy A z J=>f.2.2 y A z (by simp[J])⟩
    .intro y z J ad;by_cases Y:y=i
     .subst Y;have E:y<b.size:=by rw[l];exact(sG.1 p).1
      simp[E]
     .rw[getD_set_ne false (v8 Y)];by_cases af:z=i
      .subst af;exact s y ad
      .rw[getD_set_ne false (v8 af)]at J;exact O y z J ad
    .intro j;by_cases D:j=i
     .subst D;have E:j<b.size:=by rw[l];exact(sG.1 p).1
      simp[V,W,E]
     .rw[getD_set_ne true (v8 D),<- I j];simp[D]
    .refine Ip ?_ X;exact List.Sublist.append_left (List.sublist_cons_self _ _) _
    .intro Z2 w' a' G ao;refine hQ _ _ _ (G.eqv (gT.symm t)) ((hp.trans ao).trans (.dR (sC (gT.symm t).site _)))
end
def x6(ops:List Oper):List (List Nat):=ops.map λo=>(o.after.toList.filter (Region.binds .any)).map (·.on)
def Aw:List Nat->List Nat
 | []=>[]
 | x::l=>if (Aw l).contains x then Aw l else x::Aw l
def wQ:List (List Nat)->List (List Nat)->List (List Nat)
 | b,[]=>b
 | b,p::f=>wQ (b++[Aw (p++p.flatMap λy=>b.getD y [])]) f
def Mv(ops:Array Oper):Bool :=
 oS .any ops (List.range ops.size) []&&(!Region.departs ops||(oS .text ops (List.range ops.size) []&&oS .gc ops (Region.linearise .gc ops 0) []))
def comp(P:Program)(N:Nat):Code->Option AC
 | .skip=>some .iX
 | .region _ ops f=>if f=true then(if Mv ops=true then(BF P N ops ops.toList).map λl=>.fM l (wQ [] (x6 ops.toList))else none)else(BF P N ops ops.toList).map .cY
 | .seq a b=>match comp P N a,comp P N b with
  | some x,some y=>some (.seq x y)
  | _,_=>none
 | .cond c a b=>match dJ c,comp P N a,comp P N b with
  | some c,some x,some y=>some (.cond c x y)
  | _,_,_=>none
 | .block id b=>(comp P N b).map (.bU id)
 | .loop b=>(comp P N b).map .loop
 | .exit id=>some (.ext id)
 | .ret=>some .ret
 | .label _=>some .iX
 | .scope b=>(comp P N b).map .Cm
 | _=>none
def aQ:List (Nat × FP)->Nat->List FP->List (List Nat)->Bool
 | _,_,[],_=>true
 | done,n,f::b,h::nJ=>(done.all λ(y,g)=>h.contains y||xz g f)&&aQ ((n,f)::done) (n+1) b nJ
 | _,_,_::_,[]=>false
section
variable {P:Program} {K:Ctx} {Z Z':Cz} {st st' st1 st2:St} {w w':World} {a:Act} {orc:Option bI} {d N:Nat} {v:AV} {ops:Array Oper} {Q:Exit->Act->World->Prop}
theorem JW:∀ {done:List (Nat × FP)} {n:Nat} {i:List FP} {nJ:List (List Nat)},aQ done n i nJ=true->∀ (x:Nat) (f:FP),i[x]?=some f ->
  (∀ y g,(y,g)∈done->y∈nJ.getD x []\/xz g f=true)/\∀ y g,i[y]?=some g->y<x->n+y∈nJ.getD x []\/xz g f=true
 | _,_,[],_,_,x,f,b=>by simp at b
 | done,n,l::i,[],h,x,f,b=>by simp[aQ]at h
 | done,n,l::i,s::nJ,h,x,f,b=>by
  simp only[aQ,kq,kR]at h;obtain⟨o,p⟩:=h;cases x with
  | zero =>
   simp only[List.getElem?_cons_zero,Option.some.injEq]at b;subst b;refine⟨λy g j=>?_,λy g _ j=>by omega⟩;have:=o (y,g) j;simpa using this
  | succ x =>
   obtain⟨m,r⟩:=JW p x f (by simpa using b);refine⟨λy g j=>?_,λy g k j=>?_⟩
   .simpa using m y g (by simp[j])
   .cases y with
    | zero =>
     simp only[List.getElem?_cons_zero,Option.some.injEq]at k;subst k;simpa using m n l (by simp)
    | succ y =>
     have:=r y g (by simpa using k) (by omega);simpa[Nat.add_assoc,Nat.add_comm 1]using this
theorem BW:∀ {l:List Oper} {b:List Ins},BF P N ops l=some b->b.length=l.length/\∀ (i:Nat) (o:Oper),l[i]?=some o->∃ x,xa P N ops o=some x/\b[i]?=some x
 | [],b,h=>by simp[BF]at h;subst h;simp
 | o::l,b,h=>by
  simp only[BF]at h;split at h
  .rename_i x r j k;cases h;obtain⟨m,n⟩:=BW k;refine⟨by simp[m],λi p f=>?_⟩;cases i with
   | zero=>simp at f;subst f;exact⟨x,j,rfl⟩
   | succ i=>simpa using n i p (by simpa using f)
  .cases h
def cT(P:Program)(N:Nat)(ac:AC)(st:St)(ex:Exit)(st':St):Prop :=
 ∀ b,comp P N b=some ac->∀ (K:Ctx) (Z:Cz) (w:World) (a:Act) (Q:Exit->Act->World->Prop),K.N=N->aN K Z st w a->(∀ Z' w' f,aN K Z' st' w' f->cV Z st Z' st'->Q ex f w')->b.wp P Q a w
def aA(st st':St):Prop:=∀ (K:Ctx) (Z:Cz) (w:World) (a:Act),aN K Z st w a->∃ Z',aN K Z' st' w a/\cV Z st Z' st'
theorem aA.refl(st:St):aA st st:=λ_ Z _ _ h=>⟨Z,h,cV.refl _ _⟩
theorem aA.trans(h:aA st st1)(k:aA st1 st2):aA st st2:=λK Z w a hs=>let ⟨Z',f,p⟩:=h K Z w a hs;let ⟨b,i,j⟩:=k K Z' w a f;⟨b,i,p.trans j⟩
def tS:Item:=((none,⟨none,.bad,none⟩),⟨[],[],[],[]⟩)
def J8{k:List Ins}{items:List Item}(l:items.map (·.1.2)=k)(m:∀ x∈items,wU P x.1.1)(p:BF P N ops ops.toList=some k) :
  ∀ i,i<ops.size->∃ o,ops[i]?=some o/\xa P N ops o=some (items.getD i tS).1.2/\wU P (items.getD i tS).1.1:=by
 intro i j;obtain⟨r,n⟩:=BW p;have s:ops[i]?=some ops[i]:=Array.getElem?_eq_getElem j;obtain⟨x,t,f⟩:=n i ops[i] (by simp[j]);have h:items.length=k.length:=by rw[<- l];simp
 have b:i<items.length:=by rw[h,r];simpa using j
 refine⟨ops[i],s,?_,?_⟩
 .rw[<- l]at f;simp[b]at f;rw[t,<- f];simp[b]
 .have:items.getD i tS=items[i]:=by simp[b]
  rw[this];exact m _ (bV b)
def LK{α : Type}(l:List α)(d : α)(n:Nat)(h:l.length=n):(List.range n).map (λi=>l.getD i d)=l:=by
 apply DZ;intro i;by_cases b:i<n
 .have:i<l.length:=by omega
  simp[b,this]
 .have:l.length<=i:=by omega
  simp[b,this]
theorem cT.cY{is:List Ins}{fs:List FP}(h:rG P is fs st st'):cT P N (.cY is) st .normal st':=by
 intro code f K Z w a Q t hs u;cases code<;>simp only[comp]at f
 case region id ops j =>
  split at f
  .split at f
   .obtain⟨l,_,k⟩:=cM f;cases k
   .cases f
  .rename_i hd;obtain⟨l,p,k⟩:=cM f;cases k;have:j=false:=by simpa using hd
   subst this;refine wp_region ?_;subst t;obtain⟨b,o,z,r,s⟩:=h.items;have hl:=(BW p).1;have m:b.length=ops.size:=by rw[<- Array.length_toList,<- hl,<- o];simp
   have n:fW ((List.range ops.size).map λi=>b.getD i tS) st st':=by rw[LK _ _ _ m];exact s
   exact Pg _ (λi hi=>J8 o r p i (xP.1 hi)) n hs u
 all_goals (first|cases f|(split at f<;>cases f)|(obtain⟨_,_,k⟩:=cM f;cases k))
theorem z58{l:List Nat}{x:Nat}(h:x∈Aw l):x∈l:=by
 induction l with
 | nil=>exact h
 | cons y l b =>
  simp only[Aw]at h;split at h
  .exact tV _ (b h)
  .obtain rfl|h:=bY.1 h
   .simp
   .exact tV _ (b h)
theorem Ov{ops:Array Oper}:∀ {ps acc:List (List Nat)},(∀ x y,y∈acc.getD x []->wS ops y x) ->
  (∀ i p,ps[i]?=some p->∀ z∈p,∃ o e,ops[acc.length+i]?=some o/\e∈o.after/\e.on=z/\Region.binds .any e=true)->∀ x y,y∈(wQ acc ps).getD x []->wS ops y x
 | [],acc,h,_,x,y,b=>h x y b
 | p::ps,acc,h,j,x,y,b=>by
  refine Ov (acc:=acc++[Aw (p++p.flatMap λy=>acc.getD y [])]) ?_ ?_ x y b
  .intro x y b;obtain f|f|f:=Mk x acc.length
   .rw[eT,wh f,<- List.getD_eq_getElem?_getD]at b;exact h x y b
   .subst f;simp only[eT,qC (dK _),B9,List.getElem?_cons_zero,xp]at b;obtain b|b:=dT.1 (z58 b)
    .obtain⟨o,e,l,m,n,r⟩:=j 0 p rfl y b;exact .one l m n r
    .obtain⟨z,k,b⟩:=kv.1 b;obtain⟨o,e,l,m,n,r⟩:=j 0 p rfl z k;exact .more (h z y (by rw[eT];exact b)) l m n r
   .have:(acc++[Aw (p++p.flatMap λy=>acc.getD y [])])[x]?=none:=DT (by simp;omega);rw[eT,this]at b;simp at b
  .intro i q s z k;have:=j (i+1) q s z k;simpa[Nat.add_assoc,Nat.add_comm 1 i]using this
theorem KI(ops:Array Oper)(x y:Nat)(h:y∈(wQ [] (x6 ops.toList)).getD x []):wS ops y x:=by
 refine Ov (ops:=ops) (by simp) ?_ x y h;intro i p b z l;simp only[x6,FE,Array.getElem?_toList]at b;cases j:ops[i]? with
 | none=>rw[j]at b;cases b
 | some o =>
  rw[j]at b;simp only[Option.map_some,Option.some.injEq]at b;subst b;obtain⟨e,k,f⟩:=List.mem_map.1 l;have:=List.mem_filter.1 k;exact⟨o,e,by simpa using j,by simpa using this.1,f,this.2⟩
theorem cT.fM{is:List Ins}{fs:List FP}{pre:List (List Nat)}(h:rG P is fs st st')(hp:aQ [] 0 fs pre=true):cT P N (.fM is pre) st .normal st':=by
 intro code k K Z w a Q O hs R;cases code<;>simp only[comp]at k
 case region id ops D =>
  split at k
  .rename_i hd;subst hd;split at k
   .rename_i H;obtain⟨l,G,m⟩:=cM k;cases m;subst O;obtain⟨b,E,F,I,J⟩:=h.items;have hl:=(BW G).1;have j:b.length=ops.size:=by rw[<- Array.length_toList,<- hl,<- E];simp
    have n:fW ((List.range ops.size).map λi=>b.getD i tS) st st':=by rw[LK _ _ _ j];exact J
    have f:∀ (C:Region.Mode) (L:List Nat),oS C ops L []=true->wpAny P C ops Q ops.size (Array.replicate ops.size false) a { w with drawn:=w.drawn+1 }:=by
     intro C L M;refine Pf (pre:=λi=>(wQ [] (x6 ops.toList)).getD i []) (it:=λi=>b.getD i tS) ?_ (J8 E I G) M ops.size (List.range ops.size) (by simp) List.nodup_range (by simp) (λy z hz _=>by simp[Io,Mj]at hz;split at hz<;>simp at hz) (λi=>by simp;intro hi;simp[hi]) ?_ n (Z:=Z) ⟨hs.aR,hs.defers,hs.size,hs.heap.drew⟩ R
     .intro x o V y p;exact KI ops x y p
     .refine Im ?_ List.pairwise_lt_range;intro y x p A B;have A:=xP.1 A;have p:=xP.1 p;have s:fs[x]?=some (b.getD x tS).2:=by rw[<- F];simp[j,A]
      have u:fs[y]?=some (b.getD y tS).2:=by rw[<- F];simp[j,p]
      simpa using (JW hp x _ s).2 y _ u B
    simp only[Mv,kq,B',Mi]at H;obtain⟨S,r⟩:=H;refine wp_region_draw λt=>?_;unfold Region.schedule;split
    .exact wpAny_sound ops.size t _ a _ (f .any _ S)
    .rename_i hm;obtain r|⟨r,U⟩:=r
     .simp[r]at hm
     .split
      .exact wpAny_sound ops.size _ _ a _ (f .text _ r)
      .exact wpAny_sound ops.size _ _ a _ (f .gc _ U)
   .cases k
  .obtain⟨l,_,m⟩:=cM k;cases m
 all_goals (first|cases k|(split at k<;>cases k)|(obtain⟨_,_,m⟩:=cM k;cases m))
end
inductive fY (P:Program) (N:Nat) (body:AC):St->Exit->St->Prop
 | out (st:St) (ex:Exit) (st':St):cT P N body st ex st'->ex ≠ .normal->fY P N body st ex st'
 | next (st st1:St) (ex:Exit) (st':St):cT P N body st .normal st1->fY P N body st1 ex st'->fY P N body st ex st'
section
variable {P:Program} {K:Ctx} {Z Z':Cz} {st st' st1 st2:St} {w w':World} {a:Act} {N:Nat} {x y:AC} {ex:Exit}
theorem cT.iX:cT P N .iX st .normal st:=by
 intro code b K Z w a Q i hs f;cases code<;>simp only[comp]at b
 case skip=>exact wp_skip (f _ _ _ hs (cV.refl _ _))
 case label=>exact wp_label (f _ _ _ hs (cV.refl _ _))
 all_goals (repeat' split at b)<;>first|cases b|(obtain⟨_,_,h⟩:=cM b;cases h)
theorem cT.ret:cT P N .ret st .ret st:=by
 intro code b K Z w a Q i hs h;cases code<;>simp only[comp]at b
 case ret=>exact wp_ret (h _ _ _ hs (cV.refl _ _))
 all_goals (repeat' split at b)<;>first|cases b|(obtain⟨_,_,f⟩:=cM b;cases f)
theorem cT.ext{id:Nat}:cT P N (.ext id) st (.exit id) st:=by
 intro code b K Z w a Q i hs h;cases code<;>simp only[comp]at b
 case exit=>cases b;exact wp_exit (h _ _ _ hs (cV.refl _ _))
 all_goals (repeat' split at b)<;>first|cases b|(obtain⟨_,_,f⟩:=cM b;cases f)
def JD{f:Code}(h:comp P N f=some (.seq x y)):∃ a b,f=.seq a b/\comp P N a=some x/\comp P N b=some y:=by
 cases f<;>simp only[comp]at h
 case seq a b =>
  split at h
  .rename_i j i;cases h;exact⟨a,b,rfl,j,i⟩
  .cases h
 all_goals (repeat' split at h)<;>first|cases h|(obtain⟨_,_,i⟩:=cM h;cases i)
theorem cT.seq(h:cT P N x st .normal st1)(k:cT P N y st1 ex st'):cT P N (.seq x y) st ex st':=by intro code u K Z w a Q j hs t;obtain⟨o,p,rfl,r,s⟩:=JD u;exact wp_seq (h o r K Z w a _ j hs λZ' w' m f hp=>k p s K Z' w' m Q j f (λl w2 n i b=>t l w2 n i (hp.trans b)))
theorem cT.MA(h:cT P N x st ex st')(m:ex ≠ .normal):cT P N (.seq x y) st ex st':=by intro code l K Z w a Q j hs k;obtain⟨f,o,rfl,i,p⟩:=JD l;refine wp_seq (h f i K Z w a _ j hs λZ' w' n b hp=>?_);cases ex<;>first|exact absurd rfl m|exact k _ _ _ b hp
def Sd{f:Code}{c:bL}(h:comp P N f=some (.cond c x y)):∃ o a b,f=.cond o a b/\dJ o=some c/\comp P N a=some x/\comp P N b=some y:=by
 cases f<;>simp only[comp]at h
 case cond o a b =>
  split at h
  .rename_i j i k;cases h;exact⟨o,a,b,rfl,j,i,k⟩
  .cases h
 all_goals (repeat' split at h)<;>first|cases h|(obtain⟨_,_,i⟩:=cM h;cases i)
theorem cT.cond{c:bL}{t:Bool}(s:st.ev c=.p (.bool t))(h:cT P N (if t then x else y) st ex st'):cT P N (.cond c x y) st ex st':=by
 intro code r K Z w a Q b hs f;obtain⟨o,j,k,rfl,l,m,n⟩:=Sd r;have i:=fD l hs;rw[s]at i;refine wp_cond i.fO ?_;cases t with
 | true=>exact h j m K Z w a Q b hs f
 | false=>exact h k n K Z w a Q b hs f
def cT.Gc{c:bL}(b:st.ev c=.p (.bool true))(h:cT P N x st ex st'):cT P N (.cond c x y) st ex st':=.cond b (t:=true) h
def cT.Gd{c:bL}(b:st.ev c=.p (.bool false))(h:cT P N y st ex st'):cT P N (.cond c x y) st ex st':=.cond b (t:=false) h
def Gp{f:Code}{id:Nat}(h:comp P N f=some (.bU id x)):∃ b,f=.block id b/\comp P N b=some x:=by
 cases f<;>simp only[comp]at h
 case block id b=>obtain⟨z,j,i⟩:=cM h;cases i;exact⟨b,rfl,j⟩
 all_goals (repeat' split at h)<;>first|cases h|(obtain⟨_,_,i⟩:=cM h;cases i)
theorem cT.bU{id:Nat}(h:cT P N x st ex st')(n:∀ j,ex ≠ .exit j):cT P N (.bU id x) st ex st':=by intro code m K Z w a Q k hs l;obtain⟨b,rfl,i⟩:=Gp m;refine wp_block (h b i K Z w a _ k hs λZ' w' o f hp=>?_);cases ex<;>first|exact absurd rfl (n _)|exact l _ _ _ f hp
theorem cT.Nl{id:Nat}(h:cT P N x st (.exit id) st'):cT P N (.bU id x) st .normal st':=by intro code l K Z w a Q j hs k;obtain⟨b,rfl,i⟩:=Gp l;refine wp_block (h b i K Z w a _ j hs λZ' w' m f hp=>?_);simp only[Exit.inBlock,cB];exact k _ _ _ f hp
theorem cT.Nk{id j:Nat}(h:cT P N x st (.exit j) st')(n:j≠id):cT P N (.bU id x) st (.exit j) st':=by intro code m K Z w a Q k hs l;obtain⟨b,rfl,i⟩:=Gp m;refine wp_block (h b i K Z w a _ k hs λZ' w' o f hp=>?_);simp only[Exit.inBlock,n,fQ];exact l _ _ _ f hp
def NY{f:Code}(h:comp P N f=some (.loop x)):∃ b,f=.loop b/\comp P N b=some x:=by
 cases f<;>simp only[comp]at h
 case loop b=>obtain⟨z,j,i⟩:=cM h;cases i;exact⟨b,rfl,j⟩
 all_goals (repeat' split at h)<;>first|cases h|(obtain⟨_,_,i⟩:=cM h;cases i)
theorem fY.key{c:Code}(t:comp P N c=some x)(s:K.N=N):∀ {st:St} {ex:Exit} {st':St},fY P N x st ex st'->∀ {Z:Cz} {w:World} {a:Act} {Q:Exit->Act->World->Prop},aN K Z st w a->(∀ Z' w' i,aN K Z' st' w' i->cV Z st Z' st'->Q ex i w') ->
  ∀ (b:Frame) (k:List Go.Item) (cs:List Frame),∃ e i w',Q e i w'/\Arrives P (lone (b.at a (.code c::.inLoop c::k)) cs w) b k cs e i w':=by
 intro st ex st' h
 induction h with
 | out st ex st' h A =>
  intro Z w a Q hs n b k cs;obtain⟨e,a1,w1,⟨rfl,hq⟩,j⟩:=h c t K Z w a (λe i w'=>e=ex/\∃ Z',aN K Z' st' w' i/\cV Z st Z' st') s hs (λZ' w' i f hp=>⟨rfl,Z',f,hp⟩) b (.inLoop c::k) cs;obtain⟨Z',f,hp⟩:=hq;exact⟨e,a1,w1,n _ _ _ f hp,.pass (x:=.inLoop c) rfl (λ_ _=>.inl A) j⟩
 | next st st1 ex st' h hl B =>
  intro Z w a Q hs n b k cs;obtain⟨e,a1,w1,⟨rfl,hq⟩,j⟩:=h c t K Z w a (λe i w'=>e=.normal/\∃ Z',aN K Z' st1 w' i/\cV Z st Z' st1) s hs (λZ' w' i f hp=>⟨rfl,Z',f,hp⟩) b (.inLoop c::k) cs;obtain⟨Z',f,hp⟩:=hq;obtain⟨z,m,w2,p,l⟩:=B f (λu w2 m r o=>n u w2 m r (hp.trans o)) b k cs;exact⟨z,m,w2,p,.of_steps (Steps.trans j (.one step_inLoop)) l⟩
theorem cT.loop(h:fY P N x st ex st'):cT P N (.loop x) st ex st':=by intro code n K Z w a Q l hs m;obtain⟨c,rfl,j⟩:=NY n;intro b k cs;obtain⟨e,i,w',hq,f⟩:=h.key j l hs m b k cs;exact⟨e,i,w',hq,.of_steps (.one step_loop) f⟩
theorem cT.nH(h:aA st st1)(k:cT P N x st1 ex st'):cT P N x st ex st':=by intro code o K Z w a Q m hs n;obtain⟨Z',f,hp⟩:=h K Z w a hs;exact k code o K Z' w a Q m f (λj w2 l i b=>n j w2 l i (hp.trans b))
theorem cT.sR(k:cT P N x st ex st1)(h:aA st1 st'):cT P N x st ex st':=by intro code n K Z w a Q l hs m;refine k code n K Z w a Q l hs (λZ' w' j f hp=>?_);obtain⟨i,b,iJ⟩:=h K Z' w' j f;exact m _ _ _ b (hp.trans iJ)
theorem fY.nH(h:aA st st1)(k:fY P N x st1 ex st'):fY P N x st ex st':=by
 cases k with
 | out _ _ _ k b=>exact .out _ _ _ (.nH h k) b
 | next _ s1 _ _ k hl=>exact .next _ s1 _ _ (.nH h k) hl
end
def aL:Nat:=999999
def nA(ids:List ((Nat × Nat) × Nat))(s g:Nat):Nat :=
 match ids with
 | []=>aL
 | ((f,b),h)::r=>if f=s/\b=g then h else nA r s g
mutual
def dW(c5:List Nat)(ids:List ((Nat × Nat) × Nat)):AV->AV
 | .own s g b i=>if c5.contains s=true then .own s g b i else .own (nA ids s g) 0 b i
 | .ptr s g k b=>if c5.contains s=true then .ptr s g k b else .ptr (nA ids s g) 0 k b
 | .agg h=>.agg (eV c5 ids h)
 | .fn f h=>.fn f (eV c5 ids h)
 | .bP h=>.bP (eV c5 ids h)
 | .p v=>.p v
 | .nil=>.nil
 | .cp v j b=>.cp v j b
 | .skip=>.skip
 | .undef=>.undef
def eV(c5:List Nat)(ids:List ((Nat × Nat) × Nat)):List AV->List AV
 | []=>[]
 | v::r=>dW c5 ids v::eV c5 ids r
end
def aD(sl:List (Nat × AV))(b:List (Nat × bD)):St:=⟨sl,b.map (λq=>(q.1,[some q.2]))++[(aL,[none])]⟩
def Db(c5:List Nat)(st:St)(ids:List ((Nat × Nat) × Nat)):List ((Nat × Nat) × Nat)->Option (List (Nat × bD))
 | []=>some []
 | ((s,g),b)::r=>match st.obj s g,Db c5 st ids r with
  | some o,some l=>some ((b,⟨o.sz,eV c5 ids o.es⟩)::l)
  | _,_=>none
def wY:List Nat->Bool
 | []=>true
 | x::r =>!r.contains x&&wY r
def Ep:List (Nat × Nat)->Bool
 | []=>true
 | x::r =>!r.contains x&&Ep r
def HO(c5:List Nat)(ids:List ((Nat × Nat) × Nat))(hp:List Site):Bool:=hp.all λq=>decide (q.1<fP)||decide (999999<=q.1)||c5.contains q.1||(ids.contains ((q.1,0),q.1)&&decide (q.2.length<=1))
def St.mU(st:St)(keep:List Nat)(c5:List Nat)(ids:List ((Nat × Nat) × Nat)):Option St :=
 if (Ep (ids.map (·.1))&&wY (aL::ids.map (·.2))&&HO c5 ids st.hp&&c5.all λs=>!(s == aL) && !(ids.map (·.2)).contains s && !(ids.map (·.1.1)).contains s&&(st.site s).all (vT c5))=true then
  (Db c5 st ids ids).map λbR=>⟨keep.map λt=>(t,dW c5 ids (st.get t)),c5.map (λs=>(s,st.site s))++(aD [] bR).hp⟩
 else none
def St.xR(st:St)(keep:List Nat)(ids:List ((Nat × Nat) × Nat)):Option St:=st.mU keep [] ids
section
variable {P:Program} {K:Ctx} {Z Z':Cz} {st st' st1 st2:St} {w w':World} {a:Act} {N:Nat} {c5:List Nat} {ids:List ((Nat × Nat) × Nat)}
theorem tU:∀ (l:List AV),eV c5 ids l=l.map (dW c5 ids)
 | []=>rfl
 | v::r=>by simp[eV,tU r]
theorem Tq(l:List PV):eV c5 ids (l.map .p)=l.map .p:=by rw[tU,yI];apply vA;intro x _;rfl
def YW(v:AV):(dW c5 ids v).sz=v.sz:=by cases v<;>simp[dW]<;>(try split)<;>simp[AV.sz,tU]
def R'(v:AV):(dW c5 ids v).one=v.one:=by cases v<;>simp[dW]<;>(try split)<;>simp[AV.one]
theorem WV(v:AV):(dW c5 ids v).cells=v.cells.map (dW c5 ids):=by
 cases v with
 | own s g f b=>simp only[dW];split<;>simp only[AV.cells,jH,Il,dW]<;>simp only[*,cB,fQ,gJ]
 | ptr s g f b=>simp only[dW];split<;>simp only[AV.cells,jH,Il,dW]<;>simp only[*,cB,fQ,gJ]
 | agg h=>simp[dW,AV.cells,tU]
 | p v=>?_
 | _=>rfl
 cases v<;>first|rfl|skip
 simp only[AV.cells,yI];apply vA;intro x _;rfl
theorem PQ(es:List AV):(eV c5 ids es).flatMap AV.cells=(es.flatMap AV.cells).map (dW c5 ids):=by
 induction es with
 | nil=>rfl
 | cons e es b=>simp[eV,b,WV]
mutual
theorem YV:∀ {v:AV},pK c5 v=true->dW c5 ids v=v
 | .own s g i b,h=>by simp only[pK]at h;simp only[dW,h,cB]
 | .ptr s g i b,h=>by simp only[pK]at h;simp only[dW,h,cB]
 | .agg j,h=>by simp only[pK]at h;simp only[dW,vX h]
 | .fn f j,h=>by simp only[pK]at h;simp only[dW,vX h]
 | .bP j,h=>by simp only[pK]at h;simp only[dW,vX h]
 | .p _,_ | .nil,_ | .cp _ _ _,_ | .skip,_ | .undef,_=>rfl
theorem vX:∀ {l:List AV},kX c5 l=true->eV c5 ids l=l
 | [],_=>rfl
 | v::r,h=>by simp only[kX,kq]at h;simp only[eV,YV h.1,vX h.2]
end
theorem HF:∀ {l:List Nat},wY l=true->l.Nodup
 | [],_=>List.nodup_nil
 | x::r,h=>by simp[wY]at h;exact List.nodup_cons.2 ⟨by simpa using h.1,HF h.2⟩
theorem Qp:∀ {l:List (Nat × Nat)},Ep l=true->l.Nodup
 | [],_=>List.nodup_nil
 | x::r,h=>by simp[Ep]at h;exact List.nodup_cons.2 ⟨by simpa using h.1,Qp h.2⟩
def DJ(ids:List ((Nat × Nat) × Nat))(b:Nat):Option (Nat × Nat) :=
 match ids with
 | []=>none
 | (i,f)::r=>if f=b then some i else DJ r b
theorem Di:∀ {ids:List ((Nat × Nat) × Nat)} {s g:Nat},nA ids s g≠aL->((s,g),nA ids s g)∈ids
 | [],s,g,h=>by simp[nA]at h
 | ((i,f),j)::r,s,g,h=>by
  simp only[nA]at h ⊢;split
  .grind
  .rename_i b;rw[aY b]at h;exact bY.2 (.inr (Di h))
theorem AY:∀ {ids:List ((Nat × Nat) × Nat)} {b:Nat} {i:Nat × Nat},(ids.map (·.2)).Nodup->(i,b)∈ids->DJ ids b=some i
 | [],_,_,_,h=>by simp at h
 | (j,k)::r,b,i,f,h=>by
  rw[jH,uH]at f;simp[DJ];obtain h|h:=bY.1 h
  .grind
  .rw[aY]
   .exact AY f.2 h
   .grind
theorem RM:∀ {ids:List ((Nat × Nat) × Nat)} {i:Nat × Nat} {s f:Nat},(ids.map (·.1)).Nodup->(i,s)∈ids->(i,f)∈ids->s=f
 | [],_,_,_,_,h,_=>by simp at h
 | (k,l)::r,i,s,f,j,h,b=>by
  rw[jH,uH]at j;obtain h|h:=bY.1 h<;>obtain b|b:=bY.1 b
  .grind
  .grind
  .grind
  .exact RM j.2 h b
theorem QX{ids:List ((Nat × Nat) × Nat)}:∀ {l:List ((Nat × Nat) × Nat)} {b:List (Nat × bD)},Db c5 st ids l=some b->(l.map (·.2)).Nodup->aL∉l.map (·.2) ->
  (∀ i f,(i,f)∈l->∃ o,st.obj i.1 i.2=some o/\look (b.map (λq=>(q.1,[some q.2]))++[(aL,[none])]) f []=[some ⟨o.sz,eV c5 ids o.es⟩]) /\
  (∀ f,f∉l.map (·.2)->look (b.map (λq=>(q.1,[some q.2]))++[(aL,[none])]) f []=if aL=f then[none]else[])
 | [],b,h,_,_=>by
  simp only[Db,cF]at h;subst h;exact⟨by simp,by simp[look]⟩
 | ((s,g),B)::r,b,h,j,k=>by
  simp only[Db]at h;split at h
  .rename_i o l t p;cases h;simp only[jH,uH,bY,not_or]at j k;obtain⟨u,z⟩:=QX p j.2 k.2;refine⟨λi f hm=>?_,λf hm=>?_⟩
   .obtain hm|hm:=bY.1 hm
    .cases hm;exact⟨o,t,by simp[look]⟩
    .obtain⟨A,m,n⟩:=u i f hm;refine⟨A,m,?_⟩;have:B≠f:=by rintro rfl;exact j.1 (cD.2 ⟨_,hm,rfl⟩)
     simpa[look,this]using n
   .simp only[jH,bY,not_or]at hm;have:=z f hm.2;simp only[jH,xq,look]
    grind
  .cases h
def Cz.dW(Z:Cz)(c5:List Nat)(ids:List ((Nat × Nat) × Nat)):Cz where
 M:=Z.M
 B s g:=if c5.contains s=true then Z.B s g else if g=0 then(match DJ ids s with|some i=>Z.B i.1 i.2|none=>none)else none
 cap s g:=if c5.contains s=true then Z.cap s g else match DJ ids s with|some i=>Z.cap i.1 i.2|none=>0
structure pG (st st':St) (c5:List Nat) (ids:List ((Nat × Nat) × Nat)):Prop where
 old:(ids.map (·.1)).Nodup
 new:(ids.map (·.2)).Nodup
 live:∀ i s',(i,s')∈ids->c5.contains s'=false/\c5.contains i.1=false/\∃ o,st.obj i.1 i.2=some o/\st'.obj s' 0=some ⟨o.sz,eV c5 ids o.es⟩
 all:∀ s' g' o',st'.obj s' g'=some o'->c5.contains s'=true\/(c5.contains s'=false/\g'=0/\∃ i,(i,s')∈ids)
 dead:0<(st'.site aL).length/\st'.obj aL 0=none
 c5:∀ s,c5.contains s=true->st'.site s=st.site s/\∀ g o,st.obj s g=some o->eV c5 ids o.es=o.es
def pG.tC(h:pG st st' c5 ids){s g:Nat}(b:c5.contains s=true):st'.obj s g=st.obj s g:=fq (h.c5 s b).1
mutual
theorem aM.dW(h:pG st st' c5 ids):∀ {v:AV} {x:Value},aM Z st v x->aM (Z.dW c5 ids) st' (Ab.dW c5 ids v) x
 | _,_,.p v x hp=>.p v x hp
 | _,_,.nil=>.nil
 | _,_,.dU s g o r n=>by
  simp only[Ab.dW];split
  .rename_i i;exact .dU _ _ o (by rw[h.tC i];exact r) (by simp only[Cz.dW,i,cB];exact n)
  .by_cases hd:nA ids s g=aL
   .rw[hd];exact .eN _ _ _ _ _ _ h.dead.1 h.dead.2
   .have hm:=Di hd;obtain⟨t,_,o',k,m⟩:=h.live _ _ hm;exact .dU _ _ _ m (by simp only[Cz.dW,t,gJ,fQ,cB,AY h.new hm,n])
 | _,_,.own s g off len o b ad c r n k m h3 z=>by
  simp only[Ab.dW];split
  .rename_i i;exact .own _ _ _ _ o b ad c (by rw[h.tC i];exact r) (by simp only[Cz.dW,i,cB];exact n) (by simp only[Cz.dW,i,cB];exact k) m h3 z
  .by_cases hd:nA ids s g=aL
   .rw[hd];exact .eN _ _ _ _ _ _ h.dead.1 h.dead.2
   .have hm:=Di hd;obtain⟨t,_,o',j,u⟩:=h.live _ _ hm;simp only at j;rw[r]at j;cases j;exact .own _ _ _ _ _ b ad c u (by simp only[Cz.dW,t,Bool.false_eq_true,if_false,if_true,AY h.new hm,n]) (by simp only[Cz.dW,t,Bool.false_eq_true,if_false,AY h.new hm];exact k) m (by simpa[tU]using h3) z
 | _,_,.eN s g off len ad c A l=>by
  simp only[Ab.dW];split
  .rename_i i;exact .eN _ _ _ _ _ _ (by rw[(h.c5 s i).1];exact A) (by rw[h.tC i];exact l)
  .by_cases hd:nA ids s g=aL
   .rw[hd];exact .eN _ _ _ _ _ _ h.dead.1 h.dead.2
   .obtain⟨_,_,o',j,u⟩:=h.live _ _ (Di hd);simp only at j;rw[l]at j;cases j
 | _,_,.ptr s g ix off o b r n=>by
  simp only[Ab.dW];split
  .rename_i i;exact .ptr _ _ ix off o b (by rw[h.tC i];exact r) (by simp only[Cz.dW,i,cB];exact n)
  .by_cases hd:nA ids s g=aL
   .rw[hd];exact .kK _ _ _ _ _ h.dead.1 h.dead.2
   .have hm:=Di hd;obtain⟨t,_,o',j,u⟩:=h.live _ _ hm;simp only at j;rw[r]at j;cases j;exact .ptr _ _ ix off ⟨o.sz,eV c5 ids o.es⟩ b u (by simp only[Cz.dW,t,gJ,fQ,cB,AY h.new hm,n])
 | _,_,.kK s g ix off ad A l=>by
  simp only[Ab.dW];split
  .rename_i i;exact .kK _ _ _ _ _ (by rw[(h.c5 s i).1];exact A) (by rw[h.tC i];exact l)
  .by_cases hd:nA ids s g=aL
   .rw[hd];exact .kK _ _ _ _ _ h.dead.1 h.dead.2
   .obtain⟨_,_,o',j,u⟩:=h.live _ _ (Di hd);simp only at j;rw[l]at j;cases j
 | _,_,.cp v vC off b o cur T fr vals C k m h3 z D=>.cp v vC off b o cur T fr vals C k m h3 z D
 | _,_,.agg cs vals k m=>by
  simp only[Ab.dW];exact .agg _ vals (λc B=>by rw[tU]at B;obtain⟨d,hd,rfl⟩:=cD.1 B;rw[R'];exact k d hd) (aG.dW h m)
 | _,_,.fn f cs vals k=>by simp only[Ab.dW];exact .fn f _ vals (aG.dW h k)
 | _,_,.bP vs vals k=>by simp only[Ab.dW];exact .bP _ vals (aG.dW h k)
 | _,_,.skip=>.skip
 | _,_,.undef x=>.undef x
theorem aG.dW(h:pG st st' c5 ids):∀ {v:List AV} {x:List Value},aG Z st v x->aG (Z.dW c5 ids) st' (eV c5 ids v) x
 | _,_,.nil=>.nil
 | _,_,.cons v x vs xs b hs=>.cons _ _ _ _ (aM.dW h b) (aG.dW h hs)
end
theorem bC.dW(h:bC K Z st w)(r:pG st st' c5 ids):bC K (Z.dW c5 ids) st' w:=by
 have f:∀ {s g:Nat} {o:bD},st'.obj s g=some o->∃ i m,st.obj i.1 i.2=some m/\o=⟨m.sz,eV c5 ids m.es⟩/\(Z.dW c5 ids).B s g=Z.B i.1 i.2/\(Z.dW c5 ids).cap s g=Z.cap i.1 i.2 /\
   ((c5.contains s=true/\i=(s,g))\/(c5.contains s=false/\c5.contains i.1=false/\g=0/\(i,s)∈ids)):=by
  intro s g o l;obtain n|⟨n,rfl,i,hi⟩:=r.all s g o l
  .have k:=r.tC (g:=g) n;rw[l]at k;exact⟨(s,g),o,k.symm,by rw[(r.c5 s n).2 g o k.symm],by simp only[Cz.dW,n,cB],by simp only[Cz.dW,n,cB],.inl ⟨n,rfl⟩⟩
  .obtain⟨F,u,m,k,M⟩:=r.live i s hi;rw[l]at M;cases M;exact⟨i,m,k,rfl,by simp only[Cz.dW,n,gJ,fQ,cB,AY r.new hi],by simp only[Cz.dW,n,gJ,fQ,AY r.new hi],.inr ⟨n,u,rfl,hi⟩⟩
 refine⟨λs g o l=>?_,λs g s' g' o o' b l J j z=>?_,h.mem,λs g o b l j=>?_,λs g o b l j=>?_,h.m0,h.eE,h.keep⟩
 .obtain⟨i,m,k,rfl,p,E,_⟩:=f l;obtain⟨k1,k2,k3,k4,k5⟩:=h.bR i.1 i.2 m k;refine⟨k1,λe R=>?_,λc O=>?_,λj=>?_,λb j=>?_⟩
  .simp only[tU,cD]at R;obtain⟨W,I,rfl⟩:=R;rw[YW];exact k2 W I
  .simp only[PQ,cD]at O;obtain⟨S,H,rfl⟩:=O;rw[R'];exact k3 S H
  .rw[p]at j;simp[k4 j,eV]
  .rw[p]at j;obtain⟨cur,T,vals,A,C,X,Y,e5,e6⟩:=k5 b j;refine⟨cur,T,vals,A,?_,X,by rw[E];exact Y,by rw[E];simpa[tU]using e5,by rw[E];exact e6⟩;rw[PQ,<- tU];exact aG.dW r C
 .obtain⟨i,m,k,_,p,_,U⟩:=f l;obtain⟨i',ad,G,_,D,_,V⟩:=f J;rw[p]at j;rw[D]at z;obtain⟨A,C⟩:=h.inj _ _ _ _ _ _ b k G j z;have e:i=i':=Prod.ext A C;subst e;obtain⟨F,rfl⟩|⟨F,u,rfl,m1⟩:=U<;>obtain⟨L,t⟩|⟨L,t,rfl,m2⟩:=V
  .cases t;exact⟨rfl,rfl⟩
  .simp only at t;rw[F]at t;cases t
  .subst t;simp only at u;rw[L]at u;cases u
  .exact⟨RM r.old m1 m2,rfl⟩
 .obtain⟨i,m,k,_,p,_,_⟩:=f l;rw[p]at j;exact h.sep _ _ _ b k j
 .obtain⟨i,m,k,_,p,_,_⟩:=f l;rw[p]at j;exact h.own _ _ _ b k j
theorem NW(f:Nat->List (Option bD))(r:List Site)(s:Nat):∀ c5:List Nat,look (c5.map (λs=>(s,f s))++r) s []=if c5.contains s=true then f s else look r s []
 | []=>by simp
 | k::l=>by
  have b:=NW f r s l;simp[jH,look];by_cases h:k=s
  .grind
  .grind
def VV{keep:List Nat}(h:st.mU keep c5 ids=some st'):pG st st' c5 ids/\(st'.sl=keep.map λt=>(t,Ab.dW c5 ids (st.get t)))/\(HO c5 ids st.hp=true):=by
 unfold St.mU at h;split at h
 .rename_i B;simp only[kq]at B;obtain⟨⟨⟨C,D⟩,E⟩,R⟩:=B;have z:=Qp C;have f:=HF D;rw[uH]at f;have k:∀ s,c5.contains s=true->s≠aL/\s∉ids.map (·.2)/\s∉ids.map (·.1.1)/\(st.site s).all (vT c5)=true:=λs l=>by
   grind
  have r:∀ s,(c5.contains s=true->False)->c5.contains s=false:=λs h=>by cases B:c5.contains s<;>simp_all
  obtain⟨n,m,rfl⟩:=cM h;obtain⟨J,L⟩:=QX m f.2 f.1;have b:∀ s,(⟨keep.map λt=>(t,Ab.dW c5 ids (st.get t)),c5.map (λs=>(s,st.site s))++(aD [] n).hp⟩:St).site s=if c5.contains s=true then st.site s else look (n.map (λq=>(q.1,[some q.2]))++[(aL,[none])]) s []:=λs=>NW _ _ s c5
  refine⟨⟨z,f.2,λi p u=>?_,λp I V j=>?_,?_,λs l=>⟨by rw[b,aW l],λg o m=>vX ?_⟩⟩,rfl,E⟩
  .obtain⟨o,G,A⟩:=J i p u;have H:c5.contains p=false:=r p λl=>(k p l).2.1 (cD.2 ⟨_,u,rfl⟩);have O:c5.contains i.1=false:=r i.1 λl=>(k i.1 l).2.2.1 (cD.2 ⟨_,u,rfl⟩);exact⟨H,O,o,G,by simp only[St.obj,b,H,A];rfl⟩
  .cases l:c5.contains p with
   | true=>exact .inl rfl
   | false =>
   refine .inr ⟨rfl,?_⟩;simp only[St.obj,b,l,gJ,fQ]at j;by_cases u:p∈ids.map (·.2)
   .obtain⟨⟨i,U⟩,M,rfl⟩:=cD.1 u;obtain⟨o,G,A⟩:=J i U M;refine⟨?_,i,M⟩;rw[A]at j;cases I with
    | zero=>rfl
    | succ _=>simp at j
   .exfalso;rw[L p u]at j;split at j
    .cases I<;>simp at j
    .simp at j
  .have S:c5.contains aL=false:=r aL λl=>(k aL l).1 rfl;have:=L aL f.1;simp only[St.obj,b,S,gJ,fQ,this];exact⟨by simp,rfl⟩
  .have:=(k s l).2.2.2;rw[kR]at this;unfold St.obj at m;cases F:(st.site s)[g]? with
   | none=>rw[F]at m;cases m
   | some x =>
    rw[F]at m;simp only[xp]at m;subst m;exact this _ (wg F)
 .cases h
theorem KR(f:Nat->AV)(t:Nat):∀ (keep:List Nat),look (keep.map λt=>(t,f t)) t AV.undef=f t\/look (keep.map λt=>(t,f t)) t AV.undef=.undef
 | []=>.inr rfl
 | k::r=>by
  simp[jH,look];split
  .grind
  .exact KR f t r
theorem ZS(m:pG st st' c5 ids)(hp:HO c5 ids st.hp=true):cV Z st (Z.dW c5 ids) st':=by
 have f:∀ s,fP<=s->s<999999->st.site s=[]\/c5.contains s=true\/((st.site s).length<=1/\c5.contains s=false/\∃ o,st.obj s 0=some o/\st'.obj s 0=some ⟨o.sz,eV c5 ids o.es⟩/\DJ ids s=some (s,0)):=by
  intro s a b;obtain h|⟨q,u,rfl,z⟩:=AQ (d:=([]:List (Option bD))) (l:=st.hp) (s:=s)
  .exact .inl h
  .have:=kR.1 hp q u;simp only[B',kq,decide_eq_true_eq]at this;obtain((h|h)|h)|⟨h,t⟩:=this
   .omega
   .omega
   .grind
   .rw[DW]at h;obtain⟨n,_,o,i,j⟩:=m.live _ _ h;exact .inr (.inr ⟨by show(look st.hp q.1 []).length<=1;rw[z];exact t,n,o,i,j,AY m.new h⟩)
 refine⟨λs a b=>?_,λs g a b A p=>?_,λs g o a b k=>?_⟩
 .obtain h|h|⟨h,_,o,i,j,_⟩:=f s a b
  .grind
  .rw[(m.c5 s h).1];exact dK _
  .have:=nO j;omega
 .obtain h|h|⟨h,_,o,i,j,_⟩:=f s a b
  .simp_all
  .rw[m.tC h];exact p
  .obtain rfl:g=0:=by omega
   rw[i]at p;cases p
 .obtain h|h|⟨h,n,B,i,j,r⟩:=f s a b
  .have:=nO k;rw[h]at this;simp at this
  .exact .inr ⟨o,by rw[m.tC h];exact k,rfl,rfl,by simp only[Cz.dW,h,cB],by simp only[Cz.dW,h,cB]⟩
  .have:=nO k;obtain rfl:g=0:=by omega
   rw[i]at k;cases k;exact .inr ⟨_,j,rfl,by simp[tU],by simp only[Cz.dW,r,n,gJ,fQ,cB],by simp only[Cz.dW,r,n,gJ,fQ]⟩
theorem aA.TM{keep:List Nat}(h:st.mU keep c5 ids=some st'):aA st st':=by
 intro K Z w a hs;obtain⟨f,i,b⟩:=VV h;refine⟨Z.dW c5 ids,⟨λt=>?_,hs.defers,hs.size,hs.heap.dW f⟩,ZS f b⟩;have:st'.get t=look (keep.map λt=>(t,Ab.dW c5 ids (st.get t))) t .undef:=by rw[<- i];rfl
 rw[this];obtain h|h:=KR (λt=>Ab.dW c5 ids (st.get t)) t keep
 .rw[h];exact(hs.aR t).dW f
 .rw[h];exact .undef _
def aA.of{keep:List Nat}(h:st.xR keep ids=some st'):aA st st':=aA.TM h
end
end Go.Ab
namespace Go.Ab
def St.vK(st:St)(t:Nat):Option St :=
 match bE st aZ (st.get t)with
 | some p=>some ((aJ st (aO st aZ (st.get t))).put (some t) (.p p))
 | none=>none
def St.lV(st:St)(t s sz:Nat):Option St :=
 match st.get t with
 | .nil=>if 0<sz then some ((st.alloc s ⟨sz,[]⟩).put (some t) (.own s (st.site s).length 0 0))else none
 | _=>none
def S0(e:AV)(b i:Nat)(r:AV):Option AV :=
 if b=1 then(match e with | .nil=>some r|_=>none)
 else match e.cells[i]? with
  | some .nil=>some (.agg (e.cells.set i r))
  | _=>none
def St.s4(st:St)(s0 g0 i s sz:Nat):Option St :=
 match st.obj s0 g0 with
 | some o=>match o.es with
  | [e]=>if 0<sz/\s≠s0 then(match S0 e o.sz i (.own s (st.site s).length 0 0)with
   | some b=>some ((st.alloc s ⟨sz,[]⟩).setObj s0 g0 ⟨o.sz,[b]⟩)
   | none=>none)else none
  | _=>none
 | none=>none
section
variable {P:Program} {K:Ctx} {Z Z':Cz} {st st' st1 st2:St} {w w':World} {a:Act} {N:Nat}
def Keep.refl(w:World)(X:Nat->Prop):Keep w w X:=⟨rfl,rfl,rfl,dK _,dK _,λ_ _ _=>rfl⟩
theorem aA.freeze{t:Nat}(h:st.vK t=some st'):aA st st':=by
 intro K Z w a hs;unfold St.vK at h;split at h
 .rename_i p hp;cases h;generalize j:aO st aZ (st.get t)=ids;have A:∀ b o,Z.M b=some o->Mx Z st w ids b=some o:=λb o f=>mH f;have hz:cO Z st { Z with M:=Mx Z st w ids } (aJ st ids):=(cO.aJ ids st).trans (cO.jY A);have C:bC K { Z with M:=Mx Z st w ids } (aJ st ids) w:=by
   refine(bC.aJ ids hs.heap).grow (Keep.refl w _) _ A (λb o f=>?_) (λb o f=>?_) (λs g o b D f=>?_)
   .obtain h|⟨_,h,_⟩:=rJ f
    .exact hs.heap.mem b o h
    .exact h
   .obtain h|⟨_,_,s,g,z,_,l,m⟩:=rJ f
    .exact .inl h
    .exact .inr (hs.heap.own s g z b l m)
   .obtain⟨k,n⟩:=Dy ids st D;cases hm:Mx Z st w ids b with
    | none=>rfl
    | some y =>
     exfalso;obtain h|⟨_,_,s',g',z,B,l,m⟩:=rJ hm
     .rw[hs.heap.sep s g o b k f]at h;cases h
     .obtain⟨rfl,rfl⟩:=hs.heap.inj s g s' g' o z b k l f m;exact n B
  have r:PRep (Mx Z st w ids) p (a.tmps.getD t Go.undef):=AL hs.heap ids aZ _ _ _ (hs.aR t) hp (λi hi=>by rw[<- j];exact hi);refine⟨{ Z with M:=Mx Z st w ids },⟨λu=>?_,hs.defers,hs.size,C.gQ (λi=>pM _ _ _ i)⟩,.dR (hz.trans (sC (λi=>pM _ _ _ i) _))⟩;rw[xb];split
  .rename_i hu;cases hu;exact .p _ _ r
  .rw[y7 (zY ids st)];exact aM.mono (sC (λi=>pM _ _ _ i) _) (aM.mono hz (hs.aR u))
 .cases h
theorem aA.Ai{t s sz:Nat}(h:st.lV t s sz=some st'):aA st st':=by
 intro K Z w a hs;unfold St.lV at h;split at h
 .rename_i hn;split at h
  .rename_i hp;cases h;have b:=hs.heap.iM s sz hp;have hz:=cO.alloc Z st s ⟨sz,[]⟩ none 0;have f:a.tmps.getD t Go.undef=.slice none 0 0:=by have:=hs.aR t;rw[hn]at this;generalize a.tmps.getD t Go.undef=x at this ⊢;cases this;rfl
   refine⟨_,⟨λu=>?_,hs.defers,hs.size,b.gQ (λi=>pM _ _ _ i)⟩,.dR (hz.trans (sC (λi=>pM _ _ _ i) _))⟩;rw[xb];refine aM.mono (sC (s:=st.alloc s ⟨sz,[]⟩) (λi=>pM _ _ _ i) _) ?_;split
   .rename_i hu;cases hu;rw[f];exact .dU s _ ⟨sz,[]⟩ (by rw[kY,aW ⟨rfl,rfl⟩]) (by simp[Cz.bO])
   .exact aM.mono hz (hs.aR u)
  .cases h
 .cases h
def bC.same(h:bC K Z st w){s g:Nat}{o:bD}(k:st.obj s g=some o){es:List AV}(hl:es.length=o.es.length)(F:∀ e∈es,e.sz=o.sz)(h3:∀ c∈es.flatMap AV.cells,c.one=true)
  (G:∀ vals,aG Z st (o.es.flatMap AV.cells) vals->aG Z st (es.flatMap AV.cells) vals):bC K Z (st.setObj s g ⟨o.sz,es⟩) w:=by
 have n:=nO k;have hz:=cO.setObj Z st s g o ⟨o.sz,es⟩ k rfl hl;have old:∀ {s' g':Nat} {o':bD},(st.setObj s g ⟨o.sz,es⟩).obj s' g'=some o'->∃ M,st.obj s' g'=some M:=by
  intro s' g' o' f;rw[vp _ _ _ _ _ _ n]at f;split at f
  .rename_i m;obtain⟨rfl,rfl⟩:=m;exact⟨o,k⟩
  .exact⟨o',f⟩
 refine⟨λs' g' o' f=>?_,λs' g' O E o' L b a1 p i r=>?_,h.mem,λs' g' o' b a1 i=>?_,λs' g' o' b a1 i=>?_,h.m0,h.eE,h.keep⟩
 .rw[vp _ _ _ _ _ _ n]at f;split at f
  .rename_i m;obtain⟨rfl,rfl⟩:=m;cases f;obtain⟨H,R,S,I,J⟩:=h.bR s' g' o k;refine⟨H,F,h3,λl=>List.eq_nil_of_length_eq_zero (by rw[hl,I l];rfl),λb l=>?_⟩;obtain⟨cur,T,vals,u,z,A,B,C,D⟩:=J b l;exact⟨cur,T,vals,u,aG.mono hz (G vals z),A,B,by simpa[hl]using C,D⟩
  .exact(h.bR s' g' o' f).later hz rfl rfl (λ_ _=>rfl)
 .obtain⟨o1,j⟩:=old a1;obtain⟨U,t⟩:=old p;exact h.inj _ _ _ _ _ _ b j t i r
 .obtain⟨o1,j⟩:=old a1;exact h.sep _ _ _ b j i
 .obtain⟨o1,j⟩:=old a1;exact h.own _ _ _ b j i
theorem aG.set{vs:List AV}{xs:List Value}(i:Nat){r:AV}(h:aG Z st vs xs)(b:∀ x,xs[i]?=some x->aM Z st r x):aG Z st (vs.set i r) xs:=by
 induction i generalizing vs xs with
 | zero =>
  cases h with
  | nil=>exact .nil
  | cons v x vs xs h hs=>exact .cons _ _ _ _ (b x rfl) hs
 | succ i j =>
  cases h with
  | nil=>exact .nil
  | cons v x vs xs h hs=>exact .cons _ _ _ _ h (j hs (λy f=>b y f))
theorem aA.cW{s0 g0 i s sz:Nat}(h:st.s4 s0 g0 i s sz=some st'):aA st st':=by
 intro K Z w a hs;unfold St.s4 at h;split at h
 .rename_i o L;split at h
  .rename_i e f;split at h
   .rename_i t;obtain⟨hp,G⟩:=t;split at h
    .rename_i z b;cases h;have J:=hs.heap.iM s sz hp;have hz:=cO.alloc Z st s ⟨sz,[]⟩ none 0;generalize V:Z.bO s (st.site s).length none 0=r at J hz;have l:aM r (st.alloc s ⟨sz,[]⟩) (.own s (st.site s).length 0 0) (.slice none 0 0):=.dU s _ ⟨sz,[]⟩ (by rw[kY,aW ⟨rfl,rfl⟩]) (by rw[<- V];simp[Cz.bO]);have C:(st.alloc s ⟨sz,[]⟩).obj s0 g0=some o:=by rw[kY,aY (by rintro⟨rfl,_⟩;exact G rfl)];exact L
     have F:=hs.heap.bR s0 g0 o L;have A:=F.jC e (by simp[f]);have n:∀ c∈e.cells,c.one=true:=λc t=>F.one c (by simp[f,t]);have k:∀ x,aM r (st.alloc s ⟨sz,[]⟩) .nil x->x=.slice none 0 0:=λx D=>by cases D;rfl
     have m:z.sz=o.sz/\(∀ c∈z.cells,c.one=true)/\∀ vals,aG r (st.alloc s ⟨sz,[]⟩) e.cells vals->aG r (st.alloc s ⟨sz,[]⟩) z.cells vals:=by
      unfold S0 at b;split at b
      .rename_i I;split at b
       .cases b;refine⟨by rw[I];rfl,by simp[AV.cells,AV.one],λvals j=>?_⟩;simp only[AV.cells]at j ⊢;cases j with
        | cons _ x _ _ D H=>cases H;have:=k x D;subst this;exact .cons _ _ _ _ l .nil
       .cases b
      .rename_i I;split at b
       .rename_i hi;cases b;have M:=F.pos;have B:e.cells.length=o.sz:=by rw[AV.bS (by omega)];exact A
        refine⟨?_,λc t=>?_,λvals j=>?_⟩
        .simp only[AV.sz,List.length_set,B];rw[aY (by omega)]
        .simp only[AV.cells]at t;obtain h|h:=DY t
         .exact n c h
         .rw[h];rfl
        .simp only[AV.cells]at j ⊢;refine j.set i (λx D=>?_);obtain⟨y,O,H⟩:=j.get i .nil hi;rw[D]at O;cases O;rw[k x H];exact l
       .cases b
     obtain⟨R,S,U⟩:=m;have p:=J.same C (es:=[z]) (by rw[f];rfl) (by simpa using R) (by simpa using S) (λvals j=>by rw[f]at j;simpa using U vals (by simpa using j));have E:=cO.setObj r (st.alloc s ⟨sz,[]⟩) s0 g0 o ⟨o.sz,[z]⟩ C rfl (by rw[f];rfl);exact⟨r,⟨λu=>aM.mono (hz.trans E) (hs.aR u),hs.defers,hs.size,p⟩,.dR (hz.trans E)⟩
    .cases h
   .cases h
  .cases h
 .cases h
end
end Go.Ab
