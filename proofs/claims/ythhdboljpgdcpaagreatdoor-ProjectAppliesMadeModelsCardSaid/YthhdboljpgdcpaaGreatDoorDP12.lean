/- Lemmas for the law ProjectAppliesMadeModels, part 12. No conditions. -/
import Derived.Test.YthhdboljpgdcpaaGreatDoorDP11
import Derived.Shelf.SlSortCmp.WholeK
set_option maxRecDepth 100000
set_option maxHeartbeats 4000000
set_option linter.all false
namespace Go.Ab
open Enc (enc)
open Go.Proofs Go.Sort
def JN(P:Program)(f:FuncId)(k:Nat):Prop :=
 ∀ (α : Type) [Inhabited α] (enc : α -> List Value),(∀ x,(enc x).length=k)->(∀ x,∀ v∈enc x,v.oneCell'=true)->∀ (h : α -> α -> Int),SWO (ltOf h)->∀ (g:Nat) (cb:Array Value) (bX a b:Nat) (d:Array α) (w:World),
  (∀ args w,(callFunc g args).run P w=.ok (.enter g args) w)->CmpLays P g cb enc k h bX a d.size w->HoldsK enc k w bX a d->bX<w.heap.size->d.size<4611686018427387904 ->
  Calls P f #[.slice (some ⟨bX,a,none⟩) d.size b,.func (.func g) #[] cb] w λe l=>
   e=.returned (.tuple #[])/\∃ i n j,PermIn 0 d.size d i/\SortedIn (ltOf h) 0 d.size i/\l=sortWorldK enc k w bX a n i j
section
variable {α : Type} [Inhabited α] {en : α -> List Value} {k:Nat} {w:World} {bX:Nat}
def LL{m:Nat}{d:Array α}{h:Array Obj}{b:Nat}(f:b≠bX)(a:b<w.heap.size):(sortWorldK en k w bX 0 m d h).heap[b]?=w.heap[b]?:=by simp only[sortWorldK,grow,putRowK,putRow,mapBlock];rw[Array.getElem?_append_left (by simpa using a),Array.getElem?_modify];simp[Ne.symm f]
def yeh{m:Nat}{b:Array α}{f:Array Obj}{cur:Array Value}{T:TypeId}{d:Nat × Nat}(h:w.heap[bX]?=some (.cells cur T d)):(sortWorldK en k w bX 0 m b f).heap[bX]?=some (.cells (putCells id 0 (flatK en k b) cur) T d):=by have a:=(Array.getElem?_eq_some_iff.1 h).1;simp only[sortWorldK,grow,putRowK,putRow,mapBlock];rw[Array.getElem?_append_left (by simpa using a),Array.getElem?_modify];simp[h,onCells]
def yei{m:Nat}{a:Array α}{h:Array Obj}:Keep w (sortWorldK en k w bX 0 m a h) λb=>some bX=some b:=by
 refine⟨rfl,rfl,rfl,?_,?_,λb d f=>LL (λe=>f (by rw[e])) d⟩
 .show w.drawn<=w.drawn+m;omega
 .simp[sortWorldK,grow,putRowK,putRow,mapBlock]
theorem Xq{w a:World}(h:Keep w a λ_=>False):∃ q n,a=grow (w.drewN q) n:=by
 refine⟨a.drawn - w.drawn,a.heap.extract w.heap.size a.heap.size,?_⟩;have m:a.heap=w.heap++a.heap.extract w.heap.size a.heap.size:=by
  apply Array.ext_getElem?;intro i;obtain hi|hi:=pW i w.heap.size
  .rw[Array.getElem?_append_left hi,h.bX i hi (λh=>h)]
  .rw[Array.getElem?_append_right hi,Array.getElem?_extract];obtain b|b:=pW i a.heap.size
   .rw[aX (by omega)];congr 1;omega
   .rw[bD (by omega),E1 b]
 have l:=h.drawn;have d:=h.os;have f:=h.tape;have j:=h.output
 cases a;cases w;simp only[grow,World.drewN]at m l d f j ⊢;subst d f j
 congr 1
 omega
end
theorem PReps.rE{M:Nat->Option Obj}:∀ {vs:List PV} {xs:List Value},PReps M vs xs->∀ x∈xs,∃ c∈vs,PRep M c x
 | _,_,.nil,x,h=>by cases h
 | _,_,.cons u y _ _ h hs,x,a=>by
  obtain rfl|a:=cI.1 a
  .exact⟨u,by simp,h⟩
  .obtain⟨c,b,d⟩:=PReps.rE hs x a;exact⟨c,by simp[b],d⟩
theorem YP{v:PV}{k:Nat}(h:v.sz=k)(a:0<k):v.cells.length=k:=by
 subst h;cases v with
 | agg b =>
  simp only[PV.cells,PV.sz]at a ⊢;by_cases h:b.length<=1
  .rw[aX h]at a;omega
  .rw[bD h]
 | bM d=>simp[PV.sz]at a
 | _=>rfl
def RC{es:List PV}{e c:PV}(b:e∈es)(a:c∈e.cells):c∈es.flatMap PV.cells:=kC.2 ⟨e,b,a⟩
theorem Rq{M:Nat->Option Obj}{k:Nat}(o:0<k):∀ {es:List PV} {a:List Value},(∀ e∈es,e.sz=k)->PReps M (es.flatMap PV.cells) a->∃ L:List (PV × List Value),L.map (·.1)=es/\L.flatMap (·.2)=a/\∀ p∈L,PReps M p.1.cells p.2
 | [],a,_,h=>by cases h;exact⟨[],rfl,rfl,by simp⟩
 | e::es,a,j,h=>by
  rw[jG]at h;obtain⟨b,d,rfl,s,t⟩:∃ b d,a=b++d/\PReps M e.cells b/\PReps M (es.flatMap PV.cells) d:=by
   clear j;generalize e.cells=l at h;generalize es.flatMap PV.cells=r at h
   induction l generalizing a with
   | nil=>exact⟨[],a,rfl,.nil,h⟩
   | cons x l u =>
    cases h with
    | cons _ y _ C f i =>
     obtain⟨b,d,rfl,m,n⟩:=u _ i;exact⟨y::b,d,rfl,.cons _ _ _ _ f m,n⟩
  obtain⟨L,z,A,B⟩:=Rq o (λx f=>j x (by simp[f])) t;exact⟨(e,b)::L,by simp[z],by simp[A],λp hp=>by
   obtain rfl|hp:=cI.1 hp
   .exact s
   .exact B p hp⟩
theorem Lb{α : Type}(f : α -> List Value)(k:Nat)(b:0<k):∀ (L:List α),(∀ x∈L,(f x).length=k)->∀ (t:Nat) (x : α),L[t / k]?=some x->(L.flatMap f)[t]?=(f x)[t % k]?
 | [],_,t,x,h=>by simp at h
 | y::L,d,t,x,h=>by
  have i:=d y (by simp);rw[jG];obtain a|a:=pW t k
  .rw[Ac a]at h;simp at h;subst h;rw[wN (by omega),uM a]
  .obtain⟨u,rfl⟩:∃ u,t=u+k:=⟨t - k,by omega⟩;rw[Nat.add_div_right _ b]at h;simp at h;rw[qG (by omega),i,GZ,Nat.add_mod_right];exact Lb f k b L (λz j=>d z (by simp[j])) u x h
def V4{α : Type}[Inhabited α]{d a:Array α}(h:PermIn 0 d.size d a):a.toList.Perm d.toList:=by
 obtain⟨j,_,b⟩:=h;have f:a.extract 0 d.size=a:=by rw[<- j];simp
 have i:d.extract 0 d.size=d:=by simp
 rw[f,i]at b;exact b
section
variable {P:Program}
theorem JN.spM{f g:FuncId}{k:Nat}(hS:JN P f k)(hf:∃ fn,P.funcs[f]?=some fn/\fn.body.isSome=true/\fn.name ≠ "runtime.NumGoroutine")(G:1<k){D:PV->Prop}{c:PV->PV->Int}
  (hg:∃ fn,P.funcs[g]?=some fn/\fn.body.isSome=true/\fn.name ≠ "runtime.NumGoroutine") (H:∀ x y,D x->D y->Sp P g [x,y] (.pure (g6 (c x y))))
  (af:∀ x,D x->¬ c x x<0) (bu:∀ x y z,D x->D y->D z->c x y<0->c y z<0->c x z<0) (ap:∀ x y z,D x->D y->D z->¬ c x y<0->¬ c y z<0->¬ c x z<0)
  {es I:List PV} (ao:es≠[]) (al:es.length<4611686018427387904) (hD:∀ e∈es,D e) (X:∀ e∈es,e.sz=k) (Y:∀ l:List PV,l.Perm es->l.Pairwise (λx y=>¬ c y x<0)->l=I):gO P f [.sl es,.fn g []] 0 k I (.pure (.bM [])):=by
 refine⟨hf,λw M vals b cap a hM bx aq hi ha ho=>?_⟩;obtain⟨x,hx,hr⟩:=aq _ rfl;have aw:a=es/\x=match (generalizing:=false) b with|none=>.slice none 0 0|some b=>.slice (some ⟨b,0,none⟩) es.length cap:=by
  obtain⟨G,O⟩|⟨e,b',G,_⟩:=hr
  .cases G;exact⟨rfl,O⟩
  .cases G
 obtain⟨rfl,ca⟩:=aw;obtain⟨a1,a2,a3,a4,a5⟩:=ha;cases b with
 | none=>exact absurd (a4 rfl) ao
 | some bX =>
  obtain⟨Q,cur,T,cv,k1,k2,k3,k4,k5,k6⟩:=a5 bX rfl;obtain⟨y,hy,cc⟩:=ho 1 _ (by decide) rfl;have Z:vals=[.slice (some ⟨bX,0,none⟩) a.length cap,.func (.func g) #[] #[]]:=by
   match vals,bx with
   | [u,v],_ =>
    simp at hx hy;subst hx hy;rw[ca];cases cc with
    | fn _ _ vs h=>cases h;rfl
  subst Z;obtain⟨L,l1,l2,l3⟩:=Rq (by omega) X k2
  let β : Type:={ p:PV × List Value // D p.1/\p.1.sz=k/\(∀ c∈p.1.cells,c.one=true)/\PReps M p.1.cells p.2 }
  have hL:∀ p∈L,D p.1/\p.1.sz=k/\(∀ c∈p.1.cells,c.one=true)/\PReps M p.1.cells p.2:=λp hp=>by
   have K:p.1∈a:=by rw[<- l1];exact cA.2 ⟨p,hp,rfl⟩
   exact⟨hD _ K,X _ K,λc H=>a3 c (RC K H),l3 p hp⟩
  let A:List β := L.attach.map λp=>⟨p.1,hL p.1 p.2⟩
  have J:A.map (·.1)=L:=by simp only[A,yG,Function.comp_def];exact List.attach_map_subtype_val L
  have r:A.length=a.length:=by rw[<- l1,<- J];simp
  haveI:Inhabited β := ⟨A.head (by intro h;rw[h]at r;simp at r;exact ao (q9 r.symm))⟩
  have E:∀ x : β,x.1.2.length=k:=λx=>by rw[x.2.2.2.2.length,YP x.2.2.1 (by omega)]
  have N:=hS β (λx=>x.1.2) E (λx v hv=>?_) (λx y=>c x.1.1 y.1.1) ⟨λx=>?_,λx y z G O=>?_,λx y z G O=>?_⟩ g #[] bX 0 cap A.toArray w (λargs w=>Gq hg) (λm os dk cf x y=>?_) (λj hj=>?_) (Array.getElem?_eq_some_iff.1 k1).1 (by simpa[r]using al)
  .have s:(A.toArray.size:Nat)=a.length:=by simp[r]
   rw[s]at N;refine N.mono ?_;rintro e w' ⟨rfl,d,n,os,hp,bt,rfl⟩;have V:=V4 (by rw[s];exact hp);have W:(d.toList.map (·.1.1)).Perm a:=by have:=V.map (λx : β=>x.1.1);rw[<- l1,<- J,List.map_map];simpa[Function.comp_def]using this
   have U:d.size=a.length:=by rw[hp.1];exact s
   have t:d.toList.map (·.1.1)=I:=by refine Y _ W ?_;rw[List.pairwise_map,List.pairwise_iff_getElem];intro i j hi hj bk;have:=bt i j (Nat.zero_le _) bk (by simpa[U]using hj);rw[getElem!_pos d i (by simpa using hi),getElem!_pos d j (by simpa using hj)]at this;simpa[ltOf]using this
   have F:I.length=a.length:=by rw[<- t];simpa using U
   refine⟨.tuple #[],M,rfl,λ_ _ h=>h,λb o C=>?_,λb o C=>.inl C,yei,F,⟨a1,λe K=>?_,λc H=>?_,λh=>(by cases h),λb' au=>?_⟩,.bM _ _ .nil⟩
   .rw[LL (λe=>by rw[e,Q]at C;cases C) (sH.1 (hM b o C)).1];exact hM b o C
   .rw[<- t]at K;exact X e (W.mem_iff.1 K)
   .rw[<- t]at H;obtain⟨e,K,H⟩:=kC.1 H;exact a3 c (RC (W.mem_iff.1 K) H)
   .cases au;refine⟨Q,_,T,d.toList.flatMap (·.1.2),yeh k1,?_,λi v hv=>?_,?_,by rw[F];exact k5,k6⟩
    .rw[<- t];generalize d.toList=dl
     induction dl with
     | nil=>exact .nil
     | cons x dl ih =>
      simp only[jH,jG];exact x.2.2.2.2.append ih
    .have hi:i<d.size*k:=by
      have:=(iU.1 hv).1;have e:(d.toList.flatMap (·.1.2)).length=d.size*k:=by
       rw[List.length_flatMap];have:d.toList.map (λx : β=>x.1.2.length)=List.replicate d.size k:=by apply Bb (by simp);intro i G O;simp[E]
       rw[this];simp
      omega
     have ad:i<cur.size:=by rw[k4];exact iL hi (by rw[U];exact jU _ k5)
     have hq:i / k<d.toList.length:=by have:=Nat.div_lt_of_lt_mul (by rw[Nat.mul_comm];exact hi:i<k*d.size);simpa using this
     have B:=Lb (λx : β=>x.1.2) k (by omega) d.toList (λx _=>E x) i d.toList[i / k] (List.getElem?_eq_getElem hq);rw[hv]at B;have br:i / k<d.size:=by simpa using hq
     simp only[putCells,Array.getElem?_mapIdx,Array.getElem?_eq_getElem ad,Option.map_some,size_flatK];rw[if_pos ⟨Nat.zero_le _,by simpa using hi⟩,Nat.sub_zero,get_flatK _ _ _ _ hi,getElem!_pos d (i / k) br];rw[List.getElem!_eq_getElem?_getD];simp only[Array.getElem_toList]at B;rw[<- B];rfl
    .simp[putCells,k4]
  .obtain⟨c,H,av⟩:=PReps.rE x.2.2.2.2 v hv;exact av.gF (x.2.2.2.1 c H)
  .simpa[ltOf]using af _ x.2.1
  .simp only[ltOf,decide_eq_true_eq]at *;exact bu _ _ _ x.2.1 y.2.1 z.2.1 G O
  .simp only[ltOf,decide_eq_false_iff_not]at *;exact ap _ _ _ x.2.1 y.2.1 z.2.1 G O
  .have R:PReps M [x.1.1,y.1.1] [.agg x.1.2.toArray,.agg y.1.2.toArray]:=by
    have ag:∀ x : β,PRep M x.1.1 (.agg x.1.2.toArray):=λx=>by
     obtain⟨⟨p,l⟩,q1,q2,q3,q4⟩:=x;simp only at q1 q2 q3 q4 ⊢;cases p with
     | agg cs=>exact .agg cs l q3 q4
     | bM vs=>simp[PV.sz]at q2;omega
     | _=>simp[PV.sz]at q2;omega
    exact .cons _ _ _ _ (ag x) (.cons _ _ _ _ (ag y) .nil)
   refine((H _ _ x.2.1 y.2.1).2 _ M _ (λb o C=>?_) R).mono ?_
   .rw[LL (λe=>by rw[e,Q]at C;cases C) (sH.1 (hM b o C)).1];exact hM b o C
   .rintro e w' ⟨v,M',rfl,_,_,_,q4,q5⟩;refine⟨?_,Xq q4⟩;have q5:PRep M' (g6 (c x.1.1 y.1.1)) v:=q5;cases q5;rfl
  .have bo:j<a.length*k:=by simpa[r]using hj
   have ce:cv.length=a.length*k:=by
    rw[<- l2,List.length_flatMap];have:L.map (λx=>x.2.length)=List.replicate a.length k:=by rw[<- J,yG];apply Bb (by simp[r]);intro i G O;simp[E]
    rw[this];simp
   have S:cur[j]?=some cv[j]:=k3 j _ (dO (by omega));have hq:j / k<A.length:=by rw[r];exact Nat.div_lt_of_lt_mul (by rw[oI];exact bo)
   have B:=Lb (λx : β=>x.1.2) k (by omega) A (λx _=>E x) j A[j / k] (dO hq);have bb:A.flatMap (λx : β=>x.1.2)=cv:=by have e:(A.map (·.1)).flatMap (·.2)=A.flatMap (λx : β=>x.1.2):=List.flatMap_map _ _ _;rw[<- e,J,l2]
   rw[bb]at B;refine⟨?_,?_⟩
   .simp only[World.cell?,k1,Nat.zero_add,Option.isSome_none,Bool.false_eq_true,if_false];rw[S,get_flatK _ _ _ _ (by simpa using hj),List.getElem!_eq_getElem?_getD,getElem!_pos A.toArray (j / k) (by simpa using hq)];simp only[List.getElem_toArray];rw[<- B,List.getElem?_eq_getElem (by omega)];rfl
   .simp[World.frozen?,k1]
end
end Go.Ab
namespace Go.Ab
open Enc (enc)
def yf8:zS 366 [.int .u64 0] (g6 0):=by
 refine Sp.vz c.qg λ_=>?_;simp[g.qg,Ts];rw[lM];refine⟨0,by decide +kernel,?_⟩;have a:IntKind.i64.wrap 0=0:=by decide +kernel
 simp[a]
def yf9:zS 373 [.int .u64 0] (g6 0):=by refine Sp.vz c.qh λ_=>?_;simp[g.qh];refine bA yf8 rfl ?_;simp
end Go.Ab
