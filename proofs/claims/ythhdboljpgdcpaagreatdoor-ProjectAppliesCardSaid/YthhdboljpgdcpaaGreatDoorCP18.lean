/- Lemmas for the law ProjectApplies, part 18. No conditions. -/
import Derived.Test.YthhdboljpgdcpaaGreatDoorCP15
import Derived.Shelf.SlSortCmp.WholeK
set_option maxRecDepth 100000
set_option maxHeartbeats 4000000
set_option linter.all false
namespace Go.Ab
open Enc (enc)
open Go.Proofs Go.Sort
def JN(P:Program)(f:FuncId)(k:Nat):Prop :=
 ∀ (α : Type) [Inhabited α] (enc : α -> List Value),(∀ x,(enc x).length=k)->(∀ x,∀ v∈enc x,v.oneCell'=true)->∀ (j : α -> α -> Int),SWO (ltOf j)->∀ (g:Nat) (cb:Array Value) (bX a i:Nat) (d:Array α) (w:World),
  (∀ args w,(callFunc g args).run P w=.ok (.enter g args) w)->CmpLays P g cb enc k j bX a d.size w->HoldsK enc k w bX a d->bX<w.heap.size->d.size<4611686018427387904 ->
  Calls P f #[.slice (some ⟨bX,a,none⟩) d.size i,.func (.func g) #[] cb] w λe p=>
   e=.returned (.tuple #[])/\∃ l n o,PermIn 0 d.size d l/\SortedIn (ltOf j) 0 d.size l/\p=sortWorldK enc k w bX a n l o
section
variable {α : Type} [Inhabited α] {en : α -> List Value} {k:Nat} {w:World} {bX:Nat}
def LL{m:Nat}{j:Array α}{n:Array Obj}{b:Nat}(l:b≠bX)(h:b<w.heap.size):(sortWorldK en k w bX 0 m j n).heap[b]?=w.heap[b]?:=by simp only[sortWorldK,grow,putRowK,putRow,mapBlock];rw[Array.getElem?_append_left (by simpa using h),Array.getElem?_modify];simp[Ne.symm l]
def yeh{m:Nat}{n:Array α}{r:Array Obj}{cur:Array Value}{T:TypeId}{o:Nat × Nat}(h:w.heap[bX]?=some (.cells cur T o)):(sortWorldK en k w bX 0 m n r).heap[bX]?=some (.cells (putCells id 0 (flatK en k n) cur) T o):=by have l:=(Array.getElem?_eq_some_iff.1 h).1;simp only[sortWorldK,grow,putRowK,putRow,mapBlock];rw[Array.getElem?_append_left (by simpa using l),Array.getElem?_modify];simp[h,onCells]
def yei{m:Nat}{i:Array α}{n:Array Obj}:Keep w (sortWorldK en k w bX 0 m i n) λb=>some bX=some b:=by
 refine⟨rfl,rfl,rfl,?_,?_,λb j l=>LL (λe=>l (by rw[e])) j⟩
 .show w.drawn<=w.drawn+m;omega
 .simp[sortWorldK,grow,putRowK,putRow,mapBlock]
theorem Xq{w a:World}(h:Keep w a λ_=>False):∃ q o,a=grow (w.drewN q) o:=by
 refine⟨a.drawn - w.drawn,a.heap.extract w.heap.size a.heap.size,?_⟩;have n:a.heap=w.heap++a.heap.extract w.heap.size a.heap.size:=by
  apply Array.ext_getElem?;intro i;obtain hi|hi:=pW i w.heap.size
  .rw[Array.getElem?_append_left hi,h.bX i hi (λh=>h)]
  .rw[Array.getElem?_append_right hi,Array.getElem?_extract];obtain d|d:=pW i a.heap.size
   .rw[aX (by omega)];congr 1;omega
   .rw[bD (by omega),E1 d]
 have m:=h.drawn;have f:=h.os;have j:=h.tape;have l:=h.output
 cases a;cases w;simp only[grow,World.drewN]at n m f j l ⊢;subst f j l
 congr 1
 omega
end
theorem PReps.rE{M:Nat->Option Obj}:∀ {vs:List PV} {xs:List Value},PReps M vs xs->∀ x∈xs,∃ c∈vs,PRep M c x
 | _,_,.nil,x,h=>by cases h
 | _,_,.cons u y _ _ h hs,x,a=>by
  obtain rfl|a:=cI.1 a
  .exact⟨u,by simp,h⟩
  .obtain⟨c,b,d⟩:=PReps.rE hs x a;exact⟨c,by simp[b],d⟩
theorem YP{v:PV}{k:Nat}(h:v.sz=k)(a:0<k):v.cells.length=k:=by
 subst h;cases v with
 | agg b =>
  simp only[PV.cells,PV.sz]at a ⊢;by_cases h:b.length<=1
  .rw[aX h]at a;omega
  .rw[bD h]
 | bM d=>simp[PV.sz]at a
 | _=>rfl
def RC{es:List PV}{e c:PV}(b:e∈es)(a:c∈e.cells):c∈es.flatMap PV.cells:=kC.2 ⟨e,b,a⟩
theorem Rq{M:Nat->Option Obj}{k:Nat}(o:0<k):∀ {es:List PV} {a:List Value},(∀ e∈es,e.sz=k)->PReps M (es.flatMap PV.cells) a->∃ L:List (PV × List Value),L.map (·.1)=es/\L.flatMap (·.2)=a/\∀ p∈L,PReps M p.1.cells p.2
 | [],a,_,h=>by cases h;exact⟨[],rfl,rfl,by simp⟩
 | e::es,a,j,h=>by
  rw[jG]at h;obtain⟨b,d,rfl,s,t⟩:∃ b d,a=b++d/\PReps M e.cells b/\PReps M (es.flatMap PV.cells) d:=by
   clear j;generalize e.cells=l at h;generalize es.flatMap PV.cells=r at h
   induction l generalizing a with
   | nil=>exact⟨[],a,rfl,.nil,h⟩
   | cons x l u =>
    cases h with
    | cons _ y _ C f i =>
     obtain⟨b,d,rfl,m,n⟩:=u _ i;exact⟨y::b,d,rfl,.cons _ _ _ _ f m,n⟩
  obtain⟨L,z,A,B⟩:=Rq o (λx f=>j x (by simp[f])) t;exact⟨(e,b)::L,by simp[z],by simp[A],λp hp=>by
   obtain rfl|hp:=cI.1 hp
   .exact s
   .exact B p hp⟩
theorem Lb{α : Type}(f : α -> List Value)(k:Nat)(b:0<k):∀ (L:List α),(∀ x∈L,(f x).length=k)->∀ (t:Nat) (x : α),L[t / k]?=some x->(L.flatMap f)[t]?=(f x)[t % k]?
 | [],_,t,x,h=>by simp at h
 | y::L,d,t,x,h=>by
  have i:=d y (by simp);rw[jG];obtain a|a:=pW t k
  .rw[Ac a]at h;simp at h;subst h;rw[wN (by omega),uM a]
  .obtain⟨u,rfl⟩:∃ u,t=u+k:=⟨t - k,by omega⟩;rw[Nat.add_div_right _ b]at h;simp at h;rw[qG (by omega),i,GZ,Nat.add_mod_right];exact Lb f k b L (λz j=>d z (by simp[j])) u x h
def perm_of_permIn{α : Type}[Inhabited α]{d b:Array α}(h:PermIn 0 d.size d b):b.toList.Perm d.toList:=by
 obtain⟨l,_,f⟩:=h;have i:b.extract 0 d.size=b:=by rw[<- l];simp
 have j:d.extract 0 d.size=d:=by simp
 rw[i,j]at f;exact f
section
variable {P:Program}
theorem JN.spM{f g:FuncId}{k:Nat}(hS:JN P f k)(hf:∃ fn,P.funcs[f]?=some fn/\fn.body.isSome=true/\fn.name ≠ "runtime.NumGoroutine")(I:1<k){D:PV->Prop}{c:PV->PV->Int}
  (hg:∃ fn,P.funcs[g]?=some fn/\fn.body.isSome=true/\fn.name ≠ "runtime.NumGoroutine") (J:∀ x y,D x->D y->Sp P g [x,y] (.pure (.int .i64 (c x y))))
  (ap:∀ x,D x->¬ c x x<0) (cc:∀ x y z,D x->D y->D z->c x y<0->c y z<0->c x z<0) (av:∀ x y z,D x->D y->D z->¬ c x y<0->¬ c y z<0->¬ c x z<0)
  {es K:List PV} (au:es≠[]) (aq:es.length<4611686018427387904) (hD:∀ e∈es,D e) (ad:∀ e∈es,e.sz=k) (af:∀ l:List PV,l.Perm es->l.Pairwise (λx y=>¬ c y x<0)->l=K):gO P f [.sl es,.fn g []] 0 k K (.pure (.bM [])):=by
 refine⟨hf,λw M vals b cap a hM ce aw hi ha ho=>?_⟩;obtain⟨x,hx,hr⟩:=aw _ rfl;have bo:a=es/\x=match (generalizing:=false) b with|none=>.slice none 0 0|some b=>.slice (some ⟨b,0,none⟩) es.length cap:=by
  obtain⟨I,S⟩|⟨e,b',I,_⟩:=hr
  .cases I;exact⟨rfl,S⟩
  .cases I
 obtain⟨rfl,cf⟩:=bo;obtain⟨a1,a2,a3,a4,a5⟩:=ha;cases b with
 | none=>exact absurd (a4 rfl) au
 | some bX =>
  obtain⟨U,cur,T,cv,k1,k2,k3,k4,k5,k6⟩:=a5 bX rfl;obtain⟨y,hy,cm⟩:=ho 1 _ (by decide) rfl;have al:vals=[.slice (some ⟨bX,0,none⟩) a.length cap,.func (.func g) #[] #[]]:=by
   match vals,ce with
   | [u,v],_ =>
    simp at hx hy;subst hx hy;rw[cf];cases cm with
    | fn _ _ vs h=>cases h;rfl
  subst al;obtain⟨L,l1,l2,l3⟩:=Rq (by omega) ad k2
  let β : Type:={ p:PV × List Value // D p.1/\p.1.sz=k/\(∀ c∈p.1.cells,c.one=true)/\PReps M p.1.cells p.2 }
  have hL:∀ p∈L,D p.1/\p.1.sz=k/\(∀ c∈p.1.cells,c.one=true)/\PReps M p.1.cells p.2:=λp hp=>by
   have O:p.1∈a:=by rw[<- l1];exact cA.2 ⟨p,hp,rfl⟩
   exact⟨hD _ O,ad _ O,λc J=>a3 c (RC O J),l3 p hp⟩
  let B:List β := L.attach.map λp=>⟨p.1,hL p.1 p.2⟩
  have N:B.map (·.1)=L:=by simp only[B,yG,Function.comp_def];exact List.attach_map_subtype_val L
  have r:B.length=a.length:=by rw[<- l1,<- N];simp
  haveI:Inhabited β := ⟨B.head (by intro h;rw[h]at r;simp at r;exact au (q9 r.symm))⟩
  have G:∀ x : β,x.1.2.length=k:=λx=>by rw[x.2.2.2.2.length,YP x.2.2.1 (by omega)]
  have Q:=hS β (λx=>x.1.2) G (λx v hv=>?_) (λx y=>c x.1.1 y.1.1) ⟨λx=>?_,λx y z I S=>?_,λx y z I S=>?_⟩ g #[] bX 0 cap B.toArray w (λargs w=>Gq hg) (λm os dk co x y=>?_) (λj hj=>?_) (Array.getElem?_eq_some_iff.1 k1).1 (by simpa[r]using aq)
  .have t:(B.toArray.size:Nat)=a.length:=by simp[r]
   rw[t]at Q;refine Q.mono ?_;rintro e w' ⟨rfl,d,n,os,hp,ca,rfl⟩;have Y:=perm_of_permIn (by rw[t];exact hp);have Z:(d.toList.map (·.1.1)).Perm a:=by have:=Y.map (λx : β=>x.1.1);rw[<- l1,<- N,List.map_map];simpa[Function.comp_def]using this
   have X:d.size=a.length:=by rw[hp.1];exact t
   have A:d.toList.map (·.1.1)=K:=by refine af _ Z ?_;rw[List.pairwise_map,List.pairwise_iff_getElem];intro i j hi hj bt;have:=ca i j (Nat.zero_le _) bt (by simpa[X]using hj);rw[getElem!_pos d i (by simpa using hi),getElem!_pos d j (by simpa using hj)]at this;simpa[ltOf]using this
   have H:K.length=a.length:=by rw[<- A];simpa using X
   refine⟨.tuple #[],M,rfl,λ_ _ h=>h,λb o F=>?_,λb o F=>.inl F,yei,H,⟨a1,λe O=>?_,λc J=>?_,λh=>(by cases h),λb' bb=>?_⟩,.bM _ _ .nil⟩
   .rw[LL (λe=>by rw[e,U]at F;cases F) (sH.1 (hM b o F)).1];exact hM b o F
   .rw[<- A]at O;exact ad e (Z.mem_iff.1 O)
   .rw[<- A]at J;obtain⟨e,O,J⟩:=kC.1 J;exact a3 c (RC (Z.mem_iff.1 O) J)
   .cases bb;refine⟨U,_,T,d.toList.flatMap (·.1.2),yeh k1,?_,λi v hv=>?_,?_,by rw[H];exact k5,k6⟩
    .rw[<- A];generalize d.toList=dl
     induction dl with
     | nil=>exact .nil
     | cons x dl ih =>
      simp only[jH,jG];exact x.2.2.2.2.append ih
    .have hi:i<d.size*k:=by
      have:=(iU.1 hv).1;have e:(d.toList.flatMap (·.1.2)).length=d.size*k:=by
       rw[List.length_flatMap];have:d.toList.map (λx : β=>x.1.2.length)=List.replicate d.size k:=by apply Bb (by simp);intro i I S;simp[G]
       rw[this];simp
      omega
     have ao:i<cur.size:=by rw[k4];exact iL hi (by rw[X];exact jU _ k5)
     have hq:i / k<d.toList.length:=by have:=Nat.div_lt_of_lt_mul (by rw[Nat.mul_comm];exact hi:i<k*d.size);simpa using this
     have C:=Lb (λx : β=>x.1.2) k (by omega) d.toList (λx _=>G x) i d.toList[i / k] (List.getElem?_eq_getElem hq);rw[hv]at C;have bx:i / k<d.size:=by simpa using hq
     simp only[putCells,Array.getElem?_mapIdx,Array.getElem?_eq_getElem ao,Option.map_some,size_flatK];rw[if_pos ⟨Nat.zero_le _,by simpa using hi⟩,Nat.sub_zero,get_flatK _ _ _ _ hi,getElem!_pos d (i / k) bx];rw[List.getElem!_eq_getElem?_getD];simp only[Array.getElem_toList]at C;rw[<- C];rfl
    .simp[putCells,k4]
  .obtain⟨c,J,bk⟩:=PReps.rE x.2.2.2.2 v hv;exact bk.gF (x.2.2.2.1 c J)
  .simpa[ltOf]using ap _ x.2.1
  .simp only[ltOf,decide_eq_true_eq]at *;exact cc _ _ _ x.2.1 y.2.1 z.2.1 I S
  .simp only[ltOf,decide_eq_false_iff_not]at *;exact av _ _ _ x.2.1 y.2.1 z.2.1 I S
  .have V:PReps M [x.1.1,y.1.1] [.agg x.1.2.toArray,.agg y.1.2.toArray]:=by
    have ag:∀ x : β,PRep M x.1.1 (.agg x.1.2.toArray):=λx=>by
     obtain⟨⟨p,l⟩,q1,q2,q3,q4⟩:=x;simp only at q1 q2 q3 q4 ⊢;cases p with
     | agg cs=>exact .agg cs l q3 q4
     | bM vs=>simp[PV.sz]at q2;omega
     | _=>simp[PV.sz]at q2;omega
    exact .cons _ _ _ _ (ag x) (.cons _ _ _ _ (ag y) .nil)
   refine((J _ _ x.2.1 y.2.1).2 _ M _ (λb o F=>?_) V).mono ?_
   .rw[LL (λe=>by rw[e,U]at F;cases F) (sH.1 (hM b o F)).1];exact hM b o F
   .rintro e w' ⟨v,M',rfl,_,_,_,q4,q5⟩;refine⟨?_,Xq q4⟩;have q5:PRep M' (.int .i64 (c x.1.1 y.1.1)) v:=q5;cases q5;rfl
  .have bu:j<a.length*k:=by simpa[r]using hj
   have cn:cv.length=a.length*k:=by
    rw[<- l2,List.length_flatMap];have:L.map (λx=>x.2.length)=List.replicate a.length k:=by rw[<- N,yG];apply Bb (by simp[r]);intro i I S;simp[G]
    rw[this];simp
   have W:cur[j]?=some cv[j]:=k3 j _ (dO (by omega));have hq:j / k<B.length:=by rw[r];exact Nat.div_lt_of_lt_mul (by rw[oI];exact bu)
   have C:=Lb (λx : β=>x.1.2) k (by omega) B (λx _=>G x) j B[j / k] (dO hq);have br:B.flatMap (λx : β=>x.1.2)=cv:=by have e:(B.map (·.1)).flatMap (·.2)=B.flatMap (λx : β=>x.1.2):=List.flatMap_map _ _ _;rw[<- e,N,l2]
   rw[br]at C;refine⟨?_,?_⟩
   .simp only[World.cell?,k1,Nat.zero_add,Option.isSome_none,Bool.false_eq_true,if_false];rw[W,get_flatK _ _ _ _ (by simpa using hj),List.getElem!_eq_getElem?_getD,getElem!_pos B.toArray (j / k) (by simpa using hq)];simp only[List.getElem_toArray];rw[<- C,List.getElem?_eq_getElem (by omega)];rfl
   .simp[World.frozen?,k1]
end
end Go.Ab
