/- Lemmas for the law AmbiguityCounts, part 24. No conditions. -/
import Derived.Test.YtcemegnnejaahaaGreatDoorDP21
import Derived.Shelf.SlSortCmp.WholeK
set_option maxRecDepth 100000
set_option maxHeartbeats 4000000
set_option linter.all false
namespace Go.Ab
open Enc (enc)
open Go.Proofs Go.Sort
def z3z(P:Program)(f:FuncId)(k:Nat):Prop :=
 ∀ (α : Type) [Inhabited α] (enc : α -> List Value),(∀ x,(enc x).length=k)->(∀ x,∀ v∈enc x,v.oneCell'=true)->∀ (cf : α -> α -> Int),SWO (ltOf cf)->∀ (g:Nat) (cb:Array Value) (blk off cap:Nat) (d:Array α) (w:World),
  (∀ args w,(callFunc g args).run P w=.ok (.enter g args) w)->CmpLays P g cb enc k cf blk off d.size w->HoldsK enc k w blk off d->blk<w.heap.size->d.size<4611686018427387904 ->
  Calls P f #[.slice (some ⟨blk,off,none⟩) d.size cap,.func (.func g) #[] cb] w fun e w' =>
   e=.returned (.tuple #[])/\∃ d' n os,PermIn 0 d.size d d'/\SortedIn (ltOf cf) 0 d.size d'/\w'=sortWorldK enc k w blk off n d' os
section
variable {α : Type} [Inhabited α] {en : α -> List Value} {k:Nat} {w:World} {blk:Nat}
theorem znp{m:Nat}{dk:Array α}{os:Array Obj}{b:Nat}(hb:b≠blk)(hlt:b<w.heap.size):(sortWorldK en k w blk 0 m dk os).heap[b]?=w.heap[b]?:=by simp only[sortWorldK,grow,putRowK,putRow,mapBlock];rw[Array.getElem?_append_left (by simpa using hlt),Array.getElem?_modify];simp[Ne.symm hb]
theorem z5e{m:Nat}{dk:Array α}{os:Array Obj}{cur:Array Value}{T:TypeId}{fr:Nat × Nat}(h:w.heap[blk]?=some (.cells cur T fr)):(sortWorldK en k w blk 0 m dk os).heap[blk]?=some (.cells (putCells id 0 (flatK en k dk) cur) T fr):=by have hlt:=(Array.getElem?_eq_some_iff.1 h).1;simp only[sortWorldK,grow,putRowK,putRow,mapBlock];rw[Array.getElem?_append_left (by simpa using hlt),Array.getElem?_modify];simp[h,onCells]
theorem z5f{m:Nat}{dk:Array α}{os:Array Obj}:Keep w (sortWorldK en k w blk 0 m dk os) fun b=>some blk=some b:=by
 refine⟨rfl,rfl,rfl,?_,?_,fun b hb hx=>znp (fun e=>hx (by rw[e])) hb⟩
 ·show w.drawn<=w.drawn+m;omega
 ·simp[sortWorldK,grow,putRowK,putRow,mapBlock]
theorem zyp{w w':World}(h:Keep w w' fun _=>False):∃ q os,w'=grow (w.drewN q) os:=by
 refine⟨w'.drawn - w.drawn,w'.heap.extract w.heap.size w'.heap.size,?_⟩;have hh:w'.heap=w.heap++w'.heap.extract w.heap.size w'.heap.size:=by
  apply Array.ext_getElem?;intro i;rcases yg1 i w.heap.size with hi|hi
  ·rw[Array.getElem?_append_left hi,h.blk i hi (fun h=>h)]
  ·rw[Array.getElem?_append_right hi,Array.getElem?_extract];rcases yg1 i w'.heap.size with hi'|hi'
   ·rw[yf1 (by omega)];congr 1;omega
   ·rw[yf0 (by omega),yik hi']
 have hd:=h.drawn;have h1:=h.os;have h2:=h.tape;have h3:=h.output
 cases w';cases w;simp only[grow,World.drewN]at hh hd h1 h2 h3 ⊢;subst h1 h2 h3
 congr 1
 omega
end
theorem PReps.mem_right{M:Nat->Option Obj}:∀ {vs:List PV} {xs:List Value},PReps M vs xs->∀ x∈xs,∃ c∈vs,PRep M c x
 | _,_,.nil,x,h=>by cases h
 | _,_,.cons u y _ _ h hs,x,hx=>by
  rcases yf4.1 hx with rfl|hx
  ·exact⟨u,by simp,h⟩
  ·obtain⟨c,hc,hr⟩:=PReps.mem_right hs x hx;exact⟨c,by simp[hc],hr⟩
theorem zu0{v:PV}{k:Nat}(h:v.sz=k)(h0:0<k):v.cells.length=k:=by
 subst h;cases v with
 | agg cs =>
  simp only[PV.cells,PV.sz]at h0 ⊢;by_cases h:cs.length<=1
  ·rw[yf1 h]at h0;omega
  ·rw[yf0 h]
 | tup vs=>simp[PV.sz]at h0
 | _=>rfl
theorem zi6{es:List PV}{e c:PV}(he:e∈es)(hc:c∈e.cells):c∈es.flatMap PV.cells:=yg3.2 ⟨e,he,hc⟩
theorem zki{M:Nat->Option Obj}{k:Nat}(h0:0<k):∀ {es:List PV} {cv:List Value},(∀ e∈es,e.sz=k)->PReps M (es.flatMap PV.cells) cv->∃ L:List (PV × List Value),L.map (·.1)=es/\L.flatMap (·.2)=cv/\∀ p∈L,PReps M p.1.cells p.2
 | [],cv,_,h=>by cases h;exact⟨[],rfl,rfl,by simp⟩
 | e::es,cv,hs,h=>by
  rw[yft]at h;obtain⟨c1,c2,rfl,h1,h2⟩:∃ c1 c2,cv=c1++c2/\PReps M e.cells c1/\PReps M (es.flatMap PV.cells) c2:=by
   clear hs;generalize e.cells=l at h;generalize es.flatMap PV.cells=r at h
   induction l generalizing cv with
   | nil=>exact⟨[],cv,rfl,.nil,h⟩
   | cons x l ih =>
    cases h with
    | cons _ y _ ys hx hxs =>
     obtain⟨c1,c2,rfl,g1,g2⟩:=ih _ hxs;exact⟨y::c1,c2,rfl,.cons _ _ _ _ hx g1,g2⟩
  obtain⟨L,l1,l2,l3⟩:=zki h0 (fun x hx=>hs x (by simp[hx])) h2;exact⟨(e,c1)::L,by simp[l1],by simp[l2],fun p hp=>by
   rcases yf4.1 hp with rfl|hp
   ·exact h1
   ·exact l3 p hp⟩
theorem zoq{α : Type}(f : α -> List Value)(k:Nat)(h0:0<k):∀ (L:List α),(∀ x∈L,(f x).length=k)->∀ (t:Nat) (x : α),L[t / k]?=some x->(L.flatMap f)[t]?=(f x)[t % k]?
 | [],_,t,x,h=>by simp at h
 | y::L,hl,t,x,h=>by
  have hy:=hl y (by simp);rw[yft];rcases yg1 t k with ht|ht
  ·rw[yhu ht]at h;simp at h;subst h;rw[yid (by omega),ygu ht]
  ·obtain⟨u,rfl⟩:∃ u,t=u+k:=⟨t - k,by omega⟩;rw[Nat.add_div_right _ h0]at h;simp at h;rw[yhg (by omega),hy,yib,Nat.add_mod_right];exact zoq f k h0 L (fun z hz=>hl z (by simp[hz])) u x h
theorem zl5{α : Type}[Inhabited α]{d d':Array α}(h:PermIn 0 d.size d d'):d'.toList.Perm d.toList:=by
 obtain⟨h1,_,h3⟩:=h;have e1:d'.extract 0 d.size=d':=by rw[<- h1];simp
 have e2:d.extract 0 d.size=d:=by simp
 rw[e1,e2]at h3;exact h3
section
variable {P:Program}
theorem z3z.spM{f g:FuncId}{k:Nat}(hS:z3z P f k)(hf:∃ fn,P.funcs[f]?=some fn/\fn.body.isSome=true/\fn.name ≠ "runtime.NumGoroutine")(h1:1<k){D:PV->Prop}{c:PV->PV->Int}
  (hg:∃ fn,P.funcs[g]?=some fn/\fn.body.isSome=true/\fn.name ≠ "runtime.NumGoroutine") (hc:∀ x y,D x->D y->Sp P g [x,y] (.pure (.int .i64 (c x y))))
  (hirr:∀ x,D x->¬ c x x<0) (htr:∀ x y z,D x->D y->D z->c x y<0->c y z<0->c x z<0) (hntr:∀ x y z,D x->D y->D z->¬ c x y<0->¬ c y z<0->¬ c x z<0)
  {es es':List PV} (hne:es≠[]) (hlen:es.length<4611686018427387904) (hD:∀ e∈es,D e) (hsz:∀ e∈es,e.sz=k) (huniq:∀ l:List PV,l.Perm es->l.Pairwise (fun x y=>¬ c y x<0)->l=es'):SpM P f [.sl es,.fn g []] 0 k es' (.pure (.tup [])):=by
 refine⟨hf,fun w M vals b cap es0 hM hvl href hi ha ho=>?_⟩;obtain⟨x,hx,hr⟩:=href _ rfl;have hes:es0=es/\x=match (generalizing:=false) b with|none=>.slice none 0 0|some b=>.slice (some ⟨b,0,none⟩) es.length cap:=by
  rcases hr with⟨h1,h2⟩|⟨e,b',h1,_⟩
  ·cases h1;exact⟨rfl,h2⟩
  ·cases h1
 obtain⟨rfl,hxv⟩:=hes;obtain⟨a1,a2,a3,a4,a5⟩:=ha;cases b with
 | none=>exact absurd (a4 rfl) hne
 | some blk =>
  obtain⟨hMb,cur,T,cv,k1,k2,k3,k4,k5,k6⟩:=a5 blk rfl;obtain⟨y,hy,hyr⟩:=ho 1 _ (by decide) rfl;have hvals:vals=[.slice (some ⟨blk,0,none⟩) es0.length cap,.func (.func g) #[] #[]]:=by
   match vals,hvl with
   | [u,v],_ =>
    simp at hx hy;subst hx hy;rw[hxv];cases hyr with
    | fn _ _ vs h=>cases h;rfl
  subst hvals;obtain⟨L,l1,l2,l3⟩:=zki (by omega) hsz k2
  let β : Type:={ p:PV × List Value // D p.1/\p.1.sz=k/\(∀ c∈p.1.cells,c.one=true)/\PReps M p.1.cells p.2 }
  have hL:∀ p∈L,D p.1/\p.1.sz=k/\(∀ c∈p.1.cells,c.one=true)/\PReps M p.1.cells p.2:=fun p hp=>by
   have he:p.1∈es0:=by rw[<- l1];exact yf6.2 ⟨p,hp,rfl⟩
   exact⟨hD _ he,hsz _ he,fun c hc=>a3 c (zi6 he hc),l3 p hp⟩
  let L':List β := L.attach.map fun p=>⟨p.1,hL p.1 p.2⟩
  have hL':L'.map (·.1)=L:=by simp only[L',yhl,Function.comp_def];exact List.attach_map_subtype_val L
  have hLl:L'.length=es0.length:=by rw[<- l1,<- hL'];simp
  haveI:Inhabited β := ⟨L'.head (by intro h;rw[h]at hLl;simp at hLl;exact hne (yii hLl.symm))⟩
  have hel:∀ x : β,x.1.2.length=k:=fun x=>by rw[x.2.2.2.2.length,zu0 x.2.2.1 (by omega)]
  have hlaw:=hS β (fun x=>x.1.2) hel (fun x v hv=>?_) (fun x y=>c x.1.1 y.1.1) ⟨fun x=>?_,fun x y z h1 h2=>?_,fun x y z h1 h2=>?_⟩ g #[] blk 0 cap L'.toArray w (fun args w=>zep hg) (fun m os dk hdk x y=>?_) (fun j hj=>?_) (Array.getElem?_eq_some_iff.1 k1).1 (by simpa[hLl]using hlen)
  ·have hsize:(L'.toArray.size:Nat)=es0.length:=by simp[hLl]
   rw[hsize]at hlaw;refine hlaw.mono ?_;rintro e w' ⟨rfl,d',n,os,hp,hso,rfl⟩;have hperm:=zl5 (by rw[hsize];exact hp);have hpm:(d'.toList.map (·.1.1)).Perm es0:=by have:=hperm.map (fun x : β => x.1.1);rw[<- l1,<- hL',List.map_map];simpa[Function.comp_def]using this
   have hds:d'.size=es0.length:=by rw[hp.1];exact hsize
   have hres:d'.toList.map (·.1.1)=es':=by refine huniq _ hpm ?_;rw[List.pairwise_map,List.pairwise_iff_getElem];intro i j hi hj hij;have:=hso i j (Nat.zero_le _) hij (by simpa[hds]using hj);rw[getElem!_pos d' i (by simpa using hi),getElem!_pos d' j (by simpa using hj)]at this;simpa[ltOf]using this
   have hlen':es'.length=es0.length:=by rw[<- hres];simpa using hds
   refine⟨.tuple #[],M,rfl,fun _ _ h=>h,fun b o hb=>?_,fun b o hb=>.inl hb,z5f,hlen',⟨a1,fun e he=>?_,fun c hc=>?_,fun h=>(by cases h),fun b' hb'=>?_⟩,.tup _ _ .nil⟩
   ·rw[znp (fun e=>by rw[e,hMb]at hb;cases hb) (ygh.1 (hM b o hb)).1];exact hM b o hb
   ·rw[<- hres]at he;exact hsz e (hpm.mem_iff.1 he)
   ·rw[<- hres]at hc;obtain⟨e,he,hc⟩:=yg3.1 hc;exact a3 c (zi6 (hpm.mem_iff.1 he) hc)
   ·cases hb';refine⟨hMb,_,T,d'.toList.flatMap (·.1.2),z5e k1,?_,fun i v hv=>?_,?_,by rw[hlen'];exact k5,k6⟩
    ·rw[<- hres];generalize d'.toList=dl
     induction dl with
     | nil=>exact .nil
     | cons x dl ih =>
      simp only[yfq,yft];exact x.2.2.2.2.append ih
    ·have hi:i<d'.size*k:=by
      have:=(yh6.1 hv).1;have e:(d'.toList.flatMap (·.1.2)).length=d'.size*k:=by
       rw[List.length_flatMap];have:d'.toList.map (fun x : β => x.1.2.length)=List.replicate d'.size k:=by apply yhq (by simp);intro i h1 h2;simp[hel]
       rw[this];simp
      omega
     have hcur:i<cur.size:=by rw[k4];exact yfo hi (by rw[hds];exact yg7 _ k5)
     have hq:i / k<d'.toList.length:=by have:=Nat.div_lt_of_lt_mul (by rw[Nat.mul_comm];exact hi:i<k*d'.size);simpa using this
     have hfg:=zoq (fun x : β => x.1.2) k (by omega) d'.toList (fun x _=>hel x) i d'.toList[i / k] (List.getElem?_eq_getElem hq);rw[hv]at hfg;have hq2:i / k<d'.size:=by simpa using hq
     simp only[putCells,Array.getElem?_mapIdx,Array.getElem?_eq_getElem hcur,Option.map_some,size_flatK];rw[if_pos ⟨Nat.zero_le _,by simpa using hi⟩,Nat.sub_zero,get_flatK _ _ _ _ hi,getElem!_pos d' (i / k) hq2];rw[List.getElem!_eq_getElem?_getD];simp only[Array.getElem_toList]at hfg;rw[<- hfg];rfl
    ·simp[putCells,k4]
  ·obtain⟨c,hc,hcr⟩:=PReps.mem_right x.2.2.2.2 v hv;exact hcr.one_val (x.2.2.2.1 c hc)
  ·simpa[ltOf]using hirr _ x.2.1
  ·simp only[ltOf,decide_eq_true_eq]at *;exact htr _ _ _ x.2.1 y.2.1 z.2.1 h1 h2
  ·simp only[ltOf,decide_eq_false_iff_not]at *;exact hntr _ _ _ x.2.1 y.2.1 z.2.1 h1 h2
  ·have hargs:PReps M [x.1.1,y.1.1] [.agg x.1.2.toArray,.agg y.1.2.toArray]:=by
    have ag:∀ x : β,PRep M x.1.1 (.agg x.1.2.toArray):=fun x=>by
     obtain⟨⟨p,l⟩,q1,q2,q3,q4⟩:=x;simp only at q1 q2 q3 q4 ⊢;cases p with
     | agg cs=>exact .agg cs l q3 q4
     | tup vs=>simp[PV.sz]at q2;omega
     | _=>simp[PV.sz]at q2;omega
    exact .cons _ _ _ _ (ag x) (.cons _ _ _ _ (ag y) .nil)
   refine((hc _ _ x.2.1 y.2.1).2 _ M _ (fun b o hb=>?_) hargs).mono ?_
   ·rw[znp (fun e=>by rw[e,hMb]at hb;cases hb) (ygh.1 (hM b o hb)).1];exact hM b o hb
   ·rintro e w' ⟨v,M',rfl,_,_,_,q4,q5⟩;refine⟨?_,zyp q4⟩;have q5:PRep M' (.int .i64 (c x.1.1 y.1.1)) v:=q5;cases q5;rfl
  ·have hj':j<es0.length*k:=by simpa[hLl]using hj
   have hcv:cv.length=es0.length*k:=by
    rw[<- l2,List.length_flatMap];have:L.map (fun x=>x.2.length)=List.replicate es0.length k:=by rw[<- hL',yhl];apply yhq (by simp[hLl]);intro i h1 h2;simp[hel]
    rw[this];simp
   have hcell:cur[j]?=some cv[j]:=k3 j _ (yfm (by omega));have hq:j / k<L'.length:=by rw[hLl];exact Nat.div_lt_of_lt_mul (by rw[yfy];exact hj')
   have hfg:=zoq (fun x : β => x.1.2) k (by omega) L' (fun x _=>hel x) j L'[j / k] (yfm hq);have hfl:L'.flatMap (fun x : β => x.1.2)=cv:=by have e:(L'.map (·.1)).flatMap (·.2)=L'.flatMap (fun x : β => x.1.2):=List.flatMap_map _ _ _;rw[<- e,hL',l2]
   rw[hfl]at hfg;refine⟨?_,?_⟩
   ·simp only[World.cell?,k1,Nat.zero_add,Option.isSome_none,Bool.false_eq_true,if_false];rw[hcell,get_flatK _ _ _ _ (by simpa using hj),List.getElem!_eq_getElem?_getD,getElem!_pos L'.toArray (j / k) (by simpa using hq)];simp only[List.getElem_toArray];rw[<- hfg,List.getElem?_eq_getElem (by omega)];rfl
   ·simp[World.frozen?,k1]
end
end Go.Ab
