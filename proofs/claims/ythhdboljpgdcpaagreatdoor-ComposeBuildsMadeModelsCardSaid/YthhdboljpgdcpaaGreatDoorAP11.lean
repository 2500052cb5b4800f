/- Lemmas for the law ComposeBuildsMadeModels, part 11. No conditions. -/
import Derived.Test.YthhdboljpgdcpaaGreatDoorAP10
import Derived.Maps.RangeRun
set_option maxRecDepth 100000
set_option maxHeartbeats 4000000
set_option linter.all false
namespace Go.Ab
open Enc (enc)
section
variable {P:Program} {K:Ctx} {Z Z':Cz} {st st' st1 st2:St} {w w':World} {a:Act} {N:Nat} {ex:Exit} {A B:Option FA} {b4:St->Option FA->Prop}
def UU{c:Callee}{b:Array TypeId}{as:List bL}{r:Op}(h:A5 P c b as=some (.raw r)):False:=by
 unfold A5 at h
 repeat' split at h
 all_goals first
  | cases h
  | (obtain⟨_,_,h⟩:=cM h;cases h)
def mQ{α : Type}{x:Option α}{f : α -> Option c7}{r:Op}(h:x.bind f=some (.raw r))(k:∀ y,f y≠some (.raw r)):False:=by obtain⟨y,_,h⟩:=kW h;exact k y h
def uC{α : Type}{x:Option α}{f : α -> c7}{r:Op}(h:x.map f=some (.raw r))(k:∀ y,f y ≠ .raw r):False:=by obtain⟨y,_,h⟩:=cM h;exact k y h
def Ul{t:TypeId}{m k:Operand}{c:Bool}{r:Op}(h:BG P t m k c=some (.raw r)):False:=by
 unfold BG at h
 repeat' split at h
 all_goals first
  | exact mQ h λ_ h=>mQ h λ_ h=>mQ h λ_ h=>uC h λ_ h=>by cases h
  | cases h
def UJ{t:TypeId}{x:Operand}{d b mx:Option Operand}{r:Op}(h:De P t x d b mx=some (.raw r)):False:=by
 unfold De at h
 repeat' split at h
 all_goals first
  | exact mQ h λ_ h=>mQ h λ_ h=>uC h λ_ h=>by cases h
  | cases h
def T2{b:BinOp}{x y:bL}{r:Op}(h:BA b x y=some (.raw r)):False:=by
 unfold BA at h
 repeat' split at h
 all_goals cases h
def Uu{b:Fn}{x y:Array Operand}{r:Op}(h:C6 b x y=some (.raw r)):False:=by
 unfold C6 at h
 repeat' split at h
 all_goals first
  | exact uC h λ_ h=>by cases h
  | cases h
def Pu{b r:Op}(h:oC P b=some (.raw r)):b=r:=by
 cases b
 case call c=>exact(mQ h λ_ h=>UU h).elim
 case makeMap|mapUpdate|range|next|entry=>simp only[oC,cF,c7.raw.injEq]at h;exact h
 case lookup t m k c=>exact(Ul h).elim
 case slice=>exact(UJ h).elim
 case makeFunc=>exact(Uu h).elim
 case move|assign|alloc|box|nilCheck|extract=>exact(uC h λ_ h=>by cases h).elim
 case pick=>exact(mQ h λ_ h=>mQ h λ_ h=>uC h λ_ h=>by cases h).elim
 case binOp =>
  refine(mQ h λ_ h=>mQ h λ_ h=>?_).elim;split at h
  .cases h
  .cases h
  .exact T2 h
  .exact uC h λ_ h=>by cases h
 case unOp =>
  refine(mQ h λ_ h=>?_).elim;split at h<;>cases h
 case convert =>
  refine(mQ h λ_ h=>?_).elim;split at h<;>cases h
 case load=>refine(mQ h λ_ h=>?_).elim;split at h<;>cases h
 case store=>refine(mQ h λ_ h=>mQ h λ_ h=>?_).elim;split at h<;>cases h
 case build =>
  simp only[oC]at h;split at h
  .refine(mQ h λ_ h=>mQ h λ_ h=>?_).elim;split at h
   .exact uC h λ_ h=>by cases h
   .cases h
  .refine(mQ h λ_ h=>mQ h λ_ h=>?_).elim;split at h
   .exact uC h λ_ h=>by cases h
   .cases h
  .cases h
 case buildSlice =>
  simp only[oC]at h;split at h
  .exact(mQ h λ_ h=>uC h λ_ h=>by cases h).elim
  .cases h
 case makeSlice =>
  simp only[oC]at h;split at h
  .refine(mQ h λ_ h=>mQ h λ_ h=>mQ h λ_ h=>?_).elim;split at h<;>cases h
  .cases h
 case fieldAddr =>
  simp only[oC]at h;split at h
  .split at h
   .split at h
    .exact(uC h λ_ h=>by cases h).elim
    .cases h
   .cases h
  .cases h
 case field =>
  simp only[oC]at h;split at h
  .split at h
   .split at h
    .exact(uC h λ_ h=>by cases h).elim
    .cases h
   .cases h
  .cases h
 case indexAddr =>
  simp only[oC]at h;split at h
  .split at h
   .exact(mQ h λ_ h=>uC h λ_ h=>by cases h).elim
   .cases h
  .split at h
   .exact(mQ h λ_ h=>uC h λ_ h=>by cases h).elim
   .cases h
  .cases h
 case index =>
  simp only[oC]at h;split at h
  .split at h
   .exact(mQ h λ_ h=>uC h λ_ h=>by cases h).elim
   .cases h
  .exact(mQ h λ_ h=>uC h λ_ h=>by cases h).elim
  .cases h
 all_goals cases h
def nM.site(h:nM A K Z st w)(hs:∀ s,st'.site s=st.site s):nM A K Z st' w:=by refine h.later ⟨λ_ _ h=>h,λr b=>⟨⟨b.m,λs g o d=>b.o s g o (by rw[<- d];exact(fq (hs s)).symm),b.lt⟩,rfl⟩,.dR (sC hs _)⟩
def pW.raw{d:Option Nat}{op:Op} (h:∀ (K:Ctx) (Z:Cz) (w:World) (a:Act),K.N=N->aN K Z st w a->nM A K Z st w->∀ o:Oper,o.op=op ->
  ∃ nx y w' v A' Z',(execOp a.eval o).run P w=.ok nx w'/\(nx=.value y\/(nx=.skip/\y=Go.undef))/\aM Z' st v y/\bC K Z' st w'/\cO Z st Z' st/\nM A' K Z' st w'/\b4 (st.put d v) A'):pW P N ⟨d,.raw op,none⟩ st A b4:=by
 intro ops j o K Z w a Q Kt m H G hs E F;obtain⟨C,f,h3,D⟩:=DB G;have l:o.op=op:=Pu C;obtain⟨nx,y,w',v,A',Z',n,p,r,t,u,x,z⟩:=h K Z w a m hs E o l;have k:o.guard=none:=by
  cases k:o.guard with
  | none=>rfl
  | some J =>
   obtain⟨j,b⟩:=J;rw[k]at f;simp only[zO]at f;split at f<;>cases f
 have I:Region.wanted o (yielded ops a.tmps)=true:=by simp[Region.wanted,k]
 have i:d=o.dst:=h3;have fin:Kt (a.put o.dst y) w':=by refine F _ _ _ _ _ z (?_:aN K Z' (st.put d v) w' _) (x.site λs=>pM st d v s);rw[i];exact hs.put rfl u t r (by subst m;exact D) hs.defers
 unfold wpOp;simp only[H,I,cB];refine .inl ?_;unfold Oper.wp;rw[n];obtain rfl|⟨rfl,rfl⟩:=p
 .exact fin
 .exact fin
end
section
variable {P:Program} {K:Ctx} {Z Z':Cz} {st st' st1 st2:St} {w w':World} {a:Act} {N:Nat} {ex:Exit} {A B:Option FA} {b4:St->Option FA->Prop}
theorem PReps.get'{M:Nat->Option Obj}:∀ {vs:List PV} {xs:List Value},PReps M vs xs->∀ (i:Nat) (x:Value),xs[i]?=some x->∃ v,vs[i]?=some v/\PRep M v x
 | _,_,.nil,i,x,h=>by simp at h
 | _,_,.cons u y _ _ h _,0,x,e=>by simp at e;subst e;exact⟨u,by simp,h⟩
 | _,_,.cons _ _ _ _ _ hs,i+1,x,e=>by simp at e;simpa using PReps.get' hs i x e
def bC.world{X:Nat->Prop}(h:bC K Z st w)(k:Keep w w' X)(m:∀ b,X b->Z.M b=none/\(∀ s g o,st.obj s g=some o->Z.B s g≠some b)/\(K.X0 b\/K.w0.heap.size<=b)):bC K Z st w':=by
 have f:∀ b o,w.heap[b]?=some o->¬ X b->w'.heap[b]?=some o:=λb o d i=>by rw[k.bU b (sG.1 d).1 i];exact d
 refine⟨λs g o p=>?_,h.inj,λb o d=>f b o (h.mem b o d) λi=>?_,h.sep,h.own,h.m0,h.eE,?_⟩
 .have l:=h.bR s g o p;refine⟨l.pos,l.jC,l.one,l.xt,λb d=>?_⟩;obtain⟨cur,T,vals,r,t⟩:=l.bU b d;exact⟨cur,T,vals,f b _ r λi=>(m b i).2.1 s g o p d,t⟩
 .have:=(m b i).1;rw[d]at this;cases this
 .have j:=h.keep;refine⟨k.os.trans j.os,k.tape.trans j.tape,k.output.trans j.output,dP j.drawn k.drawn,dP j.size k.size,λb d i=>?_⟩;rw[k.bU b (iC d j.size) λn=>by
   obtain h|h:=(m b n).2.2
   .exact i h
   .omega]
  exact j.bU b d i
def P4(w:World)(o:Obj):Keep w (w.alloc o) λ_=>False :=
 ⟨rfl,rfl,rfl,dK _,by show w.heap.size<=(w.heap.push o).size;simp,λb d _=>by show(w.heap.push o)[b]?=_;rw[Array.getElem?_push_lt d,Array.getElem?_eq_getElem d]⟩
def J9(w:World)(r:Nat)(o:Obj):Keep w (ChangeMaps.setBlock w r o) λb=>b=r :=
 ⟨rfl,rfl,rfl,dK _,by show w.heap.size<=(w.heap.setIfInBounds r o).size;simp,λb _ d=>by show(w.heap.setIfInBounds r o)[b]?=_;simp[v8 d]⟩
def Wq(w:World):Keep w w.drew λ_=>False:=⟨rfl,rfl,rfl,Nat.le_succ _,dK _,λ_ _ _=>rfl⟩
def sL(r:Nat)(ks vs:List PV):FA:=⟨r,λM o=>∃ d b,o=some (.map d b)/\DM M ks vs d b,by
 rintro M m o f ⟨d,b,i,j,k,l⟩;exact⟨d,b,i,j.mono f,k.mono f,l⟩,false,false,λ_ _ _ _=>True,λ_ _ _ _ _ _ _ _ h=>h⟩
def n'(r k:Nat)(ks vs:List PV)(L:List Nat)(cur:Option Nat):FA:=⟨r,λM o=>∃ f b seen,M k=some (.map f b)/\DM M ks vs f b/\o=some (.mapIter (some k) b seen b) /\
  (∀ j e,f.toList[j]?=some e->(j∈L ↔ e.born∉seen))/\(∀ j∈L,j<ks.length)/\(∀ j,cur=some j->∃ (e:MapEntry) (d:Array Nat),f.toList[j]?=some e/\seen=d.push e.born),by
 rintro M t o i ⟨f,b,seen,l,⟨m,n,p⟩,s⟩;exact⟨f,b,seen,i _ _ l,⟨m.mono i,n.mono i,p⟩,s⟩,false,false,λ_ _ _ _=>True,λ_ _ _ _ _ _ _ _ h=>h⟩
theorem Lv{d:Option Nat}{t:TypeId}(k:∀ r,b4 (st.put d (.p (.fH r))) (some (sL r [] []))):pW P N ⟨d,.raw (.makeMap t none),none⟩ st none b4:=by
 refine .raw λK Z w a C j z o l=>?_;have i:(Instr.makeMap t none).run P w=.ok (.map (some w.heap.size)) (w.alloc (.map #[] 0)):=by simp[Instr.makeMap,Result.andThen]
 refine⟨.value (.map (some w.heap.size)),.map (some w.heap.size),w.alloc (.map #[] 0),.p (.fH w.heap.size),some (sL w.heap.size [] []),Z,by simp[execOp,l,i,Result.andThen],.inl rfl,.p _ _ (.fH _),j.heap.world (P4 w _) (λ_ h=>h.elim),cO.refl Z st,?_,k _⟩;have f:∀ b o,w.heap[b]?=some o->b<w.heap.size:=λb o h=>(sG.1 h).1;refine⟨⟨?_,λs g o l u=>?_,by show w.heap.size<(w.heap.push _).size;simp⟩,.inr j.heap.keep.size,#[],0,(MapKept.heap_alloc w _).1,.nil,.nil,by simp,by simp,by simp⟩
 .show Z.M w.heap.size=none;cases x:Z.M w.heap.size with
  | none=>rfl
  | some o=>have:=f _ _ (j.heap.mem _ _ x);omega
 .obtain⟨n,T,m,y,_⟩:=(j.heap.bR s g o l).bU _ u;have:w.heap.size<w.heap.size:=f _ _ y;omega
theorem z51{d:Option Nat}{t kt F:TypeId}{x y:Nat}{ks vs:List PV}(S:P.underlying t=some (.map kt F))(U:st.get x=.p (.mp y ks vs))(k:∀ r,b4 (st.put d (.p (.wN r))) (some (n' r y ks vs (List.range ks.length) none))) :
  pW P N ⟨d,.raw (.range t (.tmp x)),none⟩ st none b4:=by
 refine .raw λK Z w a hN l hA o E=>?_;have i:=l.aR x;rw[U]at i;have m:a.eval (.tmp x)=a.tmps.getD x Go.undef:=rfl;generalize a.tmps.getD x Go.undef=X at i m;cases i.cA with
 | mp _ _ _ z f G H W Y m4 m5 =>
  have C:=l.heap.mem _ _ G;have u:=run_range_map (P:=P) w t kt F y z f S C;refine⟨.value (.pointer (some ⟨w.heap.size,0,none⟩)),.pointer (some ⟨w.heap.size,0,none⟩),w.alloc (.mapIter (some y) f #[] f),.p (.wN w.heap.size),some (n' w.heap.size y ks vs (List.range ks.length) none),Z,by simp[execOp,E,m,u,Result.andThen],.inl rfl,.p _ _ (.wN _),l.heap.world (P4 w _) (λ_ h=>h.elim),cO.refl Z st,?_,k _⟩;have n:∀ b o,w.heap[b]?=some o->b<w.heap.size:=λb o h=>(Array.getElem?_eq_some_iff.1 h).1;have D:ks.length=z.toList.length:=by have:=H.length;simpa using this.symm
  refine⟨⟨?_,λs g o E C=>?_,by show w.heap.size<(w.heap.push _).size;simp⟩,.inr l.heap.keep.size,z,f,#[],G,⟨H,W,Y,m4,m5⟩,(MapKept.heap_alloc w _).1,λj e L=>?_,λj O=>by simpa using O,by simp⟩
  .show Z.M w.heap.size=none;cases R:Z.M w.heap.size with
   | none=>rfl
   | some o=>have:=n _ _ (l.heap.mem _ _ R);omega
  .obtain⟨J,T,I,V,_⟩:=(l.heap.bR s g o E).bU _ C;have:w.heap.size<w.heap.size:=n _ _ V;omega
  .have:=(List.getElem?_eq_some_iff.1 L).1;simp[D];simpa using this
theorem yan{d:Option Nat}{x r D:Nat}{ks vs:List PV}{L:List Nat}{cur:Option Nat}(hx:st.get x=.p (.wN r))
  (k0:L=[]->b4 (st.put d (.p (.bP [.bool false]))) (some (n' r D ks vs L cur)))
  (k1:∀ j∈L,∀ I J,ks[j]?=some I->vs[j]?=some J->b4 (st.put d (.p (.bP [.bool true,I,J]))) (some (n' r D ks vs (L.filter λi=>i≠j) (some j)))) :
  pW P N ⟨d,.raw (.next (.tmp x) false),none⟩ st (some (n' r D ks vs L cur)) b4:=by
 refine .raw λK Z w a hN S hA o ho=>?_;have C:=S.aR x;rw[hx]at C;have u:a.eval (.tmp x)=a.tmps.getD x Go.undef:=rfl;generalize a.tmps.getD x Go.undef=X at C u;cases C.cA;obtain⟨t,R,k,f,seen,m0,⟨U,m2,m3,m4,m5⟩,hr,O,V,h3⟩:=hA;simp only[n']at t R hr;have W:=S.heap.mem _ _ m0;obtain⟨e1,M⟩|⟨e,he,w1,M,e3⟩:=run_next_at (P:=P) w o.type r D f f seen k f hr W m4 (dK _)
 .have hL:L=[]:=by
   cases L with
   | nil=>rfl
   | cons j L =>
    exfalso;have y:=V j (by simp);have al:ks.length=k.toList.length:=by have:=U.length;simpa using this.symm
    have F:j<k.toList.length:=by omega
    have af:=(O j k.toList[j] (List.getElem?_eq_getElem F)).1 (by simp);have:k.toList[j]∈(leftOf k seen).toList:=by simp only[leftOf,Array.toList_filter,List.mem_filter];exact⟨List.getElem_mem F,by simpa using af⟩
    have h0:(leftOf k seen).toList.length=0:=by simpa using e1
    rw[List.length_eq_zero_iff.1 h0]at this;cases this
  exact⟨.value (.tuple #[.bool false]),.tuple #[.bool false],w,.p (.bP [.bool false]),some (n' r D ks vs L cur),Z,by simp[execOp,ho,u,M,Result.andThen],.inl rfl,.p _ _ (.bP _ _ (.cons _ _ _ _ (.bool _) .nil)),S.heap,cO.refl Z st,⟨t,R,k,f,seen,m0,⟨U,m2,m3,m4,m5⟩,hr,O,V,h3⟩,k0 hL⟩
 .have n:e∈k.toList/\e.born∉seen:=by simp only[leftOf,Array.toList_filter,List.mem_filter]at he;exact⟨he.1,by simpa using he.2⟩
  obtain⟨j,y⟩:=List.getElem?_of_mem n.1;have ad:j∈L:=(O j e y).2 n.2;obtain⟨I,g1,g2⟩:=U.get' j e.key (by simp[y]);obtain⟨J,g3,g4⟩:=m2.get' j e.val (by simp[y]);have ag:Keep w w1 λ_=>False:=by obtain rfl|rfl:=M;exact Keep.refl _ _;exact Wq w
  have s:r<w.heap.size:=t.lt
  have hH:bC K Z st (ChangeMaps.setBlock w1 r (.mapIter (some D) f (seen.push e.born) f)) :=
   (S.heap.world ag λ_ h=>h.elim).world (J9 w1 r _) λb W=>by subst W;exact⟨t.m,t.o,R⟩
  have H:w1.heap.size=w.heap.size:=by obtain rfl|rfl:=M<;>rfl
  refine⟨.value (.tuple #[.bool true,e.key,e.val]),.tuple #[.bool true,e.key,e.val],_,.p (.bP [.bool true,I,J]),some (n' r D ks vs (L.filter λi=>i≠j) (some j)),Z,by simp[execOp,ho,u,e3,Result.andThen],.inl rfl,.p _ _ (.bP _ [.bool true,e.key,e.val] (.cons _ _ _ _ (.bool _) (.cons _ _ _ _ g2 (.cons _ _ _ _ g4 .nil)))),hH,cO.refl Z st,?_,k1 j ad I J g1 g3⟩;refine⟨⟨t.m,t.o,?_⟩,R,k,f,seen.push e.born,m0,⟨U,m2,m3,m4,m5⟩,?_,λi e' l=>?_,λi hi=>V i (k8.1 hi).1,λi hi=>?_⟩
  .show r<(w1.heap.setIfInBounds r _).size;simp[H];exact s
  .show(w1.heap.setIfInBounds r _)[r]?=_;rw[SN];simp[H,s]
  .rw[k8,O i e' l];simp only[Array.mem_push,not_or,decide_eq_true_eq];have E:e'.born≠e.born ↔ i≠j:=by
    constructor
    .rintro h rfl;rw[y]at l;cases l;exact h rfl
    .intro h Y;refine h ?_;have l1:=(List.getElem?_eq_some_iff.1 l);have l2:=(List.getElem?_eq_some_iff.1 y);obtain⟨l1,q1⟩:=l1;obtain⟨l2,q2⟩:=l2;have G:i<(k.toList.map (·.born)).length:=by simpa using l1
     have z:j<(k.toList.map (·.born)).length:=by simpa using l2
     exact(List.getElem_inj (h₀ := G) (h₁ := z) m5).1 (by simp only[DP,q1,q2,Y])
   exact and_congr_right λ_=>E.symm
  .cases hi;exact⟨e,seen,y,rfl⟩
theorem WI{d:Option Nat}{x r u:Nat}{ks vs:List PV}{L:List Nat}{j:Nat}{t y:PV}(V:st.get x=.p (.wN r))(R:ks[j]?=some t)(U:vs[j]?=some y)
  (k:b4 (st.put d (.p (.bP [t,y]))) (some (n' r u ks vs L (some j)))) :
  pW P N ⟨d,.raw (.entry (.tmp x)),none⟩ st (some (n' r u ks vs L (some j))) b4:=by
 refine .raw λK Z w a hN s D o S=>?_;have f:=s.aR x;rw[V]at f;have i:a.eval (.tmp x)=a.tmps.getD x Go.undef:=rfl;generalize a.tmps.getD x Go.undef=X at f i;cases f.cA;have m:=D;obtain⟨J,M,F,b,seen,Y,⟨m1,m2,m3,m4,m5⟩,E,h1,h2,I⟩:=D;simp only[n']at J M E;have O:=s.heap.mem _ _ Y;obtain⟨e,h,n,rfl⟩:=I j rfl;have l:=run_entry_at (P:=P) w r u b h F b e E O (wg n) m5;obtain⟨W,z,G⟩:=m1.get' j e.key (by simp[n]);obtain⟨ad,C,H⟩:=m2.get' j e.val (by simp[n]);rw[R]at z;cases z;rw[U]at C;cases C;exact⟨.value (.tuple #[e.key,e.val]),.tuple #[e.key,e.val],w,.p (.bP [t,y]),_,Z,by simp[execOp,S,i,l,Result.andThen],.inl rfl,.p _ _ (.bP _ [e.key,e.val] (.cons _ _ _ _ G (.cons _ _ _ _ H .nil))),s.heap,cO.refl Z st,m,k⟩
end
section
variable {P:Program} {K:Ctx} {Z Z':Cz} {st st' st1 st2:St} {w w':World} {a:Act} {N:Nat} {ex:Exit} {A B:Option FA} {Post:Exit->St->Option FA->Prop} {ops:Array Oper} {Q:Exit->Act->World->Prop}
theorem P9{md:Region.Mode}{it:Nat->Item}{pre:Nat->List Nat}{F:Nat}(E:∀ x o,ops[x]?=some o->∀ y∈pre x,wS ops y x)
  (hc:∀ i,i<ops.size->∃ o,ops[i]?=some o/\xa P K.N ops o=some (it i).1.2/\wU P (it i).1.1) {L:List Nat} (t:oS md ops L []=true) (bk:ops.size=F+1) (m:∀ y,y<F->wS ops y F) :
  ∀ (n:Nat) (R:List Nat) {b:Array Bool} {st st':St} {Z:Cz} {w:World} {a:Act},R.length=n->R.Nodup->b.size=ops.size->(∀ y z,b.getD z false=true->wS ops y z->b.getD y false=true)->(∀ i,i∈R ↔ i<F/\b.getD i true=false)->b.getD F true=false ->
   R.Pairwise (λy x=>y∈pre x\/xz (it y).2 (it x).2=true)->fW (R.map it) st st'->aN K Z st w a ->
   (∀ Z' w' a',aN K Z' st' w' a'->cV Z st Z' st'->wpOp P ops Q F (λa w=>Q .normal a w) a' w')->wpAny P md ops Q (n+1) b a w
 | n,R,b,st,st',Z,w,a,hn,bo,s,X,W,af,ao,r,hs,hQ=>by
  have I:∀ {i:Nat} {o:Oper},ops[i]?=some o->(∀ e∈o.after,Region.binds md e=true->b.getD e.on false=true)->∀ y,wS ops y i->b.getD y false=true:=by
   intro i o S h3 y u;have gd:∀ e∈o.after,Region.binds .any e=true->b.getD e.on false=true:=λe he hb=>h3 e he (Oq hb);cases u with
   | one O k2 V k4=>rw[S]at O;cases O;rw[<- V];exact gd _ k2 k4
   | more k0 O k2 V k4=>rw[S]at O;cases O;exact X _ _ (by rw[<- V];exact gd _ k2 k4) k0
  have D:∀ y,b.getD y true=false->b.getD y false=true->False:=by
   intro y h5 H;obtain G|G:=pR y b.size
   .simp[G]at H h5;rw[H]at h5;cases h5
   .simp[DU G]at H
  refine⟨λhr=>?_,λi hi=>?_⟩
  .exact absurd hr (Lo L [] s t (by simp) ⟨F,by omega,af⟩)
  .obtain⟨h1,o,S,h3⟩:=mem_ready.1 hi;have av:∀ e∈o.after,Region.binds md e=true->b.getD e.on false=true:=by
    intro e he hb;have H:=h3 e he hb;obtain G|G:=pR e.on b.size
    .simp[G]at H ⊢;exact H
    .simp[DU G]at H
   have k:=I S av;have l:=(sG.1 S).1;by_cases Y:i=F
   .subst Y;cases R with
    | cons y R =>
     exfalso;have u:=(W y).1 (by simp);exact D y u.2 (k y (m y u.1))
    | nil =>
     cases n with
     | succ n=>simp at hn
     | zero =>
      cases r;refine wpOp_mono (λa w hq=>?_) (hQ _ _ _ hs (cV.refl _ _));refine⟨?_,hq⟩;apply SO.2;intro j hj;obtain⟨g1,o',g2,_⟩:=mem_ready.1 hj;have bb:=(sG.1 g2).1;by_cases f:j=i
      .subst f;have p:j<b.size:=by rw[s];exact bb
       simp[p]at g1
      .rw[getD_set_ne true (v8 f)]at g1;have:=(W j).2 ⟨by omega,g1⟩;cases this
   .have aw:=(W i).2 ⟨by omega,h1⟩;obtain⟨ys,xs,rfl⟩:=Ml aw;have ad:∀ y∈ys,xz (it y).2 (it i).2=true:=by
     intro y u;have:=(vy.1 ao).2.2 y u i (by simp);obtain h|h:=this
     .exact(D y ((W y).1 (by simp[u])).2 (k y (E i o S y h))).elim
     .exact h
    rw[qY,jH]at r;obtain⟨st1,J,C⟩:=fW.front r (λy u=>by obtain⟨z,U,rfl⟩:=cD.1 u;exact ad z U);cases n with
    | zero=>simp at hn
    | succ n =>
    cases J with
    | cons _ _ _ s1 _ O k2 V =>
     obtain⟨o',e1,e2,e3⟩:=hc i l;refine Gr e1 e2 hs e3 O (λZ' w' a' M hp=>?_);have d:=List.nodup_append.1 bo;have ag:i∉ys:=λh=>d.2.2 i h i (by simp) rfl;have al:i∉xs:=(List.nodup_cons.1 d.2.1).1;rw[<- List.map_append]at V;refine P9 E hc t bk m n (ys++xs) (by simp at hn ⊢;omega) ?_ (by simpa using s) ?_ ?_ ?_ ?_ V M ?_
     .refine FF.2 ⟨d.1,(uH.1 d.2.1).2,λy u z U=>d.2.2 y u z (by simp[U])⟩
     .intro y z U aq;by_cases ap:y=i
      .subst ap;have p:y<b.size:=by rw[s];exact l
       simp[p]
      .rw[getD_set_ne false (v8 ap)];by_cases au:z=i
       .subst au;exact k y aq
       .rw[getD_set_ne false (v8 au)]at U;exact X y z U aq
     .intro j;by_cases f:j=i
      .subst f;have p:j<b.size:=by rw[s];exact l
       simp[ag,al,p]
      .rw[getD_set_ne true (v8 f),<- W j];simp[f]
     .rw[getD_set_ne true Y];exact af
     .refine Ip ?_ ao;exact List.Sublist.append_left (List.sublist_cons_self _ _) _
     .intro Z2 w' a' M br;exact hQ _ _ _ (M.eqv (gT.symm C)) ((hp.trans br).trans (.dR (sC (gT.symm C).site _)))
def C7(i:Ins):Item:=((none,i),⟨[],[],[],[]⟩)
def LP(pre:List (List Nat))(n:Nat):Bool:=(List.range n).all λy=>(pre.getD n []).contains y
theorem MR.FW{is:List Ins}{i:Ins}{fs:List FP}{pre:List (List Nat)}(h:rG P is fs st st1)(hp:aQ [] 0 fs pre=true)(hl:LP pre is.length=true)(k:pW P N i st1 A λs B=>Post .normal s B):MR P N (.fM (is++[i]) pre) st A Post:=by
 intro code f K Z w a Q hN hs hA hQ;cases code<;>simp only[comp]at f
 case region id ops W =>
  split at f
  .rename_i hd;subst hd;split at f
   .rename_i ht;obtain⟨l,G,C⟩:=cM f;simp only[AC.fM.injEq]at C;obtain⟨rfl,rfl⟩:=C;subst hN;obtain⟨items,X,Y,e3,e4⟩:=h.items;have R:=(BW G).1;have d:items.length=is.length:=by rw[<- X];simp
    have m:ops.size=is.length+1:=by rw[<- Array.length_toList,<- R];simp
    obtain⟨o,k1,k2⟩:∃ o,ops[is.length]?=some o/\xa P K.N ops o=some i:=by obtain⟨_,hi⟩:=BW G;obtain⟨x,q1,q2⟩:=hi is.length ops[is.length] (by simp[m]);simp at q2;subst q2;exact⟨ops[is.length],by simp[m],q1⟩
    have I:=J8 (items:=items++[C7 i]) (by simp[X,C7]) (λx b=>by
     obtain b|b:=dT.1 b
     .exact e3 x b
     .simp at b;subst b;intro c f;cases f) G
    have p:∀ x,x<is.length->(items++[C7 i]).getD x tS=items.getD x tS:=by intro x b;simp[eT,wh,d,b]
    have E:fW ((List.range is.length).map λx=>(items++[C7 i]).getD x tS) st st1:=by rw[show((List.range is.length).map λx=>(items++[C7 i]).getD x tS)=(List.range is.length).map λx=>items.getD x tS from vA λx b=>p x (xP.1 b),LK _ _ _ d];exact e4
    have j:∀ (V:Region.Mode) (L:List Nat),oS V ops L []=true->wpAny P V ops Q ops.size (Array.replicate ops.size false) a { w with drawn:=w.drawn+1 }:=by
     intro V L hL;have D:=hs.root;rw[m];refine P9 (K:=⟨w,Z.M,lD Z st,K.N⟩) (pre:=λi=>(wQ [] (x6 ops.toList)).getD i []) (it:=λx=>(items++[C7 i]).getD x tS) (λx o ho y n=>KI ops x y n) I hL m (λy n=>?_) is.length (List.range is.length) (by simp) List.nodup_range (by simp[m]) (λy z hz _=>by simp[Io,Mj]at hz;split at hz<;>simp at hz) (λi=>by simp[Io,Mj];intro hi;rw[aW (by omega)];rfl) (by simp[Io]) ?_ E (Z:=Z) ⟨D.aR,D.defers,D.size,D.heap.drew⟩ (λZ' w' a' u hp=>?_)
     .refine KI ops _ y ?_;simp only[LP,List.all_eq_true,List.mem_range]at hl;simpa using hl y n
     .refine Im ?_ List.pairwise_lt_range;intro y x n b U;have b:=xP.1 b;have n:=xP.1 n;rw[p x b,p y n];have J:fs[x]?=some (items.getD x tS).2:=by rw[<- Y];simp[d,b]
      have O:fs[y]?=some (items.getD y tS).2:=by rw[<- Y];simp[d,n]
      simpa using (JW hp x _ J).2 y _ O U
     .exact k ops is.length o K Z' w' a' Q _ rfl k1 k2 (hs.rN u) (hA.later ⟨u.heap.m0,λr D=>D.later u,hp⟩) λst' A' Z2 w2 a2 hp S H=>hQ _ _ _ _ _ _ hp S H
    simp only[Mv,kq,B',Mi]at ht;obtain⟨t1,F⟩:=ht;refine wp_region_draw λt=>?_;unfold Region.schedule;split
    .exact wpAny_sound ops.size t _ a _ (j .any _ t1)
    .rename_i hm;obtain F|⟨F,t3⟩:=F
     .simp[F]at hm
     .split
      .exact wpAny_sound ops.size _ _ a _ (j .text _ F)
      .exact wpAny_sound ops.size _ _ a _ (j .gc _ t3)
   .cases f
  .obtain⟨l,_,C⟩:=cM f;cases C
 all_goals (first|cases f|(split at f<;>cases f)|(obtain⟨_,_,C⟩:=cM f;cases C))
end
def mL(kc:List PV)(v:PV):List PV->List PV->List PV × List PV
 | .agg c::b,x::d=>if tE c kc=true then(.agg c::b,v::d)else(.agg c::(mL kc v b d).1,x::(mL kc v b d).2)
 | _,_=>([.agg kc],[v])
theorem Qm{M:Nat->Option Obj}{H:List IntKind}{kc:List PV}{v:PV}{vals:List Value}(p:j' H kc=true)(G:PReps M kc vals):∀ {ks vs:List PV} {es:List MapEntry},ks.all (su H)=true->PReps M ks (es.map (·.key))->PReps M vs (es.map (·.val))->(es.map (·.key)).Nodup ->
  ((∀ e:MapEntry,e∈es->e.key ≠ .agg vals.toArray)->mL kc v ks vs=(ks++[.agg kc],vs++[v]))/\∀ (j:Nat) (e:MapEntry),es[j]?=some e->e.key=.agg vals.toArray->mL kc v ks vs=(ks,vs.set j v)
 | [],vs,es,_,l,t,_=>by
  cases es with
  | nil=>cases t;exact⟨λ_=>rfl,λj e h=>by simp at h⟩
  | cons e es=>cases l
 | k::ks,vs,[],_,l,_,_=>by cases l
 | k::ks,vs,e::es,u,l,t,i=>by
  simp only[List.all_cons,kq]at u;simp only[jH]at l t i;cases l with
  | cons _ _ _ _ F y =>
   cases t with
   | cons x _ vs _ U D =>
    obtain⟨O,R⟩:=Qm (v:=v) p G u.2 y D (uH.1 i).2;cases k<;>simp only[su,gJ,false_and]at u;rename_i c;generalize n:e.key=S at F i;cases F with
    | agg _ E _ C =>
     have o:=Jy u.1 p C G;have d:(Value.agg E.toArray=.agg vals.toArray) ↔ E=vals:=by
      constructor
      .intro h;have:=congrArg (λv=>match v with|Value.agg I=>I.toList|_=>[]) h;simpa using this
      .rintro rfl;rfl
     by_cases r:E=vals
     .refine⟨λh=>absurd (n.trans (d.2 r)) (h e (by simp)),λj s m f=>?_⟩;have b:mL kc v (.agg c::ks) (x::vs)=(.agg c::ks,v::vs):=by simp[mL,o.2 r]
      cases j with
      | zero=>exact b
      | succ j =>
       exfalso;simp at m;have J:s∈es:=wg m;refine(uH.1 i).1 (cD.2 ⟨s,J,?_⟩);rw[f];exact(d.2 r).symm
     .have z:¬ tE c kc=true:=λh=>r (o.1 h);have b:mL kc v (.agg c::ks) (x::vs)=(.agg c::(mL kc v ks vs).1,x::(mL kc v ks vs).2):=by simp[mL,z]
      rw[b];refine⟨λh=>?_,λj s m f=>?_⟩
      .rw[O λx L=>h x (by simp[L])];rfl
      .cases j with
       | zero=>simp at m;subst m;exact absurd (d.1 (n.symm.trans f)) r
       | succ j=>rw[R j s (by simpa using m) f];rfl
theorem PReps.set{M:Nat->Option Obj}{vs:List PV}{xs:List Value}(i:Nat){r:PV}{x:Value}(h:PReps M vs xs)(b:PRep M r x):PReps M (vs.set i r) (xs.set i x):=by
 induction i generalizing vs xs with
 | zero =>
  cases h with
  | nil=>exact .nil
  | cons v y vs xs h hs=>exact .cons _ _ _ _ b hs
 | succ i d =>
  cases h with
  | nil=>exact .nil
  | cons v y vs xs h hs=>exact .cons _ _ _ _ h (d hs)
theorem PReps.snoc{M:Nat->Option Obj}:∀ {vs:List PV} {xs:List Value} {r:PV} {x:Value},PReps M vs xs->PRep M r x->PReps M (vs++[r]) (xs++[x])
 | _,_,_,_,.nil,h=>.cons _ _ _ _ h .nil
 | _,_,_,_,.cons _ _ _ _ h hs,k=>.cons _ _ _ _ h (PReps.snoc hs k)
def QW{P:Program}{w:World}{t kt et:TypeId}{X:List IntKind}{M:Nat->Option Obj}{r:Nat}{ks vs kc:List PV}{v:PV}{vals:List Value}{x:Value}{es:Array MapEntry}{b:Nat}
  (ht:P.underlying t=some (.map kt et)) (p:WideMaps.KeyLaw P kt) (F:∀ {kc:List PV} {vals:List Value},j' X kc=true->PReps M kc vals->∃ l,keyOf P kt (.agg vals.toArray)=some l)
  (hb:w.heap[r]?=some (.map es b)) (hm:DM M ks vs es b) (G:ks.all (su X)=true) (E:j' X kc=true) (U:PReps M kc vals) (H:∀ c∈kc,c.one=true) (hx:PRep M v x) :
  ∃ u d,(Instr.mapUpdate t (.map (some r)) (.agg vals.toArray) x).run P w=.ok () (ChangeMaps.setBlock w r (.map u d))/\DM M (mL kc v ks vs).1 (mL kc v ks vs).2 u d:=by
 obtain⟨I,V,W,m4,m5⟩:=hm;obtain⟨l,S⟩:=F E U;have C:=Lj F G I;obtain⟨f1,f2⟩:=Qm (v:=v) E U G I V W;have k:=p.check w false S;have m:(getObj r).run P w=.ok (.map es b) w:=MapKept.run_getObj_map hb;have o:∀ J,(setObj r J).run P w=.ok () (ChangeMaps.setBlock w r J):=λJ=>MapKept.run_setObj_map J hb;have h:=p.stays w S;obtain⟨L,z⟩|⟨j,e0,L,z,O⟩:=p.find w S es.toList C
 .refine⟨es.push ⟨.agg vals.toArray,x,b⟩,b+1,by simp[Instr.mapUpdate,run_underlying ht,m,k,L,o,Result.andThen],?_⟩;rw[f1 z];obtain⟨Y,s2,s3⟩:=MapKept.stamped_push ⟨m4,m5,W⟩ (key:=.agg vals.toArray) (val:=x) z;exact⟨by simpa using I.snoc (.agg kc vals H U),by simpa using V.snoc hx,s3,Y,s2⟩
 .have R:es[j]?=some e0:=by simpa using z
  refine⟨es.modify j λy=>{ y with key:=.agg vals.toArray,val:=x },b,by simp[Instr.mapUpdate,run_underlying ht,m,k,L,R,O,h,o,Result.andThen],?_⟩;rw[f2 j e0 z O];have n:∀ s,es[j]?=some s->({ s with key:=.agg vals.toArray,val:=x }:MapEntry).key=s.key:=λs f=>by rw[R]at f;cases f;exact O.symm
  obtain⟨Y,s2,s3⟩:=MapKept.stamped_modify ⟨m4,m5,W⟩ j (λy=>{ y with key:=.agg vals.toArray,val:=x }) (λ_ _=>rfl) (λs _ f=>n s f);refine⟨?_,?_,s3,Y,s2⟩
  .rw[MapKept.modify_keys j _ n];exact I
  .have:(es.modify j λy=>{ y with key:=.agg vals.toArray,val:=x }).toList.map (·.val)=(es.toList.map (·.val)).set j x:=by
    apply DZ;intro i;simp only[FE,Array.getElem?_toList,Array.getElem?_modify,vx];by_cases D:j=i
    .subst D;have:j<es.size:=(sG.1 R).1;simp[this]
    .simp[D]
   rw[this];exact V.set j hx
section
variable {P:Program} {K:Ctx} {Z Z':Cz} {st st' st1 st2:St} {w w':World} {a:Act} {N:Nat} {ex:Exit} {A B:Option FA} {Post:Exit->St->Option FA->Prop} {b4:St->Option FA->Prop}
def wO(r:Nat):FA:=⟨r,λ_ _=>True,λ_ _ _ _ h=>h,true,false,λ_ _ _ _=>True,λ_ _ _ _ _ _ _ _ h=>h⟩
theorem UN{d:Option Nat}{t kt et e:TypeId}{n:Nat}{q:IntKind}{x y z r:Nat}{ks vs kc:List PV}{v:PV}(ht:P.underlying t=some (.map kt et))(hk:P.underlying kt=some (.array n e))(he:P.underlying e=some (.int q))(hn:P.cellsOf kt=n)(hc:P.cellsOf e=1)(h0:0<P.types.size)
  (hx:st.get x=.p (.mp r ks vs)) (hy:st.get y=.p (.agg kc)) (hz:st.get z=.p v) (au:ks.all (su (List.replicate n q))=true) (aq:j' (List.replicate n q) kc=true)
  (aw:jQ (mL kc v ks vs).1=true) (bb:jQ (mL kc v ks vs).2=true)
  (k:b4 ⟨[],[]⟩ (some (sL r (mL kc v ks vs).1 (mL kc v ks vs).2))):pW P N ⟨none,.raw (.mapUpdate t (.tmp x) (.tmp y) (.tmp z)),none⟩ st (some (wO r)) b4:=by
 intro ops j o K Z w a Q Kt hN hj ao u hA hK;obtain⟨O,D,h3,h4⟩:=DB ao;have bk:o.op=.mapUpdate t (.tmp x) (.tmp y) (.tmp z):=Pu O;have hg:o.guard=none:=by
  cases hg:o.guard with
  | none=>rfl
  | some jb =>
   obtain⟨j,b⟩:=jb;rw[hg]at D;simp only[zO]at D;split at D<;>cases D
 have hw:Region.wanted o (yielded ops a.tmps)=true:=by simp[Region.wanted,hg]
 have hd:o.dst=none:=h3.symm;have q1:=u.aR x;have q2:=u.aR y;have q3:=u.aR z
 rw[hx]at q1;rw[hy]at q2;rw[hz]at q3;have e1:a.eval (.tmp x)=a.tmps.getD x Go.undef:=rfl;have e2:a.eval (.tmp y)=a.tmps.getD y Go.undef:=rfl;have e3:a.eval (.tmp z)=a.tmps.getD z Go.undef:=rfl;generalize a.tmps.getD x Go.undef=X at q1 e1;generalize a.tmps.getD y Go.undef=Y at q2 e2;generalize a.tmps.getD z Go.undef=V at q3 e3;have bo:=q3.cA;cases q1.cA with
 | mp _ _ _ es af m0 m1 m2 m3 m4 m5 =>
  cases q2.cA with
  | agg _ br U hv =>
   have C:=u.heap.mem _ _ m0;obtain⟨G,f,W,av⟩:=QW ht (NR hk he hn hc) (λO D=>P6 hk he hn hc h0 O D) C ⟨m1,m2,m3,m4,m5⟩ au aq hv U bo;have E:r<w.heap.size:=(sG.1 C).1;obtain⟨ag,R⟩:K.M0 r=none/\(K.X0 r\/K.w0.heap.size<=r):=hA
   let L:Nat->Option Obj:=λb=>if b=r then none else Z.M b
   have S:∀ b o,L b=some o->b≠r/\Z.M b=some o:=λb o h=>by
    simp only[L]at h;split at h
    .cases h
    .exact⟨by assumption,h⟩
   have i:∀ b F T fr,Z.M b=some (.cells F T fr)->L b=some (.cells F T fr):=λb F T fr h=>by
    simp only[L];rw[aY];· exact h
    .rintro rfl;rw[m0]at h;cases h
   obtain⟨p1,p2,p3,p4,p5⟩:=av;have m:∀ s g,(⟨[],[]⟩:St).obj s g=none:=λ_ _=>rfl;refine(show o.wp P a w Kt Q from ?_) |> λh=>by unfold wpOp;simp only[hj,hw,cB];exact .inl h
   unfold Oper.wp;have ap:(execOp a.eval o).run P w=.ok .skip (ChangeMaps.setBlock w r (.map G f)):=by simp[execOp,bk,e1,e2,e3,W,Result.andThen]
   rw[ap];refine hK ⟨[],[]⟩ (some (sL r (mL kc v ks vs).1 (mL kc v ks vs).2)) ⟨L,Z.B,Z.cap⟩ _ _ k ?_ ?_
   .rw[hd];have J:=J9 w r (.map G f);refine⟨λt=>.undef _,u.defers,u.size,⟨λs g o l=>(by rw[m]at l;cases l),λs g _ _ o _ b l=>(by rw[m]at l;cases l),λb o C=>?_,λs g o b l=>(by rw[m]at l;cases l),λs g o b l=>(by rw[m]at l;cases l),λb o H=>?_,λb o C=>u.heap.eE b o (S b o C).2,?_⟩⟩
    .obtain⟨O,D⟩:=S b o C;have h3:=u.heap.mem b o D;rw[J.bU b (sG.1 h3).1 O];exact h3
    .have:=u.heap.m0 b o H;show(if b=r then none else Z.M b)=some o;rw[aY];· exact this
     .rintro rfl;rw[ag]at H;cases H
    .have I:=u.heap.keep;refine⟨J.os.trans I.os,J.tape.trans I.tape,J.output.trans I.output,dP I.drawn J.drawn,dP I.size J.size,λb C ad=>?_⟩;rw[J.bU b (iC C I.size) λal=>by
      subst al;obtain h|h:=R
      .exact ad h
      .omega]
     exact I.bU b C ad
   .refine⟨⟨by simp[L,sL],λs g o l=>(by rw[m]at l;cases l),?_⟩,R,G,f,?_,?_⟩
    .show r<(w.heap.setIfInBounds r _).size;simpa using E
    .show(w.heap.setIfInBounds r _)[r]?=_;rw[SN];simp[E]
    .exact⟨p1.cL i aw,p2.cL i bb,p3,p4,p5⟩
def Cy(P:Program)(f:FuncId)(ks vs args:List PV)(j k:List PV):Prop :=
 (∃ i,P.funcs[f]?=some i/\i.body.isSome=true/\i.name ≠ "runtime.NumGoroutine") /\
 ∀ (w:World) (M:Nat->Option Obj) (r:Nat) (d:List Value),(∀ b o,M b=some o->w.heap[b]?=some o)->PReps M (.mp r ks vs::args) d ->
  Calls P f d.toArray w λe w'=>∃ h,e=.returned (.tuple #[])/\(∀ b o,b≠r->M b=some o->h b=some o)/\(∀ b o,h b=some o->w'.heap[b]?=some o) /\
   (∀ b o,h b=some o->b=r\/M b=some o\/w.heap.size<=b)/\Keep w w' (λb=>b=r)/\PRep h (.mp r j k) (.map (some r))
theorem Cy.gG{f:FuncId}{ks vs args u y:List PV}{n np:Nat}{b:GC}(k:aV P f=some ⟨n,np,b.er,[]⟩)(hn:args.length+1<=n)
  (h:∀ r,MR P n b.er (vi (.mp r ks vs::args)) (some (wO r)) λex s B=>(ex=.normal\/ex=.ret)/\(B=some (sL r u y)\/(B=some (wO r)/\s.get 0=.p (.mp r u y)))):Cy P f ks vs args u y:=by
 unfold aV at k;split at k
 .rename_i fn Y;split at k
  .rename_i F;split at k
   .rename_i c d;split at k
    .rename_i bd rs L E;simp only[cF,Bt.mk.injEq]at k;obtain⟨rfl,_,rfl,rfl⟩:=k;refine⟨⟨fn,Y,by rw[d];rfl,F⟩,λw M r vals W hv=>?_⟩;refine calls_of_wp Y d ?_;obtain⟨es,clock,m0⟩:∃ es clock,M r=some (.map es clock):=by
      cases hv with
      | cons _ _ _ _ h _=>cases h with
       | mp _ _ _ es clock m0=>exact⟨es,clock,m0⟩
     have ad:r<w.heap.size:=(Array.getElem?_eq_some_iff.1 (W _ _ m0)).1;have hi:=J5 W hv (N:=fn.ntmps) (by simpa using hn);have S:aN ⟨w,λb=>if b=r then none else M b,λb=>b=r,fn.ntmps⟩ ⟨M,λ_ _=>none,λ_ _=>0⟩ (vi (.mp r ks vs::args)) w { tmps:=vals.toArray++Array.replicate (fn.ntmps - vals.toArray.size) Go.undef,defers:=[] }:=by
      refine⟨hi.aR,hi.defers,hi.size,⟨hi.heap.bR,hi.heap.inj,hi.heap.mem,hi.heap.sep,λs g o b i d=>(by cases d),λb o d=>?_,λb o d=>?_,⟨rfl,rfl,rfl,dK _,dK _,λ_ _ _=>rfl⟩⟩⟩
      .simp only at d;split at d
       .cases d
       .exact d
      .by_cases G:b=r
       .exact .inr (.inl G)
       .exact .inl (by simp only;rw[aY G];exact d)
     refine h r _ L _ _ w _ _ rfl S ⟨by simp[wO],.inl rfl⟩ λex st' A' Z' w' J hp j R=>?_
     have C:J.defers=[]/\∃ v,(results fn J.tmps).run P w'=.ok v w'/\∃ M',Ending.returned v=.returned (.tuple #[])/\(∀ b o,b≠r->M b=some o->M' b=some o)/\(∀ b o,M' b=some o->w'.heap[b]?=some o) /\
       (∀ b o,M' b=some o->b=r\/M b=some o\/w.heap.size<=b)/\Keep w w' (λb=>b=r)/\PRep M' (.mp r u y) (.map (some r)):=by
      have U:fn.results.toList=[]:=by
       cases hl:fn.results.toList with
       | nil=>rfl
       | cons x xs =>
        rw[hl]at E;cases x with
        | tmp t=>simp only[yu]at E;obtain⟨_,_,h⟩:=cM E;cases h
        | cell _ _ =>
         simp only[yu]at E;split at E<;>try cases E
         obtain⟨_,_,h⟩:=cM E;cases h
      have I:(results fn J.tmps).run P w'=.ok (.tuple #[]) w':=by unfold results;rw[DR,U];simp
      refine⟨j.defers,_,I,?_⟩;have H:∀ b o,b≠r->M b=some o->Z'.M b=some o:=λb o d i=>j.heap.m0 b o (by simp only;rw[aY d];exact i);have l:∀ b o,Z'.M b=some o->b=r\/M b=some o\/w.heap.size<=b:=λb o i=>by
       obtain h|h|h:=j.heap.eE b o i
       .simp only at h;split at h
        .cases h
        .exact .inr (.inl h)
       .exact .inl h
       .exact .inr (.inr h)
      obtain rfl|⟨rfl,hg⟩:=hp.2
      .obtain⟨hF,_,O,z,q0,q1,q2,q3,q4,q5⟩:=R;have D:∀ b o,Z'.M b=some o->(if b=r then w'.heap[r]? else Z'.M b)=some o:=λb o i=>by
        rw[aY];· exact i
        .rintro rfl;have:=hF.m;simp only[sL]at this;rw[this]at i;cases i
       refine⟨λb=>if b=r then w'.heap[r]? else Z'.M b,rfl,λb o d i=>by simp only;rw[aY d];exact H b o d i,λb o i=>?_,λb o i=>?_,j.heap.keep,?_⟩
       .simp only at i;split at i
        .rename_i d;subst d;exact i
        .exact j.heap.mem b o i
       .simp only at i;split at i
        .rename_i d;exact .inl d
        .exact l b o i
       .exact .mp r u y O z (by simp only[cB];exact q0) (q1.mono D) (q2.mono D) q3 q4 q5
      .refine⟨Z'.M,rfl,H,j.heap.mem,l,j.heap.keep,?_⟩;have V:=j.aR 0;rw[hg]at V;have L:=V.cA;generalize J.tmps.getD 0 Go.undef=X at L;cases L with
       | mp _ _ _ es clock m0 m1 m2 m3 m4 m5=>exact .mp _ _ _ es clock m0 m1 m2 m3 m4 m5
     obtain rfl|rfl:=hp.1
     .exact C
     .exact C
    .cases k
   .cases k
  .cases k
 .cases k
end
end Go.Ab
