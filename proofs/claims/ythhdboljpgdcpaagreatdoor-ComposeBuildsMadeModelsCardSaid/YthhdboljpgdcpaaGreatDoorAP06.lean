/- Lemmas for the law ComposeBuildsMadeModels, part 6. No conditions. -/
import Derived.Test.YthhdboljpgdcpaaGreatDoorAP05
set_option maxRecDepth 100000
set_option maxHeartbeats 4000000
set_option linter.all false
namespace Go.Ab
def lJ:AV->List Nat
 | .own s _ _ _=>[s]
 | .ptr s _ _ _=>[s]
 | _=>[]
def bL.aR:bL->List Nat
 | .t n=>[n]
 | .c _=>[]
def fX:Option bL->List bL
 | some x=>[x]
 | none=>[]
def c7.bZ:c7->List bL
 | .mv x | .box _ x | .load _ _ x | .bT x | .not x | .neg x | .tA x | .conv _ x | .iK _ x | .field _ _ _ x | .extract x _ | .len x | .iI _ x | .cap x | .clear _ _ x=>[x]
 | .pick c a b=>[c,a,b]
 | .alloc _ _ | .raw _ | .bad=>[]
 | .build _ ps=>ps.map (·.2.2)
 | .b0 _ _ _ ps=>ps.map (·.2)
 | .store _ a v | .dH _ a v | .gD _ a v | .jZ _ _ a v | .cJ _ _ a v | .cE _ a v | .cK _ _ a v | .idx _ _ _ a v | .append _ a v | .eZ _ _ a v | .qG a v | .lW _ _ a v | .jW _ _ a v=>[a,v]
 | .jK _ gW=>gW
 | .slice _ x lo hi=>x::(fX lo++fX hi)
 | .min xs | .max xs=>xs
 | .call _ args=>args
 | .gS f args=>f::args
def xm(st:St):c7->List AV
 | .call _ args=>args.map st.ev
 | .gS x args=>match st.ev x with
  | .p (.fn _ b)=>args.map st.ev++b.map .p
  | .fn _ b=>args.map st.ev++b
  | _=>[]
 | _=>[]
def vU(orc:Option bI)(st:St)(vs:List AV):List Nat :=
 match orc with
 | some c=>match c.res with
  | .oa _ b _ _=>b.map (·.1)
  | _=>(vs.flatMap (aO st aZ)).map (·.1)
 | none=>(vs.flatMap (aO st aZ)).map (·.1)
def eu(orc:Option bI)(st:St)(d:Nat)(b:c7):List Nat :=
 match b with
 | .alloc _ _ | .box _ _ | .b0 _ _ _ _ | .cJ _ _ _ _ | .eZ _ _ _ _=>[d]
 | .load _ _ x | .bT x | .iK _ x | .slice _ x _ _ | .cE _ x _ | .cK _ _ x _ | .iI _ x | .clear _ _ x=>lJ (st.ev x)
 | .store _ a _=>lJ (st.ev a)
 | .append _ a x=>d::(lJ (st.ev a)++lJ (st.ev x))
 | .call _ _ | .gS _ _=>d::vU orc st (xm st b)
 | _=>[]
def Au(orc:Option bI)(d:Nat)(ids:List Nat):List Nat :=
 match orc with
 | some c=>match c.res with
  | .oa _ _ _ _=>d::ids
  | _=>match c.tn with
   | some _=>d::ids
   | none=>(if c.res.flat then[]else ids)++(match c.res with | .fresh _ _=>[d]|_=>[])
 | none=>[]
def gV(orc:Option bI)(st:St)(d:Nat)(b:c7):List Nat :=
 match b with
 | .alloc _ _ | .box _ _ | .b0 _ _ _ _ | .cJ _ _ _ _ | .eZ _ _ _ _=>[d]
 | .store _ a _=>lJ (st.ev a)
 | .clear _ _ a=>lJ (st.ev a)
 | .append _ a _=>d::lJ (st.ev a)
 | .call _ _ | .gS _ _=>Au orc d (vU orc st (xm st b))
 | _=>[]
section
variable {orc:Option bI} {st st' st2:St} {d:Nat} {v:AV}
def Fl{o:bD}{s:Nat}(h:st2.site d=st.site d)(hs:s=d\/st2.site s=st.site s):(st2.alloc d o).site s=(st.alloc d o).site s:=by
 rw[vq,vq,h];split
 .rfl
 .grind
theorem Qe:∀ (n:Nat) (u:AV),(∀ i∈aO st n u,st2.site i.1=st.site i.1)->bE st2 n u=bE st n u/\aO st2 n u=aO st n u
 | 0,_,_=>⟨rfl,rfl⟩
 | n+1,u,h=>by
  have G:=Qe n;have b:∀ (l:List AV),(∀ i∈l.flatMap (aO st n),st2.site i.1=st.site i.1)->l.mapM (bE st2 n)=l.mapM (bE st n)/\l.flatMap (aO st2 n)=l.flatMap (aO st n):=by
   intro l
   induction l with
   | nil=>intro _;exact⟨rfl,rfl⟩
   | cons x N E =>
    intro h;obtain⟨H,I⟩:=G x (λi m=>h i (by simp only[jG,dT];exact .inl m));obtain⟨k,j⟩:=E (λi m=>h i (by simp only[jG,dT];exact .inr m));exact⟨by rw[Bf,Bf,H,k],by rw[jG,jG,I,j]⟩
  cases u with
  | p v=>exact⟨rfl,rfl⟩
  | nil=>exact⟨rfl,rfl⟩
  | skip=>exact⟨rfl,rfl⟩
  | undef=>exact⟨rfl,rfl⟩
  | cp v J t=>exact⟨rfl,rfl⟩
  | agg y=>obtain⟨k,j⟩:=b y h;exact⟨by simp only[bE,k],j⟩
  | bP y=>obtain⟨k,j⟩:=b y h;exact⟨by simp only[bE,k],j⟩
  | fn f y=>obtain⟨k,j⟩:=b y h;exact⟨by simp only[bE,k],j⟩
  | own s g t F =>
   have C:st2.obj s g=st.obj s g:=fq (h (s,g) (by simp[aO]));simp only[bE,aO,C]at h ⊢;cases r:st.obj s g with
   | none=>exact⟨rfl,rfl⟩
   | some o =>
    simp only[r,bY,forall_eq_or_imp]at h;obtain⟨k,j⟩:=b o.es h.2;obtain⟨z,_⟩:=b ((o.es.drop t).take F) (λi m=>h.2 i (by
     obtain⟨e,A,B⟩:=kv.1 m;exact kv.2 ⟨e,lu (jA A),B⟩))
    exact⟨by simp only[z],by simp only[j]⟩
  | ptr s g L t =>
   have C:st2.obj s g=st.obj s g:=fq (h (s,g) (by simp[aO]));simp only[bE,aO,C]at h ⊢;cases r:st.obj s g with
   | none=>exact⟨rfl,rfl⟩
   | some o =>
    simp only[r,bY,forall_eq_or_imp]at h;obtain⟨k,j⟩:=b o.es h.2;refine⟨?_,by simp only[j]⟩;split
    .split
     .rename_i M D;cases D;split
      .rename_i e A;rw[A]at h;obtain⟨z,_⟩:=G e (λi m=>h.2 i (by simp[m]));rw[z]
      .rfl
     .rfl
    .rfl
theorem BX:∀ (ids:List (Nat × Nat)) {st st2:St} {s:Nat},st2.site s=st.site s->(aJ st2 ids).site s=(aJ st ids).site s
 | [],_,_,_,h=>h
 | (b,g)::r,st,st2,s,h=>by
  rw[HG,HG];refine BX r ?_;rw[E5,E5];split
  .grind
  .omega
theorem BY:∀ (ids:List (Nat × Nat)) {st:St} {s:Nat},s∉ids.map (·.1)->(aJ st ids).site s=st.site s
 | [],_,_,_=>rfl
 | (b,g)::r,st,s,h=>by
  rw[HG,BY r (by simp at h ⊢;exact h.2),E5]
  grind
def pE(st st' st2 b:St)(R W:List Nat):Prop :=
 (∀ s,s∈W->b.site s=st'.site s)/\(∀ s,s∉W->b.site s=st2.site s)/\(∀ s,s∉W->st'.site s=st.site s)/\b.sl=st2.sl/\st'.sl=st.sl/\(∀ s∈W,s∈R)
def iP{R:List Nat}:pE st st st2 st2 R []:=⟨by simp,by simp,by simp,rfl,rfl,by simp⟩
def BT{R:List Nat}{o:bD}(h:st2.site d=st.site d)(f:d∈R):pE st (st.alloc d o) st2 (st2.alloc d o) R [d]:=by
 refine⟨λs b=>?_,λs b=>?_,λs b=>?_,rfl,rfl,by simpa using f⟩
 .simp at b;exact Fl h (.inl b)
 .simp at b;rw[vq,aY b]
 .simp at b;rw[vq,aY b]
def UG{c:bI}{ids:List (Nat × Nat)}(hn:c.tn=none)(j:yr c st d ids=some (v,st'))(x:∀ i∈ids,st2.site i.1=st.site i.1)(hd:st2.site d=st.site d) :
  ∃ l,yr c st2 d ids=some (v,l)/\pE st st' st2 l (d::ids.map (·.1)) (Au (some c) d (ids.map (·.1))):=by
 have p:∀ s∈ids.map (·.1),st2.site s=st.site s:=λs b=>by obtain⟨i,r,rfl⟩:=cD.1 b;exact x i r
 have m:(aJ st2 ids).site d=(aJ st ids).site d:=BX ids hd
 have f:pE st (aJ st ids) st2 (aJ st2 ids) (d::ids.map (·.1)) (ids.map (·.1)) :=
  ⟨λs b=>BX ids (p s b),λs b=>BY ids b,λs b=>BY ids b,zY ids st2,zY ids st,λs b=>by simp only[bY];exact .inr b⟩
 obtain⟨y,n,k,A⟩:=c;subst hn;by_cases t:Av k=true
 .cases k with
  | oa=>simp[yr]at j
  | _=>cases t
 unfold yr at j ⊢;unfold Au;dsimp only at j ⊢;generalize z:k.flat=u at j ⊢;cases u<;>cases k<;>(try exact absurd rfl t)<;>dsimp only at j ⊢ <;> simp only[cB,fQ,gJ]at j ⊢
 .grind
 .split at j
  .rename_i o;obtain⟨rfl,rfl⟩:=j;refine⟨(aJ st2 ids).alloc d _,by rw[aW o,m],λs b=>?_,λs b=>?_,λs b=>?_,zY ids st2,zY ids st,λs b=>?_⟩
   .obtain h|h:=dT.1 b
    .exact Fl m (.inr (f.1 s h))
    .simp at h;exact Fl m (.inl h)
   .simp only[dT,jF,not_or]at b;rw[vq,aY b.2];exact f.2.1 s b.1
   .simp only[dT,jF,not_or]at b;rw[vq,aY b.2];exact f.2.2.1 s b.1
   .grind
  .grind
 .grind
 .simp at j;obtain⟨rfl,rfl⟩:=j;exact⟨_,rfl,iP⟩
 .split at j
  .rename_i o;obtain⟨rfl,rfl⟩:=j;exact⟨st2.alloc d _,by rw[aW o,hd],BT hd (by simp)⟩
  .grind
 .grind
theorem DE{n:Nat}:∀ {vs:List AV},(∀ i∈vs.flatMap (aO st n),st2.site i.1=st.site i.1)->vs.flatMap (aO st2 n)=vs.flatMap (aO st n)/\vs.mapM (bE st2 n)=vs.mapM (bE st n)
 | [],_=>⟨rfl,rfl⟩
 | x::f,h=>by
  obtain⟨j,k⟩:=Qe n x (λi b=>h i (by simp;exact .inl b));obtain⟨l,m⟩:=DE (vs:=f) (λi b=>h i (by simp only[jG,dT];exact .inr b))
  grind
def UF{c:bI}{i sz:Nat}{b:List PV}{vs:List AV}(D:za c i sz b st vs=some (v,st'))(N:∀ i∈vs.flatMap (aO st aZ),st2.site i.1=st.site i.1) :
  ∃ F,za c i sz b st2 vs=some (v,F)/\pE st st' st2 F (d::(vs.flatMap (aO st aZ)).map (·.1)) ((vs.flatMap (aO st aZ)).map (·.1)):=by
 obtain⟨s,g,M,sl,o,E,O,af,W,ad,al,ag,hv,I⟩:=QE D;have C:∃ u,vs[i]?=some u/\aO st aZ u=(s,g)::o.es.flatMap (aO st 5):=by
  obtain⟨C,_⟩|⟨C,_,_⟩:=Qo E
  .exact⟨_,C,by simp only[aZ,aO,O]⟩
  .exact⟨_,C,by simp only[aZ,aO,O]⟩
 obtain⟨u,C,Q⟩:=C;have A:∀ k∈(s,g)::o.es.flatMap (aO st 5),k∈vs.flatMap (aO st aZ):=λk j=>kv.2 ⟨u,wg C,by rw[Q];exact j⟩;have S:=N (s,g) (A _ (by simp));have R:st2.obj s g=some o:=by rw[fq S];exact O
 have J:∀ k∈(vs.eraseIdx i).flatMap (aO st aZ),k∈vs.flatMap (aO st aZ):=λk j=>by obtain⟨y,hy,j⟩:=kv.1 j;exact kv.2 ⟨y,List.mem_of_mem_eraseIdx hy,j⟩
 have X:=(DE (st2:=st2) (n:=aZ) (vs:=vs.eraseIdx i) (λk j=>N k (J k j))).1;have Y:=(DE (st2:=st2) (n:=5) (vs:=o.es) (λk j=>N k (A k (by simp only[bY];exact .inr j)))).1;have z:∀ k∈(vs.eraseIdx i).flatMap (aO st aZ)++o.es.flatMap (aO st 5),k∈vs.flatMap (aO st aZ):=λk j=>by
  obtain h|h:=dT.1 j
  .grind
  .grind
 refine⟨DH c b st2 ((vs.eraseIdx i).flatMap (aO st aZ)++o.es.flatMap (aO st 5)) s g sz,?_,?_⟩
 .unfold za at D ⊢;rw[E]at D ⊢;simp only[O,R,X,Y]at D ⊢;generalize G:(vs.eraseIdx i).flatMap (aO st aZ)++o.es.flatMap (aO st 5)=f at D I ⊢;by_cases V:i<vs.length/\M=o.es.length/\b.length=M/\o.sz=sz/\b.all (λv=>v.sz == sz)=true/\(b.flatMap PV.cells).all PV.one=true/\f.contains (s,g)=false
  .rw[aW V]at D ⊢;obtain⟨u,C,rfl⟩|⟨l,hl,h1,h2,rfl⟩:=hv
   .rw[C]
   .rw[hl];simp only[h1,h2,and_self,cB]
  .rw[aY V]at D;cases D
 .generalize G:(vs.eraseIdx i).flatMap (aO st aZ)++o.es.flatMap (aO st 5)=f at *
  have H:∀ t,t∉(vs.flatMap (aO st aZ)).map (·.1)->t∉f.map (·.1):=λt m h=>by obtain⟨k,j,rfl⟩:=cD.1 h;exact m (cD.2 ⟨k,z k j,rfl⟩)
  have L:∀ t,t∉(vs.flatMap (aO st aZ)).map (·.1)->t≠s:=λt m h=>m (cD.2 ⟨(s,g),A _ (by simp),h.symm⟩);have B:∀ t∈(vs.flatMap (aO st aZ)).map (·.1),st2.site t=st.site t:=λt m=>by obtain⟨k,j,rfl⟩:=cD.1 m;exact N k j
  have r:∀ (x:St) (t:Nat) (o:bD),(x.setObj s g o).site t=if t=s then(x.site s).set g (some o)else x.site t:=λx t o=>by rw[xM]
  subst I;unfold DH;refine⟨λt m=>?_,λt m=>?_,λt m=>?_,?_,?_,λt m=>by simp only[bY];exact .inr m⟩
  .rw[r,r];have U:=B t m;by_cases p:(c.res.flat&&b.all PV.flat)=true
   .simp only[p,cB];rw[U,S]
   .simp only[p,fQ,gJ];rw[BX f S,BX f U]
  .rw[r,aY (L t m)];by_cases p:(c.res.flat&&b.all PV.flat)=true
   .simp only[p,cB]
   .simp only[p,fQ,gJ];exact BY f (H t m)
  .rw[r,aY (L t m)];by_cases p:(c.res.flat&&b.all PV.flat)=true
   .simp only[p,cB]
   .simp only[p,fQ,gJ];exact BY f (H t m)
  .by_cases p:(c.res.flat&&b.all PV.flat)=true
   .simp only[p,cB];rfl
   .simp only[p,fQ,gJ];exact zY f st2
  .by_cases p:(c.res.flat&&b.all PV.flat)=true
   .simp only[p,cB];rfl
   .simp only[p,fQ,gJ];exact zY f st
theorem LJ{f:FuncId}{vs:List AV}(he:xn orc st d f vs=some (v,st'))(z:∀ s∈vU orc st vs,st2.site s=st.site s)(hd:st2.site d=st.site d) :
  ∃ j,xn orc st2 d f vs=some (v,j)/\pE st st' st2 j (d::vU orc st vs) (Au orc d (vU orc st vs)):=by
 obtain⟨c,rfl,rfl,L,k⟩:=Fk he;cases C:Av c.res with
 | true =>
  obtain⟨V,B,E,J⟩:=c;cases E with
  | oa af l D b =>
   simp only[vU,Au]at z ⊢;obtain⟨rfl,hu,hk,G,F⟩:=L;have N:pZ st2 l l:=by
    have:∀ (r:List Site),(∀ q∈r,q.1∈l.map (·.1))->pZ st l r->pZ st2 l r:=by
     intro r
     induction r with
     | nil=>intro _ _;trivial
     | cons q r ih =>
      intro W X;exact⟨(z q.1 (W q (by simp))).trans X.1,ih (λx hx=>W x (by simp[hx])) X.2⟩
    grind
   have H:xn (some ⟨V,B,.oa vs l D b,J⟩) st2 d V vs=some (sM D ⟨st2.sl,b++st2.hp⟩ d):=aW ⟨rfl,rfl,hu,N,G,F⟩;rw[H];have m:∀ (t:St) (s:Nat),(⟨t.sl,b++t.hp⟩:St).site s=if (l.map (·.1)).contains s=true then look b s []else t.site s:=λt s=>by simp only[St.site,BL,G]
   have n:∀ s,s∈l.map (·.1)\/s=d->(⟨st2.sl,b++st2.hp⟩:St).site s=(⟨st.sl,b++st.hp⟩:St).site s:=λs hs=>by
    rw[m,m];by_cases hc:(l.map (·.1)).contains s=true
    .grind
    .grind
   have p:∀ (t:St) (s:Nat),s∉l.map (·.1)->(⟨t.sl,b++t.hp⟩:St).site s=t.site s:=λt s hs=>by
    grind
   have gen:∀ (o:bD),pE st ((⟨st.sl,b++st.hp⟩:St).alloc d o) st2 ((⟨st2.sl,b++st2.hp⟩:St).alloc d o) (d::l.map (·.1)) (d::l.map (·.1)):=λo=>by
    refine⟨λs hs=>?_,λs hs=>?_,λs hs=>?_,rfl,rfl,λs hs=>hs⟩
    .rw[vq,vq,n s (by obtain h|h:=bY.1 hs;exact .inr h;exact .inl h),n d (.inr rfl)]
    .simp only[bY,not_or]at hs;rw[vq,aY hs.1];exact p _ s hs.2
    .simp only[bY,not_or]at hs;rw[vq,aY hs.1];exact p _ s hs.2
   have A:((⟨st2.sl,b++st2.hp⟩:St).site d).length=((⟨st.sl,b++st.hp⟩:St).site d).length:=by rw[n d (.inr rfl)]
   simp only[cF]at k ⊢;cases D with
   | av u =>
    simp only[sM,dA]at k ⊢;obtain⟨rfl,rfl⟩:=k;refine⟨_,⟨rfl,rfl⟩,λs hs=>?_,λs hs=>?_,λs hs=>?_,rfl,rfl,λs hs=>hs⟩
    .exact n s (by obtain h|h:=bY.1 hs;exact .inr h;exact .inl h)
    .simp only[bY,not_or]at hs;exact p _ s hs.2
    .simp only[bY,not_or]at hs;exact p _ s hs.2
   | fr sz es =>
    simp only[sM,dA]at k ⊢;obtain⟨rfl,rfl⟩:=k;exact⟨_,⟨by rw[A],rfl⟩,gen _⟩
   | bx sz e us =>
    simp only[sM,dA]at k ⊢;obtain⟨rfl,rfl⟩:=k;exact⟨_,⟨by rw[A],rfl⟩,gen _⟩
  | _=>cases C
 | false =>
 have O:∀ t,vU (some c) t vs=(vs.flatMap (aO t aZ)).map (·.1):=λt=>by simp only[vU];cases Y:c.res<;>first|rfl|(rw[Y]at C;cases C)
 rw[O]at z ⊢;have z:∀ i∈vs.flatMap (aO st aZ),st2.site i.1=st.site i.1:=λi h=>z i.1 (cD.2 ⟨i,h,rfl⟩);rw[Fu C]at L;rw[LU C]at k;obtain⟨R,Q⟩:=DE z;unfold xn;simp only[Fu C,LU C,Q,R,L,and_self,cB];cases y:c.tn with
 | none =>
  rw[y]at k;exact UG y k z hd
 | some t =>
  obtain⟨i,sz,ad⟩:=t;rw[y]at k;obtain⟨j,e1,e2⟩:=UF (d:=d) k z;refine⟨j,e1,?_⟩;have M:Au (some c) d ((vs.flatMap (aO st aZ)).map (·.1))=d::(vs.flatMap (aO st aZ)).map (·.1):=by simp only[Au,y];cases Y:c.res<;>rfl
  rw[M];obtain⟨a1,S,U,a4,a5,a6⟩:=e2;refine⟨λs hs=>?_,λs hs=>S s (λh=>hs (bY.2 (.inr h))),λs hs=>U s (λh=>hs (bY.2 (.inr h))),a4,a5,λs hs=>hs⟩;by_cases I:s∈(vs.flatMap (aO st aZ)).map (·.1)
  .exact a1 s I
  .obtain rfl|hs:=bY.1 hs
   .rw[S s I,U s I,hd]
   .exact absurd hs I
theorem KK{I:c7}(b:bX orc st d I=some (v,st'))(hs:∀ x∈I.bZ,st2.ev x=st.ev x)(r:∀ s∈eu orc st d I,st2.site s=st.site s) :
  ∃ M,bX orc st2 d I=some (v,M)/\pE st st' st2 M (eu orc st d I) (gV orc st d I):=by
 cases I with
 | mv x =>
  obtain⟨rfl,rfl⟩:=b;exact⟨st2,by simp only[bX,hs x (by simp[c7.bZ])],iP⟩
 | pick c x y =>
  simp only[bX]at b ⊢;rw[hs c (by simp[c7.bZ]),hs x (by simp[c7.bZ]),hs y (by simp[c7.bZ])];split at b<;>first|(cases b;done)|(simp only[cF,dA]at b;obtain⟨rfl,rfl⟩:=b;exact⟨st2,by simp only[*],iP⟩)
 | alloc F z =>
  have D:st2.site d=st.site d:=r d (by simp[eu]);simp only[bX]at b ⊢;split at b
  .rename_i J;cases b;rw[D,aW J];exact⟨_,rfl,BT D (by simp[eu])⟩
  .cases b
 | box F x =>
  have D:st2.site d=st.site d:=r d (by simp[eu]);simp only[bX]at b ⊢;rw[hs x (by simp[c7.bZ])];split at b
  .rename_i J;cases b;rw[D,aW J];exact⟨_,rfl,BT D (by simp[eu])⟩
  .cases b
 | build z W =>
  have E:W.map (λ(o,s,x)=>(o,s,st2.ev x))=W.map (λ(o,s,x)=>(o,s,st.ev x)):=vA λq H=>by obtain⟨o,s,x⟩:=q;simp only[hs x (cD.2 ⟨(o,s,x),H,rfl⟩)]
  simp only[bX]at b ⊢;rw[E];split at b<;>first|(cases b;done)|(simp only[cF,dA]at b;obtain⟨rfl,rfl⟩:=b;exact⟨st2,by simp only[*],iP⟩)
 | b0 F z n W =>
  have D:st2.site d=st.site d:=r d (by simp[eu]);have E:W.map (λ(i,x)=>(i,(st2.ev x).fL))=W.map (λ(i,x)=>(i,(st.ev x).fL)):=vA λq H=>by obtain⟨i,x⟩:=q;simp only[hs x (cD.2 ⟨(i,x),H,rfl⟩)]
  simp only[bX]at b ⊢;rw[E,D];split at b
  .rename_i J;split at b
   .rename_i es ad;cases b;exact⟨_,by rw[aW J,ad],BT D (by simp[eu])⟩
   .cases b
  .cases b
 | load F ag x =>
  have C:=hs x (by simp[c7.bZ]);simp only[eu]at r ⊢;simp only[bX,gV]at b ⊢;rw[C];split at b
  .rename_i s g S B j;rw[j]at r;rw[fq (g:=g) (r s (by simp[lJ]))]
   (repeat' split at b)<;>first|(cases b;done)|(simp only[cF,dA]at b;obtain⟨rfl,rfl⟩:=b;exact⟨st2,by simp only[*,cB,fQ,and_self],iP⟩)
  ·(repeat' split at b)<;>first|(cases b;done)|(simp only[cF,dA]at b;obtain⟨rfl,rfl⟩:=b;exact⟨st2,by simp only[*,cB,fQ,and_self],iP⟩)
  .cases b
 | store F p x =>
  have E:=hs p (by simp[c7.bZ]);have C:=hs x (by simp[c7.bZ]);simp only[eu]at r ⊢;simp only[bX,gV]at b ⊢;rw[C,E];split at b
  .rename_i s g S B j;rw[j]at r;have u:=r s (by simp[lJ]);rw[j];rw[fq (g:=g) u];have L:∀ o,pE st (st.setObj s g o) st2 (st2.setObj s g o) (lJ (.ptr s g S B)) (lJ (.ptr s g S B)):=by
    intro o;refine⟨λt A=>?_,λt A=>?_,λt A=>?_,rfl,rfl,λ_ h=>h⟩
    .simp[lJ]at A;subst A;rw[xM,xM,u]
    .simp[lJ]at A;rw[xM,aY A]
    .simp[lJ]at A;rw[xM,aY A]
   split at b
   .rename_i o ho;split at b
    .rename_i e ap;split at b
     .rename_i U;split at b
      .rename_i X;simp only[cF,dA]at b;obtain⟨rfl,rfl⟩:=b;exact⟨_,by simp only[aW U,aW X],L _⟩
      .rename_i X;split at b
       .rename_i e' ao;simp only[cF,dA]at b;obtain⟨rfl,rfl⟩:=b;exact⟨_,by simp only[aW U,aY X],L _⟩
       .cases b
     .cases b
    .cases b
   .cases b
  .cases b
 | bT x =>
  have C:=hs x (by simp[c7.bZ]);simp only[eu]at r ⊢;simp only[bX,gV]at b ⊢;rw[C];split at b
  .rename_i s g S B j;rw[j]at r;rw[fq (g:=g) (r s (by simp[lJ]))]
   (repeat' split at b)<;>first|(cases b;done)|(simp only[cF,dA]at b;obtain⟨rfl,rfl⟩:=b;exact⟨st2,by simp only[*],iP⟩)
  all_goals first|(cases b;done)|(simp only[cF,dA]at b;obtain⟨rfl,rfl⟩:=b;exact⟨st2,by simp only[*],iP⟩)
 | dH I x y =>
  simp only[bX]at b ⊢;rw[hs x (by simp[c7.bZ]),hs y (by simp[c7.bZ])];split at b<;>first|(cases b;done)|(simp only[cF,dA]at b;obtain⟨rfl,rfl⟩:=b;exact⟨st2,by simp only[*],iP⟩)
 | gD I x y =>
  simp only[bX]at b ⊢;rw[hs x (by simp[c7.bZ]),hs y (by simp[c7.bZ])];split at b<;>first|(cases b;done)|(simp only[cF,dA]at b;obtain⟨rfl,rfl⟩:=b;exact⟨st2,by simp only[*],iP⟩)
 | jZ ks I x y =>
  simp only[bX]at b ⊢;rw[hs x (by simp[c7.bZ]),hs y (by simp[c7.bZ])];split at b<;>first|(cases b;done)|(simp only[cF,dA]at b;obtain⟨rfl,rfl⟩:=b;exact⟨st2,by simp only[*],iP⟩)
 | not x =>
  simp only[bX]at b ⊢;rw[hs x (by simp[c7.bZ])];split at b<;>first|(cases b;done)|(simp only[cF,dA]at b;obtain⟨rfl,rfl⟩:=b;exact⟨st2,by simp only[*],iP⟩)
 | neg x =>
  simp only[bX]at b ⊢;rw[hs x (by simp[c7.bZ])];split at b<;>first|(cases b;done)|(simp only[cF,dA]at b;obtain⟨rfl,rfl⟩:=b;exact⟨st2,by simp only[*],iP⟩)
 | tA x =>
  simp only[bX]at b ⊢;rw[hs x (by simp[c7.bZ])]
  (repeat' split at b)<;>first|(cases b;done)|(simp only[cF,dA]at b;obtain⟨rfl,rfl⟩:=b;exact⟨st2,by simp only[*],iP⟩)
 | conv k x =>
  simp only[bX]at b ⊢;rw[hs x (by simp[c7.bZ])];split at b<;>first|(cases b;done)|(simp only[cF,dA]at b;obtain⟨rfl,rfl⟩:=b;exact⟨st2,by simp only[*],iP⟩)
 | jK f G =>
  have E:G.map st2.ev=G.map st.ev:=vA λq H=>hs q H;simp only[bX]at b ⊢;rw[E];split at b<;>first|(cases b;done)|(simp only[cF,dA]at b;obtain⟨rfl,rfl⟩:=b;exact⟨st2,by simp only[*,cB],iP⟩)
 | cJ F z l c =>
  have D:st2.site d=st.site d:=r d (by simp[eu]);simp only[bX]at b ⊢;rw[hs l (by simp[c7.bZ]),hs c (by simp[c7.bZ]),D];split at b
  .rename_i n m hn hm;split at b
   .rename_i J;cases b;exact⟨_,by simp only[aW J],BT D (by simp[eu])⟩
   .cases b
  .cases b
 | slice F x lo hi =>
  have C:=hs x (by simp[c7.bZ]);have al:∀ n,sN st2 lo n=sN st lo n:=by
   intro n;cases lo with
   | none=>rfl
   | some l=>simp only[sN];rw[hs l (by simp[c7.bZ,fX])]
  have Q:∀ n,sN st2 hi n=sN st hi n:=by
   intro n;cases hi with
   | none=>rfl
   | some l=>simp only[sN];rw[hs l (by simp[c7.bZ,fX])]
  simp only[eu]at r ⊢;simp only[bX,gV]at b ⊢;rw[C,al];split at b
  .simp only[Q]
   (repeat' split at b)<;>first|(cases b;done)|(simp only[cF,dA]at b;obtain⟨rfl,rfl⟩:=b;exact⟨st2,by simp only[*,cB,and_self],iP⟩)
  .rename_i l s g B len hl j;rw[j]at r;simp only[Q];rw[fq (g:=g) (r s (by simp[lJ]))]
   (repeat' split at b)<;>first|(cases b;done)|(simp only[cF,dA]at b;obtain⟨rfl,rfl⟩:=b;exact⟨st2,by simp only[*,cB,and_self],iP⟩)
  .simp only[Q]
   (repeat' split at b)<;>first|(cases b;done)|(simp only[cF,dA]at b;obtain⟨rfl,rfl⟩:=b;exact⟨st2,by simp only[*,cB,and_self],iP⟩)
  .cases b
 | iK B x =>
  have C:=hs x (by simp[c7.bZ]);simp only[eu]at r ⊢;simp only[bX,gV]at b ⊢;rw[C];split at b
  .rename_i s g S B j;rw[j]at r;rw[fq (g:=g) (r s (by simp[lJ]))]
   (repeat' split at b)<;>first|(cases b;done)|(simp only[cF,dA]at b;obtain⟨rfl,rfl⟩:=b;exact⟨st2,by simp only[*],iP⟩)
  all_goals first|(cases b;done)|(simp only[cF,dA]at b;obtain⟨rfl,rfl⟩:=b;exact⟨st2,by simp only[*],iP⟩)
 | field B F ag x =>
  simp only[bX]at b ⊢;rw[hs x (by simp[c7.bZ])]
  (repeat' split at b)<;>first|(cases b;done)|(simp only[cF,dA]at b;obtain⟨rfl,rfl⟩:=b;exact⟨st2,by simp only[*],iP⟩)
 | cE F x i =>
  have C:=hs x (by simp[c7.bZ]);simp only[eu]at r ⊢;simp only[bX,gV]at b ⊢;rw[C,hs i (by simp[c7.bZ])];split at b
  ·(repeat' split at b)<;>first|(cases b;done)|(simp only[cF,dA]at b;obtain⟨rfl,rfl⟩:=b;exact⟨st2,by simp only[*,cB,and_self],iP⟩)
  .rename_i m s g B len hm j;rw[j]at r;rw[fq (g:=g) (r s (by simp[lJ]))]
   (repeat' split at b)<;>first|(cases b;done)|(simp only[cF,dA]at b;obtain⟨rfl,rfl⟩:=b;exact⟨st2,by simp only[*,cB,and_self],iP⟩)
  .cases b
 | cK m F x i =>
  have C:=hs x (by simp[c7.bZ]);simp only[eu]at r ⊢;simp only[bX,gV]at b ⊢;rw[C,hs i (by simp[c7.bZ])];split at b
  .rename_i n s g S o hm j;rw[j]at r;rw[fq (g:=g) (r s (by simp[lJ]))]
   (repeat' split at b)<;>first|(cases b;done)|(simp only[cF,dA]at b;obtain⟨rfl,rfl⟩:=b;exact⟨st2,by simp only[*,cB],iP⟩)
  ·(repeat' split at b)<;>first|(cases b;done)|(simp only[cF,dA]at b;obtain⟨rfl,rfl⟩:=b;exact⟨st2,by simp only[*,cB],iP⟩)
  .cases b
 | idx m F ag x i =>
  simp only[bX]at b ⊢;rw[hs x (by simp[c7.bZ]),hs i (by simp[c7.bZ])]
  (repeat' split at b)<;>first|(cases b;done)|(simp only[cF,dA]at b;obtain⟨rfl,rfl⟩:=b;exact⟨st2,by simp only[*,cB],iP⟩)
 | extract x i =>
  simp only[bX]at b ⊢;rw[hs x (by simp[c7.bZ])]
  (repeat' split at b)<;>first|(cases b;done)|(simp only[cF,dA]at b;obtain⟨rfl,rfl⟩:=b;exact⟨st2,by simp only[*],iP⟩)
 | len x =>
  simp only[bX]at b ⊢;rw[hs x (by simp[c7.bZ])];split at b<;>first|(cases b;done)|(simp only[cF,dA]at b;obtain⟨rfl,rfl⟩:=b;exact⟨st2,by simp only[*],iP⟩)
 | append F x y =>
  have C:=hs x (by simp[c7.bZ]);have hy:=hs y (by simp[c7.bZ]);have D:st2.site d=st.site d:=r d (by simp[eu]);have Y:st2.elems (st.ev y)=st.elems (st.ev y):=by
   unfold St.elems;split
   .rfl
   .rfl
   .rfl
   .rfl
   .rename_i s g B len j;rw[fq (g:=g) (r s (by simp[eu,j,lJ]))]
   .rfl
  simp only[bX]at b ⊢;simp only[eu,gV]at r ⊢;rw[C,hy,Y];split at b
  .rename_i N aq;split at b
   .rename_i V;split at b
    .rename_i j;split at b
     .rename_i O;cases b;exact⟨st2.alloc d ⟨F,N.map AV.fL⟩,by simp only[aW V,aW O,D],by rw[j];exact BT D (by simp)⟩
     .cases b
    .rename_i s g B len j;have u:=r s (by simp[j,lJ]);split at b
     .rename_i o ho;split at b
      .rename_i O;cases b;have R:(aJ st2 [(s,g)]).site d=(aJ st [(s,g)]).site d:=BX _ D;have af:(aJ st2 [(s,g)]).site s=(aJ st [(s,g)]).site s:=BX _ u;refine⟨(aJ st2 [(s,g)]).alloc d ⟨F,o.es++N.map AV.fL⟩,by simp only[aW V,fq (g:=g) u,ho,aW O,R],λt A=>?_,λt A=>?_,λt A=>?_,rfl,rfl,λt A=>?_⟩
       .simp only[j,lJ,bY,List.mem_nil_iff,or_false]at A;obtain rfl|rfl:=A
        .exact Fl R (.inl rfl)
        .exact Fl R (.inr af)
       .simp only[j,lJ,List.mem_cons,List.mem_nil_iff,or_false,not_or]at A;rw[vq,if_neg A.1];exact BY _ (by simpa using A.2)
       .simp only[j,lJ,List.mem_cons,List.mem_nil_iff,or_false,not_or]at A;rw[vq,if_neg A.1];exact BY _ (by simpa using A.2)
       .simp only[bY,dT]at A ⊢;obtain h|h:=A
        .exact .inl h
        .exact .inr (.inl h)
      .cases b
     .cases b
    .cases b
   .cases b
  .cases b
 | min N =>
  have E:N.map st2.ev=N.map st.ev:=vA λq H=>hs q H;simp only[bX]at b ⊢;rw[E];split at b<;>first|(cases b;done)|(simp only[cF,dA]at b;obtain⟨rfl,rfl⟩:=b;exact⟨st2,by simp only[*],iP⟩)
 | max N =>
  have E:N.map st2.ev=N.map st.ev:=vA λq H=>hs q H;simp only[bX]at b ⊢;rw[E];split at b<;>first|(cases b;done)|(simp only[cF,dA]at b;obtain⟨rfl,rfl⟩:=b;exact⟨st2,by simp only[*],iP⟩)
 | call f args =>
  have E:args.map st2.ev=args.map st.ev:=vA λq H=>hs q H;simp only[bX,eu,gV,xm]at b r ⊢;rw[E];exact LJ b (λs hs=>r s (bY.2 (.inr hs))) (r d (by simp))
 | gS f args =>
  have hf:=hs f (by simp[c7.bZ]);have E:args.map st2.ev=args.map st.ev:=vA λq H=>hs q (by simp[c7.bZ,H]);simp only[bX,eu,gV,xm]at b r ⊢;rw[E,hf];split at b
  .rename_i g G j;simp only[j]at r ⊢;exact LJ b (λs hs=>r s (bY.2 (.inr hs))) (r d (by simp))
  .rename_i g G j;simp only[j]at r ⊢;exact LJ b (λs hs=>r s (bY.2 (.inr hs))) (r d (by simp))
  .cases b
 | iI neg x =>
  have C:=hs x (by simp[c7.bZ]);simp only[eu]at r ⊢;simp only[bX,gV]at b ⊢;rw[C];split at b
  case h_5 =>
   rename_i s g B len j;rw[j]at r;rw[fq (g:=g) (r s (by simp[lJ]))]
   (repeat' split at b)<;>first|(cases b;done)|(simp only[cF,dA]at b;obtain⟨rfl,rfl⟩:=b;exact⟨st2,by simp only[*,cB],iP⟩)
  all_goals first|(cases b;done)|(simp only[cF,dA]at b;obtain⟨rfl,rfl⟩:=b;exact⟨st2,by simp only[*],iP⟩)
 | cap x =>
  simp only[bX]at b ⊢;rw[hs x (by simp[c7.bZ])];split at b<;>first|(cases b;done)|(simp only[cF,dA]at b;obtain⟨rfl,rfl⟩:=b;exact⟨st2,by simp only[*],iP⟩)
 | clear F zero x =>
  have C:=hs x (by simp[c7.bZ]);simp only[eu]at r ⊢;simp only[bX,gV]at b ⊢;rw[C];split at b
  .rename_i j;simp only[cF,dA]at b;obtain⟨rfl,rfl⟩:=b;exact⟨st2,rfl,by rw[j];exact iP⟩
  .rename_i s g B len j;rw[j]at r;have u:=r s (by simp[lJ]);rw[j];rw[fq (g:=g) u];split at b
   .rename_i o ho;split at b
    .rename_i U;simp only[cF,dA]at b;obtain⟨rfl,rfl⟩:=b;refine⟨st2.setObj s g ⟨o.sz,o.es.take B++List.replicate len zero.fL++o.es.drop (B+len)⟩,by simp only[aW U],λt A=>?_,λt A=>?_,λt A=>?_,rfl,rfl,λ_ h=>h⟩
     .simp[lJ]at A;subst A;rw[xM,xM,u]
     .simp[lJ]at A;rw[xM,aY A]
     .simp[lJ]at A;rw[xM,aY A]
    .cases b
   .cases b
  .cases b
 | eZ F z a x =>
  have D:st2.site d=st.site d:=r d (by simp[eu]);simp only[bX]at b ⊢;rw[hs a (by simp[c7.bZ]),hs x (by simp[c7.bZ]),D];split at b
  .rename_i n U X;split at b
   .rename_i J;cases b;exact⟨_,by simp only[aW J],BT D (by simp[eu])⟩
   .cases b
  .cases b
 | qG x i =>
  simp only[bX]at b ⊢;rw[hs x (by simp[c7.bZ]),hs i (by simp[c7.bZ])]
  (repeat' split at b)<;>first|(cases b;done)|(simp only[cF,dA]at b;obtain⟨rfl,rfl⟩:=b;exact⟨st2,by simp only[*],iP⟩)
 | lW qs z x k =>
  simp only[bX]at b ⊢;rw[hs x (by simp[c7.bZ]),hs k (by simp[c7.bZ])]
  (repeat' split at b)<;>first|(cases b;done)|(simp only[cF,dA]at b;obtain⟨rfl,rfl⟩:=b;exact⟨st2,by simp only[*,cB,and_self],iP⟩)
 | jW qs z x k =>
  simp only[bX]at b ⊢;rw[hs x (by simp[c7.bZ]),hs k (by simp[c7.bZ])]
  (repeat' split at b)<;>first|(cases b;done)|(simp only[cF,dA]at b;obtain⟨rfl,rfl⟩:=b;exact⟨st2,by simp only[*,cB,and_self],iP⟩)
 | raw I=>simp only[bX]at b;cases b
 | bad=>simp only[bX]at b;cases b
end
noncomputable def tN(orc:Option bI)(st:St)(i:Ins):Option St :=
 match bX orc st (i.dst.getD 0) i.op with
 | some (v,s)=>some (s.put i.dst v)
 | none=>none
noncomputable def exec(orc:Option bI)(st:St)(i:Ins):Option St :=
 match i.guard with
 | none=>tN orc st i
 | some (t,b)=>match st.get t with
  | .p (.bool c)=>if c=b then tN orc st i else some (st.put i.dst .skip)
  | .skip=>some (st.put i.dst .skip)
  | _=>none
def runs(st:St)(i:Ins):Bool :=
 match i.guard with
 | none=>true
 | some (t,b)=>match st.get t with
  | .p (.bool c)=>c == b
  | _=>false
structure FP where
 ds:List Nat
 rs:List Nat
 rt:List Nat
 wt:List Nat
def fp(orc:Option bI)(st:St)(i:Ins):FP :=
 {ds:=i.dst.toList,rs:=(i.guard.map (·.1)).toList++i.op.bZ.flatMap bL.aR,
  rt:=if runs st i then eu orc st (i.dst.getD 0) i.op else[],wt:=if runs st i then gV orc st (i.dst.getD 0) i.op else[] }
structure FP.Sub (f g:FP):Prop where
 ds:∀ t∈f.ds,t∈g.ds
 rs:∀ t∈f.rs,t∈g.rs
 rt:∀ t∈f.rt,t∈g.rt
 wt:∀ t∈f.wt,t∈g.wt
def FP.Sub.refl(f:FP):FP.Sub f f:=⟨λ_ h=>h,λ_ h=>h,λ_ h=>h,λ_ h=>h⟩
def uQ(a b:List Nat):Bool:=a.all λx=>!b.contains x
def xz(f g:FP):Bool:=uQ f.ds g.rs&&uQ f.ds g.ds&&uQ g.ds f.rs&&uQ f.wt g.rt&&uQ g.wt f.rt
structure gT (s t:St):Prop where
 get:∀ n,t.get n=s.get n
 site:∀ n,t.site n=s.site n
section
variable {orc:Option bI} {st st' st2:St} {d:Nat} {v:AV}
def gT.refl(s:St):gT s s:=⟨λ_=>rfl,λ_=>rfl⟩
def gT.symm{s t:St}(h:gT s t):gT t s:=⟨λn=>(h.get n).symm,λn=>(h.site n).symm⟩
def gT.trans{s t u:St}(h:gT s t)(k:gT t u):gT s u:=⟨λn=>(k.get n).trans (h.get n),λn=>(k.site n).trans (h.site n)⟩
theorem xb(st:St)(d:Option Nat)(v:AV)(t:Nat):(st.put d v).get t=if d=some t then v else st.get t:=by
 cases d with
 | none=>simp[St.put]
 | some d =>
  simp[St.put,St.get,look]
def pM(st:St)(d:Option Nat)(v:AV)(s:Nat):(st.put d v).site s=st.site s:=by cases d<;>rfl
def y7{s t:St}(h:s.sl=t.sl)(n:Nat):s.get n=t.get n:=by simp[St.get,h]
theorem Uj{b:c7}(hs:∀ x∈b.bZ,st2.ev x=st.ev x)(h:∀ s∈vU orc st (xm st b),st2.site s=st.site s):vU orc st2 (xm st2 b)=vU orc st (xm st b):=by
 have m:xm st2 b=xm st b:=by
  cases b<;>simp only[xm]
  case call f args=>exact vA λq k=>hs q k
  case gS f args =>
   have p:args.map st2.ev=args.map st.ev:=vA λq k=>hs q (by simp[c7.bZ,k]);rw[p,hs f (by simp[c7.bZ])]
 rw[m];generalize xm st b=l at h;unfold vU at h ⊢;cases orc with
 | none=>rw[(DE (st2:=st2) (n:=aZ) (vs:=l) λi j=>h i.1 (cD.2 ⟨i,j,rfl⟩)).1]
 | some c =>
  simp only at h ⊢;cases o:c.res<;>rw[o]at h<;>simp only at h ⊢ <;> first|rfl|rw[(DE (st2:=st2) (n:=aZ) (vs:=l) λi j=>h i.1 (cD.2 ⟨i,j,rfl⟩)).1]
def Py{b:c7}(hs:∀ x∈b.bZ,st2.ev x=st.ev x)(f:∀ s∈eu orc st d b,st2.site s=st.site s):eu orc st2 d b=eu orc st d b/\gV orc st2 d b=gV orc st d b:=by
 cases b<;>simp only[eu,gV]at f ⊢ <;> first
  | exact⟨trivial,trivial⟩
  | (rename_i x;rw[hs x (by simp[c7.bZ])];first|exact⟨rfl,rfl⟩|exact⟨rfl,trivial⟩|exact⟨trivial,trivial⟩)
  | (rename_i x y;rw[hs x (by simp[c7.bZ]),hs y (by simp[c7.bZ])];first|exact⟨rfl,rfl⟩|exact⟨rfl,trivial⟩|exact⟨trivial,trivial⟩)
  | (rename_i x y z;rw[hs y (by simp[c7.bZ])];first|exact⟨rfl,rfl⟩|exact⟨rfl,trivial⟩|exact⟨trivial,trivial⟩)
  | (rename_i x y z t;rw[hs y (by simp[c7.bZ])];first|exact⟨rfl,rfl⟩|exact⟨rfl,trivial⟩|exact⟨trivial,trivial⟩)
  | (rw[Uj hs (λs h=>f s (bY.2 (.inr h)))];exact⟨rfl,rfl⟩)
theorem Hq{i:Ins}(o:exec orc st i=some st')(hs:∀ t∈(fp orc st i).rs,st2.get t=st.get t)(F:∀ s∈(fp orc st i).rt,st2.site s=st.site s) :
  ∃ f,exec orc st2 i=some f/\fp orc st2 i=fp orc st i/\(∀ t∈(fp orc st i).ds,f.get t=st'.get t)/\(∀ t,t∉(fp orc st i).ds->f.get t=st2.get t/\st'.get t=st.get t) /\
   (∀ s∈(fp orc st i).wt,f.site s=st'.site s)/\(∀ s,s∉(fp orc st i).wt->f.site s=st2.site s/\st'.site s=st.site s)/\(∀ s∈(fp orc st i).wt,s∈(fp orc st i).rt):=by
 have r:∀ x∈i.op.bZ,st2.ev x=st.ev x:=by
  intro x V;cases x with
  | c v=>rfl
  | t n=>exact hs n (by simp only[fp,dT];exact .inr (kv.2 ⟨.t n,V,by simp[bL.aR]⟩))
 have U:∀ t b,i.guard=some (t,b)->st2.get t=st.get t:=λt b h=>hs t (by simp[fp,h]);have A:runs st2 i=runs st i:=by
  unfold runs
  grind
 have p:fp orc st2 i=fp orc st i:=by
  unfold fp at F ⊢;rw[A];cases j:runs st i with
  | false=>rfl
  | true =>
   simp only[j,cB]at F ⊢;obtain⟨B,C⟩:=Py (orc:=orc) (d:=i.dst.getD 0) r F
   grind
 have u:∀ {G m s D:St} {v:AV} {R W:List Nat},pE G s m D R W->(∀ t∈i.dst.toList,(D.put i.dst v).get t=(s.put i.dst v).get t)/\(∀ t,t∉i.dst.toList->(D.put i.dst v).get t=m.get t/\(s.put i.dst v).get t=G.get t) /\
   (∀ t∈W,(D.put i.dst v).site t=(s.put i.dst v).site t)/\(∀ t,t∉W->(D.put i.dst v).site t=m.site t/\(s.put i.dst v).site t=G.site t)/\(∀ t∈W,t∈R):=by
  intro G m s D v R W h;obtain⟨L,M,N,O,Q,S⟩:=h;refine⟨λt l=>?_,λt l=>?_,λt l=>?_,λt l=>?_,S⟩
  .rw[xb,xb];cases J:i.dst with
   | none=>simp[J]at l
   | some d=>simp[J]at l;subst l;simp
  .rw[xb,xb];have:i.dst≠some t:=by intro h;simp[h]at l
   rw[aY this,aY this];exact⟨y7 O t,y7 Q t⟩
  .rw[pM,pM];exact L t l
  .rw[pM,pM];exact⟨M t l,N t l⟩
 have y:runs st i=true->tN orc st i=some st'->∃ f,tN orc st2 i=some f/\(∀ t∈(fp orc st i).ds,f.get t=st'.get t)/\(∀ t,t∉(fp orc st i).ds->f.get t=st2.get t/\st'.get t=st.get t) /\
   (∀ s∈(fp orc st i).wt,f.site s=st'.site s)/\(∀ s,s∉(fp orc st i).wt->f.site s=st2.site s/\st'.site s=st.site s)/\(∀ s∈(fp orc st i).wt,s∈(fp orc st i).rt):=by
  intro j h;unfold tN at h ⊢;split at h
  .rename_i v s H;cases h;have I:∀ s∈eu orc st (i.dst.getD 0) i.op,st2.site s=st.site s:=λs hs=>F s (by simp[fp,j,hs]);obtain⟨m,B,C⟩:=KK H r I;refine⟨m.put i.dst v,by rw[B],?_⟩;simp only[fp,j,cB];exact u C
  .cases h
 have z:runs st i=false->st'=st.put i.dst .skip->(∀ t∈(fp orc st i).ds,(st2.put i.dst .skip).get t=st'.get t)/\(∀ t,t∉(fp orc st i).ds->(st2.put i.dst .skip).get t=st2.get t/\st'.get t=st.get t) /\
   (∀ s∈(fp orc st i).wt,(st2.put i.dst .skip).site s=st'.site s)/\(∀ s,s∉(fp orc st i).wt->(st2.put i.dst .skip).site s=st2.site s/\st'.site s=st.site s)/\(∀ s∈(fp orc st i).wt,s∈(fp orc st i).rt):=by
  intro j h;subst h;simp only[fp,j,fQ,gJ];exact u (iP (R:=[]))
 unfold exec at o ⊢;split at o
 .rename_i h;obtain⟨m,B,C⟩:=y (by simp[runs,h]) o;exact⟨m,B,p,C⟩
 .rename_i t b h;simp only[U t b h];split at o
  .rename_i c E;split at o
   .rename_i k;obtain⟨m,B,C⟩:=y (by simp[runs,h,E,k]) o;exact⟨m,by rw[aW k];exact B,p,C⟩
   .rename_i k;cases o;exact⟨_,by rw[aY k],p,z (by simp[runs,h,E,k]) rfl⟩
  .rename_i E;cases o;exact⟨_,rfl,p,z (by simp[runs,h,E]) rfl⟩
  .cases o
def Si{i:Ins}(n:exec orc st i=some st')(h:gT st st2):∃ b,exec orc st2 i=some b/\fp orc st2 i=fp orc st i/\gT st' b:=by
 obtain⟨o,l,m,p,j,r,k,_⟩:=Hq n (λt _=>h.get t) (λs _=>h.site s);refine⟨o,l,m,λt=>?_,λs=>?_⟩
 .by_cases f:t∈(fp orc st i).ds
  .grind
  .rw[(j t f).1,(j t f).2];exact h.get t
 .by_cases f:s∈(fp orc st i).wt
  .grind
  .rw[(k s f).1,(k s f).2];exact h.site s
abbrev Item:=(Option bI × Ins) × FP
inductive fW:List Item->St->St->Prop
 | nil (st:St):fW [] st st
 | cons (x:Item) (xs:List Item) (st s1 st':St):exec x.1.1 st x.1.2=some s1->(fp x.1.1 st x.1.2).Sub x.2->fW xs s1 st'->fW (x::xs) st st'
theorem fW.eqv:∀ {xs:List Item} {st st' st2:St},fW xs st st'->gT st st2->∃ b,fW xs st2 b/\gT st' b
 | _,_,_,st2,.nil st,h=>⟨st2,.nil st2,h⟩
 | _,_,_,st2,.cons x xs st s1 st' m n h3,h=>by obtain⟨o,f,i,j⟩:=Si m h;obtain⟨b,k,l⟩:=fW.eqv h3 j;exact⟨b,.cons x xs st2 o b f (i ▸ n) k,l⟩
def Df{a b:List Nat}(h:uQ a b=true){x:Nat}(f:x∈a):x∉b:=by
 have:=kR.1 h x f
 grind
theorem fW.swap{x y:Item}{xs:List Item}{st st':St}(h:fW (x::y::xs) st st')(hi:xz x.2 y.2=true):∃ b,fW (y::x::xs) st b/\gT st' b:=by
 cases h with
 | cons _ _ _ s1 _ o i h3 =>
  cases h3 with
  | cons _ _ _ O _ M k N =>
   simp only[xz,kq]at hi;obtain⟨⟨⟨⟨i1,J⟩,L⟩,p⟩,i5⟩:=hi;have j:=Hq (st2:=st) o (λ_ _=>rfl) (λ_ _=>rfl);obtain⟨_,_,_,_,Q,_,R,X⟩:=j
   obtain⟨n,a1,u,S,z,U,A,B⟩:=Hq (st2:=st) M
    (λt m=>((Q t (λf=>Df i1 (i.ds _ f) (k.rs _ m))).2).symm)
    (λs hs=>((R s (λf=>Df p (i.wt _ f) (k.rt _ hs))).2).symm)
   obtain⟨r,C,D,E,V,F,W,_⟩:=Hq (st2:=n) o
    (λt m=>(z t (λf=>Df L (k.ds _ f) (i.rs _ m))).1)
    (λs hs=>(A s (λf=>Df i5 (k.wt _ f) (i.rt _ hs))).1)
   have l:gT O r:=by
    refine⟨λt=>?_,λs=>?_⟩
    .by_cases j:t∈(fp x.1.1 st x.1.2).ds
     .rw[E t j];have I:t∉(fp y.1.1 s1 y.1.2).ds:=λf=>Df J (i.ds _ j) (k.ds _ f)
      grind
     .grind
    .by_cases j:s∈(fp x.1.1 st x.1.2).wt
     .rw[F s j];have I:s∉(fp y.1.1 s1 y.1.2).wt:=λf=>Df p (i.wt _ j) (k.rt _ (B s f))
      grind
     .grind
   obtain⟨b,G,H⟩:=fW.eqv N l;exact⟨b,.cons y _ st n b a1 (u ▸ k) (.cons x _ n r b C (D ▸ i) G),H⟩
theorem fW.front{x:Item}{xs:List Item}:∀ {f:List Item} {st st':St},fW (f++x::xs) st st'->(∀ y∈f,xz y.2 x.2=true)->∃ b,fW (x::(f++xs)) st b/\gT st' b
 | [],st,st',h,_=>⟨st',h,gT.refl st'⟩
 | y::f,st,st',h,hi=>by
  cases h with
  | cons _ _ _ s1 _ n o h3 =>
   obtain⟨s',j,k⟩:=fW.front h3 (λz hz=>hi z (by simp[hz]));obtain⟨i,l,m⟩:=fW.swap (.cons y _ st s1 s' n o j) (hi y (by simp));exact⟨i,l,k.trans m⟩
end
section
variable {P:Program} {K:Ctx} {Z Z':Cz} {st st' st2:St} {w w':World} {a:Act} {orc:Option bI} {d:Nat} {v:AV}
def sC{s t:St}(h:∀ i,t.site i=s.site i)(Z:Cz):cO Z s Z t :=
 ⟨λ_ _ h=>h,λi=>by rw[h];exact dK _,λi g _ b=>by rw[fq (h i)];exact b,λi g o f=>.inr ⟨o,by rw[fq (h i)];exact f,rfl,rfl,rfl,rfl⟩⟩
def bC.gQ(h:bC K Z st w)(e:∀ i,st2.site i=st.site i):bC K Z st2 w:=by
 have k:∀ s g,st2.obj s g=st.obj s g:=λs g=>fq (e s);refine⟨λs g o f=>?_,λs g s' g' o o' b f j=>?_,h.mem,λs g o b f=>?_,λs g o b f=>?_,h.m0,h.eE,h.keep⟩
 .rw[k]at f;obtain⟨l,m,h3,n,p⟩:=h.bR s g o f;refine⟨l,m,h3,n,λb r=>?_⟩;obtain⟨cur,T,vals,t,u,x⟩:=p b r;exact⟨cur,T,vals,t,aG.mono (sC e Z) u,x⟩
 .rw[k]at f j;exact h.inj s g s' g' o o' b f j
 .rw[k]at f;exact h.sep s g o b f
 .rw[k]at f;exact h.own s g o b f
def aN.eqv(h:aN K Z st w a)(e:gT st st2):aN K Z st2 w a :=
 ⟨λt=>by rw[e.get];exact aM.mono (sC e.site Z) (h.aR t),h.defers,h.size,h.heap.gQ e.site⟩
def bG:Nat:=999998
def fP:Nat:=900000
structure cV (Z:Cz) (st:St) (Z':Cz) (st':St):Prop where
 len:∀ s,fP<=s->s<999999->(st.site s).length<=(st'.site s).length
 dead:∀ s g,fP<=s->s<999999->g<(st.site s).length->st.obj s g=none->st'.obj s g=none
 live:∀ s g o,fP<=s->s<999999->st.obj s g=some o->st'.obj s g=none\/∃ o',st'.obj s g=some o'/\o'.sz=o.sz/\o'.es.length=o.es.length/\Z'.B s g=Z.B s g/\Z'.cap s g=Z.cap s g
def cV.dR{Z':Cz}{st':St}(h:cO Z st Z' st'):cV Z st Z' st':=⟨λs _ _=>h.len s,λs g _ _=>h.dead s g,λs g o _ _=>h.live s g o⟩
def cV.refl(Z:Cz)(st:St):cV Z st Z st:=.dR (cO.refl Z st)
theorem cV.trans{j Z2 l:Cz}{s1 p r:St}(h:cV j s1 Z2 p)(k:cV Z2 p l r):cV j s1 l r:=by
 refine⟨λs a b=>dP (h.len s a b) (k.len s a b),λs g a b m hd=>k.dead s g a b (iC m (h.len s a b)) (h.dead s g a b m hd),λs g o a b n=>?_⟩;obtain hd|⟨o',f,t,u,x,y⟩:=h.live s g o a b n
 .exact .inl (k.dead s g a b (iC (nO n) (h.len s a b)) hd)
 .obtain hd|⟨D,i,z,A,B,C⟩:=k.live s g o' a b f
  .exact .inl hd
  .exact .inr ⟨D,i,z.trans t,A.trans u,B.trans x,C.trans y⟩
def zO(ops:Array Oper):Option (Nat × Bool)->Option (Option (Nat × Bool))
 | none=>some none
 | some (j,b)=>match (ops[j]?).bind (·.dst)with
  | some t=>some (some (t,b))
  | none=>none
def Fs(N:Nat):Option Nat->Bool
 | none=>true
 | some d=>d<N
def xa(P:Program)(N:Nat)(ops:Array Oper)(o:Oper):Option Ins :=
 match oC P o.op,zO ops o.guard with
 | some i,some g=>if Fs N o.dst=true then some ⟨o.dst,i,g⟩else none
 | _,_=>none
def BF(P:Program)(N:Nat)(ops:Array Oper):List Oper->Option (List Ins)
 | []=>some []
 | o::r=>match xa P N ops o,BF P N ops r with
  | some i,some l=>some (i::l)
  | _,_=>none
def DB{N:Nat}{ops:Array Oper}{o:Oper}{x:Ins}(h:xa P N ops o=some x) :
  oC P o.op=some x.op/\zO ops o.guard=some x.guard/\x.dst=o.dst/\Fs N o.dst=true:=by
 unfold xa at h;split at h
 .rename_i i g b f;split at h
  .rename_i j;cases h;exact⟨b,f,rfl,j⟩
  .cases h
 .cases h
theorem aN.put{dst:Option Nat}{x:Value}{w2:World}(hs:aN K Z st w a)(j:st'.sl=st.sl)(hz:cO Z st Z' st')(k:bC K Z' st' w2)(l:aM Z' st' v x)(hd:Fs K.N dst=true)(f:a.defers=[]) :
  aN K Z' (st'.put dst v) w2 (a.put dst x):=by
 have b:∀ {u:AV} {y:Value},aM Z' st' u y->aM Z' (st'.put dst v) u y:=λh=>aM.mono (sC (λi=>pM _ _ _ i) Z') h;refine⟨λt=>?_,?_,?_,k.gQ (λi=>pM _ _ _ i)⟩
 .rw[xb];cases dst with
  | none=>simp only[reduceCtorEq,fQ,Act.put];rw[y7 j];exact b (aM.mono hz (hs.aR t))
  | some d =>
   simp only[Fs,decide_eq_true_eq]at hd;simp only[cF,Act.put];split
   .rename_i h;subst h;have:(a.tmps.setIfInBounds d x).getD d Go.undef=x:=by simp[hs.size,hd]
    rw[this];exact b l
   .rename_i h;have:(a.tmps.setIfInBounds d x).getD t Go.undef=a.tmps.getD t Go.undef:=by simp[Array.getElem?_setIfInBounds_ne h]
    rw[this,y7 j];exact b (aM.mono hz (hs.aR t))
 .cases dst<;>exact f
 .cases dst<;>simp[Act.put,hs.size]
def wU(P:Program)(orc:Option bI):Prop:=∀ c,orc=some c->c.ok P
theorem Yv{i:c7}(h:bX orc st d i=some (v,st')):st'.sl=st.sl:=by obtain⟨b,j,f⟩:=KK (st2:=st) h (λ_ _=>rfl) (λ_ _=>rfl);exact f.2.2.2.2.1
theorem Oy{o:Oper}{x:Ins}{Q:Exit->Act->World->Prop}{Kt:Act->World->Prop}(z:oC P o.op=some x.op)(A:x.dst=o.dst)(B:Fs K.N o.dst=true)(hs:aN K Z st w a)(k:wU P orc)
  (p:tN orc st x=some st') (m:∀ Z' w' t,aN K Z' st' w' t->cV Z st Z' st'->Kt t w'):o.wp P a w Kt Q:=by
 unfold tN at p;split at p
 .rename_i v s h;cases p;have l:=Yv h;by_cases b:∃ c f,o.op=.call c/\c.callee=.value f
  .obtain⟨c,f,j,r⟩:=b;refine ZD z j r hs h k (λw' Z' y H I C=>?_);rw[A]at m;exact m _ _ _ (hs.put l C H I B hs.defers) (.dR (C.trans (sC (λi=>pM _ _ _ i) _)))
  .obtain⟨n,y,w',Z',D,E,F,G,u⟩:=Yu z (λc f j r=>b ⟨c,f,j,r⟩) hs h;unfold Oper.wp;rw[D];rw[A]at m;have:=m _ _ _ (hs.put l u F G B hs.defers) (.dR (u.trans (sC (λi=>pM _ _ _ i) _)));obtain rfl|⟨rfl,rfl⟩:=E
   .exact this
   .exact this
 .cases p
theorem Gr{ops:Array Oper}{i:Nat}{o:Oper}{x:Ins}{Q:Exit->Act->World->Prop}{Kt:Act->World->Prop}(I:ops[i]?=some o)(H:xa P K.N ops o=some x)(hs:aN K Z st w a)(m:wU P orc)
  (f:exec orc st x=some st') (u:∀ Z' w' D,aN K Z' st' w' D->cV Z st Z' st'->Kt D w'):wpOp P ops Q i Kt a w:=by
 obtain⟨E,l,A,B⟩:=DB H;unfold wpOp;simp only[I];have skip:st'=st.put x.dst .skip->Kt (a.put o.dst Go.undef) w:=by rintro rfl;rw[A]at u;exact u _ _ _ (hs.put rfl (cO.refl Z st) hs.heap .skip B hs.defers) (.dR (sC (λi=>pM _ _ _ i) _))
 unfold exec at f;cases s:o.guard with
 | none =>
  rw[s]at l;simp only[zO,cF]at l;rw[<- l]at f;have r:Region.wanted o (yielded ops a.tmps)=true:=by simp[Region.wanted,s]
  simp only[r,cB];exact .inl (Oy E A B hs m f u)
 | some J =>
  obtain⟨j,b⟩:=J;rw[s]at l;simp only[zO]at l;split at l
  .rename_i t F;simp only[cF]at l;rw[<- l]at f;have k:=hs.aR t;simp only at f;split at f
   .rename_i c n;rw[n]at k;have C:=k.fO;have z:yielded ops a.tmps j=some c:=by
     have:a.tmps[t]?=some (.bool c):=by
      cases h:a.tmps[t]? with
      | none=>simp[h,Go.undef]at C
      | some y=>simp[h]at C;rw[C]
     simp[yielded,F,this]
    split at f
    .rename_i p;have r:Region.wanted o (yielded ops a.tmps)=true:=by simp[Region.wanted,s,z,p]
     simp only[r,cB];exact .inl (Oy E A B hs m f u)
    .rename_i p;have r:Region.wanted o (yielded ops a.tmps)=false:=by simp[Region.wanted,s,z,p]
     simp only[r,gJ,fQ];cases f;exact skip rfl
   .rename_i n;rw[n]at k;have G:a.tmps.getD t Go.undef=Go.undef:=by generalize a.tmps.getD t Go.undef=y at k ⊢;cases k;rfl
    have z:yielded ops a.tmps j=none:=by
     simp only[yielded,F,Option.bind_some];cases h:a.tmps[t]? with
     | none=>rfl
     | some y=>simp[h]at G;rw[G];rfl
    have r:Region.wanted o (yielded ops a.tmps)=false:=by simp[Region.wanted,s,z]
    simp only[r,gJ,fQ];cases f;exact skip rfl
   .cases f
  .cases l
end
end Go.Ab
