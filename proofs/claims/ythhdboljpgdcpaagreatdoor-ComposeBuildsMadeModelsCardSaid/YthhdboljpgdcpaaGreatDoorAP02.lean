/- Lemmas for the law ComposeBuildsMadeModels, part 2. No conditions. -/
import Derived.Test.YthhdboljpgdcpaaGreatDoorAP01
set_option maxRecDepth 100000
set_option maxHeartbeats 4000000
set_option linter.all false
namespace Go.Ab
section
variable {P:Program} {K:Ctx} {Z Z':Cz} {st st':St} {w w':World} {a:Act} {orc:Option bI} {d:Nat} {v:AV}
def Uc{x:Operand}{y:bL}{i:Nat}(r:dJ x=some y)(hs:aN K Z st w a)(b:bX orc st d (.extract y i)=some (v,st')) :
  Good P K Z st ((do pure (Next.value (<- Instr.extract (a.eval x) i)):Sem Next).run P w) v st':=by
 have k:=fD r hs;generalize a.eval x=X at k ⊢;simp only[bX]at b;split at b
 .rename_i s f;rw[f]at k;split at b
  .rename_i u m;simp only[cF,dA]at b;obtain⟨rfl,rfl⟩:=b;cases k with
   | bP _ l h =>
    obtain⟨z,n,j⟩:=h.get i u m;exact iA (by simp[Instr.extract,n]) hs j
  .cases b
 .rename_i s f;rw[f]at k;split at b
  .rename_i u m;simp only[cF,dA]at b;obtain⟨rfl,rfl⟩:=b;have o:=k.cA;cases o with
   | bP _ l h =>
    obtain⟨z,n,j⟩:=h.get i u m;exact iA (by simp[Instr.extract,n]) hs (.p _ _ j)
  .cases b
 .cases b
theorem NG{t:TypeId}{sz off:Nat}{l:Bool}{u r:AV}{cells:List AV}{X:Value}(E:tok P t sz l=true)(x:aM Z st u X)(f:u.iZ=some cells)(hu:sT cells off sz l=some r) :
  ∃ cs y,X=.agg cs/\(part t cs off).run P w=.ok y w/\aM Z st r y:=by
 obtain⟨i,d,C,o,s,j,A,n⟩:=EV E;obtain⟨b,z,k,h⟩:∃ b,X=.agg (b:List Value).toArray/\aG Z st cells b/\∀ c∈cells,c.one=true:=by
  unfold AV.iZ at f;split at f
  .cases f;cases x.cA with
   | agg cs b h m=>exact⟨b,rfl,aG.lS m,λc f=>by simp at f;obtain⟨q,D,rfl⟩:=f;exact h q D⟩
  .cases f;cases x with
   | agg cs b h m=>exact⟨b,rfl,m,h⟩
  .cases f
 subst z;refine⟨b.toArray,?_⟩;cases l with
 | true =>
  simp only[sT,cB]at hu;split at hu
  .rename_i G;cases hu;refine⟨.agg ((b.drop off).take sz).toArray,rfl,?_,aM.eJ (λc f=>h c (lu (jA f))) ((k.drop off).take sz)⟩;simp[part,E4 w s,j,sizeOf,typeInfo,C,o]
  .cases hu
 | false =>
  have:=n rfl;subst this;simp only[sT,if_true,Bool.false_eq_true,if_false]at hu;have B:cells[off]?=some r:=by rw[List.head?_eq_getElem?,List.getElem?_take]at hu;simpa using hu
  obtain⟨y,F,p⟩:=k.get off r B;exact⟨y,rfl,by simp[part,E4 w s,j,F],p⟩
def Wc{s:TypeId}{k:Array Field}{n:Nat}{b:Field}{x:Operand}{y:bL}(m:P.underlying s=some (.struct k))(o:k[n]?=some b)
  (p:tok P b.type (ey P b.type) (jI P b.type)=true) (t:dJ x=some y) (hs:aN K Z st w a) (f:bX orc st d (.field b.offset (ey P b.type) (jI P b.type) y)=some (v,st')) :
  Good P K Z st ((do pure (Next.value (<- Instr.field s (a.eval x) n)):Sem Next).run P w) v st':=by
 have l:=fD t hs;generalize a.eval x=X at l ⊢;simp only[bX]at f;split at f
 .rename_i B i;split at f
  .rename_i u r;simp only[cF,dA]at f;obtain⟨rfl,rfl⟩:=f;obtain⟨h,z,rfl,A,j⟩:=NG (P:=P) (w:=w) p l i r;exact iA (by simp[Instr.field,run_underlying m,o,asAgg,A]) hs j
  .cases f
 .cases f
def Zf{t e:TypeId}{n:Nat}{x i:Operand}{y j:bL}(C:P.underlying t=some (.array n e))
  (B:tok P e (ey P e) (jI P e)=true) (H:dJ x=some y) (D:dJ i=some j) (hs:aN K Z st w a) (b:bX orc st d (.idx n (ey P e) (jI P e) y j)=some (v,st')) :
  Good P K Z st ((do pure (Next.value (<- Instr.index t (a.eval x) (a.eval i))):Sem Next).run P w) v st':=by
 have A:=fD H hs;have f:=fD D hs;obtain⟨inf,_,h,l,_⟩:=EV B;generalize a.eval x=X at A ⊢;generalize a.eval i=I at f ⊢;simp only[bX]at b;split at b
 .rename_i m F;split at b
  .rename_i r;split at b
   .rename_i L p;split at b
    .rename_i u G;simp only[cF,dA]at b;obtain⟨rfl,rfl⟩:=b;obtain⟨k,E⟩:=xN F;rw[E]at f;rw[f.dE];obtain⟨o,z,rfl,J,s⟩:=NG (P:=P) (w:=w) B A p G;have M:(0:Int)<=(m:Int)/\(m:Int)<(n:Int):=by omega
     exact iA (by simp[Instr.index,run_underlying C,asIntOf,r,sizeOf,typeInfo,h,l,J]) hs s
    .cases b
   .cases b
  .cases b
 .cases b
def Wd{t e:TypeId}{x i:Operand}{y j:bL}(h1:P.underlying t=some (.slice e))(l:(P.info? e).isSome=true)
  (hx:dJ x=some y) (hi:dJ i=some j) (hs:aN K Z st w a) (f:bX orc st d (.cE (ey P e) y j)=some (v,st')) :
  Good P K Z st ((do pure (Next.value (<- Instr.indexAt t (a.eval x) (a.eval i))):Sem Next).run P w) v st':=by
 have G:=fD hx hs;have n:=fD hi hs;obtain⟨inf,l⟩:=Cc.1 l;have F:inf.size=ey P e:=by simp[ey,Program.cellsOf,l]
 generalize ey P e=sz at *
 generalize a.eval x=X at G ⊢;generalize a.eval i=I at n ⊢;have A:∀ (k:IntKind) (m:Nat) (b o p c:Nat),m<p->(Instr.indexAt t (.slice (some ⟨b,o,none⟩) p c) (.int k m)).run P w=.ok (.pointer (some ⟨b,o+m*sz,none⟩)) w:=by intro k m b o p c C;simp[Instr.indexAt,run_underlying h1,asIntOf,C,sizeOf,typeInfo,l,F,vj]
 simp only[bX]at f;split at f
 .rename_i m es W B;obtain⟨k,V⟩:=xN W;rw[V]at n;rw[n.dE];rw[B]at G;split at f
  .rename_i M r;split at f
   .rename_i J;simp only[cF,dA]at f;obtain⟨rfl,rfl⟩:=f;have E:=wg r;cases G.cA with
    | ry=>simp at r
    | sl _ b o O Q T fr h L m0 m1 m2 m3 m4 m5 m6 =>
     have C:=(iR.1 r).1;have D:h=sz:=by rw[<- m2 M E];exact J.1
     subst D;have U:∀ q∈es,(PV.cells q).length=h:=λq u=>by rw[PV.bS (by rw[m2 q u];exact m1),m2 q u]
     have H:=EO PV.cells h es m M U r;refine iA (A k m b o _ O C) hs ?_
     have:=aM.cp (Z:=Z) (st:=st) M h 0 b (o+m*h) Q T fr ((L.drop (m*h)).take h) m0 m1 J.1
      (λc N=>m3 c (kv.2 ⟨M,E,N⟩)) (by rw[<- H];exact(m4.drop _).take _)
      (λq z u=>by
       rw[Bi]at u;split at u
       .rw[Bj]at u;rw[Ce];exact m5 _ _ u
       .cases u)
     simpa using this
   .cases f
  .cases f
 .rename_i m s g af p W B;obtain⟨k,V⟩:=xN W;rw[V]at n;rw[n.dE];rw[B]at G;split at f
  .rename_i o Y;split at f
   .rename_i N;simp only[cF,dA]at f;obtain⟨rfl,rfl⟩:=f;cases G with
    | dU=>omega
    | own _ _ _ _ o' b ad c e1 R e3 e4 e5 e6 =>
     rw[Y]at e1;cases e1;have S:=e4 (by omega);subst S;refine iA (A k m b _ p c N.1) hs ?_;have:=aM.ptr (Z:=Z) (st:=st) s g (af+m) 0 o b Y R;rw[<- N.2.2];simpa[Nat.add_mul]using this
    | eN _ _ _ _ _ _ _ R=>exact(vv Y R).elim
   .cases f
  .cases f
 .cases f
def Xu{t e:TypeId}{n:Nat}{x i:Operand}{y j:bL}(L:P.underlying t=some (.array n e))(f:(P.info? e).isSome=true)
  (N:dJ x=some y) (M:dJ i=some j) (hs:aN K Z st w a) (h:bX orc st d (.cK n (ey P e) y j)=some (v,st')) :
  Good P K Z st ((do pure (Next.value (<- Instr.indexAt t (a.eval x) (a.eval i))):Sem Next).run P w) v st':=by
 have A:=fD N hs;have p:=fD M hs;obtain⟨inf,f⟩:=Cc.1 f;have z:inf.size=ey P e:=by simp[ey,Program.cellsOf,f]
 generalize ey P e=W at *
 generalize a.eval x=X at A ⊢;generalize a.eval i=I at p ⊢;have r:∀ (k:IntKind) (m:Nat) (b o:Nat),m<n->(Instr.indexAt t (.pointer (some ⟨b,o,none⟩)) (.int k m)).run P w=.ok (.pointer (some ⟨b,o+m*W,none⟩)) w:=by intro k m b o l;simp[Instr.indexAt,run_underlying L,asIntOf,l,sizeOf,typeInfo,f,z,vj,Instr.sureAddr]
 simp only[bX]at h;split at h
 .rename_i m s g ix o E u;obtain⟨k,D⟩:=xN E;rw[D]at p;rw[p.dE];rw[u]at A;split at h
  .rename_i F G;split at h
   .rename_i l;simp only[cF,dA]at h;obtain⟨rfl,rfl⟩:=h;obtain⟨b,H,rfl⟩:=AT A G;exact iA (r k m b _ l) hs (by rw[Ce];exact .ptr _ _ _ _ F b G H)
   .cases h
  .cases h
 .rename_i m pv Y o E u;obtain⟨k,D⟩:=xN E;rw[D]at p;rw[p.dE];rw[u]at A;split at h
  .rename_i l;simp only[cF,dA]at h;obtain⟨rfl,rfl⟩:=h;cases A with
   | cp _ _ _ b F C T J B O Q R S U V=>exact iA (r k m b _ l) hs (by rw[Ce];exact .cp _ _ _ b F C T J B O Q R S U V)
  .cases h
 .cases h
def Zg{args:Array TypeId}{ty:TypeId}{x:Operand}{y:bL}(r:uE (args[0]?.bind P.underlying)=true)(D:dJ x=some y)(hs:aN K Z st w a)(i:bX orc st d (.len y)=some (v,st')) :
  Good P K Z st ((do pure (Next.value (<- Builtin.len_ args ty #[a.eval x])):Sem Next).run P w) v st':=by
 have j:=fD D hs;obtain⟨t,e,u,z⟩:∃ t e,args[0]?=some t/\P.underlying t=some (.slice e):=by
  cases m:args[0]? with
  | none=>simp[m,uE]at r
  | some t =>
   cases A:P.underlying t with
   | none=>simp[m,A,uE]at r
   | some d=>cases d<;>simp[m,A,uE]at r;exact⟨t,_,rfl,A⟩
 have f:∀ k n c,(Builtin.len_ args ty #[.slice k n c]).run P w=.ok (.int .i64 n) w:=by intro k n c;simp[Builtin.len_,u,run_underlying z,goInt]
 generalize a.eval x=X at j ⊢;simp only[bX]at i;split at i
 .rename_i H h;rw[h]at j;simp only[cF,dA]at i;obtain⟨rfl,rfl⟩:=i;cases j.cA with
  | ry k l=>exact iA (f _ _ _) hs (.p _ _ (.int _ _))
  | sl _ b o l C T I G B J L M N O Q R=>exact iA (f _ _ _) hs (.p _ _ (.int _ _))
 .rename_i h;rw[h]at j;simp only[cF,dA]at i;obtain⟨rfl,rfl⟩:=i;cases j;exact iA (f _ _ _) hs (.p _ _ (.int _ _))
 .rename_i s g F E h;rw[h]at j;simp only[cF,dA]at i;obtain⟨rfl,rfl⟩:=i;cases j with
  | dU=>exact iA (f _ _ _) hs (.p _ _ (.int _ _))
  | own=>exact iA (f _ _ _) hs (.p _ _ (.int _ _))
  | eN=>exact iA (f _ _ _) hs (.p _ _ (.int _ _))
 .cases i
end
section
variable {P:Program} {K:Ctx} {Z Z':Cz} {st st':St} {w w':World} {a:Act} {orc:Option bI} {d:Nat} {v:AV}
theorem Dh{α β : Type}(f : α -> List β)(sz:Nat):∀ (es:List α) (n:Nat),(∀ e∈es,(f e).length=sz)->(es.take n).flatMap f=(es.flatMap f).take (n*sz)
 | [],n,_=>by simp
 | x::es,0,_=>by simp
 | x::es,n+1,h=>by have b:=h x (by simp);rw[FH,jG,jG,Dh f sz es n (λy i=>h y (by simp[i])),yL,List.take_append,fK (l:=f x) (by omega),b,FJ]
theorem Dg{α β : Type}(f : α -> List β)(sz:Nat):∀ (es:List α) (n:Nat),(∀ e∈es,(f e).length=sz)->(es.drop n).flatMap f=(es.flatMap f).drop (n*sz)
 | [],n,_=>by simp
 | x::es,0,_=>by simp
 | x::es,n+1,h=>by have b:=h x (by simp);rw[Mn,jG,Dg f sz es n (λy i=>h y (by simp[i])),yL,List.drop_append,xr (l:=f x) (by omega),b,FJ,uJ]
def Xv{u:AV}{X:Value}{xs:List AV}{sz:Nat}(k:st.elems u=some xs)(D:aM Z st u X)(S:bC K Z st w)(z:∀ e∈xs,e.sz=sz)(hp:0<sz) :
  ∃ ad c vals,X=.slice ad xs.length c/\aG Z st (xs.flatMap AV.cells) vals/\(∀ q∈xs.flatMap AV.cells,q.one=true)/\vals.length=xs.length*sz /\
   ∀ w':World,w'.heap=w.heap->(Builtin.firstCells sz xs.length X).run P w'=.ok vals.toArray w':=by
 have J:∀ e∈xs,(AV.cells e).length=sz:=λe k=>by rw[AV.bS (by rw[z e k];exact hp),z e k]
 unfold St.elems at k;split at k
 .rename_i es;cases k;cases D.cA with
  | ry ad i =>
   refine⟨ad,i,[],by simp,by simpa using aG.nil,by simp,by simp,λw' G=>?_⟩;cases ad with
   | none=>simp[Builtin.firstCells]
   | some ad=>exact run_firstCells_some w' sz 0 ad 0 i [] (by simp) (by simp)
  | sl _ b o i p T fr af vals m0 m1 m2 m3 W m5 m6 m7 =>
   have hl:=W.length;have n:vals.length=es.length*sz:=by have R:=xo AV.cells sz _ J;rw[qT,rL,rL]at R;rw[hl];exact R
   refine⟨some ⟨b,o,none⟩,i,vals,by simp,by rw[qT];exact aG.lS W,?_,by simpa using n,λw' G=>?_⟩
   .rw[qT];intro q x;simp only[cD]at x;obtain⟨r,O,rfl⟩:=x;exact m3 r O
   .refine run_firstCells_some w' sz _ ⟨b,o,none⟩ _ i vals (by simpa using n) (λj y A=>?_);rw[vj,cell_of_row w' b _ p T fr (by rw[G];exact S.mem b _ m0)];exact m5 j y A
 .cases k;cases D;exact⟨none,0,[],rfl,by simpa using aG.nil,by simp,by simp,λw' _=>by simp[Builtin.firstCells]⟩
 .cases k;cases D.cA with
  | nl i=>exact⟨none,i,[],rfl,by simpa using aG.nil,by simp,by simp,λw' _=>by simp[Builtin.firstCells]⟩
 .cases k;cases D.cA with
  | sle ad i=>exact⟨some ad,i,[],rfl,by simpa using aG.nil,by simp,by simp,λw' G=>run_firstCells_some w' sz 0 ad 0 i [] (by simp) (by simp)⟩
 .rename_i s g l f;split at k
  .rename_i o N;split at k
   .rename_i L;cases k;have B:=S.bR s g o N;have m:((o.es.drop l).take f).length=f:=by simp;omega
    cases D with
    | dU =>
     rw[m];exact⟨none,0,[],rfl,by simpa using aG.nil,by simp,by simp,λw' _=>by simp[Builtin.firstCells]⟩
    | own _ _ _ _ o' b ad c Q H e3 Y e5 e6 =>
     rw[N]at Q;cases Q;obtain⟨p,T,vals,k1,V,k3,k4,k5,k6⟩:=B.bU b H;have t:∀ e∈o.es,(AV.cells e).length=o.sz:=λe k=>by rw[AV.bS (by rw[B.jC e k];exact B.pos),B.jC e k]
     by_cases h0:f=0
     .subst h0;refine⟨some ad,c,[],by simp,by simpa using aG.nil,by simp,by simp,λw' _=>?_⟩;simpa using run_firstCells_some (P:=P) w' sz 0 ad 0 c [] (by simp) (by simp)
     .have I:=Y (by omega);subst I;have E:sz=o.sz:=by
       have M:(o.es.drop l).take f≠[]:=by intro h;rw[h]at m;simp at m;omega
       obtain⟨q,x⟩:=Mm _ M;rw[<- z q x];exact B.jC q (lu (jA x))
      subst E;have C:((o.es.drop l).take f).flatMap AV.cells=((o.es.flatMap AV.cells).drop (l*o.sz)).take (f*o.sz):=by rw[Dh AV.cells o.sz _ f (λe k=>t e (lu k)),Dg AV.cells o.sz _ l t]
      have F:=V.length;rw[xo AV.cells o.sz _ t]at F;have U:l*o.sz+f*o.sz<=vals.length:=by rw[F,<- Nat.add_mul];exact kD _ L
      refine⟨some ⟨b,l*o.sz,none⟩,c,(vals.drop (l*o.sz)).take (f*o.sz),by rw[m],by rw[C];exact(V.drop _).take _,?_,by rw[m];simp;omega,λw' G=>?_⟩
      .rw[C];intro q x;exact B.one q (lu (jA x))
      .rw[m];refine run_firstCells_some w' o.sz f ⟨b,l*o.sz,none⟩ f c _ (by simp;omega) (λj y A=>?_);rw[vj,cell_of_row w' b _ p T (0,0) (by rw[G];exact k1)];rw[Bi]at A;split at A
       .rw[Bj]at A;exact k3 _ _ A
       .cases A
    | eN _ _ _ _ _ _ _ H=>exact(vv N H).elim
   .cases k
  .cases k
 .cases k
def yix{u:AV}{X:Value}{xs:List AV}{sz:Nat}(k:st.elems u=some xs)(F:aM Z st u X)(W:bC K Z st w)(C:∀ e∈xs,e.sz=sz)(hp:0<sz) :
  ∃ ad c vals,X=.slice ad xs.length c/\aG Z st (xs.flatMap AV.cells) vals/\(∀ q∈xs.flatMap AV.cells,q.one=true)/\vals.length=xs.length*sz /\
   ∀ m,m<=xs.length->∀ w':World,w'.heap=w.heap->(Builtin.firstCells sz m X).run P w'=.ok (vals.take (m*sz)).toArray w':=by
 have M:∀ e∈xs,(AV.cells e).length=sz:=λe k=>by rw[AV.bS (by rw[C e k];exact hp),C e k]
 unfold St.elems at k;split at k
 .rename_i es;cases k;cases F.cA with
  | ry ad f =>
   refine⟨ad,f,[],by simp,by simpa using aG.nil,by simp,by simp,λm n w' I=>?_⟩;obtain rfl:m=0:=by simpa using n
   cases ad with
   | none=>simp[Builtin.firstCells]
   | some ad=>exact(by simpa using run_firstCells_some (P:=P) w' sz 0 ad 0 f [] (by simp) (by simp))
  | sl _ b o f z T fr af vals m0 m1 m2 m3 m4 m5 m6 m7 =>
   have hl:=m4.length;have x:vals.length=es.length*sz:=by have V:=xo AV.cells sz _ M;rw[qT,rL,rL]at V;rw[hl];exact V
   refine⟨some ⟨b,o,none⟩,f,vals,by simp,by rw[qT];exact aG.lS m4,?_,by simpa using x,λm n w' I=>?_⟩
   .rw[qT];intro q B;simp only[cD]at B;obtain⟨r,S,rfl⟩:=B;exact m3 r S
   .have O:m*sz<=vals.length:=by rw[x];exact Nat.mul_le_mul_right _ (by simpa using n)
    refine run_firstCells_some w' sz m ⟨b,o,none⟩ _ f (vals.take (m*sz)) (by simp;omega) (λj y t=>?_);rw[vj,cell_of_row w' b _ z T fr (by rw[I];exact W.mem b _ m0)];rw[Bi]at t;split at t
    .exact m5 j y t
    .cases t
 .cases k;cases F;exact⟨none,0,[],rfl,by simpa using aG.nil,by simp,by simp,λm n w' _=>by simp[Builtin.firstCells]⟩
 .cases k;cases F.cA with
  | nl f=>exact⟨none,f,[],rfl,by simpa using aG.nil,by simp,by simp,λm n w' _=>by simp[Builtin.firstCells]⟩
 .cases k;cases F.cA with
  | sle ad f =>
   refine⟨some ad,f,[],rfl,by simpa using aG.nil,by simp,by simp,λm n w' I=>?_⟩;obtain rfl:m=0:=by simpa using n
   simpa using run_firstCells_some (P:=P) w' sz 0 ad 0 f [] (by simp) (by simp)
 .rename_i s g l i;split at k
  .rename_i o R;split at k
   .rename_i N;cases k;have D:=W.bR s g o R;have p:((o.es.drop l).take i).length=i:=by simp;omega
    cases F with
    | dU =>
     rw[p];exact⟨none,0,[],rfl,by simpa using aG.nil,by simp,by simp,λm n w' _=>by simp[Builtin.firstCells]⟩
    | own _ _ _ _ o' b ad c U J e3 e4 e5 e6 =>
     rw[R]at U;cases U;obtain⟨z,T,vals,k1,k2,k3,k4,k5,k6⟩:=D.bU b J;have A:∀ e∈o.es,(AV.cells e).length=o.sz:=λe k=>by rw[AV.bS (by rw[D.jC e k];exact D.pos),D.jC e k]
     by_cases h0:i=0
     .subst h0;refine⟨some ad,c,[],by simp,by simpa using aG.nil,by simp,by simp,λm n w' _=>?_⟩;obtain rfl:m=0:=by simpa using n
      simpa using run_firstCells_some (P:=P) w' sz 0 ad 0 c [] (by simp) (by simp)
     .have L:=e4 (by omega);subst L;have G:sz=o.sz:=by
       have Q:(o.es.drop l).take i≠[]:=by intro h;rw[h]at p;simp at p;omega
       obtain⟨q,B⟩:=Mm _ Q;rw[<- C q B];exact D.jC q (lu (jA B))
      subst G;have E:((o.es.drop l).take i).flatMap AV.cells=((o.es.flatMap AV.cells).drop (l*o.sz)).take (i*o.sz):=by rw[Dh AV.cells o.sz _ i (λe k=>A e (lu k)),Dg AV.cells o.sz _ l A]
      have H:=k2.length;rw[xo AV.cells o.sz _ A]at H;have Y:l*o.sz+i*o.sz<=vals.length:=by rw[H,<- Nat.add_mul];exact kD _ N
      refine⟨some ⟨b,l*o.sz,none⟩,c,(vals.drop (l*o.sz)).take (i*o.sz),by rw[p],by rw[E];exact(k2.drop _).take _,?_,by rw[p];simp;omega,λm n w' I=>?_⟩
      .rw[E];intro q B;exact D.one q (lu (jA B))
      .rw[p]at n;have O:m*o.sz<=i*o.sz:=kD _ n;refine run_firstCells_some w' o.sz m ⟨b,l*o.sz,none⟩ _ c _ (by simp;omega) (λj y t=>?_);rw[vj,cell_of_row w' b _ z T (0,0) (by rw[I];exact k1)];rw[Bi]at t;split at t
       .rw[Bi]at t;split at t
        .rw[Bj]at t;exact k3 _ _ t
        .cases t
       .cases t
    | eN _ _ _ _ _ _ _ J=>exact(vv R J).elim
   .cases k
  .cases k
 .cases k
def NA{c:AV}(h:c.one=true):c.uL.one=true:=by cases c<;>first|rfl|exact h
def Vh{c:AV}{x:Value}(h:aM Z st c x):aM Z st c.uL x:=by
 cases c<;>first|exact h|skip
 cases h;exact .p _ _ (.ry none 0)
theorem K1:∀ {cs:List AV} {xs:List Value},aG Z st cs xs->aG Z st (cs.map AV.uL) xs
 | _,_,.nil=>.nil
 | _,_,.cons _ _ _ _ h b=>.cons _ _ _ _ (Vh h) (K1 b)
theorem Wk(v:AV):v.fL.cells=v.cells.map AV.uL:=by
 cases v with
 | agg b=>exact Qa _
 | p v=>simp only[AV.fL,AV.oM,yI];congr 1
 | _=>rfl
theorem w9(v:AV):v.fL.sz=v.sz:=by
 cases v with
 | agg b=>show(eJ _).sz=_;rw[N0,rL];rfl
 | _=>rfl
theorem EA{v:AV}{x:Value}(h:aM Z st v x):aM Z st v.fL x:=by
 cases v with
 | agg l =>
  cases h with
  | agg _ f i j=>exact aM.eJ (λc b=>by simp at b;obtain⟨q,k,rfl⟩:=b;exact NA (i q k)) (K1 j)
 | nil=>cases h;exact .p _ _ (.ry none 0)
 | _=>exact h
theorem Sl(xs:List AV):(xs.map AV.fL).flatMap AV.cells=(xs.flatMap AV.cells).map AV.uL:=by
 induction xs with
 | nil=>rfl
 | cons x xs b=>simp[jH,b,Wk]
def Wh{t e:TypeId}{x:Operand}{y:bL}{Q O:Option Operand}{L J:Option bL}(h1:P.underlying t=some (.slice e))(B:(P.info? e).isSome=true)
  (hx:dJ x=some y) (bb:(Q=none/\L=none)\/∃ l l',Q=some l/\L=some l'/\dJ l=some l') (av:(O=none/\J=none)\/∃ l l',O=some l/\J=some l'/\dJ l=some l')
  (hs:aN K Z st w a) (f:bX orc st d (.slice (ey P e) y L J)=some (v,st')) :
  Good P K Z st ((do pure (Next.value (<- Instr.sliceAt t (a.eval x) (Q.map a.eval) (O.map a.eval) none)):Sem Next).run P w) v st':=by
 have hr:=fD hx hs;obtain⟨inf,B⟩:=Cc.1 B;have al:inf.size=ey P e:=by simp[ey,Program.cellsOf,B]
 generalize ey P e=sz at *
 generalize a.eval x=X at hr ⊢;have G:∀ n,sN st L 0=some n->(Q.map a.eval=none/\n=0)\/∃ k,Q.map a.eval=some (.int k (n:Int)):=by
  intro n W;obtain⟨rfl,rfl⟩|⟨l,l',rfl,rfl,hl⟩:=bb
  .simp[sN]at W;exact .inl ⟨rfl,W.symm⟩
  .obtain⟨k,hk⟩:=xN W;have:=fD hl hs;rw[hk]at this;exact .inr ⟨k,by simp[this.dE]⟩
 have F:∀ j n,sN st J j=some n->(O.map a.eval=none/\n=j)\/∃ k,O.map a.eval=some (.int k (n:Int)):=by
  intro j n W;obtain⟨rfl,rfl⟩|⟨l,l',rfl,rfl,hl⟩:=av
  .simp[sN]at W;exact .inl ⟨rfl,W.symm⟩
  .obtain⟨k,hk⟩:=xN W;have:=fD hl hs;rw[hk]at this;exact .inr ⟨k,by simp[this.dE]⟩
 have z:∀ (H:Option Addr) (j c l h:Nat),((Q.map a.eval=none/\l=0)\/∃ k,Q.map a.eval=some (.int k (l:Int)))->((O.map a.eval=none/\h=j)\/∃ k,O.map a.eval=some (.int k (h:Int))) ->
   l<=h->h<=j->j<=c->(Instr.sliceAt t (.slice H j c) (Q.map a.eval) (O.map a.eval) none).run P w=.ok (.slice (if c=l then H else H.map (·.add (l*sz))) (h - l) (c - l)) w:=by
  intro H j c l h hl hh aw bo br;have c1:(l:Int)<=(h:Int):=by omega
  have c2:(h:Int)<=(c:Int):=by omega
  obtain⟨el,rfl⟩|⟨kl,el⟩:=hl<;>obtain⟨eh,rfl⟩|⟨kh,eh⟩:=hh<;>
   simp[Instr.sliceAt,Instr.slice,run_underlying h1,Instr.sliceBounds,Instr.sliceBound,asIntOf,el,eh,sizeOf,typeInfo,B,al,aw]<;>omega
 simp only[bX]at f;split at f
 .rename_i l es u E;rw[E]at hr;split at f
  .rename_i h r;split at f
   .rename_i A;simp only[cF,dA]at f;obtain⟨rfl,rfl⟩:=f;have S:=G l u;have R:=F _ h r;cases hr.cA with
    | ry H C =>
     simp at A;obtain⟨rfl,rfl⟩:l=0/\h=0:=by omega
     refine iA (z H 0 C 0 0 S (by simpa using R) (by omega) (by omega) (by omega)) hs ?_;simp only[List.drop_nil,List.take_nil];exact .p _ _ (.ry _ _)
    | sl _ b o C au T fr m aq m0 m1 m2 m3 m4 m5 m6 m7 =>
     refine iA (z _ _ C l h S R A.1 A.2.1 m6) hs ?_;have D:∀ e∈es,(PV.cells e).length=m:=λe f=>by rw[PV.bS (by rw[m2 e f];exact m1),m2 e f]
     have V:((es.drop l).take (h - l)).length=h - l:=by simp;omega
     by_cases h0:h - l=0
     .rw[h0,Iu];exact .p _ _ (.ry _ _)
     .have Y:C≠l:=by omega
      have ap:m=sz:=by
       have ao:es≠[]:=by rintro rfl;simp at A;omega
       obtain⟨q,hq⟩:=List.exists_mem_of_ne_nil _ ao;have:=List.all_eq_true.1 A.2.2.1 q hq;rw[<- m2 q hq];simpa using this
      subst ap;rw[aY Y];have ag:((es.drop l).take (h - l)).flatMap PV.cells=((es.flatMap PV.cells).drop (l*m)).take ((h - l)*m):=by rw[Dh PV.cells m _ _ (λe f=>D e (lu f)),Dg PV.cells m _ l D]
      have:=PRep.sl (M:=Z.M) ((es.drop l).take (h - l)) b (o+l*m) (C - l) au T fr m ((aq.drop (l*m)).take ((h - l)*m)) m0 m1
       (λe f=>m2 e (lu (jA f)))
       (λc A=>by rw[ag]at A;exact m3 c (lu (jA A)))
       (by rw[ag];exact(m4.drop _).take _)
       (λi y hy=>by
        rw[Bi]at hy;split at hy
        .rw[Bj]at hy;rw[Ce];exact m5 _ _ hy
        .cases hy)
       (by rw[V];omega) (by rw[V];omega)
      rw[V]at this;simpa only[Option.map_some,vj]using aM.p _ _ this
   .cases f
  .cases f
 .rename_i l s g af j u E;rw[E]at hr;split at f
  .rename_i h r;split at f
   .rename_i ob ho;split at f
    .rename_i A;simp only[cF,dA]at f;obtain⟨rfl,rfl⟩:=f;have S:=G l u;have R:=F _ h r;cases hr with
     | dU _ _ o' e1 e2 =>
      obtain⟨rfl,rfl⟩:l=0/\h=0:=by omega
      refine iA (z none 0 0 0 0 S R (by omega) (by omega) (by omega)) hs ?_;simpa using aM.dU s g o' e1 e2
     | own _ _ _ _ o' b H c e1 e2 e3 e4 e5 e6 =>
      rw[ho]at e1;cases e1;refine iA (z _ _ c l h S R A.1 A.2.1 e6) hs ?_;have U:∀ I,I=(if c=l then H else H.add (l*sz))->aM Z st (.own s g (af+l) (h - l)) (.slice (some I) (h - l) (c - l)):=by
       intro I N;refine .own s g (af+l) (h - l) ob b I (c - l) ho e2 (λhz=>?_) (λbk=>?_) (by omega) (by omega)
       .obtain⟨rfl,rfl⟩:af=0/\l=0:=by omega
        obtain⟨f1,f2⟩:=e3 rfl;refine⟨?_,by omega⟩;rw[N,f1];split
        .rfl
        .simp[vj]
       .have Y:c≠l:=by omega
        rw[N,aY Y,e4 (by omega),vj,A.2.2.2,wi]
      have:=U _ rfl;by_cases D:c=l
      .simpa[D]using this
      .simpa[D]using this
     | eN _ _ _ _ _ _ _ e2=>exact(vv ho e2).elim
    .cases f
   .cases f
  .cases f
 .rename_i l u E;rw[E]at hr;split at f
  .rename_i h r;split at f
   .rename_i A;simp only[Option.some.injEq,Prod.mk.injEq]at f;obtain⟨rfl,rfl⟩:=f;obtain⟨rfl,rfl⟩:=A;have S:=G 0 u;have R:=F 0 0 r;cases hr;refine iA (z none 0 0 0 0 S R (by omega) (by omega) (by omega)) hs ?_;simpa using aM.nil
   .cases f
  .cases f
 .cases f
end
section
variable {P:Program} {K:Ctx} {Z Z':Cz} {st st':St} {w w':World} {a:Act} {orc:Option bI} {d:Nat} {v:AV}
theorem z37{l:List Value}:∀ (c i:Nat),i<c*l.length->(List.replicate c l).flatten[i]?=l[i % l.length]?
 | 0,i,h=>by simp at h
 | c+1,i,h=>by
  rw[Bh,List.flatten_cons];obtain b|b:=pR i l.length
  .rw[wh b,uI b]
  .rw[qC b,z37 c (i - l.length) (by rw[yL]at h;omega)]
   congr 1
   exact(Nat.mod_eq_sub_mod b).symm
def yd8{l:List Value}(c:Nat):(List.replicate c l).flatten.length=c*l.length:=by simp
def HI(z:Array Value)(c:Nat):(madeCells z (c*z.size)).toList=(List.replicate c z.toList).flatten:=by
 apply DZ;intro i;obtain h|h:=pR i (c*z.size)
 .rw[z37 c i (by omega)];have j:0<z.size:=by
   obtain b|b:=Cb z.size
   .grind
   .omega
  have f:=yH i j;simp[madeCells,h,f]
 .rw[List.getElem?_eq_none (by simp[size_madeCells];omega),List.getElem?_eq_none (by rw[yd8];simpa using h)]
theorem A7(n:Nat)(e:AV):(List.replicate n e).flatMap AV.cells=(List.replicate n e.cells).flatten:=by
 induction n with
 | zero=>rfl
 | succ n b=>simp[Bh,b]
theorem Fp{cs:List AV}{xs:List Value}(h:aG Z st cs xs):∀ n,aG Z st (List.replicate n cs).flatten (List.replicate n xs).flatten
 | 0=>.nil
 | n+1=>by simp[Bh];exact h.append (Fp h n)
theorem JG(v:AV):v.uM.sz=v.sz:=by
 cases v with
 | agg b=>exact w9 (.agg b)
 | _=>rfl
theorem Vg{v:AV}{x:Value}(h:aM Z st v x):aM Z st v.uM x:=by
 cases v with
 | agg b=>exact EA (v:=.agg b) h
 | _=>exact h
def Ud{t e:TypeId}{z:AV}{l c:Operand}{M J:bL}(A:P.underlying t=some (.slice e))(hz:pY P e=some z)(S:P.bytesOf e<=65536)
  (W:dJ l=some M) (C:dJ c=some J) (hs:aN K Z st w a) (u:bX orc st d (.cJ (ey P e) z M J)=some (v,st')) :
  Good P K Z st ((do pure (Next.value (<- Instr.makeSlice t (a.eval l) (a.eval c))):Sem Next).run P w) v st':=by
 have r:=fD W hs;have p:=fD C hs;obtain⟨i,zx,D,G,I⟩:=zB hz;have b:i.size=ey P e:=by simp[ey,Program.cellsOf,D]
 have E:i.bytes<=65536:=by simpa[Program.bytesOf,D]using S
 generalize ey P e=N at *
 simp[bX]at u;split at u
 .rename_i n m Y X;split at u
  .rename_i C;obtain⟨k,h,s,hp⟩:=C;obtain⟨rfl,rfl⟩:=u;obtain⟨k1,Q⟩:=xN Y;obtain⟨k2,R⟩:=xN X;rw[Q]at r;rw[R]at p;rw[r.dE,p.dE];simp[eS]at h;have B:(i.bytes:Int)*(m:Int)<=281474976710656:=by have:i.bytes*m<=65536*2147483648:=mS E h;omega
   have hr:=run_make (P:=P) w t e i zx A D G k1 k2 (n:Int) (m:Int) (by omega) (by omega) B (by omega);have F:=Vg (I Z st);obtain⟨O,y2,y3⟩:=F.cells (by rw[JG];omega);have H:zx.cells.size=i.size:=by have:=O.length;simp at this;rw[this,y2,JG,s,b]
   have f:madeCells zx.cells (m*i.size)=madeCells zx.cells (m*zx.cells.size):=by rw[H]
   have U:=hs.heap.alloc d ⟨N,List.replicate n z.uM⟩ (madeCells zx.cells (m*i.size)) e m (List.replicate n zx.cells.toList).flatten hp
    (λq x=>by rw[(Bg.1 x).2,JG,s])
    (λq x=>by
     rw[A7]at x;obtain⟨l,A,L⟩:=Ir.1 x;rw[(Bg.1 A).2]at L;exact y3 q L)
    (by rw[A7];exact Fp O n)
    (by
     have o:(madeCells zx.cells (m*i.size)).toList=(List.replicate n zx.cells.toList).flatten++(List.replicate (m - n) zx.cells.toList).flatten:=by
      rw[f,HI,<- List.flatten_append,List.replicate_append_replicate]
      grind
     intro j y V;have:=CJ o j y V;simpa using this)
    (by rw[size_madeCells,b]) (by simpa using k) (by simp[maxLen];omega)
   refine va hr U ?_ (cO.alloc _ _ _ _ _ _);refine .own d _ 0 n ⟨N,List.replicate n z.uM⟩ w.heap.size _ m (by rw[kY,aW ⟨rfl,rfl⟩]) (by simp[Cz.bO]) (λ_=>⟨rfl,by simp[Cz.bO]⟩) (λ_=>by simp) (by simp) k
  .grind
 .grind
theorem WH{mx:Bool}:∀ {vs:List AV} {xs:List Value} {r:PV},aG Z st vs xs->xE mx vs=some r ->
  ∃ k n,r=.int k n/\((if mx then Builtin.max_ #[] 0 xs.toArray else Builtin.min_ #[] 0 xs.toArray)).run P w=.ok (.int k n) w
 | [],_,_,_,h=>by simp[xE]at h
 | u::vs,_,r,.cons _ x _ xs A z,h=>by
  unfold xE at h;split at h
  .rename_i k a H e;cases e;rw[A.dE]
   have o:∀ (vs:List AV) (xs:List Value) (a:Int) (r:PV),aG Z st vs xs ->
     vs.foldlM (λi v=>match i,v with
      | PV.int k a,.p (.int s b)=>if k=s then some (PV.int k (if mx then(if b>a then b else a)else(if b<a then b else a)))else none
      | _,_=>none) (PV.int k a)=some r->∃ n,r=.int k n/\(xs.foldlM (if mx then Builtin.max2 else Builtin.min2) (.int k a)).run P w=.ok (.int k n) w:=by
    intro vs
    induction vs with
    | nil=>intro xs a r l h;cases l;simp at h;subst h;exact⟨a,rfl,by simp⟩
    | cons u vs C =>
     intro xs a r l h;cases l with
     | cons _ y _ D B m =>
      simp only[List.foldlM_cons,Option.bind_eq_bind]at h;split at h
      .rename_i G E s b t;cases t;split at h
       .rename_i F;obtain⟨n,j,f⟩:=C D _ r m h;refine⟨n,j,?_⟩;rw[B.dE];cases mx<;>simp_all[Builtin.max2,Builtin.min2]
       .simp at h
      .simp at h
   obtain⟨n,j,f⟩:=o vs xs a r z h;refine⟨k,n,j,?_⟩;cases mx<;>simp_all[Builtin.max_,Builtin.min_]
  .cases h
def Pz{mx:Bool}{args:Array TypeId}{ty:TypeId}{xs:Array Operand}{f:List bL}(j:oP xs.toList=some f)(hs:aN K Z st w a){r:PV}
  (h:xE mx (f.map st.ev)=some r) :
  Good P K Z st ((do pure (Next.value (<- (if mx then Builtin.max_ args ty (xs.map a.eval)else Builtin.min_ args ty (xs.map a.eval)))):Sem Next).run P w) (.p r) st:=by
 have i:=BC j hs;obtain⟨k,n,rfl,b⟩:=WH (P:=P) (w:=w) i h;refine iA ?_ hs (.p _ _ (.int k n));rw[<- b];have e:(List.map a.eval xs.toList).toArray=xs.map a.eval:=by simp[<- Array.toList_map]
 rw[e];cases mx<;>rfl
theorem Qs(off:Nat):∀ (vs:List Value) (j:Nat) (cells:Array Value),off+j+vs.length<=cells.size ->
  ((vs.zipIdx j).foldl (λcs (c,j)=>cs.setIfInBounds (off+j) c) cells).toList=cells.toList.take (off+j)++vs++cells.toList.drop (off+j+vs.length)
 | [],j,cells,_=>by simp
 | v::vs,j,cells,h=>by
  simp;simp at h;rw[Qs off vs (j+1) _ (by simp;omega)];have e:=list_seg_step cells.toList (off+j) v vs (by omega)
  grind
def Sj{place:Nat->Option (Nat × Nat)}{cells:Array Value}{i off sz:Nat}{x:Value}{r:List (Nat × Value)}(hp:place i=some (off,sz))(f:x.cells.size=sz)(b:off+sz<=cells.size) :
  ∃ cs:Array Value,cs.toList=cells.toList.take off++x.cells.toList++cells.toList.drop (off+sz)/\Instr.fill place cells ((i,x)::r)=Instr.fill place cs r:=by
 refine⟨x.cells.zipIdx.foldl (λcs (c,j)=>cs.setIfInBounds (off+j) c) cells,?_,?_⟩
 .rw[<- Array.foldl_toList];have:=Qs off x.cells.toList 0 cells (by simp;omega)
  grind
 .simp[Instr.fill]
  grind
theorem LC{C:List (Nat × Nat)}{place:Nat->Option (Nat × Nat)}(j:∀ i x,C[i]?=some x->place i=some x):∀ {parts:List (Nat × Operand)} {l:List (Nat × Nat × bL)} {zero cs:List AV} {cells:Array Value},AU C parts=some l->aN K Z st w a ->
  aG Z st zero cells.toList->(∀ c∈zero,c.one=true)->zU zero (l.map λ(o,s,x)=>(o,s,st.ev x))=some cs ->
  ∃ b:Array Value,Instr.fill place cells (parts.map λ(i,x)=>(i,a.eval x))=some b/\aG Z st cs b.toList/\∀ c∈cs,c.one=true
 | [],l,zero,cs,cells,h,t,k,n,f=>by
  simp[AU]at h;subst h;simp[zU]at f;subst f;exact⟨cells,by simp[Instr.fill],k,n⟩
 | (i,x)::parts,l,zero,cs,cells,h,t,k,n,f=>by
  simp[AU]at h;split at h
  .rename_i o s y N F H p;cases h;simp only[jH,zU]at f;split at f
   .rename_i B;have G:=fD H t;obtain⟨D,O,Q⟩:=G.cells (by omega);have A:=k.length;have u:=D.length;simp at A u;obtain⟨m,E,I⟩:=Sj (place:=place) (cells:=cells) (i:=i) (off:=o) (sz:=s) (x:=a.eval x) (r:=parts.map λ(i,x)=>(i,a.eval x)) (j _ _ F) (by omega) (by omega);have z:aG Z st (zero.take o++(st.ev y).cells++zero.drop (o+s)) m.toList:=by rw[E];exact((k.take o).append D).append (k.drop (o+s))
    obtain⟨b,J,L,M⟩:=LC j p t z (λc B=>by
     obtain h|h:=dT.1 B
     .grind
     .exact n c (lu h)) f
    grind
   .grind
  .grind
def V'{t:TypeId}{o:Array Field}{parts:Array (Nat × Operand)}{n:List (Nat × Nat)}{z:AV}{l:List (Nat × Nat × bL)}(H:P.underlying t=some (.struct o))
  (A:(o.toList.mapM λ(f:Field)=>(P.info? f.type).map λi=>(f.offset,i.size))=some n) (B:pY P t=some z) (m:0<z.sz) (y:AU n parts.toList=some l) (hs:aN K Z st w a)
  (j:bX orc st d (.build z.cells l)=some (v,st')) :
  Good P K Z st ((do pure (Next.value (<- Instr.build t (parts.map λ(i,x)=>(i,a.eval x)))):Sem Next).run P w) v st':=by
 obtain⟨i,zx,I,C,k⟩:=zB B;simp[bX]at j;split at j
 .rename_i F u;obtain⟨rfl,rfl⟩:=j;obtain⟨D,J,E⟩:=(k Z st).cells m;obtain⟨b,G,p,r⟩:=LC (place:=(n.toArray[·]?)) (λi x h=>by simpa using h) (cells:=zx.cells) y hs D E u;have s:P.built t (parts.map λ(i,x)=>(i,a.eval x)).toList=some b:=by
   unfold Program.built
   simp_all
  exact iA (run_build w t _ b s) hs (by simpa using aM.eJ r p)
 .grind
def Xt{t:TypeId}{n:Nat}{e:TypeId}{parts:Array (Nat × Operand)}{f:TypeInfo}{z:AV}{l:List (Nat × Nat × bL)}(I:P.underlying t=some (.array n e))
  (B:P.info? e=some f) (C:pY P t=some z) (p:0<z.sz) (A:AU ((List.range n).map λi=>(i*f.size,f.size)) parts.toList=some l) (hs:aN K Z st w a)
  (m:bX orc st d (.build z.cells l)=some (v,st')) :
  Good P K Z st ((do pure (Next.value (<- Instr.build t (parts.map λ(i,x)=>(i,a.eval x)))):Sem Next).run P w) v st':=by
 obtain⟨i,zx,J,D,o⟩:=zB C;simp[bX]at m;split at m
 .rename_i G y;obtain⟨rfl,rfl⟩:=m;obtain⟨E,L,F⟩:=(o Z st).cells p;obtain⟨b,H,r,s⟩:=LC (place:=λi=>some (i*f.size,f.size)) (λi x h=>by
   simp at h;obtain⟨j,k,rfl⟩:=h;have:=iR.1 k;obtain⟨_,k⟩:=this;simp at k;simp[k]) (cells:=zx.cells) A hs E F y
  have u:P.built t (parts.map λ(i,x)=>(i,a.eval x)).toList=some b:=by
   unfold Program.built
   simp_all
  exact iA (run_build w t _ b u) hs (by simpa using aM.eJ s r)
 .grind
theorem QJ{sz:Nat}(hp:0<sz):∀ {parts:List (Nat × Operand)} {l:List (Nat × bL)} {es f:List AV} {cells:Array Value},Dd parts=some l->aN K Z st w a ->
  aG Z st (es.flatMap AV.cells) cells.toList->(∀ e∈es,e.sz=sz)->(∀ c∈es.flatMap AV.cells,c.one=true)->zP es sz (l.map λ(i,x)=>(i,(st.ev x).fL))=some f ->
  ∃ b:Array Value,Instr.fill (λi=>some (i*sz,sz)) cells (parts.map λ(i,x)=>(i,a.eval x))=some b/\aG Z st (f.flatMap AV.cells) b.toList/\(∀ e∈f,e.sz=sz) /\
   (∀ c∈f.flatMap AV.cells,c.one=true)/\f.length=es.length
 | [],l,es,f,cells,h,B,o,s,z,j=>by
  simp[Dd]at h;subst h;simp[zP]at j;subst j;exact⟨cells,by simp[Instr.fill],o,s,z,rfl⟩
 | (i,x)::parts,l,es,f,cells,h,B,o,s,z,j=>by
  simp[Dd]at h;split at h
  .rename_i y V M A;cases h;simp only[jH,zP]at j;split at j
   .rename_i t;obtain⟨C,n⟩:=t;have L:=EA (fD M B);obtain⟨G,W,X⟩:=L.cells (by omega);have k:∀ e∈es,(AV.cells e).length=sz:=λe F=>by rw[AV.bS (by rw[s e F];exact hp),s e F]
    have p:=o.length;have D:=G.length;rw[xo AV.cells sz es k]at p;simp at p D;have I:i*sz+sz<=es.length*sz:=by rw[<- Nat.succ_mul];exact kD _ n
    obtain⟨u,H,N⟩:=Sj (place:=λi=>some (i*sz,sz)) (cells:=cells) (i:=i) (off:=i*sz) (sz:=sz) (x:=a.eval x) (r:=parts.map λ(i,x)=>(i,a.eval x)) rfl (by omega) (by omega);have m:=J0 AV.cells sz es i (st.ev y).fL k n;have E:aG Z st ((es.set i (st.ev y).fL).flatMap AV.cells) u.toList:=by rw[H,m];exact((o.take _).append G).append (o.drop _)
    obtain⟨b,O,Q,R,S,U⟩:=QJ hp A B E (λq J=>by
      obtain h|h:=DY J
      .grind
      .rw[h];exact C)
     (λc t=>by
      rw[m]at t;obtain h|h:=dT.1 t
      .grind
      .exact z c (lu h)) j
    grind
   .grind
  .grind
def Xs{t e:TypeId}{n:Nat}{parts:Array (Nat × Operand)}{z:AV}{l:List (Nat × bL)}(p:P.underlying t=some (.slice e))(hz:pY P e=some z)(hl:Dd parts.toList=some l)(hs:aN K Z st w a)
  (h:bX orc st d (.b0 (ey P e) z n l)=some (v,st')) :
  Good P K Z st ((do pure (Next.value (<- Instr.buildSlice t n (parts.map λ(i,x)=>(i,a.eval x)))):Sem Next).run P w) v st':=by
 obtain⟨i,zx,G,L,N⟩:=zB hz;have j:i.size=ey P e:=by simp[ey,Program.cellsOf,G]
 generalize ey P e=y at *
 simp only[bX]at h;split at h
 .rename_i X;obtain⟨u,B,ad⟩:=X;split at h
  .rename_i A Y;obtain⟨rfl,rfl⟩:=h;have J:=EA (N Z st);obtain⟨R,y2,y3⟩:=J.cells (by rw[w9];omega);have M:zx.cells.size=i.size:=by have:=R.length;simp at this;rw[this,y2,w9,u,j]
   have m:madeCells zx.cells (n*i.size)=madeCells zx.cells (n*zx.cells.size):=by rw[M]
   have k:aG Z st ((List.replicate n z.fL).flatMap AV.cells) (madeCells zx.cells (n*i.size)).toList:=by rw[m,HI,A7];exact Fp R n
   obtain⟨b,f1,O,E,V,W⟩:=QJ B hl hs k (λq C=>by rw[(Bg.1 C).2,w9,u])
    (λq C=>by
     rw[A7]at C;obtain⟨l,p,Q⟩:=Ir.1 C;rw[(Bg.1 p).2]at Q;exact y3 q Q) Y
   have I:b.size=n*y:=by
    have p:=O.length;rw[xo AV.cells y A (λe h=>by rw[AV.bS (by rw[E e h];exact B),E e h])]at p
    grind
   have r:A.length=n:=by simpa using W
   have hh:=hs.heap.alloc d ⟨y,A⟩ b e n b.toList B E V O (by simp) I (by simp[r])
    (by simp[maxLen];have:n<=n*y:=Iq n B;omega)
   have s:(Instr.buildSlice t n (parts.map λ(i,x)=>(i,a.eval x))).run P w=.ok (.slice (some ⟨w.heap.size,0,none⟩) n n) (w.alloc (.cells b e)):=by
    have f:Instr.fill (λo=>some (o*i.size,i.size)) (madeCells zx.cells (n*i.size)) (parts.map λ(i,x)=>(i,a.eval x)).toList=some b:=by
     simp_all
    have H:¬ (16777216<n*i.size):=by rw[j];omega
    by_cases F:n*i.size=0
    .rw[F]at f;have S:(madeCells zx.cells 0) = #[]:=by simp[madeCells]
     rw[S]at f;have D:Instr.fill (λo=>some (o*i.size,i.size)) #[] (List.map (λx=>(x.fst,a.eval x.snd)) parts.toList)=some b:=by
      grind
     have U:Array.map (λ(_:Nat)=>(default:Value)) (Array.range 0) = #[]:=by simp
     simp[Instr.buildSlice,run_underlying p,sizeOf,typeInfo,G,F,newRow,U,D]
    .simp only[madeCells]at f;simp only[Instr.buildSlice,run_underlying p,sizeOf,typeInfo,zeroValue,G,L,F,H,newRow,mT,qB,run_program,oI,fQ,Nat.reducePow,gt_iff_lt,f,run_newObj];simp
   refine va s hh ?_ (cO.alloc _ _ _ _ _ _);exact .own d _ 0 n ⟨y,A⟩ w.heap.size _ n (by rw[kY,aW ⟨rfl,rfl⟩]) (by simp[Cz.bO]) (λ_=>⟨rfl,by simp[Cz.bO]⟩) (λ_=>by simp) (by simp[r]) (dK _)
  .cases h
 .cases h
def QT{f:BinOp}{t:TypeId}{x y:Operand}{ad b:Option Addr}{n c i h:Nat}:eqGuard f t x y (.slice ad n c) (.slice b i h)=pure ():=by cases f<;>rfl
def We{u:BinOp}{t e:TypeId}{x y:Operand}{C D:bL}{o:c7}(N:P.underlying t=some (.slice e))(O:dJ x=some C)(Q:dJ y=some D)(E:BA u C D=some o)(hs:aN K Z st w a)
  (j:bX orc st d o=some (v,st')) :
  Good P K Z st ((do pure (Next.value (<- (do eqGuard u t x y (a.eval x) (a.eval y);binOp u t (a.eval x) (a.eval y)))):Sem Next).run P w) v st':=by
 have m:=fD O hs;have z:=fD Q hs;obtain⟨f,rfl,rfl,B⟩:∃ f,D=.c .nil/\o=.iI f C/\((u=.eql/\f=false)\/(u=.neq/\f=true)):=by
  unfold BA at E;split at E
  .grind
  .grind
  .grind
 have J:a.eval y=.slice none 0 0:=by generalize a.eval y=Y at z;cases z;rfl
 rw[J];have A:∀ (k:Option Addr) (n c:Nat),(Op.equal t (.slice k n c) (.slice none 0 0)).run P w=.ok k.isNone w:=by intro k n c;unfold Op.equal Op.maxDepth;rw[Op.equalIn.eq_def];cases k<;>simp[run_underlying N]
 have l:∀ (k:Option Addr) (n c:Nat),a.eval x=.slice k n c ->
   Good P K Z st ((do pure (Next.value (<- (do eqGuard u t x y (a.eval x) (.slice none 0 0);binOp u t (a.eval x) (.slice none 0 0)))):Sem Next).run P w) (.p (.bool (if f then !k.isNone else k.isNone))) st:=by
  intro k n c I;rw[I];have L:(do eqGuard u t x y (.slice k n c) (.slice none 0 0);binOp u t (.slice k n c) (.slice none 0 0):Sem Value).run P w=.ok (.bool (if f then !k.isNone else k.isNone)) w:=by
   obtain⟨rfl,rfl⟩|⟨rfl,rfl⟩:=B
   .simp[QT,binOp,A]
   .simp[QT,binOp,A]
  exact iA L hs (.p _ _ (.bool _))
 simp only[bX]at j;generalize h:a.eval x=X at m;split at j
 .rename_i i;rw[i]at m;cases m;simp only[Option.some.injEq,Prod.mk.injEq]at j;obtain⟨rfl,rfl⟩:=j;have:=l none 0 0 h;cases f<;>simpa[h]using this
 .rename_i i;rw[i]at m;cases m.cA with
  | nl r =>
   simp only[Option.some.injEq,Prod.mk.injEq]at j;obtain⟨rfl,rfl⟩:=j;have:=l none 0 r h;cases f<;>simpa[h]using this
 .rename_i i;rw[i]at m;cases m.cA with
  | sle k r =>
   simp only[Option.some.injEq,Prod.mk.injEq]at j;obtain⟨rfl,rfl⟩:=j;have:=l (some k) 0 r h;cases f<;>simpa[h]using this
 .rename_i i;rw[i]at m;simp only[cF,dA]at j;obtain⟨rfl,rfl⟩:=j;cases m.cA with
  | sl _ b o r G T fr U F m0 m1 m2 m3 m4 m5 m6 =>
   have:=l _ _ _ h;cases f<;>simpa[h]using this
 .rename_i s g S R i;rw[i]at m;split at j
  .rename_i o M;split at j
   .rename_i hl;simp only[cF,dA]at j;obtain⟨rfl,rfl⟩:=j;cases m with
    | dU=>omega
    | own _ _ _ _ o' b k c V W e3 e4 e5 e6 =>
     have:=l _ _ _ h;cases f<;>simpa[h]using this
    | eN _ _ _ _ _ _ _ H=>exact(vv M H).elim
   .cases j
  .cases j
 .cases j
def ZH{args:Array TypeId}{ty:TypeId}{x:Operand}{y:bL}(k:uE (args[0]?.bind P.underlying)=true)(s:dJ x=some y)(hs:aN K Z st w a)(h:bX orc st d (.cap y)=some (v,st')) :
  Good P K Z st ((do pure (Next.value (<- Builtin.cap_ args ty #[a.eval x])):Sem Next).run P w) v st':=by
 have j:=fD s hs;obtain⟨t,e,l,m⟩:∃ t e,args[0]?=some t/\P.underlying t=some (.slice e):=by
  cases f:args[0]? with
  | none=>simp[f,uE]at k
  | some t =>
   cases o:P.underlying t with
   | none=>simp[f,o,uE]at k
   | some d=>cases d<;>simp[f,o,uE]at k;exact⟨t,_,rfl,o⟩
 have b:∀ r n c,(Builtin.cap_ args ty #[.slice r n c]).run P w=.ok (.int .i64 c) w:=by simp[Builtin.cap_,l,run_underlying m,goInt]
 generalize a.eval x=X at j ⊢;simp[bX]at h;split at h
 .rename_i i;rw[i]at j;cases j;obtain⟨rfl,rfl⟩:=h;exact iA (b _ _ _) hs (.p _ _ (.int _ _))
 .grind
def bC.vH(h:bC K Z st w){s g:Nat}{o:bD}(j:st.obj s g=some o):bC K Z (st.setObj s g o) w/\cO Z st Z (st.setObj s g o):=by
 have hz:=cO.setObj Z st s g o o j rfl rfl;have f:∀ {s' g':Nat} {o':bD},(st.setObj s g o).obj s' g'=some o'->st.obj s' g'=some o':=by
  intro s' g' o' k;rw[vp _ _ _ _ _ _ (nO j)]at k;split at k
  .grind
  .omega
 exact⟨⟨λs' g' o' i=>(h.bR s' g' o' (f i)).later hz rfl rfl (λ_ _=>rfl),λ_ _ _ _ _ _ b a1 l=>h.inj _ _ _ _ _ _ b (f a1) (f l),h.mem,λ_ _ _ b a1=>h.sep _ _ _ b (f a1),λ_ _ _ b a1=>h.own _ _ _ b (f a1),h.m0,h.eE,h.keep⟩,hz⟩
def Wa{A:Array TypeId}{t ty e:TypeId}{x:Operand}{x':bL}{z:AV}(hA:A[0]?=some t)(ht:P.underlying t=some (.slice e))(hz:pY P e=some z)(hx:dJ x=some x')(hs:aN K Z st w a)
  (F:bX orc st d (.clear (ey P e) z x')=some (v,st')) :
  Good P K Z st ((do pure (Next.value (<- Builtin.clear_ A ty #[a.eval x])):Sem Next).run P w) v st':=by
 have W:=fD hx hs;obtain⟨i,zx,hi,av,bb⟩:=zB hz;generalize ey P e=D at *
 generalize a.eval x=X at W ⊢;have B:∀ G c,(Builtin.clear_ A ty #[.slice G 0 c]).run P w=.ok (.tuple #[]) w:=by intro G c;cases G<;>simp[Builtin.clear_,hA,run_underlying ht]
 simp only[bX]at F;split at F
 .rename_i O;rw[O]at W;cases W;obtain⟨rfl,rfl⟩:=F;exact iA (B _ _) hs (.bP _ _ .nil)
 .rename_i s g j f O;rw[O]at W;split at F
  .rename_i o Q;split at F
   .rename_i hc;obtain⟨ap,u,R⟩:=hc;obtain⟨rfl,rfl⟩:=F;have E:=hs.heap.bR s g o Q;have M:∀ es,es=o.es->∀ G c,X=.slice G 0 c->Good P K Z st ((do pure (Next.value (<- Builtin.clear_ A ty #[X])):Sem Next).run P w) (.bP []) (st.setObj s g ⟨o.sz,es⟩):=by rintro es rfl G c rfl;exact va (B G c) (hs.heap.vH Q).1 (.bP _ _ .nil) (hs.heap.vH Q).2
    cases W with
    | dU _ _ o' e1 e2=>exact M _ (by simp) _ _ rfl
    | eN _ _ _ _ _ _ _ S=>exact(vv Q S).elim
    | own _ _ _ _ o' b G c e1 e2 e3 e4 e5 e6 =>
     rw[Q]at e1;cases e1;obtain h0|h0:=Cb f
     .subst h0;exact M _ (by simp) _ _ rfl
     .have al:=e4 h0;subst al;obtain⟨k,T,p,k1,k2,k3,k4,k5,k6⟩:=E.bU b e2;have aq:=EA (bb Z st);obtain⟨y1,y2,y3⟩:=aq.cells (by rw[w9,R,<- u];exact E.pos);have aw:zx.cells.size=D:=by have:=y1.length;simp at this;rw[this,y2,w9,R]
      have N:∀ q∈o.es,(AV.cells q).length=o.sz:=λq C=>by rw[AV.bS (by rw[E.jC q C];exact E.pos),E.jC q C]
      have ag:=k2.length;rw[xo AV.cells o.sz o.es N]at ag;have au:(Builtin.zeroCells zx.cells f).toList=(List.replicate f zx.cells.toList).flatten:=HI zx.cells f;have J:aG Z st ((List.replicate f z.fL).flatMap AV.cells) (Builtin.zeroCells zx.cells f).toList:=by rw[au,A7];exact Fp y1 f
      have r:(Builtin.zeroCells zx.cells f).toList.length=f*D:=by simp[Builtin.zeroCells,aw]
      have I:∀ q∈(List.replicate f z.fL).flatMap AV.cells,q.one=true:=λq C=>by rw[A7]at C;obtain⟨l,h1,S⟩:=Ir.1 C;rw[(Bg.1 h1).2]at S;exact y3 q S
      obtain⟨L,y⟩:=LY k3;have H:k.size=(p++L).length:=by rw[<- y];simp
      have bk:j*o.sz+f*D<=p.length:=by rw[ag,u,<- Nat.add_mul];exact kD _ ap
      have af:=run_storeCells_at P b (j*o.sz) T (Builtin.zeroCells zx.cells f).toList 0 k w k1 (by rw[H,r];simp;omega) (HN J I);simp only[vB,r]at af;have Y:(Builtin.clear_ A ty #[.slice (some ⟨b,j*o.sz,none⟩) f c]).run P w=.ok (.tuple #[]) (w.setRow b (k.toList.take (j*o.sz)++(Builtin.zeroCells zx.cells f).toList++k.toList.drop (j*o.sz+f*D)).toArray):=by obtain⟨m,rfl⟩:∃ m,f=m+1:=⟨f - 1,by omega⟩;simp[Builtin.clear_,hA,run_underlying ht,zeroValue,typeInfo,hi,av,af]
      have V:k.toList.take (j*o.sz)++(Builtin.zeroCells zx.cells f).toList++k.toList.drop (j*o.sz+f*D)=(p.take (j*o.sz)++(Builtin.zeroCells zx.cells f).toList++p.drop (j*o.sz+f*D))++L:=by rw[y,D0 (by omega),FK (by omega)];simp[uK]
      have U:(o.es.take j++List.replicate f z.fL++o.es.drop (j+f)).flatMap AV.cells=(o.es.flatMap AV.cells).take (j*o.sz)++(List.replicate f z.fL).flatMap AV.cells++(o.es.flatMap AV.cells).drop (j*o.sz+f*D):=by have h1:∀ n,(o.es.take n).flatMap AV.cells=(o.es.flatMap AV.cells).take (n*o.sz):=λn=>Dh AV.cells o.sz o.es n N;have S:∀ n,(o.es.drop n).flatMap AV.cells=(o.es.flatMap AV.cells).drop (n*o.sz):=λn=>Dg AV.cells o.sz o.es n N;rw[Bk,Bk,h1,S,u,wi]
      have hh:=hs.heap.setObj Q e2 (o.es.take j++List.replicate f z.fL++o.es.drop (j+f)) (k.toList.take (j*o.sz)++(Builtin.zeroCells zx.cells f).toList++k.toList.drop (j*o.sz+f*D)).toArray
       (p.take (j*o.sz)++(Builtin.zeroCells zx.cells f).toList++p.drop (j*o.sz+f*D))
       (λq C=>by
        obtain h|h:=dT.1 C
        .obtain h|h:=dT.1 h
         .exact E.jC q (jA h)
         .rw[(Bg.1 h).2,w9,R,u]
        .exact E.jC q (lu h))
       (λq C=>by
        rw[U]at C;obtain h|h:=dT.1 C
        .obtain h|h:=dT.1 h
         .exact E.one q (jA h)
         .exact I q h
        .exact E.one q (lu h))
       (by simp;omega)
       (by rw[U];exact((k2.take _).append J).append (k2.drop _))
       (CJ V)
       (by
        have ao:k.toList.length=k.size:=by simp
        have:(k.toList.take (j*o.sz)++(Builtin.zeroCells zx.cells f).toList++k.toList.drop (j*o.sz+f*D)).length=k.size:=by simp only[gL,iB,lp,ao,r];rw[H];simp;omega
        simp only[Is,this];exact k4)
      exact va Y hh (.bP _ _ .nil) (cO.setObj Z st s g o _ Q rfl (by simp;omega))
   .cases F
  .cases F
 .cases F
end
end Go.Ab
