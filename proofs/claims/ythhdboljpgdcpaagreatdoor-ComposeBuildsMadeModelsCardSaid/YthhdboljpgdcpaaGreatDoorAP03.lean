/- Lemmas for the law ComposeBuildsMadeModels, part 3. No conditions. -/
import Derived.Test.YthhdboljpgdcpaaGreatDoorAP02
import Derived.IntWalk
set_option maxRecDepth 100000
set_option maxHeartbeats 4000000
set_option linter.all false
namespace Go.Ab
section
variable {P:Program} {K:Ctx} {Z Z':Cz} {st st':St} {w w':World} {a:Act} {orc:Option bI} {d:Nat} {v:AV}
theorem Ur{t:TypeId}(h:uE (P.underlying t)=true):∃ e,P.underlying t=some (.slice e):=by
 cases b:P.underlying t with
 | none=>simp[b,uE]at h
 | some d=>cases d<;>simp[b,uE]at h;exact⟨_,rfl⟩
def UC{A:Array TypeId}{t u ty e k:TypeId}{i:TypeInfo}(m:A[0]?=some t)(o:A[1]?=some u)(s:P.underlying t=some (.slice e))(hu:P.underlying u=some (.slice k))(r:P.info? e=some i)
  {g sLen sCap n c:Nat} {ad:Option Addr} {cur:Array Value} {T:TypeId} {b:List Value} (x:(Builtin.firstCells i.size n (.slice ad n c)).run P w=.ok b.toArray w)
  (f:sLen+n<=sCap) (p:w.heap[g]?=some (.cells cur T (0,0))) (j:sLen*i.size+b.length<=cur.size) (l:∀ v∈b,v.oneCell'=true) :
  (Builtin.append_ A ty #[.slice (some ⟨g,0,none⟩) sLen sCap,.slice ad n c]).run P w =
   .ok (.slice (some ⟨g,0,none⟩) (sLen+n) sCap) (w.setRow g (cur.toList.take (sLen*i.size)++b++cur.toList.drop (sLen*i.size+b.length)).toArray):=by
 have h:=run_storeCells_at P g (sLen*i.size) T b 0 cur w p (by omega) l;simp[Builtin.append_,m,o,run_underlying s,run_underlying hu,sizeOf,typeInfo,r,Builtin.lenOf,f,x,vj,h]
def QL{A:Array TypeId}{t u ty e b:TypeId}{i:TypeInfo}(f:A[0]?=some t)(h:A[1]?=some u)(k:P.underlying t=some (.slice e))(hu:P.underlying u=some (.slice b))(j:P.info? e=some i)
  {c:Nat} {ad:Option Addr} (l:(Builtin.firstCells i.size 0 (.slice ad 0 c)).run P w=.ok #[] w) :
  (Builtin.append_ A ty #[.slice none 0 0,.slice ad 0 c]).run P w=.ok (.slice none 0 0) w:=by
 simp[Builtin.append_,f,h,run_underlying k,run_underlying hu,sizeOf,typeInfo,j,Builtin.lenOf,l]
def UB{A:Array TypeId}{t u ty e m:TypeId}{i:TypeInfo}{z:Value}(p:A[0]?=some t)(r:A[1]?=some u)(B:P.underlying t=some (.slice e))(hu:P.underlying u=some (.slice m))(x:P.info? e=some i)(D:i.zero=some z)
  {sLen sCap n c:Nat} {base ad:Option Addr} {old b:List Value} (C:(Builtin.firstCells i.size n (.slice ad n c)).run P w.drew=.ok b.toArray w.drew)
  (y:(Builtin.firstCells i.size sLen (.slice base sLen sCap)).run P w.drew=.ok old.toArray w.drew) (h:sCap<sLen+n) (s:i.bytes<=65536) (l:sLen+n<=eS) :
  (Builtin.append_ A ty #[.slice base sLen sCap,.slice ad n c]).run P w =
   .ok (.slice (some ⟨w.heap.size,0,none⟩) (sLen+n) (grownCap w (sLen+n) sCap e))
    (w.drew.alloc (.cells (old.toArray++b.toArray++Builtin.zeroCells z.cells (grownCap w (sLen+n) sCap e - (sLen+n))) e)):=by
 simp[eS]at l;have E:¬ (sLen+n<=sCap):=by omega
 have k:¬ (9223372036854775807<((sLen:Int)+(n:Int))):=by omega
 have f:(sLen+n)*i.bytes<=140737488355328:=dP (mS l s) (by decide);have o:=growslice_fits (old:=sCap) h f;have j:¬ (281474976710656<Builtin.nextslicecap (sLen+n) sCap*i.bytes):=by omega
 simp[Builtin.append_,p,r,run_underlying B,run_underlying hu,sizeOf,typeInfo,zeroValue,x,D,Builtin.lenOf,Question.forced,C,y,newRow,grownCap]
 grind
def Q4(z:Array Value)(n:Nat):(Builtin.zeroCells z n).size=n*z.size:=by simp[Builtin.zeroCells]
def Lt{A:Array TypeId}{t u ty e J:TypeId}{i:TypeInfo}{z:Value}(M:A[0]?=some t)(N:A[1]?=some u)(X:P.underlying t=some (.slice e))(hu:P.underlying u=some (.slice J))(S:P.info? e=some i)(hz:i.zero=some z)
  (O:i.bytes<=65536) (D:z.cells.size=i.size) (hp:0<i.size)
  {sLen sCap n c:Nat} {base ad:Option Addr} {old b:List Value} {es xs:List AV} {st:St} (R:bC K Z st w)
  (Y:(Builtin.firstCells i.size n (.slice ad n c)).run P w.drew=.ok b.toArray w.drew) (V:(Builtin.firstCells i.size sLen (.slice base sLen sCap)).run P w.drew=.ok old.toArray w.drew)
  (B:sCap<sLen+n) (G:sLen+n<=eS) (E:aG Z st (es.flatMap AV.cells) old) (F:aG Z st (xs.flatMap AV.cells) b) (l:∀ q∈es++xs,q.sz=i.size) (L:∀ q∈(es++xs).flatMap AV.cells,q.one=true)
  (m:es.length=sLen) (o:xs.length=n) :
  ∃ w' Z' x,(Builtin.append_ A ty #[.slice base sLen sCap,.slice ad n c]).run P w=.ok x w'/\bC K Z' (st.alloc d ⟨i.size,es++xs⟩) w' /\
   aM Z' (st.alloc d ⟨i.size,es++xs⟩) (.own d (st.site d).length 0 (sLen+n)) x/\cO Z st Z' (st.alloc d ⟨i.size,es++xs⟩):=by
 have W:=UB (P:=P) (w:=w) (ty:=ty) M N X hu S hz Y V B O G;have r:=grownCap_ge w (sLen+n) sCap e;have k:sLen+n<=maxLen:=by simp only[eS]at G;simp[maxLen];omega
 have s:=grownCap_le_maxLen w (sLen+n) sCap e k;generalize grownCap w (sLen+n) sCap e=C at *
 have h:∀ q∈es++xs,(AV.cells q).length=i.size:=λq f=>by rw[AV.bS (by rw[l q f];exact hp),l q f]
 have H:=E.length;have I:=F.length;rw[xo AV.cells i.size es (λq f=>h q (dT.2 (.inl f))),m]at H;rw[xo AV.cells i.size xs (λq f=>h q (dT.2 (.inr f))),o]at I;have Q:=R.drew
 have p:=Q.alloc d ⟨i.size,es++xs⟩ (old.toArray++b.toArray++Builtin.zeroCells z.cells (C - (sLen+n))) e C (old++b) hp l L
  (by rw[Bk];exact E.append F)
  (by
   have:=CJ (cur:=(old++b)++(Builtin.zeroCells z.cells (C - (sLen+n))).toList) (vals:=old++b) rfl;intro j y U;have:=this j y U;rw[<- this]
   congr 1
   apply Array.ext';simp[uK])
  (by
   simp only[Array.size_append,Is,Q4,H,I,D,<- Nat.add_mul]
   congr 1;omega)
  (by simp[m,o];omega) s
 refine⟨_,_,_,W,p,?_,cO.alloc _ _ _ _ _ _⟩;exact .own d _ 0 (sLen+n) ⟨i.size,es++xs⟩ w.heap.size _ C (by rw[kY,aW ⟨rfl,rfl⟩]) (by simp[Cz.bO]) (λ_=>⟨rfl,by simp[Cz.bO]⟩) (λ_=>by simp) (by simp[m,o]) r
theorem Xr{A:Array TypeId}{t u ty e:TypeId}{x y:Operand}{x' y':bL}(hA:A[0]?=some t)(hB:A[1]?=some u)(ht:P.underlying t=some (.slice e))(hu:uE (P.underlying u)=true)
  (aq:(pY P e).isSome=true) (hb:P.bytesOf e<=65536) (ct:∀ z,pY P e=some z->z.sz=ey P e) (hx:dJ x=some x') (hy:dJ y=some y') (hs:aN K Z st w a)
  (p:bX orc st d (.append (ey P e) x' y')=some (v,st')) :
  Good P K Z st ((do pure (Next.value (<- Builtin.append_ A ty #[a.eval x,a.eval y])):Sem Next).run P w) v st':=by
 have I:=fD hx hs;have bu:=fD hy hs;obtain⟨e',hu⟩:=Ur hu;obtain⟨zv,ce⟩:=Cc.1 aq;have S:=ct zv ce;obtain⟨i,z,O,au,cs⟩:=zB ce;have bk:i.size=ey P e:=by simp[ey,Program.cellsOf,O]
 have al:i.bytes<=65536:=by simpa[Program.bytesOf,O]using hb
 rw[<- bk]at p S;generalize a.eval x=X at I ⊢;generalize a.eval y=Y at bu ⊢;simp only[bX]at p;split at p
 .rename_i xs cp;split at p
  .rename_i hc;obtain⟨aw,hp⟩:=hc;have bx:∀ q∈xs,q.sz=i.size:=λq k=>by have:=List.all_eq_true.1 aw q.fL (List.mem_map.2 ⟨q,k,rfl⟩);rw[<- w9];simpa using this
   have C:∀ q∈xs.map AV.fL,q.sz=i.size:=λq k=>by simp at k;obtain⟨r,N,rfl⟩:=k;rw[w9];exact bx r N
   obtain⟨ad,c,f,rfl,ca,cc,J,F⟩:=Xv (P:=P) cp bu hs.heap bx hp;have D:aG Z st ((xs.map AV.fL).flatMap AV.cells) f:=by rw[Sl];exact K1 ca
   have E:∀ q∈(xs.map AV.fL).flatMap AV.cells,q.one=true:=λq k=>by rw[Sl]at k;simp only[cD]at k;obtain⟨r,N,rfl⟩:=k;exact NA (cc r N)
   have av:z.cells.size=i.size:=by have:=((cs Z st).cells (by omega));have L:=this.1.length;simp at L;rw[L,this.2.1,S]
   have ap:(xs.map AV.fL).length=xs.length:=by simp
   split at p
   .rename_i af;rw[af]at I;cases I;split at p
    .rename_i hl;simp only[cF,dA]at p;obtain⟨rfl,rfl⟩:=p;by_cases h0:xs=[]
     .subst h0;have hf:=F w rfl;simp at J;subst J;have N:=QL (P:=P) (w:=w) (ty:=ty) hA hB ht hu O (ad:=ad) (c:=c) hf;refine va N (hs.heap.iM d i.size hp) ?_ (cO.alloc _ _ _ _ _ _);exact .dU d _ ⟨i.size,[]⟩ (by rw[kY,aW ⟨rfl,rfl⟩];rfl) (by simp[Cz.bO])
     .have bt:0<xs.length:=Ca.2 h0
      obtain⟨w',Z',r,L,V,W,h4⟩:=Lt (P:=P) (K:=K) (Z:=Z) (w:=w) (d:=d) (ty:=ty) (base:=none) (sLen:=0) (sCap:=0) (old:=[]) (es:=[]) (xs:=xs.map AV.fL) (st:=st) hA hB ht hu O au al av hp hs.heap (F w.drew rfl)
       (by simp[Builtin.firstCells]) (by omega) (by omega) .nil D (by simpa using C) (by simpa using E) rfl ap
      simp only[qW,uJ]at L V W h4;exact va L V W h4
    .cases p
   .rename_i s g cw l af;rw[af]at I;split at p
    .rename_i o ho;split at p
     .rename_i hc;obtain⟨rfl,Q,m,R⟩:=hc;simp only[cF,dA]at p;obtain⟨rfl,rfl⟩:=p;have M:=hs.heap.bR s g o ho;have hk:aJ st [(s,g)]=st.kill s g:=rfl;rw[hk];have ag:=hs.heap.kill s g;have G:=cO.kill Z st s g;cases I with
      | dU _ _ o' e1 e2 =>
       rw[ho]at e1;cases e1;have co:=M.xt e2;rw[co];simp only[uJ,qW]at R ⊢;by_cases h0:xs=[]
       .subst h0;have hf:=F w rfl;simp at J;subst J;have N:=QL (P:=P) (w:=w) (ty:=ty) hA hB ht hu O (ad:=ad) (c:=c) hf;refine va N (ag.iM d i.size hp) ?_ (G.trans (cO.alloc _ _ _ _ _ _));exact .dU d _ ⟨i.size,[]⟩ (by rw[kY,aW ⟨rfl,rfl⟩];rfl) (by simp[Cz.bO])
       .have bt:0<xs.length:=Ca.2 h0
        obtain⟨w',Z',r,L,V,W,h4⟩:=Lt (P:=P) (K:=K) (Z:=Z) (w:=w) (d:=d) (ty:=ty) (base:=none) (sLen:=0) (sCap:=0) (old:=[]) (es:=[]) (xs:=xs.map AV.fL) (st:=st.kill s g) hA hB ht hu O au al av hp ag (F w.drew rfl)
         (by simp[Builtin.firstCells]) (by omega) (by omega) .nil (D.mono G) (by simpa using C) (by simpa using E) rfl ap
        simp only[qW,uJ]at L V W h4;exact va L V W (G.trans h4)
      | own _ _ _ _ o' b cu c' e1 e2 e3 e4 e5 e6 =>
       rw[ho]at e1;cases e1;obtain⟨rfl,rfl⟩:=e3 rfl;obtain⟨n,T,ov,k1,k2,k3,k4,k5,k6⟩:=M.bU b e2;obtain⟨U,H⟩:=LY k3;have cm:∀ q∈o.es,(AV.cells q).length=o.sz:=λq k=>by rw[AV.bS (by rw[M.jC q k];exact M.pos),M.jC q k]
       have ao:=k2.length;rw[xo AV.cells o.sz o.es cm,<- Q]at ao;by_cases B:l+xs.length<=Z.cap s g
       .have cv:n.size=(ov++U).length:=by rw[<- H];simp
        have bb:l*i.size+f.length<=n.size:=by rw[J,<- Nat.add_mul,k4,m];exact kD _ B
        have N:=UC (P:=P) (w:=w) (ty:=ty) hA hB ht hu O (F w rfl) B k1 bb (HN ca cc);have br:n.toList.take (l*i.size)++f++n.toList.drop (l*i.size+f.length)=(ov++f)++U.drop f.length:=by rw[H,<- m,<- ao,List.take_left,List.drop_append];rw[xr (by omega),uJ,Nat.add_sub_cancel_left]
        have bo:=hs.heap.move ho e2 d (o.es++xs.map AV.fL) (n.toList.take (l*i.size)++f++n.toList.drop (l*i.size+f.length)).toArray (ov++f)
         (λq k=>by
          obtain h|h:=dT.1 k
          .exact M.jC q h
          .rw[m];exact C q h)
         (λq k=>by
          rw[Bk]at k;obtain h|h:=dT.1 k
          .exact M.one q h
          .exact E q h)
         (by simp;omega) (by rw[Bk];exact k2.append D) (CJ br)
         (by
          rw[<- k4];have cf:n.toList.length=n.size:=by simp
          simp only[Is,gL,iB,lp,cf];omega)
        rw[<- m];refine va N bo.1 ?_ bo.2;exact .own d _ 0 (l+xs.length) ⟨o.sz,o.es++xs.map AV.fL⟩ b _ _ (by rw[kY,aW ⟨rfl,rfl⟩]) (by simp[Cz.bO]) (λ_=>⟨rfl,by simp[Cz.bO]⟩) (λ_=>by simp) (by simp;omega) B
       .obtain⟨w',Z',r,L,V,W,h4⟩:=Lt (P:=P) (K:=K) (Z:=Z) (w:=w) (d:=d) (ty:=ty) (base:=some ⟨b,0,none⟩) (sLen:=l) (sCap:=Z.cap s g) (old:=ov) (es:=o.es) (xs:=xs.map AV.fL) (st:=st.kill s g) hA hB ht hu O au al av hp ag (F w.drew rfl)
         (run_firstCells_some w.drew i.size l ⟨b,0,none⟩ l _ ov (by rw[ao,m]) (λj y hy=>by
          rw[vj,cell_of_row w.drew b _ n T (0,0) k1];simpa using k3 j y hy))
         (by omega) R (k2.mono G) (D.mono G)
         (λq k=>by
          obtain h|h:=dT.1 k
          .rw[<- m];exact M.jC q h
          .exact C q h)
         (λq k=>by
          rw[Bk]at k;obtain h|h:=dT.1 k
          .exact M.one q h
          .exact E q h) Q.symm ap
        exact va L V W (G.trans h4)
      | eN _ _ _ _ _ _ _ e2=>exact(vv ho e2).elim
     .cases p
    .cases p
   .cases p
  .cases p
 .cases p
def Vp{A:Array TypeId}{t u ty e:TypeId}{k k':IntKind}{i:TypeInfo}{z:Value}(x:A[0]?=some t)(y:A[1]?=some u)(E:P.underlying t=some (.slice e))(hu:P.underlying u=some (.int k))(C:P.info? e=some i)(G:i.zero=some z)
  {n:Nat} (H:0<n) (hp:0<i.size) (B:i.bytes<=65536) (r:n<=eS) :
  (Builtin.append_ A ty #[.slice none 0 0,.int k' n]).run P w =
   .ok (.slice (some ⟨w.heap.size,0,none⟩) n (grownCap w n 0 e)) (w.drew.alloc (.cells (Builtin.zeroCells z.cells n++Builtin.zeroCells z.cells (grownCap w n 0 e - n)) e)):=by
 simp[eS]at r;have F:IntKind.i64.wrap (n:Int)=n:=IntWalk.i64_in n ⟨by omega,by omega⟩;have h:¬ ((n:Int)<0):=by omega
 have D:¬ n=0:=by omega
 have f:¬ (9223372036854775807<(n:Int)):=by omega
 have j:n*i.bytes<=140737488355328:=dP (mS r B) (by decide);have l:¬ (281474976710656<(n:Int)*(i.bytes:Int)):=by omega
 have s:=growslice_fits (old:=0) (need:=n) (by omega) j;have b:¬ (281474976710656<Builtin.nextslicecap n 0*i.bytes):=by omega
 have o:¬ (n=0\/i.size=0):=by omega
 have p:¬ (n*i.size=0):=by rw[Nat.mul_eq_zero];exact o
 have m:max (n:Int) 0=n:=by omega
 simp[Builtin.append_,x,y,run_underlying E,run_underlying hu,sizeOf,typeInfo,zeroValue,C,G,asInt,asIntOf,F,h,D,l,f,b,p,m,Question.forced,newRow,grownCap,Builtin.firstCells]
def Ub{A:Array TypeId}{t u ty e:TypeId}{k:IntKind}{x y:Operand}{V W:bL}{D:AV}(hA:A[0]?=some t)(hB:A[1]?=some u)(ht:P.underlying t=some (.slice e))(hu:P.underlying u=some (.int k))
  (hz:pY P e=some D) (hb:P.bytesOf e<=65536) (hx:dJ x=some V) (hy:dJ y=some W) (hs:aN K Z st w a)
  (h:bX orc st d (.eZ (ey P e) D V W)=some (v,st')) :
  Good P K Z st ((do pure (Next.value (<- Builtin.append_ A ty #[a.eval x,a.eval y])):Sem Next).run P w) v st':=by
 have b:=fD hx hs;have r:=fD hy hs;obtain⟨i,z,I,Q,S⟩:=zB hz;have o:i.size=ey P e:=by simp[ey,Program.cellsOf,I]
 have J:i.bytes<=65536:=by simpa[Program.bytesOf,I]using hb
 rw[<- o]at h;generalize a.eval x=X at b ⊢;simp[bX]at h;split at h
 .rename_i n E s;split at h
  .rename_i hc;obtain⟨L,U,f,M⟩:=hc;obtain⟨rfl,rfl⟩:=h;rw[E]at b;cases b;obtain⟨k1,e1⟩:=xN s;rw[e1]at r;rw[r.dE];have hr:=Vp (P:=P) (w:=w) (ty:=ty) (k':=k1) hA hB ht hu I Q L M J U;have G:=grownCap_ge w n 0 e;have p:n<=maxLen:=by simp[eS]at U;simp[maxLen];omega
   have H:=grownCap_le_maxLen w n 0 e p;generalize grownCap w n 0 e=C at *
   have N:=EA (S Z st);obtain⟨Y,y2,y3⟩:=N.cells (by rw[w9,f];exact M);have R:z.cells.size=i.size:=by have:=Y.length;simp at this;rw[this,y2,w9,f]
   have O:∀ m,(Builtin.zeroCells z.cells m).toList=(List.replicate m z.cells.toList).flatten:=λm=>HI z.cells m
   have F:=hs.heap.drew.alloc d ⟨i.size,List.replicate n D.fL⟩ (Builtin.zeroCells z.cells n++Builtin.zeroCells z.cells (C - n)) e C (Builtin.zeroCells z.cells n).toList M
    (λq B=>by rw[(Bg.1 B).2,w9,f])
    (λq B=>by
     rw[A7]at B;obtain⟨l,E,s⟩:=Ir.1 B;rw[(Bg.1 E).2]at s;exact y3 q s)
    (by rw[O,A7];exact Fp Y n)
    (by
     have:=CJ (cur:=(Builtin.zeroCells z.cells n).toList++(Builtin.zeroCells z.cells (C - n)).toList) (vals:=(Builtin.zeroCells z.cells n).toList) rfl;intro j y hj;have:=this j y hj;rw[<- this]
     congr 1
     simp)
    (by simp[Array.size_append,Q4,R,<- Nat.add_mul];congr 1;omega)
    (by simp;omega) H
   refine va hr F ?_ (cO.alloc _ _ _ _ _ _);exact .own d _ 0 n ⟨i.size,List.replicate n D.fL⟩ w.heap.size _ C (by rw[kY,aW ⟨rfl,rfl⟩]) (by simp[Cz.bO]) (λ_=>⟨rfl,by simp[Cz.bO]⟩) (λ_=>by simp) (by simp) G
  .grind
 .grind
def ybf{t:TypeId}{x i:Operand}{l k:bL}(A:P.underlying t=some .string)(B:dJ x=some l)(y:dJ i=some k)(hs:aN K Z st w a)
  (j:bX orc st d (.qG l k)=some (v,st')) :
  Good P K Z st ((do pure (Next.value (<- Instr.index t (a.eval x) (a.eval i))):Sem Next).run P w) v st':=by
 have f:=fD B hs;have h:=fD y hs;generalize a.eval x=X at f ⊢;simp[bX]at j;split at j
 .rename_i s n o r;split at j
  .rename_i b u;obtain⟨rfl,rfl⟩:=j;obtain⟨C,m⟩:=xN r;rw[m]at h;rw[h.dE];rw[o]at f;cases f.cA;have z:(Instr.index t (.string s) (.int C n)).run P w=.ok (.int .u8 b.toNat) w:=by simp[Instr.index,asIntOf,run_underlying A,u]
   exact iA z hs (.p _ _ (.int _ _))
  .grind
 .grind
end
section
variable {P:Program} {K:Ctx} {Z Z':Cz} {st st':St} {w w':World} {a:Act} {orc:Option bI} {d:Nat} {v:AV}
theorem Jy{M:Nat->Option Obj}:∀ {xs i:List PV} {b vs:List Value} {r m:List IntKind},j' r xs=true->j' m i=true->PReps M xs b->PReps M i vs->(tE xs i=true ↔ b=vs)
 | [],[],b,vs,_,_,_,_,f,h=>by cases f;cases h;simp[tE]
 | [],y::i,b,vs,_,_,_,_,f,h=>by
  cases f;cases h;cases y<;>simp[tE]
 | x::xs,[],b,vs,_,_,_,_,f,h=>by
  cases f;cases h;cases x<;>simp[tE]
 | x::xs,y::i,b,vs,q::r,D::m,j,l,f,h=>by
  cases x<;>simp only[j',gJ]at j;cases y<;>simp only[j',gJ]at l;rename_i k n B C;cases f with
  | cons _ E _ z s o =>
   cases h with
   | cons _ F _ A t p =>
    cases s;cases t;simp only[kq]at j l;have u:=Jy j.2 l.2 o p;simp only[tE,kq,decide_eq_true_eq,List.cons.injEq,Value.int.injEq,u]
 | x::xs,y::i,b,vs,[],_,j,_,_,_=>by cases x<;>simp[j']at j
 | x::xs,y::i,b,vs,_::_,[],_,l,_,_=>by cases y<;>simp[j']at l
theorem QN{kt e:TypeId}{q:IntKind}{M:Nat->Option Obj}(o:P.underlying e=some (.int q))(j:P.cellsOf e=1)(d:Nat):∀ (n:Nat) {kc:List PV} {vals:List Value},j' (List.replicate n q) kc=true->PReps M kc vals ->
  vals.length=n/\∀ i,i<n->∃ l,P.keyLits (d+1) e ((vals.drop (i*P.cellsOf e)).take (P.cellsOf e))=some l
 | 0,[],vals,_,h=>by cases h;exact⟨rfl,λi r=>by omega⟩
 | 0,x::kc,vals,b,h=>by simp[j']at b
 | n+1,[],vals,b,h=>by simp[Bh,j']at b
 | n+1,x::kc,vals,b,h=>by
  rw[Bh]at b;cases x<;>simp only[j',gJ]at b;rename_i k m;simp only[kq,decide_eq_true_eq]at b;obtain⟨⟨rfl,s⟩,b⟩:=b;cases h with
  | cons _ z _ y t f =>
   cases t;obtain⟨u,p⟩:=QN (kt:=kt) o j d n b f;refine⟨by simp[u],λi r=>?_⟩;rw[j]at p ⊢;cases i with
   | zero=>exact⟨[.int k m],by simp[Program.keyLits,o,s]⟩
   | succ i=>simpa using p i (by omega)
theorem LH{α β : Type}{f : α -> Option β}:∀ {l:List α},(∀ x∈l,∃ y,f x=some y)->∃ i,l.mapM f=some i
 | [],_=>⟨[],rfl⟩
 | x::l,h=>by obtain⟨y,j⟩:=h x (by simp);obtain⟨i,b⟩:=LH (l:=l) λz k=>h z (by simp[k]);exact⟨y::i,by simp[Bf,j,b]⟩
theorem P6{kt e:TypeId}{n:Nat}{q:IntKind}{M:Nat->Option Obj}(b:P.underlying kt=some (.array n e))(m:P.underlying e=some (.int q))(hn:P.cellsOf kt=n)(s:P.cellsOf e=1)(z:0<P.types.size)
  {kc:List PV} {vals:List Value} (h:j' (List.replicate n q) kc=true) (u:PReps M kc vals):∃ l,keyOf P kt (.agg vals.toArray)=some l:=by
 obtain⟨d,k⟩:∃ d,P.types.size+1=d+2:=⟨P.types.size - 1,by omega⟩;have p:P.keyType kt=true:=by unfold Program.keyType;rw[k];simp[Program.keyTypeAt,b,m]
 obtain⟨o,x⟩:=QN (kt:=kt) m s d n h u;have r:(Value.agg vals.toArray).formed P kt=true:=by simp[Value.formed,b,hn,o]
 obtain⟨y,j⟩:=LH (l:=List.range n) (f:=λi=>P.keyLits (d+1) e ((vals.drop (i*P.cellsOf e)).take (P.cellsOf e))) λi t=>x i (xP.1 t);refine⟨.string (keyBytes y.flatten),?_⟩
 .simp only[keyOf,b,p,r,FG,cB,k];rw[show d+2=(d+1)+1 from rfl,Program.keyLits.eq_def];simp only[b,Value.cells,o,hn,cB,j,DX]
def NR{kt e:TypeId}{n:Nat}{q:IntKind}(b:P.underlying kt=some (.array n e))(f:P.underlying e=some (.int q))(hn:P.cellsOf kt=n)(h:P.cellsOf e=1):WideMaps.KeyLaw P kt :=
 deep_law (m:=2) (by omega) (by simp[Program.keyTypeAt,b,f]) (by simp[Program.tiled,b,f,hn,h]) (by simp[b])
theorem P5{M:Nat->Option Obj}(d:Nat):∀ {n:List Field} {j:Nat} {o:List IntKind} {kc:List PV} {vals pre:List Value},DL P n j=some o->j' o kc=true->PReps M kc vals->pre.length=j ->
  vals.length=n.length/\(∀ f∈n,(f.name != "_")=true)/\∀ f∈n,∃ y,P.keyLits (d+1) f.type (((pre++vals).drop f.offset).take (P.cellsOf f.type))=some y
 | [],j,o,kc,vals,pre,h,b,p,_=>by
  simp only[DL,cF]at h;subst h;cases kc with
  | nil=>cases p;exact⟨rfl,by simp,by simp⟩
  | cons x kc=>simp[j']at b
 | f::n,j,o,kc,vals,pre,h,b,p,s=>by
  simp only[DL]at h;split at h
  .rename_i q B;split at h
   .rename_i A;obtain⟨t,u,z⟩:=A;cases l:DL P n (j+1)with
    | none=>rw[l]at h;cases h
    | some H =>
     rw[l]at h;simp only[DX,cF]at h;subst h;cases kc with
     | nil=>simp[j']at b
     | cons x kc =>
      cases x<;>simp only[j',gJ]at b;rename_i k m;simp only[kq,decide_eq_true_eq]at b;obtain⟨⟨rfl,C⟩,b⟩:=b;cases p with
      | cons _ J _ I D r =>
       cases D;obtain⟨E,F,G⟩:=P5 d (pre:=pre++[.int k m]) l b r (by simp[s]);refine⟨by simp[E],λg i=>?_,λg i=>?_⟩
       .obtain rfl|i:=bY.1 i
        .simpa using t
        .exact F g i
       .obtain rfl|i:=bY.1 i
        .refine⟨[.int k m],?_⟩;rw[u,z,<- s];simp[Program.keyLits,B,C]
        .simpa using G g i
   .cases h
  .cases h
theorem Pt{kt:TypeId}{x:List IntKind}(h:Er P kt=some x):WideMaps.KeyLaw P kt/\∀ {M:Nat->Option Obj} {kc:List PV} {vals:List Value},j' x kc=true->PReps M kc vals->∃ l,keyOf P kt (.agg vals.toArray)=some l:=by
 unfold Er at h;split at h
 .rename_i n e i;split at h
  .rename_i q t;split at h
   .rename_i b;cases h;exact⟨NR i t b.1 b.2.1,λo p=>P6 i t b.1 b.2.1 b.2.2 o p⟩
   .cases h
  .cases h
 .rename_i s i;split at h
  .rename_i b;obtain⟨y,z,A,B,H⟩:=b;refine⟨deep_law (m:=2) (by omega) y A (by simp[i]),λ{M kc vals} o p=>?_⟩;obtain⟨d,C⟩:∃ d,P.types.size+1=d+2:=⟨P.types.size - 1,by omega⟩;obtain⟨D,E,F⟩:=P5 (pre:=[]) d h o p rfl;have u:vals.length=P.cellsOf kt:=by rw[D,B];simp
   have k:(Value.agg vals.toArray).formed P kt=true:=by simp[Value.formed,i,u]
   obtain⟨G,r⟩:=LH (l:=s.toList) (f:=λf=>P.keyLits (d+1) f.type ((vals.drop f.offset).take (P.cellsOf f.type))) λf k=>by simpa using F f k
   have j:s.all (λf=>f.name != "_")=true:=by rw[Array.all_eq_true_iff_forall_mem];intro f k;exact E f (by simpa using k)
   refine⟨.string (keyBytes G.flatten),?_⟩;simp only[keyOf,i,z,k,FG,cB,C];rw[show d+2=(d+1)+1 from rfl,Program.keyLits.eq_def];simp only[i,Value.cells,u,j,and_self,cB,r,DX]
  .cases h
 .cases h
theorem Lj{kt:TypeId}{p:List IntKind}{M:Nat->Option Obj}(h:∀ {kc:List PV} {vals:List Value},j' p kc=true->PReps M kc vals->∃ l,keyOf P kt (.agg vals.toArray)=some l):∀ {ks:List PV} {es:List MapEntry},ks.all (su p)=true->PReps M ks (es.map (·.key))->∀ e∈es,∃ l,keyOf P kt e.key=some l
 | [],[],_,_,e,r=>by cases r
 | [],e::es,_,h,_,_=>by cases h
 | k::ks,[],_,h,_,_=>by cases h
 | k::ks,e::es,f,o,n,b=>by
  simp only[List.all_cons,kq]at f;simp only[jH]at o;cases o with
  | cons _ _ _ _ i j =>
   obtain rfl|b:=bY.1 b
   .obtain⟨f,_⟩:=f;cases k<;>simp only[su,gJ]at f;generalize n.key=s at i;cases i with
    | agg _ t _ m=>exact h f m
   .exact Lj h f.2 j n b
theorem QQ{M:Nat->Option Obj}{G:List IntKind}{kc:List PV}{vals:List Value}(r:j' G kc=true)(F:PReps M kc vals):∀ {ks vs:List PV} {es:List MapEntry},ks.all (su G)=true->PReps M ks (es.map (·.key))->PReps M vs (es.map (·.val))->(es.map (·.key)).Nodup ->
  ((∀ e:MapEntry,e∈es->e.key ≠ .agg vals.toArray)->oD kc ks vs=none)/\∀ (j:Nat) (e:MapEntry),es[j]?=some e->e.key=.agg vals.toArray->∃ v,oD kc ks vs=some v/\PRep M v e.val
 | [],vs,es,_,n,u,_=>by
  cases es with
  | nil=>cases u;exact⟨λ_=>rfl,λj e h=>by simp at h⟩
  | cons e es=>cases n
 | k::ks,vs,[],_,n,_,_=>by cases n
 | k::ks,vs,e::es,y,n,u,l=>by
  simp only[List.all_cons,kq]at y;simp only[jH]at n u l;cases n with
  | cons _ _ _ _ E z =>
   cases u with
   | cons v _ vs _ J C =>
    obtain⟨N,O⟩:=QQ r F y.2 z C (uH.1 l).2;cases k<;>simp only[su,gJ,false_and]at y;rename_i c;generalize o:e.key=Q at E l;cases E with
    | agg _ D _ B =>
     have p:=Jy y.1 r B F;have f:(Value.agg D.toArray=.agg vals.toArray) ↔ D=vals:=by
      constructor
      .intro h;have:=congrArg (λv=>match v with|Value.agg H=>H.toList|_=>[]) h;simpa using this
      .rintro rfl;rfl
     by_cases s:D=vals
     .refine⟨λh=>absurd (o.trans (f.2 s)) (h e (by simp)),λj t m i=>?_⟩;have b:oD kc (.agg c::ks) (v::vs)=some v:=by simp[oD,p.2 s]
      cases j with
      | zero=>simp at m;subst m;exact⟨v,b,J⟩
      | succ j =>
       exfalso;simp at m;have I:t∈es:=wg m;refine(uH.1 l).1 (cD.2 ⟨t,I,?_⟩);rw[i];exact(f.2 s).symm
     .have A:¬ tE c kc=true:=λh=>s (p.1 h);have b:oD kc (.agg c::ks) (v::vs)=oD kc ks vs:=by simp[oD,A]
      rw[b];refine⟨λh=>N λx L=>h x (by simp[L]),λj t m i=>?_⟩;cases j with
      | zero=>simp at m;subst m;exact absurd (f.1 (o.symm.trans i)) s
      | succ j=>exact O j t (by simpa using m) i
end
section
variable {P:Program} {K:Ctx} {Z Z':Cz} {st st':St} {w w':World} {a:Act} {orc:Option bI} {d:Nat} {v:AV}
def XW{t:TypeId}{k:Option IntKind}(h:AP P t=some k):(isAgg t).run P w=.ok false w:=by unfold AP at h;split at h<;>first|(rename_i e;rw[E4 w e];rfl)|cases h
def Hf{t:TypeId}{k:Option IntKind}{cs:Array Value}{j:Nat}{x:Value}(h:AP P t=some k)(b:cs[j]?=some x):(part t cs j).run P w=.ok x w:=by simp[part,XW (w:=w) h,b]
def TC{M:Nat->Option Obj}{t:TypeId}{k:Option IntKind}{ks:List (Option IntKind)}{dp:Nat}{u z:PV}{D zs:List PV}{x y:Value}{r:Bool}(j:AP P t=some k)(B:PRep M u x)(C:PRep M z y)
  (f:tP (k::ks) (u::D) (z::zs)=some r) :
  ∃ b l,(Op.equalIn (dp+1) t x y).run P w=.ok b w/\tP ks D zs=some l/\r=(b&&l):=by
 unfold AP at j;unfold tP at f;split at f
 .rename_i h;cases h
 .rename_i H A I m F J n G o p s;cases o;cases p;cases s;cases B;cases C;split at f
  .rename_i E;obtain⟨rfl,rfl⟩:=E;split at f
   .rename_i l i;cases f;split at j
    .rename_i e;exact⟨_,l,run_equalIn_int w dp t _ _ m n e,i,rfl⟩
    .cases j
    .cases j
   .cases f
  .cases f
 .rename_i A m F n G o p s;cases o;cases p;cases s;cases B;cases C;split at f
  .rename_i l i;cases f;split at j
   .cases j
   .rename_i e;exact⟨_,l,run_equalIn_bool w dp t m n e,i,rfl⟩
   .cases j
  .cases f
 .cases f
theorem QH{k:Option IntKind}{ks:List (Option IntKind)}{xs f:List PV}{r:Bool}(h:tP (k::ks) xs f=some r):∃ u b z zs,xs=u::b/\f=z::zs:=by
 cases xs with
 | nil=>cases k<;>simp[tP]at h
 | cons u b =>
  cases f with
  | nil=>cases k<;>cases u<;>simp[tP]at h
  | cons z zs=>exact⟨u,b,z,zs,rfl,rfl⟩
theorem Qr{M:Nat->Option Obj}{dp:Nat}{X Y:Array Value}:∀ (s:List Field) (j:Nat) (ks:List (Option IntKind)) (i m:List PV) (xs t:List Value) (r:Bool),Fc P s j=some ks ->
  PReps M i xs->PReps M m t->X.toList.drop j=xs->Y.toList.drop j=t->tP ks i m=some r->(Op.eqFields (dp+1) X Y s).run P w=.ok r w
 | [],j,ks,i,m,xs,t,r,h,_,_,_,_,n=>by
  simp[Fc]at h;subst h;cases i<;>cases m<;>simp[tP]at n;subst n;rfl
 | f::s,j,ks,i,m,xs,t,r,h,U,V,B,C,n=>by
  simp only[Fc]at h;split at h
  .rename_i Q;obtain⟨S,rfl⟩:=Q;split at h
   .rename_i k l A R;cases h;obtain⟨u,us,z,zs,rfl,rfl⟩:=QH n;cases U with
    | cons _ x _ o J L =>
     cases V with
     | cons _ y _ p N O =>
      obtain⟨b,r',F,G,rfl⟩:=TC (P:=P) (w:=w) (dp:=dp) A J N n;have H:X[f.offset]?=some x:=by have:=congrArg (·[0]?) B;simpa[List.getElem?_drop]using this
      have I:Y[f.offset]?=some y:=by have:=congrArg (·[0]?) C;simpa[List.getElem?_drop]using this
      have D:X.toList.drop (f.offset+1)=o:=by rw[<- List.drop_drop,B];rfl
      have E:Y.toList.drop (f.offset+1)=p:=by rw[<- List.drop_drop,C];rfl
      have W:=Qr (dp:=dp) s (f.offset+1) l us zs o p r' R L O D E G;simp only[Op.eqFields,S,ne_eq,not_false_eq_true,cB,mT,Hf A H,Hf A I,qB,F];cases b
      .simp
      .simpa using W
   .cases h
  .cases h
theorem Xx{M:Nat->Option Obj}{dp n:Nat}{X Y:Array Value}{e:TypeId}{k:Option IntKind}(J:AP P e=some k)(I:∃ i,P.info? e=some i/\i.size=1){t:TypeId}(ht:P.underlying t=some (.array n e)){f h:List PV}{r:Bool}
  (A:PReps M f X.toList) (B:PReps M h Y.toList) (l:tP (List.replicate n k) f h=some r):(Op.equalIn (dp+2) t (.agg X) (.agg Y)).run P w=.ok r w:=by
 obtain⟨i,I,hs⟩:=I;obtain⟨D,hD⟩:∃ D,D=dp+1:=⟨_,rfl⟩;have F:dp+2=D+1:=by omega
 rw[F];simp only[Op.equalIn,mT,run_underlying ht,qB,sizeOf,typeInfo,run_program,I,oI,hs,Nat.mul_one];rw[Std.Legacy.Range.forIn_eq_forIn_range'];have hr:List.range' [:n].start [:n].size [:n].step=List.range' 0 n:=by simp[Std.Legacy.Range.size]
 rw[hr]
 have N:∀ (m j:Nat) (f h:List PV) (C E:List Value) (r:Bool),PReps M f C->PReps M h E->X.toList.drop j=C->Y.toList.drop j=E->tP (List.replicate m k) f h=some r ->
   ((Sem.run P (forIn (m:=Sem) (List.range' j m) ((none:Option Bool),()) λi __s=>do
      let __do_lift <- part e X i
      let __do_lift_1 <- part e Y i
      let __do_lift <- Op.equalIn D e __do_lift __do_lift_1
      if (!__do_lift)=true then pure (ForInStep.done (some false,()))else pure (ForInStep.yield (none,()))) w).andThen
    λa w'=>Sem.run P (match a.fst with|some r=>pure r|none=>pure true) w')=.ok r w:=by
  intro m
  induction m with
  | zero =>
   intro j f h C E r A B G H l;cases f<;>cases h<;>simp[tP]at l;subst l;simp
  | succ m L =>
   intro j f h C E r A B G H l;rw[Bh]at l;obtain⟨u,us,z,zs,rfl,rfl⟩:=QH l;cases A with
   | cons _ x _ o V W =>
    cases B with
    | cons _ y _ s h3 h4 =>
     obtain⟨b,r',O,F,rfl⟩:=TC (P:=P) (w:=w) (dp:=dp) J V h3 l;rw[<- hD]at O;have S:X[j]?=some x:=by have:=congrArg (·[0]?) G;simpa[List.getElem?_drop]using this
     have U:Y[j]?=some y:=by have:=congrArg (·[0]?) H;simpa[List.getElem?_drop]using this
     have Q:X.toList.drop (j+1)=o:=by rw[<- List.drop_drop,G];rfl
     have R:Y.toList.drop (j+1)=s:=by rw[<- List.drop_drop,H];rfl
     have L:=L (j+1) us zs o s r' W h4 Q R F;simp only[List.range'_succ,List.forIn_cons,mT,Hf J S,Hf J U,qB,O];cases b
     .simp
     .simpa using L
 refine Eq.trans ?_ (N n 0 f h X.toList Y.toList r A B rfl rfl l)
 congr 1
 funext p w';obtain⟨_|_,_⟩:=p<;>rfl
def ybn{C:BinOp}{t:TypeId}{ks:List (Option IntKind)}{x y:Operand}{O R:bL}(f:KW P t=some ks)(W:dJ x=some O)(hy:dJ y=some R)(hs:aN K Z st w a)
  (k:bX orc st d (.jZ ks C O R)=some (v,st')) :
  Good P K Z st ((do pure (Next.value (<- (do eqGuard C t x y (a.eval x) (a.eval y);binOp C t (a.eval x) (a.eval y)))):Sem Next).run P w) v st':=by
 have H:=fD W hs;have I:=fD hy hs;simp only[bX]at k;split at k
 .rename_i r h;simp only[cF,dA]at k;obtain⟨rfl,rfl⟩:=k;unfold jZ at h;split at h
  .rename_i Q S U V;rw[U]at H;rw[V]at I;have M:=H.cA;have N:=I.cA;generalize a.eval x=X at M ⊢;generalize a.eval y=Y at N ⊢;cases M with
   | agg _ m _ J =>
    cases N with
    | agg _ o _ L =>
     have l:∀ r,tP ks Q S=some r->(Op.equal t (.agg m.toArray) (.agg o.toArray)).run P w=.ok r w/\P.eqGuardType P.depth t=false:=by
      intro r j;unfold KW at f;split at f
      .rename_i G u;split at f
       .rename_i b;have z:P.underlying t=some (.struct (P.fieldsOf t)):=by simp[Program.fieldsOf,u]
        have A:P.fieldsOf t=G:=by simp[Program.fieldsOf,u]
        refine⟨?_,b.2⟩;have:=run_equalIn_struct (P:=P) w 9999 t m.toArray o.toArray z b.1;unfold Op.equal Op.maxDepth;rw[this,A];exact Qr (dp:=9998) G.toList 0 ks Q S m o r f J L (by simp) (by simp) j
       .cases f
      .rename_i n e u;split at f
       .rename_i b;obtain⟨kk,B,rfl⟩:=wa.1 f;have s:∃ i,P.info? e=some i/\i.size=1:=by
         cases s:P.info? e with
         | none=>simp[s]at b
         | some i=>simp[s]at b;exact⟨i,rfl,b.1⟩
        exact⟨Xx (dp:=9998) B s u (by simpa using J) (by simpa using L) j,b.2⟩
       .cases f
      .cases f
     split at h
     .rename_i F j;obtain⟨D,E⟩:=l F j;cases h;have b:=run_eqGuard_agg (P:=P) w .eql t x y m.toArray o.toArray E;exact iA (by simp[b,binOp,D]) hs (.p _ _ (.bool _))
     .rename_i F j;obtain⟨D,E⟩:=l F j;cases h;have b:=run_eqGuard_agg (P:=P) w .neq t x y m.toArray o.toArray E;exact iA (by simp[b,binOp,D]) hs (.p _ _ (.bool _))
     .cases h
  .cases h
 .cases k
end
def sf(M:Nat->Option Obj)(w0 w:World):RV->Value->Prop
 | .pure v,x=>PRep M v x
 | .fresh l k,x=>(k=[]/\x=.slice none 0 0)\/∃ (b f:Nat) (j:Array Value) (T:TypeId) (h:List Value),x=.slice (some ⟨b,0,none⟩) k.length f/\w0.heap.size<=b/\M b=none /\
   w.heap[b]?=some (.cells j T (0,0))/\PReps M (k.flatMap PV.cells) h/\(∀ (i:Nat) (v:Value),h[i]?=some v->j[i]?=some v)/\j.size=f*l/\k.length<=f/\f<=maxLen /\
   (∀ c∈k.flatMap PV.cells,c.one=true)
 | .same _,_=>False
 | .oa _ _ _ _,_=>False
def sg(M:Nat->Option Obj)(w:World)(b:Option Nat)(cap sz:Nat)(es:List PV):Prop :=
 0<sz/\(∀ e∈es,e.sz=sz)/\(∀ c∈es.flatMap PV.cells,c.one=true)/\(b=none->es=[]) /\
 ∀ j,b=some j->M j=none/\∃ (h:Array Value) (T:TypeId) (f:List Value),w.heap[j]?=some (.cells h T (0,0))/\PReps M (es.flatMap PV.cells) f /\
  (∀ (i:Nat) (v:Value),f[i]?=some v->h[i]?=some v)/\h.size=cap*sz/\es.length<=cap/\cap<=maxLen
def CC(p:PV)(es:List PV)(b:Option Nat)(cap:Nat)(x:Value):Prop :=
 (p=.sl es/\x=match b with|none=>.slice none 0 0|some b=>.slice (some ⟨b,0,none⟩) es.length cap) \/
 (∃ e f,p=.ref e/\es=[e]/\b=some f/\x=.pointer (some ⟨f,0,none⟩))
def CB(M:Nat->Option Obj)(w0 w:World)(b:Option Nat)(cap n:Nat):RV->Value->Prop
 | .same l,x=>l<=n/\x=match b with|none=>.slice none 0 0|some b=>.slice (some ⟨b,0,none⟩) l cap
 | r,x=>sf M w0 w r x
def jD(P:Program)(f:FuncId)(args:List PV)(i sz:Nat)(m:List PV)(s:RV):Prop :=
 (∃ r,P.funcs[f]?=some r/\r.body.isSome=true/\r.name ≠ "runtime.NumGoroutine") /\
 ∀ (w:World) (M:Nat->Option Obj) (h:List Value) (b:Option Nat) (k:Nat) (n:List PV),(∀ b o,M b=some o->w.heap[b]?=some o)->h.length=args.length ->
  (∀ p,args[i]?=some p->∃ x,h[i]?=some x/\CC p n b k x)->i<args.length->sg M w b k sz n->(∀ j p,j≠i->args[j]?=some p->∃ x,h[j]?=some x/\PRep M p x) ->
  Calls P f h.toArray w λe w'=>∃ x l,e=.returned x/\(∀ b o,M b=some o->l b=some o)/\(∀ b o,l b=some o->w'.heap[b]?=some o) /\
   (∀ b o,l b=some o->M b=some o\/w.heap.size<=b)/\Keep w w' (λc=>b=some c)/\m.length=n.length/\sg l w' b k sz m/\CB l w w' b k n.length s x
def Sp(P:Program)(f:FuncId)(args:List PV)(k:RV):Prop :=
 (∃ j,P.funcs[f]?=some j/\j.body.isSome=true/\j.name ≠ "runtime.NumGoroutine") /\
 ∀ (w:World) (M:Nat->Option Obj) (h:List Value),(∀ b o,M b=some o->w.heap[b]?=some o)->PReps M args h ->
  Calls P f h.toArray w λe w'=>∃ x i,e=.returned x/\(∀ b o,M b=some o->i b=some o)/\(∀ b o,i b=some o->w'.heap[b]?=some o) /\
   (∀ b o,i b=some o->M b=some o\/w.heap.size<=b)/\Keep w w' (λ_=>False)/\sf i w w' k x
section
variable {P:Program} {K:Ctx} {Z Z':Cz} {st st':St} {w w':World} {a:Act} {orc:Option bI} {d:Nat} {v:AV}
noncomputable def Mx(Z:Cz)(st:St)(w:World)(ids:List (Nat × Nat))(b:Nat):Option Obj :=
 match Z.M b with
 | some o=>some o
 | none=>@ite _ (∃ s g o,(s,g)∈ids/\st.obj s g=some o/\Z.B s g=some b) (Classical.propDecidable _) (w.heap[b]?) none
def mH{ids:List (Nat × Nat)}{b:Nat}{o:Obj}(h:Z.M b=some o):Mx Z st w ids b=some o:=by simp[Mx,h]
def S'{ids:List (Nat × Nat)}{s g b:Nat}{o:bD}(j:bC K Z st w)(k:(s,g)∈ids)(h:st.obj s g=some o)(f:Z.B s g=some b):Mx Z st w ids b=w.heap[b]?:=by have i:=j.sep s g o b h f;simp only[Mx,i];exact aW ⟨s,g,o,k,h,f⟩
def rJ{ids:List (Nat × Nat)}{b:Nat}{x:Obj}(h:Mx Z st w ids b=some x):Z.M b=some x\/(Z.M b=none/\w.heap[b]?=some x/\∃ s g o,(s,g)∈ids/\st.obj s g=some o/\Z.B s g=some b):=by
 unfold Mx at h;split at h
 .grind
 .simp_all
theorem DA{α β : Type}{f : α -> Option β}{x : α}{xs:List α}{r:List β}(h:(x::xs).mapM f=some r):∃ y b,f x=some y/\xs.mapM f=some b/\r=y::b:=by
 cases j:f x with
 | none=>simp[j]at h
 | some y =>
  cases i:xs.mapM f with
  | none=>simp[i]at h
  | some b=>simp[j,i]at h;exact⟨y,b,rfl,rfl,h.symm⟩
def Dz{α β : Type}{f : α -> Option β}{r:List β}(h:([]:List α).mapM f=some r):r=[]:=by simp_all
theorem BM{α β : Type}{f : α -> Option β}:∀ {xs:List α} {r:List β},xs.mapM f=some r->r.length=xs.length
 | [],r,h=>by rw[Dz h];rfl
 | x::xs,r,h=>by obtain⟨y,i,_,b,rfl⟩:=DA h;simp[BM b]
theorem NB{n:Nat}{u:AV}{p:PV}(h:bE st n u=some p)(i:u.one=true):p.one=true:=by
 cases n with
 | zero=>simp[bE,i]at h;subst h;rfl
 | succ n =>
  cases u<;>simp only[bE]at h
  case p v=>cases h;exact i
  case nil=>cases h;rfl
  case own s g b k =>
   split at h
   .split at h
    .obtain⟨l,_,rfl⟩:=wa.1 h;rfl
    .grind
   .grind
  case ptr s g o b =>
   split at h
   .split at h
    .split at h
     .obtain⟨l,_,rfl⟩:=wa.1 h;rfl
     .grind
    .grind
   .grind
  case cp v m b =>
   split at h
   .cases h;rfl
   .grind
  case agg=>simp[AV.one]at i
  case fn f j=>obtain⟨l,_,rfl⟩:=wa.1 h;rfl
  case bP=>simp[AV.one]at i
  case skip=>cases h
  grind
theorem ydk{n:Nat}{u:AV}{p:PV}(h:bE st n u=some p)(hs:0<u.sz):p.sz=u.sz:=by
 obtain b|⟨f,rfl,b⟩|⟨f,rfl,b⟩:=AV.eA hs
 .rw[(AV.cells_one b).2,(PV.cells_one (NB h b)).2]
 .cases n with
  | zero=>simp[bE,AV.one]at h
  | succ n =>
   obtain⟨l,i,rfl⟩:=wa.1 h;simp[PV.sz,AV.sz,BM i]
 .cases n with
  | zero=>simp[bE,AV.one,PV.one]at h
  | succ n=>simp[bE]at h;subst h;rfl
theorem E3{n:Nat}{ids:List (Nat × Nat)}(j:∀ (u:AV) (x:Value) (p:PV),aM Z st u x->bE st n u=some p->(∀ i∈aO st n u,i∈ids)->PRep (Mx Z st w ids) p x) :
  ∀ {vs:List AV} {xs:List Value} {ps:List PV},aG Z st vs xs->vs.mapM (bE st n)=some ps->(∀ i∈vs.flatMap (aO st n),i∈ids)->PReps (Mx Z st w ids) ps xs
 | _,_,ps,.nil,h,_=>by rw[Dz h];exact .nil
 | _,_,ps,.cons u x s xs o m,h,f=>by obtain⟨p,r,k,l,rfl⟩:=DA h;exact .cons _ _ _ _ (j u x p o k (λi b=>f i (by simp[b]))) (E3 j m l (λi b=>f i (by simp only[jG,dT];exact .inr b)))
theorem E9{n:Nat}{sz:Nat}{ids:List (Nat × Nat)}(hp:0<sz)(B:∀ (u:AV) (x:Value) (p:PV),aM Z st u x->bE st n u=some p->(∀ i∈aO st n u,i∈ids)->PRep (Mx Z st w ids) p x) :
  ∀ {es:List AV} {xs:List Value} {ps:List PV},aG Z st (es.flatMap AV.cells) xs->es.mapM (bE st n)=some ps->(∀ e∈es,e.sz=sz)->(∀ c∈es.flatMap AV.cells,c.one=true)->(∀ i∈es.flatMap (aO st n),i∈ids) ->
   PReps (Mx Z st w ids) (ps.flatMap PV.cells) xs/\(∀ p∈ps,p.sz=sz)/\(∀ c∈ps.flatMap PV.cells,c.one=true)
 | [],xs,ps,h,z,_,_,_=>by
  rw[Dz z];cases h;exact⟨.nil,by simp,by simp⟩
 | e::es,xs,ps,h,z,m,t,C=>by
  obtain⟨p,Q,s,D,rfl⟩:=DA z;rw[jG]at h t;have k:=m e (by simp);have H:e.cells.length=sz:=by rw[AV.bS (by omega)];exact k
  have F:aG Z st e.cells (xs.take sz):=by
   have:=h.take sz
   rwa[D0 (by omega),fK (by omega)]at this
  have G:aG Z st (es.flatMap AV.cells) (xs.drop sz):=by
   have:=h.drop sz
   rwa[FK (by omega),xr (by omega),uJ]at this
  obtain⟨M,N,O⟩:=E9 hp B G D (λq hq=>m q (by simp[hq])) (λc f=>t c (dT.2 (.inr f))) (λi y=>C i (by simp only[jG,dT];exact .inr y));have I:∀ c∈e.cells,c.one=true:=λc f=>t c (dT.2 (.inl f));have l:=ydk s (by omega);have j:∀ i∈aO st n e,i∈ids:=λi y=>C i (by simp only[jG,dT];exact .inl y);have o:PReps (Mx Z st w ids) p.cells (xs.take sz)/\∀ c∈p.cells,c.one=true:=by
   obtain⟨J,L⟩:=aM.lU (by omega) I F;cases b:e.one with
   | true =>
    obtain⟨x,E,r⟩:=J b;have:=(B e x p r s j).cells (by omega);have A:=r.gu b;rw[Lz A]at this;rw[E];exact⟨this.1,this.2.2⟩
   | false =>
    have r:=L b;have:=(B e _ p r s j).cells (by omega);exact⟨by simpa[Value.cells]using this.1,this.2.2⟩
  refine⟨?_,?_,?_⟩
  .rw[jG,<- List.take_append_drop sz xs];exact o.1.append M
  .intro q hq;obtain rfl|hq:=bY.1 hq
   .rw[l];exact k
   .exact N q hq
  .rw[jG];intro c f;obtain h|h:=dT.1 f
   .exact o.2 c h
   .exact O c h
theorem AL(O:bC K Z st w)(ids:List (Nat × Nat)):∀ (n:Nat) (u:AV) (x:Value) (p:PV),aM Z st u x->bE st n u=some p->(∀ i∈aO st n u,i∈ids)->PRep (Mx Z st w ids) p x
 | 0,u,x,p,A,h,_=>by
  simp[bE]at h;obtain⟨H,rfl⟩:=h;exact .any x (A.gu H)
 | n+1,u,x,p,A,h,B=>by
  have S:=AL O ids n;cases u<;>simp only[bE]at h
  case p v=>cases h;exact A.cA.mono (λb o t=>mH t)
  case nil=>cases h;cases A;exact .ry none 0
  case own s g l m =>
   split at h
   .rename_i o t;split at h
    .rename_i ao;obtain⟨ps,k,rfl⟩:=wa.1 h;have r:=O.bR s g o t;have D:=BM k;have af:((o.es.drop l).take m).length=m:=by simp;omega
     rw[af]at D;simp only[aO,t]at B;cases A with
     | dU=>rw[qV D];exact .ry none 0
     | own _ _ _ _ o' b ad c U G e3 e4 e5 e6 =>
      rw[t]at U;cases U;obtain J|J:=Cb m
      .subst J;rw[qV D];exact .ry _ _
      .have V:=e4 J;subst V;obtain⟨z,T,j,k1,k2,k3,k4,k5,k6⟩:=r.bU b G;have C:∀ e∈o.es,(AV.cells e).length=o.sz:=λe E=>by rw[AV.bS (by rw[r.jC e E];exact r.pos),r.jC e E]
       have N:((o.es.drop l).take m).flatMap AV.cells=((o.es.flatMap AV.cells).drop (l*o.sz)).take (m*o.sz):=by rw[Dh AV.cells o.sz _ m (λe E=>C e (lu E)),Dg AV.cells o.sz _ l C]
       obtain⟨r1,r2,r3⟩:=E9 (w:=w) r.pos S (es:=(o.es.drop l).take m) (xs:=(j.drop (l*o.sz)).take (m*o.sz)) (by rw[N];exact(k2.drop _).take _) k
        (λe E=>r.jC e (lu (jA E)))
        (λc I=>by rw[N]at I;exact r.one c (lu (jA I)))
        (λi W=>B i (by
         obtain⟨e,E,X⟩:=kv.1 W;exact bY.2 (.inr (kv.2 ⟨e,lu (jA E),X⟩))))
       have:=PRep.sl (M:=Mx Z st w ids) ps b (l*o.sz) c z T (0,0) o.sz _ (by rw[S' O (B (s,g) (by simp)) t G];exact k1) r.pos r2 r3 r1
        (λi y R=>by
         rw[Bi]at R;split at R
         .rw[Bj]at R;exact k3 _ _ R
         .cases R) (by omega) (by omega)
       rwa[D]at this
     | eN _ _ _ _ _ _ _ G=>exact(vv t G).elim
    .cases h
   .cases h
  case ptr s g ix l =>
   split at h
   .rename_i Y;obtain⟨rfl,rfl⟩:=Y;split at h
    .rename_i o t;split at h
     .rename_i e C;obtain⟨q,hq,rfl⟩:=Option.map_eq_some_iff.1 h;have r:=O.bR s g o t;obtain⟨b,hb,rfl⟩:=AT A t;obtain⟨z,T,j,k1,k2,k3,k4,k5,k6⟩:=r.bU b hb;simp only[aO,t]at B;obtain⟨r1,r2,r3⟩:=E9 (w:=w) (n:=n) r.pos S (es:=o.es) (xs:=j) (ps:=[q]) k2 (by rw[C];simp[hq]) r.jC r.one (λi W=>B i (by simp only[List.mem_cons];exact .inr W));simp only[Nat.zero_mul,Nat.add_zero];exact .ref q b 0 z T (0,0) j (by rw[S' O (B (s,g) (by simp)) t hb];exact k1) (by rw[r2 q (by simp)];exact r.pos) (by simpa using r3) (by simpa using r1) (by simpa using k3)
     .cases h
    .cases h
   .cases h
  case cp v ap l =>
   split at h
   .rename_i J;subst J;cases h;cases A with
    | cp _ _ _ b o z T fr j m0 m1 m2 m3 m4 m5=>exact .ref v b o z T fr j (mH m0) (by omega) m3 (m4.mono (λb o t=>mH t)) m5
   .cases h
  case agg F =>
   obtain⟨ps,k,rfl⟩:=wa.1 h;cases A with
   | agg _ j H L =>
    refine .agg ps j (λc I=>?_) (E3 S L k (by simpa[aO]using B));have Q:∀ {F:List AV} {ps:List PV},(∀ c∈F,c.one=true)->F.mapM (bE st n)=some ps->∀ p∈ps,p.one=true:=by
     intro F
     induction F with
     | nil=>intro ps _ h p hp;rw[Dz h]at hp;simp at hp
     | cons c F ag =>
      intro ps H h p hp;obtain⟨y,ys,U,G,rfl⟩:=DA h;obtain rfl|hp:=bY.1 hp
      .exact NB U (H c (by simp))
      .exact ag (λc I=>H c (by simp[I])) G p hp
    exact Q H k c I
  case fn f al =>
   obtain⟨ps,k,rfl⟩:=wa.1 h;cases A with
   | fn _ _ j L=>exact .fn f ps j (E3 S L k (by simpa[aO]using B))
  case bP vs =>
   obtain⟨ps,k,rfl⟩:=wa.1 h;cases A with
   | bP _ j L=>exact .bP ps j (E3 S L k (by simpa[aO]using B))
  case skip=>cases h
  case undef=>cases h
end
end Go.Ab
