/- Lemmas for the law ProjectAppliesMadeModels, part 1. No conditions. -/
import Derived.Test.YthhdboljpgdcpaaGreatDoorDP00
import Derived.IntWalk
set_option maxRecDepth 100000
set_option maxHeartbeats 4000000
set_option linter.all false
namespace Go.Ab
section
variable {P:Program} {K:Ctx} {Z Z':Cz} {st st':St} {w w':World} {a:Act} {orc:Option bJ} {d:Nat} {v:AV}
theorem Vu{t:TypeId}(h:uE (P.underlying t)=true):∃ e,P.underlying t=some (.slice e):=by
 cases b:P.underlying t with
 | none=>simp[b,uE]at h
 | some d=>cases d<;>simp[b,uE]at h;exact⟨_,rfl⟩
def VB{A:Array TypeId}{t u ty e k:TypeId}{i:TypeInfo}(m:A[0]?=some t)(o:A[1]?=some u)(s:P.underlying t=some (.slice e))(hu:P.underlying u=some (.slice k))(r:P.info? e=some i)
  {g sLen sCap n c:Nat} {ad:Option Addr} {cur:Array Value} {T:TypeId} {b:List Value} (x:(Builtin.firstCells i.size n (.slice ad n c)).run P w=.ok b.toArray w)
  (f:sLen+n<=sCap) (p:w.heap[g]?=some (.cells cur T (0,0))) (j:sLen*i.size+b.length<=cur.size) (l:∀ v∈b,v.oneCell'=true) :
  (Builtin.append_ A ty #[.slice (some ⟨g,0,none⟩) sLen sCap,.slice ad n c]).run P w =
   .ok (.slice (some ⟨g,0,none⟩) (sLen+n) sCap) (w.setRow g (cur.toList.take (sLen*i.size)++b++cur.toList.drop (sLen*i.size+b.length)).toArray):=by
 have h:=run_storeCells_at P g (sLen*i.size) T b 0 cur w p (by omega) l;simp[Builtin.append_,m,o,run_underlying s,run_underlying hu,sizeOf,typeInfo,r,Builtin.lenOf,f,x,vB,h]
def RE{A:Array TypeId}{t u ty e b:TypeId}{i:TypeInfo}(f:A[0]?=some t)(h:A[1]?=some u)(k:P.underlying t=some (.slice e))(hu:P.underlying u=some (.slice b))(j:P.info? e=some i)
  {c:Nat} {ad:Option Addr} (l:(Builtin.firstCells i.size 0 (.slice ad 0 c)).run P w=.ok #[] w) :
  (Builtin.append_ A ty #[.slice none 0 0,.slice ad 0 c]).run P w=.ok (.slice none 0 0) w:=by
 simp[Builtin.append_,f,h,run_underlying k,run_underlying hu,sizeOf,typeInfo,j,Builtin.lenOf,l]
def VA{A:Array TypeId}{t u ty e m:TypeId}{i:TypeInfo}{z:Value}(p:A[0]?=some t)(r:A[1]?=some u)(B:P.underlying t=some (.slice e))(hu:P.underlying u=some (.slice m))(x:P.info? e=some i)(D:i.zero=some z)
  {sLen sCap n c:Nat} {base ad:Option Addr} {old b:List Value} (C:(Builtin.firstCells i.size n (.slice ad n c)).run P w.drew=.ok b.toArray w.drew)
  (y:(Builtin.firstCells i.size sLen (.slice base sLen sCap)).run P w.drew=.ok old.toArray w.drew) (h:sCap<sLen+n) (s:i.bytes<=65536) (l:sLen+n<=eL) :
  (Builtin.append_ A ty #[.slice base sLen sCap,.slice ad n c]).run P w =
   .ok (.slice (some ⟨w.heap.size,0,none⟩) (sLen+n) (grownCap w (sLen+n) sCap e))
    (w.drew.alloc (.cells (old.toArray++b.toArray++Builtin.zeroCells z.cells (grownCap w (sLen+n) sCap e - (sLen+n))) e)):=by
 simp[eL]at l;have E:¬ (sLen+n<=sCap):=by omega
 have k:¬ (9223372036854775807<((sLen:Int)+(n:Int))):=by omega
 have f:(sLen+n)*i.bytes<=140737488355328:=dM (mT l s) (by decide);have o:=growslice_fits (old:=sCap) h f;have j:¬ (281474976710656<Builtin.nextslicecap (sLen+n) sCap*i.bytes):=by omega
 simp[Builtin.append_,p,r,run_underlying B,run_underlying hu,sizeOf,typeInfo,zeroValue,x,D,Builtin.lenOf,Question.forced,C,y,newRow,grownCap]
 grind
def RS(z:Array Value)(n:Nat):(Builtin.zeroCells z n).size=n*z.size:=by simp[Builtin.zeroCells]
def MN{A:Array TypeId}{t u ty e J:TypeId}{i:TypeInfo}{z:Value}(M:A[0]?=some t)(N:A[1]?=some u)(X:P.underlying t=some (.slice e))(hu:P.underlying u=some (.slice J))(S:P.info? e=some i)(hz:i.zero=some z)
  (O:i.bytes<=65536) (D:z.cells.size=i.size) (hp:0<i.size)
  {sLen sCap n c:Nat} {base ad:Option Addr} {old b:List Value} {es xs:List AV} {st:St} (R:bG K Z st w)
  (Y:(Builtin.firstCells i.size n (.slice ad n c)).run P w.drew=.ok b.toArray w.drew) (V:(Builtin.firstCells i.size sLen (.slice base sLen sCap)).run P w.drew=.ok old.toArray w.drew)
  (B:sCap<sLen+n) (G:sLen+n<=eL) (E:aG Z st (es.flatMap AV.cells) old) (F:aG Z st (xs.flatMap AV.cells) b) (l:∀ q∈es++xs,q.sz=i.size) (L:∀ q∈(es++xs).flatMap AV.cells,q.one=true)
  (m:es.length=sLen) (o:xs.length=n) :
  ∃ w' Z' x,(Builtin.append_ A ty #[.slice base sLen sCap,.slice ad n c]).run P w=.ok x w'/\bG K Z' (st.alloc d ⟨i.size,es++xs⟩) w' /\
   aQ Z' (st.alloc d ⟨i.size,es++xs⟩) (.own d (st.site d).length 0 (sLen+n)) x/\cP Z st Z' (st.alloc d ⟨i.size,es++xs⟩):=by
 have W:=VA (P:=P) (w:=w) (ty:=ty) M N X hu S hz Y V B O G;have r:=grownCap_ge w (sLen+n) sCap e;have k:sLen+n<=maxLen:=by simp only[eL]at G;simp[maxLen];omega
 have s:=grownCap_le_maxLen w (sLen+n) sCap e k;generalize grownCap w (sLen+n) sCap e=C at *
 have h:∀ q∈es++xs,(AV.cells q).length=i.size:=λq f=>by rw[AV.bO (by rw[l q f];exact hp),l q f]
 have H:=E.length;have I:=F.length;rw[wE AV.cells i.size es (λq f=>h q (dN.2 (.inl f))),m]at H;rw[wE AV.cells i.size xs (λq f=>h q (dN.2 (.inr f))),o]at I;have Q:=R.drew
 have p:=Q.alloc d ⟨i.size,es++xs⟩ (old.toArray++b.toArray++Builtin.zeroCells z.cells (C - (sLen+n))) e C (old++b) hp l L
  (by rw[Ag];exact E.append F)
  (by
   have:=CA (cur:=(old++b)++(Builtin.zeroCells z.cells (C - (sLen+n))).toList) (vals:=old++b) rfl;intro j y U;have:=this j y U;rw[<- this]
   congr 1
   apply Array.ext';simp[sI])
  (by
   simp only[Array.size_append,GX,RS,H,I,D,<- Nat.add_mul]
   congr 1;omega)
  (by simp[m,o];omega) s
 refine⟨_,_,_,W,p,?_,cP.alloc _ _ _ _ _ _⟩;exact .own d _ 0 (sLen+n) ⟨i.size,es++xs⟩ w.heap.size _ C (by rw[lD,aX ⟨rfl,rfl⟩]) (by simp[Cz.bR]) (λ_=>⟨rfl,by simp[Cz.bR]⟩) (λ_=>by simp) (by simp[m,o]) r
theorem Yh{A:Array TypeId}{t u ty e:TypeId}{x y:Operand}{x' y':bP}(hA:A[0]?=some t)(hB:A[1]?=some u)(ht:P.underlying t=some (.slice e))(hu:uE (P.underlying u)=true)
  (aq:(oV P e).isSome=true) (hb:P.bytesOf e<=65536) (cs:∀ z,oV P e=some z->z.sz=ew P e) (hx:dJ x=some x') (hy:dJ y=some y') (hs:aN K Z st w a)
  (p:bY orc st d (.append (ew P e) x' y')=some (v,st')) :
  Good P K Z st ((do pure (Next.value (<- Builtin.append_ A ty #[a.eval x,a.eval y])):Sem Next).run P w) v st':=by
 have I:=fH hx hs;have bu:=fH hy hs;obtain⟨e',hu⟩:=Vu hu;obtain⟨zv,ce⟩:=Ck.1 aq;have S:=cs zv ce;obtain⟨i,z,O,au,cp⟩:=zX ce;have bk:i.size=ew P e:=by simp[ew,Program.cellsOf,O]
 have al:i.bytes<=65536:=by simpa[Program.bytesOf,O]using hb
 rw[<- bk]at p S;generalize a.eval x=X at I ⊢;generalize a.eval y=Y at bu ⊢;simp only[bY]at p;split at p
 .rename_i xs co;split at p
  .rename_i hc;obtain⟨aw,hp⟩:=hc;have bx:∀ q∈xs,q.sz=i.size:=λq k=>by have:=List.all_eq_true.1 aw q.ey (List.mem_map.2 ⟨q,k,rfl⟩);rw[<- vA];simpa using this
   have C:∀ q∈xs.map AV.ey,q.sz=i.size:=λq k=>by simp at k;obtain⟨r,N,rfl⟩:=k;rw[vA];exact bx r N
   obtain⟨ad,c,f,rfl,ca,cc,J,F⟩:=Yl (P:=P) co bu hs.heap bx hp;have D:aG Z st ((xs.map AV.ey).flatMap AV.cells) f:=by rw[H8];exact IE ca
   have E:∀ q∈(xs.map AV.ey).flatMap AV.cells,q.one=true:=λq k=>by rw[H8]at k;simp only[cA]at k;obtain⟨r,N,rfl⟩:=k;exact Ly (cc r N)
   have av:z.cells.size=i.size:=by have:=((cp Z st).cells (by omega));have L:=this.1.length;simp at L;rw[L,this.2.1,S]
   have ap:(xs.map AV.ey).length=xs.length:=by simp
   split at p
   .rename_i af;rw[af]at I;cases I;split at p
    .rename_i hl;simp only[cD,c5]at p;obtain⟨rfl,rfl⟩:=p;by_cases h0:xs=[]
     .subst h0;have hf:=F w rfl;simp at J;subst J;have N:=RE (P:=P) (w:=w) (ty:=ty) hA hB ht hu O (ad:=ad) (c:=c) hf;refine tN N (hs.heap.iQ d i.size hp) ?_ (cP.alloc _ _ _ _ _ _);exact .d' d _ ⟨i.size,[]⟩ (by rw[lD,aX ⟨rfl,rfl⟩];rfl) (by simp[Cz.bR])
     .have bt:0<xs.length:=Dd.2 h0
      obtain⟨w',Z',r,L,V,W,h4⟩:=MN (P:=P) (K:=K) (Z:=Z) (w:=w) (d:=d) (ty:=ty) (base:=none) (sLen:=0) (sCap:=0) (old:=[]) (es:=[]) (xs:=xs.map AV.ey) (st:=st) hA hB ht hu O au al av hp hs.heap (F w.drew rfl)
       (by simp[Builtin.firstCells]) (by omega) (by omega) .nil D (by simpa using C) (by simpa using E) rfl ap
      simp only[sG,uP]at L V W h4;exact tN L V W h4
    .cases p
   .rename_i s g cv l af;rw[af]at I;split at p
    .rename_i o ho;split at p
     .rename_i hc;obtain⟨rfl,Q,m,R⟩:=hc;simp only[cD,c5]at p;obtain⟨rfl,rfl⟩:=p;have M:=hs.heap.bT s g o ho;have hk:aI st [(s,g)]=st.kill s g:=rfl;rw[hk];have ag:=hs.heap.kill s g;have G:=cP.kill Z st s g;cases I with
      | d' _ _ o' e1 e2 =>
       rw[ho]at e1;cases e1;have cn:=M.x5 e2;rw[cn];simp only[uP,sG]at R ⊢;by_cases h0:xs=[]
       .subst h0;have hf:=F w rfl;simp at J;subst J;have N:=RE (P:=P) (w:=w) (ty:=ty) hA hB ht hu O (ad:=ad) (c:=c) hf;refine tN N (ag.iQ d i.size hp) ?_ (G.trans (cP.alloc _ _ _ _ _ _));exact .d' d _ ⟨i.size,[]⟩ (by rw[lD,aX ⟨rfl,rfl⟩];rfl) (by simp[Cz.bR])
       .have bt:0<xs.length:=Dd.2 h0
        obtain⟨w',Z',r,L,V,W,h4⟩:=MN (P:=P) (K:=K) (Z:=Z) (w:=w) (d:=d) (ty:=ty) (base:=none) (sLen:=0) (sCap:=0) (old:=[]) (es:=[]) (xs:=xs.map AV.ey) (st:=st.kill s g) hA hB ht hu O au al av hp ag (F w.drew rfl)
         (by simp[Builtin.firstCells]) (by omega) (by omega) .nil (D.mono G) (by simpa using C) (by simpa using E) rfl ap
        simp only[sG,uP]at L V W h4;exact tN L V W (G.trans h4)
      | own _ _ _ _ o' b ct c' e1 e2 e3 e4 e5 e6 =>
       rw[ho]at e1;cases e1;obtain⟨rfl,rfl⟩:=e3 rfl;obtain⟨n,T,ov,k1,k2,k3,k4,k5,k6⟩:=M.bX b e2;obtain⟨U,H⟩:=Hv k3;have cm:∀ q∈o.es,(AV.cells q).length=o.sz:=λq k=>by rw[AV.bO (by rw[M.iI q k];exact M.pos),M.iI q k]
       have ao:=k2.length;rw[wE AV.cells o.sz o.es cm,<- Q]at ao;by_cases B:l+xs.length<=Z.cap s g
       .have cu:n.size=(ov++U).length:=by rw[<- H];simp
        have bb:l*i.size+f.length<=n.size:=by rw[J,<- Nat.add_mul,k4,m];exact jU _ B
        have N:=VB (P:=P) (w:=w) (ty:=ty) hA hB ht hu O (F w rfl) B k1 bb (Gx ca cc);have br:n.toList.take (l*i.size)++f++n.toList.drop (l*i.size+f.length)=(ov++f)++U.drop f.length:=by rw[H,<- m,<- ao,List.take_left,List.drop_append];rw[xY (by omega),uP,Nat.add_sub_cancel_left]
        have bo:=hs.heap.move ho e2 d (o.es++xs.map AV.ey) (n.toList.take (l*i.size)++f++n.toList.drop (l*i.size+f.length)).toArray (ov++f)
         (λq k=>by
          obtain h|h:=dN.1 k
          .exact M.iI q h
          .rw[m];exact C q h)
         (λq k=>by
          rw[Ag]at k;obtain h|h:=dN.1 k
          .exact M.one q h
          .exact E q h)
         (by simp;omega) (by rw[Ag];exact k2.append D) (CA br)
         (by
          rw[<- k4];have cf:n.toList.length=n.size:=by simp
          simp only[GX,gQ,fY,lp,cf];omega)
        rw[<- m];refine tN N bo.1 ?_ bo.2;exact .own d _ 0 (l+xs.length) ⟨o.sz,o.es++xs.map AV.ey⟩ b _ _ (by rw[lD,aX ⟨rfl,rfl⟩]) (by simp[Cz.bR]) (λ_=>⟨rfl,by simp[Cz.bR]⟩) (λ_=>by simp) (by simp;omega) B
       .obtain⟨w',Z',r,L,V,W,h4⟩:=MN (P:=P) (K:=K) (Z:=Z) (w:=w) (d:=d) (ty:=ty) (base:=some ⟨b,0,none⟩) (sLen:=l) (sCap:=Z.cap s g) (old:=ov) (es:=o.es) (xs:=xs.map AV.ey) (st:=st.kill s g) hA hB ht hu O au al av hp ag (F w.drew rfl)
         (run_firstCells_some w.drew i.size l ⟨b,0,none⟩ l _ ov (by rw[ao,m]) (λj y hy=>by
          rw[vB,cell_of_row w.drew b _ n T (0,0) k1];simpa using k3 j y hy))
         (by omega) R (k2.mono G) (D.mono G)
         (λq k=>by
          obtain h|h:=dN.1 k
          .rw[<- m];exact M.iI q h
          .exact C q h)
         (λq k=>by
          rw[Ag]at k;obtain h|h:=dN.1 k
          .exact M.one q h
          .exact E q h) Q.symm ap
        exact tN L V W (G.trans h4)
      | eO _ _ _ _ _ _ _ e2=>exact(uH ho e2).elim
     .cases p
    .cases p
   .cases p
  .cases p
 .cases p
def WL{A:Array TypeId}{t u ty e:TypeId}{k k':IntKind}{i:TypeInfo}{z:Value}(x:A[0]?=some t)(y:A[1]?=some u)(E:P.underlying t=some (.slice e))(hu:P.underlying u=some (.int k))(C:P.info? e=some i)(G:i.zero=some z)
  {n:Nat} (H:0<n) (hp:0<i.size) (B:i.bytes<=65536) (r:n<=eL) :
  (Builtin.append_ A ty #[.slice none 0 0,.int k' n]).run P w =
   .ok (.slice (some ⟨w.heap.size,0,none⟩) n (grownCap w n 0 e)) (w.drew.alloc (.cells (Builtin.zeroCells z.cells n++Builtin.zeroCells z.cells (grownCap w n 0 e - n)) e)):=by
 simp[eL]at r;have F:IntKind.i64.wrap (n:Int)=n:=IntWalk.i64_in n ⟨by omega,by omega⟩;have h:¬ ((n:Int)<0):=by omega
 have D:¬ n=0:=by omega
 have f:¬ (9223372036854775807<(n:Int)):=by omega
 have j:n*i.bytes<=140737488355328:=dM (mT r B) (by decide);have l:¬ (281474976710656<(n:Int)*(i.bytes:Int)):=by omega
 have s:=growslice_fits (old:=0) (need:=n) (by omega) j;have b:¬ (281474976710656<Builtin.nextslicecap n 0*i.bytes):=by omega
 have o:¬ (n=0\/i.size=0):=by omega
 have p:¬ (n*i.size=0):=by rw[Nat.mul_eq_zero];exact o
 have m:max (n:Int) 0=n:=by omega
 simp[Builtin.append_,x,y,run_underlying E,run_underlying hu,sizeOf,typeInfo,zeroValue,C,G,asInt,asIntOf,F,h,D,l,f,b,p,m,Question.forced,newRow,grownCap,Builtin.firstCells]
def U1{A:Array TypeId}{t u ty e:TypeId}{k:IntKind}{x y:Operand}{V W:bP}{D:AV}(hA:A[0]?=some t)(hB:A[1]?=some u)(ht:P.underlying t=some (.slice e))(hu:P.underlying u=some (.int k))
  (hz:oV P e=some D) (hb:P.bytesOf e<=65536) (hx:dJ x=some V) (hy:dJ y=some W) (hs:aN K Z st w a)
  (h:bY orc st d (.fE (ew P e) D V W)=some (v,st')) :
  Good P K Z st ((do pure (Next.value (<- Builtin.append_ A ty #[a.eval x,a.eval y])):Sem Next).run P w) v st':=by
 have b:=fH hx hs;have r:=fH hy hs;obtain⟨i,z,I,Q,S⟩:=zX hz;have o:i.size=ew P e:=by simp[ew,Program.cellsOf,I]
 have J:i.bytes<=65536:=by simpa[Program.bytesOf,I]using hb
 rw[<- o]at h;generalize a.eval x=X at b ⊢;simp[bY]at h;split at h
 .rename_i n E s;split at h
  .rename_i hc;obtain⟨L,U,f,M⟩:=hc;obtain⟨rfl,rfl⟩:=h;rw[E]at b;cases b;obtain⟨k1,e1⟩:=yD s;rw[e1]at r;rw[r.dK];have hr:=WL (P:=P) (w:=w) (ty:=ty) (k':=k1) hA hB ht hu I Q L M J U;have G:=grownCap_ge w n 0 e;have p:n<=maxLen:=by simp[eL]at U;simp[maxLen];omega
   have H:=grownCap_le_maxLen w n 0 e p;generalize grownCap w n 0 e=C at *
   have N:=FR (S Z st);obtain⟨Y,y2,y3⟩:=N.cells (by rw[vA,f];exact M);have R:z.cells.size=i.size:=by have:=Y.length;simp at this;rw[this,y2,vA,f]
   have O:∀ m,(Builtin.zeroCells z.cells m).toList=(List.replicate m z.cells.toList).flatten:=λm=>I8 z.cells m
   have F:=hs.heap.drew.alloc d ⟨i.size,List.replicate n D.ey⟩ (Builtin.zeroCells z.cells n++Builtin.zeroCells z.cells (C - n)) e C (Builtin.zeroCells z.cells n).toList M
    (λq B=>by rw[(Ch.1 B).2,vA,f])
    (λq B=>by
     rw[B6]at B;obtain⟨l,E,s⟩:=JH.1 B;rw[(Ch.1 E).2]at s;exact y3 q s)
    (by rw[O,B6];exact Gw Y n)
    (by
     have:=CA (cur:=(Builtin.zeroCells z.cells n).toList++(Builtin.zeroCells z.cells (C - n)).toList) (vals:=(Builtin.zeroCells z.cells n).toList) rfl;intro j y hj;have:=this j y hj;rw[<- this]
     congr 1
     simp)
    (by simp[Array.size_append,RS,R,<- Nat.add_mul];congr 1;omega)
    (by simp;omega) H
   refine tN hr F ?_ (cP.alloc _ _ _ _ _ _);exact .own d _ 0 n ⟨i.size,List.replicate n D.ey⟩ w.heap.size _ C (by rw[lD,aX ⟨rfl,rfl⟩]) (by simp[Cz.bR]) (λ_=>⟨rfl,by simp[Cz.bR]⟩) (λ_=>by simp) (by simp) G
  .grind
 .grind
def yb0{t:TypeId}{x i:Operand}{l k:bP}(A:P.underlying t=some .string)(B:dJ x=some l)(y:dJ i=some k)(hs:aN K Z st w a)
  (j:bY orc st d (.qK l k)=some (v,st')) :
  Good P K Z st ((do pure (Next.value (<- Instr.index t (a.eval x) (a.eval i))):Sem Next).run P w) v st':=by
 have f:=fH B hs;have h:=fH y hs;generalize a.eval x=X at f ⊢;simp[bY]at j;split at j
 .rename_i s n o r;split at j
  .rename_i b u;obtain⟨rfl,rfl⟩:=j;obtain⟨C,m⟩:=yD r;rw[m]at h;rw[h.dK];rw[o]at f;cases f.cF;have z:(Instr.index t (.string s) (.int C n)).run P w=.ok (.int .u8 b.toNat) w:=by simp[Instr.index,asIntOf,run_underlying A,u]
   exact iH z hs (.p _ _ (.int _ _))
  .grind
 .grind
end
section
variable {P:Program} {K:Ctx} {Z Z':Cz} {st st':St} {w w':World} {a:Act} {orc:Option bJ} {d:Nat} {v:AV}
theorem Kv{M:Nat->Option Obj}:∀ {xs i:List PV} {b vs:List Value} {r m:List IntKind},kA r xs=true->kA m i=true->PReps M xs b->PReps M i vs->(tD xs i=true ↔ b=vs)
 | [],[],b,vs,_,_,_,_,f,h=>by cases f;cases h;simp[tD]
 | [],y::i,b,vs,_,_,_,_,f,h=>by
  cases f;cases h;cases y<;>simp[tD]
 | x::xs,[],b,vs,_,_,_,_,f,h=>by
  cases f;cases h;cases x<;>simp[tD]
 | x::xs,y::i,b,vs,q::r,D::m,j,l,f,h=>by
  cases x<;>simp only[kA,gP]at j;cases y<;>simp only[kA,gP]at l;rename_i k n B C;cases f with
  | cons _ E _ z s o =>
   cases h with
   | cons _ F _ A t p =>
    cases s;cases t;simp only[jO]at j l;have u:=Kv j.2 l.2 o p;simp only[tD,jO,decide_eq_true_eq,List.cons.injEq,Value.int.injEq,u]
 | x::xs,y::i,b,vs,[],_,j,_,_,_=>by cases x<;>simp[kA]at j
 | x::xs,y::i,b,vs,_::_,[],_,l,_,_=>by cases y<;>simp[kA]at l
theorem Ry{kt e:TypeId}{q:IntKind}{M:Nat->Option Obj}(o:P.underlying e=some (.int q))(j:P.cellsOf e=1)(d:Nat):∀ (n:Nat) {kc:List PV} {vals:List Value},kA (List.replicate n q) kc=true->PReps M kc vals ->
  vals.length=n/\∀ i,i<n->∃ l,P.keyLits (d+1) e ((vals.drop (i*P.cellsOf e)).take (P.cellsOf e))=some l
 | 0,[],vals,_,h=>by cases h;exact⟨rfl,λi r=>by omega⟩
 | 0,x::kc,vals,b,h=>by simp[kA]at b
 | n+1,[],vals,b,h=>by simp[Cj,kA]at b
 | n+1,x::kc,vals,b,h=>by
  rw[Cj]at b;cases x<;>simp only[kA,gP]at b;rename_i k m;simp only[jO,decide_eq_true_eq]at b;obtain⟨⟨rfl,s⟩,b⟩:=b;cases h with
  | cons _ z _ y t f =>
   cases t;obtain⟨u,p⟩:=Ry (kt:=kt) o j d n b f;refine⟨by simp[u],λi r=>?_⟩;rw[j]at p ⊢;cases i with
   | zero=>exact⟨[.int k m],by simp[Program.keyLits,o,s]⟩
   | succ i=>simpa using p i (by omega)
theorem MZ{α β : Type}{f : α -> Option β}:∀ {l:List α},(∀ x∈l,∃ y,f x=some y)->∃ i,l.mapM f=some i
 | [],_=>⟨[],rfl⟩
 | x::l,h=>by obtain⟨y,j⟩:=h x (by simp);obtain⟨i,b⟩:=MZ (l:=l) λz k=>h z (by simp[k]);exact⟨y::i,by simp[Cg,j,b]⟩
theorem QA{kt e:TypeId}{n:Nat}{q:IntKind}{M:Nat->Option Obj}(b:P.underlying kt=some (.array n e))(m:P.underlying e=some (.int q))(hn:P.cellsOf kt=n)(s:P.cellsOf e=1)(z:0<P.types.size)
  {kc:List PV} {vals:List Value} (h:kA (List.replicate n q) kc=true) (u:PReps M kc vals):∃ l,keyOf P kt (.agg vals.toArray)=some l:=by
 obtain⟨d,k⟩:∃ d,P.types.size+1=d+2:=⟨P.types.size - 1,by omega⟩;have p:P.keyType kt=true:=by unfold Program.keyType;rw[k];simp[Program.keyTypeAt,b,m]
 obtain⟨o,x⟩:=Ry (kt:=kt) m s d n h u;have r:(Value.agg vals.toArray).formed P kt=true:=by simp[Value.formed,b,hn,o]
 obtain⟨y,j⟩:=MZ (l:=List.range n) (f:=λi=>P.keyLits (d+1) e ((vals.drop (i*P.cellsOf e)).take (P.cellsOf e))) λi t=>x i (yF.1 t);refine⟨.string (keyBytes y.flatten),?_⟩
 .simp only[keyOf,b,p,r,GU,cH,k];rw[show d+2=(d+1)+1 from rfl,Program.keyLits.eq_def];simp only[b,Value.cells,o,hn,cH,j,E4]
def Tr{kt e:TypeId}{n:Nat}{q:IntKind}(b:P.underlying kt=some (.array n e))(f:P.underlying e=some (.int q))(hn:P.cellsOf kt=n)(h:P.cellsOf e=1):WideMaps.KeyLaw P kt :=
 deep_law (m:=2) (by omega) (by simp[Program.keyTypeAt,b,f]) (by simp[Program.tiled,b,f,hn,h]) (by simp[b])
theorem Qz{M:Nat->Option Obj}(d:Nat):∀ {n:List Field} {j:Nat} {o:List IntKind} {kc:List PV} {vals pre:List Value},EM P n j=some o->kA o kc=true->PReps M kc vals->pre.length=j ->
  vals.length=n.length/\(∀ f∈n,(f.name != "_")=true)/\∀ f∈n,∃ y,P.keyLits (d+1) f.type (((pre++vals).drop f.offset).take (P.cellsOf f.type))=some y
 | [],j,o,kc,vals,pre,h,b,p,_=>by
  simp only[EM,cD]at h;subst h;cases kc with
  | nil=>cases p;exact⟨rfl,by simp,by simp⟩
  | cons x kc=>simp[kA]at b
 | f::n,j,o,kc,vals,pre,h,b,p,s=>by
  simp only[EM]at h;split at h
  .rename_i q B;split at h
   .rename_i A;obtain⟨t,u,z⟩:=A;cases l:EM P n (j+1)with
    | none=>rw[l]at h;cases h
    | some H =>
     rw[l]at h;simp only[E4,cD]at h;subst h;cases kc with
     | nil=>simp[kA]at b
     | cons x kc =>
      cases x<;>simp only[kA,gP]at b;rename_i k m;simp only[jO,decide_eq_true_eq]at b;obtain⟨⟨rfl,C⟩,b⟩:=b;cases p with
      | cons _ J _ I D r =>
       cases D;obtain⟨E,F,G⟩:=Qz d (pre:=pre++[.int k m]) l b r (by simp[s]);refine⟨by simp[E],λg i=>?_,λg i=>?_⟩
       .obtain rfl|i:=cI.1 i
        .simpa using t
        .exact F g i
       .obtain rfl|i:=cI.1 i
        .refine⟨[.int k m],?_⟩;rw[u,z,<- s];simp[Program.keyLits,B,C]
        .simpa using G g i
   .cases h
  .cases h
theorem Qq{kt:TypeId}{x:List IntKind}(h:Fx P kt=some x):WideMaps.KeyLaw P kt/\∀ {M:Nat->Option Obj} {kc:List PV} {vals:List Value},kA x kc=true->PReps M kc vals->∃ l,keyOf P kt (.agg vals.toArray)=some l:=by
 unfold Fx at h;split at h
 .rename_i n e i;split at h
  .rename_i q t;split at h
   .rename_i b;cases h;exact⟨Tr i t b.1 b.2.1,λo p=>QA i t b.1 b.2.1 b.2.2 o p⟩
   .cases h
  .cases h
 .rename_i s i;split at h
  .rename_i b;obtain⟨y,z,A,B,H⟩:=b;refine⟨deep_law (m:=2) (by omega) y A (by simp[i]),λ{M kc vals} o p=>?_⟩;obtain⟨d,C⟩:∃ d,P.types.size+1=d+2:=⟨P.types.size - 1,by omega⟩;obtain⟨D,E,F⟩:=Qz (pre:=[]) d h o p rfl;have u:vals.length=P.cellsOf kt:=by rw[D,B];simp
   have k:(Value.agg vals.toArray).formed P kt=true:=by simp[Value.formed,i,u]
   obtain⟨G,r⟩:=MZ (l:=s.toList) (f:=λf=>P.keyLits (d+1) f.type ((vals.drop f.offset).take (P.cellsOf f.type))) λf k=>by simpa using F f k
   have j:s.all (λf=>f.name != "_")=true:=by rw[Array.all_eq_true_iff_forall_mem];intro f k;exact E f (by simpa using k)
   refine⟨.string (keyBytes G.flatten),?_⟩;simp only[keyOf,i,z,k,GU,cH,C];rw[show d+2=(d+1)+1 from rfl,Program.keyLits.eq_def];simp only[i,Value.cells,u,j,and_self,cH,r,E4]
  .cases h
 .cases h
theorem Mz{kt:TypeId}{p:List IntKind}{M:Nat->Option Obj}(h:∀ {kc:List PV} {vals:List Value},kA p kc=true->PReps M kc vals->∃ l,keyOf P kt (.agg vals.toArray)=some l):∀ {ks:List PV} {es:List MapEntry},ks.all (sA p)=true->PReps M ks (es.map (·.key))->∀ e∈es,∃ l,keyOf P kt e.key=some l
 | [],[],_,_,e,r=>by cases r
 | [],e::es,_,h,_,_=>by cases h
 | k::ks,[],_,h,_,_=>by cases h
 | k::ks,e::es,f,o,n,b=>by
  simp only[List.all_cons,jO]at f;simp only[jH]at o;cases o with
  | cons _ _ _ _ i j =>
   obtain rfl|b:=cI.1 b
   .obtain⟨f,_⟩:=f;cases k<;>simp only[sA,gP]at f;generalize n.key=s at i;cases i with
    | agg _ t _ m=>exact h f m
   .exact Mz h f.2 j n b
theorem RB{M:Nat->Option Obj}{G:List IntKind}{kc:List PV}{vals:List Value}(r:kA G kc=true)(F:PReps M kc vals):∀ {ks vs:List PV} {es:List MapEntry},ks.all (sA G)=true->PReps M ks (es.map (·.key))->PReps M vs (es.map (·.val))->(es.map (·.key)).Nodup ->
  ((∀ e:MapEntry,e∈es->e.key ≠ .agg vals.toArray)->oE kc ks vs=none)/\∀ (j:Nat) (e:MapEntry),es[j]?=some e->e.key=.agg vals.toArray->∃ v,oE kc ks vs=some v/\PRep M v e.val
 | [],vs,es,_,n,u,_=>by
  cases es with
  | nil=>cases u;exact⟨λ_=>rfl,λj e h=>by simp at h⟩
  | cons e es=>cases n
 | k::ks,vs,[],_,n,_,_=>by cases n
 | k::ks,vs,e::es,y,n,u,l=>by
  simp only[List.all_cons,jO]at y;simp only[jH]at n u l;cases n with
  | cons _ _ _ _ E z =>
   cases u with
   | cons v _ vs _ J C =>
    obtain⟨N,O⟩:=RB r F y.2 z C (uL.1 l).2;cases k<;>simp only[sA,gP,false_and]at y;rename_i c;generalize o:e.key=Q at E l;cases E with
    | agg _ D _ B =>
     have p:=Kv y.1 r B F;have f:(Value.agg D.toArray=.agg vals.toArray) ↔ D=vals:=by
      constructor
      .intro h;have:=congrArg (λv=>match v with|Value.agg H=>H.toList|_=>[]) h;simpa using this
      .rintro rfl;rfl
     by_cases s:D=vals
     .refine⟨λh=>absurd (o.trans (f.2 s)) (h e (by simp)),λj t m i=>?_⟩;have b:oE kc (.agg c::ks) (v::vs)=some v:=by simp[oE,p.2 s]
      cases j with
      | zero=>simp at m;subst m;exact⟨v,b,J⟩
      | succ j =>
       exfalso;simp at m;have I:t∈es:=wM m;refine(uL.1 l).1 (cA.2 ⟨t,I,?_⟩);rw[i];exact(f.2 s).symm
     .have A:¬ tD c kc=true:=λh=>s (p.1 h);have b:oE kc (.agg c::ks) (v::vs)=oE kc ks vs:=by simp[oE,A]
      rw[b];refine⟨λh=>N λx L=>h x (by simp[L]),λj t m i=>?_⟩;cases j with
      | zero=>simp at m;subst m;exact absurd (f.1 (o.symm.trans i)) s
      | succ j=>exact O j t (by simpa using m) i
end
section
variable {P:Program} {K:Ctx} {Z Z':Cz} {st st':St} {w w':World} {a:Act} {orc:Option bJ} {d:Nat} {v:AV}
def Yp{t:TypeId}{k:Option IntKind}(h:BQ P t=some k):(isAgg t).run P w=.ok false w:=by unfold BQ at h;split at h<;>first|(rename_i e;rw[Gd w e];rfl)|cases h
def Iz{t:TypeId}{k:Option IntKind}{cs:Array Value}{j:Nat}{x:Value}(h:BQ P t=some k)(b:cs[j]?=some x):(part t cs j).run P w=.ok x w:=by simp[part,Yp (w:=w) h,b]
def T7{M:Nat->Option Obj}{t:TypeId}{k:Option IntKind}{ks:List (Option IntKind)}{dp:Nat}{u z:PV}{D zs:List PV}{x y:Value}{r:Bool}(j:BQ P t=some k)(B:PRep M u x)(C:PRep M z y)
  (f:tP (k::ks) (u::D) (z::zs)=some r) :
  ∃ b l,(Op.equalIn (dp+1) t x y).run P w=.ok b w/\tP ks D zs=some l/\r=(b&&l):=by
 unfold BQ at j;unfold tP at f;split at f
 .rename_i h;cases h
 .rename_i H A I m F J n G o p s;cases o;cases p;cases s;cases B;cases C;split at f
  .rename_i E;obtain⟨rfl,rfl⟩:=E;split at f
   .rename_i l i;cases f;split at j
    .rename_i e;exact⟨_,l,run_equalIn_int w dp t _ _ m n e,i,rfl⟩
    .cases j
    .cases j
   .cases f
  .cases f
 .rename_i A m F n G o p s;cases o;cases p;cases s;cases B;cases C;split at f
  .rename_i l i;cases f;split at j
   .cases j
   .rename_i e;exact⟨_,l,run_equalIn_bool w dp t m n e,i,rfl⟩
   .cases j
  .cases f
 .cases f
theorem Ru{k:Option IntKind}{ks:List (Option IntKind)}{xs f:List PV}{r:Bool}(h:tP (k::ks) xs f=some r):∃ u b z zs,xs=u::b/\f=z::zs:=by
 cases xs with
 | nil=>cases k<;>simp[tP]at h
 | cons u b =>
  cases f with
  | nil=>cases k<;>cases u<;>simp[tP]at h
  | cons z zs=>exact⟨u,b,z,zs,rfl,rfl⟩
theorem Q6{M:Nat->Option Obj}{dp:Nat}{X Y:Array Value}:∀ (s:List Field) (j:Nat) (ks:List (Option IntKind)) (i m:List PV) (xs t:List Value) (r:Bool),Gl P s j=some ks ->
  PReps M i xs->PReps M m t->X.toList.drop j=xs->Y.toList.drop j=t->tP ks i m=some r->(Op.eqFields (dp+1) X Y s).run P w=.ok r w
 | [],j,ks,i,m,xs,t,r,h,_,_,_,_,n=>by
  simp[Gl]at h;subst h;cases i<;>cases m<;>simp[tP]at n;subst n;rfl
 | f::s,j,ks,i,m,xs,t,r,h,U,V,B,C,n=>by
  simp only[Gl]at h;split at h
  .rename_i Q;obtain⟨S,rfl⟩:=Q;split at h
   .rename_i k l A R;cases h;obtain⟨u,us,z,zs,rfl,rfl⟩:=Ru n;cases U with
    | cons _ x _ o J L =>
     cases V with
     | cons _ y _ p N O =>
      obtain⟨b,r',F,G,rfl⟩:=T7 (P:=P) (w:=w) (dp:=dp) A J N n;have H:X[f.offset]?=some x:=by have:=congrArg (·[0]?) B;simpa[List.getElem?_drop]using this
      have I:Y[f.offset]?=some y:=by have:=congrArg (·[0]?) C;simpa[List.getElem?_drop]using this
      have D:X.toList.drop (f.offset+1)=o:=by rw[<- List.drop_drop,B];rfl
      have E:Y.toList.drop (f.offset+1)=p:=by rw[<- List.drop_drop,C];rfl
      have W:=Q6 (dp:=dp) s (f.offset+1) l us zs o p r' R L O D E G;simp only[Op.eqFields,S,ne_eq,not_false_eq_true,cH,mW,Iz A H,Iz A I,qF,F];cases b
      .simp
      .simpa using W
   .cases h
  .cases h
theorem Ym{M:Nat->Option Obj}{dp n:Nat}{X Y:Array Value}{e:TypeId}{k:Option IntKind}(J:BQ P e=some k)(I:∃ i,P.info? e=some i/\i.size=1){t:TypeId}(ht:P.underlying t=some (.array n e)){f h:List PV}{r:Bool}
  (A:PReps M f X.toList) (B:PReps M h Y.toList) (l:tP (List.replicate n k) f h=some r):(Op.equalIn (dp+2) t (.agg X) (.agg Y)).run P w=.ok r w:=by
 obtain⟨i,I,hs⟩:=I;obtain⟨D,hD⟩:∃ D,D=dp+1:=⟨_,rfl⟩;have F:dp+2=D+1:=by omega
 rw[F];simp only[Op.equalIn,mW,run_underlying ht,qF,sizeOf,typeInfo,run_program,I,oJ,hs,Nat.mul_one];rw[Std.Legacy.Range.forIn_eq_forIn_range'];have hr:List.range' [:n].start [:n].size [:n].step=List.range' 0 n:=by simp[Std.Legacy.Range.size]
 rw[hr]
 have N:∀ (m j:Nat) (f h:List PV) (C E:List Value) (r:Bool),PReps M f C->PReps M h E->X.toList.drop j=C->Y.toList.drop j=E->tP (List.replicate m k) f h=some r ->
   ((Sem.run P (forIn (m:=Sem) (List.range' j m) ((none:Option Bool),()) λi __s=>do
      let __do_lift <- part e X i
      let __do_lift_1 <- part e Y i
      let __do_lift <- Op.equalIn D e __do_lift __do_lift_1
      if (!__do_lift)=true then pure (ForInStep.done (some false,()))else pure (ForInStep.yield (none,()))) w).andThen
    λa w'=>Sem.run P (match a.fst with|some r=>pure r|none=>pure true) w')=.ok r w:=by
  intro m
  induction m with
  | zero =>
   intro j f h C E r A B G H l;cases f<;>cases h<;>simp[tP]at l;subst l;simp
  | succ m L =>
   intro j f h C E r A B G H l;rw[Cj]at l;obtain⟨u,us,z,zs,rfl,rfl⟩:=Ru l;cases A with
   | cons _ x _ o V W =>
    cases B with
    | cons _ y _ s h3 h4 =>
     obtain⟨b,r',O,F,rfl⟩:=T7 (P:=P) (w:=w) (dp:=dp) J V h3 l;rw[<- hD]at O;have S:X[j]?=some x:=by have:=congrArg (·[0]?) G;simpa[List.getElem?_drop]using this
     have U:Y[j]?=some y:=by have:=congrArg (·[0]?) H;simpa[List.getElem?_drop]using this
     have Q:X.toList.drop (j+1)=o:=by rw[<- List.drop_drop,G];rfl
     have R:Y.toList.drop (j+1)=s:=by rw[<- List.drop_drop,H];rfl
     have L:=L (j+1) us zs o s r' W h4 Q R F;simp only[List.range'_succ,List.forIn_cons,mW,Iz J S,Iz J U,qF,O];cases b
     .simp
     .simpa using L
 refine Eq.trans ?_ (N n 0 f h X.toList Y.toList r A B rfl rfl l)
 congr 1
 funext p w';obtain⟨_|_,_⟩:=p<;>rfl
def yb9{C:BinOp}{t:TypeId}{ks:List (Option IntKind)}{x y:Operand}{O R:bP}(f:LX P t=some ks)(W:dJ x=some O)(hy:dJ y=some R)(hs:aN K Z st w a)
  (k:bY orc st d (.j' ks C O R)=some (v,st')) :
  Good P K Z st ((do pure (Next.value (<- (do eqGuard C t x y (a.eval x) (a.eval y);binOp C t (a.eval x) (a.eval y)))):Sem Next).run P w) v st':=by
 have H:=fH W hs;have I:=fH hy hs;simp only[bY]at k;split at k
 .rename_i r h;simp only[cD,c5]at k;obtain⟨rfl,rfl⟩:=k;unfold j' at h;split at h
  .rename_i Q S U V;rw[U]at H;rw[V]at I;have M:=H.cF;have N:=I.cF;generalize a.eval x=X at M ⊢;generalize a.eval y=Y at N ⊢;cases M with
   | agg _ m _ J =>
    cases N with
    | agg _ o _ L =>
     have l:∀ r,tP ks Q S=some r->(Op.equal t (.agg m.toArray) (.agg o.toArray)).run P w=.ok r w/\P.eqGuardType P.depth t=false:=by
      intro r j;unfold LX at f;split at f
      .rename_i G u;split at f
       .rename_i b;have z:P.underlying t=some (.struct (P.fieldsOf t)):=by simp[Program.fieldsOf,u]
        have A:P.fieldsOf t=G:=by simp[Program.fieldsOf,u]
        refine⟨?_,b.2⟩;have:=run_equalIn_struct (P:=P) w 9999 t m.toArray o.toArray z b.1;unfold Op.equal Op.maxDepth;rw[this,A];exact Q6 (dp:=9998) G.toList 0 ks Q S m o r f J L (by simp) (by simp) j
       .cases f
      .rename_i n e u;split at f
       .rename_i b;obtain⟨kk,B,rfl⟩:=wL.1 f;have s:∃ i,P.info? e=some i/\i.size=1:=by
         cases s:P.info? e with
         | none=>simp[s]at b
         | some i=>simp[s]at b;exact⟨i,rfl,b.1⟩
        exact⟨Ym (dp:=9998) B s u (by simpa using J) (by simpa using L) j,b.2⟩
       .cases f
      .cases f
     split at h
     .rename_i F j;obtain⟨D,E⟩:=l F j;cases h;have b:=run_eqGuard_agg (P:=P) w .eql t x y m.toArray o.toArray E;exact iH (by simp[b,binOp,D]) hs (.p _ _ (.bool _))
     .rename_i F j;obtain⟨D,E⟩:=l F j;cases h;have b:=run_eqGuard_agg (P:=P) w .neq t x y m.toArray o.toArray E;exact iH (by simp[b,binOp,D]) hs (.p _ _ (.bool _))
     .cases h
  .cases h
 .cases k
end
def sq(M:Nat->Option Obj)(w0 w:World):RV->Value->Prop
 | .pure v,x=>PRep M v x
 | .fresh l k,x=>(k=[]/\x=.slice none 0 0)\/∃ (b f:Nat) (j:Array Value) (T:TypeId) (h:List Value),x=.slice (some ⟨b,0,none⟩) k.length f/\w0.heap.size<=b/\M b=none /\
   w.heap[b]?=some (.cells j T (0,0))/\PReps M (k.flatMap PV.cells) h/\(∀ (i:Nat) (v:Value),h[i]?=some v->j[i]?=some v)/\j.size=f*l/\k.length<=f/\f<=maxLen /\
   (∀ c∈k.flatMap PV.cells,c.one=true)
 | .same _,_=>False
 | .oo _ _ _ _,_=>False
def sr(M:Nat->Option Obj)(w:World)(b:Option Nat)(cap sz:Nat)(es:List PV):Prop :=
 0<sz/\(∀ e∈es,e.sz=sz)/\(∀ c∈es.flatMap PV.cells,c.one=true)/\(b=none->es=[]) /\
 ∀ j,b=some j->M j=none/\∃ (h:Array Value) (T:TypeId) (f:List Value),w.heap[j]?=some (.cells h T (0,0))/\PReps M (es.flatMap PV.cells) f /\
  (∀ (i:Nat) (v:Value),f[i]?=some v->h[i]?=some v)/\h.size=cap*sz/\es.length<=cap/\cap<=maxLen
def DK(p:PV)(es:List PV)(b:Option Nat)(cap:Nat)(x:Value):Prop :=
 (p=.sl es/\x=match b with|none=>.slice none 0 0|some b=>.slice (some ⟨b,0,none⟩) es.length cap) \/
 (∃ e f,p=.ref e/\es=[e]/\b=some f/\x=.pointer (some ⟨f,0,none⟩))
def DJ(M:Nat->Option Obj)(w0 w:World)(b:Option Nat)(cap n:Nat):RV->Value->Prop
 | .same l,x=>l<=n/\x=match b with|none=>.slice none 0 0|some b=>.slice (some ⟨b,0,none⟩) l cap
 | r,x=>sq M w0 w r x
def gO(P:Program)(f:FuncId)(args:List PV)(i sz:Nat)(m:List PV)(s:RV):Prop :=
 (∃ r,P.funcs[f]?=some r/\r.body.isSome=true/\r.name ≠ "runtime.NumGoroutine") /\
 ∀ (w:World) (M:Nat->Option Obj) (h:List Value) (b:Option Nat) (k:Nat) (n:List PV),(∀ b o,M b=some o->w.heap[b]?=some o)->h.length=args.length ->
  (∀ p,args[i]?=some p->∃ x,h[i]?=some x/\DK p n b k x)->i<args.length->sr M w b k sz n->(∀ j p,j≠i->args[j]?=some p->∃ x,h[j]?=some x/\PRep M p x) ->
  Calls P f h.toArray w λe w'=>∃ x l,e=.returned x/\(∀ b o,M b=some o->l b=some o)/\(∀ b o,l b=some o->w'.heap[b]?=some o) /\
   (∀ b o,l b=some o->M b=some o\/w.heap.size<=b)/\Keep w w' (λc=>b=some c)/\m.length=n.length/\sr l w' b k sz m/\DJ l w w' b k n.length s x
def Sp(P:Program)(f:FuncId)(args:List PV)(k:RV):Prop :=
 (∃ j,P.funcs[f]?=some j/\j.body.isSome=true/\j.name ≠ "runtime.NumGoroutine") /\
 ∀ (w:World) (M:Nat->Option Obj) (h:List Value),(∀ b o,M b=some o->w.heap[b]?=some o)->PReps M args h ->
  Calls P f h.toArray w λe w'=>∃ x i,e=.returned x/\(∀ b o,M b=some o->i b=some o)/\(∀ b o,i b=some o->w'.heap[b]?=some o) /\
   (∀ b o,i b=some o->M b=some o\/w.heap.size<=b)/\Keep w w' (λ_=>False)/\sq i w w' k x
section
variable {P:Program} {K:Ctx} {Z Z':Cz} {st st':St} {w w':World} {a:Act} {orc:Option bJ} {d:Nat} {v:AV}
noncomputable def Mx(Z:Cz)(st:St)(w:World)(ids:List (Nat × Nat))(b:Nat):Option Obj :=
 match Z.M b with
 | some o=>some o
 | none=>@ite _ (∃ s g o,(s,g)∈ids/\st.obj s g=some o/\Z.B s g=some b) (Classical.propDecidable _) (w.heap[b]?) none
def mM{ids:List (Nat × Nat)}{b:Nat}{o:Obj}(h:Z.M b=some o):Mx Z st w ids b=some o:=by simp[Mx,h]
def Uu{ids:List (Nat × Nat)}{s g b:Nat}{o:bI}(j:bG K Z st w)(k:(s,g)∈ids)(h:st.obj s g=some o)(f:Z.B s g=some b):Mx Z st w ids b=w.heap[b]?:=by have i:=j.sep s g o b h f;simp only[Mx,i];exact aX ⟨s,g,o,k,h,f⟩
def rM{ids:List (Nat × Nat)}{b:Nat}{x:Obj}(h:Mx Z st w ids b=some x):Z.M b=some x\/(Z.M b=none/\w.heap[b]?=some x/\∃ s g o,(s,g)∈ids/\st.obj s g=some o/\Z.B s g=some b):=by
 unfold Mx at h;split at h
 .grind
 .simp_all
theorem EJ{α β : Type}{f : α -> Option β}{x : α}{xs:List α}{r:List β}(h:(x::xs).mapM f=some r):∃ y b,f x=some y/\xs.mapM f=some b/\r=y::b:=by
 cases j:f x with
 | none=>simp[j]at h
 | some y =>
  cases i:xs.mapM f with
  | none=>simp[i]at h
  | some b=>simp[j,i]at h;exact⟨y,b,rfl,rfl,h.symm⟩
def EH{α β : Type}{f : α -> Option β}{r:List β}(h:([]:List α).mapM f=some r):r=[]:=by simp_all
theorem CT{α β : Type}{f : α -> Option β}:∀ {xs:List α} {r:List β},xs.mapM f=some r->r.length=xs.length
 | [],r,h=>by rw[EH h];rfl
 | x::xs,r,h=>by obtain⟨y,i,_,b,rfl⟩:=EJ h;simp[CT b]
theorem O4{n:Nat}{u:AV}{p:PV}(h:bH st n u=some p)(i:u.one=true):p.one=true:=by
 cases n with
 | zero=>simp[bH,i]at h;subst h;rfl
 | succ n =>
  cases u<;>simp only[bH]at h
  case p v=>cases h;exact i
  case nil=>cases h;rfl
  case own s g b k =>
   split at h
   .split at h
    .obtain⟨l,_,rfl⟩:=wL.1 h;rfl
    .grind
   .grind
  case ptr s g o b =>
   split at h
   .split at h
    .split at h
     .obtain⟨l,_,rfl⟩:=wL.1 h;rfl
     .grind
    .grind
   .grind
  case cp v m b =>
   split at h
   .cases h;rfl
   .grind
  case agg=>simp[AV.one]at i
  case fn f j=>obtain⟨l,_,rfl⟩:=wL.1 h;rfl
  case bM=>simp[AV.one]at i
  case skip=>cases h
  grind
theorem yeg{n:Nat}{u:AV}{p:PV}(h:bH st n u=some p)(hs:0<u.sz):p.sz=u.sz:=by
 obtain b|⟨f,rfl,b⟩|⟨f,rfl,b⟩:=AV.eI hs
 .rw[(AV.cells_one b).2,(PV.cells_one (O4 h b)).2]
 .cases n with
  | zero=>simp[bH,AV.one]at h
  | succ n =>
   obtain⟨l,i,rfl⟩:=wL.1 h;simp[PV.sz,AV.sz,CT i]
 .cases n with
  | zero=>simp[bH,AV.one,PV.one]at h
  | succ n=>simp[bH]at h;subst h;rfl
theorem Gc{n:Nat}{ids:List (Nat × Nat)}(j:∀ (u:AV) (x:Value) (p:PV),aQ Z st u x->bH st n u=some p->(∀ i∈aS st n u,i∈ids)->PRep (Mx Z st w ids) p x) :
  ∀ {vs:List AV} {xs:List Value} {ps:List PV},aG Z st vs xs->vs.mapM (bH st n)=some ps->(∀ i∈vs.flatMap (aS st n),i∈ids)->PReps (Mx Z st w ids) ps xs
 | _,_,ps,.nil,h,_=>by rw[EH h];exact .nil
 | _,_,ps,.cons u x s xs o m,h,f=>by obtain⟨p,r,k,l,rfl⟩:=EJ h;exact .cons _ _ _ _ (j u x p o k (λi b=>f i (by simp[b]))) (Gc j m l (λi b=>f i (by simp only[jG,dN];exact .inr b)))
theorem Gi{n:Nat}{sz:Nat}{ids:List (Nat × Nat)}(hp:0<sz)(B:∀ (u:AV) (x:Value) (p:PV),aQ Z st u x->bH st n u=some p->(∀ i∈aS st n u,i∈ids)->PRep (Mx Z st w ids) p x) :
  ∀ {es:List AV} {xs:List Value} {ps:List PV},aG Z st (es.flatMap AV.cells) xs->es.mapM (bH st n)=some ps->(∀ e∈es,e.sz=sz)->(∀ c∈es.flatMap AV.cells,c.one=true)->(∀ i∈es.flatMap (aS st n),i∈ids) ->
   PReps (Mx Z st w ids) (ps.flatMap PV.cells) xs/\(∀ p∈ps,p.sz=sz)/\(∀ c∈ps.flatMap PV.cells,c.one=true)
 | [],xs,ps,h,z,_,_,_=>by
  rw[EH z];cases h;exact⟨.nil,by simp,by simp⟩
 | e::es,xs,ps,h,z,m,t,C=>by
  obtain⟨p,Q,s,D,rfl⟩:=EJ z;rw[jG]at h t;have k:=m e (by simp);have H:e.cells.length=sz:=by rw[AV.bO (by omega)];exact k
  have F:aG Z st e.cells (xs.take sz):=by
   have:=h.take sz
   rwa[De (by omega),eZ (by omega)]at this
  have G:aG Z st (es.flatMap AV.cells) (xs.drop sz):=by
   have:=h.drop sz
   rwa[E7 (by omega),xY (by omega),uP]at this
  obtain⟨M,N,O⟩:=Gi hp B G D (λq hq=>m q (by simp[hq])) (λc f=>t c (dN.2 (.inr f))) (λi y=>C i (by simp only[jG,dN];exact .inr y));have I:∀ c∈e.cells,c.one=true:=λc f=>t c (dN.2 (.inl f));have l:=yeg s (by omega);have j:∀ i∈aS st n e,i∈ids:=λi y=>C i (by simp only[jG,dN];exact .inl y);have o:PReps (Mx Z st w ids) p.cells (xs.take sz)/\∀ c∈p.cells,c.one=true:=by
   obtain⟨J,L⟩:=aQ.ma (by omega) I F;cases b:e.one with
   | true =>
    obtain⟨x,E,r⟩:=J b;have:=(B e x p r s j).cells (by omega);have A:=r.gF b;rw[MV A]at this;rw[E];exact⟨this.1,this.2.2⟩
   | false =>
    have r:=L b;have:=(B e _ p r s j).cells (by omega);exact⟨by simpa[Value.cells]using this.1,this.2.2⟩
  refine⟨?_,?_,?_⟩
  .rw[jG,<- List.take_append_drop sz xs];exact o.1.append M
  .intro q hq;obtain rfl|hq:=cI.1 hq
   .rw[l];exact k
   .exact N q hq
  .rw[jG];intro c f;obtain h|h:=dN.1 f
   .exact o.2 c h
   .exact O c h
theorem BN(O:bG K Z st w)(ids:List (Nat × Nat)):∀ (n:Nat) (u:AV) (x:Value) (p:PV),aQ Z st u x->bH st n u=some p->(∀ i∈aS st n u,i∈ids)->PRep (Mx Z st w ids) p x
 | 0,u,x,p,A,h,_=>by
  simp[bH]at h;obtain⟨H,rfl⟩:=h;exact .any x (A.gF H)
 | n+1,u,x,p,A,h,B=>by
  have S:=BN O ids n;cases u<;>simp only[bH]at h
  case p v=>cases h;exact A.cF.mono (λb o t=>mM t)
  case nil=>cases h;cases A;exact .rB none 0
  case own s g l m =>
   split at h
   .rename_i o t;split at h
    .rename_i ao;obtain⟨ps,k,rfl⟩:=wL.1 h;have r:=O.bT s g o t;have D:=CT k;have af:((o.es.drop l).take m).length=m:=by simp;omega
     rw[af]at D;simp only[aS,t]at B;cases A with
     | d'=>rw[q9 D];exact .rB none 0
     | own _ _ _ _ o' b ad c U G e3 e4 e5 e6 =>
      rw[t]at U;cases U;obtain J|J:=Ci m
      .subst J;rw[q9 D];exact .rB _ _
      .have V:=e4 J;subst V;obtain⟨z,T,j,k1,k2,k3,k4,k5,k6⟩:=r.bX b G;have C:∀ e∈o.es,(AV.cells e).length=o.sz:=λe E=>by rw[AV.bO (by rw[r.iI e E];exact r.pos),r.iI e E]
       have N:((o.es.drop l).take m).flatMap AV.cells=((o.es.flatMap AV.cells).drop (l*o.sz)).take (m*o.sz):=by rw[BX AV.cells o.sz _ m (λe E=>C e (kD E)),CW AV.cells o.sz _ l C]
       obtain⟨r1,r2,r3⟩:=Gi (w:=w) r.pos S (es:=(o.es.drop l).take m) (xs:=(j.drop (l*o.sz)).take (m*o.sz)) (by rw[N];exact(k2.drop _).take _) k
        (λe E=>r.iI e (kD (iC E)))
        (λc I=>by rw[N]at I;exact r.one c (kD (iC I)))
        (λi W=>B i (by
         obtain⟨e,E,X⟩:=kC.1 W;exact cI.2 (.inr (kC.2 ⟨e,kD (iC E),X⟩))))
       have:=PRep.sl (M:=Mx Z st w ids) ps b (l*o.sz) c z T (0,0) o.sz _ (by rw[Uu O (B (s,g) (by simp)) t G];exact k1) r.pos r2 r3 r1
        (λi y R=>by
         rw[Cl]at R;split at R
         .rw[Cm]at R;exact k3 _ _ R
         .cases R) (by omega) (by omega)
       rwa[D]at this
     | eO _ _ _ _ _ _ _ G=>exact(uH t G).elim
    .cases h
   .cases h
  case ptr s g ix l =>
   split at h
   .rename_i Y;obtain⟨rfl,rfl⟩:=Y;split at h
    .rename_i o t;split at h
     .rename_i e C;obtain⟨q,hq,rfl⟩:=Option.map_eq_some_iff.1 h;have r:=O.bT s g o t;obtain⟨b,hb,rfl⟩:=BV A t;obtain⟨z,T,j,k1,k2,k3,k4,k5,k6⟩:=r.bX b hb;simp only[aS,t]at B;obtain⟨r1,r2,r3⟩:=Gi (w:=w) (n:=n) r.pos S (es:=o.es) (xs:=j) (ps:=[q]) k2 (by rw[C];simp[hq]) r.iI r.one (λi W=>B i (by simp only[List.mem_cons];exact .inr W));simp only[Nat.zero_mul,Nat.add_zero];exact .ref q b 0 z T (0,0) j (by rw[Uu O (B (s,g) (by simp)) t hb];exact k1) (by rw[r2 q (by simp)];exact r.pos) (by simpa using r3) (by simpa using r1) (by simpa using k3)
     .cases h
    .cases h
   .cases h
  case cp v ap l =>
   split at h
   .rename_i J;subst J;cases h;cases A with
    | cp _ _ _ b o z T fr j m0 m1 m2 m3 m4 m5=>exact .ref v b o z T fr j (mM m0) (by omega) m3 (m4.mono (λb o t=>mM t)) m5
   .cases h
  case agg F =>
   obtain⟨ps,k,rfl⟩:=wL.1 h;cases A with
   | agg _ j H L =>
    refine .agg ps j (λc I=>?_) (Gc S L k (by simpa[aS]using B));have Q:∀ {F:List AV} {ps:List PV},(∀ c∈F,c.one=true)->F.mapM (bH st n)=some ps->∀ p∈ps,p.one=true:=by
     intro F
     induction F with
     | nil=>intro ps _ h p hp;rw[EH h]at hp;simp at hp
     | cons c F ag =>
      intro ps H h p hp;obtain⟨y,ys,U,G,rfl⟩:=EJ h;obtain rfl|hp:=cI.1 hp
      .exact O4 U (H c (by simp))
      .exact ag (λc I=>H c (by simp[I])) G p hp
    exact Q H k c I
  case fn f al =>
   obtain⟨ps,k,rfl⟩:=wL.1 h;cases A with
   | fn _ _ j L=>exact .fn f ps j (Gc S L k (by simpa[aS]using B))
  case bM vs =>
   obtain⟨ps,k,rfl⟩:=wL.1 h;cases A with
   | bM _ j L=>exact .bM ps j (Gc S L k (by simpa[aS]using B))
  case skip=>cases h
  case undef=>cases h
end
section
variable {P:Program} {K:Ctx} {Z Z':Cz} {st st':St} {w w':World} {a:Act} {orc:Option bJ} {d:Nat} {v:AV}
def Keep.trans{w0 w1 w2:World}{X:Nat->Prop}(h:Keep w0 w1 X)(k:Keep w1 w2 (λ_=>False)):Keep w0 w2 X :=
 ⟨k.os.trans h.os,k.tape.trans h.tape,k.output.trans h.output,dM h.drawn k.drawn,dM h.size k.size,λb f i=>(k.bX b (iL f h.size) (λh=>h)).trans (h.bX b f i)⟩
def cP.j3{f:Nat->Option Obj}(i:∀ b o,Z.M b=some o->f b=some o):cP Z st { Z with M:=f } st :=
 ⟨i,λ_=>dE _,λ_ _ _ h=>h,λ_ _ o h=>.inr ⟨o,h,rfl,rfl,rfl,rfl⟩⟩
def bG.grow(h:bG K Z st w)(k:Keep w w' (λ_=>False))(f:Nat->Option Obj)(j:∀ b o,Z.M b=some o->f b=some o)(m:∀ b o,f b=some o->w'.heap[b]?=some o)
  (h3:∀ b o,f b=some o->Z.M b=some o\/K.X0 b\/K.w0.heap.size<=b) (n:∀ s g o b,st.obj s g=some o->Z.B s g=some b->f b=none):bG K { Z with M:=f } st w':=by
 refine⟨λs g o l=>(h.bT s g o l).later (cP.j3 j) rfl rfl (λb i=>k.bX b (h.lt l i) (λh=>h)),h.inj,m,n,h.own,λb o i=>j b o (h.m0 b o i),λb o i=>?_,h.keep.trans k⟩;obtain h|h|h:=h3 b o i
 .exact bG.eM ‹_› b o h
 .exact .inr (.inl h)
 .exact .inr (.inr h)
def bG.zE(h:bG K Z st w)(d:Nat)(o:bI)(b:Nat)(cur:Array Value)(T:TypeId)(c:Nat)(vals:List Value)(N:w.heap[b]?=some (.cells cur T (0,0)))(L:Z.M b=none)
  (y:∀ s g o,st.obj s g=some o->Z.B s g≠some b) (r:K.X0 b\/K.w0.heap.size<=b)
  (C:0<o.sz) (D:∀ e∈o.es,e.sz=o.sz) (h3:∀ x∈o.es.flatMap AV.cells,x.one=true) (E:aG Z st (o.es.flatMap AV.cells) vals)
  (F:∀ (i:Nat) (v:Value),vals[i]?=some v->cur[i]?=some v) (G:cur.size=c*o.sz) (H:o.es.length<=c) (I:c<=maxLen) :
  bG K (Z.bR d (st.site d).length (some b) c) (st.alloc d o) w:=by
 have hz:=cP.alloc Z st d o (some b) c;have t:∀ {s g:Nat},¬ (s=d/\g=(st.site d).length)->(Z.bR d (st.site d).length (some b) c).B s g=Z.B s g:=λr=>by simp only[Cz.bR];rw[bD r]
 have J:∀ {s g:Nat},¬ (s=d/\g=(st.site d).length)->(Z.bR d (st.site d).length (some b) c).cap s g=Z.cap s g:=λr=>by simp only[Cz.bR];rw[bD r]
 refine⟨λs g o' k=>?_,λs g s' g' o' z u k p m n=>?_,h.mem,λs g o' u k j=>?_,λs g o' u k j=>?_,h.m0,h.eM,h.keep⟩
 .rw[lD]at k;by_cases r:s=d/\g=(st.site d).length
  .rw[aX r]at k;cases k;obtain⟨rfl,rfl⟩:=r;refine⟨C,D,h3,λA=>(by simp[Cz.bR]at A),λu j=>?_⟩;simp only[Cz.bR,and_self,cH,cD]at j ⊢;subst j;exact⟨cur,T,vals,N,aG.mono hz E,F,G,H,I⟩
  .rw[bD r]at k;exact(h.bT s g o' k).later hz (t r) (J r) (λ_ _=>rfl)
 .rw[lD]at k p;by_cases f:s=d/\g=(st.site d).length<;>by_cases l:s'=d/\g'=(st.site d).length
  .exact⟨f.1.trans l.1.symm,f.2.trans l.2.symm⟩
  .rw[bD l]at p;rw[t l]at n;obtain⟨rfl,rfl⟩:=f;simp only[Cz.bR,and_self,cH,cD]at m;subst m;exact absurd n (y s' g' z p)
  .rw[bD f]at k;rw[t f]at m;obtain⟨rfl,rfl⟩:=l;simp only[Cz.bR,and_self,cH,cD]at n;subst n;exact absurd m (y s g o' k)
  .rw[bD f]at k;rw[bD l]at p;rw[t f]at m;rw[t l]at n;exact h.inj s g s' g' o' z u k p m n
 .rw[lD]at k;by_cases f:s=d/\g=(st.site d).length
  .obtain⟨rfl,rfl⟩:=f;simp only[Cz.bR,and_self,cH,cD]at j;subst j;exact L
  .rw[bD f]at k;rw[t f]at j;exact h.sep s g o' u k j
 .rw[lD]at k;by_cases f:s=d/\g=(st.site d).length
  .obtain⟨rfl,rfl⟩:=f;simp only[Cz.bR,and_self,cH,cD]at j;subst j;exact r
  .rw[bD f]at k;rw[t f]at j;exact h.own s g o' u k j
theorem bG.aI:∀ (ids:List (Nat × Nat)) {st:St},bG K Z st w->bG K Z (aI st ids) w
 | [],_,h=>h
 | (s,g)::r,_,h=>bG.aI r (h.kill s g)
theorem cP.aI:∀ (ids:List (Nat × Nat)) (st:St),cP Z st Z (aI st ids)
 | [],st=>cP.refl Z st
 | (s,g)::r,st=>(cP.kill Z st s g).trans (cP.aI r (st.kill s g))
theorem EG:∀ (ids:List (Nat × Nat)) (st:St) {s g:Nat} {o:bI},(aI st ids).obj s g=some o->st.obj s g=some o/\(s,g)∉ids
 | [],st,s,g,o,h=>⟨h,by simp⟩
 | (k,i)::r,st,s,g,o,h=>by
  obtain⟨b,j⟩:=EG r (st.kill k i) h;rw[BS]at b;split at b
  .cases b
  .rename_i f;exact⟨b,by simp only[cI,c5,not_or];exact⟨f,j⟩⟩
theorem A9:∀ (ids:List (Nat × Nat)) (st:St),(aI st ids).sl=st.sl
 | [],_=>rfl
 | (s,g)::r,st=>A9 r (st.kill s g)
def PO{M b:Nat->Option Obj}{v:PV}{x:Value}(f:v.rG=true)(h:PRep M v x):PRep b v x:=by cases v<;>first|(simp[PV.rG]at f;done)|(cases h;constructor;done)|(cases h;exact .any _ (by assumption))
theorem Mu{M f:Nat->Option Obj}:∀ {vs:List PV} {xs:List Value},(∀ c∈vs,c.rG=true)->PReps M vs xs->PReps f vs xs
 | _,_,_,.nil=>.nil
 | _,_,b,.cons _ _ _ _ h j=>.cons _ _ _ _ (PO (b _ (by simp)) h) (Mu (λc i=>b c (by simp[i])) j)
theorem ybx{M i:Nat->Option Obj}{v:PV}{x:Value}(f:v.flat=true)(h:PRep M v x):PRep i v x:=by
 cases v<;>first|exact PO f h|skip
 cases h with
 | agg _ b j k=>exact .agg _ b j (Mu (by simpa[PV.flat]using f) k)
def PQ{M i:Nat->Option Obj}{v:PV}{x:Value}(b:v.nM=true)(h:PRep M v x):PRep i v x:=by
 obtain b|b:=(Dc _ _).mp b
 .exact ybx b h
 .unfold PV.unit at b;split at b
  .cases h with
   | bM _ f h=>cases h;exact .bM _ [] .nil
  .cases b
theorem LY{M l:Nat->Option Obj}:∀ {es:List PV} {vals:List Value},(∀ e∈es,e.flat=true)->PReps M (es.flatMap PV.cells) vals->PReps l (es.flatMap PV.cells) vals
 | [],vals,_,h=>by cases h;exact .nil
 | e::es,vals,k,h=>by
  rw[jG]at h ⊢;have i:=h.take e.cells.length;have j:=h.drop e.cells.length;rw[List.take_left]at i;rw[List.drop_left]at j;have f:=k e (by simp);rw[<- List.take_append_drop e.cells.length vals];refine PReps.append ?_ (LY (λq m=>k q (by simp[m])) j);refine Mu (λc b=>?_) i;cases e<;>first|(simp only[PV.cells,iT]at b;subst b;exact f)|skip
  simp only[PV.flat,k8]at f;exact f c b
theorem Pp{c:bJ}{vs:List AV}{x:Value}{j:Nat->Option Obj}(hs:bG K Z st w)(X:∀ b o,Mx Z st w (vs.flatMap (aS st bF)) b=some o->j b=some o)(hw:∀ b o,j b=some o->w'.heap[b]?=some o)
  (J:∀ b o,j b=some o->Mx Z st w (vs.flatMap (aS st bF)) b=some o\/w.heap.size<=b) (hk:Keep w w' (λ_=>False)) (N:sq j w w' c.res x) (i:zN c st d (vs.flatMap (aS st bF))=some (v,st')) :
  ∃ Z',bG K Z' st' w'/\aQ Z' st' v x/\cP Z st Z' st':=by
 generalize ag:vs.flatMap (aS st bF)=r at *
 obtain⟨A,st1,g1,V,W,g4,g5,k⟩:∃ (A:Cz) (st1:St),st1=(if c.res.flat then st else aI st r)/\bG K A st1 w'/\cP Z st A st1/\A.B=Z.B /\
   (∀ s g o,st1.obj s g=some o->st.obj s g=some o)/\((c.res.flat=true)\/A.M=j)/\(∀ b,j b=none->A.M b=none):=by
  cases ao:c.res.flat with
  | true =>
   have t:∀ b o,Z.M b=some o->(λb=>match j b with|some o=>if (Z.M b).isSome=true\/w.heap.size<=b then some o else none|none=>none) b=some o:=by intro b o f;have:=X b o (mM f);simp[this,f]
   refine⟨{ Z with M:=λb=>match j b with|some o=>if (Z.M b).isSome=true\/w.heap.size<=b then some o else none|none=>none },st,by simp,?_,cP.j3 t,rfl,λ_ _ _ h=>h,.inl rfl,λb f=>by simp[f]⟩;have n:∀ b o,(match j b with|some o=>if (Z.M b).isSome=true\/w.heap.size<=b then some o else none|none=>none)=some o->j b=some o/\((Z.M b).isSome=true\/w.heap.size<=b):=by
    intro b o h;split at h
    .rename_i o' z;split at h
     .rename_i hc;cases h;exact⟨z,hc⟩
     .cases h
    .cases h
   refine hs.grow hk _ t (λb o f=>hw b o (n b o f).1) (λb o f=>?_) (λs g o b F f=>?_)
   .obtain⟨m1,O⟩:=n b o f;obtain O|O:=O
    .obtain⟨o',z⟩:=Ck.1 O;have:=X b o' (mM z);rw[m1]at this;cases this;exact .inl z
    .exact .inr (.inr (dM hs.keep.size O))
   .have h0:=hs.sep s g o b F f;have h1:=hs.lt F f;cases hm:j b with
    | none=>simp
    | some y=>simp[h0];omega
  | false =>
   have t:∀ b o,Z.M b=some o->j b=some o:=λb o f=>X b o (mM f);refine⟨{ Z with M:=j },aI st r,by simp,?_,(cP.aI r st).trans (cP.j3 t),rfl,λs g o h=>(EG r st h).1,.inr rfl,λ_ h=>h⟩;refine(bG.aI r hs).grow hk j t hw (λb o f=>?_) (λs g o b F f=>?_)
   .obtain h|h:=J b o f
    .obtain h|⟨_,_,s,g,ob,_,S,U⟩:=rM h
     .exact .inl h
     .exact .inr (hs.own s g ob b S U)
    .exact .inr (.inr (dM hs.keep.size h))
   .obtain⟨D,ad⟩:=EG r st F;cases hm:j b with
    | none=>rfl
    | some y =>
     exfalso;obtain h|h:=J b y hm
     .obtain h|⟨_,_,s',g',ob,e1,S,U⟩:=rM h
      .rw[hs.sep s g o b D f]at h;cases h
      .obtain⟨rfl,rfl⟩:=hs.inj s g s' g' o ob b D S f U;exact ad e1
     .have:=hs.lt D f;omega
 obtain⟨k,g7⟩:=k;unfold zN at i;rw[<- g1]at i;cases m:c.res with
 | pure u =>
  rw[m]at N i k;simp only[cD,c5]at i;obtain⟨rfl,rfl⟩:=i;refine⟨A,V,.p _ _ ?_,W⟩;obtain k|k:=k
  .exact PQ k N
  .rw[k];exact N
 | fresh Q H =>
  rw[m]at N i k;simp only at i;split at i
  .rename_i hc;obtain⟨I,hp,al⟩:=hc;simp only[Option.some.injEq,Prod.mk.injEq]at i;obtain⟨rfl,rfl⟩:=i;have af:∀ e∈H,e.sz=Q:=λe i=>by simpa using List.all_eq_true.1 I e i
   obtain⟨rfl,rfl⟩|⟨b,G,R,T,C,rfl,r1,r2,r3,r4,r5,r6,r7,r8,r9⟩:=N
   .exact⟨_,V.iQ d Q hp,.d' d _ ⟨Q,[]⟩ (by rw[lD,aX ⟨rfl,rfl⟩];rfl) (by simp[Cz.bR]),W.trans (cP.alloc _ _ _ _ _ _)⟩
   .have E:aG A st1 ((H.map AV.p).flatMap AV.cells) C:=by
     rw[qU];refine aG.lZ ?_;obtain k|k:=k
     .exact LY (by simpa[RV.flat]using k) r4
     .rw[k];exact r4
    have Y:=V.zE d ⟨Q,H.map .p⟩ b R T G C r3 (g7 b r2) (λs g o F f=>by rw[g4]at f;have:=hs.lt (g5 s g o F) f;omega) (.inr (dM hs.keep.size r1)) hp
     (λe i=>by simp at i;obtain⟨q,L,rfl⟩:=i;exact af q L)
     (λq L=>by rw[qU]at L;simp only[cA]at L;obtain⟨u,hu,rfl⟩:=L;exact r9 u hu)
     E r5 r6 (by simpa using r7) r8
    refine⟨_,Y,?_,W.trans (cP.alloc _ _ _ _ _ _)⟩;exact .own d _ 0 H.length ⟨Q,H.map .p⟩ b _ G (by rw[lD,aX ⟨rfl,rfl⟩]) (by simp[Cz.bR]) (λ_=>⟨rfl,by simp[Cz.bR]⟩) (λ_=>by simp) (by simp) r7
  .cases i
 | same l=>rw[m]at i;simp only at i;cases i
 | oo _ _ _ _=>rw[m]at i;simp only at i;cases i
def bG.Ct(h:bG K Z st w){s g:Nat}{o:bI}(z:st.obj s g=some o)(t:Keep w w' (λc=>Z.B s g=some c))(r:Nat->Option Obj)(F:∀ b o,Z.M b=some o->r b=some o)(R:∀ b o,r b=some o->w'.heap[b]?=some o)
  (h3:∀ b o,r b=some o->Z.M b=some o\/K.X0 b\/K.w0.heap.size<=b) (S:∀ s g o b,st.obj s g=some o->Z.B s g=some b->r b=none) (i:List PV) (hl:i.length=o.es.length) (V:sr r w' (Z.B s g) (Z.cap s g) o.sz i) :
  bG K { Z with M:=r } (st.setObj s g ⟨o.sz,i.map .p⟩) w':=by
 have H:=nQ z;have hz:cP Z st { Z with M:=r } (st.setObj s g ⟨o.sz,i.map .p⟩):=(cP.j3 F).trans (cP.setObj _ st s g o ⟨o.sz,i.map .p⟩ z rfl (by simpa using hl));have C:∀ {s' g':Nat} {o':bI},(st.setObj s g ⟨o.sz,i.map .p⟩).obj s' g'=some o'->∃ o1,st.obj s' g'=some o1:=by
  intro s' g' o' n;rw[vF _ _ _ _ _ _ H]at n;split at n
  .rename_i m;obtain⟨rfl,rfl⟩:=m;exact⟨o,z⟩
  .exact⟨o',n⟩
 obtain⟨a1,I,J,L,N⟩:=V;refine⟨λs' g' o' f=>?_,λs' g' E D o' ad j x y O Q=>?_,R,λs' g' o' j x y=>?_,λs' g' o' j x y=>?_,λb o u=>F b o (h.m0 b o u),λb o u=>?_,?_⟩
 .rw[vF _ _ _ _ _ _ H]at f;by_cases m:s'=s/\g'=g
  .rw[aX m]at f;cases f;obtain⟨rfl,rfl⟩:=m;refine⟨a1,λe m=>?_,λc G=>?_,λhn=>?_,λj k=>?_⟩
   .obtain⟨q,hq,rfl⟩:=cA.1 m;exact I q hq
   .rw[qU]at G;obtain⟨q,hq,rfl⟩:=cA.1 G;exact J q hq
   .have:=L hn;rw[this];rfl
   .obtain⟨_,cur,T,vals,W,X,Y,k4,k5,k6⟩:=N j k;exact⟨cur,T,vals,W,by rw[qU];exact aG.lZ X,Y,k4,by simpa using k5,k6⟩
  .rw[bD m]at f;refine(h.bT s' g' o' f).later hz rfl rfl (λj k=>t.bX j (h.lt f k) (λn=>?_));exact m (h.inj s' g' s g o' o j f z k n)
 .obtain⟨o1,A⟩:=C x;obtain⟨o2,x2⟩:=C y;exact h.inj s' g' E D o1 o2 j A x2 O Q
 .obtain⟨o1,A⟩:=C x;exact S s' g' o1 j A y
 .obtain⟨o1,A⟩:=C x;exact h.own s' g' o1 j A y
 .obtain l|l|l:=h3 b o u
  .exact h.eM b o l
  .exact .inr (.inl l)
  .exact .inr (.inr l)
 .refine⟨t.os.trans h.keep.os,t.tape.trans h.keep.tape,t.output.trans h.keep.output,dM h.keep.drawn t.drawn,dM h.keep.size t.size,λb u n=>?_⟩;rw[t.bX b (iL u h.keep.size) (λU=>?_)]
  .exact h.keep.bX b u n
  .obtain l|l:=h.own s g o b z U
   .exact n l
   .omega
def Rb{u:Option AV}{s g b:Nat}{sl:Bool}(h:BH u=some (s,g,b,sl)):(u=some (.own s g 0 b)/\sl=true)\/(u=some (.ptr s g 0 0)/\b=1/\sl=false):=by
 unfold BH at h;split at h
 .split at h
  .rename_i f;cases h;subst f;exact .inl ⟨rfl,rfl⟩
  .cases h
 .split at h
  .rename_i f;cases h;obtain⟨rfl,rfl⟩:=f;exact .inr ⟨rfl,rfl,rfl⟩
  .cases h
 .cases h
def Rr{c:bJ}{i sz:Nat}{j:List PV}{vs:List AV}(b:AG c i sz j st vs=some (v,st')):∃ s g f sl o,BH vs[i]?=some (s,g,f,sl)/\st.obj s g=some o/\i<vs.length/\f=o.es.length/\j.length=f/\o.sz=sz /\
  (s,g)∉(vs.eraseIdx i).flatMap (aS st bF)++o.es.flatMap (aS st 5) /\
  ((∃ u,c.res=.pure u/\v=.p u)\/∃ l,c.res=.same l/\l<=f/\sl=true/\v=.own s g 0 l) /\
  st'=EO c j st ((vs.eraseIdx i).flatMap (aS st bF)++o.es.flatMap (aS st 5)) s g sz:=by
 unfold AG at b;split at b
 .rename_i s g f sl k;split at b
  .rename_i o B;dsimp only at b;generalize h:(vs.eraseIdx i).flatMap (aS st bF)++o.es.flatMap (aS st 5)=r at b;by_cases t:i<vs.length/\f=o.es.length/\j.length=f/\o.sz=sz/\j.all (λv=>v.sz == sz)=true/\(j.flatMap PV.cells).all PV.one=true/\r.contains (s,g)=false
   .rw[aX t]at b;obtain⟨x,y,z,A,G,H,C⟩:=t;have n:(s,g)∉r:=by intro E;have:=E3.2 E;rw[C]at this;cases this
    split at b
    .rename_i u F;simp only[cD,c5]at b;obtain⟨rfl,rfl⟩:=b;exact⟨s,g,f,sl,o,k,B,x,y,z,A,by rw[h];exact n,.inl ⟨u,F,rfl⟩,by rw[h]⟩
    .cases b
    .rename_i l D;split at b
     .rename_i m;simp only[cD,c5]at b;obtain⟨rfl,rfl⟩:=b;exact⟨s,g,f,sl,o,k,B,x,y,z,A,by rw[h];exact n,.inr ⟨l,D,m.1,m.2,rfl⟩,by rw[h]⟩
     .cases b
    .cases b
   .rw[bD t]at b;cases b
  .cases b
 .cases b
def YE{c:bJ}{i sz:Nat}{f:List PV}{vs:List AV}{x:Value}{t:Nat->Option Obj}{s g Y:Nat}{sl:Bool}{o:bI}(hs:bG K Z st w)(F:st.obj s g=some o)(aq:Y=o.es.length)(al:o.sz=sz)
  (ag:(s,g)∉(vs.eraseIdx i).flatMap (aS st bF)++o.es.flatMap (aS st 5))
  (hM:∀ b o',Mx Z st w ((vs.eraseIdx i).flatMap (aS st bF)++o.es.flatMap (aS st 5)) b=some o'->t b=some o') (hw:∀ b o,t b=some o->w'.heap[b]?=some o)
  (W:∀ b o',t b=some o'->Mx Z st w ((vs.eraseIdx i).flatMap (aS st bF)++o.es.flatMap (aS st 5)) b=some o'\/w.heap.size<=b) (hk:Keep w w' (λc=>Z.B s g=some c)) (L:f.length=o.es.length)
  (k:sr t w' (Z.B s g) (Z.cap s g) sz f) (N:DJ t w w' (Z.B s g) (Z.cap s g) o.es.length c.res x)
  (hv:(∃ u,c.res=.pure u/\v=.p u)\/∃ l,c.res=.same l/\l<=Y/\sl=true/\v=.own s g 0 l)
  (C:st'=EO c f st ((vs.eraseIdx i).flatMap (aS st bF)++o.es.flatMap (aS st 5)) s g sz) :
  ∃ Z',bG K Z' st' w'/\aQ Z' st' v x/\cP Z st Z' st':=by
 generalize ap:(vs.eraseIdx i).flatMap (aS st bF)++o.es.flatMap (aS st 5)=n at *
 subst al;unfold EO at C;have S:∀ {Q:Cz} {st1:St},Q.B=Z.B->Q.cap=Z.cap->(st1.setObj s g ⟨o.sz,f.map .p⟩).obj s g=some ⟨o.sz,f.map .p⟩->(∀ u,c.res=.pure u->PRep Q.M u x)->aQ Q (st1.setObj s g ⟨o.sz,f.map .p⟩) v x:=by
  intro Q st1 hB hC V hp;obtain⟨u,X,rfl⟩|⟨l,af,av,au,rfl⟩:=hv
  .exact .p _ _ (hp u X)
  .rw[af]at N;obtain⟨_,hx⟩:=N;cases j:Z.B s g with
   | none =>
    rw[j]at hx k;have h0:=k.2.2.2.1 rfl;have:l=0:=by rw[h0]at L;simp at L;omega
    subst this;rw[hx];exact .d' s g _ V (by rw[hB,j])
   | some b =>
    rw[j]at hx k;obtain⟨_,R,T,H,k1,k2,k3,k4,k5,k6⟩:=k.2.2.2.2 b rfl;rw[hx];exact .own s g 0 l _ b ⟨b,0,none⟩ _ V (by rw[hB,j]) (λ_=>⟨rfl,by rw[hC]⟩) (λ_=>by simp) (by simp;omega) (by omega)
 by_cases E:(c.res.flat&&f.all PV.flat)=true
 .rw[aX E]at C;subst C;simp only[jO]at E;obtain⟨U,ad⟩:=E;generalize I:(λb=>match t b with|some o=>if (Z.M b).isSome=true\/w.heap.size<=b then some o else none|none=>none)=O;have m:∀ b o,O b=some o->t b=some o/\((Z.M b).isSome=true\/w.heap.size<=b):=by
   intro b o h;rw[<- I]at h;simp only at h;split at h
   .rename_i o' G;split at h
    .rename_i hc;cases h;exact⟨G,hc⟩
    .cases h
   .cases h
  have z:∀ b o,Z.M b=some o->O b=some o:=by intro b o j;have:=hM b o (mM j);rw[<- I];simp[this,j]
  have hh:=hs.Ct F hk O z (λb o j=>hw b o (m b o j).1) (λb o j=>by
   obtain⟨m1,D⟩:=m b o j;obtain D|D:=D
   .obtain⟨o',G⟩:=Ck.1 D;have:=hM b o' (mM G);rw[m1]at this;cases this;exact .inl G
   .exact .inr (.inr (dM hs.keep.size D))) (λs g o b F j=>by
    have h0:=hs.sep s g o b F j;have h1:=hs.lt F j;cases hm:O b with
    | none=>rfl
    | some y =>
     obtain⟨_,D⟩:=m b y hm;obtain D|D:=D
     .rw[h0]at D;cases D
     .omega) f L (by
    obtain⟨q1,q2,q3,q4,q5⟩:=k;refine⟨q1,q2,q3,q4,λb j=>?_⟩;obtain⟨r0,R,T,H,r1,r2,r3⟩:=q5 b j;refine⟨?_,R,T,H,r1,LY (by simpa using ad) r2,r3⟩;rw[<- I];simp[r0])
  have hz:cP Z st { Z with M:=O } (st.setObj s g ⟨o.sz,f.map .p⟩):=(cP.j3 z).trans (cP.setObj _ st s g o ⟨o.sz,f.map .p⟩ F rfl (by simpa using L));refine⟨_,hh,S rfl rfl (by rw[vF _ _ _ _ _ _ (nQ F),if_pos ⟨rfl,rfl⟩]) (λu X=>?_),hz⟩;rw[X]at N U;exact PQ U N
 .rw[bD E]at C;subst C;have A:(aI st n).obj s g=some o:=by
   have ao:∀ (l:List (Nat × Nat)) (st:St),(s,g)∉l->st.obj s g=some o->(aI st l).obj s g=some o:=by
    intro l
    induction l with
    | nil=>intro st _ h;exact h
    | cons q r ih =>
     intro st hq h;obtain⟨s',g'⟩:=q;simp only[cI,c5,not_or]at hq;exact ih (st.kill s' g') hq.2 (by rw[BS,bD hq.1];exact h)
   exact ao n st ag F
  have z:∀ b o,Z.M b=some o->t b=some o:=λb o j=>hM b o (mM j);have hh:=(bG.aI n hs).Ct A hk t z hw (λb o j=>by
   obtain h|h:=W b o j
   .obtain h|⟨_,_,s,g,ob,_,e2,e3⟩:=rM h
    .exact .inl h
    .exact .inr (hs.own s g ob b e2 e3)
   .exact .inr (.inr (dM hs.keep.size h))) (λs g o b F j=>by
    obtain⟨J,A⟩:=EG n st F;cases hm:t b with
    | none=>rfl
    | some y =>
     exfalso;obtain h|h:=W b y hm
     .obtain h|⟨_,_,s',g',ob,e1,e2,e3⟩:=rM h
      .rw[hs.sep s g o b J j]at h;cases h
      .obtain⟨rfl,rfl⟩:=hs.inj s g s' g' o ob b J e2 j e3;exact A e1
     .have:=hs.lt J j;omega) f L k
  have hz:cP Z st { Z with M:=t } ((aI st n).setObj s g ⟨o.sz,f.map .p⟩):=((cP.aI n st).trans (cP.j3 z)).trans (cP.setObj _ _ s g o ⟨o.sz,f.map .p⟩ A rfl (by simpa using L));refine⟨_,hh,S rfl rfl (by rw[vF _ _ _ _ _ _ (nQ A),if_pos ⟨rfl,rfl⟩]) (λu X=>?_),hz⟩;rw[X]at N;exact N
end
def EN(M:Nat->Option Obj)(ks vs:List PV)(es:Array MapEntry)(b:Nat):Prop :=
 PReps M ks (es.toList.map (·.key))/\PReps M vs (es.toList.map (·.val))/\(es.toList.map (·.key)).Nodup/\(∀ e∈es.toList,e.born<b)/\(es.toList.map (·.born)).Nodup
structure sv (Z:Cz) (st:St) (w:World) (r:Nat):Prop where
 m:Z.M r=none
 o:∀ s g o,st.obj s g=some o->Z.B s g≠some r
 lt:r<w.heap.size
def lH(Z:Cz)(st:St)(b:Nat):Prop:=∃ s g o,st.obj s g=some o/\Z.B s g=some b
abbrev zaV:=Nat × List PV × List PV
def Au:Option zaV->Nat->Prop
 | none,_=>False
 | some m,b=>b=m.1
def qB(o:Option zaV)(K:Ctx)(Z:Cz)(st:St)(w:World):Prop :=
 match o with
 | none=>True
 | some m=>sv Z st w m.1/\(K.X0 m.1\/K.w0.heap.size<=m.1)/\∃ f b,w.heap[m.1]?=some (.map f b)/\EN Z.M m.2.1 m.2.2 f b
def su(k:HV)(Z:Cz)(st:St)(w0 w:World)(x:Value):Prop :=
 match k with
 | .av v=>aQ Z st v x
 | .fr l p=>sq Z.M w0 w (.fresh l p) x/\∀ b n c,x=.slice (some ⟨b,0,none⟩) n c->∀ s g o,st.obj s g=some o->Z.B s g≠some b
 | .bx l e r=>∃ (b h:Nat) (j:Array Value) (T:TypeId) (f m:List Value),x=.tuple (.pointer (some ⟨b,0,none⟩)::m).toArray/\PReps Z.M r m/\w0.heap.size<=b/\Z.M b=none/\w.heap[b]?=some (.cells j T (0,0))/\aG Z st e.cells f /\
  (∀ (i:Nat) (v:Value),f[i]?=some v->j[i]?=some v)/\j.size=h*l/\(1<=h/\h<=maxLen)/\(∀ c∈e.cells,c.one=true)/\∀ s g o,st.obj s g=some o->Z.B s g≠some b
abbrev oA(Z:Cz)(hp:List Site)(o:Option zaV)(w:World):Ctx:=⟨w,Z.M,λb=>lH Z ⟨[],hp⟩ b\/Au o b,0⟩
def kU(P:Program)(f:FuncId)(vs:List AV)(hp:List Site)(o:Option zaV)(j:HV)(b:List Site)(o':Option zaV):Prop :=
 (∃ i,P.funcs[f]?=some i/\i.body.isSome=true/\i.name ≠ "runtime.NumGoroutine") /\
 ∀ (Z:Cz) (w:World) (h:List Value),bG (oA Z hp o w) Z ⟨[],hp⟩ w->qB o (oA Z hp o w) Z ⟨[],hp⟩ w->aG Z ⟨[],hp⟩ vs h ->
  Calls P f h.toArray w λe w'=>∃ x Z',e=.returned x/\bG (oA Z hp o w) Z' ⟨[],b⟩ w'/\su j Z' ⟨[],b⟩ w w' x/\cP Z ⟨[],hp⟩ Z' ⟨[],b⟩/\qB o' (oA Z hp o w) Z' ⟨[],b⟩ w'
def UX(P:Program)(f:FuncId)(vs:List AV)(hp:List Site)(v:AV)(b:List Site):Prop:=kU P f vs hp none (.av v) b none
structure zF (R:Nat->Prop) (Z:Cz) (st:St) (w:World) (Z':Cz) (st':St) (w':World):Prop where
 M:∀ b o,Z.M b=some o->Z'.M b=some o
 f:∀ r,¬ R r->sv Z st w r->sv Z' st' w' r/\w'.heap[r]?=w.heap[r]?
 z:cP Z st Z' st'
def fB{st st2:St}{s g:Nat}(h:st2.site s=st.site s):st2.obj s g=st.obj s g:=by simp[St.obj,h]
theorem BR{α : Type}{d : α}:∀ {l:List (Nat × α)} {s:Nat},look l s d=d\/∃ q∈l,q.1=s/\look l s d=q.2
 | [],_=>.inl rfl
 | (k,v)::r,s=>by
  simp[look];split
  .simp_all
  .obtain h|⟨q,b,f⟩:=BR (d:=d) (l:=r) (s:=s)
   .grind
   .grind
theorem yE(ks:List Nat):∀ l:List AV,lC ks l=l.all (pR ks)
 | []=>rfl
 | v::r=>by simp[lC,yE ks r]
section
variable {P:Program} {K:Ctx} {Z Z' Z2:Cz} {st st' st1 st2:St} {w w':World} {a:Act} {ks:List Nat} {v:AV}
theorem MT{u:AV}(h:pR ks u=true):lC ks u.cells=true:=by
 cases u with
 | p p =>
  cases p with
  | agg b=>simp[AV.cells,yE,pR]
  | _=>rfl
 | agg b=>exact h
 | _=>simp[AV.cells,lC,h]
def MS{es:List AV}(h:lC ks es=true):lC ks (es.flatMap AV.cells)=true:=by
 simp only[yE,k8]at h ⊢;intro c b;obtain⟨e,f,b⟩:=kC.1 b;have:=MT (h e f);rw[yE]at this
 grind
mutual
theorem aQ.gU(hs:∀ s,ks.contains s=true->st2.site s=st.site s)(k:∀ b o,Z.M b=some o->Z2.M b=some o)(j:∀ s g,ks.contains s=true->Z2.B s g=Z.B s g/\Z2.cap s g=Z.cap s g):∀ {u:AV} {x:Value},aQ Z st u x->pR ks u=true->aQ Z2 st2 u x
 | _,_,.p u x hp,_=>.p u x (PRep.mono k hp)
 | _,_,.nil,_=>.nil
 | _,_,.d' s g o n m,h=>.d' s g o (by rw[fB (hs s h)];exact n) (by rw[(j s g h).1];exact m)
 | _,_,.own s g off len o b ad c n m i l h3 r,h=>.own s g off len o b ad c (by rw[fB (hs s h)];exact n) (by rw[(j s g h).1];exact m) (by rw[(j s g h).2];exact i) l h3 r
 | _,_,.eO s g off len ad c t hd,h=>.eO s g off len ad c (by rw[hs s h];exact t) (by rw[fB (hs s h)];exact hd)
 | _,_,.ptr s g ix off o b n m,h=>.ptr s g ix off o b (by rw[fB (hs s h)];exact n) (by rw[(j s g h).1];exact m)
 | _,_,.kP s g ix off ad t hd,h=>.kP s g ix off ad (by rw[hs s h];exact t) (by rw[fB (hs s h)];exact hd)
 | _,_,.cp u vM off b o cur T fr vals y i l h3 r z,_=>.cp u vM off b o cur T fr vals (k _ _ y) i l h3 (PReps.mono k r) z
 | _,_,.agg cs vals i l,h=>.agg cs vals i (aG.gU hs k j l h)
 | _,_,.fn f iF vals i,h=>.fn f iF vals (aG.gU hs k j i h)
 | _,_,.bM vs vals i,h=>.bM vs vals (aG.gU hs k j i h)
 | _,_,.skip,_=>.skip
 | _,_,.undef x,_=>.undef x
theorem aG.gU(hs:∀ s,ks.contains s=true->st2.site s=st.site s)(i:∀ b o,Z.M b=some o->Z2.M b=some o)(f:∀ s g,ks.contains s=true->Z2.B s g=Z.B s g/\Z2.cap s g=Z.cap s g):∀ {u:List AV} {x:List Value},aG Z st u x->lC ks u=true->aG Z2 st2 u x
 | _,_,.nil,_=>.nil
 | _,_,.cons u x us xs j k,h=>by simp only[lC,jO]at h;exact .cons _ _ _ _ (aQ.gU hs i f j h.1) (aG.gU hs i f k h.2)
end
def oC.gU(hs:∀ s,ks.contains s=true->st2.site s=st.site s)(k:∀ b o,Z.M b=some o->Z2.M b=some o)(f:∀ s g,ks.contains s=true->Z2.B s g=Z.B s g/\Z2.cap s g=Z.cap s g){s g:Nat}{o:bI}(i:ks.contains s=true)(l:lC ks o.es=true)
  (h:oC Z st w s g o):oC Z2 st2 w s g o:=by
 refine⟨h.pos,h.iI,h.one,λhn=>h.x5 (by rw[<- (f s g i).1];exact hn),λb j=>?_⟩;rw[(f s g i).1]at j;obtain⟨cur,T,vals,m,n,p,r,t,u⟩:=h.bX b j;rw[(f s g i).2];exact⟨cur,T,vals,m,aG.gU hs k f n (MS l),p,r,t,u⟩
def Gk{hp:List Site}{s:Nat}(h:(hp.map (·.1)).contains s=false):look hp s []=[]:=by
 obtain b|⟨q,b,rfl,_⟩:=BR (d:=([]:List (Option bI))) (l:=hp) (s:=s)
 .omega
 .grind
theorem CS{hp r:List Site}{s:Nat}:look (hp++r) s []=if (hp.map (·.1)).contains s=true then look hp s []else look r s []:=by
 induction hp with
 | nil=>simp
 | cons q l b =>
  obtain⟨k,x⟩:=q;simp[xX,look];by_cases h:k=s
  .grind
  .grind
def FW{hp:List Site}(h:dS ks hp=true){s g:Nat}{o:bI}(b:(⟨[],hp⟩:St).obj s g=some o):lC ks o.es=true:=by
 obtain f|⟨q,f,_,j⟩:=BR (d:=([]:List (Option bI))) (l:=hp) (s:=s)
 .simp[St.obj,St.site,f]at b
 .have:=k8.1 (k8.1 h q f);simp[St.obj,St.site,j]at b;cases i:q.2[g]? with
  | none=>rw[i]at b;cases b
  | some x =>
   rw[i]at b;subst b;exact this _ (wM i)
theorem IG{hp:List Site}:∀ {r:List Site},qA st hp r->∀ q∈r,st.site q.1=look hp q.1 []
 | q::r,h,x,b=>by
  obtain rfl|b:=cI.1 b
  .exact h.1
  .exact IG h.2 x b
theorem Qo{hp i:List Site}{o o':Option zaV}{S:HV}{x:Value}(H:o'.map (·.1)=o.map (·.1))(X:i.map (·.1)=hp.map (·.1))(ad:∀ s,(hp.map (·.1)).contains s=true->st.site s=look hp s [])(bo:dS (hp.map (·.1)) i=true)(ao:(match S with | .av v=>pR (hp.map (·.1)) v | .bx _ e _=>pR (hp.map (·.1)) e|_=>true)=true)
  (hs:bG K Z st w) (U:qB o K Z st w) (A:bG (oA Z hp o w) Z' ⟨[],i⟩ w') (E:su S Z' ⟨[],i⟩ w w' x) (hz:cP Z ⟨[],hp⟩ Z' ⟨[],i⟩) (al:qB o' (oA Z hp o w) Z' ⟨[],i⟩ w') :
  ∃ Z2,bG K Z2 ⟨st.sl,i++st.hp⟩ w'/\su S Z2 ⟨st.sl,i++st.hp⟩ w w' x/\cP Z st Z2 ⟨st.sl,i++st.hp⟩/\zF (Au o) Z st w Z2 ⟨st.sl,i++st.hp⟩ w'/\qB o' K Z2 ⟨st.sl,i++st.hp⟩ w':=by
 have W:∀ b,Au o b->sv Z st w b/\(K.X0 b\/K.w0.heap.size<=b)/\sv Z' ⟨[],i⟩ w' b/\Au o' b:=λb l=>by
  cases o with
  | none=>exact l.elim
  | some m =>
   cases o' with
   | none=>cases H
   | some m' =>
    have e:m'.1=m.1:=by simpa using H
    have l:b=m.1:=l;subst l;exact⟨U.1,U.2.1,by have:=al.1;rw[e]at this;exact this,e.symm⟩
 have bt:∀ b,Au o' b->Au o b:=λb l=>by
  cases o with
  | none=>cases o' with
   | none=>exact l
   | some m'=>cases H
  | some m =>
   cases o' with
   | none=>cases H
   | some m' =>
    have e:m'.1=m.1:=by simpa using H
    have l:b=m'.1:=l;show b=m.1;rw[l,e]
 generalize hK:hp.map (·.1)=ks at *
 have u:∀ s,ks.contains s=true->(⟨st.sl,i++st.hp⟩:St).site s=(⟨[],i⟩:St).site s:=λs h=>by simp only[St.site,CS,X,h,cH]
 have G:∀ s,ks.contains s=false->(⟨st.sl,i++st.hp⟩:St).site s=st.site s:=λs h=>by simp only[St.site,CS,X,h,gP,fQ]
 have s0:∀ s,ks.contains s=true->st.site s=(⟨[],hp⟩:St).site s:=ad;have e0:∀ s,ks.contains s=false->(⟨[],hp⟩:St).site s=[]:=λs h=>Gk (by rw[hK];exact h);have e1:∀ s,ks.contains s=false->(⟨[],i⟩:St).site s=[]:=λs h=>Gk (by rw[X];exact h);have V:∀ {s g o},(⟨[],i⟩:St).obj s g=some o->ks.contains s=true:=λ{s g o} p=>by
  cases h:ks.contains s with
  | true=>rfl
  | false=>simp[St.obj,e1 s h]at p
 have o0:∀ {s g o},ks.contains s=true->st.obj s g=some o->(⟨[],hp⟩:St).obj s g=some o:=λ{s g o} h p=>by rw[fB (s0 s h)]at p;exact p
 have t:∀ b,lH Z ⟨[],hp⟩ b->∃ s g o,ks.contains s=true/\st.obj s g=some o/\Z.B s g=some b:=λb ⟨s,g,o,p,l⟩=>by
  cases h:ks.contains s with
  | true=>exact⟨s,g,o,rfl.trans h,by rw[fB (s0 s h)];exact p,l⟩
  | false=>simp[St.obj,e0 s h]at p
 let Z2:Cz:=⟨Z'.M,λs g=>if ks.contains s=true then Z'.B s g else Z.B s g,λs g=>if ks.contains s=true then Z'.cap s g else Z.cap s g⟩
 have D:∀ s g,ks.contains s=true->Z2.B s g=Z'.B s g/\Z2.cap s g=Z'.cap s g:=λs g h=>by simp only[Z2,h,cH,and_self]
 have F:∀ s g,ks.contains s=false->Z2.B s g=Z.B s g/\Z2.cap s g=Z.cap s g:=λs g h=>by simp only[Z2,h,gP,fQ,and_self]
 have hM:∀ b o,Z.M b=some o->Z'.M b=some o:=A.m0;have ag:cP Z st Z2 ⟨st.sl,i++st.hp⟩:=by
  refine⟨hM,λs=>?_,λs g hg hd=>?_,λs g o p=>?_⟩<;>cases h:ks.contains s
  .rw[G s h];exact dE _
  .rw[u s h,s0 s h];exact hz.len s
  .rw[fB (G s h)];exact hd
  .rw[fB (u s h)];exact hz.dead s g (by rw[<- s0 s h];exact hg) (by rw[<- fB (s0 s h)];exact hd)
  .exact .inr ⟨o,by rw[fB (G s h)];exact p,rfl,rfl,(F s g h).1,(F s g h).2⟩
  .rw[fB (u s h),(D s g h).1,(D s g h).2];exact hz.live s g o (o0 h p)
 have z:∀ {s g o b},ks.contains s=false->st.obj s g=some o->Z.B s g=some b->¬ lH Z ⟨[],hp⟩ b/\b<w.heap.size:=λ{s g o b} h p l=>by refine⟨λE=>?_,hs.lt p l⟩;obtain⟨s3,g3,o3,c1,N,O⟩:=t b E;obtain⟨rfl,rfl⟩:=hs.inj _ _ _ _ _ _ b p N l O;rw[h]at c1;cases c1
 have hh:bG K Z2 ⟨st.sl,i++st.hp⟩ w':=by
  have C:=A.keep;refine⟨λs g o p=>?_,λs g s' g' o o' b j J k L=>?_,A.mem,λs g o b j k=>?_,λs g o b j k=>?_,λb o l=>hM b o (hs.m0 b o l),λb o l=>?_,?_⟩
  .cases h:ks.contains s with
   | true =>
    rw[fB (u s h)]at p;exact oC.gU (Z:=Z') (Z2:=Z2) u (λ_ _ h=>h) D h (FW bo p) (A.bT s g o p)
   | false =>
    rw[fB (G s h)]at p;exact(hs.bT s g o p).later ag (F s g h).1 (F s g h).2 λb l=>C.bX b (z h p l).2 (λc=>c.elim (z h p l).1 λc=>(W b c).1.o _ _ _ p l)
  .cases h:ks.contains s<;>cases Q:ks.contains s'
   .rw[fB (G _ h)]at j;rw[fB (G _ Q)]at J;rw[(F _ _ h).1]at k;rw[(F _ _ Q).1]at L;exact hs.inj _ _ _ _ _ _ b j J k L
   .rw[fB (G _ h)]at j;rw[fB (u _ Q)]at J;rw[(F _ _ h).1]at k;rw[(D _ _ Q).1]at L;have f:=z h j k;obtain(c|c)|c:=A.own _ _ _ b J L
    .exact absurd c f.1
    .exact absurd L ((W b c).2.2.1.o _ _ _ J)
    .have I:w.heap.size<=b:=c;omega
   .rw[fB (u _ h)]at j;rw[fB (G _ Q)]at J;rw[(D _ _ h).1]at k;rw[(F _ _ Q).1]at L;have f:=z Q J L;obtain(c|c)|c:=A.own _ _ _ b j k
    .exact absurd c f.1
    .exact absurd k ((W b c).2.2.1.o _ _ _ j)
    .have I:w.heap.size<=b:=c;omega
   .rw[fB (u _ h)]at j;rw[fB (u _ Q)]at J;rw[(D _ _ h).1]at k;rw[(D _ _ Q).1]at L;exact A.inj _ _ _ _ _ _ b j J k L
  .cases h:ks.contains s
   .rw[fB (G _ h)]at j;rw[(F _ _ h).1]at k;have f:=z h j k;cases U:Z'.M b with
    | none=>rfl
    | some y =>
     exfalso;obtain c|(c|c)|c:=A.eM b y U
     .have I:Z.M b=some y:=c;rw[hs.sep _ _ _ b j k]at I;cases I
     .exact f.1 c
     .rw[(W b c).2.2.1.m]at U;cases U
     .have I:w.heap.size<=b:=c;omega
   .rw[fB (u _ h)]at j;rw[(D _ _ h).1]at k;exact A.sep _ _ _ b j k
  .have bu:∀ b,lH Z ⟨[],hp⟩ b->K.X0 b\/K.w0.heap.size<=b:=λb E=>by obtain⟨s3,g3,o3,_,N,O⟩:=t b E;exact hs.own _ _ _ b N O
   cases h:ks.contains s
   .rw[fB (G _ h)]at j;rw[(F _ _ h).1]at k;exact hs.own _ _ _ b j k
   .rw[fB (u _ h)]at j;rw[(D _ _ h).1]at k;obtain(c|c)|c:=A.own _ _ _ b j k
    .exact bu b c
    .exact absurd k ((W b c).2.2.1.o _ _ _ j)
    .exact .inr (dM hs.keep.size c)
  .obtain c|(c|c)|c:=A.eM b o l
   .exact hs.eM b o c
   .obtain⟨s3,g3,o3,_,N,O⟩:=t b c;exact .inr (hs.own _ _ _ b N O)
   .rw[(W b c).2.2.1.m]at l;cases l
   .exact .inr (.inr (dM hs.keep.size c))
  .have V:=hs.keep;refine⟨C.os.trans V.os,C.tape.trans V.tape,C.output.trans V.output,dM V.drawn C.drawn,dM V.size C.size,λb l E=>?_⟩;rw[C.bX b (iL l V.size) (λh=>?_),V.bX b l E];have br:K.X0 b\/K.w0.heap.size<=b:=by
    obtain h|h:=h
    .obtain⟨s3,g3,o3,_,N,O⟩:=t b h;exact hs.own _ _ _ b N O
    .exact(W b h).2.1
   obtain c|c:=br
   .exact E c
   .omega
 have hf:∀ r,sv Z st w r->(∀ s g o,(⟨[],i⟩:St).obj s g=some o->Z'.B s g≠some r)->Z'.M r=none->sv Z2 ⟨st.sl,i++st.hp⟩ w' r:=λr R h1 h2=>by
  refine⟨h2,λs g o j k=>?_,iL R.lt A.keep.size⟩;cases h:ks.contains s
  .rw[fB (G _ h)]at j;rw[(F _ _ h).1]at k;exact R.o _ _ _ j k
  .rw[fB (u _ h)]at j;rw[(D _ _ h).1]at k;exact h1 _ _ _ j k
 refine⟨Z2,hh,?_,ag,⟨hM,λr hR R=>?_,ag⟩,?_⟩
 .cases S with
  | av v=>exact aQ.gU (Z:=Z') (Z2:=Z2) u (λ_ _ h=>h) D E ao
  | fr sz es =>
   refine⟨E.1,λb n c af s g o j k=>?_⟩;cases h:ks.contains s
   .rw[fB (G _ h)]at j;rw[(F _ _ h).1]at k;have f:=z h j k;obtain⟨_,h0⟩|⟨b',_,_,_,_,h0,h1,_⟩:=E.1
    .rw[af]at h0;cases h0
    .rw[af]at h0;cases h0;omega
   .rw[fB (u _ h)]at j;rw[(D _ _ h).1]at k;exact E.2 b n c af s g o j k
  | bx sz e us =>
   obtain⟨b,aq,au,T,ap,ys,h1,h2,h3,h4,h5,h6,h7,h8,bb,h9,aw⟩:=E;refine⟨b,aq,au,T,ap,ys,h1,h2,h3,h4,h5,aG.gU (Z:=Z') (Z2:=Z2) u (λ_ _ h=>h) D h6 (MT ao),h7,h8,bb,h9,λs g o j k=>?_⟩;cases h:ks.contains s
   .rw[fB (G _ h)]at j;rw[(F _ _ h).1]at k;have f:=z h j k;omega
   .rw[fB (u _ h)]at j;rw[(D _ _ h).1]at k;exact aw s g o j k
 .have Y:¬ lH Z ⟨[],hp⟩ r:=λE=>by obtain⟨s3,g3,o3,_,N,O⟩:=t r E;exact R.o _ _ _ N O
  refine⟨hf r R (λs g o j k=>?_) ?_,A.keep.bX r R.lt λc=>c.elim Y hR⟩
  .obtain(c|c)|c:=A.own _ _ _ r j k
   .exact Y c
   .exact hR c
   .have I:w.heap.size<=r:=c;have:=R.lt;omega
  .cases U:Z'.M r with
   | none=>rfl
   | some y =>
    exfalso;obtain c|(c|c)|c:=A.eM r y U
    .have I:Z.M r=some y:=c;rw[R.m]at I;cases I
    .exact Y c
    .exact hR c
    .have I:w.heap.size<=r:=c;have:=R.lt;omega
 .cases bk:o' with
  | none=>trivial
  | some m' =>
   subst bk;obtain⟨g1,g2,g3⟩:=W m'.1 (bt _ rfl);obtain⟨m1,m2,m3⟩:=al;exact⟨hf _ g1 m1.o m1.m,g2,m3⟩
theorem Po{hp:List Site}{o:Option zaV}(f:∀ s,(hp.map (·.1)).contains s=true->st.site s=look hp s [])(u:dS (hp.map (·.1)) hp=true)(hs:bG K Z st w)(l:qB o K Z st w):bG (oA Z hp o w) Z ⟨[],hp⟩ w/\qB o (oA Z hp o w) Z ⟨[],hp⟩ w:=by
 have n:∀ {s g o},(⟨[],hp⟩:St).obj s g=some o->(hp.map (·.1)).contains s=true:=λ{s g o} i=>by
  cases h:(hp.map (·.1)).contains s with
  | true=>rfl
  | false=>simp[St.obj,St.site,Gk h]at i
 have k:∀ {s g o},(⟨[],hp⟩:St).obj s g=some o->st.obj s g=some o:=λ{s g o} i=>by rw[fB (st2:=st) (st:=⟨[],hp⟩) (f s (n i))];exact i
 refine⟨⟨λs g o i=>oC.gU (st:=st) (st2:=⟨[],hp⟩) (Z2:=Z) (λs h=>(f s h).symm) (λ_ _ h=>h) (λ_ _ _=>⟨rfl,rfl⟩) (n i) (FW u i) (hs.bT s g o (k i)),λs g y t o x b j p=>hs.inj s g y t o x b (k j) (k p),hs.mem,λs g o b j=>hs.sep s g o b (k j),
  λs g o b j r=>.inl (.inl ⟨s,g,o,j,r⟩),λ_ _ h=>h,λ_ _ h=>.inl h,⟨rfl,rfl,rfl,dE _,dE _,λ_ _ _=>rfl⟩⟩,?_⟩
 cases o with
 | none=>trivial
 | some m=>exact⟨⟨l.1.m,λs g o j=>l.1.o s g o (k j),l.1.lt⟩,.inl (.inr rfl),l.2.2⟩
theorem su.take{res:HV}{dd:Nat}{x:Value}{o:Option zaV}{w0:World}(hs:bG K Z st w)(h:su res Z st w0 w x)(z:vU ks res=true)(J:K.w0.heap.size<=w0.heap.size)(hm:qB o K Z st w)(y:∀ b,Au o b->b<w0.heap.size) :
  ∃ Z2 v st2,sO res st dd=(v,st2)/\bG K Z2 st2 w/\aQ Z2 st2 v x/\st2.sl=st.sl/\cP Z st Z2 st2/\(∀ r,r<w0.heap.size->sv Z st w r->sv Z2 st2 w r)/\qB o K Z2 st2 w:=by
 have mk:∀ {Z2:Cz} {A:Option Nat} {c:Nat} {u:AV} {ob:bI},Z2=Z.bR dd (st.site dd).length A c->(∀ b,A=some b->w0.heap.size<=b)->sO res st dd=(u,st.alloc dd ob)->bG K Z2 (st.alloc dd ob) w->aQ Z2 (st.alloc dd ob) u x ->
    ∃ Z2 v st2,sO res st dd=(v,st2)/\bG K Z2 st2 w/\aQ Z2 st2 v x/\st2.sl=st.sl/\cP Z st Z2 st2/\(∀ r,r<w0.heap.size->sv Z st w r->sv Z2 st2 w r)/\qB o K Z2 st2 w:=by
  rintro Z2 A c u ob rfl k l Q E;have L:∀ r,r<w0.heap.size->sv Z st w r->sv (Z.bR dd (st.site dd).length A c) (st.alloc dd ob) w r:=λr z F=>by
   refine⟨F.m,λs g o a1 C=>?_,F.lt⟩;rw[lD]at a1;simp only[Cz.bR]at C;by_cases B:s=dd/\g=(st.site dd).length
   .grind
   .rw[bD B]at a1 C;exact F.o _ _ _ a1 C
  refine⟨_,_,_,l,Q,E,rfl,cP.alloc _ _ _ _ _ _,L,?_⟩;cases o with
  | none=>trivial
  | some m=>exact⟨L _ (y _ rfl) hm.1,hm.2⟩
 cases res with
 | av v=>exact⟨Z,v,st,rfl,hs,h,rfl,cP.refl Z st,λ_ _ h=>h,hm⟩
 | bx sz e us =>
  simp only[vU,jO,decide_eq_true_eq,beq_iff_eq]at z;obtain⟨⟨j,hp⟩,_⟩:=z;obtain⟨b,cap,cur,T,vals,ys,rfl,E,h3,R,S,U,V,W,n,X,D⟩:=h
  have f:=hs.zE dd ⟨sz,[e]⟩ b cur T cap vals S R (λs g o H=>D s g o H) (.inr (dM J h3)) hp (λx B=>by rw[iT]at B;subst B;exact j)
    (λq hq=>X q (by simpa using hq)) (by simpa using U) V W (by simpa using n.1) n.2
  refine mk (u:=.bM (.ptr dd (st.site dd).length 0 0::us.map .p)) (ob:=⟨sz,[e]⟩) rfl (λO k=>by cases k;exact h3) rfl f (.bM _ _ (.cons _ _ _ _ ?_ (aG.lZ E)));have:=aQ.ptr (Z:=Z.bR dd (st.site dd).length (some b) cap) (st:=st.alloc dd ⟨sz,[e]⟩) dd (st.site dd).length 0 0 ⟨sz,[e]⟩ b (by rw[lD,if_pos ⟨rfl,rfl⟩]) (by simp[Cz.bR]);simpa using this
 | fr sz es =>
  simp only[vU,Bool.and_eq_true,decide_eq_true_eq]at z;obtain⟨t,hp⟩:=z;have j:∀ e∈es,e.sz=sz:=λe l=>by simpa using List.all_eq_true.1 t e l
  obtain⟨I,G⟩:=h;obtain⟨rfl,rfl⟩|⟨b,cap,cur,T,vals,rfl,M,Y,r3,r4,r5,r6,N,r8,r9⟩:=I
  .exact mk (u:=.own dd (st.site dd).length 0 0) (ob:=⟨sz,[]⟩) rfl (λb k=>(by cases k)) rfl (hs.iQ dd sz hp) (.d' dd _ ⟨sz,[]⟩ (by rw[lD,aX ⟨rfl,rfl⟩]) (by simp[Cz.bR]))
  .have i:aG Z st ((es.map AV.p).flatMap AV.cells) vals:=by rw[qU];exact aG.lZ r4
   have f:=hs.zE dd ⟨sz,es.map .p⟩ b cur T cap vals r3 Y (λs g o H=>G b _ _ rfl s g o H) (.inr (dM J M)) hp
     (λe l=>by simp at l;obtain⟨q,hq,rfl⟩:=l;exact j q hq)
     (λq hq=>by rw[qU]at hq;simp only[cA]at hq;obtain⟨u,hu,rfl⟩:=hq;exact r9 u hu)
     i r5 r6 (by simpa using N) r8
   exact mk (u:=.own dd (st.site dd).length 0 es.length) (ob:=⟨sz,es.map .p⟩) rfl (λO k=>by cases k;exact M) rfl f (.own dd _ 0 es.length ⟨sz,es.map .p⟩ b _ cap (by rw[lD,aX ⟨rfl,rfl⟩]) (by simp[Cz.bR]) (λ_=>⟨rfl,by simp[Cz.bR]⟩) (λ_=>by simp) (by simp) N)
end
section
variable {P:Program} {K:Ctx} {Z Z':Cz} {st st':St} {w w':World} {a:Act} {orc:Option bJ} {d:Nat} {v:AV}
theorem lv{α β : Type}{x:Option α}{f : α -> Option β}{b : β}(h:x.bind f=some b):∃ y,x=some y/\f y=some b:=by
 cases x with
 | none=>cases h
 | some y=>exact⟨y,rfl,h⟩
theorem cO{α β : Type}{x:Option α}{f : α -> β}{b : β}(h:x.map f=some b):∃ y,x=some y/\f y=b:=by
 cases x with
 | none=>cases h
 | some y=>exact⟨y,rfl,by simpa using h⟩
def Zg(z:AV):Bool->Option PV->AV
 | false,some u=>.p u
 | false,none=>z
 | true,some u=>.bM [.p u,.p (.bool true)]
 | true,none=>.bM [z,.p (.bool false)]
def Xc{t:TypeId}{m k:Operand}{c:Bool}{o:c7}(y:CP P t m k c=some o)(hs:aN K Z st w a)(f:bY orc st d o=some (v,st')) :
  Good P K Z st ((do pure (Next.value (<- Instr.lookup t (a.eval m) (a.eval k) c)):Sem Next).run P w) v st':=by
 unfold CP at y;split at y
 .rename_i kt et V;obtain⟨qs,hq,y⟩:=lv y;obtain⟨m',hm,y⟩:=lv y;obtain⟨k',ad,y⟩:=lv y;obtain⟨z,hz,rfl⟩:=cO y;have E:=fH hm hs;have D:=fH ad hs;obtain⟨i,zx,hi,ag,O⟩:=zX hz;obtain⟨S,M⟩:=Qq hq;generalize a.eval m=X at E ⊢;generalize a.eval k=Y at D ⊢
  have R:∀ {r:Nat} {ks F kc:List PV},st.ev m'=.p (.mp r ks F)->st.ev k'=.p (.agg kc)->kA qs kc=true->ks.all (sA qs)=true ->
    ∃ x,(Instr.lookup t X Y c).run P w=.ok x w/\aQ Z st (Zg z c (oE kc ks F)) x:=by
   intro r ks F kc B C J L;rw[B]at E;rw[C]at D;cases E.cF with
   | mp _ _ _ es A m0 m1 m2 m3 m4 m5 =>
    cases D.cF with
    | agg _ al _ s =>
     obtain⟨l,hl⟩:=M J s;have hb:=hs.heap.mem r _ m0;have I:=Mz (λB C=>M B C) L m1;obtain⟨f1,f2⟩:=RB J s L m1 m2 m3;have b:=S.check w es.isEmpty hl;have h:(getObj r).run P w=.ok (.map es A) w:=by simp[getObj,Sem.run,hb]
     have Q:(zeroValue et).run P w=.ok zx w:=by simp[zeroValue,typeInfo,hi,ag]
     obtain⟨H,g2⟩|⟨j,U,H,g2,g3⟩:=S.find w hl es.toList I
     .rw[f1 g2];cases c with
      | false=>exact⟨zx,by simp[Instr.lookup,run_underlying V,h,b,H,Q],O Z st⟩
      | true=>exact⟨.tuple #[zx,.bool false],by simp[Instr.lookup,run_underlying V,h,b,H,Q],.bM _ [zx,.bool false] (.cons _ _ _ _ (O Z st) (.cons _ _ _ _ (.p _ _ (.bool false)) .nil))⟩
     .obtain⟨u,af,N⟩:=f2 j U g2 g3;rw[af];cases c with
      | false=>exact⟨U.val,by simp[Instr.lookup,run_underlying V,h,b,H],.p _ _ N⟩
      | true=>exact⟨.tuple #[U.val,.bool true],by simp[Instr.lookup,run_underlying V,h,b,H],.bM _ [U.val,.bool true] (.cons _ _ _ _ (.p _ _ N) (.cons _ _ _ _ (.p _ _ (.bool true)) .nil))⟩
  cases c with
  | false =>
   simp only[bY,gP,fQ]at f;split at f
   .rename_i r ks F kc B C;split at f
    .rename_i n;simp only[cD,c5]at f;obtain⟨rfl,rfl⟩:=f;obtain⟨x,W,G⟩:=R B C n.1 n.2;refine iH (x:=x) (by simp[W]) hs ?_;cases hf:oE kc ks F<;>rw[hf]at G<;>exact G
    .cases f
   .cases f
  | true =>
   simp only[bY,cH]at f;split at f
   .rename_i r ks F kc B C;split at f
    .rename_i n;simp only[cD,c5]at f;obtain⟨rfl,rfl⟩:=f;obtain⟨x,W,G⟩:=R B C n.1 n.2;refine iH (x:=x) (by simp[W]) hs ?_;cases hf:oE kc ks F<;>rw[hf]at G<;>exact G
    .cases f
   .cases f
 .cases y
theorem Sv{l:List Operand}{x:bP}(h:oX l=some [x]):∃ f,l=[f]/\dJ f=some x:=by
 cases l with
 | nil=>simp[oX]at h
 | cons y j =>
  simp only[oX]at h;split at h
  .rename_i p q i b;cases h;cases j with
   | nil=>exact⟨y,rfl,i⟩
   | cons z zs=>simp only[oX]at b;split at b<;>cases b
  .cases h
theorem LM{l:List Operand}{x y:bP}(h:oX l=some [x,y]):∃ j k,l=[j,k]/\dJ j=some x/\dJ k=some y:=by
 cases l with
 | nil=>simp[oX]at h
 | cons a l =>
  simp only[oX]at h;split at h
  .rename_i p q m f;cases h;cases l with
   | nil=>simp[oX]at f
   | cons b l =>
    simp only[oX]at f;split at f
    .rename_i o r n i;cases f;cases l with
     | nil=>exact⟨a,b,rfl,m,n⟩
     | cons c l=>simp only[oX]at i;split at i<;>cases i
    .cases f
  .cases h
def ZG{o:Oper}{i:c7}(j:oD P o.op=some i)(hn:∀ c f,o.op=.call c->c.callee ≠ .value f)(hs:aN K Z st w a)(C:bY orc st d i=some (v,st')):Good P K Z st ((execOp a.eval o).run P w) v st':=by
 unfold execOp;cases W:o.op<;>rw[W]at j<;>simp only[oD]at j
 case move x=>obtain⟨y,B,rfl⟩:=cO j;exact T6 B hs C
 case assign x=>obtain⟨y,B,rfl⟩:=cO j;exact T6 B hs C
 case pick c x y =>
  obtain⟨c',B,j⟩:=lv j;obtain⟨N,F,j⟩:=lv j;obtain⟨U,H,rfl⟩:=cO j;exact yb1 B F H hs C
 case alloc e=>obtain⟨z,B,rfl⟩:=cO j;exact W5 B hs C
 case box e x=>obtain⟨y,B,rfl⟩:=cO j;exact yg1 B hs C
 case build t parts =>
  split at j
  .rename_i fs D;obtain⟨pl,B,j⟩:=lv j;obtain⟨z,F,j⟩:=lv j;split at j
   .rename_i Q;obtain⟨l,H,rfl⟩:=cO j;exact W6 D B F Q H hs C
   .cases j
  .rename_i n e D;obtain⟨ie,B,j⟩:=lv j;obtain⟨z,F,j⟩:=lv j;split at j
   .rename_i Q;obtain⟨l,H,rfl⟩:=cO j;exact Yj D B F Q H hs C
   .cases j
  .cases j
 case buildSlice t n parts =>
  split at j
  .rename_i e D;obtain⟨z,B,j⟩:=lv j;obtain⟨l,F,rfl⟩:=cO j;exact Yi D B F hs C
  .cases j
 case load t x =>
  obtain⟨y,B,j⟩:=lv j;split at j
  .rename_i J;cases j;exact yb3 B J hs C
  .cases j
 case store t p x =>
  obtain⟨q,B,j⟩:=lv j;obtain⟨y,F,j⟩:=lv j;split at j
  .rename_i J;cases j;have:v=.undef:=by
    simp only[bY]at C
    (repeat' split at C)<;>first|cases C;rfl|cases C
   subst this;exact Xf B F J hs C
  .cases j
 case nilCheck x=>obtain⟨y,B,rfl⟩:=cO j;exact Xd B hs C
 case binOp op t x y t2 =>
  obtain⟨N,B,j⟩:=lv j;obtain⟨U,F,j⟩:=lv j;split at j
  .cases j;exact yb5 B F hs C
  .rename_i D;cases j;exact yb8 D B F hs C
  .rename_i D;exact Xb D B F j hs C
  .obtain⟨ks,H,rfl⟩:=cO j;exact yb9 H B F hs C
 case unOp op t x =>
  obtain⟨N,B,j⟩:=lv j;split at j
  .cases j;exact ygv B hs C
  .cases j;exact ygw B hs C
  .cases j;exact yb4 B hs C
  .cases j
 case convert s t x =>
  obtain⟨N,B,j⟩:=lv j;split at j
  .rename_i F H;cases j;exact yb7 F H B hs C
  .cases j
 case makeFunc fn first ag =>
  unfold Ej at j;split at j
  .rename_i f;split at j
   .rename_i h0;obtain⟨l,B,rfl⟩:=cO j;have:first = #[]:=Array.eq_empty_of_size_eq_zero h0
    subst this;exact yb2 B hs C
   .cases j
  .cases j
 case makeSlice t l c =>
  split at j
  .rename_i e D;obtain⟨Y,B,j⟩:=lv j;obtain⟨c',F,j⟩:=lv j;obtain⟨z,H,j⟩:=lv j;split at j
   .rename_i hb;cases j;exact U3 D H hb B F hs C
   .cases j
  .cases j
 case slice t x lo hi mx =>
  unfold El at j;split at j
  .cases j
  .split at j
   .rename_i e D;split at j
    .rename_i ad;obtain⟨N,B,j⟩:=lv j;obtain⟨ao,F,j⟩:=lv j;obtain⟨al,H,rfl⟩:=cO j;have V:∀ {y:Option Operand} {U:Option bP},Jj y=some U->(y=none/\U=none)\/∃ l Y,y=some l/\U=some Y/\dJ l=some Y:=by
      intro y U h;cases y with
      | none=>simp[Jj]at h;exact .inl ⟨rfl,h.symm⟩
      | some l=>obtain⟨Y,h4,rfl⟩:=cO h;exact .inr ⟨l,Y,rfl,rfl,h4⟩
     exact Xe D ad B (V F) (V H) hs C
    .cases j
   .cases j
 case fieldAddr s x f =>
  split at j
  .rename_i fs D;split at j
   .rename_i fd hf;split at j
    .rename_i hp;obtain⟨N,B,rfl⟩:=cO j;exact W8 D hf hp B hs C
    .cases j
   .cases j
  .cases j
 case field s x f =>
  split at j
  .rename_i fs D;split at j
   .rename_i fd hf;split at j
    .rename_i J;obtain⟨N,B,rfl⟩:=cO j;exact W9 D hf J B hs C
    .cases j
   .cases j
  .cases j
 case indexAddr t x i =>
  split at j
  .rename_i e D;split at j
   .rename_i hi;obtain⟨N,B,j⟩:=lv j;obtain⟨i',F,rfl⟩:=cO j;exact Xa D hi B F hs C
   .cases j
  .rename_i n e D;split at j
   .rename_i hi;obtain⟨N,B,j⟩:=lv j;obtain⟨i',F,rfl⟩:=cO j;exact Yk D hi B F hs C
   .cases j
  .cases j
 case index t x i =>
  split at j
  .rename_i n e D;split at j
   .rename_i J;obtain⟨N,B,j⟩:=lv j;obtain⟨i',F,rfl⟩:=cO j;exact ygy D J B F hs C
   .cases j
  .rename_i D;obtain⟨N,B,j⟩:=lv j;obtain⟨i',F,rfl⟩:=cO j;exact yb0 D B F hs C
  .cases j
 case extract x i=>obtain⟨N,B,rfl⟩:=cO j;exact U2 B hs C
 case call c =>
  obtain⟨as,B,j⟩:=lv j;have G:c.args.map a.eval=((c.args.toList).map a.eval).toArray:=by simp[<- Array.toList_map]
  unfold B4 at j;split at j
  .rename_i f E;exact(hn c f W E).elim
  .cases j
  .rename_i b E;split at j
   .split at j
    .rename_i x;split at j
     .rename_i J;cases j;obtain⟨R,L,M⟩:∃ R,c.args.toList=[R]/\dJ R=some x:=by
       cases S:c.args.toList with
       | nil=>rw[S]at B;simp[oX]at B
       | cons y ys =>
        rw[S]at B;simp only[oX]at B;split at B
        .rename_i p q e1 e2;cases B;cases ys with
         | nil=>exact⟨y,rfl,e1⟩
         | cons z zs=>simp only[oX]at e2;split at e2<;>cases e2
        .cases B
      have:=ygx (args:=c.argTypes) (ty:=o.type) J M hs C;simpa[resolve,E,invoke,builtin,G,L]using this
     .cases j
    .cases j
   .split at j
    .rename_i x y t u H h4;split at j
     .rename_i e D;split at j
      .rename_i I;obtain⟨g1,g2,g3⟩:=I;cases j;obtain⟨R,y0,S,hx,hy⟩:=LM B;obtain⟨z0,O,af⟩:=Option.map_eq_some_iff.1 g2;have:=Yh (A:=c.argTypes) (ty:=o.type) H h4 D g1 (by rw[O];rfl) g3 (λz Q=>by rw[O]at Q;cases Q;exact af) hx hy hs C;simpa[resolve,E,invoke,builtin,G,S]using this
      .split at j
       .rename_i I;obtain⟨g1,g2,g3⟩:=I;obtain⟨z0,O,rfl⟩:=cO j;obtain⟨R,y0,S,hx,hy⟩:=LM B;obtain⟨k,hk⟩:∃ k,P.underlying u=some (.int k):=by
         cases X:P.underlying u with
         | none=>simp[X,NJ]at g1
         | some d=>cases d<;>simp[X,NJ]at g1;exact⟨_,rfl⟩
        have:=U1 (A:=c.argTypes) (ty:=o.type) H h4 D hk O g3 hx hy hs C;simpa[resolve,E,invoke,builtin,G,S]using this
       .cases j
     .cases j
    .cases j
   .split at j
    .rename_i x;split at j
     .rename_i J;cases j;obtain⟨R,L,M⟩:=Sv B;have:=yg0 (args:=c.argTypes) (ty:=o.type) J M hs C;simpa[resolve,E,invoke,builtin,G,L]using this
     .cases j
    .cases j
   .split at j
    .rename_i x t H;split at j
     .rename_i e D;obtain⟨z,Q,rfl⟩:=cO j;obtain⟨R,L,M⟩:=Sv B;have:=W7 (A:=c.argTypes) (ty:=o.type) H D Q M hs C;simpa[resolve,E,invoke,builtin,G,L]using this
     .cases j
    .cases j
   .cases j;simp only[bY]at C;split at C
    .rename_i r hr;simp only[Option.some.injEq,Prod.mk.injEq]at C;obtain⟨rfl,rfl⟩:=C;have:=Qu (P:=P) (mx:=false) (args:=c.argTypes) (ty:=o.type) B hs hr;simpa[resolve,E,invoke,builtin]using this
    .cases C
   .cases j;simp only[bY]at C;split at C
    .rename_i r hr;simp only[Option.some.injEq,Prod.mk.injEq]at C;obtain⟨rfl,rfl⟩:=C;have:=Qu (P:=P) (mx:=true) (args:=c.argTypes) (ty:=o.type) B hs hr;simpa[resolve,E,invoke,builtin]using this
    .cases C
   .cases j
 case lookup t m k b=>exact Xc j hs C
 all_goals first|(cases j;done)|(cases j;simp only[bY]at C;cases C)
def Gq{f:FuncId}{args:Array Value}(h:∃ b,P.funcs[f]?=some b/\b.body.isSome=true/\b.name ≠ "runtime.NumGoroutine"):(callFunc f args).run P w=.ok (.enter f args) w:=by obtain⟨b,i,j,k⟩:=h;simp[callFunc,i,k];intro l;simp[l]at j
def bJ.ok(P:Program)(c:bJ):Prop :=
 match c.res with
 | .oo vs hp res iO=>kU P c.f vs hp none res iO none
 | _=>match c.tn with
  | none=>Sp P c.f c.args c.res
  | some (i,sz,b)=>gO P c.f c.args i sz b c.res
def Gs{f:FuncId}{vs:List AV}(b:xR orc st d f vs=some (v,st')):∃ c,orc=some c/\f=c.f/\BD c st vs/\zL c st d vs=some (v,st'):=by
 unfold xR at b;split at b
 .rename_i c;by_cases h:f=c.f/\BD c st vs
  .rw[aX h]at b;exact⟨c,rfl,h.1,h.2,b⟩
  .rw[bD h]at b;cases b
 .cases b
def BC:RV->Bool
 | .oo _ _ _ _=>true
 | _=>false
def z51{c:bJ}(h:BC c.res=false)(st:St)(vs:List AV):BD c st vs=(vs.mapM (bH st bF)=some c.args):=by unfold BD;cases b:c.res<;>first|rfl|(rw[b]at h;cases h)
def Nj{c:bJ}(h:BC c.res=false)(st:St)(d:Nat)(vs:List AV):zL c st d vs=match c.tn with|none=>zN c st d (vs.flatMap (aS st bF))|some (i,sz,b)=>AG c i sz b st vs:=by unfold zL;cases f:c.res<;>first|rfl|(rw[f]at h;cases h)
def Zj{c:bJ}(h:BC c.res=false):bJ.ok P c=match c.tn with|none=>Sp P c.f c.args c.res|some (i,sz,b)=>gO P c.f c.args i sz b c.res:=by unfold bJ.ok;cases j:c.res<;>first|rfl|(rw[j]at h;cases h)
theorem Ic{α β : Type}{f : α -> Option β}:∀ {xs:List α} {r:List β},xs.mapM f=some r->∀ (j:Nat) (x : α),xs[j]?=some x->∃ y,r[j]?=some y/\f x=some y
 | [],r,_,j,x,b=>by simp at b
 | z::xs,r,h,j,x,b=>by
  obtain⟨y,l,i,k,rfl⟩:=EJ h;cases j with
  | zero=>simp at b;subst b;exact⟨y,rfl,i⟩
  | succ j=>simpa using Ic k j x (by simpa using b)
theorem z85{n s g off b:Nat}:bH st (n+1) (.own s g off b)=match st.obj s g with
  | some o=>if off+b<=o.es.length then(((o.es.drop off).take b).mapM (bH st n)).map .sl else none
  | none=>none:=rfl
theorem W2{n s g b off:Nat}:bH st (n+1) (.ptr s g b off)=if b=0/\off=0 then match st.obj s g with
   | some o=>match o.es with
    | [e]=>(bH st n e).map .ref
    | _=>none
   | none=>none
   else none:=rfl
def yba{vs:List AV}{vals:List Value}{args:List PV}{s g E i:Nat}{sl:Bool}{o:bI}{ids:List (Nat × Nat)}(hs:bG K Z st w)(S:aG Z st vs vals)(R:vs.mapM (bH st bF)=some args)(A:BH vs[i]?=some (s,g,E,sl))(r:st.obj s g=some o)(l:E=o.es.length)
  (u:ids=(vs.eraseIdx i).flatMap (aS st bF)++o.es.flatMap (aS st 5)) (J:(s,g)∉ids) :
  ∃ es,sr (Mx Z st w ids) w (Z.B s g) (Z.cap s g) o.sz es/\es.length=o.es.length/\∀ p,args[i]?=some p->∃ x,vals[i]?=some x/\DK p es (Z.B s g) (Z.cap s g) x:=by
 have m:=hs.bT s g o r;have D:∀ es,o.es.mapM (bH st 5)=some es->sr (Mx Z st w ids) w (Z.B s g) (Z.cap s g) o.sz es:=by
  intro es j;have l:=CT j;cases k:Z.B s g with
  | none =>
   have Y:=m.x5 k;rw[Y]at j;have:=EH j;subst this;exact⟨m.pos,by simp,by simp,λ_=>rfl,λb k=>by cases k⟩
  | some b =>
   obtain⟨G,T,vals,k1,k2,k3,k4,k5,k6⟩:=m.bX b k;obtain⟨r1,r2,r3⟩:=Gi (w:=w) (n:=5) (ids:=ids) m.pos (BN hs ids 5) k2 j m.iI m.one (λi hi=>by rw[u];exact dN.2 (.inr hi));refine⟨m.pos,r2,r3,λ(h:some b=none)=>(by cases h),λb' H=>?_⟩;cases H;refine⟨?_,G,T,vals,k1,r1,k3,k4,by omega,k6⟩;cases I:Mx Z st w ids b with
   | none=>rfl
   | some y =>
    exfalso;obtain h|⟨_,_,s',X,ob,U,V,W⟩:=rM I
    .rw[hs.sep s g o b r k]at h;cases h
    .obtain⟨rfl,rfl⟩:=hs.inj s g s' X o ob b r V k W;exact J U
 obtain⟨C,_⟩|⟨C,af,_⟩:=Rb A
 .obtain⟨p,M,f⟩:=Ic R i _ C;obtain⟨x,N,t⟩:=S.get i _ C;rw[bF,z85]at f;simp only[r,sG,Ae]at f;rw[aX (by omega),eZ (by omega)]at f;obtain⟨es,j,rfl⟩:=wL.1 f;have Q:=CT j;refine⟨es,D es j,Q,λq F=>⟨x,N,?_⟩⟩;rw[M]at F;cases F;refine .inl ⟨rfl,?_⟩;cases t with
  | d' _ _ o' L k=>rw[k]
  | own _ _ _ _ o' b ad c L k h1 h2 h3 h4 =>
   obtain⟨rfl,rfl⟩:=h1 rfl;rw[k,Q,<- l]
  | eO _ _ _ _ _ _ _ hd=>exact(uH r hd).elim
 .obtain⟨p,M,f⟩:=Ic R i _ C;obtain⟨x,N,t⟩:=S.get i _ C;rw[bF,W2]at f;simp only[r,and_self,cH]at f;split at f
  .rename_i e O;obtain⟨q,F,rfl⟩:=wL.1 f;refine⟨[q],D [q] (by rw[O];simp[F]),by rw[O];rfl,λq' z=>⟨x,N,?_⟩⟩;rw[M]at z;cases z;obtain⟨b,k,rfl⟩:=BV t r;exact .inr ⟨q,b,rfl,rfl,k,by simp⟩
  .cases f
theorem yg6{o:Oper}{i:c7}{I:Call}{f:Operand}(hc:oD P o.op=some i)(af:o.op=.call I)(hf:I.callee=.value f)(hs:aN K Z st w a)(V:bY orc st d i=some (v,st'))(al:∀ c,orc=some c->c.ok P)
  {next:Act->World->Prop} {Q:Exit->Act->World->Prop} (D:∀ w' Z' x,bG K Z' st' w'->aQ Z' st' v x->cP Z st Z' st'->next (a.put o.dst x) w'):o.wp P a w next Q:=by
 obtain⟨as,ag,y⟩:∃ as,oX I.args.toList=some as/\B4 P I.callee I.argTypes as=some i:=by rw[af]at hc;simp only[oD]at hc;obtain⟨as,O,R⟩:=lv hc;exact⟨as,O,R⟩
 have hr:=CJ ag hs;have U:I.args.map a.eval=((I.args.toList).map a.eval).toArray:=by simp[<- Array.toList_map]
 obtain⟨c,m,n,X,bb,aw,L,l⟩:∃ (c:bJ) (m:List AV) (n:List Value),orc=some c/\a.eval f=.func (.func c.f) #[] n.toArray/\aG Z st m n /\
   BD c st (as.map st.ev++m)/\zL c st d (as.map st.ev++m)=some (v,st'):=by
  rw[hf]at y;simp only[B4]at y;split at y
  .rename_i g hg;cases y;have A:=fH hg hs;simp only[St.ev]at A;simp only[bY]at V;obtain⟨c,O,R,Y,h4⟩:=Gs V;subst R;have G:=A.cF;generalize a.eval f=F at G ⊢;cases G with
   | fn _ _ H h=>cases h;exact⟨c,[],[],O,rfl,.nil,by simpa using Y,by simpa using h4⟩
  .rename_i f' hg;cases y;have A:=fH hg hs;simp only[bY]at V;split at V
   .rename_i g m W;rw[W]at A;obtain⟨c,O,R,Y,h4⟩:=Gs V;subst R;have G:=A.cF;generalize a.eval f=F at G ⊢;cases G with
    | fn _ _ H h=>exact⟨c,m.map .p,H,O,rfl,aG.lZ h,Y,h4⟩
   .rename_i g m W;rw[W]at A;obtain⟨c,O,R,Y,h4⟩:=Gs V;subst R;generalize a.eval f=F at A ⊢;cases A with
    | fn _ _ H h=>exact⟨c,m,H,O,rfl,h,Y,h4⟩
   .cases V
  .cases y
 have z:=al c X;have r:=hr.append aw;have J:(∃ fn,P.funcs[c.f]?=some fn/\fn.body.isSome=true/\fn.name ≠ "runtime.NumGoroutine")->(execOp a.eval o).run P w=.ok (.enter c.f ((I.args.toList.map a.eval++n).toArray)) w:=by
  intro C;have:=Gq (P:=P) (w:=w) (args:=(I.args.toList.map a.eval++n).toArray) C;simp only[execOp,af,resolve,hf,bb,Deferred.ofValue,mW,oJ,qF,invoke];have e : #[]++I.args.map a.eval++n.toArray=(I.args.toList.map a.eval++n).toArray:=by rw[U];simp
  rw[e];exact this
 unfold Oper.wp;cases hH:BC c.res with
 | true =>
  unfold bJ.ok at z;unfold zL at l;unfold BD at L;cases ao:c.res with
  | oo cs G ca cm =>
   rw[ao]at z l L;simp only at z l L;obtain⟨rfl,_,hk,bk,M⟩:=L;obtain⟨C,oo⟩:=z;rw[J C,E2];simp only[jO]at M;obtain⟨⟨⟨r1,r2⟩,r3⟩,r4⟩:=M;have E:∀ s,(G.map (·.1)).contains s=true->st.site s=look G s []:=λs hs=>by obtain⟨q,hq,rfl⟩:=cA.1 (E3.1 hs);exact IG hk q hq
   obtain⟨u1,u2⟩:=Po (o:=none) E r2 hs.heap trivial;refine(oo Z w _ u1 u2 (aG.gU (st:=st) (st2:=⟨[],G⟩) (Z2:=Z) (λs h=>(E s h).symm) (λ_ _ h=>h) (λ_ _ _=>⟨rfl,rfl⟩) r r1)).mono ?_;rintro e w' ⟨x,Z',rfl,p1,p2,p3,p4⟩;obtain⟨Z2,q1,q2,q3,q4,q5⟩:=Qo rfl bk E r4 (by cases ca with|av v=>exact r3|fr _ _=>rfl|bx _ _ _=>exact(Bool.and_eq_true_iff.1 r3).2) hs.heap (o:=none) (o':=none) trivial p1 p2 p3 p4;obtain⟨Z3,v1,cp,e1,t1,t2,t3,t4,t5,t6⟩:=su.take (dd:=d) q1 q2 r3 hs.heap.keep.size q5 (λb hb=>hb.elim);rw[e1]at l;simp only[cD,c5]at l;obtain⟨rfl,rfl⟩:=l;exact D w' Z3 x t1 t2 (q3.trans t4)
  | _=>rw[ao]at hH;cases hH
 | false =>
 rw[z51 hH]at L;rw[Nj hH]at l;rw[Zj hH]at z;cases au:c.tn with
 | none =>
  rw[au]at z l;obtain⟨C,oo⟩:=z;rw[J C,E2];have G:=Gc (w:=w) (BN hs.heap ((as.map st.ev++m).flatMap (aS st bF)) bF) r L (λi hi=>hi);refine(oo w _ _ (λb ob hb=>?_) G).mono ?_
  .obtain h|⟨_,h,_⟩:=rM hb
   .exact hs.heap.mem b ob h
   .exact h
  .rintro e w' ⟨x,M',rfl,p1,p2,p3,p4,p5⟩;obtain⟨Z',q1,q2,q3⟩:=Pp (vs:=as.map st.ev++m) hs.heap p1 p2 p3 p4 p5 l;exact D w' Z' x q1 q2 q3
 | some t =>
  obtain⟨i,sz,ce⟩:=t;rw[au]at z l;obtain⟨C,oo⟩:=z;simp only at oo l;rw[J C,E2];obtain⟨s,g,co,sl,ob,ap,ho,hi,N,cf,aq,ad,hv,br⟩:=Rr l;generalize cn:as.map st.ev++m=vs at *
  obtain⟨es,m1,m2,m3⟩:=yba hs.heap r L ap ho N rfl ad;rw[aq]at m1;have S:vs.length=c.args.length:=(CT L).symm;have bu:(I.args.toList.map a.eval++n).length=c.args.length:=by rw[<- S];exact r.length
  refine(oo w _ _ (Z.B s g) (Z.cap s g) es (λb ob hb=>?_) bu m3 (by rw[<- S];exact hi) m1 (λj p hj G=>?_)).mono ?_
  .obtain h|⟨_,h,_⟩:=rM hb
   .exact hs.heap.mem b ob h
   .exact h
  .obtain⟨u,hu⟩:∃ u,vs[j]?=some u:=by
    have:j<vs.length:=by rw[S];exact(iU.1 G).1
    exact⟨vs[j],dO this⟩
   obtain⟨q,hq,bt⟩:=Ic L j u hu;rw[G]at hq;cases hq;obtain⟨x,hx,bo⟩:=r.get j u hu;refine⟨x,hx,BN hs.heap _ bF u x p bo bt (λk hk=>dN.2 (.inl (kC.2 ⟨u,?_,hk⟩)))⟩;rw[List.mem_eraseIdx_iff_getElem?];exact⟨j,hj,hu⟩
  .rintro e w' ⟨x,M',rfl,p1,p2,p3,p4,p5,p6,p7⟩;obtain⟨Z',q1,q2,q3⟩:=YE (vs:=vs) hs.heap ho N aq ad p1 p2 p3 p4 (by rw[p5,m2]) p6 (by rw[m2]at p7;exact p7) hv br;exact D w' Z' x q1 q2 q3
end
def jC:AV->List Nat
 | .own s _ _ _=>[s]
 | .ptr s _ _ _=>[s]
 | _=>[]
def bP.aY:bP->List Nat
 | .t n=>[n]
 | .c _=>[]
def iJ:Option bP->List bP
 | some x=>[x]
 | none=>[]
def c7.bZ:c7->List bP
 | .mv x | .box _ x | .load _ _ x | .bV x | .not x | .neg x | .tA x | .conv _ x | .iP _ x | .field _ _ _ x | .extract x _ | .len x | .ic _ x | .cap x | .clear _ _ x=>[x]
 | .pick c a b=>[c,a,b]
 | .alloc _ _ | .raw _ | .bad=>[]
 | .build _ ps=>ps.map (·.2.2)
 | .b4 _ _ _ ps=>ps.map (·.2)
 | .store _ a v | .dI _ a v | .gJ _ a v | .j' _ _ a v | .cM _ _ a v | .cG _ a v | .cB _ _ a v | .idx _ _ _ a v | .append _ a v | .fE _ _ a v | .qK a v | .mr _ _ a v | .jY _ _ a v=>[a,v]
 | .gT _ iF=>iF
 | .slice _ x lo hi=>x::(iJ lo++iJ hi)
 | .min xs | .max xs=>xs
 | .call _ args=>args
 | .iv f args=>f::args
def xQ(st:St):c7->List AV
 | .call _ args=>args.map st.ev
 | .iv x args=>match st.ev x with
  | .p (.fn _ b)=>args.map st.ev++b.map .p
  | .fn _ b=>args.map st.ev++b
  | _=>[]
 | _=>[]
def vX(orc:Option bJ)(st:St)(vs:List AV):List Nat :=
 match orc with
 | some c=>match c.res with
  | .oo _ b _ _=>b.map (·.1)
  | _=>(vs.flatMap (aS st bF)).map (·.1)
 | none=>(vs.flatMap (aS st bF)).map (·.1)
def ek(orc:Option bJ)(st:St)(d:Nat)(b:c7):List Nat :=
 match b with
 | .alloc _ _ | .box _ _ | .b4 _ _ _ _ | .cM _ _ _ _ | .fE _ _ _ _=>[d]
 | .load _ _ x | .bV x | .iP _ x | .slice _ x _ _ | .cG _ x _ | .cB _ _ x _ | .ic _ x | .clear _ _ x=>jC (st.ev x)
 | .store _ a _=>jC (st.ev a)
 | .append _ a x=>d::(jC (st.ev a)++jC (st.ev x))
 | .call _ _ | .iv _ _=>d::vX orc st (xQ st b)
 | _=>[]
def Bz(orc:Option bJ)(d:Nat)(ids:List Nat):List Nat :=
 match orc with
 | some c=>match c.res with
  | .oo _ _ _ _=>d::ids
  | _=>match c.tn with
   | some _=>d::ids
   | none=>(if c.res.flat then[]else ids)++(match c.res with | .fresh _ _=>[d]|_=>[])
 | none=>[]
def gV(orc:Option bJ)(st:St)(d:Nat)(b:c7):List Nat :=
 match b with
 | .alloc _ _ | .box _ _ | .b4 _ _ _ _ | .cM _ _ _ _ | .fE _ _ _ _=>[d]
 | .store _ a _=>jC (st.ev a)
 | .clear _ _ a=>jC (st.ev a)
 | .append _ a _=>d::jC (st.ev a)
 | .call _ _ | .iv _ _=>Bz orc d (vX orc st (xQ st b))
 | _=>[]
section
variable {orc:Option bJ} {st st' st2:St} {d:Nat} {v:AV}
def Gu{o:bI}{s:Nat}(h:st2.site d=st.site d)(hs:s=d\/st2.site s=st.site s):(st2.alloc d o).site s=(st.alloc d o).site s:=by
 rw[vG,vG,h];split
 .rfl
 .grind
theorem QS:∀ (n:Nat) (u:AV),(∀ i∈aS st n u,st2.site i.1=st.site i.1)->bH st2 n u=bH st n u/\aS st2 n u=aS st n u
 | 0,_,_=>⟨rfl,rfl⟩
 | n+1,u,h=>by
  have G:=QS n;have b:∀ (l:List AV),(∀ i∈l.flatMap (aS st n),st2.site i.1=st.site i.1)->l.mapM (bH st2 n)=l.mapM (bH st n)/\l.flatMap (aS st2 n)=l.flatMap (aS st n):=by
   intro l
   induction l with
   | nil=>intro _;exact⟨rfl,rfl⟩
   | cons x N E =>
    intro h;obtain⟨H,I⟩:=G x (λi m=>h i (by simp only[jG,dN];exact .inl m));obtain⟨k,j⟩:=E (λi m=>h i (by simp only[jG,dN];exact .inr m));exact⟨by rw[Cg,Cg,H,k],by rw[jG,jG,I,j]⟩
  cases u with
  | p v=>exact⟨rfl,rfl⟩
  | nil=>exact⟨rfl,rfl⟩
  | skip=>exact⟨rfl,rfl⟩
  | undef=>exact⟨rfl,rfl⟩
  | cp v J t=>exact⟨rfl,rfl⟩
  | agg y=>obtain⟨k,j⟩:=b y h;exact⟨by simp only[bH,k],j⟩
  | bM y=>obtain⟨k,j⟩:=b y h;exact⟨by simp only[bH,k],j⟩
  | fn f y=>obtain⟨k,j⟩:=b y h;exact⟨by simp only[bH,k],j⟩
  | own s g t F =>
   have C:st2.obj s g=st.obj s g:=fB (h (s,g) (by simp[aS]));simp only[bH,aS,C]at h ⊢;cases r:st.obj s g with
   | none=>exact⟨rfl,rfl⟩
   | some o =>
    simp only[r,cI,forall_eq_or_imp]at h;obtain⟨k,j⟩:=b o.es h.2;obtain⟨z,_⟩:=b ((o.es.drop t).take F) (λi m=>h.2 i (by
     obtain⟨e,A,B⟩:=kC.1 m;exact kC.2 ⟨e,kD (iC A),B⟩))
    exact⟨by simp only[z],by simp only[j]⟩
  | ptr s g L t =>
   have C:st2.obj s g=st.obj s g:=fB (h (s,g) (by simp[aS]));simp only[bH,aS,C]at h ⊢;cases r:st.obj s g with
   | none=>exact⟨rfl,rfl⟩
   | some o =>
    simp only[r,cI,forall_eq_or_imp]at h;obtain⟨k,j⟩:=b o.es h.2;refine⟨?_,by simp only[j]⟩;split
    .split
     .rename_i M D;cases D;split
      .rename_i e A;rw[A]at h;obtain⟨z,_⟩:=G e (λi m=>h.2 i (by simp[m]));rw[z]
      .rfl
     .rfl
    .rfl
theorem C5:∀ (ids:List (Nat × Nat)) {st st2:St} {s:Nat},st2.site s=st.site s->(aI st2 ids).site s=(aI st ids).site s
 | [],_,_,_,h=>h
 | (b,g)::r,st,st2,s,h=>by
  rw[I7,I7];refine C5 r ?_;rw[Ge,Ge];split
  .grind
  .omega
theorem C6:∀ (ids:List (Nat × Nat)) {st:St} {s:Nat},s∉ids.map (·.1)->(aI st ids).site s=st.site s
 | [],_,_,_=>rfl
 | (b,g)::r,st,s,h=>by
  rw[I7,C6 r (by simp at h ⊢;exact h.2),Ge]
  grind
def pJ(st st' st2 b:St)(R W:List Nat):Prop :=
 (∀ s,s∈W->b.site s=st'.site s)/\(∀ s,s∉W->b.site s=st2.site s)/\(∀ s,s∉W->st'.site s=st.site s)/\b.sl=st2.sl/\st'.sl=st.sl/\(∀ s∈W,s∈R)
def iR{R:List Nat}:pJ st st st2 st2 R []:=⟨by simp,by simp,by simp,rfl,rfl,by simp⟩
def C0{R:List Nat}{o:bI}(h:st2.site d=st.site d)(f:d∈R):pJ st (st.alloc d o) st2 (st2.alloc d o) R [d]:=by
 refine⟨λs b=>?_,λs b=>?_,λs b=>?_,rfl,rfl,by simpa using f⟩
 .simp at b;exact Gu h (.inl b)
 .simp at b;rw[vG,bD b]
 .simp at b;rw[vG,bD b]
def VH{c:bJ}{ids:List (Nat × Nat)}(hn:c.tn=none)(j:zN c st d ids=some (v,st'))(x:∀ i∈ids,st2.site i.1=st.site i.1)(hd:st2.site d=st.site d) :
  ∃ l,zN c st2 d ids=some (v,l)/\pJ st st' st2 l (d::ids.map (·.1)) (Bz (some c) d (ids.map (·.1))):=by
 have p:∀ s∈ids.map (·.1),st2.site s=st.site s:=λs b=>by obtain⟨i,r,rfl⟩:=cA.1 b;exact x i r
 have m:(aI st2 ids).site d=(aI st ids).site d:=C5 ids hd
 have f:pJ st (aI st ids) st2 (aI st2 ids) (d::ids.map (·.1)) (ids.map (·.1)) :=
  ⟨λs b=>C5 ids (p s b),λs b=>C6 ids b,λs b=>C6 ids b,A9 ids st2,A9 ids st,λs b=>by simp only[cI];exact .inr b⟩
 obtain⟨y,n,k,A⟩:=c;subst hn;by_cases t:BC k=true
 .cases k with
  | oo=>simp[zN]at j
  | _=>cases t
 unfold zN at j ⊢;unfold Bz;dsimp only at j ⊢;generalize z:k.flat=u at j ⊢;cases u<;>cases k<;>(try exact absurd rfl t)<;>dsimp only at j ⊢ <;> simp only[cH,fQ,gP]at j ⊢
 .grind
 .split at j
  .rename_i o;obtain⟨rfl,rfl⟩:=j;refine⟨(aI st2 ids).alloc d _,by rw[aX o,m],λs b=>?_,λs b=>?_,λs b=>?_,A9 ids st2,A9 ids st,λs b=>?_⟩
   .obtain h|h:=dN.1 b
    .exact Gu m (.inr (f.1 s h))
    .simp at h;exact Gu m (.inl h)
   .simp only[dN,iT,not_or]at b;rw[vG,bD b.2];exact f.2.1 s b.1
   .simp only[dN,iT,not_or]at b;rw[vG,bD b.2];exact f.2.2.1 s b.1
   .grind
  .grind
 .grind
 .simp at j;obtain⟨rfl,rfl⟩:=j;exact⟨_,rfl,iR⟩
 .split at j
  .rename_i o;obtain⟨rfl,rfl⟩:=j;exact⟨st2.alloc d _,by rw[aX o,hd],C0 hd (by simp)⟩
  .grind
 .grind
theorem EL{n:Nat}:∀ {vs:List AV},(∀ i∈vs.flatMap (aS st n),st2.site i.1=st.site i.1)->vs.flatMap (aS st2 n)=vs.flatMap (aS st n)/\vs.mapM (bH st2 n)=vs.mapM (bH st n)
 | [],_=>⟨rfl,rfl⟩
 | x::f,h=>by
  obtain⟨j,k⟩:=QS n x (λi b=>h i (by simp;exact .inl b));obtain⟨l,m⟩:=EL (vs:=f) (λi b=>h i (by simp only[jG,dN];exact .inr b))
  grind
def VN{c:bJ}{i sz:Nat}{b:List PV}{vs:List AV}(D:AG c i sz b st vs=some (v,st'))(N:∀ i∈vs.flatMap (aS st bF),st2.site i.1=st.site i.1) :
  ∃ F,AG c i sz b st2 vs=some (v,F)/\pJ st st' st2 F (d::(vs.flatMap (aS st bF)).map (·.1)) ((vs.flatMap (aS st bF)).map (·.1)):=by
 obtain⟨s,g,M,sl,o,E,O,af,W,ad,al,ag,hv,I⟩:=Rr D;have C:∃ u,vs[i]?=some u/\aS st bF u=(s,g)::o.es.flatMap (aS st 5):=by
  obtain⟨C,_⟩|⟨C,_,_⟩:=Rb E
  .exact⟨_,C,by simp only[bF,aS,O]⟩
  .exact⟨_,C,by simp only[bF,aS,O]⟩
 obtain⟨u,C,Q⟩:=C;have A:∀ k∈(s,g)::o.es.flatMap (aS st 5),k∈vs.flatMap (aS st bF):=λk j=>kC.2 ⟨u,wM C,by rw[Q];exact j⟩;have S:=N (s,g) (A _ (by simp));have R:st2.obj s g=some o:=by rw[fB S];exact O
 have J:∀ k∈(vs.eraseIdx i).flatMap (aS st bF),k∈vs.flatMap (aS st bF):=λk j=>by obtain⟨y,hy,j⟩:=kC.1 j;exact kC.2 ⟨y,List.mem_of_mem_eraseIdx hy,j⟩
 have X:=(EL (st2:=st2) (n:=bF) (vs:=vs.eraseIdx i) (λk j=>N k (J k j))).1;have Y:=(EL (st2:=st2) (n:=5) (vs:=o.es) (λk j=>N k (A k (by simp only[cI];exact .inr j)))).1;have z:∀ k∈(vs.eraseIdx i).flatMap (aS st bF)++o.es.flatMap (aS st 5),k∈vs.flatMap (aS st bF):=λk j=>by
  obtain h|h:=dN.1 j
  .grind
  .grind
 refine⟨EO c b st2 ((vs.eraseIdx i).flatMap (aS st bF)++o.es.flatMap (aS st 5)) s g sz,?_,?_⟩
 .unfold AG at D ⊢;rw[E]at D ⊢;simp only[O,R,X,Y]at D ⊢;generalize G:(vs.eraseIdx i).flatMap (aS st bF)++o.es.flatMap (aS st 5)=f at D I ⊢;by_cases V:i<vs.length/\M=o.es.length/\b.length=M/\o.sz=sz/\b.all (λv=>v.sz == sz)=true/\(b.flatMap PV.cells).all PV.one=true/\f.contains (s,g)=false
  .rw[aX V]at D ⊢;obtain⟨u,C,rfl⟩|⟨l,hl,h1,h2,rfl⟩:=hv
   .rw[C]
   .rw[hl];simp only[h1,h2,and_self,cH]
  .rw[bD V]at D;cases D
 .generalize G:(vs.eraseIdx i).flatMap (aS st bF)++o.es.flatMap (aS st 5)=f at *
  have H:∀ t,t∉(vs.flatMap (aS st bF)).map (·.1)->t∉f.map (·.1):=λt m h=>by obtain⟨k,j,rfl⟩:=cA.1 h;exact m (cA.2 ⟨k,z k j,rfl⟩)
  have L:∀ t,t∉(vs.flatMap (aS st bF)).map (·.1)->t≠s:=λt m h=>m (cA.2 ⟨(s,g),A _ (by simp),h.symm⟩);have B:∀ t∈(vs.flatMap (aS st bF)).map (·.1),st2.site t=st.site t:=λt m=>by obtain⟨k,j,rfl⟩:=cA.1 m;exact N k j
  have r:∀ (x:St) (t:Nat) (o:bI),(x.setObj s g o).site t=if t=s then(x.site s).set g (some o)else x.site t:=λx t o=>by rw[uI]
  subst I;unfold EO;refine⟨λt m=>?_,λt m=>?_,λt m=>?_,?_,?_,λt m=>by simp only[cI];exact .inr m⟩
  .rw[r,r];have U:=B t m;by_cases p:(c.res.flat&&b.all PV.flat)=true
   .simp only[p,cH];rw[U,S]
   .simp only[p,fQ,gP];rw[C5 f S,C5 f U]
  .rw[r,bD (L t m)];by_cases p:(c.res.flat&&b.all PV.flat)=true
   .simp only[p,cH]
   .simp only[p,fQ,gP];exact C6 f (H t m)
  .rw[r,bD (L t m)];by_cases p:(c.res.flat&&b.all PV.flat)=true
   .simp only[p,cH]
   .simp only[p,fQ,gP];exact C6 f (H t m)
  .by_cases p:(c.res.flat&&b.all PV.flat)=true
   .simp only[p,cH];rfl
   .simp only[p,fQ,gP];exact A9 f st2
  .by_cases p:(c.res.flat&&b.all PV.flat)=true
   .simp only[p,cH];rfl
   .simp only[p,fQ,gP];exact A9 f st
theorem M1{f:FuncId}{vs:List AV}(he:xR orc st d f vs=some (v,st'))(z:∀ s∈vX orc st vs,st2.site s=st.site s)(hd:st2.site d=st.site d) :
  ∃ j,xR orc st2 d f vs=some (v,j)/\pJ st st' st2 j (d::vX orc st vs) (Bz orc d (vX orc st vs)):=by
 obtain⟨c,rfl,rfl,L,k⟩:=Gs he;cases C:BC c.res with
 | true =>
  obtain⟨V,B,E,J⟩:=c;cases E with
  | oo af l D b =>
   simp only[vX,Bz]at z ⊢;obtain⟨rfl,hu,hk,G,F⟩:=L;have N:qA st2 l l:=by
    have:∀ (r:List Site),(∀ q∈r,q.1∈l.map (·.1))->qA st l r->qA st2 l r:=by
     intro r
     induction r with
     | nil=>intro _ _;trivial
     | cons q r ih =>
      intro W X;exact⟨(z q.1 (W q (by simp))).trans X.1,ih (λx hx=>W x (by simp[hx])) X.2⟩
    grind
   have H:xR (some ⟨V,B,.oo vs l D b,J⟩) st2 d V vs=some (sO D ⟨st2.sl,b++st2.hp⟩ d):=aX ⟨rfl,rfl,hu,N,G,F⟩;rw[H];have m:∀ (t:St) (s:Nat),(⟨t.sl,b++t.hp⟩:St).site s=if (l.map (·.1)).contains s=true then look b s []else t.site s:=λt s=>by simp only[St.site,CS,G]
   have n:∀ s,s∈l.map (·.1)\/s=d->(⟨st2.sl,b++st2.hp⟩:St).site s=(⟨st.sl,b++st.hp⟩:St).site s:=λs hs=>by
    rw[m,m];by_cases hc:(l.map (·.1)).contains s=true
    .grind
    .grind
   have p:∀ (t:St) (s:Nat),s∉l.map (·.1)->(⟨t.sl,b++t.hp⟩:St).site s=t.site s:=λt s hs=>by
    grind
   have gen:∀ (o:bI),pJ st ((⟨st.sl,b++st.hp⟩:St).alloc d o) st2 ((⟨st2.sl,b++st2.hp⟩:St).alloc d o) (d::l.map (·.1)) (d::l.map (·.1)):=λo=>by
    refine⟨λs hs=>?_,λs hs=>?_,λs hs=>?_,rfl,rfl,λs hs=>hs⟩
    .rw[vG,vG,n s (by obtain h|h:=cI.1 hs;exact .inr h;exact .inl h),n d (.inr rfl)]
    .simp only[cI,not_or]at hs;rw[vG,bD hs.1];exact p _ s hs.2
    .simp only[cI,not_or]at hs;rw[vG,bD hs.1];exact p _ s hs.2
   have A:((⟨st2.sl,b++st2.hp⟩:St).site d).length=((⟨st.sl,b++st.hp⟩:St).site d).length:=by rw[n d (.inr rfl)]
   simp only[cD]at k ⊢;cases D with
   | av u =>
    simp only[sO,c5]at k ⊢;obtain⟨rfl,rfl⟩:=k;refine⟨_,⟨rfl,rfl⟩,λs hs=>?_,λs hs=>?_,λs hs=>?_,rfl,rfl,λs hs=>hs⟩
    .exact n s (by obtain h|h:=cI.1 hs;exact .inr h;exact .inl h)
    .simp only[cI,not_or]at hs;exact p _ s hs.2
    .simp only[cI,not_or]at hs;exact p _ s hs.2
   | fr sz es =>
    simp only[sO,c5]at k ⊢;obtain⟨rfl,rfl⟩:=k;exact⟨_,⟨by rw[A],rfl⟩,gen _⟩
   | bx sz e us =>
    simp only[sO,c5]at k ⊢;obtain⟨rfl,rfl⟩:=k;exact⟨_,⟨by rw[A],rfl⟩,gen _⟩
  | _=>cases C
 | false =>
 have O:∀ t,vX (some c) t vs=(vs.flatMap (aS t bF)).map (·.1):=λt=>by simp only[vX];cases Y:c.res<;>first|rfl|(rw[Y]at C;cases C)
 rw[O]at z ⊢;have z:∀ i∈vs.flatMap (aS st bF),st2.site i.1=st.site i.1:=λi h=>z i.1 (cA.2 ⟨i,h,rfl⟩);rw[z51 C]at L;rw[Nj C]at k;obtain⟨R,Q⟩:=EL z;unfold xR;simp only[z51 C,Nj C,Q,R,L,and_self,cH];cases y:c.tn with
 | none =>
  rw[y]at k;exact VH y k z hd
 | some t =>
  obtain⟨i,sz,ad⟩:=t;rw[y]at k;obtain⟨j,e1,e2⟩:=VN (d:=d) k z;refine⟨j,e1,?_⟩;have M:Bz (some c) d ((vs.flatMap (aS st bF)).map (·.1))=d::(vs.flatMap (aS st bF)).map (·.1):=by simp only[Bz,y];cases Y:c.res<;>rfl
  rw[M];obtain⟨a1,S,U,a4,a5,a6⟩:=e2;refine⟨λs hs=>?_,λs hs=>S s (λh=>hs (cI.2 (.inr h))),λs hs=>U s (λh=>hs (cI.2 (.inr h))),a4,a5,λs hs=>hs⟩;by_cases I:s∈(vs.flatMap (aS st bF)).map (·.1)
  .exact a1 s I
  .obtain rfl|hs:=cI.1 hs
   .rw[S s I,U s I,hd]
   .exact absurd hs I
theorem LW{I:c7}(b:bY orc st d I=some (v,st'))(hs:∀ x∈I.bZ,st2.ev x=st.ev x)(r:∀ s∈ek orc st d I,st2.site s=st.site s) :
  ∃ M,bY orc st2 d I=some (v,M)/\pJ st st' st2 M (ek orc st d I) (gV orc st d I):=by
 cases I with
 | mv x =>
  obtain⟨rfl,rfl⟩:=b;exact⟨st2,by simp only[bY,hs x (by simp[c7.bZ])],iR⟩
 | pick c x y =>
  simp only[bY]at b ⊢;rw[hs c (by simp[c7.bZ]),hs x (by simp[c7.bZ]),hs y (by simp[c7.bZ])];split at b<;>first|(cases b;done)|(simp only[cD,c5]at b;obtain⟨rfl,rfl⟩:=b;exact⟨st2,by simp only[*],iR⟩)
 | alloc F z =>
  have D:st2.site d=st.site d:=r d (by simp[ek]);simp only[bY]at b ⊢;split at b
  .rename_i J;cases b;rw[D,aX J];exact⟨_,rfl,C0 D (by simp[ek])⟩
  .cases b
 | box F x =>
  have D:st2.site d=st.site d:=r d (by simp[ek]);simp only[bY]at b ⊢;rw[hs x (by simp[c7.bZ])];split at b
  .rename_i J;cases b;rw[D,aX J];exact⟨_,rfl,C0 D (by simp[ek])⟩
  .cases b
 | build z W =>
  have E:W.map (λ(o,s,x)=>(o,s,st2.ev x))=W.map (λ(o,s,x)=>(o,s,st.ev x)):=uK λq H=>by obtain⟨o,s,x⟩:=q;simp only[hs x (cA.2 ⟨(o,s,x),H,rfl⟩)]
  simp only[bY]at b ⊢;rw[E];split at b<;>first|(cases b;done)|(simp only[cD,c5]at b;obtain⟨rfl,rfl⟩:=b;exact⟨st2,by simp only[*],iR⟩)
 | b4 F z n W =>
  have D:st2.site d=st.site d:=r d (by simp[ek]);have E:W.map (λ(i,x)=>(i,(st2.ev x).ey))=W.map (λ(i,x)=>(i,(st.ev x).ey)):=uK λq H=>by obtain⟨i,x⟩:=q;simp only[hs x (cA.2 ⟨(i,x),H,rfl⟩)]
  simp only[bY]at b ⊢;rw[E,D];split at b
  .rename_i J;split at b
   .rename_i es ad;cases b;exact⟨_,by rw[aX J,ad],C0 D (by simp[ek])⟩
   .cases b
  .cases b
 | load F ag x =>
  have C:=hs x (by simp[c7.bZ]);simp only[ek]at r ⊢;simp only[bY,gV]at b ⊢;rw[C];split at b
  .rename_i s g S B j;rw[j]at r;rw[fB (g:=g) (r s (by simp[jC]))]
   (repeat' split at b)<;>first|(cases b;done)|(simp only[cD,c5]at b;obtain⟨rfl,rfl⟩:=b;exact⟨st2,by simp only[*,cH,fQ,and_self],iR⟩)
  ·(repeat' split at b)<;>first|(cases b;done)|(simp only[cD,c5]at b;obtain⟨rfl,rfl⟩:=b;exact⟨st2,by simp only[*,cH,fQ,and_self],iR⟩)
  .cases b
 | store F p x =>
  have E:=hs p (by simp[c7.bZ]);have C:=hs x (by simp[c7.bZ]);simp only[ek]at r ⊢;simp only[bY,gV]at b ⊢;rw[C,E];split at b
  .rename_i s g S B j;rw[j]at r;have u:=r s (by simp[jC]);rw[j];rw[fB (g:=g) u];have L:∀ o,pJ st (st.setObj s g o) st2 (st2.setObj s g o) (jC (.ptr s g S B)) (jC (.ptr s g S B)):=by
    intro o;refine⟨λt A=>?_,λt A=>?_,λt A=>?_,rfl,rfl,λ_ h=>h⟩
    .simp[jC]at A;subst A;rw[uI,uI,u]
    .simp[jC]at A;rw[uI,bD A]
    .simp[jC]at A;rw[uI,bD A]
   split at b
   .rename_i o ho;split at b
    .rename_i e ap;split at b
     .rename_i U;split at b
      .rename_i X;simp only[cD,c5]at b;obtain⟨rfl,rfl⟩:=b;exact⟨_,by simp only[aX U,aX X],L _⟩
      .rename_i X;split at b
       .rename_i e' ao;simp only[cD,c5]at b;obtain⟨rfl,rfl⟩:=b;exact⟨_,by simp only[aX U,bD X],L _⟩
       .cases b
     .cases b
    .cases b
   .cases b
  .cases b
 | bV x =>
  have C:=hs x (by simp[c7.bZ]);simp only[ek]at r ⊢;simp only[bY,gV]at b ⊢;rw[C];split at b
  .rename_i s g S B j;rw[j]at r;rw[fB (g:=g) (r s (by simp[jC]))]
   (repeat' split at b)<;>first|(cases b;done)|(simp only[cD,c5]at b;obtain⟨rfl,rfl⟩:=b;exact⟨st2,by simp only[*],iR⟩)
  all_goals first|(cases b;done)|(simp only[cD,c5]at b;obtain⟨rfl,rfl⟩:=b;exact⟨st2,by simp only[*],iR⟩)
 | dI I x y =>
  simp only[bY]at b ⊢;rw[hs x (by simp[c7.bZ]),hs y (by simp[c7.bZ])];split at b<;>first|(cases b;done)|(simp only[cD,c5]at b;obtain⟨rfl,rfl⟩:=b;exact⟨st2,by simp only[*],iR⟩)
 | gJ I x y =>
  simp only[bY]at b ⊢;rw[hs x (by simp[c7.bZ]),hs y (by simp[c7.bZ])];split at b<;>first|(cases b;done)|(simp only[cD,c5]at b;obtain⟨rfl,rfl⟩:=b;exact⟨st2,by simp only[*],iR⟩)
 | j' ks I x y =>
  simp only[bY]at b ⊢;rw[hs x (by simp[c7.bZ]),hs y (by simp[c7.bZ])];split at b<;>first|(cases b;done)|(simp only[cD,c5]at b;obtain⟨rfl,rfl⟩:=b;exact⟨st2,by simp only[*],iR⟩)
 | not x =>
  simp only[bY]at b ⊢;rw[hs x (by simp[c7.bZ])];split at b<;>first|(cases b;done)|(simp only[cD,c5]at b;obtain⟨rfl,rfl⟩:=b;exact⟨st2,by simp only[*],iR⟩)
 | neg x =>
  simp only[bY]at b ⊢;rw[hs x (by simp[c7.bZ])];split at b<;>first|(cases b;done)|(simp only[cD,c5]at b;obtain⟨rfl,rfl⟩:=b;exact⟨st2,by simp only[*],iR⟩)
 | tA x =>
  simp only[bY]at b ⊢;rw[hs x (by simp[c7.bZ])]
  (repeat' split at b)<;>first|(cases b;done)|(simp only[cD,c5]at b;obtain⟨rfl,rfl⟩:=b;exact⟨st2,by simp only[*],iR⟩)
 | conv k x =>
  simp only[bY]at b ⊢;rw[hs x (by simp[c7.bZ])];split at b<;>first|(cases b;done)|(simp only[cD,c5]at b;obtain⟨rfl,rfl⟩:=b;exact⟨st2,by simp only[*],iR⟩)
 | gT f G =>
  have E:G.map st2.ev=G.map st.ev:=uK λq H=>hs q H;simp only[bY]at b ⊢;rw[E];split at b<;>first|(cases b;done)|(simp only[cD,c5]at b;obtain⟨rfl,rfl⟩:=b;exact⟨st2,by simp only[*,cH],iR⟩)
 | cM F z l c =>
  have D:st2.site d=st.site d:=r d (by simp[ek]);simp only[bY]at b ⊢;rw[hs l (by simp[c7.bZ]),hs c (by simp[c7.bZ]),D];split at b
  .rename_i n m hn hm;split at b
   .rename_i J;cases b;exact⟨_,by simp only[aX J],C0 D (by simp[ek])⟩
   .cases b
  .cases b
 | slice F x lo hi =>
  have C:=hs x (by simp[c7.bZ]);have al:∀ n,sP st2 lo n=sP st lo n:=by
   intro n;cases lo with
   | none=>rfl
   | some l=>simp only[sP];rw[hs l (by simp[c7.bZ,iJ])]
  have Q:∀ n,sP st2 hi n=sP st hi n:=by
   intro n;cases hi with
   | none=>rfl
   | some l=>simp only[sP];rw[hs l (by simp[c7.bZ,iJ])]
  simp only[ek]at r ⊢;simp only[bY,gV]at b ⊢;rw[C,al];split at b
  .simp only[Q]
   (repeat' split at b)<;>first|(cases b;done)|(simp only[cD,c5]at b;obtain⟨rfl,rfl⟩:=b;exact⟨st2,by simp only[*,cH,and_self],iR⟩)
  .rename_i l s g B len hl j;rw[j]at r;simp only[Q];rw[fB (g:=g) (r s (by simp[jC]))]
   (repeat' split at b)<;>first|(cases b;done)|(simp only[cD,c5]at b;obtain⟨rfl,rfl⟩:=b;exact⟨st2,by simp only[*,cH,and_self],iR⟩)
  .simp only[Q]
   (repeat' split at b)<;>first|(cases b;done)|(simp only[cD,c5]at b;obtain⟨rfl,rfl⟩:=b;exact⟨st2,by simp only[*,cH,and_self],iR⟩)
  .cases b
 | iP B x =>
  have C:=hs x (by simp[c7.bZ]);simp only[ek]at r ⊢;simp only[bY,gV]at b ⊢;rw[C];split at b
  .rename_i s g S B j;rw[j]at r;rw[fB (g:=g) (r s (by simp[jC]))]
   (repeat' split at b)<;>first|(cases b;done)|(simp only[cD,c5]at b;obtain⟨rfl,rfl⟩:=b;exact⟨st2,by simp only[*],iR⟩)
  all_goals first|(cases b;done)|(simp only[cD,c5]at b;obtain⟨rfl,rfl⟩:=b;exact⟨st2,by simp only[*],iR⟩)
 | field B F ag x =>
  simp only[bY]at b ⊢;rw[hs x (by simp[c7.bZ])]
  (repeat' split at b)<;>first|(cases b;done)|(simp only[cD,c5]at b;obtain⟨rfl,rfl⟩:=b;exact⟨st2,by simp only[*],iR⟩)
 | cG F x i =>
  have C:=hs x (by simp[c7.bZ]);simp only[ek]at r ⊢;simp only[bY,gV]at b ⊢;rw[C,hs i (by simp[c7.bZ])];split at b
  ·(repeat' split at b)<;>first|(cases b;done)|(simp only[cD,c5]at b;obtain⟨rfl,rfl⟩:=b;exact⟨st2,by simp only[*,cH,and_self],iR⟩)
  .rename_i m s g B len hm j;rw[j]at r;rw[fB (g:=g) (r s (by simp[jC]))]
   (repeat' split at b)<;>first|(cases b;done)|(simp only[cD,c5]at b;obtain⟨rfl,rfl⟩:=b;exact⟨st2,by simp only[*,cH,and_self],iR⟩)
  .cases b
 | cB m F x i =>
  have C:=hs x (by simp[c7.bZ]);simp only[ek]at r ⊢;simp only[bY,gV]at b ⊢;rw[C,hs i (by simp[c7.bZ])];split at b
  .rename_i n s g S o hm j;rw[j]at r;rw[fB (g:=g) (r s (by simp[jC]))]
   (repeat' split at b)<;>first|(cases b;done)|(simp only[cD,c5]at b;obtain⟨rfl,rfl⟩:=b;exact⟨st2,by simp only[*,cH],iR⟩)
  ·(repeat' split at b)<;>first|(cases b;done)|(simp only[cD,c5]at b;obtain⟨rfl,rfl⟩:=b;exact⟨st2,by simp only[*,cH],iR⟩)
  .cases b
 | idx m F ag x i =>
  simp only[bY]at b ⊢;rw[hs x (by simp[c7.bZ]),hs i (by simp[c7.bZ])]
  (repeat' split at b)<;>first|(cases b;done)|(simp only[cD,c5]at b;obtain⟨rfl,rfl⟩:=b;exact⟨st2,by simp only[*,cH],iR⟩)
 | extract x i =>
  simp only[bY]at b ⊢;rw[hs x (by simp[c7.bZ])]
  (repeat' split at b)<;>first|(cases b;done)|(simp only[cD,c5]at b;obtain⟨rfl,rfl⟩:=b;exact⟨st2,by simp only[*],iR⟩)
 | len x =>
  simp only[bY]at b ⊢;rw[hs x (by simp[c7.bZ])];split at b<;>first|(cases b;done)|(simp only[cD,c5]at b;obtain⟨rfl,rfl⟩:=b;exact⟨st2,by simp only[*],iR⟩)
 | append F x y =>
  have C:=hs x (by simp[c7.bZ]);have hy:=hs y (by simp[c7.bZ]);have D:st2.site d=st.site d:=r d (by simp[ek]);have Y:st2.elems (st.ev y)=st.elems (st.ev y):=by
   unfold St.elems;split
   .rfl
   .rfl
   .rfl
   .rfl
   .rename_i s g B len j;rw[fB (g:=g) (r s (by simp[ek,j,jC]))]
   .rfl
  simp only[bY]at b ⊢;simp only[ek,gV]at r ⊢;rw[C,hy,Y];split at b
  .rename_i N aq;split at b
   .rename_i V;split at b
    .rename_i j;split at b
     .rename_i O;cases b;exact⟨st2.alloc d ⟨F,N.map AV.ey⟩,by simp only[aX V,aX O,D],by rw[j];exact C0 D (by simp)⟩
     .cases b
    .rename_i s g B len j;have u:=r s (by simp[j,jC]);split at b
     .rename_i o ho;split at b
      .rename_i O;cases b;have R:(aI st2 [(s,g)]).site d=(aI st [(s,g)]).site d:=C5 _ D;have af:(aI st2 [(s,g)]).site s=(aI st [(s,g)]).site s:=C5 _ u;refine⟨(aI st2 [(s,g)]).alloc d ⟨F,o.es++N.map AV.ey⟩,by simp only[aX V,fB (g:=g) u,ho,aX O,R],λt A=>?_,λt A=>?_,λt A=>?_,rfl,rfl,λt A=>?_⟩
       .simp only[j,jC,cI,List.mem_nil_iff,or_false]at A;obtain rfl|rfl:=A
        .exact Gu R (.inl rfl)
        .exact Gu R (.inr af)
       .simp only[j,jC,List.mem_cons,List.mem_nil_iff,or_false,not_or]at A;rw[vG,if_neg A.1];exact C6 _ (by simpa using A.2)
       .simp only[j,jC,List.mem_cons,List.mem_nil_iff,or_false,not_or]at A;rw[vG,if_neg A.1];exact C6 _ (by simpa using A.2)
       .simp only[cI,dN]at A ⊢;obtain h|h:=A
        .exact .inl h
        .exact .inr (.inl h)
      .cases b
     .cases b
    .cases b
   .cases b
  .cases b
 | min N =>
  have E:N.map st2.ev=N.map st.ev:=uK λq H=>hs q H;simp only[bY]at b ⊢;rw[E];split at b<;>first|(cases b;done)|(simp only[cD,c5]at b;obtain⟨rfl,rfl⟩:=b;exact⟨st2,by simp only[*],iR⟩)
 | max N =>
  have E:N.map st2.ev=N.map st.ev:=uK λq H=>hs q H;simp only[bY]at b ⊢;rw[E];split at b<;>first|(cases b;done)|(simp only[cD,c5]at b;obtain⟨rfl,rfl⟩:=b;exact⟨st2,by simp only[*],iR⟩)
 | call f args =>
  have E:args.map st2.ev=args.map st.ev:=uK λq H=>hs q H;simp only[bY,ek,gV,xQ]at b r ⊢;rw[E];exact M1 b (λs hs=>r s (cI.2 (.inr hs))) (r d (by simp))
 | iv f args =>
  have hf:=hs f (by simp[c7.bZ]);have E:args.map st2.ev=args.map st.ev:=uK λq H=>hs q (by simp[c7.bZ,H]);simp only[bY,ek,gV,xQ]at b r ⊢;rw[E,hf];split at b
  .rename_i g G j;simp only[j]at r ⊢;exact M1 b (λs hs=>r s (cI.2 (.inr hs))) (r d (by simp))
  .rename_i g G j;simp only[j]at r ⊢;exact M1 b (λs hs=>r s (cI.2 (.inr hs))) (r d (by simp))
  .cases b
 | ic neg x =>
  have C:=hs x (by simp[c7.bZ]);simp only[ek]at r ⊢;simp only[bY,gV]at b ⊢;rw[C];split at b
  case h_5 =>
   rename_i s g B len j;rw[j]at r;rw[fB (g:=g) (r s (by simp[jC]))]
   (repeat' split at b)<;>first|(cases b;done)|(simp only[cD,c5]at b;obtain⟨rfl,rfl⟩:=b;exact⟨st2,by simp only[*,cH],iR⟩)
  all_goals first|(cases b;done)|(simp only[cD,c5]at b;obtain⟨rfl,rfl⟩:=b;exact⟨st2,by simp only[*],iR⟩)
 | cap x =>
  simp only[bY]at b ⊢;rw[hs x (by simp[c7.bZ])];split at b<;>first|(cases b;done)|(simp only[cD,c5]at b;obtain⟨rfl,rfl⟩:=b;exact⟨st2,by simp only[*],iR⟩)
 | clear F zero x =>
  have C:=hs x (by simp[c7.bZ]);simp only[ek]at r ⊢;simp only[bY,gV]at b ⊢;rw[C];split at b
  .rename_i j;simp only[cD,c5]at b;obtain⟨rfl,rfl⟩:=b;exact⟨st2,rfl,by rw[j];exact iR⟩
  .rename_i s g B len j;rw[j]at r;have u:=r s (by simp[jC]);rw[j];rw[fB (g:=g) u];split at b
   .rename_i o ho;split at b
    .rename_i U;simp only[cD,c5]at b;obtain⟨rfl,rfl⟩:=b;refine⟨st2.setObj s g ⟨o.sz,o.es.take B++List.replicate len zero.ey++o.es.drop (B+len)⟩,by simp only[aX U],λt A=>?_,λt A=>?_,λt A=>?_,rfl,rfl,λ_ h=>h⟩
     .simp[jC]at A;subst A;rw[uI,uI,u]
     .simp[jC]at A;rw[uI,bD A]
     .simp[jC]at A;rw[uI,bD A]
    .cases b
   .cases b
  .cases b
 | fE F z a x =>
  have D:st2.site d=st.site d:=r d (by simp[ek]);simp only[bY]at b ⊢;rw[hs a (by simp[c7.bZ]),hs x (by simp[c7.bZ]),D];split at b
  .rename_i n U X;split at b
   .rename_i J;cases b;exact⟨_,by simp only[aX J],C0 D (by simp[ek])⟩
   .cases b
  .cases b
 | qK x i =>
  simp only[bY]at b ⊢;rw[hs x (by simp[c7.bZ]),hs i (by simp[c7.bZ])]
  (repeat' split at b)<;>first|(cases b;done)|(simp only[cD,c5]at b;obtain⟨rfl,rfl⟩:=b;exact⟨st2,by simp only[*],iR⟩)
 | mr qs z x k =>
  simp only[bY]at b ⊢;rw[hs x (by simp[c7.bZ]),hs k (by simp[c7.bZ])]
  (repeat' split at b)<;>first|(cases b;done)|(simp only[cD,c5]at b;obtain⟨rfl,rfl⟩:=b;exact⟨st2,by simp only[*,cH,and_self],iR⟩)
 | jY qs z x k =>
  simp only[bY]at b ⊢;rw[hs x (by simp[c7.bZ]),hs k (by simp[c7.bZ])]
  (repeat' split at b)<;>first|(cases b;done)|(simp only[cD,c5]at b;obtain⟨rfl,rfl⟩:=b;exact⟨st2,by simp only[*,cH,and_self],iR⟩)
 | raw I=>simp only[bY]at b;cases b
 | bad=>simp only[bY]at b;cases b
end
noncomputable def tM(orc:Option bJ)(st:St)(i:Ins):Option St :=
 match bY orc st (i.dst.getD 0) i.op with
 | some (v,s)=>some (s.put i.dst v)
 | none=>none
noncomputable def exec(orc:Option bJ)(st:St)(i:Ins):Option St :=
 match i.guard with
 | none=>tM orc st i
 | some (t,b)=>match st.get t with
  | .p (.bool c)=>if c=b then tM orc st i else some (st.put i.dst .skip)
  | .skip=>some (st.put i.dst .skip)
  | _=>none
def runs(st:St)(i:Ins):Bool :=
 match i.guard with
 | none=>true
 | some (t,b)=>match st.get t with
  | .p (.bool c)=>c == b
  | _=>false
structure FP where
 ds:List Nat
 rs:List Nat
 rt:List Nat
 wt:List Nat
def fp(orc:Option bJ)(st:St)(i:Ins):FP :=
 {ds:=i.dst.toList,rs:=(i.guard.map (·.1)).toList++i.op.bZ.flatMap bP.aY,
  rt:=if runs st i then ek orc st (i.dst.getD 0) i.op else[],wt:=if runs st i then gV orc st (i.dst.getD 0) i.op else[] }
structure FP.Sub (f g:FP):Prop where
 ds:∀ t∈f.ds,t∈g.ds
 rs:∀ t∈f.rs,t∈g.rs
 rt:∀ t∈f.rt,t∈g.rt
 wt:∀ t∈f.wt,t∈g.wt
def FP.Sub.refl(f:FP):FP.Sub f f:=⟨λ_ h=>h,λ_ h=>h,λ_ h=>h,λ_ h=>h⟩
def uX(a b:List Nat):Bool:=a.all λx=>!b.contains x
def yb(f g:FP):Bool:=uX f.ds g.rs&&uX f.ds g.ds&&uX g.ds f.rs&&uX f.wt g.rt&&uX g.wt f.rt
structure iw (s t:St):Prop where
 get:∀ n,t.get n=s.get n
 site:∀ n,t.site n=s.site n
section
variable {orc:Option bJ} {st st' st2:St} {d:Nat} {v:AV}
def iw.refl(s:St):iw s s:=⟨λ_=>rfl,λ_=>rfl⟩
def iw.symm{s t:St}(h:iw s t):iw t s:=⟨λn=>(h.get n).symm,λn=>(h.site n).symm⟩
def iw.trans{s t u:St}(h:iw s t)(k:iw t u):iw s u:=⟨λn=>(k.get n).trans (h.get n),λn=>(k.site n).trans (h.site n)⟩
theorem xM(st:St)(d:Option Nat)(v:AV)(t:Nat):(st.put d v).get t=if d=some t then v else st.get t:=by
 cases d with
 | none=>simp[St.put]
 | some d =>
  simp[St.put,St.get,look]
def pT(st:St)(d:Option Nat)(v:AV)(s:Nat):(st.put d v).site s=st.site s:=by cases d<;>rfl
def AB{s t:St}(h:s.sl=t.sl)(n:Nat):s.get n=t.get n:=by simp[St.get,h]
theorem Vk{b:c7}(hs:∀ x∈b.bZ,st2.ev x=st.ev x)(h:∀ s∈vX orc st (xQ st b),st2.site s=st.site s):vX orc st2 (xQ st2 b)=vX orc st (xQ st b):=by
 have m:xQ st2 b=xQ st b:=by
  cases b<;>simp only[xQ]
  case call f args=>exact uK λq k=>hs q k
  case iv f args =>
   have p:args.map st2.ev=args.map st.ev:=uK λq k=>hs q (by simp[c7.bZ,k]);rw[p,hs f (by simp[c7.bZ])]
 rw[m];generalize xQ st b=l at h;unfold vX at h ⊢;cases orc with
 | none=>rw[(EL (st2:=st2) (n:=bF) (vs:=l) λi j=>h i.1 (cA.2 ⟨i,j,rfl⟩)).1]
 | some c =>
  simp only at h ⊢;cases o:c.res<;>rw[o]at h<;>simp only at h ⊢ <;> first|rfl|rw[(EL (st2:=st2) (n:=bF) (vs:=l) λi j=>h i.1 (cA.2 ⟨i,j,rfl⟩)).1]
def Qt{b:c7}(hs:∀ x∈b.bZ,st2.ev x=st.ev x)(f:∀ s∈ek orc st d b,st2.site s=st.site s):ek orc st2 d b=ek orc st d b/\gV orc st2 d b=gV orc st d b:=by
 cases b<;>simp only[ek,gV]at f ⊢ <;> first
  | exact⟨trivial,trivial⟩
  | (rename_i x;rw[hs x (by simp[c7.bZ])];first|exact⟨rfl,rfl⟩|exact⟨rfl,trivial⟩|exact⟨trivial,trivial⟩)
  | (rename_i x y;rw[hs x (by simp[c7.bZ]),hs y (by simp[c7.bZ])];first|exact⟨rfl,rfl⟩|exact⟨rfl,trivial⟩|exact⟨trivial,trivial⟩)
  | (rename_i x y z;rw[hs y (by simp[c7.bZ])];first|exact⟨rfl,rfl⟩|exact⟨rfl,trivial⟩|exact⟨trivial,trivial⟩)
  | (rename_i x y z t;rw[hs y (by simp[c7.bZ])];first|exact⟨rfl,rfl⟩|exact⟨rfl,trivial⟩|exact⟨trivial,trivial⟩)
  | (rw[Vk hs (λs h=>f s (cI.2 (.inr h)))];exact⟨rfl,rfl⟩)
theorem IW{i:Ins}(o:exec orc st i=some st')(hs:∀ t∈(fp orc st i).rs,st2.get t=st.get t)(F:∀ s∈(fp orc st i).rt,st2.site s=st.site s) :
  ∃ f,exec orc st2 i=some f/\fp orc st2 i=fp orc st i/\(∀ t∈(fp orc st i).ds,f.get t=st'.get t)/\(∀ t,t∉(fp orc st i).ds->f.get t=st2.get t/\st'.get t=st.get t) /\
   (∀ s∈(fp orc st i).wt,f.site s=st'.site s)/\(∀ s,s∉(fp orc st i).wt->f.site s=st2.site s/\st'.site s=st.site s)/\(∀ s∈(fp orc st i).wt,s∈(fp orc st i).rt):=by
 have r:∀ x∈i.op.bZ,st2.ev x=st.ev x:=by
  intro x V;cases x with
  | c v=>rfl
  | t n=>exact hs n (by simp only[fp,dN];exact .inr (kC.2 ⟨.t n,V,by simp[bP.aY]⟩))
 have U:∀ t b,i.guard=some (t,b)->st2.get t=st.get t:=λt b h=>hs t (by simp[fp,h]);have A:runs st2 i=runs st i:=by
  unfold runs
  grind
 have p:fp orc st2 i=fp orc st i:=by
  unfold fp at F ⊢;rw[A];cases j:runs st i with
  | false=>rfl
  | true =>
   simp only[j,cH]at F ⊢;obtain⟨B,C⟩:=Qt (orc:=orc) (d:=i.dst.getD 0) r F
   grind
 have u:∀ {G m s D:St} {v:AV} {R W:List Nat},pJ G s m D R W->(∀ t∈i.dst.toList,(D.put i.dst v).get t=(s.put i.dst v).get t)/\(∀ t,t∉i.dst.toList->(D.put i.dst v).get t=m.get t/\(s.put i.dst v).get t=G.get t) /\
   (∀ t∈W,(D.put i.dst v).site t=(s.put i.dst v).site t)/\(∀ t,t∉W->(D.put i.dst v).site t=m.site t/\(s.put i.dst v).site t=G.site t)/\(∀ t∈W,t∈R):=by
  intro G m s D v R W h;obtain⟨L,M,N,O,Q,S⟩:=h;refine⟨λt l=>?_,λt l=>?_,λt l=>?_,λt l=>?_,S⟩
  .rw[xM,xM];cases J:i.dst with
   | none=>simp[J]at l
   | some d=>simp[J]at l;subst l;simp
  .rw[xM,xM];have:i.dst≠some t:=by intro h;simp[h]at l
   rw[bD this,bD this];exact⟨AB O t,AB Q t⟩
  .rw[pT,pT];exact L t l
  .rw[pT,pT];exact⟨M t l,N t l⟩
 have y:runs st i=true->tM orc st i=some st'->∃ f,tM orc st2 i=some f/\(∀ t∈(fp orc st i).ds,f.get t=st'.get t)/\(∀ t,t∉(fp orc st i).ds->f.get t=st2.get t/\st'.get t=st.get t) /\
   (∀ s∈(fp orc st i).wt,f.site s=st'.site s)/\(∀ s,s∉(fp orc st i).wt->f.site s=st2.site s/\st'.site s=st.site s)/\(∀ s∈(fp orc st i).wt,s∈(fp orc st i).rt):=by
  intro j h;unfold tM at h ⊢;split at h
  .rename_i v s H;cases h;have I:∀ s∈ek orc st (i.dst.getD 0) i.op,st2.site s=st.site s:=λs hs=>F s (by simp[fp,j,hs]);obtain⟨m,B,C⟩:=LW H r I;refine⟨m.put i.dst v,by rw[B],?_⟩;simp only[fp,j,cH];exact u C
  .cases h
 have z:runs st i=false->st'=st.put i.dst .skip->(∀ t∈(fp orc st i).ds,(st2.put i.dst .skip).get t=st'.get t)/\(∀ t,t∉(fp orc st i).ds->(st2.put i.dst .skip).get t=st2.get t/\st'.get t=st.get t) /\
   (∀ s∈(fp orc st i).wt,(st2.put i.dst .skip).site s=st'.site s)/\(∀ s,s∉(fp orc st i).wt->(st2.put i.dst .skip).site s=st2.site s/\st'.site s=st.site s)/\(∀ s∈(fp orc st i).wt,s∈(fp orc st i).rt):=by
  intro j h;subst h;simp only[fp,j,fQ,gP];exact u (iR (R:=[]))
 unfold exec at o ⊢;split at o
 .rename_i h;obtain⟨m,B,C⟩:=y (by simp[runs,h]) o;exact⟨m,B,p,C⟩
 .rename_i t b h;simp only[U t b h];split at o
  .rename_i c E;split at o
   .rename_i k;obtain⟨m,B,C⟩:=y (by simp[runs,h,E,k]) o;exact⟨m,by rw[aX k];exact B,p,C⟩
   .rename_i k;cases o;exact⟨_,by rw[bD k],p,z (by simp[runs,h,E,k]) rfl⟩
  .rename_i E;cases o;exact⟨_,rfl,p,z (by simp[runs,h,E]) rfl⟩
  .cases o
def TF{i:Ins}(n:exec orc st i=some st')(h:iw st st2):∃ b,exec orc st2 i=some b/\fp orc st2 i=fp orc st i/\iw st' b:=by
 obtain⟨o,l,m,p,j,r,k,_⟩:=IW n (λt _=>h.get t) (λs _=>h.site s);refine⟨o,l,m,λt=>?_,λs=>?_⟩
 .by_cases f:t∈(fp orc st i).ds
  .grind
  .rw[(j t f).1,(j t f).2];exact h.get t
 .by_cases f:s∈(fp orc st i).wt
  .grind
  .rw[(k s f).1,(k s f).2];exact h.site s
abbrev Item:=(Option bJ × Ins) × FP
inductive fX:List Item->St->St->Prop
 | nil (st:St):fX [] st st
 | cons (x:Item) (xs:List Item) (st s1 st':St):exec x.1.1 st x.1.2=some s1->(fp x.1.1 st x.1.2).Sub x.2->fX xs s1 st'->fX (x::xs) st st'
theorem fX.eqv:∀ {xs:List Item} {st st' st2:St},fX xs st st'->iw st st2->∃ b,fX xs st2 b/\iw st' b
 | _,_,_,st2,.nil st,h=>⟨st2,.nil st2,h⟩
 | _,_,_,st2,.cons x xs st s1 st' m n h3,h=>by obtain⟨o,f,i,j⟩:=TF m h;obtain⟨b,k,l⟩:=fX.eqv h3 j;exact⟨b,.cons x xs st2 o b f (i ▸ n) k,l⟩
def Em{a b:List Nat}(h:uX a b=true){x:Nat}(f:x∈a):x∉b:=by
 have:=k8.1 h x f
 grind
theorem fX.swap{x y:Item}{xs:List Item}{st st':St}(h:fX (x::y::xs) st st')(hi:yb x.2 y.2=true):∃ b,fX (y::x::xs) st b/\iw st' b:=by
 cases h with
 | cons _ _ _ s1 _ o i h3 =>
  cases h3 with
  | cons _ _ _ O _ M k N =>
   simp only[yb,jO]at hi;obtain⟨⟨⟨⟨i1,J⟩,L⟩,p⟩,i5⟩:=hi;have j:=IW (st2:=st) o (λ_ _=>rfl) (λ_ _=>rfl);obtain⟨_,_,_,_,Q,_,R,X⟩:=j
   obtain⟨n,a1,u,S,z,U,A,B⟩:=IW (st2:=st) M
    (λt m=>((Q t (λf=>Em i1 (i.ds _ f) (k.rs _ m))).2).symm)
    (λs hs=>((R s (λf=>Em p (i.wt _ f) (k.rt _ hs))).2).symm)
   obtain⟨r,C,D,E,V,F,W,_⟩:=IW (st2:=n) o
    (λt m=>(z t (λf=>Em L (k.ds _ f) (i.rs _ m))).1)
    (λs hs=>(A s (λf=>Em i5 (k.wt _ f) (i.rt _ hs))).1)
   have l:iw O r:=by
    refine⟨λt=>?_,λs=>?_⟩
    .by_cases j:t∈(fp x.1.1 st x.1.2).ds
     .rw[E t j];have I:t∉(fp y.1.1 s1 y.1.2).ds:=λf=>Em J (i.ds _ j) (k.ds _ f)
      grind
     .grind
    .by_cases j:s∈(fp x.1.1 st x.1.2).wt
     .rw[F s j];have I:s∉(fp y.1.1 s1 y.1.2).wt:=λf=>Em p (i.wt _ j) (k.rt _ (B s f))
      grind
     .grind
   obtain⟨b,G,H⟩:=fX.eqv N l;exact⟨b,.cons y _ st n b a1 (u ▸ k) (.cons x _ n r b C (D ▸ i) G),H⟩
theorem fX.front{x:Item}{xs:List Item}:∀ {f:List Item} {st st':St},fX (f++x::xs) st st'->(∀ y∈f,yb y.2 x.2=true)->∃ b,fX (x::(f++xs)) st b/\iw st' b
 | [],st,st',h,_=>⟨st',h,iw.refl st'⟩
 | y::f,st,st',h,hi=>by
  cases h with
  | cons _ _ _ s1 _ n o h3 =>
   obtain⟨s',j,k⟩:=fX.front h3 (λz hz=>hi z (by simp[hz]));obtain⟨i,l,m⟩:=fX.swap (.cons y _ st s1 s' n o j) (hi y (by simp));exact⟨i,l,k.trans m⟩
end
end Go.Ab
