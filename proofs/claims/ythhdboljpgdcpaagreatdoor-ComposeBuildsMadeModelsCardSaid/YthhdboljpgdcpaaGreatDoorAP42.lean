/- Lemmas for the law ComposeBuildsMadeModels, part 42. No conditions. -/
import Derived.Test.YthhdboljpgdcpaaGreatDoorAP41
set_option maxRecDepth 100000
set_option maxHeartbeats 4000000
set_option linter.all false
namespace Go.Ab
open Enc (enc)
attribute [local simp] fX bL.aR
theorem z59{α β : Type}{f : α -> Option β}:∀ {l:List α} {r:List β},l.length=r.length->(∀ (i:Nat) (x : α) (y : β),l[i]?=some x->r[i]?=some y->f x=some y)->l.mapM f=some r
 | [],[],_,_=>rfl
 | [],_::_,h,_=>by simp at h
 | _::_,[],h,_=>by simp at h
 | x::l,y::r,h,k=>by have d:=k 0 x y rfl rfl;have n:=z59 (l:=l) (r:=r) (by simpa using h) λi a b j m=>k (i+1) a b (by simpa using j) (by simpa using m);simp[List.mapM_cons,d,n]
theorem Qw(n:Nat)(st:St)(s g off a:Nat):bE st (n+1) (.own s g off a)=match st.obj s g with
  | some o=>if off+a<=o.es.length then(((o.es.drop off).take a).mapM (bE st n)).map .sl else none
  | none=>none:=rfl
theorem z23{F s n:Nat}{C:List AV}{H:List (Option bD)}{ls:List (List Int)}(h:gZ F C H ls)(hn:ls.length=n){st:St}(l:st.obj s 0=some ⟨1,C⟩)(m:∀ g,st.obj F g=H[g]?.getD none) :
  bE st aZ (.own s 0 0 n)=some (.sl (aH ls)):=by
 rw[Pn,l];simp only[yJ,qW];rw[aW (by rw[h.len,hn];exact dK _),fK (by rw[h.len,hn];exact dK _)];have:C.mapM (bE st 5)=some (aH ls):=by
  refine z59 (by simp[-jE,h.len,aH]) λi x y d k=>?_;have a:i<ls.length:=by rw[<- h.len];exact(iR.1 d).1
  have f:y=.sl (aH ls[i]):=by simp[-jE,aH,a]at k;exact k.symm
  subst f;obtain⟨b,j⟩|⟨g,b,j⟩:=h.cell i _ (dF a)
  .rw[d]at b;cases b;rw[j];rfl
  .rw[d]at b;cases b;rw[Qw,m,j];simp only[xp,yJ,qW,vo,dK,cB];rw[fK (zZ (vo _)),G2];rfl
 rw[this];rfl
def Rh{F s n:Nat}{C:List AV}{H:List (Option bD)}{ls:List (List Int)}(h:gZ F C H ls){st:St}(f:st.obj s 0=some ⟨1,C⟩)(i:∀ g,st.obj F g=H[g]?.getD none) :
  ∀ d∈aO st aZ (.own s 0 0 n),d.1=s\/d.1=F:=by
 rw[V6,f];intro d hd;obtain rfl|hd:=bY.1 hd
 .exact .inl rfl
 .obtain⟨c,a,hd⟩:=kv.1 hd;obtain rfl|⟨g,m,rfl⟩:=h.cells c a
  .simp at hd
  .rw[V8]at hd;obtain rfl|hd:=bY.1 hd
   .exact .inr rfl
   .rw[i]at hd;cases b:H[g]? with
    | none=>rw[b]at hd;cases hd
    | some o =>
     rw[b]at hd;cases o with
     | none=>cases hd
     | some o =>
      obtain⟨l,rfl⟩:=h.Bq _ (wg b) o rfl;obtain⟨c,a,hd⟩:=kv.1 hd;obtain⟨v,_,rfl⟩:=cD.1 a;rw[Tz]at hd;cases hd
def xQ(A B:List Bool)(n k:Nat):St:=⟨[(3,.own 19 0 0 n),(4,.own 25 0 0 n),(120,.p (.int .i64 n)),(121,.p (.int .i64 k))],[(19,[some ⟨1,aT A⟩]),(25,[some ⟨1,aT B⟩]),(aL,[none])]⟩
def eX(A B:List Bool):List Bool:=List.zipWith (λa b=>a&&b) A B
def pC(A B:List Bool)(k:Nat):List Bool:=(eX A B).take k++A.drop k
def yb7{A B:List Bool}(f:A.length=B.length){k:Nat}(b:k<A.length):(pC A B k).set k (A[k]&&B[k]'(f ▸ b))=pC A B (k+1)/\(pC A B k)[k]?=some A[k]/\(pC A B k).length=A.length:=by
 have h:(eX A B).length=A.length:=by simp[eX,f]
 have d:k<(eX A B).length:=by omega
 have a:((eX A B).take k).length=k:=by rw[iB];omega
 unfold pC;refine⟨?_,?_,by simp;omega⟩
 .rw[B7 _ _ (by omega),a,B9,vw b,FL,ed d,uK];have:(eX A B)[k]=(A[k]&&B[k]'(f ▸ b)):=by simp[eX]
  rw[this];rfl
 .rw[qC (by omega),a,B9,Bj,vB,dF b]
def VU{A B:List Bool}{n:Nat}(w:A.length=n)(z:B.length=n)(hn:n<=100000){Q:Exit->St->Prop}{ks:List Kt}{st:St}(C:aA st (xQ A B n 0))
  (E:gI P 139 Q (fS 4 ks) 4 (xQ (eX A B) B n n)):vL P 139 Q g.qj ks st:=by
 refine cQ (S:=λk:Nat=>xQ (pC A B k) B n k) (I:=λk=>k<=n) (m:=λk=>n - k) 0 (by simpa[pC]using C) (by omega) ?_;rintro k J R r K s;have u:=bH k;by_cases i:k<n
 .have l:k<A.length:=by omega
  have o:k<B.length:=by omega
  obtain⟨G,t,H⟩:=yb7 (w.trans z.symm) l;have d:∀ f,aA f (xQ (pC A B (k+1)) B n (k+1))->R .normal f:=λf h=>r (k+1) f h (by omega) (by omega);rw[<- G]at d;have y:B[k]?=some B[k]:=dF o;generalize pC A B k=D at *
  have j:D.length=n:=H.trans w;generalize A[k]=a at *
  generalize B[k]=b at *
  simp[g.qj,xQ,i];refine⟨by omega,eO t ?_⟩;cases a with
  | true =>
   simp[i];refine⟨by omega,eO y ?_⟩;simp[j,u];refine eO t (d _ (aA.to [3,4,120,121] [((19,0),19),((25,0),25)] ?_));rw[BU D k b (v:=.p (.bool b)) rfl];simp only[Ib];generalize D.set k b=x;simp[xQ,aL]
  | false =>
   simp[i,j,u];refine eO t (d _ (aA.to [3,4,120,121] [((19,0),19),((25,0),25)] ?_));rw[BU D k false (v:=.p (.bool false)) rfl];simp only[Bool.false_and];generalize D.set k false=x;simp[xQ,aL]
 .have:k=n:=by omega
  subst this;have F:pC A B k=eX A B:=by unfold pC;rw[fK (by simp[eX];omega),xr (by omega),kZ]
  rw[F];simp[g.qj,xQ];refine s _ _ ?_;simpa[xQ,aL]using E
noncomputable def kP(r:aB)(l:List GW):List Bool:=l.map λw=>!decide (w=r.zero)
def NV(r:aB)(l:List GW)(x:l.length<=1000000)(hs:∀ w∈l,w.sm 1048576):zS 87 [enc r,.sl (aH l)] (.sl (aH (kP r l))):=by
 refine Sp.vz c.lg λ_=>?_;simp[g.lg]
 refine cQ (S:=λk:Nat=>aD [(1,.p (.sl (aH l))),(2,.ptr 2 0 0 0),(5,.own 5 0 0 (kP r (l.take k)).length),(6,.p (.int .i64 k))] [(2,⟨2,[.p (enc r)]⟩),(5,⟨1,aT (kP r (l.take k))⟩)]) (I:=λk=>k<=l.length) (m:=λk=>l.length - k) 0
  (aA.nl 5 77 1 rfl (aA.to [1,2,5,6] [((2,0),2),((77,0),5)] (by simp[aD,kP]))) (by omega) ?_
 rintro k u R f y o;have j:=bH k;by_cases a:k<l.length
 .have s:=Ht r l[k] (hs _ (bV a));have n:(kP r (l.take k)).length=k:=by simp[kP];omega
  have i:kP r (l.take (k+1))=kP r (l.take k)++[!decide (l[k]=r.zero)]:=by unfold kP;rw[ed a,qY];rfl
  have d:∀ b,aA b (aD [(1,.p (.sl (aH l))),(2,.ptr 2 0 0 0),(5,.own 5 0 0 (kP r (l.take (k+1))).length),(6,.p (.int .i64 (k+1:Nat)))] [(2,⟨2,[.p (enc r)]⟩),(5,⟨1,aT (kP r (l.take (k+1)))⟩)])->R .normal b:=λb h=>f (k+1) b h (by omega) (by omega);rw[i]at d;generalize kP r (l.take k)=A at *
  simp[g.rl,aD,a];refine bK a ?_;generalize l[k]'a=w at *
  refine bA s ?_;generalize decide (w=r.zero)=t at *
  simp[j,eS];refine⟨by omega,d _ (aA.to [1,2,5,6] [((2,0),2),((22,0),5)] ?_)⟩;simp[aD]
 .have:k=l.length:=by omega
  subst this;simp[g.rl,aD];refine o _ _ ?_;simp
def yb2(A B:List Bool)(ps:List (Int × Int))(D:A.length<=100000)(w:B.length=A.length)(hp:ps.length<=100000)(h:∀ p∈ps,(0<=p.1/\p.1<A.length)/\0<=p.2/\p.2<A.length) :
  zS 86 [.sl (aH A),.sl (aH B),.sl (aH ps)] (.sl (aH (eX (iF ps A.length A) (iF (rm ps) B.length B)))):=by
 have z:=PX A ps D hp h;have C:=PX B (rm ps) (by omega) (by simp[rm];omega) λp F=>by obtain⟨q,t,rfl⟩:=cD.1 F;have:=h q t;rw[w];exact⟨this.2,this.1⟩
 have H:(iF ps A.length A).length=A.length:=ze _ _ _;have J:(iF (rm ps) B.length B).length=A.length:=by rw[ze,w]
 generalize iF ps A.length A=X at *
 generalize iF (rm ps) B.length B=Y at *
 refine Sp.vz c.ld λ_=>?_;simp[g.ld]
 refine cQ (S:=λk:Nat=>aD [(0,.p (.sl (aH A))),(1,.p (.sl (aH B))),(2,.p (.sl (aH ps))),(7,.own 7 0 0 (rm (ps.take k)).length),(8,.p (.int .i64 k))] [(7,⟨2,aT (rm (ps.take k))⟩)]) (I:=λk=>k<=ps.length) (m:=λk=>ps.length - k) 0
  (aA.nl 7 77 2 rfl (aA.to [0,1,2,7,8] [((77,0),7)] (by simp[aD,rm]))) (by omega) ?_
 rintro k E R n G u;have r:=bH k;by_cases i:k<ps.length
 .have s:(rm (ps.take k)).length=k:=by simp[rm];omega
  have o:rm (ps.take (k+1))=rm (ps.take k)++[(ps[k].2,ps[k].1)]:=by unfold rm;rw[ed i,qY];rfl
  have d:∀ f,aA f (aD [(0,.p (.sl (aH A))),(1,.p (.sl (aH B))),(2,.p (.sl (aH ps))),(7,.own 7 0 0 (rm (ps.take (k+1))).length),(8,.p (.int .i64 (k+1:Nat)))] [(7,⟨2,aT (rm (ps.take (k+1)))⟩)])->R .normal f:=λf h=>n (k+1) f h (by omega) (by omega);rw[o]at d;generalize rm (ps.take k)=T at *
  simp[g.rj,aD,i,r,eS];refine bK i (bK i ?_);generalize ps[k]'i=q at *
  refine⟨by omega,d _ (aA.to [0,1,2,7,8] [((32,0),7)] ?_)⟩;simp[aD]
 .have:k=ps.length:=by omega
  subst this;rw[fK (dK _)];simp[g.rj,aD];refine u _ _ ?_;simp;refine bA z ?_;simp;refine bA C ?_;simp[aJ]
  refine cQ (S:=λk:Nat=>aD [(9,.p (.sl (aH X))),(10,.p (.sl (aH Y))),(11,.own 11 0 0 (eX (X.take k) (Y.take k)).length),(12,.p (.int .i64 k))] [(11,⟨1,aT (eX (X.take k) (Y.take k))⟩)]) (I:=λk=>k<=A.length) (m:=λk=>A.length - k) 0
   (aA.nl 11 77 1 rfl (aA.to [9,10,11,12] [((77,0),11)] (by simp[aD,eX]))) (by omega) ?_
  rintro k E R n G u;have r:=bH k;by_cases i:k<A.length
  .have j:k<X.length:=by omega
   have l:k<Y.length:=by omega
   have s:(eX (X.take k) (Y.take k)).length=k:=by simp[eX];omega
   have o:eX (X.take (k+1)) (Y.take (k+1))=eX (X.take k) (Y.take k)++[X[k]&&Y[k]]:=by unfold eX;rw[ed j,ed l,List.zipWith_append (by simp;omega)];rfl
   have d:∀ f,aA f (aD [(9,.p (.sl (aH X))),(10,.p (.sl (aH Y))),(11,.own 11 0 0 (eX (X.take (k+1)) (Y.take (k+1))).length),(12,.p (.int .i64 (k+1:Nat)))] [(11,⟨1,aT (eX (X.take (k+1)) (Y.take (k+1)))⟩)])->R .normal f:=λf h=>n (k+1) f h (by omega) (by omega);rw[o]at d;generalize eX (X.take k) (Y.take k)=T at *
   have x:X[k]?=some X[k]:=dF j;have y:Y[k]?=some Y[k]:=dF l;generalize X[k]'j=a at *
   generalize Y[k]'l=b at *
   simp[g.rk,aD,j];refine eO x ?_;cases a with
   | true =>
    simp;refine eO y ?_;simp[r];refine⟨by omega,d _ (aA.to [9,10,11,12] [((57,0),11)] ?_)⟩;simp[aD]
   | false =>
    simp[r,eS];refine⟨by omega,d _ (aA.to [9,10,11,12] [((57,0),11)] ?_)⟩;simp[aD]
  .have:k=A.length:=by omega
   subst this;rw[fK (by omega),fK (by omega)];simp[g.rk,aD,H];refine u _ _ ?_;simp
noncomputable def Cr(F:GTrans):List Bool:=eX (iF (nJ F.aE) (kP F.ring F.aU).length (kP F.ring F.aU)) (iF (rm (nJ F.aE)) (kP F.ring F.fin).length (kP F.ring F.fin))
def M9(F:GTrans)(m:List Bool)(N:Nat):GTrans:=⟨F.ring,F.i,F.o,(fV m N:Nat),gq m F.aU,gq m F.fin,mP m F.aE⟩
def zTT:AV:=.agg [.p (.int .i64 0),.nil,.p (.int .i64 0),.p (.int .i64 0),.p (.int .i64 0),.nil,.nil,.nil]
def Ak(F:GTrans)(k:Nat):St:=aD [(1,.ptr 1 0 0 0),(2,.ptr 2 0 0 0),(3,.own 3 0 0 (nJ (F.aE.take k)).length),(4,.p (.int .i64 k))] [(1,⟨8,[.p (enc F)]⟩),(2,⟨8,[zTT]⟩),(3,⟨2,aT (nJ (F.aE.take k))⟩)]
def xx(F:GTrans)(m:List Bool)(N:Nat)(A B:List GW)(D:List Int)(cm k:Nat):St :=
 aD [(1,.ptr 1 0 0 0),(2,.ptr 2 0 0 0),(5,.p (.sl (aH m))),(6,.ptr 6 0 0 0),(7,.own 7 0 0 N),(8,.p (.int .i64 k))]
  [(1,⟨8,[.p (enc F)]⟩),(2,⟨8,[zTT]⟩),(6,⟨8,[.agg [.p (.int .i64 F.ring.kind),.p (.sl (aH F.ring.parts)),.p (.int .i64 F.i),.p (.int .i64 F.o),.p (.int .i64 cm),.own 21 0 0 A.length,.own 22 0 0 B.length,.nil]]⟩),
  (7,⟨1,aT D⟩),(21,⟨8,aT A⟩),(22,⟨8,aT B⟩)]
def xw(F:GTrans)(m:List Bool)(N:Nat)(A B:List GW)(D:List Int)(cm:Nat)(C:List aC)(k:Nat):St :=
 aD [(1,.ptr 1 0 0 0),(2,.ptr 2 0 0 0),(5,.p (.sl (aH m))),(6,.ptr 6 0 0 0),(7,.own 7 0 0 N),(9,.p (.int .i64 k))]
  [(1,⟨8,[.p (enc F)]⟩),(2,⟨8,[zTT]⟩),(6,⟨8,[.agg [.p (.int .i64 F.ring.kind),.p (.sl (aH F.ring.parts)),.p (.int .i64 F.i),.p (.int .i64 F.o),.p (.int .i64 cm),.own 21 0 0 A.length,.own 22 0 0 B.length,.own 23 0 0 C.length]]⟩),
  (7,⟨1,aT D⟩),(21,⟨8,aT A⟩),(22,⟨8,aT B⟩),(23,⟨12,aT C⟩)]
def Zq{F:GTrans}(u:F.aE.length<=100000){Q:Exit->St->Prop}{ks:List Kt}{st:St}(p:aA st (Ak F 0))(r:gI P 142 Q (fS 0 ks) 0 (Ak F F.aE.length)):vL P 142 Q g.qc ks st:=by
 refine cQ (S:=λk:Nat=>Ak F k) (I:=λk=>k<=F.aE.length) (m:=λk=>F.aE.length - k) 0 p (by omega) ?_;rintro k s R i w l;have n:=bH k;by_cases b:k<F.aE.length
 .have o:(nJ (F.aE.take k)).length=k:=by simp[nJ];omega
  have j:nJ (F.aE.take (k+1))=nJ (F.aE.take k)++[(F.aE[k].f,F.aE[k].t)]:=by unfold nJ;rw[ed b,qY];rfl
  have a:∀ d,aA d (Ak F (k+1))->R .normal d:=λd h=>i (k+1) d h (by omega) (by omega);unfold Ak at a ⊢;rw[j]at a;generalize nJ (F.aE.take k)=T at *
  simp[g.qc,aD,b,zTT];refine bK b (bK b ?_);generalize F.aE[k]'b=q at *
  simp[n];refine⟨by omega,a _ (aA.to [1,2,3,4] [((1,0),1),((2,0),2),((33,0),3)] ?_)⟩;simp[aD,zTT]
 .have:k=F.aE.length:=by omega
  subst this;simp[g.qc,Ak,aD,zTT];refine l _ _ ?_;simpa[Ak,aD,zTT]using r
def Zr{F:GTrans}{N:Nat}(V:N<=100000)(i:F.st=N)(Y:F.aU.length=N)(X:F.fin.length=N){m:List Bool}(K:m.length=N){Q:Exit->St->Prop}{ks:List Kt}{st:St}(y:aA st (xx F m N [] [] (kS 0 (cU m) 0) 0 0))
  (z:gI P 142 Q (fS 2 ks) 2 (xx F m N (gq m F.aU) (gq m F.fin) (cU m) (fV m N) N)):vL P 142 Q g.pb ks st:=by
 have G:(cU m).length=N:=by rw[AK,K]
 refine cQ (S:=λk:Nat=>xx F m N (gq (m.take k) (F.aU.take k)) (gq (m.take k) (F.fin.take k)) (kS 0 (cU m) k) (fV m k) k) (I:=λk=>k<=N) (m:=λk=>N - k) 0 (by simpa[gq,fV]using y) (by omega) ?_;rintro k W R s E t;have C:=bH k;by_cases r:k<N
 .have a:∀ l,aA l (xx F m N (gq (m.take (k+1)) (F.aU.take (k+1))) (gq (m.take (k+1)) (F.fin.take (k+1))) (kS 0 (cU m) (k+1)) (fV m (k+1)) (k+1))->R .normal l:=λl h=>s (k+1) l h (by omega) (by omega);have f:k<m.length:=by omega
  have o:k<F.aU.length:=by omega
  have n:k<F.fin.length:=by omega
  have J:=LM m k;have H:IntKind.i64.wrap ((fV m k:Int)+1)=((fV m k+1:Nat):Int):=b5;rw[ES f o,ES f n,JX f]at a;have O:(gq (m.take k) (F.aU.take k)).length<=100000:=by rw[BE (by simp;omega)];exact dP HZ (by rw[iB];omega)
  have U:(gq (m.take k) (F.fin.take k)).length<=100000:=by rw[BE (by simp;omega)];exact dP HZ (by rw[iB];omega)
  have w:=EE 0 (cU m) (k:=k) (by omega);have d:=EF 0 (cU m) (k:=k) (by omega);have j:=N5 0 (cU m) (k:=k) (by omega);rw[GK f]at d j;generalize gq (m.take k) (F.aU.take k)=A at *
  generalize gq (m.take k) (F.fin.take k)=B at *
  have u:m[k]?=some m[k]:=dF f;generalize m[k]'f=b at *
  cases b with
  | false =>
   rw[j rfl]at a;simp only[gJ,fQ,kZ,Bool.toNat_false,vB]at a;clear s t E y z d j;generalize kS 0 (cU m) k=D at *
   generalize fV m k=x at *
   simp[g.pb,xx,aD,i,r,zTT];refine eO u ?_;simp[C];refine a _ (aA.to [1,2,5,6,7,8] [((1,0),1),((2,0),2),((6,0),6),((7,0),7),((21,0),21),((22,0),22)] ?_);simp[xx,aD,zTT,i]
  | true =>
   simp only[cB,Bool.toNat_true]at a d;rw[<- d]at a;clear s t E y z d j;rw[G]at w;generalize kS 0 (cU m) k=D at *
   generalize fV m k=x at *
   simp[g.pb,xx,aD,i,r,zTT];refine eO u ?_;simp[C,H,r,w];refine bK (by omega:k<D.length) (bK o ⟨by omega,bK n ⟨by omega,a _ (aA.to [1,2,5,6,7,8] [((1,0),1),((2,0),2),((6,0),6),((7,0),7),((83,0),21),((92,0),22)] ?_)⟩⟩);rw[BU D k ((x:Nat):Int) (v:=.p (.int .i64 x)) rfl];generalize D.set k ((x:Nat):Int)=M;generalize F.aU[k]'o=w1 at *
   generalize F.fin[k]'n=w2 at *
   simp[xx,aD,zTT,i]
 .have:k=N:=by omega
  subst this;have L:kS 0 (cU m) k=cU m:=by rw[<- G];exact GJ 0 (cU m)
  rw[L,List.take_of_length_le (by omega),List.take_of_length_le (by omega),List.take_of_length_le (by omega)];simp[g.pb,xx,aD,i,zTT];refine t _ _ ?_;simpa[xx,aD,zTT,i]using z
def Zs{F:GTrans}{N:Nat}(hN:N<=100000)(hl:F.aE.length<=3000000){m:List Bool}(V:m.length=N)(U:∀ x∈F.aE,x.fit N){A B:List GW}{cm:Nat}{Q:Exit->St->Prop}{ks:List Kt}{st:St}(H:aA st (xw F m N A B (cU m) cm [] 0))
  (J:gI P 142 Q (fS 4 ks) 4 (xw F m N A B (cU m) cm (mP m F.aE) F.aE.length)):vL P 142 Q g.qd ks st:=by
 have X:(cU m).length=N:=by rw[AK,V]
 refine cQ (S:=λk:Nat=>xw F m N A B (cU m) cm (mP m (F.aE.take k)) k) (I:=λk=>k<=F.aE.length) (m:=λk=>F.aE.length - k) 0 (by simpa[mP]using H) (by omega) ?_;rintro k hk R n W p;have r:=bH k;by_cases b:k<F.aE.length
 .have a:∀ d,aA d (xw F m N A B (cU m) cm (mP m (F.aE.take (k+1))) (k+1))->R .normal d:=λd h=>n (k+1) d h (by omega) (by omega);have hC:(mP m (F.aE.take k)).length<=3000000:=dP (Rq _ _) (by rw[iB];omega);rw[NQ m b]at a;generalize mP m (F.aE.take k)=C at *
  obtain⟨⟨Y,Z⟩,t0,t1⟩:=U _ (bV b);clear n p W H J;simp[g.qd,xw,aD,b,zTT];refine bK b ?_;generalize F.aE[k]'b=x at *
  obtain⟨f,j⟩:∃ f:Nat,x.f=(f:Int):=⟨x.f.toNat,by omega⟩;obtain⟨q,l⟩:∃ q:Nat,x.t=(q:Int):=⟨x.t.toNat,by omega⟩;have s:f<N:=by omega
  have u:q<N:=by omega
  have y:m[f]?=some m[f]:=dF (by omega);have z:m[q]?=some m[q]:=dF (by omega);have E:(cU m)[f]?=some (cU m)[f]:=dF (by omega);have G:(cU m)[q]?=some (cU m)[q]:=dF (by omega);have M:wM m x=(m[f]&&m[q]):=by unfold wM;rw[j,l,kQ,kQ,eT,eT,y,z];rfl
  have O:rC m x=⟨(cU m)[f],x.i,x.o,(cU m)[q],x.w⟩:=by unfold rC;rw[j,l,kQ,kQ,eT,eT,E,G];rfl
  rw[M,O]at a;generalize m[f]=K at *
  generalize m[q]=L at *
  generalize (cU m)[f]=n1 at *
  generalize (cU m)[q]=n2 at *
  generalize cU m=D at *
  rw[j,l];simp;refine eO y ?_;cases K with
  | false =>
   simp only[Bool.false_and,gJ,fQ,kZ]at a;simp[r];refine a _ (aA.to [1,2,5,6,7,9] [((1,0),1),((2,0),2),((6,0),6),((7,0),7),((21,0),21),((22,0),22),((23,0),23)] ?_);simp[xw,aD,zTT]
  | true =>
   simp;refine eO z ?_;cases L with
   | false =>
    simp only[Bool.and_false,gJ,fQ,kZ]at a;simp[r];refine a _ (aA.to [1,2,5,6,7,9] [((1,0),1),((2,0),2),((6,0),6),((7,0),7),((21,0),21),((22,0),22),((23,0),23)] ?_);simp[xw,aD,zTT]
   | true =>
    simp only[FG,cB]at a;simp[s,u,X];refine eO E (eO G ?_);simp[r];refine⟨by omega,a _ (aA.to [1,2,5,6,7,9] [((1,0),1),((2,0),2),((6,0),6),((7,0),7),((21,0),21),((22,0),22),((139,0),23)] ?_)⟩;simp[xw,aD,zTT]
 .have:k=F.aE.length:=by omega
  subst this;rw[List.take_of_length_le (Nat.le_refl _)];simp[g.qd,xw,aD,zTT];refine p _ _ ?_;simpa[xw,aD,zTT]using J
def Wp(Z:GTrans)(N:Nat)(f:N<=100000)(a:Z.st=N)(l:Z.aU.length=N)(k:Z.fin.length=N)(I:Z.aE.length<=100000)(h:∀ x∈Z.aE,x.fit N)(D:∀ w∈Z.aU,w.sm 1048576)(C:∀ w∈Z.fin,w.sm 1048576) :
  zS 36 [enc Z] (enc (M9 Z (Cr Z) N)):=by
 have j:(kP Z.ring Z.aU).length=N:=by simp[kP,l]
 have z:(kP Z.ring Z.fin).length=N:=by simp[kP,k]
 have E:=NV Z.ring Z.aU (by omega) D;have G:=NV Z.ring Z.fin (by omega) C;have vb:=yb2 (kP Z.ring Z.aU) (kP Z.ring Z.fin) (nJ Z.aE) (by omega) (by omega) (by simp[nJ];omega) λp t=>by obtain⟨x,u,rfl⟩:=cD.1 t;rw[j];exact h x u
 have d:eX (iF (nJ Z.aE) (kP Z.ring Z.aU).length (kP Z.ring Z.aU)) (iF (rm (nJ Z.aE)) (kP Z.ring Z.fin).length (kP Z.ring Z.fin))=Cr Z:=rfl;rw[d]at vb;have b:(Cr Z).length=N:=by unfold Cr eX;rw[List.length_zipWith,ze,ze,j,z];exact Nat.min_self N
 generalize Cr Z=m at *
 generalize kP Z.ring Z.aU=A at *
 generalize kP Z.ring Z.fin=B at *
 clear d;refine Sp.vz c.g9 λ_=>?_;simp[g.g9];refine Zq (F:=Z) (by omega) (aA.nl 3 77 2 rfl (aA.to [1,2,3,4] [((1,0),1),((2,0),2),((77,0),3)] ?_)) ?_
 .simp[Ak,aD,zTT,nJ]
 simp only[Ak,aD,zTT,lO];generalize nJ Z.aE=J at *
 simp;refine bA E ?_;simp;refine bA G ?_;simp[aJ];refine bA vb ?_;simp[aJ,a,eS];have y:aT (kS 0 (cU m) 0)=List.replicate N (.p (.int .i64 0)):=by rw[GX,AK,b,LG];rfl
 have r:(cU m).length=N:=by rw[AK,b]
 refine⟨by omega,Zr (F:=Z) (N:=N) f a l k b ((aA.cW (s0:=6) (g0:=0) (i:=5) (s:=77) (sz:=8) rfl).trans ((aA.cW (s0:=6) (g0:=0) (i:=6) (s:=78) (sz:=8) rfl).trans (aA.to [1,2,5,6,7,8] [((1,0),1),((2,0),2),((6,0),6),((55,0),7),((77,0),21),((78,0),22)] ?_))) ?_⟩
 .simp only[xx,y];simp[aD,zTT,a]
 unfold M9;generalize gq m Z.aU=n at *
 generalize gq m Z.fin=o at *
 simp[gI,fS,xx,aD,zTT,a];refine Zs (F:=Z) (N:=N) f (by omega) b h (A:=n) (B:=o) (cm:=fV m N) ((aA.cW (s0:=6) (g0:=0) (i:=7) (s:=77) (sz:=12) rfl).trans (aA.to [1,2,5,6,7,9] [((1,0),1),((2,0),2),((6,0),6),((7,0),7),((21,0),21),((22,0),22),((77,0),23)] ?_)) ?_
 .simp[xw,aD,zTT,a]
 generalize mP m Z.aE=H at *
 simp[gI,fS,xw,aD,zTT]
def z17{r:aB}(M:c4 r){n:Nat}{l:List aC}(h:∀ x∈l,M.mb n x.w/\x.w.aQ r)(k:Nat)(d:k<=l.length) :
  ∀ x∈sc aC.key (lv r) id (l.take k),M.mb (kc aC.key (l.take k) x.key+n) x.w/\x.w.aQ r :=
 RA (key:=aC.key) (up:=lv r) (nw:=id) (λ_ _=>rfl) (λ_=>rfl) (Q:=λc x=>M.mb (c+n) x.w/\x.w.aQ r) (λh k=>⟨M.mono h.1 (by omega),h.2⟩) (λx a=>⟨M.mono (h x a).1 (by show n<=0+n;omega),(h x a).2⟩)
  (λc z x a _ b=>⟨by have:=M.plus b.2 (h x a).2 b.1 (M.mono (h x a).1 (by omega));exact M.mono this (by omega),(EZ b.2 (h x a).2:(r.plus z.w x.w).aQ r)⟩) k d
def Xh{r:aB}{M:c4 r}(W:dM M)(l:List aC)(n B:Nat)(hn:B+n<=M.lim)(hB:∀ q,kc aC.key l q<=B)(hl:l.length<=100000)(h:∀ x∈l,M.mb n x.w/\x.w.aQ r) :
  zS 81 [enc r,.sl (aH l)] (.sl (aH (Iz r l))):=by
 have V:=z17 M h;have y:∀ k q,kc aC.key (l.take k) q<=B:=λk q=>dP (Ro _ _ _) (hB q);have U:=λk (u:k<=l.length)=>RB (key:=aC.key) (up:=lv r) (nw:=id) (λ_ _=>rfl) (λ_=>rfl) l k u;refine Sp.vz c.kz λ_=>?_;simp[g.kz]
 refine cQ (S:=λk:Nat=>aD [(1,.p (.sl (aH l))),(2,.ptr 2 0 0 0),(5,.own 1 0 0 (sc aC.key (lv r) id (l.take k)).length),(6,.p (.int .i64 k))] [(2,⟨2,[.p (enc r)]⟩),(1,⟨12,aT (sc aC.key (lv r) id (l.take k))⟩)]) (I:=λk=>k<=l.length) (m:=λk=>l.length - k) 0
  (aA.nl 5 77 12 rfl (aA.to [1,2,5,6] [((2,0),2),((77,0),1)] (by simp[sc]))) (by omega) ?_
 rintro k X R a Z H;have K:=bH k;have al:=U k X;have F:=V k X;generalize L:sc aC.key (lv r) id (l.take k)=O at *
 by_cases u:k<l.length
 .have D:=h _ (bV u);have b:=HK (key:=aC.key) (up:=lv r) (nw:=id) u;rw[L]at b;simp[g.rf,aD,u];refine bK u ?_
  try simp
  generalize l[k]=x at *
  refine bA (mR r x.w ((W.rQ (n:=n) (by omega) D.2 D.1).mono (by omega))) ?_;rw[L6 D.2];simp
  refine cQ (S:=λi:Nat=>aD [(1,.p (.sl (aH l))),(2,.ptr 2 0 0 0),(5,.own 1 0 0 O.length),(6,.p (.int .i64 k)),(7,.ptr 3 0 0 0),(8,.p (.int .i64 i))] [(2,⟨2,[.p (enc r)]⟩),(1,⟨12,aT O⟩),(3,⟨12,[.p (enc x)]⟩)]) (I:=λi=>i<=O.length/\∀ j,(d:j<O.length)->j<i->O[j].key<x.key) (m:=λi=>O.length - i) 0
   (aA.to [1,2,5,6,7,8] [((2,0),2),((1,0),1),((7,0),3)] (by simp)) ⟨by omega,λj _ d=>by omega⟩ ?_
  rintro i ⟨j1,J⟩ R2 Q ag E;have G:=bH i;by_cases f:i<O.length
  .simp[g.re,aD,f];refine bK f ?_;refine bA (Lm O[i] x) ?_;have C:fU O[i].key x.key<0 ↔ O[i].key<x.key:=Gv (by simp[aC.key]);have z:fU O[i].key x.key=0 ↔ O[i].key=x.key:=Gu (by simp[aC.key]);simp;refine⟨λY=>?_,λY=>E _ _ ?_⟩
   .rw[G];refine Q (i+1) _ (aA.to [1,2,5,6,7,8] [((2,0),2),((1,0),1),((3,0),3)] (by simp[aD])) ⟨by omega,λj d o=>?_⟩ (by omega);by_cases N:j<i
    .exact J j d N
    .have:j=i:=by omega
     subst this;exact C.1 Y
   .simp[f];refine bK f ?_;refine bA (Lm O[i] x) ?_;simp;refine⟨λo=>?_,λo=>?_⟩
    .rw[Zp f J (z.1 o)]at b;have t:=F _ (bV f);refine⟨f,bK f ?_⟩;refine bA (M.plusS (n:=kc aC.key (l.take k) O[i].key+n) (by have:=y k O[i].key;omega) t.2 D.2 t.1 (M.mono D.1 (by omega))) ?_;simp[K,f];refine bK f ?_;refine a (k+1) _ (aA.to [1,2,5,6] [((2,0),2),((1,0),1)] ?_) (by omega) (by omega);rw[b];simp[aD,lv]
    .rw[yaw f J (λh=>by have:=C.2 h;omega) (λh=>o (z.2 h))]at b;have ad:O.length<=100000:=by omega
     have hm:min i O.length=i:=by omega
     rw[hm];refine⟨by omega,⟨by omega,by omega⟩,by omega,by omega,⟨by omega,by omega⟩,?_⟩;rw[K];have A:i+1+(O.length - i)=O.length+1:=by omega
     refine a (k+1) _ (aA.to [1,2,5,6] [((2,0),2),((77,0),1)] ?_) (by omega) (by omega);rw[b];simp[aD,A];exact⟨by omega,by rw[fK (by simp)]⟩
  .have:i=O.length:=by omega
   subst this;rw[yax λj d=>J j d d]at b;simp[g.re,aD];refine E _ _ ?_;simp;rw[K];refine⟨by omega,by omega,a (k+1) _ (aA.to [1,2,5,6] [((2,0),2),((77,0),1)] ?_) (by omega) (by omega)⟩;rw[b];simp[aD]
 .have:k=l.length:=by omega
  subst this;rw[fK (dK _)]at L;have hf:Iz r l=O.filter λx=>!decide (x.w=r.zero):=by rw[<- L];rfl
  simp[g.rf,aD];refine H _ _ ?_;simp;rw[hf];clear H Z a
  refine cQ (S:=λj:Nat=>aD [(2,.ptr 2 0 0 0),(5,.own 1 0 0 O.length),(9,.own 3 0 0 ((O.take j).filter λx=>!decide (x.w=r.zero)).length),(10,.p (.int .i64 j))] [(2,⟨2,[.p (enc r)]⟩),(1,⟨12,aT O⟩),(3,⟨12,aT ((O.take j).filter λx=>!decide (x.w=r.zero))⟩)]) (I:=λj=>j<=O.length) (m:=λj=>O.length - j) 0
   (aA.nl 9 78 12 rfl (aA.to [2,5,9,10] [((2,0),2),((1,0),1),((78,0),3)] (by simp))) (by omega) ?_
  rintro j j1 R a Z H;have G:=bH j;by_cases d:j<O.length
  .have af:((O.take j).filter λx=>!decide (x.w=r.zero)).length<=j:=dP (nQ _ _) (by rw[iB];omega);have s:(O.take (j+1)).filter (λx=>!decide (x.w=r.zero))=(O.take j).filter (λx=>!decide (x.w=r.zero))++if O[j].w=r.zero then[]else[O[j]]:=by rw[ed d,v7];by_cases t:O[j].w=r.zero<;>simp[t]
   generalize hT:(O.take j).filter (λx=>!decide (x.w=r.zero))=T at *
   have t:=F _ (bV d);simp[g.rg,aD,d];refine bK d ?_;refine bA (Ht r O[j].w ((W.rQ (n:=kc aC.key (l.take l.length) O[j].key+n) (by have:=y l.length O[j].key;omega) t.2 t.1).mono (by omega))) ?_;by_cases o:O[j].w=r.zero
   .rw[decide_eq_true o];simp[G];rw[aW o]at s;refine a (j+1) _ (aA.to [2,5,9,10] [((2,0),2),((1,0),1),((3,0),3)] ?_) (by omega) (by omega);rw[s];simp[aD]
   .rw[decide_eq_false o];simp[d];rw[aY o]at s;refine bK d ?_;rw[G];refine⟨by omega,a (j+1) _ (aA.to [2,5,9,10] [((2,0),2),((1,0),1),((98,0),3)] ?_) (by omega) (by omega)⟩;rw[s];simp[aD]
  .have:j=O.length:=by omega
   subst this;simp[g.rg,aD];refine H _ _ ?_;simp
def P3(a:GTrans){M:c4 a.ring}(h:dM M)(n B:Nat)(hn:B+n<=M.lim)(C:∀ q,kc aC.key a.aE q<=B)(G:a.aE.length<=100000)(F:∀ w∈a.aU,M.mb n w)(E:∀ w∈a.fin,M.mb n w)(D:∀ x∈a.aE,M.mb n x.w)(hp:a.ring.parts.length<=1000000)(hs:a.st<=1000000)(O:(a.aU.length:Int)=a.st)(N:(a.fin.length:Int)=a.st)
  (ci:∀ w∈a.aU,w.aQ a.ring) (cf:∀ w∈a.fin,w.aQ a.ring) (z:∀ x∈a.aE,x.w.aQ a.ring) :
  zS 30 [enc a] (enc a.nf):=by
 have y:=Xh h a.aE n B hn C G λx f=>⟨D x f,z x f⟩;rw[XX]at y;have r:a.fin.length=a.aU.length:=by omega
 refine Sp.vz c.be λ_=>?_;simp[g.be];refine⟨by omega,?_⟩;refine bA y ?_;simp
 refine cQ (S:=λk:Nat=>aD [(1,.ptr 1 0 0 0),(2,.ptr 2 0 0 0),(3,.ptr 3 0 0 0),(4,.p (.int .i64 k))]
   [(1,⟨8,[.p (enc a)]⟩),(2,⟨8,[.agg [.p (.int .i64 0),.nil,.p (.int .i64 0),.p (.int .i64 0),.p (.int .i64 0),.nil,.nil,.nil]]⟩),
    (3,⟨8,[.agg [.p (.int .i64 a.ring.kind),.own 6 0 0 a.ring.parts.length,.p (.int .i64 a.i),.p (.int .i64 a.o),.p (.int .i64 a.st),.own 4 0 0 k,.own 5 0 0 k,.p (.sl (aH (cR a.ring a.aE)))]]⟩),(4,⟨8,aT (a.aU.take k)⟩),(5,⟨8,aT (a.fin.take k)⟩),(6,⟨1,aT a.ring.parts⟩)])
  (I:=λk=>k<=a.aU.length) (m:=λk=>a.aU.length - k) 0
  ((aA.cW (s0:=3) (g0:=0) (i:=5) (s:=77) (sz:=8) rfl).trans ((aA.cW (s0:=3) (g0:=0) (i:=6) (s:=78) (sz:=8) rfl).trans (aA.to [1,2,3,4] [((1,0),1),((2,0),2),((3,0),3),((77,0),4),((78,0),5),((11,0),6)] (by simp)))) (by omega) ?_
 rintro k K R l L f;have A:=bH k;by_cases j:k<a.aU.length
 .have b:k<a.fin.length:=by omega
  have d:(k:Int)<a.st:=by omega
  simp[g.q9,aD,d];refine bK j ?_
  try simp
  have t:=bV j;have u:=bV b;refine bA (mR a.ring a.aU[k] ((h.rQ (n:=n) (by omega) (ci _ t) (F _ t)).mono (by omega))) ?_;rw[L6 (ci _ t)];simp;refine⟨⟨by omega,by omega⟩,bK b ?_⟩;refine bA (mR a.ring a.fin[k] ((h.rQ (n:=n) (by omega) (cf _ u) (E _ u)).mono (by omega))) ?_;rw[L6 (cf _ u)];have H:aT (a.aU.take (k+1))=aT (a.aU.take k)++[.p (enc a.aU[k])]:=by rw[ed j,zX];rfl
  have J:aT (a.fin.take (k+1))=aT (a.fin.take k)++[.p (enc a.fin[k])]:=by rw[ed b,zX];rfl
  simp[A];refine⟨⟨by omega,by omega⟩,l (k+1) _ (aA.to [1,2,3,4] [((1,0),1),((2,0),2),((3,0),3),((42,0),4),((54,0),5),((6,0),6)] ?_) (by omega) (by omega)⟩;simp[aD,H,J]
 .have:k=a.aU.length:=by omega
  subst this;have d:¬ (a.aU.length:Int)<a.st:=by omega
  simp[g.q9,aD,d];refine f _ _ ?_;simp[GTrans.nf,r];rw[fK (by rw[iB];exact Nat.min_le_left _ _),fK (by omega)]
def yh(t u:GTrans)(L:List aI)(k j:Nat):St :=
 aD [(2,.ptr 2 0 0 0),(3,.ptr 3 0 0 0),(4,.ptr 4 0 0 0),(7,.ptr 7 0 0 0),(8,.own 8 0 0 L.length),(9,.p (.int .i64 k)),(10,.p (.int .i64 j))]
  [(2,⟨8,[.p (enc t)]⟩),(3,⟨8,[.p (enc u)]⟩),(4,⟨8,[zTT]⟩),(7,⟨2,[.p (enc t.ring)]⟩),(8,⟨3,aT L⟩)]
def y4(t u:GTrans)(L:List aI)(k:Nat):St :=
 aD [(2,.ptr 2 0 0 0),(3,.ptr 3 0 0 0),(4,.ptr 4 0 0 0),(7,.ptr 7 0 0 0),(8,.own 8 0 0 L.length),(9,.p (.int .i64 k))]
  [(2,⟨8,[.p (enc t)]⟩),(3,⟨8,[.p (enc u)]⟩),(4,⟨8,[zTT]⟩),(7,⟨2,[.p (enc t.ring)]⟩),(8,⟨3,aT L⟩)]
def Od(t u:GTrans)(L:List aI)(k j:Nat):qH t u L k (j+1)=Ad t u k (qH t u L k j) j:=by simp[qH,vZ]
def NP(t u:GTrans)(a:Nat)(L:List aI)(k:Nat):kU t u a L (k+1)=qH t u (kU t u a L k) k a:=by simp[kU,vZ]
theorem JS(t u:GTrans)(L:List aI)(k:Nat):∀ j,(qH t u L k j).length<=L.length+j
 | 0=>by simp[qH]
 | j+1=>by
  rw[Od];have:=JS t u L k j;unfold Ad;split
  .omega
  .simp;omega
theorem RW(t u:GTrans)(a:Nat):∀ k,(kU t u a [] k).length<=k*a
 | 0=>by simp[kU]
 | k+1=>by rw[NP,yL];have:=RW t u a k;have:=JS t u (kU t u a [] k) k a;omega
def Ve{t u:GTrans}{M:c4 t.ring}(H:dM M){n d:Nat}(hn:n+n+1<=M.lim)(J:∀ w∈t.aU,w.aQ t.ring/\M.mb n w)(K:∀ w∈u.aU,w.aQ t.ring/\M.mb n w)(N:u.aU.length=d)(b:u.st=d)(Y:d<=1000)
  {L:List aI} (X:L.length<=1000000) {k:Nat} (y:k<t.aU.length) {Q:Exit->St->Prop} {ks:List Kt} {st:St} (V:aA st (yh t u L k 0))
  (W:gI P 213 Q (fS 2 ks) 2 (yh t u (qH t u L k d) k d)):vL P 213 Q g.pn ks st:=by
 refine cQ (S:=λj:Nat=>yh t u (qH t u L k j) k j) (I:=λj=>j<=d) (m:=λj=>d - j) 0 V (by omega) ?_;rintro j Z R l U o;have C:=bH j;by_cases z:j<d
 .have i:j<u.aU.length:=by omega
  have a:∀ f,aA f (yh t u (Ad t u k (qH t u L k j) j) k (j+1))->R .normal f:=λf h=>l (j+1) f (by rw[Od];exact h) (by omega) (by omega);have E:=JS t u L k j;generalize qH t u L k j=O at *
  obtain⟨r,F⟩:=J _ (bV y);obtain⟨s,G⟩:=K _ (bV i);have B:=M.timesS (show n<=M.lim by omega) r s F G;have A:=H.rQ hn (Dn r s) (M.times r s F G);have x:=Ht t.ring (t.ring.times t.aU[k] u.aU[j]) (A.mono (by omega));have D:Ad t u k O j=if t.ring.times t.aU[k] u.aU[j]=t.ring.zero then O else O++[⟨k,j,0⟩]:=by unfold Ad;rw[eT,eT,dF y,dF i];rfl
  rw[D]at a;clear D l o U;generalize t.ring.times t.aU[k] u.aU[j]=w at *
  simp[g.pn,yh,aD,b,z,zTT];refine bK y (bK i ?_);refine bA B ?_;simp;refine bA x ?_;by_cases p:w=t.ring.zero
  .rw[decide_eq_true p];rw[aW p]at a;simp[C];refine a _ (aA.to [2,3,4,7,8,9,10] [((2,0),2),((3,0),3),((4,0),4),((7,0),7),((8,0),8)] ?_);simp[yh,aD,zTT,b]
  .rw[decide_eq_false p];rw[aY p]at a;simp[C,eS];refine⟨by omega,a _ (aA.to [2,3,4,7,8,9,10] [((2,0),2),((3,0),3),((4,0),4),((7,0),7),((62,0),8)] ?_)⟩;simp[yh,aD,zTT,b]
 .have:j=d:=by omega
  subst this;simp[g.pn,yh,aD,b,zTT];refine o _ _ ?_;simpa[yh,aD,zTT,b]using W
def Vf{t u:GTrans}{M:c4 t.ring}(B:dM M){n d b:Nat}(hn:n+n+1<=M.lim)(D:∀ w∈t.aU,w.aQ t.ring/\M.mb n w)(E:∀ w∈u.aU,w.aQ t.ring/\M.mb n w)(G:t.aU.length=d)(a:t.st=d)(r:u.aU.length=b)(s:u.st=b)(K:d<=100)(z:b<=1000)
  {Q:Exit->St->Prop} {ks:List Kt} {st:St} (x:aA st (y4 t u [] 0))
  (y:gI P 213 Q (fS 0 ks) 0 (y4 t u (kU t u b [] d) d)):vL P 213 Q g.po ks st:=by
 refine cQ (S:=λk:Nat=>y4 t u (kU t u b [] k) k) (I:=λk=>k<=d) (m:=λk=>d - k) 0 x (by omega) ?_;rintro k N R l H o;have C:=bH k;by_cases p:k<d
 .have j:∀ f,aA f (y4 t u (qH t u (kU t u b [] k) k b) (k+1))->R .normal f:=λf h=>l (k+1) f (by rw[NP];exact h) (by omega) (by omega);have A:=RW t u b k;have F:k*b<=100*1000:=mS (by omega) z;generalize kU t u b [] k=O at *
  have i:=λQ ks st x y=>Ve B hn D E r s z (L:=O) (by omega) (k:=k) (by omega) (Q:=Q) (ks:=ks) (st:=st) x y;clear l o H;simp[g.po,y4,aD,a,p,zTT];refine i _ _ _ (aA.to [2,3,4,7,8,9,10] [((2,0),2),((3,0),3),((4,0),4),((7,0),7),((8,0),8)] ?_) ?_
  .simp[yh,aD,zTT,a]
  generalize qH t u O k b=J at *
  simp[gI,fS,yh,aD,zTT,C,a];refine j _ (aA.to [2,3,4,7,8,9] [((2,0),2),((3,0),3),((4,0),4),((7,0),7),((8,0),8)] ?_);simp[y4,aD,zTT,a]
 .have:k=d:=by omega
  subst this;simp[g.po,y4,aD,a,zTT];refine o _ _ ?_;simpa[y4,aD,zTT,a]using y
end Go.Ab
namespace Go.Ab
def Rp(a:List Int):¬ a<a:=pN a
def yav{a b:List Int}(h:a<b):¬ b<a:=λk=>pN a (Ba h k)
theorem O5{α : Type}{key : α -> List Int}:∀ {a b:List α},eI key a->eI key b->(∀ x,x∈a ↔ x∈b)->a=b
 | [],[],_,_,_=>rfl
 | [],y::b,_,_,h=>absurd ((h y).2 (by simp)) (by simp)
 | x::a,[],_,_,h=>absurd ((h x).1 (by simp)) (by simp)
 | x::a,y::b,n,o,h=>by
  obtain⟨j,l⟩:=mM.1 n;obtain⟨k,m⟩:=mM.1 o;have e:x=y:=by
   obtain d|d:=bY.1 ((h x).1 (by simp))
   .exact d
   .obtain i|i:=bY.1 ((h y).2 (by simp))
    .exact i.symm
    .exact absurd (k _ d) (yav (j _ i))
  subst e;rw[O5 l m λz=>?_];constructor
  .intro f;obtain rfl|d:=bY.1 ((h z).1 (by simp[f]))
   .exact absurd (j _ f) (Rp _)
   .exact d
  .intro f;obtain rfl|d:=bY.1 ((h z).2 (by simp[f]))
   .exact absurd (k _ f) (Rp _)
   .exact d
theorem OH{α : Type}{key : α -> List Int}{x : α}:∀ {s:List α},eI key s->(∀ y∈s,key y≠key x)->eI key (eo key s x)
 | [],_,_=>List.pairwise_singleton _ _
 | z::r,h,f=>by
  obtain⟨d,i⟩:=mM.1 h;unfold eo;split
  .rename_i a;refine mM.2 ⟨λy b=>?_,h⟩;obtain rfl|b:=bY.1 b
   .exact a
   .exact Ba a (d _ b)
  .rename_i a;refine mM.2 ⟨λy b=>?_,OH i λy b=>f y (by simp[b])⟩;obtain rfl|b:=J7.1 b
   .obtain h|h|h:=AN (key z) (key y)
    .exact h
    .exact absurd h (f z (by simp))
    .exact absurd h a
   .exact d _ b
def Kg(L:List aI)(all:List kC):eI aI.key (rY L all)/\∀ x,x∈rY L all ↔ (∃ r∈all,r.m.t=x)/\x∉L:=by
 have:∀ (all:List kC) (a:List aI),eI aI.key a->eI aI.key (all.foldl (λb x=>wH L b x.m.t) a)/\∀ x,x∈all.foldl (λb x=>wH L b x.m.t) a ↔ x∈a\/(∃ r∈all,r.m.t=x)/\x∉L:=by
  intro all
  induction all with
  | nil=>intro a h;exact⟨h,λx=>by simp⟩
  | cons r all p =>
   intro a h;have k:eI aI.key (wH L a r.m.t):=by
    unfold wH;split
    .exact h
    .rename_i d;refine OH h λy l e=>d (.inr ?_);rw[<- JK.2 e];exact l
   obtain⟨n,o⟩:=p _ k;refine⟨n,λx=>(o x).trans ?_⟩;have j:x∈wH L a r.m.t ↔ x∈a\/(x=r.m.t/\x∉L):=by
    unfold wH;split
    .rename_i d;constructor
     .exact .inl
     .rintro(h|⟨rfl,h⟩)
      .exact h
      .exact d.resolve_left h
    .rename_i d;rw[J7];constructor
     .rintro(rfl|h)
      .exact .inr ⟨rfl,λh=>d (.inl h)⟩
      .exact .inl h
     .rintro(h|⟨rfl,_⟩)
      .exact .inr h
      .exact .inl rfl
   rw[j];constructor
   .rintro((h|⟨rfl,h⟩)|⟨⟨q,hq,rfl⟩,h⟩)
    .exact .inl h
    .exact .inr ⟨⟨r,by simp,rfl⟩,h⟩
    .exact .inr ⟨⟨q,by simp[hq],rfl⟩,h⟩
   .rintro(h|⟨⟨q,hq,rfl⟩,h⟩)
    .exact .inl (.inl h)
    .obtain rfl|hq:=bY.1 hq
     .exact .inl (.inr ⟨rfl,h⟩)
     .exact .inr ⟨⟨q,hq,rfl⟩,h⟩
 obtain⟨f,i⟩:=this all [] List.Pairwise.nil;exact⟨f,λx=>(i x).trans (by simp)⟩
theorem VX{L:List aI}:∀ (ms:List eL),jP eL.key ms->∃ N,ms.foldl (λL m=>dS L m.t) L=L++N/\eI aI.key N/\∀ x,x∈N ↔ (∃ m∈ms,m.t=x)/\x∉L:=by
 intro ms;generalize d:ms.length=n
 induction n generalizing ms with
 | zero =>
  intro _;rw[qV d];exact⟨[],by simp,List.Pairwise.nil,λx=>by simp⟩
 | succ n r =>
  intro p;obtain rfl|⟨ms,m,rfl⟩:=Fz ms
  .simp at d
  rw[B3]at *
  obtain⟨f,_,i⟩:=List.pairwise_append.1 p;obtain⟨N,e,j,b⟩:=r ms (by simpa using d) f;rw[List.foldl_append,e];simp only[List.foldl_cons,List.foldl_nil];by_cases a:m.t∈L++N
  .refine⟨N,aW a,j,λx=>(b x).trans ?_⟩;constructor
   .rintro⟨⟨q,hq,rfl⟩,h⟩;exact⟨⟨q,by simp[hq],rfl⟩,h⟩
   .rintro⟨⟨q,hq,rfl⟩,h⟩;obtain hq|hq:=dT.1 hq
    .exact⟨⟨q,hq,rfl⟩,h⟩
    .rw[jF]at hq;subst hq;exact(b _).1 ((dT.1 a).resolve_left h)
  .refine⟨N++[m.t],?_,?_,λx=>?_⟩
   .rw[dS,aY a,uK]
   .refine vy.2 ⟨j,List.pairwise_singleton _ _,λy k z l=>?_⟩;rw[jF]at l;subst l;obtain⟨⟨q,hq,rfl⟩,_⟩:=(b y).1 k;have o:¬ m.t.key<q.t.key:=i q hq m (by simp);obtain h|h|h:=AN q.t.key m.t.key
    .exact h
    .rw[<- JK.2 h]at a;exact absurd (List.mem_append_right L k) a
    .exact absurd h o
   .rw[dT,b,jF];constructor
    .rintro(⟨⟨q,hq,rfl⟩,h⟩|rfl)
     .exact⟨⟨q,by simp[hq],rfl⟩,h⟩
     .exact⟨⟨m,by simp,rfl⟩,λh=>a (BZ _ h)⟩
    .rintro⟨⟨q,hq,rfl⟩,h⟩;obtain hq|hq:=dT.1 hq
     .exact .inl ⟨⟨q,hq,rfl⟩,h⟩
     .rw[jF]at hq;subst hq;exact .inr rfl
theorem Sw{x:aI}:∀ {A:List aI} (B:List aI) {i:Nat},x∈A->gO x (A++B) i=gO x A i
 | y::A,B,i,h=>by
  simp only[xq,gO];split
  .rfl
  .rename_i a;exact Sw B ((bY.1 h).resolve_left a)
def Te{x:aI}{L:List aI}(h:x∈L):nZ x L=(lZ x L:Nat):=by unfold nZ;rw[Jh h]
theorem Sa(s:Nat)(ms:List eL):∀ X:List aI × List aC,(iU s X ms).1=ms.foldl (λL m=>dS L m.t) X.1:=by
 induction ms with
 | nil=>intro X;rfl
 | cons m ms a=>intro X;exact a _
theorem SG:∀ (ms:List eL) (L:List aI),∃ N,ms.foldl (λL m=>dS L m.t) L=L++N/\∀ m∈ms,m.t∈L++N
 | [],L=>⟨[],by simp,by simp⟩
 | m::ms,L=>by
  obtain⟨N,e,h⟩:=SG ms (dS L m.t);obtain⟨a,d⟩:∃ a,dS L m.t=L++a:=by
   unfold dS;split
   .exact⟨[],by simp⟩
   .exact⟨_,rfl⟩
  have b:=GO L m.t;refine⟨a++N,?_,?_⟩
  .show ms.foldl _ (dS L m.t)=_;rw[e,d,uK]
  .intro q hq;rw[<- List.append_assoc,<- d];obtain rfl|hq:=bY.1 hq
   .exact BZ _ b
   .exact h q hq
theorem yd4(s:Nat)(ms:List eL):∀ X:List aI × List aC,(iU s X ms).2=X.2++ms.map λm=>⟨s,m.i,m.o,nZ m.t (iU s X ms).1,m.w⟩:=by
 induction ms with
 | nil=>intro X;simp[iU]
 | cons m ms f =>
  intro X;have e:=f (vI s X m);show(iU s (vI s X m) ms).2=X.2++(m::ms).map λq=>⟨s,q.i,q.o,nZ q.t (iU s (vI s X m) ms).1,q.w⟩;rw[e,jH];obtain⟨N,a,_⟩:=SG ms (dS X.1 m.t);have b:(iU s (vI s X m) ms).1=dS X.1 m.t++N:=by rw[Sa];exact a
  have d:nZ m.t (iU s (vI s X m) ms).1=(lZ m.t (dS X.1 m.t):Nat):=by rw[b,Te (BZ _ (GO _ _))];unfold lZ;rw[Sw N (GO _ _)]
  rw[d];simp[vI]
theorem Hr{α β : Type}{f g : α -> List β}:∀ {l:List α},(∀ x∈l,f x=g x)->l.flatMap f=l.flatMap g
 | [],_=>rfl
 | x::l,h=>by rw[jG,jG,h x (by simp),Hr λy a=>h y (by simp[a])]
theorem Hs{α β : Type}(p : α -> Bool)(f : α -> List β):∀ l:List α,(l.filter p).flatMap f=l.flatMap λx=>if p x=true then f x else[]
 | []=>rfl
 | x::l=>by rw[jG,<- Hs p f l,DN];split<;>simp
theorem Yn{t u:GTrans}(n:∀ x∈t.aE,0<=x.o/\x.w≠t.ring.zero)(hu:∀ y∈u.aE,y.w≠t.ring.zero)(a:aI):mK t u a=(sH t u a).map kC.mk:=by
 unfold mK sH tM ma;rw[v7,qY,Hs,Hs,List.filter_flatMap,List.filter_flatMap,List.map_flatMap,List.map_flatMap]
 congr 1
 .refine Hr λx r=>?_;obtain⟨s,l⟩:=n x r;unfold pT;by_cases k:x.f=a.p
  .rw[aW k,aW (by simp[k])];unfold qM ma;rw[v7,qY,Hs,List.filter_flatMap,List.map_flatMap]
   congr 1
   .unfold Ac uO;split
    .simp[l]
    .rfl
   .refine Hr λy m=>?_;unfold rT;by_cases d:y.f=a.q
    .rw[aW (show decide (y.f=a.q)=true by simp[d])];unfold pU;by_cases b:x.o=y.i/\(x.o≠0\/a.f=0)
     .rw[aW b];by_cases j:t.ring.times x.w y.w=t.ring.zero
      .rw[aY λh=>h.2.2.2 j];simp[j]
      .rw[aW ⟨d,b.1,b.2.imp (λh=>by omega) id,j⟩];simp[j]
     .rw[aY b,aY λh=>b ⟨h.2.1,h.2.2.1.imp (λh=>by omega) id⟩];rfl
    .rw[aY λh=>d h.1,aY (by simp[d])];rfl
  .rw[aY k,aY (by simp[k])];rfl
 .refine Hr λy m=>?_;have l:=hu y m;unfold rS rz;by_cases d:y.f=a.q
  .rw[aW (show decide (y.f=a.q)=true by simp[d])];by_cases b:y.i=0/\a.f≠1
   .rw[aW b,aW ⟨d,b⟩];simp[l]
   .rw[aY b,aY λh=>b h.2];rfl
  .rw[aY λh=>d h.1,aY (by simp[d])];rfl
def ydp{t u:GTrans}(h:∀ a,mK t u a=(sH t u a).map kC.mk)(s:Nat){X X':List aI × List aC}(j:X.1=X'.1)(k:X.2.Perm X'.2) :
  (vV t u s X).1=(uD t u s X').1/\(vV t u s X).2.Perm (uD t u s X').2:=by
 obtain⟨L,K⟩:=X;obtain⟨C,B⟩:=X';simp only at j k;subst j;unfold vV uD;simp only;rw[h];generalize sH t u (L.getD s ⟨0,0,0⟩)=b;have i:(b6 eL.key b).Perm b:=Ks b;have y:jP eL.key (b6 eL.key b):=(iQ b).1;obtain⟨N,l,n,o⟩:=VX (L:=L) (b6 eL.key b) y;obtain⟨z,A⟩:=Kg L (b.map kC.mk);have p:N=rY L (b.map kC.mk):=O5 n z λx=>by
  rw[o,A];constructor
  .rintro⟨⟨m,f,rfl⟩,h⟩;exact⟨⟨⟨m⟩,cD.2 ⟨m,i.mem_iff.1 f,rfl⟩,rfl⟩,h⟩
  .rintro⟨⟨r,w,rfl⟩,h⟩;obtain⟨m,f,rfl⟩:=cD.1 w;exact⟨⟨m,i.mem_iff.2 f,rfl⟩,h⟩
 have d:(iU s (L,K) (b6 eL.key b)).1=L++rY L (b.map kC.mk):=by rw[Sa];exact l.trans (by rw[p])
 refine⟨d,?_⟩;rw[yd4,d,yI];exact k.append (i.map _)
theorem Tt{t u:GTrans}(h:∀ a,mK t u a=(sH t u a).map kC.mk){X X':List aI × List aC}(d:X.1=X'.1)(f:X.2.Perm X'.2):∀ s,(dG t u X s).1=(cI t u X' s).1/\(dG t u X s).2.Perm (cI t u X' s).2
 | 0=>⟨d,f⟩
 | s+1=>by
  obtain⟨b,i⟩:=Tt h d f s;simp only[dG,cI];rw[<- b];split
  .exact ydp h s b i
  .exact⟨b,i⟩
theorem Tx{t u:GTrans}{L:List aI}{k:Nat}(d:∀ y∈L,y.p<k):∀ j,qP t u L k j=qH t u L k j/\∀ y∈qH t u L k j,y.p<k\/(y.p=k/\y.q<j)
 | 0=>⟨rfl,λy a=>.inl (d y a)⟩
 | j+1=>by
  obtain⟨f,b⟩:=Tx d j;have e:qH t u L k (j+1)=Ad t u k (qH t u L k j) j:=by simp[qH,vZ]
  rw[JV,e,f];unfold Gf Ad;split
  .exact⟨rfl,λy a=>by obtain h|h:=b y a<;>omega⟩
  .have l:(⟨k,j,0⟩:aI)∉qH t u L k j:=λi=>by obtain h|⟨_,h⟩:=b _ i<;>simp at h
   refine⟨aY l,λy a=>?_⟩;obtain a|a:=dT.1 a
   .obtain h|h:=b y a<;>omega
   .rw[jF]at a;subst a;refine .inr ⟨rfl,?_⟩;simp only;omega
theorem Tw(t u:GTrans):∀ k,jN t u [] k=kU t u u.aU.length [] k/\∀ y∈kU t u u.aU.length [] k,y.p<k
 | 0=>⟨rfl,λy a=>by cases a⟩
 | k+1=>by
  obtain⟨b,d⟩:=Tw t u k;have e:kU t u u.aU.length [] (k+1)=qH t u (kU t u u.aU.length [] k) k u.aU.length:=by simp[kU,vZ]
  rw[JU,e,b];obtain⟨f,i⟩:=Tx (t:=t) (u:=u) d u.aU.length;exact⟨f,λy a=>by obtain h|h:=i y a<;>omega⟩
end Go.Ab
