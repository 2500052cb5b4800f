/- Lemmas for the law ComposeBuildsMadeModels, part 28. No conditions. -/
import Derived.Test.YthhdboljpgdcpaaGreatDoorAP27
set_option maxRecDepth 100000
set_option maxHeartbeats 4000000
set_option linter.all false
namespace Go.Ab
open Enc (enc)
def Bp(e:Ex):List PV:=[.int .i64 e.a,.int .i64 e.b,.int .i64 e.c]
theorem Ri(e:Ex):enc e=.agg (Bp e):=rfl
def z67(e a:Ex):tE (Bp e) (Bp a)=true ↔ e=a:=by cases e;cases a;simp[Bp,tE]
def zR:aS:=⟨false,[],[]⟩
def uB(e:Ex)(L:List (Ex × aS)):aS:=(kL e L).getD zR
def nv(m:aF)(L:List (Ex × aS)):List (Ex × aS):=lE m.e (cH ((uB m.e L).v+m.aX.v)) L
theorem Ls(l:List UInt32):jQ (aH l)=true:=by rw[yB];intro v a;obtain⟨x,_,rfl⟩:=cD.1 a;rfl
theorem Ke(L:List (Ex × aS)):jQ (n4 L)=true:=by rw[yB];intro v a;obtain⟨x,_,rfl⟩:=cD.1 a;rfl
def Kf(L:List (Ex × aS)):jQ (o5 L)=true:=by rw[yB];intro v a;obtain⟨x,_,rfl⟩:=cD.1 a;show(PV.agg [.bool x.2.neg,.sl (aH x.2.num),.sl (aH x.2.den)]).cL=true;simp[PV.cL,jQ,Ls]
def J'{e:Ex}(h:e.ok=true):j' (List.replicate 3 .i64) (Bp e)=true:=by simp only[Ex.ok,decide_eq_true_eq]at h;simp[Bp,j',List.replicate,Lit.wf,IntKind.min,IntKind.max,IntKind.signed,IntKind.bits];omega
def P7{L:List (Ex × aS)}(h:∀ p∈L,p.1.ok=true):(n4 L).all (su (List.replicate 3 .i64))=true:=by simp only[kR];intro v a;obtain⟨x,b,rfl⟩:=cD.1 a;exact J' (h x b)
def I'(r:Nat)(a b:List PV)(d:Exit)(s:St)(B:Option FA):Prop:=(d=.normal\/d=.ret)/\(B=some (sL r a b)\/(B=some (wO r)/\s.get 0=.p (.mp r a b)))
theorem Pj(m:aF)(L:List (Ex × aS))(n:m.e.ok=true)(x:m.aX.sm 1048576)(k:∀ p∈L,p.1.ok=true/\p.2.sm 1048576) :
  Cy P 291 (n4 L) (o5 L) [enc m.e,enc m.aX] (n4 (nv m L)) (o5 (nv m L)):=by
 refine Cy.gG c.ck (by simp) λr=>?_;show MR P _ _ _ _ (I' r (n4 (nv m L)) (o5 (nv m L)));have o:=n;simp only[Ex.ok,decide_eq_true_eq]at o;unfold g.ck;refine MR.dD ?_;simp;refine MR.dD ?_;simp;refine bF (Ln m.e ⟨⟨by omega,by omega⟩,⟨by omega,by omega⟩,by omega,by omega⟩) rfl ?_;simp;refine MR.eR (t:=true) (by simp;omega) (λ_=>?_) (λh=>by cases h);refine MR.ya rfl (by decide) ?_;have a:=QP Ri z67 m.e L;have b:=Ql Ri z67 m.e (cH ((uB m.e L).v+m.aX.v)) L;have l:=J' n;have i:=P7 λp u=>(k p u).1;simp only[Bp,List.replicate]at a l i
 have f:∀ s:St,s.get 9=.p (.mp r (n4 L) (o5 L))->s.get 10=.p (.agg (Bp m.e))->s.get 15=.p (enc (cH ((uB m.e L).v+m.aX.v))) ->
   pW P 16 ⟨none,.raw (.mapUpdate 266 (.tmp 9) (.tmp 10) (.tmp 15)),none⟩ s (some (wO r)) λs B=>I' r (n4 (nv m L)) (o5 (nv m L)) .normal s B:=λs y z A=>by
  refine UN (d:=none) ty.map ty.key ty.int ty.cells ty.cell ty.size y z A (P7 λp u=>(k p u).1) (J' n) ?_ ?_ ?_
  .rw[b];exact Ke _
  .rw[b];exact Kf _
  .rw[b];exact⟨.inl rfl,.inl rfl⟩
 cases j:kL m.e L with
 | none =>
  rw[j]at a;have w:uB m.e L=zR:=by simp[uB,j]
  simp[a,l,i];rw[w]at f;refine bF (EM zR m.aX ⟨by simp[zR],by simp[zR]⟩ x) rfl ?_;simp;exact f _ rfl rfl rfl
 | some c =>
  rw[j]at a;have w:uB m.e L=c:=by simp[uB,j]
  rw[w]at f;simp[a,l,i];refine bF (EM c m.aX (k _ (Nt j)).2 x) rfl ?_;simp;exact f _ rfl rfl rfl
end Go.Ab
namespace Go.Ab
open Enc (enc)
attribute [local simp] fX bL.aR
def Oo(x y:UInt64):Ar .u64 x.toNat y.toNat=((x &&& y).toNat:Int):=by rw[yb8 x.toNat_lt y.toNat_lt,UInt64.toNat_and]
def gK(k:Int)(v w:GW):GW :=
 if k=1\/k=3 then .mk (cH (v.q.v*w.q.v)) 0 false 0 [] []
 else if k=2 then if v.inf=true\/w.inf=true\/1099511627776<v.cost+w.cost then .mk dI 0 true 0 [] []else .mk dI (v.cost+w.cost) false 0 [] []
 else if k=4 then .mk dI 0 false (v.set &&& w.set) [] []
 else .mk dI 0 false 0 (fA v.aP w.aP) []
def V4(v w:GW)(b:v.sm 1048576)(d:w.sm 1048576)(i:v.aQ ⟨1,[]⟩)(j:w.aQ ⟨1,[]⟩):zS 32 [enc (⟨1,[]⟩:aB),enc v,enc w] (enc (gK 1 v w)):=by have a:(⟨1,[]⟩:aB).ok=true:=tO (by omega);have k:v.tk ⟨1,[]⟩=v:=aW i;have l:w.tk ⟨1,[]⟩=w:=aW j;have f:=mR ⟨1,[]⟩ v b;have h:=mR ⟨1,[]⟩ w d;rw[k]at f;rw[l]at h;refine Sp.vz c.aa λ_=>?_;simp[g.aa];refine bF (oQ ⟨1,[]⟩) rfl ?_;simp[a];refine bA f ?_;simp;refine bA h ?_;simp;refine bF (Jp v.q w.q b.q d.q) rfl ?_;simp[gK]
def VJ(v w:GW)(b:v.sm 1048576)(d:w.sm 1048576)(i:v.aQ ⟨3,[]⟩)(j:w.aQ ⟨3,[]⟩):zS 32 [enc (⟨3,[]⟩:aB),enc v,enc w] (enc (gK 3 v w)):=by have a:(⟨3,[]⟩:aB).ok=true:=tO (by omega);have k:v.tk ⟨3,[]⟩=v:=aW i;have l:w.tk ⟨3,[]⟩=w:=aW j;have f:=mR ⟨3,[]⟩ v b;have h:=mR ⟨3,[]⟩ w d;rw[k]at f;rw[l]at h;refine Sp.vz c.aa λ_=>?_;simp[g.aa];refine bF (oQ ⟨3,[]⟩) rfl ?_;simp[a];refine bA f ?_;simp;refine bA h ?_;simp;refine bF (Jp v.q w.q b.q d.q) rfl ?_;simp[gK]
def z80(v w:GW)(m:v.sm 1048576)(n:w.sm 1048576)(f:v.aQ ⟨2,[]⟩)(h:w.aQ ⟨2,[]⟩):zS 32 [enc (⟨2,[]⟩:aB),enc v,enc w] (enc (gK 2 v w)):=by
 have d:(⟨2,[]⟩:aB).ok=true:=tO (by omega);have o:v.tk ⟨2,[]⟩=v:=aW f;have p:w.tk ⟨2,[]⟩=w:=aW h;have j:=mR ⟨2,[]⟩ v m;have k:=mR ⟨2,[]⟩ w n;rw[o]at j;rw[p]at k;refine Sp.vz c.aa λ_=>?_;simp[g.aa];refine bF (oQ ⟨2,[]⟩) rfl ?_;simp[d];refine bA j ?_;simp;refine bA k ?_;simp;have r:=oV.1 (f.2.1 (by simp));have s:=oV.1 (h.2.1 (by simp));have l:IntKind.i64.wrap (v.cost+w.cost)=v.cost+w.cost:=b5;obtain a|a:=ju v.inf
 .simp[gK,a]
 obtain b|b:=ju w.inf
 .simp[gK,a,b]
 simp[gK,a,b,l];refine⟨λi=>by simp[i],λi=>by simp[show ¬ 1099511627776<v.cost+w.cost by omega]⟩
def VK(v w:GW)(i:v.sm 1048576)(j:w.sm 1048576)(f:v.aQ ⟨4,[]⟩)(h:w.aQ ⟨4,[]⟩):zS 32 [enc (⟨4,[]⟩:aB),enc v,enc w] (enc (gK 4 v w)):=by have a:(⟨4,[]⟩:aB).ok=true:=tO (by omega);have k:v.tk ⟨4,[]⟩=v:=aW f;have l:w.tk ⟨4,[]⟩=w:=aW h;have b:=mR ⟨4,[]⟩ v i;have d:=mR ⟨4,[]⟩ w j;rw[k]at b;rw[l]at d;refine Sp.vz c.aa λ_=>?_;simp[g.aa];refine bF (oQ ⟨4,[]⟩) rfl ?_;simp[a];refine bA b ?_;simp;refine bA d ?_;simp;simp[gK,Oo]
def VL(v w:GW)(s:v.sm 1048576)(t:w.sm 1048576)(j:v.aQ ⟨5,[]⟩)(k:w.aQ ⟨5,[]⟩)(D b B d:Nat)(p:jU D B v.aP)(r:jU b d w.aP)(f:D≠0)(a:b≠0)(m:D*b<4294967296^1048576)(l:46656*(B*d)<4294967296^1048576)(hs:fR v.aP 524288)(i:fR w.aP 524288):zS 32 [enc (⟨5,[]⟩:aB),enc v,enc w] (enc (gK 5 v w)):=by have u:=Rx v.aP w.aP D b B d (DF j) (DF k) p r f a m l hs i;clear m l;have h:(⟨5,[]⟩:aB).ok=true:=tO (by omega);have x:v.tk ⟨5,[]⟩=v:=aW j;have y:w.tk ⟨5,[]⟩=w:=aW k;have n:=mR ⟨5,[]⟩ v s;have o:=mR ⟨5,[]⟩ w t;rw[x]at n;rw[y]at o;refine Sp.vz c.aa λ_=>?_;simp[g.aa];refine bF (oQ ⟨5,[]⟩) rfl ?_;simp[h];refine bA n ?_;simp;refine bA o ?_;simp;refine bF u rfl ?_;simp[gK]
structure GW.wb (D B:Nat) (w:GW):Prop where
 q:qb D B w.q.v
 p:jU D B w.aP
end Go.Ab
namespace Go.Ab
open Enc (enc)
def JR(q:Rat):qb q.den q.num.natAbs q:=⟨q.num,(Ic q).symm,dK _⟩
def PC{n m:Nat}(h:(lb n).length<=m):n<4294967296^m:=iC (uA n) (pP (by omega) h)
def x5{x:aS}{m:Nat}(b:x.sm m)(a:1<=m):x.v.num.natAbs<4294967296^m/\x.v.den<4294967296^m:=by have:=sq b a;exact⟨PC this.1,PC this.2⟩
def Pp(n:Nat)(a b:Nat)(d:a<4294967296^n)(f:b<4294967296^n):a+b<4294967296^(n+1):=by
 rw[kE];generalize 4294967296^n=W at *
 omega
def XL{x y:aS}{m n:Nat}(u:x.sm m)(w:y.sm n)(t:1<=m)(hn:1<=n):(cH (x.v+y.v)).sm (m+n+1):=by
 obtain⟨i,a⟩:=x5 u t;obtain⟨j,b⟩:=x5 w hn;have r:=C8 y.v.den y.v.den_nz (JR x.v);have d:=C8 x.v.den x.v.den_nz (JR y.v);rw[oH y.v.den]at d;have f:x.v.den*y.v.den≠0:=yE x.v.den_nz y.v.den_nz;have s:=Gk r d f;have h:∀ k,0<4294967296^k:=λk=>qU (by omega);have l:x.v.num.natAbs*y.v.den<4294967296^(m+n):=by rw[rM];exact uG i b
 have o:y.v.num.natAbs*x.v.den<4294967296^(m+n):=by rw[rM,oH];exact uG a j
 have p:x.v.den*y.v.den<4294967296^(m+n):=by rw[rM];exact uG a b
 refine Fw s f (iC p (pP (by omega) (by omega))) ?_;exact Pp _ _ _ l o
def sW:List aF->Nat
 | []=>1
 | m::p=>m.aX.v.den*sW p
theorem yac(p:List aF):sW p≠0:=by
 induction p with
 | nil=>simp[sW]
 | cons m p a=>exact yE m.aX.v.den_nz a
theorem ZR{p:List aF}{n:Nat}(hp:fR p n)(hn:1<=n):sW p<4294967296^(n*p.length+1):=by
 induction p with
 | nil=>simp[sW]
 | cons m p f =>
  have a:=(x5 (hp m (by simp)) hn).2;have b:=f λx d=>hp x (by simp[d]);have:n*(m::p).length+1=n+(n*p.length+1):=by simp[sF];omega
  rw[this,rM];exact uG a b
def Ky{p:List aF}(d:bM p)(e:Ex):pc p e=0\/∃ m∈p,pc p e=m.aX.v:=by
 by_cases h:∃ m∈p,m.e=e
 .obtain⟨m,a,rfl⟩:=h;exact .inr ⟨m,a,z41 d a⟩
 .exact .inl (CW λm a b=>h ⟨m,a,b⟩)
def G7(p:List aF)(e:Ex)(q:Rat):(eP p e q).length<=p.length+1:=by
 rw[Hg];split
 .omega
 .induction p with
  | nil=>simp[pins]
  | cons m p a =>
   simp only[pins];(repeat' split)<;>simp<;>omega
theorem NF(p q:List aF):(eF p q).length<=p.length+q.length:=by
 induction q generalizing p with
 | nil=>simp[eF]
 | cons m q a =>
  have:=a (eP p m.e m.aX.v);have b:=G7 p m.e m.aX.v;show(eF (eP p m.e m.aX.v) q).length<=_;simp;omega
def uZ:dI.v=0:=by rw[show dI=cH 0 from xh.symm,iN]
theorem Wl(v:Value)(x:AV)(n:Nat)(M:Nat->Option Obj)(st:St)(a:st.get 0=.nil)(b:st.get 1=x)(d:∀ t,st.get (t+2)=.undef)(f:aM ⟨M,λ_ _=>none,λ_ _=>0⟩ st x v)(t:Nat) :
  aM ⟨M,λ_ _=>none,λ_ _=>0⟩ st (st.get t) (([.slice none 0 0,v].toArray++Array.replicate n Go.undef).getD t Go.undef):=by
 match t with
 | 0 =>
  have e:([.slice none 0 0,v].toArray++Array.replicate n Go.undef).getD 0 Go.undef=.slice none 0 0:=by simp[Array.getElem?_append]
  rw[a,e];exact .nil
 | 1 =>
  have e:([.slice none 0 0,v].toArray++Array.replicate n Go.undef).getD 1 Go.undef=v:=by simp[Array.getElem?_append]
  rw[b,e];exact f
 | t+2=>rw[d];exact .undef _
def ya2(k:Nat)(b:k<=1073741824):Gi P 343 [.slice none 0 0,.int .i64 k] (.fresh 6 []):=by
 refine Gi.cS (st:=⟨[(0,.nil),(1,.p (.int .i64 k))],[]⟩) c.oh (by simp) rfl (λM t=>Wl _ _ _ M _ rfl rfl (λt=>by simp[St.get,look]) (.p _ _ (.int _ _)) t) ?_;simp[g.oh];have a:IntKind.i64.wrap (k:Int)=k:=b5;simp only[a];refine⟨λh=>⟨⟨by omega,by omega,by omega⟩,by omega,⟨_,aA.Ci (by decide),?_⟩⟩,λh=>⟨_,aA.refl _,?_⟩⟩
 .simp[look]
 .simp[look]
def yw{P:Program}{N:Nat}{st:St}{A:Option FA}{a:St->Option FA->Prop}(b:List (List Nat)){d:List Ins}(h:vm P N (λf s=>f=.normal->a s A) [.ins d b] st):eD P N d st A a:=by obtain⟨n,o,m,j,k,l⟩:=lG _ (Nat.le_refl _) h;have i:eD P N (d++[]) st A a:=.run j ⟨m,k,l rfl⟩;simpa using i
def V5(p q:List aF)(o:p.length+q.length<=1073741824):Sp P 293 [.sl (aH [p,q])] (.fresh 6 (aH (p++q))):=by
 refine Sp.gG c.n7 (by simp) ?_;unfold g.n7;have r:IntKind.i64.wrap (0+(p.length:Int))=p.length:=by rw[cG (by omega) (by omega)];omega
 have i:IntKind.i64.wrap ((p.length:Int)+q.length)=((p.length+q.length:Nat):Int):=b5;have j:IntKind.i64.wrap (p.length:Int)=p.length:=b5;generalize n:(λk s (_:Option FA)=>iG [(2,none)] (RV.fresh 6 (aH (p++q))) k s)=f;refine MR.dD ?_;simp;refine MR.dD ?_;simp;refine MR.dD ?_;simp;refine AE λR a d b=>?_;simp[g.qo,j];refine a _ ?_;refine AE λR a d b=>?_;simp[g.qo,i];refine⟨by omega,λ_=>a _ ?_⟩;refine AE λR a d b=>?_;simp[g.qo];refine b _ _ ?_;simp;refine MR.cN (MR.oo (AR 1 [[3,9,10,11]] ?_));simp;refine eD.cons (z54 (v:=.own 24 0 0 0) (ya2 _ o) (λZ t h=>?_) rfl rfl ?_)
 .cases h with
  | cons _ _ _ _ l h =>
   cases h with
   | cons _ _ _ _ m h =>
    cases h;cases l;cases m.cA;simp
 refine yw [[24]] ?_;simp;clear a d b;subst n;refine MR.cS ?_;simp;refine AE λR a d b=>?_;simp[g.qp];refine⟨by omega,a _ ?_⟩;refine AE λR a d b=>?_;simp[g.qp];refine⟨by omega,a _ ?_⟩;refine AE λR a d b=>?_;simp[g.qp];refine b _ _ ?_;simp
end Go.Ab
