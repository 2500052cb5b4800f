/- Lemmas for the law ProjectApplies, part 17. No conditions. -/
import Derived.Test.YthhdboljpgdcpaaGreatDoorCP16
set_option maxRecDepth 100000
set_option maxHeartbeats 4000000
set_option linter.all false
namespace Go.Ab
open Enc (enc)
def Cr(e:Ex):List PV:=[.int .i64 e.a,.int .i64 e.b,.int .i64 e.c]
theorem R6(e:Ex):enc e=.agg (Cr e):=rfl
def R7(e a:Ex):tD (Cr e) (Cr a)=true ↔ e=a:=by cases e;cases a;simp[Cr,tD]
def zR:aT:=⟨false,[],[]⟩
def tK(e:Ex)(L:List (Ex × aT)):aT:=(jZ e L).getD zR
def lJ(m:aF)(L:List (Ex × aT)):List (Ex × aT):=kQ m.e (cR ((tK m.e L).v+m.bE.v)) L
theorem ME(l:List UInt32):jR (ens l)=true:=by rw[zZ];intro v a;obtain⟨x,_,rfl⟩:=cA.1 a;rfl
theorem Ik(L:List (Ex × aT)):jR (n3 L)=true:=by rw[zZ];intro v a;obtain⟨x,_,rfl⟩:=cA.1 a;rfl
def Il(L:List (Ex × aT)):jR (pD L)=true:=by rw[zZ];intro v a;obtain⟨x,_,rfl⟩:=cA.1 a;show(PV.agg [.bool x.2.neg,.sl (ens x.2.num),.sl (ens x.2.den)]).cN=true;simp[PV.cN,jR,ME]
def Lr{e:Ex}(h:e.ok=true):kA (List.replicate 3 .i64) (Cr e)=true:=by simp only[Ex.ok,decide_eq_true_eq]at h;simp[Cr,kA,List.replicate,Lit.wf,IntKind.min,IntKind.max,IntKind.signed,IntKind.bits];omega
def QV{L:List (Ex × aT)}(h:∀ p∈L,p.1.ok=true):(n3 L).all (sA (List.replicate 3 .i64))=true:=by simp only[k8];intro v a;obtain⟨x,b,rfl⟩:=cA.1 a;exact Lr (h x b)
def Km(r:Nat)(a b:List PV)(d:Exit)(s:St)(B:Option FA):Prop:=(d=.normal\/d=.ret)/\(B=some (sN r a b)\/(B=some (xz r)/\s.get 0=.p (.mp r a b)))
theorem Mr(m:aF)(L:List (Ex × aT))(n:m.e.ok=true)(x:m.bE.sm 1048576)(k:∀ p∈L,p.1.ok=true/\p.2.sm 1048576) :
  DH P 291 (n3 L) (pD L) [enc m.e,enc m.bE] (n3 (lJ m L)) (pD (lJ m L)):=by
 refine DH.fZ c.b7 (by simp) λr=>?_;show MR P _ _ _ _ (Km r (n3 (lJ m L)) (pD (lJ m L)));have o:=n;simp only[Ex.ok,decide_eq_true_eq]at o;unfold g.b7;refine MR.dG ?_;simp;refine MR.dG ?_;simp;refine bA (MG m.e ⟨⟨by omega,by omega⟩,⟨by omega,by omega⟩,by omega,by omega⟩) rfl ?_;simp;refine MR.eY (t:=true) (by simp;omega) (λ_=>?_) (λh=>by cases h);refine MR.yW rfl (by decide) ?_;have a:=RA R6 R7 m.e L;have b:=Q9 R6 R7 m.e (cR ((tK m.e L).v+m.bE.v)) L;have l:=Lr n;have i:=QV λp u=>(k p u).1;simp only[Cr,List.replicate]at a l i
 have f:∀ s:St,s.get 9=.p (.mp r (n3 L) (pD L))->s.get 10=.p (.agg (Cr m.e))->s.get 15=.p (enc (cR ((tK m.e L).v+m.bE.v))) ->
   ql P 16 ⟨none,.raw (.mapUpdate 266 (.tmp 9) (.tmp 10) (.tmp 15)),none⟩ s (some (xz r)) λs B=>Km r (n3 (lJ m L)) (pD (lJ m L)) .normal s B:=λs y z A=>by
  refine VP (d:=none) ty.map ty.key ty.int ty.cells ty.cell ty.size y z A (QV λp u=>(k p u).1) (Lr n) ?_ ?_ ?_
  .rw[b];exact Ik _
  .rw[b];exact Il _
  .rw[b];exact⟨.inl rfl,.inl rfl⟩
 cases j:jZ m.e L with
 | none =>
  rw[j]at a;have w:tK m.e L=zR:=by simp[tK,j]
  simp[a,l,i];rw[w]at f;refine bA (FJ zR m.bE ⟨by simp[zR],by simp[zR]⟩ x) rfl ?_;simp;exact f _ rfl rfl rfl
 | some c =>
  rw[j]at a;have w:tK m.e L=c:=by simp[tK,j]
  rw[w]at f;simp[a,l,i];refine bA (FJ c m.bE (k _ (TB j)).2 x) rfl ?_;simp;exact f _ rfl rfl rfl
end Go.Ab
namespace Go.Ab
open Enc (enc)
attribute [local simp] iJ bP.aY
def Pm(x y:UInt64):Bx .u64 x.toNat y.toNat=((x &&& y).toNat:Int):=by rw[yc0 x.toNat_lt y.toNat_lt,UInt64.toNat_and]
def iB(k:Int)(v w:GW):GW :=
 if k=1\/k=3 then .mk (cR (v.q.v*w.q.v)) 0 false 0 [] []
 else if k=2 then if v.inf=true\/w.inf=true\/1099511627776<v.cost+w.cost then .mk dP 0 true 0 [] []else .mk dP (v.cost+w.cost) false 0 [] []
 else if k=4 then .mk dP 0 false (v.set &&& w.set) [] []
 else .mk dP 0 false 0 (gE v.aR w.aR) []
def WB(v w:GW)(b:v.sm 1048576)(d:w.sm 1048576)(i:v.aJ ⟨1,[]⟩)(j:w.aJ ⟨1,[]⟩):zS 32 [enc (⟨1,[]⟩:aC),enc v,enc w] (enc (iB 1 v w)):=by have a:(⟨1,[]⟩:aC).ok=true:=tO (by omega);have k:v.tk ⟨1,[]⟩=v:=aX i;have l:w.tk ⟨1,[]⟩=w:=aX j;have f:=lQ ⟨1,[]⟩ v b;have h:=lQ ⟨1,[]⟩ w d;rw[k]at f;rw[l]at h;refine Sp.vz c.aa λ_=>?_;simp[g.aa];refine bA (oG ⟨1,[]⟩) rfl ?_;simp[a];refine aW f ?_;simp;refine aW h ?_;simp;refine bA (KB v.q w.q b.q d.q) rfl ?_;simp[iB]
def WD(v w:GW)(b:v.sm 1048576)(d:w.sm 1048576)(i:v.aJ ⟨3,[]⟩)(j:w.aJ ⟨3,[]⟩):zS 32 [enc (⟨3,[]⟩:aC),enc v,enc w] (enc (iB 3 v w)):=by have a:(⟨3,[]⟩:aC).ok=true:=tO (by omega);have k:v.tk ⟨3,[]⟩=v:=aX i;have l:w.tk ⟨3,[]⟩=w:=aX j;have f:=lQ ⟨3,[]⟩ v b;have h:=lQ ⟨3,[]⟩ w d;rw[k]at f;rw[l]at h;refine Sp.vz c.aa λ_=>?_;simp[g.aa];refine bA (oG ⟨3,[]⟩) rfl ?_;simp[a];refine aW f ?_;simp;refine aW h ?_;simp;refine bA (KB v.q w.q b.q d.q) rfl ?_;simp[iB]
def WC(v w:GW)(m:v.sm 1048576)(n:w.sm 1048576)(f:v.aJ ⟨2,[]⟩)(h:w.aJ ⟨2,[]⟩):zS 32 [enc (⟨2,[]⟩:aC),enc v,enc w] (enc (iB 2 v w)):=by
 have d:(⟨2,[]⟩:aC).ok=true:=tO (by omega);have o:v.tk ⟨2,[]⟩=v:=aX f;have p:w.tk ⟨2,[]⟩=w:=aX h;have j:=lQ ⟨2,[]⟩ v m;have k:=lQ ⟨2,[]⟩ w n;rw[o]at j;rw[p]at k;refine Sp.vz c.aa λ_=>?_;simp[g.aa];refine bA (oG ⟨2,[]⟩) rfl ?_;simp[d];refine aW j ?_;simp;refine aW k ?_;simp;have r:=pY.1 (f.2.1 (by simp));have s:=pY.1 (h.2.1 (by simp));have l:IntKind.i64.wrap (v.cost+w.cost)=v.cost+w.cost:=cT;obtain a|a:=iK v.inf
 .simp[iB,a]
 obtain b|b:=iK w.inf
 .simp[iB,a,b]
 simp[iB,a,b,l];refine⟨λi=>by simp[i],λi=>by simp[show ¬ 1099511627776<v.cost+w.cost by omega]⟩
def WE(v w:GW)(i:v.sm 1048576)(j:w.sm 1048576)(f:v.aJ ⟨4,[]⟩)(h:w.aJ ⟨4,[]⟩):zS 32 [enc (⟨4,[]⟩:aC),enc v,enc w] (enc (iB 4 v w)):=by have a:(⟨4,[]⟩:aC).ok=true:=tO (by omega);have k:v.tk ⟨4,[]⟩=v:=aX f;have l:w.tk ⟨4,[]⟩=w:=aX h;have b:=lQ ⟨4,[]⟩ v i;have d:=lQ ⟨4,[]⟩ w j;rw[k]at b;rw[l]at d;refine Sp.vz c.aa λ_=>?_;simp[g.aa];refine bA (oG ⟨4,[]⟩) rfl ?_;simp[a];refine aW b ?_;simp;refine aW d ?_;simp;simp[iB,Pm]
def WG(v w:GW)(s:v.sm 1048576)(t:w.sm 1048576)(j:v.aJ ⟨5,[]⟩)(k:w.aJ ⟨5,[]⟩)(D b B d:Nat)(p:lU D B v.aR)(r:lU b d w.aR)(f:D≠0)(a:b≠0)(m:D*b<4294967296^1048576)(l:46656*(B*d)<4294967296^1048576)(hs:fP v.aR 524288)(i:fP w.aR 524288):zS 32 [enc (⟨5,[]⟩:aC),enc v,enc w] (enc (iB 5 v w)):=by have u:=yf2 v.aR w.aR D b B d (BA j) (BA k) p r f a m l hs i;clear m l;have h:(⟨5,[]⟩:aC).ok=true:=tO (by omega);have x:v.tk ⟨5,[]⟩=v:=aX j;have y:w.tk ⟨5,[]⟩=w:=aX k;have n:=lQ ⟨5,[]⟩ v s;have o:=lQ ⟨5,[]⟩ w t;rw[x]at n;rw[y]at o;refine Sp.vz c.aa λ_=>?_;simp[g.aa];refine bA (oG ⟨5,[]⟩) rfl ?_;simp[h];refine aW n ?_;simp;refine aW o ?_;simp;refine bA u rfl ?_;simp[iB]
structure GW.wb (D B:Nat) (w:GW):Prop where
 q:qb D B w.q.v
 p:lU D B w.aR
end Go.Ab
namespace Go.Ab
open Enc (enc)
def KP(q:Rat):qb q.den q.num.natAbs q:=⟨q.num,(Rat.mkRat_self q).symm,dE _⟩
def QY{n m:Nat}(h:(lb n).length<=m):n<4294967296^m:=iL (uB n) (pV (by omega) h)
def yR{x:aT}{m:Nat}(b:x.sm m)(a:1<=m):x.v.num.natAbs<4294967296^m/\x.v.den<4294967296^m:=by have:=sB b a;exact⟨QY this.1,QY this.2⟩
def P9(n:Nat)(a b:Nat)(d:a<4294967296^n)(f:b<4294967296^n):a+b<4294967296^(n+1):=by
 rw[kJ];generalize 4294967296^n=W at *
 omega
def MJ{x y:aT}{m n:Nat}(u:x.sm m)(w:y.sm n)(t:1<=m)(hn:1<=n):(cR (x.v+y.v)).sm (m+n+1):=by
 obtain⟨i,a⟩:=yR u t;obtain⟨j,b⟩:=yR w hn;have r:=zip y.v.den y.v.den_nz (KP x.v);have d:=zip x.v.den x.v.den_nz (KP y.v);rw[oI y.v.den]at d;have f:x.v.den*y.v.den≠0:=yr2 x.v.den_nz y.v.den_nz;have s:=Hw r d f;have h:∀ k,0<4294967296^k:=λk=>qZ (by omega);have l:x.v.num.natAbs*y.v.den<4294967296^(m+n):=by rw[rN];exact uJ i b
 have o:y.v.num.natAbs*x.v.den<4294967296^(m+n):=by rw[rN,oI];exact uJ a j
 have p:x.v.den*y.v.den<4294967296^(m+n):=by rw[rN];exact uJ a b
 refine JU s f (iL p (pV (by omega) (by omega))) ?_;exact P9 _ _ _ l o
def s4:List aF->Nat
 | []=>1
 | m::p=>m.bE.v.den*s4 p
theorem ya0(p:List aF):s4 p≠0:=by
 induction p with
 | nil=>simp[s4]
 | cons m p a=>exact yr2 m.bE.v.den_nz a
theorem yfm{p:List aF}{n:Nat}(hp:fP p n)(hn:1<=n):s4 p<4294967296^(n*p.length+1):=by
 induction p with
 | nil=>simp[s4]
 | cons m p f =>
  have a:=(yR (hp m (by simp)) hn).2;have b:=f λx d=>hp x (by simp[d]);have:n*(m::p).length+1=n+(n*p.length+1):=by simp[sE];omega
  rw[this,rN];exact uJ a b
def F0{p:List aF}(d:bS p)(e:Ex):pc p e=0\/∃ m∈p,pc p e=m.bE.v:=by
 by_cases h:∃ m∈p,m.e=e
 .obtain⟨m,a,rfl⟩:=h;exact .inr ⟨m,a,Hu d a⟩
 .exact .inl (D5 λm a b=>h ⟨m,a,b⟩)
def OI(p:List aF)(e:Ex)(q:Rat):(fS p e q).length<=p.length+1:=by
 rw[Mg];split
 .omega
 .induction p with
  | nil=>simp[pins]
  | cons m p a =>
   simp only[pins];(repeat' split)<;>simp<;>omega
theorem O7(p q:List aF):(eN p q).length<=p.length+q.length:=by
 induction q generalizing p with
 | nil=>simp[eN]
 | cons m q a =>
  have:=a (fS p m.e m.bE.v);have b:=OI p m.e m.bE.v;show(eN (fS p m.e m.bE.v) q).length<=_;simp;omega
def tJ:dP.v=0:=by rw[show dP=cR 0 from yA.symm,kW]
def yfr{p q:List aF}{m n:Nat}(j:bS p)(k:bS q)(hp:fP p m)(B:fP q n)(A:1<=m)(hn:1<=n):fP (eN p q) (m+n+1):=by
 intro x l;have d:=xU q j;have f:=aF.b0.1 ((iA.1 d).1 x l);have z:x.bE.v=pc p x.e+pc q x.e:=by rw[<- Hu d l,zP p (iA.1 k).1]
 rw[<- sx f.2.1,z];have u:∃ a:aT,a.sm m/\a.v=pc p x.e:=by
  obtain h|⟨y,i,h⟩:=F0 j x.e
  .exact⟨dP,yf m,by rw[tJ,h]⟩
  .exact⟨y.bE,hp y i,h.symm⟩
 have w:∃ b:aT,b.sm n/\b.v=pc q x.e:=by
  obtain h|⟨y,i,h⟩:=F0 k x.e
  .exact⟨dP,yf n,by rw[tJ,h]⟩
  .exact⟨y.bE,B y i,h.symm⟩
 obtain⟨a,o,r⟩:=u;obtain⟨b,s,t⟩:=w;rw[<- r,<- t];exact MJ o s A hn
theorem z67(v:Value)(x:AV)(n:Nat)(M:Nat->Option Obj)(st:St)(a:st.get 0=.nil)(b:st.get 1=x)(d:∀ t,st.get (t+2)=.undef)(f:aQ ⟨M,λ_ _=>none,λ_ _=>0⟩ st x v)(t:Nat) :
  aQ ⟨M,λ_ _=>none,λ_ _=>0⟩ st (st.get t) (([.slice none 0 0,v].toArray++Array.replicate n Go.undef).getD t Go.undef):=by
 match t with
 | 0 =>
  have e:([.slice none 0 0,v].toArray++Array.replicate n Go.undef).getD 0 Go.undef=.slice none 0 0:=by simp[Array.getElem?_append]
  rw[a,e];exact .nil
 | 1 =>
  have e:([.slice none 0 0,v].toArray++Array.replicate n Go.undef).getD 1 Go.undef=v:=by simp[Array.getElem?_append]
  rw[b,e];exact f
 | t+2=>rw[d];exact .undef _
def ybp(k:Nat)(b:k<=1073741824):Ht P 343 [.slice none 0 0,.int .i64 k] (.fresh 6 []):=by
 refine Ht.cE (st:=⟨[(0,.nil),(1,.p (.int .i64 k))],[]⟩) c.qc (by simp) rfl (λM t=>z67 _ _ _ M _ rfl rfl (λt=>by simp[St.get,look]) (.p _ _ (.int _ _)) t) ?_;simp[g.qc];have a:IntKind.i64.wrap (k:Int)=k:=cT;simp only[a];refine⟨λh=>⟨⟨by omega,by omega,by omega⟩,by omega,⟨_,aA.Dk (by decide),?_⟩⟩,λh=>⟨_,aA.refl _,?_⟩⟩
 .simp[look]
 .simp[look]
def xT{P:Program}{N:Nat}{st:St}{A:Option FA}{a:St->Option FA->Prop}(b:List (List Nat)){d:List Ins}(h:vm P N (λf s=>f=.normal->a s A) [.ins d b] st):eC P N d st A a:=by obtain⟨n,o,m,j,k,l⟩:=lL _ (Nat.le_refl _) h;have i:eC P N (d++[]) st A a:=.run j ⟨m,k,l rfl⟩;simpa using i
def WZ(p q:List aF)(o:p.length+q.length<=1073741824):Sp P 293 [.sl (ens [p,q])] (.fresh 6 (ens (p++q))):=by
 refine Sp.fZ c.px (by simp) ?_;unfold g.px;have r:IntKind.i64.wrap (0+(p.length:Int))=p.length:=by rw[cL (by omega) (by omega)];omega
 have i:IntKind.i64.wrap ((p.length:Int)+q.length)=((p.length+q.length:Nat):Int):=cT;have j:IntKind.i64.wrap (p.length:Int)=p.length:=cT;generalize n:(λk s (_:Option FA)=>iD [(2,none)] (RV.fresh 6 (ens (p++q))) k s)=f;refine MR.dG ?_;simp;refine MR.dG ?_;simp;refine MR.dG ?_;simp;refine zK λR a d b=>?_;simp[g.sk,j];refine a _ ?_;refine zK λR a d b=>?_;simp[g.sk,i];refine⟨by omega,λ_=>a _ ?_⟩;refine zK λR a d b=>?_;simp[g.sk];refine b _ _ ?_;simp;refine MR.cK (MR.mC (AU 1 [[3,9,10,11]] ?_));simp;refine eC.cons (XA (v:=.own 24 0 0 0) (ybp _ o) (λZ t h=>?_) rfl rfl ?_)
 .cases h with
  | cons _ _ _ _ l h =>
   cases h with
   | cons _ _ _ _ m h =>
    cases h;cases l;cases m.cF;simp
 refine xT [[24]] ?_;simp;clear a d b;subst n;refine MR.cE ?_;simp;refine zK λR a d b=>?_;simp[g.sn];refine⟨by omega,a _ ?_⟩;refine zK λR a d b=>?_;simp[g.sn];refine⟨by omega,a _ ?_⟩;refine zK λR a d b=>?_;simp[g.sn];refine b _ _ ?_;simp
end Go.Ab
