/- Lemmas for the law ComposeBuildsMadeModels, part 37. No conditions. -/
import Derived.Test.YthhdboljpgdcpaaGreatDoorAP36
set_option maxRecDepth 100000
set_option maxHeartbeats 4000000
set_option linter.all false
namespace Go.Ab
open Enc (enc)
structure GW.oU (r:aB) (w:GW):Prop where
 aQ:w.aQ r
 mb:w.mb 1
 pl:w.aP.length<=3
 ps:∀ x∈w.parts,x.aP.length<=3
theorem Tu{k:Int}{w:GW}(hs:w.si k)(h:w.xu 1)(d:w.aP.length<=3):w.sm 3:=by
 have j:=Cl hs;have f:=jJ hs;cases w with
 | mk q c i s p l =>
  have e:l=[]:=hs.1;subst e;have a:q.sm 3:=by
   have:=Fw (n:=3) h.q (SY 1) (by decide) (by decide)
   rwa[show cH (GW.q (GW.mk q c i s p [])).v=q from sK j]at this
  have b:fR p 3:=yo h.p f (SY 1) (by decide) (by decide);exact .mk a b d (by simp) (by simp)
def GW.oU.sm{r:aB}{w:GW}(h:w.oU r):w.sm 3:=by
 by_cases a:r.kind=6
 .obtain⟨l,e,hs⟩:=h.aQ.2.2 a;have hp:=aB.bQ h.aQ.1 a;rw[e];refine .bP (by omega) λx b=>?_;obtain⟨i,hi,rfl⟩:=sQ.1 b;exact Tu (hs i (by omega) hi) (h.mb.ps _ b) (h.ps _ b)
 .exact Tu (h.aQ.2.1 a) h.mb.o h.pl
theorem NL(m:aF):∀ (q o:List aF),(fG m q o).length<=o.length+q.length
 | [],o=>by simp[fG]
 | x::q,o=>by have a:=NL m q (eP o (m.e.add x.e) (m.aX.v*x.aX.v));have b:=G7 o (m.e.add x.e) (m.aX.v*x.aX.v);have e:fG m (x::q) o=fG m q (eP o (m.e.add x.e) (m.aX.v*x.aX.v)):=rfl;rw[e,pQ];omega
def PJ(q:Rat):(qt q).length<=1:=G7 [] _ q
def WQ(v:Int):(Ax v).length<=3:=by
 have b:(eP [] ⟨0,0,0⟩ (Rat.divInt (v % 5 - 2) 3)).length<=1:=G7 [] _ _;unfold Ax;simp only;split
 .refine dP (NF _ _) ?_;have a:=PJ (iW v);have d:(fA (sB (IntKind.i64.wrap (v.tdiv 10) % 3)) (qt (iW v))).length<=1:=by
   unfold sB;split
   .have:=NL ⟨Ex.unit (IntKind.i64.wrap (v.tdiv 10) % 3),cH 1⟩ (qt (iW v)) [];simp only[List.length_nil,qW]at this;exact dP this a
   .exact rK _
  omega
 .omega
def NZ(k v:Int):(rH k v).aP.length<=3:=by
 unfold rH;split
 .exact rK _
 .split
  .split
   .unfold aB.zero;split<;>exact rK _
   .exact rK _
  .split
   .exact rK _
   .split
    .exact rK _
    .exact WQ v
def yap{k:Int}(a:1<=k/\k<=5)(v:Int):(rH k v).parts=[]:=(Lp a v).1.1
def PD{r:aB}(d:r.ok=true)(v:Int):(vR r v).oU r:=by
 have h:=z12 d v;refine⟨h.1,h.2,?_,λx a=>?_⟩
 .unfold vR;split
  .exact rK _
  .exact NZ _ _
 .unfold vR at a;split at a
  .obtain⟨i,_,rfl⟩:=cD.1 (show x∈sA r.parts v r.parts.length from a);exact NZ _ _
  .rename_i f;have b:=aB.cC d f;rw[yap ⟨b.1,b.2.1⟩]at a;cases a
def RG(k:Int)(ps:List GW):(dZ k ps).aP.length<=3:=by
 show(if k=5 then qt 1 else[]).length<=3;split
 .have:=PJ 1;omega
 .exact rK _
def yaf{r:aB}(a:r.ok=true):r.one.oU r:=by
 have h:=yag a;refine⟨h.1,h.2,?_,λx b=>?_⟩
 .unfold aB.one;rw[aW a];exact RG _ _
 .unfold aB.one at b;rw[aW a]at b;obtain⟨k,_,rfl⟩:=cD.1 (show x∈r.parts.map λk=>dZ k [] from b);exact RG _ _
def Xg{r:aB}(a:r.ok=true):r.zero.oU r:=by
 refine⟨xj a,(VW a).mono (by omega),?_,λx b=>?_⟩
 .unfold aB.zero;rw[aW a];exact rK _
 .unfold aB.zero at b;rw[aW a]at b;obtain⟨k,_,rfl⟩:=cD.1 (show x∈r.parts.map nD from b);exact rK _
def WA{r:aB}(a:r.ok=true)(l:List Int)(i:Nat)(one:Int):(tF r l i one).oU r:=by
 unfold tF;split
 .exact PD a _
 .split
  .exact yaf a
  .exact Xg a
structure GTrans.FR (t:GTrans):Prop where
 ok:t.ok
 st:t.st<=3
 al:t.aE.length<=7
 aU:∀ w∈t.aU,w.oU t.ring
 fin:∀ w∈t.fin,w.oU t.ring
 aE:∀ x∈t.aE,x.w.oU t.ring
def P0{r:aB}(a:r.ok=true)(l:List Int)(one:Int)(k:Nat):∀ w∈p' r l one k,w.oU r:=λw b=>by obtain⟨j,_,rfl⟩:=cD.1 b;exact WA a _ _ _
def Qf(m:GModel)(r:aB)(i o s:Int)(d:r.ok=true)(u:1<=i/\i<=32)(y:1<=o/\o<=32)(hs:1<=s/\s<=3):(AD m r i o s).FR:=by
 have G:1<=eH m s/\eH m s<=s:=by have D:=B1 (IntKind.i64.wrap (m.st - 1)) (show s≠0 by omega);have F:=B0 (IntKind.i64.wrap (m.st - 1)) (show 0<s by omega);unfold eH;omega
 have I:(AD m r i o s).aE.length=min 7 (m.aE.length / 4):=Ha ..;have f:∀ x∈(AD m r i o s).aE,inT x (AD m r i o s)/\x.w.oU r:=λx f=>by
  obtain⟨j,_,rfl⟩:=cD.1 (show x∈wV m r i o (eH m s) (min 7 (m.aE.length / 4)) from f);have t:=PD d (m.aE.getD (4*j+3) 0);have g:∀ (a b:Int),0<b->0<=a % b/\a % b<b:=λa b h=>⟨B1 a (by omega),B0 a h⟩;have n:=g (m.aE.getD (4*j) 0) (eH m s) (by omega);have p:=g (m.aE.getD (4*j+2) 0) (eH m s) (by omega);have z:=g (m.aE.getD (4*j+1) 0) (i+1) (by omega);have A:=g (m.aE.getD (4*j+1) 0) i (by omega);have B:=g (nY (m.aE.getD (4*j+1) 0) (i+1)) (o+1) (by omega);have C:=g (nY (m.aE.getD (4*j+1) 0) i) o (by omega);refine⟨⟨n.1,n.2,p.1,p.2,?_,?_,?_,?_,t.aQ⟩,t⟩
  .show 0<=if m.em=true then _ else _
   split<;>omega
  .show(if m.em=true then _ else _)<=i;split<;>omega
  .show 0<=if m.em=true then _ else _
   split<;>omega
  .show(if m.em=true then _ else _)<=o;split<;>omega
 have k:=P0 d m.aU 0 (eH m s).toNat;have l:=P0 d m.fin (eH m s - 1) (eH m s).toNat
 exact⟨⟨d,u,y,by show 0<=eH m s;omega,by show eH m s<=64;omega,by show((p' r m.aU 0 (eH m s).toNat).length:Int)=eH m s;rw[BO];omega,
  by show((p' r m.fin (eH m s - 1) (eH m s).toNat).length:Int)=eH m s;rw[BO];omega,by omega,λx h=>(f x h).1,λw h=>(k w h).aQ,λw h=>(l w h).aQ⟩,by show eH m s<=3;omega,by omega,k,l,λx h=>(f x h).2⟩
def GTrans.FR.sm{t:GTrans}(h:t.FR):t.sm 3:=⟨λw a=>(h.aU w a).sm,λw a=>(h.fin w a).sm,λx b=>(h.aE x b).sm⟩
def Tv{r:aB}(M:c4 r){n:Nat}{l:List aC}(h:∀ x∈l,M.mb n x.w/\x.w.aQ r):∀ x∈cR r l,M.mb (l.length+n) x.w:=λx a=>by
 have f:=iQ (key:=aC.key) l;have b:∀ x∈b6 aC.key l,M.mb n x.w/\x.w.aQ r:=λx a=>h x ((f.2.2 x).1 a)
 have i:=Jm (key:=aC.key) (up:=lv r) (nw:=id) (Q:=λk x=>M.mb (k+n) x.w/\x.w.aQ r) (λk x a=>⟨M.mono a.1 (by omega),a.2⟩) (l:=b6 aC.key l) (λx a=>⟨M.mono (b x a).1 (by show n<=0+n;omega),(b x a).2⟩)
  (λk z x a d=>⟨by have:=M.plus d.2 (b x a).2 d.1 (M.mono (b x a).1 (by omega));exact M.mono this (by omega),(EZ d.2 (b x a).2:(r.plus z.w x.w).aQ r)⟩) (λk x a=>⟨M.mono a.1 (by omega),a.2⟩) _ (dK _)
 rw[fK (dK _),f.2.1]at i;exact(i.2 x (k8.1 a).1).1
def GTrans.jS(t:GTrans):List GW:=t.aU++(t.fin++t.aE.map aC.w)
def ltW{x a b:Nat}(h:x<4294967296^a)(k:a<=b):x<4294967296^b:=iC h (OP k)
def aF.nn(m x:aF):aF:=⟨m.e.add x.e,cH (m.aX.v*x.aX.v)⟩
def mZ(l:List aF):List aF:=l.filter λm=>m.e.ok
def oN(p q:List aF):List aF:=p.flatMap λm=>q.map m.nn
def GB(a b:List aF):mZ (a++b)=mZ a++mZ b:=v7 ..
def LV{l:List aF}:∀ m∈mZ l,m.e.ok=true:=λm h=>(k8.1 h).2
def Y8(m:aF)(e:Ex):pc (mZ [m]) e=if m.e.ok=true/\m.e=e then m.aX.v else 0:=by unfold mZ;cases h:m.e.ok<;>simp[h,pc,pO]
theorem Jv(m:aF):∀ (q o:List aF) (e:Ex),pc (fG m q o) e=pc o e+pc (mZ (q.map m.nn)) e
 | [],o,e=>by simp[fG,mZ,pc,pO]
 | x::q,o,e=>by have h:fG m (x::q) o=fG m q (eP o (m.e.add x.e) (m.aX.v*x.aX.v)):=rfl;rw[h,Jv m q,Ju,jH,show m.nn x::q.map m.nn=[m.nn x]++q.map m.nn from rfl,GB,Dk,Y8,yK];simp only[aF.nn,iN]
theorem NH:∀ (p q o:List aF) (e:Ex),pc (p.foldl (λo m=>fG m q o) o) e=pc o e+pc (mZ (oN p q)) e
 | [],q,o,e=>by simp[oN,mZ,pc,pO]
 | m::p,q,o,e=>by rw[B5,NH p q,Jv,show oN (m::p) q=q.map m.nn++oN p q from rfl,GB,Dk,yK]
def RN(p q:List aF)(e:Ex):pc (fA p q) e=pc (mZ (oN p q)) e:=by have:=NH p q [] e;simpa[fA,pc,Rat.zero_add]using this
def tW(p q:List aF)(i k:Nat):List aF:=mZ (oN (p.take i) q)++mZ ((q.take k).map (p.getD i ⟨⟨0,0,0⟩,dI⟩).nn)
def S5(p q:List aF):tW p q 0 0=[]:=by simp[tW,oN,mZ]
theorem Yd{p q:List aF}{i k:Nat}(a:i<p.length)(b:k<q.length):tW p q i (k+1)=tW p q i k++mZ [p[i].nn q[k]]:=by unfold tW;rw[ed b,qY,GB,uK,eT,dF a];rfl
def XK(p:List aF)(m:aF)(q:List aF):oN (p++[m]) q=oN p q++q.map m.nn:=by simp[oN]
def S6{p q:List aF}{i:Nat}(a:i<p.length):tW p q i q.length=tW p q (i+1) 0:=by unfold tW;rw[ed a,XK,GB,lO,eT,dF a];simp[mZ]
def RR(p q:List aF):tW p q p.length 0=mZ (oN p q):=by simp[tW,mZ]
theorem Y'{p q:List aF}{i k:Nat}(a:i<p.length)(e:Ex):pc (tW p q i k) e=pc (fG p[i] (q.take k) (fA (p.take i) q)) e:=by unfold tW;rw[Dk,Jv,RN,eT,dF a];rfl
def WM{p q:List aF}{L:List (Ex × aS)}(h:jO (mZ (oN p q)) L):(fA p q).Perm (nz L):=by
 have f:∀ m∈nz L,m.ok=true:=λm o=>by obtain⟨t,l⟩:=Jr o;obtain⟨n,x,u,w⟩:=h.mem t;simp only at n w;refine aF.bW.2 ⟨?_,by rw[n];exact sP _,l⟩;rw[<- w];exact LV x u
 let le:aF->aF->Bool:=λa b=>decide (b.e.code<=a.e.code)
 have d:((nz L).mergeSort le).Perm (nz L):=List.mergeSort_perm _ _;have i:((nz L).mergeSort le).Pairwise λa b=>le a b=true:=List.pairwise_mergeSort (λa b c t l=>by simp only[le,decide_eq_true_eq]at *;omega) (λa b=>by simp only[le,B',decide_eq_true_eq];omega) _;have r:(((nz L).mergeSort le).map (·.e)).Nodup:=(d.map _).nodup_iff.2 (Kh h.Bn);have k:bM ((nz L).mergeSort le):=by
  refine iq.2 ⟨λm o=>f m (d.mem_iff.1 o),?_⟩;have l:((nz L).mergeSort le).Pairwise λa b=>a.e≠b.e:=List.pairwise_map.1 r;refine(i.and l).imp_of_mem λ{a b} y z j=>?_;have B:=(aF.bW.1 (f a (d.mem_iff.1 y))).1;have C:=(aF.bW.1 (f b (d.mem_iff.1 z))).1;have n:b.e.code<=a.e.code:=by simpa[le]using j.1
  have u:b.e.code≠a.e.code:=λA=>j.2 ((Ex.mr C B).1 A).symm;omega
 have:fA p q=(nz L).mergeSort le:=by refine GP (xK p q) k λe=>?_;rw[RN,z40 d,yes e h.Bn,h.FO]
 rw[this];exact d
def Un{p:List aF}(h:bM p):p.Pairwise λx y=>y.e.cmp x.e<0:=by have d:=iq.1 h;refine d.2.imp_of_mem λ{a b} f i h=>?_;exact(Ex.mA (aF.bW.1 (d.1 b i)).1 (aF.bW.1 (d.1 a f)).1).2 h
def Tg{p q:List aF}{N i k:Nat}(j:i<p.length)(f:fR (fG p[i] (q.take k) (fA (p.take i) q)) N)(l:bM (fG p[i] (q.take k) (fA (p.take i) q))):∀ x∈qR (tW p q i k) [],x.1.ok=true/\x.2.sm N:=by
 intro x n;obtain⟨a,m,b,d⟩:=(Aj (tW p q i k)).mem n;refine⟨?_,?_⟩
 .rw[<- d];obtain h|h:=dT.1 b
  .exact LV m h
  .exact LV m h
 .rw[a,Y' j];obtain h|⟨y,o,h⟩:=Ky l x.1
  .rw[h,show cH 0=dI from xh];exact CL N
  .rw[h];exact z31 (f y o)
def Ft(m:aF)(L:List (Ex × aS)):List (Ex × aS):=if m.e.ok=true then nv m L else L
def XP(m:aF)(L:List (Ex × aS))(j:(0<=m.e.a/\m.e.a<=10)/\(0<=m.e.b/\m.e.b<=10)/\0<=m.e.c/\m.e.c<=10)(i:m.aX.sm 1048576)(f:∀ p∈L,p.1.ok=true/\p.2.sm 1048576) :
  Cy P 291 (n4 L) (o5 L) [enc m.e,enc m.aX] (n4 (Ft m L)) (o5 (Ft m L)):=by
 unfold Ft;by_cases d:m.e.ok=true
 .rw[aW d];exact Pj m L d i f
 .rw[aY d];refine Cy.gG c.ck (by simp) λr=>?_;show MR P _ _ _ _ (I' r (n4 L) (o5 L));simp only[Ex.ok,decide_eq_true_eq]at d;unfold g.ck;refine MR.dD ?_;simp;refine MR.dD ?_;simp;refine bF (Ln m.e ⟨⟨by omega,by omega⟩,⟨by omega,by omega⟩,by omega,by omega⟩) rfl ?_;simp;refine MR.eR (t:=false) (by simp;omega) (λh=>by cases h) (λ_=>MR.pk ⟨.inl rfl,.inr ⟨rfl,by simp⟩⟩)
def Wy(ms:List aF)(m:aF):qR (ms++mZ [m]) []=Ft m (qR ms []):=by
 unfold Ft;cases h:m.e.ok
 .simp[mZ,h]
 .simp[mZ,h,qR]
structure qJ (p q:List aF):Prop where
 hp:fR p 524288
 hq:fR q 524288
 hm:∀ i k (h:i<p.length),fR (fG p[i] (q.take k) (fA (p.take i) q)) 1048576
def Cp(r:Nat)(p q:List aF)(i:Nat):St:=aD [(1,.p (.sl (aH q))),(5,.p (.fH r)),(14,.p (.sl (aH p))),(15,.p (.int .i64 p.length)),(16,.p (.int .i64 i))] []
def Bl(r:Nat)(p q:List aF)(i:Nat)(m:aF)(k:Nat):St:=aD [(1,.p (.sl (aH q))),(5,.p (.fH r)),(7,.ptr 2 0 0 0),(14,.p (.sl (aH p))),(15,.p (.int .i64 p.length)),(16,.p (.int .i64 i)),(21,.p (.sl (aH q))),(22,.p (.int .i64 q.length)),(23,.p (.int .i64 k))] [(2,⟨6,[.p (enc m)]⟩)]
def Ae(r:Nat)(p q:List aF)(i k:Nat):Option FA:=some (sL r (n4 (qR (tW p q i k) [])) (o5 (qR (tW p q i k) [])))
def puI(r:Nat)(p q:List aF)(n:Nat)(s:St)(B:Option FA):Prop:=∃ i,i<=p.length/\n=p.length - i/\aA s (Cp r p q i)/\B=Ae r p q i 0
def puJ(r:Nat)(p q:List aF)(i:Nat)(m:aF)(n:Nat)(s:St)(B:Option FA):Prop:=∃ k,k<=q.length/\n=q.length - k/\aA s (Bl r p q i m k)/\B=Ae r p q i k
def puE(r:Nat)(p q:List aF)(a:Exit)(s:St)(B:Option FA):Prop:=a=.exit 0/\aA s (Cp r p q p.length)/\B=Ae r p q p.length 0
def puF(r:Nat)(p q:List aF)(i:Nat)(m:aF)(a:Exit)(s:St)(B:Option FA):Prop:=a=.exit 2/\aA s (Bl r p q i m q.length)/\B=Ae r p q i q.length
def Ye(r:Nat)(p q:List aF)(G:bM p)(J:bM q)(h:qJ p q)(M:p.length<=216)(N:q.length<=216){i:Nat}(m:i<p.length){s:St}(w:aA s (Bl r p q i p[i] 0)) :
  MR P 54 (GC.loop g.ru).er s (Ae r p q i 0) (puF r p q i p[i]):=by
 refine MR.nK (I:=puJ r p q i p[i]) q.length ⟨0,by omega,by omega,w,rfl⟩ ?_;rintro O s B ⟨k,K,rfl,w,rfl⟩;refine MR.eg w ?_;unfold g.ru;refine MR.dD ?_;simp[Bl,aD];by_cases j:k<q.length
 .refine MR.cN (MR.eR (t:=true) (by simp[j]) (λ_=>MR.pk ⟨λ_=>?_,λh=>absurd rfl h⟩) (λh=>by cases h));simp;refine MR.cN (MR.kM (MR.dD ?_));simp;refine bK j ?_;refine MR.dD ?_;simp;refine MR.dD ?_;have n:∀ {e:Ex},e.ok=true->(0<=e.a/\e.a<=5)/\(0<=e.b/\e.b<=5)/\0<=e.c/\e.c<=5:=λh=>by rw[Ex.bW]at h;omega
  have Q:=n (aF.bW.1 (G i m).1).1;have R:=n (aF.bW.1 (J k j).1).1;have A:IntKind.i64.wrap (p[i].e.a+q[k].e.a)=p[i].e.a+q[k].e.a:=b5;have C:IntKind.i64.wrap (p[i].e.b+q[k].e.b)=p[i].e.b+q[k].e.b:=b5;have D:IntKind.i64.wrap (p[i].e.c+q[k].e.c)=p[i].e.c+q[k].e.c:=b5;simp;refine jR λu d l f=>?_;simp[g.ph,A];refine d _ ?_;clear d f l;refine jR λu d l f=>?_;simp[g.ph,C];refine d _ ?_;clear d f l;refine jR λu d l f=>?_;simp[g.ph,D];refine d _ ?_;clear d f l;refine jR λu d l f=>?_;simp[g.ph];refine f _ _ ?_;clear d f l;simp;refine MR.ya rfl (by decide) ?_;simp;have x:=aS.sm.mono (h.hp _ (bV m)) (show 524288<=1048576 by omega);have y:=aS.sm.mono (h.hq _ (bV j)) (show 524288<=1048576 by omega);refine bF (z35 p[i].aX q[k].aX x y) rfl ?_;simp;have F:=Tg (k:=k) m (h.hm i k m) (zip _ (xK _ _));refine O7 (args:=[enc (p[i].e.add q[k].e),enc (cH (p[i].aX.v*q[k].aX.v))]) (XP (p[i].nn q[k]) _ ⟨⟨by show 0<=p[i].e.a+q[k].e.a;omega,by show p[i].e.a+q[k].e.a<=10;omega⟩,⟨by show 0<=p[i].e.b+q[k].e.b;omega,by show p[i].e.b+q[k].e.b<=10;omega⟩,by show 0<=p[i].e.c+q[k].e.c;omega,by show p[i].e.c+q[k].e.c<=10;omega⟩ ((PR (h.hp _ (bV m)) (h.hq _ (bV j)) (by omega)).mono (by omega)) F) (by simp[Ex.add]) (Ke _) (Kf _) ?_;simp;refine⟨λ_=>MR.cS ?_,λh=>absurd rfl h⟩;have z:=bH k;simp[z];refine⟨_,?_,k+1,by omega,rfl,aA.to [1,5,7,14,15,16,21,22,23] [((2,0),2)] (by simp[Bl,aD]),?_⟩
  .omega
  .simp only[Ae];rw[Yd m j,Wy]
 .have o:k=q.length:=by omega
  refine MR.cN (MR.eR (t:=false) (by simp[j]) (λh=>by cases h) (λ_=>MR.uP ⟨λh=>(by cases h),λ_=>⟨λh=>(by cases h),λ_=>⟨rfl,?_,?_⟩⟩⟩))
  .exact aA.to [1,5,7,14,15,16,21,22,23] [((2,0),2)] (by simp[Bl,aD,o])
  .rw[o]
theorem OS:∀ p q:List aF,(oN p q).length=p.length*q.length
 | [],q=>by simp[oN]
 | m::p,q=>by rw[show oN (m::p) q=q.map m.nn++oN p q from rfl,gL,rL,OS p q,pQ,yL];omega
def XJ(p q:List aF)(A:bM p)(C:bM q)(h:qJ p q):zS 242 [.sl (aH p),.sl (aH q)] (.sl (aH (fA p q))):=by
 have F:=qS A;have G:=qS C;have y:fR p 1048576:=λm o=>aS.sm.mono (h.hp m o) (by omega);have z:fR q 1048576:=λm o=>aS.sm.mono (h.hq m o) (by omega);refine Sp.gG c.nm (by simp) ?_;unfold g.nm;generalize K:(λl s (_:Option FA)=>iG [(4,none)] (RV.pure (.sl (aH (fA p q)))) l s)=Post;refine MR.dD ?_;simp;refine MR.cN (MR.oo (eD.cons (Lv λr=>?_)));refine yw [[12]] ?_;simp;refine MR.cN (MR.dD ?_);simp;refine bF (Hh p y (by omega)) rfl ?_;simp[yl A];refine MR.kM (MR.mono (MR.nK (Post:=puE r p q) (I:=puI r p q) p.length ⟨0,by omega,by omega,aA.to [1,5,14,15,16] [] (by simp[Cp,aD]),by simp[Ae,S5,qR,n4,o5]⟩ ?_) ?_)
 .rintro R s B ⟨i,Q,rfl,j,rfl⟩;refine MR.eg j ?_;unfold g.uv;refine MR.dD ?_;simp[Cp,aD];by_cases b:i<p.length
  .refine MR.cN (MR.eR (t:=true) (by simp[b]) (λ_=>MR.pk ⟨λ_=>?_,λh=>absurd rfl h⟩) (λh=>by cases h));simp;refine MR.cN (MR.kM (MR.dD ?_));simp;refine bK b ?_;refine MR.dD ?_;simp;refine bF (Hh q z (by omega)) rfl ?_;simp[yl C];refine MR.kM (MR.mono (Ye r p q A C h F G b (aA.to [1,5,7,14,15,16,21,22,23] [((7,0),2)] (by simp[Bl,aD]))) ?_);rintro l s B ⟨rfl,j,rfl⟩;have J:=bH i;refine⟨λ_=>MR.eg j (MR.cS ?_),λh=>absurd rfl h⟩;simp[Bl,aD,J];refine⟨_,?_,i+1,by omega,rfl,aA.to [1,5,14,15,16] [] (by simp[Cp,aD]),?_⟩
   .omega
   .simp only[Ae];rw[S6 b]
  .have f:i=p.length:=by omega
   refine MR.cN (MR.eR (t:=false) (by simp[b]) (λh=>by cases h) (λ_=>MR.uP ⟨λh=>(by cases h),λ_=>⟨λh=>(by cases h),λ_=>⟨rfl,?_,?_⟩⟩⟩))
   .exact aA.to [1,5,14,15,16] [] (by simp[Cp,aD,f])
   .rw[f]
 .rintro l s B ⟨rfl,j,rfl⟩;refine⟨λ_=>?_,λh=>absurd rfl h⟩;have a:=Aj (mZ (oN p q));have w:∀ x∈qR (mZ (oN p q)) [],x.2.sm 1048576:=by
   rw[<- RR];cases u:p.length with
   | zero=>intro x d;rw[S5]at d;cases d
   | succ n =>
    have:=Tg (p:=p) (q:=q) (k:=q.length) (i:=n) (by omega) (h.hm n q.length (by omega)) (zip _ (xK _ _));rw[S6 (by omega)]at this;exact λx d=>(this x d).2
  unfold Ae;rw[RR];refine MR.eg j (MR.freeze (t:=5) rfl ?_);refine MR.cS ?_;subst K;simp[Cp,aD];have u:=qS (xK p q);have D:(mZ (oN p q)).length<=46656:=by
   have M:(oN p q).length=p.length*q.length:=by exact OS p q
   have N:=mS F G;have O:(mZ (oN p q)).length<=(oN p q).length:=nQ _ _;omega
  refine Fi (Qb r (qR (mZ (oN p q)) []) (λx d=>aS.sm.mono (w x d) (by omega)) a.Bn (by have:=a.len;omega) (fA p q) (WM a) (Un (xK p q))) (by simp) ⟨nE _ _ rfl,by decide,by simp[-jE,aH,eS];omega⟩ _ rfl ?_;simp[aJ]
def NO(v w:GW)(a:v.sm 1048576)(b:w.sm 1048576):zS 200 [enc v,enc w] (enc (gK 1 v w)):=by refine Sp.vz c.bp λ_=>?_;simp[g.bp];refine bF (z35 v.q w.q a.q b.q) rfl ?_;simp[gK]
def Vx(v w:GW):zS 228 [enc v,enc w] (enc (gK 4 v w)):=by refine Sp.vz c.du λ_=>?_;simp[g.du,gK,Oo]
def ybp(v w:GW)(h:v.si 2)(i:w.si 2):zS 212 [enc v,enc w] (enc (gK 2 v w)):=by
 refine Sp.vz c.bq λ_=>?_;have j:=oV.1 h;have k:=oV.1 i;have f:IntKind.i64.wrap (v.cost+w.cost)=v.cost+w.cost:=b5;obtain a|a:=ju v.inf
 .simp[g.bq,gK,a,dI]
 obtain b|b:=ju w.inf
 .simp[g.bq,gK,a,b,dI]
 simp[g.bq,gK,a,b,f];refine⟨λd=>by simp[d,dI],λd=>by simp[show ¬ 1099511627776<v.cost+w.cost by omega,dI]⟩
def WO(v w:GW)(a:bM v.aP)(b:bM w.aP)(h:qJ v.aP w.aP):zS 241 [enc v,enc w] (enc (gK 5 v w)):=by refine Sp.vz c.gl λ_=>?_;simp[g.gl];refine bF (XJ v.aP w.aP a b h) rfl ?_;simp[gK,dI]
def Pl(k:Int)(i:1<=k/\k<=5)(v w:GW)(a:v.sm 1048576)(b:w.sm 1048576)(d:v.si k)(f:w.si k)(h:k=5->qJ v.aP w.aP):Sp P (TQ k) [enc v,enc w] (.pure (enc (gK k v w))):=by
 have:k=1\/k=2\/k=3\/k=4\/k=5:=by omega
 obtain rfl|rfl|rfl|rfl|rfl:=this
 .exact NO v w a b
 .exact ybp v w d f
 .have e:gK 3 v w=gK 1 v w:=by rw[gK,gK];simp
  rw[e];exact NO v w a b
 .exact Vx v w
 .exact WO v w (d.2.2.2.2.2.2.2.2 rfl) (f.2.2.2.2.2.2.2.2 rfl) (h rfl)
def VO(r:aB)(v w:GW)(i:v.sm 1048576)(j:w.sm 1048576)(f:v.aQ r)(h:w.aQ r)(d:r.kind≠6)(m:r.kind=5->qJ v.aP w.aP):zS 114 [enc r,enc v,enc w] (enc (gK r.kind v w)):=by have b:=f.1;have a:=aB.cC b d;have o:v.tk r=v:=aW f;have p:w.tk r=w:=aW h;have k:=A4 r v i;have l:=A4 r w j;rw[o]at k;rw[p]at l;refine Sp.vz c.bh λ_=>?_;simp[g.bh];refine bF (BS r) rfl ?_;simp[b];refine bA k ?_;simp;refine bA l ?_;simp[d];obtain⟨x,y,z,A,t,u,n⟩:=zL r.kind ⟨a.1,a.2.1⟩;refine bF (CU r.kind ⟨a.1,a.2.1⟩) rfl ?_;simp[n];refine bA (Pl r.kind ⟨a.1,a.2.1⟩ v w i j (f.2.1 d) (h.2.1 d) m) ?_;simp
def XR(k:Int)(a:1<=k/\k<=5)(v w:GW)(i:Nat)(j:i<v.parts.length)(l:i<w.parts.length)(A:i<=3)(f:v.parts[i].sm 1048576)(h:w.parts[i].sm 1048576)(m:v.parts[i].si k)(o:w.parts[i].si k)(b:k=5->qJ v.parts[i].aP w.parts[i].aP) :
  zS 156 [xA k,.int .i64 i,.ref (enc v),.ref (enc w)] (enc (gK k v.parts[i] w.parts[i])):=by
 obtain⟨u,x,y,z,p,r,d⟩:=zL k a;rw[d];refine Sp.gU c.ji (by simp) ((aA.eU (t:=2) (v:=enc v) (n:=8) (by simp) (by simp)).trans (aA.eU (t:=3) (v:=enc w) (n:=8) (by simp) (by simp))) ?_;simp[g.ji];refine bK j ?_;refine bK l ?_;refine bA (Pl k a v.parts[i] w.parts[i] f h m o b) ?_;simp
def z28(r:aB)(v w:GW)(l:v.sm 1048576)(m:w.sm 1048576)(b:v.aQ r)(f:w.aQ r)(u:r.kind=5->qJ v.aP w.aP)(j:∀ i (h:i<r.parts.length) (n:i<v.parts.length) (C:i<w.parts.length),r.parts[i]=5->qJ v.parts[i].aP w.parts[i].aP) :
  zS 114 [enc r,enc v,enc w] (enc (r.times v w)):=by
 have d:=b.1;by_cases a:r.kind=6;rotate_left
 .have n:r.times v w=gK r.kind v w:=by simp[aB.times,a]
  rw[n];exact VO r v w l m b f a u
 have k:=aB.bQ d a;have A:v.tk r=v:=aW b;have B:w.tk r=w:=aW f;have o:=A4 r v l;have p:=A4 r w m;rw[A]at o;rw[B]at p;have y:=(b.2.2 a).1;have z:=(f.2.2 a).1;have x:(qu r.parts v.parts w.parts).length=r.parts.length:=Fh y z;refine Sp.vz c.bh λ_=>?_;simp[g.bh];refine bF (BS r) rfl ?_;simp[d];refine bA o ?_;simp;refine bA p ?_;simp[a];refine bF (Jx r k.2.2 k.2.1 156 [.ref (enc v),.ref (enc w)] (qu r.parts v.parts w.parts) x λi h t=>?_) ?_ ?_
 .rw[Fg h (by omega) (by omega) t];exact XR r.parts[i] (k.2.2 _ (bV h)) v w i (by omega) (by omega) (by omega) (l.parts _ (bV _)) (m.parts _ (bV _)) ((b.2.2 a).2.2 i h (by omega)) ((f.2.2 a).2.2 i h (by omega)) (j i h (by omega) (by omega))
 .simp[E7,EG,a]
 simp[aB.times,a]
def Z5(p q:List aF)(D d B f:Nat)(hp:bM p)(y:bM q)(z:jU D B p)(A:jU d f q)(j:D≠0)(b:d≠0)(w:D*d<4294967296^1048576)
  (u:46656*(B*f)<4294967296^1048576) (hs:fR p 524288) (n:fR q 524288):qJ p q:=by
 have J:=qS hp;have l:=qS y;have r:=yy z hp;have t:=yy A y;have a:D*d≠0:=yE j b;refine⟨hs,n,λi k h=>?_⟩;have F:=JP (m:=p[i]) (q:=q.take k) (r _ (bV h)) (λx o=>t x (jA o)) (EL (p:=p.take i) (λx o=>r x (jA o)) t a) a;refine yo F (zip _ (xK _ _)) a w (oR ?_ u);have G:(p.take i).length+1<=216:=by simp;omega
 have I:(q.take k).length<=216:=by simp;omega
 clear w u;generalize B*f=C at *
 calc (p.take i).length*(q.length*C)+(q.take k).length*C<=(p.take i).length*(216*C)+1*(216*C):=Nat.add_le_add (yF _ (kD _ l)) (by rw[Nat.one_mul];exact kD _ I)
  _=((p.take i).length+1)*(216*C):=by rw[wi]
  _<=216*(216*C):=kD _ G
  _=46656*C:=by omega
structure dM {r:aB} (M:c4 r):Prop where
 vJ:∀ {v w:GW} {n:Nat},n<=M.lim->v.aQ r->w.aQ r->M.mb n v->M.mb n w->zS 74 [enc r,enc v,enc w] (enc (r.plus v w))
 rP:∀ {v w:GW} {n:Nat},n<=M.lim->v.aQ r->w.aQ r->M.mb n v->M.mb n w->zS 114 [enc r,enc v,enc w] (enc (r.times v w))
 rQ:∀ {w:GW} {n:Nat},n<=M.lim->w.aQ r->M.mb n w->w.sm 400000
section
variable {E H s:Nat} (L:LB E H s)
include L in
theorem Tf{v w:GW}{n:Nat}(b:v.qN E H n)(d:w.qN E H n)(hs:jB s n<=400000)(pv:bM v.aP)(f:bM w.aP):qJ v.aP w.aP:=by have a:H^(n / 100)*2^(n % 100) / 46656<4294967296^jB s n:=oR (Bd _ _) (wR L n);have j:fR v.aP (jB s n):=yo (xD b.p) pv (L.xy _) (CD L n) a;have k:fR w.aP (jB s n):=yo (xD d.p) f (L.xy _) (CD L n) a;obtain⟨h,i⟩:=SZ L hs hs;exact Z5 _ _ _ _ _ _ pv f (xD b.p) (xD d.p) (L.xy _) (L.xy _) h i (j.jV (by omega)) (k.jV (by omega))
def X8(r:aB)(z:r.ok=true)(lim:Nat)(j:216<=jB s lim)(d:jB s lim<=400000):dM (TO L r z lim j d):=by
 refine⟨λ{v w n} f b a p k=>?_,λ{v w n} f b a p k=>?_,λ{w n} f a k=>(zd L a (GW.lb.mono L k f) j).mono d⟩
 .exact WK r v w (jB s lim) (zd L b (GW.lb.mono L p f) j) (zd L a (GW.lb.mono L k f) j) d (by omega) b a
 .have t:=GW.lb.mono L p f;have u:=GW.lb.mono L k f;have A:v.sm 400000:=(zd L b t j).mono d;have B:w.sm 400000:=(zd L a u j).mono d;refine z28 r v w (A.mono (by omega)) (B.mono (by omega)) b a (λm=>?_) λi h x y m=>?_
  .exact Tf L t.o u.o d (jJ (b.2.1 (by rw[m];decide))) (jJ (a.2.1 (by rw[m];decide)))
  .have l:r.kind=6:=by apply Fy;intro l;have:=(aB.cC z l).2.2;rw[this]at h;simp at h
   exact Tf L (t.ps _ (bV x)) (u.ps _ (bV y)) d (jJ ((b.2.2 l).2.2 i h x)) (jJ ((a.2.2 l).2.2 i h y))
end
def Qc{r:aB}(M:c4 r){n:Nat}{l:List aC}(h:∀ x∈l,M.mb n x.w/\x.w.aQ r)(k:Nat)(d:k<=l.length) :
  ∀ x∈fN aC.key (lv r) id (l.take k),M.mb (kc aC.key (l.take k) x.key+n) x.w/\x.w.aQ r :=
 Ru (key:=aC.key) (up:=lv r) (nw:=id) (λ_ _=>rfl) (λ_=>rfl) (Q:=λc x=>M.mb (c+n) x.w/\x.w.aQ r) (λh k=>⟨M.mono h.1 (by omega),h.2⟩) (λx a=>⟨M.mono (h x a).1 (by show n<=0+n;omega),(h x a).2⟩)
  (λc z x a _ b=>⟨by have:=M.plus b.2 (h x a).2 b.1 (M.mono (h x a).1 (by omega));exact M.mono this (by omega),(EZ b.2 (h x a).2:(r.plus z.w x.w).aQ r)⟩) k d
def Pk{r:aB}{M:c4 r}(N:dM M)(l:List aC)(n B:Nat)(hn:B+n<=M.lim)(hB:∀ q,kc aC.key l q<=B)(hl:l.length<=100000)(h:∀ x∈l,M.mb n x.w/\x.w.aQ r) :
  zS 27 [enc r,.sl (aH l)] (.sl (aH (cR r l))):=by
 have hs:=iQ (key:=aC.key) l;have h':∀ x∈b6 aC.key l,M.mb n x.w/\x.w.aQ r:=λx t=>h x ((hs.2.2 x).1 t);have X:=Qc M h';have F:∀ k q,kc aC.key ((b6 aC.key l).take k) q<=B:=λk q=>dP (Ro _ _ _) (by rw[Jk (Ks l)];exact hB q);have W:=λk (f:k<=(b6 aC.key l).length)=>Jn (key:=aC.key) (up:=lv r) (nw:=id) (λ_ _=>rfl) (λ_=>rfl) (b6 aC.key l) k f;unfold cR;generalize hS:b6 aC.key l=S at *
 have G:S.length=l.length:=hs.2.1;have b:∀ x:aC,(enc x).cells.all PV.one=true:=λx=>by simp[PV.cells]
 refine Sp.vz c.ee λ_=>?_;simp[g.ee];refine QF (US l (by omega)) (by simp) ⟨nE _ _ rfl,by decide,by simp[-jE,aH,eS];omega⟩ (by simp) ?_;simp;refine Xl (U6 rfl b (key:=aC.key) (cf:=73) (D:=λ_=>True) (λx y _ _=>⟨_,PI x y,Gv rfl⟩) l (by omega) λ_ _=>trivial) (by simp) rfl rfl (by simp) (by simp) (by simp[hS,G]) rfl (nE _ _ rfl) (cells_one b _) (by simp) ?_;simp;rw[hS]
 refine cQ (S:=λk:Nat=>aD [(2,.ptr 2 0 0 0),(6,.own 1 0 0 (fN aC.key (lv r) id (S.take k)).length),(14,.own 3 0 0 S.length),(15,.p (.int .i64 S.length)),(16,.p (.int .i64 k))] [(2,⟨2,[.p (enc r)]⟩),(1,⟨12,aT (fN aC.key (lv r) id (S.take k))⟩),(3,⟨12,aT S⟩)]) (I:=λk=>k<=S.length) (m:=λk=>S.length - k) 0
  (aA.nl 6 77 12 rfl (aA.to [2,6,14,15,16] [((2,0),2),((77,0),1),((11,0),3)] (by simp[G,fN]))) (by omega) ?_
 rintro k h1 R j hr t;have U:=bH k;have K:=W k h1;have u:=X k h1;generalize Q:fN aC.key (lv r) id (S.take k)=O at *
 by_cases f:k<S.length;rotate_left
 .have:k=S.length:=by omega
  subst this;have af:=Q;rw[fK (dK _)]at Q;rw[Q]at t hr;simp[g.py,aD];refine t _ _ ?_;simp;refine Ps (UK 77 [.ref (enc r)] (λx=>decide (x.w=r.zero)) O (by omega) λx t=>XQ x r ((N.rQ (show kc aC.key (S.take S.length) x.key+n<=M.lim by have:=F S.length x.key;omega) (u x t).2 (u x t).1).mono (by omega))) (by simp[E7,EG]) rfl rfl (by simp) (by simp) (by simp;have:=nQ (λx:aC=>!decide (x.w=r.zero)) O;omega) rfl (nE _ _ rfl) (cells_one b _) (by simp) (nQ _ _) ?_;generalize hF:O.filter (λx=>!decide (x.w=r.zero))=d at *
  have ad:d.length<=O.length:=by rw[<- hF];exact nQ _ _
  have A:=N1 d (List.replicate (O.length - d.length) (⟨0,0,0,0,eC⟩:aC));have C:d.length<=(aH (d++List.replicate (O.length - d.length) (⟨0,0,0,0,eC⟩:aC))).length:=by simp[-jE,aH]
  generalize aH (d++List.replicate (O.length - d.length) (⟨0,0,0,0,eC⟩:aC))=A0 at *
  cases ag:A0.all PV.flat
  .simp[aJ];rw[A];simp[C]
  .simp;rw[A];simp[C]
 have i:=h' _ (bV f);have a:=HM (key:=aC.key) (up:=lv r) (nw:=id) f;rw[Q]at a;have Y:=xj i.2.1;have pz:=AZ i.2;obtain rfl|⟨o,z,rfl⟩:=Fz O
 .simp[g.py,aD,f];refine bK f ?_;refine bF (BJ r) rfl ?_;simp;refine bA (N.vJ (n:=n) (by omega) i.2 Y i.1 (M.mono M.zero (rK n))) ?_;rw[pz];simp[U];refine j (k+1) _ (aA.to [2,6,14,15,16] [((2,0),2),((59,0),1),((3,0),3)] ?_) (by omega) (by omega);rw[a];simp[aD,iv]
 .have Z:IntKind.i64.wrap (o.length:Int)=(o.length:Int):=cG (by omega) (by simp at K;omega);simp[g.py,aD,f];refine bK f ?_;refine bF (BJ r) rfl ?_;simp;refine bA (N.vJ (n:=n) (by omega) i.2 Y i.1 (M.mono M.zero (rK n))) ?_;rw[pz];simp[Z];refine bA (PI z S[k]) ?_;simp[Z];have hz:=u z (by simp);have J:fU z.key S[k].key=0 ↔ z.key=S[k].key:=Gu (by simp[aC.key]);refine⟨λV=>?_,λV=>?_⟩
  .rw[B3,Jo (key:=aC.key) (z:=z) (y:=S[k]) (J.1 V)]at a;refine bA (N.vJ (n:=kc aC.key (S.take k) z.key+n) (by have:=F k z.key;omega) hz.2 i.2 hz.1 (M.mono i.1 (by omega))) ?_;simp[U];refine j (k+1) _ (aA.to [2,6,14,15,16] [((2,0),2),((1,0),1),((3,0),3)] ?_) (by omega) (by omega);rw[a];simp[aD,lv]
  .rw[B3,Et (key:=aC.key) (z:=z) (y:=S[k]) (λh=>V (J.2 h))]at a;simp[U];refine⟨by simp at K;omega,j (k+1) _ (aA.to [2,6,14,15,16] [((2,0),2),((59,0),1),((3,0),3)] ?_) (by omega) (by omega)⟩;rw[a];simp[aD]
open Go.Proofs
abbrev mY:SI:=⟨13,by decide,261,191,159,158,118,67⟩
def c.ww:aV P mY.sw=some ⟨38,5,(IF mY).er,[]⟩:=by kernel_rfl
def c.wz:aV P mY.ro=some ⟨58,5,(IC mY).er,[]⟩:=by kernel_rfl
def c.w5:aV P mY.sm=some ⟨220,5,(Ef mY).er,[]⟩:=by kernel_rfl
def c.w6:aV P mY.ins=some ⟨53,4,(HT mY).er,[]⟩:=by kernel_rfl
def c.w7:aV P mY.st=some ⟨63,3,(IE mY).er,[]⟩:=by kernel_rfl
def c.w8:aV P mY.so=some ⟨9,2,(ID mY).er,[]⟩:=by kernel_rfl
def ydt:qQ mY:=⟨c.ww,c.wz,c.w5,c.w6,c.w7,c.w8⟩
section
variable {α : Type} [Enc α]
def Vb(d:Enc.sz α = 13)(a:∀ x : α,(enc x).cells.all PV.one=true){key : α -> List Int}{cf:FuncId}{D : α -> Prop}(h:∀ x y,D x->D y->∃ n:Int,Sp P cf [enc x,enc y] (.pure (.int .i64 n))/\(n<0 ↔ key x<key y))
  (l:List α) (b:l.length<=1000000) (f:∀ x∈l,D x):jD P 67 [.sl (aH l),.fn cf []] 0 13 (aH (b6 key l)) (.pure (.bP [])):=Oh ydt d a h l b f
end
end Go.Ab
namespace Go.Ab
open Enc (enc)
attribute [local simp] fX bL.aR
structure aI where
 p:Int
 q:Int
 f:Int
 deriving DecidableEq
structure eL where
 i:Int
 o:Int
 t:aI
 w:GW
instance:Enc aI:=⟨λx=>.agg [.int .i64 x.p,.int .i64 x.q,.int .i64 x.f],3,by decide,λ_=>rfl⟩
instance:Enc eL:=⟨λx=>.agg ([.int .i64 x.i,.int .i64 x.o,.int .i64 x.t.p,.int .i64 x.t.q,.int .i64 x.t.f]++x.w.cl),13,by decide,λ_=>rfl⟩
@[simp] theorem yl7(x:aI):enc x=.agg [.int .i64 x.p,.int .i64 x.q,.int .i64 x.f]:=rfl
@[simp] theorem yis:Enc.sz aI=3:=rfl
@[simp] theorem yna(x:eL):enc x=.agg [.int .i64 x.i,.int .i64 x.o,.int .i64 x.t.p,.int .i64 x.t.q,.int .i64 x.t.f,.bool x.w.q.neg,.sl (aH x.w.q.num),.sl (aH x.w.q.den),.int .i64 x.w.cost,.bool x.w.inf,.int .u64 x.w.set.toNat,.sl (aH x.w.aP),.sl (aH x.w.parts)]:=rfl
@[simp] theorem yj0:Enc.sz eL=13:=rfl
def aI.key(x:aI):List Int:=[x.p,x.q,x.f]
def eL.key(x:eL):List Int:=x.t.key
def JK{x y:aI}:x=y ↔ x.key=y.key:=by cases x;cases y;simp[aI.key]
def Jf(x:eL):(enc x).cells.all PV.one=true:=by simp[PV.cells]
def WW(x y:aI):zS 69 [enc x,enc y] (.int .i64 (fU x.key y.key)):=by rw[<- Ld x.key y.key rfl,show List.zipWith gC x.key y.key=[gC x.p y.p,gC x.q y.q,gC x.f y.f] from rfl];refine Sp.vz c.ku λ_=>?_;simp[g.ku];refine bF (yt x.p y.p) rfl ?_;simp;refine bF (yt x.q y.q) rfl ?_;simp;refine bF (yt x.f y.f) rfl ?_;simp;refine bA (SM [gC x.p y.p,gC x.q y.q,gC x.f y.f] (by simp)) ?_;simp
def Vo(x y:eL):zS 68 [enc x,enc y] (.int .i64 (fU x.key y.key)):=by refine Sp.vz c.eq λ_=>?_;simp[g.eq];refine bA (WW x.t y.t) ?_;simp[eL.key]
def ydq(l:List eL)(a:l.length<=1000000):jD P 67 [.sl (aH l),.fn 68 []] 0 13 (aH (b6 eL.key l)) (.pure (.bP [])) :=
 Vb rfl Jf (key:=eL.key) (cf:=68) (D:=λ_=>True) (λx y _ _=>⟨_,Vo x y,Gv rfl⟩) l a λ_ _=>trivial
def XB(x:eL)(r:aB)(a:x.w.sm 1048576):zS 117 [enc x,.ref (enc r)] (.bool (decide (x.w=r.zero))):=by refine Sp.gU c.iz (by simp) (aA.eU (t:=1) (v:=enc r) (n:=2) (by simp) (by simp)) ?_;simp[g.iz];refine bA (Fe r x.w a) ?_;simp
def KY(t:GTrans)(s:Int)(y:t.aE.length<=100000):zS 115 [enc t,.int .i64 s] (.sl (aH (t.aE.filter λx=>decide (x.f=s)))):=by
 refine Sp.vz c.iy λ_=>?_;simp[g.iy]
 refine cQ (S:=λk:Nat=>aD [(1,.p (.int .i64 s)),(5,.own 1 0 0 ((t.aE.take k).filter λx=>decide (x.f=s)).length),(9,.p (.sl (aH t.aE))),(10,.p (.int .i64 t.aE.length)),(11,.p (.int .i64 k))] [(1,⟨12,aT ((t.aE.take k).filter λx=>decide (x.f=s))⟩)])
  (I:=λk=>k<=t.aE.length) (m:=λk=>t.aE.length - k) 0 (aA.nl 5 77 12 rfl (aA.to [1,5,9,10,11] [((77,0),1)] (by simp[aD]))) (by omega) ?_
 rintro k w R n z u;have l:=bH k;have j:=nQ (λx:aC=>decide (x.f=s)) (t.aE.take k);rw[iB]at j;by_cases d:k<t.aE.length
 .have r:(t.aE.take (k+1)).filter (λx=>decide (x.f=s))=(t.aE.take k).filter (λx=>decide (x.f=s))++(if t.aE[k].f=s then[t.aE[k]]else[]):=by rw[ed d,v7,DN];by_cases h:t.aE[k].f=s<;>simp[h]
  have a:∀ b,aA b (aD [(1,.p (.int .i64 s)),(5,.own 1 0 0 ((t.aE.take (k+1)).filter λx=>decide (x.f=s)).length),(9,.p (.sl (aH t.aE))),(10,.p (.int .i64 t.aE.length)),(11,.p (.int .i64 (k+1:Nat)))] [(1,⟨12,aT ((t.aE.take (k+1)).filter λx=>decide (x.f=s))⟩)])->R .normal b:=λb h=>n (k+1) b h (by omega) (by omega);rw[r]at a;generalize (t.aE.take k).filter (λx=>decide (x.f=s))=o at *
  simp[g.rp,aD,d];refine bK d ?_;by_cases i:t.aE[k].f=s
  .rw[aW i]at a;simp[i,l];refine⟨by omega,a _ (aA.to [1,5,9,10,11] [((22,0),1)] ?_)⟩;simp[aD,i]
  .rw[aY i,kZ]at a;simp[i,l];exact a _ (aA.to [1,5,9,10,11] [((1,0),1)] (by simp[aD]))
 .have:k=t.aE.length:=by omega
  subst this;simp[g.rp,aD];refine u _ _ ?_;simp
def Va(l:List eL)(f:FuncId)(a:List PV)(p:eL->Bool)(t:l.length<=4611686018427387904)(j:∀ x∈l,Sp P f (enc x::a) (.pure (.bool (p x)))) :
  zS 157 [.sl (aH l),.fn f a] (.int .i64 (jL p l)):=by
 refine Sp.vz c.mn λ_=>?_;simp[g.mn]
 refine cQ (S:=λk:Nat=>aD [(0,.p (.sl (aH l))),(1,.p (.fn f a)),(7,.p (.int .i64 l.length)),(8,.p (.int .i64 k))] []) (I:=λk=>k<=l.length/\∀ x∈l.take k,p x=false) (m:=λk=>l.length - k) 0
  (aA.to [0,1,7,8] [] (by simp)) ⟨by omega,by simp⟩ ?_
 rintro k ⟨r,h⟩ R n o b;have i:=bH k;simp[g.ue,aD];refine⟨λd=>?_,λd=>b _ _ ?_⟩
 .refine bK d ?_
  try simp
  refine bF (j l[k] (bV d)) (lH (by simp) (zN _ _)) ?_;obtain h3|h3:=ju (p l[k])
  .simp[h3];refine o _ ?_;simp[GF d h h3]
  .simp[h3,i];refine n (k+1) _ (aA.to [0,1,7,8] [] (by simp)) ⟨by omega,λx b=>?_⟩ (by omega);rw[ed d]at b;obtain b|b:=dT.1 b
   .exact h x b
   .simp at b;rw[b];exact h3
 .have:k=l.length:=by omega
  subst this;simp[Hm (p:=p) (l:=l) (by simpa using h)]
theorem U'(z:FuncId)(a:List PV)(p:eL->Bool)(l:List eL)(hl:l.length<=1000000)(hp:∀ x∈l,Sp P z (enc x::a) (.pure (.bool (p x)))) :
  jD P 116 [.sl (aH l),.fn z a] 0 13 (aH (l.filter (λx=>!p x)++List.replicate (l.length - (l.filter λx=>!p x).length) (⟨0,0,⟨0,0,0⟩,eC⟩:eL))) (.same (l.filter λx=>!p x).length):=by
 have ad:(l.filter λx=>!p x).length<=l.length:=nQ _ _;refine jD.cS c.l8 (by simp) rfl (by simp;omega) ?_;simp[g.l8];refine bA (Va l z a p (by omega) hp) ?_;cases t:l.findIdx? p with
 | none =>
  have F:=Ii.1 t;have hf:l.filter (λx=>!p x)=l:=H8.2 λx b=>by simp[F x b]
  have b:jL p l = -1:=by simp[jL,t]
  simp[b,hf]
 | some k =>
  obtain⟨hk,Q,r⟩:=Ih.1 t;have b:jL p l=k:=by simp[jL,t]
  have O:¬ ((k:Int) = -1):=by omega
  have X:=bH k;simp[b,O,X];have U:(l.take k).filter (λx=>!p x)=l.take k:=List.filter_eq_self.2 λx b=>by rw[List.mem_take_iff_getElem]at b;obtain⟨i,t,rfl⟩:=b;have:=r i (by omega);simpa using this
  have w:(l.take (k+1)).filter (λx=>!p x)=l.take k:=by rw[ed hk,v7,U];simp[Q]
  refine cQ (S:=λx:List eL × Nat × Nat=>aD [(0,.own bG 0 0 l.length),(1,.p (.fn z a)),(5,.p (.int .i64 x.2.1)),(6,.p (.int .i64 x.2.2))] [(bG,⟨13,aT x.1⟩)])
   (I:=λx=>x.1.length=l.length/\x.2.1<x.2.2/\x.2.2<=l.length/\x.1.take x.2.1=(l.take x.2.2).filter (λx=>!p x)/\x.1.drop x.2.2=l.drop x.2.2/\x.2.1<=l.length) (m:=λx=>l.length - x.2.2) (l,k,k+1)
   (aA.to [0,1,5,6] [((bG,0),bG)] (by simp)) ⟨rfl,by simp,by simp;omega,by rw[w],rfl,by simp;omega⟩ ?_
  rintro⟨L,i,j⟩ ⟨f,Z,h3,d,A,B⟩ R F hr V;simp only at f Z h3 d A B;simp[g.tu,aD];refine⟨λC=>?_,λC=>V _ _ ?_⟩
  .have W:=bH j;have Y:=bH i;have K:L[j]?=some l[j]:=by
    have:(L.drop j)[0]?=(l.drop j)[0]?:=by rw[A]
    simpa[C]using this
   refine⟨by omega,eO K ?_⟩
   try simp
   refine bF (hp l[j] (bV C)) (lH (by simp) (zN _ _)) ?_;have u:(l.take (j+1)).filter (λx=>!p x)=(l.take j).filter (λx=>!p x)++(if p l[j]then[]else[l[j]]):=by rw[ed C,v7];by_cases h:p l[j]<;>simp[h]
   obtain o|o:=ju (p l[j])
   .simp[o,W];refine F (L,i,j+1) _ (aA.to [0,1,5,6] [((bG,0),bG)] (by simp)) ⟨f,by show i<j+1;omega,by show j+1<=l.length;omega,by show L.take i=_;rw[u,d];simp[o],?_,B⟩ (by show l.length - (j+1)<l.length - j;omega);show L.drop (j+1)=l.drop (j+1);rw[<- List.drop_drop,A,wj]
   .simp[o];refine⟨by omega,?_⟩;refine eO (l:=L) (n:=i) (x:=L[i]'(by omega)) (by simp) ?_;simp[W,Y];have y:(L.set i l[j]).take (i+1)=L.take i++[l[j]]:=by rw[ed (by simp;omega),List.take_set_of_le (dK i)];simp
    refine F (L.set i l[j],i+1,j+1) _ (aA.to [0,1,5,6] [((bG,0),bG)] (by simp)) ⟨by simp[f],by show i+1<j+1;omega,by show j+1<=l.length;omega,by show(L.set i l[j]).take (i+1)=_;rw[y,u,d];simp[o],?_,by show i+1<=l.length;omega⟩ (by show l.length - (j+1)<l.length - j;omega);show(L.set i l[j]).drop (j+1)=l.drop (j+1);rw[Md (by omega),<- List.drop_drop,A,wj]
  .have M:j=l.length:=by omega
   subst M;rw[lO]at d;have J:i=(l.filter λx=>!p x).length:=by rw[<- d];simp;omega
   generalize (l.filter λx=>!p x)=D at *
   subst J;have ht:(aT L).take D.length=aT D:=by rw[JT,d]
   have af:min D.length l.length=D.length:=wc B;have N:D.length+(l.length - D.length)=l.length:=by omega
   simp[f,B,N,d];have G:L.drop l.length=[]:=by rw[<- f];simp
   rw[G,Rb,kZ];rfl
end Go.Ab
