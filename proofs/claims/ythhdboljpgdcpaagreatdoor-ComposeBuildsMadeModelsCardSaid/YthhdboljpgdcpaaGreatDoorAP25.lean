/- Lemmas for the law ComposeBuildsMadeModels, part 25. No conditions. -/
import Derived.Test.YthhdboljpgdcpaaGreatDoorAP24
set_option maxRecDepth 100000
set_option maxHeartbeats 4000000
set_option linter.all false
namespace Go.Ab
open Enc (enc)
attribute [local simp] fX bL.aR
theorem z41{p:List aF}(hp:bM p){m:aF}(hm:m∈p):pc p m.e=m.aX.v:=by
 induction p with
 | nil=>simp at hm
 | cons x p i =>
  obtain rfl|hm:=bY.1 hm
  .exact AJ hp
  .have d:=(mM.1 (iq.1 hp).2).1 m hm;have f:x.e≠m.e:=λh=>by rw[h]at d;omega
   simp only[pc,aY f,Bc];exact i hp.tail hm
theorem ZQ{p:List aF}(hp:bM p)(k:Nat)(e:Ex):pc (p.take k) e=0\/pc (p.take k) e=pc p e:=by
 induction p generalizing k with
 | nil=>simp[pc]
 | cons x p i =>
  cases k with
  | zero=>simp[pc]
  | succ k =>
   by_cases h:x.e=e
   .right;subst h;rw[AJ hp,FH];simp only[pc,cB];rw[CW,pO];intro y f d;have:=(mM.1 (iq.1 hp).2).1 y (jA f);rw[d]at this;omega
   .simp only[FH,pc,aY h,Bc];exact i hp.tail k
def jU(D B:Nat)(p:List aF):Prop:=∀ e,qb D B (pc p e)
def yo{D B n:Nat}{p:List aF}(h:jU D B p)(hp:bM p)(k:D≠0)(f:D<4294967296^n)(i:B<4294967296^n):fR p n:=by intro m d;have j:=aF.bW.1 ((iq.1 hp).1 m d);have:=Fw (h m.e) k f i;rw[z41 hp d,sK j.2.1]at this;exact this
def JM(D:Nat):jU D 0 []:=λ_=>CX D
def JN{D B d:Nat}{p:List aF}(h:jU D B p){q:Rat}(j:qb D d q)(i:D≠0)(e:Ex):jU D (B+d) (eP p e q):=by
 intro f;rw[Ju];split
 .exact Gk (h f) j i
 .exact qA (by rw[pO];exact h f) (by omega)
def AO:bM []:=λi h=>by simp at h
def eF(p q:List aF):List aF:=q.foldl (λo m=>eP o m.e m.aX.v) p
theorem xg{p:List aF}(q:List aF)(hp:bM p):bM (eF p q):=by
 induction q generalizing p with
 | nil=>exact hp
 | cons m q d=>exact d (G8 _ _ hp)
theorem zr(p:List aF){q:List aF}(d:∀ m∈q,m.ok=true)(e:Ex):pc (eF p q) e=pc p e+pc q e:=by
 induction q generalizing p with
 | nil=>simp[eF,pc,pO]
 | cons m q h =>
  have:=h (eP p m.e m.aX.v) λx f=>d x (by simp[f]);show pc (eF (eP p m.e m.aX.v) q) e=_;rw[this,Ju];have:=(aF.bW.1 (d m (by simp))).1;simp[pc,this,yK]
def bM.take{p:List aF}(hp:bM p)(k:Nat):bM (p.take k):=by have:=iq.1 hp;exact iq.2 ⟨λx d=>this.1 x (jA d),this.2.sublist (H9 _ _)⟩
def VG{D B:Nat}{p:List aF}(h:jU D B p)(hp:bM p)(k:Nat):jU D B (p.take k):=by
 intro e;obtain d|d:=ZQ hp k e
 .rw[d];exact qA (CX D) (by omega)
 .rw[d];exact h e
def RS{D B d:Nat}{p q:List aF}(h:jU D B p)(f:jU D d q)(j:bM q)(i:D≠0):jU D (B+d) (eF p q):=by intro e;rw[zr p (iq.1 j).1];exact Gk (h e) (f e) i
theorem UY{p q:List aF}{k:Nat}(h:k<q.length):eF p (q.take (k+1))=eP (eF p (q.take k)) q[k].e q[k].aX.v:=by unfold eF;rw[ed h,yD];rfl
def Q8(p q:List aF)(D B o:Nat)(hp:bM p)(f:bM q)(r:jU D B p)(s:jU D o q)(d:D≠0)(l:D<4294967296^1048576)(j:B+o<4294967296^1048576) :
  zS 91 [.sl (aH p),.sl (aH q)] (.sl (aH (eF p q))):=by
 have n:fR p 1048576:=yo r hp d l (oR (Nat.le_add_right _ _) j);have h:fR q 1048576:=yo s f d l (oR (Nat.le_add_left _ _) j);have x:=qS hp;have y:=qS f;have u:∀ k,fR (eF p (q.take k)) 1048576:=λk=>yo (RS r (VG s f k) (f.take k) d) (xg _ hp) d l j;clear l j;refine Sp.vz c.ip λ_=>?_;simp[g.ip];refine bF (C' p n (by omega)) rfl ?_;simp;refine bF (C' q h (by omega)) rfl ?_;simp[yl hp,yl f]
 refine cQ (S:=λk:Nat=>aD [(1,.p (.sl (aH q))),(5,.p (.sl (aH (eF p (q.take k))))),(6,.p (.int .i64 k))] []) (I:=λk=>k<=q.length) (m:=λk=>q.length - k) 0
  (aA.to [1,5,6] [] (by simp[eF])) (by omega) ?_
 rintro k C R w F A;have t:=bH k;simp[g.tj,aD];refine⟨λi=>?_,λi=>A _ _ ?_⟩
 .refine bK i ?_;have z:=xg (q.take k) hp;have E:=qS z;refine bF (JQ (eF p (q.take k)) q[k] (u k) (by omega) (h _ (bV i)) (aF.bW.1 (f k i).1).2.1) rfl ?_;simp[t];exact w (k+1) _ (aA.to [1,5,6] [] (by simp[UY i])) (by omega) (by omega)
 .have:k=q.length:=by omega
  subst this;simp
def Ex.add(x y:Ex):Ex:=⟨x.a+y.a,x.b+y.b,x.c+y.c⟩
def fG(m:aF)(q:List aF)(o:List aF):List aF:=q.foldl (λo d=>eP o (m.e.add d.e) (m.aX.v*d.aX.v)) o
def fA(p q:List aF):List aF:=p.foldl (λo m=>fG m q o) []
theorem U2{m:aF}{o q:List aF}{k:Nat}(h:k<q.length):fG m (q.take (k+1)) o=eP (fG m (q.take k) o) (m.e.add q[k].e) (m.aX.v*q[k].aX.v):=by unfold fG;rw[ed h,yD];rfl
theorem U0{p q:List aF}{k:Nat}(h:k<p.length):fA (p.take (k+1)) q=fG p[k] q (fA (p.take k) q):=by unfold fA;rw[ed h,yD];rfl
theorem zip{m:aF}(q:List aF){o:List aF}(h:bM o):bM (fG m q o):=by
 induction q generalizing o with
 | nil=>exact h
 | cons x q d=>exact d (G8 _ _ h)
theorem xK(p q:List aF):bM (fA p q):=by
 suffices ∀ o,bM o->bM (p.foldl (λo m=>fG m q o) o) from this [] AO
 induction p with
 | nil=>exact λo h=>h
 | cons x p d=>exact λo h=>d _ (zip q h)
theorem JP{D d B f C:Nat}{m:aF}{q o:List aF}(k:qb D B m.aX.v)(i:∀ x∈q,qb d f x.aX.v)(h:jU (D*d) C o)(j:D*d≠0):jU (D*d) (C+q.length*(B*f)) (fG m q o):=by
 induction q generalizing o C with
 | nil=>simpa[fG]using h
 | cons x q n =>
  have:=n (λy l=>i y (by simp[l])) (JN h (To k (i x (by simp))) j (m.e.add x.e));intro e;refine qA (this e) ?_;simp[wi];omega
theorem EL{D d B f:Nat}{p q:List aF}(hp:∀ x∈p,qb D B x.aX.v)(j:∀ x∈q,qb d f x.aX.v)(i:D*d≠0):jU (D*d) (p.length*(q.length*(B*f))) (fA p q):=by
 suffices ∀ o C,jU (D*d) C o->jU (D*d) (C+p.length*(q.length*(B*f))) (p.foldl (λo m=>fG m q o) o) by have:=this [] 0 (JM _);rw[qW]at this;exact this
 induction p with
 | nil=>intro o C h;simpa using h
 | cons x p l =>
  intro o C h;have:=l (λy k=>hp y (by simp[k])) _ _ (JP (hp x (by simp)) j h i);intro e;refine qA (this e) ?_;simp[wi];omega
def yy{D B:Nat}{p:List aF}(h:jU D B p)(hp:bM p):∀ x∈p,qb D B x.aX.v:=λx d=>by rw[<- z41 hp d];exact h _
def Rx(p q:List aF)(D A B F:Nat)(hp:bM p)(E:bM q)(h1:jU D B p)(h2:jU A F q)(H:D≠0)(w:A≠0)(W:D*A<4294967296^1048576)
  (V:46656*(B*F)<4294967296^1048576) (hs:fR p 524288) (s:fR q 524288) :
  zS 84 [.sl (aH p),.sl (aH q)] (.sl (aH (fA p q))):=by
 have ad:=qS hp;have L:=qS E;have N:=yy h1 hp;have O:=yy h2 E;have r:D*A≠0:=yE H w;have K:∀ x∈p,∀ y∈q,(cH (x.aX.v*y.aX.v)).sm 1048576:=λx o y hy=>(PR (hs x o) (s y hy) (by omega)).mono (by omega);have hb:∀ i k,(h:i<p.length)->fR (fG p[i] (q.take k) (fA (p.take i) q)) 1048576:=λi k h=>by
  have Q:=JP (m:=p[i]) (q:=q.take k) (N _ (bV h)) (λx o=>O x (jA o)) (EL (p:=p.take i) (λx o=>N x (jA o)) O r) r;refine yo Q (zip _ (xK _ _)) r W (oR ?_ V);have U:(p.take i).length+1<=216:=by simp;omega
  have h5:(q.take k).length<=216:=by simp;omega
  generalize B*F=C at *
  calc (p.take i).length*(q.length*C)+(q.take k).length*C<=(p.take i).length*(216*C)+1*(216*C):=Nat.add_le_add (yF _ (kD _ L)) (by rw[Nat.one_mul];exact kD _ h5)
   _=((p.take i).length+1)*(216*C):=by rw[wi]
   _<=216*(216*C):=kD _ U
   _=46656*C:=by omega
 clear W V;refine Sp.vz c.im λ_=>?_;simp[g.im];refine bF (C' p (hs.mono (by omega)) (by omega)) rfl ?_;simp;refine bF (C' q (s.mono (by omega)) (by omega)) rfl ?_;simp[yl hp,yl E]
 refine cQ (S:=λi:Nat=>aD [(0,.p (.sl (aH p))),(1,.p (.sl (aH q))),(5,.p (.sl (aH (fA (p.take i) q)))),(6,.p (.int .i64 i))] []) (I:=λi=>i<=p.length) (m:=λi=>p.length - i) 0
  ((aA.freeze (t:=5) rfl).trans (aA.to [0,1,5,6] [] (by simp[fA]))) (by omega) ?_
 rintro i Q R X hr o;have Y:=bH i;simp[g.th,aD];refine⟨λl=>?_,λl=>o _ _ ?_⟩;rotate_left
 .have:i=p.length:=by omega
  subst this;simp
 clear o hr
 refine cQ (S:=λk:Nat=>aD [(0,.p (.sl (aH p))),(1,.p (.sl (aH q))),(5,.p (.sl (aH (fG p[i] (q.take k) (fA (p.take i) q))))),(6,.p (.int .i64 i)),(7,.p (.int .i64 k))] []) (I:=λk=>k<=q.length) (m:=λk=>q.length - k) 0
  (aA.to [0,1,5,6,7] [] (by simp[fG])) (by omega) ?_
 rintro k U R2 J M z;have Z:=bH k;simp[g.tg,aD];refine⟨λn=>?_,λn=>z _ _ ?_⟩;rotate_left
 .have:k=q.length:=by omega
  subst this;simp[Y];exact X (i+1) _ (aA.to [0,1,5,6] [] (by simp[U0 l])) (by omega) (by omega)
 clear z M X;refine bK l ?_;refine bK n ?_;refine bF (Jp p[i].aX q[k].aX ((hs _ (bV l)).mono (by omega)) ((s _ (bV n)).mono (by omega))) rfl ?_;simp;have u:∀ {e:Ex},e.ok=true->(-100<e.a/\e.a<100)/\(-100<e.b/\e.b<100) /\ -100<e.c/\e.c<100:=λh=>by rw[Ex.bW]at h;omega
 have o1:=u (aF.bW.1 (hp i l).1).1;have o2:=u (aF.bW.1 (E k n).1).1;have ea:IntKind.i64.wrap (p[i].e.a+q[k].e.a)=p[i].e.a+q[k].e.a:=b5;have eb:IntKind.i64.wrap (p[i].e.b+q[k].e.b)=p[i].e.b+q[k].e.b:=b5;have ec:IntKind.i64.wrap (p[i].e.c+q[k].e.c)=p[i].e.c+q[k].e.c:=b5;refine jR λG d j f=>?_;simp[g.pe];refine bK l ?_;refine bK n ?_;simp[ea];refine d _ ?_;clear d f j;refine jR λG d j f=>?_;simp[g.pe];refine bK l ?_;refine bK n ?_;simp[eb];refine d _ ?_;clear d f j;refine jR λG d j f=>?_;simp[g.pe];refine bK l ?_;refine bK n ?_;simp[ec];refine d _ ?_;clear d f j;refine jR λG d j f=>?_;simp[g.pe];refine f _ _ ?_;clear d f j;simp;have hv:=zip (m:=p[i]) (q.take k) (xK (p.take i) q);have hl:=qS hv;refine bF (JQ (fG p[i] (q.take k) (fA (p.take i) q)) ⟨p[i].e.add q[k].e,cH (p[i].aX.v*q[k].aX.v)⟩ (hb i k l) (by omega) (K _ (bV l) _ (bV n)) (sP _)) rfl ?_;simp[Z];exact J (k+1) _ (aA.to [0,1,5,6,7] [] (by simp[U2 n,iN])) (by omega) (by omega)
def LA(x:aS)(d:x.sm 1048576):zS 60 [enc x] (.sl (aH (eP [] ⟨0,0,0⟩ x.v))):=by refine Sp.vz c.cr λ_=>?_;simp[g.cr];refine bF (yA x (d.mono (by omega))) rfl ?_;simp;have:=JQ [] ⟨⟨0,0,0⟩,cH x.v⟩ (by intro m f;simp at f) (by simp) (z31 d) (sP _);rw[iN]at this;refine bF this rfl ?_;simp
def qt(q:Rat):List aF:=eP [] ⟨0,0,0⟩ q
def Dw(q:Rat):bM (qt q):=G8 _ _ AO
def Um{q:Rat}{m:aF}(h:m∈qt q):m.aX=cH q:=by
 unfold qt at h;rw[Hg]at h;split at h
 .simp at h
 .simp[pins]at h;rw[h]
def Xd(p:List aF)(x:aS)(D f B i:Nat)(hp:bM p)(n:jU D B p)(o:qb f i x.v)(j:D≠0)(d:f≠0)(l:D*f<4294967296^1048576)
  (k:46656*(B*i)<4294967296^1048576) (hs:fR p 524288) (h:x.sm 524288) :
  zS 92 [.sl (aH p),enc x] (.sl (aH (fA p (qt x.v)))):=by
 have r:jU f i (qt x.v):=λe=>by have:=JN (JM f) o d ⟨0,0,0⟩ e;rw[qW]at this;exact this
 have s:fR (qt x.v) 524288:=λm u=>by rw[Um u];exact z31 h
 have t:=Rx p (qt x.v) D f B i hp (Dw _) n r j d l k hs s;clear l k;refine Sp.vz c.lk λ_=>?_;simp[g.lk];refine bF (LA x (h.mono (by omega))) rfl ?_;simp;refine bF t rfl ?_;simp
def Ex.unit(i:Int):Ex:=if i=0 then⟨1,0,0⟩else if i=1 then⟨0,1,0⟩else⟨0,0,1⟩
def sB(i:Int):List aF:=if 0<=i/\i<3 then[⟨Ex.unit i,cH 1⟩]else[]
def UO(i:Int):zS 93 [.int .i64 i] (.sl (aH (sB i))):=by
 refine Sp.vz c.lm λ_=>?_;simp[g.lm];have d:=yn 1 1 (by omega) (by omega) (by omega);have k:Rat.divInt 1 1=1:=rfl;rw[k]at d;refine⟨λh=>by simp[sB,show ¬ 0<=i by omega],λh=>⟨λf=>by simp[sB,show ¬ i<3 by omega],λf=>?_⟩⟩;refine bF d rfl ?_;have j:i=0\/i=1\/i=2:=by omega
 obtain rfl|rfl|rfl:=j
 .simp[sB,Ex.unit]
 .simp[sB,Ex.unit]
 .simp[sB,Ex.unit]
def Vq(p q:List aF)(hp:fR p 1048576)(G:p.length<=1073741824):zS 89 [.sl (aH p),.sl (aH q)] (.bool (decide (p=q))):=by
 refine Sp.vz c.lh λ_=>?_;simp[g.lh];refine⟨λh=>?_,λh=>λC=>h (by rw[C])⟩;have o:p.length=q.length:=by omega
 refine cQ (S:=λk:Nat=>aD [(0,.p (.sl (aH p))),(1,.p (.sl (aH q))),(5,.p (.int .i64 k))] []) (I:=λk=>k<=p.length/\p.take k=q.take k) (m:=λk=>p.length - k) 0
  (aA.to [0,1,5] [] (by simp)) ⟨by omega,by simp⟩ ?_
 rintro k ⟨F,r⟩ R D u E;have w:=bH k;simp[g.ti,aD];refine⟨λn=>?_,λn=>E _ _ ?_⟩
 .have f:k<q.length:=by omega
  have i:p[k]≠q[k]->p≠q:=λh z=>by subst z;exact h rfl
  refine bK n ?_;refine bK f ?_;refine⟨λd=>u _ ?_,λd s t=>?_⟩
  .have:p≠q:=i λh=>by rw[h]at d;simp at d
   simp[this]
  refine bK n ?_;refine bK f ?_;refine bF (xi p[k].aX q[k].aX ((hp _ (bV n)).mono (by omega))) rfl ?_;by_cases j:p[k].aX=q[k].aX
  .simp[j,w];have A:p[k]=q[k]:=by
    have:p[k].e=q[k].e:=by generalize p[k].e=x at *;generalize q[k].e=y at *;cases x;cases y;simp at d s t;simp[d,s,t]
    generalize p[k]=x at *;generalize q[k]=y at *;cases x;cases y;simp at this j;simp[this,j]
   exact D (k+1) _ (aA.to [0,1,5] [] (by simp)) ⟨by omega,by rw[ed n,ed f,r,A]⟩ (by omega)
  .have B:p≠q:=i λh=>j (by rw[h]);simp[j];exact u _ (by simp[B])
 .have d:p=q:=by rw[<- List.take_length (l:=p),<- List.take_length (l:=q),<- o,show p.length=k by omega];exact r
  simp[d]
inductive GW where
 | mk (q:aS) (cost:Int) (inf:Bool) (set:UInt64) (aP:List aF) (parts:List GW)
namespace GW
def q:GW->aS|mk q _ _ _ _ _=>q
def cost:GW->Int|mk _ c _ _ _ _=>c
def inf:GW->Bool|mk _ _ i _ _ _=>i
def set:GW->UInt64|mk _ _ _ s _ _=>s
def aP:GW->List aF|mk _ _ _ _ p _=>p
def parts:GW->List GW|mk _ _ _ _ _ ps=>ps
mutual
def en:GW->PV
 | mk q c i s p d=>.agg [.bool q.neg,.sl (aH q.num),.sl (aH q.den),.int .i64 c,.bool i,.int .u64 s.toNat,.sl (aH p),.sl (yd d)]
def yd:List GW->List PV
 | []=>[]
 | w::d=>en w::yd d
end
end GW
instance:Enc GW:=⟨GW.en,8,by decide,λw=>by cases w;rfl⟩
theorem Zl(ps:List GW):GW.yd ps=aH ps:=by
 induction ps with
 | nil=>simp[-jE,GW.yd,aH]
 | cons w ps d=>simp[-jE,GW.yd,aH,d];rfl
@[simp] theorem yni(w:GW):enc w=.agg [.bool w.q.neg,.sl (aH w.q.num),.sl (aH w.q.den),.int .i64 w.cost,.bool w.inf,.int .u64 w.set.toNat,.sl (aH w.aP),.sl (aH w.parts)]:=by cases w;show GW.en _=_;simp[GW.en,Zl];simp[GW.q,GW.cost,GW.inf,GW.set,GW.aP,GW.parts]
@[simp] theorem yl6:Enc.sz GW=8:=rfl
def GW.ext{v w:GW}(d:v.q=w.q)(f:v.cost=w.cost)(h3:v.inf=w.inf)(h:v.set=w.set)(i:v.aP=w.aP)(j:v.parts=w.parts):v=w:=by cases v;cases w;simp[GW.q,GW.cost,GW.inf,GW.set,GW.aP,GW.parts]at *;simp[*]
noncomputable instance:DecidableEq GW:=λ_ _=>Classical.propDecidable _
structure aB where
 kind:Int
 parts:List Int
 deriving DecidableEq
instance:Enc aB:=⟨λr=>.agg [.int .i64 r.kind,.sl (aH r.parts)],2,by decide,λ_=>rfl⟩
@[simp] theorem ybe(r:aB):enc r=.agg [.int .i64 r.kind,.sl (aH r.parts)]:=rfl
@[simp] theorem ygj:Enc.sz aB=2:=rfl
def aB.ok(r:aB):Bool:=if r.kind=6 then decide (2<=r.parts.length/\r.parts.length<=3/\∀ k∈r.parts,1<=k/\k<=5)else decide (1<=r.kind/\r.kind<=5/\r.parts=[])
def oQ(r:aB):zS 59 [enc r] (.bool r.ok):=by
 refine Sp.vz c.bj λ_=>?_;simp[g.bj];refine⟨λd=>⟨λh=>?_,λh=>⟨λl=>?_,λl=>?_⟩⟩,λd=>⟨λh=>⟨λl=>?_,λl=>?_⟩,λh=>?_⟩⟩
 .simp[aB.ok,d];intro j;omega
 .simp[aB.ok,d];intro j z;omega
 rotate_left
 .simp[aB.ok,d,h,l]
 .simp[aB.ok,d];intro j;omega
 .simp[aB.ok,d];intro j;omega
 refine cQ (S:=λk:Nat=>aD [(1,.ptr 1 0 0 0),(3,.p (.int .i64 k))] [(1,⟨2,[.p (enc r)]⟩)]) (I:=λk=>k<=r.parts.length/\∀ i,(h:i<r.parts.length)->i<k->1<=r.parts[i]/\r.parts[i]<=5) (m:=λk=>r.parts.length - k) 0
  (aA.to [1,3] [((1,0),1)] (by simp)) ⟨by omega,λi h E=>by omega⟩ ?_
 rintro k ⟨F,t⟩ R D w s;have y:=bH k;simp[g.tb,aD];refine⟨λn=>?_,λn=>s _ _ ?_⟩
 .have f:¬ (1<=r.parts[k]/\r.parts[k]<=5)->r.ok=false:=λC=>by simp only[aB.ok,aW d,decide_eq_false_iff_not];exact λj=>C (j.2.2 _ (bV n))
  refine bK n ?_;refine⟨λA=>w _ ?_,λA=>?_⟩
  .simp[f (by omega)]
  refine bK n ?_;simp[y];refine⟨λB=>w _ ?_,λB=>D (k+1) _ (aA.to [1,3] [((1,0),1)] (by simp)) ⟨by omega,λi h u=>?_⟩ (by omega)⟩
  .simp[f (by omega)]
  .by_cases o:i<k
   .exact t i h o
   .have:i=k:=by omega
    subst this;omega
 .have:r.ok=true:=by simp only[aB.ok,aW d,decide_eq_true_eq];refine⟨by omega,by omega,λx s=>?_⟩;obtain⟨i,u,rfl⟩:=H' s;exact t i u (by omega)
  simp[this]
def Og(r s:aB):zS 37 [enc r,enc s] (.bool (decide (r=s))):=by
 refine Sp.vz c.ia λo=>?_;simp[g.ia];refine⟨λt=>⟨λw=>?_,λw=>λh=>w (by rw[h])⟩,λt h=>t (by rw[h])⟩;have j:r.parts.length=s.parts.length:=by omega
 have n:r.parts.length<=maxLen:=by simp only[ybe,rW,n3]at o;simpa[Lc]using o.1.2.1.1
 unfold maxLen at n
 refine cQ (S:=λk:Nat=>aD [(2,.ptr 1 0 0 0),(3,.ptr 2 0 0 0),(5,.p (.int .i64 k))] [(1,⟨2,[.p (enc r)]⟩),(2,⟨2,[.p (enc s)]⟩)]) (I:=λk=>k<=r.parts.length/\r.parts.take k=s.parts.take k) (m:=λk=>r.parts.length - k) 0
  (aA.to [2,3,5] [((2,0),1),((3,0),2)] (by simp)) ⟨by omega,by simp⟩ ?_
 rintro k ⟨B,u⟩ R y z A;simp[g.sx,aD];refine⟨λd=>?_,λd=>A _ _ ?_⟩
 .have i:k<s.parts.length:=by omega
  have x:=bH k;refine bK d ?_;refine bK i ?_;simp[x];refine⟨λf=>?_,λf=>?_⟩
  .exact y (k+1) _ (aA.to [2,3,5] [((1,0),1),((2,0),2)] (by simp)) ⟨by omega,by rw[ed d,ed i,u,f]⟩ (by omega)
  .refine z _ ?_;have:r≠s:=λh=>f (by subst h;rfl);simp[this]
 .have f:r=s:=by
   have:r.parts=s.parts:=by rw[<- List.take_length (l:=r.parts),<- List.take_length (l:=s.parts),<- j,show r.parts.length=k by omega];exact u
   cases r;cases s;simp at t this;simp[t,this]
  simp[f]
inductive GW.sm (n:Nat):GW->Prop
 | mk {q:aS} {c:Int} {i:Bool} {s:UInt64} {p:List aF} {ps:List GW}:q.sm n->fR p n->p.length<=n->ps.length<=n->(∀ w∈ps,GW.sm n w)->GW.sm n (.mk q c i s p ps)
def GW.sm.q{n:Nat}{w:GW}(h:w.sm n):w.q.sm n:=by cases h;assumption
def GW.sm.aP{n:Nat}{w:GW}(h:w.sm n):fR w.aP n:=by cases h;assumption
def GW.sm.len{n:Nat}{w:GW}(h:w.sm n):w.aP.length<=n:=by cases h;assumption
def GW.sm.wE{n:Nat}{w:GW}(h:w.sm n):w.parts.length<=n:=by cases h;assumption
def GW.sm.parts{n:Nat}{w:GW}(h:w.sm n):∀ x∈w.parts,x.sm n:=by cases h;assumption
def GW.sm.ind{n:Nat}{M:GW->Prop}(h:∀ v,v.sm n->(∀ w∈v.parts,M w)->M v):∀ v,v.sm n->M v:=by
 intro v j
 induction j with|@mk q c i s p ps hq hp d f k l=>exact h _ (.mk hq hp d f k) l
def He(v:GW)(j:v.sm 1048576):∀ w:GW,zS 40 [enc v,enc w] (.bool (decide (v=w))):=by
 revert v;refine GW.sm.ind λv j F w=>?_;refine Sp.vz c.bz λC=>?_;simp[g.bz];refine bF (xi v.q w.q (j.q.mono (by omega))) rfl ?_;simp;refine⟨λr=>⟨λs=>⟨λt=>⟨λn=>?_,λn h=>n (by rw[h])⟩,λt h=>t (by rw[h])⟩,λs h=>s (by rw[h])⟩,λr h=>r (by rw[h])⟩;have n:v.set=w.set:=UInt64.toNat_inj.1 (by omega);refine bF (Vq v.aP w.aP j.aP (by have:=j.len;omega)) rfl ?_;simp;refine⟨λu=>⟨λx=>?_,λx h=>x (by rw[h])⟩,λu h=>u (by rw[h])⟩;have i:v.parts.length=w.parts.length:=by omega
 have z:=j.wE
 refine cQ (S:=λk:Nat=>aD [(2,.ptr 1 0 0 0),(3,.ptr 2 0 0 0),(5,.p (.int .i64 k))] [(1,⟨8,[.p (enc v)]⟩),(2,⟨8,[.p (enc w)]⟩)]) (I:=λk=>k<=v.parts.length/\v.parts.take k=w.parts.take k) (m:=λk=>v.parts.length - k) 0
  (aA.to [2,3,5] [((2,0),1),((3,0),2)] (by simp)) ⟨by omega,by simp⟩ ?_
 rintro k ⟨G,y⟩ R B D E;have A:=bH k;simp[g.s6,aD];refine⟨λo=>?_,λo=>E _ _ ?_⟩
 .have f:k<w.parts.length:=by omega
  refine bK o ?_;refine bK f ?_;refine bF (F _ (bV o) w.parts[k]) ?_ ?_
  .simp
  simp[A];refine⟨λd=>?_,λd=>?_⟩
  .exact B (k+1) _ (aA.to [2,3,5] [((1,0),1),((2,0),2)] (by simp)) ⟨by omega,by rw[ed o,ed f,y,d]⟩ (by omega)
  .refine D _ ?_;have:v≠w:=λh=>d (by subst h;rfl);simp[this]
 .have d:v=w:=by refine GW.ext r s t n u ?_;rw[<- List.take_length (l:=v.parts),<- List.take_length (l:=w.parts),<- i,show v.parts.length=k by omega];exact y
  simp[d]
def EY(r:aB)(i:Nat)(h:i<r.parts.length):zS 61 [enc r,.int .i64 i] (enc (⟨r.parts[i],[]⟩:aB)):=by refine Sp.vz c.b7 λ_=>?_;simp[g.b7];refine bK h ?_;simp
end Go.Ab
namespace Go.Ab
section
variable {α : Type} (key : α -> List Int) (up : α -> α -> α) (nw : α -> α)
def iv(d:List α)(y : α):List α :=
 match d with
 | []=>[nw y]
 | [z]=>if key z=key y then[up z y]else[z,nw y]
 | z::r=>z::iv r y
def fN(l:List α):List α := l.foldl (iv key up nw) []
def eo(s:List α)(x : α):List α :=
 match s with
 | []=>[x]
 | z::r=>if key x<key z then x::z::r else z::eo r x
def eQ(d:List α)(x : α):List α :=
 match d with
 | []=>[nw x]
 | z::r=>if key z<key x then z::eQ r x else if key z=key x then up z x::r else nw x::z::r
def b6(l:List α):List α := l.foldl (eo key) []
def sc(l:List α):List α := l.foldl (eQ key up nw) []
variable {key up nw} (tY:∀ a b,key (up a b)=key a) (sd:∀ a,key (nw a)=key a)
def AN(a b:List Int):a<b\/a=b\/b<a:=by
 by_cases h:a<b
 .exact .inl h
 .by_cases d:b<a
  .exact .inr (.inr d)
  .exact .inr (.inl (List.le_antisymm (List.not_lt.1 d) (List.not_lt.1 h)))
def OI{a b c:List Int}(h:¬ b<a)(k:b<c):a<c:=by
 obtain d|d|d:=AN a b
 .exact Ba d k
 .rw[d];exact k
 .exact absurd d h
def E'{a b c:List Int}(h:a<b)(k:¬ c<b):a<c:=by
 obtain d|d|d:=AN b c
 .exact Ba h d
 .rw[<- d];exact h
 .exact absurd d k
theorem Yy(d:List α)(y : α):iv key up nw d y≠[]:=by
 match d with
 | []=>simp[iv]
 | [z]=>simp only[iv];split<;>simp
 | z::w::r=>simp[iv]
theorem C0(z : α){r:List α}(y : α)(h:r≠[]):iv key up nw (z::r) y=z::iv key up nw r y:=by
 match r with
 | []=>exact absurd rfl h
 | w::r=>rfl
theorem Kc(o:List α){r:List α}(y : α)(h:r≠[]):iv key up nw (o++r) y=o++iv key up nw r y:=by
 induction o with
 | nil=>rfl
 | cons z o d=>rw[xq,C0 z y (by simp[h]),d];rfl
theorem Sm(o:List α):∀ (l:List α) {r:List α},r≠[]->l.foldl (iv key up nw) (o++r)=o++l.foldl (iv key up nw) r
 | [],r,_=>rfl
 | y::l,r,h=>by simp only[B5];rw[Kc o y h];exact Sm o l (Yy r y)
include tY sd in
theorem Kd(d:List α)(y : α):∃ o z,iv key up nw d y=o++[z]/\key z=key y:=by
 match d with
 | []=>exact⟨[],nw y,rfl,sd y⟩
 | [z] =>
  simp only[iv];split
  .rename_i h;exact⟨[],up z y,rfl,by rw[tY,h]⟩
  .exact⟨[z],nw y,rfl,sd y⟩
 | z::w::r =>
  obtain⟨o,u,f,i⟩:=Kd (w::r) y;exact⟨z::o,u,by rw[C0 z y (by simp),f];rfl,i⟩
def Et{o:List α}{z y : α}(h:key z≠key y):iv key up nw (o++[z]) y=o++[z,nw y]:=by rw[Kc o y (by simp)];simp[iv,h]
def Jo{o:List α}{z y : α}(h:key z=key y):iv key up nw (o++[z]) y=o++[up z y]:=by rw[Kc o y (by simp)];simp[iv,h]
theorem Sn{o:List α}{z : α}{B:List α}(h:∀ b∈B,key z≠key b):B.foldl (iv key up nw) (o++[z])=o++[z]++fN key up nw B:=by
 cases B with
 | nil=>simp[fN]
 | cons b B =>
  simp only[B5,fN];rw[Et (h b (by simp))];have:o++[z,nw b]=(o++[z])++[nw b]:=by simp
  rw[this,Sm (o++[z]) B (by simp)];rfl
def jP(key : α -> List Int)(l:List α):Prop:=l.Pairwise λa b=>¬ key b<key a
def eI(key : α -> List Int)(l:List α):Prop:=l.Pairwise λa b=>key a<key b
def Kb(l:List α)(y : α):fN key up nw (l++[y])=iv key up nw (fN key up nw l) y:=by simp[fN,yD]
include tY sd in
theorem Dt:∀ (n:Nat) (l:List α),l.length=n->jP key l->eI key (fN key up nw l)/\(∀ z∈fN key up nw l,∃ y∈l,key z=key y)/\(l=[]\/∃ o z o' y,fN key up nw l=o++[z]/\l=o'++[y]/\key z=key y)
 | 0,l,w,_=>by
  have:l=[]:=qV w;subst this;exact⟨by simp[fN,eI],by simp[fN],.inl rfl⟩
 | n+1,l,w,F=>by
  obtain⟨f,y,rfl⟩:∃ f y,l=f++[y]:=⟨l.dropLast,l.getLast (by intro h;simp[h]at w),(List.dropLast_concat_getLast _).symm⟩;have x:f.length=n:=by simpa using w
  have B:jP key f:=(vy.1 F).1;have A:∀ a∈f,¬ key y<key a:=λa k=>(vy.1 F).2.2 a k y (by simp);obtain⟨G,C,H⟩:=Dt n f x B;rw[Kb];obtain⟨o,u,J,K⟩:=Kd tY sd (fN key up nw f) y;refine⟨?_,?_,.inr ⟨o,u,f,y,J,rfl,K⟩⟩
  .obtain rfl|⟨L,z,o',I,j,D,E⟩:=H
   .simp[fN,iv,eI]
   .rw[j]at G ⊢;have g:=vy.1 G;by_cases i:key z=key y
    .rw[Jo i];refine vy.2 ⟨g.1,by simp,λa k b p=>?_⟩;simp only[jF]at p;subst p;rw[tY];exact g.2.2 a k z (by simp)
    .rw[Et i];have r:key z<key y:=by
      obtain h|h|h:=AN (key z) (key y)
      .exact h
      .exact absurd h i
      .rw[E]at h;exact absurd h (A I (by rw[D];simp))
     refine vy.2 ⟨g.1,by simp[sd,r],λa k b p=>?_⟩;have m:=g.2.2 a k z (by simp);simp only[bY,mN,or_false]at p;obtain rfl|rfl:=p
     .exact m
     .rw[sd];exact Ba m r
  .intro z d;obtain rfl|⟨L,M,o',I,j,D,E⟩:=H
   .simp[fN,iv]at d;subst d;exact⟨y,by simp,sd y⟩
   .rw[j]at d;by_cases i:key M=key y
    .rw[Jo i]at d;obtain h|h:=dT.1 d
     .obtain⟨q,s,t⟩:=C z (by rw[j];simp[h]);exact⟨q,by simp[s],t⟩
     .simp at h;subst h;exact⟨y,by simp,by rw[tY,i]⟩
    .rw[Et i]at d;simp only[dT,bY,mN,or_false]at d;obtain h|rfl|rfl:=d
     .obtain⟨q,s,t⟩:=C z (by rw[j];simp[h]);exact⟨q,by simp[s],t⟩
     .obtain⟨q,s,t⟩:=C z (by rw[j];simp);exact⟨q,by simp[s],t⟩
     .exact⟨y,by simp,sd y⟩
include sd in
theorem J6{x : α}{B:List α}(j:∀ b∈B,key x<key b):∀ (A:List α),eI key A->(∀ a∈A,¬ key x<key a)->eQ key up nw (A++B) x=iv key up nw A x++B
 | [],_,_=>by
  cases B with
  | nil=>rfl
  | cons b B =>
   have h:=j b (by simp);have o:¬ key b<key x:=List.lt_asymm h;have i:key b≠key x:=λe=>by rw[e]at h;exact pN _ h
   simp[eQ,iv,o,i]
 | [z],m,d=>by
  obtain h|h|h:=AN (key z) (key x)
  .have k:key z≠key x:=λe=>by rw[e]at h;exact pN _ h
   have:=J6 j [] (by simp[eI]) (by simp);simp only[uJ,iv]at this;simp[eQ,iv,h,k,this]
  .have i:¬ key x<key x:=pN _;simp[eQ,iv,h,i]
  .exact absurd h (d z (by simp))
 | z::w::r,m,d=>by have f:=mM.1 m;have l:key z<key x:=E' (f.1 w (by simp)) (d w (by simp));have n:=J6 j (w::r) f.2 (λa p=>d a (by simp[p]));rw[C0 z x (by simp)];simp only[xq,eQ,l,cB]at n ⊢;rw[<- n]
theorem Li(x : α):∀ (s:List α),jP key s->∃ A B,s=A++B/\eo key s x=A++x::B/\(∀ a∈A,¬ key x<key a)/\(∀ b∈B,key x<key b)
 | [],_=>⟨[],[],rfl,rfl,by simp,by simp⟩
 | z::r,n=>by
  have d:=mM.1 n;by_cases h:key x<key z
  .refine⟨[],z::r,rfl,by simp[eo,h],by simp,λb i=>?_⟩;obtain rfl|i:=bY.1 i
   .exact h
   .exact E' h (d.1 b i)
  .obtain⟨A,B,j,k,l,m⟩:=Li x r d.2;exact⟨z::A,B,by rw[j];rfl,by simp[eo,h,k],λa f=>by
    obtain rfl|f:=bY.1 f
    .exact h
    .exact l a f,m⟩
theorem Qk{x : α}{s:List α}(hs:jP key s):jP key (eo key s x):=by
 obtain⟨A,B,h,i,j,k⟩:=Li x s hs;rw[i];rw[h]at hs;have g:=vy.1 hs;refine vy.2 ⟨g.1,mM.2 ⟨λb d=>List.lt_asymm (k b d),g.2.1⟩,λa f b d=>?_⟩;obtain rfl|d:=bY.1 d
 .exact j a f
 .exact g.2.2 a f b d
include tY sd in
theorem yam{x : α}{s:List α}(hs:jP key s):fN key up nw (eo key s x)=eQ key up nw (fN key up nw s) x:=by
 obtain⟨A,B,F,G,n,j⟩:=Li x s hs;subst F;have g:=vy.1 hs;obtain⟨p,r,t⟩:=Dt tY sd A.length A rfl g.1;obtain⟨I,w,J⟩:=Dt tY sd B.length B rfl g.2.1;have k:∀ b∈fN key up nw B,key x<key b:=λb d=>by obtain⟨y,l,m⟩:=w b d;rw[m];exact j y l
 have C:fN key up nw (A++B)=fN key up nw A++fN key up nw B:=by
  obtain rfl|⟨o,z,K,y,h,i,E⟩:=t
  .simp[fN]
  .have:fN key up nw (A++B)=B.foldl (iv key up nw) (fN key up nw A):=by simp[fN,yD]
   rw[this,h];refine Sn λb d=>?_;have f:key z<key b:=by rw[E];exact OI (n y (by rw[i];simp)) (j b d)
   intro e;rw[e]at f;exact pN _ f
 have D:fN key up nw (A++x::B)=iv key up nw (fN key up nw A) x++fN key up nw B:=by
  have:fN key up nw (A++x::B)=B.foldl (iv key up nw) (iv key up nw (fN key up nw A) x):=by simp[fN,yD]
  rw[this];obtain⟨o,u,h,i⟩:=Kd tY sd (fN key up nw A) x;rw[h];refine Sn λb d=>?_;intro e;have:=j b d;rw[<- i,e]at this;exact pN _ this
 rw[G,C,D];exact(J6 sd k _ p (λa H=>by
  obtain⟨y,l,m⟩:=r a H;rw[m];exact n y l)).symm
include tY sd in
theorem Rv(l:List α):fN key up nw (b6 key l)=sc key up nw l/\jP key (b6 key l):=by
 have d:∀ (l s:List α),jP key s->fN key up nw (l.foldl (eo key) s)=l.foldl (eQ key up nw) (fN key up nw s)/\jP key (l.foldl (eo key) s):=by
  intro l
  induction l with
  | nil=>intro s f;exact⟨rfl,f⟩
  | cons x l h =>
   intro s f;simp only[B5];rw[<- yam tY sd f];exact h _ (Qk f)
 exact d l [] (by simp[jP])
end
def fU:List Int->List Int->Int
 | x::d,y::f=>if x<y then -1 else if y<x then 1 else fU d f
 | _,_=>0
theorem Gv:∀ {a b:List Int},a.length=b.length->(fU a b<0 ↔ a<b)
 | [],[],_=>by simp[fU]
 | x::j,y::k,h=>by
  have i:=Gv (a:=j) (b:=k) (by simpa using h);simp only[fU,List.cons_lt_cons_iff];by_cases d:x<y
  .simp[d]
  .by_cases f:y<x
   .simp[d,f];omega
   .have:x=y:=by omega
    subst this;simp[i]
theorem Gu:∀ {a b:List Int},a.length=b.length->(fU a b=0 ↔ a=b)
 | [],[],_=>by simp[fU]
 | x::j,y::k,h=>by
  have i:=Gu (a:=j) (b:=k) (by simpa using h);simp only[fU,List.cons.injEq];by_cases d:x<y
  .simp[d];omega
  .by_cases f:y<x
   .simp[d,f];omega
   .have:x=y:=by omega
    subst this;simp[i]
def gC(x y:Int):Int:=if x<y then -1 else if y<x then 1 else 0
open Enc (enc)
structure uW where
 f:Int
 l:Int
 t:Int
 w:GW
structure aC where
 f:Int
 i:Int
 o:Int
 t:Int
 w:GW
def GW.cl(w:GW):List PV:=[.bool w.q.neg,.sl (aH w.q.num),.sl (aH w.q.den),.int .i64 w.cost,.bool w.inf,.int .u64 w.set.toNat,.sl (aH w.aP),.sl (aH w.parts)]
instance:Enc uW:=⟨λx=>.agg ([.int .i64 x.f,.int .i64 x.l,.int .i64 x.t]++x.w.cl),11,by decide,λ_=>rfl⟩
instance:Enc aC:=⟨λx=>.agg ([.int .i64 x.f,.int .i64 x.i,.int .i64 x.o,.int .i64 x.t]++x.w.cl),12,by decide,λ_=>rfl⟩
@[simp] theorem yma(x:uW):enc x=.agg [.int .i64 x.f,.int .i64 x.l,.int .i64 x.t,.bool x.w.q.neg,.sl (aH x.w.q.num),.sl (aH x.w.q.den),.int .i64 x.w.cost,.bool x.w.inf,.int .u64 x.w.set.toNat,.sl (aH x.w.aP),.sl (aH x.w.parts)]:=rfl
@[simp] theorem yj2(x:aC):enc x=.agg [.int .i64 x.f,.int .i64 x.i,.int .i64 x.o,.int .i64 x.t,.bool x.w.q.neg,.sl (aH x.w.q.num),.sl (aH x.w.q.den),.int .i64 x.w.cost,.bool x.w.inf,.int .u64 x.w.set.toNat,.sl (aH x.w.aP),.sl (aH x.w.parts)]:=rfl
@[simp] theorem yiv:Enc.sz uW=11:=rfl
@[simp] theorem ygi:Enc.sz aC=12:=rfl
structure gH where
 ring:aB
 sy:Int
 st:Int
 aU:List GW
 fin:List GW
 aE:List uW
structure GTrans where
 ring:aB
 i:Int
 o:Int
 st:Int
 aU:List GW
 fin:List GW
 aE:List aC
instance:Enc gH:=⟨λx=>.agg [.int .i64 x.ring.kind,.sl (aH x.ring.parts),.int .i64 x.sy,.int .i64 x.st,.sl (aH x.aU),.sl (aH x.fin),.sl (aH x.aE)],7,by decide,λ_=>rfl⟩
instance:Enc GTrans:=⟨λx=>.agg [.int .i64 x.ring.kind,.sl (aH x.ring.parts),.int .i64 x.i,.int .i64 x.o,.int .i64 x.st,.sl (aH x.aU),.sl (aH x.fin),.sl (aH x.aE)],8,by decide,λ_=>rfl⟩
@[simp] theorem yj7(x:gH):enc x=.agg [.int .i64 x.ring.kind,.sl (aH x.ring.parts),.int .i64 x.sy,.int .i64 x.st,.sl (aH x.aU),.sl (aH x.fin),.sl (aH x.aE)]:=rfl
@[simp] theorem Wz(x:GTrans):enc x=.agg [.int .i64 x.ring.kind,.sl (aH x.ring.parts),.int .i64 x.i,.int .i64 x.o,.int .i64 x.st,.sl (aH x.aU),.sl (aH x.fin),.sl (aH x.aE)]:=rfl
@[simp] theorem ygo:Enc.sz gH=7:=rfl
@[simp] theorem yfr:Enc.sz GTrans=8:=rfl
def aC.key(x:aC):List Int:=[x.f,x.i,x.o,x.t]
end Go.Ab
namespace Go.Ab
open Enc (enc)
attribute [local simp] fX bL.aR
def U5(l:List GW)(f:FuncId)(d:List PV)(p:GW->Bool)(u:l.length<=4611686018427387904)(o:∀ x∈l,Sp P f (enc x::d) (.pure (.bool (p x)))) :
  zS 181 [.sl (aH l),.fn f d] (.int .i64 (jL p l)):=by
 refine Sp.vz c.nh λ_=>?_;simp[g.nh]
 refine cQ (S:=λk:Nat=>aD [(0,.p (.sl (aH l))),(1,.p (.fn f d)),(7,.p (.int .i64 l.length)),(8,.p (.int .i64 k))] []) (I:=λk=>k<=l.length/\∀ x∈l.take k,p x=false) (m:=λk=>l.length - k) 0
  (aA.to [0,1,7,8] [] (by simp)) ⟨by omega,by simp⟩ ?_
 rintro k ⟨t,j⟩ R r s h;have n:=bH k;simp[g.um,aD];refine⟨λi=>?_,λi=>h _ _ ?_⟩
 .refine bK i ?_
  try simp
  refine bF (o l[k] (bV i)) (lH (by simp) (zN _ _)) ?_;obtain h3|h3:=ju (p l[k])
  .simp[h3];refine s _ ?_;simp[GF i j h3]
  .simp[h3,n];refine r (k+1) _ (aA.to [0,1,7,8] [] (by simp)) ⟨by omega,λx h=>?_⟩ (by omega);rw[ed i]at h;obtain h|h:=dT.1 h
   .exact j x h
   .simp at h;rw[h];exact h3
 .have:k=l.length:=by omega
  subst this;simp[Hm (p:=p) (l:=l) (by simpa using j)]
def UX(l:List GW)(f:FuncId)(d:List PV)(p:GW->Bool)(i:l.length<=4611686018427387904)(h:∀ x∈l,Sp P f (enc x::d) (.pure (.bool (p x)))) :
  zS 142 [.sl (aH l),.fn f d] (.bool (l.any p)):=by
 refine Sp.vz c.mm λ_=>?_;simp[g.mm];refine bF (U5 l f d p i h) rfl ?_;simp[Qi]
def UM(l:List aC)(f:FuncId)(d:List PV)(p:aC->Bool)(u:l.length<=4611686018427387904)(o:∀ x∈l,Sp P f (enc x::d) (.pure (.bool (p x)))) :
  zS 127 [.sl (aH l),.fn f d] (.int .i64 (jL p l)):=by
 refine Sp.vz c.l9 λ_=>?_;simp[g.l9]
 refine cQ (S:=λk:Nat=>aD [(0,.p (.sl (aH l))),(1,.p (.fn f d)),(7,.p (.int .i64 l.length)),(8,.p (.int .i64 k))] []) (I:=λk=>k<=l.length/\∀ x∈l.take k,p x=false) (m:=λk=>l.length - k) 0
  (aA.to [0,1,7,8] [] (by simp)) ⟨by omega,by simp⟩ ?_
 rintro k ⟨t,j⟩ R r s h;have n:=bH k;simp[g.tx,aD];refine⟨λi=>?_,λi=>h _ _ ?_⟩
 .refine bK i ?_
  try simp
  refine bF (o l[k] (bV i)) (lH (by simp) (zN _ _)) ?_;obtain h3|h3:=ju (p l[k])
  .simp[h3];refine s _ ?_;simp[GF i j h3]
  .simp[h3,n];refine r (k+1) _ (aA.to [0,1,7,8] [] (by simp)) ⟨by omega,λx h=>?_⟩ (by omega);rw[ed i]at h;obtain h|h:=dT.1 h
   .exact j x h
   .simp at h;rw[h];exact h3
 .have:k=l.length:=by omega
  subst this;simp[Hm (p:=p) (l:=l) (by simpa using j)]
def U8(l m:List aF)(f:FuncId)(F:l.length<=4611686018427387904)(A:∀ x∈l,∀ y∈m,Sp P f [enc x,enc y] (.pure (.bool (decide (x=y))))) :
  zS 170 [.sl (aH l),.sl (aH m),.fn f []] (.bool (decide (l=m))):=by
 refine Sp.vz c.nc λ_=>?_;simp[g.nc];refine⟨λh=>?_,λh=>λz=>h (by rw[z])⟩;have i:l.length=m.length:=by omega
 refine cQ (S:=λk:Nat=>aD [(1,.p (.sl (aH m))),(2,.p (.fn f [])),(15,.p (.sl (aH l))),(16,.p (.int .i64 l.length)),(17,.p (.int .i64 k))] []) (I:=λk=>k<=l.length/\l.take k=m.take k) (m:=λk=>l.length - k) 0
  (aA.to [1,2,15,16,17] [] (by simp)) ⟨by omega,by simp⟩ ?_
 rintro k ⟨E,r⟩ R B C D;have s:=bH k;simp[g.ug,aD];refine⟨λn=>?_,λn=>D _ _ ?_⟩
 .have d:k<m.length:=by omega
  have o:l[k]≠m[k]->l≠m:=λh t=>by subst t;exact h rfl
  refine bK n ?_
  try simp
  refine bK d ?_
  try simp
  refine bA (A l[k] (bV n) m[k] (bV d)) ?_;by_cases j:l[k]=m[k]
  .simp[j,s];exact B (k+1) _ (aA.to [1,2,15,16,17] [] (by simp)) ⟨by omega,by rw[ed n,ed d,r,j]⟩ (by omega)
  .have w:l≠m:=o j;simp[j];exact C _ (by simp[w])
 .have u:l=m:=by rw[<- List.take_length (l:=l),<- List.take_length (l:=m),<- i,show l.length=k by omega];exact r
  simp[u]
def UW(l m:List GW)(f:FuncId)(F:l.length<=4611686018427387904)(A:∀ x∈l,∀ y∈m,Sp P f [enc x,enc y] (.pure (.bool (decide (x=y))))) :
  zS 171 [.sl (aH l),.sl (aH m),.fn f []] (.bool (decide (l=m))):=by
 refine Sp.vz c.ne λ_=>?_;simp[g.ne];refine⟨λh=>?_,λh=>λz=>h (by rw[z])⟩;have i:l.length=m.length:=by omega
 refine cQ (S:=λk:Nat=>aD [(1,.p (.sl (aH m))),(2,.p (.fn f [])),(15,.p (.sl (aH l))),(16,.p (.int .i64 l.length)),(17,.p (.int .i64 k))] []) (I:=λk=>k<=l.length/\l.take k=m.take k) (m:=λk=>l.length - k) 0
  (aA.to [1,2,15,16,17] [] (by simp)) ⟨by omega,by simp⟩ ?_
 rintro k ⟨E,r⟩ R B C D;have s:=bH k;simp[g.uh,aD];refine⟨λn=>?_,λn=>D _ _ ?_⟩
 .have d:k<m.length:=by omega
  have o:l[k]≠m[k]->l≠m:=λh t=>by subst t;exact h rfl
  refine bK n ?_
  try simp
  refine bK d ?_
  try simp
  refine bA (A l[k] (bV n) m[k] (bV d)) ?_;by_cases j:l[k]=m[k]
  .simp[j,s];exact B (k+1) _ (aA.to [1,2,15,16,17] [] (by simp)) ⟨by omega,by rw[ed n,ed d,r,j]⟩ (by omega)
  .have w:l≠m:=o j;simp[j];exact C _ (by simp[w])
 .have u:l=m:=by rw[<- List.take_length (l:=l),<- List.take_length (l:=m),<- i,show l.length=k by omega];exact r
  simp[u]
theorem US(l:List aC)(d:l.length<=2147483648):Sp P 71 [.sl (aH l)] (.fresh 12 (aH l)):=by
 cases l with
 | nil =>
  refine Sp.rZ ?_ ?_
  .refine Sp.vz c.b9 λ_=>?_;simp[g.b9]
  .refine Sp.vz c.b9 λ_=>?_;simp[g.b9,eS]
 | cons x l =>
  refine Sp.vz c.b9 λ_=>?_;simp at d;simp[g.b9,eS,d]
def SD(x:Int):zS 160 [.int .i64 x] (.bool false):=by refine Sp.vz c.mq λ_=>?_;simp[g.mq]
def yt(x y:Int):zS 120 [.int .i64 x,.int .i64 y] (.int .i64 (gC x y)):=by refine Sp.vz c.fg λ_=>?_;simp[g.fg];refine bF (SD x) rfl ?_;simp;refine bF (SD y) rfl ?_;simp[gC];refine⟨λ_ _=>by split<;>omega,λ_=>⟨λ_=>by(repeat' split)<;>omega,λ_=>by(repeat' split)<;>omega⟩⟩
def y6:List Int->Int
 | []=>0
 | x::r=>if x=0 then y6 r else x
theorem Uf{l:List Int}:∀ {k:Nat},(∀ x∈l.take k,x=0)->y6 l=y6 (l.drop k):=by
 intro k
 induction l generalizing k with
 | nil=>simp
 | cons x l f =>
  cases k with
  | zero=>simp
  | succ k =>
   intro h;have:x=0:=h x (by simp);simp only[y6,this,cB,Mn];exact f λy d=>h y (by simp[d])
def SM(l:List Int)(u:l.length<=4611686018427387904):zS 119 [.sl (aH l)] (.int .i64 (y6 l)):=by
 refine Sp.vz c.i6 λ_=>?_;simp[g.i6]
 refine cQ (S:=λk:Nat=>aD [(3,.p (.int .i64 0)),(6,.p (.sl (aH l))),(7,.p (.int .i64 l.length)),(8,.p (.int .i64 k))] []) (I:=λk=>k<=l.length/\∀ x∈l.take k,x=0) (m:=λk=>l.length - k) 0
  (aA.to [3,6,7,8] [] (by simp)) ⟨by omega,by simp⟩ ?_
 rintro k ⟨t,n⟩ R r s d;have o:=bH k;have f:=Uf n;simp[g.tv,aD];refine⟨λh=>?_,λh=>d _ _ ?_⟩
 .have j:l.drop k=l[k]::l.drop (k+1):=vw h;rw[j]at f;refine bK h ?_;simp[o];refine⟨λi=>?_,λi=>?_⟩
  .refine r (k+1) _ (aA.to [3,6,7,8] [] (by simp)) ⟨by omega,λx d=>?_⟩ (by omega);rw[ed h]at d;obtain d|d:=dT.1 d
   .exact n x d
   .simp at d;rw[d];exact i
  .refine s _ ?_;simp[y6,i]at f;simp[f]
 .have:k=l.length:=by omega
  subst this;simp[y6]at f;simp[f]
def P1(l m:List UInt32)(C:l.length<=4611686018427387904):zS 252 [.sl (aH l),.sl (aH m)] (.bool (decide (l=m))):=by
 refine Sp.vz c.nq λ_=>?_;simp[g.nq];refine⟨λh=>?_,λh=>λx=>h (by rw[x])⟩;have f:l.length=m.length:=by omega
 refine cQ (S:=λk:Nat=>aD [(0,.p (.sl (aH l))),(1,.p (.sl (aH m))),(12,.p (.int .i64 l.length)),(13,.p (.int .i64 k))] []) (I:=λk=>k<=l.length/\l.take k=m.take k) (m:=λk=>l.length - k) 0
  (aA.to [0,1,12,13] [] (by simp)) ⟨by omega,by simp⟩ ?_
 rintro k ⟨B,n⟩ R y z A;have r:=bH k;simp[g.uw,aD];refine⟨λj=>?_,λj=>A _ _ ?_⟩
 .have d:k<m.length:=by omega
  have i:l[k]≠m[k]->l≠m:=λh s=>by subst s;exact h rfl
  refine bK j ?_;refine bK d ?_;simp[r];refine⟨λo=>?_,λo=>?_⟩
  .have u:l[k]=m[k]:=UInt32.toNat_inj.1 (by omega);exact y (k+1) _ (aA.to [0,1,12,13] [] (by simp)) ⟨by omega,by rw[ed j,ed d,n,u]⟩ (by omega)
  .have w:l≠m:=i λh=>o (by rw[h]);exact z _ (by simp[w])
 .have t:l=m:=by rw[<- List.take_length (l:=l),<- List.take_length (l:=m),<- f,show l.length=k by omega];exact n
  simp[t]
def PU(x y:aS)(h:x.sm 1073741824):zS 169 [enc x,enc y] (.bool (decide (x=y))):=by
 refine Sp.vz c.jk λ_=>?_;simp[g.jk];have key:∀ (x y:aS),x=y ↔ x.neg=y.neg/\x.num=y.num/\x.den=y.den:=by intro x y;cases x;cases y;simp
 refine⟨λd=>?_,λd=>?_⟩
 .refine bF (P1 x.num y.num (by have:=h.1;omega)) rfl ?_;by_cases f:x.num=y.num
  .simp[f];refine bF (P1 x.den y.den (by have:=h.2;omega)) rfl ?_;simp[key x y,d,f]
  .simp[key x y,f]
 .simp[key x y,d]
def Ln(e:Ex)(h:(-1000<e.a/\e.a<1000)/\(-1000<e.b/\e.b<1000) /\ -1000<e.c/\e.c<1000):zS 340 [enc e] (.int .i64 (e.a+e.b+e.c)):=by have j:IntKind.i64.wrap e.a=e.a:=b5;have k:IntKind.i64.wrap (e.a+e.b)=e.a+e.b:=b5;have l:IntKind.i64.wrap (e.a+e.b+e.c)=e.a+e.b+e.c:=b5;refine Sp.vz c.j8 λ_=>?_;simp[g.j8];refine jR λR d i f=>?_;simp[g.pj,j];refine d _ ?_;clear d i f;refine jR λR d i f=>?_;simp[g.pj,k];refine d _ ?_;clear d i f;refine jR λR d i f=>?_;simp[g.pj,l];refine d _ ?_;clear d i f;refine jR λR d i f=>?_;simp[g.pj];refine f _ _ ?_;simp
def OO(d e:Ex):zS 290 [enc d,enc e] (.int .i64 (e.cmp d)):=by
 refine Sp.vz c.j6 λ_=>?_;simp[g.j6];refine jR λR f i j=>?_;simp[g.pi];refine bF (yt e.a d.a) rfl ?_;simp;refine⟨λh=>?_,λh=>?_⟩;rotate_left
 .refine i _ ?_;simp;unfold gC at h ⊢;unfold Ex.cmp
  (repeat' split)<;>first|rfl|omega|simp_all
 refine f _ ?_;clear f i j;refine jR λR f i j=>?_;simp[g.pi];refine bF (yt e.b d.b) rfl ?_;simp;refine⟨λk=>?_,λk=>?_⟩;rotate_left
 .refine i _ ?_;simp;unfold gC at h k ⊢;unfold Ex.cmp
  (repeat' split)<;>first|rfl|omega|simp_all
 refine f _ ?_;clear f i j;refine jR λR f i j=>?_;simp[g.pi];refine bF (yt e.c d.c) rfl ?_;simp;refine⟨λl=>?_,λl=>?_⟩;rotate_left
 .refine i _ ?_;simp;unfold gC at h k l ⊢;unfold Ex.cmp
  (repeat' split)<;>first|rfl|omega|simp_all
 refine f _ ?_;clear f i j;refine jR λR f i j=>?_;simp[g.pi];refine j _ _ ?_;simp;unfold gC at h k l;unfold Ex.cmp
 (repeat' split)<;>first|rfl|omega|simp_all
def yaa(m:aF)(n:m.aX.sm 1048576):zS 289 [enc m] (.bool m.ok):=by
 have d:(¬ (0<=m.e.a/\m.e.a<=5)\/¬ (0<=m.e.b/\m.e.b<=5)\/¬ (0<=m.e.c/\m.e.c<=5))->m.ok=false:=by
  intro h;have:m.e.ok=false:=by simp only[Ex.ok,decide_eq_false_iff_not];omega
  simp[aF.ok,this]
 refine Sp.vz c.n5 λ_=>?_;simp[g.n5];refine jR λR i f j=>?_;by_cases t:0<=m.e.a;rotate_left
 .simp[g.d7,show m.e.a<0 by omega];refine f _ ?_;simp[d (by omega)]
 by_cases o:m.e.a<=5;rotate_left
 .simp[g.d7,show ¬ m.e.a<0 by omega,show 5<m.e.a by omega];refine f _ ?_;simp[d (by omega)]
 simp[g.d7,show ¬ m.e.a<0 by omega,show ¬ 5<m.e.a by omega];refine i _ ?_;clear i f j;refine jR λR i f j=>?_;by_cases u:0<=m.e.b;rotate_left
 .simp[g.d7,show m.e.b<0 by omega];refine f _ ?_;simp[d (by omega)]
 by_cases p:m.e.b<=5;rotate_left
 .simp[g.d7,show ¬ m.e.b<0 by omega,show 5<m.e.b by omega];refine f _ ?_;simp[d (by omega)]
 simp[g.d7,show ¬ m.e.b<0 by omega,show ¬ 5<m.e.b by omega];refine i _ ?_;clear i f j;refine jR λR i f j=>?_;by_cases w:0<=m.e.c;rotate_left
 .simp[g.d7,show m.e.c<0 by omega];refine f _ ?_;simp[d (by omega)]
 by_cases r:m.e.c<=5;rotate_left
 .simp[g.d7,show ¬ m.e.c<0 by omega,show 5<m.e.c by omega];refine f _ ?_;simp[d (by omega)]
 simp[g.d7,show ¬ m.e.c<0 by omega,show ¬ 5<m.e.c by omega];refine i _ ?_;clear i f j;refine jR λR i f j=>?_;simp[g.d7];refine j _ _ ?_;clear i f j;simp;refine bF (Ln m.e (by omega)) rfl ?_;simp;refine⟨λs=>?_,λs=>?_⟩
 .have k:m.e.ok=true:=by simp only[Ex.ok,decide_eq_true_eq];omega
  refine bF (K4 m.aX (n.mono (by omega))) rfl ?_;obtain l|l:=ju m.aX.valid
  .simp[l];refine bF (GR m.aX (n.mono (by omega))) rfl ?_;simp[aF.ok,k,l,Dm]
  .simp[l,aF.ok]
 .have k:m.e.ok=false:=by simp only[Ex.ok,decide_eq_false_iff_not];omega
  simp[aF.ok,k]
def OU(p:List aF)(hp:fR p 1048576)(C:p.length<=1073741824):zS 235 [.sl (aH p)] (.bool (decide (bM p))):=by
 refine Sp.vz c.jx λ_=>?_;simp[g.jx]
 refine cQ (S:=λk:Nat=>aD [(0,.p (.sl (aH p))),(5,.p (.sl (aH p))),(6,.p (.int .i64 p.length)),(7,.p (.int .i64 k))] []) (I:=λk=>k<=p.length/\∀ i,(h:i<p.length)->i<k->p[i].ok=true/\(0<i->p[i].e.cmp (p[i - 1]'(by omega)).e<0)) (m:=λk=>p.length - k) 0
  (aA.to [0,5,6,7] [] (by simp)) ⟨by omega,λi h j=>by omega⟩ ?_
 rintro k ⟨A,o⟩ R s t y;have w:=bH k;simp[g.uu,aD];refine⟨λf=>?_,λf=>y _ _ ?_⟩
 .have d:¬ (p[k].ok=true/\(0<k->p[k].e.cmp (p[k - 1]'(by omega)).e<0))->decide (bM p)=false:=λh=>decide_eq_false λx=>h (x k f);refine bK f ?_
  try simp
  refine bA (yaa p[k] (hp _ (bV f))) ?_;have step:p[k].ok=true->(0<k->p[k].e.cmp (p[k - 1]'(by omega)).e<0)->∀ i,(h:i<p.length)->i<k+1->p[i].ok=true/\(0<i->p[i].e.cmp (p[i - 1]'(by omega)).e<0):=by
   intro a b i h B;by_cases l:i<k
   .exact o i h l
   .have:i=k:=by omega
    subst this;exact⟨a,b⟩
  obtain h3|h3:=ju p[k].ok;rotate_left
  .simp[h3];refine t _ ?_;simp;simpa using d (by simp[h3])
  by_cases j:0<k;rotate_left
  .have:k=0:=by omega
   subst this;simp[h3];refine s 1 _ (aA.to [0,5,6,7] [] (by simp)) ⟨by omega,step h3 (by omega)⟩ (by omega)
  have u:IntKind.i64.wrap ((k:Int) - 1)=((k - 1:Nat):Int):=by rw[cG (by omega) (by omega)];omega
  have z:0<(k:Int):=by omega
  have n:k - 1<p.length:=by omega
  simp[h3,u,j];refine bK n ?_
  try simp
  refine bA (OO p[k - 1].e p[k].e) ?_;by_cases r:p[k].e.cmp p[k - 1].e<0
  .simp[show ¬ (0<=p[k].e.cmp p[k - 1].e) by omega,w];refine s (k+1) _ (aA.to [0,5,6,7] [] (by simp)) ⟨by omega,step h3 (λ_=>r)⟩ (by omega)
  .simp[show 0<=p[k].e.cmp p[k - 1].e by omega];refine t _ ?_;simp;simpa using d (λh=>r (h.2 j))
 .have:bM p:=λi h=>o i h (by omega);simp[this]
def Hh(p:List aF)(hp:fR p 1048576)(d:p.length<=1073741824):zS 294 [.sl (aH p)] (.sl (aH (pv p))):=by
 refine Sp.vz c.d0 λ_=>?_;simp[g.d0];refine bF (OU p hp d) rfl ?_;by_cases h:bM p
 .simp[h,pv]
 .simp[h,pv]
end Go.Ab
