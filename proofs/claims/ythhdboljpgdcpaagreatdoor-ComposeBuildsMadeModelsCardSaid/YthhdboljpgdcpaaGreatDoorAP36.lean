/- Lemmas for the law ComposeBuildsMadeModels, part 36. No conditions. -/
import Derived.Test.YthhdboljpgdcpaaGreatDoorAP35
set_option maxRecDepth 100000
set_option maxHeartbeats 4000000
set_option linter.all false
namespace Go.Ab
open Enc (enc)
def z26(k n:Int)(h:0<n):(if k.tmod n<0 then k.tmod n+n else k.tmod n)=k % n:=by
 have d:=Int.tmod_eq_emod (a:=k) (b:=n);have f:=B1 k (show n≠0 by omega);have i:=B0 k h;rw[d];have j:(n.natAbs:Int)=n:=by omega
 split<;>split<;>omega
def sv(k n:Int)(h:0<n)(hn:n<=1000000):zS 41 [.int .i64 k,.int .i64 n] (.int .i64 (k % n)):=by
 have b:=z26 k n h;have f:=B1 k (show n≠0 by omega);have i:=B0 k h;refine Sp.vz c.ar λ_=>?_;simp[g.ar];refine⟨by omega,λd=>?_,λd=>?_⟩
 .rw[aW d]at b;rw[b,cG (by omega) (by omega)]
 .rw[aY (by omega)]at b;exact b
def nx(b:Int)(w:List Int)(a:Nat):Int:=if b=0 then a else if w[a]?=some b then a+1 else -1
instance:Enc (Int × Int):=⟨λx=>.agg [.int .i64 x.1,.int .i64 x.2],2,by decide,λ_=>rfl⟩
@[simp] theorem yj3(x:Int × Int):enc x=.agg [.int .i64 x.1,.int .i64 x.2]:=rfl
@[simp] theorem ygk:Enc.sz (Int × Int)=2:=rfl
def qF(on:List Bool)(p:Int × Int):List Bool:=if on.getD p.1.toNat false=true then on.set p.2.toNat true else on
def lL(ps:List (Int × Int))(on:List Bool):List Bool:=ps.foldl qF on
def iF(ps:List (Int × Int)):Nat->List Bool->List Bool
 | 0,b=>b
 | n+1,b=>iF ps n (lL ps b)
def R3(on p):(qF on p).length=on.length:=by unfold qF;split<;>simp
theorem JE:∀ (ps:List (Int × Int)) (on:List Bool),(lL ps on).length=on.length
 | [],_=>rfl
 | p::ps,on=>by rw[show lL (p::ps) on=lL ps (qF on p) from rfl,JE,R3]
theorem ze(ps:List (Int × Int)):∀ (n:Nat) (on:List Bool),(iF ps n on).length=on.length
 | 0,_=>rfl
 | n+1,on=>by rw[show iF ps (n+1) on=iF ps n (lL ps on) from rfl,ze,JE]
theorem Ol(ps:List (Int × Int)):∀ (n:Nat) (on:List Bool),iF ps (n+1) on=lL ps (iF ps n on)
 | 0,_=>rfl
 | n+1,on=>by rw[show iF ps (n+1+1) on=iF ps (n+1) (lL ps on) from rfl,Ol];rfl
theorem z85{ps:List (Int × Int)}{k:Nat}(h:k<ps.length)(on:List Bool):lL (ps.take (k+1)) on=qF (lL (ps.take k) on) ps[k]:=by unfold lL;rw[ed h,yD];rfl
def toNat_lt{p:Int}{n:Nat}(h:0<=p/\p<n):∃ k:Nat,p=k/\k<n:=⟨p.toNat,by omega,by omega⟩
def PX(on:List Bool)(ps:List (Int × Int))(hn:on.length<=100000)(hp:ps.length<=100000)(h:∀ p∈ps,(0<=p.1/\p.1<on.length)/\0<=p.2/\p.2<on.length) :
  zS 135 [.sl (aH on),.sl (aH ps)] (.sl (aH (iF ps on.length on))):=by
 refine Sp.vz c.me λ_=>?_;simp[g.me];refine⟨?_,?_⟩
 .omega
 refine cQ (S:=λk:Nat=>aD [(0,.own 1 0 0 on.length),(1,.p (.sl (aH ps))),(5,.p (.int .i64 k))] [(1,⟨1,aT (iF ps k on)⟩)]) (I:=λk=>k<=on.length) (m:=λk=>on.length - k) 0
  (aA.to [0,1,5] [((8,0),1)] (by simp[iF])) (by omega) ?_
 rintro k h1 R o hr X;have U:=bH k;simp[g.ud,aD];refine⟨λV=>?_,λV=>X _ _ ?_⟩
 .refine cQ (S:=λi:Nat=>aD [(0,.own 1 0 0 on.length),(1,.p (.sl (aH ps))),(5,.p (.int .i64 k)),(6,.p (.int .i64 i))] [(1,⟨1,aT (lL (ps.take i) (iF ps k on))⟩)]) (I:=λi=>i<=ps.length) (m:=λi=>ps.length - i) 0
   (aA.to [0,1,5,6] [((1,0),1)] (by simp[lL])) (by omega) ?_
  rintro i h2 Y j W u;have B:=bH i;have G:(lL (ps.take i) (iF ps k on)).length=on.length:=by rw[JE,ze]
  simp[g.uc,aD];refine⟨λf=>?_,λf=>u _ _ ?_⟩
  .obtain⟨⟨J,N⟩,O,Q⟩:=h _ (bV f);obtain⟨x,C,z⟩:=toNat_lt ⟨J,N⟩;obtain⟨y,D,A⟩:=toNat_lt ⟨O,Q⟩;refine bK f ?_;simp[C];have l:=z85 f (iF ps k on);generalize F:lL (List.take i ps) (iF ps k on)=d at *
   have b:qF d ps[i]=if d[x]=true then d.set y true else d:=by unfold qF;rw[C,D,kQ,kQ,eT,dF (by omega),xp]
   refine⟨⟨z,by omega⟩,bK (by omega) ?_⟩;by_cases n:d[x]=true
   .rw[aW n]at b;simp[n];refine bK f ?_;simp[D,B];refine⟨⟨A,by omega⟩,bK (by omega) ?_⟩;exact j (i+1) _ (aA.to [0,1,5,6] [((1,0),1)] (by simp[aD,l,b])) (by omega) (by omega)
   .rw[aY n]at b;simp[n,B];exact j (i+1) _ (aA.to [0,1,5,6] [((1,0),1)] (by simp[aD,l,b])) (by omega) (by omega)
  .have:i=ps.length:=by omega
   subst this;simp[U];exact o (k+1) _ (aA.to [0,1,5] [((1,0),1)] (by simp[aD,Ol])) (by omega) (by omega)
 .have:k=on.length:=by omega
  subst this;simp[ze];rw[fK (by rw[ze];omega)]
structure c4 (r:aB) where
 mb:Nat->GW->Prop
 lim:Nat
 mono:∀ {m n:Nat} {w:GW},mb m w->m<=n->mb n w
 zero:mb 0 r.zero
 plus:∀ {v w:GW} {n:Nat},v.aQ r->w.aQ r->mb n v->mb n w->mb (n+1) (r.plus v w)
 times:∀ {v w:GW} {m n:Nat},v.aQ r->w.aQ r->mb m v->mb n w->mb (m+n+1) (r.times v w)
 plusS:∀ {v w:GW} {n:Nat},n<=lim->v.aQ r->w.aQ r->mb n v->mb n w->zS 130 [enc r,enc v,enc w] (enc (r.plus v w))
 timesS:∀ {v w:GW} {n:Nat},n<=lim->v.aQ r->w.aQ r->mb n v->mb n w->zS 32 [enc r,enc v,enc w] (enc (r.times v w))
def vb{r:aB}(M:c4 r)(n:Nat)(l:List GW):Prop:=∀ w∈l,w.aQ r/\M.mb n w
def aC.fit(x:aC)(N:Nat):Prop:=(0<=x.f/\x.f<N)/\0<=x.t/\x.t<N
section
variable {P:Program} {K:Ctx} {Z Z':Cz} {st st':St} {w w':World} {a:Act}
end
section
variable {r:aB} (M:c4 r)
def fits{r:aB}(M:c4 r)(c N:Nat)(l:List aC):Prop:=∀ x∈l,(x.w.aQ r/\M.mb c x.w)/\x.fit N
structure GTrans.fits {r:aB} (M:c4 r) (c:Nat) (t:GTrans):Prop where
 ring:t.ring=r
 st:0<=t.st/\t.st<=64
 aE:Go.Ab.fits M c t.st.toNat t.aE
 aU:vb M c t.aU/\t.aU.length=t.st.toNat
 fin:vb M c t.fin/\t.fin.length=t.st.toNat
 rok:r.ok=true
variable {M}
end
section
variable (t:GTrans) (wx wy:List Int)
end
def Za(w:List Int)(m:Int):Prop:=(1<=m/\m<=32)/\w.length<=256/\∀ x∈w,1<=x/\x<=m
noncomputable instance (w:List Int) (m:Int):Decidable (Za w m):=Classical.propDecidable _
def y8(a:Int)(d k B:Nat)(h:d*k=6)(i:a.natAbs<=B):qb 6 (B*k) (Rat.divInt a d):=by
 have b:qb d B (Rat.divInt a d):=⟨a,Rat.divInt_ofNat a d,i⟩;have f:=C8 k (by rintro rfl;omega) b
 rwa[h]at f
def oY(v:Int):Int:=1+IntKind.i64.wrap (v.tdiv 13) % 3
def iW(v:Int):Rat:=Rat.divInt (v % 13 - 6) (oY v)
def Eu(v:Int):qb 6 36 (iW v):=by
 have d:oY v=1\/oY v=2\/oY v=3:=by unfold oY;omega
 have b:(v % 13 - 6).natAbs<=6:=by omega
 unfold iW;obtain h|h|h:=d<;>rw[h]
 .exact qA (y8 _ 1 6 6 rfl b) (by omega)
 .exact qA (y8 _ 2 3 6 rfl b) (by omega)
 .exact qA (y8 _ 3 2 6 rfl b) (by omega)
def Tn{B:Nat}{q:Rat}(h:qb 6 B q)(b:B<4294967296):(cH q).sm 1:=Fw h (by omega) (by omega) (by omega)
def Pa(v:Int):zS 90 [.int .i64 v] (enc (cH (iW v))):=by
 have b:IntKind.i64.wrap (v % 13 - 6)=v % 13 - 6:=b5;have d:IntKind.i64.wrap (1+IntKind.i64.wrap (v.tdiv 13) % 3)=oY v:=b5;have f:oY v=1\/oY v=2\/oY v=3:=by unfold oY;omega
 refine Sp.vz c.lj λ_=>?_;simp[g.lj];refine bA (sv v 13 (by omega) (by omega)) ?_;simp[b];refine bA (sv (IntKind.i64.wrap (v.tdiv 13)) 3 (by omega) (by omega)) ?_;simp[d];refine bA (yn (v % 13 - 6) (oY v) (by omega) (by omega) (by omega)) ?_;simp[iW]
def Ax(v:Int):List aF :=
 let p:=eP [] ⟨0,0,0⟩ (Rat.divInt (v % 5 - 2) 3)
 if IntKind.i64.wrap (v.tdiv 5) % 2=1 then eF p (fA (sB (IntKind.i64.wrap (v.tdiv 10) % 3)) (qt (iW v)))else p
def rH(k v:Int):GW :=
 if k=1 then .mk (cH (iW v)) 0 false 0 [] []
 else if k=2 then(if v % 11=10 then(⟨2,[]⟩:aB).zero else .mk dI (v % 11) false 0 [] [])
 else if k=3 then .mk (cH (Rat.divInt (v % 7) 6)) 0 false 0 [] []
 else if k=4 then .mk dI 0 false (UInt64.ofNat (v % 16).toNat) [] []
 else .mk dI 0 false 0 (Ax v) []
def OR(q:Rat):bM (eP [] ⟨0,0,0⟩ q):=G8 _ _ AO
def ER{B:Nat}{q:Rat}(h:qb 6 B q):jU 6 B (eP [] ⟨0,0,0⟩ q):=by
 have:=JN (JM 6) h (by omega) ⟨0,0,0⟩
 rwa[qW]at this
def PO(i:Int):bM (sB i):=by
 unfold sB;split
 .refine iq.2 ⟨λm d=>?_,List.pairwise_singleton _ _⟩;rw[jF.1 d];refine aF.bW.2 ⟨?_,sP 1,by rw[iN];decide⟩;have b:i=0\/i=1\/i=2:=by omega
  obtain rfl|rfl|rfl:=b<;>rfl
 .exact AO
def OQ(i:Int):jU 1 1 (sB i):=λe=>by
 unfold sB;split
 .simp only[pc];rw[iN];split
  .exact⟨1,by rw[pO];exact(Ic 1).symm,by decide⟩
  .exact qA (by rw[pO];exact CX 1) (by omega)
 .exact qA (CX 1) (by omega)
def PM(v:Int):bM (Ax v)/\jU 6 1700000 (Ax v):=by
 have h:qb 6 36 (Rat.divInt (v % 5 - 2) 3):=qA (y8 (v % 5 - 2) 3 2 6 rfl (by omega)) (by omega);have d:=OR (Rat.divInt (v % 5 - 2) 3);have f:=ER h;unfold Ax;simp only;split
 .have b:=PO (IntKind.i64.wrap (v.tdiv 10) % 3);have l:=OQ (IntKind.i64.wrap (v.tdiv 10) % 3);have j:jU 6 36 (qt (iW v)):=ER (Eu v);have k:=EL (yy l b) (yy j (Dw _)) (by omega);have m:=qS b;have n:=qS (Dw (iW v));have i:(sB (IntKind.i64.wrap (v.tdiv 10) % 3)).length*((qt (iW v)).length*(1*36))<=216*(216*(1*36)):=mS m (kD _ n);refine⟨xg _ d,λe=>qA (RS f (λe=>qA (k e) i) (xK _ _) (by omega) e) (by omega)⟩
 .exact⟨d,λe=>qA (f e) (by omega)⟩
def WR(v:Int):zS 60 [enc (cH (Rat.divInt (v % 5 - 2) 3))] (.sl (aH (eP [] ⟨0,0,0⟩ (Rat.divInt (v % 5 - 2) 3)))):=by
 have b:qb 6 36 (Rat.divInt (v % 5 - 2) 3):=qA (y8 (v % 5 - 2) 3 2 6 rfl (by omega)) (by omega);have:=LA (cH (Rat.divInt (v % 5 - 2) 3)) ((Tn b (by omega)).mono (by omega))
 rwa[iN]at this
def F0{B:Nat}{q:Rat}(h:qb 6 B q)(b:B<=6291456):qm 1 q:=by unfold qm;rw[show mD 1=6 from rfl,show mB 1=6291456 from rfl];exact qA h b
def Lp{k:Int}(d:1<=k/\k<=5)(v:Int):(rH k v).si k/\(rH k v).xu 1:=by
 have h:k=1\/k=2\/k=3\/k=4\/k=5:=by omega
 obtain rfl|rfl|rfl|rfl|rfl:=h
 .refine⟨wB.2 ⟨rfl,rfl,rfl,rfl,rfl,sP _⟩,?_,λe=>yp 1⟩;show qm 1 (cH (iW v)).v;rw[iN];exact F0 (Eu v) (by omega)
 .unfold rH;rw[aY (by omega),aW rfl];split
  .exact⟨Kx (k:=2) (by omega),CS ..⟩
  .exact⟨oV.2 ⟨rfl,rfl,rfl,rfl,by show 0<=v % 11;omega,by show v % 11<=1099511627776;omega,λh=>by cases h⟩,CS ..⟩
 .have b:qb 6 6 (Rat.divInt (v % 7) 6):=qA (y8 (v % 7) 6 1 6 rfl (by omega)) (by omega);refine⟨vG.2 ⟨rfl,rfl,rfl,rfl,rfl,sP _,?_,?_⟩,?_,λe=>yp 1⟩
  .show 0<=(cH (Rat.divInt (v % 7) 6)).v;rw[iN];exact Rat.divInt_nonneg (by omega) (by omega)
  .show(cH (Rat.divInt (v % 7) 6)).v<=1;rw[iN,Rat.le_iff_sub_nonneg,show(1:Rat)=Rat.divInt 6 6 from rfl,Rat.divInt_sub_divInt _ _ (by omega) (by omega)];exact Rat.divInt_nonneg (by omega) (by omega)
  .show qm 1 (cH (Rat.divInt (v % 7) 6)).v;rw[iN];exact F0 b (by omega)
 .exact⟨yU.2 ⟨rfl,rfl,rfl,rfl,rfl⟩,CS ..⟩
 .refine⟨xV.2 ⟨rfl,rfl,rfl,rfl,rfl,(PM v).1⟩,?_,λe=>F0 ((PM v).2 e) (by omega)⟩;show qm 1 dI.v;rw[uZ];exact yp 1
def WS(n:Nat)(h:n≠0):4294967296<=4294967296^n:=Nat.le_self_pow h _
def P8(k:Int)(D:1<=k/\k<=5)(v:Int):zS 43 [enc (⟨k,[]⟩:aB),.int .i64 v] (enc (rH k v)):=by
 have h:k=1\/k=2\/k=3\/k=4\/k=5:=by omega
 obtain rfl|rfl|rfl|rfl|rfl:=h
 .refine Sp.vz c.am λ_=>?_;simp[g.am];refine bA (Pa v) ?_;simp[rH]
 .refine Sp.vz c.am λ_=>?_;simp[g.am];refine bA (sv v 11 (by omega) (by omega)) ?_;simp;refine⟨λh=>?_,λh=>?_⟩
  .refine bA (BI ⟨2,[]⟩) ?_;simp[rH,h]
  .refine bA (sv v 11 (by omega) (by omega)) ?_;simp[rH,h,dI]
 .refine Sp.vz c.am λ_=>?_;simp[g.am];refine bA (sv v 7 (by omega) (by omega)) ?_;simp;refine bA (yn (v % 7) 6 (by omega) (by omega) (by omega)) ?_;simp[rH]
 .refine Sp.vz c.am λ_=>?_;simp[g.am];refine bA (sv v 16 (by omega) (by omega)) ?_;simp[rH];omega
 .have o:IntKind.i64.wrap (v % 5 - 2)=v % 5 - 2:=b5;refine Sp.vz c.am λ_=>?_;simp[g.am];refine bA (sv v 5 (by omega) (by omega)) ?_;simp[o];refine bA (yn (v % 5 - 2) 3 (by omega) (by omega) (by omega)) ?_;simp;refine bA (WR v) ?_;simp;refine bA (sv (IntKind.i64.wrap (v.tdiv 5)) 2 (by omega) (by omega)) ?_;have p:qb 6 36 (Rat.divInt (v % 5 - 2) 3):=qA (y8 (v % 5 - 2) 3 2 6 rfl (by omega)) (by omega);have A:=OR (Rat.divInt (v % 5 - 2) 3);have B:=ER p;simp;refine⟨λh=>?_,λh=>?_⟩
  .refine bA (sv (IntKind.i64.wrap (v.tdiv 10)) 3 (by omega) (by omega)) ?_;simp;have b:=PO (IntKind.i64.wrap (v.tdiv 10) % 3);have i:=OQ (IntKind.i64.wrap (v.tdiv 10) % 3);have x:jU 6 36 (qt (iW v)):=ER (Eu v);have d:=EL (yy i b) (yy x (Dw _)) (by omega);have y:=qS b;have z:=qS (Dw (iW v));have u:(sB (IntKind.i64.wrap (v.tdiv 10) % 3)).length*((qt (iW v)).length*(1*36))<=216*(216*(1*36)):=mS y (kD _ z);have l:=WS 1048576 (by omega);have f:=xK (sB (IntKind.i64.wrap (v.tdiv 10) % 3)) (qt (iW v));have j:=Xd (sB (IntKind.i64.wrap (v.tdiv 10) % 3)) (cH (iW v)) 1 6 1 36 b i (by rw[iN];exact Eu v) (by omega) (by omega) (by omega) (by omega) (λm d=>(yo (n:=1) i b (by omega) (by omega) (by omega) m d).mono (by omega)) ((Tn (Eu v) (by omega)).mono (by omega));have C:=Q8 (eP [] ⟨0,0,0⟩ (Rat.divInt (v % 5 - 2) 3)) (fA (sB (IntKind.i64.wrap (v.tdiv 10) % 3)) (qt (iW v))) 6 36 1679616 A f B (λe=>qA (d e) u) (by omega) (by omega) (by omega);rw[iN]at j;refine bA (UO (IntKind.i64.wrap (v.tdiv 10) % 3)) ?_;simp;refine bA (Pa v) ?_;simp;refine bA j ?_;simp;refine bA C ?_;simp[rH,Ax,h]
  .simp[rH,Ax,h]
def sA(ks:List Int)(v:Int)(n:Nat):List GW:=(List.range n).map λi=>rH (ks.getD i 0) (IntKind.i64.wrap (v+i))
def vR(r:aB)(v:Int):GW:=if r.kind=6 then .mk dI 0 false 0 [] (sA r.parts v r.parts.length)else rH r.kind v
def Ua(ks:List Int)(v:Int)(n:Nat)(h:n<ks.length):sA ks v (n+1)=sA ks v n++[rH ks[n] (IntKind.i64.wrap (v+n))]:=by unfold sA;rw[vZ,qY];simp[dF h]
def Ff(ks:List Int)(v:Int)(n:Nat):(sA ks v n).length=n:=by simp[sA]
def z12{r:aB}(j:r.ok=true)(v:Int):(vR r v).aQ r/\(vR r v).mb 1:=by
 unfold vR;by_cases d:r.kind=6
 .have o:=aB.bQ j d;have m:∀ i,(h:i<r.parts.length)->(f:i<(sA r.parts v r.parts.length).length)->(sA r.parts v r.parts.length)[i].si r.parts[i]/\(sA r.parts v r.parts.length)[i].xu 1:=λi h f=>by
   have e:(sA r.parts v r.parts.length)[i]=rH r.parts[i] (IntKind.i64.wrap (v+i)):=by simp[sA,dF h]
   rw[e];exact Lp (o.2.2 _ (bV h)) _
  rw[aW d];refine⟨⟨j,λh=>absurd d h,λ_=>⟨Ff ..,rfl,λi h f=>(m i h f).1⟩⟩,⟨Kq ..,λx k=>?_⟩⟩;obtain⟨i,n,rfl⟩:=sQ.1 k;have b:i<(sA r.parts v r.parts.length).length:=n;exact(m i (by rw[Ff]at b;exact b) b).2
 .have l:=aB.cC j d;have h:=Lp ⟨l.1,l.2.1⟩ v;rw[aY d];refine⟨⟨j,λ_=>h.1,λf=>absurd f d⟩,⟨h.2,λx k=>?_⟩⟩;rw[h.1.1]at k;cases k
def Qh(r:aB)(l:r.ok=true)(v:Int):zS 43 [enc r,.int .i64 v] (enc (vR r v)):=by
 by_cases d:r.kind=6;rotate_left
 .have b:=aB.cC l d;have e:r=⟨r.kind,[]⟩:=by rw[<- b.2.2]
  have:=P8 r.kind ⟨b.1,b.2.1⟩ v;rw[<- e]at this;rw[show vR r v=rH r.kind v by unfold vR;rw[aY d]];exact this
 .have y:=aB.bQ l d;refine Sp.vz c.am λ_=>?_;simp[g.am,d]
  refine cQ (S:=λk:Nat=>aD [(1,.p (.int .i64 v)),(2,.ptr 2 0 0 0),(4,.ptr 4 0 0 0),(6,.ptr 6 0 0 0),(7,.p (.int .i64 k))]
    [(2,⟨2,[.p (enc r)]⟩),(4,⟨8,[.agg [.p (.bool false),.nil,.nil,.p (.int .i64 0),.p (.bool false),.p (.int .u64 0),.nil,.nil]]⟩),
     (6,⟨8,[.agg [.p (.bool false),.nil,.nil,.p (.int .i64 0),.p (.bool false),.p (.int .u64 0),.nil,.own 5 0 0 k]]⟩),(5,⟨8,aT (sA r.parts v k)⟩)])
   (I:=λk=>k<=r.parts.length) (m:=λk=>r.parts.length - k) 0
   ((aA.cW (s0:=6) (g0:=0) (i:=7) (s:=77) (sz:=8) rfl).trans (aA.to [1,2,4,6,7] [((2,0),2),((4,0),4),((6,0),6),((77,0),5)] (by simp[sA,d]))) (by omega) ?_
  rintro k B R h z A;have n:=bH k;simp[g.s7,aD];refine⟨λb=>?_,λb=>A _ _ ?_⟩
  .refine bK b ?_
   try simp
   have x:=P8 r.parts[k] (y.2.2 _ (bV b)) (IntKind.i64.wrap (v+k));have j:=Ua r.parts v k b;have f:=Ff r.parts v k;refine bA x ?_;simp[n,f];exact⟨by omega,h (k+1) _ (aA.to [1,2,4,6,7] [((2,0),2),((4,0),4),((6,0),6),((80,0),5)] (by simp[aD,j,d])) (by omega) (by omega)⟩
  .have:k=r.parts.length:=by omega
   subst this;have u:vR r v=.mk dI 0 false 0 [] (sA r.parts v r.parts.length):=by unfold vR;rw[aW d]
   have o:(sA r.parts v r.parts.length).take r.parts.length=sA r.parts v r.parts.length:=fK (by rw[Ff];omega);simp[u,o,Ff,dI]
def wX(k:Int):aB:=if k % 7=5 then⟨6,[1,2]⟩else if k % 7=6 then⟨6,[3,4,5]⟩else⟨k % 7+1,[]⟩
def GQ(k:Int):(wX k).ok=true:=by
 have h:k % 7=0\/k % 7=1\/k % 7=2\/k % 7=3\/k % 7=4\/k % 7=5\/k % 7=6:=by omega
 unfold wX;obtain h|h|h|h|h|h|h:=h<;>rw[h]<;>decide
def yd7(k:Int):zS 12 [.int .i64 k] (enc (wX k)):=by have d:IntKind.i64.wrap (k % 7+1)=k % 7+1:=b5;refine Sp.vz c.kb λ_=>?_;simp[g.kb];refine bA (sv k 7 (by omega) (by omega)) ?_;simp;refine⟨λh=>by simp[wX,h],λh=>⟨λb=>by simp[wX,b],λb=>?_⟩⟩;have:=sv (k % 7) 7 (by omega) (by omega);rw[Int.emod_emod]at this;refine bA this ?_;simp[wX,h,b,d]
def RH{k:Int}(f:1<=k/\k<=5):(dZ k []).si k/\(dZ k []).xu 1:=by
 have h:k=1\/k=2\/k=3\/k=4\/k=5:=by omega
 have b:qm 1 (1:Rat):=F0 (y8 1 1 6 1 rfl (by decide)) (by omega);obtain rfl|rfl|rfl|rfl|rfl:=h
 .exact⟨wB.2 ⟨rfl,rfl,rfl,rfl,rfl,sP 1⟩,by show qm 1 (cH 1).v;rw[iN];exact b,λe=>yp 1⟩
 .exact⟨oV.2 ⟨rfl,rfl,rfl,rfl,by decide,by decide,λh=>by cases h⟩,CS ..⟩
 .refine⟨vG.2 ⟨rfl,rfl,rfl,rfl,rfl,sP 1,?_,?_⟩,by show qm 1 (cH 1).v;rw[iN];exact b,λe=>yp 1⟩
  .show 0<=(cH 1).v;rw[iN];decide
  .show(cH 1).v<=1;rw[iN];exact Rat.le_refl
 .exact⟨yU.2 ⟨rfl,rfl,rfl,rfl,rfl⟩,CS ..⟩
 .refine⟨xV.2 ⟨rfl,rfl,rfl,rfl,rfl,Dw 1⟩,?_,λe=>?_⟩
  .show qm 1 dI.v;rw[uZ];exact yp 1
  .have d:jU 6 6 (qt 1):=ER (y8 1 1 6 1 rfl (by decide));exact F0 (d e) (by omega)
def yag{r:aB}(j:r.ok=true):r.one.aQ r/\r.one.mb 1:=by
 unfold aB.one;rw[aW j];by_cases f:r.kind=6
 .have p:=aB.bQ j f;rw[f];have e:dZ 6 (r.parts.map λk=>dZ k [])=.mk dI 0 false 0 [] (r.parts.map λk=>dZ k []):=rfl;rw[e];have n:∀ i,(h:i<r.parts.length)->(d:i<(r.parts.map λk=>dZ k []).length)->(r.parts.map λk=>dZ k [])[i].si r.parts[i]/\(r.parts.map λk=>dZ k [])[i].xu 1:=λi h d=>by rw[DP];exact RH (p.2.2 _ (bV h))
  refine⟨⟨j,λh=>absurd f h,λ_=>⟨rL ..,rfl,λi h d=>(n i h d).1⟩⟩,⟨Kq ..,λx l=>?_⟩⟩;obtain⟨i,o,rfl⟩:=sQ.1 l;have b:i<(r.parts.map λk=>dZ k []).length:=o;exact(n i (by rw[rL]at b;exact b) b).2
 .have m:=aB.cC j f;have h:=RH ⟨m.1,m.2.1⟩;rw[m.2.2];exact⟨⟨j,λ_=>h.1,λd=>absurd d f⟩,⟨h.2,λx l=>by rw[show(dZ r.kind ([].map λk=>dZ k [])).parts=[] from h.1.1]at l;cases l⟩⟩
def tF(r:aB)(l:List Int)(i:Nat)(one:Int):GW:=if h:i<l.length then vR r l[i]else if (i:Int)=one then r.one else r.zero
def VW{r:aB}(b:r.ok=true):r.zero.mb 0:=by unfold aB.zero;rw[aW b];refine⟨Kq ..,λx d=>?_⟩;obtain⟨k,_,rfl⟩:=cD.1 d;exact CS ..
def TB(r:aB)(d:r.ok=true)(l:List Int)(i:Nat)(one:Int):zS 42 [enc r,.sl (aH l),.int .i64 i,.int .i64 one] (enc (tF r l i one)):=by
 refine Sp.vz c.ib λ_=>?_;simp[g.ib];refine⟨λh=>bK h ?_,λh=>⟨λb=>?_,λb=>?_⟩⟩
 .refine bA (Qh r d l[i]) ?_;simp[tF,h]
 .refine bA (RF r) ?_;simp[tF,b,show ¬ i<l.length by omega]
 .refine bA (BI r) ?_;simp[tF,b,show ¬ i<l.length by omega]
end Go.Ab
namespace Go.Ab
open Enc (enc)
attribute [local simp] fX bL.aR
theorem GW.ind{M:GW->Prop}(h:∀ v,(∀ w∈v.parts,M w)->M v):∀ v,M v
 | .mk q c i s p ps=>h _ λw b=>by have:SizeOf.sizeOf w<SizeOf.sizeOf ps:=List.sizeOf_lt_of_mem b;exact GW.ind h w
termination_by v=>SizeOf.sizeOf v
decreasing_by simp only[GW.mk.sizeOf_spec];omega
inductive GW.lt:GW->Prop
 | mk {q:aS} {c:Int} {i:Bool} {s:UInt64} {p:List aF} {ps:List GW}:q.sm 3->p.length<=8->ps.length<=4->fR p 2->(∀ w∈ps,GW.lt w)->GW.lt (.mk q c i s p ps)
def GW.lt_iff{w:GW}:w.lt ↔ w.q.sm 3/\w.aP.length<=8/\w.parts.length<=4/\fR w.aP 2/\∀ x∈w.parts,x.lt:=by
 constructor
 .intro h;cases h with|mk a b c d e=>exact⟨a,b,c,d,e⟩
 .cases w;rintro⟨a,b,c,d,e⟩;exact .mk a b c d e
theorem GW.x8:∀ w:GW,w.lt->w.sm 8:=by
 refine GW.ind λv j h=>?_;obtain⟨a,b,c,d,e⟩:=GW.lt_iff.1 h;cases v with
 | mk q k i s p ps=>exact .mk (a.jV (by omega)) (d.jV (by omega)) b (dP c (by omega)) λx f=>j x f (e x f)
noncomputable instance (w:GW):Decidable w.lt:=Classical.propDecidable _
def NU:∀ w:GW,zS 21 [enc w] (.bool (decide w.lt)):=by
 refine GW.ind λv X=>?_;refine Sp.vz c.d9 λW=>?_;simp[g.d9];refine bA (OK v.q 3) ?_;by_cases o:v.q.num.length<=3/\v.q.den.length<=3;rotate_left
 .rw[decide_eq_false o];simp;exact λh=>o (GW.lt_iff.1 h).1
 rw[decide_eq_true o];simp;refine⟨λN h=>by have:=(GW.lt_iff.1 h).2.1;omega,λN=>⟨λO h=>by have:=(GW.lt_iff.1 h).2.2.1;omega,λO=>?_⟩⟩
 refine cQ (S:=λk:Nat=>aD [(1,.ptr 1 0 0 0),(3,.p (.int .i64 k))] [(1,⟨8,[.p (enc v)]⟩)]) (I:=λk=>k<=v.aP.length/\∀ i,(f:i<v.aP.length)->i<k->v.aP[i].aX.sm 2) (m:=λk=>v.aP.length - k) 0
  (aA.to [1,3] [((1,0),1)] (by simp)) ⟨by omega,λi _ y=>by omega⟩ ?_
 rintro k ⟨h6,F⟩ R V A n;have G:=bH k;by_cases u:k<v.aP.length
 .simp[g.qy,aD,u];refine bK u ?_;refine bA (OK v.aP[k].aX 2) ?_;by_cases d:v.aP[k].aX.num.length<=2/\v.aP[k].aX.den.length<=2
  .rw[decide_eq_true d];simp[G];refine V (k+1) _ (aA.to [1,3] [((1,0),1)] (by simp[aD])) ⟨by omega,λi f y=>?_⟩ (by omega);by_cases j:i<k
   .exact F i f j
   .have:i=k:=by omega
    subst this;exact d
  .rw[decide_eq_false d];simp;refine A _ ?_;simp;exact λh=>d ((GW.lt_iff.1 h).2.2.2.1 _ (bV u))
 .have Q:fR v.aP 2:=λx n=>by obtain⟨i,f,rfl⟩:=sQ.1 n;exact F i f (by omega)
  simp[g.qy,aD,u];refine n _ _ ?_;simp
  refine cQ (S:=λk:Nat=>aD [(1,.ptr 1 0 0 0),(4,.p (.int .i64 k))] [(1,⟨8,[.p (enc v)]⟩)]) (I:=λk=>k<=v.parts.length/\∀ i,(f:i<v.parts.length)->i<k->v.parts[i].lt) (m:=λk=>v.parts.length - k) 0
   (aA.to [1,4] [((1,0),1)] (by simp)) ⟨by omega,λi _ y=>by omega⟩ ?_
  rintro l ⟨g6,D⟩ Y z B C;have J:=bH l;by_cases b:l<v.parts.length
  .simp[g.qz,aD,b];refine bK b ?_;refine bA (X _ (bV b)) ?_;by_cases d:v.parts[l].lt
   .rw[decide_eq_true d];simp[J];refine z (l+1) _ (aA.to [1,4] [((1,0),1)] (by simp[aD])) ⟨by omega,λi f y=>?_⟩ (by omega);by_cases j:i<l
    .exact D i f j
    .have:i=l:=by omega
     subst this;exact d
   .rw[decide_eq_false d];simp;refine B _ ?_;simp;exact λh=>d ((GW.lt_iff.1 h).2.2.2.2 _ (bV b))
  .have U:∀ x∈v.parts,x.lt:=λx n=>by obtain⟨i,f,rfl⟩:=sQ.1 n;exact D i f (by omega)
   simp[g.qz,aD,b];refine C _ _ ?_;simp;exact GW.lt_iff.2 ⟨o,by omega,by omega,Q,U⟩
def QO(l:List GW)(m:Nat)(G:m<=1000000):zS 20 [.sl (aH l),.int .i64 m] (.bool (decide (l.length<=m/\∀ w∈l,w.lt))):=by
 refine Sp.vz c.d8 λD=>?_;by_cases u:l.length<=m;rotate_left
 .have:¬ (l.length:Int)<=m:=by omega
  simp[g.d8,u]
 have h:¬ (m:Int)<l.length:=by omega
 simp[g.d8,u,h]
 refine cQ (S:=λk:Nat=>aD [(0,.p (.sl (aH l))),(5,.p (.int .i64 k))] []) (I:=λk=>k<=l.length/\∀ i,(d:i<l.length)->i<k->l[i].lt) (m:=λk=>l.length - k) 0
  (aA.to [0,5] [] (by simp)) ⟨by omega,λi _ A=>by omega⟩ ?_
 rintro k ⟨F,y⟩ R C n o;have z:=bH k;by_cases f:k<l.length
 .simp[g.qx,aD,f];refine bK f ?_
  try simp
  refine bA (NU l[k]) ?_;by_cases b:l[k].lt
  .rw[decide_eq_true b];simp[z];refine C (k+1) _ (aA.to [0,5] [] (by simp[aD])) ⟨by omega,λi d A=>?_⟩ (by omega);by_cases j:i<k
   .exact y i d j
   .have:i=k:=by omega
    subst this;exact b
  .rw[decide_eq_false b];simp;refine n _ ?_;simp;exact⟨_,bV f,b⟩
 .have B:∀ x∈l,x.lt:=λx o=>by obtain⟨i,d,rfl⟩:=sQ.1 o;exact y i d (by omega)
  simp[g.qx,aD,f];refine o _ _ ?_;simp;exact B
def Us(r:aB):zS 19 [enc r] (.bool (decide (r.parts.length<=6))):=by refine Sp.vz c.kd λb=>?_;simp[g.kd];omega
structure gH.lt (a:gH):Prop where
 ring:a.ring.parts.length<=6
 aU:a.aU.length<=6/\∀ w∈a.aU,w.lt
 fin:a.fin.length<=6/\∀ w∈a.fin,w.lt
 al:a.aE.length<=16
 aE:∀ x∈a.aE,x.w.lt
noncomputable instance (a:gH):Decidable a.lt:=Classical.propDecidable _
structure GTrans.lt (a:GTrans):Prop where
 ring:a.ring.parts.length<=6
 aU:a.aU.length<=5/\∀ w∈a.aU,w.lt
 fin:a.fin.length<=5/\∀ w∈a.fin,w.lt
 al:a.aE.length<=12
 aE:∀ x∈a.aE,x.w.lt
noncomputable instance (a:GTrans):Decidable a.lt:=Classical.propDecidable _
def GTrans.lt.sm{a:GTrans}(h:a.lt):a.sm 8:=⟨λw b=>GW.x8 _ (h.aU.2 w b),λw b=>GW.x8 _ (h.fin.2 w b),λx d=>GW.x8 _ (h.aE x d)⟩
def QY(a:GTrans):zS 7 [enc a] (.bool (decide a.lt)):=by
 refine Sp.vz c.ka λG=>?_;simp[g.ka];refine bA (Us a.ring) ?_;by_cases b:a.ring.parts.length<=6;rotate_left
 .rw[decide_eq_false b];simp;exact λh=>b h.ring
 rw[decide_eq_true b];simp;refine bA (QO a.aU 5 (by omega)) ?_;by_cases d:a.aU.length<=5/\∀ w∈a.aU,w.lt;rotate_left
 .rw[decide_eq_false d];simp;exact λh=>d h.aU
 rw[decide_eq_true d];simp;refine bA (QO a.fin 5 (by omega)) ?_;by_cases f:a.fin.length<=5/\∀ w∈a.fin,w.lt;rotate_left
 .rw[decide_eq_false f];simp;exact λh=>f h.fin
 rw[decide_eq_true f];simp;refine⟨λC h=>by have:=h.al;omega,λC=>?_⟩
 refine cQ (S:=λk:Nat=>aD [(1,.ptr 1 0 0 0),(3,.p (.int .i64 k))] [(1,⟨8,[.p (enc a)]⟩)]) (I:=λk=>k<=a.aE.length/\∀ i,(l:i<a.aE.length)->i<k->a.aE[i].w.lt) (m:=λk=>a.aE.length - k) 0
  (aA.to [1,3] [((1,0),1)] (by simp)) ⟨by omega,λi _ B=>by omega⟩ ?_
 rintro k ⟨J,z⟩ R F u y;have A:=bH k;by_cases n:k<a.aE.length
 .simp[g.qv,aD,n];refine bK n ?_
  try simp
  refine bA (NU a.aE[k].w) ?_;by_cases j:a.aE[k].w.lt
  .rw[decide_eq_true j];simp[A];refine F (k+1) _ (aA.to [1,3] [((1,0),1)] (by simp[aD])) ⟨by omega,λi l B=>?_⟩ (by omega);by_cases o:i<k
   .exact z i l o
   .have:i=k:=by omega
    subst this;exact j
  .rw[decide_eq_false j];simp;refine u _ ?_;simp;exact λh=>j (h.aE _ (bV n))
 .have D:∀ x∈a.aE,x.w.lt:=λx y=>by obtain⟨i,l,rfl⟩:=sQ.1 y;exact z i l (by omega)
  simp[g.qv,aD,n];refine y _ _ ?_;simp;exact⟨b,d,f,by omega,D⟩
end Go.Ab
namespace Go.Ab
open Enc (enc)
section
variable {E H s:Nat} (L:LB E H s)
def M8{a:Nat}(k:a<=1048576):4294967296^a<=4294967296^1048576:=by
 generalize (1048576:Nat)=N at *
 exact OP k
def F3{x a:Nat}(h:x<4294967296^a)(k:a<=1048576):x<4294967296^1048576:=iC h (M8 k)
include L in
theorem RQ{k:Int}(o:1<=k/\k<=5){v w:GW}{n:Nat}(l:v.qN E H n)(m:w.qN E H n)(hn:216<=jB s n)(hs:jB s n<=400000)(f:v.aQ ⟨k,[]⟩)(h:w.aQ ⟨k,[]⟩) :
  zS 130 [enc (⟨k,[]⟩:aB),enc v,enc w] (enc (ew k v w)):=by
 have i:(⟨k,[]⟩:aB).kind≠6:=by show k≠6;omega
 have b:=(CK L (f.2.1 i) l hn).mono (show jB s n<=1048576 by omega);have d:=(CK L (h.2.1 i) m hn).mono (show jB s n<=1048576 by omega);have:k=1\/k=2\/k=3\/k=4\/k=5:=by omega
 obtain rfl|rfl|rfl|rfl|rfl:=this
 .exact ZT v w b d f h
 .exact ZU v w b d f h
 .exact ZV v w b d f h
 .exact ZW v w b d f h
 .have j:H^(n / 100)*2^(n % 100) / 46656<4294967296^jB s n:=oR (Bd _ _) (wR L n);exact ZX v w b d f h _ _ _ (xD l.p) (xD m.p) (L.xy _) (F3 (CD L n) (by omega)) (F3 (Pp _ _ _ j j) (by omega))
include L in
theorem SZ{m n:Nat}(j:jB s m<=400000)(hn:jB s n<=400000):E^(m / 100)*E^(n / 100)<4294967296^1048576/\46656*(H^(m / 100)*2^(m % 100) / 46656*(H^(n / 100)*2^(n % 100) / 46656))<4294967296^1048576:=by
 refine⟨?_,?_⟩
 .refine iC (uG (CD L m) (CD L n)) ?_;rw[<- Nat.pow_add];exact M8 (by omega)
 .have d:=H6 (H^(m / 100)*2^(m % 100)) 46656;have f:=H6 (H^(n / 100)*2^(n % 100)) 46656;have i:=KT d f;have b:=uG (wR L m) (wR L n);rw[<- Nat.pow_add]at b;have h:4294967296^(jB s m+jB s n)<=4294967296^1048576:=M8 (by omega);exact oR (by omega) (iC b h)
include L in
theorem N4{k:Int}(y:1<=k/\k<=5){v w:GW}{n:Nat}(j:v.qN E H n)(l:w.qN E H n)(hn:216<=jB s n)(hs:jB s n<=400000)(f:v.aQ ⟨k,[]⟩)(h:w.aQ ⟨k,[]⟩) :
  zS 32 [enc (⟨k,[]⟩:aB),enc v,enc w] (enc (gK k v w)):=by
 have i:(⟨k,[]⟩:aB).kind≠6:=by show k≠6;omega
 have m:=CK L (f.2.1 i) j hn;have o:=CK L (h.2.1 i) l hn;have b:=m.mono (show jB s n<=1048576 by omega);have d:=o.mono (show jB s n<=1048576 by omega);have:k=1\/k=2\/k=3\/k=4\/k=5:=by omega
 obtain rfl|rfl|rfl|rfl|rfl:=this
 .exact V4 v w b d f h
 .exact z80 v w b d f h
 .exact VJ v w b d f h
 .exact VK v w b d f h
 .obtain⟨u,x⟩:=SZ L hs hs;exact VL v w b d f h _ _ _ _ (xD j.p) (xD l.p) (L.xy _) (L.xy _) u x (m.aP.jV (by omega)) (o.aP.jV (by omega))
include L in
theorem ZZ(r:aB){v w:GW}{n:Nat}(m:v.lb E H n)(p:w.lb E H n)(hn:216<=jB s n)(hs:jB s n<=400000)(b:v.aQ r)(f:w.aQ r):zS 130 [enc r,enc v,enc w] (enc (r.plus v w)):=by
 have j:=b.1;by_cases d:r.kind=6
 .exact ZY r v w ((zd L b m hn).mono (by omega)) ((zd L f p hn).mono (by omega)) b f d λi h k u=>
   RQ L ((aB.bQ j d).2.2 _ (bV h)) (m.ps _ (bV k)) (p.ps _ (bV u)) hn hs (EN b d h k) (EN f d h u)
 .have l:=aB.cC j d;have x:r=⟨r.kind,[]⟩:=by rw[<- l.2.2]
  have k:r.plus v w=ew r.kind v w:=by simp[aB.plus,d]
  rw[k,x];rw[x]at b f;exact RQ L ⟨l.1,l.2.1⟩ m.o p.o hn hs b f
include L in
theorem VN(r:aB){v w:GW}{n:Nat}(m:v.lb E H n)(p:w.lb E H n)(hn:216<=jB s n)(hs:jB s n<=400000)(b:v.aQ r)(f:w.aQ r):zS 32 [enc r,enc v,enc w] (enc (r.times v w)):=by
 have j:=b.1;by_cases d:r.kind=6
 .exact VM r v w ((zd L b m hn).mono (by omega)) ((zd L f p hn).mono (by omega)) b f d λi h k u=>
   N4 L ((aB.bQ j d).2.2 _ (bV h)) (m.ps _ (bV k)) (p.ps _ (bV u)) hn hs (EN b d h k) (EN f d h u)
 .have l:=aB.cC j d;have x:r=⟨r.kind,[]⟩:=by rw[<- l.2.2]
  have k:r.times v w=gK r.kind v w:=by simp[aB.times,d]
  rw[k,x];rw[x]at b f;exact N4 L ⟨l.1,l.2.1⟩ m.o p.o hn hs b f
def ydb{r:aB}(b:r.ok=true)(E H:Nat):r.zero.lb E H 0:=by unfold aB.zero;rw[aW b];refine⟨Ko ..,λx d=>?_⟩;obtain⟨k,_,rfl⟩:=cD.1 d;exact Es ..
def TO(r:aB)(hr:r.ok=true)(lim:Nat)(h1:216<=jB s lim)(h2:jB s lim<=400000):c4 r where
 mb n w:=w.lb E H n
 lim:=lim
 mono h k:=h.mono L k
 zero:=ydb hr E H
 plus cv cw hv hw:=Z1 L cv cw hv hw
 times cv cw hv hw:=VP L cv cw hv hw
 plusS:=λ{v w n} hn cv cw hv hw=>ZZ L r (hv.mono L hn) (hw.mono L hn) h1 h2 cv cw
 timesS:=λ{v w n} hn cv cw hv hw=>VN L r (hv.mono L hn) (hw.mono L hn) h1 h2 cv cw
end
def GW.uR(w:GW):Nat:=w.q.v.den*sW w.aP
def GW.den(w:GW):Nat:=w.uR*(w.parts.map GW.uR).foldr (· * ·) 1
def x9(l:List GW):Nat:=(l.map GW.den).foldr (· * ·) 1
theorem KB{a:Nat}:∀ {l:List Nat},a∈l->a ∣ l.foldr (· * ·) 1
 | x::l,h=>by
  obtain rfl|h:=bY.1 h
  .exact H5 _ _
  .exact A9 (KB h) (H4 _ _)
theorem KC:∀ {l:List Nat},(∀ x∈l,0<x)->0<l.foldr (· * ·) 1
 | [],_=>Nat.one_pos
 | x::l,h=>Be (h x (by simp)) (KC λy b=>h y (by simp[b]))
theorem JO{a:Nat}:∀ {l:List Nat},(∀ x∈l,x<=4294967296^a)->l.foldr (· * ·) 1<=4294967296^(l.length*a)
 | [],_=>by simp
 | x::l,h=>by
  have:=mS (h x (by simp)) (JO (l:=l) λy b=>h y (by simp[b]));rw[<- Nat.pow_add]at this;have e:(x::l).length*a=a+l.length*a:=by simp[yL];omega
  rw[e];exact this
structure GW.xv (w:GW):Prop where
 q:w.q.sm 3
 l:w.aP.length<=8
 p:fR w.aP 3
structure GW.li (w:GW):Prop where
 o:w.xv
 l:w.parts.length<=4
 ps:∀ x∈w.parts,x.xv
def GW.lt.xv{w:GW}(h:w.lt):w.xv:=by obtain⟨b,d,h3,f,i⟩:=GW.lt_iff.1 h;exact⟨b,d,f.jV (by omega)⟩
def GW.lt.li{w:GW}(h:w.lt):w.li:=⟨h.xv,(GW.lt_iff.1 h).2.2.1,λx b=>((GW.lt_iff.1 h).2.2.2.2 x b).xv⟩
def GW.sm.xv{w:GW}(h:w.sm 3):w.xv:=⟨h.q,by have:=h.len;omega,h.aP⟩
def GW.sm.li{w:GW}(h:w.sm 3):w.li:=⟨h.xv,by have:=h.wE;omega,λx b=>(h.parts x b).xv⟩
def Rf{w:GW}(h:w.xv):w.uR<=4294967296^28:=by have a:=(x5 h.q (by omega)).2;have b:=ZR h.p (by omega);have f:=h.l;have d:sW w.aP<=4294967296^25:=z6 (iC b (pP (by omega) (by omega)));have:=mS (z6 a) d;rw[<- Nat.pow_add]at this;exact this
def Se(w:GW):0<w.uR:=Be (B6 w.q.v.den_nz) (B6 (yac _))
def Yt{w:GW}(h:w.li):w.den<=4294967296^140:=by have:=mS (Rf h.o) (JO (a:=28) (l:=w.parts.map GW.uR) λx b=>by obtain⟨y,d,rfl⟩:=cD.1 b;exact Rf (h.ps y d));rw[<- Nat.pow_add]at this;refine dP this (pP (by omega) ?_);have:=h.l;rw[rL];omega
def ZF(w:GW):0<w.den:=Be (Se w) (KC λx b=>by obtain⟨y,_,rfl⟩:=cD.1 b;exact Se y)
def yas(l:List GW):0<x9 l:=KC λx b=>by obtain⟨y,_,rfl⟩:=cD.1 b;exact ZF y
def Zv{l:List GW}{n:Nat}(h:∀ w∈l,w.li)(b:l.length<=n):x9 l<4294967296^(n*140+1):=by
 have:=JO (a:=140) (l:=l.map GW.den) λx d=>by obtain⟨y,f,rfl⟩:=cD.1 d;exact Yt (h y f)
 rw[rL]at this;refine oR this (Ia (by omega) ?_);have:=kD 140 b;omega
def yat{l:List GW}{w:GW}(h:w∈l):w.den ∣ x9 l:=KB (cD.2 ⟨w,h,rfl⟩)
def HH(E:Nat):Nat:=46656*4294967296^3*(pD*E)
def X2{E s:Nat}(h:0<E)(b:E<4294967296^s)(hs:s<=8000):LB E (HH E) s:=by
 refine⟨h,?_,b,?_,hs⟩
 .unfold HH;exact Ie _ (by decide +kernel)
 .have d:pD*E<4294967296^(4+s):=by rw[rM];exact uG Q5 b
  have f:46656*4294967296^3<4294967296^4:=by decide +kernel
  have:=uG f d;rw[<- Nat.pow_add]at this;have e:4+(4+s)=s+8:=by omega
  rw[e]at this;exact this
section
variable {E s:Nat} (L:LB E (HH E) s)
include L in
theorem Tp{x:aS}(j:x.sm 3)(hd:x.v.den ∣ E):qL E (HH E) 100 x.v:=by
 obtain⟨c,h⟩:=hd;have d:c≠0:=by rintro rfl;have:=L.e;omega
 have f:=C8 c d (JR x.v);rw[<- h]at f;have i:=(x5 j (by omega)).1;have:=z93 L 0 1 (x.v.num.natAbs*c) (by rw[Nat.pow_one];exact f) (by
  rw[Nat.pow_one,Nat.pow_zero,Nat.mul_one];unfold HH;have a:x.v.num.natAbs*c<=4294967296^3*E:=mS (z6 i) (by rw[h];exact Ie _ (B6 x.v.den_nz));have b:E<=pD*E:=Ie _ ycc
  calc 46656*(x.v.num.natAbs*c)<=46656*(4294967296^3*E):=yF _ a
   _=46656*4294967296^3*E:=by rw[pS]
   _<=_:=yF _ b)
 exact this
theorem NI:∀ {p:List aF} {m:aF},m∈p->m.aX.v.den ∣ sW p
 | x::p,m,h=>by
  obtain rfl|h:=bY.1 h
  .exact H5 _ _
  .exact A9 (NI h) (H4 _ _)
include L in
theorem LQ{w:GW}(hp:bM w.aP)(h:w.xv)(hd:w.uR ∣ E):w.qN E (HH E) 100:=by
 refine⟨Tp L h.q (A9 (H5 _ _) hd),λe=>?_⟩;obtain b|⟨m,d,b⟩:=Ky hp e
 .rw[b];exact zu _
 .rw[b];exact Tp L (h.p m d) (A9 (NI d) (A9 (H4 _ _) hd))
include L in
theorem X6{r:aB}{w:GW}(f:w.aQ r)(h:w.li)(hd:w.den ∣ E):w.lb E (HH E) 100:=by
 have j:w.uR ∣ E:=A9 (H5 _ _) hd;by_cases d:r.kind=6
 .obtain⟨l,e,n⟩:=f.2.2 d;refine⟨LQ L (by rw[e];exact AO) h.o j,λx b=>?_⟩;obtain⟨i,m,rfl⟩:=sQ.1 b;exact LQ L (jJ (n i (by omega) m)) (h.ps _ b) (A9 (KB (cD.2 ⟨_,b,rfl⟩)) (A9 (H4 _ _) hd))
 .have k:=f.2.1 d;exact⟨LQ L (jJ k) h.o j,λx b=>by rw[k.1]at b;cases b⟩
end
structure GModel where
 st:Int
 aU:List Int
 fin:List Int
 aE:List Int
 em:Bool
instance:Enc GModel:=⟨λx=>.agg [.int .i64 x.st,.sl (aH x.aU),.sl (aH x.fin),.sl (aH x.aE),.bool x.em],5,by decide,λ_=>rfl⟩
@[simp] theorem yiw(x:GModel):enc x=.agg [.int .i64 x.st,.sl (aH x.aU),.sl (aH x.fin),.sl (aH x.aE),.bool x.em]:=rfl
@[simp] theorem yfs:Enc.sz GModel=5:=rfl
def eH(m:GModel)(s:Int):Int:=1+IntKind.i64.wrap (m.st - 1) % s
def nY(a b:Int):Int:=IntKind.i64.wrap (a.tdiv b)
def Aq(m:GModel)(r:aB)(i o n a b c d:Int):aC:=⟨a % n,if m.em=true then b % (i+1)else 1+b % i,if m.em=true then nY b (i+1) % (o+1)else 1+nY b i % o,c % n,vR r d⟩
def wV(m:GModel)(r:aB)(i o n:Int)(k:Nat):List aC:=(List.range k).map λj=>Aq m r i o n (m.aE.getD (4*j) 0) (m.aE.getD (4*j+1) 0) (m.aE.getD (4*j+2) 0) (m.aE.getD (4*j+3) 0)
def p'(r:aB)(l:List Int)(one:Int)(k:Nat):List GW:=(List.range k).map λj=>tF r l j one
def AD(m:GModel)(r:aB)(i o s:Int):GTrans:=⟨r,i,o,eH m s,p' r m.aU 0 (eH m s).toNat,p' r m.fin (eH m s - 1) (eH m s).toNat,wV m r i o (eH m s) (min 7 (m.aE.length / 4))⟩
theorem Xw(r:aB)(l:List Int)(one:Int)(k:Nat):p' r l one (k+1)=p' r l one k++[tF r l k one]:=by unfold p';rw[vZ,qY];rfl
def BO(r:aB)(l:List Int)(one:Int)(k:Nat):(p' r l one k).length=k:=by simp[p']
def Ha(m:GModel)(r:aB)(i o n:Int)(k:Nat):(wV m r i o n k).length=k:=by simp[wV]
def Xi(m:GModel)(r:aB)(i o n:Int)(k:Nat)(h:4*k+3<m.aE.length):wV m r i o n (k+1)=wV m r i o n k++[Aq m r i o n m.aE[4*k] m.aE[4*k+1] m.aE[4*k+2] m.aE[4*k+3]]:=by unfold wV;rw[vZ,qY];simp[dF (show 4*k<m.aE.length by omega),dF (show 4*k+1<m.aE.length by omega),dF (show 4*k+2<m.aE.length by omega),dF h]
def N6(m:GModel)(r:aB)(i o s:Int)(B:r.ok=true)(hi:1<=i/\i<=32)(ho:1<=o/\o<=32)(hs:1<=s/\s<=64):zS 13 [enc m,enc r,.int .i64 i,.int .i64 o,.int .i64 s] (enc (AD m r i o s)):=by
 have F:1<=eH m s/\eH m s<=s:=by have h1:=B1 (IntKind.i64.wrap (m.st - 1)) (show s≠0 by omega);have h2:=B0 (IntKind.i64.wrap (m.st - 1)) (show 0<s by omega);unfold eH;omega
 have Q:IntKind.i64.wrap (1+IntKind.i64.wrap (m.st - 1) % s)=eH m s:=cG (by unfold eH at F;omega) (by unfold eH at F;omega);have hT:AD m r i o s=⟨r,i,o,eH m s,p' r m.aU 0 (eH m s).toNat,p' r m.fin (eH m s - 1) (eH m s).toNat,wV m r i o (eH m s) (min 7 (m.aE.length / 4))⟩:=rfl;refine Sp.vz c.gw λ_=>?_;simp[g.gw];refine bA (sv (IntKind.i64.wrap (m.st - 1)) s (by omega) (by omega)) ?_;simp[Q];generalize eH m s=n at *
 obtain⟨b,rfl⟩:∃ b:Nat,n=b:=⟨n.toNat,by omega⟩;have V:IntKind.i64.wrap ((b:Int) - 1)=(b:Int) - 1:=b5
 refine cQ (S:=λk:Nat=>aD [(2,.p (.int .i64 i)),(3,.p (.int .i64 o)),(5,.ptr 5 0 0 0),(6,.ptr 6 0 0 0),(10,.ptr 10 0 0 0),(11,.p (.int .i64 b)),(12,.ptr 12 0 0 0),(13,.p (.int .i64 k))]
   [(5,⟨5,[.p (enc m)]⟩),(6,⟨2,[.p (enc r)]⟩),(10,⟨8,[.agg [.p (.int .i64 0),.nil,.p (.int .i64 0),.p (.int .i64 0),.p (.int .i64 0),.nil,.nil,.nil]]⟩),
    (12,⟨8,[.agg [.p (.int .i64 r.kind),.p (.sl (aH r.parts)),.p (.int .i64 i),.p (.int .i64 o),.p (.int .i64 b),.own 1 0 0 k,.own 2 0 0 k,.nil]]⟩),(1,⟨8,aT (p' r m.aU 0 k)⟩),(2,⟨8,aT (p' r m.fin (b - 1) k)⟩)])
  (I:=λk=>k<=b) (m:=λk=>b - k) 0
  ((aA.cW (s0:=12) (g0:=0) (i:=5) (s:=77) (sz:=8) rfl).trans ((aA.cW (s0:=12) (g0:=0) (i:=6) (s:=78) (sz:=8) rfl).trans (aA.to [2,3,5,6,10,11,12,13] [((5,0),5),((6,0),6),((10,0),10),((12,0),12),((77,0),1),((78,0),2)] (by simp[p'])))) (by omega) ?_
 rintro k h1 R A ad hx;have U:=bH k;simp[g.sk,aD];refine⟨λhk=>?_,λhk=>hx _ _ ?_⟩
 .refine bA (TB r B m.aU k 0) ?_;simp[V,BO];refine⟨by omega,?_⟩;refine bA (TB r B m.fin k (b - 1)) ?_;simp[U,BO];refine⟨by omega,?_⟩;exact A (k+1) _ (aA.to [2,3,5,6,10,11,12,13] [((5,0),5),((6,0),6),((10,0),10),((12,0),12),((40,0),1),((52,0),2)] (by simp[aD,Xw])) (by omega) (by omega)
 .obtain rfl:b=k:=by omega
  simp;generalize hJ:min 7 (m.aE.length / 4)=J at *
  refine cQ (S:=λj:Nat=>aD [(2,.p (.int .i64 i)),(3,.p (.int .i64 o)),(5,.ptr 5 0 0 0),(6,.ptr 6 0 0 0),(10,.ptr 10 0 0 0),(11,.p (.int .i64 b)),(12,.ptr 12 0 0 0),(14,.p (.int .i64 (4*(j:Int))))]
    [(5,⟨5,[.p (enc m)]⟩),(6,⟨2,[.p (enc r)]⟩),(10,⟨8,[.agg [.p (.int .i64 0),.nil,.p (.int .i64 0),.p (.int .i64 0),.p (.int .i64 0),.nil,.nil,.nil]]⟩),
     (12,⟨8,[.agg [.p (.int .i64 r.kind),.p (.sl (aH r.parts)),.p (.int .i64 i),.p (.int .i64 o),.p (.int .i64 b),.own 1 0 0 b,.own 2 0 0 b,.own 3 0 0 j]]⟩),(1,⟨8,aT (p' r m.aU 0 b)⟩),(2,⟨8,aT (p' r m.fin (b - 1) b)⟩),(3,⟨12,aT (wV m r i o b j)⟩)])
   (I:=λj=>j<=J) (m:=λj=>J - j) 0
   ((aA.cW (s0:=12) (g0:=0) (i:=7) (s:=77) (sz:=12) rfl).trans (aA.to [2,3,5,6,10,11,12,14] [((5,0),5),((6,0),6),((10,0),10),((12,0),12),((1,0),1),((2,0),2),((77,0),3)] (by simp[wV]))) (by omega) ?_
  rintro j h2 R2 h af u;have x:IntKind.i64.wrap (4*(j:Int)+1)=4*(j:Int)+1:=b5;have W:IntKind.i64.wrap (4*(j:Int)+2)=4*(j:Int)+2:=b5;have C:IntKind.i64.wrap (4*(j:Int)+3)=4*(j:Int)+3:=b5;have D:IntKind.i64.wrap (4*(j:Int)+4)=4*((j+1:Nat):Int):=by rw[cG (by omega) (by omega)];omega
  have g0:(4*(j:Int)).toNat=4*j:=by omega
  have y:(4*(j:Int)+1).toNat=4*j+1:=by omega
  have X:(4*(j:Int)+2).toNat=4*j+2:=by omega
  have Y:(4*(j:Int)+3).toNat=4*j+3:=by omega
  have p0:0<=4*(j:Int):=by omega
  have z:0<=4*(j:Int)+1:=by omega
  have p2:0<=4*(j:Int)+2:=by omega
  have p3:0<=4*(j:Int)+3:=by omega
  simp[g.sn,aD,C,g0,p0];refine⟨λN=>⟨λO=>?_,λO=>u _ _ ?_⟩,λN=>u _ _ ?_⟩
  .have hj:4*j+3<m.aE.length:=by omega
   have l:=Xi m r i o b j hj;have f:=Ha m r i o b j;refine bK (by omega) ?_;refine bA (sv m.aE[4*j] b (by omega) (by omega)) ?_;simp[W,X,p2];refine bK (by omega) ?_;refine bA (sv m.aE[4*j+2] b (by omega) (by omega)) ?_;simp[C,Y,p3];refine bK (by omega) ?_;refine bA (Qh r B m.aE[4*j+3]) ?_;simp[x,y,z];refine bK (by omega) ?_;refine bA (sv m.aE[4*j+1] i (by omega) (by omega)) ?_;have b1:=B1 m.aE[4*j+1] (show i≠0 by omega);have b2:=B0 m.aE[4*j+1] (show 0<i by omega);have w1:IntKind.i64.wrap (1+m.aE[4*j+1] % i)=1+m.aE[4*j+1] % i:=b5;simp[x,y,z,w1];refine bK (by omega) ⟨by omega,?_⟩;refine bF (sv (nY m.aE[4*j+1] i) o (by omega) (by omega)) (by simp[nY]) ?_;have c1:=B1 (nY m.aE[4*j+1] i) (show o≠0 by omega);have c2:=B0 (nY m.aE[4*j+1] i) (show 0<o by omega);have w2:IntKind.i64.wrap (1+nY m.aE[4*j+1] i % o)=1+nY m.aE[4*j+1] i % o:=b5;simp[w2];refine⟨λd=>?_,λd=>?_⟩
   .have G:IntKind.i64.wrap (i+1)=i+1:=b5;have wo:IntKind.i64.wrap (o+1)=o+1:=b5;simp[x,y,z,G];refine bK (by omega) ?_;refine bA (sv m.aE[4*j+1] (i+1) (by omega) (by omega)) ?_;simp[x,y,z,G,wo];refine bK (by omega) ⟨by omega,?_⟩;refine bF (sv (nY m.aE[4*j+1] (i+1)) (o+1) (by omega) (by omega)) (by simp[nY]) ?_;simp[D,f];exact⟨by omega,h (j+1) _ (aA.to [2,3,5,6,10,11,12,14] [((5,0),5),((6,0),6),((10,0),10),((12,0),12),((1,0),1),((2,0),2),((141,0),3)] (by simp[aD,l,Aq,d])) (by omega) (by omega)⟩
   .simp[D,f];exact⟨by omega,h (j+1) _ (aA.to [2,3,5,6,10,11,12,14] [((5,0),5),((6,0),6),((10,0),10),((12,0),12),((1,0),1),((2,0),2),((141,0),3)] (by simp[aD,l,Aq,d])) (by omega) (by omega)⟩
  all_goals
   obtain rfl:j=J:=by omega
   have t1:(p' r m.aU 0 b).take b=p' r m.aU 0 b:=fK (by rw[BO];omega);have t2:(p' r m.fin (b - 1) b).take b=p' r m.fin (b - 1) b:=fK (by rw[BO];omega);have t3:(wV m r i o b j).take j=wV m r i o b j:=fK (by rw[Ha];omega);simp[hT,BO,Ha,t1,t2,t3]
section
variable {r:aB}
def ckL(r:aB)(N:Nat)(l:List GW):Prop:=(∀ w∈l,w.aQ r)/\l.length=N
def Ys(r:aB)(N:Nat)(l:List aC):Prop:=∀ x∈l,x.w.aQ r/\x.fit N
structure swap (t u:GTrans):Prop where
 ring:u.ring=t.ring
 st:u.st=t.st
 aU:u.aU=t.aU
 fin:u.fin=t.fin
 aE:u.aE.Perm (t.aE.map swT)
structure ckT (r:aB) (t:GTrans):Prop where
 ring:t.ring=r
 rok:r.ok=true
 fin:ckL r t.st.toNat t.fin
 aE:Ys r t.st.toNat t.aE
end
section
variable {α : Type} {key : α -> List Int} {wt : α -> GW} {r:aB}
end
end Go.Ab
namespace Go.Ab
open Enc (enc)
attribute [local simp] fX bL.aR
def tJ:GW:=.mk (cH 1) 0 false 0 [] []
def kV:aB:=⟨1,[]⟩
def ZM:kV.one=tJ:=by simp[aB.one,kV,aB.ok,tJ,dZ]
def CP:tJ.aQ kV:=⟨rfl,λ_=>wB.2 ⟨rfl,rfl,rfl,rfl,rfl,sP 1⟩,λh=>by cases h⟩
structure gH.fit (a:gH):Prop where
 sm:a.sm 1048576
 li:a.aU.length<=1000000
 lf:a.fin.length<=1000000
 la:a.aE.length<=1000000
structure GTrans.fit (a:GTrans):Prop where
 sm:a.sm 1048576
 li:a.aU.length<=1000000
 lf:a.fin.length<=1000000
 la:a.aE.length<=1000000
end Go.Ab
