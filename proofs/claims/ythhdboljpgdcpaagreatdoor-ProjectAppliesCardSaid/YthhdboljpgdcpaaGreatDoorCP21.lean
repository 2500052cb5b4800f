/- Lemmas for the law ProjectApplies, part 21. No conditions. -/
import Derived.Test.YthhdboljpgdcpaaGreatDoorCP19
import Derived.Test.YthhdboljpgdcpaaGreatDoorCP20
import Derived.Test.YthhdboljpgdcpaaGreatDoorCP17
set_option maxRecDepth 100000
set_option maxHeartbeats 4000000
set_option linter.all false
namespace Go.Ab
open Enc (enc)
def Zb:JN P 341 6:=Dm
def Ze(m n:aF):zS 342 [enc m,enc n] (.int .i64 (n.e.cmp m.e)):=by refine Sp.vz c.di λ_=>?_;simp[g.di];refine bA (Qa m.e n.e) rfl ?_;simp
def ybk:gO P 391 [.sl [],.int .i64 0,.int .i64 0,.fn 342 []] 0 6 [] (.pure (.bM [])):=by refine gO.cE c.qj (by simp) rfl rfl ?_;simp[g.qj];refine zK λR f hr d=>?_;simp[g.xx,g.xy];refine d _ _ ?_;simp
def yaz(k:Int):gO P 372 [.sl [],.int .i64 0,.int .i64 0,.int .i64 k,.fn 342 []] 0 6 [] (.pure (.bM [])):=by refine gO.cE c.lz (by simp) rfl rfl ?_;simp[g.lz];refine zK λR d hr f=>?_;simp[g.xv];refine qV ybk (by simp) rfl rfl (by simp) rfl rfl rfl rfl rfl (by simp) ?_;simp;exact hr _ (by simp)
def Ex.mI(x y:Ex):x.cmp y<0 ↔ x.a<y.a\/(x.a=y.a/\(x.b<y.b\/(x.b=y.b/\x.c<y.c))):=by
 unfold Ex.cmp
 repeat' split
 all_goals omega
def sD(x:PV):Prop:=∃ m:aF,x=enc m
def sX:PV->Ex
 | .agg (.int _ a::.int _ b::.int _ c::_)=>⟨a,b,c⟩
 | _=>⟨0,0,0⟩
theorem ZV(m:aF):sX (enc m)=m.e:=rfl
def Ex.ext'{x y:Ex}(d:¬ x.cmp y<0)(f:¬ y.cmp x<0):x=y:=by rw[Ex.mI]at d f;cases x;cases y;simp only[Ex.mk.injEq]at *;omega
theorem Wp(l k:List aF)(Q:l.length<=1073741824)(hk:(l.map (·.e)).Nodup)(hp:k.Perm l)(hs:k.Pairwise λx y=>y.e.cmp x.e<0):gO P 341 [.sl (ens l),.fn 342 []] 0 6 (ens k) (.pure (.bM [])):=by
 have p:=Mw c.fh;have t:=Mw c.di;cases l with
 | nil =>
  have:k=[]:=List.Perm.eq_nil hp;subst this;refine gO.cE c.fh (by simp) rfl rfl ?_;simp[g.fh];refine bA yf9 rfl ?_;simp;refine qV (yaz 0) (by simp) rfl rfl (by simp) rfl rfl rfl rfl rfl (by simp) ?_;simp
 | cons m l =>
  have u:∀ x y:aF,x∈m::l->y∈m::l->x.e=y.e->x=y:=λx y A B d=>by obtain⟨i,K⟩:=List.getElem?_of_mem A;obtain⟨j,M⟩:=List.getElem?_of_mem B;obtain⟨N,F⟩:=List.getElem?_eq_some_iff.1 K;obtain⟨O,G⟩:=List.getElem?_eq_some_iff.1 M;have:i=j:=(List.getElem_inj (h₀ := by simpa using N) (h₁ := by simpa using O) hk).1 (by simp only[List.getElem_map,F,G,d]);subst this;rw[<- F,<- G]
  refine Zb.spM p (by decide) (D:=sD) (c:=λx y=>(sX y).cmp (sX x)) t ?_ ?_ ?_ ?_ (by simp[-gW,ens]) (by simp only[Mt];omega) ?_ ?_ ?_
  .rintro _ _ ⟨x,rfl⟩ ⟨y,rfl⟩;exact Ze x y
  .rintro _ ⟨x,rfl⟩;rw[Ex.mI];omega
  .rintro _ _ _ ⟨x,rfl⟩ ⟨y,rfl⟩ ⟨z,rfl⟩ n o;simp only[Ex.mI]at *;omega
  .rintro _ _ _ ⟨x,rfl⟩ ⟨y,rfl⟩ ⟨z,rfl⟩ n o;simp only[Ex.mI]at *;omega
  .intro e d;obtain⟨x,_,rfl⟩:=cA.1 d;exact⟨x,rfl⟩
  .intro e d;exact SX _ e d
  .intro R C w;have f:(ens k).Perm (ens (m::l)):=hp.map _;refine List.Perm.eq_of_pairwise (le:=λx y=>¬ (sX x).cmp (sX y)<0) (λa b I J n o=>?_) w ?_ (C.trans f.symm)
   .obtain⟨x,A,rfl⟩:=cA.1 (C.mem_iff.1 I);obtain⟨y,B,rfl⟩:=cA.1 (f.mem_iff.1 J);have:=u x y A B (Ex.ext' n o);rw[this]
   .rw[ens,Jr];refine hs.imp λ{x y} h=>?_;simp only[ZV,Ex.mI]at *
    omega
def Bo(p:Ex × aT):Option aF:=if p.2.v≠0 then some ⟨p.1,p.2⟩else none
def nz(L:List (Ex × aT)):List aF:=L.filterMap Bo
def pB(L:List (Ex × aT))(j:Nat):Option aF:=L[j]?.bind Bo
theorem RP{α β : Type}(f : α -> Option β):∀ (L:List α),(List.range L.length).filterMap (λj=>L[j]?.bind f)=L.filterMap f
 | []=>rfl
 | x::L=>by
  rw[qH,List.range_succ_eq_map,GM];have h:(List.map Nat.succ (List.range L.length)).filterMap (λj=>(x::L)[j]?.bind f)=L.filterMap f:=by rw[List.filterMap_map,<- RP f L];rfl
  simp only[List.getElem?_cons_zero,Option.bind_some,h,GM]
def ya6(L:List (Ex × aT)):(List.range L.length).filterMap (pB L)=nz L:=RP Bo L
theorem Qw{j:Nat}{d:List Nat}(o:j∈d):∀ {R:List Nat},R.Nodup->(R.filter λi=>i∉d.filter λi=>!decide (i=j)).Perm ((if j∈R then[j]else[])++R.filter λi=>i∉d)
 | [],_=>by simp
 | x::R,h=>by
  obtain⟨p,t⟩:=uL.1 h;have l:=Qw o t;by_cases n:x=j
  .subst n;have f:decide (x∉d.filter λi=>!decide (i=x))=true:=by simp
   have k:decide (x∉d)=false:=by simp[o]
   rw[bD p]at l;simp only[EV,f,k,gP,fQ,cI,true_or,cH,List.singleton_append,uP]at l ⊢;exact l.cons x
  .have u:(j∈x::R) ↔ j∈R:=by simp[wJ n]
   simp only[u];by_cases m:x∈d
   .have f:decide (x∉d.filter λi=>!decide (i=j))=false:=by simp[m,n]
    have k:decide (x∉d)=false:=by simp[m]
    simp only[EV,f,k,gP,fQ];exact l
   .have f:decide (x∉d.filter λi=>!decide (i=j))=true:=by simp[m]
    have k:decide (x∉d)=true:=by simp[m]
    simp only[EV,f,k,cH];exact(l.cons x).trans List.perm_middle.symm
theorem yfw{L:List (Ex × aT)}{d:List Nat}{j:Nat}(k:j∈d)(l:j<L.length){acc:List aF}(h:acc.Perm (((List.range L.length).filter λi=>i∉d).filterMap (pB L))) :
  (match pB L j with|some m=>acc++[m]|none=>acc).Perm (((List.range L.length).filter λi=>i∉d.filter λi=>!decide (i=j)).filterMap (pB L)):=by
 have f:=(Qw k (R:=List.range L.length) List.nodup_range).filterMap (pB L);rw[aX (yF.2 l),List.singleton_append,GM]at f;refine List.Perm.trans ?_ f.symm;cases pB L j with
 | none=>exact h
 | some m=>exact(List.perm_append_comm (l₁ := acc) (l₂ := [m])).trans (h.cons m)
def Lx{L:List (Ex × aT)}(h:(L.map (·.1)).Nodup):((nz L).map (·.e)).Nodup:=by
 have d:∀ L:List (Ex × aT),((nz L).map (·.e)).Sublist (L.map (·.1)):=by
  intro L
  induction L with
  | nil=>exact List.Sublist.refl _
  | cons p L i =>
   simp only[nz,GM,Bo]at i ⊢;split
   .rename_i j;exact i.cons _
   .rename_i m f;split at f
    .cases f;exact i.cons_cons _
    .cases f
 exact(d L).nodup h
def Cq(d:Nat)(acc:List aF):St:=aB [(3,.own 1 0 0 acc.length),(7,.p (.wZ d))] [(1,⟨6,aK acc⟩)]
def On(j r:Nat)(L:List (Ex × aT))(n:Nat)(s:St)(B:Option FA):Prop:=∃ d f h,aA s (Cq j d)/\B=some (n' j r (n3 L) (pD L) f h)/\f.length=n/\d.length+f.length<=L.length/\d.Perm (((List.range L.length).filter λi=>i∉f).filterMap (pB L))
def lsE(h:Nat)(L:List (Ex × aT))(f:Exit)(s:St):Prop:=f=.exit 0/\∃ d,aA s (Cq h d)/\d.Perm (nz L)/\d.length<=L.length
def MK(r:Nat)(L:List (Ex × aT))(Z:∀ p∈L,p.2.sm 4194304)(N:(L.map (·.1)).Nodup)(U:L.length<=1000000)(A:List aF)(hp:A.Perm (nz L))(hs:A.Pairwise λx y=>y.e.cmp x.e<0) :
  Sp P 292 [.mp r (n3 L) (pD L)] (.fresh 6 (ens A)):=by
 refine Sp.fZ c.ff (by simp) ?_;unfold g.ff;generalize hP:(λG s (_:Option FA)=>iD [(2,none)] (RV.fresh 6 (ens A)) G s)=Post;refine MR.dG ?_;simp;refine MR.dG ?_;simp;refine MR.cK (MR.cK (MR.mC (AU 1 [[0],[6]] ?_)));simp;refine eC.cons (z59 ty.map (by rfl) λW=>?_);refine xT [] ?_;simp;refine MR.kR (MR.mono (MR.nL (Post:=λG s B=>lsE W L G s) (I:=On W r L) L.length ?_ ?_) ?_)
 .refine⟨[],List.range L.length,none,?_,by simp[n3],by simp,by simp,?_⟩
  .exact aA.nl 3 1 6 rfl (aA.to [3,7] [((1,0),1)] (by simp[Cq,aB]))
  .have:(List.range L.length).filter (λi=>i∉List.range L.length)=[]:=by rw[List.filter_eq_nil_iff];intro a R;simp at R ⊢;exact R
   rw[this];exact List.Perm.refl _
 .rintro n s B ⟨k,O,X,hw,rfl,V,K,d⟩;refine MR.eE hw ?_;unfold g.xi;refine MR.cK (MR.mC (eC.cons (ybc rfl (λY=>?_) (λj S kv vv m w=>?_))))
  .refine xT [[8]] ?_;simp;refine MR.cK (MR.eY (t:=false) rfl (λh=>by cases h) (λ_=>MR.uW ⟨λh=>(by cases h),λ_=>⟨λh=>(by cases h),λ_=>⟨rfl,k,?_,?_,by omega⟩⟩⟩))
   .exact aA.to [3,7] [((1,0),1)] (by simp[Cq,aB])
   .subst Y;have e:(List.range L.length).filter (λi=>decide (i∉([]:List Nat)))=List.range L.length:=GL.2 (by simp);rw[e,ya6]at d;exact d
  .obtain⟨p,l,rfl,rfl⟩:∃ p:Ex × aT,L[j]?=some p/\kv=enc p.1/\vv=enc p.2:=by simp only[n3,EZ,wL]at m;obtain⟨p,Q,rfl⟩:=m;simp only[pD,EZ,Q,E4,cD]at w;exact⟨p,Q,rfl,w.symm⟩
   have M:=(iU.1 l).1;refine xT [[8]] ?_;simp;refine MR.cK (MR.eY (t:=true) rfl (λ_=>MR.pE ⟨λ_=>?_,λh=>absurd rfl h⟩) (λh=>by cases h));refine MR.kR (MR.cK (MR.mC (eC.cons (XB rfl m w ?_))));refine xT [[],[10],[],[],[11],[12]] ?_;simp[Cq,aB];refine MR.cE ?_;simp;refine bA (Iq p.2 (Z p (wM l))) rfl ?_;have f:=yfw S M d;have F:(O.filter λi=>!decide (i=j)).length<O.length:=by refine Nat.lt_of_le_of_ne (kB _ _) λh=>?_;have:=(List.length_filter_eq_length_iff.1 h) j S;simp at this
   by_cases J:p.2.v=0
   .have u:kM p.2.v=0:=(Et _).2 J;simp[u];have o:pB L j=none:=by simp[pB,l,Bo,J]
    rw[o]at f;exact⟨λ_=>⟨_,by rw[<- V];exact F,k,_,_,aA.to [3,7] [((1,0),1)] (by simp[Cq,aB]),rfl,rfl,by omega,f⟩,λh=>absurd rfl h⟩
   .have u:kM p.2.v≠0:=λh=>J ((Et _).1 h);simp[u];have o:pB L j=some ⟨p.1,p.2⟩:=by simp[pB,l,Bo,J]
    rw[o]at f;exact⟨by omega,λ_=>⟨_,by rw[<- V];exact F,k++[⟨p.1,p.2⟩],_,_,aA.to [3,7] [((21,0),1)] (by simp[Cq,aB]),rfl,rfl,by simp;omega,f⟩,λh=>absurd rfl h⟩
 .rintro G s B ⟨rfl,k,hw,d,K⟩;refine⟨λ_=>?_,λh=>absurd rfl h⟩;refine MR.eE hw (MR.cE ?_);simp[Cq,aB];subst hP;have C:(k.map (·.e)).Nodup:=(d.map _).nodup_iff.2 (Lx N);have D:A.length=k.length:=(hp.trans d.symm).length_eq;refine qV (Wp k A (by omega) C (hp.trans d.symm) hs) (by simp) rfl rfl (by simp) (by simp) (by simp[D]) rfl (jF _ _ rfl) (cells_one (λ_=>rfl) _) (by simp) ?_;simp[D]
def C7:zR.v=0:=tJ
structure jN (ms:List aF) (L:List (Ex × aT)):Prop where
 G3:∀ e,(tK e L).v=pc ms e
 val:∀ e c,jZ e L=some c->c=cR (pc ms e)/\∃ m∈ms,m.e=e
 Cp:(L.map (·.1)).Nodup
 len:L.length<=ms.length
theorem TC{κ α : Type}[DecidableEq κ](e : κ)(c : α):∀ L:List (κ × α),(kQ e c L).length<=L.length+1
 | []=>by simp[kQ]
 | (f,d)::L=>by have:=TC e c L;simp only[kQ];split<;>simp<;>omega
theorem Ra{κ α : Type}[DecidableEq κ]{e : κ}{c : α}:∀ {L:List (κ × α)},(L.map (·.1)).Nodup->(e,c)∈L->jZ e L=some c
 | (d,k)::L,j,h=>by
  obtain⟨f,i⟩:=uL.1 j;simp only[jZ];obtain h|h:=cI.1 h
  .cases h;simp
  .have:d≠e:=by rintro rfl;exact f (cA.2 ⟨_,h,rfl⟩)
   rw[bD this];exact Ra i h
def jN.step{ms:List aF}{L:List (Ex × aT)}(h:jN ms L)(m:aF):jN (ms++[m]) (lJ m L):=by
 have f:∀ e,pc (ms++[m]) e=pc ms e+if m.e=e then m.bE.v else 0:=λe=>by rw[Er];simp[pc,qY]
 refine⟨λe=>?_,λe c i=>?_,Yz _ _ h.Cp,?_⟩
 .rw[f];simp only[tK,lJ,L'];split
  .rename_i d;subst d;simp only[xW,kW];have:=h.G3 m.e;simp only[tK]at this;rw[this]
  .rw[qY];exact h.G3 e
 .simp only[lJ,L']at i;rw[f];split at i
  .rename_i d;subst d;cases i;exact⟨by rw[h.G3,aX rfl],m,by simp,rfl⟩
  .rename_i d;obtain⟨j,x,k,l⟩:=h.val e c i;exact⟨by rw[bD d,qY];exact j,x,by simp[k],l⟩
 .have:=TC m.e (cR ((tK m.e L).v+m.bE.v)) L;have:=h.len;simp only[lJ,gQ,Jq];omega
def qS(ms:List aF)(L:List (Ex × aT)):List (Ex × aT):=ms.foldl (λL m=>lJ m L) L
theorem jN.fold:∀ (d:List aF) {ms:List aF} {L:List (Ex × aT)},jN ms L->jN (ms++d) (qS d L)
 | [],ms,L,h=>by simpa[qS]using h
 | m::d,ms,L,h=>by have:=jN.fold d (h.step m);simpa[qS]using this
def jN.nil:jN [] []:=⟨λe=>C7,λe c h=>(by cases h),by simp,by simp⟩
def Bq(ms:List aF):jN ms (qS ms []):=by simpa using jN.fold ms jN.nil
def jN.mem{ms:List aF}{L:List (Ex × aT)}(h:jN ms L){p:Ex × aT}(hp:p∈L):p.2=cR (pc ms p.1)/\∃ m∈ms,m.e=p.1:=h.val p.1 p.2 (Ra h.Cp hp)
theorem Sz{p q:List aF}(h:p.Perm q)(e:Ex):pc p e=pc q e:=by
 induction h with
 | nil=>rfl
 | cons x _ i=>simp only[pc,i]
 | swap x y l=>simp only[pc];rw[<- Rat.add_assoc,<- Rat.add_assoc,Cb (if y.e=e then y.bE.v else 0)]
 | trans _ _ d f=>rw[d,f]
def KF{L:List (Ex × aT)}{m:aF}(h:m∈nz L):(m.e,m.bE)∈L/\m.bE.v≠0:=by
 obtain⟨p,d,h⟩:=List.mem_filterMap.1 h;unfold Bo at h;split at h
 .rename_i f;cases h;exact⟨d,f⟩
 .cases h
theorem NL:∀ {L:List (Ex × aT)} (e:Ex),(L.map (·.1)).Nodup->pc (nz L) e=(tK e L).v
 | [],e,_=>by simp[nz,pc,tK,jZ,C7]
 | (f,i)::L,e,h=>by
  obtain⟨p,t⟩:=uL.1 h;have l:=NL (L:=L) e t;have d:nz ((f,i)::L)=if i.v≠0 then⟨f,i⟩::nz L else nz L:=by simp only[nz,GM,Bo];split<;>split<;>simp_all
  rw[d];simp only[tK,jZ];by_cases j:f=e
  .subst j;have o:pc (nz L) f=0:=D5 λm u k=>p (cA.2 ⟨_,(KF u).1,k⟩);split
   .simp[pc,o,qY]
   .rename_i n;simp at n;simp[o,n]
  .simp only[bD j];simp only[tK]at l;split
   .simp[pc,j,l,Bc]
   .exact l
def XL{p q:List aF}(hp:bS p)(C:bS q){L:List (Ex × aT)}(h:jN (p++q) L):(eN p q).Perm (nz L):=by
 have u:∀ m∈p++q,m.ok=true:=λm k=>by
  obtain h|h:=dN.1 k
  .exact(iA.1 hp).1 m h
  .exact(iA.1 C).1 m h
 have f:∀ m∈nz L,m.ok=true:=λm k=>by obtain⟨w,n⟩:=KF k;obtain⟨o,x,A,B⟩:=h.mem w;simp only at o B;refine aF.b0.2 ⟨?_,by rw[o];exact vD _,n⟩;rw[<- B];exact(aF.b0.1 (u x A)).1
 let le:aF->aF->Bool:=λa b=>decide (b.e.code<=a.e.code)
 have d:((nz L).mergeSort le).Perm (nz L):=List.mergeSort_perm _ _;have i:((nz L).mergeSort le).Pairwise λa b=>le a b=true:=List.pairwise_mergeSort (λa b c w n=>by simp only[le,decide_eq_true_eq]at *;omega) (λa b=>by simp only[le,Dc,decide_eq_true_eq];omega) _;have t:(((nz L).mergeSort le).map (·.e)).Nodup:=(d.map _).nodup_iff.2 (Lx h.Cp);have l:bS ((nz L).mergeSort le):=by
  refine iA.2 ⟨λm k=>f m (d.mem_iff.1 k),?_⟩;have n:((nz L).mergeSort le).Pairwise λa b=>a.e≠b.e:=List.pairwise_map.1 t;refine(i.and n).imp_of_mem λ{a b} D F j=>?_;have I:=(aF.b0.1 (f a (d.mem_iff.1 D))).1;have J:=(aF.b0.1 (f b (d.mem_iff.1 F))).1;have o:b.e.code<=a.e.code:=by simpa[le]using j.1
  have A:b.e.code≠a.e.code:=λG=>j.2 ((Ex.mG J I).1 G).symm;omega
 have:eN p q=(nz L).mergeSort le:=by refine Ip (xU q hp) l λe=>?_;rw[zP p (iA.1 C).1,Sz d,NL e h.Cp,h.G3,Er]
 rw[this];exact d
def Va{p q:List aF}(hp:bS p):(eN p q).Pairwise λx y=>y.e.cmp x.e<0:=by have d:=iA.1 (xU q hp);refine d.2.imp_of_mem λ{a b} f i h=>?_;exact(Ex.mH (aF.b0.1 (d.1 b i)).1 (aF.b0.1 (d.1 a f)).1).2 h
def jN.sm{p q:List aF}{n:Nat}(hp:bS p)(hq:bS q)(d:fP p n)(A:fP q n)(hn:1<=n){L:List (Ex × aT)}(h:jN (p++q) L):∀ x∈L,x.1.ok=true/\x.2.sm (n+n+1):=by
 intro x u;obtain⟨l,m,o,h3⟩:=h.mem u;refine⟨?_,?_⟩
 .rw[<- h3];obtain h|h:=dN.1 o
  .exact(aF.b0.1 ((iA.1 hp).1 m h)).1
  .exact(aF.b0.1 ((iA.1 hq).1 m h)).1
 .have f:∀ {p:List aF},bS p->fP p n->∃ a:aT,a.sm n/\a.v=pc p x.1:=λ{p} t d=>by
   obtain h|⟨y,w,h⟩:=F0 t x.1
   .exact⟨dP,yf n,by rw[tJ,h]⟩
   .exact⟨y.bE,d y w,h.symm⟩
  obtain⟨a,a1,i⟩:=f hp d;obtain⟨b,j,k⟩:=f hq A;rw[l,Er,<- i,<- k];exact MJ a1 j hn hn
def Bn(r:Nat)(ms:List aF)(k:Nat):St:=aB [(5,.p (.fM r)),(14,.own 1 0 0 ms.length),(15,.p (.int .i64 ms.length)),(16,.p (.int .i64 k))] [(1,⟨6,aK ms⟩)]
def J1(r:Nat)(ms:List aF):Option FA:=some (sN r (n3 (qS ms [])) (pD (qS ms [])))
def paI(r:Nat)(ms:List aF)(n:Nat)(s:St)(B:Option FA):Prop:=∃ k,k<=ms.length/\n=ms.length - k/\aA s (Bn r ms k)/\B=J1 r (ms.take k)
def paE(r:Nat)(ms:List aF)(d:Exit)(s:St)(B:Option FA):Prop:=d=.exit 0/\aA s (Bn r ms ms.length)/\B=J1 r ms
def Yw(ms:List aF)(m:aF):qS (ms++[m]) []=lJ m (qS ms []):=by simp[qS]
def UI:GC:=.seq (.cX [⟨some 27,.mv (.t 5),none⟩,⟨some 28,.call 292 [.t 27],none⟩,⟨some 4,.mv (.t 28),none⟩] [[5,14,15,16],[27],[28]])
 (.ret)
def Sy(r:Nat)(p q:List aF)(n:Nat)(J:bS p)(M:bS q)(O:fP p n)(Q:fP q n)(K:1<=n)(hn:n<=400000)(X:p.length<=100000)(Y:q.length<=100000){s:St}(hw:aA s (Bn r (p++q) 0)) :
  MR P 29 (GC.bX 0 (.loop g.uh)).er s (J1 r []) λu s B=>(u=.normal->MR P 29 UI.er s B λu s _=>iD [(4,none)] (RV.pure (.sl (ens (eN p q)))) u s)/\(u ≠ .normal->iD [(4,none)] (RV.pure (.sl (ens (eN p q)))) u s):=by
 have N:(p++q).length<=200000:=by simp;omega
 have D:∀ m∈p++q,m.e.ok=true/\m.bE.sm n:=λm A=>by
  obtain h|h:=dN.1 A
  .exact⟨(aF.b0.1 ((iA.1 J).1 m h)).1,O m h⟩
  .exact⟨(aF.b0.1 ((iA.1 M).1 m h)).1,Q m h⟩
 have j:∀ k,∀ x∈qS ((p++q).take k) [],x.1.ok=true/\x.2.sm 1048576:=λk x G=>by have h:=Bq ((p++q).take k);have e:(p++q).take k=p.take k++q.take (k - p.length):=List.take_append;rw[e]at h G;obtain⟨S,U⟩:=h.sm (J.take k) (M.take _) (λm A=>O m (iC A)) (λm A=>Q m (iC A)) K x G;exact⟨S,U.mono (by omega)⟩
 have f:=Bq (p++q);have F:=j (p++q).length;rw[kK]at F;have l:=XL J M f;have o:=Va (p:=p) (q:=q) J;generalize V:p++q=i at *
 refine MR.kR (MR.mono (MR.nL (Post:=paE r i) (I:=paI r i) i.length ⟨0,by omega,by omega,hw,rfl⟩ ?_) ?_)
 .rintro Z s B ⟨k,hk,rfl,hw,rfl⟩;refine MR.eE hw ?_;unfold g.uh;refine MR.dG ?_;simp[Bn,aB];by_cases d:k<i.length
  .refine MR.cK (MR.eY (t:=true) (by simp[d]) (λ_=>MR.pE ⟨λ_=>?_,λh=>absurd rfl h⟩) (λh=>by cases h));simp;refine MR.cK (MR.kR (MR.dG ?_));simp;refine⟨d,bK d ?_⟩;have C:=D i[k] (bU d);refine MR.mC (AU 5 [[],[],[21],[7],[23]] ?_);simp;refine eC.cons (Ma (args:=[enc i[k].e,enc i[k].bE]) (Mr i[k] _ C.1 (C.2.mono (by omega)) (j k)) (by simp) (Ik _) (Il _) ?_);refine xT [[20,22,24,25]] ?_;simp;refine⟨λ_=>MR.cE ?_,λh=>absurd rfl h⟩;have R:=aZ k;simp[R];refine⟨_,?_,k+1,by omega,rfl,aA.to [5,14,15,16] [((1,0),1)] (by simp[Bn,aB]),?_⟩
   .omega
   .simp only[J1];rw[ed d,Yw]
  .have w:k=i.length:=by omega
   refine MR.cK (MR.eY (t:=false) (by simp[d]) (λh=>by cases h) (λ_=>MR.uW ⟨λh=>(by cases h),λ_=>⟨λh=>(by cases h),λ_=>⟨rfl,?_,?_⟩⟩⟩))
   .exact aA.to [5,14,15,16] [((1,0),1)] (by simp[Bn,aB,w])
   .rw[w,kK]
 .rintro u s B ⟨rfl,hw,rfl⟩;refine⟨λ_=>?_,λh=>absurd rfl h⟩;refine MR.eE hw (MR.freeze (t:=5) rfl ?_);refine MR.cE ?_;simp[UI,Bn,aB];have W:=O7 p q;refine EF (MK r (qS i []) (λx G=>(F x G).2.mono (by omega)) f.Cp (by have:=f.len;omega) (eN p q) l o) (by simp) ⟨jF _ _ rfl,by decide,by simp[-gW,ens,eL];omega⟩ _ rfl ?_;simp[aI]
def YT(p q:List aF)(n:Nat)(k:fP p n)(l:fP q n)(d:1<=n)(hn:n<=400000)(A:p.length<=100000)(B:q.length<=100000) :
  zS 240 [.sl (ens p),.sl (ens q)] (.sl (ens (eN (pv p) (pv q)))):=by
 refine Sp.fZ c.ph (by simp) ?_;unfold g.ph;generalize h:(λt s (_:Option FA)=>iD [(4,none)] (RV.pure (.sl (ens (eN (pv p) (pv q))))) t s)=f;have m:=Ul p;have o:=Ul q;have i:=Uk k;have j:=Uk l;have w:=Uj p;have x:=Uj q;refine MR.dG ?_;simp;refine MR.cK (MR.mC (eC.cons (I4 λr=>?_)));refine xT [[8]] ?_;simp;refine MR.cK (MR.dG ?_);simp;refine bA (ID p (k.mono (by omega)) (by omega)) rfl ?_;simp;refine bA (ID q (l.mono (by omega)) (by omega)) rfl ?_;simp;refine EF (WZ (pv p) (pv q) (by omega)) (by simp) ⟨jF _ _ rfl,by decide,by simp[-gW,ens,eL];omega⟩ _ rfl ?_;cases u:(ens (pv p++pv q)).all PV.flat
 .simp[aI];subst h;refine Sy r (pv p) (pv q) n m o i j d hn (by omega) (by omega) ?_;exact aA.to [5,14,15,16] [((14,0),1)] (by simp[Bn,aB])
 .simp;subst h;refine Sy r (pv p) (pv q) n m o i j d hn (by omega) (by omega) ?_;exact aA.to [5,14,15,16] [((14,0),1)] (by simp[Bn,aB])
end Go.Ab
namespace Go.Ab
open Enc (enc)
attribute [local simp] iJ bP.aY
def aT.sm.jX{x:aT}{m n:Nat}(h:x.sm m)(k:m<=n):x.sm n:=⟨dM h.1 k,dM h.2 k⟩
def fP.jX{p:List aF}{m n:Nat}(h:fP p m)(k:m<=n):fP p n:=λx d=>(h x d).jX k
theorem GW.sm.mono{m n:Nat}(k:m<=n):∀ w:GW,w.sm m->w.sm n:=by
 refine GW.sm.ind λv d f=>?_;cases v with
 | mk q c i s p ps=>exact .mk (d.q.jX k) (d.aR.jX k) (dM d.len k) (dM d.uU k) f
def GW.sm.one(k:Int){n:Nat}{q:aT}{c:Int}{i:Bool}{s:UInt64}{p:List aF}(hq:q.sm n)(hp:fP p n)(hl:p.length<=n):(GW.mk q c i s p []).sm n:=.mk hq hp hl (by simp) (by simp)
def FI(n:Nat):fP [] n:=by intro m d;simp at d
def OH{k:Int}{v w:GW}{m n:Nat}(h:v.sm m)(hw:w.sm n)(j:v.aJ ⟨k,[]⟩)(l:w.aJ ⟨k,[]⟩)(i:1<=m)(hn:1<=n):(zaw k v w).sm (m+n+1):=by
 unfold zaw;have d:=h.mono (show m<=m+n+1 by omega);have f:=hw.mono (show n<=m+n+1 by omega);split
 .exact .one 0 (MJ h.q hw.q i hn) (FI _) (by simp)
 .split
  .split
   .exact f
   .exact d
  .split
   .split
    .exact f
    .exact d
   .split
    .exact .one 0 (yf _) (FI _) (by simp)
    .exact .one 0 (yf _) (yfr (BA j) (BA l) h.aR hw.aR i hn) (by have:=O7 v.aR w.aR;have:=h.len;have:=hw.len;omega)
def Qb{a b:Nat}(h:a<=b):4294967296^a<=4294967296^b:=pV (by omega) h
def nP:List Int->List GW->List GW->List GW
 | k::d,v::f,w::h=>zaw k v w::nP d f h
 | _,_,_=>[]
def aC.plus(r:aC)(v w:GW):GW:=if r.kind=6 then .mk dP 0 false 0 [] (nP r.parts v.parts w.parts)else zaw r.kind v w
theorem uG:∀ {ks:List Int} {vs ws:List GW},vs.length=ks.length->ws.length=ks.length->(nP ks vs ws).length=ks.length
 | [],vs,ws,_,_=>by simp[nP]
 | k::ks,[],ws,h,_=>by simp at h
 | k::ks,v::vs,[],_,h=>by simp at h
 | k::ks,v::vs,w::ws,d,f=>by simp[nP,uG (ks:=ks) (vs:=vs) (ws:=ws) (by simpa using d) (by simpa using f)]
theorem wH:∀ {ks:List Int} {vs ws:List GW} {i:Nat} (h:i<ks.length) (d:i<vs.length) (f:i<ws.length) (j:i<(nP ks vs ws).length),(nP ks vs ws)[i]=zaw ks[i] vs[i] ws[i]
 | k::ks,v::vs,w::ws,0,_,_,_,_=>by simp[nP]
 | k::ks,v::vs,w::ws,i+1,h,d,f,j=>by simp only[nP,List.getElem_cons_succ];exact wH (by simpa using h) (by simpa using d) (by simpa using f) (by simpa[nP]using j)
def yff(r:aC)(v w:GW)(N:v.sm 1048576)(hw:w.sm 1048576)(t:v.aJ r)(C:w.aJ r)(l:r.kind=6)
  (j:∀ i (h:i<r.parts.length) (J:i<v.parts.length) (X:i<w.parts.length),zS 130 [enc (⟨r.parts[i],[]⟩:aC),enc v.parts[i],enc w.parts[i]] (enc (zaw r.parts[i] v.parts[i] w.parts[i]))) :
  zS 130 [enc r,enc v,enc w] (enc (r.plus v w)):=by
 have o:=t.1;have K:=aC.bQ o l;have V:v.tk r=v:=aX t;have W:w.tk r=w:=aX C;have D:=lQ r v (N.mono (by omega));have F:=lQ r w (hw.mono (by omega));rw[V]at D;rw[W]at F;have Q:=(t.2.2 l).1;have U:=(C.2.2 l).1;have Y:(nP r.parts v.parts w.parts).length=r.parts.length:=uG Q U;refine Sp.vz c.ah λ_=>?_;simp[g.ah];refine bA (oG r) rfl ?_;simp[o];refine aW D ?_;simp;refine aW F ?_;simp[l]
 refine b6 (S:=λk:Nat=>aB [(3,.ptr 1 0 0 0),(4,.ptr 2 0 0 0),(5,.ptr 3 0 0 0),(6,.ptr 4 0 0 0),(7,.ptr 5 0 0 0),(8,.p (.int .i64 k))]
   [(1,⟨2,[.p (enc r)]⟩),(2,⟨8,[.p (enc v)]⟩),(3,⟨8,[.p (enc w)]⟩),(4,⟨8,[.agg [.p (.bool false),.nil,.nil,.p (.int .i64 0),.p (.bool false),.p (.int .u64 0),.nil,.nil]]⟩),
    (5,⟨8,[.agg [.p (.bool false),.nil,.nil,.p (.int .i64 0),.p (.bool false),.p (.int .u64 0),.nil,.own 6 0 0 k]]⟩),(6,⟨8,aK ((nP r.parts v.parts w.parts).take k)⟩)])
  (I:=λk=>k<=r.parts.length) (m:=λk=>r.parts.length - k) 0
  ((aA.b5 (s0:=7) (g0:=0) (i:=7) (s:=77) (sz:=8) rfl).trans (aA.to [3,4,5,6,7,8] [((3,0),1),((4,0),2),((5,0),3),((6,0),4),((7,0),5),((77,0),6)] (by simp[l]))) (by omega) ?_
 rintro k J R x hr O;have G:=aZ k;simp[g.wg,aB];refine⟨λhk=>?_,λhk=>O _ _ ?_⟩
 .have d:k<v.parts.length:=by omega
  have f:k<w.parts.length:=by omega
  have M:=K.2.2 _ (bU hk);refine bA (FZ r k hk) rfl ?_;simp;refine bK d ?_
  try simp
  refine bK f ?_
  try simp
  refine aW (j k hk d f) ?_;have n:k<(nP r.parts v.parts w.parts).length:=by omega
  have B:aK ((nP r.parts v.parts w.parts).take (k+1))=aK ((nP r.parts v.parts w.parts).take k)++[.p (enc (zaw r.parts[k] v.parts[k] w.parts[k]))]:=by rw[ed n,sR,wH hk d f n];rfl
  simp[G];exact⟨⟨by omega,by omega⟩,x (k+1) _ (aA.to [3,4,5,6,7,8] [((1,0),1),((2,0),2),((3,0),3),((4,0),4),((5,0),5),((97,0),6)] (by simp[B])) (by omega) (by omega)⟩
 .have u:k=(nP r.parts v.parts w.parts).length:=by omega
  have A:r.plus v w=.mk dP 0 false 0 [] (nP r.parts v.parts w.parts):=by simp[aC.plus,l]
  rw[A];subst u;simp
end Go.Ab
namespace Go.Ab
open Enc (enc)
def XM(v w:GW)(n:Nat)(l:v.sm n)(hw:w.sm n)(hn:n<=400000)(f:1<=n)(d:bS v.aR)(h:bS w.aR):zS 239 [enc v,enc w] (enc (zaw 5 v w)):=by
 have i:v.aR.length<=100000:=by have:=tU d;omega
 have j:w.aR.length<=100000:=by have:=tU h;omega
 have k:=YT v.aR w.aR n l.aR hw.aR f hn i j;rw[zG d,zG h]at k;refine Sp.vz c.ip λ_=>?_;simp[g.ip];refine bA k rfl ?_;simp[zaw,dP]
def OF(k:Int)(hk:1<=k/\k<=5)(v w:GW)(n:Nat)(l:v.sm n)(hw:w.sm n)(hn:n<=400000)(h:1<=n)(i:v.si k)(j:w.si k):Sp P (UO k) (enc v::enc w::US k) (.pure (enc (zaw k v w))):=by
 have:k=1\/k=2\/k=3\/k=4\/k=5:=by omega
 have d:=l.mono (show n<=1048576 by omega);have f:=hw.mono (show n<=1048576 by omega);obtain rfl|rfl|rfl|rfl|rfl:=this
 .exact yaj v w d f
 .exact ycc v w i j
 .exact ybr v w d f i j
 .exact Wk v w
 .exact XM v w n l hw (by omega) h (i.2.2.2.2.2.2.2.2 rfl) (j.2.2.2.2.2.2.2.2 rfl)
def yfd(r:aC)(v w:GW)(n:Nat)(k:v.sm n)(hw:w.sm n)(hn:n<=400000)(i:1<=n)(h:v.aJ r)(j:w.aJ r)(f:r.kind≠6):zS 74 [enc r,enc v,enc w] (enc (zaw r.kind v w)):=by have d:=h.1;have hk:=aC.cJ d f;have p:v.tk r=v:=aX h;have t:w.tk r=w:=aX j;have l:=B3 r v (k.mono (by omega));have m:=B3 r w (hw.mono (by omega));rw[p]at l;rw[t]at m;refine Sp.vz c.bc λ_=>?_;simp[g.bc];refine bA (A8 r) rfl ?_;simp[d];refine aW l ?_;simp;refine aW m ?_;simp[f];obtain⟨A,B,C,D,u,x,o⟩:=ym r.kind ⟨hk.1,hk.2.1⟩;refine bA (CE r.kind ⟨hk.1,hk.2.1⟩) rfl ?_;simp[o];refine bA (OF r.kind ⟨hk.1,hk.2.1⟩ v w n k hw hn i (h.2.1 f) (j.2.1 f)) (kX (by simp) (kX (by simp) (yn _ _))) ?_;simp
def XX(k:Int)(hk:1<=k/\k<=5)(v w:GW)(i n:Nat)(j:i<v.parts.length)(l:i<w.parts.length)(D:i<=3)(h:v.parts[i].sm n)(hw:w.parts[i].sm n)(hn:n<=400000)(d:1<=n)(m:v.parts[i].si k)(o:w.parts[i].si k) :
  zS 125 [xI k,.int .i64 i,.ref (enc v),.ref (enc w)] (enc (zaw k v.parts[i] w.parts[i])):=by
 obtain⟨x,A,B,C,p,u,f⟩:=ym k hk;rw[f];refine Sp.fD c.jx (by simp) ((aA.dV (t:=2) (v:=enc v) (n:=8) (by simp) (by simp)).trans (aA.dV (t:=3) (v:=enc w) (n:=8) (by simp) (by simp))) ?_;simp[g.jx];refine bK j ?_;refine bK l ?_;refine bA (OF k hk v.parts[i] w.parts[i] n h hw hn d m o) (kX (by simp) (kX (by simp) (yn _ _))) ?_;simp
theorem A7(st:St)(s g d off:Nat):bH st 5 (.ptr s g d off)=if d=0/\off=0 then match st.obj s g with
  | some o=>match o.es with
   | [e]=>(bH st 4 e).map .ref
   | _=>none
  | none=>none
  else none:=rfl
theorem AJ(st:St)(v:PV):bH st 4 (.p v)=some v:=rfl
def PL(r:aC)(v w:GW)(n:Nat)(o:v.sm n)(hw:w.sm n)(hn:n<=400000)(j:1<=n)(f:v.aJ r)(l:w.aJ r):zS 74 [enc r,enc v,enc w] (enc (r.plus v w)):=by
 have k:=f.1;by_cases d:r.kind=6;rotate_left
 .have x:r.plus v w=zaw r.kind v w:=by simp[aC.plus,d]
  rw[x];exact yfd r v w n o hw hn j f l d
 have m:=aC.bQ k d;have D:v.tk r=v:=aX f;have F:w.tk r=w:=aX l;have p:=B3 r v (o.mono (by omega));have t:=B3 r w (hw.mono (by omega));rw[D]at p;rw[F]at t;have B:=(f.2.2 d).1;have C:=(l.2.2 d).1;have A:(nP r.parts v.parts w.parts).length=r.parts.length:=uG B C;refine Sp.vz c.bc λ_=>?_;simp[g.bc];refine bA (A8 r) rfl ?_;simp[k];refine aW p ?_;simp;refine aW t ?_;simp[d];refine bA (HC r m.2.2 m.2.1 125 [.ref (enc v),.ref (enc w)] (nP r.parts v.parts w.parts) A λi h u=>?_) ?_ ?_
 .rw[wH h (by omega) (by omega) u];exact XX r.parts[i] (m.2.2 _ (bU h)) v w i n (by omega) (by omega) (by omega) (o.parts _ (bU _)) (hw.parts _ (bU _)) hn j ((f.2.2 d).2.2 i h (by omega)) ((l.2.2 d).2.2 i h (by omega))
 .simp[A7,AJ,d]
 simp[aC.plus,d]
def Io(r:aC)(v w:GW)(n:Nat)(i:v.sm n)(hw:w.sm n)(hn:n<=2000)(d:1<=n)(f:v.aJ r)(h:w.aJ r):zS 74 [enc r,enc v,enc w] (enc (r.plus v w)):=PL r v w n i hw (by omega) d f h
def Ey(r:aC)(w:GW)(hw:w.sm 1048576):zS 78 [enc r,enc w] (.bool (decide (w=r.zero))):=by refine Sp.vz c.c9 λ_=>?_;simp[g.c9];refine bA (wG r) rfl ?_;simp;refine aW (CV w hw r.zero) ?_;simp
def OR(r:aC)(d:r.parts.length<=2147483648):zS 178 [enc r] (enc r):=by refine Sp.vz c.o8 λ_=>?_;simp[g.o8];refine aW (Qp r.parts d) ?_;simp
def VM(r:aC)(w:GW)(hw:w.sm 1048576):zS 184 [enc w,.ref (enc r)] (.bool (!decide (w.aJ r))):=by refine Sp.fD c.ko (by simp) (aA.dV (t:=1) (v:=enc r) (n:=2) (by simp) (by simp)) ?_;simp[g.ko];refine aW (F9 r w hw) ?_;simp
def XI(x y:aV):zS 256 [enc x,enc y] (.int .i64 (zI [eP x.f y.f,eP x.l y.l,eP x.t y.t])):=by refine Sp.vz c.dh λ_=>?_;simp[g.dh];refine bA (vZ x.f y.f) rfl ?_;simp;refine bA (vZ x.l y.l) rfl ?_;simp;refine bA (vZ x.t y.t) rfl ?_;simp;refine aW (K9 [eP x.f y.f,eP x.l y.l,eP x.t y.t] (by simp)) ?_;simp
def Rm(r:aC)(l:List GW)(f:∀ w∈l,w.sm 1048576)(d:l.length<=2147483648):zS 147 [enc r,.sl (ens l)] (.bool (!l.any λw=>!decide (w.aJ r))):=by refine Sp.vz c.ot λ_=>?_;simp[g.ot];refine bA (RK l 184 [.ref (enc r)] (λw=>!decide (w.aJ r)) (by omega) λw hw=>VM r w (f w hw)) (by simp[A7,AJ]) ?_;simp
theorem Ml(st:St)(s g d off:Nat):bH st bF (.ptr s g d off)=if d=0/\off=0 then match st.obj s g with
  | some o=>match o.es with
   | [e]=>(bH st 5 e).map .ref
   | _=>none
  | none=>none
  else none:=rfl
theorem SZ(st:St)(v:PV):bH st 5 (.p v)=some v:=rfl
def Rj(x:Int)(a:aU):zS 183 [.int .i64 x,.ref (enc a)] (.bool (decide (0<=x/\x<a.st))):=by refine Sp.fD c.pb (by simp) (aA.dV (t:=1) (v:=enc a) (n:=7) (by simp) (by simp)) ?_;simp[g.pb];exact⟨λh _=>h,λh d=>by omega⟩
def oa(x:aV)(a:aU):Prop:=0<=x.f/\x.f<a.st/\0<=x.t/\x.t<a.st/\0<=x.l/\x.l<=a.sy/\x.w.aJ a.ring
noncomputable instance (x:aV) (a:aU):Decidable (oa x a):=Classical.propDecidable _
def Yv(x:aV)(a:aU)(hw:x.w.sm 1048576):zS 146 [enc x,enc a] (.bool (decide (oa x a))):=by
 refine Sp.vz c.oq λ_=>?_;have o:decide (oa x a)=(decide (0<=x.f)&&(decide (x.f<a.st)&&(decide (0<=x.t)&&(decide (x.t<a.st)&&(decide (0<=x.l)&&(decide (x.l<=a.sy)&&decide (x.w.aJ a.ring))))))):=by rw[Bool.eq_iff_iff,decide_eq_true_iff];simp only[decide_eq_true_eq,jO];exact Iff.rfl
 rw[o];simp[g.oq];refine bA (Rj x.f a) (by simp[Ml,SZ]) ?_;simp;refine⟨λd m=>?_,λd=>?_⟩
 .refine bA (Rj x.t a) (by simp[Ml,SZ]) ?_;simp;refine⟨λi n=>⟨λj=>⟨λk=>?_,λk=>?_⟩,λj=>?_⟩,λi=>?_⟩
  .refine aW (F9 a.ring x.w hw) ?_;simp[d,m,i,n,j,k]
  .intros;omega
  .intros;omega
  .intro _ _ h;have:=i h;intros;omega
 .intro h;have:=d h;intros;omega
def Vj(x:aV)(a:aU)(hw:x.w.sm 1048576):zS 145 [enc x,.ref (enc a)] (.bool (!decide (oa x a))):=by refine Sp.fD c.j8 (by simp) (aA.dV (t:=1) (v:=enc a) (n:=7) (by simp) (by simp)) ?_;simp[g.j8];refine aW (Yv x a hw) ?_;simp
noncomputable def aU.vb(a:aU):Bool:=a.ring.ok&&(decide (1<=a.sy)&&(decide (a.sy<=32)&&(decide (0<=a.st)&&(decide (a.st<=64)&&(decide ((a.aM.length:Int)=a.st)&&(decide ((a.fin.length:Int)=a.st)&&(decide (a.aD.length<=2048)&&((!a.aD.any λx=>!decide (oa x a))&&((!a.aM.any λw=>!decide (w.aJ a.ring))&&(!a.fin.any λw=>!decide (w.aJ a.ring)))))))))))
structure aU.sm (a:aU) (n:Nat):Prop where
 aM:∀ w∈a.aM,w.sm n
 fin:∀ w∈a.fin,w.sm n
 aD:∀ x∈a.aD,x.w.sm n
def Mn(a:aU)(h:a.sm 1048576):zS 102 [enc a] (.bool a.vb):=by
 refine Sp.vz c.jq λ_=>?_;simp[g.jq];refine bA (A8 a.ring) rfl ?_;cases hr:a.ring.ok
 .simp[aU.vb,hr]
 simp;refine⟨λi=>by simp[aU.vb,show ¬ 1<=a.sy by omega],λi=>⟨λj=>by simp[aU.vb,show ¬ a.sy<=32 by omega],λj=>⟨λk=>by simp[aU.vb,show ¬ 0<=a.st by omega],λk=>⟨λl=>by simp[aU.vb,show ¬ a.st<=64 by omega],λl=>⟨λd=>⟨λf=>⟨λo=>by simp[aU.vb,show ¬ a.aD.length<=2048 by omega],λo=>?_⟩,λf=>by simp[aU.vb,f]⟩,λd=>by simp[aU.vb,d]⟩⟩⟩⟩⟩;refine bA (Ve a.aD 145 [.ref (enc a)] (λx=>!decide (oa x a)) (by omega) λx t=>Vj x a (h.aD x t)) (by simp[A7,AJ]) ?_;simp;cases m:a.aD.any λx=>!decide (oa x a);rotate_left
 .simp;simp[aU.vb,m]
 simp;refine aW (Rm a.ring a.aM h.aM (by omega)) ?_;cases n:a.aM.any λw=>!decide (w.aJ a.ring);rotate_left
 .simp;simp[aU.vb,n]
 simp;refine aW (Rm a.ring a.fin h.fin (by omega)) ?_;have p:a.aD.length<=2048:=by omega
 simp;simp only[aU.vb,hr,i,j,k,l,d,f,p,m,n,decide_true,GN,Bool.not_false];cases a.fin.any λw=>!decide (w.aJ a.ring)<;>rfl
def ycg(r:aC)(l:List GW)(n:Nat)(hn:n<=2000)(f:1<=n)(B:l.length<=1000000)(h:∀ w∈l,w.sm n/\w.aJ r)(x:r.zero.sm n)(i:r.zero.aJ r) :
  zS 63 [enc r,.sl (ens l)] (.sl (ens (l.map λw=>r.plus w r.zero))):=by
 refine Sp.vz c.bg λ_=>?_;simp[g.bg]
 refine b6 (S:=λk:Nat=>aB [(2,.ptr 2 0 0 0),(5,.own 1 0 0 k),(8,.p (.sl (ens l))),(9,.p (.int .i64 l.length)),(10,.p (.int .i64 k))] [(2,⟨2,[.p (enc r)]⟩),(1,⟨8,aK ((l.take k).map λw=>r.plus w r.zero)⟩)]) (I:=λk=>k<=l.length) (m:=λk=>l.length - k) 0
  (aA.nl 5 77 8 rfl (aA.to [2,5,8,9,10] [((2,0),2),((77,0),1)] (by simp))) (by omega) ?_
 rintro k A R d hr u;have j:=aZ k;simp[g.tp,aB];refine⟨λhk=>?_,λhk=>u _ _ ?_⟩
 .refine bK hk ?_
  try simp
  refine bA (wG r) rfl ?_
  try simp
  have hw:=h _ (List.getElem_mem hk);refine aW (Io r l[k] r.zero n hw.1 x hn f hw.2 i) ?_;simp[j];have t:l.take (k+1)=l.take k++[l[k]]:=List.take_succ_eq_append_getElem hk;refine⟨⟨by omega,by omega⟩,d (k+1) _ (aA.to [2,5,8,9,10] [((2,0),2),((21,0),1)] ?_) (by omega) (by omega)⟩;have o:(l.map λw=>r.plus w r.zero).take (k+1)=(l.map λw=>r.plus w r.zero).take k++[r.plus l[k] r.zero]:=by rw[List.take_succ_eq_append_getElem (by simpa using hk)];simp
  simp[aB];rw[o];simp
 .have:k=l.length:=by omega
  subst this;simp;rw[eZ (by simp),eZ (by simp)]
theorem IL:∀ (l m:List Int),l.length=m.length->zI (List.zipWith eP l m)=eW l m
 | [],[],_=>rfl
 | [],y::j,h=>by simp at h
 | x::i,[],h=>by simp at h
 | x::i,y::j,h=>by
  have k:=IL i j (by simpa using h);simp only[List.zipWith,zI,eW,k,eP];by_cases d:x<y
  .simp[d]
  .by_cases f:y<x
   .simp[d,f]
   .simp[d,f]
def IT(x y:aV):zS 256 [enc x,enc y] (.int .i64 (eW x.key y.key)):=by have h:=XI x y;rw[show[eP x.f y.f,eP x.l y.l,eP x.t y.t]=List.zipWith eP x.key y.key from rfl,IL x.key y.key rfl]at h;exact h
def Pa{k:Int}(hk:1<=k/\k<=5):(mP k).si k:=by
 have:k=1\/k=2\/k=3\/k=4\/k=5:=by omega
 have d:=L8;obtain rfl|rfl|rfl|rfl|rfl:=this
 .rw[xZ];exact⟨rfl,rfl,rfl,rfl,rfl,d⟩
 .rw[pY];exact⟨rfl,rfl,rfl,rfl,Int.le_refl 0,by simp[mP,GW.cost],λ_=>rfl⟩
 .rw[wP];exact⟨rfl,rfl,rfl,rfl,rfl,d,by show 0<=dP.v;rw[tJ];decide,by show dP.v<=1;rw[tJ];decide⟩
 .rw[Bf];exact⟨rfl,rfl,rfl,rfl,rfl⟩
 .rw[Aq];exact⟨rfl,rfl,rfl,rfl,rfl,D1⟩
def yv{k:Int}(hk:1<=k/\k<=5){v w:GW}(d:v.si k)(hw:w.si k):(zaw k v w).si k:=by
 have:k=1\/k=2\/k=3\/k=4\/k=5:=by omega
 obtain rfl|rfl|rfl|rfl|rfl:=this
 .rw[xZ];exact⟨rfl,rfl,rfl,rfl,rfl,vD _⟩
 .unfold zaw;simp only[bD (show ¬ (2:Int)=1 by decide),aX];split<;>assumption
 .unfold zaw;simp only[bD (show ¬ (3:Int)=1 by decide),bD (show ¬ (3:Int)=2 by decide),aX];split<;>assumption
 .rw[Bf];exact⟨rfl,rfl,rfl,rfl,rfl⟩
 .rw[Aq];exact⟨rfl,rfl,rfl,rfl,rfl,xU _ (jJ d)⟩
theorem QE{k:Int}(hk:1<=k/\k<=5){v:GW}(o:v.si k):zaw k v (mP k)=v:=by
 have:k=1\/k=2\/k=3\/k=4\/k=5:=by omega
 cases v with
 | mk q c i s p u =>
 obtain rfl|rfl|rfl|rfl|rfl:=this
 .obtain⟨d,f,h,j,l,m⟩:=xZ.1 o;simp only[GW.c8,GW.j2,GW.kE,GW.set_mk,GW.gZ,GW.qM]at d f h j l m;subst d f h j l;simp[zaw,mP,GW.qM,tJ,qY,sx m]
 .obtain⟨d,f,h,j,l,m,n⟩:=pY.1 o;simp only[GW.c8,GW.j2,GW.kE,GW.set_mk,GW.gZ,GW.qM]at d f h j l m n;subst d f h j;cases i
  .simp[zaw,mP,GW.j2]
  .have:=n rfl;subst this;simp[zaw,mP,GW.j2]
 .obtain⟨d,f,h,j,l,m,n,t⟩:=wP.1 o;simp only[GW.c8,GW.j2,GW.kE,GW.set_mk,GW.gZ,GW.qM]at d f h j l m n;have:¬ q.v<0:=Df.2 n;simp[zaw,mP,GW.qM,tJ,this]
 .obtain⟨d,f,h,j,l⟩:=Bf.1 o;simp only[GW.c8,GW.j2,GW.kE,GW.gZ,GW.qM]at d f h j l;subst d f h j l;simp[zaw,mP,GW.set_mk]
 .obtain⟨d,f,h,j,l,m⟩:=Aq.1 o;simp only[GW.c8,GW.j2,GW.kE,GW.set_mk,GW.gZ,GW.qM]at d f h j l m;subst d f h j l;simp[zaw,mP,GW.gZ,eN]
def yC{r:aC}(h:r.ok=true):r.zero.aJ r:=by
 by_cases d:r.kind=6
 .refine⟨h,λf=>absurd d f,λ_=>?_⟩;have k:=aC.bQ h d;simp[aC.zero,h,d,GW.c8];exact λi j _=>Pa (k.2.2 _ (bU j))
 .have hk:=aC.cJ h d;refine⟨h,λ_=>?_,λf=>absurd f d⟩;have:r.zero=mP r.kind:=by simp[aC.zero,h,mP,hk.2.2]
  rw[this];exact Pa ⟨hk.1,hk.2.1⟩
def WR(k:Int)(n:Nat):(mP k).sm n:=.one k (yf n) (FI n) (by simp)
def S3{r:aC}{n:Nat}(h:r.ok=true)(hn:3<=n):r.zero.sm n:=by
 have:r.zero=.mk dP 0 (decide (r.kind=2)) 0 [] (r.parts.map mP):=by simp[aC.zero,h]
 rw[this];have f:r.parts.length<=3:=by
  by_cases d:r.kind=6
  .exact(aC.bQ h d).2.1
  .simp[(aC.cJ h d).2.2]
 refine .mk (yf n) (FI n) (by simp) (by simp;omega) λw hw=>?_;obtain⟨k,_,rfl⟩:=cA.1 hw;exact WR k n
def BU{r:aC}{v w:GW}(f:v.aJ r)(hw:w.aJ r):(r.plus v w).aJ r:=by
 by_cases d:r.kind=6
 .have k:=aC.bQ f.1 d;have l:=(f.2.2 d).1;have m:=(hw.2.2 d).1;refine⟨f.1,λh=>absurd d h,λ_=>?_⟩;have e:r.plus v w=.mk dP 0 false 0 [] (nP r.parts v.parts w.parts):=by simp[aC.plus,d]
  rw[e];refine⟨uG l m,rfl,λi h j=>?_⟩;simp only[GW.c8]at j ⊢;rw[wH h (by omega) (by omega) j];exact yv (k.2.2 _ (bU h)) ((f.2.2 d).2.2 i h (by omega)) ((hw.2.2 d).2.2 i h (by omega))
 .have hk:=aC.cJ f.1 d;have e:r.plus v w=zaw r.kind v w:=by simp[aC.plus,d]
  rw[e];exact⟨f.1,λ_=>yv ⟨hk.1,hk.2.1⟩ (f.2.1 d) (hw.2.1 d),λh=>absurd h d⟩
def z6{r:aC}{v:GW}(f:v.aJ r):r.plus v r.zero=v:=by
 by_cases d:r.kind=6
 .have o:=aC.bQ f.1 d;obtain⟨l,m,p⟩:=f.2.2 d;have e:r.plus v r.zero=.mk dP 0 false 0 [] (nP r.parts v.parts r.zero.parts):=by simp[aC.plus,d]
  have j:r.zero.parts=r.parts.map mP:=by simp[aC.zero,f.1,GW.c8]
  rw[e,j,m];simp only[GW.c8]
  congr 1
  refine Bb (by rw[uG l (by simp),l]) λi n k=>?_;have h:i<r.parts.length:=by rw[<- l];exact k
  rw[wH h k (by simpa using h) n];simp only[List.getElem_map];exact QE (o.2.2 _ (List.getElem_mem h)) (p i h k)
 .have hk:=aC.cJ f.1 d;have e:r.plus v r.zero=zaw r.kind v r.zero:=by simp[aC.plus,d]
  have j:r.zero=mP r.kind:=by simp[aC.zero,f.1,mP,hk.2.2]
  rw[e,j];exact QE ⟨hk.1,hk.2.1⟩ (f.2.1 d)
def yfb{r:aC}{v w:GW}{m n:Nat}(j:v.sm m)(o:w.sm n)(f:v.aJ r)(hw:w.aJ r)(k:1<=m)(hn:1<=n):(r.plus v w).sm (m+n+1):=by
 by_cases d:r.kind=6
 .have C:=aC.bQ f.1 d;have l:=(f.2.2 d).1;have B:=(hw.2.2 d).1;have e:r.plus v w=.mk dP 0 false 0 [] (nP r.parts v.parts w.parts):=by simp[aC.plus,d]
  have u:=uG (ks:=r.parts) (vs:=v.parts) (ws:=w.parts) l B;rw[e];refine .bM (by rw[u,<- l];have:=j.uU;omega) λx A=>?_;obtain⟨i,t,rfl⟩:=qW.1 A;have h:i<r.parts.length:=by omega
  rw[wH h (by omega) (by omega) t];exact OH (j.parts _ (bU _)) (o.parts _ (bU _)) (CN f d h (by omega)) (CN hw d h (by omega)) k hn
 .have hk:=aC.cJ f.1 d;have e:r.plus v w=zaw r.kind v w:=by simp[aC.plus,d]
  have p:r=⟨r.kind,[]⟩:=by rw[<- hk.2.2]
  rw[e];rw[p]at f hw;exact OH j o f hw k hn
def Fv{r:aC}{w:GW}(h:w.aJ r):w.tk r=w:=aX h
section
variable {α : Type} {key : α -> List Int}
def uD(key : α -> List Int)(l:List α)(i:Nat):List α := bW key (l.take i)++l.drop i
theorem Tn(s:List α)(x : α):(eJ key s x).length=s.length+1:=by
 induction s with
 | nil=>rfl
 | cons z r d=>simp only[eJ];split<;>simp[d]
theorem LJ{s:List α}{x y : α}:y∈eJ key s x ↔ y=x\/y∈s:=by
 induction s with
 | nil=>simp[eJ]
 | cons z r d =>
  simp only[eJ];split
  .simp
  .simp only[cI,d];exact⟨λh=>by obtain h|h|h:=h<;>simp[h],λh=>by obtain h|h|h:=h<;>simp[h]⟩
def LR(l:List α)(x : α):bW key (l++[x])=eJ key (bW key l) x:=by simp[bW,z8]
def gB(l:List α):jQ key (bW key l)/\(bW key l).length=l.length/\∀ y,y∈bW key l ↔ y∈l:=by
 have:∀ (n:Nat) (l:List α),l.length=n->jQ key (bW key l)/\(bW key l).length=l.length/\∀ y,y∈bW key l ↔ y∈l:=by
  intro n
  induction n with
  | zero=>intro l d;have:=q9 d;subst this;simp[bW,jQ]
  | succ n m =>
   intro l d;obtain⟨f,y,rfl⟩:∃ f y,l=f++[y]:=⟨l.dropLast,l.getLast (by intro h;simp[h]at d),(List.dropLast_concat_getLast _).symm⟩;obtain⟨i,j,k⟩:=m f (by simpa using d);rw[LR];refine⟨Ri i,by rw[Tn,j];simp,λz=>?_⟩;rw[LJ,k];simp[or_comm]
 exact this _ l rfl
def YH(l:List α)(i:Nat):(uD key l i).length=l.length:=by unfold uD;rw[gQ,(gB _).2.1,<- List.length_append,oK]
def QL(l:List α):uD key l 1=l:=by cases l<;>simp[uD,bW,eJ]
def PW{l:List α}{i:Nat}(h:l.length<=i):uD key l i=bW key l:=by unfold uD;rw[eZ h,xY h,kY]
def PX{l:List α}{i:Nat}(h:i<l.length):uD key l i=bW key (l.take i)++l[i]::l.drop (i+1):=by unfold uD;rw[vJ h]
def I0{l:List α}{i:Nat}(h:i<l.length):uD key l (i+1)=eJ key (bW key (l.take i)) l[i]++l.drop (i+1):=by unfold uD;rw[ed h,LR]
theorem FK{x : α}{B:List α}(d:∀ b∈B,key x<key b):∀ {A:List α},(∀ a∈A,¬ key x<key a)->eJ key (A++B) x=A++x::B
 | [],_=>by
  cases B with
  | nil=>rfl
  | cons b B=>simp[eJ,d b (by simp)]
 | a::A,h=>by have:=FK d (A:=A) λy f=>h y (by simp[f]);simp[eJ,h a (by simp),this]
def XZ(A B:List α)(z x : α)(d:List α):((A++[z]++x::(B++d)).set (A.length+1) z).set A.length x=A++x::((z::B)++d):=by simp[sI]
end
section
variable {α : Type} {key : α -> List Int} {up : α -> α -> α} {nw : α -> α}
theorem SD:∀ {d:List α} {x y : α},x∈gS key up nw d y->x∈d\/x=nw y\/∃ z∈d,x=up z y
 | [],x,y,h=>by simp[gS]at h;exact .inr (.inl h)
 | [z],x,y,h=>by
  simp only[gS]at h;split at h
  .simp at h;exact .inr (.inr ⟨z,by simp,h⟩)
  .simp at h;obtain h|h:=h
   .exact .inl (by simp[h])
   .exact .inr (.inl h)
 | z::w::r,x,y,h=>by
  rw[D0 z y (by simp)]at h;obtain h|h:=cI.1 h
  .exact .inl (by simp[h])
  .obtain h|h|⟨u,h,e⟩:=SD h
   .exact .inl (tX _ h)
   .exact .inr (.inl h)
   .exact .inr (.inr ⟨u,tX _ h,e⟩)
theorem Tj:∀ {d:List α} {x y : α},x∈eX key up nw d y->x∈d\/x=nw y\/∃ z∈d,x=up z y
 | [],x,y,h=>by simp[eX]at h;exact .inr (.inl h)
 | z::r,x,y,h=>by
  simp only[eX]at h;split at h
  .obtain h|h:=cI.1 h
   .exact .inl (by simp[h])
   .obtain h|h|⟨u,h,e⟩:=Tj h
    .exact .inl (tX _ h)
    .exact .inr (.inl h)
    .exact .inr (.inr ⟨u,tX _ h,e⟩)
  .split at h
   .obtain h|h:=cI.1 h
    .exact .inr (.inr ⟨z,by simp,h⟩)
    .exact .inl (tX _ h)
   .obtain h|h:=cI.1 h
    .exact .inr (.inl h)
    .exact .inl h
theorem MC(d:List α)(y : α):(gS key up nw d y).length<=d.length+1:=by
 match d with
 | []=>simp[gS]
 | [z]=>simp only[gS];split<;>simp
 | z::w::r =>
  rw[D0 z y (by simp)];have:=MC (w::r) y;simp only[qH]at this ⊢;omega
theorem Rh:∀ (d:List α) (y : α),(eX key up nw d y).length<=d.length+1
 | [],y=>by simp[eX]
 | z::r,y=>by
  simp only[eX];have:=Rh r y
  (repeat' split)<;>simp only[qH]<;>omega
def EI{l:List α}{k:Nat}(h:k<l.length):eU key up nw (l.take (k+1))=gS key up nw (eU key up nw (l.take k)) l[k]:=by rw[ed h,Lt]
theorem Gt{l:List α}{k:Nat}(h:k<l.length):nZ key up nw (l.take (k+1))=eX key up nw (nZ key up nw (l.take k)) l[k]:=by rw[ed h];unfold nZ;rw[z8];rfl
theorem HL{Q:Nat -> α -> Prop}(f:∀ k x,Q k x->Q (k+1) x){l:List α}(hn:∀ x∈l,Q 0 (nw x))(hu:∀ k z,∀ x∈l,Q k z->Q (k+1) (up z x))(d:∀ k x,Q 0 x->Q k x) :
  ∀ k,k<=l.length->(eU key up nw (l.take k)).length<=k/\∀ x∈eU key up nw (l.take k),Q k x
 | 0,_=>by simp[eU]
 | k+1,h=>by
  obtain⟨m,i⟩:=HL f hn hu d k (by omega);have hk:k<l.length:=by omega
  rw[EI hk];refine⟨dM (MC _ _) (by omega),λx j=>?_⟩;obtain h|h|⟨z,h,e⟩:=SD j
  .exact f _ _ (i x h)
  .rw[h];exact d _ _ (hn _ (bU hk))
  .rw[e];exact hu _ _ _ (bU hk) (i z h)
end
end Go.Ab
namespace Go.Ab
open Enc (enc)
attribute [local simp] iJ bP.aY
section
variable {α : Type} [Enc α]
def VS(ap:Enc.sz α = 11)(au:∀ x : α,(enc x).cells.all PV.one=true)(key : α -> List Int)(cf:FuncId)(l:List α)(hl:l.length<=1000000)
  (hc:∀ x∈l,∀ y∈l,∃ n:Int,Sp P cf [enc x,enc y] (.pure (.int .i64 n))/\(n<0 ↔ key x<key y)) :
  gO P 352 [.sl (ens l),.int .i64 0,.int .i64 l.length,.fn cf []] 0 11 (ens (bW key l)) (.pure (.bM [])):=by
 have Q:∀ x : α,(enc x).sz=11:=λx=>by rw[Enc.ok,ap]
 have X:IntKind.i64.wrap 1=1:=cT;refine gO.cE c.ja (by simp) rfl (by simp[(gB l).2.1]) ?_;simp[g.ja]
 refine b6 (S:=λi:Nat=>aB [(0,.own bC 0 0 l.length),(1,.p (.int .i64 0)),(2,.p (.int .i64 l.length)),(3,.p (.fn cf [])),(8,.p (.int .i64 i))] [(bC,⟨11,aK (uD key l i)⟩)]) (I:=λi=>1<=i) (m:=λi=>l.length+1 - i) 1
  (aA.to [0,1,2,3,8] [((bC,0),bC)] (by simp[QL,X])) (by omega) ?_
 rintro i h1 R hn hr hx;simp[g.xr,aB];refine⟨λC=>?_,λC=>hx _ _ ?_⟩;rotate_left
 .simp[PW C]
 have e1:=aZ i;have t:=gB (key:=key) (l.take i);have ao:(bW key (l.take i)).length=i:=by rw[t.2.1];simp;omega
 have u:∀ (L:List α) (v:AV),L=uD key l (i+1)->v=.p (.int .i64 ((i+1:Nat):Int))->R .normal ⟨[(0,.own 999998 0 0 l.length),(1,.p (.int .i64 0)),(2,.p (.int .i64 l.length)),(3,.p (.fn cf [])),(8,v)],[(999998,[some ⟨11,aK L⟩]),(999999,[none])]⟩:=by rintro L v rfl rfl;exact hn (i+1) _ (aA.to [0,1,2,3,8] [((bC,0),bC)] (by simp)) (by omega) (by omega)
 refine b6 (S:=λx:List α × Nat=>aB [(0,.own bC 0 0 l.length),(1,.p (.int .i64 0)),(2,.p (.int .i64 l.length)),(3,.p (.fn cf [])),(8,.p (.int .i64 i)),(9,.p (.int .i64 x.2))] [(bC,⟨11,aK x.1⟩)])
  (I:=λx=>∃ A B,x.1=A++l[i]::(B++l.drop (i+1))/\x.2=A.length/\A++B=bW key (l.take i)/\∀ b∈B,key l[i]<key b) (m:=λx=>x.2) (uD key l i,i)
  (aA.to [0,1,2,3,8,9] [((bC,0),bC)] (by simp)) ⟨bW key (l.take i),[],by rw[PX C];simp,ao.symm,by simp,by simp⟩ ?_
 rintro⟨L,j⟩ ⟨A,B,k,D,f,Y⟩ R2 ag av U;simp only at k D;have w:L.length=l.length:=by have:=congrArg List.length f;rw[k];simp at this ⊢;rw[t.2.1]at this;simp at this;omega
 have Z:∀ y∈L,y∈l:=by
  intro y J;rw[k]at J;simp only[dN,cI]at J;have hm:∀ y,y∈A++B->y∈l:=λy J=>by rw[f,t.2.2]at J;exact iC J
  obtain h|h|h|h:=J
  .exact hm y (by simp[h])
  .rw[h];exact bU C
  .exact hm y (by simp[h])
  .exact kD h
 have af:j<l.length:=by rw[<- w,k,D];simp
 obtain rfl|⟨d,z,rfl⟩:=B' A
 ·
  simp at D;subst D;simp[g.uk,aB];refine U _ _ ?_;simp[e1];refine u L _ ?_ rfl;rw[I0 C,<- f,FK Y (by simp),k];simp
 .simp only[xV]at D k f;simp at D;subst D;have F:L[d.length+1]?=some l[i]:=by rw[k];simp
  have G:L[d.length]?=some z:=by rw[k];simp
  have aq:z∈l:=Z z (by rw[k];simp);obtain⟨n,al,M⟩:=hc l[i] (bU C) z aq;have K:d.length+1<l.length:=af;have W:IntKind.i64.wrap (d.length:Int)=(d.length:Nat):=cT;have e4:((d.length:Int)+1).toNat=d.length+1:=by omega
  have ad:(0:Int)<(d.length:Int)+1:=by omega
  simp[g.uk,aB,W,w,K,show d.length<l.length by omega,e4,ad];refine⟨by omega,eD F ?_⟩;refine eD G ?_;refine bA al rfl ?_;by_cases o:n<0
  .simp[o,W,e4,w,K,show d.length<l.length by omega];refine eD G ?_;refine⟨by omega,eD F ?_⟩;refine⟨by omega,eD F ?_⟩;refine⟨Q z,?_⟩;rw[lM];refine eD (x:=.p (enc z)) (by simp[yhd,G]) ?_;simp only[Fw];refine⟨Q _,?_⟩;simp[W];refine ag ((L.set (d.length+1) z).set d.length l[i],d.length) _ (aA.to [0,1,2,3,8,9] [((bC,0),bC)] (by simp)) ⟨d,z::B,?_,rfl,?_,?_⟩ (by simp)
   .rw[k];exact XZ d B z l[i] _
   .rw[<- f];simp
   .intro b hb;obtain rfl|hb:=cI.1 hb
    .exact M.1 o
    .exact Y b hb
  .simp[o];refine U _ _ ?_;simp[e1];refine u L _ ?_ rfl;have N:¬ key l[i]<key z:=λh=>o (M.2 h);rw[I0 C,<- f,FK Y,k]
   .simp
   .intro a V;simp only[dN,iT]at V;obtain V|rfl:=V
    .intro hk;have O:=t.1;rw[<- f]at O;have:=(tY.1 (tY.1 O).1).2.2 a V z (by simp);exact N (Ep hk this)
    .exact N
end
section
variable {α : Type} [Enc α]
def V1(f:Enc.sz α = 11)(d:∀ x : α,(enc x).cells.all PV.one=true)(key : α -> List Int)(cf:FuncId)(l:List α)(p:l.length<=19)
  (i:∀ x∈l,∀ y∈l,∃ n:Int,Sp P cf [enc x,enc y] (.pure (.int .i64 n))/\(n<0 ↔ key x<key y)) :
  gO P 307 [.sl (ens l),.int .i64 l.length,.fn cf []] 0 11 (ens (bW key l)) (.pure (.bM [])):=by
 refine gO.cE c.ln (by simp) rfl (by simp[(gB l).2.1]) ?_;simp[g.ln];refine zK λR t hr m=>?_;simp[g.xj,show ¬ (20<=(l.length:Int)) by omega];refine m _ _ ?_;simp;refine qV (VS f d key cf l (by omega) i) (by simp) rfl rfl (by simp) (by simp) (by simp[(gB l).2.1]) rfl (jF _ _ f) (cells_one d _) (by simp) ?_;simp;refine zK λo j k h=>?_;simp[g.xk,show ¬ (20<(l.length:Int)) by omega];refine h _ _ ?_;simp
def VX(f:Enc.sz α = 11)(d:∀ x : α,(enc x).cells.all PV.one=true)(key : α -> List Int)(cf:FuncId)(l:List α)(i:l.length<=19)
  (h:∀ x∈l,∀ y∈l,∃ n:Int,Sp P cf [enc x,enc y] (.pure (.int .i64 n))/\(n<0 ↔ key x<key y)) :
  gO P 255 [.sl (ens l),.fn cf []] 0 11 (ens (bW key l)) (.pure (.bM [])):=by
 refine gO.cE c.iy (by simp) rfl (by simp[(gB l).2.1]) ?_;simp[g.iy];refine qV (V1 f d key cf l i h) (by simp) rfl rfl (by simp) (by simp) (by simp[(gB l).2.1]) rfl (jF _ _ f) (cells_one d _) (by simp) ?_;simp
end
def dT:GW:=.mk ⟨false,[],[]⟩ 0 false 0 [] []
theorem Rt(G:FuncId)(d:List PV)(p:aV->Bool)(l:List aV)(hl:l.length<=1000000)(hp:∀ x∈l,Sp P G (enc x::d) (.pure (.bool (p x)))) :
  gO P 257 [.sl (ens l),.fn G d] 0 11 (ens (l.filter (λx=>!p x)++List.replicate (l.length - (l.filter λx=>!p x).length) (⟨0,0,0,dT⟩:aV))) (.same (l.filter λx=>!p x).length):=by
 have af:(l.filter λx=>!p x).length<=l.length:=kB _ _;refine gO.cE c.pm (by simp) rfl (by simp;omega) ?_;simp[g.pm];refine aW (Rx l G d p (by omega) hp) ?_;cases A:l.findIdx? p with
 | none =>
  have N:=GQ.1 A;have hf:l.filter (λx=>!p x)=l:=GL.2 λx f=>by simp[N x f]
  have f:gN p l = -1:=by simp[gN,A]
  simp[f,hf]
 | some k =>
  obtain⟨hk,Y,w⟩:=GP.1 A;have f:gN p l=k:=by simp[gN,A]
  have X:¬ ((k:Int) = -1):=by omega
  have e1:=aZ k;simp[f,X,e1];have Z:(l.take k).filter (λx=>!p x)=l.take k:=List.filter_eq_self.2 λx f=>by rw[List.mem_take_iff_getElem]at f;obtain⟨i,A,rfl⟩:=f;have:=w i (by omega);simpa using this
  have C:(l.take (k+1)).filter (λx=>!p x)=l.take k:=by rw[ed hk,tW,Z];simp[Y]
  refine b6 (S:=λx:List aV × Nat × Nat=>aB [(0,.own bC 0 0 l.length),(1,.p (.fn G d)),(5,.p (.int .i64 x.2.1)),(6,.p (.int .i64 x.2.2))] [(bC,⟨11,aK x.1⟩)])
   (I:=λx=>x.1.length=l.length/\x.2.1<x.2.2/\x.2.2<=l.length/\x.1.take x.2.1=(l.take x.2.2).filter (λx=>!p x)/\x.1.drop x.2.2=l.drop x.2.2/\x.2.1<=l.length) (m:=λx=>l.length - x.2.2) (l,k,k+1)
   (aA.to [0,1,5,6] [((bC,0),bC)] (by simp)) ⟨rfl,by simp,by simp;omega,by rw[C],rfl,by simp;omega⟩ ?_
  rintro⟨L,i,j⟩ ⟨t,h2,h3,o,J,K⟩ R N hr ad;simp only at t h2 h3 o J K;simp[g.xd,aB];refine⟨λM=>?_,λM=>ad _ _ ?_⟩
  .have e2:=aZ j;have e3:=aZ i;have U:L[j]?=some l[j]:=by
    have:(L.drop j)[0]?=(l.drop j)[0]?:=by rw[J]
    simpa[M]using this
   refine⟨by omega,eD U ?_⟩
   try simp
   refine bA (hp l[j] (bU M)) (kX (by simp) (yn _ _)) ?_;have B:(l.take (j+1)).filter (λx=>!p x)=(l.take j).filter (λx=>!p x)++(if p l[j]then[]else[l[j]]):=by rw[ed M,tW];by_cases h:p l[j]<;>simp[h]
   obtain u|u:=iK (p l[j])
   .simp[u,e2];refine N (L,i,j+1) _ (aA.to [0,1,5,6] [((bC,0),bC)] (by simp)) ⟨t,by show i<j+1;omega,by show j+1<=l.length;omega,by show L.take i=_;rw[B,o];simp[u],?_,K⟩ (by show l.length - (j+1)<l.length - j;omega);show L.drop (j+1)=l.drop (j+1);rw[<- List.drop_drop,J,uQ]
   .simp[u];refine⟨by omega,?_⟩;refine eD (l:=L) (n:=i) (x:=L[i]'(by omega)) (by simp) ?_;simp[e2,e3];have F:(L.set i l[j]).take (i+1)=L.take i++[l[j]]:=by rw[ed (by simp;omega),Nr (dE i)];simp
    refine N (L.set i l[j],i+1,j+1) _ (aA.to [0,1,5,6] [((bC,0),bC)] (by simp)) ⟨by simp[t],by show i+1<j+1;omega,by show j+1<=l.length;omega,by show(L.set i l[j]).take (i+1)=_;rw[F,B,o];simp[u],?_,by show i+1<=l.length;omega⟩ (by show l.length - (j+1)<l.length - j;omega);show(L.set i l[j]).drop (j+1)=l.drop (j+1);rw[Jy (by omega),<- List.drop_drop,J,uQ]
  .have V:j=l.length:=by omega
   subst V;rw[kK]at o;have Q:i=(l.filter λx=>!p x).length:=by rw[<- o];simp;omega
   generalize (l.filter λx=>!p x)=D at *
   subst Q;have ht:(aK L).take D.length=aK D:=by rw[H5,o]
   have ag:min D.length l.length=D.length:=uN K;have W:D.length+(l.length - D.length)=l.length:=by omega
   simp[t,K,W,o];have O:L.drop l.length=[]:=by rw[<- t];simp
   rw[O,Kr,kY];rfl
theorem VL(G:FuncId)(d:List PV)(p:aE->Bool)(l:List aE)(hl:l.length<=1000000)(hp:∀ x∈l,Sp P G (enc x::d) (.pure (.bool (p x)))) :
  gO P 76 [.sl (ens l),.fn G d] 0 12 (ens (l.filter (λx=>!p x)++List.replicate (l.length - (l.filter λx=>!p x).length) (⟨0,0,0,0,dT⟩:aE))) (.same (l.filter λx=>!p x).length):=by
 have af:(l.filter λx=>!p x).length<=l.length:=kB _ _;refine gO.cE c.ne (by simp) rfl (by simp;omega) ?_;simp[g.ne];refine aW (VR l G d p (by omega) hp) ?_;cases A:l.findIdx? p with
 | none =>
  have N:=GQ.1 A;have hf:l.filter (λx=>!p x)=l:=GL.2 λx f=>by simp[N x f]
  have f:gN p l = -1:=by simp[gN,A]
  simp[f,hf]
 | some k =>
  obtain⟨hk,Y,w⟩:=GP.1 A;have f:gN p l=k:=by simp[gN,A]
  have X:¬ ((k:Int) = -1):=by omega
  have e1:=aZ k;simp[f,X,e1];have Z:(l.take k).filter (λx=>!p x)=l.take k:=List.filter_eq_self.2 λx f=>by rw[List.mem_take_iff_getElem]at f;obtain⟨i,A,rfl⟩:=f;have:=w i (by omega);simpa using this
  have C:(l.take (k+1)).filter (λx=>!p x)=l.take k:=by rw[ed hk,tW,Z];simp[Y]
  refine b6 (S:=λx:List aE × Nat × Nat=>aB [(0,.own bC 0 0 l.length),(1,.p (.fn G d)),(5,.p (.int .i64 x.2.1)),(6,.p (.int .i64 x.2.2))] [(bC,⟨12,aK x.1⟩)])
   (I:=λx=>x.1.length=l.length/\x.2.1<x.2.2/\x.2.2<=l.length/\x.1.take x.2.1=(l.take x.2.2).filter (λx=>!p x)/\x.1.drop x.2.2=l.drop x.2.2/\x.2.1<=l.length) (m:=λx=>l.length - x.2.2) (l,k,k+1)
   (aA.to [0,1,5,6] [((bC,0),bC)] (by simp)) ⟨rfl,by simp,by simp;omega,by rw[C],rfl,by simp;omega⟩ ?_
  rintro⟨L,i,j⟩ ⟨t,h2,h3,o,J,K⟩ R N hr ad;simp only at t h2 h3 o J K;simp[g.ve,aB];refine⟨λM=>?_,λM=>ad _ _ ?_⟩
  .have e2:=aZ j;have e3:=aZ i;have U:L[j]?=some l[j]:=by
    have:(L.drop j)[0]?=(l.drop j)[0]?:=by rw[J]
    simpa[M]using this
   refine⟨by omega,eD U ?_⟩
   try simp
   refine bA (hp l[j] (bU M)) (kX (by simp) (yn _ _)) ?_;have B:(l.take (j+1)).filter (λx=>!p x)=(l.take j).filter (λx=>!p x)++(if p l[j]then[]else[l[j]]):=by rw[ed M,tW];by_cases h:p l[j]<;>simp[h]
   obtain u|u:=iK (p l[j])
   .simp[u,e2];refine N (L,i,j+1) _ (aA.to [0,1,5,6] [((bC,0),bC)] (by simp)) ⟨t,by show i<j+1;omega,by show j+1<=l.length;omega,by show L.take i=_;rw[B,o];simp[u],?_,K⟩ (by show l.length - (j+1)<l.length - j;omega);show L.drop (j+1)=l.drop (j+1);rw[<- List.drop_drop,J,uQ]
   .simp[u];refine⟨by omega,?_⟩;refine eD (l:=L) (n:=i) (x:=L[i]'(by omega)) (by simp) ?_;simp[e2,e3];have F:(L.set i l[j]).take (i+1)=L.take i++[l[j]]:=by rw[ed (by simp;omega),Nr (dE i)];simp
    refine N (L.set i l[j],i+1,j+1) _ (aA.to [0,1,5,6] [((bC,0),bC)] (by simp)) ⟨by simp[t],by show i+1<j+1;omega,by show j+1<=l.length;omega,by show(L.set i l[j]).take (i+1)=_;rw[F,B,o];simp[u],?_,by show i+1<=l.length;omega⟩ (by show l.length - (j+1)<l.length - j;omega);show(L.set i l[j]).drop (j+1)=l.drop (j+1);rw[Jy (by omega),<- List.drop_drop,J,uQ]
  .have V:j=l.length:=by omega
   subst V;rw[kK]at o;have Q:i=(l.filter λx=>!p x).length:=by rw[<- o];simp;omega
   generalize (l.filter λx=>!p x)=D at *
   subst Q;have ht:(aK L).take D.length=aK D:=by rw[H5,o]
   have ag:min D.length l.length=D.length:=uN K;have W:D.length+(l.length - D.length)=l.length:=by omega
   simp[t,K,W,o];have O:L.drop l.length=[]:=by rw[<- t];simp
   rw[O,Kr,kY];rfl
end Go.Ab
namespace Go.Ab
open Enc (enc)
@[simp] theorem yh1{P:Program}{N:Nat}{Q:Exit->St->Prop}{α : Type}[Enc α](o:List α)(x:AV)(f:AV->eB)(d:Option Nat)(dd:List (List Nat))(ks:List Kt):oL P N Q (.el (aK o++[x]) o.length f) d dd ks=oL P N Q (f x) d dd ks:=by
 have:(aK o++[x])[o.length]?=some x:=by rw[qG (by simp)];simp
 simp only[oL,fV,this];exact propext ⟨λ⟨e,h,k⟩=>by cases h;exact k,λk=>⟨_,rfl,k⟩⟩
@[simp] theorem ykw{α : Type}[Enc α](o:List α)(x y:AV):(aK o++[x]).set o.length y=aK o++[y]:=by rw[C' _ _ (by simp)];simp
def It{α : Type}[Enc α](l:List α)(r:List α):((ens (l++r)).map AV.p).take l.length=aK l:=by simp[-gW,aK,ens]
def ED{st:St}{f:FuncId}{e:Nat}{vs:List AV}{args:List PV}{sz:Nat}{es:List PV}{K:bJ->AV->St->Prop}(hs:Sp P f args (.fresh sz es))(i:vs.mapM (bH st bF)=some args)
  (h:es.all (λv=>v.sz == sz)=true/\0<sz/\es.length<=eL) (d:vs.flatMap (aS st bF)=[])
  (k:K ⟨f,args,.fresh sz es,none⟩ (.own e (st.site e).length 0 es.length) (st.alloc e ⟨sz,es.map .p⟩)):vW P st e f vs K :=
 EF hs i h st (by rw[d];simp[aI]) k
def MH{st:St}{f:FuncId}{e:Nat}{vs:List AV}{args:List PV}{i sz:Nat}{d:List PV}{r:PV}{K:bJ->AV->St->Prop}(hs:gO P f args i sz d (.pure r))(B:vs.mapM (bH st bF)=some args)
  {s g h:Nat} {sl:Bool} (m:BH vs[i]?=some (s,g,h,sl)) {o:bI} (A:st.obj s g=some o) (w:i<vs.length) (x:h=o.es.length) (n:d.length=h) (t:o.sz=sz) (j:d.all (λv=>v.sz == sz)=true) (l:(d.flatMap PV.cells).all PV.one=true)
  (u:(vs.eraseIdx i).flatMap (aS st bF)++o.es.flatMap (aS st 5)=[])
  (k:K ⟨f,args,.pure r,some (i,sz,d)⟩ (.p r) (st.setObj s g ⟨sz,d.map .p⟩)):vW P st e f vs K:=by
 refine qV hs B m A w x n t j l (by rw[u];rfl) ?_;rw[u];simpa[aI]using k
def P3(x:aV)(r:aC)(hw:x.w.sm 1048576):zS 258 [enc x,.ref (enc r)] (.bool (decide (x.w=r.zero))):=by refine Sp.fD c.iz (by simp) (aA.dV (t:=1) (v:=enc r) (n:=2) (by simp) (by simp)) ?_;simp[g.iz];refine aW (Ey r x.w hw) ?_;simp
def lO(r:aC)(z y:aV):aV:=⟨z.f,z.l,z.t,r.plus z.w y.w⟩
noncomputable def mY(r:aC)(l:List aV):List aV:=(eU aV.key (lO r) id (bW aV.key l)).filter λx=>!decide (x.w=r.zero)
def X7{r:aC}{n:Nat}(f:1<=n){l:List aV}(h:∀ x∈l,x.w.sm n/\x.w.aJ r)(k:Nat)(hk:k<=l.length) :
  (eU aV.key (lO r) id (l.take k)).length<=k/\∀ x∈eU aV.key (lO r) id (l.take k),x.w.sm ((k+1)*(n+1))/\x.w.aJ r:=by
 refine HL (up:=lO r) (nw:=id) (Q:=λk x=>x.w.sm ((k+1)*(n+1))/\x.w.aJ r) (λk x d=>⟨d.1.mono (jU _ (by omega)),d.2⟩) (λx d=>⟨(h x d).1.mono (by omega),(h x d).2⟩) (λk z x d i=>⟨?_,(BU i.2 (h x d).2:(r.plus z.w x.w).aJ r)⟩) (λk x d=>⟨d.1.mono (jU _ (by omega)),d.2⟩) k hk;have:=yfb i.1 (h x d).1 i.2 (h x d).2 (dM f (by rw[sT];omega)) f;have e:(k+1)*(n+1)+n+1=(k+1+1)*(n+1):=by rw[sT (k+1) 1];omega
 rw[<- e];exact this
def WA(r:aC)(l:List aV)(n:Nat)(hn:n<=90)(Q:3<=n)(hl:l.length<=19)(h:∀ x∈l,x.w.sm n/\x.w.aJ r) :
  zS 179 [enc r,.sl (ens l)] (.sl (ens (mY r l))):=by
 have hs:=gB (key:=aV.key) l;have Y:∀ x∈bW aV.key l,x.w.sm n/\x.w.aJ r:=λx u=>h x ((hs.2.2 x).1 u);have V:=X7 (by omega) Y;unfold mY;generalize Z:bW aV.key l=S at *
 have C:S.length=l.length:=hs.2.1;have f:∀ x:aV,(enc x).cells.all PV.one=true:=λx=>by simp[PV.cells]
 refine Sp.vz c.d6 λ_=>?_;simp[g.d6];refine ED (RG l (by omega)) (by simp) ⟨jF _ _ rfl,by decide,by simp[-gW,ens,eL];omega⟩ (by simp) ?_;simp;refine MH (VX rfl f aV.key 256 l hl λx u y hy=>⟨_,IT x y,CG rfl⟩) (by simp) rfl rfl (by simp) (by simp) (by simp[Z,C]) rfl (jF _ _ rfl) (cells_one f _) (by simp) ?_;simp;rw[Z];have U:3<=n+1:=by omega
 refine b6 (S:=λk:Nat=>aB [(2,.ptr 2 0 0 0),(6,.own 1 0 0 (eU aV.key (lO r) id (S.take k)).length),(14,.own 3 0 0 S.length),(15,.p (.int .i64 S.length)),(16,.p (.int .i64 k))] [(2,⟨2,[.p (enc r)]⟩),(1,⟨11,aK (eU aV.key (lO r) id (S.take k))⟩),(3,⟨11,aK S⟩)]) (I:=λk=>k<=S.length) (m:=λk=>S.length - k) 0
  (aA.nl 6 77 11 rfl (aA.to [2,6,14,15,16] [((2,0),2),((77,0),1),((11,0),3)] (by simp[C,eU]))) (by omega) ?_
 rintro k h1 R t hr u;have J:=aZ k;obtain⟨F,G⟩:=V k h1;generalize M:eU aV.key (lO r) id (S.take k)=O at *
 by_cases hk:k<S.length;rotate_left
 .have:k=S.length:=by omega
  subst this;rw[eZ (dE _)]at M;rw[M]at u hr;have hb:(O.length+1)*(n+1)<=1048576:=by have:=mT (show O.length+1<=20 by omega) (show n+1<=91 by omega);omega
  have j:(S.length+1)*(n+1)<=1048576:=by have:=mT (show S.length+1<=20 by omega) (show n+1<=91 by omega);omega
  simp[g.qp,aB];refine u _ _ ?_;simp;refine IV (Rt 258 [.ref (enc r)] (λx=>decide (x.w=r.zero)) O (by omega) λx u=>P3 x r ((G x u).1.mono j)) (by simp[A7,AJ]) rfl rfl (by simp) (by simp) (by simp;have:=kB (λx:aV=>!decide (x.w=r.zero)) O;omega) rfl (jF _ _ rfl) (cells_one f _) (by simp) (kB _ _) ?_;generalize hF:O.filter (λx=>!decide (x.w=r.zero))=i at *
  have ad:i.length<=O.length:=by rw[<- hF];exact kB _ _
  have A:=It i (List.replicate (O.length - i.length) (⟨0,0,0,dT⟩:aV));have B:i.length<=(ens (i++List.replicate (O.length - i.length) (⟨0,0,0,dT⟩:aV))).length:=by simp[-gW,ens]
  generalize ens (i++List.replicate (O.length - i.length) (⟨0,0,0,dT⟩:aV))=A0 at *
  cases af:A0.all PV.flat
  .simp[aI];rw[A];simp[B]
  .simp;rw[A];simp[B]
 have hw:=Y _ (bU hk);have d:=EI (key:=aV.key) (up:=lO r) (nw:=id) hk;rw[M]at d;have W:=yC hw.2.1;have sz:=S3 (n:=n) hw.2.1 Q;have pz:=z6 hw.2;obtain rfl|⟨o,z,rfl⟩:=B' O
 .simp[g.qp,aB,hk];refine bK hk ?_;refine bA (wG r) rfl ?_;simp;refine aW (Io r S[k].w r.zero n hw.1 sz (by omega) (by omega) hw.2 W) ?_;rw[pz];simp[J];refine t (k+1) _ (aA.to [2,6,14,15,16] [((2,0),2),((59,0),1),((3,0),3)] ?_) (by omega) (by omega);rw[d];simp[aB,gS]
 .have X:IntKind.i64.wrap (o.length:Int)=(o.length:Int):=cL (by omega) (by simp at F;omega);simp[g.qp,aB,hk,X];refine bK hk ?_;refine aW (IT z S[k]) ?_;simp[X];have hz:=G z (by simp);have j:(k+1)*(n+1)<=2000:=by have:=mT (show k+1<=20 by omega) (show n+1<=91 by omega);omega
  have N:n<=(k+1)*(n+1):=by rw[sT];omega
  have D:eW z.key S[k].key=0 ↔ z.key=S[k].key:=CF (by simp[aV.key]);refine⟨λK=>?_,λK=>?_⟩
  .rw[xV,FF (key:=aV.key) (z:=z) (y:=S[k]) (D.1 K)]at d;refine aW (Io r z.w S[k].w _ hz.1 (hw.1.mono N) j (by omega) hz.2 hw.2) ?_;simp[J];refine t (k+1) _ (aA.to [2,6,14,15,16] [((2,0),2),((1,0),1),((3,0),3)] ?_) (by omega) (by omega);rw[d];simp[aB,lO]
  .rw[xV,CI (key:=aV.key) (z:=z) (y:=S[k]) (λh=>K (D.2 h))]at d;refine bA (wG r) rfl ?_;simp;refine aW (Io r S[k].w r.zero n hw.1 sz (by omega) (by omega) hw.2 W) ?_;rw[pz];simp[J];refine⟨by simp at F;omega,t (k+1) _ (aA.to [2,6,14,15,16] [((2,0),2),((59,0),1),((3,0),3)] ?_) (by omega) (by omega)⟩;rw[d];simp[aB]
structure aU.ok (a:aU):Prop where
 ring:a.ring.ok=true
 NS:1<=a.sy
 NR:a.sy<=32
 st1:0<=a.st
 st2:a.st<=64
 il:(a.aM.length:Int)=a.st
 fl:(a.fin.length:Int)=a.st
 al:a.aD.length<=2048
 aD:∀ x∈a.aD,oa x a
 aM:∀ w∈a.aM,w.aJ a.ring
 fin:∀ w∈a.fin,w.aJ a.ring
def yhf{r:aC}{l:List GW}:(!l.any λw=>!decide (w.aJ r))=true ↔ ∀ w∈l,w.aJ r:=by simp
def aU.iV{a:aU}:a.vb=true ↔ a.ok:=by
 unfold aU.vb;simp only[jO,decide_eq_true_eq,yhf];constructor
 .rintro⟨h,i,h3,j,k,l,m,n,o,d,f⟩;exact⟨h,i,h3,j,k,l,m,n,λx p=>by simpa using (by simpa using o:∀ x∈a.aD,oa x a) x p,d,f⟩
 .rintro⟨h,i,h3,j,k,l,m,n,o,d,f⟩;exact⟨h,i,h3,j,k,l,m,n,by simpa using o,d,f⟩
def jS:aU:=⟨⟨0,[]⟩,0,0,[],[],[]⟩
noncomputable def aU.nf(a:aU):aU:=⟨a.ring,a.sy,a.st,a.aM,a.fin,mY a.ring a.aD⟩
def aU.sm.mono{a:aU}{m n:Nat}(h:a.sm m)(k:m<=n):a.sm n:=⟨λw hw=>(h.aM w hw).mono k,λw hw=>(h.fin w hw).mono k,λx d=>(h.aD x d).mono k⟩
def R5{r:aC}{l:List GW}(h:∀ w∈l,w.aJ r):(l.map λw=>r.plus w r.zero)=l:=by have:(l.map λw=>r.plus w r.zero)=l.map id:=uK λw hw=>z6 (h w hw);rw[this,List.map_id]
def BP{r:aC}(h:r.ok=true):r.parts.length<=3:=by
 by_cases d:r.kind=6
 .exact(aC.bQ h d).2.1
 .simp[(aC.cJ h d).2.2]
def TD(r:aC)(l:List GW)(n:Nat)(hn:n<=90)(d:3<=n)(hr:r.ok=true)(f:l.length<=64)(h:∀ w∈l,w.sm n)(c:∀ w∈l,w.aJ r):zS 63 [enc r,.sl (ens l)] (.sl (ens l)):=by
 have k:=ycg r l n (by omega) (by omega) (by omega) (λw hw=>⟨h w hw,c w hw⟩) (S3 hr d) (yC hr)
 rwa[R5 c]at k
def YB(a:aU)(n:Nat)(hn:n<=90)(d:3<=n)(h:a.sm n)(i:a.aD.length<=19) :
  zS 136 [enc a] (.bM [enc (if a.vb then a.nf else jS),.int .i64 (if a.vb then 0 else 4)]):=by
 refine Sp.vz c.bq λ_=>?_;simp[g.bq];refine aW (Mn a (h.mono (by omega))) ?_;cases j:a.vb
 .simp[jS]
 have ok:=aU.iV.1 j;have k:=ok.il;have l:=ok.fl;have m:=ok.st2
 simp;refine aW (OR a.ring (by have:=BP ok.ring;omega)) ?_;simp;refine aW (TD a.ring a.aM n hn d ok.ring (by omega) h.aM ok.aM) ?_;simp;refine aW (TD a.ring a.fin n hn d ok.ring (by omega) h.fin ok.fin) ?_;simp;refine aW (WA a.ring a.aD n hn d i λx f=>⟨h.aD x f,(ok.aD x f).2.2.2.2.2.2⟩) ?_;simp[aU.nf]
def QC(x y:aE):zS 73 [enc x,enc y] (.int .i64 (eW x.key y.key)):=by rw[<- IL x.key y.key rfl,show List.zipWith eP x.key y.key=[eP x.f y.f,eP x.i y.i,eP x.o y.o,eP x.t y.t] from rfl];refine Sp.vz c.gh λ_=>?_;simp[g.gh];refine bA (vZ x.f y.f) rfl ?_;simp;refine bA (vZ x.i y.i) rfl ?_;simp;refine bA (vZ x.o y.o) rfl ?_;simp;refine bA (vZ x.t y.t) rfl ?_;simp;refine aW (K9 [eP x.f y.f,eP x.i y.i,eP x.o y.o,eP x.t y.t] (by simp)) ?_;simp
def VU(r:aC)(w:GW)(hw:w.sm 1048576):zS 143 [enc w,.ref (enc r)] (.bool (!decide (w.aJ r))):=by refine Sp.fD c.j7 (by simp) (aA.dV (t:=1) (v:=enc r) (n:=2) (by simp) (by simp)) ?_;simp[g.j7];refine aW (F9 r w hw) ?_;simp
def Rn(r:aC)(l:List GW)(m:Int)(f:∀ w∈l,w.sm 1048576)(d:l.length<=2147483648):zS 101 [enc r,.sl (ens l),.int .i64 m] (.bool (decide ((l.length:Int)=m/\∀ w∈l,w.aJ r))):=by
 refine Sp.vz c.n5 λ_=>?_;have e:decide ((l.length:Int)=m/\∀ w∈l,w.aJ r)=(decide ((l.length:Int)=m) && !l.any λw=>!decide (w.aJ r)):=by rw[Bool.eq_iff_iff];simp
 rw[e];simp[g.n5];refine⟨λh=>?_,λh=>by simp[h]⟩;refine bA (RK l 143 [.ref (enc r)] (λw=>!decide (w.aJ r)) (by omega) λw hw=>VU r w (f w hw)) (by simp[A7,AJ]) ?_;simp[h]
def Rk(m:Int):zS 99 [.int .i64 m] (.bool (decide (1<=m/\m<=32))):=by refine Sp.vz c.n4 λ_=>?_;simp[g.n4];exact⟨λh _=>h,λh d=>by omega⟩
def YJ(x:aE)(r:aC)(hw:x.w.sm 1048576):zS 77 [enc x,.ref (enc r)] (.bool (decide (x.w=r.zero))):=by refine Sp.fD c.jn (by simp) (aA.dV (t:=1) (v:=enc r) (n:=2) (by simp) (by simp)) ?_;simp[g.jn];refine aW (Ey r x.w hw) ?_;simp
def lE(r:aC)(z y:aE):aE:=⟨z.f,z.i,z.o,z.t,r.plus z.w y.w⟩
noncomputable def cV(r:aC)(l:List aE):List aE:=(eU aE.key (lE r) id (bW aE.key l)).filter λx=>!decide (x.w=r.zero)
section
variable {α : Type} {key : α -> List Int}
def oQ(key : α -> List Int)(k:List Int)(l:List α):List α := l.filter λx=>decide (key x=k)
def wB(k:List Int)(a b:List α):oQ key k (a++b)=oQ key k a++oQ key k b:=tW ..
def xS(k:List Int)(x : α)(l:List α):oQ key k (x::l)=if key x=k then x::oQ key k l else oQ key k l:=by unfold oQ;rw[EV];simp
def DX{k:List Int}{l:List α}(h:∀ x∈l,key x≠k):oQ key k l=[]:=by unfold oQ;rw[List.filter_eq_nil_iff];intro x d;simpa using h x d
theorem Tm(k:List Int)(x : α):∀ {s:List α},jQ key s->oQ key k (eJ key s x)=oQ key k (s++[x])
 | [],_=>rfl
 | z::r,j=>by
  have h:=mS.1 j;simp only[eJ];split
  .rename_i d;have f:∀ y∈z::r,key x≠key y:=λy i e=>by
    obtain rfl|i:=cI.1 i
    .rw[e]at d;exact absurd d (pU _)
    .have:=h.1 y i;rw[<- e]at this;exact this d
   rw[show x::z::r=[x]++(z::r) from rfl,wB,wB];by_cases hk:key x=k
   .rw[DX (l:=z::r) λy i e=>f y i (hk.trans e.symm)];simp
   .rw[DX (l:=[x]) (by simpa using hk)];simp
  .have m:=Tm k x (s:=r) h.2;rw[xS,m,xX,xS]
def D9(k:List Int)(l:List α):oQ key k (bW key l)=oQ key k l:=by
 have:∀ (n:Nat) (l:List α),l.length=n->oQ key k (bW key l)=oQ key k l:=λn=>by
  induction n with
  | zero=>intro l d;rw[q9 d];rfl
  | succ n i =>
   intro l d;obtain⟨f,y,rfl⟩:∃ f y,l=f++[y]:=⟨l.dropLast,l.getLast (by intro h;simp[h]at d),(List.dropLast_concat_getLast _).symm⟩;rw[LR,Tm k y (gB f).1,wB,wB,i f (by simpa using d)]
 exact this _ l rfl
theorem z35:∀ {s t:List α},jQ key s->jQ key t->(∀ k,oQ key k s=oQ key k t)->s=t
 | [],[],_,_,_=>rfl
 | [],y::t,_,_,h=>by have:=h (key y);rw[xS,aX rfl]at this;cases this
 | x::s,[],_,_,h=>by have:=h (key x);rw[xS,aX rfl]at this;cases this
 | x::s,y::t,o,p,h=>by
  have f:=mS.1 o;have i:=mS.1 p;have j:key x=key y:=by
   obtain d|d|d:=BO (key x) (key y)
   .exfalso;have:=h (key x);rw[xS,aX rfl,DX (l:=y::t) λz hz e=>by
     obtain rfl|hz:=cI.1 hz
     .rw[e]at d;exact pU _ d
     .have:=i.1 z hz;rw[e]at this;exact this d]at this
    cases this
   .exact d
   .exfalso;have:=h (key y);rw[xS (l:=t),aX rfl,DX (l:=x::s) λz hz e=>by
     obtain rfl|hz:=cI.1 hz
     .rw[e]at d;exact pU _ d
     .have:=f.1 z hz;rw[e]at this;exact this d]at this
    cases this
  have m:=h (key x);rw[xS,aX rfl,xS,aX j.symm]at m;injection m with n u
  subst n
  congr 1
  refine z35 f.2 i.2 λk=>?_;have:=h k;rw[xS,xS]at this;split at this
  .injection this
  .exact this
def IU{l s:List α}(hs:jQ key s)(h:∀ k,oQ key k s=oQ key k l):s=bW key l :=
 z35 hs (gB l).1 λk=>by rw[h k,D9]
def AF{l:List α}(h:jQ key l):bW key l=l:=(IU h λ_=>rfl).symm
def S5(a b:List α):bW key (bW key a++bW key b)=bW key (a++b):=by refine IU (gB _).1 λk=>?_;rw[D9,wB,wB,D9,D9]
def z33{l j i m:List α}(t:∀ y∈i,∀ x∈j,key y<key x)(u:∀ x∈l,∀ y∈m,¬ key y<key x)(n:∀ x∈l,∀ y∈j,¬ key y<key x)(o:∀ x∈i,∀ y∈m,¬ key y<key x) :
  bW key (l++j++(i++m))=bW key (l++i)++bW key (j++m):=by
 refine(IU ?_ λk=>?_).symm
 .refine tY.2 ⟨(gB _).1,(gB _).1,λa d b f=>?_⟩;rw[(gB _).2.2,dN]at d f;obtain d|d:=d<;>obtain f|f:=f
  .exact n a d b f
  .exact u a d b f
  .intro hk;exact pU _ (Ca hk (t a d b f))
  .exact o a d b f
 .rw[wB,D9,D9,wB,wB,wB,wB,wB];have:oQ key k i=[]\/oQ key k j=[]:=by
   by_cases h:oQ key k i=[]
   .exact .inl h
   .right;obtain⟨y,o⟩:=ND _ h;obtain⟨w,p⟩:=kI.1 o;have p:=of_decide_eq_true p;refine DX λx n e=>?_;have:=t y w x n;rw[p,e]at this;exact pU _ this
  obtain h|h:=this<;>rw[h]<;>simp
def bX(key : α -> List Int)(s:Nat):Nat->List α -> List α
 | 0,l=>l
 | n+1,l=>if l.length<=s then bW key l else bW key (l.take s)++bX key s n (l.drop s)
end
end Go.Ab
namespace Go.Ab
open Enc (enc)
attribute [local simp] iJ bP.aY
structure SI where
 z:Nat
 hz:0<z
 sw:FuncId
 ro:FuncId
 sm:FuncId
 ins:FuncId
 st:FuncId
 so:FuncId
def Ln(I:SI):GC:=dc ⟨[],[],[⟨none,.store I.z (.t 37) (.t 35),none⟩,zo 37 (.cG I.z (.t 20) (.t 23)),⟨none,.store I.z (.t 36) (.t 29),none⟩,zo 36 (.cG I.z (.t 16) (.t 19)),zo 35 (.load I.z true (.t 34)),zo 34 (.cG I.z (.t 30) (.t 33)),zo 29 (.load I.z true (.t 28)),zo 28 (.cG I.z (.t 24) (.t 27))],[]⟩ 343 0xD0F770035014C034890340D51E3F40E1240DE90190340DBC21408D788503008D790340C0F9A00EEEE680480EEEE688440D04E1203008D781203BBB9A0148440D04E1203008D781203BBB0417001C15BD0148440D04E1203008D781203BBB9A01601007056F405211034138480C0235E0480EEEC1060D2302940485215780A501214855E02940000905E41B060907501C60D230294000090014840841EF088408A5F04C1023D620901D61C17050810948F4142508D1831146C6F0D
def GD(I:SI):GC:=dc ⟨[],[],[],[Ln I]⟩ 20 0x3A6404C3553
def H9(I:SI):GC:=dc ⟨[I.sw],[],[],[]⟩ 193 0xD0F7700B501E605014F7D047700B5000F2241705E0B5780A5012357A030110A31E9207D183589102D40528222442221022C360B5780A501235780B501210294048DDC0110A32CC89542E460E42440A5014A0C4910C4840C70B
def Gz(I:SI):GC:=dc ⟨[I.sw],[],[],[H9 I]⟩ 106 0x34115E3314052A93C3504330910094052AAAC2E724A9183C88480D5E0294048CF4244ED244F4428C7A483920439
def L5(I:SI):GC:=dc ⟨[],[],[⟨none,.store I.z (.t 52) (.t 50),none⟩,zo 52 (.cG I.z (.t 39) (.t 41)),⟨none,.store I.z (.t 51) (.t 46),none⟩,zo 51 (.cG I.z (.t 37) (.t 38)),zo 50 (.load I.z true (.t 49)),zo 49 (.cG I.z (.t 47) (.t 48)),zo 46 (.load I.z true (.t 45)),zo 45 (.cG I.z (.t 42) (.t 44)),zq 31 (.load I.z true (.t 30)) 21 true,zq 30 (.cG I.z (.t 27) (.t 29)) 21 true,zq 26 (.load I.z true (.t 25)) 21 true,zq 25 (.cG I.z (.t 23) (.t 24)) 21 true],[]⟩ 620 0x3222C364726BD19150991C980A646C464719647DE6440EF79917EFDE789B7B180F67C036656E665B76649002D992101805C9002999210195B9996DD995DD99240096670806C9002199DECA632ACE6662F6653A334810888908822A367840C0350D974D9977F14302A818764D876BF8779187410E4590D27495DF495DC905E42C0A8907502DD2490014840C02FF08840C65F0982523D620CC2E61C2909C810D08F414340C91836AF009091F399A
def L6(I:SI):GC:=dc ⟨[],[],[],[L5 I]⟩ 94 0x343D8600940532DE6B283AA99A9D51831DCFE6563
def Fs(I:SI):GC:=dc ⟨[],[],[],[L6 I]⟩ 35 0xEBC51AA258D53
def Lk(I:SI):GC:=dc ⟨[I.ins],[],[],[]⟩ 107 0xFBDB1A660340DF7E0B320916180242A9204904A0EFC5C9183338150106BE563
def Ll(I:SI):GC:=dc ⟨[I.sm],[],[],[]⟩ 116 0x3EF6C69982308F122280582E7F37F815012161802428C731A550AD04A0C2C2442C2102C5C91839781DB5D74C9060C0910C0840C163
def Lm(I:SI):GC:=dc ⟨[I.sm],[],[],[Ll I]⟩ 169 0xE70B180DD52062280341006DB5D72042026521F316346FA743D7961806501060CC910CC840CD9A41009B180D224360DBA83C4913C20A00A0DA483CB94F773C0725402306580F8910F8840F949
def GB(I:SI):GC:=dc ⟨[I.ins],[],[],[Lm I,Lk I]⟩ 79 0xEB1053AB95C0A265218D9639CAA741105618D18280242A9206C8106E75
def GA(I:SI):GC:=dc ⟨[I.st],[],[],[]⟩ 25 0xFA83150E244C6428C44BC8402163
def Lf(I:SI):GC:=dc ⟨[],[],[zo 48 (.load I.z true (.t 47)),zo 47 (.cG I.z (.t 45) (.t 46)),zo 44 (.load I.z true (.t 43)),zo 43 (.cG I.z (.t 41) (.t 42))],[]⟩ 230 0x343DDC02D400348908421F7D047700B5000093CA9007977BC072042724427210272040C56EF86ED4D50C0565D428CDBD5354221409001BD53542C51830325F0A8297D42B60C0161C2E0B5370BCA6327AE8BC890C832460E7721460D0910D0840D30D460E9211E70D4910D4840D70B
def Lg(I:SI):GC:=dc ⟨[],[],[⟨none,.store I.z (.t 76) (.t 74),none⟩,zo 76 (.cG I.z (.t 63) (.t 65)),⟨none,.store I.z (.t 75) (.t 70),none⟩,zo 75 (.cG I.z (.t 61) (.t 62)),zo 74 (.load I.z true (.t 73)),zo 73 (.cG I.z (.t 71) (.t 72)),zo 70 (.load I.z true (.t 69)),zo 69 (.cG I.z (.t 66) (.t 68))],[]⟩ 315 0xD0F76C0A5DD325303A2243A0EA8D9E10300D4365D3665DFC50C0AA061D9361DAFE1DE461D0439164183035830352748521036DA2417910443241D410583034900177910BC2DE65F0F83D23D621004561C4B0FD340300123D052000CAD40A005183B9460F0910F0840F2F2
def Lh(I:SI):GC:=dc ⟨[],[],[zo 100 (.load I.z true (.t 99)),zo 99 (.cG I.z (.t 97) (.t 98)),zo 96 (.load I.z true (.t 95)),zo 95 (.cG I.z (.t 93) (.t 94))],[]⟩ 290 0x343C0E2440F5000D7FF12228054100E2440F5000093CA9007977BC074D01B5B41B5801B5281056EF86ED4D50C0565D428CDBD5354221409001BD535422165A001BD53542C518300A5F104427D44160C1061C4110B41298C9EBA2F521FF461C203B400A56D0A5600A54A039187080F4D02A5B42A5802A5280F
def Li(I:SI):GC:=dc ⟨[],[],[⟨none,.store I.z (.t 128) (.t 126),none⟩,zo 128 (.cG I.z (.t 115) (.t 117)),⟨none,.store I.z (.t 127) (.t 122),none⟩,zo 127 (.cG I.z (.t 113) (.t 114)),zo 126 (.load I.z true (.t 125)),zo 125 (.cG I.z (.t 123) (.t 124)),zo 122 (.load I.z true (.t 121)),zo 121 (.cG I.z (.t 118) (.t 120))],[]⟩ 325 0xD0F044910394003D340BBCF4740646C079E10300D4365D3665DFC50C0AA061D9361DAFE1DE461D0439164183045830457760C115DC905E44110C907504160C1124005DE442F0B7997C4D1388F588401158712C4D4D1FE23D05201FE2003E00518885774D0305B4305803052811
def Lj(I:SI):GC:=dc ⟨[],[],[zo 168 (.load I.z true (.t 167)),zo 167 (.cG I.z (.t 165) (.t 166)),zo 164 (.load I.z true (.t 163)),zo 163 (.cG I.z (.t 159) (.t 162))],[]⟩ 313 0xD0F9F8155000D7FD1D0208A025049F8155000093CA9007977BC074D01D8AC1D8A81D96017689036240101189630044C5438C485026318CF7F630044C4098C485E237F630044C4098C48503388DFD8C01131024076180460EB205D400065F104447D44160C1761C4110B41298CBEBA2F521FF4625E053400B62B0B62A0B65805118978154D02E8AC2E8A82E96015
def UD(I:SI):GC:=dc ⟨[I.sm],[],[],[]⟩ 194 0x3220AF4111657814503250521E24412208425000D9A6277FFA845923A509180804836921008D4101287D2306140C941887891CF8425000D9A6277FD184152195A02060840609162803C50840120DA48404D01B00C8D
def UE(I:SI):GC:=dc ⟨[I.ro],[],[],[UD I]⟩ 134 0x341013A1285244145032C0C62B0C62A0C658060882BD049F8025032500A1E24418208425000D9A6277FFA89F96257818C520DA48404D03F0088D2B800
def UF(I:SI):GC:=dc ⟨[],[],[],[UE I,Lj I]⟩ 42 0x3410135DD340522B0522A052580591B022A72B800
def UG(I:SI):GC:=dc ⟨[],[],[],[UF I]⟩ 235 0xD0448C035000093CA9007977BC074D0068AC068A806960124120200940418800262B0262A02402A64145D01520415220AF4115E0494003DFF41013244035032C03E2B03E2A03E5805118049340422B0422A04258056BC4D0118AC118A81196014460024D0128AC128A812960152B800
def NT(I:SI):GC:=dc ⟨[],[],[],[Li I,Lh I]⟩ 103 0xD04459194D0115B411580115280E410024D0125B412580125280F46C04A9D0F5880F010024D02B5B42B5802B52811228064A88C
def G5(I:SI):GC:=dc ⟨[],[],[],[Lg I,Lf I]⟩ 72 0x3410DB2041D247E0C350436C81F470B9CAA743CF52100B010810D8910D8840DAF29D48C
def Dz(I:SI):GC:=dc ⟨[],[],[],[UG I,NT I,G5 I]⟩ 75 0xD0F578015000149DE7070890701C2B802237C3244025000149FA60428020010AD410004AE0048D2B800
structure pK (I:SI):Prop where
 sw:aP P I.sw=some ⟨38,5,(GD I).er,[]⟩
 ro:aP P I.ro=some ⟨58,5,(Gz I).er,[]⟩
 sm:aP P I.sm=some ⟨220,5,(Dz I).er,[]⟩
 ins:aP P I.ins=some ⟨53,4,(Fs I).er,[]⟩
 st:aP P I.st=some ⟨63,3,(GB I).er,[]⟩
 so:aP P I.so=some ⟨9,2,(GA I).er,[]⟩
section
variable {α : Type} [Enc α]
def K3{I:SI}(hI:pK I)(af:Enc.sz α = I.z)(ao:∀ x : α,(enc x).cells.all PV.one=true)(cf:FuncId)(A U M V B l:List α)(hl:l=A++(U++(M++(V++B))))(aw:l.length<=1000000)(ap:V.length=U.length)(a b n:Nat)(ha:a=A.length)(hb:b=A.length+U.length+M.length)(hn:n=U.length) :
  gO P I.sw [.sl (ens l),.int .i64 a,.int .i64 b,.int .i64 n,.fn cf []] 0 I.z (ens (A++(V++(M++(U++B))))) (.pure (.bM [])):=by
 have O:∀ x : α,(enc x).sz=I.z:=λx=>by rw[Enc.ok,af]
 have K:(A++(V++(M++(U++B)))).length=l.length:=by rw[hl];simp;omega
 have ag:l.length=A.length+U.length+M.length+U.length+B.length:=by rw[hl];simp;omega
 refine gO.cE hI.sw (by simp) rfl (by simp[K]) ?_;simp[GD]
 refine b6 (S:=λx:List α × Nat=>aB [(0,.own bC 0 0 l.length),(1,.p (.int .i64 a)),(2,.p (.int .i64 b)),(3,.p (.int .i64 n)),(10,.p (.int .i64 x.2))] [(bC,⟨I.z,aK x.1⟩)])
  (I:=λx=>∃ h d f i,U=h++d/\V=f++i/\h.length=x.2/\f.length=x.2/\x.1=A++(f++(d++(M++(h++(i++B)))))) (m:=λx=>n - x.2) (l,0)
  (aA.to [0,1,2,3,10] [((bC,0),bC)] (by simp[aB])) ⟨[],U,[],V,rfl,rfl,rfl,rfl,hl⟩ ?_
 rintro⟨L,k⟩ ⟨h,d,f,i,W,X,J,w,D⟩ R ad hr hx;simp only at J w D;have j:U.length=h.length+d.length:=by rw[W];simp
 have Z:V.length=f.length+i.length:=by rw[X];simp
 have Y:L.length=l.length:=by rw[D];simp;omega
 have e1:=aZ k;have e2:IntKind.i64.wrap ((b:Int)+k)=((b+k:Nat):Int):=cT;have e3:IntKind.i64.wrap ((a:Int)+k)=((a+k:Nat):Int):=cT;by_cases N:k<n
 .obtain _|⟨u,d⟩:=d
  .simp at j;omega
  obtain _|⟨v,i⟩:=i
  .simp at Z;omega
  have o:L[a+k]?=some u:=by rw[D,ha,<- w];simp[<- List.append_assoc]
  have t:L[b+k]?=some v:=by
   have e:b+k=(A++(f++(u::d++(M++h)))).length:=by simp at j ⊢;omega
   rw[D,e,show A++(f++(u::d++(M++(h++(v::i++B)))))=(A++(f++(u::d++(M++h))))++(v::(i++B)) by simp];simp
  have Q:(L.set (a+k) v).set (b+k) u=A++((f++[v])++(d++(M++((h++[u])++(i++B))))):=by
   have e:b+k=(A++(f++(v::d++(M++h)))).length:=by simp at j ⊢;omega
   have e':a+k=(A++f).length:=by simp;omega
   rw[D,e',show A++(f++(u::d++(M++(h++(v::i++B)))))=(A++f)++(u::(d++(M++(h++(v::i++B))))) by simp,C' _ _ (dE _),Db,G0,
    e,show A++f++v::(d++(M++(h++(v::i++B))))=(A++(f++(v::d++(M++h))))++(v::(i++B)) by simp,C' _ _ (dE _),Db,G0]
   simp
  have aq:a+k<L.length:=(iU.1 o).1;have au:b+k<L.length:=(iU.1 t).1
  have F:∀ s,aA s (aB [(0,.own bC 0 0 l.length),(1,.p (.int .i64 a)),(2,.p (.int .i64 b)),(3,.p (.int .i64 n)),(10,.p (.int .i64 (k+1:Nat)))] [(bC,⟨I.z,aK ((L.set (a+k) v).set (b+k) u)⟩)])->R .normal s:=λs hs=>
   ad ((L.set (a+k) v).set (b+k) u,k+1) _ hs ⟨h++[u],d,f++[v],i,by rw[W];simp,by rw[X];simp,by simp[J],by simp[w],Q⟩ (by simp only;omega)
  have al:(k:Int)<(n:Int):=by omega
  simp[Ln,aB,N,e2,e3,Y,show a+k<l.length by omega,show b+k<l.length by omega];have t1:((a:Int)+k).toNat=a+k:=by omega
  have t2:((b:Int)+k).toNat=b+k:=by omega
  have C:((aK L).set (a+k) (.p (enc v))).set (b+k) (.p (enc u))=aK ((L.set (a+k) v).set (b+k) u):=by simp[-gW,aK,ens,EX]
  rw[t1,t2];refine⟨⟨by omega,by omega⟩,eD t ⟨⟨by omega,by omega⟩,eD o ⟨⟨by omega,by omega⟩,eD o ⟨⟨O v,I.hz⟩,⟨by omega,by omega⟩,?_⟩⟩⟩⟩;have G:((aK L).set (a+k) (.p (enc v)))[b+k]?=some (.p (enc v)):=by
   rw[vK];split
   .exact aX (by simp[-gW,aK,ens];omega)
   .simp[-gW,aK,ens,t]
  rw[lM];refine eD G ?_;rw[Fw];refine⟨⟨O u,I.hz⟩,?_⟩;rw[C];generalize (L.set (a+k) v).set (b+k) u=L2 at *
  simp[e1];exact F _ (aA.to [0,1,2,3,10] [((bC,0),bC)] (by simp[aB]))
 .have av:k=n:=by omega
  have h2:d=[]:=q9 (by omega);have h3:i=[]:=q9 (by omega);subst h2 h3;simp only[kY]at W X;subst W X;simp[Ln,aB,N];refine hx _ _ ?_;simp[D]
end
section
variable {α : Type} [Enc α]
def ZU{I:SI}(hI:pK I)(C:Enc.sz α = I.z)(f:∀ x : α,(enc x).cells.all PV.one=true)(cf:FuncId)(A U V B l:List α)(hl:l=A++(U++(V++B)))(av:l.length<=1000000)(ad:1<=U.length)(ag:1<=V.length)(a m b:Nat)(ha:a=A.length)(hm:m=A.length+U.length)(hb:b=A.length+U.length+V.length) :
  gO P I.ro [.sl (ens l),.int .i64 a,.int .i64 m,.int .i64 b,.fn cf []] 0 I.z (ens (A++(V++(U++B)))) (.pure (.bM [])):=by
 have N:(A++(V++(U++B))).length=l.length:=by rw[hl];simp;omega
 have ao:l.length=A.length+U.length+V.length+B.length:=by rw[hl];simp;omega
 have e1:IntKind.i64.wrap ((m:Int) - a)=(U.length:Int):=by rw[cL (by omega) (by omega)];omega
 have e2:IntKind.i64.wrap ((b:Int) - m)=(V.length:Int):=by rw[cL (by omega) (by omega)];omega
 refine gO.cE hI.ro (by simp) rfl (by simp[N]) ?_;simp[Gz];rw[e1,e2]
 refine b6 (S:=λx:List α × Nat × Nat=>aB [(0,.own bC 0 0 l.length),(2,.p (.int .i64 m)),(4,.p (.fn cf [])),(10,.p (.int .i64 x.2.1)),(11,.p (.int .i64 x.2.2))] [(bC,⟨I.z,aK x.1⟩)])
  (I:=λx=>∃ d o t k,x.1=d++(o++(t++k))/\o.length=x.2.1/\t.length=x.2.2/\d.length+x.2.1=m/\1<=x.2.1/\1<=x.2.2/\d++(t++(o++k))=A++(V++(U++B))) (m:=λx=>x.2.1+x.2.2) (l,U.length,V.length)
  (aA.to [0,2,4,10,11] [((bC,0),bC)] (by simp[aB])) ⟨A,U,V,B,hl,rfl,rfl,by simp only;omega,ad,ag,rfl⟩ ?_
 rintro⟨L,i,j⟩ ⟨d,o,t,k,X,hi,hj,Y,i1,j1,F⟩ R hn hr hx;simp only at X hi hj Y i1 j1;have n:L.length=l.length:=by have:=congrArg List.length F;rw[N]at this;rw[X,<- this];simp;omega
 have W:L.take l.length=L:=by rw[<- n];exact kK
 have ap:l.length=d.length+i+j+k.length:=by rw[<- n,X];simp;omega
 have e3:IntKind.i64.wrap ((m:Int) - i)=((d.length:Nat):Int):=by rw[cL (by omega) (by omega)];omega
 obtain h|h|h:=NB i j
 .obtain⟨K,M,rfl,al⟩:∃ K M,t=K++M/\M.length=i:=⟨t.take (j - i),t.drop (j - i),(oK _ _).symm,by rw[lp];omega⟩;have au:K.length+i=j:=by simp at hj;omega
  have e4:IntKind.i64.wrap ((m:Int)+j)=((m+j:Nat):Int):=cT;have e5:IntKind.i64.wrap (((m+j:Nat):Int) - i)=((m+j - i:Nat):Int):=by rw[cL (by omega) (by omega)];omega
  have e6:IntKind.i64.wrap ((j:Int) - i)=((j - i:Nat):Int):=by rw[cL (by omega) (by omega)];omega
  have w:=K3 hI C f cf d o K M k L (by rw[X];simp) (by omega) (by omega) d.length (m+j - i) i rfl (by omega) hi.symm;have u:(d++(M++(K++(o++k)))).length=l.length:=by simp;omega
  have D:∀ s,aA s (aB [(0,.own bC 0 0 l.length),(2,.p (.int .i64 m)),(4,.p (.fn cf [])),(10,.p (.int .i64 i)),(11,.p (.int .i64 (j - i:Nat)))] [(bC,⟨I.z,aK (d++(M++(K++(o++k))))⟩)])->R .normal s:=λs hs=>
   hn (_,i,j - i) s hs ⟨d,M,K,o++k,rfl,al,by simp only;omega,Y,i1,by simp only;omega,by rw[<- F];simp⟩ (by simp only;omega)
  generalize d++(M++(K++(o++k)))=L2 at *
  have O:¬ (i:Int)=(j:Int):=by omega
  have Q:¬ (j:Int)<(i:Int):=by omega
  simp[H9,aB,O,Q,show ¬ i=j by omega,show ¬ j<i by omega,e3,e4];rw[<- Int.natCast_add,e5];refine qV w (by simp[n,W]) rfl rfl (by simp) (by simp[n]) (by simp[u]) rfl (jF _ _ C) (cells_one f _) (by simp) ?_;simp[e6];exact D _ (aA.to [0,2,4,10,11] [((bC,0),bC)] (by simp[aB]))
 .subst h;have w:=K3 hI C f cf d o [] t k L (by rw[X];simp) (by omega) (by omega) d.length m i rfl (by simp;omega) hi.symm;have u:(d++(t++([]++(o++k)))).length=l.length:=by simp;omega
  have Z:d++(t++([]++(o++k)))=d++(t++(o++k)):=by simp
  rw[Z,F]at w u;simp[H9,aB];refine hx _ _ ?_;simp;rw[e3];refine qV w (by simp[n,W]) rfl rfl (by simp) (by simp[n]) (by simp[u]) rfl (jF _ _ C) (cells_one f _) (by simp) ?_;simp[u]
 .obtain⟨G,J,rfl,af⟩:∃ G J,o=G++J/\G.length=j:=⟨o.take j,o.drop j,(oK _ _).symm,by rw[fY];omega⟩;have aq:J.length+j=i:=by simp at hi;omega
  have e6:IntKind.i64.wrap ((i:Int) - j)=((i - j:Nat):Int):=by rw[cL (by omega) (by omega)];omega
  have w:=K3 hI C f cf d G J t k L (by rw[X];simp) (by omega) (by omega) d.length m j rfl (by omega) af.symm;have u:(d++(t++(J++(G++k)))).length=l.length:=by simp;omega
  have D:∀ s,aA s (aB [(0,.own bC 0 0 l.length),(2,.p (.int .i64 m)),(4,.p (.fn cf [])),(10,.p (.int .i64 (i - j:Nat))),(11,.p (.int .i64 j))] [(bC,⟨I.z,aK (d++(t++(J++(G++k))))⟩)])->R .normal s:=λs hs=>
   hn (_,i - j,j) s hs ⟨d++t,J,G,k,by simp,by simp only;omega,by simp only;omega,by simp only[gQ];omega,by simp only;omega,j1,by rw[<- F];simp⟩ (by simp only;omega)
  generalize d++(t++(J++(G++k)))=L2 at *
  have O:¬ (i:Int)=(j:Int):=by omega
  have Q:(j:Int)<(i:Int):=by omega
  simp[H9,aB,O,Q,show ¬ i=j by omega,h,e3];refine qV w (by simp[n,W]) rfl rfl (by simp) (by simp[n]) (by simp[u]) rfl (jF _ _ C) (cells_one f _) (by simp) ?_;simp[e6];exact D _ (aA.to [0,2,4,10,11] [((bC,0),bC)] (by simp[aB]))
end
end Go.Ab
namespace Go.Ab
section
variable {α : Type} {key : α -> List Int}
def AY{l:List α}(h:jQ key l){i j:Nat}{x y : α}(n:l[i]?=some x)(o:l[j]?=some y)(d:i<=j):¬ key y<key x:=by
 obtain⟨f,rfl⟩:=iU.1 n;obtain⟨k,rfl⟩:=iU.1 o;obtain m|rfl:=Nat.lt_or_eq_of_le d
 .exact Ns.1 h i j f k m
 .exact pU _
def Is{l:List α}(h:jQ key l)(n:Nat):jQ key (l.take n):=JF (Js _ _) h
def Ir{l:List α}(h:jQ key l)(n:Nat):jQ key (l.drop n):=JF (List.drop_sublist _ _) h
def I3{l:List α}{n:Nat}{x : α}(h:x∈l.take n):∃ i,i<n/\l[i]?=some x:=by obtain⟨i,f,d⟩:=qW.1 h;rw[fY]at f;rw[List.getElem_take]at d;exact⟨i,by omega,iU.2 ⟨by omega,d⟩⟩
def C3{l:List α}{n:Nat}{x : α}(h:x∈l.drop n):∃ i,n<=i/\l[i]?=some x:=by obtain⟨i,f,d⟩:=qW.1 h;rw[lp]at f;rw[List.getElem_drop]at d;exact⟨n+i,by omega,iU.2 ⟨by omega,d⟩⟩
def ygb{a b c:List Int}(h:¬ b<a)(k:b<c):a<c:=PA h k
def KV{a b c:List Int}(h:¬ b<a)(k:¬ c<b):¬ c<a:=λd=>k (Ep d h)
def Mj{X Y:List α}(p:jQ key X)(t:jQ key Y){u v:Nat}
  (D:u=0\/Y.length<=v\/∃ x y,X[u - 1]?=some x/\Y[v]?=some y/\¬ key y<key x) (F:X.length<=u\/v=0\/∃ x y,X[u]?=some x/\Y[v - 1]?=some y/\key y<key x) :
  bW key (X++Y)=bW key (X.take u++Y.take v)++bW key (X.drop u++Y.drop v):=by
 have e:X++Y=X.take u++X.drop u++(Y.take v++Y.drop v):=by rw[oK,oK]
 rw[e];refine z33 (λy k x f=>?_) (λx f y k=>?_) (λx f y k=>?_) λx f y k=>?_
 .obtain⟨i,w,l⟩:=I3 k;obtain⟨j,m,d⟩:=C3 f;have G:=(iU.1 d).1;obtain h|h|⟨I,J,A,B,C⟩:=F
  .omega
  .omega
  .have n:=AY t l B (by omega);have o:=AY p A d m;exact Ep (ygb n C) o
 .obtain⟨i,w,l⟩:=I3 f;obtain⟨j,m,d⟩:=C3 k;have G:=(iU.1 d).1;obtain h|h|⟨I,J,A,B,C⟩:=D
  .omega
  .omega
  .have n:=AY p l A (by omega);have o:=AY t B d m;exact KV (KV n C) o
 .obtain⟨i,w,l⟩:=I3 f;obtain⟨j,m,d⟩:=C3 k;exact AY p l d (by omega)
 .obtain⟨i,w,l⟩:=I3 f;obtain⟨j,m,d⟩:=C3 k;exact AY t l d (by omega)
def X1{x : α}{Y:List α}(d:jQ key Y){v:Nat}(l:v=0\/∃ y,Y[v - 1]?=some y/\key y<key x)(m:Y.length<=v\/∃ y,Y[v]?=some y/\¬ key y<key x):bW key (x::Y)=Y.take v++(x::Y.drop v):=by
 have:=Mj (X:=[x]) (key:=key) (by simp[jQ]) d (u:=0) (v:=v) (.inl rfl) (.inr (by
  obtain h|⟨y,f,i⟩:=l
  .exact .inl h
  .exact .inr ⟨x,y,rfl,f,i⟩))
 simp only[JJ,uP,Ae,xX]at this;rw[this,AF (Is d v),AF];refine mS.2 ⟨λy n=>?_,Ir d v⟩;obtain⟨j,o,k⟩:=C3 n;have p:=(iU.1 k).1;obtain h|⟨t,f,i⟩:=m
 .omega
 .exact KV i (AY d f k o)
def X2{y : α}{X:List α}(d:jQ key X){u:Nat}(p:u=0\/∃ x,X[u - 1]?=some x/\¬ key y<key x)(o:X.length<=u\/∃ x,X[u]?=some x/\key y<key x):bW key (X++[y])=X.take u++(y::X.drop u):=by
 have:=Mj (Y:=[y]) (key:=key) d (by simp[jQ]) (u:=u) (v:=0) (by
  obtain h|⟨x,i,l⟩:=p
  .exact .inl h
  .exact .inr (.inr ⟨x,y,i,rfl,l⟩)) (.inr (.inl rfl))
 simp only[JJ,kY,Ae]at this;rw[this,AF (Is d u)]
 congr 1
 refine(IU ?_ λk=>?_).symm
 .refine mS.2 ⟨λx m=>?_,Ir d u⟩;obtain⟨j,n,f⟩:=C3 m;have t:=(iU.1 f).1;obtain h|⟨w,i,l⟩:=o
  .omega
  .have:=AY d i f n;intro hk;exact this (Ca hk l)
 .rw[xS,wB,xS];by_cases hk:key y=k
  .rw[aX hk,aX hk];have:oQ key k (X.drop u)=[]:=DX λx m e=>by
    obtain⟨j,n,f⟩:=C3 m;have t:=(iU.1 f).1;obtain h|⟨w,i,l⟩:=o
    .omega
    .have:=AY d i f n;rw[e,<- hk]at this;exact this l
   rw[this];rfl
  .rw[bD hk,bD hk];simp[oQ]
end
end Go.Ab
namespace Go.Ab
open Enc (enc)
attribute [local simp] iJ bP.aY
section
variable {α : Type} [Enc α]
def Jk(p q:Int)(d:0<=p+q)(h:p+q<=2000000):IntKind.i64.wrap (IntKind.i64.wrap (p+q) % 18446744073709551616 / 2)=(p+q) / 2:=by rw[cL (n:=p+q) (by omega) (by omega),Int.emod_eq_of_lt d (by omega)];exact cL (by omega) (by omega)
def yc2(P:List α)(u v : α)(R:List α):((P++(u::v::R)).set P.length v).set (P.length+1) u=P++(v::u::R):=by simp[List.set_append]
def Wm{I:SI}(hI:pK I)(ap:Enc.sz α = I.z)(aw:∀ x : α,(enc x).cells.all PV.one=true){key : α -> List Int}{cf:FuncId}{D : α -> Prop}(hD:∀ x y,D x->D y->∃ n:Int,Sp P cf [enc x,enc y] (.pure (.int .i64 n))/\(n<0 ↔ key x<key y))
  {A Y B l:List α} {x : α} (U:l=A++(x::(Y++B))) (bk:l.length<=1000000) (hY:jQ key Y) (dx:D x) (dY:∀ y∈Y,D y) {a m b:Nat} (ha:a=A.length) (hm:m=a+1) (hb:b=a+1+Y.length) {Q:Exit->St->Prop} {ks:List Kt}
  (X:∀ sl,Q .ret ⟨sl,[(bC,[some ⟨I.z,aK (A++(bW key (x::Y)++B))⟩]),(aO,[none])]⟩) :
  vm P 220 Q (.code (G5 I)::ks) ⟨[(0,.own bC 0 0 l.length),(1,.p (.int .i64 a)),(2,.p (.int .i64 m)),(3,.p (.int .i64 b)),(4,.p (.fn cf []))],[(bC,[some ⟨I.z,aK l⟩])]⟩:=by
 have K:∀ x : α,(enc x).sz=I.z:=λx=>by rw[Enc.ok,ap]
 have av:l.length=A.length+1+Y.length+B.length:=by rw[U];simp;omega
 have gx:l[a]?=some x:=by rw[U,ha];simp
 have gY:∀ i,i<Y.length->∃ y,Y[i]?=some y/\l[m+i]?=some y/\D y:=λi O=>by refine⟨Y[i],dO O,?_,dY _ (bU O)⟩;rw[U,qG (by omega),show m+i - A.length=i+1 by omega,List.getElem?_cons_succ,wN O,dO O]
 simp[G5]
 refine b6 (S:=λs:Nat × Nat=>aB [(0,.own bC 0 0 l.length),(1,.p (.int .i64 a)),(4,.p (.fn cf [])),(10,.p (.int .i64 (m+s.1:Nat))),(11,.p (.int .i64 (m+s.2:Nat)))] [(bC,⟨I.z,aK l⟩)])
  (I:=λs=>s.1<=s.2/\s.2<=Y.length/\(s.1=0\/∃ y,Y[s.1 - 1]?=some y/\key y<key x)/\(Y.length<=s.2\/∃ y,Y[s.2]?=some y/\¬ key y<key x)) (m:=λs=>s.2 - s.1) (0,Y.length)
  (aA.to [0,1,4,10,11] [((bC,0),bC)] (by simp[aB];omega)) ⟨vI _,dE _,.inl rfl,.inl (dE _)⟩ ?_
 rintro⟨i,j⟩ ⟨h1,h2,V,W⟩ R hn hr hx;simp only at h1 h2 V W;by_cases af:i<j
 .have o:((m+i:Nat):Int)<((m+j:Nat):Int):=by omega
  have hw:IntKind.i64.wrap (IntKind.i64.wrap ((m:Int)+i+(m+j)) % 18446744073709551616 / 2)=((m+(i+j) / 2:Nat):Int):=by rw[Jk _ _ (by omega) (by omega)];omega
  have c1:i<=(i+j) / 2/\(i+j) / 2<j:=by omega
  generalize (i+j) / 2=c at *
  obtain⟨y,N,y2,y3⟩:=gY c (by omega);obtain⟨n,al,J⟩:=hD y x y3 dx;have e1:IntKind.i64.wrap ((m:Int)+c+1)=(m:Int)+(c+1):=by rw[cL (by omega) (by omega)];omega
  simp[Lf,aB,af,o];rw[hw,kZ];refine⟨⟨by omega,by omega⟩,eD y2 ⟨by omega,eD gx ?_⟩⟩;refine bA al rfl ?_;by_cases d:n<0
  .simp[d];exact hn (c+1,j) _ (aA.to [0,1,4,10,11] [((bC,0),bC)] (by simp[aB,e1])) ⟨by simp only;omega,h2,.inr ⟨y,N,J.1 d⟩,W⟩ (by simp only;omega)
  .simp[d];exact hn (i,c) _ (aA.to [0,1,4,10,11] [((bC,0),bC)] (by simp[aB])) ⟨by simp only;omega,by simp only;omega,V,.inr ⟨y,N,λh=>d (J.2 h)⟩⟩ (by simp only;omega)
 .have ad:i=j:=by omega
  subst ad;have o:¬ ((m+i:Nat):Int)<((m+i:Nat):Int):=by omega
  have ao:=X1 hY (x:=x) (v:=i) V W;rw[ao]at X;simp[Lf,aB];refine hx _ _ ?_;simp;clear hn hr hx;have G:∀ k,(A++(Y.take k++(x::(Y.drop k++B)))).length=l.length:=λk=>by have:=congrArg List.length (oK k Y);rw[gQ]at this;simp only[gQ,qH]at this ⊢;omega
  refine b6 (S:=λs:List α × Nat=>aB [(0,.own bC 0 0 l.length),(10,.p (.int .i64 (m+i:Nat))),(13,.p (.int .i64 (a+s.2:Nat)))] [(bC,⟨I.z,aK s.1⟩)])
   (I:=λs=>s.2<=i/\s.1=A++(Y.take s.2++(x::(Y.drop s.2++B)))) (m:=λs=>i - s.2) (l,0) (aA.to [0,10,13] [((bC,0),bC)] (by simp[aB])) ⟨vI _,U⟩ ?_
  rintro⟨L,k⟩ ⟨hk,u⟩ R2 ag bo au;simp only at hk u;have bb:L.length=l.length:=by rw[u];exact G k
  have e3:IntKind.i64.wrap ((m:Int)+i - 1)=(a:Int)+i:=by rw[cL (by omega) (by omega)];omega
  have e4:IntKind.i64.wrap ((a:Int)+k+1)=(a:Int)+(k+1):=by rw[cL (by omega) (by omega)];omega
  by_cases F:k<i
  .obtain⟨y,N,_,_⟩:=gY k (by omega);have Z:Y.drop k=y::Y.drop (k+1):=by obtain⟨q1,q2⟩:=iU.1 N;rw[vJ q1,q2]
   have aq:Y.take (k+1)=Y.take k++[y]:=by obtain⟨q1,q2⟩:=iU.1 N;rw[ed q1,q2]
   have hP:(A++Y.take k).length=a+k:=by rw[gQ,fY];omega
   have f:L=(A++Y.take k)++(x::y::(Y.drop (k+1)++B)):=by rw[u,Z];simp
   have gz:L[a+k]?=some x:=by rw[f,<- hP];simp
   have gy:L[a+k+1]?=some y:=by rw[f,qG (by omega),show a+k+1 - (A++Y.take k).length=1 by omega];rfl
   have M:(L.set (a+k) y).set (a+k+1) x=A++(Y.take (k+1)++(x::(Y.drop (k+1)++B))):=by rw[f,<- hP,yc2,aq];simp
   have w:∀ s,aA s (aB [(0,.own bC 0 0 l.length),(10,.p (.int .i64 (m+i:Nat))),(13,.p (.int .i64 (a+(k+1):Nat)))] [(bC,⟨I.z,aK ((L.set (a+k) y).set (a+k+1) x)⟩)])->R2 .normal s:=λs hs=>
    ag ((L.set (a+k) y).set (a+k+1) x,k+1) s hs ⟨F,M⟩ (by simp only;omega)
   clear M f u;simp[Lg,aB,e3,e4,F];have t1:((a:Int)+k).toNat=a+k:=by omega
   have t2:((a:Int)+(k+1)).toNat=a+k+1:=by omega
   rw[t1,t2];have t:((aK L).set (a+k) (.p (enc y))).set (a+k+1) (.p (enc x))=aK ((L.set (a+k) y).set (a+k+1) x):=by simp[-gW,aK,ens,EX]
   refine⟨⟨by omega,by omega,by omega⟩,eD gy ⟨⟨by omega,by omega,by omega⟩,eD gz ⟨⟨by omega,by omega,by omega⟩,eD gz ⟨⟨K y,I.hz⟩,⟨by omega,by omega,by omega⟩,?_⟩⟩⟩⟩;rw[lM];refine eD (x:=.p (enc y)) ?_ ?_
   .rw[vK,bD (by omega)];simp[-gW,aK,ens,gy]
   rw[Fw];refine⟨⟨K x,I.hz⟩,?_⟩;rw[t];generalize (L.set (a+k) y).set (a+k+1) x=L2 at *
   simp[e4];exact w _ (aA.to [0,10,13] [((bC,0),bC)] (by simp[aB]))
  .have:k=i:=by omega
   subst this;have C:A++(Y.take k++(x::Y.drop k)++B)=L:=by rw[u];simp
   rw[C]at X;simp[Lg,aB,e3];refine au _ _ ?_;simp;exact X _
def Pl(P:List α)(u v : α)(R:List α):((P++(u::v::R)).set (P.length+1) u).set P.length v=P++(v::u::R):=by simp[List.set_append]
def Wn{I:SI}(hI:pK I)(av:Enc.sz α = I.z)(bo:∀ x : α,(enc x).cells.all PV.one=true){key : α -> List Int}{cf:FuncId}{D : α -> Prop}(hD:∀ x y,D x->D y->∃ n:Int,Sp P cf [enc x,enc y] (.pure (.int .i64 n))/\(n<0 ↔ key x<key y))
  {A X B l:List α} {y : α} (V:l=A++(X++(y::B))) (bt:l.length<=1000000) (hX:jQ key X) (dy:D y) (dX:∀ x∈X,D x) {a m b:Nat} (ha:a=A.length) (hm:m=a+X.length) (hb:b=m+1) {Q:Exit->St->Prop} {ks:List Kt}
  (hQ:∀ sl,Q .ret ⟨sl,[(bC,[some ⟨I.z,aK (A++(bW key (X++[y])++B))⟩]),(aO,[none])]⟩) :
  vm P 220 Q (.code (NT I)::ks) ⟨[(0,.own bC 0 0 l.length),(1,.p (.int .i64 a)),(2,.p (.int .i64 m)),(3,.p (.int .i64 b)),(4,.p (.fn cf []))],[(bC,[some ⟨I.z,aK l⟩])]⟩:=by
 have M:∀ x : α,(enc x).sz=I.z:=λx=>by rw[Enc.ok,av]
 have bk:l.length=A.length+X.length+1+B.length:=by rw[V];simp;omega
 have W:l[m]?=some y:=by rw[V,hm,ha,qG (by omega),show A.length+X.length - A.length=X.length by omega];simp
 have gX:∀ i,i<X.length->∃ x,X[i]?=some x/\l[a+i]?=some x/\D x:=λi U=>by refine⟨X[i],dO U,?_,dX _ (bU U)⟩;rw[V,qG (by omega),show a+i - A.length=i by omega,wN U,dO U]
 simp[NT]
 refine b6 (S:=λs:Nat × Nat=>aB [(0,.own bC 0 0 l.length),(2,.p (.int .i64 m)),(4,.p (.fn cf [])),(14,.p (.int .i64 (a+s.1:Nat))),(15,.p (.int .i64 (a+s.2:Nat)))] [(bC,⟨I.z,aK l⟩)])
  (I:=λs=>s.1<=s.2/\s.2<=X.length/\(s.1=0\/∃ x,X[s.1 - 1]?=some x/\¬ key y<key x)/\(X.length<=s.2\/∃ x,X[s.2]?=some x/\key y<key x)) (m:=λs=>s.2 - s.1) (0,X.length)
  (aA.to [0,2,4,14,15] [((bC,0),bC)] (by simp[aB];omega)) ⟨vI _,dE _,.inl rfl,.inl (dE _)⟩ ?_
 rintro⟨i,j⟩ ⟨h1,Y,Z,h4⟩ R hn hr hx;simp only at h1 Y Z h4;by_cases ao:i<j
 .have J:((a+i:Nat):Int)<((a+j:Nat):Int):=by omega
  have hw:IntKind.i64.wrap (IntKind.i64.wrap ((a:Int)+i+(a+j)) % 18446744073709551616 / 2)=((a+(i+j) / 2:Nat):Int):=by rw[Jk _ _ (by omega) (by omega)];omega
  have c1:i<=(i+j) / 2/\(i+j) / 2<j:=by omega
  generalize (i+j) / 2=c at *
  obtain⟨x,O,x2,x3⟩:=gX c (by omega);obtain⟨n,aq,K⟩:=hD y x dy x3;have e1:IntKind.i64.wrap ((a:Int)+c+1)=(a:Int)+(c+1):=by rw[cL (by omega) (by omega)];omega
  simp[Lh,aB,ao,J];rw[hw,kZ];refine⟨by omega,eD W ⟨⟨by omega,by omega⟩,eD x2 ?_⟩⟩;refine bA aq rfl ?_;by_cases d:n<0
  .simp[d];exact hn (i,c) _ (aA.to [0,2,4,14,15] [((bC,0),bC)] (by simp[aB])) ⟨by simp only;omega,by simp only;omega,Z,.inr ⟨x,O,K.1 d⟩⟩ (by simp only;omega)
  .simp[d];exact hn (c+1,j) _ (aA.to [0,2,4,14,15] [((bC,0),bC)] (by simp[aB,e1])) ⟨by simp only;omega,Y,.inr ⟨x,O,λh=>d (K.2 h)⟩,h4⟩ (by simp only;omega)
 .have af:i=j:=by omega
  subst af;have au:=X2 hX (y:=y) (u:=i) Z h4;rw[au]at hQ;simp[Lh,aB];refine hx _ _ ?_;simp;clear hn hr hx;have G:∀ k,(A++(X.take k++(y::(X.drop k++B)))).length=l.length:=λk=>by have:=congrArg List.length (oK k X);rw[gQ]at this;simp only[gQ,qH]at this ⊢;omega
  refine b6 (S:=λs:List α × Nat=>aB [(0,.own bC 0 0 l.length),(14,.p (.int .i64 (a+i:Nat))),(17,.p (.int .i64 (a+s.2:Nat)))] [(bC,⟨I.z,aK s.1⟩)])
   (I:=λs=>i<=s.2/\s.2<=X.length/\s.1=A++(X.take s.2++(y::(X.drop s.2++B)))) (m:=λs=>s.2) (l,X.length) (aA.to [0,14,17] [((bC,0),bC)] (by simp[aB,hm])) ⟨Y,dE _,by rw[V];simp⟩ ?_
  rintro⟨L,k⟩ ⟨hk,ag,t⟩ R2 ap bu bb;simp only at hk ag t;have br:L.length=l.length:=by rw[t];exact G k
  by_cases al:i<k
  .obtain⟨p,rfl⟩:∃ p,k=p+1:=⟨k - 1,by omega⟩;have e4:IntKind.i64.wrap ((a:Int)+(p+1) - 1)=(a:Int)+p:=by rw[cL (by omega) (by omega)];omega
   obtain⟨x,O,_,_⟩:=gX p (by omega);have ad:X.drop p=x::X.drop (p+1):=by obtain⟨q1,q2⟩:=iU.1 O;rw[vJ q1,q2]
   have aw:X.take (p+1)=X.take p++[x]:=by obtain⟨q1,q2⟩:=iU.1 O;rw[ed q1,q2]
   have hP:(A++X.take p).length=a+p:=by rw[gQ,fY];omega
   have f:L=(A++X.take p)++(x::y::(X.drop (p+1)++B)):=by rw[t,aw];simp
   have gz:L[a+p]?=some x:=by rw[f,<- hP];simp
   have gy:L[a+p+1]?=some y:=by rw[f,qG (by omega),show a+p+1 - (A++X.take p).length=1 by omega];rfl
   have N:(L.set (a+p+1) x).set (a+p) y=A++(X.take p++(y::(X.drop p++B))):=by rw[f,<- hP,Pl,ad];simp
   have w:∀ s,aA s (aB [(0,.own bC 0 0 l.length),(14,.p (.int .i64 (a+i:Nat))),(17,.p (.int .i64 (a+p:Nat)))] [(bC,⟨I.z,aK ((L.set (a+p+1) x).set (a+p) y)⟩)])->R2 .normal s:=λs hs=>
    ap ((L.set (a+p+1) x).set (a+p) y,p) s hs ⟨by simp only;omega,by simp only;omega,N⟩ (by simp only;omega)
   clear N f t;have F:(i:Int)<(p:Int)+1:=by omega
   simp[Li,aB,e4,al,F];have t1:((a:Int)+p).toNat=a+p:=by omega
   have t2:((a:Int)+(p+1)).toNat=a+p+1:=by omega
   rw[t1,t2];have o:((aK L).set (a+p+1) (.p (enc x))).set (a+p) (.p (enc y))=aK ((L.set (a+p+1) x).set (a+p) y):=by simp[-gW,aK,ens,EX]
   refine⟨⟨by omega,by omega,by omega⟩,eD gz ⟨⟨by omega,by omega,by omega⟩,eD gy ⟨⟨by omega,by omega,by omega⟩,eD gy ⟨⟨M x,I.hz⟩,⟨by omega,by omega,by omega⟩,?_⟩⟩⟩⟩;rw[lM];refine eD (x:=.p (enc x)) ?_ ?_
   .rw[vK,bD (by omega)];simp[-gW,aK,ens,gz]
   rw[Fw];refine⟨⟨M y,I.hz⟩,?_⟩;rw[o];generalize (L.set (a+p+1) x).set (a+p) y=L2 at *
   simp[e4];exact w _ (aA.to [0,14,17] [((bC,0),bC)] (by simp[aB]))
  .have:k=i:=by omega
   subst this;have C:A++(X.take k++(y::X.drop k)++B)=L:=by rw[t];simp
   rw[C]at hQ;simp[Li,aB];refine bb _ _ ?_;simp;exact hQ _
end
section
variable {α : Type} [Enc α]
theorem Nn{I:SI}(hI:pK I)(G:Enc.sz α = I.z)(o:∀ x : α,(enc x).cells.all PV.one=true){key : α -> List Int}{cf:FuncId}{D : α -> Prop}(hD:∀ x y,D x->D y->∃ n:Int,Sp P cf [enc x,enc y] (.pure (.int .i64 n))/\(n<0 ↔ key x<key y)) :
  ∀ (N:Nat) (A X Y B l:List α) (a m b:Nat),X.length+Y.length<=N->l=A++(X++(Y++B))->l.length<=1000000->1<=X.length->1<=Y.length->jQ key X->jQ key Y->(∀ x∈X,D x)->(∀ x∈Y,D x)->a=A.length->m=a+X.length->b=m+Y.length ->
  gO P I.sm [.sl (ens l),.int .i64 a,.int .i64 m,.int .i64 b,.fn cf []] 0 I.z (ens (A++(bW key (X++Y)++B))) (.pure (.bM []))
 | 0,A,X,Y,B,l,a,m,b,h,_,_,h1,_,_,_,_,_,_,_,_=>by omega
 | N+1,A,X,Y,B,l,a,m,b,hN,hl,ao,dk,dl,hX,hY,dX,dY,ha,hm,hb=>by
  have ih:=Nn hI G o hD N;have af:(A++(bW key (X++Y)++B)).length=l.length:=by rw[hl];simp[(gB _).2.1];omega
  have dd:l.length=A.length+X.length+Y.length+B.length:=by rw[hl];simp;omega
  have e1:IntKind.i64.wrap ((m:Int) - a)=(X.length:Int):=by rw[cL (by omega) (by omega)];omega
  have e2:IntKind.i64.wrap ((b:Int) - m)=(Y.length:Int):=by rw[cL (by omega) (by omega)];omega
  refine gO.cE hI.sm (by simp) rfl (by simp[af]) ?_;by_cases ap:X.length=1
  .obtain⟨x,rfl⟩:=Jx.1 ap;simp[Dz,e1];exact Wm hI G o hD (A:=A) (x:=x) (Y:=Y) (B:=B) hl ao hY (dX x (by simp)) dY ha hm (by simp at hm;omega) λsl=>by simp
  by_cases bu:Y.length=1
  .obtain⟨y,rfl⟩:=Jx.1 bu;have Z:¬ (X.length:Int)=1:=by omega
   simp[Dz,e1,e2,ap,Z];exact Wn hI G o hD (A:=A) (X:=X) (y:=y) (B:=B) hl ao hX (dY y (by simp)) dX ha hm hb λsl=>by simp
  have Z:¬ (X.length:Int)=1:=by omega
  have bx:¬ (Y.length:Int)=1:=by omega
  have hw:IntKind.i64.wrap (IntKind.i64.wrap ((a:Int)+b) % 18446744073709551616 / 2)=(((a+b) / 2:Nat):Int):=by rw[Jk _ _ (by omega) (by omega)];omega
  have df:2*((a+b) / 2)<=a+b/\a+b<=2*((a+b) / 2)+1:=by omega
  simp[Dz,UG,e1,e2,ap,Z,bu,bx];rw[hw];generalize (a+b) / 2=mid at *
  have e3:IntKind.i64.wrap ((mid:Int)+m)=((mid+m:Nat):Int):=cT;rw[e3]
  refine Np (S:=λs:Nat × Nat=>aB [(0,.own bC 0 0 l.length),(1,.p (.int .i64 a)),(2,.p (.int .i64 m)),(3,.p (.int .i64 b)),(4,.p (.fn cf [])),(18,.p (.int .i64 mid)),(19,.p (.int .i64 (mid+m:Nat))),(20,.p (.int .i64 s.1)),(21,.p (.int .i64 s.2))] [(bC,⟨I.z,aK l⟩)])
   (I:=λs=>s.1<=s.2/\(s.1=a\/s.1+b=mid+m)/\a<=s.1/\mid+m<=s.1+b/\(s.2=m\/s.2=mid)/\s.2<=m/\s.2<=mid) ?_ ?_
  .intro R hn hr hx;simp;refine⟨λdp=>?_,λds=>?_⟩
   .have e4:IntKind.i64.wrap ((mid:Int)+m - b)=((mid+m - b:Nat):Int):=by clear e1 e2 hw e3;rw[cL (by omega) (by omega)];omega
    rw[e4];exact hn (mid+m - b,mid) _ (aA.to [0,1,2,3,4,18,19,20,21] [((bC,0),bC)] (by simp[aB])) ⟨by simp only;omega,.inr (by simp only;omega),by simp only;omega,by simp only;omega,.inr rfl,by simp only;omega,dE _⟩
   .exact hn (a,m) _ (aA.to [0,1,2,3,4,18,19,20,21] [((bC,0),bC)] (by simp[aB])) ⟨by simp only;omega,.inl rfl,dE _,by simp only;omega,.inl rfl,dE _,by simp only;omega⟩
  rintro⟨s0,r0⟩ ⟨k1,k2,k3,k4,k5,k6,k7⟩;simp only at k1 k2 k3 k4 k5 k6 k7;have e5:IntKind.i64.wrap ((mid:Int)+m - 1)=((mid+m - 1:Nat):Int):=by clear e1 e2 hw e3;rw[cL (by omega) (by omega)];omega
  have gX:∀ i,a<=i->i<m->∃ x,X[i - a]?=some x/\l[i]?=some x/\D x:=λi h1 h2=>by
   have hi:i - a<X.length:=by omega
   refine⟨X[i - a],dO hi,?_,dX _ (bU hi)⟩;rw[hl,qG (by omega),show i - A.length=i - a by omega,wN hi,dO hi]
  have gY:∀ i,i<Y.length->∃ y,Y[i]?=some y/\l[m+i]?=some y/\D y:=λi hi=>by refine⟨Y[i],dO hi,?_,dY _ (bU hi)⟩;rw[hl,qG (by omega),qG (by omega),show m+i - A.length - X.length=i by omega,wN hi,dO hi]
  simp[UF,aB];rw[e5]
  refine b6 (S:=λs:Nat × Nat=>aB [(0,.own bC 0 0 l.length),(1,.p (.int .i64 a)),(2,.p (.int .i64 m)),(3,.p (.int .i64 b)),(4,.p (.fn cf [])),(18,.p (.int .i64 mid)),(19,.p (.int .i64 (mid+m:Nat))),(20,.p (.int .i64 s.1)),(21,.p (.int .i64 s.2)),(22,.p (.int .i64 (mid+m - 1:Nat)))] [(bC,⟨I.z,aK l⟩)])
   (I:=λs=>s0<=s.1/\s.1<=s.2/\s.2<=r0/\(s.1=s0\/∃ x y,X[s.1 - 1 - a]?=some x/\Y[mid - s.1]?=some y/\¬ key y<key x)/\(s.2=r0\/∃ x y,X[s.2 - a]?=some x/\Y[mid - 1 - s.2]?=some y/\key y<key x)) (m:=λs=>s.2 - s.1) (s0,r0)
   (aA.to [0,1,2,3,4,18,19,20,21,22] [((bC,0),bC)] (by simp[aB])) ⟨dE _,k1,dE _,.inl rfl,.inl rfl⟩ ?_
  rintro⟨i,j⟩ ⟨h1,h2,h3,h4,h5⟩ R hn hr hx;simp only at h1 h2 h3 h4 h5;by_cases cw:i<j
  .have bk:(i:Int)<(j:Int):=by omega
   have bt:IntKind.i64.wrap (IntKind.i64.wrap ((i:Int)+j) % 18446744073709551616 / 2)=(((i+j) / 2:Nat):Int):=by rw[Jk _ _ (by omega) (by omega)];omega
   have Q:i<=(i+j) / 2/\(i+j) / 2<j:=by omega
   generalize (i+j) / 2=c at *
   obtain⟨x,x1,x2,x3⟩:=gX c (by omega) (by omega);obtain⟨y,y1,y2,y3⟩:=gY (mid - 1 - c) (by omega);rw[show m+(mid - 1 - c)=mid+m - 1 - c by omega]at y2;obtain⟨n,cx,bo⟩:=hD y x y3 x3;have e6:=aZ c;have e7:IntKind.i64.wrap (((mid+m - 1:Nat):Int) - c)=((mid+m - 1 - c:Nat):Int):=by clear e1 e2 e3 e5 e6 bt;rw[cL (by omega) (by omega)];omega
   simp[Lj,aB,cw,bk];rw[bt,e7];simp only[kZ];refine⟨⟨by omega,by omega⟩,eD y2 ⟨⟨by omega,by omega⟩,eD x2 ?_⟩⟩;refine bA cx rfl ?_;by_cases K:n<0
   .simp[K];exact hn (i,c) _ (aA.to [0,1,2,3,4,18,19,20,21,22] [((bC,0),bC)] (by simp[aB])) ⟨h1,by simp only;omega,by simp only;omega,h4,.inr ⟨x,y,x1,y1,bo.1 K⟩⟩ (by simp only;omega)
   .simp[K];exact hn (c+1,j) _ (aA.to [0,1,2,3,4,18,19,20,21,22] [((bC,0),bC)] (by simp[aB,e6])) ⟨by simp only;omega,by simp only;omega,h3,.inr ⟨x,y,x1,by rw[<- y1];congr 1;simp only;omega,λh=>K (bo.2 h)⟩,h5⟩ (by simp only;omega)
  .have cv:i=j:=by omega
   subst cv;clear hn hr;have br:=Mj hX hY (u:=i - a) (v:=mid - i) (by
    obtain h|⟨x,y,q1,q2,q3⟩:=h4
    .obtain k|k:=k2
     .exact .inl (by omega)
     .exact .inr (.inl (by omega))
    .exact .inr (.inr ⟨x,y,by rw[<- q1];congr 1;omega,q2,q3⟩)) (by
    obtain h|⟨x,y,q1,q2,q3⟩:=h5
    .obtain k|k:=k5
     .exact .inl (by omega)
     .exact .inr (.inl (by omega))
    .exact .inr (.inr ⟨x,y,q1,by rw[<- q2];congr 1;omega,q3⟩))
   simp[Lj,aB];refine hx _ _ ?_;clear hx;simp[UE];have e8:IntKind.i64.wrap ((mid:Int)+m - i)=((mid+m - i:Nat):Int):=by clear e1 e2 hw e3 e5;rw[cL (by omega) (by omega)];omega
   rw[e8];have av:X=X.take (i - a)++X.drop (i - a):=(oK _ _).symm;have bb:Y=Y.take (mid - i)++Y.drop (mid - i):=(oK _ _).symm;have dx:(X.take (i - a)).length=i - a:=by rw[fY];omega
   have dy:(X.drop (i - a)).length=m - i:=by rw[lp];omega
   have ea:(Y.take (mid - i)).length=mid - i:=by rw[fY];omega
   have cy:(Y.drop (mid - i)).length=b - (mid+m - i):=by rw[lp];omega
   have ca:=Is hX (i - a);have cc:=Ir hX (i - a);have ce:=Is hY (mid - i);have cm:=Ir hY (mid - i);have co:∀ x∈X.take (i - a),D x:=λx h=>dX x (iC h);have cp:∀ x∈X.drop (i - a),D x:=λx h=>dX x (kD h);have cs:∀ x∈Y.take (mid - i),D x:=λx h=>dY x (iC h);have ct:∀ x∈Y.drop (mid - i),D x:=λx h=>dY x (kD h);rw[br];have O:l=A++(X.take (i - a)++(X.drop (i - a)++(Y.take (mid - i)++(Y.drop (mid - i)++B)))):=by
    rw[hl];conv=>lhs;rw[av,bb]
    simp only[sI]
   clear br av bb hl af gX gY h4 h5 e5 e8;generalize X.take (i - a)=t at *
   generalize X.drop (i - a)=w at *
   generalize Y.take (mid - i)=f at *
   generalize Y.drop (mid - i)=C at *
   obtain⟨en,cu⟩:∃ en,en=mid+m - i:=⟨_,rfl⟩;rw[<- cu]at cy ⊢;have aq:(A++(t++(f++(w++(C++B))))).length=l.length:=by rw[O];simp;omega
   have cn:(A++(bW key (t++f)++(w++(C++B)))).length=l.length:=by rw[O];simp[(gB _).2.1];omega
   have cz:(A++(bW key (t++f)++(bW key (w++C)++B))).length=l.length:=by rw[O];simp[(gB _).2.1];omega
   refine Np (S:=λL:List α=>aB [(0,.own bC 0 0 l.length),(1,.p (.int .i64 a)),(3,.p (.int .i64 b)),(4,.p (.fn cf [])),(18,.p (.int .i64 mid)),(20,.p (.int .i64 i)),(24,.p (.int .i64 en))] [(bC,⟨I.z,aK L⟩)])
    (I:=λL=>L=A++(t++(f++(w++(C++B))))) ?_ ?_
   .intro R hn hr hx;have d:∀ L:List α,L=A++(t++(f++(w++(C++B))))->∀ s,aA s (aB [(0,.own bC 0 0 l.length),(1,.p (.int .i64 a)),(3,.p (.int .i64 b)),(4,.p (.fn cf [])),(18,.p (.int .i64 mid)),(20,.p (.int .i64 i)),(24,.p (.int .i64 en))] [(bC,⟨I.z,aK L⟩)])->R .normal s:=λL J s hs=>hn L s hs J;by_cases Q:i<m
    .by_cases c2:m<en
     .have ag:=ZU hI G o cf (A++t) w f (C++B) l (by rw[O];simp) ao (by omega) (by omega) i m en (by simp;omega) (by simp;omega) (by simp;omega);have W:A++t++(f++(w++(C++B)))=A++(t++(f++(w++(C++B)))):=by simp
      rw[W]at ag;have d:=d _ rfl;generalize A++(t++(f++(w++(C++B))))=L2 at *
      simp[Q,c2];refine qV ag (by simp) rfl rfl (by simp) (by simp) (by simp[aq]) rfl (jF _ _ G) (cells_one o _) (by simp) ?_;simp;exact d _ (aA.to [0,1,3,4,18,20,24] [((bC,0),bC)] (by simp[aB]))
     .have V:f=[]:=q9 (by omega);simp[Q,c2];exact d l (by rw[O,V];simp) _ (aA.to [0,1,3,4,18,20,24] [((bC,0),bC)] (by simp[aB]))
    .have U:w=[]:=q9 (by omega);simp[Q];exact d l (by rw[O,U];simp) _ (aA.to [0,1,3,4,18,20,24] [((bC,0),bC)] (by simp[aB]))
   rintro L J;simp[UD,aB];have F:L.length=l.length:=by rw[J];exact aq
   have ad:L.take l.length=L:=by rw[<- F];exact kK
   refine Np (S:=λL:List α=>aB [(0,.own bC 0 0 l.length),(3,.p (.int .i64 b)),(4,.p (.fn cf [])),(18,.p (.int .i64 mid)),(24,.p (.int .i64 en))] [(bC,⟨I.z,aK L⟩)])
    (I:=λL=>L=A++(bW key (t++f)++(w++(C++B)))) ?_ ?_
   .intro R hn hr hx;have d:∀ L:List α,L=A++(bW key (t++f)++(w++(C++B)))->∀ s,aA s (aB [(0,.own bC 0 0 l.length),(3,.p (.int .i64 b)),(4,.p (.fn cf [])),(18,.p (.int .i64 mid)),(24,.p (.int .i64 en))] [(bC,⟨I.z,aK L⟩)])->R .normal s:=λL J s hs=>hn L s hs J;by_cases Q:a<i
    .by_cases c2:i<mid
     .have M:=ih A t f (w++(C++B)) L a i mid (by omega) J (by omega) (by omega) (by omega) ca ce co cs ha (by omega) (by omega);have d:=d _ rfl;generalize A++(bW key (t++f)++(w++(C++B)))=L2 at *
      simp[Q,c2];refine qV M (by simp[F,ad]) rfl rfl (by simp) (by simp[F]) (by simp[cn]) rfl (jF _ _ G) (cells_one o _) (by simp) ?_;simp;exact d _ (aA.to [0,3,4,18,24] [((bC,0),bC)] (by simp[aB]))
     .have V:f=[]:=q9 (by omega);subst V;simp[Q,c2];exact d L (by rw[J,kY,AF ca];simp) _ (aA.to [0,3,4,18,24] [((bC,0),bC)] (by simp[aB]))
    .have au:t=[]:=q9 (by omega);subst au;simp[Q];exact d L (by rw[J];simp only[uP];rw[AF ce]) _ (aA.to [0,3,4,18,24] [((bC,0),bC)] (by simp[aB]))
   clear J F ad aq;clear L;rintro L J;have F:L.length=l.length:=by rw[J];exact cn
   have ad:L.take l.length=L:=by rw[<- F];exact kK
   have W:A++(bW key (t++f)++bW key (w++C)++B)=A++(bW key (t++f)++(bW key (w++C)++B)):=by simp
   try rw[W]
   by_cases Q:mid<en
   .by_cases c2:en<b
    .have M:=ih (A++bW key (t++f)) w C B L mid en b (by omega) (by rw[J];simp) (by omega) (by omega) (by omega) cc cm cp ct (by simp[(gB _).2.1];omega) (by omega) (by omega);have al:A++bW key (t++f)++(bW key (w++C)++B)=A++(bW key (t++f)++(bW key (w++C)++B)):=by simp
     rw[al]at M;generalize A++(bW key (t++f)++(bW key (w++C)++B))=L2 at *
     simp[aB,Q,c2];refine qV M (by simp[F,ad]) rfl rfl (by simp) (by simp[F]) (by simp[cz]) rfl (jF _ _ G) (cells_one o _) (by simp) ?_;simp
    .have aw:C=[]:=q9 (by omega);subst aw;have:A++(bW key (t++f)++(bW key (w++[])++B))=L:=by rw[J,kY,AF cc];simp
     rw[this];simp[aB,Q,c2]
   .have U:w=[]:=q9 (by omega);subst U;have:A++(bW key (t++f)++(bW key ([]++C)++B))=L:=by rw[J];simp only[uP];rw[AF cm]
    rw[this];simp[aB,Q]
end
end Go.Ab
namespace Go.Ab
section
variable {α : Type} {key : α -> List Int}
def vp(key : α -> List Int)(s:Nat):Nat->List α -> List α
 | 0,_=>[]
 | n+1,l=>if l.length<=s then bW key l else bW key (l.take s)++vp key s n (l.drop s)
def ab(key : α -> List Int)(s:Nat)(l:List α):List α := vp key s l.length l
theorem S6:bW key ([]:List α)=[]:=rfl
theorem RU{s:Nat}(hs:1<=s):∀ (n m:Nat) (l:List α),l.length<=n->l.length<=m->vp key s n l=vp key s m l
 | 0,0,l,_,_=>rfl
 | 0,m+1,l,h,_=>by
  have:l=[]:=q9 (by omega);subst this;simp[vp,S6]
 | n+1,0,l,_,h=>by
  have:l=[]:=q9 (by omega);subst this;simp[vp,S6]
 | n+1,m+1,l,d,f=>by
  simp only[vp];split
  .rfl
  .rw[RU hs n m (l.drop s) (by rw[lp];omega) (by rw[lp];omega)]
theorem zec{s:Nat}{l:List α}(h:l.length<=s):ab key s l=bW key l:=by
 unfold ab;cases l with
 | nil=>rfl
 | cons x r=>simp only[List.length_cons,vp];rw[if_pos (by simpa using h)]
def Jf{s:Nat}(hs:1<=s){l:List α}(h:s<l.length):ab key s l=bW key (l.take s)++ab key s (l.drop s):=by unfold ab;obtain⟨n,d⟩:∃ n,l.length=n+1:=⟨l.length - 1,by omega⟩;rw[d];simp only[vp];rw[bD (by omega),RU hs n (l.drop s).length (l.drop s) (by rw[lp];omega) (dE _)]
def Kk{s:Nat}(hs:1<=s){l:List α}(h:s<=l.length):ab key s l=bW key (l.take s)++ab key s (l.drop s):=by
 obtain h|h:=Nat.lt_or_eq_of_le h
 .exact Jf hs h
 .rw[zec (by omega),eZ (by omega),xY (by omega)];simp[ab,vp]
theorem S7{s:Nat}(hs:1<=s):∀ (n:Nat) (l:List α),l.length<=n->(ab key s l).length=l.length/\∀ x,x∈ab key s l ↔ x∈l
 | 0,l,h=>by
  have:l=[]:=q9 (by omega);subst this;simp[ab,vp]
 | n+1,l,h=>by
  by_cases d:l.length<=s
  .rw[zec d];exact(gB l).2
  .rw[Jf hs (by omega)];obtain⟨f,i⟩:=S7 hs n (l.drop s) (by rw[lp];omega);obtain⟨_,j,k⟩:=gB (key:=key) (l.take s);refine⟨?_,λx=>?_⟩
   .have:=congrArg List.length (oK s l);rw[gQ]at this;rw[gQ,f,j];exact this
   .rw[dN,i,k,<- List.mem_append,oK]
def zH{s:Nat}(hs:1<=s)(l:List α):(ab key s l).length=l.length:=(S7 hs _ l (dE _)).1
theorem Je{s:Nat}(hs:1<=s):∀ (n:Nat) (u v:List α),u.length=n*s->ab key s (u++v)=ab key s u++ab key s v
 | 0,u,v,h=>by
  have:u=[]:=List.eq_nil_of_length_eq_zero (by simpa using h);subst this;simp[ab,vp]
 | n+1,u,v,h=>by rw[Ah]at h;rw[Kk hs (l:=u++v) (by simp;omega),Kk hs (l:=u) (by omega),De (by omega),E7 (by omega),Je hs n (u.drop s) v (by rw[lp];omega),sI]
def RW{s:Nat}(hs:1<=s){n a:Nat}{l:List α}(d:a=n*s)(h:a+s<=l.length):ab key s (l.take (a+s))=ab key s (l.take a)++bW key ((l.drop a).take s):=by
 have e:l.take (a+s)=l.take a++(l.drop a).take s:=by rw[List.take_add]
 rw[e,Je hs n _ _ (by rw[fY];omega),zec (l:=(l.drop a).take s) (by rw[fY];omega)]
def Zl{s:Nat}(hs:1<=s){l:List α}(f:s<l.length):ab key s l=bW key (l.take s)++(bW key ((l.drop s).take s)++ab key s (l.drop (2*s))):=by
 rw[Jf hs f]
 congr 1
 by_cases d:s<=(l.drop s).length
 .rw[Kk hs d,uQ,show s+s=2*s by omega]
 .rw[zec (by omega),eZ (by omega),xY (show l.length<=2*s by rw[lp]at d;omega)];simp[ab,vp]
end
end Go.Ab
namespace Go.Ab
open Enc (enc)
attribute [local simp] iJ bP.aY
section
variable {α : Type} [Enc α]
def Tp{I:SI}(hI:pK I)(av:Enc.sz α = I.z)(bk:∀ x : α,(enc x).cells.all PV.one=true){key : α -> List Int}{cf:FuncId}{D : α -> Prop}(hD:∀ x y,D x->D y->∃ n:Int,Sp P cf [enc x,enc y] (.pure (.int .i64 n))/\(n<0 ↔ key x<key y))
  (k l S L0:List α) (C:L0=k++(l++S)) (bt:L0.length<=1000000) (dl:∀ x∈l,D x) (a b:Nat) (ha:a=k.length) (hb:b=a+l.length) :
  gO P I.ins [.sl (ens L0),.int .i64 a,.int .i64 b,.fn cf []] 0 I.z (ens (k++(bW key l++S))) (.pure (.bM [])):=by
 have ad:∀ x : α,(enc x).sz=I.z:=λx=>by rw[Enc.ok,av]
 have W:(k++(bW key l++S)).length=L0.length:=by rw[C];simp[(gB l).2.1]
 have bb:L0.length=k.length+l.length+S.length:=by rw[C];simp;omega
 have al:=aZ a;refine gO.cE hI.ins (by simp) rfl (by simp[W]) ?_;simp[Fs,al]
 refine b6 (S:=λs:List α × Nat=>aB [(0,.own bC 0 0 L0.length),(1,.p (.int .i64 a)),(2,.p (.int .i64 b)),(3,.p (.fn cf [])),(8,.p (.int .i64 (a+s.2:Nat)))] [(bC,⟨I.z,aK s.1⟩)]) (I:=λs=>1<=s.2/\s.1=k++(uD key l s.2++S)) (m:=λs=>l.length+1 - s.2) (L0,1)
  (aA.to [0,1,2,3,8] [((bC,0),bC)] (by simp[aB])) ⟨dE _,by rw[QL,C]⟩ ?_
 rintro⟨L1,i⟩ ⟨h1,o⟩ R hn hr hx;simp only at h1 o;have aw:L1.length=L0.length:=by rw[o,gQ,gQ,YH];omega
 by_cases hi:i<l.length;rotate_left
 .have br:¬ ((a+i:Nat):Int)<(b:Int):=by omega
  have J:¬ (a:Int)+i<(b:Int):=by omega
  rw[PW (by omega)]at o;rw[<- o]at *
  simp[L6,aB,J];refine hx _ _ ?_;simp
 have e1:IntKind.i64.wrap ((a:Int)+i+1)=(a:Int)+(i+1):=by rw[cL (by omega) (by omega)];omega
 have J:(a:Int)+i<(b:Int):=by omega
 have M:=gB (key:=key) (l.take i);have af:(bW key (l.take i)).length=i:=by rw[M.2.1];simp;omega
 have w:∀ L2:List α,L2=k++(uD key l (i+1)++S)->∀ s,aA s (aB [(0,.own bC 0 0 L0.length),(1,.p (.int .i64 a)),(2,.p (.int .i64 b)),(3,.p (.fn cf [])),(8,.p (.int .i64 (a+(i+1):Nat)))] [(bC,⟨I.z,aK L2⟩)])->R .normal s:=λL2 h2 s hs=>
  hn (L2,i+1) s hs ⟨by simp only;omega,h2⟩ (by simp only;omega)
 simp[L6,aB,J]
 refine b6 (S:=λx:List α × Nat=>aB [(0,.own bC 0 0 L0.length),(1,.p (.int .i64 a)),(2,.p (.int .i64 b)),(3,.p (.fn cf [])),(8,.p (.int .i64 (a+i:Nat))),(9,.p (.int .i64 (a+x.2:Nat)))] [(bC,⟨I.z,aK x.1⟩)])
  (I:=λx=>∃ A B,x.1=k++(A++(l[i]::(B++(l.drop (i+1)++S))))/\x.2=A.length/\A++B=bW key (l.take i)/\∀ b∈B,key l[i]<key b) (m:=λx=>x.2) (L1,i)
  (aA.to [0,1,2,3,8,9] [((bC,0),bC)] (by simp[aB])) ⟨bW key (l.take i),[],by rw[o,PX hi];simp only[sI,xX,uP],af.symm,by simp,by simp⟩ ?_
 rintro⟨L,j⟩ ⟨A,B,U,V,f,hB⟩ R2 ap bu ag;simp only at U V;have u:A.length+B.length=i:=by rw[<- List.length_append,f,af]
 have bo:L.length=L0.length:=by rw[U];simp;omega
 have hm:∀ y,y∈A++B->D y:=λy O=>by rw[f,M.2.2]at O;exact dl y (iC O)
 obtain rfl|⟨d,z,rfl⟩:=B' A
 .simp at V;subst V;simp[L5,aB];refine ag _ _ ?_;simp[e1];refine w L ?_ _ (aA.to [0,1,2,3,8] [((bC,0),bC)] (by simp[aB]));rw[I0 hi,<- f,FK hB (by simp),U];simp
 .simp only[xV]at V U f u hm;simp at V u;subst V;have F:L=(k++d)++(z::l[i]::(B++(l.drop (i+1)++S))):=by rw[U];simp
  have hP:(k++d).length=a+d.length:=by simp;omega
  have Q:L[a+d.length]?=some z:=by rw[F,<- hP];simp
  have N:L[a+d.length+1]?=some l[i]:=by rw[F,qG (by omega),show a+d.length+1 - (k++d).length=1 by omega];rfl
  obtain⟨n,aq,X⟩:=hD l[i] z (dl _ (bU hi)) (hm z (by simp));have e3:IntKind.i64.wrap ((a:Int)+(d.length+1) - 1)=(a:Int)+d.length:=by rw[cL (by omega) (by omega)];omega
  have t1:((a:Int)+d.length).toNat=a+d.length:=by omega
  have t2:((a:Int)+(d.length+1)).toNat=a+d.length+1:=by omega
  have ao:(a:Int)<(a:Int)+(d.length+1):=by omega
  simp[L5,aB,e3,t1,t2,ao];refine⟨⟨by omega,by omega,by omega⟩,eD N ⟨⟨by omega,by omega,by omega⟩,eD Q ?_⟩⟩;refine bA aq rfl ?_;by_cases t:n<0
  .have K:((aK L).set (a+d.length+1) (.p (enc z))).set (a+d.length) (.p (enc l[i]))=aK ((L.set (a+d.length+1) z).set (a+d.length) l[i]):=by simp[-gW,aK,ens,EX]
   have au:(L.set (a+d.length+1) z).set (a+d.length) l[i]=k++(d++(l[i]::((z::B)++(l.drop (i+1)++S)))):=by rw[F,<- hP,Pl];simp
   have G:∀ s,aA s (aB [(0,.own bC 0 0 L0.length),(1,.p (.int .i64 a)),(2,.p (.int .i64 b)),(3,.p (.fn cf [])),(8,.p (.int .i64 (a+i:Nat))),(9,.p (.int .i64 (a+d.length:Nat)))] [(bC,⟨I.z,aK ((L.set (a+d.length+1) z).set (a+d.length) l[i])⟩)])->R2 .normal s:=λs hs=>
    ap ((L.set (a+d.length+1) z).set (a+d.length) l[i],d.length) s hs ⟨d,z::B,au,rfl,by rw[<- f];simp,λb hb=>by
     obtain rfl|hb:=cI.1 hb
     .exact X.1 t
     .exact hB b hb⟩ (by simp)
   simp[t,e3,t1,t2];refine⟨⟨by omega,by omega,by omega⟩,eD Q ⟨⟨by omega,by omega,by omega⟩,eD N ⟨⟨by omega,by omega,by omega⟩,eD N ⟨⟨ad z,I.hz⟩,⟨by omega,by omega,by omega⟩,?_⟩⟩⟩⟩;rw[lM];refine eD (x:=.p (enc z)) ?_ ?_
   .rw[vK,bD (by omega)];simp[-gW,aK,ens,Q]
   rw[Fw];refine⟨⟨ad _,I.hz⟩,?_⟩;rw[K];generalize (L.set (a+d.length+1) z).set (a+d.length) l[i]=L3 at *
   simp[e3];exact G _ (aA.to [0,1,2,3,8,9] [((bC,0),bC)] (by simp[aB]))
  .simp[t];refine ag _ _ ?_;simp[e1];refine w L ?_ _ (aA.to [0,1,2,3,8] [((bC,0),bC)] (by simp[aB]));have Y:¬ key l[i]<key z:=λh=>t (X.2 h);rw[I0 hi,<- f,FK hB,U]
   .simp
   .intro y O;simp only[dN,iT]at O;obtain O|rfl:=O
    .intro hk;have Z:=M.1;rw[<- f]at Z;have:=(tY.1 (tY.1 Z).1).2.2 y O z (by simp);exact Y (Ep hk this)
    .exact Y
end
section
variable {α : Type} [Enc α]
def z31{I:SI}(hI:pK I)(A:Enc.sz α = I.z)(k:∀ x : α,(enc x).cells.all PV.one=true){key : α -> List Int}{cf:FuncId}{D : α -> Prop}(hD:∀ x y,D x->D y->∃ n:Int,Sp P cf [enc x,enc y] (.pure (.int .i64 n))/\(n<0 ↔ key x<key y))
  (l:List α) (ap:l.length<=1000000) (dl:∀ x∈l,D x) :
  gO P I.st [.sl (ens l),.int .i64 l.length,.fn cf []] 0 I.z (ens (bW key l)) (.pure (.bM [])):=by
 refine gO.cE hI.st (by simp) rfl (by simp[(gB l).2.1]) ?_;have t:(1:Nat)<=20:=by omega
 simp[GB]
 refine b6 (S:=λs:List α × Nat=>aB [(0,.own bC 0 0 l.length),(1,.p (.int .i64 l.length)),(2,.p (.fn cf [])),(6,.p (.int .i64 20)),(7,.p (.int .i64 (20*s.2:Nat))),(8,.p (.int .i64 (20*s.2+20:Nat)))] [(bC,⟨I.z,aK s.1⟩)])
  (I:=λs=>20*s.2<=l.length/\s.1=ab key 20 (l.take (20*s.2))++l.drop (20*s.2)) (m:=λs=>l.length - 20*s.2) (l,0)
  (aA.to [0,1,2,6,7,8] [((bC,0),bC)] (by simp[aB])) ⟨by simp,by simp[ab,vp]⟩ ?_
 rintro⟨L,n⟩ ⟨N,u⟩ R hn hr hx;simp only at N u;have i:L.length=l.length:=by rw[u,gQ,zH t,<- List.length_append,oK]
 have G:L.take l.length=L:=by rw[<- i];exact kK
 have X:(ab key 20 (l.take (20*n))).length=20*n:=by rw[zH t,fY];omega
 by_cases M:20*n+20<=l.length
 .have j:(20*(n:Int)+20)<=(l.length:Int):=by omega
  have hs:L=ab key 20 (l.take (20*n))++((l.drop (20*n)).take 20++(l.drop (20*n)).drop 20):=by rw[oK];exact u
  have tl:((l.drop (20*n)).take 20).length=20:=by rw[fY,lp];omega
  have o:=Tp hI A k hD (ab key 20 (l.take (20*n))) ((l.drop (20*n)).take 20) ((l.drop (20*n)).drop 20) L hs (by omega) (λx h=>dl x (kD (iC h))) (20*n) (20*n+20) X.symm (by omega);have f:ab key 20 (l.take (20*n))++(bW key ((l.drop (20*n)).take 20)++(l.drop (20*n)).drop 20)=ab key 20 (l.take (20*(n+1)))++l.drop (20*(n+1)):=by rw[show 20*(n+1)=20*n+20 by omega,RW t (n:=n) (a:=20*n) (by omega) M,uQ];simp
  rw[f]at o;have w:(ab key 20 (l.take (20*(n+1)))++l.drop (20*(n+1))).length=l.length:=by rw[gQ,zH t,<- List.length_append,oK]
  have d:∀ s,aA s (aB [(0,.own bC 0 0 l.length),(1,.p (.int .i64 l.length)),(2,.p (.fn cf [])),(6,.p (.int .i64 20)),(7,.p (.int .i64 (20*(n+1):Nat))),(8,.p (.int .i64 (20*(n+1)+20:Nat)))] [(bC,⟨I.z,aK (ab key 20 (l.take (20*(n+1)))++l.drop (20*(n+1)))⟩)])->R .normal s:=λs hs=>
   hn (_,n+1) s hs ⟨by simp only;omega,rfl⟩ (by simp only;omega)
  generalize ab key 20 (l.take (20*(n+1)))++l.drop (20*(n+1))=J at *
  have e1:IntKind.i64.wrap (20*(n:Int)+20+20)=20*((n:Int)+1)+20:=by rw[cL (by omega) (by omega)];omega
  simp[Lk,aB,j];refine qV o (by simp[i,G]) rfl rfl (by simp) (by simp[i]) (by simp[w]) rfl (jF _ _ A) (cells_one k _) (by simp) ?_;simp[e1];exact d _ (aA.to [0,1,2,6,7,8] [((bC,0),bC)] (by simp[aB];omega))
 .have j:¬ (20*(n:Int)+20)<=(l.length:Int):=by omega
  clear hn hr;have o:=Tp hI A k hD (ab key 20 (l.take (20*n))) (l.drop (20*n)) [] L (by rw[u];simp) (by omega) (λx h=>dl x (kD h)) (20*n) l.length X.symm (by rw[lp];omega);have f:ab key 20 (l.take (20*n))++(bW key (l.drop (20*n))++[])=ab key 20 l:=by have:=Je (key:=key) t n (l.take (20*n)) (l.drop (20*n)) (by rw[fY];omega);rw[oK]at this;rw[this,kY,zec (l:=l.drop (20*n)) (by rw[lp];omega)]
  rw[f]at o;have w:(ab key 20 l).length=l.length:=zH t l;simp[Lk,aB,j];refine hx _ _ ?_;clear hx;simp;refine qV o (by simp[i,G]) rfl rfl (by simp) (by simp[i]) (by simp[w]) rfl (jF _ _ A) (cells_one k _) (by simp) ?_;simp
  refine b6 (S:=λs:List α × Nat=>aB [(0,.own bC 0 0 l.length),(1,.p (.int .i64 l.length)),(2,.p (.fn cf [])),(6,.p (.int .i64 s.2))] [(bC,⟨I.z,aK s.1⟩)])
   (I:=λs=>1<=s.2/\s.2<=4000000/\s.1=ab key s.2 l) (m:=λs=>l.length - s.2) (ab key 20 l,20)
   (aA.to [0,1,2,6] [((bC,0),bC)] (by simp[aB])) ⟨by simp,by simp,rfl⟩ ?_
  clear o f w X i G u M j N;clear L n;rintro⟨L,s⟩ ⟨N,h2,u⟩ R hn hr hx;simp only at N h2 u;have i:L.length=l.length:=by rw[u,zH N]
  by_cases M:s<l.length;rotate_left
  .rw[zec (by omega)]at u;have j:¬ (s:Int)<(l.length:Int):=by omega
   simp[Lm,aB,M,j];refine hx _ _ ?_;simp[u]
  have j:(s:Int)<(l.length:Int):=by omega
  have e2:IntKind.i64.wrap (2*(s:Int))=2*(s:Int):=cT;have e3:IntKind.i64.wrap ((s:Int)*2)=2*(s:Int):=by rw[cL (by omega) (by omega)];omega
  simp[Lm,aB,M,j,e2];have F:1<=2*s:=by omega
  have C:∀ (m:List α),(∀ x∈m,x∈l)->∀ x∈bW key m,D x:=λm h x hx=>dl x (h x (((gB m).2.2 x).1 hx))
  refine b6 (S:=λx:List α × Nat=>aB [(0,.own bC 0 0 l.length),(1,.p (.int .i64 l.length)),(2,.p (.fn cf [])),(6,.p (.int .i64 s)),(7,.p (.int .i64 (2*s*x.2:Nat))),(8,.p (.int .i64 (2*s*x.2+2*s:Nat)))] [(bC,⟨I.z,aK x.1⟩)])
   (I:=λx=>2*s*x.2<=l.length/\x.1=ab key (2*s) (l.take (2*s*x.2))++ab key s (l.drop (2*s*x.2))) (m:=λx=>l.length - 2*s*x.2) (L,0)
   (aA.to [0,1,2,6,7,8] [((bC,0),bC)] (by simp[aB])) ⟨by simp,by simp[u,ab,vp]⟩ ?_
  clear i u;rintro⟨L,n⟩ ⟨g1,u⟩ R2 af aq ao;simp only at g1 u;have ag:(2*s*n:Nat)=n*(2*s):=oI _ _;have al:2*s*(n+1)=2*s*n+2*s:=Nat.mul_succ _ _;have d:∀ J:List α,2*s*n+2*s<=l.length->J=ab key (2*s) (l.take (2*s*n+2*s))++ab key s (l.drop (2*s*n+2*s))->∀ U,aA U (aB [(0,.own bC 0 0 l.length),(1,.p (.int .i64 l.length)),(2,.p (.fn cf [])),(6,.p (.int .i64 s)),(7,.p (.int .i64 (2*s*n+2*s:Nat))),(8,.p (.int .i64 (2*s*n+2*s+2*s:Nat)))] [(bC,⟨I.z,aK J⟩)])->R2 .normal U:=λJ q1 q2 U Q=>by rw[<- al]at q1 q2 Q;exact af (J,n+1) U Q ⟨q1,q2⟩ (by simp only;omega)
  clear al af;have K:=Je (key:=key) F n (l.take (2*s*n)) (l.drop (2*s*n)) (by rw[fY];omega);rw[oK]at K;have B:=λh=>RW (key:=key) F (n:=n) (a:=2*s*n) (l:=l) ag h;clear ag;have Z:((2*s*n:Nat):Int)=2*(s:Int)*n:=by push_cast;rfl
  generalize 2*s*n=a at *
  have lA:(ab key (2*s) (l.take a)).length=a:=by rw[zH F,fY];omega
  have i:L.length=l.length:=by rw[u,gQ,lA,zH N,lp];omega
  have G:L.take l.length=L:=by rw[<- i];exact kK
  have tl:((l.drop a).take s).length=min s (l.length - a):=by rw[fY,lp]
  by_cases hc:a+2*s<=l.length
  .have Y:(a:Int)+2*s<=(l.length:Int):=by omega
   have W:=Zl (key:=key) N (l:=l.drop a) (by rw[lp];omega);have lX:(bW key ((l.drop a).take s)).length=s:=by rw[(gB _).2.1,tl];omega
   have lY:(bW key (((l.drop a).drop s).take s)).length=s:=by rw[(gB _).2.1,fY,lp,lp];omega
   have o:=Nn hI A k hD (2*s) (ab key (2*s) (l.take a)) (bW key ((l.drop a).take s)) (bW key (((l.drop a).drop s).take s)) (ab key s ((l.drop a).drop (2*s))) L a (a+s) (a+2*s) (by omega) (by rw[u,W]) (by omega) (by omega) (by omega) (gB _).1 (gB _).1
    (C _ λx h=>kD (iC h)) (C _ λx h=>kD (kD (iC h))) lA.symm (by omega) (by omega)
   have f:ab key (2*s) (l.take a)++(bW key (bW key ((l.drop a).take s)++bW key (((l.drop a).drop s).take s))++ab key s ((l.drop a).drop (2*s)))=ab key (2*s) (l.take (a+2*s))++ab key s (l.drop (a+2*s)):=by rw[S5,<- List.take_add,show s+s=2*s by omega,B hc,uQ];simp
   rw[f]at o;have w:(ab key (2*s) (l.take (a+2*s))++ab key s (l.drop (a+2*s))).length=l.length:=by rw[gQ,zH F,zH N,<- List.length_append,oK]
   have d:=d _ hc rfl;clear f W B K;generalize ab key (2*s) (l.take (a+2*s))++ab key s (l.drop (a+2*s))=J at *
   have e4:IntKind.i64.wrap ((a:Int)+s)=((a+s:Nat):Int):=cT;have e5:IntKind.i64.wrap ((a:Int)+2*s+2*s)=((a+2*s+2*s:Nat):Int):=by rw[cL (by omega) (by omega)];omega
   simp[Ll,aB,Y,e4,e2];refine qV o (by simp[i,G]) rfl rfl (by simp) (by simp[i]) (by simp[w]) rfl (jF _ _ A) (cells_one k _) (by simp) ?_;simp[e2,e5];exact d _ (aA.to [0,1,2,6,7,8] [((bC,0),bC)] (by simp[aB]))
  .have Y:¬ (a:Int)+2*s<=(l.length:Int):=by omega
   have e4:IntKind.i64.wrap ((a:Int)+s)=((a+s:Nat):Int):=cT;clear d B Z;have d:∀ J:List α,J=ab key (2*s) l->∀ U,aA U (aB [(0,.own bC 0 0 l.length),(1,.p (.int .i64 l.length)),(2,.p (.fn cf [])),(6,.p (.int .i64 (2*s:Nat)))] [(bC,⟨I.z,aK J⟩)])->R .normal U:=λJ q2 U Q=>hn (J,2*s) U Q ⟨F,by simp only;omega,q2⟩ (by simp only;omega);simp[Ll,aB,Y];refine ao _ _ ?_;clear ao;by_cases hm:a+s<l.length
   .have ad:(a:Int)+s<(l.length:Int):=by omega
    have V:=Jf (key:=key) N (l:=l.drop a) (by rw[lp];omega);have O:ab key s ((l.drop a).drop s)=bW key ((l.drop a).drop s):=zec (by rw[lp,lp];omega);have lX:(bW key ((l.drop a).take s)).length=s:=by rw[(gB _).2.1,tl];omega
    have lY:(bW key ((l.drop a).drop s)).length=l.length - a - s:=by rw[(gB _).2.1,lp,lp]
    have o:=Nn hI A k hD (2*s) (ab key (2*s) (l.take a)) (bW key ((l.drop a).take s)) (bW key ((l.drop a).drop s)) [] L a (a+s) l.length (by omega) (by rw[u,V,O];simp) (by omega) (by omega) (by omega) (gB _).1 (gB _).1
     (C _ λx h=>kD (iC h)) (C _ λx h=>kD (kD h)) lA.symm (by omega) (by omega)
    have f:ab key (2*s) (l.take a)++(bW key (bW key ((l.drop a).take s)++bW key ((l.drop a).drop s))++[])=ab key (2*s) l:=by rw[S5,oK,K,zec (s:=2*s) (l:=l.drop a) (by rw[lp];omega),kY]
    rw[f]at o;have w:(ab key (2*s) l).length=l.length:=zH F l;have d:=d _ rfl;clear f V O K;simp[e4,ad];refine qV o (by simp[i,G]) rfl rfl (by simp) (by simp[i]) (by simp[w]) rfl (jF _ _ A) (cells_one k _) (by simp) ?_;simp[e3];exact d _ (aA.to [0,1,2,6] [((bC,0),bC)] (by simp[aB]))
   .have ad:¬ (a:Int)+s<(l.length:Int):=by omega
    have O:ab key s (l.drop a)=bW key (l.drop a):=zec (by rw[lp];omega);have d:=d L (by rw[u,O,K,zec (s:=2*s) (l:=l.drop a) (by rw[lp];omega)]);simp[e4,ad,e3];exact d _ (aA.to [0,1,2,6] [((bC,0),bC)] (by simp[aB]))
def LP{I:SI}(i:pK I)(f:Enc.sz α = I.z)(d:∀ x : α,(enc x).cells.all PV.one=true){key : α -> List Int}{cf:FuncId}{D : α -> Prop}(k:∀ x y,D x->D y->∃ n:Int,Sp P cf [enc x,enc y] (.pure (.int .i64 n))/\(n<0 ↔ key x<key y))
  (l:List α) (h:l.length<=1000000) (j:∀ x∈l,D x):gO P I.so [.sl (ens l),.fn cf []] 0 I.z (ens (bW key l)) (.pure (.bM [])):=by
 refine gO.cE i.so (by simp) rfl (by simp[(gB l).2.1]) ?_;simp[GA];refine qV (z31 i f d k l h j) (by simp) rfl rfl (by simp) (by simp) (by simp[(gB l).2.1]) rfl (jF _ _ f) (cells_one d _) (by simp) ?_;simp
end
end Go.Ab
namespace Go.Ab
open Go.Proofs
open Enc (enc)
abbrev nv:SI:=⟨12,by decide,262,192,162,161,121,72⟩
def c.yp:aP P nv.sw=some ⟨38,5,(GD nv).er,[]⟩:=by kernel_rfl
def c.yq:aP P nv.ro=some ⟨58,5,(Gz nv).er,[]⟩:=by kernel_rfl
def c.yr:aP P nv.sm=some ⟨220,5,(Dz nv).er,[]⟩:=by kernel_rfl
def c.yt:aP P nv.ins=some ⟨53,4,(Fs nv).er,[]⟩:=by kernel_rfl
def c.yu:aP P nv.st=some ⟨63,3,(GB nv).er,[]⟩:=by kernel_rfl
def c.yw:aP P nv.so=some ⟨9,2,(GA nv).er,[]⟩:=by kernel_rfl
def yeo:pK nv:=⟨c.yp,c.yq,c.yr,c.yt,c.yu,c.yw⟩
section
variable {α : Type} [Enc α]
def Wb(h:Enc.sz α = 12)(d:∀ x : α,(enc x).cells.all PV.one=true){key : α -> List Int}{cf:FuncId}{D : α -> Prop}(j:∀ x y,D x->D y->∃ n:Int,Sp P cf [enc x,enc y] (.pure (.int .i64 n))/\(n<0 ↔ key x<key y))
  (l:List α) (f:l.length<=1000000) (i:∀ x∈l,D x):gO P 72 [.sl (ens l),.fn cf []] 0 12 (ens (bW key l)) (.pure (.bM [])):=LP yeo h d j l f i
end
end Go.Ab
namespace Go.Ab
section
variable {α : Type} {key : α -> List Int} {up : α -> α -> α} {nw : α -> α}
theorem Py(x : α):∀ s:List α,(eJ key s x).Perm (x::s)
 | []=>.refl _
 | z::r=>by
  unfold eJ;split
  .exact .refl _
  .exact(List.Perm.cons z (Py x r)).trans (List.Perm.swap x z r)
def F6(l:List α):(bW key l).Perm l:=by
 have:∀ (l d:List α),(l.foldl (eJ key) d).Perm (d++l):=by
  intro l
  induction l with
  | nil=>intro d;simp
  | cons x l f =>
   intro d;refine(f _).trans ?_;refine(List.Perm.append_right l (Py x d)).trans ?_;exact(List.perm_middle (l₁ := d) (l₂ := l) (a:=x)).symm
 have h:=this l [];rw[uP]at h;exact h
theorem OY:∀ {d:List α} {x y : α},x∈gS key up nw d y->x∈d\/x=nw y\/∃ z∈d,key z=key y/\x=up z y
 | [],x,y,h=>by simp[gS]at h;exact .inr (.inl h)
 | [z],x,y,h=>by
  simp only[gS]at h;split at h
  .rename_i hk;simp at h;exact .inr (.inr ⟨z,by simp,hk,h⟩)
  .simp at h;obtain h|h:=h
   .exact .inl (by simp[h])
   .exact .inr (.inl h)
 | z::w::r,x,y,h=>by
  rw[D0 z y (by simp)]at h;obtain h|h:=cI.1 h
  .exact .inl (by simp[h])
  .obtain h|h|⟨u,h,e⟩:=OY h
   .exact .inl (tX _ h)
   .exact .inr (.inl h)
   .exact .inr (.inr ⟨u,tX _ h,e⟩)
theorem Pw:∀ {d:List α} {x y : α},x∈eX key up nw d y->x∈d\/x=nw y\/∃ z∈d,key z=key y/\x=up z y
 | [],x,y,h=>by simp[eX]at h;exact .inr (.inl h)
 | z::r,x,y,h=>by
  simp only[eX]at h;split at h
  .obtain h|h:=cI.1 h
   .exact .inl (by simp[h])
   .obtain h|h|⟨u,h,e⟩:=Pw h
    .exact .inl (tX _ h)
    .exact .inr (.inl h)
    .exact .inr (.inr ⟨u,tX _ h,e⟩)
  .split at h
   .rename_i hk;obtain h|h:=cI.1 h
    .exact .inr (.inr ⟨z,by simp,hk,h⟩)
    .exact .inl (tX _ h)
   .obtain h|h:=cI.1 h
    .exact .inr (.inl h)
    .exact .inl h
def kc(key : α -> List Int)(l:List α)(q:List Int):Nat:=l.countP λx=>decide (key x=q)
def Sa{l:List α}{k:Nat}(h:k<l.length)(q:List Int):kc key (l.take (k+1)) q=kc key (l.take k) q+if key l[k]=q then 1 else 0:=by
 unfold kc;rw[ed h,List.countP_append]
 congr 1
 by_cases d:key l[k]=q<;>simp[d]
def HT(l:List α)(k:Nat)(q:List Int):kc key (l.take k) q<=kc key l q:=List.Sublist.countP_le (Js k l)
def FL{l r:List α}(h:l.Perm r)(q:List Int):kc key l q=kc key r q:=h.countP_eq _
variable (uv:∀ a b,key (up a b)=key a) (rY:∀ a,key (nw a)=key a)
include uv rY
theorem KW{Q:Nat -> α -> Prop}(f:∀ {c d:Nat} {x : α},Q c x->c<=d->Q d x){l:List α}(hn:∀ x∈l,Q 0 (nw x))(hu:∀ c z,∀ x∈l,key z=key x->Q c z->Q (c+1) (up z x)) :
  ∀ k,k<=l.length->∀ x∈eU key up nw (l.take k),Q (kc key (l.take k) (key x)) x
 | 0,_=>by simp[eU]
 | k+1,h=>by
  have hk:k<l.length:=by omega
  have i:=KW (Q:=Q) f hn hu k (Bd hk);rw[EI hk];intro x j;rw[Sa hk];obtain h|h|⟨z,h,e,rfl⟩:=OY j
  .exact f (i x h) (by omega)
  .rw[h];exact f (hn _ (bU hk)) (by omega)
  .rw[uv,aX e.symm];exact hu _ _ _ (bU hk) e (i z h)
theorem KD{Q:Nat -> α -> Prop}(f:∀ {c d:Nat} {x : α},Q c x->c<=d->Q d x){l:List α}(hn:∀ x∈l,Q 0 (nw x))(hu:∀ c z,∀ x∈l,key z=key x->Q c z->Q (c+1) (up z x)) :
  ∀ k,k<=l.length->∀ x∈nZ key up nw (l.take k),Q (kc key (l.take k) (key x)) x
 | 0,_=>by simp[nZ]
 | k+1,h=>by
  have hk:k<l.length:=by omega
  have i:=KD (Q:=Q) f hn hu k (Bd hk);rw[Gt hk];intro x j;rw[Sa hk];obtain h|h|⟨z,h,e,rfl⟩:=Pw j
  .exact f (i x h) (by omega)
  .rw[h];exact f (hn _ (bU hk)) (by omega)
  .rw[uv,aX e.symm];exact hu _ _ _ (bU hk) e (i z h)
theorem KE(l:List α):∀ k,k<=l.length->(nZ key up nw (l.take k)).length<=k
 | 0,_=>by simp[nZ]
 | k+1,h=>by rw[Gt (by omega)];have:=Rh (key:=key) (up:=up) (nw:=nw) (nZ key up nw (l.take k)) (l[k]'(by omega));have:=KE l k (by omega);omega
theorem FE(l:List α):∀ k,k<=l.length->(eU key up nw (l.take k)).length<=k
 | 0,_=>by simp[eU]
 | k+1,h=>by rw[EI (by omega)];have:=MC (key:=key) (up:=up) (nw:=nw) (eU key up nw (l.take k)) (l[k]'(by omega));have:=FE l k (by omega);omega
end
end Go.Ab
namespace Go.Ab
open Enc (enc)
attribute [local simp] iJ bP.aY
def qD:List Int->List GW->List GW->List GW
 | k::d,v::f,w::h=>iB k v w::qD d f h
 | _,_,_=>[]
def aC.times(r:aC)(v w:GW):GW:=if r.kind=6 then .mk dP 0 false 0 [] (qD r.parts v.parts w.parts)else iB r.kind v w
theorem Gp:∀ {ks:List Int} {vs ws:List GW},vs.length=ks.length->ws.length=ks.length->(qD ks vs ws).length=ks.length
 | [],vs,ws,_,_=>by simp[qD]
 | k::ks,[],ws,h,_=>by simp at h
 | k::ks,v::vs,[],_,h=>by simp at h
 | k::ks,v::vs,w::ws,d,f=>by simp[qD,Gp (ks:=ks) (vs:=vs) (ws:=ws) (by simpa using d) (by simpa using f)]
theorem Gn:∀ {ks:List Int} {vs ws:List GW} {i:Nat} (h:i<ks.length) (d:i<vs.length) (f:i<ws.length) (j:i<(qD ks vs ws).length),(qD ks vs ws)[i]=iB ks[i] vs[i] ws[i]
 | k::ks,v::vs,w::ws,0,_,_,_,_=>by simp[qD]
 | k::ks,v::vs,w::ws,i+1,h,d,f,j=>by simp only[qD,List.getElem_cons_succ];exact Gn (by simpa using h) (by simpa using d) (by simpa using f) (by simpa[qD]using j)
def WH(r:aC)(v w:GW)(N:v.sm 1048576)(hw:w.sm 1048576)(t:v.aJ r)(C:w.aJ r)(l:r.kind=6)
  (j:∀ i (h:i<r.parts.length) (J:i<v.parts.length) (X:i<w.parts.length),zS 32 [enc (⟨r.parts[i],[]⟩:aC),enc v.parts[i],enc w.parts[i]] (enc (iB r.parts[i] v.parts[i] w.parts[i]))) :
  zS 32 [enc r,enc v,enc w] (enc (r.times v w)):=by
 have o:=t.1;have K:=aC.bQ o l;have V:v.tk r=v:=aX t;have W:w.tk r=w:=aX C;have D:=lQ r v (N.mono (by omega));have F:=lQ r w (hw.mono (by omega));rw[V]at D;rw[W]at F;have Q:=(t.2.2 l).1;have U:=(C.2.2 l).1;have Y:(qD r.parts v.parts w.parts).length=r.parts.length:=Gp Q U;refine Sp.vz c.aa λ_=>?_;simp[g.aa];refine bA (oG r) rfl ?_;simp[o];refine aW D ?_;simp;refine aW F ?_;simp[l]
 refine b6 (S:=λk:Nat=>aB [(3,.ptr 1 0 0 0),(4,.ptr 2 0 0 0),(5,.ptr 3 0 0 0),(6,.ptr 4 0 0 0),(7,.ptr 5 0 0 0),(8,.p (.int .i64 k))]
   [(1,⟨2,[.p (enc r)]⟩),(2,⟨8,[.p (enc v)]⟩),(3,⟨8,[.p (enc w)]⟩),(4,⟨8,[.agg [.p (.bool false),.nil,.nil,.p (.int .i64 0),.p (.bool false),.p (.int .u64 0),.nil,.nil]]⟩),
    (5,⟨8,[.agg [.p (.bool false),.nil,.nil,.p (.int .i64 0),.p (.bool false),.p (.int .u64 0),.nil,.own 6 0 0 k]]⟩),(6,⟨8,aK ((qD r.parts v.parts w.parts).take k)⟩)])
  (I:=λk=>k<=r.parts.length) (m:=λk=>r.parts.length - k) 0
  ((aA.b5 (s0:=7) (g0:=0) (i:=7) (s:=77) (sz:=8) rfl).trans (aA.to [3,4,5,6,7,8] [((3,0),1),((4,0),2),((5,0),3),((6,0),4),((7,0),5),((77,0),6)] (by simp[l]))) (by omega) ?_
 rintro k J R x hr O;have G:=aZ k;simp[g.ux,aB];refine⟨λhk=>?_,λhk=>O _ _ ?_⟩
 .have d:k<v.parts.length:=by omega
  have f:k<w.parts.length:=by omega
  have M:=K.2.2 _ (bU hk);refine bA (FZ r k hk) rfl ?_;simp;refine bK d ?_
  try simp
  refine bK f ?_
  try simp
  refine aW (j k hk d f) ?_;have n:k<(qD r.parts v.parts w.parts).length:=by omega
  have B:aK ((qD r.parts v.parts w.parts).take (k+1))=aK ((qD r.parts v.parts w.parts).take k)++[.p (enc (iB r.parts[k] v.parts[k] w.parts[k]))]:=by rw[ed n,sR,Gn hk d f n];rfl
  simp[G];exact⟨⟨by omega,by omega⟩,x (k+1) _ (aA.to [3,4,5,6,7,8] [((1,0),1),((2,0),2),((3,0),3),((4,0),4),((5,0),5),((94,0),6)] (by simp[B])) (by omega) (by omega)⟩
 .have u:k=(qD r.parts v.parts w.parts).length:=by omega
  have A:r.times v w=.mk dP 0 false 0 [] (qD r.parts v.parts w.parts):=by simp[aC.times,l]
  rw[A];subst u;simp
end Go.Ab
namespace Go.Ab
open Enc (enc)
def mD(n:Nat):Nat:=6^n
def mB(n:Nat):Nat:=6291456^n
def TU(n:Nat):mD n≠0:=GO.1 (qZ (by omega))
def qm(n:Nat)(q:Rat):Prop:=qb (mD n) (mB n) q
def SH{m n:Nat}{q:Rat}(h:qm m q)(k:m<=n):qm n q:=by obtain⟨j,rfl⟩:=Nat.le.dest k;have d:=zip (6^j) (GO.1 (qZ (by omega))) h;unfold qm mD mB;rw[rN,rN];exact BL d (Aa _ (Nq (by omega) j))
def CL(n:Nat):qm n 0:=BL (HZ _) (vI _)
structure GW.Ar (n:Nat) (w:GW):Prop where
 q:qm n w.q.v
 p:∀ e,qm n (pc w.aR e)
structure GW.mb (n:Nat) (w:GW):Prop where
 o:w.Ar n
 ps:∀ x∈w.parts,x.Ar n
def GW.Ar.mono{m n:Nat}{w:GW}(h:w.Ar m)(k:m<=n):w.Ar n:=⟨SH h.q k,λe=>SH (h.p e) k⟩
def GW.mb.mono{m n:Nat}{w:GW}(h:w.mb m)(k:m<=n):w.mb n:=⟨h.o.mono k,λx d=>(h.ps x d).mono k⟩
def KR(n c i s):(GW.mk dP c i s [] []).Ar n:=⟨by show qm n dP.v;rw[tJ];exact CL n,λe=>CL n⟩
def Tf(n c i s ps):(GW.mk dP c i s [] ps).Ar n:=⟨by show qm n dP.v;rw[tJ];exact CL n,λe=>CL n⟩
def V8{p q:Rat}(f:0<=p)(h:p<=1)(j:0<=q)(i:q<=1):p*q<=1:=by have d:p*q<=p*1:=Rat.mul_le_mul_of_nonneg_left i f;rw[Rat.mul_one]at d;exact Rat.le_trans d h
def Mk{k:Int}(hk:1<=k/\k<=5){v w:GW}(i:v.si k)(hw:w.si k):(iB k v w).si k:=by
 have:k=1\/k=2\/k=3\/k=4\/k=5:=by omega
 obtain rfl|rfl|rfl|rfl|rfl:=this
 .rw[xZ];exact⟨rfl,rfl,rfl,rfl,rfl,vD _⟩
 .obtain⟨j,l,m,n,o,p,d⟩:=pY.1 i;obtain⟨u,x,A,B,C,D,f⟩:=pY.1 hw;unfold iB;rw[bD (by omega),aX rfl];split
  .rw[pY];exact⟨rfl,rfl,rfl,rfl,Int.le_refl 0,by show(0:Int)<=1099511627776;omega,λ_=>rfl⟩
  .rename_i h;rw[pY];exact⟨rfl,rfl,rfl,rfl,by show 0<=v.cost+w.cost;omega,by show v.cost+w.cost<=1099511627776;omega,λh=>by cases h⟩
 .obtain⟨j,l,m,n,o,p,d,t⟩:=wP.1 i;obtain⟨u,x,A,B,C,D,f,F⟩:=wP.1 hw;rw[wP];refine⟨rfl,rfl,rfl,rfl,rfl,vD _,?_,?_⟩
  .show 0<=(cR (v.q.v*w.q.v)).v;rw[kW];exact Rat.mul_nonneg d f
  .show(cR (v.q.v*w.q.v)).v<=1;rw[kW];exact V8 d t f F
 .rw[Bf];exact⟨rfl,rfl,rfl,rfl,rfl⟩
 .rw[Aq];exact⟨rfl,rfl,rfl,rfl,rfl,AX _ _⟩
def Eu{r:aC}{v w:GW}(f:v.aJ r)(hw:w.aJ r):(r.times v w).aJ r:=by
 by_cases d:r.kind=6
 .have k:=aC.bQ f.1 d;have l:=(f.2.2 d).1;have m:=(hw.2.2 d).1;refine⟨f.1,λh=>absurd d h,λ_=>?_⟩;have e:r.times v w=.mk dP 0 false 0 [] (qD r.parts v.parts w.parts):=by simp[aC.times,d]
  rw[e];refine⟨Gp l m,rfl,λi h j=>?_⟩;simp only[GW.c8]at j ⊢;rw[Gn h (by omega) (by omega) j];exact Mk (k.2.2 _ (bU h)) ((f.2.2 d).2.2 i h (by omega)) ((hw.2.2 d).2.2 i h (by omega))
 .have hk:=aC.cJ f.1 d;have e:r.times v w=iB r.kind v w:=by simp[aC.times,d]
  rw[e];exact⟨f.1,λ_=>Mk ⟨hk.1,hk.2.1⟩ (f.2.1 d) (hw.2.1 d),λh=>absurd h d⟩
def pI:Nat:=2^100
def yc4:0<pI:=qZ (by omega)
def RT:pI<4294967296^4:=by unfold pI;decide +kernel
structure LB (E H s:Nat):Prop where
 e:0<E
 h:pI*E<=H
 el:E<4294967296^s
 hl:H<4294967296^(s+8)
 s:s<=8000
def qL(E H n:Nat)(q:Rat):Prop:=∃ B,qb (E^(n / 100)) B q/\46656*B<=H^(n / 100)*2^(n % 100)
section
variable {E H s:Nat} (L:LB E H s)
include L in
theorem LB.ya(n:Nat):E^n≠0:=GO.1 (qZ L.e)
include L in
theorem NM:∀ (c k a B:Nat) {q:Rat},k<100*c+100->qb (E^a) B q->46656*B<=H^a*2^k->qL E H (100*a+k) q
 | 0,k,a,B,q,hk,f,i=>by
  have d:(100*a+k) / 100=a:=by omega
  have l:(100*a+k) % 100=k:=by omega
  exact⟨B,by rw[d];exact f,by rw[d,l];exact i⟩
 | c+1,k,a,B,q,hk,f,i=>by
  by_cases n:k<100
  .exact NM 0 k a B (by omega) f i
  .have j:=zip E (GO.1 L.e) f;rw[<- Nat.pow_succ]at j;have m:46656*(B*E)<=H^(a+1)*2^(k - 100):=by
    have d:2^k=2^(k - 100)*pI:=by unfold pI;rw[<- Nat.pow_add];congr 1;omega
    calc 46656*(B*E)=46656*B*E:=by rw[pX]
     _<=H^a*2^k*E:=jU _ i
     _=H^a*2^(k - 100)*(pI*E):=by rw[d];simp only[pX]
     _<=H^a*2^(k - 100)*H:=Aa _ L.h
     _=H^(a+1)*2^(k - 100):=by rw[kJ];ac_rfl
   have:=NM c (k - 100) (a+1) (B*E) (by omega) j m;have e:100*(a+1)+(k - 100)=100*a+k:=by omega
   rwa[e]at this
include L in
theorem JT(k a B:Nat){q:Rat}(d:qb (E^a) B q)(f:46656*B<=H^a*2^k):qL E H (100*a+k) q:=NM L k k a B (by omega) d f
include L in
theorem HR{m n:Nat}{q:Rat}(h:qL E H m q)(k:m<=n):qL E H n q:=by
 obtain⟨B,d,f⟩:=h;obtain⟨j,rfl⟩:=Nat.le.dest k;have:=JT L (m % 100+j) (m / 100) B d (dM f (Aa _ (pV (by omega) (by omega))));have e:100*(m / 100)+(m % 100+j)=m+j:=by omega
 rwa[e]at this
def AL(n:Nat):qL E H n 0:=⟨0,HZ _,by omega⟩
include L in
theorem Um{m:Nat}{p q:Rat}(h:qL E H m p)(i:qL E H m q):qL E H (m+1) (p+q):=by
 obtain⟨B,j,l⟩:=h;obtain⟨f,d,k⟩:=i;have:=JT L (m % 100+1) (m / 100) (B+f) (Hw j d (L.ya _)) (by rw[kJ,<- Nat.mul_assoc];omega);have e:100*(m / 100)+(m % 100+1)=m+1:=by omega
 rwa[e]at this
def Mb{A B C D:Nat}(d:46656*A<=C)(f:46656*B<=D):46656*(46656*(A*B))<=C*D:=by
 have:=mT d f;have e:46656*A*(46656*B)=46656*(46656*(A*B)):=by ac_rfl
 omega
include L in
theorem Un{m n B:Nat}{q:Rat}(d:qb (E^(m / 100)*E^(n / 100)) B q)(f:46656*B<=H^(m / 100)*2^(m % 100)*(H^(n / 100)*2^(n % 100))):qL E H (m+n) q:=by
 rw[<- Nat.pow_add]at d;have:=JT L (m % 100+n % 100) (m / 100+n / 100) B d (by
  refine dM f (Ba ?_);rw[rN,rN];ac_rfl)
 have e:100*(m / 100+n / 100)+(m % 100+n % 100)=m+n:=by omega
 rwa[e]at this
include L in
theorem Z7{m n:Nat}{p q:Rat}(h:qL E H m p)(i:qL E H n q):qL E H (m+n) (p*q):=by obtain⟨B,j,k⟩:=h;obtain⟨l,d,f⟩:=i;have o:=Mb k f;exact Un L (Up j d) (by omega)
def jE(s n:Nat):Nat:=(n / 100)*(s+8)+5
include L in
theorem DM(n:Nat):E^(n / 100)<4294967296^jE s n:=by
 have d:E^(n / 100)<=(4294967296^s)^(n / 100):=Nq (Bd L.el) _;rw[<- Nat.pow_mul]at d;refine oY d (Ju (by omega) ?_);unfold jE;have:s*(n / 100)<=(n / 100)*(s+8):=by rw[oI];exact Aa _ (by omega)
 omega
include L in
theorem xE(n:Nat):H^(n / 100)*2^(n % 100)<4294967296^jE s n:=by
 have d:H^(n / 100)<=(4294967296^(s+8))^(n / 100):=Nq (Bd L.hl) _;rw[<- Nat.pow_mul]at d;have f:2^(n % 100)<4294967296^4:=oY (show 2^(n % 100)<=pI from pV (by omega) (by omega)) RT;have e:jE s n=(s+8)*(n / 100)+4+1:=by unfold jE;rw[oI]
 rw[e,kJ,rN];have h:H^(n / 100)*2^(n % 100)<=4294967296^((s+8)*(n / 100))*4294967296^4:=mT d (Bd f);have i:0<4294967296^((s+8)*(n / 100))*4294967296^4:=Cd (qZ (by omega)) (qZ (by omega));omega
structure GW.qQ (E H n:Nat) (w:GW):Prop where
 q:qL E H n w.q.v
 p:∀ e,qL E H n (pc w.aR e)
structure GW.lb (E H n:Nat) (w:GW):Prop where
 o:w.qQ E H n
 ps:∀ x∈w.parts,x.qQ E H n
include L in
theorem GW.qQ.mono{m n:Nat}{w:GW}(h:w.qQ E H m)(k:m<=n):w.qQ E H n:=⟨HR L h.q k,λe=>HR L (h.p e) k⟩
include L in
theorem GW.lb.mono{m n:Nat}{w:GW}(h:w.lb E H m)(k:m<=n):w.lb E H n:=⟨h.o.mono L k,λx d=>(h.ps x d).mono L k⟩
def FC(n c i s):(GW.mk dP c i s [] []).qQ E H n:=⟨by show qL E H n dP.v;rw[tJ];exact AL n,λe=>AL n⟩
def LG(n c i s ps):(GW.mk dP c i s [] ps).qQ E H n:=⟨by show qL E H n dP.v;rw[tJ];exact AL n,λe=>AL n⟩
def yg{n:Nat}{p:List aF}(h:∀ e,qL E H n (pc p e)):lU (E^(n / 100)) (H^(n / 100)*2^(n % 100) / 46656) p:=λe=>by obtain⟨B,d,f⟩:=h e;exact BL d ((Jz (by omega)).2 (by omega))
include L in
theorem DR{k:Int}{w:GW}{n:Nat}(hs:w.si k)(h:w.qQ E H n)(hn:216<=jE s n):w.sm (jE s n):=by
 have o:=Dn hs;have d:=jJ hs;cases w with
 | mk q c i t p u =>
  have e:u=[]:=hs.1;subst e;have m:H^(n / 100)*2^(n % 100) / 46656<4294967296^jE s n:=oY (Cc _ _) (xE L n);have j:q.sm (jE s n):=by
   obtain⟨B,f,x⟩:=h.q;have:=JU f (L.ya _) (DM L n) (oY (show B<=_ by omega) (xE L n))
   rwa[show cR (GW.q (GW.mk q c i t p [])).v=q from sx o]at this
  have l:fP p (jE s n):=AK (yg h.p) d (L.ya _) (DM L n) m;exact .mk j l (by have:p.length<=216:=tU d;omega) (by simp) (by simp)
include L in
theorem AH{r:aC}{w:GW}{n:Nat}(f:w.aJ r)(h:w.lb E H n)(hn:216<=jE s n):w.sm (jE s n):=by
 by_cases d:r.kind=6
 .obtain⟨l,e,m⟩:=f.2.2 d;have p:=aC.bQ f.1 d;rw[e];refine .bM (by omega) λx j=>?_;obtain⟨i,k,rfl⟩:=qW.1 j;exact DR L (m i (by omega) k) (h.ps _ j) hn
 .exact DR L (f.2.1 d) h.o hn
include L in
theorem OG{k:Int}{v w:GW}{n:Nat}(h:v.si k)(f:w.si k)(d:v.qQ E H n)(hw:w.qQ E H n):(zaw k v w).qQ E H (n+1):=by
 unfold zaw;split
 .exact⟨by show qL E H (n+1) (cR (v.q.v+w.q.v)).v;rw[kW];exact Um L d.q hw.q,λe=>AL _⟩
 .split
  .split
   .exact hw.mono L (by omega)
   .exact d.mono L (by omega)
  .split
   .split
    .exact hw.mono L (by omega)
    .exact d.mono L (by omega)
   .split
    .exact FC ..
    .refine⟨by show qL E H _ dP.v;rw[tJ];exact AL _,λe=>?_⟩;show qL E H (n+1) (pc (eN v.aR w.aR) e);rw[zP v.aR (iA.1 (jJ f)).1];exact Um L (d.p e) (hw.p e)
include L in
theorem P6{k:Int}{v w:GW}{m n:Nat}(u:v.si k)(x:w.si k)(d:v.qQ E H m)(hw:w.qQ E H n):(iB k v w).qQ E H (m+n+1):=by
 unfold iB;split
 .exact⟨by show qL E H _ (cR (v.q.v*w.q.v)).v;rw[kW];exact HR L (Z7 L d.q hw.q) (by omega),λe=>AL _⟩
 .split
  .split
   .exact FC ..
   .exact FC ..
  .split
   .exact FC ..
   .refine⟨by show qL E H _ dP.v;rw[tJ];exact AL _,λe=>?_⟩;show qL E H _ (pc (gE v.aR w.aR) e);have pv:=jJ u;have f:=jJ x;have j:=KK (Eb (yg d.p) pv) (Eb (yg hw.p) f) (yr2 (L.ya _) (L.ya _)) e;have o:=tU pv;have t:=tU f;have h:=Jp (H^(m / 100)*2^(m % 100)) 46656;have i:=Jp (H^(n / 100)*2^(n % 100)) 46656;have l:=Mb h i;refine HR L (Un L j (dM (Aa _ ?_) l)) (by omega);generalize H^(m / 100)*2^(m % 100) / 46656*(H^(n / 100)*2^(n % 100) / 46656)=C;have A:v.aR.length*(w.aR.length*C)<=216*(216*C):=mT o (jU _ t);omega
include L in
theorem yfc{r:aC}{v w:GW}{n:Nat}(f:v.aJ r)(h:w.aJ r)(m:v.lb E H n)(hw:w.lb E H n):(r.plus v w).lb E H (n+1):=by
 by_cases d:r.kind=6
 .have p:=(f.2.2 d).1;have t:=(h.2.2 d).1;have e:r.plus v w=.mk dP 0 false 0 [] (nP r.parts v.parts w.parts):=by simp[aC.plus,d]
  rw[e];have A:=uG (ks:=r.parts) (vs:=v.parts) (ws:=w.parts) p t;refine⟨LG ..,λx j=>?_⟩;obtain⟨i,l,rfl⟩:=qW.1 j;simp only[GW.c8]at l;have k:i<r.parts.length:=by omega
  have:=wH k (by omega:i<v.parts.length) (by omega:i<w.parts.length) l;simp only[GW.c8];rw[this];exact OG L ((f.2.2 d).2.2 i k (by omega)) ((h.2.2 d).2.2 i k (by omega)) (m.ps _ (bU _)) (hw.ps _ (bU _))
 .have hk:=aC.cJ f.1 d;have e:r.plus v w=zaw r.kind v w:=by simp[aC.plus,d]
  have u:=yv ⟨hk.1,hk.2.1⟩ (f.2.1 d) (h.2.1 d);rw[e];exact⟨OG L (f.2.1 d) (h.2.1 d) m.o hw.o,λx j=>by rw[u.1]at j;cases j⟩
include L in
theorem z87{r:aC}{v w:GW}{m n:Nat}(f:v.aJ r)(h:w.aJ r)(p:v.lb E H m)(hw:w.lb E H n):(r.times v w).lb E H (m+n+1):=by
 by_cases d:r.kind=6
 .have t:=(f.2.2 d).1;have u:=(h.2.2 d).1;have e:r.times v w=.mk dP 0 false 0 [] (qD r.parts v.parts w.parts):=by simp[aC.times,d]
  rw[e];have B:=Gp (ks:=r.parts) (vs:=v.parts) (ws:=w.parts) t u;refine⟨LG ..,λx j=>?_⟩;obtain⟨i,l,rfl⟩:=qW.1 j;simp only[GW.c8]at l;have k:i<r.parts.length:=by omega
  have:=Gn k (by omega:i<v.parts.length) (by omega:i<w.parts.length) l;simp only[GW.c8];rw[this];exact P6 L ((f.2.2 d).2.2 i k (by omega)) ((h.2.2 d).2.2 i k (by omega)) (p.ps _ (bU _)) (hw.ps _ (bU _))
 .have hk:=aC.cJ f.1 d;have e:r.times v w=iB r.kind v w:=by simp[aC.times,d]
  have A:=Mk ⟨hk.1,hk.2.1⟩ (f.2.1 d) (h.2.1 d);rw[e];exact⟨P6 L (f.2.1 d) (h.2.1 d) p.o hw.o,λx j=>by rw[A.1]at j;cases j⟩
end
theorem T9{v w:GW}(d:v.q=w.q)(f:v.cost=w.cost)(h:v.inf=w.inf)(i:v.set=w.set)(j:v.aR=w.aR)(k:v.parts=w.parts):v=w:=by cases v;cases w;simp only[GW.qM,GW.kE,GW.j2,GW.set_mk,GW.gZ,GW.c8]at d f h i j k;subst d f h i j k;rfl
def Y'{x y:aT}(d:x.valid=true)(f:y.valid=true)(h:x.v=y.v):x=y:=by rw[<- sx d,<- sx f,h]
def rP(w:GW):Int:=if w.inf then 1099511627777 else w.cost
def Ph{v w:GW}(n:v.si 2)(hw:w.si 2)(h:rP v=rP w):v=w:=by
 obtain⟨i,j,k,l,A,B,m⟩:=pY.1 n;obtain⟨o,p,t,u,C,D,x⟩:=pY.1 hw;unfold rP at h;refine T9 (j.trans p.symm) ?_ ?_ (k.trans t.symm) (l.trans u.symm) (i.trans o.symm)
 .cases d:v.inf<;>cases f:w.inf<;>simp[d,f]at h<;>try omega
  rw[m d,x f]
 .cases d:v.inf<;>cases f:w.inf<;>simp[d,f]at h<;>first|rfl|omega
def Ev{v w:GW}(h:v.si 2)(hw:w.si 2):rP (zaw 2 v w)=if rP w<rP v then rP w else rP v:=by obtain⟨i,j,k,l,m,n,o⟩:=pY.1 h;obtain⟨p,t,u,x,A,B,C⟩:=pY.1 hw;unfold zaw;rw[bD (by omega),aX rfl];unfold rP;cases d:v.inf<;>cases f:w.inf<;>simp[d,f]<;>(try split)<;>simp_all<;>omega
def VG{a b c:Rat}(h:a<b)(k:b<c):a<c:=Rat.not_le.1 λe=>Df.2 (Rat.le_trans (Rat.le_of_lt k) e) h
def XO{a b c:Rat}(h:a<=b)(k:b<c):a<c:=Rat.not_le.1 λe=>Rat.not_le.2 k (Rat.le_trans e h)
def Nl(x y:GW):zaw 3 x y=if x.q.v<y.q.v then y else x:=by simp[zaw]
def QD{k:Int}(hk:1<=k/\k<=5){v w:GW}(d:v.si k)(hw:w.si k):zaw k v w=zaw k w v:=by
 have:k=1\/k=2\/k=3\/k=4\/k=5:=by omega
 obtain rfl|rfl|rfl|rfl|rfl:=this
 .simp only[zaw,cH,Cb]
 .refine Ph (yv hk d hw) (yv hk hw d) ?_;rw[Ev d hw,Ev hw d];split<;>split<;>omega
 .obtain⟨h,i,j,l,m,n,B,C⟩:=wP.1 d;obtain⟨o,p,t,u,x,A,D,F⟩:=wP.1 hw;rw[Nl,Nl];by_cases a:v.q.v<w.q.v
  .rw[aX a,bD (Df.2 (Rat.le_of_lt a))]
  .by_cases b:w.q.v<v.q.v
   .rw[bD a,aX b]
   .rw[bD a,bD b];have e:v.q.v=w.q.v:=Rat.le_antisymm (Df.1 b) (Df.1 a);exact T9 (Y' n A e) (j.trans t.symm) (i.trans p.symm) (l.trans u.symm) (m.trans x.symm) (h.trans o.symm)
 .simp[zaw,UInt64.or_comm]
 .have pv:=jJ d;have f:=jJ hw;have e:eN v.aR w.aR=eN w.aR v.aR:=Ip (xU _ pv) (xU _ f) λe=>by rw[zP _ (iA.1 f).1,zP _ (iA.1 pv).1,Cb]
  simp[zaw,e]
def Rf{k:Int}(hk:1<=k/\k<=5){u v w:GW}(hu:u.si k)(d:v.si k)(hw:w.si k):zaw k (zaw k u v) w=zaw k u (zaw k v w):=by
 have:k=1\/k=2\/k=3\/k=4\/k=5:=by omega
 obtain rfl|rfl|rfl|rfl|rfl:=this
 .simp only[zaw,cH,GW.qM,kW,Af]
 .refine Ph (yv hk (yv hk hu d) hw) (yv hk hu (yv hk d hw)) ?_;rw[Ev (yv hk hu d) hw,Ev hu d,Ev hu (yv hk d hw),Ev d hw]
  repeat' split
  all_goals omega
 .have s:=Nl;rw[s u v,s v w];by_cases a:u.q.v<v.q.v
  .rw[aX a];by_cases b:v.q.v<w.q.v
   .rw[aX b,s v w,s u w,aX b,aX (VG a b)]
   .rw[bD b,s v w,s u v,bD b,aX a]
  .rw[bD a];by_cases b:v.q.v<w.q.v
   .rw[aX b]
   .rw[bD b,s u w,s u v,bD a,bD];intro c;exact b (XO (Df.1 a) c)
 .simp[zaw,GW.set_mk,UInt64.or_assoc]
 .have f:=jJ hu;have pv:=jJ d;have h:=jJ hw;have e:eN (eN u.aR v.aR) w.aR=eN u.aR (eN v.aR w.aR):=Ip (xU _ (xU _ f)) (xU _ f) λe=>by rw[zP _ (iA.1 h).1,zP _ (iA.1 pv).1,zP _ (iA.1 (xU _ pv)).1,zP _ (iA.1 h).1,Af]
  simp[zaw,GW.gZ,e]
def z12:∀ {ks:List Int} {vs ws:List GW},(∀ k∈ks,1<=k/\k<=5)->vs.length=ks.length->ws.length=ks.length->(∀ i,(h:i<ks.length)->(m:i<vs.length)->vs[i].si ks[i])->(∀ i,(h:i<ks.length)->(m:i<ws.length)->ws[i].si ks[i])->nP ks vs ws=nP ks ws vs:=by
 intro ks vs ws hk j l o hw;refine Bb (by rw[uG j l,uG l j]) λi f n=>?_;have d:i<ks.length:=by rw[uG j l]at f;exact f
 rw[wH d (by omega) (by omega) f,wH d (by omega) (by omega) n];exact QD (hk _ (bU d)) (o i d (by omega)) (hw i d (by omega))
def IC{r:aC}{v w:GW}(f:v.aJ r)(h:w.aJ r):r.plus v w=r.plus w v:=by
 by_cases d:r.kind=6
 .have i:=aC.bQ f.1 d;obtain⟨j,_,l⟩:=f.2.2 d;obtain⟨k,_,m⟩:=h.2.2 d;simp only[aC.plus,aX d,z12 i.2.2 j k l m]
 .have hk:=aC.cJ f.1 d;simp only[aC.plus,bD d];exact QD ⟨hk.1,hk.2.1⟩ (f.2.1 d) (h.2.1 d)
def EC{r:aC}{u v w:GW}(n:u.aJ r)(j:v.aJ r)(o:w.aJ r):r.plus (r.plus u v) w=r.plus u (r.plus v w):=by
 by_cases d:r.kind=6
 .have A:=aC.bQ j.1 d;obtain⟨p,_,B⟩:=n.2.2 d;obtain⟨t,_,C⟩:=j.2.2 d;obtain⟨m,_,D⟩:=o.2.2 d;simp only[aC.plus,aX d,GW.c8]
  congr 1
  have h:=uG p t;have l:=uG t m;refine Bb (by rw[uG h m,uG p l]) λi k x=>?_;have f:i<r.parts.length:=by rw[uG h m]at k;exact k
  rw[wH f (by omega) (by omega) k,wH f (by omega) (by omega) x,wH f (by omega) (by omega) (by omega),wH f (by omega) (by omega) (by omega)];exact Rf (A.2.2 _ (bU f)) (B i f (by omega)) (C i f (by omega)) (D i f (by omega))
 .have hk:=aC.cJ j.1 d;simp only[aC.plus,bD d];exact Rf ⟨hk.1,hk.2.1⟩ (n.2.1 d) (j.2.1 d) (o.2.1 d)
section
variable (r:aC)
def lR(ws:List GW):GW:=ws.foldr r.plus r.zero
variable {r} (hr:r.ok=true)
include hr in
theorem Eh:∀ {ws:List GW},(∀ w∈ws,w.aJ r)->(lR r ws).aJ r
 | [],_=>yC hr
 | w::ws,h=>BU (h w (by simp)) (Eh λx d=>h x (by simp[d]))
include hr in
theorem Mo{v:GW}(d:v.aJ r):r.plus r.zero v=v:=by rw[IC (yC hr) d];exact z6 d
include hr in
theorem Ro:∀ {a b:List GW},(∀ w∈a,w.aJ r)->(∀ w∈b,w.aJ r)->lR r (a++b)=r.plus (lR r a) (lR r b)
 | [],b,_,d=>(Mo hr (Eh hr d)).symm
 | w::a,b,f,d=>by show r.plus w (lR r (a++b))=r.plus (r.plus w (lR r a)) (lR r b);rw[Ro (λx h=>f x (by simp[h])) d,EC (f w (by simp)) (Eh hr λx h=>f x (by simp[h])) (Eh hr d)]
include hr in
theorem Yc{a b:List GW}(h:a.Perm b)(d:∀ w∈a,w.aJ r):lR r a=lR r b:=by
 induction h with
 | nil=>rfl
 | cons x h o=>show r.plus x _=r.plus x _;rw[show List.foldr r.plus r.zero _=_ from o λw hw=>d w (by simp[hw])];rfl
 | swap x y l =>
  have f:=d x (by simp);have i:=d y (by simp);have m:(lR r l).aJ r:=Eh hr λw hw=>d w (by simp[hw]);show r.plus y (r.plus x (lR r l))=r.plus x (r.plus y (lR r l));rw[<- EC i f m,IC i f,EC f i m]
 | trans n p j k=>rw[j d,k λw hw=>d w (n.mem_iff.2 hw)]
end
section
variable {α : Type} (key : α -> List Int) (wt : α -> GW) (r:aC)
def mK(l:List α)(p:List Int->Bool):GW:=lR r ((l.filter λx=>p (key x)).map wt)
variable {key wt r} {up : α -> α -> α} (hr:r.ok=true) (hk:∀ z y,key (up z y)=key z) (hw:∀ z y,wt (up z y)=r.plus (wt z) (wt y))
theorem RZ(p:List Int->Bool):mK key wt r [] p=r.zero:=rfl
def yk(x : α)(l:List α)(p:List Int->Bool):mK key wt r (x::l) p=if p (key x)=true then r.plus (wt x) (mK key wt r l p)else mK key wt r l p:=by unfold mK;by_cases h:p (key x)=true<;>simp[h,lR]
include hr in
theorem Kq{l:List α}(h:∀ x∈l,(wt x).aJ r)(p:List Int->Bool):(mK key wt r l p).aJ r:=Eh hr λw hw=>by obtain⟨x,d,rfl⟩:=cA.1 hw;exact h x (kI.1 d).1
include hr in
theorem YD{a b:List α}(f:∀ x∈a,(wt x).aJ r)(h:∀ x∈b,(wt x).aJ r)(p:List Int->Bool):mK key wt r (a++b) p=r.plus (mK key wt r a p) (mK key wt r b p):=by unfold mK;rw[tW,sS];exact Ro hr (λw hw=>by obtain⟨x,d,rfl⟩:=cA.1 hw;exact f x (kI.1 d).1) (λw hw=>by obtain⟨x,d,rfl⟩:=cA.1 hw;exact h x (kI.1 d).1)
include hr in
theorem ycx{a b:List α}(h:a.Perm b)(d:∀ x∈a,(wt x).aJ r)(p:List Int->Bool):mK key wt r a p=mK key wt r b p :=
 Yc hr ((h.filter _).map _) λw hw=>by obtain⟨x,f,rfl⟩:=cA.1 hw;exact d x (kI.1 f).1
include hr hk hw in
theorem S'{x : α}(d:(wt x).aJ r)(p:List Int->Bool):∀ {f:List α},(∀ z∈f,(wt z).aJ r)->mK key wt r (eX key up id f x) p=r.plus (mK key wt r f p) (if p (key x)=true then wt x else r.zero)
 | [],_=>by
  show mK key wt r [x] p=_;rw[yk,RZ,Mo hr (by split;exact d;exact yC hr)];split
  .exact z6 d
  .rfl
 | z::o,h=>by
  have k:=h z (by simp);have n:∀ y∈o,(wt y).aJ r:=λy u=>h y (by simp[u]);have j:=Kq (key:=key) hr n p;have t:(if p (key x)=true then wt x else r.zero).aJ r:=by split;exact d;exact yC hr
  simp only[eX];split
  .rw[yk,yk,S' d p n];split
   .rw[EC k j t]
   .rfl
  .split
   .rename_i w m;rw[yk,yk,hk,hw];by_cases i:p (key z)=true
    .rw[aX i,aX i,aX (m ▸ i),EC k d j,EC k j d,IC d j]
    .rw[bD i,bD i,bD (m ▸ i),z6 j]
   .show mK key wt r (x::z::o) p=_;rw[yk x];have l:=Kq (key:=key) hr h p;split
    .exact IC d l
    .exact(z6 l).symm
include hr hk hw in
theorem RY{l:List α}(h:∀ x∈l,(wt x).aJ r)(p:List Int->Bool):∀ n,n<=l.length->(∀ z∈nZ key up id (l.take n),(wt z).aJ r)/\mK key wt r (nZ key up id (l.take n)) p=mK key wt r (l.take n) p
 | 0,_=>⟨by simp[nZ],rfl⟩
 | n+1,t=>by
  obtain⟨j,o⟩:=RY h p n (by omega);have i:n<l.length:=by omega
  have d:=h _ (bU i);rw[Gt i];refine⟨λz m=>?_,?_⟩
  .obtain f|f|⟨y,f,k⟩:=Tj m
   .exact j z f
   .rw[f];exact d
   .rw[k,hw];exact BU (j y f) d
  .rw[S' hr hk hw d p j,o,ed i,YD hr (λx d=>h x (iC d)) (λx d=>by simp at d;rw[d];exact h _ (bU i)),yk,RZ]
   congr 1
   split
   .exact(z6 d).symm
   .rfl
end
def inT(x:aE)(t:GTrans):Prop:=0<=x.f/\x.f<t.st/\0<=x.t/\x.t<t.st/\0<=x.i/\x.i<=t.i/\0<=x.o/\x.o<=t.o/\x.w.aJ t.ring
structure GTrans.ok (t:GTrans):Prop where
 ring:t.ring.ok=true
 i1:1<=t.i/\t.i<=32
 o1:1<=t.o/\t.o<=32
 st1:0<=t.st
 st2:t.st<=64
 il:(t.aM.length:Int)=t.st
 fl:(t.fin.length:Int)=t.st
 al:t.aD.length<=2048
 aD:∀ x∈t.aD,inT x t
 aM:∀ w∈t.aM,w.aJ t.ring
 fin:∀ w∈t.fin,w.aJ t.ring
noncomputable instance (x:aE) (a:GTrans):Decidable (inT x a):=Classical.propDecidable _
noncomputable instance (a:GTrans):Decidable a.ok:=Classical.propDecidable _
structure GTrans.sm (a:GTrans) (n:Nat):Prop where
 aM:∀ w∈a.aM,w.sm n
 fin:∀ w∈a.fin,w.sm n
 aD:∀ x∈a.aD,x.w.sm n
def GTrans.sm.mono{a:GTrans}{m n:Nat}(h:a.sm m)(k:m<=n):a.sm n:=⟨λw hw=>(h.aM w hw).mono k,λw hw=>(h.fin w hw).mono k,λx d=>(h.aD x d).mono k⟩
def Gh(t:GTrans)(h:t.sm 1048576)(li:t.aM.length<=1000000)(lf:t.fin.length<=1000000):zS 47 [enc t] (.bool (decide t.ok)):=by
 refine Sp.vz c.ck λ_=>?_;simp[g.ck];refine bA (A8 t.ring) rfl ?_;cases hr:t.ring.ok
 .simp;intro ok;rw[ok.ring]at hr;cases hr
 simp;refine bA (Rk t.i) rfl ?_;by_cases M:1<=t.i/\t.i<=32;rotate_left
 .simp[M];intro ok;exact M ok.i1
 simp[M];refine bA (Rk t.o) rfl ?_;by_cases N:1<=t.o/\t.o<=32;rotate_left
 .simp[N];intro ok;exact N ok.o1
 simp[N];refine⟨λV ok=>by have:=ok.st1;omega,λV=>⟨λW ok=>by have:=ok.st2;omega,λW=>⟨λh5 ok=>by have:=ok.al;omega,λh5=>?_⟩⟩⟩
 refine b6 (S:=λk:Nat=>aB [(1,.ptr 1 0 0 0),(38,.p (.sl (ens t.aD))),(39,.p (.int .i64 t.aD.length)),(40,.p (.int .i64 k))] [(1,⟨8,[.p (enc t)]⟩)]) (I:=λk=>k<=t.aD.length/\∀ i,(J:i<t.aD.length)->i<k->inT t.aD[i] t) (m:=λk=>t.aD.length - k) 0
  (aA.to [1,38,39,40] [((1,0),1)] (by simp)) ⟨by omega,λi _ h0=>by omega⟩ ?_
 rintro k ⟨h6,X⟩ R hn j K;have e1:=aZ k;simp[g.u4,aB];refine⟨λhk=>?_,λhk=>K _ _ ?_⟩
 .refine bK hk ?_;have d:¬ inT t.aD[k] t->¬ t.ok:=λh ok=>h (ok.aD _ (bU hk));have U:t.aD[k].w.sm 1048576:=h.aD _ (bU hk);have B:inT t.aD[k] t->∀ i,(J:i<t.aD.length)->i<k+1->inT t.aD[i] t:=λK i J h0=>by
   by_cases Q:i<k
   .exact X i J Q
   .have:i=k:=by omega
    subst this;exact K
  generalize t.aD[k]=x at *
  refine⟨λl=>j _ ?_,λl=>⟨λn=>j _ ?_,λn=>⟨λC=>j _ ?_,λC=>⟨λD=>j _ ?_,λD=>?_⟩⟩⟩⟩
  .simp;refine d λA=>?_;obtain⟨Y,Z,a3,a4,a5,a6,a7,a8,a9⟩:=A;revert l;(repeat' split)<;>omega
  .simp;refine d λA=>?_;obtain⟨Y,Z,a3,a4,a5,a6,a7,a8,a9⟩:=A;revert n;(repeat' split)<;>omega
  .simp;exact d λA=>by have:=A.2.2.2.2.2.1;omega
  .simp;exact d λA=>by have:=A.2.2.2.2.2.2.2.1;omega
  have u:0<=x.f/\0<=x.t/\0<=x.i/\0<=x.o:=by revert l;(repeat' split)<;>intro l<;>omega
  have F:x.f<t.st/\x.t<t.st:=by revert n;(repeat' split)<;>intro n<;>omega
  refine aW (F9 t.ring x.w U) ?_;by_cases O:x.w.aJ t.ring;rotate_left
  .simp[O];refine j _ ?_;simp;exact d λA=>O A.2.2.2.2.2.2.2.2
  simp[O,e1];exact hn (k+1) _ (aA.to [1,38,39,40] [((1,0),1)] (by simp[aB])) ⟨by omega,B ⟨u.1,F.1,u.2.1,F.2,u.2.2.1,C,u.2.2.2,D,O⟩⟩ (by omega)
 .simp;have G:∀ x∈t.aD,inT x t:=λx K=>by obtain⟨i,J,rfl⟩:=qW.1 K;exact X i J (by omega)
  refine aW (Rn t.ring t.aM t.st h.aM (by omega)) ?_;by_cases l:(t.aM.length:Int)=t.st/\∀ w∈t.aM,w.aJ t.ring;rotate_left
  .rw[decide_eq_false l];simp;intro ok;exact l ⟨ok.il,ok.aM⟩
  rw[decide_eq_true l];simp;refine aW (Rn t.ring t.fin t.st h.fin (by omega)) ?_;by_cases n:(t.fin.length:Int)=t.st/\∀ w∈t.fin,w.aJ t.ring;rotate_left
  .have:¬ t.ok:=λok=>n ⟨ok.fl,ok.fin⟩;rw[decide_eq_false n,decide_eq_false this];simp
  have ok:t.ok:=⟨hr,M,N,V,W,l.1,n.1,by omega,G,l.2,n.2⟩;rw[decide_eq_true n,decide_eq_true ok];simp
def nJ:GTrans:=⟨⟨0,[]⟩,0,0,0,[],[],[]⟩
noncomputable def GTrans.nf(a:GTrans):GTrans:=⟨a.ring,a.i,a.o,a.st,a.aM,a.fin,cV a.ring a.aD⟩
def fJ(f:aE->Int)(x:aE):aV:=⟨x.f,f x,x.t,x.w⟩
def Vg(t:GTrans)(C:Int)(d:FuncId)(f:aE->Int)(J:∀ x,Sp P d [enc x] (.pure (.int .i64 (f x))))(n:Nat)(hn:n<=90)(u:3<=n)(h:t.sm n)(K:t.aD.length<=19)(O:t.aM.length<=1000000)(N:t.fin.length<=1000000){A:aU}(l:A=⟨t.ring,C,t.st,t.aM,t.fin,t.aD.map (fJ f)⟩){v:aU}{e:Int}(F:¬ t.ok->v=jS/\e=4)(G:t.ok->v=(if A.vb then A.nf else jS)/\e=if A.vb then 0 else 4) :
  zS 94 [enc t,.int .i64 C,.fn d []] (.bM [enc v,.int .i64 e]):=by
 refine Sp.vz c.da λ_=>?_;simp[g.da];refine aW (Gh t (h.mono (by omega)) O N) ?_;by_cases ok:t.ok;rotate_left
 .obtain⟨rfl,rfl⟩:=F ok;rw[decide_eq_false ok];simp[jS]
 rw[decide_eq_true ok];obtain⟨rfl,rfl⟩:=G ok;have G5:A.sm n:=by subst l;refine⟨h.aM,h.fin,λx B=>?_⟩;obtain⟨y,M,rfl⟩:=cA.1 B;exact h.aD y M
 have w:=YB A n hn u G5 (by subst l;simpa using K);generalize (if A.vb=true then A.nf else jS)=V at *
 generalize (if A.vb=true then(0:Int)else 4)=Q at *
 simp
 refine b6 (S:=λk:Nat=>aB [(2,.p (.fn d [])),(6,.ptr 1 0 0 0),(8,.ptr 2 0 0 0),(26,.p (.sl (ens t.aD))),(27,.p (.int .i64 t.aD.length)),(28,.p (.int .i64 k))]
   [(1,⟨7,[.agg [.p (.int .i64 0),.nil,.p (.int .i64 0),.p (.int .i64 0),.nil,.nil,.nil]]⟩),(2,⟨7,[.agg [.p (.int .i64 t.ring.kind),.p (.sl (ens t.ring.parts)),.p (.int .i64 C),.p (.int .i64 t.st),.p (.sl (ens t.aM)),.p (.sl (ens t.fin)),.own 3 0 0 k]]⟩),(3,⟨11,aK ((t.aD.map (fJ f)).take k)⟩)])
  (I:=λk=>k<=t.aD.length) (m:=λk=>t.aD.length - k) 0
  ((aA.b5 (s0:=8) (g0:=0) (i:=6) (s:=77) (sz:=11) rfl).trans (aA.to [2,6,8,26,27,28] [((6,0),1),((8,0),2),((77,0),3)] (by simp))) (by omega) ?_
 rintro k U R o hr B;have D:=aZ k;simp[g.t7,aB];refine⟨λhk=>?_,λhk=>B _ _ ?_⟩
 .refine bK hk ?_;refine aW (J t.aD[k]) ?_;have j:aK ((t.aD.map (fJ f)).take (k+1))=aK ((t.aD.map (fJ f)).take k)++[.p (enc (fJ f t.aD[k]))]:=by rw[List.take_succ_eq_append_getElem (by simpa using hk),sR];simp
  simp[D];exact⟨by omega,o (k+1) _ (aA.to [2,6,8,26,27,28] [((1,0),1),((2,0),2),((45,0),3)] (by simp[aB,j,fJ])) (by omega) (by omega)⟩
 .have:k=t.aD.length:=by omega
  subst this;have j:(t.aD.map (fJ f)).take t.aD.length=t.aD.map (fJ f):=eZ (by simp);subst l;simp;refine bA w (by simp[j]) ?_;simp
def ygl(x:aE):zS 95 [enc x] (.int .i64 x.i):=by refine Sp.vz c.jp λ_=>?_;simp[g.jp]
def ya2(x:aE):zS 104 [enc x] (.int .i64 x.o):=by refine Sp.vz c.jt λ_=>?_;simp[g.jt]
noncomputable def ES(t:GTrans)(A:aU):aU:=if t.ok then(if A.vb then A.nf else jS)else jS
noncomputable def ER(t:GTrans)(A:aU):Int:=if t.ok then(if A.vb then 0 else 4)else 4
def GTrans.oa(t:GTrans):aU:=⟨t.ring,t.i,t.st,t.aM,t.fin,t.aD.map (fJ aE.i)⟩
def GTrans.fW(t:GTrans):aU:=⟨t.ring,t.o,t.st,t.aM,t.fin,t.aD.map (fJ aE.o)⟩
def z60(t:GTrans)(n:Nat)(hn:n<=90)(d:3<=n)(h:t.sm n)(f:t.aD.length<=19)(k:t.aM.length<=1000000)(j:t.fin.length<=1000000) :
  zS 44 [enc t] (.bM [enc (ES t t.oa),.int .i64 (ER t t.oa)]):=by
 refine Sp.vz c.mn λ_=>?_;simp[g.mn];refine aW (Vg t t.i 95 aE.i ygl n hn d h f k j (A:=t.oa) (v:=ES t t.oa) (e:=ER t t.oa) rfl (λh=>by simp[ES,ER,h]) (λh=>by simp[ES,ER,h])) ?_;simp
def swT(x:aE):aE:=⟨x.f,x.o,x.i,x.t,x.w⟩
def uu(x:aV):aE:=⟨x.f,x.l,x.l,x.t,x.w⟩
def aU.oP(a:aU):GTrans:=⟨a.ring,a.sy,a.sy,a.st,a.aM,a.fin,a.aD.map uu⟩
section
variable {α : Type} {key : α -> List Int} {wt : α -> GW} {r:aC} {up : α -> α -> α} (hr:r.ok=true) (hk:∀ z y,key (up z y)=key z) (hw:∀ z y,wt (up z y)=r.plus (wt z) (wt y))
def zD(key : α -> List Int)(wt : α -> GW)(r:aC)(l:List α)(k:List Int):GW:=mK key wt r l λx=>decide (x=k)
theorem Ko{L:List α}{k:List Int}(h:∀ x∈L,key x≠k):zD key wt r L k=r.zero:=by unfold zD mK;rw[List.filter_eq_nil_iff.2 λx d=>by simpa using h x d];rfl
theorem Kn{L:List α}(s:eH key L)(c:∀ x∈L,(wt x).aJ r){x : α}(k:x∈L):zD key wt r L (key x)=wt x:=by
 induction L with
 | nil=>cases k
 | cons z t l =>
  have j:=mS.1 s;unfold zD;rw[yk];simp only[decide_eq_true_eq];obtain rfl|d:=cI.1 k
  .rw[aX rfl,show mK key wt r t (λa=>decide (a=key x))=r.zero from Ko (wt:=wt) (r:=r) λy i h=>by have:=j.1 y i;rw[h]at this;exact pU _ this];exact z6 (c x (by simp))
  .have f:¬ key z=key x:=λh=>by have:=j.1 x d;rw[h]at this;exact pU _ this
   rw[bD f];exact l j.2 (λy i=>c y (by simp[i])) d
theorem z32:∀ {L f:List α},eH key L->eH key f->(∀ x,x∈L ↔ x∈f)->L=f
 | [],[],_,_,_=>rfl
 | [],y::t,_,_,h=>by have:=(h y).2 (by simp);cases this
 | x::t,[],_,_,h=>by have:=(h x).1 (by simp);cases this
 | x::t,y::o,s,n,h=>by
  have p:=mS.1 s;have k:=mS.1 n;have i:x=y:=by
   obtain e|l:=cI.1 ((h x).1 (by simp))
   .exact e
   .obtain e|m:=cI.1 ((h y).2 (by simp))
    .exact e.symm
    .exact absurd (k.1 x l) (List.lt_asymm (p.1 y m))
  subst i
  congr 1
  refine z32 p.2 k.2 λz=>⟨λd=>?_,λd=>?_⟩
  .obtain e|j:=cI.1 ((h z).1 (by simp[d]))
   .have:=p.1 z d;rw[e]at this;exact absurd this (pU _)
   .exact j
  .obtain e|j:=cI.1 ((h z).2 (by simp[d]))
   .have:=k.1 z d;rw[e]at this;exact absurd this (pU _)
   .exact j
def ybu(ext:∀ x y,key x=key y->wt x=wt y->x=y){L d:List α}(s:eH key L)(f:eH key d)(c:∀ x∈L,(wt x).aJ r)(i:∀ x∈d,(wt x).aJ r)(n:∀ x∈L,wt x≠r.zero)(t:∀ x∈d,wt x≠r.zero)(h:∀ k,zD key wt r L k=zD key wt r d k):L=d:=by
 have one:∀ {L d:List α},eH key L->eH key d->(∀ x∈L,(wt x).aJ r)->(∀ x∈d,(wt x).aJ r)->(∀ x∈L,wt x≠r.zero)->(∀ k,zD key wt r L k=zD key wt r d k)->∀ x∈L,x∈d:=by
  intro L d s f c i n h x p;have j:=h (key x);rw[Kn s c p]at j;by_cases o:∃ y∈d,key y=key x
  .obtain⟨y,l,e⟩:=o;have m:=Kn f i l;rw[e,<- j]at m;rw[ext x y e.symm m];exact l
  .rw[Ko (wt:=wt) (r:=r) λy l e=>o ⟨y,l,e⟩]at j;exact absurd j (n x p)
 exact z32 s f λx=>⟨one s f c i n h x,one f s i c t (λk=>(h k).symm) x⟩
include hr in
theorem z28{l:List α}(h:∀ x∈l,(wt x).aJ r)(p:List Int->Bool):mK key wt r (l.filter λx=>!decide (wt x=r.zero)) p=mK key wt r l p:=by
 induction l with
 | nil=>rfl
 | cons x l j =>
  have d:=j λy f=>h y (by simp[f]);by_cases i:wt x=r.zero
  .rw[List.filter_cons_of_neg (by simp[i]),d,yk];split
   .rw[i,Mo hr (Kq hr (λy f=>h y (by simp[f])) p)]
   .rfl
  .rw[List.filter_cons_of_pos (by simp[i]),yk,yk,d]
noncomputable def tid(key : α -> List Int)(wt : α -> GW)(r:aC)(up : α -> α -> α)(l:List α):List α := (eU key up id (bW key l)).filter λx=>!decide (wt x=r.zero)
include hr hk hw in
theorem Ih{l:List α}(h:∀ x∈l,(wt x).aJ r):eH key (tid key wt r up l)/\(∀ x∈tid key wt r up l,(wt x).aJ r/\wt x≠r.zero)/\∀ p,mK key wt r (tid key wt r up l) p=mK key wt r l p:=by
 have f:=(KA (key:=key) (up:=up) (nw:=id) hk (λ_=>rfl) l);have i:=(Ez (key:=key) (up:=up) (nw:=id) hk (λ_=>rfl) _ (bW key l) rfl f.2).1;have d:=λp=>RY (key:=key) (up:=up) hr hk hw h p l.length (dE _);rw[kK]at d;have e:eU key up id (bW key l)=nZ key up id l:=f.1;unfold tid;refine⟨List.Pairwise.filter _ i,λx j=>?_,λp=>?_⟩
 .have:=List.mem_filter.1 j;rw[e]at this;exact⟨(d λ_=>true).1 x this.1,by simpa using this.2⟩
 .rw[e,z28 hr (d p).1,(d p).2]
include hr hk hw in
theorem yec(ext:∀ x y,key x=key y->wt x=wt y->x=y){l f:List α}(h:∀ x∈l,(wt x).aJ r)(u:∀ x∈f,(wt x).aJ r)(w:∀ p,mK key wt r l p=mK key wt r f p):tid key wt r up l=tid key wt r up f:=by obtain⟨m,i,n⟩:=Ih (up:=up) hr hk hw h;obtain⟨o,j,t⟩:=Ih (up:=up) hr hk hw u;exact ybu ext m o (λx d=>(i x d).1) (λx d=>(j x d).1) (λx d=>(i x d).2) (λx d=>(j x d).2) λk=>by unfold zD;rw[n,t,w]
end
def xB(v w:List Int):Int:=if v.length≠w.length then(if v.length<w.length then -1 else 1)else eW v w
theorem Xw{v w:List Int}{k:Nat}(h:k<v.length)(d:k<w.length):eW (v.drop k) (w.drop k)=if v[k]<w[k]then -1 else if w[k]<v[k]then 1 else eW (v.drop (k+1)) (w.drop (k+1)):=by rw[vJ h,vJ d];rfl
def Q5(v w:List Int)(D:v.length<=1000000000):zS 88 [.sl (ens v),.sl (ens w)] (.int .i64 (xB v w)):=by
 refine Sp.vz c.gi λ_=>?_;by_cases d:v.length=w.length;rotate_left
 .have A:¬ (v.length:Int)=w.length:=by omega
  simp[g.gi,d,xB];by_cases h:v.length<w.length
  .simp[h];intro x;omega
  .simp[h];intro x;omega
 have t:xB v w=eW v w:=by simp[xB,d]
 rw[t];simp[g.gi,d]
 refine b6 (S:=λk:Nat=>aB [(0,.p (.sl (ens v))),(1,.p (.sl (ens w))),(5,.p (.int .i64 k))] []) (I:=λk=>k<=v.length/\eW v w=eW (v.drop k) (w.drop k)) (m:=λk=>v.length - k) 0
  (aA.to [0,1,5] [] (by simp)) ⟨by omega,by simp⟩ ?_
 rintro k ⟨C,j⟩ R l hr B;have u:=aZ k;by_cases hk:k<v.length
 .have f:k<w.length:=by omega
  have i:=Xw hk f;simp[g.tz,aB,hk];refine bK hk ?_;refine bK f ?_;refine⟨λn=>hr _ ?_,λn=>?_⟩
  .rw[aX n]at i;simp[j,i]
  refine bK hk ?_;refine bK f ?_;refine⟨λo=>hr _ ?_,λo=>?_⟩
  .rw[bD (by omega),aX o]at i;simp[j,i]
  .rw[bD (by omega),bD (by omega)]at i;rw[u];exact l (k+1) _ (aA.to [0,1,5] [] (by simp[aB])) ⟨by omega,by rw[j,i]⟩ (by omega)
 .simp[g.tz,aB,hk];refine B _ _ ?_;have:eW v w=0:=by rw[j,EW (by omega)];rfl
  simp[this]
def I'(m:Int):zS 105 [.int .i64 m] (.bool (decide (1<=m/\m<=32))):=by refine Sp.vz c.gj λ_=>?_;simp[g.gj];exact⟨λh _=>h,λh d=>by omega⟩
def AD(v f d:Int):zS 106 [.int .i64 v,.int .i64 f,.int .i64 d] (.bool (decide (f<=v/\v<=d))):=by refine Sp.vz c.ax λ_=>?_;simp[g.ax];exact⟨λh _=>h,λh i=>by omega⟩
def I2(r:aC)(l:List GW)(m:Int)(D:∀ w∈l,w.sm 1048576)(A:l.length<=1000000000):zS 107 [enc r,.sl (ens l),.int .i64 m] (.bool (decide ((l.length:Int)=m/\∀ w∈l,w.aJ r))):=by
 refine Sp.vz c.gk λ_=>?_;by_cases B:(l.length:Int)=m;rotate_left
 .simp[g.gk,B]
 subst B;simp[g.gk]
 refine b6 (S:=λk:Nat=>aB [(1,.p (.sl (ens l))),(2,.p (.int .i64 l.length)),(3,.ptr 1 0 0 0),(7,.p (.int .i64 k))] [(1,⟨2,[.p (enc r)]⟩)]) (I:=λk=>k<=l.length/\∀ i,(j:i<l.length)->i<k->l[i].aJ r) (m:=λk=>l.length - k) 0
  (aA.to [1,2,3,7] [((3,0),1)] (by simp)) ⟨by omega,λi _ h=>by omega⟩ ?_
 rintro k ⟨G,u⟩ R o hr t;have C:=aZ k;simp[g.vl,aB];refine⟨λhk=>?_,λhk=>t _ _ ?_⟩
 .refine bK hk ?_
  try simp
  have d:=bU hk;refine aW (F8 r l[k] (D _ d)) ?_;by_cases f:l[k].aJ r
  .simp[f,C];refine o (k+1) _ (aA.to [1,2,3,7] [((1,0),1)] (by simp[aB])) ⟨by omega,λi j F=>?_⟩ (by omega);by_cases n:i<k
   .exact u i j n
   .have:i=k:=by omega
    subst this;exact f
  .simp[f];refine hr _ ?_;simp;exact⟨_,d,f⟩
 .have:∀ w∈l,w.aJ r:=λx t=>by obtain⟨i,j,rfl⟩:=qW.1 t;exact u i j (by omega)
  simp;exact this
def Mf(x y:aV):zS 57 [enc x,enc y] (.int .i64 (eW x.key y.key)):=by refine Sp.vz c.ge λ_=>?_;simp[g.ge];have k:=Q5 x.key y.key (by simp[aV.key]);rw[show xB x.key y.key=eW x.key y.key from rfl]at k;refine bA k (by simp[aV.key]) ?_;simp
def Pd(r:aC)(l:List GW)(j:∀ w∈l,w.sm 1048576)(h:l.length<=1000000):zS 186 [enc r,.sl (ens l)] (.sl (ens (l.map λw=>w.tk r))):=by
 refine Sp.vz c.pe λ_=>?_;simp[g.pe]
 refine b6 (S:=λk:Nat=>aB [(1,.p (.sl (ens l))),(2,.ptr 2 0 0 0),(5,.own 1 0 0 k),(6,.p (.int .i64 k))] [(2,⟨2,[.p (enc r)]⟩),(1,⟨8,aK ((l.map λw=>w.tk r).take k)⟩)]) (I:=λk=>k<=l.length) (m:=λk=>l.length - k) 0
  (aA.nl 5 77 8 rfl (aA.to [1,2,5,6] [((2,0),2),((77,0),1)] (by simp))) (by omega) ?_
 rintro k o R f hr n;have i:=aZ k;simp[g.w6,aB];refine⟨λhk=>?_,λhk=>n _ _ ?_⟩
 .refine bK hk ?_
  try simp
  refine aW (lQ r l[k] (j _ (List.getElem_mem hk))) ?_;have d:aK ((l.map λw=>w.tk r).take (k+1))=aK ((l.map λw=>w.tk r).take k)++[.p (enc (l[k].tk r))]:=by rw[List.take_succ_eq_append_getElem (by simpa using hk),sR];simp
  simp[i];exact⟨⟨by omega,by omega⟩,f (k+1) _ (aA.to [1,2,5,6] [((2,0),2),((21,0),1)] (by simp[aB,d])) (by omega) (by omega)⟩
 .have:k=l.length:=by omega
  subst this;have d:(l.map λw=>w.tk r).take l.length=l.map λw=>w.tk r:=eZ (by simp);simp[d]
def yad(r:aC)(d:r.parts.length<=1000000):zS 185 [enc r] (enc r):=by
 refine Sp.vz c.pd λ_=>?_;simp[g.pd]
 try omega
def zY{a:aU}(h:¬ a.ok):a.vb=false:=by
 cases d:a.vb
 .rfl
 .exact absurd (aU.iV.1 d) h
def Yb(a:aU)(h:a.sm 1048576)(li:a.aM.length<=1000000)(lf:a.fin.length<=1000000):zS 109 [enc a] (.bool a.vb):=by
 refine Sp.vz c.n7 λ_=>?_;simp[g.n7];refine bA (oG a.ring) rfl ?_;cases hr:a.ring.ok
 .simp;exact zY λok=>by rw[ok.ring]at hr;cases hr
 simp;refine bA (I' a.sy) rfl ?_;by_cases A:1<=a.sy/\a.sy<=32;rotate_left
 .rw[decide_eq_false A];simp;exact zY λok=>A ⟨ok.NS,ok.NR⟩
 rw[decide_eq_true A];simp;refine bA (AD a.st 0 64) rfl ?_;by_cases B:0<=a.st/\a.st<=64;rotate_left
 .rw[decide_eq_false B];simp;exact zY λok=>B ⟨ok.st1,ok.st2⟩
 rw[decide_eq_true B];simp;refine aW (I2 a.ring a.aM a.st h.aM (by omega)) ?_;by_cases C:(a.aM.length:Int)=a.st/\∀ w∈a.aM,w.aJ a.ring;rotate_left
 .rw[decide_eq_false C];simp;exact zY λok=>C ⟨ok.il,ok.aM⟩
 rw[decide_eq_true C];simp;refine aW (I2 a.ring a.fin a.st h.fin (by omega)) ?_;by_cases D:(a.fin.length:Int)=a.st/\∀ w∈a.fin,w.aJ a.ring;rotate_left
 .rw[decide_eq_false D];simp;exact zY λok=>D ⟨ok.fl,ok.fin⟩
 rw[decide_eq_true D];simp;refine⟨λY=>zY λok=>by have:=ok.al;omega,λY=>?_⟩
 refine b6 (S:=λk:Nat=>aB [(1,.ptr 1 0 0 0),(3,.p (.int .i64 k))] [(1,⟨7,[.p (enc a)]⟩)]) (I:=λk=>k<=a.aD.length/\∀ i,(G:i<a.aD.length)->i<k->oa a.aD[i] a) (m:=λk=>a.aD.length - k) 0
  (aA.to [1,3] [((1,0),1)] (by simp)) ⟨by omega,λi _ X=>by omega⟩ ?_
 rintro k ⟨h6,V⟩ R hn o J;have W:=aZ k;have U:IntKind.i64.wrap (a.st - 1)=a.st - 1:=by
  by_cases hs:1<=a.st
  .obtain⟨m,Z⟩:=JB (show 0<=a.st - 1 by omega);rw[Z];exact cL (by omega) (by omega)
  .have:a.st=0:=by omega
   rw[this];rfl
 simp[g.vr,aB,U];refine⟨λhk=>?_,λhk=>J _ _ ?_⟩
 .refine bK hk ?_;have d:¬ oa a.aD[k] a->¬ a.ok:=λh ok=>h (ok.aD _ (bU hk));have Q:a.aD[k].w.sm 1048576:=h.aD _ (bU hk);have u:oa a.aD[k] a->∀ i,(G:i<a.aD.length)->i<k+1->oa a.aD[i] a:=λJ i G X=>by
   by_cases O:i<k
   .exact V i G O
   .have:i=k:=by omega
    subst this;exact J
  generalize a.aD[k]=x at *
  refine bA (AD x.f 0 (a.st - 1)) rfl ?_;by_cases K:0<=x.f/\x.f<=a.st - 1;rotate_left
  .rw[decide_eq_false K];simp;refine o _ ?_;simp;exact zY (d λn=>K ⟨n.1,by have:=n.2.1;omega⟩)
  rw[decide_eq_true K];simp[U];refine bA (AD x.t 0 (a.st - 1)) rfl ?_;by_cases M:0<=x.t/\x.t<=a.st - 1;rotate_left
  .rw[decide_eq_false M];simp;refine o _ ?_;simp;exact zY (d λn=>M ⟨n.2.2.1,by have:=n.2.2.2.1;omega⟩)
  rw[decide_eq_true M];simp;refine bA (AD x.l 0 a.sy) rfl ?_;by_cases j:0<=x.l/\x.l<=a.sy;rotate_left
  .rw[decide_eq_false j];simp;refine o _ ?_;simp;exact zY (d λn=>j ⟨n.2.2.2.2.1,n.2.2.2.2.2.1⟩)
  rw[decide_eq_true j];simp;refine aW (F8 a.ring x.w Q) ?_;by_cases N:x.w.aJ a.ring;rotate_left
  .simp[N];refine o _ ?_;simp;exact zY (d λn=>N n.2.2.2.2.2.2)
  simp[N,W];exact hn (k+1) _ (aA.to [1,3] [((1,0),1)] (by simp[aB])) ⟨by omega,u ⟨K.1,by omega,M.1,by omega,j.1,j.2,N⟩⟩ (by omega)
 .have F:∀ x∈a.aD,oa x a:=λx J=>by obtain⟨i,G,rfl⟩:=qW.1 J;exact V i G (by omega)
  have ok:a.ok:=⟨hr,A.1,A.2,B.1,B.2,C.1,D.1,by omega,F,C.2,D.2⟩;simp[aU.iV.2 ok]
end Go.Ab
namespace Go.Ab
open Enc (enc)
attribute [local simp] iJ bP.aY
section
variable {α : Type} {key : α -> List Int} {up : α -> α -> α} {nw : α -> α}
theorem Px{B:List α}{x : α}:∀ {A:List α},(∀ a∈A,key a<key x)->eX key up nw (A++B) x=A++eX key up nw B x
 | [],_=>rfl
 | a::A,h=>by rw[xX,xX,<- Px (A:=A) λb d=>h b (by simp[d])];simp[eX,h a (by simp)]
def KU{O:List α}{x : α}{k:Nat}(h:∀ i,(f:i<O.length)->i<k->key O[i]<key x):eX key up nw O x=O.take k++eX key up nw (O.drop k) x:=by
 have e:=Px (up:=up) (nw:=nw) (B:=O.drop k) (x:=x) (A:=O.take k) λa j=>by obtain⟨i,f,rfl⟩:=qW.1 j;have d:=f;rw[fY]at d;rw[List.getElem_take];exact h i (by omega) (by omega)
 rwa[oK]at e
def Ti{O:List α}{x : α}(h:∀ i,(d:i<O.length)->key O[i]<key x):eX key up nw O x=O++[nw x]:=by rw[KU (k:=O.length) λi d _=>h i d];simp[eX]
def R'{O:List α}{x : α}{k:Nat}(hk:k<O.length)(h:∀ i,(f:i<O.length)->i<k->key O[i]<key x)(d:key O[k]=key x):eX key up nw O x=O.set k (up O[k] x):=by
 rw[KU h,vJ hk];have:¬ key O[k]<key x:=by rw[d];exact pU _
 simp only[eX,bD this,aX d];rw[List.set_eq_take_append_cons_drop,aX hk]
def Tk{O:List α}{x : α}{k:Nat}(hk:k<O.length)(h:∀ i,(j:i<O.length)->i<k->key O[i]<key x)(d:¬ key O[k]<key x)(f:key O[k]≠key x):eX key up nw O x=O.take k++nw x::O.drop k:=by rw[KU h,vJ hk];simp[eX,d,f]
end
noncomputable def JO(r:aC)(l:List aV):List aV:=(nZ aV.key (lO r) id l).filter λx=>!decide (x.w=r.zero)
def Yr(r:aC)(l:List aV):JO r l=mY r l:=by unfold JO mY;rw[(KA (up:=lO r) (nw:=id) (λ_ _=>rfl) (λ_=>rfl) l).1]
def T2{r:aC}{l:List GW}(h:∀ w∈l,w.aJ r):(l.map λw=>w.tk r)=l:=by have:(l.map λw=>w.tk r)=l.map id:=uK λw hw=>Fv (h w hw);rw[this,List.map_id]
noncomputable instance:DecidableEq aV:=λ_ _=>Classical.propDecidable _
noncomputable instance:DecidableEq aE:=λ_ _=>Classical.propDecidable _
noncomputable instance:DecidableEq aU:=λ_ _=>Classical.propDecidable _
noncomputable instance:DecidableEq GTrans:=λ_ _=>Classical.propDecidable _
def yhe{x y:aV}:x=y ↔ x.key=y.key/\x.w=y.w:=by cases x;cases y;simp[aV.key,and_assoc]
def Wx{x y:aE}:x=y ↔ x.key=y.key/\x.w=y.w:=by cases x;cases y;simp[aE.key,and_assoc]
def OT(a b:aU)(h:a.sm 1048576)(U:a.aM.length<=1000000)(Q:a.fin.length<=1000000)(O:a.aD.length<=1000000) :
  zS 17 [enc a,enc b] (.bool (decide (a=b))):=by
 refine Sp.vz c.dq λ_=>?_;simp[g.dq];refine aW (OS a.ring b.ring) ?_;by_cases f:a.ring=b.ring;rotate_left
 .rw[decide_eq_false f];simp;exact λh=>f (by rw[h])
 rw[decide_eq_true f];simp;by_cases i:a.sy=b.sy;rotate_left
 .simp[i];exact λh=>i (by rw[h])
 by_cases u:a.st=b.st;rotate_left
 .simp[i,u];exact λh=>u (by rw[h])
 simp[i,u];refine aW (RF a.aM b.aM (by omega) h.aM) ?_;by_cases x:a.aM=b.aM;rotate_left
 .rw[decide_eq_false x];simp;exact λh=>x (by rw[h])
 rw[decide_eq_true x];simp;refine aW (RF a.fin b.fin (by omega) h.fin) ?_;by_cases A:a.fin=b.fin;rotate_left
 .rw[decide_eq_false A];simp;exact λh=>A (by rw[h])
 rw[decide_eq_true A];simp;by_cases F:a.aD.length=b.aD.length;rotate_left
 .have:¬ (a.aD.length:Int)=b.aD.length:=by omega
  simp[this];exact λh=>F (by rw[h])
 simp[F]
 refine b6 (S:=λk:Nat=>aB [(2,.ptr 1 0 0 0),(3,.ptr 2 0 0 0),(5,.p (.int .i64 k))] [(1,⟨7,[.p (enc a)]⟩),(2,⟨7,[.p (enc b)]⟩)]) (I:=λk=>k<=a.aD.length/\a.aD.take k=b.aD.take k) (m:=λk=>a.aD.length - k) 0
  (aA.to [2,3,5] [((2,0),1),((3,0),2)] (by simp[i,u])) ⟨by omega,by simp⟩ ?_
 rintro k ⟨N,B⟩ R K t M;have J:=aZ k;by_cases hk:k<a.aD.length
 .have j:k<b.aD.length:=by omega
  have n:a.aD[k].w.sm 1048576:=h.aD _ (bU hk);have o:a.aD[k]≠b.aD[k]->a≠b:=λf i=>by subst i;exact f rfl
  have D:a.aD[k]=b.aD[k]->a.aD.take (k+1)=b.aD.take (k+1):=λf=>by rw[ed hk,ed j,B,f]
  simp[g.s8,aB,hk];refine bK hk ?_;refine bK j ?_;have l:eW a.aD[k].key b.aD[k].key=0 ↔ a.aD[k].key=b.aD[k].key:=CF (by simp[aV.key]);refine aW (Mf a.aD[k] b.aD[k]) ?_;simp;refine⟨λC=>?_,λC=>t _ ?_⟩
  .refine bK hk ?_;refine bK j ?_;refine aW (Iy a.aD[k].w n b.aD[k].w) ?_;by_cases d:a.aD[k].w=b.aD[k].w
   .rw[decide_eq_true d];simp[J];exact K (k+1) _ (aA.to [2,3,5] [((1,0),1),((2,0),2)] (by simp[aB])) ⟨by omega,D (yhe.2 ⟨l.1 C,d⟩)⟩ (by omega)
   .rw[decide_eq_false d];simp;refine t _ ?_;simp;exact o λh=>d (by rw[h])
  .simp;exact o λh=>C (l.2 (by rw[h]))
 .simp[g.s8,aB,hk];refine M _ _ ?_;have G:a.aD=b.aD:=by rw[eZ (by omega),eZ (by omega)]at B;exact B
  have:a=b:=by cases a;cases b;simp_all
  simp[this]
def QB(x y:aE):zS 39 [enc x,enc y] (.int .i64 (eW x.key y.key)):=by refine Sp.vz c.ji λ_=>?_;simp[g.ji];have k:=Q5 x.key y.key (by simp[aE.key]);rw[show xB x.key y.key=eW x.key y.key from rfl]at k;refine bA k (by simp[aE.key]) ?_;simp
def MM(a:GTrans)(h:a.sm 1048576)(li:a.aM.length<=1000000)(lf:a.fin.length<=1000000):zS 52 [enc a] (.bool (decide a.ok)):=by
 refine Sp.vz c.am λ_=>?_;simp[g.am];refine bA (oG a.ring) rfl ?_;cases hr:a.ring.ok
 .simp;exact λok=>by rw[ok.ring]at hr;cases hr
 simp;refine bA (I' a.i) rfl ?_;by_cases M:1<=a.i/\a.i<=32;rotate_left
 .rw[decide_eq_false M];simp;exact λok=>M ok.i1
 rw[decide_eq_true M];simp;refine bA (I' a.o) rfl ?_;by_cases B:1<=a.o/\a.o<=32;rotate_left
 .rw[decide_eq_false B];simp;exact λok=>B ok.o1
 rw[decide_eq_true B];simp;refine bA (AD a.st 0 64) rfl ?_;by_cases C:0<=a.st/\a.st<=64;rotate_left
 .rw[decide_eq_false C];simp;exact λok=>C ⟨ok.st1,ok.st2⟩
 rw[decide_eq_true C];simp;refine aW (I2 a.ring a.aM a.st h.aM (by omega)) ?_;by_cases D:(a.aM.length:Int)=a.st/\∀ w∈a.aM,w.aJ a.ring;rotate_left
 .rw[decide_eq_false D];simp;exact λok=>D ⟨ok.il,ok.aM⟩
 rw[decide_eq_true D];simp;refine aW (I2 a.ring a.fin a.st h.fin (by omega)) ?_;by_cases F:(a.fin.length:Int)=a.st/\∀ w∈a.fin,w.aJ a.ring;rotate_left
 .rw[decide_eq_false F];simp;exact λok=>F ⟨ok.fl,ok.fin⟩
 rw[decide_eq_true F];simp;refine⟨λZ=>λok=>by have:=ok.al;omega,λZ=>?_⟩
 refine b6 (S:=λk:Nat=>aB [(1,.ptr 1 0 0 0),(3,.p (.int .i64 k))] [(1,⟨8,[.p (enc a)]⟩)]) (I:=λk=>k<=a.aD.length/\∀ i,(J:i<a.aD.length)->i<k->inT a.aD[i] a) (m:=λk=>a.aD.length - k) 0
  (aA.to [1,3] [((1,0),1)] (by simp)) ⟨by omega,λi _ B=>by omega⟩ ?_
 rintro k ⟨h6,X⟩ R hn u K;have Y:=aZ k;have W:IntKind.i64.wrap (a.st - 1)=a.st - 1:=by
  by_cases hs:1<=a.st
  .obtain⟨m,hm⟩:=JB (show 0<=a.st - 1 by omega);rw[hm];exact cL (by omega) (by omega)
  .have:a.st=0:=by omega
   rw[this];rfl
 simp[g.u7,aB,W];refine⟨λhk=>?_,λhk=>K _ _ ?_⟩
 .refine bK hk ?_;have d:¬ inT a.aD[k] a->¬ a.ok:=λh ok=>h (ok.aD _ (bU hk));have V:a.aD[k].w.sm 1048576:=h.aD _ (bU hk);have A:inT a.aD[k] a->∀ i,(J:i<a.aD.length)->i<k+1->inT a.aD[i] a:=λK i J B=>by
   by_cases U:i<k
   .exact X i J U
   .have:i=k:=by omega
    subst this;exact K
  generalize a.aD[k]=x at *
  refine bA (AD x.f 0 (a.st - 1)) rfl ?_;by_cases N:0<=x.f/\x.f<=a.st - 1;rotate_left
  .rw[decide_eq_false N];simp;refine u _ ?_;simp;exact(d λj=>N ⟨j.1,by have:=j.2.1;omega⟩)
  rw[decide_eq_true N];simp[W];refine bA (AD x.t 0 (a.st - 1)) rfl ?_;by_cases O:0<=x.t/\x.t<=a.st - 1;rotate_left
  .rw[decide_eq_false O];simp;refine u _ ?_;simp;exact(d λj=>O ⟨j.2.2.1,by have:=j.2.2.2.1;omega⟩)
  rw[decide_eq_true O];simp;refine bA (AD x.i 0 a.i) rfl ?_;by_cases l:0<=x.i/\x.i<=a.i;rotate_left
  .rw[decide_eq_false l];simp;refine u _ ?_;simp;exact(d λj=>l ⟨j.2.2.2.2.1,j.2.2.2.2.2.1⟩)
  rw[decide_eq_true l];simp;refine bA (AD x.o 0 a.o) rfl ?_;by_cases n:0<=x.o/\x.o<=a.o;rotate_left
  .rw[decide_eq_false n];simp;refine u _ ?_;simp;exact(d λj=>n ⟨j.2.2.2.2.2.2.1,j.2.2.2.2.2.2.2.1⟩)
  rw[decide_eq_true n];simp;refine aW (F8 a.ring x.w V) ?_;by_cases Q:x.w.aJ a.ring;rotate_left
  .simp[Q];refine u _ ?_;simp;exact(d λj=>Q j.2.2.2.2.2.2.2.2)
  simp[Q,Y];exact hn (k+1) _ (aA.to [1,3] [((1,0),1)] (by simp[aB])) ⟨by omega,A ⟨N.1,by omega,O.1,by omega,l.1,l.2,n.1,n.2,Q⟩⟩ (by omega)
 .have G:∀ x∈a.aD,inT x a:=λx K=>by obtain⟨i,J,rfl⟩:=qW.1 K;exact X i J (by omega)
  have ok:a.ok:=⟨hr,M,B,C.1,C.2,D.1,F.1,by omega,G,D.2,F.2⟩;simp[ok]
noncomputable def JP(r:aC)(l:List aE):List aE:=(nZ aE.key (lE r) id l).filter λx=>!decide (x.w=r.zero)
def Yt(r:aC)(l:List aE):JP r l=cV r l:=by unfold JP cV;rw[(KA (up:=lE r) (nw:=id) (λ_ _=>rfl) (λ_=>rfl) l).1]
def Ub{t:GTrans}(h:t.ok):t.oa.ok :=
 ⟨h.ring,h.i1.1,h.i1.2,h.st1,h.st2,h.il,h.fl,by simpa[GTrans.oa]using h.al,λx n=>by
  obtain⟨y,o,rfl⟩:=cA.1 n;obtain⟨d,f,i,j,k,l,p,u,m⟩:=h.aD y o;exact⟨d,f,i,j,k,l,m⟩,h.aM,h.fin⟩
def yfs{t:GTrans}(h:t.ok):t.fW.ok :=
 ⟨h.ring,h.o1.1,h.o1.2,h.st1,h.st2,h.il,h.fl,by simpa[GTrans.fW]using h.al,λx n=>by
  obtain⟨y,o,rfl⟩:=cA.1 n;obtain⟨d,f,i,j,p,u,k,l,m⟩:=h.aD y o;exact⟨d,f,i,j,k,l,m⟩,h.aM,h.fin⟩
def Ua{a:aU}(h:a.ok):a.oP.ok :=
 ⟨h.ring,⟨h.NS,h.NR⟩,⟨h.NS,h.NR⟩,h.st1,h.st2,h.il,h.fl,by simpa[aU.oP]using h.al,λx n=>by
  obtain⟨y,o,rfl⟩:=cA.1 n;obtain⟨i,j,k,l,d,f,m⟩:=h.aD y o;exact⟨i,j,k,l,d,f,d,f,m⟩,h.aM,h.fin⟩
end Go.Ab
namespace Go.Ab
section
variable {α : Type} {key : α -> List Int} {wt : α -> GW} {r:aC} {up : α -> α -> α}
def yeb(hr:r.ok=true)(hk:∀ z y,key (up z y)=key z)(hw:∀ z y,wt (up z y)=r.plus (wt z) (wt y)){l:List α}(h:∀ x∈l,(wt x).aJ r){x : α}(j:x∈tid key wt r up l):∃ y∈l,key y=key x:=by
 obtain⟨s,c,e⟩:=Ih (up:=up) hr hk hw h;by_cases i:∃ y∈l,key y=key x
 .exact i
 .have d:=Kn s (λy f=>(c y f).1) j;unfold zD at d;rw[e]at d;have k:zD key wt r l (key x)=r.zero:=Ko λy f e=>i ⟨y,f,e⟩;exact absurd (d.symm.trans k) (c x j).2
def yea(hk:∀ z y,key (up z y)=key z)(l:List α):(tid key wt r up l).length<=l.length:=by unfold tid;refine dM (kB _ _) ?_;have h:=(HL (key:=key) (up:=up) (nw:=id) (Q:=λ_ _=>True) (l:=bW key l) (λ_ _ _=>trivial) (λ_ _=>trivial) (λ_ _ _ _ _=>trivial) (λ_ _ _=>trivial) _ (dE _)).1;rw[kK,(gB l).2.1]at h;exact h
end
def X4{r:aC}(hr:r.ok=true){l:List aE}(h:∀ x∈l,x.w.aJ r):eH aE.key (tid aE.key aE.w r (lE r) l)/\(∀ x∈tid aE.key aE.w r (lE r) l,x.w.aJ r/\x.w≠r.zero)/\∀ p,mK aE.key aE.w r (tid aE.key aE.w r (lE r) l) p=mK aE.key aE.w r l p:=Ih (key:=aE.key) (wt:=aE.w) (up:=lE r) hr (λ_ _=>rfl) (λ_ _=>rfl) h
def DV{a:GTrans}(ok:a.ok):a.nf.ok:=by have l:∀ x∈a.aD,x.w.aJ a.ring:=λx f=>(ok.aD x f).2.2.2.2.2.2.2.2;refine⟨ok.ring,ok.i1,ok.o1,ok.st1,ok.st2,ok.il,ok.fl,dM (yea (key:=aE.key) (wt:=aE.w) (r:=a.ring) (up:=lE a.ring) (λ_ _=>rfl) a.aD) ok.al,λx f=>?_,ok.aM,ok.fin⟩;have d:x∈tid aE.key aE.w a.ring (lE a.ring) a.aD:=f;obtain⟨y,C,e⟩:=yeb (key:=aE.key) (wt:=aE.w) (up:=lE a.ring) ok.ring (λ_ _=>rfl) (λ_ _=>rfl) l d;obtain⟨m,n,o,p,t,u,A,B,_⟩:=ok.aD y C;simp only[aE.key,List.cons.injEq,and_true]at e;obtain⟨h,i,j,k⟩:=e;exact⟨h ▸ m,h ▸ n,k ▸ o,k ▸ p,i ▸ t,i ▸ u,j ▸ A,j ▸ B,((X4 ok.ring l).2.1 x d).1⟩
end Go.Ab
