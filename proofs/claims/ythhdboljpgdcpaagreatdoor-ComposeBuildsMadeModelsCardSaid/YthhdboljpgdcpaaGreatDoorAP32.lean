/- Lemmas for the law ComposeBuildsMadeModels, part 32. No conditions. -/
import Derived.Test.YthhdboljpgdcpaaGreatDoorAP30
import Derived.Test.YthhdboljpgdcpaaGreatDoorAP31
import Derived.Test.YthhdboljpgdcpaaGreatDoorAP28
set_option maxRecDepth 100000
set_option maxHeartbeats 4000000
set_option linter.all false
namespace Go.Ab
open Enc (enc)
def Yo:Iw P 341 6:=Ck
def X5(m n:aF):zS 342 [enc m,enc n] (.int .i64 (n.e.cmp m.e)):=by refine Sp.vz c.cn λ_=>?_;simp[g.cn];refine bF (OO m.e n.e) rfl ?_;simp
def yay:jD P 391 [.sl [],.int .i64 0,.int .i64 0,.fn 342 []] 0 6 [] (.pure (.bP [])):=by refine jD.cS c.ou (by simp) rfl rfl ?_;simp[g.ou];refine AE λR b d a=>?_;simp[g.vg,g.vh];refine a _ _ ?_;simp
def yab(k:Int):jD P 372 [.sl [],.int .i64 0,.int .i64 0,.int .i64 k,.fn 342 []] 0 6 [] (.pure (.bP [])):=by refine jD.cS c.j9 (by simp) rfl rfl ?_;simp[g.j9];refine AE λR b a d=>?_;simp[g.vf];refine sE yay (by simp) rfl rfl (by simp) rfl rfl rfl rfl rfl (by simp) ?_;simp;exact a _ (by simp)
def Ex.mC(x y:Ex):x.cmp y<0 ↔ x.a<y.a\/(x.a=y.a/\(x.b<y.b\/(x.b=y.b/\x.c<y.c))):=by
 unfold Ex.cmp
 repeat' split
 all_goals omega
def sD(x:PV):Prop:=∃ m:aF,x=enc m
def sX:PV->Ex
 | .agg (.int _ a::.int _ b::.int _ c::_)=>⟨a,b,c⟩
 | _=>⟨0,0,0⟩
theorem Y1(m:aF):sX (enc m)=m.e:=rfl
def Ex.ext'{x y:Ex}(a:¬ x.cmp y<0)(b:¬ y.cmp x<0):x=y:=by rw[Ex.mC]at a b;cases x;cases y;simp only[Ex.mk.injEq]at *;omega
theorem VB(l k:List aF)(L:l.length<=1073741824)(I:(l.map (·.e)).Nodup)(hp:k.Perm l)(hs:k.Pairwise λx y=>y.e.cmp x.e<0):jD P 341 [.sl (aH l),.fn 342 []] 0 6 (aH k) (.pure (.bP [])):=by
 have p:=Lh c.d6;have r:=Lh c.cn;cases l with
 | nil =>
  have:k=[]:=List.Perm.eq_nil hp;subst this;refine jD.cS c.d6 (by simp) rfl rfl ?_;simp[g.d6];refine bF Z7 rfl ?_;simp;refine sE (yab 0) (by simp) rfl rfl (by simp) rfl rfl rfl rfl rfl (by simp) ?_;simp
 | cons m l =>
  have s:∀ x y:aF,x∈m::l->y∈m::l->x.e=y.e->x=y:=λx y u w d=>by obtain⟨i,G⟩:=List.getElem?_of_mem u;obtain⟨j,H⟩:=List.getElem?_of_mem w;obtain⟨J,B⟩:=List.getElem?_eq_some_iff.1 G;obtain⟨K,C⟩:=List.getElem?_eq_some_iff.1 H;have:i=j:=(List.getElem_inj (h₀ := by simpa using J) (h₁ := by simpa using K) I).1 (by simp only[List.getElem_map,B,C,d]);subst this;rw[<- B,<- C]
  refine Yo.spM p (by decide) (D:=sD) (c:=λx y=>(sX y).cmp (sX x)) r ?_ ?_ ?_ ?_ (by simp[-jE,aH]) (by simp only[Lc];omega) ?_ ?_ ?_
  .rintro _ _ ⟨x,rfl⟩ ⟨y,rfl⟩;exact X5 x y
  .rintro _ ⟨x,rfl⟩;rw[Ex.mC];omega
  .rintro _ _ _ ⟨x,rfl⟩ ⟨y,rfl⟩ ⟨z,rfl⟩ n o;simp only[Ex.mC]at *;omega
  .rintro _ _ _ ⟨x,rfl⟩ ⟨y,rfl⟩ ⟨z,rfl⟩ n o;simp only[Ex.mC]at *;omega
  .intro e d;obtain⟨x,_,rfl⟩:=cD.1 d;exact⟨x,rfl⟩
  .intro e d;exact R9 _ e d
  .intro M A t;have f:(aH k).Perm (aH (m::l)):=hp.map _;refine List.Perm.eq_of_pairwise (le:=λx y=>¬ (sX x).cmp (sX y)<0) (λa b E F n o=>?_) t ?_ (A.trans f.symm)
   .obtain⟨x,u,rfl⟩:=cD.1 (A.mem_iff.1 E);obtain⟨y,w,rfl⟩:=cD.1 (f.mem_iff.1 F);have:=s x y u w (Ex.ext' n o);rw[this]
   .rw[aH,L9];refine hs.imp λ{x y} h=>?_;simp only[Y1,Ex.mC]at *
    omega
def Bm(p:Ex × aS):Option aF:=if p.2.v≠0 then some ⟨p.1,p.2⟩else none
def nz(L:List (Ex × aS)):List aF:=L.filterMap Bm
def oX(L:List (Ex × aS))(j:Nat):Option aF:=L[j]?.bind Bm
theorem QZ{α β : Type}(f : α -> Option β):∀ (L:List α),(List.range L.length).filterMap (λj=>L[j]?.bind f)=L.filterMap f
 | []=>rfl
 | x::L=>by
  rw[pQ,List.range_succ_eq_map,FB];have h:(List.map Nat.succ (List.range L.length)).filterMap (λj=>(x::L)[j]?.bind f)=L.filterMap f:=by rw[List.filterMap_map,<- QZ f L];rfl
  simp only[List.getElem?_cons_zero,Option.bind_some,h,FB]
def yah(L:List (Ex × aS)):(List.range L.length).filterMap (oX L)=nz L:=QZ Bm L
theorem P2{j:Nat}{a:List Nat}(m:j∈a):∀ {R:List Nat},R.Nodup->(R.filter λi=>i∉a.filter λi=>!decide (i=j)).Perm ((if j∈R then[j]else[])++R.filter λi=>i∉a)
 | [],_=>by simp
 | x::R,h=>by
  obtain⟨n,o⟩:=uH.1 h;have f:=P2 m o;by_cases l:x=j
  .subst l;have b:decide (x∉a.filter λi=>!decide (i=x))=true:=by simp
   have d:decide (x∉a)=false:=by simp[m]
   rw[aY n]at f;simp only[DN,b,d,gJ,fQ,bY,true_or,cB,List.singleton_append,uJ]at f ⊢;exact f.cons x
  .have p:(j∈x::R) ↔ j∈R:=by simp[v8 l]
   simp only[p];by_cases k:x∈a
   .have b:decide (x∉a.filter λi=>!decide (i=j))=false:=by simp[k,l]
    have d:decide (x∉a)=false:=by simp[k]
    simp only[DN,b,d,gJ,fQ];exact f
   .have b:decide (x∉a.filter λi=>!decide (i=j))=true:=by simp[k]
    have d:decide (x∉a)=true:=by simp[k]
    simp only[DN,b,d,cB];exact(f.cons x).trans List.perm_middle.symm
theorem ZL{L:List (Ex × aS)}{a:List Nat}{j:Nat}(d:j∈a)(f:j<L.length){acc:List aF}(h:acc.Perm (((List.range L.length).filter λi=>i∉a).filterMap (oX L))) :
  (match oX L j with|some m=>acc++[m]|none=>acc).Perm (((List.range L.length).filter λi=>i∉a.filter λi=>!decide (i=j)).filterMap (oX L)):=by
 have b:=(P2 d (R:=List.range L.length) List.nodup_range).filterMap (oX L);rw[aW (xP.2 f),List.singleton_append,FB]at b;refine List.Perm.trans ?_ b.symm;cases oX L j with
 | none=>exact h
 | some m=>exact(List.perm_append_comm (l₁ := acc) (l₂ := [m])).trans (h.cons m)
def Kh{L:List (Ex × aS)}(h:(L.map (·.1)).Nodup):((nz L).map (·.e)).Nodup:=by
 have a:∀ L:List (Ex × aS),((nz L).map (·.e)).Sublist (L.map (·.1)):=by
  intro L
  induction L with
  | nil=>exact List.Sublist.refl _
  | cons p L d =>
   simp only[nz,FB,Bm]at d ⊢;split
   .rename_i f;exact d.cons _
   .rename_i m b;split at b
    .cases b;exact d.cons_cons _
    .cases b
 exact(a L).nodup h
def Bo(a:Nat)(acc:List aF):St:=aD [(3,.own 1 0 0 acc.length),(7,.p (.wN a))] [(1,⟨6,aT acc⟩)]
def M7(f r:Nat)(L:List (Ex × aS))(n:Nat)(s:St)(B:Option FA):Prop:=∃ a b d,aA s (Bo f a)/\B=some (n' f r (n4 L) (o5 L) b d)/\b.length=n/\a.length+b.length<=L.length/\a.Perm (((List.range L.length).filter λi=>i∉b).filterMap (oX L))
def lsE(d:Nat)(L:List (Ex × aS))(b:Exit)(s:St):Prop:=b=.exit 0/\∃ a,aA s (Bo d a)/\a.Perm (nz L)/\a.length<=L.length
def Qb(r:Nat)(L:List (Ex × aS))(W:∀ p∈L,p.2.sm 4194304)(H:(L.map (·.1)).Nodup)(Q:L.length<=1000000)(w:List aF)(hp:w.Perm (nz L))(hs:w.Pairwise λx y=>y.e.cmp x.e<0) :
  Sp P 292 [.mp r (n4 L) (o5 L)] (.fresh 6 (aH w)):=by
 refine Sp.gG c.go (by simp) ?_;unfold g.go;generalize X:(λD s (_:Option FA)=>iG [(2,none)] (RV.fresh 6 (aH w)) D s)=Post;refine MR.dD ?_;simp;refine MR.dD ?_;simp;refine MR.cN (MR.cN (MR.oo (AR 1 [[0],[6]] ?_)));simp;refine eD.cons (z51 ty.map (by rfl) λS=>?_);refine yw [] ?_;simp;refine MR.kM (MR.mono (MR.nK (Post:=λD s B=>lsE S L D s) (I:=M7 S r L) L.length ?_ ?_) ?_)
 .refine⟨[],List.range L.length,none,?_,by simp[n4],by simp,by simp,?_⟩
  .exact aA.nl 3 1 6 rfl (aA.to [3,7] [((1,0),1)] (by simp[Bo,aD]))
  .have:(List.range L.length).filter (λi=>i∉List.range L.length)=[]:=by rw[List.filter_eq_nil_iff];intro a N;simp at N ⊢;exact N
   rw[this];exact List.Perm.refl _
 .rintro n s B ⟨f,K,U,J,rfl,R,F,b⟩;refine MR.eg J ?_;unfold g.u4;refine MR.cN (MR.oo (eD.cons (yan rfl (λV=>?_) (λj O Y Z l u=>?_))))
  .refine yw [[8]] ?_;simp;refine MR.cN (MR.eR (t:=false) rfl (λh=>by cases h) (λ_=>MR.uP ⟨λh=>(by cases h),λ_=>⟨λh=>(by cases h),λ_=>⟨rfl,f,?_,?_,by omega⟩⟩⟩))
   .exact aA.to [3,7] [((1,0),1)] (by simp[Bo,aD])
   .subst V;have e:(List.range L.length).filter (λi=>decide (i∉([]:List Nat)))=List.range L.length:=H8.2 (by simp);rw[e,yah]at b;exact b
  .obtain⟨p,k,rfl,rfl⟩:∃ p:Ex × aS,L[j]?=some p/\Y=enc p.1/\Z=enc p.2:=by simp only[n4,FE,wa]at l;obtain⟨p,M,rfl⟩:=l;simp only[o5,FE,M,DX,cF]at u;exact⟨p,M,rfl,u.symm⟩
   have G:=(iR.1 k).1;refine yw [[8]] ?_;simp;refine MR.cN (MR.eR (t:=true) rfl (λ_=>MR.pk ⟨λ_=>?_,λh=>absurd rfl h⟩) (λh=>by cases h));refine MR.kM (MR.cN (MR.oo (eD.cons (WI rfl l u ?_))));refine yw [[],[10],[],[],[11],[12]] ?_;simp[Bo,aD];refine MR.cS ?_;simp;refine bF (GR p.2 (W p (wg k))) rfl ?_;have d:=ZL O G b;have C:(K.filter λi=>!decide (i=j)).length<K.length:=by refine Nat.lt_of_le_of_ne (nQ _ _) λh=>?_;have:=(List.length_filter_eq_length_iff.1 h) j O;simp at this
   by_cases E:p.2.v=0
   .have o:kH p.2.v=0:=(Dm _).2 E;simp[o];have m:oX L j=none:=by simp[oX,k,Bm,E]
    rw[m]at d;exact⟨λ_=>⟨_,by rw[<- R];exact C,f,_,_,aA.to [3,7] [((1,0),1)] (by simp[Bo,aD]),rfl,rfl,by omega,d⟩,λh=>absurd rfl h⟩
   .have o:kH p.2.v≠0:=λh=>E ((Dm _).1 h);simp[o];have m:oX L j=some ⟨p.1,p.2⟩:=by simp[oX,k,Bm,E]
    rw[m]at d;exact⟨by omega,λ_=>⟨_,by rw[<- R];exact C,f++[⟨p.1,p.2⟩],_,_,aA.to [3,7] [((21,0),1)] (by simp[Bo,aD]),rfl,rfl,by simp;omega,d⟩,λh=>absurd rfl h⟩
 .rintro D s B ⟨rfl,f,J,b,F⟩;refine⟨λ_=>?_,λh=>absurd rfl h⟩;refine MR.eg J (MR.cS ?_);simp[Bo,aD];subst X;have z:(f.map (·.e)).Nodup:=(b.map _).nodup_iff.2 (Kh H);have A:w.length=f.length:=(hp.trans b.symm).length_eq;refine sE (VB f w (by omega) z (hp.trans b.symm) hs) (by simp) rfl rfl (by simp) (by simp) (by simp[A]) rfl (nE _ _ rfl) (cells_one (λ_=>rfl) _) (by simp) ?_;simp[A]
def Fq:zR.v=0:=uZ
structure jO (ms:List aF) (L:List (Ex × aS)):Prop where
 FO:∀ e,(uB e L).v=pc ms e
 val:∀ e c,kL e L=some c->c=cH (pc ms e)/\∃ m∈ms,m.e=e
 Bn:(L.map (·.1)).Nodup
 len:L.length<=ms.length
theorem Nu{κ α : Type}[DecidableEq κ](e : κ)(c : α):∀ L:List (κ × α),(lE e c L).length<=L.length+1
 | []=>by simp[lE]
 | (b,a)::L=>by have:=Nu e c L;simp only[lE];split<;>simp<;>omega
theorem Qn{κ α : Type}[DecidableEq κ]{e : κ}{c : α}:∀ {L:List (κ × α)},(L.map (·.1)).Nodup->(e,c)∈L->kL e L=some c
 | (a,i)::L,f,h=>by
  obtain⟨b,d⟩:=uH.1 f;simp only[kL];obtain h|h:=bY.1 h
  .cases h;simp
  .have:a≠e:=by rintro rfl;exact b (cD.2 ⟨_,h,rfl⟩)
   rw[aY this];exact Qn d h
def jO.step{ms:List aF}{L:List (Ex × aS)}(h:jO ms L)(m:aF):jO (ms++[m]) (nv m L):=by
 have b:∀ e,pc (ms++[m]) e=pc ms e+if m.e=e then m.aX.v else 0:=λe=>by rw[Dk];simp[pc,pO]
 refine⟨λe=>?_,λe c d=>?_,XC _ _ h.Bn,?_⟩
 .rw[b];simp only[uB,nv,KS];split
  .rename_i a;subst a;simp only[xp,iN];have:=h.FO m.e;simp only[uB]at this;rw[this]
  .rw[pO];exact h.FO e
 .simp only[nv,KS]at d;rw[b];split at d
  .rename_i a;subst a;cases d;exact⟨by rw[h.FO,aW rfl],m,by simp,rfl⟩
  .rename_i a;obtain⟨f,x,i,j⟩:=h.val e c d;exact⟨by rw[aY a,pO];exact f,x,by simp[i],j⟩
 .have:=Nu m.e (cH ((uB m.e L).v+m.aX.v)) L;have:=h.len;simp only[nv,gL,H7];omega
def qR(ms:List aF)(L:List (Ex × aS)):List (Ex × aS):=ms.foldl (λL m=>nv m L) L
theorem jO.fold:∀ (a:List aF) {ms:List aF} {L:List (Ex × aS)},jO ms L->jO (ms++a) (qR a L)
 | [],ms,L,h=>by simpa[qR]using h
 | m::a,ms,L,h=>by have:=jO.fold a (h.step m);simpa[qR]using this
def jO.nil:jO [] []:=⟨λe=>Fq,λe c h=>(by cases h),by simp,by simp⟩
def Aj(ms:List aF):jO ms (qR ms []):=by simpa using jO.fold ms jO.nil
def jO.mem{ms:List aF}{L:List (Ex × aS)}(h:jO ms L){p:Ex × aS}(hp:p∈L):p.2=cH (pc ms p.1)/\∃ m∈ms,m.e=p.1:=h.val p.1 p.2 (Qn h.Bn hp)
theorem z40{p q:List aF}(h:p.Perm q)(e:Ex):pc p e=pc q e:=by
 induction h with
 | nil=>rfl
 | cons x _ d=>simp only[pc,d]
 | swap x y l=>simp only[pc];rw[<- Rat.add_assoc,<- Rat.add_assoc,Bb (if y.e=e then y.aX.v else 0)]
 | trans _ _ a b=>rw[a,b]
def Jr{L:List (Ex × aS)}{m:aF}(h:m∈nz L):(m.e,m.aX)∈L/\m.aX.v≠0:=by
 obtain⟨p,a,h⟩:=List.mem_filterMap.1 h;unfold Bm at h;split at h
 .rename_i b;cases h;exact⟨a,b⟩
 .cases h
theorem yes:∀ {L:List (Ex × aS)} (e:Ex),(L.map (·.1)).Nodup->pc (nz L) e=(uB e L).v
 | [],e,_=>by simp[nz,pc,uB,kL,Fq]
 | (b,d)::L,e,h=>by
  obtain⟨n,o⟩:=uH.1 h;have j:=yes (L:=L) e o;have a:nz ((b,d)::L)=if d.v≠0 then⟨b,d⟩::nz L else nz L:=by simp only[nz,FB,Bm];split<;>split<;>simp_all
  rw[a];simp only[uB,kL];by_cases f:b=e
  .subst f;have l:pc (nz L) b=0:=CW λm p i=>n (cD.2 ⟨_,(Jr p).1,i⟩);split
   .simp[pc,l,pO]
   .rename_i k;simp at k;simp[l,k]
  .simp only[aY f];simp only[uB]at j;split
   .simp[pc,f,j,Bc]
   .exact j
def WX{p q:List aF}(hp:bM p)(y:bM q){L:List (Ex × aS)}(h:jO (p++q) L):(eF p q).Perm (nz L):=by
 have s:∀ m∈p++q,m.ok=true:=λm k=>by
  obtain h|h:=dT.1 k
  .exact(iq.1 hp).1 m h
  .exact(iq.1 y).1 m h
 have f:∀ m∈nz L,m.ok=true:=λm k=>by obtain⟨t,n⟩:=Jr k;obtain⟨o,x,u,w⟩:=h.mem t;simp only at o w;refine aF.bW.2 ⟨?_,by rw[o];exact sP _,n⟩;rw[<- w];exact(aF.bW.1 (s x u)).1
 let le:aF->aF->Bool:=λa b=>decide (b.e.code<=a.e.code)
 have d:((nz L).mergeSort le).Perm (nz L):=List.mergeSort_perm _ _;have i:((nz L).mergeSort le).Pairwise λa b=>le a b=true:=List.pairwise_mergeSort (λa b c t n=>by simp only[le,decide_eq_true_eq]at *;omega) (λa b=>by simp only[le,B',decide_eq_true_eq];omega) _;have r:(((nz L).mergeSort le).map (·.e)).Nodup:=(d.map _).nodup_iff.2 (Kh h.Bn);have l:bM ((nz L).mergeSort le):=by
  refine iq.2 ⟨λm k=>f m (d.mem_iff.1 k),?_⟩;have n:((nz L).mergeSort le).Pairwise λa b=>a.e≠b.e:=List.pairwise_map.1 r;refine(i.and n).imp_of_mem λ{a b} z A j=>?_;have C:=(aF.bW.1 (f a (d.mem_iff.1 z))).1;have D:=(aF.bW.1 (f b (d.mem_iff.1 A))).1;have o:b.e.code<=a.e.code:=by simpa[le]using j.1
  have u:b.e.code≠a.e.code:=λB=>j.2 ((Ex.mr D C).1 B).symm;omega
 have:eF p q=(nz L).mergeSort le:=by refine GP (xg q hp) l λe=>?_;rw[zr p (iq.1 y).1,z40 d,yes e h.Bn,h.FO,Dk]
 rw[this];exact d
def T'{p q:List aF}(hp:bM p):(eF p q).Pairwise λx y=>y.e.cmp x.e<0:=by have d:=iq.1 (xg q hp);refine d.2.imp_of_mem λ{a b} f i h=>?_;exact(Ex.mA (aF.bW.1 (d.1 b i)).1 (aF.bW.1 (d.1 a f)).1).2 h
def jO.sm{p q:List aF}{n:Nat}(hp:bM p)(hq:bM q)(d:fR p n)(u:fR q n)(hn:1<=n){L:List (Ex × aS)}(h:jO (p++q) L):∀ x∈L,x.1.ok=true/\x.2.sm (n+n+1):=by
 intro x s;obtain⟨l,m,o,h3⟩:=h.mem s;refine⟨?_,?_⟩
 .rw[<- h3];obtain h|h:=dT.1 o
  .exact(aF.bW.1 ((iq.1 hp).1 m h)).1
  .exact(aF.bW.1 ((iq.1 hq).1 m h)).1
 .have f:∀ {p:List aF},bM p->fR p n->∃ a:aS,a.sm n/\a.v=pc p x.1:=λ{p} r d=>by
   obtain h|⟨y,t,h⟩:=Ky r x.1
   .exact⟨dI,CL n,by rw[uZ,h]⟩
   .exact⟨y.aX,d y t,h.symm⟩
  obtain⟨a,a1,i⟩:=f hp d;obtain⟨b,j,k⟩:=f hq u;rw[l,Dk,<- i,<- k];exact XL a1 j hn hn
def Ah(r:Nat)(ms:List aF)(k:Nat):St:=aD [(5,.p (.fH r)),(14,.own 1 0 0 ms.length),(15,.p (.int .i64 ms.length)),(16,.p (.int .i64 k))] [(1,⟨6,aT ms⟩)]
def IM(r:Nat)(ms:List aF):Option FA:=some (sL r (n4 (qR ms [])) (o5 (qR ms [])))
def paI(r:Nat)(ms:List aF)(n:Nat)(s:St)(B:Option FA):Prop:=∃ k,k<=ms.length/\n=ms.length - k/\aA s (Ah r ms k)/\B=IM r (ms.take k)
def paE(r:Nat)(ms:List aF)(a:Exit)(s:St)(B:Option FA):Prop:=a=.exit 0/\aA s (Ah r ms ms.length)/\B=IM r ms
def XZ(ms:List aF)(m:aF):qR (ms++[m]) []=nv m (qR ms []):=by simp[qR]
def TK:GC:=.seq (.cY [⟨some 27,.mv (.t 5),none⟩,⟨some 28,.call 292 [.t 27],none⟩,⟨some 4,.mv (.t 28),none⟩] [[5,14,15,16],[27],[28]])
 (.ret)
def RY(r:Nat)(p q:List aF)(n:Nat)(D:bM p)(F:bM q)(H:fR p n)(J:fR q n)(E:1<=n)(hn:n<=400000)(R:p.length<=100000)(S:q.length<=100000){s:St}(A:aA s (Ah r (p++q) 0)) :
  MR P 29 (GC.bU 0 (.loop g.rr)).er s (IM r []) λl s B=>(l=.normal->MR P 29 TK.er s B λl s _=>iG [(4,none)] (RV.pure (.sl (aH (eF p q)))) l s)/\(l ≠ .normal->iG [(4,none)] (RV.pure (.sl (aH (eF p q)))) l s):=by
 have G:(p++q).length<=200000:=by simp;omega
 have y:∀ m∈p++q,m.e.ok=true/\m.aX.sm n:=λm u=>by
  obtain h|h:=dT.1 u
  .exact⟨(aF.bW.1 ((iq.1 D).1 m h)).1,H m h⟩
  .exact⟨(aF.bW.1 ((iq.1 F).1 m h)).1,J m h⟩
 have f:∀ k,∀ x∈qR ((p++q).take k) [],x.1.ok=true/\x.2.sm 1048576:=λk x C=>by have h:=Aj ((p++q).take k);have e:(p++q).take k=p.take k++q.take (k - p.length):=List.take_append;rw[e]at h C;obtain⟨L,M⟩:=h.sm (D.take k) (F.take _) (λm u=>H m (jA u)) (λm u=>J m (jA u)) E x C;exact⟨L,M.mono (by omega)⟩
 have b:=Aj (p++q);have z:=f (p++q).length;rw[lO]at z;have i:=WX D F b;have j:=T' (p:=p) (q:=q) D;generalize N:p++q=d at *
 refine MR.kM (MR.mono (MR.nK (Post:=paE r d) (I:=paI r d) d.length ⟨0,by omega,by omega,A,rfl⟩ ?_) ?_)
 .rintro U s B ⟨k,Q,rfl,A,rfl⟩;refine MR.eg A ?_;unfold g.rr;refine MR.dD ?_;simp[Ah,aD];by_cases a:k<d.length
  .refine MR.cN (MR.eR (t:=true) (by simp[a]) (λ_=>MR.pk ⟨λ_=>?_,λh=>absurd rfl h⟩) (λh=>by cases h));simp;refine MR.cN (MR.kM (MR.dD ?_));simp;refine⟨a,bK a ?_⟩;have w:=y d[k] (bV a);refine MR.oo (AR 5 [[],[],[21],[7],[23]] ?_);simp;refine eD.cons (O7 (args:=[enc d[k].e,enc d[k].aX]) (Pj d[k] _ w.1 (w.2.mono (by omega)) (f k)) (by simp) (Ke _) (Kf _) ?_);refine yw [[20,22,24,25]] ?_;simp;refine⟨λ_=>MR.cS ?_,λh=>absurd rfl h⟩;have K:=bH k;simp[K];refine⟨_,?_,k+1,by omega,rfl,aA.to [5,14,15,16] [((1,0),1)] (by simp[Ah,aD]),?_⟩
   .omega
   .simp only[IM];rw[ed a,XZ]
  .have o:k=d.length:=by omega
   refine MR.cN (MR.eR (t:=false) (by simp[a]) (λh=>by cases h) (λ_=>MR.uP ⟨λh=>(by cases h),λ_=>⟨λh=>(by cases h),λ_=>⟨rfl,?_,?_⟩⟩⟩))
   .exact aA.to [5,14,15,16] [((1,0),1)] (by simp[Ah,aD,o])
   .rw[o,lO]
 .rintro l s B ⟨rfl,A,rfl⟩;refine⟨λ_=>?_,λh=>absurd rfl h⟩;refine MR.eg A (MR.freeze (t:=5) rfl ?_);refine MR.cS ?_;simp[TK,Ah,aD];have O:=NF p q;refine Fi (Qb r (qR d []) (λx C=>(z x C).2.mono (by omega)) b.Bn (by have:=b.len;omega) (eF p q) i j) (by simp) ⟨nE _ _ rfl,by decide,by simp[-jE,aH,eS];omega⟩ _ rfl ?_;simp[aJ]
def XI(p q:List aF)(n:Nat)(i:fR p n)(j:fR q n)(a:1<=n)(hn:n<=400000)(w:p.length<=100000)(x:q.length<=100000) :
  zS 240 [.sl (aH p),.sl (aH q)] (.sl (aH (eF (pv p) (pv q)))):=by
 refine Sp.gG c.nk (by simp) ?_;unfold g.nk;generalize d:(λm s (_:Option FA)=>iG [(4,none)] (RV.pure (.sl (aH (eF (pv p) (pv q))))) m s)=b;have k:=Tk p;have l:=Tk q;have f:=Tj i;have h:=Tj j;have t:=Ti p;have u:=Ti q;refine MR.dD ?_;simp;refine MR.cN (MR.oo (eD.cons (Lv λr=>?_)));refine yw [[8]] ?_;simp;refine MR.cN (MR.dD ?_);simp;refine bF (Hh p (i.mono (by omega)) (by omega)) rfl ?_;simp;refine bF (Hh q (j.mono (by omega)) (by omega)) rfl ?_;simp;refine Fi (V5 (pv p) (pv q) (by omega)) (by simp) ⟨nE _ _ rfl,by decide,by simp[-jE,aH,eS];omega⟩ _ rfl ?_;cases o:(aH (pv p++pv q)).all PV.flat
 .simp[aJ];subst d;refine RY r (pv p) (pv q) n k l f h a hn (by omega) (by omega) ?_;exact aA.to [5,14,15,16] [((14,0),1)] (by simp[Ah,aD])
 .simp;subst d;refine RY r (pv p) (pv q) n k l f h a hn (by omega) (by omega) ?_;exact aA.to [5,14,15,16] [((14,0),1)] (by simp[Ah,aD])
end Go.Ab
namespace Go.Ab
open Enc (enc)
attribute [local simp] fX bL.aR
def aS.sm.jV{x:aS}{m n:Nat}(h:x.sm m)(k:m<=n):x.sm n:=⟨dP h.1 k,dP h.2 k⟩
def fR.jV{p:List aF}{m n:Nat}(h:fR p m)(k:m<=n):fR p n:=λx a=>(h x a).jV k
theorem GW.sm.mono{m n:Nat}(k:m<=n):∀ w:GW,w.sm m->w.sm n:=by
 refine GW.sm.ind λv a b=>?_;cases v with
 | mk q c i s p ps=>exact .mk (a.q.jV k) (a.aP.jV k) (dP a.len k) (dP a.wE k) b
def RT(n:Nat):fR [] n:=by intro m a;simp at a
def OP{a b:Nat}(h:a<=b):4294967296^a<=4294967296^b:=pP (by omega) h
def oB:List Int->List GW->List GW->List GW
 | k::a,v::b,w::d=>ew k v w::oB a b d
 | _,_,_=>[]
def aB.plus(r:aB)(v w:GW):GW:=if r.kind=6 then .mk dI 0 false 0 [] (oB r.parts v.parts w.parts)else ew r.kind v w
theorem vl:∀ {ks:List Int} {vs ws:List GW},vs.length=ks.length->ws.length=ks.length->(oB ks vs ws).length=ks.length
 | [],vs,ws,_,_=>by simp[oB]
 | k::ks,[],ws,h,_=>by simp at h
 | k::ks,v::vs,[],_,h=>by simp at h
 | k::ks,v::vs,w::ws,a,b=>by simp[oB,vl (ks:=ks) (vs:=vs) (ws:=ws) (by simpa using a) (by simpa using b)]
theorem xk:∀ {ks:List Int} {vs ws:List GW} {i:Nat} (h:i<ks.length) (a:i<vs.length) (b:i<ws.length) (d:i<(oB ks vs ws).length),(oB ks vs ws)[i]=ew ks[i] vs[i] ws[i]
 | k::ks,v::vs,w::ws,0,_,_,_,_=>by simp[oB]
 | k::ks,v::vs,w::ws,i+1,h,a,b,d=>by simp only[oB,List.getElem_cons_succ];exact xk (by simpa using h) (by simpa using a) (by simpa using b) (by simpa[oB]using d)
def ZY(r:aB)(v w:GW)(G:v.sm 1048576)(H:w.sm 1048576)(o:v.aQ r)(z:w.aQ r)(f:r.kind=6)
  (d:∀ i (h:i<r.parts.length) (D:i<v.parts.length) (O:i<w.parts.length),zS 130 [enc (⟨r.parts[i],[]⟩:aB),enc v.parts[i],enc w.parts[i]] (enc (ew r.parts[i] v.parts[i] w.parts[i]))) :
  zS 130 [enc r,enc v,enc w] (enc (r.plus v w)):=by
 have n:=o.1;have E:=aB.bQ n f;have M:v.tk r=v:=aW o;have N:w.tk r=w:=aW z;have A:=mR r v (G.mono (by omega));have B:=mR r w (H.mono (by omega));rw[M]at A;rw[N]at B;have K:=(o.2.2 f).1;have L:=(z.2.2 f).1;have U:(oB r.parts v.parts w.parts).length=r.parts.length:=vl K L;refine Sp.vz c.ah λ_=>?_;simp[g.ah];refine bF (oQ r) rfl ?_;simp[n];refine bA A ?_;simp;refine bA B ?_;simp[f]
 refine cQ (S:=λk:Nat=>aD [(3,.ptr 1 0 0 0),(4,.ptr 2 0 0 0),(5,.ptr 3 0 0 0),(6,.ptr 4 0 0 0),(7,.ptr 5 0 0 0),(8,.p (.int .i64 k))]
   [(1,⟨2,[.p (enc r)]⟩),(2,⟨8,[.p (enc v)]⟩),(3,⟨8,[.p (enc w)]⟩),(4,⟨8,[.agg [.p (.bool false),.nil,.nil,.p (.int .i64 0),.p (.bool false),.p (.int .u64 0),.nil,.nil]]⟩),
    (5,⟨8,[.agg [.p (.bool false),.nil,.nil,.p (.int .i64 0),.p (.bool false),.p (.int .u64 0),.nil,.own 6 0 0 k]]⟩),(6,⟨8,aT ((oB r.parts v.parts w.parts).take k)⟩)])
  (I:=λk=>k<=r.parts.length) (m:=λk=>r.parts.length - k) 0
  ((aA.cW (s0:=7) (g0:=0) (i:=7) (s:=77) (sz:=8) rfl).trans (aA.to [3,4,5,6,7,8] [((3,0),1),((4,0),2),((5,0),3),((6,0),4),((7,0),5),((77,0),6)] (by simp[f]))) (by omega) ?_
 rintro k D R u Q J;have C:=bH k;simp[g.tz,aD];refine⟨λj=>?_,λj=>J _ _ ?_⟩
 .have a:k<v.parts.length:=by omega
  have b:k<w.parts.length:=by omega
  have F:=E.2.2 _ (bV j);refine bF (EY r k j) rfl ?_;simp;refine bK a ?_
  try simp
  refine bK b ?_
  try simp
  refine bA (d k j a b) ?_;have l:k<(oB r.parts v.parts w.parts).length:=by omega
  have y:aT ((oB r.parts v.parts w.parts).take (k+1))=aT ((oB r.parts v.parts w.parts).take k)++[.p (enc (ew r.parts[k] v.parts[k] w.parts[k]))]:=by rw[ed l,zX,xk j a b l];rfl
  simp[C];exact⟨⟨by omega,by omega⟩,u (k+1) _ (aA.to [3,4,5,6,7,8] [((1,0),1),((2,0),2),((3,0),3),((4,0),4),((5,0),5),((97,0),6)] (by simp[y])) (by omega) (by omega)⟩
 .have t:k=(oB r.parts v.parts w.parts).length:=by omega
  have x:r.plus v w=.mk dI 0 false 0 [] (oB r.parts v.parts w.parts):=by simp[aB.plus,f]
  rw[x];subst t;simp
end Go.Ab
namespace Go.Ab
open Enc (enc)
def WN(v w:GW)(n:Nat)(i:v.sm n)(j:w.sm n)(hn:n<=400000)(b:1<=n)(a:bM v.aP)(d:bM w.aP):zS 239 [enc v,enc w] (enc (ew 5 v w)):=by
 have f:v.aP.length<=100000:=by have:=qS a;omega
 have h:w.aP.length<=100000:=by have:=qS d;omega
 have k:=XI v.aP w.aP n i.aP j.aP b hn f h;rw[yl a,yl d]at k;refine Sp.vz c.gk λ_=>?_;simp[g.gk];refine bF k rfl ?_;simp[ew,dI]
def NJ(k:Int)(l:1<=k/\k<=5)(v w:GW)(n:Nat)(i:v.sm n)(j:w.sm n)(hn:n<=400000)(d:1<=n)(f:v.si k)(h:w.si k):Sp P (TR k) (enc v::enc w::TU k) (.pure (enc (ew k v w))):=by
 have:k=1\/k=2\/k=3\/k=4\/k=5:=by omega
 have a:=i.mono (show n<=1048576 by omega);have b:=j.mono (show n<=1048576 by omega);obtain rfl|rfl|rfl|rfl|rfl:=this
 .exact Vd v w a b
 .exact ybq v w f h
 .exact ya8 v w a b f h
 .exact Vw v w
 .exact WN v w n i j (by omega) d (f.2.2.2.2.2.2.2.2 rfl) (h.2.2.2.2.2.2.2.2 rfl)
def Z0(r:aB)(v w:GW)(n:Nat)(j:v.sm n)(k:w.sm n)(hn:n<=400000)(h:1<=n)(f:v.aQ r)(i:w.aQ r)(d:r.kind≠6):zS 74 [enc r,enc v,enc w] (enc (ew r.kind v w)):=by have b:=f.1;have a:=aB.cC b d;have p:v.tk r=v:=aW f;have s:w.tk r=w:=aW i;have l:=A4 r v (j.mono (by omega));have m:=A4 r w (k.mono (by omega));rw[p]at l;rw[s]at m;refine Sp.vz c.bl λ_=>?_;simp[g.bl];refine bF (BS r) rfl ?_;simp[b];refine bA l ?_;simp;refine bA m ?_;simp[d];obtain⟨x,y,z,A,t,u,o⟩:=zL r.kind ⟨a.1,a.2.1⟩;refine bF (CU r.kind ⟨a.1,a.2.1⟩) rfl ?_;simp[o];refine bF (NJ r.kind ⟨a.1,a.2.1⟩ v w n j k hn h (f.2.1 d) (i.2.1 d)) (lH (by simp) (lH (by simp) (zN _ _))) ?_;simp
def WJ(k:Int)(b:1<=k/\k<=5)(v w:GW)(i n:Nat)(j:i<v.parts.length)(l:i<w.parts.length)(z:i<=3)(f:v.parts[i].sm n)(h:w.parts[i].sm n)(hn:n<=400000)(a:1<=n)(m:v.parts[i].si k)(o:w.parts[i].si k) :
  zS 125 [xA k,.int .i64 i,.ref (enc v),.ref (enc w)] (enc (ew k v.parts[i] w.parts[i])):=by
 obtain⟨s,u,x,y,p,r,d⟩:=zL k b;rw[d];refine Sp.gU c.i9 (by simp) ((aA.eU (t:=2) (v:=enc v) (n:=8) (by simp) (by simp)).trans (aA.eU (t:=3) (v:=enc w) (n:=8) (by simp) (by simp))) ?_;simp[g.i9];refine bK j ?_;refine bK l ?_;refine bF (NJ k b v.parts[i] w.parts[i] n f h hn a m o) (lH (by simp) (lH (by simp) (zN _ _))) ?_;simp
theorem E7(st:St)(s g a off:Nat):bE st 5 (.ptr s g a off)=if a=0/\off=0 then match st.obj s g with
  | some o=>match o.es with
   | [e]=>(bE st 4 e).map .ref
   | _=>none
  | none=>none
  else none:=rfl
theorem EG(st:St)(v:PV):bE st 4 (.p v)=some v:=rfl
def WK(r:aB)(v w:GW)(n:Nat)(l:v.sm n)(m:w.sm n)(hn:n<=400000)(d:1<=n)(b:v.aQ r)(j:w.aQ r):zS 74 [enc r,enc v,enc w] (enc (r.plus v w)):=by
 have f:=b.1;by_cases a:r.kind=6;rotate_left
 .have t:r.plus v w=ew r.kind v w:=by simp[aB.plus,a]
  rw[t];exact Z0 r v w n l m hn d b j a
 have k:=aB.bQ f a;have z:v.tk r=v:=aW b;have A:w.tk r=w:=aW j;have o:=A4 r v (l.mono (by omega));have p:=A4 r w (m.mono (by omega));rw[z]at o;rw[A]at p;have x:=(b.2.2 a).1;have y:=(j.2.2 a).1;have u:(oB r.parts v.parts w.parts).length=r.parts.length:=vl x y;refine Sp.vz c.bl λ_=>?_;simp[g.bl];refine bF (BS r) rfl ?_;simp[f];refine bA o ?_;simp;refine bA p ?_;simp[a];refine bF (Jx r k.2.2 k.2.1 125 [.ref (enc v),.ref (enc w)] (oB r.parts v.parts w.parts) u λi h s=>?_) ?_ ?_
 .rw[xk h (by omega) (by omega) s];exact WJ r.parts[i] (k.2.2 _ (bV h)) v w i n (by omega) (by omega) (by omega) (l.parts _ (bV _)) (m.parts _ (bV _)) hn d ((b.2.2 a).2.2 i h (by omega)) ((j.2.2 a).2.2 i h (by omega))
 .simp[E7,EG,a]
 simp[aB.plus,a]
def Fe(r:aB)(w:GW)(a:w.sm 1048576):zS 78 [enc r,enc w] (.bool (decide (w=r.zero))):=by refine Sp.vz c.c9 λ_=>?_;simp[g.c9];refine bF (BJ r) rfl ?_;simp;refine bA (BP w a r.zero) ?_;simp
theorem z24(st:St)(s g a off:Nat):bE st aZ (.ptr s g a off)=if a=0/\off=0 then match st.obj s g with
  | some o=>match o.es with
   | [e]=>(bE st 5 e).map .ref
   | _=>none
  | none=>none
  else none:=rfl
def TV(x:uW)(a:gH):Prop:=0<=x.f/\x.f<a.st/\0<=x.t/\x.t<a.st/\0<=x.l/\x.l<=a.sy/\x.w.aQ a.ring
noncomputable instance (x:uW) (a:gH):Decidable (TV x a):=Classical.propDecidable _
structure gH.sm (a:gH) (n:Nat):Prop where
 aU:∀ w∈a.aU,w.sm n
 fin:∀ w∈a.fin,w.sm n
 aE:∀ x∈a.aE,x.w.sm n
theorem Ld:∀ (l m:List Int),l.length=m.length->y6 (List.zipWith gC l m)=fU l m
 | [],[],_=>rfl
 | [],y::f,h=>by simp at h
 | x::d,[],h=>by simp at h
 | x::d,y::f,h=>by
  have i:=Ld d f (by simpa using h);simp only[List.zipWith,y6,fU,i,gC];by_cases a:x<y
  .simp[a]
  .by_cases b:y<x
   .simp[a,b]
   .simp[a,b]
def Kx{k:Int}(b:1<=k/\k<=5):(nD k).si k:=by
 have:k=1\/k=2\/k=3\/k=4\/k=5:=by omega
 have a:=KO;obtain rfl|rfl|rfl|rfl|rfl:=this
 .rw[wB];exact⟨rfl,rfl,rfl,rfl,rfl,a⟩
 .rw[oV];exact⟨rfl,rfl,rfl,rfl,Int.le_refl 0,by simp[nD,GW.cost],λ_=>rfl⟩
 .rw[vG];exact⟨rfl,rfl,rfl,rfl,rfl,a,by show 0<=dI.v;rw[uZ];decide,by show dI.v<=1;rw[uZ];decide⟩
 .rw[yU];exact⟨rfl,rfl,rfl,rfl,rfl⟩
 .rw[xV];exact⟨rfl,rfl,rfl,rfl,rfl,AO⟩
def xJ{k:Int}(b:1<=k/\k<=5){v w:GW}(a:v.si k)(d:w.si k):(ew k v w).si k:=by
 have:k=1\/k=2\/k=3\/k=4\/k=5:=by omega
 obtain rfl|rfl|rfl|rfl|rfl:=this
 .rw[wB];exact⟨rfl,rfl,rfl,rfl,rfl,sP _⟩
 .unfold ew;simp only[aY (show ¬ (2:Int)=1 by decide),aW];split<;>assumption
 .unfold ew;simp only[aY (show ¬ (3:Int)=1 by decide),aY (show ¬ (3:Int)=2 by decide),aW];split<;>assumption
 .rw[yU];exact⟨rfl,rfl,rfl,rfl,rfl⟩
 .rw[xV];exact⟨rfl,rfl,rfl,rfl,rfl,xg _ (jJ a)⟩
theorem PL{k:Int}(o:1<=k/\k<=5){v:GW}(m:v.si k):ew k v (nD k)=v:=by
 have:k=1\/k=2\/k=3\/k=4\/k=5:=by omega
 cases v with
 | mk q c i s p r =>
 obtain rfl|rfl|rfl|rfl|rfl:=this
 .obtain⟨a,b,d,f,h,j⟩:=wB.1 m;simp only[GW.c6,GW.jX,GW.kA,GW.set_mk,GW.gP,GW.qI]at a b d f h j;subst a b d f h;simp[ew,nD,GW.qI,uZ,pO,sK j]
 .obtain⟨a,b,d,f,h,j,l⟩:=oV.1 m;simp only[GW.c6,GW.jX,GW.kA,GW.set_mk,GW.gP,GW.qI]at a b d f h j l;subst a b d f;cases i
  .simp[ew,nD,GW.jX]
  .have:=l rfl;subst this;simp[ew,nD,GW.jX]
 .obtain⟨a,b,d,f,h,j,l,n⟩:=vG.1 m;simp only[GW.c6,GW.jX,GW.kA,GW.set_mk,GW.gP,GW.qI]at a b d f h j l;have:¬ q.v<0:=Cd.2 l;simp[ew,nD,GW.qI,uZ,this]
 .obtain⟨a,b,d,f,h⟩:=yU.1 m;simp only[GW.c6,GW.jX,GW.kA,GW.gP,GW.qI]at a b d f h;subst a b d f h;simp[ew,nD,GW.set_mk]
 .obtain⟨a,b,d,f,h,j⟩:=xV.1 m;simp only[GW.c6,GW.jX,GW.kA,GW.set_mk,GW.gP,GW.qI]at a b d f h j;subst a b d f h;simp[ew,nD,GW.gP,eF]
def xj{r:aB}(h:r.ok=true):r.zero.aQ r:=by
 by_cases a:r.kind=6
 .refine⟨h,λb=>absurd a b,λ_=>?_⟩;have j:=aB.bQ h a;simp[aB.zero,h,a,GW.c6];exact λi f _=>Kx (j.2.2 _ (bV f))
 .have d:=aB.cC h a;refine⟨h,λ_=>?_,λb=>absurd b a⟩;have:r.zero=nD r.kind:=by simp[aB.zero,h,nD,d.2.2]
  rw[this];exact Kx ⟨d.1,d.2.1⟩
def EZ{r:aB}{v w:GW}(b:v.aQ r)(d:w.aQ r):(r.plus v w).aQ r:=by
 by_cases a:r.kind=6
 .have k:=aB.bQ b.1 a;have l:=(b.2.2 a).1;have m:=(d.2.2 a).1;refine⟨b.1,λh=>absurd a h,λ_=>?_⟩;have e:r.plus v w=.mk dI 0 false 0 [] (oB r.parts v.parts w.parts):=by simp[aB.plus,a]
  rw[e];refine⟨vl l m,rfl,λi h f=>?_⟩;simp only[GW.c6]at f ⊢;rw[xk h (by omega) (by omega) f];exact xJ (k.2.2 _ (bV h)) ((b.2.2 a).2.2 i h (by omega)) ((d.2.2 a).2.2 i h (by omega))
 .have j:=aB.cC b.1 a;have e:r.plus v w=ew r.kind v w:=by simp[aB.plus,a]
  rw[e];exact⟨b.1,λ_=>xJ ⟨j.1,j.2.1⟩ (b.2.1 a) (d.2.1 a),λh=>absurd h a⟩
def AZ{r:aB}{v:GW}(b:v.aQ r):r.plus v r.zero=v:=by
 by_cases a:r.kind=6
 .have n:=aB.bQ b.1 a;obtain⟨k,l,o⟩:=b.2.2 a;have e:r.plus v r.zero=.mk dI 0 false 0 [] (oB r.parts v.parts r.zero.parts):=by simp[aB.plus,a]
  have f:r.zero.parts=r.parts.map nD:=by simp[aB.zero,b.1,GW.c6]
  rw[e,f,l];simp only[GW.c6]
  congr 1
  refine B4 (by rw[vl k (by simp),k]) λi m h=>?_;have d:i<r.parts.length:=by rw[<- k];exact h
  rw[xk d h (by simpa using d) m];simp only[List.getElem_map];exact PL (n.2.2 _ (List.getElem_mem d)) (o i d h)
 .have j:=aB.cC b.1 a;have e:r.plus v r.zero=ew r.kind v r.zero:=by simp[aB.plus,a]
  have f:r.zero=nD r.kind:=by simp[aB.zero,b.1,nD,j.2.2]
  rw[e,f];exact PL ⟨j.1,j.2.1⟩ (b.2.1 a)
def L6{r:aB}{w:GW}(h:w.aQ r):w.tk r=w:=aW h
section
variable {α : Type} {key : α -> List Int}
def wZ(key : α -> List Int)(l:List α)(i:Nat):List α := b6 key (l.take i)++l.drop i
theorem SC(s:List α)(x : α):(eo key s x).length=s.length+1:=by
 induction s with
 | nil=>rfl
 | cons z r a=>simp only[eo];split<;>simp[a]
theorem J7{s:List α}{x y : α}:y∈eo key s x ↔ y=x\/y∈s:=by
 induction s with
 | nil=>simp[eo]
 | cons z r a =>
  simp only[eo];split
  .simp
  .simp only[bY,a];exact⟨λh=>by obtain h|h|h:=h<;>simp[h],λh=>by obtain h|h|h:=h<;>simp[h]⟩
def Ku(l:List α)(x : α):b6 key (l++[x])=eo key (b6 key l) x:=by simp[b6,yD]
def iQ(l:List α):jP key (b6 key l)/\(b6 key l).length=l.length/\∀ y,y∈b6 key l ↔ y∈l:=by
 have:∀ (n:Nat) (l:List α),l.length=n->jP key (b6 key l)/\(b6 key l).length=l.length/\∀ y,y∈b6 key l ↔ y∈l:=by
  intro n
  induction n with
  | zero=>intro l a;have:=qV a;subst this;simp[b6,jP]
  | succ n j =>
   intro l a;obtain⟨b,y,rfl⟩:∃ b y,l=b++[y]:=⟨l.dropLast,l.getLast (by intro h;simp[h]at a),(List.dropLast_concat_getLast _).symm⟩;obtain⟨d,f,i⟩:=j b (by simpa using a);rw[Ku];refine⟨Qk d,by rw[SC,f];simp,λz=>?_⟩;rw[J7,i];simp[or_comm]
 exact this _ l rfl
def XN(l:List α)(i:Nat):(wZ key l i).length=l.length:=by unfold wZ;rw[gL,(iQ _).2.1,<- List.length_append,oJ]
def XO(l:List α):wZ key l 1=l:=by cases l<;>simp[wZ,b6,eo]
def W4{l:List α}{i:Nat}(h:l.length<=i):wZ key l i=b6 key l:=by unfold wZ;rw[fK h,xr h,kZ]
def W5{l:List α}{i:Nat}(h:i<l.length):wZ key l i=b6 key (l.take i)++l[i]::l.drop (i+1):=by unfold wZ;rw[vw h]
def Qt{l:List α}{i:Nat}(h:i<l.length):wZ key l (i+1)=eo key (b6 key (l.take i)) l[i]++l.drop (i+1):=by unfold wZ;rw[ed h,Ku]
theorem Jj{x : α}{B:List α}(d:∀ b∈B,key x<key b):∀ {A:List α},(∀ a∈A,¬ key x<key a)->eo key (A++B) x=A++x::B
 | [],_=>by
  cases B with
  | nil=>rfl
  | cons b B=>simp[eo,d b (by simp)]
 | a::A,h=>by have:=Jj d (A:=A) λy f=>h y (by simp[f]);simp[eo,h a (by simp),this]
end
section
variable {α : Type} {key : α -> List Int} {up : α -> α -> α} {nw : α -> α}
theorem Rw:∀ {a:List α} {x y : α},x∈iv key up nw a y->x∈a\/x=nw y\/∃ z∈a,x=up z y
 | [],x,y,h=>by simp[iv]at h;exact .inr (.inl h)
 | [z],x,y,h=>by
  simp only[iv]at h;split at h
  .simp at h;exact .inr (.inr ⟨z,by simp,h⟩)
  .simp at h;obtain h|h:=h
   .exact .inl (by simp[h])
   .exact .inr (.inl h)
 | z::w::r,x,y,h=>by
  rw[C0 z y (by simp)]at h;obtain h|h:=bY.1 h
  .exact .inl (by simp[h])
  .obtain h|h|⟨u,h,e⟩:=Rw h
   .exact .inl (tV _ h)
   .exact .inr (.inl h)
   .exact .inr (.inr ⟨u,tV _ h,e⟩)
theorem Sx:∀ {a:List α} {x y : α},x∈eQ key up nw a y->x∈a\/x=nw y\/∃ z∈a,x=up z y
 | [],x,y,h=>by simp[eQ]at h;exact .inr (.inl h)
 | z::r,x,y,h=>by
  simp only[eQ]at h;split at h
  .obtain h|h:=bY.1 h
   .exact .inl (by simp[h])
   .obtain h|h|⟨u,h,e⟩:=Sx h
    .exact .inl (tV _ h)
    .exact .inr (.inl h)
    .exact .inr (.inr ⟨u,tV _ h,e⟩)
  .split at h
   .obtain h|h:=bY.1 h
    .exact .inr (.inr ⟨z,by simp,h⟩)
    .exact .inl (tV _ h)
   .obtain h|h:=bY.1 h
    .exact .inr (.inl h)
    .exact .inl h
theorem Lq(a:List α)(y : α):(iv key up nw a y).length<=a.length+1:=by
 match a with
 | []=>simp[iv]
 | [z]=>simp only[iv];split<;>simp
 | z::w::r =>
  rw[C0 z y (by simp)];have:=Lq (w::r) y;simp only[pQ]at this ⊢;omega
theorem Qj:∀ (a:List α) (y : α),(eQ key up nw a y).length<=a.length+1
 | [],y=>by simp[eQ]
 | z::r,y=>by
  simp only[eQ];have:=Qj r y
  (repeat' split)<;>simp only[pQ]<;>omega
def HM{l:List α}{k:Nat}(h:k<l.length):fN key up nw (l.take (k+1))=iv key up nw (fN key up nw (l.take k)) l[k]:=by rw[ed h,Kb]
theorem HK{l:List α}{k:Nat}(h:k<l.length):sc key up nw (l.take (k+1))=eQ key up nw (sc key up nw (l.take k)) l[k]:=by rw[ed h];unfold sc;rw[yD];rfl
theorem Jm{Q:Nat -> α -> Prop}(d:∀ k x,Q k x->Q (k+1) x){l:List α}(hn:∀ x∈l,Q 0 (nw x))(hu:∀ k z,∀ x∈l,Q k z->Q (k+1) (up z x))(b:∀ k x,Q 0 x->Q k x) :
  ∀ k,k<=l.length->(fN key up nw (l.take k)).length<=k/\∀ x∈fN key up nw (l.take k),Q k x
 | 0,_=>by simp[fN]
 | k+1,h=>by
  obtain⟨j,f⟩:=Jm d hn hu b k (by omega);have a:k<l.length:=by omega
  rw[HM a];refine⟨dP (Lq _ _) (by omega),λx i=>?_⟩;obtain h|h|⟨z,h,e⟩:=Rw i
  .exact d _ _ (f x h)
  .rw[h];exact b _ _ (hn _ (bV a))
  .rw[e];exact hu _ _ _ (bV a) (f z h)
end
end Go.Ab
namespace Go.Ab
open Enc (enc)
attribute [local simp] fX bL.aR
section
variable {α : Type} [Enc α]
end
section
variable {α : Type} [Enc α]
end
def eC:GW:=.mk ⟨false,[],[]⟩ 0 false 0 [] []
theorem UK(y:FuncId)(a:List PV)(p:aC->Bool)(l:List aC)(hl:l.length<=1000000)(hp:∀ x∈l,Sp P y (enc x::a) (.pure (.bool (p x)))) :
  jD P 76 [.sl (aH l),.fn y a] 0 12 (aH (l.filter (λx=>!p x)++List.replicate (l.length - (l.filter λx=>!p x).length) (⟨0,0,0,0,eC⟩:aC))) (.same (l.filter λx=>!p x).length):=by
 have Z:(l.filter λx=>!p x).length<=l.length:=nQ _ _;refine jD.cS c.kx (by simp) rfl (by simp;omega) ?_;simp[g.kx];refine bA (UM l y a p (by omega) hp) ?_;cases s:l.findIdx? p with
 | none =>
  have C:=Ii.1 s;have Y:l.filter (λx=>!p x)=l:=H8.2 λx b=>by simp[C x b]
  have b:jL p l = -1:=by simp[jL,s]
  simp[b,Y]
 | some k =>
  obtain⟨hk,M,r⟩:=Ih.1 s;have b:jL p l=k:=by simp[jL,s]
  have K:¬ ((k:Int) = -1):=by omega
  have U:=bH k;simp[b,K,U];have N:(l.take k).filter (λx=>!p x)=l.take k:=List.filter_eq_self.2 λx b=>by rw[List.mem_take_iff_getElem]at b;obtain⟨i,s,rfl⟩:=b;have:=r i (by omega);simpa using this
  have u:(l.take (k+1)).filter (λx=>!p x)=l.take k:=by rw[ed hk,v7,N];simp[M]
  refine cQ (S:=λx:List aC × Nat × Nat=>aD [(0,.own bG 0 0 l.length),(1,.p (.fn y a)),(5,.p (.int .i64 x.2.1)),(6,.p (.int .i64 x.2.2))] [(bG,⟨12,aT x.1⟩)])
   (I:=λx=>x.1.length=l.length/\x.2.1<x.2.2/\x.2.2<=l.length/\x.1.take x.2.1=(l.take x.2.2).filter (λx=>!p x)/\x.1.drop x.2.2=l.drop x.2.2/\x.2.1<=l.length) (m:=λx=>l.length - x.2.2) (l,k,k+1)
   (aA.to [0,1,5,6] [((bG,0),bG)] (by simp)) ⟨rfl,by simp,by simp;omega,by rw[u],rfl,by simp;omega⟩ ?_
  rintro⟨L,i,j⟩ ⟨f,W,X,d,z,A⟩ R C hr O;simp only at f W X d z A;simp[g.te,aD];refine⟨λB=>?_,λB=>O _ _ ?_⟩
  .have Q:=bH j;have V:=bH i;have G:L[j]?=some l[j]:=by
    have:(L.drop j)[0]?=(l.drop j)[0]?:=by rw[z]
    simpa[B]using this
   refine⟨by omega,eO G ?_⟩
   try simp
   refine bF (hp l[j] (bV B)) (lH (by simp) (zN _ _)) ?_;have t:(l.take (j+1)).filter (λx=>!p x)=(l.take j).filter (λx=>!p x)++(if p l[j]then[]else[l[j]]):=by rw[ed B,v7];by_cases h:p l[j]<;>simp[h]
   obtain o|o:=ju (p l[j])
   .simp[o,Q];refine C (L,i,j+1) _ (aA.to [0,1,5,6] [((bG,0),bG)] (by simp)) ⟨f,by show i<j+1;omega,by show j+1<=l.length;omega,by show L.take i=_;rw[t,d];simp[o],?_,A⟩ (by show l.length - (j+1)<l.length - j;omega);show L.drop (j+1)=l.drop (j+1);rw[<- List.drop_drop,z,wj]
   .simp[o];refine⟨by omega,?_⟩;refine eO (l:=L) (n:=i) (x:=L[i]'(by omega)) (by simp) ?_;simp[Q,V];have w:(L.set i l[j]).take (i+1)=L.take i++[l[j]]:=by rw[ed (by simp;omega),List.take_set_of_le (dK i)];simp
    refine C (L.set i l[j],i+1,j+1) _ (aA.to [0,1,5,6] [((bG,0),bG)] (by simp)) ⟨by simp[f],by show i+1<j+1;omega,by show j+1<=l.length;omega,by show(L.set i l[j]).take (i+1)=_;rw[w,t,d];simp[o],?_,by show i+1<=l.length;omega⟩ (by show l.length - (j+1)<l.length - j;omega);show(L.set i l[j]).drop (j+1)=l.drop (j+1);rw[Md (by omega),<- List.drop_drop,z,wj]
  .have H:j=l.length:=by omega
   subst H;rw[lO]at d;have F:i=(l.filter λx=>!p x).length:=by rw[<- d];simp;omega
   generalize (l.filter λx=>!p x)=D at *
   subst F;have ht:(aT L).take D.length=aT D:=by rw[JT,d]
   have ad:min D.length l.length=D.length:=wc A;have J:D.length+(l.length - D.length)=l.length:=by omega
   simp[f,A,J,d];have E:L.drop l.length=[]:=by rw[<- f];simp
   rw[E,Rb,kZ];rfl
end Go.Ab
namespace Go.Ab
open Enc (enc)
@[simp] theorem ygx{P:Program}{N:Nat}{Q:Exit->St->Prop}{α : Type}[Enc α](o:List α)(x:AV)(f:AV->d')(d:Option Nat)(dd:List (List Nat))(ks:List Kt):oK P N Q (.el (aT o++[x]) o.length f) d dd ks=oK P N Q (f x) d dd ks:=by
 have:(aT o++[x])[o.length]?=some x:=by rw[qC (by simp)];simp
 simp only[oK,fT,this];exact propext ⟨λ⟨e,h,k⟩=>by cases h;exact k,λk=>⟨_,rfl,k⟩⟩
@[simp] theorem yjt{α : Type}[Enc α](o:List α)(x y:AV):(aT o++[x]).set o.length y=aT o++[y]:=by rw[B7 _ _ (by simp)];simp
def N1{α : Type}[Enc α](l:List α)(r:List α):((aH (l++r)).map AV.p).take l.length=aT l:=by simp[-jE,aT,aH]
def QF{st:St}{f:FuncId}{e:Nat}{vs:List AV}{args:List PV}{sz:Nat}{es:List PV}{K:bI->AV->St->Prop}(hs:Sp P f args (.fresh sz es))(b:vs.mapM (bE st aZ)=some args)
  (h:es.all (λv=>v.sz == sz)=true/\0<sz/\es.length<=eS) (a:vs.flatMap (aO st aZ)=[])
  (k:K ⟨f,args,.fresh sz es,none⟩ (.own e (st.site e).length 0 es.length) (st.alloc e ⟨sz,es.map .p⟩)):vP P st e f vs K :=
 Fi hs b h st (by rw[a];simp[aJ]) k
def Xl{st:St}{f:FuncId}{e:Nat}{vs:List AV}{args:List PV}{i sz:Nat}{a:List PV}{r:PV}{K:bI->AV->St->Prop}(hs:jD P f args i sz a (.pure r))(x:vs.mapM (bE st aZ)=some args)
  {s g b:Nat} {sl:Bool} (j:AG vs[i]?=some (s,g,b,sl)) {o:bD} (w:st.obj s g=some o) (t:i<vs.length) (u:b=o.es.length) (l:a.length=b) (m:o.sz=sz) (d:a.all (λv=>v.sz == sz)=true) (h:(a.flatMap PV.cells).all PV.one=true)
  (n:(vs.eraseIdx i).flatMap (aO st aZ)++o.es.flatMap (aO st 5)=[])
  (k:K ⟨f,args,.pure r,some (i,sz,a)⟩ (.p r) (st.setObj s g ⟨sz,a.map .p⟩)):vP P st e f vs K:=by
 refine sE hs x j w t u l m d h (by rw[n];rfl) ?_;rw[n];simpa[aJ]using k
structure gH.ok (a:gH):Prop where
 ring:a.ring.ok=true
 sy1:1<=a.sy
 sy2:a.sy<=32
 st1:0<=a.st
 st2:a.st<=64
 il:(a.aU.length:Int)=a.st
 fl:(a.fin.length:Int)=a.st
 al:a.aE.length<=2048
 aE:∀ x∈a.aE,TV x a
 aU:∀ w∈a.aU,w.aQ a.ring
 fin:∀ w∈a.fin,w.aQ a.ring
def ZE{r:aB}{l:List GW}(h:∀ w∈l,w.aQ r):(l.map λw=>r.plus w r.zero)=l:=by have:(l.map λw=>r.plus w r.zero)=l.map id:=vA λw a=>AZ (h w a);rw[this,List.map_id]
def EJ{r:aB}(h:r.ok=true):r.parts.length<=3:=by
 by_cases a:r.kind=6
 .exact(aB.bQ h a).2.1
 .simp[(aB.cC h a).2.2]
def PI(x y:aC):zS 73 [enc x,enc y] (.int .i64 (fU x.key y.key)):=by rw[<- Ld x.key y.key rfl,show List.zipWith gC x.key y.key=[gC x.f y.f,gC x.i y.i,gC x.o y.o,gC x.t y.t] from rfl];refine Sp.vz c.fb λ_=>?_;simp[g.fb];refine bF (yt x.f y.f) rfl ?_;simp;refine bF (yt x.i y.i) rfl ?_;simp;refine bF (yt x.o y.o) rfl ?_;simp;refine bF (yt x.t y.t) rfl ?_;simp;refine bA (SM [gC x.f y.f,gC x.i y.i,gC x.o y.o,gC x.t y.t] (by simp)) ?_;simp
def UQ(r:aB)(w:GW)(a:w.sm 1048576):zS 143 [enc w,.ref (enc r)] (.bool (!decide (w.aQ r))):=by refine Sp.gU c.jg (by simp) (aA.eU (t:=1) (v:=enc r) (n:=2) (by simp) (by simp)) ?_;simp[g.jg];refine bA (KH r w a) ?_;simp
def Qy(r:aB)(l:List GW)(m:Int)(b:∀ w∈l,w.sm 1048576)(a:l.length<=2147483648):zS 101 [enc r,.sl (aH l),.int .i64 m] (.bool (decide ((l.length:Int)=m/\∀ w∈l,w.aQ r))):=by
 refine Sp.vz c.lz λ_=>?_;have e:decide ((l.length:Int)=m/\∀ w∈l,w.aQ r)=(decide ((l.length:Int)=m) && !l.any λw=>!decide (w.aQ r)):=by rw[Bool.eq_iff_iff];simp
 rw[e];simp[g.lz];refine⟨λh=>?_,λh=>by simp[h]⟩;refine bF (UX l 143 [.ref (enc r)] (λw=>!decide (w.aQ r)) (by omega) λw d=>UQ r w (b w d)) (by simp[E7,EG]) ?_;simp[h]
def Qv(m:Int):zS 99 [.int .i64 m] (.bool (decide (1<=m/\m<=32))):=by refine Sp.vz c.lx λ_=>?_;simp[g.lx];exact⟨λh _=>h,λh a=>by omega⟩
def XQ(x:aC)(r:aB)(a:x.w.sm 1048576):zS 77 [enc x,.ref (enc r)] (.bool (decide (x.w=r.zero))):=by refine Sp.gU c.ij (by simp) (aA.eU (t:=1) (v:=enc r) (n:=2) (by simp) (by simp)) ?_;simp[g.ij];refine bA (Fe r x.w a) ?_;simp
def lv(r:aB)(z y:aC):aC:=⟨z.f,z.i,z.o,z.t,r.plus z.w y.w⟩
noncomputable def cR(r:aB)(l:List aC):List aC:=(fN aC.key (lv r) id (b6 aC.key l)).filter λx=>!decide (x.w=r.zero)
end Go.Ab
