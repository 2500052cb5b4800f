/- Lemmas for the law ProjectAppliesMadeModels, part 13. No conditions. -/
import Derived.Test.YthhdboljpgdcpaaGreatDoorDP12
import Derived.Shelf.SlGeneric
set_option maxRecDepth 100000
set_option maxHeartbeats 4000000
set_option linter.all false
noncomputable section
namespace Go.Ab
open Go.Proofs Go.Shelf
def yen:Go.Shelf.Ren:=⟨λ|6=>341|15=>373|14=>372|28=>399|29=>366|20=>391|21=>392|22=>393|23=>394|24=>395|25=>396|26=>397|27=>398|46=>405|47=>406|48=>407|49=>408|50=>409|57=>412|n=>n,λ|22=>56|24=>102|25=>316|3=>3|39=>207|0=>0|53=>179|55=>55|4=>4|46=>355|45=>354|50=>158|5=>5|9=>9|66=>369|70=>373|76=>376|77=>377|n=>n,λ|n=>n⟩
def sl6:Go.Proofs.SlLaysF0.n6 Tryz.prog yen:={
 mixed:=by kernel_rfl
 f6:=⟨Tryz.f341.name,by decide,Tryz.func341.trans (congrArg some (by kernel_rfl))⟩
 f14:=⟨Tryz.f372.name,by decide,Tryz.func372.trans (congrArg some (by kernel_rfl))⟩
 f15:=Tryz.func373.trans (congrArg some (by kernel_rfl))
 f20:=⟨Tryz.f391.name,by decide,Tryz.func391.trans (congrArg some (by kernel_rfl))⟩
 f21:=⟨Tryz.f392.name,by decide,Tryz.func392.trans (congrArg some (by kernel_rfl))⟩
 f22:=⟨Tryz.f393.name,by decide,Tryz.func393.trans (congrArg some (by kernel_rfl))⟩
 f23:=⟨Tryz.f394.name,by decide,Tryz.func394.trans (congrArg some (by kernel_rfl))⟩
 f24:=⟨Tryz.f395.name,by decide,Tryz.func395.trans (congrArg some (by kernel_rfl))⟩
 f25:=⟨Tryz.f396.name,by decide,Tryz.func396.trans (congrArg some (by kernel_rfl))⟩
 f26:=⟨Tryz.f397.name,by decide,Tryz.func397.trans (congrArg some (by kernel_rfl))⟩
 f27:=⟨Tryz.f398.name,by decide,Tryz.func398.trans (congrArg some (by kernel_rfl))⟩
 f28:=Tryz.func399.trans (congrArg some (by kernel_rfl))
 f29:=Tryz.func366.trans (congrArg some (by kernel_rfl))
 f46:=⟨Tryz.f405.name,by decide,Tryz.func405.trans (congrArg some (by kernel_rfl))⟩
 f47:=Tryz.func406.trans (congrArg some (by kernel_rfl))
 f48:=Tryz.func407.trans (congrArg some (by kernel_rfl))
 f49:=⟨Tryz.f408.name,by decide,Tryz.func408.trans (congrArg some (by kernel_rfl))⟩
 f50:=⟨Tryz.f409.name,by decide,Tryz.func409.trans (congrArg some (by kernel_rfl))⟩
 f57:=⟨Tryz.f412.name,by decide,Tryz.func412.trans (congrArg some (by kernel_rfl))⟩
 t0:=Tryz.underlying0
 a0:=Tryz.isAgg0
 z0:=Tryz.sizeOf0
 v0:=Tryz.zeroValue0
 t3:=Tryz.underlying3
 a3:=Tryz.isAgg3
 z3:=Tryz.sizeOf3
 v3:=Tryz.zeroValue3
 t4:=Tryz.underlying4
 a4:=Tryz.isAgg4
 z4:=Tryz.sizeOf4
 v4:=Tryz.zeroValue4
 t5:=Tryz.underlying5
 a5:=Tryz.isAgg5
 z5:=Tryz.sizeOf5
 v5:=Tryz.zeroValue5
 t9:=Tryz.underlying9
 a9:=Tryz.isAgg9
 z9:=Tryz.sizeOf9
 v9:=Tryz.zeroValue9
 t22:=Tryz.underlying56
 a22:=Tryz.isAgg56
 z22:=Tryz.sizeOf56
 v22:=Tryz.zeroValue56
 t25:=Tryz.underlying316
 a25:=Tryz.isAgg316
 z25:=Tryz.sizeOf316
 v25:=Tryz.zeroValue316
 t39:=Tryz.underlying207
 a39:=Tryz.isAgg207
 z39:=Tryz.sizeOf207
 v39:=Tryz.zeroValue207
 t45:=Tryz.underlying354
 a45:=Tryz.isAgg354
 z45:=Tryz.sizeOf354
 v45:=Tryz.zeroValue354
 t46:=Tryz.underlying355
 a46:=Tryz.isAgg355
 z46:=Tryz.sizeOf355
 v46:=Tryz.zeroValue355
 t50:=Tryz.underlying158
 a50:=Tryz.isAgg158
 z50:=Tryz.sizeOf158
 v50:=Tryz.zeroValue158
 t53:=Tryz.underlying179
 a53:=Tryz.isAgg179
 z53:=Tryz.sizeOf179
 v53:=Tryz.zeroValue179
 t55:=Tryz.underlying55
 a55:=Tryz.isAgg55
 z55:=Tryz.sizeOf55
 v55:=Tryz.zeroValue55
 t66:=Tryz.underlying369
 a66:=Tryz.isAgg369
 z66:=Tryz.sizeOf369
 v66:=Tryz.zeroValue369
 t70:=Tryz.underlying373
 a70:=Tryz.isAgg373
 z70:=Tryz.sizeOf373
 v70:=Tryz.zeroValue373
 t76:=Tryz.underlying376
 a76:=Tryz.isAgg376
 z76:=Tryz.sizeOf376
 v76:=Tryz.zeroValue376
 t77:=Tryz.underlying377
 a77:=Tryz.isAgg377
 z77:=Tryz.sizeOf377
 v77:=Tryz.zeroValue377 }
def Dm:JN P 341 6:=by rw[P_eq];intro α _ en n i f k g cb bX b a d w h m j l o;exact Go.Proofs.AnyQ.slices_SortFunc sl6 6 (λw=>by kernel_rfl) (λw=>by kernel_rfl) en n i f k g cb bX b a d w h m j l o
end Go.Ab
namespace Go.Ab
open IntKind (i64)
open Enc (enc)
def Zb:JN P 341 6:=Dm
def Ze(m n:aF):zS 342 [enc m,enc n] (g6 (n.e.cmp m.e)):=by refine Sp.vz c.di λ_=>?_;simp[g.di];refine bA (Qa m.e n.e) rfl ?_;simp
def ybk:gO P 391 [.sl [],g6 0,g6 0,.fn 342 []] 0 6 [] (.pure (.bM [])):=by refine gO.cE c.qj (by simp) rfl rfl ?_;simp[g.qj];refine zK λR f h d=>?_;simp[g.xx,g.xy];refine d _ _ ?_;simp
def yaz(k:Int):gO P 372 [.sl [],g6 0,g6 0,g6 k,.fn 342 []] 0 6 [] (.pure (.bM [])):=by refine gO.cE c.lz (by simp) rfl rfl ?_;simp[g.lz];refine zK λR f d h=>?_;simp[g.xv];refine qV ybk (by simp) rfl rfl (by simp) rfl rfl rfl rfl rfl (by simp) ?_;simp;exact d _ (by simp)
def Ex.mI(x y:Ex):x.cmp y<0 ↔ x.a<y.a\/(x.a=y.a/\(x.b<y.b\/(x.b=y.b/\x.c<y.c))):=by
 unfold Ex.cmp
 repeat' split
 all_goals omega
def sD(x:PV):Prop:=∃ m:aF,x=enc m
def sX:PV->Ex
 | .agg (.int _ a::.int _ b::.int _ c::_)=>⟨a,b,c⟩
 | _=>⟨0,0,0⟩
theorem ZV(m:aF):sX (enc m)=m.e:=rfl
def Ex.ext'{x y:Ex}(d:¬ x.cmp y<0)(f:¬ y.cmp x<0):x=y:=by rw[Ex.mI]at d f;cases x;cases y;simp only[Ex.mk.injEq]at *;omega
theorem Wp(l k:List aF)(L:l.length<=1073741824)(I:(l.map (·.e)).Nodup)(hp:k.Perm l)(hs:k.Pairwise λx y=>y.e.cmp x.e<0):gO P 341 [.sl (ens l),.fn 342 []] 0 6 (ens k) (.pure (.bM [])):=by
 have p:=Mw c.fh;have r:=Mw c.di;cases l with
 | nil =>
  have:k=[]:=List.Perm.eq_nil hp;subst this;refine gO.cE c.fh (by simp) rfl rfl ?_;simp[g.fh];refine bA yf9 rfl ?_;simp;refine qV (yaz 0) (by simp) rfl rfl (by simp) rfl rfl rfl rfl rfl (by simp) ?_;simp
 | cons m l =>
  have s:∀ x y:aF,x∈m::l->y∈m::l->x.e=y.e->x=y:=λx y u w d=>by obtain⟨i,G⟩:=List.getElem?_of_mem u;obtain⟨j,H⟩:=List.getElem?_of_mem w;obtain⟨J,B⟩:=List.getElem?_eq_some_iff.1 G;obtain⟨K,C⟩:=List.getElem?_eq_some_iff.1 H;have:i=j:=(List.getElem_inj (h₀ := by simpa using J) (h₁ := by simpa using K) I).1 (by simp only[List.getElem_map,B,C,d]);subst this;rw[<- B,<- C]
  refine Zb.spM p (by decide) (D:=sD) (c:=λx y=>(sX y).cmp (sX x)) r ?_ ?_ ?_ ?_ (by simp[-gW,ens]) (by simp only[Mt];omega) ?_ ?_ ?_
  .rintro _ _ ⟨x,rfl⟩ ⟨y,rfl⟩;exact Ze x y
  .rintro _ ⟨x,rfl⟩;rw[Ex.mI];omega
  .rintro _ _ _ ⟨x,rfl⟩ ⟨y,rfl⟩ ⟨z,rfl⟩ n o;simp only[Ex.mI]at *;omega
  .rintro _ _ _ ⟨x,rfl⟩ ⟨y,rfl⟩ ⟨z,rfl⟩ n o;simp only[Ex.mI]at *;omega
  .intro e d;obtain⟨x,_,rfl⟩:=cA.1 d;exact⟨x,rfl⟩
  .intro e d;exact SX _ e d
  .intro M A t;have f:(ens k).Perm (ens (m::l)):=hp.map _;refine List.Perm.eq_of_pairwise (le:=λx y=>¬ (sX x).cmp (sX y)<0) (λa b E F n o=>?_) t ?_ (A.trans f.symm)
   .obtain⟨x,u,rfl⟩:=cA.1 (A.mem_iff.1 E);obtain⟨y,w,rfl⟩:=cA.1 (f.mem_iff.1 F);have:=s x y u w (Ex.ext' n o);rw[this]
   .rw[ens,Jr];refine hs.imp λ{x y} h=>?_;simp only[ZV,Ex.mI]at *
    omega
def Bo(p:Ex × aT):Option aF:=if p.2.v≠0 then some ⟨p.1,p.2⟩else none
def nz(L:List (Ex × aT)):List aF:=L.filterMap Bo
def pB(L:List (Ex × aT))(j:Nat):Option aF:=L[j]?.bind Bo
theorem RP{α β : Type}(f : α -> Option β):∀ (L:List α),(List.range L.length).filterMap (λj=>L[j]?.bind f)=L.filterMap f
 | []=>rfl
 | x::L=>by
  rw[qH,List.range_succ_eq_map,GM];have h:(List.map Nat.succ (List.range L.length)).filterMap (λj=>(x::L)[j]?.bind f)=L.filterMap f:=by rw[List.filterMap_map,<- RP f L];rfl
  simp only[List.getElem?_cons_zero,Option.bind_some,h,GM]
def ya6(L:List (Ex × aT)):(List.range L.length).filterMap (pB L)=nz L:=RP Bo L
theorem Qw{j:Nat}{d:List Nat}(o:j∈d):∀ {R:List Nat},R.Nodup->(R.filter λi=>i∉d.filter λi=>!decide (i=j)).Perm ((if j∈R then[j]else[])++R.filter λi=>i∉d)
 | [],_=>by simp
 | x::R,h=>by
  obtain⟨p,r⟩:=uL.1 h;have l:=Qw o r;by_cases n:x=j
  .subst n;have f:decide (x∉d.filter λi=>!decide (i=x))=true:=by simp
   have k:decide (x∉d)=false:=by simp[o]
   rw[bD p]at l;simp only[EV,f,k,gP,fQ,cI,true_or,cH,List.singleton_append,uP]at l ⊢;exact l.cons x
  .have s:(j∈x::R) ↔ j∈R:=by simp[wJ n]
   simp only[s];by_cases m:x∈d
   .have f:decide (x∉d.filter λi=>!decide (i=j))=false:=by simp[m,n]
    have k:decide (x∉d)=false:=by simp[m]
    simp only[EV,f,k,gP,fQ];exact l
   .have f:decide (x∉d.filter λi=>!decide (i=j))=true:=by simp[m]
    have k:decide (x∉d)=true:=by simp[m]
    simp only[EV,f,k,cH];exact(l.cons x).trans List.perm_middle.symm
theorem yfw{L:List (Ex × aT)}{d:List Nat}{j:Nat}(k:j∈d)(l:j<L.length){acc:List aF}(h:acc.Perm (((List.range L.length).filter λi=>i∉d).filterMap (pB L))) :
  (match pB L j with|some m=>acc++[m]|none=>acc).Perm (((List.range L.length).filter λi=>i∉d.filter λi=>!decide (i=j)).filterMap (pB L)):=by
 have f:=(Qw k (R:=List.range L.length) List.nodup_range).filterMap (pB L);rw[aX (yF.2 l),List.singleton_append,GM]at f;refine List.Perm.trans ?_ f.symm;cases pB L j with
 | none=>exact h
 | some m=>exact(List.perm_append_comm (l₁ := acc) (l₂ := [m])).trans (h.cons m)
def Lx{L:List (Ex × aT)}(h:(L.map (·.1)).Nodup):((nz L).map (·.e)).Nodup:=by
 have d:∀ L:List (Ex × aT),((nz L).map (·.e)).Sublist (L.map (·.1)):=by
  intro L
  induction L with
  | nil=>exact List.Sublist.refl _
  | cons p L i =>
   simp only[nz,GM,Bo]at i ⊢;split
   .rename_i j;exact i.cons _
   .rename_i m f;split at f
    .cases f;exact i.cons_cons _
    .cases f
 exact(d L).nodup h
def Cq(d:Nat)(acc:List aF):St:=aB [(3,.own 1 0 0 acc.length),(7,.p (.wZ d))] [(1,⟨6,aK acc⟩)]
def On(j r:Nat)(L:List (Ex × aT))(n:Nat)(s:St)(B:Option FA):Prop:=∃ d f h,aA s (Cq j d)/\B=some (n' j r (n3 L) (pD L) f h)/\f.length=n/\d.length+f.length<=L.length/\d.Perm (((List.range L.length).filter λi=>i∉f).filterMap (pB L))
def lsE(h:Nat)(L:List (Ex × aT))(f:Exit)(s:St):Prop:=f=.exit 0/\∃ d,aA s (Cq h d)/\d.Perm (nz L)/\d.length<=L.length
def MK(r:Nat)(L:List (Ex × aT))(X:∀ p∈L,p.2.sm 4194304)(J:(L.map (·.1)).Nodup)(R:L.length<=1000000)(z:List aF)(hp:z.Perm (nz L))(hs:z.Pairwise λx y=>y.e.cmp x.e<0) :
  Sp P 292 [.mp r (n3 L) (pD L)] (.fresh 6 (ens z)):=by
 refine Sp.fZ c.ff (by simp) ?_;unfold g.ff;generalize Y:(λE s (_:Option FA)=>iD [(2,none)] (RV.fresh 6 (ens z)) E s)=Post;refine MR.dG ?_;simp;refine MR.dG ?_;simp;refine MR.cK (MR.cK (MR.mC (AU 1 [[0],[6]] ?_)));simp;refine eC.cons (z59 ty.map (by rfl) λU=>?_);refine xT [] ?_;simp;refine MR.kR (MR.mono (MR.nL (Post:=λE s B=>lsE U L E s) (I:=On U r L) L.length ?_ ?_) ?_)
 .refine⟨[],List.range L.length,none,?_,by simp[n3],by simp,by simp,?_⟩
  .exact aA.nl 3 1 6 rfl (aA.to [3,7] [((1,0),1)] (by simp[Cq,aB]))
  .have:(List.range L.length).filter (λi=>i∉List.range L.length)=[]:=by rw[List.filter_eq_nil_iff];intro a O;simp at O ⊢;exact O
   rw[this];exact List.Perm.refl _
 .rintro n s B ⟨k,M,V,K,rfl,S,G,d⟩;refine MR.eE K ?_;unfold g.xi;refine MR.cK (MR.mC (eC.cons (ybc rfl (λW=>?_) (λj Q Z vv m w=>?_))))
  .refine xT [[8]] ?_;simp;refine MR.cK (MR.eY (t:=false) rfl (λh=>by cases h) (λ_=>MR.uW ⟨λh=>(by cases h),λ_=>⟨λh=>(by cases h),λ_=>⟨rfl,k,?_,?_,by omega⟩⟩⟩))
   .exact aA.to [3,7] [((1,0),1)] (by simp[Cq,aB])
   .subst W;have e:(List.range L.length).filter (λi=>decide (i∉([]:List Nat)))=List.range L.length:=GL.2 (by simp);rw[e,ya6]at d;exact d
  .obtain⟨p,l,rfl,rfl⟩:∃ p:Ex × aT,L[j]?=some p/\Z=enc p.1/\vv=enc p.2:=by simp only[n3,EZ,wL]at m;obtain⟨p,N,rfl⟩:=m;simp only[pD,EZ,N,E4,cD]at w;exact⟨p,N,rfl,w.symm⟩
   have H:=(iU.1 l).1;refine xT [[8]] ?_;simp;refine MR.cK (MR.eY (t:=true) rfl (λ_=>MR.pE ⟨λ_=>?_,λh=>absurd rfl h⟩) (λh=>by cases h));refine MR.kR (MR.cK (MR.mC (eC.cons (XB rfl m w ?_))));refine xT [[],[10],[],[],[11],[12]] ?_;simp[Cq,aB];refine MR.cE ?_;simp;refine bA (Iq p.2 (X p (wM l))) rfl ?_;have f:=yfw Q H d;have D:(M.filter λi=>!decide (i=j)).length<M.length:=by refine Nat.lt_of_le_of_ne (kB _ _) λh=>?_;have:=(List.length_filter_eq_length_iff.1 h) j Q;simp at this
   by_cases F:p.2.v=0
   .have u:kM p.2.v=0:=(Et _).2 F;simp[u];have o:pB L j=none:=by simp[pB,l,Bo,F]
    rw[o]at f;exact⟨λ_=>⟨_,by rw[<- S];exact D,k,_,_,aA.to [3,7] [((1,0),1)] (by simp[Cq,aB]),rfl,rfl,by omega,f⟩,λh=>absurd rfl h⟩
   .have u:kM p.2.v≠0:=λh=>F ((Et _).1 h);simp[u];have o:pB L j=some ⟨p.1,p.2⟩:=by simp[pB,l,Bo,F]
    rw[o]at f;exact⟨by omega,λ_=>⟨_,by rw[<- S];exact D,k++[⟨p.1,p.2⟩],_,_,aA.to [3,7] [((21,0),1)] (by simp[Cq,aB]),rfl,rfl,by simp;omega,f⟩,λh=>absurd rfl h⟩
 .rintro E s B ⟨rfl,k,K,d,G⟩;refine⟨λ_=>?_,λh=>absurd rfl h⟩;refine MR.eE K (MR.cE ?_);simp[Cq,aB];subst Y;have A:(k.map (·.e)).Nodup:=(d.map _).nodup_iff.2 (Lx J);have C:z.length=k.length:=(hp.trans d.symm).length_eq;refine qV (Wp k z (by omega) A (hp.trans d.symm) hs) (by simp) rfl rfl (by simp) (by simp) (by simp[C]) rfl (jF _ _ rfl) (cells_one (λ_=>rfl) _) (by simp) ?_;simp[C]
def C7:zR.v=0:=tJ
structure jN (ms:List aF) (L:List (Ex × aT)):Prop where
 G3:∀ e,(tK e L).v=pc ms e
 val:∀ e c,jZ e L=some c->c=cR (pc ms e)/\∃ m∈ms,m.e=e
 Cp:(L.map (·.1)).Nodup
 len:L.length<=ms.length
theorem TC{κ α : Type}[DecidableEq κ](e : κ)(c : α):∀ L:List (κ × α),(kQ e c L).length<=L.length+1
 | []=>by simp[kQ]
 | (f,d)::L=>by have:=TC e c L;simp only[kQ];split<;>simp<;>omega
theorem Ra{κ α : Type}[DecidableEq κ]{e : κ}{c : α}:∀ {L:List (κ × α)},(L.map (·.1)).Nodup->(e,c)∈L->jZ e L=some c
 | (d,k)::L,j,h=>by
  obtain⟨f,i⟩:=uL.1 j;simp only[jZ];obtain h|h:=cI.1 h
  .cases h;simp
  .have:d≠e:=by rintro rfl;exact f (cA.2 ⟨_,h,rfl⟩)
   rw[bD this];exact Ra i h
def jN.step{ms:List aF}{L:List (Ex × aT)}(h:jN ms L)(m:aF):jN (ms++[m]) (lJ m L):=by
 have f:∀ e,pc (ms++[m]) e=pc ms e+if m.e=e then m.bE.v else 0:=λe=>by rw[Er];simp[pc,qY]
 refine⟨λe=>?_,λe c i=>?_,Yz _ _ h.Cp,?_⟩
 .rw[f];simp only[tK,lJ,L'];split
  .rename_i d;subst d;simp only[xW,kW];have:=h.G3 m.e;simp only[tK]at this;rw[this]
  .rw[qY];exact h.G3 e
 .simp only[lJ,L']at i;rw[f];split at i
  .rename_i d;subst d;cases i;exact⟨by rw[h.G3,aX rfl],m,by simp,rfl⟩
  .rename_i d;obtain⟨j,x,k,l⟩:=h.val e c i;exact⟨by rw[bD d,qY];exact j,x,by simp[k],l⟩
 .have:=TC m.e (cR ((tK m.e L).v+m.bE.v)) L;have:=h.len;simp only[lJ,gQ,Jq];omega
def qS(ms:List aF)(L:List (Ex × aT)):List (Ex × aT):=ms.foldl (λL m=>lJ m L) L
theorem jN.fold:∀ (d:List aF) {ms:List aF} {L:List (Ex × aT)},jN ms L->jN (ms++d) (qS d L)
 | [],ms,L,h=>by simpa[qS]using h
 | m::d,ms,L,h=>by have:=jN.fold d (h.step m);simpa[qS]using this
def jN.nil:jN [] []:=⟨λe=>C7,λe c h=>(by cases h),by simp,by simp⟩
def Bq(ms:List aF):jN ms (qS ms []):=by simpa using jN.fold ms jN.nil
def jN.mem{ms:List aF}{L:List (Ex × aT)}(h:jN ms L){p:Ex × aT}(hp:p∈L):p.2=cR (pc ms p.1)/\∃ m∈ms,m.e=p.1:=h.val p.1 p.2 (Ra h.Cp hp)
theorem Sz{p q:List aF}(h:p.Perm q)(e:Ex):pc p e=pc q e:=by
 induction h with
 | nil=>rfl
 | cons x _ i=>simp only[pc,i]
 | swap x y l=>simp only[pc];rw[<- Rat.add_assoc,<- Rat.add_assoc,Cb (if y.e=e then y.bE.v else 0)]
 | trans _ _ d f=>rw[d,f]
def KF{L:List (Ex × aT)}{m:aF}(h:m∈nz L):(m.e,m.bE)∈L/\m.bE.v≠0:=by
 obtain⟨p,d,h⟩:=List.mem_filterMap.1 h;unfold Bo at h;split at h
 .rename_i f;cases h;exact⟨d,f⟩
 .cases h
theorem NL:∀ {L:List (Ex × aT)} (e:Ex),(L.map (·.1)).Nodup->pc (nz L) e=(tK e L).v
 | [],e,_=>by simp[nz,pc,tK,jZ,C7]
 | (f,i)::L,e,h=>by
  obtain⟨p,r⟩:=uL.1 h;have l:=NL (L:=L) e r;have d:nz ((f,i)::L)=if i.v≠0 then⟨f,i⟩::nz L else nz L:=by simp only[nz,GM,Bo];split<;>split<;>simp_all
  rw[d];simp only[tK,jZ];by_cases j:f=e
  .subst j;have o:pc (nz L) f=0:=D5 λm s k=>p (cA.2 ⟨_,(KF s).1,k⟩);split
   .simp[pc,o,qY]
   .rename_i n;simp at n;simp[o,n]
  .simp only[bD j];simp only[tK]at l;split
   .simp[pc,j,l,Bc]
   .exact l
def XL{p q:List aF}(hp:bS p)(y:bS q){L:List (Ex × aT)}(h:jN (p++q) L):(eN p q).Perm (nz L):=by
 have s:∀ m∈p++q,m.ok=true:=λm k=>by
  obtain h|h:=dN.1 k
  .exact(iA.1 hp).1 m h
  .exact(iA.1 y).1 m h
 have f:∀ m∈nz L,m.ok=true:=λm k=>by obtain⟨t,n⟩:=KF k;obtain⟨o,x,u,w⟩:=h.mem t;simp only at o w;refine aF.b0.2 ⟨?_,by rw[o];exact vD _,n⟩;rw[<- w];exact(aF.b0.1 (s x u)).1
 let le:aF->aF->Bool:=λa b=>decide (b.e.code<=a.e.code)
 have d:((nz L).mergeSort le).Perm (nz L):=List.mergeSort_perm _ _;have i:((nz L).mergeSort le).Pairwise λa b=>le a b=true:=List.pairwise_mergeSort (λa b c t n=>by simp only[le,decide_eq_true_eq]at *;omega) (λa b=>by simp only[le,Dc,decide_eq_true_eq];omega) _;have r:(((nz L).mergeSort le).map (·.e)).Nodup:=(d.map _).nodup_iff.2 (Lx h.Cp);have l:bS ((nz L).mergeSort le):=by
  refine iA.2 ⟨λm k=>f m (d.mem_iff.1 k),?_⟩;have n:((nz L).mergeSort le).Pairwise λa b=>a.e≠b.e:=List.pairwise_map.1 r;refine(i.and n).imp_of_mem λ{a b} z A j=>?_;have C:=(aF.b0.1 (f a (d.mem_iff.1 z))).1;have D:=(aF.b0.1 (f b (d.mem_iff.1 A))).1;have o:b.e.code<=a.e.code:=by simpa[le]using j.1
  have u:b.e.code≠a.e.code:=λB=>j.2 ((Ex.mG D C).1 B).symm;omega
 have:eN p q=(nz L).mergeSort le:=by refine Ip (xU q hp) l λe=>?_;rw[zP p (iA.1 y).1,Sz d,NL e h.Cp,h.G3,Er]
 rw[this];exact d
def Va{p q:List aF}(hp:bS p):(eN p q).Pairwise λx y=>y.e.cmp x.e<0:=by have d:=iA.1 (xU q hp);refine d.2.imp_of_mem λ{a b} f i h=>?_;exact(Ex.mH (aF.b0.1 (d.1 b i)).1 (aF.b0.1 (d.1 a f)).1).2 h
def jN.sm{p q:List aF}{n:Nat}(hp:bS p)(hq:bS q)(d:fP p n)(u:fP q n)(hn:1<=n){L:List (Ex × aT)}(h:jN (p++q) L):∀ x∈L,x.1.ok=true/\x.2.sm (n+n+1):=by
 intro x s;obtain⟨l,m,o,h3⟩:=h.mem s;refine⟨?_,?_⟩
 .rw[<- h3];obtain h|h:=dN.1 o
  .exact(aF.b0.1 ((iA.1 hp).1 m h)).1
  .exact(aF.b0.1 ((iA.1 hq).1 m h)).1
 .have f:∀ {p:List aF},bS p->fP p n->∃ a:aT,a.sm n/\a.v=pc p x.1:=λ{p} r d=>by
   obtain h|⟨y,t,h⟩:=F0 r x.1
   .exact⟨dP,yf n,by rw[tJ,h]⟩
   .exact⟨y.bE,d y t,h.symm⟩
  obtain⟨a,a1,i⟩:=f hp d;obtain⟨b,j,k⟩:=f hq u;rw[l,Er,<- i,<- k];exact MJ a1 j hn hn
def Bn(r:Nat)(ms:List aF)(k:Nat):St:=aB [(5,.p (.fM r)),(14,.own 1 0 0 ms.length),(15,f8 ms.length),(16,f8 k)] [(1,⟨6,aK ms⟩)]
def J1(r:Nat)(ms:List aF):Option FA:=some (sN r (n3 (qS ms [])) (pD (qS ms [])))
def paI(r:Nat)(ms:List aF)(n:Nat)(s:St)(B:Option FA):Prop:=∃ k,k<=ms.length/\n=ms.length - k/\aA s (Bn r ms k)/\B=J1 r (ms.take k)
def paE(r:Nat)(ms:List aF)(d:Exit)(s:St)(B:Option FA):Prop:=d=.exit 0/\aA s (Bn r ms ms.length)/\B=J1 r ms
def Yw(ms:List aF)(m:aF):qS (ms++[m]) []=lJ m (qS ms []):=by simp[qS]
def UI:GC:=.seq (.cX [⟨some 27,.mv (.t 5),none⟩,⟨some 28,.call 292 [.t 27],none⟩,⟨some 4,.mv (.t 28),none⟩] [[5,14,15,16],[27],[28]])
 (.ret)
def Sy(r:Nat)(p q:List aF)(n:Nat)(F:bS p)(H:bS q)(K:fP p n)(L:fP q n)(G:1<=n)(hn:n<=400000)(U:p.length<=100000)(V:q.length<=100000){s:St}(D:aA s (Bn r (p++q) 0)) :
  MR P 29 (GC.bX 0 (.loop g.uh)).er s (J1 r []) λu s B=>(u=.normal->MR P 29 UI.er s B λu s _=>iD [(4,none)] (RV.pure (.sl (ens (eN p q)))) u s)/\(u ≠ .normal->iD [(4,none)] (RV.pure (.sl (ens (eN p q)))) u s):=by
 have J:(p++q).length<=200000:=by simp;omega
 have A:∀ m∈p++q,m.e.ok=true/\m.bE.sm n:=λm y=>by
  obtain h|h:=dN.1 y
  .exact⟨(aF.b0.1 ((iA.1 F).1 m h)).1,K m h⟩
  .exact⟨(aF.b0.1 ((iA.1 H).1 m h)).1,L m h⟩
 have j:∀ k,∀ x∈qS ((p++q).take k) [],x.1.ok=true/\x.2.sm 1048576:=λk x E=>by have h:=Bq ((p++q).take k);have e:(p++q).take k=p.take k++q.take (k - p.length):=List.take_append;rw[e]at h E;obtain⟨N,O⟩:=h.sm (F.take k) (H.take _) (λm y=>K m (iC y)) (λm y=>L m (iC y)) G x E;exact⟨N,O.mono (by omega)⟩
 have f:=Bq (p++q);have C:=j (p++q).length;rw[kK]at C;have l:=XL F H f;have o:=Va (p:=p) (q:=q) F;generalize Q:p++q=i at *
 refine MR.kR (MR.mono (MR.nL (Post:=paE r i) (I:=paI r i) i.length ⟨0,by omega,by omega,D,rfl⟩ ?_) ?_)
 .rintro W s B ⟨k,S,rfl,D,rfl⟩;refine MR.eE D ?_;unfold g.uh;refine MR.dG ?_;simp[Bn,aB];by_cases d:k<i.length
  .refine MR.cK (MR.eY (t:=true) (by simp[d]) (λ_=>MR.pE ⟨λ_=>?_,λh=>absurd rfl h⟩) (λh=>by cases h));simp;refine MR.cK (MR.kR (MR.dG ?_));simp;refine⟨d,bK d ?_⟩;have z:=A i[k] (bU d);refine MR.mC (AU 5 [[],[],[21],[7],[23]] ?_);simp;refine eC.cons (Ma (args:=[enc i[k].e,enc i[k].bE]) (Mr i[k] _ z.1 (z.2.mono (by omega)) (j k)) (by simp) (Ik _) (Il _) ?_);refine xT [[20,22,24,25]] ?_;simp;refine⟨λ_=>MR.cE ?_,λh=>absurd rfl h⟩;have M:=aZ k;simp[M];refine⟨_,?_,k+1,by omega,rfl,aA.to [5,14,15,16] [((1,0),1)] (by simp[Bn,aB]),?_⟩
   .omega
   .simp only[J1];rw[ed d,Yw]
  .have w:k=i.length:=by omega
   refine MR.cK (MR.eY (t:=false) (by simp[d]) (λh=>by cases h) (λ_=>MR.uW ⟨λh=>(by cases h),λ_=>⟨λh=>(by cases h),λ_=>⟨rfl,?_,?_⟩⟩⟩))
   .exact aA.to [5,14,15,16] [((1,0),1)] (by simp[Bn,aB,w])
   .rw[w,kK]
 .rintro u s B ⟨rfl,D,rfl⟩;refine⟨λ_=>?_,λh=>absurd rfl h⟩;refine MR.eE D (MR.freeze (t:=5) rfl ?_);refine MR.cE ?_;simp[UI,Bn,aB];have R:=O7 p q;refine EF (MK r (qS i []) (λx E=>(C x E).2.mono (by omega)) f.Cp (by have:=f.len;omega) (eN p q) l o) (by simp) ⟨jF _ _ rfl,by decide,by simp[-gW,ens,eL];omega⟩ _ rfl ?_;simp[aI]
def YT(p q:List aF)(n:Nat)(k:fP p n)(l:fP q n)(d:1<=n)(hn:n<=400000)(y:p.length<=100000)(z:q.length<=100000) :
  zS 240 [.sl (ens p),.sl (ens q)] (.sl (ens (eN (pv p) (pv q)))):=by
 refine Sp.fZ c.ph (by simp) ?_;unfold g.ph;generalize h:(λt s (_:Option FA)=>iD [(4,none)] (RV.pure (.sl (ens (eN (pv p) (pv q))))) t s)=f;have m:=Ul p;have o:=Ul q;have i:=Uk k;have j:=Uk l;have w:=Uj p;have x:=Uj q;refine MR.dG ?_;simp;refine MR.cK (MR.mC (eC.cons (I4 λr=>?_)));refine xT [[8]] ?_;simp;refine MR.cK (MR.dG ?_);simp;refine bA (ID p (k.mono (by omega)) (by omega)) rfl ?_;simp;refine bA (ID q (l.mono (by omega)) (by omega)) rfl ?_;simp;refine EF (WZ (pv p) (pv q) (by omega)) (by simp) ⟨jF _ _ rfl,by decide,by simp[-gW,ens,eL];omega⟩ _ rfl ?_;cases u:(ens (pv p++pv q)).all PV.flat
 .simp[aI];subst h;refine Sy r (pv p) (pv q) n m o i j d hn (by omega) (by omega) ?_;exact aA.to [5,14,15,16] [((14,0),1)] (by simp[Bn,aB])
 .simp;subst h;refine Sy r (pv p) (pv q) n m o i j d hn (by omega) (by omega) ?_;exact aA.to [5,14,15,16] [((14,0),1)] (by simp[Bn,aB])
def aT.sm.jX{x:aT}{m n:Nat}(h:x.sm m)(k:m<=n):x.sm n:=⟨dM h.1 k,dM h.2 k⟩
def fP.jX{p:List aF}{m n:Nat}(h:fP p m)(k:m<=n):fP p n:=λx d=>(h x d).jX k
theorem GW.sm.mono{m n:Nat}(k:m<=n):∀ w:GW,w.sm m->w.sm n:=by
 refine GW.sm.ind λv d f=>?_;cases v with
 | mk q c i s p ps=>exact .mk (d.q.jX k) (d.aR.jX k) (dM d.len k) (dM d.uU k) f
def GW.sm.one(k:Int){n:Nat}{q:aT}{c:Int}{i:Bool}{s:UInt64}{p:List aF}(hq:q.sm n)(hp:fP p n)(hl:p.length<=n):(GW.mk q c i s p []).sm n:=.mk hq hp hl (by simp) (by simp)
def FI(n:Nat):fP [] n:=by intro m d;simp at d
def OH{k:Int}{v w:GW}{m n:Nat}(h:v.sm m)(i:w.sm n)(l:v.aJ ⟨k,[]⟩)(o:w.aJ ⟨k,[]⟩)(j:1<=m)(hn:1<=n):(fj k v w).sm (m+n+1):=by
 unfold fj;have d:=h.mono (show m<=m+n+1 by omega);have f:=i.mono (show n<=m+n+1 by omega);split
 .exact .one 0 (MJ h.q i.q j hn) (FI _) (by simp)
 .split
  .split
   .exact f
   .exact d
  .split
   .split
    .exact f
    .exact d
   .split
    .exact .one 0 (yf _) (FI _) (by simp)
    .exact .one 0 (yf _) (yfr (BA l) (BA o) h.aR i.aR j hn) (by have:=O7 v.aR w.aR;have:=h.len;have:=i.len;omega)
def Qb{a b:Nat}(h:a<=b):4294967296^a<=4294967296^b:=pV (by omega) h
def nP:List Int->List GW->List GW->List GW
 | k::d,v::f,w::h=>fj k v w::nP d f h
 | _,_,_=>[]
def aC.plus(r:aC)(v w:GW):GW:=if r.kind=6 then .mk dP 0 false 0 [] (nP r.parts v.parts w.parts)else fj r.kind v w
theorem uG:∀ {ks:List Int} {vs ws:List GW},vs.length=ks.length->ws.length=ks.length->(nP ks vs ws).length=ks.length
 | [],vs,ws,_,_=>by simp[nP]
 | k::ks,[],ws,h,_=>by simp at h
 | k::ks,v::vs,[],_,h=>by simp at h
 | k::ks,v::vs,w::ws,d,f=>by simp[nP,uG (ks:=ks) (vs:=vs) (ws:=ws) (by simpa using d) (by simpa using f)]
theorem wH:∀ {ks:List Int} {vs ws:List GW} {i:Nat} (h:i<ks.length) (d:i<vs.length) (f:i<ws.length) (j:i<(nP ks vs ws).length),(nP ks vs ws)[i]=fj ks[i] vs[i] ws[i]
 | k::ks,v::vs,w::ws,0,_,_,_,_=>by simp[nP]
 | k::ks,v::vs,w::ws,i+1,h,d,f,j=>by simp only[nP,List.getElem_cons_succ];exact wH (by simpa using h) (by simpa using d) (by simpa using f) (by simpa[nP]using j)
def yff(r:aC)(v w:GW)(J:v.sm 1048576)(K:w.sm 1048576)(u:v.aJ r)(B:w.aJ r)(l:r.kind=6)
  (j:∀ i (h:i<r.parts.length) (F:i<v.parts.length) (U:i<w.parts.length),zS 130 [enc (⟨r.parts[i],[]⟩:aC),enc v.parts[i],enc w.parts[i]] (enc (fj r.parts[i] v.parts[i] w.parts[i]))) :
  zS 130 [enc r,enc v,enc w] (enc (r.plus v w)):=by
 have t:=u.1;have G:=aC.bQ t l;have O:v.tk r=v:=aX u;have Q:w.tk r=w:=aX B;have C:=lQ r v (J.mono (by omega));have D:=lQ r w (K.mono (by omega));rw[O]at C;rw[Q]at D;have M:=(u.2.2 l).1;have N:=(B.2.2 l).1;have W:(nP r.parts v.parts w.parts).length=r.parts.length:=uG M N;refine Sp.vz c.ah λ_=>?_;simp[g.ah];refine bA (oG r) rfl ?_;simp[t];refine aW C ?_;simp;refine aW D ?_;simp[l]
 refine b6 (S:=λk:Nat=>aB [(3,i0 1),(4,i0 2),(5,i0 3),(6,i0 4),(7,i0 5),(8,f8 k)]
   [(1,⟨2,[.p (enc r)]⟩),(2,⟨8,[.p (enc v)]⟩),(3,⟨8,[.p (enc w)]⟩),(4,⟨8,[.agg [i4 false,.nil,.nil,f8 0,i4 false,.p (.int .u64 0),.nil,.nil]]⟩),
    (5,⟨8,[.agg [i4 false,.nil,.nil,f8 0,i4 false,.p (.int .u64 0),.nil,.own 6 0 0 k]]⟩),(6,⟨8,aK ((nP r.parts v.parts w.parts).take k)⟩)])
  (I:=λk=>k<=r.parts.length) (m:=λk=>r.parts.length - k) 0
  ((aA.b5 (s0:=7) (g0:=0) (i:=7) (s:=77) (sz:=8) rfl).trans (aA.to [3,4,5,6,7,8] [((3,0),1),((4,0),2),((5,0),3),((6,0),4),((7,0),5),((77,0),6)] (by simp[l]))) (by omega) ?_
 rintro k F R y V L;have E:=aZ k;simp[g.wg,aB];refine⟨λn=>?_,λn=>L _ _ ?_⟩
 .have d:k<v.parts.length:=by omega
  have f:k<w.parts.length:=by omega
  have H:=G.2.2 _ (bU n);refine bA (FZ r k n) rfl ?_;simp;refine bK d ?_
  try simp
  refine bK f ?_
  try simp
  refine aW (j k n d f) ?_;have o:k<(nP r.parts v.parts w.parts).length:=by omega
  have A:aK ((nP r.parts v.parts w.parts).take (k+1))=aK ((nP r.parts v.parts w.parts).take k)++[.p (enc (fj r.parts[k] v.parts[k] w.parts[k]))]:=by rw[ed o,sR,wH n d f o];rfl
  simp[E];exact⟨⟨by omega,by omega⟩,y (k+1) _ (aA.to [3,4,5,6,7,8] [((1,0),1),((2,0),2),((3,0),3),((4,0),4),((5,0),5),((97,0),6)] (by simp[A])) (by omega) (by omega)⟩
 .have x:k=(nP r.parts v.parts w.parts).length:=by omega
  have z:r.plus v w=.mk dP 0 false 0 [] (nP r.parts v.parts w.parts):=by simp[aC.plus,l]
  rw[z];subst x;simp
def XM(v w:GW)(n:Nat)(l:v.sm n)(m:w.sm n)(hn:n<=400000)(f:1<=n)(d:bS v.aR)(h:bS w.aR):zS 239 [enc v,enc w] (enc (fj 5 v w)):=by
 have i:v.aR.length<=100000:=by have:=tU d;omega
 have j:w.aR.length<=100000:=by have:=tU h;omega
 have k:=YT v.aR w.aR n l.aR m.aR f hn i j;rw[zG d,zG h]at k;refine Sp.vz c.ip λ_=>?_;simp[g.ip];refine bA k rfl ?_;simp[fj,dP]
def OF(k:Int)(o:1<=k/\k<=5)(v w:GW)(n:Nat)(l:v.sm n)(m:w.sm n)(hn:n<=400000)(h:1<=n)(i:v.si k)(j:w.si k):Sp P (UO k) (enc v::enc w::US k) (.pure (enc (fj k v w))):=by
 have:k=1\/k=2\/k=3\/k=4\/k=5:=by omega
 have d:=l.mono (show n<=1048576 by omega);have f:=m.mono (show n<=1048576 by omega);obtain rfl|rfl|rfl|rfl|rfl:=this
 .exact yaj v w d f
 .exact ycc v w i j
 .exact ybr v w d f i j
 .exact Wk v w
 .exact XM v w n l m (by omega) h (i.2.2.2.2.2.2.2.2 rfl) (j.2.2.2.2.2.2.2.2 rfl)
def yfd(r:aC)(v w:GW)(n:Nat)(l:v.sm n)(m:w.sm n)(hn:n<=400000)(j:1<=n)(i:v.aJ r)(k:w.aJ r)(h:r.kind≠6):zS 74 [enc r,enc v,enc w] (enc (fj r.kind v w)):=by have f:=i.1;have d:=aC.cJ f h;have t:v.tk r=v:=aX i;have u:w.tk r=w:=aX k;have o:=B3 r v (l.mono (by omega));have p:=B3 r w (m.mono (by omega));rw[t]at o;rw[u]at p;refine Sp.vz c.bc λ_=>?_;simp[g.bc];refine bA (A8 r) rfl ?_;simp[f];refine aW o ?_;simp;refine aW p ?_;simp[h];obtain⟨z,f6,A,B,x,y,s⟩:=ym r.kind ⟨d.1,d.2.1⟩;refine bA (CE r.kind ⟨d.1,d.2.1⟩) rfl ?_;simp[s];refine bA (OF r.kind ⟨d.1,d.2.1⟩ v w n l m hn j (i.2.1 h) (k.2.1 h)) (kX (by simp) (kX (by simp) (yn _ _))) ?_;simp
def XX(k:Int)(f:1<=k/\k<=5)(v w:GW)(i n:Nat)(m:i<v.parts.length)(o:i<w.parts.length)(A:i<=3)(j:v.parts[i].sm n)(l:w.parts[i].sm n)(hn:n<=400000)(d:1<=n)(p:v.parts[i].si k)(r:w.parts[i].si k) :
  zS 125 [xI k,g6 i,.ref (enc v),.ref (enc w)] (enc (fj k v.parts[i] w.parts[i])):=by
 obtain⟨x,f6,y,z,s,u,h⟩:=ym k f;rw[h];refine Sp.fD c.jx (by simp) ((aA.dV (t:=2) (v:=enc v) (n:=8) (by simp) (by simp)).trans (aA.dV (t:=3) (v:=enc w) (n:=8) (by simp) (by simp))) ?_;simp[g.jx];refine bK m ?_;refine bK o ?_;refine bA (OF k f v.parts[i] w.parts[i] n j l hn d p r) (kX (by simp) (kX (by simp) (yn _ _))) ?_;simp
theorem A7(st:St)(s g d off:Nat):bH st 5 (.ptr s g d off)=if d=0/\off=0 then match st.obj s g with
  | some o=>match o.es with
   | [e]=>(bH st 4 e).map .ref
   | _=>none
  | none=>none
  else none:=rfl
theorem AJ(st:St)(v:PV):bH st 4 (.p v)=some v:=rfl
def PL(r:aC)(v w:GW)(n:Nat)(o:v.sm n)(p:w.sm n)(hn:n<=400000)(j:1<=n)(f:v.aJ r)(l:w.aJ r):zS 74 [enc r,enc v,enc w] (enc (r.plus v w)):=by
 have k:=f.1;by_cases d:r.kind=6;rotate_left
 .have x:r.plus v w=fj r.kind v w:=by simp[aC.plus,d]
  rw[x];exact yfd r v w n o p hn j f l d
 have m:=aC.bQ k d;have B:v.tk r=v:=aX f;have C:w.tk r=w:=aX l;have s:=B3 r v (o.mono (by omega));have t:=B3 r w (p.mono (by omega));rw[B]at s;rw[C]at t;have z:=(f.2.2 d).1;have A:=(l.2.2 d).1;have y:(nP r.parts v.parts w.parts).length=r.parts.length:=uG z A;refine Sp.vz c.bc λ_=>?_;simp[g.bc];refine bA (A8 r) rfl ?_;simp[k];refine aW s ?_;simp;refine aW t ?_;simp[d];refine bA (HC r m.2.2 m.2.1 125 [.ref (enc v),.ref (enc w)] (nP r.parts v.parts w.parts) y λi h u=>?_) ?_ ?_
 .rw[wH h (by omega) (by omega) u];exact XX r.parts[i] (m.2.2 _ (bU h)) v w i n (by omega) (by omega) (by omega) (o.parts _ (bU _)) (p.parts _ (bU _)) hn j ((f.2.2 d).2.2 i h (by omega)) ((l.2.2 d).2.2 i h (by omega))
 .simp[A7,AJ,d]
 simp[aC.plus,d]
def Io(r:aC)(v w:GW)(n:Nat)(i:v.sm n)(j:w.sm n)(hn:n<=2000)(d:1<=n)(f:v.aJ r)(h:w.aJ r):zS 74 [enc r,enc v,enc w] (enc (r.plus v w)):=PL r v w n i j (by omega) d f h
def Ey(r:aC)(w:GW)(d:w.sm 1048576):zS 78 [enc r,enc w] (.bool (decide (w=r.zero))):=by refine Sp.vz c.c9 λ_=>?_;simp[g.c9];refine bA (wG r) rfl ?_;simp;refine aW (CV w d r.zero) ?_;simp
def OR(r:aC)(d:r.parts.length<=2147483648):zS 178 [enc r] (enc r):=by refine Sp.vz c.o8 λ_=>?_;simp[g.o8];refine aW (Qp r.parts d) ?_;simp
def VM(r:aC)(w:GW)(d:w.sm 1048576):zS 184 [enc w,.ref (enc r)] (.bool (!decide (w.aJ r))):=by refine Sp.fD c.ko (by simp) (aA.dV (t:=1) (v:=enc r) (n:=2) (by simp) (by simp)) ?_;simp[g.ko];refine aW (F9 r w d) ?_;simp
def XI(x y:aV):zS 256 [enc x,enc y] (g6 (zI [eP x.f y.f,eP x.l y.l,eP x.t y.t])):=by refine Sp.vz c.dh λ_=>?_;simp[g.dh];refine bA (vZ x.f y.f) rfl ?_;simp;refine bA (vZ x.l y.l) rfl ?_;simp;refine bA (vZ x.t y.t) rfl ?_;simp;refine aW (K9 [eP x.f y.f,eP x.l y.l,eP x.t y.t] (by simp)) ?_;simp
def Rm(r:aC)(l:List GW)(f:∀ w∈l,w.sm 1048576)(d:l.length<=2147483648):zS 147 [enc r,.sl (ens l)] (.bool (!l.any λw=>!decide (w.aJ r))):=by refine Sp.vz c.ot λ_=>?_;simp[g.ot];refine bA (RK l 184 [.ref (enc r)] (λw=>!decide (w.aJ r)) (by omega) λw h=>VM r w (f w h)) (by simp[A7,AJ]) ?_;simp
theorem Ml(st:St)(s g d off:Nat):bH st bF (.ptr s g d off)=if d=0/\off=0 then match st.obj s g with
  | some o=>match o.es with
   | [e]=>(bH st 5 e).map .ref
   | _=>none
  | none=>none
  else none:=rfl
theorem SZ(st:St)(v:PV):bH st 5 (.p v)=some v:=rfl
def Rj(x:Int)(a:aU):zS 183 [g6 x,.ref (enc a)] (.bool (decide (0<=x/\x<a.st))):=by refine Sp.fD c.pb (by simp) (aA.dV (t:=1) (v:=enc a) (n:=7) (by simp) (by simp)) ?_;simp[g.pb];exact⟨λh _=>h,λh d=>by omega⟩
def oa(x:aV)(a:aU):Prop:=0<=x.f/\x.f<a.st/\0<=x.t/\x.t<a.st/\0<=x.l/\x.l<=a.sy/\x.w.aJ a.ring
noncomputable instance (x:aV) (a:aU):Decidable (oa x a):=Classical.propDecidable _
def Yv(x:aV)(a:aU)(p:x.w.sm 1048576):zS 146 [enc x,enc a] (.bool (decide (oa x a))):=by
 refine Sp.vz c.oq λ_=>?_;have o:decide (oa x a)=(decide (0<=x.f)&&(decide (x.f<a.st)&&(decide (0<=x.t)&&(decide (x.t<a.st)&&(decide (0<=x.l)&&(decide (x.l<=a.sy)&&decide (x.w.aJ a.ring))))))):=by rw[Bool.eq_iff_iff,decide_eq_true_iff];simp only[decide_eq_true_eq,jO];exact Iff.rfl
 rw[o];simp[g.oq];refine bA (Rj x.f a) (by simp[Ml,SZ]) ?_;simp;refine⟨λd m=>?_,λd=>?_⟩
 .refine bA (Rj x.t a) (by simp[Ml,SZ]) ?_;simp;refine⟨λi n=>⟨λj=>⟨λk=>?_,λk=>?_⟩,λj=>?_⟩,λi=>?_⟩
  .refine aW (F9 a.ring x.w p) ?_;simp[d,m,i,n,j,k]
  .intros;omega
  .intros;omega
  .intro _ _ h;have:=i h;intros;omega
 .intro h;have:=d h;intros;omega
def Vj(x:aV)(a:aU)(d:x.w.sm 1048576):zS 145 [enc x,.ref (enc a)] (.bool (!decide (oa x a))):=by refine Sp.fD c.j8 (by simp) (aA.dV (t:=1) (v:=enc a) (n:=7) (by simp) (by simp)) ?_;simp[g.j8];refine aW (Yv x a d) ?_;simp
def aU.vb(a:aU):Bool:=a.ring.ok&&(decide (1<=a.sy)&&(decide (a.sy<=32)&&(decide (0<=a.st)&&(decide (a.st<=64)&&(decide ((a.aM.length:Int)=a.st)&&(decide ((a.fin.length:Int)=a.st)&&(decide (a.aD.length<=2048)&&((!a.aD.any λx=>!decide (oa x a))&&((!a.aM.any λw=>!decide (w.aJ a.ring))&&(!a.fin.any λw=>!decide (w.aJ a.ring)))))))))))
structure aU.sm (a:aU) (n:Nat):Prop where
 aM:∀ w∈a.aM,w.sm n
 fin:∀ w∈a.fin,w.sm n
 aD:∀ x∈a.aD,x.w.sm n
def Mn(a:aU)(h:a.sm 1048576):zS 102 [enc a] (.bool a.vb):=by
 refine Sp.vz c.jq λ_=>?_;simp[g.jq];refine bA (A8 a.ring) rfl ?_;cases o:a.ring.ok
 .simp[aU.vb,o]
 simp;refine⟨λi=>by simp[aU.vb,show ¬ 1<=a.sy by omega],λi=>⟨λj=>by simp[aU.vb,show ¬ a.sy<=32 by omega],λj=>⟨λk=>by simp[aU.vb,show ¬ 0<=a.st by omega],λk=>⟨λl=>by simp[aU.vb,show ¬ a.st<=64 by omega],λl=>⟨λd=>⟨λf=>⟨λp=>by simp[aU.vb,show ¬ a.aD.length<=2048 by omega],λp=>?_⟩,λf=>by simp[aU.vb,f]⟩,λd=>by simp[aU.vb,d]⟩⟩⟩⟩⟩;refine bA (Ve a.aD 145 [.ref (enc a)] (λx=>!decide (oa x a)) (by omega) λx s=>Vj x a (h.aD x s)) (by simp[A7,AJ]) ?_;simp;cases m:a.aD.any λx=>!decide (oa x a);rotate_left
 .simp;simp[aU.vb,m]
 simp;refine aW (Rm a.ring a.aM h.aM (by omega)) ?_;cases n:a.aM.any λw=>!decide (w.aJ a.ring);rotate_left
 .simp;simp[aU.vb,n]
 simp;refine aW (Rm a.ring a.fin h.fin (by omega)) ?_;have r:a.aD.length<=2048:=by omega
 simp;simp only[aU.vb,o,i,j,k,l,d,f,r,m,n,decide_true,GN,Bool.not_false];cases a.fin.any λw=>!decide (w.aJ a.ring)<;>rfl
def ycg(r:aC)(l:List GW)(n:Nat)(hn:n<=2000)(i:1<=n)(A:l.length<=1000000)(h:∀ w∈l,w.sm n/\w.aJ r)(y:r.zero.sm n)(o:r.zero.aJ r) :
  zS 63 [enc r,.sl (ens l)] (.sl (ens (l.map λw=>r.plus w r.zero))):=by
 refine Sp.vz c.bg λ_=>?_;simp[g.bg]
 refine b6 (S:=λk:Nat=>aB [(2,i0 2),(5,.own 1 0 0 k),(8,hW l),(9,f8 l.length),(10,f8 k)] [(2,⟨2,[.p (enc r)]⟩),(1,⟨8,aK ((l.take k).map λw=>r.plus w r.zero)⟩)]) (I:=λk=>k<=l.length) (m:=λk=>l.length - k) 0
  (aA.nl 5 77 8 rfl (aA.to [2,5,8,9,10] [((2,0),2),((77,0),1)] (by simp))) (by omega) ?_
 rintro k z R f B x;have s:=aZ k;simp[g.tp,aB];refine⟨λd=>?_,λd=>x _ _ ?_⟩
 .refine bK d ?_
  try simp
  refine bA (wG r) rfl ?_
  try simp
  have j:=h _ (List.getElem_mem d);refine aW (Io r l[k] r.zero n j.1 y hn i j.2 o) ?_;simp[s];have u:l.take (k+1)=l.take k++[l[k]]:=List.take_succ_eq_append_getElem d;refine⟨⟨by omega,by omega⟩,f (k+1) _ (aA.to [2,5,8,9,10] [((2,0),2),((21,0),1)] ?_) (by omega) (by omega)⟩;have t:(l.map λw=>r.plus w r.zero).take (k+1)=(l.map λw=>r.plus w r.zero).take k++[r.plus l[k] r.zero]:=by rw[List.take_succ_eq_append_getElem (by simpa using d)];simp
  simp[aB];rw[t];simp
 .have:k=l.length:=by omega
  subst this;simp;rw[eZ (by simp),eZ (by simp)]
theorem IL:∀ (l m:List Int),l.length=m.length->zI (List.zipWith eP l m)=eW l m
 | [],[],_=>rfl
 | [],y::j,h=>by simp at h
 | x::i,[],h=>by simp at h
 | x::i,y::j,h=>by
  have k:=IL i j (by simpa using h);simp only[List.zipWith,zI,eW,k,eP];by_cases d:x<y
  .simp[d]
  .by_cases f:y<x
   .simp[d,f]
   .simp[d,f]
def IT(x y:aV):zS 256 [enc x,enc y] (g6 (eW x.key y.key)):=by have h:=XI x y;rw[show[eP x.f y.f,eP x.l y.l,eP x.t y.t]=List.zipWith eP x.key y.key from rfl,IL x.key y.key rfl]at h;exact h
def Pa{k:Int}(f:1<=k/\k<=5):(mP k).si k:=by
 have:k=1\/k=2\/k=3\/k=4\/k=5:=by omega
 have d:=L8;obtain rfl|rfl|rfl|rfl|rfl:=this
 .rw[xZ];exact⟨rfl,rfl,rfl,rfl,rfl,d⟩
 .rw[pY];exact⟨rfl,rfl,rfl,rfl,Int.le_refl 0,by simp[mP,GW.cost],λ_=>rfl⟩
 .rw[wP];exact⟨rfl,rfl,rfl,rfl,rfl,d,by show 0<=dP.v;rw[tJ];decide,by show dP.v<=1;rw[tJ];decide⟩
 .rw[Bf];exact⟨rfl,rfl,rfl,rfl,rfl⟩
 .rw[Aq];exact⟨rfl,rfl,rfl,rfl,rfl,D1⟩
def yv{k:Int}(f:1<=k/\k<=5){v w:GW}(d:v.si k)(h:w.si k):(fj k v w).si k:=by
 have:k=1\/k=2\/k=3\/k=4\/k=5:=by omega
 obtain rfl|rfl|rfl|rfl|rfl:=this
 .rw[xZ];exact⟨rfl,rfl,rfl,rfl,rfl,vD _⟩
 .unfold fj;simp only[bD (show ¬ (2:Int)=1 by decide),aX];split<;>assumption
 .unfold fj;simp only[bD (show ¬ (3:Int)=1 by decide),bD (show ¬ (3:Int)=2 by decide),aX];split<;>assumption
 .rw[Bf];exact⟨rfl,rfl,rfl,rfl,rfl⟩
 .rw[Aq];exact⟨rfl,rfl,rfl,rfl,rfl,xU _ (jJ d)⟩
theorem QE{k:Int}(t:1<=k/\k<=5){v:GW}(o:v.si k):fj k v (mP k)=v:=by
 have:k=1\/k=2\/k=3\/k=4\/k=5:=by omega
 cases v with
 | mk q c i s p u =>
 obtain rfl|rfl|rfl|rfl|rfl:=this
 .obtain⟨d,f,h,j,l,m⟩:=xZ.1 o;simp only[GW.c8,GW.j2,GW.kE,GW.set_mk,GW.gZ,GW.qM]at d f h j l m;subst d f h j l;simp[fj,mP,GW.qM,tJ,qY,sx m]
 .obtain⟨d,f,h,j,l,m,n⟩:=pY.1 o;simp only[GW.c8,GW.j2,GW.kE,GW.set_mk,GW.gZ,GW.qM]at d f h j l m n;subst d f h j;cases i
  .simp[fj,mP,GW.j2]
  .have:=n rfl;subst this;simp[fj,mP,GW.j2]
 .obtain⟨d,f,h,j,l,m,n,r⟩:=wP.1 o;simp only[GW.c8,GW.j2,GW.kE,GW.set_mk,GW.gZ,GW.qM]at d f h j l m n;have:¬ q.v<0:=Df.2 n;simp[fj,mP,GW.qM,tJ,this]
 .obtain⟨d,f,h,j,l⟩:=Bf.1 o;simp only[GW.c8,GW.j2,GW.kE,GW.gZ,GW.qM]at d f h j l;subst d f h j l;simp[fj,mP,GW.set_mk]
 .obtain⟨d,f,h,j,l,m⟩:=Aq.1 o;simp only[GW.c8,GW.j2,GW.kE,GW.set_mk,GW.gZ,GW.qM]at d f h j l m;subst d f h j l;simp[fj,mP,GW.gZ,eN]
def yC{r:aC}(h:r.ok=true):r.zero.aJ r:=by
 by_cases d:r.kind=6
 .refine⟨h,λf=>absurd d f,λ_=>?_⟩;have l:=aC.bQ h d;simp[aC.zero,h,d,GW.c8];exact λi k _=>Pa (l.2.2 _ (bU k))
 .have j:=aC.cJ h d;refine⟨h,λ_=>?_,λf=>absurd f d⟩;have:r.zero=mP r.kind:=by simp[aC.zero,h,mP,j.2.2]
  rw[this];exact Pa ⟨j.1,j.2.1⟩
def WR(k:Int)(n:Nat):(mP k).sm n:=.one k (yf n) (FI n) (by simp)
def S3{r:aC}{n:Nat}(h:r.ok=true)(hn:3<=n):r.zero.sm n:=by
 have:r.zero=.mk dP 0 (decide (r.kind=2)) 0 [] (r.parts.map mP):=by simp[aC.zero,h]
 rw[this];have i:r.parts.length<=3:=by
  by_cases d:r.kind=6
  .exact(aC.bQ h d).2.1
  .simp[(aC.cJ h d).2.2]
 refine .mk (yf n) (FI n) (by simp) (by simp;omega) λw f=>?_;obtain⟨k,_,rfl⟩:=cA.1 f;exact WR k n
def BU{r:aC}{v w:GW}(f:v.aJ r)(j:w.aJ r):(r.plus v w).aJ r:=by
 by_cases d:r.kind=6
 .have m:=aC.bQ f.1 d;have n:=(f.2.2 d).1;have o:=(j.2.2 d).1;refine⟨f.1,λh=>absurd d h,λ_=>?_⟩;have e:r.plus v w=.mk dP 0 false 0 [] (nP r.parts v.parts w.parts):=by simp[aC.plus,d]
  rw[e];refine⟨uG n o,rfl,λi h k=>?_⟩;simp only[GW.c8]at k ⊢;rw[wH h (by omega) (by omega) k];exact yv (m.2.2 _ (bU h)) ((f.2.2 d).2.2 i h (by omega)) ((j.2.2 d).2.2 i h (by omega))
 .have l:=aC.cJ f.1 d;have e:r.plus v w=fj r.kind v w:=by simp[aC.plus,d]
  rw[e];exact⟨f.1,λ_=>yv ⟨l.1,l.2.1⟩ (f.2.1 d) (j.2.1 d),λh=>absurd h d⟩
def zcx{r:aC}{v:GW}(f:v.aJ r):r.plus v r.zero=v:=by
 by_cases d:r.kind=6
 .have p:=aC.bQ f.1 d;obtain⟨m,n,s⟩:=f.2.2 d;have e:r.plus v r.zero=.mk dP 0 false 0 [] (nP r.parts v.parts r.zero.parts):=by simp[aC.plus,d]
  have j:r.zero.parts=r.parts.map mP:=by simp[aC.zero,f.1,GW.c8]
  rw[e,j,n];simp only[GW.c8]
  congr 1
  refine Bb (by rw[uG m (by simp),m]) λi o k=>?_;have h:i<r.parts.length:=by rw[<- m];exact k
  rw[wH h k (by simpa using h) o];simp only[List.getElem_map];exact QE (p.2.2 _ (List.getElem_mem h)) (s i h k)
 .have l:=aC.cJ f.1 d;have e:r.plus v r.zero=fj r.kind v r.zero:=by simp[aC.plus,d]
  have j:r.zero=mP r.kind:=by simp[aC.zero,f.1,mP,l.2.2]
  rw[e,j];exact QE ⟨l.1,l.2.1⟩ (f.2.1 d)
def yfb{r:aC}{v w:GW}{m n:Nat}(k:v.sm m)(p:w.sm n)(f:v.aJ r)(h:w.aJ r)(l:1<=m)(hn:1<=n):(r.plus v w).sm (m+n+1):=by
 by_cases d:r.kind=6
 .have B:=aC.bQ f.1 d;have o:=(f.2.2 d).1;have A:=(h.2.2 d).1;have e:r.plus v w=.mk dP 0 false 0 [] (nP r.parts v.parts w.parts):=by simp[aC.plus,d]
  have y:=uG (ks:=r.parts) (vs:=v.parts) (ws:=w.parts) o A;rw[e];refine .bM (by rw[y,<- o];have:=k.uU;omega) λx z=>?_;obtain⟨i,t,rfl⟩:=qW.1 z;have j:i<r.parts.length:=by omega
  rw[wH j (by omega) (by omega) t];exact OH (k.parts _ (bU _)) (p.parts _ (bU _)) (CN f d j (by omega)) (CN h d j (by omega)) l hn
 .have u:=aC.cJ f.1 d;have e:r.plus v w=fj r.kind v w:=by simp[aC.plus,d]
  have s:r=⟨r.kind,[]⟩:=by rw[<- u.2.2]
  rw[e];rw[s]at f h;exact OH k p f h l hn
def Fv{r:aC}{w:GW}(h:w.aJ r):w.tk r=w:=aX h
section
variable {α : Type} {key : α -> List Int}
def uD(key : α -> List Int)(l:List α)(i:Nat):List α := bW key (l.take i)++l.drop i
theorem Tn(s:List α)(x : α):(eJ key s x).length=s.length+1:=by
 induction s with
 | nil=>rfl
 | cons z r d=>simp only[eJ];split<;>simp[d]
theorem LJ{s:List α}{x y : α}:y∈eJ key s x ↔ y=x\/y∈s:=by
 induction s with
 | nil=>simp[eJ]
 | cons z r d =>
  simp only[eJ];split
  .simp
  .simp only[cI,d];exact⟨λh=>by obtain h|h|h:=h<;>simp[h],λh=>by obtain h|h|h:=h<;>simp[h]⟩
def LR(l:List α)(x : α):bW key (l++[x])=eJ key (bW key l) x:=by simp[bW,yr3]
def gB(l:List α):jQ key (bW key l)/\(bW key l).length=l.length/\∀ y,y∈bW key l ↔ y∈l:=by
 have:∀ (n:Nat) (l:List α),l.length=n->jQ key (bW key l)/\(bW key l).length=l.length/\∀ y,y∈bW key l ↔ y∈l:=by
  intro n
  induction n with
  | zero=>intro l d;have:=q9 d;subst this;simp[bW,jQ]
  | succ n m =>
   intro l d;obtain⟨f,y,rfl⟩:∃ f y,l=f++[y]:=⟨l.dropLast,l.getLast (by intro h;simp[h]at d),(List.dropLast_concat_getLast _).symm⟩;obtain⟨i,j,k⟩:=m f (by simpa using d);rw[LR];refine⟨Ri i,by rw[Tn,j];simp,λz=>?_⟩;rw[LJ,k];simp[or_comm]
 exact this _ l rfl
def YH(l:List α)(i:Nat):(uD key l i).length=l.length:=by unfold uD;rw[gQ,(gB _).2.1,<- List.length_append,oK]
def QL(l:List α):uD key l 1=l:=by cases l<;>simp[uD,bW,eJ]
def PW{l:List α}{i:Nat}(h:l.length<=i):uD key l i=bW key l:=by unfold uD;rw[eZ h,xY h,kY]
def PX{l:List α}{i:Nat}(h:i<l.length):uD key l i=bW key (l.take i)++l[i]::l.drop (i+1):=by unfold uD;rw[vJ h]
def I0{l:List α}{i:Nat}(h:i<l.length):uD key l (i+1)=eJ key (bW key (l.take i)) l[i]++l.drop (i+1):=by unfold uD;rw[ed h,LR]
theorem FK{x : α}{B:List α}(d:∀ b∈B,key x<key b):∀ {A:List α},(∀ a∈A,¬ key x<key a)->eJ key (A++B) x=A++x::B
 | [],_=>by
  cases B with
  | nil=>rfl
  | cons b B=>simp[eJ,d b (by simp)]
 | a::A,h=>by have:=FK d (A:=A) λy f=>h y (by simp[f]);simp[eJ,h a (by simp),this]
def XZ(A B:List α)(z x : α)(d:List α):((A++[z]++x::(B++d)).set (A.length+1) z).set A.length x=A++x::((z::B)++d):=by simp[sI]
end
section
variable {α : Type} {key : α -> List Int} {up : α -> α -> α} {nw : α -> α}
theorem SD:∀ {d:List α} {x y : α},x∈gS key up nw d y->x∈d\/x=nw y\/∃ z∈d,x=up z y
 | [],x,y,h=>by simp[gS]at h;exact .inr (.inl h)
 | [z],x,y,h=>by
  simp only[gS]at h;split at h
  .simp at h;exact .inr (.inr ⟨z,by simp,h⟩)
  .simp at h;obtain h|h:=h
   .exact .inl (by simp[h])
   .exact .inr (.inl h)
 | z::w::r,x,y,h=>by
  rw[D0 z y (by simp)]at h;obtain h|h:=cI.1 h
  .exact .inl (by simp[h])
  .obtain h|h|⟨u,h,e⟩:=SD h
   .exact .inl (tX _ h)
   .exact .inr (.inl h)
   .exact .inr (.inr ⟨u,tX _ h,e⟩)
theorem Tj:∀ {d:List α} {x y : α},x∈eX key up nw d y->x∈d\/x=nw y\/∃ z∈d,x=up z y
 | [],x,y,h=>by simp[eX]at h;exact .inr (.inl h)
 | z::r,x,y,h=>by
  simp only[eX]at h;split at h
  .obtain h|h:=cI.1 h
   .exact .inl (by simp[h])
   .obtain h|h|⟨u,h,e⟩:=Tj h
    .exact .inl (tX _ h)
    .exact .inr (.inl h)
    .exact .inr (.inr ⟨u,tX _ h,e⟩)
  .split at h
   .obtain h|h:=cI.1 h
    .exact .inr (.inr ⟨z,by simp,h⟩)
    .exact .inl (tX _ h)
   .obtain h|h:=cI.1 h
    .exact .inr (.inl h)
    .exact .inl h
theorem MC(d:List α)(y : α):(gS key up nw d y).length<=d.length+1:=by
 match d with
 | []=>simp[gS]
 | [z]=>simp only[gS];split<;>simp
 | z::w::r =>
  rw[D0 z y (by simp)];have:=MC (w::r) y;simp only[qH]at this ⊢;omega
theorem Rh:∀ (d:List α) (y : α),(eX key up nw d y).length<=d.length+1
 | [],y=>by simp[eX]
 | z::r,y=>by
  simp only[eX];have:=Rh r y
  (repeat' split)<;>simp only[qH]<;>omega
def EI{l:List α}{k:Nat}(h:k<l.length):eU key up nw (l.take (k+1))=gS key up nw (eU key up nw (l.take k)) l[k]:=by rw[ed h,Lt]
theorem Gt{l:List α}{k:Nat}(h:k<l.length):nZ key up nw (l.take (k+1))=eX key up nw (nZ key up nw (l.take k)) l[k]:=by rw[ed h];unfold nZ;rw[yr3];rfl
theorem HL{Q:Nat -> α -> Prop}(i:∀ k x,Q k x->Q (k+1) x){l:List α}(hn:∀ x∈l,Q 0 (nw x))(hu:∀ k z,∀ x∈l,Q k z->Q (k+1) (up z x))(f:∀ k x,Q 0 x->Q k x) :
  ∀ k,k<=l.length->(eU key up nw (l.take k)).length<=k/\∀ x∈eU key up nw (l.take k),Q k x
 | 0,_=>by simp[eU]
 | k+1,h=>by
  obtain⟨n,j⟩:=HL i hn hu f k (by omega);have d:k<l.length:=by omega
  rw[EI d];refine⟨dM (MC _ _) (by omega),λx m=>?_⟩;obtain h|h|⟨z,h,e⟩:=SD m
  .exact i _ _ (j x h)
  .rw[h];exact f _ _ (hn _ (bU d))
  .rw[e];exact hu _ _ _ (bU d) (j z h)
end
section
variable {α : Type} [Enc α]
def VS(ag:Enc.sz α = 11)(ao:∀ x : α,(enc x).cells.all PV.one=true)(key : α -> List Int)(cf:FuncId)(l:List α)(hl:l.length<=1000000)
  (hc:∀ x∈l,∀ y∈l,∃ n:Int,Sp P cf [enc x,enc y] (.pure (g6 n))/\(n<0 ↔ key x<key y)) :
  gO P 352 [.sl (ens l),g6 0,g6 l.length,.fn cf []] 0 11 (ens (bW key l)) (.pure (.bM [])):=by
 have K:∀ x : α,(enc x).sz=11:=λx=>by rw[Enc.ok,ag]
 have Q:IntKind.i64.wrap 1=1:=cT;refine gO.cE c.ja (by simp) rfl (by simp[(gB l).2.1]) ?_;simp[g.ja]
 refine b6 (S:=λi:Nat=>aB [(0,.own bC 0 0 l.length),(1,f8 0),(2,f8 l.length),(3,.p (.fn cf [])),(8,f8 i)] [(bC,⟨11,aK (uD key l i)⟩)]) (I:=λi=>1<=i) (m:=λi=>l.length+1 - i) 1
  (aA.to [0,1,2,3,8] [((bC,0),bC)] (by simp[QL,Q])) (by omega) ?_
 rintro i h1 R hn hr hx;simp[g.xr,aB];refine⟨λu=>?_,λu=>hx _ _ ?_⟩;rotate_left
 .simp[PW u]
 have e1:=aZ i;have r:=gB (key:=key) (l.take i);have af:(bW key (l.take i)).length=i:=by rw[r.2.1];simp;omega
 have s:∀ (L:List α) (v:AV),L=uD key l (i+1)->v=f8 ((i+1:Nat):Int)->R .normal ⟨[(0,.own 999998 0 0 l.length),(1,f8 0),(2,f8 l.length),(3,.p (.fn cf [])),(8,v)],[(999998,[some ⟨11,aK L⟩]),(999999,[none])]⟩:=by rintro L v rfl rfl;exact hn (i+1) _ (aA.to [0,1,2,3,8] [((bC,0),bC)] (by simp)) (by omega) (by omega)
 refine b6 (S:=λx:List α × Nat=>aB [(0,.own bC 0 0 l.length),(1,f8 0),(2,f8 l.length),(3,.p (.fn cf [])),(8,f8 i),(9,f8 x.2)] [(bC,⟨11,aK x.1⟩)])
  (I:=λx=>∃ A B,x.1=A++l[i]::(B++l.drop (i+1))/\x.2=A.length/\A++B=bW key (l.take i)/\∀ b∈B,key l[i]<key b) (m:=λx=>x.2) (uD key l i,i)
  (aA.to [0,1,2,3,8,9] [((bC,0),bC)] (by simp)) ⟨bW key (l.take i),[],by rw[PX u];simp,af.symm,by simp,by simp⟩ ?_
 rintro⟨L,j⟩ ⟨A,B,k,w,f,U⟩ R2 Z ap M;simp only at k w;have t:L.length=l.length:=by have:=congrArg List.length f;rw[k];simp at this ⊢;rw[r.2.1]at this;simp at this;omega
 have V:∀ y∈L,y∈l:=by
  intro y E;rw[k]at E;simp only[dN,cI]at E;have hm:∀ y,y∈A++B->y∈l:=λy E=>by rw[f,r.2.2]at E;exact iC E
  obtain h|h|h|h:=E
  .exact hm y (by simp[h])
  .rw[h];exact bU u
  .exact hm y (by simp[h])
  .exact kD h
 have Y:j<l.length:=by rw[<- t,k,w];simp
 obtain rfl|⟨d,z,rfl⟩:=B' A
 ·
  simp at w;subst w;simp[g.uk,aB];refine M _ _ ?_;simp[e1];refine s L _ ?_ rfl;rw[I0 u,<- f,FK U (by simp),k];simp
 .simp only[xV]at w k f;simp at w;subst w;have C:L[d.length+1]?=some l[i]:=by rw[k];simp
  have D:L[d.length]?=some z:=by rw[k];simp
  have al:z∈l:=V z (by rw[k];simp);obtain⟨n,ad,G⟩:=hc l[i] (bU u) z al;have F:d.length+1<l.length:=Y;have O:IntKind.i64.wrap (d.length:Int)=(d.length:Nat):=cT;have e4:((d.length:Int)+1).toNat=d.length+1:=by omega
  have X:(0:Int)<(d.length:Int)+1:=by omega
  simp[g.uk,aB,O,t,F,show d.length<l.length by omega,e4,X];refine⟨by omega,eD C ?_⟩;refine eD D ?_;refine bA ad rfl ?_;by_cases o:n<0
  .simp[o,O,e4,t,F,show d.length<l.length by omega];refine eD D ?_;refine⟨by omega,eD C ?_⟩;refine⟨by omega,eD C ?_⟩;refine⟨K z,?_⟩;rw[lM];refine eD (x:=.p (enc z)) (by simp[yhd,D]) ?_;simp only[Fw];refine⟨K _,?_⟩;simp[O];refine Z ((L.set (d.length+1) z).set d.length l[i],d.length) _ (aA.to [0,1,2,3,8,9] [((bC,0),bC)] (by simp)) ⟨d,z::B,?_,rfl,?_,?_⟩ (by simp)
   .rw[k];exact XZ d B z l[i] _
   .rw[<- f];simp
   .intro b W;obtain rfl|W:=cI.1 W
    .exact G.1 o
    .exact U b W
  .simp[o];refine M _ _ ?_;simp[e1];refine s L _ ?_ rfl;have H:¬ key l[i]<key z:=λh=>o (G.2 h);rw[I0 u,<- f,FK U,k]
   .simp
   .intro a N;simp only[dN,iT]at N;obtain N|rfl:=N
    .intro hk;have J:=r.1;rw[<- f]at J;have:=(tY.1 (tY.1 J).1).2.2 a N z (by simp);exact H (Ep hk this)
    .exact H
end
section
variable {α : Type} [Enc α]
def V1(f:Enc.sz α = 11)(d:∀ x : α,(enc x).cells.all PV.one=true)(key : α -> List Int)(cf:FuncId)(l:List α)(p:l.length<=19)
  (i:∀ x∈l,∀ y∈l,∃ n:Int,Sp P cf [enc x,enc y] (.pure (g6 n))/\(n<0 ↔ key x<key y)) :
  gO P 307 [.sl (ens l),g6 l.length,.fn cf []] 0 11 (ens (bW key l)) (.pure (.bM [])):=by
 refine gO.cE c.ln (by simp) rfl (by simp[(gB l).2.1]) ?_;simp[g.ln];refine zK λR r s m=>?_;simp[g.xj,show ¬ (20<=(l.length:Int)) by omega];refine m _ _ ?_;simp;refine qV (VS f d key cf l (by omega) i) (by simp) rfl rfl (by simp) (by simp) (by simp[(gB l).2.1]) rfl (jF _ _ f) (cells_one d _) (by simp) ?_;simp;refine zK λo j k h=>?_;simp[g.xk,show ¬ (20<(l.length:Int)) by omega];refine h _ _ ?_;simp
def VX(f:Enc.sz α = 11)(d:∀ x : α,(enc x).cells.all PV.one=true)(key : α -> List Int)(cf:FuncId)(l:List α)(i:l.length<=19)
  (h:∀ x∈l,∀ y∈l,∃ n:Int,Sp P cf [enc x,enc y] (.pure (g6 n))/\(n<0 ↔ key x<key y)) :
  gO P 255 [.sl (ens l),.fn cf []] 0 11 (ens (bW key l)) (.pure (.bM [])):=by
 refine gO.cE c.iy (by simp) rfl (by simp[(gB l).2.1]) ?_;simp[g.iy];refine qV (V1 f d key cf l i h) (by simp) rfl rfl (by simp) (by simp) (by simp[(gB l).2.1]) rfl (jF _ _ f) (cells_one d _) (by simp) ?_;simp
end
def dT:GW:=.mk ⟨false,[],[]⟩ 0 false 0 [] []
theorem Rt(A:FuncId)(d:List PV)(p:aV->Bool)(l:List aV)(hl:l.length<=1000000)(hp:∀ x∈l,Sp P A (enc x::d) (.pure (.bool (p x)))) :
  gO P 257 [.sl (ens l),.fn A d] 0 11 (ens (l.filter (λx=>!p x)++List.replicate (l.length - (l.filter λx=>!p x).length) (⟨0,0,0,dT⟩:aV))) (.same (l.filter λx=>!p x).length):=by
 have ad:(l.filter λx=>!p x).length<=l.length:=kB _ _;refine gO.cE c.pm (by simp) rfl (by simp;omega) ?_;simp[g.pm];refine aW (Rx l A d p (by omega) hp) ?_;cases u:l.findIdx? p with
 | none =>
  have F:=GQ.1 u;have hf:l.filter (λx=>!p x)=l:=GL.2 λx f=>by simp[F x f]
  have f:gN p l = -1:=by simp[gN,u]
  simp[f,hf]
 | some k =>
  obtain⟨hk,O,t⟩:=GP.1 u;have f:gN p l=k:=by simp[gN,u]
  have N:¬ ((k:Int) = -1):=by omega
  have W:=aZ k;simp[f,N,W];have Q:(l.take k).filter (λx=>!p x)=l.take k:=List.filter_eq_self.2 λx f=>by rw[List.mem_take_iff_getElem]at f;obtain⟨i,u,rfl⟩:=f;have:=t i (by omega);simpa using this
  have y:(l.take (k+1)).filter (λx=>!p x)=l.take k:=by rw[ed hk,tW,Q];simp[O]
  refine b6 (S:=λx:List aV × Nat × Nat=>aB [(0,.own bC 0 0 l.length),(1,.p (.fn A d)),(5,f8 x.2.1),(6,f8 x.2.2)] [(bC,⟨11,aK x.1⟩)])
   (I:=λx=>x.1.length=l.length/\x.2.1<x.2.2/\x.2.2<=l.length/\x.1.take x.2.1=(l.take x.2.2).filter (λx=>!p x)/\x.1.drop x.2.2=l.drop x.2.2/\x.2.1<=l.length) (m:=λx=>l.length - x.2.2) (l,k,k+1)
   (aA.to [0,1,5,6] [((bC,0),bC)] (by simp)) ⟨rfl,by simp,by simp;omega,by rw[y],rfl,by simp;omega⟩ ?_
  rintro⟨L,i,j⟩ ⟨r,Y,Z,o,B,C⟩ R F hr U;simp only at r Y Z o B C;simp[g.xd,aB];refine⟨λE=>?_,λE=>U _ _ ?_⟩
  .have V:=aZ j;have X:=aZ i;have J:L[j]?=some l[j]:=by
    have:(L.drop j)[0]?=(l.drop j)[0]?:=by rw[B]
    simpa[E]using this
   refine⟨by omega,eD J ?_⟩
   try simp
   refine bA (hp l[j] (bU E)) (kX (by simp) (yn _ _)) ?_;have w:(l.take (j+1)).filter (λx=>!p x)=(l.take j).filter (λx=>!p x)++(if p l[j]then[]else[l[j]]):=by rw[ed E,tW];by_cases h:p l[j]<;>simp[h]
   obtain s|s:=iK (p l[j])
   .simp[s,V];refine F (L,i,j+1) _ (aA.to [0,1,5,6] [((bC,0),bC)] (by simp)) ⟨r,by show i<j+1;omega,by show j+1<=l.length;omega,by show L.take i=_;rw[w,o];simp[s],?_,C⟩ (by show l.length - (j+1)<l.length - j;omega);show L.drop (j+1)=l.drop (j+1);rw[<- List.drop_drop,B,uQ]
   .simp[s];refine⟨by omega,?_⟩;refine eD (l:=L) (n:=i) (x:=L[i]'(by omega)) (by simp) ?_;simp[V,X];have z:(L.set i l[j]).take (i+1)=L.take i++[l[j]]:=by rw[ed (by simp;omega),Nr (dE i)];simp
    refine F (L.set i l[j],i+1,j+1) _ (aA.to [0,1,5,6] [((bC,0),bC)] (by simp)) ⟨by simp[r],by show i+1<j+1;omega,by show j+1<=l.length;omega,by show(L.set i l[j]).take (i+1)=_;rw[z,w,o];simp[s],?_,by show i+1<=l.length;omega⟩ (by show l.length - (j+1)<l.length - j;omega);show(L.set i l[j]).drop (j+1)=l.drop (j+1);rw[Jy (by omega),<- List.drop_drop,B,uQ]
  .have K:j=l.length:=by omega
   subst K;rw[kK]at o;have H:i=(l.filter λx=>!p x).length:=by rw[<- o];simp;omega
   generalize (l.filter λx=>!p x)=D at *
   subst H;have ht:(aK L).take D.length=aK D:=by rw[H5,o]
   have af:min D.length l.length=D.length:=uN C;have M:D.length+(l.length - D.length)=l.length:=by omega
   simp[r,C,M,o];have G:L.drop l.length=[]:=by rw[<- r];simp
   rw[G,Kr,kY];rfl
theorem VL(A:FuncId)(d:List PV)(p:aE->Bool)(l:List aE)(hl:l.length<=1000000)(hp:∀ x∈l,Sp P A (enc x::d) (.pure (.bool (p x)))) :
  gO P 76 [.sl (ens l),.fn A d] 0 12 (ens (l.filter (λx=>!p x)++List.replicate (l.length - (l.filter λx=>!p x).length) (⟨0,0,0,0,dT⟩:aE))) (.same (l.filter λx=>!p x).length):=by
 have ad:(l.filter λx=>!p x).length<=l.length:=kB _ _;refine gO.cE c.ne (by simp) rfl (by simp;omega) ?_;simp[g.ne];refine aW (VR l A d p (by omega) hp) ?_;cases u:l.findIdx? p with
 | none =>
  have F:=GQ.1 u;have hf:l.filter (λx=>!p x)=l:=GL.2 λx f=>by simp[F x f]
  have f:gN p l = -1:=by simp[gN,u]
  simp[f,hf]
 | some k =>
  obtain⟨hk,O,t⟩:=GP.1 u;have f:gN p l=k:=by simp[gN,u]
  have N:¬ ((k:Int) = -1):=by omega
  have W:=aZ k;simp[f,N,W];have Q:(l.take k).filter (λx=>!p x)=l.take k:=List.filter_eq_self.2 λx f=>by rw[List.mem_take_iff_getElem]at f;obtain⟨i,u,rfl⟩:=f;have:=t i (by omega);simpa using this
  have y:(l.take (k+1)).filter (λx=>!p x)=l.take k:=by rw[ed hk,tW,Q];simp[O]
  refine b6 (S:=λx:List aE × Nat × Nat=>aB [(0,.own bC 0 0 l.length),(1,.p (.fn A d)),(5,f8 x.2.1),(6,f8 x.2.2)] [(bC,⟨12,aK x.1⟩)])
   (I:=λx=>x.1.length=l.length/\x.2.1<x.2.2/\x.2.2<=l.length/\x.1.take x.2.1=(l.take x.2.2).filter (λx=>!p x)/\x.1.drop x.2.2=l.drop x.2.2/\x.2.1<=l.length) (m:=λx=>l.length - x.2.2) (l,k,k+1)
   (aA.to [0,1,5,6] [((bC,0),bC)] (by simp)) ⟨rfl,by simp,by simp;omega,by rw[y],rfl,by simp;omega⟩ ?_
  rintro⟨L,i,j⟩ ⟨r,Y,Z,o,B,C⟩ R F hr U;simp only at r Y Z o B C;simp[g.ve,aB];refine⟨λE=>?_,λE=>U _ _ ?_⟩
  .have V:=aZ j;have X:=aZ i;have J:L[j]?=some l[j]:=by
    have:(L.drop j)[0]?=(l.drop j)[0]?:=by rw[B]
    simpa[E]using this
   refine⟨by omega,eD J ?_⟩
   try simp
   refine bA (hp l[j] (bU E)) (kX (by simp) (yn _ _)) ?_;have w:(l.take (j+1)).filter (λx=>!p x)=(l.take j).filter (λx=>!p x)++(if p l[j]then[]else[l[j]]):=by rw[ed E,tW];by_cases h:p l[j]<;>simp[h]
   obtain s|s:=iK (p l[j])
   .simp[s,V];refine F (L,i,j+1) _ (aA.to [0,1,5,6] [((bC,0),bC)] (by simp)) ⟨r,by show i<j+1;omega,by show j+1<=l.length;omega,by show L.take i=_;rw[w,o];simp[s],?_,C⟩ (by show l.length - (j+1)<l.length - j;omega);show L.drop (j+1)=l.drop (j+1);rw[<- List.drop_drop,B,uQ]
   .simp[s];refine⟨by omega,?_⟩;refine eD (l:=L) (n:=i) (x:=L[i]'(by omega)) (by simp) ?_;simp[V,X];have z:(L.set i l[j]).take (i+1)=L.take i++[l[j]]:=by rw[ed (by simp;omega),Nr (dE i)];simp
    refine F (L.set i l[j],i+1,j+1) _ (aA.to [0,1,5,6] [((bC,0),bC)] (by simp)) ⟨by simp[r],by show i+1<j+1;omega,by show j+1<=l.length;omega,by show(L.set i l[j]).take (i+1)=_;rw[z,w,o];simp[s],?_,by show i+1<=l.length;omega⟩ (by show l.length - (j+1)<l.length - j;omega);show(L.set i l[j]).drop (j+1)=l.drop (j+1);rw[Jy (by omega),<- List.drop_drop,B,uQ]
  .have K:j=l.length:=by omega
   subst K;rw[kK]at o;have H:i=(l.filter λx=>!p x).length:=by rw[<- o];simp;omega
   generalize (l.filter λx=>!p x)=D at *
   subst H;have ht:(aK L).take D.length=aK D:=by rw[H5,o]
   have af:min D.length l.length=D.length:=uN C;have M:D.length+(l.length - D.length)=l.length:=by omega
   simp[r,C,M,o];have G:L.drop l.length=[]:=by rw[<- r];simp
   rw[G,Kr,kY];rfl
@[simp] theorem yh1{P:Program}{N:Nat}{Q:Exit->St->Prop}{α : Type}[Enc α](o:List α)(x:AV)(f:AV->eB)(d:Option Nat)(dd:List (List Nat))(ks:List Kt):oL P N Q (.el (aK o++[x]) o.length f) d dd ks=oL P N Q (f x) d dd ks:=by
 have:(aK o++[x])[o.length]?=some x:=by rw[qG (by simp)];simp
 simp only[oL,fV,this];exact propext ⟨λ⟨e,h,k⟩=>by cases h;exact k,λk=>⟨_,rfl,k⟩⟩
@[simp] theorem ykw{α : Type}[Enc α](o:List α)(x y:AV):(aK o++[x]).set o.length y=aK o++[y]:=by rw[C' _ _ (by simp)];simp
def It{α : Type}[Enc α](l:List α)(r:List α):((ens (l++r)).map AV.p).take l.length=aK l:=by simp[-gW,aK,ens]
def ED{st:St}{f:FuncId}{e:Nat}{vs:List AV}{args:List PV}{sz:Nat}{es:List PV}{K:bJ->AV->St->Prop}(hs:Sp P f args (.fresh sz es))(i:vs.mapM (bH st bF)=some args)
  (h:es.all (λv=>v.sz == sz)=true/\0<sz/\es.length<=eL) (d:vs.flatMap (aS st bF)=[])
  (k:K ⟨f,args,.fresh sz es,none⟩ (.own e (st.site e).length 0 es.length) (st.alloc e ⟨sz,es.map .p⟩)):vW P st e f vs K :=
 EF hs i h st (by rw[d];simp[aI]) k
def MH{st:St}{f:FuncId}{e:Nat}{vs:List AV}{args:List PV}{i sz:Nat}{d:List PV}{r:PV}{K:bJ->AV->St->Prop}(hs:gO P f args i sz d (.pure r))(z:vs.mapM (bH st bF)=some args)
  {s g h:Nat} {sl:Bool} (m:BH vs[i]?=some (s,g,h,sl)) {o:bI} (y:st.obj s g=some o) (w:i<vs.length) (x:h=o.es.length) (n:d.length=h) (t:o.sz=sz) (j:d.all (λv=>v.sz == sz)=true) (l:(d.flatMap PV.cells).all PV.one=true)
  (u:(vs.eraseIdx i).flatMap (aS st bF)++o.es.flatMap (aS st 5)=[])
  (k:K ⟨f,args,.pure r,some (i,sz,d)⟩ (.p r) (st.setObj s g ⟨sz,d.map .p⟩)):vW P st e f vs K:=by
 refine qV hs z m y w x n t j l (by rw[u];rfl) ?_;rw[u];simpa[aI]using k
def P3(x:aV)(r:aC)(d:x.w.sm 1048576):zS 258 [enc x,.ref (enc r)] (.bool (decide (x.w=r.zero))):=by refine Sp.fD c.iz (by simp) (aA.dV (t:=1) (v:=enc r) (n:=2) (by simp) (by simp)) ?_;simp[g.iz];refine aW (Ey r x.w d) ?_;simp
def lO(r:aC)(z y:aV):aV:=⟨z.f,z.l,z.t,r.plus z.w y.w⟩
def mY(r:aC)(l:List aV):List aV:=(eU aV.key (lO r) id (bW aV.key l)).filter λx=>!decide (x.w=r.zero)
def X7{r:aC}{n:Nat}(f:1<=n){l:List aV}(h:∀ x∈l,x.w.sm n/\x.w.aJ r)(k:Nat)(j:k<=l.length) :
  (eU aV.key (lO r) id (l.take k)).length<=k/\∀ x∈eU aV.key (lO r) id (l.take k),x.w.sm ((k+1)*(n+1))/\x.w.aJ r:=by
 refine HL (up:=lO r) (nw:=id) (Q:=λk x=>x.w.sm ((k+1)*(n+1))/\x.w.aJ r) (λk x d=>⟨d.1.mono (jU _ (by omega)),d.2⟩) (λx d=>⟨(h x d).1.mono (by omega),(h x d).2⟩) (λk z x d i=>⟨?_,(BU i.2 (h x d).2:(r.plus z.w x.w).aJ r)⟩) (λk x d=>⟨d.1.mono (jU _ (by omega)),d.2⟩) k j;have:=yfb i.1 (h x d).1 i.2 (h x d).2 (dM f (by rw[sT];omega)) f;have e:(k+1)*(n+1)+n+1=(k+1+1)*(n+1):=by rw[sT (k+1) 1];omega
 rw[<- e];exact this
def WA(r:aC)(l:List aV)(n:Nat)(hn:n<=90)(M:3<=n)(hl:l.length<=19)(h:∀ x∈l,x.w.sm n/\x.w.aJ r) :
  zS 179 [enc r,.sl (ens l)] (.sl (ens (mY r l))):=by
 have Y:=gB (key:=aV.key) l;have W:∀ x∈bW aV.key l,x.w.sm n/\x.w.aJ r:=λx u=>h x ((Y.2.2 x).1 u);have Q:=X7 (by omega) W;unfold mY;generalize X:bW aV.key l=S at *
 have D:S.length=l.length:=Y.2.1;have f:∀ x:aV,(enc x).cells.all PV.one=true:=λx=>by simp[PV.cells]
 refine Sp.vz c.d6 λ_=>?_;simp[g.d6];refine ED (RG l (by omega)) (by simp) ⟨jF _ _ rfl,by decide,by simp[-gW,ens,eL];omega⟩ (by simp) ?_;simp;refine MH (VX rfl f aV.key 256 l hl λx u y hy=>⟨_,IT x y,CG rfl⟩) (by simp) rfl rfl (by simp) (by simp) (by simp[X,D]) rfl (jF _ _ rfl) (cells_one f _) (by simp) ?_;simp;rw[X];have N:3<=n+1:=by omega
 refine b6 (S:=λk:Nat=>aB [(2,i0 2),(6,.own 1 0 0 (eU aV.key (lO r) id (S.take k)).length),(14,.own 3 0 0 S.length),(15,f8 S.length),(16,f8 k)] [(2,⟨2,[.p (enc r)]⟩),(1,⟨11,aK (eU aV.key (lO r) id (S.take k))⟩),(3,⟨11,aK S⟩)]) (I:=λk=>k<=S.length) (m:=λk=>S.length - k) 0
  (aA.nl 6 77 11 rfl (aA.to [2,6,14,15,16] [((2,0),2),((77,0),1),((11,0),3)] (by simp[D,eU]))) (by omega) ?_
 rintro k h1 R t hr u;have H:=aZ k;obtain⟨F,G⟩:=Q k h1;generalize K:eU aV.key (lO r) id (S.take k)=O at *
 by_cases A:k<S.length;rotate_left
 .have:k=S.length:=by omega
  subst this;rw[eZ (dE _)]at K;rw[K]at u hr;have hb:(O.length+1)*(n+1)<=1048576:=by have:=mT (show O.length+1<=20 by omega) (show n+1<=91 by omega);omega
  have s:(S.length+1)*(n+1)<=1048576:=by have:=mT (show S.length+1<=20 by omega) (show n+1<=91 by omega);omega
  simp[g.qp,aB];refine u _ _ ?_;simp;refine IV (Rt 258 [.ref (enc r)] (λx=>decide (x.w=r.zero)) O (by omega) λx u=>P3 x r ((G x u).1.mono s)) (by simp[A7,AJ]) rfl rfl (by simp) (by simp) (by simp;have:=kB (λx:aV=>!decide (x.w=r.zero)) O;omega) rfl (jF _ _ rfl) (cells_one f _) (by simp) (kB _ _) ?_;generalize hF:O.filter (λx=>!decide (x.w=r.zero))=j at *
  have ad:j.length<=O.length:=by rw[<- hF];exact kB _ _
  have B:=It j (List.replicate (O.length - j.length) (⟨0,0,0,dT⟩:aV));have C:j.length<=(ens (j++List.replicate (O.length - j.length) (⟨0,0,0,dT⟩:aV))).length:=by simp[-gW,ens]
  generalize ens (j++List.replicate (O.length - j.length) (⟨0,0,0,dT⟩:aV))=A0 at *
  cases af:A0.all PV.flat
  .simp[aI];rw[B];simp[C]
  .simp;rw[B];simp[C]
 have i:=W _ (bU A);have d:=EI (key:=aV.key) (up:=lO r) (nw:=id) A;rw[K]at d;have U:=yC i.2.1;have sz:=S3 (n:=n) i.2.1 M;have pz:=zcx i.2;obtain rfl|⟨o,z,rfl⟩:=B' O
 .simp[g.qp,aB,A];refine bK A ?_;refine bA (wG r) rfl ?_;simp;refine aW (Io r S[k].w r.zero n i.1 sz (by omega) (by omega) i.2 U) ?_;rw[pz];simp[H];refine t (k+1) _ (aA.to [2,6,14,15,16] [((2,0),2),((59,0),1),((3,0),3)] ?_) (by omega) (by omega);rw[d];simp[aB,gS]
 .have V:IntKind.i64.wrap (o.length:Int)=(o.length:Int):=cL (by omega) (by simp at F;omega);simp[g.qp,aB,A,V];refine bK A ?_;refine aW (IT z S[k]) ?_;simp[V];have Z:=G z (by simp);have s:(k+1)*(n+1)<=2000:=by have:=mT (show k+1<=20 by omega) (show n+1<=91 by omega);omega
  have L:n<=(k+1)*(n+1):=by rw[sT];omega
  have E:eW z.key S[k].key=0 ↔ z.key=S[k].key:=CF (by simp[aV.key]);refine⟨λJ=>?_,λJ=>?_⟩
  .rw[xV,FF (key:=aV.key) (z:=z) (y:=S[k]) (E.1 J)]at d;refine aW (Io r z.w S[k].w _ Z.1 (i.1.mono L) s (by omega) Z.2 i.2) ?_;simp[H];refine t (k+1) _ (aA.to [2,6,14,15,16] [((2,0),2),((1,0),1),((3,0),3)] ?_) (by omega) (by omega);rw[d];simp[aB,lO]
  .rw[xV,CI (key:=aV.key) (z:=z) (y:=S[k]) (λh=>J (E.2 h))]at d;refine bA (wG r) rfl ?_;simp;refine aW (Io r S[k].w r.zero n i.1 sz (by omega) (by omega) i.2 U) ?_;rw[pz];simp[H];refine⟨by simp at F;omega,t (k+1) _ (aA.to [2,6,14,15,16] [((2,0),2),((59,0),1),((3,0),3)] ?_) (by omega) (by omega)⟩;rw[d];simp[aB]
structure aU.ok (a:aU):Prop where
 ring:a.ring.ok=true
 NS:1<=a.sy
 NR:a.sy<=32
 st1:0<=a.st
 st2:a.st<=64
 il:(a.aM.length:Int)=a.st
 fl:(a.fin.length:Int)=a.st
 al:a.aD.length<=2048
 aD:∀ x∈a.aD,oa x a
 aM:∀ w∈a.aM,w.aJ a.ring
 fin:∀ w∈a.fin,w.aJ a.ring
def yhf{r:aC}{l:List GW}:(!l.any λw=>!decide (w.aJ r))=true ↔ ∀ w∈l,w.aJ r:=by simp
def aU.iV{a:aU}:a.vb=true ↔ a.ok:=by
 unfold aU.vb;simp only[jO,decide_eq_true_eq,yhf];constructor
 .rintro⟨h,i,h3,j,k,l,m,n,o,d,f⟩;exact⟨h,i,h3,j,k,l,m,n,λx p=>by simpa using (by simpa using o:∀ x∈a.aD,oa x a) x p,d,f⟩
 .rintro⟨h,i,h3,j,k,l,m,n,o,d,f⟩;exact⟨h,i,h3,j,k,l,m,n,by simpa using o,d,f⟩
def jS:aU:=⟨⟨0,[]⟩,0,0,[],[],[]⟩
def aU.nf(a:aU):aU:=⟨a.ring,a.sy,a.st,a.aM,a.fin,mY a.ring a.aD⟩
def aU.sm.mono{a:aU}{m n:Nat}(h:a.sm m)(k:m<=n):a.sm n:=⟨λw d=>(h.aM w d).mono k,λw d=>(h.fin w d).mono k,λx f=>(h.aD x f).mono k⟩
def R5{r:aC}{l:List GW}(h:∀ w∈l,w.aJ r):(l.map λw=>r.plus w r.zero)=l:=by have:(l.map λw=>r.plus w r.zero)=l.map id:=uK λw d=>zcx (h w d);rw[this,List.map_id]
def BP{r:aC}(h:r.ok=true):r.parts.length<=3:=by
 by_cases d:r.kind=6
 .exact(aC.bQ h d).2.1
 .simp[(aC.cJ h d).2.2]
def TD(r:aC)(l:List GW)(n:Nat)(hn:n<=90)(d:3<=n)(f:r.ok=true)(j:l.length<=64)(h:∀ w∈l,w.sm n)(c:∀ w∈l,w.aJ r):zS 63 [enc r,.sl (ens l)] (.sl (ens l)):=by
 have k:=ycg r l n (by omega) (by omega) (by omega) (λw i=>⟨h w i,c w i⟩) (S3 f d) (yC f)
 rwa[R5 c]at k
def YB(a:aU)(n:Nat)(hn:n<=90)(f:3<=n)(h:a.sm n)(j:a.aD.length<=19) :
  zS 136 [enc a] (.bM [enc (if a.vb then a.nf else jS),g6 (if a.vb then 0 else 4)]):=by
 refine Sp.vz c.bq λ_=>?_;simp[g.bq];refine aW (Mn a (h.mono (by omega))) ?_;cases k:a.vb
 .simp[jS]
 have d:=aU.iV.1 k;have l:=d.il;have m:=d.fl;have o:=d.st2
 simp;refine aW (OR a.ring (by have:=BP d.ring;omega)) ?_;simp;refine aW (TD a.ring a.aM n hn f d.ring (by omega) h.aM d.aM) ?_;simp;refine aW (TD a.ring a.fin n hn f d.ring (by omega) h.fin d.fin) ?_;simp;refine aW (WA a.ring a.aD n hn f j λx i=>⟨h.aD x i,(d.aD x i).2.2.2.2.2.2⟩) ?_;simp[aU.nf]
def QC(x y:aE):zS 73 [enc x,enc y] (g6 (eW x.key y.key)):=by rw[<- IL x.key y.key rfl,show List.zipWith eP x.key y.key=[eP x.f y.f,eP x.i y.i,eP x.o y.o,eP x.t y.t] from rfl];refine Sp.vz c.gh λ_=>?_;simp[g.gh];refine bA (vZ x.f y.f) rfl ?_;simp;refine bA (vZ x.i y.i) rfl ?_;simp;refine bA (vZ x.o y.o) rfl ?_;simp;refine bA (vZ x.t y.t) rfl ?_;simp;refine aW (K9 [eP x.f y.f,eP x.i y.i,eP x.o y.o,eP x.t y.t] (by simp)) ?_;simp
def VU(r:aC)(w:GW)(d:w.sm 1048576):zS 143 [enc w,.ref (enc r)] (.bool (!decide (w.aJ r))):=by refine Sp.fD c.j7 (by simp) (aA.dV (t:=1) (v:=enc r) (n:=2) (by simp) (by simp)) ?_;simp[g.j7];refine aW (F9 r w d) ?_;simp
def Rn(r:aC)(l:List GW)(m:Int)(f:∀ w∈l,w.sm 1048576)(d:l.length<=2147483648):zS 101 [enc r,.sl (ens l),g6 m] (.bool (decide ((l.length:Int)=m/\∀ w∈l,w.aJ r))):=by
 refine Sp.vz c.n5 λ_=>?_;have e:decide ((l.length:Int)=m/\∀ w∈l,w.aJ r)=(decide ((l.length:Int)=m) && !l.any λw=>!decide (w.aJ r)):=by rw[Bool.eq_iff_iff];simp
 rw[e];simp[g.n5];refine⟨λh=>?_,λh=>by simp[h]⟩;refine bA (RK l 143 [.ref (enc r)] (λw=>!decide (w.aJ r)) (by omega) λw i=>VU r w (f w i)) (by simp[A7,AJ]) ?_;simp[h]
def Rk(m:Int):zS 99 [g6 m] (.bool (decide (1<=m/\m<=32))):=by refine Sp.vz c.n4 λ_=>?_;simp[g.n4];exact⟨λh _=>h,λh d=>by omega⟩
def YJ(x:aE)(r:aC)(d:x.w.sm 1048576):zS 77 [enc x,.ref (enc r)] (.bool (decide (x.w=r.zero))):=by refine Sp.fD c.jn (by simp) (aA.dV (t:=1) (v:=enc r) (n:=2) (by simp) (by simp)) ?_;simp[g.jn];refine aW (Ey r x.w d) ?_;simp
def lE(r:aC)(z y:aE):aE:=⟨z.f,z.i,z.o,z.t,r.plus z.w y.w⟩
def cV(r:aC)(l:List aE):List aE:=(eU aE.key (lE r) id (bW aE.key l)).filter λx=>!decide (x.w=r.zero)
section
variable {α : Type} {key : α -> List Int}
def oQ(key : α -> List Int)(k:List Int)(l:List α):List α := l.filter λx=>decide (key x=k)
def wB(k:List Int)(a b:List α):oQ key k (a++b)=oQ key k a++oQ key k b:=tW ..
def xS(k:List Int)(x : α)(l:List α):oQ key k (x::l)=if key x=k then x::oQ key k l else oQ key k l:=by unfold oQ;rw[EV];simp
def DX{k:List Int}{l:List α}(h:∀ x∈l,key x≠k):oQ key k l=[]:=by unfold oQ;rw[List.filter_eq_nil_iff];intro x d;simpa using h x d
theorem Tm(k:List Int)(x : α):∀ {s:List α},jQ key s->oQ key k (eJ key s x)=oQ key k (s++[x])
 | [],_=>rfl
 | z::r,m=>by
  have h:=mS.1 m;simp only[eJ];split
  .rename_i d;have f:∀ y∈z::r,key x≠key y:=λy i e=>by
    obtain rfl|i:=cI.1 i
    .rw[e]at d;exact absurd d (pU _)
    .have:=h.1 y i;rw[<- e]at this;exact this d
   rw[show x::z::r=[x]++(z::r) from rfl,wB,wB];by_cases j:key x=k
   .rw[DX (l:=z::r) λy i e=>f y i (j.trans e.symm)];simp
   .rw[DX (l:=[x]) (by simpa using j)];simp
  .have n:=Tm k x (s:=r) h.2;rw[xS,n,xX,xS]
def D9(k:List Int)(l:List α):oQ key k (bW key l)=oQ key k l:=by
 have:∀ (n:Nat) (l:List α),l.length=n->oQ key k (bW key l)=oQ key k l:=λn=>by
  induction n with
  | zero=>intro l d;rw[q9 d];rfl
  | succ n i =>
   intro l d;obtain⟨f,y,rfl⟩:∃ f y,l=f++[y]:=⟨l.dropLast,l.getLast (by intro h;simp[h]at d),(List.dropLast_concat_getLast _).symm⟩;rw[LR,Tm k y (gB f).1,wB,wB,i f (by simpa using d)]
 exact this _ l rfl
theorem z35:∀ {s t:List α},jQ key s->jQ key t->(∀ k,oQ key k s=oQ key k t)->s=t
 | [],[],_,_,_=>rfl
 | [],y::t,_,_,h=>by have:=h (key y);rw[xS,aX rfl]at this;cases this
 | x::s,[],_,_,h=>by have:=h (key x);rw[xS,aX rfl]at this;cases this
 | x::s,y::t,o,p,h=>by
  have f:=mS.1 o;have i:=mS.1 p;have j:key x=key y:=by
   obtain d|d|d:=BO (key x) (key y)
   .exfalso;have:=h (key x);rw[xS,aX rfl,DX (l:=y::t) λz hz e=>by
     obtain rfl|hz:=cI.1 hz
     .rw[e]at d;exact pU _ d
     .have:=i.1 z hz;rw[e]at this;exact this d]at this
    cases this
   .exact d
   .exfalso;have:=h (key y);rw[xS (l:=t),aX rfl,DX (l:=x::s) λz hz e=>by
     obtain rfl|hz:=cI.1 hz
     .rw[e]at d;exact pU _ d
     .have:=f.1 z hz;rw[e]at this;exact this d]at this
    cases this
  have m:=h (key x);rw[xS,aX rfl,xS,aX j.symm]at m;injection m with n r
  subst n
  congr 1
  refine z35 f.2 i.2 λk=>?_;have:=h k;rw[xS,xS]at this;split at this
  .injection this
  .exact this
def IU{l s:List α}(hs:jQ key s)(h:∀ k,oQ key k s=oQ key k l):s=bW key l :=
 z35 hs (gB l).1 λk=>by rw[h k,D9]
def AF{l:List α}(h:jQ key l):bW key l=l:=(IU h λ_=>rfl).symm
def S5(a b:List α):bW key (bW key a++bW key b)=bW key (a++b):=by refine IU (gB _).1 λk=>?_;rw[D9,wB,wB,D9,D9]
def z33{l j i m:List α}(r:∀ y∈i,∀ x∈j,key y<key x)(s:∀ x∈l,∀ y∈m,¬ key y<key x)(n:∀ x∈l,∀ y∈j,¬ key y<key x)(o:∀ x∈i,∀ y∈m,¬ key y<key x) :
  bW key (l++j++(i++m))=bW key (l++i)++bW key (j++m):=by
 refine(IU ?_ λk=>?_).symm
 .refine tY.2 ⟨(gB _).1,(gB _).1,λa d b f=>?_⟩;rw[(gB _).2.2,dN]at d f;obtain d|d:=d<;>obtain f|f:=f
  .exact n a d b f
  .exact s a d b f
  .intro t;exact pU _ (Ca t (r a d b f))
  .exact o a d b f
 .rw[wB,D9,D9,wB,wB,wB,wB,wB];have:oQ key k i=[]\/oQ key k j=[]:=by
   by_cases h:oQ key k i=[]
   .exact .inl h
   .right;obtain⟨y,o⟩:=ND _ h;obtain⟨u,p⟩:=kI.1 o;have p:=of_decide_eq_true p;refine DX λx n e=>?_;have:=r y u x n;rw[p,e]at this;exact pU _ this
  obtain h|h:=this<;>rw[h]<;>simp
def bX(key : α -> List Int)(s:Nat):Nat->List α -> List α
 | 0,l=>l
 | n+1,l=>if l.length<=s then bW key l else bW key (l.take s)++bX key s n (l.drop s)
end
structure SI where
 z:Nat
 hz:0<z
 sw:FuncId
 ro:FuncId
 sm:FuncId
 ins:FuncId
 st:FuncId
 so:FuncId
def Ln(I:SI):GC:=dc ⟨[],[],[⟨none,.store I.z (.t 37) (.t 35),none⟩,zo 37 (.cG I.z (.t 20) (.t 23)),⟨none,.store I.z (.t 36) (.t 29),none⟩,zo 36 (.cG I.z (.t 16) (.t 19)),zo 35 (.load I.z true (.t 34)),zo 34 (.cG I.z (.t 30) (.t 33)),zo 29 (.load I.z true (.t 28)),zo 28 (.cG I.z (.t 24) (.t 27))],[]⟩ 339 0xFDB244034F538034890340D52E1640E1840DDE0190340C09C7808B971E03008B977540C0F9640EF62590480EF62598100D04E1803008B940A0480EF625905204034138600C022E50281203BD89640401C15B98148100D04E1803008B940A0480EF62590580401C15B98148100D04E1803008B940A0480EF6010619220293D495255780A4F5254955E0293D000905D41B0609076C1C619220293D00090014840841E2426B08A3B04C1023D600901D60817050810948F4142508D1731149D81F7
def GD(I:SI):GC:=dc ⟨[],[],[],[Ln I]⟩ 20 0x39F8047DD56
def H9(I:SI):GC:=dc ⟨[I.sw],[],[],[]⟩ 194 0x3F6DCE4F5EA050144FF044100A7393DF201705E155780A4F5225780B24404424C7A681F45CD67393D4A02224422210227DE155780A4F5225780B4F5250293D4880A24404424CB3225B0B917391EC4F5280C4910C4840C649
def Gz(I:SI):GC:=dc ⟨[I.sw],[],[],[H9 I]⟩ 106 0x34115E3313D4A27C7DD0433091ED5280464E926634A9173CA482455E0293D488F4244ED244F4424C7A683920439
def L5(I:SI):GC:=dc ⟨[],[],[⟨none,.store I.z (.t 52) (.t 50),none⟩,zo 52 (.cG I.z (.t 39) (.t 41)),⟨none,.store I.z (.t 51) (.t 46),none⟩,zo 51 (.cG I.z (.t 37) (.t 38)),zo 50 (.load I.z true (.t 49)),zo 49 (.cG I.z (.t 47) (.t 48)),zo 46 (.load I.z true (.t 45)),zo 45 (.cG I.z (.t 42) (.t 44)),zq 31 (.load I.z true (.t 30)) 21 true,zq 30 (.cG I.z (.t 27) (.t 29)) 21 true,zq 26 (.load I.z true (.t 25)) 21 true,zq 25 (.cG I.z (.t 23) (.t 24)) 21 true],[]⟩ 620 0x3222D466342B99984F198D080A662D566338663F36600EFCD9880BF37A1BCB580F67C0369971699BC6989002DA6F48172400A6988406571699BC6997769890025A62101D06C90021A6C98A632ADD69A256993B334810888908822A5E8140C03511804B980841440299387A5187ACF87BA187810E8647D5B565DF565DC905D42C0A89076C2DD5890014840C02F2426B0C63B0982523D600CC2E6082909C810D08F414340C91736B2209091FA19C
def L6(I:SI):GC:=dc ⟨[],[],[],[L5 I]⟩ 94 0x343D88ED538BB9BA022AC9399C9ED1731DC6EAD64
def Fs(I:SI):GC:=dc ⟨[],[],[],[L6 I]⟩ 35 0xEE95276259156
def Lk(I:SI):GC:=dc ⟨[I.ins],[],[],[]⟩ 106 0x3E32D69A80D0353FC121532091620024269A0490402081BB3BE332B14F506BA964
def Ll(I:SI):GC:=dc ⟨[I.sm],[],[],[]⟩ 116 0x3E32D69A82308F30228058568937EB14F52562002424C731A5B0AD04020810B0910B0840B3BE396B1DE5D14D1060C0910C0840C164
def Lm(I:SI):GC:=dc ⟨[I.sm],[],[],[Ll I]⟩ 168 0x39D2D60379A8448A00D0401B79744810809949420210205911BEE50F5D5880193D41833244332103367104026D6034890D836EECF1244F081C0282A9A0F2F93DDC601F943066D0F8910F8840F94A
def GB(I:SI):GC:=dc ⟨[I.ins],[],[],[Lm I,Lk I]⟩ 78 0x3AF814F08067DC994940A7156498EB441105620D181C024269A06C8106E7B
def GA(I:SI):GC:=dc ⟨[I.st],[],[],[]⟩ 26 0x3EECC54409131BC44B08402164
def Lf(I:SI):GC:=dc ⟨[],[],[zo 48 (.load I.z true (.t 47)),zo 47 (.cG I.z (.t 45) (.t 46)),zo 44 (.load I.z true (.t 43)),zo 43 (.cG I.z (.t 41) (.t 42))],[]⟩ 231 0xFDB7393D03489084214FF044100A7393D0023D2A401EA9F401C8109C9109C8409F29576CA69546510056013C86DA25193C21799689464F091011860323B0A8297C42B618016082E0B5360BCA6327C5894890C83245CE7715490D0910D0840D1F745CE9211A10D4910D4840D649
def Lg(I:SI):GC:=dc ⟨[],[],[⟨none,.store I.z (.t 76) (.t 74),none⟩,zo 76 (.cG I.z (.t 63) (.t 65)),⟨none,.store I.z (.t 75) (.t 70),none⟩,zo 75 (.cG I.z (.t 61) (.t 62)),zo 74 (.load I.z true (.t 73)),zo 73 (.cG I.z (.t 71) (.t 72)),zo 70 (.load I.z true (.t 69)),zo 69 (.cG I.z (.t 66) (.t 68))],[]⟩ 313 0xD0F6F80A5DD344E03A2243A0EA97A050300D446012E602105100A64E1E9461EB3E1EE861E043A191D86035860352149525036282417510443241DB105860349001484104422426B1063B0F83D23D60100456084B0FD4D0300123D052000CA340A005173B9490F0910F0840F2E3
def Lh(I:SI):GC:=dc ⟨[],[],[zo 100 (.load I.z true (.t 99)),zo 99 (.cG I.z (.t 97) (.t 98)),zo 96 (.load I.z true (.t 95)),zo 95 (.cG I.z (.t 93) (.t 94))],[]⟩ 290 0x343C0E2440F4F40D7EB30228054100E2440F4F4008F4A9007AA7D0075341B5BC1B5841B4A010576CA69546510056013C86DA25193C21799689464F08597800689464F0910118600A3B104427C441618106084110B50298C9F162553DFA45DC103B230A56F0A5610A528039177040F5342A5BC2A5842A4A00F
def Li(I:SI):GC:=dc ⟨[],[],[⟨none,.store I.z (.t 128) (.t 126),none⟩,zo 128 (.cG I.z (.t 115) (.t 117)),⟨none,.store I.z (.t 127) (.t 122),none⟩,zo 127 (.cG I.z (.t 113) (.t 114)),zo 126 (.load I.z true (.t 125)),zo 125 (.cG I.z (.t 123) (.t 124)),zo 122 (.load I.z true (.t 121)),zo 121 (.cG I.z (.t 118) (.t 120))],[]⟩ 323 0xD0F044910393D03D4D0BBED4740646C07A050300D446012E602105100A64E1E9461EB3E1EE861E043A191D860458604577618115DC905D44110C9076C41618112400521041108909AC418EC4D1388F580401158212C4D535F823D05201F82003E005178AD77534305BC30584304A011
def Lj(I:SI):GC:=dc ⟨[],[],[zo 168 (.load I.z true (.t 167)),zo 167 (.cG I.z (.t 165) (.t 166)),zo 164 (.load I.z true (.t 163)),zo 163 (.cG I.z (.t 159) (.t 162))],[]⟩ 313 0xD0F0526E4F40D7E91D0208A025040526E4F4008F4A9007AA7D0075341D8C41D8C01D9B4176A1035FAE85F9950113351236214098DA1BE2D95011330263621798E2D9501133026362140CE638B654044CC0901D88011860589105D3D0063B104447C441618176084110B50298CBF162553DFA45E4D053230B6310B6300B66D05117934155342E8C42E8C02E9B415
def UD(I:SI):GC:=dc ⟨[I.sm],[],[],[]⟩ 199 0xC882BD044595E0513DBD4148909104BCD4F40DE0E2F7EBBB45922A74918380482A9A1037488C14488184F6F5062242474D1093D037838BDFA45D054962383BE62458BAFE6B0120AA68405341B00C8D
def UE(I:SI):GC:=dc ⟨[I.ro],[],[],[UD I]⟩ 136 0x34125CE9C910513DC90318C4318C0319B418220AF412DFED6F500A2424418F353D037838BDFAEEEDF5815E060910120AA68405343F0088D2B800
def UF(I:SI):GC:=dc ⟨[],[],[],[UE I,Lj I]⟩ 42 0x3410135DD4D05231052300526D0591B022B42B800
def UG(I:SI):GC:=dc ⟨[],[],[],[UF I]⟩ 236 0x34112200D3D0023D2A401EA9F401D4D01A3101A3001A6D0490483BB5418800263102630024029F8145D01520415220AF4115E0493D03DFA41013244034F72403E3103E3003E6D051170494D04231042300426D05504C90118C4118C0119B41445C02534128C4128C0129B4152B800
def NT(I:SI):GC:=dc ⟨[],[],[],[Li I,Lh I]⟩ 103 0xD0445919534115BC11584114A00E41002534125BC12584124A00F46C04AD10F5800F010025342B5BC2B5842B4A011228064A88C
def G5(I:SI):GC:=dc ⟨[],[],[],[Lg I,Lf I]⟩ 73 0xD0436C81C73CA075F7410DB2079D92663AD10F3D648010810D8910D8840DAE39EC8C
def Dz(I:SI):GC:=dc ⟨[],[],[],[UG I,NT I,G5 I]⟩ 76 0x343D5E0053D005216841C2241C070AE0088D43EBFED401487B30428A20010A3410004AE0048D2B800
structure pK (I:SI):Prop where
 sw:aP P I.sw=some ⟨38,5,(GD I).er,[]⟩
 ro:aP P I.ro=some ⟨58,5,(Gz I).er,[]⟩
 sm:aP P I.sm=some ⟨220,5,(Dz I).er,[]⟩
 ins:aP P I.ins=some ⟨53,4,(Fs I).er,[]⟩
 st:aP P I.st=some ⟨63,3,(GB I).er,[]⟩
 so:aP P I.so=some ⟨9,2,(GA I).er,[]⟩
section
variable {α : Type} [Enc α]
def K3{I:SI}(hI:pK I)(Y:Enc.sz α = I.z)(af:∀ x : α,(enc x).cells.all PV.one=true)(cf:FuncId)(A U M V B l:List α)(W:l=A++(U++(M++(V++B))))(aq:l.length<=1000000)(ag:V.length=U.length)(a b n:Nat)(ha:a=A.length)(hb:b=A.length+U.length+M.length)(hn:n=U.length) :
  gO P I.sw [.sl (ens l),g6 a,g6 b,g6 n,.fn cf []] 0 I.z (ens (A++(V++(M++(U++B))))) (.pure (.bM [])):=by
 have H:∀ x : α,(enc x).sz=I.z:=λx=>by rw[Enc.ok,Y]
 have F:(A++(V++(M++(U++B)))).length=l.length:=by rw[W];simp;omega
 have Z:l.length=A.length+U.length+M.length+U.length+B.length:=by rw[W];simp;omega
 refine gO.cE hI.sw (by simp) rfl (by simp[F]) ?_;simp[GD]
 refine b6 (S:=λx:List α × Nat=>aB [(0,.own bC 0 0 l.length),(1,f8 a),(2,f8 b),(3,f8 n),(10,f8 x.2)] [(bC,⟨I.z,aK x.1⟩)])
  (I:=λx=>∃ h d f i,U=h++d/\V=f++i/\h.length=x.2/\f.length=x.2/\x.1=A++(f++(d++(M++(h++(i++B)))))) (m:=λx=>n - x.2) (l,0)
  (aA.to [0,1,2,3,10] [((bC,0),bC)] (by simp[aB])) ⟨[],U,[],V,rfl,rfl,rfl,rfl,W⟩ ?_
 rintro⟨L,k⟩ ⟨h,d,f,i,K,N,E,t,y⟩ R X hr hx;simp only at E t y;have j:U.length=h.length+d.length:=by rw[K];simp
 have Q:V.length=f.length+i.length:=by rw[N];simp
 have O:L.length=l.length:=by rw[y];simp;omega
 have e1:=aZ k;have e2:i64.wrap ((b:Int)+k)=((b+k:Nat):Int):=cT;have e3:i64.wrap ((a:Int)+k)=((a+k:Nat):Int):=cT;by_cases G:k<n
 .obtain _|⟨u,d⟩:=d
  .simp at j;omega
  obtain _|⟨v,i⟩:=i
  .simp at Q;omega
  have o:L[a+k]?=some u:=by rw[y,ha,<- t];simp[<- List.append_assoc]
  have r:L[b+k]?=some v:=by
   have e:b+k=(A++(f++(u::d++(M++h)))).length:=by simp at j ⊢;omega
   rw[y,e,show A++(f++(u::d++(M++(h++(v::i++B)))))=(A++(f++(u::d++(M++h))))++(v::(i++B)) by simp];simp
  have J:(L.set (a+k) v).set (b+k) u=A++((f++[v])++(d++(M++((h++[u])++(i++B))))):=by
   have e:b+k=(A++(f++(v::d++(M++h)))).length:=by simp at j ⊢;omega
   have e':a+k=(A++f).length:=by simp;omega
   rw[y,e',show A++(f++(u::d++(M++(h++(v::i++B)))))=(A++f)++(u::(d++(M++(h++(v::i++B))))) by simp,C' _ _ (dE _),Db,G0,
    e,show A++f++v::(d++(M++(h++(v::i++B))))=(A++(f++(v::d++(M++h))))++(v::(i++B)) by simp,C' _ _ (dE _),Db,G0]
   simp
  have al:a+k<L.length:=(iU.1 o).1;have ao:b+k<L.length:=(iU.1 r).1
  have C:∀ s,aA s (aB [(0,.own bC 0 0 l.length),(1,f8 a),(2,f8 b),(3,f8 n),(10,f8 (k+1:Nat))] [(bC,⟨I.z,aK ((L.set (a+k) v).set (b+k) u)⟩)])->R .normal s:=λs hs=>
   X ((L.set (a+k) v).set (b+k) u,k+1) _ hs ⟨h++[u],d,f++[v],i,by rw[K];simp,by rw[N];simp,by simp[E],by simp[t],J⟩ (by simp only;omega)
  have ad:(k:Int)<(n:Int):=by omega
  simp[Ln,aB,G,e2,e3,O,show a+k<l.length by omega,show b+k<l.length by omega];have t1:((a:Int)+k).toNat=a+k:=by omega
  have t2:((b:Int)+k).toNat=b+k:=by omega
  have w:((aK L).set (a+k) (.p (enc v))).set (b+k) (.p (enc u))=aK ((L.set (a+k) v).set (b+k) u):=by simp[-gW,aK,ens,EX]
  rw[t1,t2];refine⟨⟨by omega,by omega⟩,eD r ⟨⟨by omega,by omega⟩,eD o ⟨⟨by omega,by omega⟩,eD o ⟨⟨H v,I.hz⟩,⟨by omega,by omega⟩,?_⟩⟩⟩⟩;have D:((aK L).set (a+k) (.p (enc v)))[b+k]?=some (.p (enc v)):=by
   rw[vK];split
   .exact aX (by simp[-gW,aK,ens];omega)
   .simp[-gW,aK,ens,r]
  rw[lM];refine eD D ?_;rw[Fw];refine⟨⟨H u,I.hz⟩,?_⟩;rw[w];generalize (L.set (a+k) v).set (b+k) u=L2 at *
  simp[e1];exact C _ (aA.to [0,1,2,3,10] [((bC,0),bC)] (by simp[aB]))
 .have ap:k=n:=by omega
  have h2:d=[]:=q9 (by omega);have h3:i=[]:=q9 (by omega);subst h2 h3;simp only[kY]at K N;subst K N;simp[Ln,aB,G];refine hx _ _ ?_;simp[y]
end
section
variable {α : Type} [Enc α]
def ZU{I:SI}(W:pK I)(w:Enc.sz α = I.z)(f:∀ x : α,(enc x).cells.all PV.one=true)(cf:FuncId)(A U V B l:List α)(hl:l=A++(U++(V++B)))(av:l.length<=1000000)(ad:1<=U.length)(ag:1<=V.length)(a m b:Nat)(ha:a=A.length)(hm:m=A.length+U.length)(hb:b=A.length+U.length+V.length) :
  gO P I.ro [.sl (ens l),g6 a,g6 m,g6 b,.fn cf []] 0 I.z (ens (A++(V++(U++B)))) (.pure (.bM [])):=by
 have H:(A++(V++(U++B))).length=l.length:=by rw[hl];simp;omega
 have ao:l.length=A.length+U.length+V.length+B.length:=by rw[hl];simp;omega
 have e1:i64.wrap ((m:Int) - a)=(U.length:Int):=by rw[cL];omega
 have e2:i64.wrap ((b:Int) - m)=(V.length:Int):=by rw[cL];omega
 refine gO.cE W.ro (by simp) rfl (by simp[H]) ?_;simp[Gz];rw[e1,e2]
 refine b6 (S:=λx:List α × Nat × Nat=>aB [(0,.own bC 0 0 l.length),(2,f8 m),(4,.p (.fn cf [])),(10,f8 x.2.1),(11,f8 x.2.2)] [(bC,⟨I.z,aK x.1⟩)])
  (I:=λx=>∃ d o r k,x.1=d++(o++(r++k))/\o.length=x.2.1/\r.length=x.2.2/\d.length+x.2.1=m/\1<=x.2.1/\1<=x.2.2/\d++(r++(o++k))=A++(V++(U++B))) (m:=λx=>x.2.1+x.2.2) (l,U.length,V.length)
  (aA.to [0,2,4,10,11] [((bC,0),bC)] (by simp[aB])) ⟨A,U,V,B,hl,rfl,rfl,by simp only;omega,ad,ag,rfl⟩ ?_
 rintro⟨L,i,j⟩ ⟨d,o,r,k,N,X,hj,O,i1,j1,C⟩ R hn hr hx;simp only at N X hj O i1 j1;have n:L.length=l.length:=by have:=congrArg List.length C;rw[H]at this;rw[N,<- this];simp;omega
 have M:L.take l.length=L:=by rw[<- n];exact kK
 have ap:l.length=d.length+i+j+k.length:=by rw[<- n,N];simp;omega
 have Y:i64.wrap ((m:Int) - i)=((d.length:Nat):Int):=by rw[cL];omega
 obtain h|h|h:=NB i j
 .obtain⟨F,G,rfl,al⟩:∃ F G,r=F++G/\G.length=i:=⟨r.take (j - i),r.drop (j - i),(oK _ _).symm,by rw[lp];omega⟩;have au:F.length+i=j:=by simp at hj;omega
  have e4:i64.wrap ((m:Int)+j)=((m+j:Nat):Int):=cT;have e5:i64.wrap (((m+j:Nat):Int) - i)=((m+j - i:Nat):Int):=by rw[cL];omega
  have Z:i64.wrap ((j:Int) - i)=((j - i:Nat):Int):=by rw[cL];omega
  have u:=K3 W w f cf d o F G k L (by rw[N];simp) (by omega) (by omega) d.length (m+j - i) i rfl (by omega) X.symm;have t:(d++(G++(F++(o++k)))).length=l.length:=by simp;omega
  have y:∀ s,aA s (aB [(0,.own bC 0 0 l.length),(2,f8 m),(4,.p (.fn cf [])),(10,f8 i),(11,f8 (j - i:Nat))] [(bC,⟨I.z,aK (d++(G++(F++(o++k))))⟩)])->R .normal s:=λs hs=>
   hn (_,i,j - i) s hs ⟨d,G,F,o++k,rfl,al,by simp only;omega,O,i1,by simp only;omega,by rw[<- C];simp⟩ (by simp only;omega)
  generalize d++(G++(F++(o++k)))=L2 at *
  have J:¬ (i:Int)=(j:Int):=by omega
  have K:¬ (j:Int)<(i:Int):=by omega
  simp[H9,aB,J,K,show ¬ i=j by omega,show ¬ j<i by omega,Y,e4];rw[<- Int.natCast_add,e5];refine qV u (by simp[n,M]) rfl rfl (by simp) (by simp[n]) (by simp[t]) rfl (jF _ _ w) (cells_one f _) (by simp) ?_;simp[Z];exact y _ (aA.to [0,2,4,10,11] [((bC,0),bC)] (by simp[aB]))
 .subst h;have u:=K3 W w f cf d o [] r k L (by rw[N];simp) (by omega) (by omega) d.length m i rfl (by simp;omega) X.symm;have t:(d++(r++([]++(o++k)))).length=l.length:=by simp;omega
  have Q:d++(r++([]++(o++k)))=d++(r++(o++k)):=by simp
  rw[Q,C]at u t;simp[H9,aB];refine hx _ _ ?_;simp;rw[Y];refine qV u (by simp[n,M]) rfl rfl (by simp) (by simp[n]) (by simp[t]) rfl (jF _ _ w) (cells_one f _) (by simp) ?_;simp[t]
 .obtain⟨D,E,rfl,af⟩:∃ D E,o=D++E/\D.length=j:=⟨o.take j,o.drop j,(oK _ _).symm,by rw[fY];omega⟩;have aq:E.length+j=i:=by simp at X;omega
  have Z:i64.wrap ((i:Int) - j)=((i - j:Nat):Int):=by rw[cL];omega
  have u:=K3 W w f cf d D E r k L (by rw[N];simp) (by omega) (by omega) d.length m j rfl (by omega) af.symm;have t:(d++(r++(E++(D++k)))).length=l.length:=by simp;omega
  have y:∀ s,aA s (aB [(0,.own bC 0 0 l.length),(2,f8 m),(4,.p (.fn cf [])),(10,f8 (i - j:Nat)),(11,f8 j)] [(bC,⟨I.z,aK (d++(r++(E++(D++k))))⟩)])->R .normal s:=λs hs=>
   hn (_,i - j,j) s hs ⟨d++r,E,D,k,by simp,by simp only;omega,by simp only;omega,by simp only[gQ];omega,by simp only;omega,j1,by rw[<- C];simp⟩ (by simp only;omega)
  generalize d++(r++(E++(D++k)))=L2 at *
  have J:¬ (i:Int)=(j:Int):=by omega
  have K:(j:Int)<(i:Int):=by omega
  simp[H9,aB,J,K,show ¬ i=j by omega,h,Y];refine qV u (by simp[n,M]) rfl rfl (by simp) (by simp[n]) (by simp[t]) rfl (jF _ _ w) (cells_one f _) (by simp) ?_;simp[Z];exact y _ (aA.to [0,2,4,10,11] [((bC,0),bC)] (by simp[aB]))
end
section
variable {α : Type} {key : α -> List Int}
def AY{l:List α}(h:jQ key l){i j:Nat}{x y : α}(n:l[i]?=some x)(o:l[j]?=some y)(d:i<=j):¬ key y<key x:=by
 obtain⟨f,rfl⟩:=iU.1 n;obtain⟨k,rfl⟩:=iU.1 o;obtain m|rfl:=Nat.lt_or_eq_of_le d
 .exact Ns.1 h i j f k m
 .exact pU _
def Is{l:List α}(h:jQ key l)(n:Nat):jQ key (l.take n):=JF (Js _ _) h
def Ir{l:List α}(h:jQ key l)(n:Nat):jQ key (l.drop n):=JF (List.drop_sublist _ _) h
def I3{l:List α}{n:Nat}{x : α}(h:x∈l.take n):∃ i,i<n/\l[i]?=some x:=by obtain⟨i,f,d⟩:=qW.1 h;rw[fY]at f;rw[List.getElem_take]at d;exact⟨i,by omega,iU.2 ⟨by omega,d⟩⟩
def C3{l:List α}{n:Nat}{x : α}(h:x∈l.drop n):∃ i,n<=i/\l[i]?=some x:=by obtain⟨i,f,d⟩:=qW.1 h;rw[lp]at f;rw[List.getElem_drop]at d;exact⟨n+i,by omega,iU.2 ⟨by omega,d⟩⟩
def ygb{a b c:List Int}(h:¬ b<a)(k:b<c):a<c:=PA h k
def KV{a b c:List Int}(h:¬ b<a)(k:¬ c<b):¬ c<a:=λd=>k (Ep d h)
def Mj{X Y:List α}(p:jQ key X)(r:jQ key Y){u v:Nat}
  (A:u=0\/Y.length<=v\/∃ x y,X[u - 1]?=some x/\Y[v]?=some y/\¬ key y<key x) (B:X.length<=u\/v=0\/∃ x y,X[u]?=some x/\Y[v - 1]?=some y/\key y<key x) :
  bW key (X++Y)=bW key (X.take u++Y.take v)++bW key (X.drop u++Y.drop v):=by
 have e:X++Y=X.take u++X.drop u++(Y.take v++Y.drop v):=by rw[oK,oK]
 rw[e];refine z33 (λy k x f=>?_) (λx f y k=>?_) (λx f y k=>?_) λx f y k=>?_
 .obtain⟨i,s,l⟩:=I3 k;obtain⟨j,m,d⟩:=C3 f;have C:=(iU.1 d).1;obtain h|h|⟨D,E,t,w,z⟩:=B
  .omega
  .omega
  .have n:=AY r l w (by omega);have o:=AY p t d m;exact Ep (ygb n z) o
 .obtain⟨i,s,l⟩:=I3 f;obtain⟨j,m,d⟩:=C3 k;have C:=(iU.1 d).1;obtain h|h|⟨D,E,t,w,z⟩:=A
  .omega
  .omega
  .have n:=AY p l t (by omega);have o:=AY r w d m;exact KV (KV n z) o
 .obtain⟨i,s,l⟩:=I3 f;obtain⟨j,m,d⟩:=C3 k;exact AY p l d (by omega)
 .obtain⟨i,s,l⟩:=I3 f;obtain⟨j,m,d⟩:=C3 k;exact AY r l d (by omega)
def X1{x : α}{Y:List α}(d:jQ key Y){v:Nat}(l:v=0\/∃ y,Y[v - 1]?=some y/\key y<key x)(m:Y.length<=v\/∃ y,Y[v]?=some y/\¬ key y<key x):bW key (x::Y)=Y.take v++(x::Y.drop v):=by
 have:=Mj (X:=[x]) (key:=key) (by simp[jQ]) d (u:=0) (v:=v) (.inl rfl) (.inr (by
  obtain h|⟨y,f,i⟩:=l
  .exact .inl h
  .exact .inr ⟨x,y,rfl,f,i⟩))
 simp only[JJ,uP,Ae,xX]at this;rw[this,AF (Is d v),AF];refine mS.2 ⟨λy n=>?_,Ir d v⟩;obtain⟨j,o,k⟩:=C3 n;have p:=(iU.1 k).1;obtain h|⟨r,f,i⟩:=m
 .omega
 .exact KV i (AY d f k o)
def X2{y : α}{X:List α}(f:jQ key X){u:Nat}(r:u=0\/∃ x,X[u - 1]?=some x/\¬ key y<key x)(p:X.length<=u\/∃ x,X[u]?=some x/\key y<key x):bW key (X++[y])=X.take u++(y::X.drop u):=by
 have:=Mj (Y:=[y]) (key:=key) f (by simp[jQ]) (u:=u) (v:=0) (by
  obtain h|⟨x,l,m⟩:=r
  .exact .inl h
  .exact .inr (.inr ⟨x,y,l,rfl,m⟩)) (.inr (.inl rfl))
 simp only[JJ,kY,Ae]at this;rw[this,AF (Is f u)]
 congr 1
 refine(IU ?_ λk=>?_).symm
 .refine mS.2 ⟨λx n=>?_,Ir f u⟩;obtain⟨j,o,i⟩:=C3 n;have s:=(iU.1 i).1;obtain h|⟨t,l,m⟩:=p
  .omega
  .have:=AY f l i o;intro d;exact this (Ca d m)
 .rw[xS,wB,xS];by_cases d:key y=k
  .rw[aX d,aX d];have:oQ key k (X.drop u)=[]:=DX λx n e=>by
    obtain⟨j,o,i⟩:=C3 n;have s:=(iU.1 i).1;obtain h|⟨t,l,m⟩:=p
    .omega
    .have:=AY f l i o;rw[e,<- d]at this;exact this m
   rw[this];rfl
  .rw[bD d,bD d];simp[oQ]
end
section
variable {α : Type} [Enc α]
def Jk(p q:Int)(d:0<=p+q)(h:p+q<=2000000):i64.wrap (i64.wrap (p+q) % 18446744073709551616 / 2)=(p+q) / 2:=by rw[cL (n:=p+q) (by omega) (by omega),Int.emod_eq_of_lt d (by omega)];exact cL
def yc2(P:List α)(u v : α)(R:List α):((P++(u::v::R)).set P.length v).set (P.length+1) u=P++(v::u::R):=by simp[List.set_append]
def Wm{I:SI}(hI:pK I)(al:Enc.sz α = I.z)(au:∀ x : α,(enc x).cells.all PV.one=true){key : α -> List Int}{cf:FuncId}{D : α -> Prop}(hD:∀ x y,D x->D y->∃ n:Int,Sp P cf [enc x,enc y] (.pure (g6 n))/\(n<0 ↔ key x<key y))
  {A Y B l:List α} {x : α} (M:l=A++(x::(Y++B))) (aw:l.length<=1000000) (hY:jQ key Y) (dx:D x) (dY:∀ y∈Y,D y) {a m b:Nat} (ha:a=A.length) (hm:m=a+1) (hb:b=a+1+Y.length) {Q:Exit->St->Prop} {ks:List Kt}
  (U:∀ sl,Q .ret ⟨sl,[(bC,[some ⟨I.z,aK (A++(bW key (x::Y)++B))⟩]),(aO,[none])]⟩) :
  vm P 220 Q (.code (G5 I)::ks) ⟨[(0,.own bC 0 0 l.length),(1,f8 a),(2,f8 m),(3,f8 b),(4,.p (.fn cf []))],[(bC,[some ⟨I.z,aK l⟩])]⟩:=by
 have G:∀ x : α,(enc x).sz=I.z:=λx=>by rw[Enc.ok,al]
 have aq:l.length=A.length+1+Y.length+B.length:=by rw[M];simp;omega
 have gx:l[a]?=some x:=by rw[M,ha];simp
 have gY:∀ i,i<Y.length->∃ y,Y[i]?=some y/\l[m+i]?=some y/\D y:=λi K=>by refine⟨Y[i],dO K,?_,dY _ (bU K)⟩;rw[M,qG (by omega),show m+i - A.length=i+1 by omega,List.getElem?_cons_succ,wN K,dO K]
 simp[G5]
 refine b6 (S:=λs:Nat × Nat=>aB [(0,.own bC 0 0 l.length),(1,f8 a),(4,.p (.fn cf [])),(10,f8 (m+s.1:Nat)),(11,f8 (m+s.2:Nat))] [(bC,⟨I.z,aK l⟩)])
  (I:=λs=>s.1<=s.2/\s.2<=Y.length/\(s.1=0\/∃ y,Y[s.1 - 1]?=some y/\key y<key x)/\(Y.length<=s.2\/∃ y,Y[s.2]?=some y/\¬ key y<key x)) (m:=λs=>s.2 - s.1) (0,Y.length)
  (aA.to [0,1,4,10,11] [((bC,0),bC)] (by simp[aB];omega)) ⟨vI _,dE _,.inl rfl,.inl (dE _)⟩ ?_
 rintro⟨i,j⟩ ⟨h1,h2,N,O⟩ R Z hr hx;simp only at h1 h2 N O;by_cases X:i<j
 .have o:((m+i:Nat):Int)<((m+j:Nat):Int):=by omega
  have hw:i64.wrap (i64.wrap ((m:Int)+i+(m+j)) % 18446744073709551616 / 2)=((m+(i+j) / 2:Nat):Int):=by rw[Jk _ _ (by omega) (by omega)];omega
  have c1:i<=(i+j) / 2/\(i+j) / 2<j:=by omega
  generalize (i+j) / 2=c at *
  obtain⟨y,J,y2,y3⟩:=gY c (by omega);obtain⟨n,af,F⟩:=hD y x y3 dx;have e1:i64.wrap ((m:Int)+c+1)=(m:Int)+(c+1):=by rw[cL];omega
  simp[Lf,aB,X,o];rw[hw,kZ];refine⟨⟨by omega,by omega⟩,eD y2 ⟨by omega,eD gx ?_⟩⟩;refine bA af rfl ?_;by_cases d:n<0
  .simp[d];exact Z (c+1,j) _ (aA.to [0,1,4,10,11] [((bC,0),bC)] (by simp[aB,e1])) ⟨by simp only;omega,h2,.inr ⟨y,J,F.1 d⟩,O⟩ (by simp only;omega)
  .simp[d];exact Z (i,c) _ (aA.to [0,1,4,10,11] [((bC,0),bC)] (by simp[aB])) ⟨by simp only;omega,by simp only;omega,N,.inr ⟨y,J,λh=>d (F.2 h)⟩⟩ (by simp only;omega)
 .have W:i=j:=by omega
  subst W;have o:¬ ((m+i:Nat):Int)<((m+i:Nat):Int):=by omega
  have ag:=X1 hY (x:=x) (v:=i) N O;rw[ag]at U;simp[Lf,aB];refine hx _ _ ?_;simp;clear Z hr hx;have E:∀ k,(A++(Y.take k++(x::(Y.drop k++B)))).length=l.length:=λk=>by have:=congrArg List.length (oK k Y);rw[gQ]at this;simp only[gQ,qH]at this ⊢;omega
  refine b6 (S:=λs:List α × Nat=>aB [(0,.own bC 0 0 l.length),(10,f8 (m+i:Nat)),(13,f8 (a+s.2:Nat))] [(bC,⟨I.z,aK s.1⟩)])
   (I:=λs=>s.2<=i/\s.1=A++(Y.take s.2++(x::(Y.drop s.2++B)))) (m:=λs=>i - s.2) (l,0) (aA.to [0,10,13] [((bC,0),bC)] (by simp[aB])) ⟨vI _,M⟩ ?_
  rintro⟨L,k⟩ ⟨hk,t⟩ R2 ad bb ap;simp only at hk t;have av:L.length=l.length:=by rw[t];exact E k
  have e3:i64.wrap ((m:Int)+i - 1)=(a:Int)+i:=by rw[cL];omega
  have e4:i64.wrap ((a:Int)+k+1)=(a:Int)+(k+1):=by rw[cL];omega
  by_cases C:k<i
  .obtain⟨y,J,_,_⟩:=gY k (by omega);have V:Y.drop k=y::Y.drop (k+1):=by obtain⟨q1,q2⟩:=iU.1 J;rw[vJ q1,q2]
   have ao:Y.take (k+1)=Y.take k++[y]:=by obtain⟨q1,q2⟩:=iU.1 J;rw[ed q1,q2]
   have hP:(A++Y.take k).length=a+k:=by rw[gQ,fY];omega
   have f:L=(A++Y.take k)++(x::y::(Y.drop (k+1)++B)):=by rw[t,V];simp
   have gz:L[a+k]?=some x:=by rw[f,<- hP];simp
   have gy:L[a+k+1]?=some y:=by rw[f,qG (by omega),show a+k+1 - (A++Y.take k).length=1 by omega];rfl
   have H:(L.set (a+k) y).set (a+k+1) x=A++(Y.take (k+1)++(x::(Y.drop (k+1)++B))):=by rw[f,<- hP,yc2,ao];simp
   have u:∀ s,aA s (aB [(0,.own bC 0 0 l.length),(10,f8 (m+i:Nat)),(13,f8 (a+(k+1):Nat))] [(bC,⟨I.z,aK ((L.set (a+k) y).set (a+k+1) x)⟩)])->R2 .normal s:=λs hs=>
    ad ((L.set (a+k) y).set (a+k+1) x,k+1) s hs ⟨C,H⟩ (by simp only;omega)
   clear H f t;simp[Lg,aB,e3,e4,C];have t1:((a:Int)+k).toNat=a+k:=by omega
   have t2:((a:Int)+(k+1)).toNat=a+k+1:=by omega
   rw[t1,t2];have r:((aK L).set (a+k) (.p (enc y))).set (a+k+1) (.p (enc x))=aK ((L.set (a+k) y).set (a+k+1) x):=by simp[-gW,aK,ens,EX]
   refine⟨⟨by omega,by omega,by omega⟩,eD gy ⟨⟨by omega,by omega,by omega⟩,eD gz ⟨⟨by omega,by omega,by omega⟩,eD gz ⟨⟨G y,I.hz⟩,⟨by omega,by omega,by omega⟩,?_⟩⟩⟩⟩;rw[lM];refine eD (x:=.p (enc y)) ?_ ?_
   .rw[vK,bD (by omega)];simp[-gW,aK,ens,gy]
   rw[Fw];refine⟨⟨G x,I.hz⟩,?_⟩;rw[r];generalize (L.set (a+k) y).set (a+k+1) x=L2 at *
   simp[e4];exact u _ (aA.to [0,10,13] [((bC,0),bC)] (by simp[aB]))
  .have:k=i:=by omega
   subst this;have w:A++(Y.take k++(x::Y.drop k)++B)=L:=by rw[t];simp
   rw[w]at U;simp[Lg,aB,e3];refine ap _ _ ?_;simp;exact U _
def Pl(P:List α)(u v : α)(R:List α):((P++(u::v::R)).set (P.length+1) u).set P.length v=P++(v::u::R):=by simp[List.set_append]
def Wn{I:SI}(hI:pK I)(au:Enc.sz α = I.z)(bk:∀ x : α,(enc x).cells.all PV.one=true){key : α -> List Int}{cf:FuncId}{D : α -> Prop}(hD:∀ x y,D x->D y->∃ n:Int,Sp P cf [enc x,enc y] (.pure (g6 n))/\(n<0 ↔ key x<key y))
  {A X B l:List α} {y : α} (N:l=A++(X++(y::B))) (br:l.length<=1000000) (hX:jQ key X) (dy:D y) (dX:∀ x∈X,D x) {a m b:Nat} (ha:a=A.length) (hm:m=a+X.length) (hb:b=m+1) {Q:Exit->St->Prop} {ks:List Kt}
  (Y:∀ sl,Q .ret ⟨sl,[(bC,[some ⟨I.z,aK (A++(bW key (X++[y])++B))⟩]),(aO,[none])]⟩) :
  vm P 220 Q (.code (NT I)::ks) ⟨[(0,.own bC 0 0 l.length),(1,f8 a),(2,f8 m),(3,f8 b),(4,.p (.fn cf []))],[(bC,[some ⟨I.z,aK l⟩])]⟩:=by
 have H:∀ x : α,(enc x).sz=I.z:=λx=>by rw[Enc.ok,au]
 have bb:l.length=A.length+X.length+1+B.length:=by rw[N];simp;omega
 have O:l[m]?=some y:=by rw[N,hm,ha,qG (by omega),show A.length+X.length - A.length=X.length by omega];simp
 have gX:∀ i,i<X.length->∃ x,X[i]?=some x/\l[a+i]?=some x/\D x:=λi M=>by refine⟨X[i],dO M,?_,dX _ (bU M)⟩;rw[N,qG (by omega),show a+i - A.length=i by omega,wN M,dO M]
 simp[NT]
 refine b6 (S:=λs:Nat × Nat=>aB [(0,.own bC 0 0 l.length),(2,f8 m),(4,.p (.fn cf [])),(14,f8 (a+s.1:Nat)),(15,f8 (a+s.2:Nat))] [(bC,⟨I.z,aK l⟩)])
  (I:=λs=>s.1<=s.2/\s.2<=X.length/\(s.1=0\/∃ x,X[s.1 - 1]?=some x/\¬ key y<key x)/\(X.length<=s.2\/∃ x,X[s.2]?=some x/\key y<key x)) (m:=λs=>s.2 - s.1) (0,X.length)
  (aA.to [0,2,4,14,15] [((bC,0),bC)] (by simp[aB];omega)) ⟨vI _,dE _,.inl rfl,.inl (dE _)⟩ ?_
 rintro⟨i,j⟩ ⟨h1,U,V,W⟩ R hn hr hx;simp only at h1 U V W;by_cases al:i<j
 .have F:((a+i:Nat):Int)<((a+j:Nat):Int):=by omega
  have hw:i64.wrap (i64.wrap ((a:Int)+i+(a+j)) % 18446744073709551616 / 2)=((a+(i+j) / 2:Nat):Int):=by rw[Jk _ _ (by omega) (by omega)];omega
  have c1:i<=(i+j) / 2/\(i+j) / 2<j:=by omega
  generalize (i+j) / 2=c at *
  obtain⟨x,K,x2,x3⟩:=gX c (by omega);obtain⟨n,ap,G⟩:=hD y x dy x3;have e1:i64.wrap ((a:Int)+c+1)=(a:Int)+(c+1):=by rw[cL];omega
  simp[Lh,aB,al,F];rw[hw,kZ];refine⟨by omega,eD O ⟨⟨by omega,by omega⟩,eD x2 ?_⟩⟩;refine bA ap rfl ?_;by_cases d:n<0
  .simp[d];exact hn (i,c) _ (aA.to [0,2,4,14,15] [((bC,0),bC)] (by simp[aB])) ⟨by simp only;omega,by simp only;omega,V,.inr ⟨x,K,G.1 d⟩⟩ (by simp only;omega)
  .simp[d];exact hn (c+1,j) _ (aA.to [0,2,4,14,15] [((bC,0),bC)] (by simp[aB,e1])) ⟨by simp only;omega,U,.inr ⟨x,K,λh=>d (G.2 h)⟩,W⟩ (by simp only;omega)
 .have ad:i=j:=by omega
  subst ad;have aq:=X2 hX (y:=y) (u:=i) V W;rw[aq]at Y;simp[Lh,aB];refine hx _ _ ?_;simp;clear hn hr hx;have E:∀ k,(A++(X.take k++(y::(X.drop k++B)))).length=l.length:=λk=>by have:=congrArg List.length (oK k X);rw[gQ]at this;simp only[gQ,qH]at this ⊢;omega
  refine b6 (S:=λs:List α × Nat=>aB [(0,.own bC 0 0 l.length),(14,f8 (a+i:Nat)),(17,f8 (a+s.2:Nat))] [(bC,⟨I.z,aK s.1⟩)])
   (I:=λs=>i<=s.2/\s.2<=X.length/\s.1=A++(X.take s.2++(y::(X.drop s.2++B)))) (m:=λs=>s.2) (l,X.length) (aA.to [0,14,17] [((bC,0),bC)] (by simp[aB,hm])) ⟨U,dE _,by rw[N];simp⟩ ?_
  rintro⟨L,k⟩ ⟨hk,af,r⟩ R2 ao bt aw;simp only at hk af r;have bo:L.length=l.length:=by rw[r];exact E k
  by_cases ag:i<k
  .obtain⟨p,rfl⟩:∃ p,k=p+1:=⟨k - 1,by omega⟩;have e4:i64.wrap ((a:Int)+(p+1) - 1)=(a:Int)+p:=by rw[cL];omega
   obtain⟨x,K,_,_⟩:=gX p (by omega);have Z:X.drop p=x::X.drop (p+1):=by obtain⟨q1,q2⟩:=iU.1 K;rw[vJ q1,q2]
   have av:X.take (p+1)=X.take p++[x]:=by obtain⟨q1,q2⟩:=iU.1 K;rw[ed q1,q2]
   have hP:(A++X.take p).length=a+p:=by rw[gQ,fY];omega
   have f:L=(A++X.take p)++(x::y::(X.drop (p+1)++B)):=by rw[r,av];simp
   have gz:L[a+p]?=some x:=by rw[f,<- hP];simp
   have gy:L[a+p+1]?=some y:=by rw[f,qG (by omega),show a+p+1 - (A++X.take p).length=1 by omega];rfl
   have J:(L.set (a+p+1) x).set (a+p) y=A++(X.take p++(y::(X.drop p++B))):=by rw[f,<- hP,Pl,Z];simp
   have t:∀ s,aA s (aB [(0,.own bC 0 0 l.length),(14,f8 (a+i:Nat)),(17,f8 (a+p:Nat))] [(bC,⟨I.z,aK ((L.set (a+p+1) x).set (a+p) y)⟩)])->R2 .normal s:=λs hs=>
    ao ((L.set (a+p+1) x).set (a+p) y,p) s hs ⟨by simp only;omega,by simp only;omega,J⟩ (by simp only;omega)
   clear J f r;have C:(i:Int)<(p:Int)+1:=by omega
   simp[Li,aB,e4,ag,C];have t1:((a:Int)+p).toNat=a+p:=by omega
   have t2:((a:Int)+(p+1)).toNat=a+p+1:=by omega
   rw[t1,t2];have o:((aK L).set (a+p+1) (.p (enc x))).set (a+p) (.p (enc y))=aK ((L.set (a+p+1) x).set (a+p) y):=by simp[-gW,aK,ens,EX]
   refine⟨⟨by omega,by omega,by omega⟩,eD gz ⟨⟨by omega,by omega,by omega⟩,eD gy ⟨⟨by omega,by omega,by omega⟩,eD gy ⟨⟨H x,I.hz⟩,⟨by omega,by omega,by omega⟩,?_⟩⟩⟩⟩;rw[lM];refine eD (x:=.p (enc x)) ?_ ?_
   .rw[vK,bD (by omega)];simp[-gW,aK,ens,gz]
   rw[Fw];refine⟨⟨H y,I.hz⟩,?_⟩;rw[o];generalize (L.set (a+p+1) x).set (a+p) y=L2 at *
   simp[e4];exact t _ (aA.to [0,14,17] [((bC,0),bC)] (by simp[aB]))
  .have:k=i:=by omega
   subst this;have w:A++(X.take k++(y::X.drop k)++B)=L:=by rw[r];simp
   rw[w]at Y;simp[Li,aB];refine aw _ _ ?_;simp;exact Y _
end
section
variable {α : Type} [Enc α]
theorem Nn{I:SI}(hI:pK I)(E:Enc.sz α = I.z)(o:∀ x : α,(enc x).cells.all PV.one=true){key : α -> List Int}{cf:FuncId}{D : α -> Prop}(hD:∀ x y,D x->D y->∃ n:Int,Sp P cf [enc x,enc y] (.pure (g6 n))/\(n<0 ↔ key x<key y)) :
  ∀ (N:Nat) (A X Y B l:List α) (a m b:Nat),X.length+Y.length<=N->l=A++(X++(Y++B))->l.length<=1000000->1<=X.length->1<=Y.length->jQ key X->jQ key Y->(∀ x∈X,D x)->(∀ x∈Y,D x)->a=A.length->m=a+X.length->b=m+Y.length ->
  gO P I.sm [.sl (ens l),g6 a,g6 m,g6 b,.fn cf []] 0 I.z (ens (A++(bW key (X++Y)++B))) (.pure (.bM []))
 | 0,A,X,Y,B,l,a,m,b,h,_,_,h1,_,_,_,_,_,_,_,_=>by omega
 | N+1,A,X,Y,B,l,a,m,b,hN,hl,al,df,dk,hX,hY,dX,dY,ha,hm,hb=>by
  have ih:=Nn hI E o hD N;have ad:(A++(bW key (X++Y)++B)).length=l.length:=by rw[hl];simp[(gB _).2.1];omega
  have cz:l.length=A.length+X.length+Y.length+B.length:=by rw[hl];simp;omega
  have e1:i64.wrap ((m:Int) - a)=(X.length:Int):=by rw[cL];omega
  have e2:i64.wrap ((b:Int) - m)=(Y.length:Int):=by rw[cL];omega
  refine gO.cE hI.sm (by simp) rfl (by simp[ad]) ?_;by_cases ao:X.length=1
  .obtain⟨x,rfl⟩:=Jx.1 ao;simp[Dz,e1];exact Wm hI E o hD (A:=A) (x:=x) (Y:=Y) (B:=B) hl al hY (dX x (by simp)) dY ha hm (by simp at hm;omega) λsl=>by simp
  by_cases bt:Y.length=1
  .obtain⟨y,rfl⟩:=Jx.1 bt;have U:¬ (X.length:Int)=1:=by omega
   simp[Dz,e1,e2,ao,U];exact Wn hI E o hD (A:=A) (X:=X) (y:=y) (B:=B) hl al hX (dY y (by simp)) dX ha hm hb λsl=>by simp
  have U:¬ (X.length:Int)=1:=by omega
  have bu:¬ (Y.length:Int)=1:=by omega
  have hw:i64.wrap (i64.wrap ((a:Int)+b) % 18446744073709551616 / 2)=(((a+b) / 2:Nat):Int):=by rw[Jk _ _ (by omega) (by omega)];omega
  have dd:2*((a+b) / 2)<=a+b/\a+b<=2*((a+b) / 2)+1:=by omega
  simp[Dz,UG,e1,e2,ao,U,bt,bu];rw[hw];generalize (a+b) / 2=mid at *
  have e3:i64.wrap ((mid:Int)+m)=((mid+m:Nat):Int):=cT;rw[e3]
  refine Np (S:=λs:Nat × Nat=>aB [(0,.own bC 0 0 l.length),(1,f8 a),(2,f8 m),(3,f8 b),(4,.p (.fn cf [])),(18,f8 mid),(19,f8 (mid+m:Nat)),(20,f8 s.1),(21,f8 s.2)] [(bC,⟨I.z,aK l⟩)])
   (I:=λs=>s.1<=s.2/\(s.1=a\/s.1+b=mid+m)/\a<=s.1/\mid+m<=s.1+b/\(s.2=m\/s.2=mid)/\s.2<=m/\s.2<=mid) ?_ ?_
  .intro R V hr hx;simp;refine⟨λdl=>?_,λdp=>?_⟩
   .have e4:i64.wrap ((mid:Int)+m - b)=((mid+m - b:Nat):Int):=by clear e1 e2 hw e3;rw[cL];omega
    rw[e4];exact V (mid+m - b,mid) _ (aA.to [0,1,2,3,4,18,19,20,21] [((bC,0),bC)] (by simp[aB])) ⟨by simp only;omega,.inr (by simp only;omega),by simp only;omega,by simp only;omega,.inr rfl,by simp only;omega,dE _⟩
   .exact V (a,m) _ (aA.to [0,1,2,3,4,18,19,20,21] [((bC,0),bC)] (by simp[aB])) ⟨by simp only;omega,.inl rfl,dE _,by simp only;omega,.inl rfl,dE _,by simp only;omega⟩
  rintro⟨s0,r0⟩ ⟨k1,k2,k3,k4,k5,k6,k7⟩;simp only at k1 k2 k3 k4 k5 k6 k7;have e5:i64.wrap ((mid:Int)+m - 1)=((mid+m - 1:Nat):Int):=by clear e1 e2 hw e3;rw[cL];omega
  have gX:∀ i,a<=i->i<m->∃ x,X[i - a]?=some x/\l[i]?=some x/\D x:=λi h1 h2=>by
   have W:i - a<X.length:=by omega
   refine⟨X[i - a],dO W,?_,dX _ (bU W)⟩;rw[hl,qG (by omega),show i - A.length=i - a by omega,wN W,dO W]
  have gY:∀ i,i<Y.length->∃ y,Y[i]?=some y/\l[m+i]?=some y/\D y:=λi W=>by refine⟨Y[i],dO W,?_,dY _ (bU W)⟩;rw[hl,qG (by omega),qG (by omega),show m+i - A.length - X.length=i by omega,wN W,dO W]
  simp[UF,aB];rw[e5]
  refine b6 (S:=λs:Nat × Nat=>aB [(0,.own bC 0 0 l.length),(1,f8 a),(2,f8 m),(3,f8 b),(4,.p (.fn cf [])),(18,f8 mid),(19,f8 (mid+m:Nat)),(20,f8 s.1),(21,f8 s.2),(22,f8 (mid+m - 1:Nat))] [(bC,⟨I.z,aK l⟩)])
   (I:=λs=>s0<=s.1/\s.1<=s.2/\s.2<=r0/\(s.1=s0\/∃ x y,X[s.1 - 1 - a]?=some x/\Y[mid - s.1]?=some y/\¬ key y<key x)/\(s.2=r0\/∃ x y,X[s.2 - a]?=some x/\Y[mid - 1 - s.2]?=some y/\key y<key x)) (m:=λs=>s.2 - s.1) (s0,r0)
   (aA.to [0,1,2,3,4,18,19,20,21,22] [((bC,0),bC)] (by simp[aB])) ⟨dE _,k1,dE _,.inl rfl,.inl rfl⟩ ?_
  rintro⟨i,j⟩ ⟨h1,h2,h3,h4,h5⟩ R V hr hx;simp only at h1 h2 h3 h4 h5;by_cases cv:i<j
  .have bb:(i:Int)<(j:Int):=by omega
   have br:i64.wrap (i64.wrap ((i:Int)+j) % 18446744073709551616 / 2)=(((i+j) / 2:Nat):Int):=by rw[Jk _ _ (by omega) (by omega)];omega
   have K:i<=(i+j) / 2/\(i+j) / 2<j:=by omega
   generalize (i+j) / 2=c at *
   obtain⟨x,x1,x2,x3⟩:=gX c (by omega) (by omega);obtain⟨y,y1,y2,y3⟩:=gY (mid - 1 - c) (by omega);rw[show m+(mid - 1 - c)=mid+m - 1 - c by omega]at y2;obtain⟨n,cw,bk⟩:=hD y x y3 x3;have e6:=aZ c;have e7:i64.wrap (((mid+m - 1:Nat):Int) - c)=((mid+m - 1 - c:Nat):Int):=by clear e1 e2 e3 e5 e6 br;rw[cL];omega
   simp[Lj,aB,cv,bb];rw[br,e7];simp only[kZ];refine⟨⟨by omega,by omega⟩,eD y2 ⟨⟨by omega,by omega⟩,eD x2 ?_⟩⟩;refine bA cw rfl ?_;by_cases G:n<0
   .simp[G];exact V (i,c) _ (aA.to [0,1,2,3,4,18,19,20,21,22] [((bC,0),bC)] (by simp[aB])) ⟨h1,by simp only;omega,by simp only;omega,h4,.inr ⟨x,y,x1,y1,bk.1 G⟩⟩ (by simp only;omega)
   .simp[G];exact V (c+1,j) _ (aA.to [0,1,2,3,4,18,19,20,21,22] [((bC,0),bC)] (by simp[aB,e6])) ⟨by simp only;omega,by simp only;omega,h3,.inr ⟨x,y,x1,by rw[<- y1];congr 1;simp only;omega,λh=>G (bk.2 h)⟩,h5⟩ (by simp only;omega)
  .have cu:i=j:=by omega
   subst cu;clear V hr;have bo:=Mj hX hY (u:=i - a) (v:=mid - i) (by
    obtain h|⟨x,y,q1,q2,q3⟩:=h4
    .obtain k|k:=k2
     .exact .inl (by omega)
     .exact .inr (.inl (by omega))
    .exact .inr (.inr ⟨x,y,by rw[<- q1];congr 1;omega,q2,q3⟩)) (by
    obtain h|⟨x,y,q1,q2,q3⟩:=h5
    .obtain k|k:=k5
     .exact .inl (by omega)
     .exact .inr (.inl (by omega))
    .exact .inr (.inr ⟨x,y,q1,by rw[<- q2];congr 1;omega,q3⟩))
   simp[Lj,aB];refine hx _ _ ?_;clear hx;simp[UE];have e8:i64.wrap ((mid:Int)+m - i)=((mid+m - i:Nat):Int):=by clear e1 e2 hw e3 e5;rw[cL];omega
   rw[e8];have au:X=X.take (i - a)++X.drop (i - a):=(oK _ _).symm;have aw:Y=Y.take (mid - i)++Y.drop (mid - i):=(oK _ _).symm;have ds:(X.take (i - a)).length=i - a:=by rw[fY];omega
   have dx:(X.drop (i - a)).length=m - i:=by rw[lp];omega
   have dy:(Y.take (mid - i)).length=mid - i:=by rw[fY];omega
   have cx:(Y.drop (mid - i)).length=b - (mid+m - i):=by rw[lp];omega
   have bx:=Is hX (i - a);have ca:=Ir hX (i - a);have cc:=Is hY (mid - i);have ce:=Ir hY (mid - i);have cn:∀ x∈X.take (i - a),D x:=λx h=>dX x (iC h);have co:∀ x∈X.drop (i - a),D x:=λx h=>dX x (kD h);have cp:∀ x∈Y.take (mid - i),D x:=λx h=>dY x (iC h);have cs:∀ x∈Y.drop (mid - i),D x:=λx h=>dY x (kD h);rw[bo];have J:l=A++(X.take (i - a)++(X.drop (i - a)++(Y.take (mid - i)++(Y.drop (mid - i)++B)))):=by
    rw[hl];conv=>lhs;rw[au,aw]
    simp only[sI]
   clear bo au aw hl ad gX gY h4 h5 e5 e8;generalize X.take (i - a)=r at *
   generalize X.drop (i - a)=t at *
   generalize Y.take (mid - i)=f at *
   generalize Y.drop (mid - i)=w at *
   obtain⟨en,ct⟩:∃ en,en=mid+m - i:=⟨_,rfl⟩;rw[<- ct]at cx ⊢;have ap:(A++(r++(f++(t++(w++B))))).length=l.length:=by rw[J];simp;omega
   have cm:(A++(bW key (r++f)++(t++(w++B)))).length=l.length:=by rw[J];simp[(gB _).2.1];omega
   have cy:(A++(bW key (r++f)++(bW key (t++w)++B))).length=l.length:=by rw[J];simp[(gB _).2.1];omega
   refine Np (S:=λL:List α=>aB [(0,.own bC 0 0 l.length),(1,f8 a),(3,f8 b),(4,.p (.fn cf [])),(18,f8 mid),(20,f8 i),(24,f8 en)] [(bC,⟨I.z,aK L⟩)])
    (I:=λL=>L=A++(r++(f++(t++(w++B))))) ?_ ?_
   .intro R V hr hx;have d:∀ L:List α,L=A++(r++(f++(t++(w++B))))->∀ s,aA s (aB [(0,.own bC 0 0 l.length),(1,f8 a),(3,f8 b),(4,.p (.fn cf [])),(18,f8 mid),(20,f8 i),(24,f8 en)] [(bC,⟨I.z,aK L⟩)])->R .normal s:=λL F s hs=>V L s hs F;by_cases K:i<m
    .by_cases c2:m<en
     .have af:=ZU hI E o cf (A++r) t f (w++B) l (by rw[J];simp) al (by omega) (by omega) i m en (by simp;omega) (by simp;omega) (by simp;omega);have Q:A++r++(f++(t++(w++B)))=A++(r++(f++(t++(w++B)))):=by simp
      rw[Q]at af;have d:=d _ rfl;generalize A++(r++(f++(t++(w++B))))=L2 at *
      simp[K,c2];refine qV af (by simp) rfl rfl (by simp) (by simp) (by simp[ap]) rfl (jF _ _ E) (cells_one o _) (by simp) ?_;simp;exact d _ (aA.to [0,1,3,4,18,20,24] [((bC,0),bC)] (by simp[aB]))
     .have O:f=[]:=q9 (by omega);simp[K,c2];exact d l (by rw[J,O];simp) _ (aA.to [0,1,3,4,18,20,24] [((bC,0),bC)] (by simp[aB]))
    .have M:t=[]:=q9 (by omega);simp[K];exact d l (by rw[J,M];simp) _ (aA.to [0,1,3,4,18,20,24] [((bC,0),bC)] (by simp[aB]))
   rintro L F;simp[UD,aB];have C:L.length=l.length:=by rw[F];exact ap
   have Z:L.take l.length=L:=by rw[<- C];exact kK
   refine Np (S:=λL:List α=>aB [(0,.own bC 0 0 l.length),(3,f8 b),(4,.p (.fn cf [])),(18,f8 mid),(24,f8 en)] [(bC,⟨I.z,aK L⟩)])
    (I:=λL=>L=A++(bW key (r++f)++(t++(w++B)))) ?_ ?_
   .intro R V hr hx;have d:∀ L:List α,L=A++(bW key (r++f)++(t++(w++B)))->∀ s,aA s (aB [(0,.own bC 0 0 l.length),(3,f8 b),(4,.p (.fn cf [])),(18,f8 mid),(24,f8 en)] [(bC,⟨I.z,aK L⟩)])->R .normal s:=λL F s hs=>V L s hs F;by_cases K:a<i
    .by_cases c2:i<mid
     .have H:=ih A r f (t++(w++B)) L a i mid (by omega) F (by omega) (by omega) (by omega) bx cc cn cp ha (by omega) (by omega);have d:=d _ rfl;generalize A++(bW key (r++f)++(t++(w++B)))=L2 at *
      simp[K,c2];refine qV H (by simp[C,Z]) rfl rfl (by simp) (by simp[C]) (by simp[cm]) rfl (jF _ _ E) (cells_one o _) (by simp) ?_;simp;exact d _ (aA.to [0,3,4,18,24] [((bC,0),bC)] (by simp[aB]))
     .have O:f=[]:=q9 (by omega);subst O;simp[K,c2];exact d L (by rw[F,kY,AF bx];simp) _ (aA.to [0,3,4,18,24] [((bC,0),bC)] (by simp[aB]))
    .have aq:r=[]:=q9 (by omega);subst aq;simp[K];exact d L (by rw[F];simp only[uP];rw[AF cc]) _ (aA.to [0,3,4,18,24] [((bC,0),bC)] (by simp[aB]))
   clear F C Z ap;clear L;rintro L F;have C:L.length=l.length:=by rw[F];exact cm
   have Z:L.take l.length=L:=by rw[<- C];exact kK
   have Q:A++(bW key (r++f)++bW key (t++w)++B)=A++(bW key (r++f)++(bW key (t++w)++B)):=by simp
   try rw[Q]
   by_cases K:mid<en
   .by_cases c2:en<b
    .have H:=ih (A++bW key (r++f)) t w B L mid en b (by omega) (by rw[F];simp) (by omega) (by omega) (by omega) ca ce co cs (by simp[(gB _).2.1];omega) (by omega) (by omega);have ag:A++bW key (r++f)++(bW key (t++w)++B)=A++(bW key (r++f)++(bW key (t++w)++B)):=by simp
     rw[ag]at H;generalize A++(bW key (r++f)++(bW key (t++w)++B))=L2 at *
     simp[aB,K,c2];refine qV H (by simp[C,Z]) rfl rfl (by simp) (by simp[C]) (by simp[cy]) rfl (jF _ _ E) (cells_one o _) (by simp) ?_;simp
    .have av:w=[]:=q9 (by omega);subst av;have:A++(bW key (r++f)++(bW key (t++[])++B))=L:=by rw[F,kY,AF ca];simp
     rw[this];simp[aB,K,c2]
   .have M:t=[]:=q9 (by omega);subst M;have:A++(bW key (r++f)++(bW key ([]++w)++B))=L:=by rw[F];simp only[uP];rw[AF ce]
    rw[this];simp[aB,K]
end
section
variable {α : Type} {key : α -> List Int}
def vp(key : α -> List Int)(s:Nat):Nat->List α -> List α
 | 0,_=>[]
 | n+1,l=>if l.length<=s then bW key l else bW key (l.take s)++vp key s n (l.drop s)
def ab(key : α -> List Int)(s:Nat)(l:List α):List α := vp key s l.length l
theorem S6:bW key ([]:List α)=[]:=rfl
theorem RU{s:Nat}(hs:1<=s):∀ (n m:Nat) (l:List α),l.length<=n->l.length<=m->vp key s n l=vp key s m l
 | 0,0,l,_,_=>rfl
 | 0,m+1,l,h,_=>by
  have:l=[]:=q9 (by omega);subst this;simp[vp,S6]
 | n+1,0,l,_,h=>by
  have:l=[]:=q9 (by omega);subst this;simp[vp,S6]
 | n+1,m+1,l,d,f=>by
  simp only[vp];split
  .rfl
  .rw[RU hs n m (l.drop s) (by rw[lp];omega) (by rw[lp];omega)]
theorem zec{s:Nat}{l:List α}(h:l.length<=s):ab key s l=bW key l:=by
 unfold ab;cases l with
 | nil=>rfl
 | cons x r=>simp only[List.length_cons,vp];rw[if_pos (by simpa using h)]
def Jf{s:Nat}(hs:1<=s){l:List α}(h:s<l.length):ab key s l=bW key (l.take s)++ab key s (l.drop s):=by unfold ab;obtain⟨n,d⟩:∃ n,l.length=n+1:=⟨l.length - 1,by omega⟩;rw[d];simp only[vp];rw[bD (by omega),RU hs n (l.drop s).length (l.drop s) (by rw[lp];omega) (dE _)]
def Kk{s:Nat}(hs:1<=s){l:List α}(h:s<=l.length):ab key s l=bW key (l.take s)++ab key s (l.drop s):=by
 obtain h|h:=Nat.lt_or_eq_of_le h
 .exact Jf hs h
 .rw[zec (by omega),eZ (by omega),xY (by omega)];simp[ab,vp]
theorem S7{s:Nat}(hs:1<=s):∀ (n:Nat) (l:List α),l.length<=n->(ab key s l).length=l.length/\∀ x,x∈ab key s l ↔ x∈l
 | 0,l,h=>by
  have:l=[]:=q9 (by omega);subst this;simp[ab,vp]
 | n+1,l,h=>by
  by_cases d:l.length<=s
  .rw[zec d];exact(gB l).2
  .rw[Jf hs (by omega)];obtain⟨f,i⟩:=S7 hs n (l.drop s) (by rw[lp];omega);obtain⟨_,j,k⟩:=gB (key:=key) (l.take s);refine⟨?_,λx=>?_⟩
   .have:=congrArg List.length (oK s l);rw[gQ]at this;rw[gQ,f,j];exact this
   .rw[dN,i,k,<- List.mem_append,oK]
def zH{s:Nat}(hs:1<=s)(l:List α):(ab key s l).length=l.length:=(S7 hs _ l (dE _)).1
theorem Je{s:Nat}(hs:1<=s):∀ (n:Nat) (u v:List α),u.length=n*s->ab key s (u++v)=ab key s u++ab key s v
 | 0,u,v,h=>by
  have:u=[]:=List.eq_nil_of_length_eq_zero (by simpa using h);subst this;simp[ab,vp]
 | n+1,u,v,h=>by rw[Ah]at h;rw[Kk hs (l:=u++v) (by simp;omega),Kk hs (l:=u) (by omega),De (by omega),E7 (by omega),Je hs n (u.drop s) v (by rw[lp];omega),sI]
def RW{s:Nat}(hs:1<=s){n a:Nat}{l:List α}(d:a=n*s)(h:a+s<=l.length):ab key s (l.take (a+s))=ab key s (l.take a)++bW key ((l.drop a).take s):=by
 have e:l.take (a+s)=l.take a++(l.drop a).take s:=by rw[List.take_add]
 rw[e,Je hs n _ _ (by rw[fY];omega),zec (l:=(l.drop a).take s) (by rw[fY];omega)]
def Zl{s:Nat}(hs:1<=s){l:List α}(f:s<l.length):ab key s l=bW key (l.take s)++(bW key ((l.drop s).take s)++ab key s (l.drop (2*s))):=by
 rw[Jf hs f]
 congr 1
 by_cases d:s<=(l.drop s).length
 .rw[Kk hs d,uQ,show s+s=2*s by omega]
 .rw[zec (by omega),eZ (by omega),xY (show l.length<=2*s by rw[lp]at d;omega)];simp[ab,vp]
end
section
variable {α : Type} [Enc α]
def Tp{I:SI}(hI:pK I)(ap:Enc.sz α = I.z)(av:∀ x : α,(enc x).cells.all PV.one=true){key : α -> List Int}{cf:FuncId}{D : α -> Prop}(hD:∀ x y,D x->D y->∃ n:Int,Sp P cf [enc x,enc y] (.pure (g6 n))/\(n<0 ↔ key x<key y))
  (k l S L0:List α) (w:L0=k++(l++S)) (bk:L0.length<=1000000) (dl:∀ x∈l,D x) (a b:Nat) (ha:a=k.length) (hb:b=a+l.length) :
  gO P I.ins [.sl (ens L0),g6 a,g6 b,.fn cf []] 0 I.z (ens (k++(bW key l++S))) (.pure (.bM [])):=by
 have X:∀ x : α,(enc x).sz=I.z:=λx=>by rw[Enc.ok,ap]
 have Q:(k++(bW key l++S)).length=L0.length:=by rw[w];simp[(gB l).2.1]
 have au:L0.length=k.length+l.length+S.length:=by rw[w];simp;omega
 have ad:=aZ a;refine gO.cE hI.ins (by simp) rfl (by simp[Q]) ?_;simp[Fs,ad]
 refine b6 (S:=λs:List α × Nat=>aB [(0,.own bC 0 0 L0.length),(1,f8 a),(2,f8 b),(3,.p (.fn cf [])),(8,f8 (a+s.2:Nat))] [(bC,⟨I.z,aK s.1⟩)]) (I:=λs=>1<=s.2/\s.1=k++(uD key l s.2++S)) (m:=λs=>l.length+1 - s.2) (L0,1)
  (aA.to [0,1,2,3,8] [((bC,0),bC)] (by simp[aB])) ⟨dE _,by rw[QL,w]⟩ ?_
 rintro⟨L1,i⟩ ⟨h1,o⟩ R hn hr hx;simp only at h1 o;have aq:L1.length=L0.length:=by rw[o,gQ,gQ,YH];omega
 by_cases hi:i<l.length;rotate_left
 .have bb:¬ ((a+i:Nat):Int)<(b:Int):=by omega
  have F:¬ (a:Int)+i<(b:Int):=by omega
  rw[PW (by omega)]at o;rw[<- o]at *
  simp[L6,aB,F];refine hx _ _ ?_;simp
 have e1:i64.wrap ((a:Int)+i+1)=(a:Int)+(i+1):=by rw[cL];omega
 have F:(a:Int)+i<(b:Int):=by omega
 have H:=gB (key:=key) (l.take i);have Y:(bW key (l.take i)).length=i:=by rw[H.2.1];simp;omega
 have u:∀ L2:List α,L2=k++(uD key l (i+1)++S)->∀ s,aA s (aB [(0,.own bC 0 0 L0.length),(1,f8 a),(2,f8 b),(3,.p (.fn cf [])),(8,f8 (a+(i+1):Nat))] [(bC,⟨I.z,aK L2⟩)])->R .normal s:=λL2 h2 s hs=>
  hn (L2,i+1) s hs ⟨by simp only;omega,h2⟩ (by simp only;omega)
 simp[L6,aB,F]
 refine b6 (S:=λx:List α × Nat=>aB [(0,.own bC 0 0 L0.length),(1,f8 a),(2,f8 b),(3,.p (.fn cf [])),(8,f8 (a+i:Nat)),(9,f8 (a+x.2:Nat))] [(bC,⟨I.z,aK x.1⟩)])
  (I:=λx=>∃ A B,x.1=k++(A++(l[i]::(B++(l.drop (i+1)++S))))/\x.2=A.length/\A++B=bW key (l.take i)/\∀ b∈B,key l[i]<key b) (m:=λx=>x.2) (L1,i)
  (aA.to [0,1,2,3,8,9] [((bC,0),bC)] (by simp[aB])) ⟨bW key (l.take i),[],by rw[o,PX hi];simp only[sI,xX,uP],Y.symm,by simp,by simp⟩ ?_
 rintro⟨L,j⟩ ⟨A,B,N,O,f,hB⟩ R2 ag bo Z;simp only at N O;have t:A.length+B.length=i:=by rw[<- List.length_append,f,Y]
 have aw:L.length=L0.length:=by rw[N];simp;omega
 have hm:∀ y,y∈A++B->D y:=λy K=>by rw[f,H.2.2]at K;exact dl y (iC K)
 obtain rfl|⟨d,z,rfl⟩:=B' A
 .simp at O;subst O;simp[L5,aB];refine Z _ _ ?_;simp[e1];refine u L ?_ _ (aA.to [0,1,2,3,8] [((bC,0),bC)] (by simp[aB]));rw[I0 hi,<- f,FK hB (by simp),N];simp
 .simp only[xV]at O N f t hm;simp at O t;subst O;have C:L=(k++d)++(z::l[i]::(B++(l.drop (i+1)++S))):=by rw[N];simp
  have hP:(k++d).length=a+d.length:=by simp;omega
  have M:L[a+d.length]?=some z:=by rw[C,<- hP];simp
  have J:L[a+d.length+1]?=some l[i]:=by rw[C,qG (by omega),show a+d.length+1 - (k++d).length=1 by omega];rfl
  obtain⟨n,al,U⟩:=hD l[i] z (dl _ (bU hi)) (hm z (by simp));have e3:i64.wrap ((a:Int)+(d.length+1) - 1)=(a:Int)+d.length:=by rw[cL];omega
  have t1:((a:Int)+d.length).toNat=a+d.length:=by omega
  have t2:((a:Int)+(d.length+1)).toNat=a+d.length+1:=by omega
  have af:(a:Int)<(a:Int)+(d.length+1):=by omega
  simp[L5,aB,e3,t1,t2,af];refine⟨⟨by omega,by omega,by omega⟩,eD J ⟨⟨by omega,by omega,by omega⟩,eD M ?_⟩⟩;refine bA al rfl ?_;by_cases r:n<0
  .have G:((aK L).set (a+d.length+1) (.p (enc z))).set (a+d.length) (.p (enc l[i]))=aK ((L.set (a+d.length+1) z).set (a+d.length) l[i]):=by simp[-gW,aK,ens,EX]
   have ao:(L.set (a+d.length+1) z).set (a+d.length) l[i]=k++(d++(l[i]::((z::B)++(l.drop (i+1)++S)))):=by rw[C,<- hP,Pl];simp
   have E:∀ s,aA s (aB [(0,.own bC 0 0 L0.length),(1,f8 a),(2,f8 b),(3,.p (.fn cf [])),(8,f8 (a+i:Nat)),(9,f8 (a+d.length:Nat))] [(bC,⟨I.z,aK ((L.set (a+d.length+1) z).set (a+d.length) l[i])⟩)])->R2 .normal s:=λs hs=>
    ag ((L.set (a+d.length+1) z).set (a+d.length) l[i],d.length) s hs ⟨d,z::B,ao,rfl,by rw[<- f];simp,λb hb=>by
     obtain rfl|hb:=cI.1 hb
     .exact U.1 r
     .exact hB b hb⟩ (by simp)
   simp[r,e3,t1,t2];refine⟨⟨by omega,by omega,by omega⟩,eD M ⟨⟨by omega,by omega,by omega⟩,eD J ⟨⟨by omega,by omega,by omega⟩,eD J ⟨⟨X z,I.hz⟩,⟨by omega,by omega,by omega⟩,?_⟩⟩⟩⟩;rw[lM];refine eD (x:=.p (enc z)) ?_ ?_
   .rw[vK,bD (by omega)];simp[-gW,aK,ens,M]
   rw[Fw];refine⟨⟨X _,I.hz⟩,?_⟩;rw[G];generalize (L.set (a+d.length+1) z).set (a+d.length) l[i]=L3 at *
   simp[e3];exact E _ (aA.to [0,1,2,3,8,9] [((bC,0),bC)] (by simp[aB]))
  .simp[r];refine Z _ _ ?_;simp[e1];refine u L ?_ _ (aA.to [0,1,2,3,8] [((bC,0),bC)] (by simp[aB]));have V:¬ key l[i]<key z:=λh=>r (U.2 h);rw[I0 hi,<- f,FK hB,N]
   .simp
   .intro y K;simp only[dN,iT]at K;obtain K|rfl:=K
    .intro hk;have W:=H.1;rw[<- f]at W;have:=(tY.1 (tY.1 W).1).2.2 y K z (by simp);exact V (Ep hk this)
    .exact V
end
section
variable {α : Type} [Enc α]
def z31{I:SI}(Z:pK I)(w:Enc.sz α = I.z)(k:∀ x : α,(enc x).cells.all PV.one=true){key : α -> List Int}{cf:FuncId}{D : α -> Prop}(hD:∀ x y,D x->D y->∃ n:Int,Sp P cf [enc x,enc y] (.pure (g6 n))/\(n<0 ↔ key x<key y))
  (l:List α) (ao:l.length<=1000000) (dl:∀ x∈l,D x) :
  gO P I.st [.sl (ens l),g6 l.length,.fn cf []] 0 I.z (ens (bW key l)) (.pure (.bM [])):=by
 refine gO.cE Z.st (by simp) rfl (by simp[(gB l).2.1]) ?_;have r:(1:Nat)<=20:=by omega
 simp[GB]
 refine b6 (S:=λs:List α × Nat=>aB [(0,.own bC 0 0 l.length),(1,f8 l.length),(2,.p (.fn cf [])),(6,f8 20),(7,f8 (20*s.2:Nat)),(8,f8 (20*s.2+20:Nat))] [(bC,⟨I.z,aK s.1⟩)])
  (I:=λs=>20*s.2<=l.length/\s.1=ab key 20 (l.take (20*s.2))++l.drop (20*s.2)) (m:=λs=>l.length - 20*s.2) (l,0)
  (aA.to [0,1,2,6,7,8] [((bC,0),bC)] (by simp[aB])) ⟨by simp,by simp[ab,vp]⟩ ?_
 rintro⟨L,n⟩ ⟨J,t⟩ R hn hr Y;simp only at J t;have i:L.length=l.length:=by rw[t,gQ,zH r,<- List.length_append,oK]
 have E:L.take l.length=L:=by rw[<- i];exact kK
 have U:(ab key 20 (l.take (20*n))).length=20*n:=by rw[zH r,fY];omega
 by_cases H:20*n+20<=l.length
 .have j:(20*(n:Int)+20)<=(l.length:Int):=by omega
  have hs:L=ab key 20 (l.take (20*n))++((l.drop (20*n)).take 20++(l.drop (20*n)).drop 20):=by rw[oK];exact t
  have tl:((l.drop (20*n)).take 20).length=20:=by rw[fY,lp];omega
  have o:=Tp Z w k hD (ab key 20 (l.take (20*n))) ((l.drop (20*n)).take 20) ((l.drop (20*n)).drop 20) L hs (by omega) (λx h=>dl x (kD (iC h))) (20*n) (20*n+20) U.symm (by omega);have f:ab key 20 (l.take (20*n))++(bW key ((l.drop (20*n)).take 20)++(l.drop (20*n)).drop 20)=ab key 20 (l.take (20*(n+1)))++l.drop (20*(n+1)):=by rw[show 20*(n+1)=20*n+20 by omega,RW r (n:=n) (a:=20*n) (by omega) H,uQ];simp
  rw[f]at o;have u:(ab key 20 (l.take (20*(n+1)))++l.drop (20*(n+1))).length=l.length:=by rw[gQ,zH r,<- List.length_append,oK]
  have d:∀ s,aA s (aB [(0,.own bC 0 0 l.length),(1,f8 l.length),(2,.p (.fn cf [])),(6,f8 20),(7,f8 (20*(n+1):Nat)),(8,f8 (20*(n+1)+20:Nat))] [(bC,⟨I.z,aK (ab key 20 (l.take (20*(n+1)))++l.drop (20*(n+1)))⟩)])->R .normal s:=λs hs=>
   hn (_,n+1) s hs ⟨by simp only;omega,rfl⟩ (by simp only;omega)
  generalize ab key 20 (l.take (20*(n+1)))++l.drop (20*(n+1))=F at *
  have e1:i64.wrap (20*(n:Int)+20+20)=20*((n:Int)+1)+20:=by rw[cL];omega
  simp[Lk,aB,j];refine qV o (by simp[i,E]) rfl rfl (by simp) (by simp[i]) (by simp[u]) rfl (jF _ _ w) (cells_one k _) (by simp) ?_;simp[e1];exact d _ (aA.to [0,1,2,6,7,8] [((bC,0),bC)] (by simp[aB];omega))
 .have j:¬ (20*(n:Int)+20)<=(l.length:Int):=by omega
  clear hn hr;have o:=Tp Z w k hD (ab key 20 (l.take (20*n))) (l.drop (20*n)) [] L (by rw[t];simp) (by omega) (λx h=>dl x (kD h)) (20*n) l.length U.symm (by rw[lp];omega);have f:ab key 20 (l.take (20*n))++(bW key (l.drop (20*n))++[])=ab key 20 l:=by have:=Je (key:=key) r n (l.take (20*n)) (l.drop (20*n)) (by rw[fY];omega);rw[oK]at this;rw[this,kY,zec (l:=l.drop (20*n)) (by rw[lp];omega)]
  rw[f]at o;have u:(ab key 20 l).length=l.length:=zH r l;simp[Lk,aB,j];refine Y _ _ ?_;clear Y;simp;refine qV o (by simp[i,E]) rfl rfl (by simp) (by simp[i]) (by simp[u]) rfl (jF _ _ w) (cells_one k _) (by simp) ?_;simp
  refine b6 (S:=λs:List α × Nat=>aB [(0,.own bC 0 0 l.length),(1,f8 l.length),(2,.p (.fn cf [])),(6,f8 s.2)] [(bC,⟨I.z,aK s.1⟩)])
   (I:=λs=>1<=s.2/\s.2<=4000000/\s.1=ab key s.2 l) (m:=λs=>l.length - s.2) (ab key 20 l,20)
   (aA.to [0,1,2,6] [((bC,0),bC)] (by simp[aB])) ⟨by simp,by simp,rfl⟩ ?_
  clear o f u U i E t H j J;clear L n;rintro⟨L,s⟩ ⟨J,h2,t⟩ R hn hr Y;simp only at J h2 t;have i:L.length=l.length:=by rw[t,zH J]
  by_cases H:s<l.length;rotate_left
  .rw[zec (by omega)]at t;have j:¬ (s:Int)<(l.length:Int):=by omega
   simp[Lm,aB,H,j];refine Y _ _ ?_;simp[t]
  have j:(s:Int)<(l.length:Int):=by omega
  have e2:i64.wrap (2*(s:Int))=2*(s:Int):=cT;have e3:i64.wrap ((s:Int)*2)=2*(s:Int):=by rw[cL];omega
  simp[Lm,aB,H,j,e2];have C:1<=2*s:=by omega
  have B:∀ (m:List α),(∀ x∈m,x∈l)->∀ x∈bW key m,D x:=λm h x Y=>dl x (h x (((gB m).2.2 x).1 Y))
  refine b6 (S:=λx:List α × Nat=>aB [(0,.own bC 0 0 l.length),(1,f8 l.length),(2,.p (.fn cf [])),(6,f8 s),(7,f8 (2*s*x.2:Nat)),(8,f8 (2*s*x.2+2*s:Nat))] [(bC,⟨I.z,aK x.1⟩)])
   (I:=λx=>2*s*x.2<=l.length/\x.1=ab key (2*s) (l.take (2*s*x.2))++ab key s (l.drop (2*s*x.2))) (m:=λx=>l.length - 2*s*x.2) (L,0)
   (aA.to [0,1,2,6,7,8] [((bC,0),bC)] (by simp[aB])) ⟨by simp,by simp[t,ab,vp]⟩ ?_
  clear i t;rintro⟨L,n⟩ ⟨g1,t⟩ R2 ad ap al;simp only at g1 t;have af:(2*s*n:Nat)=n*(2*s):=oI _ _;have ag:2*s*(n+1)=2*s*n+2*s:=Nat.mul_succ _ _;have d:∀ F:List α,2*s*n+2*s<=l.length->F=ab key (2*s) (l.take (2*s*n+2*s))++ab key s (l.drop (2*s*n+2*s))->∀ N,aA N (aB [(0,.own bC 0 0 l.length),(1,f8 l.length),(2,.p (.fn cf [])),(6,f8 s),(7,f8 (2*s*n+2*s:Nat)),(8,f8 (2*s*n+2*s+2*s:Nat))] [(bC,⟨I.z,aK F⟩)])->R2 .normal N:=λF q1 q2 N M=>by rw[<- ag]at q1 q2 M;exact ad (F,n+1) N M ⟨q1,q2⟩ (by simp only;omega)
  clear ag ad;have G:=Je (key:=key) C n (l.take (2*s*n)) (l.drop (2*s*n)) (by rw[fY];omega);rw[oK]at G;have A:=λh=>RW (key:=key) C (n:=n) (a:=2*s*n) (l:=l) af h;clear af;have W:((2*s*n:Nat):Int)=2*(s:Int)*n:=by push_cast;rfl
  generalize 2*s*n=a at *
  have lA:(ab key (2*s) (l.take a)).length=a:=by rw[zH C,fY];omega
  have i:L.length=l.length:=by rw[t,gQ,lA,zH J,lp];omega
  have E:L.take l.length=L:=by rw[<- i];exact kK
  have tl:((l.drop a).take s).length=min s (l.length - a):=by rw[fY,lp]
  by_cases hc:a+2*s<=l.length
  .have V:(a:Int)+2*s<=(l.length:Int):=by omega
   have Q:=Zl (key:=key) J (l:=l.drop a) (by rw[lp];omega);have lX:(bW key ((l.drop a).take s)).length=s:=by rw[(gB _).2.1,tl];omega
   have lY:(bW key (((l.drop a).drop s).take s)).length=s:=by rw[(gB _).2.1,fY,lp,lp];omega
   have o:=Nn Z w k hD (2*s) (ab key (2*s) (l.take a)) (bW key ((l.drop a).take s)) (bW key (((l.drop a).drop s).take s)) (ab key s ((l.drop a).drop (2*s))) L a (a+s) (a+2*s) (by omega) (by rw[t,Q]) (by omega) (by omega) (by omega) (gB _).1 (gB _).1
    (B _ λx h=>kD (iC h)) (B _ λx h=>kD (kD (iC h))) lA.symm (by omega) (by omega)
   have f:ab key (2*s) (l.take a)++(bW key (bW key ((l.drop a).take s)++bW key (((l.drop a).drop s).take s))++ab key s ((l.drop a).drop (2*s)))=ab key (2*s) (l.take (a+2*s))++ab key s (l.drop (a+2*s)):=by rw[S5,<- List.take_add,show s+s=2*s by omega,A hc,uQ];simp
   rw[f]at o;have u:(ab key (2*s) (l.take (a+2*s))++ab key s (l.drop (a+2*s))).length=l.length:=by rw[gQ,zH C,zH J,<- List.length_append,oK]
   have d:=d _ hc rfl;clear f Q A G;generalize ab key (2*s) (l.take (a+2*s))++ab key s (l.drop (a+2*s))=F at *
   have e4:i64.wrap ((a:Int)+s)=((a+s:Nat):Int):=cT;have e5:i64.wrap ((a:Int)+2*s+2*s)=((a+2*s+2*s:Nat):Int):=by rw[cL];omega
   simp[Ll,aB,V,e4,e2];refine qV o (by simp[i,E]) rfl rfl (by simp) (by simp[i]) (by simp[u]) rfl (jF _ _ w) (cells_one k _) (by simp) ?_;simp[e2,e5];exact d _ (aA.to [0,1,2,6,7,8] [((bC,0),bC)] (by simp[aB]))
  .have V:¬ (a:Int)+2*s<=(l.length:Int):=by omega
   have e4:i64.wrap ((a:Int)+s)=((a+s:Nat):Int):=cT;clear d A W;have d:∀ F:List α,F=ab key (2*s) l->∀ N,aA N (aB [(0,.own bC 0 0 l.length),(1,f8 l.length),(2,.p (.fn cf [])),(6,f8 (2*s:Nat))] [(bC,⟨I.z,aK F⟩)])->R .normal N:=λF q2 N M=>hn (F,2*s) N M ⟨C,by simp only;omega,q2⟩ (by simp only;omega);simp[Ll,aB,V];refine al _ _ ?_;clear al;by_cases hm:a+s<l.length
   .have X:(a:Int)+s<(l.length:Int):=by omega
    have O:=Jf (key:=key) J (l:=l.drop a) (by rw[lp];omega);have K:ab key s ((l.drop a).drop s)=bW key ((l.drop a).drop s):=zec (by rw[lp,lp];omega);have lX:(bW key ((l.drop a).take s)).length=s:=by rw[(gB _).2.1,tl];omega
    have lY:(bW key ((l.drop a).drop s)).length=l.length - a - s:=by rw[(gB _).2.1,lp,lp]
    have o:=Nn Z w k hD (2*s) (ab key (2*s) (l.take a)) (bW key ((l.drop a).take s)) (bW key ((l.drop a).drop s)) [] L a (a+s) l.length (by omega) (by rw[t,O,K];simp) (by omega) (by omega) (by omega) (gB _).1 (gB _).1
     (B _ λx h=>kD (iC h)) (B _ λx h=>kD (kD h)) lA.symm (by omega) (by omega)
    have f:ab key (2*s) (l.take a)++(bW key (bW key ((l.drop a).take s)++bW key ((l.drop a).drop s))++[])=ab key (2*s) l:=by rw[S5,oK,G,zec (s:=2*s) (l:=l.drop a) (by rw[lp];omega),kY]
    rw[f]at o;have u:(ab key (2*s) l).length=l.length:=zH C l;have d:=d _ rfl;clear f O K G;simp[e4,X];refine qV o (by simp[i,E]) rfl rfl (by simp) (by simp[i]) (by simp[u]) rfl (jF _ _ w) (cells_one k _) (by simp) ?_;simp[e3];exact d _ (aA.to [0,1,2,6] [((bC,0),bC)] (by simp[aB]))
   .have X:¬ (a:Int)+s<(l.length:Int):=by omega
    have K:ab key s (l.drop a)=bW key (l.drop a):=zec (by rw[lp];omega);have d:=d L (by rw[t,K,G,zec (s:=2*s) (l:=l.drop a) (by rw[lp];omega)]);simp[e4,X,e3];exact d _ (aA.to [0,1,2,6] [((bC,0),bC)] (by simp[aB]))
def LP{I:SI}(i:pK I)(f:Enc.sz α = I.z)(d:∀ x : α,(enc x).cells.all PV.one=true){key : α -> List Int}{cf:FuncId}{D : α -> Prop}(k:∀ x y,D x->D y->∃ n:Int,Sp P cf [enc x,enc y] (.pure (g6 n))/\(n<0 ↔ key x<key y))
  (l:List α) (h:l.length<=1000000) (j:∀ x∈l,D x):gO P I.so [.sl (ens l),.fn cf []] 0 I.z (ens (bW key l)) (.pure (.bM [])):=by
 refine gO.cE i.so (by simp) rfl (by simp[(gB l).2.1]) ?_;simp[GA];refine qV (z31 i f d k l h j) (by simp) rfl rfl (by simp) (by simp) (by simp[(gB l).2.1]) rfl (jF _ _ f) (cells_one d _) (by simp) ?_;simp
end
end Go.Ab
namespace Go.Ab
open Go.Proofs
open Enc (enc)
abbrev nv:SI:=⟨12,by decide,262,192,162,161,121,72⟩
def c.yp:aP P nv.sw=some ⟨38,5,(GD nv).er,[]⟩:=by kernel_rfl
def c.yq:aP P nv.ro=some ⟨58,5,(Gz nv).er,[]⟩:=by kernel_rfl
def c.yr:aP P nv.sm=some ⟨220,5,(Dz nv).er,[]⟩:=by kernel_rfl
def c.yt:aP P nv.ins=some ⟨53,4,(Fs nv).er,[]⟩:=by kernel_rfl
def c.yu:aP P nv.st=some ⟨63,3,(GB nv).er,[]⟩:=by kernel_rfl
def c.yw:aP P nv.so=some ⟨9,2,(GA nv).er,[]⟩:=by kernel_rfl
def yeo:pK nv:=⟨c.yp,c.yq,c.yr,c.yt,c.yu,c.yw⟩
section
variable {α : Type} [Enc α]
def Wb(h:Enc.sz α = 12)(d:∀ x : α,(enc x).cells.all PV.one=true){key : α -> List Int}{cf:FuncId}{D : α -> Prop}(j:∀ x y,D x->D y->∃ n:Int,Sp P cf [enc x,enc y] (.pure (g6 n))/\(n<0 ↔ key x<key y))
  (l:List α) (f:l.length<=1000000) (i:∀ x∈l,D x):gO P 72 [.sl (ens l),.fn cf []] 0 12 (ens (bW key l)) (.pure (.bM [])):=LP yeo h d j l f i
end
end Go.Ab
namespace Go.Ab
open IntKind (i64)
section
variable {α : Type} {key : α -> List Int} {up : α -> α -> α} {nw : α -> α}
theorem Py(x : α):∀ s:List α,(eJ key s x).Perm (x::s)
 | []=>.refl _
 | z::r=>by
  unfold eJ;split
  .exact .refl _
  .exact(List.Perm.cons z (Py x r)).trans (List.Perm.swap x z r)
def F6(l:List α):(bW key l).Perm l:=by
 have:∀ (l d:List α),(l.foldl (eJ key) d).Perm (d++l):=by
  intro l
  induction l with
  | nil=>intro d;simp
  | cons x l f =>
   intro d;refine(f _).trans ?_;refine(List.Perm.append_right l (Py x d)).trans ?_;exact(List.perm_middle (l₁ := d) (l₂ := l) (a:=x)).symm
 have h:=this l [];rw[uP]at h;exact h
theorem OY:∀ {d:List α} {x y : α},x∈gS key up nw d y->x∈d\/x=nw y\/∃ z∈d,key z=key y/\x=up z y
 | [],x,y,h=>by simp[gS]at h;exact .inr (.inl h)
 | [z],x,y,h=>by
  simp only[gS]at h;split at h
  .rename_i f;simp at h;exact .inr (.inr ⟨z,by simp,f,h⟩)
  .simp at h;obtain h|h:=h
   .exact .inl (by simp[h])
   .exact .inr (.inl h)
 | z::w::r,x,y,h=>by
  rw[D0 z y (by simp)]at h;obtain h|h:=cI.1 h
  .exact .inl (by simp[h])
  .obtain h|h|⟨u,h,e⟩:=OY h
   .exact .inl (tX _ h)
   .exact .inr (.inl h)
   .exact .inr (.inr ⟨u,tX _ h,e⟩)
theorem Pw:∀ {d:List α} {x y : α},x∈eX key up nw d y->x∈d\/x=nw y\/∃ z∈d,key z=key y/\x=up z y
 | [],x,y,h=>by simp[eX]at h;exact .inr (.inl h)
 | z::r,x,y,h=>by
  simp only[eX]at h;split at h
  .obtain h|h:=cI.1 h
   .exact .inl (by simp[h])
   .obtain h|h|⟨u,h,e⟩:=Pw h
    .exact .inl (tX _ h)
    .exact .inr (.inl h)
    .exact .inr (.inr ⟨u,tX _ h,e⟩)
  .split at h
   .rename_i f;obtain h|h:=cI.1 h
    .exact .inr (.inr ⟨z,by simp,f,h⟩)
    .exact .inl (tX _ h)
   .obtain h|h:=cI.1 h
    .exact .inr (.inl h)
    .exact .inl h
def kc(key : α -> List Int)(l:List α)(q:List Int):Nat:=l.countP λx=>decide (key x=q)
def Sa{l:List α}{k:Nat}(h:k<l.length)(q:List Int):kc key (l.take (k+1)) q=kc key (l.take k) q+if key l[k]=q then 1 else 0:=by
 unfold kc;rw[ed h,List.countP_append]
 congr 1
 by_cases d:key l[k]=q<;>simp[d]
def HT(l:List α)(k:Nat)(q:List Int):kc key (l.take k) q<=kc key l q:=List.Sublist.countP_le (Js k l)
def FL{l r:List α}(h:l.Perm r)(q:List Int):kc key l q=kc key r q:=h.countP_eq _
variable (uv:∀ a b,key (up a b)=key a) (rY:∀ a,key (nw a)=key a)
include uv rY
theorem KW{Q:Nat -> α -> Prop}(i:∀ {c d:Nat} {x : α},Q c x->c<=d->Q d x){l:List α}(hn:∀ x∈l,Q 0 (nw x))(hu:∀ c z,∀ x∈l,key z=key x->Q c z->Q (c+1) (up z x)) :
  ∀ k,k<=l.length->∀ x∈eU key up nw (l.take k),Q (kc key (l.take k) (key x)) x
 | 0,_=>by simp[eU]
 | k+1,h=>by
  have f:k<l.length:=by omega
  have j:=KW (Q:=Q) i hn hu k (Bd f);rw[EI f];intro x m;rw[Sa f];obtain h|h|⟨z,h,e,rfl⟩:=OY m
  .exact i (j x h) (by omega)
  .rw[h];exact i (hn _ (bU f)) (by omega)
  .rw[uv,aX e.symm];exact hu _ _ _ (bU f) e (j z h)
theorem KD{Q:Nat -> α -> Prop}(i:∀ {c d:Nat} {x : α},Q c x->c<=d->Q d x){l:List α}(hn:∀ x∈l,Q 0 (nw x))(hu:∀ c z,∀ x∈l,key z=key x->Q c z->Q (c+1) (up z x)) :
  ∀ k,k<=l.length->∀ x∈nZ key up nw (l.take k),Q (kc key (l.take k) (key x)) x
 | 0,_=>by simp[nZ]
 | k+1,h=>by
  have f:k<l.length:=by omega
  have j:=KD (Q:=Q) i hn hu k (Bd f);rw[Gt f];intro x m;rw[Sa f];obtain h|h|⟨z,h,e,rfl⟩:=Pw m
  .exact i (j x h) (by omega)
  .rw[h];exact i (hn _ (bU f)) (by omega)
  .rw[uv,aX e.symm];exact hu _ _ _ (bU f) e (j z h)
theorem KE(l:List α):∀ k,k<=l.length->(nZ key up nw (l.take k)).length<=k
 | 0,_=>by simp[nZ]
 | k+1,h=>by rw[Gt (by omega)];have:=Rh (key:=key) (up:=up) (nw:=nw) (nZ key up nw (l.take k)) (l[k]'(by omega));have:=KE l k (by omega);omega
theorem FE(l:List α):∀ k,k<=l.length->(eU key up nw (l.take k)).length<=k
 | 0,_=>by simp[eU]
 | k+1,h=>by rw[EI (by omega)];have:=MC (key:=key) (up:=up) (nw:=nw) (eU key up nw (l.take k)) (l[k]'(by omega));have:=FE l k (by omega);omega
end
open Enc (enc)
def qD:List Int->List GW->List GW->List GW
 | k::d,v::f,w::h=>iB k v w::qD d f h
 | _,_,_=>[]
def aC.times(r:aC)(v w:GW):GW:=if r.kind=6 then .mk dP 0 false 0 [] (qD r.parts v.parts w.parts)else iB r.kind v w
theorem Gp:∀ {ks:List Int} {vs ws:List GW},vs.length=ks.length->ws.length=ks.length->(qD ks vs ws).length=ks.length
 | [],vs,ws,_,_=>by simp[qD]
 | k::ks,[],ws,h,_=>by simp at h
 | k::ks,v::vs,[],_,h=>by simp at h
 | k::ks,v::vs,w::ws,d,f=>by simp[qD,Gp (ks:=ks) (vs:=vs) (ws:=ws) (by simpa using d) (by simpa using f)]
theorem Gn:∀ {ks:List Int} {vs ws:List GW} {i:Nat} (h:i<ks.length) (d:i<vs.length) (f:i<ws.length) (j:i<(qD ks vs ws).length),(qD ks vs ws)[i]=iB ks[i] vs[i] ws[i]
 | k::ks,v::vs,w::ws,0,_,_,_,_=>by simp[qD]
 | k::ks,v::vs,w::ws,i+1,h,d,f,j=>by simp only[qD,List.getElem_cons_succ];exact Gn (by simpa using h) (by simpa using d) (by simpa using f) (by simpa[qD]using j)
def WH(r:aC)(v w:GW)(J:v.sm 1048576)(K:w.sm 1048576)(u:v.aJ r)(B:w.aJ r)(l:r.kind=6)
  (j:∀ i (h:i<r.parts.length) (F:i<v.parts.length) (U:i<w.parts.length),zS 32 [enc (⟨r.parts[i],[]⟩:aC),enc v.parts[i],enc w.parts[i]] (enc (iB r.parts[i] v.parts[i] w.parts[i]))) :
  zS 32 [enc r,enc v,enc w] (enc (r.times v w)):=by
 have t:=u.1;have G:=aC.bQ t l;have O:v.tk r=v:=aX u;have Q:w.tk r=w:=aX B;have C:=lQ r v (J.mono (by omega));have D:=lQ r w (K.mono (by omega));rw[O]at C;rw[Q]at D;have M:=(u.2.2 l).1;have N:=(B.2.2 l).1;have W:(qD r.parts v.parts w.parts).length=r.parts.length:=Gp M N;refine Sp.vz c.aa λ_=>?_;simp[g.aa];refine bA (oG r) rfl ?_;simp[t];refine aW C ?_;simp;refine aW D ?_;simp[l]
 refine b6 (S:=λk:Nat=>aB [(3,i0 1),(4,i0 2),(5,i0 3),(6,i0 4),(7,i0 5),(8,f8 k)]
   [(1,⟨2,[.p (enc r)]⟩),(2,⟨8,[.p (enc v)]⟩),(3,⟨8,[.p (enc w)]⟩),(4,⟨8,[.agg [i4 false,.nil,.nil,f8 0,i4 false,.p (.int .u64 0),.nil,.nil]]⟩),
    (5,⟨8,[.agg [i4 false,.nil,.nil,f8 0,i4 false,.p (.int .u64 0),.nil,.own 6 0 0 k]]⟩),(6,⟨8,aK ((qD r.parts v.parts w.parts).take k)⟩)])
  (I:=λk=>k<=r.parts.length) (m:=λk=>r.parts.length - k) 0
  ((aA.b5 (s0:=7) (g0:=0) (i:=7) (s:=77) (sz:=8) rfl).trans (aA.to [3,4,5,6,7,8] [((3,0),1),((4,0),2),((5,0),3),((6,0),4),((7,0),5),((77,0),6)] (by simp[l]))) (by omega) ?_
 rintro k F R y V L;have E:=aZ k;simp[g.ux,aB];refine⟨λn=>?_,λn=>L _ _ ?_⟩
 .have d:k<v.parts.length:=by omega
  have f:k<w.parts.length:=by omega
  have H:=G.2.2 _ (bU n);refine bA (FZ r k n) rfl ?_;simp;refine bK d ?_
  try simp
  refine bK f ?_
  try simp
  refine aW (j k n d f) ?_;have o:k<(qD r.parts v.parts w.parts).length:=by omega
  have A:aK ((qD r.parts v.parts w.parts).take (k+1))=aK ((qD r.parts v.parts w.parts).take k)++[.p (enc (iB r.parts[k] v.parts[k] w.parts[k]))]:=by rw[ed o,sR,Gn n d f o];rfl
  simp[E];exact⟨⟨by omega,by omega⟩,y (k+1) _ (aA.to [3,4,5,6,7,8] [((1,0),1),((2,0),2),((3,0),3),((4,0),4),((5,0),5),((94,0),6)] (by simp[A])) (by omega) (by omega)⟩
 .have x:k=(qD r.parts v.parts w.parts).length:=by omega
  have z:r.times v w=.mk dP 0 false 0 [] (qD r.parts v.parts w.parts):=by simp[aC.times,l]
  rw[z];subst x;simp
def mD(n:Nat):Nat:=6^n
def mB(n:Nat):Nat:=6291456^n
def TU(n:Nat):mD n≠0:=GO.1 (qZ (by omega))
def qm(n:Nat)(q:Rat):Prop:=qb (mD n) (mB n) q
def SH{m n:Nat}{q:Rat}(h:qm m q)(k:m<=n):qm n q:=by obtain⟨j,rfl⟩:=Nat.le.dest k;have d:=zip (6^j) (GO.1 (qZ (by omega))) h;unfold qm mD mB;rw[rN,rN];exact BL d (Aa _ (Nq (by omega) j))
def CL(n:Nat):qm n 0:=BL (HZ _) (vI _)
structure GW.Ar (n:Nat) (w:GW):Prop where
 q:qm n w.q.v
 p:∀ e,qm n (pc w.aR e)
structure GW.mb (n:Nat) (w:GW):Prop where
 o:w.Ar n
 ps:∀ x∈w.parts,x.Ar n
def GW.Ar.mono{m n:Nat}{w:GW}(h:w.Ar m)(k:m<=n):w.Ar n:=⟨SH h.q k,λe=>SH (h.p e) k⟩
def GW.mb.mono{m n:Nat}{w:GW}(h:w.mb m)(k:m<=n):w.mb n:=⟨h.o.mono k,λx d=>(h.ps x d).mono k⟩
def KR(n c i s):(GW.mk dP c i s [] []).Ar n:=⟨by show qm n dP.v;rw[tJ];exact CL n,λe=>CL n⟩
def Tf(n c i s ps):(GW.mk dP c i s [] ps).Ar n:=⟨by show qm n dP.v;rw[tJ];exact CL n,λe=>CL n⟩
def V8{p q:Rat}(f:0<=p)(h:p<=1)(j:0<=q)(i:q<=1):p*q<=1:=by have d:p*q<=p*1:=Rat.mul_le_mul_of_nonneg_left i f;rw[Rat.mul_one]at d;exact Rat.le_trans d h
def Mk{k:Int}(C:1<=k/\k<=5){v w:GW}(i:v.si k)(j:w.si k):(iB k v w).si k:=by
 have:k=1\/k=2\/k=3\/k=4\/k=5:=by omega
 obtain rfl|rfl|rfl|rfl|rfl:=this
 .rw[xZ];exact⟨rfl,rfl,rfl,rfl,rfl,vD _⟩
 .obtain⟨l,m,n,o,p,r,d⟩:=pY.1 i;obtain⟨t,u,x,y,z,A,f⟩:=pY.1 j;unfold iB;rw[bD (by omega),aX rfl];split
  .rw[pY];exact⟨rfl,rfl,rfl,rfl,Int.le_refl 0,by show(0:Int)<=1099511627776;omega,λ_=>rfl⟩
  .rename_i h;rw[pY];exact⟨rfl,rfl,rfl,rfl,by show 0<=v.cost+w.cost;omega,by show v.cost+w.cost<=1099511627776;omega,λh=>by cases h⟩
 .obtain⟨l,m,n,o,p,r,d,s⟩:=wP.1 i;obtain⟨t,u,x,y,z,A,f,B⟩:=wP.1 j;rw[wP];refine⟨rfl,rfl,rfl,rfl,rfl,vD _,?_,?_⟩
  .show 0<=(cR (v.q.v*w.q.v)).v;rw[kW];exact Rat.mul_nonneg d f
  .show(cR (v.q.v*w.q.v)).v<=1;rw[kW];exact V8 d s f B
 .rw[Bf];exact⟨rfl,rfl,rfl,rfl,rfl⟩
 .rw[Aq];exact⟨rfl,rfl,rfl,rfl,rfl,AX _ _⟩
def Eu{r:aC}{v w:GW}(f:v.aJ r)(j:w.aJ r):(r.times v w).aJ r:=by
 by_cases d:r.kind=6
 .have m:=aC.bQ f.1 d;have n:=(f.2.2 d).1;have o:=(j.2.2 d).1;refine⟨f.1,λh=>absurd d h,λ_=>?_⟩;have e:r.times v w=.mk dP 0 false 0 [] (qD r.parts v.parts w.parts):=by simp[aC.times,d]
  rw[e];refine⟨Gp n o,rfl,λi h k=>?_⟩;simp only[GW.c8]at k ⊢;rw[Gn h (by omega) (by omega) k];exact Mk (m.2.2 _ (bU h)) ((f.2.2 d).2.2 i h (by omega)) ((j.2.2 d).2.2 i h (by omega))
 .have l:=aC.cJ f.1 d;have e:r.times v w=iB r.kind v w:=by simp[aC.times,d]
  rw[e];exact⟨f.1,λ_=>Mk ⟨l.1,l.2.1⟩ (f.2.1 d) (j.2.1 d),λh=>absurd h d⟩
def pI:Nat:=2^100
def yc4:0<pI:=qZ (by omega)
def RT:pI<4294967296^4:=by unfold pI;decide +kernel
structure LB (E H s:Nat):Prop where
 e:0<E
 h:pI*E<=H
 el:E<4294967296^s
 hl:H<4294967296^(s+8)
 s:s<=8000
def qL(E H n:Nat)(q:Rat):Prop:=∃ B,qb (E^(n / 100)) B q/\46656*B<=H^(n / 100)*2^(n % 100)
section
variable {E H s:Nat} (L:LB E H s)
include L in
theorem LB.ya(n:Nat):E^n≠0:=GO.1 (qZ L.e)
include L in
theorem NM:∀ (c k a B:Nat) {q:Rat},k<100*c+100->qb (E^a) B q->46656*B<=H^a*2^k->qL E H (100*a+k) q
 | 0,k,a,B,q,hk,d,f=>by
  have b:(100*a+k) / 100=a:=by omega
  have j:(100*a+k) % 100=k:=by omega
  exact⟨B,by rw[b];exact d,by rw[b,j];exact f⟩
 | c+1,k,a,B,q,hk,d,f=>by
  by_cases m:k<100
  .exact NM 0 k a B (by omega) d f
  .have i:=zip E (GO.1 L.e) d;rw[<- Nat.pow_succ]at i;have l:46656*(B*E)<=H^(a+1)*2^(k - 100):=by
    have b:2^k=2^(k - 100)*pI:=by unfold pI;rw[<- Nat.pow_add];congr 1;omega
    calc 46656*(B*E)=46656*B*E:=by rw[pX]
     _<=H^a*2^k*E:=jU _ f
     _=H^a*2^(k - 100)*(pI*E):=by rw[b];simp only[pX]
     _<=H^a*2^(k - 100)*H:=Aa _ L.h
     _=H^(a+1)*2^(k - 100):=by rw[kJ];ac_rfl
   have:=NM c (k - 100) (a+1) (B*E) (by omega) i l;have e:100*(a+1)+(k - 100)=100*a+k:=by omega
   rwa[e]at this
include L in
theorem JT(k a B:Nat){q:Rat}(b:qb (E^a) B q)(d:46656*B<=H^a*2^k):qL E H (100*a+k) q:=NM L k k a B (by omega) b d
include L in
theorem HR{m n:Nat}{q:Rat}(h:qL E H m q)(k:m<=n):qL E H n q:=by
 obtain⟨B,a,b⟩:=h;obtain⟨j,rfl⟩:=Nat.le.dest k;have:=JT L (m % 100+j) (m / 100) B a (dM b (Aa _ (pV (by omega) (by omega))));have e:100*(m / 100)+(m % 100+j)=m+j:=by omega
 rwa[e]at this
def AL(n:Nat):qL E H n 0:=⟨0,HZ _,by omega⟩
include L in
theorem Um{m:Nat}{p q:Rat}(h:qL E H m p)(d:qL E H m q):qL E H (m+1) (p+q):=by
 obtain⟨B,f,j⟩:=h;obtain⟨b,a,i⟩:=d;have:=JT L (m % 100+1) (m / 100) (B+b) (Hw f a (L.ya _)) (by rw[kJ,<- Nat.mul_assoc];omega);have e:100*(m / 100)+(m % 100+1)=m+1:=by omega
 rwa[e]at this
def Mb{A B C D:Nat}(a:46656*A<=C)(b:46656*B<=D):46656*(46656*(A*B))<=C*D:=by
 have:=mT a b;have e:46656*A*(46656*B)=46656*(46656*(A*B)):=by ac_rfl
 omega
include L in
theorem Un{m n B:Nat}{q:Rat}(a:qb (E^(m / 100)*E^(n / 100)) B q)(b:46656*B<=H^(m / 100)*2^(m % 100)*(H^(n / 100)*2^(n % 100))):qL E H (m+n) q:=by
 rw[<- Nat.pow_add]at a;have:=JT L (m % 100+n % 100) (m / 100+n / 100) B a (by
  refine dM b (Ba ?_);rw[rN,rN];ac_rfl)
 have e:100*(m / 100+n / 100)+(m % 100+n % 100)=m+n:=by omega
 rwa[e]at this
include L in
theorem Z7{m n:Nat}{p q:Rat}(h:qL E H m p)(d:qL E H n q):qL E H (m+n) (p*q):=by obtain⟨B,f,i⟩:=h;obtain⟨j,a,b⟩:=d;have k:=Mb i b;exact Un L (Up f a) (by omega)
def jE(s n:Nat):Nat:=(n / 100)*(s+8)+5
include L in
theorem DM(n:Nat):E^(n / 100)<4294967296^jE s n:=by
 have a:E^(n / 100)<=(4294967296^s)^(n / 100):=Nq (Bd L.el) _;rw[<- Nat.pow_mul]at a;refine oY a (Ju (by omega) ?_);unfold jE;have:s*(n / 100)<=(n / 100)*(s+8):=by rw[oI];exact Aa _ (by omega)
 omega
include L in
theorem xE(n:Nat):H^(n / 100)*2^(n % 100)<4294967296^jE s n:=by
 have a:H^(n / 100)<=(4294967296^(s+8))^(n / 100):=Nq (Bd L.hl) _;rw[<- Nat.pow_mul]at a;have b:2^(n % 100)<4294967296^4:=oY (show 2^(n % 100)<=pI from pV (by omega) (by omega)) RT;have e:jE s n=(s+8)*(n / 100)+4+1:=by unfold jE;rw[oI]
 rw[e,kJ,rN];have d:H^(n / 100)*2^(n % 100)<=4294967296^((s+8)*(n / 100))*4294967296^4:=mT a (Bd b);have f:0<4294967296^((s+8)*(n / 100))*4294967296^4:=Cd (qZ (by omega)) (qZ (by omega));omega
structure GW.qQ (E H n:Nat) (w:GW):Prop where
 q:qL E H n w.q.v
 p:∀ e,qL E H n (pc w.aR e)
structure GW.lb (E H n:Nat) (w:GW):Prop where
 o:w.qQ E H n
 ps:∀ x∈w.parts,x.qQ E H n
include L in
theorem GW.qQ.mono{m n:Nat}{w:GW}(h:w.qQ E H m)(k:m<=n):w.qQ E H n:=⟨HR L h.q k,λe=>HR L (h.p e) k⟩
include L in
theorem GW.lb.mono{m n:Nat}{w:GW}(h:w.lb E H m)(k:m<=n):w.lb E H n:=⟨h.o.mono L k,λx a=>(h.ps x a).mono L k⟩
def FC(n c i s):(GW.mk dP c i s [] []).qQ E H n:=⟨by show qL E H n dP.v;rw[tJ];exact AL n,λe=>AL n⟩
def LG(n c i s ps):(GW.mk dP c i s [] ps).qQ E H n:=⟨by show qL E H n dP.v;rw[tJ];exact AL n,λe=>AL n⟩
def yg{n:Nat}{p:List aF}(h:∀ e,qL E H n (pc p e)):lU (E^(n / 100)) (H^(n / 100)*2^(n % 100) / 46656) p:=λe=>by obtain⟨B,a,b⟩:=h e;exact BL a ((Jz (by omega)).2 (by omega))
include L in
theorem DR{k:Int}{w:GW}{n:Nat}(hs:w.si k)(h:w.qQ E H n)(hn:216<=jE s n):w.sm (jE s n):=by
 have l:=Dn hs;have a:=jJ hs;cases w with
 | mk q c i t p m =>
  have e:m=[]:=hs.1;subst e;have j:H^(n / 100)*2^(n % 100) / 46656<4294967296^jE s n:=oY (Cc _ _) (xE L n);have d:q.sm (jE s n):=by
   obtain⟨B,b,o⟩:=h.q;have:=JU b (L.ya _) (DM L n) (oY (show B<=_ by omega) (xE L n))
   rwa[show cR (GW.q (GW.mk q c i t p [])).v=q from sx l]at this
  have f:fP p (jE s n):=AK (yg h.p) a (L.ya _) (DM L n) j;exact .mk d f (by have:p.length<=216:=tU a;omega) (by simp) (by simp)
include L in
theorem AH{r:aC}{w:GW}{n:Nat}(b:w.aJ r)(h:w.lb E H n)(hn:216<=jE s n):w.sm (jE s n):=by
 by_cases a:r.kind=6
 .obtain⟨l,e,j⟩:=b.2.2 a;have k:=aC.bQ b.1 a;rw[e];refine .bM (by omega) λx d=>?_;obtain⟨i,f,rfl⟩:=qW.1 d;exact DR L (j i (by omega) f) (h.ps _ d) hn
 .exact DR L (b.2.1 a) h.o hn
include L in
theorem OG{k:Int}{v w:GW}{n:Nat}(d:v.si k)(b:w.si k)(a:v.qQ E H n)(hw:w.qQ E H n):(fj k v w).qQ E H (n+1):=by
 unfold fj;split
 .exact⟨by show qL E H (n+1) (cR (v.q.v+w.q.v)).v;rw[kW];exact Um L a.q hw.q,λe=>AL _⟩
 .split
  .split
   .exact hw.mono L (by omega)
   .exact a.mono L (by omega)
  .split
   .split
    .exact hw.mono L (by omega)
    .exact a.mono L (by omega)
   .split
    .exact FC ..
    .refine⟨by show qL E H _ dP.v;rw[tJ];exact AL _,λe=>?_⟩;show qL E H (n+1) (pc (eN v.aR w.aR) e);rw[zP v.aR (iA.1 (jJ b)).1];exact Um L (a.p e) (hw.p e)
include L in
theorem P6{k:Int}{v w:GW}{m n:Nat}(o:v.si k)(t:w.si k)(a:v.qQ E H m)(hw:w.qQ E H n):(iB k v w).qQ E H (m+n+1):=by
 unfold iB;split
 .exact⟨by show qL E H _ (cR (v.q.v*w.q.v)).v;rw[kW];exact HR L (Z7 L a.q hw.q) (by omega),λe=>AL _⟩
 .split
  .split
   .exact FC ..
   .exact FC ..
  .split
   .exact FC ..
   .refine⟨by show qL E H _ dP.v;rw[tJ];exact AL _,λe=>?_⟩;show qL E H _ (pc (gE v.aR w.aR) e);have pv:=jJ o;have b:=jJ t;have h:=KK (Eb (yg a.p) pv) (Eb (yg hw.p) b) (yr2 (L.ya _) (L.ya _)) e;have j:=tU pv;have l:=tU b;have d:=Jp (H^(m / 100)*2^(m % 100)) 46656;have f:=Jp (H^(n / 100)*2^(n % 100)) 46656;have i:=Mb d f;refine HR L (Un L h (dM (Aa _ ?_) i)) (by omega);generalize H^(m / 100)*2^(m % 100) / 46656*(H^(n / 100)*2^(n % 100) / 46656)=C;have u:v.aR.length*(w.aR.length*C)<=216*(216*C):=mT j (jU _ l);omega
include L in
theorem yfc{r:aC}{v w:GW}{n:Nat}(b:v.aJ r)(d:w.aJ r)(k:v.lb E H n)(hw:w.lb E H n):(r.plus v w).lb E H (n+1):=by
 by_cases a:r.kind=6
 .have l:=(b.2.2 a).1;have m:=(d.2.2 a).1;have e:r.plus v w=.mk dP 0 false 0 [] (nP r.parts v.parts w.parts):=by simp[aC.plus,a]
  rw[e];have t:=uG (ks:=r.parts) (vs:=v.parts) (ws:=w.parts) l m;refine⟨LG ..,λx f=>?_⟩;obtain⟨i,j,rfl⟩:=qW.1 f;simp only[GW.c8]at j;have h:i<r.parts.length:=by omega
  have:=wH h (by omega:i<v.parts.length) (by omega:i<w.parts.length) j;simp only[GW.c8];rw[this];exact OG L ((b.2.2 a).2.2 i h (by omega)) ((d.2.2 a).2.2 i h (by omega)) (k.ps _ (bU _)) (hw.ps _ (bU _))
 .have hk:=aC.cJ b.1 a;have e:r.plus v w=fj r.kind v w:=by simp[aC.plus,a]
  have p:=yv ⟨hk.1,hk.2.1⟩ (b.2.1 a) (d.2.1 a);rw[e];exact⟨OG L (b.2.1 a) (d.2.1 a) k.o hw.o,λx f=>by rw[p.1]at f;cases f⟩
include L in
theorem z87{r:aC}{v w:GW}{m n:Nat}(b:v.aJ r)(d:w.aJ r)(k:v.lb E H m)(hw:w.lb E H n):(r.times v w).lb E H (m+n+1):=by
 by_cases a:r.kind=6
 .have l:=(b.2.2 a).1;have p:=(d.2.2 a).1;have e:r.times v w=.mk dP 0 false 0 [] (qD r.parts v.parts w.parts):=by simp[aC.times,a]
  rw[e];have u:=Gp (ks:=r.parts) (vs:=v.parts) (ws:=w.parts) l p;refine⟨LG ..,λx f=>?_⟩;obtain⟨i,j,rfl⟩:=qW.1 f;simp only[GW.c8]at j;have h:i<r.parts.length:=by omega
  have:=Gn h (by omega:i<v.parts.length) (by omega:i<w.parts.length) j;simp only[GW.c8];rw[this];exact P6 L ((b.2.2 a).2.2 i h (by omega)) ((d.2.2 a).2.2 i h (by omega)) (k.ps _ (bU _)) (hw.ps _ (bU _))
 .have hk:=aC.cJ b.1 a;have e:r.times v w=iB r.kind v w:=by simp[aC.times,a]
  have t:=Mk ⟨hk.1,hk.2.1⟩ (b.2.1 a) (d.2.1 a);rw[e];exact⟨P6 L (b.2.1 a) (d.2.1 a) k.o hw.o,λx f=>by rw[t.1]at f;cases f⟩
end
theorem T9{v w:GW}(a:v.q=w.q)(b:v.cost=w.cost)(d:v.inf=w.inf)(f:v.set=w.set)(h:v.aR=w.aR)(i:v.parts=w.parts):v=w:=by cases v;cases w;simp only[GW.qM,GW.kE,GW.j2,GW.set_mk,GW.gZ,GW.c8]at a b d f h i;subst a b d f h i;rfl
def Y'{x y:aT}(a:x.valid=true)(b:y.valid=true)(h:x.v=y.v):x=y:=by rw[<- sx a,<- sx b,h]
def rP(w:GW):Int:=if w.inf then 1099511627777 else w.cost
def Ph{v w:GW}(l:v.si 2)(hw:w.si 2)(h:rP v=rP w):v=w:=by
 obtain⟨d,f,i,j,u,x,k⟩:=pY.1 l;obtain⟨m,n,o,p,A,B,t⟩:=pY.1 hw;unfold rP at h;refine T9 (f.trans n.symm) ?_ ?_ (i.trans o.symm) (j.trans p.symm) (d.trans m.symm)
 .cases a:v.inf<;>cases b:w.inf<;>simp[a,b]at h<;>try omega
  rw[k a,t b]
 .cases a:v.inf<;>cases b:w.inf<;>simp[a,b]at h<;>first|rfl|omega
def Ev{v w:GW}(d:v.si 2)(hw:w.si 2):rP (fj 2 v w)=if rP w<rP v then rP w else rP v:=by obtain⟨f,h,i,j,k,l,m⟩:=pY.1 d;obtain⟨n,o,p,t,u,x,A⟩:=pY.1 hw;unfold fj;rw[bD (by omega),aX rfl];unfold rP;cases a:v.inf<;>cases b:w.inf<;>simp[a,b]<;>(try split)<;>simp_all<;>omega
def VG{a b c:Rat}(h:a<b)(k:b<c):a<c:=Rat.not_le.1 λe=>Df.2 (Rat.le_trans (Rat.le_of_lt k) e) h
def XO{a b c:Rat}(h:a<=b)(k:b<c):a<c:=Rat.not_le.1 λe=>Rat.not_le.2 k (Rat.le_trans e h)
def Nl(x y:GW):fj 3 x y=if x.q.v<y.q.v then y else x:=by simp[fj]
def QD{k:Int}(hk:1<=k/\k<=5){v w:GW}(d:v.si k)(hw:w.si k):fj k v w=fj k w v:=by
 have:k=1\/k=2\/k=3\/k=4\/k=5:=by omega
 obtain rfl|rfl|rfl|rfl|rfl:=this
 .simp only[fj,cH,Cb]
 .refine Ph (yv hk d hw) (yv hk hw d) ?_;rw[Ev d hw,Ev hw d];split<;>split<;>omega
 .obtain⟨h,i,j,l,m,n,B,C⟩:=wP.1 d;obtain⟨o,p,t,u,x,A,D,F⟩:=wP.1 hw;rw[Nl,Nl];by_cases a:v.q.v<w.q.v
  .rw[aX a,bD (Df.2 (Rat.le_of_lt a))]
  .by_cases b:w.q.v<v.q.v
   .rw[bD a,aX b]
   .rw[bD a,bD b];have e:v.q.v=w.q.v:=Rat.le_antisymm (Df.1 b) (Df.1 a);exact T9 (Y' n A e) (j.trans t.symm) (i.trans p.symm) (l.trans u.symm) (m.trans x.symm) (h.trans o.symm)
 .simp[fj,UInt64.or_comm]
 .have pv:=jJ d;have f:=jJ hw;have e:eN v.aR w.aR=eN w.aR v.aR:=Ip (xU _ pv) (xU _ f) λe=>by rw[zP _ (iA.1 f).1,zP _ (iA.1 pv).1,Cb]
  simp[fj,e]
def Rf{k:Int}(hk:1<=k/\k<=5){u v w:GW}(hu:u.si k)(d:v.si k)(hw:w.si k):fj k (fj k u v) w=fj k u (fj k v w):=by
 have:k=1\/k=2\/k=3\/k=4\/k=5:=by omega
 obtain rfl|rfl|rfl|rfl|rfl:=this
 .simp only[fj,cH,GW.qM,kW,Af]
 .refine Ph (yv hk (yv hk hu d) hw) (yv hk hu (yv hk d hw)) ?_;rw[Ev (yv hk hu d) hw,Ev hu d,Ev hu (yv hk d hw),Ev d hw]
  repeat' split
  all_goals omega
 .have s:=Nl;rw[s u v,s v w];by_cases a:u.q.v<v.q.v
  .rw[aX a];by_cases b:v.q.v<w.q.v
   .rw[aX b,s v w,s u w,aX b,aX (VG a b)]
   .rw[bD b,s v w,s u v,bD b,aX a]
  .rw[bD a];by_cases b:v.q.v<w.q.v
   .rw[aX b]
   .rw[bD b,s u w,s u v,bD a,bD];intro c;exact b (XO (Df.1 a) c)
 .simp[fj,GW.set_mk,UInt64.or_assoc]
 .have f:=jJ hu;have pv:=jJ d;have h:=jJ hw;have e:eN (eN u.aR v.aR) w.aR=eN u.aR (eN v.aR w.aR):=Ip (xU _ (xU _ f)) (xU _ f) λe=>by rw[zP _ (iA.1 h).1,zP _ (iA.1 pv).1,zP _ (iA.1 (xU _ pv)).1,zP _ (iA.1 h).1,Af]
  simp[fj,GW.gZ,e]
def z12:∀ {ks:List Int} {vs ws:List GW},(∀ k∈ks,1<=k/\k<=5)->vs.length=ks.length->ws.length=ks.length->(∀ i,(h:i<ks.length)->(j:i<vs.length)->vs[i].si ks[i])->(∀ i,(h:i<ks.length)->(j:i<ws.length)->ws[i].si ks[i])->nP ks vs ws=nP ks ws vs:=by
 intro ks vs ws hk d f m hw;refine Bb (by rw[uG d f,uG f d]) λi b l=>?_;have a:i<ks.length:=by rw[uG d f]at b;exact b
 rw[wH a (by omega) (by omega) b,wH a (by omega) (by omega) l];exact QD (hk _ (bU a)) (m i a (by omega)) (hw i a (by omega))
def IC{r:aC}{v w:GW}(b:v.aJ r)(d:w.aJ r):r.plus v w=r.plus w v:=by
 by_cases a:r.kind=6
 .have f:=aC.bQ b.1 a;obtain⟨h,_,j⟩:=b.2.2 a;obtain⟨i,_,k⟩:=d.2.2 a;simp only[aC.plus,aX a,z12 f.2.2 h i j k]
 .have hk:=aC.cJ b.1 a;simp only[aC.plus,bD a];exact QD ⟨hk.1,hk.2.1⟩ (b.2.1 a) (d.2.1 a)
def EC{r:aC}{u v w:GW}(l:u.aJ r)(f:v.aJ r)(m:w.aJ r):r.plus (r.plus u v) w=r.plus u (r.plus v w):=by
 by_cases a:r.kind=6
 .have t:=aC.bQ f.1 a;obtain⟨n,_,x⟩:=l.2.2 a;obtain⟨o,_,A⟩:=f.2.2 a;obtain⟨k,_,B⟩:=m.2.2 a;simp only[aC.plus,aX a,GW.c8]
  congr 1
  have d:=uG n o;have j:=uG o k;refine Bb (by rw[uG d k,uG n j]) λi h p=>?_;have b:i<r.parts.length:=by rw[uG d k]at h;exact h
  rw[wH b (by omega) (by omega) h,wH b (by omega) (by omega) p,wH b (by omega) (by omega) (by omega),wH b (by omega) (by omega) (by omega)];exact Rf (t.2.2 _ (bU b)) (x i b (by omega)) (A i b (by omega)) (B i b (by omega))
 .have hk:=aC.cJ f.1 a;simp only[aC.plus,bD a];exact Rf ⟨hk.1,hk.2.1⟩ (l.2.1 a) (f.2.1 a) (m.2.1 a)
section
variable (r:aC)
def lR(ws:List GW):GW:=ws.foldr r.plus r.zero
variable {r} (hr:r.ok=true)
include hr in
theorem Eh:∀ {ws:List GW},(∀ w∈ws,w.aJ r)->(lR r ws).aJ r
 | [],_=>yC hr
 | w::ws,h=>BU (h w (by simp)) (Eh λx a=>h x (by simp[a]))
include hr in
theorem Mo{v:GW}(a:v.aJ r):r.plus r.zero v=v:=by rw[IC (yC hr) a];exact zcx a
include hr in
theorem Ro:∀ {a b:List GW},(∀ w∈a,w.aJ r)->(∀ w∈b,w.aJ r)->lR r (a++b)=r.plus (lR r a) (lR r b)
 | [],b,_,d=>(Mo hr (Eh hr d)).symm
 | w::a,b,f,d=>by show r.plus w (lR r (a++b))=r.plus (r.plus w (lR r a)) (lR r b);rw[Ro (λx h=>f x (by simp[h])) d,EC (f w (by simp)) (Eh hr λx h=>f x (by simp[h])) (Eh hr d)]
include hr in
theorem Yc{a b:List GW}(h:a.Perm b)(d:∀ w∈a,w.aJ r):lR r a=lR r b:=by
 induction h with
 | nil=>rfl
 | cons x h o=>show r.plus x _=r.plus x _;rw[show List.foldr r.plus r.zero _=_ from o λw hw=>d w (by simp[hw])];rfl
 | swap x y l =>
  have f:=d x (by simp);have i:=d y (by simp);have m:(lR r l).aJ r:=Eh hr λw hw=>d w (by simp[hw]);show r.plus y (r.plus x (lR r l))=r.plus x (r.plus y (lR r l));rw[<- EC i f m,IC i f,EC f i m]
 | trans n p j k=>rw[j d,k λw hw=>d w (n.mem_iff.2 hw)]
end
section
variable {α : Type} (key : α -> List Int) (wt : α -> GW) (r:aC)
def mK(l:List α)(p:List Int->Bool):GW:=lR r ((l.filter λx=>p (key x)).map wt)
variable {key wt r} {up : α -> α -> α} (hr:r.ok=true) (hk:∀ z y,key (up z y)=key z) (hw:∀ z y,wt (up z y)=r.plus (wt z) (wt y))
theorem RZ(p:List Int->Bool):mK key wt r [] p=r.zero:=rfl
def yk(x : α)(l:List α)(p:List Int->Bool):mK key wt r (x::l) p=if p (key x)=true then r.plus (wt x) (mK key wt r l p)else mK key wt r l p:=by unfold mK;by_cases h:p (key x)=true<;>simp[h,lR]
include hr in
theorem Kq{l:List α}(h:∀ x∈l,(wt x).aJ r)(p:List Int->Bool):(mK key wt r l p).aJ r:=Eh hr λw hw=>by obtain⟨x,a,rfl⟩:=cA.1 hw;exact h x (kI.1 a).1
include hr in
theorem YD{a b:List α}(f:∀ x∈a,(wt x).aJ r)(h:∀ x∈b,(wt x).aJ r)(p:List Int->Bool):mK key wt r (a++b) p=r.plus (mK key wt r a p) (mK key wt r b p):=by unfold mK;rw[tW,sS];exact Ro hr (λw hw=>by obtain⟨x,d,rfl⟩:=cA.1 hw;exact f x (kI.1 d).1) (λw hw=>by obtain⟨x,d,rfl⟩:=cA.1 hw;exact h x (kI.1 d).1)
include hr in
theorem ycx{a b:List α}(h:a.Perm b)(d:∀ x∈a,(wt x).aJ r)(p:List Int->Bool):mK key wt r a p=mK key wt r b p :=
 Yc hr ((h.filter _).map _) λw hw=>by obtain⟨x,f,rfl⟩:=cA.1 hw;exact d x (kI.1 f).1
include hr hk hw in
theorem S'{x : α}(a:(wt x).aJ r)(p:List Int->Bool):∀ {b:List α},(∀ z∈b,(wt z).aJ r)->mK key wt r (eX key up id b x) p=r.plus (mK key wt r b p) (if p (key x)=true then wt x else r.zero)
 | [],_=>by
  show mK key wt r [x] p=_;rw[yk,RZ,Mo hr (by split;exact a;exact yC hr)];split
  .exact zcx a
  .rfl
 | z::o,h=>by
  have i:=h z (by simp);have l:∀ y∈o,(wt y).aJ r:=λy n=>h y (by simp[n]);have f:=Kq (key:=key) hr l p;have m:(if p (key x)=true then wt x else r.zero).aJ r:=by split;exact a;exact yC hr
  simp only[eX];split
  .rw[yk,yk,S' a p l];split
   .rw[EC i f m]
   .rfl
  .split
   .rename_i t k;rw[yk,yk,hk,hw];by_cases d:p (key z)=true
    .rw[aX d,aX d,aX (k ▸ d),EC i a f,EC i f a,IC a f]
    .rw[bD d,bD d,bD (k ▸ d),zcx f]
   .show mK key wt r (x::z::o) p=_;rw[yk x];have j:=Kq (key:=key) hr h p;split
    .exact IC a j
    .exact(zcx j).symm
include hr hk hw in
theorem RY{l:List α}(h:∀ x∈l,(wt x).aJ r)(p:List Int->Bool):∀ n,n<=l.length->(∀ z∈nZ key up id (l.take n),(wt z).aJ r)/\mK key wt r (nZ key up id (l.take n)) p=mK key wt r (l.take n) p
 | 0,_=>⟨by simp[nZ],rfl⟩
 | n+1,m=>by
  obtain⟨f,k⟩:=RY h p n (by omega);have d:n<l.length:=by omega
  have a:=h _ (bU d);rw[Gt d];refine⟨λz j=>?_,?_⟩
  .obtain b|b|⟨y,b,i⟩:=Tj j
   .exact f z b
   .rw[b];exact a
   .rw[i,hw];exact BU (f y b) a
  .rw[S' hr hk hw a p f,k,ed d,YD hr (λx a=>h x (iC a)) (λx a=>by simp at a;rw[a];exact h _ (bU d)),yk,RZ]
   congr 1
   split
   .exact(zcx a).symm
   .rfl
end
def z'(x:aE)(t:eg):Prop:=0<=x.f/\x.f<t.st/\0<=x.t/\x.t<t.st/\0<=x.i/\x.i<=t.i/\0<=x.o/\x.o<=t.o/\x.w.aJ t.ring
structure eg.ok (t:eg):Prop where
 ring:t.ring.ok=true
 i1:1<=t.i/\t.i<=32
 o1:1<=t.o/\t.o<=32
 st1:0<=t.st
 st2:t.st<=64
 il:(t.aM.length:Int)=t.st
 fl:(t.fin.length:Int)=t.st
 al:t.aD.length<=2048
 aD:∀ x∈t.aD,z' x t
 aM:∀ w∈t.aM,w.aJ t.ring
 fin:∀ w∈t.fin,w.aJ t.ring
noncomputable instance (x:aE) (a:eg):Decidable (z' x a):=Classical.propDecidable _
noncomputable instance (a:eg):Decidable a.ok:=Classical.propDecidable _
structure eg.sm (a:eg) (n:Nat):Prop where
 aM:∀ w∈a.aM,w.sm n
 fin:∀ w∈a.fin,w.sm n
 aD:∀ x∈a.aD,x.w.sm n
def eg.sm.mono{a:eg}{m n:Nat}(h:a.sm m)(k:m<=n):a.sm n:=⟨λw hw=>(h.aM w hw).mono k,λw hw=>(h.fin w hw).mono k,λx b=>(h.aD x b).mono k⟩
def Gh(t:eg)(h:t.sm 1048576)(li:t.aM.length<=1000000)(lf:t.fin.length<=1000000):zS 47 [enc t] (.bool (decide t.ok)):=by
 refine Sp.vz c.ck λ_=>?_;simp[g.ck];refine bA (A8 t.ring) rfl ?_;cases hr:t.ring.ok
 .simp;intro ok;rw[ok.ring]at hr;cases hr
 simp;refine bA (Rk t.i) rfl ?_;by_cases J:1<=t.i/\t.i<=32;rotate_left
 .simp[J];intro ok;exact J ok.i1
 simp[J];refine bA (Rk t.o) rfl ?_;by_cases K:1<=t.o/\t.o<=32;rotate_left
 .simp[K];intro ok;exact K ok.o1
 simp[K];refine⟨λQ ok=>by have:=ok.st1;omega,λQ=>⟨λU ok=>by have:=ok.st2;omega,λU=>⟨λh5 ok=>by have:=ok.al;omega,λh5=>?_⟩⟩⟩
 refine b6 (S:=λk:Nat=>aB [(1,i0 1),(38,hW t.aD),(39,f8 t.aD.length),(40,f8 k)] [(1,⟨8,[.p (enc t)]⟩)]) (I:=λk=>k<=t.aD.length/\∀ i,(F:i<t.aD.length)->i<k->z' t.aD[i] t) (m:=λk=>t.aD.length - k) 0
  (aA.to [1,38,39,40] [((1,0),1)] (by simp)) ⟨by omega,λi _ h0=>by omega⟩ ?_
 rintro k ⟨h6,V⟩ R hn b G;have e1:=aZ k;simp[g.u4,aB];refine⟨λhk=>?_,λhk=>G _ _ ?_⟩
 .refine bK hk ?_;have a:¬ z' t.aD[k] t->¬ t.ok:=λh ok=>h (ok.aD _ (bU hk));have O:t.aD[k].w.sm 1048576:=h.aD _ (bU hk);have u:z' t.aD[k] t->∀ i,(F:i<t.aD.length)->i<k+1->z' t.aD[i] t:=λG i F h0=>by
   by_cases N:i<k
   .exact V i F N
   .have:i=k:=by omega
    subst this;exact G
  generalize t.aD[k]=x at *
  refine⟨λd=>b _ ?_,λd=>⟨λj=>b _ ?_,λj=>⟨λA=>b _ ?_,λA=>⟨λB=>b _ ?_,λB=>?_⟩⟩⟩⟩
  .simp;refine a λn=>?_;obtain⟨W,X,Y,Z,a5,a6,a7,a8,a9⟩:=n;revert d;(repeat' split)<;>omega
  .simp;refine a λn=>?_;obtain⟨W,X,Y,Z,a5,a6,a7,a8,a9⟩:=n;revert j;(repeat' split)<;>omega
  .simp;exact a λn=>by have:=n.2.2.2.2.2.1;omega
  .simp;exact a λn=>by have:=n.2.2.2.2.2.2.2.1;omega
  have l:0<=x.f/\0<=x.t/\0<=x.i/\0<=x.o:=by revert d;(repeat' split)<;>intro d<;>omega
  have C:x.f<t.st/\x.t<t.st:=by revert j;(repeat' split)<;>intro j<;>omega
  refine aW (F9 t.ring x.w O) ?_;by_cases M:x.w.aJ t.ring;rotate_left
  .simp[M];refine b _ ?_;simp;exact a λn=>M n.2.2.2.2.2.2.2.2
  simp[M,e1];exact hn (k+1) _ (aA.to [1,38,39,40] [((1,0),1)] (by simp[aB])) ⟨by omega,u ⟨l.1,C.1,l.2.1,C.2,l.2.2.1,A,l.2.2.2,B,M⟩⟩ (by omega)
 .simp;have D:∀ x∈t.aD,z' x t:=λx G=>by obtain⟨i,F,rfl⟩:=qW.1 G;exact V i F (by omega)
  refine aW (Rn t.ring t.aM t.st h.aM (by omega)) ?_;by_cases d:(t.aM.length:Int)=t.st/\∀ w∈t.aM,w.aJ t.ring;rotate_left
  .rw[decide_eq_false d];simp;intro ok;exact d ⟨ok.il,ok.aM⟩
  rw[decide_eq_true d];simp;refine aW (Rn t.ring t.fin t.st h.fin (by omega)) ?_;by_cases j:(t.fin.length:Int)=t.st/\∀ w∈t.fin,w.aJ t.ring;rotate_left
  .have:¬ t.ok:=λok=>j ⟨ok.fl,ok.fin⟩;rw[decide_eq_false j,decide_eq_false this];simp
  have ok:t.ok:=⟨hr,J,K,Q,U,d.1,j.1,by omega,D,d.2,j.2⟩;rw[decide_eq_true j,decide_eq_true ok];simp
def nJ:eg:=⟨⟨0,[]⟩,0,0,0,[],[],[]⟩
def eg.nf(a:eg):eg:=⟨a.ring,a.i,a.o,a.st,a.aM,a.fin,cV a.ring a.aD⟩
def fJ(f:aE->Int)(x:aE):aV:=⟨x.f,f x,x.t,x.w⟩
def Vg(t:eg)(w:Int)(a:FuncId)(f:aE->Int)(F:∀ x,Sp P a [enc x] (.pure (g6 (f x))))(n:Nat)(hn:n<=90)(l:3<=n)(h:t.sm n)(G:t.aD.length<=19)(M:t.aM.length<=1000000)(K:t.fin.length<=1000000){A:aU}(d:A=⟨t.ring,w,t.st,t.aM,t.fin,t.aD.map (fJ f)⟩){v:aU}{e:Int}(C:¬ t.ok->v=jS/\e=4)(D:t.ok->v=(if A.vb then A.nf else jS)/\e=if A.vb then 0 else 4) :
  zS 94 [enc t,g6 w,.fn a []] (.bM [enc v,g6 e]):=by
 refine Sp.vz c.da λ_=>?_;simp[g.da];refine aW (Gh t (h.mono (by omega)) M K) ?_;by_cases ok:t.ok;rotate_left
 .obtain⟨rfl,rfl⟩:=C ok;rw[decide_eq_false ok];simp[jS]
 rw[decide_eq_true ok];obtain⟨rfl,rfl⟩:=D ok;have G5:A.sm n:=by subst d;refine⟨h.aM,h.fin,λx u=>?_⟩;obtain⟨y,J,rfl⟩:=cA.1 u;exact h.aD y J
 have o:=YB A n hn l G5 (by subst d;simpa using G);generalize (if A.vb=true then A.nf else jS)=Q at *
 generalize (if A.vb=true then(0:Int)else 4)=N at *
 simp
 refine b6 (S:=λk:Nat=>aB [(2,.p (.fn a [])),(6,i0 1),(8,i0 2),(26,hW t.aD),(27,f8 t.aD.length),(28,f8 k)]
   [(1,⟨7,[.agg [f8 0,.nil,f8 0,f8 0,.nil,.nil,.nil]]⟩),(2,⟨7,[.agg [f8 t.ring.kind,hW t.ring.parts,f8 w,f8 t.st,hW t.aM,hW t.fin,.own 3 0 0 k]]⟩),(3,⟨11,aK ((t.aD.map (fJ f)).take k)⟩)])
  (I:=λk=>k<=t.aD.length) (m:=λk=>t.aD.length - k) 0
  ((aA.b5 (s0:=8) (g0:=0) (i:=6) (s:=77) (sz:=11) rfl).trans (aA.to [2,6,8,26,27,28] [((6,0),1),((8,0),2),((77,0),3)] (by simp))) (by omega) ?_
 rintro k O R j hr u;have B:=aZ k;simp[g.t7,aB];refine⟨λhk=>?_,λhk=>u _ _ ?_⟩
 .refine bK hk ?_;refine aW (F t.aD[k]) ?_;have b:aK ((t.aD.map (fJ f)).take (k+1))=aK ((t.aD.map (fJ f)).take k)++[.p (enc (fJ f t.aD[k]))]:=by rw[List.take_succ_eq_append_getElem (by simpa using hk),sR];simp
  simp[B];exact⟨by omega,j (k+1) _ (aA.to [2,6,8,26,27,28] [((1,0),1),((2,0),2),((45,0),3)] (by simp[aB,b,fJ])) (by omega) (by omega)⟩
 .have:k=t.aD.length:=by omega
  subst this;have b:(t.aD.map (fJ f)).take t.aD.length=t.aD.map (fJ f):=eZ (by simp);subst d;simp;refine bA o (by simp[b]) ?_;simp
def ygl(x:aE):zS 95 [enc x] (g6 x.i):=by refine Sp.vz c.jp λ_=>?_;simp[g.jp]
def ya2(x:aE):zS 104 [enc x] (g6 x.o):=by refine Sp.vz c.jt λ_=>?_;simp[g.jt]
def ES(t:eg)(A:aU):aU:=if t.ok then(if A.vb then A.nf else jS)else jS
def ER(t:eg)(A:aU):Int:=if t.ok then(if A.vb then 0 else 4)else 4
def eg.oa(t:eg):aU:=⟨t.ring,t.i,t.st,t.aM,t.fin,t.aD.map (fJ aE.i)⟩
def eg.fW(t:eg):aU:=⟨t.ring,t.o,t.st,t.aM,t.fin,t.aD.map (fJ aE.o)⟩
def z60(t:eg)(n:Nat)(hn:n<=90)(a:3<=n)(h:t.sm n)(b:t.aD.length<=19)(f:t.aM.length<=1000000)(d:t.fin.length<=1000000) :
  zS 44 [enc t] (.bM [enc (ES t t.oa),g6 (ER t t.oa)]):=by
 refine Sp.vz c.mn λ_=>?_;simp[g.mn];refine aW (Vg t t.i 95 aE.i ygl n hn a h b f d (A:=t.oa) (v:=ES t t.oa) (e:=ER t t.oa) rfl (λh=>by simp[ES,ER,h]) (λh=>by simp[ES,ER,h])) ?_;simp
def swT(x:aE):aE:=⟨x.f,x.o,x.i,x.t,x.w⟩
def uu(x:aV):aE:=⟨x.f,x.l,x.l,x.t,x.w⟩
def aU.oP(a:aU):eg:=⟨a.ring,a.sy,a.sy,a.st,a.aM,a.fin,a.aD.map uu⟩
section
variable {α : Type} {key : α -> List Int} {wt : α -> GW} {r:aC} {up : α -> α -> α} (hr:r.ok=true) (hk:∀ z y,key (up z y)=key z) (hw:∀ z y,wt (up z y)=r.plus (wt z) (wt y))
def zD(key : α -> List Int)(wt : α -> GW)(r:aC)(l:List α)(k:List Int):GW:=mK key wt r l λx=>decide (x=k)
theorem Ko{L:List α}{k:List Int}(h:∀ x∈L,key x≠k):zD key wt r L k=r.zero:=by unfold zD mK;rw[List.filter_eq_nil_iff.2 λx a=>by simpa using h x a];rfl
theorem Kn{L:List α}(s:eH key L)(c:∀ x∈L,(wt x).aJ r){x : α}(j:x∈L):zD key wt r L (key x)=wt x:=by
 induction L with
 | nil=>cases j
 | cons z t k =>
  have i:=mS.1 s;unfold zD;rw[yk];simp only[decide_eq_true_eq];obtain rfl|b:=cI.1 j
  .rw[aX rfl,show mK key wt r t (λa=>decide (a=key x))=r.zero from Ko (wt:=wt) (r:=r) λy f h=>by have:=i.1 y f;rw[h]at this;exact pU _ this];exact zcx (c x (by simp))
  .have d:¬ key z=key x:=λh=>by have:=i.1 x b;rw[h]at this;exact pU _ this
   rw[bD d];exact k i.2 (λy f=>c y (by simp[f])) b
theorem z32:∀ {L b:List α},eH key L->eH key b->(∀ x,x∈L ↔ x∈b)->L=b
 | [],[],_,_,_=>rfl
 | [],y::t,_,_,h=>by have:=(h y).2 (by simp);cases this
 | x::t,[],_,_,h=>by have:=(h x).1 (by simp);cases this
 | x::t,y::m,s,l,h=>by
  have p:=mS.1 s;have i:=mS.1 l;have d:x=y:=by
   obtain e|j:=cI.1 ((h x).1 (by simp))
   .exact e
   .obtain e|k:=cI.1 ((h y).2 (by simp))
    .exact e.symm
    .exact absurd (i.1 x j) (List.lt_asymm (p.1 y k))
  subst d
  congr 1
  refine z32 p.2 i.2 λz=>⟨λa=>?_,λa=>?_⟩
  .obtain e|f:=cI.1 ((h z).1 (by simp[a]))
   .have:=p.1 z a;rw[e]at this;exact absurd this (pU _)
   .exact f
  .obtain e|f:=cI.1 ((h z).2 (by simp[a]))
   .have:=i.1 z a;rw[e]at this;exact absurd this (pU _)
   .exact f
def ybu(ext:∀ x y,key x=key y->wt x=wt y->x=y){L a:List α}(s:eH key L)(b:eH key a)(c:∀ x∈L,(wt x).aJ r)(d:∀ x∈a,(wt x).aJ r)(n:∀ x∈L,wt x≠r.zero)(o:∀ x∈a,wt x≠r.zero)(h:∀ k,zD key wt r L k=zD key wt r a k):L=a:=by
 have one:∀ {L a:List α},eH key L->eH key a->(∀ x∈L,(wt x).aJ r)->(∀ x∈a,(wt x).aJ r)->(∀ x∈L,wt x≠r.zero)->(∀ k,zD key wt r L k=zD key wt r a k)->∀ x∈L,x∈a:=by
  intro L a s b c d n h x m;have f:=h (key x);rw[Kn s c m]at f;by_cases l:∃ y∈a,key y=key x
  .obtain⟨y,i,e⟩:=l;have j:=Kn b d i;rw[e,<- f]at j;rw[ext x y e.symm j];exact i
  .rw[Ko (wt:=wt) (r:=r) λy i e=>l ⟨y,i,e⟩]at f;exact absurd f (n x m)
 exact z32 s b λx=>⟨one s b c d n h x,one b s d c o (λk=>(h k).symm) x⟩
include hr in
theorem z28{l:List α}(h:∀ x∈l,(wt x).aJ r)(p:List Int->Bool):mK key wt r (l.filter λx=>!decide (wt x=r.zero)) p=mK key wt r l p:=by
 induction l with
 | nil=>rfl
 | cons x l f =>
  have a:=f λy b=>h y (by simp[b]);by_cases d:wt x=r.zero
  .rw[List.filter_cons_of_neg (by simp[d]),a,yk];split
   .rw[d,Mo hr (Kq hr (λy b=>h y (by simp[b])) p)]
   .rfl
  .rw[List.filter_cons_of_pos (by simp[d]),yk,yk,a]
def tid(key : α -> List Int)(wt : α -> GW)(r:aC)(up : α -> α -> α)(l:List α):List α := (eU key up id (bW key l)).filter λx=>!decide (wt x=r.zero)
include hr hk hw in
theorem Ih{l:List α}(h:∀ x∈l,(wt x).aJ r):eH key (tid key wt r up l)/\(∀ x∈tid key wt r up l,(wt x).aJ r/\wt x≠r.zero)/\∀ p,mK key wt r (tid key wt r up l) p=mK key wt r l p:=by
 have b:=(KA (key:=key) (up:=up) (nw:=id) hk (λ_=>rfl) l);have d:=(Ez (key:=key) (up:=up) (nw:=id) hk (λ_=>rfl) _ (bW key l) rfl b.2).1;have a:=λp=>RY (key:=key) (up:=up) hr hk hw h p l.length (dE _);rw[kK]at a;have e:eU key up id (bW key l)=nZ key up id l:=b.1;unfold tid;refine⟨List.Pairwise.filter _ d,λx f=>?_,λp=>?_⟩
 .have:=List.mem_filter.1 f;rw[e]at this;exact⟨(a λ_=>true).1 x this.1,by simpa using this.2⟩
 .rw[e,z28 hr (a p).1,(a p).2]
include hr hk hw in
theorem yec(ext:∀ x y,key x=key y->wt x=wt y->x=y){l b:List α}(h:∀ x∈l,(wt x).aJ r)(o:∀ x∈b,(wt x).aJ r)(t:∀ p,mK key wt r l p=mK key wt r b p):tid key wt r up l=tid key wt r up b:=by obtain⟨i,d,j⟩:=Ih (up:=up) hr hk hw h;obtain⟨m,f,n⟩:=Ih (up:=up) hr hk hw o;exact ybu ext i m (λx a=>(d x a).1) (λx a=>(f x a).1) (λx a=>(d x a).2) (λx a=>(f x a).2) λk=>by unfold zD;rw[j,n,t]
end
def xB(v w:List Int):Int:=if v.length≠w.length then(if v.length<w.length then -1 else 1)else eW v w
theorem Xw{v w:List Int}{k:Nat}(h:k<v.length)(a:k<w.length):eW (v.drop k) (w.drop k)=if v[k]<w[k]then -1 else if w[k]<v[k]then 1 else eW (v.drop (k+1)) (w.drop (k+1)):=by rw[vJ h,vJ a];rfl
def Q5(v w:List Int)(B:v.length<=1000000000):zS 88 [.sl (ens v),.sl (ens w)] (g6 (xB v w)):=by
 refine Sp.vz c.gi λ_=>?_;by_cases a:v.length=w.length;rotate_left
 .have u:¬ (v.length:Int)=w.length:=by omega
  simp[g.gi,a,xB];by_cases h:v.length<w.length
  .simp[h];intro t;omega
  .simp[h];intro t;omega
 have n:xB v w=eW v w:=by simp[xB,a]
 rw[n];simp[g.gi,a]
 refine b6 (S:=λk:Nat=>aB [(0,hW v),(1,hW w),(5,f8 k)] []) (I:=λk=>k<=v.length/\eW v w=eW (v.drop k) (w.drop k)) (m:=λk=>v.length - k) 0
  (aA.to [0,1,5] [] (by simp)) ⟨by omega,by simp⟩ ?_
 rintro k ⟨A,f⟩ R i hr x;have o:=aZ k;by_cases hk:k<v.length
 .have b:k<w.length:=by omega
  have d:=Xw hk b;simp[g.tz,aB,hk];refine bK hk ?_;refine bK b ?_;refine⟨λj=>hr _ ?_,λj=>?_⟩
  .rw[aX j]at d;simp[f,d]
  refine bK hk ?_;refine bK b ?_;refine⟨λl=>hr _ ?_,λl=>?_⟩
  .rw[bD (by omega),aX l]at d;simp[f,d]
  .rw[bD (by omega),bD (by omega)]at d;rw[o];exact i (k+1) _ (aA.to [0,1,5] [] (by simp[aB])) ⟨by omega,by rw[f,d]⟩ (by omega)
 .simp[g.tz,aB,hk];refine x _ _ ?_;have:eW v w=0:=by rw[f,EW (by omega)];rfl
  simp[this]
def I'(m:Int):zS 105 [g6 m] (.bool (decide (1<=m/\m<=32))):=by refine Sp.vz c.gj λ_=>?_;simp[g.gj];exact⟨λh _=>h,λh a=>by omega⟩
def AD(v b a:Int):zS 106 [g6 v,g6 b,g6 a] (.bool (decide (b<=v/\v<=a))):=by refine Sp.vz c.ax λ_=>?_;simp[g.ax];exact⟨λh _=>h,λh d=>by omega⟩
def I2(r:aC)(l:List GW)(m:Int)(B:∀ w∈l,w.sm 1048576)(t:l.length<=1000000000):zS 107 [enc r,.sl (ens l),g6 m] (.bool (decide ((l.length:Int)=m/\∀ w∈l,w.aJ r))):=by
 refine Sp.vz c.gk λ_=>?_;by_cases u:(l.length:Int)=m;rotate_left
 .simp[g.gk,u]
 subst u;simp[g.gk]
 refine b6 (S:=λk:Nat=>aB [(1,hW l),(2,f8 l.length),(3,i0 1),(7,f8 k)] [(1,⟨2,[.p (enc r)]⟩)]) (I:=λk=>k<=l.length/\∀ i,(d:i<l.length)->i<k->l[i].aJ r) (m:=λk=>l.length - k) 0
  (aA.to [1,2,3,7] [((3,0),1)] (by simp)) ⟨by omega,λi _ h=>by omega⟩ ?_
 rintro k ⟨D,o⟩ R j hr n;have A:=aZ k;simp[g.vl,aB];refine⟨λhk=>?_,λhk=>n _ _ ?_⟩
 .refine bK hk ?_
  try simp
  have a:=bU hk;refine aW (F8 r l[k] (B _ a)) ?_;by_cases b:l[k].aJ r
  .simp[b,A];refine j (k+1) _ (aA.to [1,2,3,7] [((1,0),1)] (by simp[aB])) ⟨by omega,λi d C=>?_⟩ (by omega);by_cases f:i<k
   .exact o i d f
   .have:i=k:=by omega
    subst this;exact b
  .simp[b];refine hr _ ?_;simp;exact⟨_,a,b⟩
 .have:∀ w∈l,w.aJ r:=λx n=>by obtain⟨i,d,rfl⟩:=qW.1 n;exact o i d (by omega)
  simp;exact this
def Mf(x y:aV):zS 57 [enc x,enc y] (g6 (eW x.key y.key)):=by refine Sp.vz c.ge λ_=>?_;simp[g.ge];have k:=Q5 x.key y.key (by simp[aV.key]);rw[show xB x.key y.key=eW x.key y.key from rfl]at k;refine bA k (by simp[aV.key]) ?_;simp
def Pd(r:aC)(l:List GW)(h:∀ w∈l,w.sm 1048576)(d:l.length<=1000000):zS 186 [enc r,.sl (ens l)] (.sl (ens (l.map λw=>w.tk r))):=by
 refine Sp.vz c.pe λ_=>?_;simp[g.pe]
 refine b6 (S:=λk:Nat=>aB [(1,hW l),(2,i0 2),(5,.own 1 0 0 k),(6,f8 k)] [(2,⟨2,[.p (enc r)]⟩),(1,⟨8,aK ((l.map λw=>w.tk r).take k)⟩)]) (I:=λk=>k<=l.length) (m:=λk=>l.length - k) 0
  (aA.nl 5 77 8 rfl (aA.to [1,2,5,6] [((2,0),2),((77,0),1)] (by simp))) (by omega) ?_
 rintro k j R b hr i;have f:=aZ k;simp[g.w6,aB];refine⟨λhk=>?_,λhk=>i _ _ ?_⟩
 .refine bK hk ?_
  try simp
  refine aW (lQ r l[k] (h _ (List.getElem_mem hk))) ?_;have a:aK ((l.map λw=>w.tk r).take (k+1))=aK ((l.map λw=>w.tk r).take k)++[.p (enc (l[k].tk r))]:=by rw[List.take_succ_eq_append_getElem (by simpa using hk),sR];simp
  simp[f];exact⟨⟨by omega,by omega⟩,b (k+1) _ (aA.to [1,2,5,6] [((2,0),2),((21,0),1)] (by simp[aB,a])) (by omega) (by omega)⟩
 .have:k=l.length:=by omega
  subst this;have a:(l.map λw=>w.tk r).take l.length=l.map λw=>w.tk r:=eZ (by simp);simp[a]
def yad(r:aC)(a:r.parts.length<=1000000):zS 185 [enc r] (enc r):=by
 refine Sp.vz c.pd λ_=>?_;simp[g.pd]
 try omega
def zY{a:aU}(h:¬ a.ok):a.vb=false:=by
 cases b:a.vb
 .rfl
 .exact absurd (aU.iV.1 b) h
def Yb(a:aU)(h:a.sm 1048576)(li:a.aM.length<=1000000)(lf:a.fin.length<=1000000):zS 109 [enc a] (.bool a.vb):=by
 refine Sp.vz c.n7 λ_=>?_;simp[g.n7];refine bA (oG a.ring) rfl ?_;cases hr:a.ring.ok
 .simp;exact zY λok=>by rw[ok.ring]at hr;cases hr
 simp;refine bA (I' a.sy) rfl ?_;by_cases u:1<=a.sy/\a.sy<=32;rotate_left
 .rw[decide_eq_false u];simp;exact zY λok=>u ⟨ok.NS,ok.NR⟩
 rw[decide_eq_true u];simp;refine bA (AD a.st 0 64) rfl ?_;by_cases A:0<=a.st/\a.st<=64;rotate_left
 .rw[decide_eq_false A];simp;exact zY λok=>A ⟨ok.st1,ok.st2⟩
 rw[decide_eq_true A];simp;refine aW (I2 a.ring a.aM a.st h.aM (by omega)) ?_;by_cases B:(a.aM.length:Int)=a.st/\∀ w∈a.aM,w.aJ a.ring;rotate_left
 .rw[decide_eq_false B];simp;exact zY λok=>B ⟨ok.il,ok.aM⟩
 rw[decide_eq_true B];simp;refine aW (I2 a.ring a.fin a.st h.fin (by omega)) ?_;by_cases C:(a.fin.length:Int)=a.st/\∀ w∈a.fin,w.aJ a.ring;rotate_left
 .rw[decide_eq_false C];simp;exact zY λok=>C ⟨ok.fl,ok.fin⟩
 rw[decide_eq_true C];simp;refine⟨λX=>zY λok=>by have:=ok.al;omega,λX=>?_⟩
 refine b6 (S:=λk:Nat=>aB [(1,i0 1),(3,f8 k)] [(1,⟨7,[.p (enc a)]⟩)]) (I:=λk=>k<=a.aD.length/\∀ i,(F:i<a.aD.length)->i<k->oa a.aD[i] a) (m:=λk=>a.aD.length - k) 0
  (aA.to [1,3] [((1,0),1)] (by simp)) ⟨by omega,λi _ W=>by omega⟩ ?_
 rintro k ⟨h6,U⟩ R Z n G;have V:=aZ k;have Q:IntKind.i64.wrap (a.st - 1)=a.st - 1:=by
  by_cases hs:1<=a.st
  .obtain⟨m,Y⟩:=JB (show 0<=a.st - 1 by omega);rw[Y];exact cL
  .have:a.st=0:=by omega
   rw[this];rfl
 simp[g.vr,aB,Q];refine⟨λhk=>?_,λhk=>G _ _ ?_⟩
 .refine bK hk ?_;have b:¬ oa a.aD[k] a->¬ a.ok:=λh ok=>h (ok.aD _ (bU hk));have O:a.aD[k].w.sm 1048576:=h.aD _ (bU hk);have o:oa a.aD[k] a->∀ i,(F:i<a.aD.length)->i<k+1->oa a.aD[i] a:=λG i F W=>by
   by_cases N:i<k
   .exact U i F N
   .have:i=k:=by omega
    subst this;exact G
  generalize a.aD[k]=x at *
  refine bA (AD x.f 0 (a.st - 1)) rfl ?_;by_cases J:0<=x.f/\x.f<=a.st - 1;rotate_left
  .rw[decide_eq_false J];simp;refine n _ ?_;simp;exact zY (b λj=>J ⟨j.1,by have:=j.2.1;omega⟩)
  rw[decide_eq_true J];simp[Q];refine bA (AD x.t 0 (a.st - 1)) rfl ?_;by_cases K:0<=x.t/\x.t<=a.st - 1;rotate_left
  .rw[decide_eq_false K];simp;refine n _ ?_;simp;exact zY (b λj=>K ⟨j.2.2.1,by have:=j.2.2.2.1;omega⟩)
  rw[decide_eq_true K];simp;refine bA (AD x.l 0 a.sy) rfl ?_;by_cases d:0<=x.l/\x.l<=a.sy;rotate_left
  .rw[decide_eq_false d];simp;refine n _ ?_;simp;exact zY (b λj=>d ⟨j.2.2.2.2.1,j.2.2.2.2.2.1⟩)
  rw[decide_eq_true d];simp;refine aW (F8 a.ring x.w O) ?_;by_cases M:x.w.aJ a.ring;rotate_left
  .simp[M];refine n _ ?_;simp;exact zY (b λj=>M j.2.2.2.2.2.2)
  simp[M,V];exact Z (k+1) _ (aA.to [1,3] [((1,0),1)] (by simp[aB])) ⟨by omega,o ⟨J.1,by omega,K.1,by omega,d.1,d.2,M⟩⟩ (by omega)
 .have D:∀ x∈a.aD,oa x a:=λx G=>by obtain⟨i,F,rfl⟩:=qW.1 G;exact U i F (by omega)
  have ok:a.ok:=⟨hr,u.1,u.2,A.1,A.2,B.1,C.1,by omega,D,B.2,C.2⟩;simp[aU.iV.2 ok]
section
variable {α : Type} {key : α -> List Int} {up : α -> α -> α} {nw : α -> α}
theorem Px{B:List α}{x : α}:∀ {A:List α},(∀ a∈A,key a<key x)->eX key up nw (A++B) x=A++eX key up nw B x
 | [],_=>rfl
 | a::A,h=>by rw[xX,xX,<- Px (A:=A) λb d=>h b (by simp[d])];simp[eX,h a (by simp)]
def KU{O:List α}{x : α}{k:Nat}(h:∀ i,(d:i<O.length)->i<k->key O[i]<key x):eX key up nw O x=O.take k++eX key up nw (O.drop k) x:=by
 have e:=Px (up:=up) (nw:=nw) (B:=O.drop k) (x:=x) (A:=O.take k) λa f=>by obtain⟨i,d,rfl⟩:=qW.1 f;have b:=d;rw[fY]at b;rw[List.getElem_take];exact h i (by omega) (by omega)
 rwa[oK]at e
def Ti{O:List α}{x : α}(h:∀ i,(a:i<O.length)->key O[i]<key x):eX key up nw O x=O++[nw x]:=by rw[KU (k:=O.length) λi a _=>h i a];simp[eX]
def R'{O:List α}{x : α}{k:Nat}(hk:k<O.length)(h:∀ i,(b:i<O.length)->i<k->key O[i]<key x)(a:key O[k]=key x):eX key up nw O x=O.set k (up O[k] x):=by
 rw[KU h,vJ hk];have:¬ key O[k]<key x:=by rw[a];exact pU _
 simp only[eX,bD this,aX a];rw[List.set_eq_take_append_cons_drop,aX hk]
def Tk{O:List α}{x : α}{k:Nat}(hk:k<O.length)(h:∀ i,(d:i<O.length)->i<k->key O[i]<key x)(a:¬ key O[k]<key x)(b:key O[k]≠key x):eX key up nw O x=O.take k++nw x::O.drop k:=by rw[KU h,vJ hk];simp[eX,a,b]
end
def JO(r:aC)(l:List aV):List aV:=(nZ aV.key (lO r) id l).filter λx=>!decide (x.w=r.zero)
def Yr(r:aC)(l:List aV):JO r l=mY r l:=by unfold JO mY;rw[(KA (up:=lO r) (nw:=id) (λ_ _=>rfl) (λ_=>rfl) l).1]
def T2{r:aC}{l:List GW}(h:∀ w∈l,w.aJ r):(l.map λw=>w.tk r)=l:=by have:(l.map λw=>w.tk r)=l.map id:=uK λw hw=>Fv (h w hw);rw[this,List.map_id]
noncomputable instance:DecidableEq aV:=λ_ _=>Classical.propDecidable _
noncomputable instance:DecidableEq aE:=λ_ _=>Classical.propDecidable _
noncomputable instance:DecidableEq aU:=λ_ _=>Classical.propDecidable _
noncomputable instance:DecidableEq eg:=λ_ _=>Classical.propDecidable _
def yhe{x y:aV}:x=y ↔ x.key=y.key/\x.w=y.w:=by cases x;cases y;simp[aV.key,and_assoc]
def Wx{x y:aE}:x=y ↔ x.key=y.key/\x.w=y.w:=by cases x;cases y;simp[aE.key,and_assoc]
def OT(a b:aU)(h:a.sm 1048576)(U:a.aM.length<=1000000)(Q:a.fin.length<=1000000)(O:a.aD.length<=1000000) :
  zS 17 [enc a,enc b] (.bool (decide (a=b))):=by
 refine Sp.vz c.dq λ_=>?_;simp[g.dq];refine aW (OS a.ring b.ring) ?_;by_cases f:a.ring=b.ring;rotate_left
 .rw[decide_eq_false f];simp;exact λh=>f (by rw[h])
 rw[decide_eq_true f];simp;by_cases i:a.sy=b.sy;rotate_left
 .simp[i];exact λh=>i (by rw[h])
 by_cases u:a.st=b.st;rotate_left
 .simp[i,u];exact λh=>u (by rw[h])
 simp[i,u];refine aW (RF a.aM b.aM (by omega) h.aM) ?_;by_cases x:a.aM=b.aM;rotate_left
 .rw[decide_eq_false x];simp;exact λh=>x (by rw[h])
 rw[decide_eq_true x];simp;refine aW (RF a.fin b.fin (by omega) h.fin) ?_;by_cases A:a.fin=b.fin;rotate_left
 .rw[decide_eq_false A];simp;exact λh=>A (by rw[h])
 rw[decide_eq_true A];simp;by_cases F:a.aD.length=b.aD.length;rotate_left
 .have:¬ (a.aD.length:Int)=b.aD.length:=by omega
  simp[this];exact λh=>F (by rw[h])
 simp[F]
 refine b6 (S:=λk:Nat=>aB [(2,i0 1),(3,i0 2),(5,f8 k)] [(1,⟨7,[.p (enc a)]⟩),(2,⟨7,[.p (enc b)]⟩)]) (I:=λk=>k<=a.aD.length/\a.aD.take k=b.aD.take k) (m:=λk=>a.aD.length - k) 0
  (aA.to [2,3,5] [((2,0),1),((3,0),2)] (by simp[i,u])) ⟨by omega,by simp⟩ ?_
 rintro k ⟨N,B⟩ R K t M;have J:=aZ k;by_cases hk:k<a.aD.length
 .have j:k<b.aD.length:=by omega
  have n:a.aD[k].w.sm 1048576:=h.aD _ (bU hk);have o:a.aD[k]≠b.aD[k]->a≠b:=λf i=>by subst i;exact f rfl
  have D:a.aD[k]=b.aD[k]->a.aD.take (k+1)=b.aD.take (k+1):=λf=>by rw[ed hk,ed j,B,f]
  simp[g.s8,aB,hk];refine bK hk ?_;refine bK j ?_;have l:eW a.aD[k].key b.aD[k].key=0 ↔ a.aD[k].key=b.aD[k].key:=CF (by simp[aV.key]);refine aW (Mf a.aD[k] b.aD[k]) ?_;simp;refine⟨λC=>?_,λC=>t _ ?_⟩
  .refine bK hk ?_;refine bK j ?_;refine aW (Iy a.aD[k].w n b.aD[k].w) ?_;by_cases d:a.aD[k].w=b.aD[k].w
   .rw[decide_eq_true d];simp[J];exact K (k+1) _ (aA.to [2,3,5] [((1,0),1),((2,0),2)] (by simp[aB])) ⟨by omega,D (yhe.2 ⟨l.1 C,d⟩)⟩ (by omega)
   .rw[decide_eq_false d];simp;refine t _ ?_;simp;exact o λh=>d (by rw[h])
  .simp;exact o λh=>C (l.2 (by rw[h]))
 .simp[g.s8,aB,hk];refine M _ _ ?_;have G:a.aD=b.aD:=by rw[eZ (by omega),eZ (by omega)]at B;exact B
  have:a=b:=by cases a;cases b;simp_all
  simp[this]
def QB(x y:aE):zS 39 [enc x,enc y] (g6 (eW x.key y.key)):=by refine Sp.vz c.ji λ_=>?_;simp[g.ji];have k:=Q5 x.key y.key (by simp[aE.key]);rw[show xB x.key y.key=eW x.key y.key from rfl]at k;refine bA k (by simp[aE.key]) ?_;simp
def MM(a:eg)(h:a.sm 1048576)(li:a.aM.length<=1000000)(lf:a.fin.length<=1000000):zS 52 [enc a] (.bool (decide a.ok)):=by
 refine Sp.vz c.am λ_=>?_;simp[g.am];refine bA (oG a.ring) rfl ?_;cases hr:a.ring.ok
 .simp;exact λok=>by rw[ok.ring]at hr;cases hr
 simp;refine bA (I' a.i) rfl ?_;by_cases K:1<=a.i/\a.i<=32;rotate_left
 .rw[decide_eq_false K];simp;exact λok=>K ok.i1
 rw[decide_eq_true K];simp;refine bA (I' a.o) rfl ?_;by_cases A:1<=a.o/\a.o<=32;rotate_left
 .rw[decide_eq_false A];simp;exact λok=>A ok.o1
 rw[decide_eq_true A];simp;refine bA (AD a.st 0 64) rfl ?_;by_cases B:0<=a.st/\a.st<=64;rotate_left
 .rw[decide_eq_false B];simp;exact λok=>B ⟨ok.st1,ok.st2⟩
 rw[decide_eq_true B];simp;refine aW (I2 a.ring a.aM a.st h.aM (by omega)) ?_;by_cases C:(a.aM.length:Int)=a.st/\∀ w∈a.aM,w.aJ a.ring;rotate_left
 .rw[decide_eq_false C];simp;exact λok=>C ⟨ok.il,ok.aM⟩
 rw[decide_eq_true C];simp;refine aW (I2 a.ring a.fin a.st h.fin (by omega)) ?_;by_cases D:(a.fin.length:Int)=a.st/\∀ w∈a.fin,w.aJ a.ring;rotate_left
 .rw[decide_eq_false D];simp;exact λok=>D ⟨ok.fl,ok.fin⟩
 rw[decide_eq_true D];simp;refine⟨λY=>λok=>by have:=ok.al;omega,λY=>?_⟩
 refine b6 (S:=λk:Nat=>aB [(1,i0 1),(3,f8 k)] [(1,⟨8,[.p (enc a)]⟩)]) (I:=λk=>k<=a.aD.length/\∀ i,(G:i<a.aD.length)->i<k->z' a.aD[i] a) (m:=λk=>a.aD.length - k) 0
  (aA.to [1,3] [((1,0),1)] (by simp)) ⟨by omega,λi _ A=>by omega⟩ ?_
 rintro k ⟨h6,W⟩ R hn n J;have X:=aZ k;have V:IntKind.i64.wrap (a.st - 1)=a.st - 1:=by
  by_cases hs:1<=a.st
  .obtain⟨m,Z⟩:=JB (show 0<=a.st - 1 by omega);rw[Z];exact cL
  .have:a.st=0:=by omega
   rw[this];rfl
 simp[g.u7,aB,V];refine⟨λhk=>?_,λhk=>J _ _ ?_⟩
 .refine bK hk ?_;have b:¬ z' a.aD[k] a->¬ a.ok:=λh ok=>h (ok.aD _ (bU hk));have U:a.aD[k].w.sm 1048576:=h.aD _ (bU hk);have u:z' a.aD[k] a->∀ i,(G:i<a.aD.length)->i<k+1->z' a.aD[i] a:=λJ i G A=>by
   by_cases Q:i<k
   .exact W i G Q
   .have:i=k:=by omega
    subst this;exact J
  generalize a.aD[k]=x at *
  refine bA (AD x.f 0 (a.st - 1)) rfl ?_;by_cases M:0<=x.f/\x.f<=a.st - 1;rotate_left
  .rw[decide_eq_false M];simp;refine n _ ?_;simp;exact(b λd=>M ⟨d.1,by have:=d.2.1;omega⟩)
  rw[decide_eq_true M];simp[V];refine bA (AD x.t 0 (a.st - 1)) rfl ?_;by_cases N:0<=x.t/\x.t<=a.st - 1;rotate_left
  .rw[decide_eq_false N];simp;refine n _ ?_;simp;exact(b λd=>N ⟨d.2.2.1,by have:=d.2.2.2.1;omega⟩)
  rw[decide_eq_true N];simp;refine bA (AD x.i 0 a.i) rfl ?_;by_cases j:0<=x.i/\x.i<=a.i;rotate_left
  .rw[decide_eq_false j];simp;refine n _ ?_;simp;exact(b λd=>j ⟨d.2.2.2.2.1,d.2.2.2.2.2.1⟩)
  rw[decide_eq_true j];simp;refine bA (AD x.o 0 a.o) rfl ?_;by_cases l:0<=x.o/\x.o<=a.o;rotate_left
  .rw[decide_eq_false l];simp;refine n _ ?_;simp;exact(b λd=>l ⟨d.2.2.2.2.2.2.1,d.2.2.2.2.2.2.2.1⟩)
  rw[decide_eq_true l];simp;refine aW (F8 a.ring x.w U) ?_;by_cases O:x.w.aJ a.ring;rotate_left
  .simp[O];refine n _ ?_;simp;exact(b λd=>O d.2.2.2.2.2.2.2.2)
  simp[O,X];exact hn (k+1) _ (aA.to [1,3] [((1,0),1)] (by simp[aB])) ⟨by omega,u ⟨M.1,by omega,N.1,by omega,j.1,j.2,l.1,l.2,O⟩⟩ (by omega)
 .have F:∀ x∈a.aD,z' x a:=λx J=>by obtain⟨i,G,rfl⟩:=qW.1 J;exact W i G (by omega)
  have ok:a.ok:=⟨hr,K,A,B.1,B.2,C.1,D.1,by omega,F,C.2,D.2⟩;simp[ok]
def JP(r:aC)(l:List aE):List aE:=(nZ aE.key (lE r) id l).filter λx=>!decide (x.w=r.zero)
def Yt(r:aC)(l:List aE):JP r l=cV r l:=by unfold JP cV;rw[(KA (up:=lE r) (nw:=id) (λ_ _=>rfl) (λ_=>rfl) l).1]
def Ub{t:eg}(h:t.ok):t.oa.ok :=
 ⟨h.ring,h.i1.1,h.i1.2,h.st1,h.st2,h.il,h.fl,by simpa[eg.oa]using h.al,λx l=>by
  obtain⟨y,m,rfl⟩:=cA.1 l;obtain⟨a,b,d,f,i,j,n,o,k⟩:=h.aD y m;exact⟨a,b,d,f,i,j,k⟩,h.aM,h.fin⟩
def yfs{t:eg}(h:t.ok):t.fW.ok :=
 ⟨h.ring,h.o1.1,h.o1.2,h.st1,h.st2,h.il,h.fl,by simpa[eg.fW]using h.al,λx l=>by
  obtain⟨y,m,rfl⟩:=cA.1 l;obtain⟨a,b,d,f,n,o,i,j,k⟩:=h.aD y m;exact⟨a,b,d,f,i,j,k⟩,h.aM,h.fin⟩
def Ua{a:aU}(h:a.ok):a.oP.ok :=
 ⟨h.ring,⟨h.NS,h.NR⟩,⟨h.NS,h.NR⟩,h.st1,h.st2,h.il,h.fl,by simpa[aU.oP]using h.al,λx m=>by
  obtain⟨y,n,rfl⟩:=cA.1 m;obtain⟨f,i,j,k,b,d,l⟩:=h.aD y n;exact⟨f,i,j,k,b,d,b,d,l⟩,h.aM,h.fin⟩
section
variable {α : Type} {key : α -> List Int} {wt : α -> GW} {r:aC} {up : α -> α -> α}
def yeb(hr:r.ok=true)(hk:∀ z y,key (up z y)=key z)(hw:∀ z y,wt (up z y)=r.plus (wt z) (wt y)){l:List α}(h:∀ x∈l,(wt x).aJ r){x : α}(f:x∈tid key wt r up l):∃ y∈l,key y=key x:=by
 obtain⟨s,c,e⟩:=Ih (up:=up) hr hk hw h;by_cases d:∃ y∈l,key y=key x
 .exact d
 .have a:=Kn s (λy b=>(c y b).1) f;unfold zD at a;rw[e]at a;have i:zD key wt r l (key x)=r.zero:=Ko λy b e=>d ⟨y,b,e⟩;exact absurd (a.symm.trans i) (c x f).2
def yea(hk:∀ z y,key (up z y)=key z)(l:List α):(tid key wt r up l).length<=l.length:=by unfold tid;refine dM (kB _ _) ?_;have h:=(HL (key:=key) (up:=up) (nw:=id) (Q:=λ_ _=>True) (l:=bW key l) (λ_ _ _=>trivial) (λ_ _=>trivial) (λ_ _ _ _ _=>trivial) (λ_ _ _=>trivial) _ (dE _)).1;rw[kK,(gB l).2.1]at h;exact h
end
def X4{r:aC}(hr:r.ok=true){l:List aE}(h:∀ x∈l,x.w.aJ r):eH aE.key (tid aE.key aE.w r (lE r) l)/\(∀ x∈tid aE.key aE.w r (lE r) l,x.w.aJ r/\x.w≠r.zero)/\∀ p,mK aE.key aE.w r (tid aE.key aE.w r (lE r) l) p=mK aE.key aE.w r l p:=Ih (key:=aE.key) (wt:=aE.w) (up:=lE r) hr (λ_ _=>rfl) (λ_ _=>rfl) h
def DV{a:eg}(ok:a.ok):a.nf.ok:=by have k:∀ x∈a.aD,x.w.aJ a.ring:=λx d=>(ok.aD x d).2.2.2.2.2.2.2.2;refine⟨ok.ring,ok.i1,ok.o1,ok.st1,ok.st2,ok.il,ok.fl,dM (yea (key:=aE.key) (wt:=aE.w) (r:=a.ring) (up:=lE a.ring) (λ_ _=>rfl) a.aD) ok.al,λx d=>?_,ok.aM,ok.fin⟩;have b:x∈tid aE.key aE.w a.ring (lE a.ring) a.aD:=d;obtain⟨y,B,e⟩:=yeb (key:=aE.key) (wt:=aE.w) (up:=lE a.ring) ok.ring (λ_ _=>rfl) (λ_ _=>rfl) k b;obtain⟨l,m,n,o,p,t,u,A,_⟩:=ok.aD y B;simp only[aE.key,List.cons.injEq,and_true]at e;obtain⟨f,h,i,j⟩:=e;exact⟨f ▸ l,f ▸ m,j ▸ n,j ▸ o,h ▸ p,h ▸ t,i ▸ u,i ▸ A,((X4 ok.ring k).2.1 x b).1⟩
def yve(k n:Int)(h:0<n):(if k.tmod n<0 then k.tmod n+n else k.tmod n)=k % n:=by
 have d:=Int.tmod_eq_emod (a:=k) (b:=n);have f:=Int.emod_nonneg k (show n≠0 by omega);have i:=Int.emod_lt_of_pos k h;rw[d];have j:(n.natAbs:Int)=n:=by omega
 split<;>split<;>omega
def s7(k n:Int)(h:0<n)(hn:n<=1000000):zS 41 [g6 k,g6 n] (g6 (k % n)):=by
 have b:=yve k n h;have f:=Int.emod_nonneg k (show n≠0 by omega);have i:=Int.emod_lt_of_pos k h;refine Sp.vz c.zr λ_=>?_;simp[g.zr];refine⟨by omega,λd=>?_,λd=>?_⟩
 .rw[aX d]at b;rw[b,cL]
 .rw[bD (by omega)]at b;exact b
def nx(b:Int)(w:List Int)(a:Nat):Int:=if b=0 then a else if w[a]?=some b then a+1 else -1
def Ya(w:List Int)(m:Int)(Q:w.length<=1000000000):zS 53 [.sl (ens w),g6 m] (.bool (decide ((1<=m/\m<=32)/\w.length<=256/\∀ x∈w,1<=x/\x<=m))):=by
 refine Sp.vz c.fx λ_=>?_;simp[g.fx];refine bA (I' m) rfl ?_;by_cases o:1<=m/\m<=32;rotate_left
 .simp[o]
  done
 by_cases b:w.length<=256;rotate_left
 .simp[o,b];exact λh=>absurd h (by omega)
 have f:(w.length:Int)<=256:=by omega
 simp[o,b,f];refine⟨λh=>absurd h (by omega),?_⟩
 refine b6 (S:=λk:Nat=>aB [(0,hW w),(1,f8 m),(5,f8 k)] []) (I:=λk=>k<=w.length/\∀ i,(j:i<w.length)->i<k->1<=w[i]/\w[i]<=m) (m:=λk=>w.length - k) 0
  (aA.to [0,1,5] [] (by simp)) ⟨by omega,λi _ h=>by omega⟩ ?_
 rintro k ⟨O,D⟩ R u F y;have G:=aZ k;simp[g.u9,aB];refine⟨λl=>?_,λl=>y _ _ ?_⟩
 .refine bK l ?_
  try simp
  have d:=bU l;refine⟨λz=>F _ ?_,λz=>bK l ⟨λC=>F _ ?_,λC=>?_⟩⟩
  .simp;exact⟨_,d,λ_=>by omega⟩
  .simp;exact⟨_,d,λ_=>by omega⟩
  .rw[G];refine u (k+1) _ (aA.to [0,1,5] [] (by simp[aB])) ⟨by omega,λi j J=>?_⟩ (by omega);by_cases n:i<k
   .exact D i j n
   .have:i=k:=by omega
    subst this;exact⟨z,C⟩
 .have:∀ x∈w,1<=x/\x<=m:=λx y=>by obtain⟨i,j,rfl⟩:=qW.1 y;exact D i j (by omega)
  simp;exact this
def yvo(l:List Int)(m:Int)(b:Nat)(u:0<m)(D:m<=1000)(n:b<=1000):zS 18 [.sl (ens l),g6 m,g6 b] (.sl (ens ((l.take b).map λx=>1+x % m))):=by
 refine Sp.vz c.z7 λ_=>?_;simp[g.z7]
 refine b6 (S:=λk:Nat=>aB [(0,hW l),(1,f8 m),(2,f8 b),(7,.own 1 0 0 k),(8,f8 k)] [(1,⟨1,aK ((l.take k).map λx=>1+x % m)⟩)]) (I:=λk=>k<=l.length/\k<=b) (m:=λk=>b - k) 0
  (aA.nl 7 77 1 rfl (aA.to [0,1,2,7,8] [((77,0),1)] (by simp))) ⟨by omega,by omega⟩ ?_
 rintro k ⟨F,G⟩ R o Q y;have z:=aZ k;have d:l.length<=k\/b<=k->((l.take k).map λx=>1+x % m)=(l.take b).map λx=>1+x % m:=λh=>by
  obtain h|h:=h
  .rw[eZ h,eZ (by omega)]
  .rw[show k=b by omega]
 simp[g.aaf,aB];refine⟨λi=>⟨λj=>bK i ?_,λj=>y _ _ ?_⟩,λi=>y _ _ ?_⟩
 .refine bA (s7 l[k] m u (by omega)) rfl ?_;have J:=Int.emod_nonneg l[k] (show m≠0 by omega);have O:=Int.emod_lt_of_pos l[k] u;have C:i64.wrap (1+l[k] % m)=1+l[k] % m:=cT;simp[z,C];have f:aK ((l.take (k+1)).map λx=>1+x % m)=aK ((l.take k).map λx=>1+x % m)++[.p (enc (1+l[k] % m))]:=by rw[ed i,sS,sR];rfl
  simp only[List.map_take]at f;exact⟨⟨by omega,by omega⟩,o (k+1) _ (aA.to [0,1,2,7,8] [((29,0),1)] (by simp[aB,f])) ⟨by omega,by omega⟩ (by omega)⟩
 .have:=d (by omega);simp only[List.map_take]at this;simp[this];exact⟨by omega,by rw[<- this,GY,Nat.min_self]⟩
 .have:=d (by omega);simp only[List.map_take]at this;simp[this];exact⟨by omega,by rw[<- this,GY,Nat.min_self]⟩
instance:Enc (Int × Int):=⟨λx=>.agg [g6 x.1,g6 x.2],2,by decide,λ_=>rfl⟩
@[simp] theorem yk6(x:Int × Int):enc x=.agg [g6 x.1,g6 x.2]:=rfl
@[simp] theorem yho:Enc.sz (Int × Int)=2:=rfl
def rA(on:List Bool)(p:Int × Int):List Bool:=if on.getD p.1.toNat false=true then on.set p.2.toNat true else on
def lS(ps:List (Int × Int))(on:List Bool):List Bool:=ps.foldl rA on
def iS(ps:List (Int × Int)):Nat->List Bool->List Bool
 | 0,b=>b
 | n+1,b=>iS ps n (lS ps b)
def z37(on p):(rA on p).length=on.length:=by unfold rA;split<;>simp
theorem K1:∀ (ps:List (Int × Int)) (on:List Bool),(lS ps on).length=on.length
 | [],_=>rfl
 | p::ps,on=>by rw[show lS (p::ps) on=lS ps (rA on p) from rfl,K1,z37]
theorem AI(ps:List (Int × Int)):∀ (n:Nat) (on:List Bool),(iS ps n on).length=on.length
 | 0,_=>rfl
 | n+1,on=>by rw[show iS ps (n+1) on=iS ps n (lS ps on) from rfl,AI,K1]
theorem OW(ps:List (Int × Int)):∀ (n:Nat) (on:List Bool),iS ps (n+1) on=lS ps (iS ps n on)
 | 0,_=>rfl
 | n+1,on=>by rw[show iS ps (n+1+1) on=iS ps (n+1) (lS ps on) from rfl,OW];rfl
theorem Wu{ps:List (Int × Int)}{k:Nat}(h:k<ps.length)(on:List Bool):lS (ps.take (k+1)) on=rA (lS (ps.take k) on) ps[k]:=by unfold lS;rw[ed h,yr3];rfl
def toNat_lt{p:Int}{n:Nat}(h:0<=p/\p<n):∃ k:Nat,p=k/\k<n:=⟨p.toNat,by omega,by omega⟩
def QM(on:List Bool)(ps:List (Int × Int))(hn:on.length<=100000)(hp:ps.length<=100000)(h:∀ p∈ps,(0<=p.1/\p.1<on.length)/\0<=p.2/\p.2<on.length) :
  zS 135 [.sl (ens on),.sl (ens ps)] (.sl (ens (iS ps on.length on))):=by
 refine Sp.vz c.oh λ_=>?_;simp[g.oh];refine⟨?_,?_⟩
 .omega
 refine b6 (S:=λk:Nat=>aB [(0,.own 1 0 0 on.length),(1,hW ps),(5,f8 k)] [(1,⟨1,aK (iS ps k on)⟩)]) (I:=λk=>k<=on.length) (m:=λk=>on.length - k) 0
  (aA.to [0,1,5] [((8,0),1)] (by simp[iS])) (by omega) ?_
 rintro k h1 R o hr hx;have X:=aZ k;simp[g.wm,aB];refine⟨λY=>?_,λY=>hx _ _ ?_⟩
 .refine b6 (S:=λi:Nat=>aB [(0,.own 1 0 0 on.length),(1,hW ps),(5,f8 k),(6,f8 i)] [(1,⟨1,aK (lS (ps.take i) (iS ps k on))⟩)]) (I:=λi=>i<=ps.length) (m:=λi=>ps.length - i) 0
   (aA.to [0,1,5,6] [((1,0),1)] (by simp[lS])) (by omega) ?_
  rintro i h2 R2 j ad u;have D:=aZ i;have O:(lS (ps.take i) (iS ps k on)).length=on.length:=by rw[K1,AI]
  simp[g.wk,aB];refine⟨λf=>?_,λf=>u _ _ ?_⟩
  .obtain⟨⟨Q,U⟩,V,W⟩:=h _ (bU f);obtain⟨x,F,z⟩:=toNat_lt ⟨Q,U⟩;obtain⟨y,G,C⟩:=toNat_lt ⟨V,W⟩;refine bK f ?_;simp[F];have l:=Wu f (iS ps k on);generalize J:lS (List.take i ps) (iS ps k on)=d at *
   have b:rA d ps[i]=if d[x]=true then d.set y true else d:=by unfold rA;rw[F,G,kZ,kZ,eV,dO (by omega),xW]
   refine⟨⟨z,by omega⟩,bK (by omega) ?_⟩;by_cases n:d[x]=true
   .rw[aX n]at b;simp[n];refine bK f ?_;simp[G,D];refine⟨⟨C,by omega⟩,bK (by omega) ?_⟩;exact j (i+1) _ (aA.to [0,1,5,6] [((1,0),1)] (by simp[aB,l,b])) (by omega) (by omega)
   .rw[bD n]at b;simp[n,D];exact j (i+1) _ (aA.to [0,1,5,6] [((1,0),1)] (by simp[aB,l,b])) (by omega) (by omega)
  .have:i=ps.length:=by omega
   subst this;simp[X];exact o (k+1) _ (aA.to [0,1,5] [((1,0),1)] (by simp[aB,OW])) (by omega) (by omega)
 .have:k=on.length:=by omega
  subst this;simp[AI];rw[eZ (by rw[AI];omega)]
structure cQ (r:aC) where
 mb:Nat->GW->Prop
 lim:Nat
 mono:∀ {m n:Nat} {w:GW},mb m w->m<=n->mb n w
 zero:mb 0 r.zero
 plus:∀ {v w:GW} {n:Nat},v.aJ r->w.aJ r->mb n v->mb n w->mb (n+1) (r.plus v w)
 times:∀ {v w:GW} {m n:Nat},v.aJ r->w.aJ r->mb m v->mb n w->mb (m+n+1) (r.times v w)
 plusS:∀ {v w:GW} {n:Nat},n<=lim->v.aJ r->w.aJ r->mb n v->mb n w->zS 130 [enc r,enc v,enc w] (enc (r.plus v w))
 timesS:∀ {v w:GW} {n:Nat},n<=lim->v.aJ r->w.aJ r->mb n v->mb n w->zS 32 [enc r,enc v,enc w] (enc (r.times v w))
def vb{r:aC}(M:cQ r)(n:Nat)(l:List GW):Prop:=∀ w∈l,w.aJ r/\M.mb n w
def aE.fit(x:aE)(N:Nat):Prop:=(0<=x.f/\x.f<N)/\0<=x.t/\x.t<N
section
variable {P:Program} {K:Ctx} {Z Z':Cz} {st st':St} {w w':World} {a:Act}
end
section
variable {r:aC} (M:cQ r)
def fits{r:aC}(M:cQ r)(c N:Nat)(l:List aE):Prop:=∀ x∈l,(x.w.aJ r/\M.mb c x.w)/\x.fit N
structure eg.fits {r:aC} (M:cQ r) (c:Nat) (t:eg):Prop where
 ring:t.ring=r
 st:0<=t.st/\t.st<=64
 aD:Go.Ab.fits M c t.st.toNat t.aD
 aM:vb M c t.aM/\t.aM.length=t.st.toNat
 fin:vb M c t.fin/\t.fin.length=t.st.toNat
 rok:r.ok=true
variable {M}
end
section
variable (t:eg) (wx wy:List Int)
end
def yhz(w:List Int)(m:Int):Prop:=(1<=m/\m<=32)/\w.length<=256/\∀ x∈w,1<=x/\x<=m
noncomputable instance (w:List Int) (m:Int):Decidable (yhz w m):=Classical.propDecidable _
def Uo(a:Int)(d k B:Nat)(h:d*k=6)(i:a.natAbs<=B):qb 6 (B*k) (Rat.divInt a d):=by
 have b:qb d B (Rat.divInt a d):=⟨a,Rat.divInt_ofNat a d,i⟩;have f:=zip k (by rintro rfl;omega) b
 rwa[h]at f
def l9(v:Int):Int:=1+i64.wrap (v.tdiv 13) % 3
def kv(v:Int):Rat:=Rat.divInt (v % 13 - 6) (l9 v)
def yul(v:Int):qb 6 36 (kv v):=by
 have d:l9 v=1\/l9 v=2\/l9 v=3:=by unfold l9;omega
 have b:(v % 13 - 6).natAbs<=6:=by omega
 unfold kv;obtain h|h|h:=d<;>rw[h]
 .exact BL (Uo _ 1 6 6 rfl b) (by omega)
 .exact BL (Uo _ 2 3 6 rfl b) (by omega)
 .exact BL (Uo _ 3 2 6 rfl b) (by omega)
def yvm{B:Nat}{q:Rat}(h:qb 6 B q)(b:B<4294967296):(cR q).sm 1:=JU h (by omega) (by omega) (by omega)
def yux(v:Int):zS 90 [g6 v] (enc (cR (kv v))):=by
 have b:i64.wrap (v % 13 - 6)=v % 13 - 6:=cT;have d:i64.wrap (1+i64.wrap (v.tdiv 13) % 3)=l9 v:=cT;have f:l9 v=1\/l9 v=2\/l9 v=3:=by unfold l9;omega
 refine Sp.vz c.z8 λ_=>?_;simp[g.z8];refine aW (s7 v 13 (by omega) (by omega)) ?_;simp[b];refine aW (s7 (i64.wrap (v.tdiv 13)) 3 (by omega) (by omega)) ?_;simp[d];refine aW (Cy (v % 13 - 6) (l9 v) (by omega) (by omega) (by omega)) ?_;simp[kv]
def yuw(v:Int):List aF :=
 let p:=fS [] ⟨0,0,0⟩ (Rat.divInt (v % 5 - 2) 3)
 if i64.wrap (v.tdiv 5) % 2=1 then eN p (gE (tb (i64.wrap (v.tdiv 10) % 3)) (yd (kv v)))else p
def qk(k v:Int):GW :=
 if k=1 then .mk (cR (kv v)) 0 false 0 [] []
 else if k=2 then(if v % 11=10 then(⟨2,[]⟩:aC).zero else .mk dP (v % 11) false 0 [] [])
 else if k=3 then .mk (cR (Rat.divInt (v % 7) 6)) 0 false 0 [] []
 else if k=4 then .mk dP 0 false (UInt64.ofNat (v % 16).toNat) [] []
 else .mk dP 0 false 0 (yuw v) []
def yuu(q:Rat):bS (fS [] ⟨0,0,0⟩ q):=LC _ _ D1
def yar{B:Nat}{q:Rat}(h:qb 6 B q):lU 6 B (fS [] ⟨0,0,0⟩ q):=by
 have:=SG (SF 6) h (by omega) ⟨0,0,0⟩
 rwa[sG]at this
def yuo(i:Int):bS (tb i):=by
 unfold tb;split
 .refine iA.2 ⟨λm d=>?_,List.pairwise_singleton _ _⟩;rw[iT.1 d];refine aF.b0.2 ⟨?_,vD 1,by rw[kW];decide⟩;have b:i=0\/i=1\/i=2:=by omega
  obtain rfl|rfl|rfl:=b<;>rfl
 .exact D1
def yuv(i:Int):lU 1 1 (tb i):=λe=>by
 unfold tb;split
 .simp only[pc];rw[kW];split
  .exact⟨1,by rw[qY];exact(Rat.mkRat_self 1).symm,by decide⟩
  .exact BL (by rw[qY];exact HZ 1) (by omega)
 .exact BL (HZ 1) (by omega)
def yup(v:Int):bS (yuw v)/\lU 6 1700000 (yuw v):=by
 have h:qb 6 36 (Rat.divInt (v % 5 - 2) 3):=BL (Uo (v % 5 - 2) 3 2 6 rfl (by omega)) (by omega);have d:=yuu (Rat.divInt (v % 5 - 2) 3);have f:=yar h;unfold yuw;simp only;split
 .have b:=yuo (i64.wrap (v.tdiv 10) % 3);have l:=yuv (i64.wrap (v.tdiv 10) % 3);have j:lU 6 36 (yd (kv v)):=yar (yul v);have k:=KK (Eb l b) (Eb j (YS _)) (by omega);have n:=tU b;have o:=tU (YS (kv v));have i:(tb (i64.wrap (v.tdiv 10) % 3)).length*((yd (kv v)).length*(1*36))<=216*(216*(1*36)):=mT n (jU _ o);refine⟨xU _ d,λe=>BL (ye8 f (λe=>BL (k e) i) (AX _ _) (by omega) e) (by omega)⟩
 .exact⟨d,λe=>BL (f e) (by omega)⟩
def yvh(v:Int):zS 60 [enc (cR (Rat.divInt (v % 5 - 2) 3))] (.sl (ens (fS [] ⟨0,0,0⟩ (Rat.divInt (v % 5 - 2) 3)))):=by
 have b:qb 6 36 (Rat.divInt (v % 5 - 2) 3):=BL (Uo (v % 5 - 2) 3 2 6 rfl (by omega)) (by omega);have:=Vr (cR (Rat.divInt (v % 5 - 2) 3)) ((yvm b (by omega)).mono (by omega))
 rwa[kW]at this
def UH{B:Nat}{q:Rat}(h:qb 6 B q)(b:B<=6291456):qm 1 q:=by unfold qm;rw[show mD 1=6 from rfl,show mB 1=6291456 from rfl];exact BL h b
def yui{k:Int}(d:1<=k/\k<=5)(v:Int):(qk k v).si k/\(qk k v).Ar 1:=by
 have h:k=1\/k=2\/k=3\/k=4\/k=5:=by omega
 obtain rfl|rfl|rfl|rfl|rfl:=h
 .refine⟨xZ.2 ⟨rfl,rfl,rfl,rfl,rfl,vD _⟩,?_,λe=>CL 1⟩;show qm 1 (cR (kv v)).v;rw[kW];exact UH (yul v) (by omega)
 .unfold qk;rw[bD (by omega),aX rfl];split
  .exact⟨Pa (k:=2) (by omega),KR ..⟩
  .exact⟨pY.2 ⟨rfl,rfl,rfl,rfl,by show 0<=v % 11;omega,by show v % 11<=1099511627776;omega,λh=>by cases h⟩,KR ..⟩
 .have b:qb 6 6 (Rat.divInt (v % 7) 6):=BL (Uo (v % 7) 6 1 6 rfl (by omega)) (by omega);refine⟨wP.2 ⟨rfl,rfl,rfl,rfl,rfl,vD _,?_,?_⟩,?_,λe=>CL 1⟩
  .show 0<=(cR (Rat.divInt (v % 7) 6)).v;rw[kW];exact Rat.divInt_nonneg (by omega) (by omega)
  .show(cR (Rat.divInt (v % 7) 6)).v<=1;rw[kW,Rat.le_iff_sub_nonneg,show(1:Rat)=Rat.divInt 6 6 from rfl,Rat.divInt_sub_divInt _ _ (by omega) (by omega)];exact Rat.divInt_nonneg (by omega) (by omega)
  .show qm 1 (cR (Rat.divInt (v % 7) 6)).v;rw[kW];exact UH b (by omega)
 .exact⟨Bf.2 ⟨rfl,rfl,rfl,rfl,rfl⟩,KR ..⟩
 .refine⟨Aq.2 ⟨rfl,rfl,rfl,rfl,rfl,(yup v).1⟩,?_,λe=>UH ((yup v).2 e) (by omega)⟩;show qm 1 dP.v;rw[tJ];exact CL 1
def yvg(n:Nat)(h:n≠0):4294967296<=4294967296^n:=Nat.le_self_pow h _
def yum(k:Int)(G:1<=k/\k<=5)(v:Int):zS 43 [enc (⟨k,[]⟩:aC),g6 v] (enc (qk k v)):=by
 have h:k=1\/k=2\/k=3\/k=4\/k=5:=by omega
 obtain rfl|rfl|rfl|rfl|rfl:=h
 .refine Sp.vz c.zu λ_=>?_;simp[g.zu];refine aW (yux v) ?_;simp[qk]
 .refine Sp.vz c.zu λ_=>?_;simp[g.zu];refine aW (s7 v 11 (by omega) (by omega)) ?_;simp;refine⟨λh=>?_,λh=>?_⟩
  .refine aW (F2 ⟨2,[]⟩) ?_;simp[qk,h]
  .refine aW (s7 v 11 (by omega) (by omega)) ?_;simp[qk,h,dP]
 .refine Sp.vz c.zu λ_=>?_;simp[g.zu];refine aW (s7 v 7 (by omega) (by omega)) ?_;simp;refine aW (Cy (v % 7) 6 (by omega) (by omega) (by omega)) ?_;simp[qk]
 .refine Sp.vz c.zu λ_=>?_;simp[g.zu];refine aW (s7 v 16 (by omega) (by omega)) ?_;simp[qk];omega
 .have o:i64.wrap (v % 5 - 2)=v % 5 - 2:=cT;refine Sp.vz c.zu λ_=>?_;simp[g.zu];refine aW (s7 v 5 (by omega) (by omega)) ?_;simp[o];refine aW (Cy (v % 5 - 2) 3 (by omega) (by omega) (by omega)) ?_;simp;refine aW (yvh v) ?_;simp;refine aW (s7 (i64.wrap (v.tdiv 5)) 2 (by omega) (by omega)) ?_;have p:qb 6 36 (Rat.divInt (v % 5 - 2) 3):=BL (Uo (v % 5 - 2) 3 2 6 rfl (by omega)) (by omega);have C:=yuu (Rat.divInt (v % 5 - 2) 3);have D:=yar p;simp;refine⟨λh=>?_,λh=>?_⟩
  .refine aW (s7 (i64.wrap (v.tdiv 10)) 3 (by omega) (by omega)) ?_;simp;have b:=yuo (i64.wrap (v.tdiv 10) % 3);have i:=yuv (i64.wrap (v.tdiv 10) % 3);have x:lU 6 36 (yd (kv v)):=yar (yul v);have d:=KK (Eb i b) (Eb x (YS _)) (by omega);have y:=tU b;have z:=tU (YS (kv v));have u:(tb (i64.wrap (v.tdiv 10) % 3)).length*((yd (kv v)).length*(1*36))<=216*(216*(1*36)):=mT y (jU _ z);have l:=yvg 1048576 (by omega);have f:=AX (tb (i64.wrap (v.tdiv 10) % 3)) (yd (kv v));have j:=yvf (tb (i64.wrap (v.tdiv 10) % 3)) (cR (kv v)) 1 6 1 36 b i (by rw[kW];exact yul v) (by omega) (by omega) (by omega) (by omega) (λm d=>(AK (n:=1) i b (by omega) (by omega) (by omega) m d).mono (by omega)) ((yvm (yul v) (by omega)).mono (by omega));have F:=yhh (fS [] ⟨0,0,0⟩ (Rat.divInt (v % 5 - 2) 3)) (gE (tb (i64.wrap (v.tdiv 10) % 3)) (yd (kv v))) 6 36 1679616 C f D (λe=>BL (d e) u) (by omega) (by omega) (by omega);rw[kW]at j;refine aW (yut (i64.wrap (v.tdiv 10) % 3)) ?_;simp;refine aW (yux v) ?_;simp;refine aW j ?_;simp;refine aW F ?_;simp[qk,yuw,h]
  .simp[qk,yuw,h]
def s9(ks:List Int)(v:Int)(n:Nat):List GW:=(List.range n).map λi=>qk (ks.getD i 0) (i64.wrap (v+i))
def U0(r:aC)(v:Int):GW:=if r.kind=6 then .mk dP 0 false 0 [] (s9 r.parts v r.parts.length)else qk r.kind v
def yuz(ks:List Int)(v:Int)(n:Nat)(h:n<ks.length):s9 ks v (n+1)=s9 ks v n++[qk ks[n] (i64.wrap (v+n))]:=by unfold s9;rw[B7,sS];simp[dO h]
def yue(ks:List Int)(v:Int)(n:Nat):(s9 ks v n).length=n:=by simp[s9]
def yvb{r:aC}(j:r.ok=true)(v:Int):(U0 r v).aJ r/\(U0 r v).mb 1:=by
 unfold U0;by_cases d:r.kind=6
 .have p:=aC.bQ j d;have n:∀ i,(h:i<r.parts.length)->(f:i<(s9 r.parts v r.parts.length).length)->(s9 r.parts v r.parts.length)[i].si r.parts[i]/\(s9 r.parts v r.parts.length)[i].Ar 1:=λi h f=>by
   have e:(s9 r.parts v r.parts.length)[i]=qk r.parts[i] (i64.wrap (v+i)):=by simp[s9,dO h]
   rw[e];exact yui (p.2.2 _ (bU h)) _
  rw[aX d];refine⟨⟨j,λh=>absurd d h,λ_=>⟨yue ..,rfl,λi h f=>(n i h f).1⟩⟩,⟨Tf ..,λx k=>?_⟩⟩;obtain⟨i,o,rfl⟩:=qW.1 k;have b:i<(s9 r.parts v r.parts.length).length:=o;exact(n i (by rw[yue]at b;exact b) b).2
 .have l:=aC.cJ j d;have h:=yui ⟨l.1,l.2.1⟩ v;rw[bD d];refine⟨⟨j,λ_=>h.1,λf=>absurd f d⟩,⟨h.2,λx k=>?_⟩⟩;rw[h.1.1]at k;cases k
def yun(r:aC)(l:r.ok=true)(v:Int):zS 43 [enc r,g6 v] (enc (U0 r v)):=by
 by_cases d:r.kind=6;rotate_left
 .have b:=aC.cJ l d;have e:r=⟨r.kind,[]⟩:=by rw[<- b.2.2]
  have:=yum r.kind ⟨b.1,b.2.1⟩ v;rw[<- e]at this;rw[show U0 r v=qk r.kind v by unfold U0;rw[bD d]];exact this
 .have y:=aC.bQ l d;refine Sp.vz c.zu λ_=>?_;simp[g.zu,d]
  refine b6 (S:=λk:Nat=>aB [(1,f8 v),(2,i0 2),(4,i0 4),(6,i0 6),(7,f8 k)]
    [(2,⟨2,[.p (enc r)]⟩),(4,⟨8,[.agg [i4 false,.nil,.nil,f8 0,i4 false,.p (.int .u64 0),.nil,.nil]]⟩),
     (6,⟨8,[.agg [i4 false,.nil,.nil,f8 0,i4 false,.p (.int .u64 0),.nil,.own 5 0 0 k]]⟩),(5,⟨8,aK (s9 r.parts v k)⟩)])
   (I:=λk=>k<=r.parts.length) (m:=λk=>r.parts.length - k) 0
   ((aA.b5 (s0:=6) (g0:=0) (i:=7) (s:=77) (sz:=8) rfl).trans (aA.to [1,2,4,6,7] [((2,0),2),((4,0),4),((6,0),6),((77,0),5)] (by simp[s9,d]))) (by omega) ?_
  rintro k D R h z C;have n:=aZ k;simp[g.aag,aB];refine⟨λb=>?_,λb=>C _ _ ?_⟩
  .refine bK b ?_
   try simp
   have x:=yum r.parts[k] (y.2.2 _ (bU b)) (i64.wrap (v+k));have j:=yuz r.parts v k b;have f:=yue r.parts v k;refine aW x ?_;simp[n,f];exact⟨by omega,h (k+1) _ (aA.to [1,2,4,6,7] [((2,0),2),((4,0),4),((6,0),6),((80,0),5)] (by simp[aB,j,d])) (by omega) (by omega)⟩
  .have:k=r.parts.length:=by omega
   subst this;have u:U0 r v=.mk dP 0 false 0 [] (s9 r.parts v r.parts.length):=by unfold U0;rw[aX d]
   have o:(s9 r.parts v r.parts.length).take r.parts.length=s9 r.parts v r.parts.length:=eZ (by rw[yue];omega);simp[u,o,yue,dP]
def yus(k:Int):aC:=if k % 7=5 then⟨6,[1,2]⟩else if k % 7=6 then⟨6,[3,4,5]⟩else⟨k % 7+1,[]⟩
def yu7(k:Int):(yus k).ok=true:=by
 have h:k % 7=0\/k % 7=1\/k % 7=2\/k % 7=3\/k % 7=4\/k % 7=5\/k % 7=6:=by omega
 unfold yus;obtain h|h|h|h|h|h|h:=h<;>rw[h]<;>decide
def yvp(k:Int):zS 12 [g6 k] (enc (yus k)):=by have d:i64.wrap (k % 7+1)=k % 7+1:=cT;refine Sp.vz c.zz λ_=>?_;simp[g.zz];refine aW (s7 k 7 (by omega) (by omega)) ?_;simp;refine⟨λh=>by simp[yus,h],λh=>⟨λb=>by simp[yus,b],λb=>?_⟩⟩;have:=s7 (k % 7) 7 (by omega) (by omega);rw[Int.emod_emod]at this;refine aW this ?_;simp[yus,h,b,d]
def Su{k:Int}(f:1<=k/\k<=5):(dA k []).si k/\(dA k []).Ar 1:=by
 have h:k=1\/k=2\/k=3\/k=4\/k=5:=by omega
 have b:qm 1 (1:Rat):=UH (Uo 1 1 6 1 rfl (by decide)) (by omega);obtain rfl|rfl|rfl|rfl|rfl:=h
 .exact⟨xZ.2 ⟨rfl,rfl,rfl,rfl,rfl,vD 1⟩,by show qm 1 (cR 1).v;rw[kW];exact b,λe=>CL 1⟩
 .exact⟨pY.2 ⟨rfl,rfl,rfl,rfl,by decide,by decide,λh=>by cases h⟩,KR ..⟩
 .refine⟨wP.2 ⟨rfl,rfl,rfl,rfl,rfl,vD 1,?_,?_⟩,by show qm 1 (cR 1).v;rw[kW];exact b,λe=>CL 1⟩
  .show 0<=(cR 1).v;rw[kW];decide
  .show(cR 1).v<=1;rw[kW];exact Rat.le_refl
 .exact⟨Bf.2 ⟨rfl,rfl,rfl,rfl,rfl⟩,KR ..⟩
 .refine⟨Aq.2 ⟨rfl,rfl,rfl,rfl,rfl,YS 1⟩,?_,λe=>?_⟩
  .show qm 1 dP.v;rw[tJ];exact CL 1
  .have d:lU 6 6 (yd 1):=yar (Uo 1 1 6 1 rfl (by decide));exact UH (d e) (by omega)
def ya4{r:aC}(j:r.ok=true):r.one.aJ r/\r.one.mb 1:=by
 unfold aC.one;rw[aX j];by_cases f:r.kind=6
 .have u:=aC.bQ j f;rw[f];have e:dA 6 (r.parts.map λk=>dA k [])=.mk dP 0 false 0 [] (r.parts.map λk=>dA k []):=rfl;rw[e];have o:∀ i,(h:i<r.parts.length)->(d:i<(r.parts.map λk=>dA k []).length)->(r.parts.map λk=>dA k [])[i].si r.parts[i]/\(r.parts.map λk=>dA k [])[i].Ar 1:=λi h d=>by rw[Ce];exact Su (u.2.2 _ (bU h))
  refine⟨⟨j,λh=>absurd f h,λ_=>⟨ra ..,rfl,λi h d=>(o i h d).1⟩⟩,⟨Tf ..,λx l=>?_⟩⟩;obtain⟨i,p,rfl⟩:=qW.1 l;have b:i<(r.parts.map λk=>dA k []).length:=p;exact(o i (by rw[ra]at b;exact b) b).2
 .have n:=aC.cJ j f;have h:=Su ⟨n.1,n.2.1⟩;rw[n.2.2];exact⟨⟨j,λ_=>h.1,λd=>absurd d f⟩,⟨h.2,λx l=>by rw[show(dA r.kind ([].map λk=>dA k [])).parts=[] from h.1.1]at l;cases l⟩⟩
def tc(r:aC)(l:List Int)(i:Nat)(one:Int):GW:=if h:i<l.length then U0 r l[i]else if (i:Int)=one then r.one else r.zero
def WS{r:aC}(b:r.ok=true):r.zero.mb 0:=by unfold aC.zero;rw[aX b];refine⟨Tf ..,λx d=>?_⟩;obtain⟨k,_,rfl⟩:=cA.1 d;exact KR ..
def yvn(r:aC)(d:r.ok=true)(l:List Int)(i:Nat)(one:Int):zS 42 [enc r,.sl (ens l),g6 i,g6 one] (enc (tc r l i one)):=by
 refine Sp.vz c.zw λ_=>?_;simp[g.zw];refine⟨λh=>bK h ?_,λh=>⟨λb=>?_,λb=>?_⟩⟩
 .refine aW (yun r d l[i]) ?_;simp[tc,h]
 .refine aW (HQ r) ?_;simp[tc,b,show ¬ i<l.length by omega]
 .refine aW (F2 r) ?_;simp[tc,b,show ¬ i<l.length by omega]
inductive GW.lt:GW->Prop
 | mk {q:aT} {c:Int} {i:Bool} {s:UInt64} {p:List aF} {ps:List GW}:q.sm 3->p.length<=8->ps.length<=4->fP p 2->(∀ w∈ps,GW.lt w)->GW.lt (.mk q c i s p ps)
noncomputable instance (w:GW):Decidable w.lt:=Classical.propDecidable _
structure aU.lt (a:aU):Prop where
 ring:a.ring.parts.length<=6
 aM:a.aM.length<=6/\∀ w∈a.aM,w.lt
 fin:a.fin.length<=6/\∀ w∈a.fin,w.lt
 al:a.aD.length<=16
 aD:∀ x∈a.aD,x.w.lt
noncomputable instance (a:aU):Decidable a.lt:=Classical.propDecidable _
structure eg.lt (a:eg):Prop where
 ring:a.ring.parts.length<=6
 aM:a.aM.length<=5/\∀ w∈a.aM,w.lt
 fin:a.fin.length<=5/\∀ w∈a.fin,w.lt
 al:a.aD.length<=12
 aD:∀ x∈a.aD,x.w.lt
noncomputable instance (a:eg):Decidable a.lt:=Classical.propDecidable _
section
variable {E H s:Nat} (L:LB E H s)
def Oo{a:Nat}(k:a<=1048576):4294967296^a<=4294967296^1048576:=by
 generalize (1048576:Nat)=N at *
 exact Qb k
def He{x a:Nat}(h:x<4294967296^a)(k:a<=1048576):x<4294967296^1048576:=iL h (Oo k)
include L in
theorem z44{k:Int}(u:1<=k/\k<=5){v w:GW}{n:Nat}(l:v.qQ E H n)(o:w.qQ E H n)(hn:216<=jE s n)(hs:jE s n<=400000)(f:v.aJ ⟨k,[]⟩)(h:w.aJ ⟨k,[]⟩) :
  zS 130 [enc (⟨k,[]⟩:aC),enc v,enc w] (enc (fj k v w)):=by
 have i:(⟨k,[]⟩:aC).kind≠6:=by show k≠6;omega
 have b:=(DR L (f.2.1 i) l hn).mono (show jE s n<=1048576 by omega);have d:=(DR L (h.2.1 i) o hn).mono (show jE s n<=1048576 by omega);have:k=1\/k=2\/k=3\/k=4\/k=5:=by omega
 obtain rfl|rfl|rfl|rfl|rfl:=this
 .exact yfk v w b d f h
 .exact yfj v w b d f h
 .exact yfi v w b d f h
 .exact yfh v w b d f h
 .have j:H^(n / 100)*2^(n % 100) / 46656<4294967296^jE s n:=oY (Cc _ _) (xE L n);exact yfg v w b d f h _ _ _ (yg l.p) (yg o.p) (L.ya _) (He (DM L n) (by omega)) (He (P9 _ _ _ j j) (by omega))
include L in
theorem TV{m n:Nat}(j:jE s m<=400000)(hn:jE s n<=400000):E^(m / 100)*E^(n / 100)<4294967296^1048576/\46656*(H^(m / 100)*2^(m % 100) / 46656*(H^(n / 100)*2^(n % 100) / 46656))<4294967296^1048576:=by
 refine⟨?_,?_⟩
 .refine iL (uJ (DM L m) (DM L n)) ?_;rw[<- Nat.pow_add];exact Oo (by omega)
 .have d:=Jp (H^(m / 100)*2^(m % 100)) 46656;have f:=Jp (H^(n / 100)*2^(n % 100)) 46656;have i:=Mb d f;have b:=uJ (xE L m) (xE L n);rw[<- Nat.pow_add]at b;have h:4294967296^(jE s m+jE s n)<=4294967296^1048576:=Oo (by omega);exact oY (by omega) (iL b h)
include L in
theorem Pf{k:Int}(z:1<=k/\k<=5){v w:GW}{n:Nat}(j:v.qQ E H n)(l:w.qQ E H n)(hn:216<=jE s n)(hs:jE s n<=400000)(f:v.aJ ⟨k,[]⟩)(h:w.aJ ⟨k,[]⟩) :
  zS 32 [enc (⟨k,[]⟩:aC),enc v,enc w] (enc (iB k v w)):=by
 have i:(⟨k,[]⟩:aC).kind≠6:=by show k≠6;omega
 have o:=DR L (f.2.1 i) j hn;have u:=DR L (h.2.1 i) l hn;have b:=o.mono (show jE s n<=1048576 by omega);have d:=u.mono (show jE s n<=1048576 by omega);have:k=1\/k=2\/k=3\/k=4\/k=5:=by omega
 obtain rfl|rfl|rfl|rfl|rfl:=this
 .exact WB v w b d f h
 .exact WC v w b d f h
 .exact WD v w b d f h
 .exact WE v w b d f h
 .obtain⟨x,y⟩:=TV L hs hs;exact WG v w b d f h _ _ _ _ (yg j.p) (yg l.p) (L.ya _) (L.ya _) x y (o.aR.jX (by omega)) (u.aR.jX (by omega))
include L in
theorem yfe(r:aC){v w:GW}{n:Nat}(p:v.lb E H n)(u:w.lb E H n)(hn:216<=jE s n)(hs:jE s n<=400000)(b:v.aJ r)(f:w.aJ r):zS 130 [enc r,enc v,enc w] (enc (r.plus v w)):=by
 have j:=b.1;by_cases d:r.kind=6
 .exact yff r v w ((AH L b p hn).mono (by omega)) ((AH L f u hn).mono (by omega)) b f d λi h k x=>
   z44 L ((aC.bQ j d).2.2 _ (bU h)) (p.ps _ (bU k)) (u.ps _ (bU x)) hn hs (CN b d h k) (CN f d h x)
 .have l:=aC.cJ j d;have y:r=⟨r.kind,[]⟩:=by rw[<- l.2.2]
  have k:r.plus v w=fj r.kind v w:=by simp[aC.plus,d]
  rw[k,y];rw[y]at b f;exact z44 L ⟨l.1,l.2.1⟩ p.o u.o hn hs b f
include L in
theorem W0(r:aC){v w:GW}{n:Nat}(p:v.lb E H n)(u:w.lb E H n)(hn:216<=jE s n)(hs:jE s n<=400000)(b:v.aJ r)(f:w.aJ r):zS 32 [enc r,enc v,enc w] (enc (r.times v w)):=by
 have j:=b.1;by_cases d:r.kind=6
 .exact WH r v w ((AH L b p hn).mono (by omega)) ((AH L f u hn).mono (by omega)) b f d λi h k x=>
   Pf L ((aC.bQ j d).2.2 _ (bU h)) (p.ps _ (bU k)) (u.ps _ (bU x)) hn hs (CN b d h k) (CN f d h x)
 .have l:=aC.cJ j d;have y:r=⟨r.kind,[]⟩:=by rw[<- l.2.2]
  have k:r.times v w=iB r.kind v w:=by simp[aC.times,d]
  rw[k,y];rw[y]at b f;exact Pf L ⟨l.1,l.2.1⟩ p.o u.o hn hs b f
def yd5{r:aC}(b:r.ok=true)(E H:Nat):r.zero.lb E H 0:=by unfold aC.zero;rw[aX b];refine⟨LG ..,λx d=>?_⟩;obtain⟨k,_,rfl⟩:=cA.1 d;exact FC ..
def UL(r:aC)(hr:r.ok=true)(lim:Nat)(h1:216<=jE s lim)(h2:jE s lim<=400000):cQ r where
 mb n w:=w.lb E H n
 lim:=lim
 mono h k:=h.mono L k
 zero:=yd5 hr E H
 plus cv cw hv hw:=yfc L cv cw hv hw
 times cv cw hv hw:=z87 L cv cw hv hw
 plusS:=λ{v w n} hn cv cw hv hw=>yfe L r (hv.mono L hn) (hw.mono L hn) h1 h2 cv cw
 timesS:=λ{v w n} hn cv cw hv hw=>W0 L r (hv.mono L hn) (hw.mono L hn) h1 h2 cv cw
end
def GW.uY(w:GW):Nat:=w.q.v.den*s4 w.aR
def GW.den(w:GW):Nat:=w.uY*(w.parts.map GW.uY).foldr (· * ·) 1
def yV(l:List GW):Nat:=(l.map GW.den).foldr (· * ·) 1
theorem LD{a:Nat}:∀ {l:List Nat},a∈l->a ∣ l.foldr (· * ·) 1
 | x::l,h=>by
  obtain rfl|h:=cI.1 h
  .exact Jo _ _
  .exact B9 (LD h) (Jn _ _)
theorem LF:∀ {l:List Nat},(∀ x∈l,0<x)->0<l.foldr (· * ·) 1
 | [],_=>Nat.one_pos
 | x::l,h=>Cd (h x (by simp)) (LF λy b=>h y (by simp[b]))
theorem KL{a:Nat}:∀ {l:List Nat},(∀ x∈l,x<=4294967296^a)->l.foldr (· * ·) 1<=4294967296^(l.length*a)
 | [],_=>by simp
 | x::l,h=>by
  have:=mT (h x (by simp)) (KL (l:=l) λy b=>h y (by simp[b]));rw[<- Nat.pow_add]at this;have e:(x::l).length*a=a+l.length*a:=by simp[Ah];omega
  rw[e];exact this
structure GW.x6 (w:GW):Prop where
 q:w.q.sm 3
 l:w.aR.length<=8
 p:fP w.aR 3
structure GW.li (w:GW):Prop where
 o:w.x6
 l:w.parts.length<=4
 ps:∀ x∈w.parts,x.x6
def GW.sm.x6{w:GW}(h:w.sm 3):w.x6:=⟨h.q,by have:=h.len;omega,h.aR⟩
def GW.sm.li{w:GW}(h:w.sm 3):w.li:=⟨h.x6,by have:=h.uU;omega,λx b=>(h.parts x b).x6⟩
def z78{w:GW}(h:w.x6):w.uY<=4294967296^28:=by have a:=(yR h.q (by omega)).2;have b:=yfm h.p (by omega);have f:=h.l;have d:s4 w.aR<=4294967296^25:=Bd (iL b (pV (by omega) (by omega)));have:=mT (Bd a) d;rw[<- Nat.pow_add]at this;exact this
def TE(w:GW):0<w.uY:=Cd (C9 w.q.v.den_nz) (C9 (ya0 _))
def Zp{w:GW}(h:w.li):w.den<=4294967296^140:=by have:=mT (z78 h.o) (KL (a:=28) (l:=w.parts.map GW.uY) λx b=>by obtain⟨y,d,rfl⟩:=cA.1 b;exact z78 (h.ps y d));rw[<- Nat.pow_add]at this;refine dM this (pV (by omega) ?_);have:=h.l;rw[ra];omega
def yg2(w:GW):0<w.den:=Cd (TE w) (LF λx b=>by obtain⟨y,_,rfl⟩:=cA.1 b;exact TE y)
def ybg(l:List GW):0<yV l:=LF λx b=>by obtain⟨y,_,rfl⟩:=cA.1 b;exact yg2 y
def ygd{l:List GW}{n:Nat}(h:∀ w∈l,w.li)(b:l.length<=n):yV l<4294967296^(n*140+1):=by
 have:=KL (a:=140) (l:=l.map GW.den) λx d=>by obtain⟨y,f,rfl⟩:=cA.1 d;exact Zp (h y f)
 rw[ra]at this;refine oY this (Ju (by omega) ?_);have:=jU 140 b;omega
def ybh{l:List GW}{w:GW}(h:w∈l):w.den ∣ yV l:=LD (cA.2 ⟨w,h,rfl⟩)
def HH(E:Nat):Nat:=46656*4294967296^3*(pI*E)
def YV{E s:Nat}(h:0<E)(b:E<4294967296^s)(hs:s<=8000):LB E (HH E) s:=by
 refine⟨h,?_,b,?_,hs⟩
 .unfold HH;exact Jw _ (by decide +kernel)
 .have d:pI*E<4294967296^(4+s):=by rw[rN];exact uJ RT b
  have f:46656*4294967296^3<4294967296^4:=by decide +kernel
  have:=uJ f d;rw[<- Nat.pow_add]at this;have e:4+(4+s)=s+8:=by omega
  rw[e]at this;exact this
section
variable {E s:Nat} (L:LB E (HH E) s)
include L in
theorem Uq{x:aT}(j:x.sm 3)(hd:x.v.den ∣ E):qL E (HH E) 100 x.v:=by
 obtain⟨c,h⟩:=hd;have d:c≠0:=by rintro rfl;have:=L.e;omega
 have f:=zip c d (KP x.v);rw[<- h]at f;have i:=(yR j (by omega)).1;have:=JT L 0 1 (x.v.num.natAbs*c) (by rw[Nat.pow_one];exact f) (by
  rw[Nat.pow_one,Nat.pow_zero,Nat.mul_one];unfold HH;have a:x.v.num.natAbs*c<=4294967296^3*E:=mT (Bd i) (by rw[h];exact Jw _ (C9 x.v.den_nz));have b:E<=pI*E:=Jw _ yc4
  calc 46656*(x.v.num.natAbs*c)<=46656*(4294967296^3*E):=Aa _ a
   _=46656*4294967296^3*E:=by rw[pX]
   _<=_:=Aa _ b)
 exact this
theorem OE:∀ {p:List aF} {m:aF},m∈p->m.bE.v.den ∣ s4 p
 | x::p,m,h=>by
  obtain rfl|h:=cI.1 h
  .exact Jo _ _
  .exact B9 (OE h) (Jn _ _)
include L in
theorem Nc{w:GW}(hp:bS w.aR)(h:w.x6)(hd:w.uY ∣ E):w.qQ E (HH E) 100:=by
 refine⟨Uq L h.q (B9 (Jo _ _) hd),λe=>?_⟩;obtain b|⟨m,d,b⟩:=F0 hp e
 .rw[b];exact AL _
 .rw[b];exact Uq L (h.p m d) (B9 (OE d) (B9 (Jn _ _) hd))
include L in
theorem Zf{r:aC}{w:GW}(f:w.aJ r)(h:w.li)(hd:w.den ∣ E):w.lb E (HH E) 100:=by
 have j:w.uY ∣ E:=B9 (Jo _ _) hd;by_cases d:r.kind=6
 .obtain⟨l,e,p⟩:=f.2.2 d;refine⟨Nc L (by rw[e];exact D1) h.o j,λx b=>?_⟩;obtain⟨i,n,rfl⟩:=qW.1 b;exact Nc L (jJ (p i (by omega) n)) (h.ps _ b) (B9 (LD (cA.2 ⟨_,b,rfl⟩)) (B9 (Jn _ _) hd))
 .have k:=f.2.1 d;exact⟨Nc L (jJ k) h.o j,λx b=>by rw[k.1]at b;cases b⟩
end
structure GModel where
 st:Int
 aM:List Int
 fin:List Int
 aD:List Int
 em:Bool
instance:Enc GModel:=⟨λx=>.agg [g6 x.st,.sl (ens x.aM),.sl (ens x.fin),.sl (ens x.aD),.bool x.em],5,by decide,λ_=>rfl⟩
@[simp] theorem yj0(x:GModel):enc x=.agg [g6 x.st,.sl (ens x.aM),.sl (ens x.fin),.sl (ens x.aD),.bool x.em]:=rfl
@[simp] theorem ygs:Enc.sz GModel=5:=rfl
def fk(m:GModel)(s:Int):Int:=1+i64.wrap (m.st - 1) % s
def l7(a b:Int):Int:=i64.wrap (a.tdiv b)
def zaZ(m:GModel)(r:aC)(i o n a b c d:Int):aE:=⟨a % n,if m.em=true then b % (i+1)else 1+b % i,if m.em=true then l7 b (i+1) % (o+1)else 1+l7 b i % o,c % n,U0 r d⟩
def yuj(m:GModel)(r:aC)(i o n:Int)(k:Nat):List aE:=(List.range k).map λj=>zaZ m r i o n (m.aD.getD (4*j) 0) (m.aD.getD (4*j+1) 0) (m.aD.getD (4*j+2) 0) (m.aD.getD (4*j+3) 0)
def n0(r:aC)(l:List Int)(one:Int)(k:Nat):List GW:=(List.range k).map λj=>tc r l j one
def yuk(m:GModel)(r:aC)(i o s:Int):eg:=⟨r,i,o,fk m s,n0 r m.aM 0 (fk m s).toNat,n0 r m.fin (fk m s - 1) (fk m s).toNat,yuj m r i o (fk m s) (min 7 (m.aD.length / 4))⟩
theorem yvc(r:aC)(l:List Int)(one:Int)(k:Nat):n0 r l one (k+1)=n0 r l one k++[tc r l k one]:=by unfold n0;rw[B7,sS];rfl
def yuc(r:aC)(l:List Int)(one:Int)(k:Nat):(n0 r l one k).length=k:=by simp[n0]
def yug(m:GModel)(r:aC)(i o n:Int)(k:Nat):(yuj m r i o n k).length=k:=by simp[yuj]
def yvd(m:GModel)(r:aC)(i o n:Int)(k:Nat)(h:4*k+3<m.aD.length):yuj m r i o n (k+1)=yuj m r i o n k++[zaZ m r i o n m.aD[4*k] m.aD[4*k+1] m.aD[4*k+2] m.aD[4*k+3]]:=by unfold yuj;rw[B7,sS];simp[dO (show 4*k<m.aD.length by omega),dO (show 4*k+1<m.aD.length by omega),dO (show 4*k+2<m.aD.length by omega),dO h]
def yvk(m:GModel)(r:aC)(i o s:Int)(D:r.ok=true)(hi:1<=i/\i<=32)(ho:1<=o/\o<=32)(hs:1<=s/\s<=64):zS 13 [enc m,enc r,g6 i,g6 o,g6 s] (enc (yuk m r i o s)):=by
 have O:1<=fk m s/\fk m s<=s:=by have h1:=Int.emod_nonneg (i64.wrap (m.st - 1)) (show s≠0 by omega);have h2:=Int.emod_lt_of_pos (i64.wrap (m.st - 1)) (show 0<s by omega);unfold fk;omega
 have W:i64.wrap (1+i64.wrap (m.st - 1) % s)=fk m s:=cL (by unfold fk at O;omega) (by unfold fk at O;omega);have hT:yuk m r i o s=⟨r,i,o,fk m s,n0 r m.aM 0 (fk m s).toNat,n0 r m.fin (fk m s - 1) (fk m s).toNat,yuj m r i o (fk m s) (min 7 (m.aD.length / 4))⟩:=rfl;refine Sp.vz c.z6 λ_=>?_;simp[g.z6];refine aW (s7 (i64.wrap (m.st - 1)) s (by omega) (by omega)) ?_;simp[W];generalize fk m s=n at *
 obtain⟨b,rfl⟩:∃ b:Nat,n=b:=⟨n.toNat,by omega⟩;have Y:i64.wrap ((b:Int) - 1)=(b:Int) - 1:=cT
 refine b6 (S:=λk:Nat=>aB [(2,f8 i),(3,f8 o),(5,i0 5),(6,i0 6),(10,i0 10),(11,f8 b),(12,i0 12),(13,f8 k)]
   [(5,⟨5,[.p (enc m)]⟩),(6,⟨2,[.p (enc r)]⟩),(10,⟨8,[.agg [f8 0,.nil,f8 0,f8 0,f8 0,.nil,.nil,.nil]]⟩),
    (12,⟨8,[.agg [f8 r.kind,hW r.parts,f8 i,f8 o,f8 b,.own 1 0 0 k,.own 2 0 0 k,.nil]]⟩),(1,⟨8,aK (n0 r m.aM 0 k)⟩),(2,⟨8,aK (n0 r m.fin (b - 1) k)⟩)])
  (I:=λk=>k<=b) (m:=λk=>b - k) 0
  ((aA.b5 (s0:=12) (g0:=0) (i:=5) (s:=77) (sz:=8) rfl).trans ((aA.b5 (s0:=12) (g0:=0) (i:=6) (s:=78) (sz:=8) rfl).trans (aA.to [2,3,5,6,10,11,12,13] [((5,0),5),((6,0),6),((10,0),10),((12,0),12),((77,0),1),((78,0),2)] (by simp[n0])))) (by omega) ?_
 rintro k h1 R C ad hx;have X:=aZ k;simp[g.aad,aB];refine⟨λhk=>?_,λhk=>hx _ _ ?_⟩
 .refine aW (yvn r D m.aM k 0) ?_;simp[Y,yuc];refine⟨by omega,?_⟩;refine aW (yvn r D m.fin k (b - 1)) ?_;simp[X,yuc];refine⟨by omega,?_⟩;exact C (k+1) _ (aA.to [2,3,5,6,10,11,12,13] [((5,0),5),((6,0),6),((10,0),10),((12,0),12),((40,0),1),((52,0),2)] (by simp[aB,yvc])) (by omega) (by omega)
 .obtain rfl:b=k:=by omega
  simp;generalize hJ:min 7 (m.aD.length / 4)=J at *
  refine b6 (S:=λj:Nat=>aB [(2,f8 i),(3,f8 o),(5,i0 5),(6,i0 6),(10,i0 10),(11,f8 b),(12,i0 12),(14,f8 (4*(j:Int)))]
    [(5,⟨5,[.p (enc m)]⟩),(6,⟨2,[.p (enc r)]⟩),(10,⟨8,[.agg [f8 0,.nil,f8 0,f8 0,f8 0,.nil,.nil,.nil]]⟩),
     (12,⟨8,[.agg [f8 r.kind,hW r.parts,f8 i,f8 o,f8 b,.own 1 0 0 b,.own 2 0 0 b,.own 3 0 0 j]]⟩),(1,⟨8,aK (n0 r m.aM 0 b)⟩),(2,⟨8,aK (n0 r m.fin (b - 1) b)⟩),(3,⟨12,aK (yuj m r i o b j)⟩)])
   (I:=λj=>j<=J) (m:=λj=>J - j) 0
   ((aA.b5 (s0:=12) (g0:=0) (i:=7) (s:=77) (sz:=12) rfl).trans (aA.to [2,3,5,6,10,11,12,14] [((5,0),5),((6,0),6),((10,0),10),((12,0),12),((1,0),1),((2,0),2),((77,0),3)] (by simp[yuj]))) (by omega) ?_
  rintro j h2 R2 h af u;have x:i64.wrap (4*(j:Int)+1)=4*(j:Int)+1:=cT;have f2:i64.wrap (4*(j:Int)+2)=4*(j:Int)+2:=cT;have F:i64.wrap (4*(j:Int)+3)=4*(j:Int)+3:=cT;have G:i64.wrap (4*(j:Int)+4)=4*((j+1:Nat):Int):=by rw[cL];omega
  have g0:(4*(j:Int)).toNat=4*j:=by omega
  have y:(4*(j:Int)+1).toNat=4*j+1:=by omega
  have g2:(4*(j:Int)+2).toNat=4*j+2:=by omega
  have g3:(4*(j:Int)+3).toNat=4*j+3:=by omega
  have p0:0<=4*(j:Int):=by omega
  have z:0<=4*(j:Int)+1:=by omega
  have p2:0<=4*(j:Int)+2:=by omega
  have p3:0<=4*(j:Int)+3:=by omega
  simp[g.aae,aB,F,g0,p0];refine⟨λU=>⟨λV=>?_,λV=>u _ _ ?_⟩,λU=>u _ _ ?_⟩
  .have hj:4*j+3<m.aD.length:=by omega
   have l:=yvd m r i o b j hj;have f:=yug m r i o b j;refine bK (by omega) ?_;refine aW (s7 m.aD[4*j] b (by omega) (by omega)) ?_;simp[f2,g2,p2];refine bK (by omega) ?_;refine aW (s7 m.aD[4*j+2] b (by omega) (by omega)) ?_;simp[F,g3,p3];refine bK (by omega) ?_;refine aW (yun r D m.aD[4*j+3]) ?_;simp[x,y,z];refine bK (by omega) ?_;refine aW (s7 m.aD[4*j+1] i (by omega) (by omega)) ?_;have b1:=Int.emod_nonneg m.aD[4*j+1] (show i≠0 by omega);have b2:=Int.emod_lt_of_pos m.aD[4*j+1] (show 0<i by omega);have w1:i64.wrap (1+m.aD[4*j+1] % i)=1+m.aD[4*j+1] % i:=cT;simp[x,y,z,w1];refine bK (by omega) ⟨by omega,?_⟩;refine bA (s7 (l7 m.aD[4*j+1] i) o (by omega) (by omega)) (by simp[l7]) ?_;have c1:=Int.emod_nonneg (l7 m.aD[4*j+1] i) (show o≠0 by omega);have c2:=Int.emod_lt_of_pos (l7 m.aD[4*j+1] i) (show 0<o by omega);have w2:i64.wrap (1+l7 m.aD[4*j+1] i % o)=1+l7 m.aD[4*j+1] i % o:=cT;simp[w2];refine⟨λd=>?_,λd=>?_⟩
   .have Q:i64.wrap (i+1)=i+1:=cT;have wo:i64.wrap (o+1)=o+1:=cT;simp[x,y,z,Q];refine bK (by omega) ?_;refine aW (s7 m.aD[4*j+1] (i+1) (by omega) (by omega)) ?_;simp[x,y,z,Q,wo];refine bK (by omega) ⟨by omega,?_⟩;refine bA (s7 (l7 m.aD[4*j+1] (i+1)) (o+1) (by omega) (by omega)) (by simp[l7]) ?_;simp[G,f];exact⟨by omega,h (j+1) _ (aA.to [2,3,5,6,10,11,12,14] [((5,0),5),((6,0),6),((10,0),10),((12,0),12),((1,0),1),((2,0),2),((141,0),3)] (by simp[aB,l,zaZ,d])) (by omega) (by omega)⟩
   .simp[G,f];exact⟨by omega,h (j+1) _ (aA.to [2,3,5,6,10,11,12,14] [((5,0),5),((6,0),6),((10,0),10),((12,0),12),((1,0),1),((2,0),2),((141,0),3)] (by simp[aB,l,zaZ,d])) (by omega) (by omega)⟩
  all_goals
   obtain rfl:j=J:=by omega
   have t1:(n0 r m.aM 0 b).take b=n0 r m.aM 0 b:=eZ (by rw[yuc];omega);have t2:(n0 r m.fin (b - 1) b).take b=n0 r m.fin (b - 1) b:=eZ (by rw[yuc];omega);have t3:(yuj m r i o b j).take j=yuj m r i o b j:=eZ (by rw[yug];omega);simp[hT,yuc,yug,t1,t2,t3]
section
variable {r:aC}
def ckL(r:aC)(N:Nat)(l:List GW):Prop:=(∀ w∈l,w.aJ r)/\l.length=N
def Zm(r:aC)(N:Nat)(l:List aE):Prop:=∀ x∈l,x.w.aJ r/\x.fit N
structure swap (t u:eg):Prop where
 ring:u.ring=t.ring
 st:u.st=t.st
 aM:u.aM=t.aM
 fin:u.fin=t.fin
 aD:u.aD.Perm (t.aD.map swT)
structure ckT (r:aC) (t:eg):Prop where
 ring:t.ring=r
 rok:r.ok=true
 fin:ckL r t.st.toNat t.fin
 aD:Zm r t.st.toNat t.aD
end
section
variable {α : Type} {key : α -> List Int} {wt : α -> GW} {r:aC}
end
def sf:GW:=.mk (cR 1) 0 false 0 [] []
def DF:GW:=.mk (cR 2) 0 false 0 [] []
def uw:aC:=⟨1,[]⟩
def yfv:uw.one=sf:=by simp[aC.one,uw,aC.ok,sf,dA]
def Hz:sf.aJ uw:=⟨rfl,λ_=>xZ.2 ⟨rfl,rfl,rfl,rfl,rfl,vD 1⟩,λh=>by cases h⟩
def NP:sf.sm 3:=.one 1 ⟨dM D8.1 (by omega),dM D8.2 (by omega)⟩ (FI 3) (by simp)
def w11:uw.plus sf sf=DF:=by
 have:uw.plus sf sf=fj 1 sf sf:=rfl;rw[this];simp only[fj,cH,sf,DF,GW.qM,kW]
 congr 2
 exact(by decide +kernel:(1:Rat)+1=2)
def Zk:DF≠uw.zero:=by
 have:uw.zero=.mk dP 0 false 0 [] []:=by simp[aC.zero,uw,aC.ok]
 rw[this];intro h;simp only[DF,GW.mk.injEq]at h;have b:=congrArg aT.v h.1;rw[kW,tJ]at b;exact absurd b (by decide)
def rI:eg:=⟨uw,1,3,1,[sf],[sf],[⟨0,1,2,0,sf⟩,⟨0,1,3,0,sf⟩]⟩
def Jc:rI.ok:=by
 refine⟨rfl,by decide,by decide,by decide,by decide,rfl,rfl,by decide,?_,?_,?_⟩
 .intro x d;simp only[rI,cI,sF,or_false]at d;obtain rfl|rfl:=d
  .exact⟨by decide,by decide,by decide,by decide,by decide,by decide,by decide,by decide,Hz⟩
  .exact⟨by decide,by decide,by decide,by decide,by decide,by decide,by decide,by decide,Hz⟩
 .intro w b;simp[rI]at b;subst b;exact Hz
 .intro w b;simp[rI]at b;subst b;exact Hz
def Zc:rI.sm 3:=by
 refine⟨?_,?_,?_⟩
 .intro w b;simp[rI]at b;subst b;exact NP
 .intro w b;simp[rI]at b;subst b;exact NP
 .intro x d;simp only[rI,cI,sF,or_false]at d;obtain rfl|rfl:=d<;>exact NP
def ZZ:mY uw (rI.aD.map (fJ aE.i))=[⟨0,1,0,DF⟩]:=by
 have:eU aV.key (lO uw) id (bW aV.key (rI.aD.map (fJ aE.i)))=[⟨0,1,0,uw.plus sf sf⟩]:=by simp[rI,fJ,bW,eJ,eU,gS,aV.key,lO]
 unfold mY;rw[this,w11];simp[Zk]
def F1:zS 14 [] (.bool true):=by
 refine Sp.vz c.l8 λk=>?_;have f:=z60 rI 3 (by omega) (by omega) Zc (by simp[rI]) (by simp[rI]) (by simp[rI]);have l:ES rI rI.oa=⟨uw,1,1,[sf],[sf],[⟨0,1,0,DF⟩]⟩:=by simp only[ES,Jc,cH,aU.iV.2 (Ub Jc)];show aU.mk _ _ _ _ _ _=_;rw[<- ZZ];rfl
 have j:ER rI rI.oa=0:=by simp[ER,Jc,aU.iV.2 (Ub Jc)]
 rw[l,j]at f;have d:=HQ uw;rw[yfv]at d;simp[g.l8];refine bA d (by simp[uw]) ?_;simp;refine bA f (by simp[rI,uw]) ?_;simp;refine⟨λx _ h=>by omega,?_⟩;have b:=Cy 2 1 (by omega) (by omega) (by omega);rw[show Rat.divInt 2 1=2 by decide]at b;refine aW b ?_;have i:(cR 2).sm 1073741824:=⟨dM (show(cR 2).num.length<=1 from nR (by decide)) (by omega),dM (show(cR 2).den.length<=1 by decide) (by omega)⟩;simp[DF];refine aW (wF (cR 2) (cR 2) i) ?_;simp
structure aU.fit (a:aU):Prop where
 sm:a.sm 1048576
 li:a.aM.length<=1000000
 lf:a.fin.length<=1000000
 la:a.aD.length<=1000000
structure eg.fit (a:eg):Prop where
 sm:a.sm 1048576
 li:a.aM.length<=1000000
 lf:a.fin.length<=1000000
 la:a.aD.length<=1000000
structure GW.rR (r:aC) (w:GW):Prop where
 aJ:w.aJ r
 mb:w.mb 1
 pl:w.aR.length<=3
 ps:∀ x∈w.parts,x.aR.length<=3
theorem UB{k:Int}{w:GW}(hs:w.si k)(h:w.Ar 1)(f:w.aR.length<=3):w.sm 3:=by
 have l:=Dn hs;have j:=jJ hs;cases w with
 | mk q c i s p o =>
  have e:o=[]:=hs.1;subst e;have b:q.sm 3:=by
   have:=JU (n:=3) h.q (TU 1) (by decide) (by decide)
   rwa[show cR (GW.q (GW.mk q c i s p [])).v=q from sx l]at this
  have d:fP p 3:=AK h.p j (TU 1) (by decide) (by decide);exact .mk b d f (by simp) (by simp)
def GW.rR.sm{r:aC}{w:GW}(h:w.rR r):w.sm 3:=by
 by_cases b:r.kind=6
 .obtain⟨l,e,hs⟩:=h.aJ.2.2 b;have hp:=aC.bQ h.aJ.1 b;rw[e];refine .bM (by omega) λx d=>?_;obtain⟨i,hi,rfl⟩:=qW.1 d;exact UB (hs i (by omega) hi) (h.mb.ps _ d) (h.ps _ d)
 .exact UB (h.aJ.2.1 b) h.mb.o h.pl
theorem yu8(m:aF):∀ (q o:List aF),(gM m q o).length<=o.length+q.length
 | [],o=>by simp[gM]
 | x::q,o=>by have b:=yu8 m q (fS o (m.e.add x.e) (m.bE.v*x.bE.v));have d:=OI o (m.e.add x.e) (m.bE.v*x.bE.v);have e:gM m (x::q) o=gM m q (fS o (m.e.add x.e) (m.bE.v*x.bE.v)):=rfl;rw[e,qH];omega
def YR(q:Rat):(yd q).length<=1:=OI [] _ q
def yvi(v:Int):(yuw v).length<=3:=by
 have d:(fS [] ⟨0,0,0⟩ (Rat.divInt (v % 5 - 2) 3)).length<=1:=OI [] _ _;unfold yuw;simp only;split
 .refine dM (O7 _ _) ?_;have b:=YR (kv v);have f:(gE (tb (i64.wrap (v.tdiv 10) % 3)) (yd (kv v))).length<=1:=by
   unfold tb;split
   .have:=yu8 ⟨Ex.unit (i64.wrap (v.tdiv 10) % 3),cR 1⟩ (yd (kv v)) [];simp only[List.length_nil,sG]at this;exact dM this b
   .exact vI _
  omega
 .omega
def yu9(k v:Int):(qk k v).aR.length<=3:=by
 unfold qk;split
 .exact vI _
 .split
  .split
   .unfold aC.zero;split<;>exact vI _
   .exact vI _
  .split
   .exact vI _
   .split
    .exact vI _
    .exact yvi v
def yvl{k:Int}(b:1<=k/\k<=5)(v:Int):(qk k v).parts=[]:=(yui b v).1.1
def yuq{r:aC}(f:r.ok=true)(v:Int):(U0 r v).rR r:=by
 have h:=yvb f v;refine⟨h.1,h.2,?_,λx b=>?_⟩
 .unfold U0;split
  .exact vI _
  .exact yu9 _ _
 .unfold U0 at b;split at b
  .obtain⟨i,_,rfl⟩:=cA.1 (show x∈s9 r.parts v r.parts.length from b);exact yu9 _ _
  .rename_i j;have d:=aC.cJ f j;rw[yvl ⟨d.1,d.2.1⟩]at b;cases b
def Ss(k:Int)(ps:List GW):(dA k ps).aR.length<=3:=by
 show(if k=5 then yd 1 else[]).length<=3;split
 .have:=YR 1;omega
 .exact vI _
def BT{r:aC}(b:r.ok=true):r.one.rR r:=by
 have h:=ya4 b;refine⟨h.1,h.2,?_,λx d=>?_⟩
 .unfold aC.one;rw[aX b];exact Ss _ _
 .unfold aC.one at d;rw[aX b]at d;obtain⟨k,_,rfl⟩:=cA.1 (show x∈r.parts.map λk=>dA k [] from d);exact Ss _ _
def Ql{r:aC}(b:r.ok=true):r.zero.rR r:=by
 refine⟨yC b,(WS b).mono (by omega),?_,λx d=>?_⟩
 .unfold aC.zero;rw[aX b];exact vI _
 .unfold aC.zero at d;rw[aX b]at d;obtain⟨k,_,rfl⟩:=cA.1 (show x∈r.parts.map mP from d);exact vI _
def yvj{r:aC}(b:r.ok=true)(l:List Int)(i:Nat)(one:Int):(tc r l i one).rR r:=by
 unfold tc;split
 .exact yuq b _
 .split
  .exact BT b
  .exact Ql b
structure eg.tin (t:eg):Prop where
 ok:t.ok
 st:t.st<=3
 al:t.aD.length<=7
 aM:∀ w∈t.aM,w.rR t.ring
 fin:∀ w∈t.fin,w.rR t.ring
 aD:∀ x∈t.aD,x.w.rR t.ring
def yur{r:aC}(b:r.ok=true)(l:List Int)(one:Int)(k:Nat):∀ w∈n0 r l one k,w.rR r:=λw d=>by obtain⟨j,_,rfl⟩:=cA.1 d;exact yvj b _ _ _
def yva(m:GModel)(r:aC)(i o s:Int)(d:r.ok=true)(y:1<=i/\i<=32)(z:1<=o/\o<=32)(hs:1<=s/\s<=3):(yuk m r i o s).tin:=by
 have O:1<=fk m s/\fk m s<=s:=by have I:=Int.emod_nonneg (i64.wrap (m.st - 1)) (show s≠0 by omega);have J:=Int.emod_lt_of_pos (i64.wrap (m.st - 1)) (show 0<s by omega);unfold fk;omega
 have Q:(yuk m r i o s).aD.length=min 7 (m.aD.length / 4):=yug ..;have f:∀ x∈(yuk m r i o s).aD,z' x (yuk m r i o s)/\x.w.rR r:=λx f=>by
  obtain⟨j,_,rfl⟩:=cA.1 (show x∈yuj m r i o (fk m s) (min 7 (m.aD.length / 4)) from f);have u:=yuq d (m.aD.getD (4*j+3) 0);have g:∀ (a b:Int),0<b->0<=a % b/\a % b<b:=λa b h=>⟨Int.emod_nonneg a (by omega),Int.emod_lt_of_pos a h⟩;have n:=g (m.aD.getD (4*j) 0) (fk m s) (by omega);have p:=g (m.aD.getD (4*j+2) 0) (fk m s) (by omega);have C:=g (m.aD.getD (4*j+1) 0) (i+1) (by omega);have D:=g (m.aD.getD (4*j+1) 0) i (by omega);have F:=g (l7 (m.aD.getD (4*j+1) 0) (i+1)) (o+1) (by omega);have G:=g (l7 (m.aD.getD (4*j+1) 0) i) o (by omega);refine⟨⟨n.1,n.2,p.1,p.2,?_,?_,?_,?_,u.aJ⟩,u⟩
  .show 0<=if m.em=true then _ else _
   split<;>omega
  .show(if m.em=true then _ else _)<=i;split<;>omega
  .show 0<=if m.em=true then _ else _
   split<;>omega
  .show(if m.em=true then _ else _)<=o;split<;>omega
 have k:=yur d m.aM 0 (fk m s).toNat;have l:=yur d m.fin (fk m s - 1) (fk m s).toNat
 exact⟨⟨d,y,z,by show 0<=fk m s;omega,by show fk m s<=64;omega,by show((n0 r m.aM 0 (fk m s).toNat).length:Int)=fk m s;rw[yuc];omega,
  by show((n0 r m.fin (fk m s - 1) (fk m s).toNat).length:Int)=fk m s;rw[yuc];omega,by omega,λx h=>(f x h).1,λw h=>(k w h).aJ,λw h=>(l w h).aJ⟩,by show fk m s<=3;omega,by omega,k,l,λx h=>(f x h).2⟩
def eg.tin.sm{t:eg}(h:t.tin):t.sm 3:=⟨λw b=>(h.aM w b).sm,λw b=>(h.fin w b).sm,λx d=>(h.aD x d).sm⟩
def UC{r:aC}(M:cQ r){n:Nat}{l:List aE}(h:∀ x∈l,M.mb n x.w/\x.w.aJ r):∀ x∈cV r l,M.mb (l.length+n) x.w:=λx b=>by
 have i:=gB (key:=aE.key) l;have d:∀ x∈bW aE.key l,M.mb n x.w/\x.w.aJ r:=λx b=>h x ((i.2.2 x).1 b)
 have j:=HL (key:=aE.key) (up:=lE r) (nw:=id) (Q:=λk x=>M.mb (k+n) x.w/\x.w.aJ r) (λk x b=>⟨M.mono b.1 (by omega),b.2⟩) (l:=bW aE.key l) (λx b=>⟨M.mono (d x b).1 (by show n<=0+n;omega),(d x b).2⟩)
  (λk z x b f=>⟨by have:=M.plus f.2 (d x b).2 f.1 (M.mono (d x b).1 (by omega));exact M.mono this (by omega),(BU f.2 (d x b).2:(r.plus z.w x.w).aJ r)⟩) (λk x b=>⟨M.mono b.1 (by omega),b.2⟩) _ (dE _)
 rw[eZ (dE _),i.2.1]at j;exact(j.2 x (kI.1 b).1).1
def eg.jP(t:eg):List GW:=t.aM++(t.fin++t.aD.map aE.w)
def ltW{x a b:Nat}(h:x<4294967296^a)(k:a<=b):x<4294967296^b:=iL h (Qb k)
def aF.nD(m x:aF):aF:=⟨m.e.add x.e,cR (m.bE.v*x.bE.v)⟩
def nC(l:List aF):List aF:=l.filter λm=>m.e.ok
def oU(p q:List aF):List aF:=p.flatMap λm=>q.map m.nD
def HP(a b:List aF):nC (a++b)=nC a++nC b:=tW ..
def Nd{l:List aF}:∀ m∈nC l,m.e.ok=true:=λm h=>(kI.1 h).2
def ZF(m:aF)(e:Ex):pc (nC [m]) e=if m.e.ok=true/\m.e=e then m.bE.v else 0:=by unfold nC;cases h:m.e.ok<;>simp[h,pc,qY]
theorem KJ(m:aF):∀ (q o:List aF) (e:Ex),pc (gM m q o) e=pc o e+pc (nC (q.map m.nD)) e
 | [],o,e=>by simp[gM,nC,pc,qY]
 | x::q,o,e=>by have h:gM m (x::q) o=gM m q (fS o (m.e.add x.e) (m.bE.v*x.bE.v)):=rfl;rw[h,KJ m q,KI,jH,show m.nD x::q.map m.nD=[m.nD x]++q.map m.nD from rfl,HP,Er,ZF,Af];simp only[aF.nD,kW]
theorem OD:∀ (p q o:List aF) (e:Ex),pc (p.foldl (λo m=>gM m q o) o) e=pc o e+pc (nC (oU p q)) e
 | [],q,o,e=>by simp[oU,nC,pc,qY]
 | m::p,q,o,e=>by rw[C8,OD p q,KJ,show oU (m::p) q=q.map m.nD++oU p q from rfl,HP,Er,Af]
def SC(p q:List aF)(e:Ex):pc (gE p q) e=pc (nC (oU p q)) e:=by have:=OD p q [] e;simpa[gE,pc,Rat.zero_add]using this
def um(p q:List aF)(i k:Nat):List aF:=nC (oU (p.take i) q)++nC ((q.take k).map (p.getD i ⟨⟨0,0,0⟩,dP⟩).nD)
def T3(p q:List aF):um p q 0 0=[]:=by simp[um,oU,nC]
theorem YZ{p q:List aF}{i k:Nat}(b:i<p.length)(d:k<q.length):um p q i (k+1)=um p q i k++nC [p[i].nD q[k]]:=by unfold um;rw[ed d,sS,HP,sI,eV,dO b];rfl
def YF(p:List aF)(m:aF)(q:List aF):oU (p++[m]) q=oU p q++q.map m.nD:=by simp[oU]
def T4{p q:List aF}{i:Nat}(b:i<p.length):um p q i q.length=um p q (i+1) 0:=by unfold um;rw[ed b,YF,HP,kK,eV,dO b];simp[nC]
def z41(p q:List aF):um p q p.length 0=nC (oU p q):=by simp[um,nC]
theorem Z1{p q:List aF}{i k:Nat}(b:i<p.length)(e:Ex):pc (um p q i k) e=pc (gM p[i] (q.take k) (gE (p.take i) q)) e:=by unfold um;rw[Er,KJ,SC,eV,dO b];rfl
def z40{p q:List aF}{L:List (Ex × aT)}(h:jN (nC (oU p q)) L):(gE p q).Perm (nz L):=by
 have f:∀ m∈nz L,m.ok=true:=λm o=>by obtain⟨y,l⟩:=KF o;obtain⟨n,x,z,C⟩:=h.mem y;simp only at n C;refine aF.b0.2 ⟨?_,by rw[n];exact vD _,l⟩;rw[<- C];exact Nd x z
 let le:aF->aF->Bool:=λa b=>decide (b.e.code<=a.e.code)
 have d:((nz L).mergeSort le).Perm (nz L):=List.mergeSort_perm _ _;have i:((nz L).mergeSort le).Pairwise λa b=>le a b=true:=List.pairwise_mergeSort (λa b c y l=>by simp only[le,decide_eq_true_eq]at *;omega) (λa b=>by simp only[le,Dc,decide_eq_true_eq];omega) _;have u:(((nz L).mergeSort le).map (·.e)).Nodup:=(d.map _).nodup_iff.2 (Lx h.Cp);have k:bS ((nz L).mergeSort le):=by
  refine iA.2 ⟨λm o=>f m (d.mem_iff.1 o),?_⟩;have l:((nz L).mergeSort le).Pairwise λa b=>a.e≠b.e:=List.pairwise_map.1 u;refine(i.and l).imp_of_mem λ{a b} D F j=>?_;have I:=(aF.b0.1 (f a (d.mem_iff.1 D))).1;have J:=(aF.b0.1 (f b (d.mem_iff.1 F))).1;have n:b.e.code<=a.e.code:=by simpa[le]using j.1
  have z:b.e.code≠a.e.code:=λG=>j.2 ((Ex.mG J I).1 G).symm;omega
 have:gE p q=(nz L).mergeSort le:=by refine Ip (AX p q) k λe=>?_;rw[SC,Sz d,NL e h.Cp,h.G3]
 rw[this];exact d
def Vb{p:List aF}(h:bS p):p.Pairwise λx y=>y.e.cmp x.e<0:=by have d:=iA.1 h;refine d.2.imp_of_mem λ{a b} f i h=>?_;exact(Ex.mH (aF.b0.1 (d.1 b i)).1 (aF.b0.1 (d.1 a f)).1).2 h
def Uh{p q:List aF}{N i k:Nat}(l:i<p.length)(j:fP (gM p[i] (q.take k) (gE (p.take i) q)) N)(n:bS (gM p[i] (q.take k) (gE (p.take i) q))):∀ x∈qS (um p q i k) [],x.1.ok=true/\x.2.sm N:=by
 intro x o;obtain⟨b,m,d,f⟩:=(Bq (um p q i k)).mem o;refine⟨?_,?_⟩
 .rw[<- f];obtain h|h:=dN.1 d
  .exact Nd m h
  .exact Nd m h
 .rw[b,Z1 l];obtain h|⟨y,u,h⟩:=F0 n x.1
  .rw[h,show cR 0=dP from yA];exact yf N
  .rw[h];exact Uz (j y u)
def GF(m:aF)(L:List (Ex × aT)):List (Ex × aT):=if m.e.ok=true then lJ m L else L
def YI(m:aF)(L:List (Ex × aT))(j:(0<=m.e.a/\m.e.a<=10)/\(0<=m.e.b/\m.e.b<=10)/\0<=m.e.c/\m.e.c<=10)(i:m.bE.sm 1048576)(f:∀ p∈L,p.1.ok=true/\p.2.sm 1048576) :
  DH P 291 (n3 L) (pD L) [enc m.e,enc m.bE] (n3 (GF m L)) (pD (GF m L)):=by
 unfold GF;by_cases d:m.e.ok=true
 .rw[aX d];exact Mr m L d i f
 .rw[bD d];refine DH.fZ c.b7 (by simp) λr=>?_;show MR P _ _ _ _ (Km r (n3 L) (pD L));simp only[Ex.ok,decide_eq_true_eq]at d;unfold g.b7;refine MR.dG ?_;simp;refine MR.dG ?_;simp;refine bA (MG m.e ⟨⟨by omega,by omega⟩,⟨by omega,by omega⟩,by omega,by omega⟩) rfl ?_;simp;refine MR.eY (t:=false) (by simp;omega) (λh=>by cases h) (λ_=>MR.pE ⟨.inl rfl,.inr ⟨rfl,by simp⟩⟩)
def Xx(ms:List aF)(m:aF):qS (ms++nC [m]) []=GF m (qS ms []):=by
 unfold GF;cases h:m.e.ok
 .simp[nC,h]
 .simp[nC,h,qS]
structure qN (p q:List aF):Prop where
 hp:fP p 524288
 hq:fP q 524288
 hm:∀ i k (h:i<p.length),fP (gM p[i] (q.take k) (gE (p.take i) q)) 1048576
def Dv(r:Nat)(p q:List aF)(i:Nat):St:=aB [(1,hW q),(5,.p (.fM r)),(14,hW p),(15,f8 p.length),(16,f8 i)] []
def Co(r:Nat)(p q:List aF)(i:Nat)(m:aF)(k:Nat):St:=aB [(1,hW q),(5,.p (.fM r)),(7,i0 2),(14,hW p),(15,f8 p.length),(16,f8 i),(21,hW q),(22,f8 q.length),(23,f8 k)] [(2,⟨6,[.p (enc m)]⟩)]
def Bj(r:Nat)(p q:List aF)(i k:Nat):Option FA:=some (sN r (n3 (qS (um p q i k) [])) (pD (qS (um p q i k) [])))
def puI(r:Nat)(p q:List aF)(n:Nat)(s:St)(B:Option FA):Prop:=∃ i,i<=p.length/\n=p.length - i/\aA s (Dv r p q i)/\B=Bj r p q i 0
def puJ(r:Nat)(p q:List aF)(i:Nat)(m:aF)(n:Nat)(s:St)(B:Option FA):Prop:=∃ k,k<=q.length/\n=q.length - k/\aA s (Co r p q i m k)/\B=Bj r p q i k
def puE(r:Nat)(p q:List aF)(b:Exit)(s:St)(B:Option FA):Prop:=b=.exit 0/\aA s (Dv r p q p.length)/\B=Bj r p q p.length 0
def puF(r:Nat)(p q:List aF)(i:Nat)(m:aF)(b:Exit)(s:St)(B:Option FA):Prop:=b=.exit 2/\aA s (Co r p q i m q.length)/\B=Bj r p q i q.length
def Y2(r:Nat)(p q:List aF)(Q:bS p)(R:bS q)(h:qN p q)(U:p.length<=216)(V:q.length<=216){i:Nat}(n:i<p.length){s:St}(y:aA s (Co r p q i p[i] 0)) :
  MR P 54 (GC.loop g.ui).er s (Bj r p q i 0) (puF r p q i p[i]):=by
 refine MR.nL (I:=puJ r p q i p[i]) q.length ⟨0,by omega,by omega,y,rfl⟩ ?_;rintro W s B ⟨k,S,rfl,y,rfl⟩;refine MR.eE y ?_;unfold g.ui;refine MR.dG ?_;simp[Co,aB];by_cases j:k<q.length
 .refine MR.cK (MR.eY (t:=true) (by simp[j]) (λ_=>MR.pE ⟨λ_=>?_,λh=>absurd rfl h⟩) (λh=>by cases h));simp;refine MR.cK (MR.kR (MR.dG ?_));simp;refine bK j ?_;refine MR.dG ?_;simp;refine MR.dG ?_;have o:∀ {e:Ex},e.ok=true->(0<=e.a/\e.a<=5)/\(0<=e.b/\e.b<=5)/\0<=e.c/\e.c<=5:=λh=>by rw[Ex.b0]at h;omega
  have X:=o (aF.b0.1 (Q i n).1).1;have Y:=o (aF.b0.1 (R k j).1).1;have F:i64.wrap (p[i].e.a+q[k].e.a)=p[i].e.a+q[k].e.a:=cT;have G:i64.wrap (p[i].e.b+q[k].e.b)=p[i].e.b+q[k].e.b:=cT;have J:i64.wrap (p[i].e.c+q[k].e.c)=p[i].e.c+q[k].e.c:=cT;simp;refine jT λx d l f=>?_;simp[g.qz,F];refine d _ ?_;clear d f l;refine jT λx d l f=>?_;simp[g.qz,G];refine d _ ?_;clear d f l;refine jT λx d l f=>?_;simp[g.qz,J];refine d _ ?_;clear d f l;refine jT λx d l f=>?_;simp[g.qz];refine f _ _ ?_;clear d f l;simp;refine MR.yW rfl (by decide) ?_;simp;have z:=aT.sm.mono (h.hp _ (bU n)) (show 524288<=1048576 by omega);have C:=aT.sm.mono (h.hq _ (bU j)) (show 524288<=1048576 by omega);refine bA (SN p[i].bE q[k].bE z C) rfl ?_;simp;have O:=Uh (k:=k) n (h.hm i k n) (Ec _ (AX _ _));refine Ma (args:=[enc (p[i].e.add q[k].e),enc (cR (p[i].bE.v*q[k].bE.v))]) (YI (p[i].nD q[k]) _ ⟨⟨by show 0<=p[i].e.a+q[k].e.a;omega,by show p[i].e.a+q[k].e.a<=10;omega⟩,⟨by show 0<=p[i].e.b+q[k].e.b;omega,by show p[i].e.b+q[k].e.b<=10;omega⟩,by show 0<=p[i].e.c+q[k].e.c;omega,by show p[i].e.c+q[k].e.c<=10;omega⟩ ((QG (h.hp _ (bU n)) (h.hq _ (bU j)) (by omega)).mono (by omega)) O) (by simp[Ex.add]) (Ik _) (Il _) ?_;simp;refine⟨λ_=>MR.cE ?_,λh=>absurd rfl h⟩;have D:=aZ k;simp[D];refine⟨_,?_,k+1,by omega,rfl,aA.to [1,5,7,14,15,16,21,22,23] [((2,0),2)] (by simp[Co,aB]),?_⟩
  .omega
  .simp only[Bj];rw[YZ n j,Xx]
 .have u:k=q.length:=by omega
  refine MR.cK (MR.eY (t:=false) (by simp[j]) (λh=>by cases h) (λ_=>MR.uW ⟨λh=>(by cases h),λ_=>⟨λh=>(by cases h),λ_=>⟨rfl,?_,?_⟩⟩⟩))
  .exact aA.to [1,5,7,14,15,16,21,22,23] [((2,0),2)] (by simp[Co,aB,u])
  .rw[u]
theorem Qc:∀ p q:List aF,(oU p q).length=p.length*q.length
 | [],q=>by simp[oU]
 | m::p,q=>by rw[show oU (m::p) q=q.map m.nD++oU p q from rfl,gQ,ra,Qc p q,qH,Ah];omega
def YU(p q:List aF)(F:bS p)(G:bS q)(h:qN p q):zS 242 [.sl (ens p),.sl (ens q)] (.sl (ens (gE p q))):=by
 have O:=tU F;have Q:=tU G;have C:fP p 1048576:=λm u=>aT.sm.mono (h.hp m u) (by omega);have D:fP q 1048576:=λm u=>aT.sm.mono (h.hq m u) (by omega);refine Sp.fZ c.pi (by simp) ?_;unfold g.pi;generalize S:(λo s (_:Option FA)=>iD [(4,none)] (RV.pure (.sl (ens (gE p q)))) o s)=Post;refine MR.dG ?_;simp;refine MR.cK (MR.mC (eC.cons (I4 λr=>?_)));refine xT [[12]] ?_;simp;refine MR.cK (MR.dG ?_);simp;refine bA (ID p C (by omega)) rfl ?_;simp[zG F];refine MR.kR (MR.mono (MR.nL (Post:=puE r p q) (I:=puI r p q) p.length ⟨0,by omega,by omega,aA.to [1,5,14,15,16] [] (by simp[Dv,aB]),by simp[Bj,T3,qS,n3,pD]⟩ ?_) ?_)
 .rintro Y s B ⟨i,X,rfl,l,rfl⟩;refine MR.eE l ?_;unfold g.xb;refine MR.dG ?_;simp[Dv,aB];by_cases d:i<p.length
  .refine MR.cK (MR.eY (t:=true) (by simp[d]) (λ_=>MR.pE ⟨λ_=>?_,λh=>absurd rfl h⟩) (λh=>by cases h));simp;refine MR.cK (MR.kR (MR.dG ?_));simp;refine bK d ?_;refine MR.dG ?_;simp;refine bA (ID q D (by omega)) rfl ?_;simp[zG G];refine MR.kR (MR.mono (Y2 r p q F G h O Q d (aA.to [1,5,7,14,15,16,21,22,23] [((7,0),2)] (by simp[Co,aB]))) ?_);rintro o s B ⟨rfl,l,rfl⟩;have R:=aZ i;refine⟨λ_=>MR.eE l (MR.cE ?_),λh=>absurd rfl h⟩;simp[Co,aB,R];refine⟨_,?_,i+1,by omega,rfl,aA.to [1,5,14,15,16] [] (by simp[Dv,aB]),?_⟩
   .omega
   .simp only[Bj];rw[T4 d]
  .have j:i=p.length:=by omega
   refine MR.cK (MR.eY (t:=false) (by simp[d]) (λh=>by cases h) (λ_=>MR.uW ⟨λh=>(by cases h),λ_=>⟨λh=>(by cases h),λ_=>⟨rfl,?_,?_⟩⟩⟩))
   .exact aA.to [1,5,14,15,16] [] (by simp[Dv,aB,j])
   .rw[j]
 .rintro o s B ⟨rfl,l,rfl⟩;refine⟨λ_=>?_,λh=>absurd rfl h⟩;have b:=Bq (nC (oU p q));have z:∀ x∈qS (nC (oU p q)) [],x.2.sm 1048576:=by
   rw[<- z41];cases y:p.length with
   | zero=>intro x f;rw[T3]at f;cases f
   | succ n =>
    have:=Uh (p:=p) (q:=q) (k:=q.length) (i:=n) (by omega) (h.hm n q.length (by omega)) (Ec _ (AX _ _));rw[T4 (by omega)]at this;exact λx f=>(this x f).2
  unfold Bj;rw[z41];refine MR.eE l (MR.freeze (t:=5) rfl ?_);refine MR.cE ?_;subst S;simp[Dv,aB];have y:=tU (AX p q);have J:(nC (oU p q)).length<=46656:=by
   have U:(oU p q).length=p.length*q.length:=by exact Qc p q
   have V:=mT O Q;have W:(nC (oU p q)).length<=(oU p q).length:=kB _ _;omega
  refine EF (MK r (qS (nC (oU p q)) []) (λx f=>aT.sm.mono (z x f) (by omega)) b.Cp (by have:=b.len;omega) (gE p q) (z40 b) (Vb (AX p q))) (by simp) ⟨jF _ _ rfl,by decide,by simp[-gW,ens,eL];omega⟩ _ rfl ?_;simp[aI]
def OM(v w:GW)(b:v.sm 1048576)(d:w.sm 1048576):zS 200 [enc v,enc w] (enc (iB 1 v w)):=by refine Sp.vz c.bw λ_=>?_;simp[g.bw];refine bA (SN v.q w.q b.q d.q) rfl ?_;simp[iB]
def Wl(v w:GW):zS 228 [enc v,enc w] (enc (iB 4 v w)):=by refine Sp.vz c.fa λ_=>?_;simp[g.fa,iB,Pm]
def ycb(v w:GW)(i:v.si 2)(j:w.si 2):zS 212 [enc v,enc w] (enc (iB 2 v w)):=by
 refine Sp.vz c.bz λ_=>?_;have k:=pY.1 i;have l:=pY.1 j;have h:i64.wrap (v.cost+w.cost)=v.cost+w.cost:=cT;obtain b|b:=iK v.inf
 .simp[g.bz,iB,b,dP]
 obtain d|d:=iK w.inf
 .simp[g.bz,iB,b,d,dP]
 simp[g.bz,iB,b,d,h];refine⟨λf=>by simp[f,dP],λf=>by simp[show ¬ 1099511627776<v.cost+w.cost by omega,dP]⟩
def XN(v w:GW)(b:bS v.aR)(d:bS w.aR)(h:qN v.aR w.aR):zS 241 [enc v,enc w] (enc (iB 5 v w)):=by refine Sp.vz c.ir λ_=>?_;simp[g.ir];refine bA (YU v.aR w.aR b d h) rfl ?_;simp[iB,dP]
def P5(k:Int)(j:1<=k/\k<=5)(v w:GW)(b:v.sm 1048576)(d:w.sm 1048576)(f:v.si k)(h:w.si k)(i:k=5->qN v.aR w.aR):Sp P (UN k) [enc v,enc w] (.pure (enc (iB k v w))):=by
 have:k=1\/k=2\/k=3\/k=4\/k=5:=by omega
 obtain rfl|rfl|rfl|rfl|rfl:=this
 .exact OM v w b d
 .exact ycb v w f h
 .have e:iB 3 v w=iB 1 v w:=by rw[iB,iB];simp
  rw[e];exact OM v w b d
 .exact Wl v w
 .exact XN v w (f.2.2.2.2.2.2.2.2 rfl) (h.2.2.2.2.2.2.2.2 rfl) (i rfl)
def W1(r:aC)(v w:GW)(j:v.sm 1048576)(k:w.sm 1048576)(h:v.aJ r)(i:w.aJ r)(f:r.kind≠6)(o:r.kind=5->qN v.aR w.aR):zS 114 [enc r,enc v,enc w] (enc (iB r.kind v w)):=by have d:=h.1;have b:=aC.cJ d f;have u:v.tk r=v:=aX h;have x:w.tk r=w:=aX i;have l:=B3 r v j;have n:=B3 r w k;rw[u]at l;rw[x]at n;refine Sp.vz c.bl λ_=>?_;simp[g.bl];refine bA (A8 r) rfl ?_;simp[d];refine aW l ?_;simp;refine aW n ?_;simp[f];obtain⟨C,f6,D,F,y,z,p⟩:=ym r.kind ⟨b.1,b.2.1⟩;refine bA (CE r.kind ⟨b.1,b.2.1⟩) rfl ?_;simp[p];refine aW (P5 r.kind ⟨b.1,b.2.1⟩ v w j k (h.2.1 f) (i.2.1 f) o) ?_;simp
def YK(k:Int)(b:1<=k/\k<=5)(v w:GW)(i:Nat)(l:i<v.parts.length)(o:i<w.parts.length)(F:i<=3)(h:v.parts[i].sm 1048576)(j:w.parts[i].sm 1048576)(p:v.parts[i].si k)(u:w.parts[i].si k)(d:k=5->qN v.parts[i].aR w.parts[i].aR) :
  zS 156 [xI k,g6 i,.ref (enc v),.ref (enc w)] (enc (iB k v.parts[i] w.parts[i])):=by
 obtain⟨z,f6,C,D,x,y,f⟩:=ym k b;rw[f];refine Sp.fD c.kb (by simp) ((aA.dV (t:=2) (v:=enc v) (n:=8) (by simp) (by simp)).trans (aA.dV (t:=3) (v:=enc w) (n:=8) (by simp) (by simp))) ?_;simp[g.kb];refine bK l ?_;refine bK o ?_;refine aW (P5 k b v.parts[i] w.parts[i] h j p u d) ?_;simp
def X8(r:aC)(v w:GW)(n:v.sm 1048576)(o:w.sm 1048576)(d:v.aJ r)(j:w.aJ r)(z:r.kind=5->qN v.aR w.aR)(k:∀ i (h:i<r.parts.length) (p:i<v.parts.length) (J:i<w.parts.length),r.parts[i]=5->qN v.parts[i].aR w.parts[i].aR) :
  zS 114 [enc r,enc v,enc w] (enc (r.times v w)):=by
 have f:=d.1;by_cases b:r.kind=6;rotate_left
 .have p:r.times v w=iB r.kind v w:=by simp[aC.times,b]
  rw[p];exact W1 r v w n o d j b z
 have l:=aC.bQ f b;have G:v.tk r=v:=aX d;have I:w.tk r=w:=aX j;have u:=B3 r v n;have x:=B3 r w o;rw[G]at u;rw[I]at x;have D:=(d.2.2 b).1;have F:=(j.2.2 b).1;have C:(qD r.parts v.parts w.parts).length=r.parts.length:=Gp D F;refine Sp.vz c.bl λ_=>?_;simp[g.bl];refine bA (A8 r) rfl ?_;simp[f];refine aW u ?_;simp;refine aW x ?_;simp[b];refine bA (HC r l.2.2 l.2.1 156 [.ref (enc v),.ref (enc w)] (qD r.parts v.parts w.parts) C λi h y=>?_) ?_ ?_
 .rw[Gn h (by omega) (by omega) y];exact YK r.parts[i] (l.2.2 _ (bU h)) v w i (by omega) (by omega) (by omega) (n.parts _ (bU _)) (o.parts _ (bU _)) ((d.2.2 b).2.2 i h (by omega)) ((j.2.2 b).2.2 i h (by omega)) (k i h (by omega) (by omega))
 .simp[A7,AJ,b]
 simp[aC.times,b]
def ye9(p q:List aF)(D f B j:Nat)(hp:bS p)(I:bS q)(J:lU D B p)(O:lU f j q)(l:D≠0)(d:f≠0)(G:D*f<4294967296^1048576)
  (F:46656*(B*j)<4294967296^1048576) (hs:fP p 524288) (o:fP q 524288):qN p q:=by
 have U:=tU hp;have n:=tU I;have y:=Eb J hp;have z:=Eb O I;have b:D*f≠0:=yr2 l d;refine⟨hs,o,λi k h=>?_⟩;have Q:=KN (m:=p[i]) (q:=q.take k) (y _ (bU h)) (λx u=>z x (iC u)) (KK (p:=p.take i) (λx u=>y x (iC u)) z b) b;refine AK Q (Ec _ (AX _ _)) b G (oY ?_ F);have R:(p.take i).length+1<=216:=by simp;omega
 have S:(q.take k).length<=216:=by simp;omega
 clear G F;generalize B*j=C at *
 calc (p.take i).length*(q.length*C)+(q.take k).length*C<=(p.take i).length*(216*C)+1*(216*C):=Nat.add_le_add (Aa _ (jU _ n)) (by rw[Nat.one_mul];exact jU _ S)
  _=((p.take i).length+1)*(216*C):=by rw[sT]
  _<=216*(216*C):=jU _ R
  _=46656*C:=by omega
structure dB {r:aC} (M:cQ r):Prop where
 pw:∀ {v w:GW} {n:Nat},n<=M.lim->v.aJ r->w.aJ r->M.mb n v->M.mb n w->zS 74 [enc r,enc v,enc w] (enc (r.plus v w))
 rS:∀ {v w:GW} {n:Nat},n<=M.lim->v.aJ r->w.aJ r->M.mb n v->M.mb n w->zS 114 [enc r,enc v,enc w] (enc (r.times v w))
 pr:∀ {w:GW} {n:Nat},n<=M.lim->w.aJ r->M.mb n w->w.sm 400000
section
variable {E H s:Nat} (L:LB E H s)
include L in
theorem Ug{v w:GW}{n:Nat}(d:v.qQ E H n)(f:w.qQ E H n)(hs:jE s n<=400000)(pv:bS v.aR)(h:bS w.aR):qN v.aR w.aR:=by have b:H^(n / 100)*2^(n % 100) / 46656<4294967296^jE s n:=oY (Cc _ _) (xE L n);have k:fP v.aR (jE s n):=AK (yg d.p) pv (L.ya _) (DM L n) b;have l:fP w.aR (jE s n):=AK (yg f.p) h (L.ya _) (DM L n) b;obtain⟨i,j⟩:=TV L hs hs;exact ye9 _ _ _ _ _ _ pv h (yg d.p) (yg f.p) (L.ya _) (L.ya _) i j (k.jX (by omega)) (l.jX (by omega))
def Zh(r:aC)(F:r.ok=true)(lim:Nat)(k:216<=jE s lim)(f:jE s lim<=400000):dB (UL L r F lim k f):=by
 refine⟨λ{v w n} j d b x l=>?_,λ{v w n} j d b x l=>?_,λ{w n} j b l=>(AH L b (GW.lb.mono L l j) k).mono f⟩
 .exact PL r v w (jE s lim) (AH L d (GW.lb.mono L x j) k) (AH L b (GW.lb.mono L l j) k) f (by omega) d b
 .have y:=GW.lb.mono L x j;have z:=GW.lb.mono L l j;have G:v.sm 400000:=(AH L d y k).mono f;have I:w.sm 400000:=(AH L b z k).mono f;refine X8 r v w (G.mono (by omega)) (I.mono (by omega)) d b (λu=>?_) λi h C D u=>?_
  .exact Ug L y.o z.o f (jJ (d.2.1 (by rw[u];decide))) (jJ (b.2.1 (by rw[u];decide)))
  .have p:r.kind=6:=by apply GK;intro p;have:=(aC.cJ F p).2.2;rw[this]at h;simp at h
   exact Ug L (y.ps _ (bU C)) (z.ps _ (bU D)) f (jJ ((d.2.2 p).2.2 i h C)) (jJ ((b.2.2 p).2.2 i h D))
end
def QQ{r:aC}(M:cQ r){n:Nat}{l:List aE}(h:∀ x∈l,M.mb n x.w/\x.w.aJ r)(k:Nat)(f:k<=l.length) :
  ∀ x∈eU aE.key (lE r) id (l.take k),M.mb (kc aE.key (l.take k) x.key+n) x.w/\x.w.aJ r :=
 KW (key:=aE.key) (up:=lE r) (nw:=id) (λ_ _=>rfl) (λ_=>rfl) (Q:=λc x=>M.mb (c+n) x.w/\x.w.aJ r) (λh k=>⟨M.mono h.1 (by omega),h.2⟩) (λx b=>⟨M.mono (h x b).1 (by show n<=0+n;omega),(h x b).2⟩)
  (λc z x b _ d=>⟨by have:=M.plus d.2 (h x b).2 d.1 (M.mono (h x b).1 (by omega));exact M.mono this (by omega),(BU d.2 (h x b).2:(r.plus z.w x.w).aJ r)⟩) k f
def P4{r:aC}{M:cQ r}(X:dB M)(l:List aE)(n B:Nat)(hn:B+n<=M.lim)(hB:∀ q,kc aE.key l q<=B)(hl:l.length<=100000)(h:∀ x∈l,M.mb n x.w/\x.w.aJ r) :
  zS 27 [enc r,.sl (ens l)] (.sl (ens (cV r l))):=by
 have hs:=gB (key:=aE.key) l;have h':∀ x∈bW aE.key l,M.mb n x.w/\x.w.aJ r:=λx C=>h x ((hs.2.2 x).1 C);have af:=QQ M h';have Q:∀ k q,kc aE.key ((bW aE.key l).take k) q<=B:=λk q=>dM (HT _ _ _) (by rw[FL (F6 l)];exact hB q);have ad:=λk (i:k<=(bW aE.key l).length)=>FE (key:=aE.key) (up:=lE r) (nw:=id) (λ_ _=>rfl) (λ_=>rfl) (bW aE.key l) k i;unfold cV;generalize hS:bW aE.key l=S at *
 have U:S.length=l.length:=hs.2.1;have d:∀ x:aE,(enc x).cells.all PV.one=true:=λx=>by simp[PV.cells]
 refine Sp.vz c.fm λ_=>?_;simp[g.fm];refine ED (VY l (by omega)) (by simp) ⟨jF _ _ rfl,by decide,by simp[-gW,ens,eL];omega⟩ (by simp) ?_;simp;refine MH (Wb rfl d (key:=aE.key) (cf:=73) (D:=λ_=>True) (λx y _ _=>⟨_,QC x y,CG rfl⟩) l (by omega) λ_ _=>trivial) (by simp) rfl rfl (by simp) (by simp) (by simp[hS,U]) rfl (jF _ _ rfl) (cells_one d _) (by simp) ?_;simp;rw[hS]
 refine b6 (S:=λk:Nat=>aB [(2,i0 2),(6,.own 1 0 0 (eU aE.key (lE r) id (S.take k)).length),(14,.own 3 0 0 S.length),(15,f8 S.length),(16,f8 k)] [(2,⟨2,[.p (enc r)]⟩),(1,⟨12,aK (eU aE.key (lE r) id (S.take k))⟩),(3,⟨12,aK S⟩)]) (I:=λk=>k<=S.length) (m:=λk=>S.length - k) 0
  (aA.nl 6 77 12 rfl (aA.to [2,6,14,15,16] [((2,0),2),((77,0),1),((11,0),3)] (by simp[U,eU]))) (by omega) ?_
 rintro k h1 R u hr C;have e3:=aZ k;have W:=ad k h1;have F:=af k h1;generalize Y:eU aE.key (lE r) id (S.take k)=O at *
 by_cases i:k<S.length;rotate_left
 .have:k=S.length:=by omega
  subst this;have al:=Y;rw[eZ (dE _)]at Y;rw[Y]at C hr;simp[g.rh,aB];refine C _ _ ?_;simp;refine IV (VL 77 [.ref (enc r)] (λx=>decide (x.w=r.zero)) O (by omega) λx C=>YJ x r ((X.pr (show kc aE.key (S.take S.length) x.key+n<=M.lim by have:=Q S.length x.key;omega) (F x C).2 (F x C).1).mono (by omega))) (by simp[A7,AJ]) rfl rfl (by simp) (by simp) (by simp;have:=kB (λx:aE=>!decide (x.w=r.zero)) O;omega) rfl (jF _ _ rfl) (cells_one d _) (by simp) (kB _ _) ?_;generalize hF:O.filter (λx=>!decide (x.w=r.zero))=f at *
  have ag:f.length<=O.length:=by rw[<- hF];exact kB _ _
  have G:=It f (List.replicate (O.length - f.length) (⟨0,0,0,0,dT⟩:aE));have J:f.length<=(ens (f++List.replicate (O.length - f.length) (⟨0,0,0,0,dT⟩:aE))).length:=by simp[-gW,ens]
  generalize ens (f++List.replicate (O.length - f.length) (⟨0,0,0,0,dT⟩:aE))=A0 at *
  cases ao:A0.all PV.flat
  .simp[aI];rw[G];simp[J]
  .simp;rw[G];simp[J]
 have j:=h' _ (bU i);have b:=EI (key:=aE.key) (up:=lE r) (nw:=id) i;rw[Y]at b;have cz:=yC j.2.1;have pz:=zcx j.2;obtain rfl|⟨o,z,rfl⟩:=B' O
 .simp[g.rh,aB,i];refine bK i ?_;refine bA (wG r) rfl ?_;simp;refine aW (X.pw (n:=n) (by omega) j.2 cz j.1 (M.mono M.zero (vI n))) ?_;rw[pz];simp[e3];refine u (k+1) _ (aA.to [2,6,14,15,16] [((2,0),2),((59,0),1),((3,0),3)] ?_) (by omega) (by omega);rw[b];simp[aB,gS]
 .have e4:i64.wrap (o.length:Int)=(o.length:Int):=cL (by omega) (by simp at W;omega);simp[g.rh,aB,i];refine bK i ?_;refine bA (wG r) rfl ?_;simp;refine aW (X.pw (n:=n) (by omega) j.2 cz j.1 (M.mono M.zero (vI n))) ?_;rw[pz];simp[e4];refine aW (QC z S[k]) ?_;simp[e4];have hz:=F z (by simp);have V:eW z.key S[k].key=0 ↔ z.key=S[k].key:=CF (by simp[aE.key]);refine⟨λh0=>?_,λh0=>?_⟩
  .rw[xV,FF (key:=aE.key) (z:=z) (y:=S[k]) (V.1 h0)]at b;refine aW (X.pw (n:=kc aE.key (S.take k) z.key+n) (by have:=Q k z.key;omega) hz.2 j.2 hz.1 (M.mono j.1 (by omega))) ?_;simp[e3];refine u (k+1) _ (aA.to [2,6,14,15,16] [((2,0),2),((1,0),1),((3,0),3)] ?_) (by omega) (by omega);rw[b];simp[aB,lE]
  .rw[xV,CI (key:=aE.key) (z:=z) (y:=S[k]) (λh=>h0 (V.2 h))]at b;simp[e3];refine⟨by simp at W;omega,u (k+1) _ (aA.to [2,6,14,15,16] [((2,0),2),((59,0),1),((3,0),3)] ?_) (by omega) (by omega)⟩;rw[b];simp[aB]
open Go.Proofs
abbrev nA:SI:=⟨13,by decide,261,191,159,158,118,67⟩
def c.yx:aP P nA.sw=some ⟨38,5,(GD nA).er,[]⟩:=by kernel_rfl
def c.yy:aP P nA.ro=some ⟨58,5,(Gz nA).er,[]⟩:=by kernel_rfl
def c.yz:aP P nA.sm=some ⟨220,5,(Dz nA).er,[]⟩:=by kernel_rfl
def c.y4:aP P nA.ins=some ⟨53,4,(Fs nA).er,[]⟩:=by kernel_rfl
def c.y5:aP P nA.st=some ⟨63,3,(GB nA).er,[]⟩:=by kernel_rfl
def c.y6:aP P nA.so=some ⟨9,2,(GA nA).er,[]⟩:=by kernel_rfl
def yep:pK nA:=⟨c.yx,c.yy,c.yz,c.y4,c.y5,c.y6⟩
section
variable {α : Type} [Enc α]
def Wh(f:Enc.sz α = 13)(b:∀ x : α,(enc x).cells.all PV.one=true){key : α -> List Int}{cf:FuncId}{D : α -> Prop}(i:∀ x y,D x->D y->∃ n:Int,Sp P cf [enc x,enc y] (.pure (g6 n))/\(n<0 ↔ key x<key y))
  (l:List α) (d:l.length<=1000000) (h:∀ x∈l,D x):gO P 67 [.sl (ens l),.fn cf []] 0 13 (ens (bW key l)) (.pure (.bM [])):=LP yep f b i l d h
end
structure aH where
 p:Int
 q:Int
 f:Int
 deriving DecidableEq
structure eS where
 i:Int
 o:Int
 t:aH
 w:GW
instance:Enc aH:=⟨λx=>.agg [g6 x.p,g6 x.q,g6 x.f],3,by decide,λ_=>rfl⟩
instance:Enc eS:=⟨λx=>.agg ([g6 x.i,g6 x.o,g6 x.t.p,g6 x.t.q,g6 x.t.f]++x.w.cl),13,by decide,λ_=>rfl⟩
@[simp] theorem yne(x:aH):enc x=.agg [g6 x.p,g6 x.q,g6 x.f]:=rfl
@[simp] theorem yjw:Enc.sz aH=3:=rfl
@[simp] theorem yof(x:eS):enc x=.agg [g6 x.i,g6 x.o,g6 x.t.p,g6 x.t.q,g6 x.t.f,.bool x.w.q.neg,.sl (ens x.w.q.num),.sl (ens x.w.q.den),g6 x.w.cost,.bool x.w.inf,.int .u64 x.w.set.toNat,.sl (ens x.w.aR),.sl (ens x.w.parts)]:=rfl
@[simp] theorem yk3:Enc.sz eS=13:=rfl
def aH.key(x:aH):List Int:=[x.p,x.q,x.f]
def eS.key(x:eS):List Int:=x.t.key
def K7{x y:aH}:x=y ↔ x.key=y.key:=by cases x;cases y;simp[aH.key]
def Kz(x:eS):(enc x).cells.all PV.one=true:=by simp[PV.cells]
def XJ(x y:aH):zS 69 [enc x,enc y] (g6 (eW x.key y.key)):=by rw[<- IL x.key y.key rfl,show List.zipWith eP x.key y.key=[eP x.p y.p,eP x.q y.q,eP x.f y.f] from rfl];refine Sp.vz c.nc λ_=>?_;simp[g.nc];refine bA (vZ x.p y.p) rfl ?_;simp;refine bA (vZ x.q y.q) rfl ?_;simp;refine bA (vZ x.f y.f) rfl ?_;simp;refine aW (K9 [eP x.p y.p,eP x.q y.q,eP x.f y.f] (by simp)) ?_;simp
def WK(x y:eS):zS 68 [enc x,enc y] (g6 (eW x.key y.key)):=by refine Sp.vz c.gf λ_=>?_;simp[g.gf];refine aW (XJ x.t y.t) ?_;simp[eS.key]
def yem(l:List eS)(b:l.length<=1000000):gO P 67 [.sl (ens l),.fn 68 []] 0 13 (ens (bW eS.key l)) (.pure (.bM [])) :=
 Wh rfl Kz (key:=eS.key) (cf:=68) (D:=λ_=>True) (λx y _ _=>⟨_,WK x y,CG rfl⟩) l b λ_ _=>trivial
def Yy(x:eS)(r:aC)(b:x.w.sm 1048576):zS 117 [enc x,.ref (enc r)] (.bool (decide (x.w=r.zero))):=by refine Sp.fD c.jv (by simp) (aA.dV (t:=1) (v:=enc r) (n:=2) (by simp) (by simp)) ?_;simp[g.jv];refine aW (Ey r x.w b) ?_;simp
def LZ(t:eg)(s:Int)(C:t.aD.length<=100000):zS 115 [enc t,g6 s] (.sl (ens (t.aD.filter λx=>decide (x.f=s)))):=by
 refine Sp.vz c.ju λ_=>?_;simp[g.ju]
 refine b6 (S:=λk:Nat=>aB [(1,f8 s),(5,.own 1 0 0 ((t.aD.take k).filter λx=>decide (x.f=s)).length),(9,hW t.aD),(10,f8 t.aD.length),(11,f8 k)] [(1,⟨12,aK ((t.aD.take k).filter λx=>decide (x.f=s))⟩)])
  (I:=λk=>k<=t.aD.length) (m:=λk=>t.aD.length - k) 0 (aA.nl 5 77 12 rfl (aA.to [1,5,9,10,11] [((77,0),1)] (by simp[aB]))) (by omega) ?_
 rintro k z R n D y;have l:=aZ k;have j:=kB (λx:aE=>decide (x.f=s)) (t.aD.take k);rw[fY]at j;by_cases d:k<t.aD.length
 .have u:(t.aD.take (k+1)).filter (λx=>decide (x.f=s))=(t.aD.take k).filter (λx=>decide (x.f=s))++(if t.aD[k].f=s then[t.aD[k]]else[]):=by rw[ed d,tW,EV];by_cases h:t.aD[k].f=s<;>simp[h]
  have b:∀ st',aA st' (aB [(1,f8 s),(5,.own 1 0 0 ((t.aD.take (k+1)).filter λx=>decide (x.f=s)).length),(9,hW t.aD),(10,f8 t.aD.length),(11,f8 (k+1:Nat))] [(1,⟨12,aK ((t.aD.take (k+1)).filter λx=>decide (x.f=s))⟩)])->R .normal st':=λst' h=>n (k+1) st' h (by omega) (by omega);rw[u]at b;generalize (t.aD.take k).filter (λx=>decide (x.f=s))=o at *
  simp[g.ub,aB,d];refine bK d ?_;by_cases i:t.aD[k].f=s
  .rw[aX i]at b;simp[i,l];refine⟨by omega,b _ (aA.to [1,5,9,10,11] [((22,0),1)] ?_)⟩;simp[aB,i]
  .rw[bD i,kY]at b;simp[i,l];exact b _ (aA.to [1,5,9,10,11] [((1,0),1)] (by simp[aB]))
 .have:k=t.aD.length:=by omega
  subst this;simp[g.ub,aB];refine y _ _ ?_;simp
def Wg(l:List eS)(f:FuncId)(b:List PV)(p:eS->Bool)(z:l.length<=4611686018427387904)(n:∀ x∈l,Sp P f (enc x::b) (.pure (.bool (p x)))) :
  zS 157 [.sl (ens l),.fn f b] (g6 (gN p l)):=by
 refine Sp.vz c.ou λ_=>?_;simp[g.ou]
 refine b6 (S:=λk:Nat=>aB [(0,hW l),(1,.p (.fn f b)),(7,f8 l.length),(8,f8 k)] []) (I:=λk=>k<=l.length/\∀ x∈l.take k,p x=false) (m:=λk=>l.length - k) 0
  (aA.to [0,1,7,8] [] (by simp)) ⟨by omega,by simp⟩ ?_
 rintro k ⟨y,i⟩ R o u d;have j:=aZ k;simp[g.wn,aB];refine⟨λh=>?_,λh=>d _ _ ?_⟩
 .refine bK h ?_
  try simp
  refine bA (n l[k] (bU h)) (kX (by simp) (yn _ _)) ?_;obtain h3|h3:=iK (p l[k])
  .simp[h3];refine u _ ?_;simp[FD h i h3]
  .simp[h3,j];refine o (k+1) _ (aA.to [0,1,7,8] [] (by simp)) ⟨by omega,λx d=>?_⟩ (by omega);rw[ed h]at d;obtain d|d:=dN.1 d
   .exact i x d
   .simp at d;rw[d];exact h3
 .have:k=l.length:=by omega
  subst this;simp[Gj (p:=p) (l:=l) (by simpa using i)]
theorem Wf(J:FuncId)(b:List PV)(p:eS->Bool)(l:List eS)(hl:l.length<=1000000)(hp:∀ x∈l,Sp P J (enc x::b) (.pure (.bool (p x)))) :
  gO P 116 [.sl (ens l),.fn J b] 0 13 (ens (l.filter (λx=>!p x)++List.replicate (l.length - (l.filter λx=>!p x).length) (⟨0,0,⟨0,0,0⟩,dT⟩:eS))) (.same (l.filter λx=>!p x).length):=by
 have aq:(l.filter λx=>!p x).length<=l.length:=kB _ _;refine gO.cE c.od (by simp) rfl (by simp;omega) ?_;simp[g.od];refine aW (Wg l J b p (by omega) hp) ?_;cases z:l.findIdx? p with
 | none =>
  have V:=GQ.1 z;have hf:l.filter (λx=>!p x)=l:=GL.2 λx d=>by simp[V x d]
  have d:gN p l = -1:=by simp[gN,z]
  simp[d,hf]
 | some k =>
  obtain⟨hk,al,y⟩:=GP.1 z;have d:gN p l=k:=by simp[gN,z]
  have ag:¬ ((k:Int) = -1):=by omega
  have e1:=aZ k;simp[d,ag,e1];have ao:(l.take k).filter (λx=>!p x)=l.take k:=List.filter_eq_self.2 λx d=>by rw[List.mem_take_iff_getElem]at d;obtain⟨i,z,rfl⟩:=d;have:=y i (by omega);simpa using this
  have F:(l.take (k+1)).filter (λx=>!p x)=l.take k:=by rw[ed hk,tW,ao];simp[al]
  refine b6 (S:=λx:List eS × Nat × Nat=>aB [(0,.own bC 0 0 l.length),(1,.p (.fn J b)),(5,f8 x.2.1),(6,f8 x.2.2)] [(bC,⟨13,aK x.1⟩)])
   (I:=λx=>x.1.length=l.length/\x.2.1<x.2.2/\x.2.2<=l.length/\x.1.take x.2.1=(l.take x.2.2).filter (λx=>!p x)/\x.1.drop x.2.2=l.drop x.2.2/\x.2.1<=l.length) (m:=λx=>l.length - x.2.2) (l,k,k+1)
   (aA.to [0,1,5,6] [((bC,0),bC)] (by simp)) ⟨rfl,by simp,by simp;omega,by rw[F],rfl,by simp;omega⟩ ?_
  rintro⟨L,i,j⟩ ⟨o,h2,h3,f,O,Q⟩ R V hr ap;simp only at o h2 h3 f O Q;simp[g.v8,aB];refine⟨λU=>?_,λU=>ap _ _ ?_⟩
  .have e2:=aZ j;have e3:=aZ i;have Y:L[j]?=some l[j]:=by
    have:(L.drop j)[0]?=(l.drop j)[0]?:=by rw[O]
    simpa[U]using this
   refine⟨by omega,eD Y ?_⟩
   try simp
   refine bA (hp l[j] (bU U)) (kX (by simp) (yn _ _)) ?_;have C:(l.take (j+1)).filter (λx=>!p x)=(l.take j).filter (λx=>!p x)++(if p l[j]then[]else[l[j]]):=by rw[ed U,tW];by_cases h:p l[j]<;>simp[h]
   obtain u|u:=iK (p l[j])
   .simp[u,e2];refine V (L,i,j+1) _ (aA.to [0,1,5,6] [((bC,0),bC)] (by simp)) ⟨o,by show i<j+1;omega,by show j+1<=l.length;omega,by show L.take i=_;rw[C,f];simp[u],?_,Q⟩ (by show l.length - (j+1)<l.length - j;omega);show L.drop (j+1)=l.drop (j+1);rw[<- List.drop_drop,O,uQ]
   .simp[u];refine⟨by omega,?_⟩;refine eD (l:=L) (n:=i) (x:=L[i]'(by omega)) (by simp) ?_;simp[e2,e3];have G:(L.set i l[j]).take (i+1)=L.take i++[l[j]]:=by rw[ed (by simp;omega),Nr (dE i)];simp
    refine V (L.set i l[j],i+1,j+1) _ (aA.to [0,1,5,6] [((bC,0),bC)] (by simp)) ⟨by simp[o],by show i+1<j+1;omega,by show j+1<=l.length;omega,by show(L.set i l[j]).take (i+1)=_;rw[G,C,f];simp[u],?_,by show i+1<=l.length;omega⟩ (by show l.length - (j+1)<l.length - j;omega);show(L.set i l[j]).drop (j+1)=l.drop (j+1);rw[Jy (by omega),<- List.drop_drop,O,uQ]
  .have ad:j=l.length:=by omega
   subst ad;rw[kK]at f;have X:i=(l.filter λx=>!p x).length:=by rw[<- f];simp;omega
   generalize (l.filter λx=>!p x)=D at *
   subst X;have ht:(aK L).take D.length=aK D:=by rw[H5,f]
   have au:min D.length l.length=D.length:=uN Q;have af:D.length+(l.length - D.length)=l.length:=by omega
   simp[o,Q,af,f];have W:L.drop l.length=[]:=by rw[<- o];simp
   rw[W,Kr,kY];rfl
end Go.Ab
