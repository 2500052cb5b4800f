/- Lemmas for the law ComposeBuildsMadeModels, part 40. No conditions. -/
import Derived.Test.YthhdboljpgdcpaaGreatDoorAP39
set_option maxRecDepth 100000
set_option maxHeartbeats 4000000
set_option linter.all false
namespace Go.Ab
open Enc (enc)
attribute [local simp] fX bL.aR
def lZ(x:aI)(L:List aI):Nat:=(gO x L 0).getD 0
noncomputable def vI(s:Nat)(X:List aI × List aC)(m:eL):List aI × List aC:=(dS X.1 m.t,X.2++[⟨s,m.i,m.o,lZ m.t (dS X.1 m.t),m.w⟩])
noncomputable def iU(s:Nat)(X:List aI × List aC)(ms:List eL):List aI × List aC:=ms.foldl (vI s) X
def GO(L:List aI)(x:aI):x∈dS L x:=by unfold dS;split<;>simp_all
theorem Jh{x:aI}{L:List aI}(h:x∈L):gO x L 0=some (lZ x L):=by
 unfold lZ;cases a:gO x L 0 with
 | none=>exact absurd h (BQ.1 a)
 | some j=>rfl
def Vk(s:Nat)(X:List aI × List aC)(ms:List eL)(m:eL):iU s X (ms++[m])=vI s (iU s X ms) m:=by simp[iU]
theorem z33(s:Nat)(ms:List eL):∀ (X:List aI × List aC),(iU s X ms).2.length=X.2.length+ms.length:=by
 induction ms with
 | nil=>intro X;rfl
 | cons m ms a =>
  intro X;have:=a (vI s X m);simp only[iU,B5]at this ⊢;rw[this];simp[vI];omega
theorem Ts{a b s:Nat}{ms:List eL}(d:∀ m∈ms,(0<=m.t.p/\m.t.p<a)/\(0<=m.t.q/\m.t.q<b)/\0<=m.t.f/\m.t.f<=2):∀ {X:List aI × List aC},kB a b X.1->kB a b (iU s X ms).1:=by
 induction ms with
 | nil=>intro X h;exact h
 | cons m ms j =>
  intro X h;exact j (λy i=>d y (by simp[i])) (X:=vI s X m) (h.add (d m (by simp)))
noncomputable def iS(t u:GTrans)(r:Nat)(L:List aI)(K:List aC)(s:Nat)(ms:List eL)(j:Nat):St :=
 ⟨[(0,.ptr 900000 0 0 0),(3,.p (.int .i64 s)),(37,.own 34 0 0 ms.length),(38,.p (.int .i64 ms.length)),(39,.p (.int .i64 j))],cX t u r L K++[(34,[some ⟨13,aT ms⟩]),(aL,[none])]⟩
noncomputable def sV(t u:GTrans)(r:Nat)(L:List aI)(K:List aC)(s:Nat)(ms:List eL)(j:Nat)(m:eL):St :=
 ⟨[(0,.ptr 900000 0 0 0),(3,.p (.int .i64 s)),(6,.ptr 6 0 0 0),(37,.own 34 0 0 ms.length),(38,.p (.int .i64 ms.length)),(39,.p (.int .i64 j))],cX t u r L K++[(34,[some ⟨13,aT ms⟩]),(6,[some ⟨13,[.p (enc m)]⟩]),(aL,[none])]⟩
def yd3{t u:GTrans}{r:Nat}{K:List aC}{L:List aI}(n:L.length<=100000)(z:∀ y∈L,y.ok){s:Nat}{ms:List eL}{j:Nat}{m:eL}(x:m.t.ok)(q:mG)(R:Exit->St->Option FA->Prop)
  (hn:∀ k,aA k (sV t u r (dS L m.t) K s ms j m)->R .normal k (some (gB q (some (dN r (dS L m.t)))))) :
  MR P 78 IH.er (sV t u r L K s ms j m) (some (gB q (some (dN r L)))) R:=by
 have d:=nN L K;have w:=d.sa;have i:=d.sb;have A:=d.l;have o:=d.a;have b:=nN (dS L m.t) K;have f:=b.sa;have h:=b.l;have p:=Sk (t:=t) (u:=u) (r:=r) (K:=K) n z x;unfold IH;refine MR.oo (AR 3 [[],[],[44]] ?_);simp[sV,cX,cP,bJ];refine eD.cons (Hu p (CF.gB q _ _) rfl ?_ ?_ rfl ?_ ?_)
 .simp
 .simp[pZ,St.site,look,cX,cP,bJ]
 .show(true&&dQ ek (cX t u r L K)&&true&&dQ ek (cX t u r (dS L m.t) K))=true;rw[show dQ ek (cX t u r L K)=true from d.hp t u r,show dQ ek (cX t u r (dS L m.t) K)=true from b.hp t u r];rfl
 .refine eD.nil (hn _ ?_);refine aA.cU [0,3,6,37,38,39] ek [((34,0),34),((6,0),6)] ?_;simp[CQ,sM,sV,cX,cP,bJ,h,o];exact⟨f,i⟩
theorem YZ{t u:GTrans}{r:Nat}{K:List aC}{L:List aI}(ok:∀ y∈L,y.ok){s:Nat}{ms:List eL}{j:Nat}{m:eL}(hm:m.t∈L)(U:m.t.ok)(hK:K.length<=100000000)(q:mG) :
  MR P 78 II.er (sV t u r L K s ms j m) (some (gB q (some (dN r L)))) λZ s' B=>Z=.normal/\B=some (yc q (dN r L))/\aA s' (iS t u r L (K++[⟨s,m.i,m.o,lZ m.t L,m.w⟩]) s ms j):=by
 have G:=nN L K;have ad:=G.sa;have I:=G.sb;have hl:=G.l;have ha:=G.a;have k:=Lu m.t L 0;rw[<- List.range_eq_range',Jh hm]at k;have d:oD [.int .i64 m.t.p,.int .i64 m.t.q,.int .i64 m.t.f] (aH L) (kG L.length)=some (.int .i64 (lZ m.t L)):=k;clear k;have z:=λσ (h:∀ g,σ 900001 g=(900001,g))=>ND (σ := σ) h L;have A:=λσ=>Sv σ 3 L;have W:=ON 900002 K (⟨s,m.i,m.o,lZ m.t L,m.w⟩:aC);have X:=OD 12 K (⟨s,m.i,m.o,lZ m.t L,m.w⟩:aC);unfold II;simp only[sV,cX,cP];refine MR.TX ?_;refine MR.TW (s:=900000) (g:=0) (sz:=19) (i:=16) rfl rfl ?_;refine MR.cS ?_;have D:aT [(⟨s,m.i,m.o,lZ m.t L,m.w⟩:aC)]=[.p (.agg [.int .i64 s,.int .i64 m.i,.int .i64 m.o,.int .i64 (lZ m.t L),.bool m.w.q.neg,.sl (aH m.w.q.num),.sl (aH m.w.q.den),.int .i64 m.w.cost,.bool m.w.inf,.int .u64 m.w.set.toNat,.sl (aH m.w.aP),.sl (aH m.w.parts)])]:=rfl;unfold iS cX cP;rw[W,X,zX,D];clear W X D;generalize dC 900001 L=V at *
 generalize eB 3 L=SA at *
 generalize hM:aT ms=Q;have x:∀ σ,fZ σ Q=Q:=λσ=>by rw[<- hM,GI]
 have C:∀ n,uU [V,.own 68 0 0 n]=none:=λn=>by cases V<;>rfl
 have E:∀ y∈aH L,su [.i64,.i64,.i64] y=true:=Lk ok;cases K with
 | nil =>
  simp[bJ,dN,d,C,show dC 900002 ([]:List aC)=.nil from rfl,show eB 12 ([]:List aC)=[] from rfl];refine⟨⟨Dj U,E⟩,?_⟩;refine(aA.z7 (s:=900000) (g:=0) (sz:=19) (i:=16) rfl rfl).trans (EK [0,3,37,38,39] [(900000,[(900000,0)]),(900001,[(900001,0)]),(900002,[(900002,0),(68,0)]),(34,[(34,0)])] ?_ (λσ=>σ 900000 0=(900000,0) /\ σ 68 0=(900002,0)/\(∀ g,σ 900001 g=(900001,g)) /\ σ 34 0=(34,0)) ?_ ?_)
  .simp[y9,DI,wY,fP,aL,BN,St.setObj]
  .simp[nT,tZ,pJ,St.site,look,St.setObj]
  .rintro σ ⟨J,M,N,O⟩;simp[sI,mE,sub,iE,fZ,St.get,look,St.site,St.setObj,aL,J,M,O,z σ N,A σ,x σ]
 | cons y l =>
  generalize b:y::l=K at *
  have F:K.length=l.length+1:=by rw[<- b];rfl
  have R:dC 900002 K=.own 900002 l.length 0 (l.length+1):=by rw[<- b];rfl
  have S:eB 12 K=List.replicate l.length none++[some ⟨12,aT K⟩]:=by rw[<- b];rfl
  have Y:(aT K).length=l.length+1:=by rw[vo,F]
  rw[R,S,F];have H:∀ σ,fZ σ (aT K)=aT K:=λσ=>GI σ K;clear R S b I;generalize aT K=KM at *
  simp[bJ,dN,d,C,Y];refine⟨⟨Dj U,E⟩,by omega,?_⟩;refine(aA.z7 (s:=900000) (g:=0) (sz:=19) (i:=16) rfl rfl).trans (EK [0,3,37,38,39] [(900000,[(900000,0)]),(900001,[(900001,0)]),(900002,[(900002,0),(68,0)]),(34,[(34,0)])] ?_ (λσ=>σ 900000 0=(900000,0) /\ σ 68 0=(900002,l.length+1)/\(∀ g,σ 900001 g=(900001,g)) /\ σ 34 0=(34,0)) ?_ ?_)
  .simp[y9,DI,wY,fP,aL,BN,St.setObj]
  .simp[nT,tZ,pJ,St.site,look,St.setObj]
  .rintro σ ⟨J,M,N,O⟩;simp[sI,mE,sub,iE,fZ,Ph,St.get,look,St.site,St.setObj,aL,J,M,O,z σ N,A σ,x σ,H σ];rw[Mc,uK];rfl
def ZI(x:eL):(enc x).cL=true:=by have h:=Gz x.w;obtain⟨i,o,t,w⟩:=x;cases w;simp[PV.cL,jQ]at h ⊢;exact h
def WG(t u:GTrans)(r:Nat)(L:List aI)(K:List aC)(s:Nat)(ms:List eL)(j:Nat):AH (iS t u r L K s ms j)=true:=by have h:=Nw t u r L K;have a:rI (aT ms)=true:=KU (zw ZI ms);unfold AH at h ⊢;simp only[List.all_nil,Ib]at h;unfold iS;simp only[List.all_append];rw[h];simp[wW,PV.cL,a,aL]
theorem Tr:g.o8=.seq (.cY [⟨some 40,.dH .lss (.t 39) (.t 38),none⟩] []) (.seq (.cond (.t 40) [40] (.iX) (.ext 2)) (.seq (.bU 3 (.seq MC (.seq IH II))) MB)):=rfl
def yd2{t u:GTrans}{ns nu:Nat}(W:ns<=30)(Y:nu<=30){r:Nat}{L:List aI}{K:List aC}(hL:kB ns nu L){s:Nat}{ms:List eL}(hm:∀ m∈ms,(0<=m.t.p/\m.t.p<ns)/\(0<=m.t.q/\m.t.q<nu)/\0<=m.t.f/\m.t.f<=2)
  (hs:s<=100000) (aq:ms.length<=1000000) (hK:K.length+ms.length<=100000000) (q:mG) {st:St} (k:aA st (iS t u r L K s ms 0)) :
  MR P 78 (GC.loop g.o8).er st (some (gB q (some (dN r L)))) λC b B=>C=.exit 2/\B=some (gB q (some (dN r (iU s (L,K) ms).1)))/\aA b (iS t u r (iU s (L,K) ms).1 (iU s (L,K) ms).2 s ms ms.length):=by
 refine MR.nK (I:=λn b B=>∃ j,j<=ms.length/\n=ms.length - j/\B=some (gB q (some (dN r (iU s (L,K) (ms.take j)).1)))/\aA b (iS t u r (iU s (L,K) (ms.take j)).1 (iU s (L,K) (ms.take j)).2 s ms j)) ms.length ⟨0,by omega,by omega,rfl,k⟩ ?_;rintro n b B ⟨j,hj,rfl,rfl,k⟩;refine MR.eg k ?_;have V:=Ts (s:=s) (ms:=ms.take j) (λm hx=>hm m (jA hx)) (X:=(L,K)) hL;have E:=z33 s (ms.take j) (L,K);rw[iB]at E;generalize Z:(λ(C:Exit) (b:St) (B:Option FA)=>(C=.normal->∃ n,n<ms.length - j/\∃ j,j<=ms.length/\n=ms.length - j/\B=some (gB q (some (dN r (iU s (L,K) (ms.take j)).1)))/\aA b (iS t u r (iU s (L,K) (ms.take j)).1 (iU s (L,K) (ms.take j)).2 s ms j))/\(C ≠ .normal->C=.exit 2/\B=some (gB q (some (dN r (iU s (L,K) ms).1)))/\aA b (iS t u r (iU s (L,K) ms).1 (iU s (L,K) ms).2 s ms ms.length)))=R;have r1:j<ms.length->∀ b,aA b (iS t u r (iU s (L,K) (ms.take (j+1))).1 (iU s (L,K) (ms.take (j+1))).2 s ms (j+1))->R .normal b (some (gB q (some (dN r (iU s (L,K) (ms.take (j+1))).1)))):=λh b k=>by subst Z;exact⟨λ_=>⟨ms.length - (j+1),by omega,j+1,by omega,rfl,rfl,k⟩,λh=>absurd rfl h⟩
 have r2:j=ms.length->∀ b,aA b (iS t u r (iU s (L,K) (ms.take j)).1 (iU s (L,K) (ms.take j)).2 s ms j)->R (.exit 2) b (some (gB q (some (dN r (iU s (L,K) (ms.take j)).1)))):=λh b k=>by subst Z;rw[h,lO]at k ⊢;exact⟨λh=>(by cases h),λ_=>⟨rfl,rfl,k⟩⟩
 clear Z k;have e1:=bH j;have Q:∀ h:j<ms.length,iU s (L,K) (ms.take (j+1))=vI s (iU s (L,K) (ms.take j)) ms[j]:=λh=>by rw[ed h,Vk]
 generalize iU s (L,K) (ms.take j)=X at *
 obtain⟨A,z⟩:=X;simp only at V E r2;have U:=nN A z;have J:=U.sa;have N:=U.sb;have hl:=U.l;have ha:=U.a;by_cases d:j<ms.length
 .have S:=r1 d;rw[Q d]at S;clear r1 r2 Q;simp only[vI]at S;obtain⟨b1,b2,b3⟩:=hm _ (bV d);have H:(ms[j]).t.ok:=⟨⟨by omega,by omega⟩,⟨by omega,by omega⟩,by omega,by omega⟩;have ad:=V.add ⟨b1,b2,b3⟩;have ap:=mS W Y;have G:=GO A (ms[j]).t;have hg:(aT ms)[j]?=some (.p (enc ms[j])):=by simp[-jE,aT,aH,d]
  have al:(aT ms).length=ms.length:=vo ms;generalize ms[j]=m at *
  have hf:=yd3 (t:=t) (u:=u) (r:=r) (K:=z) (L:=A) (dP V.len (by omega)) (V.ok W Y) (s:=s) (ms:=ms) (j:=j) (m:=m) H q;have F:=YZ (t:=t) (u:=u) (r:=r) (K:=z) (L:=dS A m.t) (ad.ok W Y) (s:=s) (ms:=ms) (j:=j) G H (by omega) q;generalize dS A m.t=D at *
  rw[Tr];refine MR.dD ?_;simp[iS,cX,cP,bJ,d];refine MR.cN (MR.eR (t:=true) (by simp) (λ_=>MR.pk ⟨λ_=>?_,λh=>absurd rfl h⟩) (λh=>by cases h));refine MR.cN (MR.kM ?_);refine MR.dD ?_;unfold MC;generalize y:aT ms=AM at *
  simp[al,d];rw[lM];refine⟨_,hg,?_⟩;simp;refine MR.cN (MR.eg (st1:=sV t u r A z s ms j m) (aA.cU [0,3,6,37,38,39] ek [((34,0),34),((6,0),6)] ?_) (hf _ λb k=>⟨λ_=>MR.eg k (MR.mono F ?_),λh=>absurd rfl h⟩))
  .simp[sV,cX,cP,bJ,hl,ha,y];exact⟨⟨J,N⟩,by rw[<- y];exact Ez _ _ _⟩
  .rintro C au B ⟨rfl,rfl,ao⟩;refine⟨λ_=>MR.eg ao (MR.Cj (WG t u r _ _ s ms j) (zw G6 D) (KV D.length) (MR.cS ?_)),λh=>absurd rfl h⟩;have x:=nN D (z++[{ f:=s,i:=m.i,o:=m.o,t:=(lZ m.t D),w:=m.w }]);generalize z++[({ f:=s,i:=m.i,o:=m.o,t:=(lZ m.t D),w:=m.w }:aC)]=K2 at *
   have M:=x.sa;have O:=x.sb;have ag:=x.l;have af:=x.a;simp[MB,iS,cX,cP,bJ,e1];refine S _ (aA.cU [0,3,37,38,39] ek [((34,0),34)] ?_);simp[iS,cX,cP,bJ,ag,af,y];exact⟨⟨M,O⟩,by rw[<- y];exact Ez _ _ _⟩
 .have S:=r2 (by omega);rw[Tr];refine MR.dD ?_;simp[iS,cX,cP,bJ,d];refine MR.cN (MR.eR (t:=false) (by simp) (λh=>(by cases h)) (λ_=>MR.uP ⟨λh=>(by cases h),λ_=>S _ ?_⟩));refine aA.cU [0,3,37,38,39] ek [((34,0),34)] ?_;simp[iS,cX,cP,bJ,hl,ha];exact⟨J,N⟩
noncomputable def vV(t u:GTrans)(s:Nat)(X:List aI × List aC):List aI × List aC:=iU s X (b6 eL.key (sH t u (X.1.getD s ⟨0,0,0⟩)))
noncomputable def dG(t u:GTrans)(X:List aI × List aC):Nat->List aI × List aC
 | 0=>X
 | s+1=>if s<(dG t u X s).1.length then vV t u s (dG t u X s)else dG t u X s
theorem OX{t u:GTrans}{X:List aI × List aC}{s:Nat}(h:(dG t u X s).1.length<=s):∀ m,dG t u X (s+m)=dG t u X s
 | 0=>rfl
 | m+1=>by have a:=OX h m;show(if s+m<(dG t u X (s+m)).1.length then vV t u (s+m) (dG t u X (s+m))else dG t u X (s+m))=_;rw[a,aY (by omega)]
structure uX (t u:GTrans) (ns nu:Nat):Prop where
 t:∀ x∈t.aE,0<=x.t/\x.t<(ns:Int)
 u:∀ x∈u.aE,0<=x.t/\x.t<(nu:Int)
def Tc{t u:GTrans}{i j:Nat}(h:uX t u i j){a:aI}(k:(0<=a.p/\a.p<i)/\(0<=a.q/\a.q<j)/\0<=a.f/\a.f<=2):∀ m∈sH t u a,(0<=m.t.p/\m.t.p<i)/\(0<=m.t.q/\m.t.q<j)/\0<=m.t.f/\m.t.f<=2:=by
 intro m hm;have hm:=(k8.1 hm).1;unfold tM at hm;obtain hm|hm:=dT.1 hm
 .obtain⟨x,d,hm⟩:=kv.1 hm;have d:=h.t x (k8.1 d).1;unfold qM at hm;obtain hm|hm:=dT.1 hm
  .unfold uO at hm;split at hm
   .rw[jF]at hm;subst hm;exact⟨d,k.2.1,by simp,by simp⟩
   .cases hm
  .obtain⟨y,b,hm⟩:=kv.1 hm;have b:=h.u y (k8.1 b).1;unfold pU at hm;split at hm
   .rw[jF]at hm;subst hm;exact⟨d,b,by simp,by simp⟩
   .cases hm
 .obtain⟨y,b,hm⟩:=kv.1 hm;have b:=h.u y (k8.1 b).1;unfold rz at hm;split at hm
  .rw[jF]at hm;subst hm;exact⟨k.1,b,by simp,by simp⟩
  .cases hm
def GH{α : Type}(key : α -> List Int)(l:List α):(b6 key l).length=l.length:=(iQ l).2.1
theorem EB{t u:GTrans}{i j B:Nat}(h:uX t u i j)(k:∀ a,(tM t u a).length<=B){X:List aI × List aC}(n:kB i j X.1)(l:X.2=[]):∀ s,kB i j (dG t u X s).1/\(dG t u X s).2.length<=s*B
 | 0=>⟨n,by simp[dG,l]⟩
 | s+1=>by
  obtain⟨f,w⟩:=EB h k n l s;simp only[dG];have r:s*B<=(s+1)*B:=kD _ (by omega);split
  .rename_i d;have o:(dG t u X s).1.getD s ⟨0,0,0⟩∈(dG t u X s).1:=by rw[eT,dF d];exact bV d
   unfold vV;generalize (dG t u X s).1.getD s ⟨0,0,0⟩=a at *
   refine⟨Ts (λm p=>Tc h (f.b _ o) m ((iQ _).2.2 m |>.1 p)) f,?_⟩;rw[z33,GH,yL];have:(sH t u a).length<=B:=dP (nQ _ _) (k a);omega
  .exact⟨f,by omega⟩
def ycb(L:List aI)(x:aI):L.length<=(dS L x).length:=by unfold dS;split<;>simp
theorem YY(s:Nat)(ms:List eL):∀ X:List aI × List aC,X.1.length<=(iU s X ms).1.length:=by
 induction ms with
 | nil=>intro X;exact dK _
 | cons m ms a=>intro X;exact dP (ycb X.1 m.t) (a (vI s X m))
noncomputable def iT(t u:GTrans)(r:Nat)(X:List aI × List aC)(s:Nat):St:=⟨[(0,.ptr 900000 0 0 0),(3,.p (.int .i64 s))],cX t u r X.1 X.2++[(aL,[none])]⟩
theorem YX:g.q8=.seq (.seq D9 (.cond (.t 23) [23] (.iX) (.ext 0))) (.seq (.bU 1 (.seq IL (.seq IK (.seq IJ (.bU 2 (.loop g.o8)))))) MD):=rfl
theorem yd5{t u:GTrans}{r s:Nat}{L:List aI}{K:List aC}(w:L.length<=4000)(hs:s<=L.length)(A:FA)(R:Exit->St->Option FA->Prop)
  (h:R (if s<L.length then .normal else .exit 0) (iT t u r (L,K) s) (some A)) :
  MR P 78 (GC.seq D9 (.cond (.t 23) [23] (.iX) (.ext 0))).er (iT t u r (L,K) s) (some A) R:=by
 have m:=nN L K;have p:=m.sb;have x:=m.a;have z:∀ j,aA j (iT t u r (L,K) s)->R (if s<L.length then .normal else .exit 0) j (some A)->True:=λ_ _ _=>trivial;refine MR.cS ?_;cases L with
 | nil =>
  have k:s=0:=by simpa using hs
  subst k;simp[D9,iT,cX,cP,bJ,show dC 900001 ([]:List aI)=.nil from rfl];exact h
 | cons y l =>
  generalize d:y::l=L at *
  have o:L.length=l.length+1:=by rw[<- d];rfl
  have n:dC 900001 L=.own 900001 l.length 0 (l.length+1):=by rw[<- d];rfl
  by_cases f:s<L.length
  .have b:(s:Int)<(l.length:Int)+1:=by omega
   have i:(l.length:Int)+1<=4096:=by omega
   rw[aW f]at h;simp[D9,iT,cX,cP,bJ,n,b,i]at h ⊢;exact h
  .have b:¬ (s:Int)<(l.length:Int)+1:=by omega
   rw[aY f]at h;simp[D9,iT,cX,cP,bJ,n,b]at h ⊢;exact h
def yd6{t u:GTrans}{r s:Nat}{L:List aI}{K:List aC}{d:List eL}(B:s<L.length)(Z:L.length<=4000)(M:d.length<=1000000)
  (j:kO P 66 [.ptr 900000 0 0 0,.p (enc (L.getD s ⟨0,0,0⟩))] (cX t u r L K) none (.fr 13 (aH d)) (cX t u r L K) none) (A:FA) (R:Exit->St->Option FA->Prop)
  (h:∀ st',aA st' (iS t u r L K s (b6 eL.key d) 0)->MR P 78 (GC.bU 2 (.loop g.o8)).er st' (some A) R) :
  MR P 78 (GC.seq IL (.seq IK (.seq IJ (.bU 2 (.loop g.o8))))).er (iT t u r (L,K) s) (some A) R:=by
 have f:=nN L K;have n:=f.sa;have C:=f.sb;have Q:=f.l;have N:=f.a;have O:(aT L)[s]?=some (.p (enc (L.getD s ⟨0,0,0⟩))):=by simp[-jE,aT,aH,B]
 have w:=ydq d M;have o:=GH eL.key d;generalize b6 eL.key d=S at *
 generalize L.getD s ⟨0,0,0⟩=a at *
 obtain⟨l,b⟩:∃ l:Nat,L.length=l+1:=⟨L.length - 1,by omega⟩;have G:dC 900001 L=.own 900001 l 0 (l+1):=by
  cases L with
  | nil=>simp at b
  | cons y D =>
   simp only[pQ]at b;have:D.length=l:=by omega
   subst this;rfl
 have H:eB 3 L=List.replicate l none++[some ⟨3,aT L⟩]:=by
  cases L with
  | nil=>simp at b
  | cons y D =>
   simp only[pQ]at b;have:D.length=l:=by omega
   subst this;rfl
 have I:(aT L).length=l+1:=by rw[vo,b]
 have E:(s:Int)<(l:Int)+1:=by omega
 have i:s<l+1:=by omega
 refine MR.dD ?_;have k:dQ ek (cX t u r L K)=true:=f.hp t u r;have m:vQ ek (.fr 13 (aH d))=true:=by
  have J:=nE d 13 rfl;have Y:(aH d).length<=eS:=by simp[-jE,aH,eS];omega
  simp[vQ];exact λx U=>by simpa using List.all_eq_true.1 J x U
 simp only[iT,cX,cP,G,H,iS]at h j Q n k ⊢;generalize aT L=F at *
 simp[IL,bJ,I,i];rw[lM];refine⟨_,O,?_⟩;simp;refine ZC j rfl ?_ rfl ?_ ?_
 .simp[pZ,St.site,look,bJ]
 .show(true&&dQ ek _&&vQ ek (.fr 13 (aH d))&&dQ ek _)=true;rw[k,m];rfl
 simp[sM];refine MR.dD ?_;simp[IK];refine sE w (by simp) rfl rfl (by simp) (by simp) (by simp[o]) rfl (nE _ _ rfl) (cells_one Jf _) (by simp) ?_;simp;refine MR.dD ?_;simp[IJ];refine h _ (aA.cU [0,3,37,38,39] ek [((34,0),34)] ?_);generalize List.replicate l none++[some (⟨3,F⟩:bD)]=V at *
 have z:∀ x∈eB 12 K,vT ek x=true:=C;generalize eB 12 K=W at *
 generalize dC 900002 K=X at *
 simp[o,aL,bJ,N];exact⟨n,z⟩
end Go.Ab
namespace Go.Ab
open Enc (enc)
structure kC where
 m:eL
instance:Enc kC:=⟨λx=>.agg ([.int .i64 x.m.t.p,.int .i64 x.m.t.q,.int .i64 x.m.t.f,.int .i64 x.m.i,.int .i64 x.m.o]++x.m.w.cl),13,by decide,λ_=>rfl⟩
@[simp] theorem ym9(x:kC):enc x=.agg [.int .i64 x.m.t.p,.int .i64 x.m.t.q,.int .i64 x.m.t.f,.int .i64 x.m.i,.int .i64 x.m.o,.bool x.m.w.q.neg,.sl (aH x.m.w.q.num),.sl (aH x.m.w.q.den),.int .i64 x.m.w.cost,.bool x.m.w.inf,.int .u64 x.m.w.set.toNat,.sl (aH x.m.w.aP),.sl (aH x.m.w.parts)]:=rfl
@[simp] theorem yjz:Enc.sz kC=13:=rfl
def Ac(a:aI)(x:aC):List kC:=(uO a x).map kC.mk
noncomputable def rT(r:aB)(a:aI)(x y:aC):List kC:=if y.f=a.q/\x.o=y.i/\(0<x.o\/a.f=0)/\r.times x.w y.w≠r.zero then[⟨⟨x.i,y.o,⟨x.t,y.t,0⟩,r.times x.w y.w⟩⟩]else[]
def rS(a:aI)(y:aC):List kC:=if y.f=a.q/\y.i=0/\a.f≠1 then[⟨⟨0,y.o,⟨a.p,y.t,2⟩,y.w⟩⟩]else[]
noncomputable def pT(r:aB)(u:GTrans)(a:aI)(x:aC):List kC:=if x.f=a.p then Ac a x++u.aE.flatMap (rT r a x)else[]
noncomputable def mK(t u:GTrans)(a:aI):List kC:=t.aE.flatMap (pT t.ring u a)++u.aE.flatMap (rS a)
def JB(a:aI)(x:aC):(Ac a x).length<=1:=by unfold Ac;rw[rL];exact Gy a x
def JC(r:aB)(a:aI)(x y:aC):(rT r a x y).length<=1:=by unfold rT;split<;>simp
def ydx(a:aI)(y:aC):(rS a y).length<=1:=by unfold rS;split<;>simp
noncomputable def wH(L:List aI)(a:List aI)(s:aI):List aI:=if s∈L\/s∈a then a else eo aI.key a s
noncomputable def rY(L:List aI)(all:List kC):List aI:=all.foldl (λa x=>wH L a x.m.t) []
def nZ(x:aI)(L:List aI):Int:=match gO x L 0 with
 | some j=>(j:Int)
 | none =>-1
noncomputable def uD(t u:GTrans)(s:Nat)(X:List aI × List aC):List aI × List aC :=
 (X.1++rY X.1 (mK t u (X.1.getD s ⟨0,0,0⟩)),X.2++(mK t u (X.1.getD s ⟨0,0,0⟩)).map λx=>⟨s,x.m.i,x.m.o,nZ x.m.t (X.1++rY X.1 (mK t u (X.1.getD s ⟨0,0,0⟩))),x.m.w⟩)
noncomputable def cI(t u:GTrans)(X:List aI × List aC):Nat->List aI × List aC
 | 0=>X
 | s+1=>if s<(cI t u X s).1.length then uD t u s (cI t u X s)else cI t u X s
noncomputable def Ad(t u:GTrans)(k:Nat)(L:List aI)(j:Nat):List aI:=if t.ring.times (t.aU.getD k eC) (u.aU.getD j eC)=t.ring.zero then L else L++[⟨k,j,0⟩]
noncomputable def qH(t u:GTrans)(L:List aI)(k j:Nat):List aI:=(List.range j).foldl (Ad t u k) L
noncomputable def kU(t u:GTrans)(a:Nat)(L:List aI)(k:Nat):List aI:=(List.range k).foldl (λL k=>qH t u L k a) L
end Go.Ab
namespace Go.Ab
open Enc (enc)
attribute [local simp] fX bL.aR
def iV(t u:GTrans)(a:aI)(k:Nat)(x:aC)(o:List kC)(j:Nat):St :=
 aD [(3,.ptr 3 0 0 0),(4,.ptr 4 0 0 0),(5,.ptr 5 0 0 0),(7,.own 7 0 0 o.length),(8,.p (.int .i64 k)),(9,.ptr 9 0 0 0),(10,.p (.int .i64 j))]
  [(3,⟨8,[.p (enc t)]⟩),(4,⟨8,[.p (enc u)]⟩),(5,⟨3,[.p (enc a)]⟩),(7,⟨13,aT o⟩),(9,⟨12,[.p (enc x)]⟩)]
def nX(t u:GTrans)(a:aI)(o:List kC)(k:Nat):St :=
 aD [(3,.ptr 3 0 0 0),(4,.ptr 4 0 0 0),(5,.ptr 5 0 0 0),(7,.own 7 0 0 o.length),(8,.p (.int .i64 k))]
  [(3,⟨8,[.p (enc t)]⟩),(4,⟨8,[.p (enc u)]⟩),(5,⟨3,[.p (enc a)]⟩),(7,⟨13,aT o⟩)]
def nW(u:GTrans)(a:aI)(o:List kC)(k:Nat):St :=
 aD [(4,.ptr 4 0 0 0),(5,.ptr 5 0 0 0),(7,.own 7 0 0 o.length),(13,.p (.int .i64 k))]
  [(4,⟨8,[.p (enc u)]⟩),(5,⟨3,[.p (enc a)]⟩),(7,⟨13,aT o⟩)]
def VH{t u:GTrans}{M:c4 t.ring}(Y:dM M){n:Nat}(hn:n+n+1<=M.lim){a:aI}{k:Nat}{x:aC}(r:x.w.aQ t.ring/\M.mb n x.w)
  (Z:∀ y∈u.aE,y.w.aQ t.ring/\M.mb n y.w) (ad:u.aE.length<=1000) {o:List kC} (ho:o.length<=2000000) {Q:Exit->St->Prop} {ks:List Kt} {st:St} (hw:aA st (iV t u a k x o 0))
  (hx:gI P 156 Q (fS 2 ks) 2 (iV t u a k x (o++u.aE.flatMap (rT t.ring a x)) u.aE.length)):vL P 156 Q g.pa ks st:=by
 refine cQ (S:=λj:Nat=>iV t u a k x (o++(u.aE.take j).flatMap (rT t.ring a x)) j) (I:=λj=>j<=u.aE.length) (m:=λj=>u.aE.length - j) 0 (by simpa using hw) (by omega) ?_;rintro j hj R L hr V;have G:=bH j;have af:((u.aE.take j).flatMap (rT t.ring a x)).length<=1000:=by have:=vr (l:=u.aE.take j) (f:=rT t.ring a x) (B:=1) λy _=>JC _ _ _ _;rw[List.length_take]at this;omega
 by_cases d:j<u.aE.length
 .have hs:=DD (rT t.ring a x) d;have p:∀ b,aA b (iV t u a k x (o++(u.aE.take (j+1)).flatMap (rT t.ring a x)) (j+1))->R .normal b:=λb h=>L (j+1) b h (by omega) (by omega);rw[hs,<- List.append_assoc]at p;have ag:(o++(u.aE.take j).flatMap (rT t.ring a x)).length<=2001000:=by rw[gL];omega
  generalize o++(u.aE.take j).flatMap (rT t.ring a x)=O at *
  obtain⟨K,W⟩:=Z _ (bV d);have U:=M.timesS (show n<=M.lim by omega) r.1 K r.2 W;have N:=Y.rQ hn (Dn r.1 K) (M.times r.1 K r.2 W);have J:=Ht t.ring (t.ring.times x.w (u.aE[j]'d).w) (N.mono (by omega));simp[g.pa,iV,aD,d];refine bK d ?_;generalize u.aE[j]'d=y at *
  refine bA U ?_;generalize s:t.ring.times x.w y.w=w at *
  simp;have C:¬ (y.f=a.q/\x.o=y.i/\(0<x.o\/a.f=0)/\t.ring.times x.w y.w≠t.ring.zero)->∀ b,aA b (iV t u a k x O (j+1))->R .normal b:=λhc b h=>p b (by rw[show rT t.ring a x y=[] from aY hc,kZ];exact h);have A:y.f=a.q->x.o=y.i->(0<x.o\/a.f=0)->w≠t.ring.zero->∀ b,aA b (iV t u a k x (O++[⟨⟨x.i,y.o,⟨x.t,y.t,0⟩,w⟩⟩]) (j+1))->R .normal b:=λD E H F b h=>p b (by rw[show rT t.ring a x y=[⟨⟨x.i,y.o,⟨x.t,y.t,0⟩,w⟩⟩] from (aW ⟨D,E,H,by rw[s];exact F⟩).trans (by rw[s])];exact h);refine⟨λD=>⟨λE=>⟨λH=>?_,λH=>⟨λF=>?_,λF=>?_⟩⟩,λE=>?_⟩,λD=>?_⟩
  .refine bA J ?_;by_cases z:w=t.ring.zero
   .rw[decide_eq_true z];simp[G];refine C (λh=>h.2.2.2 (s.trans z)) _ (aA.to [3,4,5,7,8,9,10] [((3,0),3),((4,0),4),((5,0),5),((7,0),7),((9,0),9)] ?_);simp[iV,aD]
   .rw[decide_eq_false z];simp[G,eS];refine⟨by omega,A D E (.inl H) z _ (aA.to [3,4,5,7,8,9,10] [((3,0),3),((4,0),4),((5,0),5),((114,0),7),((9,0),9)] ?_)⟩;simp[iV,aD]
  .refine bA J ?_;by_cases z:w=t.ring.zero
   .rw[decide_eq_true z];simp[G];refine C (λh=>h.2.2.2 (s.trans z)) _ (aA.to [3,4,5,7,8,9,10] [((3,0),3),((4,0),4),((5,0),5),((7,0),7),((9,0),9)] ?_);simp[iV,aD]
   .rw[decide_eq_false z];simp[G,eS];refine⟨by omega,A D E (.inr F) z _ (aA.to [3,4,5,7,8,9,10] [((3,0),3),((4,0),4),((5,0),5),((114,0),7),((9,0),9)] ?_)⟩;simp[iV,aD]
  all_goals rw[G]
  all_goals refine C (λh=>?_) _ (aA.to [3,4,5,7,8,9,10] [((3,0),3),((4,0),4),((5,0),5),((7,0),7),((9,0),9)] ?_)
  all_goals first|(simp[iV,aD];done)|(obtain⟨q1,q2,X,q4⟩:=h;first|exact D q1|exact E q2|exact X.elim (λq=>H q) (λq=>F q)|exact X.elim (λq=>by omega) (λq=>F q))
 .have:j=u.aE.length:=by omega
  subst this;simp[g.pa,iV,aD];refine V _ _ ?_;simpa[iV,aD]using hx
def z91{t u:GTrans}{M:c4 t.ring}(W:dM M){n:Nat}(hn:n+n+1<=M.lim){a:aI}(X:∀ x∈t.aE,x.w.aQ t.ring/\M.mb n x.w)(Y:t.aE.length<=1000)
  (Z:∀ y∈u.aE,y.w.aQ t.ring/\M.mb n y.w) (H:u.aE.length<=1000) {Q:Exit->St->Prop} {ks:List Kt} {st:St} (hw:aA st (nX t u a [] 0))
  (hx:gI P 156 Q (fS 0 ks) 0 (nX t u a (t.aE.flatMap (pT t.ring u a)) t.aE.length)):vL P 156 Q g.p9 ks st:=by
 refine cQ (S:=λk:Nat=>nX t u a ((t.aE.take k).flatMap (pT t.ring u a)) k) (I:=λk=>k<=t.aE.length) (m:=λk=>t.aE.length - k) 0 (by simpa using hw) (by omega) ?_;rintro k hk R C hr K;have N:=bH k;have af:((t.aE.take k).flatMap (pT t.ring u a)).length<=1001000:=by
  have:=vr (l:=t.aE.take k) (f:=pT t.ring u a) (B:=1001) λx _=>by
   unfold pT;split
   .have z:=JB a x;have D:=vr (l:=u.aE) (f:=rT t.ring a x) (B:=1) λy _=>JC _ _ _ _;rw[gL];omega
   .simp
  rw[iB]at this;have E:min k t.aE.length*1001<=1000*1001:=kD _ (by omega);omega
 by_cases r:k<t.aE.length
 .have V:=DD (pT t.ring u a) r;have j:∀ b,aA b (nX t u a ((t.aE.take (k+1)).flatMap (pT t.ring u a)) (k+1))->R .normal b:=λb h=>C (k+1) b h (by omega) (by omega);rw[V]at j;generalize (t.aE.take k).flatMap (pT t.ring u a)=O at *
  have L:=X _ (bV r);have ad:=JB a t.aE[k];have G:Ac a t.aE[k]=if t.aE[k].o=0/\a.f≠2 then[⟨⟨t.aE[k].i,0,⟨t.aE[k].t,a.q,1⟩,t.aE[k].w⟩⟩]else[]:=by unfold Ac uO;split<;>rfl
  have d:∀ (F:t.aE[k].f=a.p) (o:List kC) (b:St),o=O++Ac a t.aE[k]->aA b (iV t u a k t.aE[k] o 0)->vL P 156 R g.pa [.bU 2,.bU 1,.code (.cY [⟨some 20,.mv (.t 8),none⟩,⟨some 21,.dH .add (.t 20) (.c (.p (.int .i64 1))),none⟩,⟨some 8,.mv (.t 21),none⟩] [[8,9,10],[20],[21]])] b:=λF o b U J=>by
   refine VH W hn L Z H (by rw[U,gL];omega) J ?_;have A:o++u.aE.flatMap (rT t.ring a t.aE[k])=O++pT t.ring u a t.aE[k]:=by rw[U];unfold pT;rw[aW F];simp
   rw[A];generalize O++pT t.ring u a t.aE[k]=O2 at *
   simp[iV,aD,N];refine j _ (aA.to [3,4,5,7,8] [((3,0),3),((4,0),4),((5,0),5),((7,0),7)] ?_);simp[nX,aD]
  have s:t.aE[k].f≠a.p->∀ b,aA b (nX t u a O (k+1))->R .normal b:=λF b h=>j b (by rw[show pT t.ring u a t.aE[k]=[] from aY F,kZ];exact h);clear C j V;simp[g.p9,nX,aD,r];refine bK r ?_;generalize t.aE[k]'r=x at *
  refine⟨λz=>⟨λD=>⟨λE=>?_,λE=>?_⟩,λD=>?_⟩,λz=>?_⟩
  .refine d z O _ (by rw[G,aY λh=>h.2 E,kZ]) (aA.to [3,4,5,7,8,9,10] [((3,0),3),((4,0),4),((5,0),5),((7,0),7),((9,0),9)] ?_);simp[iV,aD]
  .refine⟨by omega,d z (O++[⟨⟨x.i,0,⟨x.t,a.q,1⟩,x.w⟩⟩]) _ (by rw[G,aW ⟨D,E⟩]) (aA.to [3,4,5,7,8,9,10] [((3,0),3),((4,0),4),((5,0),5),((52,0),7),((9,0),9)] ?_)⟩;simp[iV,aD]
  .refine d z O _ (by rw[G,aY λh=>D h.1,kZ]) (aA.to [3,4,5,7,8,9,10] [((3,0),3),((4,0),4),((5,0),5),((7,0),7),((9,0),9)] ?_);simp[iV,aD]
  .rw[N];refine s z _ (aA.to [3,4,5,7,8] [((3,0),3),((4,0),4),((5,0),5),((7,0),7)] ?_);simp[nX,aD]
 .have:k=t.aE.length:=by omega
  subst this;simp[g.p9,nX,aD];refine K _ _ ?_;simpa[nX,aD]using hx
def VI{u:GTrans}{a:aI}(D:u.aE.length<=1000){o:List kC}(M:o.length<=2000000){Q:Exit->St->Prop}{ks:List Kt}{st:St}(J:aA st (nW u a o 0))
  (K:gI P 156 Q (fS 4 ks) 4 (nW u a (o++u.aE.flatMap (rS a)) u.aE.length)):vL P 156 Q g.qa ks st:=by
 refine cQ (S:=λk:Nat=>nW u a (o++(u.aE.take k).flatMap (rS a)) k) (I:=λk=>k<=u.aE.length) (m:=λk=>u.aE.length - k) 0 (by simpa using J) (by omega) ?_;rintro k L R x N A;have C:=bH k;have F:((u.aE.take k).flatMap (rS a)).length<=1000:=by have:=vr (l:=u.aE.take k) (f:=rS a) (B:=1) λy _=>ydx _ _;rw[List.length_take]at this;omega
 by_cases j:k<u.aE.length
 .have H:=DD (rS a) j;have d:∀ b,aA b (nW u a (o++(u.aE.take (k+1)).flatMap (rS a)) (k+1))->R .normal b:=λb h=>x (k+1) b h (by omega) (by omega);rw[H,<- List.append_assoc]at d;have G:(o++(u.aE.take k).flatMap (rS a)).length<=2001000:=by rw[gL];omega
  generalize o++(u.aE.take k).flatMap (rS a)=O at *
  simp[g.qa,nW,aD,j];refine bK j ?_;generalize u.aE[k]'j=y at *
  have z:¬ (y.f=a.q/\y.i=0/\a.f≠1)->∀ b,aA b (nW u a O (k+1))->R .normal b:=λE b h=>d b (by rw[show rS a y=[] from aY E,kZ];exact h);refine⟨λn=>⟨λr=>⟨λs=>?_,λs=>?_⟩,λr=>?_⟩,λn=>?_⟩;rotate_left
  .rw[show rS a y=[⟨⟨0,y.o,⟨a.p,y.t,2⟩,y.w⟩⟩] from aW ⟨n,r,s⟩]at d;rw[C];refine⟨by omega,d _ (aA.to [4,5,7,13] [((4,0),4),((5,0),5),((154,0),7)] ?_)⟩;simp[nW,aD]
  all_goals rw[C]
  all_goals refine z (λh=>?_) _ (aA.to [4,5,7,13] [((4,0),4),((5,0),5),((7,0),7)] ?_)
  all_goals first|(simp[nW,aD];done)|(first|exact n h.1|exact r h.2.1|exact h.2.2 s)
 .have:k=u.aE.length:=by omega
  subst this;simp[g.qa,nW,aD];refine A _ _ ?_;simpa[nW,aD]using K
def Vc{t u:GTrans}{M:c4 t.ring}(h:dM M){n:Nat}(hn:n+n+1<=M.lim)(a:aI)(i:∀ x∈t.aE,x.w.aQ t.ring/\M.mb n x.w)(d:t.aE.length<=1000)
  (j:∀ y∈u.aE,y.w.aQ t.ring/\M.mb n y.w) (b:u.aE.length<=1000):zS 33 [enc t,enc u,enc a] (.sl (aH (mK t u a))):=by
 have k:(t.aE.flatMap (pT t.ring u a)).length<=1001000:=by
  have:=vr (l:=t.aE) (f:=pT t.ring u a) (B:=1001) λx _=>by
   unfold pT;split
   .have p:=JB a x;have r:=vr (l:=u.aE) (f:=rT t.ring a x) (B:=1) λy _=>JC _ _ _ _;rw[gL];omega
   .simp
  have s:t.aE.length*1001<=1000*1001:=kD _ (by omega);omega
 refine Sp.vz c.ki λ_=>?_;simp[g.ki];refine z91 h hn i d j b (t:=t) (u:=u) (a:=a) (aA.nl 7 77 13 rfl (aA.to [3,4,5,7,8] [((3,0),3),((4,0),4),((5,0),5),((77,0),7)] ?_)) ?_
 .simp[nX,aD]
 unfold mK;generalize t.aE.flatMap (pT t.ring u a)=O at *
 simp[nX,aD];refine VI (u:=u) (a:=a) (o:=O) b (by omega) (aA.to [4,5,7,13] [((4,0),4),((5,0),5),((7,0),7)] ?_) ?_
 .simp[nW,aD]
 generalize O++u.aE.flatMap (rS a)=m at *
 simp[nW,aD]
theorem Rl{x:aI}:∀ {L:List aI} {k i:Nat} (h:k<L.length),(∀ j (h:j<L.length),j<k->L[j]≠x)->L[k]=x->gO x L i=some (i+k)
 | y::L,0,i,_,_,h=>by
  simp only[Ma]at h;simp[gO,h]
 | y::L,k+1,i,l,b,h=>by
  have a:=b 0 (by simp) (by omega);simp only[List.getElem_cons_zero]at a;have:=Rl (x:=x) (L:=L) (k:=k) (i:=i+1) (by simpa using l) (λj d f=>by have:=b (j+1) (by simpa using d) (by omega);rw[List.getElem_cons_succ]at this;exact this) (by simpa using h);simp only[gO,if_neg (Ne.symm a),this]
  congr 1;omega
def Eb(L:List aI)(x:aI)(k:Nat):St:=aD [(0,.p (.sl (aH L))),(3,.ptr 3 0 0 0),(5,.p (.int .i64 k))] [(3,⟨3,[.p (enc x)]⟩)]
def Kz(L:List aI)(x:aI)(J:L.length<=1000000):zS 35 [.sl (aH L),enc x] (.int .i64 (nZ x L)):=by
 refine Sp.vz c.g8 λ_=>?_;simp[g.g8];refine cQ (S:=λk:Nat=>Eb L x k) (I:=λk=>k<=L.length/\∀ j (h:j<L.length),j<k->L[j]≠x) (m:=λk=>L.length - k) 0 (aA.to [0,3,5] [((3,0),3)] (by simp[Eb,aD])) ⟨by omega,λj _ h=>by omega⟩ ?_;rintro k ⟨K,r⟩ R s D E;have w:=bH k;by_cases l:k<L.length
 .have f:L[k]≠x->∀ d,aA d (Eb L x (k+1))->R .normal d:=λt d h=>s (k+1) d h ⟨by omega,λj n p=>by
   obtain h|rfl:=Nat.lt_or_eq_of_le (Nat.le_of_lt_succ p)
   .exact r j n h
   .exact t⟩ (by omega)
  have i:L[k]=x->nZ x L=(k:Int):=λC=>by unfold nZ;rw[Rl l r C];simp
  simp[g.rd,Eb,aD,l];refine bK l ?_;generalize L[k]=y at *
  obtain⟨a,b,c⟩:=x;obtain⟨F,G,H⟩:=y;simp only[aI.mk.injEq,ne_eq]at f i;simp;refine⟨λz A B=>D _ ?_,λh=>?_⟩
  .simp[i ⟨z,A,B⟩]
  .rw[w];refine f (λo=>h o.1 o.2.1 o.2.2) _ (aA.to [0,3,5] [((3,0),3)] ?_);simp[Eb,aD]
 .have:k=L.length:=by omega
  subst this;have u:nZ x L = -1:=by
   unfold nZ;rw[BQ.2 λh=>by
    obtain⟨j,n,e⟩:=H' h;exact r j n n e]
  simp[g.rd,Eb,aD];refine E _ _ ?_;simp[u]
def VY(x y:aI):zS 85 [enc x,enc y] (.bool (decide (x.key<y.key))):=by
 obtain⟨a,b,d⟩:=x;obtain⟨i,j,k⟩:=y;refine Sp.vz c.k9 λ_=>?_;simp[g.k9,aI.key];refine⟨λf=>⟨λh=>?_,λh=>?_⟩,λf=>?_⟩
 .simp[H3,f,h]
 .simp[H3,f,h]
 .simp[H3,f]
theorem Sy{α : Type}{key : α -> List Int}{x : α}:∀ {O:List α} {i:Nat},i<=O.length->(∀ j (h:j<O.length),j<i->key O[j]<key x)->(∀ (h:i<O.length),key x<key O[i])->eo key O x=O.take i++x::O.drop i
 | [],i,_,_,_=>by simp[eo]
 | z::O,0,_,_,h=>by
  have:=h (by simp);simp only[Ma]at this;simp[eo,this]
 | z::O,i+1,f,b,d=>by have a:=b 0 (by simp) (by omega);simp only[List.getElem_cons_zero]at a;have m:¬ key x<key z:=λh=>List.lt_irrefl _ (List.lt_trans h a);have n:=Sy (key:=key) (x:=x) (O:=O) (i:=i) (by simpa using f) (λj k l=>by have:=b (j+1) (by simpa using k) (by omega);rw[List.getElem_cons_succ]at this;exact this) (λh=>by have:=d (by simpa using h);rw[List.getElem_cons_succ]at this;exact this);simp only[eo,if_neg m,n,List.take_succ_cons,List.drop_succ_cons,List.cons_append]
theorem RP{x:aI}{L:List aI}:(0<=nZ x L) ↔ x∈L:=by
 unfold nZ;cases h:gO x L 0 with
 | none=>simp only;exact⟨λh=>(by omega),λa=>absurd a (BQ.1 h)⟩
 | some j=>simp only;exact⟨λ_=>Fy λa=>(by rw[BQ.2 a]at h;cases h),λ_=>(by omega)⟩
def ZK(L a:List aI)(s:aI):(wH L a s).length<=a.length+1:=by
 unfold wH;split
 .omega
 .rw[SC];omega
noncomputable def wI(L:List aI)(all:List kC)(k:Nat):List aI:=rY L (all.take k)
theorem Nx(L:List aI){all:List kC}{k:Nat}(h:k<all.length):wI L all (k+1)=wH L (wI L all k) all[k].m.t:=by unfold wI rY;rw[ed h,yD];rfl
theorem RC(L:List aI){all:List kC}:∀ {k:Nat},k<=all.length->(wI L all k).length<=k
 | 0,_=>by simp[wI,rY]
 | k+1,h=>by rw[Nx L (by omega)];have:=ZK L (wI L all k) all[k].m.t;have:=RC L (all:=all) (k:=k) (by omega);omega
def qK(L:List aI)(all:List kC)(O:List aI)(k:Nat):St:=aD [(0,.p (.sl (aH L))),(1,.p (.sl (aH all))),(5,.own 5 0 0 O.length),(6,.p (.int .i64 k))] [(5,⟨3,aT O⟩)]
def x7(L:List aI)(all:List kC)(O:List aI)(k:Nat)(x:aI)(i:Nat):St:=aD [(0,.p (.sl (aH L))),(1,.p (.sl (aH all))),(5,.own 5 0 0 O.length),(6,.p (.int .i64 k)),(7,.ptr 7 0 0 0),(8,.p (.int .i64 i))] [(5,⟨3,aT O⟩),(7,⟨3,[.p (enc x)]⟩)]
def ye1(L:List aI)(all:List kC)(U:L.length<=1000000)(hA:all.length<=1000000)(hs:∀ k,k<=all.length->eI aI.key (wI L all k)) :
  Sp P 34 [.sl (aH L),.sl (aH all)] (.fresh 3 (aH (rY L all))):=by
 refine Sp.vz c.kj λ_=>?_;simp[g.kj]
 refine cQ (S:=λk:Nat=>qK L all (wI L all k) k) (I:=λk=>k<=all.length) (m:=λk=>all.length - k) 0
  (aA.nl 5 77 3 rfl (aA.to [0,1,5,6] [((77,0),5)] (by simp[qK,aD,wI,rY]))) (by omega) ?_
 rintro k K R G hr hx;have z:=bH k;by_cases n:k<all.length
 .have a:∀ b,aA b (qK L all (wI L all (k+1)) (k+1))->R .normal b:=λb h=>G (k+1) b h (by omega) (by omega);rw[Nx L n]at a;have af:=hs k K;have Z:=RC L K;generalize wI L all k=O at *
  have p1:=Kz L all[k].m.t U;have p2:=Kz O all[k].m.t (by omega);have M:=RP (x:=all[k].m.t) (L:=L);have N:=RP (x:=all[k].m.t) (L:=O);simp[g.rb,qK,aD,n];refine bK n ?_;generalize all[k]'n=y at *
  obtain⟨⟨mi,mo,x,mw⟩⟩:=y;simp only at *
  have d:x∈L\/x∈O->∀ b,aA b (qK L all O (k+1))->R .normal b:=λV b h=>a b (by rw[show wH L O x=O from aW V];exact h);refine bA p1 ?_;by_cases o:x∈L
  .simp[M.2 o,z];refine d (.inl o) _ (aA.to [0,1,5,6] [((5,0),5)] ?_);simp[qK,aD]
  have q3:nZ x L<0:=by have:=mt M.1 o;omega
  have q5:¬ 0<=nZ x L:=by omega
  simp[q5];refine bA p2 ?_;by_cases f:x∈O
  .simp[N.2 f,z];refine d (.inr f) _ (aA.to [0,1,5,6] [((5,0),5)] ?_);simp[qK,aD]
  have q4:nZ x O<0:=by have:=mt N.1 f;omega
  have q6:¬ 0<=nZ x O:=by omega
  simp[q6];rw[show wH L O x=eo aI.key O x from aY λh=>h.elim o f]at a;refine cQ (S:=λi:Nat=>x7 L all O k x i) (I:=λi=>i<=O.length/\∀ j (h:j<O.length),j<i->O[j].key<x.key) (m:=λi=>O.length - i) 0 (aA.to [0,1,5,6,7,8] [((5,0),5),((7,0),7)] (by simp[x7,aD])) ⟨by omega,λj _ h=>by omega⟩ ?_;rintro i ⟨E,s⟩ R2 H ad w;have Q:=bH i;have p:(∀ h:i<O.length,¬ O[i].key<x.key)->eo aI.key O x=O.take i++x::O.drop i:=λC=>Sy E s λh=>by
   obtain r|r|r:=AN x.key O[i].key
   .exact r
   .exact absurd (JK.2 r ▸ bV h) f
   .exact absurd r (C h)
  by_cases D:i<O.length
  .have l:=VY O[i] x;simp[g.ra,x7,aD,D];refine bK D ?_;by_cases A:O[i].key<x.key
   .rw[decide_eq_true A]at l;refine bA l ?_;simp[Q];refine H (i+1) _ (aA.to [0,1,5,6,7,8] [((5,0),5),((7,0),7)] (by simp[x7,aD])) ⟨by omega,λj X F=>?_⟩ (by omega);obtain h|rfl:=Nat.lt_or_eq_of_le (Nat.le_of_lt_succ F)
    .exact s j X h
    .exact A
   .rw[decide_eq_false A]at l;refine bA l ?_;have B:=p λ_=>A;rw[B]at a;have Y:min i O.length=i:=by omega
    simp;refine w _ _ ?_;simp[z,eS,Y];have u:i+1+(O.length - i)=O.length+1:=by omega
    have J:(O.drop i).take (O.length - i)=O.drop i:=fK (by simp);refine⟨by omega,⟨by omega,by omega⟩,by omega,by omega,⟨by omega,by omega⟩,?_⟩;refine a _ (aA.to [0,1,5,6] [((54,0),5)] ?_);rw[J];simp[qK,aD,u];omega
  .have:i=O.length:=by omega
   subst this;have B:=p λh=>absurd h D;rw[B]at a;simp[g.ra,x7,aD];refine w _ _ ?_;simp[z,eS];refine⟨by omega,by omega,a _ (aA.to [0,1,5,6] [((54,0),5)] ?_)⟩;simp[qK,aD]
 .have:k=all.length:=by omega
  subst this;have W:wI L all all.length=rY L all:=by unfold wI;rw[fK (dK _)]
  rw[W];simp[g.rb,qK,aD];refine hx _ _ ?_;simp
end Go.Ab
namespace Go.Ab
inductive j2 (nx:List (List Int)) (m:List Bool):Nat->Prop
 | base {i:Nat}:m[i]?=some true->j2 nx m i
 | step {i j:Nat} {l:List Int}:j2 nx m i->nx[i]?=some l->(j:Int)∈l->j2 nx m j
open Classical in
noncomputable def iH(nx:List (List Int))(m:List Bool):List Bool:=(List.range m.length).map λi=>decide (j2 nx m i)
structure tK (nx:List (List Int)) (m0:List Bool) (N:Nat) (m:List Bool) (o:List Int):Prop where
 ml:m.length=N
 F2:m0.length=N
 nl:nx.length=N
 sub:∀ i:Nat,m0[i]?=some true->m[i]?=some true
 Ea:∀ i:Nat,m[i]?=some true->j2 nx m0 i
 op:∀ x∈o,∃ i:Nat,x=i/\m[i]?=some true
 cl:∀ (i:Nat) (l:List Int),m[i]?=some true->(i:Int)∉o->nx[i]?=some l->∀ j:Nat,(j:Int)∈l->m[j]?=some true
 sz:2*sJ m+o.length<=3*N
structure oz (nx:List (List Int)) (m0:List Bool) (N S:Nat) (i:Nat) (l:List Int) (k:Nat) (m:List Bool) (o:List Int):Prop where
 ml:m.length=N
 F2:m0.length=N
 nl:nx.length=N
 ni:nx[i]?=some l
 ri:j2 nx m0 i
 sub:∀ i:Nat,m0[i]?=some true->m[i]?=some true
 Ea:∀ i:Nat,m[i]?=some true->j2 nx m0 i
 op:∀ x∈o,∃ i:Nat,x=i/\m[i]?=some true
 cl:∀ (i':Nat) (l':List Int),i'≠i->m[i']?=some true->(i':Int)∉o->nx[i']?=some l'->∀ j:Nat,(j:Int)∈l'->m[j]?=some true
 hd:∀ j:Nat,(j:Int)∈l.take k->m[j]?=some true
 sz:2*sJ m+o.length+1<=S
 hS:S<=3*N
def tK.pop{nx:List (List Int)}{m0 m:List Bool}{N:Nat}{o:List Int}{x:Int}(h:tK nx m0 N m (o++[x])):∃ (i:Nat) (l:List Int),x=i/\i<N/\nx[i]?=some l/\oz nx m0 N (2*sJ m+o.length+1) i l 0 m o:=by
 obtain⟨i,hi,hm⟩:=h.op x (by simp);have b:i<m.length:=(iR.1 hm).1;have a:i<nx.length:=by rw[h.nl,<- h.ml];exact b
 refine⟨i,nx[i],hi,by rw[<- h.ml];exact b,dF a,h.ml,h.F2,h.nl,dF a,h.Ea i hm,h.sub,h.Ea,λy r=>h.op y (by simp[r]),λi' l' p d k f=>h.cl i' l' d (λa=>?_) f,λj n=>by simp at n,dK _,by have:=h.sz;simp at this;omega⟩;obtain a|a:=dT.1 a
 .exact k a
 .simp only[jF]at a;subst hi;omega
def oz.done{nx:List (List Int)}{m0 m:List Bool}{N S i:Nat}{l:List Int}{k:Nat}{o:List Int}(h:oz nx m0 N S i l k m o)(f:l.length<=k):tK nx m0 N m o:=by
 refine⟨h.ml,h.F2,h.nl,h.sub,h.Ea,h.op,λi' l' hm a hn j d=>?_,by have:=h.sz;have:=h.hS;omega⟩;by_cases b:i'=i
 .subst b;rw[h.ni]at hn;cases hn;exact h.hd j (by rwa[fK f])
 .exact h.cl i' l' b hm a hn j d
def oz.skip{nx:List (List Int)}{m0 m:List Bool}{N S i:Nat}{l:List Int}{k:Nat}{o:List Int}{j:Nat}(h:oz nx m0 N S i l k m o)(p:l[k]?=some (j:Int))(n:m[j]?=some true):oz nx m0 N S i l (k+1) m o:=by
 refine { h with hd:=λf a=>?_ };obtain⟨b,d⟩:=iR.1 p;rw[ed b,d]at a;obtain a|a:=dT.1 a
 .exact h.hd f a
 .simp only[jF]at a;have:f=j:=by omega
  subst this;exact n
def oz.push{nx:List (List Int)}{m0 m:List Bool}{N S i:Nat}{l:List Int}{k:Nat}{o:List Int}{j:Nat}(h:oz nx m0 N S i l k m o)(E:l[k]?=some (j:Int))(A:m[j]?=some false):oz nx m0 N S i l (k+1) (m.set j true) (o++[(j:Int)]):=by
 obtain⟨r,s⟩:=iR.1 E;obtain⟨y,D⟩:=iR.1 A;have t:(j:Int)∈l:=by rw[<- s];exact bV r
 have a:∀ q:Nat,m[q]?=some true->(m.set j true)[q]?=some true:=λq hq=>by
  rw[vx];split
  .simp
  .exact hq
 have f:(m.set j true)[j]?=some true:=by simp[y]
 have d:∀ q:Nat,(m.set j true)[q]?=some true->q=j\/m[q]?=some true:=λq hq=>by
  rw[vx]at hq;split at hq
  .rename_i h;exact .inl h.symm
  .exact .inr hq
 refine⟨by rw[List.length_set];exact h.ml,h.F2,h.nl,h.ni,h.ri,λq hq=>a q (h.sub q hq),λq hq=>?_,λx n=>?_,λi' l' z hm u hn p b=>?_,λp b=>?_,?_,h.hS⟩
 .obtain rfl|hq:=d q hq
  .exact .step h.ri h.ni t
  .exact h.Ea q hq
 .obtain n|n:=dT.1 n
  .obtain⟨q,B,C⟩:=h.op x n;exact⟨q,B,a q C⟩
  .simp only[jF]at n;exact⟨j,n,f⟩
 .obtain rfl|hm:=d i' hm
  .exact absurd (List.mem_append_right _ (jF.2 rfl)) u
  .exact a p (h.cl i' l' z hm (λw=>u (BZ _ w)) hn p b)
 .rw[ed r,s]at b;obtain b|b:=dT.1 b
  .exact a p (h.hd p b)
  .simp only[jF]at b;have:p=j:=by omega
   subst this;exact f
 .have F:=Jd m j (by rw[eT,A];rfl);have:=h.sz;simp only[gL,H7];omega
open Classical in
theorem tK.fin{nx:List (List Int)}{m0 m:List Bool}{N:Nat}(h:tK nx m0 N m []):m=iH nx m0:=by
 have j:∀ i:Nat,j2 nx m0 i->m[i]?=some true:=λi hi=>by
  induction hi with
  | base hm=>exact h.sub _ hm
  | step _ hn f k=>exact h.cl _ _ k (by simp) hn _ f
 apply B4
 .simp[iH,h.ml,h.F2]
 .intro i b l;simp only[iH,DP,L7];by_cases a:j2 nx m0 i
  .rw[decide_eq_true a];have:=j i a;rw[dF b]at this;exact Mo this
  .rw[decide_eq_false a];cases d:m[i]with
   | false=>rfl
   | true=>exact absurd (h.Ea i (by rw[dF b,d])) a
def lR(m:List Bool)(k:Nat):List Int:=((List.range k).filter λi=>m.getD i false).map λ(i:Nat)=>(i:Int)
theorem LL:∀ (m:List Bool),sJ m<=m.length
 | []=>dK _
 | b::l=>by have:=LL l;cases b<;>simp[sJ]<;>omega
def Yc{nx:List (List Int)}{m:List Bool}{N:Nat}(b:m.length=N)(o:nx.length=N):tK nx m N m (lR m N):=by
 refine⟨b,b,o,λi h=>h,λi h=>.base h,λx s=>?_,λi l n f=>?_,?_⟩
 .obtain⟨i,r,rfl⟩:=cD.1 s;obtain⟨j,k⟩:=k8.1 r;have a:i<m.length:=by rw[b];exact xP.1 j
  refine⟨i,rfl,?_⟩;rw[List.getD_eq_getElem?_getD,List.getElem?_eq_getElem a]at k;rw[List.getElem?_eq_getElem a];simpa using k
 .have d:i<N:=by rw[<- b];exact(iR.1 n).1
  have p:m.getD i false=true:=by rw[eT,n];rfl
  exact absurd (cD.2 ⟨i,k8.2 ⟨xP.2 d,p⟩,rfl⟩) f
 .have:=LL m;have j:(lR m N).length<=N:=by unfold lR;rw[rL];exact dP (nQ _ _) (zZ List.length_range)
  omega
theorem yae(m:List Bool){k:Nat}(b:k<m.length):lR m (k+1)=lR m k++(if m[k]=true then[(k:Int)]else[]):=by
 unfold lR;rw[vZ,v7,qY]
 congr 1
 have:m.getD k false=m[k]:=by rw[eT,dF b];rfl
 by_cases a:m[k]=true
 .rw[aW a,List.filter_cons_of_pos (by rw[this];exact a)];rfl
 .rw[aY a,List.filter_cons_of_neg (by rw[this];exact a)];rfl
end Go.Ab
