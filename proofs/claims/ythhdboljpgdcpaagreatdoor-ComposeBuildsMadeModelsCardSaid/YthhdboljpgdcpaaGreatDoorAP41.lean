/- Lemmas for the law ComposeBuildsMadeModels, part 41. No conditions. -/
import Derived.Test.YthhdboljpgdcpaaGreatDoorAP40
set_option maxRecDepth 100000
set_option maxHeartbeats 4000000
set_option linter.all false
namespace Go.Ab
open Enc (enc)
attribute [local simp] fX bL.aR
structure wT (t u:GTrans) (M:c4 t.ring) (n ns nu:Nat):Prop where
 mp:dM M
 hn:n+n+1<=M.lim
 hs:ns<=30
 hu:nu<=30
 it:t.aU.length=ns
 iu:u.aU.length=nu
 wit:∀ w∈t.aU,w.aQ t.ring/\M.mb n w
 wiu:∀ w∈u.aU,w.aQ t.ring/\M.mb n w
 wat:∀ x∈t.aE,x.w.aQ t.ring/\M.mb n x.w
 wau:∀ x∈u.aE,x.w.aQ t.ring/\M.mb n x.w
 at_:t.aE.length<=900
 au:u.aE.length<=900
 to:uX t u ns nu
 ml:∀ a,(tM t u a).length<=1000
def Vl{t u:GTrans}{M:c4 t.ring}{n z A:Nat}(o:wT t u M n z A){r:Nat}{L:List aI}(hL:kB z A L)(q:mG){st:St}(p:aA st (iT t u r (L,[]) 0)) :
  MR P 78 (GC.loop g.q8).er st (some (gB q (some (dN r L)))) λy d B=>y=.exit 0/\∃ s,s=(dG t u (L,[]) s).1.length/\B=some (gB q (some (dN r (dG t u (L,[]) s).1)))/\aA d (iT t u r (dG t u (L,[]) s) s):=by
 have af:=mS o.hs o.hu;have E:=EB (t:=t) (u:=u) o.to o.ml (X:=(L,[])) hL rfl;refine MR.nK (I:=λm d B=>∃ s,s<=(dG t u (L,[]) s).1.length/\m=z*A*3 - s/\B=some (gB q (some (dN r (dG t u (L,[]) s).1)))/\aA d (iT t u r (dG t u (L,[]) s) s)) (z*A*3) ⟨0,by omega,by omega,rfl,p⟩ ?_;rintro m d B ⟨s,hs,rfl,rfl,p⟩;refine MR.eg p ?_;obtain⟨H,N⟩:=E s;have Q:=H.len;generalize O:(λ(y:Exit) (d:St) (B:Option FA)=>(y=.normal->∃ m,m<z*A*3 - s/\∃ s,s<=(dG t u (L,[]) s).1.length/\m=z*A*3 - s/\B=some (gB q (some (dN r (dG t u (L,[]) s).1)))/\aA d (iT t u r (dG t u (L,[]) s) s))/\(y ≠ .normal->y=.exit 0/\∃ s,s=(dG t u (L,[]) s).1.length/\B=some (gB q (some (dN r (dG t u (L,[]) s).1)))/\aA d (iT t u r (dG t u (L,[]) s) s)))=R;have r1:s<(dG t u (L,[]) s).1.length->∀ d,s+1<=(vV t u s (dG t u (L,[]) s)).1.length->aA d (iT t u r (vV t u s (dG t u (L,[]) s)) (s+1))->R .normal d (some (gB q (some (dN r (vV t u s (dG t u (L,[]) s)).1)))):=λh d h2 p=>by subst O;have e:dG t u (L,[]) (s+1)=vV t u s (dG t u (L,[]) s):=aW h;rw[<- e]at p h2 ⊢;exact⟨λ_=>⟨_,by omega,s+1,h2,rfl,rfl,p⟩,λh=>absurd rfl h⟩
 have r2:s=(dG t u (L,[]) s).1.length->∀ d,aA d (iT t u r (dG t u (L,[]) s) s)->R (.exit 0) d (some (gB q (some (dN r (dG t u (L,[]) s).1)))):=λh d p=>by subst O;exact⟨λh=>(by cases h),λ_=>⟨rfl,s,h,rfl,p⟩⟩
 clear O p E;generalize dG t u (L,[]) s=X at *
 obtain⟨f,x⟩:=X;simp only at hs H N Q r1 r2;rw[YX];refine MR.cN (yd5 (by omega) hs _ _ ?_);by_cases i:s<f.length
 .rw[aW i];refine⟨λ_=>?_,λh=>absurd rfl h⟩;have r3:=r1 i;clear r1 r2;have D:f.getD s ⟨0,0,0⟩∈f:=by rw[eT,dF i];exact bV i
  have W:=WC o.mp o.hn o.wat o.wau o.at_ o.au (λa=>dP (o.ml a) (by omega)) (r0:=r) (nN f x) (f.getD s ⟨0,0,0⟩);have ag:(sH t u (f.getD s ⟨0,0,0⟩)).length<=1000:=dP (nQ _ _) (o.ml _);have V:=Tc o.to (H.b _ D);have J:s*1000<=2700*1000:=kD _ (by omega);have e1:=bH s;refine MR.cN (MR.kM ?_);refine yd6 (t:=t) (u:=u) (r:=r) (s:=s) (L:=f) (K:=x) i (by omega) (by omega) W _ _ λao ad=>MR.kM (MR.mono (yd2 o.hs o.hu H (λm hm=>V m ((iQ _).2.2 m |>.1 hm)) (by omega) (by rw[GH];omega) (by rw[GH];omega) q ad) ?_);rintro y al B ⟨rfl,rfl,j⟩;have C:s+1<=(vV t u s (f,x)).1.length:=dP (show s+1<=f.length by omega) (YY s _ (f,x));have Y:iU s (f,x) (b6 eL.key (sH t u (f.getD s ⟨0,0,0⟩)))=vV t u s (f,x):=rfl;rw[Y]at j ⊢;generalize vV t u s (f,x)=X at *
  obtain⟨L2,K2⟩:=X;simp only at j r3 C ⊢;refine⟨λ_=>MR.eg j (MR.cS ?_),λh=>absurd rfl h⟩;have k:=nN L2 K2;have F:=k.sa;have G:=k.sb;have U:=k.l;have S:=k.a;simp[MD,iS,cX,cP,bJ,e1];refine r3 _ C (aA.cU [0,3] ek [] ?_);simp[iT,cX,cP,bJ,U,S];exact⟨F,G⟩
 .rw[aY i];exact⟨λh=>(by cases h),λ_=>r2 (by omega) _ (aA.refl _)⟩
noncomputable def kI(t u:GTrans)(b d:Nat):List aI × List aC:=dG t u (jN t u [] b,[]) (b*d*3)
def kB.nil(ns nu:Nat):kB ns nu []:=⟨List.nodup_nil,λy b=>by cases b⟩
theorem ydy{t u:GTrans}{M:c4 t.ring}{n b d:Nat}(o:wT t u M n b d)(r:Nat) :
  kO P 26 [.ptr 900000 0 0 0] (cX t u r [] []) (some (dN r [])) (.av (.p (.bool true))) (cX t u r (kI t u b d).1 (kI t u b d).2) (some (dN r (kI t u b d).1)):=by
 have S:=mS o.hs o.hu;have z:=HW (t:=t) (u:=u) (kB.nil b d) (zZ o.iu) (dK b);have J:=(EB (t:=t) (u:=u) o.to o.ml (X:=(jN t u [] b,[])) z rfl (b*d*3)).1;have m:∀ s,s=(dG t u (jN t u [] b,[]) s).1.length->dG t u (jN t u [] b,[]) s=kI t u b d:=λs F=>by
  have h1:=(EB (t:=t) (u:=u) o.to o.ml (X:=(jN t u [] b,[])) z rfl s).1.len;have Y:=OX (t:=t) (u:=u) (X:=(jN t u [] b,[])) (s:=s) (by omega) (b*d*3 - s);rw[<- Y];unfold kI
  congr 1;omega
 have D:=z79 o.mp o.hn o.hs o.hu o.wit o.wiu o.it o.iu (r:=r) (K:=[]) (kB.nil b d);have j:=λq st hw=>Vl o (r:=r) (L:=jN t u [] b) z q (st:=st) hw;have f:=nN (jN t u [] b) [];have x:(kI t u b d).1.length<=2700:=by have:=J.len;unfold kI;omega
 generalize jN t u [] b=R at *
 have i:=nN (kI t u b d).1 (kI t u b d).2;have I:=nN [] [];refine kO.gG c.kf (by simp) rfl (by simp[cX,cP,fP]) rfl ?_ λq=>?_
 .show(true&&dQ ek (cX t u r (kI t u b d).1 (kI t u b d).2))=true;rw[show dQ ek (cX t u r (kI t u b d).1 (kI t u b d).2)=true from i.hp t u r];rfl
 unfold g.kf;refine MR.dD ?_;simp[tQ];refine MR.cN (MR.oo (AR 1 [[]] ?_));simp;refine eD.cons (Hu D (CF.gB q _ _) rfl ?_ ?_ rfl ?_ ?_)
 .simp
 .simp[pZ,St.site,look,cX,cP,bJ,dC,eB]
 .show(true&&dQ ek (cX t u r [] [])&&true&&dQ ek (cX t u r R []))=true;rw[show dQ ek (cX t u r [] [])=true from I.hp t u r,show dQ ek (cX t u r R [])=true from f.hp t u r];rfl
 refine eD.nil ?_;have G:=f.sa;have H:=f.sb;have O:=f.l;have N:=f.a;refine MR.cN (MR.dD ?_);simp[CQ,sM];refine MR.kM (MR.mono (j q _ (aA.cU [0,3] ek [] ?_)) ?_)
 .simp[iT,cX,cP,bJ,O,N];exact⟨G,H⟩
 rintro ex al B ⟨rfl,s,F,rfl,k⟩;have U:=m s F;rw[U]at F k ⊢;clear U;generalize kI t u b d=X at *
 obtain⟨Le,Q⟩:=X;simp only at i x F k ⊢;refine⟨λ_=>MR.eg k (MR.cS ?_),λh=>absurd rfl h⟩;have V:=i.sb;have ag:=i.l;have af:=i.a;clear m j D F;have C:∀ A,A=(⟨[(2,.p (.bool true))],cX t u r Le Q++[(aL,[none])]⟩:St)->Co [(2,none)] (cX t u r [] []) (.av (.p (.bool true))) (cX t u r Le Q) .ret A:=λA h=>by subst h;refine⟨.inl rfl,_,aA.refl _,[.p (.bool true)],rfl,rfl,?_⟩;simp[pZ,St.site,look,cX,cP,bJ,aL]
 generalize ad:Le=W at *
 cases W with
 | nil =>
  simp[iT,cX,cP,bJ,show dC 900001 ([]:List aI)=.nil from rfl];refine C _ ?_;simp[cX,cP,bJ,aL,dC]
 | cons y l =>
  have E:(l.length:Int)+1<=4096:=by simp at x;omega
  simp[iT,cX,cP,bJ,show dC 900001 (y::l)=.own 900001 l.length 0 (l.length+1) from rfl,show eB 3 (y::l)=List.replicate l.length none++[some ⟨3,aT (y::l)⟩] from rfl,E];refine C _ ?_;simp[cX,cP,bJ,aL,dC,eB]<;>rfl
def eW(t u:GTrans)(mp:PV)(L:List aI)(K:List aC):PV:=.agg [.int .i64 t.ring.kind,.sl (aH t.ring.parts),.int .i64 t.i,.int .i64 t.o,.int .i64 t.st,.sl (aH t.aU),.sl (aH t.fin),.sl (aH t.aE),
 .int .i64 u.ring.kind,.sl (aH u.ring.parts),.int .i64 u.i,.int .i64 u.o,.int .i64 u.st,.sl (aH u.aU),.sl (aH u.fin),.sl (aH u.aE),mp,.sl (aH L),.sl (aH K)]
noncomputable def dL(t u:GTrans)(a:aI):GW:=if a.f=0 then t.ring.times (t.aU.getD a.p.toNat eC) (u.aU.getD a.q.toNat eC)else t.ring.zero
noncomputable def dO(t u:GTrans)(a:aI):GW:=t.ring.times (t.fin.getD a.p.toNat eC) (u.fin.getD a.q.toNat eC)
def SJ{t u:GTrans}{M:c4 t.ring}(s:dM M){n l m:Nat}(hn:n+n+1<=M.lim)(it:t.aU.length=l)(iu:u.aU.length=m)(V:t.fin.length=l)(W:u.fin.length=m)
  (wit:∀ w∈t.aU,w.aQ t.ring/\M.mb n w) (wiu:∀ w∈u.aU,w.aQ t.ring/\M.mb n w) (b:∀ w∈t.fin,w.aQ t.ring/\M.mb n w) (d:∀ w∈u.fin,w.aQ t.ring/\M.mb n w)
  (mp:PV) (L:List aI) (K:List aC) {a:aI} (X:(0<=a.p/\a.p<l)/\(0<=a.q/\a.q<m)) :
  zS 80 [.ref (eW t u mp L K),enc a] (.bP [enc (dL t u a),enc (dO t u a)]):=by
 obtain⟨p,f⟩:∃ p:Nat,a.p=(p:Int):=⟨a.p.toNat,by omega⟩;obtain⟨q,h⟩:∃ q:Nat,a.q=(q:Int):=⟨a.q.toNat,by omega⟩;have o:p<t.aU.length:=by omega
 have i:p<t.fin.length:=by omega
 have r:q<u.aU.length:=by omega
 have j:q<u.fin.length:=by omega
 have B:t.aU.getD a.p.toNat eC=t.aU[p]:=by rw[f,kQ,eT,dF o];rfl
 have C:t.fin.getD a.p.toNat eC=t.fin[p]:=by rw[f,kQ,eT,dF i];rfl
 have D:u.aU.getD a.q.toNat eC=u.aU[q]:=by rw[h,kQ,eT,dF r];rfl
 have E:u.fin.getD a.q.toNat eC=u.fin[q]:=by rw[h,kQ,eT,dF j];rfl
 obtain⟨x,F⟩:=wit _ (bV o);obtain⟨y,G⟩:=b _ (bV i);obtain⟨z,H⟩:=wiu _ (bV r);obtain⟨A,I⟩:=d _ (bV j);have R:=s.rP (n:=n) (by omega) x z F H;have J:=s.rP (n:=n) (by omega) y A G I;unfold dL dO;rw[B,C,D,E];obtain⟨S,U,N⟩:=a;simp only at f h;subst f h;have Q:(p:Int)<(t.aU.length:Int):=by omega
 clear B C D E wit wiu b d x y z A F G H I;generalize t.ring.times t.fin[p] u.fin[q]=w2 at *
 by_cases k:N=0
 .subst k;simp only[cB];generalize t.ring.times t.aU[p] u.aU[q]=w1 at *
  refine Sp.gU c.da (by simp) (aA.eU (t:=0) (v:=eW t u mp L K) (n:=19) (by simp) rfl) ?_;simp[g.da,eW];refine bA (BJ t.ring) ?_;simp;refine bK o ?_;refine bK r ?_;refine bA R ?_;simp;refine bK i ?_;refine bK j ?_;refine bA J ?_;simp
 .simp only[aY k];have O:=BJ t.ring;generalize t.ring.zero=w1 at *
  refine Sp.gU c.da (by simp) (aA.eU (t:=0) (v:=eW t u mp L K) (n:=19) (by simp) rfl) ?_;simp[g.da,eW];refine bA O ?_;simp[k];refine bK i ?_;refine bK j ?_;refine bA J ?_;simp
end Go.Ab
namespace Go.Ab
section
variable {P:Program} {K:Ctx} {Z Z':Cz} {w w':World} {a:Act}
theorem aA.Ch{t s k sz:Nat}{sl:List (Nat × AV)}{es:List AV}{hp:List Site}(R:s<fP)(L:(hp.map (·.1)).contains s=false)(hd:(hp.map (·.1)).contains aL=false)(Bq:dQ (hp.map (·.1)) hp=true)(G:kX (hp.map (·.1)) es=true)(hk:k<=es.length)(U:sl.all (λq=>pK (hp.map (·.1)) q.2)=true) :
  aA ⟨(t,.own s 0 0 k)::sl,hp++[(s,[some ⟨sz,es⟩]),(aL,[none])]⟩ ⟨(t,.own s 0 0 k)::sl,hp++[(s,[some ⟨sz,es.take k⟩]),(aL,[none])]⟩:=by
 intro K Z w a hs;have af:s≠aL:=by unfold fP at R;unfold aL;omega
 have j:∀ (es:List AV) (u:Nat),(hp.map (·.1)).contains u=true->(⟨(t,.own s 0 0 k)::sl,hp++[(s,[some ⟨sz,es⟩]),(aL,[none])]⟩:St).site u=look hp u []:=λes u hu=>by simp only[St.site,BL,hu,cB]
 have f:∀ (es:List AV) (u:Nat),(hp.map (·.1)).contains u=false->(⟨(t,.own s 0 0 k)::sl,hp++[(s,[some ⟨sz,es⟩]),(aL,[none])]⟩:St).site u=if s=u then[some ⟨sz,es⟩]else if aL=u then[none]else[]:=λes u hu=>by simp only[St.site,BL,hu,gJ,fQ,look]
 have z:∀ (es:List AV) s' g' o',(⟨(t,.own s 0 0 k)::sl,hp++[(s,[some ⟨sz,es⟩]),(aL,[none])]⟩:St).obj s' g'=some o'->(hp.map (·.1)).contains s'=true\/(s'=s/\g'=0/\o'=⟨sz,es⟩):=by
  intro es s' g' o' h;cases hu:(hp.map (·.1)).contains s' with
  | true=>exact .inl rfl
  | false =>
   right;simp only[St.obj,f es s' hu]at h;split at h
   .rename_i S;cases g' with
    | zero=>simp at h;exact⟨S.symm,rfl,h.symm⟩
    | succ g=>simp at h
   .split at h
    .cases g'<;>simp at h
    .simp at h
 have r:∀ es:List AV,(⟨(t,.own s 0 0 k)::sl,hp++[(s,[some ⟨sz,es⟩]),(aL,[none])]⟩:St).obj s 0=some ⟨sz,es⟩:=λes=>by unfold St.obj;rw[f es s L];simp
 have same:∀ u,(hp.map (·.1)).contains u=true->(⟨(t,.own s 0 0 k)::sl,hp++[(s,[some ⟨sz,es.take k⟩]),(aL,[none])]⟩:St).site u=(⟨(t,.own s 0 0 k)::sl,hp++[(s,[some ⟨sz,es⟩]),(aL,[none])]⟩:St).site u:=λu hu=>by rw[j _ u hu,j _ u hu]
 have n:∀ u g,(hp.map (·.1)).contains u=true->(⟨(t,.own s 0 0 k)::sl,hp++[(s,[some ⟨sz,es.take k⟩]),(aL,[none])]⟩:St).obj u g=(⟨(t,.own s 0 0 k)::sl,hp++[(s,[some ⟨sz,es⟩]),(aL,[none])]⟩:St).obj u g:=λu g hu=>by simp only[St.obj,same u hu]
 have E:=hs.heap.bR s 0 _ (r es);have m:∀ s' g' o',(⟨(t,.own s 0 0 k)::sl,hp++[(s,[some ⟨sz,es.take k⟩]),(aL,[none])]⟩:St).obj s' g'=some o'->∃ o0,(⟨(t,.own s 0 0 k)::sl,hp++[(s,[some ⟨sz,es⟩]),(aL,[none])]⟩:St).obj s' g'=some o0:=λs' g' o' h=>by
  obtain hu|⟨rfl,rfl,_⟩:=z _ _ _ _ h
  .rw[n s' g' hu]at h;exact⟨o',h⟩
  .exact⟨_,r es⟩
 refine⟨Z,⟨λu=>?_,hs.defers,hs.size,⟨λs' g' o' h=>?_,λs1 g1 s2 g2 o1 o2 b D I X Y=>?_,hs.heap.mem,λs' g' o' b h A=>?_,λs' g' o' b h A=>?_,hs.heap.m0,hs.heap.eE,hs.heap.keep⟩⟩,⟨λu a b=>?_,λu g a b O hn=>?_,λu g o a b C=>?_⟩⟩
 .have hu:=hs.aR u;simp only[St.get,look]at hu ⊢;split at hu
  .rename_i B;simp only[B,cB];generalize a.tmps.getD u Go.undef=x at hu;cases hu with
   | dU _ _ o C A =>
    exact .dU _ _ _ (r _) A
   | own _ _ _ _ o b ad c C A D I h3 h4 =>
    rw[r]at C;cases C;exact .own _ _ _ _ _ b ad c (r _) A D I (by simp;omega) h4
   | eN _ _ _ _ _ _ _ F=>rw[r]at F;cases F
  .rename_i B;simp only[B,fQ];obtain h|⟨p,h,_,h3⟩:=AQ (d:=AV.undef) (l:=sl) (s:=u)
   .rw[h];exact .undef _
   .rw[h3]at hu ⊢;exact aM.gN (st:=⟨(t,.own s 0 0 k)::sl,hp++[(s,[some ⟨sz,es⟩]),(aL,[none])]⟩) (Z:=Z) same (λ_ _ h=>h) (λ_ _ _=>⟨rfl,rfl⟩) hu (kR.1 U p h)
 .obtain hu|⟨rfl,rfl,rfl⟩:=z _ _ _ _ h
  .rw[n s' g' hu]at h;have Q:(⟨[],hp⟩:St).obj s' g'=some o':=by simp only[St.obj,j es s' hu]at h;exact h
   exact oA.gN same (λ_ _ h=>h) (λ_ _ _=>⟨rfl,rfl⟩) hu (EP Bq Q) (hs.heap.bR s' g' o' h)
  .refine⟨E.pos,λe N=>E.jC e (jA N),λc L=>?_,λhn=>?_,λb A=>?_⟩
   .obtain⟨e,N,M⟩:=kv.1 L;exact E.one c (kv.2 ⟨e,jA N,M⟩)
   .have:=E.xt hn;simp only at this;rw[this];simp
   .obtain⟨cur,T,vals,k1,W,k3,k4,k5,k6⟩:=E.bU b A;have e:es.flatMap AV.cells=(es.take k).flatMap AV.cells++(es.drop k).flatMap AV.cells:=by rw[<- List.flatMap_append,oJ]
    rw[e]at W;obtain⟨v1,v2,rfl,q1,q2⟩:=aG.split W;refine⟨cur,T,v1,k1,aG.gN (st:=⟨(t,.own s' 0 0 k)::sl,hp++[(s',[some ⟨sz,es⟩]),(aL,[none])]⟩) (Z:=Z) same (λ_ _ h=>h) (λ_ _ _=>⟨rfl,rfl⟩) q1 ?_,λi v V=>k3 i v (by rw[wh (iR.1 V).1];exact V),k4,by simp only[iB];simp only at k5;omega,k6⟩;have D:kX (hp.map (·.1)) (es.take k)=true:=by rw[xO,kR]at G ⊢;exact λx hx=>G x (jA hx)
    exact Lw D
 .obtain⟨H,y⟩:=m _ _ _ D;obtain⟨ag,J⟩:=m _ _ _ I;exact hs.heap.inj _ _ _ _ _ _ b y J X Y
 .obtain⟨H,y⟩:=m _ _ _ h;exact hs.heap.sep _ _ _ b y A
 .obtain⟨H,y⟩:=m _ _ _ h;exact hs.heap.own _ _ _ b y A
 .cases hu:(hp.map (·.1)).contains u with
  | true=>rw[same u hu];exact dK _
  | false=>rw[f _ u hu,f _ u hu];split<;>simp
 .cases hu:(hp.map (·.1)).contains u with
  | true=>rw[n u g hu];exact hn
  | false =>
   simp only[f _ u hu]at O;rw[aY (by omega),aY (by unfold aL;omega)]at O;simp at O
 .cases hu:(hp.map (·.1)).contains u with
  | true=>rw[n u g hu];exact .inr ⟨o,C,rfl,rfl,rfl,rfl⟩
  | false =>
   obtain h|⟨rfl,_,_⟩:=z _ _ _ _ C
   .rw[h]at hu;cases hu
   .omega
end
end Go.Ab
namespace Go.Ab
open Enc (enc)
attribute [local simp] fX bL.aR
def qE(nx:List (List Int))(m:List Bool)(o:List Int):St:=aD [(0,.own bG 0 0 m.length),(1,.p (.sl (aH nx))),(4,.own 21 0 0 o.length)] [(bG,⟨1,aT m⟩),(21,⟨1,aT o⟩)]
def qD(nx:List (List Int))(m:List Bool)(o l:List Int)(k:Nat):St:=aD [(0,.own bG 0 0 m.length),(1,.p (.sl (aH nx))),(4,.own 21 0 0 o.length),(40,.p (.sl (aH l))),(41,.p (.int .i64 l.length)),(42,.p (.int .i64 k))] [(bG,⟨1,aT m⟩),(21,⟨1,aT o⟩)]
def V0{nx:List (List Int)}{m0 m:List Bool}{N S i:Nat}{l o:List Int}(H:N<=100000)(J:l.length<=100000000)(t:∀ x∈l,∃ j:Nat,x=j/\j<N)(d:oz nx m0 N S i l 0 m o){Q:Exit->St->Prop}{ks:List Kt}{st:St}(F:aA st (qD nx m o l 0))
  (G:∀ m o st',oz nx m0 N S i l l.length m o->aA st' (qD nx m o l l.length)->gI P 59 Q (fS 4 ks) 4 st'):vL P 59 Q g.ql ks st:=by
 refine cQ (S:=λx:Nat × List Bool × List Int=>qD nx x.2.1 x.2.2 l x.1) (I:=λx=>x.1<=l.length/\oz nx m0 N S i l x.1 x.2.1 x.2.2) (m:=λx=>l.length - x.1) (0,m,o) F ⟨by simp,d⟩ ?_;rintro⟨k,m,o⟩ ⟨C,d⟩ R r L s;simp only at C d;have u:=bH k;have A:=d.sz;have E:=d.hS;have D:=d.ml;by_cases f:k<l.length
 .obtain⟨j,z,B⟩:=t _ (bV f);have h:l[k]?=some (j:Int):=by rw[dF f,z]
  have b:j<m.length:=by omega
  simp[g.ql,qD,aD,f];refine bK f ?_;rw[z];simp[b];refine bK b ?_;cases y:m[j]with
  | true =>
   simp[u];refine r (k+1,m,o) _ (aA.to [0,1,4,40,41,42] [((bG,0),bG),((21,0),21)] ?_) ⟨by simp only;omega,d.skip h (by rw[dF b,y])⟩ (by simp only;omega);simp[qD,aD]
  | false =>
   simp[u,b,eS];refine bK b ⟨by omega,r (k+1,m.set j true,o++[(j:Int)]) _ (aA.to [0,1,4,40,41,42] [((bG,0),bG),((57,0),21)] ?_) ⟨by simp only;omega,d.push h (by rw[dF b,y])⟩ (by simp only;omega)⟩;rw[BU m j true (v:=.p (.bool true)) rfl];have n:(m.set j true).length=m.length:=List.length_set;simp only[qD];rw[n];generalize m.set j true=M;simp[aD]
 .have:k=l.length:=by omega
  subst this;simp[g.ql,qD,aD];refine s _ _ (G m o _ d ?_);simp[qD,aD];exact aA.refl _
def z87{nx:List (List Int)}{m0:List Bool}{N:Nat}(G:N<=100000)(L:∀ l∈nx,l.length<=100000000/\∀ x∈l,∃ j:Nat,x=j/\j<N){m:List Bool}{o:List Int}(d:tK nx m0 N m o){Q:Exit->St->Prop}{ks:List Kt}{st:St}(W:aA st (qE nx m o))
  (X:gI P 59 Q (fS 2 ks) 2 (qE nx (iH nx m0) [])):vL P 59 Q g.qn ks st:=by
 refine cQ (S:=λx:List Bool × List Int=>qE nx x.1 x.2) (I:=λx=>tK nx m0 N x.1 x.2) (m:=λx=>2*sJ x.1+x.2.length) (m,o) W d ?_;rintro⟨m,o⟩ d R y hr A;simp only at d;have B:=d.sz;have M:=d.ml;obtain rfl|⟨o,x,rfl⟩:=Fz o
 .have:=d.fin;subst this;simp[g.qn,qE,aD];refine A _ _ ?_;simpa[qE,aD]using X
 .rw[B3]at *
  obtain⟨i,l,rfl,hi,b,h⟩:=d.pop;have U:=h.sz;have O:=h.hS;have D:IntKind.i64.wrap (o.length:Int)=(o.length:Int):=b5;have hg:(aT o++[AV.p (.int .i64 (i:Int))])[o.length]?=some (.p (.int .i64 i)):=by rw[qC (by rw[vo];exact dK _),vo,B9];rfl
  have u:l∈nx:=by obtain⟨E,F⟩:=iR.1 b;exact F ▸ bV E
  have J:i<nx.length:=(iR.1 b).1;have H:nx[i]=l:=(iR.1 b).2;obtain⟨n,r⟩:=L l u;simp[g.qn,qE,aD,D];refine eO b ?_
  refine V0 (N:=N) (i:=i) (m0:=m0) G n r h (l:=l) ((aA.to [4,0,1,40,41,42] [((bG,0),bG),((21,0),21)] (st':=⟨[(4,.own 21 0 0 o.length),(0,.own bG 0 0 m.length),(1,.p (.sl (aH nx))),(40,.p (.sl (aH l))),(41,.p (.int .i64 l.length)),(42,.p (.int .i64 0))],[(bG,[some ⟨1,aT m⟩])]++[(21,[some ⟨1,aT o++[.p (.int .i64 i)]⟩]),(aL,[none])]⟩) ?_).trans
   ((aA.Ch (t:=4) (s:=21) (k:=o.length) (sz:=1) (hp:=[(bG,[some ⟨1,aT m⟩])]) (by decide) rfl rfl ?_ ?_ (dP (zZ (vo o).symm) (by simp)) ?_).trans (aA.to [0,1,4,40,41,42] [((bG,0),bG),((21,0),21)] ?_))) ?_
  .simp[aL]
  .simp[-jE,dQ,vT,xO,aT]<;>exact λx _=>rfl
  .simp[-jE,xO,aT]<;>exact⟨λx _=>rfl,rfl⟩
  .simp[pK]
  .have V:(aT o++[AV.p (.int .i64 (i:Int))]).take o.length=aT o:=by rw[D0 (zZ (vo o).symm),fK (zZ (vo o))]
   rw[V];simp[qD,aD,aL]
  .rintro Y o2 st' f z;have C:=f.sz;simp[gI,fS];refine y (Y,o2) _ (z.trans (aA.to [0,1,4] [((bG,0),bG),((21,0),21)] ?_)) (f.done (dK _)) (by simp only[gL,H7];omega);simp[qD,qE,aD]
def VZ{nx:List (List Int)}{m:List Bool}(u:m.length<=100000){Q:Exit->St->Prop}{ks:List Kt}{st:St}(s:aA st (aD [(0,.own bG 0 0 m.length),(1,.p (.sl (aH nx))),(4,.own 21 0 0 0),(10,.own bG 0 0 m.length),(11,.p (.int .i64 m.length)),(12,.p (.int .i64 0))] [(bG,⟨1,aT m⟩),(21,⟨1,[]⟩)]))
  (t:∀ st',aA st' (qE nx m (lR m m.length))->gI P 59 Q (fS 0 ks) 0 st'):vL P 59 Q g.qk ks st:=by
 refine cQ (S:=λk:Nat=>aD [(0,.own bG 0 0 m.length),(1,.p (.sl (aH nx))),(4,.own 21 0 0 (lR m k).length),(10,.own bG 0 0 m.length),(11,.p (.int .i64 m.length)),(12,.p (.int .i64 k))] [(bG,⟨1,aT m⟩),(21,⟨1,aT (lR m k)⟩)]) (I:=λk=>k<=m.length) (m:=λk=>m.length - k) 0 s (by omega) ?_;rintro k x R f y i;have j:=bH k;have n:(lR m k).length<=k:=by unfold lR;rw[rL];exact dP (nQ _ _) (zZ List.length_range)
 by_cases d:k<m.length
 .have r:=yae m d;have b:∀ st',aA st' (aD [(0,.own bG 0 0 m.length),(1,.p (.sl (aH nx))),(4,.own 21 0 0 (lR m (k+1)).length),(10,.own bG 0 0 m.length),(11,.p (.int .i64 m.length)),(12,.p (.int .i64 (k+1:Nat)))] [(bG,⟨1,aT m⟩),(21,⟨1,aT (lR m (k+1))⟩)])->R .normal st':=λst' h=>f (k+1) st' h (by omega) (by omega);rw[r]at b;generalize lR m k=o at *
  simp[g.qk,aD,d];refine bK d ?_;cases l:m[k]with
  | true =>
   rw[l]at b;simp[j,eS];refine⟨by omega,b _ (aA.to [0,1,4,10,11,12] [((bG,0),bG),((21,1),21)] ?_)⟩;simp[aD]
  | false =>
   rw[l]at b;simp[j];refine b _ (aA.to [0,1,4,10,11,12] [((bG,0),bG),((21,0),21)] ?_);simp[aD]
 .have:k=m.length:=by omega
  subst this;simp[g.qk,aD];refine i _ _ (t _ (aA.to [0,1,4] [((bG,0),bG),((21,0),21)] ?_));simp[qE,aD]
def PY{nx:List (List Int)}{m:List Bool}{N:Nat}(h:N<=100000)(d:m.length=N)(f:nx.length=N)(i:∀ l∈nx,l.length<=100000000/\∀ x∈l,∃ j:Nat,x=j/\j<N) :
  jD P 129 [.sl (aH m),.sl (aH nx)] 0 1 (aH (iH nx m)) (.pure (.bP [])):=by
 have b:(iH nx m).length=m.length:=by simp[iH]
 refine jD.cS c.mc (by simp) rfl (by simp[b]) ?_;simp[g.mc];refine VZ (nx:=nx) (m:=m) (by omega) (aA.nl 4 77 1 rfl (aA.to [0,1,4,10,11,12] [((bG,0),bG),((77,0),21)] ?_)) ?_
 .simp[aD]
 .intro n k;simp[gI,fS];refine z87 (N:=N) (m0:=m) h i (d ▸ Yc rfl (f.trans d.symm)) k ?_;simp[gI,fS,qE,aD]
def kS{α : Type}(d : α)(l:List α)(k:Nat):List α := l.take k++List.replicate (l.length - k) d
def EE{α : Type}(d : α)(l:List α){k:Nat}(h:k<=l.length):(kS d l k).length=l.length:=by simp[kS];omega
theorem EF{α : Type}(d : α)(l:List α){k:Nat}(h:k<l.length):(kS d l k).set k l[k]=kS d l (k+1):=by
 unfold kS;have f:(l.take k).length=k:=by rw[iB];omega
 rw[B7 _ _ (by omega),f,B9];obtain⟨n,i⟩:∃ n,l.length - k=n+1:=⟨l.length - k - 1,by omega⟩;have b:l.length - (k+1)=n:=by omega
 rw[i,b,Bh,FL,ed h,uK];rfl
def GJ{α : Type}(d : α)(l:List α):kS d l l.length=l:=by simp[kS]
def GX{α : Type}(d : α)(l:List α):kS d l 0=List.replicate l.length d:=by simp[kS]
noncomputable def fI(t u:GTrans)(L:List aI):List Bool:=L.map λa=>!decide (dL t u a=t.ring.zero)
noncomputable def fF(t u:GTrans)(L:List aI):List Bool:=L.map λa=>!decide (dO t u a=t.ring.zero)
def yM(t u:GTrans)(mp:PV)(L:List aI)(K:List aC)(A B:List Bool)(k:Nat):St :=
 ⟨[(0,.cp (eW t u mp L K) 19 0),(3,.own 19 0 0 L.length),(4,.own 25 0 0 L.length),(29,.p (.sl (aH L))),(30,.p (.int .i64 L.length)),(31,.p (.int .i64 k))],[(19,[some ⟨1,aT A⟩]),(25,[some ⟨1,aT B⟩]),(aL,[none])]⟩
theorem JJ(st:St)(v:PV)(n:Nat):bE st aZ (.cp v n 0)=some (.ref v):=rfl
theorem Gq(st:St)(v:PV)(n m:Nat):aO st aZ (.cp v n m)=[]:=rfl
def VS{t u:GTrans}{M:c4 t.ring}(W:dM M){n C D:Nat}(hn:n+n+1<=M.lim)(it:t.aU.length=C)(iu:u.aU.length=D)(Y:t.fin.length=C)(fu:u.fin.length=D)
  (wit:∀ w∈t.aU,w.aQ t.ring/\M.mb n w) (wiu:∀ w∈u.aU,w.aQ t.ring/\M.mb n w) (E:∀ w∈t.fin,w.aQ t.ring/\M.mb n w) (F:∀ w∈u.fin,w.aQ t.ring/\M.mb n w)
  (mp:PV) {L:List aI} (hL:kB C D L) (ad:L.length<=4000) (K:List aC) (zs:∀ a∈L,(dL t u a).sm 1048576/\(dO t u a).sm 1048576) {Q:Exit->St->Prop} {ks:List Kt} {st:St} (U:aA st (yM t u mp L K (List.replicate L.length false) (List.replicate L.length false) 0))
  (V:gI P 139 Q (fS 0 ks) 0 (yM t u mp L K (fI t u L) (fF t u L) L.length)):vL P 139 Q g.qi ks st:=by
 have y:(fI t u L).length=L.length:=by simp[fI]
 have x:(fF t u L).length=L.length:=by simp[fF]
 refine cQ (S:=λk:Nat=>yM t u mp L K (kS false (fI t u L) k) (kS false (fF t u L) k) k) (I:=λk=>k<=L.length) (m:=λk=>L.length - k) 0 (by rw[GX,GX,y,x];exact U) (by omega) ?_;rintro k hk R r hr s;have X:=bH k;by_cases f:k<L.length
 .have d:∀ j,aA j (yM t u mp L K (kS false (fI t u L) (k+1)) (kS false (fF t u L) (k+1)) (k+1))->R .normal j:=λj h=>r (k+1) j h (by omega) (by omega);rw[<- EF false (fI t u L) (by omega:k<_),<- EF false (fF t u L) (by omega:k<_)]at d;have J:=EE false (fI t u L) (k:=k) (by omega);have N:=EE false (fF t u L) (k:=k) (by omega);rw[y]at J;rw[x]at N;have o:(fI t u L)[k] = !decide (dL t u L[k]=t.ring.zero):=by simp[fI]
  have l:(fF t u L)[k] = !decide (dO t u L[k]=t.ring.zero):=by simp[fF]
  rw[o,l]at d;have i:=bV f;have O:=hL.b _ i;have z:=SJ W hn it iu Y fu wit wiu E F mp L K (a:=L[k]) ⟨O.1,O.2.1⟩;have z1:=Fe t.ring (dL t u L[k]) (zs _ i).1;have z2:=Fe t.ring (dO t u L[k]) (zs _ i).2;clear o l r U V s hr y x zs;generalize kS false (fI t u L) k=A at *
  generalize kS false (fF t u L) k=B at *
  simp[g.qi,yM,f];refine bK f ?_;generalize L[k]'f=a at *
  generalize dL t u a=w1 at *
  generalize dO t u a=w2 at *
  refine bF z (by simp[JJ]) ?_;simp[eW,Gq];refine bA z1 ?_;simp;refine bA z2 ?_;simp[f,J,N,X];refine bK (by omega:k<A.length) (bK (by omega:k<B.length) (d _ (aA.to [0,3,4,29,30,31] [((19,0),19),((25,0),25)] ?_)));rw[BU A k _ (v:=.p (.bool !decide (w1=t.ring.zero))) rfl,BU B k _ (v:=.p (.bool !decide (w2=t.ring.zero))) rfl];generalize A.set k (!decide (w1=t.ring.zero))=A2;generalize B.set k (!decide (w2=t.ring.zero))=B2;simp[yM,eW,aL]
 .have:k=L.length:=by omega
  subst this;have G:=GJ false (fI t u L);have H:=GJ false (fF t u L);rw[y]at G;rw[x]at H;rw[G,H];simp[g.qi,yM];refine s _ _ ?_;simpa[yM]using V
structure gZ (F:Nat) (cs:List AV) (H:List (Option bD)) (ls:List (List Int)):Prop where
 len:cs.length=ls.length
 cell:∀ (i:Nat) (l:List Int),ls[i]?=some l->(cs[i]?=some .nil/\l=[])\/∃ g,cs[i]?=some (.own F g 0 l.length)/\H[g]?=some (some ⟨1,aT l⟩)
 inj:∀ i j g n m:Nat,cs[i]?=some (AV.own F g 0 n)->cs[j]?=some (AV.own F g 0 m)->i=j
 Bq:∀ x∈H,∀ o,x=some o->∃ l:List Int,o=⟨1,aT l⟩
def gZ.start(F n:Nat):gZ F (List.replicate n .nil) [] (List.replicate n []):=by
 refine⟨by simp,λi l h=>.inl ?_,λi j g d m h=>?_,λx b=>by cases b⟩
 .rw[H0]at h ⊢;split at h
  .rename_i hi;rw[aW hi];cases h;exact⟨rfl,rfl⟩
  .cases h
 .rw[H0]at h;split at h<;>cases h
def gZ.app{F:Nat}{cs:List AV}{H s:List (Option bD)}{ls:List (List Int)}{i:Nat}{l:List Int}{x:Int}(h:gZ F cs H ls)(hi:ls[i]?=some l)
  (C:(cs[i]?=some .nil/\s=H)\/∃ g n,cs[i]?=some (.own F g 0 n)/\s=H.set g none) :
  gZ F (cs.set i (.own F s.length 0 (l.length+1))) (s++[some ⟨1,aT (l++[x])⟩]) (ls.set i (l++[x])):=by
 have z:i<ls.length:=(iR.1 hi).1;have D:i<cs.length:=by rw[h.len];exact z
 have I:s.length=H.length:=by obtain⟨_,rfl⟩|⟨g,n,_,rfl⟩:=C<;>simp
 have r:∀ j g n:Nat,cs[j]?=some (AV.own F g 0 n)->g<H.length:=λj g n f=>by
  have E:j<ls.length:=by rw[<- h.len];exact(iR.1 f).1
  obtain⟨d,_⟩|⟨g',d,A⟩:=h.cell j _ (dF E)
  .rw[f]at d;cases d
  .rw[f]at d;cases d;exact(iR.1 A).1
 refine⟨by simp[h.len],λj l' f=>?_,λa b g n m u t=>?_,λy k o B=>?_⟩
 .rw[vx]at f ⊢;by_cases p:i=j
  .subst p;rw[aW rfl,aW z]at f;cases f;rw[aW rfl,aW D];refine .inr ⟨s.length,by simp,?_⟩;simp
  .rw[aY p]at f ⊢;obtain d|⟨g,d,A⟩:=h.cell j l' f
   .exact .inl d
   .refine .inr ⟨g,d,?_⟩;have M:=r j g _ d;rw[wh (by omega)];obtain⟨_,rfl⟩|⟨g',n,G,rfl⟩:=C
    .exact A
    .rw[vx,aY]
     .exact A
     .rintro rfl;exact p (h.inj i j g' _ _ G d)
 .rw[vx]at u t;split at u
  .rename_i J;split at t
   .rename_i L;omega
   .cases u;have:=r b _ _ t;omega
  .split at t
   .cases t;have:=r a _ _ u;omega
   .exact h.inj a b g n m u t
 .obtain k|k:=dT.1 k
  .obtain⟨_,rfl⟩|⟨g',n,G,rfl⟩:=C
   .exact h.Bq y k o B
   .obtain k|rfl:=DY k
    .exact h.Bq y k o B
    .cases B
  .simp only[jF]at k;subst k;cases B;exact⟨_,rfl⟩
def gZ.cells{F:Nat}{cs:List AV}{H:List (Option bD)}{ls:List (List Int)}(h:gZ F cs H ls):∀ c∈cs,c=.nil\/∃ g n,c=.own F g 0 n:=λc f=>by
 obtain⟨i,hi,rfl⟩:=H' f;have d:i<ls.length:=by rw[<- h.len];exact hi
 obtain⟨b,_⟩|⟨g,b,_⟩:=h.cell i _ (dF d)
 .rw[dF hi]at b;exact .inl (Mo b)
 .rw[dF hi]at b;exact .inr ⟨g,_,Mo b⟩
def gZ.refs{F:Nat}{cs:List AV}{H:List (Option bD)}{ls:List (List Int)}(h:gZ F cs H ls){ks:List Nat}(b:ks.contains F=true):kX ks cs=true:=by
 rw[xO,kR];intro c d;obtain rfl|⟨g,n,rfl⟩:=h.cells c d
 .rfl
 .exact b
theorem gZ.bR{F:Nat}{cs:List AV}{H:List (Option bD)}{ls:List (List Int)}(h:gZ F cs H ls)(ks:List Nat):∀ x∈H,vT ks x=true:=λx b=>by
 cases x with
 | none=>rfl
 | some o =>
  obtain⟨l,rfl⟩:=h.Bq _ b o rfl;show kX ks (aT l)=true;simp
def pX(ls:List (List Int))(i j:Int):List (List Int):=ls.set i.toNat (ls.getD i.toNat []++[j])
def O6(ls:List (List Int))(i j:Int):(pX ls i j).length=ls.length:=by simp[pX]
def sY(K:List aC)(n:Nat):List (List Int):=K.foldl (λb x=>pX b x.f x.t) (List.replicate n [])
def tI(K:List aC)(n:Nat):List (List Int):=K.foldl (λb x=>pX b x.t x.f) (List.replicate n [])
def yai(K:List aC)(n:Nat)(x:aC):sY (K++[x]) n=pX (sY K n) x.f x.t:=by simp[sY]
def yb4(K:List aC)(n:Nat)(x:aC):tI (K++[x]) n=pX (tI K n) x.t x.f:=by simp[tI]
theorem J1(g:aC->Int)(h:aC->Int):∀ (K:List aC) (ls:List (List Int)),(K.foldl (λls x=>pX ls (g x) (h x)) ls).length=ls.length
 | [],_=>rfl
 | x::K,ls=>by rw[B5,J1 g h K,O6]
def GA(K:List aC)(n:Nat):(sY K n).length=n:=by unfold sY;rw[J1];simp
def Gn(K:List aC)(n:Nat):(tI K n).length=n:=by unfold tI;rw[J1];simp
theorem Ey(g:aC->Int)(h:aC->Int):∀ (K:List aC) (ls:List (List Int)) (B:Nat),(∀ l∈ls,l.length<=B)->∀ l∈K.foldl (λls x=>pX ls (g x) (h x)) ls,l.length<=B+K.length
 | [],_,_,d,l,b=>d l b
 | x::K,ls,B,d,l,b=>by
  have:=Ey g h K (pX ls (g x) (h x)) (B+1) (λl b=>by
   unfold pX at b;obtain b|rfl:=DY b
   .exact dP (d l b) (by omega)
   .rw[gL,H7];have:(ls.getD (g x).toNat []).length<=B:=by
     rw[eT];cases f:ls[(g x).toNat]? with
     | none=>simp
     | some y=>exact d y (wg f)
    omega) l b
  rw[pQ];omega
def sS(n:Nat)(K:List aC)(A B:List Bool)(b d:List AV)(f h:List (Option bD))(k:Nat):St :=
 ⟨[(3,.own 19 0 0 n),(4,.own 25 0 0 n),(9,.own 70 0 0 n),(10,.own 76 0 0 n),(80,.p (.sl (aH K))),(81,.p (.int .i64 K.length)),(82,.p (.int .i64 k))],
  [(100,f),(109,h),(19,[some ⟨1,aT A⟩]),(25,[some ⟨1,aT B⟩]),(70,[some ⟨1,b⟩]),(76,[some ⟨1,d⟩]),(aL,[none])]⟩
structure UsX where
 k:Nat
 C1:List AV
 C2:List AV
 H1:List (Option bD)
 H2:List (Option bD)
def VT{n:Nat}{K:List aC}(ao:K.length<=100000000)(hK:∀ x∈K,x.fit n){A B:List Bool}{Q:Exit->St->Prop}{ks:List Kt}{st:St}(hw:aA st (sS n K A B (List.replicate n .nil) (List.replicate n .nil) [] [] 0))
  (u:∀ J L M N,gZ 100 J M (sY K n)->gZ 109 L N (tI K n)->gI P 139 Q (fS 2 ks) 2 (sS n K A B J L M N K.length)):vL P 139 Q g.o7 ks st:=by
 refine cQ (S:=λx:UsX=>sS n K A B x.C1 x.C2 x.H1 x.H2 x.k) (I:=λx=>x.k<=K.length/\gZ 100 x.C1 x.H1 (sY (K.take x.k) n)/\gZ 109 x.C2 x.H2 (tI (K.take x.k) n)) (m:=λx=>K.length - x.k) ⟨0,_,_,[],[]⟩ hw ⟨by simp,by simpa[sY]using gZ.start 100 n,by simpa[tI]using gZ.start 109 n⟩ ?_;rintro⟨k,J,L,M,N⟩ ⟨hk,r,s⟩ R ag hr al;simp only at hk r s;have e1:=bH k;by_cases i:k<K.length
 .obtain⟨⟨f0,f1⟩,t0,t1⟩:=hK _ (bV i);have d:∀ W J L M N,gZ 100 J M (sY (K.take (k+1)) n)->gZ 109 L N (tI (K.take (k+1)) n)->aA W (sS n K A B J L M N (k+1))->R .normal W:=λW J L M N a b h=>ag ⟨k+1,J,L,M,N⟩ W h ⟨by simp only;omega,a,b⟩ (by simp only;omega);rw[ed i,yai,yb4]at d;obtain⟨f,hf⟩:∃ f:Nat,K[k].f=(f:Int):=⟨K[k].f.toNat,by omega⟩;obtain⟨t,ht⟩:∃ t:Nat,K[k].t=(t:Int):=⟨K[k].t.toNat,by omega⟩;rw[hf,ht]at d;have lN:=GA (K.take k) n;have lB:=Gn (K.take k) n;have bN:=Ey (·.f) (·.t) (K.take k) (List.replicate n []) 0 (λl hl=>by rw[A8 hl];exact dK _);have bB:=Ey (·.t) (·.f) (K.take k) (List.replicate n []) 0 (λl hl=>by rw[A8 hl];exact dK _);have bN:∀ l∈sY (K.take k) n,l.length<=0+(K.take k).length:=bN;have bB:∀ l∈tI (K.take k) n,l.length<=0+(K.take k).length:=bB;rw[iB]at bN bB;generalize sY (K.take k) n=E at *
  generalize tI (K.take k) n=F at *
  have p:f<n:=by omega
  have V:t<n:=by omega
  have ad:f<E.length:=by omega
  have af:t<F.length:=by omega
  have O:J.length=n:=by rw[r.len,lN]
  have U:L.length=n:=by rw[s.len,lB]
  have X:=dF ad;have Y:=dF af;have b1:=bN _ (bV ad);have b2:=bB _ (bV af);have d1:pX E f t=E.set f (E[f]++[(t:Int)]):=by unfold pX;rw[kQ,eT,X];rfl
  have d2:pX F t f=F.set t (F[t]++[(f:Int)]):=by unfold pX;rw[kQ,eT,Y];rfl
  rw[d1,d2]at d;generalize ap:E[f]=l1 at *
  generalize aq:F[t]=l2 at *
  obtain⟨C,q1⟩|⟨ga,C,q1⟩:=r.cell f l1 X<;>obtain⟨D,q2⟩|⟨gb,D,q2⟩:=s.cell t l2 Y
  .subst q1 q2;have j:=r.app (x:=(t:Int)) X (.inl ⟨C,rfl⟩);have o:=s.app (x:=(f:Int)) Y (.inl ⟨D,rfl⟩);simp[g.o7,sS,i];refine bK i ?_;rw[hf,ht];simp only[kQ];refine⟨⟨by omega,p,by omega⟩,?_⟩;rw[lM];refine⟨_,C,?_⟩;simp[eS];refine⟨by omega,?_⟩;rw[lM];refine⟨_,D,?_⟩;simp[eS,p,O];rw[lM];refine⟨_,C,?_⟩;simp[V,U];rw[lM];refine⟨_,D,?_⟩;simp[e1];have G:=vX (ids:=[((19,0),19),((25,0),25),((70,0),70),((76,0),76)]) (j.refs (ks:=[100,109]) rfl);have H:=vX (ids:=[((19,0),19),((25,0),25),((70,0),70),((76,0),76)]) (o.refs (ks:=[100,109]) rfl);have y:=j.bR [100,109];have z:=o.bR [100,109];simp at j o G H y z;refine d _ _ _ _ _ j o (aA.cU [3,4,9,10,80,81,82] [100,109] [((19,0),19),((25,0),25),((70,0),70),((76,0),76)] ?_);simp[sS,G,H,aL];exact⟨r.bR [100,109],s.bR [100,109]⟩
  .subst q1;have j:=r.app (x:=(t:Int)) X (.inl ⟨C,rfl⟩);have o:=s.app (x:=(f:Int)) Y (.inr ⟨gb,_,D,rfl⟩);simp[g.o7,sS,i];refine bK i ?_;rw[hf,ht];simp only[kQ];refine⟨⟨by omega,p,by omega⟩,?_⟩;rw[lM];refine⟨_,C,?_⟩;simp[eS];refine⟨by omega,?_⟩;rw[lM];refine⟨_,D,?_⟩;simp[eS,p,O,q2];refine⟨by omega,?_⟩;rw[lM];refine⟨_,C,?_⟩;simp[V,U];rw[lM];refine⟨_,D,?_⟩;simp[e1];have G:=vX (ids:=[((19,0),19),((25,0),25),((70,0),70),((76,0),76)]) (j.refs (ks:=[100,109]) rfl);have H:=vX (ids:=[((19,0),19),((25,0),25),((70,0),70),((76,0),76)]) (o.refs (ks:=[100,109]) rfl);have y:=j.bR [100,109];have z:=o.bR [100,109];simp at j o G H y z;refine d _ _ _ _ _ j o (aA.cU [3,4,9,10,80,81,82] [100,109] [((19,0),19),((25,0),25),((70,0),70),((76,0),76)] ?_);simp[sS,G,H,aL]
   repeat' apply And.intro
   all_goals first|exact r.bR [100,109]|exact s.bR [100,109]|exact λx u=>y x (.inl u)|exact λx u=>z x (.inl u)|exact y _ (.inr rfl)|exact z _ (.inr rfl)
  .subst q2;have j:=r.app (x:=(t:Int)) X (.inr ⟨ga,_,C,rfl⟩);have o:=s.app (x:=(f:Int)) Y (.inl ⟨D,rfl⟩);simp[g.o7,sS,i];refine bK i ?_;rw[hf,ht];simp only[kQ];refine⟨⟨by omega,p,by omega⟩,?_⟩;rw[lM];refine⟨_,C,?_⟩;simp[eS,q1];refine⟨by omega,by omega,?_⟩;rw[lM];refine⟨_,D,?_⟩;simp[eS,p,O];rw[lM];refine⟨_,C,?_⟩;simp[V,U];rw[lM];refine⟨_,D,?_⟩;simp[e1];have G:=vX (ids:=[((19,0),19),((25,0),25),((70,0),70),((76,0),76)]) (j.refs (ks:=[100,109]) rfl);have H:=vX (ids:=[((19,0),19),((25,0),25),((70,0),70),((76,0),76)]) (o.refs (ks:=[100,109]) rfl);have y:=j.bR [100,109];have z:=o.bR [100,109];simp at j o G H y z;refine d _ _ _ _ _ j o (aA.cU [3,4,9,10,80,81,82] [100,109] [((19,0),19),((25,0),25),((70,0),70),((76,0),76)] ?_);simp[sS,G,H,aL]
   repeat' apply And.intro
   all_goals first|exact r.bR [100,109]|exact s.bR [100,109]|exact λx u=>y x (.inl u)|exact λx u=>z x (.inl u)|exact y _ (.inr rfl)|exact z _ (.inr rfl)
  .have j:=r.app (x:=(t:Int)) X (.inr ⟨ga,_,C,rfl⟩);have o:=s.app (x:=(f:Int)) Y (.inr ⟨gb,_,D,rfl⟩);simp[g.o7,sS,i];refine bK i ?_;rw[hf,ht];simp only[kQ];refine⟨⟨by omega,p,by omega⟩,?_⟩;rw[lM];refine⟨_,C,?_⟩;simp[eS,q1];refine⟨by omega,by omega,?_⟩;rw[lM];refine⟨_,D,?_⟩;simp[eS,p,O,q2];refine⟨by omega,?_⟩;rw[lM];refine⟨_,C,?_⟩;simp[V,U];rw[lM];refine⟨_,D,?_⟩;simp[e1];have G:=vX (ids:=[((19,0),19),((25,0),25),((70,0),70),((76,0),76)]) (j.refs (ks:=[100,109]) rfl);have H:=vX (ids:=[((19,0),19),((25,0),25),((70,0),70),((76,0),76)]) (o.refs (ks:=[100,109]) rfl);have y:=j.bR [100,109];have z:=o.bR [100,109];simp at j o G H y z;refine d _ _ _ _ _ j o (aA.cU [3,4,9,10,80,81,82] [100,109] [((19,0),19),((25,0),25),((70,0),70),((76,0),76)] ?_);simp[sS,G,H,aL]
   repeat' apply And.intro
   all_goals first|exact r.bR [100,109]|exact s.bR [100,109]|exact λx u=>y x (.inl u)|exact λx u=>z x (.inl u)|exact y _ (.inr rfl)|exact z _ (.inr rfl)
 .have:k=K.length:=by omega
  subst this;rw[List.take_length]at r s;simp[g.o7,sS];refine al _ _ ?_;simpa[sS,aL]using u J L M N r s
end Go.Ab
namespace Go.Ab
def Rt{m:List Bool}{i:Nat}:m[i]?=some true ↔ m.getD i false=true:=by rw[eT];cases m[i]?<;>simp
def Om(on:List Bool)(p:Int × Int){i:Nat}(h:on.getD i false=true):(qF on p).getD i false=true:=by
 unfold qF;split
 .by_cases b:p.2.toNat<on.length
  .rw[KN b];split
   .rfl
   .exact h
  .rw[List.set_eq_of_length_le (by omega)];exact h
 .exact h
theorem Kr:∀ (ps:List (Int × Int)) (on:List Bool) {i:Nat},on.getD i false=true->(lL ps on).getD i false=true
 | [],_,_,h=>h
 | p::ps,on,i,h=>Kr ps (qF on p) (Om on p h)
theorem Oi(ps:List (Int × Int)):∀ (n:Nat) (on:List Bool) {i:Nat},on.getD i false=true->(iF ps n on).getD i false=true
 | 0,_,_,h=>h
 | n+1,on,i,h=>Oi ps n (lL ps on) (Kr ps on h)
theorem V1{ps:List (Int × Int)}{p:Int × Int}:∀ {on:List Bool},p∈ps->on.getD p.1.toNat false=true->p.2.toNat<on.length->(lL ps on).getD p.2.toNat false=true:=by
 induction ps with
 | nil=>intro on h;cases h
 | cons q ps d =>
  intro on hm h b;obtain rfl|hm:=bY.1 hm
  .refine Kr ps (qF on p) ?_;unfold qF;rw[aW h,KN b,aW rfl]
  .exact d hm (Om on q h) (by rw[R3];exact b)
def Y3(on:List Bool)(p:Int × Int):qF on p=on\/sJ (qF on p)<sJ on:=by
 unfold qF;split
 .by_cases d:p.2.toNat<on.length
  .cases b:on.getD p.2.toNat true with
   | false=>right;have:=Jd on p.2.toNat b;omega
   | true =>
    left;apply DZ;intro i;rw[vx];split
    .rename_i h;subst h;rw[eT,dF d]at b;rw[dF d];rw[xp]at b;simp[b]
    .rfl
  .left;exact List.set_eq_of_length_le (by omega)
 .exact .inl rfl
theorem Gm:∀ (ps:List (Int × Int)) (on:List Bool),lL ps on=on\/sJ (lL ps on)<sJ on
 | [],_=>.inl rfl
 | p::ps,on=>by
  show lL ps (qF on p)=on\/sJ (lL ps (qF on p))<sJ on;obtain h|h:=Y3 on p
  .rw[h];exact Gm ps on
  .obtain k|k:=Gm ps (qF on p)
   .rw[k];exact .inr h
   .exact .inr (by omega)
theorem O3{ps:List (Int × Int)}{on:List Bool}(h:lL ps on=on):∀ n,iF ps n on=on
 | 0=>rfl
 | n+1=>by show iF ps n (lL ps on)=on;rw[h];exact O3 h n
theorem Oj(ps:List (Int × Int)):∀ (n:Nat) (on:List Bool),sJ on<=n->lL ps (iF ps n on)=iF ps n on
 | 0,on,h=>by
  obtain k|k:=Gm ps on
  .exact k
  .omega
 | n+1,on,h=>by
  show lL ps (iF ps n (lL ps on))=iF ps n (lL ps on);obtain k|k:=Gm ps on
  .rw[k,O3 k];exact k
  .exact Oj ps n _ (by omega)
def PN(ps:List (Int × Int))(nx:List (List Int))(N:Nat):Prop:=nx.length=N/\(∀ p∈ps,(0<=p.1/\p.1<N)/\0<=p.2/\p.2<N)/\∀ (i j:Nat),(∃ l,nx[i]?=some l/\(j:Int)∈l) ↔ ((i:Int),(j:Int))∈ps
theorem O4{ps:List (Int × Int)}{nx:List (List Int)}{N:Nat}(h:PN ps nx N){m:List Bool}:∀ (n:Nat) (on:List Bool),(∀ i,on.getD i false=true->j2 nx m i)->∀ i,(iF ps n on).getD i false=true->j2 nx m i
 | 0,_,b,i,f=>b i f
 | n+1,on,b,i,f=>by
  refine O4 h n (lL ps on) ?_ i f;have:∀ (o:List (Int × Int)),(∀ q∈o,q∈ps)->∀ (on:List Bool),(∀ i,on.getD i false=true->j2 nx m i)->∀ i,(lL o on).getD i false=true->j2 nx m i:=by
   intro o
   induction o with
   | nil=>intro _ on b i f;exact b i f
   | cons q o x =>
    intro p on b i f;refine x (λr u=>p r (by simp[u])) (qF on q) (λk d=>?_) i f;unfold qF at d;split at d
    .rename_i s;by_cases t:q.2.toNat<on.length
     .rw[KN t]at d;split at d
      .rename_i e;have j:=p q (by simp);obtain⟨⟨A,B⟩,C,D⟩:=h.2.1 q j;obtain⟨l,y,z⟩:=(h.2.2 q.1.toNat q.2.toNat).2 (by rw[show((q.1.toNat:Nat):Int)=q.1 by omega,show((q.2.toNat:Nat):Int)=q.2 by omega];exact j);exact e ▸ j2.step (b _ s) y z
      .exact b k d
     .rw[List.set_eq_of_length_le (by omega)]at d;exact b k d
    .exact b k d
  exact this ps (λ_ h=>h) on b
def GG{ps:List (Int × Int)}{nx:List (List Int)}{N:Nat}(h:PN ps nx N){m:List Bool}(C:m.length=N):iF ps m.length m=iH nx m:=by
 have f:=Oj ps m.length m (LL m);have y:=ze ps m.length m;have comp:∀ i,j2 nx m i->(iF ps m.length m).getD i false=true:=by
  intro i d
  induction d with
  | base n=>exact Oi ps _ m (Rt.1 n)
  | step d z x A =>
   rename_i a b l;have r:=(h.2.2 a b).1 ⟨l,z,x⟩;have k:=h.2.1 _ r;have n:b<N:=by have:=k.2.2;simp only at this;omega
   have:=V1 (p:=((a:Int),(b:Int))) (on:=iF ps m.length m) r (by simpa using A) (by simp;omega);rw[f]at this;simpa using this
 apply B4
 .simp[iH,y]
 .intro i t B;have o:i<N:=by omega
  have s:(iF ps m.length m)[i]=(iF ps m.length m).getD i false:=by rw[eT,dF t];rfl
  have j:(iF ps m.length m).getD i false=true ↔ j2 nx m i:=by
   constructor
   .exact O4 h _ m (λi o=>.base (Rt.2 o)) i
   .exact comp i
  rw[s];simp only[iH,DP,L7];by_cases d:j2 nx m i
  .rw[j.2 d];simp[d]
  .cases u:(iF ps m.length m).getD i false with
   | true=>exact absurd (j.1 u) d
   | false=>simp[d]
theorem K5{g h:aC->Int}{n:Nat}:∀ {K:List aC} (_:∀ x∈K,0<=g x/\g x<(n:Int)) {ls:List (List Int)},ls.length=n->∀ (i:Nat) (j:Int),(∃ l,(K.foldl (λls x=>pX ls (g x) (h x)) ls)[i]?=some l/\j∈l) ↔ (∃ l,ls[i]?=some l/\j∈l)\/∃ x∈K,g x=i/\h x=j
 | [],_,ls,_,i,j=>by simp
 | x::K,k,ls,s,i,j=>by
  rw[B5,K5 (K:=K) (λy d=>k y (by simp[d])) (ls:=pX ls (g x) (h x)) (by rw[O6,s]) i j];obtain⟨a,r⟩:∃ a:Nat,g x=(a:Int):=⟨(g x).toNat,by have:=k x (by simp);omega⟩;have f:a<ls.length:=by have:=k x (by simp);omega
  have b:(∃ l,(pX ls (g x) (h x))[i]?=some l/\j∈l) ↔ (∃ l,ls[i]?=some l/\j∈l)\/(g x=i/\h x=j):=by
   unfold pX;rw[r,kQ,vx];by_cases m:a=i
   .subst m;rw[aW rfl,aW f,eT,dF f];simp only[cF,xp,exists_eq_left',dT,jF,true_and];constructor
    .rintro(h|h)
     .exact .inl h
     .exact .inr h.symm
    .rintro(h|h)
     .exact .inl h
     .exact .inr h.symm
   .rw[aY m];constructor
    .exact .inl
    .rintro(h|⟨h,_⟩)
     .exact h
     .exact absurd (by omega) m
  rw[b];constructor
  .rintro((h|⟨o,p⟩)|⟨y,d,h⟩)
   .exact .inl h
   .exact .inr ⟨x,by simp,o,p⟩
   .exact .inr ⟨y,by simp[d],h⟩
  .rintro(h|⟨y,d,h⟩)
   .exact .inl (.inl h)
   .obtain rfl|d:=bY.1 d
    .exact .inl (.inr h)
    .exact .inr ⟨y,d,h⟩
def Of(n i:Nat)(j:Int):¬ ∃ l,(List.replicate n ([]:List Int))[i]?=some l/\j∈l:=by
 rintro⟨l,h,b⟩;rw[H0]at h;split at h
 .cases h;cases b
 .cases h
def nJ(K:List aC):List (Int × Int):=K.map λx=>(x.f,x.t)
def rm(ps:List (Int × Int)):List (Int × Int):=ps.map λp=>(p.2,p.1)
def S8{K:List aC}{n:Nat}(d:∀ x∈K,x.fit n):PN (nJ K) (sY K n) n:=by
 refine⟨GA K n,λp m=>?_,λi j=>?_⟩
 .obtain⟨x,b,rfl⟩:=cD.1 m;exact d x b
 .unfold sY;rw[K5 (g:=(·.f)) (h:=(·.t)) (λx b=>(d x b).1) (by simp) i j];constructor
  .rintro(h|⟨x,b,k,l⟩)
   .exact absurd h (Of n i j)
   .exact cD.2 ⟨x,b,by rw[k,l]⟩
  .intro h;obtain⟨x,b,e⟩:=cD.1 h;exact .inr ⟨x,b,congrArg Prod.fst e,congrArg Prod.snd e⟩
def S7{K:List aC}{n:Nat}(d:∀ x∈K,x.fit n):PN (rm (nJ K)) (tI K n) n:=by
 refine⟨Gn K n,λp o=>?_,λi j=>?_⟩
 .obtain⟨q,k,rfl⟩:=cD.1 o;obtain⟨x,b,rfl⟩:=cD.1 k;exact⟨(d x b).2,(d x b).1⟩
 .unfold tI;rw[K5 (g:=(·.t)) (h:=(·.f)) (λx b=>(d x b).2) (by simp) i j];constructor
  .rintro(h|⟨x,b,l,m⟩)
   .exact absurd h (Of n i j)
   .exact cD.2 ⟨(x.f,x.t),cD.2 ⟨x,b,rfl⟩,by simp only[l,m]⟩
  .intro h;obtain⟨q,k,e⟩:=cD.1 h;obtain⟨x,b,rfl⟩:=cD.1 k;exact .inr ⟨x,b,congrArg Prod.fst e,congrArg Prod.snd e⟩
def gq{α : Type}:List Bool->List α -> List α
 | b::m,x::l=>if b=true then x::gq m l else gq m l
 | _,_=>[]
theorem ES{α : Type}:∀ {m:List Bool} {l:List α} {k:Nat} (h:k<m.length) (d:k<l.length),gq (m.take (k+1)) (l.take (k+1))=gq (m.take k) (l.take k)++(if m[k]=true then[l[k]]else[])
 | b::m,x::l,0,_,_=>by cases b<;>simp[gq]
 | b::m,x::l,k+1,h,d=>by have f:=ES (m:=m) (l:=l) (k:=k) (by simpa using h) (by simpa using d);simp only[List.take_succ_cons,gq,List.getElem_cons_succ]at f ⊢;cases b<;>simp_all
theorem BE{α : Type}:∀ {m:List Bool} {l:List α},m.length=l.length->(gq m l).length=m.count true
 | [],[],_=>rfl
 | b::m,x::l,h=>by have d:=BE (m:=m) (l:=l) (by simpa using h);cases b<;>simp[gq,d]
theorem xe{α : Type}:∀ {m:List Bool} {l:List α} {x : α},x∈gq m l->x∈l
 | b::m,y::l,x,h=>by
  cases b with
  | true =>
   obtain rfl|h:=bY.1 (show x∈y::gq m l from h)
   .simp
   .simp[xe h]
  | false=>simp[xe (show x∈gq m l from h)]
 | [],_,_,h=>by cases h
 | _::_,[],_,h=>by cases h
def fV(m:List Bool)(k:Nat):Nat:=(m.take k).count true
def JX{m:List Bool}{k:Nat}(h:k<m.length):fV m (k+1)=fV m k+(m[k]).toNat:=by unfold fV;rw[ed h,List.count_append];cases m[k]<;>simp
def LM(m:List Bool)(k:Nat):fV m k<=k:=dP HZ (by rw[iB];omega)
def cU(m:List Bool):List Int:=(List.range m.length).map λj=>if m.getD j false=true then((fV m j:Nat):Int)else 0
def AK(m:List Bool):(cU m).length=m.length:=by simp[cU]
theorem GK{m:List Bool}{k:Nat}(h:k<m.length)(b:k<(cU m).length):(cU m)[k]=if m[k]=true then((fV m k:Nat):Int)else 0:=by simp only[cU,DP,L7];rw[eT,dF h];rfl
def N5{α : Type}(d : α)(l:List α){k:Nat}(h:k<l.length)(hd:l[k]=d):kS d l (k+1)=kS d l k:=by
 rw[<- EF d l h,hd];apply DZ;intro i;rw[vx];split
 .rename_i b;subst b;rw[EE d l (by omega),aW h];unfold kS;rw[qC (by rw[iB];omega)];have f:k - (l.take k).length=0:=by rw[iB];omega
  rw[f,H0,aW (by omega)]
 .rfl
def wM(m:List Bool)(x:aC):Bool:=m.getD x.f.toNat false&&m.getD x.t.toNat false
def rC(m:List Bool)(x:aC):aC:=⟨(cU m).getD x.f.toNat 0,x.i,x.o,(cU m).getD x.t.toNat 0,x.w⟩
def mP(m:List Bool)(l:List aC):List aC:=(l.filter (wM m)).map (rC m)
def NQ(m:List Bool){l:List aC}{k:Nat}(h:k<l.length):mP m (l.take (k+1))=mP m (l.take k)++(if wM m l[k]=true then[rC m l[k]]else[]):=by
 unfold mP;rw[ed h,v7,qY]
 congr 1
 cases b:wM m l[k]<;>simp[b]
def Rq(m:List Bool)(l:List aC):(mP m l).length<=l.length:=by unfold mP;rw[rL];exact nQ _ _
end Go.Ab
