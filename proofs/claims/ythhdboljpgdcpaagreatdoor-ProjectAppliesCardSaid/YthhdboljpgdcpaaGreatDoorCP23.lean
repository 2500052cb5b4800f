/- Lemmas for the law ProjectApplies, part 23. No conditions. -/
import Derived.Test.YthhdboljpgdcpaaGreatDoorCP22
set_option maxRecDepth 100000
set_option maxHeartbeats 4000000
set_option linter.all false
namespace Go.Ab
open Enc (enc)
attribute [local simp] iJ bP.aY
structure xG (t u:GTrans) (M:cQ t.ring) (n ns nu:Nat):Prop where
 mp:dB M
 hn:n+n+1<=M.lim
 hs:ns<=30
 hu:nu<=30
 it:t.aM.length=ns
 iu:u.aM.length=nu
 wit:∀ w∈t.aM,w.aJ t.ring/\M.mb n w
 wiu:∀ w∈u.aM,w.aJ t.ring/\M.mb n w
 wat:∀ x∈t.aD,x.w.aJ t.ring/\M.mb n x.w
 wau:∀ x∈u.aD,x.w.aJ t.ring/\M.mb n x.w
 at_:t.aD.length<=900
 au:u.aD.length<=900
 to:vq t u ns nu
 ml:∀ a,(tL t u a).length<=1000
def yaa{t u:GTrans}{M:cQ t.ring}{n z A:Nat}(o:xG t u M n z A){r:Nat}{L:List aH}(hL:kG z A L)(q:mL){st:St}(p:aA st (iX t u r (L,[]) 0)) :
  MR P 78 (GC.loop g.te).er st (some (gH q (some (dQ r L)))) λy d B=>y=.exit 0/\∃ s,s=(dL t u (L,[]) s).1.length/\B=some (gH q (some (dQ r (dL t u (L,[]) s).1)))/\aA d (iX t u r (dL t u (L,[]) s) s):=by
 have af:=mT o.hs o.hu;have E:=FT (t:=t) (u:=u) o.to o.ml (X:=(L,[])) hL rfl;refine MR.nL (I:=λm d B=>∃ s,s<=(dL t u (L,[]) s).1.length/\m=z*A*3 - s/\B=some (gH q (some (dQ r (dL t u (L,[]) s).1)))/\aA d (iX t u r (dL t u (L,[]) s) s)) (z*A*3) ⟨0,by omega,by omega,rfl,p⟩ ?_;rintro m d B ⟨s,hs,rfl,rfl,p⟩;refine MR.eE p ?_;obtain⟨H,N⟩:=E s;have Q:=H.len;generalize O:(λ(y:Exit) (d:St) (B:Option FA)=>(y=.normal->∃ m,m<z*A*3 - s/\∃ s,s<=(dL t u (L,[]) s).1.length/\m=z*A*3 - s/\B=some (gH q (some (dQ r (dL t u (L,[]) s).1)))/\aA d (iX t u r (dL t u (L,[]) s) s))/\(y ≠ .normal->y=.exit 0/\∃ s,s=(dL t u (L,[]) s).1.length/\B=some (gH q (some (dQ r (dL t u (L,[]) s).1)))/\aA d (iX t u r (dL t u (L,[]) s) s)))=R;have r1:s<(dL t u (L,[]) s).1.length->∀ d,s+1<=(vY t u s (dL t u (L,[]) s)).1.length->aA d (iX t u r (vY t u s (dL t u (L,[]) s)) (s+1))->R .normal d (some (gH q (some (dQ r (vY t u s (dL t u (L,[]) s)).1)))):=λh d h2 p=>by subst O;have e:dL t u (L,[]) (s+1)=vY t u s (dL t u (L,[]) s):=aX h;rw[<- e]at p h2 ⊢;exact⟨λ_=>⟨_,by omega,s+1,h2,rfl,rfl,p⟩,λh=>absurd rfl h⟩
 have r2:s=(dL t u (L,[]) s).1.length->∀ d,aA d (iX t u r (dL t u (L,[]) s) s)->R (.exit 0) d (some (gH q (some (dQ r (dL t u (L,[]) s).1)))):=λh d p=>by subst O;exact⟨λh=>(by cases h),λ_=>⟨rfl,s,h,rfl,p⟩⟩
 clear O p E;generalize dL t u (L,[]) s=X at *
 obtain⟨f,x⟩:=X;simp only at hs H N Q r1 r2;rw[ZR];refine MR.cK (ye1 (by omega) hs _ _ ?_);by_cases i:s<f.length
 .rw[aX i];refine⟨λ_=>?_,λh=>absurd rfl h⟩;have r3:=r1 i;clear r1 r2;have D:f.getD s ⟨0,0,0⟩∈f:=by rw[eV,dO i];exact bU i
  have W:=z58 o.mp o.hn o.wat o.wau o.at_ o.au (λa=>dM (o.ml a) (by omega)) (r0:=r) (nO f x) (f.getD s ⟨0,0,0⟩);have ag:(sK t u (f.getD s ⟨0,0,0⟩)).length<=1000:=dM (kB _ _) (o.ml _);have V:=Ud o.to (H.b _ D);have J:s*1000<=2700*1000:=jU _ (by omega);have e1:=aZ s;refine MR.cK (MR.kR ?_);refine ye2 (t:=t) (u:=u) (r:=r) (s:=s) (L:=f) (K:=x) i (by omega) (by omega) W _ _ λao ad=>MR.kR (MR.mono (yey o.hs o.hu H (λm hm=>V m ((gB _).2.2 m |>.1 hm)) (by omega) (by rw[H0];omega) (by rw[H0];omega) q ad) ?_);rintro y al B ⟨rfl,rfl,j⟩;have C:s+1<=(vY t u s (f,x)).1.length:=dM (show s+1<=f.length by omega) (ZS s _ (f,x));have Y:iY s (f,x) (bW eS.key (sK t u (f.getD s ⟨0,0,0⟩)))=vY t u s (f,x):=rfl;rw[Y]at j ⊢;generalize vY t u s (f,x)=X at *
  obtain⟨L2,K2⟩:=X;simp only at j r3 C ⊢;refine⟨λ_=>MR.eE j (MR.cE ?_),λh=>absurd rfl h⟩;have k:=nO L2 K2;have F:=k.sa;have G:=k.sb;have U:=k.l;have S:=k.a;simp[NX,iW,cZ,cS,bL,e1];refine r3 _ C (aA.cW [0,3] eF [] ?_);simp[iX,cZ,cS,bL,U,S];exact⟨F,G⟩
 .rw[bD i];exact⟨λh=>(by cases h),λ_=>r2 (by omega) _ (aA.refl _)⟩
noncomputable def kN(t u:GTrans)(b d:Nat):List aH × List aE:=dL t u (jM t u [] b,[]) (b*d*3)
def kG.nil(ns nu:Nat):kG ns nu []:=⟨List.nodup_nil,λy b=>by cases b⟩
theorem yev{t u:GTrans}{M:cQ t.ring}{n b d:Nat}(o:xG t u M n b d)(r:Nat) :
  kU P 26 [.ptr 900000 0 0 0] (cZ t u r [] []) (some (dQ r [])) (.av (.p (.bool true))) (cZ t u r (kN t u b d).1 (kN t u b d).2) (some (dQ r (kN t u b d).1)):=by
 have S:=mT o.hs o.hu;have z:=Jg (t:=t) (u:=u) (kG.nil b d) (Ba o.iu) (dE b);have J:=(FT (t:=t) (u:=u) o.to o.ml (X:=(jM t u [] b,[])) z rfl (b*d*3)).1;have m:∀ s,s=(dL t u (jM t u [] b,[]) s).1.length->dL t u (jM t u [] b,[]) s=kN t u b d:=λs F=>by
  have h1:=(FT (t:=t) (u:=u) o.to o.ml (X:=(jM t u [] b,[])) z rfl s).1.len;have Y:=Qi (t:=t) (u:=u) (X:=(jM t u [] b,[])) (s:=s) (by omega) (b*d*3 - s);rw[<- Y];unfold kN
  congr 1;omega
 have D:=WW o.mp o.hn o.hs o.hu o.wit o.wiu o.it o.iu (r:=r) (K:=[]) (kG.nil b d);have j:=λq st hw=>yaa o (r:=r) (L:=jM t u [] b) z q (st:=st) hw;have f:=nO (jM t u [] b) [];have x:(kN t u b d).1.length<=2700:=by have:=J.len;unfold kN;omega
 generalize jM t u [] b=R at *
 have i:=nO (kN t u b d).1 (kN t u b d).2;have I:=nO [] [];refine kU.fZ c.me (by simp) rfl (by simp[cZ,cS,fU]) rfl ?_ λq=>?_
 .show(true&&dS eF (cZ t u r (kN t u b d).1 (kN t u b d).2))=true;rw[show dS eF (cZ t u r (kN t u b d).1 (kN t u b d).2)=true from i.hp t u r];rfl
 unfold g.me;refine MR.dG ?_;simp[tQ];refine MR.cK (MR.mC (AU 1 [[]] ?_));simp;refine eC.cons (IP D (DO.gH q _ _) rfl ?_ ?_ rfl ?_ ?_)
 .simp
 .simp[qA,St.site,look,cZ,cS,bL,dH,eK]
 .show(true&&dS eF (cZ t u r [] [])&&true&&dS eF (cZ t u r R []))=true;rw[show dS eF (cZ t u r [] [])=true from I.hp t u r,show dS eF (cZ t u r R [])=true from f.hp t u r];rfl
 refine eC.nil ?_;have G:=f.sa;have H:=f.sb;have O:=f.l;have N:=f.a;refine MR.cK (MR.dG ?_);simp[D6,sO];refine MR.kR (MR.mono (j q _ (aA.cW [0,3] eF [] ?_)) ?_)
 .simp[iX,cZ,cS,bL,O,N];exact⟨G,H⟩
 rintro ex al B ⟨rfl,s,F,rfl,k⟩;have U:=m s F;rw[U]at F k ⊢;clear U;generalize kN t u b d=X at *
 obtain⟨Le,Q⟩:=X;simp only at i x F k ⊢;refine⟨λ_=>MR.eE k (MR.cE ?_),λh=>absurd rfl h⟩;have V:=i.sb;have ag:=i.l;have af:=i.a;clear m j D F;have C:∀ A,A=(⟨[(2,.p (.bool true))],cZ t u r Le Q++[(aO,[none])]⟩:St)->Du [(2,none)] (cZ t u r [] []) (.av (.p (.bool true))) (cZ t u r Le Q) .ret A:=λA h=>by subst h;refine⟨.inl rfl,_,aA.refl _,[.p (.bool true)],rfl,rfl,?_⟩;simp[qA,St.site,look,cZ,cS,bL,aO]
 generalize ad:Le=W at *
 cases W with
 | nil =>
  simp[iX,cZ,cS,bL,show dH 900001 ([]:List aH)=.nil from rfl];refine C _ ?_;simp[cZ,cS,bL,aO,dH]
 | cons y l =>
  have E:(l.length:Int)+1<=4096:=by simp at x;omega
  simp[iX,cZ,cS,bL,show dH 900001 (y::l)=.own 900001 l.length 0 (l.length+1) from rfl,show eK 3 (y::l)=List.replicate l.length none++[some ⟨3,aK (y::l)⟩] from rfl,E];refine C _ ?_;simp[cZ,cS,bL,aO,dH,eK]<;>rfl
def fA(t u:GTrans)(mp:PV)(L:List aH)(K:List aE):PV:=.agg [.int .i64 t.ring.kind,.sl (ens t.ring.parts),.int .i64 t.i,.int .i64 t.o,.int .i64 t.st,.sl (ens t.aM),.sl (ens t.fin),.sl (ens t.aD),
 .int .i64 u.ring.kind,.sl (ens u.ring.parts),.int .i64 u.i,.int .i64 u.o,.int .i64 u.st,.sl (ens u.aM),.sl (ens u.fin),.sl (ens u.aD),mp,.sl (ens L),.sl (ens K)]
noncomputable def dR(t u:GTrans)(a:aH):GW:=if a.f=0 then t.ring.times (t.aM.getD a.p.toNat dT) (u.aM.getD a.q.toNat dT)else t.ring.zero
noncomputable def dU(t u:GTrans)(a:aH):GW:=t.ring.times (t.fin.getD a.p.toNat dT) (u.fin.getD a.q.toNat dT)
def Ta{t u:GTrans}{M:cQ t.ring}(s:dB M){n l m:Nat}(hn:n+n+1<=M.lim)(it:t.aM.length=l)(iu:u.aM.length=m)(V:t.fin.length=l)(W:u.fin.length=m)
  (wit:∀ w∈t.aM,w.aJ t.ring/\M.mb n w) (wiu:∀ w∈u.aM,w.aJ t.ring/\M.mb n w) (b:∀ w∈t.fin,w.aJ t.ring/\M.mb n w) (d:∀ w∈u.fin,w.aJ t.ring/\M.mb n w)
  (mp:PV) (L:List aH) (K:List aE) {a:aH} (X:(0<=a.p/\a.p<l)/\(0<=a.q/\a.q<m)) :
  zS 80 [.ref (fA t u mp L K),enc a] (.bM [enc (dR t u a),enc (dU t u a)]):=by
 obtain⟨p,f⟩:∃ p:Nat,a.p=(p:Int):=⟨a.p.toNat,by omega⟩;obtain⟨q,h⟩:∃ q:Nat,a.q=(q:Int):=⟨a.q.toNat,by omega⟩;have o:p<t.aM.length:=by omega
 have i:p<t.fin.length:=by omega
 have r:q<u.aM.length:=by omega
 have j:q<u.fin.length:=by omega
 have B:t.aM.getD a.p.toNat dT=t.aM[p]:=by rw[f,kZ,eV,dO o];rfl
 have C:t.fin.getD a.p.toNat dT=t.fin[p]:=by rw[f,kZ,eV,dO i];rfl
 have D:u.aM.getD a.q.toNat dT=u.aM[q]:=by rw[h,kZ,eV,dO r];rfl
 have E:u.fin.getD a.q.toNat dT=u.fin[q]:=by rw[h,kZ,eV,dO j];rfl
 obtain⟨x,F⟩:=wit _ (bU o);obtain⟨y,G⟩:=b _ (bU i);obtain⟨z,H⟩:=wiu _ (bU r);obtain⟨A,I⟩:=d _ (bU j);have R:=s.rS (n:=n) (by omega) x z F H;have J:=s.rS (n:=n) (by omega) y A G I;unfold dR dU;rw[B,C,D,E];obtain⟨S,U,N⟩:=a;simp only at f h;subst f h;have Q:(p:Int)<(t.aM.length:Int):=by omega
 clear B C D E wit wiu b d x y z A F G H I;generalize t.ring.times t.fin[p] u.fin[q]=w2 at *
 by_cases k:N=0
 .subst k;simp only[cH];generalize t.ring.times t.aM[p] u.aM[q]=w1 at *
  refine Sp.fD c.du (by simp) (aA.dV (t:=0) (v:=fA t u mp L K) (n:=19) (by simp) rfl) ?_;simp[g.du,fA];refine aW (wG t.ring) ?_;simp;refine bK o ?_;refine bK r ?_;refine aW R ?_;simp;refine bK i ?_;refine bK j ?_;refine aW J ?_;simp
 .simp only[bD k];have O:=wG t.ring;generalize t.ring.zero=w1 at *
  refine Sp.fD c.du (by simp) (aA.dV (t:=0) (v:=fA t u mp L K) (n:=19) (by simp) rfl) ?_;simp[g.du,fA];refine aW O ?_;simp[k];refine bK i ?_;refine bK j ?_;refine aW J ?_;simp
end Go.Ab
namespace Go.Ab
section
variable {P:Program} {K:Ctx} {Z Z':Cz} {w w':World} {a:Act}
theorem aA.Dj{t s k sz:Nat}{sl:List (Nat × AV)}{es:List AV}{hp:List Site}(R:s<fU)(L:(hp.map (·.1)).contains s=false)(hd:(hp.map (·.1)).contains aO=false)(Cs:dS (hp.map (·.1)) hp=true)(G:lC (hp.map (·.1)) es=true)(hk:k<=es.length)(U:sl.all (λq=>pR (hp.map (·.1)) q.2)=true) :
  aA ⟨(t,.own s 0 0 k)::sl,hp++[(s,[some ⟨sz,es⟩]),(aO,[none])]⟩ ⟨(t,.own s 0 0 k)::sl,hp++[(s,[some ⟨sz,es.take k⟩]),(aO,[none])]⟩:=by
 intro K Z w a hs;have af:s≠aO:=by unfold fU at R;unfold aO;omega
 have j:∀ (es:List AV) (u:Nat),(hp.map (·.1)).contains u=true->(⟨(t,.own s 0 0 k)::sl,hp++[(s,[some ⟨sz,es⟩]),(aO,[none])]⟩:St).site u=look hp u []:=λes u hu=>by simp only[St.site,CS,hu,cH]
 have f:∀ (es:List AV) (u:Nat),(hp.map (·.1)).contains u=false->(⟨(t,.own s 0 0 k)::sl,hp++[(s,[some ⟨sz,es⟩]),(aO,[none])]⟩:St).site u=if s=u then[some ⟨sz,es⟩]else if aO=u then[none]else[]:=λes u hu=>by simp only[St.site,CS,hu,gP,fQ,look]
 have z:∀ (es:List AV) s' g' o',(⟨(t,.own s 0 0 k)::sl,hp++[(s,[some ⟨sz,es⟩]),(aO,[none])]⟩:St).obj s' g'=some o'->(hp.map (·.1)).contains s'=true\/(s'=s/\g'=0/\o'=⟨sz,es⟩):=by
  intro es s' g' o' h;cases hu:(hp.map (·.1)).contains s' with
  | true=>exact .inl rfl
  | false =>
   right;simp only[St.obj,f es s' hu]at h;split at h
   .rename_i S;cases g' with
    | zero=>simp at h;exact⟨S.symm,rfl,h.symm⟩
    | succ g=>simp at h
   .split at h
    .cases g'<;>simp at h
    .simp at h
 have r:∀ es:List AV,(⟨(t,.own s 0 0 k)::sl,hp++[(s,[some ⟨sz,es⟩]),(aO,[none])]⟩:St).obj s 0=some ⟨sz,es⟩:=λes=>by unfold St.obj;rw[f es s L];simp
 have same:∀ u,(hp.map (·.1)).contains u=true->(⟨(t,.own s 0 0 k)::sl,hp++[(s,[some ⟨sz,es.take k⟩]),(aO,[none])]⟩:St).site u=(⟨(t,.own s 0 0 k)::sl,hp++[(s,[some ⟨sz,es⟩]),(aO,[none])]⟩:St).site u:=λu hu=>by rw[j _ u hu,j _ u hu]
 have n:∀ u g,(hp.map (·.1)).contains u=true->(⟨(t,.own s 0 0 k)::sl,hp++[(s,[some ⟨sz,es.take k⟩]),(aO,[none])]⟩:St).obj u g=(⟨(t,.own s 0 0 k)::sl,hp++[(s,[some ⟨sz,es⟩]),(aO,[none])]⟩:St).obj u g:=λu g hu=>by simp only[St.obj,same u hu]
 have E:=hs.heap.bT s 0 _ (r es);have m:∀ s' g' o',(⟨(t,.own s 0 0 k)::sl,hp++[(s,[some ⟨sz,es.take k⟩]),(aO,[none])]⟩:St).obj s' g'=some o'->∃ o0,(⟨(t,.own s 0 0 k)::sl,hp++[(s,[some ⟨sz,es⟩]),(aO,[none])]⟩:St).obj s' g'=some o0:=λs' g' o' h=>by
  obtain hu|⟨rfl,rfl,_⟩:=z _ _ _ _ h
  .rw[n s' g' hu]at h;exact⟨o',h⟩
  .exact⟨_,r es⟩
 refine⟨Z,⟨λu=>?_,hs.defers,hs.size,⟨λs' g' o' h=>?_,λs1 g1 s2 g2 o1 o2 b D I X Y=>?_,hs.heap.mem,λs' g' o' b h A=>?_,λs' g' o' b h A=>?_,hs.heap.m0,hs.heap.eM,hs.heap.keep⟩⟩,⟨λu a b=>?_,λu g a b O hn=>?_,λu g o a b C=>?_⟩⟩
 .have hu:=hs.aY u;simp only[St.get,look]at hu ⊢;split at hu
  .rename_i B;simp only[B,cH];generalize a.tmps.getD u Go.undef=x at hu;cases hu with
   | d' _ _ o C A =>
    exact .d' _ _ _ (r _) A
   | own _ _ _ _ o b ad c C A D I h3 h4 =>
    rw[r]at C;cases C;exact .own _ _ _ _ _ b ad c (r _) A D I (by simp;omega) h4
   | eO _ _ _ _ _ _ _ F=>rw[r]at F;cases F
  .rename_i B;simp only[B,fQ];obtain h|⟨p,h,_,h3⟩:=BR (d:=AV.undef) (l:=sl) (s:=u)
   .rw[h];exact .undef _
   .rw[h3]at hu ⊢;exact aQ.gU (st:=⟨(t,.own s 0 0 k)::sl,hp++[(s,[some ⟨sz,es⟩]),(aO,[none])]⟩) (Z:=Z) same (λ_ _ h=>h) (λ_ _ _=>⟨rfl,rfl⟩) hu (k8.1 U p h)
 .obtain hu|⟨rfl,rfl,rfl⟩:=z _ _ _ _ h
  .rw[n s' g' hu]at h;have Q:(⟨[],hp⟩:St).obj s' g'=some o':=by simp only[St.obj,j es s' hu]at h;exact h
   exact oC.gU same (λ_ _ h=>h) (λ_ _ _=>⟨rfl,rfl⟩) hu (FW Cs Q) (hs.heap.bT s' g' o' h)
  .refine⟨E.pos,λe N=>E.iI e (iC N),λc L=>?_,λhn=>?_,λb A=>?_⟩
   .obtain⟨e,N,M⟩:=kC.1 L;exact E.one c (kC.2 ⟨e,iC N,M⟩)
   .have:=E.x5 hn;simp only at this;rw[this];simp
   .obtain⟨cur,T,vals,k1,W,k3,k4,k5,k6⟩:=E.bX b A;have e:es.flatMap AV.cells=(es.take k).flatMap AV.cells++(es.drop k).flatMap AV.cells:=by rw[<- List.flatMap_append,oK]
    rw[e]at W;obtain⟨v1,v2,rfl,q1,q2⟩:=aG.split W;refine⟨cur,T,v1,k1,aG.gU (st:=⟨(t,.own s' 0 0 k)::sl,hp++[(s',[some ⟨sz,es⟩]),(aO,[none])]⟩) (Z:=Z) same (λ_ _ h=>h) (λ_ _ _=>⟨rfl,rfl⟩) q1 ?_,λi v V=>k3 i v (by rw[wN (iU.1 V).1];exact V),k4,by simp only[fY];simp only at k5;omega,k6⟩;have D:lC (hp.map (·.1)) (es.take k)=true:=by rw[yE,k8]at G ⊢;exact λx hx=>G x (iC hx)
    exact MS D
 .obtain⟨H,y⟩:=m _ _ _ D;obtain⟨ag,J⟩:=m _ _ _ I;exact hs.heap.inj _ _ _ _ _ _ b y J X Y
 .obtain⟨H,y⟩:=m _ _ _ h;exact hs.heap.sep _ _ _ b y A
 .obtain⟨H,y⟩:=m _ _ _ h;exact hs.heap.own _ _ _ b y A
 .cases hu:(hp.map (·.1)).contains u with
  | true=>rw[same u hu];exact dE _
  | false=>rw[f _ u hu,f _ u hu];split<;>simp
 .cases hu:(hp.map (·.1)).contains u with
  | true=>rw[n u g hu];exact hn
  | false =>
   simp only[f _ u hu]at O;rw[bD (by omega),bD (by unfold aO;omega)]at O;simp at O
 .cases hu:(hp.map (·.1)).contains u with
  | true=>rw[n u g hu];exact .inr ⟨o,C,rfl,rfl,rfl,rfl⟩
  | false =>
   obtain h|⟨rfl,_,_⟩:=z _ _ _ _ C
   .rw[h]at hu;cases hu
   .omega
end
end Go.Ab
namespace Go.Ab
open Enc (enc)
attribute [local simp] iJ bP.aY
def qJ(nx:List (List Int))(m:List Bool)(o:List Int):St:=aB [(0,.own bC 0 0 m.length),(1,.p (.sl (ens nx))),(4,.own 21 0 0 o.length)] [(bC,⟨1,aK m⟩),(21,⟨1,aK o⟩)]
def qI(nx:List (List Int))(m:List Bool)(o l:List Int)(k:Nat):St:=aB [(0,.own bC 0 0 m.length),(1,.p (.sl (ens nx))),(4,.own 21 0 0 o.length),(40,.p (.sl (ens l))),(41,.p (.int .i64 l.length)),(42,.p (.int .i64 k))] [(bC,⟨1,aK m⟩),(21,⟨1,aK o⟩)]
def Wr{nx:List (List Int)}{m0 m:List Bool}{N S i:Nat}{l o:List Int}(H:N<=100000)(J:l.length<=100000000)(t:∀ x∈l,∃ j:Nat,x=j/\j<N)(d:oB nx m0 N S i l 0 m o){Q:Exit->St->Prop}{ks:List Kt}{st:St}(F:aA st (qI nx m o l 0))
  (G:∀ m o st',oB nx m0 N S i l l.length m o->aA st' (qI nx m o l l.length)->gA P 59 Q (fO 4 ks) 4 st'):vL P 59 Q g.sh ks st:=by
 refine b6 (S:=λx:Nat × List Bool × List Int=>qI nx x.2.1 x.2.2 l x.1) (I:=λx=>x.1<=l.length/\oB nx m0 N S i l x.1 x.2.1 x.2.2) (m:=λx=>l.length - x.1) (0,m,o) F ⟨by simp,d⟩ ?_;rintro⟨k,m,o⟩ ⟨C,d⟩ R r L s;simp only at C d;have u:=aZ k;have A:=d.sz;have E:=d.hS;have D:=d.ml;by_cases f:k<l.length
 .obtain⟨j,z,B⟩:=t _ (bU f);have h:l[k]?=some (j:Int):=by rw[dO f,z]
  have b:j<m.length:=by omega
  simp[g.sh,qI,aB,f];refine bK f ?_;rw[z];simp[b];refine bK b ?_;cases y:m[j]with
  | true =>
   simp[u];refine r (k+1,m,o) _ (aA.to [0,1,4,40,41,42] [((bC,0),bC),((21,0),21)] ?_) ⟨by simp only;omega,d.skip h (by rw[dO b,y])⟩ (by simp only;omega);simp[qI,aB]
  | false =>
   simp[u,b,eL];refine bK b ⟨by omega,r (k+1,m.set j true,o++[(j:Int)]) _ (aA.to [0,1,4,40,41,42] [((bC,0),bC),((57,0),21)] ?_) ⟨by simp only;omega,d.push h (by rw[dO b,y])⟩ (by simp only;omega)⟩;rw[CZ m j true (v:=.p (.bool true)) rfl];have n:(m.set j true).length=m.length:=List.length_set;simp only[qI];rw[n];generalize m.set j true=M;simp[aB]
 .have:k=l.length:=by omega
  subst this;simp[g.sh,qI,aB];refine s _ _ (G m o _ d ?_);simp[qI,aB];exact aA.refl _
def Ws{nx:List (List Int)}{m0:List Bool}{N:Nat}(G:N<=100000)(L:∀ l∈nx,l.length<=100000000/\∀ x∈l,∃ j:Nat,x=j/\j<N){m:List Bool}{o:List Int}(d:tH nx m0 N m o){Q:Exit->St->Prop}{ks:List Kt}{st:St}(W:aA st (qJ nx m o))
  (X:gA P 59 Q (fO 2 ks) 2 (qJ nx (iN nx m0) [])):vL P 59 Q g.sj ks st:=by
 refine b6 (S:=λx:List Bool × List Int=>qJ nx x.1 x.2) (I:=λx=>tH nx m0 N x.1 x.2) (m:=λx=>2*sM x.1+x.2.length) (m,o) W d ?_;rintro⟨m,o⟩ d R y hr A;simp only at d;have B:=d.sz;have M:=d.ml;obtain rfl|⟨o,x,rfl⟩:=B' o
 .have:=d.fin;subst this;simp[g.sj,qJ,aB];refine A _ _ ?_;simpa[qJ,aB]using X
 .rw[xV]at *
  obtain⟨i,l,rfl,hi,b,h⟩:=d.pop;have U:=h.sz;have O:=h.hS;have D:IntKind.i64.wrap (o.length:Int)=(o.length:Int):=cT;have hg:(aK o++[AV.p (.int .i64 (i:Int))])[o.length]?=some (.p (.int .i64 i)):=by rw[qG (by rw[vE];exact dE _),vE,Db];rfl
  have u:l∈nx:=by obtain⟨E,F⟩:=iU.1 b;exact F ▸ bU E
  have J:i<nx.length:=(iU.1 b).1;have H:nx[i]=l:=(iU.1 b).2;obtain⟨n,r⟩:=L l u;simp[g.sj,qJ,aB,D];refine eD b ?_
  refine Wr (N:=N) (i:=i) (m0:=m0) G n r h (l:=l) ((aA.to [4,0,1,40,41,42] [((bC,0),bC),((21,0),21)] (st':=⟨[(4,.own 21 0 0 o.length),(0,.own bC 0 0 m.length),(1,.p (.sl (ens nx))),(40,.p (.sl (ens l))),(41,.p (.int .i64 l.length)),(42,.p (.int .i64 0))],[(bC,[some ⟨1,aK m⟩])]++[(21,[some ⟨1,aK o++[.p (.int .i64 i)]⟩]),(aO,[none])]⟩) ?_).trans
   ((aA.Dj (t:=4) (s:=21) (k:=o.length) (sz:=1) (hp:=[(bC,[some ⟨1,aK m⟩])]) (by decide) rfl rfl ?_ ?_ (dM (Ba (vE o).symm) (by simp)) ?_).trans (aA.to [0,1,4,40,41,42] [((bC,0),bC),((21,0),21)] ?_))) ?_
  .simp[aO]
  .simp[-gW,dS,vT,yE,aK]<;>exact λx _=>rfl
  .simp[-gW,yE,aK]<;>exact⟨λx _=>rfl,rfl⟩
  .simp[pR]
  .have V:(aK o++[AV.p (.int .i64 (i:Int))]).take o.length=aK o:=by rw[De (Ba (vE o).symm),eZ (Ba (vE o))]
   rw[V];simp[qI,aB,aO]
  .rintro Y o2 st' f z;have C:=f.sz;simp[gA,fO];refine y (Y,o2) _ (z.trans (aA.to [0,1,4] [((bC,0),bC),((21,0),21)] ?_)) (f.done (dE _)) (by simp only[gQ,Jq];omega);simp[qI,qJ,aB]
def Wq{nx:List (List Int)}{m:List Bool}(u:m.length<=100000){Q:Exit->St->Prop}{ks:List Kt}{st:St}(s:aA st (aB [(0,.own bC 0 0 m.length),(1,.p (.sl (ens nx))),(4,.own 21 0 0 0),(10,.own bC 0 0 m.length),(11,.p (.int .i64 m.length)),(12,.p (.int .i64 0))] [(bC,⟨1,aK m⟩),(21,⟨1,[]⟩)]))
  (t:∀ st',aA st' (qJ nx m (lW m m.length))->gA P 59 Q (fO 0 ks) 0 st'):vL P 59 Q g.sg ks st:=by
 refine b6 (S:=λk:Nat=>aB [(0,.own bC 0 0 m.length),(1,.p (.sl (ens nx))),(4,.own 21 0 0 (lW m k).length),(10,.own bC 0 0 m.length),(11,.p (.int .i64 m.length)),(12,.p (.int .i64 k))] [(bC,⟨1,aK m⟩),(21,⟨1,aK (lW m k)⟩)]) (I:=λk=>k<=m.length) (m:=λk=>m.length - k) 0 s (by omega) ?_;rintro k x R f y i;have j:=aZ k;have n:(lW m k).length<=k:=by unfold lW;rw[ra];exact dM (kB _ _) (Ba List.length_range)
 by_cases d:k<m.length
 .have r:=ya3 m d;have b:∀ st',aA st' (aB [(0,.own bC 0 0 m.length),(1,.p (.sl (ens nx))),(4,.own 21 0 0 (lW m (k+1)).length),(10,.own bC 0 0 m.length),(11,.p (.int .i64 m.length)),(12,.p (.int .i64 (k+1:Nat)))] [(bC,⟨1,aK m⟩),(21,⟨1,aK (lW m (k+1))⟩)])->R .normal st':=λst' h=>f (k+1) st' h (by omega) (by omega);rw[r]at b;generalize lW m k=o at *
  simp[g.sg,aB,d];refine bK d ?_;cases l:m[k]with
  | true =>
   rw[l]at b;simp[j,eL];refine⟨by omega,b _ (aA.to [0,1,4,10,11,12] [((bC,0),bC),((21,1),21)] ?_)⟩;simp[aB]
  | false =>
   rw[l]at b;simp[j];refine b _ (aA.to [0,1,4,10,11,12] [((bC,0),bC),((21,0),21)] ?_);simp[aB]
 .have:k=m.length:=by omega
  subst this;simp[g.sg,aB];refine i _ _ (t _ (aA.to [0,1,4] [((bC,0),bC),((21,0),21)] ?_));simp[qJ,aB]
def QN{nx:List (List Int)}{m:List Bool}{N:Nat}(h:N<=100000)(d:m.length=N)(f:nx.length=N)(i:∀ l∈nx,l.length<=100000000/\∀ x∈l,∃ j:Nat,x=j/\j<N) :
  gO P 129 [.sl (ens m),.sl (ens nx)] 0 1 (ens (iN nx m)) (.pure (.bM [])):=by
 have b:(iN nx m).length=m.length:=by simp[iN]
 refine gO.cE c.og (by simp) rfl (by simp[b]) ?_;simp[g.og];refine Wq (nx:=nx) (m:=m) (by omega) (aA.nl 4 77 1 rfl (aA.to [0,1,4,10,11,12] [((bC,0),bC),((77,0),21)] ?_)) ?_
 .simp[aB]
 .intro n k;simp[gA,fO];refine Ws (N:=N) (m0:=m) h i (d ▸ YY rfl (f.trans d.symm)) k ?_;simp[gA,fO,qJ,aB]
def lu{α : Type}(d : α)(l:List α)(k:Nat):List α := l.take k++List.replicate (l.length - k) d
def FM{α : Type}(d : α)(l:List α){k:Nat}(h:k<=l.length):(lu d l k).length=l.length:=by simp[lu];omega
theorem FN{α : Type}(d : α)(l:List α){k:Nat}(h:k<l.length):(lu d l k).set k l[k]=lu d l (k+1):=by
 unfold lu;have f:(l.take k).length=k:=by rw[fY];omega
 rw[C' _ _ (by omega),f,Db];obtain⟨n,i⟩:∃ n,l.length - k=n+1:=⟨l.length - k - 1,by omega⟩;have b:l.length - (k+1)=n:=by omega
 rw[i,b,Cj,G0,ed h,sI];rfl
def HU{α : Type}(d : α)(l:List α):lu d l l.length=l:=by simp[lu]
def Ii{α : Type}(d : α)(l:List α):lu d l 0=List.replicate l.length d:=by simp[lu]
noncomputable def fI(t u:GTrans)(L:List aH):List Bool:=L.map λa=>!decide (dR t u a=t.ring.zero)
noncomputable def fF(t u:GTrans)(L:List aH):List Bool:=L.map λa=>!decide (dU t u a=t.ring.zero)
def Ai(t u:GTrans)(mp:PV)(L:List aH)(K:List aE)(A B:List Bool)(k:Nat):St :=
 ⟨[(0,.cp (fA t u mp L K) 19 0),(3,.own 19 0 0 L.length),(4,.own 25 0 0 L.length),(29,.p (.sl (ens L))),(30,.p (.int .i64 L.length)),(31,.p (.int .i64 k))],[(19,[some ⟨1,aK A⟩]),(25,[some ⟨1,aK B⟩]),(aO,[none])]⟩
theorem K6(st:St)(v:PV)(n:Nat):bH st bF (.cp v n 0)=some (.ref v):=rfl
theorem HB(st:St)(v:PV)(n m:Nat):aS st bF (.cp v n m)=[]:=rfl
def W3{t u:GTrans}{M:cQ t.ring}(W:dB M){n C D:Nat}(hn:n+n+1<=M.lim)(it:t.aM.length=C)(iu:u.aM.length=D)(Y:t.fin.length=C)(fu:u.fin.length=D)
  (wit:∀ w∈t.aM,w.aJ t.ring/\M.mb n w) (wiu:∀ w∈u.aM,w.aJ t.ring/\M.mb n w) (E:∀ w∈t.fin,w.aJ t.ring/\M.mb n w) (F:∀ w∈u.fin,w.aJ t.ring/\M.mb n w)
  (mp:PV) {L:List aH} (hL:kG C D L) (ad:L.length<=4000) (K:List aE) (zs:∀ a∈L,(dR t u a).sm 1048576/\(dU t u a).sm 1048576) {Q:Exit->St->Prop} {ks:List Kt} {st:St} (U:aA st (Ai t u mp L K (List.replicate L.length false) (List.replicate L.length false) 0))
  (V:gA P 139 Q (fO 0 ks) 0 (Ai t u mp L K (fI t u L) (fF t u L) L.length)):vL P 139 Q g.sd ks st:=by
 have y:(fI t u L).length=L.length:=by simp[fI]
 have x:(fF t u L).length=L.length:=by simp[fF]
 refine b6 (S:=λk:Nat=>Ai t u mp L K (lu false (fI t u L) k) (lu false (fF t u L) k) k) (I:=λk=>k<=L.length) (m:=λk=>L.length - k) 0 (by rw[Ii,Ii,y,x];exact U) (by omega) ?_;rintro k hk R r hr s;have X:=aZ k;by_cases f:k<L.length
 .have d:∀ j,aA j (Ai t u mp L K (lu false (fI t u L) (k+1)) (lu false (fF t u L) (k+1)) (k+1))->R .normal j:=λj h=>r (k+1) j h (by omega) (by omega);rw[<- FN false (fI t u L) (by omega:k<_),<- FN false (fF t u L) (by omega:k<_)]at d;have J:=FM false (fI t u L) (k:=k) (by omega);have N:=FM false (fF t u L) (k:=k) (by omega);rw[y]at J;rw[x]at N;have o:(fI t u L)[k] = !decide (dR t u L[k]=t.ring.zero):=by simp[fI]
  have l:(fF t u L)[k] = !decide (dU t u L[k]=t.ring.zero):=by simp[fF]
  rw[o,l]at d;have i:=bU f;have O:=hL.b _ i;have z:=Ta W hn it iu Y fu wit wiu E F mp L K (a:=L[k]) ⟨O.1,O.2.1⟩;have z1:=Ey t.ring (dR t u L[k]) (zs _ i).1;have z2:=Ey t.ring (dU t u L[k]) (zs _ i).2;clear o l r U V s hr y x zs;generalize lu false (fI t u L) k=A at *
  generalize lu false (fF t u L) k=B at *
  simp[g.sd,Ai,f];refine bK f ?_;generalize L[k]'f=a at *
  generalize dR t u a=w1 at *
  generalize dU t u a=w2 at *
  refine bA z (by simp[K6]) ?_;simp[fA,HB];refine aW z1 ?_;simp;refine aW z2 ?_;simp[f,J,N,X];refine bK (by omega:k<A.length) (bK (by omega:k<B.length) (d _ (aA.to [0,3,4,29,30,31] [((19,0),19),((25,0),25)] ?_)));rw[CZ A k _ (v:=.p (.bool !decide (w1=t.ring.zero))) rfl,CZ B k _ (v:=.p (.bool !decide (w2=t.ring.zero))) rfl];generalize A.set k (!decide (w1=t.ring.zero))=A2;generalize B.set k (!decide (w2=t.ring.zero))=B2;simp[Ai,fA,aO]
 .have:k=L.length:=by omega
  subst this;have G:=HU false (fI t u L);have H:=HU false (fF t u L);rw[y]at G;rw[x]at H;rw[G,H];simp[g.sd,Ai];refine s _ _ ?_;simpa[Ai]using V
structure iG (F:Nat) (cs:List AV) (H:List (Option bI)) (ls:List (List Int)):Prop where
 len:cs.length=ls.length
 cell:∀ (i:Nat) (l:List Int),ls[i]?=some l->(cs[i]?=some .nil/\l=[])\/∃ g,cs[i]?=some (.own F g 0 l.length)/\H[g]?=some (some ⟨1,aK l⟩)
 inj:∀ i j g n m:Nat,cs[i]?=some (AV.own F g 0 n)->cs[j]?=some (AV.own F g 0 m)->i=j
 Cs:∀ x∈H,∀ o,x=some o->∃ l:List Int,o=⟨1,aK l⟩
def iG.start(F n:Nat):iG F (List.replicate n .nil) [] (List.replicate n []):=by
 refine⟨by simp,λi l h=>.inl ?_,λi j g d m h=>?_,λx b=>by cases b⟩
 .rw[Jm]at h ⊢;split at h
  .rename_i hi;rw[aX hi];cases h;exact⟨rfl,rfl⟩
  .cases h
 .rw[Jm]at h;split at h<;>cases h
def iG.app{F:Nat}{cs:List AV}{H s:List (Option bI)}{ls:List (List Int)}{i:Nat}{l:List Int}{x:Int}(h:iG F cs H ls)(hi:ls[i]?=some l)
  (C:(cs[i]?=some .nil/\s=H)\/∃ g n,cs[i]?=some (.own F g 0 n)/\s=H.set g none) :
  iG F (cs.set i (.own F s.length 0 (l.length+1))) (s++[some ⟨1,aK (l++[x])⟩]) (ls.set i (l++[x])):=by
 have z:i<ls.length:=(iU.1 hi).1;have D:i<cs.length:=by rw[h.len];exact z
 have I:s.length=H.length:=by obtain⟨_,rfl⟩|⟨g,n,_,rfl⟩:=C<;>simp
 have r:∀ j g n:Nat,cs[j]?=some (AV.own F g 0 n)->g<H.length:=λj g n f=>by
  have E:j<ls.length:=by rw[<- h.len];exact(iU.1 f).1
  obtain⟨d,_⟩|⟨g',d,A⟩:=h.cell j _ (dO E)
  .rw[f]at d;cases d
  .rw[f]at d;cases d;exact(iU.1 A).1
 refine⟨by simp[h.len],λj l' f=>?_,λa b g n m u t=>?_,λy k o B=>?_⟩
 .rw[vK]at f ⊢;by_cases p:i=j
  .subst p;rw[aX rfl,aX z]at f;cases f;rw[aX rfl,aX D];refine .inr ⟨s.length,by simp,?_⟩;simp
  .rw[bD p]at f ⊢;obtain d|⟨g,d,A⟩:=h.cell j l' f
   .exact .inl d
   .refine .inr ⟨g,d,?_⟩;have M:=r j g _ d;rw[wN (by omega)];obtain⟨_,rfl⟩|⟨g',n,G,rfl⟩:=C
    .exact A
    .rw[vK,bD]
     .exact A
     .rintro rfl;exact p (h.inj i j g' _ _ G d)
 .rw[vK]at u t;split at u
  .rename_i J;split at t
   .rename_i L;omega
   .cases u;have:=r b _ _ t;omega
  .split at t
   .cases t;have:=r a _ _ u;omega
   .exact h.inj a b g n m u t
 .obtain k|k:=dN.1 k
  .obtain⟨_,rfl⟩|⟨g',n,G,rfl⟩:=C
   .exact h.Cs y k o B
   .obtain k|rfl:=E5 k
    .exact h.Cs y k o B
    .cases B
  .simp only[iT]at k;subst k;cases B;exact⟨_,rfl⟩
def iG.cells{F:Nat}{cs:List AV}{H:List (Option bI)}{ls:List (List Int)}(h:iG F cs H ls):∀ c∈cs,c=.nil\/∃ g n,c=.own F g 0 n:=λc f=>by
 obtain⟨i,hi,rfl⟩:=Jt f;have d:i<ls.length:=by rw[<- h.len];exact hi
 obtain⟨b,_⟩|⟨g,b,_⟩:=h.cell i _ (dO d)
 .rw[dO hi]at b;exact .inl (NG b)
 .rw[dO hi]at b;exact .inr ⟨g,_,NG b⟩
def iG.refs{F:Nat}{cs:List AV}{H:List (Option bI)}{ls:List (List Int)}(h:iG F cs H ls){ks:List Nat}(b:ks.contains F=true):lC ks cs=true:=by
 rw[yE,k8];intro c d;obtain rfl|⟨g,n,rfl⟩:=h.cells c d
 .rfl
 .exact b
theorem iG.bT{F:Nat}{cs:List AV}{H:List (Option bI)}{ls:List (List Int)}(h:iG F cs H ls)(ks:List Nat):∀ x∈H,vT ks x=true:=λx b=>by
 cases x with
 | none=>rfl
 | some o =>
  obtain⟨l,rfl⟩:=h.Cs _ b o rfl;show lC ks (aK l)=true;simp
def qC(ls:List (List Int))(i j:Int):List (List Int):=ls.set i.toNat (ls.getD i.toNat []++[j])
def P1(ls:List (List Int))(i j:Int):(qC ls i j).length=ls.length:=by simp[qC]
def s5(K:List aE)(n:Nat):List (List Int):=K.foldl (λb x=>qC b x.f x.t) (List.replicate n [])
def tG(K:List aE)(n:Nat):List (List Int):=K.foldl (λb x=>qC b x.t x.f) (List.replicate n [])
def ya7(K:List aE)(n:Nat)(x:aE):s5 (K++[x]) n=qC (s5 K n) x.f x.t:=by simp[s5]
def ycw(K:List aE)(n:Nat)(x:aE):tG (K++[x]) n=qC (tG K n) x.t x.f:=by simp[tG]
theorem Ld(g:aE->Int)(h:aE->Int):∀ (K:List aE) (ls:List (List Int)),(K.foldl (λls x=>qC ls (g x) (h x)) ls).length=ls.length
 | [],_=>rfl
 | x::K,ls=>by rw[C8,Ld g h K,P1]
def HO(K:List aE)(n:Nat):(s5 K n).length=n:=by unfold s5;rw[Ld];simp
def HF(K:List aE)(n:Nat):(tG K n).length=n:=by unfold tG;rw[Ld];simp
theorem FB(g:aE->Int)(h:aE->Int):∀ (K:List aE) (ls:List (List Int)) (B:Nat),(∀ l∈ls,l.length<=B)->∀ l∈K.foldl (λls x=>qC ls (g x) (h x)) ls,l.length<=B+K.length
 | [],_,_,d,l,b=>d l b
 | x::K,ls,B,d,l,b=>by
  have:=FB g h K (qC ls (g x) (h x)) (B+1) (λl b=>by
   unfold qC at b;obtain b|rfl:=E5 b
   .exact dM (d l b) (by omega)
   .rw[gQ,Jq];have:(ls.getD (g x).toNat []).length<=B:=by
     rw[eV];cases f:ls[(g x).toNat]? with
     | none=>simp
     | some y=>exact d y (wM f)
    omega) l b
  rw[qH];omega
def sV(n:Nat)(K:List aE)(A B:List Bool)(b d:List AV)(f h:List (Option bI))(k:Nat):St :=
 ⟨[(3,.own 19 0 0 n),(4,.own 25 0 0 n),(9,.own 70 0 0 n),(10,.own 76 0 0 n),(80,.p (.sl (ens K))),(81,.p (.int .i64 K.length)),(82,.p (.int .i64 k))],
  [(100,f),(109,h),(19,[some ⟨1,aK A⟩]),(25,[some ⟨1,aK B⟩]),(70,[some ⟨1,b⟩]),(76,[some ⟨1,d⟩]),(aO,[none])]⟩
structure UsX where
 k:Nat
 C1:List AV
 C2:List AV
 H1:List (Option bI)
 H2:List (Option bI)
def z82{n:Nat}{K:List aE}(ao:K.length<=100000000)(hK:∀ x∈K,x.fit n){A B:List Bool}{Q:Exit->St->Prop}{ks:List Kt}{st:St}(hw:aA st (sV n K A B (List.replicate n .nil) (List.replicate n .nil) [] [] 0))
  (u:∀ J L M N,iG 100 J M (s5 K n)->iG 109 L N (tG K n)->gA P 139 Q (fO 2 ks) 2 (sV n K A B J L M N K.length)):vL P 139 Q g.qo ks st:=by
 refine b6 (S:=λx:UsX=>sV n K A B x.C1 x.C2 x.H1 x.H2 x.k) (I:=λx=>x.k<=K.length/\iG 100 x.C1 x.H1 (s5 (K.take x.k) n)/\iG 109 x.C2 x.H2 (tG (K.take x.k) n)) (m:=λx=>K.length - x.k) ⟨0,_,_,[],[]⟩ hw ⟨by simp,by simpa[s5]using iG.start 100 n,by simpa[tG]using iG.start 109 n⟩ ?_;rintro⟨k,J,L,M,N⟩ ⟨hk,r,s⟩ R ag hr al;simp only at hk r s;have e1:=aZ k;by_cases i:k<K.length
 .obtain⟨⟨f0,f1⟩,t0,t1⟩:=hK _ (bU i);have d:∀ W J L M N,iG 100 J M (s5 (K.take (k+1)) n)->iG 109 L N (tG (K.take (k+1)) n)->aA W (sV n K A B J L M N (k+1))->R .normal W:=λW J L M N a b h=>ag ⟨k+1,J,L,M,N⟩ W h ⟨by simp only;omega,a,b⟩ (by simp only;omega);rw[ed i,ya7,ycw]at d;obtain⟨f,hf⟩:∃ f:Nat,K[k].f=(f:Int):=⟨K[k].f.toNat,by omega⟩;obtain⟨t,ht⟩:∃ t:Nat,K[k].t=(t:Int):=⟨K[k].t.toNat,by omega⟩;rw[hf,ht]at d;have lN:=HO (K.take k) n;have lB:=HF (K.take k) n;have bN:=FB (·.f) (·.t) (K.take k) (List.replicate n []) 0 (λl hl=>by rw[B8 hl];exact dE _);have bB:=FB (·.t) (·.f) (K.take k) (List.replicate n []) 0 (λl hl=>by rw[B8 hl];exact dE _);have bN:∀ l∈s5 (K.take k) n,l.length<=0+(K.take k).length:=bN;have bB:∀ l∈tG (K.take k) n,l.length<=0+(K.take k).length:=bB;rw[fY]at bN bB;generalize s5 (K.take k) n=E at *
  generalize tG (K.take k) n=F at *
  have p:f<n:=by omega
  have V:t<n:=by omega
  have ad:f<E.length:=by omega
  have af:t<F.length:=by omega
  have O:J.length=n:=by rw[r.len,lN]
  have U:L.length=n:=by rw[s.len,lB]
  have X:=dO ad;have Y:=dO af;have b1:=bN _ (bU ad);have b2:=bB _ (bU af);have d1:qC E f t=E.set f (E[f]++[(t:Int)]):=by unfold qC;rw[kZ,eV,X];rfl
  have d2:qC F t f=F.set t (F[t]++[(f:Int)]):=by unfold qC;rw[kZ,eV,Y];rfl
  rw[d1,d2]at d;generalize ap:E[f]=l1 at *
  generalize aq:F[t]=l2 at *
  obtain⟨C,q1⟩|⟨ga,C,q1⟩:=r.cell f l1 X<;>obtain⟨D,q2⟩|⟨gb,D,q2⟩:=s.cell t l2 Y
  .subst q1 q2;have j:=r.app (x:=(t:Int)) X (.inl ⟨C,rfl⟩);have o:=s.app (x:=(f:Int)) Y (.inl ⟨D,rfl⟩);simp[g.qo,sV,i];refine bK i ?_;rw[hf,ht];simp only[kZ];refine⟨⟨by omega,p,by omega⟩,?_⟩;rw[lM];refine⟨_,C,?_⟩;simp[eL];refine⟨by omega,?_⟩;rw[lM];refine⟨_,D,?_⟩;simp[eL,p,O];rw[lM];refine⟨_,C,?_⟩;simp[V,U];rw[lM];refine⟨_,D,?_⟩;simp[e1];have G:=wC (ids:=[((19,0),19),((25,0),25),((70,0),70),((76,0),76)]) (j.refs (ks:=[100,109]) rfl);have H:=wC (ids:=[((19,0),19),((25,0),25),((70,0),70),((76,0),76)]) (o.refs (ks:=[100,109]) rfl);have y:=j.bT [100,109];have z:=o.bT [100,109];simp at j o G H y z;refine d _ _ _ _ _ j o (aA.cW [3,4,9,10,80,81,82] [100,109] [((19,0),19),((25,0),25),((70,0),70),((76,0),76)] ?_);simp[sV,G,H,aO];exact⟨r.bT [100,109],s.bT [100,109]⟩
  .subst q1;have j:=r.app (x:=(t:Int)) X (.inl ⟨C,rfl⟩);have o:=s.app (x:=(f:Int)) Y (.inr ⟨gb,_,D,rfl⟩);simp[g.qo,sV,i];refine bK i ?_;rw[hf,ht];simp only[kZ];refine⟨⟨by omega,p,by omega⟩,?_⟩;rw[lM];refine⟨_,C,?_⟩;simp[eL];refine⟨by omega,?_⟩;rw[lM];refine⟨_,D,?_⟩;simp[eL,p,O,q2];refine⟨by omega,?_⟩;rw[lM];refine⟨_,C,?_⟩;simp[V,U];rw[lM];refine⟨_,D,?_⟩;simp[e1];have G:=wC (ids:=[((19,0),19),((25,0),25),((70,0),70),((76,0),76)]) (j.refs (ks:=[100,109]) rfl);have H:=wC (ids:=[((19,0),19),((25,0),25),((70,0),70),((76,0),76)]) (o.refs (ks:=[100,109]) rfl);have y:=j.bT [100,109];have z:=o.bT [100,109];simp at j o G H y z;refine d _ _ _ _ _ j o (aA.cW [3,4,9,10,80,81,82] [100,109] [((19,0),19),((25,0),25),((70,0),70),((76,0),76)] ?_);simp[sV,G,H,aO]
   repeat' apply And.intro
   all_goals first|exact r.bT [100,109]|exact s.bT [100,109]|exact λx u=>y x (.inl u)|exact λx u=>z x (.inl u)|exact y _ (.inr rfl)|exact z _ (.inr rfl)
  .subst q2;have j:=r.app (x:=(t:Int)) X (.inr ⟨ga,_,C,rfl⟩);have o:=s.app (x:=(f:Int)) Y (.inl ⟨D,rfl⟩);simp[g.qo,sV,i];refine bK i ?_;rw[hf,ht];simp only[kZ];refine⟨⟨by omega,p,by omega⟩,?_⟩;rw[lM];refine⟨_,C,?_⟩;simp[eL,q1];refine⟨by omega,by omega,?_⟩;rw[lM];refine⟨_,D,?_⟩;simp[eL,p,O];rw[lM];refine⟨_,C,?_⟩;simp[V,U];rw[lM];refine⟨_,D,?_⟩;simp[e1];have G:=wC (ids:=[((19,0),19),((25,0),25),((70,0),70),((76,0),76)]) (j.refs (ks:=[100,109]) rfl);have H:=wC (ids:=[((19,0),19),((25,0),25),((70,0),70),((76,0),76)]) (o.refs (ks:=[100,109]) rfl);have y:=j.bT [100,109];have z:=o.bT [100,109];simp at j o G H y z;refine d _ _ _ _ _ j o (aA.cW [3,4,9,10,80,81,82] [100,109] [((19,0),19),((25,0),25),((70,0),70),((76,0),76)] ?_);simp[sV,G,H,aO]
   repeat' apply And.intro
   all_goals first|exact r.bT [100,109]|exact s.bT [100,109]|exact λx u=>y x (.inl u)|exact λx u=>z x (.inl u)|exact y _ (.inr rfl)|exact z _ (.inr rfl)
  .have j:=r.app (x:=(t:Int)) X (.inr ⟨ga,_,C,rfl⟩);have o:=s.app (x:=(f:Int)) Y (.inr ⟨gb,_,D,rfl⟩);simp[g.qo,sV,i];refine bK i ?_;rw[hf,ht];simp only[kZ];refine⟨⟨by omega,p,by omega⟩,?_⟩;rw[lM];refine⟨_,C,?_⟩;simp[eL,q1];refine⟨by omega,by omega,?_⟩;rw[lM];refine⟨_,D,?_⟩;simp[eL,p,O,q2];refine⟨by omega,?_⟩;rw[lM];refine⟨_,C,?_⟩;simp[V,U];rw[lM];refine⟨_,D,?_⟩;simp[e1];have G:=wC (ids:=[((19,0),19),((25,0),25),((70,0),70),((76,0),76)]) (j.refs (ks:=[100,109]) rfl);have H:=wC (ids:=[((19,0),19),((25,0),25),((70,0),70),((76,0),76)]) (o.refs (ks:=[100,109]) rfl);have y:=j.bT [100,109];have z:=o.bT [100,109];simp at j o G H y z;refine d _ _ _ _ _ j o (aA.cW [3,4,9,10,80,81,82] [100,109] [((19,0),19),((25,0),25),((70,0),70),((76,0),76)] ?_);simp[sV,G,H,aO]
   repeat' apply And.intro
   all_goals first|exact r.bT [100,109]|exact s.bT [100,109]|exact λx u=>y x (.inl u)|exact λx u=>z x (.inl u)|exact y _ (.inr rfl)|exact z _ (.inr rfl)
 .have:k=K.length:=by omega
  subst this;rw[List.take_length]at r s;simp[g.qo,sV];refine al _ _ ?_;simpa[sV,aO]using u J L M N r s
end Go.Ab
namespace Go.Ab
def R8{m:List Bool}{i:Nat}:m[i]?=some true ↔ m.getD i false=true:=by rw[eV];cases m[i]?<;>simp
def OX(on:List Bool)(p:Int × Int){i:Nat}(h:on.getD i false=true):(rA on p).getD i false=true:=by
 unfold rA;split
 .by_cases b:p.2.toNat<on.length
  .rw[L7 b];split
   .rfl
   .exact h
  .rw[List.set_eq_of_length_le (by omega)];exact h
 .exact h
theorem LQ:∀ (ps:List (Int × Int)) (on:List Bool) {i:Nat},on.getD i false=true->(lS ps on).getD i false=true
 | [],_,_,h=>h
 | p::ps,on,i,h=>LQ ps (rA on p) (OX on p h)
theorem OU(ps:List (Int × Int)):∀ (n:Nat) (on:List Bool) {i:Nat},on.getD i false=true->(iS ps n on).getD i false=true
 | 0,_,_,h=>h
 | n+1,on,i,h=>OU ps n (lS ps on) (LQ ps on h)
theorem Wt{ps:List (Int × Int)}{p:Int × Int}:∀ {on:List Bool},p∈ps->on.getD p.1.toNat false=true->p.2.toNat<on.length->(lS ps on).getD p.2.toNat false=true:=by
 induction ps with
 | nil=>intro on h;cases h
 | cons q ps d =>
  intro on hm h b;obtain rfl|hm:=cI.1 hm
  .refine LQ ps (rA on p) ?_;unfold rA;rw[aX h,L7 b,aX rfl]
  .exact d hm (OX on q h) (by rw[z37];exact b)
def ZX(on:List Bool)(p:Int × Int):rA on p=on\/sM (rA on p)<sM on:=by
 unfold rA;split
 .by_cases d:p.2.toNat<on.length
  .cases b:on.getD p.2.toNat true with
   | false=>right;have:=Ks on p.2.toNat b;omega
   | true =>
    left;apply E6;intro i;rw[vK];split
    .rename_i h;subst h;rw[eV,dO d]at b;rw[dO d];rw[xW]at b;simp[b]
    .rfl
  .left;exact List.set_eq_of_length_le (by omega)
 .exact .inl rfl
theorem Hx:∀ (ps:List (Int × Int)) (on:List Bool),lS ps on=on\/sM (lS ps on)<sM on
 | [],_=>.inl rfl
 | p::ps,on=>by
  show lS ps (rA on p)=on\/sM (lS ps (rA on p))<sM on;obtain h|h:=ZX on p
  .rw[h];exact Hx ps on
  .obtain k|k:=Hx ps (rA on p)
   .rw[k];exact .inr h
   .exact .inr (by omega)
theorem PY{ps:List (Int × Int)}{on:List Bool}(h:lS ps on=on):∀ n,iS ps n on=on
 | 0=>rfl
 | n+1=>by show iS ps n (lS ps on)=on;rw[h];exact PY h n
theorem OV(ps:List (Int × Int)):∀ (n:Nat) (on:List Bool),sM on<=n->lS ps (iS ps n on)=iS ps n on
 | 0,on,h=>by
  obtain k|k:=Hx ps on
  .exact k
  .omega
 | n+1,on,h=>by
  show lS ps (iS ps n (lS ps on))=iS ps n (lS ps on);obtain k|k:=Hx ps on
  .rw[k,PY k];exact k
  .exact OV ps n _ (by omega)
def PN(ps:List (Int × Int))(nx:List (List Int))(N:Nat):Prop:=nx.length=N/\(∀ p∈ps,(0<=p.1/\p.1<N)/\0<=p.2/\p.2<N)/\∀ (i j:Nat),(∃ l,nx[i]?=some l/\(j:Int)∈l) ↔ ((i:Int),(j:Int))∈ps
theorem PZ{ps:List (Int × Int)}{nx:List (List Int)}{N:Nat}(h:PN ps nx N){m:List Bool}:∀ (n:Nat) (on:List Bool),(∀ i,on.getD i false=true->kq nx m i)->∀ i,(iS ps n on).getD i false=true->kq nx m i
 | 0,_,b,i,f=>b i f
 | n+1,on,b,i,f=>by
  refine PZ h n (lS ps on) ?_ i f;have:∀ (o:List (Int × Int)),(∀ q∈o,q∈ps)->∀ (on:List Bool),(∀ i,on.getD i false=true->kq nx m i)->∀ i,(lS o on).getD i false=true->kq nx m i:=by
   intro o
   induction o with
   | nil=>intro _ on b i f;exact b i f
   | cons q o x =>
    intro p on b i f;refine x (λr u=>p r (by simp[u])) (rA on q) (λk d=>?_) i f;unfold rA at d;split at d
    .rename_i s;by_cases t:q.2.toNat<on.length
     .rw[L7 t]at d;split at d
      .rename_i e;have j:=p q (by simp);obtain⟨⟨A,B⟩,C,D⟩:=h.2.1 q j;obtain⟨l,y,z⟩:=(h.2.2 q.1.toNat q.2.toNat).2 (by rw[show((q.1.toNat:Nat):Int)=q.1 by omega,show((q.2.toNat:Nat):Int)=q.2 by omega];exact j);exact e ▸ kq.step (b _ s) y z
      .exact b k d
     .rw[List.set_eq_of_length_le (by omega)]at d;exact b k d
    .exact b k d
  exact this ps (λ_ h=>h) on b
def S4{ps:List (Int × Int)}{nx:List (List Int)}{N:Nat}(h:PN ps nx N){m:List Bool}(C:m.length=N):iS ps m.length m=iN nx m:=by
 have f:=OV ps m.length m (M6 m);have y:=AI ps m.length m;have comp:∀ i,kq nx m i->(iS ps m.length m).getD i false=true:=by
  intro i d
  induction d with
  | base n=>exact OU ps _ m (R8.1 n)
  | step d z x A =>
   rename_i a b l;have r:=(h.2.2 a b).1 ⟨l,z,x⟩;have k:=h.2.1 _ r;have n:b<N:=by have:=k.2.2;simp only at this;omega
   have:=Wt (p:=((a:Int),(b:Int))) (on:=iS ps m.length m) r (by simpa using A) (by simp;omega);rw[f]at this;simpa using this
 apply Bb
 .simp[iN,y]
 .intro i t B;have o:i<N:=by omega
  have s:(iS ps m.length m)[i]=(iS ps m.length m).getD i false:=by rw[eV,dO t];rfl
  have j:(iS ps m.length m).getD i false=true ↔ kq nx m i:=by
   constructor
   .exact PZ h _ m (λi o=>.base (R8.2 o)) i
   .exact comp i
  rw[s];simp only[iN,Ce,GI];by_cases d:kq nx m i
  .rw[j.2 d];simp[d]
  .cases u:(iS ps m.length m).getD i false with
   | true=>exact absurd (j.1 u) d
   | false=>simp[d]
theorem Mq{g h:aE->Int}{n:Nat}:∀ {K:List aE} (_:∀ x∈K,0<=g x/\g x<(n:Int)) {ls:List (List Int)},ls.length=n->∀ (i:Nat) (j:Int),(∃ l,(K.foldl (λls x=>qC ls (g x) (h x)) ls)[i]?=some l/\j∈l) ↔ (∃ l,ls[i]?=some l/\j∈l)\/∃ x∈K,g x=i/\h x=j
 | [],_,ls,_,i,j=>by simp
 | x::K,k,ls,s,i,j=>by
  rw[C8,Mq (K:=K) (λy d=>k y (by simp[d])) (ls:=qC ls (g x) (h x)) (by rw[P1,s]) i j];obtain⟨a,r⟩:∃ a:Nat,g x=(a:Int):=⟨(g x).toNat,by have:=k x (by simp);omega⟩;have f:a<ls.length:=by have:=k x (by simp);omega
  have b:(∃ l,(qC ls (g x) (h x))[i]?=some l/\j∈l) ↔ (∃ l,ls[i]?=some l/\j∈l)\/(g x=i/\h x=j):=by
   unfold qC;rw[r,kZ,vK];by_cases m:a=i
   .subst m;rw[aX rfl,aX f,eV,dO f];simp only[cD,xW,exists_eq_left',dN,iT,true_and];constructor
    .rintro(h|h)
     .exact .inl h
     .exact .inr h.symm
    .rintro(h|h)
     .exact .inl h
     .exact .inr h.symm
   .rw[bD m];constructor
    .exact .inl
    .rintro(h|⟨h,_⟩)
     .exact h
     .exact absurd (by omega) m
  rw[b];constructor
  .rintro((h|⟨o,p⟩)|⟨y,d,h⟩)
   .exact .inl h
   .exact .inr ⟨x,by simp,o,p⟩
   .exact .inr ⟨y,by simp[d],h⟩
  .rintro(h|⟨y,d,h⟩)
   .exact .inl (.inl h)
   .obtain rfl|d:=cI.1 d
    .exact .inl (.inr h)
    .exact .inr ⟨y,d,h⟩
def OQ(n i:Nat)(j:Int):¬ ∃ l,(List.replicate n ([]:List Int))[i]?=some l/\j∈l:=by
 rintro⟨l,h,b⟩;rw[Jm]at h;split at h
 .cases h;cases b
 .cases h
def nX(K:List aE):List (Int × Int):=K.map λx=>(x.f,x.t)
def rQ(ps:List (Int × Int)):List (Int × Int):=ps.map λp=>(p.2,p.1)
def Y1{K:List aE}{n:Nat}(d:∀ x∈K,x.fit n):PN (nX K) (s5 K n) n:=by
 refine⟨HO K n,λp m=>?_,λi j=>?_⟩
 .obtain⟨x,b,rfl⟩:=cA.1 m;exact d x b
 .unfold s5;rw[Mq (g:=(·.f)) (h:=(·.t)) (λx b=>(d x b).1) (by simp) i j];constructor
  .rintro(h|⟨x,b,k,l⟩)
   .exact absurd h (OQ n i j)
   .exact cA.2 ⟨x,b,by rw[k,l]⟩
  .intro h;obtain⟨x,b,e⟩:=cA.1 h;exact .inr ⟨x,b,congrArg Prod.fst e,congrArg Prod.snd e⟩
def Y0{K:List aE}{n:Nat}(d:∀ x∈K,x.fit n):PN (rQ (nX K)) (tG K n) n:=by
 refine⟨HF K n,λp o=>?_,λi j=>?_⟩
 .obtain⟨q,k,rfl⟩:=cA.1 o;obtain⟨x,b,rfl⟩:=cA.1 k;exact⟨(d x b).2,(d x b).1⟩
 .unfold tG;rw[Mq (g:=(·.t)) (h:=(·.f)) (λx b=>(d x b).2) (by simp) i j];constructor
  .rintro(h|⟨x,b,l,m⟩)
   .exact absurd h (OQ n i j)
   .exact cA.2 ⟨(x.f,x.t),cA.2 ⟨x,b,rfl⟩,by simp only[l,m]⟩
  .intro h;obtain⟨q,k,e⟩:=cA.1 h;obtain⟨x,b,rfl⟩:=cA.1 k;exact .inr ⟨x,b,congrArg Prod.fst e,congrArg Prod.snd e⟩
def gD{α : Type}:List Bool->List α -> List α
 | b::m,x::l=>if b=true then x::gD m l else gD m l
 | _,_=>[]
theorem F3{α : Type}:∀ {m:List Bool} {l:List α} {k:Nat} (h:k<m.length) (d:k<l.length),gD (m.take (k+1)) (l.take (k+1))=gD (m.take k) (l.take k)++(if m[k]=true then[l[k]]else[])
 | b::m,x::l,0,_,_=>by cases b<;>simp[gD]
 | b::m,x::l,k+1,h,d=>by have f:=F3 (m:=m) (l:=l) (k:=k) (by simpa using h) (by simpa using d);simp only[List.take_succ_cons,gD,List.getElem_cons_succ]at f ⊢;cases b<;>simp_all
theorem CM{α : Type}:∀ {m:List Bool} {l:List α},m.length=l.length->(gD m l).length=m.count true
 | [],[],_=>rfl
 | b::m,x::l,h=>by have d:=CM (m:=m) (l:=l) (by simpa using h);cases b<;>simp[gD,d]
theorem xP{α : Type}:∀ {m:List Bool} {l:List α} {x : α},x∈gD m l->x∈l
 | b::m,y::l,x,h=>by
  cases b with
  | true =>
   obtain rfl|h:=cI.1 (show x∈y::gD m l from h)
   .simp
   .simp[xP h]
  | false=>simp[xP (show x∈gD m l from h)]
 | [],_,_,h=>by cases h
 | _::_,[],_,h=>by cases h
def gI(m:List Bool)(k:Nat):Nat:=(m.take k).count true
def K'{m:List Bool}{k:Nat}(h:k<m.length):gI m (k+1)=gI m k+(m[k]).toNat:=by unfold gI;rw[ed h,List.count_append];cases m[k]<;>simp
def M7(m:List Bool)(k:Nat):gI m k<=k:=dM Jl (by rw[fY];omega)
def cW(m:List Bool):List Int:=(List.range m.length).map λj=>if m.getD j false=true then((gI m j:Nat):Int)else 0
def BM(m:List Bool):(cW m).length=m.length:=by simp[cW]
theorem HW{m:List Bool}{k:Nat}(h:k<m.length)(b:k<(cW m).length):(cW m)[k]=if m[k]=true then((gI m k:Nat):Int)else 0:=by simp only[cW,Ce,GI];rw[eV,dO h];rfl
def Pg{α : Type}(d : α)(l:List α){k:Nat}(h:k<l.length)(hd:l[k]=d):lu d l (k+1)=lu d l k:=by
 rw[<- FN d l h,hd];apply E6;intro i;rw[vK];split
 .rename_i b;subst b;rw[FM d l (by omega),aX h];unfold lu;rw[qG (by rw[fY];omega)];have f:k - (l.take k).length=0:=by rw[fY];omega
  rw[f,Jm,aX (by omega)]
 .rfl
def x7(m:List Bool)(x:aE):Bool:=m.getD x.f.toNat false&&m.getD x.t.toNat false
def rX(m:List Bool)(x:aE):aE:=⟨(cW m).getD x.f.toNat 0,x.i,x.o,(cW m).getD x.t.toNat 0,x.w⟩
def nE(m:List Bool)(l:List aE):List aE:=(l.filter (x7 m)).map (rX m)
def Tq(m:List Bool){l:List aE}{k:Nat}(h:k<l.length):nE m (l.take (k+1))=nE m (l.take k)++(if x7 m l[k]=true then[rX m l[k]]else[]):=by
 unfold nE;rw[ed h,tW,sS]
 congr 1
 cases b:x7 m l[k]<;>simp[b]
def Sc(m:List Bool)(l:List aE):(nE m l).length<=l.length:=by unfold nE;rw[ra];exact kB _ _
end Go.Ab
namespace Go.Ab
open Enc (enc)
attribute [local simp] iJ bP.aY
theorem Sf{α β : Type}{f : α -> Option β}:∀ {l:List α} {r:List β},l.length=r.length->(∀ (i:Nat) (x : α) (y : β),l[i]?=some x->r[i]?=some y->f x=some y)->l.mapM f=some r
 | [],[],_,_=>rfl
 | [],_::_,h,_=>by simp at h
 | _::_,[],h,_=>by simp at h
 | x::l,y::r,h,k=>by have d:=k 0 x y rfl rfl;have n:=Sf (l:=l) (r:=r) (by simpa using h) λi a b j m=>k (i+1) a b (by simpa using j) (by simpa using m);simp[List.mapM_cons,d,n]
theorem Rl(n:Nat)(st:St)(s g off b:Nat):bH st (n+1) (.own s g off b)=match st.obj s g with
  | some o=>if off+b<=o.es.length then(((o.es.drop off).take b).mapM (bH st n)).map .sl else none
  | none=>none:=rfl
theorem S0{F s n:Nat}{C:List AV}{H:List (Option bI)}{ls:List (List Int)}(h:iG F C H ls)(hn:ls.length=n){st:St}(m:st.obj s 0=some ⟨1,C⟩)(o:∀ g,st.obj F g=H[g]?.getD none) :
  bH st bF (.own s 0 0 n)=some (.sl (ens ls)):=by
 rw[P7,m];simp only[Ae,sG];rw[aX (by rw[h.len,hn];exact dE _),eZ (by rw[h.len,hn];exact dE _)];have:C.mapM (bH st 5)=some (ens ls):=by
  refine Sf (by simp[-gW,h.len,ens]) λi x y f l=>?_;have b:i<ls.length:=by rw[<- h.len];exact(iU.1 f).1
  have j:y=.sl (ens ls[i]):=by simp[-gW,ens,b]at l;exact l.symm
  subst j;obtain⟨d,k⟩|⟨g,d,k⟩:=h.cell i _ (dO b)
  .rw[f]at d;cases d;rw[k];rfl
  .rw[f]at d;cases d;rw[Rl,o,k];simp only[xW,Ae,sG,vE,dE,cH];rw[eZ (Ba (vE _)),Ib];rfl
 rw[this];rfl
def R9{F s n:Nat}{C:List AV}{H:List (Option bI)}{ls:List (List Int)}(h:iG F C H ls){st:St}(i:st.obj s 0=some ⟨1,C⟩)(j:∀ g,st.obj F g=H[g]?.getD none) :
  ∀ d∈aS st bF (.own s 0 0 n),d.1=s\/d.1=F:=by
 rw[Xl,i];intro d hd;obtain rfl|hd:=cI.1 hd
 .exact .inl rfl
 .obtain⟨c,b,hd⟩:=kC.1 hd;obtain rfl|⟨g,m,rfl⟩:=h.cells c b
  .simp at hd
  .rw[Xm]at hd;obtain rfl|hd:=cI.1 hd
   .exact .inr rfl
   .rw[j]at hd;cases f:H[g]? with
    | none=>rw[f]at hd;cases hd
    | some o =>
     rw[f]at hd;cases o with
     | none=>cases hd
     | some o =>
      obtain⟨l,rfl⟩:=h.Cs _ (wM f) o rfl;obtain⟨c,b,hd⟩:=kC.1 hd;obtain⟨v,_,rfl⟩:=cA.1 b;rw[T5]at hd;cases hd
def yH(A B:List Bool)(n k:Nat):St:=⟨[(3,.own 19 0 0 n),(4,.own 25 0 0 n),(120,.p (.int .i64 n)),(121,.p (.int .i64 k))],[(19,[some ⟨1,aK A⟩]),(25,[some ⟨1,aK B⟩]),(aO,[none])]⟩
def fG(A B:List Bool):List Bool:=List.zipWith (λa b=>a&&b) A B
def pH(A B:List Bool)(k:Nat):List Bool:=(fG A B).take k++A.drop k
def ycz{A B:List Bool}(h:A.length=B.length){k:Nat}(d:k<A.length):(pH A B k).set k (A[k]&&B[k]'(h ▸ d))=pH A B (k+1)/\(pH A B k)[k]?=some A[k]/\(pH A B k).length=A.length:=by
 have i:(fG A B).length=A.length:=by simp[fG,h]
 have f:k<(fG A B).length:=by omega
 have b:((fG A B).take k).length=k:=by rw[fY];omega
 unfold pH;refine⟨?_,?_,by simp;omega⟩
 .rw[C' _ _ (by omega),b,Db,vJ d,G0,ed f,sI];have:(fG A B)[k]=(A[k]&&B[k]'(h ▸ d)):=by simp[fG]
  rw[this];rfl
 .rw[qG (by omega),b,Db,Cm,uO,dO d]
def W4{A B:List Bool}{n:Nat}(x:A.length=n)(C:B.length=n)(hn:n<=100000){Q:Exit->St->Prop}{ks:List Kt}{st:St}(E:aA st (yH A B n 0))
  (F:gA P 139 Q (fO 4 ks) 4 (yH (fG A B) B n n)):vL P 139 Q g.se ks st:=by
 refine b6 (S:=λk:Nat=>yH (pH A B k) B n k) (I:=λk=>k<=n) (m:=λk=>n - k) 0 (by simpa[pH]using E) (by omega) ?_;rintro k L R r M s;have u:=aZ k;by_cases i:k<n
 .have l:k<A.length:=by omega
  have o:k<B.length:=by omega
  obtain⟨H,t,J⟩:=ycz (x.trans C.symm) l;have d:∀ f,aA f (yH (pH A B (k+1)) B n (k+1))->R .normal f:=λf h=>r (k+1) f h (by omega) (by omega);rw[<- H]at d;have z:B[k]?=some B[k]:=dO o;generalize pH A B k=D at *
  have j:D.length=n:=J.trans x;generalize A[k]=a at *
  generalize B[k]=b at *
  simp[g.se,yH,i];refine⟨by omega,eD t ?_⟩;cases a with
  | true =>
   simp[i];refine⟨by omega,eD z ?_⟩;simp[j,u];refine eD t (d _ (aA.to [3,4,120,121] [((19,0),19),((25,0),25)] ?_));rw[CZ D k b (v:=.p (.bool b)) rfl];simp only[GN];generalize D.set k b=y;simp[yH,aO]
  | false =>
   simp[i,j,u];refine eD t (d _ (aA.to [3,4,120,121] [((19,0),19),((25,0),25)] ?_));rw[CZ D k false (v:=.p (.bool false)) rfl];simp only[Bool.false_and];generalize D.set k false=y;simp[yH,aO]
 .have:k=n:=by omega
  subst this;have G:pH A B k=fG A B:=by unfold pH;rw[eZ (by simp[fG];omega),xY (by omega),kY]
  rw[G];simp[g.se,yH];refine s _ _ ?_;simpa[yH,aO]using F
noncomputable def kV(r:aC)(l:List GW):List Bool:=l.map λw=>!decide (w=r.zero)
def Tv(r:aC)(l:List GW)(y:l.length<=1000000)(hs:∀ w∈l,w.sm 1048576):zS 87 [enc r,.sl (ens l)] (.sl (ens (kV r l))):=by
 refine Sp.vz c.nn λ_=>?_;simp[g.nn]
 refine b6 (S:=λk:Nat=>aB [(1,.p (.sl (ens l))),(2,.ptr 2 0 0 0),(5,.own 5 0 0 (kV r (l.take k)).length),(6,.p (.int .i64 k))] [(2,⟨2,[.p (enc r)]⟩),(5,⟨1,aK (kV r (l.take k))⟩)]) (I:=λk=>k<=l.length) (m:=λk=>l.length - k) 0
  (aA.nl 5 77 1 rfl (aA.to [1,2,5,6] [((2,0),2),((77,0),5)] (by simp[aB,kV]))) (by omega) ?_
 rintro k x R i z s;have n:=aZ k;by_cases b:k<l.length
 .have t:=Gm r l[k] (hs _ (bU b));have o:(kV r (l.take k)).length=k:=by simp[kV];omega
  have j:kV r (l.take (k+1))=kV r (l.take k)++[!decide (l[k]=r.zero)]:=by unfold kV;rw[ed b,sS];rfl
  have f:∀ d,aA d (aB [(1,.p (.sl (ens l))),(2,.ptr 2 0 0 0),(5,.own 5 0 0 (kV r (l.take (k+1))).length),(6,.p (.int .i64 (k+1:Nat)))] [(2,⟨2,[.p (enc r)]⟩),(5,⟨1,aK (kV r (l.take (k+1)))⟩)])->R .normal d:=λd h=>i (k+1) d h (by omega) (by omega);rw[j]at f;generalize kV r (l.take k)=A at *
  simp[g.tx,aB,b];refine bK b ?_;generalize l[k]'b=w at *
  refine aW t ?_;generalize decide (w=r.zero)=u at *
  simp[n,eL];refine⟨by omega,f _ (aA.to [1,2,5,6] [((2,0),2),((22,0),5)] ?_)⟩;simp[aB]
 .have:k=l.length:=by omega
  subst this;simp[g.tx,aB];refine s _ _ ?_;simp
def ycu(A B:List Bool)(ps:List (Int × Int))(E:A.length<=100000)(x:B.length=A.length)(hp:ps.length<=100000)(h:∀ p∈ps,(0<=p.1/\p.1<A.length)/\0<=p.2/\p.2<A.length) :
  zS 86 [.sl (ens A),.sl (ens B),.sl (ens ps)] (.sl (ens (fG (iS ps A.length A) (iS (rQ ps) B.length B)))):=by
 have C:=QM A ps E hp h;have D:=QM B (rQ ps) (by omega) (by simp[rQ];omega) λp G=>by obtain⟨q,t,rfl⟩:=cA.1 G;have:=h q t;rw[x];exact⟨this.2,this.1⟩
 have J:(iS ps A.length A).length=A.length:=AI _ _ _;have L:(iS (rQ ps) B.length B).length=A.length:=by rw[AI,x]
 generalize iS ps A.length A=X at *
 generalize iS (rQ ps) B.length B=Y at *
 refine Sp.vz c.nm λ_=>?_;simp[g.nm]
 refine b6 (S:=λk:Nat=>aB [(0,.p (.sl (ens A))),(1,.p (.sl (ens B))),(2,.p (.sl (ens ps))),(7,.own 7 0 0 (rQ (ps.take k)).length),(8,.p (.int .i64 k))] [(7,⟨2,aK (rQ (ps.take k))⟩)]) (I:=λk=>k<=ps.length) (m:=λk=>ps.length - k) 0
  (aA.nl 7 77 2 rfl (aA.to [0,1,2,7,8] [((77,0),7)] (by simp[aB,rQ]))) (by omega) ?_
 rintro k F R n H u;have r:=aZ k;by_cases i:k<ps.length
 .have s:(rQ (ps.take k)).length=k:=by simp[rQ];omega
  have o:rQ (ps.take (k+1))=rQ (ps.take k)++[(ps[k].2,ps[k].1)]:=by unfold rQ;rw[ed i,sS];rfl
  have d:∀ f,aA f (aB [(0,.p (.sl (ens A))),(1,.p (.sl (ens B))),(2,.p (.sl (ens ps))),(7,.own 7 0 0 (rQ (ps.take (k+1))).length),(8,.p (.int .i64 (k+1:Nat)))] [(7,⟨2,aK (rQ (ps.take (k+1)))⟩)])->R .normal f:=λf h=>n (k+1) f h (by omega) (by omega);rw[o]at d;generalize rQ (ps.take k)=T at *
  simp[g.tv,aB,i,r,eL];refine bK i (bK i ?_);generalize ps[k]'i=q at *
  refine⟨by omega,d _ (aA.to [0,1,2,7,8] [((32,0),7)] ?_)⟩;simp[aB]
 .have:k=ps.length:=by omega
  subst this;rw[eZ (dE _)];simp[g.tv,aB];refine u _ _ ?_;simp;refine aW C ?_;simp;refine aW D ?_;simp[aI]
  refine b6 (S:=λk:Nat=>aB [(9,.p (.sl (ens X))),(10,.p (.sl (ens Y))),(11,.own 11 0 0 (fG (X.take k) (Y.take k)).length),(12,.p (.int .i64 k))] [(11,⟨1,aK (fG (X.take k) (Y.take k))⟩)]) (I:=λk=>k<=A.length) (m:=λk=>A.length - k) 0
   (aA.nl 11 77 1 rfl (aA.to [9,10,11,12] [((77,0),11)] (by simp[aB,fG]))) (by omega) ?_
  rintro k F R n H u;have r:=aZ k;by_cases i:k<A.length
  .have j:k<X.length:=by omega
   have l:k<Y.length:=by omega
   have s:(fG (X.take k) (Y.take k)).length=k:=by simp[fG];omega
   have o:fG (X.take (k+1)) (Y.take (k+1))=fG (X.take k) (Y.take k)++[X[k]&&Y[k]]:=by unfold fG;rw[ed j,ed l,List.zipWith_append (by simp;omega)];rfl
   have d:∀ f,aA f (aB [(9,.p (.sl (ens X))),(10,.p (.sl (ens Y))),(11,.own 11 0 0 (fG (X.take (k+1)) (Y.take (k+1))).length),(12,.p (.int .i64 (k+1:Nat)))] [(11,⟨1,aK (fG (X.take (k+1)) (Y.take (k+1)))⟩)])->R .normal f:=λf h=>n (k+1) f h (by omega) (by omega);rw[o]at d;generalize fG (X.take k) (Y.take k)=T at *
   have y:X[k]?=some X[k]:=dO j;have z:Y[k]?=some Y[k]:=dO l;generalize X[k]'j=a at *
   generalize Y[k]'l=b at *
   simp[g.tw,aB,j];refine eD y ?_;cases a with
   | true =>
    simp;refine eD z ?_;simp[r];refine⟨by omega,d _ (aA.to [9,10,11,12] [((57,0),11)] ?_)⟩;simp[aB]
   | false =>
    simp[r,eL];refine⟨by omega,d _ (aA.to [9,10,11,12] [((57,0),11)] ?_)⟩;simp[aB]
  .have:k=A.length:=by omega
   subst this;rw[eZ (by omega),eZ (by omega)];simp[g.tw,aB,J];refine u _ _ ?_;simp
noncomputable def Dx(F:GTrans):List Bool:=fG (iS (nX F.aD) (kV F.ring F.aM).length (kV F.ring F.aM)) (iS (rQ (nX F.aD)) (kV F.ring F.fin).length (kV F.ring F.fin))
def Oq(F:GTrans)(m:List Bool)(N:Nat):GTrans:=⟨F.ring,F.i,F.o,(gI m N:Nat),gD m F.aM,gD m F.fin,nE m F.aD⟩
def zTT:AV:=.agg [.p (.int .i64 0),.nil,.p (.int .i64 0),.p (.int .i64 0),.p (.int .i64 0),.nil,.nil,.nil]
def Br(F:GTrans)(k:Nat):St:=aB [(1,.ptr 1 0 0 0),(2,.ptr 2 0 0 0),(3,.own 3 0 0 (nX (F.aD.take k)).length),(4,.p (.int .i64 k))] [(1,⟨8,[.p (enc F)]⟩),(2,⟨8,[zTT]⟩),(3,⟨2,aK (nX (F.aD.take k))⟩)]
def x9(F:GTrans)(m:List Bool)(N:Nat)(A B:List GW)(D:List Int)(cm k:Nat):St :=
 aB [(1,.ptr 1 0 0 0),(2,.ptr 2 0 0 0),(5,.p (.sl (ens m))),(6,.ptr 6 0 0 0),(7,.own 7 0 0 N),(8,.p (.int .i64 k))]
  [(1,⟨8,[.p (enc F)]⟩),(2,⟨8,[zTT]⟩),(6,⟨8,[.agg [.p (.int .i64 F.ring.kind),.p (.sl (ens F.ring.parts)),.p (.int .i64 F.i),.p (.int .i64 F.o),.p (.int .i64 cm),.own 21 0 0 A.length,.own 22 0 0 B.length,.nil]]⟩),
  (7,⟨1,aK D⟩),(21,⟨8,aK A⟩),(22,⟨8,aK B⟩)]
def x8(F:GTrans)(m:List Bool)(N:Nat)(A B:List GW)(D:List Int)(cm:Nat)(C:List aE)(k:Nat):St :=
 aB [(1,.ptr 1 0 0 0),(2,.ptr 2 0 0 0),(5,.p (.sl (ens m))),(6,.ptr 6 0 0 0),(7,.own 7 0 0 N),(9,.p (.int .i64 k))]
  [(1,⟨8,[.p (enc F)]⟩),(2,⟨8,[zTT]⟩),(6,⟨8,[.agg [.p (.int .i64 F.ring.kind),.p (.sl (ens F.ring.parts)),.p (.int .i64 F.i),.p (.int .i64 F.o),.p (.int .i64 cm),.own 21 0 0 A.length,.own 22 0 0 B.length,.own 23 0 0 C.length]]⟩),
  (7,⟨1,aK D⟩),(21,⟨8,aK A⟩),(22,⟨8,aK B⟩),(23,⟨12,aK C⟩)]
def ygi{F:GTrans}(x:F.aD.length<=100000){Q:Exit->St->Prop}{ks:List Kt}{st:St}(r:aA st (Br F 0))(s:gA P 142 Q (fO 0 ks) 0 (Br F F.aD.length)):vL P 142 Q g.rn ks st:=by
 refine b6 (S:=λk:Nat=>Br F k) (I:=λk=>k<=F.aD.length) (m:=λk=>F.aD.length - k) 0 r (by omega) ?_;rintro k u R j y n;have o:=aZ k;by_cases d:k<F.aD.length
 .have p:(nX (F.aD.take k)).length=k:=by simp[nX];omega
  have l:nX (F.aD.take (k+1))=nX (F.aD.take k)++[(F.aD[k].f,F.aD[k].t)]:=by unfold nX;rw[ed d,sS];rfl
  have b:∀ i,aA i (Br F (k+1))->R .normal i:=λi h=>j (k+1) i h (by omega) (by omega);unfold Br at b ⊢;rw[l]at b;generalize nX (F.aD.take k)=T at *
  simp[g.rn,aB,d,zTT];refine bK d (bK d ?_);generalize F.aD[k]'d=q at *
  simp[o];refine⟨by omega,b _ (aA.to [1,2,3,4] [((1,0),1),((2,0),2),((33,0),3)] ?_)⟩;simp[aB,zTT]
 .have:k=F.aD.length:=by omega
  subst this;simp[g.rn,Br,aB,zTT];refine n _ _ ?_;simpa[Br,aB,zTT]using s
def ygh{F:GTrans}{N:Nat}(Y:N<=100000)(j:F.st=N)(li:F.aM.length=N)(lf:F.fin.length=N){m:List Bool}(O:m.length=N){Q:Exit->St->Prop}{ks:List Kt}{st:St}(C:aA st (x9 F m N [] [] (lu 0 (cW m) 0) 0 0))
  (E:gA P 142 Q (fO 2 ks) 2 (x9 F m N (gD m F.aM) (gD m F.fin) (cW m) (gI m N) N)):vL P 142 Q g.qu ks st:=by
 have J:(cW m).length=N:=by rw[BM,O]
 refine b6 (S:=λk:Nat=>x9 F m N (gD (m.take k) (F.aM.take k)) (gD (m.take k) (F.fin.take k)) (lu 0 (cW m) k) (gI m k) k) (I:=λk=>k<=N) (m:=λk=>N - k) 0 (by simpa[gD,gI]using C) (by omega) ?_;rintro k hk R t H u;have G:=aZ k;by_cases s:k<N
 .have d:∀ n,aA n (x9 F m N (gD (m.take (k+1)) (F.aM.take (k+1))) (gD (m.take (k+1)) (F.fin.take (k+1))) (lu 0 (cW m) (k+1)) (gI m (k+1)) (k+1))->R .normal n:=λn h=>t (k+1) n h (by omega) (by omega);have i:k<m.length:=by omega
  have r:k<F.aM.length:=by omega
  have o:k<F.fin.length:=by omega
  have M:=M7 m k;have L:IntKind.i64.wrap ((gI m k:Int)+1)=((gI m k+1:Nat):Int):=cT;rw[F3 i r,F3 i o,K' i]at d;have W:(gD (m.take k) (F.aM.take k)).length<=100000:=by rw[CM (by simp;omega)];exact dM Jl (by rw[fY];omega)
  have X:(gD (m.take k) (F.fin.take k)).length<=100000:=by rw[CM (by simp;omega)];exact dM Jl (by rw[fY];omega)
  have y:=FM 0 (cW m) (k:=k) (by omega);have f:=FN 0 (cW m) (k:=k) (by omega);have l:=Pg 0 (cW m) (k:=k) (by omega);rw[HW i]at f l;generalize gD (m.take k) (F.aM.take k)=A at *
  generalize gD (m.take k) (F.fin.take k)=B at *
  have x:m[k]?=some m[k]:=dO i;generalize m[k]'i=b at *
  cases b with
  | false =>
   rw[l rfl]at d;simp only[gP,fQ,kY,Bool.toNat_false,uO]at d;clear t u H C E f l;generalize lu 0 (cW m) k=D at *
   generalize gI m k=z at *
   simp[g.qu,x9,aB,j,s,zTT];refine eD x ?_;simp[G];refine d _ (aA.to [1,2,5,6,7,8] [((1,0),1),((2,0),2),((6,0),6),((7,0),7),((21,0),21),((22,0),22)] ?_);simp[x9,aB,zTT,j]
  | true =>
   simp only[cH,Bool.toNat_true]at d f;rw[<- f]at d;clear t u H C E f l;rw[J]at y;generalize lu 0 (cW m) k=D at *
   generalize gI m k=z at *
   simp[g.qu,x9,aB,j,s,zTT];refine eD x ?_;simp[G,L,s,y];refine bK (by omega:k<D.length) (bK r ⟨by omega,bK o ⟨by omega,d _ (aA.to [1,2,5,6,7,8] [((1,0),1),((2,0),2),((6,0),6),((7,0),7),((83,0),21),((92,0),22)] ?_)⟩⟩);rw[CZ D k ((z:Nat):Int) (v:=.p (.int .i64 z)) rfl];generalize D.set k ((z:Nat):Int)=V;generalize F.aM[k]'r=w1 at *
   generalize F.fin[k]'o=w2 at *
   simp[x9,aB,zTT,j]
 .have:k=N:=by omega
  subst this;have U:lu 0 (cW m) k=cW m:=by rw[<- J];exact HU 0 (cW m)
  rw[U,List.take_of_length_le (by omega),List.take_of_length_le (by omega),List.take_of_length_le (by omega)];simp[g.qu,x9,aB,j,zTT];refine u _ _ ?_;simpa[x9,aB,zTT,j]using E
def ygg{F:GTrans}{N:Nat}(hN:N<=100000)(hl:F.aD.length<=3000000){m:List Bool}(X:m.length=N)(W:∀ x∈F.aD,x.fit N){A B:List GW}{cm:Nat}{Q:Exit->St->Prop}{ks:List Kt}{st:St}(J:aA st (x8 F m N A B (cW m) cm [] 0))
  (L:gA P 142 Q (fO 4 ks) 4 (x8 F m N A B (cW m) cm (nE m F.aD) F.aD.length)):vL P 142 Q g.rp ks st:=by
 have lT:(cW m).length=N:=by rw[BM,X]
 refine b6 (S:=λk:Nat=>x8 F m N A B (cW m) cm (nE m (F.aD.take k)) k) (I:=λk=>k<=F.aD.length) (m:=λk=>F.aD.length - k) 0 (by simpa[nE]using J) (by omega) ?_;rintro k hk R p Y r;have s:=aZ k;by_cases d:k<F.aD.length
 .have b:∀ j,aA j (x8 F m N A B (cW m) cm (nE m (F.aD.take (k+1))) (k+1))->R .normal j:=λj h=>p (k+1) j h (by omega) (by omega);have hC:(nE m (F.aD.take k)).length<=3000000:=dM (Sc _ _) (by rw[fY];omega);rw[Tq m d]at b;generalize nE m (F.aD.take k)=C at *
  obtain⟨⟨f0,f1⟩,t0,t1⟩:=W _ (bU d);clear p r Y J L;simp[g.rp,x8,aB,d,zTT];refine bK d ?_;generalize F.aD[k]'d=x at *
  obtain⟨f,l⟩:∃ f:Nat,x.f=(f:Int):=⟨x.f.toNat,by omega⟩;obtain⟨q,n⟩:∃ q:Nat,x.t=(q:Int):=⟨x.t.toNat,by omega⟩;have u:f<N:=by omega
  have y:q<N:=by omega
  have z:m[f]?=some m[f]:=dO (by omega);have E:m[q]?=some m[q]:=dO (by omega);have G:(cW m)[f]?=some (cW m)[f]:=dO (by omega);have H:(cW m)[q]?=some (cW m)[q]:=dO (by omega);have U:x7 m x=(m[f]&&m[q]):=by unfold x7;rw[l,n,kZ,kZ,eV,eV,z,E];rfl
  have V:rX m x=⟨(cW m)[f],x.i,x.o,(cW m)[q],x.w⟩:=by unfold rX;rw[l,n,kZ,kZ,eV,eV,G,H];rfl
  rw[U,V]at b;generalize m[f]=M at *
  generalize m[q]=O at *
  generalize (cW m)[f]=n1 at *
  generalize (cW m)[q]=n2 at *
  generalize cW m=D at *
  rw[l,n];simp;refine eD z ?_;cases M with
  | false =>
   simp only[Bool.false_and,gP,fQ,kY]at b;simp[s];refine b _ (aA.to [1,2,5,6,7,9] [((1,0),1),((2,0),2),((6,0),6),((7,0),7),((21,0),21),((22,0),22),((23,0),23)] ?_);simp[x8,aB,zTT]
  | true =>
   simp;refine eD E ?_;cases O with
   | false =>
    simp only[Bool.and_false,gP,fQ,kY]at b;simp[s];refine b _ (aA.to [1,2,5,6,7,9] [((1,0),1),((2,0),2),((6,0),6),((7,0),7),((21,0),21),((22,0),22),((23,0),23)] ?_);simp[x8,aB,zTT]
   | true =>
    simp only[GU,cH]at b;simp[u,y,lT];refine eD G (eD H ?_);simp[s];refine⟨by omega,b _ (aA.to [1,2,5,6,7,9] [((1,0),1),((2,0),2),((6,0),6),((7,0),7),((21,0),21),((22,0),22),((139,0),23)] ?_)⟩;simp[x8,aB,zTT]
 .have:k=F.aD.length:=by omega
  subst this;rw[List.take_of_length_le (Nat.le_refl _)];simp[g.rp,x8,aB,zTT];refine r _ _ ?_;simpa[x8,aB,zTT]using L
def Xo(Z:GTrans)(N:Nat)(h:N<=100000)(b:Z.st=N)(n:Z.aM.length=N)(l:Z.fin.length=N)(J:Z.aD.length<=100000)(j:∀ x∈Z.aD,x.fit N)(E:∀ w∈Z.aM,w.sm 1048576)(D:∀ w∈Z.fin,w.sm 1048576) :
  zS 36 [enc Z] (enc (Oq Z (Dx Z) N)):=by
 have k:(kV Z.ring Z.aM).length=N:=by simp[kV,n]
 have C:(kV Z.ring Z.fin).length=N:=by simp[kV,l]
 have G:=Tv Z.ring Z.aM (by omega) E;have H:=Tv Z.ring Z.fin (by omega) D;have vb:=ycu (kV Z.ring Z.aM) (kV Z.ring Z.fin) (nX Z.aD) (by omega) (by omega) (by simp[nX];omega) λp u=>by obtain⟨x,y,rfl⟩:=cA.1 u;rw[k];exact j x y
 have f:fG (iS (nX Z.aD) (kV Z.ring Z.aM).length (kV Z.ring Z.aM)) (iS (rQ (nX Z.aD)) (kV Z.ring Z.fin).length (kV Z.ring Z.fin))=Dx Z:=rfl;rw[f]at vb;have d:(Dx Z).length=N:=by unfold Dx fG;rw[List.length_zipWith,AI,AI,k,C];exact Nat.min_self N
 generalize Dx Z=m at *
 generalize kV Z.ring Z.aM=A at *
 generalize kV Z.ring Z.fin=B at *
 clear f;refine Sp.vz c.jg λ_=>?_;simp[g.jg];refine ygi (F:=Z) (by omega) (aA.nl 3 77 2 rfl (aA.to [1,2,3,4] [((1,0),1),((2,0),2),((77,0),3)] ?_)) ?_
 .simp[Br,aB,zTT,nX]
 simp only[Br,aB,zTT,kK];generalize nX Z.aD=L at *
 simp;refine aW G ?_;simp;refine aW H ?_;simp[aI];refine aW vb ?_;simp[aI,b,eL];have z:aK (lu 0 (cW m) 0)=List.replicate N (.p (.int .i64 0)):=by rw[Ii,BM,d,Ja];rfl
 have t:(cW m).length=N:=by rw[BM,d]
 refine⟨by omega,ygh (F:=Z) (N:=N) h b n l d ((aA.b5 (s0:=6) (g0:=0) (i:=5) (s:=77) (sz:=8) rfl).trans ((aA.b5 (s0:=6) (g0:=0) (i:=6) (s:=78) (sz:=8) rfl).trans (aA.to [1,2,5,6,7,8] [((1,0),1),((2,0),2),((6,0),6),((55,0),7),((77,0),21),((78,0),22)] ?_))) ?_⟩
 .simp only[x9,z];simp[aB,zTT,b]
 unfold Oq;generalize gD m Z.aM=o at *
 generalize gD m Z.fin=r at *
 simp[gA,fO,x9,aB,zTT,b];refine ygg (F:=Z) (N:=N) h (by omega) d j (A:=o) (B:=r) (cm:=gI m N) ((aA.b5 (s0:=6) (g0:=0) (i:=7) (s:=77) (sz:=12) rfl).trans (aA.to [1,2,5,6,7,9] [((1,0),1),((2,0),2),((6,0),6),((7,0),7),((21,0),21),((22,0),22),((77,0),23)] ?_)) ?_
 .simp[x8,aB,zTT,b]
 generalize nE m Z.aD=I at *
 simp[gA,fO,x8,aB,zTT]
def Ys{r:aC}(M:cQ r){n:Nat}{l:List aE}(h:∀ x∈l,M.mb n x.w/\x.w.aJ r)(k:Nat)(f:k<=l.length) :
  ∀ x∈nZ aE.key (lE r) id (l.take k),M.mb (kc aE.key (l.take k) x.key+n) x.w/\x.w.aJ r :=
 KD (key:=aE.key) (up:=lE r) (nw:=id) (λ_ _=>rfl) (λ_=>rfl) (Q:=λc x=>M.mb (c+n) x.w/\x.w.aJ r) (λh k=>⟨M.mono h.1 (by omega),h.2⟩) (λx b=>⟨M.mono (h x b).1 (by show n<=0+n;omega),(h x b).2⟩)
  (λc z x b _ d=>⟨by have:=M.plus d.2 (h x b).2 d.1 (M.mono (h x b).1 (by omega));exact M.mono this (by omega),(BU d.2 (h x b).2:(r.plus z.w x.w).aJ r)⟩) k f
def Yf{r:aC}{M:cQ r}(Y:dB M)(l:List aE)(n B:Nat)(hn:B+n<=M.lim)(hB:∀ q,kc aE.key l q<=B)(hl:l.length<=100000)(h:∀ x∈l,M.mb n x.w/\x.w.aJ r) :
  zS 81 [enc r,.sl (ens l)] (.sl (ens (JP r l))):=by
 have X:=Ys M h;have z:∀ k q,kc aE.key (l.take k) q<=B:=λk q=>dM (HT _ _ _) (hB q);have W:=λk (y:k<=l.length)=>KE (key:=aE.key) (up:=lE r) (nw:=id) (λ_ _=>rfl) (λ_=>rfl) l k y;refine Sp.vz c.nh λ_=>?_;simp[g.nh]
 refine b6 (S:=λk:Nat=>aB [(1,.p (.sl (ens l))),(2,.ptr 2 0 0 0),(5,.own 1 0 0 (nZ aE.key (lE r) id (l.take k)).length),(6,.p (.int .i64 k))] [(2,⟨2,[.p (enc r)]⟩),(1,⟨12,aK (nZ aE.key (lE r) id (l.take k))⟩)]) (I:=λk=>k<=l.length) (m:=λk=>l.length - k) 0
  (aA.nl 5 77 12 rfl (aA.to [1,2,5,6] [((2,0),2),((77,0),1)] (by simp[nZ]))) (by omega) ?_
 rintro k h1 R b hr J;have N:=aZ k;have al:=W k h1;have G:=X k h1;generalize Q:nZ aE.key (lE r) id (l.take k)=O at *
 by_cases y:k<l.length
 .have E:=h _ (bU y);have d:=Gt (key:=aE.key) (up:=lE r) (nw:=id) y;rw[Q]at d;simp[g.tr,aB,y];refine bK y ?_
  try simp
  generalize l[k]=x at *
  refine aW (lQ r x.w ((Y.pr (n:=n) (by omega) E.2 E.1).mono (by omega))) ?_;rw[Fv E.2];simp
  refine b6 (S:=λi:Nat=>aB [(1,.p (.sl (ens l))),(2,.ptr 2 0 0 0),(5,.own 1 0 0 O.length),(6,.p (.int .i64 k)),(7,.ptr 3 0 0 0),(8,.p (.int .i64 i))] [(2,⟨2,[.p (enc r)]⟩),(1,⟨12,aK O⟩),(3,⟨12,[.p (enc x)]⟩)]) (I:=λi=>i<=O.length/\∀ j,(f:j<O.length)->j<i->O[j].key<x.key) (m:=λi=>O.length - i) 0
   (aA.to [1,2,5,6,7,8] [((2,0),2),((1,0),1),((7,0),3)] (by simp)) ⟨by omega,λj _ f=>by omega⟩ ?_
  rintro i ⟨j1,L⟩ R2 V ag F;have H:=aZ i;by_cases o:i<O.length
  .simp[g.tq,aB,o];refine bK o ?_;refine aW (QB O[i] x) ?_;have D:eW O[i].key x.key<0 ↔ O[i].key<x.key:=CG (by simp[aE.key]);have A:eW O[i].key x.key=0 ↔ O[i].key=x.key:=CF (by simp[aE.key]);simp;refine⟨λh8=>?_,λh8=>F _ _ ?_⟩
   .rw[H];refine V (i+1) _ (aA.to [1,2,5,6,7,8] [((2,0),2),((1,0),1),((3,0),3)] (by simp[aB])) ⟨by omega,λj f s=>?_⟩ (by omega);by_cases U:j<i
    .exact L j f U
    .have:j=i:=by omega
     subst this;exact D.1 h8
   .simp[o];refine bK o ?_;refine aW (QB O[i] x) ?_;simp;refine⟨λs=>?_,λs=>?_⟩
    .rw[R' o L (A.1 s)]at d;have u:=G _ (bU o);refine⟨o,bK o ?_⟩;refine aW (M.plusS (n:=kc aE.key (l.take k) O[i].key+n) (by have:=z k O[i].key;omega) u.2 E.2 u.1 (M.mono E.1 (by omega))) ?_;simp[N,o];refine bK o ?_;refine b (k+1) _ (aA.to [1,2,5,6] [((2,0),2),((1,0),1)] ?_) (by omega) (by omega);rw[d];simp[aB,lE]
    .rw[Tk o L (λh=>by have:=D.2 h;omega) (λh=>s (A.2 h))]at d;have ad:O.length<=100000:=by omega
     have hm:min i O.length=i:=by omega
     rw[hm];refine⟨by omega,⟨by omega,by omega⟩,by omega,by omega,⟨by omega,by omega⟩,?_⟩;rw[N];have C:i+1+(O.length - i)=O.length+1:=by omega
     refine b (k+1) _ (aA.to [1,2,5,6] [((2,0),2),((77,0),1)] ?_) (by omega) (by omega);rw[d];simp[aB,C];exact⟨by omega,by rw[eZ (by simp)]⟩
  .have:i=O.length:=by omega
   subst this;rw[Ti λj f=>L j f f]at d;simp[g.tq,aB];refine F _ _ ?_;simp;rw[N];refine⟨by omega,by omega,b (k+1) _ (aA.to [1,2,5,6] [((2,0),2),((77,0),1)] ?_) (by omega) (by omega)⟩;rw[d];simp[aB]
 .have:k=l.length:=by omega
  subst this;rw[eZ (dE _)]at Q;have hf:JP r l=O.filter λx=>!decide (x.w=r.zero):=by rw[<- Q];rfl
  simp[g.tr,aB];refine J _ _ ?_;simp;rw[hf];clear J hr b
  refine b6 (S:=λj:Nat=>aB [(2,.ptr 2 0 0 0),(5,.own 1 0 0 O.length),(9,.own 3 0 0 ((O.take j).filter λx=>!decide (x.w=r.zero)).length),(10,.p (.int .i64 j))] [(2,⟨2,[.p (enc r)]⟩),(1,⟨12,aK O⟩),(3,⟨12,aK ((O.take j).filter λx=>!decide (x.w=r.zero))⟩)]) (I:=λj=>j<=O.length) (m:=λj=>O.length - j) 0
   (aA.nl 9 78 12 rfl (aA.to [2,5,9,10] [((2,0),2),((1,0),1),((78,0),3)] (by simp))) (by omega) ?_
  rintro j j1 R b hr J;have H:=aZ j;by_cases f:j<O.length
  .have af:((O.take j).filter λx=>!decide (x.w=r.zero)).length<=j:=dM (kB _ _) (by rw[fY];omega);have t:(O.take (j+1)).filter (λx=>!decide (x.w=r.zero))=(O.take j).filter (λx=>!decide (x.w=r.zero))++if O[j].w=r.zero then[]else[O[j]]:=by rw[ed f,tW];by_cases u:O[j].w=r.zero<;>simp[u]
   generalize hT:(O.take j).filter (λx=>!decide (x.w=r.zero))=T at *
   have u:=G _ (bU f);simp[g.tt,aB,f];refine bK f ?_;refine aW (Gm r O[j].w ((Y.pr (n:=kc aE.key (l.take l.length) O[j].key+n) (by have:=z l.length O[j].key;omega) u.2 u.1).mono (by omega))) ?_;by_cases s:O[j].w=r.zero
   .rw[decide_eq_true s];simp[H];rw[aX s]at t;refine b (j+1) _ (aA.to [2,5,9,10] [((2,0),2),((1,0),1),((3,0),3)] ?_) (by omega) (by omega);rw[t];simp[aB]
   .rw[decide_eq_false s];simp[f];rw[bD s]at t;refine bK f ?_;rw[H];refine⟨by omega,b (j+1) _ (aA.to [2,5,9,10] [((2,0),2),((1,0),1),((98,0),3)] ?_) (by omega) (by omega)⟩;rw[t];simp[aB]
  .have:j=O.length:=by omega
   subst this;simp[g.tt,aB];refine J _ _ ?_;simp
def Qx(a:GTrans){M:cQ a.ring}(h:dB M)(n B:Nat)(hn:B+n<=M.lim)(C:∀ q,kc aE.key a.aD q<=B)(G:a.aD.length<=100000)(F:∀ w∈a.aM,M.mb n w)(E:∀ w∈a.fin,M.mb n w)(D:∀ x∈a.aD,M.mb n x.w)(hp:a.ring.parts.length<=1000000)(hs:a.st<=1000000)(Q:(a.aM.length:Int)=a.st)(O:(a.fin.length:Int)=a.st)
  (ci:∀ w∈a.aM,w.aJ a.ring) (cf:∀ w∈a.fin,w.aJ a.ring) (z:∀ x∈a.aD,x.w.aJ a.ring) :
  zS 30 [enc a] (enc a.nf):=by
 have y:=Yf h a.aD n B hn C G λx f=>⟨D x f,z x f⟩;rw[Yt]at y;have r:a.fin.length=a.aM.length:=by omega
 refine Sp.vz c.ar λ_=>?_;simp[g.ar];refine⟨by omega,?_⟩;refine aW y ?_;simp
 refine b6 (S:=λk:Nat=>aB [(1,.ptr 1 0 0 0),(2,.ptr 2 0 0 0),(3,.ptr 3 0 0 0),(4,.p (.int .i64 k))]
   [(1,⟨8,[.p (enc a)]⟩),(2,⟨8,[.agg [.p (.int .i64 0),.nil,.p (.int .i64 0),.p (.int .i64 0),.p (.int .i64 0),.nil,.nil,.nil]]⟩),
    (3,⟨8,[.agg [.p (.int .i64 a.ring.kind),.own 6 0 0 a.ring.parts.length,.p (.int .i64 a.i),.p (.int .i64 a.o),.p (.int .i64 a.st),.own 4 0 0 k,.own 5 0 0 k,.p (.sl (ens (cV a.ring a.aD)))]]⟩),(4,⟨8,aK (a.aM.take k)⟩),(5,⟨8,aK (a.fin.take k)⟩),(6,⟨1,aK a.ring.parts⟩)])
  (I:=λk=>k<=a.aM.length) (m:=λk=>a.aM.length - k) 0
  ((aA.b5 (s0:=3) (g0:=0) (i:=5) (s:=77) (sz:=8) rfl).trans ((aA.b5 (s0:=3) (g0:=0) (i:=6) (s:=78) (sz:=8) rfl).trans (aA.to [1,2,3,4] [((1,0),1),((2,0),2),((3,0),3),((77,0),4),((78,0),5),((11,0),6)] (by simp)))) (by omega) ?_
 rintro k L R l N f;have A:=aZ k;by_cases j:k<a.aM.length
 .have b:k<a.fin.length:=by omega
  have d:(k:Int)<a.st:=by omega
  simp[g.tg,aB,d];refine bK j ?_
  try simp
  have t:=bU j;have u:=bU b;refine aW (lQ a.ring a.aM[k] ((h.pr (n:=n) (by omega) (ci _ t) (F _ t)).mono (by omega))) ?_;rw[Fv (ci _ t)];simp;refine⟨⟨by omega,by omega⟩,bK b ?_⟩;refine aW (lQ a.ring a.fin[k] ((h.pr (n:=n) (by omega) (cf _ u) (E _ u)).mono (by omega))) ?_;rw[Fv (cf _ u)];have H:aK (a.aM.take (k+1))=aK (a.aM.take k)++[.p (enc a.aM[k])]:=by rw[ed j,sR];rfl
  have J:aK (a.fin.take (k+1))=aK (a.fin.take k)++[.p (enc a.fin[k])]:=by rw[ed b,sR];rfl
  simp[A];refine⟨⟨by omega,by omega⟩,l (k+1) _ (aA.to [1,2,3,4] [((1,0),1),((2,0),2),((3,0),3),((42,0),4),((54,0),5),((6,0),6)] ?_) (by omega) (by omega)⟩;simp[aB,H,J]
 .have:k=a.aM.length:=by omega
  subst this;have d:¬ (a.aM.length:Int)<a.st:=by omega
  simp[g.tg,aB,d];refine f _ _ ?_;simp[GTrans.nf,r];rw[eZ (by rw[fY];exact Nat.min_le_left _ _),eZ (by omega)]
def zB(t u:GTrans)(L:List aH)(k j:Nat):St :=
 aB [(2,.ptr 2 0 0 0),(3,.ptr 3 0 0 0),(4,.ptr 4 0 0 0),(7,.ptr 7 0 0 0),(8,.own 8 0 0 L.length),(9,.p (.int .i64 k)),(10,.p (.int .i64 j))]
  [(2,⟨8,[.p (enc t)]⟩),(3,⟨8,[.p (enc u)]⟩),(4,⟨8,[zTT]⟩),(7,⟨2,[.p (enc t.ring)]⟩),(8,⟨3,aK L⟩)]
def AA(t u:GTrans)(L:List aH)(k:Nat):St :=
 aB [(2,.ptr 2 0 0 0),(3,.ptr 3 0 0 0),(4,.ptr 4 0 0 0),(7,.ptr 7 0 0 0),(8,.own 8 0 0 L.length),(9,.p (.int .i64 k))]
  [(2,⟨8,[.p (enc t)]⟩),(3,⟨8,[.p (enc u)]⟩),(4,⟨8,[zTT]⟩),(7,⟨2,[.p (enc t.ring)]⟩),(8,⟨3,aK L⟩)]
def OO(t u:GTrans)(L:List aH)(k j:Nat):rC t u L k (j+1)=Cn t u k (rC t u L k j) j:=by simp[rC,B7]
def ON(t u:GTrans)(b:Nat)(L:List aH)(k:Nat):lP t u b L (k+1)=rC t u (lP t u b L k) k b:=by simp[lP,B7]
theorem KQ(t u:GTrans)(L:List aH)(k:Nat):∀ j,(rC t u L k j).length<=L.length+j
 | 0=>by simp[rC]
 | j+1=>by
  rw[OO];have:=KQ t u L k j;unfold Cn;split
  .omega
  .simp;omega
theorem SJ(t u:GTrans)(b:Nat):∀ k,(lP t u b [] k).length<=k*b
 | 0=>by simp[lP]
 | k+1=>by rw[ON,Ah];have:=SJ t u b k;have:=KQ t u (lP t u b [] k) k b;omega
def yai{t u:GTrans}{M:cQ t.ring}(J:dB M){n f:Nat}(hn:n+n+1<=M.lim)(N:∀ w∈t.aM,w.aJ t.ring/\M.mb n w)(U:∀ w∈u.aM,w.aJ t.ring/\M.mb n w)(V:u.aM.length=f)(d:u.st=f)(hb:f<=1000)
  {L:List aH} (hL:L.length<=1000000) {k:Nat} (z:k<t.aM.length) {Q:Exit->St->Prop} {ks:List Kt} {st:St} (X:aA st (zB t u L k 0))
  (Y:gA P 213 Q (fO 2 ks) 2 (zB t u (rC t u L k f) k f)):vL P 213 Q g.rb ks st:=by
 refine b6 (S:=λj:Nat=>zB t u (rC t u L k j) k j) (I:=λj=>j<=f) (m:=λj=>f - j) 0 X (by omega) ?_;rintro j hj R o W p;have D:=aZ j;by_cases A:j<f
 .have l:j<u.aM.length:=by omega
  have b:∀ i,aA i (zB t u (Cn t u k (rC t u L k j) j) k (j+1))->R .normal i:=λi h=>o (j+1) i (by rw[OO];exact h) (by omega) (by omega);have F:=KQ t u L k j;generalize rC t u L k j=O at *
  obtain⟨s,G⟩:=N _ (bU z);obtain⟨x,H⟩:=U _ (bU l);have C:=M.timesS (show n<=M.lim by omega) s x G H;have B:=J.pr hn (Eu s x) (M.times s x G H);have y:=Gm t.ring (t.ring.times t.aM[k] u.aM[j]) (B.mono (by omega));have E:Cn t u k O j=if t.ring.times t.aM[k] u.aM[j]=t.ring.zero then O else O++[⟨k,j,0⟩]:=by unfold Cn;rw[eV,eV,dO z,dO l];rfl
  rw[E]at b;clear E o p W;generalize t.ring.times t.aM[k] u.aM[j]=w at *
  simp[g.rb,zB,aB,d,A,zTT];refine bK z (bK l ?_);refine aW C ?_;simp;refine aW y ?_;by_cases r:w=t.ring.zero
  .rw[decide_eq_true r];rw[aX r]at b;simp[D];refine b _ (aA.to [2,3,4,7,8,9,10] [((2,0),2),((3,0),3),((4,0),4),((7,0),7),((8,0),8)] ?_);simp[zB,aB,zTT,d]
  .rw[decide_eq_false r];rw[bD r]at b;simp[D,eL];refine⟨by omega,b _ (aA.to [2,3,4,7,8,9,10] [((2,0),2),((3,0),3),((4,0),4),((7,0),7),((62,0),8)] ?_)⟩;simp[zB,aB,zTT,d]
 .have:j=f:=by omega
  subst this;simp[g.rb,zB,aB,d,zTT];refine p _ _ ?_;simpa[zB,aB,zTT,d]using Y
def yah{t u:GTrans}{M:cQ t.ring}(C:dB M){n f d:Nat}(hn:n+n+1<=M.lim)(E:∀ w∈t.aM,w.aJ t.ring/\M.mb n w)(F:∀ w∈u.aM,w.aJ t.ring/\M.mb n w)(H:t.aM.length=f)(b:t.st=f)(s:u.aM.length=d)(x:u.st=d)(U:f<=100)(A:d<=1000)
  {Q:Exit->St->Prop} {ks:List Kt} {st:St} (y:aA st (AA t u [] 0))
  (z:gA P 213 Q (fO 0 ks) 0 (AA t u (lP t u d [] f) f)):vL P 213 Q g.rd ks st:=by
 refine b6 (S:=λk:Nat=>AA t u (lP t u d [] k) k) (I:=λk=>k<=f) (m:=λk=>f - k) 0 y (by omega) ?_;rintro k V R o J p;have D:=aZ k;by_cases r:k<f
 .have l:∀ i,aA i (AA t u (rC t u (lP t u d [] k) k d) (k+1))->R .normal i:=λi h=>o (k+1) i (by rw[ON];exact h) (by omega) (by omega);have B:=SJ t u d k;have G:k*d<=100*1000:=mT (by omega) A;generalize lP t u d [] k=O at *
  have j:=λQ ks st y z=>yai C hn E F s x A (L:=O) (by omega) (k:=k) (by omega) (Q:=Q) (ks:=ks) (st:=st) y z;clear o p J;simp[g.rd,AA,aB,b,r,zTT];refine j _ _ _ (aA.to [2,3,4,7,8,9,10] [((2,0),2),((3,0),3),((4,0),4),((7,0),7),((8,0),8)] ?_) ?_
  .simp[zB,aB,zTT,b]
  generalize rC t u O k d=N at *
  simp[gA,fO,zB,aB,zTT,D,b];refine l _ (aA.to [2,3,4,7,8,9] [((2,0),2),((3,0),3),((4,0),4),((7,0),7),((8,0),8)] ?_);simp[AA,aB,zTT,b]
 .have:k=f:=by omega
  subst this;simp[g.rd,AA,aB,b,zTT];refine p _ _ ?_;simpa[AA,aB,zTT,b]using z
end Go.Ab
namespace Go.Ab
def Sb(a:List Int):¬ a<a:=pU a
def ybj{a b:List Int}(h:a<b):¬ b<a:=λk=>pU a (Ca h k)
theorem P0{α : Type}{key : α -> List Int}:∀ {a b:List α},eH key a->eH key b->(∀ x,x∈a ↔ x∈b)->a=b
 | [],[],_,_,_=>rfl
 | [],y::b,_,_,h=>absurd ((h y).2 (by simp)) (by simp)
 | x::a,[],_,_,h=>absurd ((h x).1 (by simp)) (by simp)
 | x::a,y::b,n,o,h=>by
  obtain⟨j,l⟩:=mS.1 n;obtain⟨k,m⟩:=mS.1 o;have e:x=y:=by
   obtain d|d:=cI.1 ((h x).1 (by simp))
   .exact d
   .obtain i|i:=cI.1 ((h y).2 (by simp))
    .exact i.symm
    .exact absurd (k _ d) (ybj (j _ i))
  subst e;rw[P0 l m λz=>?_];constructor
  .intro f;obtain rfl|d:=cI.1 ((h z).1 (by simp[f]))
   .exact absurd (j _ f) (Sb _)
   .exact d
  .intro f;obtain rfl|d:=cI.1 ((h z).2 (by simp[f]))
   .exact absurd (k _ f) (Sb _)
   .exact d
theorem Pz{α : Type}{key : α -> List Int}{x : α}:∀ {s:List α},eH key s->(∀ y∈s,key y≠key x)->eH key (eJ key s x)
 | [],_,_=>List.pairwise_singleton _ _
 | z::r,h,i=>by
  obtain⟨f,j⟩:=mS.1 h;unfold eJ;split
  .rename_i b;refine mS.2 ⟨λy d=>?_,h⟩;obtain rfl|d:=cI.1 d
   .exact b
   .exact Ca b (f _ d)
  .rename_i b;refine mS.2 ⟨λy d=>?_,Pz j λy d=>i y (by simp[d])⟩;obtain rfl|d:=LJ.1 d
   .obtain h|h|h:=BO (key z) (key y)
    .exact h
    .exact absurd h (i z (by simp))
    .exact absurd h b
   .exact f _ d
def Lw(L:List aH)(all:List kH):eH aH.key (uq L all)/\∀ x,x∈uq L all ↔ (∃ r∈all,r.m.t=x)/\x∉L:=by
 have:∀ (all:List kH) (b:List aH),eH aH.key b->eH aH.key (all.foldl (λd x=>x4 L d x.m.t) b)/\∀ x,x∈all.foldl (λd x=>x4 L d x.m.t) b ↔ x∈b\/(∃ r∈all,r.m.t=x)/\x∉L:=by
  intro all
  induction all with
  | nil=>intro b h;exact⟨h,λx=>by simp⟩
  | cons r all s =>
   intro b h;have l:eH aH.key (x4 L b r.m.t):=by
    unfold x4;split
    .exact h
    .rename_i f;refine Pz h λy n e=>f (.inr ?_);rw[<- K7.2 e];exact n
   obtain⟨o,p⟩:=s _ l;refine⟨o,λx=>(p x).trans ?_⟩;have k:x∈x4 L b r.m.t ↔ x∈b\/(x=r.m.t/\x∉L):=by
    unfold x4;split
    .rename_i f;constructor
     .exact .inl
     .rintro(h|⟨rfl,h⟩)
      .exact h
      .exact f.resolve_left h
    .rename_i f;rw[LJ];constructor
     .rintro(rfl|h)
      .exact .inr ⟨rfl,λh=>f (.inl h)⟩
      .exact .inl h
     .rintro(h|⟨rfl,_⟩)
      .exact .inr h
      .exact .inl rfl
   rw[k];constructor
   .rintro((h|⟨rfl,h⟩)|⟨⟨q,hq,rfl⟩,h⟩)
    .exact .inl h
    .exact .inr ⟨⟨r,by simp,rfl⟩,h⟩
    .exact .inr ⟨⟨q,by simp[hq],rfl⟩,h⟩
   .rintro(h|⟨⟨q,hq,rfl⟩,h⟩)
    .exact .inl (.inl h)
    .obtain rfl|hq:=cI.1 hq
     .exact .inl (.inr ⟨rfl,h⟩)
     .exact .inr ⟨⟨q,hq,rfl⟩,h⟩
 obtain⟨i,j⟩:=this all [] List.Pairwise.nil;exact⟨i,λx=>(j x).trans (by simp)⟩
theorem WT{L:List aH}:∀ (ms:List eS),jQ eS.key ms->∃ N,ms.foldl (λL m=>dZ L m.t) L=L++N/\eH aH.key N/\∀ x,x∈N ↔ (∃ m∈ms,m.t=x)/\x∉L:=by
 intro ms;generalize f:ms.length=n
 induction n generalizing ms with
 | zero =>
  intro _;rw[q9 f];exact⟨[],by simp,List.Pairwise.nil,λx=>by simp⟩
 | succ n s =>
  intro r;obtain rfl|⟨ms,m,rfl⟩:=B' ms
  .simp at f
  rw[xV]at *
  obtain⟨i,_,j⟩:=List.pairwise_append.1 r;obtain⟨N,e,k,d⟩:=s ms (by simpa using f) i;rw[List.foldl_append,e];simp only[List.foldl_cons,List.foldl_nil];by_cases b:m.t∈L++N
  .refine⟨N,aX b,k,λx=>(d x).trans ?_⟩;constructor
   .rintro⟨⟨q,hq,rfl⟩,h⟩;exact⟨⟨q,by simp[hq],rfl⟩,h⟩
   .rintro⟨⟨q,hq,rfl⟩,h⟩;obtain hq|hq:=dN.1 hq
    .exact⟨⟨q,hq,rfl⟩,h⟩
    .rw[iT]at hq;subst hq;exact(d _).1 ((dN.1 b).resolve_left h)
  .refine⟨N++[m.t],?_,?_,λx=>?_⟩
   .rw[dZ,bD b,sI]
   .refine tY.2 ⟨k,List.pairwise_singleton _ _,λy l z o=>?_⟩;rw[iT]at o;subst o;obtain⟨⟨q,hq,rfl⟩,_⟩:=(d y).1 l;have p:¬ m.t.key<q.t.key:=j q hq m (by simp);obtain h|h|h:=BO q.t.key m.t.key
    .exact h
    .rw[<- K7.2 h]at b;exact absurd (List.mem_append_right L l) b
    .exact absurd h p
   .rw[dN,d,iT];constructor
    .rintro(⟨⟨q,hq,rfl⟩,h⟩|rfl)
     .exact⟨⟨q,by simp[hq],rfl⟩,h⟩
     .exact⟨⟨m,by simp,rfl⟩,λh=>b (Cf _ h)⟩
    .rintro⟨⟨q,hq,rfl⟩,h⟩;obtain hq|hq:=dN.1 hq
     .exact .inl ⟨⟨q,hq,rfl⟩,h⟩
     .rw[iT]at hq;subst hq;exact .inr rfl
theorem Th{x:aH}:∀ {A:List aH} (B:List aH) {i:Nat},x∈A->iE x (A++B) i=iE x A i
 | y::A,B,i,h=>by
  simp only[xX,iE];split
  .rfl
  .rename_i b;exact Th B ((cI.1 h).resolve_left b)
def Uf{x:aH}{L:List aH}(h:x∈L):oN x L=(mA x L:Nat):=by unfold oN;rw[KT h]
theorem SO(s:Nat)(ms:List eS):∀ X:List aH × List aE,(iY s X ms).1=ms.foldl (λL m=>dZ L m.t) X.1:=by
 induction ms with
 | nil=>intro X;rfl
 | cons m ms b=>intro X;exact b _
theorem S8:∀ (ms:List eS) (L:List aH),∃ N,ms.foldl (λL m=>dZ L m.t) L=L++N/\∀ m∈ms,m.t∈L++N
 | [],L=>⟨[],by simp,by simp⟩
 | m::ms,L=>by
  obtain⟨N,e,h⟩:=S8 ms (dZ L m.t);obtain⟨b,f⟩:∃ b,dZ L m.t=L++b:=by
   unfold dZ;split
   .exact⟨[],by simp⟩
   .exact⟨_,rfl⟩
  have d:=H4 L m.t;refine⟨b++N,?_,?_⟩
  .show ms.foldl _ (dZ L m.t)=_;rw[e,f,sI]
  .intro q hq;rw[<- List.append_assoc,<- f];obtain rfl|hq:=cI.1 hq
   .exact Cf _ d
   .exact h q hq
theorem ye0(s:Nat)(ms:List eS):∀ X:List aH × List aE,(iY s X ms).2=X.2++ms.map λm=>⟨s,m.i,m.o,oN m.t (iY s X ms).1,m.w⟩:=by
 induction ms with
 | nil=>intro X;simp[iY]
 | cons m ms h =>
  intro X;have e:=h (vP s X m);show(iY s (vP s X m) ms).2=X.2++(m::ms).map λq=>⟨s,q.i,q.o,oN q.t (iY s (vP s X m) ms).1,q.w⟩;rw[e,jH];obtain⟨N,b,_⟩:=S8 ms (dZ X.1 m.t);have d:(iY s (vP s X m) ms).1=dZ X.1 m.t++N:=by rw[SO];exact b
  have f:oN m.t (iY s (vP s X m) ms).1=(mA m.t (dZ X.1 m.t):Nat):=by rw[d,Uf (Cf _ (H4 _ _))];unfold mA;rw[Th N (H4 _ _)]
  rw[f];simp[vP]
theorem IM{α β : Type}{f g : α -> List β}:∀ {l:List α},(∀ x∈l,f x=g x)->l.flatMap f=l.flatMap g
 | [],_=>rfl
 | x::l,h=>by rw[jG,jG,h x (by simp),IM λy b=>h y (by simp[b])]
theorem IN{α β : Type}(p : α -> Bool)(f : α -> List β):∀ l:List α,(l.filter p).flatMap f=l.flatMap λx=>if p x=true then f x else[]
 | []=>rfl
 | x::l=>by rw[jG,<- IN p f l,EV];split<;>simp
theorem Za{t u:GTrans}(n:∀ x∈t.aD,0<=x.o/\x.w≠t.ring.zero)(hu:∀ y∈u.aD,y.w≠t.ring.zero)(a:aH):qT t u a=(sK t u a).map kH.mk:=by
 unfold qT sK tL mE;rw[tW,sS,IN,IN,List.filter_flatMap,List.filter_flatMap,List.map_flatMap,List.map_flatMap]
 congr 1
 .refine IM λx r=>?_;obtain⟨s,l⟩:=n x r;unfold sJ;by_cases k:x.f=a.p
  .rw[aX k,aX (by simp[k])];unfold qP mE;rw[tW,sS,IN,List.filter_flatMap,List.map_flatMap]
   congr 1
   .unfold Dq wW;split
    .simp[l]
    .rfl
   .refine IM λy m=>?_;unfold sY;by_cases d:y.f=a.q
    .rw[aX (show decide (y.f=a.q)=true by simp[d])];unfold pZ;by_cases b:x.o=y.i/\(x.o≠0\/a.f=0)
     .rw[aX b];by_cases j:t.ring.times x.w y.w=t.ring.zero
      .rw[bD λh=>h.2.2.2 j];simp[j]
      .rw[aX ⟨d,b.1,b.2.imp (λh=>by omega) id,j⟩];simp[j]
     .rw[bD b,bD λh=>b ⟨h.2.1,h.2.2.1.imp (λh=>by omega) id⟩];rfl
    .rw[bD λh=>d h.1,bD (by simp[d])];rfl
  .rw[bD k,bD (by simp[k])];rfl
 .refine IM λy m=>?_;have l:=hu y m;unfold uR rD;by_cases d:y.f=a.q
  .rw[aX (show decide (y.f=a.q)=true by simp[d])];by_cases b:y.i=0/\a.f≠1
   .rw[aX b,aX ⟨d,b⟩];simp[l]
   .rw[bD b,bD λh=>b h.2];rfl
  .rw[bD λh=>d h.1,bD (by simp[d])];rfl
def yel{t u:GTrans}(h:∀ a,qT t u a=(sK t u a).map kH.mk)(s:Nat){X X':List aH × List aE}(j:X.1=X'.1)(k:X.2.Perm X'.2) :
  (vY t u s X).1=(zJ t u s X').1/\(vY t u s X).2.Perm (zJ t u s X').2:=by
 obtain⟨L,K⟩:=X;obtain⟨D,C⟩:=X';simp only at j k;subst j;unfold vY zJ;simp only;rw[h];generalize sK t u (L.getD s ⟨0,0,0⟩)=b;have i:(bW eS.key b).Perm b:=F6 b;have z:jQ eS.key (bW eS.key b):=(gB b).1;obtain⟨N,l,n,o⟩:=WT (L:=L) (bW eS.key b) z;obtain⟨A,B⟩:=Lw L (b.map kH.mk);have p:N=uq L (b.map kH.mk):=P0 n A λx=>by
  rw[o,B];constructor
  .rintro⟨⟨m,f,rfl⟩,h⟩;exact⟨⟨⟨m⟩,cA.2 ⟨m,i.mem_iff.1 f,rfl⟩,rfl⟩,h⟩
  .rintro⟨⟨r,y,rfl⟩,h⟩;obtain⟨m,f,rfl⟩:=cA.1 y;exact⟨⟨m,i.mem_iff.2 f,rfl⟩,h⟩
 have d:(iY s (L,K) (bW eS.key b)).1=L++uq L (b.map kH.mk):=by rw[SO];exact l.trans (by rw[p])
 refine⟨d,?_⟩;rw[ye0,d,yG];exact k.append (i.map _)
theorem UA{t u:GTrans}(h:∀ a,qT t u a=(sK t u a).map kH.mk){X X':List aH × List aE}(d:X.1=X'.1)(f:X.2.Perm X'.2):∀ s,(dL t u X s).1=(dF t u X' s).1/\(dL t u X s).2.Perm (dF t u X' s).2
 | 0=>⟨d,f⟩
 | s+1=>by
  obtain⟨b,i⟩:=UA h d f s;simp only[dL,dF];rw[<- b];split
  .exact yel h s b i
  .exact⟨b,i⟩
theorem Uw{t u:GTrans}{L:List aH}{k:Nat}(f:∀ y∈L,y.p<k):∀ j,qR t u L k j=rC t u L k j/\∀ y∈rC t u L k j,y.p<k\/(y.p=k/\y.q<j)
 | 0=>⟨rfl,λy b=>.inl (f y b)⟩
 | j+1=>by
  obtain⟨i,d⟩:=Uw f j;have e:rC t u L k (j+1)=Cn t u k (rC t u L k j) j:=by simp[rC,B7]
  rw[Lp,e,i];unfold Hq Cn;split
  .exact⟨rfl,λy b=>by obtain h|h:=d y b<;>omega⟩
  .have m:(⟨k,j,0⟩:aH)∉rC t u L k j:=λl=>by obtain h|⟨_,h⟩:=d _ l<;>simp at h
   refine⟨bD m,λy b=>?_⟩;obtain b|b:=dN.1 b
   .obtain h|h:=d y b<;>omega
   .rw[iT]at b;subst b;refine .inr ⟨rfl,?_⟩;simp only;omega
theorem Uv(t u:GTrans):∀ k,jM t u [] k=lP t u u.aM.length [] k/\∀ y∈lP t u u.aM.length [] k,y.p<k
 | 0=>⟨rfl,λy b=>by cases b⟩
 | k+1=>by
  obtain⟨d,f⟩:=Uv t u k;have e:lP t u u.aM.length [] (k+1)=rC t u (lP t u u.aM.length [] k) k u.aM.length:=by simp[lP,B7]
  rw[Lo,e,d];obtain⟨i,j⟩:=Uw (t:=t) (u:=u) f u.aM.length;exact⟨i,λy b=>by obtain h|h:=j y b<;>omega⟩
end Go.Ab
namespace Go.Ab
open Enc (enc)
attribute [local simp] iJ bP.aY
def gR(t u:GTrans)(st:Nat)(d b f:AV):AV:=.agg [.p (.int .i64 t.ring.kind),.p (.sl (ens t.ring.parts)),.p (.int .i64 t.i),.p (.int .i64 u.o),.p (.int .i64 st),d,b,f]
def Ay(t u:GTrans)(L:List aH)(K:List aE)(s:Nat):St :=
 aB [(2,.ptr 2 0 0 0),(3,.ptr 3 0 0 0),(4,.ptr 4 0 0 0),(7,.ptr 7 0 0 0),(8,.own 8 0 0 L.length),(11,.ptr 11 0 0 0),(12,.p (.int .i64 s))]
  [(2,⟨8,[.p (enc t)]⟩),(3,⟨8,[.p (enc u)]⟩),(4,⟨8,[zTT]⟩),(7,⟨2,[.p (enc t.ring)]⟩),(8,⟨3,aK L⟩),(11,⟨8,[gR t u 0 .nil .nil (.own 31 0 0 K.length)]⟩),(31,⟨12,aK K⟩)]
def Az(t u:GTrans)(L:List aH)(K:List aE)(s:Nat)(all:List kH)(k:Nat):St :=
 aB [(2,.ptr 2 0 0 0),(3,.ptr 3 0 0 0),(4,.ptr 4 0 0 0),(7,.ptr 7 0 0 0),(8,.own 8 0 0 L.length),(11,.ptr 11 0 0 0),(12,.p (.int .i64 s)),(13,.p (.sl (ens all))),(14,.p (.int .i64 k))]
  [(2,⟨8,[.p (enc t)]⟩),(3,⟨8,[.p (enc u)]⟩),(4,⟨8,[zTT]⟩),(7,⟨2,[.p (enc t.ring)]⟩),(8,⟨3,aK L⟩),(11,⟨8,[gR t u 0 .nil .nil (.own 31 0 0 K.length)]⟩),(31,⟨12,aK K⟩)]
def yQ(s:Nat)(L:List aH)(x:kH):aE:=⟨s,x.m.i,x.m.o,oN x.m.t L,x.m.w⟩
def yha{t u:GTrans}{L:List aH}(z:L.length<=1000000){K:List aE}(F:K.length<=3000000){s:Nat}{all:List kH}(E:all.length<=1000000){Q:Exit->St->Prop}{ks:List Kt}{st:St}(o:aA st (Az t u L K s all 0))
  (r:gA P 213 Q (fO 6 ks) 6 (Az t u L (K++all.map (yQ s L)) s all all.length)):vL P 213 Q g.re ks st:=by
 refine b6 (S:=λk:Nat=>Az t u L (K++(all.take k).map (yQ s L)) s all k) (I:=λk=>k<=all.length) (m:=λk=>all.length - k) 0 (by simpa using o) (by omega) ?_;rintro k G R j B l;have y:=aZ k;by_cases f:k<all.length
 .have n:(all.take (k+1)).map (yQ s L)=(all.take k).map (yQ s L)++[yQ s L all[k]]:=by rw[ed f,sS];rfl
  have b:∀ i,aA i (Az t u L (K++(all.take (k+1)).map (yQ s L)) s all (k+1))->R .normal i:=λi h=>j (k+1) i h (by omega) (by omega);rw[n,<- List.append_assoc]at b;have A:(K++(all.take k).map (yQ s L)).length<=4000000:=by simp;omega
  have C:=Lz L all[k].m.t z;generalize K++(all.take k).map (yQ s L)=O at *
  unfold yQ at b;generalize oN all[k].m.t L=p at *
  clear j l B o r;simp[g.re,Az,aB,f,zTT,gR];have d:all[k]?=some all[k]:=dO f;generalize all[k]'f=x at *
  refine eD d (eD d (eD d ?_));obtain⟨⟨H,J,⟨N,U,D⟩,M⟩⟩:=x;simp only at *
  refine aW C ?_;simp;refine eD d ?_;simp[y];refine⟨by omega,b _ (aA.to [2,3,4,7,8,11,12,13,14] [((2,0),2),((3,0),3),((4,0),4),((7,0),7),((8,0),8),((11,0),11),((125,0),31)] ?_)⟩;simp[Az,aB,zTT,gR]
 .have:k=all.length:=by omega
  subst this;rw[List.take_length];simp[g.re,Az,aB,zTT,gR];refine l _ _ ?_;simpa[Az,aB,zTT,gR]using r
theorem Xj(l:List aH):(ens l).all PV.flat=true:=by rw[k8];intro v d;obtain⟨b,_,rfl⟩:=cA.1 d;rfl
def yg9{t u:GTrans}{M:cQ t.ring}{n ns nu:Nat}(o:xG t u M n ns nu){X:List aH × List aE}(j:∀ s,kG ns nu (dF t u X s).1/\(dF t u X s).2.length<=s*1000)(F:∀ a,(qT t u a).length<=1000){Q:Exit->St->Prop}{ks:List Kt}{st:St}(C:aA st (Ay t u X.1 X.2 0))
  (D:∀ s,s=(dF t u X s).1.length->gA P 213 Q (fO 4 ks) 4 (Ay t u (dF t u X s).1 (dF t u X s).2 s)):vL P 213 Q g.rf ks st:=by
 have ad:=mT o.hs o.hu;refine b6 (S:=λs:Nat=>Ay t u (dF t u X s).1 (dF t u X s).2 s) (I:=λs=>s<=(dF t u X s).1.length) (m:=λs=>ns*nu*3 - s) 0 C (by simp) ?_;rintro s hs R z hr B;have O:=(j s).1.len;have E:=(j s).2;have e1:=aZ s;by_cases f:s<(dF t u X s).1.length
 .have l:dF t u X (s+1)=zJ t u s (dF t u X s):=aX f;have b:∀ p,aA p (Ay t u (zJ t u s (dF t u X s)).1 (zJ t u s (dF t u X s)).2 (s+1))->R .normal p:=λp h=>z (s+1) p (by rw[l];exact h) (by rw[l];show s+1<=((dF t u X s).1++_).length;rw[gQ];omega) (by omega);have d:=(j (s+1)).1.len;rw[l]at d;clear z B hr C D j l;generalize dF t u X s=Y at *
  obtain⟨L,K⟩:=Y;unfold zJ at b d;simp only at b d f E O hs;have y:L[s]?=some L[s]:=dO f;have H:L.getD s ⟨0,0,0⟩=L[s]:=by rw[eV,y];rfl
  rw[H]at b d;have hb:s*1000<=2700*1000:=jU _ (by omega);have G:=yak o.mp o.hn L[s] o.wat (by have:=o.at_;omega) o.wau (by have:=o.au;omega);have af:=F L[s];generalize qT t u L[s]=all at *
  have V:=yf0 L all (by omega) (by omega) λk _=>(Lw L (all.take k)).1;generalize uq L all=N at *
  have r:=λQ ks st C D=>yha (t:=t) (u:=u) (L:=L++N) (by omega) (K:=K) (by omega) (s:=s) (all:=all) (by omega) (Q:=Q) (ks:=ks) (st:=st) C D;have ag:N.length<=2700:=by rw[gQ]at d;omega
  have J:(L.length:Int)<=4096:=by omega
  simp[g.rf,Ay,aB,f,zTT,gR,J];refine eD y ?_;refine aW G ?_;simp[aI];refine EF V (by simp) ⟨jF _ _ rfl,by decide,by simp[-gW,ens,eL];omega⟩ _ rfl ?_;simp[Xj,eL];refine⟨by omega,r _ _ _ (aA.to [2,3,4,7,8,11,12,13,14] [((2,0),2),((3,0),3),((4,0),4),((7,0),7),((91,0),8),((11,0),11),((31,0),31)] ?_) ?_⟩
  .simp[Az,aB,zTT,gR]
  have W:all.map (λx=>(⟨s,x.m.i,x.m.o,oN x.m.t (L++N),x.m.w⟩:aE))=all.map (yQ s (L++N)):=rfl;rw[W]at b;generalize K++all.map (yQ s (L++N))=K2 at *
  generalize L++N=L2 at *
  simp[gA,fO,Az,aB,zTT,gR,e1];refine b _ (aA.to [2,3,4,7,8,11,12] [((2,0),2),((3,0),3),((4,0),4),((7,0),7),((8,0),8),((11,0),11),((31,0),31)] ?_);simp[Ay,aB,zTT,gR]
 .have A:s=(dF t u X s).1.length:=by omega
  have hh:=D s;generalize hY:dF t u X s=Y at *
  obtain⟨L,K⟩:=Y;simp only at A hh f;have U:¬ (s:Int)<L.length:=by omega
  simp[g.rf,Ay,aB,zTT,gR,U];refine B _ _ ?_;simpa[Ay,aB,zTT,gR]using hh A
def zw(t u:GTrans)(L:List aH)(K:List aE)(A B:List GW)(k:Nat):St :=
 aB [(2,.ptr 2 0 0 0),(3,.ptr 3 0 0 0),(4,.ptr 4 0 0 0),(7,.ptr 7 0 0 0),(8,.own 8 0 0 L.length),(11,.ptr 11 0 0 0),(15,.p (.int .i64 k))]
  [(2,⟨8,[.p (enc t)]⟩),(3,⟨8,[.p (enc u)]⟩),(4,⟨8,[zTT]⟩),(7,⟨2,[.p (enc t.ring)]⟩),(8,⟨3,aK L⟩),(11,⟨8,[gR t u L.length (.own 32 0 0 A.length) (.own 33 0 0 B.length) (.own 31 0 0 K.length)]⟩),(31,⟨12,aK K⟩),(32,⟨8,aK A⟩),(33,⟨8,aK B⟩)]
def yg8{t u:GTrans}{M:cQ t.ring}{n C D:Nat}(MP:dB M)(hn:n+n+1<=M.lim)(it:t.aM.length=C)(iu:u.aM.length=D)(ft:t.fin.length=C)(fu:u.fin.length=D)
  (wit:∀ w∈t.aM,w.aJ t.ring/\M.mb n w) (wiu:∀ w∈u.aM,w.aJ t.ring/\M.mb n w) (G:∀ w∈t.fin,w.aJ t.ring/\M.mb n w) (H:∀ w∈u.fin,w.aJ t.ring/\M.mb n w)
  {L:List aH} (hL:kG C D L) (ad:L.length<=4000) {K:List aE} {Q:Exit->St->Prop} {ks:List Kt} {st:St} (hw:aA st (zw t u L K [] [] 0))
  (hx:gA P 213 Q (fO 8 ks) 8 (zw t u L K (L.map (dR t u)) (L.map (dU t u)) L.length)):vL P 213 Q g.rg ks st:=by
 refine b6 (S:=λk:Nat=>zw t u L K ((L.take k).map (dR t u)) ((L.take k).map (dU t u)) k) (I:=λk=>k<=L.length) (m:=λk=>L.length - k) 0 (by simpa using hw) (by omega) ?_;rintro k hk R l hr r;have X:=aZ k;by_cases i:k<L.length
 .have o:L.take (k+1)=L.take k++[L[k]]:=ed i;have d:∀ j,aA j (zw t u L K ((L.take k).map (dR t u)++[dR t u L[k]]) ((L.take k).map (dU t u)++[dU t u L[k]]) (k+1))->R .normal j:=λj h=>l (k+1) j (by simp only[o,sS,jH,JC];exact h) (by omega) (by omega);have hA:((L.take k).map (dR t u)).length<=4000:=by simp;omega
  have hB:((L.take k).map (dU t u)).length<=4000:=by simp;omega
  generalize (L.take k).map (dR t u)=A at *
  generalize (L.take k).map (dU t u)=B at *
  have hb:=hL.b _ (bU i);have f:L[k]?=some L[k]:=dO i;clear l r hr hw hx o;generalize L[k]'i=a at *
  obtain⟨J,N,s⟩:=a;simp only at hb;obtain⟨p,hp⟩:∃ p:Nat,J=(p:Int):=⟨J.toNat,by omega⟩;obtain⟨q,hq⟩:∃ q:Nat,N=(q:Int):=⟨N.toNat,by omega⟩;subst hp hq;have E:p<t.aM.length:=by omega
  have y:p<t.fin.length:=by omega
  have F:q<u.aM.length:=by omega
  have z:q<u.fin.length:=by omega
  obtain⟨O,m1⟩:=wit _ (bU E);obtain⟨U,m2⟩:=G _ (bU y);obtain⟨V,m3⟩:=wiu _ (bU F);obtain⟨W,m4⟩:=H _ (bU z);have t1:=M.timesS (n:=n) (by omega) O V m1 m3;have t2:=M.timesS (n:=n) (by omega) U W m2 m4;have Y:dU t u ⟨p,q,s⟩=t.ring.times t.fin[p] u.fin[q]:=by unfold dU;simp only[kZ];rw[eV,eV,dO y,dO z];rfl
  have hI:dR t u ⟨p,q,s⟩=if s=0 then t.ring.times t.aM[p] u.aM[q]else t.ring.zero:=by unfold dR;simp only[kZ];rw[eV,eV,dO E,dO F];rfl
  rw[Y,hI]at d;clear Y hI O U V W m1 m2 m3 m4;have z3:=F2 t.ring;generalize t.ring.times t.fin[p] u.fin[q]=w2 at *
  generalize t.ring.times t.aM[p] u.aM[q]=w1 at *
  generalize t.ring.zero=w0 at *
  simp[g.rg,zw,aB,i,zTT,gR];refine aW z3 ?_;simp[i];refine eD f ?_;by_cases x:s=0
  .rw[aX x]at d;subst x;simp;refine eD f (eD (by simp;exact dO E) ⟨by simp,eD f (eD (by simp;exact dO F) ⟨by simp,?_⟩)⟩);refine aW t1 ?_;simp[i,eL];refine⟨by omega,eD f (eD (by simp;exact dO y) ⟨by simp,eD f (eD (by simp;exact dO z) ⟨by simp,?_⟩)⟩)⟩;refine aW t2 ?_;simp[eL,X];refine⟨by omega,d _ (aA.to [2,3,4,7,8,11,15] [((2,0),2),((3,0),3),((4,0),4),((7,0),7),((8,0),8),((11,0),11),((31,0),31),((172,0),32),((196,0),33)] ?_)⟩;simp[zw,aB,zTT,gR]
  .rw[bD x]at d;simp[x];refine⟨by omega,eD f (eD (by simp;exact dO y) ⟨by simp,eD f (eD (by simp;exact dO z) ⟨by simp,?_⟩)⟩)⟩;refine aW t2 ?_;simp[eL,X];refine⟨by omega,d _ (aA.to [2,3,4,7,8,11,15] [((2,0),2),((3,0),3),((4,0),4),((7,0),7),((8,0),8),((11,0),11),((31,0),31),((172,0),32),((196,0),33)] ?_)⟩;simp[zw,aB,zTT,gR]
 .have:k=L.length:=by omega
  subst this;rw[List.take_length];simp[g.rg,zw,aB,zTT,gR];refine r _ _ ?_;simpa[zw,aB,zTT,gR]using hx
noncomputable def jV(t u:GTrans)(L:List aH)(K:List aE):List Bool:=fG (iN (s5 K L.length) (fI t u L)) (iN (tG K L.length) (fF t u L))
theorem Ky{n:Nat}(g h:aE->Int):∀ {K:List aE} (_:∀ x∈K,0<=h x/\h x<(n:Int)) {ls:List (List Int)},(∀ l∈ls,∀ x∈l,∃ j:Nat,x=j/\j<n)->∀ l∈K.foldl (λls x=>qC ls (g x) (h x)) ls,∀ x∈l,∃ j:Nat,x=j/\j<n
 | [],_,_,f,l,d=>f l d
 | x::K,k,ls,f,l,d=>by
  refine Ky g h (K:=K) (λy b=>k y (by simp[b])) (ls:=qC ls (g x) (h x)) (λl d y b=>?_) l d;unfold qC at d;obtain d|rfl:=E5 d
  .exact f l d y b
  .obtain b|b:=dN.1 b
   .rw[eV]at b;cases i:ls[(g x).toNat]? with
    | none=>rw[i]at b;cases b
    | some z=>rw[i]at b;exact f z (wM i) y b
   .simp only[iT]at b;have:=k x (by simp);exact⟨(h x).toNat,by omega,by omega⟩
def Vh{α : Type}[Enc α](b:List Nat)(ids:List ((Nat × Nat) × Nat))(l:List α):(aK l).map (eo b ids)=aK l:=by rw[<- tV];exact Ur (ens l)
theorem Mv(l:List Bool):(ens l).all PV.flat=true:=by rw[k8];intro v d;obtain⟨b,_,rfl⟩:=cA.1 d;rfl
def RD{l:List (Nat × Nat)}{a:Nat × Nat}(h:∀ d∈l,d.1≠a.1):l.contains a=false:=by rw[Bool.eq_false_iff];intro b;exact h a (by simpa using b) rfl
def Vi{t u:GTrans}{M:cQ t.ring}(S:dB M){n C D:Nat}(hn:n+n+1<=M.lim)(it:t.aM.length=C)(iu:u.aM.length=D)(U:t.fin.length=C)(V:u.fin.length=D)
  (wit:∀ w∈t.aM,w.aJ t.ring/\M.mb n w) (wiu:∀ w∈u.aM,w.aJ t.ring/\M.mb n w) (G:∀ w∈t.fin,w.aJ t.ring/\M.mb n w) (H:∀ w∈u.fin,w.aJ t.ring/\M.mb n w)
  (mp:PV) {L:List aH} (X:kG C D L) (o:L.length<=4000) {K:List aE} (W:K.length<=10000000) (k:∀ x∈K,x.fit L.length) (zs:∀ a∈L,(dR t u a).sm 1048576/\(dU t u a).sm 1048576) :
  Sp P 79 [.ref (fA t u mp L K)] (.fresh 1 (ens (jV t u L K))):=by
 have z:(fI t u L).length=L.length:=by simp[fI]
 have y:(fF t u L).length=L.length:=by simp[fF]
 have E:=QN (nx:=s5 K L.length) (m:=fI t u L) (N:=L.length) (by omega) z (HO _ _) λl b=>⟨dM (FB (·.f) (·.t) K (List.replicate L.length []) 0 (λl b=>by rw[B8 b];exact dE _) l b) (by omega),Ky (·.f) (·.t) (λx h=>(k x h).2) (λl b=>by rw[B8 b];intro x h;cases h) l b⟩;have F:=QN (nx:=tG K L.length) (m:=fF t u L) (N:=L.length) (by omega) y (HF _ _) λl b=>⟨dM (FB (·.t) (·.f) K (List.replicate L.length []) 0 (λl b=>by rw[B8 b];exact dE _) l b) (by omega),Ky (·.t) (·.f) (λx h=>(k x h).1) (λl b=>by rw[B8 b];intro x h;cases h) l b⟩;have r:(iN (s5 K L.length) (fI t u L)).length=L.length:=by simp[iN,z]
 have s:(iN (tG K L.length) (fF t u L)).length=L.length:=by simp[iN,y]
 unfold jV;have j:=λQ ks st hw h=>W3 S hn it iu U V wit wiu G H mp X o K zs (Q:=Q) (ks:=ks) (st:=st) hw h;generalize fI t u L=A at *
 generalize fF t u L=B at *
 generalize Y:iN (s5 K L.length) A=O at *
 generalize ad:iN (tG K L.length) B=R at *
 refine Sp.fD c.ng (by simp) (aA.dV (t:=0) (v:=fA t u mp L K) (n:=19) (by simp) rfl) ?_;simp[g.ng,fA,eL];have i:aK (List.replicate L.length false)=List.replicate L.length (.p (.bool false)):=by rw[Ja];rfl
 refine⟨by omega,j _ _ _ (aA.to [0,3,4,29,30,31] [((19,0),19),((25,0),25)] ?_) ?_⟩
 .simp[Ai,fA,aO,i,tV,eo]
 simp[gA,fO,Ai,fA,eL];refine⟨by omega,z82 (n:=L.length) (by omega) k (aA.cW [3,4,9,10,80,81,82] [100,109] [((19,0),19),((25,0),25),((70,0),70),((76,0),76)] (st':=sV L.length K A B _ _ _ _ 0) ?_) ?_⟩
 .simp[sV,aO,tV,eo,Vh]
 intro C1 C2 H1 H2 I J;simp[gA,fO,sV];refine qV E ?_ rfl rfl (by simp) (by simp[z]) (by simp[r]) rfl (jF _ _ rfl) (cells_one (λ_=>rfl) _) ?_ ?_
 .refine kX (uF (l:=A) (sz:=1) (es:=aK A) (by simp) rfl (by omega)) (kX (S0 I (by rw[HO]) (by simp) λg=>?_) pS);simp[St.obj,St.site,look]
 .refine RD λd hd=>?_;simp only[List.eraseIdx_cons_zero,jG,List.flatMap_nil,kY]at hd;obtain hd|hd:=dN.1 hd
  .have:=R9 I (by simp) (λg=>by simp[St.obj,St.site,look]) d hd;simp only;omega
  .exfalso;simp at hd
 simp[Mv];refine qV F ?_ rfl rfl (by simp) (by simp[y]) (by simp[s]) rfl (jF _ _ rfl) (cells_one (λ_=>rfl) _) ?_ ?_
 .refine kX (uF (l:=B) (sz:=1) (es:=aK B) (by simp) rfl (by omega)) (kX (S0 J (by rw[HF]) (by simp) λg=>?_) pS);simp[St.obj,St.site,look]
 .refine RD λd hd=>?_;simp only[List.eraseIdx_cons_zero,jG,List.flatMap_nil,kY]at hd;obtain hd|hd:=dN.1 hd
  .have:=R9 J (by simp) (λg=>by simp[St.obj,St.site,look]) d hd;simp only;omega
  .exfalso;simp at hd
 simp[Mv];refine W4 (A:=O) (B:=R) (n:=L.length) r s (by omega) (aA.to [3,4,120,121] [((19,0),19),((25,0),25)] ?_) ?_
 .simp[yH,aO]
 simp[gA,fO,yH];simp[fG,r,s]
noncomputable def wQ(t u:GTrans)(L:List aH)(K:List aE)(m:List Bool):GTrans:=⟨t.ring,t.i,u.o,(gI m L.length:Nat),gD m (L.map (dR t u)),gD m (L.map (dU t u)),nE m K⟩
def nU(t u:GTrans)(mp:PV)(L:List aH)(K:List aE)(m:List Bool)(A B:List GW)(D:List Int)(cm k:Nat):St :=
 ⟨[(0,.cp (fA t u mp L K) 19 0),(2,.ptr 2 0 0 0),(3,.ptr 3 0 0 0),(4,.own 4 0 0 L.length),(5,.own 5 0 0 L.length),(39,.p (.sl (ens L))),(40,.p (.int .i64 L.length)),(41,.p (.int .i64 k))],
  [(2,[some ⟨8,[.agg [.p (.int .i64 0),.nil,.p (.int .i64 0),.p (.int .i64 0),.p (.int .i64 0),.nil,.nil,.nil]]⟩]),
  (3,[some ⟨8,[.agg [.p (.int .i64 t.ring.kind),.p (.sl (ens t.ring.parts)),.p (.int .i64 t.i),.p (.int .i64 u.o),.p (.int .i64 cm),.own 121 0 0 A.length,.own 122 0 0 B.length,.nil]]⟩]),
  (4,[some ⟨1,aK m⟩]),(5,[some ⟨1,aK D⟩]),(121,[some ⟨8,aK A⟩]),(122,[some ⟨8,aK B⟩]),(aO,[none])]⟩
def WI{t u:GTrans}{M:cQ t.ring}(Y:dB M){n J N:Nat}(hn:n+n+1<=M.lim)(it:t.aM.length=J)(iu:u.aM.length=N)(ft:t.fin.length=J)(fu:u.fin.length=N)
  (wit:∀ w∈t.aM,w.aJ t.ring/\M.mb n w) (wiu:∀ w∈u.aM,w.aJ t.ring/\M.mb n w) (O:∀ w∈t.fin,w.aJ t.ring/\M.mb n w) (U:∀ w∈u.fin,w.aJ t.ring/\M.mb n w)
  (mp:PV) {L:List aH} (hL:kG J N L) (ad:L.length<=4000) (K:List aE) {m:List Bool} (hm:m.length=L.length) {Q:Exit->St->Prop} {ks:List Kt} {st:St} (G:aA st (nU t u mp L K m [] [] (lu 0 (cW m) 0) 0 0))
  (H:gA P 119 Q (fO 0 ks) 0 (nU t u mp L K m (gD m (L.map (dR t u))) (gD m (L.map (dU t u))) (cW m) (gI m L.length) L.length)):vL P 119 Q g.qr ks st:=by
 have lT:(cW m).length=L.length:=by rw[BM,hm]
 refine b6 (S:=λk:Nat=>nU t u mp L K m (gD (m.take k) ((L.map (dR t u)).take k)) (gD (m.take k) ((L.map (dU t u)).take k)) (lu 0 (cW m) k) (gI m k) k) (I:=λk=>k<=L.length) (m:=λk=>L.length - k) 0 (by simpa[gD,gI]using G) (by omega) ?_;rintro k hk R s X y;have V:=aZ k;by_cases f:k<L.length
 .have d:∀ r,aA r (nU t u mp L K m (gD (m.take (k+1)) ((L.map (dR t u)).take (k+1))) (gD (m.take (k+1)) ((L.map (dU t u)).take (k+1))) (lu 0 (cW m) (k+1)) (gI m (k+1)) (k+1))->R .normal r:=λr h=>s (k+1) r h (by omega) (by omega);have j:k<m.length:=by omega
  have af:=M7 m k;have e2:IntKind.i64.wrap ((gI m k:Int)+1)=((gI m k+1:Nat):Int):=cT;rw[F3 j (by simpa using f),F3 j (by simpa using f)]at d;have hA:(gD (m.take k) ((L.map (dR t u)).take k)).length<=4000:=by rw[CM (by simp;omega)];exact Nat.le_trans List.count_le_length (by rw[List.length_take];omega)
  have hB:(gD (m.take k) ((L.map (dU t u)).take k)).length<=4000:=by rw[CM (by simp;omega)];exact dM Jl (by rw[fY];omega)
  have i:=K' j;have F:=FM 0 (cW m) (k:=k) (by omega);have W:=hL.b _ (bU f);have C:=Ta Y hn it iu ft fu wit wiu O U mp L K (a:=L[k]) ⟨W.1,W.2.1⟩;simp only[Ce]at d;generalize gD (m.take k) ((L.map (dR t u)).take k)=A at *
  generalize gD (m.take k) ((L.map (dU t u)).take k)=B at *
  have o:m[k]?=some m[k]:=dO j;cases l:m[k]with
  | false =>
   have E:=Pg 0 (cW m) (k:=k) (by omega) (by rw[HW j,l];rfl);rw[l]at d i o;simp only[gP,fQ,kY,Bool.toNat_false,uO]at d i;rw[E,i]at d;clear s y X G H;generalize lu 0 (cW m) k=D at *
   simp[g.qr,nU,f];refine bK f ?_;refine⟨by omega,eD o ?_⟩;simp[V];refine d _ (aA.to [0,2,3,4,5,39,40,41] [((2,0),2),((3,0),3),((4,0),4),((5,0),5),((121,0),121),((122,0),122)] ?_);simp[nU,fA,aO]
  | true =>
   have x:=FN 0 (cW m) (k:=k) (by omega);rw[HW j,l]at x;rw[l]at d i o;simp only[cH,Bool.toNat_true]at d i x;rw[<- x,i]at d;clear s y X G H;generalize lu 0 (cW m) k=D at *
   generalize gI m k=z at *
   simp[g.qr,nU,f];refine bK f ?_;generalize L[k]'f=a at *
   generalize dR t u a=w1 at *
   generalize dU t u a=w2 at *
   refine⟨by omega,eD o ?_⟩;simp[f,F,e2];refine⟨by omega,bK (by omega:k<D.length) ?_⟩;refine bA C (by simp[K6]) ?_;simp[fA,HB,eL,V];refine⟨by omega,by omega,d _ (aA.to [0,2,3,4,5,39,40,41] [((2,0),2),((3,0),3),((4,0),4),((5,0),5),((69,0),121),((74,0),122)] ?_)⟩;rw[CZ D k ((z:Nat):Int) (v:=.p (.int .i64 z)) rfl];generalize D.set k ((z:Nat):Int)=D2;simp[nU,fA,aO]
 .have:k=L.length:=by omega
  subst this;have t1:m.take L.length=m:=eZ (by omega);have t2:(L.map (dR t u)).take L.length=L.map (dR t u):=eZ (by simp);have t3:(L.map (dU t u)).take L.length=L.map (dU t u):=eZ (by simp);have t0:lu 0 (cW m) L.length=cW m:=by rw[<- lT];exact HU 0 (cW m)
  rw[t0,t1,t2,t3];simp[g.qr,nU];refine y _ _ ?_;simpa[nU,fA]using H
def nT(t u:GTrans)(N:Nat)(K:List aE)(m:List Bool)(A B:List GW)(D:List Int)(cm:Nat)(C:List aE)(k:Nat):St :=
 ⟨[(2,.ptr 2 0 0 0),(3,.ptr 3 0 0 0),(4,.own 4 0 0 N),(5,.own 5 0 0 N),(81,.p (.sl (ens K))),(82,.p (.int .i64 K.length)),(83,.p (.int .i64 k))],
  [(2,[some ⟨8,[.agg [.p (.int .i64 0),.nil,.p (.int .i64 0),.p (.int .i64 0),.p (.int .i64 0),.nil,.nil,.nil]]⟩]),
  (3,[some ⟨8,[.agg [.p (.int .i64 t.ring.kind),.p (.sl (ens t.ring.parts)),.p (.int .i64 t.i),.p (.int .i64 u.o),.p (.int .i64 cm),.own 121 0 0 A.length,.own 122 0 0 B.length,.own 123 0 0 C.length]]⟩]),
  (4,[some ⟨1,aK m⟩]),(5,[some ⟨1,aK D⟩]),(121,[some ⟨8,aK A⟩]),(122,[some ⟨8,aK B⟩]),(123,[some ⟨12,aK C⟩]),(aO,[none])]⟩
def WJ{t u:GTrans}{N:Nat}(hN:N<=100000){K:List aE}(hl:K.length<=3000000){m:List Bool}(E:m.length=N)(X:∀ x∈K,x.fit N){A B:List GW}{cm:Nat}{Q:Exit->St->Prop}{ks:List Kt}{st:St}(L:aA st (nT t u N K m A B (cW m) cm [] 0))
  (M:gA P 119 Q (fO 2 ks) 2 (nT t u N K m A B (cW m) cm (nE m K) K.length)):vL P 119 Q g.rj ks st:=by
 have lT:(cW m).length=N:=by rw[BM,E]
 refine b6 (S:=λk:Nat=>nT t u N K m A B (cW m) cm (nE m (K.take k)) k) (I:=λk=>k<=K.length) (m:=λk=>K.length - k) 0 (by simpa[nE]using L) (by omega) ?_;rintro k hk R r Y y;have z:=aZ k;by_cases d:k<K.length
 .have b:∀ j,aA j (nT t u N K m A B (cW m) cm (nE m (K.take (k+1))) (k+1))->R .normal j:=λj h=>r (k+1) j h (by omega) (by omega);have hC:(nE m (K.take k)).length<=3000000:=dM (Sc _ _) (by rw[fY];omega);rw[Tq m d]at b;generalize nE m (K.take k)=C at *
  obtain⟨⟨f0,f1⟩,t0,t1⟩:=X _ (bU d);clear r y Y L M;simp[g.rj,nT,d];refine bK d ?_;generalize K[k]'d=x at *
  obtain⟨f,l⟩:∃ f:Nat,x.f=(f:Int):=⟨x.f.toNat,by omega⟩;obtain⟨q,n⟩:∃ q:Nat,x.t=(q:Int):=⟨x.t.toNat,by omega⟩;have p:f<N:=by omega
  have s:q<N:=by omega
  have F:m[f]?=some m[f]:=dO (by omega);have G:m[q]?=some m[q]:=dO (by omega);have H:(cW m)[f]?=some (cW m)[f]:=dO (by omega);have J:(cW m)[q]?=some (cW m)[q]:=dO (by omega);have V:x7 m x=(m[f]&&m[q]):=by unfold x7;rw[l,n,kZ,kZ,eV,eV,F,G];rfl
  have W:rX m x=⟨(cW m)[f],x.i,x.o,(cW m)[q],x.w⟩:=by unfold rX;rw[l,n,kZ,kZ,eV,eV,H,J];rfl
  rw[V,W]at b;generalize m[f]=O at *
  generalize m[q]=U at *
  generalize (cW m)[f]=n1 at *
  generalize (cW m)[q]=n2 at *
  generalize cW m=D at *
  rw[l,n];simp[p,E];refine eD F ?_;cases O with
  | false =>
   simp only[Bool.false_and,gP,fQ,kY]at b;simp[z];refine b _ (aA.to [2,3,4,5,81,82,83] [((2,0),2),((3,0),3),((4,0),4),((5,0),5),((121,0),121),((122,0),122),((123,0),123)] ?_);simp[nT,aO]
  | true =>
   simp[s,E];refine eD G ?_;cases U with
   | false =>
    simp only[Bool.and_false,gP,fQ,kY]at b;simp[z];refine b _ (aA.to [2,3,4,5,81,82,83] [((2,0),2),((3,0),3),((4,0),4),((5,0),5),((121,0),121),((122,0),122),((123,0),123)] ?_);simp[nT,aO]
   | true =>
    simp only[GU,cH]at b;simp[p,s,lT];refine eD H (eD J ?_);simp[z];refine⟨by omega,b _ (aA.to [2,3,4,5,81,82,83] [((2,0),2),((3,0),3),((4,0),4),((5,0),5),((121,0),121),((122,0),122),((115,0),123)] ?_)⟩;simp[nT,aO]
 .have:k=K.length:=by omega
  subst this;rw[List.take_of_length_le (Nat.le_refl _)];simp[g.rj,nT];refine y _ _ ?_;simpa[nT]using M
def Vc{t u:GTrans}{M:cQ t.ring}(r:dB M){n l o:Nat}(hn:n+n+1<=M.lim)(it:t.aM.length=l)(iu:u.aM.length=o)(y:t.fin.length=l)(z:u.fin.length=o)
  (wit:∀ w∈t.aM,w.aJ t.ring/\M.mb n w) (wiu:∀ w∈u.aM,w.aJ t.ring/\M.mb n w) (f:∀ w∈t.fin,w.aJ t.ring/\M.mb n w) (h:∀ w∈u.fin,w.aJ t.ring/\M.mb n w)
  (mp:PV) {L:List aH} (D:kG l o L) (d:L.length<=4000) {K:List aE} (j:K.length<=3000000) (C:∀ x∈K,x.fit L.length) (zs:∀ a∈L,(dR t u a).sm 1048576/\(dU t u a).sm 1048576) :
  zS 28 [.ref (fA t u mp L K)] (enc (wQ t u L K (jV t u L K))):=by
 have R:(fI t u L).length=L.length:=by simp[fI]
 have O:(fF t u L).length=L.length:=by simp[fF]
 have S:=Vi r hn it iu y z wit wiu f h mp D d (K:=K) (by omega) C zs;have b:(jV t u L K).length=L.length:=by simp[jV,fG,iN,R,O]
 have G:=λm b Q ks st H I=>WI r hn it iu y z wit wiu f h mp D d K (m:=m) b (Q:=Q) (ks:=ks) (st:=st) H I;unfold wQ;generalize jV t u L K=m at *
 have J:aK (lu 0 (cW m) 0)=List.replicate L.length (.p (.int .i64 0)):=by rw[Ii,BM,b,Ja];rfl
 refine Sp.fD c.mg (by simp) (aA.dV (t:=0) (v:=fA t u mp L K) (n:=19) (by simp) rfl) ?_;simp[g.mg,fA];refine ED S (by simp[K6,fA]) ⟨jF _ _ rfl,by decide,by simp[-gW,ens,eL];omega⟩ (by simp[HB]) ?_;have k:(RV.fresh 1 (ens m)).flat=true:=Mv m;simp[eL,k,HB];refine⟨by omega,G m b _ _ _ ((aA.b5 (s0:=3) (g0:=0) (i:=5) (s:=77) (sz:=8) rfl).trans ((aA.b5 (s0:=3) (g0:=0) (i:=6) (s:=78) (sz:=8) rfl).trans (aA.to [0,2,3,4,5,39,40,41] [((2,0),2),((3,0),3),((29,0),4),((35,0),5),((77,0),121),((78,0),122)] ?_))) ?_⟩
 .simp only[nU,J];simp[b,fA,aO]
 generalize gD m (L.map (dR t u))=E at *
 generalize gD m (L.map (dU t u))=F at *
 simp[gA,fO,nU,fA];refine WJ (t:=t) (u:=u) (N:=L.length) (by omega) j b C (A:=E) (B:=F) (cm:=gI m L.length) ((aA.b5 (s0:=3) (g0:=0) (i:=7) (s:=79) (sz:=12) rfl).trans (aA.to [2,3,4,5,81,82,83] [((2,0),2),((3,0),3),((4,0),4),((5,0),5),((121,0),121),((122,0),122),((79,0),123)] ?_)) ?_
 .simp[nT,aO]
 generalize nE m K=U at *
 simp[gA,fO,nT]
end Go.Ab
namespace Go.Ab
open Enc (enc)
def ycf{r:aC}{M:cQ r}(i:dB M)(l:List GW)(n:Nat)(hn:n<=M.lim)(y:l.length<=1000000)(h:∀ w∈l,M.mb n w/\w.aJ r)(j:r.zero.aJ r) :
  zS 63 [enc r,.sl (ens l)] (.sl (ens (l.map λw=>r.plus w r.zero))):=by
 refine Sp.vz c.bg λ_=>?_;simp[g.bg]
 refine b6 (S:=λk:Nat=>aB [(2,.ptr 2 0 0 0),(5,.own 1 0 0 k),(8,.p (.sl (ens l))),(9,.p (.int .i64 l.length)),(10,.p (.int .i64 k))] [(2,⟨2,[.p (enc r)]⟩),(1,⟨8,aK ((l.take k).map λw=>r.plus w r.zero)⟩)]) (I:=λk=>k<=l.length) (m:=λk=>l.length - k) 0
  (aA.nl 5 77 8 rfl (aA.to [2,5,8,9,10] [((2,0),2),((77,0),1)] (by simp))) (by omega) ?_
 rintro k x R d z u;have o:=aZ k;simp[g.tp,aB];refine⟨λb=>?_,λb=>u _ _ ?_⟩
 .refine bK b ?_
  try simp
  refine bA (wG r) rfl ?_
  try simp
  have f:=h _ (List.getElem_mem b);refine aW (i.pw (n:=n) hn f.2 j f.1 (M.mono M.zero (Nat.zero_le n))) ?_;simp[o];have t:l.take (k+1)=l.take k++[l[k]]:=List.take_succ_eq_append_getElem b;refine⟨⟨by omega,by omega⟩,d (k+1) _ (aA.to [2,5,8,9,10] [((2,0),2),((21,0),1)] ?_) (by omega) (by omega)⟩;have s:(l.map λw=>r.plus w r.zero).take (k+1)=(l.map λw=>r.plus w r.zero).take k++[r.plus l[k] r.zero]:=by rw[List.take_succ_eq_append_getElem (by simpa using b)];simp
  simp[aB];rw[s];simp
 .have:k=l.length:=by omega
  subst this;simp;rw[eZ (by simp),eZ (by simp)]
def Iw{r:aC}{M:cQ r}(d:dB M)(l:List GW)(n:Nat)(hn:n<=M.lim)(f:r.ok=true)(i:l.length<=64)(h:∀ w∈l,M.mb n w)(c:∀ w∈l,w.aJ r):zS 63 [enc r,.sl (ens l)] (.sl (ens l)):=by
 have k:=ycf d l n hn (by omega) (λw b=>⟨h w b,c w b⟩) (yC f)
 rwa[R5 c]at k
def Re(a:GTrans){M:cQ a.ring}(d:dB M)(n B:Nat)(hn:B+n<=M.lim)(i:∀ q,kc aE.key a.aD q<=B)(l:∀ w∈a.aM,M.mb n w)(k:∀ w∈a.fin,M.mb n w)(j:∀ x∈a.aD,M.mb n x.w)(f:a.sm 1048576)(o:a.aM.length<=1000000)(m:a.fin.length<=1000000) :
  zS 24 [enc a] (.bM [enc (if a.ok then a.nf else nJ),.int .i64 (if a.ok then 0 else 4)]):=by
 refine Sp.vz c.aj λ_=>?_;simp[g.aj];refine aW (Gh a f o m) ?_;by_cases b:a.ok;rotate_left
 .rw[decide_eq_false b,bD b,bD b];simp[nJ]
 rw[decide_eq_true b,aX b,aX b];have p:=b.il;have r:=b.fl;have s:=b.st2
 simp;refine aW (Qp a.ring.parts (by have:=BP b.ring;omega)) ?_;simp;refine aW (Iw d a.aM n (by omega) b.ring (by omega) l b.aM) ?_;simp;refine aW (Iw d a.fin n (by omega) b.ring (by omega) k b.fin) ?_;simp;refine aW (P4 d a.aD n B hn i (by have:=b.al;omega) λx h=>⟨j x h,(b.aD x h).2.2.2.2.2.2.2.2⟩) ?_;simp[GTrans.nf]
end Go.Ab
namespace Go.Ab
open Enc (enc)
attribute [local simp] iJ bP.aY
def Xi(l m:List Int)(B:l.length<=4611686018427387904):zS 64 [.sl (ens l),.sl (ens m)] (.bool (decide (l=m))):=by
 refine Sp.vz c.m9 λ_=>?_;simp[g.m9];refine⟨λh=>?_,λh=>λu=>h (by rw[u])⟩;have d:l.length=m.length:=by omega
 refine b6 (S:=λk:Nat=>aB [(0,.p (.sl (ens l))),(1,.p (.sl (ens m))),(12,.p (.int .i64 l.length)),(13,.p (.int .i64 k))] []) (I:=λk=>k<=l.length/\l.take k=m.take k) (m:=λk=>l.length - k) 0
  (aA.to [0,1,12,13] [] (by simp)) ⟨by omega,by simp⟩ ?_
 rintro k ⟨A,n⟩ R x y z;have o:=aZ k;simp[g.vd,aB];refine⟨λj=>?_,λj=>z _ _ ?_⟩
 .have b:k<m.length:=by omega
  have f:l[k]≠m[k]->l≠m:=λh r=>by subst r;exact h rfl
  refine bK j ?_
  try simp
  refine bK b ?_
  try simp
  refine⟨λi=>?_,λi=>?_⟩
  .simp[o];exact x (k+1) _ (aA.to [0,1,12,13] [] (by simp)) ⟨by omega,by rw[ed j,ed b,n,i]⟩ (by omega)
  .have t:l≠m:=f i;exact y _ (by simp[t])
 .have s:l=m:=by rw[<- List.take_length (l:=l),<- List.take_length (l:=m),<- d,show l.length=k by omega];exact n
  simp[s]
def WN(r s:aC)(d:r.parts.length<=4611686018427387904):zS 25 [enc r,enc s] (.bool (decide (r=s))):=by
 refine Sp.vz c.mc λ_=>?_;simp[g.mc];have e:decide (r=s)=(decide (r.kind=s.kind)&&decide (r.parts=s.parts)):=by cases r;cases s;simp[aC.mk.injEq]
 rw[e];by_cases b:r.kind=s.kind
 .simp[b];refine aW (Xi r.parts s.parts d) ?_;simp
 .simp[b];exact λh=>b (by rw[h])
def eA(V:GTrans):Prop:=V.st>64\/V.aD.length>2048
instance (V:GTrans):Decidable (eA V):=inferInstanceAs (Decidable (_\/_))
theorem P8{α : Type}[Enc α]{st:St}{f sz:Nat}{L:List α}(n:Nat)(h:st.site f=eK sz L):bH st (n+2) (dH f L)=some (.sl (ens L)):=by
 cases L with
 | nil=>rfl
 | cons y l =>
  show bH st (n+2) (.own f l.length 0 (l.length+1))=_;rw[Rl];have:st.obj f l.length=some ⟨sz,aK (y::l)⟩:=by unfold St.obj;rw[h];show((List.replicate l.length (none:Option bI)++[some (⟨sz,aK (y::l)⟩:bI)])[l.length]?).getD none=_;rw[qG (by simp)];simp
  rw[this];simp only[sG,vE,qH,dE,cH,Ae];rw[eZ (by rw[vE];exact dE _),Ib];rfl
def Av{α : Type}(f:Nat):List α -> List (Nat × Nat)
 | []=>[]
 | _::l=>[(f,l.length)]
theorem Pr{α : Type}[Enc α]{st:St}{f sz:Nat}{L:List α}(n:Nat)(h:st.site f=eK sz L):aS st (n+2) (dH f L)=Av f L:=by
 cases L with
 | nil=>rfl
 | cons y l =>
  show aS st (n+2) (.own f l.length 0 (l.length+1))=_;rw[z72];have:st.obj f l.length=some ⟨sz,aK (y::l)⟩:=by unfold St.obj;rw[h];show((List.replicate l.length (none:Option bI)++[some (⟨sz,aK (y::l)⟩:bI)])[l.length]?).getD none=_;rw[qG (by simp)];simp
  rw[this];show _::(aK (y::l)).flatMap (aS st (n+1))=_;have b:(aK (y::l)).flatMap (aS st (n+1))=[]:=by rw[List.flatMap_eq_nil_iff];intro v d;obtain⟨w,_,rfl⟩:=cA.1 d;rfl
  rw[b];rfl
def z7:AV:=.agg [.p (.int .i64 0),.nil,.p (.int .i64 0),.p (.int .i64 0),.p (.int .i64 0),.nil,.nil,.nil]
def z20{α : Type}(L:List α):List (Option bI):=List.replicate L.length none
theorem ygn(T U:GTrans)(r:Nat)(L:List aH)(K:List aE) :
  aA ⟨[(2,.ptr 2 0 0 0),(4,.ptr 4 0 0 0),(8,.ptr 900000 0 0 0)],cZ T U r L K++[(2,[some ⟨8,[.p (enc T)]⟩]),(4,[some ⟨8,[z7]⟩]),(aO,[none])]⟩
   ⟨[(2,.ptr 2 0 0 0),(4,.ptr 4 0 0 0),(8,.ptr 900000 0 0 0)],[(900001,z20 L),(900002,z20 K),(900000,[some ⟨19,[.p (fA T U (.fM r) L K)]⟩]),(2,[some ⟨8,[.p (enc T)]⟩]),(4,[some ⟨8,[z7]⟩]),(aO,[none])]⟩:=by
 generalize b:(⟨[(2,.ptr 2 0 0 0),(4,.ptr 4 0 0 0),(8,.ptr 900000 0 0 0)],cZ T U r L K++[(2,[some ⟨8,[.p (enc T)]⟩]),(4,[some ⟨8,[z7]⟩]),(aO,[none])]⟩:St)=d;have h:d.site 900001=eK 3 L:=by subst b;simp[St.site,look,cZ,cS]
 have i:d.site 900002=eK 12 K:=by subst b;simp[St.site,look,cZ,cS]
 have B:d.obj 900000 0=some ⟨19,[bL T U r (dH 900001 L) (dH 900002 K)]⟩:=by subst b;simp[St.obj,St.site,look,cZ,cS]
 have C:=P8 2 h;have D:=P8 2 i;have j:=Pr 2 h;have m:=Pr 2 i;have A:[bL T U r (dH 900001 L) (dH 900002 K)].mapM (bH d 5)=some [fA T U (.fM r) L K]:=by
  have:bH d 5 (bL T U r (dH 900001 L) (dH 900002 K))=some (fA T U (.fM r) L K):=by show(List.mapM (bH d 4) _).map PV.agg=_;simp only[Cg,List.mapM_nil,C,D];rfl
  simp only[Cg,List.mapM_nil,this];rfl
 have u:[bL T U r (dH 900001 L) (dH 900002 K)].flatMap (aS d 5)=Av 900001 L++Av 900002 K:=by show aS d 5 (bL T U r (dH 900001 L) (dH 900002 K))++[]=_;show(List.flatMap (aS d 4) _)++[]=_;simp only[jG,List.flatMap_nil,j,m,kY];rfl
 have t:=aA.yX (s:=900000) (g:=0) (n:=5) (o:=⟨19,[bL T U r (dH 900001 L) (dH 900002 K)]⟩) [fA T U (.fM r) L K] (Av 900001 L++Av 900002 K) B A u (by cases L<;>cases K<;>simp[Av]);refine t.trans ?_;subst b;have E:∀ n:Nat,(List.replicate n (none:Option bI)++[none])=List.replicate (n+1) none:=λn=>List.replicate_succ'.symm;have f:∀ (n:Nat) (x:Option bI),(List.replicate n (none:Option bI)++[x]).set n none=List.replicate (n+1) none:=λn x=>by rw[C' _ _ (by simp)];simp[E]
 clear h i B C D j m A u t;cases L with
 | nil =>
  cases K with
  | nil =>
   refine aA.cW [2,4,8] [900001,900002] [((900000,0),900000),((2,0),2),((4,0),4)] ?_;simp[aI,Av,cZ,cS,eK,dH,z20,z7,St.setObj,aO]
  | cons z k =>
   refine aA.cW [2,4,8] [900001,900002] [((900000,0),900000),((2,0),2),((4,0),4)] ?_;simp[aI,Av,cZ,cS,eK,dH,z20,z7,St.setObj,CR,aO,f]
 | cons y l =>
  cases K with
  | nil =>
   refine aA.cW [2,4,8] [900001,900002] [((900000,0),900000),((2,0),2),((4,0),4)] ?_;simp[aI,Av,cZ,cS,eK,dH,z20,z7,St.setObj,CR,aO,f]
  | cons z k =>
   refine aA.cW [2,4,8] [900001,900002] [((900000,0),900000),((2,0),2),((4,0),4)] ?_;simp[aI,Av,cZ,cS,eK,dH,z20,z7,St.setObj,CR,aO,f]
def Vq{t u T U V:GTrans}{e:Int}(tn:zS 24 [enc t] (.bM [enc T,.int .i64 0]))(un:zS 24 [enc u] (.bM [enc U,.int .i64 0]))(hp:T.ring.parts.length<=1000000)(h:T.ring=U.ring)(Y:T.o=U.i)
  {M:cQ T.ring} {n B C:Nat} (o:xG T U M n B C) (ft:T.fin.length=B) (fu:U.fin.length=C) (z:∀ w∈T.fin,w.aJ T.ring/\M.mb n w) (A:∀ w∈U.fin,w.aJ T.ring/\M.mb n w)
  {L:List aH} {K:List aE} (Q:kN T U B C=(L,K)) (O:kG B C L) (ad:L.length<=2700) {m:List aE} (tk:zS 27 [enc T.ring,.sl (ens K)] (.sl (ens m))) (E:m.length<=3000000) (X:∀ x∈m,x.fit L.length)
  (zs:∀ a∈L,(dR T U a).sm 1048576/\(dU T U a).sm 1048576) {W:GTrans} (S:W=wQ T U L m (jV T U L m)) (vn:¬ eA W->zS 24 [enc W] (.bM [enc V,.int .i64 e])) :
  zS 9 [enc t,enc u] (.bM [enc (if eA W then nJ else V),.int .i64 (if eA W then 2 else e)]):=by
 have d:(eA W/\(if eA W then nJ else V)=nJ/\(if eA W then 2 else e)=2)\/(¬ eA W/\zS 24 [enc W] (.bM [enc (if eA W then nJ else V),.int .i64 (if eA W then 2 else e)])):=by
  by_cases b:eA W
  .exact .inl ⟨b,aX b,aX b⟩
  .rw[bD b,bD b];exact .inr ⟨b,vn b⟩
 generalize (if eA W then nJ else V)=R at *
 generalize (if eA W then 2 else e)=f at *
 have hs:=WN T.ring U.ring (by omega);rw[decide_eq_true h]at hs;have k:=λr=>yev o r;rw[Q]at k;have j:=λmp=>Vc o.mp o.hn o.it o.iu ft fu o.wit o.wiu z A mp O (by omega) E X zs;rw[<- S]at j;clear Q X zs O o z A;refine Sp.fZ c.dj (by simp) ?_;unfold g.dj;generalize hP:(λex s (_:Option FA)=>iD [(4,some 8),(5,none)] (RV.pure (.bM [enc R,.int .i64 f])) ex s)=I;refine MR.dG ?_;simp;refine MR.dG ?_;simp;refine aW tn ?_;simp;refine MR.dG ?_;simp;refine aW un ?_;simp;refine MR.dG ?_;simp;refine aW hs ?_;simp[Y];refine MR.cK (MR.mC (AU 2 [[],[3]] ?_));simp;refine eC.cons (I4 λr=>?_);refine xT [[43,44,45],[46],[47]] ?_;simp;have D:=nO [] [];have y:=nO L K;have F:=y.sa;have G:=y.sb;have hl:=y.l;have ha:=y.a;refine MR.eE (st1:=⟨[(2,.ptr 2 0 0 0),(4,.ptr 4 0 0 0),(8,.ptr 900000 0 0 0)],cZ T U r [] []++[(2,[some ⟨8,[.p (enc T)]⟩]),(4,[some ⟨8,[.agg [.p (.int .i64 0),.nil,.p (.int .i64 0),.p (.int .i64 0),.p (.int .i64 0),.nil,.nil,.nil]]⟩]),(aO,[none])]⟩) (FH [2,4,8] [(900000,[(47,0)]),(900001,[]),(900002,[]),(2,[(2,0)]),(4,[(4,0)])] ?_ (λσ=>σ 47 0=(900000,0) /\ σ 2 0=(2,0) /\ σ 4 0=(4,0)) ?_ ?_) ?_
 .simp[AE,EP,xK,fU,aO,CU]
 .simp[nS,uA,pQ,St.site,look]
 .rintro σ ⟨s1,s2,s3⟩;simp[sL,mJ,sub,iM,gC,St.get,look,St.site,aO,s1,s2,s3,cZ,cS,bL,dH,eK,Xh,Y]
 refine MR.holds Vf ?_;refine MR.cK (MR.cK (MR.mC (AU 1 [[]] ?_)));simp;refine eC.cons (IP (k r) (DO.gH G4 _ _) rfl ?_ ?_ rfl ?_ ?_)
 .simp
 .simp[qA,St.site,look,cZ,cS,bL,dH,eK]
 .show(true&&dS eF (cZ T U r [] [])&&true&&dS eF (cZ T U r L K))=true;rw[show dS eF (cZ T U r [] [])=true from D.hp T U r,show dS eF (cZ T U r L K)=true from y.hp T U r];rfl
 refine xT [[48],[49]] ?_;simp[D6,sO];refine MR.eY (t:=false) (by simp) (λh=>by cases h) λ_=>MR.pE ?_;refine⟨λ_=>MR.eE ((aA.cW (st':=⟨[(2,.ptr 2 0 0 0),(4,.ptr 4 0 0 0),(8,.ptr 900000 0 0 0)],cZ T U r L K++[(2,[some ⟨8,[.p (enc T)]⟩]),(4,[some ⟨8,[z7]⟩]),(aO,[none])]⟩) [2,4,8] eF [((2,0),2),((4,0),4)] ?_).trans (ygn T U r L K)) (MR.cE ?_),λh=>absurd rfl h⟩
 .simp[cZ,cS,bL,z7,hl,ha];exact⟨F,G⟩
 simp[fA,z7];refine aW tk ?_;simp;refine bA (j (.fM r)) (by simp[fA,Ml]) ?_;subst hP;clear S j k;obtain⟨b,rfl,rfl⟩|⟨b,H⟩:=d
 .simp only[eA]at b;simp[aI,nJ];intro J N;exfalso;omega
 .simp only[eA,not_or]at b;have J:¬ 64<W.st:=by omega
  have N:¬ (2048:Int)<W.aD.length:=by omega
  simp[aI,J,N];refine aW H ?_;simp
def Bt(b d:Bool)(t u:GTrans):Int:=if b=false\/d=false then 4 else if t.ring≠u.ring then 6 else if t.o≠u.i then 9 else 0
theorem Qh{t u:GTrans}{X:List aH × List aE}{s:Nat}(h:(dF t u X s).1.length<=s):∀ m,dF t u X (s+m)=dF t u X s
 | 0=>rfl
 | m+1=>by have b:=Qh h m;show dF t u X (s+m+1)=_;simp only[dF];rw[b,bD (by omega)]
def VW{t u T U:GTrans}(V:zS 29 [enc t,enc u] (.int .i64 0))(tf:zS 30 [enc t] (enc T))(uf:zS 30 [enc u] (enc U))(hr:t.ring=T.ring)
  {M:cQ T.ring} {n b d:Nat} (o:xG T U M n b d) (G:T.st=b) (H:U.st=d) (ft:T.fin.length=b) (fu:U.fin.length=d) (I:∀ w∈T.fin,w.aJ T.ring/\M.mb n w) (J:∀ w∈U.fin,w.aJ T.ring/\M.mb n w)
  (k:∀ s,kG b d (dF T U (lP T U d [] b,[]) s).1/\(dF T U (lP T U d [] b,[]) s).2.length<=s*1000) (F:∀ a,(qT T U a).length<=1000)
  {L:List aH} {K:List aE} (E:dF T U (lP T U d [] b,[]) (b*d*3)=(L,K)) {N W:GTrans} (Y:zS 30 [enc (⟨T.ring,T.i,U.o,L.length,L.map (dR T U),L.map (dU T U),K⟩:GTrans)] (enc N)) (kp:zS 36 [enc N] (enc W)) :
  zS 10 [enc t,enc u] (.bM [enc (if eA W then nJ else W),.int .i64 (if eA W then 2 else 0)]):=by
 have O:=mT o.hs o.hu;have j:=(k (b*d*3)).1;rw[E]at j;have C:=j.len;simp only at C j;have l:∀ s,s=(dF T U (lP T U d [] b,[]) s).1.length->dF T U (lP T U d [] b,[]) s=(L,K):=λs A=>by
  have B:=(k s).1.len;rw[<- Qh (t:=T) (u:=U) (X:=(lP T U d [] b,[])) (s:=s) (by omega) (b*d*3 - s),<- E]
  congr 1;omega
 have m:(eA W/\(if eA W then nJ else W)=nJ/\(if eA W then 2 else(0:Int))=2)\/(¬ eA W/\(if eA W then nJ else W)=W/\(if eA W then 2 else(0:Int))=0):=by
  by_cases h:eA W
  .exact .inl ⟨h,aX h,aX h⟩
  .exact .inr ⟨h,bD h,bD h⟩
 generalize (if eA W then nJ else W)=R at *
 generalize (if eA W then 2 else(0:Int))=f at *
 have x:=λQ ks st p r=>yah o.mp o.hn o.wit o.wiu o.it G o.iu H (by have:=o.hs;omega) (by have:=o.hu;omega) (Q:=Q) (ks:=ks) (st:=st) p r;have y:=λQ ks st p r=>yg9 o k F (Q:=Q) (ks:=ks) (st:=st) p r;have z:=λQ ks st p r=>yg8 o.mp o.hn o.it o.iu ft fu o.wit o.wiu I J j (by omega) (K:=K) (Q:=Q) (ks:=ks) (st:=st) p r;refine Sp.vz c.dm λ_=>?_;simp[g.dm];refine aW V ?_;simp;refine aW tf ?_;simp;refine aW uf ?_;simp;refine x _ _ _ (aA.nl 8 77 3 rfl (aA.to [2,3,4,7,8,9] [((2,0),2),((3,0),3),((4,0),4),((7,0),7),((77,0),8)] ?_)) ?_
 .simp[AA,aB,zTT,hr]
 clear x;generalize lP T U d [] b=L0 at *
 simp[gA,fO,AA,aB,zTT];refine y _ _ _ ((aA.b5 (s0:=11) (g0:=0) (i:=7) (s:=78) (sz:=12) rfl).trans (aA.to [2,3,4,7,8,11,12] [((2,0),2),((3,0),3),((4,0),4),((7,0),7),((8,0),8),((11,0),11),((78,0),31)] ?_)) λs A=>?_
 .simp[Ay,aB,zTT,gR]
 have S:=l s A;rw[S]at A ⊢;clear l y S k E;simp only at A ⊢;have D:¬ (4096:Int)<L.length:=by omega
 simp[gA,fO,Ay,aB,zTT,gR,D];refine z _ _ _ ((aA.b5 (s0:=11) (g0:=0) (i:=5) (s:=78) (sz:=8) rfl).trans ((aA.b5 (s0:=11) (g0:=0) (i:=6) (s:=79) (sz:=8) rfl).trans (aA.to [2,3,4,7,8,11,15] [((2,0),2),((3,0),3),((4,0),4),((7,0),7),((8,0),8),((11,0),11),((31,0),31),((78,0),32),((79,0),33)] ?_))) ?_
 .simp[zw,aB,zTT,gR]
 clear z;simp only[zw];generalize L.map (dR T U)=A1 at *
 generalize L.map (dU T U)=A2 at *
 simp[gA,fO,aB,zTT,gR];refine aW Y ?_;simp[aI];refine aW kp ?_;simp[aI];obtain⟨h,rfl,rfl⟩|⟨h,rfl,rfl⟩:=m
 .simp only[eA]at h;simp[nJ];intro B;omega
 .simp only[eA,not_or]at h;have B:¬ 64<R.st:=by omega
  have h2:¬ (2048:Int)<R.aD.length:=by omega
  simp[B,h2]
theorem yby{t u:GTrans}{b d:Bool}(k:zS 52 [enc t] (.bool b))(l:zS 52 [enc u] (.bool d)):zS 29 [enc t,enc u] (.int .i64 (Bt b d t u)):=by
 have j:=OS t.ring u.ring;refine Sp.vz c.je λ_=>?_;simp[g.je];refine aW k ?_;unfold Bt;cases b with
 | false=>simp
 | true =>
  simp;refine aW l ?_;cases d with
  | false=>simp
  | true =>
   simp;refine aW j ?_;by_cases f:t.ring=u.ring
   .by_cases h:t.o=u.i
    .simp[f,h]
    .simp[f,h]
   .simp[f]
end Go.Ab
namespace Go.Ab
theorem Uc{α : Type}{key : α -> List Int}{up : α -> α -> α}(l:List α)(h:eH key l):eU key up id l=l:=by
 generalize b:l.length=n
 induction n generalizing l with
 | zero=>rw[q9 b];rfl
 | succ n i =>
  obtain rfl|⟨l,x,rfl⟩:=B' l
  .simp at b
  rw[xV]at *
  obtain⟨d,_,f⟩:=List.pairwise_append.1 h;rw[Lt,i l d (by simpa using b)];obtain rfl|⟨o,z,rfl⟩:=List.eq_nil_or_concat l
  .rfl
  .rw[xV,CI (key:=key) (z:=z) (y:=x) λe=>?_]
   .simp
   .have:=f z (by simp) x (by simp);rw[e]at this;exact pU _ this
def Pb{α : Type}{key : α -> List Int}{l:List α}(h:eH key l):jQ key l:=h.imp λ{a b} d f=>pU _ (Ca d f)
def SY{r:aC}{l:List aE}(h:eH aE.key l)(d:∀ x∈l,x.w≠r.zero):cV r l=l:=by unfold cV;rw[AF (Pb h),Uc l h,GL];intro x b;simp[d x b]
def X5(r:aC)(l:List aE):eH aE.key (cV r l):=by unfold cV;have h:=(Ez (key:=aE.key) (up:=lE r) (nw:=id) (λ_ _=>rfl) (λ_=>rfl) _ (bW aE.key l) rfl (gB l).1).1;exact h.filter _
def K5{r:aC}{l:List aE}:∀ x∈cV r l,x.w≠r.zero:=λx b=>by have:=(List.mem_filter.1 b).2;simpa using this
def Pe{r:aC}{l:List aE}:∀ x∈cV r l,∃ y∈l,x.key=y.key:=λx d=>by have b:=(kI.1 d).1;obtain⟨y,f,e⟩:=(Ez (key:=aE.key) (up:=lE r) (nw:=id) (λ_ _=>rfl) (λ_=>rfl) _ (bW aE.key l) rfl (gB l).1).2.1 x b;exact⟨y,((gB l).2.2 y).1 f,e⟩
theorem ygf{l:List aE}(h:eH aE.key l)(q:List Int):kc aE.key l q<=1:=by
 unfold kc
 induction l with
 | nil=>simp
 | cons x l m =>
  obtain⟨f,i⟩:=mS.1 h;rw[List.countP_cons];by_cases b:x.key=q
  .have:l.countP (λy=>decide (y.key=q))=0:=by
    rw[List.countP_eq_zero];intro y k j;have d:y.key=q:=by simpa using j
    have:=f y k;rw[b,d]at this;exact pU _ this
   rw[this];simp[b]
  .have:=m i;simp[b];omega
def Tc(m:List Bool){i:Nat}:∀ {j:Nat},i<=j->gI m i<=gI m j:=λ{j} h=>by
 unfold gI;have:m.take i=(m.take j).take i:=by rw[GY,uN h]
 rw[this];exact List.Sublist.count_le true (Js i (m.take j))
def M8{m:List Bool}{i j:Nat}(d:i<m.length)(f:m[i]=true)(h:i<j):gI m i<gI m j:=by have b:=K' d;rw[f]at b;have k:=Tc m (i:=i+1) (j:=j) h;have:(true:Bool).toNat=1:=rfl;omega
def DT{m:List Bool}{i:Nat}(b:m.getD i false=true):(cW m).getD i 0=(gI m i:Nat):=by
 have d:i<m.length:=by apply GK;intro h;rw[eV,E0 (by omega)]at b;cases b
 have f:i<(cW m).length:=by rw[BM];exact d
 rw[eV,dO f,xW,HW d];rw[eV,dO d,xW]at b;rw[aX b]
def Ie{m:List Bool}{i:Nat}(b:m.getD i false=true):∃ h:i<m.length,m[i]=true:=by
 have d:i<m.length:=by apply GK;intro h;rw[eV,E0 (by omega)]at b;cases b
 refine⟨d,?_⟩;rw[eV,dO d,xW]at b;exact b
def Xs{m:List Bool}{x:aE}{N:Nat}(j:m.length=N)(k:x.fit N)(hp:x7 m x=true) :
  (rX m x).f=(gI m x.f.toNat:Nat)/\(rX m x).t=(gI m x.t.toNat:Nat)/\gI m x.f.toNat<gI m N/\gI m x.t.toNat<gI m N:=by
 unfold x7 at hp;rw[jO]at hp;obtain⟨b,d⟩:=Ie hp.1;obtain⟨h,i⟩:=Ie hp.2;exact⟨DT hp.1,DT hp.2,M8 b d (by omega),M8 h i (by omega)⟩
def R4{m:List Bool}{i j:Nat}(b:m.getD i false=true)(d:m.getD j false=true):gI m i<gI m j ↔ i<j:=by
 obtain⟨f,k⟩:=Ie b;obtain⟨n,o⟩:=Ie d;constructor
 .intro h;apply GK;intro l;have:=Tc m (i:=j) (j:=i) (by omega);omega
 .exact M8 f k
def ybi{m:List Bool}{l:List aE}{N:Nat}(s:∀ x∈l,x.fit N)(h:eH aE.key l):eH aE.key (nE m l):=by
 unfold nE eH;rw[Jr];refine JD ?_ (h.filter (x7 m));intro x y z A b;obtain⟨J,j⟩:=kI.1 z;obtain⟨L,k⟩:=kI.1 A;obtain⟨⟨M,_⟩,O,_⟩:=s x J;obtain⟨⟨Q,_⟩,R,_⟩:=s y L;unfold x7 at j k;rw[jO]at j k;have B:(rX m x).f=(gI m x.f.toNat:Nat):=DT j.1;have C:(rX m x).t=(gI m x.t.toNat:Nat):=DT j.2;have D:(rX m y).f=(gI m y.f.toNat:Nat):=DT k.1;have E:(rX m y).t=(gI m y.t.toNat:Nat):=DT k.2;have F:(rX m x).i=x.i:=rfl;have G:(rX m x).o=x.o:=rfl;have H:(rX m y).i=y.i:=rfl;have I:(rX m y).o=y.o:=rfl;have S:=R4 j.1 k.1;have U:=R4 j.2 k.2;unfold aE.key at b ⊢;rw[B,C,D,E,F,G,H,I];simp only[GJ]at b ⊢;obtain p|⟨p,d⟩:=b
 .exact .inl (by omega)
 .rw[p];obtain d|⟨d,n⟩:=d
  .exact .inr ⟨rfl,.inl d⟩
  .obtain n|⟨n,r⟩:=n
   .exact .inr ⟨rfl,.inr ⟨d,.inl n⟩⟩
   .obtain r|⟨_,u⟩:=r
    .exact .inr ⟨rfl,.inr ⟨d,.inr ⟨n,.inl (by omega)⟩⟩⟩
    .exact absurd u (pU _)
theorem Sk{x:aH}:∀ {L:List aH} {i j:Nat},iE x L i=some j->i<=j/\j<i+L.length
 | y::L,i,j,h=>by
  simp only[iE]at h;split at h
  .cases h;simp
  .have:=Sk (L:=L) h;simp only[qH];omega
def Z0{x:aH}{L:List aH}(h:x∈L):0<=oN x L/\oN x L<(L.length:Int):=by rw[Uf h];have:=Sk (KT h);omega
structure OA (t u:GTrans) (N s:Nat) (x:aE):Prop where
 f0:0<=x.f
 fs:x.f<s
 f:x.f<N
 t0:0<=x.t
 tl:x.t<N
 r:∃ a,∃ r∈qT t u a,x.i=r.m.i/\x.o=r.m.o/\x.w=r.m.w
theorem LO{t u:GTrans}{L0:List aH}:∀ s,∀ x∈(dF t u (L0,[]) s).2,OA t u (dF t u (L0,[]) s).1.length s x
 | 0,x,b=>by simp[dF]at b
 | s+1,x,b=>by
  have j:=LO (t:=t) (u:=u) (L0:=L0) s;simp only[dF]at b ⊢;by_cases d:s<(dF t u (L0,[]) s).1.length
  .rw[aX d]at b ⊢;generalize dF t u (L0,[]) s=X at *
   unfold zJ at b ⊢;simp only[gQ]at b ⊢;obtain b|b:=dN.1 b
   .have:=j x b;exact⟨this.f0,by have:=this.fs;omega,by have:=this.f;omega,this.t0,by have:=this.tl;omega,this.r⟩
   .obtain⟨r,i,rfl⟩:=cA.1 b;have l:r.m.t∈X.1++uq X.1 (qT t u (X.1.getD s ⟨0,0,0⟩)):=by
     by_cases h:r.m.t∈X.1
     .exact Cf _ h
     .exact List.mem_append_right _ (((Lw X.1 _).2 _).2 ⟨⟨r,i,rfl⟩,h⟩)
    have k:=Z0 l;rw[gQ]at k;exact⟨by simp only;omega,by simp only;omega,by simp only;omega,by simp only;omega,by simp only;omega,⟨X.1.getD s ⟨0,0,0⟩,r,i,rfl,rfl,rfl⟩⟩
  .rw[bD d]at b ⊢;have:=j x b;exact⟨this.f0,by have:=this.fs;omega,this.f,this.t0,this.tl,this.r⟩
theorem T0{t u:GTrans}{L0:List aH}{B:Nat}(l:∀ a,(qT t u a).length<=B):∀ s q,kc aE.key (dF t u (L0,[]) s).2 q<=B
 | 0,q=>by simp[dF,kc]
 | s+1,q=>by
  have y:=T0 (t:=t) (u:=u) (L0:=L0) l s q;have A:=LO (t:=t) (u:=u) (L0:=L0) s;simp only[dF];by_cases d:s<(dF t u (L0,[]) s).1.length
  .rw[aX d];generalize dF t u (L0,[]) s=X at *
   have z:=l (X.1.getD s ⟨0,0,0⟩);unfold zJ;simp only;unfold kc at y ⊢;rw[List.countP_append];by_cases p:∃ b,q=(s:Int)::b
   .obtain⟨b,rfl⟩:=p;have j:X.2.countP (λx=>decide (x.key=(s:Int)::b))=0:=by
     rw[List.countP_eq_zero];intro x k h;have n:x.key=(s:Int)::b:=by simpa using h
     have:x.f=s:=by unfold aE.key at n;exact(List.cons.inj n).1
     have:=(A x k).fs;omega
    rw[j,sG];exact dM List.countP_le_length (by rw[ra];exact z)
   .have j:((qT t u (X.1.getD s ⟨0,0,0⟩)).map λx=>(⟨s,x.m.i,x.m.o,oN x.m.t (X.1++uq X.1 (qT t u (X.1.getD s ⟨0,0,0⟩))),x.m.w⟩:aE)).countP (λx=>decide (x.key=q))=0:=by rw[List.countP_eq_zero];intro x k h;obtain⟨r,_,rfl⟩:=cA.1 k;rw[decide_eq_true_eq]at h;exact p ⟨[r.m.i,r.m.o,oN r.m.t (X.1++uq X.1 (qT t u (X.1.getD s ⟨0,0,0⟩)))],h.symm⟩
    rw[j];omega
  .rw[bD d];exact y
def Zt{t u:GTrans}{a:aH}(k:∀ x∈t.aD,0<=x.i/\x.i<=t.i)(f:∀ y∈u.aD,0<=y.o/\y.o<=u.o)(h:0<=t.i)(j:0<=u.o):∀ m∈tL t u a,(0<=m.i/\m.i<=t.i)/\0<=m.o/\m.o<=u.o:=by
 intro m hm;unfold tL at hm;obtain hm|hm:=dN.1 hm
 .obtain⟨x,d,hm⟩:=kC.1 hm;have d:=k x (kI.1 d).1;unfold qP at hm;obtain hm|hm:=dN.1 hm
  .unfold wW at hm;split at hm
   .rw[iT]at hm;subst hm;exact⟨d,by simp only;omega,j⟩
   .cases hm
  .obtain⟨y,b,hm⟩:=kC.1 hm;have b:=f y (kI.1 b).1;unfold pZ at hm;split at hm
   .rw[iT]at hm;subst hm;exact⟨d,b⟩
   .cases hm
 .obtain⟨y,b,hm⟩:=kC.1 hm;have b:=f y (kI.1 b).1;unfold rD at hm;split at hm
  .rw[iT]at hm;subst hm;exact⟨⟨by simp only;omega,h⟩,b⟩
  .cases hm
def X3{r:aC}(i:r.ok=true){a b:List aE}(h:a.Perm b)(d:∀ x∈a,x.w.aJ r):cV r a=cV r b:=by have f:∀ x∈b,x.w.aJ r:=λx k=>d x (h.mem_iff.2 k);refine yec (key:=aE.key) (wt:=aE.w) (up:=lE r) i (λ_ _=>rfl) (λ_ _=>rfl) (λx y h j=>Wx.2 ⟨h,j⟩) d f λp=>?_;exact ycx i h d p
open Enc (enc)
structure pO {r:aC} (M:cQ r) (n:Nat) (R:GTrans):Prop where
 ok:R.ok
 ring:R.ring=r
 nf:cV r R.aD=R.aD
 aM:∀ w∈R.aM,M.mb n w
 fin:∀ w∈R.fin,M.mb n w
 aD:∀ x∈R.aD,M.mb (1000+n) x.w
 ss:eH aE.key R.aD
structure pP (t u:GTrans) (M:cQ t.ring) (n:Nat):Prop where
 tok:t.ok
 vN:u.ok
 ring:t.ring=u.ring
 UM:t.o=u.i
 mp:dB M
 hn:2000+n+n+1<=M.lim
 wti:∀ w∈t.aM,M.mb n w
 wtf:∀ w∈t.fin,M.mb n w
 wta:∀ x∈t.nf.aD,M.mb n x.w
 wui:∀ w∈u.aM,M.mb n w
 wuf:∀ w∈u.fin,M.mb n w
 wua:∀ x∈u.nf.aD,M.mb n x.w
 hs:t.st<=30
 hu:u.st<=30
 h3:t.st.toNat*u.st.toNat*3<=100
 ta:t.nf.aD.length<=900
 ua:u.nf.aD.length<=900
 ml:∀ a,(tL t.nf u.nf a).length<=1000
def pP.bd{t u:GTrans}{M:cQ t.ring}{n:Nat}(h:pP t u M n):xG t.nf u.nf M n t.st.toNat u.st.toNat:=by
 have to:=DV h.tok;have i:=DV h.vN;have l:=h.tok.il;have m:=h.vN.il;have s1:=h.tok.st1;have r:=h.vN.st1;have o:=h.hs;have p:=h.hu;have f:=h.ring
 exact {
  mp:=h.mp
  hn:=by have:=h.hn;omega
  hs:=by omega
  hu:=by omega
  it:=by show t.aM.length=_;omega
  iu:=by show u.aM.length=_;omega
  wit:=λw d=>⟨h.tok.aM w d,h.wti w d⟩
  wiu:=λw d=>⟨by show w.aJ t.ring;rw[f];exact h.vN.aM w d,h.wui w d⟩
  wat:=λx b=>⟨(to.aD x b).2.2.2.2.2.2.2.2,h.wta x b⟩
  wau:=λx b=>⟨by show x.w.aJ t.ring;rw[f];exact(i.aD x b).2.2.2.2.2.2.2.2,h.wua x b⟩
  at_:=h.ta
  au:=h.ua
  to:=⟨λx b=>by have:=to.aD x b;have j:=this.2.2.1;have k:x.t<t.st:=this.2.2.2.1;omega,λx b=>by have:=i.aD x b;have j:=this.2.2.1;have k:x.t<u.st:=this.2.2.2.1;omega⟩
  ml:=h.ml }
def pP.rv{t u:GTrans}{M:cQ t.ring}{n:Nat}(h:pP t u M n):∀ a,qT t.nf u.nf a=(sK t.nf u.nf a).map kH.mk:=λa=>
 Za (λx b=>⟨((DV h.tok).aD x b).2.2.2.2.2.2.1,K5 x b⟩) (λy d=>by show y.w≠t.ring.zero;rw[h.ring];exact K5 y d) a
def YW{T U:GTrans}{M:cQ T.ring}{n j k:Nat}(u:T.ring.ok=true)(it:T.aM.length=j)(iu:U.aM.length=k)(s:T.fin.length=j)(t:U.fin.length=k)
  (wit:∀ w∈T.aM,w.aJ T.ring/\M.mb n w) (wiu:∀ w∈U.aM,w.aJ T.ring/\M.mb n w) (o:∀ w∈T.fin,w.aJ T.ring/\M.mb n w) (r:∀ w∈U.fin,w.aJ T.ring/\M.mb n w)
  {a:aH} (b:(0<=a.p/\a.p<j)/\(0<=a.q/\a.q<k)):((dR T U a).aJ T.ring/\M.mb (n+n+1) (dR T U a))/\((dU T U a).aJ T.ring/\M.mb (n+n+1) (dU T U a)):=by
 have g:∀ (l:List GW) (m:Nat) (x:Int),l.length=m->0<=x->x<m->l.getD x.toNat dT∈l:=λl m x A y z=>by
  have:x.toNat<l.length:=by omega
  rw[eV,dO this];exact bU this
 have d:=wit _ (g _ _ _ it b.1.1 b.1.2);have f:=wiu _ (g _ _ _ iu b.2.1 b.2.2);have h:=o _ (g _ _ _ s b.1.1 b.1.2);have i:=r _ (g _ _ _ t b.2.1 b.2.2);refine⟨?_,Eu h.1 i.1,M.times h.1 i.1 h.2 i.2⟩;unfold dR;split
 .exact⟨Eu d.1 f.1,M.times d.1 f.1 d.2 f.2⟩
 .exact⟨yC u,M.mono M.zero (vI _)⟩
def yed{r:aC}(M:cQ r){n B:Nat}{l:List aE}(h:∀ x∈l,M.mb n x.w/\x.w.aJ r)(d:∀ q,kc aE.key l q<=B):∀ x∈cV r l,M.mb (B+n) x.w/\x.w.aJ r:=λx b=>by have f:=gB (key:=aE.key) l;have:=QQ M (l:=bW aE.key l) (λx b=>h x ((f.2.2 x).1 b)) (bW aE.key l).length (dE _) x (by rw[kK];exact(kI.1 b).1);rw[kK,FL (F6 l)]at this;exact⟨M.mono this.1 (by have:=d x.key;omega),this.2⟩
def Iu(r:aC)(l:List aE):(cV r l).length<=l.length:=by unfold cV;refine dM (kB _ _) ?_;have:=FE (key:=aE.key) (up:=lE r) (nw:=id) (λ_ _=>rfl) (λ_=>rfl) (bW aE.key l) (bW aE.key l).length (dE _);rw[kK,(gB l).2.1]at this;exact this
noncomputable def zu(t u:GTrans):List aH × List aE:=dF t.nf u.nf (lP t.nf u.nf u.st.toNat [] t.st.toNat,[]) (t.st.toNat*u.st.toNat*3)
noncomputable def uZ(t u:GTrans):GTrans:=wQ t.nf u.nf (zu t u).1 (cV t.ring (zu t u).2) (jV t.nf u.nf (zu t u).1 (cV t.ring (zu t u).2))
def Vp{t u:GTrans}{M:cQ t.ring}{n:Nat}(h:pP t u M n)(tn:zS 24 [enc t] (.bM [enc t.nf,.int .i64 0]))(un:zS 24 [enc u] (.bM [enc u.nf,.int .i64 0]))
  (tf:zS 30 [enc t] (enc t.nf)) (uf:zS 30 [enc u] (enc u.nf)) (vt:zS 52 [enc t] (.bool true)) (vu:zS 52 [enc u] (.bool true)) :
  ∃ (R:GTrans) (e:Int),zS 9 [enc t,enc u] (.bM [enc R,.int .i64 e])/\zS 10 [enc t,enc u] (.bM [enc R,.int .i64 e])/\((¬ eA (uZ t u)/\R=uZ t u/\e=0/\pO M (n+n+1) R/\R.i=t.i/\R.o=u.o)\/(eA (uZ t u)/\e=2/\R=nJ)):=by
 unfold uZ zu;have o:=h.bd;have J:=h.rv;have hr:t.ring=u.ring:=h.ring;have to:=DV h.tok;have uo:=DV h.vN;have cm:t.nf.st=(t.st.toNat:Nat):=by show t.st=_;have:=h.tok.st1;omega
 have cn:u.nf.st=(u.st.toNat:Nat):=by show u.st=_;have:=h.vN.st1;omega
 have ft:t.nf.fin.length=t.st.toNat:=by show t.fin.length=_;have:=h.tok.fl;omega
 have fu:u.nf.fin.length=u.st.toNat:=by show u.fin.length=_;have:=h.vN.fl;omega
 have ao:∀ w∈t.nf.fin,w.aJ t.nf.ring/\M.mb n w:=λw j=>⟨h.tok.fin w j,h.wtf w j⟩;have ap:∀ w∈u.nf.fin,w.aJ t.nf.ring/\M.mb n w:=λw j=>⟨by show w.aJ t.ring;rw[hr];exact h.vN.fin w j,h.wuf w j⟩;have cc:jM t.nf u.nf [] t.st.toNat=lP t.nf u.nf u.st.toNat [] t.st.toNat:=by
  have:=(Uv t.nf u.nf t.st.toNat).1
  rwa[o.iu]at this
 have I:=λs=>UA J (X:=(jM t.nf u.nf [] t.st.toNat,[])) (X':=(lP t.nf u.nf u.st.toNat [] t.st.toNat,[])) cc (List.Perm.refl _) s;have ca:=Jg (t:=t.nf) (u:=u.nf) (kG.nil t.st.toNat u.st.toNat) (Ba o.iu) (dE _);have ad:=λs=>FT o.to o.ml (X:=(jM t.nf u.nf [] t.st.toNat,[])) ca rfl s;have al:∀ s,kG t.st.toNat u.st.toNat (dF t.nf u.nf (lP t.nf u.nf u.st.toNat [] t.st.toNat,[]) s).1/\(dF t.nf u.nf (lP t.nf u.nf u.st.toNat [] t.st.toNat,[]) s).2.length<=s*1000:=λs=>by have h1:=ad s;rw[(I s).1,(I s).2.length_eq]at h1;exact h1
 have af:∀ a,(qT t.nf u.nf a).length<=1000:=λa=>by rw[J,ra];exact dM (kB _ _) (h.ml a)
 have z:=LO (t:=t.nf) (u:=u.nf) (L0:=lP t.nf u.nf u.st.toNat [] t.st.toNat) (t.st.toNat*u.st.toNat*3);have H:=T0 (t:=t.nf) (u:=u.nf) (L0:=lP t.nf u.nf u.st.toNat [] t.st.toNat) af (t.st.toNat*u.st.toNat*3);have av:kN t.nf u.nf t.st.toNat u.st.toNat=dL t.nf u.nf (jM t.nf u.nf [] t.st.toNat,[]) (t.st.toNat*u.st.toNat*3):=rfl;obtain⟨q1,q2⟩:=I (t.st.toNat*u.st.toNat*3);obtain⟨r1,r2⟩:=al (t.st.toNat*u.st.toNat*3);generalize hY:dF t.nf u.nf (lP t.nf u.nf u.st.toNat [] t.st.toNat,[]) (t.st.toNat*u.st.toNat*3)=Y at *
 generalize hZ:dL t.nf u.nf (jM t.nf u.nf [] t.st.toNat,[]) (t.st.toNat*u.st.toNat*3)=Z at *
 obtain⟨L,p⟩:=Y;obtain⟨d,Kp⟩:=Z;simp only at q1 q2 r1 r2 z H;subst q1;have h3:=h.h3;have ct:=r1.len;have au:p.length<=100000:=by have:t.st.toNat*u.st.toNat*3*1000<=100*1000:=jU _ h3;omega
 have bt:=al;have bb:=af;clear I ad al af hZ;have wK:∀ x∈p,M.mb (n+n+1) x.w/\x.w.aJ t.ring:=λx k=>by obtain⟨a,r,G,_,_,j⟩:=(z x k).r;rw[J]at G;obtain⟨m,hm,rfl⟩:=cA.1 G;rw[j];have:=SE (t:=t.nf) (u:=u.nf) (M:=M) (n:=n) (a:=a) o.wat o.wau m (kI.1 hm).1;exact⟨this.2,this.1⟩
 have lK:∀ x∈p,(0<=x.i/\x.i<=t.i)/\0<=x.o/\x.o<=u.o:=λx k=>by obtain⟨a,r,G,hi,ho,_⟩:=(z x k).r;rw[J]at G;obtain⟨m,hm,rfl⟩:=cA.1 G;rw[hi,ho];have i1:=h.tok.i1;have o1:=h.vN.o1;exact Zt (t:=t.nf) (u:=u.nf) (λx k=>⟨(to.aD x k).2.2.2.2.1,(to.aD x k).2.2.2.2.2.1⟩) (λy C=>⟨(uo.aD y C).2.2.2.2.2.2.1,(uo.aD y C).2.2.2.2.2.2.2.1⟩) (by show 0<=t.i;omega) (by show 0<=u.o;omega) m (kI.1 hm).1
 have bx:=X3 (r:=t.ring) h.tok.ring q2 (λx k=>(wK x (q2.mem_iff.1 k)).2);have A:∀ x∈cV t.ring p,x.fit d.length:=λx k=>by
  obtain⟨y,C,e⟩:=Pe x k;have fy:=z y C;unfold aE.key at e;injection e with e1 e;injection e with e2 e;injection e with e3 e;injection e with e4 e
  exact⟨⟨by rw[e1];exact fy.f0,by rw[e1];exact fy.f⟩,by rw[e4];exact fy.t0,by rw[e4];exact fy.tl⟩
 have bu:∀ x∈cV t.ring p,(0<=x.i/\x.i<=t.i)/\0<=x.o/\x.o<=u.o:=λx k=>by
  obtain⟨y,C,e⟩:=Pe x k;have ly:=lK y C;unfold aE.key at e;injection e with e1 e;injection e with e2 e;injection e with e3 e
  rw[e2,e3];exact ly
 have hn:=h.hn;have w2:=yed M wK H;have ce:=Iu t.ring p;have cp:=K5 (r:=t.ring) (l:=p);have cs:=X5 t.ring p;have tk:=P4 h.mp Kp (n+n+1) 1000 (by omega) (λq=>by rw[FL q2];exact H q) (by rw[q2.length_eq];exact au) (λx k=>wK x (q2.mem_iff.1 k));rw[bx]at tk;have we:=λa (F:a∈d)=>YW (T:=t.nf) (U:=u.nf) (M:=M) h.tok.ring o.it o.iu ft fu o.wit o.wiu ao ap (a:=a) ⟨(r1.b a F).1,(r1.b a F).2.1⟩;have Q:∀ w∈d.map (dR t.nf u.nf),w.aJ t.ring/\M.mb (n+n+1) w:=λw j=>by obtain⟨a,F,rfl⟩:=cA.1 j;exact(we a F).1
 have O:∀ w∈d.map (dU t.nf u.nf),w.aJ t.ring/\M.mb (n+n+1) w:=λw j=>by obtain⟨a,F,rfl⟩:=cA.1 j;exact(we a F).2
 have zs:∀ a∈d,(dR t.nf u.nf a).sm 1048576/\(dU t.nf u.nf a).sm 1048576:=λa F=>
  ⟨(h.mp.pr (n:=n+n+1) (by omega) (we a F).1.1 (we a F).1.2).mono (by omega),(h.mp.pr (n:=n+n+1) (by omega) (we a F).2.1 (we a F).2.2).mono (by omega)⟩
 have fo:=Qx (⟨t.ring,t.i,u.o,(d.length:Int),d.map (dR t.nf u.nf),d.map (dU t.nf u.nf),p⟩:GTrans) (M:=M) h.mp (n+n+1) 1000 (by omega) H au (λw j=>(Q w j).2) (λw j=>(O w j).2) (λx k=>(wK x k).1) (by have:=BP h.tok.ring;show t.ring.parts.length<=_;omega) (by simp only;omega) (by simp) (by simp) (λw j=>(Q w j).1) (λw j=>(O w j).1) (λx k=>(wK x k).2);have lI:(fI t.nf u.nf d).length=d.length:=by simp[fI]
 have lF:(fF t.nf u.nf d).length=d.length:=by simp[fF]
 have br:Dx (⟨t.ring,t.i,u.o,(d.length:Int),d.map (dR t.nf u.nf),d.map (dU t.nf u.nf),cV t.ring p⟩:GTrans)=jV t.nf u.nf d (cV t.ring p):=by
  have e1:kV t.ring (d.map (dR t.nf u.nf))=fI t.nf u.nf d:=by unfold kV fI;rw[yG];rfl
  have e2:kV t.ring (d.map (dU t.nf u.nf))=fF t.nf u.nf d:=by unfold kV fF;rw[yG];rfl
  unfold Dx jV;simp only;rw[e1,e2,S4 (Y1 A) lI,S4 (Y0 A) lF]
 have kp:=Xo (⟨t.ring,t.i,u.o,(d.length:Int),d.map (dR t.nf u.nf),d.map (dU t.nf u.nf),cV t.ring p⟩:GTrans) d.length (by omega) rfl (by simp) (by simp) (by show(cV t.ring p).length<=_;omega) A
  (λw j=>(h.mp.pr (n:=n+n+1) (by omega) (Q w j).1 (Q w j).2).mono (by omega)) (λw j=>(h.mp.pr (n:=n+n+1) (by omega) (O w j).1 (O w j).2).mono (by omega))
 rw[br]at kp;have ag:(jV t.nf u.nf d (cV t.ring p)).length=d.length:=by simp[jV,fG,iN,lI,lF]
 have aw:Oq (⟨t.ring,t.i,u.o,(d.length:Int),d.map (dR t.nf u.nf),d.map (dU t.nf u.nf),cV t.ring p⟩:GTrans) (jV t.nf u.nf d (cV t.ring p)) d.length=wQ t.nf u.nf d (cV t.ring p) (jV t.nf u.nf d (cV t.ring p)):=rfl;rw[aw]at kp;have er:=yby vt vu;have bo:Bt true true t u=0:=by simp[Bt,hr,h.UM]
 rw[bo]at er;have rc:=VW er tf uf rfl o cm cn ft fu ao ap bt bb hY fo kp;clear er tf uf hY fo kp br z H wK lK q2 aw vt vu bo;have cv:(wQ t.nf u.nf d (cV t.ring p) (jV t.nf u.nf d (cV t.ring p))).st=(gI (jV t.nf u.nf d (cV t.ring p)) d.length:Nat):=rfl;have aq:=λV (hV:_->_)=>Vq (V:=V) (e:=0) tn un (by have:=BP h.tok.ring;show t.ring.parts.length<=_;omega) hr h.UM o ft fu ao ap av r1 (by omega) tk (by omega) A zs rfl hV;generalize hm:jV t.nf u.nf d (cV t.ring p)=m at *
 have wA:∀ x∈nE m (cV t.ring p),(∃ y∈cV t.ring p,x7 m y=true/\x=rX m y):=λx k=>by obtain⟨y,C,rfl⟩:=cA.1 k;exact⟨y,(kI.1 C).1,(kI.1 C).2,rfl⟩
 have N:=ybi (m:=m) A cs;have D:∀ x∈nE m (cV t.ring p),M.mb (1000+(n+n+1)) x.w/\x.w.aJ t.ring/\x.w≠t.ring.zero:=λx k=>by obtain⟨y,C,_,rfl⟩:=wA x k;exact⟨(w2 y C).1,(w2 y C).2,cp y C⟩
 have On:(gD m (d.map (dR t.nf u.nf))).length=gI m d.length:=by rw[CM (by simp[ag])];unfold gI;rw[eZ (by omega)]
 have co:(gD m (d.map (dU t.nf u.nf))).length=gI m d.length:=by rw[CM (by simp[ag])];unfold gI;rw[eZ (by omega)]
 have cu:=M7 m d.length;have S:∀ W,W=wQ t.nf u.nf d (cV t.ring p) m->¬ eA W->W.ok/\W.nf=W:=λW B E=>by
  have f1:W.ring=t.ring:=by rw[B];rfl
  have f2:W.i=t.i:=by rw[B];rfl
  have f3:W.o=u.o:=by rw[B];rfl
  have f4:W.st=(gI m d.length:Nat):=by rw[B];rfl
  have f5:W.aM=gD m (d.map (dR t.nf u.nf)):=by rw[B];rfl
  have f6:W.fin=gD m (d.map (dU t.nf u.nf)):=by rw[B];rfl
  have f7:W.aD=nE m (cV t.ring p):=by rw[B];rfl
  simp only[eA,not_or]at E;have cf:cV W.ring W.aD=W.aD:=by rw[f1,f7];exact SY N λx k=>(D x k).2.2
  refine⟨⟨by rw[f1];exact h.tok.ring,by rw[f2];exact h.tok.i1,by rw[f3];exact h.vN.o1,by rw[f4];omega,by omega,by rw[f4,f5,On],by rw[f4,f6,co],by omega,λx k=>?_,λw j=>?_,λw j=>?_⟩,?_⟩
  .rw[f7]at k;have j:=(D x k).2.1;obtain⟨y,C,hp,rfl⟩:=wA x k;obtain⟨k1,k2,k3,k4⟩:=Xs ag (A y C) hp;obtain⟨⟨l1,l2⟩,l3,l4⟩:=bu y C;have k5:(rX m y).i=y.i:=rfl;have k6:(rX m y).o=y.o:=rfl;unfold inT;rw[f1,f2,f3,f4,k1,k2,k5,k6];exact⟨by omega,by omega,by omega,by omega,l1,l2,l3,l4,j⟩
  .rw[f1];rw[f5]at j;exact(Q w (xP j)).1
  .rw[f1];rw[f6]at j;exact(O w (xP j)).1
  .unfold GTrans.nf;rw[cf]
 have bk:∀ W,W=wQ t.nf u.nf d (cV t.ring p) m->¬ eA W->pO M (n+n+1) W/\W.i=t.i/\W.o=u.o:=λW B E=>by
  obtain⟨c1,c2⟩:=S W B E;have f1:W.ring=t.ring:=by rw[B];rfl
  have f5:W.aM=gD m (d.map (dR t.nf u.nf)):=by rw[B];rfl
  have f6:W.fin=gD m (d.map (dU t.nf u.nf)):=by rw[B];rfl
  have f7:W.aD=nE m (cV t.ring p):=by rw[B];rfl
  exact⟨⟨c1,f1,by rw[f7];exact SY N λx k=>(D x k).2.2,λw j=>by rw[f5]at j;exact(Q w (xP j)).2,λw j=>by rw[f6]at j;exact(O w (xP j)).2,λx k=>by rw[f7]at k;exact(D x k).1,by rw[f7];exact N⟩,by rw[B];rfl,by rw[B];rfl⟩
 have vn:¬ eA (wQ t.nf u.nf d (cV t.ring p) m)->zS 24 [enc (wQ t.nf u.nf d (cV t.ring p) m)] (.bM [enc (wQ t.nf u.nf d (cV t.ring p) m),.int .i64 0]):=λE=>by
  obtain⟨c1,c2⟩:=S _ rfl E
  have:=Re (wQ t.nf u.nf d (cV t.ring p) m) (M:=M) h.mp (1000+(n+n+1)) 1 (by omega) (λq=>ygf N q) (λw j=>M.mono (Q w (xP j)).2 (by omega)) (λw j=>M.mono (O w (xP j)).2 (by omega)) (λx k=>(D x k).1)
   ⟨λw j=>(h.mp.pr (n:=n+n+1) (by omega) (Q w (xP j)).1 (Q w (xP j)).2).mono (by omega),λw j=>(h.mp.pr (n:=n+n+1) (by omega) (O w (xP j)).1 (O w (xP j)).2).mono (by omega),λx k=>(h.mp.pr (n:=1000+(n+n+1)) (by omega) (D x k).2.1 (D x k).1).mono (by omega)⟩
   (by show(gD m _).length<=_;omega) (by show(gD m _).length<=_;omega)
  rw[aX c1,aX c1,c2]at this;exact this
 have g:=aq _ vn;generalize B:wQ t.nf u.nf d (cV t.ring p) m=W at *
 by_cases E:eA W
 .rw[aX E,aX E]at g rc;exact⟨nJ,2,g,rc,.inr ⟨E,rfl,rfl⟩⟩
 .rw[bD E,bD E]at g rc;obtain⟨a1,a2,a3⟩:=bk W rfl E;exact⟨W,0,g,rc,.inl ⟨E,rfl,rfl,a1,a2,a3⟩⟩
end Go.Ab
namespace Go.Ab
open Enc (enc)
attribute [local simp] iJ bP.aY
def YA(t u:GTrans)(a:aH):(tL t u a).length<=t.aD.length*(1+u.aD.length)+u.aD.length:=by
 have b:(mE t a.p).length<=t.aD.length:=kB _ _;have d:(mE u a.q).length<=u.aD.length:=kB _ _;unfold tL;rw[gQ];have h:=vH (l:=mE t a.p) (f:=qP t.ring u a) (B:=1+u.aD.length) λx _=>by unfold qP;have k:=HM a x;have m:=vH (l:=mE u a.q) (f:=pZ t.ring a x) (B:=1) λy _=>KC _ _ _ _;rw[gQ];omega
 have i:=vH (l:=mE u a.q) (f:=rD a) (B:=1) λy _=>z54 _ _;have j:(mE t a.p).length*(1+u.aD.length)<=t.aD.length*(1+u.aD.length):=jU _ b;omega
def TA{t u:GTrans}(d:t.ok)(h:∀ w∈t.jP++u.jP,w.li)(k:(t.jP++u.jP).length<=44):∃ M:cQ t.ring,M.lim=5000/\dB M/\∀ w∈t.jP++u.jP,w.aJ t.ring->M.mb 100 w:=by have i:=ygd h k;have f:∀ s,s=6161->LB (yV (t.jP++u.jP)) (HH (yV (t.jP++u.jP))) s:=λs e=>YV (ybg _) (ltW i (by omega)) (by omega);have L:=f 6161 rfl;exact⟨UL L t.ring d.ring 5000 (by decide) (by decide),rfl,Zh L t.ring d.ring 5000 (by decide) (by decide),λw b j=>Zf L j (h w b) (ybh b)⟩
structure GTrans.lc (t:GTrans):Prop where
 sm:t.sm 90
 li:∀ w∈t.jP,w.li
 i5:t.aM.length<=5
 f5:t.fin.length<=5
 al:t.aD.length<=12
 pl:t.ring.parts.length<=6
def Zr{t:GTrans}(h:t.lt):(∀ w∈t.jP,w.li)/\t.jP.length<=22:=by
 refine⟨λw b=>?_,?_⟩
 .simp only[GTrans.jP,dN,cA]at b;obtain b|b|⟨x,d,rfl⟩:=b
  .exact(h.aM.2 w b).li
  .exact(h.fin.2 w b).li
  .exact(h.aD x d).li
 .have:=h.aM.1;have:=h.fin.1;have:=h.al
  simp[GTrans.jP];omega
def GTrans.lt.lc{t:GTrans}(h:t.lt):t.lc:=⟨h.sm.mono (by omega),(Zr h).1,h.aM.1,h.fin.1,h.al,h.ring⟩
def GTrans.lc.wl{t:GTrans}(h:t.lc):t.jP.length<=22:=by
 have:=h.i5;have:=h.f5;have:=h.al
 simp[GTrans.jP];omega
def yck{t u:GTrans}(lt:t.lc)(m:u.lc)(tok:t.ok)(d:u.ok)(j:t.ring=u.ring)(C:t.o=u.i):∃ M:cQ t.ring,M.lim=5000/\pP t u M 112:=by
 have w1:=lt.li;have w2:=m.li;have V:=lt.wl;have W:=m.wl;obtain⟨M,B,L,f⟩:=TA (t:=t) (u:=u) tok (λw f=>(dN.1 f).elim (w1 w) (w2 w)) (by rw[gQ];omega);have Q:=tok.il;have R:=d.il;have X:=lt.i5;have Y:=m.i5;have N:=lt.al;have O:=m.al;have S:=Iu t.ring t.aD;have U:=Iu u.ring u.aD;have p:t.nf.aD.length<=12:=by show(cV t.ring t.aD).length<=12;omega
 have D:u.nf.aD.length<=12:=by show(cV u.ring u.aD).length<=12;omega
 have y:∀ x∈t.aD,x.w.aJ t.ring:=λx b=>(tok.aD x b).2.2.2.2.2.2.2.2;have cb:∀ x∈u.aD,x.w.aJ t.ring:=λx b=>by rw[j];exact(d.aD x b).2.2.2.2.2.2.2.2
 have z:∀ w∈t.jP,w.aJ t.ring->M.mb 112 w:=λw h c=>M.mono (f w (Cf _ h) c) (by omega);have A:∀ w∈u.jP,w.aJ t.ring->M.mb 112 w:=λw h c=>M.mono (f w (List.mem_append_right _ h) c) (by omega);have E:∀ w∈t.aM,w∈t.jP:=λw h=>by simp[GTrans.jP,h]
 have F:∀ w∈t.fin,w∈t.jP:=λw h=>by simp[GTrans.jP,h]
 have G:∀ x∈t.aD,x.w∈t.jP:=λx h=>by simp only[GTrans.jP,dN,cA];exact .inr (.inr ⟨x,h,rfl⟩)
 have H:∀ w∈u.aM,w∈u.jP:=λw h=>by simp[GTrans.jP,h]
 have I:∀ w∈u.fin,w∈u.jP:=λw h=>by simp[GTrans.jP,h]
 have J:∀ x∈u.aD,x.w∈u.jP:=λx h=>by simp only[GTrans.jP,dN,cA];exact .inr (.inr ⟨x,h,rfl⟩)
 have r:=UC M (n:=100) (l:=t.aD) λx b=>⟨f _ (Cf _ (G x b)) (y x b),y x b⟩;have s:=UC M (n:=100) (l:=u.aD) λx b=>⟨f _ (List.mem_append_right _ (J x b)) (cb x b),cb x b⟩;refine⟨M,B,⟨tok,d,j,C,L,by omega,λw h=>z w (E w h) (tok.aM w h),λw h=>z w (F w h) (tok.fin w h),λx b=>M.mono (r x b) (by omega),λw h=>A w (H w h) (by rw[j];exact d.aM w h),λw h=>A w (I w h) (by rw[j];exact d.fin w h),λx b=>M.mono (s x (by rw[j];exact b)) (by omega),by omega,by omega,?_,by omega,by omega,λa=>?_⟩⟩
 .have:=mT (show t.st.toNat<=5 by omega) (show u.st.toNat<=5 by omega);omega
 .have:=YA t.nf u.nf a;have k:=mT (show t.nf.aD.length<=12 from p) (show 1+u.nf.aD.length<=13 by omega);omega
structure DL (t:GTrans):Prop where
 n:zS 24 [enc t] (.bM [enc (if t.ok then t.nf else nJ),.int .i64 (if t.ok then 0 else 4)])
 v:zS 52 [enc t] (.bool (decide t.ok))
 f:t.ok->zS 30 [enc t] (enc t.nf)
def YC(t:GTrans)(h:t.sm 1048576)(d:t.aM.length<=1000000)(b:t.fin.length<=1000000)(f:¬ t.ok):zS 24 [enc t] (.bM [enc nJ,.int .i64 4]):=by refine Sp.vz c.aj λ_=>?_;simp[g.aj];refine aW (Gh t h d b) ?_;rw[decide_eq_false f];simp[nJ]
def DL.of{t:GTrans}(lt:t.lc):DL t:=by
 have sm:=lt.sm.mono (show 90<=1048576 by omega);have l1:=lt.al;have m:=lt.i5;have n:=lt.f5;have o:=lt.pl;have v:=MM t sm (by omega) (by omega);by_cases ok:t.ok
 .have p:=lt.wl;obtain⟨M,l,mp,d⟩:=TA (t:=t) (u:=t) ok (λw d=>(dN.1 d).elim (lt.li w) (lt.li w)) (by rw[gQ];omega);have b:∀ q,kc aE.key t.aD q<=12:=λq=>dM List.countP_le_length l1;have j:∀ w∈t.aM,M.mb 100 w:=λw h=>d w (by simp[GTrans.jP,h]) (ok.aM w h);have i:∀ w∈t.fin,M.mb 100 w:=λw h=>d w (by simp[GTrans.jP,h]) (ok.fin w h);have f:∀ x∈t.aD,M.mb 100 x.w:=λx h=>d x.w (by simp only[GTrans.jP,dN,cA];exact .inl (.inr (.inr ⟨x,h,rfl⟩))) (ok.aD x h).2.2.2.2.2.2.2.2;exact⟨Re t mp 100 12 (by omega) b j i f sm (by omega) (by omega),v,λ_=>Qx t mp 100 12 (by omega) b (by omega) j i f (by omega) (by have:=ok.st2;omega) ok.il ok.fl ok.aM ok.fin λx k=>(ok.aD x k).2.2.2.2.2.2.2.2⟩
 .exact⟨by rw[bD ok,bD ok];exact YC t sm (by omega) (by omega) ok,v,λh=>absurd h ok⟩
def pO.sm{r:aC}{M:cQ r}{n:Nat}{R:GTrans}(h:pO M n R)(d:dB M)(hn:1000+n<=M.lim):R.sm 1048576 :=
 ⟨λw b=>(d.pr (n:=n) (by omega) (by have:=h.ok.aM w b;rwa[h.ring]at this) (h.aM w b)).mono (by omega),λw b=>(d.pr (n:=n) (by omega) (by have:=h.ok.fin w b;rwa[h.ring]at this) (h.fin w b)).mono (by omega),
  λx f=>(d.pr (n:=1000+n) hn (by have:=(h.ok.aD x f).2.2.2.2.2.2.2.2;rwa[h.ring]at this) (h.aD x f)).mono (by omega)⟩
def z23{t u:GTrans}(b:DL t)(d:DL u){M:cQ t.ring}{n:Nat}(h:pP t u M n) :
  ∃ (R:GTrans) (e:Int),zS 9 [enc t,enc u] (.bM [enc R,.int .i64 e])/\zS 10 [enc t,enc u] (.bM [enc R,.int .i64 e])/\((¬ eA (uZ t u)/\R=uZ t u/\e=0/\pO M (n+n+1) R/\R.i=t.i/\R.o=u.o)\/(eA (uZ t u)/\e=2/\R=nJ)):=by
 have j:=b.n;have k:=d.n;rw[aX h.tok,aX h.tok]at j;rw[aX h.vN,aX h.vN]at k;have l:=b.v;have m:=d.v;rw[decide_eq_true h.tok]at l;rw[decide_eq_true h.vN]at m;exact Vp h j k (b.f h.tok) (d.f h.vN) l m
def Bm:List (Ex × aT):=[(⟨0,0,0⟩,cR 1)]
def yfq:lJ ⟨⟨0,0,0⟩,cR 1⟩ []=Bm:=by simp[lJ,kQ,tK,jZ,Bm,C7,kW];exact congrArg cR (Bc 1)
def Nh:yd 1=[⟨⟨0,0,0⟩,cR 1⟩]:=by simp[yd,fS,Ex.ok,pat]
def YQ:zS 238 [enc (cR 1)] (.sl (ens (yd 1))):=by
 have f:=D8.mono (show _<=1048576 by omega);have b:=Mr ⟨⟨0,0,0⟩,cR 1⟩ [] rfl f (λp h=>by cases h);rw[yfq]at b;have d:=λr=>MK r Bm (λp h=>by
  simp only[Bm,iT]at h;subst h;exact f.mono (by omega)) (by simp[Bm]) (by simp[Bm]) (yd 1) (by rw[Nh];simp[Bm,nz,Bo,kW]) (by rw[Nh];exact List.pairwise_singleton _ _)
 refine Sp.fZ c.pg (by simp) ?_;unfold g.pg;generalize k:(λj s (_:Option FA)=>iD [(2,none)] (RV.pure (.sl (ens (yd 1)))) j s)=i;refine MR.dG ?_;simp;refine MR.cK (MR.mC (eC.cons (I4 λr=>?_)));refine xT [[4]] ?_;simp;refine MR.cK (MR.mC (AU 3 [[],[],[]] ?_));simp;refine eC.cons (Ma (args:=[enc (⟨0,0,0⟩:Ex),enc (cR 1)]) b (by simp) (Ik Bm) (Il Bm) ?_);refine xT [] ?_;simp;refine MR.freeze (t:=3) rfl ?_;refine MR.cE ?_;subst k;simp;refine EF (d r) (by simp) ⟨jF _ _ rfl,by decide,by rw[Nh];decide⟩ _ rfl ?_;simp[aI]
def OL:zS 196 [] (enc (dA 1 [])):=by refine Sp.vz c.ay λ_=>?_;simp[g.ay];refine bA MF rfl ?_;simp[dA]
def z79:zS 209 [] (enc (dA 2 [])):=by refine Sp.vz c.bm λ_=>?_;simp[g.bm,dA]
def Wj:zS 226 [] (enc (dA 4 [])):=by refine Sp.vz c.bn λ_=>?_;simp[g.bn,dA]
def yas:zS 237 [] (enc (dA 5 [])):=by refine Sp.vz c.io λ_=>?_;simp[g.io];refine bA MF rfl ?_;simp;refine aW YQ ?_;simp[dA]
def Sq(k:Int)(b:1<=k/\k<=5):Sp P (UP k) [] (.pure (enc (dA k []))):=by
 have:k=1\/k=2\/k=3\/k=4\/k=5:=by omega
 obtain rfl|rfl|rfl|rfl|rfl:=this
 .exact OL
 .exact z79
 .exact OL
 .exact Wj
 .exact yas
def ya5(k:Int)(b:1<=k/\k<=5)(i:Int):zS 148 [xI k,.int .i64 i] (enc (dA k [])):=by obtain⟨j,l,m,n,f,h,d⟩:=ym k b;rw[d];refine Sp.vz c.j9 λ_=>?_;simp[g.j9];refine bA (Sq k b) rfl ?_;simp
def Sr(r:aC):zS 103 [enc r] (enc r.one):=by
 refine Sp.vz c.jr λ_=>?_;simp[g.jr];refine bA (A8 r) rfl ?_;obtain b|b:=iK r.ok;rotate_left
 .simp[b,aC.one,Dy]
 simp[b];refine⟨λf=>?_,λf=>?_⟩
 .have j:=aC.bQ b f;refine bA (HC r j.2.2 j.2.1 148 [] (r.parts.map λk=>dA k []) (by simp) λi h u=>by simpa using ya5 r.parts[i] (j.2.2 _ (List.getElem_mem h)) i) rfl ?_;simp[b,aC.one,dA,f]
 .have d:=aC.cJ b f;obtain⟨o,p,s,t,m,n,l⟩:=ym r.kind ⟨d.1,d.2.1⟩;refine bA (CE r.kind ⟨d.1,d.2.1⟩) rfl ?_;simp[l];refine bA (Sq r.kind ⟨d.1,d.2.1⟩) rfl ?_;simp[b,aC.one,d.2.2,dA]
def oR(r:aC)(n:Nat):List GW:=(List.range (n+1)).map λi=>if i=0 then r.one else r.zero
def oS(r:aC)(n:Nat):List GW:=(List.range (n+1)).map λi=>if i=n then r.one else r.zero
def kT(r:aC)(w:List Int):List aV:=(List.range w.length).map λi:Nat=>(⟨(i:Int),w.getD i 0,(i:Int)+1,r.one⟩:aV)
def jK(r:aC)(b:Int)(w:List Int):aU:=⟨r,b,(w.length:Int)+1,oR r w.length,oS r w.length,kT r w⟩
def qE:AV:=.agg [.p (.int .i64 0),.nil,.p (.int .i64 0),.p (.int .i64 0),.nil,.nil,.nil]
def xD(r:aC)(b:Int)(w:List Int)(A B:List GW)(k:Nat):St :=
 aB [(2,.p (.sl (ens w))),(3,.ptr 3 0 0 0),(6,.ptr 6 0 0 0),(7,.p (.int .i64 w.length)),(8,.ptr 8 0 0 0),(21,.p (.int .i64 ((w.length:Int)+1))),(22,.p (.int .i64 k))]
  [(3,⟨2,[.p (enc r)]⟩),(6,⟨7,[qE]⟩),(8,⟨7,[.agg [.p (.int .i64 r.kind),.p (.sl (ens r.parts)),.p (.int .i64 b),.p (.int .i64 ((w.length:Int)+1)),.own 91 0 0 A.length,.own 92 0 0 B.length,.nil]]⟩),(91,⟨8,aK A⟩),(92,⟨8,aK B⟩)]
def Aw(r:aC)(b:Int)(w:List Int)(A B:List GW)(C:List aV)(k:Nat):St :=
 aB [(3,.ptr 3 0 0 0),(6,.ptr 6 0 0 0),(8,.ptr 8 0 0 0),(56,.p (.sl (ens w))),(57,.p (.int .i64 w.length)),(58,.p (.int .i64 k))]
  [(3,⟨2,[.p (enc r)]⟩),(6,⟨7,[qE]⟩),(8,⟨7,[.agg [.p (.int .i64 r.kind),.p (.sl (ens r.parts)),.p (.int .i64 b),.p (.int .i64 ((w.length:Int)+1)),.own 91 0 0 A.length,.own 92 0 0 B.length,.own 93 0 0 C.length]]⟩),(91,⟨8,aK A⟩),(92,⟨8,aK B⟩),(93,⟨11,aK C⟩)]
def yco(r:aC)(s:Int)(w:List Int)(F:w.length<=100000){Q:Exit->St->Prop}{ks:List Kt}{st:St}(z:aA st (xD r s w [] [] 0))
  (C:gA P 77 Q (fO 0 ks) 0 (xD r s w (oR r w.length) (oS r w.length) (w.length+1))):vL P 77 Q g.rq ks st:=by
 have D:=wG r;have t:=Sr r;have x:∀ (f:Nat->GW) k,k<w.length+1->((List.range (w.length+1)).map f).take (k+1)=((List.range (w.length+1)).map f).take k++[f k]:=λf k y=>by rw[List.take_succ_eq_append_getElem (by simpa using y)];simp
 refine b6 (S:=λk:Nat=>xD r s w ((oR r w.length).take k) ((oS r w.length).take k) k) (I:=λk=>k<=w.length+1) (m:=λk=>w.length+1 - k) 0 (by simpa using z) (by omega) ?_;rintro k y R l E n;have p:=aZ k;by_cases i:k<w.length+1
 .have b:∀ d,aA d (xD r s w ((oR r w.length).take k++[if k=0 then r.one else r.zero]) ((oS r w.length).take k++[if k=w.length then r.one else r.zero]) (k+1))->R .normal d:=λd h=>l (k+1) d (by
   rw[show(oR r w.length).take (k+1)=(oR r w.length).take k++[if k=0 then r.one else r.zero] from x _ k i,show(oS r w.length).take (k+1)=(oS r w.length).take k++[if k=w.length then r.one else r.zero] from x _ k i];exact h) (by omega) (by omega)
  have J:((oR r w.length).take k).length<=200000:=by rw[fY];omega
  have L:((oS r w.length).take k).length<=200000:=by rw[fY];omega
  generalize (oR r w.length).take k=A at *
  generalize (oS r w.length).take k=B at *
  clear l n E z C x;generalize r.one=w1 at *
  generalize r.zero=w0 at *
  have j:(k:Int)<(w.length:Int)+1:=by omega
  simp[g.rq,xD,aB,qE,j];refine aW D ?_;simp;refine aW D ?_;simp;refine⟨λo=>?_,λo=>?_⟩
  .refine aW t ?_;simp;refine⟨λu=>?_,λu=>?_⟩
   .refine aW t ?_;simp;rw[aX o,aX (show k=w.length by omega)]at b;exact⟨by omega,by omega,b _ (aA.to [2,3,6,7,8,21,22] [((3,0),3),((6,0),6),((8,0),8),((46,0),91),((52,0),92)] (by simp[xD,aB,qE,p]))⟩
   .rw[aX o,bD (show ¬ k=w.length by omega)]at b;exact⟨by omega,by omega,b _ (aA.to [2,3,6,7,8,21,22] [((3,0),3),((6,0),6),((8,0),8),((46,0),91),((52,0),92)] (by simp[xD,aB,qE,p]))⟩
  .refine⟨λu=>?_,λu=>?_⟩
   .refine aW t ?_;simp;rw[bD o,aX (show k=w.length by omega)]at b;exact⟨by omega,by omega,b _ (aA.to [2,3,6,7,8,21,22] [((3,0),3),((6,0),6),((8,0),8),((46,0),91),((52,0),92)] (by simp[xD,aB,qE,p]))⟩
   .rw[bD o,bD (show ¬ k=w.length by omega)]at b;exact⟨by omega,by omega,b _ (aA.to [2,3,6,7,8,21,22] [((3,0),3),((6,0),6),((8,0),8),((46,0),91),((52,0),92)] (by simp[xD,aB,qE,p]))⟩
 .have:k=w.length+1:=by omega
  subst this;have G:(oR r w.length).take (w.length+1)=oR r w.length:=List.take_of_length_le (by simp[oR]);have H:(oS r w.length).take (w.length+1)=oS r w.length:=List.take_of_length_le (by simp[oS]);rw[G,H];simp[g.rq,xD,aB,qE];refine n _ _ ?_;simpa[xD,aB,qE]using C
def ycn(r:aC)(l:Int)(w:List Int)(D:w.length<=100000){A B:List GW}{Q:Exit->St->Prop}{ks:List Kt}{st:St}(t:aA st (Aw r l w A B [] 0))
  (u:gA P 77 Q (fO 2 ks) 2 (Aw r l w A B (kT r w) w.length)):vL P 77 Q g.rr ks st:=by
 have y:=Sr r;refine b6 (S:=λk:Nat=>Aw r l w A B ((kT r w).take k) k) (I:=λk=>k<=w.length) (m:=λk=>w.length - k) 0 (by simpa using t) (by omega) ?_;rintro k F R f z i;have x:=aZ k;have G:(kT r w).length=w.length:=by simp[kT]
 by_cases d:k<w.length
 .have o:aK ((kT r w).take (k+1))=aK ((kT r w).take k)++[.p (enc (⟨(k:Int),w[k],(k:Int)+1,r.one⟩:aV))]:=by rw[ed (by omega),sR];simp[kT,d]
  have s:((kT r w).take k).length=k:=by rw[fY];omega
  have b:=λj (h:aA j (Aw r l w A B ((kT r w).take (k+1)) (k+1)))=>f (k+1) j h (by omega) (by omega);have n:((kT r w).take (k+1)).length=k+1:=by rw[fY];omega
  unfold Aw at b;rw[o,n]at b;unfold Aw;rw[s];generalize (kT r w).take k=C at *
  clear f i z t u;generalize r.one=w1 at *
  simp[g.rr,aB,qE,d];refine bK d ?_;refine aW y ?_;simp;exact⟨⟨s.symm,by omega⟩,b _ (aA.to [3,6,8,56,57,58] [((3,0),3),((6,0),6),((8,0),8),((91,0),91),((92,0),92),((73,0),93)] (by simp[aB,qE,x]))⟩
 .have:k=w.length:=by omega
  subst this;have E:(kT r w).take w.length=kT r w:=List.take_of_length_le (by omega);rw[E];simp[g.rr,Aw,aB,qE];refine i _ _ ?_;simpa[Aw,aB,qE]using u
def ycl(r:aC)(d:Int)(w:List Int)(b:w.length<=100000):zS 50 [enc r,.int .i64 d,.sl (ens w)] (enc (jK r d w)):=by refine Sp.vz c.mq λ_=>?_;have f:IntKind.i64.wrap ((w.length:Int)+1)=(w.length:Int)+1:=cT;simp[g.mq,f];refine yco r d w b ((aA.b5 (s0:=8) (g0:=0) (i:=4) (s:=77) (sz:=8) rfl).trans ((aA.b5 (s0:=8) (g0:=0) (i:=5) (s:=78) (sz:=8) rfl).trans (aA.to [2,3,6,7,8,21,22] [((3,0),3),((6,0),6),((8,0),8),((77,0),91),((78,0),92)] (by simp[xD,aB,qE])))) ?_;simp[xD,aB];refine ycn r d w b (A:=oR r w.length) (B:=oS r w.length) ((aA.b5 (s0:=8) (g0:=0) (i:=6) (s:=77) (sz:=11) rfl).trans (aA.to [3,6,8,56,57,58] [((3,0),3),((6,0),6),((8,0),8),((91,0),91),((92,0),92),((77,0),93)] (by simp[Aw,aB,qE]))) ?_;simp[Aw,aB];exact⟨rfl,rfl,rfl,rfl,rfl,rfl,rfl⟩
def YO(r:aC)(n:Nat)(o:n<=1073741824):Sp P 110 [enc r,.int .i64 n] (.fresh 8 (ens (List.replicate n r.zero))):=by
 refine Sp.vz c.n8 λ_=>?_;simp[g.n8]
 refine b6 (S:=λx:Nat × List GW=>aB [(1,.p (.int .i64 n)),(2,.ptr 1 0 0 0),(5,.own 2 0 0 x.2.length),(6,.p (.int .i64 x.1))] [(1,⟨2,[.p (enc r)]⟩),(2,⟨8,aK x.2⟩)])
  (I:=λx=>x.1<=n/\x.2=List.replicate x.1 r.zero) (m:=λx=>n - x.1) (0,[])
  (aA.nl 5 77 8 rfl (aA.to [1,2,5,6] [((2,0),1),((77,0),2)] (by simp))) ⟨by omega,by simp⟩ ?_
 rintro⟨k,l⟩ ⟨f,b⟩ R j t s;simp at f b;have i:l.length=k:=by rw[b];simp
 have d:=aZ k;simp[g.v6,aB];refine⟨λh=>?_,λh=>s _ _ ?_⟩
 .refine aW (F2 r) ?_;simp[d];exact⟨by omega,j (k+1,l++[r.zero]) _ (aA.to [1,2,5,6] [((1,0),1),((16,0),2)] (by simp)) ⟨by show k+1<=n;omega,by rw[b,Jv]⟩ (by show n - (k+1)<n - k;omega)⟩
 .have:k=n:=by omega
  subst this;simp[i];rw[b,Ja];simp
def yg4(r:aC)(n:Nat):oR r n=(List.replicate (n+1) r.zero).set 0 r.one:=by
 apply Bb
 .simp[oR]
 .intro i b d;simp only[oR,Ce,GI,List.getElem_set,List.getElem_replicate];by_cases h:i=0
  .rw[aX h,aX h.symm]
  .rw[bD h,bD λe=>h e.symm]
def yg5(r:aC)(n:Nat):oS r n=(List.replicate (n+1) r.zero).set n r.one:=by
 apply Bb
 .simp[oS]
 .intro i b d;simp only[oS,Ce,GI,List.getElem_set,List.getElem_replicate];by_cases h:i=n
  .rw[aX h,aX h.symm]
  .rw[bD h,bD λe=>h e.symm]
def Ax(r:aC)(b:Int)(w:List Int)(A B:List GW)(C:List aV)(k:Nat):St :=
 aB [(2,.p (.sl (ens w))),(3,.ptr 3 0 0 0),(6,.ptr 6 0 0 0),(7,.p (.int .i64 w.length)),(8,.ptr 8 0 0 0),(9,.p (.int .i64 k))]
  [(3,⟨2,[.p (enc r)]⟩),(6,⟨7,[qE]⟩),(8,⟨7,[.agg [.p (.int .i64 r.kind),.p (.sl (ens r.parts)),.p (.int .i64 b),.p (.int .i64 ((w.length:Int)+1)),.own 91 0 0 A.length,.own 92 0 0 B.length,.own 93 0 0 C.length]]⟩),(91,⟨8,aK A⟩),(92,⟨8,aK B⟩),(93,⟨11,aK C⟩)]
def ycm(r:aC)(l:Int)(w:List Int)(D:w.length<=100000){A B:List GW}{Q:Exit->St->Prop}{ks:List Kt}{st:St}(t:aA st (Ax r l w A B [] 0))
  (u:gA P 57 Q (fO 0 ks) 0 (Ax r l w A B (kT r w) w.length)):vL P 57 Q g.ru ks st:=by
 have y:=HQ r;refine b6 (S:=λk:Nat=>Ax r l w A B ((kT r w).take k) k) (I:=λk=>k<=w.length) (m:=λk=>w.length - k) 0 (by simpa using t) (by omega) ?_;rintro k F R f z i;have x:=aZ k;have G:(kT r w).length=w.length:=by simp[kT]
 by_cases d:k<w.length
 .have o:aK ((kT r w).take (k+1))=aK ((kT r w).take k)++[.p (enc (⟨(k:Int),w[k],(k:Int)+1,r.one⟩:aV))]:=by rw[ed (by omega),sR];simp[kT,d]
  have s:((kT r w).take k).length=k:=by rw[fY];omega
  have b:=λj (h:aA j (Ax r l w A B ((kT r w).take (k+1)) (k+1)))=>f (k+1) j h (by omega) (by omega);have n:((kT r w).take (k+1)).length=k+1:=by rw[fY];omega
  unfold Ax at b;rw[o,n]at b;unfold Ax;rw[s];generalize (kT r w).take k=C at *
  clear f i z t u;generalize r.one=w1 at *
  simp[g.ru,aB,qE,d];refine bK d ?_;refine aW y ?_;simp;exact⟨⟨s.symm,by omega⟩,b _ (aA.to [2,3,6,7,8,9] [((3,0),3),((6,0),6),((8,0),8),((91,0),91),((92,0),92),((54,0),93)] (by simp[aB,qE,x]))⟩
 .have:k=w.length:=by omega
  subst this;have E:(kT r w).take w.length=kT r w:=List.take_of_length_le (by omega);rw[E];simp[g.ru,Ax,aB,qE];refine i _ _ ?_;simpa[Ax,aB,qE]using u
def z24(r:aC)(k:Int)(w:List Int)(f:w.length<=100000):zS 55 [enc r,.int .i64 k,.sl (ens w)] (enc (jK r k w)):=by
 refine Sp.vz c.mz λ_=>?_;have d:IntKind.i64.wrap ((w.length:Int)+1)=((w.length+1:Nat):Int):=cT;have h:=YO r (w.length+1) (by omega);obtain⟨Z,b⟩:∃ Z,Z=List.replicate (w.length+1) r.zero:=⟨_,rfl⟩;rw[<- b]at h;have j:Z.length=w.length+1:=by rw[b];simp
 have m:oR r w.length=Z.set 0 r.one:=by rw[b,yg4]
 have l:oS r w.length=Z.set w.length r.one:=by rw[b,yg5]
 clear b;simp[g.mz];refine ED h (by simp[d]) ⟨jF _ _ rfl,by decide,by simp[-gW,ens,eL];omega⟩ (by simp) ?_;simp;refine ED h (by simp[d]) ⟨jF _ _ rfl,by decide,by simp[-gW,ens,eL];omega⟩ (by simp) ?_;simp;refine aW (HQ r) ?_;simp;refine aW (HQ r) ?_;simp;refine⟨by omega,bK (show 0<Z.length by omega) ?_⟩;refine⟨by omega,bK (show w.length<Z.length by omega) ?_⟩;refine ycm r k w f (A:=oR r w.length) (B:=oS r w.length) ((aA.b5 (s0:=8) (g0:=0) (i:=6) (s:=77) (sz:=11) rfl).trans (aA.to [2,3,6,7,8,9] [((3,0),3),((6,0),6),((8,0),8),((19,0),91),((23,0),92),((77,0),93)] (by simp[Ax,aB,qE,m,l,d,j]))) ?_;simp[Ax,aB];exact⟨rfl,rfl,rfl,rfl,rfl,rfl,rfl⟩
end Go.Ab
namespace Go.Ab
open Go.Proofs
open Enc (enc)
abbrev nB:SI:=⟨11,by decide,402,382,353,352,307,255⟩
def c.y7:aP P nB.sw=some ⟨38,5,(GD nB).er,[]⟩:=by kernel_rfl
def c.y8:aP P nB.ro=some ⟨58,5,(Gz nB).er,[]⟩:=by kernel_rfl
def c.y9:aP P nB.sm=some ⟨220,5,(Dz nB).er,[]⟩:=by kernel_rfl
def c.za:aP P nB.ins=some ⟨53,4,(Fs nB).er,[]⟩:=by kernel_rfl
def c.zd:aP P nB.st=some ⟨63,3,(GB nB).er,[]⟩:=by kernel_rfl
def c.ze:aP P nB.so=some ⟨9,2,(GA nB).er,[]⟩:=by kernel_rfl
def yeq:pK nB:=⟨c.y7,c.y8,c.y9,c.za,c.zd,c.ze⟩
section
variable {α : Type} [Enc α]
def V'(f:Enc.sz α = 11)(b:∀ x : α,(enc x).cells.all PV.one=true){key : α -> List Int}{cf:FuncId}{D : α -> Prop}(i:∀ x y,D x->D y->∃ n:Int,Sp P cf [enc x,enc y] (.pure (.int .i64 n))/\(n<0 ↔ key x<key y))
  (l:List α) (d:l.length<=1000000) (h:∀ x∈l,D x):gO P 255 [.sl (ens l),.fn cf []] 0 11 (ens (bW key l)) (.pure (.bM [])):=LP yeq f b i l d h
end
end Go.Ab
namespace Go.Ab
open Enc (enc)
def QP{r:aC}(M:cQ r){n:Nat}{l:List aV}(h:∀ x∈l,M.mb n x.w/\x.w.aJ r)(k:Nat)(f:k<=l.length) :
  ∀ x∈eU aV.key (lO r) id (l.take k),M.mb (kc aV.key (l.take k) x.key+n) x.w/\x.w.aJ r :=
 KW (key:=aV.key) (up:=lO r) (nw:=id) (λ_ _=>rfl) (λ_=>rfl) (Q:=λc x=>M.mb (c+n) x.w/\x.w.aJ r) (λh k=>⟨M.mono h.1 (by omega),h.2⟩) (λx b=>⟨M.mono (h x b).1 (by show n<=0+n;omega),(h x b).2⟩)
  (λc z x b _ d=>⟨by have:=M.plus d.2 (h x b).2 d.1 (M.mono (h x b).1 (by omega));exact M.mono this (by omega),(BU d.2 (h x b).2:(r.plus z.w x.w).aJ r)⟩) k f
def X6{r:aC}{M:cQ r}(J:dB M)(l:List aV)(n B:Nat)(hn:B+n<=M.lim)(hB:∀ q,kc aV.key l q<=B)(hl:l.length<=100000)(h:∀ x∈l,M.mb n x.w/\x.w.aJ r) :
  zS 179 [enc r,.sl (ens l)] (.sl (ens (mY r l))):=by
 have hs:=gB (key:=aV.key) l;have Y:∀ x∈bW aV.key l,M.mb n x.w/\x.w.aJ r:=λx t=>h x ((hs.2.2 x).1 t);have V:=QP M Y;have E:∀ k q,kc aV.key ((bW aV.key l).take k) q<=B:=λk q=>dM (HT _ _ _) (by rw[FL (F6 l)];exact hB q);have U:=λk (i:k<=(bW aV.key l).length)=>FE (key:=aV.key) (up:=lO r) (nw:=id) (λ_ _=>rfl) (λ_=>rfl) (bW aV.key l) k i;unfold mY;generalize hS:bW aV.key l=S at *
 have F:S.length=l.length:=hs.2.1;have d:∀ x:aV,(enc x).cells.all PV.one=true:=λx=>by simp[PV.cells]
 refine Sp.vz c.d6 λ_=>?_;simp[g.d6];refine ED (RG l (by omega)) (by simp) ⟨jF _ _ rfl,by decide,by simp[-gW,ens,eL];omega⟩ (by simp) ?_;simp;refine MH (V' rfl d (key:=aV.key) (cf:=256) (D:=λ_=>True) (λx y _ _=>⟨_,IT x y,CG rfl⟩) l (by omega) λ_ _=>trivial) (by simp) rfl rfl (by simp) (by simp) (by simp[hS,F]) rfl (jF _ _ rfl) (cells_one d _) (by simp) ?_;simp;rw[hS]
 refine b6 (S:=λk:Nat=>aB [(2,.ptr 2 0 0 0),(6,.own 1 0 0 (eU aV.key (lO r) id (S.take k)).length),(14,.own 3 0 0 S.length),(15,.p (.int .i64 S.length)),(16,.p (.int .i64 k))] [(2,⟨2,[.p (enc r)]⟩),(1,⟨11,aK (eU aV.key (lO r) id (S.take k))⟩),(3,⟨11,aK S⟩)]) (I:=λk=>k<=S.length) (m:=λk=>S.length - k) 0
  (aA.nl 6 77 11 rfl (aA.to [2,6,14,15,16] [((2,0),2),((77,0),1),((11,0),3)] (by simp[F,eU]))) (by omega) ?_
 rintro k h1 R s hr t;have N:=aZ k;have H:=U k h1;have u:=V k h1;generalize L:eU aV.key (lO r) id (S.take k)=O at *
 by_cases i:k<S.length;rotate_left
 .have:k=S.length:=by omega
  subst this;have af:=L;rw[eZ (dE _)]at L;rw[L]at t hr;simp[g.qp,aB];refine t _ _ ?_;simp;refine IV (Rt 258 [.ref (enc r)] (λx=>decide (x.w=r.zero)) O (by omega) λx t=>P3 x r ((J.pr (show kc aV.key (S.take S.length) x.key+n<=M.lim by have:=E S.length x.key;omega) (u x t).2 (u x t).1).mono (by omega))) (by simp[A7,AJ]) rfl rfl (by simp) (by simp) (by simp;have:=kB (λx:aV=>!decide (x.w=r.zero)) O;omega) rfl (jF _ _ rfl) (cells_one d _) (by simp) (kB _ _) ?_;generalize hF:O.filter (λx=>!decide (x.w=r.zero))=f at *
  have ad:f.length<=O.length:=by rw[<- hF];exact kB _ _
  have A:=It f (List.replicate (O.length - f.length) (⟨0,0,0,dT⟩:aV));have C:f.length<=(ens (f++List.replicate (O.length - f.length) (⟨0,0,0,dT⟩:aV))).length:=by simp[-gW,ens]
  generalize ens (f++List.replicate (O.length - f.length) (⟨0,0,0,dT⟩:aV))=A0 at *
  cases ag:A0.all PV.flat
  .simp[aI];rw[A];simp[C]
  .simp;rw[A];simp[C]
 have j:=Y _ (bU i);have b:=EI (key:=aV.key) (up:=lO r) (nw:=id) i;rw[L]at b;have W:=yC j.2.1;have pz:=z6 j.2;obtain rfl|⟨o,z,rfl⟩:=B' O
 .simp[g.qp,aB,i];refine bK i ?_;refine bA (wG r) rfl ?_;simp;refine aW (J.pw (n:=n) (by omega) j.2 W j.1 (M.mono M.zero (vI n))) ?_;rw[pz];simp[N];refine s (k+1) _ (aA.to [2,6,14,15,16] [((2,0),2),((59,0),1),((3,0),3)] ?_) (by omega) (by omega);rw[b];simp[aB,gS]
 .have X:IntKind.i64.wrap (o.length:Int)=(o.length:Int):=cL (by omega) (by simp at H;omega);simp[g.qp,aB,i,X];refine bK i ?_;refine aW (IT z S[k]) ?_;simp[X];have hz:=u z (by simp);have G:eW z.key S[k].key=0 ↔ z.key=S[k].key:=CF (by simp[aV.key]);refine⟨λQ=>?_,λQ=>?_⟩
  .rw[xV,FF (key:=aV.key) (z:=z) (y:=S[k]) (G.1 Q)]at b;refine aW (J.pw (n:=kc aV.key (S.take k) z.key+n) (by have:=E k z.key;omega) hz.2 j.2 hz.1 (M.mono j.1 (by omega))) ?_;simp[N];refine s (k+1) _ (aA.to [2,6,14,15,16] [((2,0),2),((1,0),1),((3,0),3)] ?_) (by omega) (by omega);rw[b];simp[aB,lO]
  .rw[xV,CI (key:=aV.key) (z:=z) (y:=S[k]) (λh=>Q (G.2 h))]at b;refine bA (wG r) rfl ?_;simp;refine aW (J.pw (n:=n) (by omega) j.2 W j.1 (M.mono M.zero (vI n))) ?_;rw[pz];simp[N];refine⟨by simp at H;omega,s (k+1) _ (aA.to [2,6,14,15,16] [((2,0),2),((59,0),1),((3,0),3)] ?_) (by omega) (by omega)⟩;rw[b];simp[aB]
end Go.Ab
namespace Go.Ab
open Enc (enc)
attribute [local simp] iJ bP.aY
def Yq{r:aC}(M:cQ r){n:Nat}{l:List aV}(h:∀ x∈l,M.mb n x.w/\x.w.aJ r)(k:Nat)(f:k<=l.length) :
  ∀ x∈nZ aV.key (lO r) id (l.take k),M.mb (kc aV.key (l.take k) x.key+n) x.w/\x.w.aJ r :=
 KD (key:=aV.key) (up:=lO r) (nw:=id) (λ_ _=>rfl) (λ_=>rfl) (Q:=λc x=>M.mb (c+n) x.w/\x.w.aJ r) (λh k=>⟨M.mono h.1 (by omega),h.2⟩) (λx b=>⟨M.mono (h x b).1 (by show n<=0+n;omega),(h x b).2⟩)
  (λc z x b _ d=>⟨by have:=M.plus d.2 (h x b).2 d.1 (M.mono (h x b).1 (by omega));exact M.mono this (by omega),(BU d.2 (h x b).2:(r.plus z.w x.w).aJ r)⟩) k f
def WU{r:aC}{M:cQ r}(Y:dB M)(l:List aV)(n B:Nat)(hn:B+n<=M.lim)(hB:∀ q,kc aV.key l q<=B)(hl:l.length<=100000)(h:∀ x∈l,M.mb n x.w/\x.w.aJ r) :
  zS 187 [enc r,.sl (ens l)] (.sl (ens (JO r l))):=by
 have X:=Yq M h;have z:∀ k q,kc aV.key (l.take k) q<=B:=λk q=>dM (HT _ _ _) (hB q);have W:=λk (y:k<=l.length)=>KE (key:=aV.key) (up:=lO r) (nw:=id) (λ_ _=>rfl) (λ_=>rfl) l k y;refine Sp.vz c.pf λ_=>?_;simp[g.pf]
 refine b6 (S:=λk:Nat=>aB [(1,.p (.sl (ens l))),(2,.ptr 2 0 0 0),(5,.own 1 0 0 (nZ aV.key (lO r) id (l.take k)).length),(6,.p (.int .i64 k))] [(2,⟨2,[.p (enc r)]⟩),(1,⟨11,aK (nZ aV.key (lO r) id (l.take k))⟩)]) (I:=λk=>k<=l.length) (m:=λk=>l.length - k) 0
  (aA.nl 5 77 11 rfl (aA.to [1,2,5,6] [((2,0),2),((77,0),1)] (by simp[nZ]))) (by omega) ?_
 rintro k h1 R b hr J;have N:=aZ k;have al:=W k h1;have G:=X k h1;generalize Q:nZ aV.key (lO r) id (l.take k)=O at *
 by_cases y:k<l.length
 .have E:=h _ (bU y);have d:=Gt (key:=aV.key) (up:=lO r) (nw:=id) y;rw[Q]at d;simp[g.ue,aB,y];refine bK y ?_
  try simp
  generalize l[k]=x at *
  refine aW (lQ r x.w ((Y.pr (n:=n) (by omega) E.2 E.1).mono (by omega))) ?_;rw[Fv E.2];simp
  refine b6 (S:=λi:Nat=>aB [(1,.p (.sl (ens l))),(2,.ptr 2 0 0 0),(5,.own 1 0 0 O.length),(6,.p (.int .i64 k)),(7,.ptr 3 0 0 0),(8,.p (.int .i64 i))] [(2,⟨2,[.p (enc r)]⟩),(1,⟨11,aK O⟩),(3,⟨11,[.p (enc x)]⟩)]) (I:=λi=>i<=O.length/\∀ j,(f:j<O.length)->j<i->O[j].key<x.key) (m:=λi=>O.length - i) 0
   (aA.to [1,2,5,6,7,8] [((2,0),2),((1,0),1),((7,0),3)] (by simp)) ⟨by omega,λj _ f=>by omega⟩ ?_
  rintro i ⟨j1,L⟩ R2 V ag F;have H:=aZ i;by_cases o:i<O.length
  .simp[g.ud,aB,o];refine bK o ?_;refine aW (Mf O[i] x) ?_;have D:eW O[i].key x.key<0 ↔ O[i].key<x.key:=CG (by simp[aV.key]);have A:eW O[i].key x.key=0 ↔ O[i].key=x.key:=CF (by simp[aV.key]);simp;refine⟨λh8=>?_,λh8=>F _ _ ?_⟩
   .rw[H];refine V (i+1) _ (aA.to [1,2,5,6,7,8] [((2,0),2),((1,0),1),((3,0),3)] (by simp[aB])) ⟨by omega,λj f s=>?_⟩ (by omega);by_cases U:j<i
    .exact L j f U
    .have:j=i:=by omega
     subst this;exact D.1 h8
   .simp[o];refine bK o ?_;refine aW (Mf O[i] x) ?_;simp;refine⟨λs=>?_,λs=>?_⟩
    .rw[R' o L (A.1 s)]at d;have u:=G _ (bU o);refine⟨o,bK o ?_⟩;refine aW (M.plusS (n:=kc aV.key (l.take k) O[i].key+n) (by have:=z k O[i].key;omega) u.2 E.2 u.1 (M.mono E.1 (by omega))) ?_;simp[N,o];refine bK o ?_;refine b (k+1) _ (aA.to [1,2,5,6] [((2,0),2),((1,0),1)] ?_) (by omega) (by omega);rw[d];simp[aB,lO]
    .rw[Tk o L (λh=>by have:=D.2 h;omega) (λh=>s (A.2 h))]at d;have ad:O.length<=100000:=by omega
     have hm:min i O.length=i:=by omega
     rw[hm];refine⟨by omega,⟨by omega,by omega⟩,by omega,by omega,⟨by omega,by omega⟩,?_⟩;rw[N];have C:i+1+(O.length - i)=O.length+1:=by omega
     refine b (k+1) _ (aA.to [1,2,5,6] [((2,0),2),((77,0),1)] ?_) (by omega) (by omega);rw[d];simp[aB,C];exact⟨by omega,by rw[eZ (by simp)]⟩
  .have:i=O.length:=by omega
   subst this;rw[Ti λj f=>L j f f]at d;simp[g.ud,aB];refine F _ _ ?_;simp;rw[N];refine⟨by omega,by omega,b (k+1) _ (aA.to [1,2,5,6] [((2,0),2),((77,0),1)] ?_) (by omega) (by omega)⟩;rw[d];simp[aB]
 .have:k=l.length:=by omega
  subst this;rw[eZ (dE _)]at Q;have hf:JO r l=O.filter λx=>!decide (x.w=r.zero):=by rw[<- Q];rfl
  simp[g.ue,aB];refine J _ _ ?_;simp;rw[hf];clear J hr b
  refine b6 (S:=λj:Nat=>aB [(2,.ptr 2 0 0 0),(5,.own 1 0 0 O.length),(9,.own 3 0 0 ((O.take j).filter λx=>!decide (x.w=r.zero)).length),(10,.p (.int .i64 j))] [(2,⟨2,[.p (enc r)]⟩),(1,⟨11,aK O⟩),(3,⟨11,aK ((O.take j).filter λx=>!decide (x.w=r.zero))⟩)]) (I:=λj=>j<=O.length) (m:=λj=>O.length - j) 0
   (aA.nl 9 78 11 rfl (aA.to [2,5,9,10] [((2,0),2),((1,0),1),((78,0),3)] (by simp))) (by omega) ?_
  rintro j j1 R b hr J;have H:=aZ j;by_cases f:j<O.length
  .have af:((O.take j).filter λx=>!decide (x.w=r.zero)).length<=j:=dM (kB _ _) (by rw[fY];omega);have t:(O.take (j+1)).filter (λx=>!decide (x.w=r.zero))=(O.take j).filter (λx=>!decide (x.w=r.zero))++if O[j].w=r.zero then[]else[O[j]]:=by rw[ed f,tW];by_cases u:O[j].w=r.zero<;>simp[u]
   generalize hT:(O.take j).filter (λx=>!decide (x.w=r.zero))=T at *
   have u:=G _ (bU f);simp[g.ug,aB,f];refine bK f ?_;refine aW (Gm r O[j].w ((Y.pr (n:=kc aV.key (l.take l.length) O[j].key+n) (by have:=z l.length O[j].key;omega) u.2 u.1).mono (by omega))) ?_;by_cases s:O[j].w=r.zero
   .rw[decide_eq_true s];simp[H];rw[aX s]at t;refine b (j+1) _ (aA.to [2,5,9,10] [((2,0),2),((1,0),1),((3,0),3)] ?_) (by omega) (by omega);rw[t];simp[aB]
   .rw[decide_eq_false s];simp[f];rw[bD s]at t;refine bK f ?_;rw[H];refine⟨by omega,b (j+1) _ (aA.to [2,5,9,10] [((2,0),2),((1,0),1),((98,0),3)] ?_) (by omega) (by omega)⟩;rw[t];simp[aB]
  .have:j=O.length:=by omega
   subst this;simp[g.ug,aB];refine J _ _ ?_;simp
def Xk(a:aU){M:cQ a.ring}(i:dB M)(n B:Nat)(hn:B+n<=M.lim)(k:∀ q,kc aV.key a.aD q<=B)(m:a.aD.length<=100000)(l:∀ x∈a.aD,M.mb n x.w)(s:∀ w∈a.aM,w.sm 1048576)(r:∀ w∈a.fin,w.sm 1048576)(hp:a.ring.parts.length<=1000000)(p:a.aM.length<=1000000)(o:a.fin.length<=1000000)
  (ci:∀ w∈a.aM,w.aJ a.ring) (cf:∀ w∈a.fin,w.aJ a.ring) (j:∀ x∈a.aD,x.w.aJ a.ring) :
  zS 150 [enc a] (enc a.nf):=by
 have d:=Pd a.ring a.aM s p;have f:=Pd a.ring a.fin r o;rw[T2 ci]at d;rw[T2 cf]at f;have h:=WU i a.aD n B hn k m λx b=>⟨l x b,j x b⟩;rw[Yr]at h;refine Sp.vz c.gp λ_=>?_;simp[g.gp];refine aW (yad a.ring hp) ?_;simp;refine aW d ?_;simp;refine aW f ?_;simp;refine aW h ?_;simp[aU.nf]
def U9(a:aU){M:cQ a.ring}(d:dB M)(n B:Nat)(hn:B+n<=M.lim)(i:∀ q,kc aV.key a.aD q<=B)(l:∀ w∈a.aM,M.mb n w)(k:∀ w∈a.fin,M.mb n w)(j:∀ x∈a.aD,M.mb n x.w)(f:a.sm 1048576) :
  zS 136 [enc a] (.bM [enc (if a.vb then a.nf else jS),.int .i64 (if a.vb then 0 else 4)]):=by
 refine Sp.vz c.bq λ_=>?_;simp[g.bq];refine aW (Mn a f) ?_;cases m:a.vb
 .simp[jS]
 have b:=aU.iV.1 m;have o:=b.il;have p:=b.fl;have r:=b.st2
 simp;refine aW (OR a.ring (by have:=BP b.ring;omega)) ?_;simp;refine aW (Iw d a.aM n (by omega) b.ring (by omega) l b.aM) ?_;simp;refine aW (Iw d a.fin n (by omega) b.ring (by omega) k b.fin) ?_;simp;refine aW (X6 d a.aD n B hn i (by have:=b.al;omega) λx h=>⟨j x h,(b.aD x h).2.2.2.2.2.2⟩) ?_;simp[aU.nf]
def Vv(t:GTrans)(r:Int)(b:FuncId)(f:aE->Int)(C:∀ x,Sp P b [enc x] (.pure (.int .i64 (f x))))(h:t.sm 1048576)(H:t.aD.length<=100000)(F:t.aM.length<=1000000)(E:t.fin.length<=1000000){A:aU}(B:A=⟨t.ring,r,t.st,t.aM,t.fin,t.aD.map (fJ f)⟩){v:aU}{e:Int}(y:¬ t.ok->v=jS/\e=4)(z:t.ok->zS 136 [enc A] (.bM [enc v,.int .i64 e])) :
  zS 94 [enc t,.int .i64 r,.fn b []] (.bM [enc v,.int .i64 e]):=by
 refine Sp.vz c.da λ_=>?_;simp[g.da];refine aW (Gh t h F E) ?_;by_cases j:t.ok;rotate_left
 .obtain⟨rfl,rfl⟩:=y j;rw[decide_eq_false j];simp[jS]
 rw[decide_eq_true j];have o:=z j;simp
 refine b6 (S:=λk:Nat=>aB [(2,.p (.fn b [])),(6,.ptr 1 0 0 0),(8,.ptr 2 0 0 0),(26,.p (.sl (ens t.aD))),(27,.p (.int .i64 t.aD.length)),(28,.p (.int .i64 k))]
   [(1,⟨7,[.agg [.p (.int .i64 0),.nil,.p (.int .i64 0),.p (.int .i64 0),.nil,.nil,.nil]]⟩),(2,⟨7,[.agg [.p (.int .i64 t.ring.kind),.p (.sl (ens t.ring.parts)),.p (.int .i64 r),.p (.int .i64 t.st),.p (.sl (ens t.aM)),.p (.sl (ens t.fin)),.own 3 0 0 k]]⟩),(3,⟨11,aK ((t.aD.map (fJ f)).take k)⟩)])
  (I:=λk=>k<=t.aD.length) (m:=λk=>t.aD.length - k) 0
  ((aA.b5 (s0:=8) (g0:=0) (i:=6) (s:=77) (sz:=11) rfl).trans (aA.to [2,6,8,26,27,28] [((6,0),1),((8,0),2),((77,0),3)] (by simp))) (by omega) ?_
 rintro k G R n J D;have u:=aZ k;simp[g.t7,aB];refine⟨λl=>?_,λl=>D _ _ ?_⟩
 .refine bK l ?_;refine aW (C t.aD[k]) ?_;have d:aK ((t.aD.map (fJ f)).take (k+1))=aK ((t.aD.map (fJ f)).take k)++[.p (enc (fJ f t.aD[k]))]:=by rw[List.take_succ_eq_append_getElem (by simpa using l),sR];simp
  simp[u];exact⟨by omega,n (k+1) _ (aA.to [2,6,8,26,27,28] [((1,0),1),((2,0),2),((45,0),3)] (by simp[aB,d,fJ])) (by omega) (by omega)⟩
 .have:k=t.aD.length:=by omega
  subst this;have d:(t.aD.map (fJ f)).take t.aD.length=t.aD.map (fJ f):=eZ (by simp);subst B;simp;refine bA o (by simp[d]) ?_;simp
def VD(t:GTrans)(r:t.aD.length<=100000)(j:zS 150 [enc t.fW] (enc t.fW.nf)):zS 111 [enc t,.bool true] (enc t.fW.nf):=by
 generalize t.fW.nf=x at *
 refine Sp.vz c.n9 λ_=>?_;simp[g.n9]
 refine b6 (S:=λk:Nat=>aB [(1,.p (.bool true)),(2,.ptr 1 0 0 0),(4,.ptr 2 0 0 0),(5,.ptr 3 0 0 0),(6,.p (.int .i64 k))]
   [(1,⟨8,[.p (enc t)]⟩),(2,⟨7,[.agg [.p (.int .i64 0),.nil,.p (.int .i64 0),.p (.int .i64 0),.nil,.nil,.nil]]⟩),(3,⟨7,[.agg [.p (.int .i64 t.ring.kind),.p (.sl (ens t.ring.parts)),.p (.int .i64 t.o),.p (.int .i64 t.st),.p (.sl (ens t.aM)),.p (.sl (ens t.fin)),.own 4 0 0 k]]⟩),(4,⟨11,aK ((t.aD.map (fJ aE.o)).take k)⟩)])
  (I:=λk=>k<=t.aD.length) (m:=λk=>t.aD.length - k) 0
  ((aA.b5 (s0:=5) (g0:=0) (i:=6) (s:=77) (sz:=11) rfl).trans (aA.to [1,2,4,5,6] [((2,0),1),((4,0),2),((5,0),3),((77,0),4)] (by simp))) (by omega) ?_
 rintro k n R f u l;have h:=aZ k;by_cases d:k<t.aD.length
 .simp[g.t8,aB,d];refine bK d ?_;have b:aK ((t.aD.map (fJ aE.o)).take (k+1))=aK ((t.aD.map (fJ aE.o)).take k)++[.p (enc (fJ aE.o t.aD[k]))]:=by rw[List.take_succ_eq_append_getElem (by simpa using d),sR];simp
  try simp[h]
  try rw[h]
  exact⟨⟨by omega,by omega⟩,f (k+1) _ (aA.to [1,2,4,5,6] [((1,0),1),((2,0),2),((3,0),3),((52,0),4)] (by simp[aB,b,fJ])) (by omega) (by omega)⟩
 .have:k=t.aD.length:=by omega
  subst this;have b:(t.aD.map (fJ aE.o)).take t.aD.length=t.aD.map (fJ aE.o):=eZ (by simp);simp[g.t8,aB];refine l _ _ ?_;simp;refine bA j (by simp[b,GTrans.fW]) ?_;simp
def yee{r:aC}(M:cQ r){n B:Nat}{l:List aV}(h:∀ x∈l,M.mb n x.w/\x.w.aJ r)(d:∀ q,kc aV.key l q<=B):∀ x∈mY r l,M.mb (B+n) x.w/\x.w.aJ r:=λx b=>by have f:=gB (key:=aV.key) l;have:=QP M (l:=bW aV.key l) (λx b=>h x ((f.2.2 x).1 b)) (bW aV.key l).length (dE _) x (by rw[kK];exact(kI.1 b).1);rw[kK,FL (F6 l)]at this;exact⟨M.mono this.1 (by have:=d x.key;omega),this.2⟩
def Wy(r:aC)(l:List aV):(mY r l).length<=l.length:=by unfold mY;refine dM (kB _ _) ?_;have:=FE (key:=aV.key) (up:=lO r) (nw:=id) (λ_ _=>rfl) (λ_=>rfl) (bW aV.key l) (bW aV.key l).length (dE _);rw[kK,(gB l).2.1]at this;exact this
def z17(t:GTrans)(h:t.sm 1048576)(b:t.aD.length<=100000)(i:t.aM.length<=1000000)(f:t.fin.length<=1000000)(j:t.ok){v:aU}{e:Int}(d:zS 136 [enc t.fW] (.bM [enc v,.int .i64 e])) :
  zS 51 [enc t] (.bM [enc v,.int .i64 e]):=by
 refine Sp.vz c.fw λ_=>?_;simp[g.fw];refine aW (Vv t t.o 104 aE.o ya2 h b i f (A:=t.fW) (v:=v) (e:=e) rfl (λh=>absurd j h) (λ_=>d)) ?_;simp
def Vx(t:GTrans)(h:t.sm 1048576)(d:t.aD.length<=100000)(i:t.aM.length<=1000000)(f:t.fin.length<=1000000)(j:t.ok)(b:zS 150 [enc t.fW] (enc t.fW.nf)) :
  zS 56 [enc t] (.bM [enc t.fW.nf,.int .i64 0]):=by
 refine Sp.vz c.f9 λ_=>?_;simp[g.f9];refine aW (MM t h i f) ?_;rw[decide_eq_true j];simp;refine aW (VD t d b) ?_;simp
def Xn{α : Type}{key : α -> List Int}(l:List α)(q:List Int):kc key l q<=l.length:=List.countP_le_length
def U'{r:aC}{M:cQ r}{n:Nat}{R:GTrans}(h:pO M n R)(m:dB M)(hn:3100+n<=M.lim) :
  ∃ A:aU,zS 51 [enc R] (.bM [enc A,.int .i64 0])/\zS 56 [enc R] (.bM [enc A,.int .i64 0])/\zS 17 [enc A,enc A] (.bool true):=by
 obtain⟨d,F,_,E,D,C,_⟩:=h;have i:=pO.sm (R:=R) ⟨d,F,‹_›,E,D,C,‹_›⟩ m (by omega);subst F;have j:=yfs d;have H:=d.al;have Q:=d.st2;have N:=d.il;have L:=d.fl;have J:R.fW.aD.length<=2048:=by simpa[GTrans.fW]using H
 have o:∀ x∈R.fW.aD,M.mb (1000+n) x.w:=λx b=>by obtain⟨y,t,rfl⟩:=cA.1 b;exact C y t
 have f:∀ q,kc aV.key R.fW.aD q<=2048:=λq=>dM (Xn _ _) J;have z:R.fW.sm 1048576:=⟨i.aM,i.fin,λx b=>by
  obtain⟨y,t,rfl⟩:=cA.1 b;exact i.aD y t⟩
 have u:=U9 R.fW (M:=M) m (1000+n) 2048 (by omega) f (λw s=>M.mono (E w s) (by omega)) (λw s=>M.mono (D w s) (by omega)) o z;have p:=aU.iV.2 j;rw[p]at u;simp only[cH]at u;have I:=Xk R.fW (M:=M) m (1000+n) 2048 (by omega) f (by omega) o z.aM z.fin (by have:=BP d.ring;show R.ring.parts.length<=_;omega) (by show R.aM.length<=_;omega) (by show R.fin.length<=_;omega) j.aM j.fin (λx b=>(j.aD x b).2.2.2.2.2.2);have G:=yee M (r:=R.ring) (n:=1000+n) (B:=2048) (l:=R.fW.aD) (λx b=>⟨o x b,(j.aD x b).2.2.2.2.2.2⟩) f;have O:=Wy R.ring R.fW.aD;refine⟨R.fW.nf,z17 R i (by omega) (by omega) (by omega) d u,Vx R i (by omega) (by omega) (by omega) d I,?_⟩;have k:=OT R.fW.nf R.fW.nf ⟨i.aM,i.fin,λx b=>(m.pr (n:=2048+(1000+n)) (by omega) (G x b).2 (G x b).1).mono (by omega)⟩ (by show R.aM.length<=_;omega) (by show R.fin.length<=_;omega) (by show(mY R.ring R.fW.aD).length<=_;omega)
 rwa[decide_eq_true rfl]at k
def VV(w:List Int)(m:Int)(D:w.length<=1000000):zS 48 [.sl (ens w),.int .i64 m] (.bool (decide ((1<=m/\m<=32)/\w.length<=256/\∀ x∈w,1<=x/\x<=m))):=by
 refine Sp.vz c.fv λ_=>?_;simp[g.fv]
 refine b6 (S:=λk:Nat=>aB [(0,.p (.sl (ens w))),(1,.p (.int .i64 m)),(7,.p (.sl (ens w))),(8,.p (.int .i64 w.length)),(9,.p (.int .i64 k))] []) (I:=λk=>k<=w.length/\∀ i,(h:i<w.length)->i<k->1<=w[i]/\w[i]<=m) (m:=λk=>w.length - k) 0
  (aA.to [0,1,7,8,9] [] (by simp)) ⟨by omega,λi _ h=>by omega⟩ ?_
 rintro k ⟨f,b⟩ R B r n;have s:=aZ k;simp[g.u5,aB];refine⟨λl=>bK l ?_,λl=>n _ _ ?_⟩
 .have o:∀ h:w[k]<1\/m<w[k],¬ ∀ x∈w,1<=x/\x<=m:=λh y=>by have:=y w[k] (bU l);omega
  refine⟨λh=>r _ (by simp[o (.inl h)]),λh=>⟨λd=>r _ (by simp[o (.inr d)]),λd=>B (k+1) _ (aA.to [0,1,7,8,9] [] (by simp[s])) ⟨by omega,λi j z=>?_⟩ (by omega)⟩⟩;by_cases e:i=k
  .subst e;exact⟨h,d⟩
  .exact b i j (by omega)
 .have A:k=w.length:=by omega
  have t:∀ x∈w,1<=x/\x<=m:=λx n=>by obtain⟨i,j,rfl⟩:=qW.1 n;exact b i j (by omega)
  have u:decide (∀ x∈w,1<=x/\x<=m)=true:=decide_eq_true t;simp[u];refine⟨λf=>⟨λb=>by simp[f,b];omega,λb _ C=>by omega⟩,λf b=>by omega⟩
def H7{r:aC}(b:r.ok=true)(n:Nat):∀ w∈oR r n,w.rR r:=λw d=>by
 obtain⟨i,_,rfl⟩:=cA.1 d;split
 .exact BT b
 .exact Ql b
def H6{r:aC}(b:r.ok=true)(n:Nat):∀ w∈oS r n,w.rR r:=λw d=>by
 obtain⟨i,_,rfl⟩:=cA.1 d;split
 .exact BT b
 .exact Ql b
def HA{r:aC}{w:List Int}:∀ x∈kT r w,∃ i:Nat,i<w.length/\x=⟨i,w.getD i 0,i+1,r.one⟩:=λx d=>by obtain⟨i,b,rfl⟩:=List.mem_map.1 d;exact⟨i,by simpa using b,rfl⟩
def Uy{r:aC}(d:r.ok=true){h:Int}(b:1<=h/\h<=32){w:List Int}(f:w.length<=63)(hs:∀ x∈w,1<=x/\x<=h):(jK r h w).ok:=by
 refine⟨d,b.1,b.2,by simp only[jK];omega,by simp only[jK];omega,by simp[jK,oR],by simp[jK,oS],by simp[jK,kT];omega,λx l=>?_,λw f=>(H7 d _ w f).aJ,λw f=>(H6 d _ w f).aJ⟩;obtain⟨i,j,rfl⟩:=HA x l;have k:w.getD i 0∈w:=by rw[eV,dO j];exact bU j
 have:=hs _ k;unfold oa;simp only[jK];exact⟨by omega,by omega,by omega,by omega,by omega,by omega,(BT d).aJ⟩
def Zo{r:aC}(b:r.ok=true)(h:Int)(w:List Int):(jK r h w).sm 3 :=
 ⟨λw d=>(H7 b _ w d).sm,λw d=>(H6 b _ w d).sm,λx f=>by
  obtain⟨i,_,rfl⟩:=HA x f;exact(BT b).sm⟩
def Wz{r:aC}{l:List aE}(h:eH aE.key l):cV r l=l.filter λx=>!decide (x.w=r.zero):=by unfold cV;rw[AF (Pb h),Uc l h]
def ybm(r:aC)(d:Int)(w:List Int):eH aE.key (jK r d w).oP.aD:=by
 have:(jK r d w).oP.aD=(List.range w.length).map λi:Nat=>(⟨(i:Int),w.getD i 0,w.getD i 0,(i:Int)+1,r.one⟩:aE):=by simp only[aU.oP,jK,kT,yG];rfl
 rw[this];unfold eH;rw[Jr];refine List.Pairwise.imp ?_ Nz;intro a b f;unfold aE.key;rw[GJ];left;simp only;omega
def Zn{r:aC}(h:r.ok=true){b:Int}(j:1<=b/\b<=32){w:List Int}(z:w.length<=4)(hs:∀ x∈w,1<=x/\x<=b):(jK r b w).oP.nf.lc/\(jK r b w).oP.nf.ok:=by
 have s:=Uy h j (show w.length<=63 by omega) hs;have k:=DV (Ua s);have o:=Wz (r:=r) (ybm r b w);have l:∀ x∈(jK r b w).oP.nf.aD,x.w=r.one:=λx f=>by have f:x∈cV r (jK r b w).oP.aD:=f;rw[o]at f;obtain⟨y,p,rfl⟩:=cA.1 (kI.1 f).1;obtain⟨i,_,rfl⟩:=HA y p;rfl
 have u:(jK r b w).oP.nf.aD.length<=4:=by
  have:=Iu r (jK r b w).oP.aD;have t:(jK r b w).oP.aD.length=w.length:=by simp[aU.oP,jK,kT]
  show(cV r (jK r b w).oP.aD).length<=4;omega
 have n:=H7 h w.length;have m:=H6 h w.length;refine⟨⟨⟨λv d=>(n v d).sm.mono (by omega),λv d=>(m v d).sm.mono (by omega),λx f=>by rw[l x f];exact(BT h).sm.mono (by omega)⟩,λv d=>?_,?_,?_,by omega,by have:=BP h;show r.parts.length<=_;omega⟩,k⟩
 .simp only[GTrans.jP,dN,cA]at d;obtain d|d|⟨x,f,rfl⟩:=d
  .exact(n v d).sm.li
  .exact(m v d).sm.li
  .rw[l x f];exact(BT h).sm.li
 .show(oR r w.length).length<=5;simp[oR];omega
 .show(oS r w.length).length<=5;simp[oS];omega
end Go.Ab
