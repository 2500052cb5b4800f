/- Lemmas for the law ComposeBuildsMadeModels, part 39. No conditions. -/
import Derived.Test.YthhdboljpgdcpaaGreatDoorAP37
import Derived.Test.YthhdboljpgdcpaaGreatDoorAP38
set_option maxRecDepth 100000
set_option maxHeartbeats 4000000
set_option linter.all false
namespace Go.Ab
open Enc (enc)
attribute [local simp] fX bL.aR
def ma(t:GTrans)(s:Int):List aC:=t.aE.filter λx=>decide (x.f=s)
def uO(a:aI)(x:aC):List eL:=if x.o=0/\a.f≠2 then[⟨x.i,0,⟨x.t,a.q,1⟩,x.w⟩]else[]
def pU(r:aB)(a:aI)(x y:aC):List eL:=if x.o=y.i/\(x.o≠0\/a.f=0)then[⟨x.i,y.o,⟨x.t,y.t,0⟩,r.times x.w y.w⟩]else[]
def rz(a:aI)(y:aC):List eL:=if y.i=0/\a.f≠1 then[⟨0,y.o,⟨a.p,y.t,2⟩,y.w⟩]else[]
def qM(r:aB)(u:GTrans)(a:aI)(x:aC):List eL:=uO a x++(ma u a.q).flatMap (pU r a x)
def tM(t u:GTrans)(a:aI):List eL:=(ma t a.p).flatMap (qM t.ring u a)++(ma u a.q).flatMap (rz a)
noncomputable def sH(t u:GTrans)(a:aI):List eL:=(tM t u a).filter λm=>!decide (m.w=t.ring.zero)
def Gy(a:aI)(x:aC):(uO a x).length<=1:=by unfold uO;split<;>simp
def Jq(r:aB)(a:aI)(x y:aC):(pU r a x y).length<=1:=by unfold pU;split<;>simp
def Rz(a:aI)(y:aC):(rz a y).length<=1:=by unfold rz;split<;>simp
theorem vr{α β : Type}{f : α -> List β}{B:Nat}:∀ {l:List α},(∀ x∈l,(f x).length<=B)->(l.flatMap f).length<=l.length*B
 | [],_=>by simp
 | x::l,h=>by have d:=h x (by simp);have i:=vr (l:=l) (f:=f) (B:=B) λy b=>h y (by simp[b]);simp only[jG,gL,pQ,yL];omega
def DD{α β : Type}(f : α -> List β){l:List α}{k:Nat}(h:k<l.length):(l.take (k+1)).flatMap f=(l.take k).flatMap f++f l[k]:=by rw[ed h,Bk];simp
def bJ(t u:GTrans)(r:Nat)(d b:AV):AV:=.agg [.p (.int .i64 t.ring.kind),.p (.sl (aH t.ring.parts)),.p (.int .i64 t.i),.p (.int .i64 t.o),.p (.int .i64 t.st),.p (.sl (aH t.aU)),.p (.sl (aH t.fin)),.p (.sl (aH t.aE)),
 .p (.int .i64 u.ring.kind),.p (.sl (aH u.ring.parts)),.p (.int .i64 u.i),.p (.int .i64 u.o),.p (.int .i64 u.st),.p (.sl (aH u.aU)),.p (.sl (aH u.fin)),.p (.sl (aH u.aE)),.p (.fH r),d,b]
abbrev ek:List Nat:=[900000,900001,900002]
def cP(t u:GTrans)(r:Nat)(h f:AV)(b d:List (Option bD)):List Site:=[(900000,[some ⟨19,[bJ t u r h f]⟩]),(900001,b),(900002,d)]
structure CE (lq aq:AV) (SA SB:List (Option bD)):Prop where
 l:pK ek lq=true
 a:pK ek aq=true
 sa:∀ x∈SA,vT ek x=true
 sb:∀ x∈SB,vT ek x=true
 l1:lq.one=true
 a1:aq.one=true
def CE.hp{lq aq:AV}{SA SB:List (Option bD)}(h:CE lq aq SA SB)(t u:GTrans)(r:Nat):dQ ek (cP t u r lq aq SA SB)=true:=by have b:SA.all (vT ek)=true:=kR.2 h.sa;have d:SB.all (vT ek)=true:=kR.2 h.sb;simp[dQ,cP,b,d,vT,bJ,pK,kX,h.l,h.a]
def tX(hp:List Site)(a:aI)(r:aB)(T U:List aC)(k:Nat)(x:aC)(o:List eL)(j:Nat):St :=
 ⟨[(0,.ptr 900000 0 0 0),(3,.ptr 3 0 0 0),(5,.ptr 5 0 0 0),(6,.own 7 0 0 o.length),(8,.ptr 8 0 0 0),(24,.p (.sl (aH T))),(25,.p (.int .i64 T.length)),(26,.p (.int .i64 k)),(57,.p (.sl (aH U))),(58,.p (.int .i64 U.length)),(59,.p (.int .i64 j))],
  hp++[(3,[some ⟨3,[.p (enc a)]⟩]),(5,[some ⟨2,[.p (enc r)]⟩]),(7,[some ⟨13,aT o⟩]),(8,[some ⟨12,[.p (enc x)]⟩]),(aL,[none])]⟩
def yV(hp:List Site)(a:aI)(r:aB)(T:List aC)(o:List eL)(k:Nat):St :=
 ⟨[(0,.ptr 900000 0 0 0),(3,.ptr 3 0 0 0),(5,.ptr 5 0 0 0),(6,.own 7 0 0 o.length),(24,.p (.sl (aH T))),(25,.p (.int .i64 T.length)),(26,.p (.int .i64 k))],
  hp++[(3,[some ⟨3,[.p (enc a)]⟩]),(5,[some ⟨2,[.p (enc r)]⟩]),(7,[some ⟨13,aT o⟩]),(aL,[none])]⟩
def wJ(a:aI)(r:aB)(hp:List Site)(U:List aC)(o:List eL)(k:Nat):St :=
 ⟨[(3,.ptr 3 0 0 0),(5,.ptr 5 0 0 0),(6,.own 7 0 0 o.length),(105,.p (.sl (aH U))),(106,.p (.int .i64 U.length)),(107,.p (.int .i64 k))],
  hp++[(3,[some ⟨3,[.p (enc a)]⟩]),(5,[some ⟨2,[.p (enc r)]⟩]),(7,[some ⟨13,aT o⟩]),(aL,[none])]⟩
def a8{t u:GTrans}{M:c4 t.ring}(MP:dM M){n:Nat}(hn:n<=M.lim){r0:Nat}{F C:AV}{z A:List (Option bD)}(J:CE F C z A){a:aI}{T:List aC}{k:Nat}{x:aC}(E:x.w.aQ t.ring/\M.mb n x.w)
  {U:List aC} (hU:∀ y∈U,y.w.aQ t.ring/\M.mb n y.w) (ad:U.length<=1000) {o:List eL} (ho:o.length<=2000000) {Q:Exit->St->Prop} {ks:List Kt} {st:St} (hw:aA st (tX (cP t u r0 F C z A) a t.ring T U k x o 0))
  (hx:gI P 136 Q (fS 2 ks) 2 (tX (cP t u r0 F C z A) a t.ring T U k x (o++U.flatMap (pU t.ring a x)) U.length)):vL P 136 Q g.pd ks st:=by
 refine cQ (S:=λj:Nat=>tX (cP t u r0 F C z A) a t.ring T U k x (o++(U.take j).flatMap (pU t.ring a x)) j) (I:=λj=>j<=U.length) (m:=λj=>U.length - j) 0 (by simpa using hw) (by omega) ?_;rintro j hj R V hr W;have G:=bH j;have af:((U.take j).flatMap (pU t.ring a x)).length<=1000:=by have:=vr (l:=U.take j) (f:=pU t.ring a x) (B:=1) λy _=>Jq _ _ _ _;rw[List.length_take]at this;omega
 by_cases d:j<U.length
 .have hs:=DD (pU t.ring a x) d;have b:∀ s,aA s (tX (cP t u r0 F C z A) a t.ring T U k x (o++(U.take (j+1)).flatMap (pU t.ring a x)) (j+1))->R .normal s:=λs h=>V (j+1) s h (by omega) (by omega);rw[hs,<- List.append_assoc]at b;have ag:(o++(U.take j).flatMap (pU t.ring a x)).length<=2001000:=by rw[gL];omega
  generalize o++(U.take j).flatMap (pU t.ring a x)=O at *
  obtain⟨cy,my⟩:=hU _ (bV d);have D:=MP.rP hn E.1 cy E.2 my;have p:=J.sa;have r:=J.sb;have N:=J.l;have L:=J.a;simp[g.pd,tX,cP,bJ,d];refine bK d ?_;generalize U[j]'d=y at *
  refine⟨λH=>⟨λX=>⟨λY=>?_,λY=>?_⟩,λX=>?_⟩,λH=>?_⟩
  .rw[show pU t.ring a x y=[⟨x.i,y.o,⟨x.t,y.t,0⟩,t.ring.times x.w y.w⟩] from aW ⟨H,.inr Y⟩]at b;refine bA D ?_;simp[G,eS];refine⟨by omega,b _ (aA.cU [0,3,5,6,8,24,25,26,57,58,59] ek [((3,0),3),((5,0),5),((96,0),7),((8,0),8)] ?_)⟩;simp[tX,cP,bJ,N,L];exact⟨p,r⟩
  .rw[show pU t.ring a x y=[] from aY λh=>by obtain q|q:=h.2<;>contradiction,kZ]at b;simp[G];exact b _ (aA.cU [0,3,5,6,8,24,25,26,57,58,59] ek [((3,0),3),((5,0),5),((7,0),7),((8,0),8)] (by simp[tX,cP,bJ,N,L];exact⟨p,r⟩))
  .rw[show pU t.ring a x y=[⟨x.i,y.o,⟨x.t,y.t,0⟩,t.ring.times x.w y.w⟩] from aW ⟨H,.inl X⟩]at b;refine bA D ?_;simp[G,eS];refine⟨by omega,b _ (aA.cU [0,3,5,6,8,24,25,26,57,58,59] ek [((3,0),3),((5,0),5),((96,0),7),((8,0),8)] ?_)⟩;simp[tX,cP,bJ,N,L];exact⟨p,r⟩
  .rw[show pU t.ring a x y=[] from aY λh=>H h.1,kZ]at b;simp[G];exact b _ (aA.cU [0,3,5,6,8,24,25,26,57,58,59] ek [((3,0),3),((5,0),5),((7,0),7),((8,0),8)] (by simp[tX,cP,bJ,N,L];exact⟨p,r⟩))
 .have:j=U.length:=by omega
  subst this;simp[g.pd,tX,cP,bJ];refine W _ _ ?_;simpa[tX,cP,bJ]using hx
def ye4{t u:GTrans}{M:c4 t.ring}(MP:dM M){n:Nat}(hn:n<=M.lim){r0:Nat}{G F:AV}{D E:List (Option bD)}(H:CE G F D E){a:aI}{T:List aC}(hT:∀ x∈T,x.w.aQ t.ring/\M.mb n x.w)(ap:T.length<=1000)
  (hU:∀ y∈u.aE,y.w.aQ t.ring/\M.mb n y.w) (af:u.aE.length<=1000) {Q:Exit->St->Prop} {ks:List Kt} {st:St} (hw:aA st (yV (cP t u r0 G F D E) a t.ring T [] 0))
  (hx:gI P 136 Q (fS 0 ks) 0 (yV (cP t u r0 G F D E) a t.ring T (T.flatMap (qM t.ring u a)) T.length)):vL P 136 Q g.qg ks st:=by
 refine cQ (S:=λk:Nat=>yV (cP t u r0 G F D E) a t.ring T ((T.take k).flatMap (qM t.ring u a)) k) (I:=λk=>k<=T.length) (m:=λk=>T.length - k) 0 (by simpa using hw) (by omega) ?_;rintro k hk R L hr al;have e1:=bH k;have ad:(ma u a.q).length<=1000:=Nat.le_trans (List.length_filter_le _ _) af;have av:((T.take k).flatMap (qM t.ring u a)).length<=1001000:=by
  have:=vr (l:=T.take k) (f:=qM t.ring u a) (B:=1001) λx _=>by unfold qM;have h1:=Gy a x;have N:=vr (l:=ma u a.q) (f:=pU t.ring a x) (B:=1) λy _=>Jq _ _ _ _;rw[gL];omega
  rw[iB]at this;have V:min k T.length*1001<=1000*1001:=kD _ (by omega);omega
 by_cases r:k<T.length
 .have hs:=DD (qM t.ring u a) r;have j:∀ b,aA b (yV (cP t u r0 G F D E) a t.ring T ((T.take (k+1)).flatMap (qM t.ring u a)) (k+1))->R .normal b:=λb h=>L (k+1) b h (by omega) (by omega);rw[hs]at j;generalize (T.take k).flatMap (qM t.ring u a)=O at *
  have ao:=hT _ (bV r);have z:=KY u a.q (by omega);rw[show u.aE.filter (λx=>decide (x.f=a.q))=ma u a.q from rfl]at z;have Y:∀ y∈ma u a.q,y.w.aQ t.ring/\M.mb n y.w:=λy hy=>hU y (k8.1 hy).1;have A:=H.sa;have C:=H.sb;have X:=H.l;have W:=H.a;have au:=Gy a T[k];have d:∀ (o:List eL) (b:St),o=O++uO a T[k]->aA b (tX (cP t u r0 G F D E) a t.ring T (ma u a.q) k T[k] o 0)->vL P 136 R g.pd [.bU 2,.bU 1,.code (.cY [⟨some 98,.dH .add (.t 26) (.c (.p (.int .i64 1))),none⟩,⟨some 26,.mv (.t 98),none⟩] [[8,26,57,58,59],[98]])] b:=λo b ho ag=>by
   refine a8 MP hn H ao Y ad (by rw[ho,gL];omega) ag ?_;have J:o++(ma u a.q).flatMap (pU t.ring a T[k])=O++qM t.ring u a T[k]:=by rw[ho];unfold qM;simp
   rw[J];generalize O++qM t.ring u a T[k]=O2 at *
   simp[tX,cP,bJ,e1];refine j _ (aA.cU [0,3,5,6,24,25,26] ek [((3,0),3),((5,0),5),((7,0),7)] ?_);simp[yV,cP,bJ,X,W];exact⟨A,C⟩
  clear L j hs;generalize ma u a.q=U at *
  simp[g.qg,yV,cP,bJ,r];refine bK r ?_;generalize T[k]'r=x at *
  refine⟨λN=>⟨λV=>?_,λV=>?_⟩,λN=>?_⟩
  .have s:uO a x=[]:=aY λh=>h.2 V;refine bA z ?_;simp;refine d O _ (by rw[s,kZ]) (aA.cU [0,3,5,6,8,24,25,26,57,58,59] ek [((3,0),3),((5,0),5),((7,0),7),((8,0),8)] ?_);simp[tX,cP,bJ,X,W];exact⟨A,C⟩
  .have s:uO a x=[⟨x.i,0,⟨x.t,a.q,1⟩,x.w⟩]:=aW ⟨N,V⟩;refine⟨by omega,?_⟩;refine bA z ?_;simp;refine d (O++[⟨x.i,0,⟨x.t,a.q,1⟩,x.w⟩]) _ (by rw[s]) (aA.cU [0,3,5,6,8,24,25,26,57,58,59] ek [((3,0),3),((5,0),5),((50,0),7),((8,0),8)] ?_);simp[tX,cP,bJ,X,W];exact⟨A,C⟩
  .have s:uO a x=[]:=aY λh=>N h.1;refine bA z ?_;simp;refine d O _ (by rw[s,kZ]) (aA.cU [0,3,5,6,8,24,25,26,57,58,59] ek [((3,0),3),((5,0),5),((7,0),7),((8,0),8)] ?_);simp[tX,cP,bJ,X,W];exact⟨A,C⟩
 .have:k=T.length:=by omega
  subst this;simp[g.qg,yV,cP,bJ];refine al _ _ ?_;simpa[yV,cP,bJ]using hx
def ye3{t u:GTrans}{r0:Nat}{A z:AV}{s x:List (Option bD)}(C:CE A z s x){r:aB}{a:aI}{U:List aC}(N:U.length<=1000){o:List eL}(ho:o.length<=2000000){Q:Exit->St->Prop}{ks:List Kt}{st:St}(hw:aA st (wJ a r (cP t u r0 A z s x) U o 0))
  (hx:gI P 136 Q (fS 4 ks) 4 (wJ a r (cP t u r0 A z s x) U (o++U.flatMap (rz a)) U.length)):vL P 136 Q g.qh ks st:=by
 refine cQ (S:=λk:Nat=>wJ a r (cP t u r0 A z s x) U (o++(U.take k).flatMap (rz a)) k) (I:=λk=>k<=U.length) (m:=λk=>U.length - k) 0 (by simpa using hw) (by omega) ?_;rintro k V R J hr M;have D:=bH k;have W:((U.take k).flatMap (rz a)).length<=1000:=by have:=vr (l:=U.take k) (f:=rz a) (B:=1) λy _=>Rz _ _;rw[List.length_take]at this;omega
 by_cases i:k<U.length
 .have Y:=DD (rz a) i;have d:∀ b,aA b (wJ a r (cP t u r0 A z s x) U (o++(U.take (k+1)).flatMap (rz a)) (k+1))->R .normal b:=λb h=>J (k+1) b h (by omega) (by omega);rw[Y,<- List.append_assoc]at d;have X:(o++(U.take k).flatMap (rz a)).length<=2001000:=by rw[gL];omega
  generalize o++(U.take k).flatMap (rz a)=O at *
  have j:=C.sa;have n:=C.sb;have H:=C.l;have G:=C.a;simp[g.qh,wJ,cP,bJ,i];refine bK i ?_;generalize U[k]'i=y at *
  have skip:rz a y=[]->∀ b,aA b (wJ a r (cP t u r0 A z s x) U O (k+1))->R .normal b:=λh b L=>d b (by rw[h,kZ];exact L);refine⟨λE=>⟨λF=>?_,λF=>?_⟩,λE=>?_⟩
  .simp[D];exact skip (aY λh=>h.2 F) _ (aA.cU [3,5,6,105,106,107] ek [((3,0),3),((5,0),5),((7,0),7)] (by simp[wJ,cP,bJ,H,G];exact⟨j,n⟩))
  .rw[show rz a y=[⟨0,y.o,⟨a.p,y.t,2⟩,y.w⟩] from aW ⟨E,F⟩]at d;refine⟨by omega,?_⟩;simp[D];refine d _ (aA.cU [3,5,6,105,106,107] ek [((3,0),3),((5,0),5),((131,0),7)] ?_);simp[wJ,cP,bJ,H,G];exact⟨j,n⟩
  .simp[D];exact skip (aY λh=>E h.1) _ (aA.cU [3,5,6,105,106,107] ek [((3,0),3),((5,0),5),((7,0),7)] (by simp[wJ,cP,bJ,H,G];exact⟨j,n⟩))
 .have:k=U.length:=by omega
  subst this;simp[g.qh,wJ,cP,bJ];refine M _ _ ?_;simpa[wJ,cP,bJ]using hx
end Go.Ab
namespace Go.Ab
section
variable {P:Program} {K:Ctx} {Z Z':Cz} {w w':World} {a:Act}
theorem aG.split{st:St}:∀ {vs us:List AV} {xs:List Value},aG Z st (vs++us) xs->∃ a b,xs=a++b/\aG Z st vs a/\aG Z st us b
 | [],us,xs,h=>⟨[],xs,rfl,.nil,h⟩
 | v::vs,us,_,.cons _ _ _ _ h hs=>by obtain⟨a,b,rfl,d,f⟩:=aG.split (vs:=vs) hs;exact⟨_::a,b,rfl,.cons _ _ _ _ h d,f⟩
theorem aA.FN{t s k sz:Nat}{es:List AV}{hp:List Site}(N:s<fP)(H:(hp.map (·.1)).contains s=false)(hd:(hp.map (·.1)).contains aL=false)(Bq:dQ (hp.map (·.1)) hp=true)(D:kX (hp.map (·.1)) es=true)(hk:k<=es.length) :
  aA ⟨[(t,.own s 0 0 k)],hp++[(s,[some ⟨sz,es⟩]),(aL,[none])]⟩ ⟨[(t,.own s 0 0 k)],hp++[(s,[some ⟨sz,es.take k⟩]),(aL,[none])]⟩:=by
 intro K Z w a hs;have W:s≠aL:=by unfold fP at N;unfold aL;omega
 have f:∀ (es:List AV) (u:Nat),(hp.map (·.1)).contains u=true->(⟨[(t,.own s 0 0 k)],hp++[(s,[some ⟨sz,es⟩]),(aL,[none])]⟩:St).site u=look hp u []:=λes u hu=>by simp only[St.site,BL,hu,cB]
 have d:∀ (es:List AV) (u:Nat),(hp.map (·.1)).contains u=false->(⟨[(t,.own s 0 0 k)],hp++[(s,[some ⟨sz,es⟩]),(aL,[none])]⟩:St).site u=if s=u then[some ⟨sz,es⟩]else if aL=u then[none]else[]:=λes u hu=>by simp only[St.site,BL,hu,gJ,fQ,look]
 have p:∀ (es:List AV) s' g' o',(⟨[(t,.own s 0 0 k)],hp++[(s,[some ⟨sz,es⟩]),(aL,[none])]⟩:St).obj s' g'=some o'->(hp.map (·.1)).contains s'=true\/(s'=s/\g'=0/\o'=⟨sz,es⟩):=by
  intro es s' g' o' h;cases hu:(hp.map (·.1)).contains s' with
  | true=>exact .inl rfl
  | false =>
   right;simp only[St.obj,d es s' hu]at h;split at h
   .rename_i O;cases g' with
    | zero=>simp at h;exact⟨O.symm,rfl,h.symm⟩
    | succ g=>simp at h
   .split at h
    .cases g'<;>simp at h
    .simp at h
 have m:∀ es:List AV,(⟨[(t,.own s 0 0 k)],hp++[(s,[some ⟨sz,es⟩]),(aL,[none])]⟩:St).obj s 0=some ⟨sz,es⟩:=λes=>by unfold St.obj;rw[d es s H];simp
 have same:∀ u,(hp.map (·.1)).contains u=true->(⟨[(t,.own s 0 0 k)],hp++[(s,[some ⟨sz,es.take k⟩]),(aL,[none])]⟩:St).site u=(⟨[(t,.own s 0 0 k)],hp++[(s,[some ⟨sz,es⟩]),(aL,[none])]⟩:St).site u:=λu hu=>by rw[f _ u hu,f _ u hu]
 have l:∀ u g,(hp.map (·.1)).contains u=true->(⟨[(t,.own s 0 0 k)],hp++[(s,[some ⟨sz,es.take k⟩]),(aL,[none])]⟩:St).obj u g=(⟨[(t,.own s 0 0 k)],hp++[(s,[some ⟨sz,es⟩]),(aL,[none])]⟩:St).obj u g:=λu g hu=>by simp only[St.obj,same u hu]
 have B:=hs.heap.bR s 0 _ (m es);have j:∀ s' g' o',(⟨[(t,.own s 0 0 k)],hp++[(s,[some ⟨sz,es.take k⟩]),(aL,[none])]⟩:St).obj s' g'=some o'->∃ o0,(⟨[(t,.own s 0 0 k)],hp++[(s,[some ⟨sz,es⟩]),(aL,[none])]⟩:St).obj s' g'=some o0:=λs' g' o' h=>by
  obtain hu|⟨rfl,rfl,_⟩:=p _ _ _ _ h
  .rw[l s' g' hu]at h;exact⟨o',h⟩
  .exact⟨_,m es⟩
 refine⟨Z,⟨λu=>?_,hs.defers,hs.size,⟨λs' g' o' h=>?_,λs1 g1 s2 g2 o1 o2 b A F S U=>?_,hs.heap.mem,λs' g' o' b h r=>?_,λs' g' o' b h r=>?_,hs.heap.m0,hs.heap.eE,hs.heap.keep⟩⟩,⟨λu a b=>?_,λu g a b L hn=>?_,λu g o a b z=>?_⟩⟩
 .have hu:=hs.aR u;simp only[St.get,look]at hu ⊢;split at hu
  .rename_i y;simp only[y,cB];generalize a.tmps.getD u Go.undef=x at hu;cases hu with
   | dU _ _ o z r =>
    exact .dU _ _ _ (m _) r
   | own _ _ _ _ o b ad c z r A F h3 V =>
    rw[m]at z;cases z;exact .own _ _ _ _ _ b ad c (m _) r A F (by simp;omega) V
   | eN _ _ _ _ _ _ _ C=>rw[m]at C;cases C
  .rename_i y;simp only[y,fQ];exact .undef _
 .obtain hu|⟨rfl,rfl,rfl⟩:=p _ _ _ _ h
  .rw[l s' g' hu]at h;have M:(⟨[],hp⟩:St).obj s' g'=some o':=by simp only[St.obj,f es s' hu]at h;exact h
   exact oA.gN same (λ_ _ h=>h) (λ_ _ _=>⟨rfl,rfl⟩) hu (EP Bq M) (hs.heap.bR s' g' o' h)
  .refine⟨B.pos,λe J=>B.jC e (jA J),λc H=>?_,λhn=>?_,λb r=>?_⟩
   .obtain⟨e,J,I⟩:=kv.1 H;exact B.one c (kv.2 ⟨e,jA J,I⟩)
   .have:=B.xt hn;simp only at this;rw[this];simp
   .obtain⟨cur,T,vals,Y,R,k3,k4,k5,k6⟩:=B.bU b r;have e:es.flatMap AV.cells=(es.take k).flatMap AV.cells++(es.drop k).flatMap AV.cells:=by rw[<- List.flatMap_append,oJ]
    rw[e]at R;obtain⟨v1,v2,rfl,q1,q2⟩:=aG.split R;refine⟨cur,T,v1,Y,aG.gN (st:=⟨[(t,.own s' 0 0 k)],hp++[(s',[some ⟨sz,es⟩]),(aL,[none])]⟩) (Z:=Z) same (λ_ _ h=>h) (λ_ _ _=>⟨rfl,rfl⟩) q1 ?_,λi v Q=>k3 i v (by rw[wh (iR.1 Q).1];exact Q),k4,by simp only[iB];simp only at k5;omega,k6⟩;have A:kX (hp.map (·.1)) (es.take k)=true:=by rw[xO,kR]at D ⊢;exact λx X=>D x (jA X)
    exact Lw A
 .obtain⟨E,n⟩:=j _ _ _ A;obtain⟨af,G⟩:=j _ _ _ F;exact hs.heap.inj _ _ _ _ _ _ b n G S U
 .obtain⟨E,n⟩:=j _ _ _ h;exact hs.heap.sep _ _ _ b n r
 .obtain⟨E,n⟩:=j _ _ _ h;exact hs.heap.own _ _ _ b n r
 .cases hu:(hp.map (·.1)).contains u with
  | true=>rw[same u hu];exact dK _
  | false=>rw[d _ u hu,d _ u hu];split<;>simp
 .cases hu:(hp.map (·.1)).contains u with
  | true=>rw[l u g hu];exact hn
  | false =>
   simp only[d _ u hu]at L;rw[aY (by omega),aY (by unfold aL;omega)]at L;simp at L
 .cases hu:(hp.map (·.1)).contains u with
  | true=>rw[l u g hu];exact .inr ⟨o,z,rfl,rfl,rfl,rfl⟩
  | false =>
   obtain h|⟨rfl,_,_⟩:=p _ _ _ _ z
   .rw[h]at hu;cases hu
   .omega
end
end Go.Ab
namespace Go.Ab
open Enc (enc)
attribute [local simp] fX bL.aR
def Ry{t u:GTrans}{M:c4 t.ring}{n:Nat}{a:aI}(h:∀ x∈t.aE,x.w.aQ t.ring/\M.mb n x.w)(f:∀ y∈u.aE,y.w.aQ t.ring/\M.mb n y.w):∀ m∈tM t u a,m.w.aQ t.ring/\M.mb (n+n+1) m.w:=by
 intro m hm;unfold tM at hm;obtain hm|hm:=dT.1 hm
 .obtain⟨x,d,hm⟩:=kv.1 hm;have d:=h x (k8.1 d).1;unfold qM at hm;obtain hm|hm:=dT.1 hm
  .unfold uO at hm;split at hm
   .rw[jF]at hm;subst hm;exact⟨d.1,M.mono d.2 (by omega)⟩
   .cases hm
  .obtain⟨y,b,hm⟩:=kv.1 hm;have b:=f y (k8.1 b).1;unfold pU at hm;split at hm
   .rw[jF]at hm;subst hm;exact⟨Dn d.1 b.1,M.times d.1 b.1 d.2 b.2⟩
   .cases hm
 .obtain⟨y,b,hm⟩:=kv.1 hm;have b:=f y (k8.1 b).1;unfold rz at hm;split at hm
  .rw[jF]at hm;subst hm;exact⟨b.1,M.mono b.2 (by omega)⟩
  .cases hm
theorem Ez(ks:List Nat)(ids:List ((Nat × Nat) × Nat)):∀ l:List PV,eV ks ids (l.map AV.p)=l.map AV.p
 | []=>rfl
 | x::l=>by simp only[jH,eV,dW,Ez ks ids l]
def WC{t u:GTrans}{M:c4 t.ring}(MP:dM M){n:Nat}(hn:n+n+1<=M.lim)(hT:∀ x∈t.aE,x.w.aQ t.ring/\M.mb n x.w)(hU:∀ y∈u.aE,y.w.aQ t.ring/\M.mb n y.w)(al:t.aE.length<=900)(ao:u.aE.length<=900)(B:∀ a,(tM t u a).length<=1000000)
  {r0:Nat} {D z:AV} {j m:List (Option bD)} (A:CE D z j m) (a:aI) :
  kO P 66 [.ptr 900000 0 0 0,.p (enc a)] (cP t u r0 D z j m) none (.fr 13 (aH (sH t u a))) (cP t u r0 D z j m) none:=by
 have h:=A.sa;have i:=A.sb;have R:=A.l;have Q:=A.a;refine kO.gG c.ii (by simp) rfl (by simp[cP,fP]) rfl ?_ λq=>MR.cS ?_
 .show(vQ ek (.fr 13 (aH (sH t u a)))&&dQ ek (cP t u r0 D z j m))=true;rw[A.hp,Bool.and_true];have h1:=nE (sH t u a) 13 rfl;have h2:(sH t u a).length<=1000000:=dP (nQ _ _) (B a);have h3:(aH (sH t u a)).length<=eS:=by simp[-jE,aH,eS];omega
  simp[vQ];exact λx C=>by simpa using List.all_eq_true.1 h1 x C
 have L:=KY t a.p (by omega);have N:=KY u a.q (by omega);rw[show t.aE.filter (λx=>decide (x.f=a.p))=ma t a.p from rfl]at L;rw[show u.aE.filter (λx=>decide (x.f=a.q))=ma u a.q from rfl]at N;have W:∀ x∈ma t a.p,x.w.aQ t.ring/\M.mb n x.w:=λx C=>hT x (k8.1 C).1;have I:(ma t a.p).length<=1000:=dP (nQ _ _) (by omega);have J:(ma u a.q).length<=1000:=dP (nQ _ _) (by omega);have Y:=Ry (a:=a) hT hU;have d:=B a;have V:(tM t u a).filter (λx=>!decide (x.w=t.ring.zero))=sH t u a:=rfl;generalize sH t u a=b at *
 simp[g.ii,tQ,cP,bJ];refine bA L ?_;simp;refine ye4 (t:=t) (u:=u) (r0:=r0) MP (n:=n) (by omega) A (a:=a) (T:=ma t a.p) W I hU (by omega) (aA.nl 6 77 13 rfl (aA.cU [0,3,5,6,24,25,26] ek [((3,0),3),((5,0),5),((77,0),7)] ?_)) ?_
 .simp[yV,cP,bJ,R,Q];exact⟨h,i⟩
 have ad:((ma t a.p).flatMap (qM t.ring u a)).length<=1000000:=by unfold tM at d;rw[gL]at d;omega
 have hO:tM t u a=(ma t a.p).flatMap (qM t.ring u a)++(ma u a.q).flatMap (rz a):=rfl;rw[hO]at Y d V;generalize (ma t a.p).flatMap (qM t.ring u a)=O at *
 simp[yV,cP,bJ];refine bA N ?_;simp;refine ye3 (t:=t) (u:=u) (r0:=r0) A (r:=t.ring) (a:=a) J (o:=O) (by omega) (aA.cU [3,5,6,105,106,107] ek [((3,0),3),((5,0),5),((7,0),7)] ?_) ?_
 .simp[wJ,cP,bJ,R,Q];exact⟨h,i⟩
 generalize O++(ma u a.q).flatMap (rz a)=E at *
 simp[wJ,cP,bJ];refine Ps (U' 117 [.ref (enc t.ring)] (λx=>decide (x.w=t.ring.zero)) E d λx C=>XB x t.ring ((MP.rQ hn (Y x C).1 (Y x C).2).mono (by omega))) (by simp[E7,EG]) rfl rfl (by simp) (by simp) (by simp;have:=nQ (λx:eL=>!decide (x.w=t.ring.zero)) E;omega) rfl (nE _ _ rfl) (cells_one Jf _) (by simp) (nQ _ _) ?_;rw[V];have ag:b.length<=E.length:=by rw[<- V];exact nQ _ _
 have S:=N1 b (List.replicate (E.length - b.length) (⟨0,0,⟨0,0,0⟩,eC⟩:eL));have af:(aH (b++List.replicate (E.length - b.length) (⟨0,0,⟨0,0,0⟩,eC⟩:eL))).length=E.length:=by simp[-jE,aH];omega
 generalize aH (b++List.replicate (E.length - b.length) (⟨0,0,⟨0,0,0⟩,eC⟩:eL))=G at *
 have U:kX ek (G.map AV.p)=true:=by rw[xO,kR];intro x C;obtain⟨y,_,rfl⟩:=cD.1 C;rfl
 have H:∀ F,aA F ⟨[(4,.own 7 0 0 b.length)],cP t u r0 D z j m++[(7,[some ⟨13,G.map AV.p⟩]),(aL,[none])]⟩->Co [(4,none)] (cP t u r0 D z j m) (.fr 13 (aH b)) (cP t u r0 D z j m) .ret F:=λF X=>by
  refine⟨.inl rfl,_,X.trans (aA.FN (t:=4) (s:=7) (k:=b.length) (sz:=13) (es:=G.map AV.p) (hp:=cP t u r0 D z j m) (by decide) rfl rfl (A.hp t u r0) U (by rw[rL];omega)),[.own 7 0 0 b.length],rfl,⟨rfl,.inr ⟨7,0,rfl,?_,?_⟩⟩,?_⟩
  .simp[-jE,dB,aH]
  .rw[S];rfl
  .simp[pZ,cP,St.site,look]
 cases ap:G.all PV.flat
 .simp[aJ];exact H _ (aA.cU [4] ek [((7,0),7)] (by simp[cP,bJ,R,Q];exact⟨⟨h,i⟩,Ez _ _ G⟩))
 .simp;exact H _ (aA.cU [4] ek [((7,0),7)] (by simp[cP,bJ,R,Q];exact⟨⟨h,i⟩,Ez _ _ G⟩))
end Go.Ab
namespace Go.Ab
open Enc (enc)
def zw{α : Type}[Enc α](h:∀ x : α,(enc x).cL=true)(l:List α):jQ (aH l)=true:=by rw[yB];intro v b;obtain⟨x,_,rfl⟩:=cD.1 b;exact h x
def WE(x:aF):(enc x).cL=true:=by simp[PV.cL,jQ,Ls]
theorem Gz:∀ w:GW,(enc w).cL=true
 | .mk q c i s p d=>by
  have h:∀ x∈d,(enc x).cL=true:=λx b=>Gz x;have f:jQ (aH d)=true:=by rw[yB];intro v j;obtain⟨x,b,rfl⟩:=cD.1 j;exact h x b
  simp[PV.cL,jQ,Ls,f,zw WE p]
termination_by w=>SizeOf.sizeOf w
decreasing_by
 have:=List.sizeOf_lt_of_mem b
 simp_wf;omega
def O'(x:aC):(enc x).cL=true:=by have h:=Gz x.w;obtain⟨f,i,o,t,w⟩:=x;cases w;simp[PV.cL,jQ]at h ⊢;exact h
theorem yak(x:Int):(enc x).cL=true:=rfl
theorem G6(x:aI):(enc x).cL=true:=rfl
theorem ydn(σ : Sg)(l:List PV):fZ σ (l.map .p)=l.map .p:=by rw[xL,yI];rfl
def GI(σ : Sg){α : Type}[Enc α](l:List α):fZ σ (aT l)=aT l:=ydn σ (aH l)
def Ph(σ : Sg)(l r:List AV):fZ σ (l++r)=fZ σ l++fZ σ r:=by simp[xL]
def EK{st st':St}(keep:List Nat)(b:List (Nat × List (Nat × Nat)))(h:y9 st.hp b=true)(f:Sg->Prop)(i:f (nT st b))(d:∀ σ,f σ -> (⟨keep.map λt=>(t,Go.Ab.sub σ (st.get t)),sI st σ b⟩:St)=st'):aA st st':=by have e:st.lQ keep b=st':=d _ i;exact e ▸ aA.lQ keep b h
def sJ:List Bool->Nat
 | []=>0
 | b::l=>(!b).toNat+sJ l
theorem Jd:∀ (l:List Bool) (i:Nat),l.getD i true=false->sJ (l.set i true)+1=sJ l
 | [],i,h=>by simp at h
 | b::l,0,h=>by
  have:b=false:=by simpa using h
  subst this;simp[sJ];omega
 | b::l,i+1,h=>by have:=Jd l i (by simpa using h);simp only[List.set_cons_succ,sJ];omega
def KN{l:List Bool}{i q:Nat}(b:i<l.length):(l.set i true).getD q false=if i=q then true else l.getD q false:=by
 rw[eT,eT,vx];by_cases h:i=q
 .subst h;simp[b]
 .simp[h]
end Go.Ab
namespace Go.Ab
open Enc (enc)
attribute [local simp] fX bL.aR
def dC{α : Type}(f:Nat):List α -> AV
 | []=>.nil
 | _::l=>.own f l.length 0 (l.length+1)
def eB{α : Type}[Enc α](sz:Nat)(L:List α):List (Option bD):=match L with
 | []=>[]
 | _::l=>List.replicate l.length none++[some ⟨sz,aT L⟩]
def kG(n:Nat):List PV:=(List.range n).map λi=>.int .i64 ((i:Nat):Int)
def dN(r:Nat)(L:List aI):j3:=(r,aH L,kG L.length)
def gO(at_:aI):List aI->Nat->Option Nat
 | [],_=>none
 | x::l,i=>if at_=x then some i else gO at_ l (i+1)
noncomputable def dS(L:List aI)(x:aI):List aI:=if x∈L then L else L++[x]
def cX(t u:GTrans)(r:Nat)(L:List aI)(K:List aC):List Site:=cP t u r (dC 900001 L) (dC 900002 K) (eB 3 L) (eB 12 K)
theorem GD{α : Type}[Enc α](sz:Nat)(L:List α):∀ x∈eB sz L,vT ek x=true:=by
 intro x b;cases L with
 | nil=>cases b
 | cons y l =>
  obtain b|b:=dT.1 b
  .rw[A8 b];rfl
  .simp only[jF]at b;subst b;show kX _ (aT (y::l))=true;simp
def nN(L:List aI)(K:List aC):CE (dC 900001 L) (dC 900002 K) (eB 3 L) (eB 12 K) :=
 ⟨by cases L<;>rfl,by cases K<;>rfl,GD 3 L,GD 12 K,by cases L<;>rfl,by cases K<;>rfl⟩
theorem Sv{α : Type}[Enc α](σ : Sg)(sz:Nat)(L:List α):(eB sz L).map (Option.map (iE σ))=eB sz L:=by
 cases L with
 | nil=>rfl
 | cons y l=>simp only[eB,qY,List.map_replicate,jH,Il,DX,Option.map_none,iE,GI]
def ND{α : Type}{σ : Sg}{f:Nat}(h:∀ g,σ f g=(f,g))(L:List α):sub σ (dC f L)=dC f L:=by cases L<;>simp[dC,sub,h]
def OD{α : Type}[Enc α](sz:Nat)(L:List α)(x : α):eB sz (L++[x])=List.replicate L.length none++[some ⟨sz,aT (L++[x])⟩]:=by cases L<;>simp[eB]
def ON{α : Type}(f:Nat)(L:List α)(x : α):dC f (L++[x])=.own f L.length 0 (L.length+1):=by cases L<;>simp[dC]
theorem KU:∀ {l:List PV},jQ l=true->rI (l.map .p)=true
 | [],_=>rfl
 | v::l,h=>by simp only[jQ,kq]at h;simp only[jH,rI,wW,h.1,KU h.2,FG]
theorem OC{α : Type}[Enc α](d:∀ x : α,(enc x).cL=true)(sz:Nat)(L:List α):(eB sz L).all (λo=>match o with|some o=>rI o.es|none=>true)=true:=by
 cases L with
 | nil=>rfl
 | cons y l =>
  rw[kR];intro x b;obtain b|b:=dT.1 b
  .rw[A8 b]
  .simp only[jF]at b;subst b;exact KU (zw d _)
def z44{α : Type}(f:Nat)(L:List α):wW (dC f L)=true:=by cases L<;>rfl
def Nw(t u:GTrans)(r:Nat)(L:List aI)(K:List aC):AH ⟨[],cX t u r L K⟩=true:=by have b:=OC G6 3 L;have d:=OC O' 12 K;simp[AH,cX,cP,bJ,rI,wW,PV.cL,z44,zw yak,zw Gz,zw O'];exact⟨kR.1 b,kR.1 d⟩
theorem PE{x:aI}{v:PV}:∀ {L:List aI} {vs:List PV},vs.length=L.length->x∉L->mL [.int .i64 x.p,.int .i64 x.q,.int .i64 x.f] v (aH L) vs=(aH (L++[x]),vs++[v])
 | [],[],_,_=>rfl
 | y::l,w::vs,m,d=>by
  have n:=PE (x:=x) (v:=v) (L:=l) (vs:=vs) (by simpa using m) (λh=>d (List.mem_cons_of_mem _ h));show mL _ v (.agg [.int .i64 y.p,.int .i64 y.q,.int .i64 y.f]::aH l) (w::vs)=_;simp only[mL];rw[if_neg,n]
  .rfl
  .intro b;apply d;cases x;cases y;simp[tE]at b;obtain⟨i,j,k⟩:=b;subst i j k;exact List.mem_cons_self
theorem Lu(x:aI):∀ (L:List aI) (i:Nat),oD [.int .i64 x.p,.int .i64 x.q,.int .i64 x.f] (aH L) ((List.range' i L.length).map λi=>.int .i64 ((i:Nat):Int))=(gO x L i).map λj=>.int .i64 (j:Int)
 | [],i=>rfl
 | y::l,i=>by
  have d:=Lu x l (i+1);simp only[aH,jH,pQ,List.range'_succ]at d ⊢;show oD _ (PV.agg [.int .i64 y.p,.int .i64 y.q,.int .i64 y.f]::_) _=_;simp only[oD,gO];by_cases h:x=y
  .subst h;rw[aW rfl,aW (by simp[tE])];rfl
  .rw[aY h,aY]
   .exact d
   .intro b;apply h;cases x;cases y;simp[tE]at b;obtain⟨k,m,n⟩:=b;subst k m n;rfl
theorem BQ{x:aI}:∀ {L:List aI} {i:Nat},gO x L i=none ↔ x∉L
 | [],i=>by simp[gO]
 | y::l,i=>by
  simp only[gO,bY,not_or];by_cases h:x=y
  .rw[aW h];simp[h]
  .rw[aY h,BQ];simp[h]
def aI.ok(x:aI):Prop:=(0<=x.p/\x.p<1000)/\(0<=x.q/\x.q<1000)/\0<=x.f/\x.f<=2
def Cg{n:Int}(h:0<=n/\n<1000):(Lit.int .i64 n).wf=true:=by simp[Lit.wf,IntKind.min,IntKind.max,IntKind.signed,IntKind.bits];omega
def Dj{x:aI}(h:x.ok):j' [.i64,.i64,.i64] [.int .i64 x.p,.int .i64 x.q,.int .i64 x.f]=true:=by obtain⟨b,d,i,j⟩:=h;simp[j',Cg b,Cg d,Cg (show 0<=x.f/\x.f<1000 by omega)]
def Lk{L:List aI}(h:∀ x∈L,x.ok):∀ y∈aH L,su [.i64,.i64,.i64] y=true:=by intro y d;obtain⟨x,b,rfl⟩:=cD.1 d;exact Dj (h x b)
theorem KV(n:Nat):jQ (kG n)=true:=by rw[yB];intro v b;obtain⟨i,_,rfl⟩:=cD.1 b;rfl
theorem O9(t u:GTrans)(r:Nat)(L:List aI)(K:List aC)(x:aI)(b:Bool):AH ⟨[(0,.ptr 900000 0 0 0),(3,.ptr 3 0 0 0),(5,.p (.bool b))],cX t u r L K++[(3,[some ⟨3,[.p (enc x)]⟩]),(aL,[none])]⟩=true:=by have h:=Nw t u r L K;unfold AH at h ⊢;simp only[List.all_nil,Ib]at h;simp only[List.all_append];rw[h];rfl
def Sk{t u:GTrans}{r:Nat}{L:List aI}{K:List aC}(V:L.length<=100000)(S:∀ y∈L,y.ok){x:aI}(F:x.ok) :
  kO P 70 [.ptr 900000 0 0 0,.p (enc x)] (cX t u r L K) (some (dN r L)) (.av (.bP [])) (cX t u r (dS L x) K) (some (dN r (dS L x))):=by
 refine kO.gG c.fa (by simp) rfl (by simp[cX,cP,fP]) rfl ?_ λq=>?_
 .show(true&&dQ ek (cX t u r (dS L x) K))=true;rw[show dQ ek (cX t u r (dS L x) K)=true from (nN _ _).hp t u r];rfl
 have o:=GD 3 L;have C:=GD 12 K;have E:=(nN L K).l;have R:=(nN L K).a;unfold g.fa;refine MR.dD ?_;simp[tQ,cX,cP];refine MR.TX ?_;refine MR.TW (s:=900000) (g:=0) (sz:=19) (i:=16) rfl rfl ?_;refine MR.dD ?_;simp[bJ,dN];refine⟨⟨Dj F,Lk S⟩,?_⟩;have n:=Lu x L 0;rw[<- List.range_eq_range']at n;rw[show kG L.length=(List.range L.length).map λi=>PV.int .i64 ((i:Nat):Int) from rfl,n];by_cases B:x∈L
 .obtain⟨j,W⟩:∃ j,gO x L 0=some j:=by
   cases h:gO x L 0 with
   | none=>exact absurd B (BQ.1 h)
   | some j=>exact⟨j,rfl⟩
  rw[W,show dS L x=L from aW B];simp;refine MR.eg (aA.z7 (s:=900000) (g:=0) (sz:=19) (i:=16) rfl rfl) ?_;refine MR.eg (st1:=⟨[(0,.ptr 900000 0 0 0),(3,.ptr 3 0 0 0),(5,.p (.bool true))],cX t u r L K++[(3,[some ⟨3,[.p (enc x)]⟩]),(aL,[none])]⟩) (aA.cU [0,3,5] ek [((3,0),3)] ?_) ?_
  .simp[cX,cP,bJ,E,R];exact⟨o,C⟩
  refine MR.Cj (O9 t u r L K x true) (zw G6 L) (KV L.length) ?_;refine MR.dD ?_;simp;refine MR.eR (t:=false) rfl (λh=>by cases h) λ_=>?_;refine MR.pk ⟨rfl,.inr rfl,_,aA.refl _,[],rfl,?_,?_⟩
  .show dB []=AV.bP [];rfl
  simp[pZ,cX,cP,bJ]
 .rw[BQ.2 B,show dS L x=L++[x] from aY B];simp;refine MR.eg (aA.z7 (s:=900000) (g:=0) (sz:=19) (i:=16) rfl rfl) ?_;refine MR.eg (st1:=⟨[(0,.ptr 900000 0 0 0),(3,.ptr 3 0 0 0),(5,.p (.bool false))],cX t u r L K++[(3,[some ⟨3,[.p (enc x)]⟩]),(aL,[none])]⟩) (aA.cU [0,3,5] ek [((3,0),3)] ?_) ?_
  .simp[cX,cP,bJ,E,R];exact⟨o,C⟩
  refine MR.Cj (O9 t u r L K x false) (zw G6 L) (KV L.length) ?_;refine MR.dD ?_;simp;refine MR.eR (t:=true) rfl (λ_=>?_) λh=>by cases h
  refine MR.cN ?_;refine MR.ya rfl (by decide) ?_;have d:=PE (x:=x) (v:=.int .i64 L.length) (L:=L) (vs:=kG L.length) (by simp[kG]) B;have k:kG L.length++[.int .i64 (L.length:Int)]=kG (L++[x]).length:=by simp[kG,vZ]
  rw[k]at d;have z:=λσ (h:∀ g,σ 900002 g=(900002,g))=>ND (σ := σ) h K;have A:=λσ=>Sv σ 12 K;have D:(aH L).all (su [.i64,.i64,.i64])=true:=kR.2 (Lk S);have G:=ON 900001 L x;have H:=OD 3 L x;rw[show(List.range L.length).map (λi=>PV.int .i64 ((i:Nat):Int))=kG L.length from rfl];simp only[cX,cP]at G H ⊢;generalize dC 900002 K=N at *
  generalize eB 12 K=M at *
  cases L with
  | nil =>
   simp[bJ,show dC 900001 ([]:List aI)=.nil from rfl,show eB 3 ([]:List aI)=[] from rfl];refine Q0 (ks:=[]) ty.xS ty.xT rfl rfl rfl rfl (Dj F) ?_;rw[show mL [.int .i64 x.p,.int .i64 x.q,.int .i64 x.f] (.int .i64 0) [] (kG 0)=(aH [x],kG 1) from d];refine MR.cS ?_;simp;refine⟨.inr rfl,⟨[],[(900000,[some ⟨19,[bJ t u r (dC 900001 [x]) N]⟩]),(900001,eB 3 [x]),(900002,M),(aL,[none])]⟩,EK [] [(900000,[(900000,0)]),(900001,[(900001,0),(34,0)]),(900002,[(900002,0)])] ?_ (λσ=>σ 900000 0=(900000,0) /\ σ 34 0=(900001,0)/\(∀ g,σ 900002 g=(900002,g))) ?_ ?_,[],rfl,rfl,?_⟩
   .simp[y9,DI,wY,fP,aL,BN]
   .simp[nT,tZ,pJ,St.site,look]
   .rintro σ ⟨Y,I,J⟩;simp[sI,mE,sub,iE,fZ,St.get,look,St.site,I,z σ J,A σ,bJ,dC,eB]<;>rfl
   .simp[pZ,St.site,look,bJ]
  | cons y l =>
   generalize b:y::l=L at *
   have m:L.length=l.length+1:=by rw[<- b];rfl
   have O:dC 900001 L=.own 900001 l.length 0 (l.length+1):=by rw[<- b];rfl
   have Q:eB 3 L=List.replicate l.length none++[some ⟨3,aT L⟩]:=by rw[<- b];rfl
   have U:(aT L).length=l.length+1:=by rw[vo,m]
   rw[O,Q];clear O Q b o n E;rw[m]at d G H k V ⊢;simp[bJ];have X:kG (l.length+1)=kG (l.length+1):=rfl;refine Q0 (ks:=aH L) ty.xS ty.xT rfl rfl rfl D (Dj F) ?_;rw[show mL [.int .i64 x.p,.int .i64 x.q,.int .i64 x.f] (.int .i64 ((l.length:Int)+1)) (aH L) (kG (l.length+1))=(aH (L++[x]),kG (L++[x]).length) from by simpa using d];refine MR.cS ?_;simp[U];refine⟨by omega,by rw[m],?_⟩;rw[G,H];refine⟨.inr rfl,⟨[],[(900000,[some ⟨19,[bJ t u r (.own 900001 (l.length+1) 0 (l.length+1+1)) N]⟩]),(900001,List.replicate (l.length+1) none++[some ⟨3,aT (L++[x])⟩]),(900002,M),(aL,[none])]⟩,EK [] [(900000,[(900000,0)]),(900001,[(900001,0),(34,0)]),(900002,[(900002,0)])] ?_ (λσ=>σ 900000 0=(900000,0) /\ σ 34 0=(900001,l.length+1)/\(∀ g,σ 900002 g=(900002,g))) ?_ ?_,[],rfl,rfl,?_⟩
   .simp[y9,DI,wY,fP,aL,BN]
   .simp[nT,tZ,pJ,St.site,look]
   .rintro σ ⟨Y,I,J⟩;simp[sI,mE,sub,iE,fZ,St.get,look,St.site,I,z σ J,A σ,bJ,Ph,GI];rw[Mc,uK];rfl
   .simp[pZ,St.site,look,bJ]
structure kB (ns nu:Nat) (L:List aI):Prop where
 nd:L.Nodup
 b:∀ y∈L,(0<=y.p/\y.p<ns)/\(0<=y.q/\y.q<nu)/\0<=y.f/\y.f<=2
def kB.len{ns nu:Nat}{L:List aI}(h:kB ns nu L):L.length<=ns*nu*3:=by
 have o:(L.map λy=>(y.p.toNat*nu+y.q.toNat)*3+y.f.toNat).Nodup:=by
  refine L9.2 (Im ?_ h.nd);intro x y i j d C;apply d;have:=h.b x i;have:=h.b y j
  have z:x.f.toNat=y.f.toNat:=by omega
  have k:x.p.toNat*nu+x.q.toNat=y.p.toNat*nu+y.q.toNat:=by omega
  have t:x.q.toNat<nu:=by omega
  have u:y.q.toNat<nu:=by omega
  have n:x.p.toNat=y.p.toNat:=by
   have l:(x.p.toNat*nu+x.q.toNat) / nu=x.p.toNat:=by rw[Nat.add_comm,Nat.add_mul_div_right _ _ (by omega),yG t];omega
   have m:(y.p.toNat*nu+y.q.toNat) / nu=y.p.toNat:=by rw[Nat.add_comm,Nat.add_mul_div_right _ _ (by omega),yG u];omega
   rw[<- l,<- m,k]
  have A:x.q.toNat=y.q.toNat:=by rw[n]at k;omega
  cases x;cases y;simp only[aI.mk.injEq];simp only at *
  omega
 have r:(L.map λy=>(y.p.toNat*nu+y.q.toNat)*3+y.f.toNat) ⊆ List.range (ns*nu*3):=by
  intro x i;obtain⟨y,j,rfl⟩:=cD.1 i;have B:=h.b y j;have s:y.p.toNat+1<=ns:=by omega
  have:=kD nu s;rw[wi]at this;rw[xP];omega
 have:=List.Nodup.length_le_of_subset o r;simpa using this
def kB.ok{ns nu:Nat}{L:List aI}(h:kB ns nu L)(f:ns<=30)(i:nu<=30):∀ y∈L,y.ok:=λy d=>by have:=h.b y d;exact⟨⟨by omega,by omega⟩,⟨by omega,by omega⟩,by omega,by omega⟩
def kB.add{ns nu:Nat}{L:List aI}(h:kB ns nu L){x:aI}(k:(0<=x.p/\x.p<ns)/\(0<=x.q/\x.q<nu)/\0<=x.f/\x.f<=2):kB ns nu (dS L x):=by
 unfold dS;split
 .exact h
 .rename_i hm;refine⟨FF.2 ⟨h.nd,by simp,λa j b i=>?_⟩,λy d=>?_⟩
  .simp only[jF]at i;subst i;exact λe=>hm (e ▸ j)
  .obtain d|d:=dT.1 d
   .exact h.b y d
   .simp only[jF]at d;subst d;exact k
noncomputable def Gf(t u:GTrans)(k:Nat)(L:List aI)(j:Nat):List aI:=if t.ring.times (t.aU.getD k eC) (u.aU.getD j eC)=t.ring.zero then L else dS L ⟨k,j,0⟩
noncomputable def qP(t u:GTrans)(L:List aI)(k j:Nat):List aI:=(List.range j).foldl (Gf t u k) L
noncomputable def jN(t u:GTrans)(L:List aI)(k:Nat):List aI:=(List.range k).foldl (λL k=>qP t u L k u.aU.length) L
def JV(t u:GTrans)(L:List aI)(k j:Nat):qP t u L k (j+1)=Gf t u k (qP t u L k j) j:=by simp[qP,vZ]
def JU(t u:GTrans)(L:List aI)(k:Nat):jN t u L (k+1)=qP t u (jN t u L k) k u.aU.length:=by simp[jN,vZ]
theorem HX{t u:GTrans}{b d:Nat}{L:List aI}(h:kB b d L){k:Nat}(f:k<b):∀ {j:Nat},j<=d->kB b d (qP t u L k j)
 | 0,_=>h
 | j+1,i=>by
  rw[JV];unfold Gf;split
  .exact HX h f (by omega)
  .exact(HX h f (by omega)).add ⟨⟨by simp,by simp;omega⟩,⟨by simp,by simp;omega⟩,by simp,by simp⟩
theorem HW{t u:GTrans}{b d:Nat}{L:List aI}(h:kB b d L)(hu:u.aU.length<=d):∀ {k:Nat},k<=b->kB b d (jN t u L k)
 | 0,_=>h
 | k+1,f=>by rw[JU];exact HX (HW h hu (by omega)) (by omega) hu
noncomputable def jM(t u:GTrans)(r:Nat)(K:List aC)(L:List aI)(w:GW)(k j:Nat):St :=
 ⟨[(0,.ptr 900000 0 0 0),(2,.p (.int .i64 k)),(3,.ptr 3 0 0 0),(10,.p (.sl (aH t.aU))),(11,.p (.int .i64 t.aU.length)),(12,.p (.int .i64 k)),(21,.p (.sl (aH u.aU))),(22,.p (.int .i64 u.aU.length)),(23,.p (.int .i64 j))],
  cX t u r L K++[(3,[some ⟨8,[.p (enc w)]⟩]),(aL,[none])]⟩
def Nn:GC:=.cond (.t 42) [42] (.cY [⟨some 43,.mv (.t 0),none⟩,⟨some 44,.mv (.t 2),none⟩,⟨some 45,.mv (.t 4),none⟩,⟨some 46,.build [.p (.int .i64 0),.p (.int .i64 0),.p (.int .i64 0)] [(0,1,.t 44),(1,1,.t 45),(2,1,.c (.p (.int .i64 0)))],none⟩,⟨some 47,.call 70 [.t 43,.t 46],none⟩] [[],[],[4],[44,45],[43,46,47]])
 (.iX)
def TZ:GC:=.cY [⟨some 48,.dH .add (.t 23) (.c (.p (.int .i64 1))),none⟩,⟨some 23,.mv (.t 48),none⟩] [[4,23],[48]]
noncomputable def yg(t u:GTrans)(r:Nat)(K:List aC)(L:List aI)(w:GW)(k j:Nat)(b:Bool):St :=
 ⟨[(42,.p (.bool b)),(0,.ptr 900000 0 0 0),(2,.p (.int .i64 k)),(3,.ptr 3 0 0 0),(4,.p (.int .i64 j)),(10,.p (.sl (aH t.aU))),(11,.p (.int .i64 t.aU.length)),(12,.p (.int .i64 k)),(21,.p (.sl (aH u.aU))),(22,.p (.int .i64 u.aU.length)),(23,.p (.int .i64 j))],
  cX t u r L K++[(3,[some ⟨8,[.p (enc w)]⟩]),(aL,[none])]⟩
theorem Zd{t u:GTrans}{r:Nat}{K:List aC}{L:List aI}(x:L.length<=100000)(C:∀ y∈L,y.ok){w:GW}{k j:Nat}(E:k<1000)(D:j<1000)(q:mG)(b:Bool)(R:Exit->St->Option FA->Prop)
  (hn:∀ s,aA s (jM t u r K (if b=true then dS L ⟨k,j,0⟩else L) w k j)->R .normal s (some (gB q (some (dN r (if b=true then dS L ⟨k,j,0⟩else L)))))) :
  MR P 50 Nn.er (yg t u r K L w k j b) (some (gB q (some (dN r L)))) R:=by
 have B:aI.ok ⟨k,j,0⟩:=⟨⟨by simp,by simp;omega⟩,⟨by simp,by simp;omega⟩,by simp,by simp⟩;have f:=nN L K;have o:=f.sa;have m:=f.sb;have z:=f.l;have p:=f.a;unfold Nn;cases b with
 | false =>
  refine MR.eR (t:=false) rfl (λh=>by cases h) λ_=>MR.pk (hn _ ?_);refine aA.cU [0,2,3,10,11,12,21,22,23] ek [((3,0),3)] ?_;simp[jM,yg,cX,cP,bJ,z,p];exact⟨o,m⟩
 | true =>
  refine MR.eR (t:=true) rfl (λ_=>?_) λh=>by cases h
  refine MR.oo (AR 4 [[],[],[4],[44,45]] ?_);have A:=Sk (t:=t) (u:=u) (r:=r) (K:=K) x C B;simp only[cB]at hn;have d:=nN (dS L ⟨k,j,0⟩) K;have i:=d.sa;have n:=d.l;simp[yg];refine eD.cons (Hu A (CF.gB q _ _) rfl ?_ ?_ rfl ?_ ?_)
  .simp
  .simp[pZ,St.site,look,cX,cP,bJ]
  .show(true&&dQ ek (cX t u r L K)&&true&&dQ ek (cX t u r (dS L ⟨k,j,0⟩) K))=true;rw[show dQ ek (cX t u r L K)=true from f.hp t u r,show dQ ek (cX t u r (dS L ⟨k,j,0⟩) K)=true from d.hp t u r];rfl
  .refine eD.nil (hn _ ?_);refine aA.cU [0,2,3,10,11,12,21,22,23] ek [((3,0),3)] ?_;simp[CQ,sM,jM,cX,cP,bJ,n,p];exact⟨i,m⟩
def yb1{t u:GTrans}{M:c4 t.ring}(MP:dM M){n:Nat}(hn:n+n+1<=M.lim){J d:Nat}(h1:J<=30)(h2:d<=30)(hI:∀ w∈t.aU,w.aQ t.ring/\M.mb n w)(hU:∀ w∈u.aU,w.aQ t.ring/\M.mb n w)
  (ad:t.aU.length=J) (x:u.aU.length=d) {r:Nat} {K:List aC} {L:List aI} (hL:kB J d L) {k:Nat} (hk:k<J) (q:mG) {s:St} (i:aA s (jM t u r K L (t.aU.getD k eC) k 0)) :
  MR P 50 (GC.loop g.qe).er s (some (gB q (some (dN r L)))) λD s B=>D=.exit 2/\B=some (gB q (some (dN r (qP t u L k d))))/\aA s (jM t u r K (qP t u L k d) (t.aU.getD k eC) k d):=by
 refine MR.nK (I:=λm s B=>∃ j,j<=d/\m=d - j/\B=some (gB q (some (dN r (qP t u L k j))))/\aA s (jM t u r K (qP t u L k j) (t.aU.getD k eC) k j)) d ⟨0,by omega,by omega,rfl,i⟩ ?_;rintro m s B ⟨j,hj,rfl,rfl,i⟩;refine MR.eg i ?_;have hT:=HX (t:=t) (u:=u) hL hk hj;generalize O:(λ(D:Exit) (s:St) (B:Option FA)=>(D=.normal->∃ m,m<d - j/\∃ j,j<=d/\m=d - j/\B=some (gB q (some (dN r (qP t u L k j))))/\aA s (jM t u r K (qP t u L k j) (t.aU.getD k eC) k j))/\(D ≠ .normal->D=.exit 2/\B=some (gB q (some (dN r (qP t u L k d))))/\aA s (jM t u r K (qP t u L k d) (t.aU.getD k eC) k d)))=R;have Y:j<d->∀ s,aA s (jM t u r K (qP t u L k (j+1)) (t.aU.getD k eC) k (j+1))->R .normal s (some (gB q (some (dN r (qP t u L k (j+1)))))):=λh s i=>by subst O;exact⟨λ_=>⟨d - (j+1),by omega,j+1,by omega,rfl,rfl,i⟩,λh=>absurd rfl h⟩
 have r2:j=d->∀ s,aA s (jM t u r K (qP t u L k j) (t.aU.getD k eC) k j)->R (.exit 2) s (some (gB q (some (dN r (qP t u L k j))))):=λh s i=>by subst O;subst h;exact⟨λh=>(by cases h),λ_=>⟨rfl,rfl,i⟩⟩
 clear O i;have W:=JV t u L k j;generalize qP t u L k j=o at *
 rw[W]at Y;have e1:=bH j;have H:=nN o K;have E:=H.sa;have A:=H.sb;have hl:=H.l;have Q:=H.a;have V:t.aU.getD k eC∈t.aU:=by rw[eT,dF (by omega)];exact bV _
 obtain⟨ci,mi⟩:=hI _ V;by_cases z:j<d
 .have G:=Y z;clear Y r2;have f:j<u.aU.length:=by omega
  have S:u.aU.getD j eC=u.aU[j]:=by rw[eT,dF f];rfl
  obtain⟨N,mu⟩:=hU _ (bV f);unfold Gf at G;rw[S]at G;have X:=MP.rP (n:=n) (by omega) ci N mi mu;have hz:=Fe t.ring (t.ring.times (t.aU.getD k eC) u.aU[j]) ((MP.rQ hn (Dn ci N) (M.times ci N mi mu)).mono (by omega));generalize t.aU.getD k eC=w at *
  have y:=Zd (t:=t) (u:=u) (r:=r) (K:=K) (L:=o) (dP hT.len (by have:=mS h1 h2;omega)) (hT.ok h1 h2) (w:=w) (k:=k) (j:=j) (by omega) (by omega) q;unfold g.qe;refine MR.dD ?_;simp[jM,cX,cP,bJ,x,z];refine MR.cN (MR.eR (t:=true) (by simp) (λ_=>MR.pk ⟨λ_=>?_,λh=>absurd rfl h⟩) (λh=>by cases h));refine MR.cN (MR.kM ?_);refine MR.dD ?_;simp;refine bK f ?_;refine MR.dD ?_;rw[show(GC.cond (.t 42) [42] _ .iX)=Nn from rfl,show(GC.cY [⟨some 48,.dH .add (.t 23) (.c (.p (.int .i64 1))),none⟩,⟨some 23,.mv (.t 48),none⟩] [[4,23],[48]])=TZ from rfl];simp;refine bA X ?_;simp;refine bA hz ?_;simp;generalize hb:(!decide (t.ring.times w u.aU[j]=t.ring.zero))=b;refine MR.eg (st1:=yg t u r K o w k j b) (aA.cU [42,0,2,3,4,10,11,12,21,22,23] ek [((3,0),3)] ?_) (y b _ λs i=>⟨λ_=>?_,λh=>absurd rfl h⟩)
  .simp[yg,cX,cP,bJ,hl,Q,x];exact⟨E,A⟩
  refine MR.eg i ?_;unfold TZ;have he:(if b=true then dS o ⟨k,j,0⟩else o)=(if t.ring.times w u.aU[j]=t.ring.zero then o else dS o ⟨k,j,0⟩):=by subst hb;by_cases h:t.ring.times w u.aU[j]=t.ring.zero<;>simp[h]
  rw[he];generalize (if t.ring.times w u.aU[j]=t.ring.zero then o else dS o ⟨k,j,0⟩)=L2 at *
  have C:=nN L2 K;have F:=C.sa;have U:=C.l;refine MR.cS ?_;simp[jM,cX,cP,bJ,e1];refine G _ (aA.cU [0,2,3,10,11,12,21,22,23] ek [((3,0),3)] ?_);simp[jM,cX,cP,bJ,U,Q];exact⟨F,A⟩
 .have G:=r2 (by omega);generalize t.aU.getD k eC=w at *
  unfold g.qe;refine MR.dD ?_;simp[jM,cX,cP,bJ,x,z];refine MR.cN (MR.eR (t:=false) (by simp) (λh=>(by cases h)) (λ_=>MR.uP ⟨λh=>(by cases h),λ_=>G _ ?_⟩));refine aA.cU [0,2,3,10,11,12,21,22,23] ek [((3,0),3)] ?_;simp[jM,cX,cP,bJ,hl,Q,x];exact⟨E,A⟩
noncomputable def nB(t u:GTrans)(r:Nat)(K:List aC)(L:List aI)(k:Nat):St :=
 ⟨[(0,.ptr 900000 0 0 0),(10,.p (.sl (aH t.aU))),(11,.p (.int .i64 t.aU.length)),(12,.p (.int .i64 k))],cX t u r L K++[(aL,[none])]⟩
def yb0{t u:GTrans}{M:c4 t.ring}(X:dM M){n:Nat}(hn:n+n+1<=M.lim){b D:Nat}(h1:b<=30)(h2:D<=30)(hI:∀ w∈t.aU,w.aQ t.ring/\M.mb n w)(hU:∀ w∈u.aU,w.aQ t.ring/\M.mb n w)
  (f:t.aU.length=b) (z:u.aU.length=D) {r:Nat} {K:List aC} {L:List aI} (hL:kB b D L) (q:mG) {s:St} (d:aA s (nB t u r K L 0)) :
  MR P 50 (GC.loop g.qf).er s (some (gB q (some (dN r L)))) λp s B=>p=.exit 0/\B=some (gB q (some (dN r (jN t u L b))))/\aA s (nB t u r K (jN t u L b) b):=by
 refine MR.nK (I:=λm s B=>∃ k,k<=b/\m=b - k/\B=some (gB q (some (dN r (jN t u L k))))/\aA s (nB t u r K (jN t u L k) k)) b ⟨0,by omega,by omega,rfl,d⟩ ?_;rintro m s B ⟨k,hk,rfl,rfl,d⟩;refine MR.eg d ?_;have hT:=HW (t:=t) (u:=u) hL (by omega:u.aU.length<=D) hk;generalize G:(λ(p:Exit) (s:St) (B:Option FA)=>(p=.normal->∃ m,m<b - k/\∃ k,k<=b/\m=b - k/\B=some (gB q (some (dN r (jN t u L k))))/\aA s (nB t u r K (jN t u L k) k))/\(p ≠ .normal->p=.exit 0/\B=some (gB q (some (dN r (jN t u L b))))/\aA s (nB t u r K (jN t u L b) b)))=R;have Q:k<b->∀ s,aA s (nB t u r K (jN t u L (k+1)) (k+1))->R .normal s (some (gB q (some (dN r (jN t u L (k+1)))))):=λh s d=>by subst G;exact⟨λ_=>⟨b - (k+1),by omega,k+1,by omega,rfl,rfl,d⟩,λh=>absurd rfl h⟩
 have V:k=b->∀ s,aA s (nB t u r K (jN t u L k) k)->R (.exit 0) s (some (gB q (some (dN r (jN t u L k))))):=λh s d=>by subst G;subst h;exact⟨λh=>(by cases h),λ_=>⟨rfl,rfl,d⟩⟩
 clear G d;have O:=JU t u L k;generalize jN t u L k=E at *
 rw[O,z]at Q;have Y:=bH k;have F:=nN E K;have A:=F.sa;have o:=F.sb;have U:=F.l;have H:=F.a;by_cases i:k<b
 .have S:=Q i;clear Q V;have j:k<t.aU.length:=by omega
  have y:=λs (d:aA s (jM t u r K E (t.aU.getD k eC) k 0))=>yb1 X hn h1 h2 hI hU f z (r:=r) (K:=K) (L:=E) hT i q d;have J:t.aU.getD k eC=t.aU[k]:=by rw[eT,dF j];rfl
  rw[J]at y;generalize qP t u E k D=W at *
  have x:=nN W K;have C:=x.sa;have N:=x.l;unfold g.qf;refine MR.dD ?_;simp[nB,cX,cP,bJ,f,i];refine MR.cN (MR.eR (t:=true) (by simp) (λ_=>MR.pk ⟨λ_=>?_,λh=>absurd rfl h⟩) (λh=>by cases h));refine MR.cN (MR.kM ?_);refine MR.dD ?_;simp;refine bK j ?_;refine MR.dD ?_;simp;refine MR.kM (MR.mono (y _ ?_) ?_)
  .refine aA.cU [0,2,3,10,11,12,21,22,23] ek [((3,0),3)] ?_;simp[jM,cX,cP,bJ,U,H,f];exact⟨A,o⟩
  .rintro p s B ⟨rfl,rfl,d⟩;refine⟨λ_=>MR.eg d (MR.cS ?_),λh=>absurd rfl h⟩;simp[jM,cX,cP,bJ,Y];refine S _ (aA.cU [0,10,11,12] ek [] ?_);simp[nB,cX,cP,bJ,N,H];exact⟨C,o⟩
 .have S:=V (by omega);unfold g.qf;refine MR.dD ?_;simp[nB,cX,cP,bJ,f,i];refine MR.cN (MR.eR (t:=false) (by simp) (λh=>(by cases h)) (λ_=>MR.uP ⟨λh=>(by cases h),λ_=>S _ ?_⟩));refine aA.cU [0,10,11,12] ek [] ?_;simp[nB,cX,cP,bJ,U,H,f];exact⟨A,o⟩
def z79{t u:GTrans}{M:c4 t.ring}(p:dM M){n:Nat}(hn:n+n+1<=M.lim){b m:Nat}(x:b<=30)(y:m<=30)(z:∀ w∈t.aU,w.aQ t.ring/\M.mb n w)(C:∀ w∈u.aU,w.aQ t.ring/\M.mb n w)
  (h:t.aU.length=b) (i:u.aU.length=m) {r:Nat} {K:List aC} {L:List aI} (A:kB b m L) :
  kO P 65 [.ptr 900000 0 0 0] (cX t u r L K) (some (dN r L)) (.av (.bP [])) (cX t u r (jN t u L b) K) (some (dN r (jN t u L b))):=by
 have f:=nN L K;have j:=f.sa;have k:=f.sb;have E:=f.l;have D:=f.a;have d:=nN (jN t u L b) K;have o:=d.sa;have F:=d.l;refine kO.gG c.kr (by simp) rfl (by simp[cX,cP,fP]) rfl ?_ λq=>?_
 .show(true&&dQ ek (cX t u r (jN t u L b) K))=true;rw[show dQ ek (cX t u r (jN t u L b) K)=true from d.hp t u r];rfl
 unfold g.kr;refine MR.dD ?_;simp[tQ,cX,cP,bJ];refine MR.kM (MR.mono (yb0 p hn x y z C h i (r:=r) (K:=K) A q (aA.cU [0,10,11,12] ek [] ?_)) ?_)
 .simp[nB,cX,cP,bJ,E,D];exact⟨j,k⟩
 rintro H s B ⟨rfl,rfl,G⟩;refine⟨rfl,.inr rfl,_,G,[],rfl,rfl,?_⟩;simp[pZ,St.site,look,nB,cX,cP,bJ,aL]
end Go.Ab
