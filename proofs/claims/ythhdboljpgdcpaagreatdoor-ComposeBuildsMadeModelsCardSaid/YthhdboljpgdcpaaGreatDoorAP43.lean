/- Lemmas for the law ComposeBuildsMadeModels, part 43. No conditions. -/
import Derived.Test.YthhdboljpgdcpaaGreatDoorAP42
set_option maxRecDepth 100000
set_option maxHeartbeats 4000000
set_option linter.all false
namespace Go.Ab
open Enc (enc)
attribute [local simp] fX bL.aR
def gM(t u:GTrans)(st:Nat)(b a d:AV):AV:=.agg [.p (.int .i64 t.ring.kind),.p (.sl (aH t.ring.parts)),.p (.int .i64 t.i),.p (.int .i64 u.o),.p (.int .i64 st),b,a,d]
def yY(t u:GTrans)(L:List aI)(K:List aC)(s:Nat):St :=
 aD [(2,.ptr 2 0 0 0),(3,.ptr 3 0 0 0),(4,.ptr 4 0 0 0),(7,.ptr 7 0 0 0),(8,.own 8 0 0 L.length),(11,.ptr 11 0 0 0),(12,.p (.int .i64 s))]
  [(2,⟨8,[.p (enc t)]⟩),(3,⟨8,[.p (enc u)]⟩),(4,⟨8,[zTT]⟩),(7,⟨2,[.p (enc t.ring)]⟩),(8,⟨3,aT L⟩),(11,⟨8,[gM t u 0 .nil .nil (.own 31 0 0 K.length)]⟩),(31,⟨12,aT K⟩)]
def yZ(t u:GTrans)(L:List aI)(K:List aC)(s:Nat)(all:List kC)(k:Nat):St :=
 aD [(2,.ptr 2 0 0 0),(3,.ptr 3 0 0 0),(4,.ptr 4 0 0 0),(7,.ptr 7 0 0 0),(8,.own 8 0 0 L.length),(11,.ptr 11 0 0 0),(12,.p (.int .i64 s)),(13,.p (.sl (aH all))),(14,.p (.int .i64 k))]
  [(2,⟨8,[.p (enc t)]⟩),(3,⟨8,[.p (enc u)]⟩),(4,⟨8,[zTT]⟩),(7,⟨2,[.p (enc t.ring)]⟩),(8,⟨3,aT L⟩),(11,⟨8,[gM t u 0 .nil .nil (.own 31 0 0 K.length)]⟩),(31,⟨12,aT K⟩)]
def x4(s:Nat)(L:List aI)(x:kC):aC:=⟨s,x.m.i,x.m.o,nZ x.m.t L,x.m.w⟩
def Zz{t u:GTrans}{L:List aI}(w:L.length<=1000000){K:List aC}(D:K.length<=3000000){s:Nat}{all:List kC}(C:all.length<=1000000){Q:Exit->St->Prop}{ks:List Kt}{st:St}(n:aA st (yZ t u L K s all 0))
  (o:gI P 213 Q (fS 6 ks) 6 (yZ t u L (K++all.map (x4 s L)) s all all.length)):vL P 213 Q g.pq ks st:=by
 refine cQ (S:=λk:Nat=>yZ t u L (K++(all.take k).map (x4 s L)) s all k) (I:=λk=>k<=all.length) (m:=λk=>all.length - k) 0 (by simpa using n) (by omega) ?_;rintro k E R i z j;have r:=bH k;by_cases d:k<all.length
 .have l:(all.take (k+1)).map (x4 s L)=(all.take k).map (x4 s L)++[x4 s L all[k]]:=by rw[ed d,qY];rfl
  have a:∀ f,aA f (yZ t u L (K++(all.take (k+1)).map (x4 s L)) s all (k+1))->R .normal f:=λf h=>i (k+1) f h (by omega) (by omega);rw[l,<- List.append_assoc]at a;have y:(K++(all.take k).map (x4 s L)).length<=4000000:=by simp;omega
  have A:=Kz L all[k].m.t w;generalize K++(all.take k).map (x4 s L)=O at *
  unfold x4 at a;generalize nZ all[k].m.t L=p at *
  clear i j z n o;simp[g.pq,yZ,aD,d,zTT,gM];have b:all[k]?=some all[k]:=dF d;generalize all[k]'d=x at *
  refine eO b (eO b (eO b ?_));obtain⟨⟨F,G,⟨J,M,B⟩,H⟩⟩:=x;simp only at *
  refine bA A ?_;simp;refine eO b ?_;simp[r];refine⟨by omega,a _ (aA.to [2,3,4,7,8,11,12,13,14] [((2,0),2),((3,0),3),((4,0),4),((7,0),7),((8,0),8),((11,0),11),((125,0),31)] ?_)⟩;simp[yZ,aD,zTT,gM]
 .have:k=all.length:=by omega
  subst this;rw[List.take_length];simp[g.pq,yZ,aD,zTT,gM];refine j _ _ ?_;simpa[yZ,aD,zTT,gM]using o
theorem z64(l:List aI):(aH l).all PV.flat=true:=by rw[kR];intro v a;obtain⟨b,_,rfl⟩:=cD.1 a;rfl
def ZA{t u:GTrans}{M:c4 t.ring}{n Z nu:Nat}(o:wT t u M n Z nu){X:List aI × List aC}(j:∀ s,kB Z nu (cI t u X s).1/\(cI t u X s).2.length<=s*1000)(F:∀ a,(mK t u a).length<=1000){Q:Exit->St->Prop}{ks:List Kt}{st:St}(C:aA st (yY t u X.1 X.2 0))
  (D:∀ s,s=(cI t u X s).1.length->gI P 213 Q (fS 4 ks) 4 (yY t u (cI t u X s).1 (cI t u X s).2 s)):vL P 213 Q g.pt ks st:=by
 have ad:=mS o.hs o.hu;refine cQ (S:=λs:Nat=>yY t u (cI t u X s).1 (cI t u X s).2 s) (I:=λs=>s<=(cI t u X s).1.length) (m:=λs=>Z*nu*3 - s) 0 C (by simp) ?_;rintro s hs R z hr B;have O:=(j s).1.len;have E:=(j s).2;have e1:=bH s;by_cases f:s<(cI t u X s).1.length
 .have l:cI t u X (s+1)=uD t u s (cI t u X s):=aW f;have b:∀ p,aA p (yY t u (uD t u s (cI t u X s)).1 (uD t u s (cI t u X s)).2 (s+1))->R .normal p:=λp h=>z (s+1) p (by rw[l];exact h) (by rw[l];show s+1<=((cI t u X s).1++_).length;rw[gL];omega) (by omega);have d:=(j (s+1)).1.len;rw[l]at d;clear z B hr C D j l;generalize cI t u X s=Y at *
  obtain⟨L,K⟩:=Y;unfold uD at b d;simp only at b d f E O hs;have y:L[s]?=some L[s]:=dF f;have H:L.getD s ⟨0,0,0⟩=L[s]:=by rw[eT,y];rfl
  rw[H]at b d;have hb:s*1000<=2700*1000:=kD _ (by omega);have G:=Vc o.mp o.hn L[s] o.wat (by have:=o.at_;omega) o.wau (by have:=o.au;omega);have af:=F L[s];generalize mK t u L[s]=all at *
  have V:=ye1 L all (by omega) (by omega) λk _=>(Kg L (all.take k)).1;generalize rY L all=N at *
  have r:=λQ ks st C D=>Zz (t:=t) (u:=u) (L:=L++N) (by omega) (K:=K) (by omega) (s:=s) (all:=all) (by omega) (Q:=Q) (ks:=ks) (st:=st) C D;have ag:N.length<=2700:=by rw[gL]at d;omega
  have J:(L.length:Int)<=4096:=by omega
  simp[g.pt,yY,aD,f,zTT,gM,J];refine eO y ?_;refine bA G ?_;simp[aJ];refine Fi V (by simp) ⟨nE _ _ rfl,by decide,by simp[-jE,aH,eS];omega⟩ _ rfl ?_;simp[z64,eS];refine⟨by omega,r _ _ _ (aA.to [2,3,4,7,8,11,12,13,14] [((2,0),2),((3,0),3),((4,0),4),((7,0),7),((91,0),8),((11,0),11),((31,0),31)] ?_) ?_⟩
  .simp[yZ,aD,zTT,gM]
  have W:all.map (λx=>(⟨s,x.m.i,x.m.o,nZ x.m.t (L++N),x.m.w⟩:aC))=all.map (x4 s (L++N)):=rfl;rw[W]at b;generalize K++all.map (x4 s (L++N))=K2 at *
  generalize L++N=L2 at *
  simp[gI,fS,yZ,aD,zTT,gM,e1];refine b _ (aA.to [2,3,4,7,8,11,12] [((2,0),2),((3,0),3),((4,0),4),((7,0),7),((8,0),8),((11,0),11),((31,0),31)] ?_);simp[yY,aD,zTT,gM]
 .have A:s=(cI t u X s).1.length:=by omega
  have hh:=D s;generalize hY:cI t u X s=Y at *
  obtain⟨L,K⟩:=Y;simp only at A hh f;have U:¬ (s:Int)<L.length:=by omega
  simp[g.pt,yY,aD,zTT,gM,U];refine B _ _ ?_;simpa[yY,aD,zTT,gM]using hh A
def yf(t u:GTrans)(L:List aI)(K:List aC)(A B:List GW)(k:Nat):St :=
 aD [(2,.ptr 2 0 0 0),(3,.ptr 3 0 0 0),(4,.ptr 4 0 0 0),(7,.ptr 7 0 0 0),(8,.own 8 0 0 L.length),(11,.ptr 11 0 0 0),(15,.p (.int .i64 k))]
  [(2,⟨8,[.p (enc t)]⟩),(3,⟨8,[.p (enc u)]⟩),(4,⟨8,[zTT]⟩),(7,⟨2,[.p (enc t.ring)]⟩),(8,⟨3,aT L⟩),(11,⟨8,[gM t u L.length (.own 32 0 0 A.length) (.own 33 0 0 B.length) (.own 31 0 0 K.length)]⟩),(31,⟨12,aT K⟩),(32,⟨8,aT A⟩),(33,⟨8,aT B⟩)]
def ZB{t u:GTrans}{M:c4 t.ring}{n C D:Nat}(MP:dM M)(hn:n+n+1<=M.lim)(it:t.aU.length=C)(iu:u.aU.length=D)(ft:t.fin.length=C)(fu:u.fin.length=D)
  (wit:∀ w∈t.aU,w.aQ t.ring/\M.mb n w) (wiu:∀ w∈u.aU,w.aQ t.ring/\M.mb n w) (G:∀ w∈t.fin,w.aQ t.ring/\M.mb n w) (H:∀ w∈u.fin,w.aQ t.ring/\M.mb n w)
  {L:List aI} (hL:kB C D L) (ad:L.length<=4000) {K:List aC} {Q:Exit->St->Prop} {ks:List Kt} {st:St} (hw:aA st (yf t u L K [] [] 0))
  (hx:gI P 213 Q (fS 8 ks) 8 (yf t u L K (L.map (dL t u)) (L.map (dO t u)) L.length)):vL P 213 Q g.px ks st:=by
 refine cQ (S:=λk:Nat=>yf t u L K ((L.take k).map (dL t u)) ((L.take k).map (dO t u)) k) (I:=λk=>k<=L.length) (m:=λk=>L.length - k) 0 (by simpa using hw) (by omega) ?_;rintro k hk R l hr r;have X:=bH k;by_cases i:k<L.length
 .have o:L.take (k+1)=L.take k++[L[k]]:=ed i;have d:∀ j,aA j (yf t u L K ((L.take k).map (dL t u)++[dL t u L[k]]) ((L.take k).map (dO t u)++[dO t u L[k]]) (k+1))->R .normal j:=λj h=>l (k+1) j (by simp only[o,qY,jH,Il];exact h) (by omega) (by omega);have hA:((L.take k).map (dL t u)).length<=4000:=by simp;omega
  have hB:((L.take k).map (dO t u)).length<=4000:=by simp;omega
  generalize (L.take k).map (dL t u)=A at *
  generalize (L.take k).map (dO t u)=B at *
  have hb:=hL.b _ (bV i);have f:L[k]?=some L[k]:=dF i;clear l r hr hw hx o;generalize L[k]'i=a at *
  obtain⟨J,N,s⟩:=a;simp only at hb;obtain⟨p,hp⟩:∃ p:Nat,J=(p:Int):=⟨J.toNat,by omega⟩;obtain⟨q,hq⟩:∃ q:Nat,N=(q:Int):=⟨N.toNat,by omega⟩;subst hp hq;have E:p<t.aU.length:=by omega
  have y:p<t.fin.length:=by omega
  have F:q<u.aU.length:=by omega
  have z:q<u.fin.length:=by omega
  obtain⟨O,m1⟩:=wit _ (bV E);obtain⟨U,m2⟩:=G _ (bV y);obtain⟨V,m3⟩:=wiu _ (bV F);obtain⟨W,m4⟩:=H _ (bV z);have t1:=M.timesS (n:=n) (by omega) O V m1 m3;have t2:=M.timesS (n:=n) (by omega) U W m2 m4;have Y:dO t u ⟨p,q,s⟩=t.ring.times t.fin[p] u.fin[q]:=by unfold dO;simp only[kQ];rw[eT,eT,dF y,dF z];rfl
  have Z:dL t u ⟨p,q,s⟩=if s=0 then t.ring.times t.aU[p] u.aU[q]else t.ring.zero:=by unfold dL;simp only[kQ];rw[eT,eT,dF E,dF F];rfl
  rw[Y,Z]at d;clear Y Z O U V W m1 m2 m3 m4;have z3:=BI t.ring;generalize t.ring.times t.fin[p] u.fin[q]=w2 at *
  generalize t.ring.times t.aU[p] u.aU[q]=w1 at *
  generalize t.ring.zero=w0 at *
  simp[g.px,yf,aD,i,zTT,gM];refine bA z3 ?_;simp[i];refine eO f ?_;by_cases x:s=0
  .rw[aW x]at d;subst x;simp;refine eO f (eO (by simp;exact dF E) ⟨by simp,eO f (eO (by simp;exact dF F) ⟨by simp,?_⟩)⟩);refine bA t1 ?_;simp[i,eS];refine⟨by omega,eO f (eO (by simp;exact dF y) ⟨by simp,eO f (eO (by simp;exact dF z) ⟨by simp,?_⟩)⟩)⟩;refine bA t2 ?_;simp[eS,X];refine⟨by omega,d _ (aA.to [2,3,4,7,8,11,15] [((2,0),2),((3,0),3),((4,0),4),((7,0),7),((8,0),8),((11,0),11),((31,0),31),((172,0),32),((196,0),33)] ?_)⟩;simp[yf,aD,zTT,gM]
  .rw[aY x]at d;simp[x];refine⟨by omega,eO f (eO (by simp;exact dF y) ⟨by simp,eO f (eO (by simp;exact dF z) ⟨by simp,?_⟩)⟩)⟩;refine bA t2 ?_;simp[eS,X];refine⟨by omega,d _ (aA.to [2,3,4,7,8,11,15] [((2,0),2),((3,0),3),((4,0),4),((7,0),7),((8,0),8),((11,0),11),((31,0),31),((172,0),32),((196,0),33)] ?_)⟩;simp[yf,aD,zTT,gM]
 .have:k=L.length:=by omega
  subst this;rw[List.take_length];simp[g.px,yf,aD,zTT,gM];refine r _ _ ?_;simpa[yf,aD,zTT,gM]using hx
noncomputable def iD(t u:GTrans)(L:List aI)(K:List aC):List Bool:=eX (iH (sY K L.length) (fI t u L)) (iH (tI K L.length) (fF t u L))
theorem Je{n:Nat}(g h:aC->Int):∀ {K:List aC} (_:∀ x∈K,0<=h x/\h x<(n:Int)) {ls:List (List Int)},(∀ l∈ls,∀ x∈l,∃ j:Nat,x=j/\j<n)->∀ l∈K.foldl (λls x=>pX ls (g x) (h x)) ls,∀ x∈l,∃ j:Nat,x=j/\j<n
 | [],_,_,d,l,b=>d l b
 | x::K,i,ls,d,l,b=>by
  refine Je g h (K:=K) (λy a=>i y (by simp[a])) (ls:=pX ls (g x) (h x)) (λl b y a=>?_) l b;unfold pX at b;obtain b|rfl:=DY b
  .exact d l b y a
  .obtain a|a:=dT.1 a
   .rw[eT]at a;cases f:ls[(g x).toNat]? with
    | none=>rw[f]at a;cases a
    | some z=>rw[f]at a;exact d z (wg f) y a
   .simp only[jF]at a;have:=i x (by simp);exact⟨(h x).toNat,by omega,by omega⟩
def T6{α : Type}[Enc α](a:List Nat)(ids:List ((Nat × Nat) × Nat))(l:List α):(aT l).map (dW a ids)=aT l:=by rw[<- tU];exact Tq (aH l)
theorem Lg(l:List Bool):(aH l).all PV.flat=true:=by rw[kR];intro v a;obtain⟨b,_,rfl⟩:=cD.1 a;rfl
def QS{l:List (Nat × Nat)}{a:Nat × Nat}(h:∀ d∈l,d.1≠a.1):l.contains a=false:=by rw[Bool.eq_false_iff];intro b;exact h a (by simpa using b) rfl
def Ui{t u:GTrans}{M:c4 t.ring}(S:dM M){n C D:Nat}(hn:n+n+1<=M.lim)(it:t.aU.length=C)(iu:u.aU.length=D)(U:t.fin.length=C)(V:u.fin.length=D)
  (wit:∀ w∈t.aU,w.aQ t.ring/\M.mb n w) (wiu:∀ w∈u.aU,w.aQ t.ring/\M.mb n w) (G:∀ w∈t.fin,w.aQ t.ring/\M.mb n w) (H:∀ w∈u.fin,w.aQ t.ring/\M.mb n w)
  (mp:PV) {L:List aI} (X:kB C D L) (o:L.length<=4000) {K:List aC} (W:K.length<=10000000) (k:∀ x∈K,x.fit L.length) (zs:∀ a∈L,(dL t u a).sm 1048576/\(dO t u a).sm 1048576) :
  Sp P 79 [.ref (eW t u mp L K)] (.fresh 1 (aH (iD t u L K))):=by
 have z:(fI t u L).length=L.length:=by simp[fI]
 have y:(fF t u L).length=L.length:=by simp[fF]
 have E:=PY (nx:=sY K L.length) (m:=fI t u L) (N:=L.length) (by omega) z (GA _ _) λl b=>⟨dP (Ey (·.f) (·.t) K (List.replicate L.length []) 0 (λl b=>by rw[A8 b];exact dK _) l b) (by omega),Je (·.f) (·.t) (λx h=>(k x h).2) (λl b=>by rw[A8 b];intro x h;cases h) l b⟩;have F:=PY (nx:=tI K L.length) (m:=fF t u L) (N:=L.length) (by omega) y (Gn _ _) λl b=>⟨dP (Ey (·.t) (·.f) K (List.replicate L.length []) 0 (λl b=>by rw[A8 b];exact dK _) l b) (by omega),Je (·.t) (·.f) (λx h=>(k x h).1) (λl b=>by rw[A8 b];intro x h;cases h) l b⟩;have r:(iH (sY K L.length) (fI t u L)).length=L.length:=by simp[iH,z]
 have s:(iH (tI K L.length) (fF t u L)).length=L.length:=by simp[iH,y]
 unfold iD;have j:=λQ ks st hw h=>VS S hn it iu U V wit wiu G H mp X o K zs (Q:=Q) (ks:=ks) (st:=st) hw h;generalize fI t u L=A at *
 generalize fF t u L=B at *
 generalize Y:iH (sY K L.length) A=O at *
 generalize Z:iH (tI K L.length) B=R at *
 refine Sp.gU c.ky (by simp) (aA.eU (t:=0) (v:=eW t u mp L K) (n:=19) (by simp) rfl) ?_;simp[g.ky,eW,eS];have i:aT (List.replicate L.length false)=List.replicate L.length (.p (.bool false)):=by rw[LG];rfl
 refine⟨by omega,j _ _ _ (aA.to [0,3,4,29,30,31] [((19,0),19),((25,0),25)] ?_) ?_⟩
 .simp[yM,eW,aL,i,tU,dW]
 simp[gI,fS,yM,eW,eS];refine⟨by omega,VT (n:=L.length) (by omega) k (aA.cU [3,4,9,10,80,81,82] [100,109] [((19,0),19),((25,0),25),((70,0),70),((76,0),76)] (st':=sS L.length K A B _ _ _ _ 0) ?_) ?_⟩
 .simp[sS,aL,tU,dW,T6]
 intro C1 C2 H1 H2 I J;simp[gI,fS,sS];refine sE E ?_ rfl rfl (by simp) (by simp[z]) (by simp[r]) rfl (nE _ _ rfl) (cells_one (λ_=>rfl) _) ?_ ?_
 .refine lH (uF (l:=A) (sz:=1) (es:=aT A) (by simp) rfl (by omega)) (lH (z23 I (by rw[GA]) (by simp) λg=>?_) pL);simp[St.obj,St.site,look]
 .refine QS λd hd=>?_;simp only[List.eraseIdx_cons_zero,jG,List.flatMap_nil,kZ]at hd;obtain hd|hd:=dT.1 hd
  .have:=Rh I (by simp) (λg=>by simp[St.obj,St.site,look]) d hd;simp only;omega
  .exfalso;simp at hd
 simp[Lg];refine sE F ?_ rfl rfl (by simp) (by simp[y]) (by simp[s]) rfl (nE _ _ rfl) (cells_one (λ_=>rfl) _) ?_ ?_
 .refine lH (uF (l:=B) (sz:=1) (es:=aT B) (by simp) rfl (by omega)) (lH (z23 J (by rw[Gn]) (by simp) λg=>?_) pL);simp[St.obj,St.site,look]
 .refine QS λd hd=>?_;simp only[List.eraseIdx_cons_zero,jG,List.flatMap_nil,kZ]at hd;obtain hd|hd:=dT.1 hd
  .have:=Rh J (by simp) (λg=>by simp[St.obj,St.site,look]) d hd;simp only;omega
  .exfalso;simp at hd
 simp[Lg];refine VU (A:=O) (B:=R) (n:=L.length) r s (by omega) (aA.to [3,4,120,121] [((19,0),19),((25,0),25)] ?_) ?_
 .simp[xQ,aL]
 simp[gI,fS,xQ];simp[eX,r,s]
noncomputable def sU(t u:GTrans)(L:List aI)(K:List aC)(m:List Bool):GTrans:=⟨t.ring,t.i,u.o,(fV m L.length:Nat),gq m (L.map (dL t u)),gq m (L.map (dO t u)),mP m K⟩
def nV(t u:GTrans)(mp:PV)(L:List aI)(K:List aC)(m:List Bool)(A B:List GW)(D:List Int)(cm k:Nat):St :=
 ⟨[(0,.cp (eW t u mp L K) 19 0),(2,.ptr 2 0 0 0),(3,.ptr 3 0 0 0),(4,.own 4 0 0 L.length),(5,.own 5 0 0 L.length),(39,.p (.sl (aH L))),(40,.p (.int .i64 L.length)),(41,.p (.int .i64 k))],
  [(2,[some ⟨8,[.agg [.p (.int .i64 0),.nil,.p (.int .i64 0),.p (.int .i64 0),.p (.int .i64 0),.nil,.nil,.nil]]⟩]),
  (3,[some ⟨8,[.agg [.p (.int .i64 t.ring.kind),.p (.sl (aH t.ring.parts)),.p (.int .i64 t.i),.p (.int .i64 u.o),.p (.int .i64 cm),.own 121 0 0 A.length,.own 122 0 0 B.length,.nil]]⟩]),
  (4,[some ⟨1,aT m⟩]),(5,[some ⟨1,aT D⟩]),(121,[some ⟨8,aT A⟩]),(122,[some ⟨8,aT B⟩]),(aL,[none])]⟩
def Vm{t u:GTrans}{M:c4 t.ring}(Y:dM M){n J N:Nat}(hn:n+n+1<=M.lim)(it:t.aU.length=J)(iu:u.aU.length=N)(ft:t.fin.length=J)(fu:u.fin.length=N)
  (wit:∀ w∈t.aU,w.aQ t.ring/\M.mb n w) (wiu:∀ w∈u.aU,w.aQ t.ring/\M.mb n w) (O:∀ w∈t.fin,w.aQ t.ring/\M.mb n w) (U:∀ w∈u.fin,w.aQ t.ring/\M.mb n w)
  (mp:PV) {L:List aI} (hL:kB J N L) (ad:L.length<=4000) (K:List aC) {m:List Bool} (hm:m.length=L.length) {Q:Exit->St->Prop} {ks:List Kt} {st:St} (G:aA st (nV t u mp L K m [] [] (kS 0 (cU m) 0) 0 0))
  (H:gI P 119 Q (fS 0 ks) 0 (nV t u mp L K m (gq m (L.map (dL t u))) (gq m (L.map (dO t u))) (cU m) (fV m L.length) L.length)):vL P 119 Q g.o9 ks st:=by
 have lT:(cU m).length=L.length:=by rw[AK,hm]
 refine cQ (S:=λk:Nat=>nV t u mp L K m (gq (m.take k) ((L.map (dL t u)).take k)) (gq (m.take k) ((L.map (dO t u)).take k)) (kS 0 (cU m) k) (fV m k) k) (I:=λk=>k<=L.length) (m:=λk=>L.length - k) 0 (by simpa[gq,fV]using G) (by omega) ?_;rintro k hk R s X y;have V:=bH k;by_cases f:k<L.length
 .have d:∀ r,aA r (nV t u mp L K m (gq (m.take (k+1)) ((L.map (dL t u)).take (k+1))) (gq (m.take (k+1)) ((L.map (dO t u)).take (k+1))) (kS 0 (cU m) (k+1)) (fV m (k+1)) (k+1))->R .normal r:=λr h=>s (k+1) r h (by omega) (by omega);have j:k<m.length:=by omega
  have af:=LM m k;have Z:IntKind.i64.wrap ((fV m k:Int)+1)=((fV m k+1:Nat):Int):=b5;rw[ES j (by simpa using f),ES j (by simpa using f)]at d;have hA:(gq (m.take k) ((L.map (dL t u)).take k)).length<=4000:=by rw[BE (by simp;omega)];exact Nat.le_trans List.count_le_length (by rw[List.length_take];omega)
  have hB:(gq (m.take k) ((L.map (dO t u)).take k)).length<=4000:=by rw[BE (by simp;omega)];exact dP HZ (by rw[iB];omega)
  have i:=JX j;have F:=EE 0 (cU m) (k:=k) (by omega);have W:=hL.b _ (bV f);have C:=SJ Y hn it iu ft fu wit wiu O U mp L K (a:=L[k]) ⟨W.1,W.2.1⟩;simp only[DP]at d;generalize gq (m.take k) ((L.map (dL t u)).take k)=A at *
  generalize gq (m.take k) ((L.map (dO t u)).take k)=B at *
  have o:m[k]?=some m[k]:=dF j;cases l:m[k]with
  | false =>
   have E:=N5 0 (cU m) (k:=k) (by omega) (by rw[GK j,l];rfl);rw[l]at d i o;simp only[gJ,fQ,kZ,Bool.toNat_false,vB]at d i;rw[E,i]at d;clear s y X G H;generalize kS 0 (cU m) k=D at *
   simp[g.o9,nV,f];refine bK f ?_;refine⟨by omega,eO o ?_⟩;simp[V];refine d _ (aA.to [0,2,3,4,5,39,40,41] [((2,0),2),((3,0),3),((4,0),4),((5,0),5),((121,0),121),((122,0),122)] ?_);simp[nV,eW,aL]
  | true =>
   have x:=EF 0 (cU m) (k:=k) (by omega);rw[GK j,l]at x;rw[l]at d i o;simp only[cB,Bool.toNat_true]at d i x;rw[<- x,i]at d;clear s y X G H;generalize kS 0 (cU m) k=D at *
   generalize fV m k=z at *
   simp[g.o9,nV,f];refine bK f ?_;generalize L[k]'f=a at *
   generalize dL t u a=w1 at *
   generalize dO t u a=w2 at *
   refine⟨by omega,eO o ?_⟩;simp[f,F,Z];refine⟨by omega,bK (by omega:k<D.length) ?_⟩;refine bF C (by simp[JJ]) ?_;simp[eW,Gq,eS,V];refine⟨by omega,by omega,d _ (aA.to [0,2,3,4,5,39,40,41] [((2,0),2),((3,0),3),((4,0),4),((5,0),5),((69,0),121),((74,0),122)] ?_)⟩;rw[BU D k ((z:Nat):Int) (v:=.p (.int .i64 z)) rfl];generalize D.set k ((z:Nat):Int)=D2;simp[nV,eW,aL]
 .have:k=L.length:=by omega
  subst this;have t1:m.take L.length=m:=fK (by omega);have t2:(L.map (dL t u)).take L.length=L.map (dL t u):=fK (by simp);have t3:(L.map (dO t u)).take L.length=L.map (dO t u):=fK (by simp);have t0:kS 0 (cU m) L.length=cU m:=by rw[<- lT];exact GJ 0 (cU m)
  rw[t0,t1,t2,t3];simp[g.o9,nV];refine y _ _ ?_;simpa[nV,eW]using H
def nU(t u:GTrans)(N:Nat)(K:List aC)(m:List Bool)(A B:List GW)(D:List Int)(cm:Nat)(C:List aC)(k:Nat):St :=
 ⟨[(2,.ptr 2 0 0 0),(3,.ptr 3 0 0 0),(4,.own 4 0 0 N),(5,.own 5 0 0 N),(81,.p (.sl (aH K))),(82,.p (.int .i64 K.length)),(83,.p (.int .i64 k))],
  [(2,[some ⟨8,[.agg [.p (.int .i64 0),.nil,.p (.int .i64 0),.p (.int .i64 0),.p (.int .i64 0),.nil,.nil,.nil]]⟩]),
  (3,[some ⟨8,[.agg [.p (.int .i64 t.ring.kind),.p (.sl (aH t.ring.parts)),.p (.int .i64 t.i),.p (.int .i64 u.o),.p (.int .i64 cm),.own 121 0 0 A.length,.own 122 0 0 B.length,.own 123 0 0 C.length]]⟩]),
  (4,[some ⟨1,aT m⟩]),(5,[some ⟨1,aT D⟩]),(121,[some ⟨8,aT A⟩]),(122,[some ⟨8,aT B⟩]),(123,[some ⟨12,aT C⟩]),(aL,[none])]⟩
def Vn{t u:GTrans}{N:Nat}(hN:N<=100000){K:List aC}(hl:K.length<=3000000){m:List Bool}(z:m.length=N)(W:∀ x∈K,x.fit N){A B:List GW}{cm:Nat}{Q:Exit->St->Prop}{ks:List Kt}{st:St}(J:aA st (nU t u N K m A B (cU m) cm [] 0))
  (L:gI P 119 Q (fS 2 ks) 2 (nU t u N K m A B (cU m) cm (mP m K) K.length)):vL P 119 Q g.p8 ks st:=by
 have Y:(cU m).length=N:=by rw[AK,z]
 refine cQ (S:=λk:Nat=>nU t u N K m A B (cU m) cm (mP m (K.take k)) k) (I:=λk=>k<=K.length) (m:=λk=>K.length - k) 0 (by simpa[mP]using J) (by omega) ?_;rintro k hk R p X s;have y:=bH k;by_cases b:k<K.length
 .have a:∀ d,aA d (nU t u N K m A B (cU m) cm (mP m (K.take (k+1))) (k+1))->R .normal d:=λd h=>p (k+1) d h (by omega) (by omega);have hC:(mP m (K.take k)).length<=3000000:=dP (Rq _ _) (by rw[iB];omega);rw[NQ m b]at a;generalize mP m (K.take k)=C at *
  obtain⟨⟨Z,f1⟩,t0,t1⟩:=W _ (bV b);clear p s X J L;simp[g.p8,nU,b];refine bK b ?_;generalize K[k]'b=x at *
  obtain⟨f,j⟩:∃ f:Nat,x.f=(f:Int):=⟨x.f.toNat,by omega⟩;obtain⟨q,l⟩:∃ q:Nat,x.t=(q:Int):=⟨x.t.toNat,by omega⟩;have n:f<N:=by omega
  have r:q<N:=by omega
  have E:m[f]?=some m[f]:=dF (by omega);have F:m[q]?=some m[q]:=dF (by omega);have G:(cU m)[f]?=some (cU m)[f]:=dF (by omega);have H:(cU m)[q]?=some (cU m)[q]:=dF (by omega);have U:wM m x=(m[f]&&m[q]):=by unfold wM;rw[j,l,kQ,kQ,eT,eT,E,F];rfl
  have V:rC m x=⟨(cU m)[f],x.i,x.o,(cU m)[q],x.w⟩:=by unfold rC;rw[j,l,kQ,kQ,eT,eT,G,H];rfl
  rw[U,V]at a;generalize m[f]=M at *
  generalize m[q]=O at *
  generalize (cU m)[f]=n1 at *
  generalize (cU m)[q]=n2 at *
  generalize cU m=D at *
  rw[j,l];simp[n,z];refine eO E ?_;cases M with
  | false =>
   simp only[Bool.false_and,gJ,fQ,kZ]at a;simp[y];refine a _ (aA.to [2,3,4,5,81,82,83] [((2,0),2),((3,0),3),((4,0),4),((5,0),5),((121,0),121),((122,0),122),((123,0),123)] ?_);simp[nU,aL]
  | true =>
   simp[r,z];refine eO F ?_;cases O with
   | false =>
    simp only[Bool.and_false,gJ,fQ,kZ]at a;simp[y];refine a _ (aA.to [2,3,4,5,81,82,83] [((2,0),2),((3,0),3),((4,0),4),((5,0),5),((121,0),121),((122,0),122),((123,0),123)] ?_);simp[nU,aL]
   | true =>
    simp only[FG,cB]at a;simp[n,r,Y];refine eO G (eO H ?_);simp[y];refine⟨by omega,a _ (aA.to [2,3,4,5,81,82,83] [((2,0),2),((3,0),3),((4,0),4),((5,0),5),((121,0),121),((122,0),122),((115,0),123)] ?_)⟩;simp[nU,aL]
 .have:k=K.length:=by omega
  subst this;rw[List.take_of_length_le (Nat.le_refl _)];simp[g.p8,nU];refine s _ _ ?_;simpa[nU]using L
def Uo{t u:GTrans}{M:c4 t.ring}(r:dM M){n l o:Nat}(hn:n+n+1<=M.lim)(it:t.aU.length=l)(iu:u.aU.length=o)(y:t.fin.length=l)(z:u.fin.length=o)
  (wit:∀ w∈t.aU,w.aQ t.ring/\M.mb n w) (wiu:∀ w∈u.aU,w.aQ t.ring/\M.mb n w) (f:∀ w∈t.fin,w.aQ t.ring/\M.mb n w) (h:∀ w∈u.fin,w.aQ t.ring/\M.mb n w)
  (mp:PV) {L:List aI} (D:kB l o L) (d:L.length<=4000) {K:List aC} (j:K.length<=3000000) (C:∀ x∈K,x.fit L.length) (zs:∀ a∈L,(dL t u a).sm 1048576/\(dO t u a).sm 1048576) :
  zS 28 [.ref (eW t u mp L K)] (enc (sU t u L K (iD t u L K))):=by
 have R:(fI t u L).length=L.length:=by simp[fI]
 have O:(fF t u L).length=L.length:=by simp[fF]
 have S:=Ui r hn it iu y z wit wiu f h mp D d (K:=K) (by omega) C zs;have b:(iD t u L K).length=L.length:=by simp[iD,eX,iH,R,O]
 have G:=λm b Q ks st H I=>Vm r hn it iu y z wit wiu f h mp D d K (m:=m) b (Q:=Q) (ks:=ks) (st:=st) H I;unfold sU;generalize iD t u L K=m at *
 have J:aT (kS 0 (cU m) 0)=List.replicate L.length (.p (.int .i64 0)):=by rw[GX,AK,b,LG];rfl
 refine Sp.gU c.kg (by simp) (aA.eU (t:=0) (v:=eW t u mp L K) (n:=19) (by simp) rfl) ?_;simp[g.kg,eW];refine QF S (by simp[JJ,eW]) ⟨nE _ _ rfl,by decide,by simp[-jE,aH,eS];omega⟩ (by simp[Gq]) ?_;have k:(RV.fresh 1 (aH m)).flat=true:=Lg m;simp[eS,k,Gq];refine⟨by omega,G m b _ _ _ ((aA.cW (s0:=3) (g0:=0) (i:=5) (s:=77) (sz:=8) rfl).trans ((aA.cW (s0:=3) (g0:=0) (i:=6) (s:=78) (sz:=8) rfl).trans (aA.to [0,2,3,4,5,39,40,41] [((2,0),2),((3,0),3),((29,0),4),((35,0),5),((77,0),121),((78,0),122)] ?_))) ?_⟩
 .simp only[nV,J];simp[b,eW,aL]
 generalize gq m (L.map (dL t u))=E at *
 generalize gq m (L.map (dO t u))=F at *
 simp[gI,fS,nV,eW];refine Vn (t:=t) (u:=u) (N:=L.length) (by omega) j b C (A:=E) (B:=F) (cm:=fV m L.length) ((aA.cW (s0:=3) (g0:=0) (i:=7) (s:=79) (sz:=12) rfl).trans (aA.to [2,3,4,5,81,82,83] [((2,0),2),((3,0),3),((4,0),4),((5,0),5),((121,0),121),((122,0),122),((79,0),123)] ?_)) ?_
 .simp[nU,aL]
 generalize mP m K=U at *
 simp[gI,fS,nU]
end Go.Ab
namespace Go.Ab
open Enc (enc)
def ybt{r:aB}{M:c4 r}(f:dM M)(l:List GW)(n:Nat)(hn:n<=M.lim)(x:l.length<=1000000)(h:∀ w∈l,M.mb n w/\w.aQ r)(i:r.zero.aQ r) :
  zS 63 [enc r,.sl (aH l)] (.sl (aH (l.map λw=>r.plus w r.zero))):=by
 refine Sp.vz c.ig λ_=>?_;simp[g.ig]
 refine cQ (S:=λk:Nat=>aD [(2,.ptr 2 0 0 0),(5,.own 1 0 0 k),(8,.p (.sl (aH l))),(9,.p (.int .i64 l.length)),(10,.p (.int .i64 k))] [(2,⟨2,[.p (enc r)]⟩),(1,⟨8,aT ((l.take k).map λw=>r.plus w r.zero)⟩)]) (I:=λk=>k<=l.length) (m:=λk=>l.length - k) 0
  (aA.nl 5 77 8 rfl (aA.to [2,5,8,9,10] [((2,0),2),((77,0),1)] (by simp))) (by omega) ?_
 rintro k u R b y t;have j:=bH k;simp[g.tc,aD];refine⟨λa=>?_,λa=>t _ _ ?_⟩
 .refine bK a ?_
  try simp
  refine bF (BJ r) rfl ?_
  try simp
  have d:=h _ (List.getElem_mem a);refine bA (f.vJ (n:=n) hn d.2 i d.1 (M.mono M.zero (Nat.zero_le n))) ?_;simp[j];have s:l.take (k+1)=l.take k++[l[k]]:=List.take_succ_eq_append_getElem a;refine⟨⟨by omega,by omega⟩,b (k+1) _ (aA.to [2,5,8,9,10] [((2,0),2),((21,0),1)] ?_) (by omega) (by omega)⟩;have o:(l.map λw=>r.plus w r.zero).take (k+1)=(l.map λw=>r.plus w r.zero).take k++[r.plus l[k] r.zero]:=by rw[List.take_succ_eq_append_getElem (by simpa using a)];simp
  simp[aD];rw[o];simp
 .have:k=l.length:=by omega
  subst this;simp;rw[fK (by simp),fK (by simp)]
def OM{r:aB}{M:c4 r}(b:dM M)(l:List GW)(n:Nat)(hn:n<=M.lim)(d:r.ok=true)(f:l.length<=64)(h:∀ w∈l,M.mb n w)(c:∀ w∈l,w.aQ r):zS 63 [enc r,.sl (aH l)] (.sl (aH l)):=by
 have k:=ybt b l n hn (by omega) (λw a=>⟨h w a,c w a⟩) (xj d)
 rwa[ZE c]at k
def Qq(a:GTrans){M:c4 a.ring}(d:dM M)(n B:Nat)(hn:B+n<=M.lim)(i:∀ q,kc aC.key a.aE q<=B)(l:∀ w∈a.aU,M.mb n w)(k:∀ w∈a.fin,M.mb n w)(j:∀ x∈a.aE,M.mb n x.w)(f:a.sm 1048576)(o:a.aU.length<=1000000)(m:a.fin.length<=1000000) :
  zS 24 [enc a] (.bP [enc (if a.ok then a.nf else iO),.int .i64 (if a.ok then 0 else 4)]):=by
 refine Sp.vz c.ai λ_=>?_;simp[g.ai];refine bA (Pe a f o m) ?_;by_cases b:a.ok;rotate_left
 .rw[decide_eq_false b,aY b,aY b];simp[iO]
 rw[decide_eq_true b,aW b,aW b];have p:=b.il;have r:=b.fl;have s:=b.st2
 simp;refine bA (Xo a.ring.parts (by have:=EJ b.ring;omega)) ?_;simp;refine bA (OM d a.aU n (by omega) b.ring (by omega) l b.aU) ?_;simp;refine bA (OM d a.fin n (by omega) b.ring (by omega) k b.fin) ?_;simp;refine bA (Pk d a.aE n B hn i (by have:=b.al;omega) λx h=>⟨j x h,(b.aE x h).2.2.2.2.2.2.2.2⟩) ?_;simp[GTrans.nf]
end Go.Ab
namespace Go.Ab
open Enc (enc)
attribute [local simp] fX bL.aR
def WB(l m:List Int)(z:l.length<=4611686018427387904):zS 64 [.sl (aH l),.sl (aH m)] (.bool (decide (l=m))):=by
 refine Sp.vz c.ko λ_=>?_;simp[g.ko];refine⟨λh=>?_,λh=>λt=>h (by rw[t])⟩;have b:l.length=m.length:=by omega
 refine cQ (S:=λk:Nat=>aD [(0,.p (.sl (aH l))),(1,.p (.sl (aH m))),(12,.p (.int .i64 l.length)),(13,.p (.int .i64 k))] []) (I:=λk=>k<=l.length/\l.take k=m.take k) (m:=λk=>l.length - k) 0
  (aA.to [0,1,12,13] [] (by simp)) ⟨by omega,by simp⟩ ?_
 rintro k ⟨y,j⟩ R u w x;have n:=bH k;simp[g.td,aD];refine⟨λi=>?_,λi=>x _ _ ?_⟩
 .have a:k<m.length:=by omega
  have d:l[k]≠m[k]->l≠m:=λh o=>by subst o;exact h rfl
  refine bK i ?_
  try simp
  refine bK a ?_
  try simp
  refine⟨λf=>?_,λf=>?_⟩
  .simp[n];exact u (k+1) _ (aA.to [0,1,12,13] [] (by simp)) ⟨by omega,by rw[ed i,ed a,j,f]⟩ (by omega)
  .have s:l≠m:=d f;exact w _ (by simp[s])
 .have r:l=m:=by rw[<- List.take_length (l:=l),<- List.take_length (l:=m),<- b,show l.length=k by omega];exact j
  simp[r]
def KF(r s:aB)(b:r.parts.length<=4611686018427387904):zS 25 [enc r,enc s] (.bool (decide (r=s))):=by
 refine Sp.vz c.ke λ_=>?_;simp[g.ke];have e:decide (r=s)=(decide (r.kind=s.kind)&&decide (r.parts=s.parts)):=by cases r;cases s;simp[aB.mk.injEq]
 rw[e];by_cases a:r.kind=s.kind
 .simp[a];refine bA (WB r.parts s.parts b) ?_;simp
 .simp[a];exact λh=>a (by rw[h])
def Uv{t u T U:GTrans}{e f:Int}(d:zS 24 [enc t] (.bP [enc T,.int .i64 e]))(i:zS 24 [enc u] (.bP [enc U,.int .i64 f]))(h:e≠0\/f≠0) :
  zS 9 [enc t,enc u] (.bP [enc iO,.int .i64 4]):=by
 refine Sp.vz c.ak λ_=>?_;simp[g.ak];refine bA d ?_;simp;refine bA i ?_;simp;by_cases a:e=0
 .have b:=h.resolve_left λh=>h a;simp[a,b,iO]
 .simp[a,iO]
def Uw{t u T U:GTrans}(b:zS 24 [enc t] (.bP [enc T,.int .i64 0]))(d:zS 24 [enc u] (.bP [enc U,.int .i64 0]))(hp:T.ring.parts.length<=1000000)(h:T.ring≠U.ring) :
  zS 9 [enc t,enc u] (.bP [enc iO,.int .i64 6]):=by
 have a:=KF T.ring U.ring (by omega);rw[decide_eq_false h]at a;refine Sp.vz c.ak λ_=>?_;simp[g.ak];refine bA b ?_;simp;refine bA d ?_;simp;refine bA a ?_;simp[iO]
def Ux{t u T U:GTrans}(d:zS 24 [enc t] (.bP [enc T,.int .i64 0]))(f:zS 24 [enc u] (.bP [enc U,.int .i64 0]))(hp:T.ring.parts.length<=1000000)(h:T.ring=U.ring)(b:T.o≠U.i) :
  zS 9 [enc t,enc u] (.bP [enc iO,.int .i64 9]):=by
 have a:=KF T.ring U.ring (by omega);rw[decide_eq_true h]at a;refine Sp.vz c.ak λ_=>?_;simp[g.ak];refine bA d ?_;simp;refine bA f ?_;simp;refine bA a ?_;simp[iO,b]
def dV(V:GTrans):Prop:=V.st>64\/V.aE.length>2048
instance (V:GTrans):Decidable (dV V):=inferInstanceAs (Decidable (_\/_))
theorem Po{α : Type}[Enc α]{st:St}{f sz:Nat}{L:List α}(n:Nat)(h:st.site f=eB sz L):bE st (n+2) (dC f L)=some (.sl (aH L)):=by
 cases L with
 | nil=>rfl
 | cons y l =>
  show bE st (n+2) (.own f l.length 0 (l.length+1))=_;rw[Qw];have:st.obj f l.length=some ⟨sz,aT (y::l)⟩:=by unfold St.obj;rw[h];show((List.replicate l.length (none:Option bD)++[some (⟨sz,aT (y::l)⟩:bD)])[l.length]?).getD none=_;rw[qC (by simp)];simp
  rw[this];simp only[qW,vo,pQ,dK,cB,yJ];rw[fK (by rw[vo];exact dK _),G2];rfl
def yX{α : Type}(f:Nat):List α -> List (Nat × Nat)
 | []=>[]
 | _::l=>[(f,l.length)]
theorem Ow{α : Type}[Enc α]{st:St}{f sz:Nat}{L:List α}(n:Nat)(h:st.site f=eB sz L):aO st (n+2) (dC f L)=yX f L:=by
 cases L with
 | nil=>rfl
 | cons y l =>
  show aO st (n+2) (.own f l.length 0 (l.length+1))=_;rw[V7];have:st.obj f l.length=some ⟨sz,aT (y::l)⟩:=by unfold St.obj;rw[h];show((List.replicate l.length (none:Option bD)++[some (⟨sz,aT (y::l)⟩:bD)])[l.length]?).getD none=_;rw[qC (by simp)];simp
  rw[this];show _::(aT (y::l)).flatMap (aO st (n+1))=_;have a:(aT (y::l)).flatMap (aO st (n+1))=[]:=by rw[List.flatMap_eq_nil_iff];intro v b;obtain⟨w,_,rfl⟩:=cD.1 b;rfl
  rw[a];rfl
def yC:AV:=.agg [.p (.int .i64 0),.nil,.p (.int .i64 0),.p (.int .i64 0),.p (.int .i64 0),.nil,.nil,.nil]
def DG{α : Type}(L:List α):List (Option bD):=List.replicate L.length none
theorem Zn(T U:GTrans)(r:Nat)(L:List aI)(K:List aC) :
  aA ⟨[(2,.ptr 2 0 0 0),(4,.ptr 4 0 0 0),(8,.ptr 900000 0 0 0)],cX T U r L K++[(2,[some ⟨8,[.p (enc T)]⟩]),(4,[some ⟨8,[yC]⟩]),(aL,[none])]⟩
   ⟨[(2,.ptr 2 0 0 0),(4,.ptr 4 0 0 0),(8,.ptr 900000 0 0 0)],[(900001,DG L),(900002,DG K),(900000,[some ⟨19,[.p (eW T U (.fH r) L K)]⟩]),(2,[some ⟨8,[.p (enc T)]⟩]),(4,[some ⟨8,[yC]⟩]),(aL,[none])]⟩:=by
 generalize a:(⟨[(2,.ptr 2 0 0 0),(4,.ptr 4 0 0 0),(8,.ptr 900000 0 0 0)],cX T U r L K++[(2,[some ⟨8,[.p (enc T)]⟩]),(4,[some ⟨8,[yC]⟩]),(aL,[none])]⟩:St)=b;have f:b.site 900001=eB 3 L:=by subst a;simp[St.site,look,cX,cP]
 have h:b.site 900002=eB 12 K:=by subst a;simp[St.site,look,cX,cP]
 have w:b.obj 900000 0=some ⟨19,[bJ T U r (dC 900001 L) (dC 900002 K)]⟩:=by subst a;simp[St.obj,St.site,look,cX,cP]
 have A:=Po 2 f;have B:=Po 2 h;have i:=Ow 2 f;have j:=Ow 2 h;have u:[bJ T U r (dC 900001 L) (dC 900002 K)].mapM (bE b 5)=some [eW T U (.fH r) L K]:=by
  have:bE b 5 (bJ T U r (dC 900001 L) (dC 900002 K))=some (eW T U (.fH r) L K):=by show(List.mapM (bE b 4) _).map PV.agg=_;simp only[Bf,List.mapM_nil,A,B];rfl
  simp only[Bf,List.mapM_nil,this];rfl
 have t:[bJ T U r (dC 900001 L) (dC 900002 K)].flatMap (aO b 5)=yX 900001 L++yX 900002 K:=by show aO b 5 (bJ T U r (dC 900001 L) (dC 900002 K))++[]=_;show(List.flatMap (aO b 4) _)++[]=_;simp only[jG,List.flatMap_nil,i,j,kZ];rfl
 have m:=aA.yb (s:=900000) (g:=0) (n:=5) (o:=⟨19,[bJ T U r (dC 900001 L) (dC 900002 K)]⟩) [eW T U (.fH r) L K] (yX 900001 L++yX 900002 K) w u t (by cases L<;>cases K<;>simp[yX]);refine m.trans ?_;subst a;have C:∀ n:Nat,(List.replicate n (none:Option bD)++[none])=List.replicate (n+1) none:=λn=>List.replicate_succ'.symm;have d:∀ (n:Nat) (x:Option bD),(List.replicate n (none:Option bD)++[x]).set n none=List.replicate (n+1) none:=λn x=>by rw[B7 _ _ (by simp)];simp[C]
 clear f h w A B i j u t m;cases L with
 | nil =>
  cases K with
  | nil =>
   refine aA.cU [2,4,8] [900001,900002] [((900000,0),900000),((2,0),2),((4,0),4)] ?_;simp[aJ,yX,cX,cP,eB,dC,DG,yC,St.setObj,aL]
  | cons z k =>
   refine aA.cU [2,4,8] [900001,900002] [((900000,0),900000),((2,0),2),((4,0),4)] ?_;simp[aJ,yX,cX,cP,eB,dC,DG,yC,St.setObj,BK,aL,d]
 | cons y l =>
  cases K with
  | nil =>
   refine aA.cU [2,4,8] [900001,900002] [((900000,0),900000),((2,0),2),((4,0),4)] ?_;simp[aJ,yX,cX,cP,eB,dC,DG,yC,St.setObj,BK,aL,d]
  | cons z k =>
   refine aA.cU [2,4,8] [900001,900002] [((900000,0),900000),((2,0),2),((4,0),4)] ?_;simp[aJ,yX,cX,cP,eB,dC,DG,yC,St.setObj,BK,aL,d]
def Uz{t u T U V:GTrans}{e:Int}(tn:zS 24 [enc t] (.bP [enc T,.int .i64 0]))(un:zS 24 [enc u] (.bP [enc U,.int .i64 0]))(hp:T.ring.parts.length<=1000000)(h:T.ring=U.ring)(Y:T.o=U.i)
  {M:c4 T.ring} {n B C:Nat} (o:wT T U M n B C) (ft:T.fin.length=B) (fu:U.fin.length=C) (z:∀ w∈T.fin,w.aQ T.ring/\M.mb n w) (A:∀ w∈U.fin,w.aQ T.ring/\M.mb n w)
  {L:List aI} {K:List aC} (Q:kI T U B C=(L,K)) (O:kB B C L) (ad:L.length<=2700) {m:List aC} (tk:zS 27 [enc T.ring,.sl (aH K)] (.sl (aH m))) (E:m.length<=3000000) (X:∀ x∈m,x.fit L.length)
  (zs:∀ a∈L,(dL T U a).sm 1048576/\(dO T U a).sm 1048576) {W:GTrans} (S:W=sU T U L m (iD T U L m)) (vn:¬ dV W->zS 24 [enc W] (.bP [enc V,.int .i64 e])) :
  zS 9 [enc t,enc u] (.bP [enc (if dV W then iO else V),.int .i64 (if dV W then 2 else e)]):=by
 have d:(dV W/\(if dV W then iO else V)=iO/\(if dV W then 2 else e)=2)\/(¬ dV W/\zS 24 [enc W] (.bP [enc (if dV W then iO else V),.int .i64 (if dV W then 2 else e)])):=by
  by_cases b:dV W
  .exact .inl ⟨b,aW b,aW b⟩
  .rw[aY b,aY b];exact .inr ⟨b,vn b⟩
 generalize (if dV W then iO else V)=R at *
 generalize (if dV W then 2 else e)=f at *
 have Z:=KF T.ring U.ring (by omega);rw[decide_eq_true h]at Z;have k:=λr=>ydy o r;rw[Q]at k;have j:=λmp=>Uo o.mp o.hn o.it o.iu ft fu o.wit o.wiu z A mp O (by omega) E X zs;rw[<- S]at j;clear Q X zs O o z A;refine Sp.gG c.ak (by simp) ?_;unfold g.ak;generalize hP:(λex s (_:Option FA)=>iG [(4,some 8),(5,none)] (RV.pure (.bP [enc R,.int .i64 f])) ex s)=I;refine MR.dD ?_;simp;refine MR.dD ?_;simp;refine bA tn ?_;simp;refine MR.dD ?_;simp;refine bA un ?_;simp;refine MR.dD ?_;simp;refine bA Z ?_;simp[Y];refine MR.cN (MR.oo (AR 2 [[],[3]] ?_));simp;refine eD.cons (Lv λr=>?_);refine yw [[43,44,45],[46],[47]] ?_;simp;have D:=nN [] [];have y:=nN L K;have F:=y.sa;have G:=y.sb;have hl:=y.l;have ha:=y.a;refine MR.eg (st1:=⟨[(2,.ptr 2 0 0 0),(4,.ptr 4 0 0 0),(8,.ptr 900000 0 0 0)],cX T U r [] []++[(2,[some ⟨8,[.p (enc T)]⟩]),(4,[some ⟨8,[.agg [.p (.int .i64 0),.nil,.p (.int .i64 0),.p (.int .i64 0),.p (.int .i64 0),.nil,.nil,.nil]]⟩]),(aL,[none])]⟩) (EK [2,4,8] [(900000,[(47,0)]),(900001,[]),(900002,[]),(2,[(2,0)]),(4,[(4,0)])] ?_ (λσ=>σ 47 0=(900000,0) /\ σ 2 0=(2,0) /\ σ 4 0=(4,0)) ?_ ?_) ?_
 .simp[y9,DI,wY,fP,aL,BN]
 .simp[nT,tZ,pJ,St.site,look]
 .rintro σ ⟨s1,s2,s3⟩;simp[sI,mE,sub,iE,fZ,St.get,look,St.site,aL,s1,s2,s3,cX,cP,bJ,dC,eB,Wz,Y]
 refine MR.holds T5 ?_;refine MR.cN (MR.cN (MR.oo (AR 1 [[]] ?_)));simp;refine eD.cons (Hu (k r) (CF.gB FQ _ _) rfl ?_ ?_ rfl ?_ ?_)
 .simp
 .simp[pZ,St.site,look,cX,cP,bJ,dC,eB]
 .show(true&&dQ ek (cX T U r [] [])&&true&&dQ ek (cX T U r L K))=true;rw[show dQ ek (cX T U r [] [])=true from D.hp T U r,show dQ ek (cX T U r L K)=true from y.hp T U r];rfl
 refine yw [[48],[49]] ?_;simp[CQ,sM];refine MR.eR (t:=false) (by simp) (λh=>by cases h) λ_=>MR.pk ?_;refine⟨λ_=>MR.eg ((aA.cU (st':=⟨[(2,.ptr 2 0 0 0),(4,.ptr 4 0 0 0),(8,.ptr 900000 0 0 0)],cX T U r L K++[(2,[some ⟨8,[.p (enc T)]⟩]),(4,[some ⟨8,[yC]⟩]),(aL,[none])]⟩) [2,4,8] ek [((2,0),2),((4,0),4)] ?_).trans (Zn T U r L K)) (MR.cS ?_),λh=>absurd rfl h⟩
 .simp[cX,cP,bJ,yC,hl,ha];exact⟨F,G⟩
 simp[eW,yC];refine bA tk ?_;simp;refine bF (j (.fH r)) (by simp[eW,z24]) ?_;subst hP;clear S j k;obtain⟨b,rfl,rfl⟩|⟨b,H⟩:=d
 .simp only[dV]at b;simp[aJ,iO];intro J N;exfalso;omega
 .simp only[dV,not_or]at b;have J:¬ 64<W.st:=by omega
  have N:¬ (2048:Int)<W.aE.length:=by omega
  simp[aJ,J,N];refine bA H ?_;simp
def qO(a b:Bool)(t u:GTrans):Int:=if a=false\/b=false then 4 else if t.ring≠u.ring then 6 else if t.o≠u.i then 9 else 0
def LF{t u:GTrans}{e:Int}(a:zS 29 [enc t,enc u] (.int .i64 e))(b:e≠0) :
  zS 10 [enc t,enc u] (.bP [enc iO,.int .i64 e]):=by
 refine Sp.vz c.ay λ_=>?_;simp[g.ay];refine bA a ?_;simp[b,iO]
theorem K3{t u:GTrans}{X:List aI × List aC}{s:Nat}(h:(cI t u X s).1.length<=s):∀ m,cI t u X (s+m)=cI t u X s
 | 0=>rfl
 | m+1=>by have a:=K3 h m;show cI t u X (s+m+1)=_;simp only[cI];rw[a,aY (by omega)]
def UR{t u T U:GTrans}(V:zS 29 [enc t,enc u] (.int .i64 0))(tf:zS 30 [enc t] (enc T))(uf:zS 30 [enc u] (enc U))(hr:t.ring=T.ring)
  {M:c4 T.ring} {n b d:Nat} (o:wT T U M n b d) (G:T.st=b) (H:U.st=d) (Z:T.fin.length=b) (fu:U.fin.length=d) (I:∀ w∈T.fin,w.aQ T.ring/\M.mb n w) (J:∀ w∈U.fin,w.aQ T.ring/\M.mb n w)
  (k:∀ s,kB b d (cI T U (kU T U d [] b,[]) s).1/\(cI T U (kU T U d [] b,[]) s).2.length<=s*1000) (F:∀ a,(mK T U a).length<=1000)
  {L:List aI} {K:List aC} (E:cI T U (kU T U d [] b,[]) (b*d*3)=(L,K)) {N W:GTrans} (Y:zS 30 [enc (⟨T.ring,T.i,U.o,L.length,L.map (dL T U),L.map (dO T U),K⟩:GTrans)] (enc N)) (kp:zS 36 [enc N] (enc W)) :
  zS 10 [enc t,enc u] (.bP [enc (if dV W then iO else W),.int .i64 (if dV W then 2 else 0)]):=by
 have O:=mS o.hs o.hu;have j:=(k (b*d*3)).1;rw[E]at j;have C:=j.len;simp only at C j;have l:∀ s,s=(cI T U (kU T U d [] b,[]) s).1.length->cI T U (kU T U d [] b,[]) s=(L,K):=λs A=>by
  have B:=(k s).1.len;rw[<- K3 (t:=T) (u:=U) (X:=(kU T U d [] b,[])) (s:=s) (by omega) (b*d*3 - s),<- E]
  congr 1;omega
 have m:(dV W/\(if dV W then iO else W)=iO/\(if dV W then 2 else(0:Int))=2)\/(¬ dV W/\(if dV W then iO else W)=W/\(if dV W then 2 else(0:Int))=0):=by
  by_cases h:dV W
  .exact .inl ⟨h,aW h,aW h⟩
  .exact .inr ⟨h,aY h,aY h⟩
 generalize (if dV W then iO else W)=R at *
 generalize (if dV W then 2 else(0:Int))=f at *
 have x:=λQ ks st p r=>Vf o.mp o.hn o.wit o.wiu o.it G o.iu H (by have:=o.hs;omega) (by have:=o.hu;omega) (Q:=Q) (ks:=ks) (st:=st) p r;have y:=λQ ks st p r=>ZA o k F (Q:=Q) (ks:=ks) (st:=st) p r;have z:=λQ ks st p r=>ZB o.mp o.hn o.it o.iu Z fu o.wit o.wiu I J j (by omega) (K:=K) (Q:=Q) (ks:=ks) (st:=st) p r;refine Sp.vz c.ay λ_=>?_;simp[g.ay];refine bA V ?_;simp;refine bA tf ?_;simp;refine bA uf ?_;simp;refine x _ _ _ (aA.nl 8 77 3 rfl (aA.to [2,3,4,7,8,9] [((2,0),2),((3,0),3),((4,0),4),((7,0),7),((77,0),8)] ?_)) ?_
 .simp[y4,aD,zTT,hr]
 clear x;generalize kU T U d [] b=L0 at *
 simp[gI,fS,y4,aD,zTT];refine y _ _ _ ((aA.cW (s0:=11) (g0:=0) (i:=7) (s:=78) (sz:=12) rfl).trans (aA.to [2,3,4,7,8,11,12] [((2,0),2),((3,0),3),((4,0),4),((7,0),7),((8,0),8),((11,0),11),((78,0),31)] ?_)) λs A=>?_
 .simp[yY,aD,zTT,gM]
 have S:=l s A;rw[S]at A ⊢;clear l y S k E;simp only at A ⊢;have D:¬ (4096:Int)<L.length:=by omega
 simp[gI,fS,yY,aD,zTT,gM,D];refine z _ _ _ ((aA.cW (s0:=11) (g0:=0) (i:=5) (s:=78) (sz:=8) rfl).trans ((aA.cW (s0:=11) (g0:=0) (i:=6) (s:=79) (sz:=8) rfl).trans (aA.to [2,3,4,7,8,11,15] [((2,0),2),((3,0),3),((4,0),4),((7,0),7),((8,0),8),((11,0),11),((31,0),31),((78,0),32),((79,0),33)] ?_))) ?_
 .simp[yf,aD,zTT,gM]
 clear z;simp only[yf];generalize L.map (dL T U)=A1 at *
 generalize L.map (dO T U)=A2 at *
 simp[gI,fS,aD,zTT,gM];refine bA Y ?_;simp[aJ];refine bA kp ?_;simp[aJ];obtain⟨h,rfl,rfl⟩|⟨h,rfl,rfl⟩:=m
 .simp only[dV]at h;simp[iO];intro B;omega
 .simp only[dV,not_or]at h;have B:¬ 64<R.st:=by omega
  have h2:¬ (2048:Int)<R.aE.length:=by omega
  simp[B,h2]
theorem Sf{t u:GTrans}{a b:Bool}(j:zS 52 [enc t] (.bool a))(k:zS 52 [enc u] (.bool b)):zS 29 [enc t,enc u] (.int .i64 (qO a b t u)):=by
 have h:=Og t.ring u.ring;refine Sp.vz c.ef λ_=>?_;simp[g.ef];refine bA j ?_;unfold qO;cases a with
 | false=>simp
 | true =>
  simp;refine bA k ?_;cases b with
  | false=>simp
  | true =>
   simp;refine bA h ?_;by_cases d:t.ring=u.ring
   .by_cases f:t.o=u.i
    .simp[d,f]
    .simp[d,f]
   .simp[d]
end Go.Ab
namespace Go.Ab
theorem Tb{α : Type}{key : α -> List Int}{up : α -> α -> α}(l:List α)(h:eI key l):fN key up id l=l:=by
 generalize a:l.length=n
 induction n generalizing l with
 | zero=>rw[qV a];rfl
 | succ n f =>
  obtain rfl|⟨l,x,rfl⟩:=Fz l
  .simp at a
  rw[B3]at *
  obtain⟨b,_,d⟩:=List.pairwise_append.1 h;rw[Kb,f l b (by simpa using a)];obtain rfl|⟨o,z,rfl⟩:=List.eq_nil_or_concat l
  .rfl
  .rw[B3,Et (key:=key) (z:=z) (y:=x) λe=>?_]
   .simp
   .have:=d z (by simp) x (by simp);rw[e]at this;exact pN _ this
def V2{α : Type}{key : α -> List Int}{l:List α}(h:eI key l):jP key l:=h.imp λ{a b} d f=>pN _ (Ba d f)
def JH{r:aB}{l:List aC}(h:eI aC.key l)(b:∀ x∈l,x.w≠r.zero):cR r l=l:=by unfold cR;rw[AB (V2 h),Tb l h,H8];intro x a;simp[b x a]
def XA(r:aB)(l:List aC):eI aC.key (cR r l):=by unfold cR;have h:=(Dt (key:=aC.key) (up:=lv r) (nw:=id) (λ_ _=>rfl) (λ_=>rfl) _ (b6 aC.key l) rfl (iQ l).1).1;exact h.filter _
def JI{r:aB}{l:List aC}:∀ x∈cR r l,x.w≠r.zero:=λx a=>by have:=(List.mem_filter.1 a).2;simpa using this
def N3{r:aB}{l:List aC}:∀ x∈cR r l,∃ y∈l,x.key=y.key:=λx b=>by have a:=(k8.1 b).1;obtain⟨y,d,e⟩:=(Dt (key:=aC.key) (up:=lv r) (nw:=id) (λ_ _=>rfl) (λ_=>rfl) _ (b6 aC.key l) rfl (iQ l).1).2.1 x a;exact⟨y,((iQ l).2.2 y).1 d,e⟩
theorem Zt{l:List aC}(h:eI aC.key l)(q:List Int):kc aC.key l q<=1:=by
 unfold kc
 induction l with
 | nil=>simp
 | cons x l k =>
  obtain⟨d,f⟩:=mM.1 h;rw[List.countP_cons];by_cases a:x.key=q
  .have:l.countP (λy=>decide (y.key=q))=0:=by
    rw[List.countP_eq_zero];intro y j i;have b:y.key=q:=by simpa using i
    have:=d y j;rw[a,b]at this;exact pN _ this
   rw[this];simp[a]
  .have:=k f;simp[a];omega
def Sc(m:List Bool){i:Nat}:∀ {j:Nat},i<=j->fV m i<=fV m j:=λ{j} h=>by
 unfold fV;have:m.take i=(m.take j).take i:=by rw[FI,wc h]
 rw[this];exact List.Sublist.count_le true (H9 i (m.take j))
def LN{m:List Bool}{i j:Nat}(b:i<m.length)(d:m[i]=true)(h:i<j):fV m i<fV m j:=by have a:=JX b;rw[d]at a;have f:=Sc m (i:=i+1) (j:=j) h;have:(true:Bool).toNat=1:=rfl;omega
def CN{m:List Bool}{i:Nat}(a:m.getD i false=true):(cU m).getD i 0=(fV m i:Nat):=by
 have b:i<m.length:=by apply Fy;intro h;rw[eT,DT (by omega)]at a;cases a
 have d:i<(cU m).length:=by rw[AK];exact b
 rw[eT,dF d,xp,GK b];rw[eT,dF b,xp]at a;rw[aW a]
def G4{m:List Bool}{i:Nat}(a:m.getD i false=true):∃ h:i<m.length,m[i]=true:=by
 have b:i<m.length:=by apply Fy;intro h;rw[eT,DT (by omega)]at a;cases a
 refine⟨b,?_⟩;rw[eT,dF b,xp]at a;exact a
def Wt{m:List Bool}{x:aC}{N:Nat}(i:m.length=N)(j:x.fit N)(hp:wM m x=true) :
  (rC m x).f=(fV m x.f.toNat:Nat)/\(rC m x).t=(fV m x.t.toNat:Nat)/\fV m x.f.toNat<fV m N/\fV m x.t.toNat<fV m N:=by
 unfold wM at hp;rw[kq]at hp;obtain⟨a,b⟩:=G4 hp.1;obtain⟨d,h⟩:=G4 hp.2;exact⟨CN hp.1,CN hp.2,LN a b (by omega),LN d h (by omega)⟩
def Re{m:List Bool}{i j:Nat}(a:m.getD i false=true)(b:m.getD j false=true):fV m i<fV m j ↔ i<j:=by
 obtain⟨d,f⟩:=G4 a;obtain⟨l,n⟩:=G4 b;constructor
 .intro h;apply Fy;intro k;have:=Sc m (i:=j) (j:=i) (by omega);omega
 .exact LN d f
def yau{m:List Bool}{l:List aC}{N:Nat}(r:∀ x∈l,x.fit N)(h:eI aC.key l):eI aC.key (mP m l):=by
 unfold mP eI;rw[L9];refine Im ?_ (h.filter (wM m));intro x y u w a;obtain⟨H,d⟩:=k8.1 u;obtain⟨I,j⟩:=k8.1 w;obtain⟨⟨J,_⟩,K,_⟩:=r x H;obtain⟨⟨L,_⟩,M,_⟩:=r y I;unfold wM at d j;rw[kq]at d j;have z:(rC m x).f=(fV m x.f.toNat:Nat):=CN d.1;have A:(rC m x).t=(fV m x.t.toNat:Nat):=CN d.2;have B:(rC m y).f=(fV m y.f.toNat:Nat):=CN j.1;have C:(rC m y).t=(fV m y.t.toNat:Nat):=CN j.2;have D:(rC m x).i=x.i:=rfl;have E:(rC m x).o=x.o:=rfl;have F:(rC m y).i=y.i:=rfl;have G:(rC m y).o=y.o:=rfl;have O:=Re d.1 j.1;have Q:=Re d.2 j.2;unfold aC.key at a ⊢;rw[z,A,B,C,D,E,F,G];simp only[H3]at a ⊢;obtain n|⟨n,b⟩:=a
 .exact .inl (by omega)
 .rw[n];obtain b|⟨b,k⟩:=b
  .exact .inr ⟨rfl,.inl b⟩
  .obtain k|⟨k,p⟩:=k
   .exact .inr ⟨rfl,.inr ⟨b,.inl k⟩⟩
   .obtain p|⟨_,s⟩:=p
    .exact .inr ⟨rfl,.inr ⟨b,.inr ⟨k,.inl (by omega)⟩⟩⟩
    .exact absurd s (pN _)
end Go.Ab
