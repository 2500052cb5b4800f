/- Lemmas for the law ProjectAppliesMadeModels, part 15. No conditions. -/
import Derived.Test.YthhdboljpgdcpaaGreatDoorDP14
set_option maxRecDepth 100000
set_option maxHeartbeats 4000000
set_option linter.all false
namespace Go.Ab
open Enc (enc)
def YA(t u:eg)(a:aH):(tL t u a).length<=t.aD.length*(1+u.aD.length)+u.aD.length:=by
 have b:(mE t a.p).length<=t.aD.length:=kB _ _;have d:(mE u a.q).length<=u.aD.length:=kB _ _;unfold tL;rw[gQ];have h:=vH (l:=mE t a.p) (f:=qP t.ring u a) (B:=1+u.aD.length) λx _=>by unfold qP;have k:=HM a x;have m:=vH (l:=mE u a.q) (f:=pZ t.ring a x) (B:=1) λy _=>KC _ _ _ _;rw[gQ];omega
 have i:=vH (l:=mE u a.q) (f:=rD a) (B:=1) λy _=>z54 _ _;have j:(mE t a.p).length*(1+u.aD.length)<=t.aD.length*(1+u.aD.length):=jU _ b;omega
def TA{t u:eg}(b:t.ok)(h:∀ w∈t.jP++u.jP,w.li)(j:(t.jP++u.jP).length<=44):∃ M:cQ t.ring,M.lim=5000/\dB M/\∀ w∈t.jP++u.jP,w.aJ t.ring->M.mb 100 w:=by have f:=ygd h j;have d:∀ s,s=6161->LB (yV (t.jP++u.jP)) (HH (yV (t.jP++u.jP))) s:=λs e=>YV (ybg _) (ltW f (by omega)) (by omega);have L:=d 6161 rfl;exact⟨UL L t.ring b.ring 5000 (by decide) (by decide),rfl,Zh L t.ring b.ring 5000 (by decide) (by decide),λw a i=>Zf L i (h w a) (ybh a)⟩
structure eg.lc (t:eg):Prop where
 sm:t.sm 90
 li:∀ w∈t.jP,w.li
 i5:t.aM.length<=5
 f5:t.fin.length<=5
 al:t.aD.length<=12
 pl:t.ring.parts.length<=6
def eg.lc.wl{t:eg}(h:t.lc):t.jP.length<=22:=by
 have:=h.i5;have:=h.f5;have:=h.al
 simp[eg.jP];omega
def yck{t u:eg}(lt:t.lc)(m:u.lc)(tok:t.ok)(d:u.ok)(j:t.ring=u.ring)(C:t.o=u.i):∃ M:cQ t.ring,M.lim=5000/\pP t u M 112:=by
 have w1:=lt.li;have w2:=m.li;have U:=lt.wl;have V:=m.wl;obtain⟨M,B,K,f⟩:=TA (t:=t) (u:=u) tok (λw f=>(dN.1 f).elim (w1 w) (w2 w)) (by rw[gQ];omega);have O:=tok.il;have Q:=d.il;have W:=lt.i5;have X:=m.i5;have L:=lt.al;have N:=m.al;have R:=Iu t.ring t.aD;have S:=Iu u.ring u.aD;have p:t.nf.aD.length<=12:=by show(cV t.ring t.aD).length<=12;omega
 have D:u.nf.aD.length<=12:=by show(cV u.ring u.aD).length<=12;omega
 have y:∀ x∈t.aD,x.w.aJ t.ring:=λx b=>(tok.aD x b).2.2.2.2.2.2.2.2;have cb:∀ x∈u.aD,x.w.aJ t.ring:=λx b=>by rw[j];exact(d.aD x b).2.2.2.2.2.2.2.2
 have z:∀ w∈t.jP,w.aJ t.ring->M.mb 112 w:=λw h c=>M.mono (f w (Cf _ h) c) (by omega);have A:∀ w∈u.jP,w.aJ t.ring->M.mb 112 w:=λw h c=>M.mono (f w (List.mem_append_right _ h) c) (by omega);have E:∀ w∈t.aM,w∈t.jP:=λw h=>by simp[eg.jP,h]
 have F:∀ w∈t.fin,w∈t.jP:=λw h=>by simp[eg.jP,h]
 have G:∀ x∈t.aD,x.w∈t.jP:=λx h=>by simp only[eg.jP,dN,cA];exact .inr (.inr ⟨x,h,rfl⟩)
 have H:∀ w∈u.aM,w∈u.jP:=λw h=>by simp[eg.jP,h]
 have I:∀ w∈u.fin,w∈u.jP:=λw h=>by simp[eg.jP,h]
 have J:∀ x∈u.aD,x.w∈u.jP:=λx h=>by simp only[eg.jP,dN,cA];exact .inr (.inr ⟨x,h,rfl⟩)
 have r:=UC M (n:=100) (l:=t.aD) λx b=>⟨f _ (Cf _ (G x b)) (y x b),y x b⟩;have s:=UC M (n:=100) (l:=u.aD) λx b=>⟨f _ (List.mem_append_right _ (J x b)) (cb x b),cb x b⟩;refine⟨M,B,⟨tok,d,j,C,K,by omega,λw h=>z w (E w h) (tok.aM w h),λw h=>z w (F w h) (tok.fin w h),λx b=>M.mono (r x b) (by omega),λw h=>A w (H w h) (by rw[j];exact d.aM w h),λw h=>A w (I w h) (by rw[j];exact d.fin w h),λx b=>M.mono (s x (by rw[j];exact b)) (by omega),by omega,by omega,?_,by omega,by omega,λa=>?_⟩⟩
 .have:=mT (show t.st.toNat<=5 by omega) (show u.st.toNat<=5 by omega);omega
 .have:=YA t.nf u.nf a;have k:=mT (show t.nf.aD.length<=12 from p) (show 1+u.nf.aD.length<=13 by omega);omega
structure DL (t:eg):Prop where
 n:zS 24 [enc t] (.bM [enc (if t.ok then t.nf else nJ),g6 (if t.ok then 0 else 4)])
 v:zS 52 [enc t] (.bool (decide t.ok))
 f:t.ok->zS 30 [enc t] (enc t.nf)
def YC(t:eg)(h:t.sm 1048576)(b:t.aM.length<=1000000)(a:t.fin.length<=1000000)(d:¬ t.ok):zS 24 [enc t] (.bM [enc nJ,g6 4]):=by refine Sp.vz c.aj λ_=>?_;simp[g.aj];refine aW (Gh t h b a) ?_;rw[decide_eq_false d];simp[nJ]
def DL.of{t:eg}(lt:t.lc):DL t:=by
 have sm:=lt.sm.mono (show 90<=1048576 by omega);have l1:=lt.al;have l:=lt.i5;have m:=lt.f5;have n:=lt.pl;have v:=MM t sm (by omega) (by omega);by_cases ok:t.ok
 .have o:=lt.wl;obtain⟨M,k,mp,b⟩:=TA (t:=t) (u:=t) ok (λw b=>(dN.1 b).elim (lt.li w) (lt.li w)) (by rw[gQ];omega);have a:∀ q,kc aE.key t.aD q<=12:=λq=>dM List.countP_le_length l1;have i:∀ w∈t.aM,M.mb 100 w:=λw h=>b w (by simp[eg.jP,h]) (ok.aM w h);have f:∀ w∈t.fin,M.mb 100 w:=λw h=>b w (by simp[eg.jP,h]) (ok.fin w h);have d:∀ x∈t.aD,M.mb 100 x.w:=λx h=>b x.w (by simp only[eg.jP,dN,cA];exact .inl (.inr (.inr ⟨x,h,rfl⟩))) (ok.aD x h).2.2.2.2.2.2.2.2;exact⟨Re t mp 100 12 (by omega) a i f d sm (by omega) (by omega),v,λ_=>Qx t mp 100 12 (by omega) a (by omega) i f d (by omega) (by have:=ok.st2;omega) ok.il ok.fl ok.aM ok.fin λx j=>(ok.aD x j).2.2.2.2.2.2.2.2⟩
 .exact⟨by rw[bD ok,bD ok];exact YC t sm (by omega) (by omega) ok,v,λh=>absurd h ok⟩
def pO.sm{r:aC}{M:cQ r}{n:Nat}{R:eg}(h:pO M n R)(b:dB M)(hn:1000+n<=M.lim):R.sm 1048576 :=
 ⟨λw a=>(b.pr (n:=n) (by omega) (by have:=h.ok.aM w a;rwa[h.ring]at this) (h.aM w a)).mono (by omega),λw a=>(b.pr (n:=n) (by omega) (by have:=h.ok.fin w a;rwa[h.ring]at this) (h.fin w a)).mono (by omega),
  λx d=>(b.pr (n:=1000+n) hn (by have:=(h.ok.aD x d).2.2.2.2.2.2.2.2;rwa[h.ring]at this) (h.aD x d)).mono (by omega)⟩
def z23{t u:eg}(a:DL t)(b:DL u){M:cQ t.ring}{n:Nat}(h:pP t u M n) :
  ∃ (R:eg) (e:Int),zS 9 [enc t,enc u] (.bM [enc R,g6 e])/\zS 10 [enc t,enc u] (.bM [enc R,g6 e])/\((¬ eA (uZ t u)/\R=uZ t u/\e=0/\pO M (n+n+1) R/\R.i=t.i/\R.o=u.o)\/(eA (uZ t u)/\e=2/\R=nJ)):=by
 have d:=a.n;have j:=b.n;rw[aX h.tok,aX h.tok]at d;rw[aX h.vN,aX h.vN]at j;have k:=a.v;have l:=b.v;rw[decide_eq_true h.tok]at k;rw[decide_eq_true h.vN]at l;exact Vp h d j (a.f h.tok) (b.f h.vN) k l
def eg.tin.lc{t:eg}(h:t.tin):t.lc:=by
 have:=h.ok.il;have:=h.ok.fl;have:=h.st;have:=BP h.ok.ring
 refine⟨h.sm.mono (by omega),λw a=>?_,by omega,by omega,by have:=h.al;omega,by omega⟩;simp only[eg.jP,dN,cA]at a;obtain a|a|⟨x,b,rfl⟩:=a
 .exact(h.aM w a).sm.li
 .exact(h.fin w a).sm.li
 .exact(h.aD x b).sm.li
def Bm:List (Ex × aT):=[(⟨0,0,0⟩,cR 1)]
def yfq:lJ ⟨⟨0,0,0⟩,cR 1⟩ []=Bm:=by simp[lJ,kQ,tK,jZ,Bm,C7,kW];exact congrArg cR (Bc 1)
def Nh:yd 1=[⟨⟨0,0,0⟩,cR 1⟩]:=by simp[yd,fS,Ex.ok,pat]
def YQ:zS 238 [enc (cR 1)] (.sl (ens (yd 1))):=by
 have d:=D8.mono (show _<=1048576 by omega);have a:=Mr ⟨⟨0,0,0⟩,cR 1⟩ [] rfl d (λp f=>by cases f);rw[yfq]at a;have b:=λr=>MK r Bm (λp f=>by
  simp only[Bm,iT]at f;subst f;exact d.mono (by omega)) (by simp[Bm]) (by simp[Bm]) (yd 1) (by rw[Nh];simp[Bm,nz,Bo,kW]) (by rw[Nh];exact List.pairwise_singleton _ _)
 refine Sp.fZ c.pg (by simp) ?_;unfold g.pg;generalize j:(λi s (_:Option FA)=>iD [(2,none)] (RV.pure (.sl (ens (yd 1)))) i s)=h;refine MR.dG ?_;simp;refine MR.cK (MR.mC (eC.cons (I4 λr=>?_)));refine xT [[4]] ?_;simp;refine MR.cK (MR.mC (AU 3 [[],[],[]] ?_));simp;refine eC.cons (Ma (args:=[enc (⟨0,0,0⟩:Ex),enc (cR 1)]) a (by simp) (Ik Bm) (Il Bm) ?_);refine xT [] ?_;simp;refine MR.freeze (t:=3) rfl ?_;refine MR.cE ?_;subst j;simp;refine EF (b r) (by simp) ⟨jF _ _ rfl,by decide,by rw[Nh];decide⟩ _ rfl ?_;simp[aI]
def OL:zS 196 [] (enc (dA 1 [])):=by refine Sp.vz c.ay λ_=>?_;simp[g.ay];refine bA MF rfl ?_;simp[dA]
def z79:zS 209 [] (enc (dA 2 [])):=by refine Sp.vz c.bm λ_=>?_;simp[g.bm,dA]
def Wj:zS 226 [] (enc (dA 4 [])):=by refine Sp.vz c.bn λ_=>?_;simp[g.bn,dA]
def yas:zS 237 [] (enc (dA 5 [])):=by refine Sp.vz c.io λ_=>?_;simp[g.io];refine bA MF rfl ?_;simp;refine aW YQ ?_;simp[dA]
def Sq(k:Int)(a:1<=k/\k<=5):Sp P (UP k) [] (.pure (enc (dA k []))):=by
 have:k=1\/k=2\/k=3\/k=4\/k=5:=by omega
 obtain rfl|rfl|rfl|rfl|rfl:=this
 .exact OL
 .exact z79
 .exact OL
 .exact Wj
 .exact yas
def ya5(k:Int)(a:1<=k/\k<=5)(i:Int):zS 148 [xI k,g6 i] (enc (dA k [])):=by obtain⟨h,f6,j,l,d,f,b⟩:=ym k a;rw[b];refine Sp.vz c.j9 λ_=>?_;simp[g.j9];refine bA (Sq k a) rfl ?_;simp
def Sr(r:aC):zS 103 [enc r] (enc r.one):=by
 refine Sp.vz c.jr λ_=>?_;simp[g.jr];refine bA (A8 r) rfl ?_;obtain a|a:=iK r.ok;rotate_left
 .simp[a,aC.one,Dy]
 simp[a];refine⟨λd=>?_,λd=>?_⟩
 .have f:=aC.bQ a d;refine bA (HC r f.2.2 f.2.1 148 [] (r.parts.map λk=>dA k []) (by simp) λi h s=>by simpa using ya5 r.parts[i] (f.2.2 _ (List.getElem_mem h)) i) rfl ?_;simp[a,aC.one,dA,d]
 .have b:=aC.cJ a d;obtain⟨n,f6,o,p,l,m,j⟩:=ym r.kind ⟨b.1,b.2.1⟩;refine bA (CE r.kind ⟨b.1,b.2.1⟩) rfl ?_;simp[j];refine bA (Sq r.kind ⟨b.1,b.2.1⟩) rfl ?_;simp[a,aC.one,b.2.2,dA]
def oR(r:aC)(n:Nat):List GW:=(List.range (n+1)).map λi=>if i=0 then r.one else r.zero
def oS(r:aC)(n:Nat):List GW:=(List.range (n+1)).map λi=>if i=n then r.one else r.zero
def kT(r:aC)(w:List Int):List aV:=(List.range w.length).map λi:Nat=>(⟨(i:Int),w.getD i 0,(i:Int)+1,r.one⟩:aV)
def jK(r:aC)(a:Int)(w:List Int):aU:=⟨r,a,(w.length:Int)+1,oR r w.length,oS r w.length,kT r w⟩
def qE:AV:=.agg [f8 0,.nil,f8 0,f8 0,.nil,.nil,.nil]
def xD(r:aC)(a:Int)(w:List Int)(A B:List GW)(k:Nat):St :=
 aB [(2,hW w),(3,i0 3),(6,i0 6),(7,f8 w.length),(8,i0 8),(21,f8 ((w.length:Int)+1)),(22,f8 k)]
  [(3,⟨2,[.p (enc r)]⟩),(6,⟨7,[qE]⟩),(8,⟨7,[.agg [f8 r.kind,hW r.parts,f8 a,f8 ((w.length:Int)+1),.own 91 0 0 A.length,.own 92 0 0 B.length,.nil]]⟩),(91,⟨8,aK A⟩),(92,⟨8,aK B⟩)]
def Aw(r:aC)(a:Int)(w:List Int)(A B:List GW)(C:List aV)(k:Nat):St :=
 aB [(3,i0 3),(6,i0 6),(8,i0 8),(56,hW w),(57,f8 w.length),(58,f8 k)]
  [(3,⟨2,[.p (enc r)]⟩),(6,⟨7,[qE]⟩),(8,⟨7,[.agg [f8 r.kind,hW r.parts,f8 a,f8 ((w.length:Int)+1),.own 91 0 0 A.length,.own 92 0 0 B.length,.own 93 0 0 C.length]]⟩),(91,⟨8,aK A⟩),(92,⟨8,aK B⟩),(93,⟨11,aK C⟩)]
def yco(r:aC)(p:Int)(w:List Int)(E:w.length<=100000){Q:Exit->St->Prop}{ks:List Kt}{st:St}(y:aA st (xD r p w [] [] 0))
  (z:gA P 77 Q (fO 0 ks) 0 (xD r p w (oR r w.length) (oS r w.length) (w.length+1))):vL P 77 Q g.rq ks st:=by
 have C:=wG r;have s:=Sr r;have u:∀ (f:Nat->GW) k,k<w.length+1->((List.range (w.length+1)).map f).take (k+1)=((List.range (w.length+1)).map f).take k++[f k]:=λf k x=>by rw[List.take_succ_eq_append_getElem (by simpa using x)];simp
 refine b6 (S:=λk:Nat=>xD r p w ((oR r w.length).take k) ((oS r w.length).take k) k) (I:=λk=>k<=w.length+1) (m:=λk=>w.length+1 - k) 0 (by simpa using y) (by omega) ?_;rintro k x R j D l;have o:=aZ k;by_cases d:k<w.length+1
 .have a:∀ b,aA b (xD r p w ((oR r w.length).take k++[if k=0 then r.one else r.zero]) ((oS r w.length).take k++[if k=w.length then r.one else r.zero]) (k+1))->R .normal b:=λb h=>j (k+1) b (by
   rw[show(oR r w.length).take (k+1)=(oR r w.length).take k++[if k=0 then r.one else r.zero] from u _ k d,show(oS r w.length).take (k+1)=(oS r w.length).take k++[if k=w.length then r.one else r.zero] from u _ k d];exact h) (by omega) (by omega)
  have H:((oR r w.length).take k).length<=200000:=by rw[fY];omega
  have J:((oS r w.length).take k).length<=200000:=by rw[fY];omega
  generalize (oR r w.length).take k=A at *
  generalize (oS r w.length).take k=B at *
  clear j l D y z u;generalize r.one=w1 at *
  generalize r.zero=w0 at *
  have i:(k:Int)<(w.length:Int)+1:=by omega
  simp[g.rq,xD,aB,qE,i];refine aW C ?_;simp;refine aW C ?_;simp;refine⟨λn=>?_,λn=>?_⟩
  .refine aW s ?_;simp;refine⟨λt=>?_,λt=>?_⟩
   .refine aW s ?_;simp;rw[aX n,aX (show k=w.length by omega)]at a;exact⟨by omega,by omega,a _ (aA.to [2,3,6,7,8,21,22] [((3,0),3),((6,0),6),((8,0),8),((46,0),91),((52,0),92)] (by simp[xD,aB,qE,o]))⟩
   .rw[aX n,bD (show ¬ k=w.length by omega)]at a;exact⟨by omega,by omega,a _ (aA.to [2,3,6,7,8,21,22] [((3,0),3),((6,0),6),((8,0),8),((46,0),91),((52,0),92)] (by simp[xD,aB,qE,o]))⟩
  .refine⟨λt=>?_,λt=>?_⟩
   .refine aW s ?_;simp;rw[bD n,aX (show k=w.length by omega)]at a;exact⟨by omega,by omega,a _ (aA.to [2,3,6,7,8,21,22] [((3,0),3),((6,0),6),((8,0),8),((46,0),91),((52,0),92)] (by simp[xD,aB,qE,o]))⟩
   .rw[bD n,bD (show ¬ k=w.length by omega)]at a;exact⟨by omega,by omega,a _ (aA.to [2,3,6,7,8,21,22] [((3,0),3),((6,0),6),((8,0),8),((46,0),91),((52,0),92)] (by simp[xD,aB,qE,o]))⟩
 .have:k=w.length+1:=by omega
  subst this;have F:(oR r w.length).take (w.length+1)=oR r w.length:=List.take_of_length_le (by simp[oR]);have G:(oS r w.length).take (w.length+1)=oS r w.length:=List.take_of_length_le (by simp[oS]);rw[F,G];simp[g.rq,xD,aB,qE];refine l _ _ ?_;simpa[xD,aB,qE]using z
def ycn(r:aC)(j:Int)(w:List Int)(z:w.length<=100000){A B:List GW}{Q:Exit->St->Prop}{ks:List Kt}{st:St}(s:aA st (Aw r j w A B [] 0))
  (t:gA P 77 Q (fO 2 ks) 2 (Aw r j w A B (kT r w) w.length)):vL P 77 Q g.rr ks st:=by
 have x:=Sr r;refine b6 (S:=λk:Nat=>Aw r j w A B ((kT r w).take k) k) (I:=λk=>k<=w.length) (m:=λk=>w.length - k) 0 (by simpa using s) (by omega) ?_;rintro k E R d y f;have u:=aZ k;have F:(kT r w).length=w.length:=by simp[kT]
 by_cases b:k<w.length
 .have n:aK ((kT r w).take (k+1))=aK ((kT r w).take k)++[.p (enc (⟨(k:Int),w[k],(k:Int)+1,r.one⟩:aV))]:=by rw[ed (by omega),sR];simp[kT,b]
  have o:((kT r w).take k).length=k:=by rw[fY];omega
  have a:=λi (h:aA i (Aw r j w A B ((kT r w).take (k+1)) (k+1)))=>d (k+1) i h (by omega) (by omega);have l:((kT r w).take (k+1)).length=k+1:=by rw[fY];omega
  unfold Aw at a;rw[n,l]at a;unfold Aw;rw[o];generalize (kT r w).take k=C at *
  clear d f y s t;generalize r.one=w1 at *
  simp[g.rr,aB,qE,b];refine bK b ?_;refine aW x ?_;simp;exact⟨⟨o.symm,by omega⟩,a _ (aA.to [3,6,8,56,57,58] [((3,0),3),((6,0),6),((8,0),8),((91,0),91),((92,0),92),((73,0),93)] (by simp[aB,qE,u]))⟩
 .have:k=w.length:=by omega
  subst this;have D:(kT r w).take w.length=kT r w:=List.take_of_length_le (by omega);rw[D];simp[g.rr,Aw,aB,qE];refine f _ _ ?_;simpa[Aw,aB,qE]using t
def ycl(r:aC)(b:Int)(w:List Int)(a:w.length<=100000):zS 50 [enc r,g6 b,.sl (ens w)] (enc (jK r b w)):=by refine Sp.vz c.mq λ_=>?_;have d:IntKind.i64.wrap ((w.length:Int)+1)=(w.length:Int)+1:=cT;simp[g.mq,d];refine yco r b w a ((aA.b5 (s0:=8) (g0:=0) (i:=4) (s:=77) (sz:=8) rfl).trans ((aA.b5 (s0:=8) (g0:=0) (i:=5) (s:=78) (sz:=8) rfl).trans (aA.to [2,3,6,7,8,21,22] [((3,0),3),((6,0),6),((8,0),8),((77,0),91),((78,0),92)] (by simp[xD,aB,qE])))) ?_;simp[xD,aB];refine ycn r b w a (A:=oR r w.length) (B:=oS r w.length) ((aA.b5 (s0:=8) (g0:=0) (i:=6) (s:=77) (sz:=11) rfl).trans (aA.to [3,6,8,56,57,58] [((3,0),3),((6,0),6),((8,0),8),((91,0),91),((92,0),92),((77,0),93)] (by simp[Aw,aB,qE]))) ?_;simp[Aw,aB];exact⟨rfl,rfl,rfl,rfl,rfl,rfl,rfl⟩
def YO(r:aC)(n:Nat)(j:n<=1073741824):Sp P 110 [enc r,g6 n] (.fresh 8 (ens (List.replicate n r.zero))):=by
 refine Sp.vz c.n8 λ_=>?_;simp[g.n8]
 refine b6 (S:=λx:Nat × List GW=>aB [(1,f8 n),(2,i0 1),(5,.own 2 0 0 x.2.length),(6,f8 x.1)] [(1,⟨2,[.p (enc r)]⟩),(2,⟨8,aK x.2⟩)])
  (I:=λx=>x.1<=n/\x.2=List.replicate x.1 r.zero) (m:=λx=>n - x.1) (0,[])
  (aA.nl 5 77 8 rfl (aA.to [1,2,5,6] [((2,0),1),((77,0),2)] (by simp))) ⟨by omega,by simp⟩ ?_
 rintro⟨k,l⟩ ⟨d,a⟩ R i s o;simp at d a;have h:l.length=k:=by rw[a];simp
 have b:=aZ k;simp[g.v6,aB];refine⟨λf=>?_,λf=>o _ _ ?_⟩
 .refine aW (F2 r) ?_;simp[b];exact⟨by omega,i (k+1,l++[r.zero]) _ (aA.to [1,2,5,6] [((1,0),1),((16,0),2)] (by simp)) ⟨by show k+1<=n;omega,by rw[a,Jv]⟩ (by show n - (k+1)<n - k;omega)⟩
 .have:k=n:=by omega
  subst this;simp[h];rw[a,Ja];simp
def yg4(r:aC)(n:Nat):oR r n=(List.replicate (n+1) r.zero).set 0 r.one:=by
 apply Bb
 .simp[oR]
 .intro i a b;simp only[oR,Ce,GI,List.getElem_set,List.getElem_replicate];by_cases h:i=0
  .rw[aX h,aX h.symm]
  .rw[bD h,bD λe=>h e.symm]
def yg5(r:aC)(n:Nat):oS r n=(List.replicate (n+1) r.zero).set n r.one:=by
 apply Bb
 .simp[oS]
 .intro i a b;simp only[oS,Ce,GI,List.getElem_set,List.getElem_replicate];by_cases h:i=n
  .rw[aX h,aX h.symm]
  .rw[bD h,bD λe=>h e.symm]
def Ax(r:aC)(a:Int)(w:List Int)(A B:List GW)(C:List aV)(k:Nat):St :=
 aB [(2,hW w),(3,i0 3),(6,i0 6),(7,f8 w.length),(8,i0 8),(9,f8 k)]
  [(3,⟨2,[.p (enc r)]⟩),(6,⟨7,[qE]⟩),(8,⟨7,[.agg [f8 r.kind,hW r.parts,f8 a,f8 ((w.length:Int)+1),.own 91 0 0 A.length,.own 92 0 0 B.length,.own 93 0 0 C.length]]⟩),(91,⟨8,aK A⟩),(92,⟨8,aK B⟩),(93,⟨11,aK C⟩)]
def ycm(r:aC)(j:Int)(w:List Int)(z:w.length<=100000){A B:List GW}{Q:Exit->St->Prop}{ks:List Kt}{st:St}(s:aA st (Ax r j w A B [] 0))
  (t:gA P 57 Q (fO 0 ks) 0 (Ax r j w A B (kT r w) w.length)):vL P 57 Q g.ru ks st:=by
 have x:=HQ r;refine b6 (S:=λk:Nat=>Ax r j w A B ((kT r w).take k) k) (I:=λk=>k<=w.length) (m:=λk=>w.length - k) 0 (by simpa using s) (by omega) ?_;rintro k E R d y f;have u:=aZ k;have F:(kT r w).length=w.length:=by simp[kT]
 by_cases b:k<w.length
 .have n:aK ((kT r w).take (k+1))=aK ((kT r w).take k)++[.p (enc (⟨(k:Int),w[k],(k:Int)+1,r.one⟩:aV))]:=by rw[ed (by omega),sR];simp[kT,b]
  have o:((kT r w).take k).length=k:=by rw[fY];omega
  have a:=λi (h:aA i (Ax r j w A B ((kT r w).take (k+1)) (k+1)))=>d (k+1) i h (by omega) (by omega);have l:((kT r w).take (k+1)).length=k+1:=by rw[fY];omega
  unfold Ax at a;rw[n,l]at a;unfold Ax;rw[o];generalize (kT r w).take k=C at *
  clear d f y s t;generalize r.one=w1 at *
  simp[g.ru,aB,qE,b];refine bK b ?_;refine aW x ?_;simp;exact⟨⟨o.symm,by omega⟩,a _ (aA.to [2,3,6,7,8,9] [((3,0),3),((6,0),6),((8,0),8),((91,0),91),((92,0),92),((54,0),93)] (by simp[aB,qE,u]))⟩
 .have:k=w.length:=by omega
  subst this;have D:(kT r w).take w.length=kT r w:=List.take_of_length_le (by omega);rw[D];simp[g.ru,Ax,aB,qE];refine f _ _ ?_;simpa[Ax,aB,qE]using t
def z24(r:aC)(j:Int)(w:List Int)(d:w.length<=100000):zS 55 [enc r,g6 j,.sl (ens w)] (enc (jK r j w)):=by
 refine Sp.vz c.mz λ_=>?_;have b:IntKind.i64.wrap ((w.length:Int)+1)=((w.length+1:Nat):Int):=cT;have f:=YO r (w.length+1) (by omega);obtain⟨Z,a⟩:∃ Z,Z=List.replicate (w.length+1) r.zero:=⟨_,rfl⟩;rw[<- a]at f;have h:Z.length=w.length+1:=by rw[a];simp
 have l:oR r w.length=Z.set 0 r.one:=by rw[a,yg4]
 have k:oS r w.length=Z.set w.length r.one:=by rw[a,yg5]
 clear a;simp[g.mz];refine ED f (by simp[b]) ⟨jF _ _ rfl,by decide,by simp[-gW,ens,eL];omega⟩ (by simp) ?_;simp;refine ED f (by simp[b]) ⟨jF _ _ rfl,by decide,by simp[-gW,ens,eL];omega⟩ (by simp) ?_;simp;refine aW (HQ r) ?_;simp;refine aW (HQ r) ?_;simp;refine⟨by omega,bK (show 0<Z.length by omega) ?_⟩;refine⟨by omega,bK (show w.length<Z.length by omega) ?_⟩;refine ycm r j w d (A:=oR r w.length) (B:=oS r w.length) ((aA.b5 (s0:=8) (g0:=0) (i:=6) (s:=77) (sz:=11) rfl).trans (aA.to [2,3,6,7,8,9] [((3,0),3),((6,0),6),((8,0),8),((19,0),91),((23,0),92),((77,0),93)] (by simp[Ax,aB,qE,l,k,b,h]))) ?_;simp[Ax,aB];exact⟨rfl,rfl,rfl,rfl,rfl,rfl,rfl⟩
end Go.Ab
namespace Go.Ab
open Go.Proofs
open Enc (enc)
abbrev nB:SI:=⟨11,by decide,402,382,353,352,307,255⟩
def c.y7:aP P nB.sw=some ⟨38,5,(GD nB).er,[]⟩:=by kernel_rfl
def c.y8:aP P nB.ro=some ⟨58,5,(Gz nB).er,[]⟩:=by kernel_rfl
def c.y9:aP P nB.sm=some ⟨220,5,(Dz nB).er,[]⟩:=by kernel_rfl
def c.za:aP P nB.ins=some ⟨53,4,(Fs nB).er,[]⟩:=by kernel_rfl
def c.zd:aP P nB.st=some ⟨63,3,(GB nB).er,[]⟩:=by kernel_rfl
def c.ze:aP P nB.so=some ⟨9,2,(GA nB).er,[]⟩:=by kernel_rfl
def yeq:pK nB:=⟨c.y7,c.y8,c.y9,c.za,c.zd,c.ze⟩
section
variable {α : Type} [Enc α]
def V'(d:Enc.sz α = 11)(a:∀ x : α,(enc x).cells.all PV.one=true){key : α -> List Int}{cf:FuncId}{D : α -> Prop}(h:∀ x y,D x->D y->∃ n:Int,Sp P cf [enc x,enc y] (.pure (g6 n))/\(n<0 ↔ key x<key y))
  (l:List α) (b:l.length<=1000000) (f:∀ x∈l,D x):gO P 255 [.sl (ens l),.fn cf []] 0 11 (ens (bW key l)) (.pure (.bM [])):=LP yeq d a h l b f
end
end Go.Ab
namespace Go.Ab
open Enc (enc)
def QP{r:aC}(M:cQ r){n:Nat}{l:List aV}(h:∀ x∈l,M.mb n x.w/\x.w.aJ r)(k:Nat)(d:k<=l.length) :
  ∀ x∈eU aV.key (lO r) id (l.take k),M.mb (kc aV.key (l.take k) x.key+n) x.w/\x.w.aJ r :=
 KW (key:=aV.key) (up:=lO r) (nw:=id) (λ_ _=>rfl) (λ_=>rfl) (Q:=λc x=>M.mb (c+n) x.w/\x.w.aJ r) (λh k=>⟨M.mono h.1 (by omega),h.2⟩) (λx a=>⟨M.mono (h x a).1 (by show n<=0+n;omega),(h x a).2⟩)
  (λc z x a _ b=>⟨by have:=M.plus b.2 (h x a).2 b.1 (M.mono (h x a).1 (by omega));exact M.mono this (by omega),(BU b.2 (h x a).2:(r.plus z.w x.w).aJ r)⟩) k d
def X6{r:aC}{M:cQ r}(H:dB M)(l:List aV)(n B:Nat)(hn:B+n<=M.lim)(hB:∀ q,kc aV.key l q<=B)(hl:l.length<=100000)(h:∀ x∈l,M.mb n x.w/\x.w.aJ r) :
  zS 179 [enc r,.sl (ens l)] (.sl (ens (mY r l))):=by
 have Z:=gB (key:=aV.key) l;have W:∀ x∈bW aV.key l,M.mb n x.w/\x.w.aJ r:=λx s=>h x ((Z.2.2 x).1 s);have Q:=QP M W;have C:∀ k q,kc aV.key ((bW aV.key l).take k) q<=B:=λk q=>dM (HT _ _ _) (by rw[FL (F6 l)];exact hB q);have N:=λk (f:k<=(bW aV.key l).length)=>FE (key:=aV.key) (up:=lO r) (nw:=id) (λ_ _=>rfl) (λ_=>rfl) (bW aV.key l) k f;unfold mY;generalize Y:bW aV.key l=S at *
 have E:S.length=l.length:=Z.2.1;have b:∀ x:aV,(enc x).cells.all PV.one=true:=λx=>by simp[PV.cells]
 refine Sp.vz c.d6 λ_=>?_;simp[g.d6];refine ED (RG l (by omega)) (by simp) ⟨jF _ _ rfl,by decide,by simp[-gW,ens,eL];omega⟩ (by simp) ?_;simp;refine MH (V' rfl b (key:=aV.key) (cf:=256) (D:=λ_=>True) (λx y _ _=>⟨_,IT x y,CG rfl⟩) l (by omega) λ_ _=>trivial) (by simp) rfl rfl (by simp) (by simp) (by simp[Y,E]) rfl (jF _ _ rfl) (cells_one b _) (by simp) ?_;simp;rw[Y]
 refine b6 (S:=λk:Nat=>aB [(2,i0 2),(6,.own 1 0 0 (eU aV.key (lO r) id (S.take k)).length),(14,.own 3 0 0 S.length),(15,f8 S.length),(16,f8 k)] [(2,⟨2,[.p (enc r)]⟩),(1,⟨11,aK (eU aV.key (lO r) id (S.take k))⟩),(3,⟨11,aK S⟩)]) (I:=λk=>k<=S.length) (m:=λk=>S.length - k) 0
  (aA.nl 6 77 11 rfl (aA.to [2,6,14,15,16] [((2,0),2),((77,0),1),((11,0),3)] (by simp[E,eU]))) (by omega) ?_
 rintro k X R j hr s;have K:=aZ k;have G:=N k X;have t:=Q k X;generalize J:eU aV.key (lO r) id (S.take k)=O at *
 by_cases f:k<S.length;rotate_left
 .have:k=S.length:=by omega
  subst this;have af:=J;rw[eZ (dE _)]at J;rw[J]at s hr;simp[g.qp,aB];refine s _ _ ?_;simp;refine IV (Rt 258 [.ref (enc r)] (λx=>decide (x.w=r.zero)) O (by omega) λx s=>P3 x r ((H.pr (show kc aV.key (S.take S.length) x.key+n<=M.lim by have:=C S.length x.key;omega) (t x s).2 (t x s).1).mono (by omega))) (by simp[A7,AJ]) rfl rfl (by simp) (by simp) (by simp;have:=kB (λx:aV=>!decide (x.w=r.zero)) O;omega) rfl (jF _ _ rfl) (cells_one b _) (by simp) (kB _ _) ?_;generalize hF:O.filter (λx=>!decide (x.w=r.zero))=d at *
  have ad:d.length<=O.length:=by rw[<- hF];exact kB _ _
  have u:=It d (List.replicate (O.length - d.length) (⟨0,0,0,dT⟩:aV));have A:d.length<=(ens (d++List.replicate (O.length - d.length) (⟨0,0,0,dT⟩:aV))).length:=by simp[-gW,ens]
  generalize ens (d++List.replicate (O.length - d.length) (⟨0,0,0,dT⟩:aV))=A0 at *
  cases ag:A0.all PV.flat
  .simp[aI];rw[u];simp[A]
  .simp;rw[u];simp[A]
 have i:=W _ (bU f);have a:=EI (key:=aV.key) (up:=lO r) (nw:=id) f;rw[J]at a;have U:=yC i.2.1;have pz:=zcx i.2;obtain rfl|⟨o,z,rfl⟩:=B' O
 .simp[g.qp,aB,f];refine bK f ?_;refine bA (wG r) rfl ?_;simp;refine aW (H.pw (n:=n) (by omega) i.2 U i.1 (M.mono M.zero (vI n))) ?_;rw[pz];simp[K];refine j (k+1) _ (aA.to [2,6,14,15,16] [((2,0),2),((59,0),1),((3,0),3)] ?_) (by omega) (by omega);rw[a];simp[aB,gS]
 .have V:IntKind.i64.wrap (o.length:Int)=(o.length:Int):=cL (by omega) (by simp at G;omega);simp[g.qp,aB,f,V];refine bK f ?_;refine aW (IT z S[k]) ?_;simp[V];have hz:=t z (by simp);have F:eW z.key S[k].key=0 ↔ z.key=S[k].key:=CF (by simp[aV.key]);refine⟨λL=>?_,λL=>?_⟩
  .rw[xV,FF (key:=aV.key) (z:=z) (y:=S[k]) (F.1 L)]at a;refine aW (H.pw (n:=kc aV.key (S.take k) z.key+n) (by have:=C k z.key;omega) hz.2 i.2 hz.1 (M.mono i.1 (by omega))) ?_;simp[K];refine j (k+1) _ (aA.to [2,6,14,15,16] [((2,0),2),((1,0),1),((3,0),3)] ?_) (by omega) (by omega);rw[a];simp[aB,lO]
  .rw[xV,CI (key:=aV.key) (z:=z) (y:=S[k]) (λh=>L (F.2 h))]at a;refine bA (wG r) rfl ?_;simp;refine aW (H.pw (n:=n) (by omega) i.2 U i.1 (M.mono M.zero (vI n))) ?_;rw[pz];simp[K];refine⟨by simp at G;omega,j (k+1) _ (aA.to [2,6,14,15,16] [((2,0),2),((59,0),1),((3,0),3)] ?_) (by omega) (by omega)⟩;rw[a];simp[aB]
def Yq{r:aC}(M:cQ r){n:Nat}{l:List aV}(h:∀ x∈l,M.mb n x.w/\x.w.aJ r)(k:Nat)(d:k<=l.length) :
  ∀ x∈nZ aV.key (lO r) id (l.take k),M.mb (kc aV.key (l.take k) x.key+n) x.w/\x.w.aJ r :=
 KD (key:=aV.key) (up:=lO r) (nw:=id) (λ_ _=>rfl) (λ_=>rfl) (Q:=λc x=>M.mb (c+n) x.w/\x.w.aJ r) (λh k=>⟨M.mono h.1 (by omega),h.2⟩) (λx a=>⟨M.mono (h x a).1 (by show n<=0+n;omega),(h x a).2⟩)
  (λc z x a _ b=>⟨by have:=M.plus b.2 (h x a).2 b.1 (M.mono (h x a).1 (by omega));exact M.mono this (by omega),(BU b.2 (h x a).2:(r.plus z.w x.w).aJ r)⟩) k d
def WU{r:aC}{M:cQ r}(W:dB M)(l:List aV)(n B:Nat)(hn:B+n<=M.lim)(hB:∀ q,kc aV.key l q<=B)(hl:l.length<=100000)(h:∀ x∈l,M.mb n x.w/\x.w.aJ r) :
  zS 187 [enc r,.sl (ens l)] (.sl (ens (JO r l))):=by
 have V:=Yq M h;have y:∀ k q,kc aV.key (l.take k) q<=B:=λk q=>dM (HT _ _ _) (hB q);have U:=λk (u:k<=l.length)=>KE (key:=aV.key) (up:=lO r) (nw:=id) (λ_ _=>rfl) (λ_=>rfl) l k u;refine Sp.vz c.pf λ_=>?_;simp[g.pf]
 refine b6 (S:=λk:Nat=>aB [(1,hW l),(2,i0 2),(5,.own 1 0 0 (nZ aV.key (lO r) id (l.take k)).length),(6,f8 k)] [(2,⟨2,[.p (enc r)]⟩),(1,⟨11,aK (nZ aV.key (lO r) id (l.take k))⟩)]) (I:=λk=>k<=l.length) (m:=λk=>l.length - k) 0
  (aA.nl 5 77 11 rfl (aA.to [1,2,5,6] [((2,0),2),((77,0),1)] (by simp[nZ]))) (by omega) ?_
 rintro k X R a Z H;have K:=aZ k;have al:=U k X;have F:=V k X;generalize L:nZ aV.key (lO r) id (l.take k)=O at *
 by_cases u:k<l.length
 .have D:=h _ (bU u);have b:=Gt (key:=aV.key) (up:=lO r) (nw:=id) u;rw[L]at b;simp[g.ue,aB,u];refine bK u ?_
  try simp
  generalize l[k]=x at *
  refine aW (lQ r x.w ((W.pr (n:=n) (by omega) D.2 D.1).mono (by omega))) ?_;rw[Fv D.2];simp
  refine b6 (S:=λi:Nat=>aB [(1,hW l),(2,i0 2),(5,.own 1 0 0 O.length),(6,f8 k),(7,i0 3),(8,f8 i)] [(2,⟨2,[.p (enc r)]⟩),(1,⟨11,aK O⟩),(3,⟨11,[.p (enc x)]⟩)]) (I:=λi=>i<=O.length/\∀ j,(d:j<O.length)->j<i->O[j].key<x.key) (m:=λi=>O.length - i) 0
   (aA.to [1,2,5,6,7,8] [((2,0),2),((1,0),1),((7,0),3)] (by simp)) ⟨by omega,λj _ d=>by omega⟩ ?_
  rintro i ⟨j1,J⟩ R2 Q ag E;have G:=aZ i;by_cases f:i<O.length
  .simp[g.ud,aB,f];refine bK f ?_;refine aW (Mf O[i] x) ?_;have C:eW O[i].key x.key<0 ↔ O[i].key<x.key:=CG (by simp[aV.key]);have z:eW O[i].key x.key=0 ↔ O[i].key=x.key:=CF (by simp[aV.key]);simp;refine⟨λY=>?_,λY=>E _ _ ?_⟩
   .rw[G];refine Q (i+1) _ (aA.to [1,2,5,6,7,8] [((2,0),2),((1,0),1),((3,0),3)] (by simp[aB])) ⟨by omega,λj d o=>?_⟩ (by omega);by_cases N:j<i
    .exact J j d N
    .have:j=i:=by omega
     subst this;exact C.1 Y
   .simp[f];refine bK f ?_;refine aW (Mf O[i] x) ?_;simp;refine⟨λo=>?_,λo=>?_⟩
    .rw[R' f J (z.1 o)]at b;have t:=F _ (bU f);refine⟨f,bK f ?_⟩;refine aW (M.plusS (n:=kc aV.key (l.take k) O[i].key+n) (by have:=y k O[i].key;omega) t.2 D.2 t.1 (M.mono D.1 (by omega))) ?_;simp[K,f];refine bK f ?_;refine a (k+1) _ (aA.to [1,2,5,6] [((2,0),2),((1,0),1)] ?_) (by omega) (by omega);rw[b];simp[aB,lO]
    .rw[Tk f J (λh=>by have:=C.2 h;omega) (λh=>o (z.2 h))]at b;have ad:O.length<=100000:=by omega
     have hm:min i O.length=i:=by omega
     rw[hm];refine⟨by omega,⟨by omega,by omega⟩,by omega,by omega,⟨by omega,by omega⟩,?_⟩;rw[K];have A:i+1+(O.length - i)=O.length+1:=by omega
     refine a (k+1) _ (aA.to [1,2,5,6] [((2,0),2),((77,0),1)] ?_) (by omega) (by omega);rw[b];simp[aB,A];exact⟨by omega,by rw[eZ (by simp)]⟩
  .have:i=O.length:=by omega
   subst this;rw[Ti λj d=>J j d d]at b;simp[g.ud,aB];refine E _ _ ?_;simp;rw[K];refine⟨by omega,by omega,a (k+1) _ (aA.to [1,2,5,6] [((2,0),2),((77,0),1)] ?_) (by omega) (by omega)⟩;rw[b];simp[aB]
 .have:k=l.length:=by omega
  subst this;rw[eZ (dE _)]at L;have hf:JO r l=O.filter λx=>!decide (x.w=r.zero):=by rw[<- L];rfl
  simp[g.ue,aB];refine H _ _ ?_;simp;rw[hf];clear H Z a
  refine b6 (S:=λj:Nat=>aB [(2,i0 2),(5,.own 1 0 0 O.length),(9,.own 3 0 0 ((O.take j).filter λx=>!decide (x.w=r.zero)).length),(10,f8 j)] [(2,⟨2,[.p (enc r)]⟩),(1,⟨11,aK O⟩),(3,⟨11,aK ((O.take j).filter λx=>!decide (x.w=r.zero))⟩)]) (I:=λj=>j<=O.length) (m:=λj=>O.length - j) 0
   (aA.nl 9 78 11 rfl (aA.to [2,5,9,10] [((2,0),2),((1,0),1),((78,0),3)] (by simp))) (by omega) ?_
  rintro j j1 R a Z H;have G:=aZ j;by_cases d:j<O.length
  .have af:((O.take j).filter λx=>!decide (x.w=r.zero)).length<=j:=dM (kB _ _) (by rw[fY];omega);have s:(O.take (j+1)).filter (λx=>!decide (x.w=r.zero))=(O.take j).filter (λx=>!decide (x.w=r.zero))++if O[j].w=r.zero then[]else[O[j]]:=by rw[ed d,tW];by_cases t:O[j].w=r.zero<;>simp[t]
   generalize hT:(O.take j).filter (λx=>!decide (x.w=r.zero))=T at *
   have t:=F _ (bU d);simp[g.ug,aB,d];refine bK d ?_;refine aW (Gm r O[j].w ((W.pr (n:=kc aV.key (l.take l.length) O[j].key+n) (by have:=y l.length O[j].key;omega) t.2 t.1).mono (by omega))) ?_;by_cases o:O[j].w=r.zero
   .rw[decide_eq_true o];simp[G];rw[aX o]at s;refine a (j+1) _ (aA.to [2,5,9,10] [((2,0),2),((1,0),1),((3,0),3)] ?_) (by omega) (by omega);rw[s];simp[aB]
   .rw[decide_eq_false o];simp[d];rw[bD o]at s;refine bK d ?_;rw[G];refine⟨by omega,a (j+1) _ (aA.to [2,5,9,10] [((2,0),2),((1,0),1),((98,0),3)] ?_) (by omega) (by omega)⟩;rw[s];simp[aB]
  .have:j=O.length:=by omega
   subst this;simp[g.ug,aB];refine H _ _ ?_;simp
def Xk(a:aU){M:cQ a.ring}(i:dB M)(n B:Nat)(hn:B+n<=M.lim)(k:∀ q,kc aV.key a.aD q<=B)(m:a.aD.length<=100000)(l:∀ x∈a.aD,M.mb n x.w)(s:∀ w∈a.aM,w.sm 1048576)(r:∀ w∈a.fin,w.sm 1048576)(hp:a.ring.parts.length<=1000000)(p:a.aM.length<=1000000)(o:a.fin.length<=1000000)
  (ci:∀ w∈a.aM,w.aJ a.ring) (cf:∀ w∈a.fin,w.aJ a.ring) (j:∀ x∈a.aD,x.w.aJ a.ring) :
  zS 150 [enc a] (enc a.nf):=by
 have d:=Pd a.ring a.aM s p;have f:=Pd a.ring a.fin r o;rw[T2 ci]at d;rw[T2 cf]at f;have h:=WU i a.aD n B hn k m λx b=>⟨l x b,j x b⟩;rw[Yr]at h;refine Sp.vz c.gp λ_=>?_;simp[g.gp];refine aW (yad a.ring hp) ?_;simp;refine aW d ?_;simp;refine aW f ?_;simp;refine aW h ?_;simp[aU.nf]
def U9(a:aU){M:cQ a.ring}(d:dB M)(n B:Nat)(hn:B+n<=M.lim)(i:∀ q,kc aV.key a.aD q<=B)(l:∀ w∈a.aM,M.mb n w)(k:∀ w∈a.fin,M.mb n w)(j:∀ x∈a.aD,M.mb n x.w)(f:a.sm 1048576) :
  zS 136 [enc a] (.bM [enc (if a.vb then a.nf else jS),g6 (if a.vb then 0 else 4)]):=by
 refine Sp.vz c.bq λ_=>?_;simp[g.bq];refine aW (Mn a f) ?_;cases m:a.vb
 .simp[jS]
 have b:=aU.iV.1 m;have o:=b.il;have p:=b.fl;have r:=b.st2
 simp;refine aW (OR a.ring (by have:=BP b.ring;omega)) ?_;simp;refine aW (Iw d a.aM n (by omega) b.ring (by omega) l b.aM) ?_;simp;refine aW (Iw d a.fin n (by omega) b.ring (by omega) k b.fin) ?_;simp;refine aW (X6 d a.aD n B hn i (by have:=b.al;omega) λx h=>⟨j x h,(b.aD x h).2.2.2.2.2.2⟩) ?_;simp[aU.nf]
def Vv(t:eg)(o:Int)(a:FuncId)(f:aE->Int)(z:∀ x,Sp P a [enc x] (.pure (g6 (f x))))(h:t.sm 1048576)(F:t.aD.length<=100000)(D:t.aM.length<=1000000)(C:t.fin.length<=1000000){A:aU}(y:A=⟨t.ring,o,t.st,t.aM,t.fin,t.aD.map (fJ f)⟩){v:aU}{e:Int}(u:¬ t.ok->v=jS/\e=4)(w:t.ok->zS 136 [enc A] (.bM [enc v,g6 e])) :
  zS 94 [enc t,g6 o,.fn a []] (.bM [enc v,g6 e]):=by
 refine Sp.vz c.da λ_=>?_;simp[g.da];refine aW (Gh t h D C) ?_;by_cases d:t.ok;rotate_left
 .obtain⟨rfl,rfl⟩:=u d;rw[decide_eq_false d];simp[jS]
 rw[decide_eq_true d];have n:=w d;simp
 refine b6 (S:=λk:Nat=>aB [(2,.p (.fn a [])),(6,i0 1),(8,i0 2),(26,hW t.aD),(27,f8 t.aD.length),(28,f8 k)]
   [(1,⟨7,[.agg [f8 0,.nil,f8 0,f8 0,.nil,.nil,.nil]]⟩),(2,⟨7,[.agg [f8 t.ring.kind,hW t.ring.parts,f8 o,f8 t.st,hW t.aM,hW t.fin,.own 3 0 0 k]]⟩),(3,⟨11,aK ((t.aD.map (fJ f)).take k)⟩)])
  (I:=λk=>k<=t.aD.length) (m:=λk=>t.aD.length - k) 0
  ((aA.b5 (s0:=8) (g0:=0) (i:=6) (s:=77) (sz:=11) rfl).trans (aA.to [2,6,8,26,27,28] [((6,0),1),((8,0),2),((77,0),3)] (by simp))) (by omega) ?_
 rintro k E R l G B;have r:=aZ k;simp[g.t7,aB];refine⟨λj=>?_,λj=>B _ _ ?_⟩
 .refine bK j ?_;refine aW (z t.aD[k]) ?_;have b:aK ((t.aD.map (fJ f)).take (k+1))=aK ((t.aD.map (fJ f)).take k)++[.p (enc (fJ f t.aD[k]))]:=by rw[List.take_succ_eq_append_getElem (by simpa using j),sR];simp
  simp[r];exact⟨by omega,l (k+1) _ (aA.to [2,6,8,26,27,28] [((1,0),1),((2,0),2),((45,0),3)] (by simp[aB,b,fJ])) (by omega) (by omega)⟩
 .have:k=t.aD.length:=by omega
  subst this;have b:(t.aD.map (fJ f)).take t.aD.length=t.aD.map (fJ f):=eZ (by simp);subst y;simp;refine bA n (by simp[b]) ?_;simp
def VD(t:eg)(n:t.aD.length<=100000)(h:zS 150 [enc t.fW] (enc t.fW.nf)):zS 111 [enc t,.bool true] (enc t.fW.nf):=by
 generalize t.fW.nf=u at *
 refine Sp.vz c.n9 λ_=>?_;simp[g.n9]
 refine b6 (S:=λk:Nat=>aB [(1,i4 true),(2,i0 1),(4,i0 2),(5,i0 3),(6,f8 k)]
   [(1,⟨8,[.p (enc t)]⟩),(2,⟨7,[.agg [f8 0,.nil,f8 0,f8 0,.nil,.nil,.nil]]⟩),(3,⟨7,[.agg [f8 t.ring.kind,hW t.ring.parts,f8 t.o,f8 t.st,hW t.aM,hW t.fin,.own 4 0 0 k]]⟩),(4,⟨11,aK ((t.aD.map (fJ aE.o)).take k)⟩)])
  (I:=λk=>k<=t.aD.length) (m:=λk=>t.aD.length - k) 0
  ((aA.b5 (s0:=5) (g0:=0) (i:=6) (s:=77) (sz:=11) rfl).trans (aA.to [1,2,4,5,6] [((2,0),1),((4,0),2),((5,0),3),((77,0),4)] (by simp))) (by omega) ?_
 rintro k l R d r j;have f:=aZ k;by_cases b:k<t.aD.length
 .simp[g.t8,aB,b];refine bK b ?_;have a:aK ((t.aD.map (fJ aE.o)).take (k+1))=aK ((t.aD.map (fJ aE.o)).take k)++[.p (enc (fJ aE.o t.aD[k]))]:=by rw[List.take_succ_eq_append_getElem (by simpa using b),sR];simp
  try simp[f]
  try rw[f]
  exact⟨⟨by omega,by omega⟩,d (k+1) _ (aA.to [1,2,4,5,6] [((1,0),1),((2,0),2),((3,0),3),((52,0),4)] (by simp[aB,a,fJ])) (by omega) (by omega)⟩
 .have:k=t.aD.length:=by omega
  subst this;have a:(t.aD.map (fJ aE.o)).take t.aD.length=t.aD.map (fJ aE.o):=eZ (by simp);simp[g.t8,aB];refine j _ _ ?_;simp;refine bA h (by simp[a,eg.fW]) ?_;simp
def yee{r:aC}(M:cQ r){n B:Nat}{l:List aV}(h:∀ x∈l,M.mb n x.w/\x.w.aJ r)(b:∀ q,kc aV.key l q<=B):∀ x∈mY r l,M.mb (B+n) x.w/\x.w.aJ r:=λx a=>by have d:=gB (key:=aV.key) l;have:=QP M (l:=bW aV.key l) (λx a=>h x ((d.2.2 x).1 a)) (bW aV.key l).length (dE _) x (by rw[kK];exact(kI.1 a).1);rw[kK,FL (F6 l)]at this;exact⟨M.mono this.1 (by have:=b x.key;omega),this.2⟩
def Wy(r:aC)(l:List aV):(mY r l).length<=l.length:=by unfold mY;refine dM (kB _ _) ?_;have:=FE (key:=aV.key) (up:=lO r) (nw:=id) (λ_ _=>rfl) (λ_=>rfl) (bW aV.key l) (bW aV.key l).length (dE _);rw[kK,(gB l).2.1]at this;exact this
def z17(t:eg)(h:t.sm 1048576)(a:t.aD.length<=100000)(f:t.aM.length<=1000000)(d:t.fin.length<=1000000)(i:t.ok){v:aU}{e:Int}(b:zS 136 [enc t.fW] (.bM [enc v,g6 e])) :
  zS 51 [enc t] (.bM [enc v,g6 e]):=by
 refine Sp.vz c.fw λ_=>?_;simp[g.fw];refine aW (Vv t t.o 104 aE.o ya2 h a f d (A:=t.fW) (v:=v) (e:=e) rfl (λh=>absurd i h) (λ_=>b)) ?_;simp
def Vx(t:eg)(h:t.sm 1048576)(b:t.aD.length<=100000)(f:t.aM.length<=1000000)(d:t.fin.length<=1000000)(i:t.ok)(a:zS 150 [enc t.fW] (enc t.fW.nf)) :
  zS 56 [enc t] (.bM [enc t.fW.nf,g6 0]):=by
 refine Sp.vz c.f9 λ_=>?_;simp[g.f9];refine aW (MM t h f d) ?_;rw[decide_eq_true i];simp;refine aW (VD t b a) ?_;simp
def Xn{α : Type}{key : α -> List Int}(l:List α)(q:List Int):kc key l q<=l.length:=List.countP_le_length
def U'{r:aC}{M:cQ r}{n:Nat}{R:eg}(h:pO M n R)(j:dB M)(hn:3100+n<=M.lim) :
  ∃ A:aU,zS 51 [enc R] (.bM [enc A,g6 0])/\zS 56 [enc R] (.bM [enc A,g6 0])/\zS 17 [enc A,enc A] (.bool true):=by
 obtain⟨b,E,_,D,C,z,_⟩:=h;have f:=pO.sm (R:=R) ⟨b,E,‹_›,D,C,z,‹_›⟩ j (by omega);subst E;have i:=yfs b;have G:=b.al;have N:=b.st2;have K:=b.il;have J:=b.fl;have I:R.fW.aD.length<=2048:=by simpa[eg.fW]using G
 have m:∀ x∈R.fW.aD,M.mb (1000+n) x.w:=λx a=>by obtain⟨y,s,rfl⟩:=cA.1 a;exact z y s
 have d:∀ q,kc aV.key R.fW.aD q<=2048:=λq=>dM (Xn _ _) I;have u:R.fW.sm 1048576:=⟨f.aM,f.fin,λx a=>by
  obtain⟨y,s,rfl⟩:=cA.1 a;exact f.aD y s⟩
 have t:=U9 R.fW (M:=M) j (1000+n) 2048 (by omega) d (λw p=>M.mono (D w p) (by omega)) (λw p=>M.mono (C w p) (by omega)) m u;have o:=aU.iV.2 i;rw[o]at t;simp only[cH]at t;have H:=Xk R.fW (M:=M) j (1000+n) 2048 (by omega) d (by omega) m u.aM u.fin (by have:=BP b.ring;show R.ring.parts.length<=_;omega) (by show R.aM.length<=_;omega) (by show R.fin.length<=_;omega) i.aM i.fin (λx a=>(i.aD x a).2.2.2.2.2.2);have F:=yee M (r:=R.ring) (n:=1000+n) (B:=2048) (l:=R.fW.aD) (λx a=>⟨m x a,(i.aD x a).2.2.2.2.2.2⟩) d;have L:=Wy R.ring R.fW.aD;refine⟨R.fW.nf,z17 R f (by omega) (by omega) (by omega) b t,Vx R f (by omega) (by omega) (by omega) b H,?_⟩;have k:=OT R.fW.nf R.fW.nf ⟨f.aM,f.fin,λx a=>(j.pr (n:=2048+(1000+n)) (by omega) (F x a).2 (F x a).1).mono (by omega)⟩ (by show R.aM.length<=_;omega) (by show R.fin.length<=_;omega) (by show(mY R.ring R.fW.aD).length<=_;omega)
 rwa[decide_eq_true rfl]at k
def VV(w:List Int)(m:Int)(C:w.length<=1000000):zS 48 [.sl (ens w),g6 m] (.bool (decide ((1<=m/\m<=32)/\w.length<=256/\∀ x∈w,1<=x/\x<=m))):=by
 refine Sp.vz c.fv λ_=>?_;simp[g.fv]
 refine b6 (S:=λk:Nat=>aB [(0,hW w),(1,f8 m),(7,hW w),(8,f8 w.length),(9,f8 k)] []) (I:=λk=>k<=w.length/\∀ i,(h:i<w.length)->i<k->1<=w[i]/\w[i]<=m) (m:=λk=>w.length - k) 0
  (aA.to [0,1,7,8,9] [] (by simp)) ⟨by omega,λi _ h=>by omega⟩ ?_
 rintro k ⟨d,a⟩ R A o l;have r:=aZ k;simp[g.u5,aB];refine⟨λj=>bK j ?_,λj=>l _ _ ?_⟩
 .have n:∀ h:w[k]<1\/m<w[k],¬ ∀ x∈w,1<=x/\x<=m:=λh u=>by have:=u w[k] (bU j);omega
  refine⟨λh=>o _ (by simp[n (.inl h)]),λh=>⟨λb=>o _ (by simp[n (.inr b)]),λb=>A (k+1) _ (aA.to [0,1,7,8,9] [] (by simp[r])) ⟨by omega,λi f y=>?_⟩ (by omega)⟩⟩;by_cases e:i=k
  .subst e;exact⟨h,b⟩
  .exact a i f (by omega)
 .have z:k=w.length:=by omega
  have s:∀ x∈w,1<=x/\x<=m:=λx l=>by obtain⟨i,f,rfl⟩:=qW.1 l;exact a i f (by omega)
  have t:decide (∀ x∈w,1<=x/\x<=m)=true:=decide_eq_true s;simp[t];refine⟨λd=>⟨λa=>by simp[d,a];omega,λa _ B=>by omega⟩,λd a=>by omega⟩
def H7{r:aC}(a:r.ok=true)(n:Nat):∀ w∈oR r n,w.rR r:=λw b=>by
 obtain⟨i,_,rfl⟩:=cA.1 b;split
 .exact BT a
 .exact Ql a
def H6{r:aC}(a:r.ok=true)(n:Nat):∀ w∈oS r n,w.rR r:=λw b=>by
 obtain⟨i,_,rfl⟩:=cA.1 b;split
 .exact BT a
 .exact Ql a
def HA{r:aC}{w:List Int}:∀ x∈kT r w,∃ i:Nat,i<w.length/\x=⟨i,w.getD i 0,i+1,r.one⟩:=λx b=>by obtain⟨i,a,rfl⟩:=List.mem_map.1 b;exact⟨i,by simpa using a,rfl⟩
def Uy{r:aC}(b:r.ok=true){f:Int}(a:1<=f/\f<=32){w:List Int}(d:w.length<=63)(hs:∀ x∈w,1<=x/\x<=f):(jK r f w).ok:=by
 refine⟨b,a.1,a.2,by simp only[jK];omega,by simp only[jK];omega,by simp[jK,oR],by simp[jK,oS],by simp[jK,kT];omega,λx k=>?_,λw d=>(H7 b _ w d).aJ,λw d=>(H6 b _ w d).aJ⟩;obtain⟨i,h,rfl⟩:=HA x k;have j:w.getD i 0∈w:=by rw[eV,dO h];exact bU h
 have:=hs _ j;unfold oa;simp only[jK];exact⟨by omega,by omega,by omega,by omega,by omega,by omega,(BT b).aJ⟩
def Zo{r:aC}(a:r.ok=true)(f:Int)(w:List Int):(jK r f w).sm 3 :=
 ⟨λw b=>(H7 a _ w b).sm,λw b=>(H6 a _ w b).sm,λx d=>by
  obtain⟨i,_,rfl⟩:=HA x d;exact(BT a).sm⟩
def Wz{r:aC}{l:List aE}(h:eH aE.key l):cV r l=l.filter λx=>!decide (x.w=r.zero):=by unfold cV;rw[AF (Pb h),Uc l h]
def ybm(r:aC)(d:Int)(w:List Int):eH aE.key (jK r d w).oP.aD:=by
 have:(jK r d w).oP.aD=(List.range w.length).map λi:Nat=>(⟨(i:Int),w.getD i 0,w.getD i 0,(i:Int)+1,r.one⟩:aE):=by simp only[aU.oP,jK,kT,yG];rfl
 rw[this];unfold eH;rw[Jr];refine List.Pairwise.imp ?_ Nz;intro a b f;unfold aE.key;rw[GJ];left;simp only;omega
def Zn{r:aC}(f:r.ok=true){a:Int}(h:1<=a/\a<=32){w:List Int}(u:w.length<=4)(hs:∀ x∈w,1<=x/\x<=a):(jK r a w).oP.nf.lc/\(jK r a w).oP.nf.ok:=by
 have p:=Uy f h (show w.length<=63 by omega) hs;have j:=DV (Ua p);have n:=Wz (r:=r) (ybm r a w);have k:∀ x∈(jK r a w).oP.nf.aD,x.w=r.one:=λx d=>by have d:x∈cV r (jK r a w).oP.aD:=d;rw[n]at d;obtain⟨y,o,rfl⟩:=cA.1 (kI.1 d).1;obtain⟨i,_,rfl⟩:=HA y o;rfl
 have t:(jK r a w).oP.nf.aD.length<=4:=by
  have:=Iu r (jK r a w).oP.aD;have s:(jK r a w).oP.aD.length=w.length:=by simp[aU.oP,jK,kT]
  show(cV r (jK r a w).oP.aD).length<=4;omega
 have m:=H7 f w.length;have l:=H6 f w.length;refine⟨⟨⟨λv b=>(m v b).sm.mono (by omega),λv b=>(l v b).sm.mono (by omega),λx d=>by rw[k x d];exact(BT f).sm.mono (by omega)⟩,λv b=>?_,?_,?_,by omega,by have:=BP f;show r.parts.length<=_;omega⟩,j⟩
 .simp only[eg.jP,dN,cA]at b;obtain b|b|⟨x,d,rfl⟩:=b
  .exact(m v b).sm.li
  .exact(l v b).sm.li
  .rw[k x d];exact(BT f).sm.li
 .show(oR r w.length).length<=5;simp[oR];omega
 .show(oS r w.length).length<=5;simp[oS];omega
def Vt(a:aU)(h:a.sm 1048576)(t:a.aD.length<=100000){v0:eg}{l:Int}(j:zS 24 [enc a.oP] (.bM [enc v0,g6 l])) :
  zS 49 [enc a] (.bM [enc (if a.vb then v0 else nJ),g6 (if a.vb then l else 4)]):=by
 refine Sp.vz c.jj λ_=>?_;simp[g.jj];refine aW (Mn a h) ?_;cases w:a.vb
 .simp[nJ]
 simp
 refine b6 (S:=λk:Nat=>aB [(2,i0 1),(4,i0 2),(25,hW a.aD),(26,f8 a.aD.length),(27,f8 k)]
   [(1,⟨8,[.agg [f8 0,.nil,f8 0,f8 0,f8 0,.nil,.nil,.nil]]⟩),(2,⟨8,[.agg [f8 a.ring.kind,hW a.ring.parts,f8 a.sy,f8 a.sy,f8 a.st,hW a.aM,hW a.fin,.own 3 0 0 k]]⟩),(3,⟨12,aK ((a.aD.map uu).take k)⟩)])
  (I:=λk=>k<=a.aD.length) (m:=λk=>a.aD.length - k) 0
  ((aA.b5 (s0:=4) (g0:=0) (i:=7) (s:=77) (sz:=12) rfl).trans (aA.to [2,4,25,26,27] [((2,0),1),((4,0),2),((77,0),3)] (by simp))) (by omega) ?_
 rintro k r R f u o;have n:=aZ k;simp[g.u6,aB];refine⟨λd=>?_,λd=>o _ _ ?_⟩
 .refine bK d ?_;have b:aK ((a.aD.map uu).take (k+1))=aK ((a.aD.map uu).take k)++[.p (enc (uu a.aD[k]))]:=by rw[List.take_succ_eq_append_getElem (by simpa using d),sR];simp
  simp[n];exact⟨by omega,f (k+1) _ (aA.to [2,4,25,26,27] [((1,0),1),((2,0),2),((45,0),3)] (by simp[aB,b,uu])) (by omega) (by omega)⟩
 .have:k=a.aD.length:=by omega
  subst this;have b:(a.aD.map uu).take a.aD.length=a.aD.map uu:=eZ (by simp);simp;refine bA j (by simp[b,aU.oP]) ?_;simp
def VQ(t:aU)(h:t.sm 1048576)(y:t.aD.length<=100000)(u:t.aM.length<=1000000)(r:t.fin.length<=1000000)(b:t.ok->zS 30 [enc t.oP] (enc t.oP.nf)) :
  zS 54 [enc t] (.bM [enc (if t.vb then t.oP.nf else nJ),g6 (if t.vb then 0 else 4)]):=by
 refine Sp.vz c.jk λ_=>?_;simp[g.jk];refine aW (Yb t h u r) ?_;cases n:t.vb
 .simp[nJ]
 have w:=aU.iV.1 n;have l:=b w;simp;clear b;generalize t.oP.nf=A at *
 refine b6 (S:=λk:Nat=>aB [(1,i0 1),(2,i0 2),(4,i0 3),(5,f8 k)]
   [(1,⟨7,[.p (enc t)]⟩),(2,⟨8,[.agg [f8 0,.nil,f8 0,f8 0,f8 0,.nil,.nil,.nil]]⟩),(3,⟨8,[.agg [f8 t.ring.kind,hW t.ring.parts,f8 t.sy,f8 t.sy,f8 t.st,hW t.aM,hW t.fin,.own 4 0 0 k]]⟩),(4,⟨12,aK ((t.aD.map uu).take k)⟩)])
  (I:=λk=>k<=t.aD.length) (m:=λk=>t.aD.length - k) 0
  ((aA.b5 (s0:=4) (g0:=0) (i:=7) (s:=77) (sz:=12) rfl).trans (aA.to [1,2,4,5] [((1,0),1),((2,0),2),((4,0),3),((77,0),4)] (by simp))) (by omega) ?_
 rintro k x R f z o;have j:=aZ k;by_cases d:k<t.aD.length
 .simp[g.tm,aB,d];refine bK d ?_;have a:aK ((t.aD.map uu).take (k+1))=aK ((t.aD.map uu).take k)++[.p (enc (uu t.aD[k]))]:=by rw[List.take_succ_eq_append_getElem (by simpa using d),sR];simp
  try rw[j]
  exact⟨⟨by omega,by omega⟩,f (k+1) _ (aA.to [1,2,4,5] [((1,0),1),((2,0),2),((3,0),3),((50,0),4)] (by simp[aB,a,uu])) (by omega) (by omega)⟩
 .have:k=t.aD.length:=by omega
  subst this;have a:(t.aD.map uu).take t.aD.length=t.aD.map uu:=eZ (by simp);simp[g.tm,aB];refine o _ _ ?_;simp;refine bA l (by simp[a,aU.oP]) ?_;simp
def Q8:zS 17 [enc jS,enc jS] (.bool true):=by
 have h:=OT jS jS ⟨λw a=>(by cases a),λw a=>(by cases a),λx b=>(by cases b)⟩ (by simp[jS]) (by simp[jS]) (by simp[jS])
 rwa[decide_eq_true rfl]at h
def S9(t:eg)(w:List Int)(I C:eg)(A:aU)(e:Int)(l:zS 47 [enc t] (.bool true))(m:zS 48 [.sl (ens w),g6 t.i] (.bool true))(n:w.length<=63)
  (j:zS 49 [enc (jK t.ring t.i w)] (.bM [enc I,g6 0])) (h:zS 9 [enc I,enc t] (.bM [enc C,g6 e])) (d:e≠0->A=jS) (f:e=0->zS 51 [enc C] (.bM [enc A,g6 0])) :
  zS 15 [enc t,.sl (ens w)] (.bM [enc A,g6 e]):=by
 refine Sp.vz c.cd λ_=>?_;simp[g.cd];refine aW l ?_;simp;refine aW m ?_;have b:¬ (64:Int)<=w.length:=by omega
 simp[b];refine aW (ycl t.ring t.i w (by omega)) ?_;simp;refine aW j ?_;simp;refine aW h ?_;simp;refine⟨λa=>?_,λa=>?_⟩
 .have k:=f a;refine aW k ?_;simp[a]
 .have:=d a;subst this;simp[jS]
def Qm(t:eg)(w:List Int)(I C:eg)(A:aU)(e:Int)(l:zS 52 [enc t] (.bool true))(m:zS 53 [.sl (ens w),g6 t.i] (.bool true))(n:w.length<=63)
  (j:zS 54 [enc (jK t.ring t.i w)] (.bM [enc I,g6 0])) (h:zS 10 [enc I,enc t] (.bM [enc C,g6 e])) (d:e≠0->A=jS) (f:e=0->zS 56 [enc C] (.bM [enc A,g6 0])) :
  zS 16 [enc t,.sl (ens w)] (.bM [enc A,g6 e]):=by
 refine Sp.vz c.cg λ_=>?_;simp[g.cg];refine aW l ?_;simp;refine aW m ?_;have b:¬ (63:Int)<w.length:=by omega
 simp[b];refine aW (z24 t.ring t.i w (by omega)) ?_;simp;refine aW j ?_;simp;refine aW h ?_;simp;refine⟨λa=>?_,λa=>?_⟩
 .have k:=f a;refine aW k ?_;simp[a]
 .have:=d a;subst this;simp[jS]
def ycy(t:eg)(w:List Int)(a b:Bool)(f:zS 47 [enc t] (.bool a))(j:zS 48 [.sl (ens w),g6 t.i] (.bool b))(h:¬ (a=true/\b=true/\w.length<=63)) :
  zS 15 [enc t,.sl (ens w)] (.bM [enc jS,g6 (if a=false then 4 else if b=false then 9 else 2)]):=by
 refine Sp.vz c.cd λ_=>?_;simp[g.cd];refine aW f ?_;cases a
 .simp[jS]
 simp;refine aW j ?_;cases b
 .simp[jS]
 have d:(64:Int)<=w.length:=by simp at h;omega
 simp[d,jS]
def Ye(t:eg)(w:List Int)(a b:Bool)(f:zS 52 [enc t] (.bool a))(j:zS 53 [.sl (ens w),g6 t.i] (.bool b))(h:¬ (a=true/\b=true/\w.length<=63)) :
  zS 16 [enc t,.sl (ens w)] (.bM [enc jS,g6 (if a=false then 4 else if b=false then 9 else 2)]):=by
 refine Sp.vz c.cg λ_=>?_;simp[g.cg];refine aW f ?_;cases a
 .simp[jS]
 simp;refine aW j ?_;cases b
 .simp[jS]
 have d:(63:Int)<w.length:=by simp at h;omega
 simp[d,jS]
def Qn(t:eg)(lt:t.lc)(w:List Int)(hw:w.length<=4\/(64<=w.length/\w.length<=1000)) :
  ∃ (A:aU) (e:Int),zS 15 [enc t,.sl (ens w)] (.bM [enc A,g6 e])/\zS 16 [enc t,.sl (ens w)] (.bM [enc A,g6 e])/\zS 17 [enc A,enc A] (.bool true):=by
 have l3:=lt.i5;have l4:=lt.f5;have B:=Gh t (lt.sm.mono (by omega)) (by omega) (by omega);have j:=MM t (lt.sm.mono (by omega)) (by omega) (by omega);have C:=VV w t.i (by omega);have l:=Ya w t.i (by omega);by_cases h:decide t.ok=true/\decide ((1<=t.i/\t.i<=32)/\w.length<=256/\∀ x∈w,1<=x/\x<=t.i)=true/\w.length<=63;rotate_left
 .exact⟨jS,_,ycy t w _ _ B C h,Ye t w _ _ j l h,Q8⟩
 obtain⟨b,a,z⟩:=h;rw[b]at B j;rw[a]at C l;have b:t.ok:=of_decide_eq_true b;have a:=of_decide_eq_true a;have E:w.length<=4:=by omega
 have L:1<=t.i/\t.i<=32:=a.1;have I:=a.2.2;have o:=Uy b.ring L (show w.length<=63 by omega) I;have p:=Zo b.ring t.i w;have F:=Zn b.ring L E I;have la:(jK t.ring t.i w).aD.length<=19:=by simp[jK,kT];omega
 have V:(jK t.ring t.i w).aM.length<=1000000:=by simp[jK,oR];omega
 have U:(jK t.ring t.i w).fin.length<=1000000:=by simp[jK,oS];omega
 have m:=Ua o;have D:(jK t.ring t.i w).oP.lc:=by
  have Q:=H7 b.ring w.length;have O:=H6 b.ring w.length;have N:∀ x∈(jK t.ring t.i w).oP.aD,x.w=t.ring.one:=λx r=>by obtain⟨y,S,rfl⟩:=cA.1 r;obtain⟨i,_,rfl⟩:=HA y S;rfl
  refine⟨⟨λv a=>(Q v a).sm.mono (by omega),λv a=>(O v a).sm.mono (by omega),λx r=>by rw[N x r];exact(BT b.ring).sm.mono (by omega)⟩,λv a=>?_,?_,?_,?_,by have:=BP b.ring;show t.ring.parts.length<=_;omega⟩
  .simp only[eg.jP,dN,cA]at a;obtain a|a|⟨x,r,rfl⟩:=a
   .exact(Q v a).sm.li
   .exact(O v a).sm.li
   .rw[N x r];exact(BT b.ring).sm.li
  .show(oR t.ring w.length).length<=5;simp[oR];omega
  .show(oS t.ring w.length).length<=5;simp[oS];omega
  .show((jK t.ring t.i w).aD.map uu).length<=12;rw[ra];simp[jK,kT];omega
 have ci:=DL.of D;have G:=ci.n;rw[aX m,aX m]at G;have s:=Vt (jK t.ring t.i w) (p.mono (by omega)) (by omega) G;have d:=VQ (jK t.ring t.i w) (p.mono (by omega)) (by omega) V U λ_=>ci.f m;rw[aU.iV.2 o]at s d;simp only[cH]at s d;obtain⟨M,hM,H⟩:=yck (t:=(jK t.ring t.i w).oP.nf) (u:=t) F.1 lt F.2 b rfl rfl;obtain⟨R,e,J,K,Z⟩:=z23 (DL.of F.1) (DL.of lt) H;obtain⟨_,_,rfl,k,_⟩|⟨_,rfl,rfl⟩:=Z
 .obtain⟨A,W,X,Y⟩:=U' k H.mp (by omega);exact⟨A,0,S9 t w _ R A 0 B C z s J (λh=>absurd rfl h) (λ_=>W),Qm t w _ R A 0 j l z d K (λh=>absurd rfl h) (λ_=>X),Y⟩
 .exact⟨jS,2,S9 t w _ nJ jS 2 B C z s J (λ_=>rfl) (λh=>by omega),Qm t w _ nJ jS 2 j l z d K (λ_=>rfl) (λh=>by omega),Q8⟩
def projectAppliesMade_sp(k:Int)(m:GModel)(l:List Int):Sp P 6 [g6 k,enc m,.sl (ens l)] (.pure (.bool true)):=by
 have f:=yva m (yus k) 2 2 3 (yu7 k) (by omega) (by omega) (by omega);have a:=yvk m (yus k) 2 2 3 (yu7 k) (by omega) (by omega) (by omega);have d:=yvo l 2 4 (by omega) (by omega) (by omega);generalize yuk m (yus k) 2 2 3=t at *
 have b:((l.take 4).map λx=>1+x % 2).length<=4:=by simp;omega
 generalize ((l.take 4).map λx=>1+x % 2)=w at *
 obtain⟨A,e,h,i,j⟩:=Qn t f.lc w (.inl b);refine Sp.vz c.aac λ_=>?_;simp[g.aac];refine aW (yvp k) ?_;simp;refine aW a ?_;simp;refine aW d ?_;simp;refine aW h ?_;simp;refine aW i ?_;simp;refine aW F1 ?_;simp;refine aW j ?_;simp
section
variable {H:Type} {en:TypeId × Value->H} {w:World}
def jW(n:Nat):p' en P w n T.int (gL Int):=ZM ty.int
def rdBool(n:Nat):p' en P w n T.bool (gL Bool):=ye5 ty.bool
def rdInts(n:Nat):p' en P w n T.ints (gL (List Int)):=Ed (λ_=>rfl) (λ_=>rfl) ty.ints ty.cell λk _=>jW k
def SK(n:Nat):p' en P w n T.rF (gL (List UInt32)):=Ed (λ_=>rfl) (λ_=>rfl) ty.rF ty.Ov λk _=>ZN ty.u32
def TZ(n:Nat):p' en P w n T.rat (gL aT):=CY (Ds:=[gL Bool,gL (List UInt32),gL (List UInt32)]) ty.rat rfl (λm _=>⟨rdBool m,SK m,SK m,trivial⟩) λo h=>by obtain⟨_,j,rfl,⟨a,rfl⟩,d⟩:=h.cons;obtain⟨_,k,rfl,⟨b,rfl⟩,f⟩:=d.cons;obtain⟨_,l,rfl,⟨c,rfl⟩,i⟩:=f.cons;obtain rfl:=i.nil;exact⟨⟨a,b,c⟩,by simp[PV.cells]⟩
def ZI(n:Nat):p' en P w n T.mono (gL aF):=CY (Ds:=[(λl=>∃ a b c:Int,l=[g6 a,g6 b,g6 c]),gL aT]) ty.mono rfl (λm _=>⟨XP ty.key ty.int ty.cell ty.cells,TZ m,trivial⟩) λk h=>by obtain⟨_,i,rfl,⟨a,b,c,rfl⟩,d⟩:=h.cons;obtain⟨_,j,rfl,⟨q,rfl⟩,f⟩:=d.cons;obtain rfl:=f.nil;exact⟨⟨⟨a,b,c⟩,q⟩,by simp[PV.cells]⟩
def XC(x:aF):(enc x).cells.all PV.one=true:=by simp[PV.cells]
def T'(x:GW):(enc x).cells.all PV.one=true:=by simp[PV.cells]
def XD(x:aE):(enc x).cells.all PV.one=true:=by simp[PV.cells]
def zbA(x:eg):(enc x).cells.all PV.one=true:=by simp[PV.cells]
def ZJ(n:Nat):p' en P w n T.aR (gL (List aF)):=Ed XC (λ_=>rfl) ty.aR ty.Hp λk _=>ZI k
theorem OP(n:Nat):p' en P w n T.weight (gL GW):=by
 induction n using Nat.strongRecOn with
 | ind n s =>
  refine CY (Ds:=[gL aT,gL Int,gL Bool,gL UInt64,gL (List aF),gL (List GW)]) ty.weight rfl (λm D=>⟨TZ m,jW m,rdBool m,ZO ty.u64,ZJ m,Ed T' (λx=>by simp[PV.cells]) ty.weights ty.vR λk C=>s k (by omega),trivial⟩) λE h=>?_;obtain⟨_,t,rfl,⟨a,rfl⟩,i⟩:=h.cons;obtain⟨_,u,rfl,⟨b,rfl⟩,j⟩:=i.cons;obtain⟨_,y,rfl,⟨c,rfl⟩,l⟩:=j.cons;obtain⟨_,z,rfl,⟨d,rfl⟩,o⟩:=l.cons;obtain⟨_,A,rfl,⟨e,rfl⟩,p⟩:=o.cons;obtain⟨_,B,rfl,⟨f,rfl⟩,r⟩:=p.cons;obtain rfl:=r.nil;exact⟨.mk a b c d e f,by simp[PV.cells]⟩
def Qf(n:Nat):p' en P w n T.weights (gL (List GW)):=Ed T' (λx=>by simp[PV.cells]) ty.weights ty.vR λk _=>OP k
def ZK(n:Nat):p' en P w n T.ring (gL aC):=CY (Ds:=[gL Int,gL (List Int)]) ty.ring rfl (λm _=>⟨jW m,rdInts m,trivial⟩) λk h=>by obtain⟨_,i,rfl,⟨a,rfl⟩,d⟩:=h.cons;obtain⟨_,j,rfl,⟨b,rfl⟩,f⟩:=d.cons;obtain rfl:=f.nil;exact⟨⟨a,b⟩,by simp[PV.cells]⟩
def ZL(n:Nat):p' en P w n T.wO (gL aE):=CY (Ds:=[gL Int,gL Int,gL Int,gL Int,gL GW]) ty.wO rfl (λm _=>⟨jW m,jW m,jW m,jW m,OP m,trivial⟩) λu h=>by obtain⟨_,o,rfl,⟨a,rfl⟩,f⟩:=h.cons;obtain⟨_,p,rfl,⟨b,rfl⟩,i⟩:=f.cons;obtain⟨_,r,rfl,⟨c,rfl⟩,j⟩:=i.cons;obtain⟨_,s,rfl,⟨e,rfl⟩,k⟩:=j.cons;obtain⟨_,t,rfl,⟨d,rfl⟩,l⟩:=k.cons;obtain rfl:=l.nil;exact⟨⟨a,b,c,e,d⟩,by simp[PV.cells]⟩
def zbB(n:Nat):p' en P w n T.trans (gL eg):=CY (Ds:=[gL aC,gL Int,gL Int,gL Int,gL (List GW),gL (List GW),gL (List aE)]) ty.trans rfl (λm _=>⟨ZK m,jW m,jW m,jW m,Qf m,Qf m,Ed XD (λ_=>rfl) ty.vO ty.Hm λk _=>ZL k,trivial⟩) λC h=>by obtain⟨_,t,rfl,⟨a,rfl⟩,i⟩:=h.cons;obtain⟨_,u,rfl,⟨b,rfl⟩,j⟩:=i.cons;obtain⟨_,x,rfl,⟨c,rfl⟩,l⟩:=j.cons;obtain⟨_,y,rfl,⟨g,rfl⟩,o⟩:=l.cons;obtain⟨_,z,rfl,⟨d,rfl⟩,p⟩:=o.cons;obtain⟨_,A,rfl,⟨e,rfl⟩,r⟩:=p.cons;obtain⟨_,B,rfl,⟨f,rfl⟩,s⟩:=r.cons;obtain rfl:=s.nil;exact⟨⟨a,b,c,g,d,e,f⟩,by simp[PV.cells]⟩
def gmodel_one(x:GModel):(enc x).cells.all PV.one=true:=by simp[PV.cells]
def rdModel(n:Nat):p' en P w n T.model (gL GModel):=CY (Ds:=[gL Int,gL (List Int),gL (List Int),gL (List Int),gL Bool]) ty.model rfl (λm _=>⟨jW m,rdInts m,rdInts m,rdInts m,rdBool m,trivial⟩) λu h=>by obtain⟨_,o,rfl,⟨a,rfl⟩,f⟩:=h.cons;obtain⟨_,p,rfl,⟨b,rfl⟩,i⟩:=f.cons;obtain⟨_,r,rfl,⟨c,rfl⟩,j⟩:=i.cons;obtain⟨_,s,rfl,⟨d,rfl⟩,k⟩:=j.cons;obtain⟨_,t,rfl,⟨e,rfl⟩,l⟩:=k.cons;obtain rfl:=l.nil;exact⟨⟨a,b,c,d,e⟩,by simp[PV.cells]⟩
end
end Go.Ab
