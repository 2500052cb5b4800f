/- Lemmas for the law ComposeBuildsMadeModels, part 44. No conditions. -/
import Derived.Test.YthhdboljpgdcpaaGreatDoorAP43
set_option maxRecDepth 100000
set_option maxHeartbeats 4000000
set_option linter.all false
namespace Go.Ab
theorem Rm{x:aI}:∀ {L:List aI} {i j:Nat},gO x L i=some j->i<=j/\j<i+L.length
 | y::L,i,j,h=>by
  simp only[gO]at h;split at h
  .cases h;simp
  .have:=Rm (L:=L) h;simp only[pQ];omega
def Y9{x:aI}{L:List aI}(h:x∈L):0<=nZ x L/\nZ x L<(L.length:Int):=by rw[Te h];have:=Rm (Jh h);omega
structure Np (t u:GTrans) (N s:Nat) (x:aC):Prop where
 f0:0<=x.f
 fs:x.f<s
 f:x.f<N
 t0:0<=x.t
 tl:x.t<N
 r:∃ a,∃ r∈mK t u a,x.i=r.m.i/\x.o=r.m.o/\x.w=r.m.w
theorem KE{t u:GTrans}{L0:List aI}:∀ s,∀ x∈(cI t u (L0,[]) s).2,Np t u (cI t u (L0,[]) s).1.length s x
 | 0,x,a=>by simp[cI]at a
 | s+1,x,a=>by
  have i:=KE (t:=t) (u:=u) (L0:=L0) s;simp only[cI]at a ⊢;by_cases b:s<(cI t u (L0,[]) s).1.length
  .rw[aW b]at a ⊢;generalize cI t u (L0,[]) s=X at *
   unfold uD at a ⊢;simp only[gL]at a ⊢;obtain a|a:=dT.1 a
   .have:=i x a;exact⟨this.f0,by have:=this.fs;omega,by have:=this.f;omega,this.t0,by have:=this.tl;omega,this.r⟩
   .obtain⟨r,h,rfl⟩:=cD.1 a;have k:r.m.t∈X.1++rY X.1 (mK t u (X.1.getD s ⟨0,0,0⟩)):=by
     by_cases d:r.m.t∈X.1
     .exact BZ _ d
     .exact List.mem_append_right _ (((Kg X.1 _).2 _).2 ⟨⟨r,h,rfl⟩,d⟩)
    have j:=Y9 k;rw[gL]at j;exact⟨by simp only;omega,by simp only;omega,by simp only;omega,by simp only;omega,by simp only;omega,⟨X.1.getD s ⟨0,0,0⟩,r,h,rfl,rfl,rfl⟩⟩
  .rw[aY b]at a ⊢;have:=i x a;exact⟨this.f0,by have:=this.fs;omega,this.f,this.t0,this.tl,this.r⟩
theorem S4{t u:GTrans}{L0:List aI}{B:Nat}(l:∀ a,(mK t u a).length<=B):∀ s q,kc aC.key (cI t u (L0,[]) s).2 q<=B
 | 0,q=>by simp[cI,kc]
 | s+1,q=>by
  have y:=S4 (t:=t) (u:=u) (L0:=L0) l s q;have A:=KE (t:=t) (u:=u) (L0:=L0) s;simp only[cI];by_cases d:s<(cI t u (L0,[]) s).1.length
  .rw[aW d];generalize cI t u (L0,[]) s=X at *
   have z:=l (X.1.getD s ⟨0,0,0⟩);unfold uD;simp only;unfold kc at y ⊢;rw[List.countP_append];by_cases p:∃ b,q=(s:Int)::b
   .obtain⟨b,rfl⟩:=p;have j:X.2.countP (λx=>decide (x.key=(s:Int)::b))=0:=by
     rw[List.countP_eq_zero];intro x k h;have n:x.key=(s:Int)::b:=by simpa using h
     have:x.f=s:=by unfold aC.key at n;exact(List.cons.inj n).1
     have:=(A x k).fs;omega
    rw[j,qW];exact dP List.countP_le_length (by rw[rL];exact z)
   .have j:((mK t u (X.1.getD s ⟨0,0,0⟩)).map λx=>(⟨s,x.m.i,x.m.o,nZ x.m.t (X.1++rY X.1 (mK t u (X.1.getD s ⟨0,0,0⟩))),x.m.w⟩:aC)).countP (λx=>decide (x.key=q))=0:=by rw[List.countP_eq_zero];intro x k h;obtain⟨r,_,rfl⟩:=cD.1 k;rw[decide_eq_true_eq]at h;exact p ⟨[r.m.i,r.m.o,nZ r.m.t (X.1++rY X.1 (mK t u (X.1.getD s ⟨0,0,0⟩)))],h.symm⟩
    rw[j];omega
  .rw[aY d];exact y
def Yz{t u:GTrans}{a:aI}(k:∀ x∈t.aE,0<=x.i/\x.i<=t.i)(f:∀ y∈u.aE,0<=y.o/\y.o<=u.o)(h:0<=t.i)(j:0<=u.o):∀ m∈tM t u a,(0<=m.i/\m.i<=t.i)/\0<=m.o/\m.o<=u.o:=by
 intro m hm;unfold tM at hm;obtain hm|hm:=dT.1 hm
 .obtain⟨x,d,hm⟩:=kv.1 hm;have d:=k x (k8.1 d).1;unfold qM at hm;obtain hm|hm:=dT.1 hm
  .unfold uO at hm;split at hm
   .rw[jF]at hm;subst hm;exact⟨d,by simp only;omega,j⟩
   .cases hm
  .obtain⟨y,b,hm⟩:=kv.1 hm;have b:=f y (k8.1 b).1;unfold pU at hm;split at hm
   .rw[jF]at hm;subst hm;exact⟨d,b⟩
   .cases hm
 .obtain⟨y,b,hm⟩:=kv.1 hm;have b:=f y (k8.1 b).1;unfold rz at hm;split at hm
  .rw[jF]at hm;subst hm;exact⟨⟨by simp only;omega,h⟩,b⟩
  .cases hm
def Xb{r:aB}(i:r.ok=true){a b:List aC}(h:a.Perm b)(d:∀ x∈a,x.w.aQ r):cR r a=cR r b:=by have f:∀ x∈b,x.w.aQ r:=λx k=>d x (h.mem_iff.2 k);refine ydh (key:=aC.key) (wt:=aC.w) (up:=lv r) i (λ_ _=>rfl) (λ_ _=>rfl) (λx y h j=>N2.2 ⟨h,j⟩) d f λp=>?_;exact yb6 i h d p
end Go.Ab
namespace Go.Ab
open Enc (enc)
structure pH {r:aB} (M:c4 r) (n:Nat) (R:GTrans):Prop where
 ok:R.ok
 ring:R.ring=r
 nf:cR r R.aE=R.aE
 aU:∀ w∈R.aU,M.mb n w
 fin:∀ w∈R.fin,M.mb n w
 aE:∀ x∈R.aE,M.mb (1000+n) x.w
 ss:eI aC.key R.aE
structure pI (t u:GTrans) (M:c4 t.ring) (n:Nat):Prop where
 tok:t.ok
 vD:u.ok
 ring:t.ring=u.ring
 TP:t.o=u.i
 mp:dM M
 hn:2000+n+n+1<=M.lim
 wti:∀ w∈t.aU,M.mb n w
 wtf:∀ w∈t.fin,M.mb n w
 wta:∀ x∈t.nf.aE,M.mb n x.w
 wui:∀ w∈u.aU,M.mb n w
 wuf:∀ w∈u.fin,M.mb n w
 wua:∀ x∈u.nf.aE,M.mb n x.w
 hs:t.st<=30
 hu:u.st<=30
 h3:t.st.toNat*u.st.toNat*3<=100
 ta:t.nf.aE.length<=900
 ua:u.nf.aE.length<=900
 ml:∀ a,(tM t.nf u.nf a).length<=1000
def pI.bd{t u:GTrans}{M:c4 t.ring}{n:Nat}(h:pI t u M n):wT t.nf u.nf M n t.st.toNat u.st.toNat:=by
 have to:=Eo h.tok;have f:=Eo h.vD;have k:=h.tok.il;have l:=h.vD.il;have s1:=h.tok.st1;have p:=h.vD.st1;have m:=h.hs;have o:=h.hu;have d:=h.ring
 exact {
  mp:=h.mp
  hn:=by have:=h.hn;omega
  hs:=by omega
  hu:=by omega
  it:=by show t.aU.length=_;omega
  iu:=by show u.aU.length=_;omega
  wit:=λw b=>⟨h.tok.aU w b,h.wti w b⟩
  wiu:=λw b=>⟨by show w.aQ t.ring;rw[d];exact h.vD.aU w b,h.wui w b⟩
  wat:=λx a=>⟨(to.aE x a).2.2.2.2.2.2.2.2,h.wta x a⟩
  wau:=λx a=>⟨by show x.w.aQ t.ring;rw[d];exact(f.aE x a).2.2.2.2.2.2.2.2,h.wua x a⟩
  at_:=h.ta
  au:=h.ua
  to:=⟨λx a=>by have:=to.aE x a;have i:=this.2.2.1;have j:x.t<t.st:=this.2.2.2.1;omega,λx a=>by have:=f.aE x a;have i:=this.2.2.1;have j:x.t<u.st:=this.2.2.2.1;omega⟩
  ml:=h.ml }
def pI.rv{t u:GTrans}{M:c4 t.ring}{n:Nat}(h:pI t u M n):∀ a,mK t.nf u.nf a=(sH t.nf u.nf a).map kC.mk:=λa=>
 Yn (λx b=>⟨((Eo h.tok).aE x b).2.2.2.2.2.2.1,JI x b⟩) (λy d=>by show y.w≠t.ring.zero;rw[h.ring];exact JI y d) a
def Yp{T U:GTrans}{M:c4 T.ring}{n j k:Nat}(u:T.ring.ok=true)(it:T.aU.length=j)(iu:U.aU.length=k)(s:T.fin.length=j)(t:U.fin.length=k)
  (wit:∀ w∈T.aU,w.aQ T.ring/\M.mb n w) (wiu:∀ w∈U.aU,w.aQ T.ring/\M.mb n w) (o:∀ w∈T.fin,w.aQ T.ring/\M.mb n w) (r:∀ w∈U.fin,w.aQ T.ring/\M.mb n w)
  {a:aI} (b:(0<=a.p/\a.p<j)/\(0<=a.q/\a.q<k)):((dL T U a).aQ T.ring/\M.mb (n+n+1) (dL T U a))/\((dO T U a).aQ T.ring/\M.mb (n+n+1) (dO T U a)):=by
 have g:∀ (l:List GW) (m:Nat) (x:Int),l.length=m->0<=x->x<m->l.getD x.toNat eC∈l:=λl m x A y z=>by
  have:x.toNat<l.length:=by omega
  rw[eT,dF this];exact bV this
 have d:=wit _ (g _ _ _ it b.1.1 b.1.2);have f:=wiu _ (g _ _ _ iu b.2.1 b.2.2);have h:=o _ (g _ _ _ s b.1.1 b.1.2);have i:=r _ (g _ _ _ t b.2.1 b.2.2);refine⟨?_,Dn h.1 i.1,M.times h.1 i.1 h.2 i.2⟩;unfold dL;split
 .exact⟨Dn d.1 f.1,M.times d.1 f.1 d.2 f.2⟩
 .exact⟨xj u,M.mono M.zero (rK _)⟩
def ydi{r:aB}(M:c4 r){n B:Nat}{l:List aC}(h:∀ x∈l,M.mb n x.w/\x.w.aQ r)(b:∀ q,kc aC.key l q<=B):∀ x∈cR r l,M.mb (B+n) x.w/\x.w.aQ r:=λx a=>by have d:=iQ (key:=aC.key) l;have:=Qc M (l:=b6 aC.key l) (λx a=>h x ((d.2.2 x).1 a)) (b6 aC.key l).length (dK _) x (by rw[lO];exact(k8.1 a).1);rw[lO,Jk (Ks l)]at this;exact⟨M.mono this.1 (by have:=b x.key;omega),this.2⟩
def Kw(r:aB)(l:List aC):(cR r l).length<=l.length:=by unfold cR;refine dP (nQ _ _) ?_;have:=Jn (key:=aC.key) (up:=lv r) (nw:=id) (λ_ _=>rfl) (λ_=>rfl) (b6 aC.key l) (b6 aC.key l).length (dK _);rw[lO,(iQ l).2.1]at this;exact this
noncomputable def uS(t u:GTrans):List aI × List aC:=cI t.nf u.nf (kU t.nf u.nf u.st.toNat [] t.st.toNat,[]) (t.st.toNat*u.st.toNat*3)
noncomputable def pA(t u:GTrans):GTrans:=sU t.nf u.nf (uS t u).1 (cR t.ring (uS t u).2) (iD t.nf u.nf (uS t u).1 (cR t.ring (uS t u).2))
def Uy{t u:GTrans}{M:c4 t.ring}{n:Nat}(h:pI t u M n)(tn:zS 24 [enc t] (.bP [enc t.nf,.int .i64 0]))(un:zS 24 [enc u] (.bP [enc u.nf,.int .i64 0]))
  (tf:zS 30 [enc t] (enc t.nf)) (uf:zS 30 [enc u] (enc u.nf)) (vt:zS 52 [enc t] (.bool true)) (vu:zS 52 [enc u] (.bool true)) :
  ∃ (R:GTrans) (e:Int),zS 9 [enc t,enc u] (.bP [enc R,.int .i64 e])/\zS 10 [enc t,enc u] (.bP [enc R,.int .i64 e])/\((¬ dV (pA t u)/\R=pA t u/\e=0/\pH M (n+n+1) R/\R.i=t.i/\R.o=u.o)\/(dV (pA t u)/\e=2/\R=iO)):=by
 unfold pA uS;have o:=h.bd;have K:=h.rv;have hr:t.ring=u.ring:=h.ring;have to:=Eo h.tok;have uo:=Eo h.vD;have cm:t.nf.st=(t.st.toNat:Nat):=by show t.st=_;have:=h.tok.st1;omega
 have co:u.nf.st=(u.st.toNat:Nat):=by show u.st=_;have:=h.vD.st1;omega
 have ft:t.nf.fin.length=t.st.toNat:=by show t.fin.length=_;have:=h.tok.fl;omega
 have fu:u.nf.fin.length=u.st.toNat:=by show u.fin.length=_;have:=h.vD.fl;omega
 have ao:∀ w∈t.nf.fin,w.aQ t.nf.ring/\M.mb n w:=λw j=>⟨h.tok.fin w j,h.wtf w j⟩;have ap:∀ w∈u.nf.fin,w.aQ t.nf.ring/\M.mb n w:=λw j=>⟨by show w.aQ t.ring;rw[hr];exact h.vD.fin w j,h.wuf w j⟩;have cc:jN t.nf u.nf [] t.st.toNat=kU t.nf u.nf u.st.toNat [] t.st.toNat:=by
  have:=(Tw t.nf u.nf t.st.toNat).1
  rwa[o.iu]at this
 have J:=λs=>Tt K (X:=(jN t.nf u.nf [] t.st.toNat,[])) (X':=(kU t.nf u.nf u.st.toNat [] t.st.toNat,[])) cc (List.Perm.refl _) s;have ca:=HW (t:=t.nf) (u:=u.nf) (kB.nil t.st.toNat u.st.toNat) (zZ o.iu) (dK _);have ad:=λs=>EB o.to o.ml (X:=(jN t.nf u.nf [] t.st.toNat,[])) ca rfl s;have al:∀ s,kB t.st.toNat u.st.toNat (cI t.nf u.nf (kU t.nf u.nf u.st.toNat [] t.st.toNat,[]) s).1/\(cI t.nf u.nf (kU t.nf u.nf u.st.toNat [] t.st.toNat,[]) s).2.length<=s*1000:=λs=>by have h1:=ad s;rw[(J s).1,(J s).2.length_eq]at h1;exact h1
 have af:∀ a,(mK t.nf u.nf a).length<=1000:=λa=>by rw[K,rL];exact dP (nQ _ _) (h.ml a)
 have z:=KE (t:=t.nf) (u:=u.nf) (L0:=kU t.nf u.nf u.st.toNat [] t.st.toNat) (t.st.toNat*u.st.toNat*3);have I:=S4 (t:=t.nf) (u:=u.nf) (L0:=kU t.nf u.nf u.st.toNat [] t.st.toNat) af (t.st.toNat*u.st.toNat*3);have av:kI t.nf u.nf t.st.toNat u.st.toNat=dG t.nf u.nf (jN t.nf u.nf [] t.st.toNat,[]) (t.st.toNat*u.st.toNat*3):=rfl;obtain⟨q1,q2⟩:=J (t.st.toNat*u.st.toNat*3);obtain⟨r1,r2⟩:=al (t.st.toNat*u.st.toNat*3);generalize hY:cI t.nf u.nf (kU t.nf u.nf u.st.toNat [] t.st.toNat,[]) (t.st.toNat*u.st.toNat*3)=Y at *
 generalize hZ:dG t.nf u.nf (jN t.nf u.nf [] t.st.toNat,[]) (t.st.toNat*u.st.toNat*3)=Z at *
 obtain⟨L,p⟩:=Y;obtain⟨d,Kp⟩:=Z;simp only at q1 q2 r1 r2 z I;subst q1;have h3:=h.h3;have cu:=r1.len;have au:p.length<=100000:=by have:t.st.toNat*u.st.toNat*3*1000<=100*1000:=kD _ h3;omega
 have bt:=al;have bb:=af;clear J ad al af hZ;have wK:∀ x∈p,M.mb (n+n+1) x.w/\x.w.aQ t.ring:=λx k=>by obtain⟨a,r,G,_,_,j⟩:=(z x k).r;rw[K]at G;obtain⟨m,hm,rfl⟩:=cD.1 G;rw[j];have:=Ry (t:=t.nf) (u:=u.nf) (M:=M) (n:=n) (a:=a) o.wat o.wau m (k8.1 hm).1;exact⟨this.2,this.1⟩
 have lK:∀ x∈p,(0<=x.i/\x.i<=t.i)/\0<=x.o/\x.o<=u.o:=λx k=>by obtain⟨a,r,G,hi,ho,_⟩:=(z x k).r;rw[K]at G;obtain⟨m,hm,rfl⟩:=cD.1 G;rw[hi,ho];have i1:=h.tok.i1;have o1:=h.vD.o1;exact Yz (t:=t.nf) (u:=u.nf) (λx k=>⟨(to.aE x k).2.2.2.2.1,(to.aE x k).2.2.2.2.2.1⟩) (λy C=>⟨(uo.aE y C).2.2.2.2.2.2.1,(uo.aE y C).2.2.2.2.2.2.2.1⟩) (by show 0<=t.i;omega) (by show 0<=u.o;omega) m (k8.1 hm).1
 have bx:=Xb (r:=t.ring) h.tok.ring q2 (λx k=>(wK x (q2.mem_iff.1 k)).2);have A:∀ x∈cR t.ring p,x.fit d.length:=λx k=>by
  obtain⟨y,C,e⟩:=N3 x k;have fy:=z y C;unfold aC.key at e;injection e with e1 e;injection e with e2 e;injection e with e3 e;injection e with e4 e
  exact⟨⟨by rw[e1];exact fy.f0,by rw[e1];exact fy.f⟩,by rw[e4];exact fy.t0,by rw[e4];exact fy.tl⟩
 have bu:∀ x∈cR t.ring p,(0<=x.i/\x.i<=t.i)/\0<=x.o/\x.o<=u.o:=λx k=>by
  obtain⟨y,C,e⟩:=N3 x k;have ly:=lK y C;unfold aC.key at e;injection e with e1 e;injection e with e2 e;injection e with e3 e
  rw[e2,e3];exact ly
 have hn:=h.hn;have w2:=ydi M wK I;have ce:=Kw t.ring p;have cs:=JI (r:=t.ring) (l:=p);have ct:=XA t.ring p;have tk:=Pk h.mp Kp (n+n+1) 1000 (by omega) (λq=>by rw[Jk q2];exact I q) (by rw[q2.length_eq];exact au) (λx k=>wK x (q2.mem_iff.1 k));rw[bx]at tk;have we:=λa (F:a∈d)=>Yp (T:=t.nf) (U:=u.nf) (M:=M) h.tok.ring o.it o.iu ft fu o.wit o.wiu ao ap (a:=a) ⟨(r1.b a F).1,(r1.b a F).2.1⟩;have Q:∀ w∈d.map (dL t.nf u.nf),w.aQ t.ring/\M.mb (n+n+1) w:=λw j=>by obtain⟨a,F,rfl⟩:=cD.1 j;exact(we a F).1
 have O:∀ w∈d.map (dO t.nf u.nf),w.aQ t.ring/\M.mb (n+n+1) w:=λw j=>by obtain⟨a,F,rfl⟩:=cD.1 j;exact(we a F).2
 have zs:∀ a∈d,(dL t.nf u.nf a).sm 1048576/\(dO t.nf u.nf a).sm 1048576:=λa F=>
  ⟨(h.mp.rQ (n:=n+n+1) (by omega) (we a F).1.1 (we a F).1.2).mono (by omega),(h.mp.rQ (n:=n+n+1) (by omega) (we a F).2.1 (we a F).2.2).mono (by omega)⟩
 have fo:=P3 (⟨t.ring,t.i,u.o,(d.length:Int),d.map (dL t.nf u.nf),d.map (dO t.nf u.nf),p⟩:GTrans) (M:=M) h.mp (n+n+1) 1000 (by omega) I au (λw j=>(Q w j).2) (λw j=>(O w j).2) (λx k=>(wK x k).1) (by have:=EJ h.tok.ring;show t.ring.parts.length<=_;omega) (by simp only;omega) (by simp) (by simp) (λw j=>(Q w j).1) (λw j=>(O w j).1) (λx k=>(wK x k).2);have lI:(fI t.nf u.nf d).length=d.length:=by simp[fI]
 have lF:(fF t.nf u.nf d).length=d.length:=by simp[fF]
 have br:Cr (⟨t.ring,t.i,u.o,(d.length:Int),d.map (dL t.nf u.nf),d.map (dO t.nf u.nf),cR t.ring p⟩:GTrans)=iD t.nf u.nf d (cR t.ring p):=by
  have e1:kP t.ring (d.map (dL t.nf u.nf))=fI t.nf u.nf d:=by unfold kP fI;rw[yI];rfl
  have e2:kP t.ring (d.map (dO t.nf u.nf))=fF t.nf u.nf d:=by unfold kP fF;rw[yI];rfl
  unfold Cr iD;simp only;rw[e1,e2,GG (S8 A) lI,GG (S7 A) lF]
 have kp:=Wp (⟨t.ring,t.i,u.o,(d.length:Int),d.map (dL t.nf u.nf),d.map (dO t.nf u.nf),cR t.ring p⟩:GTrans) d.length (by omega) rfl (by simp) (by simp) (by show(cR t.ring p).length<=_;omega) A
  (λw j=>(h.mp.rQ (n:=n+n+1) (by omega) (Q w j).1 (Q w j).2).mono (by omega)) (λw j=>(h.mp.rQ (n:=n+n+1) (by omega) (O w j).1 (O w j).2).mono (by omega))
 rw[br]at kp;have ag:(iD t.nf u.nf d (cR t.ring p)).length=d.length:=by simp[iD,eX,iH,lI,lF]
 have aw:M9 (⟨t.ring,t.i,u.o,(d.length:Int),d.map (dL t.nf u.nf),d.map (dO t.nf u.nf),cR t.ring p⟩:GTrans) (iD t.nf u.nf d (cR t.ring p)) d.length=sU t.nf u.nf d (cR t.ring p) (iD t.nf u.nf d (cR t.ring p)):=rfl;rw[aw]at kp;have er:=Sf vt vu;have bo:qO true true t u=0:=by simp[qO,hr,h.TP]
 rw[bo]at er;have rc:=UR er tf uf rfl o cm co ft fu ao ap bt bb hY fo kp;clear er tf uf hY fo kp br z I wK lK q2 aw vt vu bo;have cw:(sU t.nf u.nf d (cR t.ring p) (iD t.nf u.nf d (cR t.ring p))).st=(fV (iD t.nf u.nf d (cR t.ring p)) d.length:Nat):=rfl;have aq:=λV (hV:_->_)=>Uz (V:=V) (e:=0) tn un (by have:=EJ h.tok.ring;show t.ring.parts.length<=_;omega) hr h.TP o ft fu ao ap av r1 (by omega) tk (by omega) A zs rfl hV;generalize hm:iD t.nf u.nf d (cR t.ring p)=m at *
 have wA:∀ x∈mP m (cR t.ring p),(∃ y∈cR t.ring p,wM m y=true/\x=rC m y):=λx k=>by obtain⟨y,C,rfl⟩:=cD.1 k;exact⟨y,(k8.1 C).1,(k8.1 C).2,rfl⟩
 have N:=yau (m:=m) A ct;have D:∀ x∈mP m (cR t.ring p),M.mb (1000+(n+n+1)) x.w/\x.w.aQ t.ring/\x.w≠t.ring.zero:=λx k=>by obtain⟨y,C,_,rfl⟩:=wA x k;exact⟨(w2 y C).1,(w2 y C).2,cs y C⟩
 have M7:(gq m (d.map (dL t.nf u.nf))).length=fV m d.length:=by rw[BE (by simp[ag])];unfold fV;rw[fK (by omega)]
 have cp:(gq m (d.map (dO t.nf u.nf))).length=fV m d.length:=by rw[BE (by simp[ag])];unfold fV;rw[fK (by omega)]
 have cv:=LM m d.length;have S:∀ W,W=sU t.nf u.nf d (cR t.ring p) m->¬ dV W->W.ok/\W.nf=W:=λW B E=>by
  have f1:W.ring=t.ring:=by rw[B];rfl
  have f2:W.i=t.i:=by rw[B];rfl
  have f3:W.o=u.o:=by rw[B];rfl
  have f4:W.st=(fV m d.length:Nat):=by rw[B];rfl
  have f5:W.aU=gq m (d.map (dL t.nf u.nf)):=by rw[B];rfl
  have f6:W.fin=gq m (d.map (dO t.nf u.nf)):=by rw[B];rfl
  have f7:W.aE=mP m (cR t.ring p):=by rw[B];rfl
  simp only[dV,not_or]at E;have cf:cR W.ring W.aE=W.aE:=by rw[f1,f7];exact JH N λx k=>(D x k).2.2
  refine⟨⟨by rw[f1];exact h.tok.ring,by rw[f2];exact h.tok.i1,by rw[f3];exact h.vD.o1,by rw[f4];omega,by omega,by rw[f4,f5,M7],by rw[f4,f6,cp],by omega,λx k=>?_,λw j=>?_,λw j=>?_⟩,?_⟩
  .rw[f7]at k;have j:=(D x k).2.1;obtain⟨y,C,hp,rfl⟩:=wA x k;obtain⟨k1,k2,k3,k4⟩:=Wt ag (A y C) hp;obtain⟨⟨l1,l2⟩,l3,l4⟩:=bu y C;have k5:(rC m y).i=y.i:=rfl;have k6:(rC m y).o=y.o:=rfl;unfold inT;rw[f1,f2,f3,f4,k1,k2,k5,k6];exact⟨by omega,by omega,by omega,by omega,l1,l2,l3,l4,j⟩
  .rw[f1];rw[f5]at j;exact(Q w (xe j)).1
  .rw[f1];rw[f6]at j;exact(O w (xe j)).1
  .unfold GTrans.nf;rw[cf]
 have bk:∀ W,W=sU t.nf u.nf d (cR t.ring p) m->¬ dV W->pH M (n+n+1) W/\W.i=t.i/\W.o=u.o:=λW B E=>by
  obtain⟨c1,c2⟩:=S W B E;have f1:W.ring=t.ring:=by rw[B];rfl
  have f5:W.aU=gq m (d.map (dL t.nf u.nf)):=by rw[B];rfl
  have f6:W.fin=gq m (d.map (dO t.nf u.nf)):=by rw[B];rfl
  have f7:W.aE=mP m (cR t.ring p):=by rw[B];rfl
  exact⟨⟨c1,f1,by rw[f7];exact JH N λx k=>(D x k).2.2,λw j=>by rw[f5]at j;exact(Q w (xe j)).2,λw j=>by rw[f6]at j;exact(O w (xe j)).2,λx k=>by rw[f7]at k;exact(D x k).1,by rw[f7];exact N⟩,by rw[B];rfl,by rw[B];rfl⟩
 have vn:¬ dV (sU t.nf u.nf d (cR t.ring p) m)->zS 24 [enc (sU t.nf u.nf d (cR t.ring p) m)] (.bP [enc (sU t.nf u.nf d (cR t.ring p) m),.int .i64 0]):=λE=>by
  obtain⟨c1,c2⟩:=S _ rfl E
  have:=Qq (sU t.nf u.nf d (cR t.ring p) m) (M:=M) h.mp (1000+(n+n+1)) 1 (by omega) (λq=>Zt N q) (λw j=>M.mono (Q w (xe j)).2 (by omega)) (λw j=>M.mono (O w (xe j)).2 (by omega)) (λx k=>(D x k).1)
   ⟨λw j=>(h.mp.rQ (n:=n+n+1) (by omega) (Q w (xe j)).1 (Q w (xe j)).2).mono (by omega),λw j=>(h.mp.rQ (n:=n+n+1) (by omega) (O w (xe j)).1 (O w (xe j)).2).mono (by omega),λx k=>(h.mp.rQ (n:=1000+(n+n+1)) (by omega) (D x k).2.1 (D x k).1).mono (by omega)⟩
   (by show(gq m _).length<=_;omega) (by show(gq m _).length<=_;omega)
  rw[aW c1,aW c1,c2]at this;exact this
 have g:=aq _ vn;generalize B:sU t.nf u.nf d (cR t.ring p) m=W at *
 by_cases E:dV W
 .rw[aW E,aW E]at g rc;exact⟨iO,2,g,rc,.inr ⟨E,rfl,rfl⟩⟩
 .rw[aY E,aY E]at g rc;obtain⟨a1,a2,a3⟩:=bk W rfl E;exact⟨W,0,g,rc,.inl ⟨E,rfl,rfl,a1,a2,a3⟩⟩
end Go.Ab
namespace Go.Ab
def eY(n:Nat):GW:=.mk (cH (n:Rat)) 0 false 0 [] []
theorem TN:tJ=eY 1:=rfl
def Fb(a b:Nat):kV.times (eY a) (eY b)=eY (a*b):=by have:kV.times (eY a) (eY b)=gK 1 (eY a) (eY b):=rfl;rw[this];simp only[gK,true_or,cB,eY,GW.qI,iN,Rat.natCast_mul]
theorem yx:kV.zero=eY 0:=by
 have:kV.zero=.mk dI 0 false 0 [] []:=by simp[aB.zero,kV,aB.ok]
 rw[this,eY,show((0:Nat):Rat)=0 from rfl,xh];rfl
def ZJ{a b:Nat}(h:eY a=eY b):a=b:=by simp only[eY,GW.mk.injEq]at h;have:=ydz h.1;exact Rat.natCast_inj.1 this
def sZ:eY 1≠eY 0:=λh=>by have:=ZJ h;omega
def iw:GTrans:=⟨kV,1,1,2,[tJ,kV.zero],[kV.zero,tJ],[⟨0,1,0,1,tJ⟩]⟩
def iL:GTrans:=⟨kV,1,1,2,[tJ,kV.zero],[kV.zero,tJ],[⟨0,0,1,1,tJ⟩]⟩
def RJ(x:aC)(h:x.w≠kV.zero):cR kV [x]=[x]:=JH (List.pairwise_singleton _ _) (by simpa using h)
def Bv:iw.nf=⟨kV,1,1,2,[eY 1,eY 0],[eY 0,eY 1],[⟨0,1,0,1,eY 1⟩]⟩:=by have:cR kV iw.aE=[⟨0,1,0,1,eY 1⟩]:=RJ _ (by rw[yx];exact sZ);unfold GTrans.nf;rw[show iw.ring=kV from rfl,this];simp[iw,TN,yx]
def Bw:iL.nf=⟨kV,1,1,2,[eY 1,eY 0],[eY 0,eY 1],[⟨0,0,1,1,eY 1⟩]⟩:=by have:cR kV iL.aE=[⟨0,0,1,1,eY 1⟩]:=RJ _ (by rw[yx];exact sZ);unfold GTrans.nf;rw[show iL.ring=kV from rfl,this];simp[iL,TN,yx]
def exL:kU iw.nf iL.nf 2 [] 2=[⟨0,0,0⟩]:=by rw[Bv,Bw];simp[kU,qH,Ad,vZ,Fb,yx,sZ]
def Nd:mK iw.nf iL.nf ⟨0,0,0⟩=[⟨⟨1,0,⟨1,0,1⟩,eY 1⟩⟩,⟨⟨1,1,⟨1,1,0⟩,eY 1⟩⟩,⟨⟨0,1,⟨0,1,2⟩,eY 1⟩⟩]:=by rw[Bv,Bw];simp[mK,pT,Ac,rT,rS,uO,Fb,yx,sZ]
def Nc:mK iw.nf iL.nf ⟨0,1,2⟩=[]:=by rw[Bv,Bw];simp[mK,pT,Ac,rT,rS,uO,Fb,yx,sZ]
def Nb:mK iw.nf iL.nf ⟨1,0,1⟩=[]:=by rw[Bv,Bw];simp[mK,pT,rS]
def Na:mK iw.nf iL.nf ⟨1,1,0⟩=[]:=by rw[Bv,Bw];simp[mK,pT,rS]
def Nf:rY [⟨0,0,0⟩] [⟨⟨1,0,⟨1,0,1⟩,eY 1⟩⟩,⟨⟨1,1,⟨1,1,0⟩,eY 1⟩⟩,⟨⟨0,1,⟨0,1,2⟩,eY 1⟩⟩]=[⟨0,1,2⟩,⟨1,0,1⟩,⟨1,1,0⟩]:=by
 have a:¬ ([1,1,0]:List Int)<[1,0,1]:=by decide
 have b:([0,1,2]:List Int)<[1,0,1]:=by decide
 simp[rY,wH,eo,aI.key,a,b]
theorem Cu(L:List aI):rY L []=[]:=rfl
def Ct:cI iw.nf iL.nf ([⟨0,0,0⟩],[]) 1=([⟨0,0,0⟩,⟨0,1,2⟩,⟨1,0,1⟩,⟨1,1,0⟩],[⟨0,1,0,2,eY 1⟩,⟨0,1,1,3,eY 1⟩,⟨0,0,1,1,eY 1⟩]):=by simp[cI,uD,Nd,Nf,nZ,gO]
def Ga:cI iw.nf iL.nf ([⟨0,0,0⟩],[]) 4=([⟨0,0,0⟩,⟨0,1,2⟩,⟨1,0,1⟩,⟨1,1,0⟩],[⟨0,1,0,2,eY 1⟩,⟨0,1,1,3,eY 1⟩,⟨0,0,1,1,eY 1⟩]):=by
 have s:∀ k,cI iw.nf iL.nf ([⟨0,0,0⟩],[]) (k+1)=if k<(cI iw.nf iL.nf ([⟨0,0,0⟩],[]) k).1.length then uD iw.nf iL.nf k (cI iw.nf iL.nf ([⟨0,0,0⟩],[]) k)else cI iw.nf iL.nf ([⟨0,0,0⟩],[]) k:=λk=>rfl
 have a:cI iw.nf iL.nf ([⟨0,0,0⟩],[]) 2=cI iw.nf iL.nf ([⟨0,0,0⟩],[]) 1:=by rw[s 1,Ct];simp[uD,Nc,Cu]
 have b:cI iw.nf iL.nf ([⟨0,0,0⟩],[]) 3=cI iw.nf iL.nf ([⟨0,0,0⟩],[]) 1:=by rw[s 2,a,Ct];simp[uD,Nb,Cu]
 rw[s 3,b,Ct];simp[uD,Na,Cu]
def exY:uS iw iL=([⟨0,0,0⟩,⟨0,1,2⟩,⟨1,0,1⟩,⟨1,1,0⟩],[⟨0,1,0,2,eY 1⟩,⟨0,1,1,3,eY 1⟩,⟨0,0,1,1,eY 1⟩]):=by unfold uS;rw[show iw.st.toNat=2 from rfl,show iL.st.toNat=2 from rfl,exL];exact(K3 (s:=4) (by rw[Ga];simp) 8).trans Ga
def exK:cR kV [⟨0,1,0,2,eY 1⟩,⟨0,1,1,3,eY 1⟩,⟨0,0,1,1,eY 1⟩]=[⟨0,0,1,1,eY 1⟩,⟨0,1,0,2,eY 1⟩,⟨0,1,1,3,eY 1⟩]:=by
 have a:¬ ([0,1,1,3]:List Int)<[0,1,0,2]:=by decide
 have b:([0,0,1,1]:List Int)<[0,1,0,2]:=by decide
 have:b6 aC.key [⟨0,1,0,2,eY 1⟩,⟨0,1,1,3,eY 1⟩,⟨0,0,1,1,eY 1⟩]=[⟨0,0,1,1,eY 1⟩,⟨0,1,0,2,eY 1⟩,⟨0,1,1,3,eY 1⟩]:=by simp[b6,eo,aC.key,a,b]
 unfold cR;rw[this,Tb]
 .simp[yx,sZ]
 .simp[eI,aC.key];decide
def tD:List aC:=[⟨0,0,1,1,eY 1⟩,⟨0,1,0,2,eY 1⟩,⟨0,1,1,3,eY 1⟩]
def pw:List aI:=[⟨0,0,0⟩,⟨0,1,2⟩,⟨1,0,1⟩,⟨1,1,0⟩]
def exI:fI iw.nf iL.nf pw=[true,false,false,false]:=by rw[Bv,Bw];simp[fI,pw,dL,Fb,yx,sZ]
def exF:fF iw.nf iL.nf pw=[false,false,false,true]:=by rw[Bv,Bw];simp[fF,pw,dO,Fb,yx,sZ]
def exM:iD iw.nf iL.nf pw tD=[true,false,false,true]:=by
 have a:∀ x∈tD,x.fit 4:=by intro x b;simp only[tD,bY,mN,or_false]at b;obtain rfl|rfl|rfl:=b<;>(unfold aC.fit;decide)
 unfold iD;rw[exI,exF,<- GG (S8 (n:=pw.length) a) (by rfl),<- GG (S7 (n:=pw.length) a) (by rfl)];simp[tD,nJ,rm,iF,lL,qF,eX]
def TY:pA iw iL=sU iw.nf iL.nf pw tD [true,false,false,true]:=by unfold pA;rw[exY,show iw.ring=kV from rfl,exK];show sU iw.nf iL.nf pw tD (iD iw.nf iL.nf pw tD)=_;rw[exM]
def TD:(pA iw iL).st=2:=by rw[TY];simp[sU,pw,fV]
def Sh:(pA iw iL).aE=[⟨0,1,1,1,eY 1⟩]:=by rw[TY];simp[sU,tD,mP,wM,rC,cU,fV,vZ]
end Go.Ab
namespace Go.Ab
open Enc (enc)
attribute [local simp] fX bL.aR
def XD(t u:GTrans)(a:aI):(tM t u a).length<=t.aE.length*(1+u.aE.length)+u.aE.length:=by
 have b:(ma t a.p).length<=t.aE.length:=nQ _ _;have d:(ma u a.q).length<=u.aE.length:=nQ _ _;unfold tM;rw[gL];have h:=vr (l:=ma t a.p) (f:=qM t.ring u a) (B:=1+u.aE.length) λx _=>by unfold qM;have k:=Gy a x;have m:=vr (l:=ma u a.q) (f:=pU t.ring a x) (B:=1) λy _=>Jq _ _ _ _;rw[gL];omega
 have i:=vr (l:=ma u a.q) (f:=rz a) (B:=1) λy _=>Rz _ _;have j:(ma t a.p).length*(1+u.aE.length)<=t.aE.length*(1+u.aE.length):=kD _ b;omega
def Ns{t u:GTrans}(b:t.ok)(h:∀ w∈t.jS++u.jS,w.li)(j:(t.jS++u.jS).length<=44):∃ M:c4 t.ring,M.lim=5000/\dM M/\∀ w∈t.jS++u.jS,w.aQ t.ring->M.mb 100 w:=by have f:=Zv h j;have d:∀ s,s=6161->LB (x9 (t.jS++u.jS)) (HH (x9 (t.jS++u.jS))) s:=λs e=>X2 (yas _) (ltW f (by omega)) (by omega);have L:=d 6161 rfl;exact⟨TO L t.ring b.ring 5000 (by decide) (by decide),rfl,X8 L t.ring b.ring 5000 (by decide) (by decide),λw a i=>X6 L i (h w a) (yat a)⟩
structure GTrans.lc (t:GTrans):Prop where
 sm:t.sm 90
 li:∀ w∈t.jS,w.li
 i5:t.aU.length<=5
 f5:t.fin.length<=5
 al:t.aE.length<=12
 pl:t.ring.parts.length<=6
def Yx{t:GTrans}(h:t.lt):(∀ w∈t.jS,w.li)/\t.jS.length<=22:=by
 refine⟨λw a=>?_,?_⟩
 .simp only[GTrans.jS,dT,cD]at a;obtain a|a|⟨x,b,rfl⟩:=a
  .exact(h.aU.2 w a).li
  .exact(h.fin.2 w a).li
  .exact(h.aE x b).li
 .have:=h.aU.1;have:=h.fin.1;have:=h.al
  simp[GTrans.jS];omega
def GTrans.lt.lc{t:GTrans}(h:t.lt):t.lc:=⟨h.sm.mono (by omega),(Yx h).1,h.aU.1,h.fin.1,h.al,h.ring⟩
def GTrans.lc.wl{t:GTrans}(h:t.lc):t.jS.length<=22:=by
 have:=h.i5;have:=h.f5;have:=h.al
 simp[GTrans.jS];omega
def SL{t u:GTrans}(lt:t.lc)(m:u.lc)(tok:t.ok)(d:u.ok)(j:t.ring=u.ring)(C:t.o=u.i):∃ M:c4 t.ring,M.lim=5000/\pI t u M 112:=by
 have w1:=lt.li;have w2:=m.li;have V:=lt.wl;have W:=m.wl;obtain⟨M,B,L,f⟩:=Ns (t:=t) (u:=u) tok (λw f=>(dT.1 f).elim (w1 w) (w2 w)) (by rw[gL];omega);have Q:=tok.il;have R:=d.il;have X:=lt.i5;have Y:=m.i5;have N:=lt.al;have O:=m.al;have S:=Kw t.ring t.aE;have U:=Kw u.ring u.aE;have p:t.nf.aE.length<=12:=by show(cR t.ring t.aE).length<=12;omega
 have D:u.nf.aE.length<=12:=by show(cR u.ring u.aE).length<=12;omega
 have y:∀ x∈t.aE,x.w.aQ t.ring:=λx b=>(tok.aE x b).2.2.2.2.2.2.2.2;have cb:∀ x∈u.aE,x.w.aQ t.ring:=λx b=>by rw[j];exact(d.aE x b).2.2.2.2.2.2.2.2
 have z:∀ w∈t.jS,w.aQ t.ring->M.mb 112 w:=λw h c=>M.mono (f w (BZ _ h) c) (by omega);have A:∀ w∈u.jS,w.aQ t.ring->M.mb 112 w:=λw h c=>M.mono (f w (List.mem_append_right _ h) c) (by omega);have E:∀ w∈t.aU,w∈t.jS:=λw h=>by simp[GTrans.jS,h]
 have F:∀ w∈t.fin,w∈t.jS:=λw h=>by simp[GTrans.jS,h]
 have G:∀ x∈t.aE,x.w∈t.jS:=λx h=>by simp only[GTrans.jS,dT,cD];exact .inr (.inr ⟨x,h,rfl⟩)
 have I:∀ w∈u.aU,w∈u.jS:=λw h=>by simp[GTrans.jS,h]
 have J:∀ w∈u.fin,w∈u.jS:=λw h=>by simp[GTrans.jS,h]
 have K:∀ x∈u.aE,x.w∈u.jS:=λx h=>by simp only[GTrans.jS,dT,cD];exact .inr (.inr ⟨x,h,rfl⟩)
 have r:=Tv M (n:=100) (l:=t.aE) λx b=>⟨f _ (BZ _ (G x b)) (y x b),y x b⟩;have s:=Tv M (n:=100) (l:=u.aE) λx b=>⟨f _ (List.mem_append_right _ (K x b)) (cb x b),cb x b⟩;refine⟨M,B,⟨tok,d,j,C,L,by omega,λw h=>z w (E w h) (tok.aU w h),λw h=>z w (F w h) (tok.fin w h),λx b=>M.mono (r x b) (by omega),λw h=>A w (I w h) (by rw[j];exact d.aU w h),λw h=>A w (J w h) (by rw[j];exact d.fin w h),λx b=>M.mono (s x (by rw[j];exact b)) (by omega),by omega,by omega,?_,by omega,by omega,λa=>?_⟩⟩
 .have:=mS (show t.st.toNat<=5 by omega) (show u.st.toNat<=5 by omega);omega
 .have:=XD t.nf u.nf a;have k:=mS (show t.nf.aE.length<=12 from p) (show 1+u.nf.aE.length<=13 by omega);omega
end Go.Ab
namespace Go.Ab
open Enc (enc)
attribute [local simp] fX bL.aR
structure y5 (t:GTrans):Prop where
 n:zS 24 [enc t] (.bP [enc (if t.ok then t.nf else iO),.int .i64 (if t.ok then 0 else 4)])
 v:zS 52 [enc t] (.bool (decide t.ok))
 f:t.ok->zS 30 [enc t] (enc t.nf)
def XE(t:GTrans)(h:t.sm 1048576)(b:t.aU.length<=1000000)(a:t.fin.length<=1000000)(d:¬ t.ok):zS 24 [enc t] (.bP [enc iO,.int .i64 4]):=by refine Sp.vz c.ai λ_=>?_;simp[g.ai];refine bA (Pe t h b a) ?_;rw[decide_eq_false d];simp[iO]
def y5.of{t:GTrans}(lt:t.lc):y5 t:=by
 have sm:=lt.sm.mono (show 90<=1048576 by omega);have l1:=lt.al;have l:=lt.i5;have m:=lt.f5;have n:=lt.pl;have v:=XT t sm (by omega) (by omega);by_cases ok:t.ok
 .have o:=lt.wl;obtain⟨M,k,mp,b⟩:=Ns (t:=t) (u:=t) ok (λw b=>(dT.1 b).elim (lt.li w) (lt.li w)) (by rw[gL];omega);have a:∀ q,kc aC.key t.aE q<=12:=λq=>dP List.countP_le_length l1;have i:∀ w∈t.aU,M.mb 100 w:=λw h=>b w (by simp[GTrans.jS,h]) (ok.aU w h);have f:∀ w∈t.fin,M.mb 100 w:=λw h=>b w (by simp[GTrans.jS,h]) (ok.fin w h);have d:∀ x∈t.aE,M.mb 100 x.w:=λx h=>b x.w (by simp only[GTrans.jS,dT,cD];exact .inl (.inr (.inr ⟨x,h,rfl⟩))) (ok.aE x h).2.2.2.2.2.2.2.2;exact⟨Qq t mp 100 12 (by omega) a i f d sm (by omega) (by omega),v,λ_=>P3 t mp 100 12 (by omega) a (by omega) i f d (by omega) (by have:=ok.st2;omega) ok.il ok.fl ok.aU ok.fin λx j=>(ok.aE x j).2.2.2.2.2.2.2.2⟩
 .exact⟨by rw[aY ok,aY ok];exact XE t sm (by omega) (by omega) ok,v,λh=>absurd h ok⟩
def QK:zS 11 [enc iO,enc iO] (.bool true):=by
 have h:=OY iO iO ⟨λw a=>(by cases a),λw a=>(by cases a),λx b=>(by cases b)⟩ (by simp[iO]) (by simp[iO]) (by simp[iO])
 rwa[decide_eq_true rfl]at h
def pH.sm{r:aB}{M:c4 r}{n:Nat}{R:GTrans}(h:pH M n R)(b:dM M)(hn:1000+n<=M.lim):R.sm 1048576 :=
 ⟨λw a=>(b.rQ (n:=n) (by omega) (by have:=h.ok.aU w a;rwa[h.ring]at this) (h.aU w a)).mono (by omega),λw a=>(b.rQ (n:=n) (by omega) (by have:=h.ok.fin w a;rwa[h.ring]at this) (h.fin w a)).mono (by omega),
  λx d=>(b.rQ (n:=1000+n) hn (by have:=(h.ok.aE x d).2.2.2.2.2.2.2.2;rwa[h.ring]at this) (h.aE x d)).mono (by omega)⟩
def pH.same{r:aB}{M:c4 r}{n:Nat}{R:GTrans}(h:pH M n R)(a:dM M)(hn:1000+n<=M.lim):zS 11 [enc R,enc R] (.bool true):=by
 have k:=OY R R (h.sm a hn) (by have:=h.ok.il;have:=h.ok.st2;omega) (by have:=h.ok.fl;have:=h.ok.st2;omega) (by have:=h.ok.al;omega)
 rwa[decide_eq_true rfl]at k
def Pw{t u:GTrans}(a:y5 t)(b:y5 u){M:c4 t.ring}{n:Nat}(h:pI t u M n) :
  ∃ (R:GTrans) (e:Int),zS 9 [enc t,enc u] (.bP [enc R,.int .i64 e])/\zS 10 [enc t,enc u] (.bP [enc R,.int .i64 e])/\((¬ dV (pA t u)/\R=pA t u/\e=0/\pH M (n+n+1) R/\R.i=t.i/\R.o=u.o)\/(dV (pA t u)/\e=2/\R=iO)):=by
 have d:=a.n;have j:=b.n;rw[aW h.tok,aW h.tok]at d;rw[aW h.vD,aW h.vD]at j;have k:=a.v;have l:=b.v;rw[decide_eq_true h.tok]at k;rw[decide_eq_true h.vD]at l;exact Uy h d j (a.f h.tok) (b.f h.vD) k l
def Xp{t u:GTrans}(j:y5 t)(l:y5 u)(h:¬ (t.ok/\u.ok/\t.ring=u.ring/\t.o=u.i)) :
  ∃ (e:Int),e≠0/\zS 9 [enc t,enc u] (.bP [enc iO,.int .i64 e])/\zS 10 [enc t,enc u] (.bP [enc iO,.int .i64 e]):=by
 have b:=Sf j.v l.v;by_cases m:t.ok/\u.ok
 .obtain⟨tok,a⟩:=m;have r:=j.n;have s:=l.n;rw[aW tok,aW tok]at r;rw[aW a,aW a]at s;have x:t.nf.ring.parts.length<=1000000:=by have:=EJ tok.ring;show t.ring.parts.length<=_;omega
  rw[decide_eq_true tok,decide_eq_true a]at b;by_cases d:t.ring=u.ring
  .have f:t.o≠u.i:=λf=>h ⟨tok,a,d,f⟩;have:qO true true t u=9:=by simp[qO,d,f]
   rw[this]at b;exact⟨9,by omega,Ux r s x d f,LF b (by omega)⟩
  .have:qO true true t u=6:=by simp[qO,d]
   rw[this]at b;exact⟨6,by omega,Uw r s x d,LF b (by omega)⟩
 .have y:qO (decide t.ok) (decide u.ok) t u=4:=by
   unfold qO;rw[aW];by_cases k:t.ok
   .right;simp;exact λp=>m ⟨k,p⟩
   .left;simp[k]
  rw[y]at b;refine⟨4,by omega,Uv j.n l.n ?_,LF b (by omega)⟩;by_cases k:t.ok
  .right;rw[aY λp=>m ⟨k,p⟩];omega
  .left;rw[aY k];omega
def Pv{t u:GTrans}(lt:t.lc)(m:u.lc) :
  ∃ (R:GTrans) (e:Int),zS 9 [enc t,enc u] (.bP [enc R,.int .i64 e])/\zS 10 [enc t,enc u] (.bP [enc R,.int .i64 e])/\zS 11 [enc R,enc R] (.bool true):=by
 have f:=y5.of lt;have j:=y5.of m;by_cases h:t.ok/\u.ok/\t.ring=u.ring/\t.o=u.i
 .obtain⟨tok,d,p,n⟩:=h;obtain⟨M,s,l⟩:=SL lt m tok d p n;obtain⟨R,e,a,b,r⟩:=Pw f j l;refine⟨R,e,a,b,?_⟩;obtain⟨_,_,_,k,_⟩|⟨_,_,rfl⟩:=r
  .exact k.same l.mp (by omega)
  .exact QK
 .obtain⟨e,_,a,b⟩:=Xp f j h;exact⟨iO,e,a,b,QK⟩
def X3:iw.ok:=by
 refine⟨rfl,by decide,by decide,by decide,by decide,rfl,rfl,by decide,?_,?_,?_⟩
 .intro x b;simp only[iw,bY,mN,or_false]at b;subst b;exact⟨by decide,by decide,by decide,by decide,by decide,by decide,by decide,by decide,CP⟩
 .intro w a;simp only[iw,bY,mN,or_false]at a;obtain rfl|rfl:=a
  .exact CP
  .exact xj rfl
 .intro w a;simp only[iw,bY,mN,or_false]at a;obtain rfl|rfl:=a
  .exact xj rfl
  .exact CP
def X4:iL.ok:=by
 refine⟨rfl,by decide,by decide,by decide,by decide,rfl,rfl,by decide,?_,?_,?_⟩
 .intro x b;simp only[iL,bY,mN,or_false]at b;subst b;exact⟨by decide,by decide,by decide,by decide,by decide,by decide,by decide,by decide,CP⟩
 .intro w a;simp only[iL,bY,mN,or_false]at a;obtain rfl|rfl:=a
  .exact CP
  .exact xj rfl
 .intro w a;simp only[iL,bY,mN,or_false]at a;obtain rfl|rfl:=a
  .exact xj rfl
  .exact CP
end Go.Ab
namespace Go.Ab
open Enc (enc)
attribute [local simp] fX bL.aR
def CG:tJ.lt:=.mk ⟨dP EC.1 (by omega),dP EC.2 (by omega)⟩ (by simp) (by simp) (RT 2) (by simp)
def IA:kV.zero.lt:=by
 have:kV.zero=.mk dI 0 false 0 [] []:=by simp[aB.zero,kV,aB.ok]
 rw[this];exact .mk (CL 3) (by simp) (by simp) (RT 2) (by simp)
def SS:iw.lt:=by
 refine⟨by decide,⟨by decide,λw a=>?_⟩,⟨by decide,λw a=>?_⟩,by decide,λx b=>?_⟩
 .simp only[iw,bY,mN,or_false]at a;obtain rfl|rfl:=a
  .exact CG
  .exact IA
 .simp only[iw,bY,mN,or_false]at a;obtain rfl|rfl:=a
  .exact IA
  .exact CG
 .simp only[iw,bY,mN,or_false]at b;subst b;exact CG
def SU:iL.lt:=by
 refine⟨by decide,⟨by decide,λw a=>?_⟩,⟨by decide,λw a=>?_⟩,by decide,λx b=>?_⟩
 .simp only[iL,bY,mN,or_false]at a;obtain rfl|rfl:=a
  .exact CG
  .exact IA
 .simp only[iL,bY,mN,or_false]at a;obtain rfl|rfl:=a
  .exact IA
  .exact CG
 .simp only[iL,bY,mN,or_false]at b;subst b;exact CG
def Xz:∃ R:GTrans,zS 9 [enc iw,enc iL] (.bP [enc R,.int .i64 0])/\R.st=2/\R.aE=[⟨0,1,1,1,eY 1⟩]:=by
 obtain⟨M,h,b⟩:=SL SS.lc SU.lc X3 X4 rfl rfl;obtain⟨R,e,d,i,f⟩:=Pw (y5.of SS.lc) (y5.of SU.lc) b;obtain⟨_,rfl,rfl,_⟩|⟨a,_⟩:=f
 .exact⟨_,d,TD,Sh⟩
 .exfalso;unfold dV at a;rw[TD,Sh]at a;simp at a
def Hy:zS 8 [] (.bool true):=by
 obtain⟨R,a,i,j⟩:=Xz;have d:=RF kV;rw[ZM]at d;have k:=BI kV;refine Sp.vz c.gv λ_=>?_;simp[g.gv];refine bF d (by simp[kV]) ?_;simp;refine bF k (by simp[kV]) ?_;generalize b:kV.zero=z at *
 simp;have f:enc iw=.agg [.int .i64 1,.sl [],.int .i64 1,.int .i64 1,.int .i64 2,.sl [enc tJ,enc z],.sl [enc z,enc tJ],.sl [enc (⟨0,1,0,1,tJ⟩:aC)]]:=by rw[<- b];rfl
 have h:enc iL=.agg [.int .i64 1,.sl [],.int .i64 1,.int .i64 1,.int .i64 2,.sl [enc tJ,enc z],.sl [enc z,enc tJ],.sl [enc (⟨0,0,1,1,tJ⟩:aC)]]:=by rw[<- b];rfl
 rw[f,h]at a;refine bA a ?_;simp[aJ,i,j]
def composeBuilds_sp(t u:GTrans):Sp P 3 [enc t,enc u] (.pure (.bool true)):=by
 refine Sp.vz c.ow λb=>?_;simp[g.ow];refine bA (QY t) ?_;by_cases lt:t.lt;rotate_left
 .rw[decide_eq_false lt];simp;refine bA Hy ?_;simp
 rw[decide_eq_true lt];simp;refine bA (QY u) ?_;by_cases a:u.lt;rotate_left
 .rw[decide_eq_false a];simp;refine bA Hy ?_;simp
 rw[decide_eq_true a];simp;obtain⟨R,e,d,f,h⟩:=Pv lt.lc a.lc;refine bA d ?_;simp;refine bA f ?_;simp;refine bA Hy ?_;simp;refine bA h ?_;simp
end Go.Ab
namespace Go.Ab
open Enc (enc)
attribute [local simp] fX bL.aR
def GTrans.FR.lc{t:GTrans}(h:t.FR):t.lc:=by
 have:=h.ok.il;have:=h.ok.fl;have:=h.st;have:=EJ h.ok.ring
 refine⟨h.sm.mono (by omega),λw a=>?_,by omega,by omega,by have:=h.al;omega,by omega⟩;simp only[GTrans.jS,dT,cD]at a;obtain a|a|⟨x,b,rfl⟩:=a
 .exact(h.aU w a).sm.li
 .exact(h.fin w a).sm.li
 .exact(h.aE x b).sm.li
def composeMade_sp(k:Int)(m n:GModel):Sp P 4 [.int .i64 k,enc m,enc n] (.pure (.bool true)):=by
 have d:=Qf m (wX k) 2 2 3 (GQ k) (by omega) (by omega) (by omega);have a:=N6 m (wX k) 2 2 3 (GQ k) (by omega) (by omega) (by omega);have f:=Qf n (wX k) 2 2 3 (GQ k) (by omega) (by omega) (by omega);have b:=N6 n (wX k) 2 2 3 (GQ k) (by omega) (by omega) (by omega);generalize AD m (wX k) 2 2 3=t at *
 generalize AD n (wX k) 2 2 3=u at *
 obtain⟨R,e,h,i,j⟩:=Pv d.lc f.lc;refine Sp.vz c.ox λ_=>?_;simp[g.ox];refine bA (yd7 k) ?_;simp;refine bA a ?_;simp;refine bA b ?_;simp;refine bA h ?_;simp;refine bA i ?_;simp;refine bA Hy ?_;simp;refine bA j ?_;simp
end Go.Ab
set_option linter.all false
namespace Go.Ab
open Enc (enc)
section
variable {H:Type} {en:TypeId × Value->H} {w:World}
def jT(n:Nat):pV en P w n T.int (gF Int):=YS ty.int
def rdBool(n:Nat):pV en P w n T.bool (gF Bool):=Z6 ty.bool
def rU(n:Nat):pV en P w n T.ints (gF (List Int)):=C9 (λ_=>rfl) (λ_=>rfl) ty.ints ty.cell λk _=>jT k
def RX(n:Nat):pV en P w n T.rB (gF (List UInt32)):=C9 (λ_=>rfl) (λ_=>rfl) ty.rB ty.Ni λk _=>YT ty.u32
def S3(n:Nat):pV en P w n T.rat (gF aS):=BR (Ds:=[gF Bool,gF (List UInt32),gF (List UInt32)]) ty.rat rfl (λm _=>⟨rdBool m,RX m,RX m,trivial⟩) λo h=>by obtain⟨_,j,rfl,⟨a,rfl⟩,d⟩:=h.cons;obtain⟨_,k,rfl,⟨b,rfl⟩,f⟩:=d.cons;obtain⟨_,l,rfl,⟨c,rfl⟩,i⟩:=f.cons;obtain rfl:=i.nil;exact⟨⟨a,b,c⟩,by simp[PV.cells]⟩
def YO(n:Nat):pV en P w n T.mono (gF aF):=BR (Ds:=[(λl=>∃ a b c:Int,l=[.int .i64 a,.int .i64 b,.int .i64 c]),gF aS]) ty.mono rfl (λm _=>⟨WU ty.key ty.int ty.cell ty.cells,S3 m,trivial⟩) λk h=>by obtain⟨_,i,rfl,⟨a,b,c,rfl⟩,d⟩:=h.cons;obtain⟨_,j,rfl,⟨q,rfl⟩,f⟩:=d.cons;obtain rfl:=f.nil;exact⟨⟨⟨a,b,c⟩,q⟩,by simp[PV.cells]⟩
def z60(x:aF):(enc x).cells.all PV.one=true:=by simp[PV.cells]
def Ta(x:GW):(enc x).cells.all PV.one=true:=by simp[PV.cells]
def Wm(x:aC):(enc x).cells.all PV.one=true:=by simp[PV.cells]
def gtrans_one(x:GTrans):(enc x).cells.all PV.one=true:=by simp[PV.cells]
def YP(n:Nat):pV en P w n T.aP (gF (List aF)):=C9 z60 (λ_=>rfl) ty.aP ty.Ge λk _=>YO k
theorem Oe(n:Nat):pV en P w n T.weight (gF GW):=by
 induction n using Nat.strongRecOn with
 | ind n s =>
  refine BR (Ds:=[gF aS,gF Int,gF Bool,gF UInt64,gF (List aF),gF (List GW)]) ty.weight rfl (λm D=>⟨S3 m,jT m,rdBool m,YU ty.u64,YP m,C9 Ta (λx=>by simp[PV.cells]) ty.weights ty.vM λk C=>s k (by omega),trivial⟩) λE h=>?_;obtain⟨_,t,rfl,⟨a,rfl⟩,i⟩:=h.cons;obtain⟨_,u,rfl,⟨b,rfl⟩,j⟩:=i.cons;obtain⟨_,y,rfl,⟨c,rfl⟩,l⟩:=j.cons;obtain⟨_,z,rfl,⟨d,rfl⟩,o⟩:=l.cons;obtain⟨_,A,rfl,⟨e,rfl⟩,p⟩:=o.cons;obtain⟨_,B,rfl,⟨f,rfl⟩,r⟩:=p.cons;obtain rfl:=r.nil;exact⟨.mk a b c d e f,by simp[PV.cells]⟩
def OV(n:Nat):pV en P w n T.weights (gF (List GW)):=C9 Ta (λx=>by simp[PV.cells]) ty.weights ty.vM λk _=>Oe k
def YQ(n:Nat):pV en P w n T.ring (gF aB):=BR (Ds:=[gF Int,gF (List Int)]) ty.ring rfl (λm _=>⟨jT m,rU m,trivial⟩) λk h=>by obtain⟨_,i,rfl,⟨a,rfl⟩,d⟩:=h.cons;obtain⟨_,j,rfl,⟨b,rfl⟩,f⟩:=d.cons;obtain rfl:=f.nil;exact⟨⟨a,b⟩,by simp[PV.cells]⟩
def YR(n:Nat):pV en P w n T.wk (gF aC):=BR (Ds:=[gF Int,gF Int,gF Int,gF Int,gF GW]) ty.wk rfl (λm _=>⟨jT m,jT m,jT m,jT m,Oe m,trivial⟩) λu h=>by obtain⟨_,o,rfl,⟨a,rfl⟩,f⟩:=h.cons;obtain⟨_,p,rfl,⟨b,rfl⟩,i⟩:=f.cons;obtain⟨_,r,rfl,⟨c,rfl⟩,j⟩:=i.cons;obtain⟨_,s,rfl,⟨e,rfl⟩,k⟩:=j.cons;obtain⟨_,t,rfl,⟨d,rfl⟩,l⟩:=k.cons;obtain rfl:=l.nil;exact⟨⟨a,b,c,e,d⟩,by simp[PV.cells]⟩
def rdTrans(n:Nat):pV en P w n T.trans (gF GTrans):=BR (Ds:=[gF aB,gF Int,gF Int,gF Int,gF (List GW),gF (List GW),gF (List aC)]) ty.trans rfl (λm _=>⟨YQ m,jT m,jT m,jT m,OV m,OV m,C9 Wm (λ_=>rfl) ty.vE ty.Gb λk _=>YR k,trivial⟩) λC h=>by obtain⟨_,t,rfl,⟨a,rfl⟩,i⟩:=h.cons;obtain⟨_,u,rfl,⟨b,rfl⟩,j⟩:=i.cons;obtain⟨_,x,rfl,⟨c,rfl⟩,l⟩:=j.cons;obtain⟨_,y,rfl,⟨g,rfl⟩,o⟩:=l.cons;obtain⟨_,z,rfl,⟨d,rfl⟩,p⟩:=o.cons;obtain⟨_,A,rfl,⟨e,rfl⟩,r⟩:=p.cons;obtain⟨_,B,rfl,⟨f,rfl⟩,s⟩:=r.cons;obtain rfl:=s.nil;exact⟨⟨a,b,c,g,d,e,f⟩,by simp[PV.cells]⟩
def gmodel_one(x:GModel):(enc x).cells.all PV.one=true:=by simp[PV.cells]
def rdModel(n:Nat):pV en P w n T.model (gF GModel):=BR (Ds:=[gF Int,gF (List Int),gF (List Int),gF (List Int),gF Bool]) ty.model rfl (λm _=>⟨jT m,rU m,rU m,rU m,rdBool m,trivial⟩) λu h=>by obtain⟨_,o,rfl,⟨a,rfl⟩,f⟩:=h.cons;obtain⟨_,p,rfl,⟨b,rfl⟩,i⟩:=f.cons;obtain⟨_,r,rfl,⟨c,rfl⟩,j⟩:=i.cons;obtain⟨_,s,rfl,⟨d,rfl⟩,k⟩:=j.cons;obtain⟨_,t,rfl,⟨e,rfl⟩,l⟩:=k.cons;obtain rfl:=l.nil;exact⟨⟨a,b,c,d,e⟩,by simp[PV.cells]⟩
end
end Go.Ab
