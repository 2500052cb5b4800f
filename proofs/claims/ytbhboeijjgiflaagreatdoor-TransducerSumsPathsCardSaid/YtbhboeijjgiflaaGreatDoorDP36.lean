/-
Proofs for the law TransducerSumsPaths, part 36. Conditions: none.
-/
import Derived.Test.YtbhboeijjgiflaaGreatDoorDP35
import Derived.Test.YtbhboeijjgiflaaGreatDoorDP27
import Derived.Test.YtbhboeijjgiflaaGreatDoorDP28
import Derived.Test.YtbhboeijjgiflaaGreatDoorDP23
import Derived.Test.YtbhboeijjgiflaaGreatDoorDP12
set_option maxRecDepth 100000
set_option maxHeartbeats 4000000
set_option linter.all false
namespace Go.Ab
open Enc (enc)
def mD(n:Nat):Nat:=6^n
def mB(n:Nat):Nat:=6291456^n
theorem zrr(n:Nat):mD n≠0:=yqr.1 (ynj (by omega))
theorem yhi(n:Nat):0<mB n:=ynj (by omega)
def qm(n:Nat)(q:Rat):Prop:=qb (mD n) (mB n) q
theorem zvi{m n:Nat}{q:Rat}(h:qm m q)(k:m<=n):qm n q:=by obtain⟨j,rfl⟩:=Nat.le.dest k;have h1:=zd0 (6^j) (yqr.1 (ynj (by omega))) h;unfold qm mD mB;rw[ymt,ymt];exact zbh h1 (yo5 _ (yqw (by omega) j))
theorem zc6(n:Nat):qm n 0:=zbh (zis _) (ymv _)
theorem z20{m:Nat}{p q:Rat}(h:qm m p)(h':qm m q):qm (m+1) (p+q):=by have h1:=zd0 6 (by omega) (ztm h h' (zrr m));unfold qm mD;rw[ymx];refine zbh h1 ?_;unfold mB;rw[ymx];have:=yhi m;unfold mB at this;omega
theorem ycq{m n:Nat}{p q:Rat}(h:qm m p)(h':qm n q):qb (mD (m+n)) (mB (m+n)) (p*q):=by
 have h1:=z21 h h';unfold mD mB at *
 rwa[ymt,ymt]
theorem ygp{m n:Nat}{p q:Rat}(h:qm m p)(h':qm n q):qm (m+n) (p*q):=ycq h h'
theorem z80(n:Nat):mD n<4294967296^(n+1):=ynh (yqw (show 6<=4294967296 by omega) n) (yqa (by omega) (by omega))
theorem z81(n:Nat):mB n<4294967296^(n+1):=ynh (yqw (show 6291456<=4294967296 by omega) n) (yqa (by omega) (by omega))
structure GW.mb1 (n:Nat) (w:GW):Prop where
 q:qm n w.q.v
 p:∀ e,qm n (pc w.poly e)
structure GW.mb (n:Nat) (w:GW):Prop where
 o:w.mb1 n
 ps:∀ x∈w.parts,x.mb1 n
theorem GW.mb1.mono{m n:Nat}{w:GW}(h:w.mb1 m)(k:m<=n):w.mb1 n:=⟨zvi h.q k,fun e=>zvi (h.p e) k⟩
theorem GW.mb.mono{m n:Nat}{w:GW}(h:w.mb m)(k:m<=n):w.mb n:=⟨h.o.mono k,fun x hx=>(h.ps x hx).mono k⟩
theorem zfr(n c i s):(GW.mk gr0 c i s [] []).mb1 n:=⟨by show qm n gr0.v;rw[zf9];exact zc6 n,fun e=>zc6 n⟩
theorem zj0(n c i s ps):(GW.mk gr0 c i s [] ps).mb1 n:=⟨by show qm n gr0.v;rw[zf9];exact zc6 n,fun e=>zc6 n⟩
theorem ygg{k:Int}{w:GW}{n:Nat}(hs:w.si k)(h:w.mb1 n)(hn:216<=n):w.sm (n+1):=by
 have hq:=si_q hs;have hp:=si_p hs;cases w with
 | mk q c i s p ps =>
  have e:ps=[]:=hs.1;subst e;have h1:q.sm (n+1):=by
   have:=zvj h.q (zrr n) (z80 n) (z81 n)
   rwa[show rto (GW.q (GW.mk q c i s p [])).v=q from zf0 hq]at this
  have h2:psm p (n+1):=zee h.p hp (zrr n) (z80 n) (z81 n);exact .mk h1 h2 (by have:p.length<=216:=za0 hp;omega) (by simp) (by simp)
theorem zzc{r:GRing}{w:GW}{n:Nat}(hc:w.chk r)(h:w.mb n)(hn:216<=n):w.sm (n+1):=by
 by_cases h6:r.kind=6
 ·obtain⟨l,e,hs⟩:=hc.2.2 h6;have hp:=GRing.ok_parts hc.1 h6;rw[e];refine .tup (by omega) fun x hx=>?_;obtain⟨i,hi,rfl⟩:=yo7.1 hx;exact ygg (hs i (by omega) hi) (h.ps _ hx) hn
 ·exact ygg (hc.2.1 h6) h.o hn
theorem zx1{k:Int}(hk:1<=k/\k<=5){v w:GW}{n:Nat}(sv:v.si k)(sw:w.si k)(hv:v.mb1 n)(hw:w.mb1 n):(zap k v w).mb1 (n+1):=by
 unfold zap;split
 ·exact⟨by show qm (n+1) (rto (v.q.v+w.q.v)).v;rw[zbe];exact z20 hv.q hw.q,fun e=>zc6 _⟩
 ·split
  ·split
   ·exact hw.mono (by omega)
   ·exact hv.mono (by omega)
  ·split
   ·split
    ·exact hw.mono (by omega)
    ·exact hv.mono (by omega)
   ·split
    ·exact zfr ..
    ·refine⟨by show qm _ gr0.v;rw[zf9];exact zc6 _,fun e=>?_⟩;show qm (n+1) (pc (padd v.poly w.poly) e);rw[ze2 v.poly (zaj.1 (si_p sw)).1];exact z20 (hv.p e) (hw.p e)
theorem zs3{k:Int}(hk:1<=k/\k<=5){v w:GW}{m n:Nat}(sv:v.si k)(sw:w.si k)(hv:v.mb1 m)(hw:w.mb1 n):(zam k v w).mb1 (m+n+1):=by
 unfold zam;split
 ·exact⟨by show qm _ (rto (v.q.v*w.q.v)).v;rw[zbe];exact zvi (ygp hv.q hw.q) (by omega),fun e=>zc6 _⟩
 ·split
  ·split
   ·exact zfr ..
   ·exact zfr ..
  ·split
   ·exact zfr ..
   ·refine⟨by show qm _ gr0.v;rw[zf9];exact zc6 _,fun e=>?_⟩;show qm _ (pc (pmul v.poly w.poly) e);have pv:=si_p sv;have pw:=si_p sw;have h1:=zkp (zcw hv.p pv) (zcw hw.p pw) (yoj (zrr m) (zrr n)) e;have l1:=za0 pv;have l2:=za0 pw;have h2:=zd0 6 (by omega) h1;have e1:mD (m+n+1)=mD m*mD n*6:=by unfold mD;rw[ymx,ymt]
    have e2:mB (m+n+1)=mB m*mB n*6291456:=by unfold mB;rw[ymx,ymt]
    unfold qm;rw[e1,e2];refine zbh h2 ?_;have h3:v.poly.length*(w.poly.length*(mB m*mB n))<=216*(216*(mB m*mB n)):=yn4 l1 (ymu _ l2);omega
theorem z3f{r:GRing}{v w:GW}{n:Nat}(cv:v.chk r)(cw:w.chk r)(hv:v.mb n)(hw:w.mb n):(r.plus v w).mb (n+1):=by
 by_cases h6:r.kind=6
 ·have hp:=GRing.ok_parts cv.1 h6;have lv:=(cv.2.2 h6).1;have lw:=(cw.2.2 h6).1;have e:r.plus v w=.mk gr0 0 false 0 [] (zcx r.parts v.parts w.parts):=by simp[GRing.plus,h6]
  rw[e];have hl:=zbb (ks:=r.parts) (vs:=v.parts) (ws:=w.parts) lv lw;refine⟨zj0 ..,fun x hx=>?_⟩;obtain⟨i,hi,rfl⟩:=yo7.1 hx;simp only[GW.parts_mk]at hi;have h3:i<r.parts.length:=by omega
  have:=zbl h3 (by omega:i<v.parts.length) (by omega:i<w.parts.length) hi;simp only[GW.parts_mk];rw[this];exact zx1 (hp.2.2 _ (ym3 h3)) ((cv.2.2 h6).2.2 i h3 (by omega)) ((cw.2.2 h6).2.2 i h3 (by omega)) (hv.ps _ (ym3 _)) (hw.ps _ (ym3 _))
 ·have hk:=GRing.ok_kind cv.1 h6;have e:r.plus v w=zap r.kind v w:=by simp[GRing.plus,h6]
  have sp:=zb0 ⟨hk.1,hk.2.1⟩ (cv.2.1 h6) (cw.2.1 h6);rw[e];exact⟨zx1 ⟨hk.1,hk.2.1⟩ (cv.2.1 h6) (cw.2.1 h6) hv.o hw.o,fun x hx=>by rw[sp.1]at hx;cases hx⟩
theorem zoy{p q:Rat}(h0:0<=p)(h1:p<=1)(k0:0<=q)(k1:q<=1):p*q<=1:=by have h2:p*q<=p*1:=yry k1 h0;rw[Rat.mul_one]at h2;exact Rat.le_trans h2 h1
theorem zba{k:Int}(hk:1<=k/\k<=5){v w:GW}(hv:v.si k)(hw:w.si k):(zam k v w).si k:=by
 have:k=1\/k=2\/k=3\/k=4\/k=5:=by omega
 rcases this with rfl|rfl|rfl|rfl|rfl
 ·rw[si1];exact⟨rfl,rfl,rfl,rfl,rfl,zbf _⟩
 ·obtain⟨h1,h2,h3,h4,h5,h6,h7⟩:=si2.1 hv;obtain⟨k1,k2,k3,k4,k5,k6,k7⟩:=si2.1 hw;unfold zam;rw[ym1 (by omega),ym0 rfl];split
  ·rw[si2];exact⟨rfl,rfl,rfl,rfl,Int.le_refl 0,by show(0:Int)<=1099511627776;omega,fun _=>rfl⟩
  ·rename_i h;rw[si2];exact⟨rfl,rfl,rfl,rfl,by show 0<=v.cost+w.cost;omega,by show v.cost+w.cost<=1099511627776;omega,fun h=>by cases h⟩
 ·obtain⟨h1,h2,h3,h4,h5,h6,h7,h8⟩:=si3.1 hv;obtain⟨k1,k2,k3,k4,k5,k6,k7,k8⟩:=si3.1 hw;rw[si3];refine⟨rfl,rfl,rfl,rfl,rfl,zbf _,?_,?_⟩
  ·show 0<=(rto (v.q.v*w.q.v)).v;rw[zbe];exact Rat.mul_nonneg h7 k7
  ·show(rto (v.q.v*w.q.v)).v<=1;rw[zbe];exact zoy h7 h8 k7 k8
 ·rw[si4];exact⟨rfl,rfl,rfl,rfl,rfl⟩
 ·rw[si5];exact⟨rfl,rfl,rfl,rfl,rfl,zbt _ _⟩
theorem za9{r:GRing}{v w:GW}(hv:v.chk r)(hw:w.chk r):(r.times v w).chk r:=by
 by_cases h6:r.kind=6
 ·have hp:=GRing.ok_parts hv.1 h6;have lv:=(hv.2.2 h6).1;have lw:=(hw.2.2 h6).1;refine⟨hv.1,fun h=>absurd h6 h,fun _=>?_⟩;have e:r.times v w=.mk gr0 0 false 0 [] (zbx r.parts v.parts w.parts):=by simp[GRing.times,h6]
  rw[e];refine⟨zay lv lw,rfl,fun i h h'=>?_⟩;simp only[GW.parts_mk]at h' ⊢;rw[za6 h (by omega) (by omega) h'];exact zba (hp.2.2 _ (ym3 h)) ((hv.2.2 h6).2.2 i h (by omega)) ((hw.2.2 h6).2.2 i h (by omega))
 ·have hk:=GRing.ok_kind hv.1 h6;have e:r.times v w=zam r.kind v w:=by simp[GRing.times,h6]
  rw[e];exact⟨hv.1,fun _=>zba ⟨hk.1,hk.2.1⟩ (hv.2.1 h6) (hw.2.1 h6),fun h=>absurd h h6⟩
theorem zxb{r:GRing}{v w:GW}{m n:Nat}(cv:v.chk r)(cw:w.chk r)(hv:v.mb m)(hw:w.mb n):(r.times v w).mb (m+n+1):=by
 by_cases h6:r.kind=6
 ·have hp:=GRing.ok_parts cv.1 h6;have lv:=(cv.2.2 h6).1;have lw:=(cw.2.2 h6).1;have e:r.times v w=.mk gr0 0 false 0 [] (zbx r.parts v.parts w.parts):=by simp[GRing.times,h6]
  rw[e];have hl:=zay (ks:=r.parts) (vs:=v.parts) (ws:=w.parts) lv lw;refine⟨zj0 ..,fun x hx=>?_⟩;obtain⟨i,hi,rfl⟩:=yo7.1 hx;simp only[GW.parts_mk]at hi;have h3:i<r.parts.length:=by omega
  have:=za6 h3 (by omega:i<v.parts.length) (by omega:i<w.parts.length) hi;simp only[GW.parts_mk];rw[this];exact zs3 (hp.2.2 _ (ym3 h3)) ((cv.2.2 h6).2.2 i h3 (by omega)) ((cw.2.2 h6).2.2 i h3 (by omega)) (hv.ps _ (ym3 _)) (hw.ps _ (ym3 _))
 ·have hk:=GRing.ok_kind cv.1 h6;have e:r.times v w=zam r.kind v w:=by simp[GRing.times,h6]
  have sp:=zba ⟨hk.1,hk.2.1⟩ (cv.2.1 h6) (cw.2.1 h6);rw[e];exact⟨zs3 ⟨hk.1,hk.2.1⟩ (cv.2.1 h6) (cw.2.1 h6) hv.o hw.o,fun x hx=>by rw[sp.1]at hx;cases hx⟩
theorem z8f(r:GRing)(v w:GW)(n:Nat)(hv:v.mb n)(hw:w.mb n)(hn:n<=900)(h0:216<=n)(cv:v.chk r)(cw:w.chk r):Sp P F.aa [enc r,enc v,enc w] (.pure (enc (r.plus v w))) :=
 zx5 r v w (n+1) (zzc cv hv h0) (zzc cw hw h0) (by omega) (by omega) cv cw
theorem z1y(r:GRing)(v w:GW)(n:Nat)(hv:v.mb n)(hw:w.mb n)(hn:n<=900)(h0:216<=n)(cv:v.chk r)(cw:w.chk r):Sp P F.ae [enc r,enc v,enc w] (.pure (enc (r.times v w))) :=
 z1x r v w (n+1) (zzc cv hv h0) (zzc cw hw h0) (by omega) (by omega) cv cw
theorem ya7{v w:GW}(h1:v.q=w.q)(h2:v.cost=w.cost)(h3:v.inf=w.inf)(h4:v.set=w.set)(h5:v.poly=w.poly)(h6:v.parts=w.parts):v=w:=by cases v;cases w;simp only[GW.q_mk,GW.cost_mk,GW.inf_mk,GW.set_mk,GW.poly_mk,GW.parts_mk]at h1 h2 h3 h4 h5 h6;subst h1 h2 h3 h4 h5 h6;rfl
theorem ykn{x y:GRat}(hx:x.valid=true)(hy:y.valid=true)(h:x.v=y.v):x=y:=by rw[<- zf0 hx,<- zf0 hy,h]
def trop(w:GW):Int:=if w.inf then 1099511627777 else w.cost
theorem zh6{v w:GW}(hv:v.si 2)(hw:w.si 2)(h:trop v=trop w):v=w:=by
 obtain⟨h1,h2,h3,h4,h5,h6,h7⟩:=si2.1 hv;obtain⟨k1,k2,k3,k4,k5,k6,k7⟩:=si2.1 hw;unfold trop at h;refine ya7 (h2.trans k2.symm) ?_ ?_ (h3.trans k3.symm) (h4.trans k4.symm) (h1.trans k1.symm)
 ·cases hi:v.inf<;>cases hj:w.inf<;>simp[hi,hj]at h<;>try omega
  rw[h7 hi,k7 hj]
 ·cases hi:v.inf<;>cases hj:w.inf<;>simp[hi,hj]at h<;>first|rfl|omega
theorem zd3{v w:GW}(hv:v.si 2)(hw:w.si 2):trop (zap 2 v w)=if trop w<trop v then trop w else trop v:=by obtain⟨h1,h2,h3,h4,h5,h6,h7⟩:=si2.1 hv;obtain⟨k1,k2,k3,k4,k5,k6,k7⟩:=si2.1 hw;unfold zap;rw[ym1 (by omega),ym0 rfl];unfold trop;cases hi:v.inf<;>cases hj:w.inf<;>simp[hi,hj]<;>(try split)<;>simp_all<;>omega
theorem ztl{a b c:Rat}(h:a<b)(k:b<c):a<c:=Rat.not_le.1 fun e=>yot.2 (Rat.le_trans (Rat.le_of_lt k) e) h
theorem z2z{a b c:Rat}(h:a<=b)(k:b<c):a<c:=Rat.not_le.1 fun e=>Rat.not_le.2 k (Rat.le_trans e h)
theorem ztv(x y:GW):zap 3 x y=if x.q.v<y.q.v then y else x:=by simp[zap]
theorem zpw{k:Int}(hk:1<=k/\k<=5){v w:GW}(hv:v.si k)(hw:w.si k):zap k v w=zap k w v:=by
 have:k=1\/k=2\/k=3\/k=4\/k=5:=by omega
 rcases this with rfl|rfl|rfl|rfl|rfl
 ·simp only[zap,ym2,yok]
 ·refine zh6 (zb0 hk hv hw) (zb0 hk hw hv) ?_;rw[zd3 hv hw,zd3 hw hv];split<;>split<;>omega
 ·obtain⟨h1,h2,h3,h4,h5,h6,h7,h8⟩:=si3.1 hv;obtain⟨k1,k2,k3,k4,k5,k6,k7,k8⟩:=si3.1 hw;rw[ztv,ztv];by_cases a:v.q.v<w.q.v
  ·rw[ym0 a,ym1 (yot.2 (Rat.le_of_lt a))]
  ·by_cases b:w.q.v<v.q.v
   ·rw[ym1 a,ym0 b]
   ·rw[ym1 a,ym1 b];have e:v.q.v=w.q.v:=Rat.le_antisymm (yot.1 b) (yot.1 a);exact ya7 (ykn h6 k6 e) (h3.trans k3.symm) (h2.trans k2.symm) (h4.trans k4.symm) (h5.trans k5.symm) (h1.trans k1.symm)
 ·simp[zap,UInt64.or_comm]
 ·have pv:=si_p hv;have pw:=si_p hw;have e:padd v.poly w.poly=padd w.poly v.poly:=zh9 (zcf _ pv) (zcf _ pw) fun e=>by rw[ze2 _ (zaj.1 pw).1,ze2 _ (zaj.1 pv).1,yok]
  simp[zap,e]
theorem zng{k:Int}(hk:1<=k/\k<=5){u v w:GW}(hu:u.si k)(hv:v.si k)(hw:w.si k):zap k (zap k u v) w=zap k u (zap k v w):=by
 have:k=1\/k=2\/k=3\/k=4\/k=5:=by omega
 rcases this with rfl|rfl|rfl|rfl|rfl
 ·simp only[zap,ym2,GW.q_mk,zbe,ynm]
 ·refine zh6 (zb0 hk (zb0 hk hu hv) hw) (zb0 hk hu (zb0 hk hv hw)) ?_;rw[zd3 (zb0 hk hu hv) hw,zd3 hu hv,zd3 hu (zb0 hk hv hw),zd3 hv hw]
  repeat' split
  all_goals omega
 ·have s:=ztv;rw[s u v,s v w];by_cases a:u.q.v<v.q.v
  ·rw[ym0 a];by_cases b:v.q.v<w.q.v
   ·rw[ym0 b,s v w,s u w,ym0 b,ym0 (ztl a b)]
   ·rw[ym1 b,s v w,s u v,ym1 b,ym0 a]
  ·rw[ym1 a];by_cases b:v.q.v<w.q.v
   ·rw[ym0 b]
   ·rw[ym1 b,s u w,s u v,ym1 a,ym1];intro c;exact b (z2z (yot.1 a) c)
 ·simp[zap,GW.set_mk,UInt64.or_assoc]
 ·have pu:=si_p hu;have pv:=si_p hv;have pw:=si_p hw;have e:padd (padd u.poly v.poly) w.poly=padd u.poly (padd v.poly w.poly):=zh9 (zcf _ (zcf _ pu)) (zcf _ pu) fun e=>by rw[ze2 _ (zaj.1 pw).1,ze2 _ (zaj.1 pv).1,ze2 _ (zaj.1 (zcf _ pv)).1,ze2 _ (zaj.1 pw).1,ynm]
  simp[zap,GW.poly_mk,e]
theorem z0d:∀ {ks:List Int} {vs ws:List GW},(∀ k∈ks,1<=k/\k<=5)->vs.length=ks.length->ws.length=ks.length->(∀ i,(h:i<ks.length)->(h':i<vs.length)->vs[i].si ks[i])->(∀ i,(h:i<ks.length)->(h':i<ws.length)->ws[i].si ks[i])->zcx ks vs ws=zcx ks ws vs:=by
 intro ks vs ws hk lv lw hv hw;refine ypf (by rw[zbb lv lw,zbb lw lv]) fun i h1 h2=>?_;have h3:i<ks.length:=by rw[zbb lv lw]at h1;exact h1
 rw[zbl h3 (by omega) (by omega) h1,zbl h3 (by omega) (by omega) h2];exact zpw (hk _ (ym3 h3)) (hv i h3 (by omega)) (hw i h3 (by omega))
theorem zhm{r:GRing}{v w:GW}(cv:v.chk r)(cw:w.chk r):r.plus v w=r.plus w v:=by
 by_cases h6:r.kind=6
 ·have hp:=GRing.ok_parts cv.1 h6;obtain⟨lv,_,sv⟩:=cv.2.2 h6;obtain⟨lw,_,sw⟩:=cw.2.2 h6;simp only[GRing.plus,ym0 h6,z0d hp.2.2 lv lw sv sw]
 ·have hk:=GRing.ok_kind cv.1 h6;simp only[GRing.plus,ym1 h6];exact zpw ⟨hk.1,hk.2.1⟩ (cv.2.1 h6) (cw.2.1 h6)
theorem zdt{r:GRing}{u v w:GW}(cu:u.chk r)(cv:v.chk r)(cw:w.chk r):r.plus (r.plus u v) w=r.plus u (r.plus v w):=by
 by_cases h6:r.kind=6
 ·have hp:=GRing.ok_parts cv.1 h6;obtain⟨lu,_,su⟩:=cu.2.2 h6;obtain⟨lv,_,sv⟩:=cv.2.2 h6;obtain⟨lw,_,sw⟩:=cw.2.2 h6;simp only[GRing.plus,ym0 h6,GW.parts_mk]
  congr 1
  have luv:=zbb lu lv;have lvw:=zbb lv lw;refine ypf (by rw[zbb luv lw,zbb lu lvw]) fun i h1 h2=>?_;have h3:i<r.parts.length:=by rw[zbb luv lw]at h1;exact h1
  rw[zbl h3 (by omega) (by omega) h1,zbl h3 (by omega) (by omega) h2,zbl h3 (by omega) (by omega) (by omega),zbl h3 (by omega) (by omega) (by omega)];exact zng (hp.2.2 _ (ym3 h3)) (su i h3 (by omega)) (sv i h3 (by omega)) (sw i h3 (by omega))
 ·have hk:=GRing.ok_kind cv.1 h6;simp only[GRing.plus,ym1 h6];exact zng ⟨hk.1,hk.2.1⟩ (cu.2.1 h6) (cv.2.1 h6) (cw.2.1 h6)
section
variable {α : Type} {key : α -> List Int}
def zhe(key : α -> List Int)(l:List α)(i:Nat):List α := srt key (l.take i)++l.drop i
theorem z87(s:List α)(x : α):(insR key s x).length=s.length+1:=by
 induction s with
 | nil=>rfl
 | cons z r ih=>simp only[insR];split<;>simp[ih]
theorem z86{s:List α}{x y : α}:y∈insR key s x ↔ y=x\/y∈s:=by
 induction s with
 | nil=>simp[insR]
 | cons z r ih =>
  simp only[insR];split
  ·simp
  ·simp only[ym7,ih];exact⟨fun h=>by rcases h with h|h|h<;>simp[h],fun h=>by rcases h with h|h|h<;>simp[h]⟩
theorem zxo(l:List α)(x : α):srt key (l++[x])=insR key (srt key l) x:=by simp[srt,ynn]
theorem zb4(l:List α):Srt key (srt key l)/\(srt key l).length=l.length/\∀ y,y∈srt key l ↔ y∈l:=by
 have:∀ (n:Nat) (l:List α),l.length=n->Srt key (srt key l)/\(srt key l).length=l.length/\∀ y,y∈srt key l ↔ y∈l:=by
  intro n
  induction n with
  | zero=>intro l hl;have:=ypn hl;subst this;simp[srt,Srt]
  | succ n ih =>
   intro l hl;obtain⟨l',y,rfl⟩:∃ l' y,l=l'++[y]:=⟨l.dropLast,l.getLast (by intro h;simp[h]at hl),(List.dropLast_concat_getLast _).symm⟩;obtain⟨h1,h2,h3⟩:=ih l' (by simpa using hl);rw[zxo];refine⟨zn4 h1,by rw[z87,h2];simp,fun z=>?_⟩;rw[z86,h3];simp[or_comm]
 exact this _ l rfl
theorem zz7(l:List α):zhe key l 1=l:=by cases l<;>simp[zhe,srt,insR]
theorem z2d{l:List α}{i:Nat}(h:l.length<=i):zhe key l i=srt key l:=by unfold zhe;rw[ymq h,yp5 h,ypp]
theorem z2c{l:List α}{i:Nat}(h:i<l.length):zhe key l i=srt key (l.take i)++l[i]::l.drop (i+1):=by unfold zhe;rw[yos h]
theorem zm6{l:List α}{i:Nat}(h:i<l.length):zhe key l (i+1)=insR key (srt key (l.take i)) l[i]++l.drop (i+1):=by unfold zhe;rw[ymr h,zxo]
theorem zv9{x : α}{B:List α}(hB:∀ b∈B,key x<key b):∀ {A:List α},(∀ a∈A,¬ key x<key a)->insR key (A++B) x=A++x::B
 | [],_=>by
  cases B with
  | nil=>rfl
  | cons b B=>simp[insR,hB b (by simp)]
 | a::A,h=>by have:=zv9 hB (A:=A) fun y hy=>h y (by simp[hy]);simp[insR,h a (by simp),this]
theorem z14(A B:List α)(z x : α)(rest:List α):((A++[z]++x::(B++rest)).set (A.length+1) z).set A.length x=A++x::((z::B)++rest):=by simp[List.set_append,yoq]
end
section
variable {α : Type} {key : α -> List Int} {up : α -> α -> α} {nw : α -> α}
theorem z4f:∀ {out:List α} {x y : α},x∈mst key up nw out y->x∈out\/x=nw y\/∃ z∈out,x=up z y
 | [],x,y,h=>by simp[mst]at h;exact .inr (.inl h)
 | [z],x,y,h=>by
  simp only[mst]at h;split at h
  ·simp at h;exact .inr (.inr ⟨z,by simp,h⟩)
  ·simp at h;rcases h with h|h
   ·exact .inl (by simp[h])
   ·exact .inr (.inl h)
 | z::w::r,x,y,h=>by
  rw[znr z y (by simp)]at h;rcases ym7.1 h with h|h
  ·exact .inl (by simp[h])
  ·rcases z4f h with h|h|⟨u,h,e⟩
   ·exact .inl (yn9 _ h)
   ·exact .inr (.inl h)
   ·exact .inr (.inr ⟨u,yn9 _ h,e⟩)
theorem zr1:∀ {out:List α} {x y : α},x∈insF key up nw out y->x∈out\/x=nw y\/∃ z∈out,x=up z y
 | [],x,y,h=>by simp[insF]at h;exact .inr (.inl h)
 | z::r,x,y,h=>by
  simp only[insF]at h;split at h
  ·rcases ym7.1 h with h|h
   ·exact .inl (by simp[h])
   ·rcases zr1 h with h|h|⟨u,h,e⟩
    ·exact .inl (yn9 _ h)
    ·exact .inr (.inl h)
    ·exact .inr (.inr ⟨u,yn9 _ h,e⟩)
  ·split at h
   ·rcases ym7.1 h with h|h
    ·exact .inr (.inr ⟨z,by simp,h⟩)
    ·exact .inl (yn9 _ h)
   ·rcases ym7.1 h with h|h
    ·exact .inr (.inl h)
    ·exact .inl h
theorem zp5(out:List α)(y : α):(mst key up nw out y).length<=out.length+1:=by
 match out with
 | []=>simp[mst]
 | [z]=>simp only[mst];split<;>simp
 | z::w::r =>
  rw[znr z y (by simp)];have:=zp5 (w::r) y;simp only[yo8]at this ⊢;omega
theorem zn5:∀ (out:List α) (y : α),(insF key up nw out y).length<=out.length+1
 | [],y=>by simp[insF]
 | z::r,y=>by
  simp only[insF];have:=zn5 r y
  (repeat' split)<;>simp only[yo8]<;>omega
theorem zjv{l:List α}{k:Nat}(h:k<l.length):mrg key up nw (l.take (k+1))=mst key up nw (mrg key up nw (l.take k)) l[k]:=by rw[ymr h,zyj]
theorem zgq{l:List α}{k:Nat}(h:k<l.length):nfm key up nw (l.take (k+1))=insF key up nw (nfm key up nw (l.take k)) l[k]:=by rw[ymr h];unfold nfm;rw[ynn];rfl
theorem zkv{Q:Nat -> α -> Prop}(hm:∀ k x,Q k x->Q (k+1) x){l:List α}(hn:∀ x∈l,Q 0 (nw x))(hu:∀ k z,∀ x∈l,Q k z->Q (k+1) (up z x))(h0:∀ k x,Q 0 x->Q k x) :
  ∀ k,k<=l.length->(mrg key up nw (l.take k)).length<=k/\∀ x∈mrg key up nw (l.take k),Q k x
 | 0,_=>by simp[mrg]
 | k+1,h=>by
  obtain⟨i1,i2⟩:=zkv hm hn hu h0 k (by omega);have hk:k<l.length:=by omega
  rw[zjv hk];refine⟨ymm (zp5 _ _) (by omega),fun x hx=>?_⟩;rcases z4f hx with h|h|⟨z,h,e⟩
  ·exact hm _ _ (i2 x h)
  ·rw[h];exact h0 _ _ (hn _ (ym3 hk))
  ·rw[e];exact hu _ _ _ (ym3 hk) (i2 z h)
theorem z4d{Q:Nat -> α -> Prop}(hm:∀ k x,Q k x->Q (k+1) x){l:List α}(hn:∀ x∈l,Q 0 (nw x))(hu:∀ k z,∀ x∈l,Q k z->Q (k+1) (up z x))(h0:∀ k x,Q 0 x->Q k x) :
  ∀ k,k<=l.length->(nfm key up nw (l.take k)).length<=k/\∀ x∈nfm key up nw (l.take k),Q k x
 | 0,_=>by simp[nfm]
 | k+1,h=>by
  obtain⟨i1,i2⟩:=z4d hm hn hu h0 k (by omega);have hk:k<l.length:=by omega
  rw[zgq hk];refine⟨ymm (zn5 _ _) (by omega),fun x hx=>?_⟩;rcases zr1 hx with h|h|⟨z,h,e⟩
  ·exact hm _ _ (i2 x h)
  ·rw[h];exact h0 _ _ (hn _ (ym3 hk))
  ·rw[e];exact hu _ _ _ (ym3 hk) (i2 z h)
end
section
variable (r:GRing)
def wsum(ws:List GW):GW:=ws.foldr r.plus r.zero
variable {r} (hr:r.ok=true)
include hr in
theorem zi5:∀ {ws:List GW},(∀ w∈ws,w.chk r)->(wsum r ws).chk r
 | [],_=>zbd hr
 | w::ws,h=>zbu (h w (by simp)) (zi5 fun x hx=>h x (by simp[hx]))
include hr in
theorem zmt{v:GW}(hv:v.chk r):r.plus r.zero v=v:=by rw[zhm (zbd hr) hv];exact zc7 hv
include hr in
theorem zmu:∀ {a b:List GW},(∀ w∈a,w.chk r)->(∀ w∈b,w.chk r)->wsum r (a++b)=r.plus (wsum r a) (wsum r b)
 | [],b,_,hb=>(zmt hr (zi5 hr hb)).symm
 | w::a,b,ha,hb=>by show r.plus w (wsum r (a++b))=r.plus (r.plus w (wsum r a)) (wsum r b);rw[zmu (fun x hx=>ha x (by simp[hx])) hb,zdt (ha w (by simp)) (zi5 hr fun x hx=>ha x (by simp[hx])) (zi5 hr hb)]
end
section
variable {α : Type} (key : α -> List Int) (wt : α -> GW) (r:GRing)
def atQ(l:List α)(p:List Int->Bool):GW:=wsum r ((l.filter fun x=>p (key x)).map wt)
variable {key wt r} {up : α -> α -> α} (hr:r.ok=true) (hk:∀ z y,key (up z y)=key z) (hw:∀ z y,wt (up z y)=r.plus (wt z) (wt y))
theorem z6p(p:List Int->Bool):atQ key wt r [] p=r.zero:=rfl
theorem zdk(x : α)(l:List α)(p:List Int->Bool):atQ key wt r (x::l) p=if p (key x)=true then r.plus (wt x) (atQ key wt r l p)else atQ key wt r l p:=by unfold atQ;by_cases h:p (key x)=true<;>simp[h,wsum]
include hr in
theorem zwt{l:List α}(h:∀ x∈l,(wt x).chk r)(p:List Int->Bool):(atQ key wt r l p).chk r:=zi5 hr fun w hw=>by obtain⟨x,hx,rfl⟩:=ym6.1 hw;exact h x (yo9.1 hx).1
include hr in
theorem z1e{a b:List α}(ha:∀ x∈a,(wt x).chk r)(hb:∀ x∈b,(wt x).chk r)(p:List Int->Bool):atQ key wt r (a++b) p=r.plus (atQ key wt r a p) (atQ key wt r b p):=by unfold atQ;rw[yol,ynw];exact zmu hr (fun w hw=>by obtain⟨x,hx,rfl⟩:=ym6.1 hw;exact ha x (yo9.1 hx).1) (fun w hw=>by obtain⟨x,hx,rfl⟩:=ym6.1 hw;exact hb x (yo9.1 hx).1)
include hr hk hw in
theorem zzj{x : α}(hx:(wt x).chk r)(p:List Int->Bool):∀ {out:List α},(∀ z∈out,(wt z).chk r)->atQ key wt r (insF key up id out x) p=r.plus (atQ key wt r out p) (if p (key x)=true then wt x else r.zero)
 | [],_=>by
  show atQ key wt r [x] p=_;rw[zdk,z6p,zmt hr (by split;exact hx;exact zbd hr)];split
  ·exact zc7 hx
  ·rfl
 | z::o,h=>by
  have hz:=h z (by simp);have ho:∀ y∈o,(wt y).chk r:=fun y hy=>h y (by simp[hy]);have co:=zwt (key:=key) hr ho p;have ce:(if p (key x)=true then wt x else r.zero).chk r:=by split;exact hx;exact zbd hr
  simp only[insF];split
  ·rw[zdk,zdk,zzj hx p ho];split
   ·rw[zdt hz co ce]
   ·rfl
  ·split
   ·rename_i h1 h2;rw[zdk,zdk,hk,hw];by_cases h3:p (key z)=true
    ·rw[ym0 h3,ym0 h3,ym0 (h2 ▸ h3),zdt hz hx co,zdt hz co hx,zhm hx co]
    ·rw[ym1 h3,ym1 h3,ym1 (h2 ▸ h3),zc7 co]
   ·show atQ key wt r (x::z::o) p=_;rw[zdk x];have cz:=zwt (key:=key) hr h p;split
    ·exact zhm hx cz
    ·exact(zc7 cz).symm
include hr hk hw in
theorem z6q{l:List α}(h:∀ x∈l,(wt x).chk r)(p:List Int->Bool):∀ n,n<=l.length->(∀ z∈nfm key up id (l.take n),(wt z).chk r)/\atQ key wt r (nfm key up id (l.take n)) p=atQ key wt r (l.take n) p
 | 0,_=>⟨by simp[nfm],rfl⟩
 | n+1,hn=>by
  obtain⟨i1,i2⟩:=z6q h p n (by omega);have hl:n<l.length:=by omega
  have hx:=h _ (ym3 hl);rw[zgq hl];refine⟨fun z hz=>?_,?_⟩
  ·rcases zr1 hz with h1|h1|⟨y,h1,h2⟩
   ·exact i1 z h1
   ·rw[h1];exact hx
   ·rw[h2,hw];exact zbu (i1 y h1) hx
  ·rw[zzj hr hk hw hx p i1,i2,ymr hl,z1e hr (fun x hx=>h x (yn2 hx)) (fun x hx=>by simp at hx;rw[hx];exact h _ (ym3 hl)),zdk,z6p]
   congr 1
   split
   ·exact(zc7 hx).symm
   ·rfl
end
theorem zqe(r:GRing)(w:GW)(hw:w.sm 1048576):Sp P F.ge [enc r,enc w] (.pure (.bool (decide (w=r.zero)))):=by refine Sp.vz c.ge fun _=>?_;simp[g.ge,go_sem];refine zaa (zgg r) rfl ?_;simp[go_sem];refine zab (ze5 w hw r.zero) ?_;simp[go_sem]
def inA(x:GArc)(a:GAuto):Prop:=0<=x.f/\x.f<a.st/\0<=x.t/\x.t<a.st/\0<=x.l/\x.l<=a.sy/\x.w.chk a.ring
noncomputable instance (x:GArc) (a:GAuto):Decidable (inA x a):=Classical.propDecidable _
structure GAuto.sm (a:GAuto) (n:Nat):Prop where
 ini:∀ w∈a.ini,w.sm n
 fin:∀ w∈a.fin,w.sm n
 arcs:∀ x∈a.arcs,x.w.sm n
theorem z96(r:GRing)(l:List GW)(n:Nat)(hn:n<=2000)(hn1:1<=n)(hl:l.length<=1000000)(h:∀ w∈l,w.sm n/\w.chk r)(hz:r.zero.sm n)(cz:r.zero.chk r) :
  Sp P F.fx [enc r,.sl (ens l)] (.pure (.sl (ens (l.map fun w=>r.plus w r.zero)))):=by
 refine Sp.vz c.fx fun _=>?_;simp[g.fx,go_sem]
 refine zai (S:=fun k:Nat=>mkSt [(2,.ptr 2 0 0 0),(5,.own 1 0 0 k),(8,.p (.sl (ens l))),(9,.p (.int .i64 l.length)),(10,.p (.int .i64 k))] [(2,⟨2,[.p (enc r)]⟩),(1,⟨8,avs ((l.take k).map fun w=>r.plus w r.zero)⟩)]) (I:=fun k=>k<=l.length) (m:=fun k=>l.length - k) 0
  (Weak.nl 5 77 8 rfl (Weak.to [2,5,8,9,10] [((2,0),2),((77,0),1)] (by simp[go_sem]))) (by omega) ?_
 rintro k h1 R hn' hr hx;have e3:=i64s k (by omega);simp[g.qh,mkSt,go_sem];refine⟨fun hk=>?_,fun hk=>hx _ _ ?_⟩
 ·refine zae hk ?_
  try simp[go_sem]
  refine zaa (zgg r) rfl ?_
  try simp[go_sem]
  have hw:=h _ (List.getElem_mem hk);refine zab (zmh r l[k] r.zero n hw.1 hz hn hn1 hw.2 cz) ?_;simp[go_sem,e3];have hts:l.take (k+1)=l.take k++[l[k]]:=List.take_succ_eq_append_getElem hk;refine⟨⟨by omega,by omega⟩,hn' (k+1) _ (Weak.to [2,5,8,9,10] [((2,0),2),((21,0),1)] ?_) (by omega) (by omega)⟩;have h2:(l.map fun w=>r.plus w r.zero).take (k+1)=(l.map fun w=>r.plus w r.zero).take k++[r.plus l[k] r.zero]:=by rw[List.take_succ_eq_append_getElem (by simpa using hk)];simp
  simp[mkSt,go_sem];rw[h2];simp[go_sem]
 ·have:k=l.length:=by omega
  subst this;simp[go_sem];rw[ymq (by simp),ymq (by simp)]
theorem zqi:∀ (l m:List Int),l.length=m.length->zj4 (List.zipWith cmpI l m)=lexI l m
 | [],[],_=>rfl
 | [],y::ys,h=>by simp at h
 | x::xs,[],h=>by simp at h
 | x::xs,y::ys,h=>by
  have ih:=zqi xs ys (by simpa using h);simp only[List.zipWith,zj4,lexI,ih,cmpI];by_cases h1:x<y
  ·simp[h1]
  ·by_cases h2:y<x
   ·simp[h1,h2]
   ·simp[h1,h2]
end Go.Ab
namespace Go.Ab
open Enc (enc)
attribute [local go_sem] zal Opd.slots
section
variable {α : Type} [Enc α]
theorem zo5(hsz:Enc.sz α = 12)(hone:∀ x : α,(enc x).cells.all PV.one=true)(key : α -> List Int)(cf:FuncId)(l:List α)(hl:l.length<=1000000)
  (hc:∀ x∈l,∀ y∈l,∃ n:Int,Sp P cf [enc x,enc y] (.pure (.int .i64 n))/\(n<0 ↔ key x<key y)) :
  SpM P F.iz [.sl (ens l),.int .i64 0,.int .i64 l.length,.fn cf []] 0 12 (ens (srt key l)) (.pure (.tup [])):=by
 have hs1:∀ x : α,(enc x).sz=12:=fun x=>by rw[Enc.ok,hsz]
 have ew1:IntKind.i64.wrap 1=1:=i64w (by omega) (by omega);refine SpM.of_vm c.iz (by simp) rfl (by simp[go_sem,(zb4 l).2.1]) ?_;simp[g.iz,go_sem]
 refine zai (S:=fun i:Nat=>mkSt [(0,.own PIN 0 0 l.length),(1,.p (.int .i64 0)),(2,.p (.int .i64 l.length)),(3,.p (.fn cf [])),(8,.p (.int .i64 i))] [(PIN,⟨12,avs (zhe key l i)⟩)]) (I:=fun i=>1<=i) (m:=fun i=>l.length+1 - i) 1
  (Weak.to [0,1,2,3,8] [((PIN,0),PIN)] (by simp[go_sem,zz7,ew1])) (by omega) ?_
 rintro i h1 R hn hr hx;simp[g.rn,mkSt,go_sem];refine⟨fun hi=>?_,fun hi=>hx _ _ ?_⟩;rotate_left
 ·simp[go_sem,z2d hi]
 have e1:=i64s i (by omega);have hsi:=zb4 (key:=key) (l.take i);have hsl:(srt key (l.take i)).length=i:=by rw[hsi.2.1];simp;omega
 have hend:∀ (L:List α) (v:AV),L=zhe key l (i+1)->v=.p (.int .i64 ((i+1:Nat):Int))->R .normal ⟨[(0,.own 999998 0 0 l.length),(1,.p (.int .i64 0)),(2,.p (.int .i64 l.length)),(3,.p (.fn cf [])),(8,v)],[(999998,[some ⟨12,avs L⟩]),(999999,[none])]⟩:=by rintro L v rfl rfl;exact hn (i+1) _ (Weak.to [0,1,2,3,8] [((PIN,0),PIN)] (by simp[go_sem])) (by omega) (by omega)
 refine zai (S:=fun x:List α × Nat=>mkSt [(0,.own PIN 0 0 l.length),(1,.p (.int .i64 0)),(2,.p (.int .i64 l.length)),(3,.p (.fn cf [])),(8,.p (.int .i64 i)),(9,.p (.int .i64 x.2))] [(PIN,⟨12,avs x.1⟩)])
  (I:=fun x=>∃ A B,x.1=A++l[i]::(B++l.drop (i+1))/\x.2=A.length/\A++B=srt key (l.take i)/\∀ b∈B,key l[i]<key b) (m:=fun x=>x.2) (zhe key l i,i)
  (Weak.to [0,1,2,3,8,9] [((PIN,0),PIN)] (by simp[go_sem])) ⟨srt key (l.take i),[],by rw[z2c hi];simp,hsl.symm,by simp,by simp⟩ ?_
 rintro⟨L,j⟩ ⟨A,B,hL,hj,hAB,hB⟩ R2 hn2 hr2 hx2;simp only at hL hj;have hLl:L.length=l.length:=by have:=congrArg List.length hAB;rw[hL];simp at this ⊢;rw[hsi.2.1]at this;simp at this;omega
 have hLm:∀ y∈L,y∈l:=by
  intro y hy;rw[hL]at hy;simp only[ymn,ym7]at hy;have hm:∀ y,y∈A++B->y∈l:=fun y hy=>by rw[hAB,hsi.2.2]at hy;exact yn2 hy
  rcases hy with h|h|h|h
  ·exact hm y (by simp[h])
  ·rw[h];exact ym3 hi
  ·exact hm y (by simp[h])
  ·exact ynf h
 have hjl:j<l.length:=by rw[<- hLl,hL,hj];simp
 rcases yrz A with rfl|⟨A',z,rfl⟩
 ·
  simp at hj;subst hj;simp[g.ox,mkSt,go_sem];refine hx2 _ _ ?_;simp[go_sem,e1];refine hend L _ ?_ rfl;rw[zm6 hi,<- hAB,zv9 hB (by simp),hL];simp
 ·simp only[ys0]at hj hL hAB;simp at hj;subst hj;have hx0:L[A'.length+1]?=some l[i]:=by rw[hL];simp
  have hz0:L[A'.length]?=some z:=by rw[hL];simp
  have hzl:z∈l:=hLm z (by rw[hL];simp);obtain⟨n,hn3,hn4⟩:=hc l[i] (ym3 hi) z hzl;have hl0:A'.length+1<l.length:=hjl;have e3:IntKind.i64.wrap (A'.length:Int)=(A'.length:Nat):=i64w (by omega) (by omega);have e4:((A'.length:Int)+1).toNat=A'.length+1:=by omega
  have hgt:(0:Int)<(A'.length:Int)+1:=by omega
  simp[g.ox,mkSt,go_sem,e3,hLl,hl0,show A'.length<l.length by omega,e4,hgt];refine⟨by omega,zlx hx0 ?_⟩;refine zlx hz0 ?_;refine zaa hn3 rfl ?_;by_cases hlt:n<0
  ·simp[go_sem,hlt,e3,e4,hgt,hLl,hl0,show A'.length<l.length by omega];refine zlx hz0 ?_;refine⟨by omega,zlx hx0 ?_⟩;refine⟨by omega,zlx hx0 ?_⟩;refine⟨hs1 z,?_⟩;rw[zcc];refine zlx (x:=.p (enc z)) (by simp[yet,hz0]) ?_;simp only[yfk];refine⟨hs1 _,?_⟩;simp[go_sem,e3];refine hn2 ((L.set (A'.length+1) z).set A'.length l[i],A'.length) _ (Weak.to [0,1,2,3,8,9] [((PIN,0),PIN)] (by simp[go_sem])) ⟨A',z::B,?_,rfl,?_,?_⟩ (by simp)
   ·rw[hL];exact z14 A' B z l[i] _
   ·rw[<- hAB];simp
   ·intro b hb;rcases ym7.1 hb with rfl|hb
    ·exact hn4.1 hlt
    ·exact hB b hb
  ·simp[go_sem,hlt,e3,e4,hgt,hLl,hl0];refine hx2 _ _ ?_;simp[go_sem,e1];refine hend L _ ?_ rfl;have hnk:¬ key l[i]<key z:=fun h=>hlt (hn4.2 h);rw[zm6 hi,<- hAB,zv9 hB,hL]
   ·simp
   ·intro a ha;simp only[ymn,yog]at ha;rcases ha with ha|rfl
    ·intro hk;have hs0:=hsi.1;rw[<- hAB]at hs0;have:=(yop.1 (yop.1 hs0).1).2.2 a ha z (by simp);exact hnk (zn2 hk this)
    ·exact hnk
end
section
variable {α : Type} [Enc α]
theorem zm4(hsz:Enc.sz α = 12)(hone:∀ x : α,(enc x).cells.all PV.one=true)(key : α -> List Int)(cf:FuncId)(l:List α)(hl:l.length<=19)
  (hc:∀ x∈l,∀ y∈l,∃ n:Int,Sp P cf [enc x,enc y] (.pure (.int .i64 n))/\(n<0 ↔ key x<key y)) :
  SpM P F.ky [.sl (ens l),.int .i64 l.length,.fn cf []] 0 12 (ens (srt key l)) (.pure (.tup [])):=by
 refine SpM.of_vm c.ky (by simp) rfl (by simp[go_sem,(zb4 l).2.1]) ?_;simp[g.ky,go_sem];refine zim fun R hn hr hx=>?_;simp[g.re,go_sem,show ¬ (20<=(l.length:Int)) by omega];refine hx _ _ ?_;simp[go_sem];refine zge (zo5 hsz hone key cf l (by omega) hc) (by simp[go_sem]) rfl rfl (by simp) (by simp[go_sem]) (by simp[go_sem,(zb4 l).2.1]) rfl (zdx _ _ hsz) (cells_one hone _) (by simp[go_sem]) ?_;simp[go_sem];refine zim fun R2 hn2 hr2 hx2=>?_;simp[g.rf,go_sem,show ¬ (20<(l.length:Int)) by omega];refine hx2 _ _ ?_;simp[go_sem]
theorem zow(hsz:Enc.sz α = 12)(hone:∀ x : α,(enc x).cells.all PV.one=true)(key : α -> List Int)(cf:FuncId)(l:List α)(hl:l.length<=19)
  (hc:∀ x∈l,∀ y∈l,∃ n:Int,Sp P cf [enc x,enc y] (.pure (.int .i64 n))/\(n<0 ↔ key x<key y)) :
  SpM P F.j7 [.sl (ens l),.fn cf []] 0 12 (ens (srt key l)) (.pure (.tup [])):=by
 refine SpM.of_vm c.j7 (by simp) rfl (by simp[go_sem,(zb4 l).2.1]) ?_;simp[g.j7,go_sem];refine zge (zm4 hsz hone key cf l hl hc) (by simp[go_sem]) rfl rfl (by simp) (by simp[go_sem]) (by simp[go_sem,(zb4 l).2.1]) rfl (zdx _ _ hsz) (cells_one hone _) (by simp[go_sem]) ?_;simp[go_sem]
end
def gw0':GW:=.mk ⟨false,[],[]⟩ 0 false 0 [] []
theorem zsf(df:FuncId)(caps:List PV)(p:GTArc->Bool)(l:List GTArc)(hl:l.length<=1000000)(hp:∀ x∈l,Sp P df (enc x::caps) (.pure (.bool (p x)))) :
  SpM P F.j8 [.sl (ens l),.fn df caps] 0 12 (ens (l.filter (fun x => !p x)++List.replicate (l.length - (l.filter fun x => !p x).length) (⟨0,0,0,0,gw0'⟩:GTArc))) (.same (l.filter fun x => !p x).length):=by
 have hfl:(l.filter fun x => !p x).length<=l.length:=yoh _ _;refine SpM.of_vm c.j8 (by simp) rfl (by simp[go_sem];omega) ?_;simp[g.j8,go_sem];refine zab (zr6 l df caps p (by omega) hp) ?_;cases hi:l.findIdx? p with
 | none =>
  have hn:=yrs.1 hi;have hf:l.filter (fun x => !p x)=l:=List.filter_eq_self.2 fun x hx=>by simp[hn x hx]
  have hx:idxI p l = -1:=by simp[idxI,hi]
  simp[hx,hf,go_sem]
 | some k =>
  obtain⟨hk,hpk,hbef⟩:=yrt.1 hi;have hx:idxI p l=k:=by simp[idxI,hi]
  have hne:¬ ((k:Int) = -1):=by omega
  have e1:=i64s k (by omega);simp[hx,hne,e1,go_sem];have htk:(l.take k).filter (fun x => !p x)=l.take k:=List.filter_eq_self.2 fun x hx=>by rw[List.mem_take_iff_getElem]at hx;obtain⟨i,hi,rfl⟩:=hx;have:=hbef i (by omega);simpa using this
  have htk1:(l.take (k+1)).filter (fun x => !p x)=l.take k:=by rw[ymr hk,yol,htk];simp[hpk]
  refine zai (S:=fun x:List GTArc × Nat × Nat=>mkSt [(0,.own PIN 0 0 l.length),(1,.p (.fn df caps)),(5,.p (.int .i64 x.2.1)),(6,.p (.int .i64 x.2.2))] [(PIN,⟨12,avs x.1⟩)])
   (I:=fun x=>x.1.length=l.length/\x.2.1<x.2.2/\x.2.2<=l.length/\x.1.take x.2.1=(l.take x.2.2).filter (fun x => !p x)/\x.1.drop x.2.2=l.drop x.2.2/\x.2.1<=l.length) (m:=fun x=>l.length - x.2.2) (l,k,k+1)
   (Weak.to [0,1,5,6] [((PIN,0),PIN)] (by simp[go_sem])) ⟨rfl,by simp,by simp;omega,by rw[htk1],rfl,by simp;omega⟩ ?_
  rintro⟨L,i,j⟩ ⟨h1,h2,h3,h4,h5,h6⟩ R hn hr hx2;simp only at h1 h2 h3 h4 h5 h6;simp[g.q6,mkSt,go_sem];refine⟨fun hj=>?_,fun hj=>hx2 _ _ ?_⟩
  ·have e2:=i64s j (by omega);have e3:=i64s i (by omega);have hjL:L[j]?=some l[j]:=by
    have:(L.drop j)[0]?=(l.drop j)[0]?:=by rw[h5]
    simpa[hj]using this
   refine⟨by omega,zlx hjL ?_⟩
   try simp[go_sem]
   refine zaa (hp l[j] (ym3 hj)) (zb7 (by simp[go_sem]) (zgs _ _)) ?_;have htj:(l.take (j+1)).filter (fun x => !p x)=(l.take j).filter (fun x => !p x)++(if p l[j]then[]else[l[j]]):=by rw[ymr hj,yol];by_cases h:p l[j]<;>simp[h]
   rcases ymz (p l[j])with h7|h7
   ·simp[h7,e2,go_sem];refine hn (L,i,j+1) _ (Weak.to [0,1,5,6] [((PIN,0),PIN)] (by simp[go_sem])) ⟨h1,by show i<j+1;omega,by show j+1<=l.length;omega,by show L.take i=_;rw[htj,h4];simp[h7],?_,h6⟩ (by show l.length - (j+1)<l.length - j;omega);show L.drop (j+1)=l.drop (j+1);rw[<- List.drop_drop,h5,yoc]
   ·simp[h7,go_sem];refine⟨by omega,?_⟩;refine zlx (l:=L) (n:=i) (x:=L[i]'(by omega)) (by simp) ?_;simp[e2,e3,go_sem];have htki:(L.set i l[j]).take (i+1)=L.take i++[l[j]]:=by rw[ymr (by simp;omega),List.take_set_of_le (ym8 i)];simp
    refine hn (L.set i l[j],i+1,j+1) _ (Weak.to [0,1,5,6] [((PIN,0),PIN)] (by simp[go_sem])) ⟨by simp[h1],by show i+1<j+1;omega,by show j+1<=l.length;omega,by show(L.set i l[j]).take (i+1)=_;rw[htki,htj,h4];simp[h7],?_,by show i+1<=l.length;omega⟩ (by show l.length - (j+1)<l.length - j;omega);show(L.set i l[j]).drop (j+1)=l.drop (j+1);rw[List.drop_set_of_lt (by omega),<- List.drop_drop,h5,yoc]
  ·have hjl:j=l.length:=by omega
   subst hjl;rw[yn1]at h4;have hil:i=(l.filter fun x => !p x).length:=by rw[<- h4];simp;omega
   generalize (l.filter fun x => !p x)=D at *
   subst hil;have ht:(avs L).take D.length=avs D:=by rw[zzi,h4]
   have hm1:min D.length l.length=D.length:=yod h6;have hm2:D.length+(l.length - D.length)=l.length:=by omega
   simp[go_sem,h1,h6,hm1,hm2,h4];have hdl:L.drop l.length=[]:=by rw[<- h1];simp
   rw[hdl,yes,ypp];rfl
end Go.Ab
namespace Go.Ab
open Enc (enc)
@[go_sem] theorem yfl{P:Program}{N:Nat}{Q:Exit->St->Prop}{α : Type}[Enc α](o:List α)(x:AV)(f:AV->Outc)(d:Option Nat)(dd:List (List Nat))(ks:List Kt):vmO P N Q (.el (avs o++[x]) o.length f) d dd ks=vmO P N Q (f x) d dd ks:=by
 have:(avs o++[x])[o.length]?=some x:=by rw[yp3 (by simp[go_sem])];simp[go_sem]
 simp only[vmO,runO,this];exact propext ⟨fun⟨e,h,k⟩=>by cases h;exact k,fun k=>⟨_,rfl,k⟩⟩
@[go_sem] theorem yi2{α : Type}[Enc α](o:List α)(x y:AV):(avs o++[x]).set o.length y=avs o++[y]:=by rw[List.set_append_right _ _ (by simp[go_sem])];simp[go_sem]
theorem z7h{α : Type}[Enc α](l:List α)(r:List α):((ens (l++r)).map AV.p).take l.length=avs l:=by simp[avs,ens]
theorem zuw{st:St}{f:FuncId}{e:Nat}{vs:List AV}{args:List PV}{sz:Nat}{es:List PV}{K:PCall->AV->St->Prop}(hs:Sp P f args (.fresh sz es))(hv:vs.mapM (toPV st FUEL)=some args)
  (h:es.all (fun v=>v.sz == sz)=true/\0<sz/\es.length<=LIM) (h0:vs.flatMap (deps st FUEL)=[])
  (k:K ⟨f,args,.fresh sz es,none⟩ (.own e (st.site e).length 0 es.length) (st.alloc e ⟨sz,es.map .p⟩)):zl5 P st e f vs K :=
 zcl hs hv h st (by rw[h0];simp[killAll]) k
theorem z1a{st:St}{f:FuncId}{e:Nat}{vs:List AV}{args:List PV}{i sz:Nat}{es':List PV}{r:PV}{K:PCall->AV->St->Prop}(hs:SpM P f args i sz es' (.pure r))(hv:vs.mapM (toPV st FUEL)=some args)
  {s g len:Nat} {sl:Bool} (href:zli vs[i]?=some (s,g,len,sl)) {o:AObj} (ho:st.obj s g=some o) (hi:i<vs.length) (hl:len=o.es.length) (hl2:es'.length=len) (hsz:o.sz=sz) (hall:es'.all (fun v=>v.sz == sz)=true) (hone:(es'.flatMap PV.cells).all PV.one=true)
  (h0:(vs.eraseIdx i).flatMap (deps st FUEL)++o.es.flatMap (deps st 5)=[])
  (k:K ⟨f,args,.pure r,some (i,sz,es')⟩ (.p r) (st.setObj s g ⟨sz,es'.map .p⟩)):zl5 P st e f vs K:=by
 refine zge hs hv href ho hi hl hl2 hsz hall hone (by rw[h0];rfl) ?_;rw[h0];simpa[killAll]using k
structure GAuto.ok (a:GAuto):Prop where
 ring:a.ring.ok=true
 sy1:1<=a.sy
 sy2:a.sy<=32
 st1:0<=a.st
 st2:a.st<=64
 il:(a.ini.length:Int)=a.st
 fl:(a.fin.length:Int)=a.st
 al:a.arcs.length<=2048
 arcs:∀ x∈a.arcs,inA x a
 ini:∀ w∈a.ini,w.chk a.ring
 fin:∀ w∈a.fin,w.chk a.ring
theorem yem{r:GRing}{l:List GW}(h:∀ w∈l,w.chk r):(l.map fun w=>r.plus w r.zero)=l:=by have:(l.map fun w=>r.plus w r.zero)=l.map id:=ynr fun w hw=>zc7 (h w hw);rw[this,List.map_id]
theorem yde{r:GRing}(h:r.ok=true):r.parts.length<=3:=by
 by_cases h6:r.kind=6
 ·exact(GRing.ok_parts h h6).2.1
 ·simp[(GRing.ok_kind h h6).2.2]
theorem zy9(r:GRing)(l:List GW)(n:Nat)(hn:n<=90)(hn1:3<=n)(hr:r.ok=true)(hl:l.length<=64)(h:∀ w∈l,w.sm n)(c:∀ w∈l,w.chk r):Sp P F.fx [enc r,.sl (ens l)] (.pure (.sl (ens l))):=by
 have k:=z96 r l n (by omega) (by omega) (by omega) (fun w hw=>⟨h w hw,c w hw⟩) (zu2 hr hn1) (zbd hr)
 rwa[yem c]at k
theorem zpy(x y:GTArc):Sp P F.dt [enc x,enc y] (.pure (.int .i64 (lexI x.key y.key))):=by rw[<- zqi x.key y.key rfl,show List.zipWith cmpI x.key y.key=[cmpI x.f y.f,cmpI x.i y.i,cmpI x.o y.o,cmpI x.t y.t] from rfl];refine Sp.vz c.dt fun _=>?_;simp[g.dt,go_sem];refine zaa (zi2 x.f y.f) rfl ?_;simp[go_sem];refine zaa (zi2 x.i y.i) rfl ?_;simp[go_sem];refine zaa (zi2 x.o y.o) rfl ?_;simp[go_sem];refine zaa (zi2 x.t y.t) rfl ?_;simp[go_sem];refine zab (z99 [cmpI x.f y.f,cmpI x.i y.i,cmpI x.o y.o,cmpI x.t y.t] (by simp)) ?_;simp[go_sem]
theorem zqu(r:GRing)(w:GW)(hw:w.sm 1048576):Sp P F.gw [enc w,.ref (enc r)] (.pure (.bool (!decide (w.chk r)))):=by refine Sp.of_vmW c.gw (by simp) (Weak.openRef (t:=1) (v:=enc r) (n:=2) (by simp[go_sem]) (by simp[go_sem])) ?_;simp[g.gw,go_sem];refine zab (zor r w hw) ?_;simp[go_sem]
theorem zmw(r:GRing)(l:List GW)(m:Int)(hl:∀ w∈l,w.sm 1048576)(hlen:l.length<=2147483648):Sp P F.jr [enc r,.sl (ens l),.int .i64 m] (.pure (.bool (decide ((l.length:Int)=m/\∀ w∈l,w.chk r)))):=by
 refine Sp.vz c.jr fun _=>?_;have e:decide ((l.length:Int)=m/\∀ w∈l,w.chk r)=(decide ((l.length:Int)=m) && !l.any fun w => !decide (w.chk r)):=by rw[Bool.eq_iff_iff];simp
 rw[e];simp[g.jr,go_sem];refine⟨fun h=>?_,fun h=>by simp[h]⟩;refine zaa (zo6 l F.gw [.ref (enc r)] (fun w => !decide (w.chk r)) (by omega) fun w hw=>zqu r w (hl w hw)) (by simp[go_sem,zjc,zqy]) ?_;simp[go_sem,h]
theorem zm2(m:Int):Sp P F.jq [.int .i64 m] (.pure (.bool (decide (1<=m/\m<=32)))):=by refine Sp.vz c.jq fun _=>?_;simp[g.jq,go_sem];exact⟨fun h _=>h,fun h h'=>by omega⟩
end Go.Ab
