/-
Proofs for the law TransducerSumsPaths, part 42. Conditions: none.
-/
import Derived.Test.YtbhboeijjgiflaaGreatDoorDP41
import Derived.Test.YtbhboeijjgiflaaGreatDoorDP38
import Derived.Test.YtbhboeijjgiflaaGreatDoorDP39
import Derived.Test.YtbhboeijjgiflaaGreatDoorDP40
set_option maxRecDepth 100000
set_option maxHeartbeats 4000000
set_option linter.all false
namespace Go.Ab
open Enc (enc)
section
variable {E H s:Nat} (L:LB E H s)
theorem leM{a:Nat}(k:a<=1048576):4294967296^a<=4294967296^1048576:=by
 generalize (1048576:Nat)=N at *
 exact zb5 k
theorem ltM{x a:Nat}(h:x<4294967296^a)(k:a<=1048576):x<4294967296^1048576:=ymp h (leM k)
include L in
theorem z3g{k:Int}(hk:1<=k/\k<=5){v w:GW}{n:Nat}(hv:v.lb1 E H n)(hw:w.lb1 E H n)(hn:216<=szN s n)(hs:szN s n<=400000)(cv:v.chk ⟨k,[]⟩)(cw:w.chk ⟨k,[]⟩) :
  Sp P F.aa [enc (⟨k,[]⟩:GRing),enc v,enc w] (.pure (enc (zap k v w))):=by
 have h6:(⟨k,[]⟩:GRing).kind≠6:=by show k≠6;omega
 have hv':=(zpm L (cv.2.1 h6) hv hn).mono (show szN s n<=1048576 by omega);have hw':=(zpm L (cw.2.1 h6) hw hn).mono (show szN s n<=1048576 by omega);have:k=1\/k=2\/k=3\/k=4\/k=5:=by omega
 rcases this with rfl|rfl|rfl|rfl|rfl
 ·exact z3n v w hv' hw' cv cw
 ·exact z3m v w hv' hw' cv cw
 ·exact z3l v w hv' hw' cv cw
 ·exact z3k v w hv' hw' cv cw
 ·have hB:H^(n / 100)*2^(n % 100) / 46656<4294967296^szN s n:=ynh (ypr _ _) (L_HB L n);exact z3j v w hv' hw' cv cw _ _ _ (zhs hv.p) (zhs hw.p) (L.ene _) (ltM (L_D L n) (by omega)) (ltM (zmz _ _ _ hB hB) (by omega))
include L in
theorem yhg{m n:Nat}(hm:szN s m<=400000)(hn:szN s n<=400000):E^(m / 100)*E^(n / 100)<4294967296^1048576/\46656*(H^(m / 100)*2^(m % 100) / 46656*(H^(n / 100)*2^(n % 100) / 46656))<4294967296^1048576:=by
 refine⟨?_,?_⟩
 ·refine ymp (yo2 (L_D L m) (L_D L n)) ?_;rw[<- Nat.pow_add];exact leM (by omega)
 ·have b1:=yrh (H^(m / 100)*2^(m % 100)) 46656;have b2:=yrh (H^(n / 100)*2^(n % 100)) 46656;have hb:=znq b1 b2;have h3:=yo2 (L_HB L m) (L_HB L n);rw[<- Nat.pow_add]at h3;have h4:4294967296^(szN s m+szN s n)<=4294967296^1048576:=leM (by omega);exact ynh (by omega) (ymp h3 h4)
include L in
theorem zxc{k:Int}(hk:1<=k/\k<=5){v w:GW}{n:Nat}(hv:v.lb1 E H n)(hw:w.lb1 E H n)(hn:216<=szN s n)(hs:szN s n<=400000)(cv:v.chk ⟨k,[]⟩)(cw:w.chk ⟨k,[]⟩) :
  Sp P F.ae [enc (⟨k,[]⟩:GRing),enc v,enc w] (.pure (enc (zam k v w))):=by
 have h6:(⟨k,[]⟩:GRing).kind≠6:=by show k≠6;omega
 have sv:=zpm L (cv.2.1 h6) hv hn;have sw:=zpm L (cw.2.1 h6) hw hn;have hv':=sv.mono (show szN s n<=1048576 by omega);have hw':=sw.mono (show szN s n<=1048576 by omega);have:k=1\/k=2\/k=3\/k=4\/k=5:=by omega
 rcases this with rfl|rfl|rfl|rfl|rfl
 ·exact zxi v w hv' hw' cv cw
 ·exact zxh v w hv' hw' cv cw
 ·exact zxg v w hv' hw' cv cw
 ·exact zxf v w hv' hw' cv cw
 ·obtain⟨a1,a2⟩:=yhg L hs hs;exact zxe v w hv' hw' cv cw _ _ _ _ (zhs hv.p) (zhs hw.p) (L.ene _) (L.ene _) a1 a2 (sv.poly.monoR (by omega)) (sw.poly.monoR (by omega))
include L in
theorem ycy(r:GRing){v w:GW}{n:Nat}(hv:v.lb E H n)(hw:w.lb E H n)(hn:216<=szN s n)(hs:szN s n<=400000)(cv:v.chk r)(cw:w.chk r):Sp P F.aa [enc r,enc v,enc w] (.pure (enc (r.plus v w))):=by
 have hr0:=cv.1;by_cases h6:r.kind=6
 ·exact z3i r v w ((zgz L cv hv hn).mono (by omega)) ((zgz L cw hw hn).mono (by omega)) cv cw h6 fun i h h1 h2 =>
   z3g L ((GRing.ok_parts hr0 h6).2.2 _ (ym3 h)) (hv.ps _ (ym3 h1)) (hw.ps _ (ym3 h2)) hn hs (zdh cv h6 h h1) (zdh cw h6 h h2)
 ·have hk:=GRing.ok_kind hr0 h6;have he:r=⟨r.kind,[]⟩:=by rw[<- hk.2.2]
  have h1:r.plus v w=zap r.kind v w:=by simp[GRing.plus,h6]
  rw[h1,he];rw[he]at cv cw;exact z3g L ⟨hk.1,hk.2.1⟩ hv.o hw.o hn hs cv cw
include L in
theorem z7d(r:GRing){v w:GW}{n:Nat}(hv:v.lb E H n)(hw:w.lb E H n)(hn:216<=szN s n)(hs:szN s n<=400000)(cv:v.chk r)(cw:w.chk r):Sp P F.ae [enc r,enc v,enc w] (.pure (enc (r.times v w))):=by
 have hr0:=cv.1;by_cases h6:r.kind=6
 ·exact zxd r v w ((zgz L cv hv hn).mono (by omega)) ((zgz L cw hw hn).mono (by omega)) cv cw h6 fun i h h1 h2 =>
   zxc L ((GRing.ok_parts hr0 h6).2.2 _ (ym3 h)) (hv.ps _ (ym3 h1)) (hw.ps _ (ym3 h2)) hn hs (zdh cv h6 h h1) (zdh cw h6 h h2)
 ·have hk:=GRing.ok_kind hr0 h6;have he:r=⟨r.kind,[]⟩:=by rw[<- hk.2.2]
  have h1:r.times v w=zam r.kind v w:=by simp[GRing.times,h6]
  rw[h1,he];rw[he]at cv cw;exact zxc L ⟨hk.1,hk.2.1⟩ hv.o hw.o hn hs cv cw
theorem ybh{r:GRing}(hr:r.ok=true)(E H:Nat):r.zero.lb E H 0:=by unfold GRing.zero;rw[ym0 hr];refine⟨zr8 ..,fun x hx=>?_⟩;obtain⟨k,_,rfl⟩:=ym6.1 hx;exact zob ..
def lwM(r:GRing)(hr:r.ok=true)(lim:Nat)(h1:216<=szN s lim)(h2:szN s lim<=400000):Meas r where
 mb n w:=w.lb E H n
 lim:=lim
 mono h k:=h.mono L k
 zero:=ybh hr E H
 plus cv cw hv hw:=ycw L cv cw hv hw
 times cv cw hv hw:=z7b L cv cw hv hw
 plusS:=fun {v w n} hn cv cw hv hw=>ycy L r (hv.mono L hn) (hw.mono L hn) h1 h2 cv cw
 timesS:=fun {v w n} hn cv cw hv hw=>z7d L r (hv.mono L hn) (hw.mono L hn) h1 h2 cv cw
end
def GW.den1(w:GW):Nat:=w.q.v.den*pden w.poly
def GW.den(w:GW):Nat:=w.den1*(w.parts.map GW.den1).foldr (· * ·) 1
def lden(l:List GW):Nat:=(l.map GW.den).foldr (· * ·) 1
theorem zq8{a:Nat}:∀ {l:List Nat},a∈l->a ∣ l.foldr (· * ·) 1
 | x::l,h=>by
  rcases ym7.1 h with rfl|h
  ·exact yri _ _
  ·exact ypw (zq8 h) (yrj _ _)
theorem zq7:∀ {l:List Nat},(∀ x∈l,0<x)->0<l.foldr (· * ·) 1
 | [],_=>Nat.one_pos
 | x::l,h=>yoz (h x (by simp)) (zq7 fun y hy=>h y (by simp[hy]))
theorem zvn{a:Nat}:∀ {l:List Nat},(∀ x∈l,x<=4294967296^a)->l.foldr (· * ·) 1<=4294967296^(l.length*a)
 | [],_=>by simp
 | x::l,h=>by
  have:=yn4 (h x (by simp)) (zvn (l:=l) fun y hy=>h y (by simp[hy]));rw[<- Nat.pow_add]at this;have e:(x::l).length*a=a+l.length*a:=by simp[yne];omega
  rw[e];exact this
structure GW.li1 (w:GW):Prop where
 q:w.q.sm 3
 l:w.poly.length<=8
 p:psm w.poly 3
structure GW.li (w:GW):Prop where
 o:w.li1
 l:w.parts.length<=4
 ps:∀ x∈w.parts,x.li1
theorem GW.sm.li1{w:GW}(h:w.sm 3):w.li1:=⟨h.q,by have:=h.len;omega,h.poly⟩
theorem GW.sm.li{w:GW}(h:w.sm 3):w.li:=⟨h.li1,by have:=h.plen;omega,fun x hx=>(h.parts x hx).li1⟩
theorem z6a{w:GW}(h:w.li1):w.den1<=4294967296^28:=by have a:=(ratb h.q (by omega)).2;have b:=znh h.p (by omega);have hl:=h.l;have b':pden w.poly<=4294967296^25:=yps (ymp b (ynl (by omega) (by omega)));have:=yn4 (yps a) b';rw[<- Nat.pow_add]at this;exact this
theorem zy8(w:GW):0<w.den1:=yoz (ypt w.q.v.den_nz) (ypt (zfc _))
theorem yij{w:GW}(h:w.li):w.den<=4294967296^140:=by have:=yn4 (z6a h.o) (zvn (a:=28) (l:=w.parts.map GW.den1) fun x hx=>by obtain⟨y,hy,rfl⟩:=ym6.1 hx;exact z6a (h.ps y hy));rw[<- Nat.pow_add]at this;refine ymm this (ynl (by omega) ?_);have:=h.l;rw[ynp];omega
theorem yek(w:GW):0<w.den:=yoz (zy8 w) (zq7 fun x hx=>by obtain⟨y,_,rfl⟩:=ym6.1 hx;exact zy8 y)
theorem z84(l:List GW):0<lden l:=zq7 fun x hx=>by obtain⟨y,_,rfl⟩:=ym6.1 hx;exact yek y
theorem ydq{l:List GW}{n:Nat}(h:∀ w∈l,w.li)(hl:l.length<=n):lden l<4294967296^(n*140+1):=by
 have:=zvn (a:=140) (l:=l.map GW.den) fun x hx=>by obtain⟨y,hy,rfl⟩:=ym6.1 hx;exact yij (h y hy)
 rw[ynp]at this;refine ynh this (yqa (by omega) ?_);have:=ymu 140 hl;omega
theorem z85{l:List GW}{w:GW}(h:w∈l):w.den ∣ lden l:=zq8 (ym6.2 ⟨w,h,rfl⟩)
def HH(E:Nat):Nat:=46656*4294967296^3*(T100*E)
theorem yl2{E s:Nat}(he:0<E)(hl:E<4294967296^s)(hs:s<=4000):LB E (HH E) s:=by
 refine⟨he,?_,hl,?_,hs⟩
 ·unfold HH;exact yqs _ (by decide +kernel)
 ·have h1:T100*E<4294967296^(4+s):=by rw[ymt];exact yo2 z6v hl
  have h2:46656*4294967296^3<4294967296^4:=by decide +kernel
  have:=yo2 h2 h1;rw[<- Nat.pow_add]at this;have e:4+(4+s)=s+8:=by omega
  rw[e]at this;exact this
section
variable {E s:Nat} (L:LB E (HH E) s)
include L in
theorem yas{x:GRat}(hx:x.sm 3)(hd:x.v.den ∣ E):qL E (HH E) 100 x.v:=by
 obtain⟨c,hc⟩:=hd;have hc0:c≠0:=by rintro rfl;have:=L.e;omega
 have h1:=zd0 c hc0 (zq4 x.v);rw[<- hc]at h1;have h2:=(ratb hx (by omega)).1;have:=z8a L 0 1 (x.v.num.natAbs*c) (by rw[Nat.pow_one];exact h1) (by
  rw[Nat.pow_one,Nat.pow_zero,Nat.mul_one];unfold HH;have a:x.v.num.natAbs*c<=4294967296^3*E:=yn4 (yps h2) (by rw[hc];exact yqs _ (ypt x.v.den_nz));have b:E<=T100*E:=yqs _ yal
  calc 46656*(x.v.num.natAbs*c)<=46656*(4294967296^3*E):=yo5 _ a
   _=46656*4294967296^3*E:=by rw[yn3]
   _<=_:=yo5 _ b)
 exact this
theorem zx8:∀ {p:List GMono} {m:GMono},m∈p->m.coef.v.den ∣ pden p
 | x::p,m,h=>by
  rcases ym7.1 h with rfl|h
  ·exact yri _ _
  ·exact ypw (zx8 h) (yrj _ _)
include L in
theorem z4z{w:GW}(hp:PVal w.poly)(h:w.li1)(hd:w.den1 ∣ E):w.lb1 E (HH E) 100:=by
 refine⟨yas L h.q (ypw (yri _ _) hd),fun e=>?_⟩;rcases zjq hp e with h'|⟨m,hm,h'⟩
 ·rw[h'];exact zgm _
 ·rw[h'];exact yas L (h.p m hm) (ypw (zx8 hm) (ypw (yrj _ _) hd))
include L in
theorem yk1{r:GRing}{w:GW}(hc:w.chk r)(h:w.li)(hd:w.den ∣ E):w.lb E (HH E) 100:=by
 have hq:w.den1 ∣ E:=ypw (yri _ _) hd;by_cases h6:r.kind=6
 ·obtain⟨l,e,hs⟩:=hc.2.2 h6;refine⟨z4z L (by rw[e];exact zhp) h.o hq,fun x hx=>?_⟩;obtain⟨i,hi,rfl⟩:=yo7.1 hx;exact z4z L (si_p (hs i (by omega) hi)) (h.ps _ hx) (ypw (zq8 (ym6.2 ⟨_,hx,rfl⟩)) (ypw (yrj _ _) hd))
 ·have sp:=hc.2.1 h6;exact⟨z4z L (si_p sp) h.o hq,fun x hx=>by rw[sp.1]at hx;cases hx⟩
end
theorem yfy{r:GRing}(M:Meas r){n:Nat}{l:List GTArc}(h:∀ x∈l,M.mb n x.w/\x.w.chk r):∀ x∈tidT r l,M.mb (l.length+n) x.w:=fun x hx=>by
 have hs:=zb4 (key:=GTArc.key) l;have h':∀ x∈srt GTArc.key l,M.mb n x.w/\x.w.chk r:=fun x hx=>h x ((hs.2.2 x).1 hx)
 have iv:=zkv (key:=GTArc.key) (up:=upT r) (nw:=id) (Q:=fun k x=>M.mb (k+n) x.w/\x.w.chk r) (fun k x hx=>⟨M.mono hx.1 (by omega),hx.2⟩) (l:=srt GTArc.key l) (fun x hx=>⟨M.mono (h' x hx).1 (by show n<=0+n;omega),(h' x hx).2⟩)
  (fun k z x hx hz=>⟨by have:=M.plus hz.2 (h' x hx).2 hz.1 (M.mono (h' x hx).1 (by omega));exact M.mono this (by omega),(zbu hz.2 (h' x hx).2:(r.plus z.w x.w).chk r)⟩) (fun k x hx=>⟨M.mono hx.1 (by omega),hx.2⟩) _ (ym8 _)
 rw[ymq (ym8 _),hs.2.1]at iv;exact(iv.2 x (yo9.1 hx).1).1
theorem z8s{t:GTrans}(ok:t.ok)(M:Meas t.ring){n:Nat}(hi:∀ w∈t.ini,M.mb n w)(hf:∀ w∈t.fin,M.mb n w)(ha:∀ x∈t.arcs,M.mb n x.w):t.nf.fits M (t.arcs.length+n):=by have h0:=ok.il;have h1:=ok.fl;have hc:∀ x∈t.arcs,x.w.chk t.ring:=fun x hx=>(ok.arcs x hx).2.2.2.2.2.2.2.2;have ht:=yfy M (n:=n) fun x hx=>⟨ha x hx,hc x hx⟩;refine⟨rfl,⟨ok.st1,ok.st2⟩,fun x hx=>?_,⟨fun w hw=>⟨ok.ini w hw,M.mono (hi w hw) (by omega)⟩,by show t.ini.length=t.st.toNat;omega⟩,⟨fun w hw=>⟨ok.fin w hw,M.mono (hf w hw) (by omega)⟩,by show t.fin.length=t.st.toNat;omega⟩,ok.ring⟩;obtain⟨a1,a2,a3,a4,a5,a6,a7,a8,a9⟩:=(zp3 ok).arcs x hx;have e:t.nf.st=t.st:=rfl;refine⟨⟨a9,ht x hx⟩,⟨a1,by show x.f<(t.nf.st.toNat:Int);omega⟩,a3,by show x.t<(t.nf.st.toNat:Int);omega⟩
def GTrans.wts(t:GTrans):List GW:=t.ini++(t.fin++t.arcs.map GTArc.w)
theorem ltW{x a b:Nat}(h:x<4294967296^a)(k:a<=b):x<4294967296^b:=ymp h (zb5 k)
theorem yct(p q:List GMono)(D D' B B':Nat)(hp:PVal p)(hq:PVal q)(h1:pqb D B p)(h2:pqb D' B' q)(hD0:D≠0)(hD0':D'≠0)(hD:D*D'<4294967296^1048576)
  (hB:46656*(B*B')<4294967296^1048576) (hs:psm p 524288) (hs':psm q 524288):pmOk p q:=by
 have hpl:=za0 hp;have hql:=za0 hq;have c1:=zcw h1 hp;have c2:=zcw h2 hq;have hDD:D*D'≠0:=yoj hD0 hD0';refine⟨hs,hs',fun i k h=>?_⟩;have h3:=zvm (m:=p[i]) (q:=q.take k) (c1 _ (ym3 h)) (fun x hx=>c2 x (yn2 hx)) (zkp (p:=p.take i) (fun x hx=>c1 x (yn2 hx)) c2 hDD) hDD;refine zee h3 (zia _ (zbt _ _)) hDD hD (ynh ?_ hB);have h4:(p.take i).length+1<=216:=by simp;omega
 have h5:(q.take k).length<=216:=by simp;omega
 clear hD hB;generalize B*B'=C at *
 calc (p.take i).length*(q.length*C)+(q.take k).length*C<=(p.take i).length*(216*C)+1*(216*C):=Nat.add_le_add (yo5 _ (ymu _ hql)) (by rw[Nat.one_mul];exact ymu _ h5)
  _=((p.take i).length+1)*(216*C):=by rw[yn7]
  _<=216*(216*C):=ymu _ h4
  _=46656*C:=by omega
structure MeasP {r:GRing} (M:Meas r):Prop where
 plusP:∀ {v w:GW} {n:Nat},n<=M.lim->v.chk r->w.chk r->M.mb n v->M.mb n w->Sp P F.an [enc r,enc v,enc w] (.pure (enc (r.plus v w)))
 timesP:∀ {v w:GW} {n:Nat},n<=M.lim->v.chk r->w.chk r->M.mb n v->M.mb n w->Sp P F.ax [enc r,enc v,enc w] (.pure (enc (r.times v w)))
 smP:∀ {w:GW} {n:Nat},n<=M.lim->w.chk r->M.mb n w->w.sm 400000
section
variable {E H s:Nat} (L:LB E H s)
include L in
theorem ya2{v w:GW}{n:Nat}(hv:v.lb1 E H n)(hw:w.lb1 E H n)(hs:szN s n<=400000)(pv:PVal v.poly)(pw:PVal w.poly):pmOk v.poly w.poly:=by have hB:H^(n / 100)*2^(n % 100) / 46656<4294967296^szN s n:=ynh (ypr _ _) (L_HB L n);have s1:psm v.poly (szN s n):=zee (zhs hv.p) pv (L.ene _) (L_D L n) hB;have s2:psm w.poly (szN s n):=zee (zhs hw.p) pw (L.ene _) (L_D L n) hB;obtain⟨a1,a2⟩:=yhg L hs hs;exact yct _ _ _ _ _ _ pv pw (zhs hv.p) (zhs hw.p) (L.ene _) (L.ene _) a1 a2 (s1.monoR (by omega)) (s2.monoR (by omega))
theorem yk0(r:GRing)(hr:r.ok=true)(lim:Nat)(h1:216<=szN s lim)(h2:szN s lim<=400000):MeasP (lwM L r hr lim h1 h2):=by
 refine⟨fun {v w n} hn cv cw hv hw=>?_,fun {v w n} hn cv cw hv hw=>?_,fun {w n} hn cw hw=>(zgz L cw (GW.lb.mono L hw hn) h1).mono h2⟩
 ·exact ztw r v w (szN s lim) (zgz L cv (GW.lb.mono L hv hn) h1) (zgz L cw (GW.lb.mono L hw hn) h1) h2 (by omega) cv cw
 ·have kv:=GW.lb.mono L hv hn;have kw:=GW.lb.mono L hw hn;have sv:v.sm 400000:=(zgz L cv kv h1).mono h2;have sw:w.sm 400000:=(zgz L cw kw h1).mono h2;refine z1w r v w (sv.mono (by omega)) (sw.mono (by omega)) cv cw (fun h5=>?_) fun i h h3 h4 h5=>?_
  ·exact ya2 L kv.o kw.o h2 (si_p (cv.2.1 (by rw[h5];decide))) (si_p (cw.2.1 (by rw[h5];decide)))
  ·have h6:r.kind=6:=by apply Decidable.byContradiction;intro h6;have:=(GRing.ok_kind hr h6).2.2;rw[this]at h;simp at h
   exact ya2 L (kv.ps _ (ym3 h3)) (kw.ps _ (ym3 h4)) h2 (si_p ((cv.2.2 h6).2.2 i h h3)) (si_p ((cw.2.2 h6).2.2 i h h4))
end
theorem zro{t:GTrans}(ok:t.ok)(h:∀ w∈t.wts,w.li)(hl:t.wts.length<=22):∃ M:Meas t.ring,M.lim=12000/\MeasP M/\t.nf.fits M (t.arcs.length+100):=by
 have hE:=ydq h hl;have L0:∀ s,s=3081->LB (lden t.wts) (HH (lden t.wts)) s:=fun s e=>yl2 (z84 _) (ltW hE (by omega)) (by omega);have L:=L0 3081 rfl;refine⟨lwM L t.ring ok.ring 12000 (by decide) (by decide),rfl,yk0 L t.ring ok.ring 12000 (by decide) (by decide),?_⟩;have hb:∀ w∈t.wts,w.chk t.ring->w.lb (lden t.wts) (HH (lden t.wts)) 100:=fun w hw hc=>yk1 L hc (h w hw) (z85 hw)
 exact z8s ok (lwM L t.ring ok.ring 12000 (by decide) (by decide)) (fun w hw=>hb w (by simp[GTrans.wts,hw]) (ok.ini w hw)) (fun w hw=>hb w (by simp[GTrans.wts,hw]) (ok.fin w hw))
  (fun x hx=>hb x.w (by simp only[GTrans.wts,ymn,ym6];exact .inr (.inr ⟨x,hx,rfl⟩)) (ok.arcs x hx).2.2.2.2.2.2.2.2)
end Go.Ab
namespace Go.Ab
open Enc (enc)
attribute [local go_sem] zal Opd.slots
theorem zxn(l:Int)(h:0<=l/\l<=64):Sp P F.du [.int .i64 l] (.pure (.int .i64 (stp l:Nat))):=by
 have:=yb8 l h;have e:(if l=0 then(0:Int)else 1)=((stp l:Nat):Int):=by unfold stp;split<;>rfl
 rwa[e]at this
def f1S(t:GTrans)(wx wy:List Int)(I J N:Nat)(T:List (List GW))(ord:List Int)(i k idx q:Nat)(w:GW)(x:Nat):St :=
 ⟨[(0,.ptr 900000 0 0 0),(1,.p (.sl (ens ord))),(4,.p (.int .i64 i)),(5,.p (.int .i64 k)),(7,.p (.int .i64 q)),(8,.ptr 3 0 0 0),(15,.p (.int .i64 I)),(16,.p (.int .i64 i)),(26,.p (.int .i64 J)),(27,.p (.int .i64 k)),(30,.p (.sl (ens ord))),(31,.p (.int .i64 ord.length)),(32,.p (.int .i64 idx)),(60,.p (.sl (ens t.arcs))),(61,.p (.int .i64 t.arcs.length)),(62,.p (.int .i64 x))],
  hpT t wx wy I J N T++[(3,[some ⟨8,[.p (enc w)]⟩]),(DEAD,[none])]⟩
theorem yk2:g.nr=.seq (.reg [⟨some 63,.ibin .lss (.t 62) (.t 61),none⟩] []) (.seq (.cond (.t 63) [63] (.nop) (.ext 6)) (.seq (.blk 7 zwg) z0t)):=rfl
def f2S(t:GTrans)(wx wy:List Int)(I J N:Nat)(T:List (List GW))(ord:List Int)(i k idx q:Nat)(w:GW)(x:Nat)(a:GTArc):St :=
 ⟨[(0,.ptr 900000 0 0 0),(1,.p (.sl (ens ord))),(4,.p (.int .i64 i)),(5,.p (.int .i64 k)),(7,.p (.int .i64 q)),(8,.ptr 3 0 0 0),(10,.ptr 10 0 0 0),(15,.p (.int .i64 I)),(16,.p (.int .i64 i)),(26,.p (.int .i64 J)),(27,.p (.int .i64 k)),(30,.p (.sl (ens ord))),(31,.p (.int .i64 ord.length)),(32,.p (.int .i64 idx)),(60,.p (.sl (ens t.arcs))),(61,.p (.int .i64 t.arcs.length)),(62,.p (.int .i64 x))],
  hpT t wx wy I J N T++[(3,[some ⟨8,[.p (enc w)]⟩]),(10,[some ⟨12,[.p (enc a)]⟩]),(DEAD,[none])]⟩
theorem zas(I J N:Nat)(T:List (List GW)):zbs [900000,900001,900002,900003] ((List.range I).map (outV J))=true/\(∀ x:Option AObj,x∈famR I J N->zrf [900000,900001,900002,900003] x=true)/\∀ x:Option AObj,x∈famC T->zrf [900000,900001,900002,900003] x=true:=by
 refine⟨zvy _ rfl J _,fun x hx=>?_,fun x hx=>?_⟩
 ·obtain⟨i,_,rfl⟩:=ym6.1 hx;exact zve _ rfl N _ _
 ·obtain⟨l,_,rfl⟩:=ym6.1 hx;exact ybf _ l
theorem yd7(t:GTrans)(wx wy:List Int)(I J N:Nat)(T:List (List GW))(ord:List Int)(i k idx q:Nat)(w:GW)(x:Nat)(A:FA)(hx:x<t.arcs.length)(R:Exit->St->Option FA->Prop)
  (hn:∀ s,Weak s (f2S t wx wy I J N T ord i k idx q w x t.arcs[x])->MR P 104 z5l.er s (some A) R) :
  MR P 104 zwg.er (f1S t wx wy I J N T ord i k idx q w x) (some A) R:=by
 unfold zwg;refine MR.gseq ?_;generalize z5l=FB at *
 simp[f1S,go_sem,hpT,tabV];refine zae hx ?_;refine hn _ (Weak.toF [0,1,4,5,7,8,10,15,16,26,27,30,31,32,60,61,62] [900000,900001,900002,900003] [((3,0),3),((10,0),10)] ?_);simp[go_sem,f2S,hpT,tabV];exact zas I J N T
theorem yhq(t:GTrans)(wx wy:List Int)(I J N:Nat)(T:List (List GW))(ord:List Int)(i k idx q:Nat)(w:GW)(x:Nat)(a:GTArc)(A:FA)(hl:T.length=I*J)(hN:∀ l∈T,l.length=N)(ha:a.fit N)(R:Exit->St->Option FA->Prop)
  (hn:∀ b:Bool,(b=true ↔ a.f.toNat=q/\fitT wx wy i k a)->∀ s,Weak s ⟨(76,.p (.bool b))::(f2S t wx wy I J N T ord i k idx q w x a).sl,(f2S t wx wy I J N T ord i k idx q w x a).hp⟩->MR P 104 z0u.er s (some A) R) :
  MR P 104 z5l.er (f2S t wx wy I J N T ord i k idx q w x a) (some A) R:=by
 unfold z5l;refine MR.gseq ?_;generalize z0u=FC at *
 obtain⟨b,hb,hf⟩:∃ b:Bool,(b=true ↔ fitT wx wy i k a)/\Sp P F.be [.ref (tabP t wx wy (tabA I J T)),enc a,.int .i64 i,.int .i64 k] (.pure (.bool b)):=⟨_,decide_eq_true_iff,yd2 t wx wy (tabA I J T) a i k⟩;by_cases hq:a.f=(q:Int)
 ·simp[f2S,go_sem,hpT,tabV,hq];refine zaa hf (zb7 (z65 (N:=N) (by simp[zpb,St.site,look,hpT,tabV]) hl hN) (by simp[go_sem,hq])) ?_;simp[go_sem];refine hn b ?_ _ (Weak.toF [76,0,1,4,5,7,8,10,15,16,26,27,30,31,32,60,61,62] [900000,900001,900002,900003] [((3,0),3),((10,0),10)] ?_)
  ·have:a.f.toNat=q:=by omega
   rw[hb];exact⟨fun h=>⟨this,h⟩,fun h=>h.2⟩
  ·simp[go_sem,f2S,hpT,tabV,hq];exact zas I J N T
 ·simp[f2S,go_sem,hpT,tabV,hq];refine hn false ?_ _ (Weak.toF [76,0,1,4,5,7,8,10,15,16,26,27,30,31,32,60,61,62] [900000,900001,900002,900003] [((3,0),3),((10,0),10)] ?_)
  ·have:=ha.1.1;exact⟨fun h=>(by cases h),fun h=>absurd h.1 (by omega)⟩
  ·simp[go_sem,f2S,hpT,tabV];exact zas I J N T
theorem yhr(t:GTrans)(wx wy:List Int)(I J N:Nat)(T:List (List GW))(ord:List Int)(i k idx q:Nat)(w:GW)(x:Nat)(a:GTArc)(A:FA)(b:Bool)(hi:i+stp a.i<I)(hk:k+stp a.o<J)(hI:I<=1000)(hJ:J<=1000)(hp:(i+stp a.i)*J+(k+stp a.o)<T.length)(hN:∀ l∈T,l.length=N)(ha:a.fit N)
  (hai:0<=a.i/\a.i<=64) (hao:0<=a.o/\a.o<=64)
  (ht:Sp P F.ax [enc t.ring,enc w,enc a.w] (.pure (enc (t.ring.times w a.w))))
  (hpl:Sp P F.an [enc t.ring,enc ((T.getD ((i+stp a.i)*J+(k+stp a.o)) []).getD a.t.toNat t.ring.zero),enc (t.ring.times w a.w)] (.pure (enc (t.ring.plus ((T.getD ((i+stp a.i)*J+(k+stp a.o)) []).getD a.t.toNat t.ring.zero) (t.ring.times w a.w)))))
  (R:Exit->St->Option FA->Prop)
  (hn:∀ s,Weak s (f1S t wx wy I J N (if b=true then adT t.ring T ((i+stp a.i)*J+(k+stp a.o)) a.t.toNat (t.ring.times w a.w)else T) ord i k idx q w x)->R .normal s (some A)) :
  MR P 104 z0u.er ⟨(76,.p (.bool b))::(f2S t wx wy I J N T ord i k idx q w x a).sl,(f2S t wx wy I J N T ord i k idx q w x a).hp⟩ (some A) R:=by
 unfold z0u;refine MR.gcond (t:=b) (by simp[go_sem]) (fun h=>?_) (fun h=>MR.gnop (hn _ ?_))
 ·subst h;refine MR.gregD rfl rfl ?_;have e1:IntKind.i64.wrap ((i:Int)+(stp a.i:Nat))=((i+stp a.i:Nat):Int):=(i64w (by omega) (by omega)).trans (by omega);have e2:IntKind.i64.wrap ((k:Int)+(stp a.o:Nat))=((k+stp a.o:Nat):Int):=(i64w (by omega) (by omega)).trans (by omega);have e3:a.t=((a.t.toNat:Nat):Int):=by have:=ha.2.1;omega
  simp[f2S,go_sem,hpT,tabV];refine zab (zxn a.i hai) ?_;simp[go_sem,e1];refine zab (zxn a.o hao) ?_;simp[go_sem,e2];refine zab ht ?_;simp[go_sem];refine zt5 (zzx t wx wy I J N T (i+stp a.i) (k+stp a.o) a.t.toNat hi hk hp (by have:=ha.2.2;omega) ?_ (t.ring.times w a.w) hpl) ?_ ?_ ?_ ?_ ?_
  ·rw[ymo,yms hp];exact hN _ (ym3 hp)
  ·simp[go_sem,<- e3]
  ·simp[zpb,St.site,look,hpT,tabV]
  ·rfl
  ·show(true&&hpOk [900000,900001,900002,900003] (hpT t wx wy I J N T)&&true&&hpOk [900000,900001,900002,900003] (hpT t wx wy I J N _))=true;rw[zqg,zqg];rfl
  ·refine hn _ (Weak.toF [0,1,4,5,7,8,15,16,26,27,30,31,32,60,61,62] [900000,900001,900002,900003] [((3,0),3)] ?_);simp[go_sem,f1S,f2S,hpT,tabV];exact zas I J N _
 ·subst h;refine Weak.toF [0,1,4,5,7,8,15,16,26,27,30,31,32,60,61,62] [900000,900001,900002,900003] [((3,0),3)] ?_;simp[go_sem,f1S,f2S,hpT,tabV];exact zas I J N T
structure plOk (t:GTrans) (wx wy:List Int) (I J N:Nat) (i k q:Nat) (w:GW) (T:List (List GW)) (a:GTArc):Prop where
 len:T.length=I*J
 row:∀ l∈T,l.length=N
 fit:a.fit N
 ai:0<=a.i/\a.i<=64
 ao:0<=a.o/\a.o<=64
 ins:a.f.toNat=q->fitT wx wy i k a->i+stp a.i<I/\k+stp a.o<J
 ht:Sp P F.ax [enc t.ring,enc w,enc a.w] (.pure (enc (t.ring.times w a.w)))
 hpl:∀ p,Sp P F.an [enc t.ring,enc ((T.getD p []).getD a.t.toNat t.ring.zero),enc (t.ring.times w a.w)] (.pure (enc (t.ring.plus ((T.getD p []).getD a.t.toNat t.ring.zero) (t.ring.times w a.w))))
theorem z3r{I J i k:Nat}(hi:i<I)(hk:k<J):i*J+k<I*J:=by have:=ymu J (yqd hi);rw[yne]at this;omega
theorem yd8(t:GTrans)(wx wy:List Int)(I J N:Nat)(T:List (List GW))(ord:List Int)(i k idx q:Nat)(w:GW)(A:FA)(hJ:J=wy.length+1)(hI:I<=1000)(hJ1:J<=1000)(hal:t.arcs.length<=1000)
  (hok:∀ x,(h:x<t.arcs.length)->plOk t wx wy I J N i k q w ((t.arcs.take x).foldl (arT t.ring wx wy i k q w) T) t.arcs[x]) {s:St} (hw:Weak s (f1S t wx wy I J N T ord i k idx q w 0)) :
  MR P 104 (GC.loop g.nr).er s (some A) fun ex s B=>ex=.exit 6/\B=some A/\Weak s (f1S t wx wy I J N (t.arcs.foldl (arT t.ring wx wy i k q w) T) ord i k idx q w t.arcs.length):=by
 refine MR.gloop (I:=fun n s B=>∃ x,x<=t.arcs.length/\n=t.arcs.length - x/\Weak s (f1S t wx wy I J N ((t.arcs.take x).foldl (arT t.ring wx wy i k q w) T) ord i k idx q w x)/\B=some A) t.arcs.length ⟨0,by omega,by omega,hw,rfl⟩ ?_;rintro n0 s B ⟨x,hx,rfl,hw,rfl⟩;refine MR.weak hw ?_;generalize hR:(fun(ex:Exit) (s:St) (B:Option FA)=>(ex=.normal->∃ m,m<t.arcs.length - x/\∃ x,x<=t.arcs.length/\m=t.arcs.length - x/\Weak s (f1S t wx wy I J N ((t.arcs.take x).foldl (arT t.ring wx wy i k q w) T) ord i k idx q w x)/\B=some A)/\(ex ≠ .normal->ex=.exit 6/\B=some A/\Weak s (f1S t wx wy I J N (t.arcs.foldl (arT t.ring wx wy i k q w) T) ord i k idx q w t.arcs.length)))=R;have r1:x<t.arcs.length->∀ s,Weak s (f1S t wx wy I J N ((t.arcs.take (x+1)).foldl (arT t.ring wx wy i k q w) T) ord i k idx q w (x+1))->R .normal s (some A):=fun h s hw=>by subst hR;exact⟨fun _=>⟨t.arcs.length - (x+1),by omega,x+1,by omega,rfl,hw,rfl⟩,fun h=>absurd rfl h⟩
 have r2:x=t.arcs.length->∀ s,Weak s (f1S t wx wy I J N ((t.arcs.take x).foldl (arT t.ring wx wy i k q w) T) ord i k idx q w x)->R (.exit 6) s (some A):=fun h s hw=>by subst hR;refine⟨fun h=>(by cases h),fun _=>⟨rfl,rfl,?_⟩⟩;rw[h,yn1]at hw;exact hw
 clear hR hw;have hst:∀ h:x<t.arcs.length,(t.arcs.take (x+1)).foldl (arT t.ring wx wy i k q w) T=arT t.ring wx wy i k q w ((t.arcs.take x).foldl (arT t.ring wx wy i k q w) T) t.arcs[x]:=fun h=>by rw[ymr h,ynn];rfl
 have hok':=hok x;clear hok;generalize (t.arcs.take x).foldl (arT t.ring wx wy i k q w) T=Tx at *
 rw[yk2];by_cases hlt:x<t.arcs.length
 ·have ok:=hok' hlt;rw[hst hlt]at r1;have r3:=r1 hlt;clear r1 r2 hst;have e1:=i64s x (by omega);have hA:MR P 104 zwg.er (f1S t wx wy I J N Tx ord i k idx q w x) (some A) fun ex s B=>(exB 7 ex=.normal->MR P 104 z0t.er s B R)/\(exB 7 ex ≠ .normal->R (exB 7 ex) s B):=by
   refine yd7 t wx wy I J N Tx ord i k idx q w x A hlt _ fun s hw=>MR.weak hw (yhq t wx wy I J N Tx ord i k idx q w x t.arcs[x] A ok.len ok.row ok.fit _ fun b hb s hw=>MR.weak hw ?_);have hfin:∀ s,Weak s (f1S t wx wy I J N (if b=true then adT t.ring Tx ((i+stp t.arcs[x].i)*J+(k+stp t.arcs[x].o)) t.arcs[x].t.toNat (t.ring.times w t.arcs[x].w)else Tx) ord i k idx q w x)->(exB 7 .normal=.normal->MR P 104 z0t.er s (some A) R)/\(exB 7 .normal ≠ .normal->R (exB 7 .normal) s (some A)):=fun s hw=>by
    have he:(if b=true then adT t.ring Tx ((i+stp t.arcs[x].i)*J+(k+stp t.arcs[x].o)) t.arcs[x].t.toNat (t.ring.times w t.arcs[x].w)else Tx)=arT t.ring wx wy i k q w Tx t.arcs[x]:=by
     unfold arT;rw[hJ];by_cases hc:b=true
     ·rw[ym0 hc,ym0 (hb.1 hc)]
     ·rw[ym1 hc,ym1 fun h=>hc (hb.2 h)]
    rw[he]at hw;refine⟨fun _=>MR.weak hw (MR.of_vm ?_),fun h=>absurd rfl h⟩;simp[z0t,f1S,go_sem,hpT,tabV,e1];refine r3 _ (Weak.toF [0,1,4,5,7,8,15,16,26,27,30,31,32,60,61,62] [900000,900001,900002,900003] [((3,0),3)] ?_);simp[go_sem,f1S,hpT,tabV];exact zas I J N _
   cases b with
   | false =>
    unfold z0u;refine MR.gcond (t:=false) (by simp[go_sem]) (fun h=>by cases h) (fun h=>MR.gnop (hfin _ ?_));refine Weak.toF [0,1,4,5,7,8,15,16,26,27,30,31,32,60,61,62] [900000,900001,900002,900003] [((3,0),3)] ?_;simp[go_sem,f1S,f2S,hpT,tabV];exact zas I J N Tx
   | true =>
    obtain⟨c1,c2⟩:=hb.1 rfl;obtain⟨c3,c4⟩:=ok.ins c1 c2;exact yhr t wx wy I J N Tx ord i k idx q w x t.arcs[x] A true c3 c4 hI hJ1 (by rw[ok.len];exact z3r c3 c4) ok.row ok.fit ok.ai ok.ao ok.ht (ok.hpl _) _ hfin
  refine MR.gseq ?_;generalize zwg=FA0 at *
  simp[f1S,go_sem,hlt];refine MR.gseq' (MR.gcond (t:=true) (by simp[go_sem,hlt]) (fun _=>MR.gnop ⟨fun _=>?_,fun h=>absurd rfl h⟩) (fun h=>by cases h));refine MR.gseq' (MR.gblk ?_);refine MR.weak ?_ hA;refine Weak.toF [0,1,4,5,7,8,15,16,26,27,30,31,32,60,61,62] [900000,900001,900002,900003] [((3,0),3)] ?_;simp[go_sem,f1S,hpT,tabV];exact zas I J N Tx
 ·have hx':x=t.arcs.length:=by omega
  have r3:=r2 hx';clear r1 r2 hst;refine MR.gseq ?_;generalize zwg=FA0 at *
  generalize z0t=FZ0 at *
  simp[f1S,go_sem,hlt];refine MR.gseq' (MR.gcond (t:=false) (by simp[go_sem,hlt]) (fun h=>(by cases h)) (fun _=>MR.gext ⟨fun h=>(by cases h),fun _=>r3 _ ?_⟩));refine Weak.toF [0,1,4,5,7,8,15,16,26,27,30,31,32,60,61,62] [900000,900001,900002,900003] [((3,0),3)] ?_;simp[go_sem,f1S,hpT,tabV];exact zas I J N Tx
theorem yhp:g.nt=.seq (.reg [⟨some 33,.ibin .lss (.t 32) (.t 31),none⟩] []) flB9:=rfl
def toI(l:List Nat):List Int:=l.map fun(q:Nat)=>(q:Int)
theorem zdr(l:List Nat):(toI l).length=l.length:=by simp[toI]
def f3S(t:GTrans)(wx wy:List Int)(I J N:Nat)(T:List (List GW))(ord:List Nat)(i k idx:Nat):St :=
 ⟨[(0,.ptr 900000 0 0 0),(1,.p (.sl (ens (toI ord)))),(4,.p (.int .i64 i)),(5,.p (.int .i64 k)),(15,.p (.int .i64 I)),(16,.p (.int .i64 i)),(26,.p (.int .i64 J)),(27,.p (.int .i64 k)),(30,.p (.sl (ens (toI ord)))),(31,.p (.int .i64 ord.length)),(32,.p (.int .i64 idx))],
  hpT t wx wy I J N T++[(DEAD,[none])]⟩
def f5S(t:GTrans)(wx wy:List Int)(I J N:Nat)(T:List (List GW))(ord:List Nat)(i k idx q:Nat):St :=
 ⟨[(0,.ptr 900000 0 0 0),(1,.p (.sl (ens (toI ord)))),(4,.p (.int .i64 i)),(5,.p (.int .i64 k)),(7,.p (.int .i64 q)),(15,.p (.int .i64 I)),(16,.p (.int .i64 i)),(26,.p (.int .i64 J)),(27,.p (.int .i64 k)),(30,.p (.sl (ens (toI ord)))),(31,.p (.int .i64 ord.length)),(32,.p (.int .i64 idx))],
  hpT t wx wy I J N T++[(DEAD,[none])]⟩
def f6S(t:GTrans)(wx wy:List Int)(I J N:Nat)(T:List (List GW))(ord:List Nat)(i k idx q:Nat)(w:GW):St :=
 ⟨[(0,.ptr 900000 0 0 0),(1,.p (.sl (ens (toI ord)))),(4,.p (.int .i64 i)),(5,.p (.int .i64 k)),(7,.p (.int .i64 q)),(8,.ptr 3 0 0 0),(15,.p (.int .i64 I)),(16,.p (.int .i64 i)),(26,.p (.int .i64 J)),(27,.p (.int .i64 k)),(30,.p (.sl (ens (toI ord)))),(31,.p (.int .i64 ord.length)),(32,.p (.int .i64 idx))],
  hpT t wx wy I J N T++[(3,[some ⟨8,[.p (enc w)]⟩]),(DEAD,[none])]⟩
section
variable (t:GTrans) (wx wy:List Int) (I J N:Nat) (T:List (List GW)) (ord:List Nat) (i k idx:Nat) (A:FA) (R:Exit->St->Option FA->Prop)
theorem f3_a(hx:idx<ord.length)(hn:∀ s,Weak s (f5S t wx wy I J N T ord i k idx ord[idx])->MR P 104 flB5.er s (some A) R):MR P 104 flB6.er (f3S t wx wy I J N T ord i k idx) (some A) R:=by
 unfold flB6;refine MR.gseq ?_;generalize flB5=FB at *
 have hx2:idx<(toI ord).length:=by rw[zdr];exact hx
 have hg:(toI ord)[idx]=((ord[idx]:Nat):Int):=by simp[toI]
 simp[f3S,go_sem,hpT,tabV,zdr];refine zae hx2 ?_;rw[hg];refine hn _ (Weak.toF [0,1,4,5,7,15,16,26,27,30,31,32] [900000,900001,900002,900003] [] ?_);simp[go_sem,f5S,hpT,tabV];exact zas I J N T
theorem f3_b{q:Nat}(hi:i<I)(hk:k<J)(hl:T.length=I*J)(hN:∀ l∈T,l.length=N)(hq:q<N)(hn:∀ s,Weak s (f6S t wx wy I J N T ord i k idx q ((T.getD (i*J+k) []).getD q t.ring.zero))->MR P 104 flB4.er s (some A) R) :
  MR P 104 flB5.er (f5S t wx wy I J N T ord i k idx q) (some A) R:=by
 unfold flB5;refine MR.gseq ?_;generalize flB4=FB at *
 have hp:i*J+k<T.length:=by rw[hl];exact z3r hi hk
 have e1:=zj7 (N:=N) (J:=J) hi;have e2:=zj8 hp;have hrow:(T.getD (i*J+k) []).length=N:=by rw[ymo,yms hp];exact hN _ (ym3 hp)
 have r1:(List.map (outV J) (List.range I))[i]?=some (outV J i):=by rw[ynb,yob hi];rfl
 have r2:(List.map (rowV N (i*J)) (List.range J))[k]?=some (rowV N (i*J) k):=by rw[ynb,yob hk];rfl
 simp[f5S,go_sem,hpT,tabV];refine⟨hi,?_⟩;rw[zcc];refine⟨_,r1,?_⟩;simp[go_sem,outV,e1,hi,hk];rw[zcc];refine⟨_,r2,?_⟩;generalize T.getD (i*J+k) []=row at *
 have hql:q<row.length:=by omega
 have hgq:row.getD q t.ring.zero=row[q]:=by rw[ymo,yms hql];rfl
 simp[go_sem,rowV,e1,e2,hi,hk,hrow,hq];refine zae hql ?_;rw[hgq]at hn;refine hn _ (Weak.toF [0,1,4,5,7,8,15,16,26,27,30,31,32] [900000,900001,900002,900003] [((8,0),3)] ?_);simp[go_sem,f6S,hpT,tabV];exact zas I J N T
theorem f3_c{q:Nat}{w:GW}(hs:w.sm 1048576)(h0:w=t.ring.zero->∀ s,Weak s (f6S t wx wy I J N T ord i k idx q w)->R (.exit 5) s (some A))(hn:w≠t.ring.zero->∀ s,Weak s (f6S t wx wy I J N T ord i k idx q w)->MR P 104 flB3.er s (some A) R) :
  MR P 104 flB4.er (f6S t wx wy I J N T ord i k idx q w) (some A) R:=by
 unfold flB4 flB1;refine MR.gseq ?_;generalize flB3=FB at *
 simp[f6S,go_sem,hpT,tabV];refine zab (zqe t.ring w hs) ?_;by_cases hz:w=t.ring.zero
 ·simp[go_sem,hz];refine h0 hz _ (Weak.toF [0,1,4,5,7,8,15,16,26,27,30,31,32] [900000,900001,900002,900003] [((3,0),3)] ?_);simp[go_sem,f6S,hpT,tabV,hz];exact zas I J N T
 ·simp[go_sem,hz];refine hn hz _ (Weak.toF [0,1,4,5,7,8,15,16,26,27,30,31,32] [900000,900001,900002,900003] [((3,0),3)] ?_);simp[go_sem,f6S,hpT,tabV];exact zas I J N T
theorem f3_d{q:Nat}{w:GW}(hJ:J=wy.length+1)(hI:I<=1000)(hJ1:J<=1000)(hal:t.arcs.length<=1000)
  (hok:∀ x,(h:x<t.arcs.length)->plOk t wx wy I J N i k q w ((t.arcs.take x).foldl (arT t.ring wx wy i k q w) T) t.arcs[x])
  (hn:∀ s,Weak s (f1S t wx wy I J N (t.arcs.foldl (arT t.ring wx wy i k q w) T) (toI ord) i k idx q w t.arcs.length)->R .normal s (some A)) :
  MR P 104 flB3.er (f6S t wx wy I J N T ord i k idx q w) (some A) R:=by
 have hloop:=fun(s:St) hw=>yd8 t wx wy I J N T (toI ord) i k idx q w A hJ hI hJ1 hal hok (s:=s) hw;unfold flB3 flB2;refine MR.gseq ?_;generalize (GC.loop g.nr)=L at *
 simp[f6S,go_sem,hpT,tabV];refine MR.gblk ((hloop _ (Weak.toF [0,1,4,5,7,8,15,16,26,27,30,31,32,60,61,62] [900000,900001,900002,900003] [((3,0),3)] ?_)).mono ?_)
 ·simp[go_sem,f1S,hpT,tabV,zdr];exact zas I J N T
 ·rintro ex s B ⟨rfl,rfl,hw⟩;exact hn s hw
end
end Go.Ab
namespace Go.Ab
section
variable {r:GRing} (hr:r.ok=true) {t:GTrans} (ht:ckT r t) {wx wy:List Int}
structure tord (t:GTrans) (ord:List Nat):Prop where
 nd:ord.Nodup
 all:∀ q,q∈ord ↔ q<t.st.toNat
 len:ord.length<=t.st.toNat
 go:∀ pre q post,ord=pre++q::post->∀ x∈t.arcs,emF x=true->x.f.toNat=q->x.t.toNat∉pre++[q]
theorem tord.lt{ord:List Nat}(h:tord t ord){x:GTArc}(hx:x∈t.arcs)(he:emF x=true)(h1:x.f.toNat<t.st.toNat)(h2:x.t.toNat<t.st.toNat):ord.idxOf x.f.toNat<ord.idxOf x.t.toNat/\ord.idxOf x.t.toNat<t.st.toNat:=by
 have m1:=(h.all _).2 h1;have m2:=(h.all _).2 h2;have hlen:=h.len;refine⟨?_,ymp (List.idxOf_lt_length_of_mem m2) hlen⟩;obtain⟨pre,post,e⟩:=yq6 m1;have hn:=h.go pre _ post e x hx he rfl;have hnp:x.f.toNat∉pre:=fun hm=>by have:=h.nd;rw[e]at this;exact(ypa.1 this).2.2 _ hm _ ynt rfl
 have e1:ord.idxOf x.f.toNat=pre.length:=by rw[e,List.idxOf_append,ym1 hnp,List.idxOf_cons_self,yn6]
 have e2:pre.length+1<=ord.idxOf x.t.toNat:=by
  have:ord=(pre++[x.f.toNat])++post:=by rw[e];simp
  rw[this,List.idxOf_append,ym1 hn];simp
 omega
include ht in
theorem yf5{ord:List Nat}(ho:tord t ord){pre post:List Nat}{q0:Nat}(e:ord=pre++q0::post){i k:Nat}(hi:i<=wx.length)(hk:k<=wy.length){T:List (List GW)}(h:zci r (plN wx wy) t.st.toNat T) :
  zci r (plN wx wy) t.st.toNat (stT r wx wy t.arcs i k T q0) /\
  Ph hr (plN wx wy) t.st.toNat (co hr t wx wy (i*(wy.length+1)+k) (pre++[q0])) (stT r wx wy t.arcs i k T q0)=Ph hr (plN wx wy) t.st.toNat (co hr t wx wy (i*(wy.length+1)+k) pre) T:=by
 have hq0:q0<t.st.toNat:=(ho.all q0).1 (by rw[e];simp);have hnp:q0∉pre:=fun hm=>by have:=ho.nd;rw[e]at this;exact(ypa.1 this).2.2 _ hm _ ynt rfl
 have hp0:=zvr hi hk;have hpos:∀ x∈t.arcs,emF x=true->ord.idxOf x.f.toNat<ord.idxOf x.t.toNat/\ord.idxOf x.t.toNat<t.st.toNat:=fun x hx he=>by obtain⟨_,⟨a2,a3⟩,a4,a5⟩:=ht.arcs x hx;exact ho.lt hx he (by omega) (by omega)
 have hrec:=zxj hr ht hi hk (pos:=fun q=>ord.idxOf q) hpos q0;generalize hc:((srG r hr).sum t.arcs fun x=>if x.f.toNat=q0/\fitT wx wy i k x then(srG r hr).m (cw hr x.w) (gd hr (tabW t wx wy (i+stp x.i) (k+stp x.o)) x.t.toNat)else(srG r hr).z)=c at hrec;have htar:∀ x∈t.arcs,x.f.toNat=q0->fitT wx wy i k x->co hr t wx wy (i*(wy.length+1)+k) (pre++[q0]) ((i+stp x.i)*(wy.length+1)+(k+stp x.o)) x.t.toNat=gd hr (tabW t wx wy (i+stp x.i) (k+stp x.o)) x.t.toNat:=fun x hx hf hfit=>by
  have hin:=zug hfit hi hk;rw[<- z6c hr hin.2];unfold co;rw[ym1];rintro(h1|⟨h1,h2⟩)
  ·have:=ymu (wy.length+1) (yre i (stp x.i));omega
  ·by_cases he:emF x=true
   ·exact ho.go pre q0 post e x hx he hf h2
   ·have h3:0<stp x.i+stp x.o:=by unfold emF at he;unfold stp;by_cases a:x.i=0<;>by_cases b:x.o=0<;>simp[a,b]at he ⊢
    rw[yn7]at h1;by_cases h4:0<stp x.i
    ·have:=ymu (wy.length+1) h4;omega
    ·have:stp x.i=0:=by omega
     rw[this]at h1;omega
 have hco:=yl0 hr hp0 hq0 T (β := co hr t wx wy (i*(wy.length+1)+k) pre) (β':=co hr t wx wy (i*(wy.length+1)+k) (pre++[q0])) (c:=c) fun p' q' hp' hq'=>by
  by_cases hpq:p'=i*(wy.length+1)+k/\q'=q0
  ·obtain⟨rfl,rfl⟩:=hpq;rw[ym0 ⟨rfl,rfl⟩];unfold co;rw[ym1 (by rintro(h|⟨_,h⟩);omega;exact hnp h),ym0 (.inr ⟨rfl,by simp⟩),z6c hr hk,yik hr ht hi hk];exact hrec
  ·rw[ym1 hpq];unfold co;by_cases hd:p'<i*(wy.length+1)+k\/(p'=i*(wy.length+1)+k/\q'∈pre)
   ·rw[ym0 hd,ym0];rcases hd with h|⟨h1,h2⟩
    ·exact .inl h
    ·exact .inr ⟨h1,by simp[h2]⟩
   ·rw[ym1 hd,ym1];rintro(h|⟨h1,h2⟩)
    ·exact hd (.inl h)
    ·rcases ymn.1 h2 with h2|h2
     ·exact hd (.inr ⟨h1,h2⟩)
     ·exact hpq ⟨h1,by simpa using h2⟩
 rw[hco];have hw:((T.getD (i*(wy.length+1)+k) []).getD q0 r.zero).chk r:=zfj hr (h.get hp0) q0;unfold stT;split
 ·rename_i hz;refine⟨h,?_⟩;have:gd hr (T.getD (i*(wy.length+1)+k) []) q0=(srG r hr).z:=by unfold gd;rw[hz,zsg]
  rw[this,SR.zm,(srG r hr).pz]
 ·obtain⟨i1,i2⟩:=zww hr ht hi hk (q:=q0) hw (co hr t wx wy (i*(wy.length+1)+k) (pre++[q0])) (l:=t.arcs) (fun _ h=>h) h;refine⟨i1,?_⟩;rw[i2,<- hc]
  congr 2
  refine(srG r hr).sum_congr fun x hx=>?_;by_cases hf:x.f.toNat=q0/\fitT wx wy i k x
  ·rw[ym0 hf,ym0 hf,htar x hx hf.1 hf.2]
  ·rw[ym1 hf,ym1 hf]
include ht in
theorem ya3{ord:List Nat}(ho:tord t ord){i k:Nat}(hi:i<=wx.length)(hk:k<=wy.length):∀ (post pre:List Nat),ord=pre++post->∀ {T:List (List GW)},zci r (plN wx wy) t.st.toNat T ->
  zci r (plN wx wy) t.st.toNat (post.foldl (stT r wx wy t.arcs i k) T) /\
  Ph hr (plN wx wy) t.st.toNat (co hr t wx wy (i*(wy.length+1)+k+1) []) (post.foldl (stT r wx wy t.arcs i k) T)=Ph hr (plN wx wy) t.st.toNat (co hr t wx wy (i*(wy.length+1)+k) pre) T
 | [],pre,e,T,h=>by
  refine⟨h,yan hr _ fun p q hp hq=>?_⟩;have hq2:q∈pre:=by have:=(ho.all q).2 hq;rw[e,ypp]at this;exact this
  unfold co;by_cases h1:p<i*(wy.length+1)+k+1
  ·rw[ym0 (.inl h1),ym0];by_cases h2:p<i*(wy.length+1)+k
   ·exact .inl h2
   ·exact .inr ⟨by omega,hq2⟩
  ·rw[ym1 (by rintro(h|⟨_,h⟩);exact h1 h;cases h),ym1 (by rintro(h|⟨h,_⟩)<;>omega)]
 | q::post,pre,e,T,h=>by obtain⟨i1,i2⟩:=yf5 hr ht ho e hi hk h;obtain⟨j1,j2⟩:=ya3 ho hi hk post (pre++[q]) (by rw[e];simp) i1;exact⟨j1,j2.trans i2⟩
include ht in
theorem yar{ord:List Nat}(ho:tord t ord){i:Nat}(hi:i<=wx.length){T:List (List GW)}(h:zci r (plN wx wy) t.st.toNat T):∀ n,n<=wy.length+1->zci r (plN wx wy) t.st.toNat (rwT r wx wy t.arcs ord i T n) /\
  Ph hr (plN wx wy) t.st.toNat (co hr t wx wy (i*(wy.length+1)+n) []) (rwT r wx wy t.arcs ord i T n)=Ph hr (plN wx wy) t.st.toNat (co hr t wx wy (i*(wy.length+1)) []) T
 | 0,_=>⟨h,rfl⟩
 | n+1,hn=>by
  obtain⟨i1,i2⟩:=yar ho hi h n (by omega);obtain⟨j1,j2⟩:=ya3 hr ht ho hi (show n<=wy.length by omega) ord [] rfl i1;have e:rwT r wx wy t.arcs ord i T (n+1)=ord.foldl (stT r wx wy t.arcs i n) (rwT r wx wy t.arcs ord i T n):=by unfold rwT;rw[yoi,ynn];rfl
  rw[e];exact⟨j1,j2.trans i2⟩
include ht in
theorem ya9{ord:List Nat}(ho:tord t ord){T:List (List GW)}(h:zci r (plN wx wy) t.st.toNat T):∀ n,n<=wx.length+1->zci r (plN wx wy) t.st.toNat (flT r wx wy t.arcs ord T n) /\
  Ph hr (plN wx wy) t.st.toNat (co hr t wx wy (n*(wy.length+1)) []) (flT r wx wy t.arcs ord T n)=Ph hr (plN wx wy) t.st.toNat (co hr t wx wy 0 []) T
 | 0,_=>⟨h,by rw[ypx];rfl⟩
 | n+1,hn=>by
  obtain⟨i1,i2⟩:=ya9 ho h n (by omega);obtain⟨j1,j2⟩:=yar hr ht ho (show n<=wx.length by omega) i1 (wy.length+1) (ym8 _);have e:flT r wx wy t.arcs ord T (n+1)=rwT r wx wy t.arcs ord n (flT r wx wy t.arcs ord T n) (wy.length+1):=by unfold flT;rw[yoi,ynn];rfl
  rw[e,yne];exact⟨j1,j2.trans i2⟩
def T0(r:GRing)(ini:List GW)(K N:Nat):List (List GW):=(List.replicate K (List.replicate N r.zero)).set 0 ini
include ht in
theorem yiu(hi:ckL r t.st.toNat t.ini)(hz:0<plN wx wy):zci r (plN wx wy) t.st.toNat (T0 r t.ini (plN wx wy) t.st.toNat):=by
 refine⟨by unfold T0;simp,fun l hl=>?_⟩;rcases yon hl with h|h
 ·rw[ypv h];exact⟨fun w hw=>by rw[ypv hw];exact zbd ht.rok,by simp⟩
 ·rw[h];exact hi
include ht hr in
theorem ydz{ord:List Nat}(ho:tord t ord)(hi:ckL r t.st.toNat t.ini):zci r (plN wx wy) t.st.toNat (flT r wx wy t.arcs ord (T0 r t.ini (plN wx wy) t.st.toNat) (wx.length+1)) /\
  sumW r ((flT r wx wy t.arcs ord (T0 r t.ini (plN wx wy) t.st.toNat) (wx.length+1)).getD (wx.length*(wy.length+1)+wy.length) []) t.fin=wgt t wx wy:=by
 have hz:0<plN wx wy:=by have:=zvr (ymv wx.length) (ymv wy.length);omega
 have h0:=yiu ht hi hz;obtain⟨f1,f2⟩:=ya9 hr ht ho h0 (wx.length+1) (ym8 _);refine⟨f1,?_⟩;have hlast:=zvr (ym8 wx.length) (ym8 wy.length);have hrow:=f1.get hlast;generalize flT r wx wy t.arcs ord (T0 r t.ini (plN wx wy) t.st.toNat) (wx.length+1)=T at *
 have hend:Ph hr (plN wx wy) t.st.toNat (co hr t wx wy ((wx.length+1)*(wy.length+1)) []) T=(srG r hr).dot t.st.toNat (gd hr (T.getD (wx.length*(wy.length+1)+wy.length) [])) (gd hr t.fin):=by
  unfold Ph;rw[(srG r hr).sum_congr (g:=fun p=>if p=wx.length*(wy.length+1)+wy.length then(srG r hr).dot t.st.toNat (gd hr (T.getD p [])) (gd hr t.fin)else(srG r hr).z) fun p hp=>?_]
  ·exact(srG r hr).sum_delta hlast fun p=>(srG r hr).dot t.st.toNat (gd hr (T.getD p [])) (gd hr t.fin)
  ·have hp:=yng.1 hp;have hco:∀ q,co hr t wx wy ((wx.length+1)*(wy.length+1)) [] p q=coF hr t wx wy p q:=fun q=>by unfold co;rw[ym0 (.inl hp)]
   have hpe:p+1=plN wx wy ↔ p=wx.length*(wy.length+1)+wy.length:=by unfold plN;rw[yne];omega
   by_cases h:p=wx.length*(wy.length+1)+wy.length
   ·rw[ym0 h];refine(srG r hr).sum_congr fun q _=>?_;rw[hco];unfold coF;rw[ym0 (hpe.2 h)]
   ·rw[ym1 h,(srG r hr).sum_congr (g:=fun _=>(srG r hr).z) fun q _=>?_,SR.sum_zero];rw[hco];unfold coF;rw[ym1 fun h'=>h (hpe.1 h'),(srG r hr).mz]
 have hbeg:Ph hr (plN wx wy) t.st.toNat (co hr t wx wy 0 []) (T0 r t.ini (plN wx wy) t.st.toNat)=(srG r hr).dot t.st.toNat (gd hr t.ini) (gd hr (tabW t wx wy 0 0)):=by
  unfold Ph;rw[(srG r hr).sum_congr (g:=fun p=>if p=0 then(srG r hr).dot t.st.toNat (gd hr t.ini) (gd hr (tabW t wx wy 0 0))else(srG r hr).z) fun p hp=>?_]
  ·exact(srG r hr).sum_delta hz fun _=>(srG r hr).dot t.st.toNat (gd hr t.ini) (gd hr (tabW t wx wy 0 0))
  ·have hp:=yng.1 hp;by_cases h:p=0
   ·subst h;rw[if_pos rfl];refine(srG r hr).sum_congr fun q _=>?_;have e1:(T0 r t.ini (plN wx wy) t.st.toNat).getD 0 []=t.ini:=by unfold T0;rw[List.getD_eq_getElem?_getD,List.getElem?_set_self (by simpa using hz)];rfl
    have e2:co hr t wx wy 0 [] 0 q=gd hr (tabW t wx wy 0 0) q:=by have:=z6c hr (t:=t) (wx:=wx) (wy:=wy) (i:=0) (k:=0) (ymv _) q;rw[ypx,ynx]at this;unfold co;rw[ym1 (by simp),this]
    rw[e1,e2]
   ·rw[ym1 h,(srG r hr).sum_congr (g:=fun _=>(srG r hr).z) fun q _=>?_,SR.sum_zero];have e1:(T0 r t.ini (plN wx wy) t.st.toNat).getD p []=List.replicate t.st.toNat r.zero:=by unfold T0;rw[ymo,ypu (yn8 h),yqy,ym0 hp];rfl
    rw[e1,zmo,SR.zm]
 rw[hend,hbeg]at f2;have s1:=zon hr hrow ht.fin t.st.toNat (ym8 _);have s2:=zon hr hi (zu7 ht (wx:=wx) (wy:=wy) (ymv _) (ymv _)) t.st.toNat (ym8 _);rw[zfa (by rw[hrow.2];omega)]at s1;rw[zfa (by rw[hi.2];omega)]at s2;refine ybd hr s1.1 (by unfold wgt;rw[ht.ring];exact s2.1) ?_;rw[s1.2];have:cw hr (wgt t wx wy)=(srG r hr).dot t.st.toNat (gd hr t.ini) (gd hr (tabW t wx wy 0 0)):=by unfold wgt;rw[ht.ring];exact s2.2
 rw[this];exact f2
end
section
variable {r:GRing} (M:Meas r) (hr:r.ok=true)
def vbT(b:Nat)(T:List (List GW)):Prop:=∀ l∈T,vb M b l
variable {M}
theorem vbT.mono{m n:Nat}{T:List (List GW)}(h:vbT M m T)(k:m<=n):vbT M n T:=fun l hl=>z1p (h l hl) k
theorem vbT.get{b:Nat}{T:List (List GW)}(h:vbT M b T)(p:Nat):vb M b (T.getD p []):=by
 rw[ymo];by_cases hp:p<T.length
 ·rw[yms hp];exact h _ (ym3 _)
 ·rw[ynu (by omega)];intro w hw;cases hw
include hr in
theorem yfm{b:Nat}{l:List GW}(h:vb M b l)(q:Nat):(l.getD q r.zero).chk r/\M.mb b (l.getD q r.zero):=by
 by_cases hq:q<l.length
 ·exact ybp h hq
 ·rw[ymo,ynu (by omega)];exact⟨zbd hr,M.mono M.zero (ymv _)⟩
include hr in
theorem vbT.at{b:Nat}{T:List (List GW)}(h:vbT M b T)(p q:Nat):((T.getD p []).getD q r.zero).chk r/\M.mb b ((T.getD p []).getD q r.zero):=yfm hr (h.get p) q
include hr in
theorem yis{b p q:Nat}{T:List (List GW)}{w:GW}(h:vbT M b T)(hw:w.chk r/\M.mb b w):vbT M (b+1) (adT r T p q w):=by
 intro l hl;rcases yon hl with h1|h1
 ·exact z1p (h l h1) (by omega)
 ·rw[h1];intro v hv;have g:=h.at hr p q;rcases yon hv with h2|h2
  ·exact⟨(h.get p v h2).1,M.mono (h.get p v h2).2 (by omega)⟩
  ·rw[h2];exact⟨zbu g.1 hw.1,M.plus g.1 hw.1 g.2 hw.2⟩
variable {c:Nat} {wx wy:List Int} {A:List GTArc}
include hr in
theorem yiq{B b i k q:Nat}{T:List (List GW)}{w:GW}{x:GTArc}(h:vbT M b T)(hw:w.chk r/\M.mb B w)(hx:x.w.chk r/\M.mb c x.w)(hb:B+c+1<=b):vbT M (b+1) (arT r wx wy i k q w T x):=by
 unfold arT;split
 ·exact yis hr h ⟨za9 hw.1 hx.1,M.mono (M.times hw.1 hx.1 hw.2 hx.2) hb⟩
 ·exact h.mono (by omega)
include hr in
theorem z6r{B i k q:Nat}{w:GW}(hw:w.chk r/\M.mb B w):∀ {l:List GTArc} {b:Nat} {T:List (List GW)},(∀ x∈l,x.w.chk r/\M.mb c x.w)->B+c+1<=b->vbT M b T->vbT M (b+l.length) (l.foldl (arT r wx wy i k q w) T)
 | [],b,T,_,_,h=>h
 | x::l,b,T,hx,hb,h=>by have:=z6r (i:=i) (k:=k) (q:=q) (T:=arT r wx wy i k q w T x) hw (l:=l) (b:=b+1) (fun y hy=>hx y (by simp[hy])) (by omega) (yiq hr h hw (hx x (by simp)) hb);exact this.mono (by simp;omega)
def sLv(c:Nat)(A:List GTArc):Nat:=c+1+A.length
include hr in
theorem yf6{B i k q:Nat}{T:List (List GW)}(hA:∀ x∈A,x.w.chk r/\M.mb c x.w)(h:vbT M B T):vbT M (B+sLv c A) (stT r wx wy A i k T q):=by
 unfold stT sLv;split
 ·exact h.mono (by omega)
 ·exact(z6r (wx:=wx) (wy:=wy) (i:=i) (k:=k) (q:=q) hr (h.at hr (i*(wy.length+1)+k) q) hA (ym8 _) (h.mono (by omega))).mono (by omega)
end
end Go.Ab
