/-
Proofs for the law TransducerWeighs, part 42. Conditions: none.
-/
import Derived.Test.YtbhboeijjgiflaaGreatDoorBP41
import Derived.Test.YtbhboeijjgiflaaGreatDoorBP35
import Derived.Test.YtbhboeijjgiflaaGreatDoorBP38
import Derived.Test.YtbhboeijjgiflaaGreatDoorBP39
set_option maxRecDepth 100000
set_option maxHeartbeats 4000000
set_option linter.all false
namespace Go.Ab
open Enc (enc)
attribute [local go_sem] zal Opd.slots
theorem z2v {α β : Type} {f : α -> Option β} {g : α -> β}:∀ {l:List α},(∀ x∈l,f x=some (g x))->l.mapM f=some (l.map g)
 | [],_=>rfl
 | x::l,h=>by rw [ymb,h x yl6,z2v fun y hy=>h y (ykq _ hy)]; rfl
theorem zl6 (n:Nat) (st:St) (s g off len:Nat):toPV st (n+1) (.own s g off len)=match st.obj s g with
  | some o=>if off+len<=o.es.length then (((o.es.drop off).take len).mapM (toPV st n)).map .sl else none
  | none=>none:=rfl
theorem z0f (n:Nat) (st:St) (s g:Nat):toPV st (n+1) (.ptr s g 0 0)=match st.obj s g with
  | some o=>match o.es with
   | [e]=>(toPV st n e).map .ref
   | _=>none
  | none=>none:=rfl
def ycd (J:Nat) (T:List (List GW)) (i j:Nat):PV:=.sl (ens (T.getD (i*J+j) []))
def rowP (J:Nat) (T:List (List GW)) (i:Nat):PV:=.sl ((List.range J).map (ycd J T i))
def tabA (I J:Nat) (T:List (List GW)):PV:=.sl ((List.range I).map (rowP J T))
theorem z48 {st:St} {t:GTrans} {wx wy:List Int} {I J N:Nat} {T:List (List GW)} (h:zog st (hpT t wx wy I J N T) (hpT t wx wy I J N T)) (hl:T.length=I*J) (hN:∀ l∈T,l.length=N) :
  toPV st FUEL (.ptr 900000 0 0 0)=some (.ref (tabP t wx wy (tabA I J T))):=by
 obtain ⟨h0,h1,h2,h3,_⟩:=h;have s0:st.obj 900000 0=some ⟨11,[tabV t wx wy I]⟩:=by unfold St.obj; rw [show st.site 900000=_ from h0]; rfl
 have s1:st.obj 900001 0=some ⟨1,(List.range I).map (outV J)⟩:=by unfold St.obj; rw [show st.site 900001=_ from h1]; rfl
 have s2:∀ i,i<I->st.obj 900002 i=some ⟨1,(List.range J).map (rowV N (i*J))⟩:=fun i hi=>by unfold St.obj; rw [show st.site 900002=_ from h2]; exact zjs hi
 have s3:∀ p,p<T.length->st.obj 900003 p=some ⟨8,avs (T.getD p [])⟩:=fun p hp=>by unfold St.obj; rw [show st.site 900003=_ from h3]; exact zjt hp
 have c3:∀ i j,i<I->j<J->toPV st 2 (rowV N (i*J) j)=some (ycd J T i j):=fun i j hi hj=>by
  have hp:i*J+j<T.length:=by have:=ykd J (yns hi);rw [yks] at this; omega
  have hn:(T.getD (i*J+j) []).length=N:=by rw [yk9,ykg hp]; exact hN _ (yk2 hp)
  unfold rowV;rw [zl6,s3 _ hp];simp only [ymx,yle,zkq,hn,yk6,yk0];rw [yki (by rw [zkq,hn]; exact yk6 _),zqq];rfl
 have c2:∀ i,i<I->toPV st 3 (outV J i)=some (rowP J T i):=fun i hi=>by unfold outV;rw [zl6,s2 _ hi];simp only [ymx,yle,ylj,List.length_range,yk6,yk0];rw [yki (by simp),List.mapM_map,z2v (f:=toPV st 2∘rowV N (i*J)) (g:=ycd J T i) fun j hj=>c3 i j hi (yky.1 hj)];rfl
 have c1:toPV st 4 (.own 900001 0 0 I)=some (tabA I J T):=by rw [zl6,s1];simp only [ymx,yle,ylj,List.length_range,yk6,yk0];rw [yki (by simp),List.mapM_map,z2v (f:=toPV st 3∘outV J) (g:=rowP J T) fun i hi=>c2 i (yky.1 hi)];rfl
 rw [FUEL,z0f,s0];show (toPV st 5 (tabV t wx wy I)).map PV.ref=_;have:toPV st 5 (tabV t wx wy I)=some (tabP t wx wy (tabA I J T)):=by unfold tabV tabP;show (List.mapM (toPV st 4) _).map PV.agg=_;simp only [ymb,List.mapM_nil,c1];rfl
 rw [this]; rfl
end Go.Ab
namespace Go.Ab
open Enc (enc)
def T100:Nat:=2^100
theorem z8o:0<T100:=ylf (by omega)
theorem z4y:T100<4294967296^4:=by unfold T100; decide +kernel
structure LB (E H s:Nat):Prop where
 e:0<E
 h:T100*E<=H
 el:E<4294967296^s
 hl:H<4294967296^(s+8)
 s:s<=4000
def qL (E H n:Nat) (q:Rat):Prop:=∃ B,qb (E^(n / 100)) B q/\46656*B<=H^(n / 100)*2^(n % 100)
section
variable {E H s:Nat} (L:LB E H s)
include L in
theorem LB.ene (n:Nat):E^n≠0:=yp9.1 (ylf L.e)
include L in
theorem yac:∀ (c k a B:Nat) {q:Rat},k<100*c+100->qb (E^a) B q->46656*B<=H^a*2^k->qL E H (100*a+k) q
 | 0,k,a,B,q,hk,h1,h2=>by
  have e1:(100*a+k) / 100=a:=by omega
  have e2:(100*a+k) % 100=k:=by omega
  exact ⟨B,by rw [e1]; exact h1,by rw [e1,e2]; exact h2⟩
 | c+1,k,a,B,q,hk,h1,h2=>by
  by_cases hlt:k<100
  ·exact yac 0 k a B (by omega) h1 h2
  ·have h3:=zht E (yp9.1 L.e) h1;rw [<- Nat.pow_succ] at h3;have h4:46656*(B*E)<=H^(a+1)*2^(k - 100):=by
    have e1:2^k=2^(k - 100)*T100:=by unfold T100; rw [<- Nat.pow_add]; congr 1; omega
    calc 46656*(B*E)=46656*B*E:=by rw [yko]
     _<=H^a*2^k*E:=ykd _ h2
     _=H^a*2^(k - 100)*(T100*E):=by rw [e1]; simp only [yko]
     _<=H^a*2^(k - 100)*H:=yly _ L.h
     _=H^(a+1)*2^(k - 100):=by rw [ykk]; ac_rfl
   have:=yac c (k - 100) (a+1) (B*E) (by omega) h3 h4;have e:100*(a+1)+(k - 100)=100*a+k:=by omega
   rwa [e] at this
include L in
theorem z6e (k a B:Nat) {q:Rat} (h1:qb (E^a) B q) (h2:46656*B<=H^a*2^k):qL E H (100*a+k) q:=yac L k k a B (by omega) h1 h2
include L in
theorem zp7 {m n:Nat} {q:Rat} (h:qL E H m q) (k:m<=n):qL E H n q:=by
 obtain ⟨B,h1,h2⟩:=h;obtain ⟨j,rfl⟩:=Nat.le.dest k;have:=z6e L (m % 100+j) (m / 100) B h1 (yka h2 (yly _ (yl3 (by omega) (by omega))));have e:100*(m / 100)+(m % 100+j)=m+j:=by omega
 rwa [e] at this
theorem zgd (n:Nat):qL E H n 0:=⟨0,zp5 _,by omega⟩
include L in
theorem z8v {m:Nat} {p q:Rat} (h:qL E H m p) (h':qL E H m q):qL E H (m+1) (p+q):=by
 obtain ⟨B,h1,h2⟩:=h;obtain ⟨B',h1',h2'⟩:=h';have:=z6e L (m % 100+1) (m / 100) (B+B') (zwo h1 h1' (L.ene _)) (by rw [ykk,<- Nat.mul_assoc]; omega);have e:100*(m / 100)+(m % 100+1)=m+1:=by omega
 rwa [e] at this
theorem zmv {A B C D:Nat} (h1:46656*A<=C) (h2:46656*B<=D):46656*(46656*(A*B))<=C*D:=by
 have:=ykw h1 h2;have e:46656*A*(46656*B)=46656*(46656*(A*B)):=by ac_rfl
 omega
include L in
theorem z8u {m n B:Nat} {q:Rat} (h1:qb (E^(m / 100)*E^(n / 100)) B q) (h2:46656*B<=H^(m / 100)*2^(m % 100)*(H^(n / 100)*2^(n % 100))):qL E H (m+n) q:=by
 rw [<- Nat.pow_add] at h1;have:=z6e L (m % 100+n % 100) (m / 100+n / 100) B h1 (by
  refine yka h2 (Nat.le_of_eq ?_);rw [ykm,ykm]; ac_rfl)
 have e:100*(m / 100+n / 100)+(m % 100+n % 100)=m+n:=by omega
 rwa [e] at this
include L in
theorem yed {m n:Nat} {p q:Rat} (h:qL E H m p) (h':qL E H n q):qL E H (m+n) (p*q):=by obtain ⟨B,h1,h2⟩:=h;obtain ⟨B',h1',h2'⟩:=h';have hb:=zmv h2 h2';exact z8u L (z8t h1 h1') (by omega)
def szN (s n:Nat):Nat:=(n / 100)*(s+8)+5
include L in
theorem L_D (n:Nat):E^(n / 100)<4294967296^szN s n:=by
 have h1:E^(n / 100)<=(4294967296^s)^(n / 100):=Nat.pow_le_pow_left (yn7 L.el) _;rw [<- Nat.pow_mul] at h1;refine yl2 h1 (yot (by omega) ?_);unfold szN;have:s*(n / 100)<=(n / 100)*(s+8):=by rw [ykz]; exact yly _ (by omega)
 omega
include L in
theorem L_HB (n:Nat):H^(n / 100)*2^(n % 100)<4294967296^szN s n:=by
 have h1:H^(n / 100)<=(4294967296^(s+8))^(n / 100):=Nat.pow_le_pow_left (yn7 L.hl) _;rw [<- Nat.pow_mul] at h1;have h2:2^(n % 100)<4294967296^4:=yl2 (show 2^(n % 100)<=T100 from yl3 (by omega) (by omega)) z4y;have e:szN s n=(s+8)*(n / 100)+4+1:=by unfold szN; rw [ykz]
 rw [e,ykk,ykm];have h3:H^(n / 100)*2^(n % 100)<=4294967296^((s+8)*(n / 100))*4294967296^4:=ykw h1 (yn7 h2);have h4:0<4294967296^((s+8)*(n / 100))*4294967296^4:=ymu (ylf (by omega)) (ylf (by omega));omega
structure GW.lb1 (E H n:Nat) (w:GW):Prop where
 q:qL E H n w.q.v
 p:∀ e,qL E H n (pc w.poly e)
structure GW.lb (E H n:Nat) (w:GW):Prop where
 o:w.lb1 E H n
 ps:∀ x∈w.parts,x.lb1 E H n
include L in
theorem GW.lb1.mono {m n:Nat} {w:GW} (h:w.lb1 E H m) (k:m<=n):w.lb1 E H n:=⟨zp7 L h.q k,fun e=>zp7 L (h.p e) k⟩
include L in
theorem GW.lb.mono {m n:Nat} {w:GW} (h:w.lb E H m) (k:m<=n):w.lb E H n:=⟨h.o.mono L k,fun x hx=>(h.ps x hx).mono L k⟩
theorem znf (n c i s):(GW.mk gr0 c i s [] []).lb1 E H n:=⟨by show qL E H n gr0.v; rw [zjk]; exact zgd n,fun e=>zgd n⟩
theorem zq8 (n c i s ps):(GW.mk gr0 c i s [] ps).lb1 E H n:=⟨by show qL E H n gr0.v; rw [zjk]; exact zgd n,fun e=>zgd n⟩
theorem zhe {n:Nat} {p:List GMono} (h:∀ e,qL E H n (pc p e)):pqb (E^(n / 100)) (H^(n / 100)*2^(n % 100) / 46656) p:=fun e=>by obtain ⟨B,h1,h2⟩:=h e;exact zg7 h1 ((yoq (by omega)).2 (by omega))
include L in
theorem zoq {k:Int} {w:GW} {n:Nat} (hs:w.si k) (h:w.lb1 E H n) (hn:216<=szN s n):w.sm (szN s n):=by
 have hq:=si_q hs;have hp:=si_p hs;cases w with
 | mk q c i t p ps =>
  have e:ps=[]:=hs.1;subst e;have hB:H^(n / 100)*2^(n % 100) / 46656<4294967296^szN s n:=yl2 (yn6 _ _) (L_HB L n);have h1:q.sm (szN s n):=by
   obtain ⟨B,b1,b2⟩:=h.q;have:=yaa b1 (L.ene _) (L_D L n) (yl2 (show B<=_ by omega) (L_HB L n))
   rwa [show rto (GW.q (GW.mk q c i t p [])).v=q from zg4 hq] at this
  have h2:psm p (szN s n):=zg8 (zhe h.p) hp (L.ene _) (L_D L n) hB;exact .mk h1 h2 (by have:p.length<=216:=zbm hp; omega) (by simp) (by simp)
include L in
theorem zgo {r:GRing} {w:GW} {n:Nat} (hc:w.chk r) (h:w.lb E H n) (hn:216<=szN s n):w.sm (szN s n):=by
 by_cases h6:r.kind=6
 ·obtain ⟨l,e,hs⟩:=hc.2.2 h6;have hp:=GRing.ok_parts hc.1 h6;rw [e];refine .tup (by omega) fun x hx=>?_;obtain ⟨i,hi,rfl⟩:=ylq.1 hx;exact zoq L (hs i (by omega) hi) (h.ps _ hx) hn
 ·exact zoq L (hc.2.1 h6) h.o hn
include L in
theorem zwu {k:Int} {v w:GW} {n:Nat} (sv:v.si k) (sw:w.si k) (hv:v.lb1 E H n) (hw:w.lb1 E H n):(zaq k v w).lb1 E H (n+1):=by
 unfold zaq;split
 ·exact ⟨by show qL E H (n+1) (rto (v.q.v+w.q.v)).v; rw [zbv]; exact z8v L hv.q hw.q,fun e=>zgd _⟩
 ·split
  ·split
   ·exact hw.mono L (by omega)
   ·exact hv.mono L (by omega)
  ·split
   ·split
    ·exact hw.mono L (by omega)
    ·exact hv.mono L (by omega)
   ·split
    ·exact znf ..
    ·refine ⟨by show qL E H _ gr0.v; rw [zjk]; exact zgd _,fun e=>?_⟩;show qL E H (n+1) (pc (padd v.poly w.poly) e);rw [zfi v.poly (zak.1 (si_p sw)).1];exact z8v L (hv.p e) (hw.p e)
include L in
theorem zry {k:Int} {v w:GW} {m n:Nat} (sv:v.si k) (sw:w.si k) (hv:v.lb1 E H m) (hw:w.lb1 E H n):(zao k v w).lb1 E H (m+n+1):=by
 unfold zao;split
 ·exact ⟨by show qL E H _ (rto (v.q.v*w.q.v)).v; rw [zbv]; exact zp7 L (yed L hv.q hw.q) (by omega),fun e=>zgd _⟩
 ·split
  ·split
   ·exact znf ..
   ·exact znf ..
  ·split
   ·exact znf ..
   ·refine ⟨by show qL E H _ gr0.v; rw [zjk]; exact zgd _,fun e=>?_⟩;show qL E H _ (pc (pmul v.poly w.poly) e);have pv:=si_p sv;have pw:=si_p sw;have h1:=zuq (zhw (zhe hv.p) pv) (zhw (zhe hw.p) pw) (ym9 (L.ene _) (L.ene _)) e;have l1:=zbm pv;have l2:=zbm pw;have b1:=yow (H^(m / 100)*2^(m % 100)) 46656;have b2:=yow (H^(n / 100)*2^(n % 100)) 46656;have hb:=zmv b1 b2;refine zp7 L (z8u L h1 (yka (yly _ ?_) hb)) (by omega);generalize H^(m / 100)*2^(m % 100) / 46656*(H^(n / 100)*2^(n % 100) / 46656)=C;have h3:v.poly.length*(w.poly.length*C)<=216*(216*C):=ykw l1 (ykd _ l2);omega
include L in
theorem yai {r:GRing} {v w:GW} {n:Nat} (cv:v.chk r) (cw:w.chk r) (hv:v.lb E H n) (hw:w.lb E H n):(r.plus v w).lb E H (n+1):=by
 by_cases h6:r.kind=6
 ·have lv:=(cv.2.2 h6).1;have lw:=(cw.2.2 h6).1;have e:r.plus v w=.mk gr0 0 false 0 [] (zd6 r.parts v.parts w.parts):=by simp [GRing.plus,h6]
  rw [e];have hl:=zbc (ks:=r.parts) (vs:=v.parts) (ws:=w.parts) lv lw;refine ⟨zq8 ..,fun x hx=>?_⟩;obtain ⟨i,hi,rfl⟩:=ylq.1 hx;simp only [GW.parts_mk] at hi;have h3:i<r.parts.length:=by omega
  have:=zbl h3 (by omega:i<v.parts.length) (by omega:i<w.parts.length) hi;simp only [GW.parts_mk];rw [this];exact zwu L ((cv.2.2 h6).2.2 i h3 (by omega)) ((cw.2.2 h6).2.2 i h3 (by omega)) (hv.ps _ (yk2 _)) (hw.ps _ (yk2 _))
 ·have hk:=GRing.ok_kind cv.1 h6;have e:r.plus v w=zaq r.kind v w:=by simp [GRing.plus,h6]
  have sp:=zb9 ⟨hk.1,hk.2.1⟩ (cv.2.1 h6) (cw.2.1 h6);rw [e];exact ⟨zwu L (cv.2.1 h6) (cw.2.1 h6) hv.o hw.o,fun x hx=>by rw [sp.1] at hx; cases hx⟩
include L in
theorem z5c {r:GRing} {v w:GW} {m n:Nat} (cv:v.chk r) (cw:w.chk r) (hv:v.lb E H m) (hw:w.lb E H n):(r.times v w).lb E H (m+n+1):=by
 by_cases h6:r.kind=6
 ·have lv:=(cv.2.2 h6).1;have lw:=(cw.2.2 h6).1;have e:r.times v w=.mk gr0 0 false 0 [] (zcn r.parts v.parts w.parts):=by simp [GRing.times,h6]
  rw [e];have hl:=zaz (ks:=r.parts) (vs:=v.parts) (ws:=w.parts) lv lw;refine ⟨zq8 ..,fun x hx=>?_⟩;obtain ⟨i,hi,rfl⟩:=ylq.1 hx;simp only [GW.parts_mk] at hi;have h3:i<r.parts.length:=by omega
  have:=za8 h3 (by omega:i<v.parts.length) (by omega:i<w.parts.length) hi;simp only [GW.parts_mk];rw [this];exact zry L ((cv.2.2 h6).2.2 i h3 (by omega)) ((cw.2.2 h6).2.2 i h3 (by omega)) (hv.ps _ (yk2 _)) (hw.ps _ (yk2 _))
 ·have hk:=GRing.ok_kind cv.1 h6;have e:r.times v w=zao r.kind v w:=by simp [GRing.times,h6]
  have sp:=zba ⟨hk.1,hk.2.1⟩ (cv.2.1 h6) (cw.2.1 h6);rw [e];exact ⟨zry L (cv.2.1 h6) (cw.2.1 h6) hv.o hw.o,fun x hx=>by rw [sp.1] at hx; cases hx⟩
end
section
variable {E H s:Nat} (L:LB E H s)
theorem leM {a:Nat} (k:a<=1048576):4294967296^a<=4294967296^1048576:=by
 generalize (1048576:Nat)=N at *
 exact zdw k
theorem ltM {x a:Nat} (h:x<4294967296^a) (k:a<=1048576):x<4294967296^1048576:=ykc h (leM k)
include L in
theorem z1q {k:Int} (hk:1<=k/\k<=5) {v w:GW} {n:Nat} (hv:v.lb1 E H n) (hw:w.lb1 E H n) (hn:216<=szN s n) (hs:szN s n<=400000) (cv:v.chk ⟨k,[]⟩) (cw:w.chk ⟨k,[]⟩) :
  Sp P F.aa [enc (⟨k,[]⟩:GRing),enc v,enc w] (.pure (enc (zaq k v w))):=by
 have h6:(⟨k,[]⟩:GRing).kind≠6:=by show k≠6; omega
 have hv':=(zoq L (cv.2.1 h6) hv hn).mono (show szN s n<=1048576 by omega);have hw':=(zoq L (cw.2.1 h6) hw hn).mono (show szN s n<=1048576 by omega);have:k=1\/k=2\/k=3\/k=4\/k=5:=by omega
 rcases this with rfl|rfl|rfl|rfl|rfl
 ·exact z1x v w hv' hw' cv cw
 ·exact z1w v w hv' hw' cv cw
 ·exact z1v v w hv' hw' cv cw
 ·exact z1u v w hv' hw' cv cw
 ·have hB:H^(n / 100)*2^(n % 100) / 46656<4294967296^szN s n:=yl2 (yn6 _ _) (L_HB L n);exact z1t v w hv' hw' cv cw _ _ _ (zhe hv.p) (zhe hw.p) (L.ene _) (ltM (L_D L n) (by omega)) (ltM (zl4 _ _ _ hB hB) (by omega))
include L in
theorem yez {m n:Nat} (hm:szN s m<=400000) (hn:szN s n<=400000):E^(m / 100)*E^(n / 100)<4294967296^1048576/\46656*(H^(m / 100)*2^(m % 100) / 46656*(H^(n / 100)*2^(n % 100) / 46656))<4294967296^1048576:=by
 refine ⟨?_,?_⟩
 ·refine ykc (ylp (L_D L m) (L_D L n)) ?_;rw [<- Nat.pow_add]; exact leM (by omega)
 ·have b1:=yow (H^(m / 100)*2^(m % 100)) 46656;have b2:=yow (H^(n / 100)*2^(n % 100)) 46656;have hb:=zmv b1 b2;have h3:=ylp (L_HB L m) (L_HB L n);rw [<- Nat.pow_add] at h3;have h4:4294967296^(szN s m+szN s n)<=4294967296^1048576:=leM (by omega);exact yl2 (by omega) (ykc h3 h4)
include L in
theorem zwb {k:Int} (hk:1<=k/\k<=5) {v w:GW} {n:Nat} (hv:v.lb1 E H n) (hw:w.lb1 E H n) (hn:216<=szN s n) (hs:szN s n<=400000) (cv:v.chk ⟨k,[]⟩) (cw:w.chk ⟨k,[]⟩) :
  Sp P F.ae [enc (⟨k,[]⟩:GRing),enc v,enc w] (.pure (enc (zao k v w))):=by
 have h6:(⟨k,[]⟩:GRing).kind≠6:=by show k≠6; omega
 have sv:=zoq L (cv.2.1 h6) hv hn;have sw:=zoq L (cw.2.1 h6) hw hn;have hv':=sv.mono (show szN s n<=1048576 by omega);have hw':=sw.mono (show szN s n<=1048576 by omega);have:k=1\/k=2\/k=3\/k=4\/k=5:=by omega
 rcases this with rfl|rfl|rfl|rfl|rfl
 ·exact z5k v w hv' hw' cv cw
 ·exact z5j v w hv' hw' cv cw
 ·exact z5i v w hv' hw' cv cw
 ·exact z5h v w hv' hw' cv cw
 ·obtain ⟨a1,a2⟩:=yez L hs hs;exact z5g v w hv' hw' cv cw _ _ _ _ (zhe hv.p) (zhe hw.p) (L.ene _) (L.ene _) a1 a2 (sv.poly.monoR (by omega)) (sw.poly.monoR (by omega))
include L in
theorem yak (r:GRing) {v w:GW} {n:Nat} (hv:v.lb E H n) (hw:w.lb E H n) (hn:216<=szN s n) (hs:szN s n<=400000) (cv:v.chk r) (cw:w.chk r):Sp P F.aa [enc r,enc v,enc w] (.pure (enc (r.plus v w))):=by
 have hr0:=cv.1;by_cases h6:r.kind=6
 ·exact z1s r v w ((zgo L cv hv hn).mono (by omega)) ((zgo L cw hw hn).mono (by omega)) cv cw h6 fun i h h1 h2 =>
   z1q L ((GRing.ok_parts hr0 h6).2.2 _ (yk2 h)) (hv.ps _ (yk2 h1)) (hw.ps _ (yk2 h2)) hn hs (zeo cv h6 h h1) (zeo cw h6 h h2)
 ·have hk:=GRing.ok_kind hr0 h6;have he:r=⟨r.kind,[]⟩:=by rw [<- hk.2.2]
  have h1:r.plus v w=zaq r.kind v w:=by simp [GRing.plus,h6]
  rw [h1,he];rw [he] at cv cw;exact z1q L ⟨hk.1,hk.2.1⟩ hv.o hw.o hn hs cv cw
include L in
theorem z5e (r:GRing) {v w:GW} {n:Nat} (hv:v.lb E H n) (hw:w.lb E H n) (hn:216<=szN s n) (hs:szN s n<=400000) (cv:v.chk r) (cw:w.chk r):Sp P F.ae [enc r,enc v,enc w] (.pure (enc (r.times v w))):=by
 have hr0:=cv.1;by_cases h6:r.kind=6
 ·exact z5f r v w ((zgo L cv hv hn).mono (by omega)) ((zgo L cw hw hn).mono (by omega)) cv cw h6 fun i h h1 h2 =>
   zwb L ((GRing.ok_parts hr0 h6).2.2 _ (yk2 h)) (hv.ps _ (yk2 h1)) (hw.ps _ (yk2 h2)) hn hs (zeo cv h6 h h1) (zeo cw h6 h h2)
 ·have hk:=GRing.ok_kind hr0 h6;have he:r=⟨r.kind,[]⟩:=by rw [<- hk.2.2]
  have h1:r.times v w=zao r.kind v w:=by simp [GRing.times,h6]
  rw [h1,he];rw [he] at cv cw;exact zwb L ⟨hk.1,hk.2.1⟩ hv.o hw.o hn hs cv cw
theorem z9f {r:GRing} (hr:r.ok=true) (E H:Nat):r.zero.lb E H 0:=by unfold GRing.zero;rw [yj9 hr];refine ⟨zq8 ..,fun x hx=>?_⟩;obtain ⟨k,_,rfl⟩:=yk4.1 hx;exact znf ..
def lwM (r:GRing) (hr:r.ok=true) (lim:Nat) (h1:216<=szN s lim) (h2:szN s lim<=400000):Meas r where
 mb n w:=w.lb E H n
 lim:=lim
 mono h k:=h.mono L k
 zero:=z9f hr E H
 plus cv cw hv hw:=yai L cv cw hv hw
 times cv cw hv hw:=z5c L cv cw hv hw
 plusS:=fun {v w n} hn cv cw hv hw=>yak L r (hv.mono L hn) (hw.mono L hn) h1 h2 cv cw
 timesS:=fun {v w n} hn cv cw hv hw=>z5e L r (hv.mono L hn) (hw.mono L hn) h1 h2 cv cw
end
def GW.den1 (w:GW):Nat:=w.q.v.den*pden w.poly
def GW.den (w:GW):Nat:=w.den1*(w.parts.map GW.den1).foldr (· * ·) 1
def lden (l:List GW):Nat:=(l.map GW.den).foldr (· * ·) 1
theorem zp9 {a:Nat}:∀ {l:List Nat},a∈l->a ∣ l.foldr (· * ·) 1
 | x::l,h=>by
  rcases yk5.1 h with rfl|h
  ·exact yox _ _
  ·exact ync (zp9 h) (yoy _ _)
theorem zp8:∀ {l:List Nat},(∀ x∈l,0<x)->0<l.foldr (· * ·) 1
 | [],_=>Nat.one_pos
 | x::l,h=>ymu (h x (by simp)) (zp8 fun y hy=>h y (by simp [hy]))
theorem zup {a:Nat}:∀ {l:List Nat},(∀ x∈l,x<=4294967296^a)->l.foldr (· * ·) 1<=4294967296^(l.length*a)
 | [],_=>by simp
 | x::l,h=>by
  have:=ykw (h x (by simp)) (zup (l:=l) fun y hy=>h y (by simp [hy]));rw [<- Nat.pow_add] at this;have e:(x::l).length*a=a+l.length*a:=by simp [yks]; omega
  rw [e]; exact this
structure GW.li1 (w:GW):Prop where
 q:w.q.sm 3
 l:w.poly.length<=8
 p:psm w.poly 3
structure GW.li (w:GW):Prop where
 o:w.li1
 l:w.parts.length<=4
 ps:∀ x∈w.parts,x.li1
theorem GW.lt.li1 {w:GW} (h:w.lt):w.li1:=by obtain ⟨h1,h2,h3,h4,h5⟩:=GW.lt_iff.1 h;exact ⟨h1,h2,h4.monoR (by omega)⟩
theorem GW.lt.li {w:GW} (h:w.lt):w.li:=⟨h.li1,(GW.lt_iff.1 h).2.2.1,fun x hx=>((GW.lt_iff.1 h).2.2.2.2 x hx).li1⟩
theorem GW.sm.li1 {w:GW} (h:w.sm 3):w.li1:=⟨h.q,by have:=h.len; omega,h.poly⟩
theorem GW.sm.li {w:GW} (h:w.sm 3):w.li:=⟨h.li1,by have:=h.plen; omega,fun x hx=>(h.parts x hx).li1⟩
theorem z4b {w:GW} (h:w.li1):w.den1<=4294967296^28:=by have a:=(ratb h.q (by omega)).2;have b:=zus h.p (by omega);have hl:=h.l;have b':pden w.poly<=4294967296^25:=yn7 (ykc b (yl3 (by omega) (by omega)));have:=ykw (yn7 a) b';rw [<- Nat.pow_add] at this;exact this
theorem zx3 (w:GW):0<w.den1:=ymu (yn8 w.q.v.den_nz) (yn8 (zhx _))
theorem yf3 {w:GW} (h:w.li):w.den<=4294967296^140:=by have:=ykw (z4b h.o) (zup (a:=28) (l:=w.parts.map GW.den1) fun x hx=>by obtain ⟨y,hy,rfl⟩:=yk4.1 hx; exact z4b (h.ps y hy));rw [<- Nat.pow_add] at this;refine yka this (yl3 (by omega) ?_);have:=h.l;rw [ylj]; omega
theorem yb8 (w:GW):0<w.den:=ymu (zx3 w) (zp8 fun x hx=>by obtain ⟨y,_,rfl⟩:=yk4.1 hx; exact zx3 y)
theorem z65 (l:List GW):0<lden l:=zp8 fun x hx=>by obtain ⟨y,_,rfl⟩:=yk4.1 hx; exact yb8 y
theorem ybc {l:List GW} {n:Nat} (h:∀ w∈l,w.li) (hl:l.length<=n):lden l<4294967296^(n*140+1):=by
 have:=zup (a:=140) (l:=l.map GW.den) fun x hx=>by obtain ⟨y,hy,rfl⟩:=yk4.1 hx; exact yf3 (h y hy)
 rw [ylj] at this;refine yl2 this (yot (by omega) ?_);have:=ykd 140 hl;omega
theorem z67 {l:List GW} {w:GW} (h:w∈l):w.den ∣ lden l:=zp9 (yk4.2 ⟨w,h,rfl⟩)
def HH (E:Nat):Nat:=46656*4294967296^3*(T100*E)
theorem yjo {E s:Nat} (he:0<E) (hl:E<4294967296^s) (hs:s<=4000):LB E (HH E) s:=by
 refine ⟨he,?_,hl,?_,hs⟩
 ·unfold HH; exact yo7 _ (by decide +kernel)
 ·have h1:T100*E<4294967296^(4+s):=by rw [ykm]; exact ylp z4y hl
  have h2:46656*4294967296^3<4294967296^4:=by decide +kernel
  have:=ylp h2 h1;rw [<- Nat.pow_add] at this;have e:4+(4+s)=s+8:=by omega
  rw [e] at this;exact this
section
variable {E s:Nat} (L:LB E (HH E) s)
include L in
theorem z8s {x:GRat} (hx:x.sm 3) (hd:x.v.den ∣ E):qL E (HH E) 100 x.v:=by
 obtain ⟨c,hc⟩:=hd;have hc0:c≠0:=by rintro rfl; have:=L.e; omega
 have h1:=zht c hc0 (zp6 x.v);rw [<- hc] at h1;have h2:=(ratb hx (by omega)).1;have:=z6e L 0 1 (x.v.num.natAbs*c) (by rw [Nat.pow_one]; exact h1) (by
  rw [Nat.pow_one,Nat.pow_zero,Nat.mul_one];unfold HH;have a:x.v.num.natAbs*c<=4294967296^3*E:=ykw (yn7 h2) (by rw [hc]; exact yo7 _ (yn8 x.v.den_nz));have b:E<=T100*E:=yo7 _ z8o
  calc 46656*(x.v.num.natAbs*c)<=46656*(4294967296^3*E):=yly _ a
   _=46656*4294967296^3*E:=by rw [yko]
   _<=_:=yly _ b)
 exact this
theorem zwy:∀ {p:List GMono} {m:GMono},m∈p->m.coef.v.den ∣ pden p
 | x::p,m,h=>by
  rcases yk5.1 h with rfl|h
  ·exact yox _ _
  ·exact ync (zwy h) (yoy _ _)
include L in
theorem z26 {w:GW} (hp:PVal w.poly) (h:w.li1) (hd:w.den1 ∣ E):w.lb1 E (HH E) 100:=by
 refine ⟨z8s L h.q (ync (yox _ _) hd),fun e=>?_⟩;rcases zjb hp e with h'|⟨m,hm,h'⟩
 ·rw [h']; exact zgd _
 ·rw [h']; exact z8s L (h.p m hm) (ync (zwy hm) (ync (yoy _ _) hd))
include L in
theorem yio {r:GRing} {w:GW} (hc:w.chk r) (h:w.li) (hd:w.den ∣ E):w.lb E (HH E) 100:=by
 have hq:w.den1 ∣ E:=ync (yox _ _) hd;by_cases h6:r.kind=6
 ·obtain ⟨l,e,hs⟩:=hc.2.2 h6;refine ⟨z26 L (by rw [e]; exact zmt) h.o hq,fun x hx=>?_⟩;obtain ⟨i,hi,rfl⟩:=ylq.1 hx;exact z26 L (si_p (hs i (by omega) hi)) (h.ps _ hx) (ync (zp9 (yk4.2 ⟨_,hx,rfl⟩)) (ync (yoy _ _) hd))
 ·have sp:=hc.2.1 h6;exact ⟨z26 L (si_p sp) h.o hq,fun x hx=>by rw [sp.1] at hx; cases hx⟩
end
theorem ydo {r:GRing} (M:Meas r) {n:Nat} {l:List GTArc} (h:∀ x∈l,M.mb n x.w/\x.w.chk r):∀ x∈tidT r l,M.mb (l.length+n) x.w:=fun x hx=>by
 have hs:=zc1 (key:=GTArc.key) l;have h':∀ x∈srt GTArc.key l,M.mb n x.w/\x.w.chk r:=fun x hx=>h x ((hs.2.2 x).1 hx)
 have iv:=zqn (key:=GTArc.key) (up:=upT r) (nw:=id) (Q:=fun k x=>M.mb (k+n) x.w/\x.w.chk r) (fun k x hx=>⟨M.mono hx.1 (by omega),hx.2⟩) (l:=srt GTArc.key l) (fun x hx=>⟨M.mono (h' x hx).1 (by show n<=0+n; omega),(h' x hx).2⟩)
  (fun k z x hx hz=>⟨by have:=M.plus hz.2 (h' x hx).2 hz.1 (M.mono (h' x hx).1 (by omega)); exact M.mono this (by omega),(zch hz.2 (h' x hx).2:(r.plus z.w x.w).chk r)⟩) (fun k x hx=>⟨M.mono hx.1 (by omega),hx.2⟩) _ (yk6 _)
 rw [yki (yk6 _),hs.2.1] at iv;exact (iv.2 x (ym1.1 hx).1).1
theorem z6w {t:GTrans} (ok:t.ok) (M:Meas t.ring) {n:Nat} (hi:∀ w∈t.ini,M.mb n w) (hf:∀ w∈t.fin,M.mb n w) (ha:∀ x∈t.arcs,M.mb n x.w):t.nf.fits M (t.arcs.length+n):=by have h0:=ok.il;have h1:=ok.fl;have hc:∀ x∈t.arcs,x.w.chk t.ring:=fun x hx=>(ok.arcs x hx).2.2.2.2.2.2.2.2;have ht:=ydo M (n:=n) fun x hx=>⟨ha x hx,hc x hx⟩;refine ⟨rfl,⟨ok.st1,ok.st2⟩,fun x hx=>?_,⟨fun w hw=>⟨ok.ini w hw,M.mono (hi w hw) (by omega)⟩,by show t.ini.length=t.st.toNat; omega⟩,⟨fun w hw=>⟨ok.fin w hw,M.mono (hf w hw) (by omega)⟩,by show t.fin.length=t.st.toNat; omega⟩,ok.ring⟩;obtain ⟨a1,a2,a3,a4,a5,a6,a7,a8,a9⟩:=(zw8 ok).arcs x hx;have e:t.nf.st=t.st:=rfl;refine ⟨⟨a9,ht x hx⟩,⟨a1,by show x.f<(t.nf.st.toNat:Int); omega⟩,a3,by show x.t<(t.nf.st.toNat:Int); omega⟩
def GTrans.wts (t:GTrans):List GW:=t.ini++(t.fin++t.arcs.map GTArc.w)
theorem ltW {x a b:Nat} (h:x<4294967296^a) (k:a<=b):x<4294967296^b:=ykc h (zdw k)
theorem yag (p q:List GMono) (D D' B B':Nat) (hp:PVal p) (hq:PVal q) (h1:pqb D B p) (h2:pqb D' B' q) (hD0:D≠0) (hD0':D'≠0) (hD:D*D'<4294967296^1048576)
  (hB:46656*(B*B')<4294967296^1048576) (hs:psm p 524288) (hs':psm q 524288):pmOk p q:=by
 have hpl:=zbm hp;have hql:=zbm hq;have c1:=zhw h1 hp;have c2:=zhw h2 hq;have hDD:D*D'≠0:=ym9 hD0 hD0';refine ⟨hs,hs',fun i k h=>?_⟩;have h3:=zuo (m:=p[i]) (q:=q.take k) (c1 _ (yk2 h)) (fun x hx=>c2 x (ykl hx)) (zuq (p:=p.take i) (fun x hx=>c1 x (ykl hx)) c2 hDD) hDD;refine zg8 h3 (zhv _ (zb8 _ _)) hDD hD (yl2 ?_ hB);have h4:(p.take i).length+1<=216:=by simp; omega
 have h5:(q.take k).length<=216:=by simp; omega
 clear hD hB;generalize B*B'=C at *
 calc (p.take i).length*(q.length*C)+(q.take k).length*C<=(p.take i).length*(216*C)+1*(216*C):=Nat.add_le_add (yly _ (ykd _ hql)) (by rw [Nat.one_mul]; exact ykd _ h5)
  _=((p.take i).length+1)*(216*C):=by rw [ykp]
  _<=216*(216*C):=ykd _ h4
  _=46656*C:=by omega
structure MeasP {r:GRing} (M:Meas r):Prop where
 plusP:∀ {v w:GW} {n:Nat},n<=M.lim->v.chk r->w.chk r->M.mb n v->M.mb n w->Sp P F.am [enc r,enc v,enc w] (.pure (enc (r.plus v w)))
 timesP:∀ {v w:GW} {n:Nat},n<=M.lim->v.chk r->w.chk r->M.mb n v->M.mb n w->Sp P F.au [enc r,enc v,enc w] (.pure (enc (r.times v w)))
 smP:∀ {w:GW} {n:Nat},n<=M.lim->w.chk r->M.mb n w->w.sm 400000
section
variable {E H s:Nat} (L:LB E H s)
include L in
theorem z82 {v w:GW} {n:Nat} (hv:v.lb1 E H n) (hw:w.lb1 E H n) (hs:szN s n<=400000) (pv:PVal v.poly) (pw:PVal w.poly):pmOk v.poly w.poly:=by have hB:H^(n / 100)*2^(n % 100) / 46656<4294967296^szN s n:=yl2 (yn6 _ _) (L_HB L n);have s1:psm v.poly (szN s n):=zg8 (zhe hv.p) pv (L.ene _) (L_D L n) hB;have s2:psm w.poly (szN s n):=zg8 (zhe hw.p) pw (L.ene _) (L_D L n) hB;obtain ⟨a1,a2⟩:=yez L hs hs;exact yag _ _ _ _ _ _ pv pw (zhe hv.p) (zhe hw.p) (L.ene _) (L.ene _) a1 a2 (s1.monoR (by omega)) (s2.monoR (by omega))
theorem yin (r:GRing) (hr:r.ok=true) (lim:Nat) (h1:216<=szN s lim) (h2:szN s lim<=400000):MeasP (lwM L r hr lim h1 h2):=by
 refine ⟨fun {v w n} hn cv cw hv hw=>?_,fun {v w n} hn cv cw hv hw=>?_,fun {w n} hn cw hw=>(zgo L cw (GW.lb.mono L hw hn) h1).mono h2⟩
 ·exact zsj r v w (szN s lim) (zgo L cv (GW.lb.mono L hv hn) h1) (zgo L cw (GW.lb.mono L hw hn) h1) h2 (by omega) cv cw
 ·have kv:=GW.lb.mono L hv hn;have kw:=GW.lb.mono L hw hn;have sv:v.sm 400000:=(zgo L cv kv h1).mono h2;have sw:w.sm 400000:=(zgo L cw kw h1).mono h2;refine z0i r v w (sv.mono (by omega)) (sw.mono (by omega)) cv cw (fun h5=>?_) fun i h h3 h4 h5=>?_
  ·exact z82 L kv.o kw.o h2 (si_p (cv.2.1 (by rw [h5]; decide))) (si_p (cw.2.1 (by rw [h5]; decide)))
  ·have h6:r.kind=6:=by apply Decidable.byContradiction;intro h6;have:=(GRing.ok_kind hr h6).2.2;rw [this] at h; simp at h
   exact z82 L (kv.ps _ (yk2 h3)) (kw.ps _ (yk2 h4)) h2 (si_p ((cv.2.2 h6).2.2 i h h3)) (si_p ((cw.2.2 h6).2.2 i h h4))
end
theorem zxd {t:GTrans} (ok:t.ok) (h:∀ w∈t.wts,w.li) (hl:t.wts.length<=22):∃ M:Meas t.ring,M.lim=12000/\MeasP M/\t.nf.fits M (t.arcs.length+100):=by
 have hE:=ybc h hl;have L0:∀ s,s=3081->LB (lden t.wts) (HH (lden t.wts)) s:=fun s e=>yjo (z65 _) (ltW hE (by omega)) (by omega);have L:=L0 3081 rfl;refine ⟨lwM L t.ring ok.ring 12000 (by decide) (by decide),rfl,yin L t.ring ok.ring 12000 (by decide) (by decide),?_⟩;have hb:∀ w∈t.wts,w.chk t.ring->w.lb (lden t.wts) (HH (lden t.wts)) 100:=fun w hw hc=>yio L hc (h w hw) (z67 hw)
 exact z6w ok (lwM L t.ring ok.ring 12000 (by decide) (by decide)) (fun w hw=>hb w (by simp [GTrans.wts,hw]) (ok.ini w hw)) (fun w hw=>hb w (by simp [GTrans.wts,hw]) (ok.fin w hw))
  (fun x hx=>hb x.w (by simp only [GTrans.wts,yk8,yk4]; exact .inr (.inr ⟨x,hx,rfl⟩)) (ok.arcs x hx).2.2.2.2.2.2.2.2)
end Go.Ab
namespace Go.Ab
open Enc (enc)
attribute [local go_sem] zal Opd.slots
theorem zwf (l:Int) (h:0<=l/\l<=64):Sp P F.dz [.int .i64 l] (.pure (.int .i64 (stp l:Nat))):=by
 have:=z9v l h;have e:(if l=0 then (0:Int) else 1)=((stp l:Nat):Int):=by unfold stp; split<;>rfl
 rwa [e] at this
def f1S (t:GTrans) (wx wy:List Int) (I J N:Nat) (T:List (List GW)) (ord:List Int) (i k idx q:Nat) (w:GW) (x:Nat):St :=
 ⟨[(0,.ptr 900000 0 0 0),(1,.p (.sl (ens ord))),(4,.p (.int .i64 i)),(5,.p (.int .i64 k)),(7,.p (.int .i64 q)),(8,.ptr 3 0 0 0),(15,.p (.int .i64 I)),(16,.p (.int .i64 i)),(26,.p (.int .i64 J)),(27,.p (.int .i64 k)),(30,.p (.sl (ens ord))),(31,.p (.int .i64 ord.length)),(32,.p (.int .i64 idx)),(60,.p (.sl (ens t.arcs))),(61,.p (.int .i64 t.arcs.length)),(62,.p (.int .i64 x))],
  hpT t wx wy I J N T++[(3,[some ⟨8,[.p (enc w)]⟩]),(DEAD,[none])]⟩
theorem yip:g.nt=.seq (.reg [⟨some 63,.ibin .lss (.t 62) (.t 61),none⟩] []) (.seq (.cond (.t 63) [63] (.nop) (.ext 6)) (.seq (.blk 7 zvh) zzh)):=rfl
def f2S (t:GTrans) (wx wy:List Int) (I J N:Nat) (T:List (List GW)) (ord:List Int) (i k idx q:Nat) (w:GW) (x:Nat) (a:GTArc):St :=
 ⟨[(0,.ptr 900000 0 0 0),(1,.p (.sl (ens ord))),(4,.p (.int .i64 i)),(5,.p (.int .i64 k)),(7,.p (.int .i64 q)),(8,.ptr 3 0 0 0),(10,.ptr 10 0 0 0),(15,.p (.int .i64 I)),(16,.p (.int .i64 i)),(26,.p (.int .i64 J)),(27,.p (.int .i64 k)),(30,.p (.sl (ens ord))),(31,.p (.int .i64 ord.length)),(32,.p (.int .i64 idx)),(60,.p (.sl (ens t.arcs))),(61,.p (.int .i64 t.arcs.length)),(62,.p (.int .i64 x))],
  hpT t wx wy I J N T++[(3,[some ⟨8,[.p (enc w)]⟩]),(10,[some ⟨12,[.p (enc a)]⟩]),(DEAD,[none])]⟩
theorem zas (I J N:Nat) (T:List (List GW)):zbp [900000,900001,900002,900003] ((List.range I).map (outV J))=true/\(∀ x:Option AObj,x∈famR I J N->zqf [900000,900001,900002,900003] x=true)/\∀ x:Option AObj,x∈famC T->zqf [900000,900001,900002,900003] x=true:=by
 refine ⟨zux _ rfl J _,fun x hx=>?_,fun x hx=>?_⟩
 ·obtain ⟨i,_,rfl⟩:=yk4.1 hx;exact zui _ rfl N _ _
 ·obtain ⟨l,_,rfl⟩:=yk4.1 hx;exact z9d _ l
theorem ybt (t:GTrans) (wx wy:List Int) (I J N:Nat) (T:List (List GW)) (ord:List Int) (i k idx q:Nat) (w:GW) (x:Nat) (A:FA) (hx:x<t.arcs.length) (R:Exit->St->Option FA->Prop)
  (hn:∀ s,Weak s (f2S t wx wy I J N T ord i k idx q w x t.arcs[x])->MR P 104 z3p.er s (some A) R) :
  MR P 104 zvh.er (f1S t wx wy I J N T ord i k idx q w x) (some A) R:=by
 unfold zvh;refine MR.gseq ?_;generalize z3p=FB at *
 simp [f1S,go_sem,hpT,tabV];refine zae hx ?_;refine hn _ (Weak.toF [0,1,4,5,7,8,10,15,16,26,27,30,31,32,60,61,62] [900000,900001,900002,900003] [((3,0),3),((10,0),10)] ?_);simp [go_sem,f2S,hpT,tabV];exact zas I J N T
theorem ye9 (t:GTrans) (wx wy:List Int) (I J N:Nat) (T:List (List GW)) (ord:List Int) (i k idx q:Nat) (w:GW) (x:Nat) (a:GTArc) (A:FA) (hl:T.length=I*J) (hN:∀ l∈T,l.length=N) (ha:a.fit N) (R:Exit->St->Option FA->Prop)
  (hn:∀ b:Bool,(b=true ↔ a.f.toNat=q/\fitT wx wy i k a)->∀ s,Weak s ⟨(76,.p (.bool b))::(f2S t wx wy I J N T ord i k idx q w x a).sl,(f2S t wx wy I J N T ord i k idx q w x a).hp⟩->MR P 104 zzi.er s (some A) R) :
  MR P 104 z3p.er (f2S t wx wy I J N T ord i k idx q w x a) (some A) R:=by
 unfold z3p;refine MR.gseq ?_;generalize zzi=FC at *
 obtain ⟨b,hb,hf⟩:∃ b:Bool,(b=true ↔ fitT wx wy i k a)/\Sp P F.bb [.ref (tabP t wx wy (tabA I J T)),enc a,.int .i64 i,.int .i64 k] (.pure (.bool b)):=⟨_,decide_eq_true_iff,ybo t wx wy (tabA I J T) a i k⟩;by_cases hq:a.f=(q:Int)
 ·simp [f2S,go_sem,hpT,tabV,hq];refine zaa hf (zbz (z48 (N:=N) (by simp [zog,St.site,look,hpT,tabV]) hl hN) (by simp [go_sem,hq])) ?_;simp [go_sem];refine hn b ?_ _ (Weak.toF [76,0,1,4,5,7,8,10,15,16,26,27,30,31,32,60,61,62] [900000,900001,900002,900003] [((3,0),3),((10,0),10)] ?_)
  ·have:a.f.toNat=q:=by omega
   rw [hb]; exact ⟨fun h=>⟨this,h⟩,fun h=>h.2⟩
  ·simp [go_sem,f2S,hpT,tabV,hq];exact zas I J N T
 ·simp [f2S,go_sem,hpT,tabV,hq];refine hn false ?_ _ (Weak.toF [76,0,1,4,5,7,8,10,15,16,26,27,30,31,32,60,61,62] [900000,900001,900002,900003] [((3,0),3),((10,0),10)] ?_)
  ·have:=ha.1.1;exact ⟨fun h=>(by cases h),fun h=>absurd h.1 (by omega)⟩
  ·simp [go_sem,f2S,hpT,tabV];exact zas I J N T
theorem yfa (t:GTrans) (wx wy:List Int) (I J N:Nat) (T:List (List GW)) (ord:List Int) (i k idx q:Nat) (w:GW) (x:Nat) (a:GTArc) (A:FA) (b:Bool) (hi:i+stp a.i<I) (hk:k+stp a.o<J) (hI:I<=1000) (hJ:J<=1000) (hp:(i+stp a.i)*J+(k+stp a.o)<T.length) (hN:∀ l∈T,l.length=N) (ha:a.fit N)
  (hai:0<=a.i/\a.i<=64) (hao:0<=a.o/\a.o<=64)
  (ht:Sp P F.au [enc t.ring,enc w,enc a.w] (.pure (enc (t.ring.times w a.w))))
  (hpl:Sp P F.am [enc t.ring,enc ((T.getD ((i+stp a.i)*J+(k+stp a.o)) []).getD a.t.toNat t.ring.zero),enc (t.ring.times w a.w)] (.pure (enc (t.ring.plus ((T.getD ((i+stp a.i)*J+(k+stp a.o)) []).getD a.t.toNat t.ring.zero) (t.ring.times w a.w)))))
  (R:Exit->St->Option FA->Prop)
  (hn:∀ s,Weak s (f1S t wx wy I J N (if b=true then adT t.ring T ((i+stp a.i)*J+(k+stp a.o)) a.t.toNat (t.ring.times w a.w) else T) ord i k idx q w x)->R .normal s (some A)) :
  MR P 104 zzi.er ⟨(76,.p (.bool b))::(f2S t wx wy I J N T ord i k idx q w x a).sl,(f2S t wx wy I J N T ord i k idx q w x a).hp⟩ (some A) R:=by
 unfold zzi;refine MR.gcond (t:=b) (by simp [go_sem]) (fun h=>?_) (fun h=>MR.gnop (hn _ ?_))
 ·subst h;refine MR.gregD rfl rfl ?_;have e1:IntKind.i64.wrap ((i:Int)+(stp a.i:Nat))=((i+stp a.i:Nat):Int):=(i64w (by omega) (by omega)).trans (by omega);have e2:IntKind.i64.wrap ((k:Int)+(stp a.o:Nat))=((k+stp a.o:Nat):Int):=(i64w (by omega) (by omega)).trans (by omega);have e3:a.t=((a.t.toNat:Nat):Int):=by have:=ha.2.1; omega
  simp [f2S,go_sem,hpT,tabV];refine zab (zwf a.i hai) ?_;simp [go_sem,e1];refine zab (zwf a.o hao) ?_;simp [go_sem,e2];refine zab ht ?_;simp [go_sem];refine zss (zyr t wx wy I J N T (i+stp a.i) (k+stp a.o) a.t.toNat hi hk hp (by have:=ha.2.2; omega) ?_ (t.ring.times w a.w) hpl) ?_ ?_ ?_ ?_ ?_
  ·rw [yk9,ykg hp]; exact hN _ (yk2 hp)
  ·simp [go_sem,<- e3]
  ·simp [zog,St.site,look,hpT,tabV]
  ·rfl
  ·show (true&&hpOk [900000,900001,900002,900003] (hpT t wx wy I J N T)&&true&&hpOk [900000,900001,900002,900003] (hpT t wx wy I J N _))=true;rw [zpg,zpg]; rfl
  ·refine hn _ (Weak.toF [0,1,4,5,7,8,15,16,26,27,30,31,32,60,61,62] [900000,900001,900002,900003] [((3,0),3)] ?_);simp [go_sem,f1S,f2S,hpT,tabV];exact zas I J N _
 ·subst h;refine Weak.toF [0,1,4,5,7,8,15,16,26,27,30,31,32,60,61,62] [900000,900001,900002,900003] [((3,0),3)] ?_;simp [go_sem,f1S,f2S,hpT,tabV];exact zas I J N T
structure plOk (t:GTrans) (wx wy:List Int) (I J N:Nat) (i k q:Nat) (w:GW) (T:List (List GW)) (a:GTArc):Prop where
 len:T.length=I*J
 row:∀ l∈T,l.length=N
 fit:a.fit N
 ai:0<=a.i/\a.i<=64
 ao:0<=a.o/\a.o<=64
 ins:a.f.toNat=q->fitT wx wy i k a->i+stp a.i<I/\k+stp a.o<J
 ht:Sp P F.au [enc t.ring,enc w,enc a.w] (.pure (enc (t.ring.times w a.w)))
 hpl:∀ p,Sp P F.am [enc t.ring,enc ((T.getD p []).getD a.t.toNat t.ring.zero),enc (t.ring.times w a.w)] (.pure (enc (t.ring.plus ((T.getD p []).getD a.t.toNat t.ring.zero) (t.ring.times w a.w))))
theorem z11 {I J i k:Nat} (hi:i<I) (hk:k<J):i*J+k<I*J:=by have:=ykd J (yns hi);rw [yks] at this; omega
theorem ybu (t:GTrans) (wx wy:List Int) (I J N:Nat) (T:List (List GW)) (ord:List Int) (i k idx q:Nat) (w:GW) (A:FA) (hJ:J=wy.length+1) (hI:I<=1000) (hJ1:J<=1000) (hal:t.arcs.length<=1000)
  (hok:∀ x,(h:x<t.arcs.length)->plOk t wx wy I J N i k q w ((t.arcs.take x).foldl (arT t.ring wx wy i k q w) T) t.arcs[x]) {s:St} (hw:Weak s (f1S t wx wy I J N T ord i k idx q w 0)) :
  MR P 104 (GC.loop g.nt).er s (some A) fun ex s B=>ex=.exit 6/\B=some A/\Weak s (f1S t wx wy I J N (t.arcs.foldl (arT t.ring wx wy i k q w) T) ord i k idx q w t.arcs.length):=by
 refine MR.gloop (I:=fun n s B=>∃ x,x<=t.arcs.length/\n=t.arcs.length - x/\Weak s (f1S t wx wy I J N ((t.arcs.take x).foldl (arT t.ring wx wy i k q w) T) ord i k idx q w x)/\B=some A) t.arcs.length ⟨0,by omega,by omega,hw,rfl⟩ ?_;rintro n0 s B ⟨x,hx,rfl,hw,rfl⟩;refine MR.weak hw ?_;generalize hR:(fun (ex:Exit) (s:St) (B:Option FA)=>(ex=.normal->∃ m,m<t.arcs.length - x/\∃ x,x<=t.arcs.length/\m=t.arcs.length - x/\Weak s (f1S t wx wy I J N ((t.arcs.take x).foldl (arT t.ring wx wy i k q w) T) ord i k idx q w x)/\B=some A)/\(ex ≠ .normal->ex=.exit 6/\B=some A/\Weak s (f1S t wx wy I J N (t.arcs.foldl (arT t.ring wx wy i k q w) T) ord i k idx q w t.arcs.length)))=R;have r1:x<t.arcs.length->∀ s,Weak s (f1S t wx wy I J N ((t.arcs.take (x+1)).foldl (arT t.ring wx wy i k q w) T) ord i k idx q w (x+1))->R .normal s (some A):=fun h s hw=>by subst hR;exact ⟨fun _=>⟨t.arcs.length - (x+1),by omega,x+1,by omega,rfl,hw,rfl⟩,fun h=>absurd rfl h⟩
 have r2:x=t.arcs.length->∀ s,Weak s (f1S t wx wy I J N ((t.arcs.take x).foldl (arT t.ring wx wy i k q w) T) ord i k idx q w x)->R (.exit 6) s (some A):=fun h s hw=>by subst hR;refine ⟨fun h=>(by cases h),fun _=>⟨rfl,rfl,?_⟩⟩;rw [h,ykn] at hw; exact hw
 clear hR hw;have hst:∀ h:x<t.arcs.length,(t.arcs.take (x+1)).foldl (arT t.ring wx wy i k q w) T=arT t.ring wx wy i k q w ((t.arcs.take x).foldl (arT t.ring wx wy i k q w) T) t.arcs[x]:=fun h=>by rw [ykb h,yl5]; rfl
 have hok':=hok x;clear hok;generalize (t.arcs.take x).foldl (arT t.ring wx wy i k q w) T=Tx at *
 rw [yip];by_cases hlt:x<t.arcs.length
 ·have ok:=hok' hlt;rw [hst hlt] at r1;have r3:=r1 hlt;clear r1 r2 hst;have e1:=i64s x (by omega);have hA:MR P 104 zvh.er (f1S t wx wy I J N Tx ord i k idx q w x) (some A) fun ex s B=>(exB 7 ex=.normal->MR P 104 zzh.er s B R)/\(exB 7 ex ≠ .normal->R (exB 7 ex) s B):=by
   refine ybt t wx wy I J N Tx ord i k idx q w x A hlt _ fun s hw=>MR.weak hw (ye9 t wx wy I J N Tx ord i k idx q w x t.arcs[x] A ok.len ok.row ok.fit _ fun b hb s hw=>MR.weak hw ?_);have hfin:∀ s,Weak s (f1S t wx wy I J N (if b=true then adT t.ring Tx ((i+stp t.arcs[x].i)*J+(k+stp t.arcs[x].o)) t.arcs[x].t.toNat (t.ring.times w t.arcs[x].w) else Tx) ord i k idx q w x)->(exB 7 .normal=.normal->MR P 104 zzh.er s (some A) R)/\(exB 7 .normal ≠ .normal->R (exB 7 .normal) s (some A)):=fun s hw=>by
    have he:(if b=true then adT t.ring Tx ((i+stp t.arcs[x].i)*J+(k+stp t.arcs[x].o)) t.arcs[x].t.toNat (t.ring.times w t.arcs[x].w) else Tx)=arT t.ring wx wy i k q w Tx t.arcs[x]:=by
     unfold arT;rw [hJ];by_cases hc:b=true
     ·rw [yj9 hc,yj9 (hb.1 hc)]
     ·rw [yj8 hc,yj8 fun h=>hc (hb.2 h)]
    rw [he] at hw;refine ⟨fun _=>MR.weak hw (MR.of_vm ?_),fun h=>absurd rfl h⟩;simp [zzh,f1S,go_sem,hpT,tabV,e1];refine r3 _ (Weak.toF [0,1,4,5,7,8,15,16,26,27,30,31,32,60,61,62] [900000,900001,900002,900003] [((3,0),3)] ?_);simp [go_sem,f1S,hpT,tabV];exact zas I J N _
   cases b with
   | false =>
    unfold zzi;refine MR.gcond (t:=false) (by simp [go_sem]) (fun h=>by cases h) (fun h=>MR.gnop (hfin _ ?_));refine Weak.toF [0,1,4,5,7,8,15,16,26,27,30,31,32,60,61,62] [900000,900001,900002,900003] [((3,0),3)] ?_;simp [go_sem,f1S,f2S,hpT,tabV];exact zas I J N Tx
   | true =>
    obtain ⟨c1,c2⟩:=hb.1 rfl;obtain ⟨c3,c4⟩:=ok.ins c1 c2;exact yfa t wx wy I J N Tx ord i k idx q w x t.arcs[x] A true c3 c4 hI hJ1 (by rw [ok.len]; exact z11 c3 c4) ok.row ok.fit ok.ai ok.ao ok.ht (ok.hpl _) _ hfin
  refine MR.gseq ?_;generalize zvh=FA0 at *
  simp [f1S,go_sem,hlt];refine MR.gseq' (MR.gcond (t:=true) (by simp [go_sem,hlt]) (fun _=>MR.gnop ⟨fun _=>?_,fun h=>absurd rfl h⟩) (fun h=>by cases h));refine MR.gseq' (MR.gblk ?_);refine MR.weak ?_ hA;refine Weak.toF [0,1,4,5,7,8,15,16,26,27,30,31,32,60,61,62] [900000,900001,900002,900003] [((3,0),3)] ?_;simp [go_sem,f1S,hpT,tabV];exact zas I J N Tx
 ·have hx':x=t.arcs.length:=by omega
  have r3:=r2 hx';clear r1 r2 hst;refine MR.gseq ?_;generalize zvh=FA0 at *
  generalize zzh=FZ0 at *
  simp [f1S,go_sem,hlt];refine MR.gseq' (MR.gcond (t:=false) (by simp [go_sem,hlt]) (fun h=>(by cases h)) (fun _=>MR.gext ⟨fun h=>(by cases h),fun _=>r3 _ ?_⟩));refine Weak.toF [0,1,4,5,7,8,15,16,26,27,30,31,32,60,61,62] [900000,900001,900002,900003] [((3,0),3)] ?_;simp [go_sem,f1S,hpT,tabV];exact zas I J N Tx
theorem ye8:g.ny=.seq (.reg [⟨some 33,.ibin .lss (.t 32) (.t 31),none⟩] []) flB9:=rfl
def toI (l:List Nat):List Int:=l.map fun (q:Nat)=>(q:Int)
theorem zdk (l:List Nat):(toI l).length=l.length:=by simp [toI]
def f3S (t:GTrans) (wx wy:List Int) (I J N:Nat) (T:List (List GW)) (ord:List Nat) (i k idx:Nat):St :=
 ⟨[(0,.ptr 900000 0 0 0),(1,.p (.sl (ens (toI ord)))),(4,.p (.int .i64 i)),(5,.p (.int .i64 k)),(15,.p (.int .i64 I)),(16,.p (.int .i64 i)),(26,.p (.int .i64 J)),(27,.p (.int .i64 k)),(30,.p (.sl (ens (toI ord)))),(31,.p (.int .i64 ord.length)),(32,.p (.int .i64 idx))],
  hpT t wx wy I J N T++[(DEAD,[none])]⟩
def f5S (t:GTrans) (wx wy:List Int) (I J N:Nat) (T:List (List GW)) (ord:List Nat) (i k idx q:Nat):St :=
 ⟨[(0,.ptr 900000 0 0 0),(1,.p (.sl (ens (toI ord)))),(4,.p (.int .i64 i)),(5,.p (.int .i64 k)),(7,.p (.int .i64 q)),(15,.p (.int .i64 I)),(16,.p (.int .i64 i)),(26,.p (.int .i64 J)),(27,.p (.int .i64 k)),(30,.p (.sl (ens (toI ord)))),(31,.p (.int .i64 ord.length)),(32,.p (.int .i64 idx))],
  hpT t wx wy I J N T++[(DEAD,[none])]⟩
def f6S (t:GTrans) (wx wy:List Int) (I J N:Nat) (T:List (List GW)) (ord:List Nat) (i k idx q:Nat) (w:GW):St :=
 ⟨[(0,.ptr 900000 0 0 0),(1,.p (.sl (ens (toI ord)))),(4,.p (.int .i64 i)),(5,.p (.int .i64 k)),(7,.p (.int .i64 q)),(8,.ptr 3 0 0 0),(15,.p (.int .i64 I)),(16,.p (.int .i64 i)),(26,.p (.int .i64 J)),(27,.p (.int .i64 k)),(30,.p (.sl (ens (toI ord)))),(31,.p (.int .i64 ord.length)),(32,.p (.int .i64 idx))],
  hpT t wx wy I J N T++[(3,[some ⟨8,[.p (enc w)]⟩]),(DEAD,[none])]⟩
section
variable (t:GTrans) (wx wy:List Int) (I J N:Nat) (T:List (List GW)) (ord:List Nat) (i k idx:Nat) (A:FA) (R:Exit->St->Option FA->Prop)
theorem f3_a (hx:idx<ord.length) (hn:∀ s,Weak s (f5S t wx wy I J N T ord i k idx ord[idx])->MR P 104 flB5.er s (some A) R):MR P 104 flB6.er (f3S t wx wy I J N T ord i k idx) (some A) R:=by
 unfold flB6;refine MR.gseq ?_;generalize flB5=FB at *
 have hx2:idx<(toI ord).length:=by rw [zdk]; exact hx
 have hg:(toI ord)[idx]=((ord[idx]:Nat):Int):=by simp [toI]
 simp [f3S,go_sem,hpT,tabV,zdk];refine zae hx2 ?_;rw [hg];refine hn _ (Weak.toF [0,1,4,5,7,15,16,26,27,30,31,32] [900000,900001,900002,900003] [] ?_);simp [go_sem,f5S,hpT,tabV];exact zas I J N T
theorem f3_b {q:Nat} (hi:i<I) (hk:k<J) (hl:T.length=I*J) (hN:∀ l∈T,l.length=N) (hq:q<N) (hn:∀ s,Weak s (f6S t wx wy I J N T ord i k idx q ((T.getD (i*J+k) []).getD q t.ring.zero))->MR P 104 flB4.er s (some A) R) :
  MR P 104 flB5.er (f5S t wx wy I J N T ord i k idx q) (some A) R:=by
 unfold flB5;refine MR.gseq ?_;generalize flB4=FB at *
 have hp:i*J+k<T.length:=by rw [hl]; exact z11 hi hk
 have e1:=zjs (N:=N) (J:=J) hi;have e2:=zjt hp;have hrow:(T.getD (i*J+k) []).length=N:=by rw [yk9,ykg hp]; exact hN _ (yk2 hp)
 have r1:(List.map (outV J) (List.range I))[i]?=some (outV J i):=by rw [ykv,ylt hi]; rfl
 have r2:(List.map (rowV N (i*J)) (List.range J))[k]?=some (rowV N (i*J) k):=by rw [ykv,ylt hk]; rfl
 simp [f5S,go_sem,hpT,tabV];refine ⟨hi,?_⟩;rw [zbt];refine ⟨_,r1,?_⟩;simp [go_sem,outV,e1,hi,hk];rw [zbt];refine ⟨_,r2,?_⟩;generalize T.getD (i*J+k) []=row at *
 have hql:q<row.length:=by omega
 have hgq:row.getD q t.ring.zero=row[q]:=by rw [yk9,ykg hql]; rfl
 simp [go_sem,rowV,e1,e2,hi,hk,hrow,hq];refine zae hql ?_;rw [hgq] at hn;refine hn _ (Weak.toF [0,1,4,5,7,8,15,16,26,27,30,31,32] [900000,900001,900002,900003] [((8,0),3)] ?_);simp [go_sem,f6S,hpT,tabV];exact zas I J N T
theorem f3_c {q:Nat} {w:GW} (hs:w.sm 1048576) (h0:w=t.ring.zero->∀ s,Weak s (f6S t wx wy I J N T ord i k idx q w)->R (.exit 5) s (some A)) (hn:w≠t.ring.zero->∀ s,Weak s (f6S t wx wy I J N T ord i k idx q w)->MR P 104 flB3.er s (some A) R) :
  MR P 104 flB4.er (f6S t wx wy I J N T ord i k idx q w) (some A) R:=by
 unfold flB4 flB1;refine MR.gseq ?_;generalize flB3=FB at *
 simp [f6S,go_sem,hpT,tabV];refine zab (zpe t.ring w hs) ?_;by_cases hz:w=t.ring.zero
 ·simp [go_sem,hz];refine h0 hz _ (Weak.toF [0,1,4,5,7,8,15,16,26,27,30,31,32] [900000,900001,900002,900003] [((3,0),3)] ?_);simp [go_sem,f6S,hpT,tabV,hz];exact zas I J N T
 ·simp [go_sem,hz];refine hn hz _ (Weak.toF [0,1,4,5,7,8,15,16,26,27,30,31,32] [900000,900001,900002,900003] [((3,0),3)] ?_);simp [go_sem,f6S,hpT,tabV];exact zas I J N T
theorem f3_d {q:Nat} {w:GW} (hJ:J=wy.length+1) (hI:I<=1000) (hJ1:J<=1000) (hal:t.arcs.length<=1000)
  (hok:∀ x,(h:x<t.arcs.length)->plOk t wx wy I J N i k q w ((t.arcs.take x).foldl (arT t.ring wx wy i k q w) T) t.arcs[x])
  (hn:∀ s,Weak s (f1S t wx wy I J N (t.arcs.foldl (arT t.ring wx wy i k q w) T) (toI ord) i k idx q w t.arcs.length)->R .normal s (some A)) :
  MR P 104 flB3.er (f6S t wx wy I J N T ord i k idx q w) (some A) R:=by
 have hloop:=fun (s:St) hw=>ybu t wx wy I J N T (toI ord) i k idx q w A hJ hI hJ1 hal hok (s:=s) hw;unfold flB3 flB2;refine MR.gseq ?_;generalize (GC.loop g.nt)=L at *
 simp [f6S,go_sem,hpT,tabV];refine MR.gblk ((hloop _ (Weak.toF [0,1,4,5,7,8,15,16,26,27,30,31,32,60,61,62] [900000,900001,900002,900003] [((3,0),3)] ?_)).mono ?_)
 ·simp [go_sem,f1S,hpT,tabV,zdk];exact zas I J N T
 ·rintro ex s B ⟨rfl,rfl,hw⟩;exact hn s hw
end
end Go.Ab
