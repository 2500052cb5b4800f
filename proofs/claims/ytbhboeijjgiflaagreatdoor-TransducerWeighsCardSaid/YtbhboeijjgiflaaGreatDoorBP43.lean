/-
Proofs for the law TransducerWeighs, part 43. Conditions: none.
-/
import Derived.Test.YtbhboeijjgiflaaGreatDoorBP40
import Derived.Test.YtbhboeijjgiflaaGreatDoorBP42
import Derived.Test.YtbhboeijjgiflaaGreatDoorBP41
set_option maxRecDepth 100000
set_option maxHeartbeats 4000000
set_option linter.all false
namespace Go.Ab
section
variable {r:GRing} (hr:r.ok=true) {t:GTrans} (ht:ckT r t) {wx wy:List Int}
structure tord (t:GTrans) (ord:List Nat):Prop where
 nd:ord.Nodup
 all:∀ q,q∈ord ↔ q<t.st.toNat
 len:ord.length<=t.st.toNat
 go:∀ pre q post,ord=pre++q::post->∀ x∈t.arcs,emF x=true->x.f.toNat=q->x.t.toNat∉pre++[q]
theorem tord.lt {ord:List Nat} (h:tord t ord) {x:GTArc} (hx:x∈t.arcs) (he:emF x=true) (h1:x.f.toNat<t.st.toNat) (h2:x.t.toNat<t.st.toNat):ord.idxOf x.f.toNat<ord.idxOf x.t.toNat/\ord.idxOf x.t.toNat<t.st.toNat:=by
 have m1:=(h.all _).2 h1;have m2:=(h.all _).2 h2;have hlen:=h.len;refine ⟨?_,ykc (List.idxOf_lt_length_of_mem m2) hlen⟩;obtain ⟨pre,post,e⟩:=ynm m1;have hn:=h.go pre _ post e x hx he rfl;have hnp:x.f.toNat∉pre:=fun hm=>by have:=h.nd;rw [e] at this;exact (yms.1 this).2.2 _ hm _ yl6 rfl
 have e1:ord.idxOf x.f.toNat=pre.length:=by rw [e,List.idxOf_append,yj8 hnp,List.idxOf_cons_self,yle]
 have e2:pre.length+1<=ord.idxOf x.t.toNat:=by
  have:ord=(pre++[x.f.toNat])++post:=by rw [e]; simp
  rw [this,List.idxOf_append,yj8 hn];simp
 omega
include ht in
theorem ydt {ord:List Nat} (ho:tord t ord) {pre post:List Nat} {q0:Nat} (e:ord=pre++q0::post) {i k:Nat} (hi:i<=wx.length) (hk:k<=wy.length) {T:List (List GW)} (h:zcc r (plN wx wy) t.st.toNat T) :
  zcc r (plN wx wy) t.st.toNat (stT r wx wy t.arcs i k T q0) /\
  Ph hr (plN wx wy) t.st.toNat (co hr t wx wy (i*(wy.length+1)+k) (pre++[q0])) (stT r wx wy t.arcs i k T q0)=Ph hr (plN wx wy) t.st.toNat (co hr t wx wy (i*(wy.length+1)+k) pre) T:=by
 have hq0:q0<t.st.toNat:=(ho.all q0).1 (by rw [e]; simp);have hnp:q0∉pre:=fun hm=>by have:=ho.nd;rw [e] at this;exact (yms.1 this).2.2 _ hm _ yl6 rfl
 have hp0:=zur hi hk;have hpos:∀ x∈t.arcs,emF x=true->ord.idxOf x.f.toNat<ord.idxOf x.t.toNat/\ord.idxOf x.t.toNat<t.st.toNat:=fun x hx he=>by obtain ⟨_,⟨a2,a3⟩,a4,a5⟩:=ht.arcs x hx;exact ho.lt hx he (by omega) (by omega)
 have hrec:=z5n hr ht hi hk (pos:=fun q=>ord.idxOf q) hpos q0;generalize hc:((srG r hr).sum t.arcs fun x=>if x.f.toNat=q0/\fitT wx wy i k x then (srG r hr).m (cw hr x.w) (gd hr (tabW t wx wy (i+stp x.i) (k+stp x.o)) x.t.toNat) else (srG r hr).z)=c at hrec;have htar:∀ x∈t.arcs,x.f.toNat=q0->fitT wx wy i k x->co hr t wx wy (i*(wy.length+1)+k) (pre++[q0]) ((i+stp x.i)*(wy.length+1)+(k+stp x.o)) x.t.toNat=gd hr (tabW t wx wy (i+stp x.i) (k+stp x.o)) x.t.toNat:=fun x hx hf hfit=>by
  have hin:=zxy hfit hi hk;rw [<- z4d hr hin.2];unfold co;rw [yj8];rintro (h1|⟨h1,h2⟩)
  ·have:=ykd (wy.length+1) (Nat.le_add_right i (stp x.i));omega
  ·by_cases he:emF x=true
   ·exact ho.go pre q0 post e x hx he hf h2
   ·have h3:0<stp x.i+stp x.o:=by unfold emF at he;unfold stp;by_cases a:x.i=0<;>by_cases b:x.o=0<;>simp [a,b] at he ⊢
    rw [ykp] at h1;by_cases h4:0<stp x.i
    ·have:=ykd (wy.length+1) h4;omega
    ·have:stp x.i=0:=by omega
     rw [this] at h1;omega
 have hco:=yjm hr hp0 hq0 T (β := co hr t wx wy (i*(wy.length+1)+k) pre) (β':=co hr t wx wy (i*(wy.length+1)+k) (pre++[q0])) (c:=c) fun p' q' hp' hq'=>by
  by_cases hpq:p'=i*(wy.length+1)+k/\q'=q0
  ·obtain ⟨rfl,rfl⟩:=hpq;rw [yj9 ⟨rfl,rfl⟩];unfold co;rw [yj8 (by rintro (h|⟨_,h⟩); omega; exact hnp h),yj9 (.inr ⟨rfl,by simp⟩),z4d hr hk,yf5 hr ht hi hk];exact hrec
  ·rw [yj8 hpq];unfold co;by_cases hd:p'<i*(wy.length+1)+k\/(p'=i*(wy.length+1)+k/\q'∈pre)
   ·rw [yj9 hd,yj9];rcases hd with h|⟨h1,h2⟩
    ·exact .inl h
    ·exact .inr ⟨h1,by simp [h2]⟩
   ·rw [yj8 hd,yj8];rintro (h|⟨h1,h2⟩)
    ·exact hd (.inl h)
    ·rcases yk8.1 h2 with h2|h2
     ·exact hd (.inr ⟨h1,h2⟩)
     ·exact hpq ⟨h1,by simpa using h2⟩
 rw [hco];have hw:((T.getD (i*(wy.length+1)+k) []).getD q0 r.zero).chk r:=zh2 hr (h.get hp0) q0;unfold stT;split
 ·rename_i hz;refine ⟨h,?_⟩;have:gd hr (T.getD (i*(wy.length+1)+k) []) q0=(srG r hr).z:=by unfold gd; rw [hz,zvp]
  rw [this,SR.zm,(srG r hr).pz]
 ·obtain ⟨i1,i2⟩:=zvx hr ht hi hk (q:=q0) hw (co hr t wx wy (i*(wy.length+1)+k) (pre++[q0])) (l:=t.arcs) (fun _ h=>h) h;refine ⟨i1,?_⟩;rw [i2,<- hc]
  congr 2
  refine (srG r hr).sum_congr fun x hx=>?_;by_cases hf:x.f.toNat=q0/\fitT wx wy i k x
  ·rw [yj9 hf,yj9 hf,htar x hx hf.1 hf.2]
  ·rw [yj8 hf,yj8 hf]
include ht in
theorem z83 {ord:List Nat} (ho:tord t ord) {i k:Nat} (hi:i<=wx.length) (hk:k<=wy.length):∀ (post pre:List Nat),ord=pre++post->∀ {T:List (List GW)},zcc r (plN wx wy) t.st.toNat T ->
  zcc r (plN wx wy) t.st.toNat (post.foldl (stT r wx wy t.arcs i k) T) /\
  Ph hr (plN wx wy) t.st.toNat (co hr t wx wy (i*(wy.length+1)+k+1) []) (post.foldl (stT r wx wy t.arcs i k) T)=Ph hr (plN wx wy) t.st.toNat (co hr t wx wy (i*(wy.length+1)+k) pre) T
 | [],pre,e,T,h=>by
  refine ⟨h,z8p hr _ fun p q hp hq=>?_⟩;have hq2:q∈pre:=by have:=(ho.all q).2 hq;rw [e,yn3] at this; exact this
  unfold co;by_cases h1:p<i*(wy.length+1)+k+1
  ·rw [yj9 (.inl h1),yj9];by_cases h2:p<i*(wy.length+1)+k
   ·exact .inl h2
   ·exact .inr ⟨by omega,hq2⟩
  ·rw [yj8 (by rintro (h|⟨_,h⟩); exact h1 h; cases h),yj8 (by rintro (h|⟨h,_⟩)<;>omega)]
 | q::post,pre,e,T,h=>by obtain ⟨i1,i2⟩:=ydt hr ht ho e hi hk h;obtain ⟨j1,j2⟩:=z83 ho hi hk post (pre++[q]) (by rw [e]; simp) i1;exact ⟨j1,j2.trans i2⟩
include ht in
theorem z8q {ord:List Nat} (ho:tord t ord) {i:Nat} (hi:i<=wx.length) {T:List (List GW)} (h:zcc r (plN wx wy) t.st.toNat T):∀ n,n<=wy.length+1->zcc r (plN wx wy) t.st.toNat (rwT r wx wy t.arcs ord i T n) /\
  Ph hr (plN wx wy) t.st.toNat (co hr t wx wy (i*(wy.length+1)+n) []) (rwT r wx wy t.arcs ord i T n)=Ph hr (plN wx wy) t.st.toNat (co hr t wx wy (i*(wy.length+1)) []) T
 | 0,_=>⟨h,rfl⟩
 | n+1,hn=>by
  obtain ⟨i1,i2⟩:=z8q ho hi h n (by omega);obtain ⟨j1,j2⟩:=z83 hr ht ho hi (show n<=wy.length by omega) ord [] rfl i1;have e:rwT r wx wy t.arcs ord i T (n+1)=ord.foldl (stT r wx wy t.arcs i n) (rwT r wx wy t.arcs ord i T n):=by unfold rwT; rw [yme,yl5]; rfl
  rw [e];exact ⟨j1,j2.trans i2⟩
include ht in
theorem z89 {ord:List Nat} (ho:tord t ord) {T:List (List GW)} (h:zcc r (plN wx wy) t.st.toNat T):∀ n,n<=wx.length+1->zcc r (plN wx wy) t.st.toNat (flT r wx wy t.arcs ord T n) /\
  Ph hr (plN wx wy) t.st.toNat (co hr t wx wy (n*(wy.length+1)) []) (flT r wx wy t.arcs ord T n)=Ph hr (plN wx wy) t.st.toNat (co hr t wx wy 0 []) T
 | 0,_=>⟨h,by rw [ynd]; rfl⟩
 | n+1,hn=>by
  obtain ⟨i1,i2⟩:=z89 ho h n (by omega);obtain ⟨j1,j2⟩:=z8q hr ht ho (show n<=wx.length by omega) i1 (wy.length+1) (yk6 _);have e:flT r wx wy t.arcs ord T (n+1)=rwT r wx wy t.arcs ord n (flT r wx wy t.arcs ord T n) (wy.length+1):=by unfold flT; rw [yme,yl5]; rfl
  rw [e,yks];exact ⟨j1,j2.trans i2⟩
def T0 (r:GRing) (ini:List GW) (K N:Nat):List (List GW):=(List.replicate K (List.replicate N r.zero)).set 0 ini
include ht in
theorem ygf (hi:ckL r t.st.toNat t.ini) (hz:0<plN wx wy):zcc r (plN wx wy) t.st.toNat (T0 r t.ini (plN wx wy) t.st.toNat):=by
 refine ⟨by unfold T0; simp,fun l hl=>?_⟩;rcases ym6 hl with h|h
 ·rw [yoc h];exact ⟨fun w hw=>by rw [yoc hw]; exact zbq ht.rok,by simp⟩
 ·rw [h]; exact hi
include ht hr in
theorem ybl {ord:List Nat} (ho:tord t ord) (hi:ckL r t.st.toNat t.ini):zcc r (plN wx wy) t.st.toNat (flT r wx wy t.arcs ord (T0 r t.ini (plN wx wy) t.st.toNat) (wx.length+1)) /\
  sumW r ((flT r wx wy t.arcs ord (T0 r t.ini (plN wx wy) t.st.toNat) (wx.length+1)).getD (wx.length*(wy.length+1)+wy.length) []) t.fin=wgt t wx wy:=by
 have hz:0<plN wx wy:=by have:=zur (ylk wx.length) (ylk wy.length); omega
 have h0:=ygf ht hi hz;obtain ⟨f1,f2⟩:=z89 hr ht ho h0 (wx.length+1) (yk6 _);refine ⟨f1,?_⟩;have hlast:=zur (yk6 wx.length) (yk6 wy.length);have hrow:=f1.get hlast;generalize flT r wx wy t.arcs ord (T0 r t.ini (plN wx wy) t.st.toNat) (wx.length+1)=T at *
 have hend:Ph hr (plN wx wy) t.st.toNat (co hr t wx wy ((wx.length+1)*(wy.length+1)) []) T=(srG r hr).dot t.st.toNat (gd hr (T.getD (wx.length*(wy.length+1)+wy.length) [])) (gd hr t.fin):=by
  unfold Ph;rw [(srG r hr).sum_congr (g:=fun p=>if p=wx.length*(wy.length+1)+wy.length then (srG r hr).dot t.st.toNat (gd hr (T.getD p [])) (gd hr t.fin) else (srG r hr).z) fun p hp=>?_]
  ·exact (srG r hr).sum_delta hlast fun p=>(srG r hr).dot t.st.toNat (gd hr (T.getD p [])) (gd hr t.fin)
  ·have hp:=yky.1 hp;have hco:∀ q,co hr t wx wy ((wx.length+1)*(wy.length+1)) [] p q=coF hr t wx wy p q:=fun q=>by unfold co; rw [yj9 (.inl hp)]
   have hpe:p+1=plN wx wy ↔ p=wx.length*(wy.length+1)+wy.length:=by unfold plN; rw [yks]; omega
   by_cases h:p=wx.length*(wy.length+1)+wy.length
   ·rw [yj9 h];refine (srG r hr).sum_congr fun q _=>?_;rw [hco]; unfold coF; rw [yj9 (hpe.2 h)]
   ·rw [yj8 h,(srG r hr).sum_congr (g:=fun _=>(srG r hr).z) fun q _=>?_,SR.sum_zero];rw [hco]; unfold coF; rw [yj8 fun h'=>h (hpe.1 h'),(srG r hr).mz]
 have hbeg:Ph hr (plN wx wy) t.st.toNat (co hr t wx wy 0 []) (T0 r t.ini (plN wx wy) t.st.toNat)=(srG r hr).dot t.st.toNat (gd hr t.ini) (gd hr (tabW t wx wy 0 0)):=by
  unfold Ph;rw [(srG r hr).sum_congr (g:=fun p=>if p=0 then (srG r hr).dot t.st.toNat (gd hr t.ini) (gd hr (tabW t wx wy 0 0)) else (srG r hr).z) fun p hp=>?_]
  ·exact (srG r hr).sum_delta hz fun _=>(srG r hr).dot t.st.toNat (gd hr t.ini) (gd hr (tabW t wx wy 0 0))
  ·have hp:=yky.1 hp;by_cases h:p=0
   ·subst h;rw [if_pos rfl];refine (srG r hr).sum_congr fun q _=>?_;have e1:(T0 r t.ini (plN wx wy) t.st.toNat).getD 0 []=t.ini:=by unfold T0;rw [List.getD_eq_getElem?_getD,List.getElem?_set_self (by simpa using hz)]; rfl
    have e2:co hr t wx wy 0 [] 0 q=gd hr (tabW t wx wy 0 0) q:=by have:=z4d hr (t:=t) (wx:=wx) (wy:=wy) (i:=0) (k:=0) (ylk _) q;rw [ynd,ylb] at this;unfold co;rw [yj8 (by simp),this]
    rw [e1,e2]
   ·rw [yj8 h,(srG r hr).sum_congr (g:=fun _=>(srG r hr).z) fun q _=>?_,SR.sum_zero];have e1:(T0 r t.ini (plN wx wy) t.st.toNat).getD p []=List.replicate t.st.toNat r.zero:=by unfold T0;rw [yk9,yn9 (ykt h),ypg,yj9 hp]; rfl
    rw [e1,zxs,SR.zm]
 rw [hend,hbeg] at f2;have s1:=zvq hr hrow ht.fin t.st.toNat (yk6 _);have s2:=zvq hr hi (z0o ht (wx:=wx) (wy:=wy) (ylk _) (ylk _)) t.st.toNat (yk6 _);rw [zi1 (by rw [hrow.2]; omega)] at s1;rw [zi1 (by rw [hi.2]; omega)] at s2;refine yf4 hr s1.1 (by unfold wgt; rw [ht.ring]; exact s2.1) ?_;rw [s1.2];have:cw hr (wgt t wx wy)=(srG r hr).dot t.st.toNat (gd hr t.ini) (gd hr (tabW t wx wy 0 0)):=by unfold wgt; rw [ht.ring]; exact s2.2
 rw [this];exact f2
end
section
variable {r:GRing} (M:Meas r) (hr:r.ok=true)
def vbT (b:Nat) (T:List (List GW)):Prop:=∀ l∈T,vb M b l
variable {M}
theorem vbT.mono {m n:Nat} {T:List (List GW)} (h:vbT M m T) (k:m<=n):vbT M n T:=fun l hl=>zdj (h l hl) k
theorem vbT.get {b:Nat} {T:List (List GW)} (h:vbT M b T) (p:Nat):vb M b (T.getD p []):=by
 rw [yk9];by_cases hp:p<T.length
 ·rw [ykg hp]; exact h _ (yk2 _)
 ·rw [yli (by omega)]; intro w hw; cases hw
include hr in
theorem yh0 {b:Nat} {l:List GW} (h:vb M b l) (q:Nat):(l.getD q r.zero).chk r/\M.mb b (l.getD q r.zero):=by
 by_cases hq:q<l.length
 ·exact zt4 h hq
 ·rw [yk9,yli (by omega)]; exact ⟨zbq hr,M.mono M.zero (ylk _)⟩
include hr in
theorem vbT.at {b:Nat} {T:List (List GW)} (h:vbT M b T) (p q:Nat):((T.getD p []).getD q r.zero).chk r/\M.mb b ((T.getD p []).getD q r.zero):=yh0 hr (h.get p) q
include hr in
theorem ygd {b p q:Nat} {T:List (List GW)} {w:GW} (h:vbT M b T) (hw:w.chk r/\M.mb b w):vbT M (b+1) (adT r T p q w):=by
 intro l hl;rcases ym6 hl with h1|h1
 ·exact zdj (h l h1) (by omega)
 ·rw [h1];intro v hv;have g:=h.at hr p q;rcases ym6 hv with h2|h2
  ·exact ⟨(h.get p v h2).1,M.mono (h.get p v h2).2 (by omega)⟩
  ·rw [h2]; exact ⟨zch g.1 hw.1,M.plus g.1 hw.1 g.2 hw.2⟩
variable {c:Nat} {wx wy:List Int} {A:List GTArc}
include hr in
theorem ygb {B b i k q:Nat} {T:List (List GW)} {w:GW} {x:GTArc} (h:vbT M b T) (hw:w.chk r/\M.mb B w) (hx:x.w.chk r/\M.mb c x.w) (hb:B+c+1<=b):vbT M (b+1) (arT r wx wy i k q w T x):=by
 unfold arT;split
 ·exact ygd hr h ⟨za7 hw.1 hx.1,M.mono (M.times hw.1 hx.1 hw.2 hx.2) hb⟩
 ·exact h.mono (by omega)
include hr in
theorem z4v {B i k q:Nat} {w:GW} (hw:w.chk r/\M.mb B w):∀ {l:List GTArc} {b:Nat} {T:List (List GW)},(∀ x∈l,x.w.chk r/\M.mb c x.w)->B+c+1<=b->vbT M b T->vbT M (b+l.length) (l.foldl (arT r wx wy i k q w) T)
 | [],b,T,_,_,h=>h
 | x::l,b,T,hx,hb,h=>by have:=z4v (i:=i) (k:=k) (q:=q) (T:=arT r wx wy i k q w T x) hw (l:=l) (b:=b+1) (fun y hy=>hx y (by simp [hy])) (by omega) (ygb hr h hw (hx x (by simp)) hb);exact this.mono (by simp; omega)
def sLv (c:Nat) (A:List GTArc):Nat:=c+1+A.length
include hr in
theorem ydu {B i k q:Nat} {T:List (List GW)} (hA:∀ x∈A,x.w.chk r/\M.mb c x.w) (h:vbT M B T):vbT M (B+sLv c A) (stT r wx wy A i k T q):=by
 unfold stT sLv;split
 ·exact h.mono (by omega)
 ·exact (z4v (wx:=wx) (wy:=wy) (i:=i) (k:=k) (q:=q) hr (h.at hr (i*(wy.length+1)+k) q) hA (yk6 _) (h.mono (by omega))).mono (by omega)
end
end Go.Ab
namespace Go.Ab
open Enc (enc)
attribute [local go_sem] zal Opd.slots
theorem ye7:g.n5=.seq (.reg [⟨some 28,.ibin .lss (.t 27) (.t 26),none⟩] []) flC6:=rfl
theorem ye6:g.n7=.seq (.reg [⟨some 17,.ibin .lss (.t 16) (.t 15),none⟩] []) flD6:=rfl
theorem ye5:g.jp=.seq (.reg [⟨some 11,.mv (.t 0),none⟩,⟨some 12,.nilck (.t 11),none⟩,⟨some 13,.faddr 10 (.t 12),none⟩,⟨some 14,.load 1 false (.t 13),none⟩,⟨some 15,.len (.t 14),none⟩,⟨some 16,.mv (.c (.p (.int .i64 0))),none⟩] [[],[11],[12],[13],[14]]) flE1:=rfl
structure fillOk (t:GTrans) (M:Meas t.ring) (c:Nat):Prop where
 hr:t.ring.ok=true
 ck:ckT t.ring t
 mp:MeasP M
 hA:∀ x∈t.arcs,x.w.chk t.ring/\M.mb c x.w
 lab:∀ x∈t.arcs,(0<=x.i/\x.i<=64)/\0<=x.o/\x.o<=64
 al:t.arcs.length<=1000
 lim:M.lim<=1000000
section
variable {t:GTrans} {M:Meas t.ring} {c:Nat} (fo:fillOk t M c) {wx wy:List Int}
include fo
theorem z3l {i k q B:Nat} {T:List (List GW)} {w:GW} (hi:i<=wx.length) (hk:k<=wy.length) (h:zcc t.ring (plN wx wy) t.st.toNat T) (hv:vbT M B T) (hw:w.chk t.ring/\M.mb B w) (x:Nat) (hx:x<=t.arcs.length) :
  zcc t.ring (plN wx wy) t.st.toNat ((t.arcs.take x).foldl (arT t.ring wx wy i k q w) T)/\vbT M (B+c+1+x) ((t.arcs.take x).foldl (arT t.ring wx wy i k q w) T):=by
 refine ⟨(zvx fo.hr fo.ck hi hk (q:=q) hw.1 (fun _ _=>(srG t.ring fo.hr).z) (fun y hy=>ykl hy) h).1,?_⟩;have:=z4v (wx:=wx) (wy:=wy) (i:=i) (k:=k) (q:=q) fo.hr hw (l:=t.arcs.take x) (b:=B+c+1) (T:=T) (fun y hy=>fo.hA y (ykl hy)) (yk6 _) (hv.mono (by omega))
 rwa [ylc,ylw hx] at this
theorem ybm {i k q B:Nat} {T:List (List GW)} {w:GW} (hi:i<=wx.length) (hk:k<=wy.length) (h:zcc t.ring (plN wx wy) t.st.toNat T) (hv:vbT M B T) (hw:w.chk t.ring/\M.mb B w) (hl:B+sLv c t.arcs<=M.lim) (x:Nat) (hx:x<t.arcs.length) :
  plOk t wx wy (wx.length+1) (wy.length+1) t.st.toNat i k q w ((t.arcs.take x).foldl (arT t.ring wx wy i k q w) T) t.arcs[x]:=by
 obtain ⟨k1,k2⟩:=z3l fo hi hk h hv hw (q:=q) x (by omega);generalize (t.arcs.take x).foldl (arT t.ring wx wy i k q w) T=Tx at *
 have hm:=yk2 hx;have hax:=fo.hA _ hm;unfold sLv at hl;refine ⟨k1.1,fun l hl=>(k1.2 l hl).2,(fo.ck.arcs _ hm).2,(fo.lab _ hm).1,(fo.lab _ hm).2,fun _ hf=>?_,?_,fun p=>?_⟩
 ·have:=zxy hf hi hk;omega
 ·exact fo.mp.timesP (n:=B+c) (by omega) hw.1 hax.1 (M.mono hw.2 (by omega)) (M.mono hax.2 (by omega))
 ·have g:=k2.at fo.hr p t.arcs[x].t.toNat;exact fo.mp.plusP (n:=B+c+1+x) (by omega) g.1 (za7 hw.1 hax.1) g.2 (M.mono (M.times hw.1 hax.1 hw.2 hax.2) (by omega))
theorem ydv {i k q B:Nat} {T:List (List GW)} (hi:i<=wx.length) (hk:k<=wy.length) (h:zcc t.ring (plN wx wy) t.st.toNat T) (hv:vbT M B T) :
  zcc t.ring (plN wx wy) t.st.toNat (stT t.ring wx wy t.arcs i k T q)/\vbT M (B+sLv c t.arcs) (stT t.ring wx wy t.arcs i k T q):=by
 refine ⟨?_,ydu fo.hr fo.hA hv⟩;unfold stT;split
 ·exact h
 ·have:=(z3l fo hi hk h hv (q:=q) (hv.at fo.hr (i*(wy.length+1)+k) q) t.arcs.length (yk6 _)).1
  rwa [ykn] at this
theorem z13 {i k:Nat} (hi:i<=wx.length) (hk:k<=wy.length):∀ {ord:List Nat} {B:Nat} {T:List (List GW)},zcc t.ring (plN wx wy) t.st.toNat T->vbT M B T ->
  zcc t.ring (plN wx wy) t.st.toNat (plT t.ring wx wy t.arcs ord i k T)/\vbT M (B+ord.length*sLv c t.arcs) (plT t.ring wx wy t.arcs ord i k T)
 | [],B,T,h,hv=>⟨h,hv.mono (by omega)⟩
 | q::ord,B,T,h,hv=>by have s1:=ydv fo hi hk (q:=q) h hv;have s2:=z13 hi hk (ord:=ord) s1.1 s1.2;refine ⟨s2.1,s2.2.mono ?_⟩;rw [ylr,yks]; omega
theorem z06 {ord:List Nat} {i B:Nat} {T:List (List GW)} (hi:i<=wx.length) (h:zcc t.ring (plN wx wy) t.st.toNat T) (hv:vbT M B T):∀ n,n<=wy.length+1 ->
  zcc t.ring (plN wx wy) t.st.toNat (rwT t.ring wx wy t.arcs ord i T n)/\vbT M (B+n*(ord.length*sLv c t.arcs)) (rwT t.ring wx wy t.arcs ord i T n)
 | 0,_=>⟨h,hv.mono (by omega)⟩
 | n+1,hn=>by
  have e:rwT t.ring wx wy t.arcs ord i T (n+1)=plT t.ring wx wy t.arcs ord i n (rwT t.ring wx wy t.arcs ord i T n):=by unfold rwT; rw [yme,yl5]; rfl
  have s1:=z06 (ord:=ord) hi h hv n (by omega);have s2:=z13 fo hi (show n<=wy.length by omega) (ord:=ord) s1.1 s1.2;rw [e];exact ⟨s2.1,s2.2.mono (by rw [yks]; omega)⟩
theorem z3o {ord:List Nat} {B:Nat} {T:List (List GW)} (h:zcc t.ring (plN wx wy) t.st.toNat T) (hv:vbT M B T):∀ n,n<=wx.length+1 ->
  zcc t.ring (plN wx wy) t.st.toNat (flT t.ring wx wy t.arcs ord T n)/\vbT M (B+n*((wy.length+1)*(ord.length*sLv c t.arcs))) (flT t.ring wx wy t.arcs ord T n)
 | 0,_=>⟨h,hv.mono (by omega)⟩
 | n+1,hn=>by
  have e:flT t.ring wx wy t.arcs ord T (n+1)=rwT t.ring wx wy t.arcs ord n (flT t.ring wx wy t.arcs ord T n) (wy.length+1):=by unfold flT; rw [yme,yl5]; rfl
  have s1:=z3o (ord:=ord) h hv n (by omega);have s2:=z06 fo (show n<=wx.length by omega) (ord:=ord) s1.1 s1.2 (wy.length+1) (yk6 _);rw [e];exact ⟨s2.1,s2.2.mono (by generalize (wy.length+1)*(ord.length*sLv c t.arcs)=Y; rw [yks]; omega)⟩
end
theorem f1_3 (t:GTrans) (wx wy:List Int) (I J N:Nat) (T:List (List GW)) (ord:List Nat) (i k idx q:Nat) (w:GW) (x:Nat):Weak (f1S t wx wy I J N T (toI ord) i k idx q w x) (f3S t wx wy I J N T ord i k idx):=by refine Weak.toF [0,1,4,5,15,16,26,27,30,31,32] [900000,900001,900002,900003] [] ?_;simp [go_sem,f1S,f3S,hpT,tabV,zdk];exact zas I J N T
theorem f6_3 (t:GTrans) (wx wy:List Int) (I J N:Nat) (T:List (List GW)) (ord:List Nat) (i k idx q:Nat) (w:GW):Weak (f6S t wx wy I J N T ord i k idx q w) (f3S t wx wy I J N T ord i k idx):=by refine Weak.toF [0,1,4,5,15,16,26,27,30,31,32] [900000,900001,900002,900003] [] ?_;simp [go_sem,f6S,f3S,hpT,tabV,zdk];exact zas I J N T
section
variable {t:GTrans} {M:Meas t.ring} {c:Nat} (fo:fillOk t M c) {wx wy:List Int} {I J N:Nat} (hI:I=wx.length+1) (hJ:J=wy.length+1) (hN:N=t.st.toNat) (lI:I<=1000) (lJ:J<=1000)
include fo hI hJ hN lI lJ
theorem ybr {i k idx q B:Nat} {T:List (List GW)} {ord:List Nat} (hi:i<I) (hk:k<J) (hx:idx<ord.length) (hq:ord[idx]=q) (hqN:q<N) (h:zcc t.ring (plN wx wy) t.st.toNat T) (hv:vbT M B T) (hl:B+sLv c t.arcs<=M.lim) (A:FA) (R:Exit->St->Option FA->Prop)
  (hn:∀ ex,ex=.normal\/ex=.exit 5->∀ s,Weak s (f3S t wx wy I J N (stT t.ring wx wy t.arcs i k T q) ord i k idx)->R ex s (some A)) :
  MR P 104 flB6.er (f3S t wx wy I J N T ord i k idx) (some A) R:=by
 have hlen:T.length=I*J:=by rw [h.1,hI,hJ]
 have hrow:∀ l∈T,l.length=N:=fun l hl=>by rw [(h.2 l hl).2,hN]
 have hwv:=hv.at fo.hr (i*J+k) q;have hst:stT t.ring wx wy t.arcs i k T q=if (T.getD (i*J+k) []).getD q t.ring.zero=t.ring.zero then T else t.arcs.foldl (arT t.ring wx wy i k q ((T.getD (i*J+k) []).getD q t.ring.zero)) T:=by unfold stT; rw [hJ]
 rw [hst] at hn;refine f3_a t wx wy I J N T ord i k idx A R hx fun s hw=>MR.weak hw ?_;rw [hq];refine f3_b t wx wy I J N T ord i k idx A R hi hk hlen hrow hqN fun s hw=>MR.weak hw ?_;generalize (T.getD (i*J+k) []).getD q t.ring.zero=w at *
 refine f3_c t wx wy I J N T ord i k idx A R ((fo.mp.smP (by unfold sLv at hl; omega) hwv.1 hwv.2).mono (by omega)) (fun hz s hw=>?_) (fun hz s hw=>MR.weak hw ?_)
 ·rw [yj9 hz] at hn;exact hn _ (.inr rfl) s (hw.trans (f6_3 _ _ _ _ _ _ _ _ _ _ _ _ _))
 ·rw [yj8 hz] at hn;refine f3_d t wx wy I J N T ord i k idx A R hJ lI lJ fo.al (fun x hx=>?_) fun s hw=>hn _ (.inl rfl) s (hw.trans (f1_3 _ _ _ _ _ _ _ _ _ _ _ _ _ _));subst hI hJ hN;exact ybm fo (by omega) (by omega) h hv hwv hl x hx
theorem ybs {i k B:Nat} {T:List (List GW)} {ord:List Nat} (hi:i<I) (hk:k<J) (ho:∀ q∈ord,q<N) (ol:ord.length<=1000) (h:zcc t.ring (plN wx wy) t.st.toNat T) (hv:vbT M B T) (hl:B+ord.length*sLv c t.arcs<=M.lim) (A:FA) {s:St} (hw:Weak s (f3S t wx wy I J N T ord i k 0)) :
  MR P 104 (GC.loop g.ny).er s (some A) fun ex s B=>ex=.exit 4/\B=some A/\Weak s (f3S t wx wy I J N (plT t.ring wx wy t.arcs ord i k T) ord i k ord.length):=by
 refine MR.gloop (I:=fun n s B=>∃ x,x<=ord.length/\n=ord.length - x/\Weak s (f3S t wx wy I J N (plT t.ring wx wy t.arcs (ord.take x) i k T) ord i k x)/\B=some A) ord.length ⟨0,by omega,by omega,hw,rfl⟩ ?_;rintro n0 s B ⟨x,hx,rfl,hw,rfl⟩;refine MR.weak hw ?_;generalize hR:(fun (ex:Exit) (s:St) (B:Option FA)=>(ex=.normal->∃ m,m<ord.length - x/\∃ x,x<=ord.length/\m=ord.length - x/\Weak s (f3S t wx wy I J N (plT t.ring wx wy t.arcs (ord.take x) i k T) ord i k x)/\B=some A)/\(ex ≠ .normal->ex=.exit 4/\B=some A/\Weak s (f3S t wx wy I J N (plT t.ring wx wy t.arcs ord i k T) ord i k ord.length)))=R;have hst:∀ h:x<ord.length,plT t.ring wx wy t.arcs (ord.take (x+1)) i k T=stT t.ring wx wy t.arcs i k (plT t.ring wx wy t.arcs (ord.take x) i k T) ord[x]:=fun h=>by unfold plT; rw [ykb h,yl5]; rfl
 have r1:∀ h:x<ord.length,∀ s,Weak s (f3S t wx wy I J N (stT t.ring wx wy t.arcs i k (plT t.ring wx wy t.arcs (ord.take x) i k T) ord[x]) ord i k (x+1))->R .normal s (some A):=fun h s hw=>by subst hR;rw [<- hst h] at hw;exact ⟨fun _=>⟨ord.length - (x+1),by omega,x+1,by omega,rfl,hw,rfl⟩,fun h=>absurd rfl h⟩
 have r2:x=ord.length->∀ s,Weak s (f3S t wx wy I J N (plT t.ring wx wy t.arcs (ord.take x) i k T) ord i k x)->R (.exit 4) s (some A):=fun h s hw=>by subst hR;refine ⟨fun h=>(by cases h),fun _=>⟨rfl,rfl,?_⟩⟩;rw [h,ykn] at hw; exact hw
 clear hR hw hst;obtain ⟨k1,k2⟩:=z13 fo (i:=i) (k:=k) (by omega) (by omega) (ord:=ord.take x) h hv;rw [ylc,ylw hx] at k2;generalize plT t.ring wx wy t.arcs (ord.take x) i k T=Tx at *
 rw [ye8];unfold flB9 flB8;by_cases hlt:x<ord.length
 ·have r3:=r1 hlt;clear r1 r2;have e1:=i64s x (by omega);have hlx:B+x*sLv c t.arcs+sLv c t.arcs<=M.lim:=by have:=ykd (sLv c t.arcs) (yns hlt);rw [yks] at this; omega
  have hA:MR P 104 flB6.er (f3S t wx wy I J N Tx ord i k x) (some A) fun ex s B=>(exB 5 ex=.normal->MR P 104 flB7.er s B R)/\(exB 5 ex ≠ .normal->R (exB 5 ex) s B):=by
   refine ybr fo hI hJ hN lI lJ hi hk hlt rfl (ho _ (yk2 hlt)) k1 k2 hlx A _ fun ex hex s hw=>?_;have he:exB 5 ex=.normal:=by rcases hex with rfl|rfl<;>rfl
   refine ⟨fun _=>MR.weak hw (MR.of_vm ?_),fun h=>absurd he h⟩;simp [flB7,f3S,go_sem,hpT,tabV,e1];refine r3 _ (Weak.toF [0,1,4,5,15,16,26,27,30,31,32] [900000,900001,900002,900003] [] ?_);simp [go_sem,f3S,hpT,tabV];exact zas I J N _
  refine MR.gseq ?_;generalize flB6=FA0 at *
  simp [f3S,go_sem,hlt];refine MR.gseq' (MR.gcond (t:=true) (by simp [go_sem,hlt]) (fun _=>MR.gnop ⟨fun _=>?_,fun h=>absurd rfl h⟩) (fun h=>(by cases h)));refine MR.gseq' (MR.gblk ?_);refine MR.weak ?_ hA;refine Weak.toF [0,1,4,5,15,16,26,27,30,31,32] [900000,900001,900002,900003] [] ?_;simp [go_sem,f3S,hpT,tabV];exact zas I J N Tx
 ·have hx':x=ord.length:=by omega
  have r3:=r2 hx';clear r1 r2;refine MR.gseq ?_;generalize flB6=FA0 at *
  generalize flB7=FZ0 at *
  simp [f3S,go_sem,hlt];refine MR.gseq' (MR.gcond (t:=false) (by simp [go_sem,hlt]) (fun h=>(by cases h)) (fun _=>MR.gext ⟨fun h=>(by cases h),fun _=>r3 _ ?_⟩));refine Weak.toF [0,1,4,5,15,16,26,27,30,31,32] [900000,900001,900002,900003] [] ?_;simp [go_sem,f3S,hpT,tabV];exact zas I J N Tx
end
def f7S (t:GTrans) (wx wy:List Int) (I J N:Nat) (T:List (List GW)) (ord:List Nat) (i k:Nat):St :=
 ⟨[(0,.ptr 900000 0 0 0),(1,.p (.sl (ens (toI ord)))),(4,.p (.int .i64 i)),(15,.p (.int .i64 I)),(16,.p (.int .i64 i)),(26,.p (.int .i64 J)),(27,.p (.int .i64 k))],hpT t wx wy I J N T++[(DEAD,[none])]⟩
def f8S (t:GTrans) (wx wy:List Int) (I J N:Nat) (T:List (List GW)) (ord:List Nat) (i:Nat):St :=
 ⟨[(0,.ptr 900000 0 0 0),(1,.p (.sl (ens (toI ord)))),(15,.p (.int .i64 I)),(16,.p (.int .i64 i))],hpT t wx wy I J N T++[(DEAD,[none])]⟩
theorem f3_7 (t:GTrans) (wx wy:List Int) (I J N:Nat) (T:List (List GW)) (ord:List Nat) (i k idx:Nat):Weak (f3S t wx wy I J N T ord i k idx) (f7S t wx wy I J N T ord i k):=by refine Weak.toF [0,1,4,15,16,26,27] [900000,900001,900002,900003] [] ?_;simp [go_sem,f3S,f7S,hpT,tabV,zdk];exact zas I J N T
theorem f7_8 (t:GTrans) (wx wy:List Int) (I J N:Nat) (T:List (List GW)) (ord:List Nat) (i k:Nat):Weak (f7S t wx wy I J N T ord i k) (f8S t wx wy I J N T ord i):=by refine Weak.toF [0,1,15,16] [900000,900001,900002,900003] [] ?_;simp [go_sem,f7S,f8S,hpT,tabV,zdk];exact zas I J N T
section
variable {t:GTrans} {M:Meas t.ring} {c:Nat} (fo:fillOk t M c) {wx wy:List Int} {I J N:Nat} (hI:I=wx.length+1) (hJ:J=wy.length+1) (hN:N=t.st.toNat) (lI:I<=1000) (lJ:J<=1000)
include fo hI hJ hN lI lJ
theorem ybq {i B:Nat} {T:List (List GW)} {ord:List Nat} (hi:i<I) (ho:∀ q∈ord,q<N) (ol:ord.length<=1000) (h:zcc t.ring (plN wx wy) t.st.toNat T) (hv:vbT M B T) (hl:B+J*(ord.length*sLv c t.arcs)<=M.lim) (A:FA) {s:St} (hw:Weak s (f7S t wx wy I J N T ord i 0)) :
  MR P 104 (GC.loop g.n5).er s (some A) fun ex s B=>ex=.exit 2/\B=some A/\Weak s (f7S t wx wy I J N (rwT t.ring wx wy t.arcs ord i T J) ord i J):=by
 refine MR.gloop (I:=fun n s B=>∃ x,x<=J/\n=J - x/\Weak s (f7S t wx wy I J N (rwT t.ring wx wy t.arcs ord i T x) ord i x)/\B=some A) J ⟨0,by omega,by omega,hw,rfl⟩ ?_;rintro n0 s B ⟨x,hx,rfl,hw,rfl⟩;refine MR.weak hw ?_;generalize hR:(fun (ex:Exit) (s:St) (B:Option FA)=>(ex=.normal->∃ m,m<J - x/\∃ x,x<=J/\m=J - x/\Weak s (f7S t wx wy I J N (rwT t.ring wx wy t.arcs ord i T x) ord i x)/\B=some A)/\(ex ≠ .normal->ex=.exit 2/\B=some A/\Weak s (f7S t wx wy I J N (rwT t.ring wx wy t.arcs ord i T J) ord i J)))=R;have hst:rwT t.ring wx wy t.arcs ord i T (x+1)=plT t.ring wx wy t.arcs ord i x (rwT t.ring wx wy t.arcs ord i T x):=by unfold rwT; rw [yme,yl5]; rfl
 have r1:x<J->∀ s,Weak s (f7S t wx wy I J N (plT t.ring wx wy t.arcs ord i x (rwT t.ring wx wy t.arcs ord i T x)) ord i (x+1))->R .normal s (some A):=fun h s hw=>by subst hR;rw [<- hst] at hw;exact ⟨fun _=>⟨J - (x+1),by omega,x+1,by omega,rfl,hw,rfl⟩,fun h=>absurd rfl h⟩
 have r2:x=J->∀ s,Weak s (f7S t wx wy I J N (rwT t.ring wx wy t.arcs ord i T x) ord i x)->R (.exit 2) s (some A):=fun h s hw=>by subst hR;refine ⟨fun h=>(by cases h),fun _=>⟨rfl,rfl,?_⟩⟩;rw [h] at hw; exact hw
 clear hR hw hst;obtain ⟨k1,k2⟩:=z06 fo (i:=i) (ord:=ord) (by omega) h hv x (by omega);generalize rwT t.ring wx wy t.arcs ord i T x=Tx at *
 rw [ye7];unfold flC6 flC5;by_cases hlt:x<J
 ·have r3:=r1 hlt;clear r1 r2;have e1:=i64s x (by omega);have hlx:B+x*(ord.length*sLv c t.arcs)+ord.length*sLv c t.arcs<=M.lim:=by have:=ykd (ord.length*sLv c t.arcs) (yns hlt);rw [yks] at this; omega
  have hloop:=fun (s:St) hw=>ybs fo hI hJ hN lI lJ hi hlt ho ol k1 k2 hlx A (s:=s) hw;have hZ:∀ s,Weak s (f3S t wx wy I J N (plT t.ring wx wy t.arcs ord i x Tx) ord i x ord.length)->MR P 104 flC4.er s (some A) R:=fun s hw=>by refine MR.weak (hw.trans (f3_7 _ _ _ _ _ _ _ _ _ _ _)) (MR.of_vm ?_);simp [flC4,f7S,go_sem,hpT,tabV,e1];refine r3 _ (Weak.toF [0,1,4,15,16,26,27] [900000,900001,900002,900003] [] ?_);simp [go_sem,f7S,hpT,tabV];exact zas I J N _
  have hA:MR P 104 flC3.er (f7S t wx wy I J N Tx ord i x) (some A) fun ex s B=>(exB 3 ex=.normal->MR P 104 flC4.er s B R)/\(exB 3 ex ≠ .normal->R (exB 3 ex) s B):=by
   unfold flC3 flC2 flC1;generalize (GC.loop g.ny)=L at *
   refine MR.gseq ?_;generalize flC4=FC4 at *
   simp [f7S,go_sem,hpT,tabV];refine MR.gseq ?_;simp [go_sem,zdk];refine MR.gblk ((hloop _ (Weak.toF [0,1,4,5,15,16,26,27,30,31,32] [900000,900001,900002,900003] [] ?_)).mono ?_)
   ·simp [go_sem,f3S,hpT,tabV,zdk];exact zas I J N Tx
   ·rintro ex s B ⟨rfl,rfl,hw⟩;exact ⟨fun _=>hZ s hw,fun h=>absurd rfl h⟩
  refine MR.gseq ?_;generalize flC3=FA0 at *
  simp [f7S,go_sem,hlt];refine MR.gseq' (MR.gcond (t:=true) (by simp [go_sem,hlt]) (fun _=>MR.gnop ⟨fun _=>?_,fun h=>absurd rfl h⟩) (fun h=>(by cases h)));refine MR.gseq' (MR.gblk ?_);refine MR.weak ?_ hA;refine Weak.toF [0,1,4,15,16,26,27] [900000,900001,900002,900003] [] ?_;simp [go_sem,f7S,hpT,tabV];exact zas I J N Tx
 ·have hx':x=J:=by omega
  have r3:=r2 hx';clear r1 r2;refine MR.gseq ?_;generalize flC3=FA0 at *
  generalize flC4=FZ0 at *
  simp [f7S,go_sem,hlt];refine MR.gseq' (MR.gcond (t:=false) (by simp [go_sem,hlt]) (fun h=>(by cases h)) (fun _=>MR.gext ⟨fun h=>(by cases h),fun _=>r3 _ ?_⟩));refine Weak.toF [0,1,4,15,16,26,27] [900000,900001,900002,900003] [] ?_;simp [go_sem,f7S,hpT,tabV];exact zas I J N Tx
theorem ybp {B:Nat} {T:List (List GW)} {ord:List Nat} (ho:∀ q∈ord,q<N) (ol:ord.length<=1000) (h:zcc t.ring (plN wx wy) t.st.toNat T) (hv:vbT M B T) (hl:B+I*(J*(ord.length*sLv c t.arcs))<=M.lim) (A:FA) {s:St} (hw:Weak s (f8S t wx wy I J N T ord 0)) :
  MR P 104 (GC.loop g.n7).er s (some A) fun ex s B=>ex=.exit 0/\B=some A/\Weak s (f8S t wx wy I J N (flT t.ring wx wy t.arcs ord T I) ord I):=by
 refine MR.gloop (I:=fun n s B=>∃ x,x<=I/\n=I - x/\Weak s (f8S t wx wy I J N (flT t.ring wx wy t.arcs ord T x) ord x)/\B=some A) I ⟨0,by omega,by omega,hw,rfl⟩ ?_;rintro n0 s B ⟨x,hx,rfl,hw,rfl⟩;refine MR.weak hw ?_;generalize hR:(fun (ex:Exit) (s:St) (B:Option FA)=>(ex=.normal->∃ m,m<I - x/\∃ x,x<=I/\m=I - x/\Weak s (f8S t wx wy I J N (flT t.ring wx wy t.arcs ord T x) ord x)/\B=some A)/\(ex ≠ .normal->ex=.exit 0/\B=some A/\Weak s (f8S t wx wy I J N (flT t.ring wx wy t.arcs ord T I) ord I)))=R;have hst:flT t.ring wx wy t.arcs ord T (x+1)=rwT t.ring wx wy t.arcs ord x (flT t.ring wx wy t.arcs ord T x) J:=by unfold flT; rw [yme,yl5,hJ]; rfl
 have r1:x<I->∀ s,Weak s (f8S t wx wy I J N (rwT t.ring wx wy t.arcs ord x (flT t.ring wx wy t.arcs ord T x) J) ord (x+1))->R .normal s (some A):=fun h s hw=>by subst hR;rw [<- hst] at hw;exact ⟨fun _=>⟨I - (x+1),by omega,x+1,by omega,rfl,hw,rfl⟩,fun h=>absurd rfl h⟩
 have r2:x=I->∀ s,Weak s (f8S t wx wy I J N (flT t.ring wx wy t.arcs ord T x) ord x)->R (.exit 0) s (some A):=fun h s hw=>by subst hR;refine ⟨fun h=>(by cases h),fun _=>⟨rfl,rfl,?_⟩⟩;rw [h] at hw; exact hw
 clear hR hw hst;obtain ⟨k1,k2⟩:=z3o fo (ord:=ord) h hv x (by omega);rw [<- hJ] at k2;generalize flT t.ring wx wy t.arcs ord T x=Tx at *
 rw [ye6];unfold flD6 flD5;by_cases hlt:x<I
 ·have r3:=r1 hlt;clear r1 r2;have e1:=i64s x (by omega);have hlx:B+x*(J*(ord.length*sLv c t.arcs))+J*(ord.length*sLv c t.arcs)<=M.lim:=by have:=ykd (J*(ord.length*sLv c t.arcs)) (yns hlt);rw [yks] at this; omega
  have hloop:=fun (s:St) hw=>ybq fo hI hJ hN lI lJ hlt ho ol k1 k2 hlx A (s:=s) hw;have hZ:∀ s,Weak s (f7S t wx wy I J N (rwT t.ring wx wy t.arcs ord x Tx J) ord x J)->MR P 104 flD4.er s (some A) R:=fun s hw=>by refine MR.weak (hw.trans (f7_8 _ _ _ _ _ _ _ _ _ _)) (MR.of_vm ?_);simp [flD4,f8S,go_sem,hpT,tabV,e1];refine r3 _ (Weak.toF [0,1,15,16] [900000,900001,900002,900003] [] ?_);simp [go_sem,f8S,hpT,tabV];exact zas I J N _
  have hA:MR P 104 flD3.er (f8S t wx wy I J N Tx ord x) (some A) fun ex s B=>(exB 1 ex=.normal->MR P 104 flD4.er s B R)/\(exB 1 ex ≠ .normal->R (exB 1 ex) s B):=by
   have r1:(List.map (outV J) (List.range I))[x]?=some (outV J x):=by rw [ykv,ylt hlt]; rfl
   have e2:=zjs (N:=N) (J:=J) hlt;unfold flD3 flD2 flD1;generalize (GC.loop g.n5)=L at *
   refine MR.gseq ?_;generalize flD4=FC4 at *
   simp [f8S,go_sem,hpT,tabV];refine MR.gseq ?_;simp [go_sem,zdk];refine ⟨hlt,?_⟩;rw [zbt];refine ⟨_,r1,?_⟩;simp [go_sem,outV,e2,hlt];refine MR.gblk ((hloop _ (Weak.toF [0,1,4,15,16,26,27] [900000,900001,900002,900003] [] ?_)).mono ?_)
   ·simp [go_sem,f7S,hpT,tabV,zdk];exact zas I J N Tx
   ·rintro ex s B ⟨rfl,rfl,hw⟩;exact ⟨fun _=>hZ s hw,fun h=>absurd rfl h⟩
  refine MR.gseq ?_;generalize flD3=FA0 at *
  simp [f8S,go_sem,hlt];refine MR.gseq' (MR.gcond (t:=true) (by simp [go_sem,hlt]) (fun _=>MR.gnop ⟨fun _=>?_,fun h=>absurd rfl h⟩) (fun h=>(by cases h)));refine MR.gseq' (MR.gblk ?_);refine MR.weak ?_ hA;refine Weak.toF [0,1,15,16] [900000,900001,900002,900003] [] ?_;simp [go_sem,f8S,hpT,tabV];exact zas I J N Tx
 ·have hx':x=I:=by omega
  have r3:=r2 hx';clear r1 r2;refine MR.gseq ?_;generalize flD3=FA0 at *
  generalize flD4=FZ0 at *
  simp [f8S,go_sem,hlt];refine MR.gseq' (MR.gcond (t:=false) (by simp [go_sem,hlt]) (fun h=>(by cases h)) (fun _=>MR.gext ⟨fun h=>(by cases h),fun _=>r3 _ ?_⟩));refine Weak.toF [0,1,15,16] [900000,900001,900002,900003] [] ?_;simp [go_sem,f8S,hpT,tabV];exact zas I J N Tx
theorem z7n {B:Nat} {T:List (List GW)} {ord:List Nat} (ho:∀ q∈ord,q<N) (ol:ord.length<=1000) (h:zcc t.ring (plN wx wy) t.st.toNat T) (hv:vbT M B T) (hl:B+I*(J*(ord.length*sLv c t.arcs))<=M.lim) :
  HSp P F.jp [.ptr 900000 0 0 0,.p (.sl (ens (toI ord)))] (hpT t wx wy I J N T) (.tup []) (hpT t wx wy I J N (flT t.ring wx wy t.arcs ord T I)):=by
 refine HSp.of_mr Go.Ab.c.jp (by simp) (by simp [hpT,PINB]) (by simp [hpT]) ?_ fun A hA=>?_
 ·show (true&&hpOk [900000,900001,900002,900003] (hpT t wx wy I J N _))=true;rw [zpg]; rfl
 have hloop:=fun (s:St) hw=>ybp fo hI hJ hN lI lJ ho ol h hv hl A (s:=s) hw;rw [ye5];unfold flE1;generalize (GC.loop g.n7)=L at *
 refine MR.gseq ?_;simp [go_sem,zea,hpT,tabV];refine MR.gblk ((hloop _ (Weak.toF [0,1,15,16] [900000,900001,900002,900003] [] ?_)).mono ?_)
 ·simp [go_sem,f8S,hpT,tabV,zdk];exact zas I J N T
 ·rintro ex s B ⟨rfl,rfl,hw⟩;refine ⟨rfl,.inr rfl,_,hw,[],rfl,rfl,?_⟩;simp [zog,St.site,look,f8S,hpT];rfl
end
def tabU (t:GTrans) (wx wy:List Int) (I:Nat):AV:=.agg [.p (.int .i64 t.ring.kind),.p (.sl (ens t.ring.parts)),.p (.int .i64 t.i),.p (.int .i64 t.o),.p (.int .i64 t.st),.p (.sl (ens t.ini)),.p (.sl (ens t.fin)),.p (.sl (ens t.arcs)),.p (.sl (ens wx)),.p (.sl (ens wy)),.own 800001 0 0 I]
def rowU (N b j:Nat):AV:=.own 800003 (b+j) 0 N
def outU (J i:Nat):AV:=.own 800002 i 0 J
def famU (I J N:Nat):List (Option AObj):=(List.range I).map fun i=>some ⟨1,(List.range J).map (rowU N (i*J))⟩
def zTbl (t:GTrans) (N n:Nat):List (List GW):=List.replicate n (List.replicate N t.ring.zero)
def z8:AV:=.agg [.p (.bool false),.nil,.nil,.p (.int .i64 0),.p (.bool false),.p (.int .u64 0),.nil,.nil]
def u1S (t:GTrans) (wx wy:List Int) (I J N:Nat) (ord:List Nat) (i k:Nat):St :=
 ⟨[(1,.p (.sl (ens wx))),(2,.p (.sl (ens wy))),(3,.ptr 3 0 0 0),(6,.ptr 6 0 0 0),(9,.p (.sl (ens (toI ord)))),(10,.ptr 800000 0 0 0),(11,.own 800004 0 0 k),(55,.p (.int .i64 I)),(56,.p (.int .i64 i)),(60,.p (.int .i64 J)),(61,.p (.int .i64 k))],
  [(3,[some ⟨8,[.p (enc t)]⟩]),(6,[some ⟨8,[z8]⟩]),(800000,[some ⟨11,[tabU t wx wy i]⟩]),(800001,[some ⟨1,(List.range i).map (outU J)⟩]),(800002,famU i J N),(800003,famC (zTbl t N (i*J+k))),(800004,[some ⟨1,(List.range k).map (rowU N (i*J))⟩]),(DEAD,[none])]⟩
theorem Weak.planTo {st st':St} (keep:List Nat) (plan:List (Nat × List (Nat × Nat))) (h:zic st.hp plan=true) (he:st.plan keep plan=st'):Weak st st':=he ▸ Weak.plan keep plan h
theorem Weak.planTo' {st st':St} (keep:List Nat) (plan:List (Nat × List (Nat × Nat))) (h:zic st.hp plan=true) (f:Sg->Prop) (hf:f (sgP st plan)) (he:∀ σ,f σ -> (⟨keep.map fun t=>(t,Go.Ab.sub σ (st.get t)),hpP st σ plan⟩:St)=st'):Weak st st':=Weak.planTo keep plan h (he _ hf)
theorem zlm {σ : Sg} (h:∀ g,σ 800003 g=(800003,g)) (N b k:Nat):subL σ ((List.range k).map (rowU N b))=(List.range k).map (rowU N b):=by rw [zbw,ym7];refine yl9 fun j _=>?_;simp only [ymt,rowU,sub,h]
theorem zqb {σ : Sg} (h:∀ g,σ 800002 g=(800002,g)) (J I:Nat):subL σ ((List.range I).map (outU J))=(List.range I).map (outU J):=by rw [zbw,ym7];refine yl9 fun j _=>?_;simp only [ymt,outU,sub,h]
theorem yds (σ : Sg) (l:List PV):subL σ (l.map .p)=l.map .p:=by rw [zbw,ym7]; rfl
theorem zp0 (σ : Sg) {α : Type} [Enc α] (l:List α):subL σ (avs l)=avs l:=yds σ (ens l)
theorem zlv (σ : Sg) (T:List (List GW)):(famC T).map (Option.map (subO σ))=famC T:=by unfold famC;rw [ym7];refine yl9 fun l _=>?_;simp only [ymt,yng,subO,zp0]
theorem zrb {σ : Sg} (h:∀ g,σ 800003 g=(800003,g)) (I J N:Nat):(famU I J N).map (Option.map (subO σ))=famU I J N:=by unfold famU;rw [ym7];refine yl9 fun l _=>?_;simp only [ymt,yng,subO,zlm h]
theorem zlj (σ : Sg) (l r:List AV):subL σ (l++r)=subL σ l++subL σ r:=by simp [zbw]
theorem zrc (T:List (List GW)):(famC T).length=T.length:=by simp [famC]
theorem zz7 (t:GTrans) (N n:Nat):(zTbl t N n).length=n:=by simp [zTbl]
theorem z9h (t:GTrans) (N n:Nat):famC (zTbl t N (n+1))=famC (zTbl t N n)++[some ⟨8,avs (List.replicate N t.ring.zero)⟩]:=by unfold zTbl famC; rw [yor,ylu]; rfl
theorem z9n {t:GTrans} {wx wy:List Int} {I J N:Nat} {ord:List Nat} {i:Nat} (hst:t.st=(N:Int)) (hN:N<=1000) (hJ:J<=1000) {Q:Exit->St->Prop} {ks:List Kt} {st:St} (hw:Weak st (u1S t wx wy I J N ord i 0))
  (hx:znn P 132 Q (zee 3 ks) 3 (u1S t wx wy I J N ord i J)):vL P 132 Q g.nr ks st:=by
 refine zai (S:=fun k:Nat=>u1S t wx wy I J N ord i k) (I:=fun k=>k<=J) (m:=fun k=>J - k) 0 hw (by omega) ?_;rintro k h1 R hn hr hx';by_cases hk:k<J
 ·simp [g.nr,u1S,go_sem,hst,hk];refine zct (z41 t.ring N hN) (by simp [go_sem]) ⟨zed _ _ rfl,by decide,by simp [ens,LIM]; omega⟩ _ rfl ?_;have e1:=i64s k (by omega);simp [go_sem,e1];refine ⟨by omega,hn (k+1) _ (Weak.planTo' [1,2,3,6,9,10,11,55,56,60,61] [(3,[(3,0)]),(6,[(6,0)]),(800000,[(800000,0)]),(800001,[(800001,0)]),(800002,[(800002,0)]),(800003,[(800003,0),(68,0)]),(800004,[(70,0)])] (by simp [zic,zqj,zgt,PINB,DEAD]) (fun σ => σ 3 0=(3,0) /\ σ 6 0=(6,0) /\ σ 800000 0=(800000,0) /\ σ 800001 0=(800001,0)/\(∀ g,σ 800002 g=(800002,g))/\(∀ g,σ 800003 g=(800003,g)) /\ σ 68 0=(800003,i*J+k) /\ σ 70 0=(800004,0)) ?_ ?_) (by omega) (by omega)⟩
  ·simp [sgP,zik,zfv,St.site,look,zrc,zz7]
  ·rintro σ ⟨s1,s2,s3,s4,s5,s6,s7,s8⟩;have hz:subL σ (List.replicate N (AV.p (enc t.ring.zero)))=List.replicate N (AV.p (enc t.ring.zero)):=by rw [<- zrp,zp0]
   rw [yfh] at hz;simp [hpP,catS,sub,subO,subL,St.get,look,St.site,u1S,hst,s1,s2,s3,s4,s7,s8,tabU,z8,zlm s6,zqb s5,zrb s6,zlv,zlj,<- Nat.add_assoc,z9h,yme,hz];exact ⟨by simp [go_sem,hst],by simp [go_sem],rfl⟩
 ·have hk':k=J:=by omega
  subst hk';simp [g.nr,u1S,go_sem,hk];exact hx' 3 _ hx
def u2S (t:GTrans) (wx wy:List Int) (I J N:Nat) (ord:List Nat) (i:Nat):St :=
 ⟨[(1,.p (.sl (ens wx))),(2,.p (.sl (ens wy))),(3,.ptr 3 0 0 0),(6,.ptr 6 0 0 0),(9,.p (.sl (ens (toI ord)))),(10,.ptr 800000 0 0 0),(55,.p (.int .i64 I)),(56,.p (.int .i64 i))],
  [(3,[some ⟨8,[.p (enc t)]⟩]),(6,[some ⟨8,[z8]⟩]),(800000,[some ⟨11,[tabU t wx wy i]⟩]),(800001,[some ⟨1,(List.range i).map (outU J)⟩]),(800002,famU i J N),(800003,famC (zTbl t N (i*J))),(DEAD,[none])]⟩
theorem z7o (I J N:Nat):(famU I J N).length=I:=by simp [famU]
theorem z3q (I J N:Nat):famU (I+1) J N=famU I J N++[some ⟨1,(List.range J).map (rowU N (I*J))⟩]:=by unfold famU; rw [yme,ylu]; rfl
theorem z9m {t:GTrans} {wx wy:List Int} {I J N:Nat} {ord:List Nat} (hst:t.st=(N:Int)) (hN:N<=1000) (hJ:J<=1000) (hI:I<=1000) (hJ':J=wy.length+1) {Q:Exit->St->Prop} {ks:List Kt} {st:St} (hw:Weak st (u2S t wx wy I J N ord 0))
  (hx:znn P 132 Q (zee 1 ks) 1 (u2S t wx wy I J N ord I)):vL P 132 Q g.nc ks st:=by
 refine zai (S:=fun i:Nat=>u2S t wx wy I J N ord i) (I:=fun i=>i<=I) (m:=fun i=>I - i) 0 hw (by omega) ?_;rintro i h1 R hn hr hx';by_cases hi:i<I
 ·have e1:IntKind.i64.wrap ((wy.length:Int)+1)=(J:Int):=(i64w (by omega) (by omega)).trans (by omega);have e2:=i64s i (by omega);simp [g.nc,u2S,go_sem,hi,e1];refine z9n (wx:=wx) (wy:=wy) (I:=I) (J:=J) (N:=N) (ord:=ord) (i:=i) hst hN hJ (Weak.nl 11 800004 1 rfl (Weak.planTo' [1,2,3,6,9,10,11,55,56,60,61] [(3,[(3,0)]),(6,[(6,0)]),(800000,[(800000,0)]),(800001,[(800001,0)]),(800002,[(800002,0)]),(800003,[(800003,0)]),(800004,[(800004,0)])] ?_ (fun σ => σ 3 0=(3,0) /\ σ 6 0=(6,0) /\ σ 800000 0=(800000,0) /\ σ 800001 0=(800001,0)/\(∀ g,σ 800002 g=(800002,g))/\(∀ g,σ 800003 g=(800003,g)) /\ σ 800004 0=(800004,0)) ?_ ?_)) ?_
  ·simp [zic,zqj,zgt,PINB,DEAD,St.alloc,St.put]
  ·simp [sgP,zik,zfv,St.site,look,zrc,zz7,St.alloc,St.put]
  ·rintro σ ⟨s1,s2,s3,s4,s5,s6,s7⟩;simp [hpP,catS,Go.Ab.sub,subO,subL,St.get,look,St.site,u1S,s1,s2,s3,s4,s7,tabU,z8,zlm s6,zqb s5,zrb s6,zlv,zlj,St.alloc,St.put];rfl
  ·simp [u1S,go_sem,tabU,e2];refine ⟨by omega,hn (i+1) _ (Weak.planTo' [1,2,3,6,9,10,55,56] [(3,[(3,0)]),(6,[(6,0)]),(800000,[(800000,0)]),(800001,[(79,0)]),(800002,[(800002,0),(800004,0)]),(800003,[(800003,0)])] ?_ (fun σ => σ 3 0=(3,0) /\ σ 6 0=(6,0) /\ σ 800000 0=(800000,0) /\ σ 79 0=(800001,0)/\(∀ g,σ 800002 g=(800002,g))/\(∀ g,σ 800003 g=(800003,g)) /\ σ 800004 0=(800002,i)) ?_ ?_) (by omega) (by omega)⟩
   ·simp [zic,zqj,zgt,PINB,DEAD]
   ·simp [sgP,zik,zfv,St.site,look,zrc,zz7,z7o]
   ·rintro σ ⟨s1,s2,s3,s4,s5,s6,s7⟩;have e3:(i+1)*J=i*J+J:=yks i J;simp [hpP,catS,Go.Ab.sub,subO,subL,St.get,look,St.site,u2S,s1,s2,s3,s4,s7,tabU,z8,zlm s6,zqb s5,zrb s6,zlv,zlj,z3q,yme,e3];exact ⟨rfl,rfl⟩
 ·have hi':i=I:=by omega
  subst hi';simp [g.nc,u2S,go_sem,hi];exact hx' 1 _ hx
end Go.Ab
