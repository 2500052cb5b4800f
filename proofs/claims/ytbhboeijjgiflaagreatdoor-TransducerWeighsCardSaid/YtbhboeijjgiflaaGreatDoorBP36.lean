/-
Proofs for the law TransducerWeighs, part 36. Conditions: none.
-/
import Derived.Test.YtbhboeijjgiflaaGreatDoorBP35
import Derived.Test.YtbhboeijjgiflaaGreatDoorBP27
import Derived.Test.YtbhboeijjgiflaaGreatDoorBP28
import Derived.Test.YtbhboeijjgiflaaGreatDoorBP23
import Derived.Test.YtbhboeijjgiflaaGreatDoorBP12
set_option maxRecDepth 100000
set_option maxHeartbeats 4000000
set_option linter.all false
namespace Go.Ab
open Enc (enc)
theorem z87 {v w:GW} (h1:v.q=w.q) (h2:v.cost=w.cost) (h3:v.inf=w.inf) (h4:v.set=w.set) (h5:v.poly=w.poly) (h6:v.parts=w.parts):v=w:=by cases v; cases w;simp only [GW.q_mk,GW.cost_mk,GW.inf_mk,GW.set_mk,GW.poly_mk,GW.parts_mk] at h1 h2 h3 h4 h5 h6;subst h1 h2 h3 h4 h5 h6; rfl
theorem yia {x y:GRat} (hx:x.valid=true) (hy:y.valid=true) (h:x.v=y.v):x=y:=by rw [<- zg4 hx,<- zg4 hy,h]
def trop (w:GW):Int:=if w.inf then 1099511627777 else w.cost
theorem zhp {v w:GW} (hv:v.si 2) (hw:w.si 2) (h:trop v=trop w):v=w:=by
 obtain ⟨h1,h2,h3,h4,h5,h6,h7⟩:=si2.1 hv;obtain ⟨k1,k2,k3,k4,k5,k6,k7⟩:=si2.1 hw;unfold trop at h;refine z87 (h2.trans k2.symm) ?_ ?_ (h3.trans k3.symm) (h4.trans k4.symm) (h1.trans k1.symm)
 ·cases hi:v.inf<;>cases hj:w.inf<;>simp [hi,hj] at h<;>try omega
  rw [h7 hi,k7 hj]
 ·cases hi:v.inf<;>cases hj:w.inf<;>simp [hi,hj] at h<;>first|rfl|omega
theorem zdu {v w:GW} (hv:v.si 2) (hw:w.si 2):trop (zaq 2 v w)=if trop w<trop v then trop w else trop v:=by obtain ⟨h1,h2,h3,h4,h5,h6,h7⟩:=si2.1 hv;obtain ⟨k1,k2,k3,k4,k5,k6,k7⟩:=si2.1 hw;unfold zaq;rw [yj8 (by omega),yj9 rfl];unfold trop;cases hi:v.inf<;>cases hj:w.inf<;>simp [hi,hj]<;>(try split)<;>simp_all<;>omega
theorem zsc {a b c:Rat} (h:a<b) (k:b<c):a<c:=Rat.not_le.1 fun e=>ymd.2 (Rat.le_trans (Rat.le_of_lt k) e) h
theorem z1i {a b c:Rat} (h:a<=b) (k:b<c):a<c:=Rat.not_le.1 fun e=>Rat.not_le.2 k (Rat.le_trans e h)
theorem zsi (x y:GW):zaq 3 x y=if x.q.v<y.q.v then y else x:=by simp [zaq]
theorem zoy {k:Int} (hk:1<=k/\k<=5) {v w:GW} (hv:v.si k) (hw:w.si k):zaq k v w=zaq k w v:=by
 have:k=1\/k=2\/k=3\/k=4\/k=5:=by omega
 rcases this with rfl|rfl|rfl|rfl|rfl
 ·simp only [zaq,yk0,ym2]
 ·refine zhp (zb9 hk hv hw) (zb9 hk hw hv) ?_;rw [zdu hv hw,zdu hw hv];split<;>split<;>omega
 ·obtain ⟨h1,h2,h3,h4,h5,h6,h7,h8⟩:=si3.1 hv;obtain ⟨k1,k2,k3,k4,k5,k6,k7,k8⟩:=si3.1 hw;rw [zsi,zsi];by_cases a:v.q.v<w.q.v
  ·rw [yj9 a,yj8 (ymd.2 (Rat.le_of_lt a))]
  ·by_cases b:w.q.v<v.q.v
   ·rw [yj8 a,yj9 b]
   ·rw [yj8 a,yj8 b];have e:v.q.v=w.q.v:=Rat.le_antisymm (ymd.1 b) (ymd.1 a);exact z87 (yia h6 k6 e) (h3.trans k3.symm) (h2.trans k2.symm) (h4.trans k4.symm) (h5.trans k5.symm) (h1.trans k1.symm)
 ·simp [zaq,UInt64.or_comm]
 ·have pv:=si_p hv;have pw:=si_p hw;have e:padd v.poly w.poly=padd w.poly v.poly:=zhu (zci _ pv) (zci _ pw) fun e=>by rw [zfi _ (zak.1 pw).1,zfi _ (zak.1 pv).1,ym2]
  simp [zaq,e]
theorem zmm {k:Int} (hk:1<=k/\k<=5) {u v w:GW} (hu:u.si k) (hv:v.si k) (hw:w.si k):zaq k (zaq k u v) w=zaq k u (zaq k v w):=by
 have:k=1\/k=2\/k=3\/k=4\/k=5:=by omega
 rcases this with rfl|rfl|rfl|rfl|rfl
 ·simp only [zaq,yk0,GW.q_mk,zbv,yl4]
 ·refine zhp (zb9 hk (zb9 hk hu hv) hw) (zb9 hk hu (zb9 hk hv hw)) ?_;rw [zdu (zb9 hk hu hv) hw,zdu hu hv,zdu hu (zb9 hk hv hw),zdu hv hw]
  repeat' split
  all_goals omega
 ·have s:=zsi;rw [s u v,s v w];by_cases a:u.q.v<v.q.v
  ·rw [yj9 a];by_cases b:v.q.v<w.q.v
   ·rw [yj9 b,s v w,s u w,yj9 b,yj9 (zsc a b)]
   ·rw [yj8 b,s v w,s u v,yj8 b,yj9 a]
  ·rw [yj8 a];by_cases b:v.q.v<w.q.v
   ·rw [yj9 b]
   ·rw [yj8 b,s u w,s u v,yj8 a,yj8];intro c;exact b (z1i (ymd.1 a) c)
 ·simp [zaq,GW.set_mk,UInt64.or_assoc]
 ·have pu:=si_p hu;have pv:=si_p hv;have pw:=si_p hw;have e:padd (padd u.poly v.poly) w.poly=padd u.poly (padd v.poly w.poly):=zhu (zci _ (zci _ pu)) (zci _ pu) fun e=>by rw [zfi _ (zak.1 pw).1,zfi _ (zak.1 pv).1,zfi _ (zak.1 (zci _ pv)).1,zfi _ (zak.1 pw).1,yl4]
  simp [zaq,GW.poly_mk,e]
theorem zy3:∀ {ks:List Int} {vs ws:List GW},(∀ k∈ks,1<=k/\k<=5)->vs.length=ks.length->ws.length=ks.length->(∀ i,(h:i<ks.length)->(h':i<vs.length)->vs[i].si ks[i])->(∀ i,(h:i<ks.length)->(h':i<ws.length)->ws[i].si ks[i])->zd6 ks vs ws=zd6 ks ws vs:=by
 intro ks vs ws hk lv lw hv hw;refine ynj (by rw [zbc lv lw,zbc lw lv]) fun i h1 h2=>?_;have h3:i<ks.length:=by rw [zbc lv lw] at h1; exact h1
 rw [zbl h3 (by omega) (by omega) h1,zbl h3 (by omega) (by omega) h2];exact zoy (hk _ (yk2 h3)) (hv i h3 (by omega)) (hw i h3 (by omega))
theorem zha {r:GRing} {v w:GW} (cv:v.chk r) (cw:w.chk r):r.plus v w=r.plus w v:=by
 by_cases h6:r.kind=6
 ·have hp:=GRing.ok_parts cv.1 h6;obtain ⟨lv,_,sv⟩:=cv.2.2 h6;obtain ⟨lw,_,sw⟩:=cw.2.2 h6;simp only [GRing.plus,yj9 h6,zy3 hp.2.2 lv lw sv sw]
 ·have hk:=GRing.ok_kind cv.1 h6;simp only [GRing.plus,yj8 h6];exact zoy ⟨hk.1,hk.2.1⟩ (cv.2.1 h6) (cw.2.1 h6)
theorem zdm {r:GRing} {u v w:GW} (cu:u.chk r) (cv:v.chk r) (cw:w.chk r):r.plus (r.plus u v) w=r.plus u (r.plus v w):=by
 by_cases h6:r.kind=6
 ·have hp:=GRing.ok_parts cv.1 h6;obtain ⟨lu,_,su⟩:=cu.2.2 h6;obtain ⟨lv,_,sv⟩:=cv.2.2 h6;obtain ⟨lw,_,sw⟩:=cw.2.2 h6;simp only [GRing.plus,yj9 h6,GW.parts_mk]
  congr 1
  have luv:=zbc lu lv;have lvw:=zbc lv lw;refine ynj (by rw [zbc luv lw,zbc lu lvw]) fun i h1 h2=>?_;have h3:i<r.parts.length:=by rw [zbc luv lw] at h1; exact h1
  rw [zbl h3 (by omega) (by omega) h1,zbl h3 (by omega) (by omega) h2,zbl h3 (by omega) (by omega) (by omega),zbl h3 (by omega) (by omega) (by omega)];exact zmm (hp.2.2 _ (yk2 h3)) (su i h3 (by omega)) (sv i h3 (by omega)) (sw i h3 (by omega))
 ·have hk:=GRing.ok_kind cv.1 h6;simp only [GRing.plus,yj8 h6];exact zmm ⟨hk.1,hk.2.1⟩ (cu.2.1 h6) (cv.2.1 h6) (cw.2.1 h6)
section
variable {α : Type} {key : α -> List Int}
def zg0 (key : α -> List Int) (l:List α) (i:Nat):List α := srt key (l.take i)++l.drop i
theorem z69 (s:List α) (x : α):(insR key s x).length=s.length+1:=by
 induction s with
 | nil=>rfl
 | cons z r ih=>simp only [insR]; split<;>simp [ih]
theorem z68 {s:List α} {x y : α}:y∈insR key s x ↔ y=x\/y∈s:=by
 induction s with
 | nil=>simp [insR]
 | cons z r ih =>
  simp only [insR]; split
  ·simp
  ·simp only [yk5,ih];exact ⟨fun h=>by rcases h with h|h|h<;>simp [h],fun h=>by rcases h with h|h|h<;>simp [h]⟩
theorem zwg (l:List α) (x : α):srt key (l++[x])=insR key (srt key l) x:=by simp [srt,yl5]
theorem zc1 (l:List α):Srt key (srt key l)/\(srt key l).length=l.length/\∀ y,y∈srt key l ↔ y∈l:=by
 have:∀ (n:Nat) (l:List α),l.length=n->Srt key (srt key l)/\(srt key l).length=l.length/\∀ y,y∈srt key l ↔ y∈l:=by
  intro n
  induction n with
  | zero=>intro l hl; have:=yo0 hl; subst this; simp [srt,Srt]
  | succ n ih =>
   intro l hl;obtain ⟨l',y,rfl⟩:∃ l' y,l=l'++[y]:=⟨l.dropLast,l.getLast (by intro h; simp [h] at hl),(List.dropLast_concat_getLast _).symm⟩;obtain ⟨h1,h2,h3⟩:=ih l' (by simpa using hl);rw [zwg];refine ⟨zm8 h1,by rw [z69,h2]; simp,fun z=>?_⟩;rw [z68,h3]; simp [or_comm]
 exact this _ l rfl
theorem zyx (l:List α):zg0 key l 1=l:=by cases l<;>simp [zg0,srt,insR]
theorem z0w {l:List α} {i:Nat} (h:l.length<=i):zg0 key l i=srt key l:=by unfold zg0; rw [yki h,ymn h,yn3]
theorem z0v {l:List α} {i:Nat} (h:i<l.length):zg0 key l i=srt key (l.take i)++l[i]::l.drop (i+1):=by unfold zg0; rw [ymc h]
theorem zma {l:List α} {i:Nat} (h:i<l.length):zg0 key l (i+1)=insR key (srt key (l.take i)) l[i]++l.drop (i+1):=by unfold zg0; rw [ykb h,zwg]
theorem zva {x : α} {B:List α} (hB:∀ b∈B,key x<key b):∀ {A:List α},(∀ a∈A,¬ key x<key a)->insR key (A++B) x=A++x::B
 | [],_=>by
  cases B with
  | nil=>rfl
  | cons b B=>simp [insR,hB b (by simp)]
 | a::A,h=>by have:=zva hB (A:=A) fun y hy=>h y (by simp [hy]);simp [insR,h a (by simp),this]
theorem z0q (A B:List α) (z x : α) (rest:List α):((A++[z]++x::(B++rest)).set (A.length+1) z).set A.length x=A++x::((z::B)++rest):=by simp [List.set_append,yma]
end
section
variable {α : Type} {key : α -> List Int} {up : α -> α -> α} {nw : α -> α}
theorem z2k:∀ {out:List α} {x y : α},x∈mst key up nw out y->x∈out\/x=nw y\/∃ z∈out,x=up z y
 | [],x,y,h=>by simp [mst] at h; exact .inr (.inl h)
 | [z],x,y,h=>by
  simp only [mst] at h;split at h
  ·simp at h; exact .inr (.inr ⟨z,by simp,h⟩)
  ·simp at h; rcases h with h|h
   ·exact .inl (by simp [h])
   ·exact .inr (.inl h)
 | z::w::r,x,y,h=>by
  rw [zmw z y (by simp)] at h;rcases yk5.1 h with h|h
  ·exact .inl (by simp [h])
  ·rcases z2k h with h|h|⟨u,h,e⟩
   ·exact .inl (ykq _ h)
   ·exact .inr (.inl h)
   ·exact .inr (.inr ⟨u,ykq _ h,e⟩)
theorem zq1:∀ {out:List α} {x y : α},x∈insF key up nw out y->x∈out\/x=nw y\/∃ z∈out,x=up z y
 | [],x,y,h=>by simp [insF] at h; exact .inr (.inl h)
 | z::r,x,y,h=>by
  simp only [insF] at h;split at h
  ·rcases yk5.1 h with h|h
   ·exact .inl (by simp [h])
   ·rcases zq1 h with h|h|⟨u,h,e⟩
    ·exact .inl (ykq _ h)
    ·exact .inr (.inl h)
    ·exact .inr (.inr ⟨u,ykq _ h,e⟩)
  ·split at h
   ·rcases yk5.1 h with h|h
    ·exact .inr (.inr ⟨z,by simp,h⟩)
    ·exact .inl (ykq _ h)
   ·rcases yk5.1 h with h|h
    ·exact .inr (.inl h)
    ·exact .inl h
theorem zo6 (out:List α) (y : α):(mst key up nw out y).length<=out.length+1:=by
 match out with
 | []=>simp [mst]
 | [z]=>simp only [mst]; split<;>simp
 | z::w::r =>
  rw [zmw z y (by simp)];have:=zo6 (w::r) y;simp only [ylr] at this ⊢; omega
theorem zm9:∀ (out:List α) (y : α),(insF key up nw out y).length<=out.length+1
 | [],y=>by simp [insF]
 | z::r,y=>by
  simp only [insF];have:=zm9 r y
  (repeat' split)<;>simp only [ylr]<;>omega
theorem zjg {l:List α} {k:Nat} (h:k<l.length):mrg key up nw (l.take (k+1))=mst key up nw (mrg key up nw (l.take k)) l[k]:=by rw [ykb h,zxb]
theorem zgh {l:List α} {k:Nat} (h:k<l.length):nfm key up nw (l.take (k+1))=insF key up nw (nfm key up nw (l.take k)) l[k]:=by rw [ykb h]; unfold nfm; rw [yl5]; rfl
theorem zqn {Q:Nat -> α -> Prop} (hm:∀ k x,Q k x->Q (k+1) x) {l:List α} (hn:∀ x∈l,Q 0 (nw x)) (hu:∀ k z,∀ x∈l,Q k z->Q (k+1) (up z x)) (h0:∀ k x,Q 0 x->Q k x) :
  ∀ k,k<=l.length->(mrg key up nw (l.take k)).length<=k/\∀ x∈mrg key up nw (l.take k),Q k x
 | 0,_=>by simp [mrg]
 | k+1,h=>by
  obtain ⟨i1,i2⟩:=zqn hm hn hu h0 k (by omega);have hk:k<l.length:=by omega
  rw [zjg hk];refine ⟨yka (zo6 _ _) (by omega),fun x hx=>?_⟩;rcases z2k hx with h|h|⟨z,h,e⟩
  ·exact hm _ _ (i2 x h)
  ·rw [h]; exact h0 _ _ (hn _ (yk2 hk))
  ·rw [e]; exact hu _ _ _ (yk2 hk) (i2 z h)
theorem z2j {Q:Nat -> α -> Prop} (hm:∀ k x,Q k x->Q (k+1) x) {l:List α} (hn:∀ x∈l,Q 0 (nw x)) (hu:∀ k z,∀ x∈l,Q k z->Q (k+1) (up z x)) (h0:∀ k x,Q 0 x->Q k x) :
  ∀ k,k<=l.length->(nfm key up nw (l.take k)).length<=k/\∀ x∈nfm key up nw (l.take k),Q k x
 | 0,_=>by simp [nfm]
 | k+1,h=>by
  obtain ⟨i1,i2⟩:=z2j hm hn hu h0 k (by omega);have hk:k<l.length:=by omega
  rw [zgh hk];refine ⟨yka (zm9 _ _) (by omega),fun x hx=>?_⟩;rcases zq1 hx with h|h|⟨z,h,e⟩
  ·exact hm _ _ (i2 x h)
  ·rw [h]; exact h0 _ _ (hn _ (yk2 hk))
  ·rw [e]; exact hu _ _ _ (yk2 hk) (i2 z h)
end
section
variable (r:GRing)
def wsum (ws:List GW):GW:=ws.foldr r.plus r.zero
variable {r} (hr:r.ok=true)
include hr in
theorem zis:∀ {ws:List GW},(∀ w∈ws,w.chk r)->(wsum r ws).chk r
 | [],_=>zbq hr
 | w::ws,h=>zch (h w (by simp)) (zis fun x hx=>h x (by simp [hx]))
include hr in
theorem zlx {v:GW} (hv:v.chk r):r.plus r.zero v=v:=by rw [zha (zbq hr) hv]; exact zc3 hv
include hr in
theorem zly:∀ {a b:List GW},(∀ w∈a,w.chk r)->(∀ w∈b,w.chk r)->wsum r (a++b)=r.plus (wsum r a) (wsum r b)
 | [],b,_,hb=>(zlx hr (zis hr hb)).symm
 | w::a,b,ha,hb=>by show r.plus w (wsum r (a++b))=r.plus (r.plus w (wsum r a)) (wsum r b);rw [zly (fun x hx=>ha x (by simp [hx])) hb,zdm (ha w (by simp)) (zis hr fun x hx=>ha x (by simp [hx])) (zis hr hb)]
end
section
variable {α : Type} (key : α -> List Int) (wt : α -> GW) (r:GRing)
def atQ (l:List α) (p:List Int->Bool):GW:=wsum r ((l.filter fun x=>p (key x)).map wt)
variable {key wt r} {up : α -> α -> α} (hr:r.ok=true) (hk:∀ z y,key (up z y)=key z) (hw:∀ z y,wt (up z y)=r.plus (wt z) (wt y))
theorem z4s (p:List Int->Bool):atQ key wt r [] p=r.zero:=rfl
theorem zdf (x : α) (l:List α) (p:List Int->Bool):atQ key wt r (x::l) p=if p (key x)=true then r.plus (wt x) (atQ key wt r l p) else atQ key wt r l p:=by unfold atQ;by_cases h:p (key x)=true<;>simp [h,wsum]
include hr in
theorem zvw {l:List α} (h:∀ x∈l,(wt x).chk r) (p:List Int->Bool):(atQ key wt r l p).chk r:=zis hr fun w hw=>by obtain ⟨x,hx,rfl⟩:=yk4.1 hw;exact h x (ym1.1 hx).1
include hr in
theorem zz2 {a b:List α} (ha:∀ x∈a,(wt x).chk r) (hb:∀ x∈b,(wt x).chk r) (p:List Int->Bool):atQ key wt r (a++b) p=r.plus (atQ key wt r a p) (atQ key wt r b p):=by unfold atQ;rw [ym3,ylu];exact zly hr (fun w hw=>by obtain ⟨x,hx,rfl⟩:=yk4.1 hw; exact ha x (ym1.1 hx).1) (fun w hw=>by obtain ⟨x,hx,rfl⟩:=yk4.1 hw; exact hb x (ym1.1 hx).1)
include hr hk hw in
theorem zyd {x : α} (hx:(wt x).chk r) (p:List Int->Bool):∀ {out:List α},(∀ z∈out,(wt z).chk r)->atQ key wt r (insF key up id out x) p=r.plus (atQ key wt r out p) (if p (key x)=true then wt x else r.zero)
 | [],_=>by
  show atQ key wt r [x] p=_;rw [zdf,z4s,zlx hr (by split; exact hx; exact zbq hr)];split
  ·exact zc3 hx
  ·rfl
 | z::o,h=>by
  have hz:=h z (by simp);have ho:∀ y∈o,(wt y).chk r:=fun y hy=>h y (by simp [hy]);have co:=zvw (key:=key) hr ho p;have ce:(if p (key x)=true then wt x else r.zero).chk r:=by split; exact hx; exact zbq hr
  simp only [insF];split
  ·rw [zdf,zdf,zyd hx p ho];split
   ·rw [zdm hz co ce]
   ·rfl
  ·split
   ·rename_i h1 h2;rw [zdf,zdf,hk,hw];by_cases h3:p (key z)=true
    ·rw [yj9 h3,yj9 h3,yj9 (h2 ▸ h3),zdm hz hx co,zdm hz co hx,zha hx co]
    ·rw [yj8 h3,yj8 h3,yj8 (h2 ▸ h3),zc3 co]
   ·show atQ key wt r (x::z::o) p=_;rw [zdf x];have cz:=zvw (key:=key) hr h p;split
    ·exact zha hx cz
    ·exact (zc3 cz).symm
include hr hk hw in
theorem z4t {l:List α} (h:∀ x∈l,(wt x).chk r) (p:List Int->Bool):∀ n,n<=l.length->(∀ z∈nfm key up id (l.take n),(wt z).chk r)/\atQ key wt r (nfm key up id (l.take n)) p=atQ key wt r (l.take n) p
 | 0,_=>⟨by simp [nfm],rfl⟩
 | n+1,hn=>by
  obtain ⟨i1,i2⟩:=z4t h p n (by omega);have hl:n<l.length:=by omega
  have hx:=h _ (yk2 hl);rw [zgh hl];refine ⟨fun z hz=>?_,?_⟩
  ·rcases zq1 hz with h1|h1|⟨y,h1,h2⟩
   ·exact i1 z h1
   ·rw [h1]; exact hx
   ·rw [h2,hw]; exact zch (i1 y h1) hx
  ·rw [zyd hr hk hw hx p i1,i2,ykb hl,zz2 hr (fun x hx=>h x (ykl hx)) (fun x hx=>by simp at hx; rw [hx]; exact h _ (yk2 hl)),zdf,z4s]
   congr 1
   split
   ·exact (zc3 hx).symm
   ·rfl
end
theorem zpe (r:GRing) (w:GW) (hw:w.sm 1048576):Sp P F.gg [enc r,enc w] (.pure (.bool (decide (w=r.zero)))):=by refine Sp.vz c.gg fun _=>?_;simp [g.gg,go_sem];refine zaa (zf7 r) rfl ?_;simp [go_sem];refine zab (ze1 w hw r.zero) ?_;simp [go_sem]
def inA (x:GArc) (a:GAuto):Prop:=0<=x.f/\x.f<a.st/\0<=x.t/\x.t<a.st/\0<=x.l/\x.l<=a.sy/\x.w.chk a.ring
noncomputable instance (x:GArc) (a:GAuto):Decidable (inA x a):=Classical.propDecidable _
structure GAuto.sm (a:GAuto) (n:Nat):Prop where
 ini:∀ w∈a.ini,w.sm n
 fin:∀ w∈a.fin,w.sm n
 arcs:∀ x∈a.arcs,x.w.sm n
theorem z8b (r:GRing) (l:List GW) (n:Nat) (hn:n<=2000) (hn1:1<=n) (hl:l.length<=1000000) (h:∀ w∈l,w.sm n/\w.chk r) (hz:r.zero.sm n) (cz:r.zero.chk r) :
  Sp P F.fx [enc r,.sl (ens l)] (.pure (.sl (ens (l.map fun w=>r.plus w r.zero)))):=by
 refine Sp.vz c.fx fun _=>?_;simp [g.fx,go_sem]
 refine zai (S:=fun k:Nat=>mkSt [(2,.ptr 2 0 0 0),(5,.own 1 0 0 k),(8,.p (.sl (ens l))),(9,.p (.int .i64 l.length)),(10,.p (.int .i64 k))] [(2,⟨2,[.p (enc r)]⟩),(1,⟨8,avs ((l.take k).map fun w=>r.plus w r.zero)⟩)]) (I:=fun k=>k<=l.length) (m:=fun k=>l.length - k) 0
  (Weak.nl 5 77 8 rfl (Weak.to [2,5,8,9,10] [((2,0),2),((77,0),1)] (by simp [go_sem]))) (by omega) ?_
 rintro k h1 R hn' hr hx;have e3:=i64s k (by omega);simp [g.qt,mkSt,go_sem];refine ⟨fun hk=>?_,fun hk=>hx _ _ ?_⟩
 ·refine zae hk ?_
  try simp [go_sem]
  refine zaa (zf7 r) rfl ?_
  try simp [go_sem]
  have hw:=h _ (List.getElem_mem hk);refine zab (zlo r l[k] r.zero n hw.1 hz hn hn1 hw.2 cz) ?_;simp [go_sem,e3];have hts:l.take (k+1)=l.take k++[l[k]]:=List.take_succ_eq_append_getElem hk;refine ⟨⟨by omega,by omega⟩,hn' (k+1) _ (Weak.to [2,5,8,9,10] [((2,0),2),((21,0),1)] ?_) (by omega) (by omega)⟩;have h2:(l.map fun w=>r.plus w r.zero).take (k+1)=(l.map fun w=>r.plus w r.zero).take k++[r.plus l[k] r.zero]:=by rw [List.take_succ_eq_append_getElem (by simpa using hk)]; simp
  simp [mkSt,go_sem];rw [h2]; simp [go_sem]
 ·have:k=l.length:=by omega
  subst this;simp [go_sem];rw [yki (by simp),yki (by simp)]
theorem zpi:∀ (l m:List Int),l.length=m.length->zjp (List.zipWith cmpI l m)=lexI l m
 | [],[],_=>rfl
 | [],y::ys,h=>by simp at h
 | x::xs,[],h=>by simp at h
 | x::xs,y::ys,h=>by
  have ih:=zpi xs ys (by simpa using h);simp only [List.zipWith,zjp,lexI,ih,cmpI];by_cases h1:x<y
  ·simp [h1]
  ·by_cases h2:y<x
   ·simp [h1,h2]
   ·simp [h1,h2]
end Go.Ab
namespace Go.Ab
open Enc (enc)
attribute [local go_sem] zal Opd.slots
section
variable {α : Type} [Enc α]
theorem zn9 (hsz:Enc.sz α = 12) (hone:∀ x : α,(enc x).cells.all PV.one=true) (key : α -> List Int) (cf:FuncId) (l:List α) (hl:l.length<=1000000)
  (hc:∀ x∈l,∀ y∈l,∃ n:Int,Sp P cf [enc x,enc y] (.pure (.int .i64 n))/\(n<0 ↔ key x<key y)) :
  SpM P F.i7 [.sl (ens l),.int .i64 0,.int .i64 l.length,.fn cf []] 0 12 (ens (srt key l)) (.pure (.tup [])):=by
 have hs1:∀ x : α,(enc x).sz=12:=fun x=>by rw [Enc.ok,hsz]
 have ew1:IntKind.i64.wrap 1=1:=i64w (by omega) (by omega);refine SpM.of_vm c.i7 (by simp) rfl (by simp [go_sem,(zc1 l).2.1]) ?_;simp [g.i7,go_sem]
 refine zai (S:=fun i:Nat=>mkSt [(0,.own PIN 0 0 l.length),(1,.p (.int .i64 0)),(2,.p (.int .i64 l.length)),(3,.p (.fn cf [])),(8,.p (.int .i64 i))] [(PIN,⟨12,avs (zg0 key l i)⟩)]) (I:=fun i=>1<=i) (m:=fun i=>l.length+1 - i) 1
  (Weak.to [0,1,2,3,8] [((PIN,0),PIN)] (by simp [go_sem,zyx,ew1])) (by omega) ?_
 rintro i h1 R hn hr hx;simp [g.sa,mkSt,go_sem];refine ⟨fun hi=>?_,fun hi=>hx _ _ ?_⟩;rotate_left
 ·simp [go_sem,z0w hi]
 have e1:=i64s i (by omega);have hsi:=zc1 (key:=key) (l.take i);have hsl:(srt key (l.take i)).length=i:=by rw [hsi.2.1]; simp; omega
 have hend:∀ (L:List α) (v:AV),L=zg0 key l (i+1)->v=.p (.int .i64 ((i+1:Nat):Int))->R .normal ⟨[(0,.own 999998 0 0 l.length),(1,.p (.int .i64 0)),(2,.p (.int .i64 l.length)),(3,.p (.fn cf [])),(8,v)],[(999998,[some ⟨12,avs L⟩]),(999999,[none])]⟩:=by rintro L v rfl rfl;exact hn (i+1) _ (Weak.to [0,1,2,3,8] [((PIN,0),PIN)] (by simp [go_sem])) (by omega) (by omega)
 refine zai (S:=fun x:List α × Nat=>mkSt [(0,.own PIN 0 0 l.length),(1,.p (.int .i64 0)),(2,.p (.int .i64 l.length)),(3,.p (.fn cf [])),(8,.p (.int .i64 i)),(9,.p (.int .i64 x.2))] [(PIN,⟨12,avs x.1⟩)])
  (I:=fun x=>∃ A B,x.1=A++l[i]::(B++l.drop (i+1))/\x.2=A.length/\A++B=srt key (l.take i)/\∀ b∈B,key l[i]<key b) (m:=fun x=>x.2) (zg0 key l i,i)
  (Weak.to [0,1,2,3,8,9] [((PIN,0),PIN)] (by simp [go_sem])) ⟨srt key (l.take i),[],by rw [z0v hi]; simp,hsl.symm,by simp,by simp⟩ ?_
 rintro ⟨L,j⟩ ⟨A,B,hL,hj,hAB,hB⟩ R2 hn2 hr2 hx2;simp only at hL hj;have hLl:L.length=l.length:=by have:=congrArg List.length hAB;rw [hL]; simp at this ⊢; rw [hsi.2.1] at this; simp at this; omega
 have hLm:∀ y∈L,y∈l:=by
  intro y hy;rw [hL] at hy;simp only [yk8,yk5] at hy;have hm:∀ y,y∈A++B->y∈l:=fun y hy=>by rw [hAB,hsi.2.2] at hy; exact ykl hy
  rcases hy with h|h|h|h
  ·exact hm y (by simp [h])
  ·rw [h]; exact yk2 hi
  ·exact hm y (by simp [h])
  ·exact yl1 h
 have hjl:j<l.length:=by rw [<- hLl,hL,hj]; simp
 rcases ype A with rfl|⟨A',z,rfl⟩
 ·
  simp at hj;subst hj;simp [g.o9,mkSt,go_sem];refine hx2 _ _ ?_;simp [go_sem,e1];refine hend L _ ?_ rfl;rw [zma hi,<- hAB,zva hB (by simp),hL]; simp
 ·simp only [ypf] at hj hL hAB;simp at hj;subst hj;have hx0:L[A'.length+1]?=some l[i]:=by rw [hL]; simp
  have hz0:L[A'.length]?=some z:=by rw [hL]; simp
  have hzl:z∈l:=hLm z (by rw [hL]; simp);obtain ⟨n,hn3,hn4⟩:=hc l[i] (yk2 hi) z hzl;have hl0:A'.length+1<l.length:=hjl;have e3:IntKind.i64.wrap (A'.length:Int)=(A'.length:Nat):=i64w (by omega) (by omega);have e4:((A'.length:Int)+1).toNat=A'.length+1:=by omega
  have hgt:(0:Int)<(A'.length:Int)+1:=by omega
  simp [g.o9,mkSt,go_sem,e3,hLl,hl0,show A'.length<l.length by omega,e4,hgt];refine ⟨by omega,zd4 hx0 ?_⟩;refine zd4 hz0 ?_;refine zaa hn3 rfl ?_;by_cases hlt:n<0
  ·simp [go_sem,hlt,e3,e4,hgt,hLl,hl0,show A'.length<l.length by omega];refine zd4 hz0 ?_;refine ⟨by omega,zd4 hx0 ?_⟩;refine ⟨by omega,zd4 hx0 ?_⟩;refine ⟨hs1 z,?_⟩;rw [zbt];refine zd4 (x:=.p (enc z)) (by simp [yci,hz0]) ?_;simp only [ydb];refine ⟨hs1 _,?_⟩;simp [go_sem,e3];refine hn2 ((L.set (A'.length+1) z).set A'.length l[i],A'.length) _ (Weak.to [0,1,2,3,8,9] [((PIN,0),PIN)] (by simp [go_sem])) ⟨A',z::B,?_,rfl,?_,?_⟩ (by simp)
   ·rw [hL]; exact z0q A' B z l[i] _
   ·rw [<- hAB]; simp
   ·intro b hb;rcases yk5.1 hb with rfl|hb
    ·exact hn4.1 hlt
    ·exact hB b hb
  ·simp [go_sem,hlt,e3,e4,hgt,hLl,hl0];refine hx2 _ _ ?_;simp [go_sem,e1];refine hend L _ ?_ rfl;have hnk:¬ key l[i]<key z:=fun h=>hlt (hn4.2 h);rw [zma hi,<- hAB,zva hB,hL]
   ·simp
   ·intro a ha;simp only [yk8,ym0] at ha;rcases ha with ha|rfl
    ·intro hk;have hs0:=hsi.1;rw [<- hAB] at hs0;have:=(ym8.1 (ym8.1 hs0).1).2.2 a ha z (by simp);exact hnk (zm7 hk this)
    ·exact hnk
end
section
variable {α : Type} [Enc α]
theorem zl9 (hsz:Enc.sz α = 12) (hone:∀ x : α,(enc x).cells.all PV.one=true) (key : α -> List Int) (cf:FuncId) (l:List α) (hl:l.length<=19)
  (hc:∀ x∈l,∀ y∈l,∃ n:Int,Sp P cf [enc x,enc y] (.pure (.int .i64 n))/\(n<0 ↔ key x<key y)) :
  SpM P F.ld [.sl (ens l),.int .i64 l.length,.fn cf []] 0 12 (ens (srt key l)) (.pure (.tup [])):=by
 refine SpM.of_vm c.ld (by simp) rfl (by simp [go_sem,(zc1 l).2.1]) ?_;simp [g.ld,go_sem];refine zib fun R hn hr hx=>?_;simp [g.rp,go_sem,show ¬ (20<=(l.length:Int)) by omega];refine hx _ _ ?_;simp [go_sem];refine zf6 (zn9 hsz hone key cf l (by omega) hc) (by simp [go_sem]) rfl rfl (by simp) (by simp [go_sem]) (by simp [go_sem,(zc1 l).2.1]) rfl (zed _ _ hsz) (cells_one hone _) (by simp [go_sem]) ?_;simp [go_sem];refine zib fun R2 hn2 hr2 hx2=>?_;simp [g.rq,go_sem,show ¬ (20<(l.length:Int)) by omega];refine hx2 _ _ ?_;simp [go_sem]
theorem zn1 (hsz:Enc.sz α = 12) (hone:∀ x : α,(enc x).cells.all PV.one=true) (key : α -> List Int) (cf:FuncId) (l:List α) (hl:l.length<=19)
  (hc:∀ x∈l,∀ y∈l,∃ n:Int,Sp P cf [enc x,enc y] (.pure (.int .i64 n))/\(n<0 ↔ key x<key y)) :
  SpM P F.ke [.sl (ens l),.fn cf []] 0 12 (ens (srt key l)) (.pure (.tup [])):=by
 refine SpM.of_vm c.ke (by simp) rfl (by simp [go_sem,(zc1 l).2.1]) ?_;simp [g.ke,go_sem];refine zf6 (zl9 hsz hone key cf l hl hc) (by simp [go_sem]) rfl rfl (by simp) (by simp [go_sem]) (by simp [go_sem,(zc1 l).2.1]) rfl (zed _ _ hsz) (cells_one hone _) (by simp [go_sem]) ?_;simp [go_sem]
end
def gw0':GW:=.mk ⟨false,[],[]⟩ 0 false 0 [] []
theorem zre (df:FuncId) (caps:List PV) (p:GTArc->Bool) (l:List GTArc) (hl:l.length<=1000000) (hp:∀ x∈l,Sp P df (enc x::caps) (.pure (.bool (p x)))) :
  SpM P F.kf [.sl (ens l),.fn df caps] 0 12 (ens (l.filter (fun x => !p x)++List.replicate (l.length - (l.filter fun x => !p x).length) (⟨0,0,0,0,gw0'⟩:GTArc))) (.same (l.filter fun x => !p x).length):=by
 have hfl:(l.filter fun x => !p x).length<=l.length:=ylz _ _;refine SpM.of_vm c.kf (by simp) rfl (by simp [go_sem]; omega) ?_;simp [g.kf,go_sem];refine zab (zq6 l df caps p (by omega) hp) ?_;cases hi:l.findIdx? p with
 | none =>
  have hn:=yp7.1 hi;have hf:l.filter (fun x => !p x)=l:=List.filter_eq_self.2 fun x hx=>by simp [hn x hx]
  have hx:idxI p l = -1:=by simp [idxI,hi]
  simp [hx,hf,go_sem]
 | some k =>
  obtain ⟨hk,hpk,hbef⟩:=yp8.1 hi;have hx:idxI p l=k:=by simp [idxI,hi]
  have hne:¬ ((k:Int) = -1):=by omega
  have e1:=i64s k (by omega);simp [hx,hne,e1,go_sem];have htk:(l.take k).filter (fun x => !p x)=l.take k:=List.filter_eq_self.2 fun x hx=>by rw [List.mem_take_iff_getElem] at hx;obtain ⟨i,hi,rfl⟩:=hx;have:=hbef i (by omega);simpa using this
  have htk1:(l.take (k+1)).filter (fun x => !p x)=l.take k:=by rw [ykb hk,ym3,htk]; simp [hpk]
  refine zai (S:=fun x:List GTArc × Nat × Nat=>mkSt [(0,.own PIN 0 0 l.length),(1,.p (.fn df caps)),(5,.p (.int .i64 x.2.1)),(6,.p (.int .i64 x.2.2))] [(PIN,⟨12,avs x.1⟩)])
   (I:=fun x=>x.1.length=l.length/\x.2.1<x.2.2/\x.2.2<=l.length/\x.1.take x.2.1=(l.take x.2.2).filter (fun x => !p x)/\x.1.drop x.2.2=l.drop x.2.2/\x.2.1<=l.length) (m:=fun x=>l.length - x.2.2) (l,k,k+1)
   (Weak.to [0,1,5,6] [((PIN,0),PIN)] (by simp [go_sem])) ⟨rfl,by simp,by simp; omega,by rw [htk1],rfl,by simp; omega⟩ ?_
  rintro ⟨L,i,j⟩ ⟨h1,h2,h3,h4,h5,h6⟩ R hn hr hx2;simp only at h1 h2 h3 h4 h5 h6;simp [g.rg,mkSt,go_sem];refine ⟨fun hj=>?_,fun hj=>hx2 _ _ ?_⟩
  ·have e2:=i64s j (by omega);have e3:=i64s i (by omega);have hjL:L[j]?=some l[j]:=by
    have:(L.drop j)[0]?=(l.drop j)[0]?:=by rw [h5]
    simpa [hj] using this
   refine ⟨by omega,zd4 hjL ?_⟩
   try simp [go_sem]
   refine zaa (hp l[j] (yk2 hj)) (zbz (by simp [go_sem]) (zgi _ _)) ?_;have htj:(l.take (j+1)).filter (fun x => !p x)=(l.take j).filter (fun x => !p x)++(if p l[j] then [] else [l[j]]):=by rw [ykb hj,ym3];by_cases h:p l[j]<;>simp [h]
   rcases ykh (p l[j]) with h7|h7
   ·simp [h7,e2,go_sem];refine hn (L,i,j+1) _ (Weak.to [0,1,5,6] [((PIN,0),PIN)] (by simp [go_sem])) ⟨h1,by show i<j+1; omega,by show j+1<=l.length; omega,by show L.take i=_; rw [htj,h4]; simp [h7],?_,h6⟩ (by show l.length - (j+1)<l.length - j; omega);show L.drop (j+1)=l.drop (j+1);rw [<- List.drop_drop,h5,ylv]
   ·simp [h7,go_sem];refine ⟨by omega,?_⟩;refine zd4 (l:=L) (n:=i) (x:=L[i]'(by omega)) (by simp) ?_;simp [e2,e3,go_sem];have htki:(L.set i l[j]).take (i+1)=L.take i++[l[j]]:=by rw [ykb (by simp; omega),List.take_set_of_le (yk6 i)];simp
    refine hn (L.set i l[j],i+1,j+1) _ (Weak.to [0,1,5,6] [((PIN,0),PIN)] (by simp [go_sem])) ⟨by simp [h1],by show i+1<j+1; omega,by show j+1<=l.length; omega,by show (L.set i l[j]).take (i+1)=_; rw [htki,htj,h4]; simp [h7],?_,by show i+1<=l.length; omega⟩ (by show l.length - (j+1)<l.length - j; omega);show (L.set i l[j]).drop (j+1)=l.drop (j+1);rw [List.drop_set_of_lt (by omega),<- List.drop_drop,h5,ylv]
  ·have hjl:j=l.length:=by omega
   subst hjl;rw [ykn] at h4;have hil:i=(l.filter fun x => !p x).length:=by rw [<- h4]; simp; omega
   generalize (l.filter fun x => !p x)=D at *
   subst hil;have ht:(avs L).take D.length=avs D:=by rw [zyc,h4]
   have hm1:min D.length l.length=D.length:=ylw h6;have hm2:D.length+(l.length - D.length)=l.length:=by omega
   simp [go_sem,h1,h6,hm1,hm2,h4];have hdl:L.drop l.length=[]:=by rw [<- h1]; simp
   rw [hdl,ych,yn3];rfl
end Go.Ab
namespace Go.Ab
open Enc (enc)
@[go_sem] theorem ydc {P:Program} {N:Nat} {Q:Exit->St->Prop} {α : Type} [Enc α] (o:List α) (x:AV) (f:AV->Outc) (d:Option Nat) (dd:List (List Nat)) (ks:List Kt):vmO P N Q (.el (avs o++[x]) o.length f) d dd ks=vmO P N Q (f x) d dd ks:=by
 have:(avs o++[x])[o.length]?=some x:=by rw [ymf (by simp [go_sem])]; simp [go_sem]
 simp only [vmO,runO,this];exact propext ⟨fun ⟨e,h,k⟩=>by cases h; exact k,fun k=>⟨_,rfl,k⟩⟩
@[go_sem] theorem ygo {α : Type} [Enc α] (o:List α) (x y:AV):(avs o++[x]).set o.length y=avs o++[y]:=by rw [yo8 _ _ (by simp [go_sem])]; simp [go_sem]
theorem z5m {α : Type} [Enc α] (l:List α) (r:List α):((ens (l++r)).map AV.p).take l.length=avs l:=by simp [avs,ens]
theorem zto {st:St} {f:FuncId} {e:Nat} {vs:List AV} {args:List PV} {sz:Nat} {es:List PV} {K:PCall->AV->St->Prop} (hs:Sp P f args (.fresh sz es)) (hv:vs.mapM (toPV st FUEL)=some args)
  (h:es.all (fun v=>v.sz == sz)=true/\0<sz/\es.length<=LIM) (h0:vs.flatMap (deps st FUEL)=[])
  (k:K ⟨f,args,.fresh sz es,none⟩ (.own e (st.site e).length 0 es.length) (st.alloc e ⟨sz,es.map .p⟩)):zlg P st e f vs K :=
 zct hs hv h st (by rw [h0]; simp [killAll]) k
theorem zzx {st:St} {f:FuncId} {e:Nat} {vs:List AV} {args:List PV} {i sz:Nat} {es':List PV} {r:PV} {K:PCall->AV->St->Prop} (hs:SpM P f args i sz es' (.pure r)) (hv:vs.mapM (toPV st FUEL)=some args)
  {s g len:Nat} {sl:Bool} (href:zky vs[i]?=some (s,g,len,sl)) {o:AObj} (ho:st.obj s g=some o) (hi:i<vs.length) (hl:len=o.es.length) (hl2:es'.length=len) (hsz:o.sz=sz) (hall:es'.all (fun v=>v.sz == sz)=true) (hone:(es'.flatMap PV.cells).all PV.one=true)
  (h0:(vs.eraseIdx i).flatMap (deps st FUEL)++o.es.flatMap (deps st 5)=[])
  (k:K ⟨f,args,.pure r,some (i,sz,es')⟩ (.p r) (st.setObj s g ⟨sz,es'.map .p⟩)):zlg P st e f vs K:=by
 refine zf6 hs hv href ho hi hl hl2 hsz hall hone (by rw [h0]; rfl) ?_;rw [h0];simpa [killAll] using k
structure GAuto.ok (a:GAuto):Prop where
 ring:a.ring.ok=true
 sy1:1<=a.sy
 sy2:a.sy<=32
 st1:0<=a.st
 st2:a.st<=64
 il:(a.ini.length:Int)=a.st
 fl:(a.fin.length:Int)=a.st
 al:a.arcs.length<=2048
 arcs:∀ x∈a.arcs,inA x a
 ini:∀ w∈a.ini,w.chk a.ring
 fin:∀ w∈a.fin,w.chk a.ring
theorem yca {r:GRing} {l:List GW} (h:∀ w∈l,w.chk r):(l.map fun w=>r.plus w r.zero)=l:=by have:(l.map fun w=>r.plus w r.zero)=l.map id:=yl9 fun w hw=>zc3 (h w hw);rw [this,List.map_id]
theorem yaz {r:GRing} (h:r.ok=true):r.parts.length<=3:=by
 by_cases h6:r.kind=6
 ·exact (GRing.ok_parts h h6).2.1
 ·simp [(GRing.ok_kind h h6).2.2]
theorem zx4 (r:GRing) (l:List GW) (n:Nat) (hn:n<=90) (hn1:3<=n) (hr:r.ok=true) (hl:l.length<=64) (h:∀ w∈l,w.sm n) (c:∀ w∈l,w.chk r):Sp P F.fx [enc r,.sl (ens l)] (.pure (.sl (ens l))):=by
 have k:=z8b r l n (by omega) (by omega) (by omega) (fun w hw=>⟨h w hw,c w hw⟩) (zz5 hr hn1) (zbq hr)
 rwa [yca c] at k
theorem zo0 (x y:GTArc):Sp P F.dw [enc x,enc y] (.pure (.int .i64 (lexI x.key y.key))):=by rw [<- zpi x.key y.key rfl,show List.zipWith cmpI x.key y.key=[cmpI x.f y.f,cmpI x.i y.i,cmpI x.o y.o,cmpI x.t y.t] from rfl];refine Sp.vz c.dw fun _=>?_;simp [g.dw,go_sem];refine zaa (zim x.f y.f) rfl ?_;simp [go_sem];refine zaa (zim x.i y.i) rfl ?_;simp [go_sem];refine zaa (zim x.o y.o) rfl ?_;simp [go_sem];refine zaa (zim x.t y.t) rfl ?_;simp [go_sem];refine zab (z8e [cmpI x.f y.f,cmpI x.i y.i,cmpI x.o y.o,cmpI x.t y.t] (by simp)) ?_;simp [go_sem]
theorem zpt (r:GRing) (w:GW) (hw:w.sm 1048576):Sp P F.g9 [enc w,.ref (enc r)] (.pure (.bool (!decide (w.chk r)))):=by refine Sp.of_vmW c.g9 (by simp) (Weak.openRef (t:=1) (v:=enc r) (n:=2) (by simp [go_sem]) (by simp [go_sem])) ?_;simp [g.g9,go_sem];refine zab (znv r w hw) ?_;simp [go_sem]
theorem zlz (r:GRing) (l:List GW) (m:Int) (hl:∀ w∈l,w.sm 1048576) (hlen:l.length<=2147483648):Sp P F.jz [enc r,.sl (ens l),.int .i64 m] (.pure (.bool (decide ((l.length:Int)=m/\∀ w∈l,w.chk r)))):=by
 refine Sp.vz c.jz fun _=>?_;have e:decide ((l.length:Int)=m/\∀ w∈l,w.chk r)=(decide ((l.length:Int)=m) && !l.any fun w => !decide (w.chk r)):=by rw [Bool.eq_iff_iff]; simp
 rw [e];simp [g.jz,go_sem];refine ⟨fun h=>?_,fun h=>by simp [h]⟩;refine zaa (zoa l F.g9 [.ref (enc r)] (fun w => !decide (w.chk r)) (by omega) fun w hw=>zpt r w (hl w hw)) (by simp [go_sem,ziz,zpx]) ?_;simp [go_sem,h]
theorem zl8 (m:Int):Sp P F.jy [.int .i64 m] (.pure (.bool (decide (1<=m/\m<=32)))):=by refine Sp.vz c.jy fun _=>?_;simp [g.jy,go_sem];exact ⟨fun h _=>h,fun h h'=>by omega⟩
theorem zyq (x:GTArc) (r:GRing) (hw:x.w.sm 1048576):Sp P F.gv [enc x,.ref (enc r)] (.pure (.bool (decide (x.w=r.zero)))):=by refine Sp.of_vmW c.gv (by simp) (Weak.openRef (t:=1) (v:=enc r) (n:=2) (by simp [go_sem]) (by simp [go_sem])) ?_;simp [g.gv,go_sem];refine zab (zpe r x.w hw) ?_;simp [go_sem]
def upT (r:GRing) (z y:GTArc):GTArc:=⟨z.f,z.i,z.o,z.t,r.plus z.w y.w⟩
noncomputable def tidT (r:GRing) (l:List GTArc):List GTArc:=(mrg GTArc.key (upT r) id (srt GTArc.key l)).filter fun x => !decide (x.w=r.zero)
theorem z0j {r:GRing} {n:Nat} (hn1:1<=n) {l:List GTArc} (h:∀ x∈l,x.w.sm n/\x.w.chk r) (k:Nat) (hk:k<=l.length) :
  (mrg GTArc.key (upT r) id (l.take k)).length<=k/\∀ x∈mrg GTArc.key (upT r) id (l.take k),x.w.sm ((k+1)*(n+1))/\x.w.chk r:=by
 refine zqn (up:=upT r) (nw:=id) (Q:=fun k x=>x.w.sm ((k+1)*(n+1))/\x.w.chk r) (fun k x hx=>⟨hx.1.mono (ykd _ (by omega)),hx.2⟩) (fun x hx=>⟨(h x hx).1.mono (by omega),(h x hx).2⟩) (fun k z x hx hz=>⟨?_,(zch hz.2 (h x hx).2:(r.plus z.w x.w).chk r)⟩) (fun k x hx=>⟨hx.1.mono (ykd _ (by omega)),hx.2⟩) k hk;have:=z1p hz.1 (h x hx).1 hz.2 (h x hx).2 (yka hn1 (by rw [ykp]; omega)) hn1;have e:(k+1)*(n+1)+n+1=(k+1+1)*(n+1):=by rw [ykp (k+1) 1]; omega
 rw [<- e]; exact this
theorem z5l (r:GRing) (l:List GTArc) (n:Nat) (hn:n<=90) (hn1:3<=n) (hl:l.length<=19) (h:∀ x∈l,x.w.sm n/\x.w.chk r) :
  Sp P F.jx [enc r,.sl (ens l)] (.pure (.sl (ens (tidT r l)))):=by
 have hs:=zc1 (key:=GTArc.key) l;have h':∀ x∈srt GTArc.key l,x.w.sm n/\x.w.chk r:=fun x hx=>h x ((hs.2.2 x).1 hx);have inv:=z0j (by omega) h';unfold tidT;generalize hS:srt GTArc.key l=S at *
 have hSl:S.length=l.length:=hs.2.1;have hone:∀ x:GTArc,(enc x).cells.all PV.one=true:=fun x=>by simp [go_sem,PV.cells]
 refine Sp.vz c.jx fun _=>?_;simp [g.jx,go_sem];refine zto (zoe l (by omega)) (by simp [go_sem]) ⟨zed _ _ rfl,by decide,by simp [ens,LIM]; omega⟩ (by simp [go_sem]) ?_;simp [go_sem];refine zzx (zn1 rfl hone GTArc.key F.dw l hl fun x hx y hy=>⟨_,zo0 x y,zu7 rfl⟩) (by simp [go_sem]) rfl rfl (by simp) (by simp [go_sem]) (by simp [go_sem,hS,hSl]) rfl (zed _ _ rfl) (cells_one hone _) (by simp [go_sem]) ?_;simp [go_sem];rw [hS];have hone':3<=n+1:=by omega
 refine zai (S:=fun k:Nat=>mkSt [(2,.ptr 2 0 0 0),(6,.own 1 0 0 (mrg GTArc.key (upT r) id (S.take k)).length),(14,.own 3 0 0 S.length),(15,.p (.int .i64 S.length)),(16,.p (.int .i64 k))] [(2,⟨2,[.p (enc r)]⟩),(1,⟨12,avs (mrg GTArc.key (upT r) id (S.take k))⟩),(3,⟨12,avs S⟩)]) (I:=fun k=>k<=S.length) (m:=fun k=>S.length - k) 0
  (Weak.nl 6 77 12 rfl (Weak.to [2,6,14,15,16] [((2,0),2),((77,0),1),((11,0),3)] (by simp [go_sem,hSl,mrg]))) (by omega) ?_
 rintro k h1 R hn' hr hx;have e3:=i64s k (by omega);obtain ⟨iv1,iv2⟩:=inv k h1;generalize hO:mrg GTArc.key (upT r) id (S.take k)=O at *
 by_cases hk:k<S.length;rotate_left
 ·have:k=S.length:=by omega
  subst this;rw [yki (yk6 _)] at hO;rw [hO] at hx hr;have hb:(O.length+1)*(n+1)<=1048576:=by have:=ykw (show O.length+1<=20 by omega) (show n+1<=91 by omega);omega
  have hb2:(S.length+1)*(n+1)<=1048576:=by have:=ykw (show S.length+1<=20 by omega) (show n+1<=91 by omega);omega
  simp [g.n8,mkSt,go_sem];refine hx _ _ ?_;simp [go_sem];refine zzw (zre F.gv [.ref (enc r)] (fun x=>decide (x.w=r.zero)) O (by omega) fun x hx=>zyq x r ((iv2 x hx).1.mono hb2)) (by simp [go_sem,ziz,zpx]) rfl rfl (by simp) (by simp [go_sem]) (by simp [go_sem]; have:=ylz (fun x:GTArc => !decide (x.w=r.zero)) O; omega) rfl (zed _ _ rfl) (cells_one hone _) (by simp [go_sem]) (ylz _ _) ?_;generalize hF:O.filter (fun x => !decide (x.w=r.zero))=F0 at *
  have hFl:F0.length<=O.length:=by rw [<- hF]; exact ylz _ _
  have hA1:=z5m F0 (List.replicate (O.length - F0.length) (⟨0,0,0,0,gw0'⟩:GTArc));have hA2:F0.length<=(ens (F0++List.replicate (O.length - F0.length) (⟨0,0,0,0,gw0'⟩:GTArc))).length:=by simp [ens]
  generalize ens (F0++List.replicate (O.length - F0.length) (⟨0,0,0,0,gw0'⟩:GTArc))=A0 at *
  cases hfl:A0.all PV.flat
  ·simp [go_sem,killAll];rw [hA1]; simp [go_sem,hA2]
  ·simp [go_sem,killAll];rw [hA1]; simp [go_sem,hA2]
 have hw:=h' _ (yk2 hk);have hnx:=zjg (key:=GTArc.key) (up:=upT r) (nw:=id) hk;rw [hO] at hnx;have cz:=zbq hw.2.1;have sz:=zz5 (n:=n) hw.2.1 hn1;have pz:=zc3 hw.2;rcases ype O with rfl|⟨o,z,rfl⟩
 ·simp [g.n8,mkSt,go_sem,hk];refine zae hk ?_;refine zaa (zf7 r) rfl ?_;simp [go_sem];refine zab (zlo r S[k].w r.zero n hw.1 sz (by omega) (by omega) hw.2 cz) ?_;rw [pz];simp [go_sem,e3];refine hn' (k+1) _ (Weak.to [2,6,14,15,16] [((2,0),2),((59,0),1),((3,0),3)] ?_) (by omega) (by omega);rw [hnx];simp [mkSt,go_sem,mst]
 ·have e4:IntKind.i64.wrap (o.length:Int)=(o.length:Int):=i64w (by omega) (by simp at iv1; omega);simp [g.n8,mkSt,go_sem,hk,e4];refine zae hk ?_;refine zaa (zf7 r) rfl ?_;simp [go_sem];refine zab (zlo r S[k].w r.zero n hw.1 sz (by omega) (by omega) hw.2 cz) ?_;rw [pz];simp [go_sem,e4];refine zab (zo0 z S[k]) ?_;simp [go_sem,e4];have hz:=iv2 z (by simp);have hb2:(k+1)*(n+1)<=2000:=by have:=ykw (show k+1<=20 by omega) (show n+1<=91 by omega);omega
  have hb3:n<=(k+1)*(n+1):=by rw [ykp]; omega
  have hle:lexI z.key S[k].key=0 ↔ z.key=S[k].key:=zu8 (by simp [GTArc.key]);refine ⟨fun h0=>?_,fun h0=>?_⟩
  ·rw [ypf,zu5 (key:=GTArc.key) (z:=z) (y:=S[k]) (hle.1 h0)] at hnx;refine zab (zlo r z.w S[k].w _ hz.1 (hw.1.mono hb3) hb2 (by omega) hz.2 hw.2) ?_;simp [go_sem,e3,e4];refine hn' (k+1) _ (Weak.to [2,6,14,15,16] [((2,0),2),((1,0),1),((3,0),3)] ?_) (by omega) (by omega);rw [hnx];simp [mkSt,go_sem,upT]
  ·rw [ypf,zqk (key:=GTArc.key) (z:=z) (y:=S[k]) (fun h=>h0 (hle.2 h))] at hnx;simp [go_sem,e3];refine ⟨by simp at iv1; omega,hn' (k+1) _ (Weak.to [2,6,14,15,16] [((2,0),2),((59,0),1),((3,0),3)] ?_) (by omega) (by omega)⟩;rw [hnx];simp [mkSt,go_sem,upT]
def inT (x:GTArc) (t:GTrans):Prop:=0<=x.f/\x.f<t.st/\0<=x.t/\x.t<t.st/\0<=x.i/\x.i<=t.i/\0<=x.o/\x.o<=t.o/\x.w.chk t.ring
structure GTrans.ok (t:GTrans):Prop where
 ring:t.ring.ok=true
 i1:1<=t.i/\t.i<=32
 o1:1<=t.o/\t.o<=32
 st1:0<=t.st
 st2:t.st<=64
 il:(t.ini.length:Int)=t.st
 fl:(t.fin.length:Int)=t.st
 al:t.arcs.length<=2048
 arcs:∀ x∈t.arcs,inT x t
 ini:∀ w∈t.ini,w.chk t.ring
 fin:∀ w∈t.fin,w.chk t.ring
noncomputable instance (x:GTArc) (a:GTrans):Decidable (inT x a):=Classical.propDecidable _
noncomputable instance (a:GTrans):Decidable a.ok:=Classical.propDecidable _
structure GTrans.sm (a:GTrans) (n:Nat):Prop where
 ini:∀ w∈a.ini,w.sm n
 fin:∀ w∈a.fin,w.sm n
 arcs:∀ x∈a.arcs,x.w.sm n
theorem GTrans.sm.mono {a:GTrans} {m n:Nat} (h:a.sm m) (k:m<=n):a.sm n:=⟨fun w hw=>(h.ini w hw).mono k,fun w hw=>(h.fin w hw).mono k,fun x hx=>(h.arcs x hx).mono k⟩
theorem zrv (t:GTrans) (h:t.sm 1048576) (li:t.ini.length<=1000000) (lf:t.fin.length<=1000000):Sp P F.fq [enc t] (.pure (.bool (decide t.ok))):=by
 refine Sp.vz c.fq fun _=>?_;simp [g.fq,go_sem];refine zaa (zeu t.ring) rfl ?_;cases hr:t.ring.ok
 ·simp [go_sem]; intro ok; rw [ok.ring] at hr; cases hr
 simp [go_sem];refine zaa (zl8 t.i) rfl ?_;by_cases h1:1<=t.i/\t.i<=32;rotate_left
 ·simp [go_sem,h1]; intro ok; exact h1 ok.i1
 simp [go_sem,h1];refine zaa (zl8 t.o) rfl ?_;by_cases h2:1<=t.o/\t.o<=32;rotate_left
 ·simp [go_sem,h2]; intro ok; exact h2 ok.o1
 simp [go_sem,h2];refine ⟨fun h3 ok=>by have:=ok.st1; omega,fun h3=>⟨fun h4 ok=>by have:=ok.st2; omega,fun h4=>⟨fun h5 ok=>by have:=ok.al; omega,fun h5=>?_⟩⟩⟩
 refine zai (S:=fun k:Nat=>mkSt [(1,.ptr 1 0 0 0),(38,.p (.sl (ens t.arcs))),(39,.p (.int .i64 t.arcs.length)),(40,.p (.int .i64 k))] [(1,⟨8,[.p (enc t)]⟩)]) (I:=fun k=>k<=t.arcs.length/\∀ i,(hi:i<t.arcs.length)->i<k->inT t.arcs[i] t) (m:=fun k=>t.arcs.length - k) 0
  (Weak.to [1,38,39,40] [((1,0),1)] (by simp [go_sem])) ⟨by omega,fun i _ h0=>by omega⟩ ?_
 rintro k ⟨h6,h7⟩ R hn hr' hx;have e1:=i64s k (by omega);simp [g.qc,mkSt,go_sem];refine ⟨fun hk=>?_,fun hk=>hx _ _ ?_⟩
 ·refine zae hk ?_;have hret:¬ inT t.arcs[k] t->¬ t.ok:=fun h ok=>h (ok.arcs _ (yk2 hk));have hsw:t.arcs[k].w.sm 1048576:=h.arcs _ (yk2 hk);have hnext:inT t.arcs[k] t->∀ i,(hi:i<t.arcs.length)->i<k+1->inT t.arcs[i] t:=fun hx i hi h0=>by
   by_cases hik:i<k
   ·exact h7 i hi hik
   ·have:i=k:=by omega
    subst this; exact hx
  generalize t.arcs[k]=x at *
  refine ⟨fun h8=>hr' _ ?_,fun h8=>⟨fun h9=>hr' _ ?_,fun h9=>⟨fun h10=>hr' _ ?_,fun h10=>⟨fun h11=>hr' _ ?_,fun h11=>?_⟩⟩⟩⟩
  ·simp [go_sem];refine hret fun hT=>?_;obtain ⟨a1,a2,a3,a4,a5,a6,a7,a8,a9⟩:=hT;revert h8; (repeat' split)<;>omega
  ·simp [go_sem];refine hret fun hT=>?_;obtain ⟨a1,a2,a3,a4,a5,a6,a7,a8,a9⟩:=hT;revert h9; (repeat' split)<;>omega
  ·simp [go_sem];exact hret fun hT=>by have:=hT.2.2.2.2.2.1; omega
  ·simp [go_sem];exact hret fun hT=>by have:=hT.2.2.2.2.2.2.2.1; omega
  have h12:0<=x.f/\0<=x.t/\0<=x.i/\0<=x.o:=by revert h8; (repeat' split)<;>intro h8<;>omega
  have h13:x.f<t.st/\x.t<t.st:=by revert h9; (repeat' split)<;>intro h9<;>omega
  refine zab (znv t.ring x.w hsw) ?_;by_cases hc:x.w.chk t.ring;rotate_left
  ·simp [go_sem,hc];refine hr' _ ?_;simp [go_sem];exact hret fun hT=>hc hT.2.2.2.2.2.2.2.2
  simp [go_sem,hc,e1];exact hn (k+1) _ (Weak.to [1,38,39,40] [((1,0),1)] (by simp [mkSt,go_sem])) ⟨by omega,hnext ⟨h12.1,h13.1,h12.2.1,h13.2,h12.2.2.1,h10,h12.2.2.2,h11,hc⟩⟩ (by omega)
 ·simp [go_sem];have hall:∀ x∈t.arcs,inT x t:=fun x hx=>by obtain ⟨i,hi,rfl⟩:=ylq.1 hx;exact h7 i hi (by omega)
  refine zab (zlz t.ring t.ini t.st h.ini (by omega)) ?_;by_cases h8:(t.ini.length:Int)=t.st/\∀ w∈t.ini,w.chk t.ring;rotate_left
  ·rw [decide_eq_false h8]; simp [go_sem];intro ok; exact h8 ⟨ok.il,ok.ini⟩
  rw [decide_eq_true h8]; simp [go_sem];refine zab (zlz t.ring t.fin t.st h.fin (by omega)) ?_;by_cases h9:(t.fin.length:Int)=t.st/\∀ w∈t.fin,w.chk t.ring;rotate_left
  ·have:¬ t.ok:=fun ok=>h9 ⟨ok.fl,ok.fin⟩;rw [decide_eq_false h9,decide_eq_false this]; simp [go_sem]
  have ok:t.ok:=⟨hr,h1,h2,h3,h4,h8.1,h9.1,by omega,hall,h8.2,h9.2⟩;rw [decide_eq_true h9,decide_eq_true ok]; simp [go_sem]
def zkk:GTrans:=⟨⟨0,[]⟩,0,0,0,[],[],[]⟩
noncomputable def GTrans.nf (a:GTrans):GTrans:=⟨a.ring,a.i,a.o,a.st,a.ini,a.fin,tidT a.ring a.arcs⟩
theorem zfw (a:GTrans) (n:Nat) (hn:n<=90) (hn1:3<=n) (h:a.sm n) (hl:a.arcs.length<=19) (li:a.ini.length<=1000000) (lf:a.fin.length<=1000000) :
  Sp P F.fm [enc a] (.pure (.tup [enc (if a.ok then a.nf else zkk),.int .i64 (if a.ok then 0 else 4)])):=by
 refine Sp.vz c.fm fun _=>?_;simp [g.fm,go_sem];refine zab (zrv a (h.mono (by omega)) li lf) ?_;by_cases ok:a.ok;rotate_left
 ·rw [decide_eq_false ok,yj8 ok,yj8 ok]; simp [go_sem,zkk]
 rw [decide_eq_true ok,yj9 ok,yj9 ok];have i1:=ok.il; have i2:=ok.fl; have i3:=ok.st2
 simp [go_sem];refine zab (zzs a.ring.parts (by have:=yaz ok.ring; omega)) ?_;simp [go_sem];refine zab (zx4 a.ring a.ini n hn hn1 ok.ring (by omega) h.ini ok.ini) ?_;simp [go_sem];refine zab (zx4 a.ring a.fin n hn hn1 ok.ring (by omega) h.fin ok.fin) ?_;simp [go_sem];refine zab (z5l a.ring a.arcs n hn hn1 hl fun x hx=>⟨h.arcs x hx,(ok.arcs x hx).2.2.2.2.2.2.2.2⟩) ?_;simp [go_sem,GTrans.nf]
def swT (x:GTArc):GTArc:=⟨x.f,x.o,x.i,x.t,x.w⟩
def GTrans.inv (t:GTrans):GTrans:=⟨t.ring,t.o,t.i,t.st,t.ini,t.fin,t.arcs.map swT⟩
end Go.Ab
