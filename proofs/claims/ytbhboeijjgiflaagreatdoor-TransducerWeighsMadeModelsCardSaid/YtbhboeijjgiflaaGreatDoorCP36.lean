/-
Proofs for the law TransducerWeighsMadeModels, part 36. Conditions: none.
-/
import Derived.Test.YtbhboeijjgiflaaGreatDoorCP35
import Derived.Test.YtbhboeijjgiflaaGreatDoorCP27
import Derived.Test.YtbhboeijjgiflaaGreatDoorCP28
import Derived.Test.YtbhboeijjgiflaaGreatDoorCP23
import Derived.Test.YtbhboeijjgiflaaGreatDoorCP12
set_option maxRecDepth 100000
set_option maxHeartbeats 4000000
set_option linter.all false
namespace Go.Ab
open Enc (enc)
theorem yay{v w:GW}(h1:v.q=w.q)(h2:v.cost=w.cost)(h3:v.inf=w.inf)(h4:v.set=w.set)(h5:v.poly=w.poly)(h6:v.parts=w.parts):v=w:=by cases v;cases w;simp only[GW.q_mk,GW.cost_mk,GW.inf_mk,GW.set_mk,GW.poly_mk,GW.parts_mk]at h1 h2 h3 h4 h5 h6;subst h1 h2 h3 h4 h5 h6;rfl
theorem yjp{x y:GRat}(hx:x.valid=true)(hy:y.valid=true)(h:x.v=y.v):x=y:=by rw[<- zg7 hx,<- zg7 hy,h]
def trop(w:GW):Int:=if w.inf then 1099511627777 else w.cost
theorem zh6{v w:GW}(hv:v.si 2)(hw:w.si 2)(h:trop v=trop w):v=w:=by
 obtain⟨h1,h2,h3,h4,h5,h6,h7⟩:=si2.1 hv;obtain⟨k1,k2,k3,k4,k5,k6,k7⟩:=si2.1 hw;unfold trop at h;refine yay (h2.trans k2.symm) ?_ ?_ (h3.trans k3.symm) (h4.trans k4.symm) (h1.trans k1.symm)
 ·cases hi:v.inf<;>cases hj:w.inf<;>simp[hi,hj]at h<;>try omega
  rw[h7 hi,k7 hj]
 ·cases hi:v.inf<;>cases hj:w.inf<;>simp[hi,hj]at h<;>first|rfl|omega
theorem zd0{v w:GW}(hv:v.si 2)(hw:w.si 2):trop (zaq 2 v w)=if trop w<trop v then trop w else trop v:=by obtain⟨h1,h2,h3,h4,h5,h6,h7⟩:=si2.1 hv;obtain⟨k1,k2,k3,k4,k5,k6,k7⟩:=si2.1 hw;unfold zaq;rw[yl1 (by omega),yl0 rfl];unfold trop;cases hi:v.inf<;>cases hj:w.inf<;>simp[hi,hj]<;>(try split)<;>simp_all<;>omega
theorem zs9{a b c:Rat}(h:a<b)(k:b<c):a<c:=Rat.not_le.1 fun e=>ynw.2 (Rat.le_trans (Rat.le_of_lt k) e) h
theorem z2s{a b c:Rat}(h:a<=b)(k:b<c):a<c:=Rat.not_le.1 fun e=>Rat.not_le.2 k (Rat.le_trans e h)
theorem zti(x y:GW):zaq 3 x y=if x.q.v<y.q.v then y else x:=by simp[zaq]
theorem zpp{k:Int}(hk:1<=k/\k<=5){v w:GW}(hv:v.si k)(hw:w.si k):zaq k v w=zaq k w v:=by
 have:k=1\/k=2\/k=3\/k=4\/k=5:=by omega
 rcases this with rfl|rfl|rfl|rfl|rfl
 ·simp only[zaq,yl2,ynm]
 ·refine zh6 (zcb hk hv hw) (zcb hk hw hv) ?_;rw[zd0 hv hw,zd0 hw hv];split<;>split<;>omega
 ·obtain⟨h1,h2,h3,h4,h5,h6,h7,h8⟩:=si3.1 hv;obtain⟨k1,k2,k3,k4,k5,k6,k7,k8⟩:=si3.1 hw;rw[zti,zti];by_cases a:v.q.v<w.q.v
  ·rw[yl0 a,yl1 (ynw.2 (Rat.le_of_lt a))]
  ·by_cases b:w.q.v<v.q.v
   ·rw[yl1 a,yl0 b]
   ·rw[yl1 a,yl1 b];have e:v.q.v=w.q.v:=Rat.le_antisymm (ynw.1 b) (ynw.1 a);exact yay (yjp h6 k6 e) (h3.trans k3.symm) (h2.trans k2.symm) (h4.trans k4.symm) (h5.trans k5.symm) (h1.trans k1.symm)
 ·simp[zaq,UInt64.or_comm]
 ·have pv:=si_p hv;have pw:=si_p hw;have e:padd v.poly w.poly=padd w.poly v.poly:=zh9 (zcc _ pv) (zcc _ pw) fun e=>by rw[zfr _ (zak.1 pw).1,zfr _ (zak.1 pv).1,ynm]
  simp[zaq,e]
theorem zm8{k:Int}(hk:1<=k/\k<=5){u v w:GW}(hu:u.si k)(hv:v.si k)(hw:w.si k):zaq k (zaq k u v) w=zaq k u (zaq k v w):=by
 have:k=1\/k=2\/k=3\/k=4\/k=5:=by omega
 rcases this with rfl|rfl|rfl|rfl|rfl
 ·simp only[zaq,yl2,GW.q_mk,zbf,ymo]
 ·refine zh6 (zcb hk (zcb hk hu hv) hw) (zcb hk hu (zcb hk hv hw)) ?_;rw[zd0 (zcb hk hu hv) hw,zd0 hu hv,zd0 hu (zcb hk hv hw),zd0 hv hw]
  repeat' split
  all_goals omega
 ·have s:=zti;rw[s u v,s v w];by_cases a:u.q.v<v.q.v
  ·rw[yl0 a];by_cases b:v.q.v<w.q.v
   ·rw[yl0 b,s v w,s u w,yl0 b,yl0 (zs9 a b)]
   ·rw[yl1 b,s v w,s u v,yl1 b,yl0 a]
  ·rw[yl1 a];by_cases b:v.q.v<w.q.v
   ·rw[yl0 b]
   ·rw[yl1 b,s u w,s u v,yl1 a,yl1];intro c;exact b (z2s (ynw.1 a) c)
 ·simp[zaq,GW.set_mk,UInt64.or_assoc]
 ·have pu:=si_p hu;have pv:=si_p hv;have pw:=si_p hw;have e:padd (padd u.poly v.poly) w.poly=padd u.poly (padd v.poly w.poly):=zh9 (zcc _ (zcc _ pu)) (zcc _ pu) fun e=>by rw[zfr _ (zak.1 pw).1,zfr _ (zak.1 pv).1,zfr _ (zak.1 (zcc _ pv)).1,zfr _ (zak.1 pw).1,ymo]
  simp[zaq,GW.poly_mk,e]
theorem zz4:∀ {ks:List Int} {vs ws:List GW},(∀ k∈ks,1<=k/\k<=5)->vs.length=ks.length->ws.length=ks.length->(∀ i,(h:i<ks.length)->(h':i<vs.length)->vs[i].si ks[i])->(∀ i,(h:i<ks.length)->(h':i<ws.length)->ws[i].si ks[i])->zec ks vs ws=zec ks ws vs:=by
 intro ks vs ws hk lv lw hv hw;refine yof (by rw[zbe lv lw,zbe lw lv]) fun i h1 h2=>?_;have h3:i<ks.length:=by rw[zbe lv lw]at h1;exact h1
 rw[zbp h3 (by omega) (by omega) h1,zbp h3 (by omega) (by omega) h2];exact zpp (hk _ (yl4 h3)) (hv i h3 (by omega)) (hw i h3 (by omega))
theorem zhn{r:GRing}{v w:GW}(cv:v.chk r)(cw:w.chk r):r.plus v w=r.plus w v:=by
 by_cases h6:r.kind=6
 ·have hp:=GRing.ok_parts cv.1 h6;obtain⟨lv,_,sv⟩:=cv.2.2 h6;obtain⟨lw,_,sw⟩:=cw.2.2 h6;simp only[GRing.plus,yl0 h6,zz4 hp.2.2 lv lw sv sw]
 ·have hk:=GRing.ok_kind cv.1 h6;simp only[GRing.plus,yl1 h6];exact zpp ⟨hk.1,hk.2.1⟩ (cv.2.1 h6) (cw.2.1 h6)
theorem zdr{r:GRing}{u v w:GW}(cu:u.chk r)(cv:v.chk r)(cw:w.chk r):r.plus (r.plus u v) w=r.plus u (r.plus v w):=by
 by_cases h6:r.kind=6
 ·have hp:=GRing.ok_parts cv.1 h6;obtain⟨lu,_,su⟩:=cu.2.2 h6;obtain⟨lv,_,sv⟩:=cv.2.2 h6;obtain⟨lw,_,sw⟩:=cw.2.2 h6;simp only[GRing.plus,yl0 h6,GW.parts_mk]
  congr 1
  have luv:=zbe lu lv;have lvw:=zbe lv lw;refine yof (by rw[zbe luv lw,zbe lu lvw]) fun i h1 h2=>?_;have h3:i<r.parts.length:=by rw[zbe luv lw]at h1;exact h1
  rw[zbp h3 (by omega) (by omega) h1,zbp h3 (by omega) (by omega) h2,zbp h3 (by omega) (by omega) (by omega),zbp h3 (by omega) (by omega) (by omega)];exact zm8 (hp.2.2 _ (yl4 h3)) (su i h3 (by omega)) (sv i h3 (by omega)) (sw i h3 (by omega))
 ·have hk:=GRing.ok_kind cv.1 h6;simp only[GRing.plus,yl1 h6];exact zm8 ⟨hk.1,hk.2.1⟩ (cu.2.1 h6) (cv.2.1 h6) (cw.2.1 h6)
section
variable {α : Type} {key : α -> List Int}
def zhe(key : α -> List Int)(l:List α)(i:Nat):List α := srt key (l.take i)++l.drop i
theorem z82(s:List α)(x : α):(insR key s x).length=s.length+1:=by
 induction s with
 | nil=>rfl
 | cons z r ih=>simp only[insR];split<;>simp[ih]
theorem z81{s:List α}{x y : α}:y∈insR key s x ↔ y=x\/y∈s:=by
 induction s with
 | nil=>simp[insR]
 | cons z r ih =>
  simp only[insR];split
  ·simp
  ·simp only[yl7,ih];exact⟨fun h=>by rcases h with h|h|h<;>simp[h],fun h=>by rcases h with h|h|h<;>simp[h]⟩
theorem zxg(l:List α)(x : α):srt key (l++[x])=insR key (srt key l) x:=by simp[srt,ymp]
theorem zc3(l:List α):Srt key (srt key l)/\(srt key l).length=l.length/\∀ y,y∈srt key l ↔ y∈l:=by
 have:∀ (n:Nat) (l:List α),l.length=n->Srt key (srt key l)/\(srt key l).length=l.length/\∀ y,y∈srt key l ↔ y∈l:=by
  intro n
  induction n with
  | zero=>intro l hl;have:=yp7 hl;subst this;simp[srt,Srt]
  | succ n ih =>
   intro l hl;obtain⟨l',y,rfl⟩:∃ l' y,l=l'++[y]:=⟨l.dropLast,l.getLast (by intro h;simp[h]at hl),(List.dropLast_concat_getLast _).symm⟩;obtain⟨h1,h2,h3⟩:=ih l' (by simpa using hl);rw[zxg];refine⟨znu h1,by rw[z82,h2];simp,fun z=>?_⟩;rw[z81,h3];simp[or_comm]
 exact this _ l rfl
theorem zzy(l:List α):zhe key l 1=l:=by cases l<;>simp[zhe,srt,insR]
theorem z15{l:List α}{i:Nat}(h:l.length<=i):zhe key l i=srt key l:=by unfold zhe;rw[ylv h,yo5 h,yom]
theorem z14{l:List α}{i:Nat}(h:i<l.length):zhe key l i=srt key (l.take i)++l[i]::l.drop (i+1):=by unfold zhe;rw[ynv h]
theorem zmv{l:List α}{i:Nat}(h:i<l.length):zhe key l (i+1)=insR key (srt key (l.take i)) l[i]++l.drop (i+1):=by unfold zhe;rw[yls h,zxg]
theorem zwa{x : α}{B:List α}(hB:∀ b∈B,key x<key b):∀ {A:List α},(∀ a∈A,¬ key x<key a)->insR key (A++B) x=A++x::B
 | [],_=>by
  cases B with
  | nil=>rfl
  | cons b B=>simp[insR,hB b (by simp)]
 | a::A,h=>by have:=zwa hB (A:=A) fun y hy=>h y (by simp[hy]);simp[insR,h a (by simp),this]
theorem z1z(A B:List α)(z x : α)(rest:List α):((A++[z]++x::(B++rest)).set (A.length+1) z).set A.length x=A++x::((z::B)++rest):=by simp[List.set_append,ynt]
end
section
variable {α : Type} {key : α -> List Int} {up : α -> α -> α} {nw : α -> α}
theorem z36:∀ {out:List α} {x y : α},x∈mst key up nw out y->x∈out\/x=nw y\/∃ z∈out,x=up z y
 | [],x,y,h=>by simp[mst]at h;exact .inr (.inl h)
 | [z],x,y,h=>by
  simp only[mst]at h;split at h
  ·simp at h;exact .inr (.inr ⟨z,by simp,h⟩)
  ·simp at h;rcases h with h|h
   ·exact .inl (by simp[h])
   ·exact .inr (.inl h)
 | z::w::r,x,y,h=>by
  rw[zni z y (by simp)]at h;rcases yl7.1 h with h|h
  ·exact .inl (by simp[h])
  ·rcases z36 h with h|h|⟨u,h,e⟩
   ·exact .inl (ym8 _ h)
   ·exact .inr (.inl h)
   ·exact .inr (.inr ⟨u,ym8 _ h,e⟩)
theorem zrw:∀ {out:List α} {x y : α},x∈insF key up nw out y->x∈out\/x=nw y\/∃ z∈out,x=up z y
 | [],x,y,h=>by simp[insF]at h;exact .inr (.inl h)
 | z::r,x,y,h=>by
  simp only[insF]at h;split at h
  ·rcases yl7.1 h with h|h
   ·exact .inl (by simp[h])
   ·rcases zrw h with h|h|⟨u,h,e⟩
    ·exact .inl (ym8 _ h)
    ·exact .inr (.inl h)
    ·exact .inr (.inr ⟨u,ym8 _ h,e⟩)
  ·split at h
   ·rcases yl7.1 h with h|h
    ·exact .inr (.inr ⟨z,by simp,h⟩)
    ·exact .inl (ym8 _ h)
   ·rcases yl7.1 h with h|h
    ·exact .inr (.inl h)
    ·exact .inl h
theorem zpx(out:List α)(y : α):(mst key up nw out y).length<=out.length+1:=by
 match out with
 | []=>simp[mst]
 | [z]=>simp only[mst];split<;>simp
 | z::w::r =>
  rw[zni z y (by simp)];have:=zpx (w::r) y;simp only[yn6]at this ⊢;omega
theorem znv:∀ (out:List α) (y : α),(insF key up nw out y).length<=out.length+1
 | [],y=>by simp[insF]
 | z::r,y=>by
  simp only[insF];have:=znv r y
  (repeat' split)<;>simp only[yn6]<;>omega
theorem zjt{l:List α}{k:Nat}(h:k<l.length):mrg key up nw (l.take (k+1))=mst key up nw (mrg key up nw (l.take k)) l[k]:=by rw[yls h,zya]
theorem zgs{l:List α}{k:Nat}(h:k<l.length):nfm key up nw (l.take (k+1))=insF key up nw (nfm key up nw (l.take k)) l[k]:=by rw[yls h];unfold nfm;rw[ymp];rfl
theorem zrj{Q:Nat -> α -> Prop}(hm:∀ k x,Q k x->Q (k+1) x){l:List α}(hn:∀ x∈l,Q 0 (nw x))(hu:∀ k z,∀ x∈l,Q k z->Q (k+1) (up z x))(h0:∀ k x,Q 0 x->Q k x) :
  ∀ k,k<=l.length->(mrg key up nw (l.take k)).length<=k/\∀ x∈mrg key up nw (l.take k),Q k x
 | 0,_=>by simp[mrg]
 | k+1,h=>by
  obtain⟨i1,i2⟩:=zrj hm hn hu h0 k (by omega);have hk:k<l.length:=by omega
  rw[zjt hk];refine⟨ylq (zpx _ _) (by omega),fun x hx=>?_⟩;rcases z36 hx with h|h|⟨z,h,e⟩
  ·exact hm _ _ (i2 x h)
  ·rw[h];exact h0 _ _ (hn _ (yl4 hk))
  ·rw[e];exact hu _ _ _ (yl4 hk) (i2 z h)
theorem z34{Q:Nat -> α -> Prop}(hm:∀ k x,Q k x->Q (k+1) x){l:List α}(hn:∀ x∈l,Q 0 (nw x))(hu:∀ k z,∀ x∈l,Q k z->Q (k+1) (up z x))(h0:∀ k x,Q 0 x->Q k x) :
  ∀ k,k<=l.length->(nfm key up nw (l.take k)).length<=k/\∀ x∈nfm key up nw (l.take k),Q k x
 | 0,_=>by simp[nfm]
 | k+1,h=>by
  obtain⟨i1,i2⟩:=z34 hm hn hu h0 k (by omega);have hk:k<l.length:=by omega
  rw[zgs hk];refine⟨ylq (znv _ _) (by omega),fun x hx=>?_⟩;rcases zrw hx with h|h|⟨z,h,e⟩
  ·exact hm _ _ (i2 x h)
  ·rw[h];exact h0 _ _ (hn _ (yl4 hk))
  ·rw[e];exact hu _ _ _ (yl4 hk) (i2 z h)
end
section
variable (r:GRing)
def wsum(ws:List GW):GW:=ws.foldr r.plus r.zero
variable {r} (hr:r.ok=true)
include hr in
theorem zi4:∀ {ws:List GW},(∀ w∈ws,w.chk r)->(wsum r ws).chk r
 | [],_=>zbr hr
 | w::ws,h=>zck (h w (by simp)) (zi4 fun x hx=>h x (by simp[hx]))
include hr in
theorem zmg{v:GW}(hv:v.chk r):r.plus r.zero v=v:=by rw[zhn (zbr hr) hv];exact zc5 hv
include hr in
theorem zmh:∀ {a b:List GW},(∀ w∈a,w.chk r)->(∀ w∈b,w.chk r)->wsum r (a++b)=r.plus (wsum r a) (wsum r b)
 | [],b,_,hb=>(zmg hr (zi4 hr hb)).symm
 | w::a,b,ha,hb=>by show r.plus w (wsum r (a++b))=r.plus (r.plus w (wsum r a)) (wsum r b);rw[zmh (fun x hx=>ha x (by simp[hx])) hb,zdr (ha w (by simp)) (zi4 hr fun x hx=>ha x (by simp[hx])) (zi4 hr hb)]
end
section
variable {α : Type} (key : α -> List Int) (wt : α -> GW) (r:GRing)
def atQ(l:List α)(p:List Int->Bool):GW:=wsum r ((l.filter fun x=>p (key x)).map wt)
variable {key wt r} {up : α -> α -> α} (hr:r.ok=true) (hk:∀ z y,key (up z y)=key z) (hw:∀ z y,wt (up z y)=r.plus (wt z) (wt y))
theorem z6h(p:List Int->Bool):atQ key wt r [] p=r.zero:=rfl
theorem zdi(x : α)(l:List α)(p:List Int->Bool):atQ key wt r (x::l) p=if p (key x)=true then r.plus (wt x) (atQ key wt r l p)else atQ key wt r l p:=by unfold atQ;by_cases h:p (key x)=true<;>simp[h,wsum]
include hr in
theorem zww{l:List α}(h:∀ x∈l,(wt x).chk r)(p:List Int->Bool):(atQ key wt r l p).chk r:=zi4 hr fun w hw=>by obtain⟨x,hx,rfl⟩:=yl6.1 hw;exact h x (ynl.1 hx).1
include hr in
theorem z07{a b:List α}(ha:∀ x∈a,(wt x).chk r)(hb:∀ x∈b,(wt x).chk r)(p:List Int->Bool):atQ key wt r (a++b) p=r.plus (atQ key wt r a p) (atQ key wt r b p):=by unfold atQ;rw[ynn,yn0];exact zmh hr (fun w hw=>by obtain⟨x,hx,rfl⟩:=yl6.1 hw;exact ha x (ynl.1 hx).1) (fun w hw=>by obtain⟨x,hx,rfl⟩:=yl6.1 hw;exact hb x (ynl.1 hx).1)
include hr hk hw in
theorem zzc{x : α}(hx:(wt x).chk r)(p:List Int->Bool):∀ {out:List α},(∀ z∈out,(wt z).chk r)->atQ key wt r (insF key up id out x) p=r.plus (atQ key wt r out p) (if p (key x)=true then wt x else r.zero)
 | [],_=>by
  show atQ key wt r [x] p=_;rw[zdi,z6h,zmg hr (by split;exact hx;exact zbr hr)];split
  ·exact zc5 hx
  ·rfl
 | z::o,h=>by
  have hz:=h z (by simp);have ho:∀ y∈o,(wt y).chk r:=fun y hy=>h y (by simp[hy]);have co:=zww (key:=key) hr ho p;have ce:(if p (key x)=true then wt x else r.zero).chk r:=by split;exact hx;exact zbr hr
  simp only[insF];split
  ·rw[zdi,zdi,zzc hx p ho];split
   ·rw[zdr hz co ce]
   ·rfl
  ·split
   ·rename_i h1 h2;rw[zdi,zdi,hk,hw];by_cases h3:p (key z)=true
    ·rw[yl0 h3,yl0 h3,yl0 (h2 ▸ h3),zdr hz hx co,zdr hz co hx,zhn hx co]
    ·rw[yl1 h3,yl1 h3,yl1 (h2 ▸ h3),zc5 co]
   ·show atQ key wt r (x::z::o) p=_;rw[zdi x];have cz:=zww (key:=key) hr h p;split
    ·exact zhn hx cz
    ·exact(zc5 cz).symm
include hr hk hw in
theorem z6i{l:List α}(h:∀ x∈l,(wt x).chk r)(p:List Int->Bool):∀ n,n<=l.length->(∀ z∈nfm key up id (l.take n),(wt z).chk r)/\atQ key wt r (nfm key up id (l.take n)) p=atQ key wt r (l.take n) p
 | 0,_=>⟨by simp[nfm],rfl⟩
 | n+1,hn=>by
  obtain⟨i1,i2⟩:=z6i h p n (by omega);have hl:n<l.length:=by omega
  have hx:=h _ (yl4 hl);rw[zgs hl];refine⟨fun z hz=>?_,?_⟩
  ·rcases zrw hz with h1|h1|⟨y,h1,h2⟩
   ·exact i1 z h1
   ·rw[h1];exact hx
   ·rw[h2,hw];exact zck (i1 y h1) hx
  ·rw[zzc hr hk hw hx p i1,i2,yls hl,z07 hr (fun x hx=>h x (ym3 hx)) (fun x hx=>by simp at hx;rw[hx];exact h _ (yl4 hl)),zdi,z6h]
   congr 1
   split
   ·exact(zc5 hx).symm
   ·rfl
end
theorem zp6(r:GRing)(w:GW)(hw:w.sm 1048576):Sp P F.gl [enc r,enc w] (.pure (.bool (decide (w=r.zero)))):=by refine Sp.vz c.gl fun _=>?_;simp[g.gl,go_sem];refine zaa (zgh r) rfl ?_;simp[go_sem];refine zab (ze7 w hw r.zero) ?_;simp[go_sem]
def inA(x:GArc)(a:GAuto):Prop:=0<=x.f/\x.f<a.st/\0<=x.t/\x.t<a.st/\0<=x.l/\x.l<=a.sy/\x.w.chk a.ring
noncomputable instance (x:GArc) (a:GAuto):Decidable (inA x a):=Classical.propDecidable _
structure GAuto.sm (a:GAuto) (n:Nat):Prop where
 ini:∀ w∈a.ini,w.sm n
 fin:∀ w∈a.fin,w.sm n
 arcs:∀ x∈a.arcs,x.w.sm n
theorem z91(r:GRing)(l:List GW)(n:Nat)(hn:n<=2000)(hn1:1<=n)(hl:l.length<=1000000)(h:∀ w∈l,w.sm n/\w.chk r)(hz:r.zero.sm n)(cz:r.zero.chk r) :
  Sp P F.gh [enc r,.sl (ens l)] (.pure (.sl (ens (l.map fun w=>r.plus w r.zero)))):=by
 refine Sp.vz c.gh fun _=>?_;simp[g.gh,go_sem]
 refine zai (S:=fun k:Nat=>mkSt [(2,.ptr 2 0 0 0),(5,.own 1 0 0 k),(8,.p (.sl (ens l))),(9,.p (.int .i64 l.length)),(10,.p (.int .i64 k))] [(2,⟨2,[.p (enc r)]⟩),(1,⟨8,avs ((l.take k).map fun w=>r.plus w r.zero)⟩)]) (I:=fun k=>k<=l.length) (m:=fun k=>l.length - k) 0
  (Weak.nl 5 77 8 rfl (Weak.to [2,5,8,9,10] [((2,0),2),((77,0),1)] (by simp[go_sem]))) (by omega) ?_
 rintro k h1 R hn' hr hx;have e3:=i64s k (by omega);simp[g.qy,mkSt,go_sem];refine⟨fun hk=>?_,fun hk=>hx _ _ ?_⟩
 ·refine zae hk ?_
  try simp[go_sem]
  refine zaa (zgh r) rfl ?_
  try simp[go_sem]
  have hw:=h _ (List.getElem_mem hk);refine zab (zl7 r l[k] r.zero n hw.1 hz hn hn1 hw.2 cz) ?_;simp[go_sem,e3];have hts:l.take (k+1)=l.take k++[l[k]]:=List.take_succ_eq_append_getElem hk;refine⟨⟨by omega,by omega⟩,hn' (k+1) _ (Weak.to [2,5,8,9,10] [((2,0),2),((21,0),1)] ?_) (by omega) (by omega)⟩;have h2:(l.map fun w=>r.plus w r.zero).take (k+1)=(l.map fun w=>r.plus w r.zero).take k++[r.plus l[k] r.zero]:=by rw[List.take_succ_eq_append_getElem (by simpa using hk)];simp
  simp[mkSt,go_sem];rw[h2];simp[go_sem]
 ·have:k=l.length:=by omega
  subst this;simp[go_sem];rw[ylv (by simp),ylv (by simp)]
theorem zqa:∀ (l m:List Int),l.length=m.length->zj1 (List.zipWith cmpI l m)=lexI l m
 | [],[],_=>rfl
 | [],y::ys,h=>by simp at h
 | x::xs,[],h=>by simp at h
 | x::xs,y::ys,h=>by
  have ih:=zqa xs ys (by simpa using h);simp only[List.zipWith,zj1,lexI,ih,cmpI];by_cases h1:x<y
  ·simp[h1]
  ·by_cases h2:y<x
   ·simp[h1,h2]
   ·simp[h1,h2]
end Go.Ab
namespace Go.Ab
open Enc (enc)
attribute [local go_sem] zal Opd.slots
section
variable {α : Type} [Enc α]
theorem zow(hsz:Enc.sz α = 12)(hone:∀ x : α,(enc x).cells.all PV.one=true)(key : α -> List Int)(cf:FuncId)(l:List α)(hl:l.length<=1000000)
  (hc:∀ x∈l,∀ y∈l,∃ n:Int,Sp P cf [enc x,enc y] (.pure (.int .i64 n))/\(n<0 ↔ key x<key y)) :
  SpM P F.je [.sl (ens l),.int .i64 0,.int .i64 l.length,.fn cf []] 0 12 (ens (srt key l)) (.pure (.tup [])):=by
 have hs1:∀ x : α,(enc x).sz=12:=fun x=>by rw[Enc.ok,hsz]
 have ew1:IntKind.i64.wrap 1=1:=i64w (by omega) (by omega);refine SpM.of_vm c.je (by simp) rfl (by simp[go_sem,(zc3 l).2.1]) ?_;simp[g.je,go_sem]
 refine zai (S:=fun i:Nat=>mkSt [(0,.own PIN 0 0 l.length),(1,.p (.int .i64 0)),(2,.p (.int .i64 l.length)),(3,.p (.fn cf [])),(8,.p (.int .i64 i))] [(PIN,⟨12,avs (zhe key l i)⟩)]) (I:=fun i=>1<=i) (m:=fun i=>l.length+1 - i) 1
  (Weak.to [0,1,2,3,8] [((PIN,0),PIN)] (by simp[go_sem,zzy,ew1])) (by omega) ?_
 rintro i h1 R hn hr hx;simp[g.sg,mkSt,go_sem];refine⟨fun hi=>?_,fun hi=>hx _ _ ?_⟩;rotate_left
 ·simp[go_sem,z15 hi]
 have e1:=i64s i (by omega);have hsi:=zc3 (key:=key) (l.take i);have hsl:(srt key (l.take i)).length=i:=by rw[hsi.2.1];simp;omega
 have hend:∀ (L:List α) (v:AV),L=zhe key l (i+1)->v=.p (.int .i64 ((i+1:Nat):Int))->R .normal ⟨[(0,.own 999998 0 0 l.length),(1,.p (.int .i64 0)),(2,.p (.int .i64 l.length)),(3,.p (.fn cf [])),(8,v)],[(999998,[some ⟨12,avs L⟩]),(999999,[none])]⟩:=by rintro L v rfl rfl;exact hn (i+1) _ (Weak.to [0,1,2,3,8] [((PIN,0),PIN)] (by simp[go_sem])) (by omega) (by omega)
 refine zai (S:=fun x:List α × Nat=>mkSt [(0,.own PIN 0 0 l.length),(1,.p (.int .i64 0)),(2,.p (.int .i64 l.length)),(3,.p (.fn cf [])),(8,.p (.int .i64 i)),(9,.p (.int .i64 x.2))] [(PIN,⟨12,avs x.1⟩)])
  (I:=fun x=>∃ A B,x.1=A++l[i]::(B++l.drop (i+1))/\x.2=A.length/\A++B=srt key (l.take i)/\∀ b∈B,key l[i]<key b) (m:=fun x=>x.2) (zhe key l i,i)
  (Weak.to [0,1,2,3,8,9] [((PIN,0),PIN)] (by simp[go_sem])) ⟨srt key (l.take i),[],by rw[z14 hi];simp,hsl.symm,by simp,by simp⟩ ?_
 rintro⟨L,j⟩ ⟨A,B,hL,hj,hAB,hB⟩ R2 hn2 hr2 hx2;simp only at hL hj;have hLl:L.length=l.length:=by have:=congrArg List.length hAB;rw[hL];simp at this ⊢;rw[hsi.2.1]at this;simp at this;omega
 have hLm:∀ y∈L,y∈l:=by
  intro y hy;rw[hL]at hy;simp only[ylp,yl7]at hy;have hm:∀ y,y∈A++B->y∈l:=fun y hy=>by rw[hAB,hsi.2.2]at hy;exact ym3 hy
  rcases hy with h|h|h|h
  ·exact hm y (by simp[h])
  ·rw[h];exact yl4 hi
  ·exact hm y (by simp[h])
  ·exact ymj h
 have hjl:j<l.length:=by rw[<- hLl,hL,hj];simp
 rcases yr0 A with rfl|⟨A',z,rfl⟩
 ·
  simp at hj;subst hj;simp[g.pb,mkSt,go_sem];refine hx2 _ _ ?_;simp[go_sem,e1];refine hend L _ ?_ rfl;rw[zmv hi,<- hAB,zwa hB (by simp),hL];simp
 ·simp only[yr1]at hj hL hAB;simp at hj;subst hj;have hx0:L[A'.length+1]?=some l[i]:=by rw[hL];simp
  have hz0:L[A'.length]?=some z:=by rw[hL];simp
  have hzl:z∈l:=hLm z (by rw[hL];simp);obtain⟨n,hn3,hn4⟩:=hc l[i] (yl4 hi) z hzl;have hl0:A'.length+1<l.length:=hjl;have e3:IntKind.i64.wrap (A'.length:Int)=(A'.length:Nat):=i64w (by omega) (by omega);have e4:((A'.length:Int)+1).toNat=A'.length+1:=by omega
  have hgt:(0:Int)<(A'.length:Int)+1:=by omega
  simp[g.pb,mkSt,go_sem,e3,hLl,hl0,show A'.length<l.length by omega,e4,hgt];refine⟨by omega,zea hx0 ?_⟩;refine zea hz0 ?_;refine zaa hn3 rfl ?_;by_cases hlt:n<0
  ·simp[go_sem,hlt,e3,e4,hgt,hLl,hl0,show A'.length<l.length by omega];refine zea hz0 ?_;refine⟨by omega,zea hx0 ?_⟩;refine⟨by omega,zea hx0 ?_⟩;refine⟨hs1 z,?_⟩;rw[zbx];refine zea (x:=.p (enc z)) (by simp[yd5,hz0]) ?_;simp only[yex];refine⟨hs1 _,?_⟩;simp[go_sem,e3];refine hn2 ((L.set (A'.length+1) z).set A'.length l[i],A'.length) _ (Weak.to [0,1,2,3,8,9] [((PIN,0),PIN)] (by simp[go_sem])) ⟨A',z::B,?_,rfl,?_,?_⟩ (by simp)
   ·rw[hL];exact z1z A' B z l[i] _
   ·rw[<- hAB];simp
   ·intro b hb;rcases yl7.1 hb with rfl|hb
    ·exact hn4.1 hlt
    ·exact hB b hb
  ·simp[go_sem,hlt,e3,e4,hgt,hLl,hl0];refine hx2 _ _ ?_;simp[go_sem,e1];refine hend L _ ?_ rfl;have hnk:¬ key l[i]<key z:=fun h=>hlt (hn4.2 h);rw[zmv hi,<- hAB,zwa hB,hL]
   ·simp
   ·intro a ha;simp only[ylp,ynh]at ha;rcases ha with ha|rfl
    ·intro hk;have hs0:=hsi.1;rw[<- hAB]at hs0;have:=(ynq.1 (ynq.1 hs0).1).2.2 a ha z (by simp);exact hnk (znt hk this)
    ·exact hnk
end
section
variable {α : Type} [Enc α]
theorem zmt(hsz:Enc.sz α = 12)(hone:∀ x : α,(enc x).cells.all PV.one=true)(key : α -> List Int)(cf:FuncId)(l:List α)(hl:l.length<=19)
  (hc:∀ x∈l,∀ y∈l,∃ n:Int,Sp P cf [enc x,enc y] (.pure (.int .i64 n))/\(n<0 ↔ key x<key y)) :
  SpM P F.lm [.sl (ens l),.int .i64 l.length,.fn cf []] 0 12 (ens (srt key l)) (.pure (.tup [])):=by
 refine SpM.of_vm c.lm (by simp) rfl (by simp[go_sem,(zc3 l).2.1]) ?_;simp[g.lm,go_sem];refine ziq fun R hn hr hx=>?_;simp[g.rx,go_sem,show ¬ (20<=(l.length:Int)) by omega];refine hx _ _ ?_;simp[go_sem];refine zgg (zow hsz hone key cf l (by omega) hc) (by simp[go_sem]) rfl rfl (by simp) (by simp[go_sem]) (by simp[go_sem,(zc3 l).2.1]) rfl (zej _ _ hsz) (cells_one hone _) (by simp[go_sem]) ?_;simp[go_sem];refine ziq fun R2 hn2 hr2 hx2=>?_;simp[g.ry,go_sem,show ¬ (20<(l.length:Int)) by omega];refine hx2 _ _ ?_;simp[go_sem]
theorem zon(hsz:Enc.sz α = 12)(hone:∀ x : α,(enc x).cells.all PV.one=true)(key : α -> List Int)(cf:FuncId)(l:List α)(hl:l.length<=19)
  (hc:∀ x∈l,∀ y∈l,∃ n:Int,Sp P cf [enc x,enc y] (.pure (.int .i64 n))/\(n<0 ↔ key x<key y)) :
  SpM P F.km [.sl (ens l),.fn cf []] 0 12 (ens (srt key l)) (.pure (.tup [])):=by
 refine SpM.of_vm c.km (by simp) rfl (by simp[go_sem,(zc3 l).2.1]) ?_;simp[g.km,go_sem];refine zgg (zmt hsz hone key cf l hl hc) (by simp[go_sem]) rfl rfl (by simp) (by simp[go_sem]) (by simp[go_sem,(zc3 l).2.1]) rfl (zej _ _ hsz) (cells_one hone _) (by simp[go_sem]) ?_;simp[go_sem]
end
def gw0':GW:=.mk ⟨false,[],[]⟩ 0 false 0 [] []
theorem zsb(df:FuncId)(caps:List PV)(p:GTArc->Bool)(l:List GTArc)(hl:l.length<=1000000)(hp:∀ x∈l,Sp P df (enc x::caps) (.pure (.bool (p x)))) :
  SpM P F.ko [.sl (ens l),.fn df caps] 0 12 (ens (l.filter (fun x => !p x)++List.replicate (l.length - (l.filter fun x => !p x).length) (⟨0,0,0,0,gw0'⟩:GTArc))) (.same (l.filter fun x => !p x).length):=by
 have hfl:(l.filter fun x => !p x).length<=l.length:=yni _ _;refine SpM.of_vm c.ko (by simp) rfl (by simp[go_sem];omega) ?_;simp[g.ko,go_sem];refine zab (zr1 l df caps p (by omega) hp) ?_;cases hi:l.findIdx? p with
 | none =>
  have hn:=yqt.1 hi;have hf:l.filter (fun x => !p x)=l:=List.filter_eq_self.2 fun x hx=>by simp[hn x hx]
  have hx:idxI p l = -1:=by simp[idxI,hi]
  simp[hx,hf,go_sem]
 | some k =>
  obtain⟨hk,hpk,hbef⟩:=yqu.1 hi;have hx:idxI p l=k:=by simp[idxI,hi]
  have hne:¬ ((k:Int) = -1):=by omega
  have e1:=i64s k (by omega);simp[hx,hne,e1,go_sem];have htk:(l.take k).filter (fun x => !p x)=l.take k:=List.filter_eq_self.2 fun x hx=>by rw[List.mem_take_iff_getElem]at hx;obtain⟨i,hi,rfl⟩:=hx;have:=hbef i (by omega);simpa using this
  have htk1:(l.take (k+1)).filter (fun x => !p x)=l.take k:=by rw[yls hk,ynn,htk];simp[hpk]
  refine zai (S:=fun x:List GTArc × Nat × Nat=>mkSt [(0,.own PIN 0 0 l.length),(1,.p (.fn df caps)),(5,.p (.int .i64 x.2.1)),(6,.p (.int .i64 x.2.2))] [(PIN,⟨12,avs x.1⟩)])
   (I:=fun x=>x.1.length=l.length/\x.2.1<x.2.2/\x.2.2<=l.length/\x.1.take x.2.1=(l.take x.2.2).filter (fun x => !p x)/\x.1.drop x.2.2=l.drop x.2.2/\x.2.1<=l.length) (m:=fun x=>l.length - x.2.2) (l,k,k+1)
   (Weak.to [0,1,5,6] [((PIN,0),PIN)] (by simp[go_sem])) ⟨rfl,by simp,by simp;omega,by rw[htk1],rfl,by simp;omega⟩ ?_
  rintro⟨L,i,j⟩ ⟨h1,h2,h3,h4,h5,h6⟩ R hn hr hx2;simp only at h1 h2 h3 h4 h5 h6;simp[g.rl,mkSt,go_sem];refine⟨fun hj=>?_,fun hj=>hx2 _ _ ?_⟩
  ·have e2:=i64s j (by omega);have e3:=i64s i (by omega);have hjL:L[j]?=some l[j]:=by
    have:(L.drop j)[0]?=(l.drop j)[0]?:=by rw[h5]
    simpa[hj]using this
   refine⟨by omega,zea hjL ?_⟩
   try simp[go_sem]
   refine zaa (hp l[j] (yl4 hj)) (zb3 (by simp[go_sem]) (zgt _ _)) ?_;have htj:(l.take (j+1)).filter (fun x => !p x)=(l.take j).filter (fun x => !p x)++(if p l[j]then[]else[l[j]]):=by rw[yls hj,ynn];by_cases h:p l[j]<;>simp[h]
   rcases ym0 (p l[j])with h7|h7
   ·simp[h7,e2,go_sem];refine hn (L,i,j+1) _ (Weak.to [0,1,5,6] [((PIN,0),PIN)] (by simp[go_sem])) ⟨h1,by show i<j+1;omega,by show j+1<=l.length;omega,by show L.take i=_;rw[htj,h4];simp[h7],?_,h6⟩ (by show l.length - (j+1)<l.length - j;omega);show L.drop (j+1)=l.drop (j+1);rw[<- List.drop_drop,h5,ynd]
   ·simp[h7,go_sem];refine⟨by omega,?_⟩;refine zea (l:=L) (n:=i) (x:=L[i]'(by omega)) (by simp) ?_;simp[e2,e3,go_sem];have htki:(L.set i l[j]).take (i+1)=L.take i++[l[j]]:=by rw[yls (by simp;omega),List.take_set_of_le (yl8 i)];simp
    refine hn (L.set i l[j],i+1,j+1) _ (Weak.to [0,1,5,6] [((PIN,0),PIN)] (by simp[go_sem])) ⟨by simp[h1],by show i+1<j+1;omega,by show j+1<=l.length;omega,by show(L.set i l[j]).take (i+1)=_;rw[htki,htj,h4];simp[h7],?_,by show i+1<=l.length;omega⟩ (by show l.length - (j+1)<l.length - j;omega);show(L.set i l[j]).drop (j+1)=l.drop (j+1);rw[List.drop_set_of_lt (by omega),<- List.drop_drop,h5,ynd]
  ·have hjl:j=l.length:=by omega
   subst hjl;rw[ym4]at h4;have hil:i=(l.filter fun x => !p x).length:=by rw[<- h4];simp;omega
   generalize (l.filter fun x => !p x)=D at *
   subst hil;have ht:(avs L).take D.length=avs D:=by rw[zzb,h4]
   have hm1:min D.length l.length=D.length:=yne h6;have hm2:D.length+(l.length - D.length)=l.length:=by omega
   simp[go_sem,h1,h6,hm1,hm2,h4];have hdl:L.drop l.length=[]:=by rw[<- h1];simp
   rw[hdl,yd4,yom];rfl
end Go.Ab
namespace Go.Ab
open Enc (enc)
@[go_sem] theorem yey{P:Program}{N:Nat}{Q:Exit->St->Prop}{α : Type}[Enc α](o:List α)(x:AV)(f:AV->Outc)(d:Option Nat)(dd:List (List Nat))(ks:List Kt):vmO P N Q (.el (avs o++[x]) o.length f) d dd ks=vmO P N Q (f x) d dd ks:=by
 have:(avs o++[x])[o.length]?=some x:=by rw[yns (by simp[go_sem])];simp[go_sem]
 simp only[vmO,runO,this];exact propext ⟨fun⟨e,h,k⟩=>by cases h;exact k,fun k=>⟨_,rfl,k⟩⟩
@[go_sem] theorem yh3{α : Type}[Enc α](o:List α)(x y:AV):(avs o++[x]).set o.length y=avs o++[y]:=by rw[ypu _ _ (by simp[go_sem])];simp[go_sem]
theorem z7d{α : Type}[Enc α](l:List α)(r:List α):((ens (l++r)).map AV.p).take l.length=avs l:=by simp[avs,ens]
theorem zum{st:St}{f:FuncId}{e:Nat}{vs:List AV}{args:List PV}{sz:Nat}{es:List PV}{K:PCall->AV->St->Prop}(hs:Sp P f args (.fresh sz es))(hv:vs.mapM (toPV st FUEL)=some args)
  (h:es.all (fun v=>v.sz == sz)=true/\0<sz/\es.length<=LIM) (h0:vs.flatMap (deps st FUEL)=[])
  (k:K ⟨f,args,.fresh sz es,none⟩ (.own e (st.site e).length 0 es.length) (st.alloc e ⟨sz,es.map .p⟩)):zlw P st e f vs K :=
 zcw hs hv h st (by rw[h0];simp[killAll]) k
theorem z01{st:St}{f:FuncId}{e:Nat}{vs:List AV}{args:List PV}{i sz:Nat}{es':List PV}{r:PV}{K:PCall->AV->St->Prop}(hs:SpM P f args i sz es' (.pure r))(hv:vs.mapM (toPV st FUEL)=some args)
  {s g len:Nat} {sl:Bool} (href:zle vs[i]?=some (s,g,len,sl)) {o:AObj} (ho:st.obj s g=some o) (hi:i<vs.length) (hl:len=o.es.length) (hl2:es'.length=len) (hsz:o.sz=sz) (hall:es'.all (fun v=>v.sz == sz)=true) (hone:(es'.flatMap PV.cells).all PV.one=true)
  (h0:(vs.eraseIdx i).flatMap (deps st FUEL)++o.es.flatMap (deps st 5)=[])
  (k:K ⟨f,args,.pure r,some (i,sz,es')⟩ (.p r) (st.setObj s g ⟨sz,es'.map .p⟩)):zlw P st e f vs K:=by
 refine zgg hs hv href ho hi hl hl2 hsz hall hone (by rw[h0];rfl) ?_;rw[h0];simpa[killAll]using k
structure GAuto.ok (a:GAuto):Prop where
 ring:a.ring.ok=true
 sy1:1<=a.sy
 sy2:a.sy<=32
 st1:0<=a.st
 st2:a.st<=64
 il:(a.ini.length:Int)=a.st
 fl:(a.fin.length:Int)=a.st
 al:a.arcs.length<=2048
 arcs:∀ x∈a.arcs,inA x a
 ini:∀ w∈a.ini,w.chk a.ring
 fin:∀ w∈a.fin,w.chk a.ring
theorem ydx{r:GRing}{l:List GW}(h:∀ w∈l,w.chk r):(l.map fun w=>r.plus w r.zero)=l:=by have:(l.map fun w=>r.plus w r.zero)=l.map id:=ymu fun w hw=>zc5 (h w hw);rw[this,List.map_id]
theorem ycp{r:GRing}(h:r.ok=true):r.parts.length<=3:=by
 by_cases h6:r.kind=6
 ·exact(GRing.ok_parts h h6).2.1
 ·simp[(GRing.ok_kind h h6).2.2]
theorem zy3(r:GRing)(l:List GW)(n:Nat)(hn:n<=90)(hn1:3<=n)(hr:r.ok=true)(hl:l.length<=64)(h:∀ w∈l,w.sm n)(c:∀ w∈l,w.chk r):Sp P F.gh [enc r,.sl (ens l)] (.pure (.sl (ens l))):=by
 have k:=z91 r l n (by omega) (by omega) (by omega) (fun w hw=>⟨h w hw,c w hw⟩) (z1c hr hn1) (zbr hr)
 rwa[ydx c]at k
theorem zpr(x y:GTArc):Sp P F.d3 [enc x,enc y] (.pure (.int .i64 (lexI x.key y.key))):=by rw[<- zqa x.key y.key rfl,show List.zipWith cmpI x.key y.key=[cmpI x.f y.f,cmpI x.i y.i,cmpI x.o y.o,cmpI x.t y.t] from rfl];refine Sp.vz c.d3 fun _=>?_;simp[g.d3,go_sem];refine zaa (zi1 x.f y.f) rfl ?_;simp[go_sem];refine zaa (zi1 x.i y.i) rfl ?_;simp[go_sem];refine zaa (zi1 x.o y.o) rfl ?_;simp[go_sem];refine zaa (zi1 x.t y.t) rfl ?_;simp[go_sem];refine zab (z94 [cmpI x.f y.f,cmpI x.i y.i,cmpI x.o y.o,cmpI x.t y.t] (by simp)) ?_;simp[go_sem]
theorem zqm(r:GRing)(w:GW)(hw:w.sm 1048576):Sp P F.ii [enc w,.ref (enc r)] (.pure (.bool (!decide (w.chk r)))):=by refine Sp.of_vmW c.ii (by simp) (Weak.openRef (t:=1) (v:=enc r) (n:=2) (by simp[go_sem]) (by simp[go_sem])) ?_;simp[g.ii,go_sem];refine zab (zoh r w hw) ?_;simp[go_sem]
theorem zmi(r:GRing)(l:List GW)(m:Int)(hl:∀ w∈l,w.sm 1048576)(hlen:l.length<=2147483648):Sp P F.j4 [enc r,.sl (ens l),.int .i64 m] (.pure (.bool (decide ((l.length:Int)=m/\∀ w∈l,w.chk r)))):=by
 refine Sp.vz c.j4 fun _=>?_;have e:decide ((l.length:Int)=m/\∀ w∈l,w.chk r)=(decide ((l.length:Int)=m) && !l.any fun w => !decide (w.chk r)):=by rw[Bool.eq_iff_iff];simp
 rw[e];simp[g.j4,go_sem];refine⟨fun h=>?_,fun h=>by simp[h]⟩;refine zaa (zox l F.ii [.ref (enc r)] (fun w => !decide (w.chk r)) (by omega) fun w hw=>zqm r w (hl w hw)) (by simp[go_sem,zjb,zqq]) ?_;simp[go_sem,h]
theorem zms(m:Int):Sp P F.j3 [.int .i64 m] (.pure (.bool (decide (1<=m/\m<=32)))):=by refine Sp.vz c.j3 fun _=>?_;simp[g.j3,go_sem];exact⟨fun h _=>h,fun h h'=>by omega⟩
theorem zzr(x:GTArc)(r:GRing)(hw:x.w.sm 1048576):Sp P F.ib [enc x,.ref (enc r)] (.pure (.bool (decide (x.w=r.zero)))):=by refine Sp.of_vmW c.ib (by simp) (Weak.openRef (t:=1) (v:=enc r) (n:=2) (by simp[go_sem]) (by simp[go_sem])) ?_;simp[g.ib,go_sem];refine zab (zp6 r x.w hw) ?_;simp[go_sem]
def upT(r:GRing)(z y:GTArc):GTArc:=⟨z.f,z.i,z.o,z.t,r.plus z.w y.w⟩
noncomputable def tidT(r:GRing)(l:List GTArc):List GTArc:=(mrg GTArc.key (upT r) id (srt GTArc.key l)).filter fun x => !decide (x.w=r.zero)
theorem z1s{r:GRing}{n:Nat}(hn1:1<=n){l:List GTArc}(h:∀ x∈l,x.w.sm n/\x.w.chk r)(k:Nat)(hk:k<=l.length) :
  (mrg GTArc.key (upT r) id (l.take k)).length<=k/\∀ x∈mrg GTArc.key (upT r) id (l.take k),x.w.sm ((k+1)*(n+1))/\x.w.chk r:=by
 refine zrj (up:=upT r) (nw:=id) (Q:=fun k x=>x.w.sm ((k+1)*(n+1))/\x.w.chk r) (fun k x hx=>⟨hx.1.mono (ylw _ (by omega)),hx.2⟩) (fun x hx=>⟨(h x hx).1.mono (by omega),(h x hx).2⟩) (fun k z x hx hz=>⟨?_,(zck hz.2 (h x hx).2:(r.plus z.w x.w).chk r)⟩) (fun k x hx=>⟨hx.1.mono (ylw _ (by omega)),hx.2⟩) k hk;have:=z27 hz.1 (h x hx).1 hz.2 (h x hx).2 (ylq hn1 (by rw[ym7];omega)) hn1;have e:(k+1)*(n+1)+n+1=(k+1+1)*(n+1):=by rw[ym7 (k+1) 1];omega
 rw[<- e];exact this
theorem z7c(r:GRing)(l:List GTArc)(n:Nat)(hn:n<=90)(hn1:3<=n)(hl:l.length<=19)(h:∀ x∈l,x.w.sm n/\x.w.chk r) :
  Sp P F.j0 [enc r,.sl (ens l)] (.pure (.sl (ens (tidT r l)))):=by
 have hs:=zc3 (key:=GTArc.key) l;have h':∀ x∈srt GTArc.key l,x.w.sm n/\x.w.chk r:=fun x hx=>h x ((hs.2.2 x).1 hx);have inv:=z1s (by omega) h';unfold tidT;generalize hS:srt GTArc.key l=S at *
 have hSl:S.length=l.length:=hs.2.1;have hone:∀ x:GTArc,(enc x).cells.all PV.one=true:=fun x=>by simp[go_sem,PV.cells]
 refine Sp.vz c.j0 fun _=>?_;simp[g.j0,go_sem];refine zum (zo1 l (by omega)) (by simp[go_sem]) ⟨zej _ _ rfl,by decide,by simp[ens,LIM];omega⟩ (by simp[go_sem]) ?_;simp[go_sem];refine z01 (zon rfl hone GTArc.key F.d3 l hl fun x hx y hy=>⟨_,zpr x y,zv7 rfl⟩) (by simp[go_sem]) rfl rfl (by simp) (by simp[go_sem]) (by simp[go_sem,hS,hSl]) rfl (zej _ _ rfl) (cells_one hone _) (by simp[go_sem]) ?_;simp[go_sem];rw[hS];have hone':3<=n+1:=by omega
 refine zai (S:=fun k:Nat=>mkSt [(2,.ptr 2 0 0 0),(6,.own 1 0 0 (mrg GTArc.key (upT r) id (S.take k)).length),(14,.own 3 0 0 S.length),(15,.p (.int .i64 S.length)),(16,.p (.int .i64 k))] [(2,⟨2,[.p (enc r)]⟩),(1,⟨12,avs (mrg GTArc.key (upT r) id (S.take k))⟩),(3,⟨12,avs S⟩)]) (I:=fun k=>k<=S.length) (m:=fun k=>S.length - k) 0
  (Weak.nl 6 77 12 rfl (Weak.to [2,6,14,15,16] [((2,0),2),((77,0),1),((11,0),3)] (by simp[go_sem,hSl,mrg]))) (by omega) ?_
 rintro k h1 R hn' hr hx;have e3:=i64s k (by omega);obtain⟨iv1,iv2⟩:=inv k h1;generalize hO:mrg GTArc.key (upT r) id (S.take k)=O at *
 by_cases hk:k<S.length;rotate_left
 ·have:k=S.length:=by omega
  subst this;rw[ylv (yl8 _)]at hO;rw[hO]at hx hr;have hb:(O.length+1)*(n+1)<=1048576:=by have:=yma (show O.length+1<=20 by omega) (show n+1<=91 by omega);omega
  have hb2:(S.length+1)*(n+1)<=1048576:=by have:=yma (show S.length+1<=20 by omega) (show n+1<=91 by omega);omega
  simp[g.oh,mkSt,go_sem];refine hx _ _ ?_;simp[go_sem];refine z00 (zsb F.ib [.ref (enc r)] (fun x=>decide (x.w=r.zero)) O (by omega) fun x hx=>zzr x r ((iv2 x hx).1.mono hb2)) (by simp[go_sem,zjb,zqq]) rfl rfl (by simp) (by simp[go_sem]) (by simp[go_sem];have:=yni (fun x:GTArc => !decide (x.w=r.zero)) O;omega) rfl (zej _ _ rfl) (cells_one hone _) (by simp[go_sem]) (yni _ _) ?_;generalize hF:O.filter (fun x => !decide (x.w=r.zero))=F0 at *
  have hFl:F0.length<=O.length:=by rw[<- hF];exact yni _ _
  have hA1:=z7d F0 (List.replicate (O.length - F0.length) (⟨0,0,0,0,gw0'⟩:GTArc));have hA2:F0.length<=(ens (F0++List.replicate (O.length - F0.length) (⟨0,0,0,0,gw0'⟩:GTArc))).length:=by simp[ens]
  generalize ens (F0++List.replicate (O.length - F0.length) (⟨0,0,0,0,gw0'⟩:GTArc))=A0 at *
  cases hfl:A0.all PV.flat
  ·simp[go_sem,killAll];rw[hA1];simp[go_sem,hA2]
  ·simp[go_sem,killAll];rw[hA1];simp[go_sem,hA2]
 have hw:=h' _ (yl4 hk);have hnx:=zjt (key:=GTArc.key) (up:=upT r) (nw:=id) hk;rw[hO]at hnx;have cz:=zbr hw.2.1;have sz:=z1c (n:=n) hw.2.1 hn1;have pz:=zc5 hw.2;rcases yr0 O with rfl|⟨o,z,rfl⟩
 ·simp[g.oh,mkSt,go_sem,hk];refine zae hk ?_;refine zaa (zgh r) rfl ?_;simp[go_sem];refine zab (zl7 r S[k].w r.zero n hw.1 sz (by omega) (by omega) hw.2 cz) ?_;rw[pz];simp[go_sem,e3];refine hn' (k+1) _ (Weak.to [2,6,14,15,16] [((2,0),2),((59,0),1),((3,0),3)] ?_) (by omega) (by omega);rw[hnx];simp[mkSt,go_sem,mst]
 ·have e4:IntKind.i64.wrap (o.length:Int)=(o.length:Int):=i64w (by omega) (by simp at iv1;omega);simp[g.oh,mkSt,go_sem,hk,e4];refine zae hk ?_;refine zaa (zgh r) rfl ?_;simp[go_sem];refine zab (zl7 r S[k].w r.zero n hw.1 sz (by omega) (by omega) hw.2 cz) ?_;rw[pz];simp[go_sem,e4];refine zab (zpr z S[k]) ?_;simp[go_sem,e4];have hz:=iv2 z (by simp);have hb2:(k+1)*(n+1)<=2000:=by have:=yma (show k+1<=20 by omega) (show n+1<=91 by omega);omega
  have hb3:n<=(k+1)*(n+1):=by rw[ym7];omega
  have hle:lexI z.key S[k].key=0 ↔ z.key=S[k].key:=zv8 (by simp[GTArc.key]);refine⟨fun h0=>?_,fun h0=>?_⟩
  ·rw[yr1,zv5 (key:=GTArc.key) (z:=z) (y:=S[k]) (hle.1 h0)]at hnx;refine zab (zl7 r z.w S[k].w _ hz.1 (hw.1.mono hb3) hb2 (by omega) hz.2 hw.2) ?_;simp[go_sem,e3,e4];refine hn' (k+1) _ (Weak.to [2,6,14,15,16] [((2,0),2),((1,0),1),((3,0),3)] ?_) (by omega) (by omega);rw[hnx];simp[mkSt,go_sem,upT]
  ·rw[yr1,zrg (key:=GTArc.key) (z:=z) (y:=S[k]) (fun h=>h0 (hle.2 h))]at hnx;simp[go_sem,e3];refine⟨by simp at iv1;omega,hn' (k+1) _ (Weak.to [2,6,14,15,16] [((2,0),2),((59,0),1),((3,0),3)] ?_) (by omega) (by omega)⟩;rw[hnx];simp[mkSt,go_sem,upT]
def inT(x:GTArc)(t:GTrans):Prop:=0<=x.f/\x.f<t.st/\0<=x.t/\x.t<t.st/\0<=x.i/\x.i<=t.i/\0<=x.o/\x.o<=t.o/\x.w.chk t.ring
structure GTrans.ok (t:GTrans):Prop where
 ring:t.ring.ok=true
 i1:1<=t.i/\t.i<=32
 o1:1<=t.o/\t.o<=32
 st1:0<=t.st
 st2:t.st<=64
 il:(t.ini.length:Int)=t.st
 fl:(t.fin.length:Int)=t.st
 al:t.arcs.length<=2048
 arcs:∀ x∈t.arcs,inT x t
 ini:∀ w∈t.ini,w.chk t.ring
 fin:∀ w∈t.fin,w.chk t.ring
noncomputable instance (x:GTArc) (a:GTrans):Decidable (inT x a):=Classical.propDecidable _
noncomputable instance (a:GTrans):Decidable a.ok:=Classical.propDecidable _
structure GTrans.sm (a:GTrans) (n:Nat):Prop where
 ini:∀ w∈a.ini,w.sm n
 fin:∀ w∈a.fin,w.sm n
 arcs:∀ x∈a.arcs,x.w.sm n
theorem GTrans.sm.mono{a:GTrans}{m n:Nat}(h:a.sm m)(k:m<=n):a.sm n:=⟨fun w hw=>(h.ini w hw).mono k,fun w hw=>(h.fin w hw).mono k,fun x hx=>(h.arcs x hx).mono k⟩
theorem zst(t:GTrans)(h:t.sm 1048576)(li:t.ini.length<=1000000)(lf:t.fin.length<=1000000):Sp P F.fv [enc t] (.pure (.bool (decide t.ok))):=by
 refine Sp.vz c.fv fun _=>?_;simp[g.fv,go_sem];refine zaa (ze0 t.ring) rfl ?_;cases hr:t.ring.ok
 ·simp[go_sem];intro ok;rw[ok.ring]at hr;cases hr
 simp[go_sem];refine zaa (zms t.i) rfl ?_;by_cases h1:1<=t.i/\t.i<=32;rotate_left
 ·simp[go_sem,h1];intro ok;exact h1 ok.i1
 simp[go_sem,h1];refine zaa (zms t.o) rfl ?_;by_cases h2:1<=t.o/\t.o<=32;rotate_left
 ·simp[go_sem,h2];intro ok;exact h2 ok.o1
 simp[go_sem,h2];refine⟨fun h3 ok=>by have:=ok.st1;omega,fun h3=>⟨fun h4 ok=>by have:=ok.st2;omega,fun h4=>⟨fun h5 ok=>by have:=ok.al;omega,fun h5=>?_⟩⟩⟩
 refine zai (S:=fun k:Nat=>mkSt [(1,.ptr 1 0 0 0),(38,.p (.sl (ens t.arcs))),(39,.p (.int .i64 t.arcs.length)),(40,.p (.int .i64 k))] [(1,⟨8,[.p (enc t)]⟩)]) (I:=fun k=>k<=t.arcs.length/\∀ i,(hi:i<t.arcs.length)->i<k->inT t.arcs[i] t) (m:=fun k=>t.arcs.length - k) 0
  (Weak.to [1,38,39,40] [((1,0),1)] (by simp[go_sem])) ⟨by omega,fun i _ h0=>by omega⟩ ?_
 rintro k ⟨h6,h7⟩ R hn hr' hx;have e1:=i64s k (by omega);simp[g.qg,mkSt,go_sem];refine⟨fun hk=>?_,fun hk=>hx _ _ ?_⟩
 ·refine zae hk ?_;have hret:¬ inT t.arcs[k] t->¬ t.ok:=fun h ok=>h (ok.arcs _ (yl4 hk));have hsw:t.arcs[k].w.sm 1048576:=h.arcs _ (yl4 hk);have hnext:inT t.arcs[k] t->∀ i,(hi:i<t.arcs.length)->i<k+1->inT t.arcs[i] t:=fun hx i hi h0=>by
   by_cases hik:i<k
   ·exact h7 i hi hik
   ·have:i=k:=by omega
    subst this;exact hx
  generalize t.arcs[k]=x at *
  refine⟨fun h8=>hr' _ ?_,fun h8=>⟨fun h9=>hr' _ ?_,fun h9=>⟨fun h10=>hr' _ ?_,fun h10=>⟨fun h11=>hr' _ ?_,fun h11=>?_⟩⟩⟩⟩
  ·simp[go_sem];refine hret fun hT=>?_;obtain⟨a1,a2,a3,a4,a5,a6,a7,a8,a9⟩:=hT;revert h8;(repeat' split)<;>omega
  ·simp[go_sem];refine hret fun hT=>?_;obtain⟨a1,a2,a3,a4,a5,a6,a7,a8,a9⟩:=hT;revert h9;(repeat' split)<;>omega
  ·simp[go_sem];exact hret fun hT=>by have:=hT.2.2.2.2.2.1;omega
  ·simp[go_sem];exact hret fun hT=>by have:=hT.2.2.2.2.2.2.2.1;omega
  have h12:0<=x.f/\0<=x.t/\0<=x.i/\0<=x.o:=by revert h8;(repeat' split)<;>intro h8<;>omega
  have h13:x.f<t.st/\x.t<t.st:=by revert h9;(repeat' split)<;>intro h9<;>omega
  refine zab (zoh t.ring x.w hsw) ?_;by_cases hc:x.w.chk t.ring;rotate_left
  ·simp[go_sem,hc];refine hr' _ ?_;simp[go_sem];exact hret fun hT=>hc hT.2.2.2.2.2.2.2.2
  simp[go_sem,hc,e1];exact hn (k+1) _ (Weak.to [1,38,39,40] [((1,0),1)] (by simp[mkSt,go_sem])) ⟨by omega,hnext ⟨h12.1,h13.1,h12.2.1,h13.2,h12.2.2.1,h10,h12.2.2.2,h11,hc⟩⟩ (by omega)
 ·simp[go_sem];have hall:∀ x∈t.arcs,inT x t:=fun x hx=>by obtain⟨i,hi,rfl⟩:=ynb.1 hx;exact h7 i hi (by omega)
  refine zab (zmi t.ring t.ini t.st h.ini (by omega)) ?_;by_cases h8:(t.ini.length:Int)=t.st/\∀ w∈t.ini,w.chk t.ring;rotate_left
  ·rw[decide_eq_false h8];simp[go_sem];intro ok;exact h8 ⟨ok.il,ok.ini⟩
  rw[decide_eq_true h8];simp[go_sem];refine zab (zmi t.ring t.fin t.st h.fin (by omega)) ?_;by_cases h9:(t.fin.length:Int)=t.st/\∀ w∈t.fin,w.chk t.ring;rotate_left
  ·have:¬ t.ok:=fun ok=>h9 ⟨ok.fl,ok.fin⟩;rw[decide_eq_false h9,decide_eq_false this];simp[go_sem]
  have ok:t.ok:=⟨hr,h1,h2,h3,h4,h8.1,h9.1,by omega,hall,h8.2,h9.2⟩;rw[decide_eq_true h9,decide_eq_true ok];simp[go_sem]
def zkz:GTrans:=⟨⟨0,[]⟩,0,0,0,[],[],[]⟩
noncomputable def GTrans.nf(a:GTrans):GTrans:=⟨a.ring,a.i,a.o,a.st,a.ini,a.fin,tidT a.ring a.arcs⟩
theorem zf6(a:GTrans)(n:Nat)(hn:n<=90)(hn1:3<=n)(h:a.sm n)(hl:a.arcs.length<=19)(li:a.ini.length<=1000000)(lf:a.fin.length<=1000000) :
  Sp P F.fu [enc a] (.pure (.tup [enc (if a.ok then a.nf else zkz),.int .i64 (if a.ok then 0 else 4)])):=by
 refine Sp.vz c.fu fun _=>?_;simp[g.fu,go_sem];refine zab (zst a (h.mono (by omega)) li lf) ?_;by_cases ok:a.ok;rotate_left
 ·rw[decide_eq_false ok,yl1 ok,yl1 ok];simp[go_sem,zkz]
 rw[decide_eq_true ok,yl0 ok,yl0 ok];have i1:=ok.il;have i2:=ok.fl;have i3:=ok.st2
 simp[go_sem];refine zab (z0w a.ring.parts (by have:=ycp ok.ring;omega)) ?_;simp[go_sem];refine zab (zy3 a.ring a.ini n hn hn1 ok.ring (by omega) h.ini ok.ini) ?_;simp[go_sem];refine zab (zy3 a.ring a.fin n hn hn1 ok.ring (by omega) h.fin ok.fin) ?_;simp[go_sem];refine zab (z7c a.ring a.arcs n hn hn1 hl fun x hx=>⟨h.arcs x hx,(ok.arcs x hx).2.2.2.2.2.2.2.2⟩) ?_;simp[go_sem,GTrans.nf]
def swT(x:GTArc):GTArc:=⟨x.f,x.o,x.i,x.t,x.w⟩
def GTrans.inv(t:GTrans):GTrans:=⟨t.ring,t.o,t.i,t.st,t.ini,t.fin,t.arcs.map swT⟩
end Go.Ab
