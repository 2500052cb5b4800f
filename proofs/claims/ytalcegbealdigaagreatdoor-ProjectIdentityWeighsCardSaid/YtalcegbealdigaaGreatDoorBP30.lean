/-
Proofs for the law ProjectIdentityWeighs, part 30. Conditions: none.
-/
import Derived.Test.YtalcegbealdigaaGreatDoorBP29
import Derived.Test.YtalcegbealdigaaGreatDoorBP28
import Derived.Test.YtalcegbealdigaaGreatDoorBP11
import Derived.Test.YtalcegbealdigaaGreatDoorBP13
set_option maxRecDepth 100000
set_option maxHeartbeats 4000000
set_option linter.all false
namespace Go.Ab
open Enc (enc)
theorem zns {p q:Rat} (h0:0<=p) (h1:p<=1) (k0:0<=q) (k1:q<=1):p*q<=1:=by
 have h2:p*q<=p*1:=Rat.mul_le_mul_of_nonneg_left k1 h0
 rw [Rat.mul_one] at h2
 exact Rat.le_trans h2 h1
theorem za6 {k:Int} (hk:1<=k/\k<=5) {v w:GW} (hv:v.si k) (hw:w.si k):(zax k v w).si k:=by
 have:k=1\/k=2\/k=3\/k=4\/k=5:=by omega
 rcases this with rfl|rfl|rfl|rfl|rfl
 ·rw [si1]; exact ⟨rfl,rfl,rfl,rfl,rfl,zbe _⟩
 ·obtain ⟨h1,h2,h3,h4,h5,h6,h7⟩:=si2.1 hv
  obtain ⟨k1,k2,k3,k4,k5,k6,k7⟩:=si2.1 hw
  unfold zax
  rw [if_neg (by omega),if_pos rfl]
  split
  ·rw [si2]; exact ⟨rfl,rfl,rfl,rfl,Int.le_refl 0,by show (0:Int)<=1099511627776; omega,fun _=>rfl⟩
  ·rename_i h
   rw [si2]; exact ⟨rfl,rfl,rfl,rfl,by show 0<=v.cost+w.cost; omega,by show v.cost+w.cost<=1099511627776; omega,fun h=>by cases h⟩
 ·obtain ⟨h1,h2,h3,h4,h5,h6,h7,h8⟩:=si3.1 hv
  obtain ⟨k1,k2,k3,k4,k5,k6,k7,k8⟩:=si3.1 hw
  rw [si3]
  refine ⟨rfl,rfl,rfl,rfl,rfl,zbe _,?_,?_⟩
  ·show 0<=(rto (v.q.v*w.q.v)).v
   rw [zbg]; exact Rat.mul_nonneg h7 k7
  ·show (rto (v.q.v*w.q.v)).v<=1
   rw [zbg]; exact zns h7 h8 k7 k8
 ·rw [si4]; exact ⟨rfl,rfl,rfl,rfl,rfl⟩
 ·rw [si5]; exact ⟨rfl,rfl,rfl,rfl,rfl,zdn _ _⟩
theorem za3 {r:GRing} {v w:GW} (hv:v.chk r) (hw:w.chk r):(r.times v w).chk r:=by
 by_cases h6:r.kind=6
 ·have hp:=GRing.ok_parts hv.1 h6
  have lv:=(hv.2.2 h6).1
  have lw:=(hw.2.2 h6).1
  refine ⟨hv.1,fun h=>absurd h6 h,fun _=>?_⟩
  have e:r.times v w=.mk gr0 0 false 0 [] (zcv r.parts v.parts w.parts):=by simp [GRing.times,h6]
  rw [e]
  refine ⟨zay lv lw,rfl,fun i h h'=>?_⟩
  simp only [GW.parts_mk] at h' ⊢
  rw [za9 h (by omega) (by omega) h']
  exact za6 (hp.2.2 _ (List.getElem_mem h)) ((hv.2.2 h6).2.2 i h (by omega)) ((hw.2.2 h6).2.2 i h (by omega))
 ·have hk:=GRing.ok_kind hv.1 h6
  have e:r.times v w=zax r.kind v w:=by simp [GRing.times,h6]
  rw [e]
  exact ⟨hv.1,fun _=>za6 ⟨hk.1,hk.2.1⟩ (hv.2.1 h6) (hw.2.1 h6),fun h=>absurd h h6⟩
theorem z3x {r:GRing} {v w:GW} {m n:Nat} (cv:v.chk r) (cw:w.chk r) (hv:v.mb m) (hw:w.mb n):(r.times v w).mb (m+n+1):=by
 by_cases h6:r.kind=6
 ·have hp:=GRing.ok_parts cv.1 h6
  have lv:=(cv.2.2 h6).1
  have lw:=(cw.2.2 h6).1
  have e:r.times v w=.mk gr0 0 false 0 [] (zcv r.parts v.parts w.parts):=by simp [GRing.times,h6]
  rw [e]
  have hl:=zay (ks:=r.parts) (vs:=v.parts) (ws:=w.parts) lv lw
  refine ⟨zjc ..,fun x hx=>?_⟩
  obtain ⟨i,hi,rfl⟩:=List.mem_iff_getElem.1 hx
  simp only [GW.parts_mk] at hi
  have h3:i<r.parts.length:=by omega
  have:=za9 h3 (by omega:i<v.parts.length) (by omega:i<w.parts.length) hi
  simp only [GW.parts_mk]
  rw [this]
  exact zrr (hp.2.2 _ (List.getElem_mem h3)) ((cv.2.2 h6).2.2 i h3 (by omega)) ((cw.2.2 h6).2.2 i h3 (by omega)) (hv.ps _ (List.getElem_mem _)) (hw.ps _ (List.getElem_mem _))
 ·have hk:=GRing.ok_kind cv.1 h6
  have e:r.times v w=zax r.kind v w:=by simp [GRing.times,h6]
  have sp:=za6 ⟨hk.1,hk.2.1⟩ (cv.2.1 h6) (cw.2.1 h6)
  rw [e]
  exact ⟨zrr ⟨hk.1,hk.2.1⟩ (cv.2.1 h6) (cw.2.1 h6) hv.o hw.o,fun x hx=>by rw [sp.1] at hx; cases hx⟩
theorem z43 (r:GRing) (v w:GW) (n:Nat) (hv:v.mb n) (hw:w.mb n) (hn:n<=900) (h0:216<=n) (cv:v.chk r) (cw:w.chk r):Sp P F.aa [enc r,enc v,enc w] (.pure (enc (r.plus v w))) :=
 zp4 r v w (n+1) (ztm cv hv h0) (ztm cw hw h0) (by omega) (by omega) cv cw
theorem zzo (r:GRing) (v w:GW) (n:Nat) (hv:v.mb n) (hw:w.mb n) (hn:n<=900) (h0:216<=n) (cv:v.chk r) (cw:w.chk r):Sp P F.ae [enc r,enc v,enc w] (.pure (enc (r.times v w))) :=
 zzn r v w (n+1) (ztm cv hv h0) (ztm cw hw h0) (by omega) (by omega) cv cw
end Go.Ab
namespace Go.Ab
open Enc (enc)
theorem z7j {v w:GW} (h1:v.q=w.q) (h2:v.cost=w.cost) (h3:v.inf=w.inf) (h4:v.set=w.set) (h5:v.poly=w.poly) (h6:v.parts=w.parts):v=w:=by
 cases v; cases w
 simp only [GW.q_mk,GW.cost_mk,GW.inf_mk,GW.set_mk,GW.poly_mk,GW.parts_mk] at h1 h2 h3 h4 h5 h6
 subst h1 h2 h3 h4 h5 h6; rfl
theorem ye6 {x y:GRat} (hx:x.valid=true) (hy:y.valid=true) (h:x.v=y.v):x=y:=by
 rw [<- zgo hx,<- zgo hy,h]
def trop (w:GW):Int:=if w.inf then 1099511627777 else w.cost
theorem zhp {v w:GW} (hv:v.si 2) (hw:w.si 2) (h:trop v=trop w):v=w:=by
 obtain ⟨h1,h2,h3,h4,h5,h6,h7⟩:=si2.1 hv
 obtain ⟨k1,k2,k3,k4,k5,k6,k7⟩:=si2.1 hw
 unfold trop at h
 refine z7j (h2.trans k2.symm) ?_ ?_ (h3.trans k3.symm) (h4.trans k4.symm) (h1.trans k1.symm)
 ·cases hi:v.inf<;>cases hj:w.inf<;>simp [hi,hj] at h<;>try omega
  rw [h7 hi,k7 hj]
 ·cases hi:v.inf<;>cases hj:w.inf<;>simp [hi,hj] at h<;>first|rfl|omega
theorem zdq {v w:GW} (hv:v.si 2) (hw:w.si 2):trop (zap 2 v w)=if trop w<trop v then trop w else trop v:=by
 obtain ⟨h1,h2,h3,h4,h5,h6,h7⟩:=si2.1 hv
 obtain ⟨k1,k2,k3,k4,k5,k6,k7⟩:=si2.1 hw
 unfold zap
 rw [if_neg (by omega),if_pos rfl]
 unfold trop
 cases hi:v.inf<;>cases hj:w.inf<;>simp [hi,hj]<;>(try split)<;>simp_all<;>omega
theorem zr8 {a b c:Rat} (h:a<b) (k:b<c):a<c:=Rat.not_le.1 fun e=>Rat.not_lt.2 (Rat.le_trans (Rat.le_of_lt k) e) h
theorem z0m {a b c:Rat} (h:a<=b) (k:b<c):a<c:=Rat.not_le.1 fun e=>Rat.not_le.2 k (Rat.le_trans e h)
theorem zsi (x y:GW):zap 3 x y=if x.q.v<y.q.v then y else x:=by simp [zap]
theorem zok {k:Int} (hk:1<=k/\k<=5) {v w:GW} (hv:v.si k) (hw:w.si k):zap k v w=zap k w v:=by
 have:k=1\/k=2\/k=3\/k=4\/k=5:=by omega
 rcases this with rfl|rfl|rfl|rfl|rfl
 ·simp only [zap,if_true,Rat.add_comm]
 ·refine zhp (zb8 hk hv hw) (zb8 hk hw hv) ?_
  rw [zdq hv hw,zdq hw hv]
  split<;>split<;>omega
 ·obtain ⟨h1,h2,h3,h4,h5,h6,h7,h8⟩:=si3.1 hv
  obtain ⟨k1,k2,k3,k4,k5,k6,k7,k8⟩:=si3.1 hw
  rw [zsi,zsi]
  by_cases a:v.q.v<w.q.v
  ·rw [if_pos a,if_neg (Rat.not_lt.2 (Rat.le_of_lt a))]
  ·by_cases b:w.q.v<v.q.v
   ·rw [if_neg a,if_pos b]
   ·rw [if_neg a,if_neg b]
    have e:v.q.v=w.q.v:=Rat.le_antisymm (Rat.not_lt.1 b) (Rat.not_lt.1 a)
    exact z7j (ye6 h6 k6 e) (h3.trans k3.symm) (h2.trans k2.symm) (h4.trans k4.symm) (h5.trans k5.symm) (h1.trans k1.symm)
 ·simp [zap,UInt64.or_comm]
 ·have pv:=si_p hv
  have pw:=si_p hw
  have e:padd v.poly w.poly=padd w.poly v.poly:=zi3 (zb9 _ pv) (zb9 _ pw) fun e=>by
   rw [zfa _ (zaj.1 pw).1,zfa _ (zaj.1 pv).1,Rat.add_comm]
  simp [zap,e]
theorem zmb {k:Int} (hk:1<=k/\k<=5) {u v w:GW} (hu:u.si k) (hv:v.si k) (hw:w.si k):zap k (zap k u v) w=zap k u (zap k v w):=by
 have:k=1\/k=2\/k=3\/k=4\/k=5:=by omega
 rcases this with rfl|rfl|rfl|rfl|rfl
 ·simp only [zap,if_true,GW.q_mk,zbg,Rat.add_assoc]
 ·refine zhp (zb8 hk (zb8 hk hu hv) hw) (zb8 hk hu (zb8 hk hv hw)) ?_
  rw [zdq (zb8 hk hu hv) hw,zdq hu hv,zdq hu (zb8 hk hv hw),zdq hv hw]
  repeat' split
  all_goals omega
 ·have s:=zsi
  rw [s u v,s v w]
  by_cases a:u.q.v<v.q.v
  ·rw [if_pos a]
   by_cases b:v.q.v<w.q.v
   ·rw [if_pos b,s v w,s u w,if_pos b,if_pos (zr8 a b)]
   ·rw [if_neg b,s v w,s u v,if_neg b,if_pos a]
  ·rw [if_neg a]
   by_cases b:v.q.v<w.q.v
   ·rw [if_pos b]
   ·rw [if_neg b,s u w,s u v,if_neg a,if_neg]
    intro c
    exact b (z0m (Rat.not_lt.1 a) c)
 ·simp [zap,GW.set_mk,UInt64.or_assoc]
 ·have pu:=si_p hu
  have pv:=si_p hv
  have pw:=si_p hw
  have e:padd (padd u.poly v.poly) w.poly=padd u.poly (padd v.poly w.poly):=zi3 (zb9 _ (zb9 _ pu)) (zb9 _ pu) fun e=>by
   rw [zfa _ (zaj.1 pw).1,zfa _ (zaj.1 pv).1,zfa _ (zaj.1 (zb9 _ pv)).1,zfa _ (zaj.1 pw).1,Rat.add_assoc]
  simp [zap,GW.poly_mk,e]
theorem zx8:∀ {ks:List Int} {vs ws:List GW},(∀ k∈ks,1<=k/\k<=5)->vs.length=ks.length->ws.length=ks.length->(∀ i,(h:i<ks.length)->(h':i<vs.length)->vs[i].si ks[i])->(∀ i,(h:i<ks.length)->(h':i<ws.length)->ws[i].si ks[i])->zd0 ks vs ws=zd0 ks ws vs:=by
 intro ks vs ws hk lv lw hv hw
 refine List.ext_getElem (by rw [za8 lv lw,za8 lw lv]) fun i h1 h2=>?_
 have h3:i<ks.length:=by rw [za8 lv lw] at h1; exact h1
 rw [zbl h3 (by omega) (by omega) h1,zbl h3 (by omega) (by omega) h2]
 exact zok (hk _ (List.getElem_mem h3)) (hv i h3 (by omega)) (hw i h3 (by omega))
theorem zg3 {r:GRing} {v w:GW} (cv:v.chk r) (cw:w.chk r):r.plus v w=r.plus w v:=by
 by_cases h6:r.kind=6
 ·have hp:=GRing.ok_parts cv.1 h6
  obtain ⟨lv,_,sv⟩:=cv.2.2 h6
  obtain ⟨lw,_,sw⟩:=cw.2.2 h6
  simp only [GRing.plus,if_pos h6,zx8 hp.2.2 lv lw sv sw]
 ·have hk:=GRing.ok_kind cv.1 h6
  simp only [GRing.plus,if_neg h6]
  exact zok ⟨hk.1,hk.2.1⟩ (cv.2.1 h6) (cw.2.1 h6)
theorem zdg {r:GRing} {u v w:GW} (cu:u.chk r) (cv:v.chk r) (cw:w.chk r):r.plus (r.plus u v) w=r.plus u (r.plus v w):=by
 by_cases h6:r.kind=6
 ·have hp:=GRing.ok_parts cv.1 h6
  obtain ⟨lu,_,su⟩:=cu.2.2 h6
  obtain ⟨lv,_,sv⟩:=cv.2.2 h6
  obtain ⟨lw,_,sw⟩:=cw.2.2 h6
  simp only [GRing.plus,if_pos h6,GW.parts_mk]
  congr 1
  have luv:=za8 lu lv
  have lvw:=za8 lv lw
  refine List.ext_getElem (by rw [za8 luv lw,za8 lu lvw]) fun i h1 h2=>?_
  have h3:i<r.parts.length:=by rw [za8 luv lw] at h1; exact h1
  rw [zbl h3 (by omega) (by omega) h1,zbl h3 (by omega) (by omega) h2,zbl h3 (by omega) (by omega) (by omega),zbl h3 (by omega) (by omega) (by omega)]
  exact zmb (hp.2.2 _ (List.getElem_mem h3)) (su i h3 (by omega)) (sv i h3 (by omega)) (sw i h3 (by omega))
 ·have hk:=GRing.ok_kind cv.1 h6
  simp only [GRing.plus,if_neg h6]
  exact zmb ⟨hk.1,hk.2.1⟩ (cu.2.1 h6) (cv.2.1 h6) (cw.2.1 h6)
end Go.Ab
namespace Go.Ab
section
variable {α : Type} {key : α -> List Int}
def zet (key : α -> List Int) (l:List α) (i:Nat):List α := srt key (l.take i)++l.drop i
theorem z5v (s:List α) (x : α):(insR key s x).length=s.length+1:=by
 induction s with
 | nil=>rfl
 | cons z r ih=>simp only [insR]; split<;>simp [ih]
theorem z5u {s:List α} {x y : α}:y∈insR key s x ↔ y=x\/y∈s:=by
 induction s with
 | nil=>simp [insR]
 | cons z r ih =>
  simp only [insR]; split
  ·simp
  ·simp only [List.mem_cons,ih]
   exact ⟨fun h=>by rcases h with h|h|h<;>simp [h],fun h=>by rcases h with h|h|h<;>simp [h]⟩
theorem zvy (l:List α) (x : α):srt key (l++[x])=insR key (srt key l) x:=by simp [srt,List.foldl_append]
theorem za4 (l:List α):Srt key (srt key l)/\(srt key l).length=l.length/\∀ y,y∈srt key l ↔ y∈l:=by
 have:∀ (n:Nat) (l:List α),l.length=n->Srt key (srt key l)/\(srt key l).length=l.length/\∀ y,y∈srt key l ↔ y∈l:=by
  intro n
  induction n with
  | zero=>intro l hl; have:=List.eq_nil_of_length_eq_zero hl; subst this; simp [srt,Srt]
  | succ n ih =>
   intro l hl
   obtain ⟨l',y,rfl⟩:∃ l' y,l=l'++[y]:=⟨l.dropLast,l.getLast (by intro h; simp [h] at hl),(List.dropLast_concat_getLast _).symm⟩
   obtain ⟨h1,h2,h3⟩:=ih l' (by simpa using hl)
   rw [zvy]
   refine ⟨zm0 h1,by rw [z5v,h2]; simp,fun z=>?_⟩
   rw [z5u,h3]; simp [or_comm]
 exact this _ l rfl
theorem zoa (l:List α):zet key l 1=l:=by cases l<;>simp [zet,srt,insR]
theorem zrx {l:List α} {i:Nat} (h:l.length<=i):zet key l i=srt key l:=by
 unfold zet; rw [List.take_of_length_le h,List.drop_of_length_le h,List.append_nil]
theorem zrw {l:List α} {i:Nat} (h:i<l.length):zet key l i=srt key (l.take i)++l[i]::l.drop (i+1):=by
 unfold zet; rw [List.drop_eq_getElem_cons h]
theorem zf3 {l:List α} {i:Nat} (h:i<l.length):zet key l (i+1)=insR key (srt key (l.take i)) l[i]++l.drop (i+1):=by
 unfold zet; rw [List.take_succ_eq_append_getElem h,zvy]
theorem zm1 {x : α} {B:List α} (hB:∀ b∈B,key x<key b):∀ {A:List α},(∀ a∈A,¬ key x<key a)->insR key (A++B) x=A++x::B
 | [],_=>by
  cases B with
  | nil=>rfl
  | cons b B=>simp [insR,hB b (by simp)]
 | a::A,h=>by
  have:=zm1 hB (A:=A) fun y hy=>h y (by simp [hy])
  simp [insR,h a (by simp),this]
theorem zrv (A B:List α) (z x : α) (rest:List α):((A++[z]++x::(B++rest)).set (A.length+1) z).set A.length x=A++x::((z::B)++rest):=by
 simp [List.set_append,List.append_assoc]
end
end Go.Ab
namespace Go.Ab
section
variable {α : Type} {key : α -> List Int} {up : α -> α -> α} {nw : α -> α}
theorem z1m:∀ {out:List α} {x y : α},x∈mst key up nw out y->x∈out\/x=nw y\/∃ z∈out,x=up z y
 | [],x,y,h=>by simp [mst] at h; exact .inr (.inl h)
 | [z],x,y,h=>by
  simp only [mst] at h
  split at h
  ·simp at h; exact .inr (.inr ⟨z,by simp,h⟩)
  ·simp at h; rcases h with h|h
   ·exact .inl (by simp [h])
   ·exact .inr (.inl h)
 | z::w::r,x,y,h=>by
  rw [zmm z y (by simp)] at h
  rcases List.mem_cons.1 h with h|h
  ·exact .inl (by simp [h])
  ·rcases z1m h with h|h|⟨u,h,e⟩
   ·exact .inl (List.mem_cons_of_mem _ h)
   ·exact .inr (.inl h)
   ·exact .inr (.inr ⟨u,List.mem_cons_of_mem _ h,e⟩)
theorem zlk:∀ {out:List α} {x y : α},x∈insF key up nw out y->x∈out\/x=nw y\/∃ z∈out,x=up z y
 | [],x,y,h=>by simp [insF] at h; exact .inr (.inl h)
 | z::r,x,y,h=>by
  simp only [insF] at h
  split at h
  ·rcases List.mem_cons.1 h with h|h
   ·exact .inl (by simp [h])
   ·rcases zlk h with h|h|⟨u,h,e⟩
    ·exact .inl (List.mem_cons_of_mem _ h)
    ·exact .inr (.inl h)
    ·exact .inr (.inr ⟨u,List.mem_cons_of_mem _ h,e⟩)
  ·split at h
   ·rcases List.mem_cons.1 h with h|h
    ·exact .inr (.inr ⟨z,by simp,h⟩)
    ·exact .inl (List.mem_cons_of_mem _ h)
   ·rcases List.mem_cons.1 h with h|h
    ·exact .inr (.inl h)
    ·exact .inl h
theorem zov (out:List α) (y : α):(mst key up nw out y).length<=out.length+1:=by
 match out with
 | []=>simp [mst]
 | [z]=>simp only [mst]; split<;>simp
 | z::w::r =>
  rw [zmm z y (by simp)]
  have:=zov (w::r) y
  simp only [List.length_cons] at this ⊢; omega
theorem zm2:∀ (out:List α) (y : α),(insF key up nw out y).length<=out.length+1
 | [],y=>by simp [insF]
 | z::r,y=>by
  simp only [insF]
  have:=zm2 r y
  (repeat' split)<;>simp only [List.length_cons]<;>omega
theorem zf9 {l:List α} {k:Nat} (h:k<l.length):mrg key up nw (l.take (k+1))=mst key up nw (mrg key up nw (l.take k)) l[k]:=by
 rw [List.take_succ_eq_append_getElem h,zwn]
theorem zcz {l:List α} {k:Nat} (h:k<l.length):nfm key up nw (l.take (k+1))=insF key up nw (nfm key up nw (l.take k)) l[k]:=by
 rw [List.take_succ_eq_append_getElem h]; unfold nfm; rw [List.foldl_append]; rfl
theorem zmn {Q:Nat -> α -> Prop} (hm:∀ k x,Q k x->Q (k+1) x) {l:List α} (hn:∀ x∈l,Q 0 (nw x)) (hu:∀ k z,∀ x∈l,Q k z->Q (k+1) (up z x)) (h0:∀ k x,Q 0 x->Q k x) :
  ∀ k,k<=l.length->(mrg key up nw (l.take k)).length<=k/\∀ x∈mrg key up nw (l.take k),Q k x
 | 0,_=>by simp [mrg]
 | k+1,h=>by
  obtain ⟨i1,i2⟩:=zmn hm hn hu h0 k (by omega)
  have hk:k<l.length:=by omega
  rw [zf9 hk]
  refine ⟨Nat.le_trans (zov _ _) (by omega),fun x hx=>?_⟩
  rcases z1m hx with h|h|⟨z,h,e⟩
  ·exact hm _ _ (i2 x h)
  ·rw [h]; exact h0 _ _ (hn _ (List.getElem_mem hk))
  ·rw [e]; exact hu _ _ _ (List.getElem_mem hk) (i2 z h)
theorem zun {Q:Nat -> α -> Prop} (hm:∀ k x,Q k x->Q (k+1) x) {l:List α} (hn:∀ x∈l,Q 0 (nw x)) (hu:∀ k z,∀ x∈l,Q k z->Q (k+1) (up z x)) (h0:∀ k x,Q 0 x->Q k x) :
  ∀ k,k<=l.length->(nfm key up nw (l.take k)).length<=k/\∀ x∈nfm key up nw (l.take k),Q k x
 | 0,_=>by simp [nfm]
 | k+1,h=>by
  obtain ⟨i1,i2⟩:=zun hm hn hu h0 k (by omega)
  have hk:k<l.length:=by omega
  rw [zcz hk]
  refine ⟨Nat.le_trans (zm2 _ _) (by omega),fun x hx=>?_⟩
  rcases zlk hx with h|h|⟨z,h,e⟩
  ·exact hm _ _ (i2 x h)
  ·rw [h]; exact h0 _ _ (hn _ (List.getElem_mem hk))
  ·rw [e]; exact hu _ _ _ (List.getElem_mem hk) (i2 z h)
end
end Go.Ab
namespace Go.Ab
section
variable (r:GRing)
def wsum (ws:List GW):GW:=ws.foldr r.plus r.zero
variable {r} (hr:r.ok=true)
include hr in
theorem zil:∀ {ws:List GW},(∀ w∈ws,w.chk r)->(wsum r ws).chk r
 | [],_=>zbn hr
 | w::ws,h=>zbs (h w (by simp)) (zil fun x hx=>h x (by simp [hx]))
include hr in
theorem zlm {v:GW} (hv:v.chk r):r.plus r.zero v=v:=by rw [zg3 (zbn hr) hv]; exact zci hv
include hr in
theorem zln:∀ {a b:List GW},(∀ w∈a,w.chk r)->(∀ w∈b,w.chk r)->wsum r (a++b)=r.plus (wsum r a) (wsum r b)
 | [],b,_,hb=>(zlm hr (zil hr hb)).symm
 | w::a,b,ha,hb=>by
  show r.plus w (wsum r (a++b))=r.plus (r.plus w (wsum r a)) (wsum r b)
  rw [zln (fun x hx=>ha x (by simp [hx])) hb,zdg (ha w (by simp)) (zil hr fun x hx=>ha x (by simp [hx])) (zil hr hb)]
end
section
variable {α : Type} (key : α -> List Int) (wt : α -> GW) (r:GRing)
def atQ (l:List α) (p:List Int->Bool):GW:=wsum r ((l.filter fun x=>p (key x)).map wt)
variable {key wt r} {up : α -> α -> α} (hr:r.ok=true) (hk:∀ z y,key (up z y)=key z) (hw:∀ z y,wt (up z y)=r.plus (wt z) (wt y))
theorem z3i (p:List Int->Bool):atQ key wt r [] p=r.zero:=rfl
theorem zcf (x : α) (l:List α) (p:List Int->Bool):atQ key wt r (x::l) p=if p (key x)=true then r.plus (wt x) (atQ key wt r l p) else atQ key wt r l p:=by
 unfold atQ
 by_cases h:p (key x)=true<;>simp [h,wsum]
include hr in
theorem zu9 {l:List α} (h:∀ x∈l,(wt x).chk r) (p:List Int->Bool):(atQ key wt r l p).chk r:=zil hr fun w hw=>by
 obtain ⟨x,hx,rfl⟩:=List.mem_map.1 hw
 exact h x (List.mem_filter.1 hx).1
include hr in
theorem zy7 {a b:List α} (ha:∀ x∈a,(wt x).chk r) (hb:∀ x∈b,(wt x).chk r) (p:List Int->Bool):atQ key wt r (a++b) p=r.plus (atQ key wt r a p) (atQ key wt r b p):=by
 unfold atQ
 rw [List.filter_append,List.map_append]
 exact zln hr (fun w hw=>by obtain ⟨x,hx,rfl⟩:=List.mem_map.1 hw; exact ha x (List.mem_filter.1 hx).1) (fun w hw=>by obtain ⟨x,hx,rfl⟩:=List.mem_map.1 hw; exact hb x (List.mem_filter.1 hx).1)
include hr hk hw in
theorem zxo {x : α} (hx:(wt x).chk r) (p:List Int->Bool):∀ {out:List α},(∀ z∈out,(wt z).chk r)->atQ key wt r (insF key up id out x) p=r.plus (atQ key wt r out p) (if p (key x)=true then wt x else r.zero)
 | [],_=>by
  show atQ key wt r [x] p=_
  rw [zcf,z3i,zlm hr (by split; exact hx; exact zbn hr)]
  split
  ·exact zci hx
  ·rfl
 | z::o,h=>by
  have hz:=h z (by simp)
  have ho:∀ y∈o,(wt y).chk r:=fun y hy=>h y (by simp [hy])
  have co:=zu9 (key:=key) hr ho p
  have ce:(if p (key x)=true then wt x else r.zero).chk r:=by split; exact hx; exact zbn hr
  simp only [insF]
  split
  ·rw [zcf,zcf,zxo hx p ho]
   split
   ·rw [zdg hz co ce]
   ·rfl
  ·split
   ·rename_i h1 h2
    rw [zcf,zcf,hk,hw]
    by_cases h3:p (key z)=true
    ·rw [if_pos h3,if_pos h3,if_pos (h2 ▸ h3),zdg hz hx co,zdg hz co hx,zg3 hx co]
    ·rw [if_neg h3,if_neg h3,if_neg (h2 ▸ h3),zci co]
   ·show atQ key wt r (x::z::o) p=_
    rw [zcf x]
    have cz:=zu9 (key:=key) hr h p
    split
    ·exact zg3 hx cz
    ·exact (zci cz).symm
include hr hk hw in
theorem z3j {l:List α} (h:∀ x∈l,(wt x).chk r) (p:List Int->Bool):∀ n,n<=l.length->(∀ z∈nfm key up id (l.take n),(wt z).chk r)/\atQ key wt r (nfm key up id (l.take n)) p=atQ key wt r (l.take n) p
 | 0,_=>⟨by simp [nfm],rfl⟩
 | n+1,hn=>by
  obtain ⟨i1,i2⟩:=z3j h p n (by omega)
  have hl:n<l.length:=by omega
  have hx:=h _ (List.getElem_mem hl)
  rw [zcz hl]
  refine ⟨fun z hz=>?_,?_⟩
  ·rcases zlk hz with h1|h1|⟨y,h1,h2⟩
   ·exact i1 z h1
   ·rw [h1]; exact hx
   ·rw [h2,hw]; exact zbs (i1 y h1) hx
  ·rw [zxo hr hk hw hx p i1,i2,List.take_succ_eq_append_getElem hl,zy7 hr (fun x hx=>h x (List.mem_of_mem_take hx)) (fun x hx=>by simp at hx; rw [hx]; exact h _ (List.getElem_mem hl)),zcf,z3i]
   congr 1
   split
   ·exact (zci hx).symm
   ·rfl
end
end Go.Ab
namespace Go.Ab
open Enc (enc)
attribute [local go_sem] zas Opd.slots
def kF (a b c d e:FuncId) (k:Int):FuncId:=if k=1 then a else if k=2 then b else if k=3 then c else if k=4 then d else e
def kF0:=kF F.dq F.dv F.d4 F.d6 F.d9
def kF1:=kF F.bo F.dw F.bo F.d7 F.ee
def kF2:=kF F.nt F.n8 F.nt F.n9 F.oy
def kF3:=kF F.dt F.dz F.d5 F.d8 F.ej
def kC3 (k:Int):List PV:=if k=3 then [.ref (fraB .any)] else []
def kF4:=kF F.n7 F.ow F.n7 F.ox F.oz
theorem zgc (k:Int) (hk:1<=k/\k<=5):∃ f5 f6 f7 f8 c5 c8,zny k=.agg [.fn (kF0 k) [],.fn (kF1 k) [],.fn (kF2 k) [],.fn (kF3 k) (kC3 k),.fn (kF4 k) [],.fn f5 c5,.fn f6 [],.fn f7 [],.fn f8 c8]:=by
 have:k=1\/k=2\/k=3\/k=4\/k=5:=by omega
 rcases this with rfl|rfl|rfl|rfl|rfl<;>exact ⟨_,_,_,_,_,_,rfl⟩
theorem z27 (k:Int) (hk:1<=k/\k<=5) (w:GW) (hw:w.sm 1048576):Sp P (kF0 k) [enc w] (.pure (.bool (decide (w.si k)))):=by
 have:k=1\/k=2\/k=3\/k=4\/k=5:=by omega
 rcases this with rfl|rfl|rfl|rfl|rfl
 ·exact zv3 w hw
 ·exact z6t w hw
 ·exact z59 w hw
 ·exact z4i w hw
 ·exact z41 w hw
theorem zv2:Sp P F.bo [] (.pure (enc (.mk gr0 0 false 0 [] []:GW))):=by
 refine Sp.vz c.bo fun _=>?_
 simp [g.bo,go_sem]
theorem z4h:Sp P F.d7 [] (.pure (enc (.mk gr0 0 false 0 [] []:GW))):=by
 refine Sp.vz c.d7 fun _=>?_
 simp [g.d7,go_sem]
theorem z40:Sp P F.ee [] (.pure (enc (.mk gr0 0 false 0 [] []:GW))):=by
 refine Sp.vz c.ee fun _=>?_
 simp [g.ee,go_sem]
theorem z6s:Sp P F.dw [] (.pure (enc (.mk gr0 0 true 0 [] []:GW))):=by
 refine Sp.vz c.dw fun _=>?_
 simp [g.dw,go_sem]
theorem zvi (k:Int) (hk:1<=k/\k<=5):Sp P (kF1 k) [] (.pure (enc (zbz k))):=by
 have:k=1\/k=2\/k=3\/k=4\/k=5:=by omega
 rcases this with rfl|rfl|rfl|rfl|rfl
 ·exact zv2
 ·exact z6s
 ·exact zv2
 ·exact z4h
 ·exact z40
theorem z21 (r:GRing) (hp:∀ k∈r.parts,1<=k/\k<=5) (hl:r.parts.length<=3) (f:FuncId) (caps:List PV) (out:List GW) (ho:out.length=r.parts.length)
  (hf:∀ i,(h:i<r.parts.length)->(h':i<out.length)->Sp P f (zny r.parts[i]::.int .i64 i::caps) (.pure (enc out[i]))) :
  Sp P F.ia [enc r,.fn f caps] (.pure (enc (.mk gr0 0 false 0 [] out:GW))):=by
 refine Sp.vz c.ia fun _=>?_
 simp [g.ia,go_sem]
 refine zag (S:=fun k:Nat=>mkSt [(1,.p (.fn f caps)),(4,.ptr 1 0 0 0),(5,.ptr 2 0 0 0),(9,.p (.sl (ens r.parts))),(10,.p (.int .i64 r.parts.length)),(11,.p (.int .i64 k))]
   [(1,⟨8,[.agg [.p (.bool false),.nil,.nil,.p (.int .i64 0),.p (.bool false),.p (.int .u64 0),.nil,.nil]]⟩),
    (2,⟨8,[.agg [.p (.bool false),.nil,.nil,.p (.int .i64 0),.p (.bool false),.p (.int .u64 0),.nil,.own 3 0 0 k]]⟩),(3,⟨8,avs (out.take k)⟩)])
  (I:=fun k=>k<=r.parts.length) (m:=fun k=>r.parts.length - k) 0
  ((Weak.nilCell (s0:=5) (g0:=0) (i:=7) (s:=77) (sz:=8) rfl).trans (Weak.to [1,4,5,9,10,11] [((4,0),1),((5,0),2),((77,0),3)] (by simp [go_sem]))) (by omega) ?_
 rintro k h1 R hn hr hx
 have e1:=i64s k (by omega)
 simp [g.sd,mkSt,go_sem]
 refine ⟨fun hk=>?_,fun hk=>hx _ _ ?_⟩
 ·have hk':k<out.length:=by omega
  refine zae hk ?_
  try simp [go_sem]
  refine zaa (zmy r.parts[k] (hp _ (List.getElem_mem hk))) rfl ?_
  obtain ⟨f5,f6,f7,f8,c5,c8,hA⟩:=zgc r.parts[k] (hp _ (List.getElem_mem hk))
  have hf':=hf k hk hk'
  rw [hA] at hf'
  simp [hA,go_sem]
  refine zaa hf' (zbw rfl (zbw rfl (zed _ _))) ?_
  have hts:avs (out.take (k+1))=avs (out.take k)++[.p (enc out[k])]:=by
   rw [List.take_succ_eq_append_getElem hk',zbp]; rfl
  simp [e1,go_sem]
  exact ⟨⟨by omega,by omega⟩,hn (k+1) _ (Weak.to [1,4,5,9,10,11] [((1,0),1),((2,0),2),((24,0),3)] (by simp [go_sem,hts])) (by omega) (by omega)⟩
 ·have:k=out.length:=by omega
  subst this
  simp [go_sem]
end Go.Ab
namespace Go.Ab
open Enc (enc)
attribute [local go_sem] zas Opd.slots
theorem zze (k:Int) (hk:1<=k/\k<=5) (i:Int):Sp P F.ic [zny k,.int .i64 i] (.pure (enc (zbz k))):=by
 obtain ⟨f5,f6,f7,f8,c5,c8,hA⟩:=zgc k hk
 rw [hA]
 refine Sp.vz c.ic fun _=>?_
 simp [g.ic,go_sem]
 refine zaa (zvi k hk) rfl ?_
 simp [go_sem]
theorem zfy (r:GRing):Sp P F.bk [enc r] (.pure (enc r.zero)):=by
 refine Sp.vz c.bk fun _=>?_
 simp [g.bk,go_sem]
 refine zaa (zfi r) rfl ?_
 rcases Bool.eq_false_or_eq_true r.ok with hr0|hr0
 rotate_left
 ·simp [hr0,GRing.zero,gw0,go_sem]
 simp [hr0,go_sem]
 refine ⟨fun h6=>?_,fun h6=>?_⟩
 ·have hp:=GRing.ok_parts hr0 h6
  refine zaa (z21 r hp.2.2 hp.2.1 F.ic [] (r.parts.map zbz) (by simp) fun i h h'=>by simpa using zze r.parts[i] (hp.2.2 _ (List.getElem_mem h)) i) rfl ?_
  simp [hr0,GRing.zero,h6,go_sem]
 ·have hk:=GRing.ok_kind hr0 h6
  obtain ⟨f5,f6,f7,f8,c5,c8,hA⟩:=zgc r.kind ⟨hk.1,hk.2.1⟩
  refine zaa (zmy r.kind ⟨hk.1,hk.2.1⟩) rfl ?_
  simp [hA,go_sem]
  refine zaa (zvi r.kind ⟨hk.1,hk.2.1⟩) rfl ?_
  simp [hr0,GRing.zero,hk.2.2,zbz,go_sem]
theorem zhh (r:GRing) (w:GW) (hw:w.sm 1048576):Sp P F.bj [enc r,enc w] (.pure (.bool (decide (w.chk r)))):=by
 refine Sp.vz c.bj fun _=>?_
 simp [g.bj,go_sem]
 refine zaa (zfi r) rfl ?_
 rcases Bool.eq_false_or_eq_true r.ok with hr0|hr0
 rotate_left
 ·simp [hr0,GW.chk,go_sem]
 simp [hr0,go_sem]
 refine ⟨fun h6=>?_,fun h6=>?_⟩
 rotate_left
 ·have hk:=GRing.ok_kind hr0 h6
  obtain ⟨f5,f6,f7,f8,c5,c8,hA⟩:=zgc r.kind ⟨hk.1,hk.2.1⟩
  refine zaa (zmy r.kind ⟨hk.1,hk.2.1⟩) rfl ?_
  simp [hA,go_sem]
  refine zab (z27 r.kind ⟨hk.1,hk.2.1⟩ w hw) ?_
  simp [GW.chk,hr0,h6,go_sem]
 have hp:=GRing.ok_parts hr0 h6
 refine ⟨fun hl=>?_,fun hl h=>?_⟩
 rotate_left
 ·have:=(h.2.2 h6).1; omega
 have hl':w.parts.length=r.parts.length:=by omega
 refine zab (zen w hw (.mk gr0 0 false 0 [] w.parts)) ?_
 simp [go_sem]
 refine ⟨fun he=>?_,fun he h=>he (h.2.2 h6).2.1⟩
 refine zag (S:=fun k:Nat=>mkSt [(3,.ptr 1 0 0 0),(35,.p (.sl (ens r.parts))),(36,.p (.int .i64 r.parts.length)),(37,.p (.int .i64 k))] [(1,⟨8,[.p (enc w)]⟩)]) (I:=fun k=>k<=r.parts.length/\∀ i,(h:i<r.parts.length)->(h':i<w.parts.length)->i<k->w.parts[i].si r.parts[i]) (m:=fun k=>r.parts.length - k) 0
  (Weak.to [3,35,36,37] [((3,0),1)] (by simp [go_sem])) ⟨by omega,fun i h h' h0=>by omega⟩ ?_
 rintro k ⟨h7,h8⟩ R hn hr hx
 have e1:=i64s k (by omega)
 simp [g.ro,mkSt,go_sem]
 refine ⟨fun hk=>?_,fun hk=>hx _ _ ?_⟩
 ·have hk2:k<w.parts.length:=by omega
  have hpk:=hp.2.2 _ (List.getElem_mem hk)
  obtain ⟨f5,f6,f7,f8,c5,c8,hA⟩:=zgc r.parts[k] hpk
  refine zae hk ?_
  try simp [go_sem]
  refine zaa (zmy r.parts[k] hpk) rfl ?_
  simp [hA,go_sem]
  refine zae hk2 ?_
  try simp [go_sem]
  refine zab (z27 r.parts[k] hpk w.parts[k] (hw.parts _ (List.getElem_mem hk2))) ?_
  by_cases h9:w.parts[k].si r.parts[k]
  ·simp [h9,e1,go_sem]
   refine hn (k+1) _ (Weak.to [3,35,36,37] [((1,0),1)] (by simp [go_sem])) ⟨by omega,fun i h h' hi=>?_⟩ (by omega)
   by_cases hik:i<k
   ·exact h8 i h h' hik
   ·have:i=k:=by omega
    subst this; exact h9
  ·simp [h9,go_sem]
   refine hr _ ?_
   have:¬ w.chk r:=fun h=>h9 ((h.2.2 h6).2.2 k hk hk2)
   simp [this,go_sem]
 ·have:w.chk r:=⟨hr0,fun h=>absurd h6 h,fun _=>⟨hl',he,fun i h h'=>h8 i h h' (by omega)⟩⟩
  simp [this,go_sem]
theorem ziq (r:GRing) (w:GW) (hw:w.sm 1048576):Sp P F.lk [enc r,enc w] (.pure (enc (w.tk r))):=by
 refine Sp.vz c.lk fun _=>?_
 simp [g.lk,go_sem]
 refine zab (zhh r w hw) ?_
 by_cases hc:w.chk r
 ·simp [hc,GW.tk,go_sem]
 ·simp [hc,GW.tk,go_sem]
  refine zab (zfy r) ?_
  simp [go_sem]
end Go.Ab
namespace Go.Ab
open Enc (enc)
attribute [local go_sem] zas Opd.slots
theorem z4y (v w:GW) (hv:v.sm 1048576) (hw:w.sm 1048576):Sp P F.dt [enc v,enc w] (.pure (enc (zap 1 v w))):=by
 refine Sp.vz c.dt fun _=>?_
 simp [g.dt,go_sem]
 refine zaa (zl8 v.q w.q hv.q hw.q) rfl ?_
 simp [zap,go_sem]
theorem z4g (v w:GW):Sp P F.d8 [enc v,enc w] (.pure (enc (zap 4 v w))):=by
 refine Sp.vz c.d8 fun _=>?_
 simp [g.d8,go_sem,zap,zwd]
theorem z9d (v w:GW):Sp P F.d0 [enc v,enc w] (.pure (.bool (!v.inf&&(w.inf||decide (v.cost<w.cost))))):=by
 refine Sp.vz c.d0 fun _=>?_
 simp [g.d0,go_sem]
 rcases Bool.eq_false_or_eq_true v.inf with h1|h1<;>rcases Bool.eq_false_or_eq_true w.inf with h2|h2<;>simp [go_sem,h1,h2]
theorem z6r (v w:GW) (hv:v.si 2) (hw:w.si 2):Sp P F.dz [enc v,enc w] (.pure (enc (zap 2 v w))):=by
 refine Sp.vz c.dz fun _=>?_
 simp [g.dz,go_sem]
 refine zab (z9d w v) ?_
 rcases Bool.eq_false_or_eq_true v.inf with h1|h1
 ·rcases Bool.eq_false_or_eq_true w.inf with h2|h2
  ·have hvw:v=w:=by
    have a:=si2.1 hv
    have b:=si2.1 hw
    exact GW.ext (by rw [a.2.1,b.2.1]) (by rw [a.2.2.2.2.2.2 h1,b.2.2.2.2.2.2 h2]) (by rw [h1,h2]) (by rw [a.2.2.1,b.2.2.1]) (by rw [a.2.2.2.1,b.2.2.2.1]) (by rw [a.1,b.1])
   subst hvw
   simp [go_sem,h1,zap]
  ·simp [go_sem,h1,h2,zap]
 ·rcases Bool.eq_false_or_eq_true w.inf with h2|h2
  ·simp [go_sem,h1,h2,zap]
  ·by_cases h3:w.cost<v.cost
   ·simp [go_sem,h1,h2,h3,zap]
   ·simp [go_sem,h1,h2,h3,zap]
theorem z58 (v w:GW) (hv:v.sm 1048576) (hw:w.sm 1048576):Sp P F.i6 [enc v,enc w] (.pure (.bool (decide (w.q.v<v.q.v)))):=by
 refine Sp.vz c.i6 fun _=>?_
 simp [g.i6,go_sem]
 refine zaa (zl7 v.q w.q hv.q hw.q) rfl ?_
 simp [go_sem,z0a]
theorem z57 (v w:GW) (hv:v.sm 1048576) (hw:w.sm 1048576) (sv:v.si 3) (sw:w.si 3):Sp P F.d5 [enc v,enc w,.ref (fraB .any)] (.pure (enc (zap 3 v w))):=by
 refine Sp.of_vmW c.d5 (by simp) (Weak.openRef (t:=2) (v:=fraB .any) (n:=9) (by simp [go_sem]) rfl) ?_
 simp [g.d5,go_sem,fraB]
 refine zab (z58 w v hw hv) ?_
 have key:∀ x:GW,x.si 3->x=.mk (rto x.q.v) 0 false 0 [] []:=fun x hx=>by
  have a:=si3.1 hx
  exact GW.ext (zgo a.2.2.2.2.2.1).symm a.2.2.1 a.2.1 a.2.2.2.1 a.2.2.2.2.1 a.1
 have hg0:gr0.v=0:=by rw [show gr0=rto 0 from zck.symm,zbg]
 by_cases h:v.q.v<w.q.v
 ·have e:zap 3 v w=.mk (rto w.q.v) 0 false 0 [] []:=by simp only [zap,h,if_true]; exact key w sw
  rw [e]
  simp [go_sem,h]
  have:=zl8 w.q gr0 hw.q (zh3 _)
  rw [hg0,Rat.add_zero] at this
  refine zaa this rfl ?_
  simp [go_sem]
 ·have e:zap 3 v w=.mk (rto v.q.v) 0 false 0 [] []:=by simp only [zap,h,if_false]; exact key v sv
  rw [e]
  simp [go_sem,h]
  have:=zl8 v.q gr0 hv.q (zh3 _)
  rw [hg0,Rat.add_zero] at this
  refine zaa this rfl ?_
  simp [go_sem]
end Go.Ab
namespace Go.Ab
open Enc (enc)
section
variable {P:Program} {K:Ctx} {Z Z':Cz} {st st' st1 st2:St} {w w':World} {a:Act} {N:Nat} {ex:Exit} {A B:Option FA} {Post:Exit->St->Option FA->Prop} {PostI:St->Option FA->Prop}
theorem zn2 {c:Callee} {ts:Array TypeId} {aq:List Opd} {f0:FuncId} {xs0:List Opd} (h:zcr P c ts aq=some (.call f0 xs0)):∃ g,c=.value g/\zah g=some (.c (.p (.fn f0 [])))/\aq=xs0:=by
 unfold zcr at h
 split at h
 ·rename_i g
  split at h
  ·rename_i hg; cases h; exact ⟨g,rfl,hg,rfl⟩
  ·cases h
  ·cases h
 ·cases h
 ·exfalso
  repeat' split at h
  all_goals first
   | cases h
   | (obtain ⟨_,_,h⟩:=mapS h; cases h)
theorem zbd {α : Type} {x:Option α} {f : α -> Option IOp} {f0:FuncId} {xs0:List Opd} (h:x.bind f=some (.call f0 xs0)) (k:∀ y,f y≠some (.call f0 xs0)):False:=by
 obtain ⟨y,_,h⟩:=zcs h; exact k y h
theorem zep {α : Type} {x:Option α} {f : α -> IOp} {f0:FuncId} {xs0:List Opd} (h:x.map f=some (.call f0 xs0)) (k:∀ y,f y ≠ .call f0 xs0):False:=by
 obtain ⟨y,_,h⟩:=mapS h; exact k y h
theorem ztk {t:TypeId} {m k:Operand} {f0:FuncId} {xs0:List Opd} (h:zgg P t m k=some (.call f0 xs0)):False:=by
 unfold zgg at h
 repeat' split at h
 all_goals first
  | exact zbd h fun _ h=>zbd h fun _ h=>zep h fun _ h=>by cases h
  | cases h
theorem zq1 {t:TypeId} {x:Operand} {lo hi mx:Option Operand} {f0:FuncId} {xs0:List Opd} (h:zfw P t x lo hi mx=some (.call f0 xs0)):False:=by
 unfold zfw at h
 repeat' split at h
 all_goals first
  | exact zbd h fun _ h=>zbd h fun _ h=>zep h fun _ h=>by cases h
  | cases h
theorem zu8 {op:BinOp} {x y:Opd} {f0:FuncId} {xs0:List Opd} (h:zih op x y=some (.call f0 xs0)):False:=by
 unfold zih at h
 repeat' split at h
 all_goals cases h
theorem zti {fn:Fn} {x y:Array Operand} {f0:FuncId} {xs0:List Opd} (h:zhw fn x y=some (.call f0 xs0)):False:=by
 unfold zhw at h
 repeat' split at h
 all_goals first
  | exact zep h fun _ h=>by cases h
  | cases h
theorem zpg {op:Op} {f0:FuncId} {xs0:List Opd} (h:zb1 P op=some (.call f0 xs0)):∃ cc h,op=.call cc/\cc.callee=.value h/\zah h=some (.c (.p (.fn f0 [])))/\za1 cc.args.toList=some xs0:=by
 cases op
 case call c =>
  simp only [zb1] at h
  obtain ⟨aq,ha,h⟩:=zcs h
  obtain ⟨g,h1,h2,rfl⟩:=zn2 h
  exact ⟨c,g,rfl,h1,h2,ha⟩
 case makeMap|mapUpdate|range|next|entry=>cases h
 case lookup t m k c=>cases c<;>first|exact (ztk h).elim|cases h
 case slice=>exact (zq1 h).elim
 case makeFunc=>exact (zti h).elim
 case move|assign|alloc|box|nilCheck|extract=>exact (zep h fun _ h=>by cases h).elim
 case pick=>exact (zbd h fun _ h=>zbd h fun _ h=>zep h fun _ h=>by cases h).elim
 case binOp =>
  refine (zbd h fun _ h=>zbd h fun _ h=>?_).elim
  split at h
  ·cases h
  ·cases h
  ·exact zu8 h
  ·exact zep h fun _ h=>by cases h
 case unOp =>
  refine (zbd h fun _ h=>?_).elim
  split at h<;>cases h
 case convert =>
  refine (zbd h fun _ h=>?_).elim
  split at h<;>cases h
 case load=>refine (zbd h fun _ h=>?_).elim; split at h<;>cases h
 case store=>refine (zbd h fun _ h=>zbd h fun _ h=>?_).elim; split at h<;>cases h
 case build =>
  simp only [zb1] at h
  split at h
  ·refine (zbd h fun _ h=>zbd h fun _ h=>?_).elim
   split at h
   ·exact zep h fun _ h=>by cases h
   ·cases h
  ·refine (zbd h fun _ h=>zbd h fun _ h=>?_).elim
   split at h
   ·exact zep h fun _ h=>by cases h
   ·cases h
  ·cases h
 case buildSlice =>
  simp only [zb1] at h
  split at h
  ·exact (zbd h fun _ h=>zep h fun _ h=>by cases h).elim
  ·cases h
 case makeSlice =>
  simp only [zb1] at h
  split at h
  ·refine (zbd h fun _ h=>zbd h fun _ h=>zbd h fun _ h=>?_).elim
   split at h<;>cases h
  ·cases h
 case fieldAddr =>
  simp only [zb1] at h
  split at h
  ·split at h
   ·split at h
    ·exact (zep h fun _ h=>by cases h).elim
    ·cases h
   ·cases h
  ·cases h
 case field =>
  simp only [zb1] at h
  split at h
  ·split at h
   ·split at h
    ·exact (zep h fun _ h=>by cases h).elim
    ·cases h
   ·cases h
  ·cases h
 case indexAddr =>
  simp only [zb1] at h
  split at h
  ·split at h
   ·exact (zbd h fun _ h=>zep h fun _ h=>by cases h).elim
   ·cases h
  ·split at h
   ·exact (zbd h fun _ h=>zep h fun _ h=>by cases h).elim
   ·cases h
  ·cases h
 case index =>
  simp only [zb1] at h
  split at h
  ·split at h
   ·exact (zbd h fun _ h=>zep h fun _ h=>by cases h).elim
   ·cases h
  ·exact (zbd h fun _ h=>zep h fun _ h=>by cases h).elim
  ·cases h
 all_goals cases h
theorem z1q {d:Option Nat} {f:FuncId} {xs:List Opd} {r:Nat} {ks vs args ks' vs':List PV} (hsp:SpU P f ks vs args ks' vs') (hxs:xs.map st.ev=.p (.mapv r)::args.map .p) (hn1:zec ks'=true) (hn2:zec vs'=true)
  (k:PostI (st.put d (.p (.tup []))) (some (zib r ks' vs'))):MOp P N ⟨d,.call f xs,none⟩ st (some (zib r ks vs)) PostI:=by
 intro ops j o K Z w a Q Kt hN hj hcc hs hA hK
 obtain ⟨h1,h2,h3,h4⟩:=zdx hcc
 obtain ⟨cc,h,hop,hf,hh,hops⟩:=zpg h1
 have hg:o.guard=none:=by
  cases hg:o.guard with
  | none=>rfl
  | some jb =>
   obtain ⟨j,b⟩:=jb
   rw [hg] at h2; simp only [zdy] at h2
   split at h2<;>cases h2
 have hw:Region.wanted o (yielded ops a.tmps)=true:=by simp [Region.wanted,hg]
 have hd:d=o.dst:=h3
 obtain ⟨hfn,hsp⟩:=hsp
 have hr:=zjz hops hs
 rw [hxs] at hr
 have hfr:=zal hh hs
 simp only [St.ev] at hfr
 have hfv:a.eval h=.func (.func f) #[] #[]:=by
  have hp:=hfr.inv_p
  generalize a.eval h=F at hp ⊢
  cases hp with
  | fn _ _ vals h=>cases h; rfl
 have hrun:(execOp a.eval o).run P w=.ok (.enter f ((cc.args.toList.map a.eval).toArray)) w:=by
  have:=ze3 (P:=P) (w:=w) (args:=(cc.args.toList.map a.eval).toArray) hfn
  simp only [execOp,hop,resolve,hf,hfv,Deferred.ofValue,Sem.run_bind,Sem.run_pure,Result.andThen_ok,invoke]
  have e : #[]++cc.args.map a.eval ++ #[]=(cc.args.toList.map a.eval).toArray:=by simp [<- Array.toList_map]
  rw [e]; exact this
 have hp0:PReps Z.M (.mapv r::args) (cc.args.toList.map a.eval):=AReps.to_p (by simpa using hr)
 generalize cc.args.toList.map a.eval=vals at hp0 hrun
 obtain ⟨hF,hX,es,clock,q0,q1,q2,q3,q4,q5⟩:=hA
 simp only [zib] at hF hX q0
 let Mp:Nat->Option Obj:=fun b=>if b=r then w.heap[r]? else Z.M b
 have hsub:∀ b o,Z.M b=some o->Mp b=some o:=fun b o ho=>by
  simp only [Mp]; rw [if_neg]; · exact ho
  ·rintro rfl; rw [hF.m] at ho; cases ho
 have hMp:∀ b o,Mp b=some o->w.heap[b]?=some o:=fun b o ho=>by
  simp only [Mp] at ho; split at ho
  ·rename_i hb; subst hb; exact ho
  ·exact hs.heap.mem b o ho
 have hvals:PReps Mp (.mp r ks vs::args) vals:=by
  cases hp0 with
  | cons _ _ _ _ h0 h1 =>
   cases h0
   exact .cons _ _ _ _ (.mp r ks vs es clock (by simp only [Mp,if_true]; exact q0) (q1.mono hsub) (q2.mono hsub) q3 q4 q5) (h1.mono hsub)
 refine (show o.wp P a w Kt Q from ?_) |> fun h=>by unfold wpOp; simp only [hj,hw,if_true]; exact .inl h
 unfold Oper.wp
 rw [hrun,Oper.upon_enter]
 refine (hsp w Mp r vals hMp hvals).mono ?_
 rintro e w' ⟨M',rfl,p1,p2,p3,p4,p5⟩
 obtain ⟨es',clock',t0,t1,t2,t3,t4,t5⟩:∃ es' clock',M' r=some (.map es' clock')/\PReps M' ks' (es'.toList.map (·.key))/\PReps M' vs' (es'.toList.map (·.val))/\(es'.toList.map (·.key)).Nodup/\(∀ e∈es'.toList,e.born<clock')/\(es'.toList.map (·.born)).Nodup:=by
  cases p5 with
  | mp _ _ _ es clock m0 m1 m2 m3 m4 m5=>exact ⟨es,clock,m0,m1,m2,m3,m4,m5⟩
 let M1:Nat->Option Obj:=fun b=>if b=r then none else M' b
 have hM1:∀ b o,M1 b=some o->b≠r/\M' b=some o:=fun b o h=>by
  simp only [M1] at h; split at h
  ·cases h
  ·exact ⟨by assumption,h⟩
 have hcells:∀ b cur T fr,M' b=some (.cells cur T fr)->M1 b=some (.cells cur T fr):=fun b cur T fr h=>by
  simp only [M1]; rw [if_neg]; · exact h
  ·rintro rfl; rw [t0] at h; cases h
 have hold:∀ b o,M1 b=some o->Z.M b=some o\/w.heap.size<=b:=fun b o h=>by
  obtain ⟨g1,g2⟩:=hM1 b o h
  rcases p3 b o g2 with h|h|h
  ·exact absurd h g1
  ·simp only [Mp] at h; rw [if_neg g1] at h; exact .inl h
  ·exact .inr h
 have hHw:HRep K Z st w':=hs.heap.world p4 fun b hb=>by subst hb; exact ⟨hF.m,hF.o,hX⟩
 have hZM1:∀ b o,Z.M b=some o->M1 b=some o:=fun b o hb=>by
  have hbr:b≠r:=by rintro rfl; rw [hF.m] at hb; cases hb
  simp only [M1]; rw [if_neg hbr]; exact p1 b o hbr (hsub b o hb)
 have hH1:HRep K { Z with M:=M1 } st w':=by
  refine hHw.grow (Keep.refl _ _) M1 hZM1 (fun b o hb=>p2 b o (hM1 b o hb).2) (fun b o hb=>?_) (fun s g o b ho hb=>?_)
  ·rcases hold b o hb with h|h
   ·exact .inl h
   ·exact .inr (.inr (Nat.le_trans hs.heap.keep.size h))
  ·cases hm:M1 b with
   | none=>rfl
   | some y =>
    rcases hold b y hm with h|h
    ·rw [hs.heap.sep s g o b ho hb] at h; cases h
    ·have:=hs.heap.lt ho hb; omega
 have hz:ZLe Z st { Z with M:=M1 } st:=.growM hZM1
 refine hK _ _ _ _ _ k (?_:StRep K { Z with M:=M1 } (st.put d (.p (.tup []))) w' _) (zgq.site ?_ fun s=>za5 st d _ s)
 ·rw [hd]
  exact hs.put rfl hz hH1 (.p _ _ (.tup [] [] .nil)) (by subst hN; exact h4) hs.defers
 ·refine ⟨⟨by simp [M1,zib],hF.o,?_⟩,hX,es',clock',p2 _ _ t0,t1.nomp hcells hn1,t2.nomp hcells hn2,t3,t4,t5⟩
  exact Nat.lt_of_lt_of_le hF.lt p4.size
theorem MR.freeze {ac:AC} {t r:Nat} {ks vs:List PV} (ht:st.get t=.p (.mapv r)) (k:MR P N ac (st.put (some t) (.p (.mp r ks vs))) none Post):MR P N ac st (some (zib r ks vs)) Post:=by
 intro code hc K Z w a Q hN hs hA hQ
 obtain ⟨hF,hX,es,clock,q0,q1,q2,q3,q4,q5⟩:=hA
 simp only [zib] at hF hX q0
 let M1:Nat->Option Obj:=fun b=>if b=r then w.heap[r]? else Z.M b
 have hsub:∀ b o,Z.M b=some o->M1 b=some o:=fun b o ho=>by
  simp only [M1]; rw [if_neg]; · exact ho
  ·rintro rfl; rw [hF.m] at ho; cases ho
 have hH1:HRep K { Z with M:=M1 } st w:=by
  refine hs.heap.grow (Keep.refl _ _) M1 hsub (fun b o hb=>?_) (fun b o hb=>?_) (fun s g o b ho hb=>?_)
  ·simp only [M1] at hb; split at hb
   ·rename_i hbr; subst hbr; exact hb
   ·exact hs.heap.mem b o hb
  ·simp only [M1] at hb; split at hb
   ·rename_i hbr; subst hbr; exact .inr hX
   ·exact .inl hb
  ·simp only [M1]; rw [if_neg]; · exact hs.heap.sep s g o b ho hb
   ·rintro rfl; exact hF.o s g o ho hb
 have hz:ZLe Z st { Z with M:=M1 } st:=.growM hsub
 have hs1:StRep K { Z with M:=M1 } (st.put (some t) (.p (.mp r ks vs))) w a:=by
  refine ⟨fun u=>?_,hs.defers,hs.size,hH1.of_site fun i=>za5 _ _ _ i⟩
  rw [zd3]
  split
  ·rename_i hu; cases hu
   have h0:=hs.slots t
   rw [ht] at h0
   have h0:=h0.inv_p
   generalize a.tmps.getD t Go.undef=X at h0
   cases h0
   exact .p _ _ (.mp r ks vs es clock (by simp only [M1,if_true]; exact q0) (q1.mono hsub) (q2.mono hsub) q3 q4 q5)
  ·exact ARep.mono (zbq (fun i=>za5 _ _ _ i) _) (ARep.mono hz (hs.slots u))
 exact k code hc K _ w a Q hN hs1 trivial hQ
theorem Sp.of_mr {f:FuncId} {args:List PV} {res:RV} {n np:Nat} {b:GC} {rs:List (Nat × Option Nat)} (hc:zac P f=some ⟨n,np,b.er,rs⟩) (hn:args.length<=n)
  (h:MR P n b.er (zfs args) none fun ex s _=>retP rs res ex s):Sp P f args res:=by
 unfold zac at hc
 split at hc
 ·rename_i fn hf
  split at hc
  ·rename_i hname
   split at hc
   ·rename_i c hb
    split at hc
    ·rename_i bd rs' h1 h2
     simp only [Option.some.injEq,FnC.mk.injEq] at hc
     obtain ⟨rfl,_,rfl,rfl⟩:=hc
     refine ⟨⟨fn,hf,by rw [hb]; rfl,hname⟩,fun w M vals hM hv=>?_⟩
     refine calls_of_wp hf hb ?_
     refine h c h1 ⟨w,M,fun _=>False,fn.ntmps⟩ _ w _ _ rfl (zqq hM hv hn) trivial (fun ex st' A' Z' w' a' hp hs _=>?_)
     have hr:(ex=.ret\/ex=.normal)/\∃ vs,zb6 st' rs'=some vs/\ResOk st' (resOf vs) res:=by
      have key:(ex=.ret\/ex=.normal)/\∃ vs,zb6 st' rs'=some vs/\resP st' (resOf vs) res:=by
       cases ex with
       | ret=>exact ⟨.inl rfl,hp⟩
       | normal=>exact ⟨.inr rfl,hp⟩
       | _=>exact hp.elim
      obtain ⟨k1,vs,r3,r4⟩:=key
      refine ⟨k1,vs,r3,?_⟩
      unfold resP at r4
      split at r4
      ·exact .pure _ _ r4
      ·split at r4
       ·rename_i sz es s' g off len hv
        obtain ⟨o,h1,rfl,h2,rfl,h4⟩:=r4
        rw [hv]
        exact .fresh _ _ _ _ _ h1 h2 h4
       ·rename_i hv; rw [hv,r4]; exact .nil _
       ·exact r4.elim
      ·exact r4.elim
     obtain ⟨hex,vs,hvs,hres⟩:=hr
     have hfin:a'.defers=[]/\∃ v,(results fn a'.tmps).run P w'=.ok v w'/\∃ x M',Ending.returned v=.returned x/\(∀ b o,M b=some o->M' b=some o)/\(∀ b o,M' b=some o->w'.heap[b]?=some o) /\
       (∀ b o,M' b=some o->M b=some o\/w.heap.size<=b)/\Keep w w' (fun _=>False)/\RRep M' w w' res x:=by
      obtain ⟨xs,e1,e2⟩:=zl3 hs h2 hvs
      obtain ⟨M',m1,m2,m3,m4,m5⟩:=zpz hs.heap e2.resOf hres
      refine ⟨hs.defers,_,?_,_,M',rfl,m1,m2,m3,m4,m5⟩
      unfold results
      rw [Array.mapM_eq_mapM_toList]
      simp only [Sem.run_bind,map_eq_pure_bind,Sem.run_pure]
      exact congrArg (fun r=>(Result.andThen r fun a w'=>Result.ok a.toArray w').andThen fun (a:Array Value) w'=>Result.ok (if h:a.size=1 then a[0] else Value.tuple a) w') e1
     rcases hex with rfl|rfl
     ·exact hfin
     ·exact hfin
    ·cases hc
   ·cases hc
  ·cases hc
 ·cases hc
end
end Go.Ab
namespace Go.Ab
open Enc (enc)
section
variable {P:Program} {K:Ctx} {st st' st1:St} {N:Nat} {A B:Option FA} {Post:Exit->St->Option FA->Prop} {PostI:St->Option FA->Prop}
theorem MR.gseq {a b:GC} (h:vm P N (fun ex s=>(ex=.normal->MR P N b.er s A Post)/\(ex ≠ .normal->Post ex s A)) [.code a] st):MR P N (GC.seq a b).er st A Post :=
 .seq (.of_vm h)
theorem MR.gseq' {a b:GC} (h:MR P N a.er st A fun ex s B=>(ex=.normal->MR P N b.er s B Post)/\(ex ≠ .normal->Post ex s B)):MR P N (GC.seq a b).er st A Post:=.seq h
theorem MR.gcond {a b:GC} {c:Opd} {dl:List Nat} {t:Bool} (hv:st.ev c=.p (.bool t)) (h1:t=true->MR P N a.er (st.drop dl) A Post) (h2:t=false->MR P N b.er (st.drop dl) A Post):MR P N (GC.cond c dl a b).er st A Post:=by
 refine .cond hv ?_
 cases t with
 | true=>exact .weak (zin _ _) (h1 rfl)
 | false=>exact .weak (zin _ _) (h2 rfl)
theorem MR.gregD {ops:List Ins} {pre dead:List (List Nat)} {i:Ins} (ho:ops.getLast?=some i) (hl:z11 pre ops.dropLast.length=true)
  (h:vm P N (fun ex s=>ex=.normal->MOp P N i s A fun s B=>Post .normal s B) [.insD ops.dropLast [] pre dead] st):MR P N (GC.regD ops pre dead).er st A Post:=by
 obtain ⟨gs,s1,s2,r1,r2,r3,r4⟩:=zde _ (Nat.le_refl _) h
 have e:ops=ops.dropLast++[i]:=by
  have hne:ops≠[]:=by rintro rfl; simp at ho
  rw [List.getLast?_eq_getLast hne] at ho
  rw [<- Option.some.inj ho]; exact (List.dropLast_concat_getLast hne).symm
 show MR P N (.regD ops pre) st A Post
 rw [e]
 exact .regDL r1 (by simpa using r2) hl (.weak r3 (r4 rfl))
theorem MR.greg {ops:List Ins} {dead:List (List Nat)} (h:MIns P N ops st A fun s B=>Post .normal s B):MR P N (GC.reg ops dead).er st A Post:=.reg h
theorem zqf (n:Nat) (dead:List (List Nat)) {ops:List Ins} (h:Go.Ab.vm P N (fun ex s=>ex=.normal->MIns P N (ops.drop n) s A PostI) [.ins (ops.take n) dead] st):MIns P N ops st A PostI:=by
 have:=MIns.vm h
 rwa [List.take_append_drop] at this
theorem MIns.cons {i:Ins} {is:List Ins} (h:MOp P N i st A fun s B=>MIns P N is s B PostI):MIns P N (i::is) st A PostI:=h
theorem MR.gblk {b:GC} {id:Nat} (h:MR P N b.er st A fun ex s B=>Post (exB id ex) s B):MR P N (GC.blk id b).er st A Post:=.blk h
theorem MR.gloop {b:GC} {I:Nat->St->Option FA->Prop} (n:Nat) (hI:I n st A) (step:∀ n st A,I n st A->MR P N b.er st A fun ex s B=>(ex=.normal->∃ m,m<n/\I m s B)/\(ex ≠ .normal->Post ex s B)):MR P N (GC.loop b).er st A Post:=.loop n hI step
theorem MR.gext {id:Nat} (h:Post (.exit id) st A):MR P N (GC.ext id).er st A Post:=.ext h
theorem MR.gnop (h:Post .normal st A):MR P N GC.nop.er st A Post:=.nop h
attribute [go_sem] zec PV.nomp
end
section
variable {κ α : Type} [Enc κ] [Enc α] [DecidableEq κ]
def mget (e : κ):List (κ × α)->Option α
 | []=>none
 | (e',c)::L=>if e'=e then some c else mget e L
def mset (e : κ) (c : α):List (κ × α)->List (κ × α)
 | []=>[(e,c)]
 | (e',c')::L=>if e'=e then (e',c)::L else (e',c')::mset e c L
def mks (L:List (κ × α)):List PV:=L.map fun p=>enc p.1
def mvs (L:List (κ × α)):List PV:=L.map fun p=>enc p.2
theorem zko {kc : κ -> List PV} (hk:∀ e,enc e=.agg (kc e)) (heq:∀ e e',eqI (kc e) (kc e')=true ↔ e=e') (e : κ):∀ L:List (κ × α),zc3 (kc e) (mks L) (mvs L)=(mget e L).map enc
 | []=>rfl
 | (e',c)::L=>by
  simp only [mks,mvs,List.map_cons,hk,zc3,heq,mget]
  split
  ·rfl
  ·have:=zko hk heq e L; simp only [mks,mvs,hk] at this; exact this
theorem zmr {kc : κ -> List PV} (hk:∀ e,enc e=.agg (kc e)) (heq:∀ e e',eqI (kc e) (kc e')=true ↔ e=e') (e : κ) (c : α):∀ L:List (κ × α),zcj (kc e) (enc c) (mks L) (mvs L)=(mks (mset e c L),mvs (mset e c L))
 | []=>by simp [mks,mvs,zcj,mset,hk]
 | (e',c')::L=>by
  have ih:=zmr hk heq e c L
  simp only [mks,mvs,hk] at ih
  simp only [mks,mvs,List.map_cons,hk,zcj,heq,mset]
  split
  ·rfl
  ·simp only [ih,List.map_cons,hk]
theorem zmp (e : κ) (c : α) (e' : κ):∀ L:List (κ × α),mget e' (mset e c L)=if e=e' then some c else mget e' L
 | []=>rfl
 | (e1,c1)::L=>by
  have ih:=zmp e c e' L
  by_cases h:e1=e
  ·subst h
   simp only [mset,if_true,mget]
   by_cases h2:e1=e'
   ·simp [h2]
   ·simp [h2]
  ·simp only [mset,if_neg h,mget,ih]
   by_cases h2:e1=e'
   ·subst h2; simp [Ne.symm h]
   ·simp [h2]
theorem zss (e : κ) (c : α):∀ L:List (κ × α),(mset e c L).map (·.1)=if e∈L.map (·.1) then L.map (·.1) else L.map (·.1)++[e]
 | []=>rfl
 | (e1,c1)::L=>by
  have ih:=zss e c L
  simp only [mset]
  split
  ·rename_i h; subst h; simp
  ·rename_i h
   simp only [List.map_cons,ih,List.mem_cons,Ne.symm h,false_or]
   split<;>rfl
theorem zwo {e : κ} {c : α}:∀ {L:List (κ × α)},mget e L=some c->(e,c)∈L
 | (e1,c1)::L,h=>by
  simp only [mget] at h
  split at h
  ·rename_i h1; subst h1; cases h; simp
  ·exact List.mem_cons_of_mem _ (zwo h)
theorem zyi (e : κ) (c : α) {L:List (κ × α)} (h:(L.map (·.1)).Nodup):((mset e c L).map (·.1)).Nodup:=by
 rw [zss]
 split
 ·exact h
 ·rename_i he
  exact List.nodup_append.2 ⟨h,by simp,fun a ha b hb=>by simp at hb; subst hb; rintro rfl; exact he ha⟩
end
end Go.Ab
