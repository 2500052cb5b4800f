/-
Proofs for the law CountGoesOn, part 35. Conditions: none.
-/
import Derived.Test.YtdkocfjbmbenfaaGreatDoorCP34
set_option maxRecDepth 100000
set_option maxHeartbeats 4000000
set_option linter.all false
namespace Go.Ab
open Enc (enc)
def mD (n:Nat):Nat:=6^n
def mB (n:Nat):Nat:=6291456^n
def qm (n:Nat) (q:Rat):Prop:=qb (mD n) (mB n) q
structure GW.mb1 (n:Nat) (w:GW):Prop where
 q:qm n w.q.v
 p:∀ e,qm n (pc w.poly e)
structure GW.mb (n:Nat) (w:GW):Prop where
 o:w.mb1 n
 ps:∀ x∈w.parts,x.mb1 n
end Go.Ab
namespace Go.Ab
open Enc (enc)
theorem zne {p q:Rat} (h0:0<=p) (h1:p<=1) (k0:0<=q) (k1:q<=1):p*q<=1:=by
 have h2:p*q<=p*1:=Rat.mul_le_mul_of_nonneg_left k1 h0
 rw [Rat.mul_one] at h2
 exact Rat.le_trans h2 h1
theorem zq7 {k:Int} (hk:1<=k/\k<=5) {v w:GW} (hv:v.si k) (hw:w.si k):(zbv k v w).si k:=by
 have:k=1\/k=2\/k=3\/k=4\/k=5:=by omega
 rcases this with rfl|rfl|rfl|rfl|rfl
 ·rw [si1]; exact ⟨rfl,rfl,rfl,rfl,rfl,zcd _⟩
 ·obtain ⟨h1,h2,h3,h4,h5,h6,h7⟩:=si2.1 hv
  obtain ⟨k1,k2,k3,k4,k5,k6,k7⟩:=si2.1 hw
  unfold zbv
  rw [if_neg (by omega),if_pos rfl]
  split
  ·rw [si2]; exact ⟨rfl,rfl,rfl,rfl,Int.le_refl 0,by show (0:Int)<=1099511627776; omega,fun _=>rfl⟩
  ·rename_i h
   rw [si2]; exact ⟨rfl,rfl,rfl,rfl,by show 0<=v.cost+w.cost; omega,by show v.cost+w.cost<=1099511627776; omega,fun h=>by cases h⟩
 ·obtain ⟨h1,h2,h3,h4,h5,h6,h7,h8⟩:=si3.1 hv
  obtain ⟨k1,k2,k3,k4,k5,k6,k7,k8⟩:=si3.1 hw
  rw [si3]
  refine ⟨rfl,rfl,rfl,rfl,rfl,zcd _,?_,?_⟩
  ·show 0<=(rto (v.q.v*w.q.v)).v
   rw [ze8]; exact Rat.mul_nonneg h7 k7
  ·show (rto (v.q.v*w.q.v)).v<=1
   rw [ze8]; exact zne h7 h8 k7 k8
 ·rw [si4]; exact ⟨rfl,rfl,rfl,rfl,rfl⟩
 ·rw [si5]; exact ⟨rfl,rfl,rfl,rfl,rfl,zpj _ _⟩
theorem zgl {r:GRing} {v w:GW} (hv:v.chk r) (hw:w.chk r):(r.times v w).chk r:=by
 by_cases h6:r.kind=6
 ·have hp:=GRing.ok_parts hv.1 h6
  have lv:=(hv.2.2 h6).1
  have lw:=(hw.2.2 h6).1
  refine ⟨hv.1,fun h=>absurd h6 h,fun _=>?_⟩
  have e:r.times v w=.mk gr0 0 false 0 [] (zc4 r.parts v.parts w.parts):=by simp [GRing.times,h6]
  rw [e]
  refine ⟨zjg lv lw,rfl,fun i h h'=>?_⟩
  simp only [GW.parts_mk] at h' ⊢
  rw [zjh h (by omega) (by omega) h']
  exact zq7 (hp.2.2 _ (List.getElem_mem h)) ((hv.2.2 h6).2.2 i h (by omega)) ((hw.2.2 h6).2.2 i h (by omega))
 ·have hk:=GRing.ok_kind hv.1 h6
  have e:r.times v w=zbv r.kind v w:=by simp [GRing.times,h6]
  rw [e]
  exact ⟨hv.1,fun _=>zq7 ⟨hk.1,hk.2.1⟩ (hv.2.1 h6) (hw.2.1 h6),fun h=>absurd h h6⟩
end Go.Ab
namespace Go.Ab
open Enc (enc)
theorem z7t {v w:GW} (h1:v.q=w.q) (h2:v.cost=w.cost) (h3:v.inf=w.inf) (h4:v.set=w.set) (h5:v.poly=w.poly) (h6:v.parts=w.parts):v=w:=by
 cases v; cases w
 simp only [GW.q_mk,GW.cost_mk,GW.inf_mk,GW.set_mk,GW.poly_mk,GW.parts_mk] at h1 h2 h3 h4 h5 h6
 subst h1 h2 h3 h4 h5 h6; rfl
theorem yfu {x y:GRat} (hx:x.valid=true) (hy:y.valid=true) (h:x.v=y.v):x=y:=by
 rw [<- zhv hx,<- zhv hy,h]
def trop (w:GW):Int:=if w.inf then 1099511627777 else w.cost
theorem zu7 {v w:GW} (hv:v.si 2) (hw:w.si 2) (h:trop v=trop w):v=w:=by
 obtain ⟨h1,h2,h3,h4,h5,h6,h7⟩:=si2.1 hv
 obtain ⟨k1,k2,k3,k4,k5,k6,k7⟩:=si2.1 hw
 unfold trop at h
 refine z7t (h2.trans k2.symm) ?_ ?_ (h3.trans k3.symm) (h4.trans k4.symm) (h1.trans k1.symm)
 ·cases hi:v.inf<;>cases hj:w.inf<;>simp [hi,hj] at h<;>try omega
  rw [h7 hi,k7 hj]
 ·cases hi:v.inf<;>cases hj:w.inf<;>simp [hi,hj] at h<;>first|rfl|omega
theorem zfa {v w:GW} (hv:v.si 2) (hw:w.si 2):trop (zau 2 v w)=if trop w<trop v then trop w else trop v:=by
 obtain ⟨h1,h2,h3,h4,h5,h6,h7⟩:=si2.1 hv
 obtain ⟨k1,k2,k3,k4,k5,k6,k7⟩:=si2.1 hw
 unfold zau
 rw [if_neg (by omega),if_pos rfl]
 unfold trop
 cases hi:v.inf<;>cases hj:w.inf<;>simp [hi,hj]<;>(try split)<;>simp_all<;>omega
theorem zrn {a b c:Rat} (h:a<b) (k:b<c):a<c:=Rat.not_le.1 fun e=>Rat.not_lt.2 (Rat.le_trans (Rat.le_of_lt k) e) h
theorem z0e {a b c:Rat} (h:a<=b) (k:b<c):a<c:=Rat.not_le.1 fun e=>Rat.not_le.2 k (Rat.le_trans e h)
theorem z0l (x y:GW):zau 3 x y=if x.q.v<y.q.v then y else x:=by simp [zau]
theorem zn2 {k:Int} (hk:1<=k/\k<=5) {v w:GW} (hv:v.si k) (hw:w.si k):zau k v w=zau k w v:=by
 have:k=1\/k=2\/k=3\/k=4\/k=5:=by omega
 rcases this with rfl|rfl|rfl|rfl|rfl
 ·simp only [zau,if_true,Rat.add_comm]
 ·refine zu7 (zde hk hv hw) (zde hk hw hv) ?_
  rw [zfa hv hw,zfa hw hv]
  split<;>split<;>omega
 ·obtain ⟨h1,h2,h3,h4,h5,h6,h7,h8⟩:=si3.1 hv
  obtain ⟨k1,k2,k3,k4,k5,k6,k7,k8⟩:=si3.1 hw
  rw [z0l,z0l]
  by_cases a:v.q.v<w.q.v
  ·rw [if_pos a,if_neg (Rat.not_lt.2 (Rat.le_of_lt a))]
  ·by_cases b:w.q.v<v.q.v
   ·rw [if_neg a,if_pos b]
   ·rw [if_neg a,if_neg b]
    have e:v.q.v=w.q.v:=Rat.le_antisymm (Rat.not_lt.1 b) (Rat.not_lt.1 a)
    exact z7t (yfu h6 k6 e) (h3.trans k3.symm) (h2.trans k2.symm) (h4.trans k4.symm) (h5.trans k5.symm) (h1.trans k1.symm)
 ·simp [zau,UInt64.or_comm]
 ·have pv:=si_p hv
  have pw:=si_p hw
  have e:padd v.poly w.poly=padd w.poly v.poly:=zpf (zcj _ pv) (zcj _ pw) fun e=>by
   rw [zfv _ (zan.1 pw).1,zfv _ (zan.1 pv).1,Rat.add_comm]
  simp [zau,e]
theorem zlt {k:Int} (hk:1<=k/\k<=5) {u v w:GW} (hu:u.si k) (hv:v.si k) (hw:w.si k):zau k (zau k u v) w=zau k u (zau k v w):=by
 have:k=1\/k=2\/k=3\/k=4\/k=5:=by omega
 rcases this with rfl|rfl|rfl|rfl|rfl
 ·simp only [zau,if_true,GW.q_mk,ze8,Rat.add_assoc]
 ·refine zu7 (zde hk (zde hk hu hv) hw) (zde hk hu (zde hk hv hw)) ?_
  rw [zfa (zde hk hu hv) hw,zfa hu hv,zfa hu (zde hk hv hw),zfa hv hw]
  repeat' split
  all_goals omega
 ·have s:=z0l
  rw [s u v,s v w]
  by_cases a:u.q.v<v.q.v
  ·rw [if_pos a]
   by_cases b:v.q.v<w.q.v
   ·rw [if_pos b,s v w,s u w,if_pos b,if_pos (zrn a b)]
   ·rw [if_neg b,s v w,s u v,if_neg b,if_pos a]
  ·rw [if_neg a]
   by_cases b:v.q.v<w.q.v
   ·rw [if_pos b]
   ·rw [if_neg b,s u w,s u v,if_neg a,if_neg]
    intro c
    exact b (z0e (Rat.not_lt.1 a) c)
 ·simp [zau,GW.set_mk,UInt64.or_assoc]
 ·have pu:=si_p hu
  have pv:=si_p hv
  have pw:=si_p hw
  have e:padd (padd u.poly v.poly) w.poly=padd u.poly (padd v.poly w.poly):=zpf (zcj _ (zcj _ pu)) (zcj _ pu) fun e=>by
   rw [zfv _ (zan.1 pw).1,zfv _ (zan.1 pv).1,zfv _ (zan.1 (zcj _ pv)).1,zfv _ (zan.1 pw).1,Rat.add_assoc]
  simp [zau,GW.poly_mk,e]
theorem zxh:∀ {ks:List Int} {vs ws:List GW},(∀ k∈ks,1<=k/\k<=5)->vs.length=ks.length->ws.length=ks.length->(∀ i,(h:i<ks.length)->(h':i<vs.length)->vs[i].si ks[i])->(∀ i,(h:i<ks.length)->(h':i<ws.length)->ws[i].si ks[i])->zd8 ks vs ws=zd8 ks ws vs:=by
 intro ks vs ws hk lv lw hv hw
 refine List.ext_getElem (by rw [zbl lv lw,zbl lw lv]) fun i h1 h2=>?_
 have h3:i<ks.length:=by rw [zbl lv lw] at h1; exact h1
 rw [zbw h3 (by omega) (by omega) h1,zbw h3 (by omega) (by omega) h2]
 exact zn2 (hk _ (List.getElem_mem h3)) (hv i h3 (by omega)) (hw i h3 (by omega))
theorem zls {r:GRing} {v w:GW} (cv:v.chk r) (cw:w.chk r):r.plus v w=r.plus w v:=by
 by_cases h6:r.kind=6
 ·have hp:=GRing.ok_parts cv.1 h6
  obtain ⟨lv,_,sv⟩:=cv.2.2 h6
  obtain ⟨lw,_,sw⟩:=cw.2.2 h6
  simp only [GRing.plus,if_pos h6,zxh hp.2.2 lv lw sv sw]
 ·have hk:=GRing.ok_kind cv.1 h6
  simp only [GRing.plus,if_neg h6]
  exact zn2 ⟨hk.1,hk.2.1⟩ (cv.2.1 h6) (cw.2.1 h6)
theorem zhe {r:GRing} {u v w:GW} (cu:u.chk r) (cv:v.chk r) (cw:w.chk r):r.plus (r.plus u v) w=r.plus u (r.plus v w):=by
 by_cases h6:r.kind=6
 ·have hp:=GRing.ok_parts cv.1 h6
  obtain ⟨lu,_,su⟩:=cu.2.2 h6
  obtain ⟨lv,_,sv⟩:=cv.2.2 h6
  obtain ⟨lw,_,sw⟩:=cw.2.2 h6
  simp only [GRing.plus,if_pos h6,GW.parts_mk]
  congr 1
  have luv:=zbl lu lv
  have lvw:=zbl lv lw
  refine List.ext_getElem (by rw [zbl luv lw,zbl lu lvw]) fun i h1 h2=>?_
  have h3:i<r.parts.length:=by rw [zbl luv lw] at h1; exact h1
  rw [zbw h3 (by omega) (by omega) h1,zbw h3 (by omega) (by omega) h2,zbw h3 (by omega) (by omega) (by omega),zbw h3 (by omega) (by omega) (by omega)]
  exact zlt (hp.2.2 _ (List.getElem_mem h3)) (su i h3 (by omega)) (sv i h3 (by omega)) (sw i h3 (by omega))
 ·have hk:=GRing.ok_kind cv.1 h6
  simp only [GRing.plus,if_neg h6]
  exact zlt ⟨hk.1,hk.2.1⟩ (cu.2.1 h6) (cv.2.1 h6) (cw.2.1 h6)
end Go.Ab
namespace Go.Ab
section
variable (r:GRing)
def wsum (ws:List GW):GW:=ws.foldr r.plus r.zero
variable {r} (hr:r.ok=true)
include hr in
theorem zib:∀ {ws:List GW},(∀ w∈ws,w.chk r)->(wsum r ws).chk r
 | [],_=>zer hr
 | w::ws,h=>zhd (h w (by simp)) (zib fun x hx=>h x (by simp [hx]))
include hr in
theorem zlc {v:GW} (hv:v.chk r):r.plus r.zero v=v:=by rw [zls (zer hr) hv]; exact zdi hv
include hr in
theorem zld:∀ {a b:List GW},(∀ w∈a,w.chk r)->(∀ w∈b,w.chk r)->wsum r (a++b)=r.plus (wsum r a) (wsum r b)
 | [],b,_,hb=>(zlc hr (zib hr hb)).symm
 | w::a,b,ha,hb=>by
  show r.plus w (wsum r (a++b))=r.plus (r.plus w (wsum r a)) (wsum r b)
  rw [zld (fun x hx=>ha x (by simp [hx])) hb,zhe (ha w (by simp)) (zib hr fun x hx=>ha x (by simp [hx])) (zib hr hb)]
end
section
variable {α : Type} (key : α -> List Int) (wt : α -> GW) (r:GRing)
def atQ (l:List α) (p:List Int->Bool):GW:=wsum r ((l.filter fun x=>p (key x)).map wt)
variable {key wt r} {up : α -> α -> α} (hr:r.ok=true) (hk:∀ z y,key (up z y)=key z) (hw:∀ z y,wt (up z y)=r.plus (wt z) (wt y))
theorem z3o (p:List Int->Bool):atQ key wt r [] p=r.zero:=rfl
theorem zc1 (x : α) (l:List α) (p:List Int->Bool):atQ key wt r (x::l) p=if p (key x)=true then r.plus (wt x) (atQ key wt r l p) else atQ key wt r l p:=by
 unfold atQ
 by_cases h:p (key x)=true<;>simp [h,wsum]
include hr in
theorem zut {l:List α} (h:∀ x∈l,(wt x).chk r) (p:List Int->Bool):(atQ key wt r l p).chk r:=zib hr fun w hw=>by
 obtain ⟨x,hx,rfl⟩:=List.mem_map.1 hw
 exact h x (List.mem_filter.1 hx).1
include hr in
theorem zyk {a b:List α} (ha:∀ x∈a,(wt x).chk r) (hb:∀ x∈b,(wt x).chk r) (p:List Int->Bool):atQ key wt r (a++b) p=r.plus (atQ key wt r a p) (atQ key wt r b p):=by
 unfold atQ
 rw [List.filter_append,List.map_append]
 exact zld hr (fun w hw=>by obtain ⟨x,hx,rfl⟩:=List.mem_map.1 hw; exact ha x (List.mem_filter.1 hx).1) (fun w hw=>by obtain ⟨x,hx,rfl⟩:=List.mem_map.1 hw; exact hb x (List.mem_filter.1 hx).1)
include hr hk hw in
theorem zw5 {x : α} (hx:(wt x).chk r) (p:List Int->Bool):∀ {out:List α},(∀ z∈out,(wt z).chk r)->atQ key wt r (insF key up id out x) p=r.plus (atQ key wt r out p) (if p (key x)=true then wt x else r.zero)
 | [],_=>by
  show atQ key wt r [x] p=_
  rw [zc1,z3o,zlc hr (by split; exact hx; exact zer hr)]
  split
  ·exact zdi hx
  ·rfl
 | z::o,h=>by
  have hz:=h z (by simp)
  have ho:∀ y∈o,(wt y).chk r:=fun y hy=>h y (by simp [hy])
  have co:=zut (key:=key) hr ho p
  have ce:(if p (key x)=true then wt x else r.zero).chk r:=by split; exact hx; exact zer hr
  simp only [insF]
  split
  ·rw [zc1,zc1,zw5 hx p ho]
   split
   ·rw [zhe hz co ce]
   ·rfl
  ·split
   ·rename_i h1 h2
    rw [zc1,zc1,hk,hw]
    by_cases h3:p (key z)=true
    ·rw [if_pos h3,if_pos h3,if_pos (h2 ▸ h3),zhe hz hx co,zhe hz co hx,zls hx co]
    ·rw [if_neg h3,if_neg h3,if_neg (h2 ▸ h3),zdi co]
   ·show atQ key wt r (x::z::o) p=_
    rw [zc1 x]
    have cz:=zut (key:=key) hr h p
    split
    ·exact zls hx cz
    ·exact (zdi cz).symm
include hr hk hw in
theorem z3p {l:List α} (h:∀ x∈l,(wt x).chk r) (p:List Int->Bool):∀ n,n<=l.length->(∀ z∈nfm key up id (l.take n),(wt z).chk r)/\atQ key wt r (nfm key up id (l.take n)) p=atQ key wt r (l.take n) p
 | 0,_=>⟨by simp [nfm],rfl⟩
 | n+1,hn=>by
  obtain ⟨i1,i2⟩:=z3p h p n (by omega)
  have hl:n<l.length:=by omega
  have hx:=h _ (List.getElem_mem hl)
  rw [zfx hl]
  refine ⟨fun z hz=>?_,?_⟩
  ·rcases zp9 hz with h1|h1|⟨y,h1,h2⟩
   ·exact i1 z h1
   ·rw [h1]; exact hx
   ·rw [h2,hw]; exact zhd (i1 y h1) hx
  ·rw [zw5 hr hk hw hx p i1,i2,List.take_succ_eq_append_getElem hl,zyk hr (fun x hx=>h x (List.mem_of_mem_take hx)) (fun x hx=>by simp at hx; rw [hx]; exact h _ (List.getElem_mem hl)),zc1,z3o]
   congr 1
   split
   ·exact (zdi hx).symm
   ·rfl
end
end Go.Ab
namespace Go.Ab
open Enc (enc)
end Go.Ab
namespace Go.Ab
open Enc (enc)
end Go.Ab
namespace Go.Ab
open Enc (enc)
def inT (x:GTArc) (t:GTrans):Prop:=0<=x.f/\x.f<t.st/\0<=x.t/\x.t<t.st/\0<=x.i/\x.i<=t.i/\0<=x.o/\x.o<=t.o/\x.w.chk t.ring
structure GTrans.ok (t:GTrans):Prop where
 ring:t.ring.ok=true
 i1:1<=t.i/\t.i<=32
 o1:1<=t.o/\t.o<=32
 st1:0<=t.st
 st2:t.st<=64
 il:(t.ini.length:Int)=t.st
 fl:(t.fin.length:Int)=t.st
 al:t.arcs.length<=2048
 arcs:∀ x∈t.arcs,inT x t
 ini:∀ w∈t.ini,w.chk t.ring
 fin:∀ w∈t.fin,w.chk t.ring
noncomputable instance (x:GTArc) (a:GTrans):Decidable (inT x a):=Classical.propDecidable _
noncomputable instance (a:GTrans):Decidable a.ok:=Classical.propDecidable _
structure GTrans.sm (a:GTrans) (n:Nat):Prop where
 ini:∀ w∈a.ini,w.sm n
 fin:∀ w∈a.fin,w.sm n
 arcs:∀ x∈a.arcs,x.w.sm n
end Go.Ab
namespace Go.Ab
open Enc (enc)
end Go.Ab
namespace Go.Ab
open Enc (enc)
end Go.Ab
namespace Go.Ab
open Enc (enc)
def swT (x:GTArc):GTArc:=⟨x.f,x.o,x.i,x.t,x.w⟩
end Go.Ab
namespace Go.Ab
section
variable {α : Type} {key : α -> List Int} {wt : α -> GW} {r:GRing} {up : α -> α -> α} (hr:r.ok=true) (hk:∀ z y,key (up z y)=key z) (hw:∀ z y,wt (up z y)=r.plus (wt z) (wt y))
def atK (key : α -> List Int) (wt : α -> GW) (r:GRing) (l:List α) (k:List Int):GW:=atQ key wt r l fun x=>decide (x=k)
theorem zuu {L:List α} {k:List Int} (h:∀ x∈L,key x≠k):atK key wt r L k=r.zero:=by
 unfold atK atQ
 rw [List.filter_eq_nil_iff.2 fun x hx=>by simpa using h x hx]; rfl
theorem zuv {L:List α} (s:SSrt key L) (c:∀ x∈L,(wt x).chk r) {x : α} (hx:x∈L):atK key wt r L (key x)=wt x:=by
 induction L with
 | nil=>cases hx
 | cons z t ih =>
  have s':=List.pairwise_cons.1 s
  unfold atK
  rw [zc1]
  simp only [decide_eq_true_eq]
  rcases List.mem_cons.1 hx with rfl|hx'
  ·rw [if_pos rfl,show atQ key wt r t (fun a=>decide (a=key x))=r.zero from zuu (wt:=wt) (r:=r) fun y hy h=>by have:=s'.1 y hy; rw [h] at this; exact List.lt_irrefl _ this]
   exact zdi (c x (by simp))
  ·have hne:¬ key z=key x:=fun h=>by have:=s'.1 x hx'; rw [h] at this; exact List.lt_irrefl _ this
   rw [if_neg hne]
   exact ih s'.2 (fun y hy=>c y (by simp [hy])) hx'
theorem zzm:∀ {L L':List α},SSrt key L->SSrt key L'->(∀ x,x∈L ↔ x∈L')->L=L'
 | [],[],_,_,_=>rfl
 | [],y::t,_,_,h=>by have:=(h y).2 (by simp); cases this
 | x::t,[],_,_,h=>by have:=(h x).1 (by simp); cases this
 | x::t,y::t',s,s',h=>by
  have p:=List.pairwise_cons.1 s
  have p':=List.pairwise_cons.1 s'
  have exy:x=y:=by
   rcases List.mem_cons.1 ((h x).1 (by simp)) with e|hx
   ·exact e
   ·rcases List.mem_cons.1 ((h y).2 (by simp)) with e|hy
    ·exact e.symm
    ·exact absurd (p'.1 x hx) (List.lt_asymm (p.1 y hy))
  subst exy
  congr 1
  refine zzm p.2 p'.2 fun z=>⟨fun hz=>?_,fun hz=>?_⟩
  ·rcases List.mem_cons.1 ((h z).1 (by simp [hz])) with e|h1
   ·have:=p.1 z hz; rw [e] at this; exact absurd this (List.lt_irrefl _)
   ·exact h1
  ·rcases List.mem_cons.1 ((h z).2 (by simp [hz])) with e|h1
   ·have:=p'.1 z hz; rw [e] at this; exact absurd this (List.lt_irrefl _)
   ·exact h1
theorem z6e (ext:∀ x y,key x=key y->wt x=wt y->x=y) {L L':List α} (s:SSrt key L) (s':SSrt key L') (c:∀ x∈L,(wt x).chk r) (c':∀ x∈L',(wt x).chk r) (n:∀ x∈L,wt x≠r.zero) (n':∀ x∈L',wt x≠r.zero) (h:∀ k,atK key wt r L k=atK key wt r L' k):L=L':=by
 have one:∀ {L L':List α},SSrt key L->SSrt key L'->(∀ x∈L,(wt x).chk r)->(∀ x∈L',(wt x).chk r)->(∀ x∈L,wt x≠r.zero)->(∀ k,atK key wt r L k=atK key wt r L' k)->∀ x∈L,x∈L':=by
  intro L L' s s' c c' n h x hx
  have h1:=h (key x)
  rw [zuv s c hx] at h1
  by_cases he:∃ y∈L',key y=key x
  ·obtain ⟨y,hy,e⟩:=he
   have h2:=zuv s' c' hy
   rw [e,<- h1] at h2
   rw [ext x y e.symm h2]; exact hy
  ·rw [zuu (wt:=wt) (r:=r) fun y hy e=>he ⟨y,hy,e⟩] at h1
   exact absurd h1 (n x hx)
 exact zzm s s' fun x=>⟨one s s' c c' n h x,one s' s c' c n' (fun k=>(h k).symm) x⟩
include hr in
theorem zyj {l:List α} (h:∀ x∈l,(wt x).chk r) (p:List Int->Bool):atQ key wt r (l.filter fun x => !decide (wt x=r.zero)) p=atQ key wt r l p:=by
 induction l with
 | nil=>rfl
 | cons x l ih =>
  have ih':=ih fun y hy=>h y (by simp [hy])
  by_cases hz:wt x=r.zero
  ·rw [List.filter_cons_of_neg (by simp [hz]),ih',zc1]
   split
   ·rw [hz,zlc hr (zut hr (fun y hy=>h y (by simp [hy])) p)]
   ·rfl
  ·rw [List.filter_cons_of_pos (by simp [hz]),zc1,zc1,ih']
noncomputable def tid (key : α -> List Int) (wt : α -> GW) (r:GRing) (up : α -> α -> α) (l:List α):List α := (mrg key up id (srt key l)).filter fun x => !decide (wt x=r.zero)
include hr hk hw in
theorem zu8 {l:List α} (h:∀ x∈l,(wt x).chk r):SSrt key (tid key wt r up l)/\(∀ x∈tid key wt r up l,(wt x).chk r/\wt x≠r.zero)/\∀ p,atQ key wt r (tid key wt r up l) p=atQ key wt r l p:=by
 have hm:=(z1e (key:=key) (up:=up) (nw:=id) hk (fun _=>rfl) l)
 have hs:=(zhf (key:=key) (up:=up) (nw:=id) hk (fun _=>rfl) _ (srt key l) rfl hm.2).1
 have hn:=fun p=>z3p (key:=key) (up:=up) hr hk hw h p l.length (Nat.le_refl _)
 rw [List.take_length] at hn
 have e:mrg key up id (srt key l)=nfm key up id l:=hm.1
 unfold tid
 refine ⟨List.Pairwise.filter _ hs,fun x hx=>?_,fun p=>?_⟩
 ·have:=List.mem_filter.1 hx
  rw [e] at this
  exact ⟨(hn fun _=>true).1 x this.1,by simpa using this.2⟩
 ·rw [e,zyj hr (hn p).1,(hn p).2]
end
theorem zlk (r:GRing) (l:List GArc):tidA r l=tid GArc.key GArc.w r (upA r) l:=rfl
end Go.Ab
namespace Go.Ab
open Enc (enc)
def cmp5 (v w:List Int):Int:=if v.length≠w.length then (if v.length<w.length then -1 else 1) else lexI v w
theorem z1t {v w:List Int} {k:Nat} (h:k<v.length) (h':k<w.length):lexI (v.drop k) (w.drop k)=if v[k]<w[k] then -1 else if w[k]<v[k] then 1 else lexI (v.drop (k+1)) (w.drop (k+1)):=by
 rw [List.drop_eq_getElem_cons h,List.drop_eq_getElem_cons h']; rfl
theorem zh6 (v w:List Int) (hl:v.length<=1000000000):Sp P F.bk [.sl (ens v),.sl (ens w)] (.pure (.int .i64 (cmp5 v w))):=by
 refine Sp.vz c.bk fun _=>?_
 by_cases hlen:v.length=w.length
 rotate_left
 ·have hne:¬ (v.length:Int)=w.length:=by omega
  simp [g.bk,go_sem,hlen,cmp5]
  by_cases h:v.length<w.length
  ·simp [h]; intro h'; omega
  ·simp [h]; intro h'; omega
 have e0:cmp5 v w=lexI v w:=by simp [cmp5,hlen]
 rw [e0]
 simp [g.bk,go_sem,hlen]
 refine zai (S:=fun k:Nat=>mkSt [(0,.p (.sl (ens v))),(1,.p (.sl (ens w))),(5,.p (.int .i64 k))] []) (I:=fun k=>k<=v.length/\lexI v w=lexI (v.drop k) (w.drop k)) (m:=fun k=>v.length - k) 0
  (Weak.to [0,1,5] [] (by simp [go_sem])) ⟨by omega,by simp⟩ ?_
 rintro k ⟨h6,h7⟩ R hn' hr hx
 have e1:=i64s k (by omega)
 by_cases hk:k<v.length
 ·have hk':k<w.length:=by omega
  have hd:=z1t hk hk'
  simp [g.oe,mkSt,go_sem,hk,hk']
  refine zae hk ?_
  refine zae hk' ?_
  refine ⟨fun h8=>hr _ ?_,fun h8=>?_⟩
  ·rw [if_pos h8] at hd
   simp [go_sem,h7,hd]
  refine zae hk ?_
  refine zae hk' ?_
  refine ⟨fun h9=>hr _ ?_,fun h9=>?_⟩
  ·rw [if_neg (by omega),if_pos h9] at hd
   simp [go_sem,h7,hd]
  ·rw [if_neg (by omega),if_neg (by omega)] at hd
   rw [e1]
   exact hn' (k+1) _ (Weak.to [0,1,5] [] (by simp [mkSt,go_sem])) ⟨by omega,by rw [h7,hd]⟩ (by omega)
 ·simp [g.oe,mkSt,go_sem,hk]
  refine hx _ _ ?_
  have:lexI v w=0:=by
   rw [h7,List.drop_eq_nil_of_le (by omega)]; rfl
  simp [go_sem,this]
theorem zko (m:Int):Sp P F.f9 [.int .i64 m] (.pure (.bool (decide (1<=m/\m<=32)))):=by
 refine Sp.vz c.f9 fun _=>?_
 simp [g.f9,go_sem]
 exact ⟨fun h _=>h,fun h h'=>by omega⟩
theorem zwj (v lo hi:Int):Sp P F.bv [.int .i64 v,.int .i64 lo,.int .i64 hi] (.pure (.bool (decide (lo<=v/\v<=hi)))):=by
 refine Sp.vz c.bv fun _=>?_
 simp [g.bv,go_sem]
 exact ⟨fun h _=>h,fun h h'=>by omega⟩
theorem zlf (r:GRing) (l:List GW) (m:Int) (hl:∀ w∈l,w.sm 1048576) (hlen:l.length<=1000000000):Sp P F.gl [enc r,.sl (ens l),.int .i64 m] (.pure (.bool (decide ((l.length:Int)=m/\∀ w∈l,w.chk r)))):=by
 refine Sp.vz c.gl fun _=>?_
 by_cases hm:(l.length:Int)=m
 rotate_left
 ·simp [g.gl,go_sem,hm]
 subst hm
 simp [g.gl,go_sem]
 refine zai (S:=fun k:Nat=>mkSt [(1,.p (.sl (ens l))),(2,.p (.int .i64 l.length)),(3,.ptr 1 0 0 0),(7,.p (.int .i64 k))] [(1,⟨2,[.p (enc r)]⟩)]) (I:=fun k=>k<=l.length/\∀ i,(hi:i<l.length)->i<k->l[i].chk r) (m:=fun k=>l.length - k) 0
  (Weak.to [1,2,3,7] [((3,0),1)] (by simp [go_sem])) ⟨by omega,fun i _ h=>by omega⟩ ?_
 rintro k ⟨h6,h7⟩ R hn' hr hx
 have e1:=i64s k (by omega)
 simp [g.qy,mkSt,go_sem]
 refine ⟨fun hk=>?_,fun hk=>hx _ _ ?_⟩
 ·refine zae hk ?_
  try simp [go_sem]
  have hmem:=List.getElem_mem hk
  refine zab (zi8 r l[k] (hl _ hmem)) ?_
  by_cases hc:l[k].chk r
  ·simp [go_sem,hc,e1]
   refine hn' (k+1) _ (Weak.to [1,2,3,7] [((1,0),1)] (by simp [mkSt,go_sem])) ⟨by omega,fun i hi h0=>?_⟩ (by omega)
   by_cases hik:i<k
   ·exact h7 i hi hik
   ·have:i=k:=by omega
    subst this; exact hc
  ·simp [go_sem,hc]
   refine hr _ ?_
   simp [go_sem]
   exact ⟨_,hmem,hc⟩
 ·have:∀ w∈l,w.chk r:=fun x hx=>by
   obtain ⟨i,hi,rfl⟩:=List.mem_iff_getElem.1 hx
   exact h7 i hi (by omega)
  simp [go_sem]
  exact this
theorem zru (x y:GArc):Sp P F.gr [enc x,enc y] (.pure (.int .i64 (lexI x.key y.key))):=by
 refine Sp.vz c.gr fun _=>?_
 simp [g.gr,go_sem]
 have k:=zh6 x.key y.key (by simp [GArc.key])
 rw [show cmp5 x.key y.key=lexI x.key y.key from rfl] at k
 refine zaa k (by simp [go_sem,GArc.key]) ?_
 simp [go_sem]
theorem zva (r:GRing) (l:List GW) (hl:∀ w∈l,w.sm 1048576) (hlen:l.length<=1000000):Sp P F.j4 [enc r,.sl (ens l)] (.pure (.sl (ens (l.map fun w=>w.tk r)))):=by
 refine Sp.vz c.j4 fun _=>?_
 simp [g.j4,go_sem]
 refine zai (S:=fun k:Nat=>mkSt [(1,.p (.sl (ens l))),(2,.ptr 2 0 0 0),(5,.own 1 0 0 k),(6,.p (.int .i64 k))] [(2,⟨2,[.p (enc r)]⟩),(1,⟨8,avs ((l.map fun w=>w.tk r).take k)⟩)]) (I:=fun k=>k<=l.length) (m:=fun k=>l.length - k) 0
  (Weak.nl 5 77 8 rfl (Weak.to [1,2,5,6] [((2,0),2),((77,0),1)] (by simp [go_sem]))) (by omega) ?_
 rintro k h1 R hn' hr hx
 have e3:=i64s k (by omega)
 simp [g.q7,mkSt,go_sem]
 refine ⟨fun hk=>?_,fun hk=>hx _ _ ?_⟩
 ·refine zae hk ?_
  try simp [go_sem]
  refine zab (zaw r l[k] (hl _ (List.getElem_mem hk))) ?_
  have hts:avs ((l.map fun w=>w.tk r).take (k+1))=avs ((l.map fun w=>w.tk r).take k)++[.p (enc (l[k].tk r))]:=by
   rw [List.take_succ_eq_append_getElem (by simpa using hk),zdb]; simp [go_sem]
  simp [go_sem,e3]
  exact ⟨⟨by omega,by omega⟩,hn' (k+1) _ (Weak.to [1,2,5,6] [((2,0),2),((21,0),1)] (by simp [mkSt,go_sem,hts])) (by omega) (by omega)⟩
 ·have:k=l.length:=by omega
  subst this
  have hts:(l.map fun w=>w.tk r).take l.length=l.map fun w=>w.tk r:=List.take_of_length_le (by simp)
  simp [go_sem,hts]
theorem z40 (r:GRing) (hl:r.parts.length<=1000000):Sp P F.j3 [enc r] (.pure (enc r)):=by
 refine Sp.vz c.j3 fun _=>?_
 simp [g.j3,go_sem]
 try omega
end Go.Ab
namespace Go.Ab
open Enc (enc)
theorem zdc {a:GAuto} (h:¬ a.ok):a.vb=false:=by
 cases hv:a.vb
 ·rfl
 ·exact absurd (GAuto.vb_iff.1 hv) h
theorem zyv (a:GAuto) (h:a.sm 1048576) (li:a.ini.length<=1000000) (lf:a.fin.length<=1000000):Sp P F.ju [enc a] (.pure (.bool a.vb)):=by
 refine Sp.vz c.ju fun _=>?_
 simp [g.ju,go_sem]
 refine zaa (zbd a.ring) rfl ?_
 cases hr:a.ring.ok
 ·simp [go_sem]; exact zdc fun ok=>by rw [ok.ring] at hr; cases hr
 simp [go_sem]
 refine zaa (zko a.sy) rfl ?_
 by_cases h1:1<=a.sy/\a.sy<=32
 rotate_left
 ·rw [decide_eq_false h1]; simp [go_sem]; exact zdc fun ok=>h1 ⟨ok.sy1,ok.sy2⟩
 rw [decide_eq_true h1]; simp [go_sem]
 refine zaa (zwj a.st 0 64) rfl ?_
 by_cases h2:0<=a.st/\a.st<=64
 rotate_left
 ·rw [decide_eq_false h2]; simp [go_sem]; exact zdc fun ok=>h2 ⟨ok.st1,ok.st2⟩
 rw [decide_eq_true h2]; simp [go_sem]
 refine zab (zlf a.ring a.ini a.st h.ini (by omega)) ?_
 by_cases h3:(a.ini.length:Int)=a.st/\∀ w∈a.ini,w.chk a.ring
 rotate_left
 ·rw [decide_eq_false h3]; simp [go_sem]; exact zdc fun ok=>h3 ⟨ok.il,ok.ini⟩
 rw [decide_eq_true h3]; simp [go_sem]
 refine zab (zlf a.ring a.fin a.st h.fin (by omega)) ?_
 by_cases h4:(a.fin.length:Int)=a.st/\∀ w∈a.fin,w.chk a.ring
 rotate_left
 ·rw [decide_eq_false h4]; simp [go_sem]; exact zdc fun ok=>h4 ⟨ok.fl,ok.fin⟩
 rw [decide_eq_true h4]; simp [go_sem]
 refine ⟨fun h5=>zdc fun ok=>by have:=ok.al; omega,fun h5=>?_⟩
 refine zai (S:=fun k:Nat=>mkSt [(1,.ptr 1 0 0 0),(3,.p (.int .i64 k))] [(1,⟨7,[.p (enc a)]⟩)]) (I:=fun k=>k<=a.arcs.length/\∀ i,(hi:i<a.arcs.length)->i<k->inA a.arcs[i] a) (m:=fun k=>a.arcs.length - k) 0
  (Weak.to [1,3] [((1,0),1)] (by simp [go_sem])) ⟨by omega,fun i _ h0=>by omega⟩ ?_
 rintro k ⟨h6,h7⟩ R hn hr' hx
 have e1:=i64s k (by omega)
 have e2:IntKind.i64.wrap (a.st - 1)=a.st - 1:=by
  by_cases hs:1<=a.st
  ·obtain ⟨m,hm⟩:=Int.eq_ofNat_of_zero_le (show 0<=a.st - 1 by omega)
   rw [hm]; exact i64w (by omega) (by omega)
  ·have:a.st=0:=by omega
   rw [this]; rfl
 simp [g.qc,mkSt,go_sem,e2]
 refine ⟨fun hk=>?_,fun hk=>hx _ _ ?_⟩
 ·refine zae hk ?_
  have hret:¬ inA a.arcs[k] a->¬ a.ok:=fun h ok=>h (ok.arcs _ (List.getElem_mem hk))
  have hsw:a.arcs[k].w.sm 1048576:=h.arcs _ (List.getElem_mem hk)
  have hnext:inA a.arcs[k] a->∀ i,(hi:i<a.arcs.length)->i<k+1->inA a.arcs[i] a:=fun hx i hi h0=>by
   by_cases hik:i<k
   ·exact h7 i hi hik
   ·have:i=k:=by omega
    subst this; exact hx
  generalize a.arcs[k]=x at *
  refine zaa (zwj x.f 0 (a.st - 1)) rfl ?_
  by_cases h8:0<=x.f/\x.f<=a.st - 1
  rotate_left
  ·rw [decide_eq_false h8]; simp [go_sem]
   refine hr' _ ?_
   simp [go_sem]
   exact zdc (hret fun hT=>h8 ⟨hT.1,by have:=hT.2.1; omega⟩)
  rw [decide_eq_true h8]; simp [go_sem,e2]
  refine zaa (zwj x.t 0 (a.st - 1)) rfl ?_
  by_cases h9:0<=x.t/\x.t<=a.st - 1
  rotate_left
  ·rw [decide_eq_false h9]; simp [go_sem]
   refine hr' _ ?_
   simp [go_sem]
   exact zdc (hret fun hT=>h9 ⟨hT.2.2.1,by have:=hT.2.2.2.1; omega⟩)
  rw [decide_eq_true h9]; simp [go_sem]
  refine zaa (zwj x.l 0 a.sy) rfl ?_
  by_cases h10:0<=x.l/\x.l<=a.sy
  rotate_left
  ·rw [decide_eq_false h10]; simp [go_sem]
   refine hr' _ ?_
   simp [go_sem]
   exact zdc (hret fun hT=>h10 ⟨hT.2.2.2.2.1,hT.2.2.2.2.2.1⟩)
  rw [decide_eq_true h10]; simp [go_sem]
  refine zab (zi8 a.ring x.w hsw) ?_
  by_cases hc:x.w.chk a.ring
  rotate_left
  ·simp [go_sem,hc]
   refine hr' _ ?_
   simp [go_sem]
   exact zdc (hret fun hT=>hc hT.2.2.2.2.2.2)
  simp [go_sem,hc,e1]
  exact hn (k+1) _ (Weak.to [1,3] [((1,0),1)] (by simp [mkSt,go_sem])) ⟨by omega,hnext ⟨h8.1,by omega,h9.1,by omega,h10.1,h10.2,hc⟩⟩ (by omega)
 ·have hall:∀ x∈a.arcs,inA x a:=fun x hx=>by
   obtain ⟨i,hi,rfl⟩:=List.mem_iff_getElem.1 hx
   exact h7 i hi (by omega)
  have ok:a.ok:=⟨hr,h1.1,h1.2,h2.1,h2.2,h3.1,h4.1,by omega,hall,h3.2,h4.2⟩
  simp [go_sem,GAuto.vb_iff.2 ok]
end Go.Ab
namespace Go.Ab
open Enc (enc)
attribute [local go_sem] zam Opd.slots
section
variable {α : Type} {key : α -> List Int} {up : α -> α -> α} {nw : α -> α}
theorem zr7 {B:List α} {x : α}:∀ {A:List α},(∀ a∈A,key a<key x)->insF key up nw (A++B) x=A++insF key up nw B x
 | [],_=>rfl
 | a::A,h=>by
  rw [List.cons_append,List.cons_append,<- zr7 (A:=A) fun b hb=>h b (by simp [hb])]
  simp [insF,h a (by simp)]
theorem zt9 {O:List α} {x : α} {k:Nat} (h:∀ i,(hi:i<O.length)->i<k->key O[i]<key x):insF key up nw O x=O.take k++insF key up nw (O.drop k) x:=by
 have e:=zr7 (up:=up) (nw:=nw) (B:=O.drop k) (x:=x) (A:=O.take k) fun a ha=>by
  obtain ⟨i,hi,rfl⟩:=List.mem_iff_getElem.1 ha
  have hi':=hi
  rw [List.length_take] at hi'
  rw [List.getElem_take]
  exact h i (by omega) (by omega)
 rwa [List.take_append_drop] at e
theorem z5y {O:List α} {x : α} (h:∀ i,(hi:i<O.length)->key O[i]<key x):insF key up nw O x=O++[nw x]:=by
 rw [zt9 (k:=O.length) fun i hi _=>h i hi]; simp [insF]
theorem z96 {O:List α} {x : α} {k:Nat} (hk:k<O.length) (h:∀ i,(hi:i<O.length)->i<k->key O[i]<key x) (he:key O[k]=key x):insF key up nw O x=O.set k (up O[k] x):=by
 rw [zt9 h,List.drop_eq_getElem_cons hk]
 have:¬ key O[k]<key x:=by rw [he]; exact List.lt_irrefl _
 simp only [insF,if_neg this,if_pos he]
 rw [List.set_eq_take_append_cons_drop,if_pos hk]
theorem z5x {O:List α} {x : α} {k:Nat} (hk:k<O.length) (h:∀ i,(hi:i<O.length)->i<k->key O[i]<key x) (h1:¬ key O[k]<key x) (h2:key O[k]≠key x):insF key up nw O x=O.take k++nw x::O.drop k:=by
 rw [zt9 h,List.drop_eq_getElem_cons hk]
 simp [insF,h1,h2]
end
noncomputable def z6f (r:GRing) (l:List GArc):List GArc:=(nfm GArc.key (upA r) id l).filter fun x => !decide (x.w=r.zero)
theorem z2i {r:GRing} {n:Nat} (hn1:1<=n) {l:List GArc} (h:∀ x∈l,x.w.sm n/\x.w.chk r) (k:Nat) (hk:k<=l.length) :
  (nfm GArc.key (upA r) id (l.take k)).length<=k/\∀ x∈nfm GArc.key (upA r) id (l.take k),x.w.sm ((k+1)*(n+1))/\x.w.chk r:=by
 refine z1a (up:=upA r) (nw:=id) (Q:=fun k x=>x.w.sm ((k+1)*(n+1))/\x.w.chk r) (fun k x hx=>⟨hx.1.mono (Nat.mul_le_mul_right _ (by omega)),hx.2⟩) (fun x hx=>⟨(h x hx).1.mono (by omega),(h x hx).2⟩) (fun k z x hx hz=>⟨?_,(zhd hz.2 (h x hx).2:(r.plus z.w x.w).chk r)⟩) (fun k x hx=>⟨hx.1.mono (Nat.mul_le_mul_right _ (by omega)),hx.2⟩) k hk
 have:=z0k hz.1 (h x hx).1 hz.2 (h x hx).2 (Nat.le_trans hn1 (by rw [Nat.add_mul]; omega)) hn1
 have e:(k+1)*(n+1)+n+1=(k+1+1)*(n+1):=by rw [Nat.add_mul (k+1) 1]; omega
 rw [<- e]; exact this
theorem zol (r:GRing) (l:List GArc):z6f r l=tidA r l:=by
 unfold z6f tidA
 rw [(z1e (up:=upA r) (nw:=id) (fun _ _=>rfl) (fun _=>rfl) l).1]
theorem zw6 (r:GRing) (l:List GArc) (n:Nat) (hn:n<=90) (hn1:3<=n) (hl:l.length<=19) (h:∀ x∈l,x.w.sm n/\x.w.chk r) :
  Sp P F.dz [enc r,.sl (ens l)] (.pure (.sl (ens (z6f r l)))):=by
 have inv:=z2i (r:=r) (n:=n) (by omega) h
 refine Sp.vz c.dz fun _=>?_
 simp [g.dz,go_sem]
 refine zai (S:=fun k:Nat=>mkSt [(1,.p (.sl (ens l))),(2,.ptr 2 0 0 0),(5,.own 1 0 0 (nfm GArc.key (upA r) id (l.take k)).length),(6,.p (.int .i64 k))] [(2,⟨2,[.p (enc r)]⟩),(1,⟨11,avs (nfm GArc.key (upA r) id (l.take k))⟩)]) (I:=fun k=>k<=l.length) (m:=fun k=>l.length - k) 0
  (Weak.nl 5 77 11 rfl (Weak.to [1,2,5,6] [((2,0),2),((77,0),1)] (by simp [go_sem,nfm]))) (by omega) ?_
 rintro k h1 R hn' hr hx
 have e3:=i64s k (by omega)
 obtain ⟨iv1,iv2⟩:=inv k h1
 generalize hO:nfm GArc.key (upA r) id (l.take k)=O at *
 by_cases hk:k<l.length
 ·have hw:=h _ (List.getElem_mem hk)
  have hnx:=zfx (key:=GArc.key) (up:=upA r) (nw:=id) hk
  rw [hO] at hnx
  simp [g.o7,mkSt,go_sem,hk]
  refine zae hk ?_
  try simp [go_sem]
  generalize l[k]=x at *
  refine zab (zaw r x.w (hw.1.mono (by omega))) ?_
  rw [z7e hw.2]
  simp [go_sem]
  refine zai (S:=fun i:Nat=>mkSt [(1,.p (.sl (ens l))),(2,.ptr 2 0 0 0),(5,.own 1 0 0 O.length),(6,.p (.int .i64 k)),(7,.ptr 3 0 0 0),(8,.p (.int .i64 i))] [(2,⟨2,[.p (enc r)]⟩),(1,⟨11,avs O⟩),(3,⟨11,[.p (enc x)]⟩)]) (I:=fun i=>i<=O.length/\∀ j,(hj:j<O.length)->j<i->O[j].key<x.key) (m:=fun i=>O.length - i) 0
   (Weak.to [1,2,5,6,7,8] [((2,0),2),((1,0),1),((7,0),3)] (by simp [go_sem])) ⟨by omega,fun j _ hj=>by omega⟩ ?_
  rintro i ⟨j1,j2⟩ R2 hn2 hr2 hx2
  have e4:=i64s i (by omega)
  by_cases hi:i<O.length
  ·simp [g.o6,mkSt,go_sem,hi]
   refine zae hi ?_
   refine zab (zru O[i] x) ?_
   have hlt:lexI O[i].key x.key<0 ↔ O[i].key<x.key:=zt5 (by simp [GArc.key])
   have hle:lexI O[i].key x.key=0 ↔ O[i].key=x.key:=zt6 (by simp [GArc.key])
   simp [go_sem]
   refine ⟨fun h8=>?_,fun h8=>hx2 _ _ ?_⟩
   ·rw [e4]
    refine hn2 (i+1) _ (Weak.to [1,2,5,6,7,8] [((2,0),2),((1,0),1),((3,0),3)] (by simp [mkSt,go_sem])) ⟨by omega,fun j hj h0=>?_⟩ (by omega)
    by_cases hji:j<i
    ·exact j2 j hj hji
    ·have:j=i:=by omega
     subst this; exact hlt.1 h8
   ·simp [go_sem,hi]
    refine zae hi ?_
    refine zab (zru O[i] x) ?_
    simp [go_sem]
    refine ⟨fun h0=>?_,fun h0=>?_⟩
    ·rw [z96 hi j2 (hle.1 h0)] at hnx
     have hz:=iv2 _ (List.getElem_mem hi)
     have hb2:(k+1)*(n+1)<=2000:=by
      have:=Nat.mul_le_mul (show k+1<=20 by omega) (show n+1<=91 by omega)
      omega
     have hb3:n<=(k+1)*(n+1):=by rw [Nat.add_mul]; omega
     refine ⟨hi,zae hi ?_⟩
     refine zab (zvo r O[i].w x.w _ hz.1 (hw.1.mono hb3) hb2 (by omega) hz.2 hw.2) ?_
     simp [go_sem,e3,hi]
     refine zae hi ?_
     refine hn' (k+1) _ (Weak.to [1,2,5,6] [((2,0),2),((1,0),1)] ?_) (by omega) (by omega)
     rw [hnx]
     simp [mkSt,go_sem,upA]
    ·rw [z5x hi j2 (fun h=>by have:=hlt.2 h; omega) (fun h=>h0 (hle.2 h))] at hnx
     have hO2:O.length<=19:=by omega
     have hm:min i O.length=i:=by omega
     rw [hm]
     refine ⟨by omega,⟨by omega,by omega⟩,by omega,by omega,⟨by omega,by omega⟩,?_⟩
     rw [e3]
     have hlen:i+1+(O.length - i)=O.length+1:=by omega
     refine hn' (k+1) _ (Weak.to [1,2,5,6] [((2,0),2),((77,0),1)] ?_) (by omega) (by omega)
     rw [hnx]
     simp [mkSt,go_sem,hlen]
     exact ⟨by omega,by rw [List.take_of_length_le (by simp)]⟩
  ·have:i=O.length:=by omega
   subst this
   rw [z5y fun j hj=>j2 j hj hj] at hnx
   simp [g.o6,mkSt,go_sem]
   refine hx2 _ _ ?_
   simp [go_sem]
   rw [e3]
   refine ⟨by omega,by omega,hn' (k+1) _ (Weak.to [1,2,5,6] [((2,0),2),((77,0),1)] ?_) (by omega) (by omega)⟩
   rw [hnx]
   simp [mkSt,go_sem]
 ·have:k=l.length:=by omega
  subst this
  rw [List.take_of_length_le (Nat.le_refl _)] at hO
  have hf:z6f r l=O.filter fun x => !decide (x.w=r.zero):=by rw [<- hO]; rfl
  have hb2:(l.length+1)*(n+1)<=1048576:=by
   have:=Nat.mul_le_mul (show l.length+1<=20 by omega) (show n+1<=91 by omega)
   omega
  simp [g.o7,mkSt,go_sem]
  refine hx _ _ ?_
  simp [go_sem]
  rw [hf]
  clear hx hr hn'
  refine zai (S:=fun j:Nat=>mkSt [(2,.ptr 2 0 0 0),(5,.own 1 0 0 O.length),(9,.own 3 0 0 ((O.take j).filter fun x => !decide (x.w=r.zero)).length),(10,.p (.int .i64 j))] [(2,⟨2,[.p (enc r)]⟩),(1,⟨11,avs O⟩),(3,⟨11,avs ((O.take j).filter fun x => !decide (x.w=r.zero))⟩)]) (I:=fun j=>j<=O.length) (m:=fun j=>O.length - j) 0
   (Weak.nl 9 78 11 rfl (Weak.to [2,5,9,10] [((2,0),2),((1,0),1),((78,0),3)] (by simp [go_sem]))) (by omega) ?_
  rintro j j1 R hn' hr hx
  have e4:=i64s j (by omega)
  by_cases hj:j<O.length
  ·have hlj:((O.take j).filter fun x => !decide (x.w=r.zero)).length<=j:=Nat.le_trans (List.length_filter_le _ _) (by rw [List.length_take]; omega)
   have hts:(O.take (j+1)).filter (fun x => !decide (x.w=r.zero))=(O.take j).filter (fun x => !decide (x.w=r.zero))++if O[j].w=r.zero then [] else [O[j]]:=by
    rw [List.take_succ_eq_append_getElem hj,List.filter_append]; by_cases hz:O[j].w=r.zero<;>simp [hz]
   generalize hT:(O.take j).filter (fun x => !decide (x.w=r.zero))=T at *
   have hz:=iv2 _ (List.getElem_mem hj)
   simp [g.o8,mkSt,go_sem,hj]
   refine zae hj ?_
   refine zab (zxy r O[j].w (hz.1.mono hb2)) ?_
   by_cases h0:O[j].w=r.zero
   ·rw [decide_eq_true h0]; simp [go_sem,e4]
    rw [if_pos h0] at hts
    refine hn' (j+1) _ (Weak.to [2,5,9,10] [((2,0),2),((1,0),1),((3,0),3)] ?_) (by omega) (by omega)
    rw [hts]
    simp [mkSt,go_sem]
   ·rw [decide_eq_false h0]; simp [go_sem,hj]
    rw [if_neg h0] at hts
    refine zae hj ?_
    rw [e4]
    refine ⟨by omega,hn' (j+1) _ (Weak.to [2,5,9,10] [((2,0),2),((1,0),1),((98,0),3)] ?_) (by omega) (by omega)⟩
    rw [hts]
    simp [mkSt,go_sem]
  ·have:j=O.length:=by omega
   subst this
   simp [g.o8,mkSt,go_sem]
   refine hx _ _ ?_
   simp [go_sem]
end Go.Ab
namespace Go.Ab
open Enc (enc)
attribute [local go_sem] zam Opd.slots
theorem yb2 {r:GRing} {l:List GW} (h:∀ w∈l,w.chk r):(l.map fun w=>w.tk r)=l:=by
 have:(l.map fun w=>w.tk r)=l.map id:=List.map_congr_left fun w hw=>z7e (h w hw)
 rw [this,List.map_id]
theorem z6g (a:GAuto) (n:Nat) (hn:n<=90) (hn1:3<=n) (h:a.sm n) (hl:a.arcs.length<=19) (hp:a.ring.parts.length<=1000000) (li:a.ini.length<=1000000) (lf:a.fin.length<=1000000)
  (ci:∀ w∈a.ini,w.chk a.ring) (cf:∀ w∈a.fin,w.chk a.ring) (ca:∀ x∈a.arcs,x.w.chk a.ring) :
  Sp P F.jv [enc a] (.pure (enc a.nf)):=by
 have k1:=zva a.ring a.ini (fun w hw=>(h.ini w hw).mono (by omega)) li
 have k2:=zva a.ring a.fin (fun w hw=>(h.fin w hw).mono (by omega)) lf
 rw [yb2 ci] at k1
 rw [yb2 cf] at k2
 have k3:=zw6 a.ring a.arcs n hn hn1 hl fun x hx=>⟨h.arcs x hx,ca x hx⟩
 rw [zol] at k3
 refine Sp.vz c.jv fun _=>?_
 simp [g.jv,go_sem]
 refine zab (z40 a.ring hp) ?_
 simp [go_sem]
 refine zab k1 ?_
 simp [go_sem]
 refine zab k2 ?_
 simp [go_sem]
 refine zab k3 ?_
 simp [go_sem,GAuto.nf]
noncomputable instance:DecidableEq GArc:=fun _ _=>Classical.propDecidable _
noncomputable instance:DecidableEq GTArc:=fun _ _=>Classical.propDecidable _
noncomputable instance:DecidableEq GAuto:=fun _ _=>Classical.propDecidable _
noncomputable instance:DecidableEq GTrans:=fun _ _=>Classical.propDecidable _
theorem yav {x y:GArc}:x=y ↔ x.key=y.key/\x.w=y.w:=by
 cases x; cases y; simp [GArc.key,and_assoc]
end Go.Ab
namespace Go.Ab
open Enc (enc)
attribute [local go_sem] zam Opd.slots
end Go.Ab
namespace Go.Ab
open Enc (enc)
attribute [local go_sem] zam Opd.slots
end Go.Ab
namespace Go.Ab
open Enc (enc)
attribute [local go_sem] zam Opd.slots
end Go.Ab
namespace Go.Ab
open Enc (enc)
attribute [local go_sem] zam Opd.slots
end Go.Ab
namespace Go.Ab
open Enc (enc)
attribute [local go_sem] zam Opd.slots
end Go.Ab
namespace Go.Ab
section
variable {α : Type} {key : α -> List Int} {wt : α -> GW} {r:GRing} {up : α -> α -> α}
theorem zte (hr:r.ok=true) (hk:∀ z y,key (up z y)=key z) (hw:∀ z y,wt (up z y)=r.plus (wt z) (wt y)) {l:List α} (h:∀ x∈l,(wt x).chk r) {x : α} (hx:x∈tid key wt r up l):∃ y∈l,key y=key x:=by
 obtain ⟨s,c,e⟩:=zu8 (up:=up) hr hk hw h
 by_cases hn:∃ y∈l,key y=key x
 ·exact hn
 ·have h1:=zuv s (fun y hy=>(c y hy).1) hx
  unfold atK at h1
  rw [e] at h1
  have h2:atK key wt r l (key x)=r.zero:=zuu fun y hy e=>hn ⟨y,hy,e⟩
  exact absurd (h1.symm.trans h2) (c x hx).2
theorem ztd (hk:∀ z y,key (up z y)=key z) (l:List α):(tid key wt r up l).length<=l.length:=by
 unfold tid
 refine Nat.le_trans (List.length_filter_le _ _) ?_
 have h:=(zt2 (key:=key) (up:=up) (nw:=id) (Q:=fun _ _=>True) (l:=srt key l) (fun _ _ _=>trivial) (fun _ _=>trivial) (fun _ _ _ _ _=>trivial) (fun _ _ _=>trivial) _ (Nat.le_refl _)).1
 rw [List.take_length,(zdg l).2.1] at h
 exact h
end
theorem zfb {r:GRing} (hr:r.ok=true) {l:List GArc} (h:∀ x∈l,x.w.chk r):SSrt GArc.key (tid GArc.key GArc.w r (upA r) l)/\(∀ x∈tid GArc.key GArc.w r (upA r) l,x.w.chk r/\x.w≠r.zero)/\∀ p,atQ GArc.key GArc.w r (tid GArc.key GArc.w r (upA r) l) p=atQ GArc.key GArc.w r l p:=zu8 (key:=GArc.key) (wt:=GArc.w) (up:=upA r) hr (fun _ _=>rfl) (fun _ _=>rfl) h
theorem zr0 {a:GAuto} (ok:a.ok):a.nf.ok:=by
 have hc:∀ x∈a.arcs,x.w.chk a.ring:=fun x hx=>(ok.arcs x hx).2.2.2.2.2.2
 refine ⟨ok.ring,ok.sy1,ok.sy2,ok.st1,ok.st2,ok.il,ok.fl,Nat.le_trans (ztd (key:=GArc.key) (wt:=GArc.w) (r:=a.ring) (up:=upA a.ring) (fun _ _=>rfl) a.arcs) ok.al,fun x hx=>?_,ok.ini,ok.fin⟩
 have hx':x∈tid GArc.key GArc.w a.ring (upA a.ring) a.arcs:=hx
 obtain ⟨y,hy,e⟩:=zte (key:=GArc.key) (wt:=GArc.w) (up:=upA a.ring) ok.ring (fun _ _=>rfl) (fun _ _=>rfl) hc hx'
 obtain ⟨a1,a2,a3,a4,a5,a6,_⟩:=ok.arcs y hy
 simp only [GArc.key,List.cons.injEq,and_true] at e
 obtain ⟨e1,e2,e3⟩:=e
 exact ⟨e1 ▸ a1,e1 ▸ a2,e3 ▸ a3,e3 ▸ a4,e2 ▸ a5,e2 ▸ a6,((zfb ok.ring hc).2.1 x hx').1⟩
end Go.Ab
namespace Go.Ab
open Enc (enc)
def zax (a:GAuto):GView:=⟨a,fstA a.arcs a.st.toNat⟩
def z7u:GView:=⟨zwo,[]⟩
theorem z9e (l:List GArc) (N:Nat):mp (N+1) (pfx l N)=fstA l N:=by
 unfold fstA mp
 refine List.map_congr_left fun q hq=>?_
 have:=List.mem_range.1 hq
 simp only [pfx]; rw [if_pos (by omega)]
theorem z9f (l:List GArc) (N:Nat) (h:∀ x∈l,0<=x.f):mp (N+1) (fun q=>((ctA (l.take l.length) q:Nat):Int))=mp (N+1) (pfx l 0):=by
 apply zhg
 intro q _
 rw [List.take_length]
 unfold pfx
 split
 ·have hq:q=0:=by omega
  subst hq
  congr 1
  unfold ctA ltA
  congr 1
  apply List.filter_congr
  intro x hx
  have:=h x hx
  rw [decide_eq_decide]; omega
 ·rfl
theorem z19 {a:GAuto} (ok:a.ok):a.nf.inN a.st.toNat:=by
 have k:=zr0 ok
 have h1:a.nf.st=a.st:=rfl
 have h2:=ok.st1
 refine ⟨by rw [h1]; omega,fun x hx=>?_⟩
 have:=k.arcs x hx
 rw [show (a.st.toNat:Int)=a.nf.st by rw [h1]; omega]
 exact ⟨this.1,this.2.1⟩
theorem zu9 (r:GRing) (l:List GArc):(tidA r l).length<=l.length:=by
 rw [zlk]; exact ztd (key:=GArc.key) (wt:=GArc.w) (r:=r) (up:=upA r) (fun _ _=>rfl) l
theorem z75 (a:GAuto) (n:Nat) (hn:n<=90) (hn1:3<=n) (h:a.sm n) (hl:a.arcs.length<=19) :
  Sp P F.jj [enc a] (.pure (.tup [enc (if a.vb then zax a.nf else z7u),.int .i64 (if a.vb then 0 else 4)])):=by
 refine Sp.vz c.jj fun _=>?_
 simp [g.jj,go_sem]
 refine zab (zxn a n hn hn1 h hl) ?_
 cases hv:a.vb
 ·simp [go_sem,zwo,z7u]
 have ok:=GAuto.vb_iff.1 hv
 have hN:=z19 ok
 have i3:=ok.st2
 have hl2:a.nf.arcs.length<=19:=Nat.le_trans (zu9 a.ring a.arcs) hl
 have i5:a.st.toNat<=64:=by omega
 simp only [if_true]
 generalize a.nf=A at *
 generalize a.st.toNat=N at *
 have e0:=hN.st
 have e1:=i64s N (by omega)
 have hb:=z9f A.arcs N fun x hx=>(hN.f x hx).1
 simp [go_sem,e0,e1]
 refine ⟨by omega,?_⟩
 refine z8a hN (by omega) (by omega) (Weak.to [2,4,6,26,27,28] [((2,0),2),((4,0),4),((6,0),6),((23,0),23)] ?_) ?_
 ·have:avs (mp (N+1) fun q=>((ctA [] q:Nat):Int))=List.replicate (N+1) (.p (.int .i64 0)):=by
   have:(fun q=>((ctA [] q:Nat):Int))=fun _=>0:=by funext q; simp [ctA]
   rw [this,zv4,zga]; rfl
  simp [v1S,mkSt,go_sem,zkp,z8v,e0,this]
 ·simp [v1S,mkSt,go_sem,zkp,z8v,e0]
  refine z79 (a:=A) (N:=N) (by omega) (by omega) (Weak.to [2,6,43,44] [((2,0),2),((6,0),6),((23,0),23)] ?_) ?_
  ·rw [List.take_length] at hb
   simp [v2S,mkSt,go_sem,zkp,z8v,e0,hb]
  ·rw [v2S,z9e]
   have hlen:(fstA A.arcs N).length=N+1:=by simp [fstA]
   have htk:(fstA A.arcs N).take (N+1)=fstA A.arcs N:=by rw [<- hlen,List.take_length]
   simp [mkSt,go_sem,zkp,z8v,e0,zax,hlen,htk]
theorem zoy (A:GAuto) (N q:Nat) (h:A.inN N) (hs:FS A.arcs) (hq:q<N) (hN:N<=1000) (hl:A.arcs.length<=100000):Sp P F.dj [enc (zax A),.int .i64 q] (.pure (.sl (ens (zaj A.arcs q)))):=by
 refine Sp.vz c.dj fun _=>?_
 have e0:=h.st
 have e1:=i64s q (by omega)
 have hf:(zax A).first=mp (N+1) fun q=>((ltA A.arcs q:Nat):Int):=by
  have:A.st.toNat=N:=by omega
  simp [zax,fstA,mp,this]
 have hfa:(zax A).a=A:=rfl
 have l1:q<(mp (N+1) fun q=>((ltA A.arcs q:Nat):Int)).length:=by rw [zdm]; omega
 have l2:q+1<(mp (N+1) fun q=>((ltA A.arcs q:Nat):Int)).length:=by rw [zdm]; omega
 have h1:=zpx A.arcs q
 have h2:=z7m A.arcs (q+1)
 have h3:=zx1 q hs
 simp [g.dj,go_sem,hf,hfa,e1]
 refine zae l1 ?_
 simp only [zl4]
 refine zae l2 ?_
 simp only [zl4]
 refine ⟨by omega,⟨by omega,by omega,by omega,by omega⟩,?_⟩
 simp only [Int.toNat_natCast]
 rw [h3]
end Go.Ab
namespace Go.Ab
open Enc (enc)
noncomputable def begC (a:GAuto) (k:Nat):Nat:=((a.ini.take k).filter fun w=>decide (w≠a.ring.zero)).length
theorem zm7 (a:GAuto) {k:Nat} (h:k<a.ini.length):begC a (k+1)=if a.ini[k]≠a.ring.zero then begC a k+1 else begC a k:=by
 unfold begC
 rw [List.take_succ_eq_append_getElem h,List.filter_append,List.length_append,List.filter_cons]
 by_cases hx:a.ini[k]=a.ring.zero<;>simp [hx]
theorem z3n (a:GAuto) (k:Nat):begC a k<=k:=by
 unfold begC
 exact Nat.le_trans (List.length_filter_le _ _) (by rw [List.length_take]; omega)
def twin (l:List GArc) (k:Nat):Prop:=∃ (h:k<l.length) (h0:0<k),l[k].f=(l[k - 1]'(by omega)).f/\l[k].l=(l[k - 1]'(by omega)).l
def zqr (l:List GArc):Prop:=∀ k,¬ twin l k
open Classical in
theorem z6s (A:GAuto) (N:Nat) (h:A.inN N) (hi:A.ini.length=N) (hsm:∀ w∈A.ini,w.sm 1048576) (hN:N<=1000) (hl:A.arcs.length<=100000):Sp P F.jl [enc (zax A)] (.pure (.bool (decide (zqr A.arcs/\begC A N<=1)))):=by
 refine Sp.vz c.jl fun _=>?_
 generalize hres:decide (zqr A.arcs/\begC A N<=1)=res
 have e0:=h.st
 simp [g.jl,go_sem]
 refine zai (S:=fun k:Nat=>mkSt [(1,.ptr 1 0 0 0),(3,.p (.int .i64 (begC A k))),(8,.p (.int .i64 N)),(9,.p (.int .i64 k))] [(1,⟨8,[.p (enc (zax A))]⟩)]) (I:=fun k=>k<=N) (m:=fun k=>N - k) 0
  (Weak.to [1,3,8,9] [((1,0),1)] (by simp [mkSt,go_sem,begC,zax,e0])) (by omega) ?_
 rintro k hk R hn' hr' hx
 have e1:=i64s k (by omega)
 have e2:IntKind.i64.wrap ((begC A k:Int)+1)=((begC A k+1:Nat):Int):=i64w (by have:=z3n A k; omega) (by have:=z3n A k; omega)
 simp [g.px,mkSt,go_sem]
 refine ⟨fun hk2=>?_,fun hk2=>hx _ _ ?_⟩
 ·have hki:k<(zax A).a.ini.length:=by show k<A.ini.length; omega
  refine zab (zs5 (zax A) k hki hsm) ?_
  have hs:=zm7 A (show k<A.ini.length by omega)
  have hz:(zax A).a.ini[k]=A.ini[k]'(by omega):=rfl
  by_cases hb:A.ini[k]'(by omega)=A.ring.zero
  ·rw [if_neg (by simpa using hb)] at hs
   have hb':(zax A).a.ini[k]=(zax A).a.ring.zero:=hb
   simp [go_sem,hb',e1]
   exact hn' (k+1) _ (Weak.to [1,3,8,9] [((1,0),1)] (by simp [mkSt,go_sem,hs])) (by omega) (by omega)
  ·rw [if_pos (by simpa using hb)] at hs
   have hb':¬ (zax A).a.ini[k]=(zax A).a.ring.zero:=hb
   simp [go_sem,hb',e1,e2]
   exact hn' (k+1) _ (Weak.to [1,3,8,9] [((1,0),1)] (by simp [mkSt,go_sem,hs])) (by omega) (by omega)
 have hkN:k=N:=by omega
 subst hkN
 simp [go_sem]
 refine zai (S:=fun j:Nat=>mkSt [(1,.ptr 1 0 0 0),(3,.p (.int .i64 (begC A k))),(5,.p (.int .i64 j))] [(1,⟨8,[.p (enc (zax A))]⟩)]) (I:=fun j=>(j<=A.arcs.length\/j=1)/\1<=j/\∀ i,i<j->¬ twin A.arcs i) (m:=fun j=>A.arcs.length - j) 1
  (Weak.to [1,3,5] [((1,0),1)] (by simp [mkSt,go_sem])) ⟨by omega,by omega,fun i hi=>by rintro ⟨_,h2,_⟩; omega⟩ ?_
 rintro j ⟨hj1,hj2,hj3⟩ R2 hn2 hr2 hx2
 have e4:=i64s j (by omega)
 have e5:IntKind.i64.wrap ((j:Int) - 1)=((j - 1:Nat):Int):=by rw [i64w (by omega) (by omega)]; omega
 have hva:(zax A).a.arcs=A.arcs:=rfl
 simp [g.py,mkSt,go_sem,hva]
 refine ⟨fun hlt=>?_,fun hge=>hx2 _ _ ?_⟩
 ·have hj0:j - 1<A.arcs.length:=by omega
  refine zae hlt ?_
  rw [e5]
  simp only [Int.toNat_natCast]
  refine zae hj0 ⟨by omega,fun hf=>?_,fun hf=>?_⟩
  ·refine zae hlt (zae hj0 ⟨by omega,fun hl2=>hr2 _ ?_,fun hl2=>?_⟩)
   ·have:¬ zqr A.arcs:=fun hc=>hc j ⟨hlt,by omega,hf,hl2⟩
    simp [go_sem,<- hres,this]
   ·simp only [e4]
    exact hn2 (j+1) _ (Weak.to [1,3,5] [((1,0),1)] (by simp [mkSt,go_sem,hva])) ⟨by omega,by omega,fun i hi2=>by
     by_cases hij:i=j
     ·subst hij; rintro ⟨_,_,_,h4⟩; exact hl2 h4
     ·exact hj3 i (by omega)⟩ (by omega)
  ·simp only [e4]
   exact hn2 (j+1) _ (Weak.to [1,3,5] [((1,0),1)] (by simp [mkSt,go_sem,hva])) ⟨by omega,by omega,fun i hi2=>by
     by_cases hij:i=j
     ·subst hij; rintro ⟨_,_,h3,_⟩; exact hf h3
     ·exact hj3 i (by omega)⟩ (by omega)
 ·have hadj:zqr A.arcs:=fun i hi=>by
   have hlt:=hi.1
   exact hj3 i (by omega) hi
  simp [go_sem,<- hres,hadj]
  omega
end Go.Ab
