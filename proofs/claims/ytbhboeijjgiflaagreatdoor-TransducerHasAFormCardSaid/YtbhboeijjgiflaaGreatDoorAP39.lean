/-
Proofs for the law TransducerHasAForm, part 39. Conditions: none.
-/
import Derived.Test.YtbhboeijjgiflaaGreatDoorAP37
import Derived.Test.YtbhboeijjgiflaaGreatDoorAP38
set_option maxRecDepth 100000
set_option maxHeartbeats 4000000
set_option linter.all false
namespace Go.Ab
def pl (g:Ex->Rat):List GMono->Rat
 | []=>0
 | m::p=>g m.e*m.coef.v+pl g p
theorem ydb (a b c:Rat):a+(b+c)=b+(a+c):=by rw [<- Rat.add_assoc,ykh a b,yjo]
theorem z9o (g:Ex->Rat) (p:List GMono) (e:Ex) (q:Rat):pl g (pins p e q)=pl g p+g e*q:=by
 induction p with
 | nil=>simp only [pins,pl,zbt,yjm,Rat.zero_add]
 | cons m p ih =>
  simp only [pins];split
  ·simp only [pl,ih,yjo]
  ·split
   ·rename_i h;split
    ·rename_i h2;simp only [pl,h];rw [ykh (g e*m.coef.v) (pl g p),yjo,<- Rat.mul_add,ykh m.coef.v q,h2,ylm,yjm]
    ·simp only [pl,h,zbt];rw [Rat.mul_add,yjo,ykh]
   ·simp only [pl,zbt];rw [ykh]
theorem z0w (g:Ex->Rat) (p:List GMono) (e:Ex) (q:Rat):pl g (pput p e q)=pl g p+if e.ok=true then g e*q else 0:=by
 rw [ziw];split
 ·rename_i h;rcases h with h|h
  ·simp [h,yjm]
  ·simp [h,ylm,yjm]
 ·rename_i h;have:e.ok=true:=by
   rcases yla e.ok with h'|h'
   ·exact h'
   ·exact absurd (.inl h') h
  rw [z9o,yj1 this]
theorem z0x (g:Ex->Rat) (p:List GMono) {q:List GMono} (hq:∀ m∈q,m.ok=true):pl g (padd p q)=pl g p+pl g q:=by
 induction q generalizing p with
 | nil=>show pl g p=_; rw [pl,yjm]
 | cons m q ih =>
  show pl g (padd (pput p m.e m.coef.v) q)=_;rw [ih _ fun x hx=>hq x (yjf _ hx),z0w,yj1 (GMono.ok_iff.1 (hq m yjj)).1,pl,yjo]
def pind (e x:Ex):Rat:=if x=e then 1 else 0
theorem z5l (p:List GMono) (e:Ex):pc p e=pl (pind e) p:=by
 induction p with
 | nil=>rfl
 | cons m p ih =>
  simp only [pc,pl,ih,pind];split
  ·rw [Rat.one_mul]
  ·rw [ykv]
def psh (g:Ex->Rat) (y x:Ex):Rat:=if (y.add x).ok=true then g (y.add x) else 0
theorem z9n (g:Ex->Rat) (m:GMono) (q:List GMono) (o:List GMono):pl g (prow m q o)=pl g o+pl (psh g m.e) q*m.coef.v:=by
 induction q generalizing o with
 | nil=>show pl g o=_; rw [pl,ykv,yjm]
 | cons x q ih =>
  show pl g (prow m q (pput o (m.e.add x.e) (m.coef.v*x.coef.v)))=_;rw [ih,z0w,pl,Rat.add_mul,yjo]
  congr 2
  unfold psh;split
  ·rw [yln m.coef.v,yld]
  ·rw [ykv,ykv]
theorem zf3 (g:Ex->Rat) (p q:List GMono):pl g (pmul p q)=pl (fun y=>pl (psh g y) q) p:=by
 have:∀ (p o:List GMono),pl g (p.foldl (fun o m=>prow m q o) o)=pl g o+pl (fun y=>pl (psh g y) q) p:=by
  intro p
  induction p with
  | nil=>intro o; show pl g o=_; rw [pl,yjm]
  | cons m p ih =>
   intro o;show pl g (p.foldl (fun o m=>prow m q o) (prow m q o))=_;rw [ih,z9n,pl,yjo]
 have h:=this p [];rw [pl,Rat.zero_add] at h;exact h
theorem zf4 {f g:Ex->Rat} {p:List GMono} (h:∀ m∈p,f m.e=g m.e):pl f p=pl g p:=by
 induction p with
 | nil=>rfl
 | cons m p ih=>simp only [pl]; rw [h m yjj,ih fun x hx=>h x (yjf _ hx)]
theorem z0z (f g:Ex->Rat) (p:List GMono):pl (fun x=>f x+g x) p=pl f p+pl g p:=by
 induction p with
 | nil=>simp only [pl,yjm]
 | cons m p ih=>simp only [pl,ih,Rat.add_mul]; rw [yjo,yjo,ydb (g m.e*m.coef.v)]
theorem zv1 (p:List GMono):pl (fun _=>0) p=0:=by
 induction p with
 | nil=>rfl
 | cons m p ih=>simp only [pl,ih,ykv,yjm]
theorem z9p (f:Ex->Rat) (c:Rat) (p:List GMono):pl (fun x=>f x*c) p=pl f p*c:=by
 induction p with
 | nil=>simp only [pl,ykv]
 | cons m p ih=>simp only [pl,ih,Rat.add_mul]; rw [yld,yln c,<- Rat.mul_assoc]
theorem z9m (f:Ex->Ex->Rat) (p q:List GMono):pl (fun y=>pl (fun x=>f y x) q) p=pl (fun x=>pl (fun y=>f y x) p) q:=by
 induction p with
 | nil=>simp only [pl,zv1]
 | cons m p ih=>simp only [pl,ih,z0z,z9p]
theorem Ex.add_comm (x y:Ex):x.add y=y.add x:=by simp only [Ex.add,Int.add_comm]
theorem Ex.add_assoc (x y z:Ex):(x.add y).add z=x.add (y.add z):=by simp only [Ex.add,Int.add_assoc]
theorem zvw {p q p' q':List GMono} (h:∀ g,pl g (pmul p q)=pl g (pmul p' q')):pmul p q=pmul p' q':=zhl (zb6 _ _) (zb6 _ _) fun e=>by rw [z5l,z5l,h]
theorem zrz (p q:List GMono):pmul p q=pmul q p:=zvw fun g=>by rw [zf3,zf3];rw [show (fun y=>pl (psh g y) q)=fun y=>pl (fun x=>psh g y x) q from rfl,z9m];refine zf4 fun m _=>zf4 fun m' _=>?_;unfold psh;rw [Ex.add_comm]
theorem mok {m:GMono} {p:List GMono} (h:PVal p) (hm:m∈p):m.e.ok=true:=(GMono.ok_iff.1 ((zak.1 h).1 m hm)).1
theorem zx0 {p q w:List GMono} (hp:PVal p) (hq:PVal q) (hw:PVal w):pmul (pmul p q) w=pmul p (pmul q w):=zvw fun g=>by
 rw [zf3,zf3,zf3];refine zf4 fun a ha=>?_;rw [zf3];refine zf4 fun b hb=>?_;have ka:=Ex.ok_iff.1 (mok hp ha);have kb:=Ex.ok_iff.1 (mok hq hb);unfold psh;by_cases h1:(a.e.add b.e).ok=true
 ·rw [yj1 h1];refine zf4 fun c hc=>?_;have kc:=Ex.ok_iff.1 (mok hw hc);rw [Ex.add_assoc];by_cases h2:(b.e.add c.e).ok=true
  ·rw [yj1 h2]
  ·rw [yj0 h2,yj0];intro h3;refine h2 (Ex.ok_iff.2 ?_);have:=Ex.ok_iff.1 h3;simp only [Ex.add] at this ⊢;omega
 ·rw [yj0 h1];refine (zv1 w).symm.trans (zf4 fun c hc=>?_);have kc:=Ex.ok_iff.1 (mok hw hc);by_cases h2:(b.e.add c.e).ok=true
  ·rw [yj1 h2,yj0];intro h3;refine h1 (Ex.ok_iff.2 ?_);have:=Ex.ok_iff.1 h3;simp only [Ex.add] at this ⊢;omega
  ·rw [yj0 h2]
theorem z0j {u v w:List GMono} (hv:PVal v) (hw:PVal w):pmul u (padd v w)=padd (pmul u v) (pmul u w):=by refine zhl (zb6 _ _) (zcg _ (zb6 _ _)) fun e=>?_;rw [z5l,z5l,z0x _ _ (zak.1 (zb6 u w)).1,zf3,zf3,zf3,<- z0z];exact zf4 fun m _=>z0x _ _ (zak.1 hw).1
theorem z5d (p:List GMono):pmul p []=[]:=by rw [zrz]; rfl
theorem zf0 {v:GW} (hv:v.si 2):0<=trop v/\trop v<=1099511627777:=by obtain ⟨h1,h2,h3,h4,h5,h6,h7⟩:=si2.1 hv;unfold trop;split<;>omega
theorem zb0 {v w:GW} (hv:v.si 2) (hw:w.si 2):trop (zao 2 v w)=if trop v+trop w<=1099511627776 then trop v+trop w else 1099511627777:=by
 obtain ⟨h1,h2,h3,h4,h5,h6,h7⟩:=si2.1 hv;obtain ⟨k1,k2,k3,k4,k5,k6,k7⟩:=si2.1 hw;unfold zao;rw [yj0 (by omega),yj1 rfl];unfold trop;have e1:∀ c:Int,(GW.mk gr0 c false 0 [] []).inf=false:=fun _=>rfl;have e2:∀ c:Int,(GW.mk gr0 c false 0 [] []).cost=c:=fun _=>rfl;have e3:(GW.mk gr0 0 true 0 [] []).inf=true:=rfl;cases hi:v.inf<;>cases hj:w.inf<;>simp [hi,hj,e3]
 ·by_cases h:v.cost+w.cost<=1099511627776
  ·rw [yj0 (show ¬ 1099511627776<v.cost+w.cost by omega),e1,e2,yj1 h]; rfl
  ·rw [yj1 (show 1099511627776<v.cost+w.cost by omega),e3,yj0 h]; rfl
 ·omega
 ·omega
theorem k5 {k:Int} (hk:1<=k/\k<=5):k=1\/k=2\/k=3\/k=4\/k=5:=by omega
theorem ze9 (v w:GW):zao 1 v w=.mk (rto (v.q.v*w.q.v)) 0 false 0 [] []:=by simp [zao]
theorem zeq (v w:GW):zao 3 v w=.mk (rto (v.q.v*w.q.v)) 0 false 0 [] []:=by simp [zao]
theorem ze8 (v w:GW):zao 4 v w=.mk gr0 0 false (v.set &&& w.set) [] []:=by simp [zao]
theorem ze7 (v w:GW):zao 5 v w=.mk gr0 0 false 0 (pmul v.poly w.poly) []:=by simp [zao]
theorem zlz {k:Int} (hk:1<=k/\k<=5) {v w:GW} (hv:v.si k) (hw:w.si k):zao k v w=zao k w v:=by
 rcases k5 hk with rfl|rfl|rfl|rfl|rfl
 ·rw [ze9,ze9,yln]
 ·refine zhg (za9 hk hv hw) (za9 hk hw hv) ?_;rw [zb0 hv hw,zb0 hw hv,Int.add_comm]
 ·rw [zeq,zeq,yln]
 ·rw [ze8,ze8,UInt64.and_comm]
 ·rw [ze7,ze7,zrz]
theorem zkj {k:Int} (hk:1<=k/\k<=5) {u v w:GW} (hu:u.si k) (hv:v.si k) (hw:w.si k):zao k (zao k u v) w=zao k u (zao k v w):=by
 rcases k5 hk with rfl|rfl|rfl|rfl|rfl
 ·rw [ze9,ze9,ze9,ze9]; simp only [GW.q_mk,zbt,yld]
 ·refine zhg (za9 hk (za9 hk hu hv) hw) (za9 hk hu (za9 hk hv hw)) ?_;rw [zb0 (za9 hk hu hv) hw,zb0 hu hv,zb0 hu (za9 hk hv hw),zb0 hv hw];have:=zf0 hu; have:=zf0 hv; have:=zf0 hw
  repeat' split
  all_goals omega
 ·rw [zeq,zeq,zeq,zeq]; simp only [GW.q_mk,zbt,yld]
 ·rw [ze8,ze8,ze8,ze8]; simp only [GW.set_mk,UInt64.and_assoc]
 ·rw [ze7,ze7,ze7,ze7];simp only [GW.poly_mk];rw [zx0 (si_p hu) (si_p hv) (si_p hw)]
theorem yfc (a b c:UInt64):a &&& (b ||| c)=(a &&& b) ||| (a &&& c):=UInt64.toBitVec_inj.1 (by
 simp only [UInt64.toBitVec_and,UInt64.toBitVec_or];exact BitVec.eq_of_getLsbD_eq fun i _=>by simp only [BitVec.getLsbD_and,BitVec.getLsbD_or,Bool.and_or_distrib_left])
theorem zki {k:Int} (hk:1<=k/\k<=5) {u v w:GW} (hu:u.si k) (hv:v.si k) (hw:w.si k):zao k u (zaq k v w)=zaq k (zao k u v) (zao k u w):=by
 rcases k5 hk with rfl|rfl|rfl|rfl|rfl
 ·rw [ze9,ze9,ze9]; simp only [zaq,yjg,GW.q_mk,zbt,Rat.mul_add]
 ·refine zhg (za9 hk hu (zb7 hk hv hw)) (zb7 hk (za9 hk hu hv) (za9 hk hu hw)) ?_;rw [zb0 hu (zb7 hk hv hw),zds hv hw,zds (za9 hk hu hv) (za9 hk hu hw),zb0 hu hv,zb0 hu hw];have:=zf0 hu; have:=zf0 hv; have:=zf0 hw
  repeat' split
  all_goals omega
 ·obtain ⟨_,_,_,_,_,_,h0,_⟩:=si3.1 hu;rw [zr0,zr0,zeq u v,zeq u w];simp only [GW.q_mk,zbt];by_cases h:v.q.v<w.q.v
  ·rw [yj1 h,zeq];by_cases h2:u.q.v*v.q.v<u.q.v*w.q.v
   ·rw [yj1 h2]
   ·have h3:=yly (Rat.le_of_lt h) h0;rw [yj0 h2,Rat.le_antisymm h3 (ykb.1 h2)]
  ·have h3:=yly (ykb.1 h) h0;rw [yj0 h,yj0 (ykb.2 h3),zeq]
 ·rw [ze8,ze8,ze8]; simp [zaq,GW.set_mk,yfc]
 ·rw [ze7,ze7,ze7];simp only [zaq,GW.poly_mk];simp [GW.poly_mk,z0j (si_p hv) (si_p hw)]
theorem zkh {k:Int} (hk:1<=k/\k<=5) {v:GW} (hv:v.si k):zao k v (zb3 k)=zb3 k:=by
 rcases k5 hk with rfl|rfl|rfl|rfl|rfl
 ·rw [ze9]; simp [zb3,GW.q_mk,zi8,ylm,show rto 0=gr0 from zb5]
 ·refine zhg (za9 hk hv (zig hk)) (zig hk) ?_;rw [zb0 hv (zig hk)];have:=zf0 hv;have e:trop (zb3 2)=1099511627777:=rfl;rw [e,yj0 (by omega)]
 ·rw [zeq]; simp [zb3,GW.q_mk,zi8,ylm,show rto 0=gr0 from zb5]
 ·rw [ze8]; simp [zb3,GW.set_mk]
 ·rw [ze7]; simp [zb3,GW.poly_mk,z5d]
section
variable {r:GRing} {u v w:GW}
theorem zxm (cv:v.chk r) (cw:w.chk r):r.times v w=r.times w v:=by
 by_cases h6:r.kind=6
 ·have hp:=GRing.ok_parts cv.1 h6;obtain ⟨lv,_,sv⟩:=cv.2.2 h6;obtain ⟨lw,_,sw⟩:=cw.2.2 h6;simp only [GRing.times,yj1 h6]
  congr 1
  refine ykn (by rw [zaz lv lw,zaz lw lv]) fun i h1 h2=>?_;have h3:i<r.parts.length:=by rw [zaz lv lw] at h1; exact h1
  rw [za7 h3 (by omega) (by omega) h1,za7 h3 (by omega) (by omega) h2];exact zlz (hp.2.2 _ (yj2 h3)) (sv i h3 (by omega)) (sw i h3 (by omega))
 ·have hk:=GRing.ok_kind cv.1 h6;simp only [GRing.times,yj0 h6];exact zlz ⟨hk.1,hk.2.1⟩ (cv.2.1 h6) (cw.2.1 h6)
theorem zte (cu:u.chk r) (cv:v.chk r) (cw:w.chk r):r.times (r.times u v) w=r.times u (r.times v w):=by
 by_cases h6:r.kind=6
 ·have hp:=GRing.ok_parts cu.1 h6;obtain ⟨lu,_,su⟩:=cu.2.2 h6;obtain ⟨lv,_,sv⟩:=cv.2.2 h6;obtain ⟨lw,_,sw⟩:=cw.2.2 h6;simp only [GRing.times,yj1 h6,GW.parts_mk]
  congr 1
  have luv:=zaz lu lv;have lvw:=zaz lv lw;refine ykn (by rw [zaz luv lw,zaz lu lvw]) fun i h1 h2=>?_;have h3:i<r.parts.length:=by rw [zaz luv lw] at h1; exact h1
  rw [za7 h3 (by omega) (by omega) h1,za7 h3 (by omega) (by omega) h2,za7 h3 (by omega) (by omega) (by omega),za7 h3 (by omega) (by omega) (by omega)];exact zkj (hp.2.2 _ (yj2 h3)) (su i h3 (by omega)) (sv i h3 (by omega)) (sw i h3 (by omega))
 ·have hk:=GRing.ok_kind cu.1 h6;simp only [GRing.times,yj0 h6];exact zkj ⟨hk.1,hk.2.1⟩ (cu.2.1 h6) (cv.2.1 h6) (cw.2.1 h6)
theorem zxl (cu:u.chk r) (cv:v.chk r) (cw:w.chk r):r.times u (r.plus v w)=r.plus (r.times u v) (r.times u w):=by
 by_cases h6:r.kind=6
 ·have hp:=GRing.ok_parts cu.1 h6;obtain ⟨lu,_,su⟩:=cu.2.2 h6;obtain ⟨lv,_,sv⟩:=cv.2.2 h6;obtain ⟨lw,_,sw⟩:=cw.2.2 h6;simp only [GRing.times,GRing.plus,yj1 h6,GW.parts_mk]
  congr 1
  have lvw:=zbb lv lw;have luv:=zaz lu lv;have luw:=zaz lu lw;refine ykn (by rw [zaz lu lvw,zbb luv luw]) fun i h1 h2=>?_;have h3:i<r.parts.length:=by rw [zaz lu lvw] at h1; exact h1
  rw [za7 h3 (by omega) (by omega) h1,zbk h3 (by omega) (by omega) (by omega),zbk h3 (by omega) (by omega) h2,za7 h3 (by omega) (by omega) (by omega),za7 h3 (by omega) (by omega) (by omega)];exact zki (hp.2.2 _ (yj2 h3)) (su i h3 (by omega)) (sv i h3 (by omega)) (sw i h3 (by omega))
 ·have hk:=GRing.ok_kind cu.1 h6;simp only [GRing.times,GRing.plus,yj0 h6];exact zki ⟨hk.1,hk.2.1⟩ (cu.2.1 h6) (cv.2.1 h6) (cw.2.1 h6)
theorem zxk (cv:v.chk r):r.times v r.zero=r.zero:=by
 by_cases h6:r.kind=6
 ·have hp:=GRing.ok_parts cv.1 h6;obtain ⟨lv,_,sv⟩:=cv.2.2 h6;have ez:r.zero=.mk gr0 0 false 0 [] (r.parts.map zb3):=by unfold GRing.zero; rw [yj1 cv.1,h6]; rfl
  rw [ez];simp only [GRing.times,yj1 h6,GW.parts_mk]
  congr 1
  have lz:(r.parts.map zb3).length=r.parts.length:=yk2 ..;refine ykn (by rw [zaz lv lz,lz]) fun i h1 h2=>?_;have h3:i<r.parts.length:=by rw [lz] at h2; exact h2
  rw [za7 h3 (by omega) (by omega) h1,List.getElem_map];exact zkh (hp.2.2 _ (yj2 h3)) (sv i h3 (by omega))
 ·have hk:=GRing.ok_kind cv.1 h6;have ez:r.zero=zb3 r.kind:=by unfold GRing.zero; rw [yj1 cv.1,hk.2.2]; rfl
  rw [ez];simp only [GRing.times,yj0 h6];exact zkh ⟨hk.1,hk.2.1⟩ (cv.2.1 h6)
end
structure SR where
 α : Type
 z : α
 p : α -> α -> α
 m : α -> α -> α
 pc:∀ a b,p a b=p b a
 pa:∀ a b c,p (p a b) c=p a (p b c)
 pz:∀ a,p a z=a
 mc:∀ a b,m a b=m b a
 ma:∀ a b c,m (m a b) c=m a (m b c)
 mp:∀ a b c,m a (p b c)=p (m a b) (m a c)
 mz:∀ a,m a z=z
namespace SR
variable (S:SR) {β γ : Type}
def sum (l:List β) (f : β -> S.α):S.α := l.foldr (fun x s=>S.p (f x) s) S.z
theorem zp (a:S.α):S.p S.z a=a:=by rw [S.pc,S.pz]
theorem zm (a:S.α):S.m S.z a=S.z:=by rw [S.mc,S.mz]
theorem plc (a b c:S.α):S.p a (S.p b c)=S.p b (S.p a c):=by rw [<- S.pa,S.pc a b,S.pa]
theorem sum_nil (f : β -> S.α):S.sum [] f=S.z:=rfl
theorem sum_cons (x : β) (l:List β) (f : β -> S.α):S.sum (x::l) f=S.p (f x) (S.sum l f):=rfl
theorem sum_congr {l:List β} {f g : β -> S.α} (h:∀ x∈l,f x=g x):S.sum l f=S.sum l g:=by
 induction l with
 | nil=>rfl
 | cons x l ih=>rw [sum_cons,sum_cons,h x yjj,ih fun y hy=>h y (yjf _ hy)]
theorem zxr (l k:List β) (f : β -> S.α):S.sum (l++k) f=S.p (S.sum l f) (S.sum k f):=by
 induction l with
 | nil=>exact (S.zp _).symm
 | cons x l ih=>rw [ylk,sum_cons,sum_cons,ih,S.pa]
theorem sum_zero (l:List β):S.sum l (fun _=>S.z)=S.z:=by
 induction l with
 | nil=>rfl
 | cons x l ih=>rw [sum_cons,ih,S.pz]
theorem sum_add (l:List β) (f g : β -> S.α):S.sum l (fun x=>S.p (f x) (g x))=S.p (S.sum l f) (S.sum l g):=by
 induction l with
 | nil=>exact (S.pz _).symm
 | cons x l ih=>rw [sum_cons,sum_cons,sum_cons,ih,S.pa,S.pa,S.plc (g x)]
theorem sum_range (n:Nat) (f:Nat->S.α):S.sum (List.range (n+1)) f=S.p (S.sum (List.range n) f) (f n):=by rw [yk5,zxr,sum_cons,sum_nil,S.pz]
theorem sum_delta {n t:Nat} (h:t<n) (g:Nat->S.α):S.sum (List.range n) (fun s=>if s=t then g s else S.z)=g t:=by
 induction n with
 | zero=>omega
 | succ n ih =>
  rw [sum_range];by_cases ht:t=n
  ·subst ht;rw [yj1 rfl,S.sum_congr (g:=fun _=>S.z) fun s hs=>yj0 (by have:=yjk.1 hs; omega),sum_zero,zp]
  ·rw [ih (by omega),yj0 (by omega),S.pz]
variable (F T : β -> Nat) (L : β -> Int) (W : β -> S.α) (A:List β)
def dot (n:Nat) (v w:Nat->S.α):S.α := S.sum (List.range n) fun s=>S.m (v s) (w s)
variable {F T A}
end SR
def CW (r:GRing):Type:={w:GW // w.chk r}
def srG (r:GRing) (hr:r.ok=true):SR where
 α := CW r
 z:=⟨r.zero,zbp hr⟩
 p a b:=⟨r.plus a.1 b.1,zcr a.2 b.2⟩
 m a b:=⟨r.times a.1 b.1,zbn a.2 b.2⟩
 pc a b:=yk7 (zgz a.2 b.2)
 pa a b c:=yk7 (zdj a.2 b.2 c.2)
 pz a:=yk7 (zc2 a.2)
 mc a b:=yk7 (zxm a.2 b.2)
 ma a b c:=yk7 (zte a.2 b.2 c.2)
 mp a b c:=yk7 (zxl a.2 b.2 c.2)
 mz a:=yk7 (zxk a.2)
section
variable {r:GRing} (hr:r.ok=true)
noncomputable def cw0 (w:GW):CW r:=@dite _ (w.chk r) (Classical.propDecidable _) (fun h=>⟨w,h⟩) fun _=>⟨r.zero,zbp hr⟩
noncomputable def cw (w:GW):(srG r hr).α := cw0 hr w
theorem zjk {w:GW} (h:w.chk r):(cw hr w).1=w:=by have e:cw0 hr w=⟨w,h⟩:=dif_pos h;exact congrArg Subtype.val e
theorem zuu:cw hr r.zero=(srG r hr).z:=yk7 (zjk hr (zbp hr))
theorem zuw {v w:GW} (hv:v.chk r) (hw:w.chk r):cw hr (r.plus v w)=(srG r hr).p (cw hr v) (cw hr w):=yk7 (by
 rw [zjk hr (zcr hv hw)];show _=r.plus (cw hr v).1 (cw hr w).1;rw [zjk hr hv,zjk hr hw])
theorem zqx {v w:GW} (hv:v.chk r) (hw:w.chk r):cw hr (r.times v w)=(srG r hr).m (cw hr v) (cw hr w):=yk7 (by
 rw [zjk hr (zbn hv hw)];show _=r.times (cw hr v).1 (cw hr w).1;rw [zjk hr hv,zjk hr hw])
theorem ye4 {v w:GW} (hv:v.chk r) (hw:w.chk r) (h:cw hr v=cw hr w):v=w:=by rw [<- zjk hr hv,<- zjk hr hw,h]
noncomputable def gd (l:List GW) (s:Nat):(srG r hr).α := cw hr (l.getD s r.zero)
variable {α : Type} {key : α -> List Int} {wt : α -> GW} {up : α -> α -> α} (h:List Int->(srG r hr).α)
noncomputable def hs (key : α -> List Int) (wt : α -> GW) (l:List α):(srG r hr).α := (srG r hr).sum l fun x=>(srG r hr).m (cw hr (wt x)) (h (key x))
variable (hk:∀ z y,key (up z y)=key z) (hw:∀ z y,wt (up z y)=r.plus (wt z) (wt y))
end
section
variable {r:GRing} (hr:r.ok=true)
include hr in
theorem zht {N:Nat} {l:List GW} (h:ckL r N l) (s:Nat):(l.getD s r.zero).chk r:=by
 rw [yj4];cases e:l[s]? with
 | none=>exact zbp hr
 | some w=>exact h.1 w (ylw e)
theorem zwu (n s:Nat):gd hr (List.replicate n r.zero) s=(srG r hr).z:=by
 unfold gd;have:(List.replicate n r.zero).getD s r.zero=r.zero:=by rw [yj4,ym3];split<;>rfl
 rw [this,zuu]
theorem zsl {l:List GW} {i s:Nat} (v:GW) (h:i≠s):gd hr (l.set i v) s=gd hr l s:=by unfold gd;rw [yj4,ykp h,<- List.getD_eq_getElem?_getD]
theorem zm9 {l:List GW} {i:Nat} (v:GW) (h:i<l.length):gd hr (l.set i v) i=cw hr v:=by unfold gd;rw [yj4,yku h]; rfl
noncomputable def ctr (p:GTArc->Option (List GW)) (s:Nat) (x:GTArc):(srG r hr).α := match p x with
 | some e=>if x.f.toNat=s then (srG r hr).m (cw hr x.w) (gd hr e x.t.toNat) else (srG r hr).z
 | none=>(srG r hr).z
theorem ybn {N:Nat} {p:GTArc->Option (List GW)} {b:List GW} {x:GTArc} (hb:ckL r N b) (hx:okA r N p x) (s:Nat):gd hr (accS r p b x) s=(srG r hr).p (gd hr b s) (ctr hr p s x):=by
 unfold accS ctr;cases h:p x with
 | none=>exact ((srG r hr).pz _).symm
 | some e =>
  obtain ⟨⟨a1,a2⟩,a3,a4⟩:=hx.2.1;have he:=hx.2.2 e h;show gd hr (addW r b x e) s=(srG r hr).p (gd hr b s) (if x.f.toNat=s then _ else _);unfold addW;by_cases hs:x.f.toNat=s
  ·subst hs;rw [yj1 rfl,zm9 hr _ (by rw [hb.2]; omega),zuw hr (zht hr hb _) (zbn hx.1 (zht hr he _)),zqx hr hx.1 (zht hr he _)];rfl
  ·rw [yj0 hs,zsl hr _ hs,(srG r hr).pz]
theorem zu5 {N:Nat} {p:GTArc->Option (List GW)} (s:Nat):∀ {l:List GTArc} {b:List GW},ckL r N b->(∀ x∈l,okA r N p x)->gd hr (accW r p l b) s=(srG r hr).p (gd hr b s) ((srG r hr).sum l (ctr hr p s))
 | [],b,_,_=>((srG r hr).pz _).symm
 | x::l,b,hb,h=>by have hx:=h x yjj;show gd hr (accW r p l (accS r p b x)) s=_;rw [zu5 s (zu6 hb hx) fun y hy=>h y (yjf _ hy),ybn hr hb hx,SR.sum_cons,(srG r hr).pa]
theorem z4l (t:GTrans):swap t t.inv:=⟨rfl,rfl,rfl,rfl,List.Perm.refl _⟩
theorem drop_nil {w:List Int} {i:Nat} (h:w.drop i=[]) (hi:i<=w.length):i=w.length/\w[i]?=none:=by have:=List.drop_eq_nil_iff.1 h;exact ⟨by omega,yk8 (by omega)⟩
theorem zuv {N:Nat} {ini row:List GW} (h1:ckL r N ini) (h2:ckL r N row):∀ n,n<=N->(sumN r ini row n).chk r/\cw hr (sumN r ini row n)=(srG r hr).sum (List.range n) fun j=>(srG r hr).m (gd hr ini j) (gd hr row j)
 | 0,_=>⟨zbp hr,zuu hr⟩
 | n+1,hn=>by
  obtain ⟨i1,i2⟩:=zuv h1 h2 n (by omega);have l1:n<ini.length:=by rw [h1.2]; omega
  have l2:n<row.length:=by rw [h2.2]; omega
  have k1:=h1.1 _ (yj2 l1);have k2:=h2.1 _ (yj2 l2);have g1:gd hr ini n=cw hr ini[n]:=by unfold gd; rw [yj4,yj8 l1]; rfl
  have g2:gd hr row n=cw hr row[n]:=by unfold gd; rw [yj4,yj8 l2]; rfl
  rw [zl1 l1 l2];exact ⟨zcr i1 (zbn k1 k2),by rw [zuw hr i1 (zbn k1 k2),zqx hr k1 k2,i2,SR.sum_range,g1,g2]⟩
end
def stp (l:Int):Nat:=if l=0 then 0 else 1
def fitT (wx wy:List Int) (i k:Nat) (x:GTArc):Prop:=(x.i=0\/wx[i]?=some x.i)/\(x.o=0\/wy[k]?=some x.o)
instance (wx wy:List Int) (i k:Nat) (x:GTArc):Decidable (fitT wx wy i k x):=by unfold fitT; infer_instance
section
variable {r:GRing} (hr:r.ok=true)
theorem z8x {N:Nat} {l:List GTArc} {b:List GW} (hb:ckL r N b) (h:zpc r N l) (n:Nat):ckL r N (sprN r l b n):=(zth (l':=l.map swT) (List.Perm.refl _) hb h n).2
theorem z97 {N:Nat} {l:List GTArc} {b:List GW} (hb:ckL r N b) (h:zpc r N l) (n:Nat):∀ x∈l,okA r N (zi4 (sprN r l b n)) x:=fun x hx=>⟨(h x hx).1,(h x hx).2,fun e he=>by
 unfold zi4 at he;split at he
 ·cases he; exact z8x hb h n
 ·cases he⟩
theorem zvk {N:Nat} {l:List GTArc} {b:List GW} (hb:ckL r N b) (h:zpc r N l) (n s:Nat):gd hr (sprN r l b (n+1)) s=(srG r hr).p (gd hr b s) ((srG r hr).sum l (ctr hr (zi4 (sprN r l b n)) s)):=zu5 hr s hb (z97 hb h n)
theorem zlp (v:List GW) (s:Nat) (x:GTArc):ctr hr (zi4 v) s x=if emF x=true/\x.f.toNat=s then (srG r hr).m (cw hr x.w) (gd hr v x.t.toNat) else (srG r hr).z:=by
 unfold ctr zi4;by_cases he:emF x=true
 ·simp only [he,yjg,true_and]
 ·simp only [he,yjw,false_and,ykr]
theorem zzr {N:Nat} {l:List GTArc} {b:List GW} (hb:ckL r N b) (h:zpc r N l) {pos:Nat->Nat} (hp:∀ x∈l,emF x=true->pos x.f.toNat<pos x.t.toNat/\pos x.t.toNat<N) :
  ∀ n s,N<=n+1+pos s->gd hr (sprN r l b (n+1)) s=gd hr (sprN r l b n) s
 | 0,s,hn=>by
  rw [zvk hr hb h,(srG r hr).sum_congr (g:=fun _=>(srG r hr).z) fun x hx=>?_,SR.sum_zero,(srG r hr).pz]; rfl;rw [zlp,yj0];rintro ⟨h1,rfl⟩;have:=hp x hx h1;omega
 | n+1,s,hn=>by
  rw [zvk hr hb h,zvk hr hb h n]
  congr 1
  refine (srG r hr).sum_congr fun x hx=>?_;rw [zlp,zlp];by_cases hc:emF x=true/\x.f.toNat=s
  ·rw [yj1 hc,yj1 hc];obtain ⟨h1,rfl⟩:=hc;have:=hp x hx h1;rw [zzr hb h hp n x.t.toNat (by omega)]
  ·rw [yj0 hc,yj0 hc]
theorem z8l {t:GTrans} (ht:ckT r t) (wx wy:List Int) (n i k:Nat) (hi:i<=wx.length) (hk:k<=wy.length) (h:wx.length - i+(wy.length - k)<n):ckL r t.st.toNat (valW t wx wy n i k):=(ztc ht (z4l t) wx wy n i k hi hk h).2
theorem zzl {t:GTrans} (ht:ckT r t) {wx wy:List Int} {i k:Nat} (hi:i<=wx.length) (hk:k<=wy.length):ckL r t.st.toNat (tabW t wx wy i k):=z8l ht wx wy _ i k hi hk (by omega)
theorem nx_0 {l:Int} {w:List Int} {i:Nat} (h:l=0\/w[i]?=some l):nx l w i=((i+stp l:Nat):Int):=by
 unfold nx stp;by_cases h0:l=0
 ·rw [yj1 h0,yj1 h0,ykw]
 ·rw [yj0 h0,yj0 h0,yj1 (h.resolve_left h0)]; rfl
theorem nx_1 {l:Int} {w:List Int} {i:Nat} (h:¬ (l=0\/w[i]?=some l)):nx l w i = -1:=by unfold nx;rw [yj0 fun e=>h (.inl e),yj0 fun e=>h (.inr e)]
theorem zrh {wx wy:List Int} {i k:Nat} (f:Nat->Nat->List GW) (x:GTArc):zfh wx wy i k f x=if fitT wx wy i k x/\emF x=false then some (f (i+stp x.i) (k+stp x.o)) else none:=by
 by_cases h1:x.i=0\/wx[i]?=some x.i
 ·by_cases h2:x.o=0\/wy[k]?=some x.o
  ·have e1:=nx_0 h1;have e2:=nx_0 h2;have e3:emF x=false ↔ 0<stp x.i+stp x.o:=by unfold emF stp;by_cases a:x.i=0<;>by_cases b:x.o=0<;>simp [a,b]
   unfold zfh;rw [e1,e2,yk4,yk4];by_cases h3:emF x=false
   ·have:=e3.1 h3;rw [yj1 (show 0<=((i+stp x.i:Nat):Int)/\0<=((k+stp x.o:Nat):Int)/\(i:Int)+k<((i+stp x.i:Nat):Int)+((k+stp x.o:Nat):Int) from ⟨by omega,by omega,by omega⟩),yj1 (show fitT wx wy i k x/\emF x=false from ⟨⟨h1,h2⟩,h3⟩)]
   ·rw [yj0 (show ¬ (0<=((i+stp x.i:Nat):Int)/\0<=((k+stp x.o:Nat):Int)/\(i:Int)+k<((i+stp x.i:Nat):Int)+((k+stp x.o:Nat):Int)) from fun h=>h3 (e3.2 (by have:=h.2.2; omega))),yj0 (show ¬ (fitT wx wy i k x/\emF x=false) from fun h=>h3 h.2)]
  ·rw [yj0 fun h=>h2 h.1.2];unfold zfh;rw [nx_1 h2,yj0 fun h=>by have:=h.2.1; omega]
 ·rw [yj0 fun h=>h1 h.1.1];unfold zfh;rw [nx_1 h1,yj0 fun h=>by have:=h.1; omega]
theorem z4j {t:GTrans} (ht:ckT r t) {wx wy:List Int} {i k:Nat} (hi:i<=wx.length) (hk:k<=wy.length) {pos:Nat->Nat} (hp:∀ x∈t.arcs,emF x=true->pos x.f.toNat<pos x.t.toNat/\pos x.t.toNat<t.st.toNat) (s:Nat) :
  gd hr (tabW t wx wy i k) s=(srG r hr).p (gd hr (znp t wx wy i k) s) ((srG r hr).sum t.arcs fun x=>if x.f.toNat=s/\fitT wx wy i k x then (srG r hr).m (cw hr x.w) (gd hr (tabW t wx wy (i+stp x.i) (k+stp x.o)) x.t.toNat) else (srG r hr).z):=by
 have hring:=ht.ring;have hb:=zxb ht wx wy i k;have hok:∀ x∈t.arcs,okA r t.st.toNat (zfh wx wy i k (tabW t wx wy)) x:=fun x hx=>⟨(ht.arcs x hx).1,(ht.arcs x hx).2,fun e he=>by
  obtain ⟨a,b,h1,h2,h3,h4,h5,h6,h7,h8,h9,rfl⟩:=zjs hi hk he;exact zzl ht h7 h8⟩
 have hrow:ckL r t.st.toNat (rowW t wx wy i k (tabW t wx wy)):=by unfold rowW; rw [hring]; exact zq8 hb hok
 have hfix:=zzr hr hrow ht.arcs hp t.st.toNat s (by omega);have he:tabW t wx wy i k=sprN r t.arcs (rowW t wx wy i k (tabW t wx wy)) t.st.toNat:=by
  have:=z8t (t:=t) hi hk;unfold zhz at this
  rwa [hring] at this
 rw [zvk hr hrow ht.arcs,<- he] at hfix;have hr1:gd hr (rowW t wx wy i k (tabW t wx wy)) s=(srG r hr).p (gd hr (znp t wx wy i k) s) ((srG r hr).sum t.arcs (ctr hr (zfh wx wy i k (tabW t wx wy)) s)):=by unfold rowW;rw [hring]; exact zu5 hr s hb hok
 rw [hr1,(srG r hr).pa,<- SR.sum_add] at hfix;rw [<- hfix]
 congr 1
 refine (srG r hr).sum_congr fun x hx=>?_;rw [zlp];have hcs:ctr hr (zfh wx wy i k (tabW t wx wy)) s x=if x.f.toNat=s/\fitT wx wy i k x/\emF x=false then (srG r hr).m (cw hr x.w) (gd hr (tabW t wx wy (i+stp x.i) (k+stp x.o)) x.t.toNat) else (srG r hr).z:=by
  unfold ctr;rw [zrh];by_cases h1:fitT wx wy i k x/\emF x=false
  ·rw [yj1 h1];by_cases h2:x.f.toNat=s
   ·simp only [h2,yjg,h1,and_self,true_and]
   ·simp only [h2,yjw,false_and]
  ·rw [yj0 h1,yj0 fun h=>h1 h.2]
 rw [hcs];by_cases he:emF x=true
 ·rw [if_neg (fun h=>by rw [h.2.2] at he; cases he),SR.zp];have h0:x.i=0/\x.o=0:=by simpa [emF] using he
  have hf:fitT wx wy i k x:=⟨.inl h0.1,.inl h0.2⟩;have e1:stp x.i=0:=by unfold stp; rw [yj1 h0.1]
  have e2:stp x.o=0:=by unfold stp; rw [yj1 h0.2]
  by_cases h2:x.f.toNat=s
  ·rw [yj1 ⟨he,h2⟩,yj1 ⟨h2,hf⟩,e1,e2,ykw,ykw]
  ·rw [yj0 fun h=>h2 h.2,yj0 fun h=>h2 h.1]
 ·have he':emF x=false:=by simpa using he
  rw [yj0 fun h:emF x=true/\x.f.toNat=s=>he h.1,(srG r hr).pz];by_cases h2:x.f.toNat=s/\fitT wx wy i k x
  ·rw [yj1 ⟨h2.1,h2.2,he'⟩,yj1 h2]
  ·rw [yj0 fun h=>h2 ⟨h.1,h.2.1⟩,yj0 h2]
end
section
variable {r:GRing}
def adT (r:GRing) (T:List (List GW)) (p q:Nat) (w:GW):List (List GW):=T.set p ((T.getD p []).set q (r.plus ((T.getD p []).getD q r.zero) w))
def arT (r:GRing) (wx wy:List Int) (i k q:Nat) (w:GW) (T:List (List GW)) (x:GTArc):List (List GW):=if x.f.toNat=q/\fitT wx wy i k x then adT r T ((i+stp x.i)*(wy.length+1)+(k+stp x.o)) x.t.toNat (r.times w x.w) else T
noncomputable def stT (r:GRing) (wx wy:List Int) (A:List GTArc) (i k:Nat) (T:List (List GW)) (q:Nat):List (List GW) :=
 if (T.getD (i*(wy.length+1)+k) []).getD q r.zero=r.zero then T else A.foldl (arT r wx wy i k q ((T.getD (i*(wy.length+1)+k) []).getD q r.zero)) T
noncomputable def plT (r:GRing) (wx wy:List Int) (A:List GTArc) (ord:List Nat) (i k:Nat) (T:List (List GW)):List (List GW):=ord.foldl (stT r wx wy A i k) T
noncomputable def rwT (r:GRing) (wx wy:List Int) (A:List GTArc) (ord:List Nat) (i:Nat) (T:List (List GW)) (n:Nat):List (List GW):=(List.range n).foldl (fun T k=>plT r wx wy A ord i k T) T
noncomputable def flT (r:GRing) (wx wy:List Int) (A:List GTArc) (ord:List Nat) (T:List (List GW)) (n:Nat):List (List GW):=(List.range n).foldl (fun T i=>rwT r wx wy A ord i T (wy.length+1)) T
def zca (r:GRing) (K N:Nat) (T:List (List GW)):Prop:=T.length=K/\∀ l∈T,ckL r N l
theorem zca.get {K N:Nat} {T:List (List GW)} (h:zca r K N T) {p:Nat} (hp:p<K):ckL r N (T.getD p []):=by rw [yj4,yj8 (by rw [h.1]; exact hp)]; exact h.2 _ (yj2 _)
variable (hr:r.ok=true)
include hr in
theorem yfe {K N:Nat} {T:List (List GW)} (h:zca r K N T) {p q:Nat} (hp:p<K) {w:GW} (hw:w.chk r):zca r K N (adT r T p q w):=by
 refine ⟨by unfold adT; rw [List.length_set]; exact h.1,fun l hl=>?_⟩;have hg:=h.get hp;rcases ykt hl with h1|h1
 ·exact h.2 l h1
 ·rw [h1];refine ⟨fun v hv=>?_,by rw [List.length_set]; exact hg.2⟩;rcases ykt hv with h2|h2
  ·exact hg.1 v h2
  ·rw [h2]; exact zcr (zht hr hg q) hw
noncomputable def Ph (K N:Nat) (β : Nat->Nat->(srG r hr).α) (T:List (List GW)):(srG r hr).α := (srG r hr).sum (List.range K) fun p=>(srG r hr).sum (List.range N) fun q=>(srG r hr).m (gd hr (T.getD p []) q) (β p q)
theorem pm {S:SR} (a b c:S.α):S.m (S.p a b) c=S.p (S.m a c) (S.m b c):=by rw [S.mc,S.mp,S.mc c a,S.mc c b]
theorem zoc (S:SR) {K N p0 q0:Nat} (hp:p0<K) (hq:q0<N) (c:S.α):S.sum (List.range K) (fun p=>S.sum (List.range N) fun q=>if p=p0/\q=q0 then c else S.z)=c:=by
 rw [S.sum_congr (g:=fun p=>if p=p0 then c else S.z) fun p _=>?_]
 ·exact S.sum_delta hp fun _=>c
 ·by_cases h:p=p0
  ·simp only [h,true_and,yjg]; exact S.sum_delta hq fun _=>c
  ·simp only [h,false_and,yjw]; exact S.sum_zero _
theorem yil {K N:Nat} {T:List (List GW)} (h:zca r K N T) {p q:Nat} (hp:p<K) (hq:q<N) {w:GW} (hw:w.chk r) (β : Nat->Nat->(srG r hr).α):Ph hr K N β (adT r T p q w)=(srG r hr).p (Ph hr K N β T) ((srG r hr).m (cw hr w) (β p q)):=by
 have hg:=h.get hp;have hv:∀ p' q',gd hr ((adT r T p q w).getD p' []) q'=(srG r hr).p (gd hr (T.getD p' []) q') (if p'=p/\q'=q then cw hr w else (srG r hr).z):=fun p' q'=>by
  have hl:p<T.length:=by rw [h.1]; exact hp
  unfold adT;by_cases e:p'=p
  ·subst e;rw [yj4,yku hl,yks];by_cases e2:q'=q
   ·subst e2;rw [zm9 hr _ (by rw [hg.2]; exact hq),zuw hr (zht hr hg _) hw,yj1 ⟨rfl,rfl⟩]; rfl
   ·rw [zsl hr _ (yka e2),yj0 fun h=>e2 h.2,(srG r hr).pz]
  ·rw [yj4,ykp (yka e),<- List.getD_eq_getElem?_getD,yj0 fun h=>e h.1,(srG r hr).pz]
 unfold Ph;rw [(srG r hr).sum_congr (g:=fun p'=>(srG r hr).p ((srG r hr).sum (List.range N) fun q'=>(srG r hr).m (gd hr (T.getD p' []) q') (β p' q')) ((srG r hr).sum (List.range N) fun q'=>if p'=p/\q'=q then (srG r hr).m (cw hr w) (β p q) else (srG r hr).z)) fun p' _=>?_]
 ·rw [SR.sum_add,zoc _ hp hq]
 ·rw [<- SR.sum_add];refine (srG r hr).sum_congr fun q' _=>?_;rw [hv,pm]
  congr 1
  by_cases e:p'=p/\q'=q
  ·rw [yj1 e,yj1 e,e.1,e.2]
  ·rw [yj0 e,yj0 e,SR.zm]
theorem yik {K N p q:Nat} (hp:p<K) (hq:q<N) (T:List (List GW)) {β β':Nat->Nat->(srG r hr).α} {c:(srG r hr).α} (h:∀ p' q',p'<K->q'<N -> β p' q'=if p'=p/\q'=q then (srG r hr).p (β' p' q') c else β' p' q'):Ph hr K N β T=(srG r hr).p (Ph hr K N β' T) ((srG r hr).m (gd hr (T.getD p []) q) c):=by
 unfold Ph;rw [(srG r hr).sum_congr (g:=fun p'=>(srG r hr).p ((srG r hr).sum (List.range N) fun q'=>(srG r hr).m (gd hr (T.getD p' []) q') (β' p' q')) ((srG r hr).sum (List.range N) fun q'=>if p'=p/\q'=q then (srG r hr).m (gd hr (T.getD p []) q) c else (srG r hr).z)) fun p' hp'=>?_]
 ·rw [SR.sum_add,zoc _ hp hq]
 ·rw [<- SR.sum_add];refine (srG r hr).sum_congr fun q' hq'=>?_;rw [h p' q' (yjk.1 hp') (yjk.1 hq')];by_cases e:p'=p/\q'=q
  ·rw [yj1 e,yj1 e,(srG r hr).mp,e.1,e.2]
  ·rw [yj0 e,yj0 e,(srG r hr).pz]
theorem z7k {K N:Nat} (T:List (List GW)) {β β':Nat->Nat->(srG r hr).α} (h:∀ p q,p<K->q<N -> β p q = β' p q):Ph hr K N β T=Ph hr K N β' T:=by unfold Ph;refine (srG r hr).sum_congr fun p hp=>(srG r hr).sum_congr fun q hq=>?_;rw [h p q (yjk.1 hp) (yjk.1 hq)]
end
section
variable {r:GRing} (hr:r.ok=true) {t:GTrans} (ht:ckT r t) {wx wy:List Int}
abbrev plN (wx wy:List Int):Nat:=(wx.length+1)*(wy.length+1)
theorem ztw {i k:Nat} (hi:i<=wx.length) (hk:k<=wy.length):i*(wy.length+1)+k<plN wx wy:=by have:(i+1)*(wy.length+1)<=(wx.length+1)*(wy.length+1):=yji _ (by omega);rw [yjn] at this;unfold plN; omega
theorem zw0 {i k:Nat} {x:GTArc} (h:fitT wx wy i k x) (hi:i<=wx.length) (hk:k<=wy.length):i+stp x.i<=wx.length/\k+stp x.o<=wy.length:=by
 obtain ⟨h1,h2⟩:=h;unfold stp;constructor
 ·split
  ·omega
  ·rename_i h0;have:=(yl5.1 (h1.resolve_left h0)).1;omega
 ·split
  ·omega
  ·rename_i h0;have:=(yl5.1 (h2.resolve_left h0)).1;omega
include ht hr in
theorem yij {T:List (List GW)} (h:zca r (plN wx wy) t.st.toNat T) {i k q:Nat} (hi:i<=wx.length) (hk:k<=wy.length) {w:GW} (hw:w.chk r) {x:GTArc} (hx:x∈t.arcs):zca r (plN wx wy) t.st.toNat (arT r wx wy i k q w T x):=by
 unfold arT;split
 ·rename_i hc;have hin:=zw0 hc.2 hi hk;exact yfe hr h (ztw hin.1 hin.2) (zbn hw (ht.arcs x hx).1)
 ·exact h
theorem yfa {T:List (List GW)} (h:zca r (plN wx wy) t.st.toNat T) {i k q:Nat} (hi:i<=wx.length) (hk:k<=wy.length) {w:GW} (hw:w.chk r) (β : Nat->Nat->(srG r hr).α) {x:GTArc} (hx:x.w.chk r/\x.fit t.st.toNat) :
  Ph hr (plN wx wy) t.st.toNat β (arT r wx wy i k q w T x)=(srG r hr).p (Ph hr (plN wx wy) t.st.toNat β T) (if x.f.toNat=q/\fitT wx wy i k x then (srG r hr).m (cw hr w) ((srG r hr).m (cw hr x.w) (β ((i+stp x.i)*(wy.length+1)+(k+stp x.o)) x.t.toNat)) else (srG r hr).z):=by
 unfold arT;split
 ·rename_i hc;have hin:=zw0 hc.2 hi hk;obtain ⟨a1,⟨a2,a3⟩,a4,a5⟩:=hx;rw [yil hr h (ztw hin.1 hin.2) (by omega) (zbn hw a1),zqx hr hw a1,(srG r hr).ma]
 ·exact ((srG r hr).pz _).symm
include ht in
theorem zu2 {i k q:Nat} (hi:i<=wx.length) (hk:k<=wy.length) {w:GW} (hw:w.chk r) (β : Nat->Nat->(srG r hr).α):∀ {l:List GTArc} {T:List (List GW)},(∀ x∈l,x∈t.arcs)->zca r (plN wx wy) t.st.toNat T ->
  zca r (plN wx wy) t.st.toNat (l.foldl (arT r wx wy i k q w) T)/\Ph hr (plN wx wy) t.st.toNat β (l.foldl (arT r wx wy i k q w) T)=(srG r hr).p (Ph hr (plN wx wy) t.st.toNat β T) ((srG r hr).m (cw hr w) ((srG r hr).sum l fun x=>if x.f.toNat=q/\fitT wx wy i k x then (srG r hr).m (cw hr x.w) (β ((i+stp x.i)*(wy.length+1)+(k+stp x.o)) x.t.toNat) else (srG r hr).z))
 | [],T,_,h=>⟨h,by rw [SR.sum_nil,(srG r hr).mz,(srG r hr).pz]; rfl⟩
 | x::l,T,hl,h=>by
  have hx:=hl x yjj;have h1:=yij hr ht h hi hk (q:=q) hw hx;obtain ⟨i1,i2⟩:=zu2 hi hk hw β (fun y hy=>hl y (yjf _ hy)) h1;refine ⟨i1,?_⟩;rw [ylb,i2,yfa hr h hi hk hw β (ht.arcs x hx),(srG r hr).pa,SR.sum_cons,(srG r hr).mp]
  congr 2
  split
  ·rfl
  ·rw [(srG r hr).mz]
noncomputable def coB (t:GTrans) (wx wy:List Int) (p q:Nat):(srG r hr).α := gd hr (tabW t wx wy (p / (wy.length+1)) (p % (wy.length+1))) q
noncomputable def coF (t:GTrans) (wx wy:List Int) (p q:Nat):(srG r hr).α := if p+1=plN wx wy then gd hr t.fin q else (srG r hr).z
noncomputable def co (t:GTrans) (wx wy:List Int) (p0:Nat) (pre:List Nat) (p q:Nat):(srG r hr).α := if p<p0\/(p=p0/\q∈pre) then coF hr t wx wy p q else coB hr t wx wy p q
theorem z3a {i k:Nat} (hk:k<=wy.length) (q:Nat):coB hr t wx wy (i*(wy.length+1)+k) q=gd hr (tabW t wx wy i k) q:=by unfold coB;rw [ylh i,Nat.mul_add_div (by omega),Nat.div_eq_of_lt (show k<wy.length+1 by omega),Nat.mul_add_mod,Nat.mod_eq_of_lt (show k<wy.length+1 by omega),ykw]
include ht in
theorem ye5 {i k:Nat} (hi:i<=wx.length) (hk:k<=wy.length) (q:Nat):coF hr t wx wy (i*(wy.length+1)+k) q=gd hr (znp t wx wy i k) q:=by
 unfold coF znp;have hiff:i*(wy.length+1)+k+1=plN wx wy ↔ i=wx.length/\k=wy.length:=by
  constructor
  ·intro h;unfold plN at h;rw [yjn] at h;have hi2:¬ i<wx.length:=fun hlt=>by have:=yji (wy.length+1) (ykx hlt);rw [yjn] at this;omega
   have:i=wx.length:=by omega
   subst this;omega
  ·rintro ⟨rfl,rfl⟩;unfold plN; rw [yjn]; omega
 by_cases h:i=wx.length/\k=wy.length
 ·rw [yj1 (hiff.2 h),yj1 h]
 ·rw [yj0 fun h'=>h (hiff.1 h'),yj0 h,ht.ring,zwu]
end
end Go.Ab
