/-
Proofs for the law TransducerNormalKeepsWeights, part 39. Conditions: none.
-/
import Derived.Test.YtbhboeijjgiflaaGreatDoorEP38
import Derived.Test.YtbhboeijjgiflaaGreatDoorEP37
set_option maxRecDepth 100000
set_option maxHeartbeats 4000000
set_option linter.all false
namespace Go.Ab
open Enc (enc)
attribute [local go_sem] zal Opd.slots
structure GAuto.fit (a:GAuto):Prop where
 sm:a.sm 1048576
 li:a.ini.length<=1000000
 lf:a.fin.length<=1000000
 la:a.arcs.length<=1000000
structure GTrans.fit (a:GTrans):Prop where
 sm:a.sm 1048576
 li:a.ini.length<=1000000
 lf:a.fin.length<=1000000
 la:a.arcs.length<=1000000
end Go.Ab
namespace Go.Ab
open Enc (enc)
structure GW.tiny (r:GRing) (w:GW):Prop where
 chk:w.chk r
 mb:w.mb 1
 pl:w.poly.length<=3
 ps:∀ x∈w.parts,x.poly.length<=3
theorem z78 {k:Int} {w:GW} (hs:w.si k) (h:w.mb1 1) (hl:w.poly.length<=3):w.sm 3:=by
 have hq:=si_q hs
 have hp:=si_p hs
 cases w with
 | mk q c i s p ps =>
  have e:ps=[]:=hs.1
  subst e
  have h1:q.sm 3:=by
   have:=z03 (n:=3) h.q (yei 1) (by decide) (by decide)
   rwa [show rto (GW.q (GW.mk q c i s p [])).v=q from zgt hq] at this
  have h2:psm p 3:=zff h.p hp (yei 1) (by decide) (by decide)
  exact .mk h1 h2 hl (by simp) (by simp)
theorem GW.tiny.sm {r:GRing} {w:GW} (h:w.tiny r):w.sm 3:=by
 by_cases h6:r.kind=6
 ·obtain ⟨l,e,hs⟩:=h.chk.2.2 h6
  have hp:=GRing.ok_parts h.chk.1 h6
  rw [e]
  refine .tup (by omega) fun x hx=>?_
  obtain ⟨i,hi,rfl⟩:=List.mem_iff_getElem.1 hx
  exact z78 (hs i (by omega) hi) (h.mb.ps _ hx) (h.ps _ hx)
 ·exact z78 (h.chk.2.1 h6) h.mb.o h.pl
theorem zwb (m:GMono):∀ (q o:List GMono),(prow m q o).length<=o.length+q.length
 | [],o=>by simp [prow]
 | x::q,o=>by
  have h1:=zwb m q (pput o (m.e.add x.e) (m.coef.v*x.coef.v))
  have h2:=zlp o (m.e.add x.e) (m.coef.v*x.coef.v)
  have e:prow m (x::q) o=prow m q (pput o (m.e.add x.e) (m.coef.v*x.coef.v)):=rfl
  rw [e,List.length_cons]; omega
theorem zo0 (q:Rat):(zb1 q).length<=1:=zlp [] _ q
theorem z07 (v:Int):(zsk v).length<=3:=by
 have h0:(pput [] ⟨0,0,0⟩ (Rat.divInt (v % 5 - 2) 3)).length<=1:=zlp [] _ _
 unfold zsk
 simp only
 split
 ·refine Nat.le_trans (zp8 _ _) ?_
  have h1:=zo0 (numR v)
  have h2:(pmul (zdk (IntKind.i64.wrap (v.tdiv 10) % 3)) (zb1 (numR v))).length<=1:=by
   unfold zdk
   split
   ·have:=zwb ⟨Ex.unit (IntKind.i64.wrap (v.tdiv 10) % 3),rto 1⟩ (zb1 (numR v)) []
    simp only [List.length_nil,Nat.zero_add] at this
    exact Nat.le_trans this h1
   ·exact Nat.zero_le _
  omega
 ·omega
theorem zwz (k v:Int):(zgg k v).poly.length<=3:=by
 unfold zgg
 split
 ·exact Nat.zero_le _
 ·split
  ·split
   ·unfold GRing.zero; split<;>exact Nat.zero_le _
   ·exact Nat.zero_le _
  ·split
   ·exact Nat.zero_le _
   ·split
    ·exact Nat.zero_le _
    ·exact z07 v
theorem z6l {k:Int} (hk:1<=k/\k<=5) (v:Int):(zgg k v).parts=[]:=(zka hk v).1.1
theorem zo7 {r:GRing} (hr:r.ok=true) (v:Int):(zj9 r v).tiny r:=by
 have h:=zyt hr v
 refine ⟨h.1,h.2,?_,fun x hx=>?_⟩
 ·unfold zj9
  split
  ·exact Nat.zero_le _
  ·exact zwz _ _
 ·unfold zj9 at hx
  split at hx
  ·obtain ⟨i,_,rfl⟩:=List.mem_map.1 (show x∈zdl r.parts v r.parts.length from hx)
   exact zwz _ _
  ·rename_i h6
   have hk:=GRing.ok_kind hr h6
   rw [z6l ⟨hk.1,hk.2.1⟩] at hx; cases hx
theorem z1w (k:Int) (ps:List GW):(oneW k ps).poly.length<=3:=by
 show (if k=5 then zb1 1 else []).length<=3
 split
 ·have:=zo0 1; omega
 ·exact Nat.zero_le _
theorem z6b {r:GRing} (hr:r.ok=true):r.one.tiny r:=by
 have h:=z6c hr
 refine ⟨h.1,h.2,?_,fun x hx=>?_⟩
 ·unfold GRing.one
  rw [if_pos hr]; exact z1w _ _
 ·unfold GRing.one at hx
  rw [if_pos hr] at hx
  obtain ⟨k,_,rfl⟩:=List.mem_map.1 (show x∈r.parts.map fun k=>oneW k [] from hx)
  exact z1w _ _
theorem zzm {r:GRing} (hr:r.ok=true):r.zero.tiny r:=by
 refine ⟨zbo hr,(z4k hr).mono (by omega),?_,fun x hx=>?_⟩
 ·unfold GRing.zero
  rw [if_pos hr]; exact Nat.zero_le _
 ·unfold GRing.zero at hx
  rw [if_pos hr] at hx
  obtain ⟨k,_,rfl⟩:=List.mem_map.1 (show x∈r.parts.map zb0 from hx)
  exact Nat.zero_le _
theorem z29 {r:GRing} (hr:r.ok=true) (l:List Int) (i:Nat) (one:Int):(endM r l i one).tiny r:=by
 unfold endM
 split
 ·exact zo7 hr _
 ·split
  ·exact z6b hr
  ·exact zzm hr
structure GTrans.tin (t:GTrans):Prop where
 ok:t.ok
 st:t.st<=3
 al:t.arcs.length<=7
 ini:∀ w∈t.ini,w.tiny t.ring
 fin:∀ w∈t.fin,w.tiny t.ring
 arcs:∀ x∈t.arcs,x.w.tiny t.ring
theorem zpl {r:GRing} (hr:r.ok=true) (l:List Int) (one:Int) (k:Nat):∀ w∈zfk r l one k,w.tiny r:=fun w hw=>by
 obtain ⟨j,_,rfl⟩:=List.mem_map.1 hw
 exact z29 hr _ _ _
theorem zx2 (m:GModel) (r:GRing) (i o s:Int) (hr:r.ok=true) (hi:1<=i/\i<=32) (ho:1<=o/\o<=32) (hs:1<=s/\s<=3):(ziv m r i o s).tin:=by
 have hn:1<=numN m s/\numN m s<=s:=by
  have h1:=Int.emod_nonneg (IntKind.i64.wrap (m.st - 1)) (show s≠0 by omega)
  have h2:=Int.emod_lt_of_pos (IntKind.i64.wrap (m.st - 1)) (show 0<s by omega)
  unfold numN; omega
 have la:(ziv m r i o s).arcs.length=min 7 (m.arcs.length / 4):=zju ..
 have hx:∀ x∈(ziv m r i o s).arcs,inT x (ziv m r i o s)/\x.w.tiny r:=fun x hx=>by
  obtain ⟨j,_,rfl⟩:=List.mem_map.1 (show x∈zlf m r i o (numN m s) (min 7 (m.arcs.length / 4)) from hx)
  have hw:=zo7 hr (m.arcs.getD (4*j+3) 0)
  have g:∀ (a b:Int),0<b->0<=a % b/\a % b<b:=fun a b h=>⟨Int.emod_nonneg a (by omega),Int.emod_lt_of_pos a h⟩
  have g1:=g (m.arcs.getD (4*j) 0) (numN m s) (by omega)
  have g2:=g (m.arcs.getD (4*j+2) 0) (numN m s) (by omega)
  have g3:=g (m.arcs.getD (4*j+1) 0) (i+1) (by omega)
  have g4:=g (m.arcs.getD (4*j+1) 0) i (by omega)
  have g5:=g (quoI (m.arcs.getD (4*j+1) 0) (i+1)) (o+1) (by omega)
  have g6:=g (quoI (m.arcs.getD (4*j+1) 0) i) o (by omega)
  refine ⟨⟨g1.1,g1.2,g2.1,g2.2,?_,?_,?_,?_,hw.chk⟩,hw⟩
  ·show 0<=if m.em=true then _ else _
   split<;>omega
  ·show (if m.em=true then _ else _)<=i
   split<;>omega
  ·show 0<=if m.em=true then _ else _
   split<;>omega
  ·show (if m.em=true then _ else _)<=o
   split<;>omega
 have e1:=zpl hr m.ini 0 (numN m s).toNat
 have e2:=zpl hr m.fin (numN m s - 1) (numN m s).toNat
 exact ⟨⟨hr,hi,ho,by show 0<=numN m s; omega,by show numN m s<=64; omega,by show ((zfk r m.ini 0 (numN m s).toNat).length:Int)=numN m s; rw [zey]; omega,
  by show ((zfk r m.fin (numN m s - 1) (numN m s).toNat).length:Int)=numN m s; rw [zey]; omega,by omega,fun x h=>(hx x h).1,fun w h=>(e1 w h).chk,fun w h=>(e2 w h).chk⟩,by show numN m s<=3; omega,by omega,e1,e2,fun x h=>(hx x h).2⟩
theorem GTrans.tin.sm {t:GTrans} (h:t.tin):t.sm 3:=⟨fun w hw=>(h.ini w hw).sm,fun w hw=>(h.fin w hw).sm,fun x hx=>(h.arcs x hx).sm⟩
theorem z44 {r:GRing} {n:Nat} (hn1:1<=n) {l:List GTArc} (h:∀ x∈l,x.w.sm n/\x.w.chk r):∀ x∈tidT r l,x.w.sm ((l.length+1)*(n+1)):=fun x hx=>by
 have hs:=zcq (key:=GTArc.key) l
 have iv:=zr0 (r:=r) hn1 (fun x hx=>h x ((hs.2.2 x).1 hx)) _ (Nat.le_refl _)
 rw [List.take_of_length_le (Nat.le_refl _),hs.2.1] at iv
 exact (iv.2 x (List.mem_filter.1 hx).1).1
theorem GTrans.tin.nf_sm {t:GTrans} (h:t.tin):t.nf.sm 32:=by
 have:=z44 (r:=t.ring) (n:=3) (by omega) fun x hx=>⟨h.sm.arcs x hx,(h.arcs x hx).chk⟩
 have hl:=h.al
 exact ⟨fun w hw=>(h.sm.ini w hw).mono (by omega),fun w hw=>(h.sm.fin w hw).mono (by omega),fun x hx=>(this x hx).mono (by omega)⟩
theorem GTrans.tin.nf_len {t:GTrans} (h:t.tin):t.nf.arcs.length<=7:=Nat.le_trans (zmw t) h.al
end Go.Ab
namespace Go.Ab
open Enc (enc)
end Go.Ab
namespace Go.Ab
open Enc (enc)
def GArc.fit (x:GArc) (N:Nat):Prop:=(0<=x.f/\x.f<N)/\0<=x.t/\x.t<N
structure GAuto.fits {r:GRing} (M:Meas r) (z:Nat) (a:GAuto):Prop where
 ring:a.ring=r
 st:0<=a.st/\a.st<=64
 arcs:∀ x∈a.arcs,(x.w.chk r/\M.mb z x.w)/\x.fit a.st.toNat
 ini:Go.Ab.vb M z a.ini/\a.ini.length=a.st.toNat
 fin:Go.Ab.vb M z a.fin/\a.fin.length=a.st.toNat
 rok:r.ok=true
end Go.Ab
namespace Go.Ab
open Enc (enc)
end Go.Ab
namespace Go.Ab
def pl (g:Ex->Rat):List GMono->Rat
 | []=>0
 | m::p=>g m.e*m.coef.v+pl g p
theorem ydm (a b c:Rat):a+(b+c)=b+(a+c):=by rw [<- Rat.add_assoc,Rat.add_comm a b,Rat.add_assoc]
theorem yac (g:Ex->Rat) (p:List GMono) (e:Ex) (q:Rat):pl g (pins p e q)=pl g p+g e*q:=by
 induction p with
 | nil=>simp only [pins,pl,zbd,Rat.add_zero,Rat.zero_add]
 | cons m p ih =>
  simp only [pins]
  split
  ·simp only [pl,ih,Rat.add_assoc]
  ·split
   ·rename_i h
    split
    ·rename_i h2
     simp only [pl,h]
     rw [Rat.add_comm (g e*m.coef.v) (pl g p),Rat.add_assoc,<- Rat.mul_add,Rat.add_comm m.coef.v q,h2,Rat.mul_zero,Rat.add_zero]
    ·simp only [pl,h,zbd]
     rw [Rat.mul_add,Rat.add_assoc,Rat.add_comm]
   ·simp only [pl,zbd]
    rw [Rat.add_comm]
theorem z1h (g:Ex->Rat) (p:List GMono) (e:Ex) (q:Rat):pl g (pput p e q)=pl g p+if e.ok=true then g e*q else 0:=by
 rw [zg7]
 split
 ·rename_i h
  rcases h with h|h
  ·simp [h,Rat.add_zero]
  ·simp [h,Rat.mul_zero,Rat.add_zero]
 ·rename_i h
  have:e.ok=true:=by
   rcases Bool.eq_false_or_eq_true e.ok with h'|h'
   ·exact h'
   ·exact absurd (.inl h') h
  rw [yac,if_pos this]
theorem z1i (g:Ex->Rat) (p:List GMono) {q:List GMono} (hq:∀ m∈q,m.ok=true):pl g (padd p q)=pl g p+pl g q:=by
 induction q generalizing p with
 | nil=>show pl g p=_; rw [pl,Rat.add_zero]
 | cons m q ih =>
  show pl g (padd (pput p m.e m.coef.v) q)=_
  rw [ih _ fun x hx=>hq x (List.mem_cons_of_mem _ hx),z1h,if_pos (GMono.ok_iff.1 (hq m List.mem_cons_self)).1,pl,Rat.add_assoc]
def pind (e x:Ex):Rat:=if x=e then 1 else 0
theorem z59 (p:List GMono) (e:Ex):pc p e=pl (pind e) p:=by
 induction p with
 | nil=>rfl
 | cons m p ih =>
  simp only [pc,pl,ih,pind]
  split
  ·rw [Rat.one_mul]
  ·rw [Rat.zero_mul]
def psh (g:Ex->Rat) (y x:Ex):Rat:=if (y.add x).ok=true then g (y.add x) else 0
theorem yab (g:Ex->Rat) (m:GMono) (q:List GMono) (o:List GMono):pl g (prow m q o)=pl g o+pl (psh g m.e) q*m.coef.v:=by
 induction q generalizing o with
 | nil=>show pl g o=_; rw [pl,Rat.zero_mul,Rat.add_zero]
 | cons x q ih =>
  show pl g (prow m q (pput o (m.e.add x.e) (m.coef.v*x.coef.v)))=_
  rw [ih,z1h,pl,Rat.add_mul,Rat.add_assoc]
  congr 2
  unfold psh
  split
  ·rw [Rat.mul_comm m.coef.v,Rat.mul_assoc]
  ·rw [Rat.zero_mul,Rat.zero_mul]
theorem zgb (g:Ex->Rat) (p q:List GMono):pl g (pmul p q)=pl (fun y=>pl (psh g y) q) p:=by
 have:∀ (p o:List GMono),pl g (p.foldl (fun o m=>prow m q o) o)=pl g o+pl (fun y=>pl (psh g y) q) p:=by
  intro p
  induction p with
  | nil=>intro o; show pl g o=_; rw [pl,Rat.add_zero]
  | cons m p ih =>
   intro o
   show pl g (p.foldl (fun o m=>prow m q o) (prow m q o))=_
   rw [ih,yab,pl,Rat.add_assoc]
 have h:=this p []
 rw [pl,Rat.zero_add] at h
 exact h
theorem zgc {f g:Ex->Rat} {p:List GMono} (h:∀ m∈p,f m.e=g m.e):pl f p=pl g p:=by
 induction p with
 | nil=>rfl
 | cons m p ih=>simp only [pl]; rw [h m List.mem_cons_self,ih fun x hx=>h x (List.mem_cons_of_mem _ hx)]
theorem z1k (f g:Ex->Rat) (p:List GMono):pl (fun x=>f x+g x) p=pl f p+pl g p:=by
 induction p with
 | nil=>simp only [pl,Rat.add_zero]
 | cons m p ih=>simp only [pl,ih,Rat.add_mul]; rw [Rat.add_assoc,Rat.add_assoc,ydm (g m.e*m.coef.v)]
theorem zwh (p:List GMono):pl (fun _=>0) p=0:=by
 induction p with
 | nil=>rfl
 | cons m p ih=>simp only [pl,ih,Rat.zero_mul,Rat.add_zero]
theorem yad (f:Ex->Rat) (c:Rat) (p:List GMono):pl (fun x=>f x*c) p=pl f p*c:=by
 induction p with
 | nil=>simp only [pl,Rat.zero_mul]
 | cons m p ih=>simp only [pl,ih,Rat.add_mul]; rw [Rat.mul_assoc,Rat.mul_comm c,<- Rat.mul_assoc]
theorem yaa (f:Ex->Ex->Rat) (p q:List GMono):pl (fun y=>pl (fun x=>f y x) q) p=pl (fun x=>pl (fun y=>f y x) p) q:=by
 induction p with
 | nil=>simp only [pl,zwh]
 | cons m p ih=>simp only [pl,ih,z1k,yad]
theorem Ex.add_comm (x y:Ex):x.add y=y.add x:=by simp only [Ex.add,Int.add_comm]
theorem Ex.add_assoc (x y z:Ex):(x.add y).add z=x.add (y.add z):=by simp only [Ex.add,Int.add_assoc]
theorem zwd {p q p' q':List GMono} (h:∀ g,pl g (pmul p q)=pl g (pmul p' q')):pmul p q=pmul p' q':=zhx (zbt _ _) (zbt _ _) fun e=>by rw [z59,z59,h]
theorem zsl (p q:List GMono):pmul p q=pmul q p:=zwd fun g=>by
 rw [zgb,zgb]
 rw [show (fun y=>pl (psh g y) q)=fun y=>pl (fun x=>psh g y x) q from rfl,yaa]
 refine zgc fun m _=>zgc fun m' _=>?_
 unfold psh
 rw [Ex.add_comm]
theorem mok {m:GMono} {p:List GMono} (h:PVal p) (hm:m∈p):m.e.ok=true:=(GMono.ok_iff.1 ((zak.1 h).1 m hm)).1
theorem zyk {p q w:List GMono} (hp:PVal p) (hq:PVal q) (hw:PVal w):pmul (pmul p q) w=pmul p (pmul q w):=zwd fun g=>by
 rw [zgb,zgb,zgb]
 refine zgc fun a ha=>?_
 rw [zgb]
 refine zgc fun b hb=>?_
 have ka:=Ex.ok_iff.1 (mok hp ha)
 have kb:=Ex.ok_iff.1 (mok hq hb)
 unfold psh
 by_cases h1:(a.e.add b.e).ok=true
 ·rw [if_pos h1]
  refine zgc fun c hc=>?_
  have kc:=Ex.ok_iff.1 (mok hw hc)
  rw [Ex.add_assoc]
  by_cases h2:(b.e.add c.e).ok=true
  ·rw [if_pos h2]
  ·rw [if_neg h2,if_neg]
   intro h3
   refine h2 (Ex.ok_iff.2 ?_)
   have:=Ex.ok_iff.1 h3
   simp only [Ex.add] at this ⊢
   omega
 ·rw [if_neg h1]
  refine (zwh w).symm.trans (zgc fun c hc=>?_)
  have kc:=Ex.ok_iff.1 (mok hw hc)
  by_cases h2:(b.e.add c.e).ok=true
  ·rw [if_pos h2,if_neg]
   intro h3
   refine h1 (Ex.ok_iff.2 ?_)
   have:=Ex.ok_iff.1 h3
   simp only [Ex.add] at this ⊢
   omega
  ·rw [if_neg h2]
theorem z1b {u v w:List GMono} (hv:PVal v) (hw:PVal w):pmul u (padd v w)=padd (pmul u v) (pmul u w):=by
 refine zhx (zbt _ _) (zca _ (zbt _ _)) fun e=>?_
 rw [z59,z59,z1i _ _ (zak.1 (zbt u w)).1,zgb,zgb,zgb,<- z1k]
 exact zgc fun m _=>z1i _ _ (zak.1 hw).1
theorem z5z (p:List GMono):pmul p []=[]:=by rw [zsl]; rfl
theorem zf8 {v:GW} (hv:v.si 2):0<=trop v/\trop v<=1099511627777:=by
 obtain ⟨h1,h2,h3,h4,h5,h6,h7⟩:=si2.1 hv
 unfold trop
 split<;>omega
theorem zb4 {v w:GW} (hv:v.si 2) (hw:w.si 2):trop (zao 2 v w)=if trop v+trop w<=1099511627776 then trop v+trop w else 1099511627777:=by
 obtain ⟨h1,h2,h3,h4,h5,h6,h7⟩:=si2.1 hv
 obtain ⟨k1,k2,k3,k4,k5,k6,k7⟩:=si2.1 hw
 unfold zao
 rw [if_neg (by omega),if_pos rfl]
 unfold trop
 have e1:∀ c:Int,(GW.mk gr0 c false 0 [] []).inf=false:=fun _=>rfl
 have e2:∀ c:Int,(GW.mk gr0 c false 0 [] []).cost=c:=fun _=>rfl
 have e3:(GW.mk gr0 0 true 0 [] []).inf=true:=rfl
 cases hi:v.inf<;>cases hj:w.inf<;>simp [hi,hj,e3]
 ·by_cases h:v.cost+w.cost<=1099511627776
  ·rw [if_neg (show ¬ 1099511627776<v.cost+w.cost by omega),e1,e2,if_pos h]; rfl
  ·rw [if_pos (show 1099511627776<v.cost+w.cost by omega),e3,if_neg h]; rfl
 ·omega
 ·omega
theorem k5 {k:Int} (hk:1<=k/\k<=5):k=1\/k=2\/k=3\/k=4\/k=5:=by omega
theorem zfd (v w:GW):zao 1 v w=.mk (rto (v.q.v*w.q.v)) 0 false 0 [] []:=by simp [zao]
theorem zet (v w:GW):zao 3 v w=.mk (rto (v.q.v*w.q.v)) 0 false 0 [] []:=by simp [zao]
theorem zfc (v w:GW):zao 4 v w=.mk gr0 0 false (v.set &&& w.set) [] []:=by simp [zao]
theorem zfb (v w:GW):zao 5 v w=.mk gr0 0 false 0 (pmul v.poly w.poly) []:=by simp [zao]
theorem zl6 {k:Int} (hk:1<=k/\k<=5) {v w:GW} (hv:v.si k) (hw:w.si k):zao k v w=zao k w v:=by
 rcases k5 hk with rfl|rfl|rfl|rfl|rfl
 ·rw [zfd,zfd,Rat.mul_comm]
 ·refine zht (za9 hk hv hw) (za9 hk hw hv) ?_
  rw [zb4 hv hw,zb4 hw hv,Int.add_comm]
 ·rw [zet,zet,Rat.mul_comm]
 ·rw [zfc,zfc,UInt64.and_comm]
 ·rw [zfb,zfb,zsl]
theorem zks {k:Int} (hk:1<=k/\k<=5) {u v w:GW} (hu:u.si k) (hv:v.si k) (hw:w.si k):zao k (zao k u v) w=zao k u (zao k v w):=by
 rcases k5 hk with rfl|rfl|rfl|rfl|rfl
 ·rw [zfd,zfd,zfd,zfd]; simp only [GW.q_mk,zbd,Rat.mul_assoc]
 ·refine zht (za9 hk (za9 hk hu hv) hw) (za9 hk hu (za9 hk hv hw)) ?_
  rw [zb4 (za9 hk hu hv) hw,zb4 hu hv,zb4 hu (za9 hk hv hw),zb4 hv hw]
  have:=zf8 hu; have:=zf8 hv; have:=zf8 hw
  repeat' split
  all_goals omega
 ·rw [zet,zet,zet,zet]; simp only [GW.q_mk,zbd,Rat.mul_assoc]
 ·rw [zfc,zfc,zfc,zfc]; simp only [GW.set_mk,UInt64.and_assoc]
 ·rw [zfb,zfb,zfb,zfb]
  simp only [GW.poly_mk]
  rw [zyk (si_p hu) (si_p hv) (si_p hw)]
theorem yft (a b c:UInt64):a &&& (b ||| c)=(a &&& b) ||| (a &&& c):=UInt64.toBitVec_inj.1 (by
 simp only [UInt64.toBitVec_and,UInt64.toBitVec_or]
 exact BitVec.eq_of_getLsbD_eq fun i _=>by simp only [BitVec.getLsbD_and,BitVec.getLsbD_or,Bool.and_or_distrib_left])
theorem zkr {k:Int} (hk:1<=k/\k<=5) {u v w:GW} (hu:u.si k) (hv:v.si k) (hw:w.si k):zao k u (zau k v w)=zau k (zao k u v) (zao k u w):=by
 rcases k5 hk with rfl|rfl|rfl|rfl|rfl
 ·rw [zfd,zfd,zfd]; simp only [zau,if_true,GW.q_mk,zbd,Rat.mul_add]
 ·refine zht (za9 hk hu (zb9 hk hv hw)) (zb9 hk (za9 hk hu hv) (za9 hk hu hw)) ?_
  rw [zb4 hu (zb9 hk hv hw),zdx hv hw,zdx (za9 hk hu hv) (za9 hk hu hw),zb4 hu hv,zb4 hu hw]
  have:=zf8 hu; have:=zf8 hv; have:=zf8 hw
  repeat' split
  all_goals omega
 ·obtain ⟨_,_,_,_,_,_,h0,_⟩:=si3.1 hu
  rw [zsm,zsm,zet u v,zet u w]
  simp only [GW.q_mk,zbd]
  by_cases h:v.q.v<w.q.v
  ·rw [if_pos h,zet]
   by_cases h2:u.q.v*v.q.v<u.q.v*w.q.v
   ·rw [if_pos h2]
   ·have h3:=Rat.mul_le_mul_of_nonneg_left (Rat.le_of_lt h) h0
    rw [if_neg h2,Rat.le_antisymm h3 (Rat.not_lt.1 h2)]
  ·have h3:=Rat.mul_le_mul_of_nonneg_left (Rat.not_lt.1 h) h0
   rw [if_neg h,if_neg (Rat.not_lt.2 h3),zet]
 ·rw [zfc,zfc,zfc]; simp [zau,GW.set_mk,yft]
 ·rw [zfb,zfb,zfb]
  simp only [zau,GW.poly_mk]
  simp [GW.poly_mk,z1b (si_p hv) (si_p hw)]
theorem zkq {k:Int} (hk:1<=k/\k<=5) {v:GW} (hv:v.si k):zao k v (zb0 k)=zb0 k:=by
 rcases k5 hk with rfl|rfl|rfl|rfl|rfl
 ·rw [zfd]; simp [zb0,GW.q_mk,zgv,Rat.mul_zero,show rto 0=gr0 from zb8]
 ·refine zht (za9 hk hv (zhq hk)) (zhq hk) ?_
  rw [zb4 hv (zhq hk)]
  have:=zf8 hv
  have e:trop (zb0 2)=1099511627777:=rfl
  rw [e,if_neg (by omega)]
 ·rw [zet]; simp [zb0,GW.q_mk,zgv,Rat.mul_zero,show rto 0=gr0 from zb8]
 ·rw [zfc]; simp [zb0,GW.set_mk]
 ·rw [zfb]; simp [zb0,GW.poly_mk,z5z]
section
variable {r:GRing} {u v w:GW}
theorem zx6 (cv:v.chk r) (cw:w.chk r):r.times v w=r.times w v:=by
 by_cases h6:r.kind=6
 ·have hp:=GRing.ok_parts cv.1 h6
  obtain ⟨lv,_,sv⟩:=cv.2.2 h6
  obtain ⟨lw,_,sw⟩:=cw.2.2 h6
  simp only [GRing.times,if_pos h6]
  congr 1
  refine List.ext_getElem (by rw [zay lv lw,zay lw lv]) fun i h1 h2=>?_
  have h3:i<r.parts.length:=by rw [zay lv lw] at h1; exact h1
  rw [za7 h3 (by omega) (by omega) h1,za7 h3 (by omega) (by omega) h2]
  exact zl6 (hp.2.2 _ (List.getElem_mem h3)) (sv i h3 (by omega)) (sw i h3 (by omega))
 ·have hk:=GRing.ok_kind cv.1 h6
  simp only [GRing.times,if_neg h6]
  exact zl6 ⟨hk.1,hk.2.1⟩ (cv.2.1 h6) (cw.2.1 h6)
theorem ztw (cu:u.chk r) (cv:v.chk r) (cw:w.chk r):r.times (r.times u v) w=r.times u (r.times v w):=by
 by_cases h6:r.kind=6
 ·have hp:=GRing.ok_parts cu.1 h6
  obtain ⟨lu,_,su⟩:=cu.2.2 h6
  obtain ⟨lv,_,sv⟩:=cv.2.2 h6
  obtain ⟨lw,_,sw⟩:=cw.2.2 h6
  simp only [GRing.times,if_pos h6,GW.parts_mk]
  congr 1
  have luv:=zay lu lv
  have lvw:=zay lv lw
  refine List.ext_getElem (by rw [zay luv lw,zay lu lvw]) fun i h1 h2=>?_
  have h3:i<r.parts.length:=by rw [zay luv lw] at h1; exact h1
  rw [za7 h3 (by omega) (by omega) h1,za7 h3 (by omega) (by omega) h2,za7 h3 (by omega) (by omega) (by omega),za7 h3 (by omega) (by omega) (by omega)]
  exact zks (hp.2.2 _ (List.getElem_mem h3)) (su i h3 (by omega)) (sv i h3 (by omega)) (sw i h3 (by omega))
 ·have hk:=GRing.ok_kind cu.1 h6
  simp only [GRing.times,if_neg h6]
  exact zks ⟨hk.1,hk.2.1⟩ (cu.2.1 h6) (cv.2.1 h6) (cw.2.1 h6)
theorem zx5 (cu:u.chk r) (cv:v.chk r) (cw:w.chk r):r.times u (r.plus v w)=r.plus (r.times u v) (r.times u w):=by
 by_cases h6:r.kind=6
 ·have hp:=GRing.ok_parts cu.1 h6
  obtain ⟨lu,_,su⟩:=cu.2.2 h6
  obtain ⟨lv,_,sv⟩:=cv.2.2 h6
  obtain ⟨lw,_,sw⟩:=cw.2.2 h6
  simp only [GRing.times,GRing.plus,if_pos h6,GW.parts_mk]
  congr 1
  have lvw:=zbc lv lw
  have luv:=zay lu lv
  have luw:=zay lu lw
  refine List.ext_getElem (by rw [zay lu lvw,zbc luv luw]) fun i h1 h2=>?_
  have h3:i<r.parts.length:=by rw [zay lu lvw] at h1; exact h1
  rw [za7 h3 (by omega) (by omega) h1,zbn h3 (by omega) (by omega) (by omega),zbn h3 (by omega) (by omega) h2,za7 h3 (by omega) (by omega) (by omega),za7 h3 (by omega) (by omega) (by omega)]
  exact zkr (hp.2.2 _ (List.getElem_mem h3)) (su i h3 (by omega)) (sv i h3 (by omega)) (sw i h3 (by omega))
 ·have hk:=GRing.ok_kind cu.1 h6
  simp only [GRing.times,GRing.plus,if_neg h6]
  exact zkr ⟨hk.1,hk.2.1⟩ (cu.2.1 h6) (cv.2.1 h6) (cw.2.1 h6)
theorem zx4 (cv:v.chk r):r.times v r.zero=r.zero:=by
 by_cases h6:r.kind=6
 ·have hp:=GRing.ok_parts cv.1 h6
  obtain ⟨lv,_,sv⟩:=cv.2.2 h6
  have ez:r.zero=.mk gr0 0 false 0 [] (r.parts.map zb0):=by unfold GRing.zero; rw [if_pos cv.1,h6]; rfl
  rw [ez]
  simp only [GRing.times,if_pos h6,GW.parts_mk]
  congr 1
  have lz:(r.parts.map zb0).length=r.parts.length:=List.length_map ..
  refine List.ext_getElem (by rw [zay lv lz,lz]) fun i h1 h2=>?_
  have h3:i<r.parts.length:=by rw [lz] at h2; exact h2
  rw [za7 h3 (by omega) (by omega) h1,List.getElem_map]
  exact zkq (hp.2.2 _ (List.getElem_mem h3)) (sv i h3 (by omega))
 ·have hk:=GRing.ok_kind cv.1 h6
  have ez:r.zero=zb0 r.kind:=by unfold GRing.zero; rw [if_pos cv.1,hk.2.2]; rfl
  rw [ez]
  simp only [GRing.times,if_neg h6]
  exact zkq ⟨hk.1,hk.2.1⟩ (cv.2.1 h6)
end
end Go.Ab
namespace Go.Ab
structure SR where
 α : Type
 z : α
 p : α -> α -> α
 m : α -> α -> α
 pc:∀ a b,p a b=p b a
 pa:∀ a b c,p (p a b) c=p a (p b c)
 pz:∀ a,p a z=a
 mc:∀ a b,m a b=m b a
 ma:∀ a b c,m (m a b) c=m a (m b c)
 mp:∀ a b c,m a (p b c)=p (m a b) (m a c)
 mz:∀ a,m a z=z
namespace SR
variable (S:SR) {β γ : Type}
def sum (l:List β) (f : β -> S.α):S.α := l.foldr (fun x s=>S.p (f x) s) S.z
theorem zp (a:S.α):S.p S.z a=a:=by rw [S.pc,S.pz]
theorem zm (a:S.α):S.m S.z a=S.z:=by rw [S.mc,S.mz]
theorem plc (a b c:S.α):S.p a (S.p b c)=S.p b (S.p a c):=by rw [<- S.pa,S.pc a b,S.pa]
theorem sum_nil (f : β -> S.α):S.sum [] f=S.z:=rfl
theorem sum_cons (x : β) (l:List β) (f : β -> S.α):S.sum (x::l) f=S.p (f x) (S.sum l f):=rfl
theorem sum_congr {l:List β} {f g : β -> S.α} (h:∀ x∈l,f x=g x):S.sum l f=S.sum l g:=by
 induction l with
 | nil=>rfl
 | cons x l ih=>rw [sum_cons,sum_cons,h x List.mem_cons_self,ih fun y hy=>h y (List.mem_cons_of_mem _ hy)]
theorem zyb (l k:List β) (f : β -> S.α):S.sum (l++k) f=S.p (S.sum l f) (S.sum k f):=by
 induction l with
 | nil=>exact (S.zp _).symm
 | cons x l ih=>rw [List.cons_append,sum_cons,sum_cons,ih,S.pa]
theorem sum_zero (l:List β):S.sum l (fun _=>S.z)=S.z:=by
 induction l with
 | nil=>rfl
 | cons x l ih=>rw [sum_cons,ih,S.pz]
theorem sum_add (l:List β) (f g : β -> S.α):S.sum l (fun x=>S.p (f x) (g x))=S.p (S.sum l f) (S.sum l g):=by
 induction l with
 | nil=>exact (S.pz _).symm
 | cons x l ih=>rw [sum_cons,sum_cons,sum_cons,ih,S.pa,S.pa,S.plc (g x)]
theorem sum_range (n:Nat) (f:Nat->S.α):S.sum (List.range (n+1)) f=S.p (S.sum (List.range n) f) (f n):=by
 rw [List.range_succ,zyb,sum_cons,sum_nil,S.pz]
theorem sum_delta {n t:Nat} (h:t<n) (g:Nat->S.α):S.sum (List.range n) (fun s=>if s=t then g s else S.z)=g t:=by
 induction n with
 | zero=>omega
 | succ n ih =>
  rw [sum_range]
  by_cases ht:t=n
  ·subst ht
   rw [if_pos rfl,S.sum_congr (g:=fun _=>S.z) fun s hs=>if_neg (by have:=List.mem_range.1 hs; omega),sum_zero,zp]
  ·rw [ih (by omega),if_neg (by omega),S.pz]
variable (F T : β -> Nat) (L : β -> Int) (W : β -> S.α) (A:List β)
def dot (n:Nat) (v w:Nat->S.α):S.α := S.sum (List.range n) fun s=>S.m (v s) (w s)
variable {F T A}
end SR
def CW (r:GRing):Type:={w:GW // w.chk r}
def srG (r:GRing) (hr:r.ok=true):SR where
 α := CW r
 z:=⟨r.zero,zbo hr⟩
 p a b:=⟨r.plus a.1 b.1,zc6 a.2 b.2⟩
 m a b:=⟨r.times a.1 b.1,zbq a.2 b.2⟩
 pc a b:=Subtype.ext (zfs a.2 b.2)
 pa a b c:=Subtype.ext (zcj a.2 b.2 c.2)
 pz a:=Subtype.ext (zc5 a.2)
 mc a b:=Subtype.ext (zx6 a.2 b.2)
 ma a b c:=Subtype.ext (ztw a.2 b.2 c.2)
 mp a b c:=Subtype.ext (zx5 a.2 b.2 c.2)
 mz a:=Subtype.ext (zx4 a.2)
section
variable {r:GRing} (hr:r.ok=true)
noncomputable def cw0 (w:GW):CW r:=@dite _ (w.chk r) (Classical.propDecidable _) (fun h=>⟨w,h⟩) fun _=>⟨r.zero,zbo hr⟩
noncomputable def cw (w:GW):(srG r hr).α := cw0 hr w
theorem zjr {w:GW} (h:w.chk r):(cw hr w).1=w:=by
 have e:cw0 hr w=⟨w,h⟩:=dif_pos h
 exact congrArg Subtype.val e
theorem zvb:cw hr r.zero=(srG r hr).z:=Subtype.ext (zjr hr (zbo hr))
theorem zvd {v w:GW} (hv:v.chk r) (hw:w.chk r):cw hr (r.plus v w)=(srG r hr).p (cw hr v) (cw hr w):=Subtype.ext (by
 rw [zjr hr (zc6 hv hw)]
 show _=r.plus (cw hr v).1 (cw hr w).1
 rw [zjr hr hv,zjr hr hw])
theorem zre {v w:GW} (hv:v.chk r) (hw:w.chk r):cw hr (r.times v w)=(srG r hr).m (cw hr v) (cw hr w):=Subtype.ext (by
 rw [zjr hr (zbq hv hw)]
 show _=r.times (cw hr v).1 (cw hr w).1
 rw [zjr hr hv,zjr hr hw])
theorem yfl {v w:GW} (hv:v.chk r) (hw:w.chk r) (h:cw hr v=cw hr w):v=w:=by rw [<- zjr hr hv,<- zjr hr hw,h]
noncomputable def gd (l:List GW) (s:Nat):(srG r hr).α := cw hr (l.getD s r.zero)
variable {α : Type} {key : α -> List Int} {wt : α -> GW} {up : α -> α -> α} (h:List Int->(srG r hr).α)
noncomputable def hs (key : α -> List Int) (wt : α -> GW) (l:List α):(srG r hr).α := (srG r hr).sum l fun x=>(srG r hr).m (cw hr (wt x)) (h (key x))
variable (hk:∀ z y,key (up z y)=key z) (hw:∀ z y,wt (up z y)=r.plus (wt z) (wt y))
end
end Go.Ab
namespace Go.Ab
section
variable {r:GRing} (hr:r.ok=true)
include hr in
theorem zh3 {N:Nat} {l:List GW} (h:ckL r N l) (s:Nat):(l.getD s r.zero).chk r:=by
 rw [List.getD_eq_getElem?_getD]
 cases e:l[s]? with
 | none=>exact zbo hr
 | some w=>exact h.1 w (List.mem_of_getElem? e)
theorem zxc (n s:Nat):gd hr (List.replicate n r.zero) s=(srG r hr).z:=by
 unfold gd
 have:(List.replicate n r.zero).getD s r.zero=r.zero:=by
  rw [List.getD_eq_getElem?_getD,List.getElem?_replicate]
  split<;>rfl
 rw [this,zvb]
theorem zs2 {l:List GW} {i s:Nat} (v:GW) (h:i≠s):gd hr (l.set i v) s=gd hr l s:=by
 unfold gd
 rw [List.getD_eq_getElem?_getD,List.getElem?_set_ne h,<- List.getD_eq_getElem?_getD]
theorem zni {l:List GW} {i:Nat} (v:GW) (h:i<l.length):gd hr (l.set i v) i=cw hr v:=by
 unfold gd
 rw [List.getD_eq_getElem?_getD,List.getElem?_set_self h]; rfl
noncomputable def ctr (p:GTArc->Option (List GW)) (s:Nat) (x:GTArc):(srG r hr).α := match p x with
 | some e=>if x.f.toNat=s then (srG r hr).m (cw hr x.w) (gd hr e x.t.toNat) else (srG r hr).z
 | none=>(srG r hr).z
theorem yb7 {N:Nat} {p:GTArc->Option (List GW)} {b:List GW} {x:GTArc} (hb:ckL r N b) (hx:okA r N p x) (s:Nat):gd hr (accS r p b x) s=(srG r hr).p (gd hr b s) (ctr hr p s x):=by
 unfold accS ctr
 cases h:p x with
 | none=>exact ((srG r hr).pz _).symm
 | some e =>
  obtain ⟨⟨a1,a2⟩,a3,a4⟩:=hx.2.1
  have he:=hx.2.2 e h
  show gd hr (addW r b x e) s=(srG r hr).p (gd hr b s) (if x.f.toNat=s then _ else _)
  unfold addW
  by_cases hs:x.f.toNat=s
  ·subst hs
   rw [if_pos rfl,zni hr _ (by rw [hb.2]; omega),zvd hr (zh3 hr hb _) (zbq hx.1 (zh3 hr he _)),zre hr hx.1 (zh3 hr he _)]
   rfl
  ·rw [if_neg hs,zs2 hr _ hs,(srG r hr).pz]
theorem zvn {N:Nat} {p:GTArc->Option (List GW)} (s:Nat):∀ {l:List GTArc} {b:List GW},ckL r N b->(∀ x∈l,okA r N p x)->gd hr (accW r p l b) s=(srG r hr).p (gd hr b s) ((srG r hr).sum l (ctr hr p s))
 | [],b,_,_=>((srG r hr).pz _).symm
 | x::l,b,hb,h=>by
  have hx:=h x List.mem_cons_self
  show gd hr (accW r p l (accS r p b x)) s=_
  rw [zvn s (zvo hb hx) fun y hy=>h y (List.mem_cons_of_mem _ hy),yb7 hr hb hx,SR.sum_cons,(srG r hr).pa]
theorem z5a (t:GTrans):swap t t.inv:=⟨rfl,rfl,rfl,rfl,List.Perm.refl _⟩
theorem drop_nil {w:List Int} {i:Nat} (h:w.drop i=[]) (hi:i<=w.length):i=w.length/\w[i]?=none:=by
 have:=List.drop_eq_nil_iff.1 h
 exact ⟨by omega,List.getElem?_eq_none (by omega)⟩
theorem zvc {N:Nat} {ini row:List GW} (h1:ckL r N ini) (h2:ckL r N row):∀ n,n<=N->(sumN r ini row n).chk r/\cw hr (sumN r ini row n)=(srG r hr).sum (List.range n) fun j=>(srG r hr).m (gd hr ini j) (gd hr row j)
 | 0,_=>⟨zbo hr,zvb hr⟩
 | n+1,hn=>by
  obtain ⟨i1,i2⟩:=zvc h1 h2 n (by omega)
  have l1:n<ini.length:=by rw [h1.2]; omega
  have l2:n<row.length:=by rw [h2.2]; omega
  have k1:=h1.1 _ (List.getElem_mem l1)
  have k2:=h2.1 _ (List.getElem_mem l2)
  have g1:gd hr ini n=cw hr ini[n]:=by unfold gd; rw [List.getD_eq_getElem?_getD,List.getElem?_eq_getElem l1]; rfl
  have g2:gd hr row n=cw hr row[n]:=by unfold gd; rw [List.getD_eq_getElem?_getD,List.getElem?_eq_getElem l2]; rfl
  rw [zl8 l1 l2]
  exact ⟨zc6 i1 (zbq k1 k2),by rw [zvd hr i1 (zbq k1 k2),zre hr k1 k2,i2,SR.sum_range,g1,g2]⟩
end
end Go.Ab
namespace Go.Ab
def stp (l:Int):Nat:=if l=0 then 0 else 1
def fitT (wx wy:List Int) (i k:Nat) (x:GTArc):Prop:=(x.i=0\/wx[i]?=some x.i)/\(x.o=0\/wy[k]?=some x.o)
instance (wx wy:List Int) (i k:Nat) (x:GTArc):Decidable (fitT wx wy i k x):=by unfold fitT; infer_instance
section
variable {r:GRing} (hr:r.ok=true)
theorem z9i {N:Nat} {l:List GTArc} {b:List GW} (hb:ckL r N b) (h:zpr r N l) (n:Nat):ckL r N (sprN r l b n):=(ztz (l':=l.map swT) (List.Perm.refl _) hb h n).2
theorem yav {N:Nat} {l:List GTArc} {b:List GW} (hb:ckL r N b) (h:zpr r N l) (n:Nat):∀ x∈l,okA r N (zje (sprN r l b n)) x:=fun x hx=>⟨(h x hx).1,(h x hx).2,fun e he=>by
 unfold zje at he
 split at he
 ·cases he; exact z9i hb h n
 ·cases he⟩
theorem zv3 {N:Nat} {l:List GTArc} {b:List GW} (hb:ckL r N b) (h:zpr r N l) (n s:Nat):gd hr (sprN r l b (n+1)) s=(srG r hr).p (gd hr b s) ((srG r hr).sum l (ctr hr (zje (sprN r l b n)) s)):=zvn hr s hb (yav hb h n)
theorem zly (v:List GW) (s:Nat) (x:GTArc):ctr hr (zje v) s x=if emF x=true/\x.f.toNat=s then (srG r hr).m (cw hr x.w) (gd hr v x.t.toNat) else (srG r hr).z:=by
 unfold ctr zje
 by_cases he:emF x=true
 ·simp only [he,if_true,true_and]
 ·simp only [he,if_false,false_and,Bool.false_eq_true]
theorem z0c {N:Nat} {l:List GTArc} {b:List GW} (hb:ckL r N b) (h:zpr r N l) {pos:Nat->Nat} (hp:∀ x∈l,emF x=true->pos x.f.toNat<pos x.t.toNat/\pos x.t.toNat<N) :
  ∀ n s,N<=n+1+pos s->gd hr (sprN r l b (n+1)) s=gd hr (sprN r l b n) s
 | 0,s,hn=>by
  rw [zv3 hr hb h,(srG r hr).sum_congr (g:=fun _=>(srG r hr).z) fun x hx=>?_,SR.sum_zero,(srG r hr).pz]; rfl
  rw [zly,if_neg]
  rintro ⟨h1,rfl⟩
  have:=hp x hx h1
  omega
 | n+1,s,hn=>by
  rw [zv3 hr hb h,zv3 hr hb h n]
  congr 1
  refine (srG r hr).sum_congr fun x hx=>?_
  rw [zly,zly]
  by_cases hc:emF x=true/\x.f.toNat=s
  ·rw [if_pos hc,if_pos hc]
   obtain ⟨h1,rfl⟩:=hc
   have:=hp x hx h1
   rw [z0c hb h hp n x.t.toNat (by omega)]
  ·rw [if_neg hc,if_neg hc]
theorem z87 {t:GTrans} (ht:ckT r t) (wx wy:List Int) (n i k:Nat) (hi:i<=wx.length) (hk:k<=wy.length) (h:wx.length - i+(wy.length - k)<n):ckL r t.st.toNat (valW t wx wy n i k):=(ztu ht (z5a t) wx wy n i k hi hk h).2
theorem zz5 {t:GTrans} (ht:ckT r t) {wx wy:List Int} {i k:Nat} (hi:i<=wx.length) (hk:k<=wy.length):ckL r t.st.toNat (tabW t wx wy i k):=z87 ht wx wy _ i k hi hk (by omega)
theorem nx_0 {l:Int} {w:List Int} {i:Nat} (h:l=0\/w[i]?=some l):nx l w i=((i+stp l:Nat):Int):=by
 unfold nx stp
 by_cases h0:l=0
 ·rw [if_pos h0,if_pos h0,Nat.add_zero]
 ·rw [if_neg h0,if_neg h0,if_pos (h.resolve_left h0)]; rfl
theorem nx_1 {l:Int} {w:List Int} {i:Nat} (h:¬ (l=0\/w[i]?=some l)):nx l w i = -1:=by
 unfold nx
 rw [if_neg fun e=>h (.inl e),if_neg fun e=>h (.inr e)]
theorem zr3 {wx wy:List Int} {i k:Nat} (f:Nat->Nat->List GW) (x:GTArc):zfo wx wy i k f x=if fitT wx wy i k x/\emF x=false then some (f (i+stp x.i) (k+stp x.o)) else none:=by
 by_cases h1:x.i=0\/wx[i]?=some x.i
 ·by_cases h2:x.o=0\/wy[k]?=some x.o
  ·have e1:=nx_0 h1
   have e2:=nx_0 h2
   have e3:emF x=false ↔ 0<stp x.i+stp x.o:=by
    unfold emF stp
    by_cases a:x.i=0<;>by_cases b:x.o=0<;>simp [a,b]
   unfold zfo
   rw [e1,e2,Int.toNat_natCast,Int.toNat_natCast]
   by_cases h3:emF x=false
   ·have:=e3.1 h3
    rw [if_pos (show 0<=((i+stp x.i:Nat):Int)/\0<=((k+stp x.o:Nat):Int)/\(i:Int)+k<((i+stp x.i:Nat):Int)+((k+stp x.o:Nat):Int) from ⟨by omega,by omega,by omega⟩),if_pos (show fitT wx wy i k x/\emF x=false from ⟨⟨h1,h2⟩,h3⟩)]
   ·rw [if_neg (show ¬ (0<=((i+stp x.i:Nat):Int)/\0<=((k+stp x.o:Nat):Int)/\(i:Int)+k<((i+stp x.i:Nat):Int)+((k+stp x.o:Nat):Int)) from fun h=>h3 (e3.2 (by have:=h.2.2; omega))),if_neg (show ¬ (fitT wx wy i k x/\emF x=false) from fun h=>h3 h.2)]
  ·rw [if_neg fun h=>h2 h.1.2]
   unfold zfo
   rw [nx_1 h2,if_neg fun h=>by have:=h.2.1; omega]
 ·rw [if_neg fun h=>h1 h.1.1]
  unfold zfo
  rw [nx_1 h1,if_neg fun h=>by have:=h.1; omega]
theorem z48 {t:GTrans} (ht:ckT r t) {wx wy:List Int} {i k:Nat} (hi:i<=wx.length) (hk:k<=wy.length) {pos:Nat->Nat} (hp:∀ x∈t.arcs,emF x=true->pos x.f.toNat<pos x.t.toNat/\pos x.t.toNat<t.st.toNat) (s:Nat) :
  gd hr (tabW t wx wy i k) s=(srG r hr).p (gd hr (zny t wx wy i k) s) ((srG r hr).sum t.arcs fun x=>if x.f.toNat=s/\fitT wx wy i k x then (srG r hr).m (cw hr x.w) (gd hr (tabW t wx wy (i+stp x.i) (k+stp x.o)) x.t.toNat) else (srG r hr).z):=by
 have hring:=ht.ring
 have hb:=zxt ht wx wy i k
 have hok:∀ x∈t.arcs,okA r t.st.toNat (zfo wx wy i k (tabW t wx wy)) x:=fun x hx=>⟨(ht.arcs x hx).1,(ht.arcs x hx).2,fun e he=>by
  obtain ⟨a,b,h1,h2,h3,h4,h5,h6,h7,h8,h9,rfl⟩:=zjz hi hk he
  exact zz5 ht h7 h8⟩
 have hrow:ckL r t.st.toNat (rowW t wx wy i k (tabW t wx wy)):=by unfold rowW; rw [hring]; exact zrp hb hok
 have hfix:=z0c hr hrow ht.arcs hp t.st.toNat s (by omega)
 have he:tabW t wx wy i k=sprN r t.arcs (rowW t wx wy i k (tabW t wx wy)) t.st.toNat:=by
  have:=z9e (t:=t) hi hk
  unfold zh9 at this
  rwa [hring] at this
 rw [zv3 hr hrow ht.arcs,<- he] at hfix
 have hr1:gd hr (rowW t wx wy i k (tabW t wx wy)) s=(srG r hr).p (gd hr (zny t wx wy i k) s) ((srG r hr).sum t.arcs (ctr hr (zfo wx wy i k (tabW t wx wy)) s)):=by
  unfold rowW
  rw [hring]; exact zvn hr s hb hok
 rw [hr1,(srG r hr).pa,<- SR.sum_add] at hfix
 rw [<- hfix]
 congr 1
 refine (srG r hr).sum_congr fun x hx=>?_
 rw [zly]
 have hcs:ctr hr (zfo wx wy i k (tabW t wx wy)) s x=if x.f.toNat=s/\fitT wx wy i k x/\emF x=false then (srG r hr).m (cw hr x.w) (gd hr (tabW t wx wy (i+stp x.i) (k+stp x.o)) x.t.toNat) else (srG r hr).z:=by
  unfold ctr
  rw [zr3]
  by_cases h1:fitT wx wy i k x/\emF x=false
  ·rw [if_pos h1]
   by_cases h2:x.f.toNat=s
   ·simp only [h2,if_true,h1,and_self,true_and]
   ·simp only [h2,if_false,false_and]
  ·rw [if_neg h1,if_neg fun h=>h1 h.2]
 rw [hcs]
 by_cases he:emF x=true
 ·rw [if_neg (fun h=>by rw [h.2.2] at he; cases he),SR.zp]
  have h0:x.i=0/\x.o=0:=by simpa [emF] using he
  have hf:fitT wx wy i k x:=⟨.inl h0.1,.inl h0.2⟩
  have e1:stp x.i=0:=by unfold stp; rw [if_pos h0.1]
  have e2:stp x.o=0:=by unfold stp; rw [if_pos h0.2]
  by_cases h2:x.f.toNat=s
  ·rw [if_pos ⟨he,h2⟩,if_pos ⟨h2,hf⟩,e1,e2,Nat.add_zero,Nat.add_zero]
  ·rw [if_neg fun h=>h2 h.2,if_neg fun h=>h2 h.1]
 ·have he':emF x=false:=by simpa using he
  rw [if_neg fun h:emF x=true/\x.f.toNat=s=>he h.1,(srG r hr).pz]
  by_cases h2:x.f.toNat=s/\fitT wx wy i k x
  ·rw [if_pos ⟨h2.1,h2.2,he'⟩,if_pos h2]
  ·rw [if_neg fun h=>h2 ⟨h.1,h.2.1⟩,if_neg h2]
end
end Go.Ab
namespace Go.Ab
section
variable {r:GRing}
def adT (r:GRing) (T:List (List GW)) (p q:Nat) (w:GW):List (List GW):=T.set p ((T.getD p []).set q (r.plus ((T.getD p []).getD q r.zero) w))
def arT (r:GRing) (wx wy:List Int) (i k q:Nat) (w:GW) (T:List (List GW)) (x:GTArc):List (List GW):=if x.f.toNat=q/\fitT wx wy i k x then adT r T ((i+stp x.i)*(wy.length+1)+(k+stp x.o)) x.t.toNat (r.times w x.w) else T
noncomputable def stT (r:GRing) (wx wy:List Int) (A:List GTArc) (i k:Nat) (T:List (List GW)) (q:Nat):List (List GW) :=
 if (T.getD (i*(wy.length+1)+k) []).getD q r.zero=r.zero then T else A.foldl (arT r wx wy i k q ((T.getD (i*(wy.length+1)+k) []).getD q r.zero)) T
noncomputable def plT (r:GRing) (wx wy:List Int) (A:List GTArc) (ord:List Nat) (i k:Nat) (T:List (List GW)):List (List GW):=ord.foldl (stT r wx wy A i k) T
noncomputable def rwT (r:GRing) (wx wy:List Int) (A:List GTArc) (ord:List Nat) (i:Nat) (T:List (List GW)) (n:Nat):List (List GW):=(List.range n).foldl (fun T k=>plT r wx wy A ord i k T) T
noncomputable def flT (r:GRing) (wx wy:List Int) (A:List GTArc) (ord:List Nat) (T:List (List GW)) (n:Nat):List (List GW):=(List.range n).foldl (fun T i=>rwT r wx wy A ord i T (wy.length+1)) T
def zcd (r:GRing) (K N:Nat) (T:List (List GW)):Prop:=T.length=K/\∀ l∈T,ckL r N l
theorem zcd.get {K N:Nat} {T:List (List GW)} (h:zcd r K N T) {p:Nat} (hp:p<K):ckL r N (T.getD p []):=by
 rw [List.getD_eq_getElem?_getD,List.getElem?_eq_getElem (by rw [h.1]; exact hp)]; exact h.2 _ (List.getElem_mem _)
variable (hr:r.ok=true)
include hr in
theorem yfv {K N:Nat} {T:List (List GW)} (h:zcd r K N T) {p q:Nat} (hp:p<K) {w:GW} (hw:w.chk r):zcd r K N (adT r T p q w):=by
 refine ⟨by unfold adT; rw [List.length_set]; exact h.1,fun l hl=>?_⟩
 have hg:=h.get hp
 rcases List.mem_or_eq_of_mem_set hl with h1|h1
 ·exact h.2 l h1
 ·rw [h1]
  refine ⟨fun v hv=>?_,by rw [List.length_set]; exact hg.2⟩
  rcases List.mem_or_eq_of_mem_set hv with h2|h2
  ·exact hg.1 v h2
  ·rw [h2]; exact zc6 (zh3 hr hg q) hw
noncomputable def Ph (K N:Nat) (β : Nat->Nat->(srG r hr).α) (T:List (List GW)):(srG r hr).α := (srG r hr).sum (List.range K) fun p=>(srG r hr).sum (List.range N) fun q=>(srG r hr).m (gd hr (T.getD p []) q) (β p q)
theorem pm {S:SR} (a b c:S.α):S.m (S.p a b) c=S.p (S.m a c) (S.m b c):=by rw [S.mc,S.mp,S.mc c a,S.mc c b]
theorem zon (S:SR) {K N p0 q0:Nat} (hp:p0<K) (hq:q0<N) (c:S.α):S.sum (List.range K) (fun p=>S.sum (List.range N) fun q=>if p=p0/\q=q0 then c else S.z)=c:=by
 rw [S.sum_congr (g:=fun p=>if p=p0 then c else S.z) fun p _=>?_]
 ·exact S.sum_delta hp fun _=>c
 ·by_cases h:p=p0
  ·simp only [h,true_and,if_true]; exact S.sum_delta hq fun _=>c
  ·simp only [h,false_and,if_false]; exact S.sum_zero _
theorem yi5 {K N:Nat} {T:List (List GW)} (h:zcd r K N T) {p q:Nat} (hp:p<K) (hq:q<N) {w:GW} (hw:w.chk r) (β : Nat->Nat->(srG r hr).α):Ph hr K N β (adT r T p q w)=(srG r hr).p (Ph hr K N β T) ((srG r hr).m (cw hr w) (β p q)):=by
 have hg:=h.get hp
 have hv:∀ p' q',gd hr ((adT r T p q w).getD p' []) q'=(srG r hr).p (gd hr (T.getD p' []) q') (if p'=p/\q'=q then cw hr w else (srG r hr).z):=fun p' q'=>by
  have hl:p<T.length:=by rw [h.1]; exact hp
  unfold adT
  by_cases e:p'=p
  ·subst e
   rw [List.getD_eq_getElem?_getD,List.getElem?_set_self hl,Option.getD_some]
   by_cases e2:q'=q
   ·subst e2
    rw [zni hr _ (by rw [hg.2]; exact hq),zvd hr (zh3 hr hg _) hw,if_pos ⟨rfl,rfl⟩]; rfl
   ·rw [zs2 hr _ (Ne.symm e2),if_neg fun h=>e2 h.2,(srG r hr).pz]
  ·rw [List.getD_eq_getElem?_getD,List.getElem?_set_ne (Ne.symm e),<- List.getD_eq_getElem?_getD,if_neg fun h=>e h.1,(srG r hr).pz]
 unfold Ph
 rw [(srG r hr).sum_congr (g:=fun p'=>(srG r hr).p ((srG r hr).sum (List.range N) fun q'=>(srG r hr).m (gd hr (T.getD p' []) q') (β p' q')) ((srG r hr).sum (List.range N) fun q'=>if p'=p/\q'=q then (srG r hr).m (cw hr w) (β p q) else (srG r hr).z)) fun p' _=>?_]
 ·rw [SR.sum_add,zon _ hp hq]
 ·rw [<- SR.sum_add]
  refine (srG r hr).sum_congr fun q' _=>?_
  rw [hv,pm]
  congr 1
  by_cases e:p'=p/\q'=q
  ·rw [if_pos e,if_pos e,e.1,e.2]
  ·rw [if_neg e,if_neg e,SR.zm]
theorem yi4 {K N p q:Nat} (hp:p<K) (hq:q<N) (T:List (List GW)) {β β':Nat->Nat->(srG r hr).α} {c:(srG r hr).α} (h:∀ p' q',p'<K->q'<N -> β p' q'=if p'=p/\q'=q then (srG r hr).p (β' p' q') c else β' p' q'):Ph hr K N β T=(srG r hr).p (Ph hr K N β' T) ((srG r hr).m (gd hr (T.getD p []) q) c):=by
 unfold Ph
 rw [(srG r hr).sum_congr (g:=fun p'=>(srG r hr).p ((srG r hr).sum (List.range N) fun q'=>(srG r hr).m (gd hr (T.getD p' []) q') (β' p' q')) ((srG r hr).sum (List.range N) fun q'=>if p'=p/\q'=q then (srG r hr).m (gd hr (T.getD p []) q) c else (srG r hr).z)) fun p' hp'=>?_]
 ·rw [SR.sum_add,zon _ hp hq]
 ·rw [<- SR.sum_add]
  refine (srG r hr).sum_congr fun q' hq'=>?_
  rw [h p' q' (List.mem_range.1 hp') (List.mem_range.1 hq')]
  by_cases e:p'=p/\q'=q
  ·rw [if_pos e,if_pos e,(srG r hr).mp,e.1,e.2]
  ·rw [if_neg e,if_neg e,(srG r hr).pz]
theorem z74 {K N:Nat} (T:List (List GW)) {β β':Nat->Nat->(srG r hr).α} (h:∀ p q,p<K->q<N -> β p q = β' p q):Ph hr K N β T=Ph hr K N β' T:=by
 unfold Ph
 refine (srG r hr).sum_congr fun p hp=>(srG r hr).sum_congr fun q hq=>?_
 rw [h p q (List.mem_range.1 hp) (List.mem_range.1 hq)]
end
section
variable {r:GRing} (hr:r.ok=true) {t:GTrans} (ht:ckT r t) {wx wy:List Int}
abbrev plN (wx wy:List Int):Nat:=(wx.length+1)*(wy.length+1)
theorem zuf {i k:Nat} (hi:i<=wx.length) (hk:k<=wy.length):i*(wy.length+1)+k<plN wx wy:=by
 have:(i+1)*(wy.length+1)<=(wx.length+1)*(wy.length+1):=Nat.mul_le_mul_right _ (by omega)
 rw [Nat.succ_mul] at this
 unfold plN; omega
theorem zxi {i k:Nat} {x:GTArc} (h:fitT wx wy i k x) (hi:i<=wx.length) (hk:k<=wy.length):i+stp x.i<=wx.length/\k+stp x.o<=wy.length:=by
 obtain ⟨h1,h2⟩:=h
 unfold stp
 constructor
 ·split
  ·omega
  ·rename_i h0
   have:=(List.getElem?_eq_some_iff.1 (h1.resolve_left h0)).1
   omega
 ·split
  ·omega
  ·rename_i h0
   have:=(List.getElem?_eq_some_iff.1 (h2.resolve_left h0)).1
   omega
include ht hr in
theorem yi3 {T:List (List GW)} (h:zcd r (plN wx wy) t.st.toNat T) {i k q:Nat} (hi:i<=wx.length) (hk:k<=wy.length) {w:GW} (hw:w.chk r) {x:GTArc} (hx:x∈t.arcs):zcd r (plN wx wy) t.st.toNat (arT r wx wy i k q w T x):=by
 unfold arT
 split
 ·rename_i hc
  have hin:=zxi hc.2 hi hk
  exact yfv hr h (zuf hin.1 hin.2) (zbq hw (ht.arcs x hx).1)
 ·exact h
theorem yfr {T:List (List GW)} (h:zcd r (plN wx wy) t.st.toNat T) {i k q:Nat} (hi:i<=wx.length) (hk:k<=wy.length) {w:GW} (hw:w.chk r) (β : Nat->Nat->(srG r hr).α) {x:GTArc} (hx:x.w.chk r/\x.fit t.st.toNat) :
  Ph hr (plN wx wy) t.st.toNat β (arT r wx wy i k q w T x)=(srG r hr).p (Ph hr (plN wx wy) t.st.toNat β T) (if x.f.toNat=q/\fitT wx wy i k x then (srG r hr).m (cw hr w) ((srG r hr).m (cw hr x.w) (β ((i+stp x.i)*(wy.length+1)+(k+stp x.o)) x.t.toNat)) else (srG r hr).z):=by
 unfold arT
 split
 ·rename_i hc
  have hin:=zxi hc.2 hi hk
  obtain ⟨a1,⟨a2,a3⟩,a4,a5⟩:=hx
  rw [yi5 hr h (zuf hin.1 hin.2) (by omega) (zbq hw a1),zre hr hw a1,(srG r hr).ma]
 ·exact ((srG r hr).pz _).symm
include ht in
theorem zvk {i k q:Nat} (hi:i<=wx.length) (hk:k<=wy.length) {w:GW} (hw:w.chk r) (β : Nat->Nat->(srG r hr).α):∀ {l:List GTArc} {T:List (List GW)},(∀ x∈l,x∈t.arcs)->zcd r (plN wx wy) t.st.toNat T ->
  zcd r (plN wx wy) t.st.toNat (l.foldl (arT r wx wy i k q w) T)/\Ph hr (plN wx wy) t.st.toNat β (l.foldl (arT r wx wy i k q w) T)=(srG r hr).p (Ph hr (plN wx wy) t.st.toNat β T) ((srG r hr).m (cw hr w) ((srG r hr).sum l fun x=>if x.f.toNat=q/\fitT wx wy i k x then (srG r hr).m (cw hr x.w) (β ((i+stp x.i)*(wy.length+1)+(k+stp x.o)) x.t.toNat) else (srG r hr).z))
 | [],T,_,h=>⟨h,by rw [SR.sum_nil,(srG r hr).mz,(srG r hr).pz]; rfl⟩
 | x::l,T,hl,h=>by
  have hx:=hl x List.mem_cons_self
  have h1:=yi3 hr ht h hi hk (q:=q) hw hx
  obtain ⟨i1,i2⟩:=zvk hi hk hw β (fun y hy=>hl y (List.mem_cons_of_mem _ hy)) h1
  refine ⟨i1,?_⟩
  rw [List.foldl_cons,i2,yfr hr h hi hk hw β (ht.arcs x hx),(srG r hr).pa,SR.sum_cons,(srG r hr).mp]
  congr 2
  split
  ·rfl
  ·rw [(srG r hr).mz]
noncomputable def coB (t:GTrans) (wx wy:List Int) (p q:Nat):(srG r hr).α := gd hr (tabW t wx wy (p / (wy.length+1)) (p % (wy.length+1))) q
noncomputable def coF (t:GTrans) (wx wy:List Int) (p q:Nat):(srG r hr).α := if p+1=plN wx wy then gd hr t.fin q else (srG r hr).z
noncomputable def co (t:GTrans) (wx wy:List Int) (p0:Nat) (pre:List Nat) (p q:Nat):(srG r hr).α := if p<p0\/(p=p0/\q∈pre) then coF hr t wx wy p q else coB hr t wx wy p q
theorem z3u {i k:Nat} (hk:k<=wy.length) (q:Nat):coB hr t wx wy (i*(wy.length+1)+k) q=gd hr (tabW t wx wy i k) q:=by
 unfold coB
 rw [Nat.mul_comm i,Nat.mul_add_div (by omega),Nat.div_eq_of_lt (show k<wy.length+1 by omega),Nat.mul_add_mod,Nat.mod_eq_of_lt (show k<wy.length+1 by omega),Nat.add_zero]
include ht in
theorem yfm {i k:Nat} (hi:i<=wx.length) (hk:k<=wy.length) (q:Nat):coF hr t wx wy (i*(wy.length+1)+k) q=gd hr (zny t wx wy i k) q:=by
 unfold coF zny
 have hiff:i*(wy.length+1)+k+1=plN wx wy ↔ i=wx.length/\k=wy.length:=by
  constructor
  ·intro h
   unfold plN at h
   rw [Nat.succ_mul] at h
   have hi2:¬ i<wx.length:=fun hlt=>by
    have:=Nat.mul_le_mul_right (wy.length+1) (Nat.succ_le_of_lt hlt)
    rw [Nat.succ_mul] at this
    omega
   have:i=wx.length:=by omega
   subst this
   omega
  ·rintro ⟨rfl,rfl⟩
   unfold plN; rw [Nat.succ_mul]; omega
 by_cases h:i=wx.length/\k=wy.length
 ·rw [if_pos (hiff.2 h),if_pos h]
 ·rw [if_neg fun h'=>h (hiff.1 h'),if_neg h,ht.ring,zxc]
end
end Go.Ab
