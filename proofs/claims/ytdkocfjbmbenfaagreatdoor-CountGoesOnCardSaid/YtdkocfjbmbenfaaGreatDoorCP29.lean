/-
Proofs for the law CountGoesOn, part 29. Conditions: none.
-/
import Derived.Test.YtdkocfjbmbenfaaGreatDoorCP27
import Derived.Test.YtdkocfjbmbenfaaGreatDoorCP24
import Derived.Test.YtdkocfjbmbenfaaGreatDoorCP28
import Derived.Test.YtdkocfjbmbenfaaGreatDoorCP22
import Derived.Test.YtdkocfjbmbenfaaGreatDoorCP25
set_option maxRecDepth 100000
set_option maxHeartbeats 4000000
set_option linter.all false
namespace Go.Ab
open Enc (enc)
def kcE (e:Ex):List PV:=[.int .i64 e.a,.int .i64 e.b,.int .i64 e.c]
theorem z2r (e:Ex):enc e=.agg (kcE e):=rfl
theorem z2o (e e':Ex):eqI (kcE e) (kcE e')=true ↔ e=e':=by
 cases e; cases e'; simp [kcE,eqI,and_assoc]
def zR:GRat:=⟨false,[],[]⟩
def zh0 (e:Ex) (L:List (Ex × GRat)):GRat:=(mget e L).getD zR
def madd (m:GMono) (L:List (Ex × GRat)):List (Ex × GRat):=mset m.e (rto ((zh0 m.e L).v+m.coef.v)) L
theorem zxo (l:List UInt32):zd9 (ens l)=true:=by
 rw [zfg]; intro v hv; obtain ⟨x,_,rfl⟩:=List.mem_map.1 hv; rfl
theorem zv0 (L:List (Ex × GRat)):zd9 (mks L)=true:=by
 rw [zfg]; intro v hv; obtain ⟨x,_,rfl⟩:=List.mem_map.1 hv; rfl
theorem zvz (L:List (Ex × GRat)):zd9 (mvs L)=true:=by
 rw [zfg]; intro v hv; obtain ⟨x,_,rfl⟩:=List.mem_map.1 hv
 show (PV.agg [.bool x.2.neg,.sl (ens x.2.num),.sl (ens x.2.den)]).nomp=true
 simp [PV.nomp,zd9,zxo]
theorem zp5 {e:Ex} (h:e.ok=true):zcm (List.replicate 3 .i64) (kcE e)=true:=by
 simp only [Ex.ok,decide_eq_true_eq] at h
 simp [kcE,zcm,List.replicate,Lit.wf,IntKind.min,IntKind.max,IntKind.signed,IntKind.bits]
 omega
theorem zog {L:List (Ex × GRat)} (h:∀ p∈L,p.1.ok=true):(mks L).all (zey (List.replicate 3 .i64))=true:=by
 simp only [List.all_eq_true]; intro v hv; obtain ⟨x,hx,rfl⟩:=List.mem_map.1 hv
 exact zp5 (h x hx)
def z3s (r:Nat) (ks' vs':List PV) (ex:Exit) (s:St) (B:Option FA):Prop:=(ex=.normal\/ex=.ret)/\(B=some (zh1 r ks' vs')\/(B=some (fzFA r)/\s.get 0=.p (.mp r ks' vs')))
theorem zzd (m:GMono) (L:List (Ex × GRat)) (hm:m.e.ok=true) (hc:m.coef.sm 1048576) (hL:∀ p∈L,p.1.ok=true/\p.2.sm 1048576) :
  SpU P F.mc (mks L) (mvs L) [enc m.e,enc m.coef] (mks (madd m L)) (mvs (madd m L)):=by
 refine SpU.of_mr c.mc (by simp) fun r=>?_
 show MR P _ _ _ _ (z3s r (mks (madd m L)) (mvs (madd m L)))
 have hm':=hm
 simp only [Ex.ok,decide_eq_true_eq] at hm'
 unfold g.mc
 refine MR.gseq ?_
 simp [go_sem]
 refine MR.gseq ?_
 simp [go_sem]
 refine zaa (zn3 m.e ⟨⟨by omega,by omega⟩,⟨by omega,by omega⟩,by omega,by omega⟩) rfl ?_
 simp [go_sem]
 refine MR.gcond (t:=true) (by simp [go_sem]; omega) (fun _=>?_) (fun h=>by cases h)
 refine MR.gregD rfl (by decide) ?_
 have hfind:=zka z2r z2o m.e L
 have hput:=zl8 z2r z2o m.e (rto ((zh0 m.e L).v+m.coef.v)) L
 have hk:=zp5 hm
 have hks:=zog fun p hp=>(hL p hp).1
 simp only [kcE,List.replicate] at hfind hk hks
 have fin:∀ s:St,s.get 9=.p (.mp r (mks L) (mvs L))->s.get 10=.p (.agg (kcE m.e))->s.get 15=.p (enc (rto ((zh0 m.e L).v+m.coef.v))) ->
   MOp P 16 ⟨none,.raw (.mapUpdate 246 (.tmp 9) (.tmp 10) (.tmp 15)),none⟩ s (some (fzFA r)) fun s B=>z3s r (mks (madd m L)) (mvs (madd m L)) .normal s B:=fun s h1 h2 h3=>by
  refine zpu (d:=none) ty.map ty.key ty.int ty.cells ty.cell ty.size h1 h2 h3 (zog fun p hp=>(hL p hp).1) (zp5 hm) ?_ ?_ ?_
  ·rw [hput]; exact zv0 _
  ·rw [hput]; exact zvz _
  ·rw [hput]; exact ⟨.inl rfl,.inl rfl⟩
 cases hg:mget m.e L with
 | none =>
  rw [hg] at hfind
  have hz:zh0 m.e L=zR:=by simp [zh0,hg]
  simp [go_sem,hfind,hk,hks]
  rw [hz] at fin
  refine zaa (zft zR m.coef ⟨by simp [zR],by simp [zR]⟩ hc) rfl ?_
  simp [go_sem]
  exact fin _ rfl rfl rfl
 | some c =>
  rw [hg] at hfind
  have hz:zh0 m.e L=c:=by simp [zh0,hg]
  rw [hz] at fin
  simp [go_sem,hfind,hk,hks]
  refine zaa (zft c m.coef (hL _ (zv5 hg)).2 hc) rfl ?_
  simp [go_sem]
  exact fin _ rfl rfl rfl
end Go.Ab
namespace Go.Ab
open Enc (enc)
attribute [local go_sem] zam Opd.slots
theorem z3q (x y:UInt64):andI .u64 x.toNat y.toNat=((x &&& y).toNat:Int):=by rw [z7a x.toNat_lt y.toNat_lt,UInt64.toNat_and]
def zbv (k:Int) (v w:GW):GW :=
 if k=1\/k=3 then .mk (rto (v.q.v*w.q.v)) 0 false 0 [] []
 else if k=2 then if v.inf=true\/w.inf=true\/1099511627776<v.cost+w.cost then .mk gr0 0 true 0 [] [] else .mk gr0 (v.cost+w.cost) false 0 [] []
 else if k=4 then .mk gr0 0 false (v.set &&& w.set) [] []
 else .mk gr0 0 false 0 (pmul v.poly w.poly) []
theorem z4d (v w:GW) (hv:v.sm 1048576) (hw:w.sm 1048576) (cv:v.chk ⟨1,[]⟩) (cw:w.chk ⟨1,[]⟩):Sp P F.ae [enc (⟨1,[]⟩:GRing),enc v,enc w] (.pure (enc (zbv 1 v w))):=by
 have hr0:(⟨1,[]⟩:GRing).ok=true:=zgv (by omega)
 have t1:v.tk ⟨1,[]⟩=v:=if_pos cv
 have t2:w.tk ⟨1,[]⟩=w:=if_pos cw
 have k1:=zaw ⟨1,[]⟩ v hv
 have k2:=zaw ⟨1,[]⟩ w hw
 rw [t1] at k1; rw [t2] at k2
 refine Sp.vz c.ae fun _=>?_
 simp [g.ae,go_sem]
 refine zaa (zbd ⟨1,[]⟩) rfl ?_
 simp [hr0,go_sem]
 refine zab k1 ?_
 simp [go_sem]
 refine zab k2 ?_
 simp [go_sem]
 refine zaa (zt0 v.q w.q hv.q hw.q) rfl ?_
 simp [zbv,go_sem]
theorem z4b (v w:GW) (hv:v.sm 1048576) (hw:w.sm 1048576) (cv:v.chk ⟨3,[]⟩) (cw:w.chk ⟨3,[]⟩):Sp P F.ae [enc (⟨3,[]⟩:GRing),enc v,enc w] (.pure (enc (zbv 3 v w))):=by
 have hr0:(⟨3,[]⟩:GRing).ok=true:=zgv (by omega)
 have t1:v.tk ⟨3,[]⟩=v:=if_pos cv
 have t2:w.tk ⟨3,[]⟩=w:=if_pos cw
 have k1:=zaw ⟨3,[]⟩ v hv
 have k2:=zaw ⟨3,[]⟩ w hw
 rw [t1] at k1; rw [t2] at k2
 refine Sp.vz c.ae fun _=>?_
 simp [g.ae,go_sem]
 refine zaa (zbd ⟨3,[]⟩) rfl ?_
 simp [hr0,go_sem]
 refine zab k1 ?_
 simp [go_sem]
 refine zab k2 ?_
 simp [go_sem]
 refine zaa (zt0 v.q w.q hv.q hw.q) rfl ?_
 simp [zbv,go_sem]
theorem z4c (v w:GW) (hv:v.sm 1048576) (hw:w.sm 1048576) (cv:v.chk ⟨2,[]⟩) (cw:w.chk ⟨2,[]⟩):Sp P F.ae [enc (⟨2,[]⟩:GRing),enc v,enc w] (.pure (enc (zbv 2 v w))):=by
 have hr0:(⟨2,[]⟩:GRing).ok=true:=zgv (by omega)
 have t1:v.tk ⟨2,[]⟩=v:=if_pos cv
 have t2:w.tk ⟨2,[]⟩=w:=if_pos cw
 have k1:=zaw ⟨2,[]⟩ v hv
 have k2:=zaw ⟨2,[]⟩ w hw
 rw [t1] at k1; rw [t2] at k2
 refine Sp.vz c.ae fun _=>?_
 simp [g.ae,go_sem]
 refine zaa (zbd ⟨2,[]⟩) rfl ?_
 simp [hr0,go_sem]
 refine zab k1 ?_
 simp [go_sem]
 refine zab k2 ?_
 simp [go_sem]
 have r1:=si2.1 (cv.2.1 (by simp))
 have r2:=si2.1 (cw.2.1 (by simp))
 have e1:IntKind.i64.wrap (v.cost+w.cost)=v.cost+w.cost:=i64w (by omega) (by omega)
 rcases Bool.eq_false_or_eq_true v.inf with h1|h1
 ·simp [zbv,h1,go_sem]
 rcases Bool.eq_false_or_eq_true w.inf with h2|h2
 ·simp [zbv,h1,h2,go_sem]
 simp [zbv,h1,h2,e1,go_sem]
 refine ⟨fun h3=>by simp [h3,go_sem],fun h3=>by simp [show ¬ 1099511627776<v.cost+w.cost by omega,go_sem]⟩
theorem z4a (v w:GW) (hv:v.sm 1048576) (hw:w.sm 1048576) (cv:v.chk ⟨4,[]⟩) (cw:w.chk ⟨4,[]⟩):Sp P F.ae [enc (⟨4,[]⟩:GRing),enc v,enc w] (.pure (enc (zbv 4 v w))):=by
 have hr0:(⟨4,[]⟩:GRing).ok=true:=zgv (by omega)
 have t1:v.tk ⟨4,[]⟩=v:=if_pos cv
 have t2:w.tk ⟨4,[]⟩=w:=if_pos cw
 have k1:=zaw ⟨4,[]⟩ v hv
 have k2:=zaw ⟨4,[]⟩ w hw
 rw [t1] at k1; rw [t2] at k2
 refine Sp.vz c.ae fun _=>?_
 simp [g.ae,go_sem]
 refine zaa (zbd ⟨4,[]⟩) rfl ?_
 simp [hr0,go_sem]
 refine zab k1 ?_
 simp [go_sem]
 refine zab k2 ?_
 simp [go_sem]
 simp [zbv,z3q,go_sem]
theorem z38 (v w:GW) (hv:v.sm 1048576) (hw:w.sm 1048576) (cv:v.chk ⟨5,[]⟩) (cw:w.chk ⟨5,[]⟩) (D D' B B':Nat) (h1:pqb D B v.poly) (h2:pqb D' B' w.poly) (hD0:D≠0) (hD0':D'≠0) (hD:D*D'<4294967296^1048576) (hB:46656*(B*B')<4294967296^1048576) (hs:psm v.poly 524288) (hs':psm w.poly 524288):Sp P F.ae [enc (⟨5,[]⟩:GRing),enc v,enc w] (.pure (enc (zbv 5 v w))):=by
 have k3:=z9t v.poly w.poly D D' B B' (zku cv) (zku cw) h1 h2 hD0 hD0' hD hB hs hs'
 clear hD hB
 have hr0:(⟨5,[]⟩:GRing).ok=true:=zgv (by omega)
 have t1:v.tk ⟨5,[]⟩=v:=if_pos cv
 have t2:w.tk ⟨5,[]⟩=w:=if_pos cw
 have k1:=zaw ⟨5,[]⟩ v hv
 have k2:=zaw ⟨5,[]⟩ w hw
 rw [t1] at k1; rw [t2] at k2
 refine Sp.vz c.ae fun _=>?_
 simp [g.ae,go_sem]
 refine zaa (zbd ⟨5,[]⟩) rfl ?_
 simp [hr0,go_sem]
 refine zab k1 ?_
 simp [go_sem]
 refine zab k2 ?_
 simp [go_sem]
 refine zaa k3 rfl ?_
 simp [zbv,go_sem]
end Go.Ab
namespace Go.Ab
open Enc (enc)
attribute [local go_sem] zam Opd.slots
structure GW.wb (D B:Nat) (w:GW):Prop where
 q:qb D B w.q.v
 p:pqb D B w.poly
end Go.Ab
namespace Go.Ab
open Enc (enc)
attribute [local go_sem] zam Opd.slots
end Go.Ab
namespace Go.Ab
open Enc (enc)
theorem ztq (q:Rat):qb q.den q.num.natAbs q:=⟨q.num,(Rat.mkRat_self q).symm,Nat.le_refl _⟩
theorem zoc {n m:Nat} (h:(lb n).length<=m):n<4294967296^m:=Nat.lt_of_lt_of_le (zh3 n) (Nat.pow_le_pow_right (by omega) h)
theorem ratb {x:GRat} {m:Nat} (hx:x.sm m) (hm:1<=m):x.v.num.natAbs<4294967296^m/\x.v.den<4294967296^m:=by
 have:=zdz hx hm
 exact ⟨zoc this.1,zoc this.2⟩
theorem zq2 (n:Nat) (a b:Nat) (ha:a<4294967296^n) (hb:b<4294967296^n):a+b<4294967296^(n+1):=by
 rw [Nat.pow_succ]
 generalize 4294967296^n=W at *
 omega
theorem zjj {x y:GRat} {m n:Nat} (hx:x.sm m) (hy:y.sm n) (hm:1<=m) (hn:1<=n):(rto (x.v+y.v)).sm (m+n+1):=by
 obtain ⟨a1,a2⟩:=ratb hx hm
 obtain ⟨b1,b2⟩:=ratb hy hn
 have h1:=zky y.v.den y.v.den_nz (ztq x.v)
 have h2:=zky x.v.den x.v.den_nz (ztq y.v)
 rw [Nat.mul_comm y.v.den] at h2
 have hD:x.v.den*y.v.den≠0:=Nat.mul_ne_zero x.v.den_nz y.v.den_nz
 have h3:=z0f h1 h2 hD
 have hpos:∀ k,0<4294967296^k:=fun k=>Nat.pow_pos (by omega)
 have c1:x.v.num.natAbs*y.v.den<4294967296^(m+n):=by
  rw [Nat.pow_add]; exact Nat.mul_lt_mul'' a1 b2
 have c2:y.v.num.natAbs*x.v.den<4294967296^(m+n):=by
  rw [Nat.pow_add,Nat.mul_comm]; exact Nat.mul_lt_mul'' a2 b1
 have c3:x.v.den*y.v.den<4294967296^(m+n):=by
  rw [Nat.pow_add]; exact Nat.mul_lt_mul'' a2 b2
 refine ycg h3 hD (Nat.lt_of_lt_of_le c3 (Nat.pow_le_pow_right (by omega) (by omega))) ?_
 exact zq2 _ _ _ c1 c2
def pden:List GMono->Nat
 | []=>1
 | m::p=>m.coef.v.den*pden p
theorem zfu (p:List GMono):pden p≠0:=by
 induction p with
 | nil=>simp [pden]
 | cons m p ih=>exact Nat.mul_ne_zero m.coef.v.den_nz ih
theorem zpl {p:List GMono} {n:Nat} (hp:psm p n) (hn:1<=n):pden p<4294967296^(n*p.length+1):=by
 induction p with
 | nil=>simp [pden]
 | cons m p ih =>
  have h1:=(ratb (hp m (by simp)) hn).2
  have h2:=ih fun x hx=>hp x (by simp [hx])
  have:n*(m::p).length+1=n+(n*p.length+1):=by simp [Nat.mul_add]; omega
  rw [this,Nat.pow_add]
  exact Nat.mul_lt_mul'' h1 h2
theorem z8x {p:List GMono} {m:GMono} (hm:m∈p) (k:Nat) (hk:k≠0):qb (pden p*k) (m.coef.v.num.natAbs*(pden p*k)) m.coef.v:=by
 induction p with
 | nil=>simp at hm
 | cons x p ih =>
  rcases List.mem_cons.1 hm with rfl|hm
  ·have h:=zky (pden p*k) (Nat.mul_ne_zero (zfu p) hk) (ztq m.coef.v)
   rw [show pden (m::p)*k=m.coef.v.den*(pden p*k) by simp [pden,Nat.mul_assoc]]
   exact zhx h (Nat.mul_le_mul_left _ (Nat.le_mul_of_pos_left _ (Nat.pos_of_ne_zero m.coef.v.den_nz)))
  ·have h:=zky x.coef.v.den x.coef.v.den_nz (ih hm)
   have e:pden (x::p)*k=pden p*k*x.coef.v.den:=by
    simp only [pden]; rw [Nat.mul_assoc,Nat.mul_comm]
   rw [e,<- Nat.mul_assoc (m.coef.v.num.natAbs)]
   exact h
theorem zkz {p:List GMono} {n k:Nat} (hv:PVal p) (hp:psm p n) (hn:1<=n) (hk:k≠0):pqb (pden p*k) (4294967296^n*(pden p*k)) p:=by
 intro e
 by_cases h:∃ m∈p,m.e=e
 ·obtain ⟨m,hm,rfl⟩:=h
  rw [zrt hv hm]
  exact zhx (z8x hm k hk) (Nat.mul_le_mul_right _ (Nat.le_of_lt (ratb (hp m hm) hn).1))
 ·rw [zhy fun m hm he=>h ⟨m,hm,he⟩]
  exact zhx (ztp _) (Nat.zero_le _)
theorem zpm {p:List GMono} (hv:PVal p) (e:Ex):pc p e=0\/∃ m∈p,pc p e=m.coef.v:=by
 by_cases h:∃ m∈p,m.e=e
 ·obtain ⟨m,hm,rfl⟩:=h; exact .inr ⟨m,hm,zrt hv hm⟩
 ·exact .inl (zhy fun m hm he=>h ⟨m,hm,he⟩)
theorem z49 (p:List GMono) (e:Ex) (q:Rat):(pput p e q).length<=p.length+1:=by
 rw [zlq]; split
 ·omega
 ·induction p with
  | nil=>simp [pins]
  | cons m p ih =>
   simp only [pins]; (repeat' split)<;>simp<;>omega
theorem zvr (p q:List GMono):(padd p q).length<=p.length+q.length:=by
 induction q generalizing p with
 | nil=>simp [padd]
 | cons m q ih =>
  have:=ih (pput p m.e m.coef.v)
  have h2:=z49 p m.e m.coef.v
  show (padd (pput p m.e m.coef.v) q).length<=_
  simp; omega
theorem zsc:gr0.v=0:=by rw [show gr0=rto 0 from zd6.symm,ze8]
theorem z9j {p q:List GMono} {m n:Nat} (hv:PVal p) (hw:PVal q) (hp:psm p m) (hq:psm q n) (hm:1<=m) (hn:1<=n):psm (padd p q) (m+n+1):=by
 intro x hx
 have hval:=zcj q hv
 have hok:=GMono.ok_iff.1 ((zan.1 hval).1 x hx)
 have h1:x.coef.v=pc p x.e+pc q x.e:=by rw [<- zrt hval hx,zfv p (zan.1 hw).1]
 rw [<- zhv hok.2.1,h1]
 have ga:∃ a:GRat,a.sm m/\a.v=pc p x.e:=by
  rcases zpm hv x.e with h|⟨y,hy,h⟩
  ·exact ⟨gr0,zgz m,by rw [zsc,h]⟩
  ·exact ⟨y.coef,hp y hy,h.symm⟩
 have gb:∃ b:GRat,b.sm n/\b.v=pc q x.e:=by
  rcases zpm hw x.e with h|⟨y,hy,h⟩
  ·exact ⟨gr0,zgz n,by rw [zsc,h]⟩
  ·exact ⟨y.coef,hq y hy,h.symm⟩
 obtain ⟨a,a1,a2⟩:=ga
 obtain ⟨b,b1,b2⟩:=gb
 rw [<- a2,<- b2]
 exact zjj a1 b1 hm hn
end Go.Ab
namespace Go.Ab
open Enc (enc)
theorem z2d (v:Value) (x:AV) (n:Nat) (M:Nat->Option Obj) (st:St) (h0:st.get 0=.nil) (h1:st.get 1=x) (h2:∀ t,st.get (t+2)=.undef) (hx:ARep ⟨M,fun _ _=>none,fun _ _=>0⟩ st x v) (t:Nat) :
  ARep ⟨M,fun _ _=>none,fun _ _=>0⟩ st (st.get t) (([.slice none 0 0,v].toArray++Array.replicate n Go.undef).getD t Go.undef):=by
 match t with
 | 0 =>
  have e:([.slice none 0 0,v].toArray++Array.replicate n Go.undef).getD 0 Go.undef=.slice none 0 0:=by simp [Array.getElem?_append]
  rw [h0,e]; exact .nil
 | 1 =>
  have e:([.slice none 0 0,v].toArray++Array.replicate n Go.undef).getD 1 Go.undef=v:=by simp [Array.getElem?_append]
  rw [h1,e]; exact hx
 | t+2=>rw [h2]; exact .undef _
theorem z57 (k:Nat) (hk:k<=1073741824):SpV P F.mf [.slice none 0 0,.int .i64 k] (.fresh 6 []):=by
 refine SpV.of_vm (st:=⟨[(0,.nil),(1,.p (.int .i64 k))],[]⟩) c.mf (by simp) rfl (fun M t=>z2d _ _ _ M _ rfl rfl (fun t=>by simp [St.get,look]) (.p _ _ (.int _ _)) t) ?_
 simp [g.mf,go_sem]
 have e0:IntKind.i64.wrap (k:Int)=k:=i64w (by omega) (by omega)
 simp only [e0]
 refine ⟨fun h=>⟨⟨by omega,by omega,by omega⟩,by omega,⟨_,Weak.trunc0 (by decide),?_⟩⟩,fun h=>⟨_,Weak.refl _,?_⟩⟩
 ·simp [look]
 ·simp [look]
theorem zfy {P:Program} {N:Nat} {st:St} {A:Option FA} {PostI:St->Option FA->Prop} (dead:List (List Nat)) {is:List Ins} (h:vm P N (fun ex s=>ex=.normal->PostI s A) [.ins is dead] st):MIns P N is st A PostI:=by
 obtain ⟨gs,s1,s2,r1,r2,r3⟩:=zc2 _ (Nat.le_refl _) h
 have h2:MIns P N (is++[]) st A PostI:=.run r1 ⟨s2,r2,r3 rfl⟩
 simpa using h2
theorem z29 (p q:List GMono) (hl:p.length+q.length<=1073741824):Sp P F.me [.sl (ens [p,q])] (.fresh 6 (ens (p++q))):=by
 refine Sp.of_mr c.me (by simp) ?_
 unfold g.me
 have e0:IntKind.i64.wrap (0+(p.length:Int))=p.length:=by rw [i64w (by omega) (by omega)]; omega
 have e1:IntKind.i64.wrap ((p.length:Int)+q.length)=((p.length+q.length:Nat):Int):=i64w (by omega) (by omega)
 have e2:IntKind.i64.wrap (p.length:Int)=p.length:=i64w (by omega) (by omega)
 generalize hP:(fun ex s (_:Option FA)=>retP [(2,none)] (RV.fresh 6 (ens (p++q))) ex s)=Post
 refine MR.gseq ?_
 simp [go_sem]
 refine MR.gseq ?_
 simp [go_sem]
 refine MR.gseq ?_
 simp [go_sem]
 refine zhr fun R hn hr hx=>?_
 simp [g.nt,go_sem,e0,e1,e2]
 refine hn _ ?_
 refine zhr fun R hn hr hx=>?_
 simp [g.nt,go_sem,e0,e1,e2]
 refine ⟨by omega,fun _=>hn _ ?_⟩
 refine zhr fun R hn hr hx=>?_
 simp [g.nt,go_sem,e0,e1,e2]
 refine hx _ _ ?_
 simp [go_sem]
 refine MR.gseq' (MR.greg (zpv 1 [[3,9,10,11]] ?_))
 simp [go_sem]
 refine MIns.cons (z1i (v:=.own 24 0 0 0) (z57 _ hl) (fun Z ys h=>?_) rfl rfl ?_)
 ·cases h with
  | cons _ _ _ _ h1 h =>
   cases h with
   | cons _ _ _ _ h2 h =>
    cases h
    cases h1
    cases h2.inv_p
    simp
 refine zfy [[24]] ?_
 simp [go_sem]
 clear hn hr hx
 subst hP
 refine MR.of_vm ?_
 simp [go_sem]
 refine zhr fun R hn hr hx=>?_
 simp [g.ny,go_sem]
 refine ⟨by omega,hn _ ?_⟩
 refine zhr fun R hn hr hx=>?_
 simp [g.ny,go_sem]
 refine ⟨by omega,hn _ ?_⟩
 refine zhr fun R hn hr hx=>?_
 simp [g.ny,go_sem]
 refine hx _ _ ?_
 simp [go_sem]
end Go.Ab
