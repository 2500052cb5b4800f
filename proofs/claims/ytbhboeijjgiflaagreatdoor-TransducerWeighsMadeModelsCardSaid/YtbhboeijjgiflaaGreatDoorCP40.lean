/-
Proofs for the law TransducerWeighsMadeModels, part 40. Conditions: none.
-/
import Derived.Test.YtbhboeijjgiflaaGreatDoorCP37
import Derived.Test.YtbhboeijjgiflaaGreatDoorCP39
set_option maxRecDepth 100000
set_option maxHeartbeats 4000000
set_option linter.all false
namespace Go.Ab
open Enc (enc)
attribute [local go_sem] zal Opd.slots
inductive GW.lt:GW->Prop
 | mk {q:GRat} {c:Int} {i:Bool} {s:UInt64} {p:List GMono} {ps:List GW}:q.sm 3->p.length<=8->ps.length<=4->psm p 2->(∀ w∈ps,GW.lt w)->GW.lt (.mk q c i s p ps)
noncomputable instance (w:GW):Decidable w.lt:=Classical.propDecidable _
structure GAuto.lt (a:GAuto):Prop where
 ring:a.ring.parts.length<=6
 ini:a.ini.length<=6/\∀ w∈a.ini,w.lt
 fin:a.fin.length<=6/\∀ w∈a.fin,w.lt
 al:a.arcs.length<=16
 arcs:∀ x∈a.arcs,x.w.lt
noncomputable instance (a:GAuto):Decidable a.lt:=Classical.propDecidable _
structure GTrans.lt (a:GTrans):Prop where
 ring:a.ring.parts.length<=6
 ini:a.ini.length<=5/\∀ w∈a.ini,w.lt
 fin:a.fin.length<=5/\∀ w∈a.fin,w.lt
 al:a.arcs.length<=12
 arcs:∀ x∈a.arcs,x.w.lt
noncomputable instance (a:GTrans):Decidable a.lt:=Classical.propDecidable _
def aw1:GW:=.mk (rto 1) 0 false 0 [] []
def ar1:GRing:=⟨1,[]⟩
theorem yco:ar1.one=aw1:=by simp[GRing.one,ar1,GRing.ok,aw1,oneW]
theorem zw8:aw1.chk ar1:=⟨rfl,fun _=>si1.2 ⟨rfl,rfl,rfl,rfl,rfl,zbc 1⟩,fun h=>by cases h⟩
theorem z6v:aw1.sm 3:=.one 1 ⟨ylq zmy.1 (by omega),ylq zmy.2 (by omega)⟩ (zm5 3) (by simp)
structure GAuto.fit (a:GAuto):Prop where
 sm:a.sm 1048576
 li:a.ini.length<=1000000
 lf:a.fin.length<=1000000
 la:a.arcs.length<=1000000
structure GTrans.fit (a:GTrans):Prop where
 sm:a.sm 1048576
 li:a.ini.length<=1000000
 lf:a.fin.length<=1000000
 la:a.arcs.length<=1000000
end Go.Ab
namespace Go.Ab
open Enc (enc)
structure GW.tiny (r:GRing) (w:GW):Prop where
 chk:w.chk r
 mb:w.mb 1
 pl:w.poly.length<=3
 ps:∀ x∈w.parts,x.poly.length<=3
theorem yah{k:Int}{w:GW}(hs:w.si k)(h:w.mb1 1)(hl:w.poly.length<=3):w.sm 3:=by
 have hq:=si_q hs;have hp:=si_p hs;cases w with
 | mk q c i s p ps =>
  have e:ps=[]:=hs.1;subst e;have h1:q.sm 3:=by
   have:=z2u (n:=3) h.q (ygg 1) (by decide) (by decide)
   rwa[show rto (GW.q (GW.mk q c i s p [])).v=q from zg7 hq]at this
  have h2:psm p 3:=zfq h.p hp (ygg 1) (by decide) (by decide);exact .mk h1 h2 hl (by simp) (by simp)
theorem GW.tiny.sm{r:GRing}{w:GW}(h:w.tiny r):w.sm 3:=by
 by_cases h6:r.kind=6
 ·obtain⟨l,e,hs⟩:=h.chk.2.2 h6;have hp:=GRing.ok_parts h.chk.1 h6;rw[e];refine .tup (by omega) fun x hx=>?_;obtain⟨i,hi,rfl⟩:=ynb.1 hx;exact yah (hs i (by omega) hi) (h.mb.ps _ hx) (h.ps _ hx)
 ·exact yah (h.chk.2.1 h6) h.mb.o h.pl
theorem zxp(m:GMono):∀ (q o:List GMono),(prow m q o).length<=o.length+q.length
 | [],o=>by simp[prow]
 | x::q,o=>by have h1:=zxp m q (pput o (m.e.add x.e) (m.coef.v*x.coef.v));have h2:=zl6 o (m.e.add x.e) (m.coef.v*x.coef.v);have e:prow m (x::q) o=prow m q (pput o (m.e.add x.e) (m.coef.v*x.coef.v)):=rfl;rw[e,yn6];omega
theorem zpq(q:Rat):(zb2 q).length<=1:=zl6 [] _ q
theorem z2y(v:Int):(ztg v).length<=3:=by
 have h0:(pput [] ⟨0,0,0⟩ (Rat.divInt (v % 5 - 2) 3)).length<=1:=zl6 [] _ _;unfold ztg;simp only;split
 ·refine ylq (zq6 _ _) ?_;have h1:=zpq (numR v);have h2:(pmul (zdl (IntKind.i64.wrap (v.tdiv 10) % 3)) (zb2 (numR v))).length<=1:=by
   unfold zdl;split
   ·have:=zxp ⟨Ex.unit (IntKind.i64.wrap (v.tdiv 10) % 3),rto 1⟩ (zb2 (numR v)) [];simp only[List.length_nil,ymm]at this;exact ylq this h1
   ·exact ymb _
  omega
 ·omega
theorem zye(k v:Int):(zgv k v).poly.length<=3:=by
 unfold zgv;split
 ·exact ymb _
 ·split
  ·split
   ·unfold GRing.zero;split<;>exact ymb _
   ·exact ymb _
  ·split
   ·exact ymb _
   ·split
    ·exact ymb _
    ·exact z2y v
theorem z8w{k:Int}(hk:1<=k/\k<=5)(v:Int):(zgv k v).parts=[]:=(zkr hk v).1.1
theorem zpz{r:GRing}(hr:r.ok=true)(v:Int):(zkq r v).tiny r:=by
 have h:=z0d hr v;refine⟨h.1,h.2,?_,fun x hx=>?_⟩
 ·unfold zkq;split
  ·exact ymb _
  ·exact zye _ _
 ·unfold zkq at hx;split at hx
  ·obtain⟨i,_,rfl⟩:=yl6.1 (show x∈zdm r.parts v r.parts.length from hx);exact zye _ _
  ·rename_i h6;have hk:=GRing.ok_kind hr h6;rw[z8w ⟨hk.1,hk.2.1⟩]at hx;cases hx
theorem z3w(k:Int)(ps:List GW):(oneW k ps).poly.length<=3:=by
 show(if k=5 then zb2 1 else[]).length<=3;split
 ·have:=zpq 1;omega
 ·exact ymb _
theorem z8k{r:GRing}(hr:r.ok=true):r.one.tiny r:=by
 have h:=z8l hr;refine⟨h.1,h.2,?_,fun x hx=>?_⟩
 ·unfold GRing.one;rw[yl0 hr];exact z3w _ _
 ·unfold GRing.one at hx;rw[yl0 hr]at hx;obtain⟨k,_,rfl⟩:=yl6.1 (show x∈r.parts.map fun k=>oneW k [] from hx);exact z3w _ _
theorem z1b{r:GRing}(hr:r.ok=true):r.zero.tiny r:=by
 refine⟨zbr hr,(z6s hr).mono (by omega),?_,fun x hx=>?_⟩
 ·unfold GRing.zero;rw[yl0 hr];exact ymb _
 ·unfold GRing.zero at hx;rw[yl0 hr]at hx;obtain⟨k,_,rfl⟩:=yl6.1 (show x∈r.parts.map zb1 from hx);exact ymb _
theorem z5e{r:GRing}(hr:r.ok=true)(l:List Int)(i:Nat)(one:Int):(endM r l i one).tiny r:=by
 unfold endM;split
 ·exact zpz hr _
 ·split
  ·exact z8k hr
  ·exact z1b hr
structure GTrans.tin (t:GTrans):Prop where
 ok:t.ok
 st:t.st<=3
 al:t.arcs.length<=7
 ini:∀ w∈t.ini,w.tiny t.ring
 fin:∀ w∈t.fin,w.tiny t.ring
 arcs:∀ x∈t.arcs,x.w.tiny t.ring
theorem zqe{r:GRing}(hr:r.ok=true)(l:List Int)(one:Int)(k:Nat):∀ w∈zfv r l one k,w.tiny r:=fun w hw=>by obtain⟨j,_,rfl⟩:=yl6.1 hw;exact z5e hr _ _ _
theorem zzl(m:GModel)(r:GRing)(i o s:Int)(hr:r.ok=true)(hi:1<=i/\i<=32)(ho:1<=o/\o<=32)(hs:1<=s/\s<=3):(zmp m r i o s).tin:=by
 have hn:1<=numN m s/\numN m s<=s:=by have h1:=you (IntKind.i64.wrap (m.st - 1)) (show s≠0 by omega);have h2:=yov (IntKind.i64.wrap (m.st - 1)) (show 0<s by omega);unfold numN;omega
 have la:(zmp m r i o s).arcs.length=min 7 (m.arcs.length / 4):=zkc ..;have hx:∀ x∈(zmp m r i o s).arcs,inT x (zmp m r i o s)/\x.w.tiny r:=fun x hx=>by
  obtain⟨j,_,rfl⟩:=yl6.1 (show x∈zlx m r i o (numN m s) (min 7 (m.arcs.length / 4)) from hx);have hw:=zpz hr (m.arcs.getD (4*j+3) 0);have g:∀ (a b:Int),0<b->0<=a % b/\a % b<b:=fun a b h=>⟨you a (by omega),yov a h⟩;have g1:=g (m.arcs.getD (4*j) 0) (numN m s) (by omega);have g2:=g (m.arcs.getD (4*j+2) 0) (numN m s) (by omega);have g3:=g (m.arcs.getD (4*j+1) 0) (i+1) (by omega);have g4:=g (m.arcs.getD (4*j+1) 0) i (by omega);have g5:=g (quoI (m.arcs.getD (4*j+1) 0) (i+1)) (o+1) (by omega);have g6:=g (quoI (m.arcs.getD (4*j+1) 0) i) o (by omega);refine⟨⟨g1.1,g1.2,g2.1,g2.2,?_,?_,?_,?_,hw.chk⟩,hw⟩
  ·show 0<=if m.em=true then _ else _
   split<;>omega
  ·show(if m.em=true then _ else _)<=i;split<;>omega
  ·show 0<=if m.em=true then _ else _
   split<;>omega
  ·show(if m.em=true then _ else _)<=o;split<;>omega
 have e1:=zqe hr m.ini 0 (numN m s).toNat;have e2:=zqe hr m.fin (numN m s - 1) (numN m s).toNat
 exact⟨⟨hr,hi,ho,by show 0<=numN m s;omega,by show numN m s<=64;omega,by show((zfv r m.ini 0 (numN m s).toNat).length:Int)=numN m s;rw[ze8];omega,
  by show((zfv r m.fin (numN m s - 1) (numN m s).toNat).length:Int)=numN m s;rw[ze8];omega,by omega,fun x h=>(hx x h).1,fun w h=>(e1 w h).chk,fun w h=>(e2 w h).chk⟩,by show numN m s<=3;omega,by omega,e1,e2,fun x h=>(hx x h).2⟩
theorem GTrans.tin.sm{t:GTrans}(h:t.tin):t.sm 3:=⟨fun w hw=>(h.ini w hw).sm,fun w hw=>(h.fin w hw).sm,fun x hx=>(h.arcs x hx).sm⟩
def GArc.fit(x:GArc)(N:Nat):Prop:=(0<=x.f/\x.f<N)/\0<=x.t/\x.t<N
structure GAuto.fits {r:GRing} (M:Meas r) (z:Nat) (a:GAuto):Prop where
 ring:a.ring=r
 st:0<=a.st/\a.st<=64
 arcs:∀ x∈a.arcs,(x.w.chk r/\M.mb z x.w)/\x.fit a.st.toNat
 ini:Go.Ab.vb M z a.ini/\a.ini.length=a.st.toNat
 fin:Go.Ab.vb M z a.fin/\a.fin.length=a.st.toNat
 rok:r.ok=true
def pl(g:Ex->Rat):List GMono->Rat
 | []=>0
 | m::p=>g m.e*m.coef.v+pl g p
theorem yfo(a b c:Rat):a+(b+c)=b+(a+c):=by rw[<- Rat.add_assoc,ynm a b,ymo]
theorem yce(g:Ex->Rat)(p:List GMono)(e:Ex)(q:Rat):pl g (pins p e q)=pl g p+g e*q:=by
 induction p with
 | nil=>simp only[pins,pl,zbf,ym6,yo1]
 | cons m p ih =>
  simp only[pins];split
  ·simp only[pl,ih,ymo]
  ·split
   ·rename_i h;split
    ·rename_i h2;simp only[pl,h];rw[ynm (g e*m.coef.v) (pl g p),ymo,<- Rat.mul_add,ynm m.coef.v q,h2,yqh,ym6]
    ·simp only[pl,h,zbf];rw[Rat.mul_add,ymo,ynm]
   ·simp only[pl,zbf];rw[ynm]
theorem z3h(g:Ex->Rat)(p:List GMono)(e:Ex)(q:Rat):pl g (pput p e q)=pl g p+if e.ok=true then g e*q else 0:=by
 rw[zhk];split
 ·rename_i h;rcases h with h|h
  ·simp[h,ym6]
  ·simp[h,yqh,ym6]
 ·rename_i h;have:e.ok=true:=by
   rcases ym0 e.ok with h'|h'
   ·exact h'
   ·exact absurd (.inl h') h
  rw[yce,yl0 this]
theorem z3i(g:Ex->Rat)(p:List GMono){q:List GMono}(hq:∀ m∈q,m.ok=true):pl g (padd p q)=pl g p+pl g q:=by
 induction q generalizing p with
 | nil=>show pl g p=_;rw[pl,ym6]
 | cons m q ih =>
  show pl g (padd (pput p m.e m.coef.v) q)=_;rw[ih _ fun x hx=>hq x (ym8 _ hx),z3h,yl0 (GMono.ok_iff.1 (hq m ymq)).1,pl,ymo]
def pind(e x:Ex):Rat:=if x=e then 1 else 0
theorem z8i(p:List GMono)(e:Ex):pc p e=pl (pind e) p:=by
 induction p with
 | nil=>rfl
 | cons m p ih =>
  simp only[pc,pl,ih,pind];split
  ·rw[Rat.one_mul]
  ·rw[ype]
def psh(g:Ex->Rat)(y x:Ex):Rat:=if (y.add x).ok=true then g (y.add x)else 0
theorem ycd(g:Ex->Rat)(m:GMono)(q:List GMono)(o:List GMono):pl g (prow m q o)=pl g o+pl (psh g m.e) q*m.coef.v:=by
 induction q generalizing o with
 | nil=>show pl g o=_;rw[pl,ype,ym6]
 | cons x q ih =>
  show pl g (prow m q (pput o (m.e.add x.e) (m.coef.v*x.coef.v)))=_;rw[ih,z3h,pl,Rat.add_mul,ymo]
  congr 2
  unfold psh;split
  ·rw[yqi m.coef.v,ypz]
  ·rw[ype,ype]
theorem zgp(g:Ex->Rat)(p q:List GMono):pl g (pmul p q)=pl (fun y=>pl (psh g y) q) p:=by
 have:∀ (p o:List GMono),pl g (p.foldl (fun o m=>prow m q o) o)=pl g o+pl (fun y=>pl (psh g y) q) p:=by
  intro p
  induction p with
  | nil=>intro o;show pl g o=_;rw[pl,ym6]
  | cons m p ih =>
   intro o;show pl g (p.foldl (fun o m=>prow m q o) (prow m q o))=_;rw[ih,ycd,pl,ymo]
 have h:=this p [];rw[pl,yo1]at h;exact h
theorem zgq{f g:Ex->Rat}{p:List GMono}(h:∀ m∈p,f m.e=g m.e):pl f p=pl g p:=by
 induction p with
 | nil=>rfl
 | cons m p ih=>simp only[pl];rw[h m ymq,ih fun x hx=>h x (ym8 _ hx)]
theorem z3k(f g:Ex->Rat)(p:List GMono):pl (fun x=>f x+g x) p=pl f p+pl g p:=by
 induction p with
 | nil=>simp only[pl,ym6]
 | cons m p ih=>simp only[pl,ih,Rat.add_mul];rw[ymo,ymo,yfo (g m.e*m.coef.v)]
theorem zxx(p:List GMono):pl (fun _=>0) p=0:=by
 induction p with
 | nil=>rfl
 | cons m p ih=>simp only[pl,ih,ype,ym6]
theorem ycf(f:Ex->Rat)(c:Rat)(p:List GMono):pl (fun x=>f x*c) p=pl f p*c:=by
 induction p with
 | nil=>simp only[pl,ype]
 | cons m p ih=>simp only[pl,ih,Rat.add_mul];rw[ypz,yqi c,<- Rat.mul_assoc]
theorem ycc(f:Ex->Ex->Rat)(p q:List GMono):pl (fun y=>pl (fun x=>f y x) q) p=pl (fun x=>pl (fun y=>f y x) p) q:=by
 induction p with
 | nil=>simp only[pl,zxx]
 | cons m p ih=>simp only[pl,ih,z3k,ycf]
theorem Ex.add_comm(x y:Ex):x.add y=y.add x:=by simp only[Ex.add,Int.add_comm]
theorem Ex.add_assoc(x y z:Ex):(x.add y).add z=x.add (y.add z):=by simp only[Ex.add,Int.add_assoc]
theorem zxs{p q p' q':List GMono}(h:∀ g,pl g (pmul p q)=pl g (pmul p' q')):pmul p q=pmul p' q':=zh9 (zbu _ _) (zbu _ _) fun e=>by rw[z8i,z8i,h]
theorem zth(p q:List GMono):pmul p q=pmul q p:=zxs fun g=>by rw[zgp,zgp];rw[show(fun y=>pl (psh g y) q)=fun y=>pl (fun x=>psh g y x) q from rfl,ycc];refine zgq fun m _=>zgq fun m' _=>?_;unfold psh;rw[Ex.add_comm]
theorem mok{m:GMono}{p:List GMono}(h:PVal p)(hm:m∈p):m.e.ok=true:=(GMono.ok_iff.1 ((zak.1 h).1 m hm)).1
theorem zz3{p q w:List GMono}(hp:PVal p)(hq:PVal q)(hw:PVal w):pmul (pmul p q) w=pmul p (pmul q w):=zxs fun g=>by
 rw[zgp,zgp,zgp];refine zgq fun a ha=>?_;rw[zgp];refine zgq fun b hb=>?_;have ka:=Ex.ok_iff.1 (mok hp ha);have kb:=Ex.ok_iff.1 (mok hq hb);unfold psh;by_cases h1:(a.e.add b.e).ok=true
 ·rw[yl0 h1];refine zgq fun c hc=>?_;have kc:=Ex.ok_iff.1 (mok hw hc);rw[Ex.add_assoc];by_cases h2:(b.e.add c.e).ok=true
  ·rw[yl0 h2]
  ·rw[yl1 h2,yl1];intro h3;refine h2 (Ex.ok_iff.2 ?_);have:=Ex.ok_iff.1 h3;simp only[Ex.add]at this ⊢;omega
 ·rw[yl1 h1];refine(zxx w).symm.trans (zgq fun c hc=>?_);have kc:=Ex.ok_iff.1 (mok hw hc);by_cases h2:(b.e.add c.e).ok=true
  ·rw[yl0 h2,yl1];intro h3;refine h1 (Ex.ok_iff.2 ?_);have:=Ex.ok_iff.1 h3;simp only[Ex.add]at this ⊢;omega
  ·rw[yl1 h2]
theorem z23{u v w:List GMono}(hv:PVal v)(hw:PVal w):pmul u (padd v w)=padd (pmul u v) (pmul u w):=by refine zh9 (zbu _ _) (zcc _ (zbu _ _)) fun e=>?_;rw[z8i,z8i,z3i _ _ (zak.1 (zbu u w)).1,zgp,zgp,zgp,<- z3k];exact zgq fun m _=>z3i _ _ (zak.1 hw).1
theorem z8a(p:List GMono):pmul p []=[]:=by rw[zth];rfl
theorem zgl{v:GW}(hv:v.si 2):0<=trop v/\trop v<=1099511627777:=by obtain⟨h1,h2,h3,h4,h5,h6,h7⟩:=si2.1 hv;unfold trop;split<;>omega
theorem zb5{v w:GW}(hv:v.si 2)(hw:w.si 2):trop (zao 2 v w)=if trop v+trop w<=1099511627776 then trop v+trop w else 1099511627777:=by
 obtain⟨h1,h2,h3,h4,h5,h6,h7⟩:=si2.1 hv;obtain⟨k1,k2,k3,k4,k5,k6,k7⟩:=si2.1 hw;unfold zao;rw[yl1 (by omega),yl0 rfl];unfold trop;have e1:∀ c:Int,(GW.mk gr0 c false 0 [] []).inf=false:=fun _=>rfl;have e2:∀ c:Int,(GW.mk gr0 c false 0 [] []).cost=c:=fun _=>rfl;have e3:(GW.mk gr0 0 true 0 [] []).inf=true:=rfl;cases hi:v.inf<;>cases hj:w.inf<;>simp[hi,hj,e3]
 ·by_cases h:v.cost+w.cost<=1099511627776
  ·rw[yl1 (show ¬ 1099511627776<v.cost+w.cost by omega),e1,e2,yl0 h];rfl
  ·rw[yl0 (show 1099511627776<v.cost+w.cost by omega),e3,yl1 h];rfl
 ·omega
 ·omega
theorem k5{k:Int}(hk:1<=k/\k<=5):k=1\/k=2\/k=3\/k=4\/k=5:=by omega
theorem zfo(v w:GW):zao 1 v w=.mk (rto (v.q.v*w.q.v)) 0 false 0 [] []:=by simp[zao]
theorem ze2(v w:GW):zao 3 v w=.mk (rto (v.q.v*w.q.v)) 0 false 0 [] []:=by simp[zao]
theorem zfn(v w:GW):zao 4 v w=.mk gr0 0 false (v.set &&& w.set) [] []:=by simp[zao]
theorem zfm(v w:GW):zao 5 v w=.mk gr0 0 false 0 (pmul v.poly w.poly) []:=by simp[zao]
theorem zmr{k:Int}(hk:1<=k/\k<=5){v w:GW}(hv:v.si k)(hw:w.si k):zao k v w=zao k w v:=by
 rcases k5 hk with rfl|rfl|rfl|rfl|rfl
 ·rw[zfo,zfo,yqi]
 ·refine zh6 (zbb hk hv hw) (zbb hk hw hv) ?_;rw[zb5 hv hw,zb5 hw hv,Int.add_comm]
 ·rw[ze2,ze2,yqi]
 ·rw[zfn,zfn,UInt64.and_comm]
 ·rw[zfm,zfm,zth]
theorem zlb{k:Int}(hk:1<=k/\k<=5){u v w:GW}(hu:u.si k)(hv:v.si k)(hw:w.si k):zao k (zao k u v) w=zao k u (zao k v w):=by
 rcases k5 hk with rfl|rfl|rfl|rfl|rfl
 ·rw[zfo,zfo,zfo,zfo];simp only[GW.q_mk,zbf,ypz]
 ·refine zh6 (zbb hk (zbb hk hu hv) hw) (zbb hk hu (zbb hk hv hw)) ?_;rw[zb5 (zbb hk hu hv) hw,zb5 hu hv,zb5 hu (zbb hk hv hw),zb5 hv hw];have:=zgl hu;have:=zgl hv;have:=zgl hw
  repeat' split
  all_goals omega
 ·rw[ze2,ze2,ze2,ze2];simp only[GW.q_mk,zbf,ypz]
 ·rw[zfn,zfn,zfn,zfn];simp only[GW.set_mk,UInt64.and_assoc]
 ·rw[zfm,zfm,zfm,zfm];simp only[GW.poly_mk];rw[zz3 (si_p hu) (si_p hv) (si_p hw)]
theorem yhs(a b c:UInt64):a &&& (b ||| c)=(a &&& b) ||| (a &&& c):=UInt64.toBitVec_inj.1 (by
 simp only[UInt64.toBitVec_and,UInt64.toBitVec_or];exact BitVec.eq_of_getLsbD_eq fun i _=>by simp only[BitVec.getLsbD_and,BitVec.getLsbD_or,Bool.and_or_distrib_left])
theorem zla{k:Int}(hk:1<=k/\k<=5){u v w:GW}(hu:u.si k)(hv:v.si k)(hw:w.si k):zao k u (zaq k v w)=zaq k (zao k u v) (zao k u w):=by
 rcases k5 hk with rfl|rfl|rfl|rfl|rfl
 ·rw[zfo,zfo,zfo];simp only[zaq,yl2,GW.q_mk,zbf,Rat.mul_add]
 ·refine zh6 (zbb hk hu (zcb hk hv hw)) (zcb hk (zbb hk hu hv) (zbb hk hu hw)) ?_;rw[zb5 hu (zcb hk hv hw),zd0 hv hw,zd0 (zbb hk hu hv) (zbb hk hu hw),zb5 hu hv,zb5 hu hw];have:=zgl hu;have:=zgl hv;have:=zgl hw
  repeat' split
  all_goals omega
 ·obtain⟨_,_,_,_,_,_,h0,_⟩:=si3.1 hu;rw[zti,zti,ze2 u v,ze2 u w];simp only[GW.q_mk,zbf];by_cases h:v.q.v<w.q.v
  ·rw[yl0 h,ze2];by_cases h2:u.q.v*v.q.v<u.q.v*w.q.v
   ·rw[yl0 h2]
   ·have h3:=yqz (Rat.le_of_lt h) h0;rw[yl1 h2,Rat.le_antisymm h3 (ynw.1 h2)]
  ·have h3:=yqz (ynw.1 h) h0;rw[yl1 h,yl1 (ynw.2 h3),ze2]
 ·rw[zfn,zfn,zfn];simp[zaq,GW.set_mk,yhs]
 ·rw[zfm,zfm,zfm];simp only[zaq,GW.poly_mk];simp[GW.poly_mk,z23 (si_p hv) (si_p hw)]
theorem zk9{k:Int}(hk:1<=k/\k<=5){v:GW}(hv:v.si k):zao k v (zb1 k)=zb1 k:=by
 rcases k5 hk with rfl|rfl|rfl|rfl|rfl
 ·rw[zfo];simp[zb1,GW.q_mk,zg9,yqh,show rto 0=gr0 from zca]
 ·refine zh6 (zbb hk hv (zh4 hk)) (zh4 hk) ?_;rw[zb5 hv (zh4 hk)];have:=zgl hv;have e:trop (zb1 2)=1099511627777:=rfl;rw[e,yl1 (by omega)]
 ·rw[ze2];simp[zb1,GW.q_mk,zg9,yqh,show rto 0=gr0 from zca]
 ·rw[zfn];simp[zb1,GW.set_mk]
 ·rw[zfm];simp[zb1,GW.poly_mk,z8a]
section
variable {r:GRing} {u v w:GW}
theorem zzp(cv:v.chk r)(cw:w.chk r):r.times v w=r.times w v:=by
 by_cases h6:r.kind=6
 ·have hp:=GRing.ok_parts cv.1 h6;obtain⟨lv,_,sv⟩:=cv.2.2 h6;obtain⟨lw,_,sw⟩:=cw.2.2 h6;simp only[GRing.times,yl0 h6]
  congr 1
  refine yof (by rw[zaz lv lw,zaz lw lv]) fun i h1 h2=>?_;have h3:i<r.parts.length:=by rw[zaz lv lw]at h1;exact h1
  rw[za9 h3 (by omega) (by omega) h1,za9 h3 (by omega) (by omega) h2];exact zmr (hp.2.2 _ (yl4 h3)) (sv i h3 (by omega)) (sw i h3 (by omega))
 ·have hk:=GRing.ok_kind cv.1 h6;simp only[GRing.times,yl1 h6];exact zmr ⟨hk.1,hk.2.1⟩ (cv.2.1 h6) (cw.2.1 h6)
theorem zu6(cu:u.chk r)(cv:v.chk r)(cw:w.chk r):r.times (r.times u v) w=r.times u (r.times v w):=by
 by_cases h6:r.kind=6
 ·have hp:=GRing.ok_parts cu.1 h6;obtain⟨lu,_,su⟩:=cu.2.2 h6;obtain⟨lv,_,sv⟩:=cv.2.2 h6;obtain⟨lw,_,sw⟩:=cw.2.2 h6;simp only[GRing.times,yl0 h6,GW.parts_mk]
  congr 1
  have luv:=zaz lu lv;have lvw:=zaz lv lw;refine yof (by rw[zaz luv lw,zaz lu lvw]) fun i h1 h2=>?_;have h3:i<r.parts.length:=by rw[zaz luv lw]at h1;exact h1
  rw[za9 h3 (by omega) (by omega) h1,za9 h3 (by omega) (by omega) h2,za9 h3 (by omega) (by omega) (by omega),za9 h3 (by omega) (by omega) (by omega)];exact zlb (hp.2.2 _ (yl4 h3)) (su i h3 (by omega)) (sv i h3 (by omega)) (sw i h3 (by omega))
 ·have hk:=GRing.ok_kind cu.1 h6;simp only[GRing.times,yl1 h6];exact zlb ⟨hk.1,hk.2.1⟩ (cu.2.1 h6) (cv.2.1 h6) (cw.2.1 h6)
theorem zzo(cu:u.chk r)(cv:v.chk r)(cw:w.chk r):r.times u (r.plus v w)=r.plus (r.times u v) (r.times u w):=by
 by_cases h6:r.kind=6
 ·have hp:=GRing.ok_parts cu.1 h6;obtain⟨lu,_,su⟩:=cu.2.2 h6;obtain⟨lv,_,sv⟩:=cv.2.2 h6;obtain⟨lw,_,sw⟩:=cw.2.2 h6;simp only[GRing.times,GRing.plus,yl0 h6,GW.parts_mk]
  congr 1
  have lvw:=zbe lv lw;have luv:=zaz lu lv;have luw:=zaz lu lw;refine yof (by rw[zaz lu lvw,zbe luv luw]) fun i h1 h2=>?_;have h3:i<r.parts.length:=by rw[zaz lu lvw]at h1;exact h1
  rw[za9 h3 (by omega) (by omega) h1,zbp h3 (by omega) (by omega) (by omega),zbp h3 (by omega) (by omega) h2,za9 h3 (by omega) (by omega) (by omega),za9 h3 (by omega) (by omega) (by omega)];exact zla (hp.2.2 _ (yl4 h3)) (su i h3 (by omega)) (sv i h3 (by omega)) (sw i h3 (by omega))
 ·have hk:=GRing.ok_kind cu.1 h6;simp only[GRing.times,GRing.plus,yl1 h6];exact zla ⟨hk.1,hk.2.1⟩ (cu.2.1 h6) (cv.2.1 h6) (cw.2.1 h6)
theorem zzn(cv:v.chk r):r.times v r.zero=r.zero:=by
 by_cases h6:r.kind=6
 ·have hp:=GRing.ok_parts cv.1 h6;obtain⟨lv,_,sv⟩:=cv.2.2 h6;have ez:r.zero=.mk gr0 0 false 0 [] (r.parts.map zb1):=by unfold GRing.zero;rw[yl0 cv.1,h6];rfl
  rw[ez];simp only[GRing.times,yl0 h6,GW.parts_mk]
  congr 1
  have lz:(r.parts.map zb1).length=r.parts.length:=ymx ..;refine yof (by rw[zaz lv lz,lz]) fun i h1 h2=>?_;have h3:i<r.parts.length:=by rw[lz]at h2;exact h2
  rw[za9 h3 (by omega) (by omega) h1,yqa];exact zk9 (hp.2.2 _ (yl4 h3)) (sv i h3 (by omega))
 ·have hk:=GRing.ok_kind cv.1 h6;have ez:r.zero=zb1 r.kind:=by unfold GRing.zero;rw[yl0 cv.1,hk.2.2];rfl
  rw[ez];simp only[GRing.times,yl1 h6];exact zk9 ⟨hk.1,hk.2.1⟩ (cv.2.1 h6)
end
structure SR where
 α : Type
 z : α
 p : α -> α -> α
 m : α -> α -> α
 pc:∀ a b,p a b=p b a
 pa:∀ a b c,p (p a b) c=p a (p b c)
 pz:∀ a,p a z=a
 mc:∀ a b,m a b=m b a
 ma:∀ a b c,m (m a b) c=m a (m b c)
 mp:∀ a b c,m a (p b c)=p (m a b) (m a c)
 mz:∀ a,m a z=z
namespace SR
variable (S:SR) {β γ : Type}
def sum(l:List β)(f : β -> S.α):S.α := l.foldr (fun x s=>S.p (f x) s) S.z
theorem zp(a:S.α):S.p S.z a=a:=by rw[S.pc,S.pz]
theorem zm(a:S.α):S.m S.z a=S.z:=by rw[S.mc,S.mz]
theorem plc(a b c:S.α):S.p a (S.p b c)=S.p b (S.p a c):=by rw[<- S.pa,S.pc a b,S.pa]
theorem sum_nil(f : β -> S.α):S.sum [] f=S.z:=rfl
theorem sum_cons(x : β)(l:List β)(f : β -> S.α):S.sum (x::l) f=S.p (f x) (S.sum l f):=rfl
theorem sum_congr{l:List β}{f g : β -> S.α}(h:∀ x∈l,f x=g x):S.sum l f=S.sum l g:=by
 induction l with
 | nil=>rfl
 | cons x l ih=>rw[sum_cons,sum_cons,h x ymq,ih fun y hy=>h y (ym8 _ hy)]
theorem zzu(l k:List β)(f : β -> S.α):S.sum (l++k) f=S.p (S.sum l f) (S.sum k f):=by
 induction l with
 | nil=>exact(S.zp _).symm
 | cons x l ih=>rw[yo0,sum_cons,sum_cons,ih,S.pa]
theorem sum_zero(l:List β):S.sum l (fun _=>S.z)=S.z:=by
 induction l with
 | nil=>rfl
 | cons x l ih=>rw[sum_cons,ih,S.pz]
theorem sum_add(l:List β)(f g : β -> S.α):S.sum l (fun x=>S.p (f x) (g x))=S.p (S.sum l f) (S.sum l g):=by
 induction l with
 | nil=>exact(S.pz _).symm
 | cons x l ih=>rw[sum_cons,sum_cons,sum_cons,ih,S.pa,S.pa,S.plc (g x)]
theorem sum_range(n:Nat)(f:Nat->S.α):S.sum (List.range (n+1)) f=S.p (S.sum (List.range n) f) (f n):=by rw[ynj,zzu,sum_cons,sum_nil,S.pz]
theorem sum_delta{n t:Nat}(h:t<n)(g:Nat->S.α):S.sum (List.range n) (fun s=>if s=t then g s else S.z)=g t:=by
 induction n with
 | zero=>omega
 | succ n ih =>
  rw[sum_range];by_cases ht:t=n
  ·subst ht;rw[yl0 rfl,S.sum_congr (g:=fun _=>S.z) fun s hs=>yl1 (by have:=ymh.1 hs;omega),sum_zero,zp]
  ·rw[ih (by omega),yl1 (by omega),S.pz]
variable (F T : β -> Nat) (L : β -> Int) (W : β -> S.α) (A:List β)
def dot(n:Nat)(v w:Nat->S.α):S.α := S.sum (List.range n) fun s=>S.m (v s) (w s)
variable {F T A}
end SR
def CW(r:GRing):Type:={w:GW // w.chk r}
def srG(r:GRing)(hr:r.ok=true):SR where
 α := CW r
 z:=⟨r.zero,zbr hr⟩
 p a b:=⟨r.plus a.1 b.1,zck a.2 b.2⟩
 m a b:=⟨r.times a.1 b.1,za8 a.2 b.2⟩
 pc a b:=yo2 (zhn a.2 b.2)
 pa a b c:=yo2 (zdr a.2 b.2 c.2)
 pz a:=yo2 (zc5 a.2)
 mc a b:=yo2 (zzp a.2 b.2)
 ma a b c:=yo2 (zu6 a.2 b.2 c.2)
 mp a b c:=yo2 (zzo a.2 b.2 c.2)
 mz a:=yo2 (zzn a.2)
section
variable {r:GRing} (hr:r.ok=true)
noncomputable def cw0(w:GW):CW r:=@dite _ (w.chk r) (Classical.propDecidable _) (fun h=>⟨w,h⟩) fun _=>⟨r.zero,zbr hr⟩
noncomputable def cw(w:GW):(srG r hr).α := cw0 hr w
theorem zj8{w:GW}(h:w.chk r):(cw hr w).1=w:=by have e:cw0 hr w=⟨w,h⟩:=dif_pos h;exact congrArg Subtype.val e
theorem zwp:cw hr r.zero=(srG r hr).z:=yo2 (zj8 hr (zbr hr))
theorem zwr{v w:GW}(hv:v.chk r)(hw:w.chk r):cw hr (r.plus v w)=(srG r hr).p (cw hr v) (cw hr w):=yo2 (by
 rw[zj8 hr (zck hv hw)];show _=r.plus (cw hr v).1 (cw hr w).1;rw[zj8 hr hv,zj8 hr hw])
theorem zsc{v w:GW}(hv:v.chk r)(hw:w.chk r):cw hr (r.times v w)=(srG r hr).m (cw hr v) (cw hr w):=yo2 (by
 rw[zj8 hr (za8 hv hw)];show _=r.times (cw hr v).1 (cw hr w).1;rw[zj8 hr hv,zj8 hr hw])
theorem yhk{v w:GW}(hv:v.chk r)(hw:w.chk r)(h:cw hr v=cw hr w):v=w:=by rw[<- zj8 hr hv,<- zj8 hr hw,h]
noncomputable def gd(l:List GW)(s:Nat):(srG r hr).α := cw hr (l.getD s r.zero)
variable {α : Type} {key : α -> List Int} {wt : α -> GW} {up : α -> α -> α} (h:List Int->(srG r hr).α)
noncomputable def hs(key : α -> List Int)(wt : α -> GW)(l:List α):(srG r hr).α := (srG r hr).sum l fun x=>(srG r hr).m (cw hr (wt x)) (h (key x))
variable (hk:∀ z y,key (up z y)=key z) (hw:∀ z y,wt (up z y)=r.plus (wt z) (wt y))
end
section
variable {r:GRing} (hr:r.ok=true)
include hr in
theorem zig{N:Nat}{l:List GW}(h:ckL r N l)(s:Nat):(l.getD s r.zero).chk r:=by
 rw[ylr];cases e:l[s]? with
 | none=>exact zbr hr
 | some w=>exact h.1 w (yny e)
theorem zyr(n s:Nat):gd hr (List.replicate n r.zero) s=(srG r hr).z:=by
 unfold gd;have:(List.replicate n r.zero).getD s r.zero=r.zero:=by rw[ylr,yr2];split<;>rfl
 rw[this,zwp]
theorem zt2{l:List GW}{i s:Nat}(v:GW)(h:i≠s):gd hr (l.set i v) s=gd hr l s:=by unfold gd;rw[ylr,yor h,<- List.getD_eq_getElem?_getD]
theorem zn2{l:List GW}{i:Nat}(v:GW)(h:i<l.length):gd hr (l.set i v) i=cw hr v:=by unfold gd;rw[ylr,ypd h];rfl
noncomputable def ctr(p:GTArc->Option (List GW))(s:Nat)(x:GTArc):(srG r hr).α := match p x with
 | some e=>if x.f.toNat=s then(srG r hr).m (cw hr x.w) (gd hr e x.t.toNat)else(srG r hr).z
 | none=>(srG r hr).z
theorem yea{N:Nat}{p:GTArc->Option (List GW)}{b:List GW}{x:GTArc}(hb:ckL r N b)(hx:okA r N p x)(s:Nat):gd hr (accS r p b x) s=(srG r hr).p (gd hr b s) (ctr hr p s x):=by
 unfold accS ctr;cases h:p x with
 | none=>exact((srG r hr).pz _).symm
 | some e =>
  obtain⟨⟨a1,a2⟩,a3,a4⟩:=hx.2.1;have he:=hx.2.2 e h;show gd hr (addW r b x e) s=(srG r hr).p (gd hr b s) (if x.f.toNat=s then _ else _);unfold addW;by_cases hs:x.f.toNat=s
  ·subst hs;rw[yl0 rfl,zn2 hr _ (by rw[hb.2];omega),zwr hr (zig hr hb _) (za8 hx.1 (zig hr he _)),zsc hr hx.1 (zig hr he _)];rfl
  ·rw[yl1 hs,zt2 hr _ hs,(srG r hr).pz]
theorem zw0{N:Nat}{p:GTArc->Option (List GW)}(s:Nat):∀ {l:List GTArc} {b:List GW},ckL r N b->(∀ x∈l,okA r N p x)->gd hr (accW r p l b) s=(srG r hr).p (gd hr b s) ((srG r hr).sum l (ctr hr p s))
 | [],b,_,_=>((srG r hr).pz _).symm
 | x::l,b,hb,h=>by have hx:=h x ymq;show gd hr (accW r p l (accS r p b x)) s=_;rw[zw0 s (zw1 hb hx) fun y hy=>h y (ym8 _ hy),yea hr hb hx,SR.sum_cons,(srG r hr).pa]
theorem z7g(t:GTrans):swap t t.inv:=⟨rfl,rfl,rfl,rfl,List.Perm.refl _⟩
theorem drop_nil{w:List Int}{i:Nat}(h:w.drop i=[])(hi:i<=w.length):i=w.length/\w[i]?=none:=by have:=List.drop_eq_nil_iff.1 h;exact⟨by omega,yn4 (by omega)⟩
theorem zwq{N:Nat}{ini row:List GW}(h1:ckL r N ini)(h2:ckL r N row):∀ n,n<=N->(sumN r ini row n).chk r/\cw hr (sumN r ini row n)=(srG r hr).sum (List.range n) fun j=>(srG r hr).m (gd hr ini j) (gd hr row j)
 | 0,_=>⟨zbr hr,zwp hr⟩
 | n+1,hn=>by
  obtain⟨i1,i2⟩:=zwq h1 h2 n (by omega);have l1:n<ini.length:=by rw[h1.2];omega
  have l2:n<row.length:=by rw[h2.2];omega
  have k1:=h1.1 _ (yl4 l1);have k2:=h2.1 _ (yl4 l2);have g1:gd hr ini n=cw hr ini[n]:=by unfold gd;rw[ylr,ylt l1];rfl
  have g2:gd hr row n=cw hr row[n]:=by unfold gd;rw[ylr,ylt l2];rfl
  rw[zjc l1 l2];exact⟨zck i1 (za8 k1 k2),by rw[zwr hr i1 (za8 k1 k2),zsc hr k1 k2,i2,SR.sum_range,g1,g2]⟩
end
def stp(l:Int):Nat:=if l=0 then 0 else 1
def fitT(wx wy:List Int)(i k:Nat)(x:GTArc):Prop:=(x.i=0\/wx[i]?=some x.i)/\(x.o=0\/wy[k]?=some x.o)
instance (wx wy:List Int) (i k:Nat) (x:GTArc):Decidable (fitT wx wy i k x):=by unfold fitT;infer_instance
section
variable {r:GRing} (hr:r.ok=true)
theorem ybq{N:Nat}{l:List GTArc}{b:List GW}(hb:ckL r N b)(h:zqk r N l)(n:Nat):ckL r N (sprN r l b n):=(zvb (l':=l.map swT) (List.Perm.refl _) hb h n).2
theorem ycu{N:Nat}{l:List GTArc}{b:List GW}(hb:ckL r N b)(h:zqk r N l)(n:Nat):∀ x∈l,okA r N (zda (sprN r l b n)) x:=fun x hx=>⟨(h x hx).1,(h x hx).2,fun e he=>by
 unfold zda at he;split at he
 ·cases he;exact ybq hb h n
 ·cases he⟩
theorem zxh{N:Nat}{l:List GTArc}{b:List GW}(hb:ckL r N b)(h:zqk r N l)(n s:Nat):gd hr (sprN r l b (n+1)) s=(srG r hr).p (gd hr b s) ((srG r hr).sum l (ctr hr (zda (sprN r l b n)) s)):=zw0 hr s hb (ycu hb h n)
theorem zmf(v:List GW)(s:Nat)(x:GTArc):ctr hr (zda v) s x=if emF x=true/\x.f.toNat=s then(srG r hr).m (cw hr x.w) (gd hr v x.t.toNat)else(srG r hr).z:=by
 unfold ctr zda;by_cases he:emF x=true
 ·simp only[he,yl2,true_and]
 ·simp only[he,yl9,false_and,ylz]
theorem z13{N:Nat}{l:List GTArc}{b:List GW}(hb:ckL r N b)(h:zqk r N l){pos:Nat->Nat}(hp:∀ x∈l,emF x=true->pos x.f.toNat<pos x.t.toNat/\pos x.t.toNat<N) :
  ∀ n s,N<=n+1+pos s->gd hr (sprN r l b (n+1)) s=gd hr (sprN r l b n) s
 | 0,s,hn=>by
  rw[zxh hr hb h,(srG r hr).sum_congr (g:=fun _=>(srG r hr).z) fun x hx=>?_,SR.sum_zero,(srG r hr).pz];rfl;rw[zmf,yl1];rintro⟨h1,rfl⟩;have:=hp x hx h1;omega
 | n+1,s,hn=>by
  rw[zxh hr hb h,zxh hr hb h n]
  congr 1
  refine(srG r hr).sum_congr fun x hx=>?_;rw[zmf,zmf];by_cases hc:emF x=true/\x.f.toNat=s
  ·rw[yl0 hc,yl0 hc];obtain⟨h1,rfl⟩:=hc;have:=hp x hx h1;rw[z13 hb h hp n x.t.toNat (by omega)]
  ·rw[yl1 hc,yl1 hc]
theorem ybd{t:GTrans}(ht:ckT r t)(wx wy:List Int)(n i k:Nat)(hi:i<=wx.length)(hk:k<=wy.length)(h:wx.length - i+(wy.length - k)<n):ckL r t.st.toNat (valW t wx wy n i k):=(zu4 ht (z7g t) wx wy n i k hi hk h).2
theorem z1x{t:GTrans}(ht:ckT r t){wx wy:List Int}{i k:Nat}(hi:i<=wx.length)(hk:k<=wy.length):ckL r t.st.toNat (tabW t wx wy i k):=ybd ht wx wy _ i k hi hk (by omega)
theorem nx_0{l:Int}{w:List Int}{i:Nat}(h:l=0\/w[i]?=some l):nx l w i=((i+stp l:Nat):Int):=by
 unfold nx stp;by_cases h0:l=0
 ·rw[yl0 h0,yl0 h0,ymw]
 ·rw[yl1 h0,yl1 h0,yl0 (h.resolve_left h0)];rfl
theorem nx_1{l:Int}{w:List Int}{i:Nat}(h:¬ (l=0\/w[i]?=some l)):nx l w i = -1:=by unfold nx;rw[yl1 fun e=>h (.inl e),yl1 fun e=>h (.inr e)]
theorem zsz{wx wy:List Int}{i k:Nat}(f:Nat->Nat->List GW)(x:GTArc):zct wx wy i k f x=if fitT wx wy i k x/\emF x=false then some (f (i+stp x.i) (k+stp x.o))else none:=by
 by_cases h1:x.i=0\/wx[i]?=some x.i
 ·by_cases h2:x.o=0\/wy[k]?=some x.o
  ·have e1:=nx_0 h1;have e2:=nx_0 h2;have e3:emF x=false ↔ 0<stp x.i+stp x.o:=by unfold emF stp;by_cases a:x.i=0<;>by_cases b:x.o=0<;>simp[a,b]
   unfold zct;rw[e1,e2,ymy,ymy];by_cases h3:emF x=false
   ·have:=e3.1 h3;rw[yl0 (show 0<=((i+stp x.i:Nat):Int)/\0<=((k+stp x.o:Nat):Int)/\(i:Int)+k<((i+stp x.i:Nat):Int)+((k+stp x.o:Nat):Int) from ⟨by omega,by omega,by omega⟩),yl0 (show fitT wx wy i k x/\emF x=false from ⟨⟨h1,h2⟩,h3⟩)]
   ·rw[yl1 (show ¬ (0<=((i+stp x.i:Nat):Int)/\0<=((k+stp x.o:Nat):Int)/\(i:Int)+k<((i+stp x.i:Nat):Int)+((k+stp x.o:Nat):Int)) from fun h=>h3 (e3.2 (by have:=h.2.2;omega))),yl1 (show ¬ (fitT wx wy i k x/\emF x=false) from fun h=>h3 h.2)]
  ·rw[yl1 fun h=>h2 h.1.2];unfold zct;rw[nx_1 h2,yl1 fun h=>by have:=h.2.1;omega]
 ·rw[yl1 fun h=>h1 h.1.1];unfold zct;rw[nx_1 h1,yl1 fun h=>by have:=h.1;omega]
theorem z7e{t:GTrans}(ht:ckT r t){wx wy:List Int}{i k:Nat}(hi:i<=wx.length)(hk:k<=wy.length){pos:Nat->Nat}(hp:∀ x∈t.arcs,emF x=true->pos x.f.toNat<pos x.t.toNat/\pos x.t.toNat<t.st.toNat)(s:Nat) :
  gd hr (tabW t wx wy i k) s=(srG r hr).p (gd hr (zev t wx wy i k) s) ((srG r hr).sum t.arcs fun x=>if x.f.toNat=s/\fitT wx wy i k x then(srG r hr).m (cw hr x.w) (gd hr (tabW t wx wy (i+stp x.i) (k+stp x.o)) x.t.toNat)else(srG r hr).z):=by
 have hring:=ht.ring;have hb:=zy8 ht wx wy i k;have hok:∀ x∈t.arcs,okA r t.st.toNat (zct wx wy i k (tabW t wx wy)) x:=fun x hx=>⟨(ht.arcs x hx).1,(ht.arcs x hx).2,fun e he=>by
  obtain⟨a,b,h1,h2,h3,h4,h5,h6,h7,h8,h9,rfl⟩:=zew hi hk he;exact z1x ht h7 h8⟩
 have hrow:ckL r t.st.toNat (rowW t wx wy i k (tabW t wx wy)):=by unfold rowW;rw[hring];exact zso hb hok
 have hfix:=z13 hr hrow ht.arcs hp t.st.toNat s (by omega);have he:tabW t wx wy i k=sprN r t.arcs (rowW t wx wy i k (tabW t wx wy)) t.st.toNat:=by
  have:=z1w (t:=t) hi hk;unfold zgf at this
  rwa[hring]at this
 rw[zxh hr hrow ht.arcs,<- he]at hfix;have hr1:gd hr (rowW t wx wy i k (tabW t wx wy)) s=(srG r hr).p (gd hr (zev t wx wy i k) s) ((srG r hr).sum t.arcs (ctr hr (zct wx wy i k (tabW t wx wy)) s)):=by unfold rowW;rw[hring];exact zw0 hr s hb hok
 rw[hr1,(srG r hr).pa,<- SR.sum_add]at hfix;rw[<- hfix]
 congr 1
 refine(srG r hr).sum_congr fun x hx=>?_;rw[zmf];have hcs:ctr hr (zct wx wy i k (tabW t wx wy)) s x=if x.f.toNat=s/\fitT wx wy i k x/\emF x=false then(srG r hr).m (cw hr x.w) (gd hr (tabW t wx wy (i+stp x.i) (k+stp x.o)) x.t.toNat)else(srG r hr).z:=by
  unfold ctr;rw[zsz];by_cases h1:fitT wx wy i k x/\emF x=false
  ·rw[yl0 h1];by_cases h2:x.f.toNat=s
   ·simp only[h2,yl2,h1,and_self,true_and]
   ·simp only[h2,yl9,false_and]
  ·rw[yl1 h1,yl1 fun h=>h1 h.2]
 rw[hcs];by_cases he:emF x=true
 ·rw[if_neg (fun h=>by rw[h.2.2]at he;cases he),SR.zp];have h0:x.i=0/\x.o=0:=by simpa[emF]using he
  have hf:fitT wx wy i k x:=⟨.inl h0.1,.inl h0.2⟩;have e1:stp x.i=0:=by unfold stp;rw[yl0 h0.1]
  have e2:stp x.o=0:=by unfold stp;rw[yl0 h0.2]
  by_cases h2:x.f.toNat=s
  ·rw[yl0 ⟨he,h2⟩,yl0 ⟨h2,hf⟩,e1,e2,ymw,ymw]
  ·rw[yl1 fun h=>h2 h.2,yl1 fun h=>h2 h.1]
 ·have he':emF x=false:=by simpa using he
  rw[yl1 fun h:emF x=true/\x.f.toNat=s=>he h.1,(srG r hr).pz];by_cases h2:x.f.toNat=s/\fitT wx wy i k x
  ·rw[yl0 ⟨h2.1,h2.2,he'⟩,yl0 h2]
  ·rw[yl1 fun h=>h2 ⟨h.1,h.2.1⟩,yl1 h2]
end
section
variable {r:GRing}
def adT(r:GRing)(T:List (List GW))(p q:Nat)(w:GW):List (List GW):=T.set p ((T.getD p []).set q (r.plus ((T.getD p []).getD q r.zero) w))
def arT(r:GRing)(wx wy:List Int)(i k q:Nat)(w:GW)(T:List (List GW))(x:GTArc):List (List GW):=if x.f.toNat=q/\fitT wx wy i k x then adT r T ((i+stp x.i)*(wy.length+1)+(k+stp x.o)) x.t.toNat (r.times w x.w)else T
noncomputable def stT(r:GRing)(wx wy:List Int)(A:List GTArc)(i k:Nat)(T:List (List GW))(q:Nat):List (List GW) :=
 if (T.getD (i*(wy.length+1)+k) []).getD q r.zero=r.zero then T else A.foldl (arT r wx wy i k q ((T.getD (i*(wy.length+1)+k) []).getD q r.zero)) T
noncomputable def plT(r:GRing)(wx wy:List Int)(A:List GTArc)(ord:List Nat)(i k:Nat)(T:List (List GW)):List (List GW):=ord.foldl (stT r wx wy A i k) T
noncomputable def rwT(r:GRing)(wx wy:List Int)(A:List GTArc)(ord:List Nat)(i:Nat)(T:List (List GW))(n:Nat):List (List GW):=(List.range n).foldl (fun T k=>plT r wx wy A ord i k T) T
noncomputable def flT(r:GRing)(wx wy:List Int)(A:List GTArc)(ord:List Nat)(T:List (List GW))(n:Nat):List (List GW):=(List.range n).foldl (fun T i=>rwT r wx wy A ord i T (wy.length+1)) T
def zcf(r:GRing)(K N:Nat)(T:List (List GW)):Prop:=T.length=K/\∀ l∈T,ckL r N l
theorem zcf.get{K N:Nat}{T:List (List GW)}(h:zcf r K N T){p:Nat}(hp:p<K):ckL r N (T.getD p []):=by rw[ylr,ylt (by rw[h.1];exact hp)];exact h.2 _ (yl4 _)
variable (hr:r.ok=true)
include hr in
theorem yhu{K N:Nat}{T:List (List GW)}(h:zcf r K N T){p q:Nat}(hp:p<K){w:GW}(hw:w.chk r):zcf r K N (adT r T p q w):=by
 refine⟨by unfold adT;rw[List.length_set];exact h.1,fun l hl=>?_⟩;have hg:=h.get hp;rcases ynp hl with h1|h1
 ·exact h.2 l h1
 ·rw[h1];refine⟨fun v hv=>?_,by rw[List.length_set];exact hg.2⟩;rcases ynp hv with h2|h2
  ·exact hg.1 v h2
  ·rw[h2];exact zck (zig hr hg q) hw
noncomputable def Ph(K N:Nat)(β : Nat->Nat->(srG r hr).α)(T:List (List GW)):(srG r hr).α := (srG r hr).sum (List.range K) fun p=>(srG r hr).sum (List.range N) fun q=>(srG r hr).m (gd hr (T.getD p []) q) (β p q)
theorem pm{S:SR}(a b c:S.α):S.m (S.p a b) c=S.p (S.m a c) (S.m b c):=by rw[S.mc,S.mp,S.mc c a,S.mc c b]
theorem zpc(S:SR){K N p0 q0:Nat}(hp:p0<K)(hq:q0<N)(c:S.α):S.sum (List.range K) (fun p=>S.sum (List.range N) fun q=>if p=p0/\q=q0 then c else S.z)=c:=by
 rw[S.sum_congr (g:=fun p=>if p=p0 then c else S.z) fun p _=>?_]
 ·exact S.sum_delta hp fun _=>c
 ·by_cases h:p=p0
  ·simp only[h,true_and,yl2];exact S.sum_delta hq fun _=>c
  ·simp only[h,false_and,yl9];exact S.sum_zero _
theorem yk4{K N:Nat}{T:List (List GW)}(h:zcf r K N T){p q:Nat}(hp:p<K)(hq:q<N){w:GW}(hw:w.chk r)(β : Nat->Nat->(srG r hr).α):Ph hr K N β (adT r T p q w)=(srG r hr).p (Ph hr K N β T) ((srG r hr).m (cw hr w) (β p q)):=by
 have hg:=h.get hp;have hv:∀ p' q',gd hr ((adT r T p q w).getD p' []) q'=(srG r hr).p (gd hr (T.getD p' []) q') (if p'=p/\q'=q then cw hr w else(srG r hr).z):=fun p' q'=>by
  have hl:p<T.length:=by rw[h.1];exact hp
  unfold adT;by_cases e:p'=p
  ·subst e;rw[ylr,ypd hl,yon];by_cases e2:q'=q
   ·subst e2;rw[zn2 hr _ (by rw[hg.2];exact hq),zwr hr (zig hr hg _) hw,yl0 ⟨rfl,rfl⟩];rfl
   ·rw[zt2 hr _ (ymc e2),yl1 fun h=>e2 h.2,(srG r hr).pz]
  ·rw[ylr,yor (ymc e),<- List.getD_eq_getElem?_getD,yl1 fun h=>e h.1,(srG r hr).pz]
 unfold Ph;rw[(srG r hr).sum_congr (g:=fun p'=>(srG r hr).p ((srG r hr).sum (List.range N) fun q'=>(srG r hr).m (gd hr (T.getD p' []) q') (β p' q')) ((srG r hr).sum (List.range N) fun q'=>if p'=p/\q'=q then(srG r hr).m (cw hr w) (β p q)else(srG r hr).z)) fun p' _=>?_]
 ·rw[SR.sum_add,zpc _ hp hq]
 ·rw[<- SR.sum_add];refine(srG r hr).sum_congr fun q' _=>?_;rw[hv,pm]
  congr 1
  by_cases e:p'=p/\q'=q
  ·rw[yl0 e,yl0 e,e.1,e.2]
  ·rw[yl1 e,yl1 e,SR.zm]
theorem yk3{K N p q:Nat}(hp:p<K)(hq:q<N)(T:List (List GW)){β β':Nat->Nat->(srG r hr).α}{c:(srG r hr).α}(h:∀ p' q',p'<K->q'<N -> β p' q'=if p'=p/\q'=q then(srG r hr).p (β' p' q') c else β' p' q'):Ph hr K N β T=(srG r hr).p (Ph hr K N β' T) ((srG r hr).m (gd hr (T.getD p []) q) c):=by
 unfold Ph;rw[(srG r hr).sum_congr (g:=fun p'=>(srG r hr).p ((srG r hr).sum (List.range N) fun q'=>(srG r hr).m (gd hr (T.getD p' []) q') (β' p' q')) ((srG r hr).sum (List.range N) fun q'=>if p'=p/\q'=q then(srG r hr).m (gd hr (T.getD p []) q) c else(srG r hr).z)) fun p' hp'=>?_]
 ·rw[SR.sum_add,zpc _ hp hq]
 ·rw[<- SR.sum_add];refine(srG r hr).sum_congr fun q' hq'=>?_;rw[h p' q' (ymh.1 hp') (ymh.1 hq')];by_cases e:p'=p/\q'=q
  ·rw[yl0 e,yl0 e,(srG r hr).mp,e.1,e.2]
  ·rw[yl1 e,yl1 e,(srG r hr).pz]
theorem yag{K N:Nat}(T:List (List GW)){β β':Nat->Nat->(srG r hr).α}(h:∀ p q,p<K->q<N -> β p q = β' p q):Ph hr K N β T=Ph hr K N β' T:=by unfold Ph;refine(srG r hr).sum_congr fun p hp=>(srG r hr).sum_congr fun q hq=>?_;rw[h p q (ymh.1 hp) (ymh.1 hq)]
end
section
variable {r:GRing} (hr:r.ok=true) {t:GTrans} (ht:ckT r t) {wx wy:List Int}
abbrev plN(wx wy:List Int):Nat:=(wx.length+1)*(wy.length+1)
theorem zvq{i k:Nat}(hi:i<=wx.length)(hk:k<=wy.length):i*(wy.length+1)+k<plN wx wy:=by have:(i+1)*(wy.length+1)<=(wx.length+1)*(wy.length+1):=ylw _ (by omega);rw[ym9]at this;unfold plN;omega
theorem zyx{i k:Nat}{x:GTArc}(h:fitT wx wy i k x)(hi:i<=wx.length)(hk:k<=wy.length):i+stp x.i<=wx.length/\k+stp x.o<=wy.length:=by
 obtain⟨h1,h2⟩:=h;unfold stp;constructor
 ·split
  ·omega
  ·rename_i h0;have:=(ynk.1 (h1.resolve_left h0)).1;omega
 ·split
  ·omega
  ·rename_i h0;have:=(ynk.1 (h2.resolve_left h0)).1;omega
include ht hr in
theorem yk2{T:List (List GW)}(h:zcf r (plN wx wy) t.st.toNat T){i k q:Nat}(hi:i<=wx.length)(hk:k<=wy.length){w:GW}(hw:w.chk r){x:GTArc}(hx:x∈t.arcs):zcf r (plN wx wy) t.st.toNat (arT r wx wy i k q w T x):=by
 unfold arT;split
 ·rename_i hc;have hin:=zyx hc.2 hi hk;exact yhu hr h (zvq hin.1 hin.2) (za8 hw (ht.arcs x hx).1)
 ·exact h
theorem yhq{T:List (List GW)}(h:zcf r (plN wx wy) t.st.toNat T){i k q:Nat}(hi:i<=wx.length)(hk:k<=wy.length){w:GW}(hw:w.chk r)(β : Nat->Nat->(srG r hr).α){x:GTArc}(hx:x.w.chk r/\x.fit t.st.toNat) :
  Ph hr (plN wx wy) t.st.toNat β (arT r wx wy i k q w T x)=(srG r hr).p (Ph hr (plN wx wy) t.st.toNat β T) (if x.f.toNat=q/\fitT wx wy i k x then(srG r hr).m (cw hr w) ((srG r hr).m (cw hr x.w) (β ((i+stp x.i)*(wy.length+1)+(k+stp x.o)) x.t.toNat))else(srG r hr).z):=by
 unfold arT;split
 ·rename_i hc;have hin:=zyx hc.2 hi hk;obtain⟨a1,⟨a2,a3⟩,a4,a5⟩:=hx;rw[yk4 hr h (zvq hin.1 hin.2) (by omega) (za8 hw a1),zsc hr hw a1,(srG r hr).ma]
 ·exact((srG r hr).pz _).symm
include ht in
theorem zwx{i k q:Nat}(hi:i<=wx.length)(hk:k<=wy.length){w:GW}(hw:w.chk r)(β : Nat->Nat->(srG r hr).α):∀ {l:List GTArc} {T:List (List GW)},(∀ x∈l,x∈t.arcs)->zcf r (plN wx wy) t.st.toNat T ->
  zcf r (plN wx wy) t.st.toNat (l.foldl (arT r wx wy i k q w) T)/\Ph hr (plN wx wy) t.st.toNat β (l.foldl (arT r wx wy i k q w) T)=(srG r hr).p (Ph hr (plN wx wy) t.st.toNat β T) ((srG r hr).m (cw hr w) ((srG r hr).sum l fun x=>if x.f.toNat=q/\fitT wx wy i k x then(srG r hr).m (cw hr x.w) (β ((i+stp x.i)*(wy.length+1)+(k+stp x.o)) x.t.toNat)else(srG r hr).z))
 | [],T,_,h=>⟨h,by rw[SR.sum_nil,(srG r hr).mz,(srG r hr).pz];rfl⟩
 | x::l,T,hl,h=>by
  have hx:=hl x ymq;have h1:=yk2 hr ht h hi hk (q:=q) hw hx;obtain⟨i1,i2⟩:=zwx hi hk hw β (fun y hy=>hl y (ym8 _ hy)) h1;refine⟨i1,?_⟩;rw[yos,i2,yhq hr h hi hk hw β (ht.arcs x hx),(srG r hr).pa,SR.sum_cons,(srG r hr).mp]
  congr 2
  split
  ·rfl
  ·rw[(srG r hr).mz]
noncomputable def coB(t:GTrans)(wx wy:List Int)(p q:Nat):(srG r hr).α := gd hr (tabW t wx wy (p / (wy.length+1)) (p % (wy.length+1))) q
noncomputable def coF(t:GTrans)(wx wy:List Int)(p q:Nat):(srG r hr).α := if p+1=plN wx wy then gd hr t.fin q else(srG r hr).z
noncomputable def co(t:GTrans)(wx wy:List Int)(p0:Nat)(pre:List Nat)(p q:Nat):(srG r hr).α := if p<p0\/(p=p0/\q∈pre)then coF hr t wx wy p q else coB hr t wx wy p q
theorem z5z{i k:Nat}(hk:k<=wy.length)(q:Nat):coB hr t wx wy (i*(wy.length+1)+k) q=gd hr (tabW t wx wy i k) q:=by unfold coB;rw[ymg i,Nat.mul_add_div (by omega),yoc (show k<wy.length+1 by omega),Nat.mul_add_mod,yn8 (show k<wy.length+1 by omega),ymw]
include ht in
theorem yhl{i k:Nat}(hi:i<=wx.length)(hk:k<=wy.length)(q:Nat):coF hr t wx wy (i*(wy.length+1)+k) q=gd hr (zev t wx wy i k) q:=by
 unfold coF zev;have hiff:i*(wy.length+1)+k+1=plN wx wy ↔ i=wx.length/\k=wy.length:=by
  constructor
  ·intro h;unfold plN at h;rw[ym9]at h;have hi2:¬ i<wx.length:=fun hlt=>by have:=ylw (wy.length+1) (ypf hlt);rw[ym9]at this;omega
   have:i=wx.length:=by omega
   subst this;omega
  ·rintro⟨rfl,rfl⟩;unfold plN;rw[ym9];omega
 by_cases h:i=wx.length/\k=wy.length
 ·rw[yl0 (hiff.2 h),yl0 h]
 ·rw[yl1 fun h'=>h (hiff.1 h'),yl1 h,ht.ring,zyr]
end
end Go.Ab
