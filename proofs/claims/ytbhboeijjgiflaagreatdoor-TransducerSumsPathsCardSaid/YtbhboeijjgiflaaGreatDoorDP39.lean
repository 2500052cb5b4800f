/-
Proofs for the law TransducerSumsPaths, part 39. Conditions: none.
-/
import Derived.Test.YtbhboeijjgiflaaGreatDoorDP38
import Derived.Test.YtbhboeijjgiflaaGreatDoorDP37
set_option maxRecDepth 100000
set_option maxHeartbeats 4000000
set_option linter.all false
namespace Go.Ab
theorem z0q{α β : Type}{f : β -> α -> β}{Pb : β -> Prop}{Qa : α -> Prop}(hp:∀ b x,Pb b->Qa x->Pb (f b x))(hc:∀ b x y,Pb b->Qa x->Qa y->f (f b x) y=f (f b y) x){l l':List α}(h:l.Perm l') :
  (∀ x∈l,Qa x)->∀ b,Pb b->l.foldl f b=l'.foldl f b:=by
 induction h with
 | nil=>intro _ b _;rfl
 | cons x _ ih=>intro hq b hb;exact ih (fun y hy=>hq y (yn9 _ hy)) _ (hp b x hb (hq x ynt))
 | swap x y l=>intro hq b hb;simp only[ype];rw[hc b y x hb (hq y ynt) (hq x (yn9 _ ynt))]
 | trans h1 _ ih1 ih2=>intro hq b hb;rw[ih1 hq b hb,ih2 (fun y hy=>hq y (h1.mem_iff.2 hy)) b hb]
section
variable {r:GRing}
def ckL(r:GRing)(N:Nat)(l:List GW):Prop:=(∀ w∈l,w.chk r)/\l.length=N
theorem zkc{N:Nat}{l:List GW}(h:ckL r N l){i:Nat}(hi:i<N):(l.getD i r.zero).chk r:=by rw[ymo,yms (by rw[h.2];exact hi)];exact h.1 _ (ym3 _)
theorem yev{N:Nat}{b e:List GW}{x:GTArc}(hb:ckL r N b)(he:ckL r N e)(hw:x.w.chk r)(hx:x.fit N):ckL r N (addW r b x e):=by
 refine⟨fun w hw'=>?_,by rw[yaj];exact hb.2⟩;obtain⟨⟨a1,a2⟩,a3,a4⟩:=hx;rcases yon hw' with h|h
 ·exact hb.1 w h
 ·rw[h];exact zbu (zkc hb (by omega)) (za9 hw (zkc he (by omega)))
theorem z6s{N:Nat}{b e e':List GW}{x y:GTArc}(hb:ckL r N b)(he:ckL r N e)(he':ckL r N e')(hwx:x.w.chk r)(hwy:y.w.chk r)(hx:x.fit N)(hy:y.fit N):addW r (addW r b x e) y e'=addW r (addW r b y e') x e:=by
 obtain⟨⟨a1,a2⟩,a3,a4⟩:=hx;obtain⟨⟨b1,b2⟩,b3,b4⟩:=hy;have c1:=za9 hwx (zkc he (i:=x.t.toNat) (by omega));have c2:=za9 hwy (zkc he' (i:=y.t.toNat) (by omega));have lb:=hb.2;unfold addW;generalize r.times x.w (e.getD x.t.toNat r.zero)=tx at *
 generalize r.times y.w (e'.getD y.t.toNat r.zero)=ty at *
 have hfx:x.f.toNat<b.length:=by omega
 have hfy:y.f.toNat<b.length:=by omega
 generalize x.f.toNat=i at *
 generalize y.f.toNat=j at *
 by_cases hij:i=j
 ·subst hij;have c0:(b.getD i r.zero).chk r:=zkc hb (by omega);have g1:∀ v:GW,(b.set i v).getD i r.zero=v:=fun v=>by rw[ymo,yqb hfx];rfl
  rw[g1,g1,List.set_set,List.set_set,zdt c0 c1 c2,zdt c0 c2 c1,zhm c1 c2]
 ·have g1:∀ v:GW,(b.set i v).getD j r.zero=b.getD j r.zero:=fun v=>by rw[ymo,ypu hij,<- List.getD_eq_getElem?_getD]
  have g2:∀ v:GW,(b.set j v).getD i r.zero=b.getD i r.zero:=fun v=>by rw[ymo,ypu (yn8 hij),<- List.getD_eq_getElem?_getD]
  rw[g1,g2,List.set_comm _ _ hij]
def okA(r:GRing)(N:Nat)(p:GTArc->Option (List GW))(x:GTArc):Prop:=x.w.chk r/\x.fit N/\∀ e,p x=some e->ckL r N e
theorem zw0{N:Nat}{p:GTArc->Option (List GW)}{b:List GW}{x:GTArc}(hb:ckL r N b)(hx:okA r N p x):ckL r N (accS r p b x):=by
 unfold accS;cases h:p x with
 | none=>exact hb
 | some e=>exact yev hb (hx.2.2 e h) hx.1 hx.2.1
theorem z6u{N:Nat}{p:GTArc->Option (List GW)}{b:List GW}{x y:GTArc}(hb:ckL r N b)(hx:okA r N p x)(hy:okA r N p y):accS r p (accS r p b x) y=accS r p (accS r p b y) x:=by
 unfold accS;cases h:p x with
 | none=>rfl
 | some e =>
  cases h':p y with
  | none=>rfl
  | some e'=>exact z6s hb (hx.2.2 e h) (hy.2.2 e' h') hx.1 hy.1 hx.2.1 hy.2.1
theorem zsr{N:Nat}{p:GTArc->Option (List GW)}:∀ {l:List GTArc} {b:List GW},ckL r N b->(∀ x∈l,okA r N p x)->ckL r N (accW r p l b)
 | [],_,hb,_=>hb
 | x::l,b,hb,h=>zsr (l:=l) (zw0 hb (h x ynt)) fun y hy=>h y (yn9 _ hy)
theorem zu1{N:Nat}{p:GTArc->Option (List GW)}{l l':List GTArc}(hl:l.Perm l'){b:List GW}(hb:ckL r N b)(h:∀ x∈l,okA r N p x):accW r p l b=accW r p l' b :=
 z0q (Pb:=ckL r N) (Qa:=okA r N p) (fun _ _=>zw0) (fun _ _ _=>z6u) hl h b hb
theorem zsq{p q:GTArc->Option (List GW)}(f:GTArc->GTArc)(hf:∀ x,(f x).f=x.f/\(f x).t=x.t/\(f x).w=x.w):∀ {l:List GTArc} {b:List GW},(∀ x∈l,p (f x)=q x)->accW r p (l.map f) b=accW r q l b
 | [],_,_=>rfl
 | x::l,b,h=>by
  show accW r p (l.map f) (accS r p b (f x))=accW r q l (accS r q b x);have:accS r p b (f x)=accS r q b x:=by
   unfold accS;rw[h x ynt];cases q x with
   | none=>rfl
   | some e =>
    obtain⟨h1,h2,h3⟩:=hf x;simp only[addW,h1,h2,h3]
  rw[this];exact zsq f hf fun y hy=>h y (yn9 _ hy)
theorem z5s(x:GTArc):emF (swT x)=emF x:=by unfold emF swT;exact Bool.and_comm _ _
def zqt(r:GRing)(N:Nat)(l:List GTArc):Prop:=∀ x∈l,x.w.chk r/\x.fit N
theorem zu9{N:Nat}{l l':List GTArc}(hl:l'.Perm (l.map swT)){b:List GW}(hb:ckL r N b)(h:zqt r N l):∀ n,sprN r l' b n=sprN r l b n/\ckL r N (sprN r l b n)
 | 0=>⟨rfl,hb⟩
 | n+1=>by
  obtain⟨ih,ik⟩:=zu9 hl hb h n;have hok:∀ x∈l,okA r N (zjx (sprN r l b n)) x:=fun x hx=>⟨(h x hx).1,(h x hx).2,fun e he=>by
   unfold zjx at he;split at he
   ·cases he;exact ik
   ·cases he⟩
  refine⟨?_,zsr hb hok⟩;show accW r (zjx (sprN r l' b n)) l' b=accW r (zjx (sprN r l b n)) l b;rw[ih];have hok':∀ x∈l',okA r N (zjx (sprN r l b n)) x:=fun x hx=>by
   obtain⟨y,hy,rfl⟩:=ym6.1 (hl.mem_iff.1 hx);refine⟨(h y hy).1,(h y hy).2,fun e he=>(hok y hy).2.2 e ?_⟩;unfold zjx at he ⊢
   rwa[z5s]at he
  rw[zu1 hl hb hok'];exact zsq swT (fun _=>⟨rfl,rfl,rfl⟩) fun x _=>by unfold zjx;rw[z5s]
theorem zxm(wx wy:List Int)(i k:Nat)(f g:Nat->Nat->List GW)(hfg:∀ a b,f b a=g a b)(x:GTArc):zfx wy wx k i f (swT x)=zfx wx wy i k g x:=by
 unfold zfx;show(if 0<=nx x.o wy k/\0<=nx x.i wx i/\(k:Int)+i<nx x.o wy k+nx x.i wx i then _ else _)=_;by_cases h:0<=nx x.i wx i/\0<=nx x.o wy k/\(i:Int)+k<nx x.i wx i+nx x.o wy k
 ·rw[ym0 h,ym0 ⟨h.2.1,h.1,by omega⟩];exact congrArg some (hfg _ _)
 ·rw[ym1 h,ym1 fun h'=>h ⟨h'.2.1,h'.1,by omega⟩]
structure swap (t u:GTrans):Prop where
 ring:u.ring=t.ring
 st:u.st=t.st
 ini:u.ini=t.ini
 fin:u.fin=t.fin
 arcs:u.arcs.Perm (t.arcs.map swT)
structure ckT (r:GRing) (t:GTrans):Prop where
 ring:t.ring=r
 rok:r.ok=true
 fin:ckL r t.st.toNat t.fin
 arcs:zqt r t.st.toNat t.arcs
theorem zzf{t:GTrans}(ht:ckT r t)(wx wy:List Int)(i k:Nat):ckL r t.st.toNat (zh3 t wx wy i k):=by
 unfold zh3;split
 ·exact ht.fin
 ·rw[ht.ring];exact⟨fun w hw=>by rw[ypv hw];exact zbd ht.rok,by simp⟩
theorem zu4{t u:GTrans}(ht:ckT r t)(hs:swap t u)(wx wy:List Int):∀ (n i k:Nat),i<=wx.length->k<=wy.length->wx.length - i+(wy.length - k)<n->valW u wy wx n k i=valW t wx wy n i k/\ckL r t.st.toNat (valW t wx wy n i k)
 | 0,_,_,_,_,h=>by omega
 | n+1,i,k,hi,hk,hn=>by
  have hr:=ht.ring;show zfu u wy wx k i (valW u wy wx n)=zfu t wx wy i k (valW t wx wy n)/\ckL r t.st.toNat (zfu t wx wy i k (valW t wx wy n));have hcong:zfu u wy wx k i (valW u wy wx n)=zfu u wy wx k i (fun b a=>valW t wx wy n a b):=zi3 hk hi fun b a h1 h2 h3 h4 h5=>(zu4 ht hs wx wy n a b h4 h3 (by omega)).1;rw[hcong];have hb:=zzf ht wx wy i k;have hbe:zh3 u wy wx k i=zh3 t wx wy i k:=by
   unfold zh3;rw[hs.ring,hs.st,hs.fin];by_cases h:i=wx.length/\k=wy.length
   ·rw[ym0 h,ym0 ⟨h.2,h.1⟩]
   ·rw[ym1 h,ym1 fun h'=>h ⟨h'.2,h'.1⟩]
  have hok:∀ x∈t.arcs,okA r t.st.toNat (zfx wx wy i k (valW t wx wy n)) x:=fun x hx=>⟨(ht.arcs x hx).1,(ht.arcs x hx).2,fun e he=>by
   obtain⟨a,b,h1,h2,h3,h4,h5,h6,h7,h8,h9,rfl⟩:=zkl hi hk he;exact(zu4 ht hs wx wy n a b h7 h8 (by omega)).2⟩
  have hok':∀ x∈u.arcs,okA r t.st.toNat (zfx wy wx k i fun b a=>valW t wx wy n a b) x:=fun x hx=>by obtain⟨y,hy,rfl⟩:=ym6.1 (hs.arcs.mem_iff.1 hx);exact⟨(hok y hy).1,(hok y hy).2.1,fun e he=>(hok y hy).2.2 e (by rwa[zxm wx wy i k _ (valW t wx wy n) fun _ _=>rfl]at he)⟩
  have hrow:rowW u wy wx k i (fun b a=>valW t wx wy n a b)=rowW t wx wy i k (valW t wx wy n):=by unfold rowW;rw[hbe,hs.ring,hr,zu1 hs.arcs hb hok'];exact zsq swT (fun _=>⟨rfl,rfl,rfl⟩) fun x _=>zxm wx wy i k _ _ (fun _ _=>rfl) x
  have hrc:ckL r t.st.toNat (rowW t wx wy i k (valW t wx wy n)):=by unfold rowW;rw[hr];exact zsr hb hok
  unfold zfu;rw[hrow,hs.ring,hs.st,hr];exact zu9 hs.arcs hrc ht.arcs _
end
section
variable {α : Type} {key : α -> List Int} {wt : α -> GW} {r:GRing}
end
theorem yhf{t:GTrans}(ok:t.ok):t.nf.nf=t.nf:=by have hc:∀ x∈t.arcs,x.w.chk t.ring:=fun x hx=>(ok.arcs x hx).2.2.2.2.2.2.2.2;obtain⟨b1,b2,b3⟩:=zs9 ok.ring hc;have e:tidT t.ring (tidT t.ring t.arcs)=tidT t.ring t.arcs:=ybw (key:=GTArc.key) (wt:=GTArc.w) (up:=upT t.ring) ok.ring (fun _ _=>rfl) (fun _ _=>rfl) (fun x y h h'=>z7g.2 ⟨h,h'⟩) (fun x hx=>(b2 x hx).1) hc b3;cases t;simp only[GTrans.nf]at e ⊢;rw[e]
end Go.Ab
namespace Go.Ab
open Enc (enc)
attribute [local go_sem] zal Opd.slots
inductive GW.lt:GW->Prop
 | mk {q:GRat} {c:Int} {i:Bool} {s:UInt64} {p:List GMono} {ps:List GW}:q.sm 3->p.length<=8->ps.length<=4->psm p 2->(∀ w∈ps,GW.lt w)->GW.lt (.mk q c i s p ps)
noncomputable instance (w:GW):Decidable w.lt:=Classical.propDecidable _
structure GAuto.lt (a:GAuto):Prop where
 ring:a.ring.parts.length<=6
 ini:a.ini.length<=6/\∀ w∈a.ini,w.lt
 fin:a.fin.length<=6/\∀ w∈a.fin,w.lt
 al:a.arcs.length<=16
 arcs:∀ x∈a.arcs,x.w.lt
noncomputable instance (a:GAuto):Decidable a.lt:=Classical.propDecidable _
structure GTrans.lt (a:GTrans):Prop where
 ring:a.ring.parts.length<=6
 ini:a.ini.length<=5/\∀ w∈a.ini,w.lt
 fin:a.fin.length<=5/\∀ w∈a.fin,w.lt
 al:a.arcs.length<=12
 arcs:∀ x∈a.arcs,x.w.lt
noncomputable instance (a:GTrans):Decidable a.lt:=Classical.propDecidable _
def aw1:GW:=.mk (rto 1) 0 false 0 [] []
def ar1:GRing:=⟨1,[]⟩
theorem ydd:ar1.one=aw1:=by simp[GRing.one,ar1,GRing.ok,aw1,oneW]
theorem zw7:aw1.chk ar1:=⟨rfl,fun _=>si1.2 ⟨rfl,rfl,rfl,rfl,rfl,zbf 1⟩,fun h=>by cases h⟩
theorem z63:aw1.sm 3:=.one 1 ⟨ymm zm9.1 (by omega),ymm zm9.2 (by omega)⟩ (zne 3) (by simp)
structure GAuto.fit (a:GAuto):Prop where
 sm:a.sm 1048576
 li:a.ini.length<=1000000
 lf:a.fin.length<=1000000
 la:a.arcs.length<=1000000
structure GTrans.fit (a:GTrans):Prop where
 sm:a.sm 1048576
 li:a.ini.length<=1000000
 lf:a.fin.length<=1000000
 la:a.arcs.length<=1000000
end Go.Ab
namespace Go.Ab
open Enc (enc)
structure GW.tiny (r:GRing) (w:GW):Prop where
 chk:w.chk r
 mb:w.mb 1
 pl:w.poly.length<=3
 ps:∀ x∈w.parts,x.poly.length<=3
theorem yaq{k:Int}{w:GW}(hs:w.si k)(h:w.mb1 1)(hl:w.poly.length<=3):w.sm 3:=by
 have hq:=si_q hs;have hp:=si_p hs;cases w with
 | mk q c i s p ps =>
  have e:ps=[]:=hs.1;subst e;have h1:q.sm 3:=by
   have:=zvj (n:=3) h.q (zrr 1) (by decide) (by decide)
   rwa[show rto (GW.q (GW.mk q c i s p [])).v=q from zf0 hq]at this
  have h2:psm p 3:=zee h.p hp (zrr 1) (by decide) (by decide);exact .mk h1 h2 hl (by simp) (by simp)
theorem GW.tiny.sm{r:GRing}{w:GW}(h:w.tiny r):w.sm 3:=by
 by_cases h6:r.kind=6
 ·obtain⟨l,e,hs⟩:=h.chk.2.2 h6;have hp:=GRing.ok_parts h.chk.1 h6;rw[e];refine .tup (by omega) fun x hx=>?_;obtain⟨i,hi,rfl⟩:=yo7.1 hx;exact yaq (hs i (by omega) hi) (h.mb.ps _ hx) (h.ps _ hx)
 ·exact yaq (h.chk.2.1 h6) h.mb.o h.pl
theorem zq6(m:GMono):∀ (q o:List GMono),(prow m q o).length<=o.length+q.length
 | [],o=>by simp[prow]
 | x::q,o=>by have h1:=zq6 m q (pput o (m.e.add x.e) (m.coef.v*x.coef.v));have h2:=zmg o (m.e.add x.e) (m.coef.v*x.coef.v);have e:prow m (x::q) o=prow m q (pput o (m.e.add x.e) (m.coef.v*x.coef.v)):=rfl;rw[e,yo8];omega
theorem zpx(q:Rat):(zb6 q).length<=1:=zmg [] _ q
theorem z27(v:Int):(ztt v).length<=3:=by
 have h0:(pput [] ⟨0,0,0⟩ (Rat.divInt (v % 5 - 2) 3)).length<=1:=zmg [] _ _;unfold ztt;simp only;split
 ·refine ymm (zmi _ _) ?_;have h1:=zpx (numR v);have h2:(pmul (zdo (IntKind.i64.wrap (v.tdiv 10) % 3)) (zb6 (numR v))).length<=1:=by
   unfold zdo;split
   ·have:=zq6 ⟨Ex.unit (IntKind.i64.wrap (v.tdiv 10) % 3),rto 1⟩ (zb6 (numR v)) [];simp only[List.length_nil,yn6]at this;exact ymm this h1
   ·exact ymv _
  omega
 ·omega
theorem zym(k v:Int):(zgu k v).poly.length<=3:=by
 unfold zgu;split
 ·exact ymv _
 ·split
  ·split
   ·unfold GRing.zero;split<;>exact ymv _
   ·exact ymv _
  ·split
   ·exact ymv _
   ·split
    ·exact ymv _
    ·exact z27 v
theorem z8z{k:Int}(hk:1<=k/\k<=5)(v:Int):(zgu k v).parts=[]:=(zkx hk v).1.1
theorem zp7{r:GRing}(hr:r.ok=true)(v:Int):(zkw r v).tiny r:=by
 have h:=z0m hr v;refine⟨h.1,h.2,?_,fun x hx=>?_⟩
 ·unfold zkw;split
  ·exact ymv _
  ·exact zym _ _
 ·unfold zkw at hx;split at hx
  ·obtain⟨i,_,rfl⟩:=ym6.1 (show x∈zdp r.parts v r.parts.length from hx);exact zym _ _
  ·rename_i h6;have hk:=GRing.ok_kind hr h6;rw[z8z ⟨hk.1,hk.2.1⟩]at hx;cases hx
theorem z34(k:Int)(ps:List GW):(oneW k ps).poly.length<=3:=by
 show(if k=5 then zb6 1 else[]).length<=3;split
 ·have:=zpx 1;omega
 ·exact ymv _
theorem z8o{r:GRing}(hr:r.ok=true):r.one.tiny r:=by
 have h:=z8p hr;refine⟨h.1,h.2,?_,fun x hx=>?_⟩
 ·unfold GRing.one;rw[ym0 hr];exact z34 _ _
 ·unfold GRing.one at hx;rw[ym0 hr]at hx;obtain⟨k,_,rfl⟩:=ym6.1 (show x∈r.parts.map fun k=>oneW k [] from hx);exact z34 _ _
theorem zss{r:GRing}(hr:r.ok=true):r.zero.tiny r:=by
 refine⟨zbd hr,(zw1 hr).mono (by omega),?_,fun x hx=>?_⟩
 ·unfold GRing.zero;rw[ym0 hr];exact ymv _
 ·unfold GRing.zero at hx;rw[ym0 hr]at hx;obtain⟨k,_,rfl⟩:=ym6.1 (show x∈r.parts.map zb3 from hx);exact ymv _
theorem z5o{r:GRing}(hr:r.ok=true)(l:List Int)(i:Nat)(one:Int):(endM r l i one).tiny r:=by
 unfold endM;split
 ·exact zp7 hr _
 ·split
  ·exact z8o hr
  ·exact zss hr
structure GTrans.tin (t:GTrans):Prop where
 ok:t.ok
 st:t.st<=3
 al:t.arcs.length<=7
 ini:∀ w∈t.ini,w.tiny t.ring
 fin:∀ w∈t.fin,w.tiny t.ring
 arcs:∀ x∈t.arcs,x.w.tiny t.ring
theorem zqm{r:GRing}(hr:r.ok=true)(l:List Int)(one:Int)(k:Nat):∀ w∈zfs r l one k,w.tiny r:=fun w hw=>by obtain⟨j,_,rfl⟩:=ym6.1 hw;exact z5o hr _ _ _
theorem zzq(m:GModel)(r:GRing)(i o s:Int)(hr:r.ok=true)(hi:1<=i/\i<=32)(ho:1<=o/\o<=32)(hs:1<=s/\s<=3):(zin m r i o s).tin:=by
 have hn:1<=numN m s/\numN m s<=s:=by have h1:=ypg (IntKind.i64.wrap (m.st - 1)) (show s≠0 by omega);have h2:=yph (IntKind.i64.wrap (m.st - 1)) (show 0<s by omega);unfold numN;omega
 have la:(zin m r i o s).arcs.length=min 7 (m.arcs.length / 4):=zkf ..;have hx:∀ x∈(zin m r i o s).arcs,inT x (zin m r i o s)/\x.w.tiny r:=fun x hx=>by
  obtain⟨j,_,rfl⟩:=ym6.1 (show x∈zl6 m r i o (numN m s) (min 7 (m.arcs.length / 4)) from hx);have hw:=zp7 hr (m.arcs.getD (4*j+3) 0);have g:∀ (a b:Int),0<b->0<=a % b/\a % b<b:=fun a b h=>⟨ypg a (by omega),yph a h⟩;have g1:=g (m.arcs.getD (4*j) 0) (numN m s) (by omega);have g2:=g (m.arcs.getD (4*j+2) 0) (numN m s) (by omega);have g3:=g (m.arcs.getD (4*j+1) 0) (i+1) (by omega);have g4:=g (m.arcs.getD (4*j+1) 0) i (by omega);have g5:=g (quoI (m.arcs.getD (4*j+1) 0) (i+1)) (o+1) (by omega);have g6:=g (quoI (m.arcs.getD (4*j+1) 0) i) o (by omega);refine⟨⟨g1.1,g1.2,g2.1,g2.2,?_,?_,?_,?_,hw.chk⟩,hw⟩
  ·show 0<=if m.em=true then _ else _
   split<;>omega
  ·show(if m.em=true then _ else _)<=i;split<;>omega
  ·show 0<=if m.em=true then _ else _
   split<;>omega
  ·show(if m.em=true then _ else _)<=o;split<;>omega
 have e1:=zqm hr m.ini 0 (numN m s).toNat;have e2:=zqm hr m.fin (numN m s - 1) (numN m s).toNat
 exact⟨⟨hr,hi,ho,by show 0<=numN m s;omega,by show numN m s<=64;omega,by show((zfs r m.ini 0 (numN m s).toNat).length:Int)=numN m s;rw[ze6];omega,
  by show((zfs r m.fin (numN m s - 1) (numN m s).toNat).length:Int)=numN m s;rw[ze6];omega,by omega,fun x h=>(hx x h).1,fun w h=>(e1 w h).chk,fun w h=>(e2 w h).chk⟩,by show numN m s<=3;omega,by omega,e1,e2,fun x h=>(hx x h).2⟩
theorem GTrans.tin.sm{t:GTrans}(h:t.tin):t.sm 3:=⟨fun w hw=>(h.ini w hw).sm,fun w hw=>(h.fin w hw).sm,fun x hx=>(h.arcs x hx).sm⟩
theorem z7f{r:GRing}{n:Nat}(hn1:1<=n){l:List GTArc}(h:∀ x∈l,x.w.sm n/\x.w.chk r):∀ x∈tidT r l,x.w.sm ((l.length+1)*(n+1)):=fun x hx=>by have hs:=zb4 (key:=GTArc.key) l;have iv:=zs8 (r:=r) hn1 (fun x hx=>h x ((hs.2.2 x).1 hx)) _ (ym8 _);rw[ymq (ym8 _),hs.2.1]at iv;exact(iv.2 x (yo9.1 hx).1).1
theorem yby{r:GRing}{n:Nat}{l:List GTArc}(h:∀ x∈l,x.w.mb n/\x.w.chk r):∀ x∈tidT r l,x.w.mb (l.length+n):=fun x hx=>by
 have hs:=zb4 (key:=GTArc.key) l;have h':∀ x∈srt GTArc.key l,x.w.mb n/\x.w.chk r:=fun x hx=>h x ((hs.2.2 x).1 hx)
 have iv:=zkv (key:=GTArc.key) (up:=upT r) (nw:=id) (Q:=fun k x=>x.w.mb (k+n)/\x.w.chk r) (fun k x hx=>⟨hx.1.mono (by omega),hx.2⟩) (l:=srt GTArc.key l) (fun x hx=>⟨(h' x hx).1.mono (by show n<=0+n;omega),(h' x hx).2⟩)
  (fun k z x hx hz=>⟨by have:=z3f hz.2 (h' x hx).2 hz.1 ((h' x hx).1.mono (by omega));exact this.mono (by omega),(zbu hz.2 (h' x hx).2:(r.plus z.w x.w).chk r)⟩) (fun k x hx=>⟨hx.1.mono (by omega),hx.2⟩) _ (ym8 _)
 rw[ymq (ym8 _),hs.2.1]at iv;exact(iv.2 x (yo9.1 hx).1).1
theorem GTrans.tin.nf_sm{t:GTrans}(h:t.tin):t.nf.sm 32:=by have:=z7f (r:=t.ring) (n:=3) (by omega) fun x hx=>⟨h.sm.arcs x hx,(h.arcs x hx).chk⟩;have hl:=h.al;exact⟨fun w hw=>(h.sm.ini w hw).mono (by omega),fun w hw=>(h.sm.fin w hw).mono (by omega),fun x hx=>(this x hx).mono (by omega)⟩
theorem GTrans.tin.nf_len{t:GTrans}(h:t.tin):t.nf.arcs.length<=7:=ymm (zku t) h.al
theorem GTrans.tin.nf_fits{t:GTrans}(h:t.tin):t.nf.fits (mbM t.ring h.ok.ring) 8:=by have ok:=h.ok;have h0:=ok.il;have h1:=ok.fl;have ht:=yby (r:=t.ring) (n:=1) fun x hx=>⟨(h.arcs x hx).mb,(h.arcs x hx).chk⟩;have hl:=h.al;refine⟨rfl,⟨ok.st1,ok.st2⟩,fun x hx=>?_,⟨fun w hw=>⟨(h.ini w hw).chk,(h.ini w hw).mb.mono (by omega)⟩,by show t.ini.length=t.st.toNat;omega⟩,⟨fun w hw=>⟨(h.fin w hw).chk,(h.fin w hw).mb.mono (by omega)⟩,by show t.fin.length=t.st.toNat;omega⟩,ok.ring⟩;obtain⟨a1,a2,a3,a4,a5,a6,a7,a8,a9⟩:=(zp3 ok).arcs x hx;have e:t.nf.st=t.st:=rfl;refine⟨⟨a9,(ht x hx).mono (by omega)⟩,⟨a1,by show x.f<(t.nf.st.toNat:Int);omega⟩,a3,by show x.t<(t.nf.st.toNat:Int);omega⟩
def GArc.fit(x:GArc)(N:Nat):Prop:=(0<=x.f/\x.f<N)/\0<=x.t/\x.t<N
structure GAuto.fits {r:GRing} (M:Meas r) (z:Nat) (a:GAuto):Prop where
 ring:a.ring=r
 st:0<=a.st/\a.st<=64
 arcs:∀ x∈a.arcs,(x.w.chk r/\M.mb z x.w)/\x.fit a.st.toNat
 ini:Go.Ab.vb M z a.ini/\a.ini.length=a.st.toNat
 fin:Go.Ab.vb M z a.fin/\a.fin.length=a.st.toNat
 rok:r.ok=true
def pl(g:Ex->Rat):List GMono->Rat
 | []=>0
 | m::p=>g m.e*m.coef.v+pl g p
theorem ygn(a b c:Rat):a+(b+c)=b+(a+c):=by rw[<- Rat.add_assoc,yok a b,ynm]
theorem yc1(g:Ex->Rat)(p:List GMono)(e:Ex)(q:Rat):pl g (pins p e q)=pl g p+g e*q:=by
 induction p with
 | nil=>simp only[pins,pl,zbe,yn5,yp0]
 | cons m p ih =>
  simp only[pins];split
  ·simp only[pl,ih,ynm]
  ·split
   ·rename_i h;split
    ·rename_i h2;simp only[pl,h];rw[yok (g e*m.coef.v) (pl g p),ynm,<- Rat.mul_add,yok m.coef.v q,h2,yrf,yn5]
    ·simp only[pl,h,zbe];rw[Rat.mul_add,ynm,yok]
   ·simp only[pl,zbe];rw[yok]
theorem z3p(g:Ex->Rat)(p:List GMono)(e:Ex)(q:Rat):pl g (pput p e q)=pl g p+if e.ok=true then g e*q else 0:=by
 rw[zhk];split
 ·rename_i h;rcases h with h|h
  ·simp[h,yn5]
  ·simp[h,yrf,yn5]
 ·rename_i h;have:e.ok=true:=by
   rcases ymz e.ok with h'|h'
   ·exact h'
   ·exact absurd (.inl h') h
  rw[yc1,ym0 this]
theorem z3q(g:Ex->Rat)(p:List GMono){q:List GMono}(hq:∀ m∈q,m.ok=true):pl g (padd p q)=pl g p+pl g q:=by
 induction q generalizing p with
 | nil=>show pl g p=_;rw[pl,yn5]
 | cons m q ih =>
  show pl g (padd (pput p m.e m.coef.v) q)=_;rw[ih _ fun x hx=>hq x (yn9 _ hx),z3p,ym0 (GMono.ok_iff.1 (hq m ynt)).1,pl,ynm]
def pind(e x:Ex):Rat:=if x=e then 1 else 0
theorem z8m(p:List GMono)(e:Ex):pc p e=pl (pind e) p:=by
 induction p with
 | nil=>rfl
 | cons m p ih =>
  simp only[pc,pl,ih,pind];split
  ·rw[Rat.one_mul]
  ·rw[yqc]
def psh(g:Ex->Rat)(y x:Ex):Rat:=if (y.add x).ok=true then g (y.add x)else 0
theorem yc0(g:Ex->Rat)(m:GMono)(q:List GMono)(o:List GMono):pl g (prow m q o)=pl g o+pl (psh g m.e) q*m.coef.v:=by
 induction q generalizing o with
 | nil=>show pl g o=_;rw[pl,yqc,yn5]
 | cons x q ih =>
  show pl g (prow m q (pput o (m.e.add x.e) (m.coef.v*x.coef.v)))=_;rw[ih,z3p,pl,Rat.add_mul,ynm]
  congr 2
  unfold psh;split
  ·rw[yrg m.coef.v,yqx]
  ·rw[yqc,yqc]
theorem zgn(g:Ex->Rat)(p q:List GMono):pl g (pmul p q)=pl (fun y=>pl (psh g y) q) p:=by
 have:∀ (p o:List GMono),pl g (p.foldl (fun o m=>prow m q o) o)=pl g o+pl (fun y=>pl (psh g y) q) p:=by
  intro p
  induction p with
  | nil=>intro o;show pl g o=_;rw[pl,yn5]
  | cons m p ih =>
   intro o;show pl g (p.foldl (fun o m=>prow m q o) (prow m q o))=_;rw[ih,yc0,pl,ynm]
 have h:=this p [];rw[pl,yp0]at h;exact h
theorem zgo{f g:Ex->Rat}{p:List GMono}(h:∀ m∈p,f m.e=g m.e):pl f p=pl g p:=by
 induction p with
 | nil=>rfl
 | cons m p ih=>simp only[pl];rw[h m ynt,ih fun x hx=>h x (yn9 _ hx)]
theorem z3s(f g:Ex->Rat)(p:List GMono):pl (fun x=>f x+g x) p=pl f p+pl g p:=by
 induction p with
 | nil=>simp only[pl,yn5]
 | cons m p ih=>simp only[pl,ih,Rat.add_mul];rw[ynm,ynm,ygn (g m.e*m.coef.v)]
theorem zx7(p:List GMono):pl (fun _=>0) p=0:=by
 induction p with
 | nil=>rfl
 | cons m p ih=>simp only[pl,ih,yqc,yn5]
theorem yc2(f:Ex->Rat)(c:Rat)(p:List GMono):pl (fun x=>f x*c) p=pl f p*c:=by
 induction p with
 | nil=>simp only[pl,yqc]
 | cons m p ih=>simp only[pl,ih,Rat.add_mul];rw[yqx,yrg c,<- Rat.mul_assoc]
theorem ycz(f:Ex->Ex->Rat)(p q:List GMono):pl (fun y=>pl (fun x=>f y x) q) p=pl (fun x=>pl (fun y=>f y x) p) q:=by
 induction p with
 | nil=>simp only[pl,zx7]
 | cons m p ih=>simp only[pl,ih,z3s,yc2]
theorem Ex.add_comm(x y:Ex):x.add y=y.add x:=by simp only[Ex.add,Int.add_comm]
theorem Ex.add_assoc(x y z:Ex):(x.add y).add z=x.add (y.add z):=by simp only[Ex.add,Int.add_assoc]
theorem zxy{p q p' q':List GMono}(h:∀ g,pl g (pmul p q)=pl g (pmul p' q')):pmul p q=pmul p' q':=zh9 (zbt _ _) (zbt _ _) fun e=>by rw[z8m,z8m,h]
theorem ztu(p q:List GMono):pmul p q=pmul q p:=zxy fun g=>by rw[zgn,zgn];rw[show(fun y=>pl (psh g y) q)=fun y=>pl (fun x=>psh g y x) q from rfl,ycz];refine zgo fun m _=>zgo fun m' _=>?_;unfold psh;rw[Ex.add_comm]
theorem mok{m:GMono}{p:List GMono}(h:PVal p)(hm:m∈p):m.e.ok=true:=(GMono.ok_iff.1 ((zaj.1 h).1 m hm)).1
theorem z0c{p q w:List GMono}(hp:PVal p)(hq:PVal q)(hw:PVal w):pmul (pmul p q) w=pmul p (pmul q w):=zxy fun g=>by
 rw[zgn,zgn,zgn];refine zgo fun a ha=>?_;rw[zgn];refine zgo fun b hb=>?_;have ka:=Ex.ok_iff.1 (mok hp ha);have kb:=Ex.ok_iff.1 (mok hq hb);unfold psh;by_cases h1:(a.e.add b.e).ok=true
 ·rw[ym0 h1];refine zgo fun c hc=>?_;have kc:=Ex.ok_iff.1 (mok hw hc);rw[Ex.add_assoc];by_cases h2:(b.e.add c.e).ok=true
  ·rw[ym0 h2]
  ·rw[ym1 h2,ym1];intro h3;refine h2 (Ex.ok_iff.2 ?_);have:=Ex.ok_iff.1 h3;simp only[Ex.add]at this ⊢;omega
 ·rw[ym1 h1];refine(zx7 w).symm.trans (zgo fun c hc=>?_);have kc:=Ex.ok_iff.1 (mok hw hc);by_cases h2:(b.e.add c.e).ok=true
  ·rw[ym0 h2,ym1];intro h3;refine h1 (Ex.ok_iff.2 ?_);have:=Ex.ok_iff.1 h3;simp only[Ex.add]at this ⊢;omega
  ·rw[ym1 h2]
theorem z3b{u v w:List GMono}(hv:PVal v)(hw:PVal w):pmul u (padd v w)=padd (pmul u v) (pmul u w):=by refine zh9 (zbt _ _) (zcf _ (zbt _ _)) fun e=>?_;rw[z8m,z8m,z3q _ _ (zaj.1 (zbt u w)).1,zgn,zgn,zgn,<- z3s];exact zgo fun m _=>z3q _ _ (zaj.1 hw).1
theorem z8e(p:List GMono):pmul p []=[]:=by rw[ztu];rfl
theorem zgk{v:GW}(hv:v.si 2):0<=trop v/\trop v<=1099511627777:=by obtain⟨h1,h2,h3,h4,h5,h6,h7⟩:=si2.1 hv;unfold trop;split<;>omega
theorem zb9{v w:GW}(hv:v.si 2)(hw:w.si 2):trop (zam 2 v w)=if trop v+trop w<=1099511627776 then trop v+trop w else 1099511627777:=by
 obtain⟨h1,h2,h3,h4,h5,h6,h7⟩:=si2.1 hv;obtain⟨k1,k2,k3,k4,k5,k6,k7⟩:=si2.1 hw;unfold zam;rw[ym1 (by omega),ym0 rfl];unfold trop;have e1:∀ c:Int,(GW.mk gr0 c false 0 [] []).inf=false:=fun _=>rfl;have e2:∀ c:Int,(GW.mk gr0 c false 0 [] []).cost=c:=fun _=>rfl;have e3:(GW.mk gr0 0 true 0 [] []).inf=true:=rfl;cases hi:v.inf<;>cases hj:w.inf<;>simp[hi,hj,e3]
 ·by_cases h:v.cost+w.cost<=1099511627776
  ·rw[ym1 (show ¬ 1099511627776<v.cost+w.cost by omega),e1,e2,ym0 h];rfl
  ·rw[ym0 (show 1099511627776<v.cost+w.cost by omega),e3,ym1 h];rfl
 ·omega
 ·omega
theorem k5{k:Int}(hk:1<=k/\k<=5):k=1\/k=2\/k=3\/k=4\/k=5:=by omega
theorem zfo(v w:GW):zam 1 v w=.mk (rto (v.q.v*w.q.v)) 0 false 0 [] []:=by simp[zam]
theorem zez(v w:GW):zam 3 v w=.mk (rto (v.q.v*w.q.v)) 0 false 0 [] []:=by simp[zam]
theorem zfn(v w:GW):zam 4 v w=.mk gr0 0 false (v.set &&& w.set) [] []:=by simp[zam]
theorem zfm(v w:GW):zam 5 v w=.mk gr0 0 false 0 (pmul v.poly w.poly) []:=by simp[zam]
theorem zm1{k:Int}(hk:1<=k/\k<=5){v w:GW}(hv:v.si k)(hw:w.si k):zam k v w=zam k w v:=by
 rcases k5 hk with rfl|rfl|rfl|rfl|rfl
 ·rw[zfo,zfo,yrg]
 ·refine zh6 (zba hk hv hw) (zba hk hw hv) ?_;rw[zb9 hv hw,zb9 hw hv,Int.add_comm]
 ·rw[zez,zez,yrg]
 ·rw[zfn,zfn,UInt64.and_comm]
 ·rw[zfm,zfm,ztu]
theorem zlf{k:Int}(hk:1<=k/\k<=5){u v w:GW}(hu:u.si k)(hv:v.si k)(hw:w.si k):zam k (zam k u v) w=zam k u (zam k v w):=by
 rcases k5 hk with rfl|rfl|rfl|rfl|rfl
 ·rw[zfo,zfo,zfo,zfo];simp only[GW.q_mk,zbe,yqx]
 ·refine zh6 (zba hk (zba hk hu hv) hw) (zba hk hu (zba hk hv hw)) ?_;rw[zb9 (zba hk hu hv) hw,zb9 hu hv,zb9 hu (zba hk hv hw),zb9 hv hw];have:=zgk hu;have:=zgk hv;have:=zgk hw
  repeat' split
  all_goals omega
 ·rw[zez,zez,zez,zez];simp only[GW.q_mk,zbe,yqx]
 ·rw[zfn,zfn,zfn,zfn];simp only[GW.set_mk,UInt64.and_assoc]
 ·rw[zfm,zfm,zfm,zfm];simp only[GW.poly_mk];rw[z0c (si_p hu) (si_p hv) (si_p hw)]
theorem yir(a b c:UInt64):a &&& (b ||| c)=(a &&& b) ||| (a &&& c):=UInt64.toBitVec_inj.1 (by
 simp only[UInt64.toBitVec_and,UInt64.toBitVec_or];exact BitVec.eq_of_getLsbD_eq fun i _=>by simp only[BitVec.getLsbD_and,BitVec.getLsbD_or,Bool.and_or_distrib_left])
theorem zle{k:Int}(hk:1<=k/\k<=5){u v w:GW}(hu:u.si k)(hv:v.si k)(hw:w.si k):zam k u (zap k v w)=zap k (zam k u v) (zam k u w):=by
 rcases k5 hk with rfl|rfl|rfl|rfl|rfl
 ·rw[zfo,zfo,zfo];simp only[zap,ym2,GW.q_mk,zbe,Rat.mul_add]
 ·refine zh6 (zba hk hu (zb0 hk hv hw)) (zb0 hk (zba hk hu hv) (zba hk hu hw)) ?_;rw[zb9 hu (zb0 hk hv hw),zd3 hv hw,zd3 (zba hk hu hv) (zba hk hu hw),zb9 hu hv,zb9 hu hw];have:=zgk hu;have:=zgk hv;have:=zgk hw
  repeat' split
  all_goals omega
 ·obtain⟨_,_,_,_,_,_,h0,_⟩:=si3.1 hu;rw[ztv,ztv,zez u v,zez u w];simp only[GW.q_mk,zbe];by_cases h:v.q.v<w.q.v
  ·rw[ym0 h,zez];by_cases h2:u.q.v*v.q.v<u.q.v*w.q.v
   ·rw[ym0 h2]
   ·have h3:=yry (Rat.le_of_lt h) h0;rw[ym1 h2,Rat.le_antisymm h3 (yot.1 h2)]
  ·have h3:=yry (yot.1 h) h0;rw[ym1 h,ym1 (yot.2 h3),zez]
 ·rw[zfn,zfn,zfn];simp[zap,GW.set_mk,yir]
 ·rw[zfm,zfm,zfm];simp only[zap,GW.poly_mk];simp[GW.poly_mk,z3b (si_p hv) (si_p hw)]
theorem zld{k:Int}(hk:1<=k/\k<=5){v:GW}(hv:v.si k):zam k v (zb3 k)=zb3 k:=by
 rcases k5 hk with rfl|rfl|rfl|rfl|rfl
 ·rw[zfo];simp[zb3,GW.q_mk,zf9,yrf,show rto 0=gr0 from zce]
 ·refine zh6 (zba hk hv (zh4 hk)) (zh4 hk) ?_;rw[zb9 hv (zh4 hk)];have:=zgk hv;have e:trop (zb3 2)=1099511627777:=rfl;rw[e,ym1 (by omega)]
 ·rw[zez];simp[zb3,GW.q_mk,zf9,yrf,show rto 0=gr0 from zce]
 ·rw[zfn];simp[zb3,GW.set_mk]
 ·rw[zfm];simp[zb3,GW.poly_mk,z8e]
section
variable {r:GRing} {u v w:GW}
theorem zzu(cv:v.chk r)(cw:w.chk r):r.times v w=r.times w v:=by
 by_cases h6:r.kind=6
 ·have hp:=GRing.ok_parts cv.1 h6;obtain⟨lv,_,sv⟩:=cv.2.2 h6;obtain⟨lw,_,sw⟩:=cw.2.2 h6;simp only[GRing.times,ym0 h6]
  congr 1
  refine ypf (by rw[zay lv lw,zay lw lv]) fun i h1 h2=>?_;have h3:i<r.parts.length:=by rw[zay lv lw]at h1;exact h1
  rw[za6 h3 (by omega) (by omega) h1,za6 h3 (by omega) (by omega) h2];exact zm1 (hp.2.2 _ (ym3 h3)) (sv i h3 (by omega)) (sw i h3 (by omega))
 ·have hk:=GRing.ok_kind cv.1 h6;simp only[GRing.times,ym1 h6];exact zm1 ⟨hk.1,hk.2.1⟩ (cv.2.1 h6) (cw.2.1 h6)
theorem zu6(cu:u.chk r)(cv:v.chk r)(cw:w.chk r):r.times (r.times u v) w=r.times u (r.times v w):=by
 by_cases h6:r.kind=6
 ·have hp:=GRing.ok_parts cu.1 h6;obtain⟨lu,_,su⟩:=cu.2.2 h6;obtain⟨lv,_,sv⟩:=cv.2.2 h6;obtain⟨lw,_,sw⟩:=cw.2.2 h6;simp only[GRing.times,ym0 h6,GW.parts_mk]
  congr 1
  have luv:=zay lu lv;have lvw:=zay lv lw;refine ypf (by rw[zay luv lw,zay lu lvw]) fun i h1 h2=>?_;have h3:i<r.parts.length:=by rw[zay luv lw]at h1;exact h1
  rw[za6 h3 (by omega) (by omega) h1,za6 h3 (by omega) (by omega) h2,za6 h3 (by omega) (by omega) (by omega),za6 h3 (by omega) (by omega) (by omega)];exact zlf (hp.2.2 _ (ym3 h3)) (su i h3 (by omega)) (sv i h3 (by omega)) (sw i h3 (by omega))
 ·have hk:=GRing.ok_kind cu.1 h6;simp only[GRing.times,ym1 h6];exact zlf ⟨hk.1,hk.2.1⟩ (cu.2.1 h6) (cv.2.1 h6) (cw.2.1 h6)
theorem zzt(cu:u.chk r)(cv:v.chk r)(cw:w.chk r):r.times u (r.plus v w)=r.plus (r.times u v) (r.times u w):=by
 by_cases h6:r.kind=6
 ·have hp:=GRing.ok_parts cu.1 h6;obtain⟨lu,_,su⟩:=cu.2.2 h6;obtain⟨lv,_,sv⟩:=cv.2.2 h6;obtain⟨lw,_,sw⟩:=cw.2.2 h6;simp only[GRing.times,GRing.plus,ym0 h6,GW.parts_mk]
  congr 1
  have lvw:=zbb lv lw;have luv:=zay lu lv;have luw:=zay lu lw;refine ypf (by rw[zay lu lvw,zbb luv luw]) fun i h1 h2=>?_;have h3:i<r.parts.length:=by rw[zay lu lvw]at h1;exact h1
  rw[za6 h3 (by omega) (by omega) h1,zbl h3 (by omega) (by omega) (by omega),zbl h3 (by omega) (by omega) h2,za6 h3 (by omega) (by omega) (by omega),za6 h3 (by omega) (by omega) (by omega)];exact zle (hp.2.2 _ (ym3 h3)) (su i h3 (by omega)) (sv i h3 (by omega)) (sw i h3 (by omega))
 ·have hk:=GRing.ok_kind cu.1 h6;simp only[GRing.times,GRing.plus,ym1 h6];exact zle ⟨hk.1,hk.2.1⟩ (cu.2.1 h6) (cv.2.1 h6) (cw.2.1 h6)
theorem zzs(cv:v.chk r):r.times v r.zero=r.zero:=by
 by_cases h6:r.kind=6
 ·have hp:=GRing.ok_parts cv.1 h6;obtain⟨lv,_,sv⟩:=cv.2.2 h6;have ez:r.zero=.mk gr0 0 false 0 [] (r.parts.map zb3):=by unfold GRing.zero;rw[ym0 cv.1,h6];rfl
  rw[ez];simp only[GRing.times,ym0 h6,GW.parts_mk]
  congr 1
  have lz:(r.parts.map zb3).length=r.parts.length:=ynp ..;refine ypf (by rw[zay lv lz,lz]) fun i h1 h2=>?_;have h3:i<r.parts.length:=by rw[lz]at h2;exact h2
  rw[za6 h3 (by omega) (by omega) h1,yr9];exact zld (hp.2.2 _ (ym3 h3)) (sv i h3 (by omega))
 ·have hk:=GRing.ok_kind cv.1 h6;have ez:r.zero=zb3 r.kind:=by unfold GRing.zero;rw[ym0 cv.1,hk.2.2];rfl
  rw[ez];simp only[GRing.times,ym1 h6];exact zld ⟨hk.1,hk.2.1⟩ (cv.2.1 h6)
end
structure SR where
 α : Type
 z : α
 p : α -> α -> α
 m : α -> α -> α
 pc:∀ a b,p a b=p b a
 pa:∀ a b c,p (p a b) c=p a (p b c)
 pz:∀ a,p a z=a
 mc:∀ a b,m a b=m b a
 ma:∀ a b c,m (m a b) c=m a (m b c)
 mp:∀ a b c,m a (p b c)=p (m a b) (m a c)
 mz:∀ a,m a z=z
namespace SR
variable (S:SR) {β γ : Type}
def sum(l:List β)(f : β -> S.α):S.α := l.foldr (fun x s=>S.p (f x) s) S.z
theorem zp(a:S.α):S.p S.z a=a:=by rw[S.pc,S.pz]
theorem zm(a:S.α):S.m S.z a=S.z:=by rw[S.mc,S.mz]
theorem plc(a b c:S.α):S.p a (S.p b c)=S.p b (S.p a c):=by rw[<- S.pa,S.pc a b,S.pa]
theorem sum_nil(f : β -> S.α):S.sum [] f=S.z:=rfl
theorem sum_cons(x : β)(l:List β)(f : β -> S.α):S.sum (x::l) f=S.p (f x) (S.sum l f):=rfl
theorem sum_congr{l:List β}{f g : β -> S.α}(h:∀ x∈l,f x=g x):S.sum l f=S.sum l g:=by
 induction l with
 | nil=>rfl
 | cons x l ih=>rw[sum_cons,sum_cons,h x ynt,ih fun y hy=>h y (yn9 _ hy)]
theorem zzz(l k:List β)(f : β -> S.α):S.sum (l++k) f=S.p (S.sum l f) (S.sum k f):=by
 induction l with
 | nil=>exact(S.zp _).symm
 | cons x l ih=>rw[yoy,sum_cons,sum_cons,ih,S.pa]
theorem sum_zero(l:List β):S.sum l (fun _=>S.z)=S.z:=by
 induction l with
 | nil=>rfl
 | cons x l ih=>rw[sum_cons,ih,S.pz]
theorem sum_add(l:List β)(f g : β -> S.α):S.sum l (fun x=>S.p (f x) (g x))=S.p (S.sum l f) (S.sum l g):=by
 induction l with
 | nil=>exact(S.pz _).symm
 | cons x l ih=>rw[sum_cons,sum_cons,sum_cons,ih,S.pa,S.pa,S.plc (g x)]
theorem sum_mul(l:List β)(a:S.α)(f : β -> S.α):S.sum l (fun x=>S.m a (f x))=S.m a (S.sum l f):=by
 induction l with
 | nil=>exact(S.mz _).symm
 | cons x l ih=>rw[sum_cons,sum_cons,ih,S.mp]
theorem sum_swap(l:List β)(k:List γ)(f : β -> γ -> S.α):S.sum l (fun x=>S.sum k fun y=>f x y)=S.sum k fun y=>S.sum l fun x=>f x y:=by
 induction l with
 | nil=>exact(S.sum_zero k).symm
 | cons x l ih=>rw[sum_cons,ih,<- sum_add];rfl
theorem sum_range(n:Nat)(f:Nat->S.α):S.sum (List.range (n+1)) f=S.p (S.sum (List.range n) f) (f n):=by rw[yoi,zzz,sum_cons,sum_nil,S.pz]
theorem sum_delta{n t:Nat}(h:t<n)(g:Nat->S.α):S.sum (List.range n) (fun s=>if s=t then g s else S.z)=g t:=by
 induction n with
 | zero=>omega
 | succ n ih =>
  rw[sum_range];by_cases ht:t=n
  ·subst ht;rw[ym0 rfl,S.sum_congr (g:=fun _=>S.z) fun s hs=>ym1 (by have:=yng.1 hs;omega),sum_zero,zp]
  ·rw[ih (by omega),ym1 (by omega),S.pz]
variable (F T : β -> Nat) (L : β -> Int) (W : β -> S.α) (A:List β)
def dot(n:Nat)(v w:Nat->S.α):S.α := S.sum (List.range n) fun s=>S.m (v s) (w s)
variable {F T A}
end SR
def CW(r:GRing):Type:={w:GW // w.chk r}
def srG(r:GRing)(hr:r.ok=true):SR where
 α := CW r
 z:=⟨r.zero,zbd hr⟩
 p a b:=⟨r.plus a.1 b.1,zbu a.2 b.2⟩
 m a b:=⟨r.times a.1 b.1,za9 a.2 b.2⟩
 pc a b:=yp2 (zhm a.2 b.2)
 pa a b c:=yp2 (zdt a.2 b.2 c.2)
 pz a:=yp2 (zc7 a.2)
 mc a b:=yp2 (zzu a.2 b.2)
 ma a b c:=yp2 (zu6 a.2 b.2 c.2)
 mp a b c:=yp2 (zzt a.2 b.2 c.2)
 mz a:=yp2 (zzs a.2)
section
variable {r:GRing} (hr:r.ok=true)
noncomputable def cw0(w:GW):CW r:=@dite _ (w.chk r) (Classical.propDecidable _) (fun h=>⟨w,h⟩) fun _=>⟨r.zero,zbd hr⟩
noncomputable def cw(w:GW):(srG r hr).α := cw0 hr w
theorem zkb{w:GW}(h:w.chk r):(cw hr w).1=w:=by have e:cw0 hr w=⟨w,h⟩:=dif_pos h;exact congrArg Subtype.val e
theorem zsg:cw hr r.zero=(srG r hr).z:=yp2 (zkb hr (zbd hr))
theorem zsh{v w:GW}(hv:v.chk r)(hw:w.chk r):cw hr (r.plus v w)=(srG r hr).p (cw hr v) (cw hr w):=yp2 (by
 rw[zkb hr (zbu hv hw)];show _=r.plus (cw hr v).1 (cw hr w).1;rw[zkb hr hv,zkb hr hw])
theorem zmr{v w:GW}(hv:v.chk r)(hw:w.chk r):cw hr (r.times v w)=(srG r hr).m (cw hr v) (cw hr w):=yp2 (by
 rw[zkb hr (za9 hv hw)];show _=r.times (cw hr v).1 (cw hr w).1;rw[zkb hr hv,zkb hr hw])
theorem ybd{v w:GW}(hv:v.chk r)(hw:w.chk r)(h:cw hr v=cw hr w):v=w:=by rw[<- zkb hr hv,<- zkb hr hw,h]
noncomputable def gd(l:List GW)(s:Nat):(srG r hr).α := cw hr (l.getD s r.zero)
variable {α : Type} {key : α -> List Int} {wt : α -> GW} {up : α -> α -> α} (h:List Int->(srG r hr).α)
noncomputable def hs(key : α -> List Int)(wt : α -> GW)(l:List α):(srG r hr).α := (srG r hr).sum l fun x=>(srG r hr).m (cw hr (wt x)) (h (key x))
variable (hk:∀ z y,key (up z y)=key z) (hw:∀ z y,wt (up z y)=r.plus (wt z) (wt y))
end
section
variable {r:GRing} (hr:r.ok=true)
include hr in
theorem zfj{N:Nat}{l:List GW}(h:ckL r N l)(s:Nat):(l.getD s r.zero).chk r:=by
 rw[ymo];cases e:l[s]? with
 | none=>exact zbd hr
 | some w=>exact h.1 w (yow e)
theorem zmo(n s:Nat):gd hr (List.replicate n r.zero) s=(srG r hr).z:=by
 unfold gd;have:(List.replicate n r.zero).getD s r.zero=r.zero:=by rw[ymo,yqy];split<;>rfl
 rw[this,zsg]
theorem zoc{l:List GW}{i s:Nat}(v:GW)(h:i≠s):gd hr (l.set i v) s=gd hr l s:=by unfold gd;rw[ymo,ypu h,<- List.getD_eq_getElem?_getD]
theorem ziz{l:List GW}{i:Nat}(v:GW)(h:i<l.length):gd hr (l.set i v) i=cw hr v:=by unfold gd;rw[ymo,yqb h];rfl
noncomputable def ctr(p:GTArc->Option (List GW))(s:Nat)(x:GTArc):(srG r hr).α := match p x with
 | some e=>if x.f.toNat=s then(srG r hr).m (cw hr x.w) (gd hr e x.t.toNat)else(srG r hr).z
 | none=>(srG r hr).z
theorem yew{N:Nat}{p:GTArc->Option (List GW)}{b:List GW}{x:GTArc}(hb:ckL r N b)(hx:okA r N p x)(s:Nat):gd hr (accS r p b x) s=(srG r hr).p (gd hr b s) (ctr hr p s x):=by
 unfold accS ctr;cases h:p x with
 | none=>exact((srG r hr).pz _).symm
 | some e =>
  obtain⟨⟨a1,a2⟩,a3,a4⟩:=hx.2.1;have he:=hx.2.2 e h;show gd hr (addW r b x e) s=(srG r hr).p (gd hr b s) (if x.f.toNat=s then _ else _);unfold addW;by_cases hs:x.f.toNat=s
  ·subst hs;rw[ym0 rfl,ziz hr _ (by rw[hb.2];omega),zsh hr (zfj hr hb _) (za9 hx.1 (zfj hr he _)),zmr hr hx.1 (zfj hr he _)];rfl
  ·rw[ym1 hs,zoc hr _ hs,(srG r hr).pz]
theorem zwz{N:Nat}{p:GTArc->Option (List GW)}(s:Nat):∀ {l:List GTArc} {b:List GW},ckL r N b->(∀ x∈l,okA r N p x)->gd hr (accW r p l b) s=(srG r hr).p (gd hr b s) ((srG r hr).sum l (ctr hr p s))
 | [],b,_,_=>((srG r hr).pz _).symm
 | x::l,b,hb,h=>by have hx:=h x ynt;show gd hr (accW r p l (accS r p b x)) s=_;rw[zwz s (zw0 hb hx) fun y hy=>h y (yn9 _ hy),yew hr hb hx,SR.sum_cons,(srG r hr).pa]
theorem z7k(t:GTrans):swap t t.inv:=⟨rfl,rfl,rfl,rfl,List.Perm.refl _⟩
theorem drop_nil{w:List Int}{i:Nat}(h:w.drop i=[])(hi:i<=w.length):i=w.length/\w[i]?=none:=by have:=List.drop_eq_nil_iff.1 h;exact⟨by omega,ynu (by omega)⟩
theorem zon{N:Nat}{ini row:List GW}(h1:ckL r N ini)(h2:ckL r N row):∀ n,n<=N->(sumN r ini row n).chk r/\cw hr (sumN r ini row n)=(srG r hr).sum (List.range n) fun j=>(srG r hr).m (gd hr ini j) (gd hr row j)
 | 0,_=>⟨zbd hr,zsg hr⟩
 | n+1,hn=>by
  obtain⟨i1,i2⟩:=zon h1 h2 n (by omega);have l1:n<ini.length:=by rw[h1.2];omega
  have l2:n<row.length:=by rw[h2.2];omega
  have k1:=h1.1 _ (ym3 l1);have k2:=h2.1 _ (ym3 l2);have g1:gd hr ini n=cw hr ini[n]:=by unfold gd;rw[ymo,yms l1];rfl
  have g2:gd hr row n=cw hr row[n]:=by unfold gd;rw[ymo,yms l2];rfl
  rw[zje l1 l2];exact⟨zbu i1 (za9 k1 k2),by rw[zsh hr i1 (za9 k1 k2),zmr hr k1 k2,i2,SR.sum_range,g1,g2]⟩
end
def stp(l:Int):Nat:=if l=0 then 0 else 1
def fitT(wx wy:List Int)(i k:Nat)(x:GTArc):Prop:=(x.i=0\/wx[i]?=some x.i)/\(x.o=0\/wy[k]?=some x.o)
instance (wx wy:List Int) (i k:Nat) (x:GTArc):Decidable (fitT wx wy i k x):=by unfold fitT;infer_instance
section
variable {r:GRing} (hr:r.ok=true)
theorem yb9{N:Nat}{l:List GTArc}{b:List GW}(hb:ckL r N b)(h:zqt r N l)(n:Nat):ckL r N (sprN r l b n):=(zu9 (l':=l.map swT) (List.Perm.refl _) hb h n).2
theorem ydj{N:Nat}{l:List GTArc}{b:List GW}(hb:ckL r N b)(h:zqt r N l)(n:Nat):∀ x∈l,okA r N (zjx (sprN r l b n)) x:=fun x hx=>⟨(h x hx).1,(h x hx).2,fun e he=>by
 unfold zjx at he;split at he
 ·cases he;exact yb9 hb h n
 ·cases he⟩
theorem zxp{N:Nat}{l:List GTArc}{b:List GW}(hb:ckL r N b)(h:zqt r N l)(n s:Nat):gd hr (sprN r l b (n+1)) s=(srG r hr).p (gd hr b s) ((srG r hr).sum l (ctr hr (zjx (sprN r l b n)) s)):=zwz hr s hb (ydj hb h n)
theorem zms(v:List GW)(s:Nat)(x:GTArc):ctr hr (zjx v) s x=if emF x=true/\x.f.toNat=s then(srG r hr).m (cw hr x.w) (gd hr v x.t.toNat)else(srG r hr).z:=by
 unfold ctr zjx;by_cases he:emF x=true
 ·simp only[he,ym2,true_and]
 ·simp only[he,ym9,false_and,ymw]
theorem z2a{N:Nat}{l:List GTArc}{b:List GW}(hb:ckL r N b)(h:zqt r N l){pos:Nat->Nat}(hp:∀ x∈l,emF x=true->pos x.f.toNat<pos x.t.toNat/\pos x.t.toNat<N) :
  ∀ n s,N<=n+1+pos s->gd hr (sprN r l b (n+1)) s=gd hr (sprN r l b n) s
 | 0,s,hn=>by
  rw[zxp hr hb h,(srG r hr).sum_congr (g:=fun _=>(srG r hr).z) fun x hx=>?_,SR.sum_zero,(srG r hr).pz];rfl;rw[zms,ym1];rintro⟨h1,rfl⟩;have:=hp x hx h1;omega
 | n+1,s,hn=>by
  rw[zxp hr hb h,zxp hr hb h n]
  congr 1
  refine(srG r hr).sum_congr fun x hx=>?_;rw[zms,zms];by_cases hc:emF x=true/\x.f.toNat=s
  ·rw[ym0 hc,ym0 hc];obtain⟨h1,rfl⟩:=hc;have:=hp x hx h1;rw[z2a hb h hp n x.t.toNat (by omega)]
  ·rw[ym1 hc,ym1 hc]
theorem ybq{t:GTrans}(ht:ckT r t)(wx wy:List Int)(n i k:Nat)(hi:i<=wx.length)(hk:k<=wy.length)(h:wx.length - i+(wy.length - k)<n):ckL r t.st.toNat (valW t wx wy n i k):=(zu4 ht (z7k t) wx wy n i k hi hk h).2
theorem zu7{t:GTrans}(ht:ckT r t){wx wy:List Int}{i k:Nat}(hi:i<=wx.length)(hk:k<=wy.length):ckL r t.st.toNat (tabW t wx wy i k):=ybq ht wx wy _ i k hi hk (by omega)
theorem nx_0{l:Int}{w:List Int}{i:Nat}(h:l=0\/w[i]?=some l):nx l w i=((i+stp l:Nat):Int):=by
 unfold nx stp;by_cases h0:l=0
 ·rw[ym0 h0,ym0 h0,ynx]
 ·rw[ym1 h0,ym1 h0,ym0 (h.resolve_left h0)];rfl
theorem nx_1{l:Int}{w:List Int}{i:Nat}(h:¬ (l=0\/w[i]?=some l)):nx l w i = -1:=by unfold nx;rw[ym1 fun e=>h (.inl e),ym1 fun e=>h (.inr e)]
theorem zjf{wx wy:List Int}{i k:Nat}(f:Nat->Nat->List GW)(x:GTArc):zfx wx wy i k f x=if fitT wx wy i k x/\emF x=false then some (f (i+stp x.i) (k+stp x.o))else none:=by
 by_cases h1:x.i=0\/wx[i]?=some x.i
 ·by_cases h2:x.o=0\/wy[k]?=some x.o
  ·have e1:=nx_0 h1;have e2:=nx_0 h2;have e3:emF x=false ↔ 0<stp x.i+stp x.o:=by unfold emF stp;by_cases a:x.i=0<;>by_cases b:x.o=0<;>simp[a,b]
   unfold zfx;rw[e1,e2,ynz,ynz];by_cases h3:emF x=false
   ·have:=e3.1 h3;rw[ym0 (show 0<=((i+stp x.i:Nat):Int)/\0<=((k+stp x.o:Nat):Int)/\(i:Int)+k<((i+stp x.i:Nat):Int)+((k+stp x.o:Nat):Int) from ⟨by omega,by omega,by omega⟩),ym0 (show fitT wx wy i k x/\emF x=false from ⟨⟨h1,h2⟩,h3⟩)]
   ·rw[ym1 (show ¬ (0<=((i+stp x.i:Nat):Int)/\0<=((k+stp x.o:Nat):Int)/\(i:Int)+k<((i+stp x.i:Nat):Int)+((k+stp x.o:Nat):Int)) from fun h=>h3 (e3.2 (by have:=h.2.2;omega))),ym1 (show ¬ (fitT wx wy i k x/\emF x=false) from fun h=>h3 h.2)]
  ·rw[ym1 fun h=>h2 h.1.2];unfold zfx;rw[nx_1 h2,ym1 fun h=>by have:=h.2.1;omega]
 ·rw[ym1 fun h=>h1 h.1.1];unfold zfx;rw[nx_1 h1,ym1 fun h=>by have:=h.1;omega]
theorem zxj{t:GTrans}(ht:ckT r t){wx wy:List Int}{i k:Nat}(hi:i<=wx.length)(hk:k<=wy.length){pos:Nat->Nat}(hp:∀ x∈t.arcs,emF x=true->pos x.f.toNat<pos x.t.toNat/\pos x.t.toNat<t.st.toNat)(s:Nat) :
  gd hr (tabW t wx wy i k) s=(srG r hr).p (gd hr (zh3 t wx wy i k) s) ((srG r hr).sum t.arcs fun x=>if x.f.toNat=s/\fitT wx wy i k x then(srG r hr).m (cw hr x.w) (gd hr (tabW t wx wy (i+stp x.i) (k+stp x.o)) x.t.toNat)else(srG r hr).z):=by
 have hring:=ht.ring;have hb:=zzf ht wx wy i k;have hok:∀ x∈t.arcs,okA r t.st.toNat (zfx wx wy i k (tabW t wx wy)) x:=fun x hx=>⟨(ht.arcs x hx).1,(ht.arcs x hx).2,fun e he=>by
  obtain⟨a,b,h1,h2,h3,h4,h5,h6,h7,h8,h9,rfl⟩:=zkl hi hk he;exact zu7 ht h7 h8⟩
 have hrow:ckL r t.st.toNat (rowW t wx wy i k (tabW t wx wy)):=by unfold rowW;rw[hring];exact zsr hb hok
 have hfix:=z2a hr hrow ht.arcs hp t.st.toNat s (by omega);have he:tabW t wx wy i k=sprN r t.arcs (rowW t wx wy i k (tabW t wx wy)) t.st.toNat:=by
  have:=yb0 (t:=t) hi hk;unfold zfu at this
  rwa[hring]at this
 rw[zxp hr hrow ht.arcs,<- he]at hfix;have hr1:gd hr (rowW t wx wy i k (tabW t wx wy)) s=(srG r hr).p (gd hr (zh3 t wx wy i k) s) ((srG r hr).sum t.arcs (ctr hr (zfx wx wy i k (tabW t wx wy)) s)):=by unfold rowW;rw[hring];exact zwz hr s hb hok
 rw[hr1,(srG r hr).pa,<- SR.sum_add]at hfix;rw[<- hfix]
 congr 1
 refine(srG r hr).sum_congr fun x hx=>?_;rw[zms];have hcs:ctr hr (zfx wx wy i k (tabW t wx wy)) s x=if x.f.toNat=s/\fitT wx wy i k x/\emF x=false then(srG r hr).m (cw hr x.w) (gd hr (tabW t wx wy (i+stp x.i) (k+stp x.o)) x.t.toNat)else(srG r hr).z:=by
  unfold ctr;rw[zjf];by_cases h1:fitT wx wy i k x/\emF x=false
  ·rw[ym0 h1];by_cases h2:x.f.toNat=s
   ·simp only[h2,ym2,h1,and_self,true_and]
   ·simp only[h2,ym9,false_and]
  ·rw[ym1 h1,ym1 fun h=>h1 h.2]
 rw[hcs];by_cases he:emF x=true
 ·rw[if_neg (fun h=>by rw[h.2.2]at he;cases he),SR.zp];have h0:x.i=0/\x.o=0:=by simpa[emF]using he
  have hf:fitT wx wy i k x:=⟨.inl h0.1,.inl h0.2⟩;have e1:stp x.i=0:=by unfold stp;rw[ym0 h0.1]
  have e2:stp x.o=0:=by unfold stp;rw[ym0 h0.2]
  by_cases h2:x.f.toNat=s
  ·rw[ym0 ⟨he,h2⟩,ym0 ⟨h2,hf⟩,e1,e2,ynx,ynx]
  ·rw[ym1 fun h=>h2 h.2,ym1 fun h=>h2 h.1]
 ·have he':emF x=false:=by simpa using he
  rw[ym1 fun h:emF x=true/\x.f.toNat=s=>he h.1,(srG r hr).pz];by_cases h2:x.f.toNat=s/\fitT wx wy i k x
  ·rw[ym0 ⟨h2.1,h2.2,he'⟩,ym0 h2]
  ·rw[ym1 fun h=>h2 ⟨h.1,h.2.1⟩,ym1 h2]
end
end Go.Ab
