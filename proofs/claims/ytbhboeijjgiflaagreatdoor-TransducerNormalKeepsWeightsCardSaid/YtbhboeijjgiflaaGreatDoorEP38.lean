/-
Proofs for the law TransducerNormalKeepsWeights, part 38. Conditions: none.
-/
import Derived.Test.YtbhboeijjgiflaaGreatDoorEP37
import Derived.Test.YtbhboeijjgiflaaGreatDoorEP29
set_option maxRecDepth 100000
set_option maxHeartbeats 4000000
set_option linter.all false
namespace Go.Ab
open Enc (enc)
theorem zz0 (k n:Int) (h:0<n):(if k.tmod n<0 then k.tmod n+n else k.tmod n)=k % n:=by
 have h1:=Int.tmod_eq_emod (a:=k) (b:=n)
 have h2:=Int.emod_nonneg k (show n≠0 by omega)
 have h3:=Int.emod_lt_of_pos k h
 rw [h1]
 have h4:(n.natAbs:Int)=n:=by omega
 split<;>split<;>omega
theorem zcx (k n:Int) (h:0<n) (hn:n<=1000000):Sp P F.aj [.int .i64 k,.int .i64 n] (.pure (.int .i64 (k % n))):=by
 have h1:=zz0 k n h
 have h2:=Int.emod_nonneg k (show n≠0 by omega)
 have h3:=Int.emod_lt_of_pos k h
 refine Sp.vz c.aj fun _=>?_
 simp [g.aj,go_sem]
 refine ⟨by omega,fun h4=>?_,fun h4=>?_⟩
 ·rw [if_pos h4] at h1
  rw [h1,i64w (by omega) (by omega)]
 ·rw [if_neg (by omega)] at h1
  exact h1
def nx (label:Int) (w:List Int) (a:Nat):Int:=if label=0 then a else if w[a]?=some label then a+1 else -1
theorem zzt (l:List Int) (m:Int) (most:Nat) (hm:0<m) (hm2:m<=1000) (hmost:most<=1000):Sp P F.bv [.sl (ens l),.int .i64 m,.int .i64 most] (.pure (.sl (ens ((l.take most).map fun x=>1+x % m)))):=by
 refine Sp.vz c.bv fun _=>?_
 simp [g.bv,go_sem]
 refine zai (S:=fun k:Nat=>mkSt [(0,.p (.sl (ens l))),(1,.p (.int .i64 m)),(2,.p (.int .i64 most)),(7,.own 1 0 0 k),(8,.p (.int .i64 k))] [(1,⟨1,avs ((l.take k).map fun x=>1+x % m)⟩)]) (I:=fun k=>k<=l.length/\k<=most) (m:=fun k=>most - k) 0
  (Weak.nl 7 77 1 rfl (Weak.to [0,1,2,7,8] [((77,0),1)] (by simp [go_sem]))) ⟨by omega,by omega⟩ ?_
 rintro k ⟨h1,h2⟩ R hn' hr hx
 have e3:=i64s k (by omega)
 have hend:l.length<=k\/most<=k->((l.take k).map fun x=>1+x % m)=(l.take most).map fun x=>1+x % m:=fun h=>by
  rcases h with h|h
  ·rw [List.take_of_length_le h,List.take_of_length_le (by omega)]
  ·rw [show k=most by omega]
 simp [g.om,mkSt,go_sem]
 refine ⟨fun hk=>⟨fun hk2=>zae hk ?_,fun hk2=>hx _ _ ?_⟩,fun hk=>hx _ _ ?_⟩
 ·refine zaa (zcx l[k] m hm (by omega)) rfl ?_
  have h3:=Int.emod_nonneg l[k] (show m≠0 by omega)
  have h4:=Int.emod_lt_of_pos l[k] hm
  have e4:IntKind.i64.wrap (1+l[k] % m)=1+l[k] % m:=i64w (by omega) (by omega)
  simp [go_sem,e3,e4]
  have hts:avs ((l.take (k+1)).map fun x=>1+x % m)=avs ((l.take k).map fun x=>1+x % m)++[.p (enc (1+l[k] % m))]:=by
   rw [List.take_succ_eq_append_getElem hk,List.map_append,zc1]; rfl
  simp only [List.map_take] at hts
  exact ⟨⟨by omega,by omega⟩,hn' (k+1) _ (Weak.to [0,1,2,7,8] [((29,0),1)] (by simp [go_sem,mkSt,hts])) ⟨by omega,by omega⟩ (by omega)⟩
 ·have:=hend (by omega)
  simp only [List.map_take] at this
  simp [go_sem,this]
  exact ⟨by omega,by rw [<- this,List.take_take,Nat.min_self]⟩
 ·have:=hend (by omega)
  simp only [List.map_take] at this
  simp [go_sem,this]
  exact ⟨by omega,by rw [<- this,List.take_take,Nat.min_self]⟩
end Go.Ab
namespace Go.Ab
open Enc (enc)
instance:Enc (Int × Int):=⟨fun x=>.agg [.int .i64 x.1,.int .i64 x.2],2,by decide,fun _=>rfl⟩
@[go_sem] theorem yge (x:Int × Int):enc x=.agg [.int .i64 x.1,.int .i64 x.2]:=rfl
@[go_sem] theorem yce:Enc.sz (Int × Int)=2:=rfl
def spS (on:List Bool) (p:Int × Int):List Bool:=if on.getD p.1.toNat false=true then on.set p.2.toNat true else on
def spR (ps:List (Int × Int)) (on:List Bool):List Bool:=ps.foldl spS on
def spF (ps:List (Int × Int)):Nat->List Bool->List Bool
 | 0,on=>on
 | n+1,on=>spF ps n (spR ps on)
theorem z9j (on p):(spS on p).length=on.length:=by unfold spS; split<;>simp
theorem zma:∀ (ps:List (Int × Int)) (on:List Bool),(spR ps on).length=on.length
 | [],_=>rfl
 | p::ps,on=>by rw [show spR (p::ps) on=spR ps (spS on p) from rfl,zma,z9j]
theorem zj0 (ps:List (Int × Int)):∀ (n:Nat) (on:List Bool),(spF ps n on).length=on.length
 | 0,_=>rfl
 | n+1,on=>by rw [show spF ps (n+1) on=spF ps n (spR ps on) from rfl,zj0,zma]
theorem zp0 (ps:List (Int × Int)):∀ (n:Nat) (on:List Bool),spF ps (n+1) on=spR ps (spF ps n on)
 | 0,_=>rfl
 | n+1,on=>by rw [show spF ps (n+1+1) on=spF ps (n+1) (spR ps on) from rfl,zp0]; rfl
theorem toNat_lt {p:Int} {n:Nat} (h:0<=p/\p<n):∃ k:Nat,p=k/\k<n:=⟨p.toNat,by omega,by omega⟩
end Go.Ab
namespace Go.Ab
open Enc (enc)
def mkS (s:Int) (on:List Bool) (p:Int × Int):List Bool:=if p.1=s then on.set p.2.toNat true else on
def mkR (s:Int) (ps:List (Int × Int)) (n:Nat):List Bool:=ps.foldl (mkS s) (List.replicate n false)
theorem z19 (s on p):(mkS s on p).length=on.length:=by unfold mkS; split<;>simp
theorem z2a (s:Int):∀ (ps:List (Int × Int)) (on:List Bool),(ps.foldl (mkS s) on).length=on.length
 | [],_=>rfl
 | p::ps,on=>by rw [List.foldl_cons,z2a,z19]
theorem zqo (s ps n):(mkR s ps n).length=n:=by unfold mkR; rw [z2a]; simp
def cycB (n:Nat) (ps:List (Int × Int)) (s:Nat):Bool:=(spF ps n (mkR s ps n)).getD s false
def cycF (n:Nat) (ps:List (Int × Int)):Bool:=(List.range n).any (cycB n ps)
end Go.Ab
namespace Go.Ab
open Enc (enc)
def emF (x:GTArc):Bool:=decide (x.i=0)&&decide (x.o=0)
def emP (l:List GTArc):List (Int × Int):=(l.filter emF).map fun x=>(x.f,x.t)
theorem ybo {l:List GTArc} {p:Int × Int} (h:p∈emP l):∃ x∈l,p=(x.f,x.t):=by
 unfold emP at h
 obtain ⟨x,hx,rfl⟩:=List.mem_map.1 h
 exact ⟨x,(List.mem_filter.1 hx).1,rfl⟩
noncomputable def emC (t:GTrans):Bool:=cycF t.st.toNat (emP t.nf.arcs)
theorem zmw (t:GTrans):t.nf.arcs.length<=t.arcs.length:=zz2 (key:=GTArc.key) (wt:=GTArc.w) (r:=t.ring) (up:=upT t.ring) (fun _ _=>rfl) t.arcs
end Go.Ab
namespace Go.Ab
open Enc (enc)
structure Meas (r:GRing) where
 mb:Nat->GW->Prop
 lim:Nat
 mono:∀ {m n:Nat} {w:GW},mb m w->m<=n->mb n w
 zero:mb 0 r.zero
 plus:∀ {v w:GW} {n:Nat},v.chk r->w.chk r->mb n v->mb n w->mb (n+1) (r.plus v w)
 times:∀ {v w:GW} {m n:Nat},v.chk r->w.chk r->mb m v->mb n w->mb (m+n+1) (r.times v w)
 plusS:∀ {v w:GW} {n:Nat},n<=lim->v.chk r->w.chk r->mb n v->mb n w->Sp P F.ae [enc r,enc v,enc w] (.pure (enc (r.plus v w)))
 timesS:∀ {v w:GW} {n:Nat},n<=lim->v.chk r->w.chk r->mb n v->mb n w->Sp P F.af [enc r,enc v,enc w] (.pure (enc (r.times v w)))
def vb {r:GRing} (M:Meas r) (n:Nat) (l:List GW):Prop:=∀ w∈l,w.chk r/\M.mb n w
theorem zzv {r:GRing} {M:Meas r} {m n:Nat} {l:List GW} (h:vb M m l) (k:m<=n):vb M n l:=fun w hw=>⟨(h w hw).1,M.mono (h w hw).2 k⟩
theorem z86 {r:GRing} {M:Meas r} {n:Nat} {l:List GW} (h:vb M n l) {i:Nat} (hi:i<l.length):(l.getD i r.zero).chk r/\M.mb n (l.getD i r.zero):=by
 rw [List.getD_eq_getElem?_getD,List.getElem?_eq_getElem hi]; exact h _ (List.getElem_mem hi)
def addW (r:GRing) (base:List GW) (x:GTArc) (ends:List GW):List GW:=base.set x.f.toNat (r.plus (base.getD x.f.toNat r.zero) (r.times x.w (ends.getD x.t.toNat r.zero)))
theorem z72 (r:GRing) (base:List GW) (x:GTArc) (ends:List GW):(addW r base x ends).length=base.length:=by simp [addW]
def GTArc.fit (x:GTArc) (N:Nat):Prop:=(0<=x.f/\x.f<N)/\0<=x.t/\x.t<N
end Go.Ab
namespace Go.Ab
section
variable {r:GRing} (M:Meas r)
def accS (r:GRing) (p:GTArc->Option (List GW)) (b:List GW) (x:GTArc):List GW:=match p x with|some e=>addW r b x e|none=>b
def accW (r:GRing) (p:GTArc->Option (List GW)) (l:List GTArc) (base:List GW):List GW:=l.foldl (accS r p) base
def fits {r:GRing} (M:Meas r) (c N:Nat) (l:List GTArc):Prop:=∀ x∈l,(x.w.chk r/\M.mb c x.w)/\x.fit N
def zje (v:List GW) (x:GTArc):Option (List GW):=if emF x=true then some v else none
def sprN (r:GRing) (l:List GTArc) (base:List GW):Nat->List GW
 | 0=>base
 | n+1=>accW r (zje (sprN r l base n)) l base
theorem yd8 {label:Int} {w:List Int} {a:Nat} (ha:a<=w.length):nx label w a<=a+1/\nx label w a<=w.length:=by
 unfold nx
 split
 ·omega
 ·split
  ·rename_i h
   have:=(List.getElem?_eq_some_iff.1 h).1
   omega
  ·omega
theorem yd9 {label:Int} {w:List Int} {a:Nat} (h:0<=nx label w a):(a:Int)<=nx label w a:=by
 unfold nx at *
 split
 ·omega
 ·rename_i h1
  rw [if_neg h1] at h
  split
  ·omega
  ·rename_i h2
   rw [if_neg h2] at h; omega
def zfo (wx wy:List Int) (i k:Nat) (rows:Nat->Nat->List GW) (x:GTArc):Option (List GW) :=
 if 0<=nx x.i wx i/\0<=nx x.o wy k/\(i:Int)+k<nx x.i wx i+nx x.o wy k then some (rows (nx x.i wx i).toNat (nx x.o wy k).toNat) else none
theorem zjz {wx wy:List Int} {i k:Nat} (hi:i<=wx.length) (hk:k<=wy.length) {rows:Nat->Nat->List GW} {x:GTArc} {e:List GW} (h:zfo wx wy i k rows x=some e) :
  ∃ a b:Nat,nx x.i wx i=a/\nx x.o wy k=b/\i<=a/\a<=i+1/\k<=b/\b<=k+1/\a<=wx.length/\b<=wy.length/\i+k<a+b/\e=rows a b:=by
 unfold zfo at h
 split at h
 ·rename_i hc
  obtain ⟨c1,c2,c3⟩:=hc
  have h1:=yd8 (label:=x.i) hi
  have h2:=yd8 (label:=x.o) hk
  have h3:=yd9 c1
  have h4:=yd9 c2
  cases h
  refine ⟨(nx x.i wx i).toNat,(nx x.o wy k).toNat,?_,?_,?_,?_,?_,?_,?_,?_,?_,rfl⟩<;>omega
 ·cases h
def zny (t:GTrans) (wx wy:List Int) (i k:Nat):List GW:=if i=wx.length/\k=wy.length then t.fin else List.replicate t.st.toNat t.ring.zero
def rowW (t:GTrans) (wx wy:List Int) (i k:Nat) (rows:Nat->Nat->List GW):List GW:=accW t.ring (zfo wx wy i k rows) t.arcs (zny t wx wy i k)
def zh9 (t:GTrans) (wx wy:List Int) (i k:Nat) (rows:Nat->Nat->List GW):List GW:=sprN t.ring t.arcs (rowW t wx wy i k rows) t.st.toNat
def valW (t:GTrans) (wx wy:List Int):Nat->Nat->Nat->List GW
 | 0,_,_=>[]
 | n+1,i,k=>zh9 t wx wy i k (valW t wx wy n)
def tabW (t:GTrans) (wx wy:List Int) (i k:Nat):List GW:=valW t wx wy (wx.length - i+(wy.length - k)+1) i k
theorem zps {p q:GTArc->Option (List GW)}:∀ {l:List GTArc} {base:List GW},(∀ x∈l,p x=q x)->accW r p l base=accW r q l base
 | [],_,_=>rfl
 | x::l,base,h=>by
  show accW r p l (accS r p base x)=accW r q l (accS r q base x)
  have:accS r p base x=accS r q base x:=by unfold accS; rw [h x List.mem_cons_self]
  rw [this]
  exact zps fun y hy=>h y (List.mem_cons_of_mem _ hy)
theorem zty {wx wy:List Int} {i k:Nat} (hi:i<=wx.length) (hk:k<=wy.length) {f g:Nat->Nat->List GW} (h:∀ a b:Nat,i<=a->k<=b->a<=wx.length->b<=wy.length->i+k<a+b->f a b=g a b) (x:GTArc):zfo wx wy i k f x=zfo wx wy i k g x:=by
 cases hf:zfo wx wy i k f x with
 | none =>
  unfold zfo at *
  split at hf
  ·cases hf
  ·rename_i hc; rw [if_neg hc]
 | some e =>
  obtain ⟨a,b,h1,h2,h3,h4,h5,h6,h7,h8,h9,rfl⟩:=zjz hi hk hf
  unfold zfo
  rw [h1,h2,if_pos ⟨by omega,by omega,by omega⟩,Int.toNat_natCast,Int.toNat_natCast,h a b h3 h5 h7 h8 h9]
theorem zin {t:GTrans} {wx wy:List Int} {i k:Nat} (hi:i<=wx.length) (hk:k<=wy.length) {f g:Nat->Nat->List GW} (h:∀ a b:Nat,i<=a->k<=b->a<=wx.length->b<=wy.length->i+k<a+b->f a b=g a b):zh9 t wx wy i k f=zh9 t wx wy i k g:=by
 unfold zh9 rowW
 rw [zps fun x _=>zty hi hk h x]
theorem zvw {t:GTrans} {wx wy:List Int}:∀ (n m i k:Nat),i<=wx.length->k<=wy.length->wx.length - i+(wy.length - k)<n->wx.length - i+(wy.length - k)<m->valW t wx wy n i k=valW t wx wy m i k
 | 0,_,_,_,_,_,h,_=>by omega
 | _+1,0,_,_,_,_,_,h=>by omega
 | n+1,m+1,i,k,hi,hk,h1,h2=>by
  show zh9 t wx wy i k _=zh9 t wx wy i k _
  exact zin hi hk fun a b a1 a2 a3 a4 a5=>zvw n m a b a3 a4 (by omega) (by omega)
theorem z9e {t:GTrans} {wx wy:List Int} {i k:Nat} (hi:i<=wx.length) (hk:k<=wy.length):tabW t wx wy i k=zh9 t wx wy i k (tabW t wx wy):=by
 show zh9 t wx wy i k _=_
 exact zin hi hk fun a b a1 a2 a3 a4 a5=>zvw _ _ a b a3 a4 (by omega) (by omega)
structure GTrans.fits {r:GRing} (M:Meas r) (c:Nat) (t:GTrans):Prop where
 ring:t.ring=r
 st:0<=t.st/\t.st<=64
 arcs:Go.Ab.fits M c t.st.toNat t.arcs
 ini:vb M c t.ini/\t.ini.length=t.st.toNat
 fin:vb M c t.fin/\t.fin.length=t.st.toNat
 rok:r.ok=true
theorem z4i (hr:r.ok=true) (n c:Nat):vb M c (List.replicate n r.zero):=fun w hw=>by
 rw [List.eq_of_mem_replicate hw]
 exact ⟨zbo hr,M.mono M.zero (by omega)⟩
variable {M}
def sumW (r:GRing) (ini row:List GW):GW:=(ini.zip row).foldl (fun s p=>r.plus s (r.times p.1 p.2)) r.zero
def sumN (r:GRing) (ini row:List GW) (n:Nat):GW:=((ini.zip row).take n).foldl (fun s p=>r.plus s (r.times p.1 p.2)) r.zero
theorem zl8 {ini row:List GW} {n:Nat} (h1:n<ini.length) (h2:n<row.length):sumN r ini row (n+1)=r.plus (sumN r ini row n) (r.times ini[n] row[n]):=by
 unfold sumN
 rw [List.take_succ_eq_append_getElem (by rw [List.length_zip]; omega),List.foldl_append]
 simp
theorem ztx (hr:r.ok=true) {c E:Nat} {ini row:List GW} (hi:vb M c ini) (he:vb M E row):∀ n,n<=ini.length->n<=row.length->(sumN r ini row n).chk r/\M.mb (c+E+1+n) (sumN r ini row n)
 | 0,_,_=>⟨zbo hr,M.mono M.zero (by omega)⟩
 | n+1,h1,h2=>by
  have ih:=ztx hr hi he n (by omega) (by omega)
  have k1:=hi _ (List.getElem_mem (show n<ini.length by omega))
  have k2:=he _ (List.getElem_mem (show n<row.length by omega))
  rw [zl8 (by omega) (by omega)]
  have ct:=zbq k1.1 k2.1
  exact ⟨zc6 ih.1 ct,M.plus ih.1 ct ih.2 (M.mono (M.times k1.1 k2.1 k1.2 k2.2) (Nat.le_add_right _ _))⟩
theorem zlk {ini row:List GW} {n:Nat} (h:ini.length<=n):sumN r ini row n=sumW r ini row:=by
 unfold sumN sumW
 rw [List.take_of_length_le (by rw [List.length_zip]; omega)]
end
noncomputable def wgt (t:GTrans) (wx wy:List Int):GW:=sumW t.ring t.ini (tabW t wx wy 0 0)
end Go.Ab
namespace Go.Ab
open Enc (enc)
end Go.Ab
namespace Go.Ab
open Enc (enc)
section
variable (t:GTrans) (wx wy:List Int)
end
def zog (w:List Int) (m:Int):Prop:=(1<=m/\m<=32)/\w.length<=256/\∀ x∈w,1<=x/\x<=m
noncomputable instance (w:List Int) (m:Int):Decidable (zog w m):=Classical.propDecidable _
end Go.Ab
namespace Go.Ab
open Enc (enc)
theorem zi4 (a:Int) (d k B:Nat) (h:d*k=6) (hb:a.natAbs<=B):qb 6 (B*k) (Rat.divInt a d):=by
 have h1:qb d B (Rat.divInt a d):=⟨a,Rat.divInt_ofNat a d,hb⟩
 have h2:=zhw k (by rintro rfl; omega) h1
 rwa [h] at h2
def numD (v:Int):Int:=1+IntKind.i64.wrap (v.tdiv 13) % 3
def numR (v:Int):Rat:=Rat.divInt (v % 13 - 6) (numD v)
theorem zmu (v:Int):qb 6 36 (numR v):=by
 have h1:numD v=1\/numD v=2\/numD v=3:=by unfold numD; omega
 have h2:(v % 13 - 6).natAbs<=6:=by omega
 unfold numR
 rcases h1 with h|h|h<;>rw [h]
 ·exact zbr (zi4 _ 1 6 6 rfl h2) (by omega)
 ·exact zbr (zi4 _ 2 3 6 rfl h2) (by omega)
 ·exact zbr (zi4 _ 3 2 6 rfl h2) (by omega)
theorem z8c {B:Nat} {q:Rat} (h:qb 6 B q) (hB:B<4294967296):(rto q).sm 1:=z03 h (by omega) (by omega) (by omega)
theorem zsr (v:Int):Sp P F.jp [.int .i64 v] (.pure (enc (rto (numR v)))):=by
 have e1:IntKind.i64.wrap (v % 13 - 6)=v % 13 - 6:=i64w (by omega) (by omega)
 have e2:IntKind.i64.wrap (1+IntKind.i64.wrap (v.tdiv 13) % 3)=numD v:=i64w (by omega) (by omega)
 have h1:numD v=1\/numD v=2\/numD v=3:=by unfold numD; omega
 refine Sp.vz c.jp fun _=>?_
 simp [g.jp,go_sem]
 refine zab (zcx v 13 (by omega) (by omega)) ?_
 simp [go_sem,e1]
 refine zab (zcx (IntKind.i64.wrap (v.tdiv 13)) 3 (by omega) (by omega)) ?_
 simp [go_sem,e2]
 refine zab (zhb (v % 13 - 6) (numD v) (by omega) (by omega) (by omega)) ?_
 simp [go_sem,numR]
def zsk (v:Int):List GMono :=
 let p:=pput [] ⟨0,0,0⟩ (Rat.divInt (v % 5 - 2) 3)
 if IntKind.i64.wrap (v.tdiv 5) % 2=1 then padd p (pmul (zdk (IntKind.i64.wrap (v.tdiv 10) % 3)) (zb1 (numR v))) else p
def zgg (k v:Int):GW :=
 if k=1 then .mk (rto (numR v)) 0 false 0 [] []
 else if k=2 then (if v % 11=10 then (⟨2,[]⟩:GRing).zero else .mk gr0 (v % 11) false 0 [] [])
 else if k=3 then .mk (rto (Rat.divInt (v % 7) 6)) 0 false 0 [] []
 else if k=4 then .mk gr0 0 false (UInt64.ofNat (v % 16).toNat) [] []
 else .mk gr0 0 false 0 (zsk v) []
theorem zsh (q:Rat):PVal (pput [] ⟨0,0,0⟩ q):=zlo _ _ zhc
theorem zi6 {B:Nat} {q:Rat} (h:qb 6 B q):pqb 6 B (pput [] ⟨0,0,0⟩ q):=by
 have:=zud (zue 6) h (by omega) ⟨0,0,0⟩
 rwa [Nat.zero_add] at this
theorem zow (i:Int):PVal (zdk i):=by
 unfold zdk
 split
 ·refine zak.2 ⟨fun m hm=>?_,List.pairwise_singleton _ _⟩
  rw [List.mem_singleton.1 hm]
  refine GMono.ok_iff.2 ⟨?_,zba 1,by rw [zbd]; decide⟩
  have h3:i=0\/i=1\/i=2:=by omega
  rcases h3 with rfl|rfl|rfl<;>rfl
 ·exact zhc
theorem zsi (i:Int):pqb 1 1 (zdk i):=fun e=>by
 unfold zdk
 split
 ·simp only [pc]
  rw [zbd]
  split
  ·exact ⟨1,by rw [Rat.add_zero]; exact (Rat.mkRat_self 1).symm,by decide⟩
  ·exact zbr (by rw [Rat.add_zero]; exact zj3 1) (by omega)
 ·exact zbr (zj3 1) (by omega)
theorem zox (v:Int):PVal (zsk v)/\pqb 6 1700000 (zsk v):=by
 have h0:qb 6 36 (Rat.divInt (v % 5 - 2) 3):=zbr (zi4 (v % 5 - 2) 3 2 6 rfl (by omega)) (by omega)
 have p0:=zsh (Rat.divInt (v % 5 - 2) 3)
 have q0:=zi6 h0
 unfold zsk
 simp only
 split
 ·have hv:=zow (IntKind.i64.wrap (v.tdiv 10) % 3)
  have hq:=zsi (IntKind.i64.wrap (v.tdiv 10) % 3)
  have hc:pqb 6 36 (zb1 (numR v)):=zi6 (zmu v)
  have hm:=zmn (zdu hq hv) (zdu hc (zen _)) (by omega)
  have l1:=zbe hv
  have l2:=zbe (zen (numR v))
  have h3:(zdk (IntKind.i64.wrap (v.tdiv 10) % 3)).length*((zb1 (numR v)).length*(1*36))<=216*(216*(1*36)):=Nat.mul_le_mul l1 (Nat.mul_le_mul_right _ l2)
  refine ⟨zca _ p0,fun e=>zbr (z04 q0 (fun e=>zbr (hm e) h3) (zbt _ _) (by omega) e) (by omega)⟩
 ·exact ⟨p0,fun e=>zbr (q0 e) (by omega)⟩
theorem z06 (v:Int):Sp P F.bz [enc (rto (Rat.divInt (v % 5 - 2) 3))] (.pure (.sl (ens (pput [] ⟨0,0,0⟩ (Rat.divInt (v % 5 - 2) 3))))):=by
 have h0:qb 6 36 (Rat.divInt (v % 5 - 2) 3):=zbr (zi4 (v % 5 - 2) 3 2 6 rfl (by omega)) (by omega)
 have:=zhl (rto (Rat.divInt (v % 5 - 2) 3)) ((z8c h0 (by omega)).mono (by omega))
 rwa [zbd] at this
theorem qm1 {B:Nat} {q:Rat} (h:qb 6 B q) (hB:B<=6291456):qm 1 q:=by
 unfold qm
 rw [show mD 1=6 from rfl,show mB 1=6291456 from rfl]
 exact zbr h hB
theorem zka {k:Int} (hk:1<=k/\k<=5) (v:Int):(zgg k v).si k/\(zgg k v).mb1 1:=by
 have h:k=1\/k=2\/k=3\/k=4\/k=5:=by omega
 rcases h with rfl|rfl|rfl|rfl|rfl
 ·refine ⟨si1.2 ⟨rfl,rfl,rfl,rfl,rfl,zba _⟩,?_,fun e=>zfe 1⟩
  show qm 1 (rto (numR v)).v
  rw [zbd]; exact qm1 (zmu v) (by omega)
 ·unfold zgg
  rw [if_neg (by omega),if_pos rfl]
  split
  ·exact ⟨zhq (k:=2) (by omega),zki ..⟩
  ·exact ⟨si2.2 ⟨rfl,rfl,rfl,rfl,by show 0<=v % 11; omega,by show v % 11<=1099511627776; omega,fun h=>by cases h⟩,zki ..⟩
 ·have hq:qb 6 6 (Rat.divInt (v % 7) 6):=zbr (zi4 (v % 7) 6 1 6 rfl (by omega)) (by omega)
  refine ⟨si3.2 ⟨rfl,rfl,rfl,rfl,rfl,zba _,?_,?_⟩,?_,fun e=>zfe 1⟩
  ·show 0<=(rto (Rat.divInt (v % 7) 6)).v
   rw [zbd]; exact Rat.divInt_nonneg (by omega) (by omega)
  ·show (rto (Rat.divInt (v % 7) 6)).v<=1
   rw [zbd,Rat.le_iff_sub_nonneg,show (1:Rat)=Rat.divInt 6 6 from rfl,Rat.divInt_sub_divInt _ _ (by omega) (by omega)]
   exact Rat.divInt_nonneg (by omega) (by omega)
  ·show qm 1 (rto (Rat.divInt (v % 7) 6)).v
   rw [zbd]; exact qm1 hq (by omega)
 ·exact ⟨si4.2 ⟨rfl,rfl,rfl,rfl,rfl⟩,zki ..⟩
 ·refine ⟨si5.2 ⟨rfl,rfl,rfl,rfl,rfl,(zox v).1⟩,?_,fun e=>qm1 ((zox v).2 e) (by omega)⟩
  show qm 1 gr0.v
  rw [zgv]; exact zfe 1
theorem z05 (n:Nat) (h:n≠0):4294967296<=4294967296^n:=Nat.le_self_pow h _
theorem zoh (k:Int) (hk:1<=k/\k<=5) (v:Int):Sp P F.ak [enc (⟨k,[]⟩:GRing),.int .i64 v] (.pure (enc (zgg k v))):=by
 have h:k=1\/k=2\/k=3\/k=4\/k=5:=by omega
 rcases h with rfl|rfl|rfl|rfl|rfl
 ·refine Sp.vz c.ak fun _=>?_
  simp [g.ak,go_sem]
  refine zab (zsr v) ?_
  simp [go_sem,zgg]
 ·refine Sp.vz c.ak fun _=>?_
  simp [g.ak,go_sem]
  refine zab (zcx v 11 (by omega) (by omega)) ?_
  simp [go_sem]
  refine ⟨fun h=>?_,fun h=>?_⟩
  ·refine zab (zlh ⟨2,[]⟩) ?_
   simp [go_sem,zgg,h]
  ·refine zab (zcx v 11 (by omega) (by omega)) ?_
   simp [go_sem,zgg,h,gr0]
 ·refine Sp.vz c.ak fun _=>?_
  simp [g.ak,go_sem]
  refine zab (zcx v 7 (by omega) (by omega)) ?_
  simp [go_sem]
  refine zab (zhb (v % 7) 6 (by omega) (by omega) (by omega)) ?_
  simp [go_sem,zgg]
 ·refine Sp.vz c.ak fun _=>?_
  simp [g.ak,go_sem]
  refine zab (zcx v 16 (by omega) (by omega)) ?_
  simp [go_sem,zgg]
  omega
 ·have e1:IntKind.i64.wrap (v % 5 - 2)=v % 5 - 2:=i64w (by omega) (by omega)
  refine Sp.vz c.ak fun _=>?_
  simp [g.ak,go_sem]
  refine zab (zcx v 5 (by omega) (by omega)) ?_
  simp [go_sem,e1]
  refine zab (zhb (v % 5 - 2) 3 (by omega) (by omega) (by omega)) ?_
  simp [go_sem]
  refine zab (z06 v) ?_
  simp [go_sem]
  refine zab (zcx (IntKind.i64.wrap (v.tdiv 5)) 2 (by omega) (by omega)) ?_
  have h0:qb 6 36 (Rat.divInt (v % 5 - 2) 3):=zbr (zi4 (v % 5 - 2) 3 2 6 rfl (by omega)) (by omega)
  have p0:=zsh (Rat.divInt (v % 5 - 2) 3)
  have q0:=zi6 h0
  simp [go_sem]
  refine ⟨fun h=>?_,fun h=>?_⟩
  ·refine zab (zcx (IntKind.i64.wrap (v.tdiv 10)) 3 (by omega) (by omega)) ?_
   simp [go_sem]
   have hv:=zow (IntKind.i64.wrap (v.tdiv 10) % 3)
   have hq:=zsi (IntKind.i64.wrap (v.tdiv 10) % 3)
   have hc:pqb 6 36 (zb1 (numR v)):=zi6 (zmu v)
   have hm:=zmn (zdu hq hv) (zdu hc (zen _)) (by omega)
   have l1:=zbe hv
   have l2:=zbe (zen (numR v))
   have h3:(zdk (IntKind.i64.wrap (v.tdiv 10) % 3)).length*((zb1 (numR v)).length*(1*36))<=216*(216*(1*36)):=Nat.mul_le_mul l1 (Nat.mul_le_mul_right _ l2)
   have big:=z05 1048576 (by omega)
   have hmv:=zbt (zdk (IntKind.i64.wrap (v.tdiv 10) % 3)) (zb1 (numR v))
   have s1:=z0o (zdk (IntKind.i64.wrap (v.tdiv 10) % 3)) (rto (numR v)) 1 6 1 36 hv hq (by rw [zbd]; exact zmu v) (by omega) (by omega) (by omega) (by omega) (fun m hm=>(zff (n:=1) hq hv (by omega) (by omega) (by omega) m hm).mono (by omega)) ((z8c (zmu v) (by omega)).mono (by omega))
   have s2:=z4d (pput [] ⟨0,0,0⟩ (Rat.divInt (v % 5 - 2) 3)) (pmul (zdk (IntKind.i64.wrap (v.tdiv 10) % 3)) (zb1 (numR v))) 6 36 1679616 p0 hmv q0 (fun e=>zbr (hm e) h3) (by omega) (by omega) (by omega)
   rw [zbd] at s1
   refine zab (zp7 (IntKind.i64.wrap (v.tdiv 10) % 3)) ?_
   simp [go_sem]
   refine zab (zsr v) ?_
   simp [go_sem]
   refine zab s1 ?_
   simp [go_sem]
   refine zab s2 ?_
   simp [go_sem,zgg,zsk,h]
  ·simp [go_sem,zgg,zsk,h]
def zdl (ks:List Int) (v:Int) (n:Nat):List GW:=(List.range n).map fun i=>zgg (ks.getD i 0) (IntKind.i64.wrap (v+i))
def zj9 (r:GRing) (v:Int):GW:=if r.kind=6 then .mk gr0 0 false 0 [] (zdl r.parts v r.parts.length) else zgg r.kind v
theorem zuj (ks:List Int) (v:Int) (n:Nat) (h:n<ks.length):zdl ks v (n+1)=zdl ks v n++[zgg ks[n] (IntKind.i64.wrap (v+n))]:=by
 unfold zdl
 rw [List.range_succ,List.map_append]
 simp [List.getElem?_eq_getElem h]
theorem zfu (ks:List Int) (v:Int) (n:Nat):(zdl ks v n).length=n:=by simp [zdl]
theorem zyt {r:GRing} (hr:r.ok=true) (v:Int):(zj9 r v).chk r/\(zj9 r v).mb 1:=by
 unfold zj9
 by_cases h6:r.kind=6
 ·have hp:=GRing.ok_parts hr h6
  have hs:∀ i,(h:i<r.parts.length)->(h':i<(zdl r.parts v r.parts.length).length)->(zdl r.parts v r.parts.length)[i].si r.parts[i]/\(zdl r.parts v r.parts.length)[i].mb1 1:=fun i h h'=>by
   have e:(zdl r.parts v r.parts.length)[i]=zgg r.parts[i] (IntKind.i64.wrap (v+i)):=by simp [zdl,List.getElem?_eq_getElem h]
   rw [e]; exact zka (hp.2.2 _ (List.getElem_mem h)) _
  rw [if_pos h6]
  refine ⟨⟨hr,fun h=>absurd h6 h,fun _=>⟨zfu ..,rfl,fun i h h'=>(hs i h h').1⟩⟩,⟨zq6 ..,fun x hx=>?_⟩⟩
  obtain ⟨i,hi,rfl⟩:=List.mem_iff_getElem.1 hx
  have hi':i<(zdl r.parts v r.parts.length).length:=hi
  exact (hs i (by rw [zfu] at hi'; exact hi') hi').2
 ·have hk:=GRing.ok_kind hr h6
  have h:=zka ⟨hk.1,hk.2.1⟩ v
  rw [if_neg h6]
  refine ⟨⟨hr,fun _=>h.1,fun h'=>absurd h' h6⟩,⟨h.2,fun x hx=>?_⟩⟩
  rw [h.1.1] at hx; cases hx
theorem zoi (r:GRing) (hr:r.ok=true) (v:Int):Sp P F.ak [enc r,.int .i64 v] (.pure (enc (zj9 r v))):=by
 by_cases h6:r.kind=6
 rotate_left
 ·have hk:=GRing.ok_kind hr h6
  have e:r=⟨r.kind,[]⟩:=by rw [<- hk.2.2]
  have:=zoh r.kind ⟨hk.1,hk.2.1⟩ v
  rw [<- e] at this
  rw [show zj9 r v=zgg r.kind v by unfold zj9; rw [if_neg h6]]
  exact this
 ·have hp:=GRing.ok_parts hr h6
  refine Sp.vz c.ak fun _=>?_
  simp [g.ak,go_sem,h6]
  refine zai (S:=fun k:Nat=>mkSt [(1,.p (.int .i64 v)),(2,.ptr 2 0 0 0),(4,.ptr 4 0 0 0),(6,.ptr 6 0 0 0),(7,.p (.int .i64 k))]
    [(2,⟨2,[.p (enc r)]⟩),(4,⟨8,[.agg [.p (.bool false),.nil,.nil,.p (.int .i64 0),.p (.bool false),.p (.int .u64 0),.nil,.nil]]⟩),
     (6,⟨8,[.agg [.p (.bool false),.nil,.nil,.p (.int .i64 0),.p (.bool false),.p (.int .u64 0),.nil,.own 5 0 0 k]]⟩),(5,⟨8,avs (zdl r.parts v k)⟩)])
   (I:=fun k=>k<=r.parts.length) (m:=fun k=>r.parts.length - k) 0
   ((Weak.nilCell (s0:=6) (g0:=0) (i:=7) (s:=77) (sz:=8) rfl).trans (Weak.to [1,2,4,6,7] [((2,0),2),((4,0),4),((6,0),6),((77,0),5)] (by simp [go_sem,zdl,h6]))) (by omega) ?_
  rintro k h1 R hn' hr' hx
  have e1:=i64s k (by omega)
  simp [g.o6,mkSt,go_sem]
  refine ⟨fun hk=>?_,fun hk=>hx _ _ ?_⟩
  ·refine zae hk ?_
   try simp [go_sem]
   have hc:=zoh r.parts[k] (hp.2.2 _ (List.getElem_mem hk)) (IntKind.i64.wrap (v+k))
   have hts:=zuj r.parts v k hk
   have hlen:=zfu r.parts v k
   refine zab hc ?_
   simp [go_sem,e1,hlen]
   exact ⟨by omega,hn' (k+1) _ (Weak.to [1,2,4,6,7] [((2,0),2),((4,0),4),((6,0),6),((80,0),5)] (by simp [go_sem,mkSt,hts,h6])) (by omega) (by omega)⟩
  ·have:k=r.parts.length:=by omega
   subst this
   have hW:zj9 r v=.mk gr0 0 false 0 [] (zdl r.parts v r.parts.length):=by unfold zj9; rw [if_pos h6]
   have hT:(zdl r.parts v r.parts.length).take r.parts.length=zdl r.parts v r.parts.length:=List.take_of_length_le (by rw [zfu]; omega)
   simp [go_sem,hW,hT,zfu,gr0]
end Go.Ab
namespace Go.Ab
open Enc (enc)
def zmg (k:Int):GRing:=if k % 7=5 then ⟨6,[1,2]⟩ else if k % 7=6 then ⟨6,[3,4,5]⟩ else ⟨k % 7+1,[]⟩
theorem zv6 (k:Int):(zmg k).ok=true:=by
 have h:k % 7=0\/k % 7=1\/k % 7=2\/k % 7=3\/k % 7=4\/k % 7=5\/k % 7=6:=by omega
 unfold zmg
 rcases h with h|h|h|h|h|h|h<;>rw [h]<;>decide
theorem z9t (k:Int):Sp P F.i9 [.int .i64 k] (.pure (enc (zmg k))):=by
 have e1:IntKind.i64.wrap (k % 7+1)=k % 7+1:=i64w (by omega) (by omega)
 refine Sp.vz c.i9 fun _=>?_
 simp [g.i9,go_sem]
 refine zab (zcx k 7 (by omega) (by omega)) ?_
 simp [go_sem]
 refine ⟨fun h=>by simp [zmg,h,go_sem],fun h=>⟨fun h2=>by simp [zmg,h,h2,go_sem],fun h2=>?_⟩⟩
 have:=zcx (k % 7) 7 (by omega) (by omega)
 rw [Int.emod_emod] at this
 refine zab this ?_
 simp [go_sem,zmg,h,h2,e1]
theorem z1v {k:Int} (hk:1<=k/\k<=5):(oneW k []).si k/\(oneW k []).mb1 1:=by
 have h:k=1\/k=2\/k=3\/k=4\/k=5:=by omega
 have hq:qm 1 (1:Rat):=qm1 (zi4 1 1 6 1 rfl (by decide)) (by omega)
 rcases h with rfl|rfl|rfl|rfl|rfl
 ·exact ⟨si1.2 ⟨rfl,rfl,rfl,rfl,rfl,zba 1⟩,by show qm 1 (rto 1).v; rw [zbd]; exact hq,fun e=>zfe 1⟩
 ·exact ⟨si2.2 ⟨rfl,rfl,rfl,rfl,by decide,by decide,fun h=>by cases h⟩,zki ..⟩
 ·refine ⟨si3.2 ⟨rfl,rfl,rfl,rfl,rfl,zba 1,?_,?_⟩,by show qm 1 (rto 1).v; rw [zbd]; exact hq,fun e=>zfe 1⟩
  ·show 0<=(rto 1).v
   rw [zbd]; decide
  ·show (rto 1).v<=1
   rw [zbd]; exact Rat.le_refl
 ·exact ⟨si4.2 ⟨rfl,rfl,rfl,rfl,rfl⟩,zki ..⟩
 ·refine ⟨si5.2 ⟨rfl,rfl,rfl,rfl,rfl,zen 1⟩,?_,fun e=>?_⟩
  ·show qm 1 gr0.v
   rw [zgv]; exact zfe 1
  ·have h1:pqb 6 6 (zb1 1):=zi6 (zi4 1 1 6 1 rfl (by decide))
   exact qm1 (h1 e) (by omega)
theorem z6c {r:GRing} (hr:r.ok=true):r.one.chk r/\r.one.mb 1:=by
 unfold GRing.one
 rw [if_pos hr]
 by_cases h6:r.kind=6
 ·have hp:=GRing.ok_parts hr h6
  rw [h6]
  have e:oneW 6 (r.parts.map fun k=>oneW k [])=.mk gr0 0 false 0 [] (r.parts.map fun k=>oneW k []):=rfl
  rw [e]
  have hs:∀ i,(h:i<r.parts.length)->(h':i<(r.parts.map fun k=>oneW k []).length)->(r.parts.map fun k=>oneW k [])[i].si r.parts[i]/\(r.parts.map fun k=>oneW k [])[i].mb1 1:=fun i h h'=>by
   rw [List.getElem_map]; exact z1v (hp.2.2 _ (List.getElem_mem h))
  refine ⟨⟨hr,fun h=>absurd h6 h,fun _=>⟨List.length_map ..,rfl,fun i h h'=>(hs i h h').1⟩⟩,⟨zq6 ..,fun x hx=>?_⟩⟩
  obtain ⟨i,hi,rfl⟩:=List.mem_iff_getElem.1 hx
  have hi':i<(r.parts.map fun k=>oneW k []).length:=hi
  exact (hs i (by rw [List.length_map] at hi'; exact hi') hi').2
 ·have hk:=GRing.ok_kind hr h6
  have h:=z1v ⟨hk.1,hk.2.1⟩
  rw [hk.2.2]
  exact ⟨⟨hr,fun _=>h.1,fun h'=>absurd h' h6⟩,⟨h.2,fun x hx=>by rw [show (oneW r.kind ([].map fun k=>oneW k [])).parts=[] from h.1.1] at hx; cases hx⟩⟩
def endM (r:GRing) (l:List Int) (i:Nat) (one:Int):GW:=if h:i<l.length then zj9 r l[i] else if (i:Int)=one then r.one else r.zero
theorem z4k {r:GRing} (hr:r.ok=true):r.zero.mb 0:=by
 unfold GRing.zero
 rw [if_pos hr]
 refine ⟨zq6 ..,fun x hx=>?_⟩
 obtain ⟨k,_,rfl⟩:=List.mem_map.1 hx
 exact zki ..
theorem z8t (r:GRing) (hr:r.ok=true) (l:List Int) (i:Nat) (one:Int):Sp P F.fi [enc r,.sl (ens l),.int .i64 i,.int .i64 one] (.pure (enc (endM r l i one))):=by
 refine Sp.vz c.fi fun _=>?_
 simp [g.fi,go_sem]
 refine ⟨fun h=>zae h ?_,fun h=>⟨fun h2=>?_,fun h2=>?_⟩⟩
 ·refine zab (zoi r hr l[i]) ?_
  simp [go_sem,endM,h]
 ·refine zab (z1x r) ?_
  simp [go_sem,endM,h2,show ¬ i<l.length by omega]
 ·refine zab (zlh r) ?_
  simp [go_sem,endM,h2,show ¬ i<l.length by omega]
end Go.Ab
namespace Go.Ab
open Enc (enc)
structure GModel where
 st:Int
 ini:List Int
 fin:List Int
 arcs:List Int
 em:Bool
instance:Enc GModel:=⟨fun x=>.agg [.int .i64 x.st,.sl (ens x.ini),.sl (ens x.fin),.sl (ens x.arcs),.bool x.em],5,by decide,fun _=>rfl⟩
@[go_sem] theorem ye0 (x:GModel):enc x=.agg [.int .i64 x.st,.sl (ens x.ini),.sl (ens x.fin),.sl (ens x.arcs),.bool x.em]:=rfl
@[go_sem] theorem ybn:Enc.sz GModel=5:=rfl
def numN (m:GModel) (s:Int):Int:=1+IntKind.i64.wrap (m.st - 1) % s
def quoI (a b:Int):Int:=IntKind.i64.wrap (a.tdiv b)
def arcM (m:GModel) (r:GRing) (i o n a b c d:Int):GTArc:=⟨a % n,if m.em=true then b % (i+1) else 1+b % i,if m.em=true then quoI b (i+1) % (o+1) else 1+quoI b i % o,c % n,zj9 r d⟩
def zlf (m:GModel) (r:GRing) (i o n:Int) (k:Nat):List GTArc:=(List.range k).map fun j=>arcM m r i o n (m.arcs.getD (4*j) 0) (m.arcs.getD (4*j+1) 0) (m.arcs.getD (4*j+2) 0) (m.arcs.getD (4*j+3) 0)
def zfk (r:GRing) (l:List Int) (one:Int) (k:Nat):List GW:=(List.range k).map fun j=>endM r l j one
def ziv (m:GModel) (r:GRing) (i o s:Int):GTrans:=⟨r,i,o,numN m s,zfk r m.ini 0 (numN m s).toNat,zfk r m.fin (numN m s - 1) (numN m s).toNat,zlf m r i o (numN m s) (min 7 (m.arcs.length / 4))⟩
theorem zy3 (r:GRing) (l:List Int) (one:Int) (k:Nat):zfk r l one (k+1)=zfk r l one k++[endM r l k one]:=by
 unfold zfk; rw [List.range_succ,List.map_append]; rfl
theorem zey (r:GRing) (l:List Int) (one:Int) (k:Nat):(zfk r l one k).length=k:=by simp [zfk]
theorem zju (m:GModel) (r:GRing) (i o n:Int) (k:Nat):(zlf m r i o n k).length=k:=by simp [zlf]
theorem zzl (m:GModel) (r:GRing) (i o n:Int) (k:Nat) (h:4*k+3<m.arcs.length):zlf m r i o n (k+1)=zlf m r i o n k++[arcM m r i o n m.arcs[4*k] m.arcs[4*k+1] m.arcs[4*k+2] m.arcs[4*k+3]]:=by
 unfold zlf
 rw [List.range_succ,List.map_append]
 simp [List.getElem?_eq_getElem (show 4*k<m.arcs.length by omega),List.getElem?_eq_getElem (show 4*k+1<m.arcs.length by omega),List.getElem?_eq_getElem (show 4*k+2<m.arcs.length by omega),List.getElem?_eq_getElem h]
theorem z4p (m:GModel) (r:GRing) (i o s:Int) (hr:r.ok=true) (hi:1<=i/\i<=32) (ho:1<=o/\o<=32) (hs:1<=s/\s<=64):Sp P F.i7 [enc m,enc r,.int .i64 i,.int .i64 o,.int .i64 s] (.pure (enc (ziv m r i o s))):=by
 have hn:1<=numN m s/\numN m s<=s:=by
  have h1:=Int.emod_nonneg (IntKind.i64.wrap (m.st - 1)) (show s≠0 by omega)
  have h2:=Int.emod_lt_of_pos (IntKind.i64.wrap (m.st - 1)) (show 0<s by omega)
  unfold numN; omega
 have e0:IntKind.i64.wrap (1+IntKind.i64.wrap (m.st - 1) % s)=numN m s:=i64w (by unfold numN at hn; omega) (by unfold numN at hn; omega)
 have hT:ziv m r i o s=⟨r,i,o,numN m s,zfk r m.ini 0 (numN m s).toNat,zfk r m.fin (numN m s - 1) (numN m s).toNat,zlf m r i o (numN m s) (min 7 (m.arcs.length / 4))⟩:=rfl
 refine Sp.vz c.i7 fun _=>?_
 simp [g.i7,go_sem]
 refine zab (zcx (IntKind.i64.wrap (m.st - 1)) s (by omega) (by omega)) ?_
 simp [go_sem,e0]
 generalize numN m s=n at *
 obtain ⟨nn,rfl⟩:∃ nn:Nat,n=nn:=⟨n.toNat,by omega⟩
 have e5:IntKind.i64.wrap ((nn:Int) - 1)=(nn:Int) - 1:=i64w (by omega) (by omega)
 refine zai (S:=fun k:Nat=>mkSt [(2,.p (.int .i64 i)),(3,.p (.int .i64 o)),(5,.ptr 5 0 0 0),(6,.ptr 6 0 0 0),(10,.ptr 10 0 0 0),(11,.p (.int .i64 nn)),(12,.ptr 12 0 0 0),(13,.p (.int .i64 k))]
   [(5,⟨5,[.p (enc m)]⟩),(6,⟨2,[.p (enc r)]⟩),(10,⟨8,[.agg [.p (.int .i64 0),.nil,.p (.int .i64 0),.p (.int .i64 0),.p (.int .i64 0),.nil,.nil,.nil]]⟩),
    (12,⟨8,[.agg [.p (.int .i64 r.kind),.p (.sl (ens r.parts)),.p (.int .i64 i),.p (.int .i64 o),.p (.int .i64 nn),.own 1 0 0 k,.own 2 0 0 k,.nil]]⟩),(1,⟨8,avs (zfk r m.ini 0 k)⟩),(2,⟨8,avs (zfk r m.fin (nn - 1) k)⟩)])
  (I:=fun k=>k<=nn) (m:=fun k=>nn - k) 0
  ((Weak.nilCell (s0:=12) (g0:=0) (i:=5) (s:=77) (sz:=8) rfl).trans ((Weak.nilCell (s0:=12) (g0:=0) (i:=6) (s:=78) (sz:=8) rfl).trans (Weak.to [2,3,5,6,10,11,12,13] [((5,0),5),((6,0),6),((10,0),10),((12,0),12),((77,0),1),((78,0),2)] (by simp [go_sem,zfk])))) (by omega) ?_
 rintro k h1 R hn' hr' hx
 have e1:=i64s k (by omega)
 simp [g.oi,mkSt,go_sem]
 refine ⟨fun hk=>?_,fun hk=>hx _ _ ?_⟩
 ·refine zab (z8t r hr m.ini k 0) ?_
  simp [go_sem,e5,zey]
  refine ⟨by omega,?_⟩
  refine zab (z8t r hr m.fin k (nn - 1)) ?_
  simp [go_sem,e1,zey]
  refine ⟨by omega,?_⟩
  exact hn' (k+1) _ (Weak.to [2,3,5,6,10,11,12,13] [((5,0),5),((6,0),6),((10,0),10),((12,0),12),((40,0),1),((52,0),2)] (by simp [go_sem,mkSt,zy3])) (by omega) (by omega)
 ·obtain rfl:nn=k:=by omega
  simp [go_sem]
  generalize hJ:min 7 (m.arcs.length / 4)=J at *
  refine zai (S:=fun j:Nat=>mkSt [(2,.p (.int .i64 i)),(3,.p (.int .i64 o)),(5,.ptr 5 0 0 0),(6,.ptr 6 0 0 0),(10,.ptr 10 0 0 0),(11,.p (.int .i64 nn)),(12,.ptr 12 0 0 0),(14,.p (.int .i64 (4*(j:Int))))]
    [(5,⟨5,[.p (enc m)]⟩),(6,⟨2,[.p (enc r)]⟩),(10,⟨8,[.agg [.p (.int .i64 0),.nil,.p (.int .i64 0),.p (.int .i64 0),.p (.int .i64 0),.nil,.nil,.nil]]⟩),
     (12,⟨8,[.agg [.p (.int .i64 r.kind),.p (.sl (ens r.parts)),.p (.int .i64 i),.p (.int .i64 o),.p (.int .i64 nn),.own 1 0 0 nn,.own 2 0 0 nn,.own 3 0 0 j]]⟩),(1,⟨8,avs (zfk r m.ini 0 nn)⟩),(2,⟨8,avs (zfk r m.fin (nn - 1) nn)⟩),(3,⟨12,avs (zlf m r i o nn j)⟩)])
   (I:=fun j=>j<=J) (m:=fun j=>J - j) 0
   ((Weak.nilCell (s0:=12) (g0:=0) (i:=7) (s:=77) (sz:=12) rfl).trans (Weak.to [2,3,5,6,10,11,12,14] [((5,0),5),((6,0),6),((10,0),10),((12,0),12),((1,0),1),((2,0),2),((77,0),3)] (by simp [go_sem,zlf]))) (by omega) ?_
  rintro j h2 R2 hn2 hr2 hx2
  have f1:IntKind.i64.wrap (4*(j:Int)+1)=4*(j:Int)+1:=i64w (by omega) (by omega)
  have f2:IntKind.i64.wrap (4*(j:Int)+2)=4*(j:Int)+2:=i64w (by omega) (by omega)
  have f3:IntKind.i64.wrap (4*(j:Int)+3)=4*(j:Int)+3:=i64w (by omega) (by omega)
  have f4:IntKind.i64.wrap (4*(j:Int)+4)=4*((j+1:Nat):Int):=by rw [i64w (by omega) (by omega)]; omega
  have g0:(4*(j:Int)).toNat=4*j:=by omega
  have g1:(4*(j:Int)+1).toNat=4*j+1:=by omega
  have g2:(4*(j:Int)+2).toNat=4*j+2:=by omega
  have g3:(4*(j:Int)+3).toNat=4*j+3:=by omega
  have p0:0<=4*(j:Int):=by omega
  have p1:0<=4*(j:Int)+1:=by omega
  have p2:0<=4*(j:Int)+2:=by omega
  have p3:0<=4*(j:Int)+3:=by omega
  simp [g.oj,mkSt,go_sem,f3,f2,f1,g0,p0]
  refine ⟨fun a1=>⟨fun a2=>?_,fun a2=>hx2 _ _ ?_⟩,fun a1=>hx2 _ _ ?_⟩
  ·have hj:4*j+3<m.arcs.length:=by omega
   have hsu:=zzl m r i o nn j hj
   have hln:=zju m r i o nn j
   refine zae (by omega) ?_
   refine zab (zcx m.arcs[4*j] nn (by omega) (by omega)) ?_
   simp [go_sem,f2,g2,p2]
   refine zae (by omega) ?_
   refine zab (zcx m.arcs[4*j+2] nn (by omega) (by omega)) ?_
   simp [go_sem,f3,g3,p3]
   refine zae (by omega) ?_
   refine zab (zoi r hr m.arcs[4*j+3]) ?_
   simp [go_sem,f1,g1,p1]
   refine zae (by omega) ?_
   refine zab (zcx m.arcs[4*j+1] i (by omega) (by omega)) ?_
   have b1:=Int.emod_nonneg m.arcs[4*j+1] (show i≠0 by omega)
   have b2:=Int.emod_lt_of_pos m.arcs[4*j+1] (show 0<i by omega)
   have w1:IntKind.i64.wrap (1+m.arcs[4*j+1] % i)=1+m.arcs[4*j+1] % i:=i64w (by omega) (by omega)
   simp [go_sem,f1,g1,p1,w1]
   refine zae (by omega) ⟨by omega,?_⟩
   refine zaa (zcx (quoI m.arcs[4*j+1] i) o (by omega) (by omega)) (by simp [go_sem,quoI]) ?_
   have c1:=Int.emod_nonneg (quoI m.arcs[4*j+1] i) (show o≠0 by omega)
   have c2:=Int.emod_lt_of_pos (quoI m.arcs[4*j+1] i) (show 0<o by omega)
   have w2:IntKind.i64.wrap (1+quoI m.arcs[4*j+1] i % o)=1+quoI m.arcs[4*j+1] i % o:=i64w (by omega) (by omega)
   simp [go_sem,w2]
   refine ⟨fun hem=>?_,fun hem=>?_⟩
   ·have wi:IntKind.i64.wrap (i+1)=i+1:=i64w (by omega) (by omega)
    have wo:IntKind.i64.wrap (o+1)=o+1:=i64w (by omega) (by omega)
    simp [go_sem,f1,g1,p1,wi]
    refine zae (by omega) ?_
    refine zab (zcx m.arcs[4*j+1] (i+1) (by omega) (by omega)) ?_
    simp [go_sem,f1,g1,p1,wi,wo]
    refine zae (by omega) ⟨by omega,?_⟩
    refine zaa (zcx (quoI m.arcs[4*j+1] (i+1)) (o+1) (by omega) (by omega)) (by simp [go_sem,quoI]) ?_
    simp [go_sem,f4,hln]
    exact ⟨by omega,hn2 (j+1) _ (Weak.to [2,3,5,6,10,11,12,14] [((5,0),5),((6,0),6),((10,0),10),((12,0),12),((1,0),1),((2,0),2),((141,0),3)] (by simp [go_sem,mkSt,hsu,arcM,hem])) (by omega) (by omega)⟩
   ·simp [go_sem,f4,hln]
    exact ⟨by omega,hn2 (j+1) _ (Weak.to [2,3,5,6,10,11,12,14] [((5,0),5),((6,0),6),((10,0),10),((12,0),12),((1,0),1),((2,0),2),((141,0),3)] (by simp [go_sem,mkSt,hsu,arcM,hem])) (by omega) (by omega)⟩
  all_goals
   obtain rfl:j=J:=by omega
   have t1:(zfk r m.ini 0 nn).take nn=zfk r m.ini 0 nn:=List.take_of_length_le (by rw [zey]; omega)
   have t2:(zfk r m.fin (nn - 1) nn).take nn=zfk r m.fin (nn - 1) nn:=List.take_of_length_le (by rw [zey]; omega)
   have t3:(zlf m r i o nn j).take j=zlf m r i o nn j:=List.take_of_length_le (by rw [zju]; omega)
   simp [go_sem,hT,zey,zju,t1,t2,t3]
end Go.Ab
namespace Go.Ab
theorem zyw {α β : Type} {f : β -> α -> β} {Pb : β -> Prop} {Qa : α -> Prop} (hp:∀ b x,Pb b->Qa x->Pb (f b x)) (hc:∀ b x y,Pb b->Qa x->Qa y->f (f b x) y=f (f b y) x) {l l':List α} (h:l.Perm l') :
  (∀ x∈l,Qa x)->∀ b,Pb b->l.foldl f b=l'.foldl f b:=by
 induction h with
 | nil=>intro _ b _; rfl
 | cons x _ ih=>intro hq b hb; exact ih (fun y hy=>hq y (List.mem_cons_of_mem _ hy)) _ (hp b x hb (hq x List.mem_cons_self))
 | swap x y l=>intro hq b hb; simp only [List.foldl_cons]; rw [hc b y x hb (hq y List.mem_cons_self) (hq x (List.mem_cons_of_mem _ List.mem_cons_self))]
 | trans h1 _ ih1 ih2=>intro hq b hb; rw [ih1 hq b hb,ih2 (fun y hy=>hq y (h1.mem_iff.2 hy)) b hb]
section
variable {r:GRing}
def ckL (r:GRing) (N:Nat) (l:List GW):Prop:=(∀ w∈l,w.chk r)/\l.length=N
theorem zjs {N:Nat} {l:List GW} (h:ckL r N l) {i:Nat} (hi:i<N):(l.getD i r.zero).chk r:=by
 rw [List.getD_eq_getElem?_getD,List.getElem?_eq_getElem (by rw [h.2]; exact hi)]; exact h.1 _ (List.getElem_mem _)
theorem yb6 {N:Nat} {b e:List GW} {x:GTArc} (hb:ckL r N b) (he:ckL r N e) (hw:x.w.chk r) (hx:x.fit N):ckL r N (addW r b x e):=by
 refine ⟨fun w hw'=>?_,by rw [z72]; exact hb.2⟩
 obtain ⟨⟨a1,a2⟩,a3,a4⟩:=hx
 rcases List.mem_or_eq_of_mem_set hw' with h|h
 ·exact hb.1 w h
 ·rw [h]; exact zc6 (zjs hb (by omega)) (zbq hw (zjs he (by omega)))
theorem z4c {N:Nat} {b e e':List GW} {x y:GTArc} (hb:ckL r N b) (he:ckL r N e) (he':ckL r N e') (hwx:x.w.chk r) (hwy:y.w.chk r) (hx:x.fit N) (hy:y.fit N):addW r (addW r b x e) y e'=addW r (addW r b y e') x e:=by
 obtain ⟨⟨a1,a2⟩,a3,a4⟩:=hx
 obtain ⟨⟨b1,b2⟩,b3,b4⟩:=hy
 have c1:=zbq hwx (zjs he (i:=x.t.toNat) (by omega))
 have c2:=zbq hwy (zjs he' (i:=y.t.toNat) (by omega))
 have lb:=hb.2
 unfold addW
 generalize r.times x.w (e.getD x.t.toNat r.zero)=tx at *
 generalize r.times y.w (e'.getD y.t.toNat r.zero)=ty at *
 have hfx:x.f.toNat<b.length:=by omega
 have hfy:y.f.toNat<b.length:=by omega
 generalize x.f.toNat=i at *
 generalize y.f.toNat=j at *
 by_cases hij:i=j
 ·subst hij
  have c0:(b.getD i r.zero).chk r:=zjs hb (by omega)
  have g1:∀ v:GW,(b.set i v).getD i r.zero=v:=fun v=>by
   rw [List.getD_eq_getElem?_getD,List.getElem?_set_self hfx]; rfl
  rw [g1,g1,List.set_set,List.set_set,zcj c0 c1 c2,zcj c0 c2 c1,zfs c1 c2]
 ·have g1:∀ v:GW,(b.set i v).getD j r.zero=b.getD j r.zero:=fun v=>by
   rw [List.getD_eq_getElem?_getD,List.getElem?_set_ne hij,<- List.getD_eq_getElem?_getD]
  have g2:∀ v:GW,(b.set j v).getD i r.zero=b.getD i r.zero:=fun v=>by
   rw [List.getD_eq_getElem?_getD,List.getElem?_set_ne (Ne.symm hij),<- List.getD_eq_getElem?_getD]
  rw [g1,g2,List.set_comm _ _ hij]
def okA (r:GRing) (N:Nat) (p:GTArc->Option (List GW)) (x:GTArc):Prop:=x.w.chk r/\x.fit N/\∀ e,p x=some e->ckL r N e
theorem zvo {N:Nat} {p:GTArc->Option (List GW)} {b:List GW} {x:GTArc} (hb:ckL r N b) (hx:okA r N p x):ckL r N (accS r p b x):=by
 unfold accS
 cases h:p x with
 | none=>exact hb
 | some e=>exact yb6 hb (hx.2.2 e h) hx.1 hx.2.1
theorem z4e {N:Nat} {p:GTArc->Option (List GW)} {b:List GW} {x y:GTArc} (hb:ckL r N b) (hx:okA r N p x) (hy:okA r N p y):accS r p (accS r p b x) y=accS r p (accS r p b y) x:=by
 unfold accS
 cases h:p x with
 | none=>rfl
 | some e =>
  cases h':p y with
  | none=>rfl
  | some e'=>exact z4c hb (hx.2.2 e h) (hy.2.2 e' h') hx.1 hy.1 hx.2.1 hy.2.1
theorem zrp {N:Nat} {p:GTArc->Option (List GW)}:∀ {l:List GTArc} {b:List GW},ckL r N b->(∀ x∈l,okA r N p x)->ckL r N (accW r p l b)
 | [],_,hb,_=>hb
 | x::l,b,hb,h=>zrp (l:=l) (zvo hb (h x List.mem_cons_self)) fun y hy=>h y (List.mem_cons_of_mem _ hy)
theorem zts {N:Nat} {p:GTArc->Option (List GW)} {l l':List GTArc} (hl:l.Perm l') {b:List GW} (hb:ckL r N b) (h:∀ x∈l,okA r N p x):accW r p l b=accW r p l' b :=
 zyw (Pb:=ckL r N) (Qa:=okA r N p) (fun _ _=>zvo) (fun _ _ _=>z4e) hl h b hb
theorem zro {p q:GTArc->Option (List GW)} (f:GTArc->GTArc) (hf:∀ x,(f x).f=x.f/\(f x).t=x.t/\(f x).w=x.w):∀ {l:List GTArc} {b:List GW},(∀ x∈l,p (f x)=q x)->accW r p (l.map f) b=accW r q l b
 | [],_,_=>rfl
 | x::l,b,h=>by
  show accW r p (l.map f) (accS r p b (f x))=accW r q l (accS r q b x)
  have:accS r p b (f x)=accS r q b x:=by
   unfold accS
   rw [h x List.mem_cons_self]
   cases q x with
   | none=>rfl
   | some e =>
    obtain ⟨h1,h2,h3⟩:=hf x
    simp only [addW,h1,h2,h3]
  rw [this]
  exact zro f hf fun y hy=>h y (List.mem_cons_of_mem _ hy)
theorem z3b (x:GTArc):emF (swT x)=emF x:=by
 unfold emF swT
 exact Bool.and_comm _ _
def zpr (r:GRing) (N:Nat) (l:List GTArc):Prop:=∀ x∈l,x.w.chk r/\x.fit N
theorem ztz {N:Nat} {l l':List GTArc} (hl:l'.Perm (l.map swT)) {b:List GW} (hb:ckL r N b) (h:zpr r N l):∀ n,sprN r l' b n=sprN r l b n/\ckL r N (sprN r l b n)
 | 0=>⟨rfl,hb⟩
 | n+1=>by
  obtain ⟨ih,ik⟩:=ztz hl hb h n
  have hok:∀ x∈l,okA r N (zje (sprN r l b n)) x:=fun x hx=>⟨(h x hx).1,(h x hx).2,fun e he=>by
   unfold zje at he
   split at he
   ·cases he; exact ik
   ·cases he⟩
  refine ⟨?_,zrp hb hok⟩
  show accW r (zje (sprN r l' b n)) l' b=accW r (zje (sprN r l b n)) l b
  rw [ih]
  have hok':∀ x∈l',okA r N (zje (sprN r l b n)) x:=fun x hx=>by
   obtain ⟨y,hy,rfl⟩:=List.mem_map.1 (hl.mem_iff.1 hx)
   refine ⟨(h y hy).1,(h y hy).2,fun e he=>(hok y hy).2.2 e ?_⟩
   unfold zje at he ⊢
   rwa [z3b] at he
  rw [zts hl hb hok']
  exact zro swT (fun _=>⟨rfl,rfl,rfl⟩) fun x _=>by unfold zje; rw [z3b]
theorem zv0 (wx wy:List Int) (i k:Nat) (f g:Nat->Nat->List GW) (hfg:∀ a b,f b a=g a b) (x:GTArc):zfo wy wx k i f (swT x)=zfo wx wy i k g x:=by
 unfold zfo
 show (if 0<=nx x.o wy k/\0<=nx x.i wx i/\(k:Int)+i<nx x.o wy k+nx x.i wx i then _ else _)=_
 by_cases h:0<=nx x.i wx i/\0<=nx x.o wy k/\(i:Int)+k<nx x.i wx i+nx x.o wy k
 ·rw [if_pos h,if_pos ⟨h.2.1,h.1,by omega⟩]
  exact congrArg some (hfg _ _)
 ·rw [if_neg h,if_neg fun h'=>h ⟨h'.2.1,h'.1,by omega⟩]
structure swap (t u:GTrans):Prop where
 ring:u.ring=t.ring
 st:u.st=t.st
 ini:u.ini=t.ini
 fin:u.fin=t.fin
 arcs:u.arcs.Perm (t.arcs.map swT)
structure ckT (r:GRing) (t:GTrans):Prop where
 ring:t.ring=r
 rok:r.ok=true
 fin:ckL r t.st.toNat t.fin
 arcs:zpr r t.st.toNat t.arcs
theorem zxt {t:GTrans} (ht:ckT r t) (wx wy:List Int) (i k:Nat):ckL r t.st.toNat (zny t wx wy i k):=by
 unfold zny
 split
 ·exact ht.fin
 ·rw [ht.ring]
  exact ⟨fun w hw=>by rw [List.eq_of_mem_replicate hw]; exact zbo ht.rok,by simp⟩
theorem ztu {t u:GTrans} (ht:ckT r t) (hs:swap t u) (wx wy:List Int):∀ (n i k:Nat),i<=wx.length->k<=wy.length->wx.length - i+(wy.length - k)<n->valW u wy wx n k i=valW t wx wy n i k/\ckL r t.st.toNat (valW t wx wy n i k)
 | 0,_,_,_,_,h=>by omega
 | n+1,i,k,hi,hk,hn=>by
  have hr:=ht.ring
  show zh9 u wy wx k i (valW u wy wx n)=zh9 t wx wy i k (valW t wx wy n)/\ckL r t.st.toNat (zh9 t wx wy i k (valW t wx wy n))
  have hcong:zh9 u wy wx k i (valW u wy wx n)=zh9 u wy wx k i (fun b a=>valW t wx wy n a b):=zin hk hi fun b a h1 h2 h3 h4 h5=>(ztu ht hs wx wy n a b h4 h3 (by omega)).1
  rw [hcong]
  have hb:=zxt ht wx wy i k
  have hbe:zny u wy wx k i=zny t wx wy i k:=by
   unfold zny
   rw [hs.ring,hs.st,hs.fin]
   by_cases h:i=wx.length/\k=wy.length
   ·rw [if_pos h,if_pos ⟨h.2,h.1⟩]
   ·rw [if_neg h,if_neg fun h'=>h ⟨h'.2,h'.1⟩]
  have hok:∀ x∈t.arcs,okA r t.st.toNat (zfo wx wy i k (valW t wx wy n)) x:=fun x hx=>⟨(ht.arcs x hx).1,(ht.arcs x hx).2,fun e he=>by
   obtain ⟨a,b,h1,h2,h3,h4,h5,h6,h7,h8,h9,rfl⟩:=zjz hi hk he
   exact (ztu ht hs wx wy n a b h7 h8 (by omega)).2⟩
  have hok':∀ x∈u.arcs,okA r t.st.toNat (zfo wy wx k i fun b a=>valW t wx wy n a b) x:=fun x hx=>by
   obtain ⟨y,hy,rfl⟩:=List.mem_map.1 (hs.arcs.mem_iff.1 hx)
   exact ⟨(hok y hy).1,(hok y hy).2.1,fun e he=>(hok y hy).2.2 e (by rwa [zv0 wx wy i k _ (valW t wx wy n) fun _ _=>rfl] at he)⟩
  have hrow:rowW u wy wx k i (fun b a=>valW t wx wy n a b)=rowW t wx wy i k (valW t wx wy n):=by
   unfold rowW
   rw [hbe,hs.ring,hr,zts hs.arcs hb hok']
   exact zro swT (fun _=>⟨rfl,rfl,rfl⟩) fun x _=>zv0 wx wy i k _ _ (fun _ _=>rfl) x
  have hrc:ckL r t.st.toNat (rowW t wx wy i k (valW t wx wy n)):=by
   unfold rowW
   rw [hr]; exact zrp hb hok
  unfold zh9
  rw [hrow,hs.ring,hs.st,hr]
  exact ztz hs.arcs hrc ht.arcs _
end
section
variable {α : Type} {key : α -> List Int} {wt : α -> GW} {r:GRing}
end
theorem yef {t:GTrans} (ok:t.ok):t.nf.nf=t.nf:=by
 have hc:∀ x∈t.arcs,x.w.chk t.ring:=fun x hx=>(ok.arcs x hx).2.2.2.2.2.2.2.2
 obtain ⟨b1,b2,b3⟩:=zr1 ok.ring hc
 have e:tidT t.ring (tidT t.ring t.arcs)=tidT t.ring t.arcs:=zz3 (key:=GTArc.key) (wt:=GTArc.w) (up:=upT t.ring) ok.ring (fun _ _=>rfl) (fun _ _=>rfl) (fun x y h h'=>zvy.2 ⟨h,h'⟩) (fun x hx=>(b2 x hx).1) hc b3
 cases t
 simp only [GTrans.nf] at e ⊢
 rw [e]
end Go.Ab
namespace Go.Ab
open Enc (enc)
attribute [local go_sem] zal Opd.slots
inductive GW.lt:GW->Prop
 | mk {q:GRat} {c:Int} {i:Bool} {s:UInt64} {p:List GMono} {ps:List GW}:q.sm 3->p.length<=8->ps.length<=4->psm p 2->(∀ w∈ps,GW.lt w)->GW.lt (.mk q c i s p ps)
noncomputable instance (w:GW):Decidable w.lt:=Classical.propDecidable _
end Go.Ab
namespace Go.Ab
open Enc (enc)
attribute [local go_sem] zal Opd.slots
structure GAuto.lt (a:GAuto):Prop where
 ring:a.ring.parts.length<=6
 ini:a.ini.length<=6/\∀ w∈a.ini,w.lt
 fin:a.fin.length<=6/\∀ w∈a.fin,w.lt
 al:a.arcs.length<=16
 arcs:∀ x∈a.arcs,x.w.lt
noncomputable instance (a:GAuto):Decidable a.lt:=Classical.propDecidable _
structure GTrans.lt (a:GTrans):Prop where
 ring:a.ring.parts.length<=6
 ini:a.ini.length<=5/\∀ w∈a.ini,w.lt
 fin:a.fin.length<=5/\∀ w∈a.fin,w.lt
 al:a.arcs.length<=12
 arcs:∀ x∈a.arcs,x.w.lt
noncomputable instance (a:GTrans):Decidable a.lt:=Classical.propDecidable _
end Go.Ab
namespace Go.Ab
open Enc (enc)
attribute [local go_sem] zal Opd.slots
def aw1:GW:=.mk (rto 1) 0 false 0 [] []
def ar1:GRing:=⟨1,[]⟩
theorem yan:ar1.one=aw1:=by simp [GRing.one,ar1,GRing.ok,aw1,oneW]
theorem zvu:aw1.chk ar1:=⟨rfl,fun _=>si1.2 ⟨rfl,rfl,rfl,rfl,rfl,zba 1⟩,fun h=>by cases h⟩
theorem z4o:aw1.sm 3:=.one 1 ⟨Nat.le_trans zmf.1 (by omega),Nat.le_trans zmf.2 (by omega)⟩ (zml 3) (by simp)
end Go.Ab
