/-
Proofs for the law ProjectIdentityWeighs, part 41. Conditions: none.
-/
import Derived.Test.YtalcegbealdigaaGreatDoorBP40
import Derived.Test.YtalcegbealdigaaGreatDoorBP14
import Derived.Test.YtalcegbealdigaaGreatDoorBP31
import Derived.Test.YtalcegbealdigaaGreatDoorBP38
set_option maxRecDepth 100000
set_option maxHeartbeats 4000000
set_option linter.all false
namespace Go.Ab
open Enc (enc)
structure GW.tiny (r:GRing) (w:GW):Prop where
 chk:w.chk r
 mb:w.mb 1
 pl:w.poly.length<=3
 ps:∀ x∈w.parts,x.poly.length<=3
theorem z69 {k:Int} {w:GW} (hs:w.si k) (h:w.mb1 1) (hl:w.poly.length<=3):w.sm 3:=by
 have hq:=si_q hs
 have hp:=si_p hs
 cases w with
 | mk q c i s p ps =>
  have e:ps=[]:=hs.1
  subst e
  have h1:q.sm 3:=by
   have:=z0o (n:=3) h.q (zus 1) (by decide) (by decide)
   rwa [show rto (GW.q (GW.mk q c i s p [])).v=q from zgo hq] at this
  have h2:psm p 3:=zh6 h.p hp (zus 1) (by decide) (by decide)
  exact .mk h1 h2 hl (by simp) (by simp)
theorem GW.tiny.sm {r:GRing} {w:GW} (h:w.tiny r):w.sm 3:=by
 by_cases h6:r.kind=6
 ·obtain ⟨l,e,hs⟩:=h.chk.2.2 h6
  have hp:=GRing.ok_parts h.chk.1 h6
  rw [e]
  refine .tup (by omega) fun x hx=>?_
  obtain ⟨i,hi,rfl⟩:=List.mem_iff_getElem.1 hx
  exact z69 (hs i (by omega) hi) (h.mb.ps _ hx) (h.ps _ hx)
 ·exact z69 (h.chk.2.1 h6) h.mb.o h.pl
theorem zv5 (m:GMono):∀ (q o:List GMono),(prow m q o).length<=o.length+q.length
 | [],o=>by simp [prow]
 | x::q,o=>by
  have h1:=zv5 m q (pput o (m.e.add x.e) (m.coef.v*x.coef.v))
  have h2:=zlf o (m.e.add x.e) (m.coef.v*x.coef.v)
  have e:prow m (x::q) o=prow m q (pput o (m.e.add x.e) (m.coef.v*x.coef.v)):=rfl
  rw [e,List.length_cons]; omega
theorem zom (q:Rat):(zb0 q).length<=1:=zlf [] _ q
theorem z0u (v:Int):(zsg v).length<=3:=by
 have h0:(pput [] ⟨0,0,0⟩ (Rat.divInt (v % 5 - 2) 3)).length<=1:=zlf [] _ _
 unfold zsg
 simp only
 split
 ·refine Nat.le_trans (zp9 _ _) ?_
  have h1:=zom (numR v)
  have h2:(pmul (zdc (IntKind.i64.wrap (v.tdiv 10) % 3)) (zb0 (numR v))).length<=1:=by
   unfold zdc
   split
   ·have:=zv5 ⟨Ex.unit (IntKind.i64.wrap (v.tdiv 10) % 3),rto 1⟩ (zb0 (numR v)) []
    simp only [List.length_nil,Nat.zero_add] at this
    exact Nat.le_trans this h1
   ·exact Nat.zero_le _
  omega
 ·omega
theorem zwr (k v:Int):(zgb k v).poly.length<=3:=by
 unfold zgb
 split
 ·exact Nat.zero_le _
 ·split
  ·split
   ·unfold GRing.zero; split<;>exact Nat.zero_le _
   ·exact Nat.zero_le _
  ·split
   ·exact Nat.zero_le _
   ·split
    ·exact Nat.zero_le _
    ·exact z0u v
theorem z5r {k:Int} (hk:1<=k/\k<=5) (v:Int):(zgb k v).parts=[]:=(zj2 hk v).1.1
theorem zox {r:GRing} (hr:r.ok=true) (v:Int):(zj1 r v).tiny r:=by
 have h:=zyk hr v
 refine ⟨h.1,h.2,?_,fun x hx=>?_⟩
 ·unfold zj1
  split
  ·exact Nat.zero_le _
  ·exact zwr _ _
 ·unfold zj1 at hx
  split at hx
  ·obtain ⟨i,_,rfl⟩:=List.mem_map.1 (show x∈zdd r.parts v r.parts.length from hx)
   exact zwr _ _
  ·rename_i h6
   have hk:=GRing.ok_kind hr h6
   rw [z5r ⟨hk.1,hk.2.1⟩] at hx; cases hx
theorem z1f (k:Int) (ps:List GW):(oneW k ps).poly.length<=3:=by
 show (if k=5 then zb0 1 else []).length<=3
 split
 ·have:=zom 1; omega
 ·exact Nat.zero_le _
theorem z5f {r:GRing} (hr:r.ok=true):r.one.tiny r:=by
 have h:=z5g hr
 refine ⟨h.1,h.2,?_,fun x hx=>?_⟩
 ·unfold GRing.one
  rw [if_pos hr]; exact z1f _ _
 ·unfold GRing.one at hx
  rw [if_pos hr] at hx
  obtain ⟨k,_,rfl⟩:=List.mem_map.1 (show x∈r.parts.map fun k=>oneW k [] from hx)
  exact z1f _ _
theorem zzd {r:GRing} (hr:r.ok=true):r.zero.tiny r:=by
 refine ⟨zbn hr,(zvh hr).mono (by omega),?_,fun x hx=>?_⟩
 ·unfold GRing.zero
  rw [if_pos hr]; exact Nat.zero_le _
 ·unfold GRing.zero at hx
  rw [if_pos hr] at hx
  obtain ⟨k,_,rfl⟩:=List.mem_map.1 (show x∈r.parts.map zbz from hx)
  exact Nat.zero_le _
theorem z2l {r:GRing} (hr:r.ok=true) (l:List Int) (i:Nat) (one:Int):(endM r l i one).tiny r:=by
 unfold endM
 split
 ·exact zox hr _
 ·split
  ·exact z5f hr
  ·exact zzd hr
structure GTrans.tin (t:GTrans):Prop where
 ok:t.ok
 st:t.st<=3
 al:t.arcs.length<=7
 ini:∀ w∈t.ini,w.tiny t.ring
 fin:∀ w∈t.fin,w.tiny t.ring
 arcs:∀ x∈t.arcs,x.w.tiny t.ring
theorem zpa {r:GRing} (hr:r.ok=true) (l:List Int) (one:Int) (k:Nat):∀ w∈zfe r l one k,w.tiny r:=fun w hw=>by
 obtain ⟨j,_,rfl⟩:=List.mem_map.1 hw
 exact z2l hr _ _ _
theorem zvr {r:GRing} {n:Nat} (hn1:1<=n) {l:List GTArc} (h:∀ x∈l,x.w.sm n/\x.w.chk r):∀ x∈tidT r l,x.w.sm ((l.length+1)*(n+1)):=fun x hx=>by
 have hs:=za4 (key:=GTArc.key) l
 have iv:=zrt (r:=r) hn1 (fun x hx=>h x ((hs.2.2 x).1 hx)) _ (Nat.le_refl _)
 rw [List.take_of_length_le (Nat.le_refl _),hs.2.1] at iv
 exact (iv.2 x (List.mem_filter.1 hx).1).1
theorem zzr {r:GRing} {n:Nat} {l:List GTArc} (h:∀ x∈l,x.w.mb n/\x.w.chk r):∀ x∈tidT r l,x.w.mb (l.length+n):=fun x hx=>by
 have hs:=za4 (key:=GTArc.key) l
 have h':∀ x∈srt GTArc.key l,x.w.mb n/\x.w.chk r:=fun x hx=>h x ((hs.2.2 x).1 hx)
 have iv:=zmn (key:=GTArc.key) (up:=upT r) (nw:=id) (Q:=fun k x=>x.w.mb (k+n)/\x.w.chk r) (fun k x hx=>⟨hx.1.mono (by omega),hx.2⟩) (l:=srt GTArc.key l) (fun x hx=>⟨(h' x hx).1.mono (by show n<=0+n; omega),(h' x hx).2⟩)
  (fun k z x hx hz=>⟨by have:=z0y hz.2 (h' x hx).2 hz.1 ((h' x hx).1.mono (by omega)); exact this.mono (by omega),(zbs hz.2 (h' x hx).2:(r.plus z.w x.w).chk r)⟩) (fun k x hx=>⟨hx.1.mono (by omega),hx.2⟩) _ (Nat.le_refl _)
 rw [List.take_of_length_le (Nat.le_refl _),hs.2.1] at iv
 exact (iv.2 x (List.mem_filter.1 hx).1).1
def zri (l:List Int) (m:Int) (most:Nat):List Int:=(l.take most).map fun x=>1+x % m
theorem zvl (l:List Int) (m:Int) (most:Nat) (hm:1<=m/\m<=32) (h:most<=256):zim (zri l m most) m:=⟨hm,by simp only [zri,List.length_map,List.length_take]; omega,fun x hx=>by
 obtain ⟨y,_,rfl⟩:=List.mem_map.1 hx
 have h1:=Int.emod_nonneg y (show m≠0 by omega)
 have h2:=Int.emod_lt_of_pos y (show 0<m by omega)
 exact ⟨by omega,by omega⟩⟩
theorem zrh (l:List Int) (m:Int) (most:Nat):(zri l m most).length<=most:=by simp only [zri,List.length_map,List.length_take]; omega
end Go.Ab
namespace Go.Ab
open Enc (enc)
section
variable {H:Type} {en:TypeId × Value->H} {w:World}
theorem rdInt (n:Nat):RdN en P w n T.int (IsC Int):=ybm ty.int
theorem rdBool (n:Nat):RdN en P w n T.bool (IsC Bool):=z8m ty.bool
theorem rdInts (n:Nat):RdN en P w n T.ints (IsC (List Int)):=z4x (fun _=>rfl) (fun _=>rfl) ty.ints ty.cell fun k _=>rdInt k
theorem gmodel_one (x:GModel):(enc x).cells.all PV.one=true:=by simp [go_sem,PV.cells]
theorem rdModel (n:Nat):RdN en P w n T.model (IsC GModel):=z0l (Ds:=[IsC Int,IsC (List Int),IsC (List Int),IsC (List Int),IsC Bool]) ty.model rfl (fun m _=>⟨rdInt m,rdInts m,rdInts m,rdInts m,rdBool m,trivial⟩) fun ls h=>by
 obtain ⟨_,ls1,rfl,⟨a,rfl⟩,h1⟩:=h.cons
 obtain ⟨_,ls2,rfl,⟨b,rfl⟩,h2⟩:=h1.cons
 obtain ⟨_,ls3,rfl,⟨c,rfl⟩,h3⟩:=h2.cons
 obtain ⟨_,ls4,rfl,⟨d,rfl⟩,h4⟩:=h3.cons
 obtain ⟨_,ls5,rfl,⟨e,rfl⟩,h5⟩:=h4.cons
 obtain rfl:=h5.nil
 exact ⟨⟨a,b,c,d,e⟩,by simp [PV.cells,go_sem]⟩
end
end Go.Ab
namespace Go.Ab
open Enc (enc)
def arcA (m:GModel) (r:GRing) (i n a b c d:Int):GArc:=⟨a % n,if m.em=true then b % (i+1) else 1+b % i,c % n,zj1 r d⟩
def zk6 (m:GModel) (r:GRing) (i n:Int) (k:Nat):List GArc:=(List.range k).map fun j=>arcA m r i n (m.arcs.getD (4*j) 0) (m.arcs.getD (4*j+1) 0) (m.arcs.getD (4*j+2) 0) (m.arcs.getD (4*j+3) 0)
def zrc (m:GModel) (r:GRing) (i s:Int):GAuto:=⟨r,i,numN m s,zfe r m.ini 0 (numN m s).toNat,zfe r m.fin (numN m s - 1) (numN m s).toNat,zk6 m r i (numN m s) (min 10 (m.arcs.length / 4))⟩
theorem zjn (m:GModel) (r:GRing) (i n:Int) (k:Nat):(zk6 m r i n k).length=k:=by simp [zk6]
theorem zy8 (m:GModel) (r:GRing) (i n:Int) (k:Nat) (h:4*k+3<m.arcs.length):zk6 m r i n (k+1)=zk6 m r i n k++[arcA m r i n m.arcs[4*k] m.arcs[4*k+1] m.arcs[4*k+2] m.arcs[4*k+3]]:=by
 unfold zk6
 rw [List.range_succ,List.map_append]
 simp [List.getElem?_eq_getElem (show 4*k<m.arcs.length by omega),List.getElem?_eq_getElem (show 4*k+1<m.arcs.length by omega),List.getElem?_eq_getElem (show 4*k+2<m.arcs.length by omega),List.getElem?_eq_getElem h]
theorem z99 (m:GModel) (r:GRing) (i s:Int) (hr:r.ok=true) (hi:1<=i/\i<=32) (hs:1<=s/\s<=64):Sp P F.jq [enc m,enc r,.int .i64 i,.int .i64 s] (.pure (enc (zrc m r i s))):=by
 have hn:1<=numN m s/\numN m s<=s:=by
  have h1:=Int.emod_nonneg (IntKind.i64.wrap (m.st - 1)) (show s≠0 by omega)
  have h2:=Int.emod_lt_of_pos (IntKind.i64.wrap (m.st - 1)) (show 0<s by omega)
  unfold numN; omega
 have e0:IntKind.i64.wrap (1+IntKind.i64.wrap (m.st - 1) % s)=numN m s:=i64w (by unfold numN at hn; omega) (by unfold numN at hn; omega)
 have hT:zrc m r i s=⟨r,i,numN m s,zfe r m.ini 0 (numN m s).toNat,zfe r m.fin (numN m s - 1) (numN m s).toNat,zk6 m r i (numN m s) (min 10 (m.arcs.length / 4))⟩:=rfl
 refine Sp.vz c.jq fun _=>?_
 simp [g.jq,go_sem]
 refine zab (zc1 (IntKind.i64.wrap (m.st - 1)) s (by omega) (by omega)) ?_
 simp [go_sem,e0]
 generalize numN m s=n at *
 obtain ⟨nn,rfl⟩:∃ nn:Nat,n=nn:=⟨n.toNat,by omega⟩
 have e5:IntKind.i64.wrap ((nn:Int) - 1)=(nn:Int) - 1:=i64w (by omega) (by omega)
 refine zag (S:=fun k:Nat=>mkSt [(2,.p (.int .i64 i)),(4,.ptr 4 0 0 0),(5,.ptr 5 0 0 0),(8,.ptr 8 0 0 0),(9,.p (.int .i64 nn)),(10,.ptr 10 0 0 0),(11,.p (.int .i64 k))]
   [(4,⟨5,[.p (enc m)]⟩),(5,⟨2,[.p (enc r)]⟩),(8,⟨7,[.agg [.p (.int .i64 0),.nil,.p (.int .i64 0),.p (.int .i64 0),.nil,.nil,.nil]]⟩),
    (10,⟨7,[.agg [.p (.int .i64 r.kind),.p (.sl (ens r.parts)),.p (.int .i64 i),.p (.int .i64 nn),.own 1 0 0 k,.own 2 0 0 k,.nil]]⟩),(1,⟨8,avs (zfe r m.ini 0 k)⟩),(2,⟨8,avs (zfe r m.fin (nn - 1) k)⟩)])
  (I:=fun k=>k<=nn) (m:=fun k=>nn - k) 0
  ((Weak.nilCell (s0:=10) (g0:=0) (i:=4) (s:=77) (sz:=8) rfl).trans ((Weak.nilCell (s0:=10) (g0:=0) (i:=5) (s:=78) (sz:=8) rfl).trans (Weak.to [2,4,5,8,9,10,11] [((4,0),4),((5,0),5),((8,0),8),((10,0),10),((77,0),1),((78,0),2)] (by simp [go_sem,zfe])))) (by omega) ?_
 rintro k h1 R hn' hr' hx
 have e1:=i64s k (by omega)
 simp [g.ql,mkSt,go_sem]
 refine ⟨fun hk=>?_,fun hk=>hx _ _ ?_⟩
 ·refine zab (z7o r hr m.ini k 0) ?_
  simp [go_sem,e5,zeo]
  refine ⟨by omega,?_⟩
  refine zab (z7o r hr m.fin k (nn - 1)) ?_
  simp [go_sem,e1,zeo]
  refine ⟨by omega,?_⟩
  exact hn' (k+1) _ (Weak.to [2,4,5,8,9,10,11] [((4,0),4),((5,0),5),((8,0),8),((10,0),10),((37,0),1),((49,0),2)] (by simp [go_sem,mkSt,zyt])) (by omega) (by omega)
 ·obtain rfl:nn=k:=by omega
  simp [go_sem]
  generalize hJ:min 10 (m.arcs.length / 4)=J at *
  refine zag (S:=fun j:Nat=>mkSt [(2,.p (.int .i64 i)),(4,.ptr 4 0 0 0),(5,.ptr 5 0 0 0),(8,.ptr 8 0 0 0),(9,.p (.int .i64 nn)),(10,.ptr 10 0 0 0),(12,.p (.int .i64 (4*(j:Int))))]
    [(4,⟨5,[.p (enc m)]⟩),(5,⟨2,[.p (enc r)]⟩),(8,⟨7,[.agg [.p (.int .i64 0),.nil,.p (.int .i64 0),.p (.int .i64 0),.nil,.nil,.nil]]⟩),
     (10,⟨7,[.agg [.p (.int .i64 r.kind),.p (.sl (ens r.parts)),.p (.int .i64 i),.p (.int .i64 nn),.own 1 0 0 nn,.own 2 0 0 nn,.own 3 0 0 j]]⟩),(1,⟨8,avs (zfe r m.ini 0 nn)⟩),(2,⟨8,avs (zfe r m.fin (nn - 1) nn)⟩),(3,⟨11,avs (zk6 m r i nn j)⟩)])
   (I:=fun j=>j<=J) (m:=fun j=>J - j) 0
   ((Weak.nilCell (s0:=10) (g0:=0) (i:=6) (s:=77) (sz:=11) rfl).trans (Weak.to [2,4,5,8,9,10,12] [((4,0),4),((5,0),5),((8,0),8),((10,0),10),((1,0),1),((2,0),2),((77,0),3)] (by simp [go_sem,zk6]))) (by omega) ?_
  rintro j h2 R2 hn2 hr2 hx2
  have f1:IntKind.i64.wrap (4*(j:Int)+1)=4*(j:Int)+1:=i64w (by omega) (by omega)
  have f2:IntKind.i64.wrap (4*(j:Int)+2)=4*(j:Int)+2:=i64w (by omega) (by omega)
  have f3:IntKind.i64.wrap (4*(j:Int)+3)=4*(j:Int)+3:=i64w (by omega) (by omega)
  have f4:IntKind.i64.wrap (4*(j:Int)+4)=4*((j+1:Nat):Int):=by rw [i64w (by omega) (by omega)]; omega
  have g0:(4*(j:Int)).toNat=4*j:=by omega
  have g1:(4*(j:Int)+1).toNat=4*j+1:=by omega
  have g2:(4*(j:Int)+2).toNat=4*j+2:=by omega
  have g3:(4*(j:Int)+3).toNat=4*j+3:=by omega
  have p0:0<=4*(j:Int):=by omega
  have p1:0<=4*(j:Int)+1:=by omega
  have p2:0<=4*(j:Int)+2:=by omega
  have p3:0<=4*(j:Int)+3:=by omega
  simp [g.qn,mkSt,go_sem,f3,f2,f1,g1,p1]
  refine ⟨fun a1=>⟨fun a2=>?_,fun a2=>hx2 _ _ ?_⟩,fun a1=>hx2 _ _ ?_⟩
  ·have hj:4*j+3<m.arcs.length:=by omega
   have hsu:=zy8 m r i nn j hj
   have hln:=zjn m r i nn j
   have b1:=Int.emod_nonneg m.arcs[4*j+1] (show i≠0 by omega)
   have b2:=Int.emod_lt_of_pos m.arcs[4*j+1] (show 0<i by omega)
   have w1:IntKind.i64.wrap (1+m.arcs[4*j+1] % i)=1+m.arcs[4*j+1] % i:=i64w (by omega) (by omega)
   refine zae (by omega) ?_
   refine zab (zc1 m.arcs[4*j+1] i (by omega) (by omega)) ?_
   simp [go_sem,w1]
   refine ⟨fun hem=>?_,fun hem=>?_⟩
   ·have wi:IntKind.i64.wrap (i+1)=i+1:=i64w (by omega) (by omega)
    simp [go_sem,f1,g1,p1,wi]
    refine zae (by omega) ?_
    refine zab (zc1 m.arcs[4*j+1] (i+1) (by omega) (by omega)) ?_
    simp [go_sem,g0,p0]
    refine zae (by omega) ?_
    refine zab (zc1 m.arcs[4*j] nn (by omega) (by omega)) ?_
    simp [go_sem,f2,g2,p2]
    refine zae (by omega) ?_
    refine zab (zc1 m.arcs[4*j+2] nn (by omega) (by omega)) ?_
    simp [go_sem,f3,g3,p3]
    refine zae (by omega) ?_
    refine zab (zjq r hr m.arcs[4*j+3]) ?_
    simp [go_sem,f4,hln]
    exact ⟨by omega,hn2 (j+1) _ (Weak.to [2,4,5,8,9,10,12] [((4,0),4),((5,0),5),((8,0),8),((10,0),10),((1,0),1),((2,0),2),((111,0),3)] (by simp [go_sem,mkSt,hsu,arcA,hem])) (by omega) (by omega)⟩
   ·simp [go_sem,g0,p0]
    refine zae (by omega) ?_
    refine zab (zc1 m.arcs[4*j] nn (by omega) (by omega)) ?_
    simp [go_sem,f2,g2,p2]
    refine zae (by omega) ?_
    refine zab (zc1 m.arcs[4*j+2] nn (by omega) (by omega)) ?_
    simp [go_sem,f3,g3,p3]
    refine zae (by omega) ?_
    refine zab (zjq r hr m.arcs[4*j+3]) ?_
    simp [go_sem,f4,hln]
    exact ⟨by omega,hn2 (j+1) _ (Weak.to [2,4,5,8,9,10,12] [((4,0),4),((5,0),5),((8,0),8),((10,0),10),((1,0),1),((2,0),2),((111,0),3)] (by simp [go_sem,mkSt,hsu,arcA,hem])) (by omega) (by omega)⟩
  all_goals
   obtain rfl:j=J:=by omega
   have t1:(zfe r m.ini 0 nn).take nn=zfe r m.ini 0 nn:=List.take_of_length_le (by rw [zeo]; omega)
   have t2:(zfe r m.fin (nn - 1) nn).take nn=zfe r m.fin (nn - 1) nn:=List.take_of_length_le (by rw [zeo]; omega)
   have t3:(zk6 m r i nn j).take j=zk6 m r i nn j:=List.take_of_length_le (by rw [zjn]; omega)
   simp [go_sem,hT,zeo,zjn,t1,t2,t3]
end Go.Ab
namespace Go.Ab
open Enc (enc)
theorem zzc (r:GRing) (n:Nat) (hn0:n<=1073741824):Sp P F.bg [enc r,.int .i64 n] (.fresh 8 (ens (List.replicate n r.zero))):=by
 refine Sp.vz c.bg fun _=>?_
 simp [g.bg,go_sem]
 refine zag (S:=fun x:Nat × List GW=>mkSt [(1,.p (.int .i64 n)),(2,.ptr 1 0 0 0),(5,.own 2 0 0 x.2.length),(6,.p (.int .i64 x.1))] [(1,⟨2,[.p (enc r)]⟩),(2,⟨8,avs x.2⟩)])
  (I:=fun x=>x.1<=n/\x.2=List.replicate x.1 r.zero) (m:=fun x=>n - x.1) (0,[])
  (Weak.nl 5 77 8 rfl (Weak.to [1,2,5,6] [((2,0),1),((77,0),2)] (by simp [go_sem,zas,Opd.slots]))) ⟨by omega,by simp⟩ ?_
 rintro ⟨k,l⟩ ⟨h1,h2⟩ R hn hr hx
 simp at h1 h2
 have hl:l.length=k:=by rw [h2]; simp
 have e1:=i64s k (by omega)
 simp [g.o7,mkSt,go_sem]
 refine ⟨fun hk=>?_,fun hk=>hx _ _ ?_⟩
 ·refine zab (zdk r) ?_
  simp [e1,go_sem]
  exact ⟨by omega,hn (k+1,l++[r.zero]) _ (Weak.to [1,2,5,6] [((1,0),1),((16,0),2)] (by simp [go_sem])) ⟨by show k+1<=n; omega,by rw [h2,List.replicate_succ']⟩ (by show n - (k+1)<n - k; omega)⟩
 ·have:k=n:=by omega
  subst this
  simp [go_sem,hl]
  rw [h2,zrb]; simp [go_sem]
def stS (r:GRing) (v:List GW) (c:Int) (out:List GW) (x:GArc):List GW:=if x.l=c then out.set x.t.toNat (r.plus (out.getD x.t.toNat r.zero) (r.times (v.getD x.f.toNat r.zero) x.w)) else out
def stL (r:GRing) (A:List GArc) (v:List GW) (c:Int) (n:Nat):List GW:=A.foldl (stS r v c) (List.replicate n r.zero)
def fwL (r:GRing) (A:List GArc) (n:Nat) (v:List GW) (w:List Int):List GW:=w.foldl (fun v c=>stL r A v c n) v
theorem zzx (r:GRing) (v:List GW) (c:Int) (out:List GW) (x:GArc):(stS r v c out x).length=out.length:=by unfold stS; split<;>simp
theorem zzy (r:GRing) (v:List GW) (c:Int):∀ (A:List GArc) (out:List GW),(A.foldl (stS r v c) out).length=out.length
 | [],_=>rfl
 | x::A,out=>by rw [List.foldl_cons,zzy r v c A,zzx]
theorem zt5 (r:GRing) (A:List GArc) (v:List GW) (c:Int) (n:Nat):(stL r A v c n).length=n:=by unfold stL; rw [zzy]; simp
theorem z4b {r:GRing} {A:List GArc} {k:Nat} (h:k<A.length) (v:List GW) (c:Int) (n:Nat):stL r (A.take (k+1)) v c n=stS r v c (stL r (A.take k) v c n) A[k]:=by
 unfold stL
 rw [List.take_succ_eq_append_getElem h,List.foldl_append]; rfl
theorem z54 {r:GRing} {A:List GArc} {n:Nat} {w:List Int} {k:Nat} (h:k<w.length) (v:List GW):fwL r A n v (w.take (k+1))=stL r A (fwL r A n v (w.take k)) w[k] n:=by
 unfold fwL
 rw [List.take_succ_eq_append_getElem h,List.foldl_append]; rfl
def GArc.fit (x:GArc) (N:Nat):Prop:=(0<=x.f/\x.f<N)/\0<=x.t/\x.t<N
structure GAuto.fits {r:GRing} (M:Meas r) (z:Nat) (a:GAuto):Prop where
 ring:a.ring=r
 st:0<=a.st/\a.st<=64
 arcs:∀ x∈a.arcs,(x.w.chk r/\M.mb z x.w)/\x.fit a.st.toNat
 ini:Go.Ab.vb M z a.ini/\a.ini.length=a.st.toNat
 fin:Go.Ab.vb M z a.fin/\a.fin.length=a.st.toNat
 rok:r.ok=true
theorem ybd {r:GRing} (M:Meas r) {v out:List GW} {x:GArc} {K z e N:Nat} {c:Int} (hb:vb M K out) (he:vb M e v) (hx:x.w.chk r/\M.mb z x.w) (fit:x.fit N) (hN:out.length=N) (hE:v.length=N) (hK:e+z+1<=K):vb M (K+1) (stS r v c out x):=by
 unfold stS
 split
 ·intro w hw
  obtain ⟨⟨a1,a2⟩,a3,a4⟩:=fit
  rcases List.mem_or_eq_of_mem_set hw with h|h
  ·exact ⟨(hb w h).1,M.mono (hb w h).2 (by omega)⟩
  ·have h1:=zpm hb (i:=x.t.toNat) (by omega)
   have h2:=zpm he (i:=x.f.toNat) (by omega)
   have h3:=M.times h2.1 hx.1 h2.2 hx.2
   rw [h]
   exact ⟨zbs h1.1 (za3 h2.1 hx.1),M.plus h1.1 (za3 h2.1 hx.1) h1.2 (M.mono h3 hK)⟩
 ·exact zct hb (by omega)
theorem z68 {r:GRing} (M:Meas r) (hr:r.ok=true) {v:List GW} {z e N:Nat} {c:Int} (he:vb M e v) (hE:v.length=N) {A:List GArc} (hA:∀ x∈A,(x.w.chk r/\M.mb z x.w)/\x.fit N):vb M (e+z+1+A.length) (stL r A v c N):=by
 have:∀ (A:List GArc) (K:Nat) (out:List GW),(∀ x∈A,(x.w.chk r/\M.mb z x.w)/\x.fit N)->e+z+1<=K->vb M K out->out.length=N->vb M (K+A.length) (A.foldl (stS r v c) out):=by
  intro A
  induction A with
  | nil=>intro K out _ _ h _; exact h
  | cons x A ih =>
   intro K out hA hK h hl
   have hx:=hA x List.mem_cons_self
   have:=ih (K+1) (stS r v c out x) (fun y hy=>hA y (List.mem_cons_of_mem _ hy)) (by omega) (ybd M h he hx.1 hx.2 hl hE hK) (by rw [zzx]; exact hl)
   rw [List.length_cons,show K+(A.length+1)=K+1+A.length by omega]
   exact this
 exact this A (e+z+1) _ hA (Nat.le_refl _) (zvg M hr _ _) (by simp)
theorem z2e {r:GRing} (M:Meas r) (hr:r.ok=true) {z e N:Nat} {A:List GArc} (hA:∀ x∈A,(x.w.chk r/\M.mb z x.w)/\x.fit N):∀ (w:List Int) (e:Nat) (v:List GW),vb M e v->v.length=N->vb M (e+w.length*(z+1+A.length)) (fwL r A N v w)/\(fwL r A N v w).length=N
 | [],e,v,he,hE=>⟨zct he (by omega),hE⟩
 | c::w,e,v,he,hE=>by
  have:=z2e M hr (e:=e) hA w _ (stL r A v c N) (z68 M hr he hE hA) (zt5 ..)
  refine ⟨zct this.1 ?_,this.2⟩
  rw [List.length_cons,Nat.succ_mul]; omega
theorem z4a {r:GRing} (M:Meas r) {z e:Nat} (a:GAuto) (ha:a.fits M z) {v:List GW} (he:vb M e v) (hE:v.length=a.st.toNat) (hal:a.arcs.length<=1000000) (hlim:e+z+1+a.arcs.length<=M.lim) (c:Int) :
  Sp P F.nr [enc a,.sl (ens v),.int .i64 c] (.pure (.sl (ens (stL a.ring a.arcs v c a.st.toNat)))):=by
 have hr:=ha.ring
 subst hr
 have hst:=ha.st
 obtain ⟨nn,hnn⟩:∃ nn:Nat,a.st=nn:=⟨a.st.toNat,by omega⟩
 have hN:a.st.toNat=nn:=by omega
 have harcs:=ha.arcs
 rw [hN] at harcs hE ⊢
 refine Sp.of_vm' Go.Ab.c.nr (by simp) fun _=>?_
 simp [g.nr,go_sem]
 refine zhl (zzc a.ring nn (by omega)) (by simp [go_sem,hnn]) ⟨zda _ _ rfl,by decide,by simp [ens,LIM]; omega⟩ (by simp [go_sem]) ?_
 simp [go_sem]
 refine zag (S:=fun k:Nat=>mkSt [(1,.p (.sl (ens v))),(2,.p (.int .i64 c)),(3,.ptr 3 0 0 0),(7,.own 1 0 0 nn),(8,.p (.int .i64 k))] [(3,⟨7,[.p (enc a)]⟩),(1,⟨8,avs (stL a.ring (a.arcs.take k) v c nn)⟩)]) (I:=fun k=>k<=a.arcs.length) (m:=fun k=>a.arcs.length - k) 0
  (Weak.to [1,2,3,7,8] [((3,0),3),((14,0),1)] (by simp [go_sem,stL,ens])) (by omega) ?_
 rintro k h1 R hn' hr' hx
 have e1:=i64s k (by omega)
 simp [g.rl,mkSt,go_sem]
 refine ⟨fun hk=>?_,fun hk=>hx _ _ ?_⟩
 ·have hsu:=z4b (r:=a.ring) hk v c nn
  unfold stS at hsu
  have hx1:=harcs _ (List.getElem_mem hk)
  have hlv:=z68 M ha.rok (c:=c) he hE (A:=a.arcs.take k) (z:=z) (N:=nn) fun x hx=>harcs x (List.mem_of_mem_take hx)
  have hln:=zt5 a.ring (a.arcs.take k) v c nn
  rw [List.length_take] at hlv
  obtain ⟨a12,a34⟩:=hx1.2
  obtain ⟨f,ef,hf⟩:=toNat_lt a12
  obtain ⟨t,et,ht⟩:=toNat_lt a34
  generalize stL a.ring (a.arcs.take k) v c nn=out at *
  refine zae hk ?_
  try simp [go_sem]
  refine ⟨fun hc=>?_,fun hc=>?_⟩
  ·rw [if_pos hc] at hsu
   have hf2:f<v.length:=by omega
   have ht2:t<out.length:=by omega
   rw [ef,et,Int.toNat_natCast,Int.toNat_natCast,List.getD_eq_getElem?_getD,List.getD_eq_getElem?_getD,List.getElem?_eq_getElem hf2,List.getElem?_eq_getElem ht2,Option.getD_some,Option.getD_some] at hsu
   have q1:=hlv _ (List.getElem_mem ht2)
   have q2:=he _ (List.getElem_mem hf2)
   have ct:=za3 q2.1 hx1.1.1
   have s1:=M.timesS (v:=v[f]) (w:=a.arcs[k].w) (n:=M.lim) (Nat.le_refl _) q2.1 hx1.1.1 (M.mono q2.2 (by omega)) (M.mono hx1.1.2 (by omega))
   have s2:=M.plusS (v:=out[t]) (w:=a.ring.times v[f] a.arcs[k].w) (n:=M.lim) (Nat.le_refl _) q1.1 ct (M.mono q1.2 (by omega)) (M.mono (M.times q2.1 hx1.1.1 q2.2 hx1.1.2) (by omega))
   simp [go_sem,ef,et]
   refine ⟨⟨by omega,by omega⟩,zae ht2 (zae hf2 ?_)⟩
   refine zab s1 ?_
   simp [go_sem]
   refine zab s2 ?_
   simp [go_sem,e1]
   refine ⟨⟨by omega,by omega⟩,zae ht2 ?_⟩
   exact hn' (k+1) _ (Weak.to [1,2,3,7,8] [((3,0),3),((1,0),1)] (by simp [go_sem,mkSt,hsu])) (by omega) (by omega)
  ·rw [if_neg hc] at hsu
   simp [go_sem,e1]
   exact hn' (k+1) _ (Weak.to [1,2,3,7,8] [((3,0),3),((1,0),1)] (by simp [go_sem,mkSt,hsu])) (by omega) (by omega)
 ·have:k=a.arcs.length:=by omega
  subst this
  have hln:=zt5 a.ring a.arcs v c nn
  simp [go_sem]
  exact ⟨by omega,by rw [List.take_of_length_le (by omega)]⟩
end Go.Ab
namespace Go.Ab
open Enc (enc)
theorem z92 {r:GRing} (M:Meas r) (hr:r.ok=true) {e z n:Nat} {v w:List GW} (hv:vb M e v) (hw:vb M z w) (lv:v.length=n) (lw:w.length=n) (hn:n<=1000000) (hlim:e+z+1+n<=M.lim) :
  Sp P F.j3 [enc r,.sl (ens v),.sl (ens w)] (.pure (enc (sumW r v w))):=by
 refine Sp.vz c.j3 fun _=>?_
 simp [g.j3,go_sem]
 refine zab (zdk r) ?_
 simp [go_sem]
 refine zag (S:=fun k:Nat=>mkSt [(1,.p (.sl (ens v))),(2,.p (.sl (ens w))),(3,.ptr 3 0 0 0),(6,.ptr 6 0 0 0),(7,.ptr 7 0 0 0),(8,.p (.int .i64 k))]
   [(3,⟨2,[.p (enc r)]⟩),(6,⟨8,[.agg [.p (.bool false),.nil,.nil,.p (.int .i64 0),.p (.bool false),.p (.int .u64 0),.nil,.nil]]⟩),(7,⟨8,[.p (enc (sumN r v w k))]⟩)])
  (I:=fun k=>k<=n) (m:=fun k=>n - k) 0 (Weak.to [1,2,3,6,7,8] [((3,0),3),((6,0),6),((7,0),7)] (by simp [go_sem,sumN])) (by omega) ?_
 rintro k h1 R hn' hr' hx
 have e1:=i64s k (by omega)
 simp [g.q8,mkSt,go_sem]
 by_cases hk:k<n
 ·have hk1:k<v.length:=by omega
  have hk2:k<w.length:=by omega
  have k1:=hv _ (List.getElem_mem hk1)
  have k2:=hw _ (List.getElem_mem hk2)
  have k3:=zpt (M:=M) hr hv hw k (by omega) (by omega)
  have ct:=za3 k1.1 k2.1
  have s1:=M.timesS (v:=v[k]) (w:=w[k]) (n:=M.lim) (Nat.le_refl _) k1.1 k2.1 (M.mono k1.2 (by omega)) (M.mono k2.2 (by omega))
  have s2:=M.plusS (v:=sumN r v w k) (w:=r.times v[k] w[k]) (n:=M.lim) (Nat.le_refl _) k3.1 ct (M.mono k3.2 (by omega)) (M.mono (M.times k1.1 k2.1 k1.2 k2.2) (by omega))
  have hsum:=ziu (r:=r) hk1 hk2
  refine ⟨fun _=>⟨fun _=>zae hk1 (zae hk2 ?_),fun h=>absurd h (by omega)⟩,fun h=>absurd h (by omega)⟩
  refine zab s1 ?_
  simp [go_sem]
  refine zab s2 ?_
  simp [go_sem,e1]
  exact hn' (k+1) _ (Weak.to [1,2,3,6,7,8] [((3,0),3),((6,0),6),((7,0),7)] (by simp [go_sem,mkSt,hsum])) (by omega) (by omega)
 ·have:k=n:=by omega
  subst this
  have hall:sumN r v w k=sumW r v w:=ziv (by omega)
  refine ⟨fun h=>absurd h (by omega),fun _=>hx _ _ ?_⟩
  simp [go_sem,hall]
theorem z00 (a:GAuto) (n:Nat) (hn:n<=90) (hn1:3<=n) (h:a.sm n) (hl:a.arcs.length<=19) (ok:a.ok) (hpl:∀ x∈a.nf.arcs,x.l≠0):Sp P F.lj [enc a] (.pure (.bool true)):=by
 have k3:=zxp a.ring a.arcs n hn hn1 hl fun x hx=>⟨h.arcs x hx,(ok.arcs x hx).2.2.2.2.2.2⟩
 rw [zo7] at k3
 have hL:a.nf.arcs.length<=a.arcs.length:=zt1 (key:=GArc.key) (wt:=GArc.w) (r:=a.ring) (up:=upA a.ring) (fun _ _=>rfl) a.arcs
 change Sp P F.cn _ (.pure (.sl (ens a.nf.arcs))) at k3
 generalize a.nf.arcs=A at *
 refine Sp.vz c.lj fun _=>?_
 simp [g.lj,go_sem]
 refine zab k3 ?_
 simp [go_sem]
 refine zag (S:=fun k:Nat=>mkSt [(3,.p (.sl (ens A))),(4,.p (.int .i64 k))] []) (I:=fun k=>k<=A.length) (m:=fun k=>A.length - k) 0 (Weak.to [3,4] [] (by simp [go_sem])) (by omega) ?_
 rintro k h1 R hn' hr' hx
 have e1:=i64s k (by omega)
 simp [g.sc,mkSt,go_sem]
 refine ⟨fun hk=>zae hk ?_,fun hk=>hx _ _ ?_⟩
 ·have:=hpl _ (List.getElem_mem hk)
  simp [go_sem,this,e1]
  exact hn' (k+1) _ (Weak.to [3,4] [] (by simp [go_sem,mkSt])) (by omega) (by omega)
 ·simp [go_sem]
theorem z28 (a:GAuto) (n:Nat) (hn:n<=90) (hn1:3<=n) (h:a.sm n) (hl:a.arcs.length<=19) (ok:a.ok) (hpl:∀ x∈a.nf.arcs,x.l≠0) (w:List Int) (hw:zim w a.sy):Sp P F.ko [enc a,.sl (ens w)] (.pure (.int .i64 0)):=by
 have h0:=ok.il
 have h1:=ok.fl
 have h2:=ok.st2
 have vx:=zlq w a.sy (by have:=hw.2.1; omega)
 have dx:decide ((1<=a.sy/\a.sy<=32)/\w.length<=256/\∀ x∈w,1<=x/\x<=a.sy)=true:=decide_eq_true hw
 rw [dx] at vx
 have v6:=zzh a (h.mono (by omega)) (by omega) (by omega)
 rw [GAuto.vb_iff.2 ok] at v6
 refine Sp.vz c.ko fun _=>?_
 simp [g.ko,go_sem]
 refine zab v6 ?_
 simp [go_sem]
 refine zab (z00 a n hn hn1 h hl ok hpl) ?_
 simp [go_sem]
 refine zab vx ?_
 simp [go_sem]
theorem zuw {r:GRing} (M:Meas r) {z:Nat} (a:GAuto) (ha:a.fits M z) (n:Nat) (hn:n<=90) (hn1:3<=n) (h:a.sm n) (hl:a.arcs.length<=19) (ok:a.ok) (hpl:∀ x∈a.nf.arcs,x.l≠0) (w:List Int) (hw:zim w a.sy) (hlim:z+(w.length+1)*(z+1+a.arcs.length)<=M.lim) :
  Sp P F.j0 [enc a,.sl (ens w)] (.pure (.tup [.sl (ens (fwL a.ring a.arcs a.st.toNat a.ini w)),.int .i64 0])):=by
 have h0:=ok.il
 have h1:=ok.fl
 have h2:=ok.st2
 have hp:a.ring.parts.length<=1000000:=by
  by_cases h6:a.ring.kind=6
  ·have:=(GRing.ok_parts ok.ring h6).2.1; omega
  ·rw [(GRing.ok_kind ok.ring h6).2.2]; simp
 have f6:=zxb a n hn hn1 h hl hp (by omega) (by omega) ok.ini ok.fin fun x hx=>(ok.arcs x hx).2.2.2.2.2.2
 have hur:=ha.ring
 subst hur
 refine Sp.vz c.j0 fun _=>?_
 simp [g.j0,go_sem]
 refine zab (z28 a n hn hn1 h hl ok hpl w hw) ?_
 simp [go_sem]
 refine zab f6 ?_
 simp [go_sem]
 refine zag (S:=fun k:Nat=>mkSt [(1,.p (.sl (ens w))),(2,.ptr 2 0 0 0),(7,.p (.sl (ens (fwL a.ring a.arcs a.st.toNat a.ini (w.take k))))),(8,.p (.int .i64 k))] [(2,⟨7,[.p (enc a)]⟩)])
  (I:=fun k=>k<=w.length) (m:=fun k=>w.length - k) 0 (Weak.to [1,2,7,8] [((2,0),2)] (by simp [go_sem,fwL,GAuto.nf])) (by omega) ?_
 rintro k h3 R hn' hr' hx
 have hw256:=hw.2.1
 have e1:=i64s k (by omega)
 simp [g.q7,mkSt,go_sem]
 refine ⟨fun hk=>zae hk ?_,fun hk=>hx _ _ ?_⟩
 ·have hsu:=z54 (r:=a.ring) (A:=a.arcs) (n:=a.st.toNat) hk a.ini
  have hv:=z2e M ha.rok (e:=z) ha.arcs (w.take k) z a.ini ha.ini.1 ha.ini.2
  have hmul:(w.take k).length*(z+1+a.arcs.length)<=w.length*(z+1+a.arcs.length):=Nat.mul_le_mul_right _ (by rw [List.length_take]; omega)
  rw [Nat.succ_mul] at hlim
  try simp [go_sem]
  refine zab (z4a M a ha hv.1 hv.2 (by omega) (by omega) w[k]) ?_
  simp [go_sem,e1]
  exact hn' (k+1) _ (Weak.to [1,2,7,8] [((2,0),2)] (by simp [go_sem,mkSt,hsu])) (by omega) (by omega)
 ·have:k=w.length:=by omega
  subst this
  simp [go_sem]
noncomputable def wgt8 (a:GAuto) (w:List Int):GW:=sumW a.ring (fwL a.ring a.arcs a.st.toNat a.ini w) a.fin
theorem zxt {r:GRing} (M:Meas r) {z:Nat} (a:GAuto) (ha:a.fits M z) (n:Nat) (hn:n<=90) (hn1:3<=n) (h:a.sm n) (hl:a.arcs.length<=19) (ok:a.ok) (hpl:∀ x∈a.nf.arcs,x.l≠0) (w:List Int) (hw:zim w a.sy) (hlim:z+(w.length+1)*(z+1+a.arcs.length)+z+1+64<=M.lim) :
  Sp P F.jt [enc a,.sl (ens w)] (.pure (.tup [enc (wgt8 a w),.int .i64 0])):=by
 have h2:=ok.st2
 have hf:=zuw M a ha n hn hn1 h hl ok hpl w hw (by omega)
 have hur:=ha.ring
 subst hur
 have hv:=z2e M ha.rok (e:=z) ha.arcs w z a.ini ha.ini.1 ha.ini.2
 rw [Nat.succ_mul] at hlim
 have hd:=z92 M ha.rok hv.1 ha.fin.1 hv.2 ha.fin.2 (by omega) (by omega)
 refine Sp.vz c.jt fun _=>?_
 simp [g.jt,go_sem]
 refine zab hf ?_
 simp [go_sem]
 refine zab hd ?_
 simp [go_sem,wgt8]
end Go.Ab
namespace Go.Ab
def pl (g:Ex->Rat):List GMono->Rat
 | []=>0
 | m::p=>g m.e*m.coef.v+pl g p
theorem ybn (a b c:Rat):a+(b+c)=b+(a+c):=by rw [<- Rat.add_assoc,Rat.add_comm a b,Rat.add_assoc]
theorem z8y (g:Ex->Rat) (p:List GMono) (e:Ex) (q:Rat):pl g (pins p e q)=pl g p+g e*q:=by
 induction p with
 | nil=>simp only [pins,pl,zbg,Rat.add_zero,Rat.zero_add]
 | cons m p ih =>
  simp only [pins]
  split
  ·simp only [pl,ih,Rat.add_assoc]
  ·split
   ·rename_i h
    split
    ·rename_i h2
     simp only [pl,h]
     rw [Rat.add_comm (g e*m.coef.v) (pl g p),Rat.add_assoc,<- Rat.mul_add,Rat.add_comm m.coef.v q,h2,Rat.mul_zero,Rat.add_zero]
    ·simp only [pl,h,zbg]
     rw [Rat.mul_add,Rat.add_assoc,Rat.add_comm]
   ·simp only [pl,zbg]
    rw [Rat.add_comm]
theorem z01 (g:Ex->Rat) (p:List GMono) (e:Ex) (q:Rat):pl g (pput p e q)=pl g p+if e.ok=true then g e*q else 0:=by
 rw [zg1]
 split
 ·rename_i h
  rcases h with h|h
  ·simp [h,Rat.add_zero]
  ·simp [h,Rat.mul_zero,Rat.add_zero]
 ·rename_i h
  have:e.ok=true:=by
   rcases Bool.eq_false_or_eq_true e.ok with h'|h'
   ·exact h'
   ·exact absurd (.inl h') h
  rw [z8y,if_pos this]
theorem z02 (g:Ex->Rat) (p:List GMono) {q:List GMono} (hq:∀ m∈q,m.ok=true):pl g (padd p q)=pl g p+pl g q:=by
 induction q generalizing p with
 | nil=>show pl g p=_; rw [pl,Rat.add_zero]
 | cons m q ih =>
  show pl g (padd (pput p m.e m.coef.v) q)=_
  rw [ih _ fun x hx=>hq x (List.mem_cons_of_mem _ hx),z01,if_pos (GMono.ok_iff.1 (hq m List.mem_cons_self)).1,pl,Rat.add_assoc]
def pind (e x:Ex):Rat:=if x=e then 1 else 0
theorem z5c (p:List GMono) (e:Ex):pc p e=pl (pind e) p:=by
 induction p with
 | nil=>rfl
 | cons m p ih =>
  simp only [pc,pl,ih,pind]
  split
  ·rw [Rat.one_mul]
  ·rw [Rat.zero_mul]
def psh (g:Ex->Rat) (y x:Ex):Rat:=if (y.add x).ok=true then g (y.add x) else 0
theorem z8x (g:Ex->Rat) (m:GMono) (q:List GMono) (o:List GMono):pl g (prow m q o)=pl g o+pl (psh g m.e) q*m.coef.v:=by
 induction q generalizing o with
 | nil=>show pl g o=_; rw [pl,Rat.zero_mul,Rat.add_zero]
 | cons x q ih =>
  show pl g (prow m q (pput o (m.e.add x.e) (m.coef.v*x.coef.v)))=_
  rw [ih,z01,pl,Rat.add_mul,Rat.add_assoc]
  congr 2
  unfold psh
  split
  ·rw [Rat.mul_comm m.coef.v,Rat.mul_assoc]
  ·rw [Rat.zero_mul,Rat.zero_mul]
theorem zf6 (g:Ex->Rat) (p q:List GMono):pl g (pmul p q)=pl (fun y=>pl (psh g y) q) p:=by
 have:∀ (p o:List GMono),pl g (p.foldl (fun o m=>prow m q o) o)=pl g o+pl (fun y=>pl (psh g y) q) p:=by
  intro p
  induction p with
  | nil=>intro o; show pl g o=_; rw [pl,Rat.add_zero]
  | cons m p ih =>
   intro o
   show pl g (p.foldl (fun o m=>prow m q o) (prow m q o))=_
   rw [ih,z8x,pl,Rat.add_assoc]
 have h:=this p []
 rw [pl,Rat.zero_add] at h
 exact h
theorem zf7 {f g:Ex->Rat} {p:List GMono} (h:∀ m∈p,f m.e=g m.e):pl f p=pl g p:=by
 induction p with
 | nil=>rfl
 | cons m p ih=>simp only [pl]; rw [h m List.mem_cons_self,ih fun x hx=>h x (List.mem_cons_of_mem _ hx)]
theorem z03 (f g:Ex->Rat) (p:List GMono):pl (fun x=>f x+g x) p=pl f p+pl g p:=by
 induction p with
 | nil=>simp only [pl,Rat.add_zero]
 | cons m p ih=>simp only [pl,ih,Rat.add_mul]; rw [Rat.add_assoc,Rat.add_assoc,ybn (g m.e*m.coef.v)]
theorem zwb (p:List GMono):pl (fun _=>0) p=0:=by
 induction p with
 | nil=>rfl
 | cons m p ih=>simp only [pl,ih,Rat.zero_mul,Rat.add_zero]
theorem z8z (f:Ex->Rat) (c:Rat) (p:List GMono):pl (fun x=>f x*c) p=pl f p*c:=by
 induction p with
 | nil=>simp only [pl,Rat.zero_mul]
 | cons m p ih=>simp only [pl,ih,Rat.add_mul]; rw [Rat.mul_assoc,Rat.mul_comm c,<- Rat.mul_assoc]
theorem z8w (f:Ex->Ex->Rat) (p q:List GMono):pl (fun y=>pl (fun x=>f y x) q) p=pl (fun x=>pl (fun y=>f y x) p) q:=by
 induction p with
 | nil=>simp only [pl,zwb]
 | cons m p ih=>simp only [pl,ih,z03,z8z]
theorem Ex.add_comm (x y:Ex):x.add y=y.add x:=by simp only [Ex.add,Int.add_comm]
theorem Ex.add_assoc (x y z:Ex):(x.add y).add z=x.add (y.add z):=by simp only [Ex.add,Int.add_assoc]
theorem zv6 {p q p' q':List GMono} (h:∀ g,pl g (pmul p q)=pl g (pmul p' q')):pmul p q=pmul p' q':=zi3 (zdn _ _) (zdn _ _) fun e=>by rw [z5c,z5c,h]
theorem zsh (p q:List GMono):pmul p q=pmul q p:=zv6 fun g=>by
 rw [zf6,zf6]
 rw [show (fun y=>pl (psh g y) q)=fun y=>pl (fun x=>psh g y x) q from rfl,z8w]
 refine zf7 fun m _=>zf7 fun m' _=>?_
 unfold psh
 rw [Ex.add_comm]
theorem mok {m:GMono} {p:List GMono} (h:PVal p) (hm:m∈p):m.e.ok=true:=(GMono.ok_iff.1 ((zaj.1 h).1 m hm)).1
theorem zx7 {p q w:List GMono} (hp:PVal p) (hq:PVal q) (hw:PVal w):pmul (pmul p q) w=pmul p (pmul q w):=zv6 fun g=>by
 rw [zf6,zf6,zf6]
 refine zf7 fun a ha=>?_
 rw [zf6]
 refine zf7 fun b hb=>?_
 have ka:=Ex.ok_iff.1 (mok hp ha)
 have kb:=Ex.ok_iff.1 (mok hq hb)
 unfold psh
 by_cases h1:(a.e.add b.e).ok=true
 ·rw [if_pos h1]
  refine zf7 fun c hc=>?_
  have kc:=Ex.ok_iff.1 (mok hw hc)
  rw [Ex.add_assoc]
  by_cases h2:(b.e.add c.e).ok=true
  ·rw [if_pos h2]
  ·rw [if_neg h2,if_neg]
   intro h3
   refine h2 (Ex.ok_iff.2 ?_)
   have:=Ex.ok_iff.1 h3
   simp only [Ex.add] at this ⊢
   omega
 ·rw [if_neg h1]
  refine (zwb w).symm.trans (zf7 fun c hc=>?_)
  have kc:=Ex.ok_iff.1 (mok hw hc)
  by_cases h2:(b.e.add c.e).ok=true
  ·rw [if_pos h2,if_neg]
   intro h3
   refine h1 (Ex.ok_iff.2 ?_)
   have:=Ex.ok_iff.1 h3
   simp only [Ex.add] at this ⊢
   omega
  ·rw [if_neg h2]
theorem z0w {u v w:List GMono} (hv:PVal v) (hw:PVal w):pmul u (padd v w)=padd (pmul u v) (pmul u w):=by
 refine zi3 (zdn _ _) (zb9 _ (zdn _ _)) fun e=>?_
 rw [z5c,z5c,z02 _ _ (zaj.1 (zdn u w)).1,zf6,zf6,zf6,<- z03]
 exact zf7 fun m _=>z02 _ _ (zaj.1 hw).1
theorem z42 (p:List GMono):pmul p []=[]:=by rw [zsh]; rfl
theorem zf2 {v:GW} (hv:v.si 2):0<=trop v/\trop v<=1099511627777:=by
 obtain ⟨h1,h2,h3,h4,h5,h6,h7⟩:=si2.1 hv
 unfold trop
 split<;>omega
theorem zb3 {v w:GW} (hv:v.si 2) (hw:w.si 2):trop (zax 2 v w)=if trop v+trop w<=1099511627776 then trop v+trop w else 1099511627777:=by
 obtain ⟨h1,h2,h3,h4,h5,h6,h7⟩:=si2.1 hv
 obtain ⟨k1,k2,k3,k4,k5,k6,k7⟩:=si2.1 hw
 unfold zax
 rw [if_neg (by omega),if_pos rfl]
 unfold trop
 have e1:∀ c:Int,(GW.mk gr0 c false 0 [] []).inf=false:=fun _=>rfl
 have e2:∀ c:Int,(GW.mk gr0 c false 0 [] []).cost=c:=fun _=>rfl
 have e3:(GW.mk gr0 0 true 0 [] []).inf=true:=rfl
 cases hi:v.inf<;>cases hj:w.inf<;>simp [hi,hj,e3]
 ·by_cases h:v.cost+w.cost<=1099511627776
  ·rw [if_neg (show ¬ 1099511627776<v.cost+w.cost by omega),e1,e2,if_pos h]; rfl
  ·rw [if_pos (show 1099511627776<v.cost+w.cost by omega),e3,if_neg h]; rfl
 ·omega
 ·omega
theorem k5 {k:Int} (hk:1<=k/\k<=5):k=1\/k=2\/k=3\/k=4\/k=5:=by omega
theorem ze9 (v w:GW):zax 1 v w=.mk (rto (v.q.v*w.q.v)) 0 false 0 [] []:=by simp [zax]
theorem zek (v w:GW):zax 3 v w=.mk (rto (v.q.v*w.q.v)) 0 false 0 [] []:=by simp [zax]
theorem ze8 (v w:GW):zax 4 v w=.mk gr0 0 false (v.set &&& w.set) [] []:=by simp [zax]
theorem ze7 (v w:GW):zax 5 v w=.mk gr0 0 false 0 (pmul v.poly w.poly) []:=by simp [zax]
theorem zlt {k:Int} (hk:1<=k/\k<=5) {v w:GW} (hv:v.si k) (hw:w.si k):zax k v w=zax k w v:=by
 rcases k5 hk with rfl|rfl|rfl|rfl|rfl
 ·rw [ze9,ze9,Rat.mul_comm]
 ·refine zhp (za6 hk hv hw) (za6 hk hw hv) ?_
  rw [zb3 hv hw,zb3 hw hv,Int.add_comm]
 ·rw [zek,zek,Rat.mul_comm]
 ·rw [ze8,ze8,UInt64.and_comm]
 ·rw [ze7,ze7,zsh]
theorem zkh {k:Int} (hk:1<=k/\k<=5) {u v w:GW} (hu:u.si k) (hv:v.si k) (hw:w.si k):zax k (zax k u v) w=zax k u (zax k v w):=by
 rcases k5 hk with rfl|rfl|rfl|rfl|rfl
 ·rw [ze9,ze9,ze9,ze9]; simp only [GW.q_mk,zbg,Rat.mul_assoc]
 ·refine zhp (za6 hk (za6 hk hu hv) hw) (za6 hk hu (za6 hk hv hw)) ?_
  rw [zb3 (za6 hk hu hv) hw,zb3 hu hv,zb3 hu (za6 hk hv hw),zb3 hv hw]
  have:=zf2 hu; have:=zf2 hv; have:=zf2 hw
  repeat' split
  all_goals omega
 ·rw [zek,zek,zek,zek]; simp only [GW.q_mk,zbg,Rat.mul_assoc]
 ·rw [ze8,ze8,ze8,ze8]; simp only [GW.set_mk,UInt64.and_assoc]
 ·rw [ze7,ze7,ze7,ze7]
  simp only [GW.poly_mk]
  rw [zx7 (si_p hu) (si_p hv) (si_p hw)]
theorem ydc (a b c:UInt64):a &&& (b ||| c)=(a &&& b) ||| (a &&& c):=UInt64.toBitVec_inj.1 (by
 simp only [UInt64.toBitVec_and,UInt64.toBitVec_or]
 exact BitVec.eq_of_getLsbD_eq fun i _=>by simp only [BitVec.getLsbD_and,BitVec.getLsbD_or,Bool.and_or_distrib_left])
theorem zkg {k:Int} (hk:1<=k/\k<=5) {u v w:GW} (hu:u.si k) (hv:v.si k) (hw:w.si k):zax k u (zap k v w)=zap k (zax k u v) (zax k u w):=by
 rcases k5 hk with rfl|rfl|rfl|rfl|rfl
 ·rw [ze9,ze9,ze9]; simp only [zap,if_true,GW.q_mk,zbg,Rat.mul_add]
 ·refine zhp (za6 hk hu (zb8 hk hv hw)) (zb8 hk (za6 hk hu hv) (za6 hk hu hw)) ?_
  rw [zb3 hu (zb8 hk hv hw),zdq hv hw,zdq (za6 hk hu hv) (za6 hk hu hw),zb3 hu hv,zb3 hu hw]
  have:=zf2 hu; have:=zf2 hv; have:=zf2 hw
  repeat' split
  all_goals omega
 ·obtain ⟨_,_,_,_,_,_,h0,_⟩:=si3.1 hu
  rw [zsi,zsi,zek u v,zek u w]
  simp only [GW.q_mk,zbg]
  by_cases h:v.q.v<w.q.v
  ·rw [if_pos h,zek]
   by_cases h2:u.q.v*v.q.v<u.q.v*w.q.v
   ·rw [if_pos h2]
   ·have h3:=Rat.mul_le_mul_of_nonneg_left (Rat.le_of_lt h) h0
    rw [if_neg h2,Rat.le_antisymm h3 (Rat.not_lt.1 h2)]
  ·have h3:=Rat.mul_le_mul_of_nonneg_left (Rat.not_lt.1 h) h0
   rw [if_neg h,if_neg (Rat.not_lt.2 h3),zek]
 ·rw [ze8,ze8,ze8]; simp [zap,GW.set_mk,ydc]
 ·rw [ze7,ze7,ze7]
  simp only [zap,GW.poly_mk]
  simp [GW.poly_mk,z0w (si_p hv) (si_p hw)]
theorem zkf {k:Int} (hk:1<=k/\k<=5) {v:GW} (hv:v.si k):zax k v (zbz k)=zbz k:=by
 rcases k5 hk with rfl|rfl|rfl|rfl|rfl
 ·rw [ze9]; simp [zbz,GW.q_mk,zg8,Rat.mul_zero,show rto 0=gr0 from zck]
 ·refine zhp (za6 hk hv (zhn hk)) (zhn hk) ?_
  rw [zb3 hv (zhn hk)]
  have:=zf2 hv
  have e:trop (zbz 2)=1099511627777:=rfl
  rw [e,if_neg (by omega)]
 ·rw [zek]; simp [zbz,GW.q_mk,zg8,Rat.mul_zero,show rto 0=gr0 from zck]
 ·rw [ze8]; simp [zbz,GW.set_mk]
 ·rw [ze7]; simp [zbz,GW.poly_mk,z42]
section
variable {r:GRing} {u v w:GW}
theorem zxz (cv:v.chk r) (cw:w.chk r):r.times v w=r.times w v:=by
 by_cases h6:r.kind=6
 ·have hp:=GRing.ok_parts cv.1 h6
  obtain ⟨lv,_,sv⟩:=cv.2.2 h6
  obtain ⟨lw,_,sw⟩:=cw.2.2 h6
  simp only [GRing.times,if_pos h6]
  congr 1
  refine List.ext_getElem (by rw [zay lv lw,zay lw lv]) fun i h1 h2=>?_
  have h3:i<r.parts.length:=by rw [zay lv lw] at h1; exact h1
  rw [za9 h3 (by omega) (by omega) h1,za9 h3 (by omega) (by omega) h2]
  exact zlt (hp.2.2 _ (List.getElem_mem h3)) (sv i h3 (by omega)) (sw i h3 (by omega))
 ·have hk:=GRing.ok_kind cv.1 h6
  simp only [GRing.times,if_neg h6]
  exact zlt ⟨hk.1,hk.2.1⟩ (cv.2.1 h6) (cw.2.1 h6)
theorem zt0 (cu:u.chk r) (cv:v.chk r) (cw:w.chk r):r.times (r.times u v) w=r.times u (r.times v w):=by
 by_cases h6:r.kind=6
 ·have hp:=GRing.ok_parts cu.1 h6
  obtain ⟨lu,_,su⟩:=cu.2.2 h6
  obtain ⟨lv,_,sv⟩:=cv.2.2 h6
  obtain ⟨lw,_,sw⟩:=cw.2.2 h6
  simp only [GRing.times,if_pos h6,GW.parts_mk]
  congr 1
  have luv:=zay lu lv
  have lvw:=zay lv lw
  refine List.ext_getElem (by rw [zay luv lw,zay lu lvw]) fun i h1 h2=>?_
  have h3:i<r.parts.length:=by rw [zay luv lw] at h1; exact h1
  rw [za9 h3 (by omega) (by omega) h1,za9 h3 (by omega) (by omega) h2,za9 h3 (by omega) (by omega) (by omega),za9 h3 (by omega) (by omega) (by omega)]
  exact zkh (hp.2.2 _ (List.getElem_mem h3)) (su i h3 (by omega)) (sv i h3 (by omega)) (sw i h3 (by omega))
 ·have hk:=GRing.ok_kind cu.1 h6
  simp only [GRing.times,if_neg h6]
  exact zkh ⟨hk.1,hk.2.1⟩ (cu.2.1 h6) (cv.2.1 h6) (cw.2.1 h6)
theorem zxy (cu:u.chk r) (cv:v.chk r) (cw:w.chk r):r.times u (r.plus v w)=r.plus (r.times u v) (r.times u w):=by
 by_cases h6:r.kind=6
 ·have hp:=GRing.ok_parts cu.1 h6
  obtain ⟨lu,_,su⟩:=cu.2.2 h6
  obtain ⟨lv,_,sv⟩:=cv.2.2 h6
  obtain ⟨lw,_,sw⟩:=cw.2.2 h6
  simp only [GRing.times,GRing.plus,if_pos h6,GW.parts_mk]
  congr 1
  have lvw:=za8 lv lw
  have luv:=zay lu lv
  have luw:=zay lu lw
  refine List.ext_getElem (by rw [zay lu lvw,za8 luv luw]) fun i h1 h2=>?_
  have h3:i<r.parts.length:=by rw [zay lu lvw] at h1; exact h1
  rw [za9 h3 (by omega) (by omega) h1,zbl h3 (by omega) (by omega) (by omega),zbl h3 (by omega) (by omega) h2,za9 h3 (by omega) (by omega) (by omega),za9 h3 (by omega) (by omega) (by omega)]
  exact zkg (hp.2.2 _ (List.getElem_mem h3)) (su i h3 (by omega)) (sv i h3 (by omega)) (sw i h3 (by omega))
 ·have hk:=GRing.ok_kind cu.1 h6
  simp only [GRing.times,GRing.plus,if_neg h6]
  exact zkg ⟨hk.1,hk.2.1⟩ (cu.2.1 h6) (cv.2.1 h6) (cw.2.1 h6)
theorem zxx (cv:v.chk r):r.times v r.zero=r.zero:=by
 by_cases h6:r.kind=6
 ·have hp:=GRing.ok_parts cv.1 h6
  obtain ⟨lv,_,sv⟩:=cv.2.2 h6
  have ez:r.zero=.mk gr0 0 false 0 [] (r.parts.map zbz):=by unfold GRing.zero; rw [if_pos cv.1,h6]; rfl
  rw [ez]
  simp only [GRing.times,if_pos h6,GW.parts_mk]
  congr 1
  have lz:(r.parts.map zbz).length=r.parts.length:=List.length_map ..
  refine List.ext_getElem (by rw [zay lv lz,lz]) fun i h1 h2=>?_
  have h3:i<r.parts.length:=by rw [lz] at h2; exact h2
  rw [za9 h3 (by omega) (by omega) h1,List.getElem_map]
  exact zkf (hp.2.2 _ (List.getElem_mem h3)) (sv i h3 (by omega))
 ·have hk:=GRing.ok_kind cv.1 h6
  have ez:r.zero=zbz r.kind:=by unfold GRing.zero; rw [if_pos cv.1,hk.2.2]; rfl
  rw [ez]
  simp only [GRing.times,if_neg h6]
  exact zkf ⟨hk.1,hk.2.1⟩ (cv.2.1 h6)
end
end Go.Ab
