/-
Proofs for the law ProjectIdentityWeighs, part 40. Conditions: none.
-/
import Derived.Test.YtalcegbealdigaaGreatDoorBP39
import Derived.Test.YtalcegbealdigaaGreatDoorBP38
set_option maxRecDepth 100000
set_option maxHeartbeats 4000000
set_option linter.all false
namespace Go.Ab
open Enc (enc)
section
variable (t:GTrans) (wx wy:List Int)
def rowL (i k:Nat):List (List GW):=(List.range' k (wy.length+1 - k)).map (tabW t wx wy i)
def zl1 (i:Nat):List (List (List GW)):=(List.range' i (wx.length+1 - i)).map fun i=>rowL t wx wy i 0
theorem zl2 {i k:Nat} (h:k<=wy.length):rowL t wx wy i k=tabW t wx wy i k::rowL t wx wy i (k+1):=by
 unfold rowL
 rw [show wy.length+1 - k=(wy.length+1 - (k+1))+1 by omega,List.range'_succ,List.map_cons]
theorem z4r (i:Nat):rowL t wx wy i (wy.length+1)=[]:=by simp [rowL]
theorem zlc (i k:Nat):(rowL t wx wy i k).length=wy.length+1 - k:=by simp [rowL]
theorem z4q {i b:Nat} (h:b<=wy.length):(rowL t wx wy i 0)[b]?=some (tabW t wx wy i b):=by
 unfold rowL
 rw [List.getElem?_map,List.getElem?_range' (by omega)]; simp
theorem zjw {i:Nat} (h:i<=wx.length):zl1 t wx wy i=rowL t wx wy i 0::zl1 t wx wy (i+1):=by
 unfold zl1
 rw [show wx.length+1 - i=(wx.length+1 - (i+1))+1 by omega,List.range'_succ,List.map_cons]
theorem z0f:zl1 t wx wy (wx.length+1)=[]:=by simp [zl1]
theorem zi1 (i:Nat):(zl1 t wx wy i).length=wx.length+1 - i:=by simp [zl1]
end
theorem yb6 (label:Int) (w:List Int) (a:Nat) : -1<=nx label w a:=by
 unfold nx
 split
 ·omega
 ·split<;>omega
theorem z3t {A:Prop} {N:Nat} {Q:Exit->St->Prop} {b:GC} {ks:List Kt} (W:St->Prop) (h:∀ st,W st->vL P N Q b ks st) (k:(∀ st,W st->vL P N Q b ks st)->A):A:=k h
theorem z4f {α : Type} (i:Nat) (a x : α):(List.replicate (i+1) a).set i x=List.replicate i a++[x]:=by
 rw [List.replicate_succ',List.set_append_right _ _ (by simp)]
 simp
theorem ych {α : Type} (i:Nat) (a : α) (l:List α):(List.replicate (i+1) a++l)[i]?=some a:=by
 rw [List.getElem?_append_left (by simp)]; simp
theorem ye5 {α : Type} (i:Nat) (a x y : α) (l:List α):(List.replicate i a++y::l).set i x=List.replicate i a++x::l:=by
 rw [List.set_append_right _ _ (by simp)]; simp
theorem z52 {α : Type} (i:Nat) (a x : α) (l:List α):(List.replicate i a++x::l)[i]?=some x:=by
 rw [List.getElem?_append_right (by simp)]; simp
theorem yfl {α : Type} (i:Nat) (a x y : α) (l:List α):(List.replicate i a++x::y::l)[i+1]?=some y:=by
 rw [List.getElem?_append_right (by simp)]; simp
def zim (w:List Int) (m:Int):Prop:=(1<=m/\m<=32)/\w.length<=256/\∀ x∈w,1<=x/\x<=m
noncomputable instance (w:List Int) (m:Int):Decidable (zim w m):=Classical.propDecidable _
theorem ztv {r:GRing} (M:Meas r) {z:Nat} (t:GTrans) (n:Nat) (hn:n<=90) (hn1:3<=n) (h:t.sm n) (hl:t.arcs.length<=19) (ok:t.ok) (ht:t.nf.fits M z) (wx wy:List Int) (lx:wx.length<=256) (ly:wy.length<=256)
  (hlim:lvl t.nf z (wx.length+wy.length+1)+z+1+t.st.toNat<=M.lim) (hc:emC t=false) (hwx:zim wx t.i) (hwy:zim wy t.o) :
  Sp P F.jn [enc t,.sl (ens wx),.sl (ens wy)] (.pure (.tup [enc (wgt t.nf wx wy),.int .i64 0])):=by
 have h0:=ok.il
 have h2:=ok.fl
 have h3:=ok.st2
 have hst:=ht.st
 have hA:=zuo t
 refine Sp.vz c.jn fun _=>?_
 simp [g.jn,go_sem]
 refine zab (zn6 t (h.mono (by omega)) (by omega) (by omega)) ?_
 simp [go_sem,ok]
 refine zab (zy9 t n hn hn1 h hl ok) ?_
 simp [go_sem,hc]
 have vx:=zlq wx t.i (by omega)
 have vy:=zlq wy t.o (by omega)
 have dx:decide ((1<=t.i/\t.i<=32)/\wx.length<=256/\∀ x∈wx,1<=x/\x<=t.i)=true:=decide_eq_true hwx
 have dy:decide ((1<=t.o/\t.o<=32)/\wy.length<=256/\∀ x∈wy,1<=x/\x<=t.o)=true:=decide_eq_true hwy
 rw [dx] at vx
 rw [dy] at vy
 refine zab vx ?_
 simp [go_sem]
 refine zab vy ?_
 simp [go_sem]
 have hp:t.ring.parts.length<=1000000:=by
  by_cases h6:t.ring.kind=6
  ·have:=(GRing.ok_parts ok.ring h6).2.1; omega
  ·rw [(GRing.ok_kind ok.ring h6).2.2]; simp
 refine zab (z2h t n hn hn1 h hl hp (by omega) h0 h2 ok.ini ok.fin fun x hx=>(ok.arcs x hx).2.2.2.2.2.2.2.2) ?_
 have ust:t.nf.st=t.st:=rfl
 have ex:IntKind.i64.wrap ((wx.length:Int)+1)=((wx.length+1:Nat):Int):=i64w (by omega) (by omega)
 have ey:IntKind.i64.wrap ((wy.length:Int)+1)=((wy.length+1:Nat):Int):=i64w (by omega) (by omega)
 rw [<- ust] at hlim
 simp [go_sem,ex]
 generalize t.nf=u at *
 have hur:=ht.ring
 subst hur
 have hA2:u.arcs.length<=19:=by omega
 have hlv:lvl u z (wx.length+wy.length+1)=lvl u z (wx.length+wy.length)+(u.st.toNat+1)*(z+1+u.arcs.length):=by unfold lvl; rw [Nat.succ_mul]
 have hlm:(u.st.toNat+1)*(z+1+u.arcs.length)=u.st.toNat*(z+1+u.arcs.length)+(z+1+u.arcs.length):=Nat.succ_mul _ _
 refine ⟨by omega,?_⟩
 refine zag (S:=fun kk:Nat=>mkSt [(1,.p (.sl (ens wx))),(2,.p (.sl (ens wy))),(3,.ptr 3 0 0 0),(6,.ptr 6 0 0 0),(8,.own 1 0 0 (wx.length+1)),(9,.p (.int .i64 ((kk:Int) - 1)))]
   [(3,⟨8,[.p (enc u)]⟩),(6,⟨8,[.agg [.p (.bool false),.nil,.nil,.p (.int .i64 0),.p (.bool false),.p (.int .u64 0),.nil,.nil]]⟩),(1,⟨1,avs (List.replicate kk ([]:List (List GW))++zl1 u wx wy kk)⟩)])
  (I:=fun kk=>kk<=wx.length+1) (m:=fun kk=>kk) (wx.length+1) (Weak.to [1,2,3,6,8,9] [((3,0),3),((6,0),6),((46,0),1)] (by simp [go_sem,z0f])) (Nat.le_refl _) ?_
 rintro kk h1 R hn' hr hx
 simp [g.qi,mkSt,go_sem]
 refine ⟨fun hk=>?_,fun hk=>hx _ _ ?_⟩
 ·obtain ⟨i,rfl⟩:∃ i,kk=i+1:=⟨kk - 1,by omega⟩
  have hi:i<=wx.length:=by omega
  have ei:((i+1:Nat):Int) - 1=i:=by omega
  simp [go_sem,ey,ei,z4f]
  refine ⟨by omega,by rw [zi1]; omega,?_⟩
  rw [zer]
  refine zb2 (ych ..) ?_
  simp [go_sem,z4f]
  refine zag (S:=fun kk:Nat=>mkSt [(1,.p (.sl (ens wx))),(2,.p (.sl (ens wy))),(3,.ptr 3 0 0 0),(6,.ptr 6 0 0 0),(8,.own 1 0 0 (wx.length+1)),(9,.p (.int .i64 i)),(10,.p (.int .i64 ((kk:Int) - 1)))]
    [(3,⟨8,[.p (enc u)]⟩),(6,⟨8,[.agg [.p (.bool false),.nil,.nil,.p (.int .i64 0),.p (.bool false),.p (.int .u64 0),.nil,.nil]]⟩),(1,⟨1,List.replicate i (.p (.sl [])) ++ .own 2 0 0 (wy.length+1)::avs (zl1 u wx wy (i+1))⟩),
     (2,⟨1,avs (List.replicate kk ([]:List GW)++rowL u wx wy i kk)⟩)])
   (I:=fun kk=>kk<=wy.length+1) (m:=fun kk=>kk) (wy.length+1) (Weak.to [1,2,3,6,8,9,10] [((3,0),3),((6,0),6),((1,0),1),((58,0),2)] (by simp [go_sem,z4r])) (Nat.le_refl _) ?_
  rintro kk h4 R2 hn2 hr2 hx2
  simp [g.qh,mkSt,go_sem]
  refine ⟨fun hk=>?_,fun hk=>hx2 _ _ ?_⟩
  ·obtain ⟨k,rfl⟩:∃ k,kk=k+1:=⟨kk - 1,by omega⟩
   have hkl:k<=wy.length:=by omega
   have ek:((k+1:Nat):Int) - 1=k:=by omega
   simp [go_sem,ek]
   obtain ⟨nn,hnn⟩:∃ nn:Nat,u.st=nn:=⟨u.st.toNat,by omega⟩
   refine zaa (zzb u.ring nn (by omega)) (by simp [go_sem,hnn]) ?_
   simp [go_sem]
   have hN:u.st.toNat=nn:=by omega
   let S1:Nat->St:=fun j=>mkSt [(1,.p (.sl (ens wx))),(2,.p (.sl (ens wy))),(3,.ptr 3 0 0 0),(6,.ptr 6 0 0 0),(8,.own 1 0 0 (wx.length+1)),(9,.p (.int .i64 i)),(10,.p (.int .i64 k)),
     (11,.p (.sl (ens (accW u.ring (zcm wx wy i k (tabW u wx wy)) (u.arcs.take j) (zeq u wx wy i k))))),(12,.p (.int .i64 j))]
    [(3,⟨8,[.p (enc u)]⟩),(6,⟨8,[.agg [.p (.bool false),.nil,.nil,.p (.int .i64 0),.p (.bool false),.p (.int .u64 0),.nil,.nil]]⟩),(1,⟨1,List.replicate i (.p (.sl [])) ++ .own 2 0 0 (wy.length+1)::avs (zl1 u wx wy (i+1))⟩),
     (2,⟨1,avs (List.replicate (k+1) ([]:List GW)++rowL u wx wy i (k+1))⟩)]
   refine z3t (fun st=>Weak st (S1 0)) (fun st hw=>?_) (fun hm=>⟨fun a=>⟨fun b=>hm _ (Weak.to [1,2,3,6,8,9,10,11,12] [((3,0),3),((6,0),6),((1,0),1),((2,0),2)] ?_),fun b=>hm _ (Weak.to [1,2,3,6,8,9,10,11,12] [((3,0),3),((6,0),6),((1,0),1),((2,0),2)] ?_)⟩,fun a=>hm _ (Weak.to [1,2,3,6,8,9,10,11,12] [((3,0),3),((6,0),6),((1,0),1),((2,0),2)] ?_)⟩)
   rotate_left
   ·have hb:zeq u wx wy i k=u.fin:=by unfold zeq; rw [if_pos ⟨by omega,by omega⟩]
    simp [S1,go_sem,accW,hb]
   ·have hb:zeq u wx wy i k=List.replicate nn u.ring.zero:=by unfold zeq; rw [if_neg (by omega),hN]
    simp [S1,go_sem,accW,hb]
   ·have hb:zeq u wx wy i k=List.replicate nn u.ring.zero:=by unfold zeq; rw [if_neg (by omega),hN]
    simp [S1,go_sem,accW,hb]
   refine zag (S:=S1) (I:=fun j=>j<=u.arcs.length) (m:=fun j=>u.arcs.length - j) 0 hw (by omega) ?_
   rintro j h5 R1 hn1 hr1 hx1
   have e4:=i64s j (by omega)
   simp [S1,g.qg,mkSt,go_sem]
   refine ⟨fun hj=>?_,fun hj=>hx1 _ _ ?_⟩
   ·refine zae hj ?_
    try simp [go_sem]
    refine zab (zsr u.arcs[j].i wx i (by omega) (by omega)) ?_
    try simp [go_sem]
    refine zab (zsr u.arcs[j].o wy k (by omega) (by omega)) ?_
    have hst:=zts (r:=u.ring) (p:=zcm wx wy i k (tabW u wx wy)) hj (zeq u wx wy i k)
    unfold accS at hst
    cases hsp:zcm wx wy i k (tabW u wx wy) u.arcs[j] with
    | none =>
     rw [hsp] at hst
     have n1:=z5i (label:=u.arcs[j].i) hi
     have n2:=z5i (label:=u.arcs[j].o) hkl
     have n3:=yb6 u.arcs[j].i wx i
     have n4:=yb6 u.arcs[j].o wy k
     unfold zcm at hsp
     split at hsp
     ·cases hsp
     ·rename_i hc
      generalize nx u.arcs[j].i wx i=a at *
      generalize nx u.arcs[j].o wy k=b at *
      have e6:IntKind.i64.wrap ((i:Int)+k)=(i:Int)+k:=i64w (by omega) (by omega)
      have e7:IntKind.i64.wrap (a+b)=a+b:=i64w (by omega) (by omega)
      by_cases ha:0<=a
      ·by_cases hb:0<=b
       ·have hS:¬ ((i:Int)+k<a+b):=fun h=>hc ⟨ha,hb,h⟩
        simp [go_sem,ha,hb,e6,e7,hS,e4]
        exact hn1 (j+1) _ (Weak.to [1,2,3,6,8,9,10,11,12] [((3,0),3),((6,0),6),((1,0),1),((2,0),2)] (by simp [S1,go_sem,mkSt,hst])) (by omega) (by omega)
       ·simp [go_sem,ha,hb,e4]
        exact hn1 (j+1) _ (Weak.to [1,2,3,6,8,9,10,11,12] [((3,0),3),((6,0),6),((1,0),1),((2,0),2)] (by simp [S1,go_sem,mkSt,hst])) (by omega) (by omega)
      ·simp [go_sem,ha,e4]
       exact hn1 (j+1) _ (Weak.to [1,2,3,6,8,9,10,11,12] [((3,0),3),((6,0),6),((1,0),1),((2,0),2)] (by simp [S1,go_sem,mkSt,hst])) (by omega) (by omega)
    | some e =>
     rw [hsp] at hst
     obtain ⟨a,b,b1,b2,b3,b4,b5,b6,b7,b8,b9,rfl⟩:=zeg hi hkl hsp
     have e6:IntKind.i64.wrap ((i:Int)+k)=((i+k:Nat):Int):=i64w (by omega) (by omega)
     have e7:IntKind.i64.wrap ((a:Int)+b)=((a+b:Nat):Int):=i64w (by omega) (by omega)
     rw [b1,b2]
     simp [go_sem,e6,e7]
     have hb0:=zq9 ht wx wy i k
     have hacc:=znn M (p:=zcm wx wy i k (tabW u wx wy)) (c:=z) (E:=lvl u z (wx.length+wy.length)) (N:=u.st.toNat) (K:=z+lvl u z (wx.length+wy.length)+1) (Nat.le_refl _) (zs7 ht.arcs j) (fun x hx e he=>zt3 ht hi hkl x (List.mem_of_mem_take hx) e he) (zct hb0.1 (by omega)) hb0.2 0
     have hlen:=zjp (r:=u.ring) (zcm wx wy i k (tabW u wx wy)) (u.arcs.take j) (zeq u wx wy i k)
     have hx1:=ht.arcs _ (List.getElem_mem hj)
     have hv:=zt3 ht hi hkl _ (List.getElem_mem hj) _ hsp
     have htl:(u.arcs.take j).length=j:=by rw [List.length_take]; omega
     rw [htl,Nat.add_zero] at hacc
     have hcall:=zxr M (x:=u.arcs[j]) hacc hv.1 hx1.1 hx1.2 (hlen.trans hb0.2) hv.2 (by omega) (by omega) (by omega)
     generalize haq:accW u.ring (zcm wx wy i k (tabW u wx wy)) (u.arcs.take j) (zeq u wx wy i k)=acc at *
     refine ⟨fun _=>⟨⟨by omega,by rw [zi1]; omega⟩,?_⟩,fun h=>absurd h (by omega)⟩
     rw [zer]
     rcases (by omega:a=i\/a=i+1) with rfl|rfl
     ·obtain rfl:b=k+1:=by omega
      refine zb2 (z52 ..) ?_
      simp [go_sem]
      refine ⟨by rw [zlc]; omega,?_⟩
      rw [zer]
      refine zb2 (x:=.p (enc (tabW u wx wy a (k+1)))) (by rw [zl2 u wx wy (by omega)]; exact z52 ..) ?_
      simp [go_sem]
      refine zab hcall ?_
      simp [go_sem,e4]
      exact hn1 (j+1) _ (Weak.to [1,2,3,6,8,9,10,11,12] [((3,0),3),((6,0),6),((1,0),1),((2,0),2)] (by simp [S1,go_sem,mkSt,hst])) (by omega) (by omega)
     ·refine zb2 (x:=.p (enc (rowL u wx wy (i+1) 0))) (by rw [zjw u wx wy (by omega)]; exact yfl ..) ?_
      simp [go_sem]
      refine zb2 (z4q u wx wy b8) ?_
      try simp [go_sem]
      refine zab hcall ?_
      simp [go_sem,e4]
      exact hn1 (j+1) _ (Weak.to [1,2,3,6,8,9,10,11,12] [((3,0),3),((6,0),6),((1,0),1),((2,0),2)] (by simp [S1,go_sem,mkSt,hst])) (by omega) (by omega)
   ·have:j=u.arcs.length:=by omega
    subst this
    simp [go_sem]
    refine ⟨by rw [zi1]; omega,?_⟩
    rw [zer]
    refine zb2 (z52 ..) ?_
    simp [go_sem]
    have hrow:=z0g ht (zt3 ht hi hkl)
    have hspr:=zt6 M u ht hrow (zpy ht ..) (by omega) (by omega)
    have hcell:sprN u.ring u.arcs (rowW u wx wy i k (tabW u wx wy)) u.st.toNat=tabW u wx wy i k:=(z74 hi hkl).symm
    rw [hcell] at hspr
    unfold rowW at hspr
    refine zab hspr ?_
    try simp [go_sem,z4f]
    refine ⟨⟨by omega,by rw [zlc]; omega⟩,?_⟩
    rw [zer]
    refine zb2 (ych ..) ?_
    have e5:IntKind.i64.wrap ((k:Int) - 1)=(k:Int) - 1:=i64w (by omega) (by omega)
    simp [go_sem,z4f,e5]
    exact hn2 k _ (Weak.to [1,2,3,6,8,9,10] [((3,0),3),((6,0),6),((1,0),1),((2,0),2)] (by simp [go_sem,mkSt,zl2 u wx wy hkl])) (by omega) (by omega)
  ·have:kk=0:=by omega
   subst this
   simp [go_sem]
   have hrl:(rowL u wx wy i 0).take (wy.length+1)=rowL u wx wy i 0:=List.take_of_length_le (by rw [zlc]; omega)
   have e5:IntKind.i64.wrap ((i:Int) - 1)=(i:Int) - 1:=i64w (by omega) (by omega)
   refine hn' i _ ((Weak.freezeEl (s:=1) (g:=0) (i:=i) (e:=.own 2 0 0 (wy.length+1)) (p:=.sl (ens (rowL u wx wy i 0))) rfl (z52 ..) (by simp [go_sem,zlc,hrl]) rfl rfl rfl rfl rfl (by simp [go_sem])).trans (Weak.to [1,2,3,6,8,9] [((3,0),3),((6,0),6),((1,0),1)] (by simp [go_sem,ye5,mkSt,zjw u wx wy hi,e5]))) (by omega) (by omega)
 ·have:kk=0:=by omega
  subst this
  simp [go_sem]
  refine zab (zdk u.ring) ?_
  simp [go_sem]
  have htab:=zzt ht (wx:=wx) (wy:=wy) (i:=0) (k:=0) (by omega) (by omega)
  have hini:=ht.ini
  refine zag (S:=fun s:Nat=>mkSt [(3,.ptr 3 0 0 0),(6,.ptr 6 0 0 0),(8,.own 1 0 0 (wx.length+1)),(16,.ptr 16 0 0 0),(17,.p (.int .i64 s))]
    [(3,⟨8,[.p (enc u)]⟩),(6,⟨8,[.agg [.p (.bool false),.nil,.nil,.p (.int .i64 0),.p (.bool false),.p (.int .u64 0),.nil,.nil]]⟩),(1,⟨1,avs (zl1 u wx wy 0)⟩),(16,⟨8,[.p (enc (sumN u.ring u.ini (tabW u wx wy 0 0) s))]⟩)])
   (I:=fun s=>s<=u.st.toNat) (m:=fun s=>u.st.toNat - s) 0 (Weak.to [3,6,8,16,17] [((3,0),3),((6,0),6),((1,0),1),((16,0),16)] (by simp [go_sem,sumN])) (by omega) ?_
  rintro s h5 R1 hn1 hr1 hx1
  have e4:=i64s s (by omega)
  simp [g.qj,mkSt,go_sem]
  refine ⟨fun hs=>?_,fun hs=>hx1 _ _ ?_⟩
  ·have hs1:s<u.ini.length:=by omega
   have hs2:s<(tabW u wx wy 0 0).length:=by omega
   have k1:=hini.1 _ (List.getElem_mem hs1)
   have k2:=htab.1 _ (List.getElem_mem hs2)
   have k3:=zpt (M:=M) ht.rok hini.1 htab.1 s (by omega) (by omega)
   have ct:=za3 k1.1 k2.1
   have s1:=M.timesS (v:=u.ini[s]) (w:=(tabW u wx wy 0 0)[s]) (n:=M.lim) (Nat.le_refl _) k1.1 k2.1 (M.mono k1.2 (by omega)) (M.mono k2.2 (by omega))
   have s2:=M.plusS (v:=sumN u.ring u.ini (tabW u wx wy 0 0) s) (w:=u.ring.times u.ini[s] (tabW u wx wy 0 0)[s]) (n:=M.lim) (Nat.le_refl _) k3.1 ct (M.mono k3.2 (by omega)) (M.mono (M.times k1.1 k2.1 k1.2 k2.2) (by omega))
   have hsum:=ziu (r:=u.ring) hs1 hs2
   refine zae hs1 ⟨by rw [zi1]; omega,zb2 (by rw [zjw u wx wy (by omega)]; rfl) (zb2 (by rw [zl2 u wx wy (by omega)]; rfl) (zae hs2 ?_))⟩
   refine zab s1 ?_
   simp [go_sem]
   refine zab s2 ?_
   simp [go_sem,e4]
   exact hn1 (s+1) _ (Weak.to [3,6,8,16,17] [((3,0),3),((6,0),6),((1,0),1),((16,0),16)] (by simp [go_sem,mkSt,hsum])) (by omega) (by omega)
  ·have:s=u.st.toNat:=by omega
   subst this
   have hall:sumN u.ring u.ini (tabW u wx wy 0 0) u.st.toNat=wgt u wx wy:=ziv (by omega)
   simp [go_sem,hall]
end Go.Ab
namespace Go.Ab
open Enc (enc)
theorem zi2 (a:Int) (d k B:Nat) (h:d*k=6) (hb:a.natAbs<=B):qb 6 (B*k) (Rat.divInt a d):=by
 have h1:qb d B (Rat.divInt a d):=⟨a,Rat.divInt_ofNat a d,hb⟩
 have h2:=zeu k (by rintro rfl; omega) h1
 rwa [h] at h2
def numD (v:Int):Int:=1+IntKind.i64.wrap (v.tdiv 13) % 3
def numR (v:Int):Rat:=Rat.divInt (v % 13 - 6) (numD v)
theorem zmh (v:Int):qb 6 36 (numR v):=by
 have h1:numD v=1\/numD v=2\/numD v=3:=by unfold numD; omega
 have h2:(v % 13 - 6).natAbs<=6:=by omega
 unfold numR
 rcases h1 with h|h|h<;>rw [h]
 ·exact zbb (zi2 _ 1 6 6 rfl h2) (by omega)
 ·exact zbb (zi2 _ 2 3 6 rfl h2) (by omega)
 ·exact zbb (zi2 _ 3 2 6 rfl h2) (by omega)
theorem z7c {B:Nat} {q:Rat} (h:qb 6 B q) (hB:B<4294967296):(rto q).sm 1:=z0o h (by omega) (by omega) (by omega)
theorem zsn (v:Int):Sp P F.j7 [.int .i64 v] (.pure (enc (rto (numR v)))):=by
 have e1:IntKind.i64.wrap (v % 13 - 6)=v % 13 - 6:=i64w (by omega) (by omega)
 have e2:IntKind.i64.wrap (1+IntKind.i64.wrap (v.tdiv 13) % 3)=numD v:=i64w (by omega) (by omega)
 have h1:numD v=1\/numD v=2\/numD v=3:=by unfold numD; omega
 refine Sp.vz c.j7 fun _=>?_
 simp [g.j7,go_sem]
 refine zab (zc1 v 13 (by omega) (by omega)) ?_
 simp [go_sem,e1]
 refine zab (zc1 (IntKind.i64.wrap (v.tdiv 13)) 3 (by omega) (by omega)) ?_
 simp [go_sem,e2]
 refine zab (zg5 (v % 13 - 6) (numD v) (by omega) (by omega) (by omega)) ?_
 simp [go_sem,numR]
def zsg (v:Int):List GMono :=
 let p:=pput [] ⟨0,0,0⟩ (Rat.divInt (v % 5 - 2) 3)
 if IntKind.i64.wrap (v.tdiv 5) % 2=1 then padd p (pmul (zdc (IntKind.i64.wrap (v.tdiv 10) % 3)) (zb0 (numR v))) else p
def zgb (k v:Int):GW :=
 if k=1 then .mk (rto (numR v)) 0 false 0 [] []
 else if k=2 then (if v % 11=10 then (⟨2,[]⟩:GRing).zero else .mk gr0 (v % 11) false 0 [] [])
 else if k=3 then .mk (rto (Rat.divInt (v % 7) 6)) 0 false 0 [] []
 else if k=4 then .mk gr0 0 false (UInt64.ofNat (v % 16).toNat) [] []
 else .mk gr0 0 false 0 (zsg v) []
theorem zsd (q:Rat):PVal (pput [] ⟨0,0,0⟩ q):=zle _ _ zh9
theorem zi4 {B:Nat} {q:Rat} (h:qb 6 B q):pqb 6 B (pput [] ⟨0,0,0⟩ q):=by
 have:=zuf (zug 6) h (by omega) ⟨0,0,0⟩
 rwa [Nat.zero_add] at this
theorem zoh (i:Int):PVal (zdc i):=by
 unfold zdc
 split
 ·refine zaj.2 ⟨fun m hm=>?_,List.pairwise_singleton _ _⟩
  rw [List.mem_singleton.1 hm]
  refine GMono.ok_iff.2 ⟨?_,zbe 1,by rw [zbg]; decide⟩
  have h3:i=0\/i=1\/i=2:=by omega
  rcases h3 with rfl|rfl|rfl<;>rfl
 ·exact zh9
theorem zse (i:Int):pqb 1 1 (zdc i):=fun e=>by
 unfold zdc
 split
 ·simp only [pc]
  rw [zbg]
  split
  ·exact ⟨1,by rw [Rat.add_zero]; exact (Rat.mkRat_self 1).symm,by decide⟩
  ·exact zbb (by rw [Rat.add_zero]; exact zjy 1) (by omega)
 ·exact zbb (zjy 1) (by omega)
theorem zoi (v:Int):PVal (zsg v)/\pqb 6 1700000 (zsg v):=by
 have h0:qb 6 36 (Rat.divInt (v % 5 - 2) 3):=zbb (zi2 (v % 5 - 2) 3 2 6 rfl (by omega)) (by omega)
 have p0:=zsd (Rat.divInt (v % 5 - 2) 3)
 have q0:=zi4 h0
 unfold zsg
 simp only
 split
 ·have hv:=zoh (IntKind.i64.wrap (v.tdiv 10) % 3)
  have hq:=zse (IntKind.i64.wrap (v.tdiv 10) % 3)
  have hc:pqb 6 36 (zb0 (numR v)):=zi4 (zmh v)
  have hm:=zp2 (zew hq hv) (zew hc (zeh _)) (by omega)
  have l1:=zbh hv
  have l2:=zbh (zeh (numR v))
  have h3:(zdc (IntKind.i64.wrap (v.tdiv 10) % 3)).length*((zb0 (numR v)).length*(1*36))<=216*(216*(1*36)):=Nat.mul_le_mul l1 (Nat.mul_le_mul_right _ l2)
  refine ⟨zb9 _ p0,fun e=>zbb (z0r q0 (fun e=>zbb (hm e) h3) (zdn _ _) (by omega) e) (by omega)⟩
 ·exact ⟨p0,fun e=>zbb (q0 e) (by omega)⟩
theorem z0t (v:Int):Sp P F.bu [enc (rto (Rat.divInt (v % 5 - 2) 3))] (.pure (.sl (ens (pput [] ⟨0,0,0⟩ (Rat.divInt (v % 5 - 2) 3))))):=by
 have h0:qb 6 36 (Rat.divInt (v % 5 - 2) 3):=zbb (zi2 (v % 5 - 2) 3 2 6 rfl (by omega)) (by omega)
 have:=zhf (rto (Rat.divInt (v % 5 - 2) 3)) ((z7c h0 (by omega)).mono (by omega))
 rwa [zbg] at this
theorem qm1 {B:Nat} {q:Rat} (h:qb 6 B q) (hB:B<=6291456):qm 1 q:=by
 unfold qm
 rw [show mD 1=6 from rfl,show mB 1=6291456 from rfl]
 exact zbb h hB
theorem zj2 {k:Int} (hk:1<=k/\k<=5) (v:Int):(zgb k v).si k/\(zgb k v).mb1 1:=by
 have h:k=1\/k=2\/k=3\/k=4\/k=5:=by omega
 rcases h with rfl|rfl|rfl|rfl|rfl
 ·refine ⟨si1.2 ⟨rfl,rfl,rfl,rfl,rfl,zbe _⟩,?_,fun e=>zcx 1⟩
  show qm 1 (rto (numR v)).v
  rw [zbg]; exact qm1 (zmh v) (by omega)
 ·unfold zgb
  rw [if_neg (by omega),if_pos rfl]
  split
  ·exact ⟨zhn (k:=2) (by omega),zfd ..⟩
  ·exact ⟨si2.2 ⟨rfl,rfl,rfl,rfl,by show 0<=v % 11; omega,by show v % 11<=1099511627776; omega,fun h=>by cases h⟩,zfd ..⟩
 ·have hq:qb 6 6 (Rat.divInt (v % 7) 6):=zbb (zi2 (v % 7) 6 1 6 rfl (by omega)) (by omega)
  refine ⟨si3.2 ⟨rfl,rfl,rfl,rfl,rfl,zbe _,?_,?_⟩,?_,fun e=>zcx 1⟩
  ·show 0<=(rto (Rat.divInt (v % 7) 6)).v
   rw [zbg]; exact Rat.divInt_nonneg (by omega) (by omega)
  ·show (rto (Rat.divInt (v % 7) 6)).v<=1
   rw [zbg,Rat.le_iff_sub_nonneg,show (1:Rat)=Rat.divInt 6 6 from rfl,Rat.divInt_sub_divInt _ _ (by omega) (by omega)]
   exact Rat.divInt_nonneg (by omega) (by omega)
  ·show qm 1 (rto (Rat.divInt (v % 7) 6)).v
   rw [zbg]; exact qm1 hq (by omega)
 ·exact ⟨si4.2 ⟨rfl,rfl,rfl,rfl,rfl⟩,zfd ..⟩
 ·refine ⟨si5.2 ⟨rfl,rfl,rfl,rfl,rfl,(zoi v).1⟩,?_,fun e=>qm1 ((zoi v).2 e) (by omega)⟩
  show qm 1 gr0.v
  rw [zg8]; exact zcx 1
theorem z0s (n:Nat) (h:n≠0):4294967296<=4294967296^n:=Nat.le_self_pow h _
theorem zn5 (k:Int) (hk:1<=k/\k<=5) (v:Int):Sp P F.aj [enc (⟨k,[]⟩:GRing),.int .i64 v] (.pure (enc (zgb k v))):=by
 have h:k=1\/k=2\/k=3\/k=4\/k=5:=by omega
 rcases h with rfl|rfl|rfl|rfl|rfl
 ·refine Sp.vz c.aj fun _=>?_
  simp [g.aj,go_sem]
  refine zab (zsn v) ?_
  simp [go_sem,zgb]
 ·refine Sp.vz c.aj fun _=>?_
  simp [g.aj,go_sem]
  refine zab (zc1 v 11 (by omega) (by omega)) ?_
  simp [go_sem]
  refine ⟨fun h=>?_,fun h=>?_⟩
  ·refine zab (zdk ⟨2,[]⟩) ?_
   simp [go_sem,zgb,h]
  ·refine zab (zc1 v 11 (by omega) (by omega)) ?_
   simp [go_sem,zgb,h,gr0]
 ·refine Sp.vz c.aj fun _=>?_
  simp [g.aj,go_sem]
  refine zab (zc1 v 7 (by omega) (by omega)) ?_
  simp [go_sem]
  refine zab (zg5 (v % 7) 6 (by omega) (by omega) (by omega)) ?_
  simp [go_sem,zgb]
 ·refine Sp.vz c.aj fun _=>?_
  simp [g.aj,go_sem]
  refine zab (zc1 v 16 (by omega) (by omega)) ?_
  simp [go_sem,zgb]
  omega
 ·have e1:IntKind.i64.wrap (v % 5 - 2)=v % 5 - 2:=i64w (by omega) (by omega)
  refine Sp.vz c.aj fun _=>?_
  simp [g.aj,go_sem]
  refine zab (zc1 v 5 (by omega) (by omega)) ?_
  simp [go_sem,e1]
  refine zab (zg5 (v % 5 - 2) 3 (by omega) (by omega) (by omega)) ?_
  simp [go_sem]
  refine zab (z0t v) ?_
  simp [go_sem]
  refine zab (zc1 (IntKind.i64.wrap (v.tdiv 5)) 2 (by omega) (by omega)) ?_
  have h0:qb 6 36 (Rat.divInt (v % 5 - 2) 3):=zbb (zi2 (v % 5 - 2) 3 2 6 rfl (by omega)) (by omega)
  have p0:=zsd (Rat.divInt (v % 5 - 2) 3)
  have q0:=zi4 h0
  simp [go_sem]
  refine ⟨fun h=>?_,fun h=>?_⟩
  ·refine zab (zc1 (IntKind.i64.wrap (v.tdiv 10)) 3 (by omega) (by omega)) ?_
   simp [go_sem]
   have hv:=zoh (IntKind.i64.wrap (v.tdiv 10) % 3)
   have hq:=zse (IntKind.i64.wrap (v.tdiv 10) % 3)
   have hc:pqb 6 36 (zb0 (numR v)):=zi4 (zmh v)
   have hm:=zp2 (zew hq hv) (zew hc (zeh _)) (by omega)
   have l1:=zbh hv
   have l2:=zbh (zeh (numR v))
   have h3:(zdc (IntKind.i64.wrap (v.tdiv 10) % 3)).length*((zb0 (numR v)).length*(1*36))<=216*(216*(1*36)):=Nat.mul_le_mul l1 (Nat.mul_le_mul_right _ l2)
   have big:=z0s 1048576 (by omega)
   have hmv:=zdn (zdc (IntKind.i64.wrap (v.tdiv 10) % 3)) (zb0 (numR v))
   have s1:=z0d (zdc (IntKind.i64.wrap (v.tdiv 10) % 3)) (rto (numR v)) 1 6 1 36 hv hq (by rw [zbg]; exact zmh v) (by omega) (by omega) (by omega) (by omega) (fun m hm=>(zh6 (n:=1) hq hv (by omega) (by omega) (by omega) m hm).mono (by omega)) ((z7c (zmh v) (by omega)).mono (by omega))
   have s2:=z3n (pput [] ⟨0,0,0⟩ (Rat.divInt (v % 5 - 2) 3)) (pmul (zdc (IntKind.i64.wrap (v.tdiv 10) % 3)) (zb0 (numR v))) 6 36 1679616 p0 hmv q0 (fun e=>zbb (hm e) h3) (by omega) (by omega) (by omega)
   rw [zbg] at s1
   refine zab (zp8 (IntKind.i64.wrap (v.tdiv 10) % 3)) ?_
   simp [go_sem]
   refine zab (zsn v) ?_
   simp [go_sem]
   refine zab s1 ?_
   simp [go_sem]
   refine zab s2 ?_
   simp [go_sem,zgb,zsg,h]
  ·simp [go_sem,zgb,zsg,h]
def zdd (ks:List Int) (v:Int) (n:Nat):List GW:=(List.range n).map fun i=>zgb (ks.getD i 0) (IntKind.i64.wrap (v+i))
def zj1 (r:GRing) (v:Int):GW:=if r.kind=6 then .mk gr0 0 false 0 [] (zdd r.parts v r.parts.length) else zgb r.kind v
theorem zui (ks:List Int) (v:Int) (n:Nat) (h:n<ks.length):zdd ks v (n+1)=zdd ks v n++[zgb ks[n] (IntKind.i64.wrap (v+n))]:=by
 unfold zdd
 rw [List.range_succ,List.map_append]
 simp [List.getElem?_eq_getElem h]
theorem zfp (ks:List Int) (v:Int) (n:Nat):(zdd ks v n).length=n:=by simp [zdd]
theorem zyk {r:GRing} (hr:r.ok=true) (v:Int):(zj1 r v).chk r/\(zj1 r v).mb 1:=by
 unfold zj1
 by_cases h6:r.kind=6
 ·have hp:=GRing.ok_parts hr h6
  have hs:∀ i,(h:i<r.parts.length)->(h':i<(zdd r.parts v r.parts.length).length)->(zdd r.parts v r.parts.length)[i].si r.parts[i]/\(zdd r.parts v r.parts.length)[i].mb1 1:=fun i h h'=>by
   have e:(zdd r.parts v r.parts.length)[i]=zgb r.parts[i] (IntKind.i64.wrap (v+i)):=by simp [zdd,List.getElem?_eq_getElem h]
   rw [e]; exact zj2 (hp.2.2 _ (List.getElem_mem h)) _
  rw [if_pos h6]
  refine ⟨⟨hr,fun h=>absurd h6 h,fun _=>⟨zfp ..,rfl,fun i h h'=>(hs i h h').1⟩⟩,⟨zjc ..,fun x hx=>?_⟩⟩
  obtain ⟨i,hi,rfl⟩:=List.mem_iff_getElem.1 hx
  have hi':i<(zdd r.parts v r.parts.length).length:=hi
  exact (hs i (by rw [zfp] at hi'; exact hi') hi').2
 ·have hk:=GRing.ok_kind hr h6
  have h:=zj2 ⟨hk.1,hk.2.1⟩ v
  rw [if_neg h6]
  refine ⟨⟨hr,fun _=>h.1,fun h'=>absurd h' h6⟩,⟨h.2,fun x hx=>?_⟩⟩
  rw [h.1.1] at hx; cases hx
theorem zjq (r:GRing) (hr:r.ok=true) (v:Int):Sp P F.aj [enc r,.int .i64 v] (.pure (enc (zj1 r v))):=by
 by_cases h6:r.kind=6
 rotate_left
 ·have hk:=GRing.ok_kind hr h6
  have e:r=⟨r.kind,[]⟩:=by rw [<- hk.2.2]
  have:=zn5 r.kind ⟨hk.1,hk.2.1⟩ v
  rw [<- e] at this
  rw [show zj1 r v=zgb r.kind v by unfold zj1; rw [if_neg h6]]
  exact this
 ·have hp:=GRing.ok_parts hr h6
  refine Sp.vz c.aj fun _=>?_
  simp [g.aj,go_sem,h6]
  refine zag (S:=fun k:Nat=>mkSt [(1,.p (.int .i64 v)),(2,.ptr 2 0 0 0),(4,.ptr 4 0 0 0),(6,.ptr 6 0 0 0),(7,.p (.int .i64 k))]
    [(2,⟨2,[.p (enc r)]⟩),(4,⟨8,[.agg [.p (.bool false),.nil,.nil,.p (.int .i64 0),.p (.bool false),.p (.int .u64 0),.nil,.nil]]⟩),
     (6,⟨8,[.agg [.p (.bool false),.nil,.nil,.p (.int .i64 0),.p (.bool false),.p (.int .u64 0),.nil,.own 5 0 0 k]]⟩),(5,⟨8,avs (zdd r.parts v k)⟩)])
   (I:=fun k=>k<=r.parts.length) (m:=fun k=>r.parts.length - k) 0
   ((Weak.nilCell (s0:=6) (g0:=0) (i:=7) (s:=77) (sz:=8) rfl).trans (Weak.to [1,2,4,6,7] [((2,0),2),((4,0),4),((6,0),6),((77,0),5)] (by simp [go_sem,zdd,h6]))) (by omega) ?_
  rintro k h1 R hn' hr' hx
  have e1:=i64s k (by omega)
  simp [g.qp,mkSt,go_sem]
  refine ⟨fun hk=>?_,fun hk=>hx _ _ ?_⟩
  ·refine zae hk ?_
   try simp [go_sem]
   have hc:=zn5 r.parts[k] (hp.2.2 _ (List.getElem_mem hk)) (IntKind.i64.wrap (v+k))
   have hts:=zui r.parts v k hk
   have hlen:=zfp r.parts v k
   refine zab hc ?_
   simp [go_sem,e1,hlen]
   exact ⟨by omega,hn' (k+1) _ (Weak.to [1,2,4,6,7] [((2,0),2),((4,0),4),((6,0),6),((80,0),5)] (by simp [go_sem,mkSt,hts,h6])) (by omega) (by omega)⟩
  ·have:k=r.parts.length:=by omega
   subst this
   have hW:zj1 r v=.mk gr0 0 false 0 [] (zdd r.parts v r.parts.length):=by unfold zj1; rw [if_pos h6]
   have hT:(zdd r.parts v r.parts.length).take r.parts.length=zdd r.parts v r.parts.length:=List.take_of_length_le (by rw [zfp]; omega)
   simp [go_sem,hW,hT,zfp,gr0]
end Go.Ab
namespace Go.Ab
open Enc (enc)
def zjx (k:Int):GRing:=if k % 7=5 then ⟨6,[1,2]⟩ else if k % 7=6 then ⟨6,[3,4,5]⟩ else ⟨k % 7+1,[]⟩
theorem zv1 (k:Int):(zjx k).ok=true:=by
 have h:k % 7=0\/k % 7=1\/k % 7=2\/k % 7=3\/k % 7=4\/k % 7=5\/k % 7=6:=by omega
 unfold zjx
 rcases h with h|h|h|h|h|h|h<;>rw [h]<;>decide
theorem z8j (k:Int):Sp P F.jl [.int .i64 k] (.pure (enc (zjx k))):=by
 have e1:IntKind.i64.wrap (k % 7+1)=k % 7+1:=i64w (by omega) (by omega)
 refine Sp.vz c.jl fun _=>?_
 simp [g.jl,go_sem]
 refine zab (zc1 k 7 (by omega) (by omega)) ?_
 simp [go_sem]
 refine ⟨fun h=>by simp [zjx,h,go_sem],fun h=>⟨fun h2=>by simp [zjx,h,h2,go_sem],fun h2=>?_⟩⟩
 have:=zc1 (k % 7) 7 (by omega) (by omega)
 rw [Int.emod_emod] at this
 refine zab this ?_
 simp [go_sem,zjx,h,h2,e1]
theorem z1e {k:Int} (hk:1<=k/\k<=5):(oneW k []).si k/\(oneW k []).mb1 1:=by
 have h:k=1\/k=2\/k=3\/k=4\/k=5:=by omega
 have hq:qm 1 (1:Rat):=qm1 (zi2 1 1 6 1 rfl (by decide)) (by omega)
 rcases h with rfl|rfl|rfl|rfl|rfl
 ·exact ⟨si1.2 ⟨rfl,rfl,rfl,rfl,rfl,zbe 1⟩,by show qm 1 (rto 1).v; rw [zbg]; exact hq,fun e=>zcx 1⟩
 ·exact ⟨si2.2 ⟨rfl,rfl,rfl,rfl,by decide,by decide,fun h=>by cases h⟩,zfd ..⟩
 ·refine ⟨si3.2 ⟨rfl,rfl,rfl,rfl,rfl,zbe 1,?_,?_⟩,by show qm 1 (rto 1).v; rw [zbg]; exact hq,fun e=>zcx 1⟩
  ·show 0<=(rto 1).v
   rw [zbg]; decide
  ·show (rto 1).v<=1
   rw [zbg]; exact Rat.le_refl
 ·exact ⟨si4.2 ⟨rfl,rfl,rfl,rfl,rfl⟩,zfd ..⟩
 ·refine ⟨si5.2 ⟨rfl,rfl,rfl,rfl,rfl,zeh 1⟩,?_,fun e=>?_⟩
  ·show qm 1 gr0.v
   rw [zg8]; exact zcx 1
  ·have h1:pqb 6 6 (zb0 1):=zi4 (zi2 1 1 6 1 rfl (by decide))
   exact qm1 (h1 e) (by omega)
theorem z5g {r:GRing} (hr:r.ok=true):r.one.chk r/\r.one.mb 1:=by
 unfold GRing.one
 rw [if_pos hr]
 by_cases h6:r.kind=6
 ·have hp:=GRing.ok_parts hr h6
  rw [h6]
  have e:oneW 6 (r.parts.map fun k=>oneW k [])=.mk gr0 0 false 0 [] (r.parts.map fun k=>oneW k []):=rfl
  rw [e]
  have hs:∀ i,(h:i<r.parts.length)->(h':i<(r.parts.map fun k=>oneW k []).length)->(r.parts.map fun k=>oneW k [])[i].si r.parts[i]/\(r.parts.map fun k=>oneW k [])[i].mb1 1:=fun i h h'=>by
   rw [List.getElem_map]; exact z1e (hp.2.2 _ (List.getElem_mem h))
  refine ⟨⟨hr,fun h=>absurd h6 h,fun _=>⟨List.length_map ..,rfl,fun i h h'=>(hs i h h').1⟩⟩,⟨zjc ..,fun x hx=>?_⟩⟩
  obtain ⟨i,hi,rfl⟩:=List.mem_iff_getElem.1 hx
  have hi':i<(r.parts.map fun k=>oneW k []).length:=hi
  exact (hs i (by rw [List.length_map] at hi'; exact hi') hi').2
 ·have hk:=GRing.ok_kind hr h6
  have h:=z1e ⟨hk.1,hk.2.1⟩
  rw [hk.2.2]
  exact ⟨⟨hr,fun _=>h.1,fun h'=>absurd h' h6⟩,⟨h.2,fun x hx=>by rw [show (oneW r.kind ([].map fun k=>oneW k [])).parts=[] from h.1.1] at hx; cases hx⟩⟩
def endM (r:GRing) (l:List Int) (i:Nat) (one:Int):GW:=if h:i<l.length then zj1 r l[i] else if (i:Int)=one then r.one else r.zero
theorem zvh {r:GRing} (hr:r.ok=true):r.zero.mb 0:=by
 unfold GRing.zero
 rw [if_pos hr]
 refine ⟨zjc ..,fun x hx=>?_⟩
 obtain ⟨k,_,rfl⟩:=List.mem_map.1 hx
 exact zfd ..
theorem z7o (r:GRing) (hr:r.ok=true) (l:List Int) (i:Nat) (one:Int):Sp P F.fh [enc r,.sl (ens l),.int .i64 i,.int .i64 one] (.pure (enc (endM r l i one))):=by
 refine Sp.vz c.fh fun _=>?_
 simp [g.fh,go_sem]
 refine ⟨fun h=>zae h ?_,fun h=>⟨fun h2=>?_,fun h2=>?_⟩⟩
 ·refine zab (zjq r hr l[i]) ?_
  simp [go_sem,endM,h]
 ·refine zab (z1g r) ?_
  simp [go_sem,endM,h2,show ¬ i<l.length by omega]
 ·refine zab (zdk r) ?_
  simp [go_sem,endM,h2,show ¬ i<l.length by omega]
def mbM (r:GRing) (hr:r.ok=true):Meas r where
 mb n w:=w.mb n
 lim:=900
 mono h k:=h.mono k
 zero:=zvh hr
 plus cv cw hv hw:=z0y cv cw hv hw
 times cv cw hv hw:=z3x cv cw hv hw
 plusS:=fun {v w n} hn cv cw hv hw=>z43 r v w (max n 216) (hv.mono (by omega)) (hw.mono (by omega)) (by omega) (by omega) cv cw
 timesS:=fun {v w n} hn cv cw hv hw=>zzo r v w (max n 216) (hv.mono (by omega)) (hw.mono (by omega)) (by omega) (by omega) cv cw
end Go.Ab
namespace Go.Ab
open Enc (enc)
structure GModel where
 st:Int
 ini:List Int
 fin:List Int
 arcs:List Int
 em:Bool
instance:Enc GModel:=⟨fun x=>.agg [.int .i64 x.st,.sl (ens x.ini),.sl (ens x.fin),.sl (ens x.arcs),.bool x.em],5,by decide,fun _=>rfl⟩
@[go_sem] theorem ycp (x:GModel):enc x=.agg [.int .i64 x.st,.sl (ens x.ini),.sl (ens x.fin),.sl (ens x.arcs),.bool x.em]:=rfl
@[go_sem] theorem z9t:Enc.sz GModel=5:=rfl
def numN (m:GModel) (s:Int):Int:=1+IntKind.i64.wrap (m.st - 1) % s
def zfe (r:GRing) (l:List Int) (one:Int) (k:Nat):List GW:=(List.range k).map fun j=>endM r l j one
theorem zyt (r:GRing) (l:List Int) (one:Int) (k:Nat):zfe r l one (k+1)=zfe r l one k++[endM r l k one]:=by
 unfold zfe; rw [List.range_succ,List.map_append]; rfl
theorem zeo (r:GRing) (l:List Int) (one:Int) (k:Nat):(zfe r l one k).length=k:=by simp [zfe]
end Go.Ab
namespace Go.Ab
theorem zyo {α β : Type} {f : β -> α -> β} {Pb : β -> Prop} {Qa : α -> Prop} (hp:∀ b x,Pb b->Qa x->Pb (f b x)) (hc:∀ b x y,Pb b->Qa x->Qa y->f (f b x) y=f (f b y) x) {l l':List α} (h:l.Perm l') :
  (∀ x∈l,Qa x)->∀ b,Pb b->l.foldl f b=l'.foldl f b:=by
 induction h with
 | nil=>intro _ b _; rfl
 | cons x _ ih=>intro hq b hb; exact ih (fun y hy=>hq y (List.mem_cons_of_mem _ hy)) _ (hp b x hb (hq x List.mem_cons_self))
 | swap x y l=>intro hq b hb; simp only [List.foldl_cons]; rw [hc b y x hb (hq y List.mem_cons_self) (hq x (List.mem_cons_of_mem _ List.mem_cons_self))]
 | trans h1 _ ih1 ih2=>intro hq b hb; rw [ih1 hq b hb,ih2 (fun y hy=>hq y (h1.mem_iff.2 hy)) b hb]
section
variable {r:GRing}
def ckL (r:GRing) (N:Nat) (l:List GW):Prop:=(∀ w∈l,w.chk r)/\l.length=N
theorem zjl {N:Nat} {l:List GW} (h:ckL r N l) {i:Nat} (hi:i<N):(l.getD i r.zero).chk r:=by
 rw [List.getD_eq_getElem?_getD,List.getElem?_eq_getElem (by rw [h.2]; exact hi)]; exact h.1 _ (List.getElem_mem _)
theorem yad {N:Nat} {b e:List GW} {x:GTArc} (hb:ckL r N b) (he:ckL r N e) (hw:x.w.chk r) (hx:x.fit N):ckL r N (addW r b x e):=by
 refine ⟨fun w hw'=>?_,by rw [zxq]; exact hb.2⟩
 obtain ⟨⟨a1,a2⟩,a3,a4⟩:=hx
 rcases List.mem_or_eq_of_mem_set hw' with h|h
 ·exact hb.1 w h
 ·rw [h]; exact zbs (zjl hb (by omega)) (za3 hw (zjl he (by omega)))
theorem z3l {N:Nat} {b e e':List GW} {x y:GTArc} (hb:ckL r N b) (he:ckL r N e) (he':ckL r N e') (hwx:x.w.chk r) (hwy:y.w.chk r) (hx:x.fit N) (hy:y.fit N):addW r (addW r b x e) y e'=addW r (addW r b y e') x e:=by
 obtain ⟨⟨a1,a2⟩,a3,a4⟩:=hx
 obtain ⟨⟨b1,b2⟩,b3,b4⟩:=hy
 have c1:=za3 hwx (zjl he (i:=x.t.toNat) (by omega))
 have c2:=za3 hwy (zjl he' (i:=y.t.toNat) (by omega))
 have lb:=hb.2
 unfold addW
 generalize r.times x.w (e.getD x.t.toNat r.zero)=tx at *
 generalize r.times y.w (e'.getD y.t.toNat r.zero)=ty at *
 have hfx:x.f.toNat<b.length:=by omega
 have hfy:y.f.toNat<b.length:=by omega
 generalize x.f.toNat=i at *
 generalize y.f.toNat=j at *
 by_cases hij:i=j
 ·subst hij
  have c0:(b.getD i r.zero).chk r:=zjl hb (by omega)
  have g1:∀ v:GW,(b.set i v).getD i r.zero=v:=fun v=>by
   rw [List.getD_eq_getElem?_getD,List.getElem?_set_self hfx]; rfl
  rw [g1,g1,List.set_set,List.set_set,zdg c0 c1 c2,zdg c0 c2 c1,zg3 c1 c2]
 ·have g1:∀ v:GW,(b.set i v).getD j r.zero=b.getD j r.zero:=fun v=>by
   rw [List.getD_eq_getElem?_getD,List.getElem?_set_ne hij,<- List.getD_eq_getElem?_getD]
  have g2:∀ v:GW,(b.set j v).getD i r.zero=b.getD i r.zero:=fun v=>by
   rw [List.getD_eq_getElem?_getD,List.getElem?_set_ne (Ne.symm hij),<- List.getD_eq_getElem?_getD]
  rw [g1,g2,List.set_comm _ _ hij]
def okA (r:GRing) (N:Nat) (p:GTArc->Option (List GW)) (x:GTArc):Prop:=x.w.chk r/\x.fit N/\∀ e,p x=some e->ckL r N e
theorem zvf {N:Nat} {p:GTArc->Option (List GW)} {b:List GW} {x:GTArc} (hb:ckL r N b) (hx:okA r N p x):ckL r N (accS r p b x):=by
 unfold accS
 cases h:p x with
 | none=>exact hb
 | some e=>exact yad hb (hx.2.2 e h) hx.1 hx.2.1
theorem z3p {N:Nat} {p:GTArc->Option (List GW)} {b:List GW} {x y:GTArc} (hb:ckL r N b) (hx:okA r N p x) (hy:okA r N p y):accS r p (accS r p b x) y=accS r p (accS r p b y) x:=by
 unfold accS
 cases h:p x with
 | none=>rfl
 | some e =>
  cases h':p y with
  | none=>rfl
  | some e'=>exact z3l hb (hx.2.2 e h) (hy.2.2 e' h') hx.1 hy.1 hx.2.1 hy.2.1
theorem zve {N:Nat} {p:GTArc->Option (List GW)}:∀ {l:List GTArc} {b:List GW},ckL r N b->(∀ x∈l,okA r N p x)->ckL r N (accW r p l b)
 | [],_,hb,_=>hb
 | x::l,b,hb,h=>zve (l:=l) (zvf hb (h x List.mem_cons_self)) fun y hy=>h y (List.mem_cons_of_mem _ hy)
theorem ztt {N:Nat} {p:GTArc->Option (List GW)} {l l':List GTArc} (hl:l.Perm l') {b:List GW} (hb:ckL r N b) (h:∀ x∈l,okA r N p x):accW r p l b=accW r p l' b :=
 zyo (Pb:=ckL r N) (Qa:=okA r N p) (fun _ _=>zvf) (fun _ _ _=>z3p) hl h b hb
theorem zre {p q:GTArc->Option (List GW)} (f:GTArc->GTArc) (hf:∀ x,(f x).f=x.f/\(f x).t=x.t/\(f x).w=x.w):∀ {l:List GTArc} {b:List GW},(∀ x∈l,p (f x)=q x)->accW r p (l.map f) b=accW r q l b
 | [],_,_=>rfl
 | x::l,b,h=>by
  show accW r p (l.map f) (accS r p b (f x))=accW r q l (accS r q b x)
  have:accS r p b (f x)=accS r q b x:=by
   unfold accS
   rw [h x List.mem_cons_self]
   cases q x with
   | none=>rfl
   | some e =>
    obtain ⟨h1,h2,h3⟩:=hf x
    simp only [addW,h1,h2,h3]
  rw [this]
  exact zre f hf fun y hy=>h y (List.mem_cons_of_mem _ hy)
theorem z2o (x:GTArc):emF (swT x)=emF x:=by
 unfold emF swT
 exact Bool.and_comm _ _
def z7t (r:GRing) (N:Nat) (l:List GTArc):Prop:=∀ x∈l,x.w.chk r/\x.fit N
theorem zz1 {N:Nat} {l l':List GTArc} (hl:l'.Perm (l.map swT)) {b:List GW} (hb:ckL r N b) (h:z7t r N l):∀ n,sprN r l' b n=sprN r l b n/\ckL r N (sprN r l b n)
 | 0=>⟨rfl,hb⟩
 | n+1=>by
  obtain ⟨ih,ik⟩:=zz1 hl hb h n
  have hok:∀ x∈l,okA r N (zee (sprN r l b n)) x:=fun x hx=>⟨(h x hx).1,(h x hx).2,fun e he=>by
   unfold zee at he
   split at he
   ·cases he; exact ik
   ·cases he⟩
  refine ⟨?_,zve hb hok⟩
  show accW r (zee (sprN r l' b n)) l' b=accW r (zee (sprN r l b n)) l b
  rw [ih]
  have hok':∀ x∈l',okA r N (zee (sprN r l b n)) x:=fun x hx=>by
   obtain ⟨y,hy,rfl⟩:=List.mem_map.1 (hl.mem_iff.1 hx)
   refine ⟨(h y hy).1,(h y hy).2,fun e he=>(hok y hy).2.2 e ?_⟩
   unfold zee at he ⊢
   rwa [z2o] at he
  rw [ztt hl hb hok']
  exact zre swT (fun _=>⟨rfl,rfl,rfl⟩) fun x _=>by unfold zee; rw [z2o]
theorem zvx (wx wy:List Int) (i k:Nat) (f g:Nat->Nat->List GW) (hfg:∀ a b,f b a=g a b) (x:GTArc):zcm wy wx k i f (swT x)=zcm wx wy i k g x:=by
 unfold zcm
 show (if 0<=nx x.o wy k/\0<=nx x.i wx i/\(k:Int)+i<nx x.o wy k+nx x.i wx i then _ else _)=_
 by_cases h:0<=nx x.i wx i/\0<=nx x.o wy k/\(i:Int)+k<nx x.i wx i+nx x.o wy k
 ·rw [if_pos h,if_pos ⟨h.2.1,h.1,by omega⟩]
  exact congrArg some (hfg _ _)
 ·rw [if_neg h,if_neg fun h'=>h ⟨h'.2.1,h'.1,by omega⟩]
structure swap (t u:GTrans):Prop where
 ring:u.ring=t.ring
 st:u.st=t.st
 ini:u.ini=t.ini
 fin:u.fin=t.fin
 arcs:u.arcs.Perm (t.arcs.map swT)
structure ckT (r:GRing) (t:GTrans):Prop where
 ring:t.ring=r
 rok:r.ok=true
 fin:ckL r t.st.toNat t.fin
 arcs:z7t r t.st.toNat t.arcs
theorem zxm {t:GTrans} (ht:ckT r t) (wx wy:List Int) (i k:Nat):ckL r t.st.toNat (zeq t wx wy i k):=by
 unfold zeq
 split
 ·exact ht.fin
 ·rw [ht.ring]
  exact ⟨fun w hw=>by rw [List.eq_of_mem_replicate hw]; exact zbn ht.rok,by simp⟩
theorem zpp {t u:GTrans} (ht:ckT r t) (hs:swap t u) (wx wy:List Int):∀ (n i k:Nat),i<=wx.length->k<=wy.length->wx.length - i+(wy.length - k)<n->valW u wy wx n k i=valW t wx wy n i k/\ckL r t.st.toNat (valW t wx wy n i k)
 | 0,_,_,_,_,h=>by omega
 | n+1,i,k,hi,hk,hn=>by
  have hr:=ht.ring
  show zgp u wy wx k i (valW u wy wx n)=zgp t wx wy i k (valW t wx wy n)/\ckL r t.st.toNat (zgp t wx wy i k (valW t wx wy n))
  have hcong:zgp u wy wx k i (valW u wy wx n)=zgp u wy wx k i (fun b a=>valW t wx wy n a b):=zii hk hi fun b a h1 h2 h3 h4 h5=>(zpp ht hs wx wy n a b h4 h3 (by omega)).1
  rw [hcong]
  have hb:=zxm ht wx wy i k
  have hbe:zeq u wy wx k i=zeq t wx wy i k:=by
   unfold zeq
   rw [hs.ring,hs.st,hs.fin]
   by_cases h:i=wx.length/\k=wy.length
   ·rw [if_pos h,if_pos ⟨h.2,h.1⟩]
   ·rw [if_neg h,if_neg fun h'=>h ⟨h'.2,h'.1⟩]
  have hok:∀ x∈t.arcs,okA r t.st.toNat (zcm wx wy i k (valW t wx wy n)) x:=fun x hx=>⟨(ht.arcs x hx).1,(ht.arcs x hx).2,fun e he=>by
   obtain ⟨a,b,h1,h2,h3,h4,h5,h6,h7,h8,h9,rfl⟩:=zeg hi hk he
   exact (zpp ht hs wx wy n a b h7 h8 (by omega)).2⟩
  have hok':∀ x∈u.arcs,okA r t.st.toNat (zcm wy wx k i fun b a=>valW t wx wy n a b) x:=fun x hx=>by
   obtain ⟨y,hy,rfl⟩:=List.mem_map.1 (hs.arcs.mem_iff.1 hx)
   exact ⟨(hok y hy).1,(hok y hy).2.1,fun e he=>(hok y hy).2.2 e (by rwa [zvx wx wy i k _ (valW t wx wy n) fun _ _=>rfl] at he)⟩
  have hrow:rowW u wy wx k i (fun b a=>valW t wx wy n a b)=rowW t wx wy i k (valW t wx wy n):=by
   unfold rowW
   rw [hbe,hs.ring,hr,ztt hs.arcs hb hok']
   exact zre swT (fun _=>⟨rfl,rfl,rfl⟩) fun x _=>zvx wx wy i k _ _ (fun _ _=>rfl) x
  have hrc:ckL r t.st.toNat (rowW t wx wy i k (valW t wx wy n)):=by
   unfold rowW
   rw [hr]; exact zve hb hok
  unfold zgp
  rw [hrow,hs.ring,hs.st,hr]
  exact zz1 hs.arcs hrc ht.arcs _
end
section
variable {α : Type} {key : α -> List Int} {wt : α -> GW} {r:GRing}
end
theorem z5k {t:GTrans} (ok:t.ok):t.nf.nf=t.nf:=by
 have hc:∀ x∈t.arcs,x.w.chk t.ring:=fun x hx=>(ok.arcs x hx).2.2.2.2.2.2.2.2
 obtain ⟨b1,b2,b3⟩:=zlu ok.ring hc
 have e:tidT t.ring (tidT t.ring t.arcs)=tidT t.ring t.arcs:=zt2 (key:=GTArc.key) (wt:=GTArc.w) (up:=upT t.ring) ok.ring (fun _ _=>rfl) (fun _ _=>rfl) (fun x y h h'=>z35.2 ⟨h,h'⟩) (fun x hx=>(b2 x hx).1) hc b3
 cases t
 simp only [GTrans.nf] at e ⊢
 rw [e]
end Go.Ab
namespace Go.Ab
open Enc (enc)
attribute [local go_sem] zas Opd.slots
inductive GW.lt:GW->Prop
 | mk {q:GRat} {c:Int} {i:Bool} {s:UInt64} {p:List GMono} {ps:List GW}:q.sm 3->p.length<=8->ps.length<=4->psm p 2->(∀ w∈ps,GW.lt w)->GW.lt (.mk q c i s p ps)
noncomputable instance (w:GW):Decidable w.lt:=Classical.propDecidable _
end Go.Ab
namespace Go.Ab
open Enc (enc)
attribute [local go_sem] zas Opd.slots
structure GAuto.lt (a:GAuto):Prop where
 ring:a.ring.parts.length<=6
 ini:a.ini.length<=6/\∀ w∈a.ini,w.lt
 fin:a.fin.length<=6/\∀ w∈a.fin,w.lt
 al:a.arcs.length<=16
 arcs:∀ x∈a.arcs,x.w.lt
noncomputable instance (a:GAuto):Decidable a.lt:=Classical.propDecidable _
structure GTrans.lt (a:GTrans):Prop where
 ring:a.ring.parts.length<=6
 ini:a.ini.length<=5/\∀ w∈a.ini,w.lt
 fin:a.fin.length<=5/\∀ w∈a.fin,w.lt
 al:a.arcs.length<=12
 arcs:∀ x∈a.arcs,x.w.lt
noncomputable instance (a:GTrans):Decidable a.lt:=Classical.propDecidable _
end Go.Ab
namespace Go.Ab
open Enc (enc)
attribute [local go_sem] zas Opd.slots
def aw1:GW:=.mk (rto 1) 0 false 0 [] []
def aw2:GW:=.mk (rto 2) 0 false 0 [] []
def ar1:GRing:=⟨1,[]⟩
theorem z87:ar1.one=aw1:=by simp [GRing.one,ar1,GRing.ok,aw1,oneW]
theorem zvn:aw1.chk ar1:=⟨rfl,fun _=>si1.2 ⟨rfl,rfl,rfl,rfl,rfl,zbe 1⟩,fun h=>by cases h⟩
theorem z7y:aw1.sm 3:=.one 1 ⟨Nat.le_trans zl0.1 (by omega),Nat.le_trans zl0.2 (by omega)⟩ (zl9 3) (by simp)
theorem w11:ar1.plus aw1 aw1=aw2:=by
 have:ar1.plus aw1 aw1=zap 1 aw1 aw1:=rfl
 rw [this]
 simp only [zap,if_true,aw1,aw2,GW.q_mk,zbg]
 congr 2
 exact (by decide +kernel:(1:Rat)+1=2)
theorem yel:aw2≠ar1.zero:=by
 have:ar1.zero=.mk gr0 0 false 0 [] []:=by simp [GRing.zero,ar1,GRing.ok]
 rw [this]
 intro h
 simp only [aw2,GW.mk.injEq] at h
 have h1:=congrArg GRat.v h.1
 rw [zbg,zg8] at h1
 exact absurd h1 (by decide)
def at0:GTrans:=⟨ar1,1,3,1,[aw1],[aw1],[⟨0,1,2,0,aw1⟩,⟨0,1,3,0,aw1⟩]⟩
theorem z36:at0.ok:=by
 refine ⟨rfl,by decide,by decide,by decide,by decide,rfl,rfl,by decide,?_,?_,?_⟩
 ·intro x hx
  simp only [at0,List.mem_cons,List.not_mem_nil,or_false] at hx
  rcases hx with rfl|rfl
  ·exact ⟨by decide,by decide,by decide,by decide,by decide,by decide,by decide,by decide,zvn⟩
  ·exact ⟨by decide,by decide,by decide,by decide,by decide,by decide,by decide,by decide,zvn⟩
 ·intro w hw; simp [at0] at hw; subst hw; exact zvn
 ·intro w hw; simp [at0] at hw; subst hw; exact zvn
theorem ye1:at0.sm 3:=by
 refine ⟨?_,?_,?_⟩
 ·intro w hw; simp [at0] at hw; subst hw; exact z7y
 ·intro w hw; simp [at0] at hw; subst hw; exact z7y
 ·intro x hx
  simp only [at0,List.mem_cons,List.not_mem_nil,or_false] at hx
  rcases hx with rfl|rfl<;>exact z7y
theorem ybc:tidA ar1 (at0.arcs.map (labA GTArc.i))=[⟨0,1,0,aw2⟩]:=by
 have:mrg GArc.key (upA ar1) id (srt GArc.key (at0.arcs.map (labA GTArc.i)))=[⟨0,1,0,ar1.plus aw1 aw1⟩]:=by
  simp [at0,labA,srt,insR,mrg,mst,GArc.key,upA]
 unfold tidA
 rw [this,w11]
 simp [yel]
theorem zxn:Sp P F.jo [] (.pure (.bool true)):=by
 refine Sp.vz c.jo fun hok=>?_
 have hi:=zsy at0 3 (by omega) (by omega) ye1 (by simp [at0]) (by simp [at0]) (by simp [at0])
 have hv:zix at0 at0.inA=⟨ar1,1,1,[aw1],[aw1],[⟨0,1,0,aw2⟩]⟩:=by
  simp only [zix,z36,if_true,GAuto.vb_iff.2 (zw4 z36)]
  show GAuto.mk _ _ _ _ _ _=_
  rw [<- ybc]; rfl
 have he:ziy at0 at0.inA=0:=by simp [ziy,z36,GAuto.vb_iff.2 (zw4 z36)]
 rw [hv,he] at hi
 have h1:=z1g ar1
 rw [z87] at h1
 simp [g.jo,go_sem]
 refine zaa h1 (by simp [go_sem,ar1]) ?_
 simp [go_sem]
 refine zaa hi (by simp [go_sem,at0,ar1]) ?_
 simp [go_sem]
 refine ⟨fun x _ h=>by omega,?_⟩
 have hof:=zg5 2 1 (by omega) (by omega) (by omega)
 rw [show Rat.divInt 2 1=2 by decide] at hof
 refine zab hof ?_
 have h4:(rto 2).sm 1073741824:=⟨Nat.le_trans (show (rto 2).num.length<=1 from zat (by decide)) (by omega),Nat.le_trans (show (rto 2).den.length<=1 by decide) (by omega)⟩
 simp [go_sem,aw2]
 refine zab (zcc (rto 2) (rto 2) h4) ?_
 simp [go_sem]
end Go.Ab
namespace Go.Ab
open Enc (enc)
attribute [local go_sem] zas Opd.slots
theorem z72 {r:GRing} {n:Nat} (hn:n<=90) (hn1:1<=n) {l:List GArc} (hl:l.length<=19) (h:∀ x∈l,x.w.sm n/\x.w.chk r):(∀ x∈tidA r l,x.w.sm 1048576)/\(tidA r l).length<=19:=by
 have hs:=za4 (key:=GArc.key) l
 have iv:=zru (r:=r) hn1 (fun x hx=>h x ((hs.2.2 x).1 hx)) _ (Nat.le_refl _)
 rw [List.take_of_length_le (Nat.le_refl _),hs.2.1] at iv
 refine ⟨fun x hx=>(iv.2 x (List.mem_filter.1 hx).1).1.mono ?_,Nat.le_trans (List.length_filter_le _ _) (Nat.le_trans iv.1 hl)⟩
 have:=Nat.mul_le_mul (show l.length+1<=20 by omega) (show n+1<=91 by omega)
 omega
structure GAuto.fit (a:GAuto):Prop where
 sm:a.sm 1048576
 li:a.ini.length<=1000000
 lf:a.fin.length<=1000000
 la:a.arcs.length<=1000000
structure GTrans.fit (a:GTrans):Prop where
 sm:a.sm 1048576
 li:a.ini.length<=1000000
 lf:a.fin.length<=1000000
 la:a.arcs.length<=1000000
theorem z9a {a:GAuto} {n:Nat} (ok:a.ok) (hn:n<=90) (hn1:1<=n) (h:a.sm n) (hl:a.arcs.length<=19):a.nf.fit:=by
 have t:=z72 (r:=a.ring) hn hn1 hl fun x hx=>⟨h.arcs x hx,(ok.arcs x hx).2.2.2.2.2.2⟩
 have:=ok.il; have:=ok.fl; have:=ok.st2
 exact ⟨⟨fun w hw=>(h.ini w hw).mono (by omega),fun w hw=>(h.fin w hw).mono (by omega),t.1⟩,by show a.ini.length<=_; omega,by show a.fin.length<=_; omega,Nat.le_trans t.2 (by omega)⟩
theorem zx3 {a:GAuto} (h:a.fit):Sp P F.ff [enc a,enc a] (.pure (.bool true)):=by
 have:=z4m a a h.sm h.li h.lf h.la
 simpa using this
end Go.Ab
