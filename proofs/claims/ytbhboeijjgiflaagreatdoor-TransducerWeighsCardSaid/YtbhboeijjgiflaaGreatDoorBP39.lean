/-
Proofs for the law TransducerWeighs, part 39. Conditions: none.
-/
import Derived.Test.YtbhboeijjgiflaaGreatDoorBP38
import Derived.Test.YtbhboeijjgiflaaGreatDoorBP29
import Derived.Test.YtbhboeijjgiflaaGreatDoorBP37
set_option maxRecDepth 100000
set_option maxHeartbeats 4000000
set_option linter.all false
namespace Go.Ab
open Enc (enc)
section
variable (t:GTrans) (wx wy:List Int)
def rowL (i k:Nat):List (List GW):=(List.range' k (wy.length+1 - k)).map (tabW t wx wy i)
def zme (i:Nat):List (List (List GW)):=(List.range' i (wx.length+1 - i)).map fun i=>rowL t wx wy i 0
theorem zmf {i k:Nat} (h:k<=wy.length):rowL t wx wy i k=tabW t wx wy i k::rowL t wx wy i (k+1):=by unfold rowL;rw [show wy.length+1 - k=(wy.length+1 - (k+1))+1 by omega,List.range'_succ,yke]
theorem z58 (i:Nat):rowL t wx wy i (wy.length+1)=[]:=by simp [rowL]
theorem zln (i k:Nat):(rowL t wx wy i k).length=wy.length+1 - k:=by simp [rowL]
theorem z57 {i b:Nat} (h:b<=wy.length):(rowL t wx wy i 0)[b]?=some (tabW t wx wy i b):=by unfold rowL;rw [ykv,List.getElem?_range' (by omega)]; simp
theorem zj7 {i:Nat} (h:i<=wx.length):zme t wx wy i=rowL t wx wy i 0::zme t wx wy (i+1):=by unfold zme;rw [show wx.length+1 - i=(wx.length+1 - (i+1))+1 by omega,List.range'_succ,yke]
theorem z08:zme t wx wy (wx.length+1)=[]:=by simp [zme]
theorem zi7 (i:Nat):(zme t wx wy i).length=wx.length+1 - i:=by simp [zme]
end
theorem yev (label:Int) (w:List Int) (a:Nat) : -1<=nx label w a:=by
 unfold nx;split
 ·omega
 ·split<;>omega
theorem z47 {A:Prop} {N:Nat} {Q:Exit->St->Prop} {b:GC} {ks:List Kt} (W:St->Prop) (h:∀ st,W st->vL P N Q b ks st) (k:(∀ st,W st->vL P N Q b ks st)->A):A:=k h
theorem z5u {α : Type} (i:Nat) (a x : α):(List.replicate (i+1) a).set i x=List.replicate i a++[x]:=by rw [yor,yo8 _ _ (by simp)];simp
theorem ye4 {α : Type} (i:Nat) (a : α) (l:List α):(List.replicate (i+1) a++l)[i]?=some a:=by rw [ymw (by simp)]; simp
theorem yh9 {α : Type} (i:Nat) (a x y : α) (l:List α):(List.replicate i a++y::l).set i x=List.replicate i a++x::l:=by rw [yo8 _ _ (by simp)]; simp
theorem z7h {α : Type} (i:Nat) (a x : α) (l:List α):(List.replicate i a++x::l)[i]?=some x:=by rw [ymf (by simp)]; simp
theorem yiv {α : Type} (i:Nat) (a x y : α) (l:List α):(List.replicate i a++x::y::l)[i+1]?=some y:=by rw [ymf (by simp)]; simp
def zdr (w:List Int) (m:Int):Prop:=(1<=m/\m<=32)/\w.length<=256/\∀ x∈w,1<=x/\x<=m
noncomputable instance (w:List Int) (m:Int):Decidable (zdr w m):=Classical.propDecidable _
theorem zty {r:GRing} (M:Meas r) {z:Nat} (t:GTrans) (n:Nat) (hn:n<=90) (hn1:3<=n) (h:t.sm n) (hl:t.arcs.length<=19) (ok:t.ok) (ht:t.nf.fits M z) (wx wy:List Int) (lx:wx.length<=256) (ly:wy.length<=256)
  (hlim:lvl t.nf z (wx.length+wy.length+1)+z+1+t.st.toNat<=M.lim) (hc:emC t=false) (hwx:zdr wx t.i) (hwy:zdr wy t.o) :
  Sp P F.ak [enc t,.sl (ens wx),.sl (ens wy)] (.pure (.tup [enc (wgt t.nf wx wy),.int .i64 0])):=by
 have h0:=ok.il;have h2:=ok.fl;have h3:=ok.st2;have hst:=ht.st;have hA:=zkc t;refine Sp.vz c.ak fun _=>?_;simp [g.ak,go_sem];refine zab (zfo t (h.mono (by omega)) (by omega) (by omega)) ?_;simp [go_sem,ok];refine zab (zks t n hn hn1 h hl ok) ?_;simp [go_sem,hc];have vx:=zl2 wx t.i (by omega);have vy:=zl2 wy t.o (by omega);have dx:decide ((1<=t.i/\t.i<=32)/\wx.length<=256/\∀ x∈wx,1<=x/\x<=t.i)=true:=decide_eq_true hwx;have dy:decide ((1<=t.o/\t.o<=32)/\wy.length<=256/\∀ x∈wy,1<=x/\x<=t.o)=true:=decide_eq_true hwy;rw [dx] at vx;rw [dy] at vy;refine zab vx ?_;simp [go_sem];refine zab vy ?_;simp [go_sem];have hp:t.ring.parts.length<=1000000:=by
  by_cases h6:t.ring.kind=6
  ·have:=(GRing.ok_parts ok.ring h6).2.1; omega
  ·rw [(GRing.ok_kind ok.ring h6).2.2]; simp
 refine zab (z3k t n hn hn1 h hl hp (by omega) h0 h2 ok.ini ok.fin fun x hx=>(ok.arcs x hx).2.2.2.2.2.2.2.2) ?_;have ust:t.nf.st=t.st:=rfl;have ex:IntKind.i64.wrap ((wx.length:Int)+1)=((wx.length+1:Nat):Int):=i64w (by omega) (by omega);have ey:IntKind.i64.wrap ((wy.length:Int)+1)=((wy.length+1:Nat):Int):=i64w (by omega) (by omega);rw [<- ust] at hlim;simp [go_sem,ex];generalize t.nf=u at *
 have hur:=ht.ring;subst hur;have hA2:u.arcs.length<=19:=by omega
 have hlv:lvl u z (wx.length+wy.length+1)=lvl u z (wx.length+wy.length)+(u.st.toNat+1)*(z+1+u.arcs.length):=by unfold lvl; rw [yks]
 have hlm:(u.st.toNat+1)*(z+1+u.arcs.length)=u.st.toNat*(z+1+u.arcs.length)+(z+1+u.arcs.length):=yks _ _;refine ⟨by omega,?_⟩
 refine zai (S:=fun kk:Nat=>mkSt [(1,.p (.sl (ens wx))),(2,.p (.sl (ens wy))),(3,.ptr 3 0 0 0),(6,.ptr 6 0 0 0),(8,.own 1 0 0 (wx.length+1)),(9,.p (.int .i64 ((kk:Int) - 1)))]
   [(3,⟨8,[.p (enc u)]⟩),(6,⟨8,[.agg [.p (.bool false),.nil,.nil,.p (.int .i64 0),.p (.bool false),.p (.int .u64 0),.nil,.nil]]⟩),(1,⟨1,avs (List.replicate kk ([]:List (List GW))++zme u wx wy kk)⟩)])
  (I:=fun kk=>kk<=wx.length+1) (m:=fun kk=>kk) (wx.length+1) (Weak.to [1,2,3,6,8,9] [((3,0),3),((6,0),6),((46,0),1)] (by simp [go_sem,z08])) (yk6 _) ?_
 rintro kk h1 R hn' hr hx;simp [g.pt,mkSt,go_sem];refine ⟨fun hk=>?_,fun hk=>hx _ _ ?_⟩
 ·obtain ⟨i,rfl⟩:∃ i,kk=i+1:=⟨kk - 1,by omega⟩;have hi:i<=wx.length:=by omega
  have ei:((i+1:Nat):Int) - 1=i:=by omega
  simp [go_sem,ey,ei,z5u];refine ⟨by omega,by rw [zi7]; omega,?_⟩;rw [zbt];refine zd4 (ye4 ..) ?_;simp [go_sem,z5u]
  refine zai (S:=fun kk:Nat=>mkSt [(1,.p (.sl (ens wx))),(2,.p (.sl (ens wy))),(3,.ptr 3 0 0 0),(6,.ptr 6 0 0 0),(8,.own 1 0 0 (wx.length+1)),(9,.p (.int .i64 i)),(10,.p (.int .i64 ((kk:Int) - 1)))]
    [(3,⟨8,[.p (enc u)]⟩),(6,⟨8,[.agg [.p (.bool false),.nil,.nil,.p (.int .i64 0),.p (.bool false),.p (.int .u64 0),.nil,.nil]]⟩),(1,⟨1,List.replicate i (.p (.sl [])) ++ .own 2 0 0 (wy.length+1)::avs (zme u wx wy (i+1))⟩),
     (2,⟨1,avs (List.replicate kk ([]:List GW)++rowL u wx wy i kk)⟩)])
   (I:=fun kk=>kk<=wy.length+1) (m:=fun kk=>kk) (wy.length+1) (Weak.to [1,2,3,6,8,9,10] [((3,0),3),((6,0),6),((1,0),1),((58,0),2)] (by simp [go_sem,z58])) (yk6 _) ?_
  rintro kk h4 R2 hn2 hr2 hx2;simp [g.pq,mkSt,go_sem];refine ⟨fun hk=>?_,fun hk=>hx2 _ _ ?_⟩
  ·obtain ⟨k,rfl⟩:∃ k,kk=k+1:=⟨kk - 1,by omega⟩;have hkl:k<=wy.length:=by omega
   have ek:((k+1:Nat):Int) - 1=k:=by omega
   simp [go_sem,ek];obtain ⟨nn,hnn⟩:∃ nn:Nat,u.st=nn:=⟨u.st.toNat,by omega⟩;refine zaa (zz4 u.ring nn (by omega)) (by simp [go_sem,hnn]) ?_;simp [go_sem];have hN:u.st.toNat=nn:=by omega
   let S1:Nat->St:=fun j=>mkSt [(1,.p (.sl (ens wx))),(2,.p (.sl (ens wy))),(3,.ptr 3 0 0 0),(6,.ptr 6 0 0 0),(8,.own 1 0 0 (wx.length+1)),(9,.p (.int .i64 i)),(10,.p (.int .i64 k)),
     (11,.p (.sl (ens (accW u.ring (zcq wx wy i k (tabW u wx wy)) (u.arcs.take j) (zep u wx wy i k))))),(12,.p (.int .i64 j))]
    [(3,⟨8,[.p (enc u)]⟩),(6,⟨8,[.agg [.p (.bool false),.nil,.nil,.p (.int .i64 0),.p (.bool false),.p (.int .u64 0),.nil,.nil]]⟩),(1,⟨1,List.replicate i (.p (.sl [])) ++ .own 2 0 0 (wy.length+1)::avs (zme u wx wy (i+1))⟩),
     (2,⟨1,avs (List.replicate (k+1) ([]:List GW)++rowL u wx wy i (k+1))⟩)]
   refine z47 (fun st=>Weak st (S1 0)) (fun st hw=>?_) (fun hm=>⟨fun a=>⟨fun b=>hm _ (Weak.to [1,2,3,6,8,9,10,11,12] [((3,0),3),((6,0),6),((1,0),1),((2,0),2)] ?_),fun b=>hm _ (Weak.to [1,2,3,6,8,9,10,11,12] [((3,0),3),((6,0),6),((1,0),1),((2,0),2)] ?_)⟩,fun a=>hm _ (Weak.to [1,2,3,6,8,9,10,11,12] [((3,0),3),((6,0),6),((1,0),1),((2,0),2)] ?_)⟩);rotate_left
   ·have hb:zep u wx wy i k=u.fin:=by unfold zep; rw [yj9 ⟨by omega,by omega⟩]
    simp [S1,go_sem,accW,hb]
   ·have hb:zep u wx wy i k=List.replicate nn u.ring.zero:=by unfold zep; rw [yj8 (by omega),hN]
    simp [S1,go_sem,accW,hb]
   ·have hb:zep u wx wy i k=List.replicate nn u.ring.zero:=by unfold zep; rw [yj8 (by omega),hN]
    simp [S1,go_sem,accW,hb]
   refine zai (S:=S1) (I:=fun j=>j<=u.arcs.length) (m:=fun j=>u.arcs.length - j) 0 hw (by omega) ?_;rintro j h5 R1 hn1 hr1 hx1;have e4:=i64s j (by omega);simp [S1,g.po,mkSt,go_sem];refine ⟨fun hj=>?_,fun hj=>hx1 _ _ ?_⟩
   ·refine zae hj ?_
    try simp [go_sem]
    refine zab (zsp u.arcs[j].i wx i (by omega) (by omega)) ?_
    try simp [go_sem]
    refine zab (zsp u.arcs[j].o wy k (by omega) (by omega)) ?_;have hst:=ztt (r:=u.ring) (p:=zcq wx wy i k (tabW u wx wy)) hj (zep u wx wy i k);unfold accS at hst;cases hsp:zcq wx wy i k (tabW u wx wy) u.arcs[j] with
    | none =>
     rw [hsp] at hst;have n1:=z6u (label:=u.arcs[j].i) hi;have n2:=z6u (label:=u.arcs[j].o) hkl;have n3:=yev u.arcs[j].i wx i;have n4:=yev u.arcs[j].o wy k;unfold zcq at hsp;split at hsp
     ·cases hsp
     ·rename_i hc;generalize nx u.arcs[j].i wx i=a at *
      generalize nx u.arcs[j].o wy k=b at *
      have e6:IntKind.i64.wrap ((i:Int)+k)=(i:Int)+k:=i64w (by omega) (by omega);have e7:IntKind.i64.wrap (a+b)=a+b:=i64w (by omega) (by omega);by_cases ha:0<=a
      ·by_cases hb:0<=b
       ·have hS:¬ ((i:Int)+k<a+b):=fun h=>hc ⟨ha,hb,h⟩;simp [go_sem,ha,hb,e6,e7,hS,e4];exact hn1 (j+1) _ (Weak.to [1,2,3,6,8,9,10,11,12] [((3,0),3),((6,0),6),((1,0),1),((2,0),2)] (by simp [S1,go_sem,mkSt,hst])) (by omega) (by omega)
       ·simp [go_sem,ha,hb,e4];exact hn1 (j+1) _ (Weak.to [1,2,3,6,8,9,10,11,12] [((3,0),3),((6,0),6),((1,0),1),((2,0),2)] (by simp [S1,go_sem,mkSt,hst])) (by omega) (by omega)
      ·simp [go_sem,ha,e4];exact hn1 (j+1) _ (Weak.to [1,2,3,6,8,9,10,11,12] [((3,0),3),((6,0),6),((1,0),1),((2,0),2)] (by simp [S1,go_sem,mkSt,hst])) (by omega) (by omega)
    | some e =>
     rw [hsp] at hst;obtain ⟨a,b,b1,b2,b3,b4,b5,b6,b7,b8,b9,rfl⟩:=zeq hi hkl hsp;have e6:IntKind.i64.wrap ((i:Int)+k)=((i+k:Nat):Int):=i64w (by omega) (by omega);have e7:IntKind.i64.wrap ((a:Int)+b)=((a+b:Nat):Int):=i64w (by omega) (by omega);rw [b1,b2];simp [go_sem,e6,e7];have hb0:=zro ht wx wy i k;have hacc:=znz M (p:=zcq wx wy i k (tabW u wx wy)) (c:=z) (E:=lvl u z (wx.length+wy.length)) (N:=u.st.toNat) (K:=z+lvl u z (wx.length+wy.length)+1) (yk6 _) (zs7 ht.arcs j) (fun x hx e he=>zt9 ht hi hkl x (ykl hx) e he) (zdj hb0.1 (by omega)) hb0.2 0;have hlen:=zj1 (r:=u.ring) (zcq wx wy i k (tabW u wx wy)) (u.arcs.take j) (zep u wx wy i k);have hx1:=ht.arcs _ (yk2 hj);have hv:=zt9 ht hi hkl _ (yk2 hj) _ hsp;have htl:(u.arcs.take j).length=j:=by rw [ylc]; omega
     rw [htl,ylb] at hacc;have hcall:=zyg M (x:=u.arcs[j]) hacc hv.1 hx1.1 hx1.2 (hlen.trans hb0.2) hv.2 (by omega) (by omega) (by omega);generalize haq:accW u.ring (zcq wx wy i k (tabW u wx wy)) (u.arcs.take j) (zep u wx wy i k)=acc at *
     refine ⟨fun _=>⟨⟨by omega,by rw [zi7]; omega⟩,?_⟩,fun h=>absurd h (by omega)⟩;rw [zbt];rcases (by omega:a=i\/a=i+1) with rfl|rfl
     ·obtain rfl:b=k+1:=by omega
      refine zd4 (z7h ..) ?_;simp [go_sem];refine ⟨by rw [zln]; omega,?_⟩;rw [zbt];refine zd4 (x:=.p (enc (tabW u wx wy a (k+1)))) (by rw [zmf u wx wy (by omega)]; exact z7h ..) ?_;simp [go_sem];refine zab hcall ?_;simp [go_sem,e4];exact hn1 (j+1) _ (Weak.to [1,2,3,6,8,9,10,11,12] [((3,0),3),((6,0),6),((1,0),1),((2,0),2)] (by simp [S1,go_sem,mkSt,hst])) (by omega) (by omega)
     ·refine zd4 (x:=.p (enc (rowL u wx wy (i+1) 0))) (by rw [zj7 u wx wy (by omega)]; exact yiv ..) ?_;simp [go_sem];refine zd4 (z57 u wx wy b8) ?_
      try simp [go_sem]
      refine zab hcall ?_;simp [go_sem,e4];exact hn1 (j+1) _ (Weak.to [1,2,3,6,8,9,10,11,12] [((3,0),3),((6,0),6),((1,0),1),((2,0),2)] (by simp [S1,go_sem,mkSt,hst])) (by omega) (by omega)
   ·have:j=u.arcs.length:=by omega
    subst this;simp [go_sem];refine ⟨by rw [zi7]; omega,?_⟩;rw [zbt];refine zd4 (z7h ..) ?_;simp [go_sem];have hrow:=z09 ht (zt9 ht hi hkl);have hspr:=zub M u ht hrow (zp3 ht ..) (by omega) (by omega);have hcell:sprN u.ring u.arcs (rowW u wx wy i k (tabW u wx wy)) u.st.toNat=tabW u wx wy i k:=(z0n hi hkl).symm;rw [hcell] at hspr;unfold rowW at hspr;refine zab hspr ?_
    try simp [go_sem,z5u]
    refine ⟨⟨by omega,by rw [zln]; omega⟩,?_⟩;rw [zbt];refine zd4 (ye4 ..) ?_;have e5:IntKind.i64.wrap ((k:Int) - 1)=(k:Int) - 1:=i64w (by omega) (by omega);simp [go_sem,z5u,e5];exact hn2 k _ (Weak.to [1,2,3,6,8,9,10] [((3,0),3),((6,0),6),((1,0),1),((2,0),2)] (by simp [go_sem,mkSt,zmf u wx wy hkl])) (by omega) (by omega)
  ·have:kk=0:=by omega
   subst this;simp [go_sem];have hrl:(rowL u wx wy i 0).take (wy.length+1)=rowL u wx wy i 0:=yki (by rw [zln]; omega);have e5:IntKind.i64.wrap ((i:Int) - 1)=(i:Int) - 1:=i64w (by omega) (by omega);refine hn' i _ ((Weak.freezeEl (s:=1) (g:=0) (i:=i) (e:=.own 2 0 0 (wy.length+1)) (p:=.sl (ens (rowL u wx wy i 0))) rfl (z7h ..) (by simp [go_sem,zln,hrl]) rfl rfl rfl rfl rfl (by simp [go_sem])).trans (Weak.to [1,2,3,6,8,9] [((3,0),3),((6,0),6),((1,0),1)] (by simp [go_sem,yh9,mkSt,zj7 u wx wy hi,e5]))) (by omega) (by omega)
 ·have:kk=0:=by omega
  subst this;simp [go_sem];refine zab (zir u.ring) ?_;simp [go_sem];have htab:=z9s ht (wx:=wx) (wy:=wy) (i:=0) (k:=0) (by omega) (by omega);have hini:=ht.ini
  refine zai (S:=fun s:Nat=>mkSt [(3,.ptr 3 0 0 0),(6,.ptr 6 0 0 0),(8,.own 1 0 0 (wx.length+1)),(16,.ptr 16 0 0 0),(17,.p (.int .i64 s))]
    [(3,⟨8,[.p (enc u)]⟩),(6,⟨8,[.agg [.p (.bool false),.nil,.nil,.p (.int .i64 0),.p (.bool false),.p (.int .u64 0),.nil,.nil]]⟩),(1,⟨1,avs (zme u wx wy 0)⟩),(16,⟨8,[.p (enc (sumN u.ring u.ini (tabW u wx wy 0 0) s))]⟩)])
   (I:=fun s=>s<=u.st.toNat) (m:=fun s=>u.st.toNat - s) 0 (Weak.to [3,6,8,16,17] [((3,0),3),((6,0),6),((1,0),1),((16,0),16)] (by simp [go_sem,sumN])) (by omega) ?_
  rintro s h5 R1 hn1 hr1 hx1;have e4:=i64s s (by omega);simp [g.px,mkSt,go_sem];refine ⟨fun hs=>?_,fun hs=>hx1 _ _ ?_⟩
  ·have hs1:s<u.ini.length:=by omega
   have hs2:s<(tabW u wx wy 0 0).length:=by omega
   have k1:=hini.1 _ (yk2 hs1);have k2:=htab.1 _ (yk2 hs2);have k3:=zpz (M:=M) ht.rok hini.1 htab.1 s (by omega) (by omega);have ct:=za7 k1.1 k2.1;have s1:=M.timesS (v:=u.ini[s]) (w:=(tabW u wx wy 0 0)[s]) (n:=M.lim) (yk6 _) k1.1 k2.1 (M.mono k1.2 (by omega)) (M.mono k2.2 (by omega));have s2:=M.plusS (v:=sumN u.ring u.ini (tabW u wx wy 0 0) s) (w:=u.ring.times u.ini[s] (tabW u wx wy 0 0)[s]) (n:=M.lim) (yk6 _) k3.1 ct (M.mono k3.2 (by omega)) (M.mono (M.times k1.1 k2.1 k1.2 k2.2) (by omega));have hsum:=zi0 (r:=u.ring) hs1 hs2;refine zae hs1 ⟨by rw [zi7]; omega,zd4 (by rw [zj7 u wx wy (by omega)]; rfl) (zd4 (by rw [zmf u wx wy (by omega)]; rfl) (zae hs2 ?_))⟩;refine zab s1 ?_;simp [go_sem];refine zab s2 ?_;simp [go_sem,e4];exact hn1 (s+1) _ (Weak.to [3,6,8,16,17] [((3,0),3),((6,0),6),((1,0),1),((16,0),16)] (by simp [go_sem,mkSt,hsum])) (by omega) (by omega)
  ·have:s=u.st.toNat:=by omega
   subst this;have hall:sumN u.ring u.ini (tabW u wx wy 0 0) u.st.toNat=wgt u wx wy:=zi1 (by omega);simp [go_sem,hall]
theorem ztx (t:GTrans) (n:Nat) (hn:n<=90) (hn1:3<=n) (h:t.sm n) (hl:t.arcs.length<=19) (ok:t.ok) (wx wy:List Int) (hc:emC t=true) :
  Sp P F.ak [enc t,.sl (ens wx),.sl (ens wy)] (.pure (.tup [enc gw0,.int .i64 10])):=by
 have h0:=ok.il;have h2:=ok.fl;have h3:=ok.st2;refine Sp.vz c.ak fun _=>?_;simp [g.ak,go_sem];refine zab (zfo t (h.mono (by omega)) (by omega) (by omega)) ?_;simp [go_sem,ok];refine zab (zks t n hn hn1 h hl ok) ?_;simp [go_sem,hc];exact ⟨rfl,rfl,rfl,rfl,rfl,rfl,rfl,rfl⟩
structure GModel where
 st:Int
 ini:List Int
 fin:List Int
 arcs:List Int
 em:Bool
instance:Enc GModel:=⟨fun x=>.agg [.int .i64 x.st,.sl (ens x.ini),.sl (ens x.fin),.sl (ens x.arcs),.bool x.em],5,by decide,fun _=>rfl⟩
@[go_sem] theorem yfj (x:GModel):enc x=.agg [.int .i64 x.st,.sl (ens x.ini),.sl (ens x.fin),.sl (ens x.arcs),.bool x.em]:=rfl
@[go_sem] theorem yby:Enc.sz GModel=5:=rfl
theorem zze {α β : Type} {f : β -> α -> β} {Pb : β -> Prop} {Qa : α -> Prop} (hp:∀ b x,Pb b->Qa x->Pb (f b x)) (hc:∀ b x y,Pb b->Qa x->Qa y->f (f b x) y=f (f b y) x) {l l':List α} (h:l.Perm l') :
  (∀ x∈l,Qa x)->∀ b,Pb b->l.foldl f b=l'.foldl f b:=by
 induction h with
 | nil=>intro _ b _; rfl
 | cons x _ ih=>intro hq b hb; exact ih (fun y hy=>hq y (ykq _ hy)) _ (hp b x hb (hq x yl6))
 | swap x y l=>intro hq b hb; simp only [yna]; rw [hc b y x hb (hq y yl6) (hq x (ykq _ yl6))]
 | trans h1 _ ih1 ih2=>intro hq b hb; rw [ih1 hq b hb,ih2 (fun y hy=>hq y (h1.mem_iff.2 hy)) b hb]
section
variable {r:GRing}
def ckL (r:GRing) (N:Nat) (l:List GW):Prop:=(∀ w∈l,w.chk r)/\l.length=N
theorem zjx {N:Nat} {l:List GW} (h:ckL r N l) {i:Nat} (hi:i<N):(l.getD i r.zero).chk r:=by rw [yk9,ykg (by rw [h.2]; exact hi)]; exact h.1 _ (yk2 _)
theorem ycm {N:Nat} {b e:List GW} {x:GTArc} (hb:ckL r N b) (he:ckL r N e) (hw:x.w.chk r) (hx:x.fit N):ckL r N (addW r b x e):=by
 refine ⟨fun w hw'=>?_,by rw [zyf]; exact hb.2⟩;obtain ⟨⟨a1,a2⟩,a3,a4⟩:=hx;rcases ym6 hw' with h|h
 ·exact hb.1 w h
 ·rw [h]; exact zch (zjx hb (by omega)) (za7 hw (zjx he (by omega)))
theorem z4w {N:Nat} {b e e':List GW} {x y:GTArc} (hb:ckL r N b) (he:ckL r N e) (he':ckL r N e') (hwx:x.w.chk r) (hwy:y.w.chk r) (hx:x.fit N) (hy:y.fit N):addW r (addW r b x e) y e'=addW r (addW r b y e') x e:=by
 obtain ⟨⟨a1,a2⟩,a3,a4⟩:=hx;obtain ⟨⟨b1,b2⟩,b3,b4⟩:=hy;have c1:=za7 hwx (zjx he (i:=x.t.toNat) (by omega));have c2:=za7 hwy (zjx he' (i:=y.t.toNat) (by omega));have lb:=hb.2;unfold addW;generalize r.times x.w (e.getD x.t.toNat r.zero)=tx at *
 generalize r.times y.w (e'.getD y.t.toNat r.zero)=ty at *
 have hfx:x.f.toNat<b.length:=by omega
 have hfy:y.f.toNat<b.length:=by omega
 generalize x.f.toNat=i at *
 generalize y.f.toNat=j at *
 by_cases hij:i=j
 ·subst hij;have c0:(b.getD i r.zero).chk r:=zjx hb (by omega);have g1:∀ v:GW,(b.set i v).getD i r.zero=v:=fun v=>by rw [yk9,ynq hfx]; rfl
  rw [g1,g1,List.set_set,List.set_set,zdm c0 c1 c2,zdm c0 c2 c1,zha c1 c2]
 ·have g1:∀ v:GW,(b.set i v).getD j r.zero=b.getD j r.zero:=fun v=>by rw [yk9,yn9 hij,<- List.getD_eq_getElem?_getD]
  have g2:∀ v:GW,(b.set j v).getD i r.zero=b.getD i r.zero:=fun v=>by rw [yk9,yn9 (ykt hij),<- List.getD_eq_getElem?_getD]
  rw [g1,g2,List.set_comm _ _ hij]
def okA (r:GRing) (N:Nat) (p:GTArc->Option (List GW)) (x:GTArc):Prop:=x.w.chk r/\x.fit N/\∀ e,p x=some e->ckL r N e
theorem zv1 {N:Nat} {p:GTArc->Option (List GW)} {b:List GW} {x:GTArc} (hb:ckL r N b) (hx:okA r N p x):ckL r N (accS r p b x):=by
 unfold accS;cases h:p x with
 | none=>exact hb
 | some e=>exact ycm hb (hx.2.2 e h) hx.1 hx.2.1
theorem z4x {N:Nat} {p:GTArc->Option (List GW)} {b:List GW} {x y:GTArc} (hb:ckL r N b) (hx:okA r N p x) (hy:okA r N p y):accS r p (accS r p b x) y=accS r p (accS r p b y) x:=by
 unfold accS;cases h:p x with
 | none=>rfl
 | some e =>
  cases h':p y with
  | none=>rfl
  | some e'=>exact z4w hb (hx.2.2 e h) (hy.2.2 e' h') hx.1 hy.1 hx.2.1 hy.2.1
theorem zrr {N:Nat} {p:GTArc->Option (List GW)}:∀ {l:List GTArc} {b:List GW},ckL r N b->(∀ x∈l,okA r N p x)->ckL r N (accW r p l b)
 | [],_,hb,_=>hb
 | x::l,b,hb,h=>zrr (l:=l) (zv1 hb (h x yl6)) fun y hy=>h y (ykq _ hy)
theorem ztu {N:Nat} {p:GTArc->Option (List GW)} {l l':List GTArc} (hl:l.Perm l') {b:List GW} (hb:ckL r N b) (h:∀ x∈l,okA r N p x):accW r p l b=accW r p l' b :=
 zze (Pb:=ckL r N) (Qa:=okA r N p) (fun _ _=>zv1) (fun _ _ _=>z4x) hl h b hb
theorem zrq {p q:GTArc->Option (List GW)} (f:GTArc->GTArc) (hf:∀ x,(f x).f=x.f/\(f x).t=x.t/\(f x).w=x.w):∀ {l:List GTArc} {b:List GW},(∀ x∈l,p (f x)=q x)->accW r p (l.map f) b=accW r q l b
 | [],_,_=>rfl
 | x::l,b,h=>by
  show accW r p (l.map f) (accS r p b (f x))=accW r q l (accS r q b x);have:accS r p b (f x)=accS r q b x:=by
   unfold accS;rw [h x yl6];cases q x with
   | none=>rfl
   | some e =>
    obtain ⟨h1,h2,h3⟩:=hf x;simp only [addW,h1,h2,h3]
  rw [this];exact zrq f hf fun y hy=>h y (ykq _ hy)
theorem z3v (x:GTArc):emF (swT x)=emF x:=by unfold emF swT;exact Bool.and_comm _ _
def zpr (r:GRing) (N:Nat) (l:List GTArc):Prop:=∀ x∈l,x.w.chk r/\x.fit N
theorem zud {N:Nat} {l l':List GTArc} (hl:l'.Perm (l.map swT)) {b:List GW} (hb:ckL r N b) (h:zpr r N l):∀ n,sprN r l' b n=sprN r l b n/\ckL r N (sprN r l b n)
 | 0=>⟨rfl,hb⟩
 | n+1=>by
  obtain ⟨ih,ik⟩:=zud hl hb h n;have hok:∀ x∈l,okA r N (zc7 (sprN r l b n)) x:=fun x hx=>⟨(h x hx).1,(h x hx).2,fun e he=>by
   unfold zc7 at he;split at he
   ·cases he; exact ik
   ·cases he⟩
  refine ⟨?_,zrr hb hok⟩;show accW r (zc7 (sprN r l' b n)) l' b=accW r (zc7 (sprN r l b n)) l b;rw [ih];have hok':∀ x∈l',okA r N (zc7 (sprN r l b n)) x:=fun x hx=>by
   obtain ⟨y,hy,rfl⟩:=yk4.1 (hl.mem_iff.1 hx);refine ⟨(h y hy).1,(h y hy).2,fun e he=>(hok y hy).2.2 e ?_⟩;unfold zc7 at he ⊢
   rwa [z3v] at he
  rw [ztu hl hb hok'];exact zrq swT (fun _=>⟨rfl,rfl,rfl⟩) fun x _=>by unfold zc7; rw [z3v]
theorem zwe (wx wy:List Int) (i k:Nat) (f g:Nat->Nat->List GW) (hfg:∀ a b,f b a=g a b) (x:GTArc):zcq wy wx k i f (swT x)=zcq wx wy i k g x:=by
 unfold zcq;show (if 0<=nx x.o wy k/\0<=nx x.i wx i/\(k:Int)+i<nx x.o wy k+nx x.i wx i then _ else _)=_;by_cases h:0<=nx x.i wx i/\0<=nx x.o wy k/\(i:Int)+k<nx x.i wx i+nx x.o wy k
 ·rw [yj9 h,yj9 ⟨h.2.1,h.1,by omega⟩];exact congrArg some (hfg _ _)
 ·rw [yj8 h,yj8 fun h'=>h ⟨h'.2.1,h'.1,by omega⟩]
structure swap (t u:GTrans):Prop where
 ring:u.ring=t.ring
 st:u.st=t.st
 ini:u.ini=t.ini
 fin:u.fin=t.fin
 arcs:u.arcs.Perm (t.arcs.map swT)
structure ckT (r:GRing) (t:GTrans):Prop where
 ring:t.ring=r
 rok:r.ok=true
 fin:ckL r t.st.toNat t.fin
 arcs:zpr r t.st.toNat t.arcs
theorem zx9 {t:GTrans} (ht:ckT r t) (wx wy:List Int) (i k:Nat):ckL r t.st.toNat (zep t wx wy i k):=by
 unfold zep;split
 ·exact ht.fin
 ·rw [ht.ring];exact ⟨fun w hw=>by rw [yoc hw]; exact zbq ht.rok,by simp⟩
theorem zt6 {t u:GTrans} (ht:ckT r t) (hs:swap t u) (wx wy:List Int):∀ (n i k:Nat),i<=wx.length->k<=wy.length->wx.length - i+(wy.length - k)<n->valW u wy wx n k i=valW t wx wy n i k/\ckL r t.st.toNat (valW t wx wy n i k)
 | 0,_,_,_,_,h=>by omega
 | n+1,i,k,hi,hk,hn=>by
  have hr:=ht.ring;show zf5 u wy wx k i (valW u wy wx n)=zf5 t wx wy i k (valW t wx wy n)/\ckL r t.st.toNat (zf5 t wx wy i k (valW t wx wy n));have hcong:zf5 u wy wx k i (valW u wy wx n)=zf5 u wy wx k i (fun b a=>valW t wx wy n a b):=zin hk hi fun b a h1 h2 h3 h4 h5=>(zt6 ht hs wx wy n a b h4 h3 (by omega)).1;rw [hcong];have hb:=zx9 ht wx wy i k;have hbe:zep u wy wx k i=zep t wx wy i k:=by
   unfold zep;rw [hs.ring,hs.st,hs.fin];by_cases h:i=wx.length/\k=wy.length
   ·rw [yj9 h,yj9 ⟨h.2,h.1⟩]
   ·rw [yj8 h,yj8 fun h'=>h ⟨h'.2,h'.1⟩]
  have hok:∀ x∈t.arcs,okA r t.st.toNat (zcq wx wy i k (valW t wx wy n)) x:=fun x hx=>⟨(ht.arcs x hx).1,(ht.arcs x hx).2,fun e he=>by
   obtain ⟨a,b,h1,h2,h3,h4,h5,h6,h7,h8,h9,rfl⟩:=zeq hi hk he;exact (zt6 ht hs wx wy n a b h7 h8 (by omega)).2⟩
  have hok':∀ x∈u.arcs,okA r t.st.toNat (zcq wy wx k i fun b a=>valW t wx wy n a b) x:=fun x hx=>by obtain ⟨y,hy,rfl⟩:=yk4.1 (hs.arcs.mem_iff.1 hx);exact ⟨(hok y hy).1,(hok y hy).2.1,fun e he=>(hok y hy).2.2 e (by rwa [zwe wx wy i k _ (valW t wx wy n) fun _ _=>rfl] at he)⟩
  have hrow:rowW u wy wx k i (fun b a=>valW t wx wy n a b)=rowW t wx wy i k (valW t wx wy n):=by unfold rowW;rw [hbe,hs.ring,hr,ztu hs.arcs hb hok'];exact zrq swT (fun _=>⟨rfl,rfl,rfl⟩) fun x _=>zwe wx wy i k _ _ (fun _ _=>rfl) x
  have hrc:ckL r t.st.toNat (rowW t wx wy i k (valW t wx wy n)):=by unfold rowW;rw [hr]; exact zrr hb hok
  unfold zf5;rw [hrow,hs.ring,hs.st,hr];exact zud hs.arcs hrc ht.arcs _
end
section
variable {α : Type} {key : α -> List Int} {wt : α -> GW} {r:GRing}
end
end Go.Ab
namespace Go.Ab
open Enc (enc)
attribute [local go_sem] zal Opd.slots
theorem GW.ind {M:GW->Prop} (h:∀ v,(∀ w∈v.parts,M w)->M v):∀ v,M v
 | .mk q c i s p ps=>h _ fun w hw=>by have:SizeOf.sizeOf w<SizeOf.sizeOf ps:=List.sizeOf_lt_of_mem hw;exact GW.ind h w
termination_by v=>SizeOf.sizeOf v
decreasing_by simp only [GW.mk.sizeOf_spec]; omega
inductive GW.lt:GW->Prop
 | mk {q:GRat} {c:Int} {i:Bool} {s:UInt64} {p:List GMono} {ps:List GW}:q.sm 3->p.length<=8->ps.length<=4->psm p 2->(∀ w∈ps,GW.lt w)->GW.lt (.mk q c i s p ps)
theorem GW.lt_iff {w:GW}:w.lt ↔ w.q.sm 3/\w.poly.length<=8/\w.parts.length<=4/\psm w.poly 2/\∀ x∈w.parts,x.lt:=by
 constructor
 ·intro h; cases h with|mk a b c d e=>exact ⟨a,b,c,d,e⟩
 ·cases w; rintro ⟨a,b,c,d,e⟩; exact .mk a b c d e
theorem GW.lt_sm:∀ w:GW,w.lt->w.sm 8:=by
 refine GW.ind fun v ih h=>?_;obtain ⟨a,b,c,d,e⟩:=GW.lt_iff.1 h;cases v with
 | mk q c' i s p ps=>exact .mk (a.monoR (by omega)) (d.monoR (by omega)) b (yka c (by omega)) fun x hx=>ih x hx (e x hx)
noncomputable instance (w:GW):Decidable w.lt:=Classical.propDecidable _
theorem zxk:∀ w:GW,Sp P F.dm [enc w] (.pure (.bool (decide w.lt))):=by
 refine GW.ind fun v ih=>?_;refine Sp.vz c.dm fun hok=>?_;simp [g.dm,go_sem];refine zab (zsv v.q 3) ?_;by_cases h1:v.q.num.length<=3/\v.q.den.length<=3;rotate_left
 ·rw [decide_eq_false h1]; simp [go_sem]; exact fun h=>h1 (GW.lt_iff.1 h).1
 rw [decide_eq_true h1]; simp [go_sem];refine ⟨fun h2 h=>by have:=(GW.lt_iff.1 h).2.1; omega,fun h2=>⟨fun h3 h=>by have:=(GW.lt_iff.1 h).2.2.1; omega,fun h3=>?_⟩⟩
 refine zai (S:=fun k:Nat=>mkSt [(1,.ptr 1 0 0 0),(3,.p (.int .i64 k))] [(1,⟨8,[.p (enc v)]⟩)]) (I:=fun k=>k<=v.poly.length/\∀ i,(hi:i<v.poly.length)->i<k->v.poly[i].coef.sm 2) (m:=fun k=>v.poly.length - k) 0
  (Weak.to [1,3] [((1,0),1)] (by simp [go_sem])) ⟨by omega,fun i _ h0=>by omega⟩ ?_
 rintro k ⟨h6,h7⟩ R hn hr' hx;have e1:=i64s k (by omega);by_cases hk:k<v.poly.length
 ·simp [g.ot,mkSt,go_sem,hk];refine zae hk ?_;refine zab (zsv v.poly[k].coef 2) ?_;by_cases hc:v.poly[k].coef.num.length<=2/\v.poly[k].coef.den.length<=2
  ·rw [decide_eq_true hc]; simp [go_sem,e1];refine hn (k+1) _ (Weak.to [1,3] [((1,0),1)] (by simp [mkSt,go_sem])) ⟨by omega,fun i hi h0=>?_⟩ (by omega);by_cases hik:i<k
   ·exact h7 i hi hik
   ·have:i=k:=by omega
    subst this; exact hc
  ·rw [decide_eq_false hc]; simp [go_sem];refine hr' _ ?_;simp [go_sem];exact fun h=>hc ((GW.lt_iff.1 h).2.2.2.1 _ (yk2 hk))
 ·have h8:psm v.poly 2:=fun x hx=>by obtain ⟨i,hi,rfl⟩:=ylq.1 hx;exact h7 i hi (by omega)
  simp [g.ot,mkSt,go_sem,hk];refine hx _ _ ?_;simp [go_sem]
  refine zai (S:=fun k:Nat=>mkSt [(1,.ptr 1 0 0 0),(4,.p (.int .i64 k))] [(1,⟨8,[.p (enc v)]⟩)]) (I:=fun k=>k<=v.parts.length/\∀ i,(hi:i<v.parts.length)->i<k->v.parts[i].lt) (m:=fun k=>v.parts.length - k) 0
   (Weak.to [1,4] [((1,0),1)] (by simp [go_sem])) ⟨by omega,fun i _ h0=>by omega⟩ ?_
  rintro k2 ⟨g6,g7⟩ R2 hn2 hr2 hx2;have e2:=i64s k2 (by omega);by_cases hk2:k2<v.parts.length
  ·simp [g.ou,mkSt,go_sem,hk2];refine zae hk2 ?_;refine zab (ih _ (yk2 hk2)) ?_;by_cases hc:v.parts[k2].lt
   ·rw [decide_eq_true hc]; simp [go_sem,e2];refine hn2 (k2+1) _ (Weak.to [1,4] [((1,0),1)] (by simp [mkSt,go_sem])) ⟨by omega,fun i hi h0=>?_⟩ (by omega);by_cases hik:i<k2
    ·exact g7 i hi hik
    ·have:i=k2:=by omega
     subst this; exact hc
   ·rw [decide_eq_false hc]; simp [go_sem];refine hr2 _ ?_;simp [go_sem];exact fun h=>hc ((GW.lt_iff.1 h).2.2.2.2 _ (yk2 hk2))
  ·have h9:∀ x∈v.parts,x.lt:=fun x hx=>by obtain ⟨i,hi,rfl⟩:=ylq.1 hx;exact g7 i hi (by omega)
   simp [g.ou,mkSt,go_sem,hk2];refine hx2 _ _ ?_;simp [go_sem];exact GW.lt_iff.2 ⟨h1,by omega,by omega,h8,h9⟩
theorem zk2 (l:List GW) (m:Nat) (hm:m<=1000000):Sp P F.dk [.sl (ens l),.int .i64 m] (.pure (.bool (decide (l.length<=m/\∀ w∈l,w.lt)))):=by
 refine Sp.vz c.dk fun hok=>?_;by_cases h1:l.length<=m;rotate_left
 ·have:¬ (l.length:Int)<=m:=by omega
  simp [g.dk,go_sem,h1]
 have h1':¬ (m:Int)<l.length:=by omega
 simp [g.dk,go_sem,h1,h1']
 refine zai (S:=fun k:Nat=>mkSt [(0,.p (.sl (ens l))),(5,.p (.int .i64 k))] []) (I:=fun k=>k<=l.length/\∀ i,(hi:i<l.length)->i<k->l[i].lt) (m:=fun k=>l.length - k) 0
  (Weak.to [0,5] [] (by simp [go_sem])) ⟨by omega,fun i _ h0=>by omega⟩ ?_
 rintro k ⟨h6,h7⟩ R hn hr' hx;have e1:=i64s k (by omega);by_cases hk:k<l.length
 ·simp [g.oq,mkSt,go_sem,hk];refine zae hk ?_
  try simp [go_sem]
  refine zab (zxk l[k]) ?_;by_cases hc:l[k].lt
  ·rw [decide_eq_true hc]; simp [go_sem,e1];refine hn (k+1) _ (Weak.to [0,5] [] (by simp [mkSt,go_sem])) ⟨by omega,fun i hi h0=>?_⟩ (by omega);by_cases hik:i<k
   ·exact h7 i hi hik
   ·have:i=k:=by omega
    subst this; exact hc
  ·rw [decide_eq_false hc]; simp [go_sem];refine hr' _ ?_;simp [go_sem];exact ⟨_,yk2 hk,hc⟩
 ·have h9:∀ x∈l,x.lt:=fun x hx=>by obtain ⟨i,hi,rfl⟩:=ylq.1 hx;exact h7 i hi (by omega)
  simp [g.oq,mkSt,go_sem,hk];refine hx _ _ ?_;simp [go_sem];exact h9
theorem zsu (r:GRing):Sp P F.jn [enc r] (.pure (.bool (decide (r.parts.length<=6)))):=by refine Sp.vz c.jn fun hok=>?_;simp [g.jn,go_sem];omega
structure GAuto.lt (a:GAuto):Prop where
 ring:a.ring.parts.length<=6
 ini:a.ini.length<=6/\∀ w∈a.ini,w.lt
 fin:a.fin.length<=6/\∀ w∈a.fin,w.lt
 al:a.arcs.length<=16
 arcs:∀ x∈a.arcs,x.w.lt
noncomputable instance (a:GAuto):Decidable a.lt:=Classical.propDecidable _
structure GTrans.lt (a:GTrans):Prop where
 ring:a.ring.parts.length<=6
 ini:a.ini.length<=5/\∀ w∈a.ini,w.lt
 fin:a.fin.length<=5/\∀ w∈a.fin,w.lt
 al:a.arcs.length<=12
 arcs:∀ x∈a.arcs,x.w.lt
noncomputable instance (a:GTrans):Decidable a.lt:=Classical.propDecidable _
theorem GTrans.lt.sm {a:GTrans} (h:a.lt):a.sm 8:=⟨fun w hw=>GW.lt_sm _ (h.ini.2 w hw),fun w hw=>GW.lt_sm _ (h.fin.2 w hw),fun x hx=>GW.lt_sm _ (h.arcs x hx)⟩
theorem zqs (a:GTrans):Sp P F.jh [enc a] (.pure (.bool (decide a.lt))):=by
 refine Sp.vz c.jh fun hok=>?_;simp [g.jh,go_sem];refine zab (zsu a.ring) ?_;by_cases h1:a.ring.parts.length<=6;rotate_left
 ·rw [decide_eq_false h1]; simp [go_sem]; exact fun h=>h1 h.ring
 rw [decide_eq_true h1]; simp [go_sem];refine zab (zk2 a.ini 5 (by omega)) ?_;by_cases h2:a.ini.length<=5/\∀ w∈a.ini,w.lt;rotate_left
 ·rw [decide_eq_false h2]; simp [go_sem]; exact fun h=>h2 h.ini
 rw [decide_eq_true h2]; simp [go_sem];refine zab (zk2 a.fin 5 (by omega)) ?_;by_cases h3:a.fin.length<=5/\∀ w∈a.fin,w.lt;rotate_left
 ·rw [decide_eq_false h3]; simp [go_sem]; exact fun h=>h3 h.fin
 rw [decide_eq_true h3]; simp [go_sem];refine ⟨fun h4 h=>by have:=h.al; omega,fun h4=>?_⟩
 refine zai (S:=fun k:Nat=>mkSt [(1,.ptr 1 0 0 0),(3,.p (.int .i64 k))] [(1,⟨8,[.p (enc a)]⟩)]) (I:=fun k=>k<=a.arcs.length/\∀ i,(hi:i<a.arcs.length)->i<k->a.arcs[i].w.lt) (m:=fun k=>a.arcs.length - k) 0
  (Weak.to [1,3] [((1,0),1)] (by simp [go_sem])) ⟨by omega,fun i _ h0=>by omega⟩ ?_
 rintro k ⟨h6,h7⟩ R hn hr' hx;have e1:=i64s k (by omega);by_cases hk:k<a.arcs.length
 ·simp [g.oi,mkSt,go_sem,hk];refine zae hk ?_
  try simp [go_sem]
  refine zab (zxk a.arcs[k].w) ?_;by_cases hc:a.arcs[k].w.lt
  ·rw [decide_eq_true hc]; simp [go_sem,e1];refine hn (k+1) _ (Weak.to [1,3] [((1,0),1)] (by simp [mkSt,go_sem])) ⟨by omega,fun i hi h0=>?_⟩ (by omega);by_cases hik:i<k
   ·exact h7 i hi hik
   ·have:i=k:=by omega
    subst this; exact hc
  ·rw [decide_eq_false hc]; simp [go_sem];refine hr' _ ?_;simp [go_sem];exact fun h=>hc (h.arcs _ (yk2 hk))
 ·have h9:∀ x∈a.arcs,x.w.lt:=fun x hx=>by obtain ⟨i,hi,rfl⟩:=ylq.1 hx;exact h7 i hi (by omega)
  simp [g.oi,mkSt,go_sem,hk];refine hx _ _ ?_;simp [go_sem];exact ⟨h1,h2,h3,by omega,h9⟩
def aw1:GW:=.mk (rto 1) 0 false 0 [] []
def ar1:GRing:=⟨1,[]⟩
theorem yax:ar1.one=aw1:=by simp [GRing.one,ar1,GRing.ok,aw1,oneW]
theorem zv8:aw1.chk ar1:=⟨rfl,fun _=>si1.2 ⟨rfl,rfl,rfl,rfl,rfl,zby 1⟩,fun h=>by cases h⟩
theorem z44:aw1.sm 3:=.one 1 ⟨yka zmd.1 (by omega),yka zmd.2 (by omega)⟩ (zmk 3) (by simp)
structure GAuto.fit (a:GAuto):Prop where
 sm:a.sm 1048576
 li:a.ini.length<=1000000
 lf:a.fin.length<=1000000
 la:a.arcs.length<=1000000
structure GTrans.fit (a:GTrans):Prop where
 sm:a.sm 1048576
 li:a.ini.length<=1000000
 lf:a.fin.length<=1000000
 la:a.arcs.length<=1000000
end Go.Ab
namespace Go.Ab
open Enc (enc)
structure GW.tiny (r:GRing) (w:GW):Prop where
 chk:w.chk r
 mb:w.mb 1
 pl:w.poly.length<=3
 ps:∀ x∈w.parts,x.poly.length<=3
structure GTrans.tin (t:GTrans):Prop where
 ok:t.ok
 st:t.st<=3
 al:t.arcs.length<=7
 ini:∀ w∈t.ini,w.tiny t.ring
 fin:∀ w∈t.fin,w.tiny t.ring
 arcs:∀ x∈t.arcs,x.w.tiny t.ring
def GArc.fit (x:GArc) (N:Nat):Prop:=(0<=x.f/\x.f<N)/\0<=x.t/\x.t<N
structure GAuto.fits {r:GRing} (M:Meas r) (z:Nat) (a:GAuto):Prop where
 ring:a.ring=r
 st:0<=a.st/\a.st<=64
 arcs:∀ x∈a.arcs,(x.w.chk r/\M.mb z x.w)/\x.fit a.st.toNat
 ini:Go.Ab.vb M z a.ini/\a.ini.length=a.st.toNat
 fin:Go.Ab.vb M z a.fin/\a.fin.length=a.st.toNat
 rok:r.ok=true
def pl (g:Ex->Rat):List GMono->Rat
 | []=>0
 | m::p=>g m.e*m.coef.v+pl g p
theorem yd9 (a b c:Rat):a+(b+c)=b+(a+c):=by rw [<- Rat.add_assoc,ym2 a b,yl4]
theorem yan (g:Ex->Rat) (p:List GMono) (e:Ex) (q:Rat):pl g (pins p e q)=pl g p+g e*q:=by
 induction p with
 | nil=>simp only [pins,pl,zbv,ykr,ymk]
 | cons m p ih =>
  simp only [pins];split
  ·simp only [pl,ih,yl4]
  ·split
   ·rename_i h;split
    ·rename_i h2;simp only [pl,h];rw [ym2 (g e*m.coef.v) (pl g p),yl4,<- Rat.mul_add,ym2 m.coef.v q,h2,you,ykr]
    ·simp only [pl,h,zbv];rw [Rat.mul_add,yl4,ym2]
   ·simp only [pl,zbv];rw [ym2]
theorem z1z (g:Ex->Rat) (p:List GMono) (e:Ex) (q:Rat):pl g (pput p e q)=pl g p+if e.ok=true then g e*q else 0:=by
 rw [zja];split
 ·rename_i h;rcases h with h|h
  ·simp [h,ykr]
  ·simp [h,you,ykr]
 ·rename_i h;have:e.ok=true:=by
   rcases ykh e.ok with h'|h'
   ·exact h'
   ·exact absurd (.inl h') h
  rw [yan,yj9 this]
theorem z10 (g:Ex->Rat) (p:List GMono) {q:List GMono} (hq:∀ m∈q,m.ok=true):pl g (padd p q)=pl g p+pl g q:=by
 induction q generalizing p with
 | nil=>show pl g p=_; rw [pl,ykr]
 | cons m q ih =>
  show pl g (padd (pput p m.e m.coef.v) q)=_;rw [ih _ fun x hx=>hq x (ykq _ hx),z1z,yj9 (GMono.ok_iff.1 (hq m yl6)).1,pl,yl4]
def pind (e x:Ex):Rat:=if x=e then 1 else 0
theorem z6r (p:List GMono) (e:Ex):pc p e=pl (pind e) p:=by
 induction p with
 | nil=>rfl
 | cons m p ih =>
  simp only [pc,pl,ih,pind];split
  ·rw [Rat.one_mul]
  ·rw [ynr]
def psh (g:Ex->Rat) (y x:Ex):Rat:=if (y.add x).ok=true then g (y.add x) else 0
theorem yam (g:Ex->Rat) (m:GMono) (q:List GMono) (o:List GMono):pl g (prow m q o)=pl g o+pl (psh g m.e) q*m.coef.v:=by
 induction q generalizing o with
 | nil=>show pl g o=_; rw [pl,ynr,ykr]
 | cons x q ih =>
  show pl g (prow m q (pput o (m.e.add x.e) (m.coef.v*x.coef.v)))=_;rw [ih,z1z,pl,Rat.add_mul,yl4]
  congr 2
  unfold psh;split
  ·rw [yov m.coef.v,yod]
  ·rw [ynr,ynr]
theorem zge (g:Ex->Rat) (p q:List GMono):pl g (pmul p q)=pl (fun y=>pl (psh g y) q) p:=by
 have:∀ (p o:List GMono),pl g (p.foldl (fun o m=>prow m q o) o)=pl g o+pl (fun y=>pl (psh g y) q) p:=by
  intro p
  induction p with
  | nil=>intro o; show pl g o=_; rw [pl,ykr]
  | cons m p ih =>
   intro o;show pl g (p.foldl (fun o m=>prow m q o) (prow m q o))=_;rw [ih,yam,pl,yl4]
 have h:=this p [];rw [pl,ymk] at h;exact h
theorem zgf {f g:Ex->Rat} {p:List GMono} (h:∀ m∈p,f m.e=g m.e):pl f p=pl g p:=by
 induction p with
 | nil=>rfl
 | cons m p ih=>simp only [pl]; rw [h m yl6,ih fun x hx=>h x (ykq _ hx)]
theorem z12 (f g:Ex->Rat) (p:List GMono):pl (fun x=>f x+g x) p=pl f p+pl g p:=by
 induction p with
 | nil=>simp only [pl,ykr]
 | cons m p ih=>simp only [pl,ih,Rat.add_mul]; rw [yl4,yl4,yd9 (g m.e*m.coef.v)]
theorem zwx (p:List GMono):pl (fun _=>0) p=0:=by
 induction p with
 | nil=>rfl
 | cons m p ih=>simp only [pl,ih,ynr,ykr]
theorem yao (f:Ex->Rat) (c:Rat) (p:List GMono):pl (fun x=>f x*c) p=pl f p*c:=by
 induction p with
 | nil=>simp only [pl,ynr]
 | cons m p ih=>simp only [pl,ih,Rat.add_mul]; rw [yod,yov c,<- Rat.mul_assoc]
theorem yal (f:Ex->Ex->Rat) (p q:List GMono):pl (fun y=>pl (fun x=>f y x) q) p=pl (fun x=>pl (fun y=>f y x) p) q:=by
 induction p with
 | nil=>simp only [pl,zwx]
 | cons m p ih=>simp only [pl,ih,z12,yao]
theorem Ex.add_comm (x y:Ex):x.add y=y.add x:=by simp only [Ex.add,Int.add_comm]
theorem Ex.add_assoc (x y z:Ex):(x.add y).add z=x.add (y.add z):=by simp only [Ex.add,Int.add_assoc]
theorem zws {p q p' q':List GMono} (h:∀ g,pl g (pmul p q)=pl g (pmul p' q')):pmul p q=pmul p' q':=zhu (zb8 _ _) (zb8 _ _) fun e=>by rw [z6r,z6r,h]
theorem zsh (p q:List GMono):pmul p q=pmul q p:=zws fun g=>by rw [zge,zge];rw [show (fun y=>pl (psh g y) q)=fun y=>pl (fun x=>psh g y x) q from rfl,yal];refine zgf fun m _=>zgf fun m' _=>?_;unfold psh;rw [Ex.add_comm]
theorem mok {m:GMono} {p:List GMono} (h:PVal p) (hm:m∈p):m.e.ok=true:=(GMono.ok_iff.1 ((zak.1 h).1 m hm)).1
theorem zy2 {p q w:List GMono} (hp:PVal p) (hq:PVal q) (hw:PVal w):pmul (pmul p q) w=pmul p (pmul q w):=zws fun g=>by
 rw [zge,zge,zge];refine zgf fun a ha=>?_;rw [zge];refine zgf fun b hb=>?_;have ka:=Ex.ok_iff.1 (mok hp ha);have kb:=Ex.ok_iff.1 (mok hq hb);unfold psh;by_cases h1:(a.e.add b.e).ok=true
 ·rw [yj9 h1];refine zgf fun c hc=>?_;have kc:=Ex.ok_iff.1 (mok hw hc);rw [Ex.add_assoc];by_cases h2:(b.e.add c.e).ok=true
  ·rw [yj9 h2]
  ·rw [yj8 h2,yj8];intro h3;refine h2 (Ex.ok_iff.2 ?_);have:=Ex.ok_iff.1 h3;simp only [Ex.add] at this ⊢;omega
 ·rw [yj8 h1];refine (zwx w).symm.trans (zgf fun c hc=>?_);have kc:=Ex.ok_iff.1 (mok hw hc);by_cases h2:(b.e.add c.e).ok=true
  ·rw [yj9 h2,yj8];intro h3;refine h1 (Ex.ok_iff.2 ?_);have:=Ex.ok_iff.1 h3;simp only [Ex.add] at this ⊢;omega
  ·rw [yj8 h2]
theorem z1m {u v w:List GMono} (hv:PVal v) (hw:PVal w):pmul u (padd v w)=padd (pmul u v) (pmul u w):=by refine zhu (zb8 _ _) (zci _ (zb8 _ _)) fun e=>?_;rw [z6r,z6r,z10 _ _ (zak.1 (zb8 u w)).1,zge,zge,zge,<- z12];exact zgf fun m _=>z10 _ _ (zak.1 hw).1
theorem z6j (p:List GMono):pmul p []=[]:=by rw [zsh]; rfl
theorem zga {v:GW} (hv:v.si 2):0<=trop v/\trop v<=1099511627777:=by obtain ⟨h1,h2,h3,h4,h5,h6,h7⟩:=si2.1 hv;unfold trop;split<;>omega
theorem zb1 {v w:GW} (hv:v.si 2) (hw:w.si 2):trop (zao 2 v w)=if trop v+trop w<=1099511627776 then trop v+trop w else 1099511627777:=by
 obtain ⟨h1,h2,h3,h4,h5,h6,h7⟩:=si2.1 hv;obtain ⟨k1,k2,k3,k4,k5,k6,k7⟩:=si2.1 hw;unfold zao;rw [yj8 (by omega),yj9 rfl];unfold trop;have e1:∀ c:Int,(GW.mk gr0 c false 0 [] []).inf=false:=fun _=>rfl;have e2:∀ c:Int,(GW.mk gr0 c false 0 [] []).cost=c:=fun _=>rfl;have e3:(GW.mk gr0 0 true 0 [] []).inf=true:=rfl;cases hi:v.inf<;>cases hj:w.inf<;>simp [hi,hj,e3]
 ·by_cases h:v.cost+w.cost<=1099511627776
  ·rw [yj8 (show ¬ 1099511627776<v.cost+w.cost by omega),e1,e2,yj9 h]; rfl
  ·rw [yj9 (show 1099511627776<v.cost+w.cost by omega),e3,yj8 h]; rfl
 ·omega
 ·omega
theorem k5 {k:Int} (hk:1<=k/\k<=5):k=1\/k=2\/k=3\/k=4\/k=5:=by omega
theorem zfh (v w:GW):zao 1 v w=.mk (rto (v.q.v*w.q.v)) 0 false 0 [] []:=by simp [zao]
theorem zew (v w:GW):zao 3 v w=.mk (rto (v.q.v*w.q.v)) 0 false 0 [] []:=by simp [zao]
theorem zfg (v w:GW):zao 4 v w=.mk gr0 0 false (v.set &&& w.set) [] []:=by simp [zao]
theorem zff (v w:GW):zao 5 v w=.mk gr0 0 false 0 (pmul v.poly w.poly) []:=by simp [zao]
theorem zl7 {k:Int} (hk:1<=k/\k<=5) {v w:GW} (hv:v.si k) (hw:w.si k):zao k v w=zao k w v:=by
 rcases k5 hk with rfl|rfl|rfl|rfl|rfl
 ·rw [zfh,zfh,yov]
 ·refine zhp (zba hk hv hw) (zba hk hw hv) ?_;rw [zb1 hv hw,zb1 hw hv,Int.add_comm]
 ·rw [zew,zew,yov]
 ·rw [zfg,zfg,UInt64.and_comm]
 ·rw [zff,zff,zsh]
theorem zkv {k:Int} (hk:1<=k/\k<=5) {u v w:GW} (hu:u.si k) (hv:v.si k) (hw:w.si k):zao k (zao k u v) w=zao k u (zao k v w):=by
 rcases k5 hk with rfl|rfl|rfl|rfl|rfl
 ·rw [zfh,zfh,zfh,zfh]; simp only [GW.q_mk,zbv,yod]
 ·refine zhp (zba hk (zba hk hu hv) hw) (zba hk hu (zba hk hv hw)) ?_;rw [zb1 (zba hk hu hv) hw,zb1 hu hv,zb1 hu (zba hk hv hw),zb1 hv hw];have:=zga hu; have:=zga hv; have:=zga hw
  repeat' split
  all_goals omega
 ·rw [zew,zew,zew,zew]; simp only [GW.q_mk,zbv,yod]
 ·rw [zfg,zfg,zfg,zfg]; simp only [GW.set_mk,UInt64.and_assoc]
 ·rw [zff,zff,zff,zff];simp only [GW.poly_mk];rw [zy2 (si_p hu) (si_p hv) (si_p hw)]
theorem ygc (a b c:UInt64):a &&& (b ||| c)=(a &&& b) ||| (a &&& c):=UInt64.toBitVec_inj.1 (by
 simp only [UInt64.toBitVec_and,UInt64.toBitVec_or];exact BitVec.eq_of_getLsbD_eq fun i _=>by simp only [BitVec.getLsbD_and,BitVec.getLsbD_or,Bool.and_or_distrib_left])
theorem zku {k:Int} (hk:1<=k/\k<=5) {u v w:GW} (hu:u.si k) (hv:v.si k) (hw:w.si k):zao k u (zaq k v w)=zaq k (zao k u v) (zao k u w):=by
 rcases k5 hk with rfl|rfl|rfl|rfl|rfl
 ·rw [zfh,zfh,zfh]; simp only [zaq,yk0,GW.q_mk,zbv,Rat.mul_add]
 ·refine zhp (zba hk hu (zb9 hk hv hw)) (zb9 hk (zba hk hu hv) (zba hk hu hw)) ?_;rw [zb1 hu (zb9 hk hv hw),zdu hv hw,zdu (zba hk hu hv) (zba hk hu hw),zb1 hu hv,zb1 hu hw];have:=zga hu; have:=zga hv; have:=zga hw
  repeat' split
  all_goals omega
 ·obtain ⟨_,_,_,_,_,_,h0,_⟩:=si3.1 hu;rw [zsi,zsi,zew u v,zew u w];simp only [GW.q_mk,zbv];by_cases h:v.q.v<w.q.v
  ·rw [yj9 h,zew];by_cases h2:u.q.v*v.q.v<u.q.v*w.q.v
   ·rw [yj9 h2]
   ·have h3:=ypd (Rat.le_of_lt h) h0;rw [yj8 h2,Rat.le_antisymm h3 (ymd.1 h2)]
  ·have h3:=ypd (ymd.1 h) h0;rw [yj8 h,yj8 (ymd.2 h3),zew]
 ·rw [zfg,zfg,zfg]; simp [zaq,GW.set_mk,ygc]
 ·rw [zff,zff,zff];simp only [zaq,GW.poly_mk];simp [GW.poly_mk,z1m (si_p hv) (si_p hw)]
theorem zkt {k:Int} (hk:1<=k/\k<=5) {v:GW} (hv:v.si k):zao k v (zb5 k)=zb5 k:=by
 rcases k5 hk with rfl|rfl|rfl|rfl|rfl
 ·rw [zfh]; simp [zb5,GW.q_mk,zjk,you,show rto 0=gr0 from zb7]
 ·refine zhp (zba hk hv (ziq hk)) (ziq hk) ?_;rw [zb1 hv (ziq hk)];have:=zga hv;have e:trop (zb5 2)=1099511627777:=rfl;rw [e,yj8 (by omega)]
 ·rw [zew]; simp [zb5,GW.q_mk,zjk,you,show rto 0=gr0 from zb7]
 ·rw [zfg]; simp [zb5,GW.set_mk]
 ·rw [zff]; simp [zb5,GW.poly_mk,z6j]
section
variable {r:GRing} {u v w:GW}
theorem zyo (cv:v.chk r) (cw:w.chk r):r.times v w=r.times w v:=by
 by_cases h6:r.kind=6
 ·have hp:=GRing.ok_parts cv.1 h6;obtain ⟨lv,_,sv⟩:=cv.2.2 h6;obtain ⟨lw,_,sw⟩:=cw.2.2 h6;simp only [GRing.times,yj9 h6]
  congr 1
  refine ynj (by rw [zaz lv lw,zaz lw lv]) fun i h1 h2=>?_;have h3:i<r.parts.length:=by rw [zaz lv lw] at h1; exact h1
  rw [za8 h3 (by omega) (by omega) h1,za8 h3 (by omega) (by omega) h2];exact zl7 (hp.2.2 _ (yk2 h3)) (sv i h3 (by omega)) (sw i h3 (by omega))
 ·have hk:=GRing.ok_kind cv.1 h6;simp only [GRing.times,yj8 h6];exact zl7 ⟨hk.1,hk.2.1⟩ (cv.2.1 h6) (cw.2.1 h6)
theorem zt8 (cu:u.chk r) (cv:v.chk r) (cw:w.chk r):r.times (r.times u v) w=r.times u (r.times v w):=by
 by_cases h6:r.kind=6
 ·have hp:=GRing.ok_parts cu.1 h6;obtain ⟨lu,_,su⟩:=cu.2.2 h6;obtain ⟨lv,_,sv⟩:=cv.2.2 h6;obtain ⟨lw,_,sw⟩:=cw.2.2 h6;simp only [GRing.times,yj9 h6,GW.parts_mk]
  congr 1
  have luv:=zaz lu lv;have lvw:=zaz lv lw;refine ynj (by rw [zaz luv lw,zaz lu lvw]) fun i h1 h2=>?_;have h3:i<r.parts.length:=by rw [zaz luv lw] at h1; exact h1
  rw [za8 h3 (by omega) (by omega) h1,za8 h3 (by omega) (by omega) h2,za8 h3 (by omega) (by omega) (by omega),za8 h3 (by omega) (by omega) (by omega)];exact zkv (hp.2.2 _ (yk2 h3)) (su i h3 (by omega)) (sv i h3 (by omega)) (sw i h3 (by omega))
 ·have hk:=GRing.ok_kind cu.1 h6;simp only [GRing.times,yj8 h6];exact zkv ⟨hk.1,hk.2.1⟩ (cu.2.1 h6) (cv.2.1 h6) (cw.2.1 h6)
theorem zyn (cu:u.chk r) (cv:v.chk r) (cw:w.chk r):r.times u (r.plus v w)=r.plus (r.times u v) (r.times u w):=by
 by_cases h6:r.kind=6
 ·have hp:=GRing.ok_parts cu.1 h6;obtain ⟨lu,_,su⟩:=cu.2.2 h6;obtain ⟨lv,_,sv⟩:=cv.2.2 h6;obtain ⟨lw,_,sw⟩:=cw.2.2 h6;simp only [GRing.times,GRing.plus,yj9 h6,GW.parts_mk]
  congr 1
  have lvw:=zbc lv lw;have luv:=zaz lu lv;have luw:=zaz lu lw;refine ynj (by rw [zaz lu lvw,zbc luv luw]) fun i h1 h2=>?_;have h3:i<r.parts.length:=by rw [zaz lu lvw] at h1; exact h1
  rw [za8 h3 (by omega) (by omega) h1,zbl h3 (by omega) (by omega) (by omega),zbl h3 (by omega) (by omega) h2,za8 h3 (by omega) (by omega) (by omega),za8 h3 (by omega) (by omega) (by omega)];exact zku (hp.2.2 _ (yk2 h3)) (su i h3 (by omega)) (sv i h3 (by omega)) (sw i h3 (by omega))
 ·have hk:=GRing.ok_kind cu.1 h6;simp only [GRing.times,GRing.plus,yj8 h6];exact zku ⟨hk.1,hk.2.1⟩ (cu.2.1 h6) (cv.2.1 h6) (cw.2.1 h6)
theorem zym (cv:v.chk r):r.times v r.zero=r.zero:=by
 by_cases h6:r.kind=6
 ·have hp:=GRing.ok_parts cv.1 h6;obtain ⟨lv,_,sv⟩:=cv.2.2 h6;have ez:r.zero=.mk gr0 0 false 0 [] (r.parts.map zb5):=by unfold GRing.zero; rw [yj9 cv.1,h6]; rfl
  rw [ez];simp only [GRing.times,yj9 h6,GW.parts_mk]
  congr 1
  have lz:(r.parts.map zb5).length=r.parts.length:=ylj ..;refine ynj (by rw [zaz lv lz,lz]) fun i h1 h2=>?_;have h3:i<r.parts.length:=by rw [lz] at h2; exact h2
  rw [za8 h3 (by omega) (by omega) h1,List.getElem_map];exact zkt (hp.2.2 _ (yk2 h3)) (sv i h3 (by omega))
 ·have hk:=GRing.ok_kind cv.1 h6;have ez:r.zero=zb5 r.kind:=by unfold GRing.zero; rw [yj9 cv.1,hk.2.2]; rfl
  rw [ez];simp only [GRing.times,yj8 h6];exact zkt ⟨hk.1,hk.2.1⟩ (cv.2.1 h6)
end
end Go.Ab
