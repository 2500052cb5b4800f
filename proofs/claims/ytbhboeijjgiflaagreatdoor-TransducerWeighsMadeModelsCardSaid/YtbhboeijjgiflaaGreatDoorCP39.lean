/-
Proofs for the law TransducerWeighsMadeModels, part 39. Conditions: none.
-/
import Derived.Test.YtbhboeijjgiflaaGreatDoorCP38
import Derived.Test.YtbhboeijjgiflaaGreatDoorCP29
set_option maxRecDepth 100000
set_option maxHeartbeats 4000000
set_option linter.all false
namespace Go.Ab
open Enc (enc)
section
variable (t:GTrans) (wx wy:List Int)
def rowL(i k:Nat):List (List GW):=(List.range' k (wy.length+1 - k)).map (tabW t wx wy i)
def zmz(i:Nat):List (List (List GW)):=(List.range' i (wx.length+1 - i)).map fun i=>rowL t wx wy i 0
theorem zm0{i k:Nat}(h:k<=wy.length):rowL t wx wy i k=tabW t wx wy i k::rowL t wx wy i (k+1):=by unfold rowL;rw[show wy.length+1 - k=(wy.length+1 - (k+1))+1 by omega,List.range'_succ,ylx]
theorem z7w(i:Nat):rowL t wx wy i (wy.length+1)=[]:=by simp[rowL]
theorem zl4(i k:Nat):(rowL t wx wy i k).length=wy.length+1 - k:=by simp[rowL]
theorem z7v{i b:Nat}(h:b<=wy.length):(rowL t wx wy i 0)[b]?=some (tabW t wx wy i b):=by unfold rowL;rw[yme,List.getElem?_range' (by omega)];simp
theorem zkk{i:Nat}(h:i<=wx.length):zmz t wx wy i=rowL t wx wy i 0::zmz t wx wy (i+1):=by unfold zmz;rw[show wx.length+1 - i=(wx.length+1 - (i+1))+1 by omega,List.range'_succ,ylx]
theorem z2j:zmz t wx wy (wx.length+1)=[]:=by simp[zmz]
theorem zjj(i:Nat):(zmz t wx wy i).length=wx.length+1 - i:=by simp[zmz]
end
theorem yga(label:Int)(w:List Int)(a:Nat) : -1<=nx label w a:=by
 unfold nx;split
 ·omega
 ·split<;>omega
theorem z6w{A:Prop}{N:Nat}{Q:Exit->St->Prop}{b:GC}{ks:List Kt}(W:St->Prop)(h:∀ st,W st->vL P N Q b ks st)(k:(∀ st,W st->vL P N Q b ks st)->A):A:=k h
theorem z7l{α : Type}(i:Nat)(a x : α):(List.replicate (i+1) a).set i x=List.replicate i a++[x]:=by rw[yqd,ypu _ _ (by simp)];simp
theorem ygk{α : Type}(i:Nat)(a : α)(l:List α):(List.replicate (i+1) a++l)[i]?=some a:=by rw[yo3 (by simp)];simp
theorem yjo{α : Type}(i:Nat)(a x y : α)(l:List α):(List.replicate i a++y::l).set i x=List.replicate i a++x::l:=by rw[ypu _ _ (by simp)];simp
theorem z9a{α : Type}(i:Nat)(a x : α)(l:List α):(List.replicate i a++x::l)[i]?=some x:=by rw[yns (by simp)];simp
theorem yka{α : Type}(i:Nat)(a x y : α)(l:List α):(List.replicate i a++x::y::l)[i+1]?=some y:=by rw[yns (by simp)];simp
def zdx(w:List Int)(m:Int):Prop:=(1<=m/\m<=32)/\w.length<=256/\∀ x∈w,1<=x/\x<=m
noncomputable instance (w:List Int) (m:Int):Decidable (zdx w m):=Classical.propDecidable _
theorem zuw{r:GRing}(M:Meas r){z:Nat}(t:GTrans)(n:Nat)(hn:n<=90)(hn1:3<=n)(h:t.sm n)(hl:t.arcs.length<=19)(ok:t.ok)(ht:t.nf.fits M z)(wx wy:List Int)(lx:wx.length<=256)(ly:wy.length<=256)
  (hlim:lvl t.nf z (wx.length+wy.length+1)+z+1+t.st.toNat<=M.lim) (hc:emC t=false) (hwx:zdx wx t.i) (hwy:zdx wy t.o) :
  Sp P F.an [enc t,.sl (ens wx),.sl (ens wy)] (.pure (.tup [enc (wgt t.nf wx wy),.int .i64 0])):=by
 have h0:=ok.il;have h2:=ok.fl;have h3:=ok.st2;have hst:=ht.st;have hA:=zkp t;refine Sp.vz c.an fun _=>?_;simp[g.an,go_sem];refine zab (zfy t (h.mono (by omega)) (by omega) (by omega)) ?_;simp[go_sem,ok];refine zab (zk8 t n hn hn1 h hl ok) ?_;simp[go_sem,hc];have vx:=zml wx t.i (by omega);have vy:=zml wy t.o (by omega);have dx:decide ((1<=t.i/\t.i<=32)/\wx.length<=256/\∀ x∈wx,1<=x/\x<=t.i)=true:=decide_eq_true hwx;have dy:decide ((1<=t.o/\t.o<=32)/\wy.length<=256/\∀ x∈wy,1<=x/\x<=t.o)=true:=decide_eq_true hwy;rw[dx]at vx;rw[dy]at vy;refine zab vx ?_;simp[go_sem];refine zab vy ?_;simp[go_sem];have hp:t.ring.parts.length<=1000000:=by
  by_cases h6:t.ring.kind=6
  ·have:=(GRing.ok_parts ok.ring h6).2.1;omega
  ·rw[(GRing.ok_kind ok.ring h6).2.2];simp
 refine zab (z44 t n hn hn1 h hl hp (by omega) h0 h2 ok.ini ok.fin fun x hx=>(ok.arcs x hx).2.2.2.2.2.2.2.2) ?_;have ust:t.nf.st=t.st:=rfl;have ex:IntKind.i64.wrap ((wx.length:Int)+1)=((wx.length+1:Nat):Int):=i64w (by omega) (by omega);have ey:IntKind.i64.wrap ((wy.length:Int)+1)=((wy.length+1:Nat):Int):=i64w (by omega) (by omega);rw[<- ust]at hlim;simp[go_sem,ex];generalize t.nf=u at *
 have hur:=ht.ring;subst hur;have hA2:u.arcs.length<=19:=by omega
 have hlv:lvl u z (wx.length+wy.length+1)=lvl u z (wx.length+wy.length)+(u.st.toNat+1)*(z+1+u.arcs.length):=by unfold lvl;rw[ym9]
 have hlm:(u.st.toNat+1)*(z+1+u.arcs.length)=u.st.toNat*(z+1+u.arcs.length)+(z+1+u.arcs.length):=ym9 _ _;refine⟨by omega,?_⟩
 refine zai (S:=fun kk:Nat=>mkSt [(1,.p (.sl (ens wx))),(2,.p (.sl (ens wy))),(3,.ptr 3 0 0 0),(6,.ptr 6 0 0 0),(8,.own 1 0 0 (wx.length+1)),(9,.p (.int .i64 ((kk:Int) - 1)))]
   [(3,⟨8,[.p (enc u)]⟩),(6,⟨8,[.agg [.p (.bool false),.nil,.nil,.p (.int .i64 0),.p (.bool false),.p (.int .u64 0),.nil,.nil]]⟩),(1,⟨1,avs (List.replicate kk ([]:List (List GW))++zmz u wx wy kk)⟩)])
  (I:=fun kk=>kk<=wx.length+1) (m:=fun kk=>kk) (wx.length+1) (Weak.to [1,2,3,6,8,9] [((3,0),3),((6,0),6),((46,0),1)] (by simp[go_sem,z2j])) (yl8 _) ?_
 rintro kk h1 R hn' hr hx;simp[g.px,mkSt,go_sem];refine⟨fun hk=>?_,fun hk=>hx _ _ ?_⟩
 ·obtain⟨i,rfl⟩:∃ i,kk=i+1:=⟨kk - 1,by omega⟩;have hi:i<=wx.length:=by omega
  have ei:((i+1:Nat):Int) - 1=i:=by omega
  simp[go_sem,ey,ei,z7l];refine⟨by omega,by rw[zjj];omega,?_⟩;rw[zbx];refine zea (ygk ..) ?_;simp[go_sem,z7l]
  refine zai (S:=fun kk:Nat=>mkSt [(1,.p (.sl (ens wx))),(2,.p (.sl (ens wy))),(3,.ptr 3 0 0 0),(6,.ptr 6 0 0 0),(8,.own 1 0 0 (wx.length+1)),(9,.p (.int .i64 i)),(10,.p (.int .i64 ((kk:Int) - 1)))]
    [(3,⟨8,[.p (enc u)]⟩),(6,⟨8,[.agg [.p (.bool false),.nil,.nil,.p (.int .i64 0),.p (.bool false),.p (.int .u64 0),.nil,.nil]]⟩),(1,⟨1,List.replicate i (.p (.sl [])) ++ .own 2 0 0 (wy.length+1)::avs (zmz u wx wy (i+1))⟩),
     (2,⟨1,avs (List.replicate kk ([]:List GW)++rowL u wx wy i kk)⟩)])
   (I:=fun kk=>kk<=wy.length+1) (m:=fun kk=>kk) (wy.length+1) (Weak.to [1,2,3,6,8,9,10] [((3,0),3),((6,0),6),((1,0),1),((58,0),2)] (by simp[go_sem,z7w])) (yl8 _) ?_
  rintro kk h4 R2 hn2 hr2 hx2;simp[g.pt,mkSt,go_sem];refine⟨fun hk=>?_,fun hk=>hx2 _ _ ?_⟩
  ·obtain⟨k,rfl⟩:∃ k,kk=k+1:=⟨kk - 1,by omega⟩;have hkl:k<=wy.length:=by omega
   have ek:((k+1:Nat):Int) - 1=k:=by omega
   simp[go_sem,ek];obtain⟨nn,hnn⟩:∃ nn:Nat,u.st=nn:=⟨u.st.toNat,by omega⟩;refine zaa (z1a u.ring nn (by omega)) (by simp[go_sem,hnn]) ?_;simp[go_sem];have hN:u.st.toNat=nn:=by omega
   let S1:Nat->St:=fun j=>mkSt [(1,.p (.sl (ens wx))),(2,.p (.sl (ens wy))),(3,.ptr 3 0 0 0),(6,.ptr 6 0 0 0),(8,.own 1 0 0 (wx.length+1)),(9,.p (.int .i64 i)),(10,.p (.int .i64 k)),
     (11,.p (.sl (ens (accW u.ring (zct wx wy i k (tabW u wx wy)) (u.arcs.take j) (zev u wx wy i k))))),(12,.p (.int .i64 j))]
    [(3,⟨8,[.p (enc u)]⟩),(6,⟨8,[.agg [.p (.bool false),.nil,.nil,.p (.int .i64 0),.p (.bool false),.p (.int .u64 0),.nil,.nil]]⟩),(1,⟨1,List.replicate i (.p (.sl [])) ++ .own 2 0 0 (wy.length+1)::avs (zmz u wx wy (i+1))⟩),
     (2,⟨1,avs (List.replicate (k+1) ([]:List GW)++rowL u wx wy i (k+1))⟩)]
   refine z6w (fun st=>Weak st (S1 0)) (fun st hw=>?_) (fun hm=>⟨fun a=>⟨fun b=>hm _ (Weak.to [1,2,3,6,8,9,10,11,12] [((3,0),3),((6,0),6),((1,0),1),((2,0),2)] ?_),fun b=>hm _ (Weak.to [1,2,3,6,8,9,10,11,12] [((3,0),3),((6,0),6),((1,0),1),((2,0),2)] ?_)⟩,fun a=>hm _ (Weak.to [1,2,3,6,8,9,10,11,12] [((3,0),3),((6,0),6),((1,0),1),((2,0),2)] ?_)⟩);rotate_left
   ·have hb:zev u wx wy i k=u.fin:=by unfold zev;rw[yl0 ⟨by omega,by omega⟩]
    simp[S1,go_sem,accW,hb]
   ·have hb:zev u wx wy i k=List.replicate nn u.ring.zero:=by unfold zev;rw[yl1 (by omega),hN]
    simp[S1,go_sem,accW,hb]
   ·have hb:zev u wx wy i k=List.replicate nn u.ring.zero:=by unfold zev;rw[yl1 (by omega),hN]
    simp[S1,go_sem,accW,hb]
   refine zai (S:=S1) (I:=fun j=>j<=u.arcs.length) (m:=fun j=>u.arcs.length - j) 0 hw (by omega) ?_;rintro j h5 R1 hn1 hr1 hx1;have e4:=i64s j (by omega);simp[S1,g.pq,mkSt,go_sem];refine⟨fun hj=>?_,fun hj=>hx1 _ _ ?_⟩
   ·refine zae hj ?_
    try simp[go_sem]
    refine zab (ztq u.arcs[j].i wx i (by omega) (by omega)) ?_
    try simp[go_sem]
    refine zab (ztq u.arcs[j].o wy k (by omega) (by omega)) ?_;have hst:=zur (r:=u.ring) (p:=zct wx wy i k (tabW u wx wy)) hj (zev u wx wy i k);unfold accS at hst;cases hsp:zct wx wy i k (tabW u wx wy) u.arcs[j]with
    | none =>
     rw[hsp]at hst;have n1:=z8n (label:=u.arcs[j].i) hi;have n2:=z8n (label:=u.arcs[j].o) hkl;have n3:=yga u.arcs[j].i wx i;have n4:=yga u.arcs[j].o wy k;unfold zct at hsp;split at hsp
     ·cases hsp
     ·rename_i hc;generalize nx u.arcs[j].i wx i=a at *
      generalize nx u.arcs[j].o wy k=b at *
      have e6:IntKind.i64.wrap ((i:Int)+k)=(i:Int)+k:=i64w (by omega) (by omega);have e7:IntKind.i64.wrap (a+b)=a+b:=i64w (by omega) (by omega);by_cases ha:0<=a
      ·by_cases hb:0<=b
       ·have hS:¬ ((i:Int)+k<a+b):=fun h=>hc ⟨ha,hb,h⟩;simp[go_sem,ha,hb,e6,e7,hS,e4];exact hn1 (j+1) _ (Weak.to [1,2,3,6,8,9,10,11,12] [((3,0),3),((6,0),6),((1,0),1),((2,0),2)] (by simp[S1,go_sem,mkSt,hst])) (by omega) (by omega)
       ·simp[go_sem,ha,hb,e4];exact hn1 (j+1) _ (Weak.to [1,2,3,6,8,9,10,11,12] [((3,0),3),((6,0),6),((1,0),1),((2,0),2)] (by simp[S1,go_sem,mkSt,hst])) (by omega) (by omega)
      ·simp[go_sem,ha,e4];exact hn1 (j+1) _ (Weak.to [1,2,3,6,8,9,10,11,12] [((3,0),3),((6,0),6),((1,0),1),((2,0),2)] (by simp[S1,go_sem,mkSt,hst])) (by omega) (by omega)
    | some e =>
     rw[hsp]at hst;obtain⟨a,b,b1,b2,b3,b4,b5,b6,b7,b8,b9,rfl⟩:=zew hi hkl hsp;have e6:IntKind.i64.wrap ((i:Int)+k)=((i+k:Nat):Int):=i64w (by omega) (by omega);have e7:IntKind.i64.wrap ((a:Int)+b)=((a+b:Nat):Int):=i64w (by omega) (by omega);rw[b1,b2];simp[go_sem,e6,e7];have hb0:=zsl ht wx wy i k;have hacc:=zol M (p:=zct wx wy i k (tabW u wx wy)) (c:=z) (E:=lvl u z (wx.length+wy.length)) (N:=u.st.toNat) (K:=z+lvl u z (wx.length+wy.length)+1) (yl8 _) (zt6 ht.arcs j) (fun x hx e he=>zu7 ht hi hkl x (ym3 hx) e he) (zdo hb0.1 (by omega)) hb0.2 0;have hlen:=zke (r:=u.ring) (zct wx wy i k (tabW u wx wy)) (u.arcs.take j) (zev u wx wy i k);have hx1:=ht.arcs _ (yl4 hj);have hv:=zu7 ht hi hkl _ (yl4 hj) _ hsp;have htl:(u.arcs.take j).length=j:=by rw[yms];omega
     rw[htl,ymw]at hacc;have hcall:=zzf M (x:=u.arcs[j]) hacc hv.1 hx1.1 hx1.2 (hlen.trans hb0.2) hv.2 (by omega) (by omega) (by omega);generalize haq:accW u.ring (zct wx wy i k (tabW u wx wy)) (u.arcs.take j) (zev u wx wy i k)=acc at *
     refine⟨fun _=>⟨⟨by omega,by rw[zjj];omega⟩,?_⟩,fun h=>absurd h (by omega)⟩;rw[zbx];rcases(by omega:a=i\/a=i+1)with rfl|rfl
     ·obtain rfl:b=k+1:=by omega
      refine zea (z9a ..) ?_;simp[go_sem];refine⟨by rw[zl4];omega,?_⟩;rw[zbx];refine zea (x:=.p (enc (tabW u wx wy a (k+1)))) (by rw[zm0 u wx wy (by omega)];exact z9a ..) ?_;simp[go_sem];refine zab hcall ?_;simp[go_sem,e4];exact hn1 (j+1) _ (Weak.to [1,2,3,6,8,9,10,11,12] [((3,0),3),((6,0),6),((1,0),1),((2,0),2)] (by simp[S1,go_sem,mkSt,hst])) (by omega) (by omega)
     ·refine zea (x:=.p (enc (rowL u wx wy (i+1) 0))) (by rw[zkk u wx wy (by omega)];exact yka ..) ?_;simp[go_sem];refine zea (z7v u wx wy b8) ?_
      try simp[go_sem]
      refine zab hcall ?_;simp[go_sem,e4];exact hn1 (j+1) _ (Weak.to [1,2,3,6,8,9,10,11,12] [((3,0),3),((6,0),6),((1,0),1),((2,0),2)] (by simp[S1,go_sem,mkSt,hst])) (by omega) (by omega)
   ·have:j=u.arcs.length:=by omega
    subst this;simp[go_sem];refine⟨by rw[zjj];omega,?_⟩;rw[zbx];refine zea (z9a ..) ?_;simp[go_sem];have hrow:=z2k ht (zu7 ht hi hkl);have hspr:=zu9 M u ht hrow (zqx ht ..) (by omega) (by omega);have hcell:sprN u.ring u.arcs (rowW u wx wy i k (tabW u wx wy)) u.st.toNat=tabW u wx wy i k:=(z1w hi hkl).symm;rw[hcell]at hspr;unfold rowW at hspr;refine zab hspr ?_
    try simp[go_sem,z7l]
    refine⟨⟨by omega,by rw[zl4];omega⟩,?_⟩;rw[zbx];refine zea (ygk ..) ?_;have e5:IntKind.i64.wrap ((k:Int) - 1)=(k:Int) - 1:=i64w (by omega) (by omega);simp[go_sem,z7l,e5];exact hn2 k _ (Weak.to [1,2,3,6,8,9,10] [((3,0),3),((6,0),6),((1,0),1),((2,0),2)] (by simp[go_sem,mkSt,zm0 u wx wy hkl])) (by omega) (by omega)
  ·have:kk=0:=by omega
   subst this;simp[go_sem];have hrl:(rowL u wx wy i 0).take (wy.length+1)=rowL u wx wy i 0:=ylv (by rw[zl4];omega);have e5:IntKind.i64.wrap ((i:Int) - 1)=(i:Int) - 1:=i64w (by omega) (by omega);refine hn' i _ ((Weak.freezeEl (s:=1) (g:=0) (i:=i) (e:=.own 2 0 0 (wy.length+1)) (p:=.sl (ens (rowL u wx wy i 0))) rfl (z9a ..) (by simp[go_sem,zl4,hrl]) rfl rfl rfl rfl rfl (by simp[go_sem])).trans (Weak.to [1,2,3,6,8,9] [((3,0),3),((6,0),6),((1,0),1)] (by simp[go_sem,yjo,mkSt,zkk u wx wy hi,e5]))) (by omega) (by omega)
 ·have:kk=0:=by omega
  subst this;simp[go_sem];refine zab (zgi u.ring) ?_;simp[go_sem];have htab:=ybk ht (wx:=wx) (wy:=wy) (i:=0) (k:=0) (by omega) (by omega);have hini:=ht.ini
  refine zai (S:=fun s:Nat=>mkSt [(3,.ptr 3 0 0 0),(6,.ptr 6 0 0 0),(8,.own 1 0 0 (wx.length+1)),(16,.ptr 16 0 0 0),(17,.p (.int .i64 s))]
    [(3,⟨8,[.p (enc u)]⟩),(6,⟨8,[.agg [.p (.bool false),.nil,.nil,.p (.int .i64 0),.p (.bool false),.p (.int .u64 0),.nil,.nil]]⟩),(1,⟨1,avs (zmz u wx wy 0)⟩),(16,⟨8,[.p (enc (sumN u.ring u.ini (tabW u wx wy 0 0) s))]⟩)])
   (I:=fun s=>s<=u.st.toNat) (m:=fun s=>u.st.toNat - s) 0 (Weak.to [3,6,8,16,17] [((3,0),3),((6,0),6),((1,0),1),((16,0),16)] (by simp[go_sem,sumN])) (by omega) ?_
  rintro s h5 R1 hn1 hr1 hx1;have e4:=i64s s (by omega);simp[g.py,mkSt,go_sem];refine⟨fun hs=>?_,fun hs=>hx1 _ _ ?_⟩
  ·have hs1:s<u.ini.length:=by omega
   have hs2:s<(tabW u wx wy 0 0).length:=by omega
   have k1:=hini.1 _ (yl4 hs1);have k2:=htab.1 _ (yl4 hs2);have k3:=zqt (M:=M) ht.rok hini.1 htab.1 s (by omega) (by omega);have ct:=za8 k1.1 k2.1;have s1:=M.timesS (v:=u.ini[s]) (w:=(tabW u wx wy 0 0)[s]) (n:=M.lim) (yl8 _) k1.1 k2.1 (M.mono k1.2 (by omega)) (M.mono k2.2 (by omega));have s2:=M.plusS (v:=sumN u.ring u.ini (tabW u wx wy 0 0) s) (w:=u.ring.times u.ini[s] (tabW u wx wy 0 0)[s]) (n:=M.lim) (yl8 _) k3.1 ct (M.mono k3.2 (by omega)) (M.mono (M.times k1.1 k2.1 k1.2 k2.2) (by omega));have hsum:=zjc (r:=u.ring) hs1 hs2;refine zae hs1 ⟨by rw[zjj];omega,zea (by rw[zkk u wx wy (by omega)];rfl) (zea (by rw[zm0 u wx wy (by omega)];rfl) (zae hs2 ?_))⟩;refine zab s1 ?_;simp[go_sem];refine zab s2 ?_;simp[go_sem,e4];exact hn1 (s+1) _ (Weak.to [3,6,8,16,17] [((3,0),3),((6,0),6),((1,0),1),((16,0),16)] (by simp[go_sem,mkSt,hsum])) (by omega) (by omega)
  ·have:s=u.st.toNat:=by omega
   subst this;have hall:sumN u.ring u.ini (tabW u wx wy 0 0) u.st.toNat=wgt u wx wy:=zjd (by omega);simp[go_sem,hall]
theorem zuv(t:GTrans)(n:Nat)(hn:n<=90)(hn1:3<=n)(h:t.sm n)(hl:t.arcs.length<=19)(ok:t.ok)(wx wy:List Int)(hc:emC t=true) :
  Sp P F.an [enc t,.sl (ens wx),.sl (ens wy)] (.pure (.tup [enc gw0,.int .i64 10])):=by
 have h0:=ok.il;have h2:=ok.fl;have h3:=ok.st2;refine Sp.vz c.an fun _=>?_;simp[g.an,go_sem];refine zab (zfy t (h.mono (by omega)) (by omega) (by omega)) ?_;simp[go_sem,ok];refine zab (zk8 t n hn hn1 h hl ok) ?_;simp[go_sem,hc];exact⟨rfl,rfl,rfl,rfl,rfl,rfl,rfl,rfl⟩
theorem zjl(a:Int)(d k B:Nat)(h:d*k=6)(hb:a.natAbs<=B):qb 6 (B*k) (Rat.divInt a d):=by
 have h1:qb d B (Rat.divInt a d):=⟨a,Rat.divInt_ofNat a d,hb⟩;have h2:=zfb k (by rintro rfl;omega) h1
 rwa[h]at h2
def numD(v:Int):Int:=1+IntKind.i64.wrap (v.tdiv 13) % 3
def numR(v:Int):Rat:=Rat.divInt (v % 13 - 6) (numD v)
theorem zne(v:Int):qb 6 36 (numR v):=by
 have h1:numD v=1\/numD v=2\/numD v=3:=by unfold numD;omega
 have h2:(v % 13 - 6).natAbs<=6:=by omega
 unfold numR;rcases h1 with h|h|h<;>rw[h]
 ·exact zbl (zjl _ 1 6 6 rfl h2) (by omega)
 ·exact zbl (zjl _ 2 3 6 rfl h2) (by omega)
 ·exact zbl (zjl _ 3 2 6 rfl h2) (by omega)
theorem yal{B:Nat}{q:Rat}(h:qb 6 B q)(hB:B<4294967296):(rto q).sm 1:=z2u h (by omega) (by omega) (by omega)
theorem zto(v:Int):Sp P F.kd [.int .i64 v] (.pure (enc (rto (numR v)))):=by
 have e1:IntKind.i64.wrap (v % 13 - 6)=v % 13 - 6:=i64w (by omega) (by omega);have e2:IntKind.i64.wrap (1+IntKind.i64.wrap (v.tdiv 13) % 3)=numD v:=i64w (by omega) (by omega);have h1:numD v=1\/numD v=2\/numD v=3:=by unfold numD;omega
 refine Sp.vz c.kd fun _=>?_;simp[g.kd,go_sem];refine zab (zc8 v 13 (by omega) (by omega)) ?_;simp[go_sem,e1];refine zab (zc8 (IntKind.i64.wrap (v.tdiv 13)) 3 (by omega) (by omega)) ?_;simp[go_sem,e2];refine zab (zhp (v % 13 - 6) (numD v) (by omega) (by omega) (by omega)) ?_;simp[go_sem,numR]
def ztg(v:Int):List GMono :=
 let p:=pput [] ⟨0,0,0⟩ (Rat.divInt (v % 5 - 2) 3)
 if IntKind.i64.wrap (v.tdiv 5) % 2=1 then padd p (pmul (zdl (IntKind.i64.wrap (v.tdiv 10) % 3)) (zb2 (numR v)))else p
def zgv(k v:Int):GW :=
 if k=1 then .mk (rto (numR v)) 0 false 0 [] []
 else if k=2 then(if v % 11=10 then(⟨2,[]⟩:GRing).zero else .mk gr0 (v % 11) false 0 [] [])
 else if k=3 then .mk (rto (Rat.divInt (v % 7) 6)) 0 false 0 [] []
 else if k=4 then .mk gr0 0 false (UInt64.ofNat (v % 16).toNat) [] []
 else .mk gr0 0 false 0 (ztg v) []
theorem ztd(q:Rat):PVal (pput [] ⟨0,0,0⟩ q):=zl5 _ _ zhq
theorem zjn{B:Nat}{q:Rat}(h:qb 6 B q):pqb 6 B (pput [] ⟨0,0,0⟩ q):=by
 have:=zvo (zvp 6) h (by omega) ⟨0,0,0⟩
 rwa[ymm]at this
theorem zpm(i:Int):PVal (zdl i):=by
 unfold zdl;split
 ·refine zak.2 ⟨fun m hm=>?_,List.pairwise_singleton _ _⟩;rw[ynh.1 hm];refine GMono.ok_iff.2 ⟨?_,zbc 1,by rw[zbf];decide⟩;have h3:i=0\/i=1\/i=2:=by omega
  rcases h3 with rfl|rfl|rfl<;>rfl
 ·exact zhq
theorem zte(i:Int):pqb 1 1 (zdl i):=fun e=>by
 unfold zdl;split
 ·simp only[pc];rw[zbf];split
  ·exact⟨1,by rw[ym6];exact(yqe 1).symm,by decide⟩
  ·exact zbl (by rw[ym6];exact zis 1) (by omega)
 ·exact zbl (zis 1) (by omega)
theorem zpn(v:Int):PVal (ztg v)/\pqb 6 1700000 (ztg v):=by
 have h0:qb 6 36 (Rat.divInt (v % 5 - 2) 3):=zbl (zjl (v % 5 - 2) 3 2 6 rfl (by omega)) (by omega);have p0:=ztd (Rat.divInt (v % 5 - 2) 3);have q0:=zjn h0;unfold ztg;simp only;split
 ·have hv:=zpm (IntKind.i64.wrap (v.tdiv 10) % 3);have hq:=zte (IntKind.i64.wrap (v.tdiv 10) % 3);have hc:pqb 6 36 (zb2 (numR v)):=zjn (zne v);have hm:=zm7 (zdw hq hv) (zdw hc (zex _)) (by omega);have l1:=za7 hv;have l2:=za7 (zex (numR v));have h3:(zdl (IntKind.i64.wrap (v.tdiv 10) % 3)).length*((zb2 (numR v)).length*(1*36))<=216*(216*(1*36)):=yma l1 (ylw _ l2);refine⟨zcc _ p0,fun e=>zbl (z2v q0 (fun e=>zbl (hm e) h3) (zbu _ _) (by omega) e) (by omega)⟩
 ·exact⟨p0,fun e=>zbl (q0 e) (by omega)⟩
theorem z2x(v:Int):Sp P F.ch [enc (rto (Rat.divInt (v % 5 - 2) 3))] (.pure (.sl (ens (pput [] ⟨0,0,0⟩ (Rat.divInt (v % 5 - 2) 3))))):=by
 have h0:qb 6 36 (Rat.divInt (v % 5 - 2) 3):=zbl (zjl (v % 5 - 2) 3 2 6 rfl (by omega)) (by omega);have:=zhz (rto (Rat.divInt (v % 5 - 2) 3)) ((yal h0 (by omega)).mono (by omega))
 rwa[zbf]at this
theorem qm1{B:Nat}{q:Rat}(h:qb 6 B q)(hB:B<=6291456):qm 1 q:=by unfold qm;rw[show mD 1=6 from rfl,show mB 1=6291456 from rfl];exact zbl h hB
theorem zkr{k:Int}(hk:1<=k/\k<=5)(v:Int):(zgv k v).si k/\(zgv k v).mb1 1:=by
 have h:k=1\/k=2\/k=3\/k=4\/k=5:=by omega
 rcases h with rfl|rfl|rfl|rfl|rfl
 ·refine⟨si1.2 ⟨rfl,rfl,rfl,rfl,rfl,zbc _⟩,?_,fun e=>zfp 1⟩;show qm 1 (rto (numR v)).v;rw[zbf];exact qm1 (zne v) (by omega)
 ·unfold zgv;rw[yl1 (by omega),yl0 rfl];split
  ·exact⟨zh4 (k:=2) (by omega),zk0 ..⟩
  ·exact⟨si2.2 ⟨rfl,rfl,rfl,rfl,by show 0<=v % 11;omega,by show v % 11<=1099511627776;omega,fun h=>by cases h⟩,zk0 ..⟩
 ·have hq:qb 6 6 (Rat.divInt (v % 7) 6):=zbl (zjl (v % 7) 6 1 6 rfl (by omega)) (by omega);refine⟨si3.2 ⟨rfl,rfl,rfl,rfl,rfl,zbc _,?_,?_⟩,?_,fun e=>zfp 1⟩
  ·show 0<=(rto (Rat.divInt (v % 7) 6)).v;rw[zbf];exact Rat.divInt_nonneg (by omega) (by omega)
  ·show(rto (Rat.divInt (v % 7) 6)).v<=1;rw[zbf,Rat.le_iff_sub_nonneg,show(1:Rat)=Rat.divInt 6 6 from rfl,Rat.divInt_sub_divInt _ _ (by omega) (by omega)];exact Rat.divInt_nonneg (by omega) (by omega)
  ·show qm 1 (rto (Rat.divInt (v % 7) 6)).v;rw[zbf];exact qm1 hq (by omega)
 ·exact⟨si4.2 ⟨rfl,rfl,rfl,rfl,rfl⟩,zk0 ..⟩
 ·refine⟨si5.2 ⟨rfl,rfl,rfl,rfl,rfl,(zpn v).1⟩,?_,fun e=>qm1 ((zpn v).2 e) (by omega)⟩;show qm 1 gr0.v;rw[zg9];exact zfp 1
theorem z2w(n:Nat)(h:n≠0):4294967296<=4294967296^n:=Nat.le_self_pow h _
theorem zo5(k:Int)(hk:1<=k/\k<=5)(v:Int):Sp P F.ak [enc (⟨k,[]⟩:GRing),.int .i64 v] (.pure (enc (zgv k v))):=by
 have h:k=1\/k=2\/k=3\/k=4\/k=5:=by omega
 rcases h with rfl|rfl|rfl|rfl|rfl
 ·refine Sp.vz c.ak fun _=>?_;simp[g.ak,go_sem];refine zab (zto v) ?_;simp[go_sem,zgv]
 ·refine Sp.vz c.ak fun _=>?_;simp[g.ak,go_sem];refine zab (zc8 v 11 (by omega) (by omega)) ?_;simp[go_sem];refine⟨fun h=>?_,fun h=>?_⟩
  ·refine zab (zgi ⟨2,[]⟩) ?_;simp[go_sem,zgv,h]
  ·refine zab (zc8 v 11 (by omega) (by omega)) ?_;simp[go_sem,zgv,h,gr0]
 ·refine Sp.vz c.ak fun _=>?_;simp[g.ak,go_sem];refine zab (zc8 v 7 (by omega) (by omega)) ?_;simp[go_sem];refine zab (zhp (v % 7) 6 (by omega) (by omega) (by omega)) ?_;simp[go_sem,zgv]
 ·refine Sp.vz c.ak fun _=>?_;simp[g.ak,go_sem];refine zab (zc8 v 16 (by omega) (by omega)) ?_;simp[go_sem,zgv];omega
 ·have e1:IntKind.i64.wrap (v % 5 - 2)=v % 5 - 2:=i64w (by omega) (by omega);refine Sp.vz c.ak fun _=>?_;simp[g.ak,go_sem];refine zab (zc8 v 5 (by omega) (by omega)) ?_;simp[go_sem,e1];refine zab (zhp (v % 5 - 2) 3 (by omega) (by omega) (by omega)) ?_;simp[go_sem];refine zab (z2x v) ?_;simp[go_sem];refine zab (zc8 (IntKind.i64.wrap (v.tdiv 5)) 2 (by omega) (by omega)) ?_;have h0:qb 6 36 (Rat.divInt (v % 5 - 2) 3):=zbl (zjl (v % 5 - 2) 3 2 6 rfl (by omega)) (by omega);have p0:=ztd (Rat.divInt (v % 5 - 2) 3);have q0:=zjn h0;simp[go_sem];refine⟨fun h=>?_,fun h=>?_⟩
  ·refine zab (zc8 (IntKind.i64.wrap (v.tdiv 10)) 3 (by omega) (by omega)) ?_;simp[go_sem];have hv:=zpm (IntKind.i64.wrap (v.tdiv 10) % 3);have hq:=zte (IntKind.i64.wrap (v.tdiv 10) % 3);have hc:pqb 6 36 (zb2 (numR v)):=zjn (zne v);have hm:=zm7 (zdw hq hv) (zdw hc (zex _)) (by omega);have l1:=za7 hv;have l2:=za7 (zex (numR v));have h3:(zdl (IntKind.i64.wrap (v.tdiv 10) % 3)).length*((zb2 (numR v)).length*(1*36))<=216*(216*(1*36)):=yma l1 (ylw _ l2);have big:=z2w 1048576 (by omega);have hmv:=zbu (zdl (IntKind.i64.wrap (v.tdiv 10) % 3)) (zb2 (numR v));have s1:=z2f (zdl (IntKind.i64.wrap (v.tdiv 10) % 3)) (rto (numR v)) 1 6 1 36 hv hq (by rw[zbf];exact zne v) (by omega) (by omega) (by omega) (by omega) (fun m hm=>(zfq (n:=1) hq hv (by omega) (by omega) (by omega) m hm).mono (by omega)) ((yal (zne v) (by omega)).mono (by omega));have s2:=z6m (pput [] ⟨0,0,0⟩ (Rat.divInt (v % 5 - 2) 3)) (pmul (zdl (IntKind.i64.wrap (v.tdiv 10) % 3)) (zb2 (numR v))) 6 36 1679616 p0 hmv q0 (fun e=>zbl (hm e) h3) (by omega) (by omega) (by omega);rw[zbf]at s1;refine zab (zq5 (IntKind.i64.wrap (v.tdiv 10) % 3)) ?_;simp[go_sem];refine zab (zto v) ?_;simp[go_sem];refine zab s1 ?_;simp[go_sem];refine zab s2 ?_;simp[go_sem,zgv,ztg,h]
  ·simp[go_sem,zgv,ztg,h]
def zdm(ks:List Int)(v:Int)(n:Nat):List GW:=(List.range n).map fun i=>zgv (ks.getD i 0) (IntKind.i64.wrap (v+i))
def zkq(r:GRing)(v:Int):GW:=if r.kind=6 then .mk gr0 0 false 0 [] (zdm r.parts v r.parts.length)else zgv r.kind v
theorem zvv(ks:List Int)(v:Int)(n:Nat)(h:n<ks.length):zdm ks v (n+1)=zdm ks v n++[zgv ks[n] (IntKind.i64.wrap (v+n))]:=by unfold zdm;rw[ynj,yn0];simp[ylt h]
theorem zf4(ks:List Int)(v:Int)(n:Nat):(zdm ks v n).length=n:=by simp[zdm]
theorem z0d{r:GRing}(hr:r.ok=true)(v:Int):(zkq r v).chk r/\(zkq r v).mb 1:=by
 unfold zkq;by_cases h6:r.kind=6
 ·have hp:=GRing.ok_parts hr h6;have hs:∀ i,(h:i<r.parts.length)->(h':i<(zdm r.parts v r.parts.length).length)->(zdm r.parts v r.parts.length)[i].si r.parts[i]/\(zdm r.parts v r.parts.length)[i].mb1 1:=fun i h h'=>by
   have e:(zdm r.parts v r.parts.length)[i]=zgv r.parts[i] (IntKind.i64.wrap (v+i)):=by simp[zdm,ylt h]
   rw[e];exact zkr (hp.2.2 _ (yl4 h)) _
  rw[yl0 h6];refine⟨⟨hr,fun h=>absurd h6 h,fun _=>⟨zf4 ..,rfl,fun i h h'=>(hs i h h').1⟩⟩,⟨zr3 ..,fun x hx=>?_⟩⟩;obtain⟨i,hi,rfl⟩:=ynb.1 hx;have hi':i<(zdm r.parts v r.parts.length).length:=hi;exact(hs i (by rw[zf4]at hi';exact hi') hi').2
 ·have hk:=GRing.ok_kind hr h6;have h:=zkr ⟨hk.1,hk.2.1⟩ v;rw[yl1 h6];refine⟨⟨hr,fun _=>h.1,fun h'=>absurd h' h6⟩,⟨h.2,fun x hx=>?_⟩⟩;rw[h.1.1]at hx;cases hx
theorem zo6(r:GRing)(hr:r.ok=true)(v:Int):Sp P F.ak [enc r,.int .i64 v] (.pure (enc (zkq r v))):=by
 by_cases h6:r.kind=6;rotate_left
 ·have hk:=GRing.ok_kind hr h6;have e:r=⟨r.kind,[]⟩:=by rw[<- hk.2.2]
  have:=zo5 r.kind ⟨hk.1,hk.2.1⟩ v;rw[<- e]at this;rw[show zkq r v=zgv r.kind v by unfold zkq;rw[yl1 h6]];exact this
 ·have hp:=GRing.ok_parts hr h6;refine Sp.vz c.ak fun _=>?_;simp[g.ak,go_sem,h6]
  refine zai (S:=fun k:Nat=>mkSt [(1,.p (.int .i64 v)),(2,.ptr 2 0 0 0),(4,.ptr 4 0 0 0),(6,.ptr 6 0 0 0),(7,.p (.int .i64 k))]
    [(2,⟨2,[.p (enc r)]⟩),(4,⟨8,[.agg [.p (.bool false),.nil,.nil,.p (.int .i64 0),.p (.bool false),.p (.int .u64 0),.nil,.nil]]⟩),
     (6,⟨8,[.agg [.p (.bool false),.nil,.nil,.p (.int .i64 0),.p (.bool false),.p (.int .u64 0),.nil,.own 5 0 0 k]]⟩),(5,⟨8,avs (zdm r.parts v k)⟩)])
   (I:=fun k=>k<=r.parts.length) (m:=fun k=>r.parts.length - k) 0
   ((Weak.nilCell (s0:=6) (g0:=0) (i:=7) (s:=77) (sz:=8) rfl).trans (Weak.to [1,2,4,6,7] [((2,0),2),((4,0),4),((6,0),6),((77,0),5)] (by simp[go_sem,zdm,h6]))) (by omega) ?_
  rintro k h1 R hn' hr' hx;have e1:=i64s k (by omega);simp[g.qr,mkSt,go_sem];refine⟨fun hk=>?_,fun hk=>hx _ _ ?_⟩
  ·refine zae hk ?_
   try simp[go_sem]
   have hc:=zo5 r.parts[k] (hp.2.2 _ (yl4 hk)) (IntKind.i64.wrap (v+k));have hts:=zvv r.parts v k hk;have hlen:=zf4 r.parts v k;refine zab hc ?_;simp[go_sem,e1,hlen];exact⟨by omega,hn' (k+1) _ (Weak.to [1,2,4,6,7] [((2,0),2),((4,0),4),((6,0),6),((80,0),5)] (by simp[go_sem,mkSt,hts,h6])) (by omega) (by omega)⟩
  ·have:k=r.parts.length:=by omega
   subst this;have hW:zkq r v=.mk gr0 0 false 0 [] (zdm r.parts v r.parts.length):=by unfold zkq;rw[yl0 h6]
   have hT:(zdm r.parts v r.parts.length).take r.parts.length=zdm r.parts v r.parts.length:=ylv (by rw[zf4];omega);simp[go_sem,hW,hT,zf4,gr0]
def zqy(k:Int):GRing:=if k % 7=5 then⟨6,[1,2]⟩else if k % 7=6 then⟨6,[3,4,5]⟩else⟨k % 7+1,[]⟩
theorem zxk(k:Int):(zqy k).ok=true:=by
 have h:k % 7=0\/k % 7=1\/k % 7=2\/k % 7=3\/k % 7=4\/k % 7=5\/k % 7=6:=by omega
 unfold zqy;rcases h with h|h|h|h|h|h|h<;>rw[h]<;>decide
theorem yb1(k:Int):Sp P F.jo [.int .i64 k] (.pure (enc (zqy k))):=by have e1:IntKind.i64.wrap (k % 7+1)=k % 7+1:=i64w (by omega) (by omega);refine Sp.vz c.jo fun _=>?_;simp[g.jo,go_sem];refine zab (zc8 k 7 (by omega) (by omega)) ?_;simp[go_sem];refine⟨fun h=>by simp[zqy,h,go_sem],fun h=>⟨fun h2=>by simp[zqy,h,h2,go_sem],fun h2=>?_⟩⟩;have:=zc8 (k % 7) 7 (by omega) (by omega);rw[Int.emod_emod]at this;refine zab this ?_;simp[go_sem,zqy,h,h2,e1]
theorem z3v{k:Int}(hk:1<=k/\k<=5):(oneW k []).si k/\(oneW k []).mb1 1:=by
 have h:k=1\/k=2\/k=3\/k=4\/k=5:=by omega
 have hq:qm 1 (1:Rat):=qm1 (zjl 1 1 6 1 rfl (by decide)) (by omega);rcases h with rfl|rfl|rfl|rfl|rfl
 ·exact⟨si1.2 ⟨rfl,rfl,rfl,rfl,rfl,zbc 1⟩,by show qm 1 (rto 1).v;rw[zbf];exact hq,fun e=>zfp 1⟩
 ·exact⟨si2.2 ⟨rfl,rfl,rfl,rfl,by decide,by decide,fun h=>by cases h⟩,zk0 ..⟩
 ·refine⟨si3.2 ⟨rfl,rfl,rfl,rfl,rfl,zbc 1,?_,?_⟩,by show qm 1 (rto 1).v;rw[zbf];exact hq,fun e=>zfp 1⟩
  ·show 0<=(rto 1).v;rw[zbf];decide
  ·show(rto 1).v<=1;rw[zbf];exact Rat.le_refl
 ·exact⟨si4.2 ⟨rfl,rfl,rfl,rfl,rfl⟩,zk0 ..⟩
 ·refine⟨si5.2 ⟨rfl,rfl,rfl,rfl,rfl,zex 1⟩,?_,fun e=>?_⟩
  ·show qm 1 gr0.v;rw[zg9];exact zfp 1
  ·have h1:pqb 6 6 (zb2 1):=zjn (zjl 1 1 6 1 rfl (by decide));exact qm1 (h1 e) (by omega)
theorem z8l{r:GRing}(hr:r.ok=true):r.one.chk r/\r.one.mb 1:=by
 unfold GRing.one;rw[yl0 hr];by_cases h6:r.kind=6
 ·have hp:=GRing.ok_parts hr h6;rw[h6];have e:oneW 6 (r.parts.map fun k=>oneW k [])=.mk gr0 0 false 0 [] (r.parts.map fun k=>oneW k []):=rfl;rw[e];have hs:∀ i,(h:i<r.parts.length)->(h':i<(r.parts.map fun k=>oneW k []).length)->(r.parts.map fun k=>oneW k [])[i].si r.parts[i]/\(r.parts.map fun k=>oneW k [])[i].mb1 1:=fun i h h'=>by rw[yqa];exact z3v (hp.2.2 _ (yl4 h))
  refine⟨⟨hr,fun h=>absurd h6 h,fun _=>⟨ymx ..,rfl,fun i h h'=>(hs i h h').1⟩⟩,⟨zr3 ..,fun x hx=>?_⟩⟩;obtain⟨i,hi,rfl⟩:=ynb.1 hx;have hi':i<(r.parts.map fun k=>oneW k []).length:=hi;exact(hs i (by rw[ymx]at hi';exact hi') hi').2
 ·have hk:=GRing.ok_kind hr h6;have h:=z3v ⟨hk.1,hk.2.1⟩;rw[hk.2.2];exact⟨⟨hr,fun _=>h.1,fun h'=>absurd h' h6⟩,⟨h.2,fun x hx=>by rw[show(oneW r.kind ([].map fun k=>oneW k [])).parts=[] from h.1.1]at hx;cases hx⟩⟩
def endM(r:GRing)(l:List Int)(i:Nat)(one:Int):GW:=if h:i<l.length then zkq r l[i]else if (i:Int)=one then r.one else r.zero
theorem z6s{r:GRing}(hr:r.ok=true):r.zero.mb 0:=by unfold GRing.zero;rw[yl0 hr];refine⟨zr3 ..,fun x hx=>?_⟩;obtain⟨k,_,rfl⟩:=yl6.1 hx;exact zk0 ..
theorem ya2(r:GRing)(hr:r.ok=true)(l:List Int)(i:Nat)(one:Int):Sp P F.fy [enc r,.sl (ens l),.int .i64 i,.int .i64 one] (.pure (enc (endM r l i one))):=by
 refine Sp.vz c.fy fun _=>?_;simp[g.fy,go_sem];refine⟨fun h=>zae h ?_,fun h=>⟨fun h2=>?_,fun h2=>?_⟩⟩
 ·refine zab (zo6 r hr l[i]) ?_;simp[go_sem,endM,h]
 ·refine zab (z3x r) ?_;simp[go_sem,endM,h2,show ¬ i<l.length by omega]
 ·refine zab (zgi r) ?_;simp[go_sem,endM,h2,show ¬ i<l.length by omega]
structure GModel where
 st:Int
 ini:List Int
 fin:List Int
 arcs:List Int
 em:Bool
instance:Enc GModel:=⟨fun x=>.agg [.int .i64 x.st,.sl (ens x.ini),.sl (ens x.fin),.sl (ens x.arcs),.bool x.em],5,by decide,fun _=>rfl⟩
@[go_sem] theorem ygz(x:GModel):enc x=.agg [.int .i64 x.st,.sl (ens x.ini),.sl (ens x.fin),.sl (ens x.arcs),.bool x.em]:=rfl
@[go_sem] theorem ydn:Enc.sz GModel=5:=rfl
def numN(m:GModel)(s:Int):Int:=1+IntKind.i64.wrap (m.st - 1) % s
def quoI(a b:Int):Int:=IntKind.i64.wrap (a.tdiv b)
def arcM(m:GModel)(r:GRing)(i o n a b c d:Int):GTArc:=⟨a % n,if m.em=true then b % (i+1)else 1+b % i,if m.em=true then quoI b (i+1) % (o+1)else 1+quoI b i % o,c % n,zkq r d⟩
def zlx(m:GModel)(r:GRing)(i o n:Int)(k:Nat):List GTArc:=(List.range k).map fun j=>arcM m r i o n (m.arcs.getD (4*j) 0) (m.arcs.getD (4*j+1) 0) (m.arcs.getD (4*j+2) 0) (m.arcs.getD (4*j+3) 0)
def zfv(r:GRing)(l:List Int)(one:Int)(k:Nat):List GW:=(List.range k).map fun j=>endM r l j one
def zmp(m:GModel)(r:GRing)(i o s:Int):GTrans:=⟨r,i,o,numN m s,zfv r m.ini 0 (numN m s).toNat,zfv r m.fin (numN m s - 1) (numN m s).toNat,zlx m r i o (numN m s) (min 7 (m.arcs.length / 4))⟩
theorem z0o(r:GRing)(l:List Int)(one:Int)(k:Nat):zfv r l one (k+1)=zfv r l one k++[endM r l k one]:=by unfold zfv;rw[ynj,yn0];rfl
theorem ze8(r:GRing)(l:List Int)(one:Int)(k:Nat):(zfv r l one k).length=k:=by simp[zfv]
theorem zkc(m:GModel)(r:GRing)(i o n:Int)(k:Nat):(zlx m r i o n k).length=k:=by simp[zlx]
theorem z08(m:GModel)(r:GRing)(i o n:Int)(k:Nat)(h:4*k+3<m.arcs.length):zlx m r i o n (k+1)=zlx m r i o n k++[arcM m r i o n m.arcs[4*k] m.arcs[4*k+1] m.arcs[4*k+2] m.arcs[4*k+3]]:=by unfold zlx;rw[ynj,yn0];simp[ylt (show 4*k<m.arcs.length by omega),ylt (show 4*k+1<m.arcs.length by omega),ylt (show 4*k+2<m.arcs.length by omega),ylt h]
theorem z6x(m:GModel)(r:GRing)(i o s:Int)(hr:r.ok=true)(hi:1<=i/\i<=32)(ho:1<=o/\o<=32)(hs:1<=s/\s<=64):Sp P F.jn [enc m,enc r,.int .i64 i,.int .i64 o,.int .i64 s] (.pure (enc (zmp m r i o s))):=by
 have hn:1<=numN m s/\numN m s<=s:=by have h1:=you (IntKind.i64.wrap (m.st - 1)) (show s≠0 by omega);have h2:=yov (IntKind.i64.wrap (m.st - 1)) (show 0<s by omega);unfold numN;omega
 have e0:IntKind.i64.wrap (1+IntKind.i64.wrap (m.st - 1) % s)=numN m s:=i64w (by unfold numN at hn;omega) (by unfold numN at hn;omega);have hT:zmp m r i o s=⟨r,i,o,numN m s,zfv r m.ini 0 (numN m s).toNat,zfv r m.fin (numN m s - 1) (numN m s).toNat,zlx m r i o (numN m s) (min 7 (m.arcs.length / 4))⟩:=rfl;refine Sp.vz c.jn fun _=>?_;simp[g.jn,go_sem];refine zab (zc8 (IntKind.i64.wrap (m.st - 1)) s (by omega) (by omega)) ?_;simp[go_sem,e0];generalize numN m s=n at *
 obtain⟨nn,rfl⟩:∃ nn:Nat,n=nn:=⟨n.toNat,by omega⟩;have e5:IntKind.i64.wrap ((nn:Int) - 1)=(nn:Int) - 1:=i64w (by omega) (by omega)
 refine zai (S:=fun k:Nat=>mkSt [(2,.p (.int .i64 i)),(3,.p (.int .i64 o)),(5,.ptr 5 0 0 0),(6,.ptr 6 0 0 0),(10,.ptr 10 0 0 0),(11,.p (.int .i64 nn)),(12,.ptr 12 0 0 0),(13,.p (.int .i64 k))]
   [(5,⟨5,[.p (enc m)]⟩),(6,⟨2,[.p (enc r)]⟩),(10,⟨8,[.agg [.p (.int .i64 0),.nil,.p (.int .i64 0),.p (.int .i64 0),.p (.int .i64 0),.nil,.nil,.nil]]⟩),
    (12,⟨8,[.agg [.p (.int .i64 r.kind),.p (.sl (ens r.parts)),.p (.int .i64 i),.p (.int .i64 o),.p (.int .i64 nn),.own 1 0 0 k,.own 2 0 0 k,.nil]]⟩),(1,⟨8,avs (zfv r m.ini 0 k)⟩),(2,⟨8,avs (zfv r m.fin (nn - 1) k)⟩)])
  (I:=fun k=>k<=nn) (m:=fun k=>nn - k) 0
  ((Weak.nilCell (s0:=12) (g0:=0) (i:=5) (s:=77) (sz:=8) rfl).trans ((Weak.nilCell (s0:=12) (g0:=0) (i:=6) (s:=78) (sz:=8) rfl).trans (Weak.to [2,3,5,6,10,11,12,13] [((5,0),5),((6,0),6),((10,0),10),((12,0),12),((77,0),1),((78,0),2)] (by simp[go_sem,zfv])))) (by omega) ?_
 rintro k h1 R hn' hr' hx;have e1:=i64s k (by omega);simp[g.p9,mkSt,go_sem];refine⟨fun hk=>?_,fun hk=>hx _ _ ?_⟩
 ·refine zab (ya2 r hr m.ini k 0) ?_;simp[go_sem,e5,ze8];refine⟨by omega,?_⟩;refine zab (ya2 r hr m.fin k (nn - 1)) ?_;simp[go_sem,e1,ze8];refine⟨by omega,?_⟩;exact hn' (k+1) _ (Weak.to [2,3,5,6,10,11,12,13] [((5,0),5),((6,0),6),((10,0),10),((12,0),12),((40,0),1),((52,0),2)] (by simp[go_sem,mkSt,z0o])) (by omega) (by omega)
 ·obtain rfl:nn=k:=by omega
  simp[go_sem];generalize hJ:min 7 (m.arcs.length / 4)=J at *
  refine zai (S:=fun j:Nat=>mkSt [(2,.p (.int .i64 i)),(3,.p (.int .i64 o)),(5,.ptr 5 0 0 0),(6,.ptr 6 0 0 0),(10,.ptr 10 0 0 0),(11,.p (.int .i64 nn)),(12,.ptr 12 0 0 0),(14,.p (.int .i64 (4*(j:Int))))]
    [(5,⟨5,[.p (enc m)]⟩),(6,⟨2,[.p (enc r)]⟩),(10,⟨8,[.agg [.p (.int .i64 0),.nil,.p (.int .i64 0),.p (.int .i64 0),.p (.int .i64 0),.nil,.nil,.nil]]⟩),
     (12,⟨8,[.agg [.p (.int .i64 r.kind),.p (.sl (ens r.parts)),.p (.int .i64 i),.p (.int .i64 o),.p (.int .i64 nn),.own 1 0 0 nn,.own 2 0 0 nn,.own 3 0 0 j]]⟩),(1,⟨8,avs (zfv r m.ini 0 nn)⟩),(2,⟨8,avs (zfv r m.fin (nn - 1) nn)⟩),(3,⟨12,avs (zlx m r i o nn j)⟩)])
   (I:=fun j=>j<=J) (m:=fun j=>J - j) 0
   ((Weak.nilCell (s0:=12) (g0:=0) (i:=7) (s:=77) (sz:=12) rfl).trans (Weak.to [2,3,5,6,10,11,12,14] [((5,0),5),((6,0),6),((10,0),10),((12,0),12),((1,0),1),((2,0),2),((77,0),3)] (by simp[go_sem,zlx]))) (by omega) ?_
  rintro j h2 R2 hn2 hr2 hx2;have f1:IntKind.i64.wrap (4*(j:Int)+1)=4*(j:Int)+1:=i64w (by omega) (by omega);have f2:IntKind.i64.wrap (4*(j:Int)+2)=4*(j:Int)+2:=i64w (by omega) (by omega);have f3:IntKind.i64.wrap (4*(j:Int)+3)=4*(j:Int)+3:=i64w (by omega) (by omega);have f4:IntKind.i64.wrap (4*(j:Int)+4)=4*((j+1:Nat):Int):=by rw[i64w (by omega) (by omega)];omega
  have g0:(4*(j:Int)).toNat=4*j:=by omega
  have g1:(4*(j:Int)+1).toNat=4*j+1:=by omega
  have g2:(4*(j:Int)+2).toNat=4*j+2:=by omega
  have g3:(4*(j:Int)+3).toNat=4*j+3:=by omega
  have p0:0<=4*(j:Int):=by omega
  have p1:0<=4*(j:Int)+1:=by omega
  have p2:0<=4*(j:Int)+2:=by omega
  have p3:0<=4*(j:Int)+3:=by omega
  simp[g.qa,mkSt,go_sem,f3,f2,f1,g0,p0];refine⟨fun a1=>⟨fun a2=>?_,fun a2=>hx2 _ _ ?_⟩,fun a1=>hx2 _ _ ?_⟩
  ·have hj:4*j+3<m.arcs.length:=by omega
   have hsu:=z08 m r i o nn j hj;have hln:=zkc m r i o nn j;refine zae (by omega) ?_;refine zab (zc8 m.arcs[4*j] nn (by omega) (by omega)) ?_;simp[go_sem,f2,g2,p2];refine zae (by omega) ?_;refine zab (zc8 m.arcs[4*j+2] nn (by omega) (by omega)) ?_;simp[go_sem,f3,g3,p3];refine zae (by omega) ?_;refine zab (zo6 r hr m.arcs[4*j+3]) ?_;simp[go_sem,f1,g1,p1];refine zae (by omega) ?_;refine zab (zc8 m.arcs[4*j+1] i (by omega) (by omega)) ?_;have b1:=you m.arcs[4*j+1] (show i≠0 by omega);have b2:=yov m.arcs[4*j+1] (show 0<i by omega);have w1:IntKind.i64.wrap (1+m.arcs[4*j+1] % i)=1+m.arcs[4*j+1] % i:=i64w (by omega) (by omega);simp[go_sem,f1,g1,p1,w1];refine zae (by omega) ⟨by omega,?_⟩;refine zaa (zc8 (quoI m.arcs[4*j+1] i) o (by omega) (by omega)) (by simp[go_sem,quoI]) ?_;have c1:=you (quoI m.arcs[4*j+1] i) (show o≠0 by omega);have c2:=yov (quoI m.arcs[4*j+1] i) (show 0<o by omega);have w2:IntKind.i64.wrap (1+quoI m.arcs[4*j+1] i % o)=1+quoI m.arcs[4*j+1] i % o:=i64w (by omega) (by omega);simp[go_sem,w2];refine⟨fun hem=>?_,fun hem=>?_⟩
   ·have wi:IntKind.i64.wrap (i+1)=i+1:=i64w (by omega) (by omega);have wo:IntKind.i64.wrap (o+1)=o+1:=i64w (by omega) (by omega);simp[go_sem,f1,g1,p1,wi];refine zae (by omega) ?_;refine zab (zc8 m.arcs[4*j+1] (i+1) (by omega) (by omega)) ?_;simp[go_sem,f1,g1,p1,wi,wo];refine zae (by omega) ⟨by omega,?_⟩;refine zaa (zc8 (quoI m.arcs[4*j+1] (i+1)) (o+1) (by omega) (by omega)) (by simp[go_sem,quoI]) ?_;simp[go_sem,f4,hln];exact⟨by omega,hn2 (j+1) _ (Weak.to [2,3,5,6,10,11,12,14] [((5,0),5),((6,0),6),((10,0),10),((12,0),12),((1,0),1),((2,0),2),((141,0),3)] (by simp[go_sem,mkSt,hsu,arcM,hem])) (by omega) (by omega)⟩
   ·simp[go_sem,f4,hln];exact⟨by omega,hn2 (j+1) _ (Weak.to [2,3,5,6,10,11,12,14] [((5,0),5),((6,0),6),((10,0),10),((12,0),12),((1,0),1),((2,0),2),((141,0),3)] (by simp[go_sem,mkSt,hsu,arcM,hem])) (by omega) (by omega)⟩
  all_goals
   obtain rfl:j=J:=by omega
   have t1:(zfv r m.ini 0 nn).take nn=zfv r m.ini 0 nn:=ylv (by rw[ze8];omega);have t2:(zfv r m.fin (nn - 1) nn).take nn=zfv r m.fin (nn - 1) nn:=ylv (by rw[ze8];omega);have t3:(zlx m r i o nn j).take j=zlx m r i o nn j:=ylv (by rw[zkc];omega);simp[go_sem,hT,ze8,zkc,t1,t2,t3]
theorem z0h{α β : Type}{f : β -> α -> β}{Pb : β -> Prop}{Qa : α -> Prop}(hp:∀ b x,Pb b->Qa x->Pb (f b x))(hc:∀ b x y,Pb b->Qa x->Qa y->f (f b x) y=f (f b y) x){l l':List α}(h:l.Perm l') :
  (∀ x∈l,Qa x)->∀ b,Pb b->l.foldl f b=l'.foldl f b:=by
 induction h with
 | nil=>intro _ b _;rfl
 | cons x _ ih=>intro hq b hb;exact ih (fun y hy=>hq y (ym8 _ hy)) _ (hp b x hb (hq x ymq))
 | swap x y l=>intro hq b hb;simp only[yos];rw[hc b y x hb (hq y ymq) (hq x (ym8 _ ymq))]
 | trans h1 _ ih1 ih2=>intro hq b hb;rw[ih1 hq b hb,ih2 (fun y hy=>hq y (h1.mem_iff.2 hy)) b hb]
section
variable {r:GRing}
def ckL(r:GRing)(N:Nat)(l:List GW):Prop:=(∀ w∈l,w.chk r)/\l.length=N
theorem zj9{N:Nat}{l:List GW}(h:ckL r N l){i:Nat}(hi:i<N):(l.getD i r.zero).chk r:=by rw[ylr,ylt (by rw[h.2];exact hi)];exact h.1 _ (yl4 _)
theorem yd9{N:Nat}{b e:List GW}{x:GTArc}(hb:ckL r N b)(he:ckL r N e)(hw:x.w.chk r)(hx:x.fit N):ckL r N (addW r b x e):=by
 refine⟨fun w hw'=>?_,by rw[zze];exact hb.2⟩;obtain⟨⟨a1,a2⟩,a3,a4⟩:=hx;rcases ynp hw' with h|h
 ·exact hb.1 w h
 ·rw[h];exact zck (zj9 hb (by omega)) (za8 hw (zj9 he (by omega)))
theorem z6l{N:Nat}{b e e':List GW}{x y:GTArc}(hb:ckL r N b)(he:ckL r N e)(he':ckL r N e')(hwx:x.w.chk r)(hwy:y.w.chk r)(hx:x.fit N)(hy:y.fit N):addW r (addW r b x e) y e'=addW r (addW r b y e') x e:=by
 obtain⟨⟨a1,a2⟩,a3,a4⟩:=hx;obtain⟨⟨b1,b2⟩,b3,b4⟩:=hy;have c1:=za8 hwx (zj9 he (i:=x.t.toNat) (by omega));have c2:=za8 hwy (zj9 he' (i:=y.t.toNat) (by omega));have lb:=hb.2;unfold addW;generalize r.times x.w (e.getD x.t.toNat r.zero)=tx at *
 generalize r.times y.w (e'.getD y.t.toNat r.zero)=ty at *
 have hfx:x.f.toNat<b.length:=by omega
 have hfy:y.f.toNat<b.length:=by omega
 generalize x.f.toNat=i at *
 generalize y.f.toNat=j at *
 by_cases hij:i=j
 ·subst hij;have c0:(b.getD i r.zero).chk r:=zj9 hb (by omega);have g1:∀ v:GW,(b.set i v).getD i r.zero=v:=fun v=>by rw[ylr,ypd hfx];rfl
  rw[g1,g1,List.set_set,List.set_set,zdr c0 c1 c2,zdr c0 c2 c1,zhn c1 c2]
 ·have g1:∀ v:GW,(b.set i v).getD j r.zero=b.getD j r.zero:=fun v=>by rw[ylr,yor hij,<- List.getD_eq_getElem?_getD]
  have g2:∀ v:GW,(b.set j v).getD i r.zero=b.getD i r.zero:=fun v=>by rw[ylr,yor (ymc hij),<- List.getD_eq_getElem?_getD]
  rw[g1,g2,List.set_comm _ _ hij]
def okA(r:GRing)(N:Nat)(p:GTArc->Option (List GW))(x:GTArc):Prop:=x.w.chk r/\x.fit N/\∀ e,p x=some e->ckL r N e
theorem zw1{N:Nat}{p:GTArc->Option (List GW)}{b:List GW}{x:GTArc}(hb:ckL r N b)(hx:okA r N p x):ckL r N (accS r p b x):=by
 unfold accS;cases h:p x with
 | none=>exact hb
 | some e=>exact yd9 hb (hx.2.2 e h) hx.1 hx.2.1
theorem z6n{N:Nat}{p:GTArc->Option (List GW)}{b:List GW}{x y:GTArc}(hb:ckL r N b)(hx:okA r N p x)(hy:okA r N p y):accS r p (accS r p b x) y=accS r p (accS r p b y) x:=by
 unfold accS;cases h:p x with
 | none=>rfl
 | some e =>
  cases h':p y with
  | none=>rfl
  | some e'=>exact z6l hb (hx.2.2 e h) (hy.2.2 e' h') hx.1 hy.1 hx.2.1 hy.2.1
theorem zso{N:Nat}{p:GTArc->Option (List GW)}:∀ {l:List GTArc} {b:List GW},ckL r N b->(∀ x∈l,okA r N p x)->ckL r N (accW r p l b)
 | [],_,hb,_=>hb
 | x::l,b,hb,h=>zso (l:=l) (zw1 hb (h x ymq)) fun y hy=>h y (ym8 _ hy)
theorem zus{N:Nat}{p:GTArc->Option (List GW)}{l l':List GTArc}(hl:l.Perm l'){b:List GW}(hb:ckL r N b)(h:∀ x∈l,okA r N p x):accW r p l b=accW r p l' b :=
 z0h (Pb:=ckL r N) (Qa:=okA r N p) (fun _ _=>zw1) (fun _ _ _=>z6n) hl h b hb
theorem zsn{p q:GTArc->Option (List GW)}(f:GTArc->GTArc)(hf:∀ x,(f x).f=x.f/\(f x).t=x.t/\(f x).w=x.w):∀ {l:List GTArc} {b:List GW},(∀ x∈l,p (f x)=q x)->accW r p (l.map f) b=accW r q l b
 | [],_,_=>rfl
 | x::l,b,h=>by
  show accW r p (l.map f) (accS r p b (f x))=accW r q l (accS r q b x);have:accS r p b (f x)=accS r q b x:=by
   unfold accS;rw[h x ymq];cases q x with
   | none=>rfl
   | some e =>
    obtain⟨h1,h2,h3⟩:=hf x;simp only[addW,h1,h2,h3]
  rw[this];exact zsn f hf fun y hy=>h y (ym8 _ hy)
theorem z5i(x:GTArc):emF (swT x)=emF x:=by unfold emF swT;exact Bool.and_comm _ _
def zqk(r:GRing)(N:Nat)(l:List GTArc):Prop:=∀ x∈l,x.w.chk r/\x.fit N
theorem zvb{N:Nat}{l l':List GTArc}(hl:l'.Perm (l.map swT)){b:List GW}(hb:ckL r N b)(h:zqk r N l):∀ n,sprN r l' b n=sprN r l b n/\ckL r N (sprN r l b n)
 | 0=>⟨rfl,hb⟩
 | n+1=>by
  obtain⟨ih,ik⟩:=zvb hl hb h n;have hok:∀ x∈l,okA r N (zda (sprN r l b n)) x:=fun x hx=>⟨(h x hx).1,(h x hx).2,fun e he=>by
   unfold zda at he;split at he
   ·cases he;exact ik
   ·cases he⟩
  refine⟨?_,zso hb hok⟩;show accW r (zda (sprN r l' b n)) l' b=accW r (zda (sprN r l b n)) l b;rw[ih];have hok':∀ x∈l',okA r N (zda (sprN r l b n)) x:=fun x hx=>by
   obtain⟨y,hy,rfl⟩:=yl6.1 (hl.mem_iff.1 hx);refine⟨(h y hy).1,(h y hy).2,fun e he=>(hok y hy).2.2 e ?_⟩;unfold zda at he ⊢
   rwa[z5i]at he
  rw[zus hl hb hok'];exact zsn swT (fun _=>⟨rfl,rfl,rfl⟩) fun x _=>by unfold zda;rw[z5i]
theorem zxe(wx wy:List Int)(i k:Nat)(f g:Nat->Nat->List GW)(hfg:∀ a b,f b a=g a b)(x:GTArc):zct wy wx k i f (swT x)=zct wx wy i k g x:=by
 unfold zct;show(if 0<=nx x.o wy k/\0<=nx x.i wx i/\(k:Int)+i<nx x.o wy k+nx x.i wx i then _ else _)=_;by_cases h:0<=nx x.i wx i/\0<=nx x.o wy k/\(i:Int)+k<nx x.i wx i+nx x.o wy k
 ·rw[yl0 h,yl0 ⟨h.2.1,h.1,by omega⟩];exact congrArg some (hfg _ _)
 ·rw[yl1 h,yl1 fun h'=>h ⟨h'.2.1,h'.1,by omega⟩]
structure swap (t u:GTrans):Prop where
 ring:u.ring=t.ring
 st:u.st=t.st
 ini:u.ini=t.ini
 fin:u.fin=t.fin
 arcs:u.arcs.Perm (t.arcs.map swT)
structure ckT (r:GRing) (t:GTrans):Prop where
 ring:t.ring=r
 rok:r.ok=true
 fin:ckL r t.st.toNat t.fin
 arcs:zqk r t.st.toNat t.arcs
theorem zy8{t:GTrans}(ht:ckT r t)(wx wy:List Int)(i k:Nat):ckL r t.st.toNat (zev t wx wy i k):=by
 unfold zev;split
 ·exact ht.fin
 ·rw[ht.ring];exact⟨fun w hw=>by rw[ypy hw];exact zbr ht.rok,by simp⟩
theorem zu4{t u:GTrans}(ht:ckT r t)(hs:swap t u)(wx wy:List Int):∀ (n i k:Nat),i<=wx.length->k<=wy.length->wx.length - i+(wy.length - k)<n->valW u wy wx n k i=valW t wx wy n i k/\ckL r t.st.toNat (valW t wx wy n i k)
 | 0,_,_,_,_,h=>by omega
 | n+1,i,k,hi,hk,hn=>by
  have hr:=ht.ring;show zgf u wy wx k i (valW u wy wx n)=zgf t wx wy i k (valW t wx wy n)/\ckL r t.st.toNat (zgf t wx wy i k (valW t wx wy n));have hcong:zgf u wy wx k i (valW u wy wx n)=zgf u wy wx k i (fun b a=>valW t wx wy n a b):=zi2 hk hi fun b a h1 h2 h3 h4 h5=>(zu4 ht hs wx wy n a b h4 h3 (by omega)).1;rw[hcong];have hb:=zy8 ht wx wy i k;have hbe:zev u wy wx k i=zev t wx wy i k:=by
   unfold zev;rw[hs.ring,hs.st,hs.fin];by_cases h:i=wx.length/\k=wy.length
   ·rw[yl0 h,yl0 ⟨h.2,h.1⟩]
   ·rw[yl1 h,yl1 fun h'=>h ⟨h'.2,h'.1⟩]
  have hok:∀ x∈t.arcs,okA r t.st.toNat (zct wx wy i k (valW t wx wy n)) x:=fun x hx=>⟨(ht.arcs x hx).1,(ht.arcs x hx).2,fun e he=>by
   obtain⟨a,b,h1,h2,h3,h4,h5,h6,h7,h8,h9,rfl⟩:=zew hi hk he;exact(zu4 ht hs wx wy n a b h7 h8 (by omega)).2⟩
  have hok':∀ x∈u.arcs,okA r t.st.toNat (zct wy wx k i fun b a=>valW t wx wy n a b) x:=fun x hx=>by obtain⟨y,hy,rfl⟩:=yl6.1 (hs.arcs.mem_iff.1 hx);exact⟨(hok y hy).1,(hok y hy).2.1,fun e he=>(hok y hy).2.2 e (by rwa[zxe wx wy i k _ (valW t wx wy n) fun _ _=>rfl]at he)⟩
  have hrow:rowW u wy wx k i (fun b a=>valW t wx wy n a b)=rowW t wx wy i k (valW t wx wy n):=by unfold rowW;rw[hbe,hs.ring,hr,zus hs.arcs hb hok'];exact zsn swT (fun _=>⟨rfl,rfl,rfl⟩) fun x _=>zxe wx wy i k _ _ (fun _ _=>rfl) x
  have hrc:ckL r t.st.toNat (rowW t wx wy i k (valW t wx wy n)):=by unfold rowW;rw[hr];exact zso hb hok
  unfold zgf;rw[hrow,hs.ring,hs.st,hr];exact zvb hs.arcs hrc ht.arcs _
end
section
variable {α : Type} {key : α -> List Int} {wt : α -> GW} {r:GRing}
end
end Go.Ab
