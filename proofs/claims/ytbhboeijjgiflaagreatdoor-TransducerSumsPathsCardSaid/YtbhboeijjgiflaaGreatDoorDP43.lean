/-
Proofs for the law TransducerSumsPaths, part 43. Conditions: none.
-/
import Derived.Test.YtbhboeijjgiflaaGreatDoorDP42
import Derived.Test.YtbhboeijjgiflaaGreatDoorDP41
import Derived.Test.YtbhboeijjgiflaaGreatDoorDP38
set_option maxRecDepth 100000
set_option maxHeartbeats 4000000
set_option linter.all false
namespace Go.Ab
open Enc (enc)
attribute [local go_sem] zal Opd.slots
theorem yho:g.ny=.seq (.reg [⟨some 28,.ibin .lss (.t 27) (.t 26),none⟩] []) flC6:=rfl
theorem yhn:g.n1=.seq (.reg [⟨some 17,.ibin .lss (.t 16) (.t 15),none⟩] []) flD6:=rfl
theorem yhm:g.jm=.seq (.reg [⟨some 11,.mv (.t 0),none⟩,⟨some 12,.nilck (.t 11),none⟩,⟨some 13,.faddr 10 (.t 12),none⟩,⟨some 14,.load 1 false (.t 13),none⟩,⟨some 15,.len (.t 14),none⟩,⟨some 16,.mv (.c (.p (.int .i64 0))),none⟩] [[],[11],[12],[13],[14]]) flE1:=rfl
structure fillOk (t:GTrans) (M:Meas t.ring) (c:Nat):Prop where
 hr:t.ring.ok=true
 ck:ckT t.ring t
 mp:MeasP M
 hA:∀ x∈t.arcs,x.w.chk t.ring/\M.mb c x.w
 lab:∀ x∈t.arcs,(0<=x.i/\x.i<=64)/\0<=x.o/\x.o<=64
 al:t.arcs.length<=1000
 lim:M.lim<=1000000
section
variable {t:GTrans} {M:Meas t.ring} {c:Nat} (fo:fillOk t M c) {wx wy:List Int}
include fo
theorem z5g{i k q B:Nat}{T:List (List GW)}{w:GW}(hi:i<=wx.length)(hk:k<=wy.length)(h:zci t.ring (plN wx wy) t.st.toNat T)(hv:vbT M B T)(hw:w.chk t.ring/\M.mb B w)(x:Nat)(hx:x<=t.arcs.length) :
  zci t.ring (plN wx wy) t.st.toNat ((t.arcs.take x).foldl (arT t.ring wx wy i k q w) T)/\vbT M (B+c+1+x) ((t.arcs.take x).foldl (arT t.ring wx wy i k q w) T):=by
 refine⟨(zww fo.hr fo.ck hi hk (q:=q) hw.1 (fun _ _=>(srG t.ring fo.hr).z) (fun y hy=>yn2 hy) h).1,?_⟩;have:=z6r (wx:=wx) (wy:=wy) (i:=i) (k:=k) (q:=q) fo.hr hw (l:=t.arcs.take x) (b:=B+c+1) (T:=T) (fun y hy=>fo.hA y (yn2 hy)) (ym8 _) (hv.mono (by omega))
 rwa[yns,yod hx]at this
theorem yd0{i k q B:Nat}{T:List (List GW)}{w:GW}(hi:i<=wx.length)(hk:k<=wy.length)(h:zci t.ring (plN wx wy) t.st.toNat T)(hv:vbT M B T)(hw:w.chk t.ring/\M.mb B w)(hl:B+sLv c t.arcs<=M.lim)(x:Nat)(hx:x<t.arcs.length) :
  plOk t wx wy (wx.length+1) (wy.length+1) t.st.toNat i k q w ((t.arcs.take x).foldl (arT t.ring wx wy i k q w) T) t.arcs[x]:=by
 obtain⟨k1,k2⟩:=z5g fo hi hk h hv hw (q:=q) x (by omega);generalize (t.arcs.take x).foldl (arT t.ring wx wy i k q w) T=Tx at *
 have hm:=ym3 hx;have hax:=fo.hA _ hm;unfold sLv at hl;refine⟨k1.1,fun l hl=>(k1.2 l hl).2,(fo.ck.arcs _ hm).2,(fo.lab _ hm).1,(fo.lab _ hm).2,fun _ hf=>?_,?_,fun p=>?_⟩
 ·have:=zug hf hi hk;omega
 ·exact fo.mp.timesP (n:=B+c) (by omega) hw.1 hax.1 (M.mono hw.2 (by omega)) (M.mono hax.2 (by omega))
 ·have g:=k2.at fo.hr p t.arcs[x].t.toNat;exact fo.mp.plusP (n:=B+c+1+x) (by omega) g.1 (za9 hw.1 hax.1) g.2 (M.mono (M.times hw.1 hax.1 hw.2 hax.2) (by omega))
theorem yf7{i k q B:Nat}{T:List (List GW)}(hi:i<=wx.length)(hk:k<=wy.length)(h:zci t.ring (plN wx wy) t.st.toNat T)(hv:vbT M B T) :
  zci t.ring (plN wx wy) t.st.toNat (stT t.ring wx wy t.arcs i k T q)/\vbT M (B+sLv c t.arcs) (stT t.ring wx wy t.arcs i k T q):=by
 refine⟨?_,yf6 fo.hr fo.hA hv⟩;unfold stT;split
 ·exact h
 ·have:=(z5g fo hi hk h hv (q:=q) (hv.at fo.hr (i*(wy.length+1)+k) q) t.arcs.length (ym8 _)).1
  rwa[yn1]at this
theorem z3t{i k:Nat}(hi:i<=wx.length)(hk:k<=wy.length):∀ {ord:List Nat} {B:Nat} {T:List (List GW)},zci t.ring (plN wx wy) t.st.toNat T->vbT M B T ->
  zci t.ring (plN wx wy) t.st.toNat (plT t.ring wx wy t.arcs ord i k T)/\vbT M (B+ord.length*sLv c t.arcs) (plT t.ring wx wy t.arcs ord i k T)
 | [],B,T,h,hv=>⟨h,hv.mono (by omega)⟩
 | q::ord,B,T,h,hv=>by have s1:=yf7 fo hi hk (q:=q) h hv;have s2:=z3t hi hk (ord:=ord) s1.1 s1.2;refine⟨s2.1,s2.2.mono ?_⟩;rw[yo8,yne];omega
theorem z2p{ord:List Nat}{i B:Nat}{T:List (List GW)}(hi:i<=wx.length)(h:zci t.ring (plN wx wy) t.st.toNat T)(hv:vbT M B T):∀ n,n<=wy.length+1 ->
  zci t.ring (plN wx wy) t.st.toNat (rwT t.ring wx wy t.arcs ord i T n)/\vbT M (B+n*(ord.length*sLv c t.arcs)) (rwT t.ring wx wy t.arcs ord i T n)
 | 0,_=>⟨h,hv.mono (by omega)⟩
 | n+1,hn=>by
  have e:rwT t.ring wx wy t.arcs ord i T (n+1)=plT t.ring wx wy t.arcs ord i n (rwT t.ring wx wy t.arcs ord i T n):=by unfold rwT;rw[yoi,ynn];rfl
  have s1:=z2p (ord:=ord) hi h hv n (by omega);have s2:=z3t fo hi (show n<=wy.length by omega) (ord:=ord) s1.1 s1.2;rw[e];exact⟨s2.1,s2.2.mono (by rw[yne];omega)⟩
theorem z5j{ord:List Nat}{B:Nat}{T:List (List GW)}(h:zci t.ring (plN wx wy) t.st.toNat T)(hv:vbT M B T):∀ n,n<=wx.length+1 ->
  zci t.ring (plN wx wy) t.st.toNat (flT t.ring wx wy t.arcs ord T n)/\vbT M (B+n*((wy.length+1)*(ord.length*sLv c t.arcs))) (flT t.ring wx wy t.arcs ord T n)
 | 0,_=>⟨h,hv.mono (by omega)⟩
 | n+1,hn=>by
  have e:flT t.ring wx wy t.arcs ord T (n+1)=rwT t.ring wx wy t.arcs ord n (flT t.ring wx wy t.arcs ord T n) (wy.length+1):=by unfold flT;rw[yoi,ynn];rfl
  have s1:=z5j (ord:=ord) h hv n (by omega);have s2:=z2p fo (show n<=wx.length by omega) (ord:=ord) s1.1 s1.2 (wy.length+1) (ym8 _);rw[e];exact⟨s2.1,s2.2.mono (by generalize (wy.length+1)*(ord.length*sLv c t.arcs)=Y;rw[yne];omega)⟩
end
theorem f1_3(t:GTrans)(wx wy:List Int)(I J N:Nat)(T:List (List GW))(ord:List Nat)(i k idx q:Nat)(w:GW)(x:Nat):Weak (f1S t wx wy I J N T (toI ord) i k idx q w x) (f3S t wx wy I J N T ord i k idx):=by refine Weak.toF [0,1,4,5,15,16,26,27,30,31,32] [900000,900001,900002,900003] [] ?_;simp[go_sem,f1S,f3S,hpT,tabV,zdr];exact zas I J N T
theorem f6_3(t:GTrans)(wx wy:List Int)(I J N:Nat)(T:List (List GW))(ord:List Nat)(i k idx q:Nat)(w:GW):Weak (f6S t wx wy I J N T ord i k idx q w) (f3S t wx wy I J N T ord i k idx):=by refine Weak.toF [0,1,4,5,15,16,26,27,30,31,32] [900000,900001,900002,900003] [] ?_;simp[go_sem,f6S,f3S,hpT,tabV,zdr];exact zas I J N T
section
variable {t:GTrans} {M:Meas t.ring} {c:Nat} (fo:fillOk t M c) {wx wy:List Int} {I J N:Nat} (hI:I=wx.length+1) (hJ:J=wy.length+1) (hN:N=t.st.toNat) (lI:I<=1000) (lJ:J<=1000)
include fo hI hJ hN lI lJ
theorem yd5{i k idx q B:Nat}{T:List (List GW)}{ord:List Nat}(hi:i<I)(hk:k<J)(hx:idx<ord.length)(hq:ord[idx]=q)(hqN:q<N)(h:zci t.ring (plN wx wy) t.st.toNat T)(hv:vbT M B T)(hl:B+sLv c t.arcs<=M.lim)(A:FA)(R:Exit->St->Option FA->Prop)
  (hn:∀ ex,ex=.normal\/ex=.exit 5->∀ s,Weak s (f3S t wx wy I J N (stT t.ring wx wy t.arcs i k T q) ord i k idx)->R ex s (some A)) :
  MR P 104 flB6.er (f3S t wx wy I J N T ord i k idx) (some A) R:=by
 have hlen:T.length=I*J:=by rw[h.1,hI,hJ]
 have hrow:∀ l∈T,l.length=N:=fun l hl=>by rw[(h.2 l hl).2,hN]
 have hwv:=hv.at fo.hr (i*J+k) q;have hst:stT t.ring wx wy t.arcs i k T q=if (T.getD (i*J+k) []).getD q t.ring.zero=t.ring.zero then T else t.arcs.foldl (arT t.ring wx wy i k q ((T.getD (i*J+k) []).getD q t.ring.zero)) T:=by unfold stT;rw[hJ]
 rw[hst]at hn;refine f3_a t wx wy I J N T ord i k idx A R hx fun s hw=>MR.weak hw ?_;rw[hq];refine f3_b t wx wy I J N T ord i k idx A R hi hk hlen hrow hqN fun s hw=>MR.weak hw ?_;generalize (T.getD (i*J+k) []).getD q t.ring.zero=w at *
 refine f3_c t wx wy I J N T ord i k idx A R ((fo.mp.smP (by unfold sLv at hl;omega) hwv.1 hwv.2).mono (by omega)) (fun hz s hw=>?_) (fun hz s hw=>MR.weak hw ?_)
 ·rw[ym0 hz]at hn;exact hn _ (.inr rfl) s (hw.trans (f6_3 _ _ _ _ _ _ _ _ _ _ _ _ _))
 ·rw[ym1 hz]at hn;refine f3_d t wx wy I J N T ord i k idx A R hJ lI lJ fo.al (fun x hx=>?_) fun s hw=>hn _ (.inl rfl) s (hw.trans (f1_3 _ _ _ _ _ _ _ _ _ _ _ _ _ _));subst hI hJ hN;exact yd0 fo (by omega) (by omega) h hv hwv hl x hx
theorem yd6{i k B:Nat}{T:List (List GW)}{ord:List Nat}(hi:i<I)(hk:k<J)(ho:∀ q∈ord,q<N)(ol:ord.length<=1000)(h:zci t.ring (plN wx wy) t.st.toNat T)(hv:vbT M B T)(hl:B+ord.length*sLv c t.arcs<=M.lim)(A:FA){s:St}(hw:Weak s (f3S t wx wy I J N T ord i k 0)) :
  MR P 104 (GC.loop g.nt).er s (some A) fun ex s B=>ex=.exit 4/\B=some A/\Weak s (f3S t wx wy I J N (plT t.ring wx wy t.arcs ord i k T) ord i k ord.length):=by
 refine MR.gloop (I:=fun n s B=>∃ x,x<=ord.length/\n=ord.length - x/\Weak s (f3S t wx wy I J N (plT t.ring wx wy t.arcs (ord.take x) i k T) ord i k x)/\B=some A) ord.length ⟨0,by omega,by omega,hw,rfl⟩ ?_;rintro n0 s B ⟨x,hx,rfl,hw,rfl⟩;refine MR.weak hw ?_;generalize hR:(fun(ex:Exit) (s:St) (B:Option FA)=>(ex=.normal->∃ m,m<ord.length - x/\∃ x,x<=ord.length/\m=ord.length - x/\Weak s (f3S t wx wy I J N (plT t.ring wx wy t.arcs (ord.take x) i k T) ord i k x)/\B=some A)/\(ex ≠ .normal->ex=.exit 4/\B=some A/\Weak s (f3S t wx wy I J N (plT t.ring wx wy t.arcs ord i k T) ord i k ord.length)))=R;have hst:∀ h:x<ord.length,plT t.ring wx wy t.arcs (ord.take (x+1)) i k T=stT t.ring wx wy t.arcs i k (plT t.ring wx wy t.arcs (ord.take x) i k T) ord[x]:=fun h=>by unfold plT;rw[ymr h,ynn];rfl
 have r1:∀ h:x<ord.length,∀ s,Weak s (f3S t wx wy I J N (stT t.ring wx wy t.arcs i k (plT t.ring wx wy t.arcs (ord.take x) i k T) ord[x]) ord i k (x+1))->R .normal s (some A):=fun h s hw=>by subst hR;rw[<- hst h]at hw;exact⟨fun _=>⟨ord.length - (x+1),by omega,x+1,by omega,rfl,hw,rfl⟩,fun h=>absurd rfl h⟩
 have r2:x=ord.length->∀ s,Weak s (f3S t wx wy I J N (plT t.ring wx wy t.arcs (ord.take x) i k T) ord i k x)->R (.exit 4) s (some A):=fun h s hw=>by subst hR;refine⟨fun h=>(by cases h),fun _=>⟨rfl,rfl,?_⟩⟩;rw[h,yn1]at hw;exact hw
 clear hR hw hst;obtain⟨k1,k2⟩:=z3t fo (i:=i) (k:=k) (by omega) (by omega) (ord:=ord.take x) h hv;rw[yns,yod hx]at k2;generalize plT t.ring wx wy t.arcs (ord.take x) i k T=Tx at *
 rw[yhp];unfold flB9 flB8;by_cases hlt:x<ord.length
 ·have r3:=r1 hlt;clear r1 r2;have e1:=i64s x (by omega);have hlx:B+x*sLv c t.arcs+sLv c t.arcs<=M.lim:=by have:=ymu (sLv c t.arcs) (yqd hlt);rw[yne]at this;omega
  have hA:MR P 104 flB6.er (f3S t wx wy I J N Tx ord i k x) (some A) fun ex s B=>(exB 5 ex=.normal->MR P 104 flB7.er s B R)/\(exB 5 ex ≠ .normal->R (exB 5 ex) s B):=by
   refine yd5 fo hI hJ hN lI lJ hi hk hlt rfl (ho _ (ym3 hlt)) k1 k2 hlx A _ fun ex hex s hw=>?_;have he:exB 5 ex=.normal:=by rcases hex with rfl|rfl<;>rfl
   refine⟨fun _=>MR.weak hw (MR.of_vm ?_),fun h=>absurd he h⟩;simp[flB7,f3S,go_sem,hpT,tabV,e1];refine r3 _ (Weak.toF [0,1,4,5,15,16,26,27,30,31,32] [900000,900001,900002,900003] [] ?_);simp[go_sem,f3S,hpT,tabV];exact zas I J N _
  refine MR.gseq ?_;generalize flB6=FA0 at *
  simp[f3S,go_sem,hlt];refine MR.gseq' (MR.gcond (t:=true) (by simp[go_sem,hlt]) (fun _=>MR.gnop ⟨fun _=>?_,fun h=>absurd rfl h⟩) (fun h=>(by cases h)));refine MR.gseq' (MR.gblk ?_);refine MR.weak ?_ hA;refine Weak.toF [0,1,4,5,15,16,26,27,30,31,32] [900000,900001,900002,900003] [] ?_;simp[go_sem,f3S,hpT,tabV];exact zas I J N Tx
 ·have hx':x=ord.length:=by omega
  have r3:=r2 hx';clear r1 r2;refine MR.gseq ?_;generalize flB6=FA0 at *
  generalize flB7=FZ0 at *
  simp[f3S,go_sem,hlt];refine MR.gseq' (MR.gcond (t:=false) (by simp[go_sem,hlt]) (fun h=>(by cases h)) (fun _=>MR.gext ⟨fun h=>(by cases h),fun _=>r3 _ ?_⟩));refine Weak.toF [0,1,4,5,15,16,26,27,30,31,32] [900000,900001,900002,900003] [] ?_;simp[go_sem,f3S,hpT,tabV];exact zas I J N Tx
end
def f7S(t:GTrans)(wx wy:List Int)(I J N:Nat)(T:List (List GW))(ord:List Nat)(i k:Nat):St :=
 ⟨[(0,.ptr 900000 0 0 0),(1,.p (.sl (ens (toI ord)))),(4,.p (.int .i64 i)),(15,.p (.int .i64 I)),(16,.p (.int .i64 i)),(26,.p (.int .i64 J)),(27,.p (.int .i64 k))],hpT t wx wy I J N T++[(DEAD,[none])]⟩
def f8S(t:GTrans)(wx wy:List Int)(I J N:Nat)(T:List (List GW))(ord:List Nat)(i:Nat):St :=
 ⟨[(0,.ptr 900000 0 0 0),(1,.p (.sl (ens (toI ord)))),(15,.p (.int .i64 I)),(16,.p (.int .i64 i))],hpT t wx wy I J N T++[(DEAD,[none])]⟩
theorem f3_7(t:GTrans)(wx wy:List Int)(I J N:Nat)(T:List (List GW))(ord:List Nat)(i k idx:Nat):Weak (f3S t wx wy I J N T ord i k idx) (f7S t wx wy I J N T ord i k):=by refine Weak.toF [0,1,4,15,16,26,27] [900000,900001,900002,900003] [] ?_;simp[go_sem,f3S,f7S,hpT,tabV,zdr];exact zas I J N T
theorem f7_8(t:GTrans)(wx wy:List Int)(I J N:Nat)(T:List (List GW))(ord:List Nat)(i k:Nat):Weak (f7S t wx wy I J N T ord i k) (f8S t wx wy I J N T ord i):=by refine Weak.toF [0,1,15,16] [900000,900001,900002,900003] [] ?_;simp[go_sem,f7S,f8S,hpT,tabV,zdr];exact zas I J N T
section
variable {t:GTrans} {M:Meas t.ring} {c:Nat} (fo:fillOk t M c) {wx wy:List Int} {I J N:Nat} (hI:I=wx.length+1) (hJ:J=wy.length+1) (hN:N=t.st.toNat) (lI:I<=1000) (lJ:J<=1000)
include fo hI hJ hN lI lJ
theorem yd4{i B:Nat}{T:List (List GW)}{ord:List Nat}(hi:i<I)(ho:∀ q∈ord,q<N)(ol:ord.length<=1000)(h:zci t.ring (plN wx wy) t.st.toNat T)(hv:vbT M B T)(hl:B+J*(ord.length*sLv c t.arcs)<=M.lim)(A:FA){s:St}(hw:Weak s (f7S t wx wy I J N T ord i 0)) :
  MR P 104 (GC.loop g.ny).er s (some A) fun ex s B=>ex=.exit 2/\B=some A/\Weak s (f7S t wx wy I J N (rwT t.ring wx wy t.arcs ord i T J) ord i J):=by
 refine MR.gloop (I:=fun n s B=>∃ x,x<=J/\n=J - x/\Weak s (f7S t wx wy I J N (rwT t.ring wx wy t.arcs ord i T x) ord i x)/\B=some A) J ⟨0,by omega,by omega,hw,rfl⟩ ?_;rintro n0 s B ⟨x,hx,rfl,hw,rfl⟩;refine MR.weak hw ?_;generalize hR:(fun(ex:Exit) (s:St) (B:Option FA)=>(ex=.normal->∃ m,m<J - x/\∃ x,x<=J/\m=J - x/\Weak s (f7S t wx wy I J N (rwT t.ring wx wy t.arcs ord i T x) ord i x)/\B=some A)/\(ex ≠ .normal->ex=.exit 2/\B=some A/\Weak s (f7S t wx wy I J N (rwT t.ring wx wy t.arcs ord i T J) ord i J)))=R;have hst:rwT t.ring wx wy t.arcs ord i T (x+1)=plT t.ring wx wy t.arcs ord i x (rwT t.ring wx wy t.arcs ord i T x):=by unfold rwT;rw[yoi,ynn];rfl
 have r1:x<J->∀ s,Weak s (f7S t wx wy I J N (plT t.ring wx wy t.arcs ord i x (rwT t.ring wx wy t.arcs ord i T x)) ord i (x+1))->R .normal s (some A):=fun h s hw=>by subst hR;rw[<- hst]at hw;exact⟨fun _=>⟨J - (x+1),by omega,x+1,by omega,rfl,hw,rfl⟩,fun h=>absurd rfl h⟩
 have r2:x=J->∀ s,Weak s (f7S t wx wy I J N (rwT t.ring wx wy t.arcs ord i T x) ord i x)->R (.exit 2) s (some A):=fun h s hw=>by subst hR;refine⟨fun h=>(by cases h),fun _=>⟨rfl,rfl,?_⟩⟩;rw[h]at hw;exact hw
 clear hR hw hst;obtain⟨k1,k2⟩:=z2p fo (i:=i) (ord:=ord) (by omega) h hv x (by omega);generalize rwT t.ring wx wy t.arcs ord i T x=Tx at *
 rw[yho];unfold flC6 flC5;by_cases hlt:x<J
 ·have r3:=r1 hlt;clear r1 r2;have e1:=i64s x (by omega);have hlx:B+x*(ord.length*sLv c t.arcs)+ord.length*sLv c t.arcs<=M.lim:=by have:=ymu (ord.length*sLv c t.arcs) (yqd hlt);rw[yne]at this;omega
  have hloop:=fun(s:St) hw=>yd6 fo hI hJ hN lI lJ hi hlt ho ol k1 k2 hlx A (s:=s) hw;have hZ:∀ s,Weak s (f3S t wx wy I J N (plT t.ring wx wy t.arcs ord i x Tx) ord i x ord.length)->MR P 104 flC4.er s (some A) R:=fun s hw=>by refine MR.weak (hw.trans (f3_7 _ _ _ _ _ _ _ _ _ _ _)) (MR.of_vm ?_);simp[flC4,f7S,go_sem,hpT,tabV,e1];refine r3 _ (Weak.toF [0,1,4,15,16,26,27] [900000,900001,900002,900003] [] ?_);simp[go_sem,f7S,hpT,tabV];exact zas I J N _
  have hA:MR P 104 flC3.er (f7S t wx wy I J N Tx ord i x) (some A) fun ex s B=>(exB 3 ex=.normal->MR P 104 flC4.er s B R)/\(exB 3 ex ≠ .normal->R (exB 3 ex) s B):=by
   unfold flC3 flC2 flC1;generalize (GC.loop g.nt)=L at *
   refine MR.gseq ?_;generalize flC4=FC4 at *
   simp[f7S,go_sem,hpT,tabV];refine MR.gseq ?_;simp[go_sem,zdr];refine MR.gblk ((hloop _ (Weak.toF [0,1,4,5,15,16,26,27,30,31,32] [900000,900001,900002,900003] [] ?_)).mono ?_)
   ·simp[go_sem,f3S,hpT,tabV,zdr];exact zas I J N Tx
   ·rintro ex s B ⟨rfl,rfl,hw⟩;exact⟨fun _=>hZ s hw,fun h=>absurd rfl h⟩
  refine MR.gseq ?_;generalize flC3=FA0 at *
  simp[f7S,go_sem,hlt];refine MR.gseq' (MR.gcond (t:=true) (by simp[go_sem,hlt]) (fun _=>MR.gnop ⟨fun _=>?_,fun h=>absurd rfl h⟩) (fun h=>(by cases h)));refine MR.gseq' (MR.gblk ?_);refine MR.weak ?_ hA;refine Weak.toF [0,1,4,15,16,26,27] [900000,900001,900002,900003] [] ?_;simp[go_sem,f7S,hpT,tabV];exact zas I J N Tx
 ·have hx':x=J:=by omega
  have r3:=r2 hx';clear r1 r2;refine MR.gseq ?_;generalize flC3=FA0 at *
  generalize flC4=FZ0 at *
  simp[f7S,go_sem,hlt];refine MR.gseq' (MR.gcond (t:=false) (by simp[go_sem,hlt]) (fun h=>(by cases h)) (fun _=>MR.gext ⟨fun h=>(by cases h),fun _=>r3 _ ?_⟩));refine Weak.toF [0,1,4,15,16,26,27] [900000,900001,900002,900003] [] ?_;simp[go_sem,f7S,hpT,tabV];exact zas I J N Tx
theorem yd3{B:Nat}{T:List (List GW)}{ord:List Nat}(ho:∀ q∈ord,q<N)(ol:ord.length<=1000)(h:zci t.ring (plN wx wy) t.st.toNat T)(hv:vbT M B T)(hl:B+I*(J*(ord.length*sLv c t.arcs))<=M.lim)(A:FA){s:St}(hw:Weak s (f8S t wx wy I J N T ord 0)) :
  MR P 104 (GC.loop g.n1).er s (some A) fun ex s B=>ex=.exit 0/\B=some A/\Weak s (f8S t wx wy I J N (flT t.ring wx wy t.arcs ord T I) ord I):=by
 refine MR.gloop (I:=fun n s B=>∃ x,x<=I/\n=I - x/\Weak s (f8S t wx wy I J N (flT t.ring wx wy t.arcs ord T x) ord x)/\B=some A) I ⟨0,by omega,by omega,hw,rfl⟩ ?_;rintro n0 s B ⟨x,hx,rfl,hw,rfl⟩;refine MR.weak hw ?_;generalize hR:(fun(ex:Exit) (s:St) (B:Option FA)=>(ex=.normal->∃ m,m<I - x/\∃ x,x<=I/\m=I - x/\Weak s (f8S t wx wy I J N (flT t.ring wx wy t.arcs ord T x) ord x)/\B=some A)/\(ex ≠ .normal->ex=.exit 0/\B=some A/\Weak s (f8S t wx wy I J N (flT t.ring wx wy t.arcs ord T I) ord I)))=R;have hst:flT t.ring wx wy t.arcs ord T (x+1)=rwT t.ring wx wy t.arcs ord x (flT t.ring wx wy t.arcs ord T x) J:=by unfold flT;rw[yoi,ynn,hJ];rfl
 have r1:x<I->∀ s,Weak s (f8S t wx wy I J N (rwT t.ring wx wy t.arcs ord x (flT t.ring wx wy t.arcs ord T x) J) ord (x+1))->R .normal s (some A):=fun h s hw=>by subst hR;rw[<- hst]at hw;exact⟨fun _=>⟨I - (x+1),by omega,x+1,by omega,rfl,hw,rfl⟩,fun h=>absurd rfl h⟩
 have r2:x=I->∀ s,Weak s (f8S t wx wy I J N (flT t.ring wx wy t.arcs ord T x) ord x)->R (.exit 0) s (some A):=fun h s hw=>by subst hR;refine⟨fun h=>(by cases h),fun _=>⟨rfl,rfl,?_⟩⟩;rw[h]at hw;exact hw
 clear hR hw hst;obtain⟨k1,k2⟩:=z5j fo (ord:=ord) h hv x (by omega);rw[<- hJ]at k2;generalize flT t.ring wx wy t.arcs ord T x=Tx at *
 rw[yhn];unfold flD6 flD5;by_cases hlt:x<I
 ·have r3:=r1 hlt;clear r1 r2;have e1:=i64s x (by omega);have hlx:B+x*(J*(ord.length*sLv c t.arcs))+J*(ord.length*sLv c t.arcs)<=M.lim:=by have:=ymu (J*(ord.length*sLv c t.arcs)) (yqd hlt);rw[yne]at this;omega
  have hloop:=fun(s:St) hw=>yd4 fo hI hJ hN lI lJ hlt ho ol k1 k2 hlx A (s:=s) hw;have hZ:∀ s,Weak s (f7S t wx wy I J N (rwT t.ring wx wy t.arcs ord x Tx J) ord x J)->MR P 104 flD4.er s (some A) R:=fun s hw=>by refine MR.weak (hw.trans (f7_8 _ _ _ _ _ _ _ _ _ _)) (MR.of_vm ?_);simp[flD4,f8S,go_sem,hpT,tabV,e1];refine r3 _ (Weak.toF [0,1,15,16] [900000,900001,900002,900003] [] ?_);simp[go_sem,f8S,hpT,tabV];exact zas I J N _
  have hA:MR P 104 flD3.er (f8S t wx wy I J N Tx ord x) (some A) fun ex s B=>(exB 1 ex=.normal->MR P 104 flD4.er s B R)/\(exB 1 ex ≠ .normal->R (exB 1 ex) s B):=by
   have r1:(List.map (outV J) (List.range I))[x]?=some (outV J x):=by rw[ynb,yob hlt];rfl
   have e2:=zj7 (N:=N) (J:=J) hlt;unfold flD3 flD2 flD1;generalize (GC.loop g.ny)=L at *
   refine MR.gseq ?_;generalize flD4=FC4 at *
   simp[f8S,go_sem,hpT,tabV];refine MR.gseq ?_;simp[go_sem,zdr];refine⟨hlt,?_⟩;rw[zcc];refine⟨_,r1,?_⟩;simp[go_sem,outV,e2,hlt];refine MR.gblk ((hloop _ (Weak.toF [0,1,4,15,16,26,27] [900000,900001,900002,900003] [] ?_)).mono ?_)
   ·simp[go_sem,f7S,hpT,tabV,zdr];exact zas I J N Tx
   ·rintro ex s B ⟨rfl,rfl,hw⟩;exact⟨fun _=>hZ s hw,fun h=>absurd rfl h⟩
  refine MR.gseq ?_;generalize flD3=FA0 at *
  simp[f8S,go_sem,hlt];refine MR.gseq' (MR.gcond (t:=true) (by simp[go_sem,hlt]) (fun _=>MR.gnop ⟨fun _=>?_,fun h=>absurd rfl h⟩) (fun h=>(by cases h)));refine MR.gseq' (MR.gblk ?_);refine MR.weak ?_ hA;refine Weak.toF [0,1,15,16] [900000,900001,900002,900003] [] ?_;simp[go_sem,f8S,hpT,tabV];exact zas I J N Tx
 ·have hx':x=I:=by omega
  have r3:=r2 hx';clear r1 r2;refine MR.gseq ?_;generalize flD3=FA0 at *
  generalize flD4=FZ0 at *
  simp[f8S,go_sem,hlt];refine MR.gseq' (MR.gcond (t:=false) (by simp[go_sem,hlt]) (fun h=>(by cases h)) (fun _=>MR.gext ⟨fun h=>(by cases h),fun _=>r3 _ ?_⟩));refine Weak.toF [0,1,15,16] [900000,900001,900002,900003] [] ?_;simp[go_sem,f8S,hpT,tabV];exact zas I J N Tx
theorem z9l{B:Nat}{T:List (List GW)}{ord:List Nat}(ho:∀ q∈ord,q<N)(ol:ord.length<=1000)(h:zci t.ring (plN wx wy) t.st.toNat T)(hv:vbT M B T)(hl:B+I*(J*(ord.length*sLv c t.arcs))<=M.lim) :
  HSp P F.jm [.ptr 900000 0 0 0,.p (.sl (ens (toI ord)))] (hpT t wx wy I J N T) (.tup []) (hpT t wx wy I J N (flT t.ring wx wy t.arcs ord T I)):=by
 refine HSp.of_mr Go.Ab.c.jm (by simp) (by simp[hpT,PINB]) (by simp[hpT]) ?_ fun A hA=>?_
 ·show(true&&hpOk [900000,900001,900002,900003] (hpT t wx wy I J N _))=true;rw[zqg];rfl
 have hloop:=fun(s:St) hw=>yd3 fo hI hJ hN lI lJ ho ol h hv hl A (s:=s) hw;rw[yhm];unfold flE1;generalize (GC.loop g.n1)=L at *
 refine MR.gseq ?_;simp[go_sem,zei,hpT,tabV];refine MR.gblk ((hloop _ (Weak.toF [0,1,15,16] [900000,900001,900002,900003] [] ?_)).mono ?_)
 ·simp[go_sem,f8S,hpT,tabV,zdr];exact zas I J N T
 ·rintro ex s B ⟨rfl,rfl,hw⟩;refine⟨rfl,.inr rfl,_,hw,[],rfl,rfl,?_⟩;simp[zpb,St.site,look,f8S,hpT];rfl
end
def tabU(t:GTrans)(wx wy:List Int)(I:Nat):AV:=.agg [.p (.int .i64 t.ring.kind),.p (.sl (ens t.ring.parts)),.p (.int .i64 t.i),.p (.int .i64 t.o),.p (.int .i64 t.st),.p (.sl (ens t.ini)),.p (.sl (ens t.fin)),.p (.sl (ens t.arcs)),.p (.sl (ens wx)),.p (.sl (ens wy)),.own 800001 0 0 I]
def rowU(N b j:Nat):AV:=.own 800003 (b+j) 0 N
def outU(J i:Nat):AV:=.own 800002 i 0 J
def famU(I J N:Nat):List (Option AObj):=(List.range I).map fun i=>some ⟨1,(List.range J).map (rowU N (i*J))⟩
def zTbl(t:GTrans)(N n:Nat):List (List GW):=List.replicate n (List.replicate N t.ring.zero)
def z8:AV:=.agg [.p (.bool false),.nil,.nil,.p (.int .i64 0),.p (.bool false),.p (.int .u64 0),.nil,.nil]
def u1S(t:GTrans)(wx wy:List Int)(I J N:Nat)(ord:List Nat)(i k:Nat):St :=
 ⟨[(1,.p (.sl (ens wx))),(2,.p (.sl (ens wy))),(3,.ptr 3 0 0 0),(6,.ptr 6 0 0 0),(9,.p (.sl (ens (toI ord)))),(10,.ptr 800000 0 0 0),(11,.own 800004 0 0 k),(55,.p (.int .i64 I)),(56,.p (.int .i64 i)),(60,.p (.int .i64 J)),(61,.p (.int .i64 k))],
  [(3,[some ⟨8,[.p (enc t)]⟩]),(6,[some ⟨8,[z8]⟩]),(800000,[some ⟨11,[tabU t wx wy i]⟩]),(800001,[some ⟨1,(List.range i).map (outU J)⟩]),(800002,famU i J N),(800003,famC (zTbl t N (i*J+k))),(800004,[some ⟨1,(List.range k).map (rowU N (i*J))⟩]),(DEAD,[none])]⟩
theorem Weak.planTo{st st':St}(keep:List Nat)(plan:List (Nat × List (Nat × Nat)))(h:zio st.hp plan=true)(he:st.plan keep plan=st'):Weak st st':=he ▸ Weak.plan keep plan h
theorem Weak.planTo'{st st':St}(keep:List Nat)(plan:List (Nat × List (Nat × Nat)))(h:zio st.hp plan=true)(f:Sg->Prop)(hf:f (sgP st plan))(he:∀ σ,f σ -> (⟨keep.map fun t=>(t,Go.Ab.sub σ (st.get t)),hpP st σ plan⟩:St)=st'):Weak st st':=Weak.planTo keep plan h (he _ hf)
theorem zmd{σ : Sg}(h:∀ g,σ 800003 g=(800003,g))(N b k:Nat):subL σ ((List.range k).map (rowU N b))=(List.range k).map (rowU N b):=by rw[zbz,yoe];refine ynr fun j _=>?_;simp only[ypb,rowU,sub,h]
theorem zrb{σ : Sg}(h:∀ g,σ 800002 g=(800002,g))(J I:Nat):subL σ ((List.range I).map (outU J))=(List.range I).map (outU J):=by rw[zbz,yoe];refine ynr fun j _=>?_;simp only[ypb,outU,sub,h]
theorem yf4(σ : Sg)(l:List PV):subL σ (l.map .p)=l.map .p:=by rw[zbz,yoe];rfl
theorem zq1(σ : Sg){α : Type}[Enc α](l:List α):subL σ (avs l)=avs l:=yf4 σ (ens l)
theorem zmq(σ : Sg)(T:List (List GW)):(famC T).map (Option.map (subO σ))=famC T:=by unfold famC;rw[yoe];refine ynr fun l _=>?_;simp only[ypb,ypz,subO,zq1]
theorem zsc{σ : Sg}(h:∀ g,σ 800003 g=(800003,g))(I J N:Nat):(famU I J N).map (Option.map (subO σ))=famU I J N:=by unfold famU;rw[yoe];refine ynr fun l _=>?_;simp only[ypb,ypz,subO,zmd h]
theorem zma(σ : Sg)(l r:List AV):subL σ (l++r)=subL σ l++subL σ r:=by simp[zbz]
theorem zsd(T:List (List GW)):(famC T).length=T.length:=by simp[famC]
theorem z1j(t:GTrans)(N n:Nat):(zTbl t N n).length=n:=by simp[zTbl]
theorem ybj(t:GTrans)(N n:Nat):famC (zTbl t N (n+1))=famC (zTbl t N n)++[some ⟨8,avs (List.replicate N t.ring.zero)⟩]:=by unfold zTbl famC;rw[yru,ynw];rfl
theorem ybs{t:GTrans}{wx wy:List Int}{I J N:Nat}{ord:List Nat}{i:Nat}(hst:t.st=(N:Int))(hN:N<=1000)(hJ:J<=1000){Q:Exit->St->Prop}{ks:List Kt}{st:St}(hw:Weak st (u1S t wx wy I J N ord i 0))
  (hx:zk8 P 132 Q (zdn 3 ks) 3 (u1S t wx wy I J N ord i J)):vL P 132 Q g.nq ks st:=by
 refine zai (S:=fun k:Nat=>u1S t wx wy I J N ord i k) (I:=fun k=>k<=J) (m:=fun k=>J - k) 0 hw (by omega) ?_;rintro k h1 R hn hr hx';by_cases hk:k<J
 ·simp[g.nq,u1S,go_sem,hst,hk];refine zcl (z6z t.ring N hN) (by simp[go_sem]) ⟨zdx _ _ rfl,by decide,by simp[ens,LIM];omega⟩ _ rfl ?_;have e1:=i64s k (by omega);simp[go_sem,e1];refine⟨by omega,hn (k+1) _ (Weak.planTo' [1,2,3,6,9,10,11,55,56,60,61] [(3,[(3,0)]),(6,[(6,0)]),(800000,[(800000,0)]),(800001,[(800001,0)]),(800002,[(800002,0)]),(800003,[(800003,0),(68,0)]),(800004,[(70,0)])] (by simp[zio,zrj,zg5,PINB,DEAD]) (fun σ => σ 3 0=(3,0) /\ σ 6 0=(6,0) /\ σ 800000 0=(800000,0) /\ σ 800001 0=(800001,0)/\(∀ g,σ 800002 g=(800002,g))/\(∀ g,σ 800003 g=(800003,g)) /\ σ 68 0=(800003,i*J+k) /\ σ 70 0=(800004,0)) ?_ ?_) (by omega) (by omega)⟩
  ·simp[sgP,zi0,zf4,St.site,look,zsd,z1j]
  ·rintro σ ⟨s1,s2,s3,s4,s5,s6,s7,s8⟩;have hz:subL σ (List.replicate N (AV.p (enc t.ring.zero)))=List.replicate N (AV.p (enc t.ring.zero)):=by rw[<- zg4,zq1]
   rw[zwj]at hz;simp[hpP,catS,sub,subO,subL,St.get,look,St.site,u1S,hst,s1,s2,s3,s4,s7,s8,tabU,z8,zmd s6,zrb s5,zsc s6,zmq,zma,<- Nat.add_assoc,ybj,yoi,hz];exact⟨by simp[go_sem,hst],by simp[go_sem],rfl⟩
 ·have hk':k=J:=by omega
  subst hk';simp[g.nq,u1S,go_sem,hk];exact hx' 3 _ hx
def u2S(t:GTrans)(wx wy:List Int)(I J N:Nat)(ord:List Nat)(i:Nat):St :=
 ⟨[(1,.p (.sl (ens wx))),(2,.p (.sl (ens wy))),(3,.ptr 3 0 0 0),(6,.ptr 6 0 0 0),(9,.p (.sl (ens (toI ord)))),(10,.ptr 800000 0 0 0),(55,.p (.int .i64 I)),(56,.p (.int .i64 i))],
  [(3,[some ⟨8,[.p (enc t)]⟩]),(6,[some ⟨8,[z8]⟩]),(800000,[some ⟨11,[tabU t wx wy i]⟩]),(800001,[some ⟨1,(List.range i).map (outU J)⟩]),(800002,famU i J N),(800003,famC (zTbl t N (i*J))),(DEAD,[none])]⟩
theorem z9m(I J N:Nat):(famU I J N).length=I:=by simp[famU]
theorem z5m(I J N:Nat):famU (I+1) J N=famU I J N++[some ⟨1,(List.range J).map (rowU N (I*J))⟩]:=by unfold famU;rw[yoi,ynw];rfl
theorem ybr{t:GTrans}{wx wy:List Int}{I J N:Nat}{ord:List Nat}(hst:t.st=(N:Int))(hN:N<=1000)(hJ:J<=1000)(hI:I<=1000)(hJ':J=wy.length+1){Q:Exit->St->Prop}{ks:List Kt}{st:St}(hw:Weak st (u2S t wx wy I J N ord 0))
  (hx:zk8 P 132 Q (zdn 1 ks) 1 (u2S t wx wy I J N ord I)):vL P 132 Q g.m9 ks st:=by
 refine zai (S:=fun i:Nat=>u2S t wx wy I J N ord i) (I:=fun i=>i<=I) (m:=fun i=>I - i) 0 hw (by omega) ?_;rintro i h1 R hn hr hx';by_cases hi:i<I
 ·have e1:IntKind.i64.wrap ((wy.length:Int)+1)=(J:Int):=(i64w (by omega) (by omega)).trans (by omega);have e2:=i64s i (by omega);simp[g.m9,u2S,go_sem,hi,e1];refine ybs (wx:=wx) (wy:=wy) (I:=I) (J:=J) (N:=N) (ord:=ord) (i:=i) hst hN hJ (Weak.nl 11 800004 1 rfl (Weak.planTo' [1,2,3,6,9,10,11,55,56,60,61] [(3,[(3,0)]),(6,[(6,0)]),(800000,[(800000,0)]),(800001,[(800001,0)]),(800002,[(800002,0)]),(800003,[(800003,0)]),(800004,[(800004,0)])] ?_ (fun σ => σ 3 0=(3,0) /\ σ 6 0=(6,0) /\ σ 800000 0=(800000,0) /\ σ 800001 0=(800001,0)/\(∀ g,σ 800002 g=(800002,g))/\(∀ g,σ 800003 g=(800003,g)) /\ σ 800004 0=(800004,0)) ?_ ?_)) ?_
  ·simp[zio,zrj,zg5,PINB,DEAD,St.alloc,St.put]
  ·simp[sgP,zi0,zf4,St.site,look,zsd,z1j,St.alloc,St.put]
  ·rintro σ ⟨s1,s2,s3,s4,s5,s6,s7⟩;simp[hpP,catS,Go.Ab.sub,subO,subL,St.get,look,St.site,u1S,s1,s2,s3,s4,s7,tabU,z8,zmd s6,zrb s5,zsc s6,zmq,zma,St.alloc,St.put];rfl
  ·simp[u1S,go_sem,tabU,e2];refine⟨by omega,hn (i+1) _ (Weak.planTo' [1,2,3,6,9,10,55,56] [(3,[(3,0)]),(6,[(6,0)]),(800000,[(800000,0)]),(800001,[(79,0)]),(800002,[(800002,0),(800004,0)]),(800003,[(800003,0)])] ?_ (fun σ => σ 3 0=(3,0) /\ σ 6 0=(6,0) /\ σ 800000 0=(800000,0) /\ σ 79 0=(800001,0)/\(∀ g,σ 800002 g=(800002,g))/\(∀ g,σ 800003 g=(800003,g)) /\ σ 800004 0=(800002,i)) ?_ ?_) (by omega) (by omega)⟩
   ·simp[zio,zrj,zg5,PINB,DEAD]
   ·simp[sgP,zi0,zf4,St.site,look,zsd,z1j,z9m]
   ·rintro σ ⟨s1,s2,s3,s4,s5,s6,s7⟩;have e3:(i+1)*J=i*J+J:=yne i J;simp[hpP,catS,Go.Ab.sub,subO,subL,St.get,look,St.site,u2S,s1,s2,s3,s4,s7,tabU,z8,zmd s6,zrb s5,zsc s6,zmq,zma,z5m,yoi,e3];exact⟨rfl,rfl⟩
 ·have hi':i=I:=by omega
  subst hi';simp[g.m9,u2S,go_sem,hi];exact hx' 1 _ hx
end Go.Ab
namespace Go.Ab
def tc(on:List Bool):Nat:=on.count true
theorem z36(on:List Bool)(i y:Nat):(on.set i true).getD y false=true ↔ on.getD y false=true\/(i=y/\y<on.length):=by
 rw[ymo,ymo];by_cases h:i=y
 ·subst h;by_cases hl:i<on.length
  ·rw[yqb hl];simp[hl]
  ·rw[ynu (by simp;omega),ynu (by omega)];simp[hl]
 ·rw[ypu h];simp[h]
theorem zva(on:List Bool)(p:Int × Int)(y:Nat):(spS on p).getD y false=true ↔ on.getD y false=true\/(on.getD p.1.toNat false=true/\p.2.toNat=y/\y<on.length):=by
 unfold spS;split
 ·rename_i h;rw[z36];exact⟨fun k=>k.imp id fun k=>⟨h,k⟩,fun k=>k.imp id fun k=>k.2⟩
 ·rename_i h;exact⟨.inl,fun k=>k.elim id fun k=>absurd k.1 h⟩
theorem zjg(ps:List (Int × Int))(y:Nat):∀ {on:List Bool},on.getD y false=true->(spR ps on).getD y false=true:=by
 induction ps with
 | nil=>exact fun h=>h
 | cons p ps ih=>exact fun h=>ih ((zva _ p y).2 (.inl h))
theorem ycc(a b:List (Int × Int))(on:List Bool):spR (a++b) on=spR b (spR a on):=ynn ..
theorem zz1{ps:List (Int × Int)}{on:List Bool}(h:spR ps on=on):∀ p∈ps,p.2.toNat<on.length->on.getD p.1.toNat false=true->on.getD p.2.toNat false=true:=by intro p hp hl h1;obtain⟨a,b,rfl⟩:=yq6 hp;have h2:(spR b (spS (spR a on) p)).getD p.2.toNat false=true:=zjg b _ ((zva _ _ _).2 (.inr ⟨zjg a _ h1,rfl,by rw[zkm];exact hl⟩));have h3:spR (a++p::b) on=spR b (spS (spR a on) p):=ycc a (p::b) on;rw[<- h3,h]at h2;exact h2
theorem ycb{ps:List (Int × Int)}{C:Nat->Prop}(hC:∀ p∈ps,C p.1.toNat->C p.2.toNat):∀ {on:List Bool},(∀ y,on.getD y false=true->C y)->∀ y,(spR ps on).getD y false=true->C y:=by
 induction ps with
 | nil=>exact fun h=>h
 | cons p ps ih =>
  intro on h;refine ih (fun q hq=>hC q (yn9 _ hq)) fun y hy=>?_;rcases(zva _ _ _).1 hy with h1|⟨h1,rfl,_⟩
  ·exact h y h1
  ·exact hC p ynt (h _ h1)
theorem zvb{ps:List (Int × Int)}{C:Nat->Prop}(hC:∀ p∈ps,C p.1.toNat->C p.2.toNat):∀ (n:Nat) {on:List Bool},(∀ y,on.getD y false=true->C y)->∀ y,(spF ps n on).getD y false=true->C y
 | 0,_,h=>h
 | n+1,_,h=>zvb hC n (ycb hC h)
theorem zxr(ps:List (Int × Int))(y:Nat):∀ (n:Nat) {on:List Bool},on.getD y false=true->(spF ps n on).getD y false=true
 | 0,_,h=>h
 | n+1,_,h=>zxr ps y n (zjg ps y h)
theorem yf0:∀ (on:List Bool),tc on<=on.length:=fun on=>List.count_le_length
theorem z11:∀ {a b:List Bool},a.length=b.length->(∀ y,a.getD y false=true->b.getD y false=true)->a≠b->tc a<tc b
 | [],[],_,_,h=>absurd rfl h
 | x::a,y::b,hl,h,hne=>by
  have h0:=h 0;have hs:∀ k,a.getD k false=true->b.getD k false=true:=fun k=>h (k+1);simp only[List.getD_cons_zero]at h0;have hle:tc a<=tc b:=by
   by_cases e:a=b
   ·rw[e];exact ym8 _
   ·exact Nat.le_of_lt (z11 (by simpa using hl) hs e)
  unfold tc at *
  by_cases e:a=b
  ·subst e;cases x<;>cases y<;>simp[List.count_cons]at h0 hne ⊢
  ·have:=z11 (a:=a) (b:=b) (by simpa using hl) hs e;unfold tc at this;cases x<;>cases y<;>simp[List.count_cons]at h0 ⊢ <;> omega
theorem zxq(ps:List (Int × Int))(on:List Bool):∀ k,(∃ j,j<=k/\spR ps (spF ps j on)=spF ps j on)\/k+1<=tc (spF ps (k+1) on)
 | 0=>by
  by_cases h:spR ps (spF ps 0 on)=spF ps 0 on
  ·exact .inl ⟨0,ym8 _,h⟩
  ·refine .inr ?_;have:=z11 (a:=on) (b:=spR ps on) (zkm ps on).symm (fun y=>zjg ps y) (fun e=>h e.symm);show 0+1<=tc (spR ps on);omega
 | k+1=>by
  rcases zxq ps on k with⟨j,h1,h2⟩|h
  ·exact .inl ⟨j,by omega,h2⟩
  ·by_cases hs:spR ps (spF ps (k+1) on)=spF ps (k+1) on
   ·exact .inl ⟨k+1,ym8 _,hs⟩
   ·refine .inr ?_;have:=z11 (a:=spF ps (k+1) on) (b:=spR ps (spF ps (k+1) on)) (zkm ps _).symm (fun y=>zjg ps y) (fun e=>hs e.symm);rw[zmb ps (k+1)];omega
theorem z18{ps:List (Int × Int)}{on:List Bool}{j:Nat}(h:spR ps (spF ps j on)=spF ps j on):∀ d,spF ps (j+d) on=spF ps j on
 | 0=>rfl
 | d+1=>by rw[<- Nat.add_assoc,zmb,z18 h d,h]
theorem zz2(ps:List (Int × Int))(on:List Bool):spR ps (spF ps on.length on)=spF ps on.length on:=by
 rcases zxq ps on on.length with⟨j,h1,h2⟩|h
 ·have:=z18 h2 (on.length - j);rw[show j+(on.length - j)=on.length by omega]at this;rw[this];exact h2
 ·have:=yf0 (spF ps (on.length+1) on);rw[zed]at this;omega
theorem zv6(s:Nat)(ps:List (Int × Int))(n y:Nat):(mkR s ps n).getD y false=true ↔ ∃ p∈ps,p.1=(s:Int)/\p.2.toNat=y/\y<n:=by
 have key:∀ (ps:List (Int × Int)) (on:List Bool),(ps.foldl (mkS s) on).getD y false=true ↔ on.getD y false=true\/∃ p∈ps,p.1=(s:Int)/\p.2.toNat=y/\y<on.length:=by
  intro ps
  induction ps with
  | nil=>simp
  | cons p ps ih =>
   intro on;rw[ype,ih,z4k];unfold mkS;by_cases h:p.1=(s:Int)
   ·rw[ym0 h,z36];constructor
    ·rintro((h1|h1)|⟨q,h1,h2⟩)
     ·exact .inl h1
     ·exact .inr ⟨p,ynt,h,h1⟩
     ·exact .inr ⟨q,yn9 _ h1,h2⟩
    ·rintro(h1|⟨q,h1,h2⟩)
     ·exact .inl (.inl h1)
     ·rcases ym7.1 h1 with rfl|h1
      ·exact .inl (.inr h2.2)
      ·exact .inr ⟨q,h1,h2⟩
   ·rw[ym1 h];constructor
    ·rintro(h1|⟨q,h1,h2⟩)
     ·exact .inl h1
     ·exact .inr ⟨q,yn9 _ h1,h2⟩
    ·rintro(h1|⟨q,h1,h2⟩)
     ·exact .inl h1
     ·rcases ym7.1 h1 with rfl|h1
      ·exact absurd h2.1 h
      ·exact .inr ⟨q,h1,h2⟩
 unfold mkR;rw[key,List.length_replicate];refine⟨fun k=>k.elim (fun k=>?_) id,.inr⟩;rw[ymo,yqy]at k;split at k<;>cases k
theorem yel{n:Nat}{ps:List (Int × Int)}(pos:Nat->Nat)(hp:∀ p∈ps,pos p.1.toNat<pos p.2.toNat):cycF n ps=false:=by
 unfold cycF;rw[yrw];intro s hs;unfold cycB;intro hc;have:=zvb (C:=fun y=>pos s<pos y) (fun p hpm hlt=>Nat.lt_trans hlt (hp p hpm)) n (on:=mkR s ps n) (fun y hy=>by
  obtain⟨p,h1,h2,rfl,_⟩:=(zv6 s ps n y).1 hy;have:=hp p h1;rw[h2,ynz]at this;exact this) s hc
 omega
theorem z90{n:Nat}{ps:List (Int × Int)}(h:∀ p∈ps,(0<=p.1/\p.1<n)/\0<=p.2/\p.2<n)(R:Nat->Prop){q0:Nat}(h0:q0<n)(hR0:R q0)(hR:∀ q,q<n->R q->∃ p∈ps,p.2=(q:Int)/\R p.1.toNat):cycF n ps=true:=by
 rcases ymz (cycF n ps)with hc|hc
 ·exact hc
 exfalso;have hno:∀ s,s<n->cycB n ps s=false:=fun s hs=>by unfold cycF at hc;have:=(List.any_eq_false.1 hc) s (List.mem_range.2 hs);simpa using this
 have hcl:∀ s,∀ p∈ps,(spF ps n (mkR s ps n)).getD p.1.toNat false=true->(spF ps n (mkR s ps n)).getD p.2.toNat false=true:=fun s p hp h1=>by have hl:(mkR (s:Int) ps n).length=n:=zef ..;have:=zz2 ps (mkR s ps n);rw[hl]at this;exact zz1 this p hp (by rw[zed,hl];obtain⟨_,a,b⟩:=h p hp;omega) h1
 have key:∀ m,∃ q,q<n/\R q/\m<=tc (spF ps n (mkR q ps n)):=by
  intro m
  induction m with
  | zero=>exact⟨q0,h0,hR0,ymv _⟩
  | succ m ih =>
   obtain⟨q,h1,h2,h3⟩:=ih;obtain⟨p,hp,hpq,hRp⟩:=hR q h1 h2;obtain⟨⟨a1,a2⟩,a3,a4⟩:=h p hp;have hpn:(p.1.toNat:Int)=p.1:=by omega
   have hq:(spF ps n (mkR p.1.toNat ps n)).getD q false=true:=zxr ps q n ((zv6 _ _ _ _).2 ⟨p,hp,hpn.symm,by rw[hpq];rfl,h1⟩);refine⟨p.1.toNat,by omega,hRp,?_⟩;have:tc (spF ps n (mkR q ps n))<tc (spF ps n (mkR p.1.toNat ps n)):=by
    refine z11 (by rw[zed,zed,zef,zef]) ?_ fun e=>?_
    ·refine zvb (C:=fun y=>(spF ps n (mkR p.1.toNat ps n)).getD y false=true) (fun p' hp' h'=>hcl _ p' hp' h') n fun y hy=>?_;obtain⟨p',k1,k2,rfl,_⟩:=(zv6 _ _ _ _).1 hy;refine hcl _ p' k1 ?_;rw[k2,ynz];exact hq
    ·have:=hno q h1;unfold cycB at this;rw[<- e,this]at hq;cases hq
   omega
 obtain⟨q,_,_,h3⟩:=key (n+1);have:=yf0 (spF ps n (mkR q ps n));rw[zed,zef]at this;omega
end Go.Ab
