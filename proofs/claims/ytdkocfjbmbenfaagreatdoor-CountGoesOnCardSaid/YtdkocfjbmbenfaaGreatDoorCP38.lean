/-
Proofs for the law CountGoesOn, part 38. Conditions: none.
-/
import Derived.Test.YtdkocfjbmbenfaaGreatDoorCP37
import Derived.Test.YtdkocfjbmbenfaaGreatDoorCP22
set_option maxRecDepth 100000
set_option maxHeartbeats 4000000
set_option linter.all false
namespace Go.Ab
open Enc (enc)
attribute [local go_sem] zam Opd.slots
theorem zix {f:Nat->Nat} (h:∀ n,f n<=f (n+1)) {a b:Nat} (hab:a<=b):f a<=f b:=by
 induction b with
 | zero =>
  have:a=0:=by omega
  subst this; exact Nat.le_refl _
 | succ b ih =>
  by_cases hb:a=b+1
  ·subst hb; exact Nat.le_refl _
  ·exact Nat.le_trans (ih (by omega)) (h b)
def fstU (f:Nat->Nat) (k n:Nat):Nat:=(List.range n).findIdx fun j=>decide (k<f (j+1))
theorem zh5 {f:Nat->Nat} (h:∀ n,f n<=f (n+1)) {k n j:Nat} (hj:j<n) (h1:f j<=k) (h2:k<f (j+1)):fstU f k n=j:=by
 unfold fstU
 rw [List.findIdx_eq (by simpa using hj)]
 simp only [List.getElem_range,decide_eq_true_eq,decide_eq_false_iff_not]
 refine ⟨h2,fun i hi=>?_⟩
 have:=zix h (show i+1<=j by omega)
 omega
theorem zsd {f:Nat->Nat} (h:∀ n,f n<=f (n+1)) {k n:Nat} (h1:f n<=k):fstU f k n=n:=by
 have:fstU f k n=(List.range n).length:=by
  unfold fstU
  rw [List.findIdx_eq_length]
  intro x hx
  have hx':=List.mem_range.1 hx
  have:=zix h (show x+1<=n by omega)
  simp only [decide_eq_false_iff_not]; omega
 rw [this,List.length_range]
noncomputable def pkA (A:GAuto) (L q k:Nat):Nat:=fstU (sumJ A L q) k (zaj A.arcs q).length
theorem zra (A:GAuto) (L q:Nat) (j:Nat):sumJ A L q j<=sumJ A L q (j+1):=by
 by_cases h:j<(zaj A.arcs q).length
 ·rw [zcu A L q h]; omega
 ·unfold sumJ; rw [List.take_of_length_le (by omega),List.take_of_length_le (by omega)]; exact Nat.le_refl _
theorem zh9 (A:GAuto) (s:Int) (n:Nat):bN A s n<=bN A s (n+1):=by simp only [bN]; omega
noncomputable def urW (A:GAuto):Nat->Nat->Nat->List Int
 | 0,_,_=>[]
 | L+1,q,k=>match (zaj A.arcs q)[pkA A L q k]? with
  | some x=>x.l::urW A L x.t.toNat (k - sumJ A L q (pkA A L q k))
  | none=>[]
theorem zig {A:GAuto} {L q k j:Nat} (hj:j<(zaj A.arcs q).length) (h1:sumJ A L q j<=k) (h2:k<sumJ A L q (j+1)) :
  urW A (L+1) q k=(zaj A.arcs q)[j].l::urW A L (zaj A.arcs q)[j].t.toNat (k - sumJ A L q j):=by
 have e:pkA A L q k=j:=zh5 (zra A L q) hj h1 h2
 simp only [urW]
 rw [e,List.getElem?_eq_getElem hj]
noncomputable def nU (A:GAuto) (s:Int) (k:Nat):Nat:=fstU (bN A s) k 257
noncomputable def urR (A:GAuto) (s:Int) (k:Nat):List Int × Bool:=if nU A s k<257 then (urW A (nU A s k) s.toNat (k - bN A s (nU A s k)),true) else ([],false)
noncomputable def u1S (A:GAuto) (s:Int) (N m n:Nat) (w:List Int) (q k j:Nat):St :=
 ⟨[(0,.ptr 900000 0 0 0),(3,.ptr 3 0 0 0),(6,.p (.int .i64 n)),(8,.own 77 0 0 w.length),(9,.p (.int .i64 q)),(39,.p (.sl (ens (zaj A.arcs q)))),(40,.p (.int .i64 (zaj A.arcs q).length)),(41,.p (.int .i64 j))],
  hpC A s N m++[(3,[some ⟨3,[.p (enc (natR k))]⟩]),(77,[some ⟨1,avs w⟩]),(DEAD,[none])]⟩
noncomputable def u2S (A:GAuto) (s:Int) (N m n:Nat) (w:List Int) (q k:Nat):St :=
 ⟨[(0,.ptr 900000 0 0 0),(3,.ptr 3 0 0 0),(6,.p (.int .i64 n)),(8,.own 77 0 0 w.length),(9,.p (.int .i64 q))],
  hpC A s N m++[(3,[some ⟨3,[.p (enc (natR k))]⟩]),(77,[some ⟨1,avs w⟩]),(DEAD,[none])]⟩
theorem z33 {A:GAuto} {N:Nat} (hA:CtrOk A N) {s:Int} {m n q k:Nat} {w:List Int} (hn:n<=256) (hm:n+1<=m) (hm2:m<=300) (hw:w.length<n) (hk:k<cnA A (n - w.length) q) {Q:Exit->St->Prop} {ks:List Kt} {st:St} (hw0:Weak st (u1S A s N m n w q k 0))
  (hx:∀ j (h:j<(zaj A.arcs q).length) (t:Nat) st',(zaj A.arcs q)[j].t=(t:Int)->sumJ A (n - 1 - w.length) q j<=k->k<sumJ A (n - 1 - w.length) q (j+1)->k - sumJ A (n - 1 - w.length) q j<cnA A (n - 1 - w.length) t->Weak st' (u2S A s N m n (w++[(zaj A.arcs q)[j].l]) t (k - sumJ A (n - 1 - w.length) q j))->zem P 71 Q (zbm 3 ks) 3 st'):vL P 71 Q g.oj ks st:=by
 have i1:=hA.al
 have i2:(zaj A.arcs q).length<=2048:=Nat.le_trans (List.length_filter_le _ _) i1
 obtain ⟨L,hL⟩:∃ L,L=n - 1 - w.length:=⟨_,rfl⟩
 rw [<- hL] at hx
 have hL2:n - w.length=L+1:=by omega
 rw [hL2,<- zij] at hk
 have hklt:k<4294967296^1048576:=by
  refine Nat.lt_of_lt_of_le hk (Nat.le_trans (zzf A i1 L q _) ?_)
  refine Nat.le_trans (Nat.pow_le_pow_left (by omega:2048<=4294967296) (L+1)) (z80 4294967296 (L+1) 1048576 (by omega) (by omega))
 refine zai (S:=fun j:Nat=>u1S A s N m n w q (k - sumJ A L q j) j) (I:=fun j=>j<=(zaj A.arcs q).length/\sumJ A L q j<=k) (m:=fun j=>(zaj A.arcs q).length - j) 0 ?_ ⟨by omega,by simp [sumJ]⟩ ?_
 ·have:sumJ A L q 0=0:=by simp [sumJ]
  simpa [this] using hw0
 rintro j ⟨hj,hjk⟩ R hn' hr hx'
 have hlt:j<(zaj A.arcs q).length:=by
  by_cases h:j=(zaj A.arcs q).length
  ·subst h; omega
  ·omega
 have e1:=i64s j (by omega)
 have e2:IntKind.i64.wrap ((n:Int) - 1)=((n - 1:Nat):Int):=by rw [i64w (by omega) (by omega)]; omega
 have e3:IntKind.i64.wrap (((n - 1:Nat):Int) - (w.length:Int))=(L:Int):=by rw [i64w (by omega) (by omega)]; omega
 have hmem:(zaj A.arcs q)[j]∈A.arcs:=(List.mem_filter.1 (List.getElem_mem hlt)).1
 obtain ⟨t0,t1⟩:=hA.t _ hmem
 obtain ⟨tt,htt⟩:∃ tt:Nat,(zaj A.arcs q)[j].t=(tt:Int):=⟨(zaj A.arcs q)[j].t.toNat,by omega⟩
 have hsj:=zcu A L q hlt
 rw [htt,Int.toNat_natCast] at hsj
 have hm3:max m (L+1)=m:=by omega
 have hs0:=zms hA s (m:=m) (q:=tt) (n:=L) (by omega) (by omega) (by omega)
 rw [hm3] at hs0
 have b2:cnA A L tt<=2048^L:=zur A.ring A.fin i1 _ tt
 have hks:(natR (k - sumJ A L q j)).sm 1048576:=zjr (by omega)
 simp [g.oj,u1S,hpC,zR3,ctrV,go_sem,hlt]
 refine zae hlt ?_
 simp [go_sem,e2,e3,htt]
 refine zh8 (vs:=[.int .i64 tt,.int .i64 L]) hs0 (by simp) (by simp [zbf,St.site,look,hpC,ctrV]) ?_
 simp [go_sem,hpC,ctrV]
 refine zab (zfs (natR (k - sumJ A L q j)) (natR (cnA A L tt)) hks (zgc b2 (by omega))) ?_
 rw [zk3]
 by_cases hc:k - sumJ A L q j<cnA A L tt
 ·rw [if_pos hc]
  simp [go_sem]
  refine ⟨by omega,hx' _ _ (hx j hlt tt _ htt hjk (by omega) (by omega) (Weak.toF [0,3,6,8,9] [900000,900001,900002] [((3,0),3),((62,0),77)] ?_))⟩
  simp [go_sem,u2S,hpC,zR3,ctrV,zcb]
  exact za6 A N m
 ·have hc2:¬ (if cnA A L tt<k - sumJ A L q j then (1:Int) else 0)<0:=by split<;>omega
  rw [if_neg hc]
  simp [go_sem,hc2]
  refine zab (ztk (natR (k - sumJ A L q j)) (natR (cnA A L tt)) hks (zgc b2 (by omega))) ?_
  rw [zv1 (by omega)]
  simp [go_sem,e1]
  have hke:k - sumJ A L q j - cnA A L tt=k - sumJ A L q (j+1):=by omega
  rw [hke]
  refine hn' (j+1) _ (Weak.toF [0,3,6,8,9,39,40,41] [900000,900001,900002] [((3,0),3),((77,0),77)] ?_) ⟨by omega,by omega⟩ (by omega)
  simp [go_sem,u1S,hpC,zR3,ctrV,zcb]
  exact za6 A N m
theorem z32 {A:GAuto} {N:Nat} (hA:CtrOk A N) {s:Int} {m n q k:Nat} (hn:n<=256) (hm:n+1<=m) (hm2:m<=300) (hq:q<N) (hk:k<cnA A n q) {Q:Exit->St->Prop} {ks:List Kt} {st:St} (hw0:Weak st (u2S A s N m n [] q k))
  (hx:∀ q' k',(urW A n q k).length=n->zem P 71 Q (zbm 2 ks) 2 (u2S A s N m n (urW A n q k) q' k')):vL P 71 Q g.nq ks st:=by
 have i3:=hA.N1
 have i1:=hA.al
 refine zai (S:=fun x:List Int × Nat × Nat=>u2S A s N m n x.1 x.2.1 x.2.2) (I:=fun x=>x.1.length<=n/\x.2.1<N/\x.2.2<cnA A (n - x.1.length) x.2.1/\x.1++urW A (n - x.1.length) x.2.1 x.2.2=urW A n q k) (m:=fun x=>n - x.1.length) ([],q,k) hw0 ⟨by simp,hq,by simpa using hk,by simp⟩ ?_
 rintro ⟨w,q,k⟩ ⟨h1,h2,h3,h4⟩ R hn' hr hx'
 simp only at h1 h2 h3 h4
 by_cases hlt:w.length<n
 ·simp [g.nq,u2S,hpC,zR3,ctrV,go_sem,hlt]
  refine zab (zoy A N q hA.inN hA.fs h2 (by omega) (by omega)) ?_
  simp [go_sem]
  refine z33 (s:=s) (m:=m) (n:=n) (q:=q) (k:=k) (w:=w) hA hn hm hm2 hlt h3 (Weak.toF [0,3,6,8,9,39,40,41] [900000,900001,900002] [((3,0),3),((77,0),77)] ?_) ?_
  ·simp [go_sem,u1S,hpC,zR3,ctrV,zcb]
   exact za6 A N m
  intro j h t st' ht a1 a2 a3 hw
  have hmem:(zaj A.arcs q)[j]∈A.arcs:=(List.mem_filter.1 (List.getElem_mem h)).1
  obtain ⟨t0,t1⟩:=hA.t _ hmem
  obtain ⟨L,hL⟩:∃ L,L=n - 1 - w.length:=⟨_,rfl⟩
  rw [<- hL] at a1 a2 a3 hw
  have hL2:n - w.length=L+1:=by omega
  rw [hL2,zig h a1 a2,ht,Int.toNat_natCast] at h4
  have hl3:n - (w++[(zaj A.arcs q)[j].l]).length=L:=by rw [List.length_append,List.length_singleton]; omega
  simp [zem,zbm,go_sem]
  refine hn' (w++[(zaj A.arcs q)[j].l],t,k - sumJ A L q j) _ hw ⟨?_,(show t<N by omega),?_,?_⟩ ?_
  ·simp only [List.length_append,List.length_singleton]; omega
  ·simp only [hl3]; exact a3
  ·simp only [hl3]; rw [List.append_assoc]; exact h4
  ·simp only [List.length_append,List.length_singleton]; omega
 ·have hwn:w.length=n:=by omega
  rw [hwn,Nat.sub_self] at h4
  simp only [urW,List.append_nil] at h4
  rw [<- h4] at hx
  simp [g.nq,u2S,hpC,zR3,ctrV,go_sem,hlt]
  exact hx' _ _ (by simpa [u2S,hpC,zR3,ctrV,go_sem] using hx q k hwn)
theorem Weak.frz1 {st:St} {t:Nat} {p:PV} {ids:List (Nat × Nat)} (hp:toPV st FUEL (st.get t)=some p) (hi:deps st FUEL (st.get t)=ids):Weak st ((killAll st ids).put (some t) (.p p)) :=
 Weak.freeze (by unfold St.freeze?; rw [hp,hi])
noncomputable def u3S (A:GAuto) (s:Int) (N m k n:Nat):St :=
 ⟨[(0,.ptr 900000 0 0 0),(3,.ptr 3 0 0 0),(13,.p (.int .i64 n))],hpC A s N (upB s m n)++[(3,[some ⟨3,[.p (enc (natR (k - bN A s n)))]⟩]),(DEAD,[none])]⟩
noncomputable def urV (A:GAuto) (s:Int) (k:Nat):AV:=.tup [.p (.sl (ens (urR A s k).1)),.p (.bool (urR A s k).2)]
noncomputable def urM (A:GAuto) (s:Int) (m k:Nat):Nat:=upB s m (min (nU A s k+1) 257)
def ya1 (A:GAuto) (s:Int) (N m k:Nat) (A0:FA) (ex:Exit) (st:St) (B:Option FA):Prop :=
 B=some A0/\((ex=.exit 0/\Weak st (u3S A s N m k 257)/\bN A s 257<=k)\/(ex=.ret/\retH [(4,none),(5,none)] (urV A s k) (hpC A s N (urM A s m k)) ex st))
theorem z31 {A:GAuto} {N:Nat} (hA:CtrOk A N) {s:Int} (hs : -1<=s/\s<N) {m k n:Nat} (hm:m<=300) (hk:k<4294967296^1048576) (hn:n<=257) (hb:bN A s n<=k) (A0:FA) :
  MR P 71 g.ol.er (u3S A s N m k n) (some A0) fun ex st B=>(ex=.normal->n<257/\B=some A0/\Weak st (u3S A s N m k (n+1))/\bN A s (n+1)<=k)/\(ex ≠ .normal->ya1 A s N m k A0 ex st B):=by
 have i1:=hA.al
 have i3:=hA.N1
 have hup:=zq1 (s:=s) hm (show n<=300 by omega)
 have hup1:=zq1 (s:=s) hm (show n+1<=300 by omega)
 generalize hR:(fun (ex:Exit) (st:St) (B:Option FA)=>(ex=.normal->n<257/\B=some A0/\Weak st (u3S A s N m k (n+1))/\bN A s (n+1)<=k)/\(ex ≠ .normal->ya1 A s N m k A0 ex st B))=R
 have hno:∀ st,n<257->Weak st (u3S A s N m k (n+1))->bN A s (n+1)<=k->R .normal st (some A0):=fun st h0 h1 h2=>by subst hR; exact ⟨fun _=>⟨h0,rfl,h1,h2⟩,fun h=>absurd rfl h⟩
 have hre:∀ st,retH [(4,none),(5,none)] (urV A s k) (hpC A s N (urM A s m k)) .ret st->R .ret st (some A0):=fun st h=>by subst hR; exact ⟨fun h=>(by cases h),fun _=>⟨rfl,.inr ⟨rfl,h⟩⟩⟩
 have hex:∀ st,Weak st (u3S A s N m k 257)->bN A s 257<=k->R (.exit 0) st (some A0):=fun st h1 h2=>by subst hR; exact ⟨fun h=>(by cases h),fun _=>⟨rfl,.inl ⟨rfl,h1,h2⟩⟩⟩
 clear hR
 unfold g.ol
 refine MR.gseq ?_
 simp [u3S,hpC,zR3,ctrV,go_sem]
 refine MR.gseq ?_
 by_cases hlt:n<257
 rotate_left
 ·have:n=257:=by omega
  subst this
  simp [go_sem]
  refine hex _ ?_ hb
  simpa [u3S,hpC,zR3,ctrV,go_sem] using Weak.refl (u3S A s N m k 257)
 have hlt2:(n:Int)<257:=by omega
 have e1:=i64s n (by omega)
 have hks:(natR (k - bN A s n)).sm 1048576:=zjr (by omega)
 have hws:=zyq i1 s n
 have hbs:bN A s (n+1)=bN A s n+wcn A s n:=rfl
 simp [go_sem,hlt2]
 refine MR.gseq' (MR.gblk (MR.gseq ?_))
 simp [go_sem]
 refine MR.gscp (MR.of_vm ?_)
 simp [go_sem]
 refine zh8 (vs:=[.int .i64 n]) (zqv hA hs.2 (m:=upB s m n) (n:=n) (by omega) (by omega)) (by simp) (by simp [zbf,St.site,look,hpC,ctrV]) ?_
 simp [go_sem,hpC,ctrV,zu5]
 refine zab (zfs (natR (k - bN A s n)) (natR (wcn A s n)) hks (zgc hws (by omega))) ?_
 rw [zk3]
 by_cases hc:k - bN A s n<wcn A s n
 ·rw [if_pos hc]
  simp [go_sem]
  obtain ⟨q,rfl⟩:∃ q:Nat,s=(q:Int):=⟨s.toNat,by
   by_cases h:s<0
   ·rw [show wcn A s n=0 from if_pos h] at hc; omega
   ·omega⟩
  have hwq:wcn A (q:Int) n=cnA A n q:=by unfold wcn; rw [if_neg (by omega),Int.toNat_natCast]
  rw [hwq] at hc hbs
  have hupn:upB (q:Int) m (n+1)=max m (n+1):=by unfold upB; rw [if_neg (by omega)]
  have hnU:nU A (q:Int) k=n:=zh5 (zh9 A _) hlt hb (by omega)
  have hurR:urR A (q:Int) k=(urW A n q (k - bN A (q:Int) n),true):=by unfold urR; rw [hnU,if_pos hlt,Int.toNat_natCast]
  have hurM:urM A (q:Int) m k=upB (q:Int) m (n+1):=by unfold urM; rw [hnU]; congr 1; omega
  rw [hurM] at hre
  unfold urV at hre
  rw [hurR] at hre
  generalize hM:upB (q:Int) m (n+1)=M at *
  refine z32 (s:=q) (m:=M) (n:=n) (q:=q) (k:=k - bN A (q:Int) n) hA (by omega) (by omega) hup1 (by omega) hc (Weak.nl 8 77 1 rfl (Weak.toF [0,3,6,8,9] [900000,900001,900002] [((3,0),3),((77,0),77)] ?_)) ?_
  ·simp [go_sem,u2S,hpC,zR3,ctrV,zcb]
   exact za6 A N M
  intro q' k' hlen
  generalize hW:urW A n q (k - bN A (q:Int) n)=W at *
  simp [zem,zbm,u2S,hpC,zR3,ctrV,go_sem]
  refine ⟨fun h=>absurd h (by simp [exB]),fun _=>hre _ ⟨.inl rfl,_,Weak.frz1 (t:=4) (p:=.sl (ens W)) (ids:=[(77,0)]) (by simp [go_sem]) (by simp [go_sem]),_,rfl,?_,?_⟩⟩
  ·rfl
  ·simp [zbf,St.site,look,killAll,St.kill,hpC,ctrV,St.put]
 ·have hc2:0<=(if wcn A s n<k - bN A s n then (1:Int) else 0):=by split<;>omega
  rw [if_neg hc]
  simp [go_sem,hc2]
  refine zab (ztk (natR (k - bN A s n)) (natR (wcn A s n)) hks (zgc hws (by omega))) ?_
  rw [zv1 (by omega),show k - bN A s n - wcn A s n=k - bN A s (n+1) by omega]
  simp [go_sem]
  refine ⟨fun _=>MR.of_vm ?_,fun h=>absurd rfl h⟩
  simp [go_sem,e1]
  refine hno _ hlt (Weak.toF [0,3,13] [900000,900001,900002] [((3,0),3)] ?_) (by omega)
  simp [go_sem,u3S,hpC,zR3,ctrV,zcb]
  exact za6 A N (upB s m (n+1))
theorem zjd {A:GAuto} {N:Nat} (hA:CtrOk A N) {s:Int} (hs : -1<=s/\s<N) {m k:Nat} (hm:m<=300) (hk:k<4294967296^1048576) :
  HSp P F.je [.ptr 900000 0 0 0,.p (enc (natR k))] (hpC A s N m) (urV A s k) (hpC A s N (urM A s m k)):=by
 refine HSp.of_mr c.tc (by simp) (by simp [hpC,PINB]) (by simp [hpC]) ?_ fun A0 hA0=>?_
 ·show (zb7 [900000,900001,900002] (urV A s k)&&hpOk [900000,900001,900002] (hpC A s N (urM A s m k)))=true
  rw [zmm]; rfl
 unfold g.tc
 refine MR.gseq ?_
 simp [go_sem,zbr,hpC,ctrV]
 refine MR.gseq' (MR.gseq' (MR.of_vm ?_))
 simp [go_sem]
 refine MR.gblk (MR.mono (MR.gloop (Post:=ya1 A s N m k A0) (I:=fun x st B=>∃ n,n<=257/\x=257 - n/\B=some A0/\bN A s n<=k/\Weak st (u3S A s N m k n)) 257 ⟨0,by omega,by omega,rfl,by simp [bN],?_⟩ ?_) ?_)
 ·have e0:upB s m 0=m:=by unfold upB; split<;>omega
  refine Weak.toF [0,3,13] [900000,900001,900002] [((3,0),3)] ?_
  simp [go_sem,u3S,hpC,zR3,ctrV,zcb,e0,bN]
  exact za6 A N m
 ·rintro x st B ⟨n,hn,rfl,rfl,hb,hw⟩
  refine MR.weak hw (MR.mono (z31 hA hs hm hk hn hb A0) ?_)
  rintro ex st' B' ⟨h1,h2⟩
  refine ⟨fun h=>?_,h2⟩
  obtain ⟨h3,h4,h5,h6⟩:=h1 h
  exact ⟨257 - (n+1),by omega,n+1,by omega,rfl,h4,h6,h5⟩
 ·rintro ex st B ⟨rfl,⟨rfl,hw,hb⟩|⟨rfl,hr⟩⟩
  ·refine ⟨fun _=>MR.weak hw (MR.of_vm ?_),fun h=>absurd rfl h⟩
   have hnU:nU A s k=257:=zsd (zh9 A s) hb
   have hurV:urV A s k=.tup [.p (.sl []),.p (.bool false)]:=by unfold urV urR; rw [hnU,if_neg (by omega)]; rfl
   have hurM:urM A s m k=upB s m 257:=by unfold urM; rw [hnU]; rfl
   rw [hurV,hurM]
   unfold u3S
   generalize upB s m 257=M
   simp [hpC,ctrV,go_sem]
   refine ⟨.inl rfl,_,Weak.frz1 (t:=4) (p:=.sl []) (ids:=[]) (by simp [go_sem]) (by simp [go_sem]),_,rfl,?_,?_⟩
   ·rfl
   ·simp [zbf,St.site,look,killAll,St.kill,hpC,ctrV,St.put]
  ·exact ⟨fun h=>absurd h (by simp [exB]),fun _=>⟨rfl,hr⟩⟩
end Go.Ab
namespace Go.Ab
open Enc (enc)
attribute [local go_sem] zam Opd.slots
structure DetA (a:GAuto) (n:Nat):Prop where
 hn:n<=90
 hn1:3<=n
 sm:a.sm n
 al:a.arcs.length<=19
 ok:a.ok
 eps:∀ x∈a.nf.arcs,x.l≠0
 adj:zqr a.nf.arcs
 beg:begC a.nf a.st.toNat<=1
theorem yf7 {x y:GArc} (h:x.key<y.key):x.f<=y.f:=by
 unfold GArc.key at h
 rw [List.cons_lt_cons_iff] at h
 omega
theorem DetA.ctr {a:GAuto} {n:Nat} (h:DetA a n):CtrOk a.nf a.st.toNat:=by
 have ok:=h.ok
 have k:=zr0 ok
 have h1:a.nf.st=a.st:=rfl
 have e2:(a.st.toNat:Int)=a.st:=by have:=ok.st1; omega
 refine ⟨z19 ok,?_,fun x hx=>?_,?_,fun w hw=>(h.sm.fin w hw).mono (by have:=h.hn; omega),k.al,by have:=ok.st2; omega⟩
 ·have:=(zfb ok.ring (l:=a.arcs) fun x hx=>(ok.arcs x hx).2.2.2.2.2.2).1
  rw [<- zlk] at this
  exact List.Pairwise.imp (fun h=>yf7 h) this
 ·have:=k.arcs x hx
  rw [e2,<- h1]; exact ⟨this.2.2.1,this.2.2.2.1⟩
 ·have:=k.fl; rw [h1] at this; omega
noncomputable abbrev stN (a:GAuto):Int:=stA a.nf a.st.toNat
theorem DetA.spH {a:GAuto} {n:Nat} (h:DetA a n):HSpG P F.bn [.p (enc a)] [] none (.bx 10 (ctrV (zax a.nf) (stN a) .nil) [.int .i64 0]) [] none :=
 z5j a n h.hn h.hn1 h.sm h.al h.ok h.eps h.adj h.beg
theorem zo6 (a:GAuto) : -1<=stN a/\stN a<a.st.toNat:=zth _ _
theorem zsq {a:GAuto} {z:Nat} (h:DetA a z) {n:Nat} (hn:n<=256):Sp P F.mm [enc a,.int .i64 n] (.pure (.tup [enc (natR (bN a.nf (stN a) (n+1))),.int .i64 0])):=by
 have hA:=h.ctr
 have hs:=zo6 a
 have ho:=h.spH
 refine Sp.of_mr c.s9 (by simp) ?_
 unfold g.s9
 generalize stN a=s at *
 generalize a.st.toNat=N at *
 generalize hR:(fun (ex:Exit) (st:St) (_:Option FA)=>retP [(4,some 3),(5,none)] (RV.pure (.tup [enc (natR (bN a.nf s (n+1))),.int .i64 0])) ex st)=R
 refine MR.gseq ?_
 simp [go_sem]
 refine MR.gseq ?_
 simp [go_sem]
 refine ze7 ho (by simp [zei]) (by simp [zbf]) rfl (by simp [za5,zb7,hpOk,zgd,ctrV,AV.sz]) ?_
 simp [go_sem,zd1]
 generalize a.nf=A at *
 refine MR.weak (st1:=⟨[(1,.p (.int .i64 n)),(4,.ptr 4 0 0 0),(6,.ptr 900000 0 0 0),(7,.p (.int .i64 0))],hpC A s N 0++[(4,[some ⟨3,[zR3]⟩]),(DEAD,[none])]⟩)
  (zjm [1,4,6,7] [(900000,[(10,0)]),(900001,[]),(900002,[]),(4,[(4,0)])] ?_ (fun σ => σ 10 0=(900000,0) /\ σ 4 0=(4,0)) ?_ ?_) ?_
 ·simp [zhs,zty,zfh,PINB,DEAD,zet]
 ·simp [sgP,zhn,zeh,St.site,look]
 ·rintro σ ⟨s1,s2⟩
  simp [hpP,catS,sub,subO,subL,St.get,look,St.site,hpC,s1,s2,ctrV,outQ,zR3,hisC,famQ,zjk,mp]
 refine MR.of_vm ?_
 simp [hpC,ctrV,go_sem]
 have hn':¬ ((n:Int)<0):=by omega
 have hn2:¬ (256<(n:Int)):=by omega
 have e1:=i64s n (by omega)
 simp [go_sem,hn',hn2,e1]
 intro _
 refine zh8 (vs:=[.int .i64 (n+1:Nat)]) (zs4 hA hs.2 (m:=0) (n:=n+1) (by omega) (by omega)) (by simp) (by simp [zbf,St.site,look,hpC,ctrV]) ?_
 simp [go_sem,hpC,ctrV,zR3]
 subst hR
 simp [go_sem]
theorem zqw (w:List Int) (m:Int) (hl:w.length<=9223372036854775807):Sp P F.fi [.sl (ens w),.int .i64 m] (.pure (.bool (decide ((1<=m/\m<=32)/\w.length<=256/\∀ x∈w,1<=x/\x<=m)))):=by
 refine Sp.vz c.fi fun _=>?_
 simp [g.fi,go_sem]
 refine zai (S:=fun k:Nat=>mkSt [(0,.p (.sl (ens w))),(1,.p (.int .i64 m)),(7,.p (.sl (ens w))),(8,.p (.int .i64 w.length)),(9,.p (.int .i64 k))] []) (I:=fun k=>k<=w.length/\∀ i,(h:i<w.length)->i<k->1<=w[i]/\w[i]<=m) (m:=fun k=>w.length - k) 0
  (Weak.to [0,1,7,8,9] [] (by simp [go_sem])) ⟨by omega,fun i _ h=>by omega⟩ ?_
 rintro k ⟨h1,h2⟩ R hn hr hx
 simp [g.po,mkSt,go_sem]
 refine ⟨fun hk=>zae hk ?_,fun hk=>hx _ _ ?_⟩
 ·have e1:=i64s k (by omega)
  have hf:∀ h:w[k]<1\/m<w[k],¬ ∀ x∈w,1<=x/\x<=m:=fun h hh=>by have:=hh w[k] (List.getElem_mem hk); omega
  refine ⟨fun h=>hr _ (by simp [go_sem,hf (.inl h)]),fun h=>⟨fun h'=>hr _ (by simp [go_sem,hf (.inr h')]),fun h'=>hn (k+1) _ (Weak.to [0,1,7,8,9] [] (by simp [go_sem,e1])) ⟨by omega,fun i hi hik=>?_⟩ (by omega)⟩⟩
  by_cases e:i=k
  ·subst e; exact ⟨h,h'⟩
  ·exact h2 i hi (by omega)
 ·have hk':k=w.length:=by omega
  have ha:∀ x∈w,1<=x/\x<=m:=fun x hx=>by
   obtain ⟨i,hi,rfl⟩:=List.mem_iff_getElem.1 hx
   exact h2 i hi (by omega)
  have hd:decide (∀ x∈w,1<=x/\x<=m)=true:=decide_eq_true ha
  simp [go_sem,hd]
  refine ⟨fun h1=>⟨fun h2=>by simp [h1,h2]; omega,fun h2 _ h3=>by omega⟩,fun h1 h2=>by omega⟩
noncomputable def rkA (A:GAuto) (s:Int) (w:List Int):Nat × Int:=rkI A w (bN A s w.length) s w.length
def wOk (w:List Int) (m:Int):Prop:=(1<=m/\m<=32)/\w.length<=256/\∀ x∈w,1<=x/\x<=m
theorem zxp (k:Nat):(natR k).valid=true:=by rw [<- zji]; exact zcd _
theorem z5o (k:Nat):¬ sgnR (natR k).v<0:=by
 have h:=zk3 k 0
 rw [show (natR k).v - (natR 0).v=(natR k).v by rw [zl1 0]; grind] at h
 rw [h]; split<;>(try split)<;>omega
theorem znn {a:GAuto} {z:Nat} (h:DetA a z) {k:Nat} (hk:k<4294967296^1048576):Sp P F.ml [enc a,enc (natR k)] (.pure (.tup [.sl (ens (urR a.nf (stN a) k).1),.bool (urR a.nf (stN a) k).2,.int .i64 0])):=by
 have hA:=h.ctr
 have hs:=zo6 a
 have ho:=h.spH
 have hsm:(natR k).sm 1048576:=zjr hk
 have hv:=zim (natR k) (hsm.mono (by omega))
 rw [zxp] at hv
 have hsg:=z5o k
 refine Sp.of_mr c.ta (by simp) ?_
 unfold g.ta
 generalize stN a=s at *
 generalize a.st.toNat=N at *
 generalize hR:(fun (ex:Exit) (st:St) (_:Option FA)=>retP [(4,none),(5,none),(6,none)] (RV.pure (.tup [.sl (ens (urR a.nf s k).1),.bool (urR a.nf s k).2,.int .i64 0])) ex st)=R
 refine MR.gseq ?_
 simp [go_sem]
 refine MR.gseq ?_
 simp [go_sem]
 refine ze7 ho (by simp [zei]) (by simp [zbf]) rfl (by simp [za5,zb7,hpOk,zgd,ctrV,AV.sz]) ?_
 simp [go_sem,zd1]
 generalize a.nf=A at *
 refine MR.weak (st1:=⟨[(3,.ptr 3 0 0 0),(7,.ptr 900000 0 0 0),(8,.p (.int .i64 0))],hpC A s N 0++[(3,[some ⟨3,[.p (enc (natR k))]⟩]),(DEAD,[none])]⟩)
  (zjm [3,7,8] [(900000,[(13,0)]),(900001,[]),(900002,[]),(3,[(3,0)])] ?_ (fun σ => σ 13 0=(900000,0) /\ σ 3 0=(3,0)) ?_ ?_) ?_
 ·simp [zhs,zty,zfh,PINB,DEAD,zet]
 ·simp [sgP,zhn,zeh,St.site,look]
 ·rintro σ ⟨s1,s2⟩
  simp [hpP,catS,sub,subO,subL,St.get,look,St.site,hpC,s1,s2,ctrV,outQ,zR3,hisC,famQ,zjk,mp,go_sem]
 refine MR.of_vm ?_
 simp [hpC,ctrV,go_sem]
 refine zab hv ?_
 have hden:(natR k).den.length=0:=rfl
 simp [go_sem,hden]
 refine zab (zio (natR k) (hsm.mono (by omega))) ?_
 simp [go_sem,hsg]
 refine zla (vs:=[enc (natR k)]) (zjd hA hs (m:=0) (k:=k) (by omega) hk) (by simp [go_sem]) rfl (by simp [zbf,St.site,look,hpC,ctrV]) ?_
 simp [go_sem,hpC,ctrV,urV]
 subst hR
 simp [go_sem]
theorem z7d (A:GAuto):∀ L q k,(urW A L q k).length<=L
 | 0,_,_=>by simp [urW]
 | L+1,q,k=>by
  simp only [urW]
  split
  ·rw [List.length_cons]; exact Nat.succ_le_succ (z7d A L _ _)
  ·simp
theorem zyz (A:GAuto) (s:Int) (k:Nat):(urR A s k).1.length<=256:=by
 unfold urR
 split
 ·exact Nat.le_trans (z7d A _ _ _) (by omega)
 ·simp
theorem yco (a m n k:Nat) (h:m+n=k):a^m*a^n=a^k:=by rw [<- Nat.pow_add,h]
theorem yf2 (a m n x:Nat) (h:n=m+1) (h2:2<=a) (hx:x<=a^m):x+1<=a^n:=by
 rw [h,Nat.pow_succ]
 have hp:0<a^m:=Nat.pow_pos (by omega)
 have:=Nat.mul_le_mul_left (a^m) h2
 omega
theorem yft {A:GAuto} (h:A.arcs.length<=2048) (s:Int) {w:List Int} (hw:w.length<=256):(rkA A s w).1+1<4294967296^1048576/\(rkA A s w).1+1<=2048^999:=by
 have h1:=zz8 h w (z68 h s w.length (by omega)) s w.length (Nat.le_refl _)
 have h2:(rkA A s w).1<=2048^998:=by
  refine Nat.le_trans h1 ?_
  refine Nat.le_trans (Nat.mul_le_mul (show w.length+1<=2048^1 by omega) (z80 2048 (w.length+1) 997 (by omega) (by omega))) ?_
  exact Nat.le_of_eq (yco 2048 1 997 998 rfl)
 have h3:(rkA A s w).1+1<=2048^999:=by
  exact yf2 2048 998 999 _ rfl (by omega) h2
 refine ⟨Nat.lt_of_le_of_lt h3 (Nat.lt_of_le_of_lt (Nat.pow_le_pow_left (by omega:2048<=4294967296) 999) (ycn 4294967296 999 1048576 (by omega) (by omega))),h3⟩
noncomputable def nxK (A:GAuto) (s:Int) (w:List Int):Nat:=(rkA A s w).1+if endB A (rkA A s w).2 then 1 else 0
theorem zsr {a:GAuto} {z:Nat} (h:DetA a z) {w:List Int} (hw:wOk w a.sy):Sp P F.mn [enc a,.sl (ens w)] (.pure (.tup [.sl (ens (urR a.nf (stN a) (nxK a.nf (stN a) w)).1),.bool (urR a.nf (stN a) (nxK a.nf (stN a) w)).2,.int .i64 0])):=by
 have hA:=h.ctr
 have hs:=zo6 a
 have ho:=h.spH
 have hwl:=hw.2.1
 have hv:=zqw w a.sy (by omega)
 rw [show decide ((1<=a.sy/\a.sy<=32)/\w.length<=256/\∀ x∈w,1<=x/\x<=a.sy)=true from decide_eq_true hw] at hv
 refine Sp.of_mr c.tb (by simp) ?_
 unfold g.tb
 generalize stN a=s at *
 generalize a.st.toNat=N at *
 obtain ⟨hlt,hlt2⟩:=yft hA.al s hwl
 have hup:=zq1 (s:=s) (show 0<=300 by omega) (show w.length<=300 by omega)
 generalize hR:(fun (ex:Exit) (st:St) (_:Option FA)=>retP [(4,none),(5,none),(6,none)] (RV.pure (.tup [.sl (ens (urR a.nf s (nxK a.nf s w)).1),.bool (urR a.nf s (nxK a.nf s w)).2,.int .i64 0])) ex st)=R
 refine MR.gseq ?_
 simp [go_sem]
 refine MR.gseq ?_
 simp [go_sem]
 refine ze7 ho (by simp [zei]) (by simp [zbf]) rfl (by simp [za5,zb7,hpOk,zgd,ctrV,AV.sz]) ?_
 simp [go_sem,zd1]
 generalize a.nf=A at *
 refine MR.weak (st1:=⟨[(1,.p (.sl (ens w))),(2,.ptr 2 0 0 0),(7,.ptr 900000 0 0 0),(8,.p (.int .i64 0))],hpC A s N 0++[(2,[some ⟨7,[.p (enc a)]⟩]),(DEAD,[none])]⟩)
  (zjm [1,2,7,8] [(900000,[(17,0)]),(900001,[]),(900002,[]),(2,[(2,0)])] ?_ (fun σ => σ 17 0=(900000,0) /\ σ 2 0=(2,0)) ?_ ?_) ?_
 ·simp [zhs,zty,zfh,PINB,DEAD,zet]
 ·simp [sgP,zhn,zeh,St.site,look]
 ·rintro σ ⟨s1,s2⟩
  simp [hpP,catS,sub,subO,subL,St.get,look,St.site,hpC,s1,s2,ctrV,outQ,zR3,hisC,famQ,zjk,mp,go_sem]
 refine MR.of_vm ?_
 simp [hpC,ctrV,go_sem]
 refine zab hv ?_
 simp [go_sem]
 refine zla (vs:=[.sl (ens w)]) (v:=.tup [.p (enc (natR (rkA A s w).1)),.p (.bool (endB A (rkA A s w).2))]) (z47 hA hs (m:=0) (w:=w) hwl (by omega)) (by simp) rfl (by simp [zbf,St.site,look,hpC,ctrV]) ?_
 generalize upB s 0 w.length=M at *
 have hnx:nxK A s w=(rkA A s w).1+if endB A (rkA A s w).2 then 1 else 0:=rfl
 simp [go_sem,hpC,ctrV,zR3]
 generalize (rkA A s w).1=k at *
 generalize endB A (rkA A s w).2=b at *
 have hkl:nxK A s w<4294967296^1048576:=by rw [hnx]; split<;>omega
 cases b with
 | true =>
  simp [go_sem]
  refine zab z7l ?_
  simp [go_sem]
  refine zab (zft (natR k) (natR 1) (zgc (n:=999) (by omega) (by omega)) (zgc (n:=1) (by omega) (by omega))) ?_
  rw [zk4]
  simp only [if_true] at hnx
  rw [<- hnx]
  generalize nxK A s w=K at *
  simp [go_sem]
  refine zla (vs:=[enc (natR K)]) (zjd hA hs (m:=M) (k:=K) (by omega) hkl) (by simp [go_sem]) rfl (by simp [zbf,St.site,look,hpC,ctrV]) ?_
  simp [go_sem,hpC,ctrV,urV]
  refine zab (zj3 (urR A s K).1 (by have:=zyz A s K; omega)) ?_
  simp [go_sem]
  subst hR
  simp [go_sem]
 | false =>
  simp only [if_false,Bool.false_eq_true,Nat.add_zero] at hnx
  rw [<- hnx]
  generalize nxK A s w=K at *
  simp [go_sem]
  refine zla (vs:=[enc (natR K)]) (zjd hA hs (m:=M) (k:=K) (by omega) hkl) (by simp [go_sem]) rfl (by simp [zbf,St.site,look,hpC,ctrV]) ?_
  simp [go_sem,hpC,ctrV,urV]
  refine zab (zj3 (urR A s K).1 (by have:=zyz A s K; omega)) ?_
  simp [go_sem]
  subst hR
  simp [go_sem]
end Go.Ab
