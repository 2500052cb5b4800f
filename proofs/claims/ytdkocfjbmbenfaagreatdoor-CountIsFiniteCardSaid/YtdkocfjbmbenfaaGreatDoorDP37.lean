/-
Proofs for the law CountIsFinite, part 37. Conditions: none.
-/
import Derived.Test.YtdkocfjbmbenfaaGreatDoorDP36
import Derived.Test.YtdkocfjbmbenfaaGreatDoorDP22
set_option maxRecDepth 100000
set_option maxHeartbeats 4000000
set_option linter.all false
namespace Go.Ab
open Enc (enc)
attribute [local go_sem] zal Opd.slots
theorem zpt {f:Nat->Nat} (h:∀ n,f n<=f (n+1)) {a b:Nat} (hab:a<=b):f a<=f b:=by
 induction b with
 | zero =>
  have:a=0:=by omega
  subst this; exact Nat.le_refl _
 | succ b ih =>
  by_cases hb:a=b+1
  ·subst hb; exact Nat.le_refl _
  ·exact Nat.le_trans (ih (by omega)) (h b)
def fstU (f:Nat->Nat) (k n:Nat):Nat:=(List.range n).findIdx fun j=>decide (k<f (j+1))
theorem zrn {f:Nat->Nat} (h:∀ n,f n<=f (n+1)) {k n j:Nat} (hj:j<n) (h1:f j<=k) (h2:k<f (j+1)):fstU f k n=j:=by
 unfold fstU
 rw [List.findIdx_eq (by simpa using hj)]
 simp only [List.getElem_range,decide_eq_true_eq,decide_eq_false_iff_not]
 refine ⟨h2,fun i hi=>?_⟩
 have:=zpt h (show i+1<=j by omega)
 omega
theorem zyq {f:Nat->Nat} (h:∀ n,f n<=f (n+1)) {k n:Nat} (h1:f n<=k):fstU f k n=n:=by
 have:fstU f k n=(List.range n).length:=by
  unfold fstU
  rw [List.findIdx_eq_length]
  intro x hx
  have hx':=List.mem_range.1 hx
  have:=zpt h (show x+1<=n by omega)
  simp only [decide_eq_false_iff_not]; omega
 rw [this,List.length_range]
noncomputable def pkA (A:GAuto) (L q k:Nat):Nat:=fstU (sumJ A L q) k (zas A.arcs q).length
theorem zwg (A:GAuto) (L q:Nat) (j:Nat):sumJ A L q j<=sumJ A L q (j+1):=by
 by_cases h:j<(zas A.arcs q).length
 ·rw [zj9 A L q h]; omega
 ·unfold sumJ; rw [List.take_of_length_le (by omega),List.take_of_length_le (by omega)]; exact Nat.le_refl _
theorem zr2 (A:GAuto) (s:Int) (n:Nat):bN A s n<=bN A s (n+1):=by simp only [bN]; omega
noncomputable def urW (A:GAuto):Nat->Nat->Nat->List Int
 | 0,_,_=>[]
 | L+1,q,k=>match (zas A.arcs q)[pkA A L q k]? with
  | some x=>x.l::urW A L x.t.toNat (k - sumJ A L q (pkA A L q k))
  | none=>[]
theorem znc {A:GAuto} {L q k j:Nat} (hj:j<(zas A.arcs q).length) (h1:sumJ A L q j<=k) (h2:k<sumJ A L q (j+1)) :
  urW A (L+1) q k=(zas A.arcs q)[j].l::urW A L (zas A.arcs q)[j].t.toNat (k - sumJ A L q j):=by
 have e:pkA A L q k=j:=zrn (zwg A L q) hj h1 h2
 simp only [urW]
 rw [e,List.getElem?_eq_getElem hj]
noncomputable def nU (A:GAuto) (s:Int) (k:Nat):Nat:=fstU (bN A s) k 257
noncomputable def urR (A:GAuto) (s:Int) (k:Nat):List Int × Bool:=if nU A s k<257 then (urW A (nU A s k) s.toNat (k - bN A s (nU A s k)),true) else ([],false)
noncomputable def u1S (A:GAuto) (s:Int) (N m n:Nat) (w:List Int) (q k j:Nat):St :=
 ⟨[(0,.ptr 900000 0 0 0),(3,.ptr 3 0 0 0),(6,.p (.int .i64 n)),(8,.own 77 0 0 w.length),(9,.p (.int .i64 q)),(39,.p (.sl (ens (zas A.arcs q)))),(40,.p (.int .i64 (zas A.arcs q).length)),(41,.p (.int .i64 j))],
  hpC A s N m++[(3,[some ⟨3,[.p (enc (natR k))]⟩]),(77,[some ⟨1,avs w⟩]),(DEAD,[none])]⟩
noncomputable def u2S (A:GAuto) (s:Int) (N m n:Nat) (w:List Int) (q k:Nat):St :=
 ⟨[(0,.ptr 900000 0 0 0),(3,.ptr 3 0 0 0),(6,.p (.int .i64 n)),(8,.own 77 0 0 w.length),(9,.p (.int .i64 q))],
  hpC A s N m++[(3,[some ⟨3,[.p (enc (natR k))]⟩]),(77,[some ⟨1,avs w⟩]),(DEAD,[none])]⟩
theorem zz8 {A:GAuto} {N:Nat} (hA:CtrOk A N) {s:Int} {m n q k:Nat} {w:List Int} (hn:n<=256) (hm:n+1<=m) (hm2:m<=300) (hw:w.length<n) (hk:k<cnA A (n - w.length) q) {Q:Exit->St->Prop} {ks:List Kt} {st:St} (hw0:Weak st (u1S A s N m n w q k 0))
  (hx:∀ j (h:j<(zas A.arcs q).length) (t:Nat) st',(zas A.arcs q)[j].t=(t:Int)->sumJ A (n - 1 - w.length) q j<=k->k<sumJ A (n - 1 - w.length) q (j+1)->k - sumJ A (n - 1 - w.length) q j<cnA A (n - 1 - w.length) t->Weak st' (u2S A s N m n (w++[(zas A.arcs q)[j].l]) t (k - sumJ A (n - 1 - w.length) q j))->zd0 P 71 Q (zbh 3 ks) 3 st'):vL P 71 Q g.mc ks st:=by
 have i1:=hA.al
 have i2:(zas A.arcs q).length<=2048:=Nat.le_trans (List.length_filter_le _ _) i1
 obtain ⟨L,hL⟩:∃ L,L=n - 1 - w.length:=⟨_,rfl⟩
 rw [<- hL] at hx
 have hL2:n - w.length=L+1:=by omega
 rw [hL2,<- zsk] at hk
 have hklt:k<4294967296^1048576:=by
  refine Nat.lt_of_lt_of_le hk (Nat.le_trans (zwh A i1 L q _) ?_)
  refine Nat.le_trans (Nat.pow_le_pow_left (by omega:2048<=4294967296) (L+1)) (z7s 4294967296 (L+1) 1048576 (by omega) (by omega))
 refine zai (S:=fun j:Nat=>u1S A s N m n w q (k - sumJ A L q j) j) (I:=fun j=>j<=(zas A.arcs q).length/\sumJ A L q j<=k) (m:=fun j=>(zas A.arcs q).length - j) 0 ?_ ⟨by omega,by simp [sumJ]⟩ ?_
 ·have:sumJ A L q 0=0:=by simp [sumJ]
  simpa [this] using hw0
 rintro j ⟨hj,hjk⟩ R hn' hr hx'
 have hlt:j<(zas A.arcs q).length:=by
  by_cases h:j=(zas A.arcs q).length
  ·subst h; omega
  ·omega
 have e1:=i64s j (by omega)
 have e2:IntKind.i64.wrap ((n:Int) - 1)=((n - 1:Nat):Int):=by rw [i64w (by omega) (by omega)]; omega
 have e3:IntKind.i64.wrap (((n - 1:Nat):Int) - (w.length:Int))=(L:Int):=by rw [i64w (by omega) (by omega)]; omega
 have hmem:(zas A.arcs q)[j]∈A.arcs:=(List.mem_filter.1 (List.getElem_mem hlt)).1
 obtain ⟨t0,t1⟩:=hA.t _ hmem
 obtain ⟨tt,htt⟩:∃ tt:Nat,(zas A.arcs q)[j].t=(tt:Int):=⟨(zas A.arcs q)[j].t.toNat,by omega⟩
 have hsj:=zj9 A L q hlt
 rw [htt,Int.toNat_natCast] at hsj
 have hm3:max m (L+1)=m:=by omega
 have hs0:=zp3 hA s (m:=m) (q:=tt) (n:=L) (by omega) (by omega) (by omega)
 rw [hm3] at hs0
 have b2:cnA A L tt<=2048^L:=zzh A.ring A.fin i1 _ tt
 have hks:(natR (k - sumJ A L q j)).sm 1048576:=zil (by omega)
 simp [g.mc,u1S,hpC,zR3,ctrV,go_sem,hlt]
 refine zae hlt ?_
 simp [go_sem,e2,e3,htt]
 refine ziw (vs:=[.int .i64 tt,.int .i64 L]) hs0 (by simp) (by simp [zbb,St.site,look,hpC,ctrV]) ?_
 simp [go_sem,hpC,ctrV]
 refine zaf (zfc (natR (k - sumJ A L q j)) (natR (cnA A L tt)) hks (zh6 b2 (by omega))) ?_
 rw [zhs]
 by_cases hc:k - sumJ A L q j<cnA A L tt
 ·rw [if_pos hc]
  simp [go_sem]
  refine ⟨by omega,hx' _ _ (hx j hlt tt _ htt hjk (by omega) (by omega) (Weak.toF [0,3,6,8,9] [900000,900001,900002] [((3,0),3),((62,0),77)] ?_))⟩
  simp [go_sem,u2S,hpC,zR3,ctrV,zep]
  exact zbk A N m
 ·have hc2:¬ (if cnA A L tt<k - sumJ A L q j then (1:Int) else 0)<0:=by split<;>omega
  rw [if_neg hc]
  simp [go_sem,hc2]
  refine zaf (zq3 (natR (k - sumJ A L q j)) (natR (cnA A L tt)) hks (zh6 b2 (by omega))) ?_
  rw [zs5 (by omega)]
  simp [go_sem,e1]
  have hke:k - sumJ A L q j - cnA A L tt=k - sumJ A L q (j+1):=by omega
  rw [hke]
  refine hn' (j+1) _ (Weak.toF [0,3,6,8,9,39,40,41] [900000,900001,900002] [((3,0),3),((77,0),77)] ?_) ⟨by omega,by omega⟩ (by omega)
  simp [go_sem,u1S,hpC,zR3,ctrV,zep]
  exact zbk A N m
theorem zz7 {A:GAuto} {N:Nat} (hA:CtrOk A N) {s:Int} {m n q k:Nat} (hn:n<=256) (hm:n+1<=m) (hm2:m<=300) (hq:q<N) (hk:k<cnA A n q) {Q:Exit->St->Prop} {ks:List Kt} {st:St} (hw0:Weak st (u2S A s N m n [] q k))
  (hx:∀ q' k',(urW A n q k).length=n->zd0 P 71 Q (zbh 2 ks) 2 (u2S A s N m n (urW A n q k) q' k')):vL P 71 Q g.lc ks st:=by
 have i3:=hA.N1
 have i1:=hA.al
 refine zai (S:=fun x:List Int × Nat × Nat=>u2S A s N m n x.1 x.2.1 x.2.2) (I:=fun x=>x.1.length<=n/\x.2.1<N/\x.2.2<cnA A (n - x.1.length) x.2.1/\x.1++urW A (n - x.1.length) x.2.1 x.2.2=urW A n q k) (m:=fun x=>n - x.1.length) ([],q,k) hw0 ⟨by simp,hq,by simpa using hk,by simp⟩ ?_
 rintro ⟨w,q,k⟩ ⟨h1,h2,h3,h4⟩ R hn' hr hx'
 simp only at h1 h2 h3 h4
 by_cases hlt:w.length<n
 ·simp [g.lc,u2S,hpC,zR3,ctrV,go_sem,hlt]
  refine zaf (zm9 A N q hA.inN hA.fs h2 (by omega) (by omega)) ?_
  simp [go_sem]
  refine zz8 (s:=s) (m:=m) (n:=n) (q:=q) (k:=k) (w:=w) hA hn hm hm2 hlt h3 (Weak.toF [0,3,6,8,9,39,40,41] [900000,900001,900002] [((3,0),3),((77,0),77)] ?_) ?_
  ·simp [go_sem,u1S,hpC,zR3,ctrV,zep]
   exact zbk A N m
  intro j h t st' ht a1 a2 a3 hw
  have hmem:(zas A.arcs q)[j]∈A.arcs:=(List.mem_filter.1 (List.getElem_mem h)).1
  obtain ⟨t0,t1⟩:=hA.t _ hmem
  obtain ⟨L,hL⟩:∃ L,L=n - 1 - w.length:=⟨_,rfl⟩
  rw [<- hL] at a1 a2 a3 hw
  have hL2:n - w.length=L+1:=by omega
  rw [hL2,znc h a1 a2,ht,Int.toNat_natCast] at h4
  have hl3:n - (w++[(zas A.arcs q)[j].l]).length=L:=by rw [List.length_append,List.length_singleton]; omega
  simp [zd0,zbh,go_sem]
  refine hn' (w++[(zas A.arcs q)[j].l],t,k - sumJ A L q j) _ hw ⟨?_,(show t<N by omega),?_,?_⟩ ?_
  ·simp only [List.length_append,List.length_singleton]; omega
  ·simp only [hl3]; exact a3
  ·simp only [hl3]; rw [List.append_assoc]; exact h4
  ·simp only [List.length_append,List.length_singleton]; omega
 ·have hwn:w.length=n:=by omega
  rw [hwn,Nat.sub_self] at h4
  simp only [urW,List.append_nil] at h4
  rw [<- h4] at hx
  simp [g.lc,u2S,hpC,zR3,ctrV,go_sem,hlt]
  exact hx' _ _ (by simpa [u2S,hpC,zR3,ctrV,go_sem] using hx q k hwn)
theorem Weak.frz1 {st:St} {t:Nat} {p:PV} {ids:List (Nat × Nat)} (hp:toPV st FUEL (st.get t)=some p) (hi:deps st FUEL (st.get t)=ids):Weak st ((killAll st ids).put (some t) (.p p)) :=
 Weak.freeze (by unfold St.freeze?; rw [hp,hi])
noncomputable def u3S (A:GAuto) (s:Int) (N m k n:Nat):St :=
 ⟨[(0,.ptr 900000 0 0 0),(3,.ptr 3 0 0 0),(13,.p (.int .i64 n))],hpC A s N (upB s m n)++[(3,[some ⟨3,[.p (enc (natR (k - bN A s n)))]⟩]),(DEAD,[none])]⟩
noncomputable def urV (A:GAuto) (s:Int) (k:Nat):AV:=.tup [.p (.sl (ens (urR A s k).1)),.p (.bool (urR A s k).2)]
noncomputable def urM (A:GAuto) (s:Int) (m k:Nat):Nat:=upB s m (min (nU A s k+1) 257)
def z58 (A:GAuto) (s:Int) (N m k:Nat) (A0:FA) (ex:Exit) (st:St) (B:Option FA):Prop :=
 B=some A0/\((ex=.exit 0/\Weak st (u3S A s N m k 257)/\bN A s 257<=k)\/(ex=.ret/\retH [(4,none),(5,none)] (urV A s k) (hpC A s N (urM A s m k)) ex st))
theorem zz6 {A:GAuto} {N:Nat} (hA:CtrOk A N) {s:Int} (hs : -1<=s/\s<N) {m k n:Nat} (hm:m<=300) (hk:k<4294967296^1048576) (hn:n<=257) (hb:bN A s n<=k) (A0:FA) :
  MR P 71 g.me.er (u3S A s N m k n) (some A0) fun ex st B=>(ex=.normal->n<257/\B=some A0/\Weak st (u3S A s N m k (n+1))/\bN A s (n+1)<=k)/\(ex ≠ .normal->z58 A s N m k A0 ex st B):=by
 have i1:=hA.al
 have i3:=hA.N1
 have hup:=zv2 (s:=s) hm (show n<=300 by omega)
 have hup1:=zv2 (s:=s) hm (show n+1<=300 by omega)
 generalize hR:(fun (ex:Exit) (st:St) (B:Option FA)=>(ex=.normal->n<257/\B=some A0/\Weak st (u3S A s N m k (n+1))/\bN A s (n+1)<=k)/\(ex ≠ .normal->z58 A s N m k A0 ex st B))=R
 have hno:∀ st,n<257->Weak st (u3S A s N m k (n+1))->bN A s (n+1)<=k->R .normal st (some A0):=fun st h0 h1 h2=>by subst hR; exact ⟨fun _=>⟨h0,rfl,h1,h2⟩,fun h=>absurd rfl h⟩
 have hre:∀ st,retH [(4,none),(5,none)] (urV A s k) (hpC A s N (urM A s m k)) .ret st->R .ret st (some A0):=fun st h=>by subst hR; exact ⟨fun h=>(by cases h),fun _=>⟨rfl,.inr ⟨rfl,h⟩⟩⟩
 have hex:∀ st,Weak st (u3S A s N m k 257)->bN A s 257<=k->R (.exit 0) st (some A0):=fun st h1 h2=>by subst hR; exact ⟨fun h=>(by cases h),fun _=>⟨rfl,.inl ⟨rfl,h1,h2⟩⟩⟩
 clear hR
 unfold g.me
 refine MR.gseq ?_
 simp [u3S,hpC,zR3,ctrV,go_sem]
 refine MR.gseq ?_
 by_cases hlt:n<257
 rotate_left
 ·have:n=257:=by omega
  subst this
  simp [go_sem]
  refine hex _ ?_ hb
  simpa [u3S,hpC,zR3,ctrV,go_sem] using Weak.refl (u3S A s N m k 257)
 have hlt2:(n:Int)<257:=by omega
 have e1:=i64s n (by omega)
 have hks:(natR (k - bN A s n)).sm 1048576:=zil (by omega)
 have hws:=zsb i1 s n
 have hbs:bN A s (n+1)=bN A s n+wcn A s n:=rfl
 simp [go_sem,hlt2]
 refine MR.gseq' (MR.gblk (MR.gseq ?_))
 simp [go_sem]
 refine MR.gscp (MR.of_vm ?_)
 simp [go_sem]
 refine ziw (vs:=[.int .i64 n]) (zj1 hA hs.2 (m:=upB s m n) (n:=n) (by omega) (by omega)) (by simp) (by simp [zbb,St.site,look,hpC,ctrV]) ?_
 simp [go_sem,hpC,ctrV,zsf]
 refine zaf (zfc (natR (k - bN A s n)) (natR (wcn A s n)) hks (zh6 hws (by omega))) ?_
 rw [zhs]
 by_cases hc:k - bN A s n<wcn A s n
 ·rw [if_pos hc]
  simp [go_sem]
  obtain ⟨q,rfl⟩:∃ q:Nat,s=(q:Int):=⟨s.toNat,by
   by_cases h:s<0
   ·rw [show wcn A s n=0 from if_pos h] at hc; omega
   ·omega⟩
  have hwq:wcn A (q:Int) n=cnA A n q:=by unfold wcn; rw [if_neg (by omega),Int.toNat_natCast]
  rw [hwq] at hc hbs
  have hupn:upB (q:Int) m (n+1)=max m (n+1):=by unfold upB; rw [if_neg (by omega)]
  have hnU:nU A (q:Int) k=n:=zrn (zr2 A _) hlt hb (by omega)
  have hurR:urR A (q:Int) k=(urW A n q (k - bN A (q:Int) n),true):=by unfold urR; rw [hnU,if_pos hlt,Int.toNat_natCast]
  have hurM:urM A (q:Int) m k=upB (q:Int) m (n+1):=by unfold urM; rw [hnU]; congr 1; omega
  rw [hurM] at hre
  unfold urV at hre
  rw [hurR] at hre
  generalize hM:upB (q:Int) m (n+1)=M at *
  refine zz7 (s:=q) (m:=M) (n:=n) (q:=q) (k:=k - bN A (q:Int) n) hA (by omega) (by omega) hup1 (by omega) hc (Weak.nl 8 77 1 rfl (Weak.toF [0,3,6,8,9] [900000,900001,900002] [((3,0),3),((77,0),77)] ?_)) ?_
  ·simp [go_sem,u2S,hpC,zR3,ctrV,zep]
   exact zbk A N M
  intro q' k' hlen
  generalize hW:urW A n q (k - bN A (q:Int) n)=W at *
  simp [zd0,zbh,u2S,hpC,zR3,ctrV,go_sem]
  refine ⟨fun h=>absurd h (by simp [exB]),fun _=>hre _ ⟨.inl rfl,_,Weak.frz1 (t:=4) (p:=.sl (ens W)) (ids:=[(77,0)]) (by simp [go_sem]) (by simp [go_sem]),_,rfl,?_,?_⟩⟩
  ·rfl
  ·simp [zbb,St.site,look,killAll,St.kill,hpC,ctrV,St.put]
 ·have hc2:0<=(if wcn A s n<k - bN A s n then (1:Int) else 0):=by split<;>omega
  rw [if_neg hc]
  simp [go_sem,hc2]
  refine zaf (zq3 (natR (k - bN A s n)) (natR (wcn A s n)) hks (zh6 hws (by omega))) ?_
  rw [zs5 (by omega),show k - bN A s n - wcn A s n=k - bN A s (n+1) by omega]
  simp [go_sem]
  refine ⟨fun _=>MR.of_vm ?_,fun h=>absurd rfl h⟩
  simp [go_sem,e1]
  refine hno _ hlt (Weak.toF [0,3,13] [900000,900001,900002] [((3,0),3)] ?_) (by omega)
  simp [go_sem,u3S,hpC,zR3,ctrV,zep]
  exact zbk A N (upB s m (n+1))
theorem zuc {A:GAuto} {N:Nat} (hA:CtrOk A N) {s:Int} (hs : -1<=s/\s<N) {m k:Nat} (hm:m<=300) (hk:k<4294967296^1048576) :
  HSp P F.kg [.ptr 900000 0 0 0,.p (enc (natR k))] (hpC A s N m) (urV A s k) (hpC A s N (urM A s m k)):=by
 refine HSp.of_mr c.qe (by simp) (by simp [hpC,PINB]) (by simp [hpC]) ?_ fun A0 hA0=>?_
 ·show (zbx [900000,900001,900002] (urV A s k)&&hpOk [900000,900001,900002] (hpC A s N (urM A s m k)))=true
  rw [zmz]; rfl
 unfold g.qe
 refine MR.gseq ?_
 simp [go_sem,zbi,hpC,ctrV]
 refine MR.gseq' (MR.gseq' (MR.of_vm ?_))
 simp [go_sem]
 refine MR.gblk (MR.mono (MR.gloop (Post:=z58 A s N m k A0) (I:=fun x st B=>∃ n,n<=257/\x=257 - n/\B=some A0/\bN A s n<=k/\Weak st (u3S A s N m k n)) 257 ⟨0,by omega,by omega,rfl,by simp [bN],?_⟩ ?_) ?_)
 ·have e0:upB s m 0=m:=by unfold upB; split<;>omega
  refine Weak.toF [0,3,13] [900000,900001,900002] [((3,0),3)] ?_
  simp [go_sem,u3S,hpC,zR3,ctrV,zep,e0,bN]
  exact zbk A N m
 ·rintro x st B ⟨n,hn,rfl,rfl,hb,hw⟩
  refine MR.weak hw (MR.mono (zz6 hA hs hm hk hn hb A0) ?_)
  rintro ex st' B' ⟨h1,h2⟩
  refine ⟨fun h=>?_,h2⟩
  obtain ⟨h3,h4,h5,h6⟩:=h1 h
  exact ⟨257 - (n+1),by omega,n+1,by omega,rfl,h4,h6,h5⟩
 ·rintro ex st B ⟨rfl,⟨rfl,hw,hb⟩|⟨rfl,hr⟩⟩
  ·refine ⟨fun _=>MR.weak hw (MR.of_vm ?_),fun h=>absurd rfl h⟩
   have hnU:nU A s k=257:=zyq (zr2 A s) hb
   have hurV:urV A s k=.tup [.p (.sl []),.p (.bool false)]:=by unfold urV urR; rw [hnU,if_neg (by omega)]; rfl
   have hurM:urM A s m k=upB s m 257:=by unfold urM; rw [hnU]; rfl
   rw [hurV,hurM]
   unfold u3S
   generalize upB s m 257=M
   simp [hpC,ctrV,go_sem]
   refine ⟨.inl rfl,_,Weak.frz1 (t:=4) (p:=.sl []) (ids:=[]) (by simp [go_sem]) (by simp [go_sem]),_,rfl,?_,?_⟩
   ·rfl
   ·simp [zbb,St.site,look,killAll,St.kill,hpC,ctrV,St.put]
  ·exact ⟨fun h=>absurd h (by simp [exB]),fun _=>⟨rfl,hr⟩⟩
end Go.Ab
namespace Go.Ab
open Enc (enc)
attribute [local go_sem] zal Opd.slots
structure DetA (a:GAuto) (n:Nat):Prop where
 hn:n<=90
 hn1:3<=n
 sm:a.sm n
 al:a.arcs.length<=19
 ok:a.ok
 eps:∀ x∈a.nf.arcs,x.l≠0
 adj:zr6 a.nf.arcs
 beg:begC a.nf a.st.toNat<=1
theorem ybh {x y:GArc} (h:x.key<y.key):x.f<=y.f:=by
 unfold GArc.key at h
 rw [List.cons_lt_cons_iff] at h
 omega
theorem DetA.ctr {a:GAuto} {n:Nat} (h:DetA a n):CtrOk a.nf a.st.toNat:=by
 have ok:=h.ok
 have k:=zpr ok
 have h1:a.nf.st=a.st:=rfl
 have e2:(a.st.toNat:Int)=a.st:=by have:=ok.st1; omega
 refine ⟨zyi ok,?_,fun x hx=>?_,?_,fun w hw=>(h.sm.fin w hw).mono (by have:=h.hn; omega),k.al,by have:=ok.st2; omega⟩
 ·have:=(zhm ok.ring (l:=a.arcs) fun x hx=>(ok.arcs x hx).2.2.2.2.2.2).1
  rw [<- znf] at this
  exact List.Pairwise.imp (fun h=>ybh h) this
 ·have:=k.arcs x hx
  rw [e2,<- h1]; exact ⟨this.2.2.1,this.2.2.2.1⟩
 ·have:=k.fl; rw [h1] at this; omega
noncomputable abbrev stN (a:GAuto):Int:=stA a.nf a.st.toNat
theorem DetA.spH {a:GAuto} {n:Nat} (h:DetA a n):HSpG P F.ap [.p (enc a)] [] none (.bx 10 (ctrV (zao a.nf) (stN a) .nil) [.int .i64 0]) [] none :=
 z07 a n h.hn h.hn1 h.sm h.al h.ok h.eps h.adj h.beg
theorem zqz (a:GAuto) : -1<=stN a/\stN a<a.st.toNat:=zwl _ _
theorem zoo {a:GAuto} {z:Nat} (h:DetA a z) {n:Nat} (hn:n<=256):Sp P F.kf [enc a,.int .i64 n] (.pure (.tup [enc (natR (wcn a.nf (stN a) n)),.int .i64 0])):=by
 have hA:=h.ctr
 have hs:=zqz a
 have ho:=h.spH
 refine Sp.of_mr c.qa (by simp) ?_
 unfold g.qa
 generalize stN a=s at *
 generalize a.st.toNat=N at *
 generalize hR:(fun (ex:Exit) (st:St) (_:Option FA)=>retP [(4,some 3),(5,none)] (RV.pure (.tup [enc (natR (wcn a.nf s n)),.int .i64 0])) ex st)=R
 refine MR.gseq ?_
 simp [go_sem]
 refine MR.gseq ?_
 simp [go_sem]
 refine zdo ho (by simp [zc1]) (by simp [zbb]) rfl (by simp [zav,zbx,hpOk,zeo,ctrV,AV.sz]) ?_
 simp [go_sem,zdj]
 generalize a.nf=A at *
 refine MR.weak (st1:=⟨[(1,.p (.int .i64 n)),(4,.ptr 4 0 0 0),(6,.ptr 900000 0 0 0),(7,.p (.int .i64 0))],hpC A s N 0++[(4,[some ⟨3,[zR3]⟩]),(DEAD,[none])]⟩)
  (zg6 [1,4,6,7] [(900000,[(10,0)]),(900001,[]),(900002,[]),(4,[(4,0)])] ?_ (fun σ => σ 10 0=(900000,0) /\ σ 4 0=(4,0)) ?_ ?_) ?_
 ·simp [zf4,zpq,zeh,PINB,DEAD,zdx]
 ·simp [sgP,zgd,zdy,St.site,look]
 ·rintro σ ⟨s1,s2⟩
  simp [hpP,catS,sub,subO,subL,St.get,look,St.site,hpC,s1,s2,ctrV,outQ,zR3,hisC,famQ,zie,mp]
 refine MR.of_vm ?_
 simp [hpC,ctrV,go_sem]
 have hn':¬ ((n:Int)<0):=by omega
 have hn2:¬ (256<(n:Int)):=by omega
 simp [go_sem,hn',hn2]
 intro _
 refine ziw (vs:=[.int .i64 n]) (zj1 hA hs.2 (m:=0) (n:=n) (by omega) (by omega)) (by simp) (by simp [zbb,St.site,look,hpC,ctrV]) ?_
 simp [go_sem,hpC,ctrV,zR3]
 subst hR
 simp [go_sem]
theorem zqf {a:GAuto} {z:Nat} (h:DetA a z) {n:Nat} (hn:n<=256):Sp P F.kd [enc a,.int .i64 n] (.pure (.tup [enc (natR (bN a.nf (stN a) (n+1))),.int .i64 0])):=by
 have hA:=h.ctr
 have hs:=zqz a
 have ho:=h.spH
 refine Sp.of_mr c.qc (by simp) ?_
 unfold g.qc
 generalize stN a=s at *
 generalize a.st.toNat=N at *
 generalize hR:(fun (ex:Exit) (st:St) (_:Option FA)=>retP [(4,some 3),(5,none)] (RV.pure (.tup [enc (natR (bN a.nf s (n+1))),.int .i64 0])) ex st)=R
 refine MR.gseq ?_
 simp [go_sem]
 refine MR.gseq ?_
 simp [go_sem]
 refine zdo ho (by simp [zc1]) (by simp [zbb]) rfl (by simp [zav,zbx,hpOk,zeo,ctrV,AV.sz]) ?_
 simp [go_sem,zdj]
 generalize a.nf=A at *
 refine MR.weak (st1:=⟨[(1,.p (.int .i64 n)),(4,.ptr 4 0 0 0),(6,.ptr 900000 0 0 0),(7,.p (.int .i64 0))],hpC A s N 0++[(4,[some ⟨3,[zR3]⟩]),(DEAD,[none])]⟩)
  (zg6 [1,4,6,7] [(900000,[(10,0)]),(900001,[]),(900002,[]),(4,[(4,0)])] ?_ (fun σ => σ 10 0=(900000,0) /\ σ 4 0=(4,0)) ?_ ?_) ?_
 ·simp [zf4,zpq,zeh,PINB,DEAD,zdx]
 ·simp [sgP,zgd,zdy,St.site,look]
 ·rintro σ ⟨s1,s2⟩
  simp [hpP,catS,sub,subO,subL,St.get,look,St.site,hpC,s1,s2,ctrV,outQ,zR3,hisC,famQ,zie,mp]
 refine MR.of_vm ?_
 simp [hpC,ctrV,go_sem]
 have hn':¬ ((n:Int)<0):=by omega
 have hn2:¬ (256<(n:Int)):=by omega
 have e1:=i64s n (by omega)
 simp [go_sem,hn',hn2,e1]
 intro _
 refine ziw (vs:=[.int .i64 (n+1:Nat)]) (zzt hA hs.2 (m:=0) (n:=n+1) (by omega) (by omega)) (by simp) (by simp [zbb,St.site,look,hpC,ctrV]) ?_
 simp [go_sem,hpC,ctrV,zR3]
 subst hR
 simp [go_sem]
theorem zuu (k:Nat):(natR k).valid=true:=by rw [<- zic]; exact zd5 _
theorem z1a (k:Nat):¬ sgnR (natR k).v<0:=by
 have h:=zhs k 0
 rw [show (natR k).v - (natR 0).v=(natR k).v by rw [zi0 0]; grind] at h
 rw [h]; split<;>(try split)<;>omega
theorem zl0 {a:GAuto} {z:Nat} (h:DetA a z) {k:Nat} (hk:k<4294967296^1048576):Sp P F.kb [enc a,enc (natR k)] (.pure (.tup [.sl (ens (urR a.nf (stN a) k).1),.bool (urR a.nf (stN a) k).2,.int .i64 0])):=by
 have hA:=h.ctr
 have hs:=zqz a
 have ho:=h.spH
 have hsm:(natR k).sm 1048576:=zil hk
 have hv:=zho (natR k) (hsm.mono (by omega))
 rw [zuu] at hv
 have hsg:=z1a k
 refine Sp.of_mr c.qd (by simp) ?_
 unfold g.qd
 generalize stN a=s at *
 generalize a.st.toNat=N at *
 generalize hR:(fun (ex:Exit) (st:St) (_:Option FA)=>retP [(4,none),(5,none),(6,none)] (RV.pure (.tup [.sl (ens (urR a.nf s k).1),.bool (urR a.nf s k).2,.int .i64 0])) ex st)=R
 refine MR.gseq ?_
 simp [go_sem]
 refine MR.gseq ?_
 simp [go_sem]
 refine zdo ho (by simp [zc1]) (by simp [zbb]) rfl (by simp [zav,zbx,hpOk,zeo,ctrV,AV.sz]) ?_
 simp [go_sem,zdj]
 generalize a.nf=A at *
 refine MR.weak (st1:=⟨[(3,.ptr 3 0 0 0),(7,.ptr 900000 0 0 0),(8,.p (.int .i64 0))],hpC A s N 0++[(3,[some ⟨3,[.p (enc (natR k))]⟩]),(DEAD,[none])]⟩)
  (zg6 [3,7,8] [(900000,[(13,0)]),(900001,[]),(900002,[]),(3,[(3,0)])] ?_ (fun σ => σ 13 0=(900000,0) /\ σ 3 0=(3,0)) ?_ ?_) ?_
 ·simp [zf4,zpq,zeh,PINB,DEAD,zdx]
 ·simp [sgP,zgd,zdy,St.site,look]
 ·rintro σ ⟨s1,s2⟩
  simp [hpP,catS,sub,subO,subL,St.get,look,St.site,hpC,s1,s2,ctrV,outQ,zR3,hisC,famQ,zie,mp,go_sem]
 refine MR.of_vm ?_
 simp [hpC,ctrV,go_sem]
 refine zaf hv ?_
 have hden:(natR k).den.length=0:=rfl
 simp [go_sem,hden]
 refine zaf (zhp (natR k) (hsm.mono (by omega))) ?_
 simp [go_sem,hsg]
 refine z2o (vs:=[enc (natR k)]) (zuc hA hs (m:=0) (k:=k) (by omega) hk) (by simp [go_sem]) rfl (by simp [zbb,St.site,look,hpC,ctrV]) ?_
 simp [go_sem,hpC,ctrV,urV]
 subst hR
 simp [go_sem]
end Go.Ab
