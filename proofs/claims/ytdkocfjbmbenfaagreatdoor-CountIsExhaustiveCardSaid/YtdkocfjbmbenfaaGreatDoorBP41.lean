/-
Proofs for the law CountIsExhaustive, part 41. Conditions: none.
-/
import Derived.Test.YtdkocfjbmbenfaaGreatDoorBP40
import Derived.Test.YtdkocfjbmbenfaaGreatDoorBP35
import Derived.Test.YtdkocfjbmbenfaaGreatDoorBP14
import Derived.Test.YtdkocfjbmbenfaaGreatDoorBP28
set_option maxRecDepth 100000
set_option maxHeartbeats 4000000
set_option linter.all false
namespace Go.Ab
theorem z9o {A:GAuto} (hL:labI A) (q:Nat) (c:Int) (t:Nat):nxtJ A q c (zaj A.arcs q).length=(t:Int) ↔ ∃ y∈A.arcs,y.f=(q:Int)/\y.l=c/\y.t=(t:Int):=by
 constructor
 ·intro h
  obtain ⟨j,hj,rfl⟩:=zv0 _ (Nat.le_refl _) (show 0<=nxtJ A q c (zaj A.arcs q).length by omega)
  rw [(zwh hL hj 0).2] at h
  obtain ⟨h1,h2⟩:=List.mem_filter.1 (List.getElem_mem hj)
  simp only [decide_eq_true_eq] at h2
  exact ⟨_,h1,h2,rfl,h⟩
 ·rintro ⟨y,hy,h1,h2,h3⟩
  have hm:y∈zaj A.arcs q:=List.mem_filter.2 ⟨hy,by simpa using h1⟩
  obtain ⟨j,hj,rfl⟩:=List.mem_iff_getElem.1 hm
  rw [<- h2,(zwh hL hj 0).2,h3]
theorem z3t {a:GAuto} {k:Nat} (h:begC a k=0) {t:Nat} (ht:t<k) (hl:t<a.ini.length):a.ini[t]=a.ring.zero:=by
 unfold begC at h
 rw [List.length_eq_zero_iff,List.filter_eq_nil_iff] at h
 have hm:a.ini[t]∈a.ini.take k:=by
  rw [List.mem_iff_getElem]
  exact ⟨t,by rw [List.length_take]; omega,by simp⟩
 have:=h _ hm
 simpa using this
theorem zzt {a:GAuto} {N:Nat} (hN:a.ini.length=N):∀ k,k<=N->begC a k<=1->∀ t,t<k->(a.ini.getD t a.ring.zero≠a.ring.zero ↔ stA a k=(t:Int))
 | 0,_,_,t,ht=>by omega
 | k+1,hk,hb,t,ht=>by
  have hkl:k<a.ini.length:=by omega
  have hs:=zna a hkl
  have hg:a.ini.getD k a.ring.zero=a.ini[k]:=by rw [List.getD_eq_getElem?_getD,List.getElem?_eq_getElem hkl]; rfl
  have hrng:=ztl a k
  by_cases hz:a.ini[k]=a.ring.zero
  ·rw [if_neg (by simpa using hz)] at hs
   have e:stA a (k+1)=stA a k:=by simp only [stA,hg]; rw [if_neg (by simpa using hz)]
   rw [e]
   by_cases htk:t=k
   ·subst htk
    rw [hg]
    exact ⟨fun h=>absurd hz h,fun h=>by omega⟩
   ·exact zzt hN k (by omega) (by omega) t (by omega)
  ·rw [if_pos hz] at hs
   have e:stA a (k+1)=(k:Int):=by simp only [stA,hg]; rw [if_pos hz]
   rw [e]
   by_cases htk:t=k
   ·subst htk; rw [hg]; exact ⟨fun _=>rfl,fun _=>hz⟩
   ·have h0:=z3t (a:=a) (k:=k) (by omega) (t:=t) (by omega) (by omega)
    have hgt:a.ini.getD t a.ring.zero=a.ini[t]'(by omega):=by rw [List.getD_eq_getElem?_getD,List.getElem?_eq_getElem (by omega)]; rfl
    rw [hgt]
    exact ⟨fun h=>absurd h0 h,fun h=>by omega⟩
theorem z7y {a:GAuto} (h:MdlA a) {N:Nat} (hN:a.st.toNat=N):∀ (w:List Int) (v:List GW) (B:Int) (s:Int),v.length=N->0<=B->B+5*w.length<=1099511627776->(∀ q,tw (v.getD q zrT) B)->(∀ t:Nat,(v.getD t zrT).inf=false ↔ s=(t:Int)) ->
  (fwL ⟨2,[]⟩ a.arcs N v w).length=N/\(∀ q,tw ((fwL ⟨2,[]⟩ a.arcs N v w).getD q zrT) (B+5*w.length))/\∀ t:Nat,((fwL ⟨2,[]⟩ a.arcs N v w).getD t zrT).inf=false ↔ (rkR a.nf s w).2=(t:Int)
 | [],v,B,s,hv,hB,hB2,ht,hs=>by
  refine ⟨hv,fun q=>?_,hs⟩
  simpa [fwL] using ht q
 | c::w,v,B,s,hv,hB,hB2,ht,hs=>by
  have ok:=h.det.ok
  rw [List.length_cons] at hB2 ⊢
  have hA:∀ x∈a.arcs,x.t.toNat<N/\tw x.w 5:=fun x hx=>by
   have hx':=ok.arcs x hx
   exact ⟨by have h1:=hx'.2.2.1; have h2:=hx'.2.2.2.1; omega,h.arcs x hx⟩
  have hrep:∀ t,(List.replicate N zrT).getD t zrT=zrT:=fun t=>by
   rw [List.getD_eq_getElem?_getD,List.getElem?_replicate]; split<;>rfl
  have hst:=zzs hB (by omega) ht (c:=c) (N:=N) a.arcs (List.replicate N zrT) (by simp) hA (fun t=>by rw [hrep]; exact zyu (by omega))
  have hlen:(stL ⟨2,[]⟩ a.arcs v c N).length=N:=zpg _ _ _ _ _
  have hstep:fwL ⟨2,[]⟩ a.arcs N v (c::w)=fwL ⟨2,[]⟩ a.arcs N (stL ⟨2,[]⟩ a.arcs v c N) w:=rfl
  have hinf:∀ t:Nat,((stL ⟨2,[]⟩ a.arcs v c N).getD t zrT).inf=false ↔ (if s<0 then s else nxtJ a.nf s.toNat c (zaj a.nf.arcs s.toNat).length)=(t:Int):=fun t=>by
   refine (hst t).2.trans ?_
   rw [hrep,zo5]
   simp only [Bool.true_eq_false,false_or]
   by_cases hneg:s<0
   ·rw [if_pos hneg]
    constructor
    ·rintro ⟨x,_,_,_,h3,_⟩
     have:=(hs x.f.toNat).1 h3
     omega
    ·intro h; omega
   ·rw [if_neg hneg,z9o h.det.lab,ycx h]
    constructor
    ·rintro ⟨x,hx,h1,h2,h3,h4⟩
     have hx':=ok.arcs x hx
     have hf:=(hs x.f.toNat).1 h3
     have q1:=hx'.1
     have q2:=hx'.2.2.1
     exact ⟨x,hx,by omega,h1,by omega,h4⟩
    ·rintro ⟨x,hx,h1,h2,h3,h4⟩
     exact ⟨x,hx,h2,by omega,(hs _).2 (by omega),h4⟩
  have ih:=z7y h hN w (stL ⟨2,[]⟩ a.arcs v c N) (B+5) (if s<0 then s else nxtJ a.nf s.toNat c (zaj a.nf.arcs s.toNat).length) hlen (by omega) (by omega) (fun q=>(hst q).1) hinf
  rw [hstep]
  refine ⟨ih.1,fun q=>zlg (ih.2.1 q) (by omega),fun t=>(ih.2.2 t).trans ?_⟩
  by_cases hneg:s<0
  ·rw [if_pos hneg,zgt _ hneg,zgt _ hneg]
  ·rw [if_neg hneg]
   simp only [rkR]
   rw [if_neg hneg]
theorem zmr (a:GAuto):a.nf.ini=a.ini/\a.nf.fin=a.fin/\a.nf.ring=a.ring:=⟨rfl,rfl,rfl⟩
theorem z30 {a:GAuto} (h:MdlA a) {w:List Int} (hw:w.length<=256):(!(wgt8 a w).inf)=endB a.nf (rkA a.nf (stN a) w).2:=by
 have ok:=h.det.ok
 have hst:=h.st
 obtain ⟨N,hN⟩:∃ N,a.st.toNat=N:=⟨_,rfl⟩
 have il:=ok.il
 have fl:=ok.fl
 have hil:a.ini.length=N:=by omega
 have hfl:a.fin.length=N:=by omega
 have hini:∀ q,tw (a.ini.getD q zrT) 5:=fun q=>by
  rw [List.getD_eq_getElem?_getD]
  by_cases hq:q<a.ini.length
  ·rw [List.getElem?_eq_getElem hq]; exact h.ini _ (List.getElem_mem hq)
  ·rw [List.getElem?_eq_none (by omega)]; exact zyu (by omega)
 have hfin:∀ q,tw (a.fin.getD q zrT) 5:=fun q=>by
  rw [List.getD_eq_getElem?_getD]
  by_cases hq:q<a.fin.length
  ·rw [List.getElem?_eq_getElem hq]; exact h.fin _ (List.getElem_mem hq)
  ·rw [List.getElem?_eq_none (by omega)]; exact zyu (by omega)
 have hrng:=zlj a
 have hs:∀ t:Nat,(a.ini.getD t zrT).inf=false ↔ stN a=(t:Int):=fun t=>by
  rw [<- z8d (hini t)]
  by_cases ht:t<N
  ·have:=zzt (a:=a.nf) (N:=N) hil N (Nat.le_refl _) (by have:=h.det.beg; rw [hN] at this; exact this) t ht
   rw [show a.nf.ring.zero=zrT from by rw [(zmr a).2.2,h.ring]] at this
   rw [show stN a=stA a.nf N from by rw [<- hN]]
   exact this
  ·rw [List.getD_eq_getElem?_getD,List.getElem?_eq_none (by omega)]
   exact ⟨fun h=>absurd rfl h,fun h=>by omega⟩
 obtain ⟨v1,v2,v3⟩:=z7y h hN w a.ini 5 (stN a) hil (by omega) (by omega) hini hs
 have e:wgt8 a w=((fwL ⟨2,[]⟩ a.arcs N a.ini w).zip a.fin).foldl (fun s p=>GRing.plus ⟨2,[]⟩ s (GRing.times ⟨2,[]⟩ p.1 p.2)) zrT:=by
  unfold wgt8 sumW; rw [h.ring,hN]
 generalize fwL ⟨2,[]⟩ a.arcs N a.ini w=V at *
 have hsum:=zvf (B:=5+5*w.length) (C:=5) (by omega) (by omega) (V.zip a.fin) zrT (fun p hp=>by
  obtain ⟨i,hi,rfl⟩:=List.mem_iff_getElem.1 hp
  rw [List.length_zip] at hi
  rw [List.getElem_zip]
  refine ⟨?_,h.fin _ (List.getElem_mem _)⟩
  have:=v2 i
  rw [List.getD_eq_getElem?_getD,List.getElem?_eq_getElem (by omega)] at this
  exact this)
 rw [<- e,zo5] at hsum
 simp only [Bool.true_eq_false,false_or] at hsum
 rw [zvi]
 simp only
 generalize (rkR a.nf (stN a) w).2=q at *
 have key:(wgt8 a w).inf=false ↔ endB a.nf q=true:=by
  rw [hsum]
  constructor
  ·rintro ⟨p,hp,h1,h2⟩
   obtain ⟨i,hi,rfl⟩:=List.mem_iff_getElem.1 hp
   rw [List.length_zip] at hi
   rw [List.getElem_zip] at h1 h2
   have hq:=(v3 i).1 (by rw [List.getD_eq_getElem?_getD,List.getElem?_eq_getElem (by omega)]; exact h1)
   unfold endB
   rw [if_neg (by omega),hq,Int.toNat_natCast]
   have:=(z8d (hfin i)).2 (by rw [List.getD_eq_getElem?_getD,List.getElem?_eq_getElem (by omega)]; exact h2)
   rw [(zmr a).2.1,(zmr a).2.2,h.ring]
   exact decide_eq_true this
  ·intro he
   unfold endB at he
   by_cases hq:q<0
   ·rw [if_pos hq] at he; cases he
   ·rw [if_neg hq] at he
    obtain ⟨i,rfl⟩:∃ i:Nat,q=(i:Int):=⟨q.toNat,by omega⟩
    rw [Int.toNat_natCast,(zmr a).2.1,(zmr a).2.2,h.ring] at he
    have hf:=(z8d (hfin i)).1 (of_decide_eq_true he)
    have hv:=(v3 i).2 rfl
    have hi:i<a.fin.length:=by
     by_cases hi:i<a.fin.length
     ·exact hi
     ·rw [List.getD_eq_getElem?_getD,List.getElem?_eq_none (by omega)] at hf
      have:=zo5
      rw [show (none:Option GW).getD zrT=zrT from rfl,this] at hf; cases hf
    have hiv:i<V.length:=by omega
    rw [List.getD_eq_getElem?_getD,List.getElem?_eq_getElem hi] at hf
    rw [List.getD_eq_getElem?_getD,List.getElem?_eq_getElem hiv] at hv
    refine ⟨(V[i],a.fin[i]),?_,hv,hf⟩
    rw [List.mem_iff_getElem]
    exact ⟨i,by rw [List.length_zip]; omega,by rw [List.getElem_zip]⟩
 cases h1:(wgt8 a w).inf with
 | false=>rw [key.1 h1]; rfl
 | true =>
  cases h2:endB a.nf q with
  | false=>rfl
  | true=>rw [key.2 h2] at h1; cases h1
end Go.Ab
namespace Go.Ab
open Enc (enc)
attribute [local go_sem] zam Opd.slots
theorem zz5 {s:Nat} (hs:1<=s):∀ (n r:Nat) (acc:List Int),(∀ c∈acc,1<=c/\c<=(s:Int))->(∀ c∈sfW s n r acc,1<=c/\c<=(s:Int))/\(sfW s n r acc).length=n+acc.length
 | 0,r,acc,h=>⟨h,by simp [sfW]⟩
 | n+1,r,acc,h=>by
  have hm:=Nat.mod_lt r (show 0<s by omega)
  have ih:=zz5 hs n (r / s) ((1+(r % s:Nat):Int)::acc) (fun c hc=>by
   rcases List.mem_cons.1 hc with rfl|hc
   ·omega
   ·exact h c hc)
  refine ⟨ih.1,?_⟩
  show (sfW s n (r / s) _).length=_
  rw [ih.2,List.length_cons]; omega
theorem zws {s:Nat} (hs:2<=s):∀ n,2^n<=gsum s n+1
 | 0=>by simp [gsum]
 | n+1=>by
  have ih:=zws hs n
  have h1:2^n<=s^n:=Nat.pow_le_pow_left hs n
  simp only [gsum]; rw [Nat.pow_succ]; omega
theorem z1e (k:Int) (s:Nat):numK k s<400/\(s<2->numK k s<60):=by
 have r1:=zch k (show (1:Int)<=400 by omega)
 have r2:=zch (wthn k 400) (show (1:Int)<=60 by omega)
 unfold numK
 split
 ·exact ⟨by omega,fun _=>by omega⟩
 ·exact ⟨by omega,fun h=>by omega⟩
theorem zv3 (k:Int) {s:Nat} (hs:1<=s/\s<=32):znu (zay s (numK k s)) s/\(zay s (numK k s)).length<=60:=by
 obtain ⟨k1,k2⟩:=z1e k s
 obtain ⟨l1,l2,l3⟩:=zpy hs.1 k1
 have hl:numL s (numK k s)<=60:=by
  by_cases h:s<2
  ·have:=k2 h; have:=zic hs.1 (numL s (numK k s)); omega
  ·have h9:gsum s (numL s (numK k s))<=399:=by omega
   by_cases hb:numL s (numK k s)<=60
   ·exact hb
   ·have h1:=zws (show 2<=s by omega) (numL s (numK k s))
    have h2:2^10<=2^numL s (numK k s):=Nat.pow_le_pow_right (by omega) (by omega)
    omega
 have h:=zz5 hs.1 (numL s (numK k s)) (numK k s - gsum s (numL s (numK k s))) [] (fun c hc=>by cases hc)
 have hlen:(zay s (numK k s)).length=numL s (numK k s):=by have:=h.2; simpa [zay] using this
 exact ⟨⟨by omega,by omega,h.1⟩,by omega⟩
end Go.Ab
namespace Go.Ab
theorem yc0 {A:GAuto} (hL:labI A) {q j:Nat} (hj:j<(zaj A.arcs q).length) {c:Int} (hc:(zaj A.arcs q)[j].l<c) (L:Nat):∀ i,i<=(zaj A.arcs q).length->sumJ A L q (min i (j+1))<=lowS A q c L i
 | 0,_=>by simp [lowS,sumJ]
 | i+1,hi=>by
  have ih:=yc0 hL hj hc L i (by omega)
  have hil:i<(zaj A.arcs q).length:=by omega
  rw [zek A q _ L hil]
  by_cases h:i<=j
  ·have hl:(zaj A.arcs q)[i].l<c:=by
    by_cases e:i=j
    ·subst e; exact hc
    ·have:=zqd hL hil hj (by omega); omega
   rw [if_pos hl,show min (i+1) (j+1)=i+1 by omega,zfe A L q hil]
   rw [show min i (j+1)=i by omega] at ih
   omega
  ·rw [show min (i+1) (j+1)=j+1 by omega]
   rw [show min i (j+1)=j+1 by omega] at ih
   omega
def lexL:List Int->List Int->Prop
 | [],_=>False
 | _::_,[]=>False
 | c::v,d::w=>c<d\/(c=d/\lexL v w)
noncomputable def eqS (A:GAuto) (q:Nat) (c:Int) (L j:Nat):Nat:=(((zaj A.arcs q).take j).map fun x=>if x.l=c then cnA A L x.t.toNat else 0).sum
theorem zw5 (A:GAuto) (q:Nat) (c:Int) (L:Nat) {j:Nat} (h:j<(zaj A.arcs q).length):eqS A q c L (j+1)=eqS A q c L j+if (zaj A.arcs q)[j].l=c then cnA A L (zaj A.arcs q)[j].t.toNat else 0:=by
 unfold eqS
 rw [List.take_succ_eq_append_getElem h,List.map_append,List.sum_append]; simp
theorem z7q (A:GAuto) (q:Nat) (c:Int) (L:Nat):∀ i,i<=(zaj A.arcs q).length->lowS A q (c+1) L i=lowS A q c L i+eqS A q c L i
 | 0,_=>by simp [lowS,eqS]
 | i+1,hi=>by
  have ih:=z7q A q c L i (by omega)
  have hil:i<(zaj A.arcs q).length:=by omega
  rw [zek A q _ L hil,zek A q _ L hil,zw5 A q _ L hil,ih]
  rcases Int.lt_trichotomy (zaj A.arcs q)[i].l c with h|h|h
  ·rw [if_pos (by omega),if_pos h,if_neg (by omega)]; omega
  ·rw [if_pos (by omega),if_neg (by omega),if_pos h]; omega
  ·rw [if_neg (by omega),if_neg (by omega),if_neg (by omega)]; omega
theorem zr4 {A:GAuto} {q:Nat} {c:Int}:∀ i,i<=(zaj A.arcs q).length->0<=nxtJ A q c i->∃ j,∃ h:j<(zaj A.arcs q).length,j<i/\(zaj A.arcs q)[j].l=c
 | 0,_,h=>by simp [nxtJ] at h
 | i+1,hi,h=>by
  rw [zfi A q c (show i<_ by omega)] at h
  by_cases hc:(zaj A.arcs q)[i].l=c
  ·exact ⟨i,by omega,by omega,hc⟩
  ·rw [if_neg hc] at h
   obtain ⟨j,h1,h2,h3⟩:=zr4 i (by omega) h
   exact ⟨j,h1,by omega,h3⟩
theorem z2s {A:GAuto} {N:Nat} (hA:CtrOk A N) (hL:labI A) (q:Nat) (c:Int) (L:Nat):∀ i,i<=(zaj A.arcs q).length->eqS A q c L i=if nxtJ A q c i<0 then 0 else cnA A L (nxtJ A q c i).toNat
 | 0,_=>by simp [eqS,nxtJ]
 | i+1,hi=>by
  have ih:=z2s hA hL q c L i (by omega)
  have hil:i<(zaj A.arcs q).length:=by omega
  rw [zw5 A q c L hil,zfi A q c hil]
  by_cases hc:(zaj A.arcs q)[i].l=c
  ·have hn:nxtJ A q c i<0:=by
    by_cases h:nxtJ A q c i<0
    ·exact h
    ·obtain ⟨j,h1,h2,h3⟩:=zr4 i (by omega) (show 0<=nxtJ A q c i by omega)
     have:=zqd hL h1 hil h2
     omega
   have hmem:(zaj A.arcs q)[i]∈A.arcs:=(List.mem_filter.1 (List.getElem_mem hil)).1
   have ht:=hA.t _ hmem
   rw [if_pos hn] at ih
   rw [if_pos hc,if_pos hc,if_neg (by omega),ih]; omega
  ·rw [if_neg hc,if_neg hc,ih]; omega
theorem zwf {A:GAuto} (hl:∀ x∈A.arcs,1<=x.l) (q L:Nat):∀ i,i<=(zaj A.arcs q).length->lowS A q 1 L i=0
 | 0,_=>by simp [lowS]
 | i+1,hi=>by
  have hil:i<(zaj A.arcs q).length:=by omega
  have:=hl _ (List.mem_filter.1 (List.getElem_mem hil)).1
  rw [zek A q _ L hil,zwf hl q L i (by omega),if_neg (by omega)]
theorem z1x {A:GAuto} {sy:Int} (hl:∀ x∈A.arcs,x.l<=sy) (q L:Nat):∀ i,i<=(zaj A.arcs q).length->lowS A q (sy+1) L i=sumJ A L q i
 | 0,_=>by simp [lowS,sumJ]
 | i+1,hi=>by
  have hil:i<(zaj A.arcs q).length:=by omega
  have:=hl _ (List.mem_filter.1 (List.getElem_mem hil)).1
  rw [zek A q _ L hil,z1x hl q L i (by omega),if_pos (by omega),zfe A L q hil]
end Go.Ab
namespace Go.Ab
def nxW (sy:Int):List Int->Option (List Int)
 | []=>none
 | c::w=>match nxW sy w with
  | some w'=>some (c::w')
  | none=>if c<sy then some ((c+1)::List.replicate w.length 1) else none
def scW (sy:Int) (w:List Int):List Int:=(nxW sy w).getD (List.replicate (w.length+1) 1)
structure LabB (A:GAuto) (sy:Int):Prop where
 lo:∀ x∈A.arcs,1<=x.l
 hi:∀ x∈A.arcs,x.l<=sy
theorem zpx {sy:Int}:∀ {w w':List Int},nxW sy w=some w'->w'.length=w.length
 | [],_,h=>by cases h
 | c::w,w',h=>by
  simp only [nxW] at h
  split at h
  ·rename_i v hv
   cases h
   rw [List.length_cons,List.length_cons,zpx hv]
  ·split at h
   ·cases h; simp
   ·cases h
theorem zpl {A:GAuto} {sy:Int} (hB:LabB A sy):∀ (L:Nat) (q:Int),(rkR A q (List.replicate L 1)).1=0
 | 0,q=>rfl
 | L+1,q=>by
  rw [List.replicate_succ]
  simp only [rkR]
  by_cases hq:q<0
  ·rw [if_pos hq]
  ·rw [if_neg hq]
   simp only [zwf hB.lo _ _ _ (Nat.le_refl _),zpl hB L,Nat.add_zero]
noncomputable def acc1 (A:GAuto) (q:Int) (w:List Int):Nat:=(endB A (rkR A q w).2).toNat
theorem zt7 (b:Bool):(if b=true then 1 else 0)=b.toNat:=by cases b<;>rfl
theorem znc {A:GAuto} {q:Int} (hq:¬ q<0) (c:Int) (w:List Int):acc1 A q (c::w)=acc1 A (nxtJ A q.toNat c (zaj A.arcs q.toNat).length) w:=by
 unfold acc1; simp only [rkR]; rw [if_neg hq]
theorem zq4 {A:GAuto} {q:Int} (hq:q<0) (w:List Int):acc1 A q w=0:=by
 unfold acc1; rw [zgt A hq]; simp only [z6m A hq]; rfl
noncomputable def cnZ (A:GAuto) (L:Nat) (q:Int):Nat:=if q<0 then 0 else cnA A L q.toNat
theorem zwg {A:GAuto} {N:Nat} (hA:CtrOk A N) (hL:labI A) (q:Nat) (c:Int) (L:Nat):lowS A q (c+1) L (zaj A.arcs q).length=lowS A q c L (zaj A.arcs q).length+cnZ A L (nxtJ A q c (zaj A.arcs q).length):=by
 rw [z7q A q c L _ (Nat.le_refl _),z2s hA hL q c L _ (Nat.le_refl _)]; rfl
theorem z0e {A:GAuto} {N:Nat} (hA:CtrOk A N) (hL:labI A) {sy:Int} (hB:LabB A sy):∀ (w:List Int) (q:Int),(∀ c∈w,c<=sy)->nxW sy w=none->(rkR A q w).1+acc1 A q w=cnZ A w.length q
 | [],q,_,_=>by
  by_cases hq:q<0
  ·rw [zq4 hq]; unfold cnZ; rw [if_pos hq]; rfl
  ·unfold cnZ acc1
   rw [if_neg hq]
   obtain ⟨n,rfl⟩:∃ n:Nat,q=(n:Int):=⟨q.toNat,by omega⟩
   rw [Int.toNat_natCast,List.length_nil,yaq,zt7]
   simp only [rkR]; omega
 | c::w,q,hw,hn=>by
  by_cases hq:q<0
  ·rw [zq4 hq,zgt A hq]; unfold cnZ; rw [if_pos hq]
  ·simp only [nxW] at hn
   split at hn
   ·cases hn
   rename_i hn2
   split at hn
   ·cases hn
   rename_i hc
   have hcs:c=sy:=by have:=hw c List.mem_cons_self; omega
   subst hcs
   have ih:=z0e hA hL hB w (nxtJ A q.toNat c (zaj A.arcs q.toNat).length) (fun d hd=>hw d (List.mem_cons_of_mem _ hd)) hn2
   rw [znc hq]
   simp only [rkR]
   rw [if_neg hq]
   simp only
   have h1:=zwg hA hL q.toNat c w.length
   have h2:=z1x hB.hi q.toNat w.length _ (Nat.le_refl _)
   have h3:=zpf A w.length q.toNat
   have h4:cnZ A (w.length+1) q=cnA A (w.length+1) q.toNat:=if_neg hq
   rw [List.length_cons,h4]
   omega
theorem z0d {A:GAuto} {N:Nat} (hA:CtrOk A N) (hL:labI A) {sy:Int} (hB:LabB A sy):∀ (w w':List Int) (q:Int),(∀ c∈w,c<=sy)->nxW sy w=some w'->(rkR A q w').1=(rkR A q w).1+acc1 A q w
 | [],_,_,_,h=>by cases h
 | c::w,w',q,hw,hn=>by
  by_cases hq:q<0
  ·rw [zq4 hq,zgt A hq,zgt A hq]
  ·simp only [nxW] at hn
   split at hn
   ·rename_i v hv
    cases hn
    have ih:=z0d hA hL hB w v (nxtJ A q.toNat c (zaj A.arcs q.toNat).length) (fun d hd=>hw d (List.mem_cons_of_mem _ hd)) hv
    rw [znc hq]
    simp only [rkR]
    rw [if_neg hq,if_neg hq]
    simp only
    rw [zpx hv]
    omega
   ·rename_i hv
    split at hn
    ·cases hn
     have ih:=z0e hA hL hB w (nxtJ A q.toNat c (zaj A.arcs q.toNat).length) (fun d hd=>hw d (List.mem_cons_of_mem _ hd)) hv
     rw [znc hq]
     simp only [rkR]
     rw [if_neg hq,if_neg hq]
     simp only
     rw [zpl hB,List.length_replicate]
     have h1:=zwg hA hL q.toNat c w.length
     omega
    ·cases hn
theorem z44 {A:GAuto} {N:Nat} (hA:CtrOk A N) (hL:labI A) {sy:Int} (hB:LabB A sy) (s:Int) {w:List Int} (hw:∀ c∈w,c<=sy):(rkA A s (scW sy w)).1=nxK A s w:=by
 have hk:nxK A s w=bN A s w.length+(rkR A s w).1+acc1 A s w:=by
  unfold nxK acc1; rw [zvi,zt7]
 rw [hk,zvi]
 unfold scW
 simp only
 cases h:nxW sy w with
 | some w' =>
  simp only [Option.getD_some]
  rw [zpx h,z0d hA hL hB w w' s hw h]; omega
 | none =>
  simp only [Option.getD_none]
  rw [zpl hB,List.length_replicate,Nat.add_assoc,z0e hA hL hB w s hw h]
  simp only [bN]
  rfl
end Go.Ab
namespace Go.Ab
open Enc (enc)
attribute [local go_sem] zam Opd.slots
end Go.Ab
namespace Go.Ab
def slt (v w:List Int):Prop:=v.length<w.length\/(v.length=w.length/\lexL v w)
theorem zon:∀ (v w:List Int),v.length=w.length->(lexI v w<0/\lexL v w)\/(lexI v w=0/\v=w)\/(0<lexI v w/\lexL w v)
 | [],[],_=>.inr (.inl ⟨rfl,rfl⟩)
 | [],_::_,h=>by simp at h
 | _::_,[],h=>by simp at h
 | c::v,d::w,h=>by
  have ih:=zon v w (by simpa using h)
  simp only [lexI,lexL]
  by_cases h1:c<d
  ·rw [if_pos h1]; exact .inl ⟨by omega,.inl h1⟩
  ·rw [if_neg h1]
   by_cases h2:d<c
   ·rw [if_pos h2]; exact .inr (.inr ⟨by omega,.inl h2⟩)
   ·rw [if_neg h2]
    have e:c=d:=by omega
    subst e
    rcases ih with ⟨a,b⟩|⟨a,rfl⟩|⟨a,b⟩
    ·exact .inl ⟨a,.inr ⟨rfl,b⟩⟩
    ·exact .inr (.inl ⟨a,rfl⟩)
    ·exact .inr (.inr ⟨a,.inr ⟨rfl,b⟩⟩)
theorem zo3 (v w:List Int):(cmp5 v w<0/\slt v w)\/(cmp5 v w=0/\v=w)\/(0<cmp5 v w/\slt w v):=by
 unfold cmp5 slt
 by_cases h:v.length=w.length
 ·rw [if_neg (by simpa using h)]
  rcases zon v w h with ⟨a,b⟩|⟨a,b⟩|⟨a,b⟩
  ·exact .inl ⟨a,.inr ⟨h,b⟩⟩
  ·exact .inr (.inl ⟨a,b⟩)
  ·exact .inr (.inr ⟨a,.inr ⟨h.symm,b⟩⟩)
 ·rw [if_pos h]
  by_cases h2:v.length<w.length
  ·rw [if_pos h2]; exact .inl ⟨by omega,.inl h2⟩
  ·rw [if_neg h2]; exact .inr (.inr ⟨by omega,.inl (by omega)⟩)
section
variable {A:GAuto} {N:Nat} (hA:CtrOk A N) (hL:labI A)
include hA hL
end
end Go.Ab
namespace Go.Ab
open Enc (enc)
attribute [local go_sem] zam Opd.slots
theorem DetA.labB {a:GAuto} {n:Nat} (h:DetA a n):LabB a.nf a.sy:=by
 have key:∀ x∈a.nf.arcs,1<=x.l/\x.l<=a.sy:=fun x hx=>by
  have k1:=(zv6 h.ok).arcs x hx
  have k2:=h.eps x hx
  have k3:=k1.2.2.2.2.1
  have k4:x.l<=a.sy:=k1.2.2.2.2.2.1
  omega
 exact ⟨fun x hx=>(key x hx).1,fun x hx=>(key x hx).2⟩
theorem zsb:∀ w:List Int,lexI w w=0
 | []=>rfl
 | c::w=>by simp only [lexI]; rw [if_neg (by omega),if_neg (by omega),zsb w]
theorem z3h (w:List Int):cmp5 w w=0:=by unfold cmp5; rw [if_neg (by simp),zsb]
end Go.Ab
namespace Go.Ab
theorem zom:∀ {u v w:List Int},lexL u v->lexL v w->lexL u w
 | [],_,_,h,_=>h.elim
 | _::_,[],_,h,_=>h.elim
 | _::_,_::_,[],_,h=>h.elim
 | a::u,b::v,c::w,h,k=>by
  simp only [lexL] at h k ⊢
  rcases h with h|⟨rfl,h⟩<;>rcases k with k|⟨rfl,k⟩
  ·exact .inl (by omega)
  ·exact .inl h
  ·exact .inl k
  ·exact .inr ⟨rfl,zom h k⟩
theorem zmd:∀ {u:List Int},¬ lexL u u
 | [],h=>h
 | a::u,h=>by
  simp only [lexL] at h
  rcases h with h|⟨_,h⟩
  ·omega
  ·exact zmd h
theorem zlm {u v w:List Int} (h:slt u v) (k:slt v w):slt u w:=by
 unfold slt at *
 rcases h with h|⟨h,h'⟩<;>rcases k with k|⟨k,k'⟩
 ·exact .inl (by omega)
 ·exact .inl (by omega)
 ·exact .inl (by omega)
 ·exact .inr ⟨by omega,zom h' k'⟩
theorem zhl {u:List Int}:¬ slt u u:=by
 rintro (h|⟨_,h⟩)
 ·omega
 ·exact zmd h
theorem z1d {sy:Int}:∀ {w w':List Int},nxW sy w=some w'->lexL w w'
 | [],_,h=>by cases h
 | c::w,w',h=>by
  simp only [nxW] at h
  split at h
  ·rename_i v hv
   cases h
   exact .inr ⟨rfl,z1d hv⟩
  ·split at h
   ·cases h; exact .inl (by omega)
   ·cases h
theorem zz7 (sy:Int) (w:List Int):slt w (scW sy w):=by
 unfold scW
 cases h:nxW sy w with
 | some w'=>exact .inr ⟨(zpx h).symm,z1d h⟩
 | none=>exact .inl (by simp)
theorem z3i {u v:List Int} (h:slt u v):cmp5 u v<0/\¬ cmp5 v u<0:=by
 constructor
 ·rcases zo3 u v with ⟨a,b⟩|⟨a,rfl⟩|⟨a,b⟩
  ·exact a
  ·exact absurd h zhl
  ·exact absurd (zlm h b) zhl
 ·intro hc
  rcases zo3 v u with ⟨a,b⟩|⟨a,rfl⟩|⟨a,b⟩
  ·exact absurd (zlm h b) zhl
  ·exact absurd h zhl
  ·omega
theorem zv2 {sy d:Int}:∀ u:List Int,nxW sy (u++[d])=if d<sy then some (u++[d+1]) else (nxW sy u).map (· ++ [1])
 | []=>by
  simp only [List.nil_append,nxW]
  split<;>simp
 | c::u=>by
  have ih:=zv2 (sy:=sy) (d:=d) u
  simp only [List.cons_append,nxW,ih]
  by_cases h:d<sy
  ·simp [h]
  ·simp only [if_neg h]
   cases h2:nxW sy u with
   | some v=>simp
   | none =>
    simp only [Option.map_none]
    split
    ·simp only [Option.map_some,List.cons_append]
     rw [List.length_append,List.length_singleton,List.replicate_succ']
    ·rfl
def dg (s:Nat):Nat->Nat->List Int
 | 0,_=>[]
 | n+1,r=>dg s n (r / s)++[(1+(r % s:Nat):Int)]
theorem zn1 (s:Nat):∀ n r acc,sfW s n r acc=dg s n r++acc
 | 0,_,_=>rfl
 | n+1,r,acc=>by
  show sfW s n (r / s) _=_
  rw [zn1 s n]; simp [dg]
theorem z3e (s:Nat):∀ n r,(dg s n r).length=n
 | 0,_=>rfl
 | n+1,r=>by simp [dg,z3e s n]
theorem zun {s:Nat} (hs:1<=s):∀ n,dg s n 0=List.replicate n 1
 | 0=>rfl
 | n+1=>by
  rw [List.replicate_succ',<- zun hs n]
  simp [dg]
theorem z3d {s:Nat} (hs:1<=s):∀ n r,r<s^n->nxW s (dg s n r)=if r+1<s^n then some (dg s n (r+1)) else none
 | 0,r,h=>by
  have:r=0:=by simpa using h
  subst this
  simp [dg,nxW]
 | n+1,r,h=>by
  have hm:=Nat.mod_lt r (show 0<s by omega)
  have hdm:=Nat.div_add_mod r s
  have hd:r / s<s^n:=by
   rw [Nat.div_lt_iff_lt_mul (by omega)]; rw [Nat.pow_succ] at h; exact h
  have ih:=z3d hs n (r / s) hd
  simp only [dg]
  rw [zv2]
  have hle:(r / s+1)*s<=s^n*s:=Nat.mul_le_mul_right s hd
  rw [Nat.pow_succ] at h ⊢
  rw [Nat.add_mul,Nat.one_mul,Nat.mul_comm] at hle
  by_cases hc:r % s+1<s
  ·have e1:(r+1) / s=r / s:=by
    rw [Nat.div_eq_iff (by omega)]
    generalize r / s=q at *
    rw [Nat.mul_comm q s]
    omega
   have e2:(r+1) % s=r % s+1:=by
    have:=Nat.div_add_mod (r+1) s
    rw [e1] at this; omega
   rw [if_pos (by omega),if_pos (by omega),e1,e2]
   simp only [Option.some.injEq]
   congr 2
  ·have hc':r % s+1=s:=by omega
   have e1:(r+1) / s=r / s+1:=by
    rw [Nat.div_eq_iff (by omega)]
    generalize r / s=q at *
    rw [Nat.add_mul,Nat.one_mul,Nat.mul_comm q s]
    omega
   have e2:(r+1) % s=0:=by
    have:=Nat.div_add_mod (r+1) s
    rw [e1,Nat.mul_add,Nat.mul_one] at this; omega
   rw [if_neg (by omega),ih,e1,e2]
   by_cases h3:r / s+1<s^n
   ·have:r+1<s^n*s:=by
     have h5:(r / s+1+1)*s<=s^n*s:=Nat.mul_le_mul_right s h3
     rw [Nat.add_mul,Nat.add_mul,Nat.one_mul,Nat.mul_comm (r / s) s] at h5
     omega
    rw [if_pos h3,if_pos this]
    simp
   ·have h4:r / s+1=s^n:=by omega
    have:¬ r+1<s^n*s:=by
     rw [<- h4,Nat.add_mul,Nat.one_mul,Nat.mul_comm (r / s) s]
     omega
    rw [if_neg h3,if_neg this]; rfl
theorem zod {s k:Nat} (hs:1<=s) (hk:k+1<400):zay s (k+1)=scW s (zay s k):=by
 obtain ⟨l1,l2,l3⟩:=zpy hs (show k<400 by omega)
 have hg:gsum s (numL s k+1)=gsum s (numL s k)+s^numL s k:=rfl
 have hw:zay s k=dg s (numL s k) (k - gsum s (numL s k)):=by
  unfold zay; rw [zn1,List.append_nil]
 have hnx:=z3d hs (numL s k) (k - gsum s (numL s k)) (by omega)
 unfold scW
 rw [hw,hnx]
 by_cases h:k+1<gsum s (numL s k+1)
 ·have hL:numL s (k+1)=numL s k:=zej l1 (by omega) h
  rw [if_pos (by omega),Option.getD_some]
  unfold zay; rw [zn1,List.append_nil,hL]
  congr 1; omega
 ·have hl2:numL s k+1<=k+1:=Nat.le_trans (zic hs _) (by omega)
  have hg2:gsum s (numL s k+1+1)=gsum s (numL s k+1)+s^(numL s k+1):=rfl
  have hp:0<s^(numL s k+1):=Nat.pow_pos (by omega)
  have hL:numL s (k+1)=numL s k+1:=zej (by omega) (by omega) (by omega)
  rw [if_neg (by omega),Option.getD_none,z3e]
  unfold zay; rw [zn1,List.append_nil,hL,show k+1 - gsum s (numL s k+1)=0 by omega,zun hs]
theorem zr6 {s k:Nat} (hs:1<=s) (hk:k<400):(zay s k).length=numL s k:=by
 unfold zay; rw [zn1,List.append_nil,z3e]
theorem zr5 {s:Nat} (hs:1<=s) {j m:Nat} (h:j<m) (hm:m<400):slt (zay s j) (zay s m):=by
 induction m with
 | zero=>omega
 | succ m ih =>
  rw [zod hs hm]
  by_cases e:j=m
  ·subst e; exact zz7 _ _
  ·exact zlm (ih (by omega) (by omega)) (zz7 _ _)
end Go.Ab
namespace Go.Ab
def cntP (p:Nat->Bool):Nat->Nat
 | 0=>0
 | j+1=>cntP p j+(p j).toNat
theorem zie (p:Nat->Bool):∀ j,cntP p j<=j
 | 0=>Nat.le_refl _
 | j+1=>by
  have ih:=zie p j
  have:(p j).toNat<=1:=Bool.toNat_le _
  simp only [cntP]; omega
noncomputable def ze6 (A:GAuto) (s:Int) (w:List Int):Bool:=endB A (rkA A s w).2
noncomputable def rkW (A:GAuto) (s:Int) (S j:Nat):Nat:=(rkA A s (zay S j)).1
theorem zlz {s k l:Nat} (hs:1<=s) (hk:k<400):numL s k<=l ↔ k<gsum s (l+1):=by
 obtain ⟨l1,l2,l3⟩:=zpy hs hk
 constructor
 ·intro h
  exact Nat.lt_of_lt_of_le l3 (zg1 (zfl s) (by omega))
 ·intro h
  by_cases hh:numL s k<=l
  ·exact hh
  ·have:=zg1 (zfl s) (show l+1<=numL s k by omega)
   omega
section
variable {A:GAuto} {N:Nat} (hA:CtrOk A N) (hL:labI A) {S:Nat} (hS:1<=S) (hB:LabB A (S:Int)) (s:Int)
include hA hL hS hB
theorem z43 {j:Nat} (hj:j+1<400):rkW A s S (j+1)=rkW A s S j+(ze6 A s (zay S j)).toNat:=by
 have hok:∀ c∈zay S j,c<=(S:Int):=by
  intro c hc
  have h:=zz5 hS (numL S j) (j - gsum S (numL S j)) [] (fun c hc=>by cases hc)
  exact (h.1 c hc).2
 unfold rkW
 rw [zod hS hj,z44 hA hL hB s hok]
 unfold nxK ze6
 rw [zt7]
theorem zkx {l:Nat} (hl:gsum S l<400):rkW A s S (gsum S l)=bN A s l:=by
 have hg:gsum S (l+1)=gsum S l+S^l:=rfl
 have hp:0<S^l:=Nat.pow_pos (by omega)
 have hll:=zic hS l
 have hL2:numL S (gsum S l)=l:=zej (by omega) (Nat.le_refl _) (by omega)
 unfold rkW
 have e:zay S (gsum S l)=List.replicate l 1:=by
  unfold zay; rw [zn1,List.append_nil,hL2,Nat.sub_self,zun hS]
 rw [e,zvi,zpl hB,List.length_replicate]; rfl
theorem zs2 (m:Nat) (p:Nat->Bool) (hp:∀ i,i<400->p i=decide (i<m)):∀ j,j<400->cntP (fun i=>ze6 A s (zay S i)&&p i) j=rkW A s S (min j m)
 | 0,_=>by
  have h0:=zkx hA hL hS hB s (l:=0) (by simp [gsum])
  rw [show gsum S 0=0 from rfl] at h0
  rw [Nat.zero_min,h0]; rfl
 | j+1,hj=>by
  have ih:=zs2 m p hp j (by omega)
  simp only [cntP,ih,hp j (by omega)]
  by_cases h:j<m
  ·rw [show min (j+1) m=j+1 by omega,show min j m=j by omega,z43 hA hL hS hB s hj]
   simp [h]
  ·rw [show min (j+1) m=m by omega,show min j m=m by omega]
   simp [h]
theorem ydx (l:Nat) (hl:gsum S (l+1)<400) {j:Nat} (hj:j<400) (hj2:gsum S (l+1)<=j):cntP (fun i=>ze6 A s (zay S i)&&decide (numL S i=l)) j+bN A s l=bN A s (l+1):=by
 have h1:=zs2 hA hL hS hB s (gsum S (l+1)) (fun i=>decide (i<gsum S (l+1))) (fun _ _=>rfl) j hj
 have h0:=zs2 hA hL hS hB s (gsum S l) (fun i=>decide (i<gsum S l)) (fun _ _=>rfl) j hj
 have hm:=zfl S l
 rw [show min j (gsum S (l+1))=gsum S (l+1) by omega,zkx hA hL hS hB s hl] at h1
 rw [show min j (gsum S l)=gsum S l by omega,zkx hA hL hS hB s (by omega)] at h0
 have key:∀ k,k<=j->cntP (fun i=>ze6 A s (zay S i)&&decide (numL S i=l)) k+cntP (fun i=>ze6 A s (zay S i)&&decide (i<gsum S l)) k=cntP (fun i=>ze6 A s (zay S i)&&decide (i<gsum S (l+1))) k:=by
  intro k
  induction k with
  | zero=>intro _; rfl
  | succ k ih =>
   intro hk
   have ih:=ih (by omega)
   simp only [cntP]
   have e1:=zlz (l:=l) hS (show k<400 by omega)
   have e2:numL S k<l ↔ k<gsum S l:=by
    cases l with
    | zero=>simp [gsum]
    | succ l=>exact (Nat.lt_succ_iff).trans (zlz hS (by omega))
   have:(ze6 A s (zay S k)&&decide (numL S k=l)).toNat+(ze6 A s (zay S k)&&decide (k<gsum S l)).toNat=(ze6 A s (zay S k)&&decide (k<gsum S (l+1))).toNat:=by
    cases ze6 A s (zay S k) with
    | false=>rfl
    | true =>
     simp only [Bool.true_and]
     rcases Nat.lt_trichotomy (numL S k) l with h|h|h
     ·rw [decide_eq_false (show ¬ numL S k=l by omega),decide_eq_true (e2.1 h),decide_eq_true (e1.1 (by omega))]; rfl
     ·rw [decide_eq_true h,decide_eq_false (show ¬ k<gsum S l from fun x=>by have:=e2.2 x; omega),decide_eq_true (e1.1 (by omega))]; rfl
     ·rw [decide_eq_false (show ¬ numL S k=l by omega),decide_eq_false (show ¬ k<gsum S l from fun x=>by have:=e2.2 x; omega),decide_eq_false (show ¬ k<gsum S (l+1) from fun x=>by have:=e1.2 x; omega)]; rfl
   omega
 have:=key j (Nat.le_refl _)
 omega
theorem yap (l:Nat) (hl:gsum S (l+1)<400) {j:Nat} (hj:j<400) (hj2:gsum S (l+1)<=j):cntP (fun i=>ze6 A s (zay S i)&&decide (numL S i<=l)) j=bN A s (l+1):=by
 have h1:=zs2 hA hL hS hB s (gsum S (l+1)) (fun i=>decide (numL S i<=l)) (fun i hi=>by rw [decide_eq_decide]; exact zlz hS hi) j hj
 rw [h1,show min j (gsum S (l+1))=gsum S (l+1) by omega,zkx hA hL hS hB s hl]
theorem yao {m:Nat} (hm:m<400) {j:Nat} (hj:j<400) (hj2:m<=j):cntP (fun i=>ze6 A s (zay S i)&&decide (cmp5 (zay S i) (zay S m)<0)) j=rkW A s S m:=by
 have h1:=zs2 hA hL hS hB s m (fun i=>decide (cmp5 (zay S i) (zay S m)<0)) (fun i hi=>by
  rw [decide_eq_decide]
  constructor
  ·intro h
   rcases Nat.lt_trichotomy i m with x|x|x
   ·exact x
   ·subst x; rw [z3h] at h; omega
   ·exact absurd h (z3i (zr5 hS x hi)).2
  ·intro h; exact (z3i (zr5 hS h hm)).1) j hj
 rw [h1,show min j m=m by omega]
end
end Go.Ab
namespace Go.Ab
open Enc (enc)
attribute [local go_sem] zam Opd.slots
theorem yc3 {S:Nat} (h:1<=S/\S<=3):gsum S 5<=121/\(S<2->gsum S 5<60):=by
 have:S=1\/S=2\/S=3:=by omega
 rcases this with rfl|rfl|rfl<;>decide
theorem z5s {S i:Nat} (hi:i<=121) (h2:S<2->i<60):numK (i:Int) S=i:=by
 have e1:wthn (i:Int) 400=(i:Int):=by unfold wthn; rw [if_neg (by omega)]; exact Int.emod_eq_of_lt (by omega) (by omega)
 unfold numK
 rw [e1]
 split
 ·have:=h2 (by omega)
  have e2:wthn (i:Int) 60=(i:Int):=by unfold wthn; rw [if_neg (by omega)]; exact Int.emod_eq_of_lt (by omega) (by omega)
  rw [e2]; omega
 ·omega
noncomputable def nC (A:GAuto) (s:Int) (S l i:Nat):Nat:=cntP (fun i=>ze6 A s (zay S i)&&decide (numL S i=l)) i
noncomputable def aC (A:GAuto) (s:Int) (S l i:Nat):Nat:=cntP (fun i=>ze6 A s (zay S i)&&decide (numL S i<=l)) i
noncomputable def bC (A:GAuto) (s:Int) (S:Nat) (word:List Int) (i:Nat):Nat:=cntP (fun i=>ze6 A s (zay S i)&&decide (cmp5 (zay S i) word<0)) i
noncomputable def exS (a:GAuto) (S l:Nat) (word:List Int) (i:Nat):St :=
 mkSt [(1,.p (.int .i64 l)),(7,.ptr 7 0 0 0),(8,.p (.sl (ens word))),(9,.p (.int .i64 (nC a.nf (stN a) S l i))),(10,.p (.int .i64 (aC a.nf (stN a) S l i))),(11,.p (.int .i64 (bC a.nf (stN a) S word i))),(12,.p (.int .i64 i))] [(7,⟨7,[.p (enc a)]⟩)]
theorem yaa {a:GAuto} (hM:MdlA a) {S:Nat} (hsy:a.sy=(S:Int)) (hS:1<=S/\S<=3) {l:Nat} {word:List Int} {Q:Exit->St->Prop} {ks:List Kt} {st:St} (hw:Weak st (exS a S l word 0))
  (hx:zen P 125 Q (zbn 0 ks) 0 ⟨(exS a S l word (gsum S 5)).sl++[(13,.p (.sl (ens (zay S (gsum S 5)))))],(exS a S l word (gsum S 5)).hp⟩):vL P 125 Q g.nk ks st:=by
 obtain ⟨g1,g2⟩:=yc3 hS
 refine zai (S:=fun i:Nat=>exS a S l word i) (I:=fun i=>i<=gsum S 5) (m:=fun i=>gsum S 5 - i) 0 hw (by omega) ?_
 rintro i hi R hn' hr hx'
 have e1:=i64s i (by omega)
 have hnk:numK (i:Int) S=i:=z5s (by omega) (fun h=>by have:=g2 h; omega)
 have hnum:=zoc (i:Int) S (by omega)
 have hok:=zv3 (i:Int) (s:=S) (by omega)
 rw [hnk] at hnum hok
 have hlen:=zr6 (s:=S) (k:=i) hS.1 (by omega)
 have hi4:(i:Int)<400:=by omega
 have n1:nC a.nf (stN a) S l i<=i:=zie _ _
 have n2:aC a.nf (stN a) S l i<=i:=zie _ _
 have n3:bC a.nf (stN a) S word i<=i:=zie _ _
 have s1:nC a.nf (stN a) S l (i+1)=nC a.nf (stN a) S l i+(ze6 a.nf (stN a) (zay S i)&&decide (numL S i=l)).toNat:=rfl
 have s2:aC a.nf (stN a) S l (i+1)=aC a.nf (stN a) S l i+(ze6 a.nf (stN a) (zay S i)&&decide (numL S i<=l)).toNat:=rfl
 have s3:bC a.nf (stN a) S word (i+1)=bC a.nf (stN a) S word i+(ze6 a.nf (stN a) (zay S i)&&decide (cmp5 (zay S i) word<0)).toNat:=rfl
 by_cases hlt:i<gsum S 5
 ·have hl4:numL S i<=4:=(zlz hS.1 (by omega)).2 hlt
  have hau:=zo4 hM (zay S i) (by rw [hsy]; exact hok.1)
  rw [z30 hM (w:=zay S i) hok.1.2.1] at hau
  rw [show endB a.nf (rkA a.nf (stN a) (zay S i)).2=ze6 a.nf (stN a) (zay S i) from rfl] at hau
  have hcm:=zm3 (zay S i) word (by omega)
  have hend:∀ st',Weak st' (exS a S l word (i+1))->R .normal st':=fun st' h=>hn' (i+1) st' h (by omega) (by omega)
  have hl4':¬ 4<(numL S i:Int):=by omega
  have hl4'':¬ 4<numL S i:=by omega
  have w1:IntKind.i64.wrap ((nC a.nf (stN a) S l i:Int)+1)=((nC a.nf (stN a) S l i+1:Nat):Int):=i64w (by omega) (by omega)
  have w2:IntKind.i64.wrap ((aC a.nf (stN a) S l i:Int)+1)=((aC a.nf (stN a) S l i+1:Nat):Int):=i64w (by omega) (by omega)
  have w3:IntKind.i64.wrap ((bC a.nf (stN a) S word i:Int)+1)=((bC a.nf (stN a) S word i+1:Nat):Int):=i64w (by omega) (by omega)
  unfold exS at hend ⊢
  rw [s1,s2,s3] at hend
  generalize ze6 a.nf (stN a) (zay S i)=b at *
  generalize nC a.nf (stN a) S l i=c1 at *
  generalize aC a.nf (stN a) S l i=c2 at *
  generalize bC a.nf (stN a) S word i=c3 at *
  generalize zay S i=w at *
  generalize numL S i=len at *
  simp [g.nk,mkSt,go_sem,hi4]
  refine zaa hnum (by simp [go_sem,hsy]) ?_
  simp [go_sem,hlen,hl4',hl4'']
  refine zab hau ?_
  cases b with
  | false =>
   simp [go_sem,e1]
   exact hend _ (Weak.to [1,7,8,9,10,11,12] [((7,0),7)] (by simp [go_sem,mkSt]))
  | true =>
   simp only [Bool.true_and] at hend
   have i1:((len:Int)=(l:Int))=(len=l):=by rw [eq_iff_iff]; omega
   have i2:((len:Int)<=(l:Int))=(len<=l):=by rw [eq_iff_iff]; omega
   by_cases q1:len=l
   all_goals by_cases q2:len<=l
   all_goals by_cases q3:cmp5 w word<0
   all_goals try (exfalso; omega)
   all_goals simp [go_sem,hlen,i1,i2,q1,q2]
   all_goals first|(refine zab hcm ?_)|skip
   all_goals simp only [q1,q2,q3,decide_true,decide_false,Bool.toNat_true,Bool.toNat_false,Nat.add_zero,if_true,if_false] at hend
   all_goals simp [go_sem,w1,w2,w3,e1,q3]
   all_goals exact hend _ (Weak.to [1,7,8,9,10,11,12] [((7,0),7)] (by simp [go_sem,mkSt]))
 ·have:i=gsum S 5:=by omega
  subst this
  have hg6:gsum S 6=gsum S 5+S^5:=rfl
  have hp:0<S^5:=Nat.pow_pos (by omega)
  have hL5:numL S (gsum S 5)=5:=zej (by omega) (Nat.le_refl _) (by show gsum S 5<gsum S 6; omega)
  rw [hL5] at hlen
  simp [g.nk,exS,mkSt,go_sem,hi4]
  refine zaa hnum (by simp [go_sem,hsy]) ?_
  simp [go_sem,hlen]
  refine hx' _ _ ?_
  simpa [exS,mkSt,go_sem] using hx
end Go.Ab
namespace Go.Ab
open Enc (enc)
attribute [local go_sem] zam Opd.slots
theorem countIsExhaustive_sp (p:GPlan) (length at_:Int):Sp P F.mi [enc p,.int .i64 length,.int .i64 at_] (.pure (.bool true)):=by
 have hm:=zx0 p
 have hM:MdlA (ztc wkT { p with sg:=true } 4):=z1q rfl
 generalize ztc wkT { p with sg:=true } 4=a at *
 have hD:=hM.det
 have hA:=hD.ctr
 have hL:=hD.lab
 have hB:=hD.labB
 have hkn:=zx3
 obtain ⟨S,hsy⟩:∃ S:Nat,a.sy=(S:Int):=⟨a.sy.toNat,by have:=hM.sy; omega⟩
 have hsr:=hM.sy
 have hS:1<=S/\S<=3:=by omega
 rw [hsy] at hB
 have hlr:=zch length (show (1:Int)<=5 by omega)
 have hwl:=zdd length 5 (by omega)
 obtain ⟨l,hl⟩:∃ l:Nat,wthn length 5=(l:Int):=⟨(wthn length 5).toNat,by omega⟩
 rw [hl] at hwl hlr
 have hwa:=zdd at_ 120 (by omega)
 obtain ⟨vok,vlen⟩:=zv3 (wthn at_ 120) (s:=S) (by omega)
 have hnum:=zoc (wthn at_ 120) S (by omega)
 have hmk:=z1e (wthn at_ 120) S
 obtain ⟨g1,g2⟩:=yc3 hS
 have hgl:gsum S (l+1)<=gsum S 5:=zg1 (zfl S) (by omega)
 have c1:=ydx hA hL hS.1 hB (stN a) l (by omega) (j:=gsum S 5) (by omega) hgl
 have c2:=yap hA hL hS.1 hB (stN a) l (by omega) (j:=gsum S 5) (by omega) hgl
 have b1:nC a.nf (stN a) S l (gsum S 5)<=gsum S 5:=zie _ _
 have b2:aC a.nf (stN a) S l (gsum S 5)<=gsum S 5:=zie _ _
 have hbn:bN a.nf (stN a) (l+1)=bN a.nf (stN a) l+wcn a.nf (stN a) l:=rfl
 have d1:nC a.nf (stN a) S l (gsum S 5)=wcn a.nf (stN a) l:=by unfold nC; omega
 have d2:aC a.nf (stN a) S l (gsum S 5)=bN a.nf (stN a) (l+1):=c2
 have hml:=zr6 (s:=S) (k:=numK (wthn at_ 120) S) hS.1 hmk.1
 have c3:numL S (numK (wthn at_ 120) S)<=4->bC a.nf (stN a) S (zay S (numK (wthn at_ 120) S)) (gsum S 5)=(rkA a.nf (stN a) (zay S (numK (wthn at_ 120) S))).1:=fun h=>by
  have h5:numK (wthn at_ 120) S<gsum S 5:=(zlz hS.1 hmk.1).1 h
  exact yao hA hL hS.1 hB (stN a) hmk.1 (by omega) (by omega)
 have hlp:=fun {Q ks st}=>yaa (Q:=Q) (ks:=ks) (st:=st) hM hsy hS (l:=l) (word:=zay S (numK (wthn at_ 120) S))
 have b3:bC a.nf (stN a) S (zay S (numK (wthn at_ 120) S)) (gsum S 5)<=gsum S 5:=zie _ _
 rw [<- hml] at c3
 rw [<- hsy] at vok hnum
 have i0:exS a S l (zay S (numK (wthn at_ 120) S)) 0=mkSt [(1,.p (.int .i64 l)),(7,.ptr 7 0 0 0),(8,.p (.sl (ens (zay S (numK (wthn at_ 120) S))))),(9,.p (.int .i64 (0:Nat))),(10,.p (.int .i64 (0:Nat))),(11,.p (.int .i64 (0:Nat))),(12,.p (.int .i64 (0:Nat)))] [(7,⟨7,[.p (enc a)]⟩)]:=rfl
 have i5:exS a S l (zay S (numK (wthn at_ 120) S)) (gsum S 5)=mkSt [(1,.p (.int .i64 l)),(7,.ptr 7 0 0 0),(8,.p (.sl (ens (zay S (numK (wthn at_ 120) S))))),(9,.p (.int .i64 (nC a.nf (stN a) S l (gsum S 5)))),(10,.p (.int .i64 (aC a.nf (stN a) S l (gsum S 5)))),(11,.p (.int .i64 (bC a.nf (stN a) S (zay S (numK (wthn at_ 120) S)) (gsum S 5)))),(12,.p (.int .i64 (gsum S 5)))] [(7,⟨7,[.p (enc a)]⟩)]:=rfl
 rw [i0,i5] at hlp
 generalize zay S (numK (wthn at_ 120) S)=v at *
 have hwo:=zqr hD (n:=l) (by omega)
 have hup:=zki hD (n:=l) (by omega)
 have hrv:=zsw hD (w:=v) vok
 have hav:=zo4 hM v vok
 rw [z30 hM (w:=v) vok.2.1] at hav
 rw [d1] at b1 hlp
 rw [d2] at b2 hlp
 have hlt1:wcn a.nf (stN a) l<4294967296^1048576:=zfu (by omega)
 have hlt2:bN a.nf (stN a) (l+1)<4294967296^1048576:=zfu (by omega)
 have hw1:=zgg (wcn a.nf (stN a) l) (by omega)
 have hw2:=zgg (bN a.nf (stN a) (l+1)) (by omega)
 have hc1:=zqu _ _ hlt1 hlt1
 have hc2:=zqu _ _ hlt2 hlt2
 rw [if_neg (by omega),if_neg (by omega)] at hc1 hc2
 generalize wcn a.nf (stN a) l=n1 at *
 generalize bN a.nf (stN a) (l+1)=n2 at *
 generalize bC a.nf (stN a) S v (gsum S 5)=n3 at *
 generalize hrk:rkA a.nf (stN a) v=rv at *
 generalize endB a.nf rv.2=ev at *
 obtain ⟨q1,q2⟩:=rv
 simp only at c3 hrv
 have hw3:=zgg n3 (by omega)
 have hc3:=fun h:v.length<=4=>zqu q1 n3 (by rw [<- c3 h]; exact zfu (by omega)) (zfu (by omega))
 refine Sp.vz c.mi fun _=>?_
 simp [g.mi,go_sem]
 refine zab hm ?_
 simp [go_sem]
 refine zab hwl ?_
 simp [go_sem]
 refine zab hwa ?_
 simp [go_sem]
 refine zaa hnum (by simp [go_sem,hsy]) ?_
 simp [go_sem]
 refine hlp (Weak.to [1,7,8,9,10,11,12] [((7,0),7)] (by simp [go_sem,mkSt])) ?_
 simp [mkSt,go_sem]
 refine zab hwo ?_
 simp [go_sem]
 refine zab hup ?_
 simp [go_sem]
 refine zab hrv ?_
 simp [go_sem]
 refine zab hw1 ?_
 simp [go_sem]
 refine zab hc1 ?_
 simp [go_sem]
 refine zab hw2 ?_
 simp [go_sem]
 refine zab hc2 ?_
 simp [go_sem]
 refine zab hav ?_
 simp [go_sem]
 refine zab hkn ?_
 by_cases h4:v.length<=4
 ·have hq:=c3 h4
  have hcc:=hc3 h4
  rw [<- hq,if_neg (by omega),if_neg (by omega)] at hcc
  rw [hq] at hw3 hcc
  have h4':¬ 4<v.length:=by omega
  have h4'':¬ 4<(v.length:Int):=by omega
  rw [hq]
  simp [go_sem,h4',h4'']
  refine zab hw3 ?_
  simp [go_sem]
  refine zab hcc ?_
  simp [go_sem]
 ·have h4':4<v.length:=by omega
  have h4'':4<(v.length:Int):=by omega
  simp [go_sem,h4',h4'']
end Go.Ab
set_option linter.all false
namespace Go.Ab
open Enc (enc)
section
variable {H:Type} {en:TypeId × Value->H} {w:World}
theorem rdInt (n:Nat):RdN en P w n T.int (IsC Int):=ycd ty.int
theorem rdBool (n:Nat):RdN en P w n T.bool (IsC Bool):=z8u ty.bool
theorem rdInts (n:Nat):RdN en P w n T.ints (IsC (List Int)):=z5b (fun _=>rfl) (fun _=>rfl) ty.ints ty.cell fun k _=>rdInt k
theorem gplan_one (x:GPlan):(enc x).cells.all PV.one=true:=by simp [go_sem,PV.cells]
theorem rdPlan (n:Nat):RdN en P w n T.plan (IsC GPlan):=z0l (Ds:=[IsC Int,IsC Int,IsC Bool,IsC Bool,IsC (List Int)]) ty.plan rfl (fun m _=>⟨rdInt m,rdInt m,rdBool m,rdBool m,rdInts m,trivial⟩) fun ls h=>by
 obtain ⟨_,ls1,rfl,⟨a,rfl⟩,h1⟩:=h.cons
 obtain ⟨_,ls2,rfl,⟨b,rfl⟩,h2⟩:=h1.cons
 obtain ⟨_,ls3,rfl,⟨c,rfl⟩,h3⟩:=h2.cons
 obtain ⟨_,ls4,rfl,⟨d,rfl⟩,h4⟩:=h3.cons
 obtain ⟨_,ls5,rfl,⟨e,rfl⟩,h5⟩:=h4.cons
 obtain rfl:=h5.nil
 exact ⟨⟨a,b,c,d,e⟩,by simp [PV.cells,go_sem]⟩
end
end Go.Ab
