/-
Proofs for the law CountGoesOn, part 41. Conditions: none.
-/
import Derived.Test.YtdkocfjbmbenfaaGreatDoorCP40
import Derived.Test.YtdkocfjbmbenfaaGreatDoorCP35
import Derived.Test.YtdkocfjbmbenfaaGreatDoorCP14
import Derived.Test.YtdkocfjbmbenfaaGreatDoorCP28
set_option maxRecDepth 100000
set_option maxHeartbeats 4000000
set_option linter.all false
namespace Go.Ab
abbrev zrT:GW:=GRing.zero ⟨2,[]⟩
theorem zox:zrT.inf=true:=by
 simp [GRing.zero,zkq]
 rfl
theorem zyl {B:Int} (hB:0<=B):tw zrT B:=zli zy1 hB
theorem z8b {w:GW} {B:Int} (h:tw w B):w≠zrT ↔ w.inf=false:=by
 obtain ⟨c,i,rfl,h2,h3,h4⟩:=h
 have e:zrT=.mk gr0 0 true 0 [] []:=by simp [GRing.zero,zkq]
 rw [e]
 cases i with
 | true=>rw [h4 rfl]; exact ⟨fun h=>absurd rfl h,fun h=>(by cases h)⟩
 | false=>exact ⟨fun _=>rfl,fun _ h=>(by cases h)⟩
theorem zis {v w:GW}:(GRing.plus ⟨2,[]⟩ v w).inf=(v.inf&&w.inf):=by
 have e:GRing.plus ⟨2,[]⟩ v w=if v.inf=true\/(w.inf=false/\w.cost<v.cost) then w else v:=by simp [GRing.plus,zau]
 rw [e]
 split
 ·rename_i h
  rcases h with h|h
  ·rw [h]; rfl
  ·rw [h.1,Bool.and_false]
 ·rename_i h
  have:v.inf=false:=by cases hv:v.inf<;>simp [hv] at h ⊢
  rw [this]; rfl
theorem zq6 {v w:GW} (h:v.cost+w.cost<=1099511627776):(GRing.times ⟨2,[]⟩ v w).inf=(v.inf||w.inf):=by
 have e:GRing.times ⟨2,[]⟩ v w=if v.inf=true\/w.inf=true\/1099511627776<v.cost+w.cost then .mk gr0 0 true 0 [] [] else .mk gr0 (v.cost+w.cost) false 0 [] []:=by simp [GRing.times,zbv]
 rw [e]
 split
 ·rename_i hh
  rcases hh with hh|hh|hh
  ·rw [hh]; rfl
  ·rw [hh,Bool.or_true]; rfl
  ·omega
 ·rename_i hh
  have h1:v.inf=false:=by cases hv:v.inf<;>simp [hv] at hh ⊢
  have h2:w.inf=false:=by cases hv:w.inf<;>simp [hv] at hh ⊢
  rw [h1,h2]; rfl
theorem zo2 {w:GW} {B:Int} (h:tw w B):w.cost<=B:=by obtain ⟨c,i,rfl,h2,h3,h4⟩:=h; exact h3
theorem z58 {l:List GW} {i t:Nat} {y z:GW} (hi:i<l.length):(l.set i y).getD t z=if i=t then y else l.getD t z:=by
 rw [List.getD_eq_getElem?_getD,List.getD_eq_getElem?_getD,List.getElem?_set]
 by_cases h:i=t
 ·subst h; simp [hi]
 ·simp [h]
theorem zzk {v:List GW} {B:Int} (hB:0<=B) (hB2:B+5<=1099511627776) (hv:∀ q,tw (v.getD q zrT) B) {c:Int} {N:Nat}:∀ (A:List GArc) (out:List GW),out.length=N->(∀ x∈A,x.t.toNat<N/\tw x.w 5)->(∀ t,tw (out.getD t zrT) (B+5)) ->
  ∀ t,tw ((A.foldl (stS ⟨2,[]⟩ v c) out).getD t zrT) (B+5)/\(((A.foldl (stS ⟨2,[]⟩ v c) out).getD t zrT).inf=false ↔ (out.getD t zrT).inf=false\/∃ x∈A,x.l=c/\x.t.toNat=t/\(v.getD x.f.toNat zrT).inf=false/\x.w.inf=false)
 | [],out,ho,hA,hout,t=>by simpa using hout t
 | x::A,out,ho,hA,hout,t=>by
  have hx:=hA x List.mem_cons_self
  rw [List.foldl_cons]
  have hlen:(stS ⟨2,[]⟩ v c out x).length=N:=by rw [ztg]; exact ho
  have hval:∀ t,(stS ⟨2,[]⟩ v c out x).getD t zrT=if x.l=c/\x.t.toNat=t then GRing.plus ⟨2,[]⟩ (out.getD t zrT) (GRing.times ⟨2,[]⟩ (v.getD x.f.toNat zrT) x.w) else out.getD t zrT:=by
   intro t
   unfold stS
   by_cases hc:x.l=c
   ·rw [if_pos hc,z58 (by omega)]
    by_cases ht:x.t.toNat=t
    ·rw [if_pos ht,if_pos ⟨hc,ht⟩,ht]
    ·rw [if_neg ht,if_neg (fun h=>ht h.2)]
   ·rw [if_neg hc,if_neg (fun h=>hc h.1)]
  have ht5:=zu6 (hv x.f.toNat) hx.2 (by omega)
  have hi:=zq6 (v:=v.getD x.f.toNat zrT) (w:=x.w) (by have:=zo2 (hv x.f.toNat); have:=zo2 hx.2; omega)
  have ih:=zzk hB hB2 hv (c:=c) A (stS ⟨2,[]⟩ v c out x) hlen (fun y hy=>hA y (List.mem_cons_of_mem _ hy)) (fun t=>by
   rw [hval]
   split
   ·exact zy2 (hout t) ht5
   ·exact hout t) t
  refine ⟨ih.1,ih.2.trans ?_⟩
  rw [hval]
  constructor
  ·rintro (h|⟨y,hy,h⟩)
   ·split at h
    ·rename_i hc
     rw [zis,hi] at h
     cases h1:(out.getD t zrT).inf with
     | false=>exact .inl rfl
     | true =>
      rw [h1] at h
      simp only [Bool.true_and,Bool.or_eq_false_iff] at h
      exact .inr ⟨x,List.mem_cons_self,hc.1,hc.2,h.1,h.2⟩
    ·exact .inl h
   ·exact .inr ⟨y,List.mem_cons_of_mem _ hy,h⟩
  ·rintro (h|⟨y,hy,h1,h2,h3,h4⟩)
   ·left
    split
    ·rw [zis,h]; rfl
    ·exact h
   ·rcases List.mem_cons.1 hy with rfl|hy
    ·left
     rw [if_pos ⟨h1,h2⟩,zis,hi,h3,h4]; simp
    ·exact .inr ⟨y,hy,h1,h2,h3,h4⟩
theorem zvd {B C:Int} (hB:0<=B+C) (hB2:B+C<=1099511627776):∀ (l:List (GW × GW)) (acc:GW),(∀ p∈l,tw p.1 B/\tw p.2 C) ->
  ((l.foldl (fun s p=>GRing.plus ⟨2,[]⟩ s (GRing.times ⟨2,[]⟩ p.1 p.2)) acc).inf=false ↔ acc.inf=false\/∃ p∈l,p.1.inf=false/\p.2.inf=false)
 | [],acc,_=>by simp
 | p::l,acc,h=>by
  have hp:=h p List.mem_cons_self
  have hi:=zq6 (v:=p.1) (w:=p.2) (by have:=zo2 hp.1; have:=zo2 hp.2; omega)
  rw [List.foldl_cons,zvd hB hB2 l _ (fun q hq=>h q (List.mem_cons_of_mem _ hq)),zis,hi]
  simp only [List.mem_cons]
  constructor
  ·rintro (h|⟨q,hq,h⟩)
   ·cases h1:acc.inf with
    | false=>exact .inl rfl
    | true =>
     rw [h1] at h
     simp only [Bool.true_and,Bool.or_eq_false_iff] at h
     exact .inr ⟨p,.inl rfl,h⟩
   ·exact .inr ⟨q,.inr hq,h⟩
  ·rintro (h|⟨q,rfl|hq,h1,h2⟩)
   ·exact .inl (by rw [h]; rfl)
   ·exact .inl (by rw [h1,h2]; simp)
   ·exact .inr ⟨q,hq,h1,h2⟩
theorem zuz:∀ {l:List GW},(wsum ⟨2,[]⟩ l).inf=false ↔ ∃ w∈l,w.inf=false
 | []=>by
  show zrT.inf=false ↔ _
  rw [zox]; simp
 | w::l=>by
  have ih:=zuz (l:=l)
  show (GRing.plus ⟨2,[]⟩ w (wsum ⟨2,[]⟩ l)).inf=false ↔ _
  rw [zis]
  simp only [Bool.and_eq_false_iff,ih,List.mem_cons,exists_eq_or_imp]
theorem ycz {a:GAuto} (h:MdlA a) (f l t:Int):(∃ y∈a.nf.arcs,y.f=f/\y.l=l/\y.t=t) ↔ ∃ x∈a.arcs,x.f=f/\x.l=l/\x.t=t/\x.w.inf=false:=by
 have hr:=h.ring
 have hc:∀ x∈a.arcs,x.w.chk ⟨2,[]⟩:=fun x hx=>zgi (h.arcs x hx) (by omega)
 obtain ⟨b1,b2,b3⟩:=zfb zkq hc
 have hk:=b3 fun k=>decide (k=[f,l,t])
 have en:a.nf.arcs=tid GArc.key GArc.w ⟨2,[]⟩ (upA ⟨2,[]⟩) a.arcs:=by rw [<- hr]; rfl
 rw [<- en] at b2 hk
 have key:∀ L:List GArc,(atQ GArc.key GArc.w ⟨2,[]⟩ L fun k=>decide (k=[f,l,t])).inf=false ↔ ∃ x∈L,x.f=f/\x.l=l/\x.t=t/\x.w.inf=false:=fun L=>by
  unfold atQ
  rw [zuz]
  constructor
  ·rintro ⟨w,hw,hi⟩
   obtain ⟨x,hx,rfl⟩:=List.mem_map.1 hw
   obtain ⟨h1,h2⟩:=List.mem_filter.1 hx
   simp only [GArc.key,decide_eq_true_eq,List.cons.injEq,and_true] at h2
   exact ⟨x,h1,h2.1,h2.2.1,h2.2.2,hi⟩
  ·rintro ⟨x,hx,h1,h2,h3,hi⟩
   exact ⟨x.w,List.mem_map.2 ⟨x,List.mem_filter.2 ⟨hx,by simp [GArc.key,h1,h2,h3]⟩,rfl⟩,hi⟩
 rw [<- key,<- hk,key]
 constructor
 ·rintro ⟨y,hy,h1,h2,h3⟩
  refine ⟨y,hy,h1,h2,h3,?_⟩
  obtain ⟨c1,c2⟩:=b2 y hy
  cases hi:y.w.inf with
  | false=>rfl
  | true =>
   exfalso
   apply c2
   have si:=c1.2.1 (by show (2:Int)≠6; omega)
   obtain ⟨s1,s2,s3,s4,s5,s6,s7,_⟩:=si
   have q1:=s2 (by show (2:Int)≠1; omega) (by show (2:Int)≠3; omega)
   have q2:=s4 (by show (2:Int)≠4; omega)
   have q3:=s5 (by show (2:Int)≠5; omega)
   have q4:=(s7 rfl).2.2 hi
   have e:zrT=.mk gr0 0 true 0 [] []:=by simp [GRing.zero,zkq]
   show y.w=zrT
   rw [e]
   cases hw:y.w with
   | mk q c i s p ps =>
    rw [hw] at s1 q1 q2 q3 q4 hi
    have r1:ps=[]:=s1
    have r2:q=gr0:=q1
    have r3:s=0:=q2
    have r4:p=[]:=q3
    have r5:c=0:=q4
    have r6:i=true:=hi
    rw [r1,r2,r3,r4,r5,r6]
 ·rintro ⟨y,hy,h1,h2,h3,_⟩
  exact ⟨y,hy,h1,h2,h3⟩
end Go.Ab
namespace Go.Ab
theorem z9p {A:GAuto} (hL:labI A) (q:Nat) (c:Int) (t:Nat):nxtJ A q c (zaj A.arcs q).length=(t:Int) ↔ ∃ y∈A.arcs,y.f=(q:Int)/\y.l=c/\y.t=(t:Int):=by
 constructor
 ·intro h
  obtain ⟨j,hj,rfl⟩:=zk2 _ (Nat.le_refl _) (show 0<=nxtJ A q c (zaj A.arcs q).length by omega)
  rw [(ziz hL hj 0).2] at h
  obtain ⟨h1,h2⟩:=List.mem_filter.1 (List.getElem_mem hj)
  simp only [decide_eq_true_eq] at h2
  exact ⟨_,h1,h2,rfl,h⟩
 ·rintro ⟨y,hy,h1,h2,h3⟩
  have hm:y∈zaj A.arcs q:=List.mem_filter.2 ⟨hy,by simpa using h1⟩
  obtain ⟨j,hj,rfl⟩:=List.mem_iff_getElem.1 hm
  rw [<- h2,(ziz hL hj 0).2,h3]
theorem z3m {a:GAuto} {k:Nat} (h:begC a k=0) {t:Nat} (ht:t<k) (hl:t<a.ini.length):a.ini[t]=a.ring.zero:=by
 unfold begC at h
 rw [List.length_eq_zero_iff,List.filter_eq_nil_iff] at h
 have hm:a.ini[t]∈a.ini.take k:=by
  rw [List.mem_iff_getElem]
  exact ⟨t,by rw [List.length_take]; omega,by simp⟩
 have:=h _ hm
 simpa using this
theorem zzl {a:GAuto} {N:Nat} (hN:a.ini.length=N):∀ k,k<=N->begC a k<=1->∀ t,t<k->(a.ini.getD t a.ring.zero≠a.ring.zero ↔ stA a k=(t:Int))
 | 0,_,_,t,ht=>by omega
 | k+1,hk,hb,t,ht=>by
  have hkl:k<a.ini.length:=by omega
  have hs:=zm7 a hkl
  have hg:a.ini.getD k a.ring.zero=a.ini[k]:=by rw [List.getD_eq_getElem?_getD,List.getElem?_eq_getElem hkl]; rfl
  have hrng:=zth a k
  by_cases hz:a.ini[k]=a.ring.zero
  ·rw [if_neg (by simpa using hz)] at hs
   have e:stA a (k+1)=stA a k:=by simp only [stA,hg]; rw [if_neg (by simpa using hz)]
   rw [e]
   by_cases htk:t=k
   ·subst htk
    rw [hg]
    exact ⟨fun h=>absurd hz h,fun h=>by omega⟩
   ·exact zzl hN k (by omega) (by omega) t (by omega)
  ·rw [if_pos hz] at hs
   have e:stA a (k+1)=(k:Int):=by simp only [stA,hg]; rw [if_pos hz]
   rw [e]
   by_cases htk:t=k
   ·subst htk; rw [hg]; exact ⟨fun _=>rfl,fun _=>hz⟩
   ·have h0:=z3m (a:=a) (k:=k) (by omega) (t:=t) (by omega) (by omega)
    have hgt:a.ini.getD t a.ring.zero=a.ini[t]'(by omega):=by rw [List.getD_eq_getElem?_getD,List.getElem?_eq_getElem (by omega)]; rfl
    rw [hgt]
    exact ⟨fun h=>absurd h0 h,fun h=>by omega⟩
theorem z7w {a:GAuto} (h:MdlA a) {N:Nat} (hN:a.st.toNat=N):∀ (w:List Int) (v:List GW) (B:Int) (s:Int),v.length=N->0<=B->B+5*w.length<=1099511627776->(∀ q,tw (v.getD q zrT) B)->(∀ t:Nat,(v.getD t zrT).inf=false ↔ s=(t:Int)) ->
  (fwL ⟨2,[]⟩ a.arcs N v w).length=N/\(∀ q,tw ((fwL ⟨2,[]⟩ a.arcs N v w).getD q zrT) (B+5*w.length))/\∀ t:Nat,((fwL ⟨2,[]⟩ a.arcs N v w).getD t zrT).inf=false ↔ (rkR a.nf s w).2=(t:Int)
 | [],v,B,s,hv,hB,hB2,ht,hs=>by
  refine ⟨hv,fun q=>?_,hs⟩
  simpa [fwL] using ht q
 | c::w,v,B,s,hv,hB,hB2,ht,hs=>by
  have ok:=h.det.ok
  rw [List.length_cons] at hB2 ⊢
  have hA:∀ x∈a.arcs,x.t.toNat<N/\tw x.w 5:=fun x hx=>by
   have hx':=ok.arcs x hx
   exact ⟨by have h1:=hx'.2.2.1; have h2:=hx'.2.2.2.1; omega,h.arcs x hx⟩
  have hrep:∀ t,(List.replicate N zrT).getD t zrT=zrT:=fun t=>by
   rw [List.getD_eq_getElem?_getD,List.getElem?_replicate]; split<;>rfl
  have hst:=zzk hB (by omega) ht (c:=c) (N:=N) a.arcs (List.replicate N zrT) (by simp) hA (fun t=>by rw [hrep]; exact zyl (by omega))
  have hlen:(stL ⟨2,[]⟩ a.arcs v c N).length=N:=zo7 _ _ _ _ _
  have hstep:fwL ⟨2,[]⟩ a.arcs N v (c::w)=fwL ⟨2,[]⟩ a.arcs N (stL ⟨2,[]⟩ a.arcs v c N) w:=rfl
  have hinf:∀ t:Nat,((stL ⟨2,[]⟩ a.arcs v c N).getD t zrT).inf=false ↔ (if s<0 then s else nxtJ a.nf s.toNat c (zaj a.nf.arcs s.toNat).length)=(t:Int):=fun t=>by
   refine (hst t).2.trans ?_
   rw [hrep,zox]
   simp only [Bool.true_eq_false,false_or]
   by_cases hneg:s<0
   ·rw [if_pos hneg]
    constructor
    ·rintro ⟨x,_,_,_,h3,_⟩
     have:=(hs x.f.toNat).1 h3
     omega
    ·intro h; omega
   ·rw [if_neg hneg,z9p h.det.lab,ycz h]
    constructor
    ·rintro ⟨x,hx,h1,h2,h3,h4⟩
     have hx':=ok.arcs x hx
     have hf:=(hs x.f.toNat).1 h3
     have q1:=hx'.1
     have q2:=hx'.2.2.1
     exact ⟨x,hx,by omega,h1,by omega,h4⟩
    ·rintro ⟨x,hx,h1,h2,h3,h4⟩
     exact ⟨x,hx,h2,by omega,(hs _).2 (by omega),h4⟩
  have ih:=z7w h hN w (stL ⟨2,[]⟩ a.arcs v c N) (B+5) (if s<0 then s else nxtJ a.nf s.toNat c (zaj a.nf.arcs s.toNat).length) hlen (by omega) (by omega) (fun q=>(hst q).1) hinf
  rw [hstep]
  refine ⟨ih.1,fun q=>zli (ih.2.1 q) (by omega),fun t=>(ih.2.2 t).trans ?_⟩
  by_cases hneg:s<0
  ·rw [if_pos hneg,zc7 _ hneg,zc7 _ hneg]
  ·rw [if_neg hneg]
   simp only [rkR]
   rw [if_neg hneg]
theorem zmq (a:GAuto):a.nf.ini=a.ini/\a.nf.fin=a.fin/\a.nf.ring=a.ring:=⟨rfl,rfl,rfl⟩
theorem z3t {a:GAuto} (h:MdlA a) {w:List Int} (hw:w.length<=256):(!(wgt8 a w).inf)=endB a.nf (rkA a.nf (stN a) w).2:=by
 have ok:=h.det.ok
 have hst:=h.st
 obtain ⟨N,hN⟩:∃ N,a.st.toNat=N:=⟨_,rfl⟩
 have il:=ok.il
 have fl:=ok.fl
 have hil:a.ini.length=N:=by omega
 have hfl:a.fin.length=N:=by omega
 have hini:∀ q,tw (a.ini.getD q zrT) 5:=fun q=>by
  rw [List.getD_eq_getElem?_getD]
  by_cases hq:q<a.ini.length
  ·rw [List.getElem?_eq_getElem hq]; exact h.ini _ (List.getElem_mem hq)
  ·rw [List.getElem?_eq_none (by omega)]; exact zyl (by omega)
 have hfin:∀ q,tw (a.fin.getD q zrT) 5:=fun q=>by
  rw [List.getD_eq_getElem?_getD]
  by_cases hq:q<a.fin.length
  ·rw [List.getElem?_eq_getElem hq]; exact h.fin _ (List.getElem_mem hq)
  ·rw [List.getElem?_eq_none (by omega)]; exact zyl (by omega)
 have hrng:=zo6 a
 have hs:∀ t:Nat,(a.ini.getD t zrT).inf=false ↔ stN a=(t:Int):=fun t=>by
  rw [<- z8b (hini t)]
  by_cases ht:t<N
  ·have:=zzl (a:=a.nf) (N:=N) hil N (Nat.le_refl _) (by have:=h.det.beg; rw [hN] at this; exact this) t ht
   rw [show a.nf.ring.zero=zrT from by rw [(zmq a).2.2,h.ring]] at this
   rw [show stN a=stA a.nf N from by rw [<- hN]]
   exact this
  ·rw [List.getD_eq_getElem?_getD,List.getElem?_eq_none (by omega)]
   exact ⟨fun h=>absurd rfl h,fun h=>by omega⟩
 obtain ⟨v1,v2,v3⟩:=z7w h hN w a.ini 5 (stN a) hil (by omega) (by omega) hini hs
 have e:wgt8 a w=((fwL ⟨2,[]⟩ a.arcs N a.ini w).zip a.fin).foldl (fun s p=>GRing.plus ⟨2,[]⟩ s (GRing.times ⟨2,[]⟩ p.1 p.2)) zrT:=by
  unfold wgt8 sumW; rw [h.ring,hN]
 generalize fwL ⟨2,[]⟩ a.arcs N a.ini w=V at *
 have hsum:=zvd (B:=5+5*w.length) (C:=5) (by omega) (by omega) (V.zip a.fin) zrT (fun p hp=>by
  obtain ⟨i,hi,rfl⟩:=List.mem_iff_getElem.1 hp
  rw [List.length_zip] at hi
  rw [List.getElem_zip]
  refine ⟨?_,h.fin _ (List.getElem_mem _)⟩
  have:=v2 i
  rw [List.getD_eq_getElem?_getD,List.getElem?_eq_getElem (by omega)] at this
  exact this)
 rw [<- e,zox] at hsum
 simp only [Bool.true_eq_false,false_or] at hsum
 rw [ziq]
 simp only
 generalize (rkR a.nf (stN a) w).2=q at *
 have key:(wgt8 a w).inf=false ↔ endB a.nf q=true:=by
  rw [hsum]
  constructor
  ·rintro ⟨p,hp,h1,h2⟩
   obtain ⟨i,hi,rfl⟩:=List.mem_iff_getElem.1 hp
   rw [List.length_zip] at hi
   rw [List.getElem_zip] at h1 h2
   have hq:=(v3 i).1 (by rw [List.getD_eq_getElem?_getD,List.getElem?_eq_getElem (by omega)]; exact h1)
   unfold endB
   rw [if_neg (by omega),hq,Int.toNat_natCast]
   have:=(z8b (hfin i)).2 (by rw [List.getD_eq_getElem?_getD,List.getElem?_eq_getElem (by omega)]; exact h2)
   rw [(zmq a).2.1,(zmq a).2.2,h.ring]
   exact decide_eq_true this
  ·intro he
   unfold endB at he
   by_cases hq:q<0
   ·rw [if_pos hq] at he; cases he
   ·rw [if_neg hq] at he
    obtain ⟨i,rfl⟩:∃ i:Nat,q=(i:Int):=⟨q.toNat,by omega⟩
    rw [Int.toNat_natCast,(zmq a).2.1,(zmq a).2.2,h.ring] at he
    have hf:=(z8b (hfin i)).1 (of_decide_eq_true he)
    have hv:=(v3 i).2 rfl
    have hi:i<a.fin.length:=by
     by_cases hi:i<a.fin.length
     ·exact hi
     ·rw [List.getD_eq_getElem?_getD,List.getElem?_eq_none (by omega)] at hf
      have:=zox
      rw [show (none:Option GW).getD zrT=zrT from rfl,this] at hf; cases hf
    have hiv:i<V.length:=by omega
    rw [List.getD_eq_getElem?_getD,List.getElem?_eq_getElem hi] at hf
    rw [List.getD_eq_getElem?_getD,List.getElem?_eq_getElem hiv] at hv
    refine ⟨(V[i],a.fin[i]),?_,hv,hf⟩
    rw [List.mem_iff_getElem]
    exact ⟨i,by rw [List.length_zip]; omega,by rw [List.getElem_zip]⟩
 cases h1:(wgt8 a w).inf with
 | false=>rw [key.1 h1]; rfl
 | true =>
  cases h2:endB a.nf q with
  | false=>rfl
  | true=>rw [key.2 h2] at h1; cases h1
end Go.Ab
namespace Go.Ab
open Enc (enc)
attribute [local go_sem] zam Opd.slots
theorem z7g {s:Nat} (hs:1<=s):∀ (n r:Nat) (acc:List Int),(∀ c∈acc,1<=c/\c<=(s:Int))->(∀ c∈sfW s n r acc,1<=c/\c<=(s:Int))/\(sfW s n r acc).length=n+acc.length
 | 0,r,acc,h=>⟨h,by simp [sfW]⟩
 | n+1,r,acc,h=>by
  have hm:=Nat.mod_lt r (show 0<s by omega)
  have ih:=z7g hs n (r / s) ((1+(r % s:Nat):Int)::acc) (fun c hc=>by
   rcases List.mem_cons.1 hc with rfl|hc
   ·omega
   ·exact h c hc)
  refine ⟨ih.1,?_⟩
  show (sfW s n (r / s) _).length=_
  rw [ih.2,List.length_cons]; omega
theorem zwl {s:Nat} (hs:2<=s):∀ n,2^n<=gsum s n+1
 | 0=>by simp [gsum]
 | n+1=>by
  have ih:=zwl hs n
  have h1:2^n<=s^n:=Nat.pow_le_pow_left hs n
  simp only [gsum]; rw [Nat.pow_succ]; omega
theorem z9q (k:Int) (s:Nat):numK k s<400/\(s<2->numK k s<60):=by
 have r1:=zcs k (show (1:Int)<=400 by omega)
 have r2:=zcs (wthn k 400) (show (1:Int)<=60 by omega)
 unfold numK
 split
 ·exact ⟨by omega,fun _=>by omega⟩
 ·exact ⟨by omega,fun h=>by omega⟩
theorem z5n (k:Int) {s:Nat} (hs:1<=s/\s<=32):zho (zpp s (numK k s)) s/\(zpp s (numK k s)).length<=60:=by
 obtain ⟨k1,k2⟩:=z9q k s
 obtain ⟨l1,l2,l3⟩:=z06 hs.1 k1
 have hl:numL s (numK k s)<=60:=by
  by_cases h:s<2
  ·have:=k2 h; have:=zmo hs.1 (numL s (numK k s)); omega
  ·have h9:gsum s (numL s (numK k s))<=399:=by omega
   by_cases hb:numL s (numK k s)<=60
   ·exact hb
   ·have h1:=zwl (show 2<=s by omega) (numL s (numK k s))
    have h2:2^10<=2^numL s (numK k s):=Nat.pow_le_pow_right (by omega) (by omega)
    omega
 have h:=z7g hs.1 (numL s (numK k s)) (numK k s - gsum s (numL s (numK k s))) [] (fun c hc=>by cases hc)
 have hlen:(zpp s (numK k s)).length=numL s (numK k s):=by have:=h.2; simpa [zpp] using this
 exact ⟨⟨by omega,by omega,h.1⟩,by omega⟩
end Go.Ab
namespace Go.Ab
theorem z7n {A:GAuto} (hL:labI A) {q j:Nat} (hj:j<(zaj A.arcs q).length) {c:Int} (hc:(zaj A.arcs q)[j].l<c) (L:Nat):∀ i,i<=(zaj A.arcs q).length->sumJ A L q (min i (j+1))<=lowS A q c L i
 | 0,_=>by simp [lowS,sumJ]
 | i+1,hi=>by
  have ih:=z7n hL hj hc L i (by omega)
  have hil:i<(zaj A.arcs q).length:=by omega
  rw [zej A q _ L hil]
  by_cases h:i<=j
  ·have hl:(zaj A.arcs q)[i].l<c:=by
    by_cases e:i=j
    ·subst e; exact hc
    ·have:=zp3 hL hil hj (by omega); omega
   rw [if_pos hl,show min (i+1) (j+1)=i+1 by omega,zcu A L q hil]
   rw [show min i (j+1)=i by omega] at ih
   omega
  ·rw [show min (i+1) (j+1)=j+1 by omega]
   rw [show min i (j+1)=j+1 by omega] at ih
   omega
def lexL:List Int->List Int->Prop
 | [],_=>False
 | _::_,[]=>False
 | c::v,d::w=>c<d\/(c=d/\lexL v w)
theorem zz4 {A:GAuto} {N:Nat} (hA:CtrOk A N) (hL:labI A):∀ (v w:List Int) (q:Int),v.length=w.length->lexL v w->endB A (rkR A q v).2=true->(rkR A q v).1+1<=(rkR A q w).1
 | [],w,q,hl,h,he=>h.elim
 | c::v,[],q,hl,h,he=>h.elim
 | c::v,d::w,q,hl,h,he=>by
  by_cases hq:q<0
  ·rw [zc7 A hq] at he; simp only [zhj A hq] at he; cases he
  obtain ⟨qn,rfl⟩:∃ qn:Nat,q=(qn:Int):=⟨q.toNat,by omega⟩
  have hl2:v.length=w.length:=by simpa using hl
  rcases h with h|⟨rfl,h⟩
  ·have hu:=zy0 hA hL (c::v) qn he
   simp only [rkR] at he hu ⊢
   rw [if_neg hq] at he hu ⊢
   rw [if_neg hq]
   rw [Int.toNat_natCast] at he hu ⊢
   simp only at he hu ⊢
   have hn:0<=nxtJ A qn c (zaj A.arcs qn).length:=by
    by_cases hh:nxtJ A qn c (zaj A.arcs qn).length<0
    ·rw [zc7 A hh] at he
     simp only [zhj A hh] at he
     cases he
    ·omega
   obtain ⟨j,hj,rfl⟩:=zk2 _ (Nat.le_refl _) hn
   obtain ⟨l1,l2⟩:=ziz hL hj v.length
   rw [l2] at he hn ⊢
   rw [l1]
   obtain ⟨tt,htt⟩:∃ tt:Nat,(zaj A.arcs qn)[j].t=(tt:Int):=⟨(zaj A.arcs qn)[j].t.toNat,by omega⟩
   have hsj:=zcu A v.length qn hj
   rw [htt] at he ⊢
   rw [htt,Int.toNat_natCast] at hsj
   obtain ⟨i1,i2⟩:=zy0 hA hL v tt he
   have hge:=z7n hL hj h v.length _ (Nat.le_refl _)
   rw [show min (zaj A.arcs qn).length (j+1)=j+1 by omega] at hge
   rw [hl2] at hge hsj i1 ⊢
   omega
  ·simp only [rkR] at he ⊢
   rw [if_neg hq] at he ⊢
   rw [if_neg hq]
   simp only at he ⊢
   have ih:=zz4 hA hL v w _ hl2 h he
   rw [hl2]; omega
noncomputable def eqS (A:GAuto) (q:Nat) (c:Int) (L j:Nat):Nat:=(((zaj A.arcs q).take j).map fun x=>if x.l=c then cnA A L x.t.toNat else 0).sum
theorem zwy (A:GAuto) (q:Nat) (c:Int) (L:Nat) {j:Nat} (h:j<(zaj A.arcs q).length):eqS A q c L (j+1)=eqS A q c L j+if (zaj A.arcs q)[j].l=c then cnA A L (zaj A.arcs q)[j].t.toNat else 0:=by
 unfold eqS
 rw [List.take_succ_eq_append_getElem h,List.map_append,List.sum_append]; simp
theorem z7o (A:GAuto) (q:Nat) (c:Int) (L:Nat):∀ i,i<=(zaj A.arcs q).length->lowS A q (c+1) L i=lowS A q c L i+eqS A q c L i
 | 0,_=>by simp [lowS,eqS]
 | i+1,hi=>by
  have ih:=z7o A q c L i (by omega)
  have hil:i<(zaj A.arcs q).length:=by omega
  rw [zej A q _ L hil,zej A q _ L hil,zwy A q _ L hil,ih]
  rcases Int.lt_trichotomy (zaj A.arcs q)[i].l c with h|h|h
  ·rw [if_pos (by omega),if_pos h,if_neg (by omega)]; omega
  ·rw [if_pos (by omega),if_neg (by omega),if_pos h]; omega
  ·rw [if_neg (by omega),if_neg (by omega),if_neg (by omega)]; omega
theorem zry {A:GAuto} {q:Nat} {c:Int}:∀ i,i<=(zaj A.arcs q).length->0<=nxtJ A q c i->∃ j,∃ h:j<(zaj A.arcs q).length,j<i/\(zaj A.arcs q)[j].l=c
 | 0,_,h=>by simp [nxtJ] at h
 | i+1,hi,h=>by
  rw [zff A q c (show i<_ by omega)] at h
  by_cases hc:(zaj A.arcs q)[i].l=c
  ·exact ⟨i,by omega,by omega,hc⟩
  ·rw [if_neg hc] at h
   obtain ⟨j,h1,h2,h3⟩:=zry i (by omega) h
   exact ⟨j,h1,by omega,h3⟩
theorem z2n {A:GAuto} {N:Nat} (hA:CtrOk A N) (hL:labI A) (q:Nat) (c:Int) (L:Nat):∀ i,i<=(zaj A.arcs q).length->eqS A q c L i=if nxtJ A q c i<0 then 0 else cnA A L (nxtJ A q c i).toNat
 | 0,_=>by simp [eqS,nxtJ]
 | i+1,hi=>by
  have ih:=z2n hA hL q c L i (by omega)
  have hil:i<(zaj A.arcs q).length:=by omega
  rw [zwy A q c L hil,zff A q c hil]
  by_cases hc:(zaj A.arcs q)[i].l=c
  ·have hn:nxtJ A q c i<0:=by
    by_cases h:nxtJ A q c i<0
    ·exact h
    ·obtain ⟨j,h1,h2,h3⟩:=zry i (by omega) (show 0<=nxtJ A q c i by omega)
     have:=zp3 hL h1 hil h2
     omega
   have hmem:(zaj A.arcs q)[i]∈A.arcs:=(List.mem_filter.1 (List.getElem_mem hil)).1
   have ht:=hA.t _ hmem
   rw [if_pos hn] at ih
   rw [if_pos hc,if_pos hc,if_neg (by omega),ih]; omega
  ·rw [if_neg hc,if_neg hc,ih]; omega
theorem zv9 {A:GAuto} (hl:∀ x∈A.arcs,1<=x.l) (q L:Nat):∀ i,i<=(zaj A.arcs q).length->lowS A q 1 L i=0
 | 0,_=>by simp [lowS]
 | i+1,hi=>by
  have hil:i<(zaj A.arcs q).length:=by omega
  have:=hl _ (List.mem_filter.1 (List.getElem_mem hil)).1
  rw [zej A q _ L hil,zv9 hl q L i (by omega),if_neg (by omega)]
theorem z1r {A:GAuto} {sy:Int} (hl:∀ x∈A.arcs,x.l<=sy) (q L:Nat):∀ i,i<=(zaj A.arcs q).length->lowS A q (sy+1) L i=sumJ A L q i
 | 0,_=>by simp [lowS,sumJ]
 | i+1,hi=>by
  have hil:i<(zaj A.arcs q).length:=by omega
  have:=hl _ (List.mem_filter.1 (List.getElem_mem hil)).1
  rw [zej A q _ L hil,z1r hl q L i (by omega),if_pos (by omega),zcu A L q hil]
end Go.Ab
namespace Go.Ab
def nxW (sy:Int):List Int->Option (List Int)
 | []=>none
 | c::w=>match nxW sy w with
  | some w'=>some (c::w')
  | none=>if c<sy then some ((c+1)::List.replicate w.length 1) else none
def scW (sy:Int) (w:List Int):List Int:=(nxW sy w).getD (List.replicate (w.length+1) 1)
structure LabB (A:GAuto) (sy:Int):Prop where
 lo:∀ x∈A.arcs,1<=x.l
 hi:∀ x∈A.arcs,x.l<=sy
theorem zpo {sy:Int}:∀ {w w':List Int},nxW sy w=some w'->w'.length=w.length
 | [],_,h=>by cases h
 | c::w,w',h=>by
  simp only [nxW] at h
  split at h
  ·rename_i v hv
   cases h
   rw [List.length_cons,List.length_cons,zpo hv]
  ·split at h
   ·cases h; simp
   ·cases h
theorem ztl {A:GAuto} {sy:Int} (hB:LabB A sy):∀ (L:Nat) (q:Int),(rkR A q (List.replicate L 1)).1=0
 | 0,q=>rfl
 | L+1,q=>by
  rw [List.replicate_succ]
  simp only [rkR]
  by_cases hq:q<0
  ·rw [if_pos hq]
  ·rw [if_neg hq]
   simp only [zv9 hB.lo _ _ _ (Nat.le_refl _),ztl hB L,Nat.add_zero]
noncomputable def acc1 (A:GAuto) (q:Int) (w:List Int):Nat:=(endB A (rkR A q w).2).toNat
theorem z16 (b:Bool):(if b=true then 1 else 0)=b.toNat:=by cases b<;>rfl
theorem zm9 {A:GAuto} {q:Int} (hq:¬ q<0) (c:Int) (w:List Int):acc1 A q (c::w)=acc1 A (nxtJ A q.toNat c (zaj A.arcs q.toNat).length) w:=by
 unfold acc1; simp only [rkR]; rw [if_neg hq]
theorem zqs {A:GAuto} {q:Int} (hq:q<0) (w:List Int):acc1 A q w=0:=by
 unfold acc1; rw [zc7 A hq]; simp only [zhj A hq]; rfl
noncomputable def cnZ (A:GAuto) (L:Nat) (q:Int):Nat:=if q<0 then 0 else cnA A L q.toNat
theorem zwa {A:GAuto} {N:Nat} (hA:CtrOk A N) (hL:labI A) (q:Nat) (c:Int) (L:Nat):lowS A q (c+1) L (zaj A.arcs q).length=lowS A q c L (zaj A.arcs q).length+cnZ A L (nxtJ A q c (zaj A.arcs q).length):=by
 rw [z7o A q c L _ (Nat.le_refl _),z2n hA hL q c L _ (Nat.le_refl _)]; rfl
theorem zz5 {A:GAuto} {N:Nat} (hA:CtrOk A N) (hL:labI A) {sy:Int} (hB:LabB A sy):∀ (w:List Int) (q:Int),(∀ c∈w,c<=sy)->nxW sy w=none->(rkR A q w).1+acc1 A q w=cnZ A w.length q
 | [],q,_,_=>by
  by_cases hq:q<0
  ·rw [zqs hq]; unfold cnZ; rw [if_pos hq]; rfl
  ·unfold cnZ acc1
   rw [if_neg hq]
   obtain ⟨n,rfl⟩:∃ n:Nat,q=(n:Int):=⟨q.toNat,by omega⟩
   rw [Int.toNat_natCast,List.length_nil,zus,z16]
   simp only [rkR]; omega
 | c::w,q,hw,hn=>by
  by_cases hq:q<0
  ·rw [zqs hq,zc7 A hq]; unfold cnZ; rw [if_pos hq]
  ·simp only [nxW] at hn
   split at hn
   ·cases hn
   rename_i hn2
   split at hn
   ·cases hn
   rename_i hc
   have hcs:c=sy:=by have:=hw c List.mem_cons_self; omega
   subst hcs
   have ih:=zz5 hA hL hB w (nxtJ A q.toNat c (zaj A.arcs q.toNat).length) (fun d hd=>hw d (List.mem_cons_of_mem _ hd)) hn2
   rw [zm9 hq]
   simp only [rkR]
   rw [if_neg hq]
   simp only
   have h1:=zwa hA hL q.toNat c w.length
   have h2:=z1r hB.hi q.toNat w.length _ (Nat.le_refl _)
   have h3:=zij A w.length q.toNat
   have h4:cnZ A (w.length+1) q=cnA A (w.length+1) q.toNat:=if_neg hq
   rw [List.length_cons,h4]
   omega
theorem zz3 {A:GAuto} {N:Nat} (hA:CtrOk A N) (hL:labI A) {sy:Int} (hB:LabB A sy):∀ (w w':List Int) (q:Int),(∀ c∈w,c<=sy)->nxW sy w=some w'->(rkR A q w').1=(rkR A q w).1+acc1 A q w
 | [],_,_,_,h=>by cases h
 | c::w,w',q,hw,hn=>by
  by_cases hq:q<0
  ·rw [zqs hq,zc7 A hq,zc7 A hq]
  ·simp only [nxW] at hn
   split at hn
   ·rename_i v hv
    cases hn
    have ih:=zz3 hA hL hB w v (nxtJ A q.toNat c (zaj A.arcs q.toNat).length) (fun d hd=>hw d (List.mem_cons_of_mem _ hd)) hv
    rw [zm9 hq]
    simp only [rkR]
    rw [if_neg hq,if_neg hq]
    simp only
    rw [zpo hv]
    omega
   ·rename_i hv
    split at hn
    ·cases hn
     have ih:=zz5 hA hL hB w (nxtJ A q.toNat c (zaj A.arcs q.toNat).length) (fun d hd=>hw d (List.mem_cons_of_mem _ hd)) hv
     rw [zm9 hq]
     simp only [rkR]
     rw [if_neg hq,if_neg hq]
     simp only
     rw [ztl hB,List.length_replicate]
     have h1:=zwa hA hL q.toNat c w.length
     omega
    ·cases hn
theorem z4y {A:GAuto} {N:Nat} (hA:CtrOk A N) (hL:labI A) {sy:Int} (hB:LabB A sy) (s:Int) {w:List Int} (hw:∀ c∈w,c<=sy):(rkA A s (scW sy w)).1=nxK A s w:=by
 have hk:nxK A s w=bN A s w.length+(rkR A s w).1+acc1 A s w:=by
  unfold nxK acc1; rw [ziq,z16]
 rw [hk,ziq]
 unfold scW
 simp only
 cases h:nxW sy w with
 | some w' =>
  simp only [Option.getD_some]
  rw [zpo h,zz3 hA hL hB w w' s hw h]; omega
 | none =>
  simp only [Option.getD_none]
  rw [ztl hB,List.length_replicate,Nat.add_assoc,zz5 hA hL hB w s hw h]
  simp only [bN]
  rfl
theorem yb8 {sy:Int} (hs:1<=sy):∀ {w:List Int},(∀ c∈w,1<=c/\c<=sy)->∀ c∈scW sy w,1<=c/\c<=sy:=by
 have key:∀ {w w':List Int},(∀ c∈w,1<=c/\c<=sy)->nxW sy w=some w'->∀ c∈w',1<=c/\c<=sy:=by
  intro w
  induction w with
  | nil=>intro w' _ h; cases h
  | cons d w ih =>
   intro w' hw h
   simp only [nxW] at h
   split at h
   ·rename_i v hv
    cases h
    intro c hc
    rcases List.mem_cons.1 hc with rfl|hc
    ·exact hw _ List.mem_cons_self
    ·exact ih (fun c hc=>hw c (List.mem_cons_of_mem _ hc)) hv c hc
   ·split at h
    ·cases h
     intro c hc
     rcases List.mem_cons.1 hc with rfl|hc
     ·have:=hw d List.mem_cons_self; omega
     ·rw [List.eq_of_mem_replicate hc]; omega
    ·cases h
 intro w hw c hc
 unfold scW at hc
 cases h:nxW sy w with
 | some w'=>rw [h] at hc; exact key hw h c hc
 | none =>
  rw [h] at hc
  have:=List.eq_of_mem_replicate hc
  omega
theorem zzy (sy:Int) (w:List Int):w.length<=(scW sy w).length/\(scW sy w).length<=w.length+1:=by
 unfold scW
 cases h:nxW sy w with
 | some w'=>simp [zpo h]
 | none=>simp
end Go.Ab
namespace Go.Ab
open Enc (enc)
attribute [local go_sem] zam Opd.slots
theorem z05 {sy:Int}:∀ (u:List Int) (c:Int) (x:List Int),nxW sy x=none->c<sy->nxW sy (u++c::x)=some (u++(c+1)::List.replicate x.length 1)
 | [],c,x,hx,hc=>by simp only [List.nil_append,nxW,hx,if_pos hc]
 | d::u,c,x,hx,hc=>by
  have ih:=z05 u c x hx hc
  simp only [List.cons_append,nxW,ih]
theorem z5l {sy c:Int} {x:List Int} (hx:nxW sy x=none) (hc:¬ c<sy):nxW sy (c::x)=none:=by simp only [nxW,hx,if_neg hc]
theorem z8o (u x:List Int) (n:Nat) (hn:u.length=n) (y v:Int):(avs (u++y::x)).set n (.p (.int .i64 v))=avs (u++v::x):=by
 have hs:∀ (l:List Int) (i:Nat) (v:Int),(avs l).set i (.p (.int .i64 v))=avs (l.set i v):=fun l i v=>by
  show (avs l).set i (.p (enc v))=_
  simp [avs,ens,List.map_set]
 rw [hs]; congr 1
 subst hn
 rw [List.set_append_right _ _ (by omega)]; simp
def w1S (w:List Int) (sy:Int) (n:Nat):St :=
 mkSt [(1,.p (.int .i64 sy)),(6,.own 13 0 0 w.length),(7,.p (.int .i64 ((n:Int) - 1)))] [(13,⟨1,avs (w.take n++List.replicate (w.length - n) 1)⟩)]
theorem z3y (w:List Int) (sy:Int) (hw:zho w sy) (hl:w.length<256):Sp P F.jc [.sl (ens w),.int .i64 sy] (.pure (.tup [.sl (ens (scW sy w)),.int .i64 0])):=by
 have hv:=zqw w sy (by omega)
 rw [show decide ((1<=sy/\sy<=32)/\w.length<=256/\∀ x∈w,1<=x/\x<=sy)=true from decide_eq_true hw] at hv
 have hcl:=z3b w (by omega)
 refine Sp.vz c.jc fun _=>?_
 generalize hR:retP [(4,none),(5,none)] (.pure (.tup [.sl (ens (scW sy w)),.int .i64 0]))=R
 simp [g.jc,go_sem]
 refine zab hv ?_
 simp [go_sem]
 refine zf8 hcl (by simp [go_sem]) ⟨by simp [go_sem,ens],by omega,by simp [ens,LIM]; omega⟩ _ rfl ?_
 simp [go_sem]
 have e0:IntKind.i64.wrap ((w.length:Int) - 1)=(w.length:Int) - 1:=i64w (by omega) (by omega)
 refine zai (S:=fun n:Nat=>w1S w sy n) (I:=fun n=>n<=w.length/\nxW sy (w.drop n)=none) (m:=fun n=>n) w.length
  (Weak.to [1,6,7] [((13,0),13)] (by simp [go_sem,w1S,mkSt,e0])) ⟨Nat.le_refl _,by rw [List.drop_length]; rfl⟩ ?_
 rintro n ⟨hn,hx0⟩ R2 hn2 hr2 hx2
 cases n with
 | zero =>
  rw [List.drop_zero] at hx0
  have hsc:scW sy w=List.replicate w.length 1++[1]:=by unfold scW; rw [hx0,Option.getD_none,List.replicate_succ']
  have h256:¬ (w.length:Int)=256:=by omega
  have h256':¬ w.length=256:=by omega
  have hS:w1S w sy 0=mkSt [(1,.p (.int .i64 sy)),(6,.own 13 0 0 w.length),(7,.p (.int .i64 (-1)))] [(13,⟨1,avs (List.replicate w.length (1:Int))⟩)]:=by
   unfold w1S; simp
  show vm P 43 R2 _ (w1S w sy 0)
  rw [hS]
  generalize hX:List.replicate w.length (1:Int)=X at *
  have hXl:X.length=w.length:=by rw [<- hX]; simp
  have htk:(X++[(1:Int)]).take (w.length+1)=X++[1]:=List.take_of_length_le (by simp; omega)
  simp [g.og,mkSt,go_sem]
  refine hx2 _ _ ?_
  simp [go_sem,h256,h256',hXl]
  rw [<- hR,hsc]
  have hav:avs X++[AV.p (.int .i64 1)]=avs (X++[1]):=by rw [zdb]; rfl
  rw [hav]
  have hYl:(X++[(1:Int)]).length=w.length+1:=by simp [hXl]
  generalize X++[(1:Int)]=Y at *
  simp [go_sem,hYl,htk]
  omega
 | succ n =>
  have hnl:n<w.length:=by omega
  have hd:w.drop n=w[n]::w.drop (n+1):=List.drop_eq_getElem_cons hnl
  have htk:w.take (n+1)=w.take n++[w[n]]:=List.take_succ_eq_append_getElem hnl
  have htl:(w.take n).length=n:=by rw [List.length_take]; omega
  have e1:IntKind.i64.wrap ((n:Int)+1 - 1 - 1)=(n:Int) - 1:=by rw [i64w (by omega) (by omega)]; omega
  have e2:IntKind.i64.wrap ((n:Int) - 1)=(n:Int) - 1:=i64w (by omega) (by omega)
  have hgt:n<(w.take n++w[n]::List.replicate (w.length - (n+1)) 1).length:=by simp; omega
  have hge:(w.take n++w[n]::List.replicate (w.length - (n+1)) 1)[n]=w[n]:=by rw [List.getElem_append_right (by omega)]; simp [htl]
  have hset:=fun y v=>z8o (w.take n) (List.replicate (w.length - (n+1)) 1) n htl y v
  have hwn:=hw.2.2 _ (List.getElem_mem hnl)
  have e3:IntKind.i64.wrap (w[n]+1)=w[n]+1:=by have:=hw.1.2; exact i64w (by omega) (by omega)
  have hS:w1S w sy (n+1)=mkSt [(1,.p (.int .i64 sy)),(6,.own 13 0 0 w.length),(7,.p (.int .i64 (n:Int)))] [(13,⟨1,avs (w.take n++w[n]::List.replicate (w.length - (n+1)) 1)⟩)]:=by
   unfold w1S
   rw [htk,List.append_assoc,List.singleton_append,show (((n+1:Nat):Int) - 1)=(n:Int) by omega]
  show vm P 43 R2 _ (w1S w sy (n+1))
  rw [hS]
  generalize hX:w.take n++w[n]::List.replicate (w.length - (n+1)) 1=X at *
  have hXl:X.length=w.length:=by rw [<- hX]; simp; omega
  simp [g.og,mkSt,go_sem,hnl,hXl]
  have hnX:n<X.length:=by omega
  refine zae hnX ?_
  rw [hge]
  refine ⟨fun hlt=>?_,fun hge2=>?_⟩
  ·refine zae hnX (zae hnX ?_)
   refine hr2 _ ?_
   rw [hge,e3,<- hX,hset,<- hR]
   have hsc:scW sy w=w.take n++(w[n]+1)::List.replicate (w.length - (n+1)) 1:=by
    unfold scW
    have hc:=z05 (w.take n) w[n] (w.drop (n+1)) hx0 hlt
    rw [<- hd,List.take_append_drop] at hc
    rw [hc,Option.getD_some,List.length_drop]
   rw [hsc]
   have hYl:(w.take n++(w[n]+1)::List.replicate (w.length - (n+1)) 1).length=w.length:=by simp; omega
   have htk2:(w.take n++(w[n]+1)::List.replicate (w.length - (n+1)) 1).take w.length=w.take n++(w[n]+1)::List.replicate (w.length - (n+1)) 1:=List.take_of_length_le (by omega)
   generalize w.take n++(w[n]+1)::List.replicate (w.length - (n+1)) 1=Y at *
   simp [go_sem,hYl,htk2]
  ·refine zae hnX ?_
   rw [e2,<- hX,hset]
   refine hn2 n _ (Weak.to [1,6,7] [((13,0),13)] ?_) ⟨by omega,?_⟩ (by omega)
   ·have hr1:List.replicate (w.length - n) (1:Int)=1::List.replicate (w.length - (n+1)) 1:=by
     rw [show w.length - n=(w.length - (n+1))+1 by omega,List.replicate_succ]
    unfold w1S
    rw [hr1]
    generalize w.take n++1::List.replicate (w.length - (n+1)) 1=Y
    simp [go_sem,mkSt]
   ·rw [hd]; exact z5l hx0 (by omega)
end Go.Ab
namespace Go.Ab
def slt (v w:List Int):Prop:=v.length<w.length\/(v.length=w.length/\lexL v w)
theorem zof:∀ (v w:List Int),v.length=w.length->(lexI v w<0/\lexL v w)\/(lexI v w=0/\v=w)\/(0<lexI v w/\lexL w v)
 | [],[],_=>.inr (.inl ⟨rfl,rfl⟩)
 | [],_::_,h=>by simp at h
 | _::_,[],h=>by simp at h
 | c::v,d::w,h=>by
  have ih:=zof v w (by simpa using h)
  simp only [lexI,lexL]
  by_cases h1:c<d
  ·rw [if_pos h1]; exact .inl ⟨by omega,.inl h1⟩
  ·rw [if_neg h1]
   by_cases h2:d<c
   ·rw [if_pos h2]; exact .inr (.inr ⟨by omega,.inl h2⟩)
   ·rw [if_neg h2]
    have e:c=d:=by omega
    subst e
    rcases ih with ⟨a,b⟩|⟨a,rfl⟩|⟨a,b⟩
    ·exact .inl ⟨a,.inr ⟨rfl,b⟩⟩
    ·exact .inr (.inl ⟨a,rfl⟩)
    ·exact .inr (.inr ⟨a,.inr ⟨rfl,b⟩⟩)
theorem zov (v w:List Int):(cmp5 v w<0/\slt v w)\/(cmp5 v w=0/\v=w)\/(0<cmp5 v w/\slt w v):=by
 unfold cmp5 slt
 by_cases h:v.length=w.length
 ·rw [if_neg (by simpa using h)]
  rcases zof v w h with ⟨a,b⟩|⟨a,b⟩|⟨a,b⟩
  ·exact .inl ⟨a,.inr ⟨h,b⟩⟩
  ·exact .inr (.inl ⟨a,b⟩)
  ·exact .inr (.inr ⟨a,.inr ⟨h.symm,b⟩⟩)
 ·rw [if_pos h]
  by_cases h2:v.length<w.length
  ·rw [if_pos h2]; exact .inl ⟨by omega,.inl h2⟩
  ·rw [if_neg h2]; exact .inr (.inr ⟨by omega,.inl (by omega)⟩)
section
variable {A:GAuto} {N:Nat} (hA:CtrOk A N) (hL:labI A)
include hA hL
theorem z4x {s:Int} {w:List Int} (h:endB A (rkA A s w).2=true):(rkA A s w).1+1<=bN A s (w.length+1):=by
 rw [ziq] at h ⊢
 simp only at h ⊢
 by_cases hs:s<0
 ·rw [zc7 A hs] at h; simp only [zhj A hs] at h; cases h
 obtain ⟨q,rfl⟩:∃ q:Nat,s=(q:Int):=⟨s.toNat,by omega⟩
 obtain ⟨h1,h2⟩:=zy0 hA hL w q h
 have hwc:wcn A (q:Int) w.length=cnA A w.length q:=by unfold wcn; rw [if_neg (by omega),Int.toNat_natCast]
 have hb:bN A (q:Int) (w.length+1)=bN A q w.length+wcn A q w.length:=rfl
 omega
theorem zvg {s:Int} {v w:List Int} (h:endB A (rkA A s v).2=true) (hlt:slt v w):(rkA A s v).1+1<=(rkA A s w).1:=by
 rcases hlt with hl|⟨hl,hx⟩
 ·have h1:=z4x hA hL h
  have h2:=zix (zh9 A s) (show v.length+1<=w.length by omega)
  rw [ziq A s w]
  simp only; omega
 ·rw [ziq] at h ⊢
  rw [ziq A s w]
  simp only at h ⊢
  have:=zz4 hA hL v w s hl hx h
  rw [hl]; omega
theorem z1c {s:Int} {v:List Int} (hok:(urR A s (nxK A s v)).2=true):(rkA A s (urR A s (nxK A s v)).1).1=nxK A s v/\endB A (rkA A s (urR A s (nxK A s v)).1).2=true/\cmp5 v (urR A s (nxK A s v)).1<0:=by
 have hlt:nxK A s v<bN A s 257:=by
  by_cases h:nxK A s v<bN A s 257
  ·exact h
  ·rw [ztb (by omega)] at hok; cases hok
 obtain ⟨_,h1,h2⟩:=zto hA hL hlt
 refine ⟨h1,h2,?_⟩
 generalize (urR A s (nxK A s v)).1=w at *
 rcases zov v w with ⟨a,b⟩|⟨a,rfl⟩|⟨a,b⟩
 ·exact a
 ·unfold nxK at h1; rw [if_pos h2] at h1; omega
 ·have:=zvg hA hL h2 b
  unfold nxK at h1; omega
theorem z1b {s:Int} {sy:Int} (hB:LabB A sy) {v u:List Int} (hu:∀ c∈u,c<=sy) (hul:u.length<256) (hK:nxK A s u=nxK A s v) :
  (endB A (rkA A s (scW sy u)).2=true/\urR A s (nxK A s v)=(scW sy u,true))\/(endB A (rkA A s (scW sy u)).2=false/\nxK A s (scW sy u)=nxK A s v/\((urR A s (nxK A s v)).2=true->cmp5 (scW sy u) (urR A s (nxK A s v)).1<0)):=by
 have hr:=z4y hA hL hB s hu
 rw [hK] at hr
 have hl:=zzy sy u
 cases he:endB A (rkA A s (scW sy u)).2 with
 | true =>
  have:=zta hA hL (s:=s) (w:=scW sy u) (by omega) he
  rw [hr] at this
  exact .inl ⟨rfl,this⟩
 | false =>
  refine .inr ⟨rfl,?_,fun hok=>?_⟩
  ·rw [<- hr]; unfold nxK; rw [if_neg (by rw [he]; exact Bool.false_ne_true)]; rfl
  ·obtain ⟨h1,h2,_⟩:=z1c hA hL hok
   generalize (urR A s (nxK A s v)).1=w at *
   rcases zov (scW sy u) w with ⟨a,b⟩|⟨a,rfl⟩|⟨a,b⟩
   ·exact a
   ·rw [he] at h2; cases h2
   ·have:=zvg hA hL h2 b
    omega
end
end Go.Ab
namespace Go.Ab
open Enc (enc)
attribute [local go_sem] zam Opd.slots
theorem DetA.labB {a:GAuto} {n:Nat} (h:DetA a n):LabB a.nf a.sy:=by
 have key:∀ x∈a.nf.arcs,1<=x.l/\x.l<=a.sy:=fun x hx=>by
  have k1:=(zr0 h.ok).arcs x hx
  have k2:=h.eps x hx
  have k3:=k1.2.2.2.2.1
  have k4:x.l<=a.sy:=k1.2.2.2.2.2.1
  omega
 exact ⟨fun x hx=>(key x hx).1,fun x hx=>(key x hx).2⟩
def itW (sy:Int) (v:List Int):Nat->List Int
 | 0=>v
 | i+1=>scW sy (itW sy v i)
theorem z17 {sy:Int} {v:List Int} (hv:zho v sy) (hl:v.length<=60):∀ i,i<=30->zho (itW sy v i) sy/\(itW sy v i).length<=60+i
 | 0,_=>⟨hv,by simpa [itW] using hl⟩
 | i+1,hi=>by
  have ih:=z17 hv hl i (by omega)
  have h1:=zzy sy (itW sy v i)
  have h2:=yb8 hv.1.1 ih.1.2.2
  exact ⟨⟨hv.1,by show (scW sy (itW sy v i)).length<=256; omega,h2⟩,by show (scW sy (itW sy v i)).length<=_; omega⟩
theorem zr3:∀ w:List Int,lexI w w=0
 | []=>rfl
 | c::w=>by simp only [lexI]; rw [if_neg (by omega),if_neg (by omega),zr3 w]
theorem z3a (w:List Int):cmp5 w w=0:=by unfold cmp5; rw [if_neg (by simp),zr3]
theorem countGoesOn_sp (p:GPlan) (at_:Int):Sp P F.mj [enc p,.int .i64 at_] (.pure (.bool true)):=by
 have hm:=zxs p
 have hM:MdlA (zs6 wkT { p with sg:=true } 4):=z1k rfl
 generalize zs6 wkT { p with sg:=true } 4=a at *
 have hD:=hM.det
 have hA:=hD.ctr
 have hL:=hD.lab
 have hB:=hD.labB
 have hkn:=zxv
 obtain ⟨sy,hsy⟩:∃ sy:Nat,a.sy=(sy:Int):=⟨a.sy.toNat,by have:=hM.sy; omega⟩
 have hsr:=hM.sy
 have hwi:=zee at_ 100 (by omega)
 obtain ⟨vok,vlen⟩:=z5n (wthn at_ 100) (s:=sy) (by omega)
 have hnum:=zxl (wthn at_ 100) sy (by omega)
 rw [<- hsy] at vok hnum
 generalize zpp sy (numK (wthn at_ 100) sy)=v at *
 have hnx:=zsr hD (w:=v) vok
 have huok:=ybq hD (nxK a.nf (stN a) v)
 have hnok:=fun h=>z1c hA hL (s:=stN a) (v:=v) h
 have hns:=fun (u:List Int) hu hul hK=>z1b hA hL hB (s:=stN a) (v:=v) (u:=u) hu hul hK
 have haw:=zow hM (urR a.nf (stN a) (nxK a.nf (stN a) v)).1 huok
 have hai:=z3t hM (w:=(urR a.nf (stN a) (nxK a.nf (stN a) v)).1) huok.2.1
 rw [hai] at haw
 have hcv:=zh6 v (urR a.nf (stN a) (nxK a.nf (stN a) v)).1 (by omega)
 have hlen:=huok.2.1
 generalize hW:urR a.nf (stN a) (nxK a.nf (stN a) v)=W at *
 obtain ⟨w,ok⟩:=W
 simp only at *
 have hloop:∀ (Q:Exit->St->Prop) (ks:List Kt) (st:St),(∀ s,Q .ret s=retP [(4,none)] (.pure (.bool true)) .ret s)->Weak st (mkSt [(5,.ptr 5 0 0 0),(7,.p (.sl (ens w))),(8,.p (.bool ok)),(10,.p (.sl (ens v))),(11,.p (.int .i64 (0:Nat)))] [(5,⟨7,[.p (enc a)]⟩)]) ->
   (∀ i,zem P 75 Q (zbm 0 ks) 0 (mkSt [(5,.ptr 5 0 0 0),(7,.p (.sl (ens w))),(8,.p (.bool ok)),(10,.p (.sl (ens (itW a.sy v i)))),(11,.p (.int .i64 i))] [(5,⟨7,[.p (enc a)]⟩)]))->vL P 75 Q g.nj ks st:=by
  intro Q ks st hQ hw0 hx0
  refine zai (S:=fun i:Nat=>mkSt [(5,.ptr 5 0 0 0),(7,.p (.sl (ens w))),(8,.p (.bool ok)),(10,.p (.sl (ens (itW a.sy v i)))),(11,.p (.int .i64 i))] [(5,⟨7,[.p (enc a)]⟩)])
   (I:=fun i=>i<=30/\nxK a.nf (stN a) (itW a.sy v i)=nxK a.nf (stN a) v) (m:=fun i=>30 - i) 0 hw0 ⟨by omega,rfl⟩ ?_
  rintro i ⟨hi,hK⟩ R hn' hr' hx
  have e1:=i64s i (by omega)
  obtain ⟨k1,k2⟩:=z17 vok vlen i hi
  by_cases hlt:i<30
  ·obtain ⟨k3,k4⟩:=z17 vok vlen (i+1) hlt
   have hwn:=z3y (itW a.sy v i) a.sy k1 (by omega)
   have hst:=hns (itW a.sy v i) (fun c hc=>(k1.2.2 c hc).2) (by omega) hK
   have hcu:=zh6 (itW a.sy v (i+1)) w (by omega)
   have hsu:=zrf (itW a.sy v (i+1)) w (by omega)
   have hau:=zow hM (itW a.sy v (i+1)) k3
   rw [z3t hM (w:=itW a.sy v (i+1)) k3.2.1] at hau
   have hit:scW a.sy (itW a.sy v i)=itW a.sy v (i+1):=rfl
   rw [hit] at hst hwn
   have hlt2:(i:Int)<30:=by omega
   generalize hu:itW a.sy v i=u at *
   generalize hu':itW a.sy v (i+1)=u' at *
   simp [g.nj,mkSt,go_sem,hlt,hlt2]
   refine zab hwn ?_
   simp [go_sem]
   rcases hst with ⟨s1,s2⟩|⟨s1,s2,s3⟩
   ·injection s2 with s2 s4
    subst s2 s4
    rw [z3a] at hcu
    rw [decide_eq_true (rfl:w=w)] at hsu
    simp [go_sem]
    refine zab hcu ?_
    simp [go_sem]
    refine zab hkn ?_
    simp [go_sem]
    refine zab hsu ?_
    simp [go_sem]
    refine hr' _ ?_
    rw [hQ]
    simp [go_sem]
   ·rw [s1] at hau
    cases ok with
    | true =>
     have hc:=s3 rfl
     have hc':¬ 0<=cmp5 u' w:=by omega
     simp [go_sem]
     refine zab hcu ?_
     simp [go_sem,hc']
     refine zab hau ?_
     simp [go_sem,e1]
     exact hn' (i+1) _ (Weak.to [5,7,8,10,11] [((5,0),5)] (by simp [go_sem,mkSt,hu'])) ⟨by omega,by rw [hu']; exact s2⟩ (by omega)
    | false =>
     simp [go_sem]
     refine zab hau ?_
     simp [go_sem,e1]
     exact hn' (i+1) _ (Weak.to [5,7,8,10,11] [((5,0),5)] (by simp [go_sem,mkSt,hu'])) ⟨by omega,by rw [hu']; exact s2⟩ (by omega)
  ·have:i=30:=by omega
   subst this
   simp [g.nj,mkSt,go_sem]
   refine hx _ _ ?_
   simpa [mkSt,go_sem] using hx0 30
 refine Sp.vz c.mj fun _=>?_
 simp [g.mj,go_sem]
 refine zab hm ?_
 simp [go_sem]
 refine zab hwi ?_
 simp [go_sem]
 refine zaa hnum (by simp [go_sem,hsy]) ?_
 simp [go_sem]
 refine zab hnx ?_
 simp [go_sem]
 cases ok with
 | true =>
  obtain ⟨n1,n2,n3⟩:=hnok rfl
  rw [n2] at haw
  have n3':¬ 0<=cmp5 v w:=by omega
  simp [go_sem]
  refine zab haw ?_
  simp [go_sem]
  refine zab hcv ?_
  simp [go_sem,n3']
  refine hloop _ _ _ (fun s=>rfl) (Weak.to [5,7,8,10,11] [((5,0),5)] (by simp [go_sem,mkSt])) fun i=>?_
  simp [mkSt,go_sem]
  refine zab hkn ?_
  simp [go_sem]
 | false =>
  simp [go_sem]
  refine hloop _ _ _ (fun s=>rfl) (Weak.to [5,7,8,10,11] [((5,0),5)] (by simp [go_sem,mkSt])) fun i=>?_
  simp [mkSt,go_sem]
  refine zab hkn ?_
  simp [go_sem]
end Go.Ab
namespace Go.Ab
end Go.Ab
namespace Go.Ab
section
variable {A:GAuto} {N:Nat} (hA:CtrOk A N) (hL:labI A) {S:Nat} (hS:1<=S) (hB:LabB A (S:Int)) (s:Int)
include hA hL hS hB
end
end Go.Ab
namespace Go.Ab
open Enc (enc)
attribute [local go_sem] zam Opd.slots
end Go.Ab
namespace Go.Ab
open Enc (enc)
attribute [local go_sem] zam Opd.slots
end Go.Ab
set_option linter.all false
namespace Go.Ab
open Enc (enc)
section
variable {H:Type} {en:TypeId × Value->H} {w:World}
theorem rdInt (n:Nat):RdN en P w n T.int (IsC Int):=yce ty.int
theorem rdBool (n:Nat):RdN en P w n T.bool (IsC Bool):=z8u ty.bool
theorem rdInts (n:Nat):RdN en P w n T.ints (IsC (List Int)):=z43 (fun _=>rfl) (fun _=>rfl) ty.ints ty.cell fun k _=>rdInt k
theorem gplan_one (x:GPlan):(enc x).cells.all PV.one=true:=by simp [go_sem,PV.cells]
theorem rdPlan (n:Nat):RdN en P w n T.plan (IsC GPlan):=z0d (Ds:=[IsC Int,IsC Int,IsC Bool,IsC Bool,IsC (List Int)]) ty.plan rfl (fun m _=>⟨rdInt m,rdInt m,rdBool m,rdBool m,rdInts m,trivial⟩) fun ls h=>by
 obtain ⟨_,ls1,rfl,⟨a,rfl⟩,h1⟩:=h.cons
 obtain ⟨_,ls2,rfl,⟨b,rfl⟩,h2⟩:=h1.cons
 obtain ⟨_,ls3,rfl,⟨c,rfl⟩,h3⟩:=h2.cons
 obtain ⟨_,ls4,rfl,⟨d,rfl⟩,h4⟩:=h3.cons
 obtain ⟨_,ls5,rfl,⟨e,rfl⟩,h5⟩:=h4.cons
 obtain rfl:=h5.nil
 exact ⟨⟨a,b,c,d,e⟩,by simp [PV.cells,go_sem]⟩
end
end Go.Ab
