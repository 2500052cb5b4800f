/-
Proofs for the law CountRanks, part 41. Conditions: none.
-/
import Derived.Test.YtdkocfjbmbenfaaGreatDoorAP40
import Derived.Test.YtdkocfjbmbenfaaGreatDoorAP35
import Derived.Test.YtdkocfjbmbenfaaGreatDoorAP14
import Derived.Test.YtdkocfjbmbenfaaGreatDoorAP28
set_option maxRecDepth 100000
set_option maxHeartbeats 4000000
set_option linter.all false
namespace Go.Ab
abbrev zrT:GW:=GRing.zero ⟨2,[]⟩
theorem zoo:zrT.inf=true:=by
 simp [GRing.zero,zkj]
 rfl
theorem zx6 {B:Int} (hB:0<=B):tw zrT B:=zld zyl hB
theorem z7a {w:GW} {B:Int} (h:tw w B):w≠zrT ↔ w.inf=false:=by
 obtain ⟨c,i,rfl,h2,h3,h4⟩:=h
 have e:zrT=.mk gr0 0 true 0 [] []:=by simp [GRing.zero,zkj]
 rw [e]
 cases i with
 | true=>rw [h4 rfl]; exact ⟨fun h=>absurd rfl h,fun h=>(by cases h)⟩
 | false=>exact ⟨fun _=>rfl,fun _ h=>(by cases h)⟩
theorem zij {v w:GW}:(GRing.plus ⟨2,[]⟩ v w).inf=(v.inf&&w.inf):=by
 have e:GRing.plus ⟨2,[]⟩ v w=if v.inf=true\/(w.inf=false/\w.cost<v.cost) then w else v:=by simp [GRing.plus,zau]
 rw [e]
 split
 ·rename_i h
  rcases h with h|h
  ·rw [h]; rfl
  ·rw [h.1,Bool.and_false]
 ·rename_i h
  have:v.inf=false:=by cases hv:v.inf<;>simp [hv] at h ⊢
  rw [this]; rfl
theorem zqs {v w:GW} (h:v.cost+w.cost<=1099511627776):(GRing.times ⟨2,[]⟩ v w).inf=(v.inf||w.inf):=by
 have e:GRing.times ⟨2,[]⟩ v w=if v.inf=true\/w.inf=true\/1099511627776<v.cost+w.cost then .mk gr0 0 true 0 [] [] else .mk gr0 (v.cost+w.cost) false 0 [] []:=by simp [GRing.times,zbv]
 rw [e]
 split
 ·rename_i hh
  rcases hh with hh|hh|hh
  ·rw [hh]; rfl
  ·rw [hh,Bool.or_true]; rfl
  ·omega
 ·rename_i hh
  have h1:v.inf=false:=by cases hv:v.inf<;>simp [hv] at hh ⊢
  have h2:w.inf=false:=by cases hv:w.inf<;>simp [hv] at hh ⊢
  rw [h1,h2]; rfl
theorem zot {w:GW} {B:Int} (h:tw w B):w.cost<=B:=by obtain ⟨c,i,rfl,h2,h3,h4⟩:=h; exact h3
theorem z5b {l:List GW} {i t:Nat} {y z:GW} (hi:i<l.length):(l.set i y).getD t z=if i=t then y else l.getD t z:=by
 rw [List.getD_eq_getElem?_getD,List.getD_eq_getElem?_getD,List.getElem?_set]
 by_cases h:i=t
 ·subst h; simp [hi]
 ·simp [h]
theorem zy4 {v:List GW} {B:Int} (hB:0<=B) (hB2:B+5<=1099511627776) (hv:∀ q,tw (v.getD q zrT) B) {c:Int} {N:Nat}:∀ (A:List GArc) (out:List GW),out.length=N->(∀ x∈A,x.t.toNat<N/\tw x.w 5)->(∀ t,tw (out.getD t zrT) (B+5)) ->
  ∀ t,tw ((A.foldl (stS ⟨2,[]⟩ v c) out).getD t zrT) (B+5)/\(((A.foldl (stS ⟨2,[]⟩ v c) out).getD t zrT).inf=false ↔ (out.getD t zrT).inf=false\/∃ x∈A,x.l=c/\x.t.toNat=t/\(v.getD x.f.toNat zrT).inf=false/\x.w.inf=false)
 | [],out,ho,hA,hout,t=>by simpa using hout t
 | x::A,out,ho,hA,hout,t=>by
  have hx:=hA x List.mem_cons_self
  rw [List.foldl_cons]
  have hlen:(stS ⟨2,[]⟩ v c out x).length=N:=by rw [zsy]; exact ho
  have hval:∀ t,(stS ⟨2,[]⟩ v c out x).getD t zrT=if x.l=c/\x.t.toNat=t then GRing.plus ⟨2,[]⟩ (out.getD t zrT) (GRing.times ⟨2,[]⟩ (v.getD x.f.toNat zrT) x.w) else out.getD t zrT:=by
   intro t
   unfold stS
   by_cases hc:x.l=c
   ·rw [if_pos hc,z5b (by omega)]
    by_cases ht:x.t.toNat=t
    ·rw [if_pos ht,if_pos ⟨hc,ht⟩,ht]
    ·rw [if_neg ht,if_neg (fun h=>ht h.2)]
   ·rw [if_neg hc,if_neg (fun h=>hc h.1)]
  have ht5:=zup (hv x.f.toNat) hx.2 (by omega)
  have hi:=zqs (v:=v.getD x.f.toNat zrT) (w:=x.w) (by have:=zot (hv x.f.toNat); have:=zot hx.2; omega)
  have ih:=zy4 hB hB2 hv (c:=c) A (stS ⟨2,[]⟩ v c out x) hlen (fun y hy=>hA y (List.mem_cons_of_mem _ hy)) (fun t=>by
   rw [hval]
   split
   ·exact zym (hout t) ht5
   ·exact hout t) t
  refine ⟨ih.1,ih.2.trans ?_⟩
  rw [hval]
  constructor
  ·rintro (h|⟨y,hy,h⟩)
   ·split at h
    ·rename_i hc
     rw [zij,hi] at h
     cases h1:(out.getD t zrT).inf with
     | false=>exact .inl rfl
     | true =>
      rw [h1] at h
      simp only [Bool.true_and,Bool.or_eq_false_iff] at h
      exact .inr ⟨x,List.mem_cons_self,hc.1,hc.2,h.1,h.2⟩
    ·exact .inl h
   ·exact .inr ⟨y,List.mem_cons_of_mem _ hy,h⟩
  ·rintro (h|⟨y,hy,h1,h2,h3,h4⟩)
   ·left
    split
    ·rw [zij,h]; rfl
    ·exact h
   ·rcases List.mem_cons.1 hy with rfl|hy
    ·left
     rw [if_pos ⟨h1,h2⟩,zij,hi,h3,h4]; simp
    ·exact .inr ⟨y,hy,h1,h2,h3,h4⟩
theorem zuw {B C:Int} (hB:0<=B+C) (hB2:B+C<=1099511627776):∀ (l:List (GW × GW)) (acc:GW),(∀ p∈l,tw p.1 B/\tw p.2 C) ->
  ((l.foldl (fun s p=>GRing.plus ⟨2,[]⟩ s (GRing.times ⟨2,[]⟩ p.1 p.2)) acc).inf=false ↔ acc.inf=false\/∃ p∈l,p.1.inf=false/\p.2.inf=false)
 | [],acc,_=>by simp
 | p::l,acc,h=>by
  have hp:=h p List.mem_cons_self
  have hi:=zqs (v:=p.1) (w:=p.2) (by have:=zot hp.1; have:=zot hp.2; omega)
  rw [List.foldl_cons,zuw hB hB2 l _ (fun q hq=>h q (List.mem_cons_of_mem _ hq)),zij,hi]
  simp only [List.mem_cons]
  constructor
  ·rintro (h|⟨q,hq,h⟩)
   ·cases h1:acc.inf with
    | false=>exact .inl rfl
    | true =>
     rw [h1] at h
     simp only [Bool.true_and,Bool.or_eq_false_iff] at h
     exact .inr ⟨p,.inl rfl,h⟩
   ·exact .inr ⟨q,.inr hq,h⟩
  ·rintro (h|⟨q,rfl|hq,h1,h2⟩)
   ·exact .inl (by rw [h]; rfl)
   ·exact .inl (by rw [h1,h2]; simp)
   ·exact .inr ⟨q,hq,h1,h2⟩
theorem zuh:∀ {l:List GW},(wsum ⟨2,[]⟩ l).inf=false ↔ ∃ w∈l,w.inf=false
 | []=>by
  show zrT.inf=false ↔ _
  rw [zoo]; simp
 | w::l=>by
  have ih:=zuh (l:=l)
  show (GRing.plus ⟨2,[]⟩ w (wsum ⟨2,[]⟩ l)).inf=false ↔ _
  rw [zij]
  simp only [Bool.and_eq_false_iff,ih,List.mem_cons,exists_eq_or_imp]
theorem yby {a:GAuto} (h:MdlA a) (f l t:Int):(∃ y∈a.nf.arcs,y.f=f/\y.l=l/\y.t=t) ↔ ∃ x∈a.arcs,x.f=f/\x.l=l/\x.t=t/\x.w.inf=false:=by
 have hr:=h.ring
 have hc:∀ x∈a.arcs,x.w.chk ⟨2,[]⟩:=fun x hx=>zgd (h.arcs x hx) (by omega)
 obtain ⟨b1,b2,b3⟩:=ze9 zkj hc
 have hk:=b3 fun k=>decide (k=[f,l,t])
 have en:a.nf.arcs=tid GArc.key GArc.w ⟨2,[]⟩ (upA ⟨2,[]⟩) a.arcs:=by rw [<- hr]; rfl
 rw [<- en] at b2 hk
 have key:∀ L:List GArc,(atQ GArc.key GArc.w ⟨2,[]⟩ L fun k=>decide (k=[f,l,t])).inf=false ↔ ∃ x∈L,x.f=f/\x.l=l/\x.t=t/\x.w.inf=false:=fun L=>by
  unfold atQ
  rw [zuh]
  constructor
  ·rintro ⟨w,hw,hi⟩
   obtain ⟨x,hx,rfl⟩:=List.mem_map.1 hw
   obtain ⟨h1,h2⟩:=List.mem_filter.1 hx
   simp only [GArc.key,decide_eq_true_eq,List.cons.injEq,and_true] at h2
   exact ⟨x,h1,h2.1,h2.2.1,h2.2.2,hi⟩
  ·rintro ⟨x,hx,h1,h2,h3,hi⟩
   exact ⟨x.w,List.mem_map.2 ⟨x,List.mem_filter.2 ⟨hx,by simp [GArc.key,h1,h2,h3]⟩,rfl⟩,hi⟩
 rw [<- key,<- hk,key]
 constructor
 ·rintro ⟨y,hy,h1,h2,h3⟩
  refine ⟨y,hy,h1,h2,h3,?_⟩
  obtain ⟨c1,c2⟩:=b2 y hy
  cases hi:y.w.inf with
  | false=>rfl
  | true =>
   exfalso
   apply c2
   have si:=c1.2.1 (by show (2:Int)≠6; omega)
   obtain ⟨s1,s2,s3,s4,s5,s6,s7,_⟩:=si
   have q1:=s2 (by show (2:Int)≠1; omega) (by show (2:Int)≠3; omega)
   have q2:=s4 (by show (2:Int)≠4; omega)
   have q3:=s5 (by show (2:Int)≠5; omega)
   have q4:=(s7 rfl).2.2 hi
   have e:zrT=.mk gr0 0 true 0 [] []:=by simp [GRing.zero,zkj]
   show y.w=zrT
   rw [e]
   cases hw:y.w with
   | mk q c i s p ps =>
    rw [hw] at s1 q1 q2 q3 q4 hi
    have r1:ps=[]:=s1
    have r2:q=gr0:=q1
    have r3:s=0:=q2
    have r4:p=[]:=q3
    have r5:c=0:=q4
    have r6:i=true:=hi
    rw [r1,r2,r3,r4,r5,r6]
 ·rintro ⟨y,hy,h1,h2,h3,_⟩
  exact ⟨y,hy,h1,h2,h3⟩
end Go.Ab
namespace Go.Ab
theorem z8o {A:GAuto} (hL:labI A) (q:Nat) (c:Int) (t:Nat):nxtJ A q c (zak A.arcs q).length=(t:Int) ↔ ∃ y∈A.arcs,y.f=(q:Int)/\y.l=c/\y.t=(t:Int):=by
 constructor
 ·intro h
  obtain ⟨j,hj,rfl⟩:=zpe _ (Nat.le_refl _) (show 0<=nxtJ A q c (zak A.arcs q).length by omega)
  rw [(zk0 hL hj 0).2] at h
  obtain ⟨h1,h2⟩:=List.mem_filter.1 (List.getElem_mem hj)
  simp only [decide_eq_true_eq] at h2
  exact ⟨_,h1,h2,rfl,h⟩
 ·rintro ⟨y,hy,h1,h2,h3⟩
  have hm:y∈zak A.arcs q:=List.mem_filter.2 ⟨hy,by simpa using h1⟩
  obtain ⟨j,hj,rfl⟩:=List.mem_iff_getElem.1 hm
  rw [<- h2,(zk0 hL hj 0).2,h3]
theorem z2u {a:GAuto} {k:Nat} (h:begC a k=0) {t:Nat} (ht:t<k) (hl:t<a.ini.length):a.ini[t]=a.ring.zero:=by
 unfold begC at h
 rw [List.length_eq_zero_iff,List.filter_eq_nil_iff] at h
 have hm:a.ini[t]∈a.ini.take k:=by
  rw [List.mem_iff_getElem]
  exact ⟨t,by rw [List.length_take]; omega,by simp⟩
 have:=h _ hm
 simpa using this
theorem zy5 {a:GAuto} {N:Nat} (hN:a.ini.length=N):∀ k,k<=N->begC a k<=1->∀ t,t<k->(a.ini.getD t a.ring.zero≠a.ring.zero ↔ stA a k=(t:Int))
 | 0,_,_,t,ht=>by omega
 | k+1,hk,hb,t,ht=>by
  have hkl:k<a.ini.length:=by omega
  have hs:=zm3 a hkl
  have hg:a.ini.getD k a.ring.zero=a.ini[k]:=by rw [List.getD_eq_getElem?_getD,List.getElem?_eq_getElem hkl]; rfl
  have hrng:=zsz a k
  by_cases hz:a.ini[k]=a.ring.zero
  ·rw [if_neg (by simpa using hz)] at hs
   have e:stA a (k+1)=stA a k:=by simp only [stA,hg]; rw [if_neg (by simpa using hz)]
   rw [e]
   by_cases htk:t=k
   ·subst htk
    rw [hg]
    exact ⟨fun h=>absurd hz h,fun h=>by omega⟩
   ·exact zy5 hN k (by omega) (by omega) t (by omega)
  ·rw [if_pos hz] at hs
   have e:stA a (k+1)=(k:Int):=by simp only [stA,hg]; rw [if_pos hz]
   rw [e]
   by_cases htk:t=k
   ·subst htk; rw [hg]; exact ⟨fun _=>rfl,fun _=>hz⟩
   ·have h0:=z2u (a:=a) (k:=k) (by omega) (t:=t) (by omega) (by omega)
    have hgt:a.ini.getD t a.ring.zero=a.ini[t]'(by omega):=by rw [List.getD_eq_getElem?_getD,List.getElem?_eq_getElem (by omega)]; rfl
    rw [hgt]
    exact ⟨fun h=>absurd h0 h,fun h=>by omega⟩
theorem z6x {a:GAuto} (h:MdlA a) {N:Nat} (hN:a.st.toNat=N):∀ (w:List Int) (v:List GW) (B:Int) (s:Int),v.length=N->0<=B->B+5*w.length<=1099511627776->(∀ q,tw (v.getD q zrT) B)->(∀ t:Nat,(v.getD t zrT).inf=false ↔ s=(t:Int)) ->
  (fwL ⟨2,[]⟩ a.arcs N v w).length=N/\(∀ q,tw ((fwL ⟨2,[]⟩ a.arcs N v w).getD q zrT) (B+5*w.length))/\∀ t:Nat,((fwL ⟨2,[]⟩ a.arcs N v w).getD t zrT).inf=false ↔ (rkR a.nf s w).2=(t:Int)
 | [],v,B,s,hv,hB,hB2,ht,hs=>by
  refine ⟨hv,fun q=>?_,hs⟩
  simpa [fwL] using ht q
 | c::w,v,B,s,hv,hB,hB2,ht,hs=>by
  have ok:=h.det.ok
  rw [List.length_cons] at hB2 ⊢
  have hA:∀ x∈a.arcs,x.t.toNat<N/\tw x.w 5:=fun x hx=>by
   have hx':=ok.arcs x hx
   exact ⟨by have h1:=hx'.2.2.1; have h2:=hx'.2.2.2.1; omega,h.arcs x hx⟩
  have hrep:∀ t,(List.replicate N zrT).getD t zrT=zrT:=fun t=>by
   rw [List.getD_eq_getElem?_getD,List.getElem?_replicate]; split<;>rfl
  have hst:=zy4 hB (by omega) ht (c:=c) (N:=N) a.arcs (List.replicate N zrT) (by simp) hA (fun t=>by rw [hrep]; exact zx6 (by omega))
  have hlen:(stL ⟨2,[]⟩ a.arcs v c N).length=N:=zoy _ _ _ _ _
  have hstep:fwL ⟨2,[]⟩ a.arcs N v (c::w)=fwL ⟨2,[]⟩ a.arcs N (stL ⟨2,[]⟩ a.arcs v c N) w:=rfl
  have hinf:∀ t:Nat,((stL ⟨2,[]⟩ a.arcs v c N).getD t zrT).inf=false ↔ (if s<0 then s else nxtJ a.nf s.toNat c (zak a.nf.arcs s.toNat).length)=(t:Int):=fun t=>by
   refine (hst t).2.trans ?_
   rw [hrep,zoo]
   simp only [Bool.true_eq_false,false_or]
   by_cases hneg:s<0
   ·rw [if_pos hneg]
    constructor
    ·rintro ⟨x,_,_,_,h3,_⟩
     have:=(hs x.f.toNat).1 h3
     omega
    ·intro h; omega
   ·rw [if_neg hneg,z8o h.det.lab,yby h]
    constructor
    ·rintro ⟨x,hx,h1,h2,h3,h4⟩
     have hx':=ok.arcs x hx
     have hf:=(hs x.f.toNat).1 h3
     have q1:=hx'.1
     have q2:=hx'.2.2.1
     exact ⟨x,hx,by omega,h1,by omega,h4⟩
    ·rintro ⟨x,hx,h1,h2,h3,h4⟩
     exact ⟨x,hx,h2,by omega,(hs _).2 (by omega),h4⟩
  have ih:=z6x h hN w (stL ⟨2,[]⟩ a.arcs v c N) (B+5) (if s<0 then s else nxtJ a.nf s.toNat c (zak a.nf.arcs s.toNat).length) hlen (by omega) (by omega) (fun q=>(hst q).1) hinf
  rw [hstep]
  refine ⟨ih.1,fun q=>zld (ih.2.1 q) (by omega),fun t=>(ih.2.2 t).trans ?_⟩
  by_cases hneg:s<0
  ·rw [if_pos hneg,zjb _ hneg,zjb _ hneg]
  ·rw [if_neg hneg]
   simp only [rkR]
   rw [if_neg hneg]
theorem zmm (a:GAuto):a.nf.ini=a.ini/\a.nf.fin=a.fin/\a.nf.ring=a.ring:=⟨rfl,rfl,rfl⟩
theorem z9z {a:GAuto} (h:MdlA a) {w:List Int} (hw:w.length<=256):(!(wgt8 a w).inf)=endB a.nf (rkA a.nf (stN a) w).2:=by
 have ok:=h.det.ok
 have hst:=h.st
 obtain ⟨N,hN⟩:∃ N,a.st.toNat=N:=⟨_,rfl⟩
 have il:=ok.il
 have fl:=ok.fl
 have hil:a.ini.length=N:=by omega
 have hfl:a.fin.length=N:=by omega
 have hini:∀ q,tw (a.ini.getD q zrT) 5:=fun q=>by
  rw [List.getD_eq_getElem?_getD]
  by_cases hq:q<a.ini.length
  ·rw [List.getElem?_eq_getElem hq]; exact h.ini _ (List.getElem_mem hq)
  ·rw [List.getElem?_eq_none (by omega)]; exact zx6 (by omega)
 have hfin:∀ q,tw (a.fin.getD q zrT) 5:=fun q=>by
  rw [List.getD_eq_getElem?_getD]
  by_cases hq:q<a.fin.length
  ·rw [List.getElem?_eq_getElem hq]; exact h.fin _ (List.getElem_mem hq)
  ·rw [List.getElem?_eq_none (by omega)]; exact zx6 (by omega)
 have hrng:=zox a
 have hs:∀ t:Nat,(a.ini.getD t zrT).inf=false ↔ stN a=(t:Int):=fun t=>by
  rw [<- z7a (hini t)]
  by_cases ht:t<N
  ·have:=zy5 (a:=a.nf) (N:=N) hil N (Nat.le_refl _) (by have:=h.det.beg; rw [hN] at this; exact this) t ht
   rw [show a.nf.ring.zero=zrT from by rw [(zmm a).2.2,h.ring]] at this
   rw [show stN a=stA a.nf N from by rw [<- hN]]
   exact this
  ·rw [List.getD_eq_getElem?_getD,List.getElem?_eq_none (by omega)]
   exact ⟨fun h=>absurd rfl h,fun h=>by omega⟩
 obtain ⟨v1,v2,v3⟩:=z6x h hN w a.ini 5 (stN a) hil (by omega) (by omega) hini hs
 have e:wgt8 a w=((fwL ⟨2,[]⟩ a.arcs N a.ini w).zip a.fin).foldl (fun s p=>GRing.plus ⟨2,[]⟩ s (GRing.times ⟨2,[]⟩ p.1 p.2)) zrT:=by
  unfold wgt8 sumW; rw [h.ring,hN]
 generalize fwL ⟨2,[]⟩ a.arcs N a.ini w=V at *
 have hsum:=zuw (B:=5+5*w.length) (C:=5) (by omega) (by omega) (V.zip a.fin) zrT (fun p hp=>by
  obtain ⟨i,hi,rfl⟩:=List.mem_iff_getElem.1 hp
  rw [List.length_zip] at hi
  rw [List.getElem_zip]
  refine ⟨?_,h.fin _ (List.getElem_mem _)⟩
  have:=v2 i
  rw [List.getD_eq_getElem?_getD,List.getElem?_eq_getElem (by omega)] at this
  exact this)
 rw [<- e,zoo] at hsum
 simp only [Bool.true_eq_false,false_or] at hsum
 rw [zzp]
 simp only
 generalize (rkR a.nf (stN a) w).2=q at *
 have key:(wgt8 a w).inf=false ↔ endB a.nf q=true:=by
  rw [hsum]
  constructor
  ·rintro ⟨p,hp,h1,h2⟩
   obtain ⟨i,hi,rfl⟩:=List.mem_iff_getElem.1 hp
   rw [List.length_zip] at hi
   rw [List.getElem_zip] at h1 h2
   have hq:=(v3 i).1 (by rw [List.getD_eq_getElem?_getD,List.getElem?_eq_getElem (by omega)]; exact h1)
   unfold endB
   rw [if_neg (by omega),hq,Int.toNat_natCast]
   have:=(z7a (hfin i)).2 (by rw [List.getD_eq_getElem?_getD,List.getElem?_eq_getElem (by omega)]; exact h2)
   rw [(zmm a).2.1,(zmm a).2.2,h.ring]
   exact decide_eq_true this
  ·intro he
   unfold endB at he
   by_cases hq:q<0
   ·rw [if_pos hq] at he; cases he
   ·rw [if_neg hq] at he
    obtain ⟨i,rfl⟩:∃ i:Nat,q=(i:Int):=⟨q.toNat,by omega⟩
    rw [Int.toNat_natCast,(zmm a).2.1,(zmm a).2.2,h.ring] at he
    have hf:=(z7a (hfin i)).1 (of_decide_eq_true he)
    have hv:=(v3 i).2 rfl
    have hi:i<a.fin.length:=by
     by_cases hi:i<a.fin.length
     ·exact hi
     ·rw [List.getD_eq_getElem?_getD,List.getElem?_eq_none (by omega)] at hf
      have:=zoo
      rw [show (none:Option GW).getD zrT=zrT from rfl,this] at hf; cases hf
    have hiv:i<V.length:=by omega
    rw [List.getD_eq_getElem?_getD,List.getElem?_eq_getElem hi] at hf
    rw [List.getD_eq_getElem?_getD,List.getElem?_eq_getElem hiv] at hv
    refine ⟨(V[i],a.fin[i]),?_,hv,hf⟩
    rw [List.mem_iff_getElem]
    exact ⟨i,by rw [List.length_zip]; omega,by rw [List.getElem_zip]⟩
 cases h1:(wgt8 a w).inf with
 | false=>rw [key.1 h1]; rfl
 | true =>
  cases h2:endB a.nf q with
  | false=>rfl
  | true=>rw [key.2 h2] at h1; cases h1
end Go.Ab
namespace Go.Ab
open Enc (enc)
attribute [local go_sem] zam Opd.slots
theorem z6k {s:Nat} (hs:1<=s):∀ (n r:Nat) (acc:List Int),(∀ c∈acc,1<=c/\c<=(s:Int))->(∀ c∈sfW s n r acc,1<=c/\c<=(s:Int))/\(sfW s n r acc).length=n+acc.length
 | 0,r,acc,h=>⟨h,by simp [sfW]⟩
 | n+1,r,acc,h=>by
  have hm:=Nat.mod_lt r (show 0<s by omega)
  have ih:=z6k hs n (r / s) ((1+(r % s:Nat):Int)::acc) (fun c hc=>by
   rcases List.mem_cons.1 hc with rfl|hc
   ·omega
   ·exact h c hc)
  refine ⟨ih.1,?_⟩
  show (sfW s n (r / s) _).length=_
  rw [ih.2,List.length_cons]; omega
theorem zv2 {s:Nat} (hs:2<=s):∀ n,2^n<=gsum s n+1
 | 0=>by simp [gsum]
 | n+1=>by
  have ih:=zv2 hs n
  have h1:2^n<=s^n:=Nat.pow_le_pow_left hs n
  simp only [gsum]; rw [Nat.pow_succ]; omega
theorem z8p (k:Int) (s:Nat):numK k s<400/\(s<2->numK k s<60):=by
 have r1:=zcg k (show (1:Int)<=400 by omega)
 have r2:=zcg (wthn k 400) (show (1:Int)<=60 by omega)
 unfold numK
 split
 ·exact ⟨by omega,fun _=>by omega⟩
 ·exact ⟨by omega,fun h=>by omega⟩
theorem z4r (k:Int) {s:Nat} (hs:1<=s/\s<=32):zk7 (zpf s (numK k s)) s/\(zpf s (numK k s)).length<=60:=by
 obtain ⟨k1,k2⟩:=z8p k s
 obtain ⟨l1,l2,l3⟩:=z0m hs.1 k1
 have hl:numL s (numK k s)<=60:=by
  by_cases h:s<2
  ·have:=k2 h; have:=zmk hs.1 (numL s (numK k s)); omega
  ·have h9:gsum s (numL s (numK k s))<=399:=by omega
   by_cases hb:numL s (numK k s)<=60
   ·exact hb
   ·have h1:=zv2 (show 2<=s by omega) (numL s (numK k s))
    have h2:2^10<=2^numL s (numK k s):=Nat.pow_le_pow_right (by omega) (by omega)
    omega
 have h:=z6k hs.1 (numL s (numK k s)) (numK k s - gsum s (numL s (numK k s))) [] (fun c hc=>by cases hc)
 have hlen:(zpf s (numK k s)).length=numL s (numK k s):=by have:=h.2; simpa [zpf] using this
 exact ⟨⟨by omega,by omega,h.1⟩,by omega⟩
theorem yf1 {A:GAuto} (h:A.arcs.length<=2048) (s:Int) {k:Nat} (hk:k<=300):bN A s k<4294967296^1048576:=by
 refine Nat.lt_of_le_of_lt (z2w h s k (by omega)) ?_
 exact Nat.lt_of_le_of_lt (Nat.pow_le_pow_left (by omega:2048<=4294967296) (k+1)) (ygo 4294967296 (k+1) 1048576 (by omega) (by omega))
theorem countRanks_sp (p:GPlan) (k at_:Int):Sp P F.mi [enc p,.int .i64 k,.int .i64 at_] (.pure (.bool true)):=by
 have hm:=zxb p
 have hM:MdlA (zso wkT { p with sg:=true } 4):=z0y rfl
 generalize zso wkT { p with sg:=true } 4=a at *
 have hD:=hM.det
 have hA:=hD.ctr
 have hL:=hD.lab
 have hK:=zcg k (show (1:Int)<=2000 by omega)
 have hw:=zec k 2000 (by omega)
 obtain ⟨kk,hkk⟩:∃ kk:Nat,wthn k 2000=(kk:Int):=⟨(wthn k 2000).toNat,by omega⟩
 rw [hkk] at hw
 have hkl:kk<4294967296^1048576:=zks (by omega)
 have hwh:=zk8 kk (by omega)
 have hun:=ze1 hD hkl
 have hup:=zkb hD (n:=256) (by omega)
 have hbl:=yf1 hA.al (stN a) (k:=257) (by omega)
 have hcmp:=zua kk (bN a.nf (stN a) 257) hkl hbl
 have hkn:=zxe
 obtain ⟨sy,hsy⟩:∃ sy:Nat,a.sy=(sy:Int):=⟨a.sy.toNat,by have:=hM.sy; omega⟩
 have hsr:=hM.sy
 obtain ⟨vok,vlen⟩:=z4r at_ (s:=sy) (by omega)
 have hnum:=zw4 at_ sy (by omega)
 rw [<- hsy] at vok hnum
 generalize zpf sy (numK at_ sy)=v at *
 have hrv:=zkc hD (w:=v) vok
 have hrlt:=yet hA.al (stN a) (w:=v) (by omega)
 have hunv:=ze1 hD (k:=(rkA a.nf (stN a) v).1) (by omega)
 have hback:=fun h=>zss hA hL (s:=stN a) (w:=v) (by omega) h
 have huok:=yaq hD kk
 have hrw:=zkc hD (w:=(urR a.nf (stN a) kk).1) huok
 have haw:=zx5 hM (urR a.nf (stN a) kk).1 huok
 have hai:=z9z hM (w:=(urR a.nf (stN a) kk).1) huok.2.1
 rw [hai] at haw
 have hyes:=fun h=>zs5 hA hL (s:=stN a) (k:=kk) h
 have hno:=fun h=>zst (A:=a.nf) (s:=stN a) (k:=kk) h
 have hlen:=huok.2.1
 generalize hW:urR a.nf (stN a) kk=W at *
 obtain ⟨w,ok⟩:=W
 simp only at *
 generalize hn:bN a.nf (stN a) 257=n at *
 generalize rkA a.nf (stN a) w=rw_ at *
 generalize hrk:rkA a.nf (stN a) v=rv at *
 generalize hew:endB a.nf rw_.2=ew at *
 generalize hev:endB a.nf rv.2=ev at *
 obtain ⟨r1,r2⟩:=rw_
 obtain ⟨q1,q2⟩:=rv
 simp only at *
 have hsame:=zq1 v v (by omega)
 rw [decide_eq_true (rfl:v=v)] at hsame
 refine Sp.vz c.mi fun _=>?_
 simp [g.mi,go_sem]
 refine zab hm ?_
 simp [go_sem]
 refine zab hw ?_
 simp [go_sem]
 refine zab hwh ?_
 simp [go_sem]
 refine zab hun ?_
 simp [go_sem]
 refine zab hup ?_
 simp [go_sem]
 refine zab hw ?_
 simp [go_sem]
 refine zab hwh ?_
 simp [go_sem]
 refine zab hcmp ?_
 by_cases hk:kk<n
 ·obtain ⟨rfl,rfl,rfl⟩:=hyes hk
  have hself:=zua r1 r1 hkl hkl
  rw [if_neg (by omega),if_neg (by omega)] at hself
  rw [if_pos hk]
  simp [go_sem]
  refine zab hrw ?_
  simp [go_sem]
  refine zab hw ?_
  simp [go_sem]
  refine zab hwh ?_
  simp [go_sem]
  refine zab hself ?_
  simp [go_sem]
  refine zab haw ?_
  simp [go_sem]
  refine zaa hnum (by simp [go_sem,hsy]) ?_
  simp [go_sem]
  refine zab hrv ?_
  simp [go_sem]
  cases ev with
  | false =>
   simp [go_sem]
   refine zab hkn ?_
   simp [go_sem]
  | true =>
   have hb:=hback rfl
   rw [hb] at hunv
   simp only at hunv
   simp [go_sem]
   refine zab hunv ?_
   simp [go_sem]
   refine zab hkn ?_
   simp [go_sem]
   refine zab hsame ?_
   simp [go_sem]
 ·have hW2:=hno (by omega)
  injection hW2 with hW2 hW3
  subst hW2 hW3
  rw [if_neg hk]
  have h01:¬ (if n<kk then (1:Int) else 0)<0:=by split<;>omega
  simp [go_sem,h01]
  refine zaa hnum (by simp [go_sem,hsy]) ?_
  simp [go_sem]
  refine zab hrv ?_
  simp [go_sem]
  cases ev with
  | false =>
   simp [go_sem]
   refine zab hkn ?_
   simp [go_sem]
  | true =>
   have hb:=hback rfl
   rw [hb] at hunv
   simp only at hunv
   simp [go_sem]
   refine zab hunv ?_
   simp [go_sem]
   refine zab hkn ?_
   simp [go_sem]
   refine zab hsame ?_
   simp [go_sem]
end Go.Ab
namespace Go.Ab
end Go.Ab
namespace Go.Ab
structure LabB (A:GAuto) (sy:Int):Prop where
 lo:∀ x∈A.arcs,1<=x.l
 hi:∀ x∈A.arcs,x.l<=sy
end Go.Ab
namespace Go.Ab
open Enc (enc)
attribute [local go_sem] zam Opd.slots
end Go.Ab
namespace Go.Ab
section
variable {A:GAuto} {N:Nat} (hA:CtrOk A N) (hL:labI A)
include hA hL
end
end Go.Ab
namespace Go.Ab
open Enc (enc)
attribute [local go_sem] zam Opd.slots
end Go.Ab
namespace Go.Ab
end Go.Ab
namespace Go.Ab
section
variable {A:GAuto} {N:Nat} (hA:CtrOk A N) (hL:labI A) {S:Nat} (hS:1<=S) (hB:LabB A (S:Int)) (s:Int)
include hA hL hS hB
end
end Go.Ab
namespace Go.Ab
open Enc (enc)
attribute [local go_sem] zam Opd.slots
end Go.Ab
namespace Go.Ab
open Enc (enc)
attribute [local go_sem] zam Opd.slots
end Go.Ab
set_option linter.all false
namespace Go.Ab
open Enc (enc)
section
variable {H:Type} {en:TypeId × Value->H} {w:World}
theorem rdInt (n:Nat):RdN en P w n T.int (IsC Int):=ybf ty.int
theorem rdBool (n:Nat):RdN en P w n T.bool (IsC Bool):=z7s ty.bool
theorem rdInts (n:Nat):RdN en P w n T.ints (IsC (List Int)):=z4a (fun _=>rfl) (fun _=>rfl) ty.ints ty.cell fun k _=>rdInt k
theorem gplan_one (x:GPlan):(enc x).cells.all PV.one=true:=by simp [go_sem,PV.cells]
theorem rdPlan (n:Nat):RdN en P w n T.plan (IsC GPlan):=zzu (Ds:=[IsC Int,IsC Int,IsC Bool,IsC Bool,IsC (List Int)]) ty.plan rfl (fun m _=>⟨rdInt m,rdInt m,rdBool m,rdBool m,rdInts m,trivial⟩) fun ls h=>by
 obtain ⟨_,ls1,rfl,⟨a,rfl⟩,h1⟩:=h.cons
 obtain ⟨_,ls2,rfl,⟨b,rfl⟩,h2⟩:=h1.cons
 obtain ⟨_,ls3,rfl,⟨c,rfl⟩,h3⟩:=h2.cons
 obtain ⟨_,ls4,rfl,⟨d,rfl⟩,h4⟩:=h3.cons
 obtain ⟨_,ls5,rfl,⟨e,rfl⟩,h5⟩:=h4.cons
 obtain rfl:=h5.nil
 exact ⟨⟨a,b,c,d,e⟩,by simp [PV.cells,go_sem]⟩
end
end Go.Ab
