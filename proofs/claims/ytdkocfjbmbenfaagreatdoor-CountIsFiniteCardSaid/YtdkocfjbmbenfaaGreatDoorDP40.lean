/-
Proofs for the law CountIsFinite, part 40. Conditions: none.
-/
import Derived.Test.YtdkocfjbmbenfaaGreatDoorDP39
set_option maxRecDepth 100000
set_option maxHeartbeats 4000000
set_option linter.all false
namespace Go.Ab
def Ea (A:GAuto) (x y:Nat):Prop:=∃ z∈A.arcs,z.f=(x:Int)/\z.t=(y:Int)
def Fi (A:GAuto) (q:Nat):Prop:=A.fin.getD q A.ring.zero≠A.ring.zero
theorem zwe {α : Type} {f : α -> Nat}:∀ {l:List α},0<(l.map f).sum ↔ ∃ x∈l,0<f x
 | []=>by simp
 | x::l=>by
  have ih:=zwe (f:=f) (l:=l)
  simp only [List.map_cons,List.sum_cons,List.mem_cons]
  constructor
  ·intro h
   by_cases h1:0<f x
   ·exact ⟨x,.inl rfl,h1⟩
   ·obtain ⟨y,h2,h3⟩:=ih.1 (by omega)
    exact ⟨y,.inr h2,h3⟩
  ·rintro ⟨y,rfl|hy,h2⟩
   ·omega
   ·have:=ih.2 ⟨y,hy,h2⟩; omega
theorem zt4 {A:GAuto} (ht:∀ x∈A.arcs,0<=x.t):∀ m q,0<cnA A m q ↔ ∃ e,Fi A e/\RN (Ea A) m q e
 | 0,q=>by
  simp only [cnA,cn,RN]
  constructor
  ·intro h
   refine ⟨q,fun e=>?_,rfl⟩
   rw [if_pos e] at h; omega
  ·rintro ⟨e,h1,rfl⟩
   rw [if_neg h1]; omega
 | m+1,q=>by
  simp only [cnA,cn]
  rw [zwe]
  constructor
  ·rintro ⟨x,hx,h⟩
   obtain ⟨h1,h2⟩:=List.mem_filter.1 hx
   obtain ⟨e,k1,k2⟩:=(zt4 ht m _).1 h
   exact ⟨e,k1,x.t.toNat,⟨x,h1,of_decide_eq_true h2,by have:=ht x h1; omega⟩,k2⟩
  ·rintro ⟨e,k1,y,⟨x,h1,h2,h3⟩,k2⟩
   refine ⟨x,List.mem_filter.2 ⟨h1,decide_eq_true h2⟩,(zt4 ht m _).2 ⟨e,k1,?_⟩⟩
   rw [h3,Int.toNat_natCast]; exact k2
section
variable {A:GAuto} {N:Nat} (hA:CtrOk A N)
include hA
theorem z8k {x:GArc} (hx:x∈A.arcs):Ea A (fT x) (tT x):=by
 have h1:=hA.inN.f x hx
 have h2:=hA.t x hx
 exact ⟨x,hx,by unfold fT; omega,by unfold tT; omega⟩
theorem z2b {x y:Nat} (h:Ea A x y):y<N:=by
 obtain ⟨z,h1,h2,h3⟩:=h
 have:=hA.t z h1; omega
theorem z4r {q:Nat}:Mk tT fT A.arcs (endP A N) q ↔ ∃ n e,endP A N e/\RN (Ea A) n q e:=by
 constructor
 ·intro h
  induction h with
  | base h=>exact ⟨0,_,h,rfl⟩
  | step hx _ ih =>
   obtain ⟨n,e,h1,h2⟩:=ih
   exact ⟨n+1,e,h1,_,z8k hA hx,h2⟩
 ·rintro ⟨n,e,h1,h2⟩
  have key:∀ (n q:Nat),RN (Ea A) n q e->Mk tT fT A.arcs (endP A N) q:=fun n=>by
   induction n with
   | zero=>intro q h; cases h; exact .base h1
   | succ n ih =>
    rintro q ⟨z,⟨x,hx,e1,e2⟩,k⟩
    have:=ih z k
    have e3:tT x=z:=by unfold tT; omega
    have e4:fT x=q:=by unfold fT; omega
    rw [<- e4]
    exact .step hx (by rw [e3]; exact this)
  exact key n q h2
theorem z4s {q:Nat}:Mk fT tT A.arcs (begP A N) q ↔ ∃ n b,begP A N b/\RN (Ea A) n b q:=by
 constructor
 ·intro h
  induction h with
  | base h=>exact ⟨0,_,h,rfl⟩
  | step hx _ ih =>
   obtain ⟨n,e,h1,h2⟩:=ih
   exact ⟨n+1,e,h1,h2.app (n:=1) ⟨_,z8k hA hx,rfl⟩⟩
 ·rintro ⟨n,b,h1,h2⟩
  have key:∀ (n x:Nat),Mk fT tT A.arcs (begP A N) x->RN (Ea A) n x q->Mk fT tT A.arcs (begP A N) q:=fun n=>by
   induction n with
   | zero=>intro x h k; cases k; exact h
   | succ n ih =>
    rintro x h ⟨z,⟨w,hw,e1,e2⟩,k⟩
    have e3:tT w=z:=by unfold tT; omega
    have e4:fT w=x:=by unfold fT; omega
    refine ih z ?_ k
    rw [<- e3]
    exact .step hw (by rw [e4]; exact h)
  exact key n b (.base h1) h2
end
theorem z5v {A:GAuto} {k b:Nat} (hb:b<k) (h:A.ini.getD b A.ring.zero≠A.ring.zero):1<=begC A k:=by
 have hl:b<A.ini.length:=by
  by_cases hl:b<A.ini.length
  ·exact hl
  ·exfalso; apply h; rw [List.getD_eq_getElem?_getD,List.getElem?_eq_none (by omega)]; rfl
 have hg:A.ini.getD b A.ring.zero=A.ini[b]:=by rw [List.getD_eq_getElem?_getD,List.getElem?_eq_getElem hl]; rfl
 unfold begC
 refine List.length_pos_of_mem (a:=A.ini[b]) (List.mem_filter.2 ⟨?_,by rw [<- hg]; exact decide_eq_true h⟩)
 have hl2:b<(A.ini.take k).length:=by rw [List.length_take]; omega
 have:(A.ini.take k)[b]=A.ini[b]:=by simp
 rw [<- this]; exact List.getElem_mem hl2
theorem zsl {A:GAuto}:∀ k,k<=A.ini.length->begC A k<=1->∀ b,b<k->A.ini.getD b A.ring.zero≠A.ring.zero->stA A k=(b:Int)
 | 0,_,_,b,h,_=>by omega
 | k+1,hk,hc,b,hb,h=>by
  have e:=zlq A (show k<A.ini.length by omega)
  have hg:A.ini.getD k A.ring.zero=A.ini[k]'(by omega):=by rw [List.getD_eq_getElem?_getD,List.getElem?_eq_getElem (by omega)]; rfl
  by_cases hbk:b=k
  ·subst hbk; simp only [stA]; rw [if_pos h]
  ·have hp:=z5v (k:=k) (show b<k by omega) h
   have hz:¬ A.ini.getD k A.ring.zero≠A.ring.zero:=fun hn=>by
    rw [hg] at hn
    rw [if_pos hn] at e; omega
   simp only [stA]; rw [if_neg hz]
   refine zsl k (by omega) ?_ b (by omega) h
   rw [hg] at hz
   rw [if_neg hz] at e; omega
theorem zq0 {A:GAuto}:∀ k (b:Nat),stA A k=(b:Int)->b<k/\A.ini.getD b A.ring.zero≠A.ring.zero
 | 0,b,h=>by simp only [stA] at h; omega
 | k+1,b,h=>by
  simp only [stA] at h
  split at h
  ·rename_i hn
   have:k=b:=by omega
   subst this; exact ⟨by omega,hn⟩
  ·have:=zq0 k b h; exact ⟨by omega,this.2⟩
def adjU (A:GAuto) (U:List Bool) (q:Nat):List Nat:=((zas A.arcs q).filter fun x=>U.getD (tT x) false).map tT
def acyV (A:GAuto) (U:List Bool) (N:Nat):Bool:=(dfsL (dfsF (adjU A U) (N+1)) ((List.range N).filter fun q=>U.getD q false) (List.replicate N 0)).1
theorem z3p {A:GAuto} {N q:Nat} (hq:q<N):(usV A N).getD q false=true ↔ Mk tT fT A.arcs (endP A N) q/\Mk fT tT A.arcs (begP A N) q:=by
 classical
 have gm:∀ (f:Nat->Bool),(mp N f).getD q false=f q:=fun f=>by
  have hl:q<(mp N f).length:=by rw [zbu]; exact hq
  rw [List.getD_eq_getElem?_getD,List.getElem?_eq_getElem hl,ze0]; rfl
 unfold usV andV
 rw [gm,if_pos hq]
 unfold endV begV mkV
 rw [gm,gm,Bool.and_eq_true,decide_eq_true_eq,decide_eq_true_eq]
section
variable {A:GAuto} {N:Nat} (hA:CtrOk A N) (hil:A.ini.length=N) (hb:begC A N<=1)
include hA hil hb
theorem zh8 {q y:Nat}:Ad (adjU A (usV A N)) q y ↔ Ea A q y/\(usV A N).getD y false=true:=by
 unfold Ad adjU
 rw [List.mem_map]
 constructor
 ·rintro ⟨x,hx,rfl⟩
  obtain ⟨h1,h2⟩:=List.mem_filter.1 hx
  obtain ⟨h3,h4⟩:=List.mem_filter.1 h1
  have:=hA.t x h3
  exact ⟨⟨x,h3,of_decide_eq_true h4,by unfold tT; omega⟩,h2⟩
 ·rintro ⟨⟨x,h1,h2,h3⟩,h4⟩
  have e:tT x=y:=by unfold tT; omega
  exact ⟨x,List.mem_filter.2 ⟨List.mem_filter.2 ⟨h1,decide_eq_true h2⟩,by rw [e]; exact h4⟩,e⟩
theorem zse {q:Nat} (hq:q<N):(usV A N).getD q false=true ↔ (∃ n e,e<N/\Fi A e/\RN (Ea A) n q e)/\∃ n b,stA A N=((b:Nat):Int)/\b<N/\RN (Ea A) n b q:=by
 rw [z3p hq,z4r hA,z4s hA]
 constructor
 ·rintro ⟨⟨n,e,h1,h2⟩,m,b,h3,h4⟩
  exact ⟨⟨n,e,h1.1,h1.2,h2⟩,m,b,zsl N (by omega) hb b h3.1 h3.2,h3.1,h4⟩
 ·rintro ⟨⟨n,e,h0,h1,h2⟩,m,b,h3,h5,h4⟩
  exact ⟨⟨n,e,⟨h0,h1⟩,h2⟩,m,b,zq0 N b h3,h4⟩
theorem z7g:∀ {n x y:Nat},x<N->RN (Ea A) n x y->y<N
 | 0,_,_,h,e=>by cases e; exact h
 | n+1,_,_,_,⟨_,h1,h2⟩=>z7g (z2b hA h1) h2
theorem z56:acyV A (usV A N) N=true ↔ ∀ m,N<=m->m<2*N->wcn A (stA A N) m=0:=by
 have hNb:∀ q y,Ad (adjU A (usV A N)) q y->y<N:=fun q y h=>z2b hA ((zh8 hA hil hb).1 h).1
 have hget:∀ q,(List.replicate N (0:Int)).getD q 0=0:=fun q=>by
  rw [List.getD_eq_getElem?_getD,List.getElem?_replicate]; split<;>rfl
 have hdin:Din (adjU A (usV A N)) N (List.replicate N 0):=⟨by simp,fun q=>.inl (hget q),fun q hq=>by rw [hget] at hq; omega⟩
 have hz:zer (List.replicate N (0:Int))<N+1:=by have:=zvu (List.replicate N (0:Int)); simp at this; omega
 obtain ⟨r1,r2⟩:=zrw (adj:=adjU A (usV A N)) (N:=N) (n:=N+1) (fun s q h1 h2 h3 h4=>zze (fun q _ y hy=>hNb q y hy) (N+1) s q h1 h2 h3 h4) ((List.range N).filter fun q=>(usV A N).getD q false) (List.replicate N 0) hdin
  (fun y hy=>List.mem_range.1 (List.mem_filter.1 hy).1) hz (fun y _ x hx=>by rw [hget] at hx; omega)
 constructor
 ·intro h m h1 h2
  obtain ⟨k1,k2⟩:=r1 h
  have hacc:∀ q,q<N->(usV A N).getD q false=true->Acc (fun y x=>Ad (adjU A (usV A N)) x y) q:=fun q hq hu=>k1.acc q (k2 q (List.mem_filter.2 ⟨List.mem_range.2 hq,hu⟩))
  by_cases hw:wcn A (stA A N) m=0
  ·exact hw
  exfalso
  unfold wcn at hw
  split at hw
  ·exact hw rfl
  rename_i hs
  obtain ⟨b,hsb⟩:∃ b:Nat,stA A N=(b:Int):=⟨(stA A N).toNat,by omega⟩
  rw [hsb,Int.toNat_natCast] at hw
  obtain ⟨e,e1,e2⟩:=(zt4 (fun x hx=>(hA.t x hx).1) m b).1 (by omega)
  have hb2:=(zq0 N b hsb).1
  have heN:=z7g hA hil hb hb2 e2
  have key:∀ (m x k:Nat),RN (Ea A) k b x->RN (Ea A) m x e->RN (Ad (adjU A (usV A N))) m x e:=fun m=>by
   induction m with
   | zero=>intro x k _ h; exact h
   | succ m ih =>
    rintro x k hk ⟨y,hy,hr⟩
    have hk2:RN (Ea A) (k+1) b y:=hk.app (n:=1) ⟨y,hy,rfl⟩
    exact ⟨y,(zh8 hA hil hb).2 ⟨hy,(zse hA hil hb (z2b hA hy)).2 ⟨⟨m,e,heN,e1,hr⟩,k+1,b,hsb,hb2,hk2⟩⟩,ih y (k+1) hk2 hr⟩
  obtain ⟨i,d,k,z,d1,_,_,_,hc,_⟩:=(key m b 0 rfl e2).cut h1 hNb hb2
  obtain ⟨d,rfl⟩:∃ d',d=d'+1:=⟨d - 1,by omega⟩
  have ht:=hc.tc
  have hlast:∃ y,Ad (adjU A (usV A N)) y z:=by
   cases ht with
   | one h=>exact ⟨_,h⟩
   | more _ h=>exact ⟨_,h⟩
  obtain ⟨y,hy⟩:=hlast
  exact z89 (hacc z (hNb _ _ hy) ((zh8 hA hil hb).1 hy).2) ht
 ·intro h
  cases hf:acyV A (usV A N) N with
  | true=>rfl
  | false =>
   exfalso
   obtain ⟨_,_,c,hc⟩:=r2 hf
   have hlast:∃ y,Ad (adjU A (usV A N)) y c:=by
    cases hc with
    | one h=>exact ⟨_,h⟩
    | more _ h=>exact ⟨_,h⟩
   obtain ⟨y,hy⟩:=hlast
   have hcN:=hNb _ _ hy
   obtain ⟨⟨n1,e,e0,e1,e2⟩,n2,b,hsb,hb2,e3⟩:=(zse hA hil hb hcN).1 ((zh8 hA hil hb).1 hy).2
   obtain ⟨d,hd⟩:=hc.rn
   have hd2:RN (Ea A) (d+1) c c:=hd.mono fun a b h=>((zh8 hA hil hb).1 h).1
   have hall:=(e3.app (hd2.rep N)).app e2
   obtain ⟨m,m1,m2,m3⟩:=RN.short (fun a b h=>z2b hA h) hb2 _ hall (by
    have:N<=N*(d+1):=Nat.le_mul_of_pos_right _ (by omega)
    omega)
   have hw:=h m m1 m2
   unfold wcn at hw
   rw [hsb,if_neg (by omega),Int.toNat_natCast] at hw
   have:=(zt4 (fun x hx=>(hA.t x hx).1) m b).2 ⟨e,e1,m3⟩
   omega
end
end Go.Ab
namespace Go.Ab
open Enc (enc)
attribute [local go_sem] zal Opd.slots
def fnA:AV:=.fn F.ai [.ptr 900000 0 0 0,.ptr 900002 0 0 0,.ptr 900003 0 0 0,.ptr 900004 0 0 0]
def hpF (A:GAuto) (U:List Bool) (N:Nat) (s:List Int):List Site:=[(900000,[some ⟨1,[.own 900001 0 0 N]⟩]),(900001,[some ⟨1,avs s⟩]),(900002,[some ⟨8,[.p (enc (zao A))]⟩]),(900003,[some ⟨1,[.own 900005 0 0 N]⟩]),(900004,[some ⟨1,[fnA]⟩]),(900005,[some ⟨1,avs U⟩])]
abbrev ksF:List Nat:=[900000,900001,900002,900003,900004,900005]
theorem zyj (A:GAuto) (U:List Bool) (N:Nat) (s:List Int):hpOk ksF (hpF A U N s)=true:=by
 simp [hpOk,hpF,zfd,zbx,zav,fnA,go_sem]
def agF (q:Nat):List AV:=[.p (.int .i64 q),.ptr 900000 0 0 0,.ptr 900002 0 0 0,.ptr 900003 0 0 0,.ptr 900004 0 0 0]
theorem z7e (l:List Int) (i:Nat) (v:Int):(avs l).set i (.p (.int .i64 v))=avs (l.set i v):=by
 show (avs l).set i (.p (enc v))=_
 simp [avs,ens,List.map_set]
theorem zzn {e:Nat} {A:GAuto} {U:List Bool} {N q:Nat} {s s':List Int} {b:Bool} {st:St} {K:PCall->AV->St->Prop} (hs:HSp P F.ai (agF q) (hpF A U N s) (.p (.bool b)) (hpF A U N s')) {us:List AV} (hu:us=agF q) (hk:zbb st (hpF A U N s) (hpF A U N s))
  (k:K ⟨F.ai,[],.hsp us (hpF A U N s) (.av (.p (.bool b))) (hpF A U N s'),none⟩ (.p (.bool b)) ⟨st.sl,hpF A U N s'++st.hp⟩):zfs P st e F.ai us K:=by
 subst hu
 refine zdo hs (by simp [zc1,agF]) hk rfl ?_ k
 have h1:=zyj A U N s
 have h2:=zyj A U N s'
 show (zav ksF (agF q)&&hpOk ksF (hpF A U N s)&&zeo ksF (.av (.p (.bool b)))&&hpOk ksF (hpF A U N s'))=true
 rw [h1,h2]; simp [zav,zbx,zeo,agF]
def xS (A:GAuto) (U:List Bool) (N q:Nat) (s:List Int) (k:Nat):St :=
 ⟨[(0,.p (.int .i64 q)),(1,.ptr 900000 0 0 0),(3,.ptr 900003 0 0 0),(4,.ptr 900004 0 0 0),(24,.p (.sl (ens (zas A.arcs q)))),(25,.p (.int .i64 (zas A.arcs q).length)),(26,.p (.int .i64 k))],hpF A U N s++[(DEAD,[none])]⟩
def adjR (A:GAuto) (U:List Bool) (q k:Nat):List Nat:=(((zas A.arcs q).drop k).filter fun x=>U.getD (tT x) false).map tT
theorem zzx (A:GAuto) (U:List Bool) (q:Nat) {k:Nat} (h:k<(zas A.arcs q).length):adjR A U q k=if U.getD (tT (zas A.arcs q)[k]) false=true then tT (zas A.arcs q)[k]::adjR A U q (k+1) else adjR A U q (k+1):=by
 unfold adjR
 rw [List.drop_eq_getElem_cons h,List.filter_cons]
 split<;>rfl
theorem ztt {A:GAuto} {N:Nat} (hA:CtrOk A N) {U:List Bool} (hU:U.length=N):∀ (n:Nat) (s:List Int) (q:Nat),s.length=N->q<N->zer s<n ->
  HSp P F.ai (agF q) (hpF A U N s) (.p (.bool (dfsF (adjU A U) n s q).1)) (hpF A U N (dfsF (adjU A U) n s q).2)
 | 0,s,q,_,_,h=>by omega
 | n+1,s,q,hs,hq,hz=>by
  have ih:=ztt hA hU n
  have i1:=hA.al
  have i3:=hA.N1
  have hqs:q<s.length:=by omega
  have gq:s.getD q 0=s[q]:=by rw [List.getD_eq_getElem?_getD,List.getElem?_eq_getElem hqs]; rfl
  refine HSp.of_mr c.ai (by simp [agF]) (by simp [hpF,PINB]) (by simp [hpF]) ?_ fun A0 hA0=>MR.of_vm ?_
  ·show (true&&hpOk ksF (hpF A U N _))=true
   rw [zyj]; rfl
  by_cases h0:s[q]=0
  rotate_left
  ·have hr:dfsF (adjU A U) (n+1) s q=(decide (s[q]=2),s):=by simp only [dfsF]; rw [gq,if_pos h0]
   rw [hr]
   simp [g.ai,go_sem,zbi,hpF,agF,hq]
   refine ⟨by omega,zae hqs ?_⟩
   simp [go_sem,h0,hq]
   refine ⟨by omega,zae hqs ?_⟩
   refine ⟨.inl rfl,_,Weak.refl _,_,rfl,?_,?_⟩
   ·simp [go_sem]
   ·simp [zbb,St.site,look]
  ·have z1:=zjz (v:=1) (by omega) s q hqs
   rw [gq,if_pos h0] at z1
   simp [g.ai,go_sem,zbi,hpF,agF,hq]
   refine ⟨by omega,zae hqs ?_⟩
   simp [go_sem,h0,hq]
   refine ⟨by omega,zae hqs ?_⟩
   rw [z7e]
   have hsl:(s.set q 1).length=N:=by rw [List.length_set]; exact hs
   have hR:dfsF (adjU A U) (n+1) s q=if (dfsL (dfsF (adjU A U) n) (adjU A U q) (s.set q 1)).1=true then (true,(dfsL (dfsF (adjU A U) n) (adjU A U q) (s.set q 1)).2.set q 2) else (false,(dfsL (dfsF (adjU A U) n) (adjU A U q) (s.set q 1)).2):=by
    simp only [dfsF]; rw [gq,if_neg (by simp [h0])]
   rw [hR]
   clear hR
   generalize s.set q 1=s0 at *
   refine zaf (zm9 A N q hA.inN hA.fs hq (by omega) (by omega)) ?_
   simp [go_sem]
   have i2:(zas A.arcs q).length<=2048:=Nat.le_trans (List.length_filter_le _ _) i1
   refine zai (S:=fun x:Nat × List Int=>xS A U N q x.2 x.1) (I:=fun x=>x.1<=(zas A.arcs q).length/\x.2.length=N/\zer x.2<n/\dfsL (dfsF (adjU A U) n) (adjR A U q x.1) x.2=dfsL (dfsF (adjU A U) n) (adjU A U q) s0) (m:=fun x=>(zas A.arcs q).length - x.1) (0,s0)
    (Weak.toF [0,1,3,4,24,25,26] ksF [] (by simp [go_sem,xS,hpF,fnA])) ⟨Nat.zero_le _,hsl,by simp only; omega,rfl⟩ ?_
   rintro ⟨k,s1⟩ ⟨h1,h2,h3,h4⟩ R hn hr hx
   simp only at h1 h2 h3 h4
   generalize dfsL (dfsF (adjU A U) n) (adjU A U q) s0=r at *
   by_cases hlt:k<(zas A.arcs q).length
   ·have hmem:(zas A.arcs q)[k]∈A.arcs:=(List.mem_filter.1 (List.getElem_mem hlt)).1
    obtain ⟨t0,t1⟩:=hA.t _ hmem
    obtain ⟨t,ht⟩:∃ t:Nat,(zas A.arcs q)[k].t=(t:Int):=⟨(zas A.arcs q)[k].t.toNat,by omega⟩
    have htN:t<N:=by omega
    have htU:t<U.length:=by omega
    have hsucc:=zzx A U q hlt
    have eT:tT (zas A.arcs q)[k]=t:=by unfold tT; omega
    have gU:U.getD t false=U[t]:=by rw [List.getD_eq_getElem?_getD,List.getElem?_eq_getElem htU]; rfl
    rw [eT,gU] at hsucc
    have e1:=i64s k (by omega)
    simp [g.mo,xS,hpF,fnA,go_sem,hlt]
    refine zae hlt ?_
    simp [go_sem,ht,htN,htU]
    refine ⟨by omega,zae htU ?_⟩
    cases hb:U[t] with
    | false =>
     rw [hb] at hsucc
     simp only [Bool.false_eq_true,if_false] at hsucc
     simp [go_sem,e1]
     exact hn (k+1,s1) _ (Weak.toF [0,1,3,4,24,25,26] ksF [] (by simp [go_sem,xS,hpF,fnA])) ⟨by simp only; omega,h2,h3,by rw [hsucc] at h4; exact h4⟩ (by simp only; omega)
    | true =>
     rw [hb] at hsucc
     simp only [if_true] at hsucc
     rw [hsucc] at h4
     simp only [dfsL] at h4
     have hi:=ih s1 t h2 htN h3
     obtain ⟨l1,l2⟩:=zon (adj:=adjU A U) n s1 t
     generalize dfsF (adjU A U) n s1 t=p at *
     obtain ⟨b,s2⟩:=p
     simp only at hi l1 l2 h4
     simp [go_sem,ht]
     refine zzn hi rfl (by simp [zbb,St.site,look,hpF,fnA,go_sem]) ?_
     cases b with
     | false =>
      simp only [Bool.false_eq_true,if_false] at h4
      subst h4
      simp [go_sem,hpF,fnA]
      refine hr _ ⟨.inl rfl,_,Weak.refl _,_,rfl,?_,?_⟩
      ·simp [go_sem]
      ·simp [zbb,St.site,look,fnA]
     | true =>
      simp only [if_true] at h4
      simp [go_sem,hpF,fnA,e1]
      exact hn (k+1,s2) _ (Weak.toF [0,1,3,4,24,25,26] ksF [] (by simp [go_sem,xS,hpF,fnA])) ⟨by simp only; omega,by simp only; omega,by simp only; omega,h4⟩ (by simp only; omega)
   ·have:k=(zas A.arcs q).length:=by omega
    subst this
    have hnil:adjR A U q (zas A.arcs q).length=[]:=by unfold adjR; rw [List.drop_length]; rfl
    rw [hnil] at h4
    simp only [dfsL] at h4
    subst h4
    have hq1:q<s1.length:=by omega
    simp [g.mo,xS,hpF,fnA,go_sem]
    refine hx _ _ ?_
    simp [go_sem,hq]
    refine ⟨by omega,zae hq1 ?_⟩
    rw [z7e]
    refine ⟨.inl rfl,_,Weak.refl _,_,rfl,?_,?_⟩
    ·simp [go_sem]
    ·simp [zbb,St.site,look,fnA]
end Go.Ab
namespace Go.Ab
open Enc (enc)
attribute [local go_sem] zal Opd.slots
def rngR (U:List Bool) (N k:Nat):List Nat:=((List.range N).drop k).filter fun q=>U.getD q false
theorem zwx (U:List Bool) {N k:Nat} (h:k<N):rngR U N k=if U.getD k false=true then k::rngR U N (k+1) else rngR U N (k+1):=by
 unfold rngR
 have hl:k<(List.range N).length:=by rw [List.length_range]; exact h
 rw [List.drop_eq_getElem_cons hl,List.filter_cons,List.getElem_range]
def yS (A:GAuto) (U:List Bool) (N:Nat) (s:List Int) (k:Nat):St :=
 ⟨[(3,.ptr 900003 0 0 0),(5,.ptr 900004 0 0 0),(16,.p (.int .i64 N)),(17,.p (.int .i64 k))],hpF A U N s++[(DEAD,[none])]⟩
theorem zvr {A:GAuto} {N:Nat} (hA:CtrOk A N) (hil:A.ini.length=N) (hism:∀ w∈A.ini,w.sm 1048576):Sp P F.ki [enc (zao A)] (.pure (.bool (acyV A (usV A N) N))):=by
 have hus:=zv1 hA hil hism
 have hel:(usV A N).length=N:=zgv _ _ _ _
 have hN:=hA.N1
 have hst:(zao A).a.st=(N:Int):=hA.inN.st
 generalize usV A N=U at *
 have hf:=ztt hA hel (N+1)
 refine Sp.of_mr c.qg (by simp) ?_
 unfold g.qg
 generalize hR:(fun (ex:Exit) (st:St) (_:Option FA)=>retP [(2,none)] (RV.pure (.bool (acyV A U N))) ex st)=R
 refine MR.gseq ?_
 simp [go_sem]
 refine MR.gseq ?_
 simp [go_sem]
 refine zd9 hus (by simp [go_sem]) ⟨by simp [go_sem,ens],by omega,by simp [ens,LIM,hel]; omega⟩ _ rfl ?_
 simp [go_sem,hel]
 refine MR.gseq ?_
 simp [go_sem,hst]
 refine ⟨by omega,?_⟩
 refine MR.gseq ?_
 simp [go_sem]
 refine MR.gseq ?_
 simp [go_sem]
 refine MR.weak (st1:=⟨[(1,.ptr 900002 0 0 0),(3,.ptr 900003 0 0 0),(5,.ptr 900004 0 0 0)],hpF A U N (List.replicate N 0)++[(DEAD,[none])]⟩)
  (zg6 [1,3,5] [(900000,[(4,0)]),(900001,[(12,0)]),(900002,[(1,0)]),(900003,[(3,0)]),(900004,[(5,0)]),(900005,[(8,0)])] ?_ (fun σ => σ 4 0=(900000,0) /\ σ 12 0=(900001,0) /\ σ 1 0=(900002,0) /\ σ 3 0=(900003,0) /\ σ 5 0=(900004,0) /\ σ 8 0=(900005,0)) ?_ ?_) ?_
 ·simp [zf4,zpq,zeh,PINB,DEAD,zdx]
 ·simp [sgP,zgd,zdy,St.site,look]
 ·rintro σ ⟨s1,s2,s3,s4,s5,s6⟩
  simp [hpP,catS,sub,subO,subL,St.get,look,St.site,hpF,s1,s2,s3,s4,s5,s6,fnA]
  have hrp:(List.replicate N (AV.p (PV.int IntKind.i64 0)))=avs (List.replicate N (0:Int)):=by rw [zfq]; rfl
  exact ⟨by rw [hrp]; exact zqx _ _,by simp [go_sem,hst],zqx _ _⟩
 refine MR.of_vm ?_
 subst hR
 have hrl:(List.replicate N (0:Int)).length=N:=List.length_replicate
 have hrz:zer (List.replicate N (0:Int))<N+1:=by have:=zvu (List.replicate N (0:Int)); omega
 have hac:acyV A U N=(dfsL (dfsF (adjU A U) (N+1)) (rngR U N 0) (List.replicate N 0)).1:=rfl
 rw [hac]
 clear hac
 generalize List.replicate N (0:Int)=s0 at *
 generalize hr0:dfsL (dfsF (adjU A U) (N+1)) (rngR U N 0) s0=r at *
 simp [hpF,fnA,go_sem,hst]
 refine zai (S:=fun x:Nat × List Int=>yS A U N x.2 x.1) (I:=fun x=>x.1<=N/\x.2.length=N/\zer x.2<N+1/\dfsL (dfsF (adjU A U) (N+1)) (rngR U N x.1) x.2=r) (m:=fun x=>N - x.1) (0,s0)
  (Weak.toF [3,5,16,17] ksF [] (by simp [go_sem,yS,hpF,fnA,hst])) ⟨Nat.zero_le _,hrl,hrz,hr0⟩ ?_
 rintro ⟨k,s⟩ ⟨h1,h2,h3,h4⟩ R hn hr hx
 simp only at h1 h2 h3 h4
 have e1:=i64s k (by omega)
 by_cases hlt:k<N
 ·have hkU:k<U.length:=by omega
  have gU:U.getD k false=U[k]:=by rw [List.getD_eq_getElem?_getD,List.getElem?_eq_getElem hkU]; rfl
  have hsucc:=zwx U hlt
  rw [gU] at hsucc
  simp [g.mg,yS,hpF,fnA,go_sem,hlt]
  refine ⟨by omega,zae hkU ?_⟩
  cases hb:U[k] with
  | false =>
   rw [hb] at hsucc
   simp only [Bool.false_eq_true,if_false] at hsucc
   simp [go_sem,e1]
   exact hn (k+1,s) _ (Weak.toF [3,5,16,17] ksF [] (by simp [go_sem,yS,hpF,fnA])) ⟨by simp only; omega,h2,h3,by rw [hsucc] at h4; exact h4⟩ (by simp only; omega)
  | true =>
   rw [hb] at hsucc
   simp only [if_true] at hsucc
   rw [hsucc] at h4
   simp only [dfsL] at h4
   have hi:=hf s k h2 hlt h3
   obtain ⟨l1,l2⟩:=zon (adj:=adjU A U) (N+1) s k
   generalize dfsF (adjU A U) (N+1) s k=p at *
   obtain ⟨b,s2⟩:=p
   simp only at hi l1 l2 h4
   simp [go_sem]
   refine zzn hi rfl (by simp [zbb,St.site,look,hpF,fnA,go_sem]) ?_
   cases b with
   | false =>
    simp only [Bool.false_eq_true,if_false] at h4
    subst h4
    simp [go_sem,hpF,fnA]
    exact hr _ (by simp [go_sem])
   | true =>
    simp only [if_true] at h4
    simp [go_sem,hpF,fnA,e1]
    exact hn (k+1,s2) _ (Weak.toF [3,5,16,17] ksF [] (by simp [go_sem,yS,hpF,fnA])) ⟨by simp only; omega,by simp only; omega,by simp only; omega,h4⟩ (by simp only; omega)
 ·have:k=N:=by omega
  subst this
  have hnil:rngR U k k=[]:=by unfold rngR; rw [show (List.range k).drop k=[] by simp]; rfl
  rw [hnil] at h4
  simp only [dfsL] at h4
  subst h4
  simp [g.mg,yS,hpF,fnA,go_sem]
  refine hx _ _ ?_
  simp [go_sem]
end Go.Ab
namespace Go.Ab
open Enc (enc)
attribute [local go_sem] zal Opd.slots
theorem zl1 {a:GAuto} {z:Nat} (h:DetA a z):Sp P F.gk [enc a] (.pure (.tup [.bool (acyV a.nf (usV a.nf a.st.toNat) a.st.toNat),.int .i64 0])):=by
 have hA:=h.ctr
 have ho:=h.spH
 have ok:=h.ok
 have hil:a.nf.ini.length=a.st.toNat:=by have:=(zpr ok).il; have e:a.nf.st=a.st:=rfl; rw [e] at this; have:=ok.st1; omega
 have hism:∀ w∈a.nf.ini,w.sm 1048576:=fun w hw=>(h.sm.ini w hw).mono (by have:=h.hn; omega)
 have hac:=zvr hA hil hism
 generalize acyV a.nf (usV a.nf a.st.toNat) a.st.toNat=b at *
 generalize stN a=s at *
 refine Sp.vz c.gk fun _=>?_
 simp [g.gk,go_sem]
 refine zdo ho (by simp [zc1]) (by simp [zbb]) rfl (by simp [zav,zbx,hpOk,zeo,ctrV,AV.sz]) ?_
 simp [go_sem,zdj,ctrV]
 refine zaf hac ?_
 simp [go_sem]
end Go.Ab
namespace Go.Ab
open Enc (enc)
attribute [local go_sem] zal Opd.slots
noncomputable def lgN (A:GAuto) (s:Int) (N k:Nat):Bool:=(List.range k).any fun j=>decide (0<wcn A s (N+j))
theorem z1g (A:GAuto) (s:Int) (N k:Nat):lgN A s N (k+1)=(lgN A s N k||decide (0<wcn A s (N+k))):=by
 unfold lgN; rw [List.range_succ,List.any_append]; simp
theorem z4t {A:GAuto} {s:Int} {N:Nat}:lgN A s N N=false ↔ ∀ m,N<=m->m<2*N->wcn A s m=0:=by
 unfold lgN
 rw [List.any_eq_false]
 constructor
 ·intro h m h1 h2
  have:=h (m - N) (List.mem_range.2 (by omega))
  rw [decide_eq_true_eq,show N+(m - N)=m by omega] at this
  omega
 ·intro h j hj
  rw [decide_eq_true_eq,h (N+j) (by omega) (by have:=List.mem_range.1 hj; omega)]
  omega
theorem sgnN (k:Nat):sgnR (natR k).v=if 0<k then 1 else 0:=by
 have h:=zhs k 0
 rw [show (natR k).v - (natR 0).v=(natR k).v by rw [zi0 0]; grind,if_neg (by omega)] at h
 exact h
noncomputable def fnS (a:GAuto) (N:Nat) (b:Bool) (k:Nat):St :=
 mkSt [(3,.ptr 3 0 0 0),(4,.p (.bool b)),(5,.p (.int .i64 0)),(6,.p (.bool (lgN a.nf (stN a) N k))),(7,.p (.int .i64 (N+k:Nat)))] [(3,⟨7,[.p (enc a)]⟩)]
theorem countIsFinite_sp (p:GPlan):Sp P F.ka [enc p] (.pure (.bool true)):=by
 have hm:=zux p
 have hM:MdlA (zqs wkT { p with sg:=true } 4):=zxx rfl
 generalize zqs wkT { p with sg:=true } 4=a at *
 have hD:=hM.det
 have hA:=hD.ctr
 have ok:=hD.ok
 have hkn:=zu0
 have hfi:=zl1 hD
 have hil:a.nf.ini.length=a.st.toNat:=by have:=(zpr ok).il; have e:a.nf.st=a.st:=rfl; rw [e] at this; have:=ok.st1; omega
 have hiff:=z56 hA hil hD.beg
 rw [show stA a.nf a.st.toNat=stN a from rfl,<- z4t] at hiff
 have hst:=hM.st
 obtain ⟨N,hN⟩:∃ N:Nat,a.st=(N:Int):=⟨a.st.toNat,by omega⟩
 have hN4:N<=4:=by omega
 rw [show a.st.toNat=N by omega] at hfi hiff
 generalize acyV a.nf (usV a.nf N) N=b at *
 refine Sp.vz c.ka fun _=>?_
 simp [g.ka,go_sem]
 refine zaf hm ?_
 simp [go_sem]
 refine zaf hfi ?_
 simp [go_sem,hN]
 refine zai (S:=fun k:Nat=>fnS a N b k) (I:=fun k=>k<=N) (m:=fun k=>N - k) 0 (Weak.to [3,4,5,6,7] [((3,0),3)] (by simp [go_sem,mkSt,fnS,lgN,hN])) (by omega) ?_
 rintro k hk R hn' hr hx
 have e1:IntKind.i64.wrap (((N+k:Nat):Int)+1)=((N+k+1:Nat):Int):=i64w (by omega) (by omega)
 have e1':IntKind.i64.wrap ((N:Int)+k+1)=((N+k+1:Nat):Int):=by rw [i64w (by omega) (by omega)]; omega
 have e2:IntKind.i64.wrap (2*(N:Int))=((2*N:Nat):Int):=i64w (by omega) (by omega)
 have hs1:=z1g a.nf (stN a) N k
 have hwo:=zoo hD (n:=N+k) (by omega)
 have hwl:=zsb hA.al (stN a) (N+k)
 have hend:k<N->∀ st',Weak st' (fnS a N b (k+1))->R .normal st':=fun hlt st' h=>hn' (k+1) st' h (by omega) (by omega)
 unfold fnS at hend ⊢
 rw [hs1] at hend
 by_cases hlt:k<N
 ·have hsm:(natR (wcn a.nf (stN a) (N+k))).sm 4194304:=GRat.sm.mono (zh6 hwl (by omega)) (by omega)
  have hsg:=zsn _ hsm
  rw [sgnN] at hsg
  generalize wcn a.nf (stN a) (N+k)=c at *
  generalize lgN a.nf (stN a) N k=lg at *
  simp [g.l7,mkSt,go_sem,hN]
  rw [e2]
  refine ⟨fun _=>?_,fun h=>absurd h (by omega)⟩
  refine zaa hwo (by simp [go_sem,hN]) ?_
  cases lg with
  | true =>
   simp only [Bool.true_or] at hend
   simp [go_sem]
   refine hend hlt _ (Weak.to [3,4,5,6,7] [((3,0),3)] ?_)
   rw [e1']
   simp [go_sem,mkSt,hN]
   omega
  | false =>
   simp only [Bool.false_or] at hend
   simp [go_sem]
   refine zaf hsg ?_
   have hd:decide (0<(if 0<c then (1:Int) else 0))=decide (0<c):=by split<;>simp_all
   simp [go_sem]
   refine hend hlt _ (Weak.to [3,4,5,6,7] [((3,0),3)] ?_)
   rw [e1']
   simp [go_sem,mkSt,hN,hd]
   omega
 ·have:k=N:=by omega
  subst this
  simp [g.l7,mkSt,go_sem,hN]
  rw [e2]
  refine ⟨fun h=>absurd h (by omega),fun _=>?_⟩
  refine hx _ _ ?_
  simp [go_sem]
  refine zaf hkn ?_
  simp [go_sem]
  cases b<;>cases hl:lgN a.nf (stN a) k k<;>simp_all
end Go.Ab
