/-
Proofs for the law TransducerWeighs, part 44. Conditions: none.
-/
import Derived.Test.YtbhboeijjgiflaaGreatDoorBP38
import Derived.Test.YtbhboeijjgiflaaGreatDoorBP43
import Derived.Test.YtbhboeijjgiflaaGreatDoorBP41
import Derived.Test.YtbhboeijjgiflaaGreatDoorBP36
set_option maxRecDepth 100000
set_option maxHeartbeats 4000000
set_option linter.all false
namespace Go.Ab
def tc (on:List Bool):Nat:=on.count true
theorem z2d (on:List Bool) (i y:Nat):(on.set i true).getD y false=true ↔ on.getD y false=true\/(i=y/\y<on.length):=by
 rw [yk9,yk9];by_cases h:i=y
 ·subst h;by_cases hl:i<on.length
  ·rw [ynq hl]; simp [hl]
  ·rw [yli (by simp; omega),yli (by omega)]; simp [hl]
 ·rw [yn9 h]; simp [h]
theorem zue (on:List Bool) (p:Int × Int) (y:Nat):(spS on p).getD y false=true ↔ on.getD y false=true\/(on.getD p.1.toNat false=true/\p.2.toNat=y/\y<on.length):=by
 unfold spS;split
 ·rename_i h; rw [z2d]; exact ⟨fun k=>k.imp id fun k=>⟨h,k⟩,fun k=>k.imp id fun k=>k.2⟩
 ·rename_i h; exact ⟨.inl,fun k=>k.elim id fun k=>absurd k.1 h⟩
theorem zi2 (ps:List (Int × Int)) (y:Nat):∀ {on:List Bool},on.getD y false=true->(spR ps on).getD y false=true:=by
 induction ps with
 | nil=>exact fun h=>h
 | cons p ps ih=>exact fun h=>ih ((zue _ p y).2 (.inl h))
theorem z9z (a b:List (Int × Int)) (on:List Bool):spR (a++b) on=spR b (spR a on):=yl5 ..
theorem zyv {ps:List (Int × Int)} {on:List Bool} (h:spR ps on=on):∀ p∈ps,p.2.toNat<on.length->on.getD p.1.toNat false=true->on.getD p.2.toNat false=true:=by intro p hp hl h1;obtain ⟨a,b,rfl⟩:=ynm hp;have h2:(spR b (spS (spR a on) p)).getD p.2.toNat false=true:=zi2 b _ ((zue _ _ _).2 (.inr ⟨zi2 a _ h1,rfl,by rw [zj5]; exact hl⟩));have h3:spR (a++p::b) on=spR b (spS (spR a on) p):=z9z a (p::b) on;rw [<- h3,h] at h2;exact h2
theorem z9y {ps:List (Int × Int)} {C:Nat->Prop} (hC:∀ p∈ps,C p.1.toNat->C p.2.toNat):∀ {on:List Bool},(∀ y,on.getD y false=true->C y)->∀ y,(spR ps on).getD y false=true->C y:=by
 induction ps with
 | nil=>exact fun h=>h
 | cons p ps ih =>
  intro on h;refine ih (fun q hq=>hC q (ykq _ hq)) fun y hy=>?_;rcases (zue _ _ _).1 hy with h1|⟨h1,rfl,_⟩
  ·exact h y h1
  ·exact hC p yl6 (h _ h1)
theorem zuf {ps:List (Int × Int)} {C:Nat->Prop} (hC:∀ p∈ps,C p.1.toNat->C p.2.toNat):∀ (n:Nat) {on:List Bool},(∀ y,on.getD y false=true->C y)->∀ y,(spF ps n on).getD y false=true->C y
 | 0,_,h=>h
 | n+1,_,h=>zuf hC n (z9y hC h)
theorem zwj (ps:List (Int × Int)) (y:Nat):∀ (n:Nat) {on:List Bool},on.getD y false=true->(spF ps n on).getD y false=true
 | 0,_,h=>h
 | n+1,_,h=>zwj ps y n (zi2 ps y h)
theorem ydq:∀ (on:List Bool),tc on<=on.length:=fun on=>List.count_le_length
theorem z0m:∀ {a b:List Bool},a.length=b.length->(∀ y,a.getD y false=true->b.getD y false=true)->a≠b->tc a<tc b
 | [],[],_,_,h=>absurd rfl h
 | x::a,y::b,hl,h,hne=>by
  have h0:=h 0;have hs:∀ k,a.getD k false=true->b.getD k false=true:=fun k=>h (k+1);simp only [List.getD_cons_zero] at h0;have hle:tc a<=tc b:=by
   by_cases e:a=b
   ·rw [e]; exact yk6 _
   ·exact Nat.le_of_lt (z0m (by simpa using hl) hs e)
  unfold tc at *
  by_cases e:a=b
  ·subst e;cases x<;>cases y<;>simp [List.count_cons] at h0 hne ⊢
  ·have:=z0m (a:=a) (b:=b) (by simpa using hl) hs e;unfold tc at this;cases x<;>cases y<;>simp [List.count_cons] at h0 ⊢ <;> omega
theorem zwi (ps:List (Int × Int)) (on:List Bool):∀ k,(∃ j,j<=k/\spR ps (spF ps j on)=spF ps j on)\/k+1<=tc (spF ps (k+1) on)
 | 0=>by
  by_cases h:spR ps (spF ps 0 on)=spF ps 0 on
  ·exact .inl ⟨0,yk6 _,h⟩
  ·refine .inr ?_;have:=z0m (a:=on) (b:=spR ps on) (zj5 ps on).symm (fun y=>zi2 ps y) (fun e=>h e.symm);show 0+1<=tc (spR ps on);omega
 | k+1=>by
  rcases zwi ps on k with ⟨j,h1,h2⟩|h
  ·exact .inl ⟨j,by omega,h2⟩
  ·by_cases hs:spR ps (spF ps (k+1) on)=spF ps (k+1) on
   ·exact .inl ⟨k+1,yk6 _,hs⟩
   ·refine .inr ?_;have:=z0m (a:=spF ps (k+1) on) (b:=spR ps (spF ps (k+1) on)) (zj5 ps _).symm (fun y=>zi2 ps y) (fun e=>hs e.symm);rw [zlk ps (k+1)];omega
theorem z0t {ps:List (Int × Int)} {on:List Bool} {j:Nat} (h:spR ps (spF ps j on)=spF ps j on):∀ d,spF ps (j+d) on=spF ps j on
 | 0=>rfl
 | d+1=>by rw [<- Nat.add_assoc,zlk,z0t h d,h]
theorem zyw (ps:List (Int × Int)) (on:List Bool):spR ps (spF ps on.length on)=spF ps on.length on:=by
 rcases zwi ps on on.length with ⟨j,h1,h2⟩|h
 ·have:=z0t h2 (on.length - j);rw [show j+(on.length - j)=on.length by omega] at this;rw [this]; exact h2
 ·have:=ydq (spF ps (on.length+1) on);rw [zd5] at this;omega
theorem zu6 (s:Nat) (ps:List (Int × Int)) (n y:Nat):(mkR s ps n).getD y false=true ↔ ∃ p∈ps,p.1=(s:Int)/\p.2.toNat=y/\y<n:=by
 have key:∀ (ps:List (Int × Int)) (on:List Bool),(ps.foldl (mkS s) on).getD y false=true ↔ on.getD y false=true\/∃ p∈ps,p.1=(s:Int)/\p.2.toNat=y/\y<on.length:=by
  intro ps
  induction ps with
  | nil=>simp
  | cons p ps ih =>
   intro on;rw [yna,ih,z2p];unfold mkS;by_cases h:p.1=(s:Int)
   ·rw [yj9 h,z2d];constructor
    ·rintro ((h1|h1)|⟨q,h1,h2⟩)
     ·exact .inl h1
     ·exact .inr ⟨p,yl6,h,h1⟩
     ·exact .inr ⟨q,ykq _ h1,h2⟩
    ·rintro (h1|⟨q,h1,h2⟩)
     ·exact .inl (.inl h1)
     ·rcases yk5.1 h1 with rfl|h1
      ·exact .inl (.inr h2.2)
      ·exact .inr ⟨q,h1,h2⟩
   ·rw [yj8 h];constructor
    ·rintro (h1|⟨q,h1,h2⟩)
     ·exact .inl h1
     ·exact .inr ⟨q,ykq _ h1,h2⟩
    ·rintro (h1|⟨q,h1,h2⟩)
     ·exact .inl h1
     ·rcases yk5.1 h1 with rfl|h1
      ·exact absurd h2.1 h
      ·exact .inr ⟨q,h1,h2⟩
 unfold mkR;rw [key,List.length_replicate];refine ⟨fun k=>k.elim (fun k=>?_) id,.inr⟩;rw [yk9,ypg] at k;split at k<;>cases k
theorem yb9 {n:Nat} {ps:List (Int × Int)} (pos:Nat->Nat) (hp:∀ p∈ps,pos p.1.toNat<pos p.2.toNat):cycF n ps=false:=by
 unfold cycF;rw [ypb];intro s hs;unfold cycB;intro hc;have:=zuf (C:=fun y=>pos s<pos y) (fun p hpm hlt=>Nat.lt_trans hlt (hp p hpm)) n (on:=mkR s ps n) (fun y hy=>by
  obtain ⟨p,h1,h2,rfl,_⟩:=(zu6 s ps n y).1 hy;have:=hp p h1;rw [h2,yld] at this;exact this) s hc
 omega
theorem z73 {n:Nat} {ps:List (Int × Int)} (h:∀ p∈ps,(0<=p.1/\p.1<n)/\0<=p.2/\p.2<n) (R:Nat->Prop) {q0:Nat} (h0:q0<n) (hR0:R q0) (hR:∀ q,q<n->R q->∃ p∈ps,p.2=(q:Int)/\R p.1.toNat):cycF n ps=true:=by
 rcases ykh (cycF n ps) with hc|hc
 ·exact hc
 exfalso;have hno:∀ s,s<n->cycB n ps s=false:=fun s hs=>by unfold cycF at hc;have:=(List.any_eq_false.1 hc) s (List.mem_range.2 hs);simpa using this
 have hcl:∀ s,∀ p∈ps,(spF ps n (mkR s ps n)).getD p.1.toNat false=true->(spF ps n (mkR s ps n)).getD p.2.toNat false=true:=fun s p hp h1=>by have hl:(mkR (s:Int) ps n).length=n:=zd7 ..;have:=zyw ps (mkR s ps n);rw [hl] at this;exact zyv this p hp (by rw [zd5,hl]; obtain ⟨_,a,b⟩:=h p hp; omega) h1
 have key:∀ m,∃ q,q<n/\R q/\m<=tc (spF ps n (mkR q ps n)):=by
  intro m
  induction m with
  | zero=>exact ⟨q0,h0,hR0,ylk _⟩
  | succ m ih =>
   obtain ⟨q,h1,h2,h3⟩:=ih;obtain ⟨p,hp,hpq,hRp⟩:=hR q h1 h2;obtain ⟨⟨a1,a2⟩,a3,a4⟩:=h p hp;have hpn:(p.1.toNat:Int)=p.1:=by omega
   have hq:(spF ps n (mkR p.1.toNat ps n)).getD q false=true:=zwj ps q n ((zu6 _ _ _ _).2 ⟨p,hp,hpn.symm,by rw [hpq]; rfl,h1⟩);refine ⟨p.1.toNat,by omega,hRp,?_⟩;have:tc (spF ps n (mkR q ps n))<tc (spF ps n (mkR p.1.toNat ps n)):=by
    refine z0m (by rw [zd5,zd5,zd7,zd7]) ?_ fun e=>?_
    ·refine zuf (C:=fun y=>(spF ps n (mkR p.1.toNat ps n)).getD y false=true) (fun p' hp' h'=>hcl _ p' hp' h') n fun y hy=>?_;obtain ⟨p',k1,k2,rfl,_⟩:=(zu6 _ _ _ _).1 hy;refine hcl _ p' k1 ?_;rw [k2,yld]; exact hq
    ·have:=hno q h1;unfold cycB at this;rw [<- e,this] at hq; cases hq
   omega
 obtain ⟨q,_,_,h3⟩:=key (n+1);have:=ydq (spF ps n (mkR q ps n));rw [zd5,zd7] at this;omega
def kaA (q:Int) (s:List Int × List Int) (x:GTArc):List Int × List Int :=
 if x.f=q then (s.1.set x.t.toNat (s.1.getD x.t.toNat 0 - 1),if s.1.getD x.t.toNat 0 - 1=0 then s.2++[x.t] else s.2) else s
def kaL (E:List GTArc):Nat->Nat->List Int × List Int->List Int × List Int
 | 0,_,s=>s
 | f+1,i,s=>if i<s.2.length then kaL E f (i+1) (E.foldl (kaA (s.2.getD i 0)) s) else s
def kcn (E:List GTArc) (y:Int) (p:Int->Bool):Nat:=(E.filter fun x=>decide (x.t=y)&&p x.f).length
theorem zkh (A B:List GTArc) (y:Int) (p:Int->Bool):kcn (A++B) y p=kcn A y p+kcn B y p:=by unfold kcn; rw [ym3,ymm]
theorem zkg (x:GTArc) (y:Int) (p:Int->Bool):kcn [x] y p=if x.t=y/\p x.f=true then 1 else 0:=by
 unfold kcn;by_cases h:x.t=y/\p x.f=true
 ·rw [yj9 h]; simp [h.1,h.2]
 ·rw [yj8 h,List.filter_cons_of_neg]; rfl;simp only [ykx,decide_eq_true_eq]; exact h
theorem zqz {E:List GTArc} {y:Int} {p:Int->Bool} (h:kcn E y p=0):∀ x∈E,x.t=y->p x.f=false:=fun x hx hy=>by unfold kcn at h;have:=List.filter_eq_nil_iff.1 (List.eq_nil_of_length_eq_zero h) x hx;simpa [hy] using this
theorem ybe {E:List GTArc} {y:Int} {p:Int->Bool} (h:kcn E y p≠0):∃ x∈E,x.t=y/\p x.f=true:=by unfold kcn at h;obtain ⟨x,hx⟩:=yp1 (E.filter fun x=>decide (x.t=y)&&p x.f) (fun e=>h (by rw [e]; rfl));obtain ⟨h1,h2⟩:=ym1.1 hx;simp only [ykx,decide_eq_true_eq] at h2;exact ⟨x,h1,h2⟩
def zc4 (P:List Int) (f:Int):Bool:=decide (f∉P)
structure kaC (E:List GTArc) (N:Nat) (s:List Int × List Int):Prop where
 len:s.1.length=N
 nd:s.2.Nodup
 rng:∀ y∈s.2,0<=y/\y<(N:Int)
 mem:∀ y:Nat,y<N->((y:Int)∈s.2 ↔ s.1.getD y 0=0)
 ordv:∀ a y b,s.2=a++y::b->∀ x∈E,x.t=y->x.f∈a
structure kaM (E:List GTArc) (N:Nat) (P:List Int) (q:Int) (dn rs:List GTArc) (s:List Int × List Int):Prop where
 c:kaC E N s
 pre:∃ post,s.2=P++q::post
 cnt:∀ y:Nat,y<N->s.1.getD y 0=((kcn dn y (zc4 (P++[q]))+kcn rs y (zc4 P):Nat):Int)
structure kaH (E:List GTArc) (N i:Nat) (s:List Int × List Int):Prop where
 c:kaC E N s
 le:i<=s.2.length
 cnt:∀ y:Nat,y<N->s.1.getD y 0=((kcn E y (zc4 (s.2.take i)):Nat):Int)
theorem zkl (l:List Int) (i y:Nat) (v:Int) (h:i<l.length):(l.set i v).getD y 0=if i=y then v else l.getD y 0:=by
 rw [yk9,yk9];by_cases e:i=y
 ·subst e; rw [ynq h,yj9 rfl]; rfl
 ·rw [yn9 e,yj8 e]
theorem kaM.step {E:List GTArc} {N:Nat} {P:List Int} {q:Int} {dn rs:List GTArc} {x:GTArc} {s:List Int × List Int} (h:kaM E N P q dn (x::rs) s) (hE:E=dn++x::rs) (hx:x.fit N):kaM E N P q (dn++[x]) rs (kaA q s x):=by
 obtain ⟨⟨len,nd,rng,mem,ordv⟩,⟨post,hpre⟩,cnt⟩:=h;obtain ⟨⟨a1,a2⟩,a3,a4⟩:=hx;have hqP:q∉P:=fun hm=>by rw [hpre] at nd;exact (yms.1 nd).2.2 _ hm _ yl6 rfl
 have hqs:q∈s.2:=by rw [hpre]; simp
 have hPs:∀ f,f∈P->f∈s.2:=fun f hf=>by rw [hpre]; simp [hf]
 unfold kaA;by_cases hf:x.f=q
 ·rw [yj9 hf];obtain ⟨k,hk⟩:∃ k:Nat,x.t=k:=⟨x.t.toNat,by omega⟩;have hkN:k<N:=by omega
  have hkt:x.t.toNat=k:=by omega
  rw [hkt,hk];have hn1:zc4 P x.f=true:=by unfold zc4; rw [hf]; simpa using hqP
  have hn2:zc4 (P++[q]) x.f=false:=by unfold zc4; rw [hf]; simp
  have e0:=cnt k hkN;have e1:kcn (x::rs) k (zc4 P)=1+kcn rs k (zc4 P):=by rw [show x::rs=[x]++rs from rfl,zkh,zkg,yj9 ⟨hk,hn1⟩]
  rw [e1] at e0;have hnot:(k:Int)∉s.2:=fun hm=>by have:=(mem k hkN).1 hm; omega
  have ec:s.1.getD k 0 - 1=((kcn dn k (zc4 (P++[q]))+kcn rs k (zc4 P):Nat):Int):=by omega
  rw [ec];have hcnt:∀ y:Nat,y<N->(s.1.set k ((kcn dn k (zc4 (P++[q]))+kcn rs k (zc4 P):Nat):Int)).getD y 0=((kcn (dn++[x]) y (zc4 (P++[q]))+kcn rs y (zc4 P):Nat):Int):=fun y hy=>by
   rw [zkl _ _ _ _ (by rw [len]; exact hkN),zkh,zkg,yj8 (show ¬ (x.t=(y:Int)/\zc4 (P++[q]) x.f=true) from fun h=>by rw [hn2] at h; cases h.2),ylb];by_cases e:k=y
   ·subst e; rw [yj9 rfl]
   ·rw [yj8 e,cnt y hy,show x::rs=[x]++rs from rfl,zkh,zkg,yj8 (fun h=>e (by have:=hk.symm.trans h.1; omega)),yle]
  by_cases hz:((kcn dn k (zc4 (P++[q]))+kcn rs k (zc4 P):Nat):Int)=0
  ·rw [yj9 hz];have z1:kcn dn k (zc4 (P++[q]))=0:=by omega
   have z2:kcn rs k (zc4 P)=0:=by omega
   refine ⟨⟨by simpa using len,?_,?_,fun y hy=>?_,?_⟩,⟨post++[(k:Int)],by simp [hpre]⟩,hcnt⟩
   ·exact yms.2 ⟨nd,by simp,fun a ha b hb e=>by simp at hb; subst hb; rw [e] at ha; exact hnot ha⟩
   ·intro y hy;rcases yk8.1 hy with hy|hy
    ·exact rng y hy
    ·simp at hy; subst hy; exact ⟨by omega,by omega⟩
   ·simp only [yk8,ym0];rw [zkl _ _ _ _ (by rw [len]; exact hkN)];by_cases e:k=y
    ·subst e; rw [yj9 rfl]; exact ⟨fun _=>hz,fun _=>.inr rfl⟩
    ·rw [yj8 e];exact ⟨fun h=>h.elim (mem y hy).1 fun h=>absurd (by omega) e,fun h=>.inl ((mem y hy).2 h)⟩
   ·intro a y b hab z hz1 hz2;rcases ype b with rfl|⟨b',w,rfl⟩
    ·have hh:s.2++[(k:Int)]=a++[y]:=hab;obtain ⟨e1,e2⟩:=List.append_inj' hh rfl;subst e1;have e3:(k:Int)=y:=by simpa using e2
     rw [<- e3] at hz2;rw [hE] at hz1;rcases yk8.1 hz1 with h1|h1
     ·have:=zqz z1 z h1 hz2;unfold zc4 at this;simp only [decide_eq_false_iff_not,Decidable.not_not,yk8,ym0] at this;rcases this with h|h
      ·exact hPs _ h
      ·rw [h]; exact hqs
     ·rcases yk5.1 h1 with rfl|h1
      ·rw [hf]; exact hqs
      ·have:=zqz z2 z h1 hz2;unfold zc4 at this;simp only [decide_eq_false_iff_not,Decidable.not_not] at this;exact hPs _ this
    ·have hh:s.2++[(k:Int)]=(a++y::b')++[w]:=Eq.trans hab (by simp);obtain ⟨e1,e2⟩:=List.append_inj' hh rfl;exact ordv a y b' e1 z hz1 hz2
  ·rw [if_neg hz];refine ⟨⟨by simpa using len,nd,rng,fun y hy=>?_,ordv⟩,⟨post,hpre⟩,hcnt⟩;rw [zkl _ _ _ _ (by rw [len]; exact hkN)];by_cases e:k=y
   ·subst e; rw [yj9 rfl]; exact ⟨fun h=>absurd h hnot,fun h=>absurd h hz⟩
   ·rw [yj8 e]; exact mem y hy
 ·rw [yj8 hf];refine ⟨⟨len,nd,rng,mem,ordv⟩,⟨post,hpre⟩,fun y hy=>?_⟩;rw [cnt y hy,show x::rs=[x]++rs from rfl,zkh,zkh,zkg,zkg];have:zc4 (P++[q]) x.f=zc4 P x.f:=by unfold zc4; simp [hf]
  rw [this];omega
theorem kaM.fold {E:List GTArc} {N:Nat} {P:List Int} {q:Int} (hfit:∀ x∈E,x.fit N):∀ (rs dn:List GTArc) {s:List Int × List Int},E=dn++rs->kaM E N P q dn rs s->kaM E N P q E [] (rs.foldl (kaA q) s)
 | [],dn,s,hE,h=>by rw [yn3] at hE; subst hE; exact h
 | x::rs,dn,s,hE,h=>kaM.fold hfit rs (dn++[x]) (by rw [hE]; simp) (h.step hE (hfit x (by rw [hE]; simp)))
theorem kaH.next {E:List GTArc} {N i:Nat} {s:List Int × List Int} (hfit:∀ x∈E,x.fit N) (h:kaH E N i s) (hi:i<s.2.length):kaH E N (i+1) (E.foldl (kaA (s.2.getD i 0)) s):=by
 have hq:s.2.getD i 0=s.2[i]:=by rw [yk9,ykg hi]; rfl
 have hsp:s.2=s.2.take i++s.2[i]::s.2.drop (i+1):=by rw [ypi,ymi]
 rw [hq];generalize hP:s.2.take i=P at hsp;generalize s.2[i]=q at hsp;have hPl:P.length=i:=by rw [<- hP,ylc]; omega
 have hm:kaM E N P q [] E s:=⟨h.c,⟨_,hsp⟩,fun y hy=>by rw [h.cnt y hy,hP]; simp [kcn]⟩;obtain ⟨c,⟨post,hpre⟩,cnt⟩:=kaM.fold hfit E [] rfl hm;refine ⟨c,by rw [hpre]; simp; omega,fun y hy=>?_⟩;rw [cnt y hy];have:(E.foldl (kaA q) s).2.take (i+1)=P++[q]:=by rw [hpre,show P++q::post=(P++[q])++post by simp,List.take_left' (by simp [hPl])]
 rw [this];simp [kcn]
theorem zqt:∀ {l m:List Nat},l.Nodup->(∀ y∈l,y∈m)->l.length<=m.length
 | [],_,_,_=>ylk _
 | x::l,m,hn,h=>by rw [ylg] at hn;have hx:=h x yl6;have:=zqt (l:=l) (m:=m.erase x) hn.2 fun y hy=>(List.mem_erase_of_ne (fun e=>hn.1 (by rw [<- e]; exact hy))).2 (h y (ykq _ hy));rw [List.length_erase_of_mem hx] at this;have:=List.length_pos_of_mem hx;simp only [ylr]; omega
theorem zw9 {l:List Int} (hn:l.Nodup) (h:∀ y∈l,0<=y):(l.map Int.toNat).Nodup:=by
 refine ypc.2 (yp2 ?_ hn);intro a b ha hb hab e;have:=h a ha; have:=h b hb
 exact hab (by omega)
theorem kaC.le {E:List GTArc} {N:Nat} {s:List Int × List Int} (h:kaC E N s):s.2.length<=N:=by
 have:=zqt (zw9 h.nd fun y hy=>(h.rng y hy).1) (m:=List.range N) fun y hy=>by obtain ⟨z,hz,rfl⟩:=yk4.1 hy;have:=h.rng z hz;exact yky.2 (by omega)
 simpa using this
theorem z3c {E:List GTArc} {N:Nat} (hfit:∀ x∈E,x.fit N):∀ (f i:Nat) {s:List Int × List Int},kaH E N i s->N<f+i->∃ s',kaL E f i s=s'/\kaH E N s'.2.length s'
 | 0,i,s,h,hf=>by have:=h.c.le; have:=h.le; omega
 | f+1,i,s,h,hf=>by
  simp only [kaL];by_cases hi:i<s.2.length
  ·rw [yj9 hi]; exact z3c hfit f (i+1) (h.next hfit hi) (by omega)
  ·rw [yj8 hi];have:i=s.2.length:=by have:=h.le; omega
   subst this;exact ⟨s,rfl,h⟩
theorem zu9 {t:GTrans} (hfit:∀ x∈t.arcs,x.fit t.st.toNat) {s:List Int × List Int} (h:kaH (t.arcs.filter emF) t.st.toNat s.2.length s) :
  (s.2.length<t.st.toNat ↔ cycF t.st.toNat (emP t.arcs)=true)/\(¬ s.2.length<t.st.toNat->tord t (s.2.map Int.toNat)):=by
 have hle:=h.c.le;have hmem:∀ x,x∈t.arcs.filter emF ↔ x∈t.arcs/\emF x=true:=fun x=>ym1;have hfull:¬ s.2.length<t.st.toNat->tord t (s.2.map Int.toNat):=fun hn=>by
  have hn2:=zw9 h.c.nd fun y hy=>(h.c.rng y hy).1;refine ⟨hn2,fun q=>⟨fun hq=>?_,fun hq=>?_⟩,by rw [ylj]; exact hle,fun pre q post e x hx he hf ht=>?_⟩
  ·obtain ⟨z,hz,rfl⟩:=yk4.1 hq;have:=h.c.rng z hz; omega
  ·rcases Classical.em (q∈s.2.map Int.toNat) with hh|hh
   ·exact hh
   exfalso;have:=zqt (l:=q::s.2.map Int.toNat) (m:=List.range t.st.toNat) (ylg.2 ⟨hh,hn2⟩) fun y hy=>by
    rcases yk5.1 hy with rfl|hy
    ·exact yky.2 hq
    ·obtain ⟨z,hz,rfl⟩:=yk4.1 hy;have:=h.c.rng z hz;exact yky.2 (by omega)
   simp at this;omega
  ·
   obtain ⟨⟨a1,a2⟩,a3,a4⟩:=hfit x hx;have hxE:=(hmem x).2 ⟨hx,he⟩;obtain ⟨pre',rest,e1,e2,e3⟩:=List.map_eq_append_iff.1 e;obtain ⟨q',post',e4,e5,e6⟩:=List.map_eq_cons_iff.1 e3;subst e2 e4;have hq':q'=x.f:=by have:=(h.c.rng q' (by rw [e1]; simp)).1;omega
   subst hq';have hnd:=h.c.nd;rw [e1] at hnd;have hnp:x.f∉pre':=fun hm=>(yms.1 hnd).2.2 _ hm _ yl6 rfl;rcases yk8.1 ht with ht|ht
   ·obtain ⟨z,hz,hz2⟩:=yk4.1 ht;have:=(h.c.rng z (by rw [e1]; simp [hz])).1;have hzt:z=x.t:=by omega
    subst hzt;obtain ⟨u,v,rfl⟩:=ynm hz;have:=h.c.ordv u x.t (v++x.f::post') (by rw [e1]; simp) x hxE rfl;exact hnp (by simp [this])
   ·simp only [ym0] at ht;have hft:x.f=x.t:=by omega
    have:=h.c.ordv pre' x.f post' e1 x hxE hft.symm;exact hnp this
 refine ⟨⟨fun hlt=>?_,fun hc=>?_⟩,hfull⟩
 ·
  obtain ⟨q0,h1,h2⟩:∃ q0,q0<t.st.toNat/\(q0:Int)∉s.2:=by
   rcases Classical.em (∃ q0,q0<t.st.toNat/\(q0:Int)∉s.2) with hh|hh
   ·exact hh
   exfalso;have:=zqt (l:=List.range t.st.toNat) (m:=s.2.map Int.toNat) yo3 fun y hy=>by
    have hy:=yky.1 hy;rcases Classical.em ((y:Int)∈s.2) with hm|hm
    ·exact yk4.2 ⟨_,hm,by simp⟩
    ·exact absurd ⟨y,hy,hm⟩ hh
   simp at this;omega
  refine z73 (R:=fun q=>(q:Int)∉s.2) (fun p hp=>?_) h1 h2 fun q hq hR=>?_
  ·obtain ⟨x,hx,rfl⟩:=z3t hp;obtain ⟨⟨a1,a2⟩,a3,a4⟩:=hfit x hx;exact ⟨⟨a1,a2⟩,a3,a4⟩
  ·have hne:kcn (t.arcs.filter emF) q (zc4 s.2)≠0:=fun e=>by have:=h.cnt q hq;rw [ykn,e] at this;exact hR ((h.c.mem q hq).2 this)
   obtain ⟨x,hx,e1,e2⟩:=ybe hne;obtain ⟨⟨a1,a2⟩,a3,a4⟩:=hfit x ((hmem x).1 hx).1;refine ⟨(x.f,x.t),yk4.2 ⟨x,hx,rfl⟩,e1,?_⟩;unfold zc4 at e2;have:((x.f.toNat:Nat):Int)=x.f:=by omega
   rw [this];exact of_decide_eq_true e2
 ·rcases yla s.2.length t.st.toNat with hlt|hge
  ·exact hlt
  exfalso;have ho:=hfull (by omega);have:cycF t.st.toNat (emP t.arcs)=false:=yb9 (fun q=>(s.2.map Int.toNat).idxOf q) fun p hp=>by obtain ⟨x,hx,rfl⟩:=yk4.1 (show p∈(t.arcs.filter emF).map fun x=>(x.f,x.t) from hp);obtain ⟨h1,h2⟩:=(hmem x).1 hx;obtain ⟨⟨a1,a2⟩,a3,a4⟩:=hfit x h1;exact (ho.lt h1 h2 (by omega) (by omega)).1
  rw [this] at hc; cases hc
def inL (A:List GTArc) (N:Nat):List Int:=(List.range N).map fun (y:Nat)=>((kcn (A.filter emF) (y:Int) (fun _=>true):Nat):Int)
theorem zq4 (A:List GTArc) (N:Nat):(inL A N).length=N:=by simp [inL]
theorem zq5 {A:List GTArc} {N y:Nat} (h:y<N):(inL A N).getD y 0=((kcn (A.filter emF) y (fun _=>true):Nat):Int):=by unfold inL;rw [yk9,ykv,ylt h]; rfl
theorem ybj (N:Nat):inL [] N=List.replicate N 0:=by unfold inL;rw [List.eq_replicate_iff];exact ⟨by simp,fun b hb=>by obtain ⟨y,_,rfl⟩:=yk4.1 hb; simp [kcn]⟩
theorem z85 {A:List GTArc} {N:Nat} {x:GTArc} (h:emF x=false):inL (A++[x]) N=inL A N:=by unfold inL; rw [ym3]; simp [h]
theorem ybi {A:List GTArc} {N:Nat} {x:GTArc} (h:emF x=true) (hx:x.fit N):inL (A++[x]) N=(inL A N).set x.t.toNat ((inL A N).getD x.t.toNat 0+1):=by
 obtain ⟨_,a3,a4⟩:=hx;refine List.ext_getElem (by simp [inL]) fun y h1 h2=>?_;have hy:y<N:=by simpa [inL] using h1
 rw [List.getElem_set];have gt:∀ (B:List GTArc) (h:y<(inL B N).length),(inL B N)[y]'h=((kcn (B.filter emF) (y:Int) (fun _=>true):Nat):Int):=fun B h=>by simp only [inL,List.getElem_map,List.getElem_range]
 have e:(inL (A++[x]) N)[y]=((kcn (A.filter emF) (y:Int) (fun _=>true)+(if x.t=(y:Int) then 1 else 0):Nat):Int):=by rw [gt,ym3,zkh];simp [h,zkg]
 have e2:(inL A N)[y]'(by rw [zq4]; exact hy)=((kcn (A.filter emF) (y:Int) (fun _=>true):Nat):Int):=gt A _;rw [e,e2];by_cases ht:x.t.toNat=y
 ·have:x.t=(y:Int):=by omega
  rw [yj9 ht,zq5 (by omega),yj9 this,ht]; omega
 ·rw [yj8 ht,yj8 (by omega)]; rfl
def ouL (I:List Int) (k:Nat):List Int:=((List.range k).filter fun q=>decide (I.getD q 0=0)).map fun (q:Nat)=>(q:Int)
theorem zw2 (I:List Int) (k:Nat):ouL I (k+1)=if I.getD k 0=0 then ouL I k++[(k:Int)] else ouL I k:=by
 unfold ouL;rw [yme,ym3,ylu];by_cases h:I.getD k 0=0
 ·rw [yj9 h]; simp only [yob,h,decide_true,yk0,List.filter_nil,yke,yom]
 ·rw [yj8 h]; simp only [yob,h,decide_false,ykf,yk7,List.filter_nil,yom,yn3]
theorem zqc {I:List Int} {k:Nat} {y:Int}:y∈ouL I k ↔ ∃ q:Nat,q<k/\I.getD q 0=0/\y=(q:Int):=by
 unfold ouL;rw [yk4];constructor
 ·rintro ⟨q,hq,rfl⟩;obtain ⟨h1,h2⟩:=ym1.1 hq;exact ⟨q,yky.1 h1,of_decide_eq_true h2,rfl⟩
 ·rintro ⟨q,h1,h2,rfl⟩;exact ⟨q,ym1.2 ⟨yky.2 h1,decide_eq_true h2⟩,rfl⟩
theorem yau (I:List Int) (k:Nat):(ouL I k).length<=k:=by unfold ouL;have:=List.length_filter_le (fun q=>decide (I.getD q 0=0)) (List.range k);simpa using this
theorem z3b (A:List GTArc) (N:Nat):kaH (A.filter emF) N 0 (inL A N,ouL (inL A N) N):=by
 refine ⟨⟨zq4 A N,?_,fun y hy=>?_,fun y hy=>?_,fun a y b hab x hx ht=>?_⟩,ylk _,fun y hy=>?_⟩
 ·unfold ouL;refine ypc.2 ?_;refine List.Pairwise.imp ?_ (List.Pairwise.filter _ yo3);intro a b h e; exact h (by omega)
 ·obtain ⟨q,h1,h2,rfl⟩:=zqc.1 hy;omega
 ·constructor
  ·intro h;obtain ⟨q,h1,h2,h3⟩:=zqc.1 h;have:y=q:=by omega
   rw [this]; exact h2
  ·intro h; exact zqc.2 ⟨y,hy,h,rfl⟩
 ·have hy:y∈ouL (inL A N) N:=by have:ouL (inL A N) N=a++y::b:=hab;rw [this]; simp
  obtain ⟨q,h1,h2,rfl⟩:=zqc.1 hy;rw [zq5 h1] at h2;have:=zqz (E:=A.filter emF) (y:=(q:Int)) (p:=fun _=>true) (by omega) x hx ht;cases this
 ·show (inL A N).getD y 0=_;rw [zq5 hy]
  congr 2
end Go.Ab
namespace Go.Ab
open Enc (enc)
attribute [local go_sem] zal Opd.slots
theorem zi3 (t:GTrans) (N:Nat) (hst:t.st=N) (hN:N<=64) (hal:t.arcs.length<=4096) (hfit:∀ x∈t.arcs,x.fit N):∃ s,kaH (t.arcs.filter emF) N s.2.length s/\Sp P F.dq [enc t] (.pure (.sl (ens s.2))):=by
 have hfitE:∀ x∈t.arcs.filter emF,x.fit N:=fun x hx=>hfit x (ym1.1 hx).1;have hend:∃ s',kaL (t.arcs.filter emF) (N+1) 0 (inL t.arcs N,ouL (inL t.arcs N) N)=s'/\kaH (t.arcs.filter emF) N s'.2.length s':=z3c hfitE (N+1) 0 (z3b t.arcs N) (by omega);refine ⟨kaL (t.arcs.filter emF) (N+1) 0 (inL t.arcs N,ouL (inL t.arcs N) N),by obtain ⟨s',e,h⟩:=hend; rw [e]; exact h,?_⟩;have hinit:=z3b t.arcs N;have hEl:(t.arcs.filter emF).length<=4096:=yka (ylz _ _) hal;refine Sp.vz c.dq fun _=>?_;simp [g.dq,go_sem,hst];refine ⟨by omega,?_⟩
 refine zai (S:=fun k:Nat=>mkSt [(3,.own 1 0 0 N),(4,.own 2 0 0 ((t.arcs.take k).filter emF).length),(17,.p (.sl (ens t.arcs))),(18,.p (.int .i64 t.arcs.length)),(19,.p (.int .i64 k))] [(1,⟨1,avs (inL (t.arcs.take k) N)⟩),(2,⟨12,avs ((t.arcs.take k).filter emF)⟩)]) (I:=fun k=>k<=t.arcs.length) (m:=fun k=>t.arcs.length - k) 0
  ((Weak.nilSlot (t:=4) (s:=77) (sz:=12) rfl).trans (Weak.to [3,4,17,18,19] [((15,0),1),((77,0),2)] (by simp [mkSt,go_sem,ybj]))) (by omega) ?_
 rintro k h1 R hn hr hx;have e1:=i64s k (by omega);simp [g.qe,mkSt,go_sem];refine ⟨fun hk=>zae hk ?_,fun hk=>hx _ _ ?_⟩
 ·have hf:=hfit _ (yk2 hk);have hil:=zq4 (t.arcs.take k) N;have htk:t.arcs.take (k+1)=t.arcs.take k++[t.arcs[k]]:=ykb hk;have hfle:((t.arcs.take k).filter emF).length<=4096:=by
   have h1:=ylz emF (t.arcs.take k);have h2:(t.arcs.take k).length<=t.arcs.length:=by rw [ylc]; omega
   omega
  obtain ⟨_,t1,t2⟩:=hf;have htl:t.arcs[k].t.toNat<(inL (t.arcs.take k) N).length:=by omega
  refine ⟨fun a=>⟨fun b=>?_,fun b=>?_⟩,fun a=>?_⟩
  ·have he:emF t.arcs[k]=true:=by simp [emF,a,b]
   have hfl:(t.arcs.take (k+1)).filter emF=(t.arcs.take k).filter emF++[t.arcs[k]]:=by rw [htk,ym3]; simp [he]
   have hin:=ybi (A:=t.arcs.take k) he (hfit _ (yk2 hk));rw [<- htk] at hin;have hv:(inL (t.arcs.take k) N)[t.arcs[k].t.toNat]=(inL (t.arcs.take k) N).getD t.arcs[k].t.toNat 0:=by rw [yk9,ykg htl]; rfl
   have hg:=zq5 (A:=t.arcs.take k) (N:=N) (y:=t.arcs[k].t.toNat) (by omega);have hk2:kcn ((t.arcs.take k).filter emF) ((t.arcs[k].t.toNat:Nat):Int) (fun _=>true)<=4096:=by unfold kcn;exact yka (ylz _ _) hfle
   have hb:0<=(inL (t.arcs.take k) N).getD t.arcs[k].t.toNat 0/\(inL (t.arcs.take k) N).getD t.arcs[k].t.toNat 0<=4096:=by rw [hg]; omega
   have ew:IntKind.i64.wrap ((inL (t.arcs.take k) N).getD t.arcs[k].t.toNat 0+1)=(inL (t.arcs.take k) N).getD t.arcs[k].t.toNat 0+1:=i64w (by omega) (by omega);refine ⟨⟨t1,by omega,by omega⟩,zae htl ⟨⟨t1,by omega,by omega⟩,zae htl ⟨by omega,?_⟩⟩⟩;rw [hv];generalize (inL (t.arcs.take k) N).getD t.arcs[k].t.toNat 0=z at *
   refine hn (k+1) _ (Weak.to [3,4,17,18,19] [((1,0),1),((41,0),2)] ?_) (by omega) (by omega);rw [hfl,hin];simp [mkSt,go_sem,e1,ew]
  ·have he:emF t.arcs[k]=false:=by simp [emF,b]
   have hfl:(t.arcs.take (k+1)).filter emF=(t.arcs.take k).filter emF:=by rw [htk,ym3]; simp [he]
   have hin:=z85 (A:=t.arcs.take k) (N:=N) he;rw [<- htk] at hin;refine hn (k+1) _ (Weak.to [3,4,17,18,19] [((1,0),1),((2,0),2)] ?_) (by omega) (by omega);rw [hfl,hin];simp [mkSt,go_sem,e1]
  ·have he:emF t.arcs[k]=false:=by simp [emF,a]
   have hfl:(t.arcs.take (k+1)).filter emF=(t.arcs.take k).filter emF:=by rw [htk,ym3]; simp [he]
   have hin:=z85 (A:=t.arcs.take k) (N:=N) he;rw [<- htk] at hin;refine hn (k+1) _ (Weak.to [3,4,17,18,19] [((1,0),1),((2,0),2)] ?_) (by omega) (by omega);rw [hfl,hin];simp [mkSt,go_sem,e1]
 ·have hk':k=t.arcs.length:=by omega
  subst hk';clear hn hr hx;simp [go_sem];have hIl:=zq4 t.arcs N;generalize hI:inL t.arcs N=I at *
  generalize hE:t.arcs.filter emF=E at *
  refine zai (S:=fun k:Nat=>mkSt [(3,.own 1 0 0 N),(4,.own 2 0 0 E.length),(7,.own 4 0 0 (ouL I k).length),(43,.own 1 0 0 N),(44,.p (.int .i64 N)),(45,.p (.int .i64 k))] [(1,⟨1,avs I⟩),(2,⟨12,avs E⟩),(4,⟨1,avs (ouL I k)⟩)]) (I:=fun k=>k<=N) (m:=fun k=>N - k) 0
   ((Weak.nilSlot (t:=7) (s:=77) (sz:=1) rfl).trans (Weak.to [3,4,7,43,44,45] [((1,0),1),((2,0),2),((77,0),4)] (by simp [mkSt,go_sem,ouL]))) (by omega) ?_
  rintro k h1 R hn hr hx;have e1:=i64s k (by omega);simp [g.qf,mkSt,go_sem];have hol:=yau I k;refine ⟨fun hk=>⟨⟨hk,by omega⟩,zae (show k<I.length by omega) ?_⟩,fun hk=>hx _ _ ?_⟩
  ·have hgk:I.getD k 0=I[k]'(by omega):=by rw [yk9,ykg (by omega)]; rfl
   refine ⟨fun hz=>⟨by omega,hn (k+1) _ (Weak.to [3,4,7,43,44,45] [((1,0),1),((2,0),2),((55,0),4)] ?_) (by omega) (by omega)⟩,fun hz=>hn (k+1) _ (Weak.to [3,4,7,43,44,45] [((1,0),1),((2,0),2),((4,0),4)] ?_) (by omega) (by omega)⟩
   ·rw [zw2,hgk,yj9 hz]; simp [mkSt,go_sem,e1]
   ·rw [zw2,hgk,yj8 hz]; simp [mkSt,go_sem,e1]
  ·have hk':k=N:=by omega
   rw [hk'];clear hn hr hx;simp [go_sem];clear hol h1 e1;clear hk' hk k;clear hend;generalize hsf:kaL E (N+1) 0 (I,ouL I N)=sf
   refine zai (S:=fun a:Nat × (List Int × List Int)=>mkSt [(3,.own 1 0 0 N),(4,.own 2 0 0 E.length),(7,.own 4 0 0 a.2.2.length),(10,.p (.int .i64 a.1))] [(1,⟨1,avs a.2.1⟩),(2,⟨12,avs E⟩),(4,⟨1,avs a.2.2⟩)])
    (I:=fun a=>kaH E N a.1 a.2/\kaL E (N+1 - a.1) a.1 a.2=sf) (m:=fun a=>N+1 - a.1) (0,(I,ouL I N)) (Weak.to [3,4,7,10] [((1,0),1),((2,0),2),((4,0),4)] (by simp [mkSt,go_sem])) ⟨hinit,hsf⟩ ?_
   rintro ⟨i,s⟩ ⟨hk,hl⟩ R hn hr hx;simp only at hk hl;have hcl:=hk.c.le;have hle:=hk.le;have e1:=i64s i (by omega);obtain ⟨f,hf⟩:∃ f,N+1 - i=f+1:=⟨N - i,by omega⟩;rw [hf] at hl;simp only [kaL] at hl;simp [g.qh,mkSt,go_sem];refine ⟨fun hi=>?_,fun hi=>hx _ _ ?_⟩
   ·rw [yj9 hi] at hl;have hsp:s.2=s.2.take i++s.2[i]::s.2.drop (i+1):=by rw [ypi,ymi]
    have hm0:kaM E N (s.2.take i) s.2[i] [] E s:=⟨hk.c,⟨_,hsp⟩,fun y hy=>by rw [hk.cnt y hy]; simp [kcn]⟩
    refine zai (S:=fun a:Nat × (List Int × List Int)=>mkSt [(3,.own 1 0 0 N),(4,.own 2 0 0 E.length),(7,.own 4 0 0 a.2.2.length),(10,.p (.int .i64 i)),(63,.own 2 0 0 E.length),(64,.p (.int .i64 E.length)),(65,.p (.int .i64 a.1))] [(1,⟨1,avs a.2.1⟩),(2,⟨12,avs E⟩),(4,⟨1,avs a.2.2⟩)])
     (I:=fun a=>a.1<=E.length/\a.2=(E.take a.1).foldl (kaA s.2[i]) s/\kaM E N (s.2.take i) s.2[i] (E.take a.1) (E.drop a.1) a.2) (m:=fun a=>E.length - a.1) (0,s) (Weak.to [3,4,7,10,63,64,65] [((1,0),1),((2,0),2),((4,0),4)] (by simp [mkSt,go_sem])) ⟨by omega,rfl,by simpa using hm0⟩ ?_
    rintro ⟨x,u⟩ ⟨hx1,hu,hM⟩ R2 hn2 hr2 hx2;simp only at hx1 hu hM;have e2:=i64s x (by omega);simp [g.qg,mkSt,go_sem];refine ⟨fun hxl=>?_,fun hxl=>hx2 _ _ ?_⟩
    ·have hPl:(s.2.take i).length=i:=by rw [ylc]; omega
     obtain ⟨post,hpre⟩:=hM.pre;have hiu:i<u.2.length:=by rw [hpre]; simp [hPl]
     have hui:u.2[i]=s.2[i]:=by
      have:u.2[i]?=some s.2[i]:=by rw [hpre,ymf (by omega),hPl,Nat.sub_self]; rfl
      rw [ykg hiu] at this; exact Option.some.inj this
     have htk:E.take (x+1)=E.take x++[E[x]]:=ykb hxl;have hdr:E.drop x=E[x]::E.drop (x+1):=by rw [ypi]
     have hfx:=hfitE _ (yk2 hxl);rw [hdr] at hM;have hM2:=hM.step (by rw [<- hdr,ymi]) hfx;have hu2:kaA s.2[i] u E[x]=(E.take (x+1)).foldl (kaA s.2[i]) s:=by rw [htk,yl5,<- hu]; rfl
     rw [<- htk] at hM2;refine ⟨hxl,zae hxl ⟨hiu,zae hiu ?_⟩⟩;rw [hui];refine ⟨fun he=>?_,fun he=>?_⟩
     ·obtain ⟨_,t1,t2⟩:=hfx;have hul:=hM.c.len;have htl:E[x].t.toNat<u.1.length:=by omega
      have hv:u.1[E[x].t.toNat]=u.1.getD E[x].t.toNat 0:=by rw [yk9,ykg htl]; rfl
      have hcnt:=hM.cnt E[x].t.toNat (by omega);have b1:kcn (E.take x) ((E[x].t.toNat:Nat):Int) (zc4 (s.2.take i++[s.2[i]]))<=4096:=by unfold kcn;refine yka (ylz _ _) ?_;rw [ylc]; omega
      have b2:kcn (E[x]::E.drop (x+1)) ((E[x].t.toNat:Nat):Int) (zc4 (s.2.take i))<=4096:=by unfold kcn;refine yka (ylz _ _) ?_;rw [<- hdr,yne]; omega
      have ew:IntKind.i64.wrap (u.1.getD E[x].t.toNat 0 - 1)=u.1.getD E[x].t.toNat 0 - 1:=i64w (by omega) (by omega);have hka:kaA s.2[i] u E[x]=(u.1.set E[x].t.toNat (u.1.getD E[x].t.toNat 0 - 1),if u.1.getD E[x].t.toNat 0 - 1=0 then u.2++[E[x].t] else u.2):=by unfold kaA; rw [yj9 he]
      rw [hka] at hM2 hu2;have hcl2:=hM2.c.le;have hul2:=hM.c.le;refine ⟨⟨t1,by omega,by omega⟩,zae htl ⟨⟨t1,by omega,by omega⟩,zae htl ⟨⟨t1,by omega,by omega⟩,?_⟩⟩⟩;rw [zbt];refine ⟨_,by rw [ynq (by simp [avs,ens]; omega)],?_⟩;rw [hv,ew];generalize u.1.getD E[x].t.toNat 0 - 1=z at *
      simp [go_sem];refine ⟨fun hz=>⟨by omega,?_⟩,fun hz=>?_⟩
      ·rw [yj9 hz] at hM2 hu2;refine hn2 (x+1,(u.1.set E[x].t.toNat z,u.2++[E[x].t])) _ (Weak.to [3,4,7,10,63,64,65] [((1,0),1),((2,0),2),((93,0),4)] (by simp [mkSt,go_sem,e2])) ⟨by show x+1<=E.length; omega,hu2,hM2⟩ (by show E.length - (x+1)<E.length - x; omega)
      ·rw [yj8 hz] at hM2 hu2;refine hn2 (x+1,(u.1.set E[x].t.toNat z,u.2)) _ (Weak.to [3,4,7,10,63,64,65] [((1,0),1),((2,0),2),((4,0),4)] (by simp [mkSt,go_sem,e2])) ⟨by show x+1<=E.length; omega,hu2,hM2⟩ (by show E.length - (x+1)<E.length - x; omega)
     ·have hk1:kaA s.2[i] u E[x]=u:=by unfold kaA; rw [yj8 he]
      rw [hk1] at hM2 hu2;refine hn2 (x+1,u) _ (Weak.to [3,4,7,10,63,64,65] [((1,0),1),((2,0),2),((4,0),4)] (by simp [mkSt,go_sem,e2])) ⟨by show x+1<=E.length; omega,hu2,hM2⟩ (by show E.length - (x+1)<E.length - x; omega)
    ·have hxe:x=E.length:=by omega
     subst hxe;rw [ykn] at hu;subst hu;simp [go_sem,e1];refine hn (i+1,E.foldl (kaA s.2[i]) s) _ (Weak.to [3,4,7,10] [((1,0),1),((2,0),2),((4,0),4)] (by simp [mkSt,go_sem])) ⟨?_,?_⟩ (by show N+1 - (i+1)<N+1 - i; omega)
     ·have:=hk.next hfitE hi
      rwa [show s.2.getD i 0=s.2[i] by rw [yk9,ykg hi]; rfl] at this
     ·rw [show N+1 - (i+1)=f by omega,<- hl,show s.2.getD i 0=s.2[i] by rw [yk9,ykg hi]; rfl]
   ·rw [yj8 (by omega)] at hl;rw [<- hl];simp [go_sem]
theorem zhy {t:GTrans} (ok:t.ok):∀ x∈t.nf.arcs,x.fit t.st.toNat:=fun x hx=>by obtain ⟨a1,a2,a3,a4,a5,a6,a7,a8,a9⟩:=(zw8 ok).arcs x hx;have e:t.nf.st=t.st:=rfl;have:=ok.st1;exact ⟨⟨a1,by omega⟩,a3,by omega⟩
theorem z2y (t:GTrans) (n:Nat) (hn:n<=90) (hn1:3<=n) (h:t.sm n) (hl:t.arcs.length<=19) (ok:t.ok):Sp P F.jm [enc t] (.pure (.bool (emC t))):=by
 have kn:=zfw t n hn hn1 h hl (by have:=ok.il; have:=ok.st2; omega) (by have:=ok.fl; have:=ok.st2; omega);rw [yj9 ok,yj9 ok] at kn;have hst:t.nf.st=(t.st.toNat:Nat):=by have:=ok.st1; show t.st=_; omega
 have hal:=zkc t;obtain ⟨s,hk,hs⟩:=zi3 t.nf t.st.toNat hst (by have:=ok.st2; omega) (by omega) (zhy ok);have hsp:=(zu9 (t:=t.nf) (zhy ok) hk).1;have hb:decide ((s.2.length:Int)<t.st)=emC t:=by
  have hst1:=ok.st1;have e:((s.2.length:Int)<t.st) ↔ s.2.length<t.nf.st.toNat:=by show _ ↔ s.2.length<t.st.toNat; omega
  unfold emC;cases hc:cycF t.st.toNat (emP t.nf.arcs)
  ·rw [decide_eq_false_iff_not]; intro h'; have:=hsp.1 (e.1 h'); rw [show t.nf.st.toNat=t.st.toNat from rfl,hc] at this; cases this
  ·rw [decide_eq_true_iff]; exact e.2 (hsp.2 hc)
 refine Sp.vz c.jm fun _=>?_;simp [g.jm,go_sem];refine zab kn ?_;simp [go_sem];refine zab hs ?_;simp [go_sem];exact hb
theorem zlf (l:List GW) (hl:l.length<=2147483648):Sp P F.bk [.sl (ens l)] (.fresh 8 (ens l)):=by
 cases l with
 | nil =>
  refine Sp.nilcase ?_ ?_
  ·refine Sp.vz c.bk fun _=>?_;simp [g.bk,go_sem]
  ·refine Sp.vz c.bk fun _=>?_;simp [g.bk,go_sem,LIM]
 | cons x l =>
  refine Sp.vz c.bk fun _=>?_;simp at hl;simp [g.bk,go_sem,LIM,hl]
theorem zv4:g.an=.seq (.reg [⟨some 3,.box 8 (.t 0),none⟩,⟨some 6,.alloc 8 (.agg [.p (.bool false),.nil,.nil,.p (.int .i64 0),.p (.bool false),.p (.int .u64 0),.nil,.nil]),none⟩,⟨some 7,.mv (.c (.p (.int .i64 0))),none⟩] [[0],[],[7]]) zyi:=rfl
theorem yiw {σ : Sg} {I J N:Nat} (hJ:0<J) (h0 : σ 91 0=(900003,0)) (h1:∀ g,1<=g -> σ 800003 g=(900003,g)):((famU I J N).set 0 (some ⟨1,((List.range J).map (rowU N 0)).set 0 (.own 91 0 0 N)⟩)).map (Option.map (subO σ))=famR I J N:=by
 refine ynk fun i=>?_;rw [ykv,ynt];by_cases hi:i<I
 ·rw [zx1 hi];by_cases h:i=0
  ·subst h;rw [yj9 rfl,yj9 (by simp [famU]; omega)];simp only [yng,subO,zbw,ynd]
   congr 3
   refine ynk fun j=>?_;rw [ykv,ynt];by_cases hj:j<J
   ·rw [ykv (f:=rowV N 0),ylt hj];by_cases h':j=0
    ·subst h';rw [yj9 rfl,yj9 (by simp; omega)];simp [Go.Ab.sub,h0,rowV]
    ·rw [yj8 (ykt h'),ykv,ylt hj];simp [Go.Ab.sub,h1 j (by omega),rowV,rowU]
   ·rw [yli (by simp; omega:(List.map (rowV N 0) (List.range J)).length<=j),yj8 (fun e=>hj (by omega)),yli (by simp; omega:(List.map (rowU N 0) (List.range J)).length<=j)]; rfl
  ·rw [yj8 (ykt h)];unfold famU;rw [ykv,ylt hi];simp only [yng,subO,zbw,ym7]
   congr 3
   refine yl9 fun j _=>?_;have:1<=i*J:=ymu (by omega) hJ;simp only [ymt,Go.Ab.sub,rowU,rowV,h1 (i*J+j) (by omega)]
 ·rw [yli (by simp [famR]; omega:(famR I J N).length<=i)];by_cases h:0=i
  ·subst h;rw [yj9 rfl,yj8 (by simp [famU]; omega)]; rfl
  ·rw [yj8 h,yli (by simp [famU]; omega:(famU I J N).length<=i)]; rfl
theorem yik {σ : Sg} (h:∀ g,σ 800002 g=(900002,g)) (J I:Nat):subL σ ((List.range I).map (outU J))=(List.range I).map (outV J):=by rw [zbw,ym7];refine yl9 fun j _=>?_;simp only [ymt,outU,outV,Go.Ab.sub,h]
def w1S (t:GTrans) (wx wy:List Int) (ord:List Nat):St :=
 ⟨[(1,.p (.sl (ens wx))),(2,.p (.sl (ens wy))),(3,.ptr 3 0 0 0),(6,.ptr 6 0 0 0),(9,.p (.sl (ens (toI ord))))],[(3,[some ⟨8,[.p (enc t)]⟩]),(6,[some ⟨8,[z8]⟩]),(DEAD,[none])]⟩
def w2S (t:GTrans) (wx wy:List Int) (I J N:Nat) (T:List (List GW)) (ord:List Nat):St :=
 ⟨[(1,.p (.sl (ens wx))),(2,.p (.sl (ens wy))),(3,.ptr 3 0 0 0),(6,.ptr 6 0 0 0),(9,.p (.sl (ens (toI ord)))),(10,.ptr 900000 0 0 0)],hpT t wx wy I J N T++[(3,[some ⟨8,[.p (enc t)]⟩]),(6,[some ⟨8,[z8]⟩]),(DEAD,[none])]⟩
section
variable {t:GTrans} {wx wy:List Int} {I J N:Nat} {ord:List Nat} (hst:t.st=(N:Int)) (hN:N<=1000) (hI:I=wx.length+1) (hJ:J=wy.length+1) (lI:I<=1000) (lJ:J<=1000) (R:Exit->St->Option FA->Prop)
include hst hN hI hJ lI lJ
theorem z9i {A:Option FA} (hn:∀ s,Weak s (u2S t wx wy I J N ord I)->MR P 132 z0a.er s A R):MR P 132 zrs.er (w1S t wx wy ord) A R:=by
 have e1:IntKind.i64.wrap ((wx.length:Int)+1)=(I:Int):=(i64w (by omega) (by omega)).trans (by omega);unfold zrs yc6 wtA5;refine MR.gseq ?_;generalize z0a=W at *
 generalize hL:GC.loop g.nc=L at *
 simp [w1S,go_sem];refine MR.gseq ?_;subst hL;simp [go_sem,e1];refine z9m (t:=t) (wx:=wx) (wy:=wy) (I:=I) (J:=J) (N:=N) (ord:=ord) hst hN lJ lI hJ ((Weak.nilCell (s0:=52) (g0:=0) (i:=10) (s:=800001) (sz:=1) rfl).trans (Weak.planTo' [1,2,3,6,9,10,55,56] [(3,[(3,0)]),(6,[(6,0)]),(800000,[(52,0)]),(800001,[(800001,0)]),(800002,[]),(800003,[])] ?_ (fun σ => σ 3 0=(3,0) /\ σ 6 0=(6,0) /\ σ 52 0=(800000,0) /\ σ 800001 0=(800001,0)) ?_ ?_)) ?_
 ·simp [zic,zqj,zgt,PINB,DEAD,St.alloc,St.put,St.setObj]
 ·simp [sgP,zik,zfv,St.site,look,St.alloc,St.put,St.setObj]
 ·rintro σ ⟨s1,s2,s3,s4⟩;simp [hpP,catS,Go.Ab.sub,subO,subL,St.get,look,St.site,u2S,s1,s2,s3,s4,tabU,z8,zlj,St.alloc,St.put,St.setObj,AV.cells];exact ⟨rfl,rfl,rfl⟩
 ·simp [go_sem];exact hn _ (Weak.refl _)
theorem yc8 {T:List (List GW)} (hini:t.ini.length=N) (hT:T=t.ini::List.replicate (I*J - 1) (List.replicate N t.ring.zero)) (hn:∀ s,Weak s (w2S t wx wy I J N T ord)->MR P 132 z0b.er s none R):MR P 132 z0a.er (u2S t wx wy I J N ord I) none R:=by
 have i1:0<I:=by omega
 have j1:0<J:=by omega
 have e1:((famU I J N)[0]?).getD none=some ⟨1,(List.range J).map (rowU N 0)⟩:=by unfold famU; rw [ykv,ylt i1]; simp
 have r1:(List.map (outU J) (List.range I))[0]?=some (outU J 0):=by rw [ykv,ylt i1]; rfl
 have r2:(List.map (rowU N 0) (List.range J))[0]?=some (rowU N 0 0):=by rw [ykv,ylt j1]; rfl
 unfold z0a;refine MR.gseq ?_;generalize z0b=W at *
 simp [u2S,go_sem,tabU,i1];rw [zbt];refine ⟨_,r1,?_⟩;simp [go_sem,outU];refine zct (zlf t.ini (by omega)) (by simp [go_sem]) ⟨zed _ _ rfl,by decide,by simp [ens,LIM]; omega⟩ _ rfl ?_;have hd:(famC (zTbl t N (I*J))).drop 1=famC (List.replicate (I*J - 1) (List.replicate N t.ring.zero)):=by unfold famC zTbl;rw [<- List.map_drop,yph]
 have hTf:famC T=some ⟨8,avs t.ini⟩::famC (List.replicate (I*J - 1) (List.replicate N t.ring.zero)):=by rw [hT]; rfl
 have fin:∀ hp:List Site,hp=[(800002,(famU I J N).set 0 (some ⟨1,(List.map (rowU N 0) (List.range J)).set 0 (.own 91 0 0 N)⟩)),(91,[some ⟨8,avs t.ini⟩]),(3,[some ⟨8,[.p (enc t)]⟩]),(6,[some ⟨8,[z8]⟩]),(800000,[some ⟨11,[tabU t wx wy I]⟩]),(800001,[some ⟨1,List.map (outU J) (List.range I)⟩]),(800002,famU I J N),(800003,famC (zTbl t N (I*J))),(DEAD,[none])] ->
   Weak ⟨[(1,.p (.sl (ens wx))),(2,.p (.sl (ens wy))),(3,.ptr 3 0 0 0),(6,.ptr 6 0 0 0),(9,.p (.sl (ens (toI ord)))),(10,.ptr 800000 0 0 0)],hp⟩ (w2S t wx wy I J N T ord):=fun hp e=>by
  subst e;refine Weak.planTo' [1,2,3,6,9,10] [(900000,[(800000,0)]),(900001,[(800001,0)]),(900002,[(800002,0)]),(900003,[(91,0),(800003,1)]),(3,[(3,0)]),(6,[(6,0)])] ?_ (fun σ => σ 3 0=(3,0) /\ σ 6 0=(6,0) /\ σ 800000 0=(900000,0) /\ σ 800001 0=(900001,0)/\(∀ g,σ 800002 g=(900002,g)) /\ σ 91 0=(900003,0)/\(∀ g,1<=g -> σ 800003 g=(900003,g))) ?_ ?_
  ·simp [zic,zqj,zgt,PINB,DEAD]
  ·simp [sgP,zik,zfv,St.site,look];intro g hg;have:¬ g=0:=by omega
   simp [this];omega
  ·rintro σ ⟨s1,s2,s3,s4,s5,s6,s7⟩;simp [hpP,catS,Go.Ab.sub,subO,subL,St.get,look,St.site,w2S,hpT,s1,s2,s3,s4,s6,tabU,tabV,z8,yik s5,yiw j1 s6 s7,hd,zlv,hTf,zp0]
 cases hfl:(ens t.ini).all PV.flat
 ·simp [go_sem,killAll,e1];refine ⟨j1,?_⟩;rw [zbt];refine ⟨_,r2,?_⟩;simp [go_sem,hini];exact hn _ (fin _ rfl)
 ·simp [go_sem,e1];refine ⟨j1,?_⟩;rw [zbt];refine ⟨_,r2,?_⟩;simp [go_sem,hini];exact hn _ (fin _ rfl)
end
theorem yc9 {t:GTrans} {wx wy:List Int} {I J N:Nat} {ord:List Nat} {T T':List (List GW)} (R:Exit->St->Option FA->Prop)
  (hf:HSp P F.jp [.ptr 900000 0 0 0,.p (.sl (ens (toI ord)))] (hpT t wx wy I J N T) (.tup []) (hpT t wx wy I J N T'))
  (hn:∀ s,Weak s (w2S t wx wy I J N T' ord)->MR P 132 wtA9.er s none R):MR P 132 z0b.er (w2S t wx wy I J N T ord) none R:=by
 unfold z0b;refine MR.gseq' (MR.greg (zlq 2 [[],[]] ?_));generalize wtA9=W at *
 simp [w2S,go_sem];refine MIns.cons (zss hf ?_ ?_ ?_ ?_ (MIns.nil (hn _ ?_)))
 ·simp [go_sem]
 ·simp [zog,St.site,look,hpT]
 ·rfl
 ·show (true&&hpOk [900000,900001,900002,900003] (hpT t wx wy I J N T)&&true&&hpOk [900000,900001,900002,900003] (hpT t wx wy I J N _))=true;rw [zpg,zpg]; rfl
 ·refine Weak.toF [1,2,3,6,9,10] [900000,900001,900002,900003] [((3,0),3),((6,0),6)] ?_;simp [go_sem,w2S,hpT,tabV,z8];exact zas I J N T'
def w3S (t:GTrans) (wx wy:List Int) (I J N:Nat) (T:List (List GW)) (p:Nat) (v:GW) (k:Nat):St :=
 ⟨[(3,.ptr 3 0 0 0),(6,.ptr 6 0 0 0),(12,.ptr 12 0 0 0),(110,.own 900003 p 0 N),(111,.p (.int .i64 N)),(112,.p (.int .i64 k))],hpT t wx wy I J N T++[(3,[some ⟨8,[.p (enc t)]⟩]),(6,[some ⟨8,[z8]⟩]),(12,[some ⟨8,[.p (enc v)]⟩]),(DEAD,[none])]⟩
theorem z9j {t:GTrans} {M:Meas t.ring} (mp:MeasP M) (hr:t.ring.ok=true) {B z:Nat} {wx wy:List Int} {I J N:Nat} {T:List (List GW)} {p:Nat} (hp:p<T.length) {row:List GW} (hrow:T.getD p []=row) (hl:row.length=N) (hf:t.fin.length=N) (lN:N<=1000)
  (vr:vb M B row) (vf:vb M z t.fin) (hlim:B+z+1+N<=M.lim) {Q:Exit->St->Prop} {ks:List Kt} {st:St} (hw:Weak st (w3S t wx wy I J N T p t.ring.zero 0))
  (hx:znn P 132 Q (zee 5 ks) 5 (w3S t wx wy I J N T p (sumW t.ring row t.fin) N)):vL P 132 Q g.ne ks st:=by
 refine zai (S:=fun k:Nat=>w3S t wx wy I J N T p (sumN t.ring row t.fin k) k) (I:=fun k=>k<=N) (m:=fun k=>N - k) 0 (by simpa [sumN] using hw) (by omega) ?_;rintro k h1 R hn hr' hx';have e2:=zjt hp;rw [hrow] at e2;by_cases hk:k<N
 ·have e1:=i64s k (by omega);have hkr:k<row.length:=by omega
  have hkf:k<t.fin.length:=by omega
  have hs:=zi0 (r:=t.ring) hkr hkf;have hv:=zpz (M:=M) hr vr vf k (by omega) (by omega);have a1:=vr _ (yk2 hkr);have a2:=vf _ (yk2 hkf);have kt:=mp.timesP (n:=B+z) (by omega) a1.1 a2.1 (M.mono a1.2 (by omega)) (M.mono a2.2 (by omega));have ct:=za7 a1.1 a2.1;have kp:=mp.plusP (n:=B+z+1+k) (by omega) hv.1 ct hv.2 (M.mono (M.times a1.1 a2.1 a1.2 a2.2) (by omega));generalize sumN t.ring row t.fin k=v at *
  simp [g.ne,w3S,go_sem,hk,hpT,tabV,e2];refine ⟨by omega,zae hkr ?_⟩;refine zae hkf ?_;refine zab kt ?_;simp [go_sem];refine zab kp ?_;simp [go_sem,e1];refine hn (k+1) _ (Weak.toF [3,6,12,110,111,112] [900000,900001,900002,900003] [((3,0),3),((6,0),6),((12,0),12)] ?_) (by omega) (by omega);simp [go_sem,w3S,hpT,tabV,z8,hs];exact zas I J N T
 ·have hk':k=N:=by omega
  subst hk';rw [zi1 (by omega)];simp [g.ne,w3S,go_sem];refine hx' 5 _ ?_;simpa [w3S,go_sem] using hx
theorem yc7 {t:GTrans} {M:Meas t.ring} (mp:MeasP M) (hr:t.ring.ok=true) {B z:Nat} {wx wy:List Int} {I J N:Nat} {ord:List Nat} {T:List (List GW)} (hI:I=wx.length+1) (hJ:J=wy.length+1) (lI:I<=1000) (lJ:J<=1000) (hlen:T.length=I*J)
  {row:List GW} (hrow:T.getD (wx.length*J+wy.length) []=row) (hl:row.length=N) (hf:t.fin.length=N) (lN:N<=1000) (vr:vb M B row) (vf:vb M z t.fin) (hlim:B+z+1+N<=M.lim) (R:Exit->St->Option FA->Prop)
  (hn:∀ s,retP [(6,some 8),(7,none)] (.pure (.tup [enc (sumW t.ring row t.fin),.int .i64 0])) .ret s->R .ret s none):MR P 132 wtA9.er (w2S t wx wy I J N T ord) none R:=by
 have i1:wx.length<I:=by omega
 have j1:wy.length<J:=by omega
 have hp:wx.length*J+wy.length<T.length:=by rw [hlen]; exact z11 i1 j1
 have e1:=zjs (N:=N) (J:=J) i1;have e2:=zjt hp;have r1:(List.map (outV J) (List.range I))[wx.length]?=some (outV J wx.length):=by rw [ykv,ylt i1]; rfl
 have r2:(List.map (rowV N (wx.length*J)) (List.range J))[wy.length]?=some (rowV N (wx.length*J) wy.length):=by rw [ykv,ylt j1]; rfl
 refine MR.of_vm ?_;unfold wtA9 wtA8 wtA6;generalize hW:wtA7=W;generalize hL:GC.loop g.ne=L;simp [w2S,go_sem,hpT,tabV];refine zab (zf7 t.ring) ?_;simp [go_sem,i1,j1];rw [zbt];refine ⟨_,r1,?_⟩;simp [go_sem,outV,e1,i1,j1];rw [zbt];refine ⟨_,r2,?_⟩;simp [go_sem,rowV,e1,e2];subst hL;simp [go_sem];refine z9j (t:=t) (wx:=wx) (wy:=wy) (I:=I) (J:=J) (T:=T) mp hr hp hrow hl hf lN vr vf hlim (Weak.toF [3,6,12,110,111,112] [900000,900001,900002,900003] [((3,0),3),((6,0),6),((12,0),12)] ?_) ?_
 ·simp [go_sem,w3S,hpT,tabV,z8];exact zas I J N T
 ·subst hW;generalize sumW t.ring row t.fin=v at *
  simp [go_sem,wtA7,w3S,hpT,tabV];refine hn _ ?_;simp [go_sem,toPV]
end Go.Ab
