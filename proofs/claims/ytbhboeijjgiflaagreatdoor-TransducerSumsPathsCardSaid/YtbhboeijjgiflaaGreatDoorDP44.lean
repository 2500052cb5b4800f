/-
Proofs for the law TransducerSumsPaths, part 44. Conditions: none.
-/
import Derived.Test.YtbhboeijjgiflaaGreatDoorDP42
import Derived.Test.YtbhboeijjgiflaaGreatDoorDP43
import Derived.Test.YtbhboeijjgiflaaGreatDoorDP41
import Derived.Test.YtbhboeijjgiflaaGreatDoorDP37
import Derived.Test.YtbhboeijjgiflaaGreatDoorDP38
set_option maxRecDepth 100000
set_option maxHeartbeats 4000000
set_option linter.all false
namespace Go.Ab
def kaA(q:Int)(s:List Int × List Int)(x:GTArc):List Int × List Int :=
 if x.f=q then(s.1.set x.t.toNat (s.1.getD x.t.toNat 0 - 1),if s.1.getD x.t.toNat 0 - 1=0 then s.2++[x.t]else s.2)else s
def kaL(E:List GTArc):Nat->Nat->List Int × List Int->List Int × List Int
 | 0,_,s=>s
 | f+1,i,s=>if i<s.2.length then kaL E f (i+1) (E.foldl (kaA (s.2.getD i 0)) s)else s
def kcn(E:List GTArc)(y:Int)(p:Int->Bool):Nat:=(E.filter fun x=>decide (x.t=y)&&p x.f).length
theorem zk2(A B:List GTArc)(y:Int)(p:Int->Bool):kcn (A++B) y p=kcn A y p+kcn B y p:=by unfold kcn;rw[yol,yp4]
theorem zk1(x:GTArc)(y:Int)(p:Int->Bool):kcn [x] y p=if x.t=y/\p x.f=true then 1 else 0:=by
 unfold kcn;by_cases h:x.t=y/\p x.f=true
 ·rw[ym0 h];simp[h.1,h.2]
 ·rw[ym1 h,List.filter_cons_of_neg];rfl;simp only[ync,decide_eq_true_eq];exact h
theorem zrz{E:List GTArc}{y:Int}{p:Int->Bool}(h:kcn E y p=0):∀ x∈E,x.t=y->p x.f=false:=fun x hx hy=>by unfold kcn at h;have:=List.filter_eq_nil_iff.1 (List.eq_nil_of_length_eq_zero h) x hx;simpa[hy]using this
theorem yds{E:List GTArc}{y:Int}{p:Int->Bool}(h:kcn E y p≠0):∃ x∈E,x.t=y/\p x.f=true:=by unfold kcn at h;obtain⟨x,hx⟩:=yrn (E.filter fun x=>decide (x.t=y)&&p x.f) (fun e=>h (by rw[e];rfl));obtain⟨h1,h2⟩:=yo9.1 hx;simp only[ync,decide_eq_true_eq]at h2;exact⟨x,h1,h2⟩
def zc8(P:List Int)(f:Int):Bool:=decide (f∉P)
structure kaC (E:List GTArc) (N:Nat) (s:List Int × List Int):Prop where
 len:s.1.length=N
 nd:s.2.Nodup
 rng:∀ y∈s.2,0<=y/\y<(N:Int)
 mem:∀ y:Nat,y<N->((y:Int)∈s.2 ↔ s.1.getD y 0=0)
 ordv:∀ a y b,s.2=a++y::b->∀ x∈E,x.t=y->x.f∈a
structure kaM (E:List GTArc) (N:Nat) (P:List Int) (q:Int) (dn rs:List GTArc) (s:List Int × List Int):Prop where
 c:kaC E N s
 pre:∃ post,s.2=P++q::post
 cnt:∀ y:Nat,y<N->s.1.getD y 0=((kcn dn y (zc8 (P++[q]))+kcn rs y (zc8 P):Nat):Int)
structure kaH (E:List GTArc) (N i:Nat) (s:List Int × List Int):Prop where
 c:kaC E N s
 le:i<=s.2.length
 cnt:∀ y:Nat,y<N->s.1.getD y 0=((kcn E y (zc8 (s.2.take i)):Nat):Int)
theorem zk5(l:List Int)(i y:Nat)(v:Int)(h:i<l.length):(l.set i v).getD y 0=if i=y then v else l.getD y 0:=by
 rw[ymo,ymo];by_cases e:i=y
 ·subst e;rw[yqb h,ym0 rfl];rfl
 ·rw[ypu e,ym1 e]
theorem kaM.step{E:List GTArc}{N:Nat}{P:List Int}{q:Int}{dn rs:List GTArc}{x:GTArc}{s:List Int × List Int}(h:kaM E N P q dn (x::rs) s)(hE:E=dn++x::rs)(hx:x.fit N):kaM E N P q (dn++[x]) rs (kaA q s x):=by
 obtain⟨⟨len,nd,rng,mem,ordv⟩,⟨post,hpre⟩,cnt⟩:=h;obtain⟨⟨a1,a2⟩,a3,a4⟩:=hx;have hqP:q∉P:=fun hm=>by rw[hpre]at nd;exact(ypa.1 nd).2.2 _ hm _ ynt rfl
 have hqs:q∈s.2:=by rw[hpre];simp
 have hPs:∀ f,f∈P->f∈s.2:=fun f hf=>by rw[hpre];simp[hf]
 unfold kaA;by_cases hf:x.f=q
 ·rw[ym0 hf];obtain⟨k,hk⟩:∃ k:Nat,x.t=k:=⟨x.t.toNat,by omega⟩;have hkN:k<N:=by omega
  have hkt:x.t.toNat=k:=by omega
  rw[hkt,hk];have hn1:zc8 P x.f=true:=by unfold zc8;rw[hf];simpa using hqP
  have hn2:zc8 (P++[q]) x.f=false:=by unfold zc8;rw[hf];simp
  have e0:=cnt k hkN;have e1:kcn (x::rs) k (zc8 P)=1+kcn rs k (zc8 P):=by rw[show x::rs=[x]++rs from rfl,zk2,zk1,ym0 ⟨hk,hn1⟩]
  rw[e1]at e0;have hnot:(k:Int)∉s.2:=fun hm=>by have:=(mem k hkN).1 hm;omega
  have ec:s.1.getD k 0 - 1=((kcn dn k (zc8 (P++[q]))+kcn rs k (zc8 P):Nat):Int):=by omega
  rw[ec];have hcnt:∀ y:Nat,y<N->(s.1.set k ((kcn dn k (zc8 (P++[q]))+kcn rs k (zc8 P):Nat):Int)).getD y 0=((kcn (dn++[x]) y (zc8 (P++[q]))+kcn rs y (zc8 P):Nat):Int):=fun y hy=>by
   rw[zk5 _ _ _ _ (by rw[len];exact hkN),zk2,zk1,ym1 (show ¬ (x.t=(y:Int)/\zc8 (P++[q]) x.f=true) from fun h=>by rw[hn2]at h;cases h.2),ynx];by_cases e:k=y
   ·subst e;rw[ym0 rfl]
   ·rw[ym1 e,cnt y hy,show x::rs=[x]++rs from rfl,zk2,zk1,ym1 (fun h=>e (by have:=hk.symm.trans h.1;omega)),yn6]
  by_cases hz:((kcn dn k (zc8 (P++[q]))+kcn rs k (zc8 P):Nat):Int)=0
  ·rw[ym0 hz];have z1:kcn dn k (zc8 (P++[q]))=0:=by omega
   have z2:kcn rs k (zc8 P)=0:=by omega
   refine⟨⟨by simpa using len,?_,?_,fun y hy=>?_,?_⟩,⟨post++[(k:Int)],by simp[hpre]⟩,hcnt⟩
   ·exact ypa.2 ⟨nd,by simp,fun a ha b hb e=>by simp at hb;subst hb;rw[e]at ha;exact hnot ha⟩
   ·intro y hy;rcases ymn.1 hy with hy|hy
    ·exact rng y hy
    ·simp at hy;subst hy;exact⟨by omega,by omega⟩
   ·simp only[ymn,yog];rw[zk5 _ _ _ _ (by rw[len];exact hkN)];by_cases e:k=y
    ·subst e;rw[ym0 rfl];exact⟨fun _=>hz,fun _=>.inr rfl⟩
    ·rw[ym1 e];exact⟨fun h=>h.elim (mem y hy).1 fun h=>absurd (by omega) e,fun h=>.inl ((mem y hy).2 h)⟩
   ·intro a y b hab z hz1 hz2;rcases yrz b with rfl|⟨b',w,rfl⟩
    ·have hh:s.2++[(k:Int)]=a++[y]:=hab;obtain⟨e1,e2⟩:=List.append_inj' hh rfl;subst e1;have e3:(k:Int)=y:=by simpa using e2
     rw[<- e3]at hz2;rw[hE]at hz1;rcases ymn.1 hz1 with h1|h1
     ·have:=zrz z1 z h1 hz2;unfold zc8 at this;simp only[decide_eq_false_iff_not,Decidable.not_not,ymn,yog]at this;rcases this with h|h
      ·exact hPs _ h
      ·rw[h];exact hqs
     ·rcases ym7.1 h1 with rfl|h1
      ·rw[hf];exact hqs
      ·have:=zrz z2 z h1 hz2;unfold zc8 at this;simp only[decide_eq_false_iff_not,Decidable.not_not]at this;exact hPs _ this
    ·have hh:s.2++[(k:Int)]=(a++y::b')++[w]:=Eq.trans hab (by simp);obtain⟨e1,e2⟩:=List.append_inj' hh rfl;exact ordv a y b' e1 z hz1 hz2
  ·rw[if_neg hz];refine⟨⟨by simpa using len,nd,rng,fun y hy=>?_,ordv⟩,⟨post,hpre⟩,hcnt⟩;rw[zk5 _ _ _ _ (by rw[len];exact hkN)];by_cases e:k=y
   ·subst e;rw[ym0 rfl];exact⟨fun h=>absurd h hnot,fun h=>absurd h hz⟩
   ·rw[ym1 e];exact mem y hy
 ·rw[ym1 hf];refine⟨⟨len,nd,rng,mem,ordv⟩,⟨post,hpre⟩,fun y hy=>?_⟩;rw[cnt y hy,show x::rs=[x]++rs from rfl,zk2,zk2,zk1,zk1];have:zc8 (P++[q]) x.f=zc8 P x.f:=by unfold zc8;simp[hf]
  rw[this];omega
theorem kaM.fold{E:List GTArc}{N:Nat}{P:List Int}{q:Int}(hfit:∀ x∈E,x.fit N):∀ (rs dn:List GTArc) {s:List Int × List Int},E=dn++rs->kaM E N P q dn rs s->kaM E N P q E [] (rs.foldl (kaA q) s)
 | [],dn,s,hE,h=>by rw[ypp]at hE;subst hE;exact h
 | x::rs,dn,s,hE,h=>kaM.fold hfit rs (dn++[x]) (by rw[hE];simp) (h.step hE (hfit x (by rw[hE];simp)))
theorem kaH.next{E:List GTArc}{N i:Nat}{s:List Int × List Int}(hfit:∀ x∈E,x.fit N)(h:kaH E N i s)(hi:i<s.2.length):kaH E N (i+1) (E.foldl (kaA (s.2.getD i 0)) s):=by
 have hq:s.2.getD i 0=s.2[i]:=by rw[ymo,yms hi];rfl
 have hsp:s.2=s.2.take i++s.2[i]::s.2.drop (i+1):=by rw[ys3,yox]
 rw[hq];generalize hP:s.2.take i=P at hsp;generalize s.2[i]=q at hsp;have hPl:P.length=i:=by rw[<- hP,yns];omega
 have hm:kaM E N P q [] E s:=⟨h.c,⟨_,hsp⟩,fun y hy=>by rw[h.cnt y hy,hP];simp[kcn]⟩;obtain⟨c,⟨post,hpre⟩,cnt⟩:=kaM.fold hfit E [] rfl hm;refine⟨c,by rw[hpre];simp;omega,fun y hy=>?_⟩;rw[cnt y hy];have:(E.foldl (kaA q) s).2.take (i+1)=P++[q]:=by rw[hpre,show P++q::post=(P++[q])++post by simp,List.take_left' (by simp[hPl])]
 rw[this];simp[kcn]
theorem zrt:∀ {l m:List Nat},l.Nodup->(∀ y∈l,y∈m)->l.length<=m.length
 | [],_,_,_=>ymv _
 | x::l,m,hn,h=>by rw[yo0]at hn;have hx:=h x ynt;have:=zrt (l:=l) (m:=m.erase x) hn.2 fun y hy=>(List.mem_erase_of_ne (fun e=>hn.1 (by rw[<- e];exact hy))).2 (h y (yn9 _ hy));rw[List.length_erase_of_mem hx]at this;have:=List.length_pos_of_mem hx;simp only[yo8];omega
theorem zyh{l:List Int}(hn:l.Nodup)(h:∀ y∈l,0<=y):(l.map Int.toNat).Nodup:=by
 refine yrx.2 (yro ?_ hn);intro a b ha hb hab e;have:=h a ha;have:=h b hb
 exact hab (by omega)
theorem kaC.le{E:List GTArc}{N:Nat}{s:List Int × List Int}(h:kaC E N s):s.2.length<=N:=by
 have:=zrt (zyh h.nd fun y hy=>(h.rng y hy).1) (m:=List.range N) fun y hy=>by obtain⟨z,hz,rfl⟩:=ym6.1 hy;have:=h.rng z hz;exact yng.2 (by omega)
 simpa using this
theorem z48{E:List GTArc}{N:Nat}(hfit:∀ x∈E,x.fit N):∀ (f i:Nat) {s:List Int × List Int},kaH E N i s->N<f+i->∃ s',kaL E f i s=s'/\kaH E N s'.2.length s'
 | 0,i,s,h,hf=>by have:=h.c.le;have:=h.le;omega
 | f+1,i,s,h,hf=>by
  simp only[kaL];by_cases hi:i<s.2.length
  ·rw[ym0 hi];exact z48 hfit f (i+1) (h.next hfit hi) (by omega)
  ·rw[ym1 hi];have:i=s.2.length:=by have:=h.le;omega
   subst this;exact⟨s,rfl,h⟩
theorem zn3{t:GTrans}(hfit:∀ x∈t.arcs,x.fit t.st.toNat){s:List Int × List Int}(h:kaH (t.arcs.filter emF) t.st.toNat s.2.length s) :
  (s.2.length<t.st.toNat ↔ cycF t.st.toNat (emP t.arcs)=true)/\(¬ s.2.length<t.st.toNat->tord t (s.2.map Int.toNat)):=by
 have hle:=h.c.le;have hmem:∀ x,x∈t.arcs.filter emF ↔ x∈t.arcs/\emF x=true:=fun x=>yo9;have hfull:¬ s.2.length<t.st.toNat->tord t (s.2.map Int.toNat):=fun hn=>by
  have hn2:=zyh h.c.nd fun y hy=>(h.c.rng y hy).1;refine⟨hn2,fun q=>⟨fun hq=>?_,fun hq=>?_⟩,by rw[ynp];exact hle,fun pre q post e x hx he hf ht=>?_⟩
  ·obtain⟨z,hz,rfl⟩:=ym6.1 hq;have:=h.c.rng z hz;omega
  ·rcases Classical.em (q∈s.2.map Int.toNat)with hh|hh
   ·exact hh
   exfalso;have:=zrt (l:=q::s.2.map Int.toNat) (m:=List.range t.st.toNat) (yo0.2 ⟨hh,hn2⟩) fun y hy=>by
    rcases ym7.1 hy with rfl|hy
    ·exact yng.2 hq
    ·obtain⟨z,hz,rfl⟩:=ym6.1 hy;have:=h.c.rng z hz;exact yng.2 (by omega)
   simp at this;omega
  ·
   obtain⟨⟨a1,a2⟩,a3,a4⟩:=hfit x hx;have hxE:=(hmem x).2 ⟨hx,he⟩;obtain⟨pre',rest,e1,e2,e3⟩:=List.map_eq_append_iff.1 e;obtain⟨q',post',e4,e5,e6⟩:=List.map_eq_cons_iff.1 e3;subst e2 e4;have hq':q'=x.f:=by have:=(h.c.rng q' (by rw[e1];simp)).1;omega
   subst hq';have hnd:=h.c.nd;rw[e1]at hnd;have hnp:x.f∉pre':=fun hm=>(ypa.1 hnd).2.2 _ hm _ ynt rfl;rcases ymn.1 ht with ht|ht
   ·obtain⟨z,hz,hz2⟩:=ym6.1 ht;have:=(h.c.rng z (by rw[e1];simp[hz])).1;have hzt:z=x.t:=by omega
    subst hzt;obtain⟨u,v,rfl⟩:=yq6 hz;have:=h.c.ordv u x.t (v++x.f::post') (by rw[e1];simp) x hxE rfl;exact hnp (by simp[this])
   ·simp only[yog]at ht;have hft:x.f=x.t:=by omega
    have:=h.c.ordv pre' x.f post' e1 x hxE hft.symm;exact hnp this
 refine⟨⟨fun hlt=>?_,fun hc=>?_⟩,hfull⟩
 ·
  obtain⟨q0,h1,h2⟩:∃ q0,q0<t.st.toNat/\(q0:Int)∉s.2:=by
   rcases Classical.em (∃ q0,q0<t.st.toNat/\(q0:Int)∉s.2)with hh|hh
   ·exact hh
   exfalso;have:=zrt (l:=List.range t.st.toNat) (m:=s.2.map Int.toNat) yqm fun y hy=>by
    have hy:=yng.1 hy;rcases Classical.em ((y:Int)∈s.2)with hm|hm
    ·exact ym6.2 ⟨_,hm,by simp⟩
    ·exact absurd ⟨y,hy,hm⟩ hh
   simp at this;omega
  refine z90 (R:=fun q=>(q:Int)∉s.2) (fun p hp=>?_) h1 h2 fun q hq hR=>?_
  ·obtain⟨x,hx,rfl⟩:=z5q hp;obtain⟨⟨a1,a2⟩,a3,a4⟩:=hfit x hx;exact⟨⟨a1,a2⟩,a3,a4⟩
  ·have hne:kcn (t.arcs.filter emF) q (zc8 s.2)≠0:=fun e=>by have:=h.cnt q hq;rw[yn1,e]at this;exact hR ((h.c.mem q hq).2 this)
   obtain⟨x,hx,e1,e2⟩:=yds hne;obtain⟨⟨a1,a2⟩,a3,a4⟩:=hfit x ((hmem x).1 hx).1;refine⟨(x.f,x.t),ym6.2 ⟨x,hx,rfl⟩,e1,?_⟩;unfold zc8 at e2;have:((x.f.toNat:Nat):Int)=x.f:=by omega
   rw[this];exact of_decide_eq_true e2
 ·rcases ynk s.2.length t.st.toNat with hlt|hge
  ·exact hlt
  exfalso;have ho:=hfull (by omega);have:cycF t.st.toNat (emP t.arcs)=false:=yel (fun q=>(s.2.map Int.toNat).idxOf q) fun p hp=>by obtain⟨x,hx,rfl⟩:=ym6.1 (show p∈(t.arcs.filter emF).map fun x=>(x.f,x.t) from hp);obtain⟨h1,h2⟩:=(hmem x).1 hx;obtain⟨⟨a1,a2⟩,a3,a4⟩:=hfit x h1;exact(ho.lt h1 h2 (by omega) (by omega)).1
  rw[this]at hc;cases hc
def inL(A:List GTArc)(N:Nat):List Int:=(List.range N).map fun(y:Nat)=>((kcn (A.filter emF) (y:Int) (fun _=>true):Nat):Int)
theorem zr4(A:List GTArc)(N:Nat):(inL A N).length=N:=by simp[inL]
theorem zr5{A:List GTArc}{N y:Nat}(h:y<N):(inL A N).getD y 0=((kcn (A.filter emF) y (fun _=>true):Nat):Int):=by unfold inL;rw[ymo,ynb,yob h];rfl
theorem ydx(N:Nat):inL [] N=List.replicate N 0:=by unfold inL;rw[List.eq_replicate_iff];exact⟨by simp,fun b hb=>by obtain⟨y,_,rfl⟩:=ym6.1 hb;simp[kcn]⟩
theorem ya6{A:List GTArc}{N:Nat}{x:GTArc}(h:emF x=false):inL (A++[x]) N=inL A N:=by unfold inL;rw[yol];simp[h]
theorem ydw{A:List GTArc}{N:Nat}{x:GTArc}(h:emF x=true)(hx:x.fit N):inL (A++[x]) N=(inL A N).set x.t.toNat ((inL A N).getD x.t.toNat 0+1):=by
 obtain⟨_,a3,a4⟩:=hx;refine List.ext_getElem (by simp[inL]) fun y h1 h2=>?_;have hy:y<N:=by simpa[inL]using h1
 rw[List.getElem_set];have gt:∀ (B:List GTArc) (h:y<(inL B N).length),(inL B N)[y]'h=((kcn (B.filter emF) (y:Int) (fun _=>true):Nat):Int):=fun B h=>by simp only[inL,yr9,List.getElem_range]
 have e:(inL (A++[x]) N)[y]=((kcn (A.filter emF) (y:Int) (fun _=>true)+(if x.t=(y:Int)then 1 else 0):Nat):Int):=by rw[gt,yol,zk2];simp[h,zk1]
 have e2:(inL A N)[y]'(by rw[zr4];exact hy)=((kcn (A.filter emF) (y:Int) (fun _=>true):Nat):Int):=gt A _;rw[e,e2];by_cases ht:x.t.toNat=y
 ·have:x.t=(y:Int):=by omega
  rw[ym0 ht,zr5 (by omega),ym0 this,ht];omega
 ·rw[ym1 ht,ym1 (by omega)];rfl
def ouL(I:List Int)(k:Nat):List Int:=((List.range k).filter fun q=>decide (I.getD q 0=0)).map fun(q:Nat)=>(q:Int)
theorem zyb(I:List Int)(k:Nat):ouL I (k+1)=if I.getD k 0=0 then ouL I k++[(k:Int)]else ouL I k:=by
 unfold ouL;rw[yoi,yol,ynw];by_cases h:I.getD k 0=0
 ·rw[ym0 h];simp only[yqv,h,decide_true,ym2,List.filter_nil,ymy,yr6]
 ·rw[ym1 h];simp only[yqv,h,decide_false,ymw,ym9,List.filter_nil,yr6,ypp]
theorem zrc{I:List Int}{k:Nat}{y:Int}:y∈ouL I k ↔ ∃ q:Nat,q<k/\I.getD q 0=0/\y=(q:Int):=by
 unfold ouL;rw[ym6];constructor
 ·rintro⟨q,hq,rfl⟩;obtain⟨h1,h2⟩:=yo9.1 hq;exact⟨q,yng.1 h1,of_decide_eq_true h2,rfl⟩
 ·rintro⟨q,h1,h2,rfl⟩;exact⟨q,yo9.2 ⟨yng.2 h1,decide_eq_true h2⟩,rfl⟩
theorem yda(I:List Int)(k:Nat):(ouL I k).length<=k:=by unfold ouL;have:=List.length_filter_le (fun q=>decide (I.getD q 0=0)) (List.range k);simpa using this
theorem z47(A:List GTArc)(N:Nat):kaH (A.filter emF) N 0 (inL A N,ouL (inL A N) N):=by
 refine⟨⟨zr4 A N,?_,fun y hy=>?_,fun y hy=>?_,fun a y b hab x hx ht=>?_⟩,ymv _,fun y hy=>?_⟩
 ·unfold ouL;refine yrx.2 ?_;refine List.Pairwise.imp ?_ (List.Pairwise.filter _ yqm);intro a b h e;exact h (by omega)
 ·obtain⟨q,h1,h2,rfl⟩:=zrc.1 hy;omega
 ·constructor
  ·intro h;obtain⟨q,h1,h2,h3⟩:=zrc.1 h;have:y=q:=by omega
   rw[this];exact h2
  ·intro h;exact zrc.2 ⟨y,hy,h,rfl⟩
 ·have hy:y∈ouL (inL A N) N:=by have:ouL (inL A N) N=a++y::b:=hab;rw[this];simp
  obtain⟨q,h1,h2,rfl⟩:=zrc.1 hy;rw[zr5 h1]at h2;have:=zrz (E:=A.filter emF) (y:=(q:Int)) (p:=fun _=>true) (by omega) x hx ht;cases this
 ·show(inL A N).getD y 0=_;rw[zr5 hy]
  congr 2
end Go.Ab
namespace Go.Ab
open Enc (enc)
attribute [local go_sem] zal Opd.slots
theorem zjh(t:GTrans)(N:Nat)(hst:t.st=N)(hN:N<=64)(hal:t.arcs.length<=4096)(hfit:∀ x∈t.arcs,x.fit N):∃ s,kaH (t.arcs.filter emF) N s.2.length s/\Sp P F.di [enc t] (.pure (.sl (ens s.2))):=by
 have hfitE:∀ x∈t.arcs.filter emF,x.fit N:=fun x hx=>hfit x (yo9.1 hx).1;have hend:∃ s',kaL (t.arcs.filter emF) (N+1) 0 (inL t.arcs N,ouL (inL t.arcs N) N)=s'/\kaH (t.arcs.filter emF) N s'.2.length s':=z48 hfitE (N+1) 0 (z47 t.arcs N) (by omega);refine⟨kaL (t.arcs.filter emF) (N+1) 0 (inL t.arcs N,ouL (inL t.arcs N) N),by obtain⟨s',e,h⟩:=hend;rw[e];exact h,?_⟩;have hinit:=z47 t.arcs N;have hEl:(t.arcs.filter emF).length<=4096:=ymm (yoh _ _) hal;refine Sp.vz c.di fun _=>?_;simp[g.di,go_sem,hst];refine⟨by omega,?_⟩
 refine zai (S:=fun k:Nat=>mkSt [(3,.own 1 0 0 N),(4,.own 2 0 0 ((t.arcs.take k).filter emF).length),(17,.p (.sl (ens t.arcs))),(18,.p (.int .i64 t.arcs.length)),(19,.p (.int .i64 k))] [(1,⟨1,avs (inL (t.arcs.take k) N)⟩),(2,⟨12,avs ((t.arcs.take k).filter emF)⟩)]) (I:=fun k=>k<=t.arcs.length) (m:=fun k=>t.arcs.length - k) 0
  ((Weak.nilSlot (t:=4) (s:=77) (sz:=12) rfl).trans (Weak.to [3,4,17,18,19] [((15,0),1),((77,0),2)] (by simp[mkSt,go_sem,ydx]))) (by omega) ?_
 rintro k h1 R hn hr hx;have e1:=i64s k (by omega);simp[g.pq,mkSt,go_sem];refine⟨fun hk=>zae hk ?_,fun hk=>hx _ _ ?_⟩
 ·have hf:=hfit _ (ym3 hk);have hil:=zr4 (t.arcs.take k) N;have htk:t.arcs.take (k+1)=t.arcs.take k++[t.arcs[k]]:=ymr hk;have hfle:((t.arcs.take k).filter emF).length<=4096:=by
   have h1:=yoh emF (t.arcs.take k);have h2:(t.arcs.take k).length<=t.arcs.length:=by rw[yns];omega
   omega
  obtain⟨_,t1,t2⟩:=hf;have htl:t.arcs[k].t.toNat<(inL (t.arcs.take k) N).length:=by omega
  refine⟨fun a=>⟨fun b=>?_,fun b=>?_⟩,fun a=>?_⟩
  ·have he:emF t.arcs[k]=true:=by simp[emF,a,b]
   have hfl:(t.arcs.take (k+1)).filter emF=(t.arcs.take k).filter emF++[t.arcs[k]]:=by rw[htk,yol];simp[he]
   have hin:=ydw (A:=t.arcs.take k) he (hfit _ (ym3 hk));rw[<- htk]at hin;have hv:(inL (t.arcs.take k) N)[t.arcs[k].t.toNat]=(inL (t.arcs.take k) N).getD t.arcs[k].t.toNat 0:=by rw[ymo,yms htl];rfl
   have hg:=zr5 (A:=t.arcs.take k) (N:=N) (y:=t.arcs[k].t.toNat) (by omega);have hk2:kcn ((t.arcs.take k).filter emF) ((t.arcs[k].t.toNat:Nat):Int) (fun _=>true)<=4096:=by unfold kcn;exact ymm (yoh _ _) hfle
   have hb:0<=(inL (t.arcs.take k) N).getD t.arcs[k].t.toNat 0/\(inL (t.arcs.take k) N).getD t.arcs[k].t.toNat 0<=4096:=by rw[hg];omega
   have ew:IntKind.i64.wrap ((inL (t.arcs.take k) N).getD t.arcs[k].t.toNat 0+1)=(inL (t.arcs.take k) N).getD t.arcs[k].t.toNat 0+1:=i64w (by omega) (by omega);refine⟨⟨t1,by omega,by omega⟩,zae htl ⟨⟨t1,by omega,by omega⟩,zae htl ⟨by omega,?_⟩⟩⟩;rw[hv];generalize (inL (t.arcs.take k) N).getD t.arcs[k].t.toNat 0=z at *
   refine hn (k+1) _ (Weak.to [3,4,17,18,19] [((1,0),1),((41,0),2)] ?_) (by omega) (by omega);rw[hfl,hin];simp[mkSt,go_sem,e1,ew]
  ·have he:emF t.arcs[k]=false:=by simp[emF,b]
   have hfl:(t.arcs.take (k+1)).filter emF=(t.arcs.take k).filter emF:=by rw[htk,yol];simp[he]
   have hin:=ya6 (A:=t.arcs.take k) (N:=N) he;rw[<- htk]at hin;refine hn (k+1) _ (Weak.to [3,4,17,18,19] [((1,0),1),((2,0),2)] ?_) (by omega) (by omega);rw[hfl,hin];simp[mkSt,go_sem,e1]
  ·have he:emF t.arcs[k]=false:=by simp[emF,a]
   have hfl:(t.arcs.take (k+1)).filter emF=(t.arcs.take k).filter emF:=by rw[htk,yol];simp[he]
   have hin:=ya6 (A:=t.arcs.take k) (N:=N) he;rw[<- htk]at hin;refine hn (k+1) _ (Weak.to [3,4,17,18,19] [((1,0),1),((2,0),2)] ?_) (by omega) (by omega);rw[hfl,hin];simp[mkSt,go_sem,e1]
 ·have hk':k=t.arcs.length:=by omega
  subst hk';clear hn hr hx;simp[go_sem];have hIl:=zr4 t.arcs N;generalize hI:inL t.arcs N=I at *
  generalize hE:t.arcs.filter emF=E at *
  refine zai (S:=fun k:Nat=>mkSt [(3,.own 1 0 0 N),(4,.own 2 0 0 E.length),(7,.own 4 0 0 (ouL I k).length),(43,.own 1 0 0 N),(44,.p (.int .i64 N)),(45,.p (.int .i64 k))] [(1,⟨1,avs I⟩),(2,⟨12,avs E⟩),(4,⟨1,avs (ouL I k)⟩)]) (I:=fun k=>k<=N) (m:=fun k=>N - k) 0
   ((Weak.nilSlot (t:=7) (s:=77) (sz:=1) rfl).trans (Weak.to [3,4,7,43,44,45] [((1,0),1),((2,0),2),((77,0),4)] (by simp[mkSt,go_sem,ouL]))) (by omega) ?_
  rintro k h1 R hn hr hx;have e1:=i64s k (by omega);simp[g.pt,mkSt,go_sem];have hol:=yda I k;refine⟨fun hk=>⟨⟨hk,by omega⟩,zae (show k<I.length by omega) ?_⟩,fun hk=>hx _ _ ?_⟩
  ·have hgk:I.getD k 0=I[k]'(by omega):=by rw[ymo,yms (by omega)];rfl
   refine⟨fun hz=>⟨by omega,hn (k+1) _ (Weak.to [3,4,7,43,44,45] [((1,0),1),((2,0),2),((55,0),4)] ?_) (by omega) (by omega)⟩,fun hz=>hn (k+1) _ (Weak.to [3,4,7,43,44,45] [((1,0),1),((2,0),2),((4,0),4)] ?_) (by omega) (by omega)⟩
   ·rw[zyb,hgk,ym0 hz];simp[mkSt,go_sem,e1]
   ·rw[zyb,hgk,ym1 hz];simp[mkSt,go_sem,e1]
  ·have hk':k=N:=by omega
   rw[hk'];clear hn hr hx;simp[go_sem];clear hol h1 e1;clear hk' hk k;clear hend;generalize hsf:kaL E (N+1) 0 (I,ouL I N)=sf
   refine zai (S:=fun a:Nat × (List Int × List Int)=>mkSt [(3,.own 1 0 0 N),(4,.own 2 0 0 E.length),(7,.own 4 0 0 a.2.2.length),(10,.p (.int .i64 a.1))] [(1,⟨1,avs a.2.1⟩),(2,⟨12,avs E⟩),(4,⟨1,avs a.2.2⟩)])
    (I:=fun a=>kaH E N a.1 a.2/\kaL E (N+1 - a.1) a.1 a.2=sf) (m:=fun a=>N+1 - a.1) (0,(I,ouL I N)) (Weak.to [3,4,7,10] [((1,0),1),((2,0),2),((4,0),4)] (by simp[mkSt,go_sem])) ⟨hinit,hsf⟩ ?_
   rintro⟨i,s⟩ ⟨hk,hl⟩ R hn hr hx;simp only at hk hl;have hcl:=hk.c.le;have hle:=hk.le;have e1:=i64s i (by omega);obtain⟨f,hf⟩:∃ f,N+1 - i=f+1:=⟨N - i,by omega⟩;rw[hf]at hl;simp only[kaL]at hl;simp[g.py,mkSt,go_sem];refine⟨fun hi=>?_,fun hi=>hx _ _ ?_⟩
   ·rw[ym0 hi]at hl;have hsp:s.2=s.2.take i++s.2[i]::s.2.drop (i+1):=by rw[ys3,yox]
    have hm0:kaM E N (s.2.take i) s.2[i] [] E s:=⟨hk.c,⟨_,hsp⟩,fun y hy=>by rw[hk.cnt y hy];simp[kcn]⟩
    refine zai (S:=fun a:Nat × (List Int × List Int)=>mkSt [(3,.own 1 0 0 N),(4,.own 2 0 0 E.length),(7,.own 4 0 0 a.2.2.length),(10,.p (.int .i64 i)),(63,.own 2 0 0 E.length),(64,.p (.int .i64 E.length)),(65,.p (.int .i64 a.1))] [(1,⟨1,avs a.2.1⟩),(2,⟨12,avs E⟩),(4,⟨1,avs a.2.2⟩)])
     (I:=fun a=>a.1<=E.length/\a.2=(E.take a.1).foldl (kaA s.2[i]) s/\kaM E N (s.2.take i) s.2[i] (E.take a.1) (E.drop a.1) a.2) (m:=fun a=>E.length - a.1) (0,s) (Weak.to [3,4,7,10,63,64,65] [((1,0),1),((2,0),2),((4,0),4)] (by simp[mkSt,go_sem])) ⟨by omega,rfl,by simpa using hm0⟩ ?_
    rintro⟨x,u⟩ ⟨hx1,hu,hM⟩ R2 hn2 hr2 hx2;simp only at hx1 hu hM;have e2:=i64s x (by omega);simp[g.px,mkSt,go_sem];refine⟨fun hxl=>?_,fun hxl=>hx2 _ _ ?_⟩
    ·have hPl:(s.2.take i).length=i:=by rw[yns];omega
     obtain⟨post,hpre⟩:=hM.pre;have hiu:i<u.2.length:=by rw[hpre];simp[hPl]
     have hui:u.2[i]=s.2[i]:=by
      have:u.2[i]?=some s.2[i]:=by rw[hpre,yp3 (by omega),hPl,Nat.sub_self];rfl
      rw[yms hiu]at this;exact Option.some.inj this
     have htk:E.take (x+1)=E.take x++[E[x]]:=ymr hxl;have hdr:E.drop x=E[x]::E.drop (x+1):=by rw[ys3]
     have hfx:=hfitE _ (ym3 hxl);rw[hdr]at hM;have hM2:=hM.step (by rw[<- hdr,yox]) hfx;have hu2:kaA s.2[i] u E[x]=(E.take (x+1)).foldl (kaA s.2[i]) s:=by rw[htk,ynn,<- hu];rfl
     rw[<- htk]at hM2;refine⟨hxl,zae hxl ⟨hiu,zae hiu ?_⟩⟩;rw[hui];refine⟨fun he=>?_,fun he=>?_⟩
     ·obtain⟨_,t1,t2⟩:=hfx;have hul:=hM.c.len;have htl:E[x].t.toNat<u.1.length:=by omega
      have hv:u.1[E[x].t.toNat]=u.1.getD E[x].t.toNat 0:=by rw[ymo,yms htl];rfl
      have hcnt:=hM.cnt E[x].t.toNat (by omega);have b1:kcn (E.take x) ((E[x].t.toNat:Nat):Int) (zc8 (s.2.take i++[s.2[i]]))<=4096:=by unfold kcn;refine ymm (yoh _ _) ?_;rw[yns];omega
      have b2:kcn (E[x]::E.drop (x+1)) ((E[x].t.toNat:Nat):Int) (zc8 (s.2.take i))<=4096:=by unfold kcn;refine ymm (yoh _ _) ?_;rw[<- hdr,yoo];omega
      have ew:IntKind.i64.wrap (u.1.getD E[x].t.toNat 0 - 1)=u.1.getD E[x].t.toNat 0 - 1:=i64w (by omega) (by omega);have hka:kaA s.2[i] u E[x]=(u.1.set E[x].t.toNat (u.1.getD E[x].t.toNat 0 - 1),if u.1.getD E[x].t.toNat 0 - 1=0 then u.2++[E[x].t]else u.2):=by unfold kaA;rw[ym0 he]
      rw[hka]at hM2 hu2;have hcl2:=hM2.c.le;have hul2:=hM.c.le;refine⟨⟨t1,by omega,by omega⟩,zae htl ⟨⟨t1,by omega,by omega⟩,zae htl ⟨⟨t1,by omega,by omega⟩,?_⟩⟩⟩;rw[zcc];refine⟨_,by rw[yqb (by simp[avs,ens];omega)],?_⟩;rw[hv,ew];generalize u.1.getD E[x].t.toNat 0 - 1=z at *
      simp[go_sem];refine⟨fun hz=>⟨by omega,?_⟩,fun hz=>?_⟩
      ·rw[ym0 hz]at hM2 hu2;refine hn2 (x+1,(u.1.set E[x].t.toNat z,u.2++[E[x].t])) _ (Weak.to [3,4,7,10,63,64,65] [((1,0),1),((2,0),2),((93,0),4)] (by simp[mkSt,go_sem,e2])) ⟨by show x+1<=E.length;omega,hu2,hM2⟩ (by show E.length - (x+1)<E.length - x;omega)
      ·rw[ym1 hz]at hM2 hu2;refine hn2 (x+1,(u.1.set E[x].t.toNat z,u.2)) _ (Weak.to [3,4,7,10,63,64,65] [((1,0),1),((2,0),2),((4,0),4)] (by simp[mkSt,go_sem,e2])) ⟨by show x+1<=E.length;omega,hu2,hM2⟩ (by show E.length - (x+1)<E.length - x;omega)
     ·have hk1:kaA s.2[i] u E[x]=u:=by unfold kaA;rw[ym1 he]
      rw[hk1]at hM2 hu2;refine hn2 (x+1,u) _ (Weak.to [3,4,7,10,63,64,65] [((1,0),1),((2,0),2),((4,0),4)] (by simp[mkSt,go_sem,e2])) ⟨by show x+1<=E.length;omega,hu2,hM2⟩ (by show E.length - (x+1)<E.length - x;omega)
    ·have hxe:x=E.length:=by omega
     subst hxe;rw[yn1]at hu;subst hu;simp[go_sem,e1];refine hn (i+1,E.foldl (kaA s.2[i]) s) _ (Weak.to [3,4,7,10] [((1,0),1),((2,0),2),((4,0),4)] (by simp[mkSt,go_sem])) ⟨?_,?_⟩ (by show N+1 - (i+1)<N+1 - i;omega)
     ·have:=hk.next hfitE hi
      rwa[show s.2.getD i 0=s.2[i] by rw[ymo,yms hi];rfl]at this
     ·rw[show N+1 - (i+1)=f by omega,<- hl,show s.2.getD i 0=s.2[i] by rw[ymo,yms hi];rfl]
   ·rw[ym1 (by omega)]at hl;rw[<- hl];simp[go_sem]
theorem zgr{t:GTrans}(ok:t.ok):∀ x∈t.nf.arcs,x.fit t.st.toNat:=fun x hx=>by obtain⟨a1,a2,a3,a4,a5,a6,a7,a8,a9⟩:=(zp3 ok).arcs x hx;have e:t.nf.st=t.st:=rfl;have:=ok.st1;exact⟨⟨a1,by omega⟩,a3,by omega⟩
theorem z4t(t:GTrans)(n:Nat)(hn:n<=90)(hn1:3<=n)(h:t.sm n)(hl:t.arcs.length<=19)(ok:t.ok):Sp P F.jk [enc t] (.pure (.bool (emC t))):=by
 have kn:=zks t n hn hn1 h hl (by have:=ok.il;have:=ok.st2;omega) (by have:=ok.fl;have:=ok.st2;omega);rw[ym0 ok,ym0 ok]at kn;have hst:t.nf.st=(t.st.toNat:Nat):=by have:=ok.st1;show t.st=_;omega
 have hal:=zku t;obtain⟨s,hk,hs⟩:=zjh t.nf t.st.toNat hst (by have:=ok.st2;omega) (by omega) (zgr ok);have hsp:=(zn3 (t:=t.nf) (zgr ok) hk).1;have hb:decide ((s.2.length:Int)<t.st)=emC t:=by
  have hst1:=ok.st1;have e:((s.2.length:Int)<t.st) ↔ s.2.length<t.nf.st.toNat:=by show _ ↔ s.2.length<t.st.toNat;omega
  unfold emC;cases hc:cycF t.st.toNat (emP t.nf.arcs)
  ·rw[decide_eq_false_iff_not];intro h';have:=hsp.1 (e.1 h');rw[show t.nf.st.toNat=t.st.toNat from rfl,hc]at this;cases this
  ·rw[decide_eq_true_iff];exact e.2 (hsp.2 hc)
 refine Sp.vz c.jk fun _=>?_;simp[g.jk,go_sem];refine zab kn ?_;simp[go_sem];refine zab hs ?_;simp[go_sem];exact hb
theorem zl3(l:List GW)(hl:l.length<=2147483648):Sp P F.bl [.sl (ens l)] (.fresh 8 (ens l)):=by
 cases l with
 | nil =>
  refine Sp.nilcase ?_ ?_
  ·refine Sp.vz c.bl fun _=>?_;simp[g.bl,go_sem]
  ·refine Sp.vz c.bl fun _=>?_;simp[g.bl,go_sem,LIM]
 | cons x l =>
  refine Sp.vz c.bl fun _=>?_;simp at hl;simp[g.bl,go_sem,LIM,hl]
theorem yao:g.ap=.seq (.reg [⟨some 3,.box 8 (.t 0),none⟩,⟨some 6,.alloc 8 (.agg [.p (.bool false),.nil,.nil,.p (.int .i64 0),.p (.bool false),.p (.int .u64 0),.nil,.nil]),none⟩,⟨some 7,.mv (.c (.p (.int .i64 0))),none⟩] [[0],[],[7]]) z61:=rfl
theorem yk8{σ : Sg}{I J N:Nat}(hJ:0<J)(h0 : σ 91 0=(900003,0))(h1:∀ g,1<=g -> σ 800003 g=(900003,g)):((famU I J N).set 0 (some ⟨1,((List.range J).map (rowU N 0)).set 0 (.own 91 0 0 N)⟩)).map (Option.map (subO σ))=famR I J N:=by
 refine yq2 fun i=>?_;rw[ynb,yqe];by_cases hi:i<I
 ·rw[zy6 hi];by_cases h:i=0
  ·subst h;rw[ym0 rfl,ym0 (by simp[famU];omega)];simp only[ypz,subO,zbz,ypx]
   congr 3
   refine yq2 fun j=>?_;rw[ynb,yqe];by_cases hj:j<J
   ·rw[ynb (f:=rowV N 0),yob hj];by_cases h':j=0
    ·subst h';rw[ym0 rfl,ym0 (by simp;omega)];simp[Go.Ab.sub,h0,rowV]
    ·rw[ym1 (yn8 h'),ynb,yob hj];simp[Go.Ab.sub,h1 j (by omega),rowV,rowU]
   ·rw[ynu (by simp;omega:(List.map (rowV N 0) (List.range J)).length<=j),ym1 (fun e=>hj (by omega)),ynu (by simp;omega:(List.map (rowU N 0) (List.range J)).length<=j)];rfl
  ·rw[ym1 (yn8 h)];unfold famU;rw[ynb,yob hi];simp only[ypz,subO,zbz,yoe]
   congr 3
   refine ynr fun j _=>?_;have:1<=i*J:=yoz (by omega) hJ;simp only[ypb,Go.Ab.sub,rowU,rowV,h1 (i*J+j) (by omega)]
 ·rw[ynu (by simp[famR];omega:(famR I J N).length<=i)];by_cases h:0=i
  ·subst h;rw[ym0 rfl,ym1 (by simp[famU];omega)];rfl
  ·rw[ym1 h,ynu (by simp[famU];omega:(famU I J N).length<=i)];rfl
theorem ykx{σ : Sg}(h:∀ g,σ 800002 g=(900002,g))(J I:Nat):subL σ ((List.range I).map (outU J))=(List.range I).map (outV J):=by rw[zbz,yoe];refine ynr fun j _=>?_;simp only[ypb,outU,outV,Go.Ab.sub,h]
def w1S(t:GTrans)(wx wy:List Int)(ord:List Nat):St :=
 ⟨[(1,.p (.sl (ens wx))),(2,.p (.sl (ens wy))),(3,.ptr 3 0 0 0),(6,.ptr 6 0 0 0),(9,.p (.sl (ens (toI ord))))],[(3,[some ⟨8,[.p (enc t)]⟩]),(6,[some ⟨8,[z8]⟩]),(DEAD,[none])]⟩
def w2S(t:GTrans)(wx wy:List Int)(I J N:Nat)(T:List (List GW))(ord:List Nat):St :=
 ⟨[(1,.p (.sl (ens wx))),(2,.p (.sl (ens wy))),(3,.ptr 3 0 0 0),(6,.ptr 6 0 0 0),(9,.p (.sl (ens (toI ord)))),(10,.ptr 900000 0 0 0)],hpT t wx wy I J N T++[(3,[some ⟨8,[.p (enc t)]⟩]),(6,[some ⟨8,[z8]⟩]),(DEAD,[none])]⟩
section
variable {t:GTrans} {wx wy:List Int} {I J N:Nat} {ord:List Nat} (hst:t.st=(N:Int)) (hN:N<=1000) (hI:I=wx.length+1) (hJ:J=wy.length+1) (lI:I<=1000) (lJ:J<=1000) (R:Exit->St->Option FA->Prop)
include hst hN hI hJ lI lJ
theorem ybm{A:Option FA}(hn:∀ s,Weak s (u2S t wx wy I J N ord I)->MR P 132 z1k.er s A R):MR P 132 zzm.er (w1S t wx wy ord) A R:=by
 have e1:IntKind.i64.wrap ((wx.length:Int)+1)=(I:Int):=(i64w (by omega) (by omega)).trans (by omega);unfold zzm yff wtA5;refine MR.gseq ?_;generalize z1k=W at *
 generalize hL:GC.loop g.m9=L at *
 simp[w1S,go_sem];refine MR.gseq ?_;subst hL;simp[go_sem,e1];refine ybr (t:=t) (wx:=wx) (wy:=wy) (I:=I) (J:=J) (N:=N) (ord:=ord) hst hN lJ lI hJ ((Weak.nilCell (s0:=52) (g0:=0) (i:=10) (s:=800001) (sz:=1) rfl).trans (Weak.planTo' [1,2,3,6,9,10,55,56] [(3,[(3,0)]),(6,[(6,0)]),(800000,[(52,0)]),(800001,[(800001,0)]),(800002,[]),(800003,[])] ?_ (fun σ => σ 3 0=(3,0) /\ σ 6 0=(6,0) /\ σ 52 0=(800000,0) /\ σ 800001 0=(800001,0)) ?_ ?_)) ?_
 ·simp[zio,zrj,zg5,PINB,DEAD,St.alloc,St.put,St.setObj]
 ·simp[sgP,zi0,zf4,St.site,look,St.alloc,St.put,St.setObj]
 ·rintro σ ⟨s1,s2,s3,s4⟩;simp[hpP,catS,Go.Ab.sub,subO,subL,St.get,look,St.site,u2S,s1,s2,s3,s4,tabU,z8,zma,St.alloc,St.put,St.setObj,AV.cells];exact⟨rfl,rfl,rfl⟩
 ·simp[go_sem];exact hn _ (Weak.refl _)
theorem yfh{T:List (List GW)}(hini:t.ini.length=N)(hT:T=t.ini::List.replicate (I*J - 1) (List.replicate N t.ring.zero))(hn:∀ s,Weak s (w2S t wx wy I J N T ord)->MR P 132 z1l.er s none R):MR P 132 z1k.er (u2S t wx wy I J N ord I) none R:=by
 have i1:0<I:=by omega
 have j1:0<J:=by omega
 have e1:((famU I J N)[0]?).getD none=some ⟨1,(List.range J).map (rowU N 0)⟩:=by unfold famU;rw[ynb,yob i1];simp
 have r1:(List.map (outU J) (List.range I))[0]?=some (outU J 0):=by rw[ynb,yob i1];rfl
 have r2:(List.map (rowU N 0) (List.range J))[0]?=some (rowU N 0 0):=by rw[ynb,yob j1];rfl
 unfold z1k;refine MR.gseq ?_;generalize z1l=W at *
 simp[u2S,go_sem,tabU,i1];rw[zcc];refine⟨_,r1,?_⟩;simp[go_sem,outU];refine zcl (zl3 t.ini (by omega)) (by simp[go_sem]) ⟨zdx _ _ rfl,by decide,by simp[ens,LIM];omega⟩ _ rfl ?_;have hd:(famC (zTbl t N (I*J))).drop 1=famC (List.replicate (I*J - 1) (List.replicate N t.ring.zero)):=by unfold famC zTbl;rw[<- List.map_drop,ys2]
 have hTf:famC T=some ⟨8,avs t.ini⟩::famC (List.replicate (I*J - 1) (List.replicate N t.ring.zero)):=by rw[hT];rfl
 have fin:∀ hp:List Site,hp=[(800002,(famU I J N).set 0 (some ⟨1,(List.map (rowU N 0) (List.range J)).set 0 (.own 91 0 0 N)⟩)),(91,[some ⟨8,avs t.ini⟩]),(3,[some ⟨8,[.p (enc t)]⟩]),(6,[some ⟨8,[z8]⟩]),(800000,[some ⟨11,[tabU t wx wy I]⟩]),(800001,[some ⟨1,List.map (outU J) (List.range I)⟩]),(800002,famU I J N),(800003,famC (zTbl t N (I*J))),(DEAD,[none])] ->
   Weak ⟨[(1,.p (.sl (ens wx))),(2,.p (.sl (ens wy))),(3,.ptr 3 0 0 0),(6,.ptr 6 0 0 0),(9,.p (.sl (ens (toI ord)))),(10,.ptr 800000 0 0 0)],hp⟩ (w2S t wx wy I J N T ord):=fun hp e=>by
  subst e;refine Weak.planTo' [1,2,3,6,9,10] [(900000,[(800000,0)]),(900001,[(800001,0)]),(900002,[(800002,0)]),(900003,[(91,0),(800003,1)]),(3,[(3,0)]),(6,[(6,0)])] ?_ (fun σ => σ 3 0=(3,0) /\ σ 6 0=(6,0) /\ σ 800000 0=(900000,0) /\ σ 800001 0=(900001,0)/\(∀ g,σ 800002 g=(900002,g)) /\ σ 91 0=(900003,0)/\(∀ g,1<=g -> σ 800003 g=(900003,g))) ?_ ?_
  ·simp[zio,zrj,zg5,PINB,DEAD]
  ·simp[sgP,zi0,zf4,St.site,look];intro g hg;have:¬ g=0:=by omega
   simp[this];omega
  ·rintro σ ⟨s1,s2,s3,s4,s5,s6,s7⟩;simp[hpP,catS,Go.Ab.sub,subO,subL,St.get,look,St.site,w2S,hpT,s1,s2,s3,s4,s6,tabU,tabV,z8,ykx s5,yk8 j1 s6 s7,hd,zmq,hTf,zq1]
 cases hfl:(ens t.ini).all PV.flat
 ·simp[go_sem,killAll,e1];refine⟨j1,?_⟩;rw[zcc];refine⟨_,r2,?_⟩;simp[go_sem,hini];exact hn _ (fin _ rfl)
 ·simp[go_sem,e1];refine⟨j1,?_⟩;rw[zcc];refine⟨_,r2,?_⟩;simp[go_sem,hini];exact hn _ (fin _ rfl)
end
theorem yfi{t:GTrans}{wx wy:List Int}{I J N:Nat}{ord:List Nat}{T T':List (List GW)}(R:Exit->St->Option FA->Prop)
  (hf:HSp P F.jm [.ptr 900000 0 0 0,.p (.sl (ens (toI ord)))] (hpT t wx wy I J N T) (.tup []) (hpT t wx wy I J N T'))
  (hn:∀ s,Weak s (w2S t wx wy I J N T' ord)->MR P 132 wtA9.er s none R):MR P 132 z1l.er (w2S t wx wy I J N T ord) none R:=by
 unfold z1l;refine MR.gseq' (MR.greg (zmk 2 [[],[]] ?_));generalize wtA9=W at *
 simp[w2S,go_sem];refine MIns.cons (zt5 hf ?_ ?_ ?_ ?_ (MIns.nil (hn _ ?_)))
 ·simp[go_sem]
 ·simp[zpb,St.site,look,hpT]
 ·rfl
 ·show(true&&hpOk [900000,900001,900002,900003] (hpT t wx wy I J N T)&&true&&hpOk [900000,900001,900002,900003] (hpT t wx wy I J N _))=true;rw[zqg,zqg];rfl
 ·refine Weak.toF [1,2,3,6,9,10] [900000,900001,900002,900003] [((3,0),3),((6,0),6)] ?_;simp[go_sem,w2S,hpT,tabV,z8];exact zas I J N T'
def w3S(t:GTrans)(wx wy:List Int)(I J N:Nat)(T:List (List GW))(p:Nat)(v:GW)(k:Nat):St :=
 ⟨[(3,.ptr 3 0 0 0),(6,.ptr 6 0 0 0),(12,.ptr 12 0 0 0),(110,.own 900003 p 0 N),(111,.p (.int .i64 N)),(112,.p (.int .i64 k))],hpT t wx wy I J N T++[(3,[some ⟨8,[.p (enc t)]⟩]),(6,[some ⟨8,[z8]⟩]),(12,[some ⟨8,[.p (enc v)]⟩]),(DEAD,[none])]⟩
theorem ybn{t:GTrans}{M:Meas t.ring}(mp:MeasP M)(hr:t.ring.ok=true){B z:Nat}{wx wy:List Int}{I J N:Nat}{T:List (List GW)}{p:Nat}(hp:p<T.length){row:List GW}(hrow:T.getD p []=row)(hl:row.length=N)(hf:t.fin.length=N)(lN:N<=1000)
  (vr:vb M B row) (vf:vb M z t.fin) (hlim:B+z+1+N<=M.lim) {Q:Exit->St->Prop} {ks:List Kt} {st:St} (hw:Weak st (w3S t wx wy I J N T p t.ring.zero 0))
  (hx:zk8 P 132 Q (zdn 5 ks) 5 (w3S t wx wy I J N T p (sumW t.ring row t.fin) N)):vL P 132 Q g.na ks st:=by
 refine zai (S:=fun k:Nat=>w3S t wx wy I J N T p (sumN t.ring row t.fin k) k) (I:=fun k=>k<=N) (m:=fun k=>N - k) 0 (by simpa[sumN]using hw) (by omega) ?_;rintro k h1 R hn hr' hx';have e2:=zj8 hp;rw[hrow]at e2;by_cases hk:k<N
 ·have e1:=i64s k (by omega);have hkr:k<row.length:=by omega
  have hkf:k<t.fin.length:=by omega
  have hs:=zje (r:=t.ring) hkr hkf;have hv:=zm3 (M:=M) hr vr vf k (by omega) (by omega);have a1:=vr _ (ym3 hkr);have a2:=vf _ (ym3 hkf);have kt:=mp.timesP (n:=B+z) (by omega) a1.1 a2.1 (M.mono a1.2 (by omega)) (M.mono a2.2 (by omega));have ct:=za9 a1.1 a2.1;have kp:=mp.plusP (n:=B+z+1+k) (by omega) hv.1 ct hv.2 (M.mono (M.times a1.1 a2.1 a1.2 a2.2) (by omega));generalize sumN t.ring row t.fin k=v at *
  simp[g.na,w3S,go_sem,hk,hpT,tabV,e2];refine⟨by omega,zae hkr ?_⟩;refine zae hkf ?_;refine zab kt ?_;simp[go_sem];refine zab kp ?_;simp[go_sem,e1];refine hn (k+1) _ (Weak.toF [3,6,12,110,111,112] [900000,900001,900002,900003] [((3,0),3),((6,0),6),((12,0),12)] ?_) (by omega) (by omega);simp[go_sem,w3S,hpT,tabV,z8,hs];exact zas I J N T
 ·have hk':k=N:=by omega
  subst hk';rw[zfa (by omega)];simp[g.na,w3S,go_sem];refine hx' 5 _ ?_;simpa[w3S,go_sem]using hx
theorem yfg{t:GTrans}{M:Meas t.ring}(mp:MeasP M)(hr:t.ring.ok=true){B z:Nat}{wx wy:List Int}{I J N:Nat}{ord:List Nat}{T:List (List GW)}(hI:I=wx.length+1)(hJ:J=wy.length+1)(lI:I<=1000)(lJ:J<=1000)(hlen:T.length=I*J)
  {row:List GW} (hrow:T.getD (wx.length*J+wy.length) []=row) (hl:row.length=N) (hf:t.fin.length=N) (lN:N<=1000) (vr:vb M B row) (vf:vb M z t.fin) (hlim:B+z+1+N<=M.lim) (R:Exit->St->Option FA->Prop)
  (hn:∀ s,retP [(6,some 8),(7,none)] (.pure (.tup [enc (sumW t.ring row t.fin),.int .i64 0])) .ret s->R .ret s none):MR P 132 wtA9.er (w2S t wx wy I J N T ord) none R:=by
 have i1:wx.length<I:=by omega
 have j1:wy.length<J:=by omega
 have hp:wx.length*J+wy.length<T.length:=by rw[hlen];exact z3r i1 j1
 have e1:=zj7 (N:=N) (J:=J) i1;have e2:=zj8 hp;have r1:(List.map (outV J) (List.range I))[wx.length]?=some (outV J wx.length):=by rw[ynb,yob i1];rfl
 have r2:(List.map (rowV N (wx.length*J)) (List.range J))[wy.length]?=some (rowV N (wx.length*J) wy.length):=by rw[ynb,yob j1];rfl
 refine MR.of_vm ?_;unfold wtA9 wtA8 wtA6;generalize hW:wtA7=W;generalize hL:GC.loop g.na=L;simp[w2S,go_sem,hpT,tabV];refine zab (zgg t.ring) ?_;simp[go_sem,i1,j1];rw[zcc];refine⟨_,r1,?_⟩;simp[go_sem,outV,e1,i1,j1];rw[zcc];refine⟨_,r2,?_⟩;simp[go_sem,rowV,e1,e2];subst hL;simp[go_sem];refine ybn (t:=t) (wx:=wx) (wy:=wy) (I:=I) (J:=J) (T:=T) mp hr hp hrow hl hf lN vr vf hlim (Weak.toF [3,6,12,110,111,112] [900000,900001,900002,900003] [((3,0),3),((6,0),6),((12,0),12)] ?_) ?_
 ·simp[go_sem,w3S,hpT,tabV,z8];exact zas I J N T
 ·subst hW;generalize sumW t.ring row t.fin=v at *
  simp[go_sem,wtA7,w3S,hpT,tabV];refine hn _ ?_;simp[go_sem,toPV]
theorem ybu{l:List Int}(h:∀ y∈l,0<=y):toI (l.map Int.toNat)=l:=by unfold toI;rw[yoe];refine(ynr fun y hy=>?_).trans (List.map_id l);have:=h y hy;simp only[ypb,id];omega
theorem z6w{r:GRing}{ini:List GW}{K N:Nat}(h:0<K):T0 r ini K N=ini::List.replicate (K - 1) (List.replicate N r.zero):=by obtain⟨K,rfl⟩:∃ k,K=k+1:=⟨K - 1,by omega⟩;unfold T0;rw[ypm];rfl
theorem zoq{u:GTrans}(ok:u.ok):ckT u.ring u:=by have:=ok.fl;refine⟨rfl,ok.ring,⟨ok.fin,by omega⟩,fun x hx=>?_⟩;obtain⟨a1,a2,a3,a4,a5,a6,a7,a8,a9⟩:=ok.arcs x hx;have:=ok.st1;exact⟨a9,⟨a1,by omega⟩,a3,by omega⟩
theorem zir(t:GTrans)(M:Meas t.nf.ring)(mp:MeasP M){z n:Nat}(hn:n<=90)(hn1:3<=n)(h:t.sm n)(hl:t.arcs.length<=19)(ok:t.ok)(ht:t.nf.fits M z)(hML:M.lim<=1000000)(wx wy:List Int)(hwx:ze9 wx t.i)(hwy:ze9 wy t.o)(hc:emC t=false)
  (hlim:z+(wx.length+1)*((wy.length+1)*(t.st.toNat*sLv z t.nf.arcs))+z+1+t.st.toNat<=M.lim) :
  Sp P F.ap [enc t,.sl (ens wx),.sl (ens wy)] (.pure (.tup [enc (wgt t.nf wx wy),.int .i64 0]))/\(wgt t.nf wx wy).chk t.nf.ring/\M.mb (z+(wx.length+1)*((wy.length+1)*(t.st.toNat*sLv z t.nf.arcs))+z+1+t.st.toNat) (wgt t.nf wx wy)/\(wgt t.nf wx wy).sm 400000:=by
 have uok:=zp3 ok;have hal:=zku t;have s1:=ok.st1;have s2:=ok.st2;have kn:=zks t n hn hn1 h hl (by have:=ok.il;omega) (by have:=ok.fl;omega);rw[ym0 ok,ym0 ok]at kn;obtain⟨N,hN⟩:∃ N:Nat,N=t.st.toNat:=⟨_,rfl⟩;have hst:t.nf.st=(N:Int):=by show t.st=_;omega
 have hN64:N<=64:=by omega
 obtain⟨s,hk,hs⟩:=zjh t.nf N hst (by omega) (by omega) (by rw[hN];exact zgr ok);have hspec:=zn3 (t:=t.nf) (zgr ok) (by rw[hN]at hk;exact hk);have hnl:¬ s.2.length<t.nf.st.toNat:=fun hlt=>by have:=hspec.1.1 hlt;have e:emC t=cycF t.st.toNat (emP t.nf.arcs):=rfl;rw[hc]at e;rw[show t.nf.st.toNat=t.st.toNat from rfl,<- e]at this;cases this
 have ho:=hspec.2 hnl;have hoI:toI (s.2.map Int.toNat)=s.2:=ybu fun y hy=>(hk.c.rng y hy).1;have hol:=ho.len;rw[ynp]at hol;have holt:∀ q∈s.2.map Int.toNat,q<N:=fun q hq=>by rw[hN];exact(ho.all q).1 hq
 generalize hord:s.2.map Int.toNat=ord at *
 rw[<- hoI]at hs;have hordl:ord.length=s.2.length:=by rw[<- hord,ynp]
 have hordl2:ord.length<=N:=by rw[hordl,hN];exact hol
 have hNl:¬ ord.length<N:=by rw[hordl,hN];exact hnl
 have hi:t.nf.ini.length=N:=by have:=ok.il;show t.ini.length=N;omega
 have hf:t.nf.fin.length=N:=by have:=ok.fl;show t.fin.length=N;omega
 have fo:fillOk t.nf M z:=⟨uok.ring,zoq uok,mp,fun x hx=>(ht.arcs x hx).1,fun x hx=>by
  obtain⟨a1,a2,a3,a4,a5,a6,a7,a8,a9⟩:=uok.arcs x hx;have:=uok.i1;have:=uok.o1
  exact⟨⟨by omega,by omega⟩,by omega,by omega⟩,by omega,hML⟩
 have hx1:=hwx.2.1;have hy1:=hwy.2.1;have hK:0<plN wx wy:=by have:=zvr (ymv wx.length) (ymv wy.length);omega
 have hck:ckL t.nf.ring t.nf.st.toNat t.nf.ini:=⟨uok.ini,by rw[hi,hst];rfl⟩;have hT0:=yiu (zoq uok) hck hK;have hv0:vbT M z (T0 t.nf.ring t.nf.ini (plN wx wy) N):=by
  intro l hl;rw[z6w hK]at hl;rcases ym7.1 hl with rfl|hl
  ·exact ht.ini.1
  ·rw[ypv hl];exact z6y M uok.ring _ _
 rw[show t.nf.st.toNat=N by rw[hst];rfl]at hT0;have hfw:=ydz (r:=t.nf.ring) (t:=t.nf) uok.ring (zoq uok) (wx:=wx) (wy:=wy) ho hck;rw[show t.nf.st.toNat=N by rw[hst];rfl]at hfw;have hsl:ord.length*sLv z t.nf.arcs<=t.st.toNat*sLv z t.nf.arcs:=ymu _ (by omega);have hsl2:(wx.length+1)*((wy.length+1)*(ord.length*sLv z t.nf.arcs))<=(wx.length+1)*((wy.length+1)*(t.st.toNat*sLv z t.nf.arcs)):=yo5 _ (yo5 _ hsl);have hfill:=z9l fo (wx:=wx) (wy:=wy) (I:=wx.length+1) (J:=wy.length+1) (N:=N) rfl rfl (by rw[hst];rfl) (by omega) (by omega) (B:=z) (T:=T0 t.nf.ring t.nf.ini (plN wx wy) N) (ord:=ord) holt (by omega) (by rw[show t.nf.st.toNat=N by rw[hst];rfl];exact hT0) hv0 (by omega);obtain⟨t1,t2⟩:=z5j fo (wx:=wx) (wy:=wy) (ord:=ord) (B:=z) (T:=T0 t.nf.ring t.nf.ini (plN wx wy) N) (by rw[show t.nf.st.toNat=N by rw[hst];rfl];exact hT0) hv0 (wx.length+1) (ym8 _);obtain⟨f1,f2⟩:=hfw;have hp:wx.length*(wy.length+1)+wy.length<plN wx wy:=zvr (ym8 _) (ym8 _);have hrow:=f1.get hp;have hvr:=t2.get (wx.length*(wy.length+1)+wy.length);have hvf:vb M z t.nf.fin:=ht.fin.1;rw[<- f2];have hW:=zm3 (M:=M) uok.ring hvr hvf N (by rw[hrow.2];exact ym8 _) (by rw[hf];exact ym8 _);rw[zfa (by rw[hrow.2];exact ym8 _)]at hW;refine⟨?_,hW.1,M.mono hW.2 (by omega),mp.smP (n:=z+(wx.length+1)*((wy.length+1)*(ord.length*sLv z t.nf.arcs))+z+1+N) (by omega) hW.1 hW.2⟩;clear hW;have htail:=fun R hR=>yfg (t:=t.nf) mp uok.ring (wx:=wx) (wy:=wy) (ord:=ord) (N:=N) (T:=flT t.nf.ring wx wy t.nf.arcs ord (T0 t.nf.ring t.nf.ini (plN wx wy) N) (wx.length+1)) rfl rfl (by omega) (by omega) f1.1 rfl hrow.2 hf (by omega) hvr hvf (by omega) R hR;have hname:=fun R hR=>yfh (t:=t.nf) (wx:=wx) (wy:=wy) (ord:=ord) (N:=N) hst (by omega) rfl rfl (by omega) (by omega) R hi (z6w (r:=t.nf.ring) (ini:=t.nf.ini) (N:=N) hK) hR;have hbuild:=fun R hR=>ybm (t:=t.nf) (wx:=wx) (wy:=wy) (ord:=ord) (N:=N) hst (by omega) rfl rfl (by omega) (by omega) R (A:=none) hR;have hu:t.nf.fin.length=N:=hf;have hui:t.nf.i=t.i:=rfl;have huo:t.nf.o=t.o:=rfl;have vx:=zi6 wx t.i (by omega);have vy:=zi6 wy t.o (by omega);have dx:decide ((1<=t.i/\t.i<=32)/\wx.length<=256/\∀ x∈wx,1<=x/\x<=t.i)=true:=decide_eq_true hwx;have dy:decide ((1<=t.o/\t.o<=32)/\wy.length<=256/\∀ x∈wy,1<=x/\x<=t.o)=true:=decide_eq_true hwy;rw[dx]at vx;rw[dy]at vy;rw[<- hui]at vx;rw[<- huo]at vy;generalize sumW t.nf.ring _ t.nf.fin=W at *
 generalize flT t.nf.ring wx wy t.nf.arcs ord (T0 t.nf.ring t.nf.ini (plN wx wy) N) (wx.length+1)=T1 at *
 generalize T0 t.nf.ring t.nf.ini (plN wx wy) N=T00 at *
 have hl0:¬ ((ord.length:Int)<(N:Int)):=by omega
 refine Sp.of_mr c.ap (by simp) ?_;generalize hR:(fun(ex:Exit) (s:St) (_:Option FA)=>retP [(6,some 8),(7,none)] (.pure (.tup [enc W,.int .i64 0])) ex s)=R;have hfin:∀ s,retP [(6,some 8),(7,none)] (.pure (.tup [enc W,.int .i64 0])) .ret s->R .ret s none:=fun s hs=>by subst hR;exact hs
 have hmain:MR P 132 zzm.er (w1S t.nf wx wy ord) none R:=hbuild R fun s hw=>MR.weak hw (hname R fun s hw=>MR.weak hw (yfi R hfill fun s hw=>MR.weak hw (htail R hfin)));clear hbuild hname htail hfill hfin hR;rw[yao];unfold z61 ybk ybl wtA4 wtA3 wtA2 wtA1;generalize zzm=W13 at *
 refine MR.gseq ?_;simp[go_sem];refine MR.gseq ?_;simp[go_sem];refine zab kn ?_;generalize t.nf=u at *
 simp[go_sem];refine MR.gseq ?_;simp[go_sem];refine zab hs ?_;simp[go_sem];refine MR.gseq ?_;simp[go_sem,zdr,hst,hl0];refine zab vx ?_;simp[go_sem];refine zab vy ?_;simp[go_sem];refine MR.weak (Weak.to [1,2,3,6,9] [((3,0),3),((6,0),6)] ?_) hmain;simp[go_sem,w1S,mkSt,z8,hst]
theorem zz6{t:GTrans}{n:Nat}(hn:n<=90)(hn1:3<=n)(h:t.sm n)(hl:t.arcs.length<=19)(ok:t.ok):∃ s:List Int,(((s.length:Int)<t.nf.st) ↔ emC t=true)/\Sp P F.di [enc t.nf] (.pure (.sl (ens s))):=by
 have hst:t.nf.st=(t.st.toNat:Nat):=by have:=ok.st1;show t.st=_;omega
 have hal:=zku t;obtain⟨s,hk,hs⟩:=zjh t.nf t.st.toNat hst (by have:=ok.st2;omega) (by omega) (zgr ok);have hsp:=(zn3 (t:=t.nf) (zgr ok) hk).1;refine⟨s.2,?_,hs⟩;have:((s.2.length:Int)<t.nf.st) ↔ s.2.length<t.nf.st.toNat:=by have:=ok.st1;rw[hst];show _ ↔ s.2.length<t.st.toNat;omega
 rw[this,hsp];rfl
theorem zu3(t:GTrans){n:Nat}(hn:n<=90)(hn1:3<=n)(h:t.sm n)(hl:t.arcs.length<=19)(ok:t.ok)(wx wy:List Int)(hc:emC t=true) :
  Sp P F.ap [enc t,.sl (ens wx),.sl (ens wy)] (.pure (.tup [enc gw0,.int .i64 10])):=by
 have kn:=zks t n hn hn1 h hl (by have:=ok.il;have:=ok.st2;omega) (by have:=ok.fl;have:=ok.st2;omega);rw[ym0 ok,ym0 ok]at kn;obtain⟨s,hk,hs⟩:=zz6 hn hn1 h hl ok;have hlt:=hk.2 hc;generalize t.nf=u at *
 refine Sp.vz c.ap fun _=>?_;rw[yao];unfold z61 ybk ybl wtA4 wtA3 wtA2;generalize zzm=W13 at *
 generalize wtA1=W1 at *
 simp[go_sem];refine zab kn ?_;simp[go_sem];refine zab hs ?_;simp[go_sem,hlt,gw0,gr0]
end Go.Ab
