/-
Proofs for the law CountIsFinite, part 35. Conditions: none.
-/
import Derived.Test.YtdkocfjbmbenfaaGreatDoorDP34
import Derived.Test.YtdkocfjbmbenfaaGreatDoorDP27
set_option maxRecDepth 100000
set_option maxHeartbeats 4000000
set_option linter.all false
namespace Go.Ab
section
variable {α : Type} {key : α -> List Int} {wt : α -> GW} {r:GRing} {up : α -> α -> α} (hr:r.ok=true) (hk:∀ z y,key (up z y)=key z) (hw:∀ z y,wt (up z y)=r.plus (wt z) (wt y))
def atK (key : α -> List Int) (wt : α -> GW) (r:GRing) (l:List α) (k:List Int):GW:=atQ key wt r l fun x=>decide (x=k)
theorem zr4 {L:List α} {k:List Int} (h:∀ x∈L,key x≠k):atK key wt r L k=r.zero:=by
 unfold atK atQ
 rw [List.filter_eq_nil_iff.2 fun x hx=>by simpa using h x hx]; rfl
theorem zr5 {L:List α} (s:SSrt key L) (c:∀ x∈L,(wt x).chk r) {x : α} (hx:x∈L):atK key wt r L (key x)=wt x:=by
 induction L with
 | nil=>cases hx
 | cons z t ih =>
  have s':=List.pairwise_cons.1 s
  unfold atK
  rw [zcu]
  simp only [decide_eq_true_eq]
  rcases List.mem_cons.1 hx with rfl|hx'
  ·rw [if_pos rfl,show atQ key wt r t (fun a=>decide (a=key x))=r.zero from zr4 (wt:=wt) (r:=r) fun y hy h=>by have:=s'.1 y hy; rw [h] at this; exact List.lt_irrefl _ this]
   exact zc9 (c x (by simp))
  ·have hne:¬ key z=key x:=fun h=>by have:=s'.1 x hx'; rw [h] at this; exact List.lt_irrefl _ this
   rw [if_neg hne]
   exact ih s'.2 (fun y hy=>c y (by simp [hy])) hx'
theorem zwm:∀ {L L':List α},SSrt key L->SSrt key L'->(∀ x,x∈L ↔ x∈L')->L=L'
 | [],[],_,_,_=>rfl
 | [],y::t,_,_,h=>by have:=(h y).2 (by simp); cases this
 | x::t,[],_,_,h=>by have:=(h x).1 (by simp); cases this
 | x::t,y::t',s,s',h=>by
  have p:=List.pairwise_cons.1 s
  have p':=List.pairwise_cons.1 s'
  have exy:x=y:=by
   rcases List.mem_cons.1 ((h x).1 (by simp)) with e|hx
   ·exact e
   ·rcases List.mem_cons.1 ((h y).2 (by simp)) with e|hy
    ·exact e.symm
    ·exact absurd (p'.1 x hx) (List.lt_asymm (p.1 y hy))
  subst exy
  congr 1
  refine zwm p.2 p'.2 fun z=>⟨fun hz=>?_,fun hz=>?_⟩
  ·rcases List.mem_cons.1 ((h z).1 (by simp [hz])) with e|h1
   ·have:=p.1 z hz; rw [e] at this; exact absurd this (List.lt_irrefl _)
   ·exact h1
  ·rcases List.mem_cons.1 ((h z).2 (by simp [hz])) with e|h1
   ·have:=p'.1 z hz; rw [e] at this; exact absurd this (List.lt_irrefl _)
   ·exact h1
theorem z1w (ext:∀ x y,key x=key y->wt x=wt y->x=y) {L L':List α} (s:SSrt key L) (s':SSrt key L') (c:∀ x∈L,(wt x).chk r) (c':∀ x∈L',(wt x).chk r) (n:∀ x∈L,wt x≠r.zero) (n':∀ x∈L',wt x≠r.zero) (h:∀ k,atK key wt r L k=atK key wt r L' k):L=L':=by
 have one:∀ {L L':List α},SSrt key L->SSrt key L'->(∀ x∈L,(wt x).chk r)->(∀ x∈L',(wt x).chk r)->(∀ x∈L,wt x≠r.zero)->(∀ k,atK key wt r L k=atK key wt r L' k)->∀ x∈L,x∈L':=by
  intro L L' s s' c c' n h x hx
  have h1:=h (key x)
  rw [zr5 s c hx] at h1
  by_cases he:∃ y∈L',key y=key x
  ·obtain ⟨y,hy,e⟩:=he
   have h2:=zr5 s' c' hy
   rw [e,<- h1] at h2
   rw [ext x y e.symm h2]; exact hy
  ·rw [zr4 (wt:=wt) (r:=r) fun y hy e=>he ⟨y,hy,e⟩] at h1
   exact absurd h1 (n x hx)
 exact zwm s s' fun x=>⟨one s s' c c' n h x,one s' s c' c n' (fun k=>(h k).symm) x⟩
include hr in
theorem zvp {l:List α} (h:∀ x∈l,(wt x).chk r) (p:List Int->Bool):atQ key wt r (l.filter fun x => !decide (wt x=r.zero)) p=atQ key wt r l p:=by
 induction l with
 | nil=>rfl
 | cons x l ih =>
  have ih':=ih fun y hy=>h y (by simp [hy])
  by_cases hz:wt x=r.zero
  ·rw [List.filter_cons_of_neg (by simp [hz]),ih',zcu]
   split
   ·rw [hz,zjy hr (zr3 hr (fun y hy=>h y (by simp [hy])) p)]
   ·rfl
  ·rw [List.filter_cons_of_pos (by simp [hz]),zcu,zcu,ih']
noncomputable def tid (key : α -> List Int) (wt : α -> GW) (r:GRing) (up : α -> α -> α) (l:List α):List α := (mrg key up id (srt key l)).filter fun x => !decide (wt x=r.zero)
include hr hk hw in
theorem zsh {l:List α} (h:∀ x∈l,(wt x).chk r):SSrt key (tid key wt r up l)/\(∀ x∈tid key wt r up l,(wt x).chk r/\wt x≠r.zero)/\∀ p,atQ key wt r (tid key wt r up l) p=atQ key wt r l p:=by
 have hm:=(z4p (key:=key) (up:=up) (nw:=id) hk (fun _=>rfl) l)
 have hs:=(zgp (key:=key) (up:=up) (nw:=id) hk (fun _=>rfl) _ (srt key l) rfl hm.2).1
 have hn:=fun p=>zzw (key:=key) (up:=up) hr hk hw h p l.length (Nat.le_refl _)
 rw [List.take_length] at hn
 have e:mrg key up id (srt key l)=nfm key up id l:=hm.1
 unfold tid
 refine ⟨List.Pairwise.filter _ hs,fun x hx=>?_,fun p=>?_⟩
 ·have:=List.mem_filter.1 hx
  rw [e] at this
  exact ⟨(hn fun _=>true).1 x this.1,by simpa using this.2⟩
 ·rw [e,zvp hr (hn p).1,(hn p).2]
end
theorem znf (r:GRing) (l:List GArc):tidA r l=tid GArc.key GArc.w r (upA r) l:=rfl
end Go.Ab
namespace Go.Ab
open Enc (enc)
end Go.Ab
namespace Go.Ab
open Enc (enc)
end Go.Ab
namespace Go.Ab
open Enc (enc)
attribute [local go_sem] zal Opd.slots
section
variable {α : Type} {key : α -> List Int} {up : α -> α -> α} {nw : α -> α}
end
end Go.Ab
namespace Go.Ab
open Enc (enc)
attribute [local go_sem] zal Opd.slots
noncomputable instance:DecidableEq GArc:=fun _ _=>Classical.propDecidable _
noncomputable instance:DecidableEq GTArc:=fun _ _=>Classical.propDecidable _
noncomputable instance:DecidableEq GAuto:=fun _ _=>Classical.propDecidable _
noncomputable instance:DecidableEq GTrans:=fun _ _=>Classical.propDecidable _
theorem z5y {x y:GArc}:x=y ↔ x.key=y.key/\x.w=y.w:=by
 cases x; cases y; simp [GArc.key,and_assoc]
end Go.Ab
namespace Go.Ab
open Enc (enc)
attribute [local go_sem] zal Opd.slots
end Go.Ab
namespace Go.Ab
open Enc (enc)
attribute [local go_sem] zal Opd.slots
end Go.Ab
namespace Go.Ab
open Enc (enc)
attribute [local go_sem] zal Opd.slots
end Go.Ab
namespace Go.Ab
open Enc (enc)
attribute [local go_sem] zal Opd.slots
end Go.Ab
namespace Go.Ab
open Enc (enc)
attribute [local go_sem] zal Opd.slots
end Go.Ab
namespace Go.Ab
section
variable {α : Type} {key : α -> List Int} {wt : α -> GW} {r:GRing} {up : α -> α -> α}
theorem zqw (hr:r.ok=true) (hk:∀ z y,key (up z y)=key z) (hw:∀ z y,wt (up z y)=r.plus (wt z) (wt y)) {l:List α} (h:∀ x∈l,(wt x).chk r) {x : α} (hx:x∈tid key wt r up l):∃ y∈l,key y=key x:=by
 obtain ⟨s,c,e⟩:=zsh (up:=up) hr hk hw h
 by_cases hn:∃ y∈l,key y=key x
 ·exact hn
 ·have h1:=zr5 s (fun y hy=>(c y hy).1) hx
  unfold atK at h1
  rw [e] at h1
  have h2:atK key wt r l (key x)=r.zero:=zr4 fun y hy e=>hn ⟨y,hy,e⟩
  exact absurd (h1.symm.trans h2) (c x hx).2
theorem zwa (hk:∀ z y,key (up z y)=key z) (l:List α):(tid key wt r up l).length<=l.length:=by
 unfold tid
 refine Nat.le_trans (List.length_filter_le _ _) ?_
 have h:=(zre (key:=key) (up:=up) (nw:=id) (Q:=fun _ _=>True) (l:=srt key l) (fun _ _ _=>trivial) (fun _ _=>trivial) (fun _ _ _ _ _=>trivial) (fun _ _ _=>trivial) _ (Nat.le_refl _)).1
 rw [List.take_length,(zc7 l).2.1] at h
 exact h
end
theorem zhm {r:GRing} (hr:r.ok=true) {l:List GArc} (h:∀ x∈l,x.w.chk r):SSrt GArc.key (tid GArc.key GArc.w r (upA r) l)/\(∀ x∈tid GArc.key GArc.w r (upA r) l,x.w.chk r/\x.w≠r.zero)/\∀ p,atQ GArc.key GArc.w r (tid GArc.key GArc.w r (upA r) l) p=atQ GArc.key GArc.w r l p:=zsh (key:=GArc.key) (wt:=GArc.w) (up:=upA r) hr (fun _ _=>rfl) (fun _ _=>rfl) h
theorem zpr {a:GAuto} (ok:a.ok):a.nf.ok:=by
 have hc:∀ x∈a.arcs,x.w.chk a.ring:=fun x hx=>(ok.arcs x hx).2.2.2.2.2.2
 refine ⟨ok.ring,ok.sy1,ok.sy2,ok.st1,ok.st2,ok.il,ok.fl,Nat.le_trans (zwa (key:=GArc.key) (wt:=GArc.w) (r:=a.ring) (up:=upA a.ring) (fun _ _=>rfl) a.arcs) ok.al,fun x hx=>?_,ok.ini,ok.fin⟩
 have hx':x∈tid GArc.key GArc.w a.ring (upA a.ring) a.arcs:=hx
 obtain ⟨y,hy,e⟩:=zqw (key:=GArc.key) (wt:=GArc.w) (up:=upA a.ring) ok.ring (fun _ _=>rfl) (fun _ _=>rfl) hc hx'
 obtain ⟨a1,a2,a3,a4,a5,a6,_⟩:=ok.arcs y hy
 simp only [GArc.key,List.cons.injEq,and_true] at e
 obtain ⟨e1,e2,e3⟩:=e
 exact ⟨e1 ▸ a1,e1 ▸ a2,e3 ▸ a3,e3 ▸ a4,e2 ▸ a5,e2 ▸ a6,((zhm ok.ring hc).2.1 x hx').1⟩
end Go.Ab
namespace Go.Ab
open Enc (enc)
def zao (a:GAuto):GView:=⟨a,fstA a.arcs a.st.toNat⟩
def z3d:GView:=⟨ztn,[]⟩
theorem z4c (l:List GArc) (N:Nat):mp (N+1) (pfx l N)=fstA l N:=by
 unfold fstA mp
 refine List.map_congr_left fun q hq=>?_
 have:=List.mem_range.1 hq
 simp only [pfx]; rw [if_pos (by omega)]
theorem z4d (l:List GArc) (N:Nat) (h:∀ x∈l,0<=x.f):mp (N+1) (fun q=>((ctA (l.take l.length) q:Nat):Int))=mp (N+1) (pfx l 0):=by
 apply zco
 intro q _
 rw [List.take_length]
 unfold pfx
 split
 ·have hq:q=0:=by omega
  subst hq
  congr 1
  unfold ctA ltA
  congr 1
  apply List.filter_congr
  intro x hx
  have:=h x hx
  rw [decide_eq_decide]; omega
 ·rfl
theorem zyi {a:GAuto} (ok:a.ok):a.nf.inN a.st.toNat:=by
 have k:=zpr ok
 have h1:a.nf.st=a.st:=rfl
 have h2:=ok.st1
 refine ⟨by rw [h1]; omega,fun x hx=>?_⟩
 have:=k.arcs x hx
 rw [show (a.st.toNat:Int)=a.nf.st by rw [h1]; omega]
 exact ⟨this.1,this.2.1⟩
theorem zsi (r:GRing) (l:List GArc):(tidA r l).length<=l.length:=by
 rw [znf]; exact zwa (key:=GArc.key) (wt:=GArc.w) (r:=r) (up:=upA r) (fun _ _=>rfl) l
theorem z3l (a:GAuto) (n:Nat) (hn:n<=90) (hn1:3<=n) (h:a.sm n) (hl:a.arcs.length<=19) :
  Sp P F.gr [enc a] (.pure (.tup [enc (if a.vb then zao a.nf else z3d),.int .i64 (if a.vb then 0 else 4)])):=by
 refine Sp.vz c.gr fun _=>?_
 simp [g.gr,go_sem]
 refine zaf (zus a n hn hn1 h hl) ?_
 cases hv:a.vb
 ·simp [go_sem,ztn,z3d]
 have ok:=GAuto.vb_iff.1 hv
 have hN:=zyi ok
 have i3:=ok.st2
 have hl2:a.nf.arcs.length<=19:=Nat.le_trans (zsi a.ring a.arcs) hl
 have i5:a.st.toNat<=64:=by omega
 simp only [if_true]
 generalize a.nf=A at *
 generalize a.st.toNat=N at *
 have e0:=hN.st
 have e1:=i64s N (by omega)
 have hb:=z4d A.arcs N fun x hx=>(hN.f x hx).1
 simp [go_sem,e0,e1]
 refine ⟨by omega,?_⟩
 refine z3o hN (by omega) (by omega) (Weak.to [2,4,6,26,27,28] [((2,0),2),((4,0),4),((6,0),6),((23,0),23)] ?_) ?_
 ·have:avs (mp (N+1) fun q=>((ctA [] q:Nat):Int))=List.replicate (N+1) (.p (.int .i64 0)):=by
   have:(fun q=>((ctA [] q:Nat):Int))=fun _=>0:=by funext q; simp [ctA]
   rw [this,zjr,zfq]; rfl
  simp [v1S,mkSt,go_sem,zjh,z8v,e0,this]
 ·simp [v1S,mkSt,go_sem,zjh,z8v,e0]
  refine z3n (a:=A) (N:=N) (by omega) (by omega) (Weak.to [2,6,43,44] [((2,0),2),((6,0),6),((23,0),23)] ?_) ?_
  ·rw [List.take_length] at hb
   simp [v2S,mkSt,go_sem,zjh,z8v,e0,hb]
  ·rw [v2S,z4c]
   have hlen:(fstA A.arcs N).length=N+1:=by simp [fstA]
   have htk:(fstA A.arcs N).take (N+1)=fstA A.arcs N:=by rw [<- hlen,List.take_length]
   simp [mkSt,go_sem,zjh,z8v,e0,zao,hlen,htk]
theorem zm9 (A:GAuto) (N q:Nat) (h:A.inN N) (hs:FS A.arcs) (hq:q<N) (hN:N<=1000) (hl:A.arcs.length<=100000):Sp P F.cq [enc (zao A),.int .i64 q] (.pure (.sl (ens (zas A.arcs q)))):=by
 refine Sp.vz c.cq fun _=>?_
 have e0:=h.st
 have e1:=i64s q (by omega)
 have hf:(zao A).first=mp (N+1) fun q=>((ltA A.arcs q:Nat):Int):=by
  have:A.st.toNat=N:=by omega
  simp [zao,fstA,mp,this]
 have hfa:(zao A).a=A:=rfl
 have l1:q<(mp (N+1) fun q=>((ltA A.arcs q:Nat):Int)).length:=by rw [zbu]; omega
 have l2:q+1<(mp (N+1) fun q=>((ltA A.arcs q:Nat):Int)).length:=by rw [zbu]; omega
 have h1:=zn2 A.arcs q
 have h2:=z28 A.arcs (q+1)
 have h3:=zu5 q hs
 simp [g.cq,go_sem,hf,hfa,e1]
 refine zae l1 ?_
 simp only [ze0]
 refine zae l2 ?_
 simp only [ze0]
 refine ⟨by omega,⟨by omega,by omega,by omega,by omega⟩,?_⟩
 simp only [Int.toNat_natCast]
 rw [h3]
end Go.Ab
namespace Go.Ab
open Enc (enc)
noncomputable def begC (a:GAuto) (k:Nat):Nat:=((a.ini.take k).filter fun w=>decide (w≠a.ring.zero)).length
theorem zlq (a:GAuto) {k:Nat} (h:k<a.ini.length):begC a (k+1)=if a.ini[k]≠a.ring.zero then begC a k+1 else begC a k:=by
 unfold begC
 rw [List.take_succ_eq_append_getElem h,List.filter_append,List.length_append,List.filter_cons]
 by_cases hx:a.ini[k]=a.ring.zero<;>simp [hx]
theorem zzu (a:GAuto) (k:Nat):begC a k<=k:=by
 unfold begC
 exact Nat.le_trans (List.length_filter_le _ _) (by rw [List.length_take]; omega)
def twin (l:List GArc) (k:Nat):Prop:=∃ (h:k<l.length) (h0:0<k),l[k].f=(l[k - 1]'(by omega)).f/\l[k].l=(l[k - 1]'(by omega)).l
def zr6 (l:List GArc):Prop:=∀ k,¬ twin l k
open Classical in
theorem z2c (A:GAuto) (N:Nat) (h:A.inN N) (hi:A.ini.length=N) (hsm:∀ w∈A.ini,w.sm 1048576) (hN:N<=1000) (hl:A.arcs.length<=100000):Sp P F.gw [enc (zao A)] (.pure (.bool (decide (zr6 A.arcs/\begC A N<=1)))):=by
 refine Sp.vz c.gw fun _=>?_
 generalize hres:decide (zr6 A.arcs/\begC A N<=1)=res
 have e0:=h.st
 simp [g.gw,go_sem]
 refine zai (S:=fun k:Nat=>mkSt [(1,.ptr 1 0 0 0),(3,.p (.int .i64 (begC A k))),(8,.p (.int .i64 N)),(9,.p (.int .i64 k))] [(1,⟨8,[.p (enc (zao A))]⟩)]) (I:=fun k=>k<=N) (m:=fun k=>N - k) 0
  (Weak.to [1,3,8,9] [((1,0),1)] (by simp [mkSt,go_sem,begC,zao,e0])) (by omega) ?_
 rintro k hk R hn' hr' hx
 have e1:=i64s k (by omega)
 have e2:IntKind.i64.wrap ((begC A k:Int)+1)=((begC A k+1:Nat):Int):=i64w (by have:=zzu A k; omega) (by have:=zzu A k; omega)
 simp [g.nn,mkSt,go_sem]
 refine ⟨fun hk2=>?_,fun hk2=>hx _ _ ?_⟩
 ·have hki:k<(zao A).a.ini.length:=by show k<A.ini.length; omega
  refine zaf (zlp (zao A) k hki hsm) ?_
  have hs:=zlq A (show k<A.ini.length by omega)
  have hz:(zao A).a.ini[k]=A.ini[k]'(by omega):=rfl
  by_cases hb:A.ini[k]'(by omega)=A.ring.zero
  ·rw [if_neg (by simpa using hb)] at hs
   have hb':(zao A).a.ini[k]=(zao A).a.ring.zero:=hb
   simp [go_sem,hb',e1]
   exact hn' (k+1) _ (Weak.to [1,3,8,9] [((1,0),1)] (by simp [mkSt,go_sem,hs])) (by omega) (by omega)
  ·rw [if_pos (by simpa using hb)] at hs
   have hb':¬ (zao A).a.ini[k]=(zao A).a.ring.zero:=hb
   simp [go_sem,hb',e1,e2]
   exact hn' (k+1) _ (Weak.to [1,3,8,9] [((1,0),1)] (by simp [mkSt,go_sem,hs])) (by omega) (by omega)
 have hkN:k=N:=by omega
 subst hkN
 simp [go_sem]
 refine zai (S:=fun j:Nat=>mkSt [(1,.ptr 1 0 0 0),(3,.p (.int .i64 (begC A k))),(5,.p (.int .i64 j))] [(1,⟨8,[.p (enc (zao A))]⟩)]) (I:=fun j=>(j<=A.arcs.length\/j=1)/\1<=j/\∀ i,i<j->¬ twin A.arcs i) (m:=fun j=>A.arcs.length - j) 1
  (Weak.to [1,3,5] [((1,0),1)] (by simp [mkSt,go_sem])) ⟨by omega,by omega,fun i hi=>by rintro ⟨_,h2,_⟩; omega⟩ ?_
 rintro j ⟨hj1,hj2,hj3⟩ R2 hn2 hr2 hx2
 have e4:=i64s j (by omega)
 have e5:IntKind.i64.wrap ((j:Int) - 1)=((j - 1:Nat):Int):=by rw [i64w (by omega) (by omega)]; omega
 have hva:(zao A).a.arcs=A.arcs:=rfl
 simp [g.nq,mkSt,go_sem,hva]
 refine ⟨fun hlt=>?_,fun hge=>hx2 _ _ ?_⟩
 ·have hj0:j - 1<A.arcs.length:=by omega
  refine zae hlt ?_
  rw [e5]
  simp only [Int.toNat_natCast]
  refine zae hj0 ⟨by omega,fun hf=>?_,fun hf=>?_⟩
  ·refine zae hlt (zae hj0 ⟨by omega,fun hl2=>hr2 _ ?_,fun hl2=>?_⟩)
   ·have:¬ zr6 A.arcs:=fun hc=>hc j ⟨hlt,by omega,hf,hl2⟩
    simp [go_sem,<- hres,this]
   ·simp only [e4]
    exact hn2 (j+1) _ (Weak.to [1,3,5] [((1,0),1)] (by simp [mkSt,go_sem,hva])) ⟨by omega,by omega,fun i hi2=>by
     by_cases hij:i=j
     ·subst hij; rintro ⟨_,_,_,h4⟩; exact hl2 h4
     ·exact hj3 i (by omega)⟩ (by omega)
  ·simp only [e4]
   exact hn2 (j+1) _ (Weak.to [1,3,5] [((1,0),1)] (by simp [mkSt,go_sem,hva])) ⟨by omega,by omega,fun i hi2=>by
     by_cases hij:i=j
     ·subst hij; rintro ⟨_,_,h3,_⟩; exact hf h3
     ·exact hj3 i (by omega)⟩ (by omega)
 ·have hadj:zr6 A.arcs:=fun i hi=>by
   have hlt:=hi.1
   exact hj3 i (by omega) hi
  simp [go_sem,<- hres,hadj]
  omega
end Go.Ab
namespace Go.Ab
structure PinP where
 p:Cz->St->Prop
 m:∀ Z st Z' st',PinLe Z st Z' st'->p Z st->p Z' st'
theorem zes.later {o:Option MapD} {K:Ctx} {Z Z':Cz} {st st':St} {w w':World} (hl:Later Z st w Z' st' w') (h:zes o K Z st w):zes o K Z' st' w':=by
 cases o with
 | none=>trivial
 | some m =>
  obtain ⟨h1,h2,es,clock,h3,h4,h5,h6⟩:=h
  obtain ⟨k1,k2⟩:=hl.f _ h1
  exact ⟨k1,h2,es,clock,by rw [k2]; exact h3,h4.mono hl.M,h5.mono hl.M,h6⟩
def hFA (q:PinP) (o:Option MapD):FA:=⟨0,fun _ _=>True,fun _ _ _ _ h=>h,false,true,fun K Z st w=>q.p Z st/\zes o K Z st w,fun _ _ _ _ _ _ _ hl h=>⟨q.m _ _ _ _ hl.pin h.1,zes.later hl h.2⟩⟩
structure AOk (o o':Option MapD) (A A':Option FA):Prop where
 get:∀ K Z st w,zec A K Z st w->zes o K Z st w
 put:∀ K Z st w Z' st' w',zec A K Z st w->LaterX (isR o) Z st w Z' st' w'->zes o' K Z' st' w'->zec A' K Z' st' w'
section
variable {P:Program} {K:Ctx} {Z Z' Z2:Cz} {st st' st1 st2:St} {w w':World} {a:Act} {N:Nat} {A B:Option FA} {Post:Exit->St->Option FA->Prop} {PostI:St->Option FA->Prop} {ks:List Nat} {v:AV}
def zbi:Nat->List AV->List (Nat × AV)
 | _,[]=>[]
 | i,v::r=>(i,v)::zbi (i+1) r
theorem zmt:∀ (args:List AV) (i t:Nat),look (zbi i args) t AV.undef=if t<i then .undef else (args[t - i]?).getD .undef
 | [],i,t=>by simp [zbi,look]
 | v::r,i,t=>by
  simp only [zbi,look]
  split
  ·rename_i h; subst h; simp
  ·rename_i h
   rw [zmt r (i+1) t]
   by_cases h1:t<i
   ·rw [if_pos (by omega),if_pos h1]
   ·rw [if_neg (by omega),if_neg h1]
    have:t - i=(t - (i+1))+1:=by omega
    rw [this]; rfl
def retH (rs:List (Nat × Option Nat)) (v:AV) (hp':List Site) (ex:Exit) (s:St):Prop :=
 (ex=.ret\/ex=.normal)/\∃ s1,Weak s s1/\∃ us,zbc s1 rs=some us/\resOf us=v/\zbb s1 hp' hp'
def resG (hp hp':List Site) (s1:St):HV->AV->Prop
 | .av v,u=>u=v
 | .fr sz es,u=>hp'=hp/\((u=.nil/\es=[])\/∃ s g,(hp.map (·.1)).contains s=false/\u=.own s g 0 es.length/\s1.obj s g=some ⟨sz,es.map .p⟩)
 | .bx sz e us,u=>hp'=hp/\∃ s g,(hp.map (·.1)).contains s=false/\u=.tup (.ptr s g 0 0::us.map .p)/\s1.obj s g=some ⟨sz,[e]⟩
def retG (rs:List (Nat × Option Nat)) (hp:List Site) (res:HV) (hp':List Site) (ex:Exit) (s:St):Prop :=
 (ex=.ret\/ex=.normal)/\∃ s1,Weak s s1/\∃ us,zbc s1 rs=some us/\resG hp hp' s1 res (resOf us)/\zbb s1 hp' hp'
theorem HSpG.of_mr {f:FuncId} {vs:List AV} {hp hp':List Site} {o0 o0':Option MapD} {res:HV} {n np:Nat} {b:GC} {rs:List (Nat × Option Nat)} (hc:zac P f=some ⟨n,np,b.er,rs⟩) (hn:vs.length<=n) (hoo:o0'.map (·.1)=o0.map (·.1))
  (hpin:hp.all (fun q=>decide (PINB<=q.1)&&decide (q.1<999999))=true) (hks:hp'.map (·.1)=hp.map (·.1)) (hr:(zeo (hp.map (·.1)) res&&hpOk (hp.map (·.1)) hp')=true)
  (h:∀ q:PinP,MR P n b.er ⟨zbi 0 vs,hp⟩ (some (hFA q o0)) fun ex s B=>B=some (hFA q o0')/\retG rs hp res hp' ex s):HSpG P f vs hp o0 res hp' o0':=by
 unfold zac at hc
 split at hc
 ·rename_i fn hf
  split at hc
  ·rename_i hname
   split at hc
   ·rename_i c hb
    split at hc
    ·rename_i bd rs' h1 h2
     simp only [Option.some.injEq,FnC.mk.injEq] at hc
     obtain ⟨rfl,_,rfl,rfl⟩:=hc
     refine ⟨⟨fn,hf,by rw [hb]; rfl,hname⟩,fun Z w vals hH hmi hv=>?_⟩
     refine calls_of_wp hf hb ?_
     have hl:=hv.length
     have hsi:∀ s,(⟨zbi 0 vs,hp⟩:St).site s=(⟨[],hp⟩:St).site s:=fun _=>rfl
     have h0:StRep ⟨w,Z.M,fun b=>ownB Z ⟨[],hp⟩ b\/isR o0 b,fn.ntmps⟩ Z ⟨zbi 0 vs,hp⟩ w { tmps:=vals.toArray++Array.replicate (fn.ntmps - vals.toArray.size) Go.undef,defers:=[] }:=by
      refine ⟨fun t=>?_,rfl,by simp; omega,HRep.of_site ⟨hH.objs,hH.inj,hH.mem,hH.sep,hH.own,hH.m0,hH.prov,hH.keep⟩ hsi⟩
      have hget:(⟨zbi 0 vs,hp⟩:St).get t=(vs[t]?).getD .undef:=by
       have:=zmt vs 0 t
       simpa [St.get] using this
      rw [hget]
      cases hx:vs[t]? with
      | none=>exact .undef _
      | some u =>
       obtain ⟨x,g1,g2⟩:=hv.get t u hx
       have hlt:=(List.getElem?_eq_some_iff.1 g1).1
       have:(vals.toArray++Array.replicate (fn.ntmps - vals.toArray.size) Go.undef).getD t Go.undef=x:=by
        simp [Array.getElem?_append,hlt]
        have:=(List.getElem?_eq_some_iff.1 g1).2
        simpa using this
       rw [this]
       exact ARep.mono (zbf hsi Z) g2
     let q:PinP:=⟨fun Z' st'=>PinLe Z ⟨zbi 0 vs,hp⟩ Z' st',fun _ _ _ _ h k=>k.trans h⟩
     have hmi0:zes o0 ⟨w,Z.M,fun b=>ownB Z ⟨[],hp⟩ b\/isR o0 b,fn.ntmps⟩ Z ⟨zbi 0 vs,hp⟩ w:=by
      cases o0 with
      | none=>trivial
      | some m=>exact ⟨⟨hmi.1.m,fun s g o a1=>hmi.1.o s g o a1,hmi.1.lt⟩,hmi.2⟩
     refine h q _ h1 _ _ w _ _ rfl h0 ⟨PinLe.refl _ _,hmi0⟩ (fun ex st' A' Z' w' a' hp1 hs1 hA1=>?_)
     obtain ⟨rfl,hex,s1,hw,us,hus,hv1,hsite1⟩:=hp1
     obtain ⟨Z1,hs2,hl2⟩:=hw.frame hs1
     have hpl:PinLe Z ⟨zbi 0 vs,hp⟩ Z1 s1:=PinLe.trans hA1.1 hl2.pin
     have hmi1:=zes.later hl2 hA1.2
     simp only [Bool.and_eq_true] at hr
     have hsite:∀ s,(hp.map (·.1)).contains s=true->s1.site s=(⟨[],hp'⟩:St).site s:=fun s hs=>by
      rw [<- hks] at hs
      obtain ⟨q,hq,rfl⟩:=List.mem_map.1 (List.contains_iff_mem.1 hs)
      exact zlr hsite1 q hq
     have hpn:∀ s,(hp.map (·.1)).contains s=true->PINB<=s/\s<999999:=fun s hs=>by
      obtain ⟨q,hq,rfl⟩:=List.mem_map.1 (List.contains_iff_mem.1 hs)
      have:=List.all_eq_true.1 hpin q hq
      simpa using this
     have e0:∀ s,(hp.map (·.1)).contains s=false->(⟨[],hp⟩:St).site s=[]:=fun s h=>zf9 h
     have e1:∀ s,(hp.map (·.1)).contains s=false->(⟨[],hp'⟩:St).site s=[]:=fun s h=>zf9 (by rw [hks]; exact h)
     have hz:ZLe Z ⟨[],hp⟩ Z1 ⟨[],hp'⟩:=by
      refine ⟨fun b o hb=>hs2.heap.m0 b o hb,fun s=>?_,fun s g hg hd=>?_,fun s g o ho=>?_⟩<;>cases hc:(hp.map (·.1)).contains s
      ·rw [e0 s hc]; exact Nat.zero_le _
      ·rw [<- hsite s hc]; exact hpl.len s (hpn s hc).1 (hpn s hc).2
      ·rw [e0 s hc] at hg; simp at hg
      ·rw [zad (hsite s hc).symm]; exact hpl.dead s g (hpn s hc).1 (hpn s hc).2 hg hd
      ·simp [St.obj,e0 s hc] at ho
      ·rw [zad (hsite s hc).symm]; exact hpl.live s g o (hpn s hc).1 (hpn s hc).2 ho
     have hH2:HRep (ctxH Z hp o0 w) Z1 ⟨[],hp'⟩ w'/\zes o0' (ctxH Z hp o0 w) Z1 ⟨[],hp'⟩ w':=by
      have k0:∀ {s g o},(⟨[],hp'⟩:St).obj s g=some o->(hp.map (·.1)).contains s=true:=fun {s g o} ho=>by
       cases h:(hp.map (·.1)).contains s with
       | true=>rfl
       | false=>simp [St.obj,e1 s h] at ho
      have o0:∀ {s g o},(⟨[],hp'⟩:St).obj s g=some o->s1.obj s g=some o:=fun {s g o} ho=>by rw [zad (hsite s (k0 ho))]; exact ho
      have hq:=hs2.heap
      refine ⟨⟨fun s g o ho=>ORep.into (st:=s1) (st2:=⟨[],hp'⟩) (Z2:=Z1) (fun s h=>(hsite s h).symm) (fun _ _ h=>h) (fun _ _ _=>⟨rfl,rfl⟩) (k0 ho) (zog hr.2 ho) (hq.objs s g o (o0 ho)),fun s g s' g' o o' b a1 a2=>hq.inj s g s' g' o o' b (o0 a1) (o0 a2),hq.mem,fun s g o b a1=>hq.sep s g o b (o0 a1),
       fun s g o b a1 b1=>hq.own s g o b (o0 a1) b1,hq.m0,hq.prov,hq.keep⟩,?_⟩
      cases o0' with
      | none=>trivial
      | some m=>exact ⟨⟨hmi1.1.m,fun s g o a1=>hmi1.1.o s g o (o0 a1),hmi1.1.lt⟩,hmi1.2⟩
     have hfin:a'.defers=[]/\∃ u,(results fn a'.tmps).run P w'=.ok u w'/\∃ x Z',Ending.returned u=.returned x/\HRep (ctxH Z hp o0 w) Z' ⟨[],hp'⟩ w'/\HRes res Z' ⟨[],hp'⟩ w w' x/\ZLe Z ⟨[],hp⟩ Z' ⟨[],hp'⟩/\zes o0' (ctxH Z hp o0 w) Z' ⟨[],hp'⟩ w':=by
      obtain ⟨xs,g1,g2⟩:=zif hs2 h2 hus
      have g3:=g2.resOf
      have key:hp'=hp->∀ {s g:Nat} {o:AObj} {b:Nat},(hp'.map (·.1)).contains s=false->s1.obj s g=some o->Z1.B s g=some b->(∀ s2 g2 o2,(⟨[],hp'⟩:St).obj s2 g2=some o2->Z1.B s2 g2≠some b)/\w.heap.size<=b:=by
       rintro rfl s g o b hns hob hb
       have hne:∀ s2 g2 o2,(⟨[],hp'⟩:St).obj s2 g2=some o2->Z1.B s2 g2≠some b:=fun s2 g2 o2 a1 b1=>by
        have hk:(hp'.map (·.1)).contains s2=true:=by
         cases h:(hp'.map (·.1)).contains s2 with
         | true=>rfl
         | false=>simp [St.obj,e0 s2 h] at a1
        obtain ⟨rfl,rfl⟩:=hs2.heap.inj _ _ _ _ _ _ b hob (by rw [zad (hsite s2 hk)]; exact a1) hb b1
        rw [hk] at hns; cases hns
       refine ⟨hne,?_⟩
       rcases hs2.heap.own s g _ b hob hb with (hX|hX)|hX
       ·exfalso
        obtain ⟨s3,g3,o3,c1,c2⟩:=hX
        have hk:(hp'.map (·.1)).contains s3=true:=by
         cases h:(hp'.map (·.1)).contains s3 with
         | true=>rfl
         | false=>simp [St.obj,e0 s3 h] at c1
        have c3:s1.obj s3 g3=some o3:=by rw [zad (hsite s3 hk)]; exact c1
        rcases hpl.live s3 g3 o3 (hpn s3 hk).1 (hpn s3 hk).2 c1 with d1|⟨o4,d1,d2,d3,d4,d5⟩
        ·rw [c3] at d1; cases d1
        ·exact hne s3 g3 o3 c1 (by rw [d4]; exact c2)
       ·exfalso
        cases o0 with
        | none=>exact hX.elim
        | some m =>
         cases o0' with
         | none=>cases hoo
         | some m' =>
          have e:m'.1=m.1:=by simpa using hoo
          have hX:b=m.1:=hX
          rw [hX,<- e] at hb
          exact hmi1.1.o _ _ _ hob hb
       ·exact hX
      have g4:HRes res Z1 ⟨[],hp'⟩ w w' (if h:xs.toArray.size=1 then xs.toArray[0] else .tuple xs.toArray):=by
       generalize (if h:xs.toArray.size=1 then xs.toArray[0] else .tuple xs.toArray)=x at g3
       cases res with
       | av v =>
        have hv1:resOf us=v:=hv1
        rw [hv1] at g3
        exact ARep.into (st:=s1) (st2:=⟨[],hp'⟩) (Z2:=Z1) (fun s h=>(hsite s h).symm) (fun _ _ h=>h) (fun _ _ _=>⟨rfl,rfl⟩) g3 hr.1
       | bx sz e us' =>
        obtain ⟨ehp,s,g,hns,e1,hob⟩:=hv1
        rw [e1] at g3
        have hO:=hs2.heap.objs s g _ hob
        cases g3 with
        | tup _ vals hvs =>
         cases hvs with
         | cons _ x0 _ ys hx0 hys =>
          cases hx0 with
          | ptrD _ _ _ _ _ _ hd=>exact (zax hob hd).elim
          | ptr _ _ _ _ o' b ho' hb =>
           rw [hob] at ho'; cases ho'
           obtain ⟨cur,T,vals,l1,l2,l3,l4,l5,l6⟩:=hO.blk b hb
           obtain ⟨k1,k2⟩:=key ehp (by rw [ehp]; exact hns) hob hb
           simp only [List.flatMap_cons,List.flatMap_nil,List.append_nil] at l2
           refine ⟨b,_,cur,T,vals,ys,by simp,hys.to_p,k2,hs2.heap.sep s g _ b hob hb,l1,?_,l3,l4,⟨by simpa using l5,l6⟩,fun q hq=>?_,k1⟩
           ·simp only [zeo,Bool.and_eq_true] at hr
            exact AReps.into (st:=s1) (st2:=⟨[],hp'⟩) (Z2:=Z1) (fun s h=>(hsite s h).symm) (fun _ _ h=>h) (fun _ _ _=>⟨rfl,rfl⟩) l2 (zg4 hr.1.2)
           ·exact hO.one q (by simpa using hq)
       | fr sz es =>
        obtain ⟨ehp,hv1⟩:=hv1
        rcases hv1 with ⟨e1,rfl⟩|⟨s,g,hns,e1,hob⟩
        ·rw [e1] at g3
         cases g3
         exact ⟨.inl ⟨rfl,rfl⟩,fun b n c h=>by cases h⟩
        ·rw [e1] at g3
         have hO:=hs2.heap.objs s g _ hob
         generalize hL:es.length=L at g3
         cases g3 with
         | own0 _ _ o' ho' hb =>
          have h0:=hO.non hb
          have h0':es=[]:=by simpa using h0
          subst h0'
          exact ⟨.inl ⟨rfl,rfl⟩,fun b n c h=>by cases h⟩
         | ownD _ _ _ _ _ _ _ hd=>exact (zax hob hd).elim
         | own _ _ _ _ o' b ad c ho' hb k1 k2 k3 k4 =>
          rw [hob] at ho'; cases ho'
          subst hL
          obtain ⟨rfl,rfl⟩:=k1 rfl
          obtain ⟨cur,T,vals,l1,l2,l3,l4,l5,l6⟩:=hO.blk b hb
          obtain ⟨hne,hnew⟩:=key ehp (by rw [ehp]; exact hns) hob hb
          refine ⟨.inr ⟨b,_,cur,T,vals,rfl,hnew,hs2.heap.sep s g _ b hob hb,l1,?_,l3,l4,by simpa using l5,l6,fun q hq=>?_⟩,fun b' n c hx=>by cases hx; exact hne⟩
          ·rw [zaj] at l2; exact l2.to_p
          ·have:=hO.one (.p q) (by rw [zaj]; exact List.mem_map.2 ⟨q,hq,rfl⟩)
           exact this
      refine ⟨hs2.defers,_,?_,_,Z1,rfl,hH2.1,g4,hz,hH2.2⟩
      unfold results
      rw [Array.mapM_eq_mapM_toList]
      simp only [Sem.run_bind,map_eq_pure_bind,Sem.run_pure]
      exact congrArg (fun r=>(Result.andThen r fun a w'=>Result.ok a.toArray w').andThen fun (a:Array Value) w'=>Result.ok (if h:a.size=1 then a[0] else Value.tuple a) w') g1
     rcases hex with rfl|rfl
     ·exact hfin
     ·exact hfin
    ·cases hc
   ·cases hc
  ·cases hc
 ·cases hc
theorem HSp.of_mr {f:FuncId} {vs:List AV} {hp hp':List Site} {n np:Nat} {b:GC} {rs:List (Nat × Option Nat)} (hc:zac P f=some ⟨n,np,b.er,rs⟩) (hn:vs.length<=n)
  (hpin:hp.all (fun q=>decide (PINB<=q.1)&&decide (q.1<999999))=true) (hks:hp'.map (·.1)=hp.map (·.1)) (hr:(zbx (hp.map (·.1)) v&&hpOk (hp.map (·.1)) hp')=true)
  (h:∀ A:FA,A.nb=true->MR P n b.er ⟨zbi 0 vs,hp⟩ (some A) fun ex s B=>B=some A/\retH rs v hp' ex s):HSp P f vs hp v hp' :=
 HSpG.of_mr hc hn rfl hpin hks hr fun q=>h (hFA q none) rfl
end
end Go.Ab
namespace Go.Ab
abbrev Sg:=Nat->Nat->Nat × Nat
mutual
def sub (σ : Sg):AV->AV
 | .own s g off len=>.own (σ s g).1 (σ s g).2 off len
 | .ptr s g ix off=>.ptr (σ s g).1 (σ s g).2 ix off
 | .agg cs=>.agg (subL σ cs)
 | .fn f cs=>.fn f (subL σ cs)
 | .tup cs=>.tup (subL σ cs)
 | .p v=>.p v
 | .nil=>.nil
 | .cp v vsz off=>.cp v vsz off
 | .skip=>.skip
 | .undef=>.undef
def subL (σ : Sg):List AV->List AV
 | []=>[]
 | v::r=>sub σ v::subL σ r
end
def subO (σ : Sg) (o:AObj):AObj:=⟨o.sz,subL σ o.es⟩
structure SubOk (st st':St) (σ : Sg):Prop where
 live:∀ s g o,st.obj s g=some o -> σ s g=(DEAD,0)\/st'.obj (σ s g).1 (σ s g).2=some (subO σ o)
 deadn:∀ s g,g<(st.site s).length->st.obj s g=none->(σ s g).2<(st'.site (σ s g).1).length/\st'.obj (σ s g).1 (σ s g).2=none
 inj:∀ s g s' g' o o',st.obj s g=some o->st.obj s' g'=some o' -> σ s g = σ s' g' -> σ s g≠(DEAD,0)->s=s'/\g=g'
 all:∀ s' g' o',st'.obj s' g'=some o'->∃ s g o,st.obj s g=some o /\ σ s g=(s',g')/\o'=subO σ o
 dead:0<(st'.site DEAD).length/\st'.obj DEAD 0=none
section
variable {P:Program} {K:Ctx} {Z Z':Cz} {st st':St} {w:World} {a:Act} {σ : Sg}
theorem zcc:∀ (l:List AV),subL σ l=l.map (sub σ)
 | []=>rfl
 | v::r=>by simp [subL,zcc r]
theorem z7c (v:AV):(sub σ v).sz=v.sz:=by
 cases v<;>simp only [sub]<;>simp [AV.sz,zcc]
theorem zwi (v:AV):(sub σ v).one=v.one:=by
 cases v<;>simp only [sub]<;>simp [AV.one]
theorem zwj (v:AV):(sub σ v).cells=v.cells.map (sub σ):=by
 cases v with
 | agg cs=>simp only [sub,AV.cells,zcc]
 | p v=>?_
 | _=>rfl
 cases v<;>first|rfl|skip
 simp only [sub,AV.cells,List.map_map]
 apply List.map_congr_left; intro x _; rfl
theorem zma (es:List AV):(subL σ es).flatMap AV.cells=(es.flatMap AV.cells).map (sub σ):=by
 induction es with
 | nil=>rfl
 | cons e es ih=>simp only [subL,List.flatMap_cons,List.map_append,ih,zwj]
open Classical in
noncomputable def oldN (st:St) (σ : Sg) (s' g':Nat):Nat × Nat:=if h:∃ i:Nat × Nat,(∃ o,st.obj i.1 i.2=some o) /\ σ i.1 i.2=(s',g') then h.choose else (0,0)
theorem zij (h:SubOk st st' σ) {s g:Nat} {o:AObj} (ho:st.obj s g=some o) (hn : σ s g≠(DEAD,0)):oldN st σ (σ s g).1 (σ s g).2=(s,g):=by
 have hx:∃ i:Nat × Nat,(∃ o,st.obj i.1 i.2=some o) /\ σ i.1 i.2=((σ s g).1,(σ s g).2):=⟨(s,g),⟨o,ho⟩,rfl⟩
 unfold oldN
 rw [dif_pos hx]
 obtain ⟨⟨o',h1⟩,h2⟩:=hx.choose_spec
 have h3 : σ hx.choose.1 hx.choose.2 = σ s g:=h2
 obtain ⟨e1,e2⟩:=h.inj _ _ _ _ _ _ h1 ho h3 (by rw [h3]; exact hn)
 exact Prod.ext e1 e2
noncomputable def Cz.sub (Z:Cz) (st:St) (σ : Sg):Cz where
 M:=Z.M
 B s g:=Z.B (oldN st σ s g).1 (oldN st σ s g).2
 cap s g:=Z.cap (oldN st σ s g).1 (oldN st σ s g).2
mutual
theorem ARep.sub (h:SubOk st st' σ):∀ {v:AV} {x:Value},ARep Z st v x->ARep (Z.sub st σ) st' (Ab.sub σ v) x
 | _,_,.p v x hp=>.p v x hp
 | _,_,.nil=>.nil
 | _,_,.own0 s g o ho hb=>by
  simp only [Ab.sub]
  by_cases hd : σ s g=(DEAD,0)
  ·rw [hd]; exact .ownD _ _ _ _ _ _ h.dead.1 h.dead.2
  ·exact .own0 _ _ _ ((h.live s g o ho).resolve_left hd) (by simp only [Cz.sub,zij h ho hd,hb])
 | _,_,.own s g off len o b ad c ho hb h1 h2 h3 h4=>by
  simp only [Ab.sub]
  by_cases hd : σ s g=(DEAD,0)
  ·rw [hd]; exact .ownD _ _ _ _ _ _ h.dead.1 h.dead.2
  ·exact .own _ _ _ _ _ b ad c ((h.live s g o ho).resolve_left hd) (by simp only [Cz.sub,zij h ho hd,hb]) (by simp only [Cz.sub,zij h ho hd]; exact h1) h2 (by simpa [subO,zcc] using h3) h4
 | _,_,.ownD s g off len ad c hg hdd=>by
  simp only [Ab.sub]
  exact .ownD _ _ _ _ _ _ (h.deadn s g hg hdd).1 (h.deadn s g hg hdd).2
 | _,_,.ptr s g ix off o b ho hb=>by
  simp only [Ab.sub]
  by_cases hd : σ s g=(DEAD,0)
  ·rw [hd]; exact .ptrD _ _ _ _ _ h.dead.1 h.dead.2
  ·exact .ptr _ _ ix off (subO σ o) b ((h.live s g o ho).resolve_left hd) (by simp only [Cz.sub,zij h ho hd,hb])
 | _,_,.ptrD s g ix off ad hg hdd=>by
  simp only [Ab.sub]
  exact .ptrD _ _ _ _ _ (h.deadn s g hg hdd).1 (h.deadn s g hg hdd).2
 | _,_,.cp v vsz off b o cur T fr vals h0 h1 h2 h3 h4 h5=>.cp v vsz off b o cur T fr vals h0 h1 h2 h3 h4 h5
 | _,_,.agg cs vals h1 h2=>by
  simp only [Ab.sub]
  exact .agg _ vals (fun c hc=>by rw [zcc] at hc; obtain ⟨d,hd,rfl⟩:=List.mem_map.1 hc; rw [zwi]; exact h1 d hd) (AReps.sub h h2)
 | _,_,.fn f cs vals h1=>by simp only [Ab.sub]; exact .fn f _ vals (AReps.sub h h1)
 | _,_,.tup vs vals h1=>by simp only [Ab.sub]; exact .tup _ vals (AReps.sub h h1)
 | _,_,.skip=>.skip
 | _,_,.undef x=>.undef x
theorem AReps.sub (h:SubOk st st' σ):∀ {v:List AV} {x:List Value},AReps Z st v x->AReps (Z.sub st σ) st' (subL σ v) x
 | _,_,.nil=>.nil
 | _,_,.cons v x vs xs h1 hs=>.cons _ _ _ _ (ARep.sub h h1) (AReps.sub h hs)
end
theorem HRep.sub (h:HRep K Z st w) (hr:SubOk st st' σ):HRep K (Z.sub st σ) st' w:=by
 have back:∀ {s' g':Nat} {o':AObj},st'.obj s' g'=some o'->∃ s g o,st.obj s g=some o/\o'=subO σ o /\ σ s g=(s',g')/\(Z.sub st σ).B s' g'=Z.B s g/\(Z.sub st σ).cap s' g'=Z.cap s g:=by
  intro s' g' o' ho
  obtain ⟨s,g,o,h1,h2,rfl⟩:=hr.all s' g' o' ho
  have hd : σ s g≠(DEAD,0):=fun e=>by
   rw [h2] at e; cases e
   rw [hr.dead.2] at ho; cases ho
  have:=zij hr h1 hd
  rw [h2] at this
  exact ⟨s,g,o,h1,rfl,h2,by simp only [Cz.sub,this],by simp only [Cz.sub,this]⟩
 refine ⟨fun s' g' o' ho=>?_,fun s g s' g' o o' b ho ho' hb hb'=>?_,h.mem,fun s g o b ho hb=>?_,fun s g o b ho hb=>?_,h.m0,h.prov,h.keep⟩
 ·obtain ⟨s,g,o0,h1,rfl,_,eB,eC⟩:=back ho
  obtain ⟨k1,k2,k3,k4,k5⟩:=h.objs s g o0 h1
  refine ⟨k1,fun e he=>?_,fun c hc=>?_,fun hb=>?_,fun b hb=>?_⟩
  ·simp only [subO,zcc,List.mem_map] at he; obtain ⟨e0,he0,rfl⟩:=he; rw [z7c]; exact k2 e0 he0
  ·simp only [subO,zma,List.mem_map] at hc; obtain ⟨c0,hc0,rfl⟩:=hc; rw [zwi]; exact k3 c0 hc0
  ·rw [eB] at hb; simp [subO,k4 hb,subL]
  ·rw [eB] at hb
   obtain ⟨cur,T,vals,e1,e2,e3,e4,e5,e6⟩:=k5 b hb
   refine ⟨cur,T,vals,e1,?_,e3,by rw [eC]; exact e4,by rw [eC]; simpa [subO,zcc] using e5,by rw [eC]; exact e6⟩
   show AReps _ _ ((subL σ o0.es).flatMap AV.cells) vals
   rw [zma,<- zcc]
   exact AReps.sub hr e2
 ·obtain ⟨t,k,o0,h1,_,q1,eB,_⟩:=back ho
  obtain ⟨t',k',o0',h1',_,q1',eB',_⟩:=back ho'
  rw [eB] at hb; rw [eB'] at hb'
  obtain ⟨e1,e2⟩:=h.inj _ _ _ _ _ _ b h1 h1' hb hb'
  subst e1; subst e2
  rw [q1] at q1'
  exact ⟨congrArg Prod.fst q1',congrArg Prod.snd q1'⟩
 ·obtain ⟨t,k,o0,h1,_,_,eB,_⟩:=back ho
  rw [eB] at hb
  exact h.sep _ _ _ b h1 hb
 ·obtain ⟨t,k,o0,h1,_,_,eB,_⟩:=back ho
  rw [eB] at hb
  exact h.own _ _ _ b h1 hb
def zxb (st:St) (σ : Sg):Prop:=∀ s g,PINB<=s->s<999999->g<(st.site s).length -> σ s g=(s,g)
theorem Weak.sub (h:SubOk st st' σ) (hp:zxb st σ) {keep:List Nat} (hsl:st'.sl=keep.map fun t=>(t,Ab.sub σ (st.get t))):Weak st st':=by
 intro K Z w a hs
 have hnd:∀ {s g:Nat},s<999999->(s,g)≠(DEAD,0):=fun h e=>by
  have:=congrArg Prod.fst e; simp only [DEAD] at this; omega
 have hlt:∀ s g,PINB<=s->s<999999->g<(st.site s).length->g<(st'.site s).length:=fun s g a b hg=>by
  have e:=hp s g a b hg
  cases ho:st.obj s g with
  | none=>have:=(h.deadn s g hg ho).1; rw [e] at this; exact this
  | some o =>
   rcases h.live s g o ho with h1|h1
   ·rw [e] at h1; exact absurd h1 (hnd b)
   ·rw [e] at h1; exact zbt h1
 refine ⟨Z.sub st σ,⟨fun t=>?_,hs.defers,hs.size,hs.heap.sub h⟩,⟨fun s a b=>?_,fun s g a b hg ho=>?_,fun s g o a b ho=>?_⟩⟩
 rotate_left
 ·cases hl:(st.site s).length with
  | zero=>exact Nat.zero_le _
  | succ n=>exact hlt s n a b (by omega)
 ·have:=(h.deadn s g hg ho).2; rw [hp s g a b hg] at this; exact this
 ·have e:=hp s g a b (zbt ho)
  rcases h.live s g o ho with h1|h1
  ·rw [e] at h1; exact absurd h1 (hnd b)
  ·have e2:=zij h ho (by rw [e]; exact hnd b)
   rw [e] at h1 e2
   exact .inr ⟨_,h1,rfl,by simp [subO,zcc],by simp only [Cz.sub,e2],by simp only [Cz.sub,e2]⟩
 have:st'.get t=look (keep.map fun t=>(t,Ab.sub σ (st.get t))) t .undef:=by rw [<- hsl]; rfl
 rw [this]
 rcases zkz (fun t=>Ab.sub σ (st.get t)) t keep with h'|h'
 ·rw [h']; exact (hs.slots t).sub h
 ·rw [h']; exact .undef _
def zdy (st:St) (s:Nat):List (Nat × Nat)->Option (Nat × Nat)
 | []=>none
 | (x,k)::r=>if x=s then some (0,k) else (zdy st s r).map fun q=>((st.site x).length - k+q.1,q.2)
def zgd (st:St) (s:Nat):List (Nat × List (Nat × Nat))->Option (Nat × Nat × Nat)
 | []=>none
 | (s',l)::r=>match zdy st s l with
  | some q=>some (s',q)
  | none=>zgd st s r
def sgP (st:St) (plan:List (Nat × List (Nat × Nat))):Sg:=fun s g=>match zgd st s plan with
 | some (s',o,k)=>if g<k then (DEAD,0) else (s',o+(g - k))
 | none=>(DEAD,0)
def catS (st:St) (σ : Sg):List (Nat × Nat)->List (Option AObj)
 | []=>[]
 | (x,k)::r=>((st.site x).drop k).map (Option.map (subO σ))++catS st σ r
def hpP (st:St) (σ : Sg):List (Nat × List (Nat × Nat))->List Site
 | []=>[(DEAD,[none])]
 | (s',l)::r=>(s',catS st σ l)::hpP st σ r
def St.plan (st:St) (keep:List Nat) (plan:List (Nat × List (Nat × Nat))):St:=⟨keep.map fun t=>(t,sub (sgP st plan) (st.get t)),hpP st (sgP st plan) plan⟩
def zdx (s:Nat):List (Nat × Nat)->Bool
 | (x,k)::_=>x == s&&k == 0
 | []=>false
def zpq (hp:List Site) (plan:List (Nat × List (Nat × Nat))):Bool:=hp.all fun q=>decide (q.1<PINB)||decide (999999<=q.1)||plan.any fun p=>p.1 == q.1&&zdx q.1 p.2
def zf4 (hp:List Site) (plan:List (Nat × List (Nat × Nat))):Bool:=zpq hp plan&&zeh (plan.flatMap fun q=>q.2.map (·.1))&&zeh (DEAD::plan.map (·.1))
theorem zhr {s:Nat}:∀ {l:List (Nat × Nat)} {q:Nat × Nat},zdy st s l=some q->s∈l.map (·.1)
 | (x,k)::r,q,h=>by
  simp only [zdy] at h
  split at h
  ·rename_i e; subst e; simp
  ·obtain ⟨o',h1,_⟩:=mapS h
   exact List.mem_cons_of_mem _ (zhr h1)
theorem zzl {s g:Nat}:∀ {l:List (Nat × Nat)} {o k:Nat},zdy st s l=some (o,k)->k<=g->g<(st.site s).length->(catS st σ l)[o+(g - k)]?=some (((st.site s)[g]?.getD none).map (subO σ))
 | (x,k0)::r,o,k,h,hk,hg=>by
  simp only [zdy] at h
  simp only [catS]
  split at h
  ·rename_i e; subst e; cases h
   rw [Nat.zero_add,List.getElem?_append_left (by simp; omega),List.getElem?_map,List.getElem?_drop,show k0+(g - k0)=g by omega,List.getElem?_eq_getElem hg]; rfl
  ·obtain ⟨q,h1,h2⟩:=mapS h
   obtain ⟨o',k'⟩:=q
   simp only [Prod.mk.injEq] at h2
   obtain ⟨rfl,rfl⟩:=h2
   rw [List.getElem?_append_right (by simp; omega),List.length_map,List.length_drop,show (st.site x).length - k0+o'+(g - k') - ((st.site x).length - k0)=o'+(g - k') by omega]
   exact zzl h1 hk hg
theorem zt6 {g':Nat} {o':AObj}:∀ {l:List (Nat × Nat)},(l.map (·.1)).Nodup->(catS st σ l)[g']?=some (some o')->∃ s g o off k,zdy st s l=some (off,k)/\k<=g/\off+(g - k)=g'/\st.obj s g=some o/\o'=subO σ o
 | [],_,h=>by simp [catS] at h
 | (x,k)::r,hn,h=>by
  simp only [catS] at h
  by_cases hlt:g'<(st.site x).length - k
  ·rw [List.getElem?_append_left (by simpa using hlt),List.getElem?_map,List.getElem?_drop,List.getElem?_eq_getElem (show k+g'<(st.site x).length by omega)] at h
   simp only [Option.map_some,Option.some.injEq] at h
   obtain ⟨o,h1,rfl⟩:=mapS h
   exact ⟨x,k+g',o,0,k,by simp [zdy],by omega,by omega,by unfold St.obj; rw [List.getElem?_eq_getElem (show k+g'<(st.site x).length by omega),h1]; rfl,rfl⟩
  ·rw [List.getElem?_append_right (by simpa using Nat.not_lt.1 hlt),List.length_map,List.length_drop] at h
   rw [List.map_cons,List.nodup_cons] at hn
   obtain ⟨s,g,o,off,k1,h1,h2,h3,h4,h5⟩:=zt6 hn.2 h
   have hne:x≠s:=by rintro rfl; exact hn.1 (zhr h1)
   exact ⟨s,g,o,(st.site x).length - k+off,k1,by simp only [zdy,if_neg hne,h1]; rfl,h2,by omega,h4,h5⟩
theorem zxk {s g s2 g2:Nat}:∀ {l:List (Nat × Nat)} {o o2 k k2:Nat},zdy st s l=some (o,k)->zdy st s2 l=some (o2,k2)->k<=g->k2<=g2->g<(st.site s).length->g2<(st.site s2).length->o+(g - k)=o2+(g2 - k2)->s=s2/\g=g2
 | (x,k0)::r,o,o2,k,k2,h,h2,hk,hk2,hg,hg2,e=>by
  simp only [zdy] at h h2
  split at h
  ·rename_i e1; subst e1; cases h
   split at h2
   ·rename_i e2; subst e2; cases h2; exact ⟨rfl,by omega⟩
   ·obtain ⟨⟨o',k'⟩,h1,h3⟩:=mapS h2
    simp only [Prod.mk.injEq] at h3; obtain ⟨rfl,rfl⟩:=h3; omega
  ·obtain ⟨⟨o1,k1⟩,h1,h3⟩:=mapS h
   simp only [Prod.mk.injEq] at h3; obtain ⟨rfl,rfl⟩:=h3
   split at h2
   ·rename_i e2; subst e2; cases h2; omega
   ·obtain ⟨⟨o',k'⟩,h1',h3'⟩:=mapS h2
    simp only [Prod.mk.injEq] at h3'; obtain ⟨rfl,rfl⟩:=h3'
    exact zxk h1 h1' hk hk2 hg hg2 (by omega)
theorem zgc {s s':Nat} {q:Nat × Nat}:∀ {plan:List (Nat × List (Nat × Nat))},zgd st s plan=some (s',q)->∃ l,(s',l)∈plan/\zdy st s l=some q
 | (s1,l)::r,h=>by
  simp only [zgd] at h
  split at h
  ·rename_i o1 h1; cases h; exact ⟨l,by simp,h1⟩
  ·obtain ⟨l',h1,h2⟩:=zgc h
   exact ⟨l',List.mem_cons_of_mem _ h1,h2⟩
theorem zok {s s':Nat} {q:Nat × Nat} {l:List (Nat × Nat)}:∀ {plan:List (Nat × List (Nat × Nat))},(plan.flatMap fun q=>q.2.map (·.1)).Nodup->(s',l)∈plan->zdy st s l=some q->zgd st s plan=some (s',q)
 | (s1,l1)::r,hn,hm,h=>by
  simp only [zgd]
  rw [List.flatMap_cons,List.nodup_append] at hn
  rcases List.mem_cons.1 hm with hm|hm
  ·cases hm; rw [h]
  ·cases h1:zdy st s l1 with
   | none=>exact zok hn.2.1 hm h
   | some o1=>exact absurd rfl (hn.2.2 s (zhr h1) s (List.mem_flatMap.2 ⟨_,hm,zhr h⟩))
theorem zhx {s':Nat} {l:List (Nat × Nat)}:∀ {plan:List (Nat × List (Nat × Nat))},(plan.map (·.1)).Nodup->(s',l)∈plan->look (hpP st σ plan) s' []=catS st σ l
 | (s1,l1)::r,hn,hm=>by
  rw [List.map_cons,List.nodup_cons] at hn
  simp only [hpP,look]
  rcases List.mem_cons.1 hm with hm|hm
  ·cases hm; rw [if_pos rfl]
  ·rw [if_neg]
   ·exact zhx hn.2 hm
   ·rintro rfl; exact hn.1 (List.mem_map.2 ⟨_,hm,rfl⟩)
theorem zrk {s':Nat}:∀ {plan:List (Nat × List (Nat × Nat))},s'∉plan.map (·.1)->look (hpP st σ plan) s' []=if DEAD=s' then [none] else []
 | [],_=>by simp [hpP,look]
 | (s1,l1)::r,h=>by
  simp only [List.map_cons,List.mem_cons,not_or] at h
  simp only [hpP,look]
  rw [if_neg (Ne.symm h.1)]; exact zrk h.2
theorem zxn {s g:Nat}:(st.site s)[g]?.getD none=st.obj s g:=rfl
theorem zxp {α β : Type} {l:List (α × β)} (hn:(l.map (·.1)).Nodup) {x : α} {y y' : β} (h:(x,y)∈l) (h':(x,y')∈l):y=y':=by
 induction l with
 | nil=>cases h
 | cons q r ih =>
  rw [List.map_cons,List.nodup_cons] at hn
  rcases List.mem_cons.1 h with h|h<;>rcases List.mem_cons.1 h' with h'|h'
  ·rw [<- h] at h'; exact (congrArg Prod.snd h').symm
  ·exact absurd (List.mem_map.2 ⟨_,h',by rw [<- h]⟩) hn.1
  ·exact absurd (List.mem_map.2 ⟨_,h,by rw [<- h']⟩) hn.1
  ·exact ih hn.2 h h'
theorem zxa {keep:List Nat} {plan:List (Nat × List (Nat × Nat))} (h:zf4 st.hp plan=true):SubOk st (st.plan keep plan) (sgP st plan)/\zxb st (sgP st plan):=by
 simp only [zf4,Bool.and_eq_true] at h
 obtain ⟨⟨h1,h2⟩,h3⟩:=h
 have n2:=zfe h2
 have n3:=zfe h3
 rw [List.nodup_cons] at n3
 have hD:=zrk (st:=st) (σ := sgP st plan) n3.1
 rw [if_pos rfl] at hD
 have hdead:0<((st.plan keep plan).site DEAD).length/\(st.plan keep plan).obj DEAD 0=none :=
  ⟨by show 0<(look (hpP st (sgP st plan) plan) DEAD []).length; rw [hD]; simp,by show ((look (hpP st (sgP st plan) plan) DEAD [])[0]?).getD none=none; rw [hD]; rfl⟩
 have hfix:zxb st (sgP st plan):=fun s g a b hg=>by
  rcases zhw (d:=([]:List (Option AObj))) (l:=st.hp) (s:=s) with h3|⟨q,hq,rfl,h3⟩
  ·rw [show st.site s=[] from h3] at hg; exact absurd hg (Nat.not_lt_zero _)
  ·have:=List.all_eq_true.1 h1 q hq
   simp only [Bool.or_eq_true,decide_eq_true_eq,List.any_eq_true,Bool.and_eq_true,beq_iff_eq] at this
   rcases this with (h4|h4)|⟨⟨p1,p2⟩,h4,h5,h6⟩
   ·omega
   ·omega
   ·simp only at h5
    subst h5
    have ho:zdy st q.1 p2=some (0,0):=by
     cases p2 with
     | nil=>cases h6
     | cons y r =>
      obtain ⟨x,k⟩:=y
      simp only [zdx,Bool.and_eq_true,beq_iff_eq] at h6
      obtain ⟨rfl,rfl⟩:=h6
      simp only [zdy,if_true]
    unfold sgP
    rw [zok n2 h4 ho]
    simp
 refine ⟨⟨fun s g o ho=>?_,fun s g hg ho=>?_,fun s g s' g' o o' ho ho' he hd=>?_,fun s' g' o' ho'=>?_,hdead⟩,hfix⟩
 ·have hg:=zbt ho
  unfold sgP
  cases hf:zgd st s plan with
  | none=>exact .inl rfl
  | some q =>
   obtain ⟨s',off,k⟩:=q
   by_cases hk:g<k
   ·left; simp only [hk,if_true]
   obtain ⟨l,m1,m2⟩:=zgc hf
   right
   simp only [hk,if_false]
   show ((look (hpP st (sgP st plan) plan) s' [])[off+(g - k)]?).getD none=_
   rw [zhx n3.2 m1,zzl m2 (by omega) hg,zxn,ho]; rfl
 ·unfold sgP
  cases hf:zgd st s plan with
  | none=>exact hdead
  | some q =>
   obtain ⟨s',off,k⟩:=q
   by_cases hk:g<k
   ·simp only [hk,if_true]; exact hdead
   simp only [hk,if_false]
   obtain ⟨l,m1,m2⟩:=zgc hf
   have hc:=zzl (σ := sgP st plan) m2 (show k<=g by omega) hg
   refine ⟨?_,?_⟩
   ·show off+(g - k)<(look (hpP st (sgP st plan) plan) s' []).length
    rw [zhx n3.2 m1]
    exact (List.getElem?_eq_some_iff.1 hc).1
   ·show ((look (hpP st (sgP st plan) plan) s' [])[off+(g - k)]?).getD none=none
    rw [zhx n3.2 m1,hc,zxn,ho]; rfl
 ·have hg:=zbt ho
  have hg':=zbt ho'
  unfold sgP at he hd
  cases hf:zgd st s plan with
  | none=>rw [hf] at hd; exact absurd rfl hd
  | some q =>
   obtain ⟨s1,off,k⟩:=q
   rw [hf] at he hd
   by_cases hk:g<k
   ·simp only [hk,if_true] at hd; exact absurd rfl hd
   simp only [hk,if_false] at he hd
   obtain ⟨l,m1,m2⟩:=zgc hf
   cases hf':zgd st s' plan with
   | none=>rw [hf'] at he; exact absurd he hd
   | some q' =>
    obtain ⟨s2,off',k'⟩:=q'
    rw [hf'] at he
    by_cases hk':g'<k'
    ·simp only [hk',if_true] at he; exact absurd he hd
    simp only [hk',if_false] at he
    obtain ⟨l',m1',m2'⟩:=zgc hf'
    simp only [Prod.mk.injEq] at he
    obtain ⟨rfl,e⟩:=he
    obtain rfl:=zxp n3.2 m1 m1'
    exact zxk m2 m2' (by omega) (by omega) hg hg' e
 ·have ho2:((look (hpP st (sgP st plan) plan) s' [])[g']?).getD none=some o':=ho'
  by_cases hm:s'∈plan.map (·.1)
  ·obtain ⟨⟨s1,l⟩,hm2,rfl⟩:=List.mem_map.1 hm
   rw [zhx n3.2 hm2] at ho2
   cases hx:(catS st (sgP st plan) l)[g']? with
   | none=>rw [hx] at ho2; cases ho2
   | some y =>
    rw [hx] at ho2
    simp only [Option.getD_some] at ho2
    subst ho2
    have nl:(l.map (·.1)).Nodup:=by
     have:List.Sublist (l.map (·.1)) (plan.flatMap fun q=>q.2.map (·.1)):=by
      obtain ⟨a,b,e⟩:=List.append_of_mem hm2
      rw [e,List.flatMap_append,List.flatMap_cons]
      exact (List.sublist_append_left (l.map (·.1)) _).trans (List.sublist_append_right _ _)
     exact this.nodup n2
    obtain ⟨s,g,o,off,k,k1,k2,k3,k4,k5⟩:=zt6 nl hx
    refine ⟨s,g,o,k4,?_,k5⟩
    unfold sgP
    rw [zok n2 hm2 k1]
    simp only [show ¬ g<k by omega,if_false,k3]
  ·rw [zrk hm] at ho2
   exfalso
   split at ho2
   ·cases g'<;>simp at ho2
   ·simp at ho2
theorem Weak.plan (keep:List Nat) (plan:List (Nat × List (Nat × Nat))) (h:zf4 st.hp plan=true):Weak st (st.plan keep plan):=Weak.sub (zxa h).1 (zxa (keep:=keep) h).2 rfl
end
end Go.Ab
