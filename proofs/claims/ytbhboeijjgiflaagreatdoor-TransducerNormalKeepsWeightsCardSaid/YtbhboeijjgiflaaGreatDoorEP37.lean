/-
Proofs for the law TransducerNormalKeepsWeights, part 37. Conditions: none.
-/
import Derived.Test.YtbhboeijjgiflaaGreatDoorEP36
import Derived.Test.YtbhboeijjgiflaaGreatDoorEP23
set_option maxRecDepth 100000
set_option maxHeartbeats 4000000
set_option linter.all false
namespace Go.Ab
section
variable {α : Type} {key : α -> List Int} {wt : α -> GW} {r:GRing} {up : α -> α -> α} (hr:r.ok=true) (hk:∀ z y,key (up z y)=key z) (hw:∀ z y,wt (up z y)=r.plus (wt z) (wt y))
def atK (key : α -> List Int) (wt : α -> GW) (r:GRing) (l:List α) (k:List Int):GW:=atQ key wt r l fun x=>decide (x=k)
theorem zvi {L:List α} {k:List Int} (h:∀ x∈L,key x≠k):atK key wt r L k=r.zero:=by
 unfold atK atQ
 rw [List.filter_eq_nil_iff.2 fun x hx=>by simpa using h x hx]; rfl
theorem zvj {L:List α} (s:SSrt key L) (c:∀ x∈L,(wt x).chk r) {x : α} (hx:x∈L):atK key wt r L (key x)=wt x:=by
 induction L with
 | nil=>cases hx
 | cons z t ih =>
  have s':=List.pairwise_cons.1 s
  unfold atK
  rw [zdh]
  simp only [decide_eq_true_eq]
  rcases List.mem_cons.1 hx with rfl|hx'
  ·rw [if_pos rfl,show atQ key wt r t (fun a=>decide (a=key x))=r.zero from zvi (wt:=wt) (r:=r) fun y hy h=>by have:=s'.1 y hy; rw [h] at this; exact List.lt_irrefl _ this]
   exact zc5 (c x (by simp))
  ·have hne:¬ key z=key x:=fun h=>by have:=s'.1 x hx'; rw [h] at this; exact List.lt_irrefl _ this
   rw [if_neg hne]
   exact ih s'.2 (fun y hy=>c y (by simp [hy])) hx'
theorem z0b:∀ {L L':List α},SSrt key L->SSrt key L'->(∀ x,x∈L ↔ x∈L')->L=L'
 | [],[],_,_,_=>rfl
 | [],y::t,_,_,h=>by have:=(h y).2 (by simp); cases this
 | x::t,[],_,_,h=>by have:=(h x).1 (by simp); cases this
 | x::t,y::t',s,s',h=>by
  have p:=List.pairwise_cons.1 s
  have p':=List.pairwise_cons.1 s'
  have exy:x=y:=by
   rcases List.mem_cons.1 ((h x).1 (by simp)) with e|hx
   ·exact e
   ·rcases List.mem_cons.1 ((h y).2 (by simp)) with e|hy
    ·exact e.symm
    ·exact absurd (p'.1 x hx) (List.lt_asymm (p.1 y hy))
  subst exy
  congr 1
  refine z0b p.2 p'.2 fun z=>⟨fun hz=>?_,fun hz=>?_⟩
  ·rcases List.mem_cons.1 ((h z).1 (by simp [hz])) with e|h1
   ·have:=p.1 z hz; rw [e] at this; exact absurd this (List.lt_irrefl _)
   ·exact h1
  ·rcases List.mem_cons.1 ((h z).2 (by simp [hz])) with e|h1
   ·have:=p'.1 z hz; rw [e] at this; exact absurd this (List.lt_irrefl _)
   ·exact h1
theorem z61 (ext:∀ x y,key x=key y->wt x=wt y->x=y) {L L':List α} (s:SSrt key L) (s':SSrt key L') (c:∀ x∈L,(wt x).chk r) (c':∀ x∈L',(wt x).chk r) (n:∀ x∈L,wt x≠r.zero) (n':∀ x∈L',wt x≠r.zero) (h:∀ k,atK key wt r L k=atK key wt r L' k):L=L':=by
 have one:∀ {L L':List α},SSrt key L->SSrt key L'->(∀ x∈L,(wt x).chk r)->(∀ x∈L',(wt x).chk r)->(∀ x∈L,wt x≠r.zero)->(∀ k,atK key wt r L k=atK key wt r L' k)->∀ x∈L,x∈L':=by
  intro L L' s s' c c' n h x hx
  have h1:=h (key x)
  rw [zvj s c hx] at h1
  by_cases he:∃ y∈L',key y=key x
  ·obtain ⟨y,hy,e⟩:=he
   have h2:=zvj s' c' hy
   rw [e,<- h1] at h2
   rw [ext x y e.symm h2]; exact hy
  ·rw [zvi (wt:=wt) (r:=r) fun y hy e=>he ⟨y,hy,e⟩] at h1
   exact absurd h1 (n x hx)
 exact z0b s s' fun x=>⟨one s s' c c' n h x,one s' s c' c n' (fun k=>(h k).symm) x⟩
include hr in
theorem zzj {l:List α} (h:∀ x∈l,(wt x).chk r) (p:List Int->Bool):atQ key wt r (l.filter fun x => !decide (wt x=r.zero)) p=atQ key wt r l p:=by
 induction l with
 | nil=>rfl
 | cons x l ih =>
  have ih':=ih fun y hy=>h y (by simp [hy])
  by_cases hz:wt x=r.zero
  ·rw [List.filter_cons_of_neg (by simp [hz]),ih',zdh]
   split
   ·rw [hz,zlz hr (zvh hr (fun y hy=>h y (by simp [hy])) p)]
   ·rfl
  ·rw [List.filter_cons_of_pos (by simp [hz]),zdh,zdh,ih']
noncomputable def tid (key : α -> List Int) (wt : α -> GW) (r:GRing) (up : α -> α -> α) (l:List α):List α := (mrg key up id (srt key l)).filter fun x => !decide (wt x=r.zero)
include hr hk hw in
theorem zlj {l:List α} (h:∀ x∈l,(wt x).chk r):SSrt key (tid key wt r up l)/\(∀ x∈tid key wt r up l,(wt x).chk r/\wt x≠r.zero)/\∀ p,atQ key wt r (tid key wt r up l) p=atQ key wt r l p:=by
 have hm:=(yau (key:=key) (up:=up) (nw:=id) hk (fun _=>rfl) l)
 have hs:=(zh0 (key:=key) (up:=up) (nw:=id) hk (fun _=>rfl) _ (srt key l) rfl hm.2).1
 have hn:=fun p=>z4a (key:=key) (up:=up) hr hk hw h p l.length (Nat.le_refl _)
 rw [List.take_length] at hn
 have e:mrg key up id (srt key l)=nfm key up id l:=hm.1
 unfold tid
 refine ⟨List.Pairwise.filter _ hs,fun x hx=>?_,fun p=>?_⟩
 ·have:=List.mem_filter.1 hx
  rw [e] at this
  exact ⟨(hn fun _=>true).1 x this.1,by simpa using this.2⟩
 ·rw [e,zzj hr (hn p).1,(hn p).2]
include hr hk hw in
theorem zz3 (ext:∀ x y,key x=key y->wt x=wt y->x=y) {l l':List α} (h:∀ x∈l,(wt x).chk r) (h':∀ x∈l',(wt x).chk r) (he:∀ p,atQ key wt r l p=atQ key wt r l' p):tid key wt r up l=tid key wt r up l':=by
 obtain ⟨a1,a2,a3⟩:=zlj (up:=up) hr hk hw h
 obtain ⟨b1,b2,b3⟩:=zlj (up:=up) hr hk hw h'
 exact z61 ext a1 b1 (fun x hx=>(a2 x hx).1) (fun x hx=>(b2 x hx).1) (fun x hx=>(a2 x hx).2) (fun x hx=>(b2 x hx).2) fun k=>by unfold atK; rw [a3,b3,he]
end
end Go.Ab
namespace Go.Ab
open Enc (enc)
end Go.Ab
namespace Go.Ab
open Enc (enc)
end Go.Ab
namespace Go.Ab
open Enc (enc)
attribute [local go_sem] zal Opd.slots
section
variable {α : Type} {key : α -> List Int} {up : α -> α -> α} {nw : α -> α}
end
end Go.Ab
namespace Go.Ab
open Enc (enc)
attribute [local go_sem] zal Opd.slots
noncomputable instance:DecidableEq GArc:=fun _ _=>Classical.propDecidable _
noncomputable instance:DecidableEq GTArc:=fun _ _=>Classical.propDecidable _
noncomputable instance:DecidableEq GAuto:=fun _ _=>Classical.propDecidable _
noncomputable instance:DecidableEq GTrans:=fun _ _=>Classical.propDecidable _
theorem zvy {x y:GTArc}:x=y ↔ x.key=y.key/\x.w=y.w:=by
 cases x; cases y; simp [GTArc.key,and_assoc]
end Go.Ab
namespace Go.Ab
open Enc (enc)
attribute [local go_sem] zal Opd.slots
end Go.Ab
namespace Go.Ab
open Enc (enc)
attribute [local go_sem] zal Opd.slots
end Go.Ab
namespace Go.Ab
open Enc (enc)
attribute [local go_sem] zal Opd.slots
end Go.Ab
namespace Go.Ab
open Enc (enc)
attribute [local go_sem] zal Opd.slots
end Go.Ab
namespace Go.Ab
open Enc (enc)
attribute [local go_sem] zal Opd.slots
end Go.Ab
namespace Go.Ab
section
variable {α : Type} {key : α -> List Int} {wt : α -> GW} {r:GRing} {up : α -> α -> α}
theorem z9c (hr:r.ok=true) (hk:∀ z y,key (up z y)=key z) (hw:∀ z y,wt (up z y)=r.plus (wt z) (wt y)) {l:List α} (h:∀ x∈l,(wt x).chk r) {x : α} (hx:x∈tid key wt r up l):∃ y∈l,key y=key x:=by
 obtain ⟨s,c,e⟩:=zlj (up:=up) hr hk hw h
 by_cases hn:∃ y∈l,key y=key x
 ·exact hn
 ·have h1:=zvj s (fun y hy=>(c y hy).1) hx
  unfold atK at h1
  rw [e] at h1
  have h2:atK key wt r l (key x)=r.zero:=zvi fun y hy e=>hn ⟨y,hy,e⟩
  exact absurd (h1.symm.trans h2) (c x hx).2
theorem zz2 (hk:∀ z y,key (up z y)=key z) (l:List α):(tid key wt r up l).length<=l.length:=by
 unfold tid
 refine Nat.le_trans (List.length_filter_le _ _) ?_
 have h:=(zqm (key:=key) (up:=up) (nw:=id) (Q:=fun _ _=>True) (l:=srt key l) (fun _ _ _=>trivial) (fun _ _=>trivial) (fun _ _ _ _ _=>trivial) (fun _ _ _=>trivial) _ (Nat.le_refl _)).1
 rw [List.take_length,(zcq l).2.1] at h
 exact h
end
theorem zr1 {r:GRing} (hr:r.ok=true) {l:List GTArc} (h:∀ x∈l,x.w.chk r):SSrt GTArc.key (tid GTArc.key GTArc.w r (upT r) l)/\(∀ x∈tid GTArc.key GTArc.w r (upT r) l,x.w.chk r/\x.w≠r.zero)/\∀ p,atQ GTArc.key GTArc.w r (tid GTArc.key GTArc.w r (upT r) l) p=atQ GTArc.key GTArc.w r l p:=zlj (key:=GTArc.key) (wt:=GTArc.w) (up:=upT r) hr (fun _ _=>rfl) (fun _ _=>rfl) h
theorem zws {a:GTrans} (ok:a.ok):a.nf.ok:=by
 have hc:∀ x∈a.arcs,x.w.chk a.ring:=fun x hx=>(ok.arcs x hx).2.2.2.2.2.2.2.2
 refine ⟨ok.ring,ok.i1,ok.o1,ok.st1,ok.st2,ok.il,ok.fl,Nat.le_trans (zz2 (key:=GTArc.key) (wt:=GTArc.w) (r:=a.ring) (up:=upT a.ring) (fun _ _=>rfl) a.arcs) ok.al,fun x hx=>?_,ok.ini,ok.fin⟩
 have hx':x∈tid GTArc.key GTArc.w a.ring (upT a.ring) a.arcs:=hx
 obtain ⟨y,hy,e⟩:=z9c (key:=GTArc.key) (wt:=GTArc.w) (up:=upT a.ring) ok.ring (fun _ _=>rfl) (fun _ _=>rfl) hc hx'
 obtain ⟨a1,a2,a3,a4,a5,a6,a7,a8,_⟩:=ok.arcs y hy
 simp only [GTArc.key,List.cons.injEq,and_true] at e
 obtain ⟨e1,e2,e3,e4⟩:=e
 exact ⟨e1 ▸ a1,e1 ▸ a2,e4 ▸ a3,e4 ▸ a4,e2 ▸ a5,e2 ▸ a6,e3 ▸ a7,e3 ▸ a8,((zr1 ok.ring hc).2.1 x hx').1⟩
end Go.Ab
