/-
Proofs for the law ProjectIdentityWeighs, part 38. Conditions: none.
-/
import Derived.Test.YtalcegbealdigaaGreatDoorBP37
import Derived.Test.YtalcegbealdigaaGreatDoorBP15
import Derived.Test.YtalcegbealdigaaGreatDoorBP23
import Derived.KernelRfl
set_option maxRecDepth 100000
set_option maxHeartbeats 4000000
set_option linter.all false
namespace Go.Ab
open Enc (enc)
def cmp5 (v w:List Int):Int:=if v.length≠w.length then (if v.length<w.length then -1 else 1) else lexI v w
theorem z1w {v w:List Int} {k:Nat} (h:k<v.length) (h':k<w.length):lexI (v.drop k) (w.drop k)=if v[k]<w[k] then -1 else if w[k]<v[k] then 1 else lexI (v.drop (k+1)) (w.drop (k+1)):=by
 rw [List.drop_eq_getElem_cons h,List.drop_eq_getElem_cons h']; rfl
theorem zig (v w:List Int) (hl:v.length<=1000000000):Sp P F.bs [.sl (ens v),.sl (ens w)] (.pure (.int .i64 (cmp5 v w))):=by
 refine Sp.vz c.bs fun _=>?_
 by_cases hlen:v.length=w.length
 rotate_left
 ·have hne:¬ (v.length:Int)=w.length:=by omega
  simp [g.bs,go_sem,hlen,cmp5]
  by_cases h:v.length<w.length
  ·simp [h]; intro h'; omega
  ·simp [h]; intro h'; omega
 have e0:cmp5 v w=lexI v w:=by simp [cmp5,hlen]
 rw [e0]
 simp [g.bs,go_sem,hlen]
 refine zag (S:=fun k:Nat=>mkSt [(0,.p (.sl (ens v))),(1,.p (.sl (ens w))),(5,.p (.int .i64 k))] []) (I:=fun k=>k<=v.length/\lexI v w=lexI (v.drop k) (w.drop k)) (m:=fun k=>v.length - k) 0
  (Weak.to [0,1,5] [] (by simp [go_sem])) ⟨by omega,by simp⟩ ?_
 rintro k ⟨h6,h7⟩ R hn' hr hx
 have e1:=i64s k (by omega)
 by_cases hk:k<v.length
 ·have hk':k<w.length:=by omega
  have hd:=z1w hk hk'
  simp [g.o5,mkSt,go_sem,hk,hk']
  refine zae hk ?_
  refine zae hk' ?_
  refine ⟨fun h8=>hr _ ?_,fun h8=>?_⟩
  ·rw [if_pos h8] at hd
   simp [go_sem,h7,hd]
  refine zae hk ?_
  refine zae hk' ?_
  refine ⟨fun h9=>hr _ ?_,fun h9=>?_⟩
  ·rw [if_neg (by omega),if_pos h9] at hd
   simp [go_sem,h7,hd]
  ·rw [if_neg (by omega),if_neg (by omega)] at hd
   rw [e1]
   exact hn' (k+1) _ (Weak.to [0,1,5] [] (by simp [mkSt,go_sem])) ⟨by omega,by rw [h7,hd]⟩ (by omega)
 ·simp [g.o5,mkSt,go_sem,hk]
  refine hx _ _ ?_
  have:lexI v w=0:=by
   rw [h7,List.drop_eq_nil_of_le (by omega)]; rfl
  simp [go_sem,this]
theorem ze5 (m:Int):Sp P F.cr [.int .i64 m] (.pure (.bool (decide (1<=m/\m<=32)))):=by
 refine Sp.vz c.cr fun _=>?_
 simp [g.cr,go_sem]
 exact ⟨fun h _=>h,fun h h'=>by omega⟩
theorem zja (v lo hi:Int):Sp P F.ap [.int .i64 v,.int .i64 lo,.int .i64 hi] (.pure (.bool (decide (lo<=v/\v<=hi)))):=by
 refine Sp.vz c.ap fun _=>?_
 simp [g.ap,go_sem]
 exact ⟨fun h _=>h,fun h h'=>by omega⟩
theorem zfz (r:GRing) (l:List GW) (m:Int) (hl:∀ w∈l,w.sm 1048576) (hlen:l.length<=1000000000):Sp P F.c9 [enc r,.sl (ens l),.int .i64 m] (.pure (.bool (decide ((l.length:Int)=m/\∀ w∈l,w.chk r)))):=by
 refine Sp.vz c.c9 fun _=>?_
 by_cases hm:(l.length:Int)=m
 rotate_left
 ·simp [g.c9,go_sem,hm]
 subst hm
 simp [g.c9,go_sem]
 refine zag (S:=fun k:Nat=>mkSt [(1,.p (.sl (ens l))),(2,.p (.int .i64 l.length)),(3,.ptr 1 0 0 0),(7,.p (.int .i64 k))] [(1,⟨2,[.p (enc r)]⟩)]) (I:=fun k=>k<=l.length/\∀ i,(hi:i<l.length)->i<k->l[i].chk r) (m:=fun k=>l.length - k) 0
  (Weak.to [1,2,3,7] [((3,0),1)] (by simp [go_sem])) ⟨by omega,fun i _ h=>by omega⟩ ?_
 rintro k ⟨h6,h7⟩ R hn' hr hx
 have e1:=i64s k (by omega)
 simp [g.rf,mkSt,go_sem]
 refine ⟨fun hk=>?_,fun hk=>hx _ _ ?_⟩
 ·refine zae hk ?_
  try simp [go_sem]
  have hmem:=List.getElem_mem hk
  refine zab (zhi r l[k] (hl _ hmem)) ?_
  by_cases hc:l[k].chk r
  ·simp [go_sem,hc,e1]
   refine hn' (k+1) _ (Weak.to [1,2,3,7] [((1,0),1)] (by simp [mkSt,go_sem])) ⟨by omega,fun i hi h0=>?_⟩ (by omega)
   by_cases hik:i<k
   ·exact h7 i hi hik
   ·have:i=k:=by omega
    subst this; exact hc
  ·simp [go_sem,hc]
   refine hr _ ?_
   simp [go_sem]
   exact ⟨_,hmem,hc⟩
 ·have:∀ w∈l,w.chk r:=fun x hx=>by
   obtain ⟨i,hi,rfl⟩:=List.mem_iff_getElem.1 hx
   exact h7 i hi (by omega)
  simp [go_sem]
  exact this
theorem zmd (x y:GArc):Sp P F.cm [enc x,enc y] (.pure (.int .i64 (lexI x.key y.key))):=by
 refine Sp.vz c.cm fun _=>?_
 simp [g.cm,go_sem]
 have k:=zig x.key y.key (by simp [GArc.key])
 rw [show cmp5 x.key y.key=lexI x.key y.key from rfl] at k
 refine zaa k (by simp [go_sem,GArc.key]) ?_
 simp [go_sem]
theorem zvt (r:GRing) (l:List GW) (hl:∀ w∈l,w.sm 1048576) (hlen:l.length<=1000000):Sp P F.j5 [enc r,.sl (ens l)] (.pure (.sl (ens (l.map fun w=>w.tk r)))):=by
 refine Sp.vz c.j5 fun _=>?_
 simp [g.j5,go_sem]
 refine zag (S:=fun k:Nat=>mkSt [(1,.p (.sl (ens l))),(2,.ptr 2 0 0 0),(5,.own 1 0 0 k),(6,.p (.int .i64 k))] [(2,⟨2,[.p (enc r)]⟩),(1,⟨8,avs ((l.map fun w=>w.tk r).take k)⟩)]) (I:=fun k=>k<=l.length) (m:=fun k=>l.length - k) 0
  (Weak.nl 5 77 8 rfl (Weak.to [1,2,5,6] [((2,0),2),((77,0),1)] (by simp [go_sem]))) (by omega) ?_
 rintro k h1 R hn' hr hx
 have e3:=i64s k (by omega)
 simp [g.ra,mkSt,go_sem]
 refine ⟨fun hk=>?_,fun hk=>hx _ _ ?_⟩
 ·refine zae hk ?_
  try simp [go_sem]
  refine zab (zaw r l[k] (hl _ (List.getElem_mem hk))) ?_
  have hts:avs ((l.map fun w=>w.tk r).take (k+1))=avs ((l.map fun w=>w.tk r).take k)++[.p (enc (l[k].tk r))]:=by
   rw [List.take_succ_eq_append_getElem (by simpa using hk),zbp]; simp [go_sem]
  simp [go_sem,e3]
  exact ⟨⟨by omega,by omega⟩,hn' (k+1) _ (Weak.to [1,2,5,6] [((2,0),2),((21,0),1)] (by simp [mkSt,go_sem,hts])) (by omega) (by omega)⟩
 ·have:k=l.length:=by omega
  subst this
  have hts:(l.map fun w=>w.tk r).take l.length=l.map fun w=>w.tk r:=List.take_of_length_le (by simp)
  simp [go_sem,hts]
theorem z4u (r:GRing) (hl:r.parts.length<=1000000):Sp P F.j4 [enc r] (.pure (enc r)):=by
 refine Sp.vz c.j4 fun _=>?_
 simp [g.j4,go_sem]
 try omega
end Go.Ab
namespace Go.Ab
open Enc (enc)
theorem zdl {a:GAuto} (h:¬ a.ok):a.vb=false:=by
 cases hv:a.vb
 ·rfl
 ·exact absurd (GAuto.vb_iff.1 hv) h
theorem zzh (a:GAuto) (h:a.sm 1048576) (li:a.ini.length<=1000000) (lf:a.fin.length<=1000000):Sp P F.j6 [enc a] (.pure (.bool a.vb)):=by
 refine Sp.vz c.j6 fun _=>?_
 simp [g.j6,go_sem]
 refine zaa (zau a.ring) rfl ?_
 cases hr:a.ring.ok
 ·simp [go_sem]; exact zdl fun ok=>by rw [ok.ring] at hr; cases hr
 simp [go_sem]
 refine zaa (ze5 a.sy) rfl ?_
 by_cases h1:1<=a.sy/\a.sy<=32
 rotate_left
 ·rw [decide_eq_false h1]; simp [go_sem]; exact zdl fun ok=>h1 ⟨ok.sy1,ok.sy2⟩
 rw [decide_eq_true h1]; simp [go_sem]
 refine zaa (zja a.st 0 64) rfl ?_
 by_cases h2:0<=a.st/\a.st<=64
 rotate_left
 ·rw [decide_eq_false h2]; simp [go_sem]; exact zdl fun ok=>h2 ⟨ok.st1,ok.st2⟩
 rw [decide_eq_true h2]; simp [go_sem]
 refine zab (zfz a.ring a.ini a.st h.ini (by omega)) ?_
 by_cases h3:(a.ini.length:Int)=a.st/\∀ w∈a.ini,w.chk a.ring
 rotate_left
 ·rw [decide_eq_false h3]; simp [go_sem]; exact zdl fun ok=>h3 ⟨ok.il,ok.ini⟩
 rw [decide_eq_true h3]; simp [go_sem]
 refine zab (zfz a.ring a.fin a.st h.fin (by omega)) ?_
 by_cases h4:(a.fin.length:Int)=a.st/\∀ w∈a.fin,w.chk a.ring
 rotate_left
 ·rw [decide_eq_false h4]; simp [go_sem]; exact zdl fun ok=>h4 ⟨ok.fl,ok.fin⟩
 rw [decide_eq_true h4]; simp [go_sem]
 refine ⟨fun h5=>zdl fun ok=>by have:=ok.al; omega,fun h5=>?_⟩
 refine zag (S:=fun k:Nat=>mkSt [(1,.ptr 1 0 0 0),(3,.p (.int .i64 k))] [(1,⟨7,[.p (enc a)]⟩)]) (I:=fun k=>k<=a.arcs.length/\∀ i,(hi:i<a.arcs.length)->i<k->inA a.arcs[i] a) (m:=fun k=>a.arcs.length - k) 0
  (Weak.to [1,3] [((1,0),1)] (by simp [go_sem])) ⟨by omega,fun i _ h0=>by omega⟩ ?_
 rintro k ⟨h6,h7⟩ R hn hr' hx
 have e1:=i64s k (by omega)
 have e2:IntKind.i64.wrap (a.st - 1)=a.st - 1:=by
  by_cases hs:1<=a.st
  ·obtain ⟨m,hm⟩:=Int.eq_ofNat_of_zero_le (show 0<=a.st - 1 by omega)
   rw [hm]; exact i64w (by omega) (by omega)
  ·have:a.st=0:=by omega
   rw [this]; rfl
 simp [g.rb,mkSt,go_sem,e2]
 refine ⟨fun hk=>?_,fun hk=>hx _ _ ?_⟩
 ·refine zae hk ?_
  have hret:¬ inA a.arcs[k] a->¬ a.ok:=fun h ok=>h (ok.arcs _ (List.getElem_mem hk))
  have hsw:a.arcs[k].w.sm 1048576:=h.arcs _ (List.getElem_mem hk)
  have hnext:inA a.arcs[k] a->∀ i,(hi:i<a.arcs.length)->i<k+1->inA a.arcs[i] a:=fun hx i hi h0=>by
   by_cases hik:i<k
   ·exact h7 i hi hik
   ·have:i=k:=by omega
    subst this; exact hx
  generalize a.arcs[k]=x at *
  refine zaa (zja x.f 0 (a.st - 1)) rfl ?_
  by_cases h8:0<=x.f/\x.f<=a.st - 1
  rotate_left
  ·rw [decide_eq_false h8]; simp [go_sem]
   refine hr' _ ?_
   simp [go_sem]
   exact zdl (hret fun hT=>h8 ⟨hT.1,by have:=hT.2.1; omega⟩)
  rw [decide_eq_true h8]; simp [go_sem,e2]
  refine zaa (zja x.t 0 (a.st - 1)) rfl ?_
  by_cases h9:0<=x.t/\x.t<=a.st - 1
  rotate_left
  ·rw [decide_eq_false h9]; simp [go_sem]
   refine hr' _ ?_
   simp [go_sem]
   exact zdl (hret fun hT=>h9 ⟨hT.2.2.1,by have:=hT.2.2.2.1; omega⟩)
  rw [decide_eq_true h9]; simp [go_sem]
  refine zaa (zja x.l 0 a.sy) rfl ?_
  by_cases h10:0<=x.l/\x.l<=a.sy
  rotate_left
  ·rw [decide_eq_false h10]; simp [go_sem]
   refine hr' _ ?_
   simp [go_sem]
   exact zdl (hret fun hT=>h10 ⟨hT.2.2.2.2.1,hT.2.2.2.2.2.1⟩)
  rw [decide_eq_true h10]; simp [go_sem]
  refine zab (zhi a.ring x.w hsw) ?_
  by_cases hc:x.w.chk a.ring
  rotate_left
  ·simp [go_sem,hc]
   refine hr' _ ?_
   simp [go_sem]
   exact zdl (hret fun hT=>hc hT.2.2.2.2.2.2)
  simp [go_sem,hc,e1]
  exact hn (k+1) _ (Weak.to [1,3] [((1,0),1)] (by simp [mkSt,go_sem])) ⟨by omega,hnext ⟨h8.1,by omega,h9.1,by omega,h10.1,h10.2,hc⟩⟩ (by omega)
 ·have hall:∀ x∈a.arcs,inA x a:=fun x hx=>by
   obtain ⟨i,hi,rfl⟩:=List.mem_iff_getElem.1 hx
   exact h7 i hi (by omega)
  have ok:a.ok:=⟨hr,h1.1,h1.2,h2.1,h2.2,h3.1,h4.1,by omega,hall,h3.2,h4.2⟩
  simp [go_sem,GAuto.vb_iff.2 ok]
end Go.Ab
namespace Go.Ab
open Enc (enc)
attribute [local go_sem] zas Opd.slots
section
variable {α : Type} {key : α -> List Int} {up : α -> α -> α} {nw : α -> α}
theorem zsx {B:List α} {x : α}:∀ {A:List α},(∀ a∈A,key a<key x)->insF key up nw (A++B) x=A++insF key up nw B x
 | [],_=>rfl
 | a::A,h=>by
  rw [List.cons_append,List.cons_append,<- zsx (A:=A) fun b hb=>h b (by simp [hb])]
  simp [insF,h a (by simp)]
theorem zut {O:List α} {x : α} {k:Nat} (h:∀ i,(hi:i<O.length)->i<k->key O[i]<key x):insF key up nw O x=O.take k++insF key up nw (O.drop k) x:=by
 have e:=zsx (up:=up) (nw:=nw) (B:=O.drop k) (x:=x) (A:=O.take k) fun a ha=>by
  obtain ⟨i,hi,rfl⟩:=List.mem_iff_getElem.1 ha
  have hi':=hi
  rw [List.length_take] at hi'
  rw [List.getElem_take]
  exact h i (by omega) (by omega)
 rwa [List.take_append_drop] at e
theorem zw3 {O:List α} {x : α} (h:∀ i,(hi:i<O.length)->key O[i]<key x):insF key up nw O x=O++[nw x]:=by
 rw [zut (k:=O.length) fun i hi _=>h i hi]; simp [insF]
theorem z16 {O:List α} {x : α} {k:Nat} (hk:k<O.length) (h:∀ i,(hi:i<O.length)->i<k->key O[i]<key x) (he:key O[k]=key x):insF key up nw O x=O.set k (up O[k] x):=by
 rw [zut h,List.drop_eq_getElem_cons hk]
 have:¬ key O[k]<key x:=by rw [he]; exact List.lt_irrefl _
 simp only [insF,if_neg this,if_pos he]
 rw [List.set_eq_take_append_cons_drop,if_pos hk]
theorem zw2 {O:List α} {x : α} {k:Nat} (hk:k<O.length) (h:∀ i,(hi:i<O.length)->i<k->key O[i]<key x) (h1:¬ key O[k]<key x) (h2:key O[k]≠key x):insF key up nw O x=O.take k++nw x::O.drop k:=by
 rw [zut h,List.drop_eq_getElem_cons hk]
 simp [insF,h1,h2]
end
noncomputable def z6c (r:GRing) (l:List GArc):List GArc:=(nfm GArc.key (upA r) id l).filter fun x => !decide (x.w=r.zero)
theorem z2g {r:GRing} {n:Nat} (hn1:1<=n) {l:List GArc} (h:∀ x∈l,x.w.sm n/\x.w.chk r) (k:Nat) (hk:k<=l.length) :
  (nfm GArc.key (upA r) id (l.take k)).length<=k/\∀ x∈nfm GArc.key (upA r) id (l.take k),x.w.sm ((k+1)*(n+1))/\x.w.chk r:=by
 refine zun (up:=upA r) (nw:=id) (Q:=fun k x=>x.w.sm ((k+1)*(n+1))/\x.w.chk r) (fun k x hx=>⟨hx.1.mono (Nat.mul_le_mul_right _ (by omega)),hx.2⟩) (fun x hx=>⟨(h x hx).1.mono (by omega),(h x hx).2⟩) (fun k z x hx hz=>⟨?_,(zbs hz.2 (h x hx).2:(r.plus z.w x.w).chk r)⟩) (fun k x hx=>⟨hx.1.mono (Nat.mul_le_mul_right _ (by omega)),hx.2⟩) k hk
 have:=zp3 hz.1 (h x hx).1 hz.2 (h x hx).2 (Nat.le_trans hn1 (by rw [Nat.add_mul]; omega)) hn1
 have e:(k+1)*(n+1)+n+1=(k+1+1)*(n+1):=by rw [Nat.add_mul (k+1) 1]; omega
 rw [<- e]; exact this
theorem zo7 (r:GRing) (l:List GArc):z6c r l=tidA r l:=by
 unfold z6c tidA
 rw [(zqd (up:=upA r) (nw:=id) (fun _ _=>rfl) (fun _=>rfl) l).1]
theorem zxp (r:GRing) (l:List GArc) (n:Nat) (hn:n<=90) (hn1:3<=n) (hl:l.length<=19) (h:∀ x∈l,x.w.sm n/\x.w.chk r) :
  Sp P F.cn [enc r,.sl (ens l)] (.pure (.sl (ens (z6c r l)))):=by
 have inv:=z2g (r:=r) (n:=n) (by omega) h
 refine Sp.vz c.cn fun _=>?_
 simp [g.cn,go_sem]
 refine zag (S:=fun k:Nat=>mkSt [(1,.p (.sl (ens l))),(2,.ptr 2 0 0 0),(5,.own 1 0 0 (nfm GArc.key (upA r) id (l.take k)).length),(6,.p (.int .i64 k))] [(2,⟨2,[.p (enc r)]⟩),(1,⟨11,avs (nfm GArc.key (upA r) id (l.take k))⟩)]) (I:=fun k=>k<=l.length) (m:=fun k=>l.length - k) 0
  (Weak.nl 5 77 11 rfl (Weak.to [1,2,5,6] [((2,0),2),((77,0),1)] (by simp [go_sem,nfm]))) (by omega) ?_
 rintro k h1 R hn' hr hx
 have e3:=i64s k (by omega)
 obtain ⟨iv1,iv2⟩:=inv k h1
 generalize hO:nfm GArc.key (upA r) id (l.take k)=O at *
 by_cases hk:k<l.length
 ·have hw:=h _ (List.getElem_mem hk)
  have hnx:=zcz (key:=GArc.key) (up:=upA r) (nw:=id) hk
  rw [hO] at hnx
  simp [g.pf,mkSt,go_sem,hk]
  refine zae hk ?_
  try simp [go_sem]
  generalize l[k]=x at *
  refine zab (zaw r x.w (hw.1.mono (by omega))) ?_
  rw [zrq hw.2]
  simp [go_sem]
  refine zag (S:=fun i:Nat=>mkSt [(1,.p (.sl (ens l))),(2,.ptr 2 0 0 0),(5,.own 1 0 0 O.length),(6,.p (.int .i64 k)),(7,.ptr 3 0 0 0),(8,.p (.int .i64 i))] [(2,⟨2,[.p (enc r)]⟩),(1,⟨11,avs O⟩),(3,⟨11,[.p (enc x)]⟩)]) (I:=fun i=>i<=O.length/\∀ j,(hj:j<O.length)->j<i->O[j].key<x.key) (m:=fun i=>O.length - i) 0
   (Weak.to [1,2,5,6,7,8] [((2,0),2),((1,0),1),((7,0),3)] (by simp [go_sem])) ⟨by omega,fun j _ hj=>by omega⟩ ?_
  rintro i ⟨j1,j2⟩ R2 hn2 hr2 hx2
  have e4:=i64s i (by omega)
  by_cases hi:i<O.length
  ·simp [g.pe,mkSt,go_sem,hi]
   refine zae hi ?_
   refine zab (zmd O[i] x) ?_
   have hlt:lexI O[i].key x.key<0 ↔ O[i].key<x.key:=zmu (by simp [GArc.key])
   have hle:lexI O[i].key x.key=0 ↔ O[i].key=x.key:=zid (by simp [GArc.key])
   simp [go_sem]
   refine ⟨fun h8=>?_,fun h8=>hx2 _ _ ?_⟩
   ·rw [e4]
    refine hn2 (i+1) _ (Weak.to [1,2,5,6,7,8] [((2,0),2),((1,0),1),((3,0),3)] (by simp [mkSt,go_sem])) ⟨by omega,fun j hj h0=>?_⟩ (by omega)
    by_cases hji:j<i
    ·exact j2 j hj hji
    ·have:j=i:=by omega
     subst this; exact hlt.1 h8
   ·simp [go_sem,hi]
    refine zae hi ?_
    refine zab (zmd O[i] x) ?_
    simp [go_sem]
    refine ⟨fun h0=>?_,fun h0=>?_⟩
    ·rw [z16 hi j2 (hle.1 h0)] at hnx
     have hz:=iv2 _ (List.getElem_mem hi)
     have hb2:(k+1)*(n+1)<=2000:=by
      have:=Nat.mul_le_mul (show k+1<=20 by omega) (show n+1<=91 by omega)
      omega
     have hb3:n<=(k+1)*(n+1):=by rw [Nat.add_mul]; omega
     refine ⟨hi,zae hi ?_⟩
     refine zab (zp4 r O[i].w x.w _ hz.1 (hw.1.mono hb3) hb2 (by omega) hz.2 hw.2) ?_
     simp [go_sem,e3,hi]
     refine zae hi ?_
     refine hn' (k+1) _ (Weak.to [1,2,5,6] [((2,0),2),((1,0),1)] ?_) (by omega) (by omega)
     rw [hnx]
     simp [mkSt,go_sem,upA]
    ·rw [zw2 hi j2 (fun h=>by have:=hlt.2 h; omega) (fun h=>h0 (hle.2 h))] at hnx
     have hO2:O.length<=19:=by omega
     have hm:min i O.length=i:=by omega
     rw [hm]
     refine ⟨by omega,⟨by omega,by omega⟩,by omega,by omega,⟨by omega,by omega⟩,?_⟩
     rw [e3]
     have hlen:i+1+(O.length - i)=O.length+1:=by omega
     refine hn' (k+1) _ (Weak.to [1,2,5,6] [((2,0),2),((77,0),1)] ?_) (by omega) (by omega)
     rw [hnx]
     simp [mkSt,go_sem,hlen]
     exact ⟨by omega,by rw [List.take_of_length_le (by simp)]⟩
  ·have:i=O.length:=by omega
   subst this
   rw [zw3 fun j hj=>j2 j hj hj] at hnx
   simp [g.pe,mkSt,go_sem]
   refine hx2 _ _ ?_
   simp [go_sem]
   rw [e3]
   refine ⟨by omega,by omega,hn' (k+1) _ (Weak.to [1,2,5,6] [((2,0),2),((77,0),1)] ?_) (by omega) (by omega)⟩
   rw [hnx]
   simp [mkSt,go_sem]
 ·have:k=l.length:=by omega
  subst this
  rw [List.take_of_length_le (Nat.le_refl _)] at hO
  have hf:z6c r l=O.filter fun x => !decide (x.w=r.zero):=by rw [<- hO]; rfl
  have hb2:(l.length+1)*(n+1)<=1048576:=by
   have:=Nat.mul_le_mul (show l.length+1<=20 by omega) (show n+1<=91 by omega)
   omega
  simp [g.pf,mkSt,go_sem]
  refine hx _ _ ?_
  simp [go_sem]
  rw [hf]
  clear hx hr hn'
  refine zag (S:=fun j:Nat=>mkSt [(2,.ptr 2 0 0 0),(5,.own 1 0 0 O.length),(9,.own 3 0 0 ((O.take j).filter fun x => !decide (x.w=r.zero)).length),(10,.p (.int .i64 j))] [(2,⟨2,[.p (enc r)]⟩),(1,⟨11,avs O⟩),(3,⟨11,avs ((O.take j).filter fun x => !decide (x.w=r.zero))⟩)]) (I:=fun j=>j<=O.length) (m:=fun j=>O.length - j) 0
   (Weak.nl 9 78 11 rfl (Weak.to [2,5,9,10] [((2,0),2),((1,0),1),((78,0),3)] (by simp [go_sem]))) (by omega) ?_
  rintro j j1 R hn' hr hx
  have e4:=i64s j (by omega)
  by_cases hj:j<O.length
  ·have hlj:((O.take j).filter fun x => !decide (x.w=r.zero)).length<=j:=Nat.le_trans (List.length_filter_le _ _) (by rw [List.length_take]; omega)
   have hts:(O.take (j+1)).filter (fun x => !decide (x.w=r.zero))=(O.take j).filter (fun x => !decide (x.w=r.zero))++if O[j].w=r.zero then [] else [O[j]]:=by
    rw [List.take_succ_eq_append_getElem hj,List.filter_append]; by_cases hz:O[j].w=r.zero<;>simp [hz]
   generalize hT:(O.take j).filter (fun x => !decide (x.w=r.zero))=T at *
   have hz:=iv2 _ (List.getElem_mem hj)
   simp [g.pg,mkSt,go_sem,hj]
   refine zae hj ?_
   refine zab (zo4 r O[j].w (hz.1.mono hb2)) ?_
   by_cases h0:O[j].w=r.zero
   ·rw [decide_eq_true h0]; simp [go_sem,e4]
    rw [if_pos h0] at hts
    refine hn' (j+1) _ (Weak.to [2,5,9,10] [((2,0),2),((1,0),1),((3,0),3)] ?_) (by omega) (by omega)
    rw [hts]
    simp [mkSt,go_sem]
   ·rw [decide_eq_false h0]; simp [go_sem,hj]
    rw [if_neg h0] at hts
    refine zae hj ?_
    rw [e4]
    refine ⟨by omega,hn' (j+1) _ (Weak.to [2,5,9,10] [((2,0),2),((1,0),1),((98,0),3)] ?_) (by omega) (by omega)⟩
    rw [hts]
    simp [mkSt,go_sem]
  ·have:j=O.length:=by omega
   subst this
   simp [g.pg,mkSt,go_sem]
   refine hx _ _ ?_
   simp [go_sem]
end Go.Ab
namespace Go.Ab
open Enc (enc)
attribute [local go_sem] zas Opd.slots
theorem yba {r:GRing} {l:List GW} (h:∀ w∈l,w.chk r):(l.map fun w=>w.tk r)=l:=by
 have:(l.map fun w=>w.tk r)=l.map id:=List.map_congr_left fun w hw=>zrq (h w hw)
 rw [this,List.map_id]
theorem zxb (a:GAuto) (n:Nat) (hn:n<=90) (hn1:3<=n) (h:a.sm n) (hl:a.arcs.length<=19) (hp:a.ring.parts.length<=1000000) (li:a.ini.length<=1000000) (lf:a.fin.length<=1000000)
  (ci:∀ w∈a.ini,w.chk a.ring) (cf:∀ w∈a.fin,w.chk a.ring) (ca:∀ x∈a.arcs,x.w.chk a.ring) :
  Sp P F.fg [enc a] (.pure (enc a.nf)):=by
 have k1:=zvt a.ring a.ini (fun w hw=>(h.ini w hw).mono (by omega)) li
 have k2:=zvt a.ring a.fin (fun w hw=>(h.fin w hw).mono (by omega)) lf
 rw [yba ci] at k1
 rw [yba cf] at k2
 have k3:=zxp a.ring a.arcs n hn hn1 hl fun x hx=>⟨h.arcs x hx,ca x hx⟩
 rw [zo7] at k3
 refine Sp.vz c.fg fun _=>?_
 simp [g.fg,go_sem]
 refine zab (z4u a.ring hp) ?_
 simp [go_sem]
 refine zab k1 ?_
 simp [go_sem]
 refine zab k2 ?_
 simp [go_sem]
 refine zab k3 ?_
 simp [go_sem,GAuto.nf]
noncomputable instance:DecidableEq GArc:=fun _ _=>Classical.propDecidable _
noncomputable instance:DecidableEq GTArc:=fun _ _=>Classical.propDecidable _
noncomputable instance:DecidableEq GAuto:=fun _ _=>Classical.propDecidable _
noncomputable instance:DecidableEq GTrans:=fun _ _=>Classical.propDecidable _
theorem zvc {x y:GArc}:x=y ↔ x.key=y.key/\x.w=y.w:=by
 cases x; cases y; simp [GArc.key,and_assoc]
theorem z35 {x y:GTArc}:x=y ↔ x.key=y.key/\x.w=y.w:=by
 cases x; cases y; simp [GTArc.key,and_assoc]
theorem z4m (a b:GAuto) (h:a.sm 1048576) (li:a.ini.length<=1000000) (lf:a.fin.length<=1000000) (la:a.arcs.length<=1000000) :
  Sp P F.ff [enc a,enc b] (.pure (.bool (decide (a=b)))):=by
 refine Sp.vz c.ff fun _=>?_
 simp [g.ff,go_sem]
 refine zab (z4n a.ring b.ring) ?_
 by_cases h1:a.ring=b.ring
 rotate_left
 ·rw [decide_eq_false h1]; simp [go_sem]; exact fun h=>h1 (by rw [h])
 rw [decide_eq_true h1]; simp [go_sem]
 by_cases h2:a.sy=b.sy
 rotate_left
 ·simp [h2]; exact fun h=>h2 (by rw [h])
 by_cases h3:a.st=b.st
 rotate_left
 ·simp [h2,h3]; exact fun h=>h3 (by rw [h])
 simp [h2,h3]
 refine zab (zki a.ini b.ini (by omega) h.ini) ?_
 by_cases h4:a.ini=b.ini
 rotate_left
 ·rw [decide_eq_false h4]; simp [go_sem]; exact fun h=>h4 (by rw [h])
 rw [decide_eq_true h4]; simp [go_sem]
 refine zab (zki a.fin b.fin (by omega) h.fin) ?_
 by_cases h5:a.fin=b.fin
 rotate_left
 ·rw [decide_eq_false h5]; simp [go_sem]; exact fun h=>h5 (by rw [h])
 rw [decide_eq_true h5]; simp [go_sem]
 by_cases h6:a.arcs.length=b.arcs.length
 rotate_left
 ·have:¬ (a.arcs.length:Int)=b.arcs.length:=by omega
  simp [this]; exact fun h=>h6 (by rw [h])
 simp [h6]
 refine zag (S:=fun k:Nat=>mkSt [(2,.ptr 1 0 0 0),(3,.ptr 2 0 0 0),(5,.p (.int .i64 k))] [(1,⟨7,[.p (enc a)]⟩),(2,⟨7,[.p (enc b)]⟩)]) (I:=fun k=>k<=a.arcs.length/\a.arcs.take k=b.arcs.take k) (m:=fun k=>a.arcs.length - k) 0
  (Weak.to [2,3,5] [((2,0),1),((3,0),2)] (by simp [go_sem,h2,h3])) ⟨by omega,by simp⟩ ?_
 rintro k ⟨h7,h8⟩ R hn hr' hx
 have e1:=i64s k (by omega)
 by_cases hk:k<a.arcs.length
 ·have hk':k<b.arcs.length:=by omega
  have hmem:a.arcs[k].w.sm 1048576:=h.arcs _ (List.getElem_mem hk)
  have hne:a.arcs[k]≠b.arcs[k]->a≠b:=fun h1 h2=>by subst h2; exact h1 rfl
  have htk:a.arcs[k]=b.arcs[k]->a.arcs.take (k+1)=b.arcs.take (k+1):=fun h1=>by
   rw [List.take_succ_eq_append_getElem hk,List.take_succ_eq_append_getElem hk',h8,h1]
  simp [g.o4,mkSt,go_sem,hk,hk']
  refine zae hk ?_
  refine zae hk' ?_
  have hle:lexI a.arcs[k].key b.arcs[k].key=0 ↔ a.arcs[k].key=b.arcs[k].key:=zid (by simp [GArc.key])
  refine zab (zmd a.arcs[k] b.arcs[k]) ?_
  simp [go_sem]
  refine ⟨fun h9=>?_,fun h9=>hr' _ ?_⟩
  ·refine zae hk ?_
   refine zae hk' ?_
   refine zab (zhd a.arcs[k].w hmem b.arcs[k].w) ?_
   by_cases h10:a.arcs[k].w=b.arcs[k].w
   ·rw [decide_eq_true h10]; simp [go_sem,e1]
    exact hn (k+1) _ (Weak.to [2,3,5] [((1,0),1),((2,0),2)] (by simp [mkSt,go_sem])) ⟨by omega,htk (zvc.2 ⟨hle.1 h9,h10⟩)⟩ (by omega)
   ·rw [decide_eq_false h10]; simp [go_sem]
    refine hr' _ ?_
    simp [go_sem]
    exact hne fun h=>h10 (by rw [h])
  ·simp [go_sem]
   exact hne fun h=>h9 (hle.2 (by rw [h]))
 ·simp [g.o4,mkSt,go_sem,hk]
  refine hx _ _ ?_
  have hall:a.arcs=b.arcs:=by
   rw [List.take_of_length_le (by omega),List.take_of_length_le (by omega)] at h8; exact h8
  have:a=b:=by cases a; cases b; simp_all
  simp [go_sem,this]
end Go.Ab
namespace Go.Ab
open Enc (enc)
attribute [local go_sem] zas Opd.slots
theorem zop (x y:GTArc):Sp P F.fu [enc x,enc y] (.pure (.int .i64 (lexI x.key y.key))):=by
 refine Sp.vz c.fu fun _=>?_
 simp [g.fu,go_sem]
 have k:=zig x.key y.key (by simp [GTArc.key])
 rw [show cmp5 x.key y.key=lexI x.key y.key from rfl] at k
 refine zaa k (by simp [go_sem,GTArc.key]) ?_
 simp [go_sem]
theorem zn6 (a:GTrans) (h:a.sm 1048576) (li:a.ini.length<=1000000) (lf:a.fin.length<=1000000):Sp P F.fo [enc a] (.pure (.bool (decide a.ok))):=by
 refine Sp.vz c.fo fun _=>?_
 simp [g.fo,go_sem]
 refine zaa (zau a.ring) rfl ?_
 cases hr:a.ring.ok
 ·simp [go_sem]; exact fun ok=>by rw [ok.ring] at hr; cases hr
 simp [go_sem]
 refine zaa (ze5 a.i) rfl ?_
 by_cases h1:1<=a.i/\a.i<=32
 rotate_left
 ·rw [decide_eq_false h1]; simp [go_sem]; exact fun ok=>h1 ok.i1
 rw [decide_eq_true h1]; simp [go_sem]
 refine zaa (ze5 a.o) rfl ?_
 by_cases h0:1<=a.o/\a.o<=32
 rotate_left
 ·rw [decide_eq_false h0]; simp [go_sem]; exact fun ok=>h0 ok.o1
 rw [decide_eq_true h0]; simp [go_sem]
 refine zaa (zja a.st 0 64) rfl ?_
 by_cases h2:0<=a.st/\a.st<=64
 rotate_left
 ·rw [decide_eq_false h2]; simp [go_sem]; exact fun ok=>h2 ⟨ok.st1,ok.st2⟩
 rw [decide_eq_true h2]; simp [go_sem]
 refine zab (zfz a.ring a.ini a.st h.ini (by omega)) ?_
 by_cases h3:(a.ini.length:Int)=a.st/\∀ w∈a.ini,w.chk a.ring
 rotate_left
 ·rw [decide_eq_false h3]; simp [go_sem]; exact fun ok=>h3 ⟨ok.il,ok.ini⟩
 rw [decide_eq_true h3]; simp [go_sem]
 refine zab (zfz a.ring a.fin a.st h.fin (by omega)) ?_
 by_cases h4:(a.fin.length:Int)=a.st/\∀ w∈a.fin,w.chk a.ring
 rotate_left
 ·rw [decide_eq_false h4]; simp [go_sem]; exact fun ok=>h4 ⟨ok.fl,ok.fin⟩
 rw [decide_eq_true h4]; simp [go_sem]
 refine ⟨fun h5=>fun ok=>by have:=ok.al; omega,fun h5=>?_⟩
 refine zag (S:=fun k:Nat=>mkSt [(1,.ptr 1 0 0 0),(3,.p (.int .i64 k))] [(1,⟨8,[.p (enc a)]⟩)]) (I:=fun k=>k<=a.arcs.length/\∀ i,(hi:i<a.arcs.length)->i<k->inT a.arcs[i] a) (m:=fun k=>a.arcs.length - k) 0
  (Weak.to [1,3] [((1,0),1)] (by simp [go_sem])) ⟨by omega,fun i _ h0=>by omega⟩ ?_
 rintro k ⟨h6,h7⟩ R hn hr' hx
 have e1:=i64s k (by omega)
 have e2:IntKind.i64.wrap (a.st - 1)=a.st - 1:=by
  by_cases hs:1<=a.st
  ·obtain ⟨m,hm⟩:=Int.eq_ofNat_of_zero_le (show 0<=a.st - 1 by omega)
   rw [hm]; exact i64w (by omega) (by omega)
  ·have:a.st=0:=by omega
   rw [this]; rfl
 simp [g.qr,mkSt,go_sem,e2]
 refine ⟨fun hk=>?_,fun hk=>hx _ _ ?_⟩
 ·refine zae hk ?_
  have hret:¬ inT a.arcs[k] a->¬ a.ok:=fun h ok=>h (ok.arcs _ (List.getElem_mem hk))
  have hsw:a.arcs[k].w.sm 1048576:=h.arcs _ (List.getElem_mem hk)
  have hnext:inT a.arcs[k] a->∀ i,(hi:i<a.arcs.length)->i<k+1->inT a.arcs[i] a:=fun hx i hi h0=>by
   by_cases hik:i<k
   ·exact h7 i hi hik
   ·have:i=k:=by omega
    subst this; exact hx
  generalize a.arcs[k]=x at *
  refine zaa (zja x.f 0 (a.st - 1)) rfl ?_
  by_cases h8:0<=x.f/\x.f<=a.st - 1
  rotate_left
  ·rw [decide_eq_false h8]; simp [go_sem]
   refine hr' _ ?_
   simp [go_sem]
   exact (hret fun hT=>h8 ⟨hT.1,by have:=hT.2.1; omega⟩)
  rw [decide_eq_true h8]; simp [go_sem,e2]
  refine zaa (zja x.t 0 (a.st - 1)) rfl ?_
  by_cases h9:0<=x.t/\x.t<=a.st - 1
  rotate_left
  ·rw [decide_eq_false h9]; simp [go_sem]
   refine hr' _ ?_
   simp [go_sem]
   exact (hret fun hT=>h9 ⟨hT.2.2.1,by have:=hT.2.2.2.1; omega⟩)
  rw [decide_eq_true h9]; simp [go_sem]
  refine zaa (zja x.i 0 a.i) rfl ?_
  by_cases h10:0<=x.i/\x.i<=a.i
  rotate_left
  ·rw [decide_eq_false h10]; simp [go_sem]
   refine hr' _ ?_
   simp [go_sem]
   exact (hret fun hT=>h10 ⟨hT.2.2.2.2.1,hT.2.2.2.2.2.1⟩)
  rw [decide_eq_true h10]; simp [go_sem]
  refine zaa (zja x.o 0 a.o) rfl ?_
  by_cases h11:0<=x.o/\x.o<=a.o
  rotate_left
  ·rw [decide_eq_false h11]; simp [go_sem]
   refine hr' _ ?_
   simp [go_sem]
   exact (hret fun hT=>h11 ⟨hT.2.2.2.2.2.2.1,hT.2.2.2.2.2.2.2.1⟩)
  rw [decide_eq_true h11]; simp [go_sem]
  refine zab (zhi a.ring x.w hsw) ?_
  by_cases hc:x.w.chk a.ring
  rotate_left
  ·simp [go_sem,hc]
   refine hr' _ ?_
   simp [go_sem]
   exact (hret fun hT=>hc hT.2.2.2.2.2.2.2.2)
  simp [go_sem,hc,e1]
  exact hn (k+1) _ (Weak.to [1,3] [((1,0),1)] (by simp [mkSt,go_sem])) ⟨by omega,hnext ⟨h8.1,by omega,h9.1,by omega,h10.1,h10.2,h11.1,h11.2,hc⟩⟩ (by omega)
 ·have hall:∀ x∈a.arcs,inT x a:=fun x hx=>by
   obtain ⟨i,hi,rfl⟩:=List.mem_iff_getElem.1 hx
   exact h7 i hi (by omega)
  have ok:a.ok:=⟨hr,h1,h0,h2.1,h2.2,h3.1,h4.1,by omega,hall,h3.2,h4.2⟩
  simp [go_sem,ok]
end Go.Ab
namespace Go.Ab
open Enc (enc)
attribute [local go_sem] zas Opd.slots
noncomputable def z6b (r:GRing) (l:List GTArc):List GTArc:=(nfm GTArc.key (upT r) id l).filter fun x => !decide (x.w=r.zero)
theorem z2f {r:GRing} {n:Nat} (hn1:1<=n) {l:List GTArc} (h:∀ x∈l,x.w.sm n/\x.w.chk r) (k:Nat) (hk:k<=l.length) :
  (nfm GTArc.key (upT r) id (l.take k)).length<=k/\∀ x∈nfm GTArc.key (upT r) id (l.take k),x.w.sm ((k+1)*(n+1))/\x.w.chk r:=by
 refine zun (up:=upT r) (nw:=id) (Q:=fun k x=>x.w.sm ((k+1)*(n+1))/\x.w.chk r) (fun k x hx=>⟨hx.1.mono (Nat.mul_le_mul_right _ (by omega)),hx.2⟩) (fun x hx=>⟨(h x hx).1.mono (by omega),(h x hx).2⟩) (fun k z x hx hz=>⟨?_,(zbs hz.2 (h x hx).2:(r.plus z.w x.w).chk r)⟩) (fun k x hx=>⟨hx.1.mono (Nat.mul_le_mul_right _ (by omega)),hx.2⟩) k hk
 have:=zp3 hz.1 (h x hx).1 hz.2 (h x hx).2 (Nat.le_trans hn1 (by rw [Nat.add_mul]; omega)) hn1
 have e:(k+1)*(n+1)+n+1=(k+1+1)*(n+1):=by rw [Nat.add_mul (k+1) 1]; omega
 rw [<- e]; exact this
theorem zo6 (r:GRing) (l:List GTArc):z6b r l=tidT r l:=by
 unfold z6b tidT
 rw [(zqd (up:=upT r) (nw:=id) (fun _ _=>rfl) (fun _=>rfl) l).1]
theorem ztr (r:GRing) (l:List GTArc) (n:Nat) (hn:n<=90) (hn1:3<=n) (hl:l.length<=19) (h:∀ x∈l,x.w.sm n/\x.w.chk r) :
  Sp P F.ck [enc r,.sl (ens l)] (.pure (.sl (ens (z6b r l)))):=by
 have inv:=z2f (r:=r) (n:=n) (by omega) h
 refine Sp.vz c.ck fun _=>?_
 simp [g.ck,go_sem]
 refine zag (S:=fun k:Nat=>mkSt [(1,.p (.sl (ens l))),(2,.ptr 2 0 0 0),(5,.own 1 0 0 (nfm GTArc.key (upT r) id (l.take k)).length),(6,.p (.int .i64 k))] [(2,⟨2,[.p (enc r)]⟩),(1,⟨12,avs (nfm GTArc.key (upT r) id (l.take k))⟩)]) (I:=fun k=>k<=l.length) (m:=fun k=>l.length - k) 0
  (Weak.nl 5 77 12 rfl (Weak.to [1,2,5,6] [((2,0),2),((77,0),1)] (by simp [go_sem,nfm]))) (by omega) ?_
 rintro k h1 R hn' hr hx
 have e3:=i64s k (by omega)
 obtain ⟨iv1,iv2⟩:=inv k h1
 generalize hO:nfm GTArc.key (upT r) id (l.take k)=O at *
 by_cases hk:k<l.length
 ·have hw:=h _ (List.getElem_mem hk)
  have hnx:=zcz (key:=GTArc.key) (up:=upT r) (nw:=id) hk
  rw [hO] at hnx
  simp [g.o9,mkSt,go_sem,hk]
  refine zae hk ?_
  try simp [go_sem]
  generalize l[k]=x at *
  refine zab (zaw r x.w (hw.1.mono (by omega))) ?_
  rw [zrq hw.2]
  simp [go_sem]
  refine zag (S:=fun i:Nat=>mkSt [(1,.p (.sl (ens l))),(2,.ptr 2 0 0 0),(5,.own 1 0 0 O.length),(6,.p (.int .i64 k)),(7,.ptr 3 0 0 0),(8,.p (.int .i64 i))] [(2,⟨2,[.p (enc r)]⟩),(1,⟨12,avs O⟩),(3,⟨12,[.p (enc x)]⟩)]) (I:=fun i=>i<=O.length/\∀ j,(hj:j<O.length)->j<i->O[j].key<x.key) (m:=fun i=>O.length - i) 0
   (Weak.to [1,2,5,6,7,8] [((2,0),2),((1,0),1),((7,0),3)] (by simp [go_sem])) ⟨by omega,fun j _ hj=>by omega⟩ ?_
  rintro i ⟨j1,j2⟩ R2 hn2 hr2 hx2
  have e4:=i64s i (by omega)
  by_cases hi:i<O.length
  ·simp [g.o8,mkSt,go_sem,hi]
   refine zae hi ?_
   refine zab (zop O[i] x) ?_
   have hlt:lexI O[i].key x.key<0 ↔ O[i].key<x.key:=zmu (by simp [GTArc.key])
   have hle:lexI O[i].key x.key=0 ↔ O[i].key=x.key:=zid (by simp [GTArc.key])
   simp [go_sem]
   refine ⟨fun h8=>?_,fun h8=>hx2 _ _ ?_⟩
   ·rw [e4]
    refine hn2 (i+1) _ (Weak.to [1,2,5,6,7,8] [((2,0),2),((1,0),1),((3,0),3)] (by simp [mkSt,go_sem])) ⟨by omega,fun j hj h0=>?_⟩ (by omega)
    by_cases hji:j<i
    ·exact j2 j hj hji
    ·have:j=i:=by omega
     subst this; exact hlt.1 h8
   ·simp [go_sem,hi]
    refine zae hi ?_
    refine zab (zop O[i] x) ?_
    simp [go_sem]
    refine ⟨fun h0=>?_,fun h0=>?_⟩
    ·rw [z16 hi j2 (hle.1 h0)] at hnx
     have hz:=iv2 _ (List.getElem_mem hi)
     have hb2:(k+1)*(n+1)<=2000:=by
      have:=Nat.mul_le_mul (show k+1<=20 by omega) (show n+1<=91 by omega)
      omega
     have hb3:n<=(k+1)*(n+1):=by rw [Nat.add_mul]; omega
     refine ⟨hi,zae hi ?_⟩
     refine zab (zp4 r O[i].w x.w _ hz.1 (hw.1.mono hb3) hb2 (by omega) hz.2 hw.2) ?_
     simp [go_sem,e3,hi]
     refine zae hi ?_
     refine hn' (k+1) _ (Weak.to [1,2,5,6] [((2,0),2),((1,0),1)] ?_) (by omega) (by omega)
     rw [hnx]
     simp [mkSt,go_sem,upT]
    ·rw [zw2 hi j2 (fun h=>by have:=hlt.2 h; omega) (fun h=>h0 (hle.2 h))] at hnx
     have hO2:O.length<=19:=by omega
     have hm:min i O.length=i:=by omega
     rw [hm]
     refine ⟨by omega,⟨by omega,by omega⟩,by omega,by omega,⟨by omega,by omega⟩,?_⟩
     rw [e3]
     have hlen:i+1+(O.length - i)=O.length+1:=by omega
     refine hn' (k+1) _ (Weak.to [1,2,5,6] [((2,0),2),((77,0),1)] ?_) (by omega) (by omega)
     rw [hnx]
     simp [mkSt,go_sem,hlen]
     exact ⟨by omega,by rw [List.take_of_length_le (by simp)]⟩
  ·have:i=O.length:=by omega
   subst this
   rw [zw3 fun j hj=>j2 j hj hj] at hnx
   simp [g.o8,mkSt,go_sem]
   refine hx2 _ _ ?_
   simp [go_sem]
   rw [e3]
   refine ⟨by omega,by omega,hn' (k+1) _ (Weak.to [1,2,5,6] [((2,0),2),((77,0),1)] ?_) (by omega) (by omega)⟩
   rw [hnx]
   simp [mkSt,go_sem]
 ·have:k=l.length:=by omega
  subst this
  rw [List.take_of_length_le (Nat.le_refl _)] at hO
  have hf:z6b r l=O.filter fun x => !decide (x.w=r.zero):=by rw [<- hO]; rfl
  have hb2:(l.length+1)*(n+1)<=1048576:=by
   have:=Nat.mul_le_mul (show l.length+1<=20 by omega) (show n+1<=91 by omega)
   omega
  simp [g.o9,mkSt,go_sem]
  refine hx _ _ ?_
  simp [go_sem]
  rw [hf]
  clear hx hr hn'
  refine zag (S:=fun j:Nat=>mkSt [(2,.ptr 2 0 0 0),(5,.own 1 0 0 O.length),(9,.own 3 0 0 ((O.take j).filter fun x => !decide (x.w=r.zero)).length),(10,.p (.int .i64 j))] [(2,⟨2,[.p (enc r)]⟩),(1,⟨12,avs O⟩),(3,⟨12,avs ((O.take j).filter fun x => !decide (x.w=r.zero))⟩)]) (I:=fun j=>j<=O.length) (m:=fun j=>O.length - j) 0
   (Weak.nl 9 78 12 rfl (Weak.to [2,5,9,10] [((2,0),2),((1,0),1),((78,0),3)] (by simp [go_sem]))) (by omega) ?_
  rintro j j1 R hn' hr hx
  have e4:=i64s j (by omega)
  by_cases hj:j<O.length
  ·have hlj:((O.take j).filter fun x => !decide (x.w=r.zero)).length<=j:=Nat.le_trans (List.length_filter_le _ _) (by rw [List.length_take]; omega)
   have hts:(O.take (j+1)).filter (fun x => !decide (x.w=r.zero))=(O.take j).filter (fun x => !decide (x.w=r.zero))++if O[j].w=r.zero then [] else [O[j]]:=by
    rw [List.take_succ_eq_append_getElem hj,List.filter_append]; by_cases hz:O[j].w=r.zero<;>simp [hz]
   generalize hT:(O.take j).filter (fun x => !decide (x.w=r.zero))=T at *
   have hz:=iv2 _ (List.getElem_mem hj)
   simp [g.pb,mkSt,go_sem,hj]
   refine zae hj ?_
   refine zab (zo4 r O[j].w (hz.1.mono hb2)) ?_
   by_cases h0:O[j].w=r.zero
   ·rw [decide_eq_true h0]; simp [go_sem,e4]
    rw [if_pos h0] at hts
    refine hn' (j+1) _ (Weak.to [2,5,9,10] [((2,0),2),((1,0),1),((3,0),3)] ?_) (by omega) (by omega)
    rw [hts]
    simp [mkSt,go_sem]
   ·rw [decide_eq_false h0]; simp [go_sem,hj]
    rw [if_neg h0] at hts
    refine zae hj ?_
    rw [e4]
    refine ⟨by omega,hn' (j+1) _ (Weak.to [2,5,9,10] [((2,0),2),((1,0),1),((98,0),3)] ?_) (by omega) (by omega)⟩
    rw [hts]
    simp [mkSt,go_sem]
  ·have:j=O.length:=by omega
   subst this
   simp [g.pb,mkSt,go_sem]
   refine hx _ _ ?_
   simp [go_sem]
end Go.Ab
namespace Go.Ab
open Enc (enc)
attribute [local go_sem] zas Opd.slots
end Go.Ab
namespace Go.Ab
open Enc (enc)
attribute [local go_sem] zas Opd.slots
theorem z2h (a:GTrans) (n:Nat) (hn:n<=90) (hn1:3<=n) (h:a.sm n) (hl:a.arcs.length<=19) (hp:a.ring.parts.length<=1000000) (hs:a.st<=1000) (li:(a.ini.length:Int)=a.st) (lf:(a.fin.length:Int)=a.st)
  (ci:∀ w∈a.ini,w.chk a.ring) (cf:∀ w∈a.fin,w.chk a.ring) (ca:∀ x∈a.arcs,x.w.chk a.ring) :
  Sp P F.jp [enc a] (.pure (enc a.nf)):=by
 have k3:=ztr a.ring a.arcs n hn hn1 hl fun x hx=>⟨h.arcs x hx,ca x hx⟩
 rw [zo6] at k3
 have llf:a.fin.length=a.ini.length:=by omega
 refine Sp.vz c.jp fun _=>?_
 simp [g.jp,go_sem]
 refine ⟨by omega,?_⟩
 refine zab k3 ?_
 simp [go_sem]
 refine zag (S:=fun k:Nat=>mkSt [(1,.ptr 1 0 0 0),(2,.ptr 2 0 0 0),(3,.ptr 3 0 0 0),(4,.p (.int .i64 k))]
   [(1,⟨8,[.p (enc a)]⟩),(2,⟨8,[.agg [.p (.int .i64 0),.nil,.p (.int .i64 0),.p (.int .i64 0),.p (.int .i64 0),.nil,.nil,.nil]]⟩),
    (3,⟨8,[.agg [.p (.int .i64 a.ring.kind),.own 6 0 0 a.ring.parts.length,.p (.int .i64 a.i),.p (.int .i64 a.o),.p (.int .i64 a.st),.own 4 0 0 k,.own 5 0 0 k,.p (.sl (ens (tidT a.ring a.arcs)))]]⟩),(4,⟨8,avs (a.ini.take k)⟩),(5,⟨8,avs (a.fin.take k)⟩),(6,⟨1,avs a.ring.parts⟩)])
  (I:=fun k=>k<=a.ini.length) (m:=fun k=>a.ini.length - k) 0
  ((Weak.nilCell (s0:=3) (g0:=0) (i:=5) (s:=77) (sz:=8) rfl).trans ((Weak.nilCell (s0:=3) (g0:=0) (i:=6) (s:=78) (sz:=8) rfl).trans (Weak.to [1,2,3,4] [((1,0),1),((2,0),2),((3,0),3),((77,0),4),((78,0),5),((11,0),6)] (by simp [go_sem])))) (by omega) ?_
 rintro k h6 R hn' hr hx
 have e1:=i64s k (by omega)
 by_cases hk:k<a.ini.length
 ·have hk2:k<a.fin.length:=by omega
  have hk3:(k:Int)<a.st:=by omega
  simp [g.o3,mkSt,go_sem,hk,hk2,hk3]
  refine zae hk ?_
  try simp [go_sem]
  have m1:=List.getElem_mem hk
  have m2:=List.getElem_mem hk2
  refine zab (zaw a.ring a.ini[k] ((h.ini _ m1).mono (by omega))) ?_
  rw [zrq (ci _ m1)]
  simp [go_sem,hk,hk2]
  refine ⟨⟨by omega,by omega⟩,zae hk2 ?_⟩
  refine zab (zaw a.ring a.fin[k] ((h.fin _ m2).mono (by omega))) ?_
  rw [zrq (cf _ m2)]
  have t1:avs (a.ini.take (k+1))=avs (a.ini.take k)++[.p (enc a.ini[k])]:=by rw [List.take_succ_eq_append_getElem hk,zbp]; rfl
  have t2:avs (a.fin.take (k+1))=avs (a.fin.take k)++[.p (enc a.fin[k])]:=by rw [List.take_succ_eq_append_getElem hk2,zbp]; rfl
  simp [go_sem,e1]
  refine ⟨⟨by omega,by omega⟩,hn' (k+1) _ (Weak.to [1,2,3,4] [((1,0),1),((2,0),2),((3,0),3),((42,0),4),((54,0),5),((6,0),6)] ?_) (by omega) (by omega)⟩
  simp [mkSt,go_sem,t1,t2]
 ·have:k=a.ini.length:=by omega
  subst this
  have hk3:¬ (a.ini.length:Int)<a.st:=by omega
  simp [g.o3,mkSt,go_sem,hk3]
  refine hx _ _ ?_
  simp [go_sem,GTrans.nf,llf]
  rw [List.take_of_length_le (by rw [List.length_take]; exact Nat.min_le_left _ _),List.take_of_length_le (by omega)]
end Go.Ab
namespace Go.Ab
open Enc (enc)
attribute [local go_sem] zas Opd.slots
theorem zw4 {t:GTrans} (h:t.ok):t.inA.ok :=
 ⟨h.ring,h.i1.1,h.i1.2,h.st1,h.st2,h.il,h.fl,by simpa [GTrans.inA] using h.al,fun x hx=>by
  obtain ⟨y,hy,rfl⟩:=List.mem_map.1 hx
  obtain ⟨a1,a2,a3,a4,a5,a6,a7,a8,a9⟩:=h.arcs y hy
  exact ⟨a1,a2,a3,a4,a5,a6,a9⟩,h.ini,h.fin⟩
theorem z07 {t:GTrans} (h:t.ok):t.outA.ok :=
 ⟨h.ring,h.o1.1,h.o1.2,h.st1,h.st2,h.il,h.fl,by simpa [GTrans.outA] using h.al,fun x hx=>by
  obtain ⟨y,hy,rfl⟩:=List.mem_map.1 hx
  obtain ⟨a1,a2,a3,a4,a5,a6,a7,a8,a9⟩:=h.arcs y hy
  exact ⟨a1,a2,a3,a4,a7,a8,a9⟩,h.ini,h.fin⟩
theorem zw5 {a:GAuto} (h:a.ok):a.idt.ok :=
 ⟨h.ring,⟨h.sy1,h.sy2⟩,⟨h.sy1,h.sy2⟩,h.st1,h.st2,h.il,h.fl,by simpa [GAuto.idt] using h.al,fun x hx=>by
  obtain ⟨y,hy,rfl⟩:=List.mem_map.1 hx
  obtain ⟨a1,a2,a3,a4,a5,a6,a7⟩:=h.arcs y hy
  exact ⟨a1,a2,a3,a4,a5,a6,a5,a6,a7⟩,h.ini,h.fin⟩
end Go.Ab
namespace Go.Ab
section
variable {α : Type} {key : α -> List Int} {wt : α -> GW} {r:GRing} {up : α -> α -> α}
theorem zpq (hr:r.ok=true) (hk:∀ z y,key (up z y)=key z) (hw:∀ z y,wt (up z y)=r.plus (wt z) (wt y)) {l:List α} (h:∀ x∈l,(wt x).chk r) {x : α} (hx:x∈tid key wt r up l):∃ y∈l,key y=key x:=by
 obtain ⟨s,c,e⟩:=zla (up:=up) hr hk hw h
 by_cases hn:∃ y∈l,key y=key x
 ·exact hn
 ·have h1:=zvb s (fun y hy=>(c y hy).1) hx
  unfold atK at h1
  rw [e] at h1
  have h2:atK key wt r l (key x)=r.zero:=zva fun y hy e=>hn ⟨y,hy,e⟩
  exact absurd (h1.symm.trans h2) (c x hx).2
theorem zt1 (hk:∀ z y,key (up z y)=key z) (l:List α):(tid key wt r up l).length<=l.length:=by
 unfold tid
 refine Nat.le_trans (List.length_filter_le _ _) ?_
 have h:=(zmn (key:=key) (up:=up) (nw:=id) (Q:=fun _ _=>True) (l:=srt key l) (fun _ _ _=>trivial) (fun _ _=>trivial) (fun _ _ _ _ _=>trivial) (fun _ _ _=>trivial) _ (Nat.le_refl _)).1
 rw [List.take_length,(za4 l).2.1] at h
 exact h
end
theorem zlu {r:GRing} (hr:r.ok=true) {l:List GTArc} (h:∀ x∈l,x.w.chk r):SSrt GTArc.key (tid GTArc.key GTArc.w r (upT r) l)/\(∀ x∈tid GTArc.key GTArc.w r (upT r) l,x.w.chk r/\x.w≠r.zero)/\∀ p,atQ GTArc.key GTArc.w r (tid GTArc.key GTArc.w r (upT r) l) p=atQ GTArc.key GTArc.w r l p:=zla (key:=GTArc.key) (wt:=GTArc.w) (up:=upT r) hr (fun _ _=>rfl) (fun _ _=>rfl) h
theorem zsq {a:GTrans} (ok:a.ok):a.nf.ok:=by
 have hc:∀ x∈a.arcs,x.w.chk a.ring:=fun x hx=>(ok.arcs x hx).2.2.2.2.2.2.2.2
 refine ⟨ok.ring,ok.i1,ok.o1,ok.st1,ok.st2,ok.il,ok.fl,Nat.le_trans (zt1 (key:=GTArc.key) (wt:=GTArc.w) (r:=a.ring) (up:=upT a.ring) (fun _ _=>rfl) a.arcs) ok.al,fun x hx=>?_,ok.ini,ok.fin⟩
 have hx':x∈tid GTArc.key GTArc.w a.ring (upT a.ring) a.arcs:=hx
 obtain ⟨y,hy,e⟩:=zpq (key:=GTArc.key) (wt:=GTArc.w) (up:=upT a.ring) ok.ring (fun _ _=>rfl) (fun _ _=>rfl) hc hx'
 obtain ⟨a1,a2,a3,a4,a5,a6,a7,a8,_⟩:=ok.arcs y hy
 simp only [GTArc.key,List.cons.injEq,and_true] at e
 obtain ⟨e1,e2,e3,e4⟩:=e
 exact ⟨e1 ▸ a1,e1 ▸ a2,e4 ▸ a3,e4 ▸ a4,e2 ▸ a5,e2 ▸ a6,e3 ▸ a7,e3 ▸ a8,((zlu ok.ring hc).2.1 x hx').1⟩
def swK:List Int->List Int
 | [a,b,c,d]=>[a,c,b,d]
 | l=>l
def inK:List Int->List Int
 | [a,b,_,d]=>[a,b,d]
 | l=>l
def ouK:List Int->List Int
 | [a,_,c,d]=>[a,c,d]
 | l=>l
def idK:List Int->List Int
 | [a,b,c]=>[a,b,b,c]
 | l=>l
theorem zkd {α β : Type} {wt : α -> GW} {wtb : β -> GW} {r:GRing} {f : α -> β} (hf:∀ x,wtb (f x)=wt x) {l:List α} (h:∀ x∈l,(wt x).chk r):∀ y∈l.map f,(wtb y).chk r:=fun y hy=>by
 obtain ⟨x,hx,rfl⟩:=List.mem_map.1 hy
 rw [hf]; exact h x hx
theorem zv0 {a:GAuto} (ok:a.ok):a.idt.nf.inA.nf=a.nf/\a.idt.nf.outA.nf=a.nf:=by
 have hc:∀ x∈a.arcs,x.w.chk a.ring:=fun x hx=>(ok.arcs x hx).2.2.2.2.2.2
 have h1:∀ y∈a.arcs.map idT,y.w.chk a.ring:=zkd (wt:=GArc.w) (f:=idT) (fun _=>rfl) hc
 obtain ⟨_,s2,s3⟩:=zlu ok.ring h1
 have h2:∀ y∈(tid GTArc.key GTArc.w a.ring (upT a.ring) (a.arcs.map idT)).map (labA GTArc.i),y.w.chk a.ring:=zkd (wt:=GTArc.w) (f:=labA GTArc.i) (fun _=>rfl) fun x hx=>(s2 x hx).1
 have h3:∀ y∈(tid GTArc.key GTArc.w a.ring (upT a.ring) (a.arcs.map idT)).map (labA GTArc.o),y.w.chk a.ring:=zkd (wt:=GTArc.w) (f:=labA GTArc.o) (fun _=>rfl) fun x hx=>(s2 x hx).1
 have key4:∀ x:GArc,inK (idK x.key)=x.key/\ouK (idK x.key)=x.key:=fun x=>⟨rfl,rfl⟩
 have q:∀ (g:List Int->List Int) (p:List Int->Bool),(∀ x:GArc,g (idK x.key)=x.key)->atQ GArc.key GArc.w a.ring a.arcs (fun k=>p (g (idK k)))=atQ GArc.key GArc.w a.ring a.arcs p:=fun g p hg=>by
  unfold atQ
  congr 2
  exact List.filter_congr fun x _=>by simp only [hg]
 have e1:tidA a.ring ((tidT a.ring (a.arcs.map idT)).map (labA GTArc.i))=tidA a.ring a.arcs:=by
  refine zt2 (key:=GArc.key) (wt:=GArc.w) (up:=upA a.ring) ok.ring (fun _ _=>rfl) (fun _ _=>rfl) (fun x y h h'=>zvc.2 ⟨h,h'⟩) h2 hc fun p=>?_
  rw [zrd (key:=GTArc.key) (wt:=GTArc.w) (labA GTArc.i) inK (fun _=>rfl) (fun _=>rfl),zzs,s3,zrd (key:=GArc.key) (wt:=GArc.w) idT idK (fun _=>rfl) (fun _=>rfl)]
  exact q inK p fun x=>rfl
 have e2:tidA a.ring ((tidT a.ring (a.arcs.map idT)).map (labA GTArc.o))=tidA a.ring a.arcs:=by
  refine zt2 (key:=GArc.key) (wt:=GArc.w) (up:=upA a.ring) ok.ring (fun _ _=>rfl) (fun _ _=>rfl) (fun x y h h'=>zvc.2 ⟨h,h'⟩) h3 hc fun p=>?_
  rw [zrd (key:=GTArc.key) (wt:=GTArc.w) (labA GTArc.o) ouK (fun _=>rfl) (fun _=>rfl),zzs,s3,zrd (key:=GArc.key) (wt:=GArc.w) idT idK (fun _=>rfl) (fun _=>rfl)]
  exact q ouK p fun x=>rfl
 cases a
 simp only [GTrans.nf,GAuto.idt,GTrans.inA,GTrans.outA,GAuto.nf] at e1 e2 ⊢
 rw [e1,e2]
 exact ⟨rfl,rfl⟩
end Go.Ab
namespace Go.Ab
open Go.Proofs
def g.tw:GC :=
.seq (.seq (.reg [⟨some 15,.mv (.t 9),none⟩,⟨some 16,.mv (.t 7),none⟩,⟨some 17,.len (.t 16),none⟩,⟨some 18,.ibin .lss (.t 15) (.t 17),none⟩] [[],[],[16],[15,17]])
 (.cond (.t 18) [18] (.nop)
 (.ext 0)))
 (.seq (.blk 1 (.seq (.reg [⟨some 21,.mv (.t 1),none⟩,⟨some 22,.not (.t 21),none⟩,⟨some 23,.mv (.t 22),none⟩,⟨some 24,.mv (.t 7),some (23,false)⟩,⟨some 25,.mv (.t 9),some (23,false)⟩,⟨some 26,.iaddr 12 (.t 24) (.t 25),some (23,false)⟩,⟨some 27,.faddr 1 (.t 26),some (23,false)⟩,⟨some 28,.load 1 false (.t 27),some (23,false)⟩,⟨some 29,.ibin .eql (.t 28) (.c (.p (.int .i64 0))),some (23,false)⟩,⟨some 30,.pick (.t 23) (.c (.p (.bool true))) (.t 29),none⟩,⟨some 31,.mv (.t 30),none⟩,⟨some 32,.mv (.t 2),some (31,true)⟩,⟨some 33,.not (.t 32),some (31,true)⟩,⟨some 34,.mv (.t 33),some (31,true)⟩,⟨some 35,.mv (.t 7),some (34,false)⟩,⟨some 36,.mv (.t 9),some (34,false)⟩,⟨some 37,.iaddr 12 (.t 35) (.t 36),some (34,false)⟩,⟨some 38,.faddr 2 (.t 37),some (34,false)⟩,⟨some 39,.load 1 false (.t 38),some (34,false)⟩,⟨some 40,.ibin .eql (.t 39) (.c (.p (.int .i64 0))),some (34,false)⟩,⟨some 41,.pick (.t 34) (.c (.p (.bool true))) (.t 40),some (31,true)⟩,⟨some 42,.pick (.t 31) (.t 41) (.c (.p (.bool false))),none⟩] [[],[21],[22],[],[],[24,25],[26],[27],[28],[23,29],[30],[],[32],[33],[],[],[35,36],[37],[38],[39],[34,40],[31,41]])
 (.cond (.t 42) [42] (.regD [⟨some 43,.mv (.t 8),none⟩,⟨some 44,.mv (.t 7),none⟩,⟨some 45,.mv (.t 9),none⟩,⟨some 46,.iaddr 12 (.t 44) (.t 45),none⟩,⟨some 47,.faddr 0 (.t 46),none⟩,⟨some 48,.load 1 false (.t 47),none⟩,⟨some 49,.mv (.t 7),none⟩,⟨some 50,.mv (.t 9),none⟩,⟨some 51,.iaddr 12 (.t 49) (.t 50),none⟩,⟨some 52,.faddr 3 (.t 51),none⟩,⟨some 53,.load 1 false (.t 52),none⟩,⟨some 54,.build [.p (.int .i64 0),.p (.int .i64 0)] [(0,1,.t 48),(1,1,.t 53)],none⟩,⟨some 55,.bslice 2 (.p (.agg [.int .i64 0,.int .i64 0])) 1 [(0,.t 54)],none⟩,⟨some 56,.append 2 (.t 43) (.t 55),none⟩,⟨some 8,.mv (.t 56),none⟩] [[],[],[],[1,2],[3,1,2],[4,3,1,2],[],[],[6,7],[8,6,7],[9,8,6,7],[5,10,4,3,1,2,9,8,6,7],[11,5,10,4,3,1,2,9,8,6,7],[0,12,11,5,10,4,3,1,2,9,8,6,7],[13,0,12,11,5,10,4,3,1,2,9,8,6,7]] [[8],[],[],[44,45],[46],[47],[],[],[49,50],[51],[52],[48,53],[54],[43,55],[56]])
 (.nop))))
 (.reg [⟨some 19,.mv (.t 9),none⟩,⟨some 20,.ibin .add (.t 19) (.c (.p (.int .i64 1))),none⟩,⟨some 9,.mv (.t 20),none⟩] [[9],[19],[20]]))
def g.kf:GC :=
.seq (.reg [⟨some 3,.box 8 (.t 0),none⟩,⟨some 6,.mv (.c (.p (.bool false))),none⟩] [[0],[6]])
 (.seq (.reg [⟨some 10,.faddr 0 (.t 3),none⟩,⟨some 11,.load 2 true (.t 10),none⟩,⟨some 12,.faddr 7 (.t 3),none⟩,⟨some 13,.load 1 false (.t 12),none⟩,⟨some 14,.call F.ck [.t 11,.t 13],none⟩,⟨some 7,.mv (.t 14),none⟩] [[],[10],[],[12],[11,13],[14]])
 (.seq (.reg [⟨some 8,.mv (.c .nil),none⟩] [])
 (.seq (.seq (.reg [⟨some 9,.mv (.c (.p (.int .i64 0))),none⟩] [])
 (.blk 0 (.loop g.tw)))
 (.seq (.reg [⟨some 57,.faddr 4 (.t 3),none⟩,⟨some 58,.load 1 false (.t 57),none⟩,⟨some 59,.mv (.t 8),none⟩,⟨some 60,.call F.kz [.t 58,.t 59],none⟩,⟨some 6,.mv (.t 60),none⟩] [[1,2,3,7,9],[57],[8],[58,59],[60]])
 (.ret)))))
theorem c.kf:zac P F.kf=some ⟨61,3,g.kf.er,[(6,none)]⟩:=by kernel_rfl
end Go.Ab
