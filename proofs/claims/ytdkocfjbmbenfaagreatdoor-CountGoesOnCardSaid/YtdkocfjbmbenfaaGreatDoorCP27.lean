/-
Proofs for the law CountGoesOn, part 27. Conditions: none.
-/
import Derived.Test.YtdkocfjbmbenfaaGreatDoorCP26
import Derived.Test.YtdkocfjbmbenfaaGreatDoorCP23
import Derived.Test.YtdkocfjbmbenfaaGreatDoorCP25
import Derived.Test.YtdkocfjbmbenfaaGreatDoorCP12
import Derived.Test.YtdkocfjbmbenfaaGreatDoorCP13
set_option maxRecDepth 100000
set_option maxHeartbeats 4000000
set_option linter.all false
namespace Go.Ab
open Enc (enc)
attribute [local go_sem] zam Opd.slots
theorem zmk (l:List GW) (f:FuncId) (caps:List PV) (p:GW->Bool) (hl:l.length<=4611686018427387904) (hf:∀ x∈l,Sp P f (enc x::caps) (.pure (.bool (p x)))) :
  Sp P F.ly [.sl (ens l),.fn f caps] (.pure (.int .i64 (idxI p l))):=by
 refine Sp.vz c.ly fun _=>?_
 simp [g.ly,go_sem]
 refine zai (S:=fun k:Nat=>mkSt [(0,.p (.sl (ens l))),(1,.p (.fn f caps)),(7,.p (.int .i64 l.length)),(8,.p (.int .i64 k))] []) (I:=fun k=>k<=l.length/\∀ x∈l.take k,p x=false) (m:=fun k=>l.length - k) 0
  (Weak.to [0,1,7,8] [] (by simp [go_sem])) ⟨by omega,by simp⟩ ?_
 rintro k ⟨h1,h2⟩ R hn hr hx
 have e1:=i64s k (by omega)
 simp [g.sa,mkSt,go_sem]
 refine ⟨fun hk=>?_,fun hk=>hx _ _ ?_⟩
 ·refine zae hk ?_
  try simp [go_sem]
  refine zaa (hf l[k] (List.getElem_mem hk)) (zb1 (by simp [go_sem]) (zfz _ _)) ?_
  rcases Bool.eq_false_or_eq_true (p l[k]) with h3|h3
  ·simp [h3,go_sem]
   refine hr _ ?_
   simp [go_sem,zua hk h2 h3]
  ·simp [h3,e1,go_sem]
   refine hn (k+1) _ (Weak.to [0,1,7,8] [] (by simp [go_sem])) ⟨by omega,fun x hx=>?_⟩ (by omega)
   rw [List.take_succ_eq_append_getElem hk] at hx
   rcases List.mem_append.1 hx with hx|hx
   ·exact h2 x hx
   ·simp at hx; rw [hx]; exact h3
 ·have:k=l.length:=by omega
  subst this
  simp [go_sem,zml (p:=p) (l:=l) (by simpa using h2)]
theorem znl (l:List GW) (f:FuncId) (caps:List PV) (p:GW->Bool) (hl:l.length<=4611686018427387904) (hf:∀ x∈l,Sp P f (enc x::caps) (.pure (.bool (p x)))) :
  Sp P F.lc [.sl (ens l),.fn f caps] (.pure (.bool (l.any p))):=by
 refine Sp.vz c.lc fun _=>?_
 simp [g.lc,go_sem]
 refine zaa (zmk l f caps p hl hf) rfl ?_
 simp [go_sem,zh4]
theorem zke (l:List GArc) (f:FuncId) (caps:List PV) (p:GArc->Bool) (hl:l.length<=4611686018427387904) (hf:∀ x∈l,Sp P f (enc x::caps) (.pure (.bool (p x)))) :
  Sp P F.ii [.sl (ens l),.fn f caps] (.pure (.int .i64 (idxI p l))):=by
 refine Sp.vz c.ii fun _=>?_
 simp [g.ii,go_sem]
 refine zai (S:=fun k:Nat=>mkSt [(0,.p (.sl (ens l))),(1,.p (.fn f caps)),(7,.p (.int .i64 l.length)),(8,.p (.int .i64 k))] []) (I:=fun k=>k<=l.length/\∀ x∈l.take k,p x=false) (m:=fun k=>l.length - k) 0
  (Weak.to [0,1,7,8] [] (by simp [go_sem])) ⟨by omega,by simp⟩ ?_
 rintro k ⟨h1,h2⟩ R hn hr hx
 have e1:=i64s k (by omega)
 simp [g.rq,mkSt,go_sem]
 refine ⟨fun hk=>?_,fun hk=>hx _ _ ?_⟩
 ·refine zae hk ?_
  try simp [go_sem]
  refine zaa (hf l[k] (List.getElem_mem hk)) (zb1 (by simp [go_sem]) (zfz _ _)) ?_
  rcases Bool.eq_false_or_eq_true (p l[k]) with h3|h3
  ·simp [h3,go_sem]
   refine hr _ ?_
   simp [go_sem,zua hk h2 h3]
  ·simp [h3,e1,go_sem]
   refine hn (k+1) _ (Weak.to [0,1,7,8] [] (by simp [go_sem])) ⟨by omega,fun x hx=>?_⟩ (by omega)
   rw [List.take_succ_eq_append_getElem hk] at hx
   rcases List.mem_append.1 hx with hx|hx
   ·exact h2 x hx
   ·simp at hx; rw [hx]; exact h3
 ·have:k=l.length:=by omega
  subst this
  simp [go_sem,zml (p:=p) (l:=l) (by simpa using h2)]
theorem zud (l:List GArc) (f:FuncId) (caps:List PV) (p:GArc->Bool) (hl:l.length<=4611686018427387904) (hf:∀ x∈l,Sp P f (enc x::caps) (.pure (.bool (p x)))) :
  Sp P F.kj [.sl (ens l),.fn f caps] (.pure (.bool (l.any p))):=by
 refine Sp.vz c.kj fun _=>?_
 simp [g.kj,go_sem]
 refine zaa (zke l f caps p hl hf) rfl ?_
 simp [go_sem,zh4]
theorem zks (l m:List GMono) (f:FuncId) (hl:l.length<=4611686018427387904) (hf:∀ x∈l,∀ y∈m,Sp P f [enc x,enc y] (.pure (.bool (decide (x=y))))) :
  Sp P F.ku [.sl (ens l),.sl (ens m),.fn f []] (.pure (.bool (decide (l=m)))):=by
 refine Sp.vz c.ku fun _=>?_
 simp [g.ku,go_sem]
 refine ⟨fun h=>?_,fun h=>fun he=>h (by rw [he])⟩
 have hlen:l.length=m.length:=by omega
 refine zai (S:=fun k:Nat=>mkSt [(1,.p (.sl (ens m))),(2,.p (.fn f [])),(15,.p (.sl (ens l))),(16,.p (.int .i64 l.length)),(17,.p (.int .i64 k))] []) (I:=fun k=>k<=l.length/\l.take k=m.take k) (m:=fun k=>l.length - k) 0
  (Weak.to [1,2,15,16,17] [] (by simp [go_sem])) ⟨by omega,by simp⟩ ?_
 rintro k ⟨h1,h2⟩ R hn hr hx
 have e1:=i64s k (by omega)
 simp [g.rj,mkSt,go_sem]
 refine ⟨fun hk=>?_,fun hk=>hx _ _ ?_⟩
 ·have hk2:k<m.length:=by omega
  have bad:l[k]≠m[k]->l≠m:=fun h h'=>by subst h'; exact h rfl
  refine zae hk ?_
  try simp [go_sem]
  refine zae hk2 ?_
  try simp [go_sem]
  refine zab (hf l[k] (List.getElem_mem hk) m[k] (List.getElem_mem hk2)) ?_
  by_cases h6:l[k]=m[k]
  ·simp [h6,e1,go_sem]
   exact hn (k+1) _ (Weak.to [1,2,15,16,17] [] (by simp [go_sem])) ⟨by omega,by rw [List.take_succ_eq_append_getElem hk,List.take_succ_eq_append_getElem hk2,h2,h6]⟩ (by omega)
  ·have h8:l≠m:=bad h6
   simp [h6,go_sem]
   exact hr _ (by simp [h8,go_sem])
 ·have h3:l=m:=by rw [<- List.take_length (l:=l),<- List.take_length (l:=m),<- hlen,show l.length=k by omega]; exact h2
  simp [h3,go_sem]
theorem znm (l m:List GW) (f:FuncId) (hl:l.length<=4611686018427387904) (hf:∀ x∈l,∀ y∈m,Sp P f [enc x,enc y] (.pure (.bool (decide (x=y))))) :
  Sp P F.kw [.sl (ens l),.sl (ens m),.fn f []] (.pure (.bool (decide (l=m)))):=by
 refine Sp.vz c.kw fun _=>?_
 simp [g.kw,go_sem]
 refine ⟨fun h=>?_,fun h=>fun he=>h (by rw [he])⟩
 have hlen:l.length=m.length:=by omega
 refine zai (S:=fun k:Nat=>mkSt [(1,.p (.sl (ens m))),(2,.p (.fn f [])),(15,.p (.sl (ens l))),(16,.p (.int .i64 l.length)),(17,.p (.int .i64 k))] []) (I:=fun k=>k<=l.length/\l.take k=m.take k) (m:=fun k=>l.length - k) 0
  (Weak.to [1,2,15,16,17] [] (by simp [go_sem])) ⟨by omega,by simp⟩ ?_
 rintro k ⟨h1,h2⟩ R hn hr hx
 have e1:=i64s k (by omega)
 simp [g.rk,mkSt,go_sem]
 refine ⟨fun hk=>?_,fun hk=>hx _ _ ?_⟩
 ·have hk2:k<m.length:=by omega
  have bad:l[k]≠m[k]->l≠m:=fun h h'=>by subst h'; exact h rfl
  refine zae hk ?_
  try simp [go_sem]
  refine zae hk2 ?_
  try simp [go_sem]
  refine zab (hf l[k] (List.getElem_mem hk) m[k] (List.getElem_mem hk2)) ?_
  by_cases h6:l[k]=m[k]
  ·simp [h6,e1,go_sem]
   exact hn (k+1) _ (Weak.to [1,2,15,16,17] [] (by simp [go_sem])) ⟨by omega,by rw [List.take_succ_eq_append_getElem hk,List.take_succ_eq_append_getElem hk2,h2,h6]⟩ (by omega)
  ·have h8:l≠m:=bad h6
   simp [h6,go_sem]
   exact hr _ (by simp [h8,go_sem])
 ·have h3:l=m:=by rw [<- List.take_length (l:=l),<- List.take_length (l:=m),<- hlen,show l.length=k by omega]; exact h2
  simp [h3,go_sem]
theorem zqk (l:List GArc) (hl:l.length<=2147483648):Sp P F.bh [.sl (ens l)] (.fresh 11 (ens l)):=by
 cases l with
 | nil =>
  refine Sp.nilcase ?_ ?_
  ·refine Sp.vz c.bh fun _=>?_
   simp [g.bh,go_sem]
  ·refine Sp.vz c.bh fun _=>?_
   simp [g.bh,go_sem,LIM]
 | cons x l =>
  refine Sp.vz c.bh fun _=>?_
  simp at hl
  simp [g.bh,go_sem,LIM,hl]
end Go.Ab
namespace Go.Ab
open Enc (enc)
attribute [local go_sem] zam Opd.slots
theorem zwi (x:Int):Sp P F.lz [.int .i64 x] (.pure (.bool false)):=by
 refine Sp.vz c.lz fun _=>?_
 simp [g.lz,go_sem]
theorem zj2 (x y:Int):Sp P F.im [.int .i64 x,.int .i64 y] (.pure (.int .i64 (cmpI x y))):=by
 refine Sp.vz c.im fun _=>?_
 simp [g.im,go_sem]
 refine zaa (zwi x) rfl ?_
 simp [go_sem]
 refine zaa (zwi y) rfl ?_
 simp [go_sem,cmpI]
 refine ⟨fun _ _=>by split<;>omega,fun _=>⟨fun _=>by (repeat' split)<;>omega,fun _=>by (repeat' split)<;>omega⟩⟩
def zhu:List Int->Int
 | []=>0
 | x::r=>if x=0 then zhu r else x
theorem zuh {l:List Int}:∀ {k:Nat},(∀ x∈l.take k,x=0)->zhu l=zhu (l.drop k):=by
 intro k
 induction l generalizing k with
 | nil=>simp
 | cons x l ih =>
  cases k with
  | zero=>simp
  | succ k =>
   intro h
   have:x=0:=h x (by simp)
   simp only [zhu,this,if_true,List.drop_succ_cons]
   exact ih fun y hy=>h y (by simp [hy])
theorem z62 (l:List Int) (hl:l.length<=4611686018427387904):Sp P F.lh [.sl (ens l)] (.pure (.int .i64 (zhu l))):=by
 refine Sp.vz c.lh fun _=>?_
 simp [g.lh,go_sem]
 refine zai (S:=fun k:Nat=>mkSt [(3,.p (.int .i64 0)),(6,.p (.sl (ens l))),(7,.p (.int .i64 l.length)),(8,.p (.int .i64 k))] []) (I:=fun k=>k<=l.length/\∀ x∈l.take k,x=0) (m:=fun k=>l.length - k) 0
  (Weak.to [3,6,7,8] [] (by simp [go_sem])) ⟨by omega,by simp⟩ ?_
 rintro k ⟨h1,h2⟩ R hn hr hx
 have e1:=i64s k (by omega)
 have hd:=zuh h2
 simp [g.rx,mkSt,go_sem]
 refine ⟨fun hk=>?_,fun hk=>hx _ _ ?_⟩
 ·have hdk:l.drop k=l[k]::l.drop (k+1):=List.drop_eq_getElem_cons hk
  rw [hdk] at hd
  refine zae hk ?_
  simp [e1,go_sem]
  refine ⟨fun h3=>?_,fun h3=>?_⟩
  ·refine hn (k+1) _ (Weak.to [3,6,7,8] [] (by simp [go_sem])) ⟨by omega,fun x hx=>?_⟩ (by omega)
   rw [List.take_succ_eq_append_getElem hk] at hx
   rcases List.mem_append.1 hx with hx|hx
   ·exact h2 x hx
   ·simp at hx; rw [hx]; exact h3
  ·refine hr _ ?_
   simp [zhu,h3] at hd
   simp [go_sem,hd]
 ·have:k=l.length:=by omega
  subst this
  simp [zhu] at hd
  simp [go_sem,hd]
theorem zoo (l m:List UInt32) (hl:l.length<=4611686018427387904):Sp P F.lj [.sl (ens l),.sl (ens m)] (.pure (.bool (decide (l=m)))):=by
 refine Sp.vz c.lj fun _=>?_
 simp [g.lj,go_sem]
 refine ⟨fun h=>?_,fun h=>fun he=>h (by rw [he])⟩
 have hlen:l.length=m.length:=by omega
 refine zai (S:=fun k:Nat=>mkSt [(0,.p (.sl (ens l))),(1,.p (.sl (ens m))),(12,.p (.int .i64 l.length)),(13,.p (.int .i64 k))] []) (I:=fun k=>k<=l.length/\l.take k=m.take k) (m:=fun k=>l.length - k) 0
  (Weak.to [0,1,12,13] [] (by simp [go_sem])) ⟨by omega,by simp⟩ ?_
 rintro k ⟨h1,h2⟩ R hn hr hx
 have e1:=i64s k (by omega)
 simp [g.ry,mkSt,go_sem]
 refine ⟨fun hk=>?_,fun hk=>hx _ _ ?_⟩
 ·have hk2:k<m.length:=by omega
  have bad:l[k]≠m[k]->l≠m:=fun h h'=>by subst h'; exact h rfl
  refine zae hk ?_
  refine zae hk2 ?_
  simp [e1,go_sem]
  refine ⟨fun h6=>?_,fun h6=>?_⟩
  ·have h7:l[k]=m[k]:=UInt32.toNat_inj.1 (by omega)
   exact hn (k+1) _ (Weak.to [0,1,12,13] [] (by simp [go_sem])) ⟨by omega,by rw [List.take_succ_eq_append_getElem hk,List.take_succ_eq_append_getElem hk2,h2,h7]⟩ (by omega)
  ·have h8:l≠m:=bad fun h=>h6 (by rw [h])
   exact hr _ (by simp [h8,go_sem])
 ·have h3:l=m:=by rw [<- List.take_length (l:=l),<- List.take_length (l:=m),<- hlen,show l.length=k by omega]; exact h2
  simp [h3,go_sem]
theorem znx (x y:GRat) (hx:x.sm 1073741824):Sp P F.gz [enc x,enc y] (.pure (.bool (decide (x=y)))):=by
 refine Sp.vz c.gz fun _=>?_
 simp [g.gz,go_sem]
 have key:∀ (x y:GRat),x=y ↔ x.neg=y.neg/\x.num=y.num/\x.den=y.den:=by intro x y; cases x; cases y; simp
 refine ⟨fun h1=>?_,fun h1=>?_⟩
 ·refine zaa (zoo x.num y.num (by have:=hx.1; omega)) rfl ?_
  by_cases h2:x.num=y.num
  ·simp [h2,go_sem]
   refine zaa (zoo x.den y.den (by have:=hx.2; omega)) rfl ?_
   simp [key x y,h1,h2,go_sem]
  ·simp [key x y,h2,go_sem]
 ·simp [key x y,h1,go_sem]
end Go.Ab
namespace Go.Ab
open Enc (enc)
attribute [local go_sem] zam Opd.slots
theorem zn3 (e:Ex) (h:(-1000<e.a/\e.a<1000)/\(-1000<e.b/\e.b<1000) /\ -1000<e.c/\e.c<1000):Sp P F.i6 [enc e] (.pure (.int .i64 (e.a+e.b+e.c))):=by
 have e1:IntKind.i64.wrap e.a=e.a:=i64w (by omega) (by omega)
 have e2:IntKind.i64.wrap (e.a+e.b)=e.a+e.b:=i64w (by omega) (by omega)
 have e3:IntKind.i64.wrap (e.a+e.b+e.c)=e.a+e.b+e.c:=i64w (by omega) (by omega)
 refine Sp.vz c.i6 fun _=>?_
 simp [g.i6,go_sem]
 refine zas fun R hn hr hx=>?_
 simp [g.ne,go_sem,e1]
 refine hn _ ?_
 clear hn hr hx
 refine zas fun R hn hr hx=>?_
 simp [g.ne,go_sem,e2]
 refine hn _ ?_
 clear hn hr hx
 refine zas fun R hn hr hx=>?_
 simp [g.ne,go_sem,e3]
 refine hn _ ?_
 clear hn hr hx
 refine zas fun R hn hr hx=>?_
 simp [g.ne,go_sem]
 refine hx _ _ ?_
 simp [go_sem]
theorem zrs (d e:Ex):Sp P F.iu [enc d,enc e] (.pure (.int .i64 (e.cmp d))):=by
 refine Sp.vz c.iu fun _=>?_
 simp [g.iu,go_sem]
 refine zas fun R hn hr hx=>?_
 simp [g.nd,go_sem]
 refine zaa (zj2 e.a d.a) rfl ?_
 simp [go_sem]
 refine ⟨fun h=>?_,fun h=>?_⟩
 rotate_left
 ·refine hr _ ?_
  simp [go_sem]
  unfold cmpI at h ⊢; unfold Ex.cmp
  (repeat' split)<;>first|rfl|omega|simp_all
 refine hn _ ?_
 clear hn hr hx
 refine zas fun R hn hr hx=>?_
 simp [g.nd,go_sem]
 refine zaa (zj2 e.b d.b) rfl ?_
 simp [go_sem]
 refine ⟨fun h2=>?_,fun h2=>?_⟩
 rotate_left
 ·refine hr _ ?_
  simp [go_sem]
  unfold cmpI at h h2 ⊢; unfold Ex.cmp
  (repeat' split)<;>first|rfl|omega|simp_all
 refine hn _ ?_
 clear hn hr hx
 refine zas fun R hn hr hx=>?_
 simp [g.nd,go_sem]
 refine zaa (zj2 e.c d.c) rfl ?_
 simp [go_sem]
 refine ⟨fun h3=>?_,fun h3=>?_⟩
 rotate_left
 ·refine hr _ ?_
  simp [go_sem]
  unfold cmpI at h h2 h3 ⊢; unfold Ex.cmp
  (repeat' split)<;>first|rfl|omega|simp_all
 refine hn _ ?_
 clear hn hr hx
 refine zas fun R hn hr hx=>?_
 simp [g.nd,go_sem]
 refine hx _ _ ?_
 simp [go_sem]
 unfold cmpI at h h2 h3; unfold Ex.cmp
 (repeat' split)<;>first|rfl|omega|simp_all
end Go.Ab
namespace Go.Ab
open Enc (enc)
attribute [local go_sem] zam Opd.slots
theorem z5g (m:GMono) (hm:m.coef.sm 1048576):Sp P F.ma [enc m] (.pure (.bool m.ok)):=by
 have bad:(¬ (0<=m.e.a/\m.e.a<=5)\/¬ (0<=m.e.b/\m.e.b<=5)\/¬ (0<=m.e.c/\m.e.c<=5))->m.ok=false:=by
  intro h
  have:m.e.ok=false:=by simp only [Ex.ok,decide_eq_false_iff_not]; omega
  simp [GMono.ok,this]
 refine Sp.vz c.ma fun _=>?_
 simp [g.ma,go_sem]
 refine zas fun R hn hr hx=>?_
 by_cases ha:0<=m.e.a
 rotate_left
 ·simp [g.cr,go_sem,show m.e.a<0 by omega]
  refine hr _ ?_
  simp [go_sem,bad (by omega)]
 by_cases ha2:m.e.a<=5
 rotate_left
 ·simp [g.cr,go_sem,show ¬ m.e.a<0 by omega,show 5<m.e.a by omega]
  refine hr _ ?_
  simp [go_sem,bad (by omega)]
 simp [g.cr,go_sem,show ¬ m.e.a<0 by omega,show ¬ 5<m.e.a by omega]
 refine hn _ ?_
 clear hn hr hx
 refine zas fun R hn hr hx=>?_
 by_cases hb:0<=m.e.b
 rotate_left
 ·simp [g.cr,go_sem,show m.e.b<0 by omega]
  refine hr _ ?_
  simp [go_sem,bad (by omega)]
 by_cases hb2:m.e.b<=5
 rotate_left
 ·simp [g.cr,go_sem,show ¬ m.e.b<0 by omega,show 5<m.e.b by omega]
  refine hr _ ?_
  simp [go_sem,bad (by omega)]
 simp [g.cr,go_sem,show ¬ m.e.b<0 by omega,show ¬ 5<m.e.b by omega]
 refine hn _ ?_
 clear hn hr hx
 refine zas fun R hn hr hx=>?_
 by_cases hc:0<=m.e.c
 rotate_left
 ·simp [g.cr,go_sem,show m.e.c<0 by omega]
  refine hr _ ?_
  simp [go_sem,bad (by omega)]
 by_cases hc2:m.e.c<=5
 rotate_left
 ·simp [g.cr,go_sem,show ¬ m.e.c<0 by omega,show 5<m.e.c by omega]
  refine hr _ ?_
  simp [go_sem,bad (by omega)]
 simp [g.cr,go_sem,show ¬ m.e.c<0 by omega,show ¬ 5<m.e.c by omega]
 refine hn _ ?_
 clear hn hr hx
 refine zas fun R hn hr hx=>?_
 simp [g.cr,go_sem]
 refine hx _ _ ?_
 clear hn hr hx
 simp [go_sem]
 refine zaa (zn3 m.e (by omega)) rfl ?_
 simp [go_sem]
 refine ⟨fun hd=>?_,fun hd=>?_⟩
 ·have hok:m.e.ok=true:=by simp only [Ex.ok,decide_eq_true_eq]; omega
  refine zaa (zim m.coef (hm.mono (by omega))) rfl ?_
  rcases Bool.eq_false_or_eq_true m.coef.valid with hv|hv
  ·simp [go_sem,hv]
   refine zaa (zio m.coef (hm.mono (by omega))) rfl ?_
   simp [go_sem,GMono.ok,hok,hv,zfc]
  ·simp [go_sem,hv,GMono.ok]
 ·have hok:m.e.ok=false:=by simp only [Ex.ok,decide_eq_false_iff_not]; omega
  simp [GMono.ok,hok]
theorem zrp (p:List GMono) (hp:psm p 1048576) (hl:p.length<=1073741824):Sp P F.ir [.sl (ens p)] (.pure (.bool (decide (PVal p)))):=by
 refine Sp.vz c.ir fun _=>?_
 simp [g.ir,go_sem]
 refine zai (S:=fun k:Nat=>mkSt [(0,.p (.sl (ens p))),(5,.p (.sl (ens p))),(6,.p (.int .i64 p.length)),(7,.p (.int .i64 k))] []) (I:=fun k=>k<=p.length/\∀ i,(h:i<p.length)->i<k->p[i].ok=true/\(0<i->p[i].e.cmp (p[i - 1]'(by omega)).e<0)) (m:=fun k=>p.length - k) 0
  (Weak.to [0,5,6,7] [] (by simp [go_sem])) ⟨by omega,fun i h h0=>by omega⟩ ?_
 rintro k ⟨h1,h2⟩ R hn hr hx
 have e3:=i64s k (by omega)
 simp [g.sc,mkSt,go_sem]
 refine ⟨fun hk=>?_,fun hk=>hx _ _ ?_⟩
 ·have bad:¬ (p[k].ok=true/\(0<k->p[k].e.cmp (p[k - 1]'(by omega)).e<0))->decide (PVal p)=false:=fun h=>decide_eq_false fun hv=>h (hv k hk)
  refine zae hk ?_
  try simp [go_sem]
  refine zab (z5g p[k] (hp _ (List.getElem_mem hk))) ?_
  have step:p[k].ok=true->(0<k->p[k].e.cmp (p[k - 1]'(by omega)).e<0)->∀ i,(h:i<p.length)->i<k+1->p[i].ok=true/\(0<i->p[i].e.cmp (p[i - 1]'(by omega)).e<0):=by
   intro a b i h hi
   by_cases hik:i<k
   ·exact h2 i h hik
   ·have:i=k:=by omega
    subst this; exact ⟨a,b⟩
  rcases Bool.eq_false_or_eq_true p[k].ok with h3|h3
  rotate_left
  ·simp [h3,go_sem]
   refine hr _ ?_
   simp [go_sem]; simpa using bad (by simp [h3])
  by_cases h0:0<k
  rotate_left
  ·have:k=0:=by omega
   subst this
   simp [h3,go_sem]
   refine hn 1 _ (Weak.to [0,5,6,7] [] (by simp [go_sem])) ⟨by omega,step h3 (by omega)⟩ (by omega)
  have e1:IntKind.i64.wrap ((k:Int) - 1)=((k - 1:Nat):Int):=by rw [i64w (by omega) (by omega)]; omega
  have e2:0<(k:Int):=by omega
  have hk1:k - 1<p.length:=by omega
  simp [h3,e1,e2,h0,show ¬ k=0 by omega,go_sem]
  refine zae hk1 ?_
  try simp [go_sem]
  refine zab (zrs p[k - 1].e p[k].e) ?_
  by_cases h4:p[k].e.cmp p[k - 1].e<0
  ·simp [go_sem,show ¬ (0<=p[k].e.cmp p[k - 1].e) by omega,h4,e3]
   refine hn (k+1) _ (Weak.to [0,5,6,7] [] (by simp [go_sem])) ⟨by omega,step h3 (fun _=>h4)⟩ (by omega)
  ·simp [go_sem,show 0<=p[k].e.cmp p[k - 1].e by omega,h4]
   refine hr _ ?_
   simp [go_sem]; simpa using bad (fun h=>h4 (h.2 h0))
 ·have:PVal p:=fun i h=>h2 i h (by omega)
  simp [this,go_sem]
theorem zro (p:List GMono) (hp:psm p 1048576) (hl:p.length<=1073741824):Sp P F.iz [.sl (ens p)] (.pure (.sl (ens (pv p)))):=by
 refine Sp.vz c.iz fun _=>?_
 simp [g.iz,go_sem]
 refine zaa (zrp p hp hl) rfl ?_
 by_cases h:PVal p
 ·simp [h,pv,go_sem]
 ·simp [h,pv,go_sem]
end Go.Ab
namespace Go.Ab
open Enc (enc)
attribute [local go_sem] zam Opd.slots
def gr0:GRat:=⟨false,[],[]⟩
def gw0:GW:=.mk gr0 0 false 0 [] []
def GW.si (k:Int) (w:GW):Prop:=w.parts=[]/\(k≠1->k≠3->w.q=gr0)/\(k≠2->w.inf=false/\w.cost=0)/\(k≠4->w.set=0)/\(k≠5->w.poly=[]) /\
 (k=1->w.q.valid=true)/\(k=2->0<=w.cost/\w.cost<=1099511627776/\(w.inf=true->w.cost=0))/\(k=3->w.q.valid=true/\0<=w.q.v/\w.q.v<=1)/\(k=5->PVal w.poly)
noncomputable instance (k:Int) (w:GW):Decidable (w.si k):=Classical.propDecidable _
theorem set0 {x:UInt64}:x.toNat=0 ↔ x=0:=by rw [<- UInt64.toNat_inj]; rfl
theorem len0 {α : Type} {l:List α}:0<l.length ↔ l≠[]:=List.length_pos_iff
theorem si1 {w:GW}:w.si 1 ↔ w.parts=[]/\w.inf=false/\w.cost=0/\w.set=0/\w.poly=[]/\w.q.valid=true:=by simp [GW.si,and_assoc]
theorem si2 {w:GW}:w.si 2 ↔ w.parts=[]/\w.q=gr0/\w.set=0/\w.poly=[]/\0<=w.cost/\w.cost<=1099511627776/\(w.inf=true->w.cost=0):=by simp [GW.si]
theorem si3 {w:GW}:w.si 3 ↔ w.parts=[]/\w.inf=false/\w.cost=0/\w.set=0/\w.poly=[]/\w.q.valid=true/\0<=w.q.v/\w.q.v<=1:=by simp [GW.si,and_assoc]
theorem si4 {w:GW}:w.si 4 ↔ w.parts=[]/\w.q=gr0/\w.inf=false/\w.cost=0/\w.poly=[]:=by simp [GW.si,and_assoc]
theorem si5 {w:GW}:w.si 5 ↔ w.parts=[]/\w.q=gr0/\w.inf=false/\w.cost=0/\w.set=0/\PVal w.poly:=by simp [GW.si,and_assoc]
theorem zfr {q:Rat}:0<=sgnR q ↔ 0<=q:=by
 rw [<- Rat.num_nonneg]; unfold sgnR; (repeat' split)<;>omega
theorem zz0:(rto 1).sm 1:=⟨zat (by decide),by decide⟩
theorem zzt (w:GW) (hw:w.sm 1048576):Sp P F.af [.int .i64 1,enc w] (.pure (.bool (decide (w.si 1)))):=by
 refine Sp.vz c.af fun _=>?_
 rcases Bool.eq_false_or_eq_true w.inf with hb|hb
 ·simp [g.af,go_sem]
  refine zaa (zch w.q gr0 (hw.q.mono (by omega))) rfl ?_
  simp [hb,go_sem]
  exact ⟨fun _ h=>by have:=(si1.1 h).2; simp [hb] at this,fun _ h=>by have:=(si1.1 h).2; simp [hb] at this⟩
 ·simp [g.af,go_sem]
  refine zaa (zch w.q gr0 (hw.q.mono (by omega))) rfl ?_
  simp [hb,go_sem]
  simp only [si1,set0,len0,hb]
  refine ⟨fun h1 h=>h1 h.1,fun h1=>⟨fun h2=>⟨fun h3=>⟨fun h4 h=>h4 h.2.2.2.2.1,fun h4=>?_⟩,fun h3 h=>h3 h.2.2.2.1⟩,fun h2 h=>h2 h.2.2.1⟩⟩
  refine zaa (zif w.q (hw.q.mono (by omega))) rfl ?_
  simp [h1,h2,h3,h4,go_sem]
theorem zzs (w:GW) (hw:w.sm 1048576):Sp P F.af [.int .i64 2,enc w] (.pure (.bool (decide (w.si 2)))):=by
 refine Sp.vz c.af fun _=>?_
 rcases Bool.eq_false_or_eq_true w.inf with hb|hb
 ·simp [g.af,go_sem]
  refine zaa (zch w.q gr0 (hw.q.mono (by omega))) rfl ?_
  simp [hb,go_sem]
  simp only [si2,set0,len0,hb]
  refine ⟨fun h1 h=>h1 h.1,fun h1=>⟨fun h2=>⟨fun h3=>⟨fun h4 h=>h4 h.2.2.2.1,fun h4=>⟨fun h5=>⟨fun h6=>?_,fun h6 h=>?_⟩,fun h5 h=>?_⟩⟩,fun h3 h=>h3 h.2.2.1⟩,fun h2 h=>h2 h.2.1⟩⟩
  ·simp [h1,h2,h3,h4,h5,h6]
  ·have:=h.2.2.2.2.2.1; omega
  ·have:=h.2.2.2.2.1; omega
 ·simp [g.af,go_sem]
  refine zaa (zch w.q gr0 (hw.q.mono (by omega))) rfl ?_
  simp [hb,go_sem]
  simp only [si2,set0,len0,hb]
  refine ⟨fun h1 h=>h1 h.1,fun h1=>⟨fun h2=>⟨fun h3=>⟨fun h4 h=>h4 h.2.2.2.1,fun h4=>⟨fun h5=>⟨fun h6=>?_,fun h6 h=>?_⟩,fun h5 h=>?_⟩⟩,fun h3 h=>h3 h.2.2.1⟩,fun h2 h=>h2 h.2.1⟩⟩
  ·simp [h1,h2,h3,h4,h5,h6]
  ·have:=h.2.2.2.2.2.1; omega
  ·have:=h.2.2.2.2.1; omega
theorem zzr (w:GW) (hw:w.sm 1048576):Sp P F.af [.int .i64 3,enc w] (.pure (.bool (decide (w.si 3)))):=by
 refine Sp.vz c.af fun _=>?_
 rcases Bool.eq_false_or_eq_true w.inf with hb|hb
 ·simp [g.af,go_sem]
  refine zaa (zch w.q gr0 (hw.q.mono (by omega))) rfl ?_
  simp [hb,go_sem]
  exact ⟨fun _ h=>by have:=(si3.1 h).2; simp [hb] at this,fun _ h=>by have:=(si3.1 h).2; simp [hb] at this⟩
 ·simp [g.af,go_sem]
  refine zaa (zch w.q gr0 (hw.q.mono (by omega))) rfl ?_
  simp [hb,go_sem]
  simp only [si3,set0,len0,hb]
  refine ⟨fun h1 h=>h1 h.1,fun h1=>⟨fun h2=>⟨fun h3=>⟨fun h4 h=>h4 h.2.2.2.2.1,fun h4=>?_⟩,fun h3 h=>h3 h.2.2.2.1⟩,fun h2 h=>h2 h.2.2.1⟩⟩
  refine zaa (zif w.q (hw.q.mono (by omega))) rfl ?_
  rcases Bool.eq_false_or_eq_true w.q.valid with h5|h5
  rotate_left
  ·simp [h1,h2,h3,h4,h5,go_sem]
  simp [h1,h2,h3,h4,h5,go_sem]
  refine zaa (zik w.q (hw.q.mono (by omega))) rfl ?_
  simp [go_sem]
  refine ⟨fun h6=>?_,fun h6=>?_⟩
  ·have hd:Rat.divInt 1 1=1:=rfl
   have hof:=ycv 1 1 (by omega) (by omega) (by omega)
   rw [hd] at hof
   refine zaa hof rfl ?_
   simp [go_sem]
   refine zaa (zwe (rto 1) w.q (zz0.mono (by omega)) hw.q) rfl ?_
   have h7:=zfr.1 h6
   simp [go_sem,ze8,h7]
   by_cases h8:1<w.q.v
   ·simp [h8,Rat.not_le.2 h8]
   ·simp [h8,Rat.not_lt.1 h8]
  ·have h7:¬ 0<=w.q.v:=fun h=>by have:=zfr.2 h; omega
   simp [h7]
theorem zzq (w:GW) (hw:w.sm 1048576):Sp P F.af [.int .i64 4,enc w] (.pure (.bool (decide (w.si 4)))):=by
 refine Sp.vz c.af fun _=>?_
 rcases Bool.eq_false_or_eq_true w.inf with hb|hb
 ·simp [g.af,go_sem]
  refine zaa (zch w.q gr0 (hw.q.mono (by omega))) rfl ?_
  simp [hb,go_sem]
  exact ⟨fun _ h=>by have:=(si4.1 h).2; simp [hb] at this,fun _ h=>by have:=(si4.1 h).2; simp [hb] at this⟩
 ·simp [g.af,go_sem]
  refine zaa (zch w.q gr0 (hw.q.mono (by omega))) rfl ?_
  simp [hb,go_sem]
  simp only [si4,set0,len0,hb]
  refine ⟨fun h1 h=>h1 h.1,fun h1=>⟨fun h2=>⟨fun h3=>⟨fun h4 h=>h4 h.2.2.2.2,fun h4=>by simp [h1,h2,h3,h4]⟩,fun h3 h=>h3 h.2.2.2.1⟩,fun h2 h=>h2 h.2.1⟩⟩
theorem zzp (w:GW) (hw:w.sm 1048576):Sp P F.af [.int .i64 5,enc w] (.pure (.bool (decide (w.si 5)))):=by
 refine Sp.vz c.af fun _=>?_
 rcases Bool.eq_false_or_eq_true w.inf with hb|hb
 ·simp [g.af,go_sem]
  refine zaa (zch w.q gr0 (hw.q.mono (by omega))) rfl ?_
  simp [hb,go_sem]
  exact ⟨fun _ h=>by have:=(si5.1 h).2; simp [hb] at this,fun _ h=>by have:=(si5.1 h).2; simp [hb] at this⟩
 ·simp [g.af,go_sem]
  refine zaa (zch w.q gr0 (hw.q.mono (by omega))) rfl ?_
  simp [hb,go_sem]
  simp only [si5,set0,len0,hb]
  refine ⟨fun h1 h=>h1 h.1,fun h1=>⟨fun h2=>⟨fun h3=>⟨fun h4=>?_,fun h4 h=>h4 h.2.2.2.2.1⟩,fun h3 h=>h3 h.2.2.2.1⟩,fun h2 h=>h2 h.2.1⟩⟩
  refine zaa (zqz w.poly hw.poly (by have:=hw.len; omega)) rfl ?_
  simp [h1,h2,h3,h4,go_sem]
theorem zre (k:Int) (w:GW) (hk:1<=k/\k<=5) (hw:w.sm 1048576):Sp P F.af [.int .i64 k,enc w] (.pure (.bool (decide (w.si k)))):=by
 have:k=1\/k=2\/k=3\/k=4\/k=5:=by omega
 rcases this with rfl|rfl|rfl|rfl|rfl
 ·exact zzt w hw
 ·exact zzs w hw
 ·exact zzr w hw
 ·exact zzq w hw
 ·exact zzp w hw
end Go.Ab
namespace Go.Ab
open Enc (enc)
attribute [local go_sem] zam Opd.slots
def GW.chk (r:GRing) (w:GW):Prop:=r.ok=true/\(r.kind≠6->w.si r.kind)/\(r.kind=6->w.parts.length=r.parts.length/\w=.mk gr0 0 false 0 [] w.parts/\∀ i,(h:i<r.parts.length)->(h':i<w.parts.length)->w.parts[i].si r.parts[i])
noncomputable instance (r:GRing) (w:GW):Decidable (w.chk r):=Classical.propDecidable _
theorem GRing.ok_kind {r:GRing} (h:r.ok=true) (h6:r.kind≠6):1<=r.kind/\r.kind<=5/\r.parts=[]:=by
 simp only [GRing.ok,if_neg h6,decide_eq_true_eq] at h; exact h
theorem GRing.ok_parts {r:GRing} (h:r.ok=true) (h6:r.kind=6):2<=r.parts.length/\r.parts.length<=3/\∀ k∈r.parts,1<=k/\k<=5:=by
 simp only [GRing.ok,if_pos h6,decide_eq_true_eq] at h; exact h
@[go_sem] theorem GW.q_mk (q:GRat) (c:Int) (i:Bool) (s:UInt64) (p:List GMono) (ps:List GW):(GW.mk q c i s p ps).q=q:=rfl
@[go_sem] theorem GW.cost_mk (q:GRat) (c:Int) (i:Bool) (s:UInt64) (p:List GMono) (ps:List GW):(GW.mk q c i s p ps).cost=c:=rfl
@[go_sem] theorem GW.inf_mk (q:GRat) (c:Int) (i:Bool) (s:UInt64) (p:List GMono) (ps:List GW):(GW.mk q c i s p ps).inf=i:=rfl
@[go_sem] theorem GW.set_mk (q:GRat) (c:Int) (i:Bool) (s:UInt64) (p:List GMono) (ps:List GW):(GW.mk q c i s p ps).set=s:=rfl
@[go_sem] theorem GW.poly_mk (q:GRat) (c:Int) (i:Bool) (s:UInt64) (p:List GMono) (ps:List GW):(GW.mk q c i s p ps).poly=p:=rfl
@[go_sem] theorem GW.parts_mk (q:GRat) (c:Int) (i:Bool) (s:UInt64) (p:List GMono) (ps:List GW):(GW.mk q c i s p ps).parts=ps:=rfl
@[go_sem] theorem yge:gr0.neg=false:=rfl
@[go_sem] theorem ygd:gr0.num=[]:=rfl
@[go_sem] theorem ygf:gr0.den=[]:=rfl
theorem zgz (n:Nat):gr0.sm n:=⟨by simp [gr0],by simp [gr0]⟩
theorem GW.sm.tup {n:Nat} {ps:List GW} (h:ps.length<=n) (k:∀ w∈ps,w.sm n):(GW.mk gr0 0 false 0 [] ps).sm n:=.mk (zgz n) (by intro m hm; simp at hm) (by simp) h k
theorem zi8 (r:GRing) (w:GW) (hw:w.sm 1048576):Sp P F.dv [enc r,enc w] (.pure (.bool (decide (w.chk r)))):=by
 refine Sp.vz c.dv fun _=>?_
 simp [g.dv,go_sem]
 refine zaa (zbd r) rfl ?_
 rcases Bool.eq_false_or_eq_true r.ok with hr0|hr0
 rotate_left
 ·simp [hr0,GW.chk,go_sem]
 simp [hr0,go_sem]
 refine ⟨fun h6=>?_,fun h6=>?_⟩
 rotate_left
 ·have hk:=GRing.ok_kind hr0 h6
  refine zab (zre r.kind w ⟨hk.1,hk.2.1⟩ hw) ?_
  simp [GW.chk,hr0,h6,go_sem]
 refine ⟨fun hl=>?_,fun hl h=>?_⟩
 rotate_left
 ·have:=(h.2.2 h6).1; omega
 have hl':w.parts.length=r.parts.length:=by omega
 have hp:=GRing.ok_parts hr0 h6
 refine zab (zsj (.mk gr0 0 false 0 [] w.parts) (.tup hw.plen hw.parts) w) ?_
 by_cases he:GW.mk gr0 0 false 0 [] w.parts=w
 rotate_left
 ·simp [he,go_sem]
  exact fun h=>he (h.2.2 h6).2.1.symm
 simp [he,go_sem]
 refine zai (S:=fun k:Nat=>mkSt [(2,.ptr 1 0 0 0),(3,.ptr 2 0 0 0),(5,.p (.int .i64 k))] [(1,⟨2,[.p (enc r)]⟩),(2,⟨8,[.p (enc w)]⟩)]) (I:=fun k=>k<=r.parts.length/\∀ i,(h:i<r.parts.length)->(h':i<w.parts.length)->i<k->w.parts[i].si r.parts[i]) (m:=fun k=>r.parts.length - k) 0
  (Weak.to [2,3,5] [((2,0),1),((3,0),2)] (by simp [go_sem])) ⟨by omega,fun i h h' h0=>by omega⟩ ?_
 rintro k ⟨h7,h8⟩ R hn hr hx
 have e1:=i64s k (by omega)
 simp [g.qz,mkSt,go_sem]
 refine ⟨fun hk=>?_,fun hk=>hx _ _ ?_⟩
 ·have hk2:k<w.parts.length:=by omega
  refine zae hk ?_
  refine zae hk2 ?_
  refine zab (zre r.parts[k] w.parts[k] (hp.2.2 _ (List.getElem_mem hk)) (hw.parts _ (List.getElem_mem hk2))) ?_
  by_cases h9:w.parts[k].si r.parts[k]
  ·simp [h9,e1,go_sem]
   refine hn (k+1) _ (Weak.to [2,3,5] [((1,0),1),((2,0),2)] (by simp [go_sem])) ⟨by omega,fun i h h' hi=>?_⟩ (by omega)
   by_cases hik:i<k
   ·exact h8 i h h' hik
   ·have:i=k:=by omega
    subst this; exact h9
  ·simp [h9,go_sem]
   refine hr _ ?_
   have:¬ w.chk r:=fun h=>h9 ((h.2.2 h6).2.2 k hk hk2)
   simp [this,go_sem]
 ·have:w.chk r:=⟨hr0,fun h=>absurd h6 h,fun _=>⟨hl',he.symm,fun i h h'=>h8 i h h' (by omega)⟩⟩
  simp [this,go_sem]
end Go.Ab
namespace Go.Ab
open Enc (enc)
attribute [local go_sem] zam Opd.slots
theorem zwn (m n:GMono):m=n ↔ (m.e.a=n.e.a/\m.e.b=n.e.b/\m.e.c=n.e.c)/\m.coef=n.coef:=by
 obtain ⟨⟨a,b,c⟩,q⟩:=m
 obtain ⟨⟨a',b',c'⟩,q'⟩:=n
 simp
theorem zx4 (m n:GMono) (hm:m.coef.sm 1048576):Sp P F.gw [enc m,enc n] (.pure (.bool (decide (m=n)))):=by
 refine Sp.vz c.gw fun _=>?_
 simp [g.gw,go_sem]
 refine ⟨fun h1 h2 h3=>?_,fun h=>?_⟩
 ·refine zaa (znx m.coef n.coef (hm.mono (by omega))) rfl ?_
  simp [zwn,h1,h2,h3,go_sem]
 ·have hmn:m≠n:=fun e=>by
   obtain ⟨⟨h1,h2,h3⟩,_⟩:=(zwn m n).1 e
   exact h h1 h2 h3
  simp [hmn,go_sem]
theorem zdp (v:GW) (hv:v.sm 1048576):∀ w:GW,Sp P F.an [enc v,enc w] (.pure (.bool (decide (v=w)))):=by
 revert v
 refine GW.sm.ind fun v hv ih w=>?_
 refine Sp.vz c.an fun hok=>?_
 simp [g.an,go_sem]
 refine zaa (znx v.q w.q (hv.q.mono (by omega))) rfl ?_
 by_cases h1:v.q=w.q
 rotate_left
 ·have:v≠w:=fun h=>h1 (by rw [h])
  simp [h1,this,go_sem]
 simp [h1,go_sem]
 refine ⟨fun h2=>?_,fun h2=>?_⟩
 rotate_left
 ·exact fun h=>h2 (by rw [h])
 refine ⟨fun h3=>?_,fun h3=>?_⟩
 rotate_left
 ·exact fun h=>h3 (by rw [h])
 refine ⟨fun h4'=>?_,fun h4=>?_⟩
 rotate_left
 ·exact fun h=>h4 (by rw [h])
 have h4:v.set=w.set:=UInt64.toNat_inj.1 (by omega)
 refine zaa (zks v.poly w.poly F.gw (by have:=hv.len; omega) fun x hx y _=>zx4 x y (hv.poly x hx)) rfl ?_
 by_cases h5:v.poly=w.poly
 rotate_left
 ·have:v≠w:=fun h=>h5 (by rw [h])
  simp [h5,this,go_sem]
 simp [h5,go_sem]
 refine zaa (znm v.parts w.parts F.an (by have:=hv.plen; omega) fun x hx y _=>ih x hx y) rfl ?_
 by_cases h6:v.parts=w.parts
 ·have:v=w:=GW.ext h1 h2 h3 h4 h5 h6
  simp [this,go_sem]
 ·have:v≠w:=fun h=>h6 (by rw [h])
  simp [h6,this,go_sem]
end Go.Ab
namespace Go.Ab
open Enc (enc)
section
variable {P:Program} {K:Ctx} {Z Z':Cz} {st st' st1 st2:St} {w w':World} {a:Act} {N:Nat} {ex:Exit} {A B:Option FA} {Post:Exit->St->Option FA->Prop} {PostI:St->Option FA->Prop}
theorem znp {c:Callee} {ts:Array TypeId} {aq:List Opd} {f0:FuncId} {xs0:List Opd} (h:zcr P c ts aq=some (.call f0 xs0)):∃ g,c=.value g/\zah g=some (.c (.p (.fn f0 [])))/\aq=xs0:=by
 unfold zcr at h
 split at h
 ·rename_i g
  split at h
  ·rename_i hg; cases h; exact ⟨g,rfl,hg,rfl⟩
  ·cases h
  ·cases h
 ·cases h
 ·exfalso
  repeat' split at h
  all_goals first
   | cases h
   | (obtain ⟨_,_,h⟩:=mapS h; cases h)
theorem za9 {α : Type} {x:Option α} {f : α -> Option IOp} {f0:FuncId} {xs0:List Opd} (h:x.bind f=some (.call f0 xs0)) (k:∀ y,f y≠some (.call f0 xs0)):False:=by
 obtain ⟨y,_,h⟩:=zco h; exact k y h
theorem zep {α : Type} {x:Option α} {f : α -> IOp} {f0:FuncId} {xs0:List Opd} (h:x.map f=some (.call f0 xs0)) (k:∀ y,f y ≠ .call f0 xs0):False:=by
 obtain ⟨y,_,h⟩:=mapS h; exact k y h
theorem zsw {t:TypeId} {m k:Operand} {c:Bool} {f0:FuncId} {xs0:List Opd} (h:zf4 P t m k c=some (.call f0 xs0)):False:=by
 unfold zf4 at h
 repeat' split at h
 all_goals first
  | exact za9 h fun _ h=>za9 h fun _ h=>za9 h fun _ h=>zep h fun _ h=>by cases h
  | cases h
theorem zqi {t:TypeId} {x:Operand} {lo hi mx:Option Operand} {f0:FuncId} {xs0:List Opd} (h:zfl P t x lo hi mx=some (.call f0 xs0)):False:=by
 unfold zfl at h
 repeat' split at h
 all_goals first
  | exact za9 h fun _ h=>za9 h fun _ h=>zep h fun _ h=>by cases h
  | cases h
theorem zup {op:BinOp} {x y:Opd} {f0:FuncId} {xs0:List Opd} (h:zh7 op x y=some (.call f0 xs0)):False:=by
 unfold zh7 at h
 repeat' split at h
 all_goals cases h
theorem zsu {fn:Fn} {x y:Array Operand} {f0:FuncId} {xs0:List Opd} (h:zhk fn x y=some (.call f0 xs0)):False:=by
 unfold zhk at h
 repeat' split at h
 all_goals first
  | exact zep h fun _ h=>by cases h
  | cases h
theorem zou {op:Op} {f0:FuncId} {xs0:List Opd} (h:zby P op=some (.call f0 xs0)):∃ cc h,op=.call cc/\cc.callee=.value h/\zah h=some (.c (.p (.fn f0 [])))/\za2 cc.args.toList=some xs0:=by
 cases op
 case call c =>
  simp only [zby] at h
  obtain ⟨aq,ha,h⟩:=zco h
  obtain ⟨g,h1,h2,rfl⟩:=znp h
  exact ⟨c,g,rfl,h1,h2,ha⟩
 case makeMap|mapUpdate|range|next|entry=>cases h
 case lookup t m k c=>exact (zsw h).elim
 case slice=>exact (zqi h).elim
 case makeFunc=>exact (zsu h).elim
 case move|assign|alloc|box|nilCheck|extract=>exact (zep h fun _ h=>by cases h).elim
 case pick=>exact (za9 h fun _ h=>za9 h fun _ h=>zep h fun _ h=>by cases h).elim
 case binOp =>
  refine (za9 h fun _ h=>za9 h fun _ h=>?_).elim
  split at h
  ·cases h
  ·cases h
  ·exact zup h
  ·exact zep h fun _ h=>by cases h
 case unOp =>
  refine (za9 h fun _ h=>?_).elim
  split at h<;>cases h
 case convert =>
  refine (za9 h fun _ h=>?_).elim
  split at h<;>cases h
 case load=>refine (za9 h fun _ h=>?_).elim; split at h<;>cases h
 case store=>refine (za9 h fun _ h=>za9 h fun _ h=>?_).elim; split at h<;>cases h
 case build =>
  simp only [zby] at h
  split at h
  ·refine (za9 h fun _ h=>za9 h fun _ h=>?_).elim
   split at h
   ·exact zep h fun _ h=>by cases h
   ·cases h
  ·refine (za9 h fun _ h=>za9 h fun _ h=>?_).elim
   split at h
   ·exact zep h fun _ h=>by cases h
   ·cases h
  ·cases h
 case buildSlice =>
  simp only [zby] at h
  split at h
  ·exact (za9 h fun _ h=>zep h fun _ h=>by cases h).elim
  ·cases h
 case makeSlice =>
  simp only [zby] at h
  split at h
  ·refine (za9 h fun _ h=>za9 h fun _ h=>za9 h fun _ h=>?_).elim
   split at h<;>cases h
  ·cases h
 case fieldAddr =>
  simp only [zby] at h
  split at h
  ·split at h
   ·split at h
    ·exact (zep h fun _ h=>by cases h).elim
    ·cases h
   ·cases h
  ·cases h
 case field =>
  simp only [zby] at h
  split at h
  ·split at h
   ·split at h
    ·exact (zep h fun _ h=>by cases h).elim
    ·cases h
   ·cases h
  ·cases h
 case indexAddr =>
  simp only [zby] at h
  split at h
  ·split at h
   ·exact (za9 h fun _ h=>zep h fun _ h=>by cases h).elim
   ·cases h
  ·split at h
   ·exact (za9 h fun _ h=>zep h fun _ h=>by cases h).elim
   ·cases h
  ·cases h
 case index =>
  simp only [zby] at h
  split at h
  ·split at h
   ·exact (za9 h fun _ h=>zep h fun _ h=>by cases h).elim
   ·cases h
  ·exact (za9 h fun _ h=>zep h fun _ h=>by cases h).elim
  ·cases h
 all_goals cases h
theorem z1j {d:Option Nat} {f:FuncId} {xs:List Opd} {r:Nat} {ks vs args ks' vs':List PV} (hsp:SpU P f ks vs args ks' vs') (hxs:xs.map st.ev=.p (.mapv r)::args.map .p) (hn1:zd9 ks'=true) (hn2:zd9 vs'=true)
  (k:PostI (st.put d (.p (.tup []))) (some (zh1 r ks' vs'))):MOp P N ⟨d,.call f xs,none⟩ st (some (zh1 r ks vs)) PostI:=by
 intro ops j o K Z w a Q Kt hN hj hcc hs hA hK
 obtain ⟨h1,h2,h3,h4⟩:=zdr hcc
 obtain ⟨cc,h,hop,hf,hh,hops⟩:=zou h1
 have hg:o.guard=none:=by
  cases hg:o.guard with
  | none=>rfl
  | some jb =>
   obtain ⟨j,b⟩:=jb
   rw [hg] at h2; simp only [zds] at h2
   split at h2<;>cases h2
 have hw:Region.wanted o (yielded ops a.tmps)=true:=by simp [Region.wanted,hg]
 have hd:d=o.dst:=h3
 obtain ⟨hfn,hsp⟩:=hsp
 have hr:=zjn hops hs
 rw [hxs] at hr
 have hfr:=zap hh hs
 simp only [St.ev] at hfr
 have hfv:a.eval h=.func (.func f) #[] #[]:=by
  have hp:=hfr.inv_p
  generalize a.eval h=F at hp ⊢
  cases hp with
  | fn _ _ vals h=>cases h; rfl
 have hrun:(execOp a.eval o).run P w=.ok (.enter f ((cc.args.toList.map a.eval).toArray)) w:=by
  have:=ze1 (P:=P) (w:=w) (args:=(cc.args.toList.map a.eval).toArray) hfn
  simp only [execOp,hop,resolve,hf,hfv,Deferred.ofValue,Sem.run_bind,Sem.run_pure,Result.andThen_ok,invoke]
  have e : #[]++cc.args.map a.eval ++ #[]=(cc.args.toList.map a.eval).toArray:=by simp [<- Array.toList_map]
  rw [e]; exact this
 have hp0:PReps Z.M (.mapv r::args) (cc.args.toList.map a.eval):=AReps.to_p (by simpa using hr)
 generalize cc.args.toList.map a.eval=vals at hp0 hrun
 obtain ⟨hF,hX,es,clock,q0,q1,q2,q3,q4,q5⟩:=hA
 simp only [zh1] at hF hX q0
 let Mp:Nat->Option Obj:=fun b=>if b=r then w.heap[r]? else Z.M b
 have hsub:∀ b o,Z.M b=some o->Mp b=some o:=fun b o ho=>by
  simp only [Mp]; rw [if_neg]; · exact ho
  ·rintro rfl; rw [hF.m] at ho; cases ho
 have hMp:∀ b o,Mp b=some o->w.heap[b]?=some o:=fun b o ho=>by
  simp only [Mp] at ho; split at ho
  ·rename_i hb; subst hb; exact ho
  ·exact hs.heap.mem b o ho
 have hvals:PReps Mp (.mp r ks vs::args) vals:=by
  cases hp0 with
  | cons _ _ _ _ h0 h1 =>
   cases h0
   exact .cons _ _ _ _ (.mp r ks vs es clock (by simp only [Mp,if_true]; exact q0) (q1.mono hsub) (q2.mono hsub) q3 q4 q5) (h1.mono hsub)
 refine (show o.wp P a w Kt Q from ?_) |> fun h=>by unfold wpOp; simp only [hj,hw,if_true]; exact .inl h
 unfold Oper.wp
 rw [hrun,Oper.upon_enter]
 refine (hsp w Mp r vals hMp hvals).mono ?_
 rintro e w' ⟨M',rfl,p1,p2,p3,p4,p5⟩
 obtain ⟨es',clock',t0,t1,t2,t3,t4,t5⟩:∃ es' clock',M' r=some (.map es' clock')/\PReps M' ks' (es'.toList.map (·.key))/\PReps M' vs' (es'.toList.map (·.val))/\(es'.toList.map (·.key)).Nodup/\(∀ e∈es'.toList,e.born<clock')/\(es'.toList.map (·.born)).Nodup:=by
  cases p5 with
  | mp _ _ _ es clock m0 m1 m2 m3 m4 m5=>exact ⟨es,clock,m0,m1,m2,m3,m4,m5⟩
 let M1:Nat->Option Obj:=fun b=>if b=r then none else M' b
 have hM1:∀ b o,M1 b=some o->b≠r/\M' b=some o:=fun b o h=>by
  simp only [M1] at h; split at h
  ·cases h
  ·exact ⟨by assumption,h⟩
 have hcells:∀ b cur T fr,M' b=some (.cells cur T fr)->M1 b=some (.cells cur T fr):=fun b cur T fr h=>by
  simp only [M1]; rw [if_neg]; · exact h
  ·rintro rfl; rw [t0] at h; cases h
 have hold:∀ b o,M1 b=some o->Z.M b=some o\/w.heap.size<=b:=fun b o h=>by
  obtain ⟨g1,g2⟩:=hM1 b o h
  rcases p3 b o g2 with h|h|h
  ·exact absurd h g1
  ·simp only [Mp] at h; rw [if_neg g1] at h; exact .inl h
  ·exact .inr h
 have hHw:HRep K Z st w':=hs.heap.world p4 fun b hb=>by subst hb; exact ⟨hF.m,hF.o,hX⟩
 have hZM1:∀ b o,Z.M b=some o->M1 b=some o:=fun b o hb=>by
  have hbr:b≠r:=by rintro rfl; rw [hF.m] at hb; cases hb
  simp only [M1]; rw [if_neg hbr]; exact p1 b o hbr (hsub b o hb)
 have hH1:HRep K { Z with M:=M1 } st w':=by
  refine hHw.grow (Keep.refl _ _) M1 hZM1 (fun b o hb=>p2 b o (hM1 b o hb).2) (fun b o hb=>?_) (fun s g o b ho hb=>?_)
  ·rcases hold b o hb with h|h
   ·exact .inl h
   ·exact .inr (.inr (Nat.le_trans hs.heap.keep.size h))
  ·cases hm:M1 b with
   | none=>rfl
   | some y =>
    rcases hold b y hm with h|h
    ·rw [hs.heap.sep s g o b ho hb] at h; cases h
    ·have:=hs.heap.lt ho hb; omega
 have hz:ZLe Z st { Z with M:=M1 } st:=.growM hZM1
 refine hK _ _ _ _ _ k (?_:StRep K { Z with M:=M1 } (st.put d (.p (.tup []))) w' _) (zeq.site ?_ fun s=>za8 st d _ s)
 ·rw [hd]
  exact hs.put rfl hz hH1 (.p _ _ (.tup [] [] .nil)) (by subst hN; exact h4) hs.defers
 ·refine ⟨⟨by simp [M1,zh1],hF.o,?_⟩,hX,es',clock',p2 _ _ t0,t1.nomp hcells hn1,t2.nomp hcells hn2,t3,t4,t5⟩
  exact Nat.lt_of_lt_of_le hF.lt p4.size
theorem MR.freeze {ac:AC} {t r:Nat} {ks vs:List PV} (ht:st.get t=.p (.mapv r)) (k:MR P N ac (st.put (some t) (.p (.mp r ks vs))) none Post):MR P N ac st (some (zh1 r ks vs)) Post:=by
 intro code hc K Z w a Q hN hs hA hQ
 obtain ⟨hF,hX,es,clock,q0,q1,q2,q3,q4,q5⟩:=hA
 simp only [zh1] at hF hX q0
 let M1:Nat->Option Obj:=fun b=>if b=r then w.heap[r]? else Z.M b
 have hsub:∀ b o,Z.M b=some o->M1 b=some o:=fun b o ho=>by
  simp only [M1]; rw [if_neg]; · exact ho
  ·rintro rfl; rw [hF.m] at ho; cases ho
 have hH1:HRep K { Z with M:=M1 } st w:=by
  refine hs.heap.grow (Keep.refl _ _) M1 hsub (fun b o hb=>?_) (fun b o hb=>?_) (fun s g o b ho hb=>?_)
  ·simp only [M1] at hb; split at hb
   ·rename_i hbr; subst hbr; exact hb
   ·exact hs.heap.mem b o hb
  ·simp only [M1] at hb; split at hb
   ·rename_i hbr; subst hbr; exact .inr hX
   ·exact .inl hb
  ·simp only [M1]; rw [if_neg]; · exact hs.heap.sep s g o b ho hb
   ·rintro rfl; exact hF.o s g o ho hb
 have hz:ZLe Z st { Z with M:=M1 } st:=.growM hsub
 have hs1:StRep K { Z with M:=M1 } (st.put (some t) (.p (.mp r ks vs))) w a:=by
  refine ⟨fun u=>?_,hs.defers,hs.size,hH1.of_site fun i=>za8 _ _ _ i⟩
  rw [zdv]
  split
  ·rename_i hu; cases hu
   have h0:=hs.slots t
   rw [ht] at h0
   have h0:=h0.inv_p
   generalize a.tmps.getD t Go.undef=X at h0
   cases h0
   exact .p _ _ (.mp r ks vs es clock (by simp only [M1,if_true]; exact q0) (q1.mono hsub) (q2.mono hsub) q3 q4 q5)
  ·exact ARep.mono (zbj (fun i=>za8 _ _ _ i) _) (ARep.mono hz (hs.slots u))
 exact k code hc K _ w a Q hN hs1 trivial hQ
theorem Sp.of_mr {f:FuncId} {args:List PV} {res:RV} {n np:Nat} {b:GC} {rs:List (Nat × Option Nat)} (hc:zad P f=some ⟨n,np,b.er,rs⟩) (hn:args.length<=n)
  (h:MR P n b.er (zez args) none fun ex s _=>retP rs res ex s):Sp P f args res:=by
 unfold zad at hc
 split at hc
 ·rename_i fn hf
  split at hc
  ·rename_i hname
   split at hc
   ·rename_i c hb
    split at hc
    ·rename_i bd rs' h1 h2
     simp only [Option.some.injEq,FnC.mk.injEq] at hc
     obtain ⟨rfl,_,rfl,rfl⟩:=hc
     refine ⟨⟨fn,hf,by rw [hb]; rfl,hname⟩,fun w M vals hM hv=>?_⟩
     refine calls_of_wp hf hb ?_
     refine h _ h1 ⟨w,M,fun _=>False,fn.ntmps⟩ _ w _ _ rfl (zqb hM hv hn) trivial (fun ex st' A' Z' w' a' hp hs _=>?_)
     have hr:(ex=.ret\/ex=.normal)/\∃ vs,zbg st' rs'=some vs/\ResOk st' (resOf vs) res:=by
      have key:(ex=.ret\/ex=.normal)/\∃ vs,zbg st' rs'=some vs/\resP st' (resOf vs) res:=by
       cases ex with
       | ret=>exact ⟨.inl rfl,hp⟩
       | normal=>exact ⟨.inr rfl,hp⟩
       | _=>exact hp.elim
      obtain ⟨k1,vs,r3,r4⟩:=key
      refine ⟨k1,vs,r3,?_⟩
      unfold resP at r4
      split at r4
      ·exact .pure _ _ r4
      ·split at r4
       ·rename_i sz es s' g off len hv
        obtain ⟨o,h1,rfl,h2,rfl,h4⟩:=r4
        rw [hv]
        exact .fresh _ _ _ _ _ h1 h2 h4
       ·rename_i hv; rw [hv,r4]; exact .nil _
       ·exact r4.elim
      ·exact r4.elim
     obtain ⟨hex,vs,hvs,hres⟩:=hr
     have hfin:a'.defers=[]/\∃ v,(results fn a'.tmps).run P w'=.ok v w'/\∃ x M',Ending.returned v=.returned x/\(∀ b o,M b=some o->M' b=some o)/\(∀ b o,M' b=some o->w'.heap[b]?=some o) /\
       (∀ b o,M' b=some o->M b=some o\/w.heap.size<=b)/\Keep w w' (fun _=>False)/\RRep M' w w' res x:=by
      obtain ⟨xs,e1,e2⟩:=zjl hs h2 hvs
      obtain ⟨M',m1,m2,m3,m4,m5⟩:=zpe hs.heap e2.resOf hres
      refine ⟨hs.defers,_,?_,_,M',rfl,m1,m2,m3,m4,m5⟩
      unfold results
      rw [Array.mapM_eq_mapM_toList]
      simp only [Sem.run_bind,map_eq_pure_bind,Sem.run_pure]
      exact congrArg (fun r=>(Result.andThen r fun a w'=>Result.ok a.toArray w').andThen fun (a:Array Value) w'=>Result.ok (if h:a.size=1 then a[0] else Value.tuple a) w') e1
     rcases hex with rfl|rfl
     ·exact hfin
     ·exact hfin
    ·cases hc
   ·cases hc
  ·cases hc
 ·cases hc
end
end Go.Ab
namespace Go.Ab
open Enc (enc)
section
variable {P:Program} {K:Ctx} {st st' st1:St} {N:Nat} {A B:Option FA} {Post:Exit->St->Option FA->Prop} {PostI:St->Option FA->Prop}
theorem MR.gseq {a b:GC} (h:vm P N (fun ex s=>(ex=.normal->MR P N b.er s A Post)/\(ex ≠ .normal->Post ex s A)) [.code a] st):MR P N (GC.seq a b).er st A Post :=
 .seq (.of_vm h)
theorem MR.gseq' {a b:GC} (h:MR P N a.er st A fun ex s B=>(ex=.normal->MR P N b.er s B Post)/\(ex ≠ .normal->Post ex s B)):MR P N (GC.seq a b).er st A Post:=.seq h
theorem MR.gcond {a b:GC} {c:Opd} {dl:List Nat} {t:Bool} (hv:st.ev c=.p (.bool t)) (h1:t=true->MR P N a.er (st.drop dl) A Post) (h2:t=false->MR P N b.er (st.drop dl) A Post):MR P N (GC.cond c dl a b).er st A Post:=by
 refine .cond hv ?_
 cases t with
 | true=>exact .weak (zic _ _) (h1 rfl)
 | false=>exact .weak (zic _ _) (h2 rfl)
theorem MR.gregD {ops:List Ins} {pre dead:List (List Nat)} {i:Ins} (ho:ops.getLast?=some i) (hl:z1y pre ops.dropLast.length=true)
  (h:vm P N (fun ex s=>ex=.normal->MOp P N i s A fun s B=>Post .normal s B) [.insD ops.dropLast [] pre dead] st):MR P N (GC.regD ops pre dead).er st A Post:=by
 obtain ⟨gs,s1,s2,r1,r2,r3,r4⟩:=zc2 _ (Nat.le_refl _) h
 have e:ops=ops.dropLast++[i]:=by
  have hne:ops≠[]:=by rintro rfl; simp at ho
  rw [List.getLast?_eq_getLast hne] at ho
  rw [<- Option.some.inj ho]; exact (List.dropLast_concat_getLast hne).symm
 show MR P N (.regD ops pre) st A Post
 rw [e]
 exact .regDL r1 (by simpa using r2) hl (.weak r3 (r4 rfl))
theorem MR.greg {ops:List Ins} {dead:List (List Nat)} (h:MIns P N ops st A fun s B=>Post .normal s B):MR P N (GC.reg ops dead).er st A Post:=.reg h
theorem zpv (n:Nat) (dead:List (List Nat)) {ops:List Ins} (h:Go.Ab.vm P N (fun ex s=>ex=.normal->MIns P N (ops.drop n) s A PostI) [.ins (ops.take n) dead] st):MIns P N ops st A PostI:=by
 have:=MIns.vm h
 rwa [List.take_append_drop] at this
theorem MIns.cons {i:Ins} {is:List Ins} (h:MOp P N i st A fun s B=>MIns P N is s B PostI):MIns P N (i::is) st A PostI:=h
theorem MR.gblk {b:GC} {id:Nat} (h:MR P N b.er st A fun ex s B=>Post (exB id ex) s B):MR P N (GC.blk id b).er st A Post:=.blk h
theorem MR.gloop {b:GC} {I:Nat->St->Option FA->Prop} (n:Nat) (hI:I n st A) (step:∀ n st A,I n st A->MR P N b.er st A fun ex s B=>(ex=.normal->∃ m,m<n/\I m s B)/\(ex ≠ .normal->Post ex s B)):MR P N (GC.loop b).er st A Post:=.loop n hI step
theorem MR.gscp {b:GC} (h:MR P N b.er st A fun ex s B=>(∀ l,ex ≠ .goto l)/\Post ex s B):MR P N (GC.scp b).er st A Post:=.scp h
theorem MR.gext {id:Nat} (h:Post (.exit id) st A):MR P N (GC.ext id).er st A Post:=.ext h
theorem MR.gnop (h:Post .normal st A):MR P N GC.nop.er st A Post:=.nop h
attribute [go_sem] zd9 PV.nomp
end
section
variable {κ α : Type} [Enc κ] [Enc α] [DecidableEq κ]
def mget (e : κ):List (κ × α)->Option α
 | []=>none
 | (e',c)::L=>if e'=e then some c else mget e L
def mset (e : κ) (c : α):List (κ × α)->List (κ × α)
 | []=>[(e,c)]
 | (e',c')::L=>if e'=e then (e',c)::L else (e',c')::mset e c L
def mks (L:List (κ × α)):List PV:=L.map fun p=>enc p.1
def mvs (L:List (κ × α)):List PV:=L.map fun p=>enc p.2
theorem zka {kc : κ -> List PV} (hk:∀ e,enc e=.agg (kc e)) (heq:∀ e e',eqI (kc e) (kc e')=true ↔ e=e') (e : κ):∀ L:List (κ × α),zbq (kc e) (mks L) (mvs L)=(mget e L).map enc
 | []=>rfl
 | (e',c)::L=>by
  simp only [mks,mvs,List.map_cons,hk,zbq,heq,mget]
  split
  ·rfl
  ·have:=zka hk heq e L; simp only [mks,mvs,hk] at this; exact this
theorem zl8 {kc : κ -> List PV} (hk:∀ e,enc e=.agg (kc e)) (heq:∀ e e',eqI (kc e) (kc e')=true ↔ e=e') (e : κ) (c : α):∀ L:List (κ × α),zcf (kc e) (enc c) (mks L) (mvs L)=(mks (mset e c L),mvs (mset e c L))
 | []=>by simp [mks,mvs,zcf,mset,hk]
 | (e',c')::L=>by
  have ih:=zl8 hk heq e c L
  simp only [mks,mvs,hk] at ih
  simp only [mks,mvs,List.map_cons,hk,zcf,heq,mset]
  split
  ·rfl
  ·simp only [ih,List.map_cons,hk]
theorem zl6 (e : κ) (c : α) (e' : κ):∀ L:List (κ × α),mget e' (mset e c L)=if e=e' then some c else mget e' L
 | []=>rfl
 | (e1,c1)::L=>by
  have ih:=zl6 e c e' L
  by_cases h:e1=e
  ·subst h
   simp only [mset,if_true,mget]
   by_cases h2:e1=e'
   ·simp [h2]
   ·simp [h2]
  ·simp only [mset,if_neg h,mget,ih]
   by_cases h2:e1=e'
   ·subst h2; simp [Ne.symm h]
   ·simp [h2]
theorem zr1 (e : κ) (c : α):∀ L:List (κ × α),(mset e c L).map (·.1)=if e∈L.map (·.1) then L.map (·.1) else L.map (·.1)++[e]
 | []=>rfl
 | (e1,c1)::L=>by
  have ih:=zr1 e c L
  simp only [mset]
  split
  ·rename_i h; subst h; simp
  ·rename_i h
   simp only [List.map_cons,ih,List.mem_cons,Ne.symm h,false_or]
   split<;>rfl
theorem zv5 {e : κ} {c : α}:∀ {L:List (κ × α)},mget e L=some c->(e,c)∈L
 | (e1,c1)::L,h=>by
  simp only [mget] at h
  split at h
  ·rename_i h1; subst h1; cases h; simp
  ·exact List.mem_cons_of_mem _ (zv5 h)
theorem zxr (e : κ) (c : α) {L:List (κ × α)} (h:(L.map (·.1)).Nodup):((mset e c L).map (·.1)).Nodup:=by
 rw [zr1]
 split
 ·exact h
 ·rename_i he
  exact List.nodup_append.2 ⟨h,by simp,fun a ha b hb=>by simp at hb; subst hb; rintro rfl; exact he ha⟩
end
end Go.Ab
