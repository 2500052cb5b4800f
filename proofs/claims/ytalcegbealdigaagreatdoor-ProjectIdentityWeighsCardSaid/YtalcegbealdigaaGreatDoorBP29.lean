/-
Proofs for the law ProjectIdentityWeighs, part 29. Conditions: none.
-/
import Derived.Test.YtalcegbealdigaaGreatDoorBP24
import Derived.Test.YtalcegbealdigaaGreatDoorBP26
import Derived.Test.YtalcegbealdigaaGreatDoorBP28
import Derived.Test.YtalcegbealdigaaGreatDoorBP27
import Derived.Test.YtalcegbealdigaaGreatDoorBP11
set_option maxRecDepth 100000
set_option maxHeartbeats 4000000
set_option linter.all false
namespace Go.Ab
open Enc (enc)
attribute [local go_sem] zas Opd.slots
theorem zw1 (x:Int):Sp P F.mj [.int .i64 x] (.pure (.bool false)):=by
 refine Sp.vz c.mj fun _=>?_
 simp [g.mj,go_sem]
theorem zfg (x y:Int):Sp P F.dj [.int .i64 x,.int .i64 y] (.pure (.int .i64 (cmpI x y))):=by
 refine Sp.vz c.dj fun _=>?_
 simp [g.dj,go_sem]
 refine zaa (zw1 x) rfl ?_
 simp [go_sem]
 refine zaa (zw1 y) rfl ?_
 simp [go_sem,cmpI]
 refine ⟨fun _ _=>by split<;>omega,fun _=>⟨fun _=>by (repeat' split)<;>omega,fun _=>by (repeat' split)<;>omega⟩⟩
def zh4:List Int->Int
 | []=>0
 | x::r=>if x=0 then zh4 r else x
theorem zuy {l:List Int}:∀ {k:Nat},(∀ x∈l.take k,x=0)->zh4 l=zh4 (l.drop k):=by
 intro k
 induction l generalizing k with
 | nil=>simp
 | cons x l ih =>
  cases k with
  | zero=>simp
  | succ k =>
   intro h
   have:x=0:=h x (by simp)
   simp only [zh4,this,if_true,List.drop_succ_cons]
   exact ih fun y hy=>h y (by simp [hy])
theorem zxk (l:List Int) (hl:l.length<=4611686018427387904):Sp P F.ig [.sl (ens l)] (.pure (.int .i64 (zh4 l))):=by
 refine Sp.vz c.ig fun _=>?_
 simp [g.ig,go_sem]
 refine zag (S:=fun k:Nat=>mkSt [(3,.p (.int .i64 0)),(6,.p (.sl (ens l))),(7,.p (.int .i64 l.length)),(8,.p (.int .i64 k))] []) (I:=fun k=>k<=l.length/\∀ x∈l.take k,x=0) (m:=fun k=>l.length - k) 0
  (Weak.to [3,6,7,8] [] (by simp [go_sem])) ⟨by omega,by simp⟩ ?_
 rintro k ⟨h1,h2⟩ R hn hr hx
 have e1:=i64s k (by omega)
 have hd:=zuy h2
 simp [g.sg,mkSt,go_sem]
 refine ⟨fun hk=>?_,fun hk=>hx _ _ ?_⟩
 ·have hdk:l.drop k=l[k]::l.drop (k+1):=List.drop_eq_getElem_cons hk
  rw [hdk] at hd
  refine zae hk ?_
  simp [e1,go_sem]
  refine ⟨fun h3=>?_,fun h3=>?_⟩
  ·refine hn (k+1) _ (Weak.to [3,6,7,8] [] (by simp [go_sem])) ⟨by omega,fun x hx=>?_⟩ (by omega)
   rw [List.take_succ_eq_append_getElem hk] at hx
   rcases List.mem_append.1 hx with hx|hx
   ·exact h2 x hx
   ·simp at hx; rw [hx]; exact h3
  ·refine hr _ ?_
   simp [zh4,h3] at hd
   simp [go_sem,hd]
 ·have:k=l.length:=by omega
  subst this
  simp [zh4] at hd
  simp [go_sem,hd]
theorem zo9 (l m:List UInt32) (hl:l.length<=4611686018427387904):Sp P F.mq [.sl (ens l),.sl (ens m)] (.pure (.bool (decide (l=m)))):=by
 refine Sp.vz c.mq fun _=>?_
 simp [g.mq,go_sem]
 refine ⟨fun h=>?_,fun h=>fun he=>h (by rw [he])⟩
 have hlen:l.length=m.length:=by omega
 refine zag (S:=fun k:Nat=>mkSt [(0,.p (.sl (ens l))),(1,.p (.sl (ens m))),(12,.p (.int .i64 l.length)),(13,.p (.int .i64 k))] []) (I:=fun k=>k<=l.length/\l.take k=m.take k) (m:=fun k=>l.length - k) 0
  (Weak.to [0,1,12,13] [] (by simp [go_sem])) ⟨by omega,by simp⟩ ?_
 rintro k ⟨h1,h2⟩ R hn hr hx
 have e1:=i64s k (by omega)
 simp [g.tb,mkSt,go_sem]
 refine ⟨fun hk=>?_,fun hk=>hx _ _ ?_⟩
 ·have hk2:k<m.length:=by omega
  have bad:l[k]≠m[k]->l≠m:=fun h h'=>by subst h'; exact h rfl
  refine zae hk ?_
  refine zae hk2 ?_
  simp [e1,go_sem]
  refine ⟨fun h6=>?_,fun h6=>?_⟩
  ·have h7:l[k]=m[k]:=UInt32.toNat_inj.1 (by omega)
   exact hn (k+1) _ (Weak.to [0,1,12,13] [] (by simp [go_sem])) ⟨by omega,by rw [List.take_succ_eq_append_getElem hk,List.take_succ_eq_append_getElem hk2,h2,h7]⟩ (by omega)
  ·have h8:l≠m:=bad fun h=>h6 (by rw [h])
   exact hr _ (by simp [h8,go_sem])
 ·have h3:l=m:=by rw [<- List.take_length (l:=l),<- List.take_length (l:=m),<- hlen,show l.length=k by omega]; exact h2
  simp [h3,go_sem]
theorem zoc (x y:GRat) (hx:x.sm 1073741824):Sp P F.iu [enc x,enc y] (.pure (.bool (decide (x=y)))):=by
 refine Sp.vz c.iu fun _=>?_
 simp [g.iu,go_sem]
 have key:∀ (x y:GRat),x=y ↔ x.neg=y.neg/\x.num=y.num/\x.den=y.den:=by intro x y; cases x; cases y; simp
 refine ⟨fun h1=>?_,fun h1=>?_⟩
 ·refine zaa (zo9 x.num y.num (by have:=hx.1; omega)) rfl ?_
  by_cases h2:x.num=y.num
  ·simp [h2,go_sem]
   refine zaa (zo9 x.den y.den (by have:=hx.2; omega)) rfl ?_
   simp [key x y,h1,h2,go_sem]
  ·simp [key x y,h2,go_sem]
 ·simp [key x y,h1,go_sem]
end Go.Ab
namespace Go.Ab
open Enc (enc)
attribute [local go_sem] zas Opd.slots
theorem zol (e:Ex) (h:(-1000<e.a/\e.a<1000)/\(-1000<e.b/\e.b<1000) /\ -1000<e.c/\e.c<1000):Sp P F.jj [enc e] (.pure (.int .i64 (e.a+e.b+e.c))):=by
 have e1:IntKind.i64.wrap e.a=e.a:=i64w (by omega) (by omega)
 have e2:IntKind.i64.wrap (e.a+e.b)=e.a+e.b:=i64w (by omega) (by omega)
 have e3:IntKind.i64.wrap (e.a+e.b+e.c)=e.a+e.b+e.c:=i64w (by omega) (by omega)
 refine Sp.vz c.jj fun _=>?_
 simp [g.jj,go_sem]
 refine zak fun R hn hr hx=>?_
 simp [g.oj,go_sem,e1]
 refine hn _ ?_
 clear hn hr hx
 refine zak fun R hn hr hx=>?_
 simp [g.oj,go_sem,e2]
 refine hn _ ?_
 clear hn hr hx
 refine zak fun R hn hr hx=>?_
 simp [g.oj,go_sem,e3]
 refine hn _ ?_
 clear hn hr hx
 refine zak fun R hn hr hx=>?_
 simp [g.oj,go_sem]
 refine hx _ _ ?_
 simp [go_sem]
theorem zsf (d e:Ex):Sp P F.jf [enc d,enc e] (.pure (.int .i64 (e.cmp d))):=by
 refine Sp.vz c.jf fun _=>?_
 simp [g.jf,go_sem]
 refine zak fun R hn hr hx=>?_
 simp [g.oi,go_sem]
 refine zaa (zfg e.a d.a) rfl ?_
 simp [go_sem]
 refine ⟨fun h=>?_,fun h=>?_⟩
 rotate_left
 ·refine hr _ ?_
  simp [go_sem]
  unfold cmpI at h ⊢; unfold Ex.cmp
  (repeat' split)<;>first|rfl|omega|simp_all
 refine hn _ ?_
 clear hn hr hx
 refine zak fun R hn hr hx=>?_
 simp [g.oi,go_sem]
 refine zaa (zfg e.b d.b) rfl ?_
 simp [go_sem]
 refine ⟨fun h2=>?_,fun h2=>?_⟩
 rotate_left
 ·refine hr _ ?_
  simp [go_sem]
  unfold cmpI at h h2 ⊢; unfold Ex.cmp
  (repeat' split)<;>first|rfl|omega|simp_all
 refine hn _ ?_
 clear hn hr hx
 refine zak fun R hn hr hx=>?_
 simp [g.oi,go_sem]
 refine zaa (zfg e.c d.c) rfl ?_
 simp [go_sem]
 refine ⟨fun h3=>?_,fun h3=>?_⟩
 rotate_left
 ·refine hr _ ?_
  simp [go_sem]
  unfold cmpI at h h2 h3 ⊢; unfold Ex.cmp
  (repeat' split)<;>first|rfl|omega|simp_all
 refine hn _ ?_
 clear hn hr hx
 refine zak fun R hn hr hx=>?_
 simp [g.oi,go_sem]
 refine hx _ _ ?_
 simp [go_sem]
 unfold cmpI at h h2 h3; unfold Ex.cmp
 (repeat' split)<;>first|rfl|omega|simp_all
end Go.Ab
namespace Go.Ab
open Enc (enc)
attribute [local go_sem] zas Opd.slots
theorem z5a (m:GMono) (hm:m.coef.sm 1048576):Sp P F.mw [enc m] (.pure (.bool m.ok)):=by
 have bad:(¬ (0<=m.e.a/\m.e.a<=5)\/¬ (0<=m.e.b/\m.e.b<=5)\/¬ (0<=m.e.c/\m.e.c<=5))->m.ok=false:=by
  intro h
  have:m.e.ok=false:=by simp only [Ex.ok,decide_eq_false_iff_not]; omega
  simp [GMono.ok,this]
 refine Sp.vz c.mw fun _=>?_
 simp [g.mw,go_sem]
 refine zak fun R hn hr hx=>?_
 by_cases ha:0<=m.e.a
 rotate_left
 ·simp [g.cj,go_sem,show m.e.a<0 by omega]
  refine hr _ ?_
  simp [go_sem,bad (by omega)]
 by_cases ha2:m.e.a<=5
 rotate_left
 ·simp [g.cj,go_sem,show ¬ m.e.a<0 by omega,show 5<m.e.a by omega]
  refine hr _ ?_
  simp [go_sem,bad (by omega)]
 simp [g.cj,go_sem,show ¬ m.e.a<0 by omega,show ¬ 5<m.e.a by omega]
 refine hn _ ?_
 clear hn hr hx
 refine zak fun R hn hr hx=>?_
 by_cases hb:0<=m.e.b
 rotate_left
 ·simp [g.cj,go_sem,show m.e.b<0 by omega]
  refine hr _ ?_
  simp [go_sem,bad (by omega)]
 by_cases hb2:m.e.b<=5
 rotate_left
 ·simp [g.cj,go_sem,show ¬ m.e.b<0 by omega,show 5<m.e.b by omega]
  refine hr _ ?_
  simp [go_sem,bad (by omega)]
 simp [g.cj,go_sem,show ¬ m.e.b<0 by omega,show ¬ 5<m.e.b by omega]
 refine hn _ ?_
 clear hn hr hx
 refine zak fun R hn hr hx=>?_
 by_cases hc:0<=m.e.c
 rotate_left
 ·simp [g.cj,go_sem,show m.e.c<0 by omega]
  refine hr _ ?_
  simp [go_sem,bad (by omega)]
 by_cases hc2:m.e.c<=5
 rotate_left
 ·simp [g.cj,go_sem,show ¬ m.e.c<0 by omega,show 5<m.e.c by omega]
  refine hr _ ?_
  simp [go_sem,bad (by omega)]
 simp [g.cj,go_sem,show ¬ m.e.c<0 by omega,show ¬ 5<m.e.c by omega]
 refine hn _ ?_
 clear hn hr hx
 refine zak fun R hn hr hx=>?_
 simp [g.cj,go_sem]
 refine hx _ _ ?_
 clear hn hr hx
 simp [go_sem]
 refine zaa (zol m.e (by omega)) rfl ?_
 simp [go_sem]
 refine ⟨fun hd=>?_,fun hd=>?_⟩
 ·have hok:m.e.ok=true:=by simp only [Ex.ok,decide_eq_true_eq]; omega
  refine zaa (zly m.coef (hm.mono (by omega))) rfl ?_
  rcases Bool.eq_false_or_eq_true m.coef.valid with hv|hv
  ·simp [go_sem,hv]
   refine zaa (zlb m.coef (hm.mono (by omega))) rfl ?_
   simp [go_sem,GMono.ok,hok,hv,zfm]
  ·simp [go_sem,hv,GMono.ok]
 ·have hok:m.e.ok=false:=by simp only [Ex.ok,decide_eq_false_iff_not]; omega
  simp [GMono.ok,hok]
theorem zsa (p:List GMono) (hp:psm p 1048576) (hl:p.length<=1073741824):Sp P F.i7 [.sl (ens p)] (.pure (.bool (decide (PVal p)))):=by
 refine Sp.vz c.i7 fun _=>?_
 simp [g.i7,go_sem]
 refine zag (S:=fun k:Nat=>mkSt [(0,.p (.sl (ens p))),(5,.p (.sl (ens p))),(6,.p (.int .i64 p.length)),(7,.p (.int .i64 k))] []) (I:=fun k=>k<=p.length/\∀ i,(h:i<p.length)->i<k->p[i].ok=true/\(0<i->p[i].e.cmp (p[i - 1]'(by omega)).e<0)) (m:=fun k=>p.length - k) 0
  (Weak.to [0,5,6,7] [] (by simp [go_sem])) ⟨by omega,fun i h h0=>by omega⟩ ?_
 rintro k ⟨h1,h2⟩ R hn hr hx
 have e3:=i64s k (by omega)
 simp [g.ta,mkSt,go_sem]
 refine ⟨fun hk=>?_,fun hk=>hx _ _ ?_⟩
 ·have bad:¬ (p[k].ok=true/\(0<k->p[k].e.cmp (p[k - 1]'(by omega)).e<0))->decide (PVal p)=false:=fun h=>decide_eq_false fun hv=>h (hv k hk)
  refine zae hk ?_
  try simp [go_sem]
  refine zab (z5a p[k] (hp _ (List.getElem_mem hk))) ?_
  have step:p[k].ok=true->(0<k->p[k].e.cmp (p[k - 1]'(by omega)).e<0)->∀ i,(h:i<p.length)->i<k+1->p[i].ok=true/\(0<i->p[i].e.cmp (p[i - 1]'(by omega)).e<0):=by
   intro a b i h hi
   by_cases hik:i<k
   ·exact h2 i h hik
   ·have:i=k:=by omega
    subst this; exact ⟨a,b⟩
  rcases Bool.eq_false_or_eq_true p[k].ok with h3|h3
  rotate_left
  ·simp [h3,go_sem]
   refine hr _ ?_
   simp [go_sem]; simpa using bad (by simp [h3])
  by_cases h0:0<k
  rotate_left
  ·have:k=0:=by omega
   subst this
   simp [h3,go_sem]
   refine hn 1 _ (Weak.to [0,5,6,7] [] (by simp [go_sem])) ⟨by omega,step h3 (by omega)⟩ (by omega)
  have e1:IntKind.i64.wrap ((k:Int) - 1)=((k - 1:Nat):Int):=by rw [i64w (by omega) (by omega)]; omega
  have e2:0<(k:Int):=by omega
  have hk1:k - 1<p.length:=by omega
  simp [h3,e1,e2,h0,show ¬ k=0 by omega,go_sem]
  refine zae hk1 ?_
  try simp [go_sem]
  refine zab (zsf p[k - 1].e p[k].e) ?_
  by_cases h4:p[k].e.cmp p[k - 1].e<0
  ·simp [go_sem,show ¬ (0<=p[k].e.cmp p[k - 1].e) by omega,h4,e3]
   refine hn (k+1) _ (Weak.to [0,5,6,7] [] (by simp [go_sem])) ⟨by omega,step h3 (fun _=>h4)⟩ (by omega)
  ·simp [go_sem,show 0<=p[k].e.cmp p[k - 1].e by omega,h4]
   refine hr _ ?_
   simp [go_sem]; simpa using bad (fun h=>h4 (h.2 h0))
 ·have:PVal p:=fun i h=>h2 i h (by omega)
  simp [this,go_sem]
theorem zr9 (p:List GMono) (hp:psm p 1048576) (hl:p.length<=1073741824):Sp P F.jh [.sl (ens p)] (.pure (.sl (ens (pv p)))):=by
 refine Sp.vz c.jh fun _=>?_
 simp [g.jh,go_sem]
 refine zaa (zsa p hp hl) rfl ?_
 by_cases h:PVal p
 ·simp [h,pv,go_sem]
 ·simp [h,pv,go_sem]
end Go.Ab
namespace Go.Ab
open Enc (enc)
attribute [local go_sem] zas Opd.slots
theorem zw7 (m n:GMono):m=n ↔ (m.e.a=n.e.a/\m.e.b=n.e.b/\m.e.c=n.e.c)/\m.coef=n.coef:=by
 obtain ⟨⟨a,b,c⟩,q⟩:=m
 obtain ⟨⟨a',b',c'⟩,q'⟩:=n
 simp
theorem zyr (m n:GMono) (hm:m.coef.sm 1048576):Sp P F.ir [enc m,enc n] (.pure (.bool (decide (m=n)))):=by
 refine Sp.vz c.ir fun _=>?_
 simp [g.ir,go_sem]
 refine ⟨fun h1 h2 h3=>?_,fun h=>?_⟩
 ·refine zaa (zoc m.coef n.coef (hm.mono (by omega))) rfl ?_
  simp [zw7,h1,h2,h3,go_sem]
 ·have hmn:m≠n:=fun e=>by
   obtain ⟨⟨h1,h2,h3⟩,_⟩:=(zw7 m n).1 e
   exact h h1 h2 h3
  simp [hmn,go_sem]
theorem zen (v:GW) (hv:v.sm 1048576):∀ w:GW,Sp P F.av [enc v,enc w] (.pure (.bool (decide (v=w)))):=by
 revert v
 refine GW.sm.ind fun v hv ih w=>?_
 refine Sp.vz c.av fun hok=>?_
 simp [g.av,go_sem]
 refine zaa (zoc v.q w.q (hv.q.mono (by omega))) rfl ?_
 by_cases h1:v.q=w.q
 rotate_left
 ·have:v≠w:=fun h=>h1 (by rw [h])
  simp [h1,this,go_sem]
 simp [h1,go_sem]
 refine ⟨fun h2=>?_,fun h2=>?_⟩
 rotate_left
 ·exact fun h=>h2 (by rw [h])
 refine ⟨fun h3=>?_,fun h3=>?_⟩
 rotate_left
 ·exact fun h=>h3 (by rw [h])
 refine ⟨fun h4'=>?_,fun h4=>?_⟩
 rotate_left
 ·exact fun h=>h4 (by rw [h])
 have h4:v.set=w.set:=UInt64.toNat_inj.1 (by omega)
 refine zaa (zk2 v.poly w.poly F.ir (by have:=hv.len; omega) fun x hx y _=>zyr x y (hv.poly x hx)) rfl ?_
 by_cases h5:v.poly=w.poly
 rotate_left
 ·have:v≠w:=fun h=>h5 (by rw [h])
  simp [h5,this,go_sem]
 simp [h5,go_sem]
 refine zaa (zn0 v.parts w.parts F.av (by have:=hv.plen; omega) fun x hx y _=>ih x hx y) rfl ?_
 by_cases h6:v.parts=w.parts
 ·have:v=w:=GW.ext h1 h2 h3 h4 h5 h6
  simp [this,go_sem]
 ·have:v≠w:=fun h=>h6 (by rw [h])
  simp [h6,this,go_sem]
end Go.Ab
namespace Go.Ab
open Enc (enc)
attribute [local go_sem] zas Opd.slots
def ratA:PV:=.agg [.fn F.dq [],.fn F.bo [],.fn F.nt [],.fn F.dt [],.fn F.n7 [],.fn F.po [],.fn F.n5 [],.fn F.ou [],.fn F.pq []]
def polA:PV:=.agg [.fn F.d9 [],.fn F.ee [],.fn F.oy [],.fn F.ej [],.fn F.oz [],.fn F.qa [],.fn F.n5 [],.fn F.qc [],.fn F.qd []]
def fraB (x:PV):PV:=.agg [.fn F.d4 [],.fn F.bo [],.fn F.nt [],.fn F.d5 [x],.fn F.n7 [],.fn F.od [.ref (.fn F.nt [])],.fn F.i6 [],.fn F.ou [],.fn F.py [x]]
def cosB (x:PV):PV:=.agg [.fn F.dv [],.fn F.dw [],.fn F.n8 [],.fn F.dz [],.fn F.ow [],.fn F.od [.ref (.fn F.n8 [])],.fn F.d0 [],.fn F.pt [],.fn F.px [x]]
def setB (x:PV):PV:=.agg [.fn F.d6 [],.fn F.d7 [],.fn F.n9 [],.fn F.d8 [],.fn F.ox [],.fn F.od [.ref (.fn F.n9 [])],.fn F.n5 [],.fn F.p8 [],.fn F.p9 [x]]
def fraA:PV:=fraB (.ref (fraB .any))
def cosA:PV:=cosB (.ref (cosB .any))
def setA:PV:=setB (.ref (setB .any))
theorem zg0:Sp P F.dm [] (.pure ratA):=by
 refine Sp.vz c.dm fun _=>?_
 simp [g.dm,go_sem,ratA]
theorem znu:Sp P F.mg [] (.pure polA):=by
 refine Sp.vz c.mg fun _=>?_
 simp [g.mg,go_sem,polA]
theorem ztz (f:FuncId):Sp P F.d3 [.fn f []] (.pure (.fn F.od [.ref (.fn f [])])):=by
 refine Sp.vz c.d3 fun _=>?_
 simp [g.d3,go_sem,toPV]
theorem zs4:Sp P F.me [] (.pure fraA):=by
 refine Sp.vz c.me fun _=>?_
 simp [g.me,go_sem]
 refine zaa zg0 rfl ?_
 simp [go_sem,ratA]
 refine zaa (ztz F.nt) rfl ?_
 simp [go_sem,toPV,fraA,fraB]
theorem z6q:Sp P F.l9 [] (.pure cosA):=by
 refine Sp.vz c.l9 fun _=>?_
 simp [g.l9,go_sem]
 refine zaa (ztz F.n8) rfl ?_
 simp [go_sem,toPV,cosA,cosB]
theorem z8g:Sp P F.mf [] (.pure setA):=by
 refine Sp.vz c.mf fun _=>?_
 simp [g.mf,go_sem]
 refine zaa (ztz F.n9) rfl ?_
 simp [go_sem,toPV,setA,setB]
def zny (k:Int):PV:=if k=1 then ratA else if k=2 then cosA else if k=3 then fraA else if k=4 then setA else polA
theorem zmy (k:Int) (hk:1<=k/\k<=5):Sp P F.ak [.int .i64 k] (.pure (zny k)):=by
 have:k=1\/k=2\/k=3\/k=4\/k=5:=by omega
 rcases this with rfl|rfl|rfl|rfl|rfl
 ·refine Sp.vz c.ak fun _=>?_
  simp [g.ak,go_sem]
  refine zaa zg0 rfl ?_
  simp [go_sem,zny,ratA]
 ·refine Sp.vz c.ak fun _=>?_
  simp [g.ak,go_sem]
  refine zaa z6q rfl ?_
  simp [go_sem,zny,cosA,cosB]
 ·refine Sp.vz c.ak fun _=>?_
  simp [g.ak,go_sem]
  refine zaa zs4 rfl ?_
  simp [go_sem,zny,fraA,fraB]
 ·refine Sp.vz c.ak fun _=>?_
  simp [g.ak,go_sem]
  refine zaa z8g rfl ?_
  simp [go_sem,zny,setA,setB]
 ·refine Sp.vz c.ak fun _=>?_
  simp [g.ak,go_sem]
  refine zaa znu rfl ?_
  simp [go_sem,zny,polA]
theorem zrz (k:Int):Sp P F.gr [.int .i64 k] (.pure (.bool (decide (1<=k/\k<=5)))):=by
 refine Sp.vz c.gr fun _=>?_
 simp [g.gr,go_sem]
 refine ⟨fun h=>by simp [h],fun h=>by simp [show ¬ 1<=k by omega]⟩
theorem zxu (k:Int):Sp P F.gt [.int .i64 k] (.pure (.bool (!decide (1<=k/\k<=5)))):=by
 refine Sp.vz c.gt fun _=>?_
 simp [g.gt,go_sem]
 refine zaa (zrz k) rfl ?_
 simp [go_sem]
theorem zfi (r:GRing):Sp P F.bi [enc r] (.pure (.bool r.ok)):=by
 refine Sp.vz c.bi fun hok=>?_
 simp [g.bi,go_sem]
 refine ⟨fun h6=>⟨fun h2=>⟨fun h3=>?_,fun h3=>?_⟩,fun h2=>?_⟩,fun h6=>?_⟩
 ·refine zaa (z9o r.parts F.gt [] (fun k => !decide (1<=k/\k<=5)) (by omega) fun k _=>zxu k) rfl ?_
  have:r.ok = !(r.parts.any fun k => !decide (1<=k/\k<=5)):=by
   rw [Bool.eq_iff_iff]
   simp only [GRing.ok,if_pos h6,decide_eq_true_eq,Bool.not_eq_true',List.any_eq_false]
   constructor
   ·intro h x hx; have:=h.2.2 x hx; simp [this]
   ·intro h; exact ⟨by omega,by omega,fun k hk=>by have:=h k hk; simpa using this⟩
  simp [go_sem,this]
 ·simp [GRing.ok,h6]; intro h; omega
 ·simp [GRing.ok,h6]; intro h; omega
 ·refine zaa (zrz r.kind) rfl ?_
  by_cases hk:1<=r.kind/\r.kind<=5
  ·simp [go_sem,hk,GRing.ok,h6]
  ·have:r.ok=false:=by simp only [GRing.ok,if_neg h6,decide_eq_false_iff_not]; omega
   simp [go_sem,hk,this]
end Go.Ab
namespace Go.Ab
open Enc (enc)
attribute [local go_sem] zas Opd.slots
theorem zs0 (w:GW) (q:GRat) (c:Int) (i:Bool) (s:UInt64) (p:List GMono) (ps:List GW):w=.mk q c i s p ps ↔ w.q=q/\w.cost=c/\w.inf=i/\w.set=s/\w.poly=p/\w.parts=ps:=by
 cases w; simp [GW.q,GW.cost,GW.inf,GW.set,GW.poly,GW.parts]
theorem zv3 (w:GW) (hw:w.sm 1048576):Sp P F.dq [enc w] (.pure (.bool (decide (w.si 1)))):=by
 refine Sp.vz c.dq fun _=>?_
 simp [g.dq,go_sem]
 refine zaa (zly w.q (hw.q.mono (by omega))) rfl ?_
 rcases Bool.eq_false_or_eq_true w.q.valid with hv|hv
 ·simp [go_sem,hv]
  refine zab (zen w hw (.mk w.q 0 false 0 [] [])) ?_
  simp [go_sem]
  rw [si1,zs0]
  simp [hv]
  exact ⟨fun ⟨a,b,c,d,e⟩=>⟨e,b,a,c,d⟩,fun ⟨e,b,a,c,d⟩=>⟨a,b,c,d,e⟩⟩
 ·have:¬ w.si 1:=fun h=>by have:=(si1.1 h).2.2.2.2.2; rw [hv] at this; cases this
  simp [go_sem,hv,this]
theorem z41 (w:GW) (hw:w.sm 1048576):Sp P F.d9 [enc w] (.pure (.bool (decide (w.si 5)))):=by
 refine Sp.vz c.d9 fun _=>?_
 simp [g.d9,go_sem]
 refine zaa (zsa w.poly hw.poly (by have:=hw.len; omega)) rfl ?_
 by_cases hv:PVal w.poly
 ·simp [go_sem,hv]
  refine zab (zen w hw (.mk gr0 0 false 0 w.poly [])) ?_
  simp [go_sem]
  rw [si5,zs0]
  simp [hv]
  exact ⟨fun ⟨a,b,c,d,e⟩=>⟨e,a,c,b,d⟩,fun ⟨e,a,c,b,d⟩=>⟨a,b,c,d,e⟩⟩
 ·have:¬ w.si 5:=fun h=>hv (si5.1 h).2.2.2.2.2
  simp [go_sem,hv,this]
theorem z4i (w:GW) (hw:w.sm 1048576):Sp P F.d6 [enc w] (.pure (.bool (decide (w.si 4)))):=by
 refine Sp.vz c.d6 fun _=>?_
 simp [g.d6,go_sem]
 refine zab (zen w hw (.mk gr0 0 false w.set [] [])) ?_
 simp [go_sem]
 rw [si4,zs0]
 simp
 exact ⟨fun ⟨a,b,c,d,e⟩=>⟨e,a,c,b,d⟩,fun ⟨e,a,c,b,d⟩=>⟨a,b,c,d,e⟩⟩
theorem z6t (w:GW) (hw:w.sm 1048576):Sp P F.dv [enc w] (.pure (.bool (decide (w.si 2)))):=by
 refine Sp.vz c.dv fun _=>?_
 simp [g.dv,go_sem]
 have no:¬ (0<=w.cost/\w.cost<=1099511627776/\(w.inf=true->w.cost=0))->¬ w.si 2:=fun h h2=>h (si2.1 h2).2.2.2.2
 refine ⟨fun h1=>⟨fun h2=>?_,fun h2=>?_⟩,fun h1=>?_⟩
 ·rcases Bool.eq_false_or_eq_true w.inf with hi|hi
  ·simp [go_sem,hi]
   refine ⟨fun h3=>?_,fun h3=>no (fun h=>h3 (h.2.2 hi))⟩
   refine zaa (zen w hw (.mk gr0 w.cost true 0 [] [])) (by simp [go_sem,hi]) ?_
   simp [go_sem]
   rw [si2,zs0]
   simp [hi,h3]
   exact ⟨fun ⟨a,b,c,d⟩=>⟨d,a,b,c⟩,fun ⟨d,a,b,c⟩=>⟨a,b,c,d⟩⟩
  ·simp [go_sem,hi]
   refine zaa (zen w hw (.mk gr0 w.cost false 0 [] [])) (by simp [go_sem,hi]) ?_
   simp [go_sem]
   rw [si2,zs0]
   simp [hi,h1,h2]
   exact ⟨fun ⟨a,b,c,d⟩=>⟨d,a,b,c⟩,fun ⟨d,a,b,c⟩=>⟨a,b,c,d⟩⟩
 ·exact no (by omega)
 ·exact no (by omega)
theorem z8h:Sp P F.jc [.int .i64 1,.int .i64 1] (.pure (.tup [enc (rto 1),.int .i64 0])):=by
 have h:=z4s 1 1 (by omega) (by omega)
 have hd:Rat.divInt 1 1=1:=rfl
 simp [hd] at h
 exact h
theorem zyd:Sp P F.mn [.int .i64 1] (.pure (enc (.mk (rto 1) 0 false 0 [] []:GW))):=by
 refine Sp.vz c.mn fun _=>?_
 simp [g.mn,go_sem]
 refine zaa z8h rfl ?_
 simp [go_sem]
theorem yb8 {x y:Rat}:x<y ↔ (x - y).num<0:=by
 rw [Rat.lt_iff_sub_pos]
 have:(x - y) = -(y - x):=by rw [Rat.neg_sub]
 rw [this,Rat.neg_num]
 have h1:0<=y - x ↔ 0<=(y - x).num:=Rat.num_nonneg.symm
 have h2:(y - x)=0 ↔ (y - x).num=0:=Rat.num_eq_zero.symm
 rw [Rat.lt_iff_le_and_ne,h1,ne_comm,Ne,h2]; omega
theorem z5j (x y:Rat):(x - y).num = -(y - x).num:=by
 have:(x - y) = -(y - x):=by rw [Rat.neg_sub]
 rw [this,Rat.neg_num]
theorem z0a {x y:Rat}:0<sgnR (x - y) ↔ y<x:=by
 rw [yb8]
 have:=z5j x y
 unfold sgnR; (repeat' split)<;>omega
theorem ybh {x y:Rat}:sgnR (x - y)<=0 ↔ x<=y:=by
 rw [<- Rat.not_lt,<- z0a]; omega
theorem z59 (w:GW) (hw:w.sm 1048576):Sp P F.d4 [enc w] (.pure (.bool (decide (w.si 3)))):=by
 refine Sp.vz c.d4 fun _=>?_
 simp [g.d4,go_sem]
 refine zaa zg0 rfl ?_
 simp [go_sem,ratA]
 refine zab (zv3 w hw) ?_
 have i3:w.si 3 ↔ w.si 1/\0<=w.q.v/\w.q.v<=1:=by
  rw [si3,si1]; exact ⟨fun ⟨a,b,c,d,e,f,g,h⟩=>⟨⟨a,b,c,d,e,f⟩,g,h⟩,fun ⟨⟨a,b,c,d,e,f⟩,g,h⟩=>⟨a,b,c,d,e,f,g,h⟩⟩
 by_cases h1:w.si 1
 ·simp [go_sem,h1]
  refine zaa (zlb w.q (hw.q.mono (by omega))) rfl ?_
  simp [go_sem]
  refine ⟨fun h2=>?_,fun h2=>?_⟩
  ·refine zaa zyd rfl ?_
   simp [go_sem]
   refine zaa (zl7 w.q (rto 1) hw.q (zl0.mono (by omega))) rfl ?_
   simp [go_sem]
   rw [zbg]
   have a1:=zf4.1 h2
   rw [ybh,i3]
   simp [h1,a1]
  ·have:¬ 0<=w.q.v:=fun h=>by have:=zf4.2 h; omega
   simp [i3,this]
 ·simp [go_sem,i3,h1]
end Go.Ab
namespace Go.Ab
open Enc (enc)
attribute [local go_sem] zas Opd.slots
theorem GRat.sm.monoR {x:GRat} {m n:Nat} (h:x.sm m) (k:m<=n):x.sm n:=⟨Nat.le_trans h.1 k,Nat.le_trans h.2 k⟩
theorem psm.monoR {p:List GMono} {m n:Nat} (h:psm p m) (k:m<=n):psm p n:=fun x hx=>(h x hx).monoR k
theorem GW.sm.mono {m n:Nat} (k:m<=n):∀ w:GW,w.sm m->w.sm n:=by
 refine GW.sm.ind fun v hv ih=>?_
 cases v with
 | mk q c i s p ps=>exact .mk (hv.q.monoR k) (hv.poly.monoR k) (Nat.le_trans hv.len k) (Nat.le_trans hv.plen k) ih
theorem GW.sm.one (k:Int) {n:Nat} {q:GRat} {c:Int} {i:Bool} {s:UInt64} {p:List GMono} (hq:q.sm n) (hp:psm p n) (hl:p.length<=n):(GW.mk q c i s p []).sm n:=.mk hq hp hl (by simp) (by simp)
theorem zl9 (n:Nat):psm [] n:=by intro m hm; simp at hm
theorem zv7 {k:Int} {v w:GW} {m n:Nat} (hv:v.sm m) (hw:w.sm n) (cv:v.chk ⟨k,[]⟩) (cw:w.chk ⟨k,[]⟩) (hm:1<=m) (hn:1<=n):(zap k v w).sm (m+n+1):=by
 unfold zap
 have hv':=hv.mono (show m<=m+n+1 by omega)
 have hw':=hw.mono (show n<=m+n+1 by omega)
 split
 ·exact .one 0 (zjv hv.q hw.q hm hn) (zl9 _) (by simp)
 ·split
  ·split
   ·exact hw'
   ·exact hv'
  ·split
   ·split
    ·exact hw'
    ·exact hv'
   ·split
    ·exact .one 0 (zh3 _) (zl9 _) (by simp)
    ·exact .one 0 (zh3 _) (z84 (zk4 cv) (zk4 cw) hv.poly hw.poly hm hn) (by have:=zp9 v.poly w.poly; have:=hv.len; have:=hw.len; omega)
theorem zfo {a b:Nat} (h:a<=b):4294967296^a<=4294967296^b:=Nat.pow_le_pow_right (by omega) h
theorem z44 (v w:GW) (n:Nat) (hv:v.sm n) (hw:w.sm n) (hn:n<=2000) (hn1:1<=n) (cv:v.chk ⟨5,[]⟩) (cw:w.chk ⟨5,[]⟩):Sp P F.aa [enc (⟨5,[]⟩:GRing),enc v,enc w] (.pure (enc (zap 5 v w))):=by
 have pv:=zk4 cv
 have pw:=zk4 cw
 have h1:=zld pv hv.poly hn1 (zf8 w.poly)
 have h2:=zld pw hw.poly hn1 (zf8 v.poly)
 rw [Nat.mul_comm (pden w.poly)] at h2
 have hl1:=zbh pv
 have hl2:=zbh pw
 have d1:=zp6 hv.poly hn1
 have d2:=zp6 hw.poly hn1
 have hD:pden v.poly*pden w.poly<4294967296^(434*n+2):=by
  refine Nat.lt_of_lt_of_le (Nat.mul_lt_mul'' d1 d2) ?_
  rw [<- Nat.pow_add]
  refine zfo ?_
  have e1:n*v.poly.length<=n*216:=Nat.mul_le_mul_left _ hl1
  have e2:n*w.poly.length<=n*216:=Nat.mul_le_mul_left _ hl2
  omega
 have hB:4294967296^n*(pden v.poly*pden w.poly)<4294967296^(435*n+2):=by
  have:435*n+2=n+(434*n+2):=by omega
  rw [this,Nat.pow_add]
  exact Nat.mul_lt_mul_of_pos_left hD (Nat.pow_pos (by omega))
 have hD0:pden v.poly*pden w.poly≠0:=Nat.mul_ne_zero (zf8 _) (zf8 _)
 have hD':=Nat.lt_of_lt_of_le hD (zfo (show 434*n+2<=1048576 by omega))
 have hB':=Nat.lt_of_lt_of_le (zro _ _ _ hB hB) (zfo (show 435*n+2+1<=1048576 by omega))
 exact z8r v w (hv.mono (by omega)) (hw.mono (by omega)) cv cw _ _ _ h1 h2 hD0 hD' hB'
theorem zwa (k:Int) (hk:1<=k/\k<=5) (v w:GW) (n:Nat) (hv:v.sm n) (hw:w.sm n) (hn:n<=2000) (hn1:1<=n) (cv:v.chk ⟨k,[]⟩) (cw:w.chk ⟨k,[]⟩) :
  Sp P F.aa [enc (⟨k,[]⟩:GRing),enc v,enc w] (.pure (enc (zap k v w))):=by
 have hv':=hv.mono (show n<=1048576 by omega)
 have hw':=hw.mono (show n<=1048576 by omega)
 have:k=1\/k=2\/k=3\/k=4\/k=5:=by omega
 rcases this with rfl|rfl|rfl|rfl|rfl
 ·exact z8v v w hv' hw' cv cw
 ·exact z8u v w hv' hw' cv cw
 ·exact z8t v w hv' hw' cv cw
 ·exact z8s v w hv' hw' cv cw
 ·exact z44 v w n hv hw hn hn1 cv cw
def zd0:List Int->List GW->List GW->List GW
 | k::ks,v::vs,w::ws=>zap k v w::zd0 ks vs ws
 | _,_,_=>[]
def GRing.plus (r:GRing) (v w:GW):GW:=if r.kind=6 then .mk gr0 0 false 0 [] (zd0 r.parts v.parts w.parts) else zap r.kind v w
theorem za8:∀ {ks:List Int} {vs ws:List GW},vs.length=ks.length->ws.length=ks.length->(zd0 ks vs ws).length=ks.length
 | [],vs,ws,_,_=>by simp [zd0]
 | k::ks,[],ws,h,_=>by simp at h
 | k::ks,v::vs,[],_,h=>by simp at h
 | k::ks,v::vs,w::ws,h1,h2=>by simp [zd0,za8 (ks:=ks) (vs:=vs) (ws:=ws) (by simpa using h1) (by simpa using h2)]
theorem zbl:∀ {ks:List Int} {vs ws:List GW} {i:Nat} (h:i<ks.length) (h1:i<vs.length) (h2:i<ws.length) (h3:i<(zd0 ks vs ws).length),(zd0 ks vs ws)[i]=zap ks[i] vs[i] ws[i]
 | k::ks,v::vs,w::ws,0,_,_,_,_=>by simp [zd0]
 | k::ks,v::vs,w::ws,i+1,h,h1,h2,h3=>by
  simp only [zd0,List.getElem_cons_succ]
  exact zbl (by simpa using h) (by simpa using h1) (by simpa using h2) (by simpa [zd0] using h3)
theorem zp4 (r:GRing) (v w:GW) (n:Nat) (hv:v.sm n) (hw:w.sm n) (hn:n<=2000) (hn1:1<=n) (cv:v.chk r) (cw:w.chk r):Sp P F.aa [enc r,enc v,enc w] (.pure (enc (r.plus v w))):=by
 have hr0:=cv.1
 by_cases h6:r.kind=6
 rotate_left
 ·have hk:=GRing.ok_kind hr0 h6
  have he:r=⟨r.kind,[]⟩:=by rw [<- hk.2.2]
  have h1:r.plus v w=zap r.kind v w:=by simp [GRing.plus,h6]
  rw [h1,he]
  rw [he] at cv cw
  exact zwa r.kind ⟨hk.1,hk.2.1⟩ v w n hv hw hn hn1 cv cw
 have hp:=GRing.ok_parts hr0 h6
 have t1:v.tk r=v:=if_pos cv
 have t2:w.tk r=w:=if_pos cw
 have k1:=zaw r v (hv.mono (by omega))
 have k2:=zaw r w (hw.mono (by omega))
 rw [t1] at k1; rw [t2] at k2
 have lv:=(cv.2.2 h6).1
 have lw:=(cw.2.2 h6).1
 have lp:(zd0 r.parts v.parts w.parts).length=r.parts.length:=za8 lv lw
 refine Sp.vz c.aa fun _=>?_
 simp [g.aa,go_sem]
 refine zaa (zau r) rfl ?_
 simp [hr0,go_sem]
 refine zab k1 ?_
 simp [go_sem]
 refine zab k2 ?_
 simp [go_sem,h6]
 refine zag (S:=fun k:Nat=>mkSt [(3,.ptr 1 0 0 0),(4,.ptr 2 0 0 0),(5,.ptr 3 0 0 0),(6,.ptr 4 0 0 0),(7,.ptr 5 0 0 0),(8,.p (.int .i64 k))]
   [(1,⟨2,[.p (enc r)]⟩),(2,⟨8,[.p (enc v)]⟩),(3,⟨8,[.p (enc w)]⟩),(4,⟨8,[.agg [.p (.bool false),.nil,.nil,.p (.int .i64 0),.p (.bool false),.p (.int .u64 0),.nil,.nil]]⟩),
    (5,⟨8,[.agg [.p (.bool false),.nil,.nil,.p (.int .i64 0),.p (.bool false),.p (.int .u64 0),.nil,.own 6 0 0 k]]⟩),(6,⟨8,avs ((zd0 r.parts v.parts w.parts).take k)⟩)])
  (I:=fun k=>k<=r.parts.length) (m:=fun k=>r.parts.length - k) 0
  ((Weak.nilCell (s0:=7) (g0:=0) (i:=7) (s:=77) (sz:=8) rfl).trans (Weak.to [3,4,5,6,7,8] [((3,0),1),((4,0),2),((5,0),3),((6,0),4),((7,0),5),((77,0),6)] (by simp [go_sem,h6]))) (by omega) ?_
 rintro k h1 R hn' hr hx
 have e1:=i64s k (by omega)
 simp [g.qw,mkSt,go_sem]
 refine ⟨fun hk=>?_,fun hk=>hx _ _ ?_⟩
 ·have hkv:k<v.parts.length:=by omega
  have hkw:k<w.parts.length:=by omega
  have hpk:=hp.2.2 _ (List.getElem_mem hk)
  refine zaa (zi5 r k hk) rfl ?_
  simp [go_sem]
  refine zae hkv ?_
  try simp [go_sem]
  refine zae hkw ?_
  try simp [go_sem]
  refine zab (zwa r.parts[k] hpk v.parts[k] w.parts[k] n (hv.parts _ (List.getElem_mem hkv)) (hw.parts _ (List.getElem_mem hkw)) hn hn1 (zgi cv h6 hk hkv) (zgi cw h6 hk hkw)) ?_
  have hkL:k<(zd0 r.parts v.parts w.parts).length:=by omega
  have hts:avs ((zd0 r.parts v.parts w.parts).take (k+1))=avs ((zd0 r.parts v.parts w.parts).take k)++[.p (enc (zap r.parts[k] v.parts[k] w.parts[k]))]:=by
   rw [List.take_succ_eq_append_getElem hkL,zbp,zbl hk hkv hkw hkL]; rfl
  simp [e1,go_sem]
  exact ⟨⟨by omega,by omega⟩,hn' (k+1) _ (Weak.to [3,4,5,6,7,8] [((1,0),1),((2,0),2),((3,0),3),((4,0),4),((5,0),5),((97,0),6)] (by simp [go_sem,hts])) (by omega) (by omega)⟩
 ·have hk':k=(zd0 r.parts v.parts w.parts).length:=by omega
  have hpl:r.plus v w=.mk gr0 0 false 0 [] (zd0 r.parts v.parts w.parts):=by simp [GRing.plus,h6]
  rw [hpl]
  subst hk'
  simp [go_sem]
end Go.Ab
namespace Go.Ab
open Enc (enc)
theorem zhn {k:Int} (hk:1<=k/\k<=5):(zbz k).si k:=by
 have:k=1\/k=2\/k=3\/k=4\/k=5:=by omega
 have h1:=zm6
 rcases this with rfl|rfl|rfl|rfl|rfl
 ·rw [si1]; exact ⟨rfl,rfl,rfl,rfl,rfl,h1⟩
 ·rw [si2]; exact ⟨rfl,rfl,rfl,rfl,Int.le_refl 0,by simp [zbz,GW.cost],fun _=>rfl⟩
 ·rw [si3]; exact ⟨rfl,rfl,rfl,rfl,rfl,h1,by show 0<=gr0.v; rw [zg8]; decide,by show gr0.v<=1; rw [zg8]; decide⟩
 ·rw [si4]; exact ⟨rfl,rfl,rfl,rfl,rfl⟩
 ·rw [si5]; exact ⟨rfl,rfl,rfl,rfl,rfl,zh9⟩
theorem zb8 {k:Int} (hk:1<=k/\k<=5) {v w:GW} (hv:v.si k) (hw:w.si k):(zap k v w).si k:=by
 have:k=1\/k=2\/k=3\/k=4\/k=5:=by omega
 rcases this with rfl|rfl|rfl|rfl|rfl
 ·rw [si1]; exact ⟨rfl,rfl,rfl,rfl,rfl,zbe _⟩
 ·unfold zap; simp only [if_neg (show ¬ (2:Int)=1 by decide),if_pos]; split<;>assumption
 ·unfold zap; simp only [if_neg (show ¬ (3:Int)=1 by decide),if_neg (show ¬ (3:Int)=2 by decide),if_pos]; split<;>assumption
 ·rw [si4]; exact ⟨rfl,rfl,rfl,rfl,rfl⟩
 ·rw [si5]; exact ⟨rfl,rfl,rfl,rfl,rfl,zb9 _ (si_p hv)⟩
theorem zoj {k:Int} (hk:1<=k/\k<=5) {v:GW} (hv:v.si k):zap k v (zbz k)=v:=by
 have:k=1\/k=2\/k=3\/k=4\/k=5:=by omega
 cases v with
 | mk q c i s p ps =>
 rcases this with rfl|rfl|rfl|rfl|rfl
 ·obtain ⟨h1,h2,h3,h4,h5,h6⟩:=si1.1 hv
  simp only [GW.parts_mk,GW.inf_mk,GW.cost_mk,GW.set_mk,GW.poly_mk,GW.q_mk] at h1 h2 h3 h4 h5 h6
  subst h1 h2 h3 h4 h5
  simp [zap,zbz,GW.q_mk,zg8,Rat.add_zero,zgo h6]
 ·obtain ⟨h1,h2,h3,h4,h5,h6,h7⟩:=si2.1 hv
  simp only [GW.parts_mk,GW.inf_mk,GW.cost_mk,GW.set_mk,GW.poly_mk,GW.q_mk] at h1 h2 h3 h4 h5 h6 h7
  subst h1 h2 h3 h4
  cases i
  ·simp [zap,zbz,GW.inf_mk]
  ·have:=h7 rfl; subst this
   simp [zap,zbz,GW.inf_mk]
 ·obtain ⟨h1,h2,h3,h4,h5,h6,h7,h8⟩:=si3.1 hv
  simp only [GW.parts_mk,GW.inf_mk,GW.cost_mk,GW.set_mk,GW.poly_mk,GW.q_mk] at h1 h2 h3 h4 h5 h6 h7
  have:¬ q.v<0:=Rat.not_lt.2 h7
  simp [zap,zbz,GW.q_mk,zg8,this]
 ·obtain ⟨h1,h2,h3,h4,h5⟩:=si4.1 hv
  simp only [GW.parts_mk,GW.inf_mk,GW.cost_mk,GW.set_mk,GW.poly_mk,GW.q_mk] at h1 h2 h3 h4 h5
  subst h1 h2 h3 h4 h5
  simp [zap,zbz,GW.set_mk]
 ·obtain ⟨h1,h2,h3,h4,h5,h6⟩:=si5.1 hv
  simp only [GW.parts_mk,GW.inf_mk,GW.cost_mk,GW.set_mk,GW.poly_mk,GW.q_mk] at h1 h2 h3 h4 h5 h6
  subst h1 h2 h3 h4 h5
  simp [zap,zbz,GW.poly_mk,padd]
theorem zbn {r:GRing} (h:r.ok=true):r.zero.chk r:=by
 by_cases h6:r.kind=6
 ·refine ⟨h,fun h'=>absurd h6 h',fun _=>?_⟩
  have hp:=GRing.ok_parts h h6
  simp [GRing.zero,h,h6,GW.parts_mk]
  exact fun i hi _=>zhn (hp.2.2 _ (List.getElem_mem hi))
 ·have hk:=GRing.ok_kind h h6
  refine ⟨h,fun _=>?_,fun h'=>absurd h' h6⟩
  have:r.zero=zbz r.kind:=by simp [GRing.zero,h,zbz,hk.2.2]
  rw [this]; exact zhn ⟨hk.1,hk.2.1⟩
theorem z3r (k:Int) (n:Nat):(zbz k).sm n:=.one k (zh3 n) (zl9 n) (by simp)
theorem ztw {r:GRing} {n:Nat} (h:r.ok=true) (hn:3<=n):r.zero.sm n:=by
 have:r.zero=.mk gr0 0 (decide (r.kind=2)) 0 [] (r.parts.map zbz):=by simp [GRing.zero,h]
 rw [this]
 have hl:r.parts.length<=3:=by
  by_cases h6:r.kind=6
  ·exact (GRing.ok_parts h h6).2.1
  ·simp [(GRing.ok_kind h h6).2.2]
 refine .mk (zh3 n) (zl9 n) (by simp) (by simp; omega) fun w hw=>?_
 obtain ⟨k,_,rfl⟩:=List.mem_map.1 hw
 exact z3r k n
theorem zbs {r:GRing} {v w:GW} (hv:v.chk r) (hw:w.chk r):(r.plus v w).chk r:=by
 by_cases h6:r.kind=6
 ·have hp:=GRing.ok_parts hv.1 h6
  have lv:=(hv.2.2 h6).1
  have lw:=(hw.2.2 h6).1
  refine ⟨hv.1,fun h=>absurd h6 h,fun _=>?_⟩
  have e:r.plus v w=.mk gr0 0 false 0 [] (zd0 r.parts v.parts w.parts):=by simp [GRing.plus,h6]
  rw [e]
  refine ⟨za8 lv lw,rfl,fun i h h'=>?_⟩
  simp only [GW.parts_mk] at h' ⊢
  rw [zbl h (by omega) (by omega) h']
  exact zb8 (hp.2.2 _ (List.getElem_mem h)) ((hv.2.2 h6).2.2 i h (by omega)) ((hw.2.2 h6).2.2 i h (by omega))
 ·have hk:=GRing.ok_kind hv.1 h6
  have e:r.plus v w=zap r.kind v w:=by simp [GRing.plus,h6]
  rw [e]
  exact ⟨hv.1,fun _=>zb8 ⟨hk.1,hk.2.1⟩ (hv.2.1 h6) (hw.2.1 h6),fun h=>absurd h h6⟩
theorem zci {r:GRing} {v:GW} (hv:v.chk r):r.plus v r.zero=v:=by
 by_cases h6:r.kind=6
 ·have hp:=GRing.ok_parts hv.1 h6
  obtain ⟨lv,ev,sv⟩:=hv.2.2 h6
  have e:r.plus v r.zero=.mk gr0 0 false 0 [] (zd0 r.parts v.parts r.zero.parts):=by simp [GRing.plus,h6]
  have ez:r.zero.parts=r.parts.map zbz:=by simp [GRing.zero,hv.1,GW.parts_mk]
  rw [e,ez,ev]
  simp only [GW.parts_mk]
  congr 1
  refine List.ext_getElem (by rw [za8 lv (by simp),lv]) fun i h1 h2=>?_
  have h3:i<r.parts.length:=by rw [<- lv]; exact h2
  rw [zbl h3 h2 (by simpa using h3) h1]
  simp only [List.getElem_map]
  exact zoj (hp.2.2 _ (List.getElem_mem h3)) (sv i h3 h2)
 ·have hk:=GRing.ok_kind hv.1 h6
  have e:r.plus v r.zero=zap r.kind v r.zero:=by simp [GRing.plus,h6]
  have ez:r.zero=zbz r.kind:=by simp [GRing.zero,hv.1,zbz,hk.2.2]
  rw [e,ez]
  exact zoj ⟨hk.1,hk.2.1⟩ (hv.2.1 h6)
theorem zp3 {r:GRing} {v w:GW} {m n:Nat} (sv:v.sm m) (sw:w.sm n) (hv:v.chk r) (hw:w.chk r) (hm:1<=m) (hn:1<=n):(r.plus v w).sm (m+n+1):=by
 by_cases h6:r.kind=6
 ·have hp:=GRing.ok_parts hv.1 h6
  have lv:=(hv.2.2 h6).1
  have lw:=(hw.2.2 h6).1
  have e:r.plus v w=.mk gr0 0 false 0 [] (zd0 r.parts v.parts w.parts):=by simp [GRing.plus,h6]
  have hl:=za8 (ks:=r.parts) (vs:=v.parts) (ws:=w.parts) lv lw
  rw [e]
  refine .tup (by rw [hl,<- lv]; have:=sv.plen; omega) fun x hx=>?_
  obtain ⟨i,hi,rfl⟩:=List.mem_iff_getElem.1 hx
  have h3:i<r.parts.length:=by omega
  rw [zbl h3 (by omega) (by omega) hi]
  exact zv7 (sv.parts _ (List.getElem_mem _)) (sw.parts _ (List.getElem_mem _)) (zgi hv h6 h3 (by omega)) (zgi hw h6 h3 (by omega)) hm hn
 ·have hk:=GRing.ok_kind hv.1 h6
  have e:r.plus v w=zap r.kind v w:=by simp [GRing.plus,h6]
  have er:r=⟨r.kind,[]⟩:=by rw [<- hk.2.2]
  rw [e]
  rw [er] at hv hw
  exact zv7 sv sw hv hw hm hn
theorem zrq {r:GRing} {w:GW} (h:w.chk r):w.tk r=w:=if_pos h
end Go.Ab
namespace Go.Ab
open Enc (enc)
attribute [local go_sem] zas Opd.slots
theorem zzp (v w:GW) (n:Nat) (hv:v.sm n) (hw:w.sm n) (hn:n<=1000) (hn1:1<=n) (cv:v.chk ⟨5,[]⟩) (cw:w.chk ⟨5,[]⟩):Sp P F.ae [enc (⟨5,[]⟩:GRing),enc v,enc w] (.pure (enc (zax 5 v w))):=by
 have pv:=zk4 cv
 have pw:=zk4 cw
 have h1:=zld (k:=1) pv hv.poly hn1 (by omega)
 have h2:=zld (k:=1) pw hw.poly hn1 (by omega)
 rw [Nat.mul_one] at h1 h2
 have hl1:=zbh pv
 have hl2:=zbh pw
 have d1:=zp6 hv.poly hn1
 have d2:=zp6 hw.poly hn1
 have hD:pden v.poly*pden w.poly<4294967296^(434*n+2):=by
  refine Nat.lt_of_lt_of_le (Nat.mul_lt_mul'' d1 d2) ?_
  rw [<- Nat.pow_add]
  refine zfo ?_
  have e1:n*v.poly.length<=n*216:=Nat.mul_le_mul_left _ hl1
  have e2:n*w.poly.length<=n*216:=Nat.mul_le_mul_left _ hl2
  omega
 have hB:46656*(4294967296^n*pden v.poly*(4294967296^n*pden w.poly))<4294967296^(436*n+3):=by
  have e:46656*(4294967296^n*pden v.poly*(4294967296^n*pden w.poly))=46656*(4294967296^n*4294967296^n*(pden v.poly*pden w.poly)):=by
   rw [Nat.mul_mul_mul_comm]
  have e2:436*n+3=1+(n+n+(434*n+2)):=by omega
  rw [e,e2,Nat.pow_add,Nat.pow_add _ (n+n),Nat.pow_add _ n n]
  refine Nat.mul_lt_mul'' (by decide) ?_
  exact Nat.mul_lt_mul_of_pos_left hD (Nat.mul_pos (Nat.pow_pos (by omega)) (Nat.pow_pos (by omega)))
 have hD':=Nat.lt_of_lt_of_le hD (zfo (show 434*n+2<=1048576 by omega))
 have hB':=Nat.lt_of_lt_of_le hB (zfo (show 436*n+3<=1048576 by omega))
 exact z3y v w (hv.mono (by omega)) (hw.mono (by omega)) cv cw _ _ _ _ h1 h2 (zf8 _) (zf8 _) hD' hB' (hv.poly.monoR (by omega)) (hw.poly.monoR (by omega))
theorem zrs (k:Int) (hk:1<=k/\k<=5) (v w:GW) (n:Nat) (hv:v.sm n) (hw:w.sm n) (hn:n<=1000) (hn1:1<=n) (cv:v.chk ⟨k,[]⟩) (cw:w.chk ⟨k,[]⟩) :
  Sp P F.ae [enc (⟨k,[]⟩:GRing),enc v,enc w] (.pure (enc (zax k v w))):=by
 have hv':=hv.mono (show n<=1048576 by omega)
 have hw':=hw.mono (show n<=1048576 by omega)
 have:k=1\/k=2\/k=3\/k=4\/k=5:=by omega
 rcases this with rfl|rfl|rfl|rfl|rfl
 ·exact z32 v w hv' hw' cv cw
 ·exact z31 v w hv' hw' cv cw
 ·exact z30 v w hv' hw' cv cw
 ·exact z3z v w hv' hw' cv cw
 ·exact zzp v w n hv hw hn hn1 cv cw
def zcv:List Int->List GW->List GW->List GW
 | k::ks,v::vs,w::ws=>zax k v w::zcv ks vs ws
 | _,_,_=>[]
def GRing.times (r:GRing) (v w:GW):GW:=if r.kind=6 then .mk gr0 0 false 0 [] (zcv r.parts v.parts w.parts) else zax r.kind v w
theorem zay:∀ {ks:List Int} {vs ws:List GW},vs.length=ks.length->ws.length=ks.length->(zcv ks vs ws).length=ks.length
 | [],vs,ws,_,_=>by simp [zcv]
 | k::ks,[],ws,h,_=>by simp at h
 | k::ks,v::vs,[],_,h=>by simp at h
 | k::ks,v::vs,w::ws,h1,h2=>by simp [zcv,zay (ks:=ks) (vs:=vs) (ws:=ws) (by simpa using h1) (by simpa using h2)]
theorem za9:∀ {ks:List Int} {vs ws:List GW} {i:Nat} (h:i<ks.length) (h1:i<vs.length) (h2:i<ws.length) (h3:i<(zcv ks vs ws).length),(zcv ks vs ws)[i]=zax ks[i] vs[i] ws[i]
 | k::ks,v::vs,w::ws,0,_,_,_,_=>by simp [zcv]
 | k::ks,v::vs,w::ws,i+1,h,h1,h2,h3=>by
  simp only [zcv,List.getElem_cons_succ]
  exact za9 (by simpa using h) (by simpa using h1) (by simpa using h2) (by simpa [zcv] using h3)
theorem zzn (r:GRing) (v w:GW) (n:Nat) (hv:v.sm n) (hw:w.sm n) (hn:n<=1000) (hn1:1<=n) (cv:v.chk r) (cw:w.chk r):Sp P F.ae [enc r,enc v,enc w] (.pure (enc (r.times v w))):=by
 have hr0:=cv.1
 by_cases h6:r.kind=6
 rotate_left
 ·have hk:=GRing.ok_kind hr0 h6
  have he:r=⟨r.kind,[]⟩:=by rw [<- hk.2.2]
  have h1:r.times v w=zax r.kind v w:=by simp [GRing.times,h6]
  rw [h1,he]
  rw [he] at cv cw
  exact zrs r.kind ⟨hk.1,hk.2.1⟩ v w n hv hw hn hn1 cv cw
 have hp:=GRing.ok_parts hr0 h6
 have t1:v.tk r=v:=if_pos cv
 have t2:w.tk r=w:=if_pos cw
 have k1:=zaw r v (hv.mono (by omega))
 have k2:=zaw r w (hw.mono (by omega))
 rw [t1] at k1; rw [t2] at k2
 have lv:=(cv.2.2 h6).1
 have lw:=(cw.2.2 h6).1
 have lp:(zcv r.parts v.parts w.parts).length=r.parts.length:=zay lv lw
 refine Sp.vz c.ae fun _=>?_
 simp [g.ae,go_sem]
 refine zaa (zau r) rfl ?_
 simp [hr0,go_sem]
 refine zab k1 ?_
 simp [go_sem]
 refine zab k2 ?_
 simp [go_sem,h6]
 refine zag (S:=fun k:Nat=>mkSt [(3,.ptr 1 0 0 0),(4,.ptr 2 0 0 0),(5,.ptr 3 0 0 0),(6,.ptr 4 0 0 0),(7,.ptr 5 0 0 0),(8,.p (.int .i64 k))]
   [(1,⟨2,[.p (enc r)]⟩),(2,⟨8,[.p (enc v)]⟩),(3,⟨8,[.p (enc w)]⟩),(4,⟨8,[.agg [.p (.bool false),.nil,.nil,.p (.int .i64 0),.p (.bool false),.p (.int .u64 0),.nil,.nil]]⟩),
    (5,⟨8,[.agg [.p (.bool false),.nil,.nil,.p (.int .i64 0),.p (.bool false),.p (.int .u64 0),.nil,.own 6 0 0 k]]⟩),(6,⟨8,avs ((zcv r.parts v.parts w.parts).take k)⟩)])
  (I:=fun k=>k<=r.parts.length) (m:=fun k=>r.parts.length - k) 0
  ((Weak.nilCell (s0:=7) (g0:=0) (i:=7) (s:=77) (sz:=8) rfl).trans (Weak.to [3,4,5,6,7,8] [((3,0),1),((4,0),2),((5,0),3),((6,0),4),((7,0),5),((77,0),6)] (by simp [go_sem,h6]))) (by omega) ?_
 rintro k h1 R hn' hr hx
 have e1:=i64s k (by omega)
 simp [g.qx,mkSt,go_sem]
 refine ⟨fun hk=>?_,fun hk=>hx _ _ ?_⟩
 ·have hkv:k<v.parts.length:=by omega
  have hkw:k<w.parts.length:=by omega
  have hpk:=hp.2.2 _ (List.getElem_mem hk)
  refine zaa (zi5 r k hk) rfl ?_
  simp [go_sem]
  refine zae hkv ?_
  try simp [go_sem]
  refine zae hkw ?_
  try simp [go_sem]
  refine zab (zrs r.parts[k] hpk v.parts[k] w.parts[k] n (hv.parts _ (List.getElem_mem hkv)) (hw.parts _ (List.getElem_mem hkw)) hn hn1 (zgi cv h6 hk hkv) (zgi cw h6 hk hkw)) ?_
  have hkL:k<(zcv r.parts v.parts w.parts).length:=by omega
  have hts:avs ((zcv r.parts v.parts w.parts).take (k+1))=avs ((zcv r.parts v.parts w.parts).take k)++[.p (enc (zax r.parts[k] v.parts[k] w.parts[k]))]:=by
   rw [List.take_succ_eq_append_getElem hkL,zbp,za9 hk hkv hkw hkL]; rfl
  simp [e1,go_sem]
  exact ⟨⟨by omega,by omega⟩,hn' (k+1) _ (Weak.to [3,4,5,6,7,8] [((1,0),1),((2,0),2),((3,0),3),((4,0),4),((5,0),5),((94,0),6)] (by simp [go_sem,hts])) (by omega) (by omega)⟩
 ·have hk':k=(zcv r.parts v.parts w.parts).length:=by omega
  have hpl:r.times v w=.mk gr0 0 false 0 [] (zcv r.parts v.parts w.parts):=by simp [GRing.times,h6]
  rw [hpl]
  subst hk'
  simp [go_sem]
end Go.Ab
namespace Go.Ab
open Enc (enc)
def mD (n:Nat):Nat:=6^n
def mB (n:Nat):Nat:=6291456^n
theorem zus (n:Nat):mD n≠0:=Nat.pos_iff_ne_zero.1 (Nat.pow_pos (by omega))
theorem ycc (n:Nat):0<mB n:=Nat.pow_pos (by omega)
def qm (n:Nat) (q:Rat):Prop:=qb (mD n) (mB n) q
theorem zuc {m n:Nat} {q:Rat} (h:qm m q) (k:m<=n):qm n q:=by
 obtain ⟨j,rfl⟩:=Nat.le.dest k
 have h1:=zeu (6^j) (Nat.pos_iff_ne_zero.1 (Nat.pow_pos (by omega))) h
 unfold qm mD mB
 rw [Nat.pow_add,Nat.pow_add]
 exact zbb h1 (Nat.mul_le_mul_left _ (Nat.pow_le_pow_left (by omega) j))
theorem zcx (n:Nat):qm n 0:=zbb (zjy _) (Nat.zero_le _)
theorem z0n {m:Nat} {p q:Rat} (h:qm m p) (h':qm m q):qm (m+1) (p+q):=by
 have h1:=zeu 6 (by omega) (zv4 h h' (zus m))
 unfold qm mD
 rw [Nat.pow_succ]
 refine zbb h1 ?_
 unfold mB
 rw [Nat.pow_succ]
 have:=ycc m
 unfold mB at this
 omega
theorem z8n {m n:Nat} {p q:Rat} (h:qm m p) (h':qm n q):qb (mD (m+n)) (mB (m+n)) (p*q):=by
 have h1:=z7b h h'
 unfold mD mB at *
 rwa [Nat.pow_add,Nat.pow_add]
theorem ybp {m n:Nat} {p q:Rat} (h:qm m p) (h':qm n q):qm (m+n) (p*q):=z8n h h'
theorem ycb (n:Nat):mD n<4294967296^(n+1):=Nat.lt_of_le_of_lt (Nat.pow_le_pow_left (show 6<=4294967296 by omega) n) (Nat.pow_lt_pow_right (by omega) (by omega))
theorem ycd (n:Nat):mB n<4294967296^(n+1):=Nat.lt_of_le_of_lt (Nat.pow_le_pow_left (show 6291456<=4294967296 by omega) n) (Nat.pow_lt_pow_right (by omega) (by omega))
structure GW.mb1 (n:Nat) (w:GW):Prop where
 q:qm n w.q.v
 p:∀ e,qm n (pc w.poly e)
structure GW.mb (n:Nat) (w:GW):Prop where
 o:w.mb1 n
 ps:∀ x∈w.parts,x.mb1 n
theorem GW.mb1.mono {m n:Nat} {w:GW} (h:w.mb1 m) (k:m<=n):w.mb1 n:=⟨zuc h.q k,fun e=>zuc (h.p e) k⟩
theorem GW.mb.mono {m n:Nat} {w:GW} (h:w.mb m) (k:m<=n):w.mb n:=⟨h.o.mono k,fun x hx=>(h.ps x hx).mono k⟩
theorem zfd (n c i s):(GW.mk gr0 c i s [] []).mb1 n:=⟨by show qm n gr0.v; rw [zg8]; exact zcx n,fun e=>zcx n⟩
theorem zjc (n c i s ps):(GW.mk gr0 c i s [] ps).mb1 n:=⟨by show qm n gr0.v; rw [zg8]; exact zcx n,fun e=>zcx n⟩
theorem ybg {k:Int} {w:GW} {n:Nat} (hs:w.si k) (h:w.mb1 n) (hn:216<=n):w.sm (n+1):=by
 have hq:=si_q hs
 have hp:=si_p hs
 cases w with
 | mk q c i s p ps =>
  have e:ps=[]:=hs.1
  subst e
  have h1:q.sm (n+1):=by
   have:=z0o h.q (zus n) (ycb n) (ycd n)
   rwa [show rto (GW.q (GW.mk q c i s p [])).v=q from zgo hq] at this
  have h2:psm p (n+1):=zh6 h.p hp (zus n) (ycb n) (ycd n)
  exact .mk h1 h2 (by have:p.length<=216:=zbh hp; omega) (by simp) (by simp)
theorem ztm {r:GRing} {w:GW} {n:Nat} (hc:w.chk r) (h:w.mb n) (hn:216<=n):w.sm (n+1):=by
 by_cases h6:r.kind=6
 ·obtain ⟨l,e,hs⟩:=hc.2.2 h6
  have hp:=GRing.ok_parts hc.1 h6
  rw [e]
  refine .tup (by omega) fun x hx=>?_
  obtain ⟨i,hi,rfl⟩:=List.mem_iff_getElem.1 hx
  exact ybg (hs i (by omega) hi) (h.ps _ hx) hn
 ·exact ybg (hc.2.1 h6) h.o hn
theorem zv8 {k:Int} (hk:1<=k/\k<=5) {v w:GW} {n:Nat} (sv:v.si k) (sw:w.si k) (hv:v.mb1 n) (hw:w.mb1 n):(zap k v w).mb1 (n+1):=by
 unfold zap
 split
 ·exact ⟨by show qm (n+1) (rto (v.q.v+w.q.v)).v; rw [zbg]; exact z0n hv.q hw.q,fun e=>zcx _⟩
 ·split
  ·split
   ·exact hw.mono (by omega)
   ·exact hv.mono (by omega)
  ·split
   ·split
    ·exact hw.mono (by omega)
    ·exact hv.mono (by omega)
   ·split
    ·exact zfd ..
    ·refine ⟨by show qm _ gr0.v; rw [zg8]; exact zcx _,fun e=>?_⟩
     show qm (n+1) (pc (padd v.poly w.poly) e)
     rw [zfa v.poly (zaj.1 (si_p sw)).1]
     exact z0n (hv.p e) (hw.p e)
theorem zrr {k:Int} (hk:1<=k/\k<=5) {v w:GW} {m n:Nat} (sv:v.si k) (sw:w.si k) (hv:v.mb1 m) (hw:w.mb1 n):(zax k v w).mb1 (m+n+1):=by
 unfold zax
 split
 ·exact ⟨by show qm _ (rto (v.q.v*w.q.v)).v; rw [zbg]; exact zuc (ybp hv.q hw.q) (by omega),fun e=>zcx _⟩
 ·split
  ·split
   ·exact zfd ..
   ·exact zfd ..
  ·split
   ·exact zfd ..
   ·refine ⟨by show qm _ gr0.v; rw [zg8]; exact zcx _,fun e=>?_⟩
    show qm _ (pc (pmul v.poly w.poly) e)
    have pv:=si_p sv
    have pw:=si_p sw
    have h1:=zp2 (zew hv.p pv) (zew hw.p pw) (Nat.mul_ne_zero (zus m) (zus n)) e
    have l1:=zbh pv
    have l2:=zbh pw
    have h2:=zeu 6 (by omega) h1
    have e1:mD (m+n+1)=mD m*mD n*6:=by unfold mD; rw [Nat.pow_succ,Nat.pow_add]
    have e2:mB (m+n+1)=mB m*mB n*6291456:=by unfold mB; rw [Nat.pow_succ,Nat.pow_add]
    unfold qm
    rw [e1,e2]
    refine zbb h2 ?_
    have h3:v.poly.length*(w.poly.length*(mB m*mB n))<=216*(216*(mB m*mB n)):=Nat.mul_le_mul l1 (Nat.mul_le_mul_right _ l2)
    omega
theorem z0y {r:GRing} {v w:GW} {n:Nat} (cv:v.chk r) (cw:w.chk r) (hv:v.mb n) (hw:w.mb n):(r.plus v w).mb (n+1):=by
 by_cases h6:r.kind=6
 ·have hp:=GRing.ok_parts cv.1 h6
  have lv:=(cv.2.2 h6).1
  have lw:=(cw.2.2 h6).1
  have e:r.plus v w=.mk gr0 0 false 0 [] (zd0 r.parts v.parts w.parts):=by simp [GRing.plus,h6]
  rw [e]
  have hl:=za8 (ks:=r.parts) (vs:=v.parts) (ws:=w.parts) lv lw
  refine ⟨zjc ..,fun x hx=>?_⟩
  obtain ⟨i,hi,rfl⟩:=List.mem_iff_getElem.1 hx
  simp only [GW.parts_mk] at hi
  have h3:i<r.parts.length:=by omega
  have:=zbl h3 (by omega:i<v.parts.length) (by omega:i<w.parts.length) hi
  simp only [GW.parts_mk]
  rw [this]
  exact zv8 (hp.2.2 _ (List.getElem_mem h3)) ((cv.2.2 h6).2.2 i h3 (by omega)) ((cw.2.2 h6).2.2 i h3 (by omega)) (hv.ps _ (List.getElem_mem _)) (hw.ps _ (List.getElem_mem _))
 ·have hk:=GRing.ok_kind cv.1 h6
  have e:r.plus v w=zap r.kind v w:=by simp [GRing.plus,h6]
  have sp:=zb8 ⟨hk.1,hk.2.1⟩ (cv.2.1 h6) (cw.2.1 h6)
  rw [e]
  exact ⟨zv8 ⟨hk.1,hk.2.1⟩ (cv.2.1 h6) (cw.2.1 h6) hv.o hw.o,fun x hx=>by rw [sp.1] at hx; cases hx⟩
end Go.Ab
