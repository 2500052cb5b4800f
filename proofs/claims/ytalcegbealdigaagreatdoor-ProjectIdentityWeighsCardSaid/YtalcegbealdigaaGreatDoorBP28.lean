/-
Proofs for the law ProjectIdentityWeighs, part 28. Conditions: none.
-/
import Derived.Test.YtalcegbealdigaaGreatDoorBP27
import Derived.Test.YtalcegbealdigaaGreatDoorBP24
set_option maxRecDepth 100000
set_option maxHeartbeats 4000000
set_option linter.all false
namespace Go.Ab
open Enc (enc)
attribute [local go_sem] zas Opd.slots
noncomputable def GW.tk (r:GRing) (w:GW):GW:=if w.chk r then w else r.zero
theorem zm6:gr0.valid=true:=by have:=zbe 0; rw [zck] at this; exact this
theorem si_q {k:Int} {w:GW} (h:w.si k):w.q.valid=true:=by
 by_cases h1:k=1
 ·exact h.2.2.2.2.2.1 h1
 ·by_cases h3:k=3
  ·exact (h.2.2.2.2.2.2.2.1 h3).1
  ·rw [h.2.1 h1 h3]; exact zm6
theorem si_p {k:Int} {w:GW} (h:w.si k):PVal w.poly:=by
 by_cases h1:k=5
 ·exact h.2.2.2.2.2.2.2.2 h1
 ·rw [h.2.2.2.2.1 h1]; exact zh9
theorem yc9 {r:GRing} {w:GW} (h:w.chk r):w.q.valid=true:=by
 by_cases h6:r.kind=6
 ·have:=(h.2.2 h6).2.1; rw [this]; exact zm6
 ·exact si_q (h.2.1 h6)
theorem zk4 {r:GRing} {w:GW} (h:w.chk r):PVal w.poly:=by
 by_cases h6:r.kind=6
 ·have:=(h.2.2 h6).2.1; rw [this]; exact zh9
 ·exact si_p (h.2.1 h6)
theorem zd5 {k:Int} (h:1<=k/\k<=5):(⟨k,[]⟩:GRing).ok=true:=by
 have h7:k≠6:=by omega
 simp [GRing.ok,h7,h]
theorem zgi {r:GRing} {w:GW} (h:w.chk r) (h6:r.kind=6) {i:Nat} (hi:i<r.parts.length) (hi':i<w.parts.length):w.parts[i].chk ⟨r.parts[i],[]⟩:=by
 have hp:=(GRing.ok_parts h.1 h6).2.2 _ (List.getElem_mem hi)
 refine ⟨zd5 hp,fun _=>(h.2.2 h6).2.2 i hi hi',fun h'=>?_⟩
 simp at h'; omega
theorem z73 (r:GRing) (w:GW) (hw:w.sm 1048576) (h:w.parts=[]):Sp P F.an [enc r,enc w] (.pure (enc (w.tk r))):=by
 refine Sp.vz c.an fun _=>?_
 simp [g.an,go_sem]
 refine zab (zhi r w hw) ?_
 by_cases hc:w.chk r
 rotate_left
 ·simp [hc,GW.tk,go_sem]
  refine zab (zdk r) ?_
  simp [go_sem]
 simp [hc,GW.tk,go_sem]
 refine zaa (zdm w.q (hw.q.mono (by omega))) rfl ?_
 rw [zgo (yc9 hc)]
 simp [go_sem]
 refine zaa (zhq w.poly hw.poly (by have:=hw.len; omega)) rfl ?_
 rw [zsb (zk4 hc)]
 simp [go_sem]
 refine zak fun R hn hr hx=>?_
 simp [g.pd,h,go_sem]
 refine hx _ _ ?_
 simp [h,go_sem]
theorem zaw (r:GRing) (w:GW) (hw:w.sm 1048576):Sp P F.an [enc r,enc w] (.pure (enc (w.tk r))):=by
 refine Sp.vz c.an fun _=>?_
 simp [g.an,go_sem]
 refine zab (zhi r w hw) ?_
 by_cases hc:w.chk r
 rotate_left
 ·simp [hc,GW.tk,go_sem]
  refine zab (zdk r) ?_
  simp [go_sem]
 simp [hc,GW.tk,go_sem]
 refine zaa (zdm w.q (hw.q.mono (by omega))) rfl ?_
 rw [zgo (yc9 hc)]
 simp [go_sem]
 refine zaa (zhq w.poly hw.poly (by have:=hw.len; omega)) rfl ?_
 rw [zsb (zk4 hc)]
 simp [go_sem]
 refine zag (S:=fun k:Nat=>mkSt [(2,.ptr 1 0 0 0),(3,.ptr 2 0 0 0),(4,.ptr 3 0 0 0),(5,.ptr 4 0 0 0),(6,.p (.int .i64 k))]
   [(1,⟨2,[.p (enc r)]⟩),(2,⟨8,[.p (enc w)]⟩),(3,⟨8,[.agg [.p (.bool false),.nil,.nil,.p (.int .i64 0),.p (.bool false),.p (.int .u64 0),.nil,.nil]]⟩),
    (4,⟨8,[.agg [.p (.bool w.q.neg),.p (.sl (ens w.q.num)),.p (.sl (ens w.q.den)),.p (.int .i64 w.cost),.p (.bool w.inf),.p (.int .u64 w.set.toNat),.p (.sl (ens w.poly)),.own 5 0 0 k]]⟩),(5,⟨8,avs (w.parts.take k)⟩)])
  (I:=fun k=>k<=w.parts.length) (m:=fun k=>w.parts.length - k) 0
  ((Weak.nilCell (s0:=5) (g0:=0) (i:=7) (s:=77) (sz:=8) rfl).trans (Weak.to [2,3,4,5,6] [((2,0),1),((3,0),2),((4,0),3),((5,0),4),((77,0),5)] (by simp [go_sem]))) (by omega) ?_
 rintro k h1 R hn hr hx
 have hlen:=hw.plen
 have e1:=i64s k (by omega)
 simp [g.pd,mkSt,go_sem]
 refine ⟨fun hk=>?_,fun hk=>hx _ _ ?_⟩
 ·have h6:r.kind=6:=by
   by_cases h6:r.kind=6
   ·exact h6
   ·have:=(hc.2.1 h6).1; rw [this] at hk; simp at hk
  have hl:=(hc.2.2 h6).1
  have hkr:k<r.parts.length:=by omega
  refine zaa (zi5 r k hkr) rfl ?_
  simp [go_sem]
  refine zae hk ?_
  have hpart:=zgi hc h6 hkr hk
  have hnil:w.parts[k].parts=[]:=((hc.2.2 h6).2.2 k hkr hk).1
  refine zab (z73 ⟨r.parts[k],[]⟩ w.parts[k] (hw.parts _ (List.getElem_mem hk)) hnil) ?_
  have ht:w.parts[k].tk ⟨r.parts[k],[]⟩=w.parts[k]:=if_pos hpart
  rw [ht]
  have hts:avs (w.parts.take (k+1))=avs (w.parts.take k)++[.p (enc w.parts[k])]:=by
   rw [List.take_succ_eq_append_getElem hk,zbp]; rfl
  simp [e1,go_sem]
  refine ⟨by omega,hn (k+1) _ (Weak.to [2,3,4,5,6] [((1,0),1),((2,0),2),((3,0),3),((4,0),4),((45,0),5)] (by simp [go_sem,hts])) (by omega) (by omega)⟩
 ·have:k=w.parts.length:=by omega
  subst this
  simp [go_sem]
end Go.Ab
namespace Go.Ab
open Enc (enc)
attribute [local go_sem] zas Opd.slots
def oneW (k:Int) (ps:List GW):GW:=.mk (if k=1\/k=3 then rto 1 else gr0) 0 false (if k=4 then 18446744073709551615 else 0) (if k=5 then zb0 1 else []) ps
def GRing.one (r:GRing):GW:=if r.ok then oneW r.kind (r.parts.map fun k=>oneW k []) else gw0
theorem yb4:Sp P F.af [enc (⟨1,[]⟩:GRing)] (.pure (enc (oneW 1 []))):=by
 have hd:Rat.divInt 1 1=1:=rfl
 have hof:=zg5 1 1 (by omega) (by omega) (by omega)
 rw [hd] at hof
 have hr0:(⟨1,[]⟩:GRing).ok=true:=zd5 (by omega)
 refine Sp.vz c.af fun _=>?_
 simp [g.af,go_sem]
 refine zaa (zau ⟨1,[]⟩) rfl ?_
 simp [hr0,go_sem]
 refine zaa hof rfl ?_
 simp [go_sem]
 refine zak fun R hn hr hx=>?_
 simp [g.ny,go_sem]
 refine hx _ _ ?_
 simp [oneW,zb0,zbg,go_sem]
theorem yb3:Sp P F.af [enc (⟨2,[]⟩:GRing)] (.pure (enc (oneW 2 []))):=by
 have hd:Rat.divInt 1 1=1:=rfl
 have hof:=zg5 1 1 (by omega) (by omega) (by omega)
 rw [hd] at hof
 have hr0:(⟨2,[]⟩:GRing).ok=true:=zd5 (by omega)
 refine Sp.vz c.af fun _=>?_
 simp [g.af,go_sem]
 refine zaa (zau ⟨2,[]⟩) rfl ?_
 simp [hr0,go_sem]
 refine zak fun R hn hr hx=>?_
 simp [g.ny,go_sem]
 refine hx _ _ ?_
 simp [oneW,zb0,zbg,go_sem]
theorem yb2:Sp P F.af [enc (⟨3,[]⟩:GRing)] (.pure (enc (oneW 3 []))):=by
 have hd:Rat.divInt 1 1=1:=rfl
 have hof:=zg5 1 1 (by omega) (by omega) (by omega)
 rw [hd] at hof
 have hr0:(⟨3,[]⟩:GRing).ok=true:=zd5 (by omega)
 refine Sp.vz c.af fun _=>?_
 simp [g.af,go_sem]
 refine zaa (zau ⟨3,[]⟩) rfl ?_
 simp [hr0,go_sem]
 refine zaa hof rfl ?_
 simp [go_sem]
 refine zak fun R hn hr hx=>?_
 simp [g.ny,go_sem]
 refine hx _ _ ?_
 simp [oneW,zb0,zbg,go_sem]
theorem yb1:Sp P F.af [enc (⟨4,[]⟩:GRing)] (.pure (enc (oneW 4 []))):=by
 have hd:Rat.divInt 1 1=1:=rfl
 have hof:=zg5 1 1 (by omega) (by omega) (by omega)
 rw [hd] at hof
 have hr0:(⟨4,[]⟩:GRing).ok=true:=zd5 (by omega)
 refine Sp.vz c.af fun _=>?_
 simp [g.af,go_sem]
 refine zaa (zau ⟨4,[]⟩) rfl ?_
 simp [hr0,go_sem]
 refine zak fun R hn hr hx=>?_
 simp [g.ny,go_sem]
 refine hx _ _ ?_
 simp [oneW,zb0,zbg,go_sem]
theorem yb0:Sp P F.af [enc (⟨5,[]⟩:GRing)] (.pure (enc (oneW 5 []))):=by
 have hd:Rat.divInt 1 1=1:=rfl
 have hof:=zg5 1 1 (by omega) (by omega) (by omega)
 rw [hd] at hof
 have hr0:(⟨5,[]⟩:GRing).ok=true:=zd5 (by omega)
 refine Sp.vz c.af fun _=>?_
 simp [g.af,go_sem]
 refine zaa (zau ⟨5,[]⟩) rfl ?_
 simp [hr0,go_sem]
 refine zaa hof rfl ?_
 simp [go_sem]
 refine zaa (zhf (rto 1) (zl0.mono (by omega))) rfl ?_
 simp [go_sem]
 refine zak fun R hn hr hx=>?_
 simp [g.ny,go_sem]
 refine hx _ _ ?_
 simp [oneW,zb0,zbg,go_sem]
theorem z7h (k:Int) (hk:1<=k/\k<=5):Sp P F.af [enc (⟨k,[]⟩:GRing)] (.pure (enc (oneW k []))):=by
 have:k=1\/k=2\/k=3\/k=4\/k=5:=by omega
 rcases this with rfl|rfl|rfl|rfl|rfl
 ·exact yb4
 ·exact yb3
 ·exact yb2
 ·exact yb1
 ·exact yb0
theorem z1g (r:GRing):Sp P F.af [enc r] (.pure (enc r.one)):=by
 rcases Bool.eq_false_or_eq_true r.ok with hr0|hr0
 rotate_left
 ·refine Sp.vz c.af fun _=>?_
  simp [g.af,go_sem]
  refine zaa (zau r) rfl ?_
  simp [hr0,GRing.one,gw0,go_sem]
 by_cases h6:r.kind=6
 rotate_left
 ·have hk:=GRing.ok_kind hr0 h6
  have he:r=⟨r.kind,[]⟩:=by rw [<- hk.2.2]
  have h1:r.one=oneW r.kind []:=by simp [GRing.one,hr0,hk.2.2]
  rw [h1,he]
  exact z7h r.kind ⟨hk.1,hk.2.1⟩
 have hp:=GRing.ok_parts hr0 h6
 refine Sp.vz c.af fun _=>?_
 simp [g.af,go_sem]
 refine zaa (zau r) rfl ?_
 simp [hr0,h6,go_sem]
 refine zag (S:=fun k:Nat=>mkSt [(1,.ptr 1 0 0 0),(2,.ptr 2 0 0 0),(3,.ptr 3 0 0 0),(4,.p (.int .i64 k))]
   [(1,⟨2,[.p (enc r)]⟩),(2,⟨8,[.agg [.p (.bool false),.nil,.nil,.p (.int .i64 0),.p (.bool false),.p (.int .u64 0),.nil,.nil]]⟩),
    (3,⟨8,[.agg [.p (.bool false),.nil,.nil,.p (.int .i64 0),.p (.bool false),.p (.int .u64 0),.nil,.own 4 0 0 k]]⟩),(4,⟨8,avs ((r.parts.map fun k=>oneW k []).take k)⟩)])
  (I:=fun k=>k<=r.parts.length) (m:=fun k=>r.parts.length - k) 0
  ((Weak.nilCell (s0:=3) (g0:=0) (i:=7) (s:=77) (sz:=8) rfl).trans (Weak.to [1,2,3,4] [((1,0),1),((2,0),2),((3,0),3),((77,0),4)] (by simp [go_sem,h6]))) (by omega) ?_
 rintro k h1 R hn hr hx
 have e1:=i64s k (by omega)
 simp [g.ny,mkSt,go_sem]
 refine ⟨fun hk=>?_,fun hk=>hx _ _ ?_⟩
 ·have hpk:=hp.2.2 _ (List.getElem_mem hk)
  refine zaa (zi5 r k hk) rfl ?_
  simp [go_sem]
  refine zaa (z7h r.parts[k] hpk) rfl ?_
  have hk':k<(r.parts.map fun k=>oneW k []).length:=by simpa using hk
  have hts:avs ((r.parts.map fun k=>oneW k []).take (k+1))=avs ((r.parts.map fun k=>oneW k []).take k)++[.p (enc (oneW r.parts[k] []))]:=by
   rw [List.take_succ_eq_append_getElem hk',zbp]; simp; rfl
  simp [e1,go_sem]
  exact ⟨⟨(Nat.min_eq_left h1).symm,by omega⟩,hn (k+1) _ (Weak.to [1,2,3,4] [((1,0),1),((2,0),2),((3,0),3),((39,0),4)] (by simp [go_sem,hts])) (by omega) (by omega)⟩
 ·have:k=r.parts.length:=by omega
  subst this
  have ht:(r.parts.map fun k=>oneW k []).take r.parts.length=r.parts.map fun k=>oneW k []:=by rw [List.take_of_length_le (by simp)]
  simp [hr0,h6,GRing.one,oneW,go_sem]
  simp only [oneW] at ht
  simp only [ht]
end Go.Ab
namespace Go.Ab
open Enc (enc)
attribute [local go_sem] zas Opd.slots
theorem zki (p q:List GW) (hl:p.length<=1073741824) (hp:∀ w∈p,w.sm 1048576):Sp P F.jy [.sl (ens p),.sl (ens q)] (.pure (.bool (decide (p=q)))):=by
 refine Sp.vz c.jy fun _=>?_
 simp [g.jy,go_sem]
 refine ⟨fun h=>?_,fun h=>fun he=>h (by rw [he])⟩
 have hlen:p.length=q.length:=by omega
 refine zag (S:=fun k:Nat=>mkSt [(0,.p (.sl (ens p))),(1,.p (.sl (ens q))),(5,.p (.int .i64 k))] []) (I:=fun k=>k<=p.length/\p.take k=q.take k) (m:=fun k=>p.length - k) 0
  (Weak.to [0,1,5] [] (by simp [go_sem])) ⟨by omega,by simp⟩ ?_
 rintro k ⟨h1,h2⟩ R hn hr hx
 have e1:=i64s k (by omega)
 simp [g.qz,mkSt,go_sem]
 refine ⟨fun hk=>?_,fun hk=>hx _ _ ?_⟩
 ·have hk2:k<q.length:=by omega
  have bad:p[k]≠q[k]->p≠q:=fun h h'=>by subst h'; exact h rfl
  refine zae hk ?_
  refine zae hk2 ?_
  refine zab (zhd p[k] (hp _ (List.getElem_mem hk)) q[k]) ?_
  by_cases h6:p[k]=q[k]
  ·simp [h6,e1,go_sem]
   exact hn (k+1) _ (Weak.to [0,1,5] [] (by simp [go_sem])) ⟨by omega,by rw [List.take_succ_eq_append_getElem hk,List.take_succ_eq_append_getElem hk2,h2,h6]⟩ (by omega)
  ·have h8:p≠q:=bad h6
   simp [h6,go_sem]
   exact hr _ (by simp [h8,go_sem])
 ·have h3:p=q:=by rw [<- List.take_length (l:=p),<- List.take_length (l:=q),<- hlen,show p.length=k by omega]; exact h2
  simp [h3,go_sem]
end Go.Ab
namespace Go.Ab
open Enc (enc)
attribute [local go_sem] zas Opd.slots
theorem zwd (x y:UInt64):orI .u64 x.toNat y.toNat=((x ||| y).toNat:Int):=by rw [zul x.toNat_lt y.toNat_lt,UInt64.toNat_or]
def zap (k:Int) (v w:GW):GW :=
 if k=1 then .mk (rto (v.q.v+w.q.v)) 0 false 0 [] []
 else if k=2 then if v.inf=true\/(w.inf=false/\w.cost<v.cost) then w else v
 else if k=3 then if v.q.v<w.q.v then w else v
 else if k=4 then .mk gr0 0 false (v.set ||| w.set) [] []
 else .mk gr0 0 false 0 (padd v.poly w.poly) []
theorem z8v (v w:GW) (hv:v.sm 1048576) (hw:w.sm 1048576) (cv:v.chk ⟨1,[]⟩) (cw:w.chk ⟨1,[]⟩):Sp P F.aa [enc (⟨1,[]⟩:GRing),enc v,enc w] (.pure (enc (zap 1 v w))):=by
 have hr0:(⟨1,[]⟩:GRing).ok=true:=zd5 (by omega)
 have t1:v.tk ⟨1,[]⟩=v:=if_pos cv
 have t2:w.tk ⟨1,[]⟩=w:=if_pos cw
 have k1:=zaw ⟨1,[]⟩ v hv
 have k2:=zaw ⟨1,[]⟩ w hw
 rw [t1] at k1; rw [t2] at k2
 refine Sp.vz c.aa fun _=>?_
 simp [g.aa,go_sem]
 refine zaa (zau ⟨1,[]⟩) rfl ?_
 simp [hr0,go_sem]
 refine zab k1 ?_
 simp [go_sem]
 refine zab k2 ?_
 simp [go_sem]
 refine zaa (zvd v.q w.q hv.q hw.q) rfl ?_
 simp [zap,go_sem]
theorem z8u (v w:GW) (hv:v.sm 1048576) (hw:w.sm 1048576) (cv:v.chk ⟨2,[]⟩) (cw:w.chk ⟨2,[]⟩):Sp P F.aa [enc (⟨2,[]⟩:GRing),enc v,enc w] (.pure (enc (zap 2 v w))):=by
 have hr0:(⟨2,[]⟩:GRing).ok=true:=zd5 (by omega)
 have t1:v.tk ⟨2,[]⟩=v:=if_pos cv
 have t2:w.tk ⟨2,[]⟩=w:=if_pos cw
 have k1:=zaw ⟨2,[]⟩ v hv
 have k2:=zaw ⟨2,[]⟩ w hw
 rw [t1] at k1; rw [t2] at k2
 refine Sp.vz c.aa fun _=>?_
 simp [g.aa,go_sem]
 refine zaa (zau ⟨2,[]⟩) rfl ?_
 simp [hr0,go_sem]
 refine zab k1 ?_
 simp [go_sem]
 refine zab k2 ?_
 simp [go_sem]
 rcases Bool.eq_false_or_eq_true v.inf with h1|h1
 ·simp [zap,h1,go_sem]
 rcases Bool.eq_false_or_eq_true w.inf with h2|h2
 ·simp [zap,h1,h2,go_sem]
 simp [zap,h1,h2,go_sem]
 refine ⟨fun h3=>by simp [h3,h2,go_sem],fun h3=>by simp [show ¬ w.cost<v.cost by omega,h1,go_sem]⟩
theorem z8t (v w:GW) (hv:v.sm 1048576) (hw:w.sm 1048576) (cv:v.chk ⟨3,[]⟩) (cw:w.chk ⟨3,[]⟩):Sp P F.aa [enc (⟨3,[]⟩:GRing),enc v,enc w] (.pure (enc (zap 3 v w))):=by
 have hr0:(⟨3,[]⟩:GRing).ok=true:=zd5 (by omega)
 have t1:v.tk ⟨3,[]⟩=v:=if_pos cv
 have t2:w.tk ⟨3,[]⟩=w:=if_pos cw
 have k1:=zaw ⟨3,[]⟩ v hv
 have k2:=zaw ⟨3,[]⟩ w hw
 rw [t1] at k1; rw [t2] at k2
 refine Sp.vz c.aa fun _=>?_
 simp [g.aa,go_sem]
 refine zaa (zau ⟨3,[]⟩) rfl ?_
 simp [hr0,go_sem]
 refine zab k1 ?_
 simp [go_sem]
 refine zab k2 ?_
 simp [go_sem]
 refine zaa (zwx v.q w.q hv.q hw.q) rfl ?_
 by_cases h1:v.q.v<w.q.v
 ·simp [zap,h1,go_sem]
 ·simp [zap,h1,go_sem]
theorem z8s (v w:GW) (hv:v.sm 1048576) (hw:w.sm 1048576) (cv:v.chk ⟨4,[]⟩) (cw:w.chk ⟨4,[]⟩):Sp P F.aa [enc (⟨4,[]⟩:GRing),enc v,enc w] (.pure (enc (zap 4 v w))):=by
 have hr0:(⟨4,[]⟩:GRing).ok=true:=zd5 (by omega)
 have t1:v.tk ⟨4,[]⟩=v:=if_pos cv
 have t2:w.tk ⟨4,[]⟩=w:=if_pos cw
 have k1:=zaw ⟨4,[]⟩ v hv
 have k2:=zaw ⟨4,[]⟩ w hw
 rw [t1] at k1; rw [t2] at k2
 refine Sp.vz c.aa fun _=>?_
 simp [g.aa,go_sem]
 refine zaa (zau ⟨4,[]⟩) rfl ?_
 simp [hr0,go_sem]
 refine zab k1 ?_
 simp [go_sem]
 refine zab k2 ?_
 simp [go_sem]
 simp [zap,zwd,go_sem]
theorem z8r (v w:GW) (hv:v.sm 1048576) (hw:w.sm 1048576) (cv:v.chk ⟨5,[]⟩) (cw:w.chk ⟨5,[]⟩) (D B B':Nat) (h1:pqb D B v.poly) (h2:pqb D B' w.poly) (hD0:D≠0) (hD:D<4294967296^1048576) (hB:B+B'<4294967296^1048576):Sp P F.aa [enc (⟨5,[]⟩:GRing),enc v,enc w] (.pure (enc (zap 5 v w))):=by
 have k3:=z3n v.poly w.poly D B B' (zk4 cv) (zk4 cw) h1 h2 hD0 hD hB
 clear hD hB
 have hr0:(⟨5,[]⟩:GRing).ok=true:=zd5 (by omega)
 have t1:v.tk ⟨5,[]⟩=v:=if_pos cv
 have t2:w.tk ⟨5,[]⟩=w:=if_pos cw
 have k1:=zaw ⟨5,[]⟩ v hv
 have k2:=zaw ⟨5,[]⟩ w hw
 rw [t1] at k1; rw [t2] at k2
 refine Sp.vz c.aa fun _=>?_
 simp [g.aa,go_sem]
 refine zaa (zau ⟨5,[]⟩) rfl ?_
 simp [hr0,go_sem]
 refine zab k1 ?_
 simp [go_sem]
 refine zab k2 ?_
 simp [go_sem]
 refine zaa k3 rfl ?_
 simp [zap,go_sem]
end Go.Ab
namespace Go.Ab
open Enc (enc)
attribute [local go_sem] zas Opd.slots
theorem z3k (x y:UInt64):andI .u64 x.toNat y.toNat=((x &&& y).toNat:Int):=by rw [z62 x.toNat_lt y.toNat_lt,UInt64.toNat_and]
def zax (k:Int) (v w:GW):GW :=
 if k=1\/k=3 then .mk (rto (v.q.v*w.q.v)) 0 false 0 [] []
 else if k=2 then if v.inf=true\/w.inf=true\/1099511627776<v.cost+w.cost then .mk gr0 0 true 0 [] [] else .mk gr0 (v.cost+w.cost) false 0 [] []
 else if k=4 then .mk gr0 0 false (v.set &&& w.set) [] []
 else .mk gr0 0 false 0 (pmul v.poly w.poly) []
theorem z32 (v w:GW) (hv:v.sm 1048576) (hw:w.sm 1048576) (cv:v.chk ⟨1,[]⟩) (cw:w.chk ⟨1,[]⟩):Sp P F.ae [enc (⟨1,[]⟩:GRing),enc v,enc w] (.pure (enc (zax 1 v w))):=by
 have hr0:(⟨1,[]⟩:GRing).ok=true:=zd5 (by omega)
 have t1:v.tk ⟨1,[]⟩=v:=if_pos cv
 have t2:w.tk ⟨1,[]⟩=w:=if_pos cw
 have k1:=zaw ⟨1,[]⟩ v hv
 have k2:=zaw ⟨1,[]⟩ w hw
 rw [t1] at k1; rw [t2] at k2
 refine Sp.vz c.ae fun _=>?_
 simp [g.ae,go_sem]
 refine zaa (zau ⟨1,[]⟩) rfl ?_
 simp [hr0,go_sem]
 refine zab k1 ?_
 simp [go_sem]
 refine zab k2 ?_
 simp [go_sem]
 refine zaa (zuq v.q w.q hv.q hw.q) rfl ?_
 simp [zax,go_sem]
theorem z30 (v w:GW) (hv:v.sm 1048576) (hw:w.sm 1048576) (cv:v.chk ⟨3,[]⟩) (cw:w.chk ⟨3,[]⟩):Sp P F.ae [enc (⟨3,[]⟩:GRing),enc v,enc w] (.pure (enc (zax 3 v w))):=by
 have hr0:(⟨3,[]⟩:GRing).ok=true:=zd5 (by omega)
 have t1:v.tk ⟨3,[]⟩=v:=if_pos cv
 have t2:w.tk ⟨3,[]⟩=w:=if_pos cw
 have k1:=zaw ⟨3,[]⟩ v hv
 have k2:=zaw ⟨3,[]⟩ w hw
 rw [t1] at k1; rw [t2] at k2
 refine Sp.vz c.ae fun _=>?_
 simp [g.ae,go_sem]
 refine zaa (zau ⟨3,[]⟩) rfl ?_
 simp [hr0,go_sem]
 refine zab k1 ?_
 simp [go_sem]
 refine zab k2 ?_
 simp [go_sem]
 refine zaa (zuq v.q w.q hv.q hw.q) rfl ?_
 simp [zax,go_sem]
theorem z31 (v w:GW) (hv:v.sm 1048576) (hw:w.sm 1048576) (cv:v.chk ⟨2,[]⟩) (cw:w.chk ⟨2,[]⟩):Sp P F.ae [enc (⟨2,[]⟩:GRing),enc v,enc w] (.pure (enc (zax 2 v w))):=by
 have hr0:(⟨2,[]⟩:GRing).ok=true:=zd5 (by omega)
 have t1:v.tk ⟨2,[]⟩=v:=if_pos cv
 have t2:w.tk ⟨2,[]⟩=w:=if_pos cw
 have k1:=zaw ⟨2,[]⟩ v hv
 have k2:=zaw ⟨2,[]⟩ w hw
 rw [t1] at k1; rw [t2] at k2
 refine Sp.vz c.ae fun _=>?_
 simp [g.ae,go_sem]
 refine zaa (zau ⟨2,[]⟩) rfl ?_
 simp [hr0,go_sem]
 refine zab k1 ?_
 simp [go_sem]
 refine zab k2 ?_
 simp [go_sem]
 have r1:=si2.1 (cv.2.1 (by simp))
 have r2:=si2.1 (cw.2.1 (by simp))
 have e1:IntKind.i64.wrap (v.cost+w.cost)=v.cost+w.cost:=i64w (by omega) (by omega)
 rcases Bool.eq_false_or_eq_true v.inf with h1|h1
 ·simp [zax,h1,go_sem]
 rcases Bool.eq_false_or_eq_true w.inf with h2|h2
 ·simp [zax,h1,h2,go_sem]
 simp [zax,h1,h2,e1,go_sem]
 refine ⟨fun h3=>by simp [h3,go_sem],fun h3=>by simp [show ¬ 1099511627776<v.cost+w.cost by omega,go_sem]⟩
theorem z3z (v w:GW) (hv:v.sm 1048576) (hw:w.sm 1048576) (cv:v.chk ⟨4,[]⟩) (cw:w.chk ⟨4,[]⟩):Sp P F.ae [enc (⟨4,[]⟩:GRing),enc v,enc w] (.pure (enc (zax 4 v w))):=by
 have hr0:(⟨4,[]⟩:GRing).ok=true:=zd5 (by omega)
 have t1:v.tk ⟨4,[]⟩=v:=if_pos cv
 have t2:w.tk ⟨4,[]⟩=w:=if_pos cw
 have k1:=zaw ⟨4,[]⟩ v hv
 have k2:=zaw ⟨4,[]⟩ w hw
 rw [t1] at k1; rw [t2] at k2
 refine Sp.vz c.ae fun _=>?_
 simp [g.ae,go_sem]
 refine zaa (zau ⟨4,[]⟩) rfl ?_
 simp [hr0,go_sem]
 refine zab k1 ?_
 simp [go_sem]
 refine zab k2 ?_
 simp [go_sem]
 simp [zax,z3k,go_sem]
theorem z3y (v w:GW) (hv:v.sm 1048576) (hw:w.sm 1048576) (cv:v.chk ⟨5,[]⟩) (cw:w.chk ⟨5,[]⟩) (D D' B B':Nat) (h1:pqb D B v.poly) (h2:pqb D' B' w.poly) (hD0:D≠0) (hD0':D'≠0) (hD:D*D'<4294967296^1048576) (hB:46656*(B*B')<4294967296^1048576) (hs:psm v.poly 524288) (hs':psm w.poly 524288):Sp P F.ae [enc (⟨5,[]⟩:GRing),enc v,enc w] (.pure (enc (zax 5 v w))):=by
 have k3:=z1l v.poly w.poly D D' B B' (zk4 cv) (zk4 cw) h1 h2 hD0 hD0' hD hB hs hs'
 clear hD hB
 have hr0:(⟨5,[]⟩:GRing).ok=true:=zd5 (by omega)
 have t1:v.tk ⟨5,[]⟩=v:=if_pos cv
 have t2:w.tk ⟨5,[]⟩=w:=if_pos cw
 have k1:=zaw ⟨5,[]⟩ v hv
 have k2:=zaw ⟨5,[]⟩ w hw
 rw [t1] at k1; rw [t2] at k2
 refine Sp.vz c.ae fun _=>?_
 simp [g.ae,go_sem]
 refine zaa (zau ⟨5,[]⟩) rfl ?_
 simp [hr0,go_sem]
 refine zab k1 ?_
 simp [go_sem]
 refine zab k2 ?_
 simp [go_sem]
 refine zaa k3 rfl ?_
 simp [zax,go_sem]
end Go.Ab
namespace Go.Ab
open Enc (enc)
attribute [local go_sem] zas Opd.slots
structure GW.wb (D B:Nat) (w:GW):Prop where
 q:qb D B w.q.v
 p:pqb D B w.poly
end Go.Ab
namespace Go.Ab
open Enc (enc)
attribute [local go_sem] zas Opd.slots
theorem zzb (r:GRing) (n:Nat) (hn0:n<=1073741824):Sp P F.bg [enc r,.int .i64 n] (.pure (.sl (ens (List.replicate n r.zero)))):=by
 refine Sp.vz c.bg fun _=>?_
 simp [g.bg,go_sem]
 refine zag (S:=fun x:Nat × List GW=>mkSt [(1,.p (.int .i64 n)),(2,.ptr 1 0 0 0),(5,.own 2 0 0 x.2.length),(6,.p (.int .i64 x.1))] [(1,⟨2,[.p (enc r)]⟩),(2,⟨8,avs x.2⟩)])
  (I:=fun x=>x.1<=n/\x.2=List.replicate x.1 r.zero) (m:=fun x=>n - x.1) (0,[])
  (Weak.nl 5 77 8 rfl (Weak.to [1,2,5,6] [((2,0),1),((77,0),2)] (by simp [go_sem]))) ⟨by omega,by simp⟩ ?_
 rintro ⟨k,l⟩ ⟨h1,h2⟩ R hn hr hx
 simp at h1 h2
 have hl:l.length=k:=by rw [h2]; simp
 have e1:=i64s k (by omega)
 simp [g.o7,mkSt,go_sem]
 refine ⟨fun hk=>?_,fun hk=>hx _ _ ?_⟩
 ·refine zab (zdk r) ?_
  simp [e1,go_sem]
  exact ⟨by omega,hn (k+1,l++[r.zero]) _ (Weak.to [1,2,5,6] [((1,0),1),((16,0),2)] (by simp [go_sem])) ⟨by show k+1<=n; omega,by rw [h2,List.replicate_succ']⟩ (by show n - (k+1)<n - k; omega)⟩
 ·have:k=n:=by omega
  subst this
  simp [go_sem,hl]
  rw [h2,List.take_of_length_le (by simp)]
end Go.Ab
namespace Go.Ab
open Enc (enc)
theorem zud (q:Rat):qb q.den q.num.natAbs q:=⟨q.num,(Rat.mkRat_self q).symm,Nat.le_refl _⟩
theorem zoy {n m:Nat} (h:(lb n).length<=m):n<4294967296^m:=Nat.lt_of_lt_of_le (zie n) (Nat.pow_le_pow_right (by omega) h)
theorem ratb {x:GRat} {m:Nat} (hx:x.sm m) (hm:1<=m):x.v.num.natAbs<4294967296^m/\x.v.den<4294967296^m:=by
 have:=zd6 hx hm
 exact ⟨zoy this.1,zoy this.2⟩
theorem zro (n:Nat) (a b:Nat) (ha:a<4294967296^n) (hb:b<4294967296^n):a+b<4294967296^(n+1):=by
 rw [Nat.pow_succ]
 generalize 4294967296^n=W at *
 omega
theorem zjv {x y:GRat} {m n:Nat} (hx:x.sm m) (hy:y.sm n) (hm:1<=m) (hn:1<=n):(rto (x.v+y.v)).sm (m+n+1):=by
 obtain ⟨a1,a2⟩:=ratb hx hm
 obtain ⟨b1,b2⟩:=ratb hy hn
 have h1:=zeu y.v.den y.v.den_nz (zud x.v)
 have h2:=zeu x.v.den x.v.den_nz (zud y.v)
 rw [Nat.mul_comm y.v.den] at h2
 have hD:x.v.den*y.v.den≠0:=Nat.mul_ne_zero x.v.den_nz y.v.den_nz
 have h3:=zv4 h1 h2 hD
 have hpos:∀ k,0<4294967296^k:=fun k=>Nat.pow_pos (by omega)
 have c1:x.v.num.natAbs*y.v.den<4294967296^(m+n):=by
  rw [Nat.pow_add]; exact Nat.mul_lt_mul'' a1 b2
 have c2:y.v.num.natAbs*x.v.den<4294967296^(m+n):=by
  rw [Nat.pow_add,Nat.mul_comm]; exact Nat.mul_lt_mul'' a2 b1
 have c3:x.v.den*y.v.den<4294967296^(m+n):=by
  rw [Nat.pow_add]; exact Nat.mul_lt_mul'' a2 b2
 refine z0o h3 hD (Nat.lt_of_lt_of_le c3 (Nat.pow_le_pow_right (by omega) (by omega))) ?_
 exact zro _ _ _ c1 c2
def pden:List GMono->Nat
 | []=>1
 | m::p=>m.coef.v.den*pden p
theorem zf8 (p:List GMono):pden p≠0:=by
 induction p with
 | nil=>simp [pden]
 | cons m p ih=>exact Nat.mul_ne_zero m.coef.v.den_nz ih
theorem zp6 {p:List GMono} {n:Nat} (hp:psm p n) (hn:1<=n):pden p<4294967296^(n*p.length+1):=by
 induction p with
 | nil=>simp [pden]
 | cons m p ih =>
  have h1:=(ratb (hp m (by simp)) hn).2
  have h2:=ih fun x hx=>hp x (by simp [hx])
  have:n*(m::p).length+1=n+(n*p.length+1):=by simp [Nat.mul_add]; omega
  rw [this,Nat.pow_add]
  exact Nat.mul_lt_mul'' h1 h2
theorem z8o {p:List GMono} {m:GMono} (hm:m∈p) (k:Nat) (hk:k≠0):qb (pden p*k) (m.coef.v.num.natAbs*(pden p*k)) m.coef.v:=by
 induction p with
 | nil=>simp at hm
 | cons x p ih =>
  rcases List.mem_cons.1 hm with rfl|hm
  ·have h:=zeu (pden p*k) (Nat.mul_ne_zero (zf8 p) hk) (zud m.coef.v)
   rw [show pden (m::p)*k=m.coef.v.den*(pden p*k) by simp [pden,Nat.mul_assoc]]
   exact zbb h (Nat.mul_le_mul_left _ (Nat.le_mul_of_pos_left _ (Nat.pos_of_ne_zero m.coef.v.den_nz)))
  ·have h:=zeu x.coef.v.den x.coef.v.den_nz (ih hm)
   have e:pden (x::p)*k=pden p*k*x.coef.v.den:=by
    simp only [pden]; rw [Nat.mul_assoc,Nat.mul_comm]
   rw [e,<- Nat.mul_assoc (m.coef.v.num.natAbs)]
   exact h
theorem zld {p:List GMono} {n k:Nat} (hv:PVal p) (hp:psm p n) (hn:1<=n) (hk:k≠0):pqb (pden p*k) (4294967296^n*(pden p*k)) p:=by
 intro e
 by_cases h:∃ m∈p,m.e=e
 ·obtain ⟨m,hm,rfl⟩:=h
  rw [zsj hv hm]
  exact zbb (z8o hm k hk) (Nat.mul_le_mul_right _ (Nat.le_of_lt (ratb (hp m hm) hn).1))
 ·rw [zh7 fun m hm he=>h ⟨m,hm,he⟩]
  exact zbb (zjy _) (Nat.zero_le _)
theorem zp7 {p:List GMono} (hv:PVal p) (e:Ex):pc p e=0\/∃ m∈p,pc p e=m.coef.v:=by
 by_cases h:∃ m∈p,m.e=e
 ·obtain ⟨m,hm,rfl⟩:=h; exact .inr ⟨m,hm,zsj hv hm⟩
 ·exact .inl (zh7 fun m hm he=>h ⟨m,hm,he⟩)
theorem zlf (p:List GMono) (e:Ex) (q:Rat):(pput p e q).length<=p.length+1:=by
 rw [zg1]; split
 ·omega
 ·induction p with
  | nil=>simp [pins]
  | cons m p ih =>
   simp only [pins]; (repeat' split)<;>simp<;>omega
theorem zp9 (p q:List GMono):(padd p q).length<=p.length+q.length:=by
 induction q generalizing p with
 | nil=>simp [padd]
 | cons m q ih =>
  have:=ih (pput p m.e m.coef.v)
  have h2:=zlf p m.e m.coef.v
  show (padd (pput p m.e m.coef.v) q).length<=_
  simp; omega
theorem zg8:gr0.v=0:=by rw [show gr0=rto 0 from zck.symm,zbg]
theorem z84 {p q:List GMono} {m n:Nat} (hv:PVal p) (hw:PVal q) (hp:psm p m) (hq:psm q n) (hm:1<=m) (hn:1<=n):psm (padd p q) (m+n+1):=by
 intro x hx
 have hval:=zb9 q hv
 have hok:=GMono.ok_iff.1 ((zaj.1 hval).1 x hx)
 have h1:x.coef.v=pc p x.e+pc q x.e:=by rw [<- zsj hval hx,zfa p (zaj.1 hw).1]
 rw [<- zgo hok.2.1,h1]
 have ga:∃ a:GRat,a.sm m/\a.v=pc p x.e:=by
  rcases zp7 hv x.e with h|⟨y,hy,h⟩
  ·exact ⟨gr0,zh3 m,by rw [zg8,h]⟩
  ·exact ⟨y.coef,hp y hy,h.symm⟩
 have gb:∃ b:GRat,b.sm n/\b.v=pc q x.e:=by
  rcases zp7 hw x.e with h|⟨y,hy,h⟩
  ·exact ⟨gr0,zh3 n,by rw [zg8,h]⟩
  ·exact ⟨y.coef,hq y hy,h.symm⟩
 obtain ⟨a,a1,a2⟩:=ga
 obtain ⟨b,b1,b2⟩:=gb
 rw [<- a2,<- b2]
 exact zjv a1 b1 hm hn
end Go.Ab
namespace Go.Ab
section
variable {α : Type} (key : α -> List Int) (up : α -> α -> α) (nw : α -> α)
def mst (out:List α) (y : α):List α :=
 match out with
 | []=>[nw y]
 | [z]=>if key z=key y then [up z y] else [z,nw y]
 | z::r=>z::mst r y
def mrg (l:List α):List α := l.foldl (mst key up nw) []
def insR (s:List α) (x : α):List α :=
 match s with
 | []=>[x]
 | z::r=>if key x<key z then x::z::r else z::insR r x
def insF (out:List α) (x : α):List α :=
 match out with
 | []=>[nw x]
 | z::r=>if key z<key x then z::insF r x else if key z=key x then up z x::r else nw x::z::r
def srt (l:List α):List α := l.foldl (insR key) []
def nfm (l:List α):List α := l.foldl (insF key up nw) []
variable {key up nw} (hup:∀ a b,key (up a b)=key a) (hnw:∀ a,key (nw a)=key a)
theorem zql (a b:List Int):a<b\/a=b\/b<a:=by
 by_cases h:a<b
 ·exact .inl h
 ·by_cases h2:b<a
  ·exact .inr (.inr h2)
  ·exact .inr (.inl (List.le_antisymm (List.not_lt.1 h2) (List.not_lt.1 h)))
theorem z12 {a b c:List Int} (h:¬ b<a) (k:b<c):a<c:=by
 rcases zql a b with h1|h1|h1
 ·exact List.lt_trans h1 k
 ·rw [h1]; exact k
 ·exact absurd h1 h
theorem zi9 {a b c:List Int} (h:a<b) (k:¬ c<b):a<c:=by
 rcases zql b c with h1|h1|h1
 ·exact List.lt_trans h h1
 ·rw [<- h1]; exact h
 ·exact absurd h1 k
theorem yca (out:List α) (y : α):mst key up nw out y≠[]:=by
 match out with
 | []=>simp [mst]
 | [z]=>simp only [mst]; split<;>simp
 | z::w::r=>simp [mst]
theorem zmm (z : α) {r:List α} (y : α) (h:r≠[]):mst key up nw (z::r) y=z::mst key up nw r y:=by
 match r with
 | []=>exact absurd rfl h
 | w::r=>rfl
theorem zqc (o:List α) {r:List α} (y : α) (h:r≠[]):mst key up nw (o++r) y=o++mst key up nw r y:=by
 induction o with
 | nil=>rfl
 | cons z o ih=>rw [List.cons_append,zmm z y (by simp [h]),ih]; rfl
theorem zxd (o:List α):∀ (l:List α) {r:List α},r≠[]->l.foldl (mst key up nw) (o++r)=o++l.foldl (mst key up nw) r
 | [],r,_=>rfl
 | y::l,r,h=>by
  simp only [List.foldl_cons]
  rw [zqc o y h]
  exact zxd o l (yca r y)
include hup hnw in
theorem zqb (out:List α) (y : α):∃ o z,mst key up nw out y=o++[z]/\key z=key y:=by
 match out with
 | []=>exact ⟨[],nw y,rfl,hnw y⟩
 | [z] =>
  simp only [mst]
  split
  ·rename_i h; exact ⟨[],up z y,rfl,by rw [hup,h]⟩
  ·exact ⟨[z],nw y,rfl,hnw y⟩
 | z::w::r =>
  obtain ⟨o,u,h1,h2⟩:=zqb (w::r) y
  exact ⟨z::o,u,by rw [zmm z y (by simp),h1]; rfl,h2⟩
theorem zml {o:List α} {z y : α} (h:key z≠key y):mst key up nw (o++[z]) y=o++[z,nw y]:=by
 rw [zqc o y (by simp)]; simp [mst,h]
theorem zqa {o:List α} {z y : α} (h:key z=key y):mst key up nw (o++[z]) y=o++[up z y]:=by
 rw [zqc o y (by simp)]; simp [mst,h]
theorem zxc {o:List α} {z : α} {B:List α} (h:∀ b∈B,key z≠key b):B.foldl (mst key up nw) (o++[z])=o++[z]++mrg key up nw B:=by
 cases B with
 | nil=>simp [mrg]
 | cons b B =>
  simp only [List.foldl_cons,mrg]
  rw [zml (h b (by simp))]
  have:o++[z,nw b]=(o++[z])++[nw b]:=by simp
  rw [this,zxd (o++[z]) B (by simp)]
  rfl
def Srt (key : α -> List Int) (l:List α):Prop:=l.Pairwise fun a b=>¬ key b<key a
def SSrt (key : α -> List Int) (l:List α):Prop:=l.Pairwise fun a b=>key a<key b
theorem zwn (l:List α) (y : α):mrg key up nw (l++[y])=mst key up nw (mrg key up nw l) y:=by simp [mrg,List.foldl_append]
include hup hnw in
theorem zhr:∀ (n:Nat) (l:List α),l.length=n->Srt key l->SSrt key (mrg key up nw l)/\(∀ z∈mrg key up nw l,∃ y∈l,key z=key y)/\(l=[]\/∃ o z o' y,mrg key up nw l=o++[z]/\l=o'++[y]/\key z=key y)
 | 0,l,hl,_=>by
  have:l=[]:=List.eq_nil_of_length_eq_zero hl
  subst this
  exact ⟨by simp [mrg,SSrt],by simp [mrg],.inl rfl⟩
 | n+1,l,hl,hs=>by
  obtain ⟨l',y,rfl⟩:∃ l' y,l=l'++[y]:=⟨l.dropLast,l.getLast (by intro h; simp [h] at hl),(List.dropLast_concat_getLast _).symm⟩
  have hl':l'.length=n:=by simpa using hl
  have hs':Srt key l':=(List.pairwise_append.1 hs).1
  have hle:∀ a∈l',¬ key y<key a:=fun a ha=>(List.pairwise_append.1 hs).2.2 a ha y (by simp)
  obtain ⟨i1,i2,i3⟩:=zhr n l' hl' hs'
  rw [zwn]
  obtain ⟨o,u,e1,e2⟩:=zqb hup hnw (mrg key up nw l') y
  refine ⟨?_,?_,.inr ⟨o,u,l',y,e1,rfl,e2⟩⟩
  ·rcases i3 with rfl|⟨o1,z,o',y',f1,f2,f3⟩
   ·simp [mrg,mst,SSrt]
   ·rw [f1] at i1 ⊢
    have g:=List.pairwise_append.1 i1
    by_cases hk:key z=key y
    ·rw [zqa hk]
     refine List.pairwise_append.2 ⟨g.1,by simp,fun a ha b hb=>?_⟩
     simp only [List.mem_singleton] at hb; subst hb
     rw [hup]; exact g.2.2 a ha z (by simp)
    ·rw [zml hk]
     have hzy:key z<key y:=by
      rcases zql (key z) (key y) with h|h|h
      ·exact h
      ·exact absurd h hk
      ·rw [f3] at h; exact absurd h (hle y' (by rw [f2]; simp))
     refine List.pairwise_append.2 ⟨g.1,by simp [hnw,hzy],fun a ha b hb=>?_⟩
     have haz:=g.2.2 a ha z (by simp)
     simp only [List.mem_cons,List.not_mem_nil,or_false] at hb
     rcases hb with rfl|rfl
     ·exact haz
     ·rw [hnw]; exact List.lt_trans haz hzy
  ·intro z hz
   rcases i3 with rfl|⟨o1,z1,o',y',f1,f2,f3⟩
   ·simp [mrg,mst] at hz; subst hz; exact ⟨y,by simp,hnw y⟩
   ·rw [f1] at hz
    by_cases hk:key z1=key y
    ·rw [zqa hk] at hz
     rcases List.mem_append.1 hz with h|h
     ·obtain ⟨q,q1,q2⟩:=i2 z (by rw [f1]; simp [h])
      exact ⟨q,by simp [q1],q2⟩
     ·simp at h; subst h; exact ⟨y,by simp,by rw [hup,hk]⟩
    ·rw [zml hk] at hz
     simp only [List.mem_append,List.mem_cons,List.not_mem_nil,or_false] at hz
     rcases hz with h|rfl|rfl
     ·obtain ⟨q,q1,q2⟩:=i2 z (by rw [f1]; simp [h])
      exact ⟨q,by simp [q1],q2⟩
     ·obtain ⟨q,q1,q2⟩:=i2 z (by rw [f1]; simp)
      exact ⟨q,by simp [q1],q2⟩
     ·exact ⟨y,by simp,hnw y⟩
include hnw in
theorem zqp {x : α} {B:List α} (hB:∀ b∈B,key x<key b):∀ (A:List α),SSrt key A->(∀ a∈A,¬ key x<key a)->insF key up nw (A++B) x=mst key up nw A x++B
 | [],_,_=>by
  cases B with
  | nil=>rfl
  | cons b B =>
   have h:=hB b (by simp)
   have h1:¬ key b<key x:=List.lt_asymm h
   have h2:key b≠key x:=fun e=>by rw [e] at h; exact List.lt_irrefl _ h
   simp [insF,mst,h1,h2]
 | [z],hs,hle=>by
  rcases zql (key z) (key x) with h|h|h
  ·have hne:key z≠key x:=fun e=>by rw [e] at h; exact List.lt_irrefl _ h
   have:=zqp hB [] (by simp [SSrt]) (by simp)
   simp only [List.nil_append,mst] at this
   simp [insF,mst,h,hne,this]
  ·have h2:¬ key x<key x:=List.lt_irrefl _
   simp [insF,mst,h,h2]
  ·exact absurd h (hle z (by simp))
 | z::w::r,hs,hle=>by
  have hs2:=List.pairwise_cons.1 hs
  have hzx:key z<key x:=zi9 (hs2.1 w (by simp)) (hle w (by simp))
  have ih:=zqp hB (w::r) hs2.2 (fun a ha=>hle a (by simp [ha]))
  rw [zmm z x (by simp)]
  simp only [List.cons_append,insF,hzx,if_true] at ih ⊢
  rw [<- ih]
theorem zj5 (x : α):∀ (s:List α),Srt key s->∃ A B,s=A++B/\insR key s x=A++x::B/\(∀ a∈A,¬ key x<key a)/\(∀ b∈B,key x<key b)
 | [],_=>⟨[],[],rfl,rfl,by simp,by simp⟩
 | z::r,hs=>by
  have hs2:=List.pairwise_cons.1 hs
  by_cases h:key x<key z
  ·refine ⟨[],z::r,rfl,by simp [insR,h],by simp,fun b hb=>?_⟩
   rcases List.mem_cons.1 hb with rfl|hb
   ·exact h
   ·exact zi9 h (hs2.1 b hb)
  ·obtain ⟨A,B,h1,h2,h3,h4⟩:=zj5 x r hs2.2
   exact ⟨z::A,B,by rw [h1]; rfl,by simp [insR,h,h2],fun a ha=>by
    rcases List.mem_cons.1 ha with rfl|ha
    ·exact h
    ·exact h3 a ha,h4⟩
theorem zm0 {x : α} {s:List α} (hs:Srt key s):Srt key (insR key s x):=by
 obtain ⟨A,B,h1,h2,h3,h4⟩:=zj5 x s hs
 rw [h2]
 rw [h1] at hs
 have g:=List.pairwise_append.1 hs
 refine List.pairwise_append.2 ⟨g.1,List.pairwise_cons.2 ⟨fun b hb=>List.lt_asymm (h4 b hb),g.2.1⟩,fun a ha b hb=>?_⟩
 rcases List.mem_cons.1 hb with rfl|hb
 ·exact h3 a ha
 ·exact g.2.2 a ha b hb
include hup hnw in
theorem z5m {x : α} {s:List α} (hs:Srt key s):mrg key up nw (insR key s x)=insF key up nw (mrg key up nw s) x:=by
 obtain ⟨A,B,h1,h2,h3,h4⟩:=zj5 x s hs
 subst h1
 have g:=List.pairwise_append.1 hs
 obtain ⟨a1,a2,a3⟩:=zhr hup hnw A.length A rfl g.1
 obtain ⟨b1,b2,b3⟩:=zhr hup hnw B.length B rfl g.2.1
 have hBk:∀ b∈mrg key up nw B,key x<key b:=fun b hb=>by
  obtain ⟨y,y1,y2⟩:=b2 b hb
  rw [y2]; exact h4 y y1
 have e1:mrg key up nw (A++B)=mrg key up nw A++mrg key up nw B:=by
  rcases a3 with rfl|⟨o,z,o',y,f1,f2,f3⟩
  ·simp [mrg]
  ·have:mrg key up nw (A++B)=B.foldl (mst key up nw) (mrg key up nw A):=by simp [mrg,List.foldl_append]
   rw [this,f1]
   refine zxc fun b hb=>?_
   have hlt:key z<key b:=by rw [f3]; exact z12 (h3 y (by rw [f2]; simp)) (h4 b hb)
   intro e; rw [e] at hlt; exact List.lt_irrefl _ hlt
 have e2:mrg key up nw (A++x::B)=mst key up nw (mrg key up nw A) x++mrg key up nw B:=by
  have:mrg key up nw (A++x::B)=B.foldl (mst key up nw) (mst key up nw (mrg key up nw A) x):=by simp [mrg,List.foldl_append]
  rw [this]
  obtain ⟨o,u,f1,f2⟩:=zqb hup hnw (mrg key up nw A) x
  rw [f1]
  refine zxc fun b hb=>?_
  intro e; have:=h4 b hb; rw [<- f2,e] at this; exact List.lt_irrefl _ this
 rw [h2,e1,e2]
 exact (zqp hnw hBk _ a1 (fun a ha=>by
  obtain ⟨y,y1,y2⟩:=a2 a ha
  rw [y2]; exact h3 y y1)).symm
include hup hnw in
theorem zqd (l:List α):mrg key up nw (srt key l)=nfm key up nw l/\Srt key (srt key l):=by
 have key':∀ (l s:List α),Srt key s->mrg key up nw (l.foldl (insR key) s)=l.foldl (insF key up nw) (mrg key up nw s)/\Srt key (l.foldl (insR key) s):=by
  intro l
  induction l with
  | nil=>intro s hs; exact ⟨rfl,hs⟩
  | cons x l ih =>
   intro s hs
   simp only [List.foldl_cons]
   rw [<- z5m hup hnw hs]
   exact ih _ (zm0 hs)
 exact key' l [] (by simp [Srt])
end
end Go.Ab
namespace Go.Ab
def lexI:List Int->List Int->Int
 | x::xs,y::ys=>if x<y then -1 else if y<x then 1 else lexI xs ys
 | _,_=>0
theorem zmu:∀ {a b:List Int},a.length=b.length->(lexI a b<0 ↔ a<b)
 | [],[],_=>by simp [lexI]
 | x::xs,y::ys,h=>by
  have ih:=zmu (a:=xs) (b:=ys) (by simpa using h)
  simp only [lexI,List.cons_lt_cons_iff]
  by_cases h1:x<y
  ·simp [h1]
  ·by_cases h2:y<x
   ·simp [h1,h2]; omega
   ·have:x=y:=by omega
    subst this; simp [ih]
theorem zid:∀ {a b:List Int},a.length=b.length->(lexI a b=0 ↔ a=b)
 | [],[],_=>by simp [lexI]
 | x::xs,y::ys,h=>by
  have ih:=zid (a:=xs) (b:=ys) (by simpa using h)
  simp only [lexI,List.cons.injEq]
  by_cases h1:x<y
  ·simp [h1]; omega
  ·by_cases h2:y<x
   ·simp [h1,h2]; omega
   ·have:x=y:=by omega
    subst this; simp [ih]
def cmpI (x y:Int):Int:=if x<y then -1 else if y<x then 1 else 0
end Go.Ab
namespace Go.Ab
open Enc (enc)
structure GArc where
 f:Int
 l:Int
 t:Int
 w:GW
structure GTArc where
 f:Int
 i:Int
 o:Int
 t:Int
 w:GW
def GW.cl (w:GW):List PV:=[.bool w.q.neg,.sl (ens w.q.num),.sl (ens w.q.den),.int .i64 w.cost,.bool w.inf,.int .u64 w.set.toNat,.sl (ens w.poly),.sl (ens w.parts)]
instance:Enc GArc:=⟨fun x=>.agg ([.int .i64 x.f,.int .i64 x.l,.int .i64 x.t]++x.w.cl),11,by decide,fun _=>rfl⟩
instance:Enc GTArc:=⟨fun x=>.agg ([.int .i64 x.f,.int .i64 x.i,.int .i64 x.o,.int .i64 x.t]++x.w.cl),12,by decide,fun _=>rfl⟩
@[go_sem] theorem yfs (x:GArc):enc x=.agg [.int .i64 x.f,.int .i64 x.l,.int .i64 x.t,.bool x.w.q.neg,.sl (ens x.w.q.num),.sl (ens x.w.q.den),.int .i64 x.w.cost,.bool x.w.inf,.int .u64 x.w.set.toNat,.sl (ens x.w.poly),.sl (ens x.w.parts)]:=rfl
@[go_sem] theorem ydr (x:GTArc):enc x=.agg [.int .i64 x.f,.int .i64 x.i,.int .i64 x.o,.int .i64 x.t,.bool x.w.q.neg,.sl (ens x.w.q.num),.sl (ens x.w.q.den),.int .i64 x.w.cost,.bool x.w.inf,.int .u64 x.w.set.toNat,.sl (ens x.w.poly),.sl (ens x.w.parts)]:=rfl
@[go_sem] theorem ycn:Enc.sz GArc=11:=rfl
@[go_sem] theorem yaj:Enc.sz GTArc=12:=rfl
structure GAuto where
 ring:GRing
 sy:Int
 st:Int
 ini:List GW
 fin:List GW
 arcs:List GArc
structure GTrans where
 ring:GRing
 i:Int
 o:Int
 st:Int
 ini:List GW
 fin:List GW
 arcs:List GTArc
instance:Enc GAuto:=⟨fun x=>.agg [.int .i64 x.ring.kind,.sl (ens x.ring.parts),.int .i64 x.sy,.int .i64 x.st,.sl (ens x.ini),.sl (ens x.fin),.sl (ens x.arcs)],7,by decide,fun _=>rfl⟩
instance:Enc GTrans:=⟨fun x=>.agg [.int .i64 x.ring.kind,.sl (ens x.ring.parts),.int .i64 x.i,.int .i64 x.o,.int .i64 x.st,.sl (ens x.ini),.sl (ens x.fin),.sl (ens x.arcs)],8,by decide,fun _=>rfl⟩
@[go_sem] theorem ydw (x:GAuto):enc x=.agg [.int .i64 x.ring.kind,.sl (ens x.ring.parts),.int .i64 x.sy,.int .i64 x.st,.sl (ens x.ini),.sl (ens x.fin),.sl (ens x.arcs)]:=rfl
@[go_sem] theorem yco (x:GTrans):enc x=.agg [.int .i64 x.ring.kind,.sl (ens x.ring.parts),.int .i64 x.i,.int .i64 x.o,.int .i64 x.st,.sl (ens x.ini),.sl (ens x.fin),.sl (ens x.arcs)]:=rfl
@[go_sem] theorem yap:Enc.sz GAuto=7:=rfl
@[go_sem] theorem z9s:Enc.sz GTrans=8:=rfl
def GArc.key (x:GArc):List Int:=[x.f,x.l,x.t]
def GTArc.key (x:GTArc):List Int:=[x.f,x.i,x.o,x.t]
end Go.Ab
namespace Go.Ab
open Enc (enc)
attribute [local go_sem] zas Opd.slots
theorem zm4 (l:List GW) (f:FuncId) (caps:List PV) (p:GW->Bool) (hl:l.length<=4611686018427387904) (hf:∀ x∈l,Sp P f (enc x::caps) (.pure (.bool (p x)))) :
  Sp P F.l8 [.sl (ens l),.fn f caps] (.pure (.int .i64 (idxI p l))):=by
 refine Sp.vz c.l8 fun _=>?_
 simp [g.l8,go_sem]
 refine zag (S:=fun k:Nat=>mkSt [(0,.p (.sl (ens l))),(1,.p (.fn f caps)),(7,.p (.int .i64 l.length)),(8,.p (.int .i64 k))] []) (I:=fun k=>k<=l.length/\∀ x∈l.take k,p x=false) (m:=fun k=>l.length - k) 0
  (Weak.to [0,1,7,8] [] (by simp [go_sem])) ⟨by omega,by simp⟩ ?_
 rintro k ⟨h1,h2⟩ R hn hr hx
 have e1:=i64s k (by omega)
 simp [g.sx,mkSt,go_sem]
 refine ⟨fun hk=>?_,fun hk=>hx _ _ ?_⟩
 ·refine zae hk ?_
  try simp [go_sem]
  refine zaa (hf l[k] (List.getElem_mem hk)) (zbw (by simp [go_sem]) (zed _ _)) ?_
  rcases Bool.eq_false_or_eq_true (p l[k]) with h3|h3
  ·simp [h3,go_sem]
   refine hr _ ?_
   simp [go_sem,zqs hk h2 h3]
  ·simp [h3,e1,go_sem]
   refine hn (k+1) _ (Weak.to [0,1,7,8] [] (by simp [go_sem])) ⟨by omega,fun x hx=>?_⟩ (by omega)
   rw [List.take_succ_eq_append_getElem hk] at hx
   rcases List.mem_append.1 hx with hx|hx
   ·exact h2 x hx
   ·simp at hx; rw [hx]; exact h3
 ·have:k=l.length:=by omega
  subst this
  simp [go_sem,zjb (p:=p) (l:=l) (by simpa using h2)]
theorem zh2 (l:List GW) (f:FuncId) (caps:List PV) (p:GW->Bool) (hl:l.length<=4611686018427387904) (hf:∀ x∈l,Sp P f (enc x::caps) (.pure (.bool (p x)))) :
  Sp P F.gw [.sl (ens l),.fn f caps] (.pure (.bool (l.any p))):=by
 refine Sp.vz c.gw fun _=>?_
 simp [g.gw,go_sem]
 refine zaa (zm4 l f caps p hl hf) rfl ?_
 simp [go_sem,zif]
theorem zks (l:List GArc) (f:FuncId) (caps:List PV) (p:GArc->Bool) (hl:l.length<=4611686018427387904) (hf:∀ x∈l,Sp P f (enc x::caps) (.pure (.bool (p x)))) :
  Sp P F.gv [.sl (ens l),.fn f caps] (.pure (.int .i64 (idxI p l))):=by
 refine Sp.vz c.gv fun _=>?_
 simp [g.gv,go_sem]
 refine zag (S:=fun k:Nat=>mkSt [(0,.p (.sl (ens l))),(1,.p (.fn f caps)),(7,.p (.int .i64 l.length)),(8,.p (.int .i64 k))] []) (I:=fun k=>k<=l.length/\∀ x∈l.take k,p x=false) (m:=fun k=>l.length - k) 0
  (Weak.to [0,1,7,8] [] (by simp [go_sem])) ⟨by omega,by simp⟩ ?_
 rintro k ⟨h1,h2⟩ R hn hr hx
 have e1:=i64s k (by omega)
 simp [g.sb,mkSt,go_sem]
 refine ⟨fun hk=>?_,fun hk=>hx _ _ ?_⟩
 ·refine zae hk ?_
  try simp [go_sem]
  refine zaa (hf l[k] (List.getElem_mem hk)) (zbw (by simp [go_sem]) (zed _ _)) ?_
  rcases Bool.eq_false_or_eq_true (p l[k]) with h3|h3
  ·simp [h3,go_sem]
   refine hr _ ?_
   simp [go_sem,zqs hk h2 h3]
  ·simp [h3,e1,go_sem]
   refine hn (k+1) _ (Weak.to [0,1,7,8] [] (by simp [go_sem])) ⟨by omega,fun x hx=>?_⟩ (by omega)
   rw [List.take_succ_eq_append_getElem hk] at hx
   rcases List.mem_append.1 hx with hx|hx
   ·exact h2 x hx
   ·simp at hx; rw [hx]; exact h3
 ·have:k=l.length:=by omega
  subst this
  simp [go_sem,zjb (p:=p) (l:=l) (by simpa using h2)]
theorem zuu (l:List GArc) (f:FuncId) (caps:List PV) (p:GArc->Bool) (hl:l.length<=4611686018427387904) (hf:∀ x∈l,Sp P f (enc x::caps) (.pure (.bool (p x)))) :
  Sp P F.kj [.sl (ens l),.fn f caps] (.pure (.bool (l.any p))):=by
 refine Sp.vz c.kj fun _=>?_
 simp [g.kj,go_sem]
 refine zaa (zks l f caps p hl hf) rfl ?_
 simp [go_sem,zif]
theorem zqr (l:List GTArc) (f:FuncId) (caps:List PV) (p:GTArc->Bool) (hl:l.length<=4611686018427387904) (hf:∀ x∈l,Sp P f (enc x::caps) (.pure (.bool (p x)))) :
  Sp P F.ln [.sl (ens l),.fn f caps] (.pure (.int .i64 (idxI p l))):=by
 refine Sp.vz c.ln fun _=>?_
 simp [g.ln,go_sem]
 refine zag (S:=fun k:Nat=>mkSt [(0,.p (.sl (ens l))),(1,.p (.fn f caps)),(7,.p (.int .i64 l.length)),(8,.p (.int .i64 k))] []) (I:=fun k=>k<=l.length/\∀ x∈l.take k,p x=false) (m:=fun k=>l.length - k) 0
  (Weak.to [0,1,7,8] [] (by simp [go_sem])) ⟨by omega,by simp⟩ ?_
 rintro k ⟨h1,h2⟩ R hn hr hx
 have e1:=i64s k (by omega)
 simp [g.sh,mkSt,go_sem]
 refine ⟨fun hk=>?_,fun hk=>hx _ _ ?_⟩
 ·refine zae hk ?_
  try simp [go_sem]
  refine zaa (hf l[k] (List.getElem_mem hk)) (zbw (by simp [go_sem]) (zed _ _)) ?_
  rcases Bool.eq_false_or_eq_true (p l[k]) with h3|h3
  ·simp [h3,go_sem]
   refine hr _ ?_
   simp [go_sem,zqs hk h2 h3]
  ·simp [h3,e1,go_sem]
   refine hn (k+1) _ (Weak.to [0,1,7,8] [] (by simp [go_sem])) ⟨by omega,fun x hx=>?_⟩ (by omega)
   rw [List.take_succ_eq_append_getElem hk] at hx
   rcases List.mem_append.1 hx with hx|hx
   ·exact h2 x hx
   ·simp at hx; rw [hx]; exact h3
 ·have:k=l.length:=by omega
  subst this
  simp [go_sem,zjb (p:=p) (l:=l) (by simpa using h2)]
theorem zk2 (l m:List GMono) (f:FuncId) (hl:l.length<=4611686018427387904) (hf:∀ x∈l,∀ y∈m,Sp P f [enc x,enc y] (.pure (.bool (decide (x=y))))) :
  Sp P F.mh [.sl (ens l),.sl (ens m),.fn f []] (.pure (.bool (decide (l=m)))):=by
 refine Sp.vz c.mh fun _=>?_
 simp [g.mh,go_sem]
 refine ⟨fun h=>?_,fun h=>fun he=>h (by rw [he])⟩
 have hlen:l.length=m.length:=by omega
 refine zag (S:=fun k:Nat=>mkSt [(1,.p (.sl (ens m))),(2,.p (.fn f [])),(15,.p (.sl (ens l))),(16,.p (.int .i64 l.length)),(17,.p (.int .i64 k))] []) (I:=fun k=>k<=l.length/\l.take k=m.take k) (m:=fun k=>l.length - k) 0
  (Weak.to [1,2,15,16,17] [] (by simp [go_sem])) ⟨by omega,by simp⟩ ?_
 rintro k ⟨h1,h2⟩ R hn hr hx
 have e1:=i64s k (by omega)
 simp [g.s5,mkSt,go_sem]
 refine ⟨fun hk=>?_,fun hk=>hx _ _ ?_⟩
 ·have hk2:k<m.length:=by omega
  have bad:l[k]≠m[k]->l≠m:=fun h h'=>by subst h'; exact h rfl
  refine zae hk ?_
  try simp [go_sem]
  refine zae hk2 ?_
  try simp [go_sem]
  refine zab (hf l[k] (List.getElem_mem hk) m[k] (List.getElem_mem hk2)) ?_
  by_cases h6:l[k]=m[k]
  ·simp [h6,e1,go_sem]
   exact hn (k+1) _ (Weak.to [1,2,15,16,17] [] (by simp [go_sem])) ⟨by omega,by rw [List.take_succ_eq_append_getElem hk,List.take_succ_eq_append_getElem hk2,h2,h6]⟩ (by omega)
  ·have h8:l≠m:=bad h6
   simp [h6,go_sem]
   exact hr _ (by simp [h8,go_sem])
 ·have h3:l=m:=by rw [<- List.take_length (l:=l),<- List.take_length (l:=m),<- hlen,show l.length=k by omega]; exact h2
  simp [h3,go_sem]
theorem zn0 (l m:List GW) (f:FuncId) (hl:l.length<=4611686018427387904) (hf:∀ x∈l,∀ y∈m,Sp P f [enc x,enc y] (.pure (.bool (decide (x=y))))) :
  Sp P F.mi [.sl (ens l),.sl (ens m),.fn f []] (.pure (.bool (decide (l=m)))):=by
 refine Sp.vz c.mi fun _=>?_
 simp [g.mi,go_sem]
 refine ⟨fun h=>?_,fun h=>fun he=>h (by rw [he])⟩
 have hlen:l.length=m.length:=by omega
 refine zag (S:=fun k:Nat=>mkSt [(1,.p (.sl (ens m))),(2,.p (.fn f [])),(15,.p (.sl (ens l))),(16,.p (.int .i64 l.length)),(17,.p (.int .i64 k))] []) (I:=fun k=>k<=l.length/\l.take k=m.take k) (m:=fun k=>l.length - k) 0
  (Weak.to [1,2,15,16,17] [] (by simp [go_sem])) ⟨by omega,by simp⟩ ?_
 rintro k ⟨h1,h2⟩ R hn hr hx
 have e1:=i64s k (by omega)
 simp [g.s6,mkSt,go_sem]
 refine ⟨fun hk=>?_,fun hk=>hx _ _ ?_⟩
 ·have hk2:k<m.length:=by omega
  have bad:l[k]≠m[k]->l≠m:=fun h h'=>by subst h'; exact h rfl
  refine zae hk ?_
  try simp [go_sem]
  refine zae hk2 ?_
  try simp [go_sem]
  refine zab (hf l[k] (List.getElem_mem hk) m[k] (List.getElem_mem hk2)) ?_
  by_cases h6:l[k]=m[k]
  ·simp [h6,e1,go_sem]
   exact hn (k+1) _ (Weak.to [1,2,15,16,17] [] (by simp [go_sem])) ⟨by omega,by rw [List.take_succ_eq_append_getElem hk,List.take_succ_eq_append_getElem hk2,h2,h6]⟩ (by omega)
  ·have h8:l≠m:=bad h6
   simp [h6,go_sem]
   exact hr _ (by simp [h8,go_sem])
 ·have h3:l=m:=by rw [<- List.take_length (l:=l),<- List.take_length (l:=m),<- hlen,show l.length=k by omega]; exact h2
  simp [h3,go_sem]
theorem zq3 (l:List GArc) (hl:l.length<=2147483648):Sp P F.bm [.sl (ens l)] (.fresh 11 (ens l)):=by
 cases l with
 | nil =>
  refine Sp.nilcase ?_ ?_
  ·refine Sp.vz c.bm fun _=>?_
   simp [g.bm,go_sem]
  ·refine Sp.vz c.bm fun _=>?_
   simp [g.bm,go_sem,LIM]
 | cons x l =>
  refine Sp.vz c.bm fun _=>?_
  simp at hl
  simp [g.bm,go_sem,LIM,hl]
theorem zn3 (l:List GTArc) (hl:l.length<=2147483648):Sp P F.bl [.sl (ens l)] (.fresh 12 (ens l)):=by
 cases l with
 | nil =>
  refine Sp.nilcase ?_ ?_
  ·refine Sp.vz c.bl fun _=>?_
   simp [g.bl,go_sem]
  ·refine Sp.vz c.bl fun _=>?_
   simp [g.bl,go_sem,LIM]
 | cons x l =>
  refine Sp.vz c.bl fun _=>?_
  simp at hl
  simp [g.bl,go_sem,LIM,hl]
end Go.Ab
