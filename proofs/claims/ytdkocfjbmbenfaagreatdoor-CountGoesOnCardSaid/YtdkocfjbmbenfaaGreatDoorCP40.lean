/-
Proofs for the law CountGoesOn, part 40. Conditions: none.
-/
import Derived.Test.YtdkocfjbmbenfaaGreatDoorCP39
set_option maxRecDepth 100000
set_option maxHeartbeats 4000000
set_option linter.all false
namespace Go.Ab
open Enc (enc)
theorem zym (r:GRing) (n:Nat) (hn0:n<=1073741824):Sp P F.kd [enc r,.int .i64 n] (.fresh 8 (ens (List.replicate n r.zero))):=by
 refine Sp.vz c.kd fun _=>?_
 simp [g.kd,go_sem]
 refine zai (S:=fun x:Nat × List GW=>mkSt [(1,.p (.int .i64 n)),(2,.ptr 1 0 0 0),(5,.own 2 0 0 x.2.length),(6,.p (.int .i64 x.1))] [(1,⟨2,[.p (enc r)]⟩),(2,⟨8,avs x.2⟩)])
  (I:=fun x=>x.1<=n/\x.2=List.replicate x.1 r.zero) (m:=fun x=>n - x.1) (0,[])
  (Weak.nl 5 77 8 rfl (Weak.to [1,2,5,6] [((2,0),1),((77,0),2)] (by simp [go_sem,zam,Opd.slots]))) ⟨by omega,by simp⟩ ?_
 rintro ⟨k,l⟩ ⟨h1,h2⟩ R hn hr hx
 simp at h1 h2
 have hl:l.length=k:=by rw [h2]; simp
 have e1:=i64s k (by omega)
 simp [g.rd,mkSt,go_sem]
 refine ⟨fun hk=>?_,fun hk=>hx _ _ ?_⟩
 ·refine zab (zha r) ?_
  simp [e1,go_sem]
  exact ⟨by omega,hn (k+1,l++[r.zero]) _ (Weak.to [1,2,5,6] [((1,0),1),((16,0),2)] (by simp [go_sem])) ⟨by show k+1<=n; omega,by rw [h2,List.replicate_succ']⟩ (by show n - (k+1)<n - k; omega)⟩
 ·have:k=n:=by omega
  subst this
  simp [go_sem,hl]
  rw [h2,zga]; simp [go_sem]
def stS (r:GRing) (v:List GW) (c:Int) (out:List GW) (x:GArc):List GW:=if x.l=c then out.set x.t.toNat (r.plus (out.getD x.t.toNat r.zero) (r.times (v.getD x.f.toNat r.zero) x.w)) else out
def stL (r:GRing) (A:List GArc) (v:List GW) (c:Int) (n:Nat):List GW:=A.foldl (stS r v c) (List.replicate n r.zero)
def fwL (r:GRing) (A:List GArc) (n:Nat) (v:List GW) (w:List Int):List GW:=w.foldl (fun v c=>stL r A v c n) v
theorem ztg (r:GRing) (v:List GW) (c:Int) (out:List GW) (x:GArc):(stS r v c out x).length=out.length:=by unfold stS; split<;>simp
theorem zzj (r:GRing) (v:List GW) (c:Int):∀ (A:List GArc) (out:List GW),(A.foldl (stS r v c) out).length=out.length
 | [],_=>rfl
 | x::A,out=>by rw [List.foldl_cons,zzj r v c A,ztg]
theorem zo7 (r:GRing) (A:List GArc) (v:List GW) (c:Int) (n:Nat):(stL r A v c n).length=n:=by unfold stL; rw [zzj]; simp
theorem z4l {r:GRing} {A:List GArc} {k:Nat} (h:k<A.length) (v:List GW) (c:Int) (n:Nat):stL r (A.take (k+1)) v c n=stS r v c (stL r (A.take k) v c n) A[k]:=by
 unfold stL
 rw [List.take_succ_eq_append_getElem h,List.foldl_append]; rfl
theorem z59 {r:GRing} {A:List GArc} {n:Nat} {w:List Int} {k:Nat} (h:k<w.length) (v:List GW):fwL r A n v (w.take (k+1))=stL r A (fwL r A n v (w.take k)) w[k] n:=by
 unfold fwL
 rw [List.take_succ_eq_append_getElem h,List.foldl_append]; rfl
def GArc.fit (x:GArc) (N:Nat):Prop:=(0<=x.f/\x.f<N)/\0<=x.t/\x.t<N
structure GAuto.fits {r:GRing} (M:Meas r) (z:Nat) (a:GAuto):Prop where
 ring:a.ring=r
 st:0<=a.st/\a.st<=64
 arcs:∀ x∈a.arcs,(x.w.chk r/\M.mb z x.w)/\x.fit a.st.toNat
 ini:Go.Ab.vb M z a.ini/\a.ini.length=a.st.toNat
 fin:Go.Ab.vb M z a.fin/\a.fin.length=a.st.toNat
 rok:r.ok=true
theorem yb6 {r:GRing} (M:Meas r) {v out:List GW} {x:GArc} {K z e N:Nat} {c:Int} (hb:vb M K out) (he:vb M e v) (hx:x.w.chk r/\M.mb z x.w) (fit:x.fit N) (hN:out.length=N) (hE:v.length=N) (hK:e+z+1<=K):vb M (K+1) (stS r v c out x):=by
 unfold stS
 split
 ·intro w hw
  obtain ⟨⟨a1,a2⟩,a3,a4⟩:=fit
  rcases List.mem_or_eq_of_mem_set hw with h|h
  ·exact ⟨(hb w h).1,M.mono (hb w h).2 (by omega)⟩
  ·have h1:=zyt hb (i:=x.t.toNat) (by omega)
   have h2:=zyt he (i:=x.f.toNat) (by omega)
   have h3:=M.times h2.1 hx.1 h2.2 hx.2
   rw [h]
   exact ⟨zhd h1.1 (zgl h2.1 hx.1),M.plus h1.1 (zgl h2.1 hx.1) h1.2 (M.mono h3 hK)⟩
 ·exact zs8 hb (by omega)
theorem z7f {r:GRing} (M:Meas r) (hr:r.ok=true) {v:List GW} {z e N:Nat} {c:Int} (he:vb M e v) (hE:v.length=N) {A:List GArc} (hA:∀ x∈A,(x.w.chk r/\M.mb z x.w)/\x.fit N):vb M (e+z+1+A.length) (stL r A v c N):=by
 have:∀ (A:List GArc) (K:Nat) (out:List GW),(∀ x∈A,(x.w.chk r/\M.mb z x.w)/\x.fit N)->e+z+1<=K->vb M K out->out.length=N->vb M (K+A.length) (A.foldl (stS r v c) out):=by
  intro A
  induction A with
  | nil=>intro K out _ _ h _; exact h
  | cons x A ih =>
   intro K out hA hK h hl
   have hx:=hA x List.mem_cons_self
   have:=ih (K+1) (stS r v c out x) (fun y hy=>hA y (List.mem_cons_of_mem _ hy)) (by omega) (yb6 M h he hx.1 hx.2 hl hE hK) (by rw [ztg]; exact hl)
   rw [List.length_cons,show K+(A.length+1)=K+1+A.length by omega]
   exact this
 exact this A (e+z+1) _ hA (Nat.le_refl _) (z3w M hr _ _) (by simp)
theorem z2f {r:GRing} (M:Meas r) (hr:r.ok=true) {z e N:Nat} {A:List GArc} (hA:∀ x∈A,(x.w.chk r/\M.mb z x.w)/\x.fit N):∀ (w:List Int) (e:Nat) (v:List GW),vb M e v->v.length=N->vb M (e+w.length*(z+1+A.length)) (fwL r A N v w)/\(fwL r A N v w).length=N
 | [],e,v,he,hE=>⟨zs8 he (by omega),hE⟩
 | c::w,e,v,he,hE=>by
  have:=z2f M hr (e:=e) hA w _ (stL r A v c N) (z7f M hr he hE hA) (zo7 ..)
  refine ⟨zs8 this.1 ?_,this.2⟩
  rw [List.length_cons,Nat.succ_mul]; omega
theorem z4k {r:GRing} (M:Meas r) {z e:Nat} (a:GAuto) (ha:a.fits M z) {v:List GW} (he:vb M e v) (hE:v.length=a.st.toNat) (hal:a.arcs.length<=1000000) (hlim:e+z+1+a.arcs.length<=M.lim) (c:Int) :
  Sp P F.mo [enc a,.sl (ens v),.int .i64 c] (.pure (.sl (ens (stL a.ring a.arcs v c a.st.toNat)))):=by
 have hr:=ha.ring
 subst hr
 have hst:=ha.st
 obtain ⟨nn,hnn⟩:∃ nn:Nat,a.st=nn:=⟨a.st.toNat,by omega⟩
 have hN:a.st.toNat=nn:=by omega
 have harcs:=ha.arcs
 rw [hN] at harcs hE ⊢
 refine Sp.of_vm' Go.Ab.c.mo (by simp) fun _=>?_
 simp [g.mo,go_sem]
 refine zkl (zym a.ring nn (by omega)) (by simp [go_sem,hnn]) ⟨zgb _ _ rfl,by decide,by simp [ens,LIM]; omega⟩ (by simp [go_sem]) ?_
 simp [go_sem]
 refine zai (S:=fun k:Nat=>mkSt [(1,.p (.sl (ens v))),(2,.p (.int .i64 c)),(3,.ptr 3 0 0 0),(7,.own 1 0 0 nn),(8,.p (.int .i64 k))] [(3,⟨7,[.p (enc a)]⟩),(1,⟨8,avs (stL a.ring (a.arcs.take k) v c nn)⟩)]) (I:=fun k=>k<=a.arcs.length) (m:=fun k=>a.arcs.length - k) 0
  (Weak.to [1,2,3,7,8] [((3,0),3),((14,0),1)] (by simp [go_sem,stL,ens])) (by omega) ?_
 rintro k h1 R hn' hr' hx
 have e1:=i64s k (by omega)
 simp [g.qp,mkSt,go_sem]
 refine ⟨fun hk=>?_,fun hk=>hx _ _ ?_⟩
 ·have hsu:=z4l (r:=a.ring) hk v c nn
  unfold stS at hsu
  have hx1:=harcs _ (List.getElem_mem hk)
  have hlv:=z7f M ha.rok (c:=c) he hE (A:=a.arcs.take k) (z:=z) (N:=nn) fun x hx=>harcs x (List.mem_of_mem_take hx)
  have hln:=zo7 a.ring (a.arcs.take k) v c nn
  rw [List.length_take] at hlv
  obtain ⟨a12,a34⟩:=hx1.2
  obtain ⟨f,ef,hf⟩:=toNat_lt a12
  obtain ⟨t,et,ht⟩:=toNat_lt a34
  generalize stL a.ring (a.arcs.take k) v c nn=out at *
  refine zae hk ?_
  try simp [go_sem]
  refine ⟨fun hc=>?_,fun hc=>?_⟩
  ·rw [if_pos hc] at hsu
   have hf2:f<v.length:=by omega
   have ht2:t<out.length:=by omega
   rw [ef,et,Int.toNat_natCast,Int.toNat_natCast,List.getD_eq_getElem?_getD,List.getD_eq_getElem?_getD,List.getElem?_eq_getElem hf2,List.getElem?_eq_getElem ht2,Option.getD_some,Option.getD_some] at hsu
   have q1:=hlv _ (List.getElem_mem ht2)
   have q2:=he _ (List.getElem_mem hf2)
   have ct:=zgl q2.1 hx1.1.1
   have s1:=M.timesS (v:=v[f]) (w:=a.arcs[k].w) (n:=M.lim) (Nat.le_refl _) q2.1 hx1.1.1 (M.mono q2.2 (by omega)) (M.mono hx1.1.2 (by omega))
   have s2:=M.plusS (v:=out[t]) (w:=a.ring.times v[f] a.arcs[k].w) (n:=M.lim) (Nat.le_refl _) q1.1 ct (M.mono q1.2 (by omega)) (M.mono (M.times q2.1 hx1.1.1 q2.2 hx1.1.2) (by omega))
   simp [go_sem,ef,et]
   refine ⟨⟨by omega,by omega⟩,zae ht2 (zae hf2 ?_)⟩
   refine zab s1 ?_
   simp [go_sem]
   refine zab s2 ?_
   simp [go_sem,e1]
   refine ⟨⟨by omega,by omega⟩,zae ht2 ?_⟩
   exact hn' (k+1) _ (Weak.to [1,2,3,7,8] [((3,0),3),((1,0),1)] (by simp [go_sem,mkSt,hsu])) (by omega) (by omega)
  ·rw [if_neg hc] at hsu
   simp [go_sem,e1]
   exact hn' (k+1) _ (Weak.to [1,2,3,7,8] [((3,0),3),((1,0),1)] (by simp [go_sem,mkSt,hsu])) (by omega) (by omega)
 ·have:k=a.arcs.length:=by omega
  subst this
  have hln:=zo7 a.ring a.arcs v c nn
  simp [go_sem]
  exact ⟨by omega,by rw [List.take_of_length_le (by omega)]⟩
end Go.Ab
namespace Go.Ab
open Enc (enc)
theorem yam {r:GRing} (M:Meas r) (hr:r.ok=true) {e z n:Nat} {v w:List GW} (hv:vb M e v) (hw:vb M z w) (lv:v.length=n) (lw:w.length=n) (hn:n<=1000000) (hlim:e+z+1+n<=M.lim) :
  Sp P F.jr [enc r,.sl (ens v),.sl (ens w)] (.pure (enc (sumW r v w))):=by
 refine Sp.vz c.jr fun _=>?_
 simp [g.jr,go_sem]
 refine zab (zha r) ?_
 simp [go_sem]
 refine zai (S:=fun k:Nat=>mkSt [(1,.p (.sl (ens v))),(2,.p (.sl (ens w))),(3,.ptr 3 0 0 0),(6,.ptr 6 0 0 0),(7,.ptr 7 0 0 0),(8,.p (.int .i64 k))]
   [(3,⟨2,[.p (enc r)]⟩),(6,⟨8,[.agg [.p (.bool false),.nil,.nil,.p (.int .i64 0),.p (.bool false),.p (.int .u64 0),.nil,.nil]]⟩),(7,⟨8,[.p (enc (sumN r v w k))]⟩)])
  (I:=fun k=>k<=n) (m:=fun k=>n - k) 0 (Weak.to [1,2,3,6,7,8] [((3,0),3),((6,0),6),((7,0),7)] (by simp [go_sem,sumN])) (by omega) ?_
 rintro k h1 R hn' hr' hx
 have e1:=i64s k (by omega)
 simp [g.qa,mkSt,go_sem]
 by_cases hk:k<n
 ·have hk1:k<v.length:=by omega
  have hk2:k<w.length:=by omega
  have k1:=hv _ (List.getElem_mem hk1)
  have k2:=hw _ (List.getElem_mem hk2)
  have k3:=zze (M:=M) hr hv hw k (by omega) (by omega)
  have ct:=zgl k1.1 k2.1
  have s1:=M.timesS (v:=v[k]) (w:=w[k]) (n:=M.lim) (Nat.le_refl _) k1.1 k2.1 (M.mono k1.2 (by omega)) (M.mono k2.2 (by omega))
  have s2:=M.plusS (v:=sumN r v w k) (w:=r.times v[k] w[k]) (n:=M.lim) (Nat.le_refl _) k3.1 ct (M.mono k3.2 (by omega)) (M.mono (M.times k1.1 k2.1 k1.2 k2.2) (by omega))
  have hsum:=zq9 (r:=r) hk1 hk2
  refine ⟨fun _=>⟨fun _=>zae hk1 (zae hk2 ?_),fun h=>absurd h (by omega)⟩,fun h=>absurd h (by omega)⟩
  refine zab s1 ?_
  simp [go_sem]
  refine zab s2 ?_
  simp [go_sem,e1]
  exact hn' (k+1) _ (Weak.to [1,2,3,6,7,8] [((3,0),3),((6,0),6),((7,0),7)] (by simp [go_sem,mkSt,hsum])) (by omega) (by omega)
 ·have:k=n:=by omega
  subst this
  have hall:sumN r v w k=sumW r v w:=z4i (by omega)
  refine ⟨fun h=>absurd h (by omega),fun _=>hx _ _ ?_⟩
  simp [go_sem,hall]
theorem z0p (a:GAuto) (n:Nat) (hn:n<=90) (hn1:3<=n) (h:a.sm n) (hl:a.arcs.length<=19) (ok:a.ok) (hpl:∀ x∈a.nf.arcs,x.l≠0):Sp P F.kb [enc a] (.pure (.bool true)):=by
 have k3:=zw6 a.ring a.arcs n hn hn1 hl fun x hx=>⟨h.arcs x hx,(ok.arcs x hx).2.2.2.2.2.2⟩
 rw [zol] at k3
 have hL:a.nf.arcs.length<=a.arcs.length:=ztd (key:=GArc.key) (wt:=GArc.w) (r:=a.ring) (up:=upA a.ring) (fun _ _=>rfl) a.arcs
 change Sp P F.dz _ (.pure (.sl (ens a.nf.arcs))) at k3
 generalize a.nf.arcs=A at *
 refine Sp.vz c.kb fun _=>?_
 simp [g.kb,go_sem]
 refine zab k3 ?_
 simp [go_sem]
 refine zai (S:=fun k:Nat=>mkSt [(3,.p (.sl (ens A))),(4,.p (.int .i64 k))] []) (I:=fun k=>k<=A.length) (m:=fun k=>A.length - k) 0 (Weak.to [3,4] [] (by simp [go_sem])) (by omega) ?_
 rintro k h1 R hn' hr' hx
 have e1:=i64s k (by omega)
 simp [g.rc,mkSt,go_sem]
 refine ⟨fun hk=>zae hk ?_,fun hk=>hx _ _ ?_⟩
 ·have:=hpl _ (List.getElem_mem hk)
  simp [go_sem,this,e1]
  exact hn' (k+1) _ (Weak.to [3,4] [] (by simp [go_sem,mkSt])) (by omega) (by omega)
 ·simp [go_sem]
theorem z3d (a:GAuto) (n:Nat) (hn:n<=90) (hn1:3<=n) (h:a.sm n) (hl:a.arcs.length<=19) (ok:a.ok) (hpl:∀ x∈a.nf.arcs,x.l≠0) (w:List Int) (hw:zho w a.sy):Sp P F.jy [enc a,.sl (ens w)] (.pure (.int .i64 0)):=by
 have h0:=ok.il
 have h1:=ok.fl
 have h2:=ok.st2
 have vx:=zyw w a.sy (by have:=hw.2.1; omega)
 have dx:decide ((1<=a.sy/\a.sy<=32)/\w.length<=256/\∀ x∈w,1<=x/\x<=a.sy)=true:=decide_eq_true hw
 rw [dx] at vx
 have v6:=zyv a (h.mono (by omega)) (by omega) (by omega)
 rw [GAuto.vb_iff.2 ok] at v6
 refine Sp.vz c.jy fun _=>?_
 simp [g.jy,go_sem]
 refine zab v6 ?_
 simp [go_sem]
 refine zab (z0p a n hn hn1 h hl ok hpl) ?_
 simp [go_sem]
 refine zab vx ?_
 simp [go_sem]
theorem zuf {r:GRing} (M:Meas r) {z:Nat} (a:GAuto) (ha:a.fits M z) (n:Nat) (hn:n<=90) (hn1:3<=n) (h:a.sm n) (hl:a.arcs.length<=19) (ok:a.ok) (hpl:∀ x∈a.nf.arcs,x.l≠0) (w:List Int) (hw:zho w a.sy) (hlim:z+(w.length+1)*(z+1+a.arcs.length)<=M.lim) :
  Sp P F.jq [enc a,.sl (ens w)] (.pure (.tup [.sl (ens (fwL a.ring a.arcs a.st.toNat a.ini w)),.int .i64 0])):=by
 have h0:=ok.il
 have h1:=ok.fl
 have h2:=ok.st2
 have hp:a.ring.parts.length<=1000000:=by
  by_cases h6:a.ring.kind=6
  ·have:=(GRing.ok_parts ok.ring h6).2.1; omega
  ·rw [(GRing.ok_kind ok.ring h6).2.2]; simp
 have f6:=z6g a n hn hn1 h hl hp (by omega) (by omega) ok.ini ok.fin fun x hx=>(ok.arcs x hx).2.2.2.2.2.2
 have hur:=ha.ring
 subst hur
 refine Sp.vz c.jq fun _=>?_
 simp [g.jq,go_sem]
 refine zab (z3d a n hn hn1 h hl ok hpl w hw) ?_
 simp [go_sem]
 refine zab f6 ?_
 simp [go_sem]
 refine zai (S:=fun k:Nat=>mkSt [(1,.p (.sl (ens w))),(2,.ptr 2 0 0 0),(7,.p (.sl (ens (fwL a.ring a.arcs a.st.toNat a.ini (w.take k))))),(8,.p (.int .i64 k))] [(2,⟨7,[.p (enc a)]⟩)])
  (I:=fun k=>k<=w.length) (m:=fun k=>w.length - k) 0 (Weak.to [1,2,7,8] [((2,0),2)] (by simp [go_sem,fwL,GAuto.nf])) (by omega) ?_
 rintro k h3 R hn' hr' hx
 have hw256:=hw.2.1
 have e1:=i64s k (by omega)
 simp [g.p9,mkSt,go_sem]
 refine ⟨fun hk=>zae hk ?_,fun hk=>hx _ _ ?_⟩
 ·have hsu:=z59 (r:=a.ring) (A:=a.arcs) (n:=a.st.toNat) hk a.ini
  have hv:=z2f M ha.rok (e:=z) ha.arcs (w.take k) z a.ini ha.ini.1 ha.ini.2
  have hmul:(w.take k).length*(z+1+a.arcs.length)<=w.length*(z+1+a.arcs.length):=Nat.mul_le_mul_right _ (by rw [List.length_take]; omega)
  rw [Nat.succ_mul] at hlim
  try simp [go_sem]
  refine zab (z4k M a ha hv.1 hv.2 (by omega) (by omega) w[k]) ?_
  simp [go_sem,e1]
  exact hn' (k+1) _ (Weak.to [1,2,7,8] [((2,0),2)] (by simp [go_sem,mkSt,hsu])) (by omega) (by omega)
 ·have:k=w.length:=by omega
  subst this
  simp [go_sem]
noncomputable def wgt8 (a:GAuto) (w:List Int):GW:=sumW a.ring (fwL a.ring a.arcs a.st.toNat a.ini w) a.fin
theorem zw8 {r:GRing} (M:Meas r) {z:Nat} (a:GAuto) (ha:a.fits M z) (n:Nat) (hn:n<=90) (hn1:3<=n) (h:a.sm n) (hl:a.arcs.length<=19) (ok:a.ok) (hpl:∀ x∈a.nf.arcs,x.l≠0) (w:List Int) (hw:zho w a.sy) (hlim:z+(w.length+1)*(z+1+a.arcs.length)+z+1+64<=M.lim) :
  Sp P F.jh [enc a,.sl (ens w)] (.pure (.tup [enc (wgt8 a w),.int .i64 0])):=by
 have h2:=ok.st2
 have hf:=zuf M a ha n hn hn1 h hl ok hpl w hw (by omega)
 have hur:=ha.ring
 subst hur
 have hv:=z2f M ha.rok (e:=z) ha.arcs w z a.ini ha.ini.1 ha.ini.2
 rw [Nat.succ_mul] at hlim
 have hd:=yam M ha.rok hv.1 ha.fin.1 hv.2 ha.fin.2 (by omega) (by omega)
 refine Sp.vz c.jh fun _=>?_
 simp [g.jh,go_sem]
 refine zab hf ?_
 simp [go_sem]
 refine zab hd ?_
 simp [go_sem,wgt8]
end Go.Ab
namespace Go.Ab
open Enc (enc)
def tw (w:GW) (B:Int):Prop:=∃ c i,w=.mk gr0 c i 0 [] []/\0<=c/\c<=B/\(i=true->c=0)
theorem zli {w:GW} {B C:Int} (h:tw w B) (k:B<=C):tw w C:=by obtain ⟨c,i,h1,h2,h3,h4⟩:=h; exact ⟨c,i,h1,h2,by omega,h4⟩
theorem zkq:(⟨2,[]⟩:GRing).ok=true:=by simp [GRing.ok]
theorem zgi {w:GW} {B:Int} (h:tw w B) (hB:B<=1099511627776):w.chk ⟨2,[]⟩:=by
 obtain ⟨c,i,rfl,h2,h3,h4⟩:=h
 refine ⟨zkq,fun _=>?_,fun h=>by simp at h⟩
 exact ⟨rfl,fun _ _=>rfl,fun h=>absurd rfl h,fun _=>rfl,fun _=>rfl,fun h=>by simp at h,fun _=>⟨h2,by show c<=_; omega,h4⟩,fun h=>by simp at h,fun h=>by simp at h⟩
theorem znb {w:GW} {B:Int} (h:tw w B):w.sm 3:=by
 obtain ⟨c,i,rfl,h2,h3,h4⟩:=h
 exact .mk (zgz 3) (by intro m hm; simp at hm) (by simp) (by simp) (by simp)
theorem zyp (L:List Int) (a:Nat):tw (wtT L a) 5:=by
 unfold wtT
 split
 ·exact ⟨0,true,rfl,by omega,by omega,fun _=>rfl⟩
 ·have:=zq5 L (tn L a) (show (1:Int)<=6 by omega)
  exact ⟨_,false,rfl,by omega,by omega,fun h=>by cases h⟩
theorem ybl:tw wkT.r.zero 5:=⟨0,true,by simp [WKd.r,wkT,GRing.zero,zkq],by omega,by omega,fun _=>rfl⟩
theorem z97 (p:GPlan) (s:Nat):tw (iE wkT p s) 5:=by
 unfold iE; split
 ·exact ybl
 ·exact zyp _ _
theorem yaa (p:GPlan) (N s:Nat):tw (fE wkT p N s) 5:=by
 unfold fE; split
 ·exact ybl
 ·exact zyp _ _
structure arcOk (N:Nat) (sy:Int) (x:GArc):Prop where
 f:0<=x.f/\x.f<(N:Int)
 t:0<=x.t/\x.t<(N:Int)
 l:1<=x.l/\x.l<=sy
 w:tw x.w 5
theorem yaw {L:List Int} {a N:Nat} {sy:Int} (hN:0<N) (hs:1<=sy):arcOk N sy (arcP wkT L a N sy):=by
 have h1:=zq5 L a (show (1:Int)<=N by omega)
 have h2:=zq5 L (tn L a) hs
 have h3:=zq5 L (tn L (tn L a)) (show (1:Int)<=N by omega)
 refine ⟨h1,h3,?_,zyp _ _⟩
 show 1<=1+tk L (tn L a) sy/\1+tk L (tn L a) sy<=sy
 omega
theorem yb4 {N:Nat} {sy:Int} {x:GArc} (fw:Bool) (h:arcOk N sy x):arcOk N sy (swA fw x):=by
 unfold swA; split
 ·exact ⟨h.t,h.f,h.l,h.w⟩
 ·exact h
def sgl (l:List GArc):Prop:=l.Pairwise fun x y=>¬ (x.f=y.f/\x.l=y.l)
theorem z5u {N:Nat} {sy:Int} {p:GPlan} (hp:p.sg=true) {arcs:List GArc} {x:GArc} (hx:arcOk N sy x) (h:∀ y∈arcs,arcOk N sy y) (hs:sgl arcs):(∀ y∈zp6 p arcs x,arcOk N sy y)/\sgl (zp6 p arcs x):=by
 unfold zp6
 split
 ·exact ⟨h,hs⟩
 ·split
  ·exact ⟨h,hs⟩
  ·rename_i h1 h2
   have h3:thB arcs (swA p.fw x) arcs.length=false:=by
    cases hb:thB arcs (swA p.fw x) arcs.length
    ·rfl
    ·exact absurd ⟨hp,hb⟩ h2
   unfold thB at h3
   rw [List.take_length,List.any_eq_false] at h3
   refine ⟨fun y hy=>?_,?_⟩
   ·rcases List.mem_append.1 hy with hy|hy
    ·exact h y hy
    ·rw [List.mem_singleton] at hy; subst hy; exact yb4 _ hx
   ·refine List.pairwise_append.2 ⟨hs,List.pairwise_singleton _ _,fun y hy z hz=>?_⟩
    rw [List.mem_singleton] at hz; subst hz
    have:=h3 y hy
    simpa using this
theorem ya0 {p:GPlan} (hp:p.sg=true) {N:Nat} {sy:Int} (hs:1<=sy) (at0:Nat):∀ i,(∀ y∈(a3 wkT p sy N at0 i).2,arcOk N sy y)/\sgl (a3 wkT p sy N at0 i).2
 | 0=>⟨fun y hy=>(by cases hy),List.Pairwise.nil⟩
 | i+1=>by
  have ih:=ya0 hp (N:=N) hs at0 i
  simp only [a3,zrb]
  split
  ·rename_i h; exact z5u hp (yaw h.2 hs) ih.1 ih.2
  ·exact ih
theorem zoa {α : Type} {n:Nat} {f:Nat -> α} {x : α} (h:x∈mp n f):∃ i,i<n/\x=f i:=by
 obtain ⟨i,hi,e⟩:=List.mem_map.1 h
 exact ⟨i,List.mem_range.1 hi,e.symm⟩
theorem z72 {a:GAuto} (ok:a.ok) (hs:sgl a.arcs):zqr a.nf.arcs:=by
 have hc:∀ x∈a.arcs,x.w.chk a.ring:=fun x hx=>(ok.arcs x hx).2.2.2.2.2.2
 have h1:=(zfb ok.ring hc).1
 have h2:∀ x∈a.nf.arcs,∃ y∈a.arcs,y.key=x.key:=fun x hx=>zte (key:=GArc.key) (wt:=GArc.w) (up:=upA a.ring) ok.ring (fun _ _=>rfl) (fun _ _=>rfl) hc hx
 rw [<- zlk] at h1
 change SSrt GArc.key a.nf.arcs at h1
 intro k ⟨hk,h0,e1,e2⟩
 have hlt:=List.pairwise_iff_getElem.1 h1 (k - 1) k (by omega) hk (by omega)
 obtain ⟨y,hy,ey⟩:=h2 _ (List.getElem_mem hk)
 obtain ⟨z,hz,ez⟩:=h2 _ (List.getElem_mem (show k - 1<a.nf.arcs.length by omega))
 have hyz:y≠z:=fun e=>by
  subst e
  rw [<- ey,<- ez] at hlt
  exact List.lt_irrefl _ hlt
 simp only [GArc.key,List.cons.injEq,and_true] at ey ez
 have hne:¬ (y.f=z.f/\y.l=z.l):=by
  obtain ⟨i,hi,rfl⟩:=List.mem_iff_getElem.1 hy
  obtain ⟨j,hj,rfl⟩:=List.mem_iff_getElem.1 hz
  rcases Nat.lt_trichotomy i j with h|h|h
  ·exact List.pairwise_iff_getElem.1 hs i j hi hj h
  ·subst h; exact absurd rfl hyz
  ·have:=List.pairwise_iff_getElem.1 hs j i hj hi h
   exact fun ⟨q1,q2⟩=>this ⟨q1.symm,q2.symm⟩
 exact hne ⟨by rw [ey.1,ez.1,e1],by rw [ey.2.1,ez.2.1,e2]⟩
theorem zlb {a:GAuto} (h:∀ i,(hi:i<a.ini.length)->0<i->a.ini[i]=a.ring.zero):∀ k,begC a k<=1
 | 0=>by simp [begC]
 | k+1=>by
  by_cases hk:k<a.ini.length
  ·rw [zm7 a hk]
   cases k with
   | zero=>simp [begC]; split<;>omega
   | succ k =>
    rw [if_neg (by rw [h (k+1) hk (by omega)]; simp)]
    exact zlb h (k+1)
  ·have:begC a (k+1)=begC a k:=by unfold begC; rw [List.take_of_length_le (by omega),List.take_of_length_le (by omega)]
   rw [this]; exact zlb h k
theorem z1l {p:GPlan} (hp:p.sg=true):DetA (zs6 wkT p 4) 3:=by
 have hsr:=zcs p.sy (show (1:Int)<=3 by omega)
 have hnr:=zcs p.st (show (1:Int)<=4+1 by omega)
 have hN:autN p 4<=4:=by unfold autN; omega
 have hS:1<=autS p/\autS p<=3:=by unfold autS; omega
 have hP:zs6 wkT p 4=⟨⟨2,[]⟩,autS p,autN p 4,mp (autN p 4) (iE wkT p),mp (autN p 4) (fE wkT p (autN p 4)),(a3 wkT p (autS p) (autN p 4) (pA wkT p.L (autN p 4)) 14).2⟩:=rfl
 obtain ⟨A1,A2⟩:=ya0 hp (N:=autN p 4) hS.1 (pA wkT p.L (autN p 4)) 14
 have hal:=zw7 wkT p (autS p) (autN p 4) (pA wkT p.L (autN p 4)) 14
 generalize (a3 wkT p (autS p) (autN p 4) (pA wkT p.L (autN p 4)) 14).2=arcs at *
 generalize autN p 4=N at *
 generalize autS p=sy at *
 rw [hP]
 have ok:GAuto.ok ⟨⟨2,[]⟩,sy,N,mp N (iE wkT p),mp N (fE wkT p N),arcs⟩:=by
  refine ⟨zkq,hS.1,by show sy<=32; omega,by show (0:Int)<=N; omega,by show (N:Int)<=64; omega,by simp [zdm],by simp [zdm],by show arcs.length<=2048; omega,fun x hx=>?_,fun w hw=>?_,fun w hw=>?_⟩
  ·have h:=A1 x hx
   exact ⟨h.f.1,h.f.2,h.t.1,h.t.2,by have:=h.l.1; omega,h.l.2,zgi h.w (by omega)⟩
  ·obtain ⟨i,_,rfl⟩:=zoa hw; exact zgi (z97 p i) (by omega)
  ·obtain ⟨i,_,rfl⟩:=zoa hw; exact zgi (yaa p N i) (by omega)
 refine ⟨by omega,by omega,⟨fun w hw=>?_,fun w hw=>?_,fun x hx=>znb (A1 x hx).w⟩,by show arcs.length<=19; omega,ok,fun x hx=>?_,z72 ok A2,zlb (fun i hi h0=>?_) _⟩
 ·obtain ⟨i,_,rfl⟩:=zoa hw; exact znb (z97 p i)
 ·obtain ⟨i,_,rfl⟩:=zoa hw; exact znb (yaa p N i)
 ·obtain ⟨y,hy,ey⟩:=zte (key:=GArc.key) (wt:=GArc.w) (up:=upA ⟨2,[]⟩) zkq (fun _ _=>rfl) (fun _ _=>rfl) (fun x hx=>(ok.arcs x hx).2.2.2.2.2.2) hx
  have h:=(A1 y hy).l
  simp only [GArc.key,List.cons.injEq,and_true] at ey
  omega
 ·have hi2:i<(mp N (iE wkT p)).length:=hi
  show (mp N (iE wkT p))[i]'hi2=GRing.zero ⟨2,[]⟩
  rw [zl4 _ hi2]
  unfold iE; rw [if_pos ⟨.inr hp,h0⟩]; rfl
end Go.Ab
namespace Go.Ab
open Enc (enc)
attribute [local go_sem] zam Opd.slots
theorem zy2 {v w:GW} {B:Int} (hv:tw v B) (hw:tw w B):tw (GRing.plus ⟨2,[]⟩ v w) B:=by
 have e:GRing.plus ⟨2,[]⟩ v w=if v.inf=true\/(w.inf=false/\w.cost<v.cost) then w else v:=by simp [GRing.plus,zau]
 rw [e]; split
 ·exact hw
 ·exact hv
theorem zu6 {v w:GW} {B C:Int} (hv:tw v B) (hw:tw w C) (hB:0<=B+C):tw (GRing.times ⟨2,[]⟩ v w) (B+C):=by
 have e:GRing.times ⟨2,[]⟩ v w=if v.inf=true\/w.inf=true\/1099511627776<v.cost+w.cost then .mk gr0 0 true 0 [] [] else .mk gr0 (v.cost+w.cost) false 0 [] []:=by simp [GRing.times,zbv]
 rw [e]
 obtain ⟨c,i,rfl,h2,h3,h4⟩:=hv
 obtain ⟨d,j,rfl,k2,k3,k4⟩:=hw
 split
 ·exact ⟨0,true,rfl,by omega,hB,fun _=>rfl⟩
 ·exact ⟨c+d,false,rfl,by omega,by omega,fun h=>by cases h⟩
theorem zy1:tw (GRing.zero ⟨2,[]⟩) 0:=⟨0,true,by simp [GRing.zero,zkq],by omega,by omega,fun _=>rfl⟩
def mT:Meas ⟨2,[]⟩ where
 mb n w:=tw w (n:Int)
 lim:=1000000
 mono h k:=zli h (by omega)
 zero:=zy1
 plus cv cw hv hw:=zli (zy2 hv hw) (by omega)
 times cv cw hv hw:=zli (zu6 hv hw (by omega)) (by omega)
 plusS:=fun {v w n} hn cv cw hv hw=>zvo _ v w 3 (znb hv) (znb hw) (by omega) (by omega) cv cw
 timesS:=fun {v w n} hn cv cw hv hw=>zy7 _ v w 3 (znb hv) (znb hw) (by omega) (by omega) cv cw
structure MdlA (a:GAuto):Prop where
 det:DetA a 3
 ring:a.ring=⟨2,[]⟩
 sy:1<=a.sy/\a.sy<=3
 st:0<=a.st/\a.st<=4
 arcs:∀ x∈a.arcs,tw x.w 5
 ini:∀ w∈a.ini,tw w 5
 fin:∀ w∈a.fin,tw w 5
theorem z1k {p:GPlan} (hp:p.sg=true):MdlA (zs6 wkT p 4):=by
 have hsr:=zcs p.sy (show (1:Int)<=3 by omega)
 have hnr:=zcs p.st (show (1:Int)<=4+1 by omega)
 have hN:autN p 4<=4:=by unfold autN; omega
 have hS:1<=autS p/\autS p<=3:=by unfold autS; omega
 obtain ⟨A1,A2⟩:=ya0 hp (N:=autN p 4) hS.1 (pA wkT p.L (autN p 4)) 14
 refine ⟨z1l hp,rfl,hS,⟨by show (0:Int)<=(autN p 4:Int); omega,by show ((autN p 4:Nat):Int)<=4; omega⟩,fun x hx=>(A1 x hx).w,fun w hw=>?_,fun w hw=>?_⟩
 ·obtain ⟨i,_,rfl⟩:=zoa hw; exact z97 p i
 ·obtain ⟨i,_,rfl⟩:=zoa hw; exact yaa p _ i
theorem MdlA.fits {a:GAuto} (h:MdlA a):a.fits mT 5:=by
 have ok:=h.det.ok
 have hst:=h.st
 refine ⟨h.ring,⟨by omega,by omega⟩,fun x hx=>⟨⟨zgi (h.arcs x hx) (by omega),h.arcs x hx⟩,?_⟩,⟨fun w hw=>⟨zgi (h.ini w hw) (by omega),h.ini w hw⟩,by have:=ok.il; omega⟩,⟨fun w hw=>⟨zgi (h.fin w hw) (by omega),h.fin w hw⟩,by have:=ok.fl; omega⟩,zkq⟩
 have hx':=ok.arcs x hx
 have h1:=hx'.2.1
 have h2:=hx'.2.2.2.1
 exact ⟨⟨hx'.1,by omega⟩,hx'.2.2.1,by omega⟩
theorem zow {a:GAuto} (h:MdlA a) (w:List Int) (hw:zho w a.sy):Sp P F.fg [enc a,.sl (ens w)] (.pure (.bool (!(wgt8 a w).inf))):=by
 have hl:=hw.2.1
 have hal:=h.det.al
 have hlim:5+(w.length+1)*(5+1+a.arcs.length)+5+1+64<=mT.lim:=by
  have:(w.length+1)*(5+1+a.arcs.length)<=257*25:=Nat.mul_le_mul (by omega) (by omega)
  show _<=1000000
  omega
 have hs:=zw8 mT a h.fits 3 (by omega) (by omega) h.det.sm hal h.det.ok h.det.eps w hw hlim
 refine Sp.vz c.fg fun _=>?_
 simp [g.fg,go_sem]
 refine zab hs ?_
 simp [go_sem]
theorem zxs (p:GPlan):Sp P F.i9 [enc p] (.pure (enc (zs6 wkT { p with sg:=true } 4))):=by
 have hs:=z69 z3z { p with sg:=true } 4 (by omega) (by omega)
 refine Sp.vz c.i9 fun _=>?_
 simp [g.i9,go_sem]
 refine zaa hs (by simp [go_sem,wkT]) ?_
 simp [go_sem]
theorem zrf (a b:List Int) (ha:a.length<=1000000):Sp P F.da [.sl (ens a),.sl (ens b)] (.pure (.bool (decide (a=b)))):=by
 refine Sp.vz c.da fun _=>?_
 by_cases hl:a.length=b.length
 ·simp [g.da,go_sem,hl]
  refine zai (S:=fun k:Nat=>mkSt [(0,.p (.sl (ens a))),(1,.p (.sl (ens b))),(5,.p (.int .i64 k))] []) (I:=fun k=>k<=a.length/\a.take k=b.take k) (m:=fun k=>a.length - k) 0
   (Weak.to [0,1,5] [] (by simp [go_sem,mkSt])) ⟨by omega,by simp⟩ ?_
  rintro k ⟨hk,he⟩ R hn hr hx
  have e1:=i64s k (by omega)
  by_cases hlt:k<a.length
  ·have hlt2:k<b.length:=by omega
   simp [g.od,mkSt,go_sem,hlt,hl ▸ hlt]
   refine zae hlt ?_
   refine zae hlt2 ?_
   by_cases hc:a[k]=b[k]
   ·simp [go_sem,hc,e1]
    refine hn (k+1) _ (Weak.to [0,1,5] [] (by simp [go_sem,mkSt])) ⟨by omega,?_⟩ (by omega)
    rw [List.take_succ_eq_append_getElem hlt,List.take_succ_eq_append_getElem hlt2,he,hc]
   ·have hne:¬ a=b:=fun h=>by subst h; exact hc rfl
    simp [go_sem,hc]
    refine hr _ ?_
    simp [go_sem,hne]
  ·have:k=a.length:=by omega
   subst this
   have hab:a=b:=by rw [List.take_length,hl,List.take_length] at he; exact he
   simp [g.od,mkSt,go_sem,hl]
   refine hx _ _ ?_
   simp [go_sem,hab]
 ·have hne:¬ a=b:=fun h=>hl (by rw [h])
  have hl2:¬ (a.length:Int)=(b.length:Int):=by omega
  simp [g.da,go_sem,hl,hne]
  intro h
  exact absurd h hl2
end Go.Ab
namespace Go.Ab
open Enc (enc)
attribute [local go_sem] zam Opd.slots
theorem zqx (n:Nat) (hn:n<=9223372036854775807):Sp P F.ff [.int .i64 n] (.pure (enc (natR n))):=by
 have h:=zv8 (n:Int) 1 (by omega) (by omega)
 have e:rto (Rat.divInt (n:Int) 1)=natR n:=by
  rw [<- zji]; congr 1
  have:=Rat.divInt_ofNat (n:Int) 1
  rw [show ((1:Nat):Int)=1 from rfl] at this
  rw [this]; simp [Rat.mkRat_one]; rfl
 simp only [show ¬ ((1:Int)=0) by omega,if_false,e] at h
 refine Sp.vz c.ff fun _=>?_
 simp [g.ff,go_sem]
 refine zab h ?_
 simp [go_sem]
def kArc (l:Int):GArc:=⟨0,l,0,gw0⟩
def kA:GAuto:=⟨⟨2,[]⟩,2,1,[gw0],[gw0],[kArc 1,kArc 2]⟩
theorem zmn:tw gw0 5:=⟨0,false,rfl,by omega,by omega,fun h=>by cases h⟩
theorem z2c:¬ gw0=GRing.zero ⟨2,[]⟩:=by
 intro h
 have:gw0.inf=(GRing.zero ⟨2,[]⟩).inf:=by rw [<- h]
 simp [GRing.zero,zkq,gw0] at this
 exact Bool.false_ne_true this
theorem z92:kA.ok:=by
 refine ⟨zkq,by decide,by decide,by decide,by decide,rfl,rfl,by decide,fun x hx=>?_,fun w hw=>?_,fun w hw=>?_⟩
 ·have:x=kArc 1\/x=kArc 2:=by simpa [kA] using hx
  rcases this with rfl|rfl
  ·exact ⟨by decide,by decide,by decide,by decide,by decide,by decide,zgi zmn (by omega)⟩
  ·exact ⟨by decide,by decide,by decide,by decide,by decide,by decide,zgi zmn (by omega)⟩
 ·have:w=gw0:=by simpa [kA] using hw
  subst this; exact zgi zmn (by omega)
 ·have:w=gw0:=by simpa [kA] using hw
  subst this; exact zgi zmn (by omega)
theorem z9r {a:GAuto} (ok:a.ok) (hs:SSrt GArc.key a.arcs) (hn:∀ x∈a.arcs,x.w≠a.ring.zero):a.nf=a:=by
 have hc:∀ x∈a.arcs,x.w.chk a.ring:=fun x hx=>(ok.arcs x hx).2.2.2.2.2.2
 obtain ⟨b1,b2,b3⟩:=zfb ok.ring hc
 have e:tidA a.ring a.arcs=a.arcs:=by
  rw [zlk]
  exact z6e (key:=GArc.key) (wt:=GArc.w) (r:=a.ring) (fun x y h h'=>yav.2 ⟨h,h'⟩) b1 hs (fun x hx=>(b2 x hx).1) hc (fun x hx=>(b2 x hx).2) hn fun k=>by unfold atK; rw [b3]
 cases a
 simp only [GAuto.nf] at e ⊢
 rw [e]
theorem z15:kA.nf=kA:=by
 refine z9r z92 ?_ fun x hx=>?_
 ·show List.Pairwise _ [kArc 1,kArc 2]
  simp only [List.pairwise_cons,List.mem_singleton,forall_eq,List.not_mem_nil,false_imp_iff,implies_true,List.Pairwise.nil,and_true]
  decide
 ·have:x=kArc 1\/x=kArc 2:=by simpa [kA] using hx
  rcases this with rfl|rfl<;>exact z2c
theorem zt7:zaj kA.arcs 0=kA.arcs:=by simp [zaj,kA,kArc]
theorem z7r:DetA kA 3:=by
 refine ⟨by omega,by omega,⟨fun w hw=>?_,fun w hw=>?_,fun x hx=>?_⟩,by decide,z92,fun x hx=>?_,?_,?_⟩
 ·have:w=gw0:=by simpa [kA] using hw
  subst this; exact znb zmn
 ·have:w=gw0:=by simpa [kA] using hw
  subst this; exact znb zmn
 ·have:x=kArc 1\/x=kArc 2:=by simpa [kA] using hx
  rcases this with rfl|rfl<;>exact znb zmn
 ·rw [z15] at hx
  have:x=kArc 1\/x=kArc 2:=by simpa [kA] using hx
  rcases this with rfl|rfl<;>decide
 ·refine z72 z92 ?_
  show List.Pairwise _ [kArc 1,kArc 2]
  simp [kArc]
 ·rw [z15]
  refine zlb (fun i hi h0=>?_) _
  have:i<1:=hi
  omega
theorem yc2:stN kA=0:=by
 unfold stN
 rw [z15]
 show stA kA 1=0
 simp only [stA]
 rw [if_pos]
 ·rfl
 ·exact z2c
theorem z93:∀ n,cnA kA n 0=2^n
 | 0=>by
  simp only [cnA,cn]
  rw [if_neg (show ¬ kA.fin.getD 0 kA.ring.zero=kA.ring.zero from z2c)]
 | n+1=>by
  have ih:=z93 n
  simp only [cnA,cn] at ih ⊢
  rw [show zaj kA.arcs 0=[kArc 1,kArc 2] from zt7]
  simp only [kArc,List.map_cons,List.map_nil,List.sum_cons,List.sum_nil,Int.toNat_zero,ih,Nat.pow_succ]
  omega
theorem kA_w (n:Nat):wcn kA 0 n=2^n:=by
 unfold wcn; rw [if_neg (by omega)]; exact z93 n
theorem yf9:bN kA 0 4=15:=by simp only [bN,kA_w]
theorem z7q (n:Nat):sumJ kA n 0 0=0/\sumJ kA n 0 1=2^n/\sumJ kA n 0 2=2^n+2^n:=by
 unfold sumJ
 rw [show zaj kA.arcs 0=[kArc 1,kArc 2] from zt7]
 simp [kArc,z93]
theorem yf8:urR kA 0 4=([1,2],true):=by
 have h1:nU kA 0 4=2:=zh5 (zh9 kA 0) (by omega) (by simp only [bN,kA_w]; omega) (by simp only [bN,kA_w]; omega)
 have hf:zaj kA.arcs 0=[kArc 1,kArc 2]:=zt7
 have s1:=z7q 1
 have s0:=z7q 0
 have h2:urW kA 2 0 1=[1,2]:=by
  have e1:=zig (A:=kA) (L:=1) (q:=0) (k:=1) (j:=0) (by rw [hf]; decide) (by rw [s1.1]; omega) (by rw [s1.2.1]; omega)
  have e2:=zig (A:=kA) (L:=0) (q:=0) (k:=1) (j:=1) (by rw [hf]; decide) (by rw [s0.2.1]; omega) (by rw [s0.2.2]; omega)
  rw [show (2:Nat)=1+1 from rfl,e1]
  simp only [hf,s1.1]
  show (1:Int)::urW kA 1 0 1=_
  rw [show (1:Nat)=0+1 from rfl,e2]
  simp only [hf]
  show (1:Int)::(2:Int)::urW kA 0 0 _=_
  rfl
 unfold urR
 rw [h1,if_pos (by omega)]
 have h3:bN kA 0 2=3:=by simp only [bN,kA_w]
 rw [h3]
 show (urW kA 2 0 1,true)=_
 rw [h2]
theorem yap (a b:Nat) (ha:a<4294967296^1048576) (hb:b<4294967296^1048576):Sp P F.c9 [enc (natR a),enc (natR b)] (.pure (.int .i64 (if a<b then -1 else if b<a then 1 else 0))):=by
 have h:=zm1 (natR a) (natR b) (zjr ha) (zjr hb)
 rw [zk3] at h; exact h
theorem zo9 {n:Nat} (h:n<4294967296):n<4294967296^1048576:=Nat.lt_of_lt_of_le h (Nat.le_trans (Nat.le_of_eq (Nat.pow_one _).symm) (z80 4294967296 1 1048576 (by omega) (by omega)))
theorem zxv:Sp P F.ja [] (.pure (.bool true)):=by
 have h1:=zsq z7r (n:=3) (by omega)
 rw [z15,yc2,yf9] at h1
 have h2:=znn z7r (k:=4) (zo9 (by omega))
 rw [z15,yc2,yf8] at h2
 have h3:=zqx 4 (by omega)
 have h4:=zqx 15 (by omega)
 have h5:=yap 15 15 (zo9 (by omega)) (zo9 (by omega))
 have h6:=zrf [1,2] [1,2] (by simp)
 refine Sp.of_mr c.td (by simp) ?_
 unfold g.td
 generalize hR:(fun (ex:Exit) (st:St) (_:Option FA)=>retP [(0,none)] (RV.pure (.bool true)) ex st)=R
 refine MR.gseq ?_
 simp [go_sem]
 refine MR.gseq ?_
 simp [go_sem]
 refine MR.weak (st1:=mkSt [(1,.ptr 1 0 0 0)] [(1,⟨7,[.p (enc kA)]⟩)]) ((Weak.freezeTo (s:=1) (g:=0) (n:=3) [enc kA] [(9,0),(11,0),(14,0)] rfl (by simp [go_sem,kA,kArc,gw0,gr0,ens]) (by simp [go_sem]) (by simp)).trans (Weak.to [1] [((1,0),1)] (by simp [go_sem,mkSt,killAll,St.setObj]))) ?_
 generalize kA=A at *
 refine MR.of_vm ?_
 simp [go_sem,mkSt]
 refine zab h1 ?_
 simp [go_sem]
 refine zab h3 ?_
 simp [go_sem]
 refine zab h2 ?_
 simp [go_sem]
 refine zab h4 ?_
 simp [go_sem]
 refine zab h5 ?_
 simp [go_sem]
 refine zaa h6 (by simp [go_sem,ens]) ?_
 simp [go_sem]
 subst hR
 simp [go_sem]
end Go.Ab
namespace Go.Ab
def labI (A:GAuto):Prop:=∀ q,(zaj A.arcs q).Pairwise fun x y=>x.l<y.l
noncomputable def rkR (A:GAuto):Int->List Int->Nat × Int
 | q,[]=>(0,q)
 | q,c::w=>if q<0 then (0,q) else (lowS A q.toNat c w.length (zaj A.arcs q.toNat).length+(rkR A (nxtJ A q.toNat c (zaj A.arcs q.toNat).length) w).1,(rkR A (nxtJ A q.toNat c (zaj A.arcs q.toNat).length) w).2)
theorem zc7 (A:GAuto) {q:Int} (h:q<0):∀ w,rkR A q w=(0,q)
 | []=>rfl
 | c::w=>by simp only [rkR]; rw [if_pos h]
theorem zz7 (A:GAuto) (w:List Int) (base:Nat) (s:Int):∀ i,i<=w.length->(rkI A w base s i).1+(rkR A (rkI A w base s i).2 (w.drop i)).1=base+(rkR A s w).1/\(rkR A (rkI A w base s i).2 (w.drop i)).2=(rkR A s w).2
 | 0,_=>by simp [rkI]
 | i+1,hi=>by
  obtain ⟨h1,h2⟩:=zz7 A w base s i (by omega)
  have hd:w.drop i=w[i]::w.drop (i+1):=List.drop_eq_getElem_cons (by omega)
  have hg:w.getD i 0=w[i]:=by rw [List.getD_eq_getElem?_getD,List.getElem?_eq_getElem (by omega)]; rfl
  have hl:(w.drop (i+1)).length=w.length - 1 - i:=by rw [List.length_drop]; omega
  simp only [rkI]
  by_cases hn:(rkI A w base s i).2<0
  ·rw [if_pos hn,zc7 A hn]
   rw [zc7 A hn] at h1 h2
   exact ⟨h1,h2⟩
  ·rw [if_neg hn]
   rw [hd] at h1 h2
   simp only [rkR] at h1 h2
   rw [if_neg hn] at h1 h2
   simp only [hl] at h1 h2
   simp only [hg]
   exact ⟨by omega,h2⟩
theorem ziq (A:GAuto) (s:Int) (w:List Int):rkA A s w=(bN A s w.length+(rkR A s w).1,(rkR A s w).2):=by
 obtain ⟨h1,h2⟩:=zz7 A w (bN A s w.length) s w.length (Nat.le_refl _)
 rw [List.drop_length] at h1 h2
 simp only [rkR,Nat.add_zero] at h1 h2
 exact Prod.ext h1 h2
theorem zp3 {A:GAuto} (hL:labI A) {q i j:Nat} (hi:i<(zaj A.arcs q).length) (hj:j<(zaj A.arcs q).length) (h:i<j):(zaj A.arcs q)[i].l<(zaj A.arcs q)[j].l:=List.pairwise_iff_getElem.1 (hL q) i j hi hj h
theorem z7p {A:GAuto} (hL:labI A) {q j:Nat} (hj:j<(zaj A.arcs q).length) (L:Nat):∀ i,i<=(zaj A.arcs q).length->lowS A q (zaj A.arcs q)[j].l L i=sumJ A L q (min i j)/\nxtJ A q (zaj A.arcs q)[j].l i=if j<i then (zaj A.arcs q)[j].t else -1
 | 0,_=>by simp [lowS,nxtJ,sumJ]
 | i+1,hi=>by
  obtain ⟨h1,h2⟩:=z7p hL hj L i (by omega)
  have hil:i<(zaj A.arcs q).length:=by omega
  rw [zej A q _ L hil,zff A q _ hil,h1,h2]
  rcases Nat.lt_trichotomy i j with h|h|h
  ·have:=zp3 hL hil hj h
   rw [if_pos this,if_neg (by omega),if_neg (by omega),if_neg (by omega),show min i j=i by omega,show min (i+1) j=i+1 by omega,zcu A L q hil]
   exact ⟨rfl,rfl⟩
  ·subst h
   rw [if_neg (by omega),if_pos rfl,if_pos (by omega),show min i i=i by omega,show min (i+1) i=i by omega]
   exact ⟨by omega,rfl⟩
  ·have:=zp3 hL hj hil h
   rw [if_neg (by omega),if_neg (by omega),if_pos h,if_pos (by omega),show min i j=j by omega,show min (i+1) j=j by omega]
   exact ⟨by omega,rfl⟩
theorem ziz {A:GAuto} (hL:labI A) {q j:Nat} (hj:j<(zaj A.arcs q).length) (L:Nat):lowS A q (zaj A.arcs q)[j].l L (zaj A.arcs q).length=sumJ A L q j/\nxtJ A q (zaj A.arcs q)[j].l (zaj A.arcs q).length=(zaj A.arcs q)[j].t:=by
 obtain ⟨h1,h2⟩:=z7p hL hj L _ (Nat.le_refl _)
 rw [h1,h2,if_pos hj,show min (zaj A.arcs q).length j=j by omega]
 exact ⟨rfl,rfl⟩
theorem zk2 {A:GAuto} {q:Nat} {c:Int}:∀ i,i<=(zaj A.arcs q).length->0<=nxtJ A q c i->∃ j,∃ h:j<(zaj A.arcs q).length,(zaj A.arcs q)[j].l=c
 | 0,_,h=>by simp [nxtJ] at h
 | i+1,hi,h=>by
  rw [zff A q c (show i<_ by omega)] at h
  by_cases hc:(zaj A.arcs q)[i].l=c
  ·exact ⟨i,by omega,hc⟩
  ·rw [if_neg hc] at h
   exact zk2 i (by omega) h
theorem zhj (A:GAuto) {q:Int} (h:q<0):endB A q=false:=by unfold endB; rw [if_pos h]
theorem zus {A:GAuto} {q:Nat}:cnA A 0 q=if endB A (q:Int)=true then 1 else 0:=by
 have e:endB A (q:Int)=decide (A.fin.getD q A.ring.zero≠A.ring.zero):=by unfold endB; rw [if_neg (show ¬ ((q:Int)<0) by omega),Int.toNat_natCast]
 rw [e]
 simp only [cnA,cn]
 by_cases h:A.fin.getD q A.ring.zero=A.ring.zero
 ·rw [if_pos h,if_neg (by simpa using h)]
 ·rw [if_neg h,if_pos (by simpa using h)]
theorem z8h (A:GAuto) (L q:Nat) {j:Nat} (hj:j<(zaj A.arcs q).length):sumJ A L q (j+1)<=cnA A (L+1) q:=by
 rw [<- zij]; exact zix (zra A L q) hj
theorem zy0 {A:GAuto} {N:Nat} (hA:CtrOk A N) (hL:labI A):∀ (w:List Int) (q:Nat),endB A (rkR A q w).2=true->(rkR A q w).1<cnA A w.length q/\urW A w.length q (rkR A q w).1=w
 | [],q,h=>by
  simp only [rkR] at h ⊢
  rw [List.length_nil,zus,if_pos h]
  exact ⟨by omega,rfl⟩
 | c::w,q,h=>by
  have hq:¬ ((q:Int)<0):=by omega
  simp only [rkR] at h ⊢
  rw [if_neg hq] at h ⊢
  rw [Int.toNat_natCast] at h ⊢
  simp only at h ⊢
  have hn:0<=nxtJ A q c (zaj A.arcs q).length:=by
   by_cases hh:nxtJ A q c (zaj A.arcs q).length<0
   ·rw [zc7 A hh] at h
    simp only [zhj A hh] at h
    cases h
   ·omega
  obtain ⟨j,hj,rfl⟩:=zk2 _ (Nat.le_refl _) hn
  obtain ⟨l1,l2⟩:=ziz hL hj w.length
  rw [l2] at h hn ⊢
  rw [l1]
  obtain ⟨tt,htt⟩:∃ tt:Nat,(zaj A.arcs q)[j].t=(tt:Int):=⟨(zaj A.arcs q)[j].t.toNat,by omega⟩
  have hsj:=zcu A w.length q hj
  have hall:=z8h A w.length q hj
  rw [htt] at h ⊢
  obtain ⟨i1,i2⟩:=zy0 hA hL w tt h
  rw [htt,Int.toNat_natCast] at hsj
  refine ⟨by rw [List.length_cons]; omega,?_⟩
  have hst:=zig (A:=A) (L:=w.length) (q:=q) (k:=sumJ A w.length q j+(rkR A tt w).1) hj (by omega) (by omega)
  rw [List.length_cons,hst,htt,Int.toNat_natCast,show sumJ A w.length q j+(rkR A tt w).1 - sumJ A w.length q j=(rkR A tt w).1 by omega,i2]
theorem zts {f:Nat->Nat} {k:Nat} (h0:f 0=0):∀ n,k<f n->∃ j,j<n/\f j<=k/\k<f (j+1)
 | 0,h=>by omega
 | n+1,h=>by
  by_cases hh:k<f n
  ·obtain ⟨j,h1,h2⟩:=zts h0 n hh
   exact ⟨j,by omega,h2⟩
  ·exact ⟨n,by omega,by omega,h⟩
theorem yca {A:GAuto} {N:Nat} (hA:CtrOk A N) (hL:labI A):∀ (L q k:Nat),k<cnA A L q->(urW A L q k).length=L/\(rkR A q (urW A L q k)).1=k/\endB A (rkR A q (urW A L q k)).2=true
 | 0,q,k,h=>by
  rw [zus] at h
  by_cases he:endB A (q:Int)=true
  ·rw [if_pos he] at h
   simp only [urW,rkR]
   exact ⟨rfl,by omega,he⟩
  ·rw [if_neg he] at h; omega
 | L+1,q,k,h=>by
  rw [<- zij] at h
  obtain ⟨j,hj,h1,h2⟩:=zts (f:=sumJ A L q) (by simp [sumJ]) _ h
  have hmem:(zaj A.arcs q)[j]∈A.arcs:=(List.mem_filter.1 (List.getElem_mem hj)).1
  obtain ⟨t0,t1⟩:=hA.t _ hmem
  obtain ⟨tt,htt⟩:∃ tt:Nat,(zaj A.arcs q)[j].t=(tt:Int):=⟨(zaj A.arcs q)[j].t.toNat,by omega⟩
  have hsj:=zcu A L q hj
  rw [htt,Int.toNat_natCast] at hsj
  rw [zig hj h1 h2,htt,Int.toNat_natCast]
  obtain ⟨i1,i2,i3⟩:=yca hA hL L tt (k - sumJ A L q j) (by omega)
  have hq:¬ ((q:Int)<0):=by omega
  simp only [rkR]
  rw [if_neg hq,Int.toNat_natCast]
  simp only [i1]
  obtain ⟨l1,l2⟩:=ziz hL hj L
  rw [l1,l2,htt]
  exact ⟨by rw [List.length_cons,i1],by omega,i3⟩
end Go.Ab
namespace Go.Ab
def lt2 (x y:GArc):Prop:=x.f<y.f\/(x.f=y.f/\x.l<y.l)
theorem z1z {x y:GArc} (h:x.key<y.key) (hn:¬ (x.f=y.f/\x.l=y.l)):lt2 x y:=by
 unfold GArc.key at h
 rw [List.cons_lt_cons_iff,List.cons_lt_cons_iff] at h
 unfold lt2; omega
theorem z3r {l:List GArc} (hs:SSrt GArc.key l) (ha:zqr l):∀ (d i:Nat),(h:i+d+1<l.length)->lt2 (l[i]'(by omega)) l[i+d+1]
 | 0,i,h=>by
  have h1:=List.pairwise_iff_getElem.1 hs i (i+1) (by omega) h (by omega)
  refine z1z h1 fun ⟨e1,e2⟩=>ha (i+1) ⟨h,by omega,?_,?_⟩
  ·exact e1.symm
  ·exact e2.symm
 | d+1,i,h=>by
  have h1:=z3r hs ha d i (by omega)
  have h2:=List.pairwise_iff_getElem.1 hs (i+d+1) (i+d+1+1) (by omega) h (by omega)
  have h3:lt2 l[i+d+1] l[i+d+1+1]:=z1z h2 fun ⟨e1,e2⟩=>ha (i+d+1+1) ⟨h,by omega,e1.symm,e2.symm⟩
  show lt2 _ l[i+d+1+1]
  unfold lt2 at *; omega
theorem z91 {A:GAuto} (hs:SSrt GArc.key A.arcs) (ha:zqr A.arcs):labI A:=by
 intro q
 have h:A.arcs.Pairwise lt2:=List.pairwise_iff_getElem.2 fun i j hi hj hij=>by
  have:=z3r hs ha (j - i - 1) i (by omega)
  have e:i+(j - i - 1)+1=j:=by omega
  simpa only [e] using this
 unfold zaj
 refine List.Pairwise.imp_of_mem ?_ (h.filter _)
 intro x y hx hy hxy
 have h1:=(List.mem_filter.1 hx).2
 have h2:=(List.mem_filter.1 hy).2
 simp only [decide_eq_true_eq] at h1 h2
 unfold lt2 at hxy; omega
theorem DetA.lab {a:GAuto} {n:Nat} (h:DetA a n):labI a.nf:=by
 have:=(zfb h.ok.ring (l:=a.arcs) fun x hx=>(h.ok.arcs x hx).2.2.2.2.2.2).1
 rw [<- zlk] at this
 exact z91 this h.adj
section
variable {A:GAuto} {N:Nat} (hA:CtrOk A N) (hL:labI A)
include hA hL
theorem zta {s:Int} {w:List Int} (hw:w.length<=256) (h:endB A (rkA A s w).2=true):urR A s (rkA A s w).1=(w,true):=by
 rw [ziq] at h ⊢
 simp only at h ⊢
 by_cases hs:s<0
 ·rw [zc7 A hs] at h; simp only [zhj A hs] at h; cases h
 obtain ⟨q,rfl⟩:∃ q:Nat,s=(q:Int):=⟨s.toNat,by omega⟩
 obtain ⟨h1,h2⟩:=zy0 hA hL w q h
 have hwc:wcn A (q:Int) w.length=cnA A w.length q:=by unfold wcn; rw [if_neg (by omega),Int.toNat_natCast]
 have hb:bN A (q:Int) (w.length+1)=bN A q w.length+wcn A q w.length:=rfl
 have hn:nU A (q:Int) (bN A (q:Int) w.length+(rkR A q w).1)=w.length:=zh5 (zh9 A _) (by omega) (by omega) (by omega)
 unfold urR
 rw [hn,if_pos (by omega),Nat.add_sub_cancel_left,Int.toNat_natCast,h2]
theorem zto {s:Int} {k:Nat} (h:k<bN A s 257):(urR A s k).2=true/\(rkA A s (urR A s k).1).1=k/\endB A (rkA A s (urR A s k).1).2=true:=by
 obtain ⟨n,hn,h1,h2⟩:=zts (f:=bN A s) rfl 257 h
 have hnU:nU A s k=n:=zh5 (zh9 A s) hn h1 h2
 have hb:bN A s (n+1)=bN A s n+wcn A s n:=rfl
 by_cases hs:s<0
 ·rw [show wcn A s n=0 from if_pos hs] at hb; omega
 obtain ⟨q,rfl⟩:∃ q:Nat,s=(q:Int):=⟨s.toNat,by omega⟩
 have hwc:wcn A (q:Int) n=cnA A n q:=by unfold wcn; rw [if_neg (by omega),Int.toNat_natCast]
 obtain ⟨r1,r2,r3⟩:=yca hA hL n q (k - bN A (q:Int) n) (by omega)
 have hu:urR A (q:Int) k=(urW A n q (k - bN A (q:Int) n),true):=by unfold urR; rw [hnU,if_pos hn,Int.toNat_natCast]
 rw [hu,ziq]
 simp only [r1,r2]
 exact ⟨trivial,by omega,r3⟩
end
theorem ztb {A:GAuto} {s:Int} {k:Nat} (h:bN A s 257<=k):urR A s k=([],false):=by
 have hnU:nU A s k=257:=zsd (zh9 A s) h
 unfold urR; rw [hnU,if_neg (by omega)]
theorem zyy {A:GAuto} {sy:Int} (hl:∀ x∈A.arcs,1<=x.l/\x.l<=sy):∀ (L q k:Nat),∀ c∈urW A L q k,1<=c/\c<=sy
 | 0,_,_,c,hc=>by simp [urW] at hc
 | L+1,q,k,c,hc=>by
  simp only [urW] at hc
  split at hc
  ·rename_i x hx
   rcases List.mem_cons.1 hc with rfl|hc
   ·exact hl x (List.mem_filter.1 (List.mem_of_getElem? hx)).1
   ·exact zyy hl L _ _ c hc
  ·cases hc
theorem ybq {a:GAuto} {n:Nat} (h:DetA a n) (k:Nat):zho (urR a.nf (stN a) k).1 a.sy:=by
 refine ⟨⟨h.ok.sy1,h.ok.sy2⟩,zyz _ _ _,fun c hc=>?_⟩
 unfold urR at hc
 split at hc
 ·refine zyy (A:=a.nf) (sy:=a.sy) (fun x hx=>?_) _ _ _ c hc
  have k1:=(zr0 h.ok).arcs x hx
  have k2:=h.eps x hx
  have e:a.nf.sy=a.sy:=rfl
  have k3:=k1.2.2.2.2.1
  have k4:=k1.2.2.2.2.2.1
  omega
 ·cases hc
end Go.Ab
