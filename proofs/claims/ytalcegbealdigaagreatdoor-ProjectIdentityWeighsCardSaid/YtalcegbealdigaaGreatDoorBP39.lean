/-
Proofs for the law ProjectIdentityWeighs, part 39. Conditions: none.
-/
import Derived.Test.YtalcegbealdigaaGreatDoorBP38
import Derived.Test.YtalcegbealdigaaGreatDoorBP32
set_option maxRecDepth 100000
set_option maxHeartbeats 4000000
set_option linter.all false
namespace Go.Ab
open Enc (enc)
theorem zzm (k n:Int) (h:0<n):(if k.tmod n<0 then k.tmod n+n else k.tmod n)=k % n:=by
 have h1:=Int.tmod_eq_emod (a:=k) (b:=n)
 have h2:=Int.emod_nonneg k (show n≠0 by omega)
 have h3:=Int.emod_lt_of_pos k h
 rw [h1]
 have h4:(n.natAbs:Int)=n:=by omega
 split<;>split<;>omega
theorem zc1 (k n:Int) (h:0<n) (hn:n<=1000000):Sp P F.ai [.int .i64 k,.int .i64 n] (.pure (.int .i64 (k % n))):=by
 have h1:=zzm k n h
 have h2:=Int.emod_nonneg k (show n≠0 by omega)
 have h3:=Int.emod_lt_of_pos k h
 refine Sp.vz c.ai fun _=>?_
 simp [g.ai,go_sem]
 refine ⟨by omega,fun h4=>?_,fun h4=>?_⟩
 ·rw [if_pos h4] at h1
  rw [h1,i64w (by omega) (by omega)]
 ·rw [if_neg (by omega)] at h1
  exact h1
def nx (label:Int) (w:List Int) (a:Nat):Int:=if label=0 then a else if w[a]?=some label then a+1 else -1
theorem zsr (label:Int) (w:List Int) (a:Nat) (hw:w.length<=1000000) (ha:a<=w.length):Sp P F.jv [.int .i64 label,.sl (ens w),.int .i64 a] (.pure (.int .i64 (nx label w a))):=by
 have e1:=i64s a (by omega)
 refine Sp.vz c.jv fun _=>?_
 simp [g.jv,go_sem]
 refine ⟨fun h=>by simp [nx,h],fun h=>?_⟩
 by_cases hk:a<w.length
 ·refine ⟨fun _=>zae hk ?_,fun h=>absurd hk (by omega)⟩
  by_cases h2:w[a]=label
  ·simp [go_sem,h2,e1,nx,h,hk]
  ·simp [go_sem,h2,e1,nx,h,hk]
 ·simp [go_sem,hk,nx,h]
theorem zlq (w:List Int) (m:Int) (hl:w.length<=1000000000):Sp P F.fq [.sl (ens w),.int .i64 m] (.pure (.bool (decide ((1<=m/\m<=32)/\w.length<=256/\∀ x∈w,1<=x/\x<=m)))):=by
 refine Sp.vz c.fq fun _=>?_
 simp [g.fq,go_sem]
 refine zaa (ze5 m) rfl ?_
 by_cases hm:1<=m/\m<=32
 rotate_left
 ·simp [go_sem,hm]
  done
 by_cases h256:w.length<=256
 rotate_left
 ·simp [go_sem,hm,h256]
  exact fun h=>absurd h (by omega)
 have h256':(w.length:Int)<=256:=by omega
 simp [go_sem,hm,h256,h256']
 refine ⟨fun h=>absurd h (by omega),?_⟩
 refine zag (S:=fun k:Nat=>mkSt [(0,.p (.sl (ens w))),(1,.p (.int .i64 m)),(5,.p (.int .i64 k))] []) (I:=fun k=>k<=w.length/\∀ i,(hi:i<w.length)->i<k->1<=w[i]/\w[i]<=m) (m:=fun k=>w.length - k) 0
  (Weak.to [0,1,5] [] (by simp [go_sem])) ⟨by omega,fun i _ h=>by omega⟩ ?_
 rintro k ⟨h6,h7⟩ R hn' hr hx
 have e1:=i64s k (by omega)
 simp [g.qt,mkSt,go_sem]
 refine ⟨fun hk=>?_,fun hk=>hx _ _ ?_⟩
 ·refine zae hk ?_
  try simp [go_sem]
  have hmem:=List.getElem_mem hk
  refine ⟨fun h1=>hr _ ?_,fun h1=>zae hk ⟨fun h2=>hr _ ?_,fun h2=>?_⟩⟩
  ·simp [go_sem]
   exact ⟨_,hmem,fun _=>by omega⟩
  ·simp [go_sem]
   exact ⟨_,hmem,fun _=>by omega⟩
  ·rw [e1]
   refine hn' (k+1) _ (Weak.to [0,1,5] [] (by simp [mkSt,go_sem])) ⟨by omega,fun i hi h0=>?_⟩ (by omega)
   by_cases hik:i<k
   ·exact h7 i hi hik
   ·have:i=k:=by omega
    subst this; exact ⟨h1,h2⟩
 ·have:∀ x∈w,1<=x/\x<=m:=fun x hx=>by
   obtain ⟨i,hi,rfl⟩:=List.mem_iff_getElem.1 hx
   exact h7 i hi (by omega)
  simp [go_sem]
  exact this
theorem zzf (l:List Int) (m:Int) (most:Nat) (hm:0<m) (hm2:m<=1000) (hmost:most<=1000):Sp P F.bq [.sl (ens l),.int .i64 m,.int .i64 most] (.pure (.sl (ens ((l.take most).map fun x=>1+x % m)))):=by
 refine Sp.vz c.bq fun _=>?_
 simp [g.bq,go_sem]
 refine zag (S:=fun k:Nat=>mkSt [(0,.p (.sl (ens l))),(1,.p (.int .i64 m)),(2,.p (.int .i64 most)),(7,.own 1 0 0 k),(8,.p (.int .i64 k))] [(1,⟨1,avs ((l.take k).map fun x=>1+x % m)⟩)]) (I:=fun k=>k<=l.length/\k<=most) (m:=fun k=>most - k) 0
  (Weak.nl 7 77 1 rfl (Weak.to [0,1,2,7,8] [((77,0),1)] (by simp [go_sem]))) ⟨by omega,by omega⟩ ?_
 rintro k ⟨h1,h2⟩ R hn' hr hx
 have e3:=i64s k (by omega)
 have hend:l.length<=k\/most<=k->((l.take k).map fun x=>1+x % m)=(l.take most).map fun x=>1+x % m:=fun h=>by
  rcases h with h|h
  ·rw [List.take_of_length_le h,List.take_of_length_le (by omega)]
  ·rw [show k=most by omega]
 simp [g.qf,mkSt,go_sem]
 refine ⟨fun hk=>⟨fun hk2=>zae hk ?_,fun hk2=>hx _ _ ?_⟩,fun hk=>hx _ _ ?_⟩
 ·refine zaa (zc1 l[k] m hm (by omega)) rfl ?_
  have h3:=Int.emod_nonneg l[k] (show m≠0 by omega)
  have h4:=Int.emod_lt_of_pos l[k] hm
  have e4:IntKind.i64.wrap (1+l[k] % m)=1+l[k] % m:=i64w (by omega) (by omega)
  simp [go_sem,e3,e4]
  have hts:avs ((l.take (k+1)).map fun x=>1+x % m)=avs ((l.take k).map fun x=>1+x % m)++[.p (enc (1+l[k] % m))]:=by
   rw [List.take_succ_eq_append_getElem hk,List.map_append,zbp]; rfl
  simp only [List.map_take] at hts
  exact ⟨⟨by omega,by omega⟩,hn' (k+1) _ (Weak.to [0,1,2,7,8] [((29,0),1)] (by simp [go_sem,mkSt,hts])) ⟨by omega,by omega⟩ (by omega)⟩
 ·have:=hend (by omega)
  simp only [List.map_take] at this
  simp [go_sem,this]
  exact ⟨by omega,by rw [<- this,List.take_take,Nat.min_self]⟩
 ·have:=hend (by omega)
  simp only [List.map_take] at this
  simp [go_sem,this]
  exact ⟨by omega,by rw [<- this,List.take_take,Nat.min_self]⟩
end Go.Ab
namespace Go.Ab
open Enc (enc)
instance:Enc (Int × Int):=⟨fun x=>.agg [.int .i64 x.1,.int .i64 x.2],2,by decide,fun _=>rfl⟩
@[go_sem] theorem yds (x:Int × Int):enc x=.agg [.int .i64 x.1,.int .i64 x.2]:=rfl
@[go_sem] theorem yal:Enc.sz (Int × Int)=2:=rfl
def spS (on:List Bool) (p:Int × Int):List Bool:=if on.getD p.1.toNat false=true then on.set p.2.toNat true else on
def spR (ps:List (Int × Int)) (on:List Bool):List Bool:=ps.foldl spS on
def spF (ps:List (Int × Int)):Nat->List Bool->List Bool
 | 0,on=>on
 | n+1,on=>spF ps n (spR ps on)
theorem z8c (on p):(spS on p).length=on.length:=by unfold spS; split<;>simp
theorem zt8:∀ (ps:List (Int × Int)) (on:List Bool),(spR ps on).length=on.length
 | [],_=>rfl
 | p::ps,on=>by rw [show spR (p::ps) on=spR ps (spS on p) from rfl,zt8,z8c]
theorem zh5 (ps:List (Int × Int)):∀ (n:Nat) (on:List Bool),(spF ps n on).length=on.length
 | 0,_=>rfl
 | n+1,on=>by rw [show spF ps (n+1) on=spF ps n (spR ps on) from rfl,zh5,zt8]
theorem zvz (ps:List (Int × Int)):∀ (n:Nat) (on:List Bool),spF ps (n+1) on=spR ps (spF ps n on)
 | 0,_=>rfl
 | n+1,on=>by rw [show spF ps (n+1+1) on=spF ps (n+1) (spR ps on) from rfl,zvz]; rfl
theorem z4c {ps:List (Int × Int)} {k:Nat} (h:k<ps.length) (on:List Bool):spR (ps.take (k+1)) on=spS (spR (ps.take k) on) ps[k]:=by
 unfold spR
 rw [List.take_succ_eq_append_getElem h,List.foldl_append]; rfl
theorem toNat_lt {p:Int} {n:Nat} (h:0<=p/\p<n):∃ k:Nat,p=k/\k<n:=⟨p.toNat,by omega,by omega⟩
theorem zx2 (on:List Bool) (ps:List (Int × Int)) (hn:on.length<=100000) (hp:ps.length<=100000) (h:∀ p∈ps,(0<=p.1/\p.1<on.length)/\0<=p.2/\p.2<on.length) :
  Sp P F.l5 [.sl (ens on),.sl (ens ps)] (.pure (.sl (ens (spF ps on.length on)))):=by
 refine Sp.vz c.l5 fun _=>?_
 simp [g.l5,go_sem]
 refine ⟨?_,?_⟩
 ·omega
 refine zag (S:=fun k:Nat=>mkSt [(0,.own 1 0 0 on.length),(1,.p (.sl (ens ps))),(5,.p (.int .i64 k))] [(1,⟨1,avs (spF ps k on)⟩)]) (I:=fun k=>k<=on.length) (m:=fun k=>on.length - k) 0
  (Weak.to [0,1,5] [((8,0),1)] (by simp [go_sem,spF])) (by omega) ?_
 rintro k h1 R hn' hr hx
 have e3:=i64s k (by omega)
 simp [g.sn,mkSt,go_sem]
 refine ⟨fun hk=>?_,fun hk=>hx _ _ ?_⟩
 ·refine zag (S:=fun i:Nat=>mkSt [(0,.own 1 0 0 on.length),(1,.p (.sl (ens ps))),(5,.p (.int .i64 k)),(6,.p (.int .i64 i))] [(1,⟨1,avs (spR (ps.take i) (spF ps k on))⟩)]) (I:=fun i=>i<=ps.length) (m:=fun i=>ps.length - i) 0
   (Weak.to [0,1,5,6] [((1,0),1)] (by simp [go_sem,spR])) (by omega) ?_
  rintro i h2 R2 hn2 hr2 hx2
  have e4:=i64s i (by omega)
  have hlen:(spR (ps.take i) (spF ps k on)).length=on.length:=by rw [zt8,zh5]
  simp [g.sk,mkSt,go_sem]
  refine ⟨fun hi=>?_,fun hi=>hx2 _ _ ?_⟩
  ·obtain ⟨⟨a1,a2⟩,a3,a4⟩:=h _ (List.getElem_mem hi)
   obtain ⟨x,ex,hx3⟩:=toNat_lt ⟨a1,a2⟩
   obtain ⟨y,ey,hy3⟩:=toNat_lt ⟨a3,a4⟩
   refine zae hi ?_
   simp [go_sem,ex,ey]
   have hst:=z4c hi (spF ps k on)
   generalize hcur:spR (List.take i ps) (spF ps k on)=cur at *
   have hst2:spS cur ps[i]=if cur[x]=true then cur.set y true else cur:=by
    unfold spS
    rw [ex,ey,Int.toNat_natCast,Int.toNat_natCast,List.getD_eq_getElem?_getD,List.getElem?_eq_getElem (by omega),Option.getD_some]
   refine ⟨⟨hx3,by omega⟩,zae (by omega) ?_⟩
   by_cases hb:cur[x]=true
   ·rw [if_pos hb] at hst2
    simp [go_sem,hb]
    refine zae hi ?_
    simp [go_sem,ey,e4]
    refine ⟨⟨hy3,by omega⟩,zae (by omega) ?_⟩
    exact hn2 (i+1) _ (Weak.to [0,1,5,6] [((1,0),1)] (by simp [go_sem,mkSt,hst,hst2])) (by omega) (by omega)
   ·rw [if_neg hb] at hst2
    simp [go_sem,hb,e4]
    exact hn2 (i+1) _ (Weak.to [0,1,5,6] [((1,0),1)] (by simp [go_sem,mkSt,hst,hst2])) (by omega) (by omega)
  ·have:i=ps.length:=by omega
   subst this
   simp [go_sem,e3]
   exact hn' (k+1) _ (Weak.to [0,1,5] [((1,0),1)] (by simp [go_sem,mkSt,zvz])) (by omega) (by omega)
 ·have:k=on.length:=by omega
  subst this
  simp [go_sem,zh5]
  rw [List.take_of_length_le (by rw [zh5]; omega)]
end Go.Ab
namespace Go.Ab
open Enc (enc)
def mkS (s:Int) (on:List Bool) (p:Int × Int):List Bool:=if p.1=s then on.set p.2.toNat true else on
def mkR (s:Int) (ps:List (Int × Int)) (n:Nat):List Bool:=ps.foldl (mkS s) (List.replicate n false)
theorem z9c (s on p):(mkS s on p).length=on.length:=by unfold mkS; split<;>simp
theorem z1r (s:Int):∀ (ps:List (Int × Int)) (on:List Bool),(ps.foldl (mkS s) on).length=on.length
 | [],_=>rfl
 | p::ps,on=>by rw [List.foldl_cons,z1r,z9c]
theorem zg6 (s ps n):(mkR s ps n).length=n:=by unfold mkR; rw [z1r]; simp
theorem z5o {ps:List (Int × Int)} {k:Nat} (h:k<ps.length) (s:Int) (n:Nat):mkR s (ps.take (k+1)) n=mkS s (mkR s (ps.take k) n) ps[k]:=by
 unfold mkR
 rw [List.take_succ_eq_append_getElem h,List.foldl_append]; rfl
def cycB (n:Nat) (ps:List (Int × Int)) (s:Nat):Bool:=(spF ps n (mkR s ps n)).getD s false
def cycF (n:Nat) (ps:List (Int × Int)):Bool:=(List.range n).any (cycB n ps)
theorem zyz (n:Nat) (ps:List (Int × Int)) (hn:n<=100000) (hp:ps.length<=100000) (h:∀ p∈ps,(0<=p.1/\p.1<n)/\0<=p.2/\p.2<n) :
  Sp P F.kz [.int .i64 n,.sl (ens ps)] (.pure (.bool (cycF n ps))):=by
 refine Sp.vz c.kz fun _=>?_
 simp [g.kz,go_sem]
 refine zag (S:=fun k:Nat=>mkSt [(0,.p (.int .i64 n)),(1,.p (.sl (ens ps))),(5,.p (.int .i64 k))] []) (I:=fun k=>k<=n/\∀ s,s<k->cycB n ps s=false) (m:=fun k=>n - k) 0
  (Weak.to [0,1,5] [] (by simp [go_sem])) ⟨by omega,fun s h=>by omega⟩ ?_
 rintro k ⟨h1,h2⟩ R hn' hr hx
 have e3:=i64s k (by omega)
 simp [g.rr,mkSt,go_sem]
 refine ⟨fun hk=>?_,fun hk=>hx _ _ ?_⟩
 ·refine ⟨by omega,?_⟩
  refine zag (S:=fun i:Nat=>mkSt [(0,.p (.int .i64 n)),(1,.p (.sl (ens ps))),(5,.p (.int .i64 k)),(6,.own 1 0 0 n),(7,.p (.int .i64 i))] [(1,⟨1,avs (mkR k (ps.take i) n)⟩)]) (I:=fun i=>i<=ps.length) (m:=fun i=>ps.length - i) 0
   (Weak.to [0,1,5,6,7] [((14,0),1)] (by simp [go_sem,mkR])) (by omega) ?_
  rintro i h3 R2 hn2 hr2 hx2
  have e4:=i64s i (by omega)
  have hlen:=zg6 k (ps.take i) n
  simp [g.rq,mkSt,go_sem]
  refine ⟨fun hi=>?_,fun hi=>hx2 _ _ ?_⟩
  ·obtain ⟨⟨a1,a2⟩,a3,a4⟩:=h _ (List.getElem_mem hi)
   obtain ⟨y,ey,hy3⟩:=toNat_lt ⟨a3,a4⟩
   have hst:=z5o hi k n
   generalize hcur:mkR k (List.take i ps) n=cur at *
   refine zae hi ?_
   have hst2:mkS k cur ps[i]=if ps[i].1=(k:Int) then cur.set y true else cur:=by
    unfold mkS
    rw [ey,Int.toNat_natCast]
   rw [e4]
   refine ⟨fun hb=>?_,fun hb=>?_⟩
   ·rw [if_pos hb] at hst2
    refine zae hi ?_
    rw [ey]
    refine ⟨⟨by omega,by rw [Int.toNat_natCast]; omega,by omega⟩,?_⟩
    rw [Int.toNat_natCast]
    refine zae (by omega) ?_
    exact hn2 (i+1) _ (Weak.to [0,1,5,6,7] [((1,0),1)] (by simp [go_sem,mkSt,hst,hst2])) (by omega) (by omega)
   ·rw [if_neg hb] at hst2
    exact hn2 (i+1) _ (Weak.to [0,1,5,6,7] [((1,0),1)] (by simp [go_sem,mkSt,hst,hst2])) (by omega) (by omega)
  ·have:i=ps.length:=by omega
   subst this
   have hcB:(spF ps n (mkR k ps n))[k]'(by rw [zh5,zg6]; omega)=cycB n ps k:=by
    unfold cycB
    rw [List.getD_eq_getElem?_getD,List.getElem?_eq_getElem (by rw [zh5,zg6]; omega),Option.getD_some]
   have hsp:=zx2 (mkR k ps n) ps (by rw [zg6]; omega) (by omega) (by rw [zg6]; exact h)
   rw [zg6] at hsp
   simp [go_sem,e3]
   refine zaa hsp (by simp [go_sem,List.take_of_length_le,zg6]) ?_
   simp [go_sem]
   refine zae (by rw [zh5,zg6]; omega) ?_
   rw [hcB]
   by_cases hb:cycB n ps k=true
   ·have:cycF n ps=true:=by
     unfold cycF
     rw [List.any_eq_true]
     exact ⟨k,List.mem_range.2 hk,hb⟩
    simp [go_sem,hb]
    refine hr _ ?_
    simp [go_sem,this]
   ·simp [go_sem,hb]
    rw [e3]
    refine hn' (k+1) _ (Weak.to [0,1,5] [] (by simp [mkSt,go_sem])) ⟨by omega,fun s hs=>?_⟩ (by omega)
    by_cases hsk:s<k
    ·exact h2 s hsk
    ·have:s=k:=by omega
     subst this; simpa using hb
 ·have:cycF n ps=false:=by
   unfold cycF
   rw [List.any_eq_false]
   intro s hs
   rw [h2 s (by have:=List.mem_range.1 hs; omega)]; decide
  simp [go_sem,this]
end Go.Ab
namespace Go.Ab
open Enc (enc)
def emF (x:GTArc):Bool:=decide (x.i=0)&&decide (x.o=0)
def emP (l:List GTArc):List (Int × Int):=(l.filter emF).map fun x=>(x.f,x.t)
theorem z6e {l:List GTArc} {k:Nat} (h:k<l.length):emP (l.take (k+1))=emP (l.take k)++if l[k].i=0/\l[k].o=0 then [(l[k].f,l[k].t)] else []:=by
 unfold emP
 rw [List.take_succ_eq_append_getElem h,List.filter_append,List.map_append]
 congr 1
 by_cases hc:l[k].i=0/\l[k].o=0
 ·simp [emF,hc.1,hc.2]
 ·rw [if_neg hc]
  have:emF l[k]=false:=by
   simp only [emF,Bool.and_eq_false_iff,decide_eq_false_iff_not]
   by_cases h1:l[k].i=0
   ·exact .inr fun h2=>hc ⟨h1,h2⟩
   ·exact .inl h1
  simp [this]
theorem z2n (l:List GTArc):(emP l).length<=l.length:=by
 unfold emP; rw [List.length_map]; exact List.length_filter_le ..
theorem z9u {l:List GTArc} {p:Int × Int} (h:p∈emP l):∃ x∈l,p=(x.f,x.t):=by
 unfold emP at h
 obtain ⟨x,hx,rfl⟩:=List.mem_map.1 h
 exact ⟨x,(List.mem_filter.1 hx).1,rfl⟩
noncomputable def emC (t:GTrans):Bool:=cycF t.st.toNat (emP t.nf.arcs)
theorem zuo (t:GTrans):t.nf.arcs.length<=t.arcs.length:=zt1 (key:=GTArc.key) (wt:=GTArc.w) (r:=t.ring) (up:=upT t.ring) (fun _ _=>rfl) t.arcs
theorem zza (t:GTrans) (n:Nat) (hn:n<=90) (hn1:3<=n) (h:t.sm n) (hl:t.arcs.length<=19) (ok:t.ok):Sp P F.kf [enc t,.bool true,.bool true] (.pure (.bool (emC t))):=by
 have k3:=ztr t.ring t.arcs n hn hn1 hl fun x hx=>⟨h.arcs x hx,(ok.arcs x hx).2.2.2.2.2.2.2.2⟩
 rw [zo6] at k3
 have hA:∀ x∈t.nf.arcs,inT x t.nf:=(zsq ok).arcs
 have hL:=zuo t
 have hst:t.nf.st=t.st:=rfl
 have hemC:emC t=cycF t.st.toNat (emP t.nf.arcs):=rfl
 change Sp P F.ck _ (.pure (.sl (ens t.nf.arcs))) at k3
 generalize t.nf.arcs=A at *
 obtain ⟨nn,hnn⟩:∃ nn:Nat,t.st=nn:=⟨t.st.toNat,by have:=ok.st1; omega⟩
 have st2:=ok.st2
 refine Sp.vz c.kf fun _=>?_
 simp [g.kf,go_sem]
 refine zab k3 ?_
 simp [go_sem]
 refine zag (S:=fun k:Nat=>mkSt [(1,.p (.bool true)),(2,.p (.bool true)),(3,.ptr 3 0 0 0),(7,.p (.sl (ens A))),(8,.own 1 0 0 (emP (A.take k)).length),(9,.p (.int .i64 k))] [(3,⟨8,[.p (enc t)]⟩),(1,⟨2,avs (emP (A.take k))⟩)]) (I:=fun k=>k<=A.length) (m:=fun k=>A.length - k) 0
  (Weak.nl 8 77 2 rfl (Weak.to [1,2,3,7,8,9] [((3,0),3),((77,0),1)] (by simp [go_sem,emP]))) (by omega) ?_
 rintro k h1 R hn' hr hx
 have e3:=i64s k (by omega)
 simp [g.tw,mkSt,go_sem]
 refine ⟨fun hk=>?_,fun hk=>hx _ _ ?_⟩
 ·have hst:=z6e hk
  have hln:=z2n (A.take k)
  rw [List.length_take] at hln
  refine zae hk ?_
  by_cases hi:A[k].i=0
  ·simp [go_sem,hi]
   refine zae hk ?_
   by_cases ho:A[k].o=0
   ·rw [if_pos ⟨hi,ho⟩] at hst
    simp [go_sem,ho]
    refine zae hk ?_
    try simp [go_sem]
    refine zae hk ?_
    simp [go_sem,e3]
    refine ⟨by omega,hn' (k+1) _ (Weak.to [1,2,3,7,8,9] [((3,0),3),((56,0),1)] (by simp [go_sem,mkSt,hst])) (by omega) (by omega)⟩
   ·rw [if_neg (fun h=>ho h.2),List.append_nil] at hst
    simp [go_sem,ho,e3]
    exact hn' (k+1) _ (Weak.to [1,2,3,7,8,9] [((3,0),3),((1,0),1)] (by simp [go_sem,mkSt,hst])) (by omega) (by omega)
  ·rw [if_neg (fun h=>hi h.1),List.append_nil] at hst
   simp [go_sem,hi,e3]
   exact hn' (k+1) _ (Weak.to [1,2,3,7,8,9] [((3,0),3),((1,0),1)] (by simp [go_sem,mkSt,hst])) (by omega) (by omega)
 ·have:k=A.length:=by omega
  subst this
  have hcy:=zyz nn (emP A) (by omega) (Nat.le_trans (z2n A) (by omega)) fun p hp=>by
   obtain ⟨x,hx,rfl⟩:=z9u hp
   obtain ⟨a1,a2,a3,a4,_⟩:=hA x hx
   exact ⟨⟨a1,by simp only; omega⟩,a3,by simp only; omega⟩
  simp [go_sem]
  refine zaa hcy (by simp [go_sem,hnn]) ?_
  simp [go_sem,hemC,hnn]
theorem zy9 (t:GTrans) (n:Nat) (hn:n<=90) (hn1:3<=n) (h:t.sm n) (hl:t.arcs.length<=19) (ok:t.ok):Sp P F.ju [enc t] (.pure (.bool (emC t))):=by
 have h0:=ok.il
 have h2:=ok.fl
 have h3:=ok.st2
 refine Sp.vz c.ju fun _=>?_
 simp [g.ju,go_sem]
 refine zab (zn6 t (h.mono (by omega)) (by omega) (by omega)) ?_
 simp [go_sem,ok]
 refine zab (zza t n hn hn1 h hl ok) ?_
 simp [go_sem]
end Go.Ab
namespace Go.Ab
open Enc (enc)
structure Meas (r:GRing) where
 mb:Nat->GW->Prop
 lim:Nat
 mono:∀ {m n:Nat} {w:GW},mb m w->m<=n->mb n w
 zero:mb 0 r.zero
 plus:∀ {v w:GW} {n:Nat},v.chk r->w.chk r->mb n v->mb n w->mb (n+1) (r.plus v w)
 times:∀ {v w:GW} {m n:Nat},v.chk r->w.chk r->mb m v->mb n w->mb (m+n+1) (r.times v w)
 plusS:∀ {v w:GW} {n:Nat},n<=lim->v.chk r->w.chk r->mb n v->mb n w->Sp P F.aa [enc r,enc v,enc w] (.pure (enc (r.plus v w)))
 timesS:∀ {v w:GW} {n:Nat},n<=lim->v.chk r->w.chk r->mb n v->mb n w->Sp P F.ae [enc r,enc v,enc w] (.pure (enc (r.times v w)))
def vb {r:GRing} (M:Meas r) (n:Nat) (l:List GW):Prop:=∀ w∈l,w.chk r/\M.mb n w
theorem zct {r:GRing} {M:Meas r} {m n:Nat} {l:List GW} (h:vb M m l) (k:m<=n):vb M n l:=fun w hw=>⟨(h w hw).1,M.mono (h w hw).2 k⟩
theorem zpm {r:GRing} {M:Meas r} {n:Nat} {l:List GW} (h:vb M n l) {i:Nat} (hi:i<l.length):(l.getD i r.zero).chk r/\M.mb n (l.getD i r.zero):=by
 rw [List.getD_eq_getElem?_getD,List.getElem?_eq_getElem hi]; exact h _ (List.getElem_mem hi)
def addW (r:GRing) (base:List GW) (x:GTArc) (ends:List GW):List GW:=base.set x.f.toNat (r.plus (base.getD x.f.toNat r.zero) (r.times x.w (ends.getD x.t.toNat r.zero)))
theorem zxq (r:GRing) (base:List GW) (x:GTArc) (ends:List GW):(addW r base x ends).length=base.length:=by simp [addW]
def GTArc.fit (x:GTArc) (N:Nat):Prop:=(0<=x.f/\x.f<N)/\0<=x.t/\x.t<N
theorem yac {r:GRing} (M:Meas r) {base ends:List GW} {x:GTArc} {K c e N:Nat} (hb:vb M K base) (he:vb M e ends) (hx:x.w.chk r/\M.mb c x.w) (fit:x.fit N) (hN:base.length=N) (hE:ends.length=N) (hK:c+e+1<=K) :
  vb M (K+1) (addW r base x ends):=by
 intro w hw
 unfold addW at hw
 obtain ⟨⟨a1,a2⟩,a3,a4⟩:=fit
 rcases List.mem_or_eq_of_mem_set hw with h|h
 ·exact ⟨(hb w h).1,M.mono (hb w h).2 (by omega)⟩
 ·have h1:=zpm hb (i:=x.f.toNat) (by omega)
  have h2:=zpm he (i:=x.t.toNat) (by omega)
  have h3:=M.times hx.1 h2.1 hx.2 h2.2
  rw [h]
  exact ⟨zbs h1.1 (za3 hx.1 h2.1),M.plus h1.1 (za3 hx.1 h2.1) h1.2 (M.mono h3 hK)⟩
theorem zxr {r:GRing} (M:Meas r) {base ends:List GW} {x:GTArc} {K z e N:Nat} (hb:vb M K base) (he:vb M e ends) (hx:x.w.chk r/\M.mb z x.w) (fit:x.fit N) (hN:base.length=N) (hE:ends.length=N) (hK:z+e+1<=K) (hlim:K<=M.lim) (hN2:N<=1000000) :
  Sp P F.ft [enc r,.sl (ens base),enc x,.sl (ens ends)] (.pure (.sl (ens (addW r base x ends)))):=by
 obtain ⟨a12,a34⟩:=fit
 obtain ⟨f,ef,hf⟩:=toNat_lt a12
 obtain ⟨t,et,ht⟩:=toNat_lt a34
 have hf2:f<base.length:=by omega
 have ht2:t<ends.length:=by omega
 have eadd:addW r base x ends=base.set f (r.plus base[f] (r.times x.w ends[t])):=by
  unfold addW
  rw [ef,et,Int.toNat_natCast,Int.toNat_natCast,List.getD_eq_getElem?_getD,List.getD_eq_getElem?_getD,List.getElem?_eq_getElem hf2,List.getElem?_eq_getElem ht2]
  rfl
 have h1:=hb _ (List.getElem_mem hf2)
 have h2:=he _ (List.getElem_mem ht2)
 have ct:=za3 hx.1 h2.1
 have mt:=M.mono (M.times hx.1 h2.1 hx.2 h2.2) hK
 have s1:=M.timesS (v:=x.w) (w:=ends[t]) (n:=K) hlim hx.1 h2.1 (M.mono hx.2 (by omega)) (M.mono h2.2 (by omega))
 have s2:=M.plusS (v:=base[f]) (w:=r.times x.w ends[t]) (n:=K) hlim h1.1 ct h1.2 mt
 rw [eadd]
 refine Sp.vz c.ft fun _=>?_
 simp [g.ft,go_sem]
 refine ⟨by omega,?_⟩
 rw [ef,et]
 simp [go_sem]
 refine ⟨hf2,zae hf2 (zae ht2 ?_)⟩
 refine zab s1 ?_
 simp [go_sem]
 refine zab s2 ?_
 simp [go_sem]
 refine ⟨hf2,zae hf2 ?_⟩
 rw [zy4 base f (r.plus base[f] (r.times x.w ends[t])) (by simp [go_sem])]
 have hlen:(base.set f (r.plus base[f] (r.times x.w ends[t]))).length=base.length:=by simp
 generalize base.set f (r.plus base[f] (r.times x.w ends[t]))=out at *
 rw [<- hlen]
 simp [go_sem]
end Go.Ab
namespace Go.Ab
section
variable {r:GRing} (M:Meas r)
def accS (r:GRing) (p:GTArc->Option (List GW)) (b:List GW) (x:GTArc):List GW:=match p x with|some e=>addW r b x e|none=>b
def accW (r:GRing) (p:GTArc->Option (List GW)) (l:List GTArc) (base:List GW):List GW:=l.foldl (accS r p) base
theorem zxs (r:GRing) (p:GTArc->Option (List GW)) (b:List GW) (x:GTArc):(accS r p b x).length=b.length:=by
 unfold accS
 split
 ·exact zxq ..
 ·rfl
theorem zts {p:GTArc->Option (List GW)} {l:List GTArc} {k:Nat} (h:k<l.length) (base:List GW):accW r p (l.take (k+1)) base=accS r p (accW r p (l.take k) base) l[k]:=by
 unfold accW
 rw [List.take_succ_eq_append_getElem h,List.foldl_append]; rfl
theorem zjp (p:GTArc->Option (List GW)):∀ (l:List GTArc) (base:List GW),(accW r p l base).length=base.length
 | [],_=>rfl
 | x::l,base=>by
  show (accW r p l _).length=_
  rw [zjp p l]; exact zxs ..
def fits {r:GRing} (M:Meas r) (c N:Nat) (l:List GTArc):Prop:=∀ x∈l,(x.w.chk r/\M.mb c x.w)/\x.fit N
theorem znn {p:GTArc->Option (List GW)} {c E N K:Nat} (hK:c+E+1<=K):∀ {l:List GTArc} {base:List GW},fits M c N l->(∀ x∈l,∀ e,p x=some e->vb M E e/\e.length=N)->vb M K base->base.length=N->∀ j,vb M (K+l.length+j) (accW r p l base)
 | [],base,_,_,hb,_,j=>zct hb (by omega)
 | x::l,base,hf,hp,hb,hl,j=>by
  show vb M _ (accW r p l (accS r p base x))
  have hx:=hf x List.mem_cons_self
  have:vb M (K+1) (accS r p base x):=by
   unfold accS
   cases h:p x with
   | none=>exact zct hb (by omega)
   | some e =>
    have h1:=hp x List.mem_cons_self e h
    exact yac M hb h1.1 hx.1 hx.2 hl h1.2 hK
  have h2:=znn (K:=K+1) (by omega) (fun y hy=>hf y (List.mem_cons_of_mem _ hy)) (fun y hy=>hp y (List.mem_cons_of_mem _ hy)) this ((zxs ..).trans hl) j
  rw [List.length_cons,show K+(l.length+1)+j=K+1+l.length+j by omega]
  exact h2
def zee (v:List GW) (x:GTArc):Option (List GW):=if emF x=true then some v else none
def sprN (r:GRing) (l:List GTArc) (base:List GW):Nat->List GW
 | 0=>base
 | n+1=>accW r (zee (sprN r l base n)) l base
theorem zpv (l:List GTArc) (base:List GW) (n:Nat):(sprN r l base n).length=base.length:=by
 cases n with
 | zero=>rfl
 | succ n=>exact zjp ..
theorem zt7 {c N B:Nat} {l:List GTArc} {base:List GW} (hf:fits M c N l) (hb:vb M B base) (hl:base.length=N):∀ n,vb M (B+n*(c+1+l.length)) (sprN r l base n)
 | 0=>zct hb (by omega)
 | n+1=>by
  have ih:=zt7 hf hb hl n
  have h2:B<=B+n*(c+1+l.length):=by omega
  have:=znn M (p:=zee (sprN r l base n)) (c:=c) (E:=B+n*(c+1+l.length)) (N:=N) (K:=c+(B+n*(c+1+l.length))+1) (Nat.le_refl _) hf (fun x _ e he=>by
   unfold zee at he
   split at he
   ·cases he; exact ⟨ih,by rw [zpv]; exact hl⟩
   ·cases he) (zct hb (by omega)) hl 0
  have e:B+(n+1)*(c+1+l.length)=c+(B+n*(c+1+l.length))+1+l.length+0:=by rw [Nat.succ_mul]; omega
  rw [e]; exact this
theorem z5i {label:Int} {w:List Int} {a:Nat} (ha:a<=w.length):nx label w a<=a+1/\nx label w a<=w.length:=by
 unfold nx
 split
 ·omega
 ·split
  ·rename_i h
   have:=(List.getElem?_eq_some_iff.1 h).1
   omega
  ·omega
theorem yb7 {label:Int} {w:List Int} {a:Nat} (h:0<=nx label w a):(a:Int)<=nx label w a:=by
 unfold nx at *
 split
 ·omega
 ·rename_i h1
  rw [if_neg h1] at h
  split
  ·omega
  ·rename_i h2
   rw [if_neg h2] at h; omega
def zcm (wx wy:List Int) (i k:Nat) (rows:Nat->Nat->List GW) (x:GTArc):Option (List GW) :=
 if 0<=nx x.i wx i/\0<=nx x.o wy k/\(i:Int)+k<nx x.i wx i+nx x.o wy k then some (rows (nx x.i wx i).toNat (nx x.o wy k).toNat) else none
theorem zeg {wx wy:List Int} {i k:Nat} (hi:i<=wx.length) (hk:k<=wy.length) {rows:Nat->Nat->List GW} {x:GTArc} {e:List GW} (h:zcm wx wy i k rows x=some e) :
  ∃ a b:Nat,nx x.i wx i=a/\nx x.o wy k=b/\i<=a/\a<=i+1/\k<=b/\b<=k+1/\a<=wx.length/\b<=wy.length/\i+k<a+b/\e=rows a b:=by
 unfold zcm at h
 split at h
 ·rename_i hc
  obtain ⟨c1,c2,c3⟩:=hc
  have h1:=z5i (label:=x.i) hi
  have h2:=z5i (label:=x.o) hk
  have h3:=yb7 c1
  have h4:=yb7 c2
  cases h
  refine ⟨(nx x.i wx i).toNat,(nx x.o wy k).toNat,?_,?_,?_,?_,?_,?_,?_,?_,?_,rfl⟩<;>omega
 ·cases h
def zeq (t:GTrans) (wx wy:List Int) (i k:Nat):List GW:=if i=wx.length/\k=wy.length then t.fin else List.replicate t.st.toNat t.ring.zero
def rowW (t:GTrans) (wx wy:List Int) (i k:Nat) (rows:Nat->Nat->List GW):List GW:=accW t.ring (zcm wx wy i k rows) t.arcs (zeq t wx wy i k)
def zgp (t:GTrans) (wx wy:List Int) (i k:Nat) (rows:Nat->Nat->List GW):List GW:=sprN t.ring t.arcs (rowW t wx wy i k rows) t.st.toNat
def valW (t:GTrans) (wx wy:List Int):Nat->Nat->Nat->List GW
 | 0,_,_=>[]
 | n+1,i,k=>zgp t wx wy i k (valW t wx wy n)
def tabW (t:GTrans) (wx wy:List Int) (i k:Nat):List GW:=valW t wx wy (wx.length - i+(wy.length - k)+1) i k
theorem zpk {p q:GTArc->Option (List GW)}:∀ {l:List GTArc} {base:List GW},(∀ x∈l,p x=q x)->accW r p l base=accW r q l base
 | [],_,_=>rfl
 | x::l,base,h=>by
  show accW r p l (accS r p base x)=accW r q l (accS r q base x)
  have:accS r p base x=accS r q base x:=by unfold accS; rw [h x List.mem_cons_self]
  rw [this]
  exact zpk fun y hy=>h y (List.mem_cons_of_mem _ hy)
theorem zt4 {wx wy:List Int} {i k:Nat} (hi:i<=wx.length) (hk:k<=wy.length) {f g:Nat->Nat->List GW} (h:∀ a b:Nat,i<=a->k<=b->a<=wx.length->b<=wy.length->i+k<a+b->f a b=g a b) (x:GTArc):zcm wx wy i k f x=zcm wx wy i k g x:=by
 cases hf:zcm wx wy i k f x with
 | none =>
  unfold zcm at *
  split at hf
  ·cases hf
  ·rename_i hc; rw [if_neg hc]
 | some e =>
  obtain ⟨a,b,h1,h2,h3,h4,h5,h6,h7,h8,h9,rfl⟩:=zeg hi hk hf
  unfold zcm
  rw [h1,h2,if_pos ⟨by omega,by omega,by omega⟩,Int.toNat_natCast,Int.toNat_natCast,h a b h3 h5 h7 h8 h9]
theorem zii {t:GTrans} {wx wy:List Int} {i k:Nat} (hi:i<=wx.length) (hk:k<=wy.length) {f g:Nat->Nat->List GW} (h:∀ a b:Nat,i<=a->k<=b->a<=wx.length->b<=wy.length->i+k<a+b->f a b=g a b):zgp t wx wy i k f=zgp t wx wy i k g:=by
 unfold zgp rowW
 rw [zpk fun x _=>zt4 hi hk h x]
theorem zvp {t:GTrans} {wx wy:List Int}:∀ (n m i k:Nat),i<=wx.length->k<=wy.length->wx.length - i+(wy.length - k)<n->wx.length - i+(wy.length - k)<m->valW t wx wy n i k=valW t wx wy m i k
 | 0,_,_,_,_,_,h,_=>by omega
 | _+1,0,_,_,_,_,_,h=>by omega
 | n+1,m+1,i,k,hi,hk,h1,h2=>by
  show zgp t wx wy i k _=zgp t wx wy i k _
  exact zii hi hk fun a b a1 a2 a3 a4 a5=>zvp n m a b a3 a4 (by omega) (by omega)
theorem z74 {t:GTrans} {wx wy:List Int} {i k:Nat} (hi:i<=wx.length) (hk:k<=wy.length):tabW t wx wy i k=zgp t wx wy i k (tabW t wx wy):=by
 show zgp t wx wy i k _=_
 exact zii hi hk fun a b a1 a2 a3 a4 a5=>zvp _ _ a b a3 a4 (by omega) (by omega)
structure GTrans.fits {r:GRing} (M:Meas r) (c:Nat) (t:GTrans):Prop where
 ring:t.ring=r
 st:0<=t.st/\t.st<=64
 arcs:Go.Ab.fits M c t.st.toNat t.arcs
 ini:vb M c t.ini/\t.ini.length=t.st.toNat
 fin:vb M c t.fin/\t.fin.length=t.st.toNat
 rok:r.ok=true
theorem zvg (hr:r.ok=true) (n c:Nat):vb M c (List.replicate n r.zero):=fun w hw=>by
 rw [List.eq_of_mem_replicate hw]
 exact ⟨zbn hr,M.mono M.zero (by omega)⟩
variable {M}
theorem zq9 {c:Nat} {t:GTrans} (ht:t.fits M c) (wx wy:List Int) (i k:Nat):vb M c (zeq t wx wy i k)/\(zeq t wx wy i k).length=t.st.toNat:=by
 unfold zeq
 split
 ·exact ht.fin
 ·rw [ht.ring]
  exact ⟨zvg M ht.rok _ _,by simp⟩
theorem zpy {c:Nat} {t:GTrans} (ht:t.fits M c) (wx wy:List Int) (i k:Nat) (rows:Nat->Nat->List GW):(rowW t wx wy i k rows).length=t.st.toNat:=by
 unfold rowW
 rw [zjp]; exact (zq9 ht wx wy i k).2
theorem z3a {c:Nat} {t:GTrans} (ht:t.fits M c) (wx wy:List Int) (i k:Nat) (rows:Nat->Nat->List GW):(zgp t wx wy i k rows).length=t.st.toNat:=by
 unfold zgp
 rw [zpv]; exact zpy ht ..
def lvl (t:GTrans) (c d:Nat):Nat:=d*((t.st.toNat+1)*(c+1+t.arcs.length))
theorem z0g {c E:Nat} {t:GTrans} (ht:t.fits M c) {wx wy:List Int} {i k:Nat} {rows:Nat->Nat->List GW} (hr:∀ x∈t.arcs,∀ e,zcm wx wy i k rows x=some e->vb M E e/\e.length=t.st.toNat):vb M (E+(c+1+t.arcs.length)) (rowW t wx wy i k rows):=by
 have hb:=zq9 ht wx wy i k
 have:=znn M (p:=zcm wx wy i k rows) (c:=c) (E:=E) (N:=t.st.toNat) (K:=c+E+1) (Nat.le_refl _) ht.arcs hr (zct hb.1 (by omega)) hb.2 0
 unfold rowW
 rw [ht.ring]
 exact zct this (by omega)
theorem z6y {c E:Nat} {t:GTrans} (ht:t.fits M c) {wx wy:List Int} {i k:Nat} {rows:Nat->Nat->List GW} (hr:∀ x∈t.arcs,∀ e,zcm wx wy i k rows x=some e->vb M E e/\e.length=t.st.toNat):vb M (E+(t.st.toNat+1)*(c+1+t.arcs.length)) (zgp t wx wy i k rows):=by
 have h1:=z0g ht hr
 have hl:t.ring=r:=ht.ring
 unfold zgp
 rw [ht.ring]
 refine zct (zt7 M ht.arcs h1 (zpy ht ..) t.st.toNat) ?_
 rw [Nat.add_mul]; omega
theorem zty {c:Nat} {t:GTrans} (ht:t.fits M c) (wx wy:List Int):∀ (n i k:Nat),i<=wx.length->k<=wy.length->wx.length - i+(wy.length - k)<n->vb M (lvl t c n) (valW t wx wy n i k)/\(valW t wx wy n i k).length=t.st.toNat
 | 0,_,_,_,_,h=>by omega
 | n+1,i,k,hi,hk,h=>by
  refine ⟨?_,z3a ht ..⟩
  have:lvl t c (n+1)=lvl t c n+(t.st.toNat+1)*(c+1+t.arcs.length):=by unfold lvl; rw [Nat.succ_mul]
  rw [this]
  refine z6y ht fun x _ e he=>?_
  obtain ⟨a,b,h1,h2,h3,h4,h5,h6,h7,h8,h9,rfl⟩:=zeg hi hk he
  exact zty ht wx wy n a b h7 h8 (by omega)
theorem zws (t:GTrans) (c:Nat) {m n:Nat} (h:m<=n):lvl t c m<=lvl t c n:=Nat.mul_le_mul_right _ h
theorem zzt {c:Nat} {t:GTrans} (ht:t.fits M c) {wx wy:List Int} {i k:Nat} (hi:i<=wx.length) (hk:k<=wy.length):vb M (lvl t c (wx.length+wy.length+1)) (tabW t wx wy i k)/\(tabW t wx wy i k).length=t.st.toNat:=by
 have:=zty ht wx wy (wx.length - i+(wy.length - k)+1) i k hi hk (by omega)
 exact ⟨zct this.1 (zws t c (by omega)),this.2⟩
theorem zt3 {c:Nat} {t:GTrans} (ht:t.fits M c) {wx wy:List Int} {i k:Nat} (hi:i<=wx.length) (hk:k<=wy.length):∀ x∈t.arcs,∀ e,zcm wx wy i k (tabW t wx wy) x=some e->vb M (lvl t c (wx.length+wy.length)) e/\e.length=t.st.toNat:=fun x _ e he=>by
 obtain ⟨a,b,h1,h2,h3,h4,h5,h6,h7,h8,h9,rfl⟩:=zeg hi hk he
 have:=zty ht wx wy (wx.length - a+(wy.length - b)+1) a b h7 h8 (by omega)
 exact ⟨zct this.1 (zws t c (by omega)),this.2⟩
def sumW (r:GRing) (ini row:List GW):GW:=(ini.zip row).foldl (fun s p=>r.plus s (r.times p.1 p.2)) r.zero
def sumN (r:GRing) (ini row:List GW) (n:Nat):GW:=((ini.zip row).take n).foldl (fun s p=>r.plus s (r.times p.1 p.2)) r.zero
theorem ziu {ini row:List GW} {n:Nat} (h1:n<ini.length) (h2:n<row.length):sumN r ini row (n+1)=r.plus (sumN r ini row n) (r.times ini[n] row[n]):=by
 unfold sumN
 rw [List.take_succ_eq_append_getElem (by rw [List.length_zip]; omega),List.foldl_append]
 simp
theorem zpt (hr:r.ok=true) {c E:Nat} {ini row:List GW} (hi:vb M c ini) (he:vb M E row):∀ n,n<=ini.length->n<=row.length->(sumN r ini row n).chk r/\M.mb (c+E+1+n) (sumN r ini row n)
 | 0,_,_=>⟨zbn hr,M.mono M.zero (by omega)⟩
 | n+1,h1,h2=>by
  have ih:=zpt hr hi he n (by omega) (by omega)
  have k1:=hi _ (List.getElem_mem (show n<ini.length by omega))
  have k2:=he _ (List.getElem_mem (show n<row.length by omega))
  rw [ziu (by omega) (by omega)]
  have ct:=za3 k1.1 k2.1
  exact ⟨zbs ih.1 ct,M.plus ih.1 ct ih.2 (M.mono (M.times k1.1 k2.1 k1.2 k2.2) (Nat.le_add_right _ _))⟩
theorem ziv {ini row:List GW} {n:Nat} (h:ini.length<=n):sumN r ini row n=sumW r ini row:=by
 unfold sumN sumW
 rw [List.take_of_length_le (by rw [List.length_zip]; omega)]
end
noncomputable def wgt (t:GTrans) (wx wy:List Int):GW:=sumW t.ring t.ini (tabW t wx wy 0 0)
end Go.Ab
namespace Go.Ab
open Enc (enc)
theorem zs7 {r:GRing} {M:Meas r} {z N:Nat} {l:List GTArc} (h:fits M z N l) (k:Nat):fits M z N (l.take k):=fun x hx=>h x (List.mem_of_mem_take hx)
theorem zt6 {r:GRing} (M:Meas r) {z B:Nat} (t:GTrans) (ht:t.fits M z) {base:List GW} (hb:vb M B base) (hl:base.length=t.st.toNat) (hal:t.arcs.length<=1000000) (hlim:B+t.st.toNat*(z+1+t.arcs.length)<=M.lim) :
  Sp P F.jw [enc t,.sl (ens base)] (.pure (.sl (ens (sprN t.ring t.arcs base t.st.toNat)))):=by
 have hr:=ht.ring
 subst hr
 have hst:=ht.st
 obtain ⟨nn,hnn⟩:∃ nn:Nat,t.st=nn:=⟨t.st.toNat,by omega⟩
 have harcs:=ht.arcs
 have hN:t.st.toNat=nn:=by omega
 have hle:nn<=64:=by omega
 rw [hN] at harcs hl hlim ⊢
 refine Sp.vz c.jw fun _=>?_
 simp [g.jw,go_sem]
 refine zag (S:=fun k:Nat=>mkSt [(1,.p (.sl (ens base))),(2,.ptr 2 0 0 0),(5,.p (.sl (ens (sprN t.ring t.arcs base k)))),(6,.p (.int .i64 k))] [(2,⟨8,[.p (enc t)]⟩)]) (I:=fun k=>k<=nn) (m:=fun k=>nn - k) 0
  (Weak.to [1,2,5,6] [((2,0),2)] (by simp [go_sem,sprN])) (by omega) ?_
 rintro k h1 R hn' hr hx
 have e3:=i64s k (by omega)
 have hv:=zt7 M harcs hb hl k
 have hvl:(sprN t.ring t.arcs base k).length=nn:=by rw [zpv]; exact hl
 have hsucc:sprN t.ring t.arcs base (k+1)=accW t.ring (zee (sprN t.ring t.arcs base k)) t.arcs base:=rfl
 simp [g.qv,mkSt,go_sem,hnn]
 generalize hcur:sprN t.ring t.arcs base k=v at *
 refine ⟨fun hk=>?_,fun hk=>hx _ _ ?_⟩
 ·have hsz:z+(B+k*(z+1+t.arcs.length))+1+t.arcs.length<=M.lim:=by
   have h5:(k+1)*(z+1+t.arcs.length)<=nn*(z+1+t.arcs.length):=Nat.mul_le_mul_right _ (by omega)
   rw [Nat.succ_mul] at h5; omega
  refine zag (S:=fun j:Nat=>mkSt [(1,.p (.sl (ens base))),(2,.ptr 2 0 0 0),(5,.p (.sl (ens v))),(6,.p (.int .i64 k)),(7,.p (.sl (ens (accW t.ring (zee v) (t.arcs.take j) base)))),(8,.p (.int .i64 j))] [(2,⟨8,[.p (enc t)]⟩)]) (I:=fun j=>j<=t.arcs.length) (m:=fun j=>t.arcs.length - j) 0
   (Weak.to [1,2,5,6,7,8] [((2,0),2)] (by simp [go_sem,accW,hnn])) (by omega) ?_
  rintro j h2 R2 hn2 hr2 hx2
  have e4:=i64s j (by omega)
  simp [g.qu,mkSt,go_sem]
  refine ⟨fun hj=>?_,fun hj=>hx2 _ _ ?_⟩
  ·have hst:=zts (r:=t.ring) (p:=zee v) hj base
   unfold accS at hst
   have hx1:=harcs _ (List.getElem_mem hj)
   have hacc:=znn M (p:=zee v) (c:=z) (E:=B+k*(z+1+t.arcs.length)) (N:=nn) (K:=z+(B+k*(z+1+t.arcs.length))+1) (Nat.le_refl _) (zs7 harcs j) (fun x _ e he=>by
    unfold zee at he
    split at he
    ·cases he; exact ⟨hv,hvl⟩
    ·cases he) (zct hb (by have:=Nat.zero_le (k*(z+1+t.arcs.length)); omega)) hl 0
   have hlen:=zjp (r:=t.ring) (zee v) (t.arcs.take j) base
   have htl:(t.arcs.take j).length=j:=by rw [List.length_take]; omega
   rw [htl,Nat.add_zero] at hacc
   generalize haq:accW t.ring (zee v) (t.arcs.take j) base=acc at *
   refine zae hj ?_
   by_cases hi:t.arcs[j].i=0
   ·simp [go_sem,hi]
    refine zae hj ?_
    by_cases ho:t.arcs[j].o=0
    ·have hp:zee v t.arcs[j]=some v:=by simp [zee,emF,hi,ho]
     rw [hp] at hst
     simp [go_sem,ho]
     refine zae hj ?_
     try simp [go_sem]
     have hcall:=zxr M (x:=t.arcs[j]) hacc hv hx1.1 hx1.2 (by omega) hvl (by omega) (by omega) (by omega)
     refine zab hcall ?_
     simp [go_sem,e4]
     exact hn2 (j+1) _ (Weak.to [1,2,5,6,7,8] [((2,0),2)] (by simp [go_sem,mkSt,hst])) (by omega) (by omega)
    ·have hp:zee v t.arcs[j]=none:=by simp [zee,emF,ho]
     rw [hp] at hst
     simp [go_sem,ho,e4]
     exact hn2 (j+1) _ (Weak.to [1,2,5,6,7,8] [((2,0),2)] (by simp [go_sem,mkSt,hst])) (by omega) (by omega)
   ·have hp:zee v t.arcs[j]=none:=by simp [zee,emF,hi]
    rw [hp] at hst
    simp [go_sem,hi,e4]
    exact hn2 (j+1) _ (Weak.to [1,2,5,6,7,8] [((2,0),2)] (by simp [go_sem,mkSt,hst])) (by omega) (by omega)
  ·have:j=t.arcs.length:=by omega
   subst this
   simp [go_sem,e3]
   exact hn' (k+1) _ (Weak.to [1,2,5,6] [((2,0),2)] (by simp [go_sem,mkSt,hsucc])) (by omega) (by omega)
 ·have:k=nn:=by omega
  subst this
  simp [go_sem,hcur]
end Go.Ab
namespace Go.Ab
section
variable {P:Program} {K:Ctx} {Z Z':Cz} {st st':St} {w w':World} {a:Act}
theorem HRep.same2 (h:HRep K Z st w) {s g:Nat} {o:AObj} (ho:st.obj s g=some o) {es:List AV} (hl:es.length=o.es.length) (h2:∀ e∈es,e.sz=o.sz) (h3:∀ c∈es.flatMap AV.cells,c.one=true)
  (h4:∀ b,Z.B s g=some b->∃ (cur:Array Value) (T:TypeId) (vals:List Value),w.heap[b]?=some (.cells cur T (0,0))/\AReps Z st (es.flatMap AV.cells) vals /\
   (∀ (i:Nat) (v:Value),vals[i]?=some v->cur[i]?=some v)/\cur.size=Z.cap s g*o.sz/\o.es.length<=Z.cap s g/\Z.cap s g<=maxLen):HRep K Z (st.setObj s g ⟨o.sz,es⟩) w:=by
 have hg:=zcp ho
 have hz:=ZLe.setObj Z st s g o ⟨o.sz,es⟩ ho rfl hl
 have old:∀ {s' g':Nat} {o':AObj},(st.setObj s g ⟨o.sz,es⟩).obj s' g'=some o'->∃ o0,st.obj s' g'=some o0:=by
  intro s' g' o' ho'
  rw [zba _ _ _ _ _ _ hg] at ho'
  split at ho'
  ·rename_i hc; obtain ⟨rfl,rfl⟩:=hc; exact ⟨o,ho⟩
  ·exact ⟨o',ho'⟩
 refine ⟨fun s' g' o' ho'=>?_,fun s' g' s'' g'' o' o'' b a1 a2 b1 b2=>?_,h.mem,fun s' g' o' b a1 b1=>?_,fun s' g' o' b a1 b1=>?_,h.m0,h.prov,h.keep⟩
 ·rw [zba _ _ _ _ _ _ hg] at ho'
  split at ho'
  ·rename_i hc
   obtain ⟨rfl,rfl⟩:=hc
   cases ho'
   obtain ⟨k1,k2,k3,k4,k5⟩:=h.objs s' g' o ho
   refine ⟨k1,h2,h3,fun hb=>List.eq_nil_of_length_eq_zero (by rw [hl,k4 hb]; rfl),fun b hb=>?_⟩
   obtain ⟨cur,T,vals,e1,e2,e3,e4,e5,e6⟩:=h4 b hb
   exact ⟨cur,T,vals,e1,AReps.mono hz e2,e3,e4,by simpa [hl] using e5,e6⟩
  ·exact (h.objs s' g' o' ho').later hz rfl rfl (fun _ _=>rfl)
 ·obtain ⟨o1,c1⟩:=old a1
  obtain ⟨o2,c2⟩:=old a2
  exact h.inj _ _ _ _ _ _ b c1 c2 b1 b2
 ·obtain ⟨o1,c1⟩:=old a1; exact h.sep _ _ _ b c1 b1
 ·obtain ⟨o1,c1⟩:=old a1; exact h.own _ _ _ b c1 b1
theorem zh1:∀ (ids:List (Nat × Nat)) {st:St} {s g:Nat} {o:AObj},st.obj s g=some o->(s,g)∉ids->(killAll st ids).obj s g=some o
 | [],_,_,_,_,h,_=>h
 | (s',g')::r,st,s,g,o,h,hn=>by
  simp only [List.mem_cons,Prod.mk.injEq,not_or] at hn
  rw [ze0]
  refine zh1 r ?_ hn.2
  rw [zey,if_neg hn.1]; exact h
theorem z95 {e:AV} (h:e.sz=1):e.cells.length=1:=by rw [AV.cells_len (by omega)]; exact h
theorem zs5:∀ {es:List AV},(∀ e∈es,e.cells.length=1)->∀ (i:Nat) (e:AV),es[i]?=some e->∀ c,e.cells=[c]->(es.flatMap AV.cells)[i]?=some c
 | [],_,i,e,h,_,_=>by simp at h
 | u::es,hl,i,e,h,c,hc=>by
  have hu:=hl u (by simp)
  rw [List.flatMap_cons]
  cases i with
  | zero=>simp at h; subst h; rw [hc]; rfl
  | succ i =>
   rw [List.getElem?_append_right (by omega),hu,Nat.add_sub_cancel]
   exact zs5 (fun x hx=>hl x (by simp [hx])) i e (by simpa using h) c hc
theorem zna:∀ {es:List AV},(∀ e∈es,e.cells.length=1)->∀ (i:Nat) (r:AV),r.cells=[r]->(es.set i r).flatMap AV.cells=(es.flatMap AV.cells).set i r
 | [],_,i,r,_=>by simp
 | u::es,hl,i,r,hr=>by
  have hu:=hl u (by simp)
  cases i with
  | zero =>
   simp only [List.set_cons_zero,List.flatMap_cons,hr]
   match hc:u.cells,hu with
   | [c],_=>rfl
  | succ i =>
   simp only [List.set_cons_succ,List.flatMap_cons]
   rw [zna (fun x hx=>hl x (by simp [hx])) i r hr,List.set_append_right _ _ (by omega),hu,Nat.add_sub_cancel]
theorem Weak.freezeEl {s g i:Nat} {o:AObj} {e:AV} {p:PV} (ho:st.obj s g=some o) (he:o.es[i]?=some e) (hp:toPV st FUEL e=some p) (h1:o.sz=1) (hec:e.cells=[e]) (hpc:p.sz=1) (hpc2:(AV.p p).cells=[.p p]) (hp1:p.one=true)
  (hd:(s,g)∉deps st FUEL e):Weak st ((killAll st (deps st FUEL e)).setObj s g ⟨o.sz,o.es.set i (.p p)⟩):=by
 intro K Z w a hs
 generalize hids:deps st FUEL e=ids at hd
 have hM:∀ b o,Z.M b=some o->Mx Z st w ids b=some o:=fun b o hb=>Mx_M hb
 have hz:ZLe Z st { Z with M:=Mx Z st w ids } (killAll st ids):=(ZLe.killAll ids st).trans (ZLe.growM hM)
 have hh:HRep K { Z with M:=Mx Z st w ids } (killAll st ids) w:=by
  refine (HRep.killAll ids hs.heap).grow (Keep.refl w _) _ hM (fun b o hb=>?_) (fun b o hb=>?_) (fun s g o b ho hb=>?_)
  ·rcases zby hb with h|⟨_,h,_⟩
   ·exact hs.heap.mem b o h
   ·exact h
  ·rcases zby hb with h|⟨_,_,s,g,ob,_,e2,e3⟩
   ·exact .inl h
   ·exact .inr (hs.heap.own s g ob b e2 e3)
  ·obtain ⟨ho1,ho2⟩:=zdi ids st ho
   cases hm:Mx Z st w ids b with
   | none=>rfl
   | some y =>
    exfalso
    rcases zby hm with h|⟨_,_,s',g',ob,e1,e2,e3⟩
    ·rw [hs.heap.sep s g o b ho1 hb] at h; cases h
    ·obtain ⟨rfl,rfl⟩:=hs.heap.inj s g s' g' o ob b ho1 e2 hb e3
     exact ho2 e1
 have ho':=zh1 ids ho hd
 have hO:=hs.heap.objs s g o ho
 have hall:∀ e∈o.es,e.cells.length=1:=fun e he=>z95 (by rw [hO.els e he,h1])
 have hss:=hh.same2 ho' (es:=o.es.set i (.p p)) (by simp) (fun x hx=>?_) (fun c hc=>?_) (fun b hb=>?_)
 ·refine ⟨{ Z with M:=Mx Z st w ids },⟨fun u=>?_,hs.defers,hs.size,hss⟩,.of_zle (hz.trans (ZLe.setObj _ _ s g o ⟨o.sz,o.es.set i (.p p)⟩ ho' rfl (by simp)))⟩
  rw [show ((killAll st ids).setObj s g ⟨o.sz,o.es.set i (.p p)⟩).get u=st.get u from zku (s:=(killAll st ids).setObj s g ⟨o.sz,o.es.set i (.p p)⟩) (t:=st) (zcb ids st) u]
  exact ARep.mono (hz.trans (ZLe.setObj _ _ s g o ⟨o.sz,o.es.set i (.p p)⟩ ho' rfl (by simp))) (hs.slots u)
 ·rcases List.mem_or_eq_of_mem_set hx with h|h
  ·exact hO.els x h
  ·rw [h,h1]; exact hpc
 ·rw [zna hall i (.p p) hpc2] at hc
  rcases List.mem_or_eq_of_mem_set hc with h|h
  ·exact hO.one c h
  ·rw [h]; exact hp1
 ·obtain ⟨cur,T,vals,e1,e2,e3,e4,e5,e6⟩:=hO.blk b hb
  refine ⟨cur,T,vals,e1,?_,e3,e4,e5,e6⟩
  rw [zna hall i (.p p) hpc2]
  refine AReps.set i (AReps.mono hz e2) (fun x hx=>.p _ _ ?_)
  obtain ⟨y,hy,hr⟩:=e2.get i e (zs5 hall i e he e hec)
  rw [hx] at hy; cases hy
  exact zgt hs.heap ids FUEL e x p hr hp (fun k hk=>by rw [<- hids]; exact hk)
end
end Go.Ab
