/-
Proofs for the law TransducerWeighs, part 38. Conditions: none.
-/
import Derived.Test.YtbhboeijjgiflaaGreatDoorBP37
set_option maxRecDepth 100000
set_option maxHeartbeats 4000000
set_option linter.all false
namespace Go.Ab
open Enc (enc)
def nx (label:Int) (w:List Int) (a:Nat):Int:=if label=0 then a else if w[a]?=some label then a+1 else -1
theorem zsp (label:Int) (w:List Int) (a:Nat) (hw:w.length<=1000000) (ha:a<=w.length):Sp P F.jq [.int .i64 label,.sl (ens w),.int .i64 a] (.pure (.int .i64 (nx label w a))):=by
 have e1:=i64s a (by omega);refine Sp.vz c.jq fun _=>?_;simp [g.jq,go_sem];refine ⟨fun h=>by simp [nx,h],fun h=>?_⟩;by_cases hk:a<w.length
 ·refine ⟨fun _=>zae hk ?_,fun h=>absurd hk (by omega)⟩;by_cases h2:w[a]=label
  ·simp [go_sem,h2,e1,nx,h,hk]
  ·simp [go_sem,h2,e1,nx,h,hk]
 ·simp [go_sem,hk,nx,h]
theorem zl2 (w:List Int) (m:Int) (hl:w.length<=1000000000):Sp P F.bx [.sl (ens w),.int .i64 m] (.pure (.bool (decide ((1<=m/\m<=32)/\w.length<=256/\∀ x∈w,1<=x/\x<=m)))):=by
 refine Sp.vz c.bx fun _=>?_;simp [g.bx,go_sem];refine zaa (zfe m) rfl ?_;by_cases hm:1<=m/\m<=32;rotate_left
 ·simp [go_sem,hm]
  done
 by_cases h256:w.length<=256;rotate_left
 ·simp [go_sem,hm,h256];exact fun h=>absurd h (by omega)
 have h256':(w.length:Int)<=256:=by omega
 simp [go_sem,hm,h256,h256'];refine ⟨fun h=>absurd h (by omega),?_⟩
 refine zai (S:=fun k:Nat=>mkSt [(0,.p (.sl (ens w))),(1,.p (.int .i64 m)),(5,.p (.int .i64 k))] []) (I:=fun k=>k<=w.length/\∀ i,(hi:i<w.length)->i<k->1<=w[i]/\w[i]<=m) (m:=fun k=>w.length - k) 0
  (Weak.to [0,1,5] [] (by simp [go_sem])) ⟨by omega,fun i _ h=>by omega⟩ ?_
 rintro k ⟨h6,h7⟩ R hn' hr hx;have e1:=i64s k (by omega);simp [g.qi,mkSt,go_sem];refine ⟨fun hk=>?_,fun hk=>hx _ _ ?_⟩
 ·refine zae hk ?_
  try simp [go_sem]
  have hmem:=yk2 hk;refine ⟨fun h1=>hr _ ?_,fun h1=>zae hk ⟨fun h2=>hr _ ?_,fun h2=>?_⟩⟩
  ·simp [go_sem];exact ⟨_,hmem,fun _=>by omega⟩
  ·simp [go_sem];exact ⟨_,hmem,fun _=>by omega⟩
  ·rw [e1];refine hn' (k+1) _ (Weak.to [0,1,5] [] (by simp [mkSt,go_sem])) ⟨by omega,fun i hi h0=>?_⟩ (by omega);by_cases hik:i<k
   ·exact h7 i hi hik
   ·have:i=k:=by omega
    subst this; exact ⟨h1,h2⟩
 ·have:∀ x∈w,1<=x/\x<=m:=fun x hx=>by obtain ⟨i,hi,rfl⟩:=ylq.1 hx;exact h7 i hi (by omega)
  simp [go_sem];exact this
instance:Enc (Int × Int):=⟨fun x=>.agg [.int .i64 x.1,.int .i64 x.2],2,by decide,fun _=>rfl⟩
@[go_sem] theorem ygx (x:Int × Int):enc x=.agg [.int .i64 x.1,.int .i64 x.2]:=rfl
@[go_sem] theorem ycv:Enc.sz (Int × Int)=2:=rfl
def spS (on:List Bool) (p:Int × Int):List Bool:=if on.getD p.1.toNat false=true then on.set p.2.toNat true else on
def spR (ps:List (Int × Int)) (on:List Bool):List Bool:=ps.foldl spS on
def spF (ps:List (Int × Int)):Nat->List Bool->List Bool
 | 0,on=>on
 | n+1,on=>spF ps n (spR ps on)
theorem z9x (on p):(spS on p).length=on.length:=by unfold spS; split<;>simp
theorem zj5:∀ (ps:List (Int × Int)) (on:List Bool),(spR ps on).length=on.length
 | [],_=>rfl
 | p::ps,on=>by rw [show spR (p::ps) on=spR ps (spS on p) from rfl,zj5,z9x]
theorem zd5 (ps:List (Int × Int)):∀ (n:Nat) (on:List Bool),(spF ps n on).length=on.length
 | 0,_=>rfl
 | n+1,on=>by rw [show spF ps (n+1) on=spF ps n (spR ps on) from rfl,zd5,zj5]
theorem zlk (ps:List (Int × Int)):∀ (n:Nat) (on:List Bool),spF ps (n+1) on=spR ps (spF ps n on)
 | 0,_=>rfl
 | n+1,on=>by rw [show spF ps (n+1+1) on=spF ps (n+1) (spR ps on) from rfl,zlk]; rfl
theorem z5r {ps:List (Int × Int)} {k:Nat} (h:k<ps.length) (on:List Bool):spR (ps.take (k+1)) on=spS (spR (ps.take k) on) ps[k]:=by unfold spR;rw [ykb h,yl5]; rfl
theorem toNat_lt {p:Int} {n:Nat} (h:0<=p/\p<n):∃ k:Nat,p=k/\k<n:=⟨p.toNat,by omega,by omega⟩
theorem zyu (on:List Bool) (ps:List (Int × Int)) (hn:on.length<=100000) (hp:ps.length<=100000) (h:∀ p∈ps,(0<=p.1/\p.1<on.length)/\0<=p.2/\p.2<on.length) :
  Sp P F.k9 [.sl (ens on),.sl (ens ps)] (.pure (.sl (ens (spF ps on.length on)))):=by
 refine Sp.vz c.k9 fun _=>?_;simp [g.k9,go_sem];refine ⟨?_,?_⟩
 ·omega
 refine zai (S:=fun k:Nat=>mkSt [(0,.own 1 0 0 on.length),(1,.p (.sl (ens ps))),(5,.p (.int .i64 k))] [(1,⟨1,avs (spF ps k on)⟩)]) (I:=fun k=>k<=on.length) (m:=fun k=>on.length - k) 0
  (Weak.to [0,1,5] [((8,0),1)] (by simp [go_sem,spF])) (by omega) ?_
 rintro k h1 R hn' hr hx;have e3:=i64s k (by omega);simp [g.rl,mkSt,go_sem];refine ⟨fun hk=>?_,fun hk=>hx _ _ ?_⟩
 ·refine zai (S:=fun i:Nat=>mkSt [(0,.own 1 0 0 on.length),(1,.p (.sl (ens ps))),(5,.p (.int .i64 k)),(6,.p (.int .i64 i))] [(1,⟨1,avs (spR (ps.take i) (spF ps k on))⟩)]) (I:=fun i=>i<=ps.length) (m:=fun i=>ps.length - i) 0
   (Weak.to [0,1,5,6] [((1,0),1)] (by simp [go_sem,spR])) (by omega) ?_
  rintro i h2 R2 hn2 hr2 hx2;have e4:=i64s i (by omega);have hlen:(spR (ps.take i) (spF ps k on)).length=on.length:=by rw [zj5,zd5]
  simp [g.rk,mkSt,go_sem];refine ⟨fun hi=>?_,fun hi=>hx2 _ _ ?_⟩
  ·obtain ⟨⟨a1,a2⟩,a3,a4⟩:=h _ (yk2 hi);obtain ⟨x,ex,hx3⟩:=toNat_lt ⟨a1,a2⟩;obtain ⟨y,ey,hy3⟩:=toNat_lt ⟨a3,a4⟩;refine zae hi ?_;simp [go_sem,ex,ey];have hst:=z5r hi (spF ps k on);generalize hcur:spR (List.take i ps) (spF ps k on)=cur at *
   have hst2:spS cur ps[i]=if cur[x]=true then cur.set y true else cur:=by unfold spS;rw [ex,ey,yld,yld,yk9,ykg (by omega),yn4]
   refine ⟨⟨hx3,by omega⟩,zae (by omega) ?_⟩;by_cases hb:cur[x]=true
   ·rw [yj9 hb] at hst2;simp [go_sem,hb];refine zae hi ?_;simp [go_sem,ey,e4];refine ⟨⟨hy3,by omega⟩,zae (by omega) ?_⟩;exact hn2 (i+1) _ (Weak.to [0,1,5,6] [((1,0),1)] (by simp [go_sem,mkSt,hst,hst2])) (by omega) (by omega)
   ·rw [yj8 hb] at hst2;simp [go_sem,hb,e4];exact hn2 (i+1) _ (Weak.to [0,1,5,6] [((1,0),1)] (by simp [go_sem,mkSt,hst,hst2])) (by omega) (by omega)
  ·have:i=ps.length:=by omega
   subst this;simp [go_sem,e3];exact hn' (k+1) _ (Weak.to [0,1,5] [((1,0),1)] (by simp [go_sem,mkSt,zlk])) (by omega) (by omega)
 ·have:k=on.length:=by omega
  subst this;simp [go_sem,zd5];rw [yki (by rw [zd5]; omega)]
def mkS (s:Int) (on:List Bool) (p:Int × Int):List Bool:=if p.1=s then on.set p.2.toNat true else on
def mkR (s:Int) (ps:List (Int × Int)) (n:Nat):List Bool:=ps.foldl (mkS s) (List.replicate n false)
theorem z2p (s on p):(mkS s on p).length=on.length:=by unfold mkS; split<;>simp
theorem z2q (s:Int):∀ (ps:List (Int × Int)) (on:List Bool),(ps.foldl (mkS s) on).length=on.length
 | [],_=>rfl
 | p::ps,on=>by rw [yna,z2q,z2p]
theorem zd7 (s ps n):(mkR s ps n).length=n:=by unfold mkR; rw [z2q]; simp
theorem z60 {ps:List (Int × Int)} {k:Nat} (h:k<ps.length) (s:Int) (n:Nat):mkR s (ps.take (k+1)) n=mkS s (mkR s (ps.take k) n) ps[k]:=by unfold mkR;rw [ykb h,yl5]; rfl
def cycB (n:Nat) (ps:List (Int × Int)) (s:Nat):Bool:=(spF ps n (mkR s ps n)).getD s false
def cycF (n:Nat) (ps:List (Int × Int)):Bool:=(List.range n).any (cycB n ps)
theorem zzq (n:Nat) (ps:List (Int × Int)) (hn:n<=100000) (hp:ps.length<=100000) (h:∀ p∈ps,(0<=p.1/\p.1<n)/\0<=p.2/\p.2<n) :
  Sp P F.j9 [.int .i64 n,.sl (ens ps)] (.pure (.bool (cycF n ps))):=by
 refine Sp.vz c.j9 fun _=>?_;simp [g.j9,go_sem]
 refine zai (S:=fun k:Nat=>mkSt [(0,.p (.int .i64 n)),(1,.p (.sl (ens ps))),(5,.p (.int .i64 k))] []) (I:=fun k=>k<=n/\∀ s,s<k->cycB n ps s=false) (m:=fun k=>n - k) 0
  (Weak.to [0,1,5] [] (by simp [go_sem])) ⟨by omega,fun s h=>by omega⟩ ?_
 rintro k ⟨h1,h2⟩ R hn' hr hx;have e3:=i64s k (by omega);simp [g.q9,mkSt,go_sem];refine ⟨fun hk=>?_,fun hk=>hx _ _ ?_⟩
 ·refine ⟨by omega,?_⟩
  refine zai (S:=fun i:Nat=>mkSt [(0,.p (.int .i64 n)),(1,.p (.sl (ens ps))),(5,.p (.int .i64 k)),(6,.own 1 0 0 n),(7,.p (.int .i64 i))] [(1,⟨1,avs (mkR k (ps.take i) n)⟩)]) (I:=fun i=>i<=ps.length) (m:=fun i=>ps.length - i) 0
   (Weak.to [0,1,5,6,7] [((14,0),1)] (by simp [go_sem,mkR])) (by omega) ?_
  rintro i h3 R2 hn2 hr2 hx2;have e4:=i64s i (by omega);have hlen:=zd7 k (ps.take i) n;simp [g.q8,mkSt,go_sem];refine ⟨fun hi=>?_,fun hi=>hx2 _ _ ?_⟩
  ·obtain ⟨⟨a1,a2⟩,a3,a4⟩:=h _ (yk2 hi);obtain ⟨y,ey,hy3⟩:=toNat_lt ⟨a3,a4⟩;have hst:=z60 hi k n;generalize hcur:mkR k (List.take i ps) n=cur at *
   refine zae hi ?_;have hst2:mkS k cur ps[i]=if ps[i].1=(k:Int) then cur.set y true else cur:=by unfold mkS;rw [ey,yld]
   rw [e4];refine ⟨fun hb=>?_,fun hb=>?_⟩
   ·rw [yj9 hb] at hst2;refine zae hi ?_;rw [ey];refine ⟨⟨by omega,by rw [yld]; omega,by omega⟩,?_⟩;rw [yld];refine zae (by omega) ?_;exact hn2 (i+1) _ (Weak.to [0,1,5,6,7] [((1,0),1)] (by simp [go_sem,mkSt,hst,hst2])) (by omega) (by omega)
   ·rw [yj8 hb] at hst2;exact hn2 (i+1) _ (Weak.to [0,1,5,6,7] [((1,0),1)] (by simp [go_sem,mkSt,hst,hst2])) (by omega) (by omega)
  ·have:i=ps.length:=by omega
   subst this;have hcB:(spF ps n (mkR k ps n))[k]'(by rw [zd5,zd7]; omega)=cycB n ps k:=by unfold cycB;rw [yk9,ykg (by rw [zd5,zd7]; omega),yn4]
   have hsp:=zyu (mkR k ps n) ps (by rw [zd7]; omega) (by omega) (by rw [zd7]; exact h);rw [zd7] at hsp;simp [go_sem,e3];refine zaa hsp (by simp [go_sem,yki,zd7]) ?_;simp [go_sem];refine zae (by rw [zd5,zd7]; omega) ?_;rw [hcB];by_cases hb:cycB n ps k=true
   ·have:cycF n ps=true:=by unfold cycF;rw [List.any_eq_true];exact ⟨k,yky.2 hk,hb⟩
    simp [go_sem,hb];refine hr _ ?_;simp [go_sem,this]
   ·simp [go_sem,hb];rw [e3];refine hn' (k+1) _ (Weak.to [0,1,5] [] (by simp [mkSt,go_sem])) ⟨by omega,fun s hs=>?_⟩ (by omega);by_cases hsk:s<k
    ·exact h2 s hsk
    ·have:s=k:=by omega
     subst this; simpa using hb
 ·have:cycF n ps=false:=by unfold cycF;rw [ypb];intro s hs;rw [h2 s (by have:=yky.1 hs; omega)]; decide
  simp [go_sem,this]
def emF (x:GTArc):Bool:=decide (x.i=0)&&decide (x.o=0)
def emP (l:List GTArc):List (Int × Int):=(l.filter emF).map fun x=>(x.f,x.t)
theorem z7r {l:List GTArc} {k:Nat} (h:k<l.length):emP (l.take (k+1))=emP (l.take k)++if l[k].i=0/\l[k].o=0 then [(l[k].f,l[k].t)] else []:=by
 unfold emP;rw [ykb h,ym3,ylu]
 congr 1
 by_cases hc:l[k].i=0/\l[k].o=0
 ·simp [emF,hc.1,hc.2]
 ·rw [yj8 hc];have:emF l[k]=false:=by
   simp only [emF,Bool.and_eq_false_iff,decide_eq_false_iff_not];by_cases h1:l[k].i=0
   ·exact .inr fun h2=>hc ⟨h1,h2⟩
   ·exact .inl h1
  simp [this]
theorem z3u (l:List GTArc):(emP l).length<=l.length:=by unfold emP; rw [ylj]; exact ylz ..
theorem z3t {l:List GTArc} {p:Int × Int} (h:p∈emP l):∃ x∈l,p=(x.f,x.t):=by unfold emP at h;obtain ⟨x,hx,rfl⟩:=yk4.1 h;exact ⟨x,(ym1.1 hx).1,rfl⟩
noncomputable def emC (t:GTrans):Bool:=cycF t.st.toNat (emP t.nf.arcs)
theorem zkc (t:GTrans):t.nf.arcs.length<=t.arcs.length:=z0k (key:=GTArc.key) (wt:=GTArc.w) (r:=t.ring) (up:=upT t.ring) (fun _ _=>rfl) t.arcs
theorem zz3 (t:GTrans) (n:Nat) (hn:n<=90) (hn1:3<=n) (h:t.sm n) (hl:t.arcs.length<=19) (ok:t.ok):Sp P F.ju [enc t,.bool true,.bool true] (.pure (.bool (emC t))):=by
 have k3:=ztr t.ring t.arcs n hn hn1 hl fun x hx=>⟨h.arcs x hx,(ok.arcs x hx).2.2.2.2.2.2.2.2⟩;rw [zph] at k3;have hA:∀ x∈t.nf.arcs,inT x t.nf:=(zw8 ok).arcs;have hL:=zkc t;have hst:t.nf.st=t.st:=rfl;have hemC:emC t=cycF t.st.toNat (emP t.nf.arcs):=rfl
 change Sp P F.dr _ (.pure (.sl (ens t.nf.arcs))) at k3
 generalize t.nf.arcs=A at *
 obtain ⟨nn,hnn⟩:∃ nn:Nat,t.st=nn:=⟨t.st.toNat,by have:=ok.st1; omega⟩;have st2:=ok.st2;refine Sp.vz c.ju fun _=>?_;simp [g.ju,go_sem];refine zab k3 ?_;simp [go_sem]
 refine zai (S:=fun k:Nat=>mkSt [(1,.p (.bool true)),(2,.p (.bool true)),(3,.ptr 3 0 0 0),(7,.p (.sl (ens A))),(8,.own 1 0 0 (emP (A.take k)).length),(9,.p (.int .i64 k))] [(3,⟨8,[.p (enc t)]⟩),(1,⟨2,avs (emP (A.take k))⟩)]) (I:=fun k=>k<=A.length) (m:=fun k=>A.length - k) 0
  (Weak.nl 8 77 2 rfl (Weak.to [1,2,3,7,8,9] [((3,0),3),((77,0),1)] (by simp [go_sem,emP]))) (by omega) ?_
 rintro k h1 R hn' hr hx;have e3:=i64s k (by omega);simp [g.qn,mkSt,go_sem];refine ⟨fun hk=>?_,fun hk=>hx _ _ ?_⟩
 ·have hst:=z7r hk;have hln:=z3u (A.take k);rw [ylc] at hln;refine zae hk ?_;by_cases hi:A[k].i=0
  ·simp [go_sem,hi];refine zae hk ?_;by_cases ho:A[k].o=0
   ·rw [yj9 ⟨hi,ho⟩] at hst;simp [go_sem,ho];refine zae hk ?_
    try simp [go_sem]
    refine zae hk ?_;simp [go_sem,e3];refine ⟨by omega,hn' (k+1) _ (Weak.to [1,2,3,7,8,9] [((3,0),3),((56,0),1)] (by simp [go_sem,mkSt,hst])) (by omega) (by omega)⟩
   ·rw [yj8 (fun h=>ho h.2),yn3] at hst;simp [go_sem,ho,e3];exact hn' (k+1) _ (Weak.to [1,2,3,7,8,9] [((3,0),3),((1,0),1)] (by simp [go_sem,mkSt,hst])) (by omega) (by omega)
  ·rw [yj8 (fun h=>hi h.1),yn3] at hst;simp [go_sem,hi,e3];exact hn' (k+1) _ (Weak.to [1,2,3,7,8,9] [((3,0),3),((1,0),1)] (by simp [go_sem,mkSt,hst])) (by omega) (by omega)
 ·have:k=A.length:=by omega
  subst this;have hcy:=zzq nn (emP A) (by omega) (yka (z3u A) (by omega)) fun p hp=>by obtain ⟨x,hx,rfl⟩:=z3t hp;obtain ⟨a1,a2,a3,a4,_⟩:=hA x hx;exact ⟨⟨a1,by simp only; omega⟩,a3,by simp only; omega⟩
  simp [go_sem];refine zaa hcy (by simp [go_sem,hnn]) ?_;simp [go_sem,hemC,hnn]
theorem zks (t:GTrans) (n:Nat) (hn:n<=90) (hn1:3<=n) (h:t.sm n) (hl:t.arcs.length<=19) (ok:t.ok):Sp P F.jk [enc t] (.pure (.bool (emC t))):=by have h0:=ok.il;have h2:=ok.fl;have h3:=ok.st2;refine Sp.vz c.jk fun _=>?_;simp [g.jk,go_sem];refine zab (zfo t (h.mono (by omega)) (by omega) (by omega)) ?_;simp [go_sem,ok];refine zab (zz3 t n hn hn1 h hl ok) ?_;simp [go_sem]
structure Meas (r:GRing) where
 mb:Nat->GW->Prop
 lim:Nat
 mono:∀ {m n:Nat} {w:GW},mb m w->m<=n->mb n w
 zero:mb 0 r.zero
 plus:∀ {v w:GW} {n:Nat},v.chk r->w.chk r->mb n v->mb n w->mb (n+1) (r.plus v w)
 times:∀ {v w:GW} {m n:Nat},v.chk r->w.chk r->mb m v->mb n w->mb (m+n+1) (r.times v w)
 plusS:∀ {v w:GW} {n:Nat},n<=lim->v.chk r->w.chk r->mb n v->mb n w->Sp P F.aa [enc r,enc v,enc w] (.pure (enc (r.plus v w)))
 timesS:∀ {v w:GW} {n:Nat},n<=lim->v.chk r->w.chk r->mb n v->mb n w->Sp P F.ae [enc r,enc v,enc w] (.pure (enc (r.times v w)))
def vb {r:GRing} (M:Meas r) (n:Nat) (l:List GW):Prop:=∀ w∈l,w.chk r/\M.mb n w
theorem zdj {r:GRing} {M:Meas r} {m n:Nat} {l:List GW} (h:vb M m l) (k:m<=n):vb M n l:=fun w hw=>⟨(h w hw).1,M.mono (h w hw).2 k⟩
theorem zt4 {r:GRing} {M:Meas r} {n:Nat} {l:List GW} (h:vb M n l) {i:Nat} (hi:i<l.length):(l.getD i r.zero).chk r/\M.mb n (l.getD i r.zero):=by rw [yk9,ykg hi]; exact h _ (yk2 hi)
def addW (r:GRing) (base:List GW) (x:GTArc) (ends:List GW):List GW:=base.set x.f.toNat (r.plus (base.getD x.f.toNat r.zero) (r.times x.w (ends.getD x.t.toNat r.zero)))
theorem zyf (r:GRing) (base:List GW) (x:GTArc) (ends:List GW):(addW r base x ends).length=base.length:=by simp [addW]
def GTArc.fit (x:GTArc) (N:Nat):Prop:=(0<=x.f/\x.f<N)/\0<=x.t/\x.t<N
theorem ycl {r:GRing} (M:Meas r) {base ends:List GW} {x:GTArc} {K c e N:Nat} (hb:vb M K base) (he:vb M e ends) (hx:x.w.chk r/\M.mb c x.w) (fit:x.fit N) (hN:base.length=N) (hE:ends.length=N) (hK:c+e+1<=K) :
  vb M (K+1) (addW r base x ends):=by
 intro w hw;unfold addW at hw;obtain ⟨⟨a1,a2⟩,a3,a4⟩:=fit;rcases ym6 hw with h|h
 ·exact ⟨(hb w h).1,M.mono (hb w h).2 (by omega)⟩
 ·have h1:=zt4 hb (i:=x.f.toNat) (by omega);have h2:=zt4 he (i:=x.t.toNat) (by omega);have h3:=M.times hx.1 h2.1 hx.2 h2.2;rw [h];exact ⟨zch h1.1 (za7 hx.1 h2.1),M.plus h1.1 (za7 hx.1 h2.1) h1.2 (M.mono h3 hK)⟩
theorem zyg {r:GRing} (M:Meas r) {base ends:List GW} {x:GTArc} {K z e N:Nat} (hb:vb M K base) (he:vb M e ends) (hx:x.w.chk r/\M.mb z x.w) (fit:x.fit N) (hN:base.length=N) (hE:ends.length=N) (hK:z+e+1<=K) (hlim:K<=M.lim) (hN2:N<=1000000) :
  Sp P F.fu [enc r,.sl (ens base),enc x,.sl (ens ends)] (.pure (.sl (ens (addW r base x ends)))):=by
 obtain ⟨a12,a34⟩:=fit;obtain ⟨f,ef,hf⟩:=toNat_lt a12;obtain ⟨t,et,ht⟩:=toNat_lt a34;have hf2:f<base.length:=by omega
 have ht2:t<ends.length:=by omega
 have eadd:addW r base x ends=base.set f (r.plus base[f] (r.times x.w ends[t])):=by unfold addW;rw [ef,et,yld,yld,yk9,yk9,ykg hf2,ykg ht2];rfl
 have h1:=hb _ (yk2 hf2);have h2:=he _ (yk2 ht2);have ct:=za7 hx.1 h2.1;have mt:=M.mono (M.times hx.1 h2.1 hx.2 h2.2) hK;have s1:=M.timesS (v:=x.w) (w:=ends[t]) (n:=K) hlim hx.1 h2.1 (M.mono hx.2 (by omega)) (M.mono h2.2 (by omega));have s2:=M.plusS (v:=base[f]) (w:=r.times x.w ends[t]) (n:=K) hlim h1.1 ct h1.2 mt;rw [eadd];refine Sp.vz c.fu fun _=>?_;simp [g.fu,go_sem];refine ⟨by omega,?_⟩;rw [ef,et];simp [go_sem];refine ⟨hf2,zae hf2 (zae ht2 ?_)⟩;refine zab s1 ?_;simp [go_sem];refine zab s2 ?_;simp [go_sem];refine ⟨hf2,zae hf2 ?_⟩;rw [zz0 base f (r.plus base[f] (r.times x.w ends[t])) (by simp [go_sem])];have hlen:(base.set f (r.plus base[f] (r.times x.w ends[t]))).length=base.length:=by simp
 generalize base.set f (r.plus base[f] (r.times x.w ends[t]))=out at *
 rw [<- hlen];simp [go_sem]
section
variable {r:GRing} (M:Meas r)
def accS (r:GRing) (p:GTArc->Option (List GW)) (b:List GW) (x:GTArc):List GW:=match p x with|some e=>addW r b x e|none=>b
def accW (r:GRing) (p:GTArc->Option (List GW)) (l:List GTArc) (base:List GW):List GW:=l.foldl (accS r p) base
theorem zyh (r:GRing) (p:GTArc->Option (List GW)) (b:List GW) (x:GTArc):(accS r p b x).length=b.length:=by
 unfold accS;split
 ·exact zyf ..
 ·rfl
theorem ztt {p:GTArc->Option (List GW)} {l:List GTArc} {k:Nat} (h:k<l.length) (base:List GW):accW r p (l.take (k+1)) base=accS r p (accW r p (l.take k) base) l[k]:=by unfold accW;rw [ykb h,yl5]; rfl
theorem zj1 (p:GTArc->Option (List GW)):∀ (l:List GTArc) (base:List GW),(accW r p l base).length=base.length
 | [],_=>rfl
 | x::l,base=>by show (accW r p l _).length=_;rw [zj1 p l]; exact zyh ..
def fits {r:GRing} (M:Meas r) (c N:Nat) (l:List GTArc):Prop:=∀ x∈l,(x.w.chk r/\M.mb c x.w)/\x.fit N
theorem znz {p:GTArc->Option (List GW)} {c E N K:Nat} (hK:c+E+1<=K):∀ {l:List GTArc} {base:List GW},fits M c N l->(∀ x∈l,∀ e,p x=some e->vb M E e/\e.length=N)->vb M K base->base.length=N->∀ j,vb M (K+l.length+j) (accW r p l base)
 | [],base,_,_,hb,_,j=>zdj hb (by omega)
 | x::l,base,hf,hp,hb,hl,j=>by
  show vb M _ (accW r p l (accS r p base x));have hx:=hf x yl6;have:vb M (K+1) (accS r p base x):=by
   unfold accS;cases h:p x with
   | none=>exact zdj hb (by omega)
   | some e =>
    have h1:=hp x yl6 e h;exact ycl M hb h1.1 hx.1 hx.2 hl h1.2 hK
  have h2:=znz (K:=K+1) (by omega) (fun y hy=>hf y (ykq _ hy)) (fun y hy=>hp y (ykq _ hy)) this ((zyh ..).trans hl) j;rw [ylr,show K+(l.length+1)+j=K+1+l.length+j by omega];exact h2
def zc7 (v:List GW) (x:GTArc):Option (List GW):=if emF x=true then some v else none
def sprN (r:GRing) (l:List GTArc) (base:List GW):Nat->List GW
 | 0=>base
 | n+1=>accW r (zc7 (sprN r l base n)) l base
theorem zp1 (l:List GTArc) (base:List GW) (n:Nat):(sprN r l base n).length=base.length:=by
 cases n with
 | zero=>rfl
 | succ n=>exact zj1 ..
theorem zuc {c N B:Nat} {l:List GTArc} {base:List GW} (hf:fits M c N l) (hb:vb M B base) (hl:base.length=N):∀ n,vb M (B+n*(c+1+l.length)) (sprN r l base n)
 | 0=>zdj hb (by omega)
 | n+1=>by
  have ih:=zuc hf hb hl n;have h2:B<=B+n*(c+1+l.length):=by omega
  have:=znz M (p:=zc7 (sprN r l base n)) (c:=c) (E:=B+n*(c+1+l.length)) (N:=N) (K:=c+(B+n*(c+1+l.length))+1) (yk6 _) hf (fun x _ e he=>by
   unfold zc7 at he;split at he
   ·cases he; exact ⟨ih,by rw [zp1]; exact hl⟩
   ·cases he) (zdj hb (by omega)) hl 0
  have e:B+(n+1)*(c+1+l.length)=c+(B+n*(c+1+l.length))+1+l.length+0:=by rw [yks]; omega
  rw [e]; exact this
theorem z6u {label:Int} {w:List Int} {a:Nat} (ha:a<=w.length):nx label w a<=a+1/\nx label w a<=w.length:=by
 unfold nx;split
 ·omega
 ·split
  ·rename_i h;have:=(ym4.1 h).1;omega
  ·omega
theorem yew {label:Int} {w:List Int} {a:Nat} (h:0<=nx label w a):(a:Int)<=nx label w a:=by
 unfold nx at *
 split
 ·omega
 ·rename_i h1;rw [yj8 h1] at h;split
  ·omega
  ·rename_i h2;rw [yj8 h2] at h; omega
def zcq (wx wy:List Int) (i k:Nat) (rows:Nat->Nat->List GW) (x:GTArc):Option (List GW) :=
 if 0<=nx x.i wx i/\0<=nx x.o wy k/\(i:Int)+k<nx x.i wx i+nx x.o wy k then some (rows (nx x.i wx i).toNat (nx x.o wy k).toNat) else none
theorem zeq {wx wy:List Int} {i k:Nat} (hi:i<=wx.length) (hk:k<=wy.length) {rows:Nat->Nat->List GW} {x:GTArc} {e:List GW} (h:zcq wx wy i k rows x=some e) :
  ∃ a b:Nat,nx x.i wx i=a/\nx x.o wy k=b/\i<=a/\a<=i+1/\k<=b/\b<=k+1/\a<=wx.length/\b<=wy.length/\i+k<a+b/\e=rows a b:=by
 unfold zcq at h;split at h
 ·rename_i hc;obtain ⟨c1,c2,c3⟩:=hc;have h1:=z6u (label:=x.i) hi;have h2:=z6u (label:=x.o) hk;have h3:=yew c1;have h4:=yew c2;cases h;refine ⟨(nx x.i wx i).toNat,(nx x.o wy k).toNat,?_,?_,?_,?_,?_,?_,?_,?_,?_,rfl⟩<;>omega
 ·cases h
def zep (t:GTrans) (wx wy:List Int) (i k:Nat):List GW:=if i=wx.length/\k=wy.length then t.fin else List.replicate t.st.toNat t.ring.zero
def rowW (t:GTrans) (wx wy:List Int) (i k:Nat) (rows:Nat->Nat->List GW):List GW:=accW t.ring (zcq wx wy i k rows) t.arcs (zep t wx wy i k)
def zf5 (t:GTrans) (wx wy:List Int) (i k:Nat) (rows:Nat->Nat->List GW):List GW:=sprN t.ring t.arcs (rowW t wx wy i k rows) t.st.toNat
def valW (t:GTrans) (wx wy:List Int):Nat->Nat->Nat->List GW
 | 0,_,_=>[]
 | n+1,i,k=>zf5 t wx wy i k (valW t wx wy n)
def tabW (t:GTrans) (wx wy:List Int) (i k:Nat):List GW:=valW t wx wy (wx.length - i+(wy.length - k)+1) i k
theorem zps {p q:GTArc->Option (List GW)}:∀ {l:List GTArc} {base:List GW},(∀ x∈l,p x=q x)->accW r p l base=accW r q l base
 | [],_,_=>rfl
 | x::l,base,h=>by
  show accW r p l (accS r p base x)=accW r q l (accS r q base x);have:accS r p base x=accS r q base x:=by unfold accS; rw [h x yl6]
  rw [this];exact zps fun y hy=>h y (ykq _ hy)
theorem zua {wx wy:List Int} {i k:Nat} (hi:i<=wx.length) (hk:k<=wy.length) {f g:Nat->Nat->List GW} (h:∀ a b:Nat,i<=a->k<=b->a<=wx.length->b<=wy.length->i+k<a+b->f a b=g a b) (x:GTArc):zcq wx wy i k f x=zcq wx wy i k g x:=by
 cases hf:zcq wx wy i k f x with
 | none =>
  unfold zcq at *
  split at hf
  ·cases hf
  ·rename_i hc; rw [yj8 hc]
 | some e =>
  obtain ⟨a,b,h1,h2,h3,h4,h5,h6,h7,h8,h9,rfl⟩:=zeq hi hk hf;unfold zcq;rw [h1,h2,yj9 ⟨by omega,by omega,by omega⟩,yld,yld,h a b h3 h5 h7 h8 h9]
theorem zin {t:GTrans} {wx wy:List Int} {i k:Nat} (hi:i<=wx.length) (hk:k<=wy.length) {f g:Nat->Nat->List GW} (h:∀ a b:Nat,i<=a->k<=b->a<=wx.length->b<=wy.length->i+k<a+b->f a b=g a b):zf5 t wx wy i k f=zf5 t wx wy i k g:=by unfold zf5 rowW;rw [zps fun x _=>zua hi hk h x]
theorem zwa {t:GTrans} {wx wy:List Int}:∀ (n m i k:Nat),i<=wx.length->k<=wy.length->wx.length - i+(wy.length - k)<n->wx.length - i+(wy.length - k)<m->valW t wx wy n i k=valW t wx wy m i k
 | 0,_,_,_,_,_,h,_=>by omega
 | _+1,0,_,_,_,_,_,h=>by omega
 | n+1,m+1,i,k,hi,hk,h1,h2=>by show zf5 t wx wy i k _=zf5 t wx wy i k _;exact zin hi hk fun a b a1 a2 a3 a4 a5=>zwa n m a b a3 a4 (by omega) (by omega)
theorem z0n {t:GTrans} {wx wy:List Int} {i k:Nat} (hi:i<=wx.length) (hk:k<=wy.length):tabW t wx wy i k=zf5 t wx wy i k (tabW t wx wy):=by show zf5 t wx wy i k _=_;exact zin hi hk fun a b a1 a2 a3 a4 a5=>zwa _ _ a b a3 a4 (by omega) (by omega)
structure GTrans.fits {r:GRing} (M:Meas r) (c:Nat) (t:GTrans):Prop where
 ring:t.ring=r
 st:0<=t.st/\t.st<=64
 arcs:Go.Ab.fits M c t.st.toNat t.arcs
 ini:vb M c t.ini/\t.ini.length=t.st.toNat
 fin:vb M c t.fin/\t.fin.length=t.st.toNat
 rok:r.ok=true
theorem zv2 (hr:r.ok=true) (n c:Nat):vb M c (List.replicate n r.zero):=fun w hw=>by rw [yoc hw];exact ⟨zbq hr,M.mono M.zero (by omega)⟩
variable {M}
theorem zro {c:Nat} {t:GTrans} (ht:t.fits M c) (wx wy:List Int) (i k:Nat):vb M c (zep t wx wy i k)/\(zep t wx wy i k).length=t.st.toNat:=by
 unfold zep;split
 ·exact ht.fin
 ·rw [ht.ring];exact ⟨zv2 M ht.rok _ _,by simp⟩
theorem zp3 {c:Nat} {t:GTrans} (ht:t.fits M c) (wx wy:List Int) (i k:Nat) (rows:Nat->Nat->List GW):(rowW t wx wy i k rows).length=t.st.toNat:=by unfold rowW;rw [zj1]; exact (zro ht wx wy i k).2
theorem z4h {c:Nat} {t:GTrans} (ht:t.fits M c) (wx wy:List Int) (i k:Nat) (rows:Nat->Nat->List GW):(zf5 t wx wy i k rows).length=t.st.toNat:=by unfold zf5;rw [zp1]; exact zp3 ht ..
def lvl (t:GTrans) (c d:Nat):Nat:=d*((t.st.toNat+1)*(c+1+t.arcs.length))
theorem z09 {c E:Nat} {t:GTrans} (ht:t.fits M c) {wx wy:List Int} {i k:Nat} {rows:Nat->Nat->List GW} (hr:∀ x∈t.arcs,∀ e,zcq wx wy i k rows x=some e->vb M E e/\e.length=t.st.toNat):vb M (E+(c+1+t.arcs.length)) (rowW t wx wy i k rows):=by have hb:=zro ht wx wy i k;have:=znz M (p:=zcq wx wy i k rows) (c:=c) (E:=E) (N:=t.st.toNat) (K:=c+E+1) (yk6 _) ht.arcs hr (zdj hb.1 (by omega)) hb.2 0;unfold rowW;rw [ht.ring];exact zdj this (by omega)
theorem z8g {c E:Nat} {t:GTrans} (ht:t.fits M c) {wx wy:List Int} {i k:Nat} {rows:Nat->Nat->List GW} (hr:∀ x∈t.arcs,∀ e,zcq wx wy i k rows x=some e->vb M E e/\e.length=t.st.toNat):vb M (E+(t.st.toNat+1)*(c+1+t.arcs.length)) (zf5 t wx wy i k rows):=by have h1:=z09 ht hr;have hl:t.ring=r:=ht.ring;unfold zf5;rw [ht.ring];refine zdj (zuc M ht.arcs h1 (zp3 ht ..) t.st.toNat) ?_;rw [ykp]; omega
theorem zt5 {c:Nat} {t:GTrans} (ht:t.fits M c) (wx wy:List Int):∀ (n i k:Nat),i<=wx.length->k<=wy.length->wx.length - i+(wy.length - k)<n->vb M (lvl t c n) (valW t wx wy n i k)/\(valW t wx wy n i k).length=t.st.toNat
 | 0,_,_,_,_,h=>by omega
 | n+1,i,k,hi,hk,h=>by
  refine ⟨?_,z4h ht ..⟩;have:lvl t c (n+1)=lvl t c n+(t.st.toNat+1)*(c+1+t.arcs.length):=by unfold lvl; rw [yks]
  rw [this];refine z8g ht fun x _ e he=>?_;obtain ⟨a,b,h1,h2,h3,h4,h5,h6,h7,h8,h9,rfl⟩:=zeq hi hk he;exact zt5 ht wx wy n a b h7 h8 (by omega)
theorem zxf (t:GTrans) (c:Nat) {m n:Nat} (h:m<=n):lvl t c m<=lvl t c n:=ykd _ h
theorem z9s {c:Nat} {t:GTrans} (ht:t.fits M c) {wx wy:List Int} {i k:Nat} (hi:i<=wx.length) (hk:k<=wy.length):vb M (lvl t c (wx.length+wy.length+1)) (tabW t wx wy i k)/\(tabW t wx wy i k).length=t.st.toNat:=by have:=zt5 ht wx wy (wx.length - i+(wy.length - k)+1) i k hi hk (by omega);exact ⟨zdj this.1 (zxf t c (by omega)),this.2⟩
theorem zt9 {c:Nat} {t:GTrans} (ht:t.fits M c) {wx wy:List Int} {i k:Nat} (hi:i<=wx.length) (hk:k<=wy.length):∀ x∈t.arcs,∀ e,zcq wx wy i k (tabW t wx wy) x=some e->vb M (lvl t c (wx.length+wy.length)) e/\e.length=t.st.toNat:=fun x _ e he=>by obtain ⟨a,b,h1,h2,h3,h4,h5,h6,h7,h8,h9,rfl⟩:=zeq hi hk he;have:=zt5 ht wx wy (wx.length - a+(wy.length - b)+1) a b h7 h8 (by omega);exact ⟨zdj this.1 (zxf t c (by omega)),this.2⟩
def sumW (r:GRing) (ini row:List GW):GW:=(ini.zip row).foldl (fun s p=>r.plus s (r.times p.1 p.2)) r.zero
def sumN (r:GRing) (ini row:List GW) (n:Nat):GW:=((ini.zip row).take n).foldl (fun s p=>r.plus s (r.times p.1 p.2)) r.zero
theorem zi0 {ini row:List GW} {n:Nat} (h1:n<ini.length) (h2:n<row.length):sumN r ini row (n+1)=r.plus (sumN r ini row n) (r.times ini[n] row[n]):=by unfold sumN;rw [ykb (by rw [List.length_zip]; omega),yl5];simp
theorem zpz (hr:r.ok=true) {c E:Nat} {ini row:List GW} (hi:vb M c ini) (he:vb M E row):∀ n,n<=ini.length->n<=row.length->(sumN r ini row n).chk r/\M.mb (c+E+1+n) (sumN r ini row n)
 | 0,_,_=>⟨zbq hr,M.mono M.zero (by omega)⟩
 | n+1,h1,h2=>by have ih:=zpz hr hi he n (by omega) (by omega);have k1:=hi _ (yk2 (show n<ini.length by omega));have k2:=he _ (yk2 (show n<row.length by omega));rw [zi0 (by omega) (by omega)];have ct:=za7 k1.1 k2.1;exact ⟨zch ih.1 ct,M.plus ih.1 ct ih.2 (M.mono (M.times k1.1 k2.1 k1.2 k2.2) (Nat.le_add_right _ _))⟩
theorem zi1 {ini row:List GW} {n:Nat} (h:ini.length<=n):sumN r ini row n=sumW r ini row:=by unfold sumN sumW;rw [yki (by rw [List.length_zip]; omega)]
end
noncomputable def wgt (t:GTrans) (wx wy:List Int):GW:=sumW t.ring t.ini (tabW t wx wy 0 0)
theorem zs7 {r:GRing} {M:Meas r} {z N:Nat} {l:List GTArc} (h:fits M z N l) (k:Nat):fits M z N (l.take k):=fun x hx=>h x (ykl hx)
theorem zub {r:GRing} (M:Meas r) {z B:Nat} (t:GTrans) (ht:t.fits M z) {base:List GW} (hb:vb M B base) (hl:base.length=t.st.toNat) (hal:t.arcs.length<=1000000) (hlim:B+t.st.toNat*(z+1+t.arcs.length)<=M.lim) :
  Sp P F.jr [enc t,.sl (ens base)] (.pure (.sl (ens (sprN t.ring t.arcs base t.st.toNat)))):=by
 have hr:=ht.ring;subst hr;have hst:=ht.st;obtain ⟨nn,hnn⟩:∃ nn:Nat,t.st=nn:=⟨t.st.toNat,by omega⟩;have harcs:=ht.arcs;have hN:t.st.toNat=nn:=by omega
 have hle:nn<=64:=by omega
 rw [hN] at harcs hl hlim ⊢;refine Sp.vz c.jr fun _=>?_;simp [g.jr,go_sem]
 refine zai (S:=fun k:Nat=>mkSt [(1,.p (.sl (ens base))),(2,.ptr 2 0 0 0),(5,.p (.sl (ens (sprN t.ring t.arcs base k)))),(6,.p (.int .i64 k))] [(2,⟨8,[.p (enc t)]⟩)]) (I:=fun k=>k<=nn) (m:=fun k=>nn - k) 0
  (Weak.to [1,2,5,6] [((2,0),2)] (by simp [go_sem,sprN])) (by omega) ?_
 rintro k h1 R hn' hr hx;have e3:=i64s k (by omega);have hv:=zuc M harcs hb hl k;have hvl:(sprN t.ring t.arcs base k).length=nn:=by rw [zp1]; exact hl
 have hsucc:sprN t.ring t.arcs base (k+1)=accW t.ring (zc7 (sprN t.ring t.arcs base k)) t.arcs base:=rfl;simp [g.qk,mkSt,go_sem,hnn];generalize hcur:sprN t.ring t.arcs base k=v at *
 refine ⟨fun hk=>?_,fun hk=>hx _ _ ?_⟩
 ·have hsz:z+(B+k*(z+1+t.arcs.length))+1+t.arcs.length<=M.lim:=by have h5:(k+1)*(z+1+t.arcs.length)<=nn*(z+1+t.arcs.length):=ykd _ (by omega);rw [yks] at h5; omega
  refine zai (S:=fun j:Nat=>mkSt [(1,.p (.sl (ens base))),(2,.ptr 2 0 0 0),(5,.p (.sl (ens v))),(6,.p (.int .i64 k)),(7,.p (.sl (ens (accW t.ring (zc7 v) (t.arcs.take j) base)))),(8,.p (.int .i64 j))] [(2,⟨8,[.p (enc t)]⟩)]) (I:=fun j=>j<=t.arcs.length) (m:=fun j=>t.arcs.length - j) 0
   (Weak.to [1,2,5,6,7,8] [((2,0),2)] (by simp [go_sem,accW,hnn])) (by omega) ?_
  rintro j h2 R2 hn2 hr2 hx2;have e4:=i64s j (by omega);simp [g.qj,mkSt,go_sem];refine ⟨fun hj=>?_,fun hj=>hx2 _ _ ?_⟩
  ·have hst:=ztt (r:=t.ring) (p:=zc7 v) hj base;unfold accS at hst;have hx1:=harcs _ (yk2 hj);have hacc:=znz M (p:=zc7 v) (c:=z) (E:=B+k*(z+1+t.arcs.length)) (N:=nn) (K:=z+(B+k*(z+1+t.arcs.length))+1) (yk6 _) (zs7 harcs j) (fun x _ e he=>by
    unfold zc7 at he;split at he
    ·cases he; exact ⟨hv,hvl⟩
    ·cases he) (zdj hb (by have:=ylk (k*(z+1+t.arcs.length)); omega)) hl 0
   have hlen:=zj1 (r:=t.ring) (zc7 v) (t.arcs.take j) base;have htl:(t.arcs.take j).length=j:=by rw [ylc]; omega
   rw [htl,ylb] at hacc;generalize haq:accW t.ring (zc7 v) (t.arcs.take j) base=acc at *
   refine zae hj ?_;by_cases hi:t.arcs[j].i=0
   ·simp [go_sem,hi];refine zae hj ?_;by_cases ho:t.arcs[j].o=0
    ·have hp:zc7 v t.arcs[j]=some v:=by simp [zc7,emF,hi,ho]
     rw [hp] at hst;simp [go_sem,ho];refine zae hj ?_
     try simp [go_sem]
     have hcall:=zyg M (x:=t.arcs[j]) hacc hv hx1.1 hx1.2 (by omega) hvl (by omega) (by omega) (by omega);refine zab hcall ?_;simp [go_sem,e4];exact hn2 (j+1) _ (Weak.to [1,2,5,6,7,8] [((2,0),2)] (by simp [go_sem,mkSt,hst])) (by omega) (by omega)
    ·have hp:zc7 v t.arcs[j]=none:=by simp [zc7,emF,ho]
     rw [hp] at hst;simp [go_sem,ho,e4];exact hn2 (j+1) _ (Weak.to [1,2,5,6,7,8] [((2,0),2)] (by simp [go_sem,mkSt,hst])) (by omega) (by omega)
   ·have hp:zc7 v t.arcs[j]=none:=by simp [zc7,emF,hi]
    rw [hp] at hst;simp [go_sem,hi,e4];exact hn2 (j+1) _ (Weak.to [1,2,5,6,7,8] [((2,0),2)] (by simp [go_sem,mkSt,hst])) (by omega) (by omega)
  ·have:j=t.arcs.length:=by omega
   subst this;simp [go_sem,e3];exact hn' (k+1) _ (Weak.to [1,2,5,6] [((2,0),2)] (by simp [go_sem,mkSt,hsucc])) (by omega) (by omega)
 ·have:k=nn:=by omega
  subst this;simp [go_sem,hcur]
end Go.Ab
