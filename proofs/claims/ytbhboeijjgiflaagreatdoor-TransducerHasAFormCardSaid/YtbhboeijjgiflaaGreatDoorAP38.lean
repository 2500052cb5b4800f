/-
Proofs for the law TransducerHasAForm, part 38. Conditions: none.
-/
import Derived.Test.YtbhboeijjgiflaaGreatDoorAP37
import Derived.Test.YtbhboeijjgiflaaGreatDoorAP29
set_option maxRecDepth 100000
set_option maxHeartbeats 4000000
set_option linter.all false
namespace Go.Ab
open Enc (enc)
def nx (label:Int) (w:List Int) (a:Nat):Int:=if label=0 then a else if w[a]?=some label then a+1 else -1
instance:Enc (Int × Int):=⟨fun x=>.agg [.int .i64 x.1,.int .i64 x.2],2,by decide,fun _=>rfl⟩
@[go_sem] theorem yfw (x:Int × Int):enc x=.agg [.int .i64 x.1,.int .i64 x.2]:=rfl
@[go_sem] theorem ybu:Enc.sz (Int × Int)=2:=rfl
def spS (on:List Bool) (p:Int × Int):List Bool:=if on.getD p.1.toNat false=true then on.set p.2.toNat true else on
def spR (ps:List (Int × Int)) (on:List Bool):List Bool:=ps.foldl spS on
def spF (ps:List (Int × Int)):Nat->List Bool->List Bool
 | 0,on=>on
 | n+1,on=>spF ps n (spR ps on)
theorem z8y (on p):(spS on p).length=on.length:=by unfold spS; split<;>simp
theorem zjt:∀ (ps:List (Int × Int)) (on:List Bool),(spR ps on).length=on.length
 | [],_=>rfl
 | p::ps,on=>by rw [show spR (p::ps) on=spR ps (spS on p) from rfl,zjt,z8y]
theorem zd2 (ps:List (Int × Int)):∀ (n:Nat) (on:List Bool),(spF ps n on).length=on.length
 | 0,_=>rfl
 | n+1,on=>by rw [show spF ps (n+1) on=spF ps n (spR ps on) from rfl,zd2,zjt]
theorem zld (ps:List (Int × Int)):∀ (n:Nat) (on:List Bool),spF ps (n+1) on=spR ps (spF ps n on)
 | 0,_=>rfl
 | n+1,on=>by rw [show spF ps (n+1+1) on=spF ps (n+1) (spR ps on) from rfl,zld]; rfl
theorem z4n {ps:List (Int × Int)} {k:Nat} (h:k<ps.length) (on:List Bool):spR (ps.take (k+1)) on=spS (spR (ps.take k) on) ps[k]:=by unfold spR;rw [yj7 h,yjr]; rfl
theorem toNat_lt {p:Int} {n:Nat} (h:0<=p/\p<n):∃ k:Nat,p=k/\k<n:=⟨p.toNat,by omega,by omega⟩
theorem zxs (on:List Bool) (ps:List (Int × Int)) (hn:on.length<=100000) (hp:ps.length<=100000) (h:∀ p∈ps,(0<=p.1/\p.1<on.length)/\0<=p.2/\p.2<on.length) :
  Sp P F.kz [.sl (ens on),.sl (ens ps)] (.pure (.sl (ens (spF ps on.length on)))):=by
 refine Sp.vz c.kz fun _=>?_;simp [g.kz,go_sem];refine ⟨?_,?_⟩
 ·omega
 refine zai (S:=fun k:Nat=>mkSt [(0,.own 1 0 0 on.length),(1,.p (.sl (ens ps))),(5,.p (.int .i64 k))] [(1,⟨1,avs (spF ps k on)⟩)]) (I:=fun k=>k<=on.length) (m:=fun k=>on.length - k) 0
  (Weak.to [0,1,5] [((8,0),1)] (by simp [go_sem,spF])) (by omega) ?_
 rintro k h1 R hn' hr hx;have e3:=i64s k (by omega);simp [g.rg,mkSt,go_sem];refine ⟨fun hk=>?_,fun hk=>hx _ _ ?_⟩
 ·refine zai (S:=fun i:Nat=>mkSt [(0,.own 1 0 0 on.length),(1,.p (.sl (ens ps))),(5,.p (.int .i64 k)),(6,.p (.int .i64 i))] [(1,⟨1,avs (spR (ps.take i) (spF ps k on))⟩)]) (I:=fun i=>i<=ps.length) (m:=fun i=>ps.length - i) 0
   (Weak.to [0,1,5,6] [((1,0),1)] (by simp [go_sem,spR])) (by omega) ?_
  rintro i h2 R2 hn2 hr2 hx2;have e4:=i64s i (by omega);have hlen:(spR (ps.take i) (spF ps k on)).length=on.length:=by rw [zjt,zd2]
  simp [g.rf,mkSt,go_sem];refine ⟨fun hi=>?_,fun hi=>hx2 _ _ ?_⟩
  ·obtain ⟨⟨a1,a2⟩,a3,a4⟩:=h _ (yj2 hi);obtain ⟨x,ex,hx3⟩:=toNat_lt ⟨a1,a2⟩;obtain ⟨y,ey,hy3⟩:=toNat_lt ⟨a3,a4⟩;refine zae hi ?_;simp [go_sem,ex,ey];have hst:=z4n hi (spF ps k on);generalize hcur:spR (List.take i ps) (spF ps k on)=cur at *
   have hst2:spS cur ps[i]=if cur[x]=true then cur.set y true else cur:=by unfold spS;rw [ex,ey,yk4,yk4,yj4,yj8 (by omega),yks]
   refine ⟨⟨hx3,by omega⟩,zae (by omega) ?_⟩;by_cases hb:cur[x]=true
   ·rw [yj1 hb] at hst2;simp [go_sem,hb];refine zae hi ?_;simp [go_sem,ey,e4];refine ⟨⟨hy3,by omega⟩,zae (by omega) ?_⟩;exact hn2 (i+1) _ (Weak.to [0,1,5,6] [((1,0),1)] (by simp [go_sem,mkSt,hst,hst2])) (by omega) (by omega)
   ·rw [yj0 hb] at hst2;simp [go_sem,hb,e4];exact hn2 (i+1) _ (Weak.to [0,1,5,6] [((1,0),1)] (by simp [go_sem,mkSt,hst,hst2])) (by omega) (by omega)
  ·have:i=ps.length:=by omega
   subst this;simp [go_sem,e3];exact hn' (k+1) _ (Weak.to [0,1,5] [((1,0),1)] (by simp [go_sem,mkSt,zld])) (by omega) (by omega)
 ·have:k=on.length:=by omega
  subst this;simp [go_sem,zd2];rw [yjl (by rw [zd2]; omega)]
def mkS (s:Int) (on:List Bool) (p:Int × Int):List Bool:=if p.1=s then on.set p.2.toNat true else on
def mkR (s:Int) (ps:List (Int × Int)) (n:Nat):List Bool:=ps.foldl (mkS s) (List.replicate n false)
theorem z1m (s on p):(mkS s on p).length=on.length:=by unfold mkS; split<;>simp
theorem z1n (s:Int):∀ (ps:List (Int × Int)) (on:List Bool),(ps.foldl (mkS s) on).length=on.length
 | [],_=>rfl
 | p::ps,on=>by rw [ylb,z1n,z1m]
theorem zd4 (s ps n):(mkR s ps n).length=n:=by unfold mkR; rw [z1n]; simp
theorem z5t {ps:List (Int × Int)} {k:Nat} (h:k<ps.length) (s:Int) (n:Nat):mkR s (ps.take (k+1)) n=mkS s (mkR s (ps.take k) n) ps[k]:=by unfold mkR;rw [yj7 h,yjr]; rfl
def cycB (n:Nat) (ps:List (Int × Int)) (s:Nat):Bool:=(spF ps n (mkR s ps n)).getD s false
def cycF (n:Nat) (ps:List (Int × Int)):Bool:=(List.range n).any (cycB n ps)
theorem zyo (n:Nat) (ps:List (Int × Int)) (hn:n<=100000) (hp:ps.length<=100000) (h:∀ p∈ps,(0<=p.1/\p.1<n)/\0<=p.2/\p.2<n) :
  Sp P F.j7 [.int .i64 n,.sl (ens ps)] (.pure (.bool (cycF n ps))):=by
 refine Sp.vz c.j7 fun _=>?_;simp [g.j7,go_sem]
 refine zai (S:=fun k:Nat=>mkSt [(0,.p (.int .i64 n)),(1,.p (.sl (ens ps))),(5,.p (.int .i64 k))] []) (I:=fun k=>k<=n/\∀ s,s<k->cycB n ps s=false) (m:=fun k=>n - k) 0
  (Weak.to [0,1,5] [] (by simp [go_sem])) ⟨by omega,fun s h=>by omega⟩ ?_
 rintro k ⟨h1,h2⟩ R hn' hr hx;have e3:=i64s k (by omega);simp [g.qx,mkSt,go_sem];refine ⟨fun hk=>?_,fun hk=>hx _ _ ?_⟩
 ·refine ⟨by omega,?_⟩
  refine zai (S:=fun i:Nat=>mkSt [(0,.p (.int .i64 n)),(1,.p (.sl (ens ps))),(5,.p (.int .i64 k)),(6,.own 1 0 0 n),(7,.p (.int .i64 i))] [(1,⟨1,avs (mkR k (ps.take i) n)⟩)]) (I:=fun i=>i<=ps.length) (m:=fun i=>ps.length - i) 0
   (Weak.to [0,1,5,6,7] [((14,0),1)] (by simp [go_sem,mkR])) (by omega) ?_
  rintro i h3 R2 hn2 hr2 hx2;have e4:=i64s i (by omega);have hlen:=zd4 k (ps.take i) n;simp [g.qw,mkSt,go_sem];refine ⟨fun hi=>?_,fun hi=>hx2 _ _ ?_⟩
  ·obtain ⟨⟨a1,a2⟩,a3,a4⟩:=h _ (yj2 hi);obtain ⟨y,ey,hy3⟩:=toNat_lt ⟨a3,a4⟩;have hst:=z5t hi k n;generalize hcur:mkR k (List.take i ps) n=cur at *
   refine zae hi ?_;have hst2:mkS k cur ps[i]=if ps[i].1=(k:Int) then cur.set y true else cur:=by unfold mkS;rw [ey,yk4]
   rw [e4];refine ⟨fun hb=>?_,fun hb=>?_⟩
   ·rw [yj1 hb] at hst2;refine zae hi ?_;rw [ey];refine ⟨⟨by omega,by rw [yk4]; omega,by omega⟩,?_⟩;rw [yk4];refine zae (by omega) ?_;exact hn2 (i+1) _ (Weak.to [0,1,5,6,7] [((1,0),1)] (by simp [go_sem,mkSt,hst,hst2])) (by omega) (by omega)
   ·rw [yj0 hb] at hst2;exact hn2 (i+1) _ (Weak.to [0,1,5,6,7] [((1,0),1)] (by simp [go_sem,mkSt,hst,hst2])) (by omega) (by omega)
  ·have:i=ps.length:=by omega
   subst this;have hcB:(spF ps n (mkR k ps n))[k]'(by rw [zd2,zd4]; omega)=cycB n ps k:=by unfold cycB;rw [yj4,yj8 (by rw [zd2,zd4]; omega),yks]
   have hsp:=zxs (mkR k ps n) ps (by rw [zd4]; omega) (by omega) (by rw [zd4]; exact h);rw [zd4] at hsp;simp [go_sem,e3];refine zaa hsp (by simp [go_sem,yjl,zd4]) ?_;simp [go_sem];refine zae (by rw [zd2,zd4]; omega) ?_;rw [hcB];by_cases hb:cycB n ps k=true
   ·have:cycF n ps=true:=by unfold cycF;rw [List.any_eq_true];exact ⟨k,yjk.2 hk,hb⟩
    simp [go_sem,hb];refine hr _ ?_;simp [go_sem,this]
   ·simp [go_sem,hb];rw [e3];refine hn' (k+1) _ (Weak.to [0,1,5] [] (by simp [mkSt,go_sem])) ⟨by omega,fun s hs=>?_⟩ (by omega);by_cases hsk:s<k
    ·exact h2 s hsk
    ·have:s=k:=by omega
     subst this; simpa using hb
 ·have:cycF n ps=false:=by unfold cycF;rw [List.any_eq_false];intro s hs;rw [h2 s (by have:=yjk.1 hs; omega)]; decide
  simp [go_sem,this]
def emF (x:GTArc):Bool:=decide (x.i=0)&&decide (x.o=0)
def emP (l:List GTArc):List (Int × Int):=(l.filter emF).map fun x=>(x.f,x.t)
theorem z6o {l:List GTArc} {k:Nat} (h:k<l.length):emP (l.take (k+1))=emP (l.take k)++if l[k].i=0/\l[k].o=0 then [(l[k].f,l[k].t)] else []:=by
 unfold emP;rw [yj7 h,yjy,ykj]
 congr 1
 by_cases hc:l[k].i=0/\l[k].o=0
 ·simp [emF,hc.1,hc.2]
 ·rw [yj0 hc];have:emF l[k]=false:=by
   simp only [emF,Bool.and_eq_false_iff,decide_eq_false_iff_not];by_cases h1:l[k].i=0
   ·exact .inr fun h2=>hc ⟨h1,h2⟩
   ·exact .inl h1
  simp [this]
theorem z2q (l:List GTArc):(emP l).length<=l.length:=by unfold emP; rw [yk2]; exact yjp ..
theorem z2p {l:List GTArc} {p:Int × Int} (h:p∈emP l):∃ x∈l,p=(x.f,x.t):=by unfold emP at h;obtain ⟨x,hx,rfl⟩:=yj3.1 h;exact ⟨x,(yk1.1 hx).1,rfl⟩
noncomputable def emC (t:GTrans):Bool:=cycF t.st.toNat (emP t.nf.arcs)
theorem zt8 (t:GTrans):t.nf.arcs.length<=t.arcs.length:=zzi (key:=GTArc.key) (wt:=GTArc.w) (r:=t.ring) (up:=upT t.ring) (fun _ _=>rfl) t.arcs
theorem zy2 (t:GTrans) (n:Nat) (hn:n<=90) (hn1:3<=n) (h:t.sm n) (hl:t.arcs.length<=19) (ok:t.ok):Sp P F.jn [enc t,.bool true,.bool true] (.pure (.bool (emC t))):=by
 have k3:=zs8 t.ring t.arcs n hn hn1 hl fun x hx=>⟨h.arcs x hx,(ok.arcs x hx).2.2.2.2.2.2.2.2⟩;rw [zo3] at k3;have hA:∀ x∈t.nf.arcs,inT x t.nf:=(zwc ok).arcs;have hL:=zt8 t;have hst:t.nf.st=t.st:=rfl;have hemC:emC t=cycF t.st.toNat (emP t.nf.arcs):=rfl
 change Sp P F.dm _ (.pure (.sl (ens t.nf.arcs))) at k3
 generalize t.nf.arcs=A at *
 obtain ⟨nn,hnn⟩:∃ nn:Nat,t.st=nn:=⟨t.st.toNat,by have:=ok.st1; omega⟩;have st2:=ok.st2;refine Sp.vz c.jn fun _=>?_;simp [g.jn,go_sem];refine zab k3 ?_;simp [go_sem]
 refine zai (S:=fun k:Nat=>mkSt [(1,.p (.bool true)),(2,.p (.bool true)),(3,.ptr 3 0 0 0),(7,.p (.sl (ens A))),(8,.own 1 0 0 (emP (A.take k)).length),(9,.p (.int .i64 k))] [(3,⟨8,[.p (enc t)]⟩),(1,⟨2,avs (emP (A.take k))⟩)]) (I:=fun k=>k<=A.length) (m:=fun k=>A.length - k) 0
  (Weak.nl 8 77 2 rfl (Weak.to [1,2,3,7,8,9] [((3,0),3),((77,0),1)] (by simp [go_sem,emP]))) (by omega) ?_
 rintro k h1 R hn' hr hx;have e3:=i64s k (by omega);simp [g.qd,mkSt,go_sem];refine ⟨fun hk=>?_,fun hk=>hx _ _ ?_⟩
 ·have hst:=z6o hk;have hln:=z2q (A.take k);rw [yk6] at hln;refine zae hk ?_;by_cases hi:A[k].i=0
  ·simp [go_sem,hi];refine zae hk ?_;by_cases ho:A[k].o=0
   ·rw [yj1 ⟨hi,ho⟩] at hst;simp [go_sem,ho];refine zae hk ?_
    try simp [go_sem]
    refine zae hk ?_;simp [go_sem,e3];refine ⟨by omega,hn' (k+1) _ (Weak.to [1,2,3,7,8,9] [((3,0),3),((56,0),1)] (by simp [go_sem,mkSt,hst])) (by omega) (by omega)⟩
   ·rw [yj0 (fun h=>ho h.2),yko] at hst;simp [go_sem,ho,e3];exact hn' (k+1) _ (Weak.to [1,2,3,7,8,9] [((3,0),3),((1,0),1)] (by simp [go_sem,mkSt,hst])) (by omega) (by omega)
  ·rw [yj0 (fun h=>hi h.1),yko] at hst;simp [go_sem,hi,e3];exact hn' (k+1) _ (Weak.to [1,2,3,7,8,9] [((3,0),3),((1,0),1)] (by simp [go_sem,mkSt,hst])) (by omega) (by omega)
 ·have:k=A.length:=by omega
  subst this;have hcy:=zyo nn (emP A) (by omega) (yj6 (z2q A) (by omega)) fun p hp=>by obtain ⟨x,hx,rfl⟩:=z2p hp;obtain ⟨a1,a2,a3,a4,_⟩:=hA x hx;exact ⟨⟨a1,by simp only; omega⟩,a3,by simp only; omega⟩
  simp [go_sem];refine zaa hcy (by simp [go_sem,hnn]) ?_;simp [go_sem,hemC,hnn]
theorem zy0 (t:GTrans) (n:Nat) (hn:n<=90) (hn1:3<=n) (h:t.sm n) (hl:t.arcs.length<=19) (ok:t.ok):Sp P F.bj [enc t] (.pure (.bool (emC t))):=by have h0:=ok.il;have h2:=ok.fl;have h3:=ok.st2;refine Sp.vz c.bj fun _=>?_;simp [g.bj,go_sem];refine zab (zhf t (h.mono (by omega)) (by omega) (by omega)) ?_;simp [go_sem,ok];refine zab (zy2 t n hn hn1 h hl ok) ?_;simp [go_sem]
structure Meas (r:GRing) where
 mb:Nat->GW->Prop
 lim:Nat
 mono:∀ {m n:Nat} {w:GW},mb m w->m<=n->mb n w
 zero:mb 0 r.zero
 plus:∀ {v w:GW} {n:Nat},v.chk r->w.chk r->mb n v->mb n w->mb (n+1) (r.plus v w)
 times:∀ {v w:GW} {m n:Nat},v.chk r->w.chk r->mb m v->mb n w->mb (m+n+1) (r.times v w)
 plusS:∀ {v w:GW} {n:Nat},n<=lim->v.chk r->w.chk r->mb n v->mb n w->Sp P F.aa [enc r,enc v,enc w] (.pure (enc (r.plus v w)))
 timesS:∀ {v w:GW} {n:Nat},n<=lim->v.chk r->w.chk r->mb n v->mb n w->Sp P F.ae [enc r,enc v,enc w] (.pure (enc (r.times v w)))
def vb {r:GRing} (M:Meas r) (n:Nat) (l:List GW):Prop:=∀ w∈l,w.chk r/\M.mb n w
theorem zzb {r:GRing} {M:Meas r} {m n:Nat} {l:List GW} (h:vb M m l) (k:m<=n):vb M n l:=fun w hw=>⟨(h w hw).1,M.mono (h w hw).2 k⟩
theorem z8k {r:GRing} {M:Meas r} {n:Nat} {l:List GW} (h:vb M n l) {i:Nat} (hi:i<l.length):(l.getD i r.zero).chk r/\M.mb n (l.getD i r.zero):=by rw [yj4,yj8 hi]; exact h _ (yj2 hi)
def addW (r:GRing) (base:List GW) (x:GTArc) (ends:List GW):List GW:=base.set x.f.toNat (r.plus (base.getD x.f.toNat r.zero) (r.times x.w (ends.getD x.t.toNat r.zero)))
theorem z7i (r:GRing) (base:List GW) (x:GTArc) (ends:List GW):(addW r base x ends).length=base.length:=by simp [addW]
def GTArc.fit (x:GTArc) (N:Nat):Prop:=(0<=x.f/\x.f<N)/\0<=x.t/\x.t<N
section
variable {r:GRing} (M:Meas r)
def accS (r:GRing) (p:GTArc->Option (List GW)) (b:List GW) (x:GTArc):List GW:=match p x with|some e=>addW r b x e|none=>b
def accW (r:GRing) (p:GTArc->Option (List GW)) (l:List GTArc) (base:List GW):List GW:=l.foldl (accS r p) base
def fits {r:GRing} (M:Meas r) (c N:Nat) (l:List GTArc):Prop:=∀ x∈l,(x.w.chk r/\M.mb c x.w)/\x.fit N
def zi4 (v:List GW) (x:GTArc):Option (List GW):=if emF x=true then some v else none
def sprN (r:GRing) (l:List GTArc) (base:List GW):Nat->List GW
 | 0=>base
 | n+1=>accW r (zi4 (sprN r l base n)) l base
theorem ydx {label:Int} {w:List Int} {a:Nat} (ha:a<=w.length):nx label w a<=a+1/\nx label w a<=w.length:=by
 unfold nx;split
 ·omega
 ·split
  ·rename_i h;have:=(yl5.1 h).1;omega
  ·omega
theorem ydy {label:Int} {w:List Int} {a:Nat} (h:0<=nx label w a):(a:Int)<=nx label w a:=by
 unfold nx at *
 split
 ·omega
 ·rename_i h1;rw [yj0 h1] at h;split
  ·omega
  ·rename_i h2;rw [yj0 h2] at h; omega
def zfh (wx wy:List Int) (i k:Nat) (rows:Nat->Nat->List GW) (x:GTArc):Option (List GW) :=
 if 0<=nx x.i wx i/\0<=nx x.o wy k/\(i:Int)+k<nx x.i wx i+nx x.o wy k then some (rows (nx x.i wx i).toNat (nx x.o wy k).toNat) else none
theorem zjs {wx wy:List Int} {i k:Nat} (hi:i<=wx.length) (hk:k<=wy.length) {rows:Nat->Nat->List GW} {x:GTArc} {e:List GW} (h:zfh wx wy i k rows x=some e) :
  ∃ a b:Nat,nx x.i wx i=a/\nx x.o wy k=b/\i<=a/\a<=i+1/\k<=b/\b<=k+1/\a<=wx.length/\b<=wy.length/\i+k<a+b/\e=rows a b:=by
 unfold zfh at h;split at h
 ·rename_i hc;obtain ⟨c1,c2,c3⟩:=hc;have h1:=ydx (label:=x.i) hi;have h2:=ydx (label:=x.o) hk;have h3:=ydy c1;have h4:=ydy c2;cases h;refine ⟨(nx x.i wx i).toNat,(nx x.o wy k).toNat,?_,?_,?_,?_,?_,?_,?_,?_,?_,rfl⟩<;>omega
 ·cases h
def znp (t:GTrans) (wx wy:List Int) (i k:Nat):List GW:=if i=wx.length/\k=wy.length then t.fin else List.replicate t.st.toNat t.ring.zero
def rowW (t:GTrans) (wx wy:List Int) (i k:Nat) (rows:Nat->Nat->List GW):List GW:=accW t.ring (zfh wx wy i k rows) t.arcs (znp t wx wy i k)
def zhz (t:GTrans) (wx wy:List Int) (i k:Nat) (rows:Nat->Nat->List GW):List GW:=sprN t.ring t.arcs (rowW t wx wy i k rows) t.st.toNat
def valW (t:GTrans) (wx wy:List Int):Nat->Nat->Nat->List GW
 | 0,_,_=>[]
 | n+1,i,k=>zhz t wx wy i k (valW t wx wy n)
def tabW (t:GTrans) (wx wy:List Int) (i k:Nat):List GW:=valW t wx wy (wx.length - i+(wy.length - k)+1) i k
theorem zpd {p q:GTArc->Option (List GW)}:∀ {l:List GTArc} {base:List GW},(∀ x∈l,p x=q x)->accW r p l base=accW r q l base
 | [],_,_=>rfl
 | x::l,base,h=>by
  show accW r p l (accS r p base x)=accW r q l (accS r q base x);have:accS r p base x=accS r q base x:=by unfold accS; rw [h x yjj]
  rw [this];exact zpd fun y hy=>h y (yjf _ hy)
theorem ztg {wx wy:List Int} {i k:Nat} (hi:i<=wx.length) (hk:k<=wy.length) {f g:Nat->Nat->List GW} (h:∀ a b:Nat,i<=a->k<=b->a<=wx.length->b<=wy.length->i+k<a+b->f a b=g a b) (x:GTArc):zfh wx wy i k f x=zfh wx wy i k g x:=by
 cases hf:zfh wx wy i k f x with
 | none =>
  unfold zfh at *
  split at hf
  ·cases hf
  ·rename_i hc; rw [yj0 hc]
 | some e =>
  obtain ⟨a,b,h1,h2,h3,h4,h5,h6,h7,h8,h9,rfl⟩:=zjs hi hk hf;unfold zfh;rw [h1,h2,yj1 ⟨by omega,by omega,by omega⟩,yk4,yk4,h a b h3 h5 h7 h8 h9]
theorem zie {t:GTrans} {wx wy:List Int} {i k:Nat} (hi:i<=wx.length) (hk:k<=wy.length) {f g:Nat->Nat->List GW} (h:∀ a b:Nat,i<=a->k<=b->a<=wx.length->b<=wy.length->i+k<a+b->f a b=g a b):zhz t wx wy i k f=zhz t wx wy i k g:=by unfold zhz rowW;rw [zpd fun x _=>ztg hi hk h x]
theorem zvd {t:GTrans} {wx wy:List Int}:∀ (n m i k:Nat),i<=wx.length->k<=wy.length->wx.length - i+(wy.length - k)<n->wx.length - i+(wy.length - k)<m->valW t wx wy n i k=valW t wx wy m i k
 | 0,_,_,_,_,_,h,_=>by omega
 | _+1,0,_,_,_,_,_,h=>by omega
 | n+1,m+1,i,k,hi,hk,h1,h2=>by show zhz t wx wy i k _=zhz t wx wy i k _;exact zie hi hk fun a b a1 a2 a3 a4 a5=>zvd n m a b a3 a4 (by omega) (by omega)
theorem z8t {t:GTrans} {wx wy:List Int} {i k:Nat} (hi:i<=wx.length) (hk:k<=wy.length):tabW t wx wy i k=zhz t wx wy i k (tabW t wx wy):=by show zhz t wx wy i k _=_;exact zie hi hk fun a b a1 a2 a3 a4 a5=>zvd _ _ a b a3 a4 (by omega) (by omega)
structure GTrans.fits {r:GRing} (M:Meas r) (c:Nat) (t:GTrans):Prop where
 ring:t.ring=r
 st:0<=t.st/\t.st<=64
 arcs:Go.Ab.fits M c t.st.toNat t.arcs
 ini:vb M c t.ini/\t.ini.length=t.st.toNat
 fin:vb M c t.fin/\t.fin.length=t.st.toNat
 rok:r.ok=true
theorem z3x (hr:r.ok=true) (n c:Nat):vb M c (List.replicate n r.zero):=fun w hw=>by rw [ylc hw];exact ⟨zbp hr,M.mono M.zero (by omega)⟩
variable {M}
def sumW (r:GRing) (ini row:List GW):GW:=(ini.zip row).foldl (fun s p=>r.plus s (r.times p.1 p.2)) r.zero
def sumN (r:GRing) (ini row:List GW) (n:Nat):GW:=((ini.zip row).take n).foldl (fun s p=>r.plus s (r.times p.1 p.2)) r.zero
theorem zl1 {ini row:List GW} {n:Nat} (h1:n<ini.length) (h2:n<row.length):sumN r ini row (n+1)=r.plus (sumN r ini row n) (r.times ini[n] row[n]):=by unfold sumN;rw [yj7 (by rw [List.length_zip]; omega),yjr];simp
theorem ztf (hr:r.ok=true) {c E:Nat} {ini row:List GW} (hi:vb M c ini) (he:vb M E row):∀ n,n<=ini.length->n<=row.length->(sumN r ini row n).chk r/\M.mb (c+E+1+n) (sumN r ini row n)
 | 0,_,_=>⟨zbp hr,M.mono M.zero (by omega)⟩
 | n+1,h1,h2=>by have ih:=ztf hr hi he n (by omega) (by omega);have k1:=hi _ (yj2 (show n<ini.length by omega));have k2:=he _ (yj2 (show n<row.length by omega));rw [zl1 (by omega) (by omega)];have ct:=zbn k1.1 k2.1;exact ⟨zcr ih.1 ct,M.plus ih.1 ct ih.2 (M.mono (M.times k1.1 k2.1 k1.2 k2.2) (Nat.le_add_right _ _))⟩
theorem zlb {ini row:List GW} {n:Nat} (h:ini.length<=n):sumN r ini row n=sumW r ini row:=by unfold sumN sumW;rw [yjl (by rw [List.length_zip]; omega)]
end
noncomputable def wgt (t:GTrans) (wx wy:List Int):GW:=sumW t.ring t.ini (tabW t wx wy 0 0)
section
variable (t:GTrans) (wx wy:List Int)
end
def zy9 (w:List Int) (m:Int):Prop:=(1<=m/\m<=32)/\w.length<=256/\∀ x∈w,1<=x/\x<=m
noncomputable instance (w:List Int) (m:Int):Decidable (zy9 w m):=Classical.propDecidable _
structure GModel where
 st:Int
 ini:List Int
 fin:List Int
 arcs:List Int
 em:Bool
instance:Enc GModel:=⟨fun x=>.agg [.int .i64 x.st,.sl (ens x.ini),.sl (ens x.fin),.sl (ens x.arcs),.bool x.em],5,by decide,fun _=>rfl⟩
@[go_sem] theorem yej (x:GModel):enc x=.agg [.int .i64 x.st,.sl (ens x.ini),.sl (ens x.fin),.sl (ens x.arcs),.bool x.em]:=rfl
@[go_sem] theorem ya0:Enc.sz GModel=5:=rfl
theorem zyc {α β : Type} {f : β -> α -> β} {Pb : β -> Prop} {Qa : α -> Prop} (hp:∀ b x,Pb b->Qa x->Pb (f b x)) (hc:∀ b x y,Pb b->Qa x->Qa y->f (f b x) y=f (f b y) x) {l l':List α} (h:l.Perm l') :
  (∀ x∈l,Qa x)->∀ b,Pb b->l.foldl f b=l'.foldl f b:=by
 induction h with
 | nil=>intro _ b _; rfl
 | cons x _ ih=>intro hq b hb; exact ih (fun y hy=>hq y (yjf _ hy)) _ (hp b x hb (hq x yjj))
 | swap x y l=>intro hq b hb; simp only [ylb]; rw [hc b y x hb (hq y yjj) (hq x (yjf _ yjj))]
 | trans h1 _ ih1 ih2=>intro hq b hb; rw [ih1 hq b hb,ih2 (fun y hy=>hq y (h1.mem_iff.2 hy)) b hb]
section
variable {r:GRing}
def ckL (r:GRing) (N:Nat) (l:List GW):Prop:=(∀ w∈l,w.chk r)/\l.length=N
theorem zjl {N:Nat} {l:List GW} (h:ckL r N l) {i:Nat} (hi:i<N):(l.getD i r.zero).chk r:=by rw [yj4,yj8 (by rw [h.2]; exact hi)]; exact h.1 _ (yj2 _)
theorem ybl {N:Nat} {b e:List GW} {x:GTArc} (hb:ckL r N b) (he:ckL r N e) (hw:x.w.chk r) (hx:x.fit N):ckL r N (addW r b x e):=by
 refine ⟨fun w hw'=>?_,by rw [z7i]; exact hb.2⟩;obtain ⟨⟨a1,a2⟩,a3,a4⟩:=hx;rcases ykt hw' with h|h
 ·exact hb.1 w h
 ·rw [h]; exact zcr (zjl hb (by omega)) (zbn hw (zjl he (by omega)))
theorem z3s {N:Nat} {b e e':List GW} {x y:GTArc} (hb:ckL r N b) (he:ckL r N e) (he':ckL r N e') (hwx:x.w.chk r) (hwy:y.w.chk r) (hx:x.fit N) (hy:y.fit N):addW r (addW r b x e) y e'=addW r (addW r b y e') x e:=by
 obtain ⟨⟨a1,a2⟩,a3,a4⟩:=hx;obtain ⟨⟨b1,b2⟩,b3,b4⟩:=hy;have c1:=zbn hwx (zjl he (i:=x.t.toNat) (by omega));have c2:=zbn hwy (zjl he' (i:=y.t.toNat) (by omega));have lb:=hb.2;unfold addW;generalize r.times x.w (e.getD x.t.toNat r.zero)=tx at *
 generalize r.times y.w (e'.getD y.t.toNat r.zero)=ty at *
 have hfx:x.f.toNat<b.length:=by omega
 have hfy:y.f.toNat<b.length:=by omega
 generalize x.f.toNat=i at *
 generalize y.f.toNat=j at *
 by_cases hij:i=j
 ·subst hij;have c0:(b.getD i r.zero).chk r:=zjl hb (by omega);have g1:∀ v:GW,(b.set i v).getD i r.zero=v:=fun v=>by rw [yj4,yku hfx]; rfl
  rw [g1,g1,List.set_set,List.set_set,zdj c0 c1 c2,zdj c0 c2 c1,zgz c1 c2]
 ·have g1:∀ v:GW,(b.set i v).getD j r.zero=b.getD j r.zero:=fun v=>by rw [yj4,ykp hij,<- List.getD_eq_getElem?_getD]
  have g2:∀ v:GW,(b.set j v).getD i r.zero=b.getD i r.zero:=fun v=>by rw [yj4,ykp (yka hij),<- List.getD_eq_getElem?_getD]
  rw [g1,g2,List.set_comm _ _ hij]
def okA (r:GRing) (N:Nat) (p:GTArc->Option (List GW)) (x:GTArc):Prop:=x.w.chk r/\x.fit N/\∀ e,p x=some e->ckL r N e
theorem zu6 {N:Nat} {p:GTArc->Option (List GW)} {b:List GW} {x:GTArc} (hb:ckL r N b) (hx:okA r N p x):ckL r N (accS r p b x):=by
 unfold accS;cases h:p x with
 | none=>exact hb
 | some e=>exact ybl hb (hx.2.2 e h) hx.1 hx.2.1
theorem z3t {N:Nat} {p:GTArc->Option (List GW)} {b:List GW} {x y:GTArc} (hb:ckL r N b) (hx:okA r N p x) (hy:okA r N p y):accS r p (accS r p b x) y=accS r p (accS r p b y) x:=by
 unfold accS;cases h:p x with
 | none=>rfl
 | some e =>
  cases h':p y with
  | none=>rfl
  | some e'=>exact z3s hb (hx.2.2 e h) (hy.2.2 e' h') hx.1 hy.1 hx.2.1 hy.2.1
theorem zq8 {N:Nat} {p:GTArc->Option (List GW)}:∀ {l:List GTArc} {b:List GW},ckL r N b->(∀ x∈l,okA r N p x)->ckL r N (accW r p l b)
 | [],_,hb,_=>hb
 | x::l,b,hb,h=>zq8 (l:=l) (zu6 hb (h x yjj)) fun y hy=>h y (yjf _ hy)
theorem zta {N:Nat} {p:GTArc->Option (List GW)} {l l':List GTArc} (hl:l.Perm l') {b:List GW} (hb:ckL r N b) (h:∀ x∈l,okA r N p x):accW r p l b=accW r p l' b :=
 zyc (Pb:=ckL r N) (Qa:=okA r N p) (fun _ _=>zu6) (fun _ _ _=>z3t) hl h b hb
theorem zq7 {p q:GTArc->Option (List GW)} (f:GTArc->GTArc) (hf:∀ x,(f x).f=x.f/\(f x).t=x.t/\(f x).w=x.w):∀ {l:List GTArc} {b:List GW},(∀ x∈l,p (f x)=q x)->accW r p (l.map f) b=accW r q l b
 | [],_,_=>rfl
 | x::l,b,h=>by
  show accW r p (l.map f) (accS r p b (f x))=accW r q l (accS r q b x);have:accS r p b (f x)=accS r q b x:=by
   unfold accS;rw [h x yjj];cases q x with
   | none=>rfl
   | some e =>
    obtain ⟨h1,h2,h3⟩:=hf x;simp only [addW,h1,h2,h3]
  rw [this];exact zq7 f hf fun y hy=>h y (yjf _ hy)
theorem z2r (x:GTArc):emF (swT x)=emF x:=by unfold emF swT;exact Bool.and_comm _ _
def zpc (r:GRing) (N:Nat) (l:List GTArc):Prop:=∀ x∈l,x.w.chk r/\x.fit N
theorem zth {N:Nat} {l l':List GTArc} (hl:l'.Perm (l.map swT)) {b:List GW} (hb:ckL r N b) (h:zpc r N l):∀ n,sprN r l' b n=sprN r l b n/\ckL r N (sprN r l b n)
 | 0=>⟨rfl,hb⟩
 | n+1=>by
  obtain ⟨ih,ik⟩:=zth hl hb h n;have hok:∀ x∈l,okA r N (zi4 (sprN r l b n)) x:=fun x hx=>⟨(h x hx).1,(h x hx).2,fun e he=>by
   unfold zi4 at he;split at he
   ·cases he; exact ik
   ·cases he⟩
  refine ⟨?_,zq8 hb hok⟩;show accW r (zi4 (sprN r l' b n)) l' b=accW r (zi4 (sprN r l b n)) l b;rw [ih];have hok':∀ x∈l',okA r N (zi4 (sprN r l b n)) x:=fun x hx=>by
   obtain ⟨y,hy,rfl⟩:=yj3.1 (hl.mem_iff.1 hx);refine ⟨(h y hy).1,(h y hy).2,fun e he=>(hok y hy).2.2 e ?_⟩;unfold zi4 at he ⊢
   rwa [z2r] at he
  rw [zta hl hb hok'];exact zq7 swT (fun _=>⟨rfl,rfl,rfl⟩) fun x _=>by unfold zi4; rw [z2r]
theorem zvh (wx wy:List Int) (i k:Nat) (f g:Nat->Nat->List GW) (hfg:∀ a b,f b a=g a b) (x:GTArc):zfh wy wx k i f (swT x)=zfh wx wy i k g x:=by
 unfold zfh;show (if 0<=nx x.o wy k/\0<=nx x.i wx i/\(k:Int)+i<nx x.o wy k+nx x.i wx i then _ else _)=_;by_cases h:0<=nx x.i wx i/\0<=nx x.o wy k/\(i:Int)+k<nx x.i wx i+nx x.o wy k
 ·rw [yj1 h,yj1 ⟨h.2.1,h.1,by omega⟩];exact congrArg some (hfg _ _)
 ·rw [yj0 h,yj0 fun h'=>h ⟨h'.2.1,h'.1,by omega⟩]
structure swap (t u:GTrans):Prop where
 ring:u.ring=t.ring
 st:u.st=t.st
 ini:u.ini=t.ini
 fin:u.fin=t.fin
 arcs:u.arcs.Perm (t.arcs.map swT)
structure ckT (r:GRing) (t:GTrans):Prop where
 ring:t.ring=r
 rok:r.ok=true
 fin:ckL r t.st.toNat t.fin
 arcs:zpc r t.st.toNat t.arcs
theorem zxb {t:GTrans} (ht:ckT r t) (wx wy:List Int) (i k:Nat):ckL r t.st.toNat (znp t wx wy i k):=by
 unfold znp;split
 ·exact ht.fin
 ·rw [ht.ring];exact ⟨fun w hw=>by rw [ylc hw]; exact zbp ht.rok,by simp⟩
theorem ztc {t u:GTrans} (ht:ckT r t) (hs:swap t u) (wx wy:List Int):∀ (n i k:Nat),i<=wx.length->k<=wy.length->wx.length - i+(wy.length - k)<n->valW u wy wx n k i=valW t wx wy n i k/\ckL r t.st.toNat (valW t wx wy n i k)
 | 0,_,_,_,_,h=>by omega
 | n+1,i,k,hi,hk,hn=>by
  have hr:=ht.ring;show zhz u wy wx k i (valW u wy wx n)=zhz t wx wy i k (valW t wx wy n)/\ckL r t.st.toNat (zhz t wx wy i k (valW t wx wy n));have hcong:zhz u wy wx k i (valW u wy wx n)=zhz u wy wx k i (fun b a=>valW t wx wy n a b):=zie hk hi fun b a h1 h2 h3 h4 h5=>(ztc ht hs wx wy n a b h4 h3 (by omega)).1;rw [hcong];have hb:=zxb ht wx wy i k;have hbe:znp u wy wx k i=znp t wx wy i k:=by
   unfold znp;rw [hs.ring,hs.st,hs.fin];by_cases h:i=wx.length/\k=wy.length
   ·rw [yj1 h,yj1 ⟨h.2,h.1⟩]
   ·rw [yj0 h,yj0 fun h'=>h ⟨h'.2,h'.1⟩]
  have hok:∀ x∈t.arcs,okA r t.st.toNat (zfh wx wy i k (valW t wx wy n)) x:=fun x hx=>⟨(ht.arcs x hx).1,(ht.arcs x hx).2,fun e he=>by
   obtain ⟨a,b,h1,h2,h3,h4,h5,h6,h7,h8,h9,rfl⟩:=zjs hi hk he;exact (ztc ht hs wx wy n a b h7 h8 (by omega)).2⟩
  have hok':∀ x∈u.arcs,okA r t.st.toNat (zfh wy wx k i fun b a=>valW t wx wy n a b) x:=fun x hx=>by obtain ⟨y,hy,rfl⟩:=yj3.1 (hs.arcs.mem_iff.1 hx);exact ⟨(hok y hy).1,(hok y hy).2.1,fun e he=>(hok y hy).2.2 e (by rwa [zvh wx wy i k _ (valW t wx wy n) fun _ _=>rfl] at he)⟩
  have hrow:rowW u wy wx k i (fun b a=>valW t wx wy n a b)=rowW t wx wy i k (valW t wx wy n):=by unfold rowW;rw [hbe,hs.ring,hr,zta hs.arcs hb hok'];exact zq7 swT (fun _=>⟨rfl,rfl,rfl⟩) fun x _=>zvh wx wy i k _ _ (fun _ _=>rfl) x
  have hrc:ckL r t.st.toNat (rowW t wx wy i k (valW t wx wy n)):=by unfold rowW;rw [hr]; exact zq8 hb hok
  unfold zhz;rw [hrow,hs.ring,hs.st,hr];exact zth hs.arcs hrc ht.arcs _
end
section
variable {α : Type} {key : α -> List Int} {wt : α -> GW} {r:GRing}
end
end Go.Ab
namespace Go.Ab
open Enc (enc)
attribute [local go_sem] zal Opd.slots
theorem GW.ind {M:GW->Prop} (h:∀ v,(∀ w∈v.parts,M w)->M v):∀ v,M v
 | .mk q c i s p ps=>h _ fun w hw=>by have:SizeOf.sizeOf w<SizeOf.sizeOf ps:=List.sizeOf_lt_of_mem hw;exact GW.ind h w
termination_by v=>SizeOf.sizeOf v
decreasing_by simp only [GW.mk.sizeOf_spec]; omega
inductive GW.lt:GW->Prop
 | mk {q:GRat} {c:Int} {i:Bool} {s:UInt64} {p:List GMono} {ps:List GW}:q.sm 3->p.length<=8->ps.length<=4->psm p 2->(∀ w∈ps,GW.lt w)->GW.lt (.mk q c i s p ps)
theorem GW.lt_iff {w:GW}:w.lt ↔ w.q.sm 3/\w.poly.length<=8/\w.parts.length<=4/\psm w.poly 2/\∀ x∈w.parts,x.lt:=by
 constructor
 ·intro h; cases h with|mk a b c d e=>exact ⟨a,b,c,d,e⟩
 ·cases w; rintro ⟨a,b,c,d,e⟩; exact .mk a b c d e
theorem GW.lt_sm:∀ w:GW,w.lt->w.sm 8:=by
 refine GW.ind fun v ih h=>?_;obtain ⟨a,b,c,d,e⟩:=GW.lt_iff.1 h;cases v with
 | mk q c' i s p ps=>exact .mk (a.monoR (by omega)) (d.monoR (by omega)) b (yj6 c (by omega)) fun x hx=>ih x hx (e x hx)
noncomputable instance (w:GW):Decidable w.lt:=Classical.propDecidable _
theorem zwm:∀ w:GW,Sp P F.dk [enc w] (.pure (.bool (decide w.lt))):=by
 refine GW.ind fun v ih=>?_;refine Sp.vz c.dk fun hok=>?_;simp [g.dk,go_sem];refine zab (zsd v.q 3) ?_;by_cases h1:v.q.num.length<=3/\v.q.den.length<=3;rotate_left
 ·rw [decide_eq_false h1]; simp [go_sem]; exact fun h=>h1 (GW.lt_iff.1 h).1
 rw [decide_eq_true h1]; simp [go_sem];refine ⟨fun h2 h=>by have:=(GW.lt_iff.1 h).2.1; omega,fun h2=>⟨fun h3 h=>by have:=(GW.lt_iff.1 h).2.2.1; omega,fun h3=>?_⟩⟩
 refine zai (S:=fun k:Nat=>mkSt [(1,.ptr 1 0 0 0),(3,.p (.int .i64 k))] [(1,⟨8,[.p (enc v)]⟩)]) (I:=fun k=>k<=v.poly.length/\∀ i,(hi:i<v.poly.length)->i<k->v.poly[i].coef.sm 2) (m:=fun k=>v.poly.length - k) 0
  (Weak.to [1,3] [((1,0),1)] (by simp [go_sem])) ⟨by omega,fun i _ h0=>by omega⟩ ?_
 rintro k ⟨h6,h7⟩ R hn hr' hx;have e1:=i64s k (by omega);by_cases hk:k<v.poly.length
 ·simp [g.oq,mkSt,go_sem,hk];refine zae hk ?_;refine zab (zsd v.poly[k].coef 2) ?_;by_cases hc:v.poly[k].coef.num.length<=2/\v.poly[k].coef.den.length<=2
  ·rw [decide_eq_true hc]; simp [go_sem,e1];refine hn (k+1) _ (Weak.to [1,3] [((1,0),1)] (by simp [mkSt,go_sem])) ⟨by omega,fun i hi h0=>?_⟩ (by omega);by_cases hik:i<k
   ·exact h7 i hi hik
   ·have:i=k:=by omega
    subst this; exact hc
  ·rw [decide_eq_false hc]; simp [go_sem];refine hr' _ ?_;simp [go_sem];exact fun h=>hc ((GW.lt_iff.1 h).2.2.2.1 _ (yj2 hk))
 ·have h8:psm v.poly 2:=fun x hx=>by obtain ⟨i,hi,rfl⟩:=yju.1 hx;exact h7 i hi (by omega)
  simp [g.oq,mkSt,go_sem,hk];refine hx _ _ ?_;simp [go_sem]
  refine zai (S:=fun k:Nat=>mkSt [(1,.ptr 1 0 0 0),(4,.p (.int .i64 k))] [(1,⟨8,[.p (enc v)]⟩)]) (I:=fun k=>k<=v.parts.length/\∀ i,(hi:i<v.parts.length)->i<k->v.parts[i].lt) (m:=fun k=>v.parts.length - k) 0
   (Weak.to [1,4] [((1,0),1)] (by simp [go_sem])) ⟨by omega,fun i _ h0=>by omega⟩ ?_
  rintro k2 ⟨g6,g7⟩ R2 hn2 hr2 hx2;have e2:=i64s k2 (by omega);by_cases hk2:k2<v.parts.length
  ·simp [g.ot,mkSt,go_sem,hk2];refine zae hk2 ?_;refine zab (ih _ (yj2 hk2)) ?_;by_cases hc:v.parts[k2].lt
   ·rw [decide_eq_true hc]; simp [go_sem,e2];refine hn2 (k2+1) _ (Weak.to [1,4] [((1,0),1)] (by simp [mkSt,go_sem])) ⟨by omega,fun i hi h0=>?_⟩ (by omega);by_cases hik:i<k2
    ·exact g7 i hi hik
    ·have:i=k2:=by omega
     subst this; exact hc
   ·rw [decide_eq_false hc]; simp [go_sem];refine hr2 _ ?_;simp [go_sem];exact fun h=>hc ((GW.lt_iff.1 h).2.2.2.2 _ (yj2 hk2))
  ·have h9:∀ x∈v.parts,x.lt:=fun x hx=>by obtain ⟨i,hi,rfl⟩:=yju.1 hx;exact g7 i hi (by omega)
   simp [g.ot,mkSt,go_sem,hk2];refine hx2 _ _ ?_;simp [go_sem];exact GW.lt_iff.2 ⟨h1,by omega,by omega,h8,h9⟩
theorem zkr (l:List GW) (m:Nat) (hm:m<=1000000):Sp P F.dj [.sl (ens l),.int .i64 m] (.pure (.bool (decide (l.length<=m/\∀ w∈l,w.lt)))):=by
 refine Sp.vz c.dj fun hok=>?_;by_cases h1:l.length<=m;rotate_left
 ·have:¬ (l.length:Int)<=m:=by omega
  simp [g.dj,go_sem,h1]
 have h1':¬ (m:Int)<l.length:=by omega
 simp [g.dj,go_sem,h1,h1']
 refine zai (S:=fun k:Nat=>mkSt [(0,.p (.sl (ens l))),(5,.p (.int .i64 k))] []) (I:=fun k=>k<=l.length/\∀ i,(hi:i<l.length)->i<k->l[i].lt) (m:=fun k=>l.length - k) 0
  (Weak.to [0,5] [] (by simp [go_sem])) ⟨by omega,fun i _ h0=>by omega⟩ ?_
 rintro k ⟨h6,h7⟩ R hn hr' hx;have e1:=i64s k (by omega);by_cases hk:k<l.length
 ·simp [g.om,mkSt,go_sem,hk];refine zae hk ?_
  try simp [go_sem]
  refine zab (zwm l[k]) ?_;by_cases hc:l[k].lt
  ·rw [decide_eq_true hc]; simp [go_sem,e1];refine hn (k+1) _ (Weak.to [0,5] [] (by simp [mkSt,go_sem])) ⟨by omega,fun i hi h0=>?_⟩ (by omega);by_cases hik:i<k
   ·exact h7 i hi hik
   ·have:i=k:=by omega
    subst this; exact hc
  ·rw [decide_eq_false hc]; simp [go_sem];refine hr' _ ?_;simp [go_sem];exact ⟨_,yj2 hk,hc⟩
 ·have h9:∀ x∈l,x.lt:=fun x hx=>by obtain ⟨i,hi,rfl⟩:=yju.1 hx;exact h7 i hi (by omega)
  simp [g.om,mkSt,go_sem,hk];refine hx _ _ ?_;simp [go_sem];exact h9
theorem zsc (r:GRing):Sp P F.jj [enc r] (.pure (.bool (decide (r.parts.length<=6)))):=by refine Sp.vz c.jj fun hok=>?_;simp [g.jj,go_sem];omega
structure GAuto.lt (a:GAuto):Prop where
 ring:a.ring.parts.length<=6
 ini:a.ini.length<=6/\∀ w∈a.ini,w.lt
 fin:a.fin.length<=6/\∀ w∈a.fin,w.lt
 al:a.arcs.length<=16
 arcs:∀ x∈a.arcs,x.w.lt
noncomputable instance (a:GAuto):Decidable a.lt:=Classical.propDecidable _
structure GTrans.lt (a:GTrans):Prop where
 ring:a.ring.parts.length<=6
 ini:a.ini.length<=5/\∀ w∈a.ini,w.lt
 fin:a.fin.length<=5/\∀ w∈a.fin,w.lt
 al:a.arcs.length<=12
 arcs:∀ x∈a.arcs,x.w.lt
noncomputable instance (a:GTrans):Decidable a.lt:=Classical.propDecidable _
theorem GTrans.lt.sm {a:GTrans} (h:a.lt):a.sm 8:=⟨fun w hw=>GW.lt_sm _ (h.ini.2 w hw),fun w hw=>GW.lt_sm _ (h.fin.2 w hw),fun x hx=>GW.lt_sm _ (h.arcs x hx)⟩
theorem zi6 (a:GTrans):Sp P F.je [enc a] (.pure (.bool (decide a.lt))):=by
 refine Sp.vz c.je fun hok=>?_;simp [g.je,go_sem];refine zab (zsc a.ring) ?_;by_cases h1:a.ring.parts.length<=6;rotate_left
 ·rw [decide_eq_false h1]; simp [go_sem]; exact fun h=>h1 h.ring
 rw [decide_eq_true h1]; simp [go_sem];refine zab (zkr a.ini 5 (by omega)) ?_;by_cases h2:a.ini.length<=5/\∀ w∈a.ini,w.lt;rotate_left
 ·rw [decide_eq_false h2]; simp [go_sem]; exact fun h=>h2 h.ini
 rw [decide_eq_true h2]; simp [go_sem];refine zab (zkr a.fin 5 (by omega)) ?_;by_cases h3:a.fin.length<=5/\∀ w∈a.fin,w.lt;rotate_left
 ·rw [decide_eq_false h3]; simp [go_sem]; exact fun h=>h3 h.fin
 rw [decide_eq_true h3]; simp [go_sem];refine ⟨fun h4 h=>by have:=h.al; omega,fun h4=>?_⟩
 refine zai (S:=fun k:Nat=>mkSt [(1,.ptr 1 0 0 0),(3,.p (.int .i64 k))] [(1,⟨8,[.p (enc a)]⟩)]) (I:=fun k=>k<=a.arcs.length/\∀ i,(hi:i<a.arcs.length)->i<k->a.arcs[i].w.lt) (m:=fun k=>a.arcs.length - k) 0
  (Weak.to [1,3] [((1,0),1)] (by simp [go_sem])) ⟨by omega,fun i _ h0=>by omega⟩ ?_
 rintro k ⟨h6,h7⟩ R hn hr' hx;have e1:=i64s k (by omega);by_cases hk:k<a.arcs.length
 ·simp [g.og,mkSt,go_sem,hk];refine zae hk ?_
  try simp [go_sem]
  refine zab (zwm a.arcs[k].w) ?_;by_cases hc:a.arcs[k].w.lt
  ·rw [decide_eq_true hc]; simp [go_sem,e1];refine hn (k+1) _ (Weak.to [1,3] [((1,0),1)] (by simp [mkSt,go_sem])) ⟨by omega,fun i hi h0=>?_⟩ (by omega);by_cases hik:i<k
   ·exact h7 i hi hik
   ·have:i=k:=by omega
    subst this; exact hc
  ·rw [decide_eq_false hc]; simp [go_sem];refine hr' _ ?_;simp [go_sem];exact fun h=>hc (h.arcs _ (yj2 hk))
 ·have h9:∀ x∈a.arcs,x.w.lt:=fun x hx=>by obtain ⟨i,hi,rfl⟩:=yju.1 hx;exact h7 i hi (by omega)
  simp [g.og,mkSt,go_sem,hk];refine hx _ _ ?_;simp [go_sem];exact ⟨h1,h2,h3,by omega,h9⟩
def aw1:GW:=.mk (rto 1) 0 false 0 [] []
def ar1:GRing:=⟨1,[]⟩
theorem z9y:ar1.one=aw1:=by simp [GRing.one,ar1,GRing.ok,aw1,oneW]
theorem zvb:aw1.chk ar1:=⟨rfl,fun _=>si1.2 ⟨rfl,rfl,rfl,rfl,rfl,zbx 1⟩,fun h=>by cases h⟩
theorem z31:aw1.sm 3:=.one 1 ⟨yj6 zl6.1 (by omega),yj6 zl6.2 (by omega)⟩ (zmb 3) (by simp)
theorem z8r {r:GRing} {n:Nat} (hn:n<=90) (hn1:1<=n) {l:List GTArc} (hl:l.length<=19) (h:∀ x∈l,x.w.sm n/\x.w.chk r):(∀ x∈tidT r l,x.w.sm 1048576)/\(tidT r l).length<=19:=by have hs:=zcn (key:=GTArc.key) l;have iv:=zrf (r:=r) hn1 (fun x hx=>h x ((hs.2.2 x).1 hx)) _ (yj5 _);rw [yjl (yj5 _),hs.2.1] at iv;refine ⟨fun x hx=>(iv.2 x (yk1.1 hx).1).1.mono ?_,yj6 (yjp _ _) (yj6 iv.1 hl)⟩;have:=yjv (show l.length+1<=20 by omega) (show n+1<=91 by omega);omega
structure GAuto.fit (a:GAuto):Prop where
 sm:a.sm 1048576
 li:a.ini.length<=1000000
 lf:a.fin.length<=1000000
 la:a.arcs.length<=1000000
structure GTrans.fit (a:GTrans):Prop where
 sm:a.sm 1048576
 li:a.ini.length<=1000000
 lf:a.fin.length<=1000000
 la:a.arcs.length<=1000000
theorem zui:zdm.fit:=⟨⟨by simp [zdm],by simp [zdm],by simp [zdm]⟩,by simp [zdm],by simp [zdm],by simp [zdm]⟩
theorem z93 {a:GTrans} {n:Nat} (ok:a.ok) (hn:n<=90) (hn1:1<=n) (h:a.sm n) (hl:a.arcs.length<=19):a.nf.fit:=by
 have t:=z8r (r:=a.ring) hn hn1 hl fun x hx=>⟨h.arcs x hx,(ok.arcs x hx).2.2.2.2.2.2.2.2⟩;have:=ok.il; have:=ok.fl; have:=ok.st2
 exact ⟨⟨fun w hw=>(h.ini w hw).mono (by omega),fun w hw=>(h.fin w hw).mono (by omega),t.1⟩,by show a.ini.length<=_; omega,by show a.fin.length<=_; omega,yj6 t.2 (by omega)⟩
theorem ztl {a:GTrans} (h:a.fit):Sp P F.fm [enc a,enc a] (.pure (.bool true)):=by have:=zrn a a h.sm h.li h.lf h.la;simpa using this
end Go.Ab
namespace Go.Ab
open Enc (enc)
structure GW.tiny (r:GRing) (w:GW):Prop where
 chk:w.chk r
 mb:w.mb 1
 pl:w.poly.length<=3
 ps:∀ x∈w.parts,x.poly.length<=3
structure GTrans.tin (t:GTrans):Prop where
 ok:t.ok
 st:t.st<=3
 al:t.arcs.length<=7
 ini:∀ w∈t.ini,w.tiny t.ring
 fin:∀ w∈t.fin,w.tiny t.ring
 arcs:∀ x∈t.arcs,x.w.tiny t.ring
def GArc.fit (x:GArc) (N:Nat):Prop:=(0<=x.f/\x.f<N)/\0<=x.t/\x.t<N
structure GAuto.fits {r:GRing} (M:Meas r) (z:Nat) (a:GAuto):Prop where
 ring:a.ring=r
 st:0<=a.st/\a.st<=64
 arcs:∀ x∈a.arcs,(x.w.chk r/\M.mb z x.w)/\x.fit a.st.toNat
 ini:Go.Ab.vb M z a.ini/\a.ini.length=a.st.toNat
 fin:Go.Ab.vb M z a.fin/\a.fin.length=a.st.toNat
 rok:r.ok=true
end Go.Ab
