/-
Proofs for the law TransducerSumsPaths, part 38. Conditions: none.
-/
import Derived.Test.YtbhboeijjgiflaaGreatDoorDP37
import Derived.Test.YtbhboeijjgiflaaGreatDoorDP29
set_option maxRecDepth 100000
set_option maxHeartbeats 4000000
set_option linter.all false
namespace Go.Ab
open Enc (enc)
theorem z1u(k n:Int)(h:0<n):(if k.tmod n<0 then k.tmod n+n else k.tmod n)=k % n:=by
 have h1:=Int.tmod_eq_emod (a:=k) (b:=n);have h2:=ypg k (show n≠0 by omega);have h3:=yph k h;rw[h1];have h4:(n.natAbs:Int)=n:=by omega
 split<;>split<;>omega
theorem zda(k n:Int)(h:0<n)(hn:n<=1000000):Sp P F.aj [.int .i64 k,.int .i64 n] (.pure (.int .i64 (k % n))):=by
 have h1:=z1u k n h;have h2:=ypg k (show n≠0 by omega);have h3:=yph k h;refine Sp.vz c.aj fun _=>?_;simp[g.aj,go_sem];refine⟨by omega,fun h4=>?_,fun h4=>?_⟩
 ·rw[ym0 h4]at h1;rw[h1,i64w (by omega) (by omega)]
 ·rw[ym1 (by omega)]at h1;exact h1
def nx(label:Int)(w:List Int)(a:Nat):Int:=if label=0 then a else if w[a]?=some label then a+1 else -1
theorem z1m(l:List Int)(m:Int)(most:Nat)(hm:0<m)(hm2:m<=1000)(hmost:most<=1000):Sp P F.bw [.sl (ens l),.int .i64 m,.int .i64 most] (.pure (.sl (ens ((l.take most).map fun x=>1+x % m)))):=by
 refine Sp.vz c.bw fun _=>?_;simp[g.bw,go_sem]
 refine zai (S:=fun k:Nat=>mkSt [(0,.p (.sl (ens l))),(1,.p (.int .i64 m)),(2,.p (.int .i64 most)),(7,.own 1 0 0 k),(8,.p (.int .i64 k))] [(1,⟨1,avs ((l.take k).map fun x=>1+x % m)⟩)]) (I:=fun k=>k<=l.length/\k<=most) (m:=fun k=>most - k) 0
  (Weak.nl 7 77 1 rfl (Weak.to [0,1,2,7,8] [((77,0),1)] (by simp[go_sem]))) ⟨by omega,by omega⟩ ?_
 rintro k ⟨h1,h2⟩ R hn' hr hx;have e3:=i64s k (by omega);have hend:l.length<=k\/most<=k->((l.take k).map fun x=>1+x % m)=(l.take most).map fun x=>1+x % m:=fun h=>by
  rcases h with h|h
  ·rw[ymq h,ymq (by omega)]
  ·rw[show k=most by omega]
 simp[g.ph,mkSt,go_sem];refine⟨fun hk=>⟨fun hk2=>zae hk ?_,fun hk2=>hx _ _ ?_⟩,fun hk=>hx _ _ ?_⟩
 ·refine zaa (zda l[k] m hm (by omega)) rfl ?_;have h3:=ypg l[k] (show m≠0 by omega);have h4:=yph l[k] hm;have e4:IntKind.i64.wrap (1+l[k] % m)=1+l[k] % m:=i64w (by omega) (by omega);simp[go_sem,e3,e4];have hts:avs ((l.take (k+1)).map fun x=>1+x % m)=avs ((l.take k).map fun x=>1+x % m)++[.p (enc (1+l[k] % m))]:=by rw[ymr hk,ynw,zcs];rfl
  simp only[yqo]at hts;exact⟨⟨by omega,by omega⟩,hn' (k+1) _ (Weak.to [0,1,2,7,8] [((29,0),1)] (by simp[go_sem,mkSt,hts])) ⟨by omega,by omega⟩ (by omega)⟩
 ·have:=hend (by omega);simp only[yqo]at this;simp[go_sem,this];exact⟨by omega,by rw[<- this,yq3,Nat.min_self]⟩
 ·have:=hend (by omega);simp only[yqo]at this;simp[go_sem,this];exact⟨by omega,by rw[<- this,yq3,Nat.min_self]⟩
instance:Enc (Int × Int):=⟨fun x=>.agg [.int .i64 x.1,.int .i64 x.2],2,by decide,fun _=>rfl⟩
@[go_sem] theorem yjb(x:Int × Int):enc x=.agg [.int .i64 x.1,.int .i64 x.2]:=rfl
@[go_sem] theorem ye3:Enc.sz (Int × Int)=2:=rfl
def spS(on:List Bool)(p:Int × Int):List Bool:=if on.getD p.1.toNat false=true then on.set p.2.toNat true else on
def spR(ps:List (Int × Int))(on:List Bool):List Bool:=ps.foldl spS on
def spF(ps:List (Int × Int)):Nat->List Bool->List Bool
 | 0,on=>on
 | n+1,on=>spF ps n (spR ps on)
theorem yca(on p):(spS on p).length=on.length:=by unfold spS;split<;>simp
theorem zkm:∀ (ps:List (Int × Int)) (on:List Bool),(spR ps on).length=on.length
 | [],_=>rfl
 | p::ps,on=>by rw[show spR (p::ps) on=spR ps (spS on p) from rfl,zkm,yca]
theorem zed(ps:List (Int × Int)):∀ (n:Nat) (on:List Bool),(spF ps n on).length=on.length
 | 0,_=>rfl
 | n+1,on=>by rw[show spF ps (n+1) on=spF ps n (spR ps on) from rfl,zed,zkm]
theorem zmb(ps:List (Int × Int)):∀ (n:Nat) (on:List Bool),spF ps (n+1) on=spR ps (spF ps n on)
 | 0,_=>rfl
 | n+1,on=>by rw[show spF ps (n+1+1) on=spF ps (n+1) (spR ps on) from rfl,zmb];rfl
theorem z7p{ps:List (Int × Int)}{k:Nat}(h:k<ps.length)(on:List Bool):spR (ps.take (k+1)) on=spS (spR (ps.take k) on) ps[k]:=by unfold spR;rw[ymr h,ynn];rfl
theorem toNat_lt{p:Int}{n:Nat}(h:0<=p/\p<n):∃ k:Nat,p=k/\k<n:=⟨p.toNat,by omega,by omega⟩
theorem zz0(on:List Bool)(ps:List (Int × Int))(hn:on.length<=100000)(hp:ps.length<=100000)(h:∀ p∈ps,(0<=p.1/\p.1<on.length)/\0<=p.2/\p.2<on.length) :
  Sp P F.ku [.sl (ens on),.sl (ens ps)] (.pure (.sl (ens (spF ps on.length on)))):=by
 refine Sp.vz c.ku fun _=>?_;simp[g.ku,go_sem];refine⟨?_,?_⟩
 ·omega
 refine zai (S:=fun k:Nat=>mkSt [(0,.own 1 0 0 on.length),(1,.p (.sl (ens ps))),(5,.p (.int .i64 k))] [(1,⟨1,avs (spF ps k on)⟩)]) (I:=fun k=>k<=on.length) (m:=fun k=>on.length - k) 0
  (Weak.to [0,1,5] [((8,0),1)] (by simp[go_sem,spF])) (by omega) ?_
 rintro k h1 R hn' hr hx;have e3:=i64s k (by omega);simp[g.rb,mkSt,go_sem];refine⟨fun hk=>?_,fun hk=>hx _ _ ?_⟩
 ·refine zai (S:=fun i:Nat=>mkSt [(0,.own 1 0 0 on.length),(1,.p (.sl (ens ps))),(5,.p (.int .i64 k)),(6,.p (.int .i64 i))] [(1,⟨1,avs (spR (ps.take i) (spF ps k on))⟩)]) (I:=fun i=>i<=ps.length) (m:=fun i=>ps.length - i) 0
   (Weak.to [0,1,5,6] [((1,0),1)] (by simp[go_sem,spR])) (by omega) ?_
  rintro i h2 R2 hn2 hr2 hx2;have e4:=i64s i (by omega);have hlen:(spR (ps.take i) (spF ps k on)).length=on.length:=by rw[zkm,zed]
  simp[g.ra,mkSt,go_sem];refine⟨fun hi=>?_,fun hi=>hx2 _ _ ?_⟩
  ·obtain⟨⟨a1,a2⟩,a3,a4⟩:=h _ (ym3 hi);obtain⟨x,ex,hx3⟩:=toNat_lt ⟨a1,a2⟩;obtain⟨y,ey,hy3⟩:=toNat_lt ⟨a3,a4⟩;refine zae hi ?_;simp[go_sem,ex,ey];have hst:=z7p hi (spF ps k on);generalize hcur:spR (List.take i ps) (spF ps k on)=cur at *
   have hst2:spS cur ps[i]=if cur[x]=true then cur.set y true else cur:=by unfold spS;rw[ex,ey,ynz,ynz,ymo,yms (by omega),ypq]
   refine⟨⟨hx3,by omega⟩,zae (by omega) ?_⟩;by_cases hb:cur[x]=true
   ·rw[ym0 hb]at hst2;simp[go_sem,hb];refine zae hi ?_;simp[go_sem,ey,e4];refine⟨⟨hy3,by omega⟩,zae (by omega) ?_⟩;exact hn2 (i+1) _ (Weak.to [0,1,5,6] [((1,0),1)] (by simp[go_sem,mkSt,hst,hst2])) (by omega) (by omega)
   ·rw[ym1 hb]at hst2;simp[go_sem,hb,e4];exact hn2 (i+1) _ (Weak.to [0,1,5,6] [((1,0),1)] (by simp[go_sem,mkSt,hst,hst2])) (by omega) (by omega)
  ·have:i=ps.length:=by omega
   subst this;simp[go_sem,e3];exact hn' (k+1) _ (Weak.to [0,1,5] [((1,0),1)] (by simp[go_sem,mkSt,zmb])) (by omega) (by omega)
 ·have:k=on.length:=by omega
  subst this;simp[go_sem,zed];rw[ymq (by rw[zed];omega)]
def mkS(s:Int)(on:List Bool)(p:Int × Int):List Bool:=if p.1=s then on.set p.2.toNat true else on
def mkR(s:Int)(ps:List (Int × Int))(n:Nat):List Bool:=ps.foldl (mkS s) (List.replicate n false)
theorem z4k(s on p):(mkS s on p).length=on.length:=by unfold mkS;split<;>simp
theorem z4l(s:Int):∀ (ps:List (Int × Int)) (on:List Bool),(ps.foldl (mkS s) on).length=on.length
 | [],_=>rfl
 | p::ps,on=>by rw[ype,z4l,z4k]
theorem zef(s ps n):(mkR s ps n).length=n:=by unfold mkR;rw[z4l];simp
theorem z8w{ps:List (Int × Int)}{k:Nat}(h:k<ps.length)(s:Int)(n:Nat):mkR s (ps.take (k+1)) n=mkS s (mkR s (ps.take k) n) ps[k]:=by unfold mkR;rw[ymr h,ynn];rfl
def cycB(n:Nat)(ps:List (Int × Int))(s:Nat):Bool:=(spF ps n (mkR s ps n)).getD s false
def cycF(n:Nat)(ps:List (Int × Int)):Bool:=(List.range n).any (cycB n ps)
theorem z03(n:Nat)(ps:List (Int × Int))(hn:n<=100000)(hp:ps.length<=100000)(h:∀ p∈ps,(0<=p.1/\p.1<n)/\0<=p.2/\p.2<n) :
  Sp P F.j5 [.int .i64 n,.sl (ens ps)] (.pure (.bool (cycF n ps))):=by
 refine Sp.vz c.j5 fun _=>?_;simp[g.j5,go_sem]
 refine zai (S:=fun k:Nat=>mkSt [(0,.p (.int .i64 n)),(1,.p (.sl (ens ps))),(5,.p (.int .i64 k))] []) (I:=fun k=>k<=n/\∀ s,s<k->cycB n ps s=false) (m:=fun k=>n - k) 0
  (Weak.to [0,1,5] [] (by simp[go_sem])) ⟨by omega,fun s h=>by omega⟩ ?_
 rintro k ⟨h1,h2⟩ R hn' hr hx;have e3:=i64s k (by omega);simp[g.qt,mkSt,go_sem];refine⟨fun hk=>?_,fun hk=>hx _ _ ?_⟩
 ·refine⟨by omega,?_⟩
  refine zai (S:=fun i:Nat=>mkSt [(0,.p (.int .i64 n)),(1,.p (.sl (ens ps))),(5,.p (.int .i64 k)),(6,.own 1 0 0 n),(7,.p (.int .i64 i))] [(1,⟨1,avs (mkR k (ps.take i) n)⟩)]) (I:=fun i=>i<=ps.length) (m:=fun i=>ps.length - i) 0
   (Weak.to [0,1,5,6,7] [((14,0),1)] (by simp[go_sem,mkR])) (by omega) ?_
  rintro i h3 R2 hn2 hr2 hx2;have e4:=i64s i (by omega);have hlen:=zef k (ps.take i) n;simp[g.qr,mkSt,go_sem];refine⟨fun hi=>?_,fun hi=>hx2 _ _ ?_⟩
  ·obtain⟨⟨a1,a2⟩,a3,a4⟩:=h _ (ym3 hi);obtain⟨y,ey,hy3⟩:=toNat_lt ⟨a3,a4⟩;have hst:=z8w hi k n;generalize hcur:mkR k (List.take i ps) n=cur at *
   refine zae hi ?_;have hst2:mkS k cur ps[i]=if ps[i].1=(k:Int)then cur.set y true else cur:=by unfold mkS;rw[ey,ynz]
   rw[e4];refine⟨fun hb=>?_,fun hb=>?_⟩
   ·rw[ym0 hb]at hst2;refine zae hi ?_;rw[ey];refine⟨⟨by omega,by rw[ynz];omega,by omega⟩,?_⟩;rw[ynz];refine zae (by omega) ?_;exact hn2 (i+1) _ (Weak.to [0,1,5,6,7] [((1,0),1)] (by simp[go_sem,mkSt,hst,hst2])) (by omega) (by omega)
   ·rw[ym1 hb]at hst2;exact hn2 (i+1) _ (Weak.to [0,1,5,6,7] [((1,0),1)] (by simp[go_sem,mkSt,hst,hst2])) (by omega) (by omega)
  ·have:i=ps.length:=by omega
   subst this;have hcB:(spF ps n (mkR k ps n))[k]'(by rw[zed,zef];omega)=cycB n ps k:=by unfold cycB;rw[ymo,yms (by rw[zed,zef];omega),ypq]
   have hsp:=zz0 (mkR k ps n) ps (by rw[zef];omega) (by omega) (by rw[zef];exact h);rw[zef]at hsp;simp[go_sem,e3];refine zaa hsp (by simp[go_sem,ymq,zef]) ?_;simp[go_sem];refine zae (by rw[zed,zef];omega) ?_;rw[hcB];by_cases hb:cycB n ps k=true
   ·have:cycF n ps=true:=by unfold cycF;rw[List.any_eq_true];exact⟨k,yng.2 hk,hb⟩
    simp[go_sem,hb];refine hr _ ?_;simp[go_sem,this]
   ·simp[go_sem,hb];rw[e3];refine hn' (k+1) _ (Weak.to [0,1,5] [] (by simp[mkSt,go_sem])) ⟨by omega,fun s hs=>?_⟩ (by omega);by_cases hsk:s<k
    ·exact h2 s hsk
    ·have:s=k:=by omega
     subst this;simpa using hb
 ·have:cycF n ps=false:=by unfold cycF;rw[yrw];intro s hs;rw[h2 s (by have:=yng.1 hs;omega)];decide
  simp[go_sem,this]
def emF(x:GTArc):Bool:=decide (x.i=0)&&decide (x.o=0)
def emP(l:List GTArc):List (Int × Int):=(l.filter emF).map fun x=>(x.f,x.t)
theorem z9p{l:List GTArc}{k:Nat}(h:k<l.length):emP (l.take (k+1))=emP (l.take k)++if l[k].i=0/\l[k].o=0 then[(l[k].f,l[k].t)]else[]:=by
 unfold emP;rw[ymr h,yol,ynw]
 congr 1
 by_cases hc:l[k].i=0/\l[k].o=0
 ·simp[emF,hc.1,hc.2]
 ·rw[ym1 hc];have:emF l[k]=false:=by
   simp only[emF,Bool.and_eq_false_iff,decide_eq_false_iff_not];by_cases h1:l[k].i=0
   ·exact .inr fun h2=>hc ⟨h1,h2⟩
   ·exact .inl h1
  simp[this]
theorem z5r(l:List GTArc):(emP l).length<=l.length:=by unfold emP;rw[ynp];exact yoh ..
theorem z5q{l:List GTArc}{p:Int × Int}(h:p∈emP l):∃ x∈l,p=(x.f,x.t):=by unfold emP at h;obtain⟨x,hx,rfl⟩:=ym6.1 h;exact⟨x,(yo9.1 hx).1,rfl⟩
noncomputable def emC(t:GTrans):Bool:=cycF t.st.toNat (emP t.nf.arcs)
theorem zku(t:GTrans):t.nf.arcs.length<=t.arcs.length:=z10 (key:=GTArc.key) (wt:=GTArc.w) (r:=t.ring) (up:=upT t.ring) (fun _ _=>rfl) t.arcs
theorem z1h(t:GTrans)(n:Nat)(hn:n<=90)(hn1:3<=n)(h:t.sm n)(hl:t.arcs.length<=19)(ok:t.ok):Sp P F.jo [enc t,.bool true,.bool true] (.pure (.bool (emC t))):=by
 have k3:=zuz t.ring t.arcs n hn hn1 hl fun x hx=>⟨h.arcs x hx,(ok.arcs x hx).2.2.2.2.2.2.2.2⟩;rw[zqh]at k3;have hA:∀ x∈t.nf.arcs,inT x t.nf:=(zp3 ok).arcs;have hL:=zku t;have hst:t.nf.st=t.st:=rfl;have hemC:emC t=cycF t.st.toNat (emP t.nf.arcs):=rfl
 change Sp P F.dj _ (.pure (.sl (ens t.nf.arcs)))at k3
 generalize t.nf.arcs=A at *
 obtain⟨nn,hnn⟩:∃ nn:Nat,t.st=nn:=⟨t.st.toNat,by have:=ok.st1;omega⟩;have st2:=ok.st2;refine Sp.vz c.jo fun _=>?_;simp[g.jo,go_sem];refine zab k3 ?_;simp[go_sem]
 refine zai (S:=fun k:Nat=>mkSt [(1,.p (.bool true)),(2,.p (.bool true)),(3,.ptr 3 0 0 0),(7,.p (.sl (ens A))),(8,.own 1 0 0 (emP (A.take k)).length),(9,.p (.int .i64 k))] [(3,⟨8,[.p (enc t)]⟩),(1,⟨2,avs (emP (A.take k))⟩)]) (I:=fun k=>k<=A.length) (m:=fun k=>A.length - k) 0
  (Weak.nl 8 77 2 rfl (Weak.to [1,2,3,7,8,9] [((3,0),3),((77,0),1)] (by simp[go_sem,emP]))) (by omega) ?_
 rintro k h1 R hn' hr hx;have e3:=i64s k (by omega);simp[g.qc,mkSt,go_sem];refine⟨fun hk=>?_,fun hk=>hx _ _ ?_⟩
 ·have hst:=z9p hk;have hln:=z5r (A.take k);rw[yns]at hln;refine zae hk ?_;by_cases hi:A[k].i=0
  ·simp[go_sem,hi];refine zae hk ?_;by_cases ho:A[k].o=0
   ·rw[ym0 ⟨hi,ho⟩]at hst;simp[go_sem,ho];refine zae hk ?_
    try simp[go_sem]
    refine zae hk ?_;simp[go_sem,e3];refine⟨by omega,hn' (k+1) _ (Weak.to [1,2,3,7,8,9] [((3,0),3),((56,0),1)] (by simp[go_sem,mkSt,hst])) (by omega) (by omega)⟩
   ·rw[ym1 (fun h=>ho h.2),ypp]at hst;simp[go_sem,ho,e3];exact hn' (k+1) _ (Weak.to [1,2,3,7,8,9] [((3,0),3),((1,0),1)] (by simp[go_sem,mkSt,hst])) (by omega) (by omega)
  ·rw[ym1 (fun h=>hi h.1),ypp]at hst;simp[go_sem,hi,e3];exact hn' (k+1) _ (Weak.to [1,2,3,7,8,9] [((3,0),3),((1,0),1)] (by simp[go_sem,mkSt,hst])) (by omega) (by omega)
 ·have:k=A.length:=by omega
  subst this;have hcy:=z03 nn (emP A) (by omega) (ymm (z5r A) (by omega)) fun p hp=>by obtain⟨x,hx,rfl⟩:=z5q hp;obtain⟨a1,a2,a3,a4,_⟩:=hA x hx;exact⟨⟨a1,by simp only;omega⟩,a3,by simp only;omega⟩
  simp[go_sem];refine zaa hcy (by simp[go_sem,hnn]) ?_;simp[go_sem,hemC,hnn]
theorem z1g(t:GTrans)(n:Nat)(hn:n<=90)(hn1:3<=n)(h:t.sm n)(hl:t.arcs.length<=19)(ok:t.ok):Sp P F.fi [enc t] (.pure (.bool (emC t))):=by have h0:=ok.il;have h2:=ok.fl;have h3:=ok.st2;refine Sp.vz c.fi fun _=>?_;simp[g.fi,go_sem];refine zab (zzo t (h.mono (by omega)) (by omega) (by omega)) ?_;simp[go_sem,ok];refine zab (z1h t n hn hn1 h hl ok) ?_;simp[go_sem]
structure Meas (r:GRing) where
 mb:Nat->GW->Prop
 lim:Nat
 mono:∀ {m n:Nat} {w:GW},mb m w->m<=n->mb n w
 zero:mb 0 r.zero
 plus:∀ {v w:GW} {n:Nat},v.chk r->w.chk r->mb n v->mb n w->mb (n+1) (r.plus v w)
 times:∀ {v w:GW} {m n:Nat},v.chk r->w.chk r->mb m v->mb n w->mb (m+n+1) (r.times v w)
 plusS:∀ {v w:GW} {n:Nat},n<=lim->v.chk r->w.chk r->mb n v->mb n w->Sp P F.aa [enc r,enc v,enc w] (.pure (enc (r.plus v w)))
 timesS:∀ {v w:GW} {n:Nat},n<=lim->v.chk r->w.chk r->mb n v->mb n w->Sp P F.ae [enc r,enc v,enc w] (.pure (enc (r.times v w)))
def vb{r:GRing}(M:Meas r)(n:Nat)(l:List GW):Prop:=∀ w∈l,w.chk r/\M.mb n w
theorem z1p{r:GRing}{M:Meas r}{m n:Nat}{l:List GW}(h:vb M m l)(k:m<=n):vb M n l:=fun w hw=>⟨(h w hw).1,M.mono (h w hw).2 k⟩
theorem ybp{r:GRing}{M:Meas r}{n:Nat}{l:List GW}(h:vb M n l){i:Nat}(hi:i<l.length):(l.getD i r.zero).chk r/\M.mb n (l.getD i r.zero):=by rw[ymo,yms hi];exact h _ (ym3 hi)
def addW(r:GRing)(base:List GW)(x:GTArc)(ends:List GW):List GW:=base.set x.f.toNat (r.plus (base.getD x.f.toNat r.zero) (r.times x.w (ends.getD x.t.toNat r.zero)))
theorem yaj(r:GRing)(base:List GW)(x:GTArc)(ends:List GW):(addW r base x ends).length=base.length:=by simp[addW]
def GTArc.fit(x:GTArc)(N:Nat):Prop:=(0<=x.f/\x.f<N)/\0<=x.t/\x.t<N
section
variable {r:GRing} (M:Meas r)
def accS(r:GRing)(p:GTArc->Option (List GW))(b:List GW)(x:GTArc):List GW:=match p x with|some e=>addW r b x e|none=>b
def accW(r:GRing)(p:GTArc->Option (List GW))(l:List GTArc)(base:List GW):List GW:=l.foldl (accS r p) base
def fits{r:GRing}(M:Meas r)(c N:Nat)(l:List GTArc):Prop:=∀ x∈l,(x.w.chk r/\M.mb c x.w)/\x.fit N
def zjx(v:List GW)(x:GTArc):Option (List GW):=if emF x=true then some v else none
def sprN(r:GRing)(l:List GTArc)(base:List GW):Nat->List GW
 | 0=>base
 | n+1=>accW r (zjx (sprN r l base n)) l base
theorem yhb{label:Int}{w:List Int}{a:Nat}(ha:a<=w.length):nx label w a<=a+1/\nx label w a<=w.length:=by
 unfold nx;split
 ·omega
 ·split
  ·rename_i h;have:=(yo3.1 h).1;omega
  ·omega
theorem yhc{label:Int}{w:List Int}{a:Nat}(h:0<=nx label w a):(a:Int)<=nx label w a:=by
 unfold nx at *
 split
 ·omega
 ·rename_i h1;rw[ym1 h1]at h;split
  ·omega
  ·rename_i h2;rw[ym1 h2]at h;omega
def zfx(wx wy:List Int)(i k:Nat)(rows:Nat->Nat->List GW)(x:GTArc):Option (List GW) :=
 if 0<=nx x.i wx i/\0<=nx x.o wy k/\(i:Int)+k<nx x.i wx i+nx x.o wy k then some (rows (nx x.i wx i).toNat (nx x.o wy k).toNat)else none
theorem zkl{wx wy:List Int}{i k:Nat}(hi:i<=wx.length)(hk:k<=wy.length){rows:Nat->Nat->List GW}{x:GTArc}{e:List GW}(h:zfx wx wy i k rows x=some e) :
  ∃ a b:Nat,nx x.i wx i=a/\nx x.o wy k=b/\i<=a/\a<=i+1/\k<=b/\b<=k+1/\a<=wx.length/\b<=wy.length/\i+k<a+b/\e=rows a b:=by
 unfold zfx at h;split at h
 ·rename_i hc;obtain⟨c1,c2,c3⟩:=hc;have h1:=yhb (label:=x.i) hi;have h2:=yhb (label:=x.o) hk;have h3:=yhc c1;have h4:=yhc c2;cases h;refine⟨(nx x.i wx i).toNat,(nx x.o wy k).toNat,?_,?_,?_,?_,?_,?_,?_,?_,?_,rfl⟩<;>omega
 ·cases h
def zh3(t:GTrans)(wx wy:List Int)(i k:Nat):List GW:=if i=wx.length/\k=wy.length then t.fin else List.replicate t.st.toNat t.ring.zero
def rowW(t:GTrans)(wx wy:List Int)(i k:Nat)(rows:Nat->Nat->List GW):List GW:=accW t.ring (zfx wx wy i k rows) t.arcs (zh3 t wx wy i k)
def zfu(t:GTrans)(wx wy:List Int)(i k:Nat)(rows:Nat->Nat->List GW):List GW:=sprN t.ring t.arcs (rowW t wx wy i k rows) t.st.toNat
def valW(t:GTrans)(wx wy:List Int):Nat->Nat->Nat->List GW
 | 0,_,_=>[]
 | n+1,i,k=>zfu t wx wy i k (valW t wx wy n)
def tabW(t:GTrans)(wx wy:List Int)(i k:Nat):List GW:=valW t wx wy (wx.length - i+(wy.length - k)+1) i k
theorem zlc{p q:GTArc->Option (List GW)}:∀ {l:List GTArc} {base:List GW},(∀ x∈l,p x=q x)->accW r p l base=accW r q l base
 | [],_,_=>rfl
 | x::l,base,h=>by
  show accW r p l (accS r p base x)=accW r q l (accS r q base x);have:accS r p base x=accS r q base x:=by unfold accS;rw[h x ynt]
  rw[this];exact zlc fun y hy=>h y (yn9 _ hy)
theorem zu8{wx wy:List Int}{i k:Nat}(hi:i<=wx.length)(hk:k<=wy.length){f g:Nat->Nat->List GW}(h:∀ a b:Nat,i<=a->k<=b->a<=wx.length->b<=wy.length->i+k<a+b->f a b=g a b)(x:GTArc):zfx wx wy i k f x=zfx wx wy i k g x:=by
 cases hf:zfx wx wy i k f x with
 | none =>
  unfold zfx at *
  split at hf
  ·cases hf
  ·rename_i hc;rw[ym1 hc]
 | some e =>
  obtain⟨a,b,h1,h2,h3,h4,h5,h6,h7,h8,h9,rfl⟩:=zkl hi hk hf;unfold zfx;rw[h1,h2,ym0 ⟨by omega,by omega,by omega⟩,ynz,ynz,h a b h3 h5 h7 h8 h9]
theorem zi3{t:GTrans}{wx wy:List Int}{i k:Nat}(hi:i<=wx.length)(hk:k<=wy.length){f g:Nat->Nat->List GW}(h:∀ a b:Nat,i<=a->k<=b->a<=wx.length->b<=wy.length->i+k<a+b->f a b=g a b):zfu t wx wy i k f=zfu t wx wy i k g:=by unfold zfu rowW;rw[zlc fun x _=>zu8 hi hk h x]
theorem zw9{t:GTrans}{wx wy:List Int}:∀ (n m i k:Nat),i<=wx.length->k<=wy.length->wx.length - i+(wy.length - k)<n->wx.length - i+(wy.length - k)<m->valW t wx wy n i k=valW t wx wy m i k
 | 0,_,_,_,_,_,h,_=>by omega
 | _+1,0,_,_,_,_,_,h=>by omega
 | n+1,m+1,i,k,hi,hk,h1,h2=>by show zfu t wx wy i k _=zfu t wx wy i k _;exact zi3 hi hk fun a b a1 a2 a3 a4 a5=>zw9 n m a b a3 a4 (by omega) (by omega)
theorem yb0{t:GTrans}{wx wy:List Int}{i k:Nat}(hi:i<=wx.length)(hk:k<=wy.length):tabW t wx wy i k=zfu t wx wy i k (tabW t wx wy):=by show zfu t wx wy i k _=_;exact zi3 hi hk fun a b a1 a2 a3 a4 a5=>zw9 _ _ a b a3 a4 (by omega) (by omega)
structure GTrans.fits {r:GRing} (M:Meas r) (c:Nat) (t:GTrans):Prop where
 ring:t.ring=r
 st:0<=t.st/\t.st<=64
 arcs:Go.Ab.fits M c t.st.toNat t.arcs
 ini:vb M c t.ini/\t.ini.length=t.st.toNat
 fin:vb M c t.fin/\t.fin.length=t.st.toNat
 rok:r.ok=true
theorem z6y(hr:r.ok=true)(n c:Nat):vb M c (List.replicate n r.zero):=fun w hw=>by rw[ypv hw];exact⟨zbd hr,M.mono M.zero (by omega)⟩
variable {M}
def sumW(r:GRing)(ini row:List GW):GW:=(ini.zip row).foldl (fun s p=>r.plus s (r.times p.1 p.2)) r.zero
def sumN(r:GRing)(ini row:List GW)(n:Nat):GW:=((ini.zip row).take n).foldl (fun s p=>r.plus s (r.times p.1 p.2)) r.zero
theorem zje{ini row:List GW}{n:Nat}(h1:n<ini.length)(h2:n<row.length):sumN r ini row (n+1)=r.plus (sumN r ini row n) (r.times ini[n] row[n]):=by unfold sumN;rw[ymr (by rw[List.length_zip];omega),ynn];simp
theorem zm3(hr:r.ok=true){c E:Nat}{ini row:List GW}(hi:vb M c ini)(he:vb M E row):∀ n,n<=ini.length->n<=row.length->(sumN r ini row n).chk r/\M.mb (c+E+1+n) (sumN r ini row n)
 | 0,_,_=>⟨zbd hr,M.mono M.zero (by omega)⟩
 | n+1,h1,h2=>by have ih:=zm3 hr hi he n (by omega) (by omega);have k1:=hi _ (ym3 (show n<ini.length by omega));have k2:=he _ (ym3 (show n<row.length by omega));rw[zje (by omega) (by omega)];have ct:=za9 k1.1 k2.1;exact⟨zbu ih.1 ct,M.plus ih.1 ct ih.2 (M.mono (M.times k1.1 k2.1 k1.2 k2.2) (yre _ _))⟩
theorem zfa{ini row:List GW}{n:Nat}(h:ini.length<=n):sumN r ini row n=sumW r ini row:=by unfold sumN sumW;rw[ymq (by rw[List.length_zip];omega)]
end
noncomputable def wgt(t:GTrans)(wx wy:List Int):GW:=sumW t.ring t.ini (tabW t wx wy 0 0)
section
variable (t:GTrans) (wx wy:List Int)
end
def ze9(w:List Int)(m:Int):Prop:=(1<=m/\m<=32)/\w.length<=256/\∀ x∈w,1<=x/\x<=m
noncomputable instance (w:List Int) (m:Int):Decidable (ze9 w m):=Classical.propDecidable _
theorem zjn(a:Int)(d k B:Nat)(h:d*k=6)(hb:a.natAbs<=B):qb 6 (B*k) (Rat.divInt a d):=by
 have h1:qb d B (Rat.divInt a d):=⟨a,Rat.divInt_ofNat a d,hb⟩;have h2:=zd0 k (by rintro rfl;omega) h1
 rwa[h]at h2
def numD(v:Int):Int:=1+IntKind.i64.wrap (v.tdiv 13) % 3
def numR(v:Int):Rat:=Rat.divInt (v % 13 - 6) (numD v)
theorem znn(v:Int):qb 6 36 (numR v):=by
 have h1:numD v=1\/numD v=2\/numD v=3:=by unfold numD;omega
 have h2:(v % 13 - 6).natAbs<=6:=by omega
 unfold numR;rcases h1 with h|h|h<;>rw[h]
 ·exact zbh (zjn _ 1 6 6 rfl h2) (by omega)
 ·exact zbh (zjn _ 2 3 6 rfl h2) (by omega)
 ·exact zbh (zjn _ 3 2 6 rfl h2) (by omega)
theorem yat{B:Nat}{q:Rat}(h:qb 6 B q)(hB:B<4294967296):(rto q).sm 1:=zvj h (by omega) (by omega) (by omega)
theorem zt1(v:Int):Sp P F.jz [.int .i64 v] (.pure (enc (rto (numR v)))):=by
 have e1:IntKind.i64.wrap (v % 13 - 6)=v % 13 - 6:=i64w (by omega) (by omega);have e2:IntKind.i64.wrap (1+IntKind.i64.wrap (v.tdiv 13) % 3)=numD v:=i64w (by omega) (by omega);have h1:numD v=1\/numD v=2\/numD v=3:=by unfold numD;omega
 refine Sp.vz c.jz fun _=>?_;simp[g.jz,go_sem];refine zab (zda v 13 (by omega) (by omega)) ?_;simp[go_sem,e1];refine zab (zda (IntKind.i64.wrap (v.tdiv 13)) 3 (by omega) (by omega)) ?_;simp[go_sem,e2];refine zab (zho (v % 13 - 6) (numD v) (by omega) (by omega) (by omega)) ?_;simp[go_sem,numR]
def ztt(v:Int):List GMono :=
 let p:=pput [] ⟨0,0,0⟩ (Rat.divInt (v % 5 - 2) 3)
 if IntKind.i64.wrap (v.tdiv 5) % 2=1 then padd p (pmul (zdo (IntKind.i64.wrap (v.tdiv 10) % 3)) (zb6 (numR v)))else p
def zgu(k v:Int):GW :=
 if k=1 then .mk (rto (numR v)) 0 false 0 [] []
 else if k=2 then(if v % 11=10 then(⟨2,[]⟩:GRing).zero else .mk gr0 (v % 11) false 0 [] [])
 else if k=3 then .mk (rto (Rat.divInt (v % 7) 6)) 0 false 0 [] []
 else if k=4 then .mk gr0 0 false (UInt64.ofNat (v % 16).toNat) [] []
 else .mk gr0 0 false 0 (ztt v) []
theorem ztq(q:Rat):PVal (pput [] ⟨0,0,0⟩ q):=zmf _ _ zhp
theorem zjp{B:Nat}{q:Rat}(h:qb 6 B q):pqb 6 B (pput [] ⟨0,0,0⟩ q):=by
 have:=zvo (zvp 6) h (by omega) ⟨0,0,0⟩
 rwa[yn6]at this
theorem zpt(i:Int):PVal (zdo i):=by
 unfold zdo;split
 ·refine zaj.2 ⟨fun m hm=>?_,List.pairwise_singleton _ _⟩;rw[yog.1 hm];refine GMono.ok_iff.2 ⟨?_,zbf 1,by rw[zbe];decide⟩;have h3:i=0\/i=1\/i=2:=by omega
  rcases h3 with rfl|rfl|rfl<;>rfl
 ·exact zhp
theorem ztr(i:Int):pqb 1 1 (zdo i):=fun e=>by
 unfold zdo;split
 ·simp only[pc];rw[zbe];split
  ·exact⟨1,by rw[yn5];exact(yrc 1).symm,by decide⟩
  ·exact zbh (by rw[yn5];exact zis 1) (by omega)
 ·exact zbh (zis 1) (by omega)
theorem zpu(v:Int):PVal (ztt v)/\pqb 6 1700000 (ztt v):=by
 have h0:qb 6 36 (Rat.divInt (v % 5 - 2) 3):=zbh (zjn (v % 5 - 2) 3 2 6 rfl (by omega)) (by omega);have p0:=ztq (Rat.divInt (v % 5 - 2) 3);have q0:=zjp h0;unfold ztt;simp only;split
 ·have hv:=zpt (IntKind.i64.wrap (v.tdiv 10) % 3);have hq:=ztr (IntKind.i64.wrap (v.tdiv 10) % 3);have hc:pqb 6 36 (zb6 (numR v)):=zjp (znn v);have hm:=zkp (zcw hq hv) (zcw hc (zeu _)) (by omega);have l1:=za0 hv;have l2:=za0 (zeu (numR v));have h3:(zdo (IntKind.i64.wrap (v.tdiv 10) % 3)).length*((zb6 (numR v)).length*(1*36))<=216*(216*(1*36)):=yn4 l1 (ymu _ l2);refine⟨zcf _ p0,fun e=>zbh (z23 q0 (fun e=>zbh (hm e) h3) (zbt _ _) (by omega) e) (by omega)⟩
 ·exact⟨p0,fun e=>zbh (q0 e) (by omega)⟩
theorem z26(v:Int):Sp P F.bz [enc (rto (Rat.divInt (v % 5 - 2) 3))] (.pure (.sl (ens (pput [] ⟨0,0,0⟩ (Rat.divInt (v % 5 - 2) 3))))):=by
 have h0:qb 6 36 (Rat.divInt (v % 5 - 2) 3):=zbh (zjn (v % 5 - 2) 3 2 6 rfl (by omega)) (by omega);have:=zhy (rto (Rat.divInt (v % 5 - 2) 3)) ((yat h0 (by omega)).mono (by omega))
 rwa[zbe]at this
theorem qm1{B:Nat}{q:Rat}(h:qb 6 B q)(hB:B<=6291456):qm 1 q:=by unfold qm;rw[show mD 1=6 from rfl,show mB 1=6291456 from rfl];exact zbh h hB
theorem zkx{k:Int}(hk:1<=k/\k<=5)(v:Int):(zgu k v).si k/\(zgu k v).mb1 1:=by
 have h:k=1\/k=2\/k=3\/k=4\/k=5:=by omega
 rcases h with rfl|rfl|rfl|rfl|rfl
 ·refine⟨si1.2 ⟨rfl,rfl,rfl,rfl,rfl,zbf _⟩,?_,fun e=>zc6 1⟩;show qm 1 (rto (numR v)).v;rw[zbe];exact qm1 (znn v) (by omega)
 ·unfold zgu;rw[ym1 (by omega),ym0 rfl];split
  ·exact⟨zh4 (k:=2) (by omega),zfr ..⟩
  ·exact⟨si2.2 ⟨rfl,rfl,rfl,rfl,by show 0<=v % 11;omega,by show v % 11<=1099511627776;omega,fun h=>by cases h⟩,zfr ..⟩
 ·have hq:qb 6 6 (Rat.divInt (v % 7) 6):=zbh (zjn (v % 7) 6 1 6 rfl (by omega)) (by omega);refine⟨si3.2 ⟨rfl,rfl,rfl,rfl,rfl,zbf _,?_,?_⟩,?_,fun e=>zc6 1⟩
  ·show 0<=(rto (Rat.divInt (v % 7) 6)).v;rw[zbe];exact Rat.divInt_nonneg (by omega) (by omega)
  ·show(rto (Rat.divInt (v % 7) 6)).v<=1;rw[zbe,Rat.le_iff_sub_nonneg,show(1:Rat)=Rat.divInt 6 6 from rfl,Rat.divInt_sub_divInt _ _ (by omega) (by omega)];exact Rat.divInt_nonneg (by omega) (by omega)
  ·show qm 1 (rto (Rat.divInt (v % 7) 6)).v;rw[zbe];exact qm1 hq (by omega)
 ·exact⟨si4.2 ⟨rfl,rfl,rfl,rfl,rfl⟩,zfr ..⟩
 ·refine⟨si5.2 ⟨rfl,rfl,rfl,rfl,rfl,(zpu v).1⟩,?_,fun e=>qm1 ((zpu v).2 e) (by omega)⟩;show qm 1 gr0.v;rw[zf9];exact zc6 1
theorem z24(n:Nat)(h:n≠0):4294967296<=4294967296^n:=Nat.le_self_pow h _
theorem zpd(k:Int)(hk:1<=k/\k<=5)(v:Int):Sp P F.ak [enc (⟨k,[]⟩:GRing),.int .i64 v] (.pure (enc (zgu k v))):=by
 have h:k=1\/k=2\/k=3\/k=4\/k=5:=by omega
 rcases h with rfl|rfl|rfl|rfl|rfl
 ·refine Sp.vz c.ak fun _=>?_;simp[g.ak,go_sem];refine zab (zt1 v) ?_;simp[go_sem,zgu]
 ·refine Sp.vz c.ak fun _=>?_;simp[g.ak,go_sem];refine zab (zda v 11 (by omega) (by omega)) ?_;simp[go_sem];refine⟨fun h=>?_,fun h=>?_⟩
  ·refine zab (zgh ⟨2,[]⟩) ?_;simp[go_sem,zgu,h]
  ·refine zab (zda v 11 (by omega) (by omega)) ?_;simp[go_sem,zgu,h,gr0]
 ·refine Sp.vz c.ak fun _=>?_;simp[g.ak,go_sem];refine zab (zda v 7 (by omega) (by omega)) ?_;simp[go_sem];refine zab (zho (v % 7) 6 (by omega) (by omega) (by omega)) ?_;simp[go_sem,zgu]
 ·refine Sp.vz c.ak fun _=>?_;simp[g.ak,go_sem];refine zab (zda v 16 (by omega) (by omega)) ?_;simp[go_sem,zgu];omega
 ·have e1:IntKind.i64.wrap (v % 5 - 2)=v % 5 - 2:=i64w (by omega) (by omega);refine Sp.vz c.ak fun _=>?_;simp[g.ak,go_sem];refine zab (zda v 5 (by omega) (by omega)) ?_;simp[go_sem,e1];refine zab (zho (v % 5 - 2) 3 (by omega) (by omega) (by omega)) ?_;simp[go_sem];refine zab (z26 v) ?_;simp[go_sem];refine zab (zda (IntKind.i64.wrap (v.tdiv 5)) 2 (by omega) (by omega)) ?_;have h0:qb 6 36 (Rat.divInt (v % 5 - 2) 3):=zbh (zjn (v % 5 - 2) 3 2 6 rfl (by omega)) (by omega);have p0:=ztq (Rat.divInt (v % 5 - 2) 3);have q0:=zjp h0;simp[go_sem];refine⟨fun h=>?_,fun h=>?_⟩
  ·refine zab (zda (IntKind.i64.wrap (v.tdiv 10)) 3 (by omega) (by omega)) ?_;simp[go_sem];have hv:=zpt (IntKind.i64.wrap (v.tdiv 10) % 3);have hq:=ztr (IntKind.i64.wrap (v.tdiv 10) % 3);have hc:pqb 6 36 (zb6 (numR v)):=zjp (znn v);have hm:=zkp (zcw hq hv) (zcw hc (zeu _)) (by omega);have l1:=za0 hv;have l2:=za0 (zeu (numR v));have h3:(zdo (IntKind.i64.wrap (v.tdiv 10) % 3)).length*((zb6 (numR v)).length*(1*36))<=216*(216*(1*36)):=yn4 l1 (ymu _ l2);have big:=z24 1048576 (by omega);have hmv:=zbt (zdo (IntKind.i64.wrap (v.tdiv 10) % 3)) (zb6 (numR v));have s1:=z2o (zdo (IntKind.i64.wrap (v.tdiv 10) % 3)) (rto (numR v)) 1 6 1 36 hv hq (by rw[zbe];exact znn v) (by omega) (by omega) (by omega) (by omega) (fun m hm=>(zee (n:=1) hq hv (by omega) (by omega) (by omega) m hm).mono (by omega)) ((yat (znn v) (by omega)).mono (by omega));have s2:=z6t (pput [] ⟨0,0,0⟩ (Rat.divInt (v % 5 - 2) 3)) (pmul (zdo (IntKind.i64.wrap (v.tdiv 10) % 3)) (zb6 (numR v))) 6 36 1679616 p0 hmv q0 (fun e=>zbh (hm e) h3) (by omega) (by omega) (by omega);rw[zbe]at s1;refine zab (zra (IntKind.i64.wrap (v.tdiv 10) % 3)) ?_;simp[go_sem];refine zab (zt1 v) ?_;simp[go_sem];refine zab s1 ?_;simp[go_sem];refine zab s2 ?_;simp[go_sem,zgu,ztt,h]
  ·simp[go_sem,zgu,ztt,h]
def zdp(ks:List Int)(v:Int)(n:Nat):List GW:=(List.range n).map fun i=>zgu (ks.getD i 0) (IntKind.i64.wrap (v+i))
def zkw(r:GRing)(v:Int):GW:=if r.kind=6 then .mk gr0 0 false 0 [] (zdp r.parts v r.parts.length)else zgu r.kind v
theorem zvv(ks:List Int)(v:Int)(n:Nat)(h:n<ks.length):zdp ks v (n+1)=zdp ks v n++[zgu ks[n] (IntKind.i64.wrap (v+n))]:=by unfold zdp;rw[yoi,ynw];simp[yms h]
theorem zf3(ks:List Int)(v:Int)(n:Nat):(zdp ks v n).length=n:=by simp[zdp]
theorem z0m{r:GRing}(hr:r.ok=true)(v:Int):(zkw r v).chk r/\(zkw r v).mb 1:=by
 unfold zkw;by_cases h6:r.kind=6
 ·have hp:=GRing.ok_parts hr h6;have hs:∀ i,(h:i<r.parts.length)->(h':i<(zdp r.parts v r.parts.length).length)->(zdp r.parts v r.parts.length)[i].si r.parts[i]/\(zdp r.parts v r.parts.length)[i].mb1 1:=fun i h h'=>by
   have e:(zdp r.parts v r.parts.length)[i]=zgu r.parts[i] (IntKind.i64.wrap (v+i)):=by simp[zdp,yms h]
   rw[e];exact zkx (hp.2.2 _ (ym3 h)) _
  rw[ym0 h6];refine⟨⟨hr,fun h=>absurd h6 h,fun _=>⟨zf3 ..,rfl,fun i h h'=>(hs i h h').1⟩⟩,⟨zj0 ..,fun x hx=>?_⟩⟩;obtain⟨i,hi,rfl⟩:=yo7.1 hx;have hi':i<(zdp r.parts v r.parts.length).length:=hi;exact(hs i (by rw[zf3]at hi';exact hi') hi').2
 ·have hk:=GRing.ok_kind hr h6;have h:=zkx ⟨hk.1,hk.2.1⟩ v;rw[ym1 h6];refine⟨⟨hr,fun _=>h.1,fun h'=>absurd h' h6⟩,⟨h.2,fun x hx=>?_⟩⟩;rw[h.1.1]at hx;cases hx
theorem zpe(r:GRing)(hr:r.ok=true)(v:Int):Sp P F.ak [enc r,.int .i64 v] (.pure (enc (zkw r v))):=by
 by_cases h6:r.kind=6;rotate_left
 ·have hk:=GRing.ok_kind hr h6;have e:r=⟨r.kind,[]⟩:=by rw[<- hk.2.2]
  have:=zpd r.kind ⟨hk.1,hk.2.1⟩ v;rw[<- e]at this;rw[show zkw r v=zgu r.kind v by unfold zkw;rw[ym1 h6]];exact this
 ·have hp:=GRing.ok_parts hr h6;refine Sp.vz c.ak fun _=>?_;simp[g.ak,go_sem,h6]
  refine zai (S:=fun k:Nat=>mkSt [(1,.p (.int .i64 v)),(2,.ptr 2 0 0 0),(4,.ptr 4 0 0 0),(6,.ptr 6 0 0 0),(7,.p (.int .i64 k))]
    [(2,⟨2,[.p (enc r)]⟩),(4,⟨8,[.agg [.p (.bool false),.nil,.nil,.p (.int .i64 0),.p (.bool false),.p (.int .u64 0),.nil,.nil]]⟩),
     (6,⟨8,[.agg [.p (.bool false),.nil,.nil,.p (.int .i64 0),.p (.bool false),.p (.int .u64 0),.nil,.own 5 0 0 k]]⟩),(5,⟨8,avs (zdp r.parts v k)⟩)])
   (I:=fun k=>k<=r.parts.length) (m:=fun k=>r.parts.length - k) 0
   ((Weak.nilCell (s0:=6) (g0:=0) (i:=7) (s:=77) (sz:=8) rfl).trans (Weak.to [1,2,4,6,7] [((2,0),2),((4,0),4),((6,0),6),((77,0),5)] (by simp[go_sem,zdp,h6]))) (by omega) ?_
  rintro k h1 R hn' hr' hx;have e1:=i64s k (by omega);simp[g.qa,mkSt,go_sem];refine⟨fun hk=>?_,fun hk=>hx _ _ ?_⟩
  ·refine zae hk ?_
   try simp[go_sem]
   have hc:=zpd r.parts[k] (hp.2.2 _ (ym3 hk)) (IntKind.i64.wrap (v+k));have hts:=zvv r.parts v k hk;have hlen:=zf3 r.parts v k;refine zab hc ?_;simp[go_sem,e1,hlen];exact⟨by omega,hn' (k+1) _ (Weak.to [1,2,4,6,7] [((2,0),2),((4,0),4),((6,0),6),((80,0),5)] (by simp[go_sem,mkSt,hts,h6])) (by omega) (by omega)⟩
  ·have:k=r.parts.length:=by omega
   subst this;have hW:zkw r v=.mk gr0 0 false 0 [] (zdp r.parts v r.parts.length):=by unfold zkw;rw[ym0 h6]
   have hT:(zdp r.parts v r.parts.length).take r.parts.length=zdp r.parts v r.parts.length:=ymq (by rw[zf3];omega);simp[go_sem,hW,hT,zf3,gr0]
def zjl(k:Int):GRing:=if k % 7=5 then⟨6,[1,2]⟩else if k % 7=6 then⟨6,[3,4,5]⟩else⟨k % 7+1,[]⟩
theorem zxs(k:Int):(zjl k).ok=true:=by
 have h:k % 7=0\/k % 7=1\/k % 7=2\/k % 7=3\/k % 7=4\/k % 7=5\/k % 7=6:=by omega
 unfold zjl;rcases h with h|h|h|h|h|h|h<;>rw[h]<;>decide
theorem ycm(k:Int):Sp P F.jg [.int .i64 k] (.pure (enc (zjl k))):=by have e1:IntKind.i64.wrap (k % 7+1)=k % 7+1:=i64w (by omega) (by omega);refine Sp.vz c.jg fun _=>?_;simp[g.jg,go_sem];refine zab (zda k 7 (by omega) (by omega)) ?_;simp[go_sem];refine⟨fun h=>by simp[zjl,h,go_sem],fun h=>⟨fun h2=>by simp[zjl,h,h2,go_sem],fun h2=>?_⟩⟩;have:=zda (k % 7) 7 (by omega) (by omega);rw[Int.emod_emod]at this;refine zab this ?_;simp[go_sem,zjl,h,h2,e1]
theorem z33{k:Int}(hk:1<=k/\k<=5):(oneW k []).si k/\(oneW k []).mb1 1:=by
 have h:k=1\/k=2\/k=3\/k=4\/k=5:=by omega
 have hq:qm 1 (1:Rat):=qm1 (zjn 1 1 6 1 rfl (by decide)) (by omega);rcases h with rfl|rfl|rfl|rfl|rfl
 ·exact⟨si1.2 ⟨rfl,rfl,rfl,rfl,rfl,zbf 1⟩,by show qm 1 (rto 1).v;rw[zbe];exact hq,fun e=>zc6 1⟩
 ·exact⟨si2.2 ⟨rfl,rfl,rfl,rfl,by decide,by decide,fun h=>by cases h⟩,zfr ..⟩
 ·refine⟨si3.2 ⟨rfl,rfl,rfl,rfl,rfl,zbf 1,?_,?_⟩,by show qm 1 (rto 1).v;rw[zbe];exact hq,fun e=>zc6 1⟩
  ·show 0<=(rto 1).v;rw[zbe];decide
  ·show(rto 1).v<=1;rw[zbe];exact Rat.le_refl
 ·exact⟨si4.2 ⟨rfl,rfl,rfl,rfl,rfl⟩,zfr ..⟩
 ·refine⟨si5.2 ⟨rfl,rfl,rfl,rfl,rfl,zeu 1⟩,?_,fun e=>?_⟩
  ·show qm 1 gr0.v;rw[zf9];exact zc6 1
  ·have h1:pqb 6 6 (zb6 1):=zjp (zjn 1 1 6 1 rfl (by decide));exact qm1 (h1 e) (by omega)
theorem z8p{r:GRing}(hr:r.ok=true):r.one.chk r/\r.one.mb 1:=by
 unfold GRing.one;rw[ym0 hr];by_cases h6:r.kind=6
 ·have hp:=GRing.ok_parts hr h6;rw[h6];have e:oneW 6 (r.parts.map fun k=>oneW k [])=.mk gr0 0 false 0 [] (r.parts.map fun k=>oneW k []):=rfl;rw[e];have hs:∀ i,(h:i<r.parts.length)->(h':i<(r.parts.map fun k=>oneW k []).length)->(r.parts.map fun k=>oneW k [])[i].si r.parts[i]/\(r.parts.map fun k=>oneW k [])[i].mb1 1:=fun i h h'=>by rw[yr9];exact z33 (hp.2.2 _ (ym3 h))
  refine⟨⟨hr,fun h=>absurd h6 h,fun _=>⟨ynp ..,rfl,fun i h h'=>(hs i h h').1⟩⟩,⟨zj0 ..,fun x hx=>?_⟩⟩;obtain⟨i,hi,rfl⟩:=yo7.1 hx;have hi':i<(r.parts.map fun k=>oneW k []).length:=hi;exact(hs i (by rw[ynp]at hi';exact hi') hi').2
 ·have hk:=GRing.ok_kind hr h6;have h:=z33 ⟨hk.1,hk.2.1⟩;rw[hk.2.2];exact⟨⟨hr,fun _=>h.1,fun h'=>absurd h' h6⟩,⟨h.2,fun x hx=>by rw[show(oneW r.kind ([].map fun k=>oneW k [])).parts=[] from h.1.1]at hx;cases hx⟩⟩
def endM(r:GRing)(l:List Int)(i:Nat)(one:Int):GW:=if h:i<l.length then zkw r l[i]else if (i:Int)=one then r.one else r.zero
theorem zw1{r:GRing}(hr:r.ok=true):r.zero.mb 0:=by unfold GRing.zero;rw[ym0 hr];refine⟨zj0 ..,fun x hx=>?_⟩;obtain⟨k,_,rfl⟩:=ym6.1 hx;exact zfr ..
theorem ybb(r:GRing)(hr:r.ok=true)(l:List Int)(i:Nat)(one:Int):Sp P F.fq [enc r,.sl (ens l),.int .i64 i,.int .i64 one] (.pure (enc (endM r l i one))):=by
 refine Sp.vz c.fq fun _=>?_;simp[g.fq,go_sem];refine⟨fun h=>zae h ?_,fun h=>⟨fun h2=>?_,fun h2=>?_⟩⟩
 ·refine zab (zpe r hr l[i]) ?_;simp[go_sem,endM,h]
 ·refine zab (z35 r) ?_;simp[go_sem,endM,h2,show ¬ i<l.length by omega]
 ·refine zab (zgh r) ?_;simp[go_sem,endM,h2,show ¬ i<l.length by omega]
def mbM(r:GRing)(hr:r.ok=true):Meas r where
 mb n w:=w.mb n
 lim:=900
 mono h k:=h.mono k
 zero:=zw1 hr
 plus cv cw hv hw:=z3f cv cw hv hw
 times cv cw hv hw:=zxb cv cw hv hw
 plusS:=fun {v w n} hn cv cw hv hw=>z8f r v w (max n 216) (hv.mono (by omega)) (hw.mono (by omega)) (by omega) (by omega) cv cw
 timesS:=fun {v w n} hn cv cw hv hw=>z1y r v w (max n 216) (hv.mono (by omega)) (hw.mono (by omega)) (by omega) (by omega) cv cw
structure GModel where
 st:Int
 ini:List Int
 fin:List Int
 arcs:List Int
 em:Bool
instance:Enc GModel:=⟨fun x=>.agg [.int .i64 x.st,.sl (ens x.ini),.sl (ens x.fin),.sl (ens x.arcs),.bool x.em],5,by decide,fun _=>rfl⟩
@[go_sem] theorem yhz(x:GModel):enc x=.agg [.int .i64 x.st,.sl (ens x.ini),.sl (ens x.fin),.sl (ens x.arcs),.bool x.em]:=rfl
@[go_sem] theorem yec:Enc.sz GModel=5:=rfl
def numN(m:GModel)(s:Int):Int:=1+IntKind.i64.wrap (m.st - 1) % s
def quoI(a b:Int):Int:=IntKind.i64.wrap (a.tdiv b)
def arcM(m:GModel)(r:GRing)(i o n a b c d:Int):GTArc:=⟨a % n,if m.em=true then b % (i+1)else 1+b % i,if m.em=true then quoI b (i+1) % (o+1)else 1+quoI b i % o,c % n,zkw r d⟩
def zl6(m:GModel)(r:GRing)(i o n:Int)(k:Nat):List GTArc:=(List.range k).map fun j=>arcM m r i o n (m.arcs.getD (4*j) 0) (m.arcs.getD (4*j+1) 0) (m.arcs.getD (4*j+2) 0) (m.arcs.getD (4*j+3) 0)
def zfs(r:GRing)(l:List Int)(one:Int)(k:Nat):List GW:=(List.range k).map fun j=>endM r l j one
def zin(m:GModel)(r:GRing)(i o s:Int):GTrans:=⟨r,i,o,numN m s,zfs r m.ini 0 (numN m s).toNat,zfs r m.fin (numN m s - 1) (numN m s).toNat,zl6 m r i o (numN m s) (min 7 (m.arcs.length / 4))⟩
theorem z0x(r:GRing)(l:List Int)(one:Int)(k:Nat):zfs r l one (k+1)=zfs r l one k++[endM r l k one]:=by unfold zfs;rw[yoi,ynw];rfl
theorem ze6(r:GRing)(l:List Int)(one:Int)(k:Nat):(zfs r l one k).length=k:=by simp[zfs]
theorem zkf(m:GModel)(r:GRing)(i o n:Int)(k:Nat):(zl6 m r i o n k).length=k:=by simp[zl6]
theorem z1f(m:GModel)(r:GRing)(i o n:Int)(k:Nat)(h:4*k+3<m.arcs.length):zl6 m r i o n (k+1)=zl6 m r i o n k++[arcM m r i o n m.arcs[4*k] m.arcs[4*k+1] m.arcs[4*k+2] m.arcs[4*k+3]]:=by unfold zl6;rw[yoi,ynw];simp[yms (show 4*k<m.arcs.length by omega),yms (show 4*k+1<m.arcs.length by omega),yms (show 4*k+2<m.arcs.length by omega),yms h]
theorem z64(m:GModel)(r:GRing)(i o s:Int)(hr:r.ok=true)(hi:1<=i/\i<=32)(ho:1<=o/\o<=32)(hs:1<=s/\s<=64):Sp P F.jf [enc m,enc r,.int .i64 i,.int .i64 o,.int .i64 s] (.pure (enc (zin m r i o s))):=by
 have hn:1<=numN m s/\numN m s<=s:=by have h1:=ypg (IntKind.i64.wrap (m.st - 1)) (show s≠0 by omega);have h2:=yph (IntKind.i64.wrap (m.st - 1)) (show 0<s by omega);unfold numN;omega
 have e0:IntKind.i64.wrap (1+IntKind.i64.wrap (m.st - 1) % s)=numN m s:=i64w (by unfold numN at hn;omega) (by unfold numN at hn;omega);have hT:zin m r i o s=⟨r,i,o,numN m s,zfs r m.ini 0 (numN m s).toNat,zfs r m.fin (numN m s - 1) (numN m s).toNat,zl6 m r i o (numN m s) (min 7 (m.arcs.length / 4))⟩:=rfl;refine Sp.vz c.jf fun _=>?_;simp[g.jf,go_sem];refine zab (zda (IntKind.i64.wrap (m.st - 1)) s (by omega) (by omega)) ?_;simp[go_sem,e0];generalize numN m s=n at *
 obtain⟨nn,rfl⟩:∃ nn:Nat,n=nn:=⟨n.toNat,by omega⟩;have e5:IntKind.i64.wrap ((nn:Int) - 1)=(nn:Int) - 1:=i64w (by omega) (by omega)
 refine zai (S:=fun k:Nat=>mkSt [(2,.p (.int .i64 i)),(3,.p (.int .i64 o)),(5,.ptr 5 0 0 0),(6,.ptr 6 0 0 0),(10,.ptr 10 0 0 0),(11,.p (.int .i64 nn)),(12,.ptr 12 0 0 0),(13,.p (.int .i64 k))]
   [(5,⟨5,[.p (enc m)]⟩),(6,⟨2,[.p (enc r)]⟩),(10,⟨8,[.agg [.p (.int .i64 0),.nil,.p (.int .i64 0),.p (.int .i64 0),.p (.int .i64 0),.nil,.nil,.nil]]⟩),
    (12,⟨8,[.agg [.p (.int .i64 r.kind),.p (.sl (ens r.parts)),.p (.int .i64 i),.p (.int .i64 o),.p (.int .i64 nn),.own 1 0 0 k,.own 2 0 0 k,.nil]]⟩),(1,⟨8,avs (zfs r m.ini 0 k)⟩),(2,⟨8,avs (zfs r m.fin (nn - 1) k)⟩)])
  (I:=fun k=>k<=nn) (m:=fun k=>nn - k) 0
  ((Weak.nilCell (s0:=12) (g0:=0) (i:=5) (s:=77) (sz:=8) rfl).trans ((Weak.nilCell (s0:=12) (g0:=0) (i:=6) (s:=78) (sz:=8) rfl).trans (Weak.to [2,3,5,6,10,11,12,13] [((5,0),5),((6,0),6),((10,0),10),((12,0),12),((77,0),1),((78,0),2)] (by simp[go_sem,zfs])))) (by omega) ?_
 rintro k h1 R hn' hr' hx;have e1:=i64s k (by omega);simp[g.pf,mkSt,go_sem];refine⟨fun hk=>?_,fun hk=>hx _ _ ?_⟩
 ·refine zab (ybb r hr m.ini k 0) ?_;simp[go_sem,e5,ze6];refine⟨by omega,?_⟩;refine zab (ybb r hr m.fin k (nn - 1)) ?_;simp[go_sem,e1,ze6];refine⟨by omega,?_⟩;exact hn' (k+1) _ (Weak.to [2,3,5,6,10,11,12,13] [((5,0),5),((6,0),6),((10,0),10),((12,0),12),((40,0),1),((52,0),2)] (by simp[go_sem,mkSt,z0x])) (by omega) (by omega)
 ·obtain rfl:nn=k:=by omega
  simp[go_sem];generalize hJ:min 7 (m.arcs.length / 4)=J at *
  refine zai (S:=fun j:Nat=>mkSt [(2,.p (.int .i64 i)),(3,.p (.int .i64 o)),(5,.ptr 5 0 0 0),(6,.ptr 6 0 0 0),(10,.ptr 10 0 0 0),(11,.p (.int .i64 nn)),(12,.ptr 12 0 0 0),(14,.p (.int .i64 (4*(j:Int))))]
    [(5,⟨5,[.p (enc m)]⟩),(6,⟨2,[.p (enc r)]⟩),(10,⟨8,[.agg [.p (.int .i64 0),.nil,.p (.int .i64 0),.p (.int .i64 0),.p (.int .i64 0),.nil,.nil,.nil]]⟩),
     (12,⟨8,[.agg [.p (.int .i64 r.kind),.p (.sl (ens r.parts)),.p (.int .i64 i),.p (.int .i64 o),.p (.int .i64 nn),.own 1 0 0 nn,.own 2 0 0 nn,.own 3 0 0 j]]⟩),(1,⟨8,avs (zfs r m.ini 0 nn)⟩),(2,⟨8,avs (zfs r m.fin (nn - 1) nn)⟩),(3,⟨12,avs (zl6 m r i o nn j)⟩)])
   (I:=fun j=>j<=J) (m:=fun j=>J - j) 0
   ((Weak.nilCell (s0:=12) (g0:=0) (i:=7) (s:=77) (sz:=12) rfl).trans (Weak.to [2,3,5,6,10,11,12,14] [((5,0),5),((6,0),6),((10,0),10),((12,0),12),((1,0),1),((2,0),2),((77,0),3)] (by simp[go_sem,zl6]))) (by omega) ?_
  rintro j h2 R2 hn2 hr2 hx2;have f1:IntKind.i64.wrap (4*(j:Int)+1)=4*(j:Int)+1:=i64w (by omega) (by omega);have f2:IntKind.i64.wrap (4*(j:Int)+2)=4*(j:Int)+2:=i64w (by omega) (by omega);have f3:IntKind.i64.wrap (4*(j:Int)+3)=4*(j:Int)+3:=i64w (by omega) (by omega);have f4:IntKind.i64.wrap (4*(j:Int)+4)=4*((j+1:Nat):Int):=by rw[i64w (by omega) (by omega)];omega
  have g0:(4*(j:Int)).toNat=4*j:=by omega
  have g1:(4*(j:Int)+1).toNat=4*j+1:=by omega
  have g2:(4*(j:Int)+2).toNat=4*j+2:=by omega
  have g3:(4*(j:Int)+3).toNat=4*j+3:=by omega
  have p0:0<=4*(j:Int):=by omega
  have p1:0<=4*(j:Int)+1:=by omega
  have p2:0<=4*(j:Int)+2:=by omega
  have p3:0<=4*(j:Int)+3:=by omega
  simp[g.pg,mkSt,go_sem,f3,f2,f1,g0,p0];refine⟨fun a1=>⟨fun a2=>?_,fun a2=>hx2 _ _ ?_⟩,fun a1=>hx2 _ _ ?_⟩
  ·have hj:4*j+3<m.arcs.length:=by omega
   have hsu:=z1f m r i o nn j hj;have hln:=zkf m r i o nn j;refine zae (by omega) ?_;refine zab (zda m.arcs[4*j] nn (by omega) (by omega)) ?_;simp[go_sem,f2,g2,p2];refine zae (by omega) ?_;refine zab (zda m.arcs[4*j+2] nn (by omega) (by omega)) ?_;simp[go_sem,f3,g3,p3];refine zae (by omega) ?_;refine zab (zpe r hr m.arcs[4*j+3]) ?_;simp[go_sem,f1,g1,p1];refine zae (by omega) ?_;refine zab (zda m.arcs[4*j+1] i (by omega) (by omega)) ?_;have b1:=ypg m.arcs[4*j+1] (show i≠0 by omega);have b2:=yph m.arcs[4*j+1] (show 0<i by omega);have w1:IntKind.i64.wrap (1+m.arcs[4*j+1] % i)=1+m.arcs[4*j+1] % i:=i64w (by omega) (by omega);simp[go_sem,f1,g1,p1,w1];refine zae (by omega) ⟨by omega,?_⟩;refine zaa (zda (quoI m.arcs[4*j+1] i) o (by omega) (by omega)) (by simp[go_sem,quoI]) ?_;have c1:=ypg (quoI m.arcs[4*j+1] i) (show o≠0 by omega);have c2:=yph (quoI m.arcs[4*j+1] i) (show 0<o by omega);have w2:IntKind.i64.wrap (1+quoI m.arcs[4*j+1] i % o)=1+quoI m.arcs[4*j+1] i % o:=i64w (by omega) (by omega);simp[go_sem,w2];refine⟨fun hem=>?_,fun hem=>?_⟩
   ·have wi:IntKind.i64.wrap (i+1)=i+1:=i64w (by omega) (by omega);have wo:IntKind.i64.wrap (o+1)=o+1:=i64w (by omega) (by omega);simp[go_sem,f1,g1,p1,wi];refine zae (by omega) ?_;refine zab (zda m.arcs[4*j+1] (i+1) (by omega) (by omega)) ?_;simp[go_sem,f1,g1,p1,wi,wo];refine zae (by omega) ⟨by omega,?_⟩;refine zaa (zda (quoI m.arcs[4*j+1] (i+1)) (o+1) (by omega) (by omega)) (by simp[go_sem,quoI]) ?_;simp[go_sem,f4,hln];exact⟨by omega,hn2 (j+1) _ (Weak.to [2,3,5,6,10,11,12,14] [((5,0),5),((6,0),6),((10,0),10),((12,0),12),((1,0),1),((2,0),2),((141,0),3)] (by simp[go_sem,mkSt,hsu,arcM,hem])) (by omega) (by omega)⟩
   ·simp[go_sem,f4,hln];exact⟨by omega,hn2 (j+1) _ (Weak.to [2,3,5,6,10,11,12,14] [((5,0),5),((6,0),6),((10,0),10),((12,0),12),((1,0),1),((2,0),2),((141,0),3)] (by simp[go_sem,mkSt,hsu,arcM,hem])) (by omega) (by omega)⟩
  all_goals
   obtain rfl:j=J:=by omega
   have t1:(zfs r m.ini 0 nn).take nn=zfs r m.ini 0 nn:=ymq (by rw[ze6];omega);have t2:(zfs r m.fin (nn - 1) nn).take nn=zfs r m.fin (nn - 1) nn:=ymq (by rw[ze6];omega);have t3:(zl6 m r i o nn j).take j=zl6 m r i o nn j:=ymq (by rw[zkf];omega);simp[go_sem,hT,ze6,zkf,t1,t2,t3]
end Go.Ab
