/-
Proofs for the law TransducerWeighsMadeModels, part 38. Conditions: none.
-/
import Derived.Test.YtbhboeijjgiflaaGreatDoorCP37
set_option maxRecDepth 100000
set_option maxHeartbeats 4000000
set_option linter.all false
namespace Go.Ab
open Enc (enc)
theorem z1p(k n:Int)(h:0<n):(if k.tmod n<0 then k.tmod n+n else k.tmod n)=k % n:=by
 have h1:=Int.tmod_eq_emod (a:=k) (b:=n);have h2:=you k (show n≠0 by omega);have h3:=yov k h;rw[h1];have h4:(n.natAbs:Int)=n:=by omega
 split<;>split<;>omega
theorem zc8(k n:Int)(h:0<n)(hn:n<=1000000):Sp P F.aj [.int .i64 k,.int .i64 n] (.pure (.int .i64 (k % n))):=by
 have h1:=z1p k n h;have h2:=you k (show n≠0 by omega);have h3:=yov k h;refine Sp.vz c.aj fun _=>?_;simp[g.aj,go_sem];refine⟨by omega,fun h4=>?_,fun h4=>?_⟩
 ·rw[yl0 h4]at h1;rw[h1,i64w (by omega) (by omega)]
 ·rw[yl1 (by omega)]at h1;exact h1
def nx(label:Int)(w:List Int)(a:Nat):Int:=if label=0 then a else if w[a]?=some label then a+1 else -1
theorem ztq(label:Int)(w:List Int)(a:Nat)(hw:w.length<=1000000)(ha:a<=w.length):Sp P F.jw [.int .i64 label,.sl (ens w),.int .i64 a] (.pure (.int .i64 (nx label w a))):=by
 have e1:=i64s a (by omega);refine Sp.vz c.jw fun _=>?_;simp[g.jw,go_sem];refine⟨fun h=>by simp[nx,h],fun h=>?_⟩;by_cases hk:a<w.length
 ·refine⟨fun _=>zae hk ?_,fun h=>absurd hk (by omega)⟩;by_cases h2:w[a]=label
  ·simp[go_sem,h2,e1,nx,h,hk]
  ·simp[go_sem,h2,e1,nx,h,hk]
 ·simp[go_sem,hk,nx,h]
theorem zml(w:List Int)(m:Int)(hl:w.length<=1000000000):Sp P F.cg [.sl (ens w),.int .i64 m] (.pure (.bool (decide ((1<=m/\m<=32)/\w.length<=256/\∀ x∈w,1<=x/\x<=m)))):=by
 refine Sp.vz c.cg fun _=>?_;simp[g.cg,go_sem];refine zaa (zfl m) rfl ?_;by_cases hm:1<=m/\m<=32;rotate_left
 ·simp[go_sem,hm]
  done
 by_cases h256:w.length<=256;rotate_left
 ·simp[go_sem,hm,h256];exact fun h=>absurd h (by omega)
 have h256':(w.length:Int)<=256:=by omega
 simp[go_sem,hm,h256,h256'];refine⟨fun h=>absurd h (by omega),?_⟩
 refine zai (S:=fun k:Nat=>mkSt [(0,.p (.sl (ens w))),(1,.p (.int .i64 m)),(5,.p (.int .i64 k))] []) (I:=fun k=>k<=w.length/\∀ i,(hi:i<w.length)->i<k->1<=w[i]/\w[i]<=m) (m:=fun k=>w.length - k) 0
  (Weak.to [0,1,5] [] (by simp[go_sem])) ⟨by omega,fun i _ h=>by omega⟩ ?_
 rintro k ⟨h6,h7⟩ R hn' hr hx;have e1:=i64s k (by omega);simp[g.qn,mkSt,go_sem];refine⟨fun hk=>?_,fun hk=>hx _ _ ?_⟩
 ·refine zae hk ?_
  try simp[go_sem]
  have hmem:=yl4 hk;refine⟨fun h1=>hr _ ?_,fun h1=>zae hk ⟨fun h2=>hr _ ?_,fun h2=>?_⟩⟩
  ·simp[go_sem];exact⟨_,hmem,fun _=>by omega⟩
  ·simp[go_sem];exact⟨_,hmem,fun _=>by omega⟩
  ·rw[e1];refine hn' (k+1) _ (Weak.to [0,1,5] [] (by simp[mkSt,go_sem])) ⟨by omega,fun i hi h0=>?_⟩ (by omega);by_cases hik:i<k
   ·exact h7 i hi hik
   ·have:i=k:=by omega
    subst this;exact⟨h1,h2⟩
 ·have:∀ x∈w,1<=x/\x<=m:=fun x hx=>by obtain⟨i,hi,rfl⟩:=ynb.1 hx;exact h7 i hi (by omega)
  simp[go_sem];exact this
theorem z1j(l:List Int)(m:Int)(most:Nat)(hm:0<m)(hm2:m<=1000)(hmost:most<=1000):Sp P F.bz [.sl (ens l),.int .i64 m,.int .i64 most] (.pure (.sl (ens ((l.take most).map fun x=>1+x % m)))):=by
 refine Sp.vz c.bz fun _=>?_;simp[g.bz,go_sem]
 refine zai (S:=fun k:Nat=>mkSt [(0,.p (.sl (ens l))),(1,.p (.int .i64 m)),(2,.p (.int .i64 most)),(7,.own 1 0 0 k),(8,.p (.int .i64 k))] [(1,⟨1,avs ((l.take k).map fun x=>1+x % m)⟩)]) (I:=fun k=>k<=l.length/\k<=most) (m:=fun k=>most - k) 0
  (Weak.nl 7 77 1 rfl (Weak.to [0,1,2,7,8] [((77,0),1)] (by simp[go_sem]))) ⟨by omega,by omega⟩ ?_
 rintro k ⟨h1,h2⟩ R hn' hr hx;have e3:=i64s k (by omega);have hend:l.length<=k\/most<=k->((l.take k).map fun x=>1+x % m)=(l.take most).map fun x=>1+x % m:=fun h=>by
  rcases h with h|h
  ·rw[ylv h,ylv (by omega)]
  ·rw[show k=most by omega]
 simp[g.qc,mkSt,go_sem];refine⟨fun hk=>⟨fun hk2=>zae hk ?_,fun hk2=>hx _ _ ?_⟩,fun hk=>hx _ _ ?_⟩
 ·refine zaa (zc8 l[k] m hm (by omega)) rfl ?_;have h3:=you l[k] (show m≠0 by omega);have h4:=yov l[k] hm;have e4:IntKind.i64.wrap (1+l[k] % m)=1+l[k] % m:=i64w (by omega) (by omega);simp[go_sem,e3,e4];have hts:avs ((l.take (k+1)).map fun x=>1+x % m)=avs ((l.take k).map fun x=>1+x % m)++[.p (enc (1+l[k] % m))]:=by rw[yls hk,yn0,zco];rfl
  simp only[ypp]at hts;exact⟨⟨by omega,by omega⟩,hn' (k+1) _ (Weak.to [0,1,2,7,8] [((29,0),1)] (by simp[go_sem,mkSt,hts])) ⟨by omega,by omega⟩ (by omega)⟩
 ·have:=hend (by omega);simp only[ypp]at this;simp[go_sem,this];exact⟨by omega,by rw[<- this,yp5,Nat.min_self]⟩
 ·have:=hend (by omega);simp only[ypp]at this;simp[go_sem,this];exact⟨by omega,by rw[<- this,yp5,Nat.min_self]⟩
instance:Enc (Int × Int):=⟨fun x=>.agg [.int .i64 x.1,.int .i64 x.2],2,by decide,fun _=>rfl⟩
@[go_sem] theorem yic(x:Int × Int):enc x=.agg [.int .i64 x.1,.int .i64 x.2]:=rfl
@[go_sem] theorem yeh:Enc.sz (Int × Int)=2:=rfl
def spS(on:List Bool)(p:Int × Int):List Bool:=if on.getD p.1.toNat false=true then on.set p.2.toNat true else on
def spR(ps:List (Int × Int))(on:List Bool):List Bool:=ps.foldl spS on
def spF(ps:List (Int × Int)):Nat->List Bool->List Bool
 | 0,on=>on
 | n+1,on=>spF ps n (spR ps on)
theorem ybr(on p):(spS on p).length=on.length:=by unfold spS;split<;>simp
theorem zki:∀ (ps:List (Int × Int)) (on:List Bool),(spR ps on).length=on.length
 | [],_=>rfl
 | p::ps,on=>by rw[show spR (p::ps) on=spR ps (spS on p) from rfl,zki,ybr]
theorem zeb(ps:List (Int × Int)):∀ (n:Nat) (on:List Bool),(spF ps n on).length=on.length
 | 0,_=>rfl
 | n+1,on=>by rw[show spF ps (n+1) on=spF ps n (spR ps on) from rfl,zeb,zki]
theorem zl1(ps:List (Int × Int)):∀ (n:Nat) (on:List Bool),spF ps (n+1) on=spR ps (spF ps n on)
 | 0,_=>rfl
 | n+1,on=>by rw[show spF ps (n+1+1) on=spF ps (n+1) (spR ps on) from rfl,zl1];rfl
theorem z7i{ps:List (Int × Int)}{k:Nat}(h:k<ps.length)(on:List Bool):spR (ps.take (k+1)) on=spS (spR (ps.take k) on) ps[k]:=by unfold spR;rw[yls h,ymp];rfl
theorem toNat_lt{p:Int}{n:Nat}(h:0<=p/\p<n):∃ k:Nat,p=k/\k<n:=⟨p.toNat,by omega,by omega⟩
theorem zzv(on:List Bool)(ps:List (Int × Int))(hn:on.length<=100000)(hp:ps.length<=100000)(h:∀ p∈ps,(0<=p.1/\p.1<on.length)/\0<=p.2/\p.2<on.length) :
  Sp P F.lj [.sl (ens on),.sl (ens ps)] (.pure (.sl (ens (spF ps on.length on)))):=by
 refine Sp.vz c.lj fun _=>?_;simp[g.lj,go_sem];refine⟨?_,?_⟩
 ·omega
 refine zai (S:=fun k:Nat=>mkSt [(0,.own 1 0 0 on.length),(1,.p (.sl (ens ps))),(5,.p (.int .i64 k))] [(1,⟨1,avs (spF ps k on)⟩)]) (I:=fun k=>k<=on.length) (m:=fun k=>on.length - k) 0
  (Weak.to [0,1,5] [((8,0),1)] (by simp[go_sem,spF])) (by omega) ?_
 rintro k h1 R hn' hr hx;have e3:=i64s k (by omega);simp[g.rr,mkSt,go_sem];refine⟨fun hk=>?_,fun hk=>hx _ _ ?_⟩
 ·refine zai (S:=fun i:Nat=>mkSt [(0,.own 1 0 0 on.length),(1,.p (.sl (ens ps))),(5,.p (.int .i64 k)),(6,.p (.int .i64 i))] [(1,⟨1,avs (spR (ps.take i) (spF ps k on))⟩)]) (I:=fun i=>i<=ps.length) (m:=fun i=>ps.length - i) 0
   (Weak.to [0,1,5,6] [((1,0),1)] (by simp[go_sem,spR])) (by omega) ?_
  rintro i h2 R2 hn2 hr2 hx2;have e4:=i64s i (by omega);have hlen:(spR (ps.take i) (spF ps k on)).length=on.length:=by rw[zki,zeb]
  simp[g.rq,mkSt,go_sem];refine⟨fun hi=>?_,fun hi=>hx2 _ _ ?_⟩
  ·obtain⟨⟨a1,a2⟩,a3,a4⟩:=h _ (yl4 hi);obtain⟨x,ex,hx3⟩:=toNat_lt ⟨a1,a2⟩;obtain⟨y,ey,hy3⟩:=toNat_lt ⟨a3,a4⟩;refine zae hi ?_;simp[go_sem,ex,ey];have hst:=z7i hi (spF ps k on);generalize hcur:spR (List.take i ps) (spF ps k on)=cur at *
   have hst2:spS cur ps[i]=if cur[x]=true then cur.set y true else cur:=by unfold spS;rw[ex,ey,ymy,ymy,ylr,ylt (by omega),yon]
   refine⟨⟨hx3,by omega⟩,zae (by omega) ?_⟩;by_cases hb:cur[x]=true
   ·rw[yl0 hb]at hst2;simp[go_sem,hb];refine zae hi ?_;simp[go_sem,ey,e4];refine⟨⟨hy3,by omega⟩,zae (by omega) ?_⟩;exact hn2 (i+1) _ (Weak.to [0,1,5,6] [((1,0),1)] (by simp[go_sem,mkSt,hst,hst2])) (by omega) (by omega)
   ·rw[yl1 hb]at hst2;simp[go_sem,hb,e4];exact hn2 (i+1) _ (Weak.to [0,1,5,6] [((1,0),1)] (by simp[go_sem,mkSt,hst,hst2])) (by omega) (by omega)
  ·have:i=ps.length:=by omega
   subst this;simp[go_sem,e3];exact hn' (k+1) _ (Weak.to [0,1,5] [((1,0),1)] (by simp[go_sem,mkSt,zl1])) (by omega) (by omega)
 ·have:k=on.length:=by omega
  subst this;simp[go_sem,zeb];rw[ylv (by rw[zeb];omega)]
def mkS(s:Int)(on:List Bool)(p:Int × Int):List Bool:=if p.1=s then on.set p.2.toNat true else on
def mkR(s:Int)(ps:List (Int × Int))(n:Nat):List Bool:=ps.foldl (mkS s) (List.replicate n false)
theorem z4c(s on p):(mkS s on p).length=on.length:=by unfold mkS;split<;>simp
theorem z4d(s:Int):∀ (ps:List (Int × Int)) (on:List Bool),(ps.foldl (mkS s) on).length=on.length
 | [],_=>rfl
 | p::ps,on=>by rw[yos,z4d,z4c]
theorem zed(s ps n):(mkR s ps n).length=n:=by unfold mkR;rw[z4d];simp
theorem z8t{ps:List (Int × Int)}{k:Nat}(h:k<ps.length)(s:Int)(n:Nat):mkR s (ps.take (k+1)) n=mkS s (mkR s (ps.take k) n) ps[k]:=by unfold mkR;rw[yls h,ymp];rfl
def cycB(n:Nat)(ps:List (Int × Int))(s:Nat):Bool:=(spF ps n (mkR s ps n)).getD s false
def cycF(n:Nat)(ps:List (Int × Int)):Bool:=(List.range n).any (cycB n ps)
theorem z0u(n:Nat)(ps:List (Int × Int))(hn:n<=100000)(hp:ps.length<=100000)(h:∀ p∈ps,(0<=p.1/\p.1<n)/\0<=p.2/\p.2<n) :
  Sp P F.ki [.int .i64 n,.sl (ens ps)] (.pure (.bool (cycF n ps))):=by
 refine Sp.vz c.ki fun _=>?_;simp[g.ki,go_sem]
 refine zai (S:=fun k:Nat=>mkSt [(0,.p (.int .i64 n)),(1,.p (.sl (ens ps))),(5,.p (.int .i64 k))] []) (I:=fun k=>k<=n/\∀ s,s<k->cycB n ps s=false) (m:=fun k=>n - k) 0
  (Weak.to [0,1,5] [] (by simp[go_sem])) ⟨by omega,fun s h=>by omega⟩ ?_
 rintro k ⟨h1,h2⟩ R hn' hr hx;have e3:=i64s k (by omega);simp[g.re,mkSt,go_sem];refine⟨fun hk=>?_,fun hk=>hx _ _ ?_⟩
 ·refine⟨by omega,?_⟩
  refine zai (S:=fun i:Nat=>mkSt [(0,.p (.int .i64 n)),(1,.p (.sl (ens ps))),(5,.p (.int .i64 k)),(6,.own 1 0 0 n),(7,.p (.int .i64 i))] [(1,⟨1,avs (mkR k (ps.take i) n)⟩)]) (I:=fun i=>i<=ps.length) (m:=fun i=>ps.length - i) 0
   (Weak.to [0,1,5,6,7] [((14,0),1)] (by simp[go_sem,mkR])) (by omega) ?_
  rintro i h3 R2 hn2 hr2 hx2;have e4:=i64s i (by omega);have hlen:=zed k (ps.take i) n;simp[g.rd,mkSt,go_sem];refine⟨fun hi=>?_,fun hi=>hx2 _ _ ?_⟩
  ·obtain⟨⟨a1,a2⟩,a3,a4⟩:=h _ (yl4 hi);obtain⟨y,ey,hy3⟩:=toNat_lt ⟨a3,a4⟩;have hst:=z8t hi k n;generalize hcur:mkR k (List.take i ps) n=cur at *
   refine zae hi ?_;have hst2:mkS k cur ps[i]=if ps[i].1=(k:Int)then cur.set y true else cur:=by unfold mkS;rw[ey,ymy]
   rw[e4];refine⟨fun hb=>?_,fun hb=>?_⟩
   ·rw[yl0 hb]at hst2;refine zae hi ?_;rw[ey];refine⟨⟨by omega,by rw[ymy];omega,by omega⟩,?_⟩;rw[ymy];refine zae (by omega) ?_;exact hn2 (i+1) _ (Weak.to [0,1,5,6,7] [((1,0),1)] (by simp[go_sem,mkSt,hst,hst2])) (by omega) (by omega)
   ·rw[yl1 hb]at hst2;exact hn2 (i+1) _ (Weak.to [0,1,5,6,7] [((1,0),1)] (by simp[go_sem,mkSt,hst,hst2])) (by omega) (by omega)
  ·have:i=ps.length:=by omega
   subst this;have hcB:(spF ps n (mkR k ps n))[k]'(by rw[zeb,zed];omega)=cycB n ps k:=by unfold cycB;rw[ylr,ylt (by rw[zeb,zed];omega),yon]
   have hsp:=zzv (mkR k ps n) ps (by rw[zed];omega) (by omega) (by rw[zed];exact h);rw[zed]at hsp;simp[go_sem,e3];refine zaa hsp (by simp[go_sem,ylv,zed]) ?_;simp[go_sem];refine zae (by rw[zeb,zed];omega) ?_;rw[hcB];by_cases hb:cycB n ps k=true
   ·have:cycF n ps=true:=by unfold cycF;rw[List.any_eq_true];exact⟨k,ymh.2 hk,hb⟩
    simp[go_sem,hb];refine hr _ ?_;simp[go_sem,this]
   ·simp[go_sem,hb];rw[e3];refine hn' (k+1) _ (Weak.to [0,1,5] [] (by simp[mkSt,go_sem])) ⟨by omega,fun s hs=>?_⟩ (by omega);by_cases hsk:s<k
    ·exact h2 s hsk
    ·have:s=k:=by omega
     subst this;simpa using hb
 ·have:cycF n ps=false:=by unfold cycF;rw[yqw];intro s hs;rw[h2 s (by have:=ymh.1 hs;omega)];decide
  simp[go_sem,this]
def emF(x:GTArc):Bool:=decide (x.i=0)&&decide (x.o=0)
def emP(l:List GTArc):List (Int × Int):=(l.filter emF).map fun x=>(x.f,x.t)
theorem z9k{l:List GTArc}{k:Nat}(h:k<l.length):emP (l.take (k+1))=emP (l.take k)++if l[k].i=0/\l[k].o=0 then[(l[k].f,l[k].t)]else[]:=by
 unfold emP;rw[yls h,ynn,yn0]
 congr 1
 by_cases hc:l[k].i=0/\l[k].o=0
 ·simp[emF,hc.1,hc.2]
 ·rw[yl1 hc];have:emF l[k]=false:=by
   simp only[emF,Bool.and_eq_false_iff,decide_eq_false_iff_not];by_cases h1:l[k].i=0
   ·exact .inr fun h2=>hc ⟨h1,h2⟩
   ·exact .inl h1
  simp[this]
theorem z5h(l:List GTArc):(emP l).length<=l.length:=by unfold emP;rw[ymx];exact yni ..
theorem z5g{l:List GTArc}{p:Int × Int}(h:p∈emP l):∃ x∈l,p=(x.f,x.t):=by unfold emP at h;obtain⟨x,hx,rfl⟩:=yl6.1 h;exact⟨x,(ynl.1 hx).1,rfl⟩
noncomputable def emC(t:GTrans):Bool:=cycF t.st.toNat (emP t.nf.arcs)
theorem zkp(t:GTrans):t.nf.arcs.length<=t.arcs.length:=z1t (key:=GTArc.key) (wt:=GTArc.w) (r:=t.ring) (up:=upT t.ring) (fun _ _=>rfl) t.arcs
theorem z09(t:GTrans)(n:Nat)(hn:n<=90)(hn1:3<=n)(h:t.sm n)(hl:t.arcs.length<=19)(ok:t.ok):Sp P F.jz [enc t,.bool true,.bool true] (.pure (.bool (emC t))):=by
 have k3:=zup t.ring t.arcs n hn hn1 hl fun x hx=>⟨h.arcs x hx,(ok.arcs x hx).2.2.2.2.2.2.2.2⟩;rw[zp9]at k3;have hA:∀ x∈t.nf.arcs,inT x t.nf:=(zx7 ok).arcs;have hL:=zkp t;have hst:t.nf.st=t.st:=rfl;have hemC:emC t=cycF t.st.toNat (emP t.nf.arcs):=rfl
 change Sp P F.dv _ (.pure (.sl (ens t.nf.arcs)))at k3
 generalize t.nf.arcs=A at *
 obtain⟨nn,hnn⟩:∃ nn:Nat,t.st=nn:=⟨t.st.toNat,by have:=ok.st1;omega⟩;have st2:=ok.st2;refine Sp.vz c.jz fun _=>?_;simp[g.jz,go_sem];refine zab k3 ?_;simp[go_sem]
 refine zai (S:=fun k:Nat=>mkSt [(1,.p (.bool true)),(2,.p (.bool true)),(3,.ptr 3 0 0 0),(7,.p (.sl (ens A))),(8,.own 1 0 0 (emP (A.take k)).length),(9,.p (.int .i64 k))] [(3,⟨8,[.p (enc t)]⟩),(1,⟨2,avs (emP (A.take k))⟩)]) (I:=fun k=>k<=A.length) (m:=fun k=>A.length - k) 0
  (Weak.nl 8 77 2 rfl (Weak.to [1,2,3,7,8,9] [((3,0),3),((77,0),1)] (by simp[go_sem,emP]))) (by omega) ?_
 rintro k h1 R hn' hr hx;have e3:=i64s k (by omega);simp[g.qt,mkSt,go_sem];refine⟨fun hk=>?_,fun hk=>hx _ _ ?_⟩
 ·have hst:=z9k hk;have hln:=z5h (A.take k);rw[yms]at hln;refine zae hk ?_;by_cases hi:A[k].i=0
  ·simp[go_sem,hi];refine zae hk ?_;by_cases ho:A[k].o=0
   ·rw[yl0 ⟨hi,ho⟩]at hst;simp[go_sem,ho];refine zae hk ?_
    try simp[go_sem]
    refine zae hk ?_;simp[go_sem,e3];refine⟨by omega,hn' (k+1) _ (Weak.to [1,2,3,7,8,9] [((3,0),3),((56,0),1)] (by simp[go_sem,mkSt,hst])) (by omega) (by omega)⟩
   ·rw[yl1 (fun h=>ho h.2),yom]at hst;simp[go_sem,ho,e3];exact hn' (k+1) _ (Weak.to [1,2,3,7,8,9] [((3,0),3),((1,0),1)] (by simp[go_sem,mkSt,hst])) (by omega) (by omega)
  ·rw[yl1 (fun h=>hi h.1),yom]at hst;simp[go_sem,hi,e3];exact hn' (k+1) _ (Weak.to [1,2,3,7,8,9] [((3,0),3),((1,0),1)] (by simp[go_sem,mkSt,hst])) (by omega) (by omega)
 ·have:k=A.length:=by omega
  subst this;have hcy:=z0u nn (emP A) (by omega) (ylq (z5h A) (by omega)) fun p hp=>by obtain⟨x,hx,rfl⟩:=z5g hp;obtain⟨a1,a2,a3,a4,_⟩:=hA x hx;exact⟨⟨a1,by simp only;omega⟩,a3,by simp only;omega⟩
  simp[go_sem];refine zaa hcy (by simp[go_sem,hnn]) ?_;simp[go_sem,hemC,hnn]
theorem zk8(t:GTrans)(n:Nat)(hn:n<=90)(hn1:3<=n)(h:t.sm n)(hl:t.arcs.length<=19)(ok:t.ok):Sp P F.jq [enc t] (.pure (.bool (emC t))):=by have h0:=ok.il;have h2:=ok.fl;have h3:=ok.st2;refine Sp.vz c.jq fun _=>?_;simp[g.jq,go_sem];refine zab (zfy t (h.mono (by omega)) (by omega) (by omega)) ?_;simp[go_sem,ok];refine zab (z09 t n hn hn1 h hl ok) ?_;simp[go_sem]
structure Meas (r:GRing) where
 mb:Nat->GW->Prop
 lim:Nat
 mono:∀ {m n:Nat} {w:GW},mb m w->m<=n->mb n w
 zero:mb 0 r.zero
 plus:∀ {v w:GW} {n:Nat},v.chk r->w.chk r->mb n v->mb n w->mb (n+1) (r.plus v w)
 times:∀ {v w:GW} {m n:Nat},v.chk r->w.chk r->mb m v->mb n w->mb (m+n+1) (r.times v w)
 plusS:∀ {v w:GW} {n:Nat},n<=lim->v.chk r->w.chk r->mb n v->mb n w->Sp P F.aa [enc r,enc v,enc w] (.pure (enc (r.plus v w)))
 timesS:∀ {v w:GW} {n:Nat},n<=lim->v.chk r->w.chk r->mb n v->mb n w->Sp P F.ae [enc r,enc v,enc w] (.pure (enc (r.times v w)))
def vb{r:GRing}(M:Meas r)(n:Nat)(l:List GW):Prop:=∀ w∈l,w.chk r/\M.mb n w
theorem zdo{r:GRing}{M:Meas r}{m n:Nat}{l:List GW}(h:vb M m l)(k:m<=n):vb M n l:=fun w hw=>⟨(h w hw).1,M.mono (h w hw).2 k⟩
theorem zu2{r:GRing}{M:Meas r}{n:Nat}{l:List GW}(h:vb M n l){i:Nat}(hi:i<l.length):(l.getD i r.zero).chk r/\M.mb n (l.getD i r.zero):=by rw[ylr,ylt hi];exact h _ (yl4 hi)
def addW(r:GRing)(base:List GW)(x:GTArc)(ends:List GW):List GW:=base.set x.f.toNat (r.plus (base.getD x.f.toNat r.zero) (r.times x.w (ends.getD x.t.toNat r.zero)))
theorem zze(r:GRing)(base:List GW)(x:GTArc)(ends:List GW):(addW r base x ends).length=base.length:=by simp[addW]
def GTArc.fit(x:GTArc)(N:Nat):Prop:=(0<=x.f/\x.f<N)/\0<=x.t/\x.t<N
theorem yd8{r:GRing}(M:Meas r){base ends:List GW}{x:GTArc}{K c e N:Nat}(hb:vb M K base)(he:vb M e ends)(hx:x.w.chk r/\M.mb c x.w)(fit:x.fit N)(hN:base.length=N)(hE:ends.length=N)(hK:c+e+1<=K) :
  vb M (K+1) (addW r base x ends):=by
 intro w hw;unfold addW at hw;obtain⟨⟨a1,a2⟩,a3,a4⟩:=fit;rcases ynp hw with h|h
 ·exact⟨(hb w h).1,M.mono (hb w h).2 (by omega)⟩
 ·have h1:=zu2 hb (i:=x.f.toNat) (by omega);have h2:=zu2 he (i:=x.t.toNat) (by omega);have h3:=M.times hx.1 h2.1 hx.2 h2.2;rw[h];exact⟨zck h1.1 (za8 hx.1 h2.1),M.plus h1.1 (za8 hx.1 h2.1) h1.2 (M.mono h3 hK)⟩
theorem zzf{r:GRing}(M:Meas r){base ends:List GW}{x:GTArc}{K z e N:Nat}(hb:vb M K base)(he:vb M e ends)(hx:x.w.chk r/\M.mb z x.w)(fit:x.fit N)(hN:base.length=N)(hE:ends.length=N)(hK:z+e+1<=K)(hlim:K<=M.lim)(hN2:N<=1000000) :
  Sp P F.fx [enc r,.sl (ens base),enc x,.sl (ens ends)] (.pure (.sl (ens (addW r base x ends)))):=by
 obtain⟨a12,a34⟩:=fit;obtain⟨f,ef,hf⟩:=toNat_lt a12;obtain⟨t,et,ht⟩:=toNat_lt a34;have hf2:f<base.length:=by omega
 have ht2:t<ends.length:=by omega
 have eadd:addW r base x ends=base.set f (r.plus base[f] (r.times x.w ends[t])):=by unfold addW;rw[ef,et,ymy,ymy,ylr,ylr,ylt hf2,ylt ht2];rfl
 have h1:=hb _ (yl4 hf2);have h2:=he _ (yl4 ht2);have ct:=za8 hx.1 h2.1;have mt:=M.mono (M.times hx.1 h2.1 hx.2 h2.2) hK;have s1:=M.timesS (v:=x.w) (w:=ends[t]) (n:=K) hlim hx.1 h2.1 (M.mono hx.2 (by omega)) (M.mono h2.2 (by omega));have s2:=M.plusS (v:=base[f]) (w:=r.times x.w ends[t]) (n:=K) hlim h1.1 ct h1.2 mt;rw[eadd];refine Sp.vz c.fx fun _=>?_;simp[g.fx,go_sem];refine⟨by omega,?_⟩;rw[ef,et];simp[go_sem];refine⟨hf2,zae hf2 (zae ht2 ?_)⟩;refine zab s1 ?_;simp[go_sem];refine zab s2 ?_;simp[go_sem];refine⟨hf2,zae hf2 ?_⟩;rw[z05 base f (r.plus base[f] (r.times x.w ends[t])) (by simp[go_sem])];have hlen:(base.set f (r.plus base[f] (r.times x.w ends[t]))).length=base.length:=by simp
 generalize base.set f (r.plus base[f] (r.times x.w ends[t]))=out at *
 rw[<- hlen];simp[go_sem]
section
variable {r:GRing} (M:Meas r)
def accS(r:GRing)(p:GTArc->Option (List GW))(b:List GW)(x:GTArc):List GW:=match p x with|some e=>addW r b x e|none=>b
def accW(r:GRing)(p:GTArc->Option (List GW))(l:List GTArc)(base:List GW):List GW:=l.foldl (accS r p) base
theorem zzg(r:GRing)(p:GTArc->Option (List GW))(b:List GW)(x:GTArc):(accS r p b x).length=b.length:=by
 unfold accS;split
 ·exact zze ..
 ·rfl
theorem zur{p:GTArc->Option (List GW)}{l:List GTArc}{k:Nat}(h:k<l.length)(base:List GW):accW r p (l.take (k+1)) base=accS r p (accW r p (l.take k) base) l[k]:=by unfold accW;rw[yls h,ymp];rfl
theorem zke(p:GTArc->Option (List GW)):∀ (l:List GTArc) (base:List GW),(accW r p l base).length=base.length
 | [],_=>rfl
 | x::l,base=>by show(accW r p l _).length=_;rw[zke p l];exact zzg ..
def fits{r:GRing}(M:Meas r)(c N:Nat)(l:List GTArc):Prop:=∀ x∈l,(x.w.chk r/\M.mb c x.w)/\x.fit N
theorem zol{p:GTArc->Option (List GW)}{c E N K:Nat}(hK:c+E+1<=K):∀ {l:List GTArc} {base:List GW},fits M c N l->(∀ x∈l,∀ e,p x=some e->vb M E e/\e.length=N)->vb M K base->base.length=N->∀ j,vb M (K+l.length+j) (accW r p l base)
 | [],base,_,_,hb,_,j=>zdo hb (by omega)
 | x::l,base,hf,hp,hb,hl,j=>by
  show vb M _ (accW r p l (accS r p base x));have hx:=hf x ymq;have:vb M (K+1) (accS r p base x):=by
   unfold accS;cases h:p x with
   | none=>exact zdo hb (by omega)
   | some e =>
    have h1:=hp x ymq e h;exact yd8 M hb h1.1 hx.1 hx.2 hl h1.2 hK
  have h2:=zol (K:=K+1) (by omega) (fun y hy=>hf y (ym8 _ hy)) (fun y hy=>hp y (ym8 _ hy)) this ((zzg ..).trans hl) j;rw[yn6,show K+(l.length+1)+j=K+1+l.length+j by omega];exact h2
def zda(v:List GW)(x:GTArc):Option (List GW):=if emF x=true then some v else none
def sprN(r:GRing)(l:List GTArc)(base:List GW):Nat->List GW
 | 0=>base
 | n+1=>accW r (zda (sprN r l base n)) l base
theorem zqv(l:List GTArc)(base:List GW)(n:Nat):(sprN r l base n).length=base.length:=by
 cases n with
 | zero=>rfl
 | succ n=>exact zke ..
theorem zva{c N B:Nat}{l:List GTArc}{base:List GW}(hf:fits M c N l)(hb:vb M B base)(hl:base.length=N):∀ n,vb M (B+n*(c+1+l.length)) (sprN r l base n)
 | 0=>zdo hb (by omega)
 | n+1=>by
  have ih:=zva hf hb hl n;have h2:B<=B+n*(c+1+l.length):=by omega
  have:=zol M (p:=zda (sprN r l base n)) (c:=c) (E:=B+n*(c+1+l.length)) (N:=N) (K:=c+(B+n*(c+1+l.length))+1) (yl8 _) hf (fun x _ e he=>by
   unfold zda at he;split at he
   ·cases he;exact⟨ih,by rw[zqv];exact hl⟩
   ·cases he) (zdo hb (by omega)) hl 0
  have e:B+(n+1)*(c+1+l.length)=c+(B+n*(c+1+l.length))+1+l.length+0:=by rw[ym9];omega
  rw[e];exact this
theorem z8n{label:Int}{w:List Int}{a:Nat}(ha:a<=w.length):nx label w a<=a+1/\nx label w a<=w.length:=by
 unfold nx;split
 ·omega
 ·split
  ·rename_i h;have:=(ynk.1 h).1;omega
  ·omega
theorem ygb{label:Int}{w:List Int}{a:Nat}(h:0<=nx label w a):(a:Int)<=nx label w a:=by
 unfold nx at *
 split
 ·omega
 ·rename_i h1;rw[yl1 h1]at h;split
  ·omega
  ·rename_i h2;rw[yl1 h2]at h;omega
def zct(wx wy:List Int)(i k:Nat)(rows:Nat->Nat->List GW)(x:GTArc):Option (List GW) :=
 if 0<=nx x.i wx i/\0<=nx x.o wy k/\(i:Int)+k<nx x.i wx i+nx x.o wy k then some (rows (nx x.i wx i).toNat (nx x.o wy k).toNat)else none
theorem zew{wx wy:List Int}{i k:Nat}(hi:i<=wx.length)(hk:k<=wy.length){rows:Nat->Nat->List GW}{x:GTArc}{e:List GW}(h:zct wx wy i k rows x=some e) :
  ∃ a b:Nat,nx x.i wx i=a/\nx x.o wy k=b/\i<=a/\a<=i+1/\k<=b/\b<=k+1/\a<=wx.length/\b<=wy.length/\i+k<a+b/\e=rows a b:=by
 unfold zct at h;split at h
 ·rename_i hc;obtain⟨c1,c2,c3⟩:=hc;have h1:=z8n (label:=x.i) hi;have h2:=z8n (label:=x.o) hk;have h3:=ygb c1;have h4:=ygb c2;cases h;refine⟨(nx x.i wx i).toNat,(nx x.o wy k).toNat,?_,?_,?_,?_,?_,?_,?_,?_,?_,rfl⟩<;>omega
 ·cases h
def zev(t:GTrans)(wx wy:List Int)(i k:Nat):List GW:=if i=wx.length/\k=wy.length then t.fin else List.replicate t.st.toNat t.ring.zero
def rowW(t:GTrans)(wx wy:List Int)(i k:Nat)(rows:Nat->Nat->List GW):List GW:=accW t.ring (zct wx wy i k rows) t.arcs (zev t wx wy i k)
def zgf(t:GTrans)(wx wy:List Int)(i k:Nat)(rows:Nat->Nat->List GW):List GW:=sprN t.ring t.arcs (rowW t wx wy i k rows) t.st.toNat
def valW(t:GTrans)(wx wy:List Int):Nat->Nat->Nat->List GW
 | 0,_,_=>[]
 | n+1,i,k=>zgf t wx wy i k (valW t wx wy n)
def tabW(t:GTrans)(wx wy:List Int)(i k:Nat):List GW:=valW t wx wy (wx.length - i+(wy.length - k)+1) i k
theorem zql{p q:GTArc->Option (List GW)}:∀ {l:List GTArc} {base:List GW},(∀ x∈l,p x=q x)->accW r p l base=accW r q l base
 | [],_,_=>rfl
 | x::l,base,h=>by
  show accW r p l (accS r p base x)=accW r q l (accS r q base x);have:accS r p base x=accS r q base x:=by unfold accS;rw[h x ymq]
  rw[this];exact zql fun y hy=>h y (ym8 _ hy)
theorem zu8{wx wy:List Int}{i k:Nat}(hi:i<=wx.length)(hk:k<=wy.length){f g:Nat->Nat->List GW}(h:∀ a b:Nat,i<=a->k<=b->a<=wx.length->b<=wy.length->i+k<a+b->f a b=g a b)(x:GTArc):zct wx wy i k f x=zct wx wy i k g x:=by
 cases hf:zct wx wy i k f x with
 | none =>
  unfold zct at *
  split at hf
  ·cases hf
  ·rename_i hc;rw[yl1 hc]
 | some e =>
  obtain⟨a,b,h1,h2,h3,h4,h5,h6,h7,h8,h9,rfl⟩:=zew hi hk hf;unfold zct;rw[h1,h2,yl0 ⟨by omega,by omega,by omega⟩,ymy,ymy,h a b h3 h5 h7 h8 h9]
theorem zi2{t:GTrans}{wx wy:List Int}{i k:Nat}(hi:i<=wx.length)(hk:k<=wy.length){f g:Nat->Nat->List GW}(h:∀ a b:Nat,i<=a->k<=b->a<=wx.length->b<=wy.length->i+k<a+b->f a b=g a b):zgf t wx wy i k f=zgf t wx wy i k g:=by unfold zgf rowW;rw[zql fun x _=>zu8 hi hk h x]
theorem zxa{t:GTrans}{wx wy:List Int}:∀ (n m i k:Nat),i<=wx.length->k<=wy.length->wx.length - i+(wy.length - k)<n->wx.length - i+(wy.length - k)<m->valW t wx wy n i k=valW t wx wy m i k
 | 0,_,_,_,_,_,h,_=>by omega
 | _+1,0,_,_,_,_,_,h=>by omega
 | n+1,m+1,i,k,hi,hk,h1,h2=>by show zgf t wx wy i k _=zgf t wx wy i k _;exact zi2 hi hk fun a b a1 a2 a3 a4 a5=>zxa n m a b a3 a4 (by omega) (by omega)
theorem z1w{t:GTrans}{wx wy:List Int}{i k:Nat}(hi:i<=wx.length)(hk:k<=wy.length):tabW t wx wy i k=zgf t wx wy i k (tabW t wx wy):=by show zgf t wx wy i k _=_;exact zi2 hi hk fun a b a1 a2 a3 a4 a5=>zxa _ _ a b a3 a4 (by omega) (by omega)
structure GTrans.fits {r:GRing} (M:Meas r) (c:Nat) (t:GTrans):Prop where
 ring:t.ring=r
 st:0<=t.st/\t.st<=64
 arcs:Go.Ab.fits M c t.st.toNat t.arcs
 ini:vb M c t.ini/\t.ini.length=t.st.toNat
 fin:vb M c t.fin/\t.fin.length=t.st.toNat
 rok:r.ok=true
theorem zw2(hr:r.ok=true)(n c:Nat):vb M c (List.replicate n r.zero):=fun w hw=>by rw[ypy hw];exact⟨zbr hr,M.mono M.zero (by omega)⟩
variable {M}
theorem zsl{c:Nat}{t:GTrans}(ht:t.fits M c)(wx wy:List Int)(i k:Nat):vb M c (zev t wx wy i k)/\(zev t wx wy i k).length=t.st.toNat:=by
 unfold zev;split
 ·exact ht.fin
 ·rw[ht.ring];exact⟨zw2 M ht.rok _ _,by simp⟩
theorem zqx{c:Nat}{t:GTrans}(ht:t.fits M c)(wx wy:List Int)(i k:Nat)(rows:Nat->Nat->List GW):(rowW t wx wy i k rows).length=t.st.toNat:=by unfold rowW;rw[zke];exact(zsl ht wx wy i k).2
theorem z56{c:Nat}{t:GTrans}(ht:t.fits M c)(wx wy:List Int)(i k:Nat)(rows:Nat->Nat->List GW):(zgf t wx wy i k rows).length=t.st.toNat:=by unfold zgf;rw[zqv];exact zqx ht ..
def lvl(t:GTrans)(c d:Nat):Nat:=d*((t.st.toNat+1)*(c+1+t.arcs.length))
theorem z2k{c E:Nat}{t:GTrans}(ht:t.fits M c){wx wy:List Int}{i k:Nat}{rows:Nat->Nat->List GW}(hr:∀ x∈t.arcs,∀ e,zct wx wy i k rows x=some e->vb M E e/\e.length=t.st.toNat):vb M (E+(c+1+t.arcs.length)) (rowW t wx wy i k rows):=by have hb:=zsl ht wx wy i k;have:=zol M (p:=zct wx wy i k rows) (c:=c) (E:=E) (N:=t.st.toNat) (K:=c+E+1) (yl8 _) ht.arcs hr (zdo hb.1 (by omega)) hb.2 0;unfold rowW;rw[ht.ring];exact zdo this (by omega)
theorem z96{c E:Nat}{t:GTrans}(ht:t.fits M c){wx wy:List Int}{i k:Nat}{rows:Nat->Nat->List GW}(hr:∀ x∈t.arcs,∀ e,zct wx wy i k rows x=some e->vb M E e/\e.length=t.st.toNat):vb M (E+(t.st.toNat+1)*(c+1+t.arcs.length)) (zgf t wx wy i k rows):=by have h1:=z2k ht hr;have hl:t.ring=r:=ht.ring;unfold zgf;rw[ht.ring];refine zdo (zva M ht.arcs h1 (zqx ht ..) t.st.toNat) ?_;rw[ym7];omega
theorem zu3{c:Nat}{t:GTrans}(ht:t.fits M c)(wx wy:List Int):∀ (n i k:Nat),i<=wx.length->k<=wy.length->wx.length - i+(wy.length - k)<n->vb M (lvl t c n) (valW t wx wy n i k)/\(valW t wx wy n i k).length=t.st.toNat
 | 0,_,_,_,_,h=>by omega
 | n+1,i,k,hi,hk,h=>by
  refine⟨?_,z56 ht ..⟩;have:lvl t c (n+1)=lvl t c n+(t.st.toNat+1)*(c+1+t.arcs.length):=by unfold lvl;rw[ym9]
  rw[this];refine z96 ht fun x _ e he=>?_;obtain⟨a,b,h1,h2,h3,h4,h5,h6,h7,h8,h9,rfl⟩:=zew hi hk he;exact zu3 ht wx wy n a b h7 h8 (by omega)
theorem zyf(t:GTrans)(c:Nat){m n:Nat}(h:m<=n):lvl t c m<=lvl t c n:=ylw _ h
theorem ybk{c:Nat}{t:GTrans}(ht:t.fits M c){wx wy:List Int}{i k:Nat}(hi:i<=wx.length)(hk:k<=wy.length):vb M (lvl t c (wx.length+wy.length+1)) (tabW t wx wy i k)/\(tabW t wx wy i k).length=t.st.toNat:=by have:=zu3 ht wx wy (wx.length - i+(wy.length - k)+1) i k hi hk (by omega);exact⟨zdo this.1 (zyf t c (by omega)),this.2⟩
theorem zu7{c:Nat}{t:GTrans}(ht:t.fits M c){wx wy:List Int}{i k:Nat}(hi:i<=wx.length)(hk:k<=wy.length):∀ x∈t.arcs,∀ e,zct wx wy i k (tabW t wx wy) x=some e->vb M (lvl t c (wx.length+wy.length)) e/\e.length=t.st.toNat:=fun x _ e he=>by obtain⟨a,b,h1,h2,h3,h4,h5,h6,h7,h8,h9,rfl⟩:=zew hi hk he;have:=zu3 ht wx wy (wx.length - a+(wy.length - b)+1) a b h7 h8 (by omega);exact⟨zdo this.1 (zyf t c (by omega)),this.2⟩
def sumW(r:GRing)(ini row:List GW):GW:=(ini.zip row).foldl (fun s p=>r.plus s (r.times p.1 p.2)) r.zero
def sumN(r:GRing)(ini row:List GW)(n:Nat):GW:=((ini.zip row).take n).foldl (fun s p=>r.plus s (r.times p.1 p.2)) r.zero
theorem zjc{ini row:List GW}{n:Nat}(h1:n<ini.length)(h2:n<row.length):sumN r ini row (n+1)=r.plus (sumN r ini row n) (r.times ini[n] row[n]):=by unfold sumN;rw[yls (by rw[List.length_zip];omega),ymp];simp
theorem zqt(hr:r.ok=true){c E:Nat}{ini row:List GW}(hi:vb M c ini)(he:vb M E row):∀ n,n<=ini.length->n<=row.length->(sumN r ini row n).chk r/\M.mb (c+E+1+n) (sumN r ini row n)
 | 0,_,_=>⟨zbr hr,M.mono M.zero (by omega)⟩
 | n+1,h1,h2=>by have ih:=zqt hr hi he n (by omega) (by omega);have k1:=hi _ (yl4 (show n<ini.length by omega));have k2:=he _ (yl4 (show n<row.length by omega));rw[zjc (by omega) (by omega)];have ct:=za8 k1.1 k2.1;exact⟨zck ih.1 ct,M.plus ih.1 ct ih.2 (M.mono (M.times k1.1 k2.1 k1.2 k2.2) (Nat.le_add_right _ _))⟩
theorem zjd{ini row:List GW}{n:Nat}(h:ini.length<=n):sumN r ini row n=sumW r ini row:=by unfold sumN sumW;rw[ylv (by rw[List.length_zip];omega)]
end
noncomputable def wgt(t:GTrans)(wx wy:List Int):GW:=sumW t.ring t.ini (tabW t wx wy 0 0)
theorem zt6{r:GRing}{M:Meas r}{z N:Nat}{l:List GTArc}(h:fits M z N l)(k:Nat):fits M z N (l.take k):=fun x hx=>h x (ym3 hx)
theorem zu9{r:GRing}(M:Meas r){z B:Nat}(t:GTrans)(ht:t.fits M z){base:List GW}(hb:vb M B base)(hl:base.length=t.st.toNat)(hal:t.arcs.length<=1000000)(hlim:B+t.st.toNat*(z+1+t.arcs.length)<=M.lim) :
  Sp P F.jx [enc t,.sl (ens base)] (.pure (.sl (ens (sprN t.ring t.arcs base t.st.toNat)))):=by
 have hr:=ht.ring;subst hr;have hst:=ht.st;obtain⟨nn,hnn⟩:∃ nn:Nat,t.st=nn:=⟨t.st.toNat,by omega⟩;have harcs:=ht.arcs;have hN:t.st.toNat=nn:=by omega
 have hle:nn<=64:=by omega
 rw[hN]at harcs hl hlim ⊢;refine Sp.vz c.jx fun _=>?_;simp[g.jx,go_sem]
 refine zai (S:=fun k:Nat=>mkSt [(1,.p (.sl (ens base))),(2,.ptr 2 0 0 0),(5,.p (.sl (ens (sprN t.ring t.arcs base k)))),(6,.p (.int .i64 k))] [(2,⟨8,[.p (enc t)]⟩)]) (I:=fun k=>k<=nn) (m:=fun k=>nn - k) 0
  (Weak.to [1,2,5,6] [((2,0),2)] (by simp[go_sem,sprN])) (by omega) ?_
 rintro k h1 R hn' hr hx;have e3:=i64s k (by omega);have hv:=zva M harcs hb hl k;have hvl:(sprN t.ring t.arcs base k).length=nn:=by rw[zqv];exact hl
 have hsucc:sprN t.ring t.arcs base (k+1)=accW t.ring (zda (sprN t.ring t.arcs base k)) t.arcs base:=rfl;simp[g.qp,mkSt,go_sem,hnn];generalize hcur:sprN t.ring t.arcs base k=v at *
 refine⟨fun hk=>?_,fun hk=>hx _ _ ?_⟩
 ·have hsz:z+(B+k*(z+1+t.arcs.length))+1+t.arcs.length<=M.lim:=by have h5:(k+1)*(z+1+t.arcs.length)<=nn*(z+1+t.arcs.length):=ylw _ (by omega);rw[ym9]at h5;omega
  refine zai (S:=fun j:Nat=>mkSt [(1,.p (.sl (ens base))),(2,.ptr 2 0 0 0),(5,.p (.sl (ens v))),(6,.p (.int .i64 k)),(7,.p (.sl (ens (accW t.ring (zda v) (t.arcs.take j) base)))),(8,.p (.int .i64 j))] [(2,⟨8,[.p (enc t)]⟩)]) (I:=fun j=>j<=t.arcs.length) (m:=fun j=>t.arcs.length - j) 0
   (Weak.to [1,2,5,6,7,8] [((2,0),2)] (by simp[go_sem,accW,hnn])) (by omega) ?_
  rintro j h2 R2 hn2 hr2 hx2;have e4:=i64s j (by omega);simp[g.qo,mkSt,go_sem];refine⟨fun hj=>?_,fun hj=>hx2 _ _ ?_⟩
  ·have hst:=zur (r:=t.ring) (p:=zda v) hj base;unfold accS at hst;have hx1:=harcs _ (yl4 hj);have hacc:=zol M (p:=zda v) (c:=z) (E:=B+k*(z+1+t.arcs.length)) (N:=nn) (K:=z+(B+k*(z+1+t.arcs.length))+1) (yl8 _) (zt6 harcs j) (fun x _ e he=>by
    unfold zda at he;split at he
    ·cases he;exact⟨hv,hvl⟩
    ·cases he) (zdo hb (by have:=ymb (k*(z+1+t.arcs.length));omega)) hl 0
   have hlen:=zke (r:=t.ring) (zda v) (t.arcs.take j) base;have htl:(t.arcs.take j).length=j:=by rw[yms];omega
   rw[htl,ymw]at hacc;generalize haq:accW t.ring (zda v) (t.arcs.take j) base=acc at *
   refine zae hj ?_;by_cases hi:t.arcs[j].i=0
   ·simp[go_sem,hi];refine zae hj ?_;by_cases ho:t.arcs[j].o=0
    ·have hp:zda v t.arcs[j]=some v:=by simp[zda,emF,hi,ho]
     rw[hp]at hst;simp[go_sem,ho];refine zae hj ?_
     try simp[go_sem]
     have hcall:=zzf M (x:=t.arcs[j]) hacc hv hx1.1 hx1.2 (by omega) hvl (by omega) (by omega) (by omega);refine zab hcall ?_;simp[go_sem,e4];exact hn2 (j+1) _ (Weak.to [1,2,5,6,7,8] [((2,0),2)] (by simp[go_sem,mkSt,hst])) (by omega) (by omega)
    ·have hp:zda v t.arcs[j]=none:=by simp[zda,emF,ho]
     rw[hp]at hst;simp[go_sem,ho,e4];exact hn2 (j+1) _ (Weak.to [1,2,5,6,7,8] [((2,0),2)] (by simp[go_sem,mkSt,hst])) (by omega) (by omega)
   ·have hp:zda v t.arcs[j]=none:=by simp[zda,emF,hi]
    rw[hp]at hst;simp[go_sem,hi,e4];exact hn2 (j+1) _ (Weak.to [1,2,5,6,7,8] [((2,0),2)] (by simp[go_sem,mkSt,hst])) (by omega) (by omega)
  ·have:j=t.arcs.length:=by omega
   subst this;simp[go_sem,e3];exact hn' (k+1) _ (Weak.to [1,2,5,6] [((2,0),2)] (by simp[go_sem,mkSt,hsucc])) (by omega) (by omega)
 ·have:k=nn:=by omega
  subst this;simp[go_sem,hcur]
end Go.Ab
