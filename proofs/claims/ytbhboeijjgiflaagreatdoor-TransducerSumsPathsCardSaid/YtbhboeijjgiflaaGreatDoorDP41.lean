/-
Proofs for the law TransducerSumsPaths, part 41. Conditions: none.
-/
import Derived.Test.YtbhboeijjgiflaaGreatDoorDP35
import Derived.Test.YtbhboeijjgiflaaGreatDoorDP40
import Derived.Test.YtbhboeijjgiflaaGreatDoorDP27
import Derived.Test.YtbhboeijjgiflaaGreatDoorDP36
set_option maxRecDepth 100000
set_option maxHeartbeats 4000000
set_option linter.all false
namespace Go.Ab
open Enc (enc)
def tabV(t:GTrans)(wx wy:List Int)(I:Nat):AV:=.agg [.p (.int .i64 t.ring.kind),.p (.sl (ens t.ring.parts)),.p (.int .i64 t.i),.p (.int .i64 t.o),.p (.int .i64 t.st),.p (.sl (ens t.ini)),.p (.sl (ens t.fin)),.p (.sl (ens t.arcs)),.p (.sl (ens wx)),.p (.sl (ens wy)),.own 900001 0 0 I]
def rowV(N b j:Nat):AV:=.own 900003 (b+j) 0 N
def famR(I J N:Nat):List (Option AObj):=(List.range I).map fun i=>some ⟨1,(List.range J).map (rowV N (i*J))⟩
def famC(T:List (List GW)):List (Option AObj):=T.map fun l=>some ⟨8,avs l⟩
def outV(J i:Nat):AV:=.own 900002 i 0 J
def hpT(t:GTrans)(wx wy:List Int)(I J N:Nat)(T:List (List GW)):List Site:=[(900000,[some ⟨11,[tabV t wx wy I]⟩]),(900001,[some ⟨1,(List.range I).map (outV J)⟩]),(900002,famR I J N),(900003,famC T)]
theorem zy6{I J N i:Nat}(h:i<I):(famR I J N)[i]?=some (some ⟨1,(List.range J).map (rowV N (i*J))⟩):=by unfold famR;rw[ynb,yob h];rfl
theorem z9o{T:List (List GW)}{p:Nat}(h:p<T.length):(famC T)[p]?=some (some ⟨8,avs (T.getD p [])⟩):=by unfold famC;rw[ynb,ymo,yms h];rfl
theorem z9n{T:List (List GW)}{p:Nat}(l:List GW):(famC T).set p (some ⟨8,avs l⟩)=famC (T.set p l):=by unfold famC;rw[yr8]
theorem zve(ks:List Nat)(h3:ks.contains 900003=true)(N b:Nat):∀ l:List Nat,zbs ks (l.map (rowV N b))=true
 | []=>rfl
 | x::l=>by simp only[ymy,zbs,rowV,zg7,h3,yqt];exact zve ks h3 N b l
theorem zvy(ks:List Nat)(h2:ks.contains 900002=true)(J:Nat):∀ l:List Nat,zbs ks (l.map (outV J))=true
 | []=>rfl
 | x::l=>by simp only[ymy,zbs,outV,zg7,h2,yqt];exact zvy ks h2 J l
theorem yaz(ks:List Nat):∀ l:List PV,zbs ks (l.map .p)=true
 | []=>rfl
 | x::l=>by simp only[ymy,zbs,zg7,yqt];exact yaz ks l
theorem ybf(ks:List Nat){α : Type}[Enc α](l:List α):zbs ks (avs l)=true:=yaz ks (ens l)
theorem zqg(t:GTrans)(wx wy:List Int)(I J N:Nat)(T:List (List GW)):hpOk [900000,900001,900002,900003] (hpT t wx wy I J N T)=true:=by
 have a:(famR I J N).all (zrf [900000,900001,900002,900003])=true:=by rw[ynq];intro x hx;obtain⟨i,_,rfl⟩:=ym6.1 hx;exact zve _ rfl N _ _
 have b:(famC T).all (zrf [900000,900001,900002,900003])=true:=by rw[ynq];intro x hx;obtain⟨l,_,rfl⟩:=ym6.1 hx;exact ybf _ l
 have c:=zvy [900000,900001,900002,900003] rfl J (List.range I);simp only[hpOk,hpT,yq4,List.all_nil,a,b,Bool.and_true,yqt,zrf,c];rfl
def GMono.mulE(m x:GMono):GMono:=⟨m.e.add x.e,rto (m.coef.v*x.coef.v)⟩
def okE(l:List GMono):List GMono:=l.filter fun m=>m.e.ok
def ze1(p q:List GMono):List GMono:=p.flatMap fun m=>q.map m.mulE
theorem zre(a b:List GMono):okE (a++b)=okE a++okE b:=yol ..
theorem z37{l:List GMono}:∀ m∈okE l,m.e.ok=true:=fun m h=>(yo9.1 h).2
theorem yg0(m:GMono)(e:Ex):pc (okE [m]) e=if m.e.ok=true/\m.e=e then m.coef.v else 0:=by unfold okE;cases h:m.e.ok<;>simp[h,pc,yn5]
theorem zvt(m:GMono):∀ (q o:List GMono) (e:Ex),pc (prow m q o) e=pc o e+pc (okE (q.map m.mulE)) e
 | [],o,e=>by simp[prow,okE,pc,yn5]
 | x::q,o,e=>by have h:prow m (x::q) o=prow m q (pput o (m.e.add x.e) (m.coef.v*x.coef.v)):=rfl;rw[h,zvt m q,zvu,ymy,show m.mulE x::q.map m.mulE=[m.mulE x]++q.map m.mulE from rfl,zre,zf2,yg0,ynm];simp only[GMono.mulE,zbe]
theorem zx9:∀ (p q o:List GMono) (e:Ex),pc (p.foldl (fun o m=>prow m q o) o) e=pc o e+pc (okE (ze1 p q)) e
 | [],q,o,e=>by simp[ze1,okE,pc,yn5]
 | m::p,q,o,e=>by rw[ype,zx9 p q,zvt,show ze1 (m::p) q=q.map m.mulE++ze1 p q from rfl,zre,zf2,ynm]
theorem z3u(p q:List GMono)(e:Ex):pc (pmul p q) e=pc (okE (ze1 p q)) e:=by have:=zx9 p q [] e;simpa[pmul,pc,Rat.zero_add]using this
def pmS(p q:List GMono)(i k:Nat):List GMono:=okE (ze1 (p.take i) q)++okE ((q.take k).map (p.getD i ⟨⟨0,0,0⟩,gr0⟩).mulE)
theorem ygz(p q:List GMono):pmS p q 0 0=[]:=by simp[pmS,ze1,okE]
theorem ykw{p q:List GMono}{i k:Nat}(hi:i<p.length)(hk:k<q.length):pmS p q i (k+1)=pmS p q i k++okE [p[i].mulE q[k]]:=by unfold pmS;rw[ymr hk,ynw,zre,yoq,ymo,yms hi];rfl
theorem zz9(p:List GMono)(m:GMono)(q:List GMono):ze1 (p++[m]) q=ze1 p q++q.map m.mulE:=by simp[ze1]
theorem ygy{p q:List GMono}{i:Nat}(hi:i<p.length):pmS p q i q.length=pmS p q (i+1) 0:=by unfold pmS;rw[ymr hi,zz9,zre,yn1,ymo,yms hi];simp[okE]
theorem z3c(p q:List GMono):pmS p q p.length 0=okE (ze1 p q):=by simp[pmS,okE]
theorem ygx{p q:List GMono}{i k:Nat}(hi:i<p.length)(e:Ex):pc (pmS p q i k) e=pc (prow p[i] (q.take k) (pmul (p.take i) q)) e:=by unfold pmS;rw[zf2,zvt,z3u,ymo,yms hi];rfl
theorem z3a{p q:List GMono}{L:List (Ex × GRat)}(h:MInv (okE (ze1 p q)) L):(pmul p q).Perm (nz L):=by
 have hnok:∀ m∈nz L,m.ok=true:=fun m hm=>by obtain⟨h1,h2⟩:=zv1 hm;obtain⟨h3,x,h4,h5⟩:=h.mem h1;simp only at h3 h5;refine GMono.ok_iff.2 ⟨?_,by rw[h3];exact zbf _,h2⟩;rw[<- h5];exact z37 x h4
 let le:GMono->GMono->Bool:=fun a b=>decide (b.e.code<=a.e.code)
 have hperm:((nz L).mergeSort le).Perm (nz L):=List.mergeSort_perm _ _;have hsort:((nz L).mergeSort le).Pairwise fun a b=>le a b=true:=List.pairwise_mergeSort (fun a b c h1 h2=>by simp only[le,decide_eq_true_eq]at *;omega) (fun a b=>by simp only[le,yq7,decide_eq_true_eq];omega) _;have hnd:(((nz L).mergeSort le).map (·.e)).Nodup:=(hperm.map _).nodup_iff.2 (zrg h.nod);have hval:PVal ((nz L).mergeSort le):=by
  refine zaj.2 ⟨fun m hm=>hnok m (hperm.mem_iff.1 hm),?_⟩;have h2:((nz L).mergeSort le).Pairwise fun a b=>a.e≠b.e:=List.pairwise_map.1 hnd;refine(hsort.and h2).imp_of_mem fun {a b} ha hb hab=>?_;have oa:=(GMono.ok_iff.1 (hnok a (hperm.mem_iff.1 ha))).1;have ob:=(GMono.ok_iff.1 (hnok b (hperm.mem_iff.1 hb))).1;have h3:b.e.code<=a.e.code:=by simpa[le]using hab.1
  have h4:b.e.code≠a.e.code:=fun he=>hab.2 ((Ex.code_inj ob oa).1 he).symm;omega
 have:pmul p q=(nz L).mergeSort le:=by refine zh9 (zbt p q) hval fun e=>?_;rw[z3u,z3v hperm,yc6 e h.nod,h.tot]
 rw[this];exact hperm
theorem zvk{p:List GMono}(h:PVal p):p.Pairwise fun x y=>y.e.cmp x.e<0:=by have hv:=zaj.1 h;refine hv.2.imp_of_mem fun {a b} ha hb h=>?_;exact(Ex.cmp_neg (GMono.ok_iff.1 (hv.1 b hb)).1 (GMono.ok_iff.1 (hv.1 a ha)).1).2 h
theorem ya1{p q:List GMono}{N i k:Nat}(hi:i<p.length)(hN:psm (prow p[i] (q.take k) (pmul (p.take i) q)) N)(hv:PVal (prow p[i] (q.take k) (pmul (p.take i) q))):∀ x∈zf6 (pmS p q i k) [],x.1.ok=true/\x.2.sm N:=by
 intro x hx;obtain⟨h1,m,h2,h3⟩:=(minv (pmS p q i k)).mem hx;refine⟨?_,?_⟩
 ·rw[<- h3];rcases ymn.1 h2 with h|h
  ·exact z37 m h
  ·exact z37 m h
 ·rw[h1,ygx hi];rcases zjq hv x.1 with h|⟨y,hy,h⟩
  ·rw[h,show rto 0=gr0 from zce];exact zg6 N
  ·rw[h];exact z2q (hN y hy)
def z4s(m:GMono)(L:List (Ex × GRat)):List (Ex × GRat):=if m.e.ok=true then madd m L else L
theorem zzy(m:GMono)(L:List (Ex × GRat))(hb:(0<=m.e.a/\m.e.a<=10)/\(0<=m.e.b/\m.e.b<=10)/\0<=m.e.c/\m.e.c<=10)(hc:m.coef.sm 1048576)(hL:∀ p∈L,p.1.ok=true/\p.2.sm 1048576) :
  SpU P F.bt (mks L) (mvs L) [enc m.e,enc m.coef] (mks (z4s m L)) (mvs (z4s m L)):=by
 unfold z4s;by_cases hm:m.e.ok=true
 ·rw[ym0 hm];exact ztb m L hm hc hL
 ·rw[ym1 hm];refine SpU.of_mr c.bt (by simp) fun r=>?_;show MR P _ _ _ _ (zwx r (mks L) (mvs L));simp only[Ex.ok,decide_eq_true_eq]at hm;unfold g.bt;refine MR.gseq ?_;simp[go_sem];refine MR.gseq ?_;simp[go_sem];refine zaa (zkq m.e ⟨⟨by omega,by omega⟩,⟨by omega,by omega⟩,by omega,by omega⟩) rfl ?_;simp[go_sem];refine MR.gcond (t:=false) (by simp[go_sem];omega) (fun h=>by cases h) (fun _=>MR.gnop ⟨.inl rfl,.inr ⟨rfl,by simp[go_sem]⟩⟩)
theorem z4r(ms:List GMono)(m:GMono):zf6 (ms++okE [m]) []=z4s m (zf6 ms []):=by
 unfold z4s;cases h:m.e.ok
 ·simp[okE,h]
 ·simp[okE,h,zf6]
structure pmOk (p q:List GMono):Prop where
 hp:psm p 524288
 hq:psm q 524288
 hm:∀ i k (h:i<p.length),psm (prow p[i] (q.take k) (pmul (p.take i) q)) 1048576
def puS(r:Nat)(p q:List GMono)(i:Nat):St:=mkSt [(1,.p (.sl (ens q))),(5,.p (.mapv r)),(14,.p (.sl (ens p))),(15,.p (.int .i64 p.length)),(16,.p (.int .i64 i))] []
def puT(r:Nat)(p q:List GMono)(i:Nat)(m:GMono)(k:Nat):St:=mkSt [(1,.p (.sl (ens q))),(5,.p (.mapv r)),(7,.ptr 2 0 0 0),(14,.p (.sl (ens p))),(15,.p (.int .i64 p.length)),(16,.p (.int .i64 i)),(21,.p (.sl (ens q))),(22,.p (.int .i64 q.length)),(23,.p (.int .i64 k))] [(2,⟨6,[.p (enc m)]⟩)]
def puB(r:Nat)(p q:List GMono)(i k:Nat):Option FA:=some (zii r (mks (zf6 (pmS p q i k) [])) (mvs (zf6 (pmS p q i k) [])))
def puI(r:Nat)(p q:List GMono)(n:Nat)(s:St)(B:Option FA):Prop:=∃ i,i<=p.length/\n=p.length - i/\Weak s (puS r p q i)/\B=puB r p q i 0
def puJ(r:Nat)(p q:List GMono)(i:Nat)(m:GMono)(n:Nat)(s:St)(B:Option FA):Prop:=∃ k,k<=q.length/\n=q.length - k/\Weak s (puT r p q i m k)/\B=puB r p q i k
def puE(r:Nat)(p q:List GMono)(ex:Exit)(s:St)(B:Option FA):Prop:=ex=.exit 0/\Weak s (puS r p q p.length)/\B=puB r p q p.length 0
def puF(r:Nat)(p q:List GMono)(i:Nat)(m:GMono)(ex:Exit)(s:St)(B:Option FA):Prop:=ex=.exit 2/\Weak s (puT r p q i m q.length)/\B=puB r p q i q.length
theorem ykv(r:Nat)(p q:List GMono)(vp:PVal p)(vq:PVal q)(h:pmOk p q)(lp:p.length<=216)(lq:q.length<=216){i:Nat}(hi:i<p.length){s:St}(hw:Weak s (puT r p q i p[i] 0)) :
  MR P 54 (GC.loop g.ow).er s (puB r p q i 0) (puF r p q i p[i]):=by
 refine MR.gloop (I:=puJ r p q i p[i]) q.length ⟨0,by omega,by omega,hw,rfl⟩ ?_;rintro n0 s B ⟨k,hk,rfl,hw,rfl⟩;refine MR.weak hw ?_;unfold g.ow;refine MR.gseq ?_;simp[puT,mkSt,go_sem];by_cases hlt:k<q.length
 ·refine MR.gseq' (MR.gcond (t:=true) (by simp[go_sem,hlt]) (fun _=>MR.gnop ⟨fun _=>?_,fun h=>absurd rfl h⟩) (fun h=>by cases h));simp[go_sem];refine MR.gseq' (MR.gblk (MR.gseq ?_));simp[go_sem];refine zae hlt ?_;refine MR.gseq ?_;simp[go_sem];refine MR.gseq ?_;have eok:∀ {e:Ex},e.ok=true->(0<=e.a/\e.a<=5)/\(0<=e.b/\e.b<=5)/\0<=e.c/\e.c<=5:=fun h=>by rw[Ex.ok_iff]at h;omega
  have o1:=eok (GMono.ok_iff.1 (vp i hi).1).1;have o2:=eok (GMono.ok_iff.1 (vq k hlt).1).1;have ea:IntKind.i64.wrap (p[i].e.a+q[k].e.a)=p[i].e.a+q[k].e.a:=i64w (by omega) (by omega);have eb:IntKind.i64.wrap (p[i].e.b+q[k].e.b)=p[i].e.b+q[k].e.b:=i64w (by omega) (by omega);have ec:IntKind.i64.wrap (p[i].e.c+q[k].e.c)=p[i].e.c+q[k].e.c:=i64w (by omega) (by omega);simp[go_sem];refine zan fun R3 hn3 hr3 hx3=>?_;simp[g.nh,go_sem,ea];refine hn3 _ ?_;clear hn3 hx3 hr3;refine zan fun R3 hn3 hr3 hx3=>?_;simp[g.nh,go_sem,eb];refine hn3 _ ?_;clear hn3 hx3 hr3;refine zan fun R3 hn3 hr3 hx3=>?_;simp[g.nh,go_sem,ec];refine hn3 _ ?_;clear hn3 hx3 hr3;refine zan fun R3 hn3 hr3 hx3=>?_;simp[g.nh,go_sem];refine hx3 _ _ ?_;clear hn3 hx3 hr3;simp[go_sem];refine MR.gregD rfl (by decide) ?_;simp[go_sem];have sp1:=GRat.sm.mono (h.hp _ (ym3 hi)) (show 524288<=1048576 by omega);have sq1:=GRat.sm.mono (h.hq _ (ym3 hlt)) (show 524288<=1048576 by omega);refine zaa (z2s p[i].coef q[k].coef sp1 sq1) rfl ?_;simp[go_sem];have hL:=ya1 (k:=k) hi (h.hm i k hi) (zia _ (zbt _ _));refine zt4 (args:=[enc (p[i].e.add q[k].e),enc (rto (p[i].coef.v*q[k].coef.v))]) (zzy (p[i].mulE q[k]) _ ⟨⟨by show 0<=p[i].e.a+q[k].e.a;omega,by show p[i].e.a+q[k].e.a<=10;omega⟩,⟨by show 0<=p[i].e.b+q[k].e.b;omega,by show p[i].e.b+q[k].e.b<=10;omega⟩,by show 0<=p[i].e.c+q[k].e.c;omega,by show p[i].e.c+q[k].e.c<=10;omega⟩ ((zpr (h.hp _ (ym3 hi)) (h.hq _ (ym3 hlt)) (by omega)).mono (by omega)) hL) (by simp[go_sem,Ex.add]) (zri _) (zrh _) ?_;simp[go_sem];refine⟨fun _=>MR.of_vm ?_,fun h=>absurd rfl h⟩;have e3:=i64s k (by omega);simp[go_sem,e3];refine⟨_,?_,k+1,by omega,rfl,Weak.to [1,5,7,14,15,16,21,22,23] [((2,0),2)] (by simp[puT,mkSt,go_sem]),?_⟩
  ·omega
  ·simp only[puB];rw[ykw hi hlt,z4r]
 ·have hk':k=q.length:=by omega
  refine MR.gseq' (MR.gcond (t:=false) (by simp[go_sem,hlt]) (fun h=>by cases h) (fun _=>MR.gext ⟨fun h=>(by cases h),fun _=>⟨fun h=>(by cases h),fun _=>⟨rfl,?_,?_⟩⟩⟩))
  ·exact Weak.to [1,5,7,14,15,16,21,22,23] [((2,0),2)] (by simp[puT,mkSt,go_sem,hk'])
  ·rw[hk']
theorem ztp:∀ p q:List GMono,(ze1 p q).length=p.length*q.length
 | [],q=>by simp[ze1]
 | m::p,q=>by rw[show ze1 (m::p) q=q.map m.mulE++ze1 p q from rfl,yp4,ynp,ztp p q,yo8,yne];omega
theorem z0a(p q:List GMono)(vp:PVal p)(vq:PVal q)(h:pmOk p q):Sp P F.lm [.sl (ens p),.sl (ens q)] (.pure (.sl (ens (pmul p q)))):=by
 have lp:=za0 vp;have lq:=za0 vq;have sp1:psm p 1048576:=fun m hm=>GRat.sm.mono (h.hp m hm) (by omega);have sq1:psm q 1048576:=fun m hm=>GRat.sm.mono (h.hq m hm) (by omega);refine Sp.of_mr c.lm (by simp) ?_;unfold g.lm;generalize hP:(fun ex s (_:Option FA)=>retP [(4,none)] (RV.pure (.sl (ens (pmul p q)))) ex s)=Post;refine MR.gseq ?_;simp[go_sem];refine MR.gseq' (MR.greg (MIns.cons (zns fun r=>?_)));refine zff [[12]] ?_;simp[go_sem];refine MR.gseq' (MR.gseq ?_);simp[go_sem];refine zaa (zjo p sp1 (by omega)) rfl ?_;simp[go_sem,zoz vp];refine MR.gblk (MR.mono (MR.gloop (Post:=puE r p q) (I:=puI r p q) p.length ⟨0,by omega,by omega,Weak.to [1,5,14,15,16] [] (by simp[puS,mkSt,go_sem]),by simp[puB,ygz,zf6,mks,mvs]⟩ ?_) ?_)
 ·rintro n0 s B ⟨i,hi,rfl,hw,rfl⟩;refine MR.weak hw ?_;unfold g.rl;refine MR.gseq ?_;simp[puS,mkSt,go_sem];by_cases hlt:i<p.length
  ·refine MR.gseq' (MR.gcond (t:=true) (by simp[go_sem,hlt]) (fun _=>MR.gnop ⟨fun _=>?_,fun h=>absurd rfl h⟩) (fun h=>by cases h));simp[go_sem];refine MR.gseq' (MR.gblk (MR.gseq ?_));simp[go_sem];refine zae hlt ?_;refine MR.gseq ?_;simp[go_sem];refine zaa (zjo q sq1 (by omega)) rfl ?_;simp[go_sem,zoz vq];refine MR.gblk (MR.mono (ykv r p q vp vq h lp lq hlt (Weak.to [1,5,7,14,15,16,21,22,23] [((7,0),2)] (by simp[puT,mkSt,go_sem]))) ?_);rintro ex s B ⟨rfl,hw,rfl⟩;have e3:=i64s i (by omega);refine⟨fun _=>MR.weak hw (MR.of_vm ?_),fun h=>absurd rfl h⟩;simp[puT,mkSt,go_sem,e3];refine⟨_,?_,i+1,by omega,rfl,Weak.to [1,5,14,15,16] [] (by simp[puS,mkSt,go_sem]),?_⟩
   ·omega
   ·simp only[puB];rw[ygy hlt]
  ·have hk':i=p.length:=by omega
   refine MR.gseq' (MR.gcond (t:=false) (by simp[go_sem,hlt]) (fun h=>by cases h) (fun _=>MR.gext ⟨fun h=>(by cases h),fun _=>⟨fun h=>(by cases h),fun _=>⟨rfl,?_,?_⟩⟩⟩))
   ·exact Weak.to [1,5,14,15,16] [] (by simp[puS,mkSt,go_sem,hk'])
   ·rw[hk']
 ·rintro ex s B ⟨rfl,hw,rfl⟩;refine⟨fun _=>?_,fun h=>absurd rfl h⟩;have hfin:=minv (okE (ze1 p q));have hsm:∀ x∈zf6 (okE (ze1 p q)) [],x.2.sm 1048576:=by
   rw[<- z3c];cases hpl:p.length with
   | zero=>intro x hx;rw[ygz]at hx;cases hx
   | succ n =>
    have:=ya1 (p:=p) (q:=q) (k:=q.length) (i:=n) (by omega) (h.hm n q.length (by omega)) (zia _ (zbt _ _));rw[ygy (by omega)]at this;exact fun x hx=>(this x hx).2
  unfold puB;rw[z3c];refine MR.weak hw (MR.freeze (t:=5) rfl ?_);refine MR.of_vm ?_;subst hP;simp[puS,mkSt,go_sem];have hpl:=za0 (zbt p q);have hlen:(okE (ze1 p q)).length<=46656:=by
   have h1:(ze1 p q).length=p.length*q.length:=by exact ztp p q
   have h2:=yn4 lp lq;have h3:(okE (ze1 p q)).length<=(ze1 p q).length:=yoh _ _;omega
  refine zcl (zpi r (zf6 (okE (ze1 p q)) []) (fun x hx=>GRat.sm.mono (hsm x hx) (by omega)) hfin.nod (by have:=hfin.len;omega) (pmul p q) (z3a hfin) (zvk (zbt p q))) (by simp[go_sem]) ⟨zdx _ _ rfl,by decide,by simp[ens,LIM];omega⟩ _ rfl ?_;simp[go_sem,killAll]
theorem zxt(v w:GW)(hv:v.sm 1048576)(hw:w.sm 1048576):Sp P F.bh [enc v,enc w] (.pure (enc (zam 1 v w))):=by refine Sp.vz c.bh fun _=>?_;simp[g.bh,go_sem];refine zaa (z2s v.q w.q hv.q hw.q) rfl ?_;simp[go_sem,zam]
theorem z7s(v w:GW):Sp P F.cr [enc v,enc w] (.pure (enc (zam 4 v w))):=by refine Sp.vz c.cr fun _=>?_;simp[g.cr,go_sem,zam,zu0]
theorem z92(v w:GW)(hv:v.si 2)(hw:w.si 2):Sp P F.bi [enc v,enc w] (.pure (enc (zam 2 v w))):=by
 refine Sp.vz c.bi fun _=>?_;have r1:=si2.1 hv;have r2:=si2.1 hw;have e1:IntKind.i64.wrap (v.cost+w.cost)=v.cost+w.cost:=i64w (by omega) (by omega);rcases ymz v.inf with h1|h1
 ·simp[g.bi,zam,h1,go_sem,gr0]
 rcases ymz w.inf with h2|h2
 ·simp[g.bi,zam,h1,h2,go_sem,gr0]
 simp[g.bi,zam,h1,h2,e1,go_sem];refine⟨fun h3=>by simp[h3,go_sem,gr0],fun h3=>by simp[show ¬ 1099511627776<v.cost+w.cost by omega,go_sem,gr0]⟩
theorem z28(v w:GW)(pv':PVal v.poly)(pw:PVal w.poly)(h:pmOk v.poly w.poly):Sp P F.eu [enc v,enc w] (.pure (enc (zam 5 v w))):=by refine Sp.vz c.eu fun _=>?_;simp[g.eu,go_sem];refine zaa (z0a v.poly w.poly pv' pw h) rfl ?_;simp[go_sem,zam,gr0]
theorem zs6(k:Int)(hk:1<=k/\k<=5)(v w:GW)(hv:v.sm 1048576)(hw:w.sm 1048576)(sv:v.si k)(sw:w.si k)(h5:k=5->pmOk v.poly w.poly):Sp P (kF4 k) [enc v,enc w] (.pure (enc (zam k v w))):=by
 have:k=1\/k=2\/k=3\/k=4\/k=5:=by omega
 rcases this with rfl|rfl|rfl|rfl|rfl
 ·exact zxt v w hv hw
 ·exact z92 v w sv sw
 ·have e:zam 3 v w=zam 1 v w:=by rw[zam,zam];simp
  rw[e];exact zxt v w hv hw
 ·exact z7s v w
 ·exact z28 v w (sv.2.2.2.2.2.2.2.2 rfl) (sw.2.2.2.2.2.2.2.2 rfl) (h5 rfl)
theorem z7c(r:GRing)(v w:GW)(hv:v.sm 1048576)(hw:w.sm 1048576)(cv:v.chk r)(cw:w.chk r)(h6:r.kind≠6)(h5:r.kind=5->pmOk v.poly w.poly):Sp P F.ax [enc r,enc v,enc w] (.pure (enc (zam r.kind v w))):=by have hr0:=cv.1;have hk:=GRing.ok_kind hr0 h6;have t1:v.tk r=v:=ym0 cv;have t2:w.tk r=w:=ym0 cw;have k1:=zd1 r v hv;have k2:=zd1 r w hw;rw[t1]at k1;rw[t2]at k2;refine Sp.vz c.ax fun _=>?_;simp[g.ax,go_sem];refine zaa (zex r) rfl ?_;simp[hr0,go_sem];refine zab k1 ?_;simp[go_sem];refine zab k2 ?_;simp[go_sem,h6];obtain⟨f5,f6,f7,f8,c5,c8,hA⟩:=zet r.kind ⟨hk.1,hk.2.1⟩;refine zaa (zk0 r.kind ⟨hk.1,hk.2.1⟩) rfl ?_;simp[hA,go_sem];refine zab (zs6 r.kind ⟨hk.1,hk.2.1⟩ v w hv hw (cv.2.1 h6) (cw.2.1 h6) h5) ?_;simp[go_sem]
theorem zzv(k:Int)(hk:1<=k/\k<=5)(v w:GW)(i:Nat)(iv:i<v.parts.length)(iw:i<w.parts.length)(hi:i<=3)(hv:v.parts[i].sm 1048576)(hw:w.parts[i].sm 1048576)(sv:v.parts[i].si k)(sw:w.parts[i].si k)(h5:k=5->pmOk v.parts[i].poly w.parts[i].poly) :
  Sp P F.gi [zn1 k,.int .i64 i,.ref (enc v),.ref (enc w)] (.pure (enc (zam k v.parts[i] w.parts[i]))):=by
 obtain⟨f5,f6,f7,f8,c5,c8,hA⟩:=zet k hk;rw[hA];refine Sp.of_vmW c.gi (by simp) ((Weak.openRef (t:=2) (v:=enc v) (n:=8) (by simp[go_sem]) (by simp[go_sem])).trans (Weak.openRef (t:=3) (v:=enc w) (n:=8) (by simp[go_sem]) (by simp[go_sem]))) ?_;simp[g.gi,go_sem];refine zae iv ?_;refine zae iw ?_;refine zab (zs6 k hk v.parts[i] w.parts[i] hv hw sv sw h5) ?_;simp[go_sem]
theorem z1w(r:GRing)(v w:GW)(hv:v.sm 1048576)(hw:w.sm 1048576)(cv:v.chk r)(cw:w.chk r)(h5:r.kind=5->pmOk v.poly w.poly)(h6':∀ i (h:i<r.parts.length) (h1:i<v.parts.length) (h2:i<w.parts.length),r.parts[i]=5->pmOk v.parts[i].poly w.parts[i].poly) :
  Sp P F.ax [enc r,enc v,enc w] (.pure (enc (r.times v w))):=by
 have hr0:=cv.1;by_cases h6:r.kind=6;rotate_left
 ·have h1:r.times v w=zam r.kind v w:=by simp[GRing.times,h6]
  rw[h1];exact z7c r v w hv hw cv cw h6 h5
 have hp:=GRing.ok_parts hr0 h6;have t1:v.tk r=v:=ym0 cv;have t2:w.tk r=w:=ym0 cw;have k1:=zd1 r v hv;have k2:=zd1 r w hw;rw[t1]at k1;rw[t2]at k2;have lv:=(cv.2.2 h6).1;have lw:=(cw.2.2 h6).1;have lp:(zbx r.parts v.parts w.parts).length=r.parts.length:=zay lv lw;refine Sp.vz c.ax fun _=>?_;simp[g.ax,go_sem];refine zaa (zex r) rfl ?_;simp[hr0,go_sem];refine zab k1 ?_;simp[go_sem];refine zab k2 ?_;simp[go_sem,h6];refine zaa (zwn r hp.2.2 hp.2.1 F.gi [.ref (enc v),.ref (enc w)] (zbx r.parts v.parts w.parts) lp fun i h h'=>?_) ?_ ?_
 ·rw[za6 h (by omega) (by omega) h'];exact zzv r.parts[i] (hp.2.2 _ (ym3 h)) v w i (by omega) (by omega) (by omega) (hv.parts _ (ym3 _)) (hw.parts _ (ym3 _)) ((cv.2.2 h6).2.2 i h (by omega)) ((cw.2.2 h6).2.2 i h (by omega)) (h6' i h (by omega) (by omega))
 ·simp[go_sem,zjc,zqy,h6]
 simp[go_sem,GRing.times,h6]
end Go.Ab
namespace Go.Ab
open Enc (enc)
attribute [local go_sem] zal Opd.slots
theorem zj7{I J N i:Nat}(h:i<I):(famR I J N)[i]?.getD none=some ⟨1,(List.range J).map (rowV N (i*J))⟩:=by rw[zy6 h];rfl
theorem zj8{T:List (List GW)}{p:Nat}(h:p<T.length):(famC T)[p]?.getD none=some ⟨8,avs (T.getD p [])⟩:=by rw[z9o h];rfl
theorem zzx(t:GTrans)(wx wy:List Int)(I J N:Nat)(T:List (List GW))(i j q:Nat)(hi:i<I)(hj:j<J)(hp:i*J+j<T.length)(hq:q<N)(hrow:(T.getD (i*J+j) []).length=N)(w:GW)
  (hplus:Sp P F.an [enc t.ring,enc ((T.getD (i*J+j) []).getD q t.ring.zero),enc w] (.pure (enc (t.ring.plus ((T.getD (i*J+j) []).getD q t.ring.zero) w)))) :
  HSp P F.jy [.ptr 900000 0 0 0,.p (.int .i64 i),.p (.int .i64 j),.p (.int .i64 q),.p (enc w)] (hpT t wx wy I J N T) (.tup []) (hpT t wx wy I J N (adT t.ring T (i*J+j) q w)):=by
 refine HSp.of_mr c.jy (by simp) (by simp[hpT,PINB]) (by simp[hpT]) ?_ fun A hA=>?_
 ·show(true&&hpOk [900000,900001,900002,900003] (hpT t wx wy I J N (adT t.ring T (i*J+j) q w)))=true;rw[zqg];rfl
 ·have e1:=zj7 (N:=N) (J:=J) hi;have e2:=zj8 hp;have hA':adT t.ring T (i*J+j) q w=T.set (i*J+j) ((T.getD (i*J+j) []).set q (t.ring.plus ((T.getD (i*J+j) []).getD q t.ring.zero) w)):=rfl;rw[hA'];generalize T.getD (i*J+j) []=row at *
  have hql:q<row.length:=by omega
  have hgq:row.getD q t.ring.zero=row[q]:=by rw[ymo,yms hql];rfl
  rw[hgq]at hplus ⊢;refine MR.of_vm ?_;have r1:(List.map (outV J) (List.range I))[i]?=some (outV J i):=by rw[ynb,yob hi];rfl
  have r2:(List.map (rowV N (i*J)) (List.range J))[j]?=some (rowV N (i*J) j):=by rw[ynb,yob hj];rfl
  simp[g.jy,go_sem,zei,hpT,tabV];refine⟨fun _=>⟨hi,?_⟩,fun h=>absurd hi (by omega)⟩;rw[zcc];refine⟨_,r1,?_⟩;simp[go_sem,outV,e1,hi,hj];rw[zcc];refine⟨_,r1,?_⟩;simp[go_sem,outV,e1,hi,hj];rw[zcc];refine⟨_,r2,?_⟩;simp[go_sem,rowV,e1,e2,hi,hj];rw[zcc];refine⟨_,r1,?_⟩;simp[go_sem,outV,e1,hi,hj];rw[zcc];refine⟨_,r2,?_⟩;simp[go_sem,rowV,e1,e2,hi,hj,hrow,hq];refine zae hql ?_;refine zab hplus ?_;simp[go_sem,rowV,e1,e2,hi,hj,hrow,hq];refine zae hql ?_;have hs:(famC T).set (i*J+j) (some ⟨8,(avs row).set q (.p (enc (t.ring.plus row[q] w)))⟩)=famC (T.set (i*J+j) (row.set q (t.ring.plus row[q] w))):=by rw[<- z9n];congr 3;simp[avs,ens,yr8]
  refine⟨.inr rfl,_,Weak.refl _,[],rfl,rfl,?_⟩;simp only[zwj]at hs;simp[zpb,St.site,look,hs]
theorem yb8(l:Int)(h:0<=l/\l<=64):Sp P F.du [.int .i64 l] (.pure (.int .i64 (if l=0 then 0 else 1))):=by refine Sp.vz c.du fun _=>?_;simp[g.du,go_sem];split<;>split<;>omega
theorem zi6(w:List Int)(m:Int)(hl:w.length<=1000000):Sp P F.fm [.sl (ens w),.int .i64 m] (.pure (.bool (decide ((1<=m/\m<=32)/\w.length<=256/\∀ x∈w,1<=x/\x<=m)))):=by
 refine Sp.vz c.fm fun _=>?_;simp[g.fm,go_sem]
 refine zai (S:=fun k:Nat=>mkSt [(0,.p (.sl (ens w))),(1,.p (.int .i64 m)),(7,.p (.sl (ens w))),(8,.p (.int .i64 w.length)),(9,.p (.int .i64 k))] []) (I:=fun k=>k<=w.length/\∀ i,(h:i<w.length)->i<k->1<=w[i]/\w[i]<=m) (m:=fun k=>w.length - k) 0
  (Weak.to [0,1,7,8,9] [] (by simp[go_sem])) ⟨by omega,fun i _ h=>by omega⟩ ?_
 rintro k ⟨h1,h2⟩ R hn hr hx;have e1:=i64s k (by omega);simp[g.p8,mkSt,go_sem];refine⟨fun hk=>zae hk ?_,fun hk=>hx _ _ ?_⟩
 ·have hf:∀ h:w[k]<1\/m<w[k],¬ ∀ x∈w,1<=x/\x<=m:=fun h hh=>by have:=hh w[k] (ym3 hk);omega
  refine⟨fun h=>hr _ (by simp[go_sem,hf (.inl h)]),fun h=>⟨fun h'=>hr _ (by simp[go_sem,hf (.inr h')]),fun h'=>hn (k+1) _ (Weak.to [0,1,7,8,9] [] (by simp[go_sem,e1])) ⟨by omega,fun i hi hik=>?_⟩ (by omega)⟩⟩;by_cases e:i=k
  ·subst e;exact⟨h,h'⟩
  ·exact h2 i hi (by omega)
 ·have hk':k=w.length:=by omega
  have ha:∀ x∈w,1<=x/\x<=m:=fun x hx=>by obtain⟨i,hi,rfl⟩:=yo7.1 hx;exact h2 i hi (by omega)
  have hd:decide (∀ x∈w,1<=x/\x<=m)=true:=decide_eq_true ha;simp[go_sem,hd];refine⟨fun h1=>⟨fun h2=>by simp[h1,h2];omega,fun h2 _ h3=>by omega⟩,fun h1 h2=>by omega⟩
theorem ydi(n:Nat)(h:n<4294967296):Sp P F.lh [.int .u64 1,.int .u64 n] (.pure (.tup [.int .u64 0,.int .u64 n])):=by
 refine Sp.vz c.lh fun _=>?_;have a1:andI .u64 1 4294967295=1:=by decide +kernel
 have a2:andI .u64 (n:Int) 4294967295=n:=by
  have:=zzk (x:=n) (y:=4294967295) (by omega) (by omega);have e:n &&& 4294967295=n:=by have:=Nat.and_two_pow_sub_one_eq_mod n 32;rw[show(2:Nat)^32 - 1=4294967295 from rfl]at this;rw[this];exact yoa h
  rw[e]at this;exact this
 have a3:andI .u64 0 4294967295=0:=by decide +kernel
 have e:(n:Int) % 18446744073709551616 / 4294967296 % 18446744073709551616=0:=by omega
 simp[g.lh,go_sem,a1,a2,e,a3];omega
theorem yae(n:Nat)(h:n<4294967296):Sp P F.kj [.int .u64 1,.int .u64 n] (.pure (.tup [.int .u64 0,.int .u64 n])):=by refine Sp.vz c.kj fun _=>?_;simp[g.kj,go_sem];refine zaa (ydi n h) rfl ?_;simp[go_sem]
theorem z75(Z G:AV)(m t k:Nat)(ht:t<=k):List.replicate m Z++(List.replicate t Z++(List.replicate m Z++List.replicate k G).drop (m+t))=List.replicate (m+t) Z++List.replicate (k - t) G:=by rw[yqz,ys2,List.length_replicate,ys2,show m - (m+t)=0 by omega,show k - (m+t - m)=k - t by omega,List.replicate_zero,yom,<- List.append_assoc,ys4]
def gz:AV:=.p (.agg [.bool false,.sl [],.sl [],.int .i64 0,.bool false,.int .u64 0,.sl [],.sl []])
theorem z2u(z:GW)(n:Nat)(h:n<=1000):Sp P F.jx [.sl [enc z],.int .i64 n] (.fresh 8 (ens (List.replicate n z))):=by
 refine Sp.vz c.jx fun _=>?_;have c1:(n:Int) % 18446744073709551616=n:=by omega
 simp[g.jx,go_sem,c1];refine zaa (yae n (by omega)) rfl ?_;have c2:IntKind.i64.wrap (n:Int)=n:=i64w (by omega) (by omega);simp[go_sem,c2];refine⟨by omega,fun _=>⟨by omega,?_⟩⟩
 refine zai (S:=fun m:Nat=>mkSt [(7,.own 1 0 0 n),(8,.p (.int .i64 m))] [(1,⟨8,avs (List.replicate m z)++List.replicate (n - m) gz⟩)]) (I:=fun m=>m<=n/\(n=0\/1<=m)) (m:=fun m=>n - m) (min 1 n)
  (Weak.to [7,8] [((30,0),1)] ?_) (by omega) ?_
 ·rcases yp6 n with h0|h0
  ·subst h0;simp[mkSt,go_sem]
  ·have e1:min 1 n=1:=by omega
   simp[mkSt,go_sem,e1,gz,avs]
 rintro m ⟨h1,h2⟩ R hn hr hx;simp[g.qo,mkSt,go_sem];refine⟨fun hm=>?_,fun hm=>hx _ _ ?_⟩
 ·have e:IntKind.i64.wrap ((m:Int)+((min m (n - m):Nat):Int))=((m+min m (n - m):Nat):Int):=(i64w (by omega) (by omega)).trans (by omega);rw[z75 _ gz m (min m (n - m)) (n - m) (by omega)];refine⟨by omega,?_,hn (m+min m (n - m)) _ (Weak.to [7,8] [((1,0),1)] (by simp[mkSt,go_sem,e,Nat.sub_sub,gz])) ⟨by omega,by omega⟩ (by omega)⟩;exact⟨by rw[ynq];intro v hv;rw[(yp7.1 hv).2];rfl,by omega⟩
 ·have:m=n:=by omega
  subst this;simp[go_sem]
theorem z6z(r:GRing)(n:Nat)(h:n<=1000):Sp P F.jl [enc r,.int .i64 n] (.fresh 8 (ens (List.replicate n r.zero))):=by
 refine Sp.vz c.jl fun _=>?_;simp[g.jl,go_sem];refine zaa (zgg r) rfl ?_;simp[go_sem];refine zcl (z2u r.zero n h) (by simp[go_sem]) ⟨zdx _ _ rfl,by decide,by simp[ens,LIM];omega⟩ _ rfl ?_;cases hfl:(ens (List.replicate n r.zero)).all PV.flat
 ·simp[go_sem,killAll]
 ·simp[go_sem]
def tabP(t:GTrans)(wx wy:List Int)(at':PV):PV:=.agg [.int .i64 t.ring.kind,.sl (ens t.ring.parts),.int .i64 t.i,.int .i64 t.o,.int .i64 t.st,.sl (ens t.ini),.sl (ens t.fin),.sl (ens t.arcs),.sl (ens wx),.sl (ens wy),at']
theorem yd2(t:GTrans)(wx wy:List Int)(at':PV)(x:GTArc)(i k:Nat):Sp P F.be [.ref (tabP t wx wy at'),enc x,.int .i64 i,.int .i64 k] (.pure (.bool (decide ((x.i=0\/wx[i]?=some x.i)/\(x.o=0\/wy[k]?=some x.o))))):=by
 refine Sp.of_vmW c.be (by simp) (Weak.openRef (t:=0) (v:=tabP t wx wy at') (n:=11) (by simp[tabP,go_sem]) (by simp[tabP,go_sem])) ?_;by_cases a:x.i=0
 ·by_cases b:x.o=0
  ·simp(maxSteps:=1000000) [g.be,go_sem,tabP,a,b]
  ·by_cases c:k<wy.length
   ·simp(maxSteps:=1000000) [g.be,go_sem,tabP,a,b,c];refine zae c ?_;exact eq_comm
   ·simp(maxSteps:=1000000) [g.be,go_sem,tabP,a,b,c]
 ·by_cases d:i<wx.length
  ·simp(maxSteps:=1000000) [g.be,go_sem,tabP,a,d];refine zae d ?_;refine⟨fun h=>⟨fun b=>⟨h.symm,.inl b⟩,fun b=>⟨fun c=>zae c ?_,fun c _=>⟨b,by simp[ynu c]⟩⟩⟩,fun h h'=>absurd h'.symm h⟩;simp[h,b,yms c,eq_comm]
  ·simp(maxSteps:=1000000) [g.be,go_sem,tabP,a,d]
theorem z4q{α β : Type}{f : α -> Option β}{g : α -> β}:∀ {l:List α},(∀ x∈l,f x=some (g x))->l.mapM f=some (l.map g)
 | [],_=>rfl
 | x::l,h=>by rw[yor,h x ynt,z4q fun y hy=>h y (yn9 _ hy)];rfl
theorem zhb(n:Nat)(st:St)(s g off len:Nat):toPV st (n+1) (.own s g off len)=match st.obj s g with
  | some o=>if off+len<=o.es.length then(((o.es.drop off).take len).mapM (toPV st n)).map .sl else none
  | none=>none:=rfl
theorem z1s(n:Nat)(st:St)(s g:Nat):toPV st (n+1) (.ptr s g 0 0)=match st.obj s g with
  | some o=>match o.es with
   | [e]=>(toPV st n e).map .ref
   | _=>none
  | none=>none:=rfl
def yeo(J:Nat)(T:List (List GW))(i j:Nat):PV:=.sl (ens (T.getD (i*J+j) []))
def rowP(J:Nat)(T:List (List GW))(i:Nat):PV:=.sl ((List.range J).map (yeo J T i))
def tabA(I J:Nat)(T:List (List GW)):PV:=.sl ((List.range I).map (rowP J T))
theorem z65{st:St}{t:GTrans}{wx wy:List Int}{I J N:Nat}{T:List (List GW)}(h:zpb st (hpT t wx wy I J N T) (hpT t wx wy I J N T))(hl:T.length=I*J)(hN:∀ l∈T,l.length=N) :
  toPV st FUEL (.ptr 900000 0 0 0)=some (.ref (tabP t wx wy (tabA I J T))):=by
 obtain⟨h0,h1,h2,h3,_⟩:=h;have s0:st.obj 900000 0=some ⟨11,[tabV t wx wy I]⟩:=by unfold St.obj;rw[show st.site 900000=_ from h0];rfl
 have s1:st.obj 900001 0=some ⟨1,(List.range I).map (outV J)⟩:=by unfold St.obj;rw[show st.site 900001=_ from h1];rfl
 have s2:∀ i,i<I->st.obj 900002 i=some ⟨1,(List.range J).map (rowV N (i*J))⟩:=fun i hi=>by unfold St.obj;rw[show st.site 900002=_ from h2];exact zj7 hi
 have s3:∀ p,p<T.length->st.obj 900003 p=some ⟨8,avs (T.getD p [])⟩:=fun p hp=>by unfold St.obj;rw[show st.site 900003=_ from h3];exact zj8 hp
 have c3:∀ i j,i<I->j<J->toPV st 2 (rowV N (i*J) j)=some (yeo J T i j):=fun i j hi hj=>by
  have hp:i*J+j<T.length:=by have:=ymu J (yqd hi);rw[yne]at this;omega
  have hn:(T.getD (i*J+j) []).length=N:=by rw[ymo,yms hp];exact hN _ (ym3 hp)
  unfold rowV;rw[zhb,s3 _ hp];simp only[ypj,yn6,zgf,hn,ym8,ym2];rw[ymq (by rw[zgf,hn];exact ym8 _),zrq];rfl
 have c2:∀ i,i<I->toPV st 3 (outV J i)=some (rowP J T i):=fun i hi=>by unfold outV;rw[zhb,s2 _ hi];simp only[ypj,yn6,ynp,List.length_range,ym8,ym2];rw[ymq (by simp),List.mapM_map,z4q (f:=toPV st 2∘rowV N (i*J)) (g:=yeo J T i) fun j hj=>c3 i j hi (yng.1 hj)];rfl
 have c1:toPV st 4 (.own 900001 0 0 I)=some (tabA I J T):=by rw[zhb,s1];simp only[ypj,yn6,ynp,List.length_range,ym8,ym2];rw[ymq (by simp),List.mapM_map,z4q (f:=toPV st 3∘outV J) (g:=rowP J T) fun i hi=>c2 i (yng.1 hi)];rfl
 rw[FUEL,z1s,s0];show(toPV st 5 (tabV t wx wy I)).map PV.ref=_;have:toPV st 5 (tabV t wx wy I)=some (tabP t wx wy (tabA I J T)):=by unfold tabV tabP;show(List.mapM (toPV st 4) _).map PV.agg=_;simp only[yor,List.mapM_nil,c1];rfl
 rw[this];rfl
end Go.Ab
namespace Go.Ab
open Enc (enc)
def T100:Nat:=2^100
theorem yal:0<T100:=ynj (by omega)
theorem z6v:T100<4294967296^4:=by unfold T100;decide +kernel
structure LB (E H s:Nat):Prop where
 e:0<E
 h:T100*E<=H
 el:E<4294967296^s
 hl:H<4294967296^(s+8)
 s:s<=4000
def qL(E H n:Nat)(q:Rat):Prop:=∃ B,qb (E^(n / 100)) B q/\46656*B<=H^(n / 100)*2^(n % 100)
section
variable {E H s:Nat} (L:LB E H s)
include L in
theorem LB.ene(n:Nat):E^n≠0:=yqr.1 (ynj L.e)
include L in
theorem ycs:∀ (c k a B:Nat) {q:Rat},k<100*c+100->qb (E^a) B q->46656*B<=H^a*2^k->qL E H (100*a+k) q
 | 0,k,a,B,q,hk,h1,h2=>by
  have e1:(100*a+k) / 100=a:=by omega
  have e2:(100*a+k) % 100=k:=by omega
  exact⟨B,by rw[e1];exact h1,by rw[e1,e2];exact h2⟩
 | c+1,k,a,B,q,hk,h1,h2=>by
  by_cases hlt:k<100
  ·exact ycs 0 k a B (by omega) h1 h2
  ·have h3:=zd0 E (yqr.1 L.e) h1;rw[<- Nat.pow_succ]at h3;have h4:46656*(B*E)<=H^(a+1)*2^(k - 100):=by
    have e1:2^k=2^(k - 100)*T100:=by unfold T100;rw[<- Nat.pow_add];congr 1;omega
    calc 46656*(B*E)=46656*B*E:=by rw[yn3]
     _<=H^a*2^k*E:=ymu _ h2
     _=H^a*2^(k - 100)*(T100*E):=by rw[e1];simp only[yn3]
     _<=H^a*2^(k - 100)*H:=yo5 _ L.h
     _=H^(a+1)*2^(k - 100):=by rw[ymx];ac_rfl
   have:=ycs c (k - 100) (a+1) (B*E) (by omega) h3 h4;have e:100*(a+1)+(k - 100)=100*a+k:=by omega
   rwa[e]at this
include L in
theorem z8a(k a B:Nat){q:Rat}(h1:qb (E^a) B q)(h2:46656*B<=H^a*2^k):qL E H (100*a+k) q:=ycs L k k a B (by omega) h1 h2
include L in
theorem zq5{m n:Nat}{q:Rat}(h:qL E H m q)(k:m<=n):qL E H n q:=by
 obtain⟨B,h1,h2⟩:=h;obtain⟨j,rfl⟩:=Nat.le.dest k;have:=z8a L (m % 100+j) (m / 100) B h1 (ymm h2 (yo5 _ (ynl (by omega) (by omega))));have e:100*(m / 100)+(m % 100+j)=m+j:=by omega
 rwa[e]at this
theorem zgm(n:Nat):qL E H n 0:=⟨0,zis _,by omega⟩
include L in
theorem yav{m:Nat}{p q:Rat}(h:qL E H m p)(h':qL E H m q):qL E H (m+1) (p+q):=by
 obtain⟨B,h1,h2⟩:=h;obtain⟨B',h1',h2'⟩:=h';have:=z8a L (m % 100+1) (m / 100) (B+B') (ztm h1 h1' (L.ene _)) (by rw[ymx,<- Nat.mul_assoc];omega);have e:100*(m / 100)+(m % 100+1)=m+1:=by omega
 rwa[e]at this
theorem znq{A B C D:Nat}(h1:46656*A<=C)(h2:46656*B<=D):46656*(46656*(A*B))<=C*D:=by
 have:=yn4 h1 h2;have e:46656*A*(46656*B)=46656*(46656*(A*B)):=by ac_rfl
 omega
include L in
theorem yau{m n B:Nat}{q:Rat}(h1:qb (E^(m / 100)*E^(n / 100)) B q)(h2:46656*B<=H^(m / 100)*2^(m % 100)*(H^(n / 100)*2^(n % 100))):qL E H (m+n) q:=by
 rw[<- Nat.pow_add]at h1;have:=z8a L (m % 100+n % 100) (m / 100+n / 100) B h1 (by
  refine ymm h2 (Nat.le_of_eq ?_);rw[ymt,ymt];ac_rfl)
 have e:100*(m / 100+n / 100)+(m % 100+n % 100)=m+n:=by omega
 rwa[e]at this
include L in
theorem ygt{m n:Nat}{p q:Rat}(h:qL E H m p)(h':qL E H n q):qL E H (m+n) (p*q):=by obtain⟨B,h1,h2⟩:=h;obtain⟨B',h1',h2'⟩:=h';have hb:=znq h2 h2';exact yau L (z21 h1 h1') (by omega)
def szN(s n:Nat):Nat:=(n / 100)*(s+8)+5
include L in
theorem L_D(n:Nat):E^(n / 100)<4294967296^szN s n:=by
 have h1:E^(n / 100)<=(4294967296^s)^(n / 100):=yqw (yps L.el) _;rw[<- Nat.pow_mul]at h1;refine ynh h1 (yqa (by omega) ?_);unfold szN;have:s*(n / 100)<=(n / 100)*(s+8):=by rw[ynd];exact yo5 _ (by omega)
 omega
include L in
theorem L_HB(n:Nat):H^(n / 100)*2^(n % 100)<4294967296^szN s n:=by
 have h1:H^(n / 100)<=(4294967296^(s+8))^(n / 100):=yqw (yps L.hl) _;rw[<- Nat.pow_mul]at h1;have h2:2^(n % 100)<4294967296^4:=ynh (show 2^(n % 100)<=T100 from ynl (by omega) (by omega)) z6v;have e:szN s n=(s+8)*(n / 100)+4+1:=by unfold szN;rw[ynd]
 rw[e,ymx,ymt];have h3:H^(n / 100)*2^(n % 100)<=4294967296^((s+8)*(n / 100))*4294967296^4:=yn4 h1 (yps h2);have h4:0<4294967296^((s+8)*(n / 100))*4294967296^4:=yoz (ynj (by omega)) (ynj (by omega));omega
structure GW.lb1 (E H n:Nat) (w:GW):Prop where
 q:qL E H n w.q.v
 p:∀ e,qL E H n (pc w.poly e)
structure GW.lb (E H n:Nat) (w:GW):Prop where
 o:w.lb1 E H n
 ps:∀ x∈w.parts,x.lb1 E H n
include L in
theorem GW.lb1.mono{m n:Nat}{w:GW}(h:w.lb1 E H m)(k:m<=n):w.lb1 E H n:=⟨zq5 L h.q k,fun e=>zq5 L (h.p e) k⟩
include L in
theorem GW.lb.mono{m n:Nat}{w:GW}(h:w.lb E H m)(k:m<=n):w.lb E H n:=⟨h.o.mono L k,fun x hx=>(h.ps x hx).mono L k⟩
theorem zob(n c i s):(GW.mk gr0 c i s [] []).lb1 E H n:=⟨by show qL E H n gr0.v;rw[zf9];exact zgm n,fun e=>zgm n⟩
theorem zr8(n c i s ps):(GW.mk gr0 c i s [] ps).lb1 E H n:=⟨by show qL E H n gr0.v;rw[zf9];exact zgm n,fun e=>zgm n⟩
theorem zhs{n:Nat}{p:List GMono}(h:∀ e,qL E H n (pc p e)):pqb (E^(n / 100)) (H^(n / 100)*2^(n % 100) / 46656) p:=fun e=>by obtain⟨B,h1,h2⟩:=h e;exact zbh h1 ((yrb (by omega)).2 (by omega))
include L in
theorem zpm{k:Int}{w:GW}{n:Nat}(hs:w.si k)(h:w.lb1 E H n)(hn:216<=szN s n):w.sm (szN s n):=by
 have hq:=si_q hs;have hp:=si_p hs;cases w with
 | mk q c i t p ps =>
  have e:ps=[]:=hs.1;subst e;have hB:H^(n / 100)*2^(n % 100) / 46656<4294967296^szN s n:=ynh (ypr _ _) (L_HB L n);have h1:q.sm (szN s n):=by
   obtain⟨B,b1,b2⟩:=h.q;have:=zvj b1 (L.ene _) (L_D L n) (ynh (show B<=_ by omega) (L_HB L n))
   rwa[show rto (GW.q (GW.mk q c i t p [])).v=q from zf0 hq]at this
  have h2:psm p (szN s n):=zee (zhs h.p) hp (L.ene _) (L_D L n) hB;exact .mk h1 h2 (by have:p.length<=216:=za0 hp;omega) (by simp) (by simp)
include L in
theorem zgz{r:GRing}{w:GW}{n:Nat}(hc:w.chk r)(h:w.lb E H n)(hn:216<=szN s n):w.sm (szN s n):=by
 by_cases h6:r.kind=6
 ·obtain⟨l,e,hs⟩:=hc.2.2 h6;have hp:=GRing.ok_parts hc.1 h6;rw[e];refine .tup (by omega) fun x hx=>?_;obtain⟨i,hi,rfl⟩:=yo7.1 hx;exact zpm L (hs i (by omega) hi) (h.ps _ hx) hn
 ·exact zpm L (hc.2.1 h6) h.o hn
include L in
theorem zx2{k:Int}{v w:GW}{n:Nat}(sv:v.si k)(sw:w.si k)(hv:v.lb1 E H n)(hw:w.lb1 E H n):(zap k v w).lb1 E H (n+1):=by
 unfold zap;split
 ·exact⟨by show qL E H (n+1) (rto (v.q.v+w.q.v)).v;rw[zbe];exact yav L hv.q hw.q,fun e=>zgm _⟩
 ·split
  ·split
   ·exact hw.mono L (by omega)
   ·exact hv.mono L (by omega)
  ·split
   ·split
    ·exact hw.mono L (by omega)
    ·exact hv.mono L (by omega)
   ·split
    ·exact zob ..
    ·refine⟨by show qL E H _ gr0.v;rw[zf9];exact zgm _,fun e=>?_⟩;show qL E H (n+1) (pc (padd v.poly w.poly) e);rw[ze2 v.poly (zaj.1 (si_p sw)).1];exact yav L (hv.p e) (hw.p e)
include L in
theorem zs4{k:Int}{v w:GW}{m n:Nat}(sv:v.si k)(sw:w.si k)(hv:v.lb1 E H m)(hw:w.lb1 E H n):(zam k v w).lb1 E H (m+n+1):=by
 unfold zam;split
 ·exact⟨by show qL E H _ (rto (v.q.v*w.q.v)).v;rw[zbe];exact zq5 L (ygt L hv.q hw.q) (by omega),fun e=>zgm _⟩
 ·split
  ·split
   ·exact zob ..
   ·exact zob ..
  ·split
   ·exact zob ..
   ·refine⟨by show qL E H _ gr0.v;rw[zf9];exact zgm _,fun e=>?_⟩;show qL E H _ (pc (pmul v.poly w.poly) e);have pv:=si_p sv;have pw:=si_p sw;have h1:=zkp (zcw (zhs hv.p) pv) (zcw (zhs hw.p) pw) (yoj (L.ene _) (L.ene _)) e;have l1:=za0 pv;have l2:=za0 pw;have b1:=yrh (H^(m / 100)*2^(m % 100)) 46656;have b2:=yrh (H^(n / 100)*2^(n % 100)) 46656;have hb:=znq b1 b2;refine zq5 L (yau L h1 (ymm (yo5 _ ?_) hb)) (by omega);generalize H^(m / 100)*2^(m % 100) / 46656*(H^(n / 100)*2^(n % 100) / 46656)=C;have h3:v.poly.length*(w.poly.length*C)<=216*(216*C):=yn4 l1 (ymu _ l2);omega
include L in
theorem ycw{r:GRing}{v w:GW}{n:Nat}(cv:v.chk r)(cw:w.chk r)(hv:v.lb E H n)(hw:w.lb E H n):(r.plus v w).lb E H (n+1):=by
 by_cases h6:r.kind=6
 ·have lv:=(cv.2.2 h6).1;have lw:=(cw.2.2 h6).1;have e:r.plus v w=.mk gr0 0 false 0 [] (zcx r.parts v.parts w.parts):=by simp[GRing.plus,h6]
  rw[e];have hl:=zbb (ks:=r.parts) (vs:=v.parts) (ws:=w.parts) lv lw;refine⟨zr8 ..,fun x hx=>?_⟩;obtain⟨i,hi,rfl⟩:=yo7.1 hx;simp only[GW.parts_mk]at hi;have h3:i<r.parts.length:=by omega
  have:=zbl h3 (by omega:i<v.parts.length) (by omega:i<w.parts.length) hi;simp only[GW.parts_mk];rw[this];exact zx2 L ((cv.2.2 h6).2.2 i h3 (by omega)) ((cw.2.2 h6).2.2 i h3 (by omega)) (hv.ps _ (ym3 _)) (hw.ps _ (ym3 _))
 ·have hk:=GRing.ok_kind cv.1 h6;have e:r.plus v w=zap r.kind v w:=by simp[GRing.plus,h6]
  have sp:=zb0 ⟨hk.1,hk.2.1⟩ (cv.2.1 h6) (cw.2.1 h6);rw[e];exact⟨zx2 L (cv.2.1 h6) (cw.2.1 h6) hv.o hw.o,fun x hx=>by rw[sp.1]at hx;cases hx⟩
include L in
theorem z7b{r:GRing}{v w:GW}{m n:Nat}(cv:v.chk r)(cw:w.chk r)(hv:v.lb E H m)(hw:w.lb E H n):(r.times v w).lb E H (m+n+1):=by
 by_cases h6:r.kind=6
 ·have lv:=(cv.2.2 h6).1;have lw:=(cw.2.2 h6).1;have e:r.times v w=.mk gr0 0 false 0 [] (zbx r.parts v.parts w.parts):=by simp[GRing.times,h6]
  rw[e];have hl:=zay (ks:=r.parts) (vs:=v.parts) (ws:=w.parts) lv lw;refine⟨zr8 ..,fun x hx=>?_⟩;obtain⟨i,hi,rfl⟩:=yo7.1 hx;simp only[GW.parts_mk]at hi;have h3:i<r.parts.length:=by omega
  have:=za6 h3 (by omega:i<v.parts.length) (by omega:i<w.parts.length) hi;simp only[GW.parts_mk];rw[this];exact zs4 L ((cv.2.2 h6).2.2 i h3 (by omega)) ((cw.2.2 h6).2.2 i h3 (by omega)) (hv.ps _ (ym3 _)) (hw.ps _ (ym3 _))
 ·have hk:=GRing.ok_kind cv.1 h6;have e:r.times v w=zam r.kind v w:=by simp[GRing.times,h6]
  have sp:=zba ⟨hk.1,hk.2.1⟩ (cv.2.1 h6) (cw.2.1 h6);rw[e];exact⟨zs4 L (cv.2.1 h6) (cw.2.1 h6) hv.o hw.o,fun x hx=>by rw[sp.1]at hx;cases hx⟩
end
end Go.Ab
