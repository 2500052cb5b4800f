/-
Proofs for the law TransducerWeighsMadeModels, part 42. Conditions: none.
-/
import Derived.Test.YtbhboeijjgiflaaGreatDoorCP41
import Derived.Test.YtbhboeijjgiflaaGreatDoorCP35
import Derived.Test.YtbhboeijjgiflaaGreatDoorCP38
import Derived.Test.YtbhboeijjgiflaaGreatDoorCP39
import Derived.Test.YtbhboeijjgiflaaGreatDoorCP40
set_option maxRecDepth 100000
set_option maxHeartbeats 4000000
set_option linter.all false
namespace Go.Ab
open Enc (enc)
structure pmOk (p q:List GMono):Prop where
 hp:psm p 524288
 hq:psm q 524288
 hm:∀ i k (h:i<p.length),psm (prow p[i] (q.take k) (pmul (p.take i) q)) 1048576
def puS(r:Nat)(p q:List GMono)(i:Nat):St:=mkSt [(1,.p (.sl (ens q))),(5,.p (.mapv r)),(14,.p (.sl (ens p))),(15,.p (.int .i64 p.length)),(16,.p (.int .i64 i))] []
def puT(r:Nat)(p q:List GMono)(i:Nat)(m:GMono)(k:Nat):St:=mkSt [(1,.p (.sl (ens q))),(5,.p (.mapv r)),(7,.ptr 2 0 0 0),(14,.p (.sl (ens p))),(15,.p (.int .i64 p.length)),(16,.p (.int .i64 i)),(21,.p (.sl (ens q))),(22,.p (.int .i64 q.length)),(23,.p (.int .i64 k))] [(2,⟨6,[.p (enc m)]⟩)]
def puB(r:Nat)(p q:List GMono)(i k:Nat):Option FA:=some (zil r (mks (zf8 (pmS p q i k) [])) (mvs (zf8 (pmS p q i k) [])))
def puI(r:Nat)(p q:List GMono)(n:Nat)(s:St)(B:Option FA):Prop:=∃ i,i<=p.length/\n=p.length - i/\Weak s (puS r p q i)/\B=puB r p q i 0
def puJ(r:Nat)(p q:List GMono)(i:Nat)(m:GMono)(n:Nat)(s:St)(B:Option FA):Prop:=∃ k,k<=q.length/\n=q.length - k/\Weak s (puT r p q i m k)/\B=puB r p q i k
def puE(r:Nat)(p q:List GMono)(ex:Exit)(s:St)(B:Option FA):Prop:=ex=.exit 0/\Weak s (puS r p q p.length)/\B=puB r p q p.length 0
def puF(r:Nat)(p q:List GMono)(i:Nat)(m:GMono)(ex:Exit)(s:St)(B:Option FA):Prop:=ex=.exit 2/\Weak s (puT r p q i m q.length)/\B=puB r p q i q.length
theorem yjx(r:Nat)(p q:List GMono)(vp:PVal p)(vq:PVal q)(h:pmOk p q)(lp:p.length<=216)(lq:q.length<=216){i:Nat}(hi:i<p.length){s:St}(hw:Weak s (puT r p q i p[i] 0)) :
  MR P 54 (GC.loop g.o9).er s (puB r p q i 0) (puF r p q i p[i]):=by
 refine MR.gloop (I:=puJ r p q i p[i]) q.length ⟨0,by omega,by omega,hw,rfl⟩ ?_;rintro n0 s B ⟨k,hk,rfl,hw,rfl⟩;refine MR.weak hw ?_;unfold g.o9;refine MR.gseq ?_;simp[puT,mkSt,go_sem];by_cases hlt:k<q.length
 ·refine MR.gseq' (MR.gcond (t:=true) (by simp[go_sem,hlt]) (fun _=>MR.gnop ⟨fun _=>?_,fun h=>absurd rfl h⟩) (fun h=>by cases h));simp[go_sem];refine MR.gseq' (MR.gblk (MR.gseq ?_));simp[go_sem];refine zae hlt ?_;refine MR.gseq ?_;simp[go_sem];refine MR.gseq ?_;have eok:∀ {e:Ex},e.ok=true->(0<=e.a/\e.a<=5)/\(0<=e.b/\e.b<=5)/\0<=e.c/\e.c<=5:=fun h=>by rw[Ex.ok_iff]at h;omega
  have o1:=eok (GMono.ok_iff.1 (vp i hi).1).1;have o2:=eok (GMono.ok_iff.1 (vq k hlt).1).1;have ea:IntKind.i64.wrap (p[i].e.a+q[k].e.a)=p[i].e.a+q[k].e.a:=i64w (by omega) (by omega);have eb:IntKind.i64.wrap (p[i].e.b+q[k].e.b)=p[i].e.b+q[k].e.b:=i64w (by omega) (by omega);have ec:IntKind.i64.wrap (p[i].e.c+q[k].e.c)=p[i].e.c+q[k].e.c:=i64w (by omega) (by omega);simp[go_sem];refine zam fun R3 hn3 hr3 hx3=>?_;simp[g.nt,go_sem,ea];refine hn3 _ ?_;clear hn3 hx3 hr3;refine zam fun R3 hn3 hr3 hx3=>?_;simp[g.nt,go_sem,eb];refine hn3 _ ?_;clear hn3 hx3 hr3;refine zam fun R3 hn3 hr3 hx3=>?_;simp[g.nt,go_sem,ec];refine hn3 _ ?_;clear hn3 hx3 hr3;refine zam fun R3 hn3 hr3 hx3=>?_;simp[g.nt,go_sem];refine hx3 _ _ ?_;clear hn3 hx3 hr3;simp[go_sem];refine MR.gregD rfl (by decide) ?_;simp[go_sem];have sp1:=GRat.sm.mono (h.hp _ (yl4 hi)) (show 524288<=1048576 by omega);have sq1:=GRat.sm.mono (h.hq _ (yl4 hlt)) (show 524288<=1048576 by omega);refine zaa (z2l p[i].coef q[k].coef sp1 sq1) rfl ?_;simp[go_sem];have hL:=yat (k:=k) hi (h.hm i k hi) (zia _ (zbu _ _));refine zts (args:=[enc (p[i].e.add q[k].e),enc (rto (p[i].coef.v*q[k].coef.v))]) (zzt (p[i].mulE q[k]) _ ⟨⟨by show 0<=p[i].e.a+q[k].e.a;omega,by show p[i].e.a+q[k].e.a<=10;omega⟩,⟨by show 0<=p[i].e.b+q[k].e.b;omega,by show p[i].e.b+q[k].e.b<=10;omega⟩,by show 0<=p[i].e.c+q[k].e.c;omega,by show p[i].e.c+q[k].e.c<=10;omega⟩ ((zpk (h.hp _ (yl4 hi)) (h.hq _ (yl4 hlt)) (by omega)).mono (by omega)) hL) (by simp[go_sem,Ex.add]) (zre _) (zrd _) ?_;simp[go_sem];refine⟨fun _=>MR.of_vm ?_,fun h=>absurd rfl h⟩;have e3:=i64s k (by omega);simp[go_sem,e3];refine⟨_,?_,k+1,by omega,rfl,Weak.to [1,5,7,14,15,16,21,22,23] [((2,0),2)] (by simp[puT,mkSt,go_sem]),?_⟩
  ·omega
  ·simp only[puB];rw[yjy hi hlt,z4j]
 ·have hk':k=q.length:=by omega
  refine MR.gseq' (MR.gcond (t:=false) (by simp[go_sem,hlt]) (fun h=>by cases h) (fun _=>MR.gext ⟨fun h=>(by cases h),fun _=>⟨fun h=>(by cases h),fun _=>⟨rfl,?_,?_⟩⟩⟩))
  ·exact Weak.to [1,5,7,14,15,16,21,22,23] [((2,0),2)] (by simp[puT,mkSt,go_sem,hk'])
  ·rw[hk']
theorem ztc:∀ p q:List GMono,(ze4 p q).length=p.length*q.length
 | [],q=>by simp[ze4]
 | m::p,q=>by rw[show ze4 (m::p) q=q.map m.mulE++ze4 p q from rfl,yo4,ymx,ztc p q,yn6,ym9];omega
theorem zz1(p q:List GMono)(vp:PVal p)(vq:PVal q)(h:pmOk p q):Sp P F.me [.sl (ens p),.sl (ens q)] (.pure (.sl (ens (pmul p q)))):=by
 have lp:=za7 vp;have lq:=za7 vq;have sp1:psm p 1048576:=fun m hm=>GRat.sm.mono (h.hp m hm) (by omega);have sq1:psm q 1048576:=fun m hm=>GRat.sm.mono (h.hq m hm) (by omega);refine Sp.of_mr c.me (by simp) ?_;unfold g.me;generalize hP:(fun ex s (_:Option FA)=>retP [(4,none)] (RV.pure (.sl (ens (pmul p q)))) ex s)=Post;refine MR.gseq ?_;simp[go_sem];refine MR.gseq' (MR.greg (MIns.cons (znj fun r=>?_)));refine zff [[12]] ?_;simp[go_sem];refine MR.gseq' (MR.gseq ?_);simp[go_sem];refine zaa (zjm p sp1 (by omega)) rfl ?_;simp[go_sem,zoq vp];refine MR.gblk (MR.mono (MR.gloop (Post:=puE r p q) (I:=puI r p q) p.length ⟨0,by omega,by omega,Weak.to [1,5,14,15,16] [] (by simp[puS,mkSt,go_sem]),by simp[puB,yfy,zf8,mks,mvs]⟩ ?_) ?_)
 ·rintro n0 s B ⟨i,hi,rfl,hw,rfl⟩;refine MR.weak hw ?_;unfold g.se;refine MR.gseq ?_;simp[puS,mkSt,go_sem];by_cases hlt:i<p.length
  ·refine MR.gseq' (MR.gcond (t:=true) (by simp[go_sem,hlt]) (fun _=>MR.gnop ⟨fun _=>?_,fun h=>absurd rfl h⟩) (fun h=>by cases h));simp[go_sem];refine MR.gseq' (MR.gblk (MR.gseq ?_));simp[go_sem];refine zae hlt ?_;refine MR.gseq ?_;simp[go_sem];refine zaa (zjm q sq1 (by omega)) rfl ?_;simp[go_sem,zoq vq];refine MR.gblk (MR.mono (yjx r p q vp vq h lp lq hlt (Weak.to [1,5,7,14,15,16,21,22,23] [((7,0),2)] (by simp[puT,mkSt,go_sem]))) ?_);rintro ex s B ⟨rfl,hw,rfl⟩;have e3:=i64s i (by omega);refine⟨fun _=>MR.weak hw (MR.of_vm ?_),fun h=>absurd rfl h⟩;simp[puT,mkSt,go_sem,e3];refine⟨_,?_,i+1,by omega,rfl,Weak.to [1,5,14,15,16] [] (by simp[puS,mkSt,go_sem]),?_⟩
   ·omega
   ·simp only[puB];rw[yfx hlt]
  ·have hk':i=p.length:=by omega
   refine MR.gseq' (MR.gcond (t:=false) (by simp[go_sem,hlt]) (fun h=>by cases h) (fun _=>MR.gext ⟨fun h=>(by cases h),fun _=>⟨fun h=>(by cases h),fun _=>⟨rfl,?_,?_⟩⟩⟩))
   ·exact Weak.to [1,5,14,15,16] [] (by simp[puS,mkSt,go_sem,hk'])
   ·rw[hk']
 ·rintro ex s B ⟨rfl,hw,rfl⟩;refine⟨fun _=>?_,fun h=>absurd rfl h⟩;have hfin:=minv (okE (ze4 p q));have hsm:∀ x∈zf8 (okE (ze4 p q)) [],x.2.sm 1048576:=by
   rw[<- z24];cases hpl:p.length with
   | zero=>intro x hx;rw[yfy]at hx;cases hx
   | succ n =>
    have:=yat (p:=p) (q:=q) (k:=q.length) (i:=n) (by omega) (h.hm n q.length (by omega)) (zia _ (zbu _ _));rw[yfx (by omega)]at this;exact fun x hx=>(this x hx).2
  unfold puB;rw[z24];refine MR.weak hw (MR.freeze (t:=5) rfl ?_);refine MR.of_vm ?_;subst hP;simp[puS,mkSt,go_sem];have hpl:=za7 (zbu p q);have hlen:(okE (ze4 p q)).length<=46656:=by
   have h1:(ze4 p q).length=p.length*q.length:=by exact ztc p q
   have h2:=yma lp lq;have h3:(okE (ze4 p q)).length<=(ze4 p q).length:=yni _ _;omega
  refine zcw (zpb r (zf8 (okE (ze4 p q)) []) (fun x hx=>GRat.sm.mono (hsm x hx) (by omega)) hfin.nod (by have:=hfin.len;omega) (pmul p q) (z21 hfin) (zvk (zbu p q))) (by simp[go_sem]) ⟨zej _ _ rfl,by decide,by simp[ens,LIM];omega⟩ _ rfl ?_;simp[go_sem,killAll]
theorem zxl(v w:GW)(hv:v.sm 1048576)(hw:w.sm 1048576):Sp P F.bi [enc v,enc w] (.pure (enc (zao 1 v w))):=by refine Sp.vz c.bi fun _=>?_;simp[g.bi,go_sem];refine zaa (z2l v.q w.q hv.q hw.q) rfl ?_;simp[go_sem,zao]
theorem z7m(v w:GW):Sp P F.dh [enc v,enc w] (.pure (enc (zao 4 v w))):=by refine Sp.vz c.dh fun _=>?_;simp[g.dh,go_sem,zao,zuq]
theorem z9x(v w:GW)(hv:v.si 2)(hw:w.si 2):Sp P F.bj [enc v,enc w] (.pure (enc (zao 2 v w))):=by
 refine Sp.vz c.bj fun _=>?_;have r1:=si2.1 hv;have r2:=si2.1 hw;have e1:IntKind.i64.wrap (v.cost+w.cost)=v.cost+w.cost:=i64w (by omega) (by omega);rcases ym0 v.inf with h1|h1
 ·simp[g.bj,zao,h1,go_sem,gr0]
 rcases ym0 w.inf with h2|h2
 ·simp[g.bj,zao,h1,h2,go_sem,gr0]
 simp[g.bj,zao,h1,h2,e1,go_sem];refine⟨fun h3=>by simp[h3,go_sem,gr0],fun h3=>by simp[show ¬ 1099511627776<v.cost+w.cost by omega,go_sem,gr0]⟩
theorem z2z(v w:GW)(pv':PVal v.poly)(pw:PVal w.poly)(h:pmOk v.poly w.poly):Sp P F.fh [enc v,enc w] (.pure (enc (zao 5 v w))):=by refine Sp.vz c.fh fun _=>?_;simp[g.fh,go_sem];refine zaa (zz1 v.poly w.poly pv' pw h) rfl ?_;simp[go_sem,zao,gr0]
theorem zsx(k:Int)(hk:1<=k/\k<=5)(v w:GW)(hv:v.sm 1048576)(hw:w.sm 1048576)(sv:v.si k)(sw:w.si k)(h5:k=5->pmOk v.poly w.poly):Sp P (kF4 k) [enc v,enc w] (.pure (enc (zao k v w))):=by
 have:k=1\/k=2\/k=3\/k=4\/k=5:=by omega
 rcases this with rfl|rfl|rfl|rfl|rfl
 ·exact zxl v w hv hw
 ·exact z9x v w sv sw
 ·have e:zao 3 v w=zao 1 v w:=by rw[zao,zao];simp
  rw[e];exact zxl v w hv hw
 ·exact z7m v w
 ·exact z2z v w (sv.2.2.2.2.2.2.2.2 rfl) (sw.2.2.2.2.2.2.2.2 rfl) (h5 rfl)
theorem z63(r:GRing)(v w:GW)(hv:v.sm 1048576)(hw:w.sm 1048576)(cv:v.chk r)(cw:w.chk r)(h6:r.kind≠6)(h5:r.kind=5->pmOk v.poly w.poly):Sp P F.ay [enc r,enc v,enc w] (.pure (enc (zao r.kind v w))):=by have hr0:=cv.1;have hk:=GRing.ok_kind hr0 h6;have t1:v.tk r=v:=yl0 cv;have t2:w.tk r=w:=yl0 cw;have k1:=zdy r v hv;have k2:=zdy r w hw;rw[t1]at k1;rw[t2]at k2;refine Sp.vz c.ay fun _=>?_;simp[g.ay,go_sem];refine zaa (ze0 r) rfl ?_;simp[hr0,go_sem];refine zab k1 ?_;simp[go_sem];refine zab k2 ?_;simp[go_sem,h6];obtain⟨f5,f6,f7,f8,c5,c8,hA⟩:=zet r.kind ⟨hk.1,hk.2.1⟩;refine zaa (zku r.kind ⟨hk.1,hk.2.1⟩) rfl ?_;simp[hA,go_sem];refine zab (zsx r.kind ⟨hk.1,hk.2.1⟩ v w hv hw (cv.2.1 h6) (cw.2.1 h6) h5) ?_;simp[go_sem]
theorem zzq(k:Int)(hk:1<=k/\k<=5)(v w:GW)(i:Nat)(iv:i<v.parts.length)(iw:i<w.parts.length)(hi:i<=3)(hv:v.parts[i].sm 1048576)(hw:w.parts[i].sm 1048576)(sv:v.parts[i].si k)(sw:w.parts[i].si k)(h5:k=5->pmOk v.parts[i].poly w.parts[i].poly) :
  Sp P F.gr [zns k,.int .i64 i,.ref (enc v),.ref (enc w)] (.pure (enc (zao k v.parts[i] w.parts[i]))):=by
 obtain⟨f5,f6,f7,f8,c5,c8,hA⟩:=zet k hk;rw[hA];refine Sp.of_vmW c.gr (by simp) ((Weak.openRef (t:=2) (v:=enc v) (n:=8) (by simp[go_sem]) (by simp[go_sem])).trans (Weak.openRef (t:=3) (v:=enc w) (n:=8) (by simp[go_sem]) (by simp[go_sem]))) ?_;simp[g.gr,go_sem];refine zae iv ?_;refine zae iw ?_;refine zab (zsx k hk v.parts[i] w.parts[i] hv hw sv sw h5) ?_;simp[go_sem]
theorem z1r(r:GRing)(v w:GW)(hv:v.sm 1048576)(hw:w.sm 1048576)(cv:v.chk r)(cw:w.chk r)(h5:r.kind=5->pmOk v.poly w.poly)(h6':∀ i (h:i<r.parts.length) (h1:i<v.parts.length) (h2:i<w.parts.length),r.parts[i]=5->pmOk v.parts[i].poly w.parts[i].poly) :
  Sp P F.ay [enc r,enc v,enc w] (.pure (enc (r.times v w))):=by
 have hr0:=cv.1;by_cases h6:r.kind=6;rotate_left
 ·have h1:r.times v w=zao r.kind v w:=by simp[GRing.times,h6]
  rw[h1];exact z63 r v w hv hw cv cw h6 h5
 have hp:=GRing.ok_parts hr0 h6;have t1:v.tk r=v:=yl0 cv;have t2:w.tk r=w:=yl0 cw;have k1:=zdy r v hv;have k2:=zdy r w hw;rw[t1]at k1;rw[t2]at k2;have lv:=(cv.2.2 h6).1;have lw:=(cw.2.2 h6).1;have lp:(zcq r.parts v.parts w.parts).length=r.parts.length:=zaz lv lw;refine Sp.vz c.ay fun _=>?_;simp[g.ay,go_sem];refine zaa (ze0 r) rfl ?_;simp[hr0,go_sem];refine zab k1 ?_;simp[go_sem];refine zab k2 ?_;simp[go_sem,h6];refine zaa (zwn r hp.2.2 hp.2.1 F.gr [.ref (enc v),.ref (enc w)] (zcq r.parts v.parts w.parts) lp fun i h h'=>?_) ?_ ?_
 ·rw[za9 h (by omega) (by omega) h'];exact zzq r.parts[i] (hp.2.2 _ (yl4 h)) v w i (by omega) (by omega) (by omega) (hv.parts _ (yl4 _)) (hw.parts _ (yl4 _)) ((cv.2.2 h6).2.2 i h (by omega)) ((cw.2.2 h6).2.2 i h (by omega)) (h6' i h (by omega) (by omega))
 ·simp[go_sem,zjb,zqq,h6]
 simp[go_sem,GRing.times,h6]
end Go.Ab
namespace Go.Ab
open Enc (enc)
attribute [local go_sem] zal Opd.slots
theorem zj4{I J N i:Nat}(h:i<I):(famR I J N)[i]?.getD none=some ⟨1,(List.range J).map (rowV N (i*J))⟩:=by rw[zy0 h];rfl
theorem zj5{T:List (List GW)}{p:Nat}(h:p<T.length):(famC T)[p]?.getD none=some ⟨8,avs (T.getD p [])⟩:=by rw[z9j h];rfl
theorem zzs(t:GTrans)(wx wy:List Int)(I J N:Nat)(T:List (List GW))(i j q:Nat)(hi:i<I)(hj:j<J)(hp:i*J+j<T.length)(hq:q<N)(hrow:(T.getD (i*J+j) []).length=N)(w:GW)
  (hplus:Sp P F.ap [enc t.ring,enc ((T.getD (i*J+j) []).getD q t.ring.zero),enc w] (.pure (enc (t.ring.plus ((T.getD (i*J+j) []).getD q t.ring.zero) w)))) :
  HSp P F.j9 [.ptr 900000 0 0 0,.p (.int .i64 i),.p (.int .i64 j),.p (.int .i64 q),.p (enc w)] (hpT t wx wy I J N T) (.tup []) (hpT t wx wy I J N (adT t.ring T (i*J+j) q w)):=by
 refine HSp.of_mr c.j9 (by simp) (by simp[hpT,PINB]) (by simp[hpT]) ?_ fun A hA=>?_
 ·show(true&&hpOk [900000,900001,900002,900003] (hpT t wx wy I J N (adT t.ring T (i*J+j) q w)))=true;rw[zp8];rfl
 ·have e1:=zj4 (N:=N) (J:=J) hi;have e2:=zj5 hp;have hA':adT t.ring T (i*J+j) q w=T.set (i*J+j) ((T.getD (i*J+j) []).set q (t.ring.plus ((T.getD (i*J+j) []).getD q t.ring.zero) w)):=rfl;rw[hA'];generalize T.getD (i*J+j) []=row at *
  have hql:q<row.length:=by omega
  have hgq:row.getD q t.ring.zero=row[q]:=by rw[ylr,ylt hql];rfl
  rw[hgq]at hplus ⊢;refine MR.of_vm ?_;have r1:(List.map (outV J) (List.range I))[i]?=some (outV J i):=by rw[yme,ync hi];rfl
  have r2:(List.map (rowV N (i*J)) (List.range J))[j]?=some (rowV N (i*J) j):=by rw[yme,ync hj];rfl
  simp[g.j9,go_sem,zeg,hpT,tabV];refine⟨fun _=>⟨hi,?_⟩,fun h=>absurd hi (by omega)⟩;rw[zbx];refine⟨_,r1,?_⟩;simp[go_sem,outV,e1,hi,hj];rw[zbx];refine⟨_,r1,?_⟩;simp[go_sem,outV,e1,hi,hj];rw[zbx];refine⟨_,r2,?_⟩;simp[go_sem,rowV,e1,e2,hi,hj];rw[zbx];refine⟨_,r1,?_⟩;simp[go_sem,outV,e1,hi,hj];rw[zbx];refine⟨_,r2,?_⟩;simp[go_sem,rowV,e1,e2,hi,hj,hrow,hq];refine zae hql ?_;refine zab hplus ?_;simp[go_sem,rowV,e1,e2,hi,hj,hrow,hq];refine zae hql ?_;have hs:(famC T).set (i*J+j) (some ⟨8,(avs row).set q (.p (enc (t.ring.plus row[q] w)))⟩)=famC (T.set (i*J+j) (row.set q (t.ring.plus row[q] w))):=by rw[<- z9i];congr 3;simp[avs,ens,yq9]
  refine⟨.inr rfl,_,Weak.refl _,[],rfl,rfl,?_⟩;simp only[ygx]at hs;simp[zo3,St.site,look,hs]
theorem ybp(l:Int)(h:0<=l/\l<=64):Sp P F.d4 [.int .i64 l] (.pure (.int .i64 (if l=0 then 0 else 1))):=by refine Sp.vz c.d4 fun _=>?_;simp[g.d4,go_sem];split<;>split<;>omega
theorem zi5(w:List Int)(m:Int)(hl:w.length<=1000000):Sp P F.bm [.sl (ens w),.int .i64 m] (.pure (.bool (decide ((1<=m/\m<=32)/\w.length<=256/\∀ x∈w,1<=x/\x<=m)))):=by
 refine Sp.vz c.bm fun _=>?_;simp[g.bm,go_sem]
 refine zai (S:=fun k:Nat=>mkSt [(0,.p (.sl (ens w))),(1,.p (.int .i64 m)),(7,.p (.sl (ens w))),(8,.p (.int .i64 w.length)),(9,.p (.int .i64 k))] []) (I:=fun k=>k<=w.length/\∀ i,(h:i<w.length)->i<k->1<=w[i]/\w[i]<=m) (m:=fun k=>w.length - k) 0
  (Weak.to [0,1,7,8,9] [] (by simp[go_sem])) ⟨by omega,fun i _ h=>by omega⟩ ?_
 rintro k ⟨h1,h2⟩ R hn hr hx;have e1:=i64s k (by omega);simp[g.ox,mkSt,go_sem];refine⟨fun hk=>zae hk ?_,fun hk=>hx _ _ ?_⟩
 ·have hf:∀ h:w[k]<1\/m<w[k],¬ ∀ x∈w,1<=x/\x<=m:=fun h hh=>by have:=hh w[k] (yl4 hk);omega
  refine⟨fun h=>hr _ (by simp[go_sem,hf (.inl h)]),fun h=>⟨fun h'=>hr _ (by simp[go_sem,hf (.inr h')]),fun h'=>hn (k+1) _ (Weak.to [0,1,7,8,9] [] (by simp[go_sem,e1])) ⟨by omega,fun i hi hik=>?_⟩ (by omega)⟩⟩;by_cases e:i=k
  ·subst e;exact⟨h,h'⟩
  ·exact h2 i hi (by omega)
 ·have hk':k=w.length:=by omega
  have ha:∀ x∈w,1<=x/\x<=m:=fun x hx=>by obtain⟨i,hi,rfl⟩:=ynb.1 hx;exact h2 i hi (by omega)
  have hd:decide (∀ x∈w,1<=x/\x<=m)=true:=decide_eq_true ha;simp[go_sem,hd];refine⟨fun h1=>⟨fun h2=>by simp[h1,h2];omega,fun h2 _ h3=>by omega⟩,fun h1 h2=>by omega⟩
theorem yct(n:Nat)(h:n<4294967296):Sp P F.l7 [.int .u64 1,.int .u64 n] (.pure (.tup [.int .u64 0,.int .u64 n])):=by
 refine Sp.vz c.l7 fun _=>?_;have a1:andI .u64 1 4294967295=1:=by decide +kernel
 have a2:andI .u64 (n:Int) 4294967295=n:=by
  have:=zzd (x:=n) (y:=4294967295) (by omega) (by omega);have e:n &&& 4294967295=n:=by have:=Nat.and_two_pow_sub_one_eq_mod n 32;rw[show(2:Nat)^32 - 1=4294967295 from rfl]at this;rw[this];exact yn8 h
  rw[e]at this;exact this
 have a3:andI .u64 0 4294967295=0:=by decide +kernel
 have e:(n:Int) % 18446744073709551616 / 4294967296 % 18446744073709551616=0:=by omega
 simp[g.l7,go_sem,a1,a2,e,a3];omega
theorem z99(n:Nat)(h:n<4294967296):Sp P F.k9 [.int .u64 1,.int .u64 n] (.pure (.tup [.int .u64 0,.int .u64 n])):=by refine Sp.vz c.k9 fun _=>?_;simp[g.k9,go_sem];refine zaa (yct n h) rfl ?_;simp[go_sem]
theorem z71(Z G:AV)(m t k:Nat)(ht:t<=k):List.replicate m Z++(List.replicate t Z++(List.replicate m Z++List.replicate k G).drop (m+t))=List.replicate (m+t) Z++List.replicate (k - t) G:=by rw[yq0,yr3,List.length_replicate,yr3,show m - (m+t)=0 by omega,show k - (m+t - m)=k - t by omega,List.replicate_zero,yno,<- List.append_assoc,yr5]
def gz:AV:=.p (.agg [.bool false,.sl [],.sl [],.int .i64 0,.bool false,.int .u64 0,.sl [],.sl []])
theorem z2n(z:GW)(n:Nat)(h:n<=1000):Sp P F.j8 [.sl [enc z],.int .i64 n] (.fresh 8 (ens (List.replicate n z))):=by
 refine Sp.vz c.j8 fun _=>?_;have c1:(n:Int) % 18446744073709551616=n:=by omega
 simp[g.j8,go_sem,c1];refine zaa (z99 n (by omega)) rfl ?_;have c2:IntKind.i64.wrap (n:Int)=n:=i64w (by omega) (by omega);simp[go_sem,c2];refine⟨by omega,fun _=>⟨by omega,?_⟩⟩
 refine zai (S:=fun m:Nat=>mkSt [(7,.own 1 0 0 n),(8,.p (.int .i64 m))] [(1,⟨8,avs (List.replicate m z)++List.replicate (n - m) gz⟩)]) (I:=fun m=>m<=n/\(n=0\/1<=m)) (m:=fun m=>n - m) (min 1 n)
  (Weak.to [7,8] [((30,0),1)] ?_) (by omega) ?_
 ·rcases yo6 n with h0|h0
  ·subst h0;simp[mkSt,go_sem]
  ·have e1:min 1 n=1:=by omega
   simp[mkSt,go_sem,e1,gz,avs]
 rintro m ⟨h1,h2⟩ R hn hr hx;simp[g.ra,mkSt,go_sem];refine⟨fun hm=>?_,fun hm=>hx _ _ ?_⟩
 ·have e:IntKind.i64.wrap ((m:Int)+((min m (n - m):Nat):Int))=((m+min m (n - m):Nat):Int):=(i64w (by omega) (by omega)).trans (by omega);rw[z71 _ gz m (min m (n - m)) (n - m) (by omega)];refine⟨by omega,?_,hn (m+min m (n - m)) _ (Weak.to [7,8] [((1,0),1)] (by simp[mkSt,go_sem,e,Nat.sub_sub,gz])) ⟨by omega,by omega⟩ (by omega)⟩;exact⟨by rw[ymt];intro v hv;rw[(yo7.1 hv).2];rfl,by omega⟩
 ·have:m=n:=by omega
  subst this;simp[go_sem]
theorem z6r(r:GRing)(n:Nat)(h:n<=1000):Sp P F.ju [enc r,.int .i64 n] (.fresh 8 (ens (List.replicate n r.zero))):=by
 refine Sp.vz c.ju fun _=>?_;simp[g.ju,go_sem];refine zaa (zgh r) rfl ?_;simp[go_sem];refine zcw (z2n r.zero n h) (by simp[go_sem]) ⟨zej _ _ rfl,by decide,by simp[ens,LIM];omega⟩ _ rfl ?_;cases hfl:(ens (List.replicate n r.zero)).all PV.flat
 ·simp[go_sem,killAll]
 ·simp[go_sem]
def tabP(t:GTrans)(wx wy:List Int)(at':PV):PV:=.agg [.int .i64 t.ring.kind,.sl (ens t.ring.parts),.int .i64 t.i,.int .i64 t.o,.int .i64 t.st,.sl (ens t.ini),.sl (ens t.fin),.sl (ens t.arcs),.sl (ens wx),.sl (ens wy),at']
theorem ydd(t:GTrans)(wx wy:List Int)(at':PV)(x:GTArc)(i k:Nat):Sp P F.bf [.ref (tabP t wx wy at'),enc x,.int .i64 i,.int .i64 k] (.pure (.bool (decide ((x.i=0\/wx[i]?=some x.i)/\(x.o=0\/wy[k]?=some x.o))))):=by
 refine Sp.of_vmW c.bf (by simp) (Weak.openRef (t:=0) (v:=tabP t wx wy at') (n:=11) (by simp[tabP,go_sem]) (by simp[tabP,go_sem])) ?_;by_cases a:x.i=0
 ·by_cases b:x.o=0
  ·simp(maxSteps:=1000000) [g.bf,go_sem,tabP,a,b]
  ·by_cases c:k<wy.length
   ·simp(maxSteps:=1000000) [g.bf,go_sem,tabP,a,b,c];refine zae c ?_;exact eq_comm
   ·simp(maxSteps:=1000000) [g.bf,go_sem,tabP,a,b,c]
 ·by_cases d:i<wx.length
  ·simp(maxSteps:=1000000) [g.bf,go_sem,tabP,a,d];refine zae d ?_;refine⟨fun h=>⟨fun b=>⟨h.symm,.inl b⟩,fun b=>⟨fun c=>zae c ?_,fun c _=>⟨b,by simp[yn4 c]⟩⟩⟩,fun h h'=>absurd h'.symm h⟩;simp[h,b,ylt c,eq_comm]
  ·simp(maxSteps:=1000000) [g.bf,go_sem,tabP,a,d]
theorem z4i{α β : Type}{f : α -> Option β}{g : α -> β}:∀ {l:List α},(∀ x∈l,f x=some (g x))->l.mapM f=some (l.map g)
 | [],_=>rfl
 | x::l,h=>by rw[ynu,h x ymq,z4i fun y hy=>h y (ym8 _ hy)];rfl
theorem zmq(n:Nat)(st:St)(s g off len:Nat):toPV st (n+1) (.own s g off len)=match st.obj s g with
  | some o=>if off+len<=o.es.length then(((o.es.drop off).take len).mapM (toPV st n)).map .sl else none
  | none=>none:=rfl
theorem z1n(n:Nat)(st:St)(s g:Nat):toPV st (n+1) (.ptr s g 0 0)=match st.obj s g with
  | some o=>match o.es with
   | [e]=>(toPV st n e).map .ref
   | _=>none
  | none=>none:=rfl
def yd0(J:Nat)(T:List (List GW))(i j:Nat):PV:=.sl (ens (T.getD (i*J+j) []))
def rowP(J:Nat)(T:List (List GW))(i:Nat):PV:=.sl ((List.range J).map (yd0 J T i))
def tabA(I J:Nat)(T:List (List GW)):PV:=.sl ((List.range I).map (rowP J T))
theorem z6y{st:St}{t:GTrans}{wx wy:List Int}{I J N:Nat}{T:List (List GW)}(h:zo3 st (hpT t wx wy I J N T) (hpT t wx wy I J N T))(hl:T.length=I*J)(hN:∀ l∈T,l.length=N) :
  toPV st FUEL (.ptr 900000 0 0 0)=some (.ref (tabP t wx wy (tabA I J T))):=by
 obtain⟨h0,h1,h2,h3,_⟩:=h;have s0:st.obj 900000 0=some ⟨11,[tabV t wx wy I]⟩:=by unfold St.obj;rw[show st.site 900000=_ from h0];rfl
 have s1:st.obj 900001 0=some ⟨1,(List.range I).map (outV J)⟩:=by unfold St.obj;rw[show st.site 900001=_ from h1];rfl
 have s2:∀ i,i<I->st.obj 900002 i=some ⟨1,(List.range J).map (rowV N (i*J))⟩:=fun i hi=>by unfold St.obj;rw[show st.site 900002=_ from h2];exact zj4 hi
 have s3:∀ p,p<T.length->st.obj 900003 p=some ⟨8,avs (T.getD p [])⟩:=fun p hp=>by unfold St.obj;rw[show st.site 900003=_ from h3];exact zj5 hp
 have c3:∀ i j,i<I->j<J->toPV st 2 (rowV N (i*J) j)=some (yd0 J T i j):=fun i j hi hj=>by
  have hp:i*J+j<T.length:=by have:=ylw J (ypf hi);rw[ym9]at this;omega
  have hn:(T.getD (i*J+j) []).length=N:=by rw[ylr,ylt hp];exact hN _ (yl4 hp)
  unfold rowV;rw[zmq,s3 _ hp];simp only[yog,ymm,zk6,hn,yl8,yl2];rw[ylv (by rw[zk6,hn];exact yl8 _),zrm];rfl
 have c2:∀ i,i<I->toPV st 3 (outV J i)=some (rowP J T i):=fun i hi=>by unfold outV;rw[zmq,s2 _ hi];simp only[yog,ymm,ymx,List.length_range,yl8,yl2];rw[ylv (by simp),List.mapM_map,z4i (f:=toPV st 2∘rowV N (i*J)) (g:=yd0 J T i) fun j hj=>c3 i j hi (ymh.1 hj)];rfl
 have c1:toPV st 4 (.own 900001 0 0 I)=some (tabA I J T):=by rw[zmq,s1];simp only[yog,ymm,ymx,List.length_range,yl8,yl2];rw[ylv (by simp),List.mapM_map,z4i (f:=toPV st 3∘outV J) (g:=rowP J T) fun i hi=>c2 i (ymh.1 hi)];rfl
 rw[FUEL,z1n,s0];show(toPV st 5 (tabV t wx wy I)).map PV.ref=_;have:toPV st 5 (tabV t wx wy I)=some (tabP t wx wy (tabA I J T)):=by unfold tabV tabP;show(List.mapM (toPV st 4) _).map PV.agg=_;simp only[ynu,List.mapM_nil,c1];rfl
 rw[this];rfl
end Go.Ab
namespace Go.Ab
open Enc (enc)
def T100:Nat:=2^100
theorem yae:0<T100:=ymv (by omega)
theorem z6o:T100<4294967296^4:=by unfold T100;decide +kernel
structure LB (E H s:Nat):Prop where
 e:0<E
 h:T100*E<=H
 el:E<4294967296^s
 hl:H<4294967296^(s+8)
 s:s<=4000
def qL(E H n:Nat)(q:Rat):Prop:=∃ B,qb (E^(n / 100)) B q/\46656*B<=H^(n / 100)*2^(n % 100)
section
variable {E H s:Nat} (L:LB E H s)
include L in
theorem LB.ene(n:Nat):E^n≠0:=yps.1 (ymv L.e)
include L in
theorem yb6:∀ (c k a B:Nat) {q:Rat},k<100*c+100->qb (E^a) B q->46656*B<=H^a*2^k->qL E H (100*a+k) q
 | 0,k,a,B,q,hk,h1,h2=>by
  have e1:(100*a+k) / 100=a:=by omega
  have e2:(100*a+k) % 100=k:=by omega
  exact⟨B,by rw[e1];exact h1,by rw[e1,e2];exact h2⟩
 | c+1,k,a,B,q,hk,h1,h2=>by
  by_cases hlt:k<100
  ·exact yb6 0 k a B (by omega) h1 h2
  ·have h3:=zfb E (yps.1 L.e) h1;rw[<- Nat.pow_succ]at h3;have h4:46656*(B*E)<=H^(a+1)*2^(k - 100):=by
    have e1:2^k=2^(k - 100)*T100:=by unfold T100;rw[<- Nat.pow_add];congr 1;omega
    calc 46656*(B*E)=46656*B*E:=by rw[ym5]
     _<=H^a*2^k*E:=ylw _ h2
     _=H^a*2^(k - 100)*(T100*E):=by rw[e1];simp only[ym5]
     _<=H^a*2^(k - 100)*H:=yn9 _ L.h
     _=H^(a+1)*2^(k - 100):=by rw[ym2];ac_rfl
   have:=yb6 c (k - 100) (a+1) (B*E) (by omega) h3 h4;have e:100*(a+1)+(k - 100)=100*a+k:=by omega
   rwa[e]at this
include L in
theorem z74(k a B:Nat){q:Rat}(h1:qb (E^a) B q)(h2:46656*B<=H^a*2^k):qL E H (100*a+k) q:=yb6 L k k a B (by omega) h1 h2
include L in
theorem zq1{m n:Nat}{q:Rat}(h:qL E H m q)(k:m<=n):qL E H n q:=by
 obtain⟨B,h1,h2⟩:=h;obtain⟨j,rfl⟩:=Nat.le.dest k;have:=z74 L (m % 100+j) (m / 100) B h1 (ylq h2 (yn9 _ (ymn (by omega) (by omega))));have e:100*(m / 100)+(m % 100+j)=m+j:=by omega
 rwa[e]at this
theorem zgo(n:Nat):qL E H n 0:=⟨0,zis _,by omega⟩
include L in
theorem yan{m:Nat}{p q:Rat}(h:qL E H m p)(h':qL E H m q):qL E H (m+1) (p+q):=by
 obtain⟨B,h1,h2⟩:=h;obtain⟨B',h1',h2'⟩:=h';have:=z74 L (m % 100+1) (m / 100) (B+B') (zxo h1 h1' (L.ene _)) (by rw[ym2,<- Nat.mul_assoc];omega);have e:100*(m / 100)+(m % 100+1)=m+1:=by omega
 rwa[e]at this
theorem znh{A B C D:Nat}(h1:46656*A<=C)(h2:46656*B<=D):46656*(46656*(A*B))<=C*D:=by
 have:=yma h1 h2;have e:46656*A*(46656*B)=46656*(46656*(A*B)):=by ac_rfl
 omega
include L in
theorem yam{m n B:Nat}{q:Rat}(h1:qb (E^(m / 100)*E^(n / 100)) B q)(h2:46656*B<=H^(m / 100)*2^(m % 100)*(H^(n / 100)*2^(n % 100))):qL E H (m+n) q:=by
 rw[<- Nat.pow_add]at h1;have:=z74 L (m % 100+n % 100) (m / 100+n / 100) B h1 (by
  refine ylq h2 (Nat.le_of_eq ?_);rw[ym1,ym1];ac_rfl)
 have e:100*(m / 100+n / 100)+(m % 100+n % 100)=m+n:=by omega
 rwa[e]at this
include L in
theorem yfs{m n:Nat}{p q:Rat}(h:qL E H m p)(h':qL E H n q):qL E H (m+n) (p*q):=by obtain⟨B,h1,h2⟩:=h;obtain⟨B',h1',h2'⟩:=h';have hb:=znh h2 h2';exact yam L (yak h1 h1') (by omega)
def szN(s n:Nat):Nat:=(n / 100)*(s+8)+5
include L in
theorem L_D(n:Nat):E^(n / 100)<4294967296^szN s n:=by
 have h1:E^(n / 100)<=(4294967296^s)^(n / 100):=yqy (yop L.el) _;rw[<- Nat.pow_mul]at h1;refine yml h1 (yqg (by omega) ?_);unfold szN;have:s*(n / 100)<=(n / 100)*(s+8):=by rw[ymg];exact yn9 _ (by omega)
 omega
include L in
theorem L_HB(n:Nat):H^(n / 100)*2^(n % 100)<4294967296^szN s n:=by
 have h1:H^(n / 100)<=(4294967296^(s+8))^(n / 100):=yqy (yop L.hl) _;rw[<- Nat.pow_mul]at h1;have h2:2^(n % 100)<4294967296^4:=yml (show 2^(n % 100)<=T100 from ymn (by omega) (by omega)) z6o;have e:szN s n=(s+8)*(n / 100)+4+1:=by unfold szN;rw[ymg]
 rw[e,ym2,ym1];have h3:H^(n / 100)*2^(n % 100)<=4294967296^((s+8)*(n / 100))*4294967296^4:=yma h1 (yop h2);have h4:0<4294967296^((s+8)*(n / 100))*4294967296^4:=yod (ymv (by omega)) (ymv (by omega));omega
structure GW.lb1 (E H n:Nat) (w:GW):Prop where
 q:qL E H n w.q.v
 p:∀ e,qL E H n (pc w.poly e)
structure GW.lb (E H n:Nat) (w:GW):Prop where
 o:w.lb1 E H n
 ps:∀ x∈w.parts,x.lb1 E H n
include L in
theorem GW.lb1.mono{m n:Nat}{w:GW}(h:w.lb1 E H m)(k:m<=n):w.lb1 E H n:=⟨zq1 L h.q k,fun e=>zq1 L (h.p e) k⟩
include L in
theorem GW.lb.mono{m n:Nat}{w:GW}(h:w.lb E H m)(k:m<=n):w.lb E H n:=⟨h.o.mono L k,fun x hx=>(h.ps x hx).mono L k⟩
theorem zn1(n c i s):(GW.mk gr0 c i s [] []).lb1 E H n:=⟨by show qL E H n gr0.v;rw[zg9];exact zgo n,fun e=>zgo n⟩
theorem zr4(n c i s ps):(GW.mk gr0 c i s [] ps).lb1 E H n:=⟨by show qL E H n gr0.v;rw[zg9];exact zgo n,fun e=>zgo n⟩
theorem zht{n:Nat}{p:List GMono}(h:∀ e,qL E H n (pc p e)):pqb (E^(n / 100)) (H^(n / 100)*2^(n % 100) / 46656) p:=fun e=>by obtain⟨B,h1,h2⟩:=h e;exact zbl h1 ((yqc (by omega)).2 (by omega))
include L in
theorem zpf{k:Int}{w:GW}{n:Nat}(hs:w.si k)(h:w.lb1 E H n)(hn:216<=szN s n):w.sm (szN s n):=by
 have hq:=si_q hs;have hp:=si_p hs;cases w with
 | mk q c i t p ps =>
  have e:ps=[]:=hs.1;subst e;have hB:H^(n / 100)*2^(n % 100) / 46656<4294967296^szN s n:=yml (yoo _ _) (L_HB L n);have h1:q.sm (szN s n):=by
   obtain⟨B,b1,b2⟩:=h.q;have:=z2u b1 (L.ene _) (L_D L n) (yml (show B<=_ by omega) (L_HB L n))
   rwa[show rto (GW.q (GW.mk q c i t p [])).v=q from zg7 hq]at this
  have h2:psm p (szN s n):=zfq (zht h.p) hp (L.ene _) (L_D L n) hB;exact .mk h1 h2 (by have:p.length<=216:=za7 hp;omega) (by simp) (by simp)
include L in
theorem zg0{r:GRing}{w:GW}{n:Nat}(hc:w.chk r)(h:w.lb E H n)(hn:216<=szN s n):w.sm (szN s n):=by
 by_cases h6:r.kind=6
 ·obtain⟨l,e,hs⟩:=hc.2.2 h6;have hp:=GRing.ok_parts hc.1 h6;rw[e];refine .tup (by omega) fun x hx=>?_;obtain⟨i,hi,rfl⟩:=ynb.1 hx;exact zpf L (hs i (by omega) hi) (h.ps _ hx) hn
 ·exact zpf L (hc.2.1 h6) h.o hn
include L in
theorem zxu{k:Int}{v w:GW}{n:Nat}(sv:v.si k)(sw:w.si k)(hv:v.lb1 E H n)(hw:w.lb1 E H n):(zaq k v w).lb1 E H (n+1):=by
 unfold zaq;split
 ·exact⟨by show qL E H (n+1) (rto (v.q.v+w.q.v)).v;rw[zbf];exact yan L hv.q hw.q,fun e=>zgo _⟩
 ·split
  ·split
   ·exact hw.mono L (by omega)
   ·exact hv.mono L (by omega)
  ·split
   ·split
    ·exact hw.mono L (by omega)
    ·exact hv.mono L (by omega)
   ·split
    ·exact zn1 ..
    ·refine⟨by show qL E H _ gr0.v;rw[zg9];exact zgo _,fun e=>?_⟩;show qL E H (n+1) (pc (padd v.poly w.poly) e);rw[zfr v.poly (zak.1 (si_p sw)).1];exact yan L (hv.p e) (hw.p e)
include L in
theorem zsw{k:Int}{v w:GW}{m n:Nat}(sv:v.si k)(sw:w.si k)(hv:v.lb1 E H m)(hw:w.lb1 E H n):(zao k v w).lb1 E H (m+n+1):=by
 unfold zao;split
 ·exact⟨by show qL E H _ (rto (v.q.v*w.q.v)).v;rw[zbf];exact zq1 L (yfs L hv.q hw.q) (by omega),fun e=>zgo _⟩
 ·split
  ·split
   ·exact zn1 ..
   ·exact zn1 ..
  ·split
   ·exact zn1 ..
   ·refine⟨by show qL E H _ gr0.v;rw[zg9];exact zgo _,fun e=>?_⟩;show qL E H _ (pc (pmul v.poly w.poly) e);have pv:=si_p sv;have pw:=si_p sw;have h1:=zm7 (zdw (zht hv.p) pv) (zdw (zht hw.p) pw) (ynr (L.ene _) (L.ene _)) e;have l1:=za7 pv;have l2:=za7 pw;have b1:=yqj (H^(m / 100)*2^(m % 100)) 46656;have b2:=yqj (H^(n / 100)*2^(n % 100)) 46656;have hb:=znh b1 b2;refine zq1 L (yam L h1 (ylq (yn9 _ ?_) hb)) (by omega);generalize H^(m / 100)*2^(m % 100) / 46656*(H^(n / 100)*2^(n % 100) / 46656)=C;have h3:v.poly.length*(w.poly.length*C)<=216*(216*C):=yma l1 (ylw _ l2);omega
include L in
theorem yb9{r:GRing}{v w:GW}{n:Nat}(cv:v.chk r)(cw:w.chk r)(hv:v.lb E H n)(hw:w.lb E H n):(r.plus v w).lb E H (n+1):=by
 by_cases h6:r.kind=6
 ·have lv:=(cv.2.2 h6).1;have lw:=(cw.2.2 h6).1;have e:r.plus v w=.mk gr0 0 false 0 [] (zec r.parts v.parts w.parts):=by simp[GRing.plus,h6]
  rw[e];have hl:=zbe (ks:=r.parts) (vs:=v.parts) (ws:=w.parts) lv lw;refine⟨zr4 ..,fun x hx=>?_⟩;obtain⟨i,hi,rfl⟩:=ynb.1 hx;simp only[GW.parts_mk]at hi;have h3:i<r.parts.length:=by omega
  have:=zbp h3 (by omega:i<v.parts.length) (by omega:i<w.parts.length) hi;simp only[GW.parts_mk];rw[this];exact zxu L ((cv.2.2 h6).2.2 i h3 (by omega)) ((cw.2.2 h6).2.2 i h3 (by omega)) (hv.ps _ (yl4 _)) (hw.ps _ (yl4 _))
 ·have hk:=GRing.ok_kind cv.1 h6;have e:r.plus v w=zaq r.kind v w:=by simp[GRing.plus,h6]
  have sp:=zcb ⟨hk.1,hk.2.1⟩ (cv.2.1 h6) (cw.2.1 h6);rw[e];exact⟨zxu L (cv.2.1 h6) (cw.2.1 h6) hv.o hw.o,fun x hx=>by rw[sp.1]at hx;cases hx⟩
include L in
theorem z62{r:GRing}{v w:GW}{m n:Nat}(cv:v.chk r)(cw:w.chk r)(hv:v.lb E H m)(hw:w.lb E H n):(r.times v w).lb E H (m+n+1):=by
 by_cases h6:r.kind=6
 ·have lv:=(cv.2.2 h6).1;have lw:=(cw.2.2 h6).1;have e:r.times v w=.mk gr0 0 false 0 [] (zcq r.parts v.parts w.parts):=by simp[GRing.times,h6]
  rw[e];have hl:=zaz (ks:=r.parts) (vs:=v.parts) (ws:=w.parts) lv lw;refine⟨zr4 ..,fun x hx=>?_⟩;obtain⟨i,hi,rfl⟩:=ynb.1 hx;simp only[GW.parts_mk]at hi;have h3:i<r.parts.length:=by omega
  have:=za9 h3 (by omega:i<v.parts.length) (by omega:i<w.parts.length) hi;simp only[GW.parts_mk];rw[this];exact zsw L ((cv.2.2 h6).2.2 i h3 (by omega)) ((cw.2.2 h6).2.2 i h3 (by omega)) (hv.ps _ (yl4 _)) (hw.ps _ (yl4 _))
 ·have hk:=GRing.ok_kind cv.1 h6;have e:r.times v w=zao r.kind v w:=by simp[GRing.times,h6]
  have sp:=zbb ⟨hk.1,hk.2.1⟩ (cv.2.1 h6) (cw.2.1 h6);rw[e];exact⟨zsw L (cv.2.1 h6) (cw.2.1 h6) hv.o hw.o,fun x hx=>by rw[sp.1]at hx;cases hx⟩
end
section
variable {E H s:Nat} (L:LB E H s)
theorem leM{a:Nat}(k:a<=1048576):4294967296^a<=4294967296^1048576:=by
 generalize (1048576:Nat)=N at *
 exact zhm k
theorem ltM{x a:Nat}(h:x<4294967296^a)(k:a<=1048576):x<4294967296^1048576:=ylu h (leM k)
include L in
theorem z28{k:Int}(hk:1<=k/\k<=5){v w:GW}{n:Nat}(hv:v.lb1 E H n)(hw:w.lb1 E H n)(hn:216<=szN s n)(hs:szN s n<=400000)(cv:v.chk ⟨k,[]⟩)(cw:w.chk ⟨k,[]⟩) :
  Sp P F.aa [enc (⟨k,[]⟩:GRing),enc v,enc w] (.pure (enc (zaq k v w))):=by
 have h6:(⟨k,[]⟩:GRing).kind≠6:=by show k≠6;omega
 have hv':=(zpf L (cv.2.1 h6) hv hn).mono (show szN s n<=1048576 by omega);have hw':=(zpf L (cw.2.1 h6) hw hn).mono (show szN s n<=1048576 by omega);have:k=1\/k=2\/k=3\/k=4\/k=5:=by omega
 rcases this with rfl|rfl|rfl|rfl|rfl
 ·exact z3f v w hv' hw' cv cw
 ·exact z3e v w hv' hw' cv cw
 ·exact z3d v w hv' hw' cv cw
 ·exact z3c v w hv' hw' cv cw
 ·have hB:H^(n / 100)*2^(n % 100) / 46656<4294967296^szN s n:=yml (yoo _ _) (L_HB L n);exact z3b v w hv' hw' cv cw _ _ _ (zht hv.p) (zht hw.p) (L.ene _) (ltM (L_D L n) (by omega)) (ltM (zmn _ _ _ hB hB) (by omega))
include L in
theorem yge{m n:Nat}(hm:szN s m<=400000)(hn:szN s n<=400000):E^(m / 100)*E^(n / 100)<4294967296^1048576/\46656*(H^(m / 100)*2^(m % 100) / 46656*(H^(n / 100)*2^(n % 100) / 46656))<4294967296^1048576:=by
 refine⟨?_,?_⟩
 ·refine ylu (yn7 (L_D L m) (L_D L n)) ?_;rw[<- Nat.pow_add];exact leM (by omega)
 ·have b1:=yqj (H^(m / 100)*2^(m % 100)) 46656;have b2:=yqj (H^(n / 100)*2^(n % 100)) 46656;have hb:=znh b1 b2;have h3:=yn7 (L_HB L m) (L_HB L n);rw[<- Nat.pow_add]at h3;have h4:4294967296^(szN s m+szN s n)<=4294967296^1048576:=leM (by omega);exact yml (by omega) (ylu h3 h4)
include L in
theorem zxb{k:Int}(hk:1<=k/\k<=5){v w:GW}{n:Nat}(hv:v.lb1 E H n)(hw:w.lb1 E H n)(hn:216<=szN s n)(hs:szN s n<=400000)(cv:v.chk ⟨k,[]⟩)(cw:w.chk ⟨k,[]⟩) :
  Sp P F.ae [enc (⟨k,[]⟩:GRing),enc v,enc w] (.pure (enc (zao k v w))):=by
 have h6:(⟨k,[]⟩:GRing).kind≠6:=by show k≠6;omega
 have sv:=zpf L (cv.2.1 h6) hv hn;have sw:=zpf L (cw.2.1 h6) hw hn;have hv':=sv.mono (show szN s n<=1048576 by omega);have hw':=sw.mono (show szN s n<=1048576 by omega);have:k=1\/k=2\/k=3\/k=4\/k=5:=by omega
 rcases this with rfl|rfl|rfl|rfl|rfl
 ·exact z7b v w hv' hw' cv cw
 ·exact z7a v w hv' hw' cv cw
 ·exact z69 v w hv' hw' cv cw
 ·exact z68 v w hv' hw' cv cw
 ·obtain⟨a1,a2⟩:=yge L hs hs;exact z67 v w hv' hw' cv cw _ _ _ _ (zht hv.p) (zht hw.p) (L.ene _) (L.ene _) a1 a2 (sv.poly.monoR (by omega)) (sw.poly.monoR (by omega))
include L in
theorem ycb(r:GRing){v w:GW}{n:Nat}(hv:v.lb E H n)(hw:w.lb E H n)(hn:216<=szN s n)(hs:szN s n<=400000)(cv:v.chk r)(cw:w.chk r):Sp P F.aa [enc r,enc v,enc w] (.pure (enc (r.plus v w))):=by
 have hr0:=cv.1;by_cases h6:r.kind=6
 ·exact z3a r v w ((zg0 L cv hv hn).mono (by omega)) ((zg0 L cw hw hn).mono (by omega)) cv cw h6 fun i h h1 h2 =>
   z28 L ((GRing.ok_parts hr0 h6).2.2 _ (yl4 h)) (hv.ps _ (yl4 h1)) (hw.ps _ (yl4 h2)) hn hs (zeu cv h6 h h1) (zeu cw h6 h h2)
 ·have hk:=GRing.ok_kind hr0 h6;have he:r=⟨r.kind,[]⟩:=by rw[<- hk.2.2]
  have h1:r.plus v w=zaq r.kind v w:=by simp[GRing.plus,h6]
  rw[h1,he];rw[he]at cv cw;exact z28 L ⟨hk.1,hk.2.1⟩ hv.o hw.o hn hs cv cw
include L in
theorem z64(r:GRing){v w:GW}{n:Nat}(hv:v.lb E H n)(hw:w.lb E H n)(hn:216<=szN s n)(hs:szN s n<=400000)(cv:v.chk r)(cw:w.chk r):Sp P F.ae [enc r,enc v,enc w] (.pure (enc (r.times v w))):=by
 have hr0:=cv.1;by_cases h6:r.kind=6
 ·exact z65 r v w ((zg0 L cv hv hn).mono (by omega)) ((zg0 L cw hw hn).mono (by omega)) cv cw h6 fun i h h1 h2 =>
   zxb L ((GRing.ok_parts hr0 h6).2.2 _ (yl4 h)) (hv.ps _ (yl4 h1)) (hw.ps _ (yl4 h2)) hn hs (zeu cv h6 h h1) (zeu cw h6 h h2)
 ·have hk:=GRing.ok_kind hr0 h6;have he:r=⟨r.kind,[]⟩:=by rw[<- hk.2.2]
  have h1:r.times v w=zao r.kind v w:=by simp[GRing.times,h6]
  rw[h1,he];rw[he]at cv cw;exact zxb L ⟨hk.1,hk.2.1⟩ hv.o hw.o hn hs cv cw
theorem ya7{r:GRing}(hr:r.ok=true)(E H:Nat):r.zero.lb E H 0:=by unfold GRing.zero;rw[yl0 hr];refine⟨zr4 ..,fun x hx=>?_⟩;obtain⟨k,_,rfl⟩:=yl6.1 hx;exact zn1 ..
def lwM(r:GRing)(hr:r.ok=true)(lim:Nat)(h1:216<=szN s lim)(h2:szN s lim<=400000):Meas r where
 mb n w:=w.lb E H n
 lim:=lim
 mono h k:=h.mono L k
 zero:=ya7 hr E H
 plus cv cw hv hw:=yb9 L cv cw hv hw
 times cv cw hv hw:=z62 L cv cw hv hw
 plusS:=fun {v w n} hn cv cw hv hw=>ycb L r (hv.mono L hn) (hw.mono L hn) h1 h2 cv cw
 timesS:=fun {v w n} hn cv cw hv hw=>z64 L r (hv.mono L hn) (hw.mono L hn) h1 h2 cv cw
end
def GW.den1(w:GW):Nat:=w.q.v.den*pden w.poly
def GW.den(w:GW):Nat:=w.den1*(w.parts.map GW.den1).foldr (· * ·) 1
def lden(l:List GW):Nat:=(l.map GW.den).foldr (· * ·) 1
theorem zq3{a:Nat}:∀ {l:List Nat},a∈l->a ∣ l.foldr (· * ·) 1
 | x::l,h=>by
  rcases yl7.1 h with rfl|h
  ·exact yqk _ _
  ·exact yow (zq3 h) (yql _ _)
theorem zq2:∀ {l:List Nat},(∀ x∈l,0<x)->0<l.foldr (· * ·) 1
 | [],_=>Nat.one_pos
 | x::l,h=>yod (h x (by simp)) (zq2 fun y hy=>h y (by simp[hy]))
theorem zvn{a:Nat}:∀ {l:List Nat},(∀ x∈l,x<=4294967296^a)->l.foldr (· * ·) 1<=4294967296^(l.length*a)
 | [],_=>by simp
 | x::l,h=>by
  have:=yma (h x (by simp)) (zvn (l:=l) fun y hy=>h y (by simp[hy]));rw[<- Nat.pow_add]at this;have e:(x::l).length*a=a+l.length*a:=by simp[ym9];omega
  rw[e];exact this
structure GW.li1 (w:GW):Prop where
 q:w.q.sm 3
 l:w.poly.length<=8
 p:psm w.poly 3
structure GW.li (w:GW):Prop where
 o:w.li1
 l:w.parts.length<=4
 ps:∀ x∈w.parts,x.li1
theorem GW.sm.li1{w:GW}(h:w.sm 3):w.li1:=⟨h.q,by have:=h.len;omega,h.poly⟩
theorem GW.sm.li{w:GW}(h:w.sm 3):w.li:=⟨h.li1,by have:=h.plen;omega,fun x hx=>(h.parts x hx).li1⟩
theorem z5x{w:GW}(h:w.li1):w.den1<=4294967296^28:=by have a:=(ratb h.q (by omega)).2;have b:=zvr h.p (by omega);have hl:=h.l;have b':pden w.poly<=4294967296^25:=yop (ylu b (ymn (by omega) (by omega)));have:=yma (yop a) b';rw[<- Nat.pow_add]at this;exact this
theorem zy2(w:GW):0<w.den1:=yod (yoq w.q.v.den_nz) (yoq (zib _))
theorem yhj{w:GW}(h:w.li):w.den<=4294967296^140:=by have:=yma (z5x h.o) (zvn (a:=28) (l:=w.parts.map GW.den1) fun x hx=>by obtain⟨y,hy,rfl⟩:=yl6.1 hx;exact z5x (h.ps y hy));rw[<- Nat.pow_add]at this;refine ylq this (ymn (by omega) ?_);have:=h.l;rw[ymx];omega
theorem ydv(w:GW):0<w.den:=yod (zy2 w) (zq2 fun x hx=>by obtain⟨y,_,rfl⟩:=yl6.1 hx;exact zy2 y)
theorem z8z(l:List GW):0<lden l:=zq2 fun x hx=>by obtain⟨y,_,rfl⟩:=yl6.1 hx;exact ydv y
theorem yc1{l:List GW}{n:Nat}(h:∀ w∈l,w.li)(hl:l.length<=n):lden l<4294967296^(n*140+1):=by
 have:=zvn (a:=140) (l:=l.map GW.den) fun x hx=>by obtain⟨y,hy,rfl⟩:=yl6.1 hx;exact yhj (h y hy)
 rw[ymx]at this;refine yml this (yqg (by omega) ?_);have:=ylw 140 hl;omega
theorem z80{l:List GW}{w:GW}(h:w∈l):w.den ∣ lden l:=zq3 (yl6.2 ⟨w,h,rfl⟩)
def HH(E:Nat):Nat:=46656*4294967296^3*(T100*E)
theorem yk5{E s:Nat}(he:0<E)(hl:E<4294967296^s)(hs:s<=4000):LB E (HH E) s:=by
 refine⟨he,?_,hl,?_,hs⟩
 ·unfold HH;exact ypt _ (by decide +kernel)
 ·have h1:T100*E<4294967296^(4+s):=by rw[ym1];exact yn7 z6o hl
  have h2:46656*4294967296^3<4294967296^4:=by decide +kernel
  have:=yn7 h2 h1;rw[<- Nat.pow_add]at this;have e:4+(4+s)=s+8:=by omega
  rw[e]at this;exact this
section
variable {E s:Nat} (L:LB E (HH E) s)
include L in
theorem yaj{x:GRat}(hx:x.sm 3)(hd:x.v.den ∣ E):qL E (HH E) 100 x.v:=by
 obtain⟨c,hc⟩:=hd;have hc0:c≠0:=by rintro rfl;have:=L.e;omega
 have h1:=zfb c hc0 (zq0 x.v);rw[<- hc]at h1;have h2:=(ratb hx (by omega)).1;have:=z74 L 0 1 (x.v.num.natAbs*c) (by rw[Nat.pow_one];exact h1) (by
  rw[Nat.pow_one,Nat.pow_zero,Nat.mul_one];unfold HH;have a:x.v.num.natAbs*c<=4294967296^3*E:=yma (yop h2) (by rw[hc];exact ypt _ (yoq x.v.den_nz));have b:E<=T100*E:=ypt _ yae
  calc 46656*(x.v.num.natAbs*c)<=46656*(4294967296^3*E):=yn9 _ a
   _=46656*4294967296^3*E:=by rw[ym5]
   _<=_:=yn9 _ b)
 exact this
theorem zxy:∀ {p:List GMono} {m:GMono},m∈p->m.coef.v.den ∣ pden p
 | x::p,m,h=>by
  rcases yl7.1 h with rfl|h
  ·exact yqk _ _
  ·exact yow (zxy h) (yql _ _)
include L in
theorem z4r{w:GW}(hp:PVal w.poly)(h:w.li1)(hd:w.den1 ∣ E):w.lb1 E (HH E) 100:=by
 refine⟨yaj L h.q (yow (yqk _ _) hd),fun e=>?_⟩;rcases zjo hp e with h'|⟨m,hm,h'⟩
 ·rw[h'];exact zgo _
 ·rw[h'];exact yaj L (h.p m hm) (yow (zxy hm) (yow (yql _ _) hd))
include L in
theorem yj3{r:GRing}{w:GW}(hc:w.chk r)(h:w.li)(hd:w.den ∣ E):w.lb E (HH E) 100:=by
 have hq:w.den1 ∣ E:=yow (yqk _ _) hd;by_cases h6:r.kind=6
 ·obtain⟨l,e,hs⟩:=hc.2.2 h6;refine⟨z4r L (by rw[e];exact zhq) h.o hq,fun x hx=>?_⟩;obtain⟨i,hi,rfl⟩:=ynb.1 hx;exact z4r L (si_p (hs i (by omega) hi)) (h.ps _ hx) (yow (zq3 (yl6.2 ⟨_,hx,rfl⟩)) (yow (yql _ _) hd))
 ·have sp:=hc.2.1 h6;exact⟨z4r L (si_p sp) h.o hq,fun x hx=>by rw[sp.1]at hx;cases hx⟩
end
theorem yfa{r:GRing}(M:Meas r){n:Nat}{l:List GTArc}(h:∀ x∈l,M.mb n x.w/\x.w.chk r):∀ x∈tidT r l,M.mb (l.length+n) x.w:=fun x hx=>by
 have hs:=zc3 (key:=GTArc.key) l;have h':∀ x∈srt GTArc.key l,M.mb n x.w/\x.w.chk r:=fun x hx=>h x ((hs.2.2 x).1 hx)
 have iv:=zrj (key:=GTArc.key) (up:=upT r) (nw:=id) (Q:=fun k x=>M.mb (k+n) x.w/\x.w.chk r) (fun k x hx=>⟨M.mono hx.1 (by omega),hx.2⟩) (l:=srt GTArc.key l) (fun x hx=>⟨M.mono (h' x hx).1 (by show n<=0+n;omega),(h' x hx).2⟩)
  (fun k z x hx hz=>⟨by have:=M.plus hz.2 (h' x hx).2 hz.1 (M.mono (h' x hx).1 (by omega));exact M.mono this (by omega),(zck hz.2 (h' x hx).2:(r.plus z.w x.w).chk r)⟩) (fun k x hx=>⟨M.mono hx.1 (by omega),hx.2⟩) _ (yl8 _)
 rw[ylv (yl8 _),hs.2.1]at iv;exact(iv.2 x (ynl.1 hx).1).1
theorem z8p{t:GTrans}(ok:t.ok)(M:Meas t.ring){n:Nat}(hi:∀ w∈t.ini,M.mb n w)(hf:∀ w∈t.fin,M.mb n w)(ha:∀ x∈t.arcs,M.mb n x.w):t.nf.fits M (t.arcs.length+n):=by have h0:=ok.il;have h1:=ok.fl;have hc:∀ x∈t.arcs,x.w.chk t.ring:=fun x hx=>(ok.arcs x hx).2.2.2.2.2.2.2.2;have ht:=yfa M (n:=n) fun x hx=>⟨ha x hx,hc x hx⟩;refine⟨rfl,⟨ok.st1,ok.st2⟩,fun x hx=>?_,⟨fun w hw=>⟨ok.ini w hw,M.mono (hi w hw) (by omega)⟩,by show t.ini.length=t.st.toNat;omega⟩,⟨fun w hw=>⟨ok.fin w hw,M.mono (hf w hw) (by omega)⟩,by show t.fin.length=t.st.toNat;omega⟩,ok.ring⟩;obtain⟨a1,a2,a3,a4,a5,a6,a7,a8,a9⟩:=(zx7 ok).arcs x hx;have e:t.nf.st=t.st:=rfl;refine⟨⟨a9,ht x hx⟩,⟨a1,by show x.f<(t.nf.st.toNat:Int);omega⟩,a3,by show x.t<(t.nf.st.toNat:Int);omega⟩
def GTrans.wts(t:GTrans):List GW:=t.ini++(t.fin++t.arcs.map GTArc.w)
theorem ltW{x a b:Nat}(h:x<4294967296^a)(k:a<=b):x<4294967296^b:=ylu h (zhm k)
end Go.Ab
