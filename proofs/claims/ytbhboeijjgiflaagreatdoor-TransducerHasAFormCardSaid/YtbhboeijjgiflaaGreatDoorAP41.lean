/-
Proofs for the law TransducerHasAForm, part 41. Conditions: none.
-/
import Derived.Test.YtbhboeijjgiflaaGreatDoorAP40
import Derived.Test.YtbhboeijjgiflaaGreatDoorAP35
import Derived.Test.YtbhboeijjgiflaaGreatDoorAP38
set_option maxRecDepth 100000
set_option maxHeartbeats 4000000
set_option linter.all false
namespace Go.Ab
open Enc (enc)
structure pmOk (p q:List GMono):Prop where
 hp:psm p 524288
 hq:psm q 524288
 hm:∀ i k (h:i<p.length),psm (prow p[i] (q.take k) (pmul (p.take i) q)) 1048576
def puS (r:Nat) (p q:List GMono) (i:Nat):St:=mkSt [(1,.p (.sl (ens q))),(5,.p (.mapv r)),(14,.p (.sl (ens p))),(15,.p (.int .i64 p.length)),(16,.p (.int .i64 i))] []
def puT (r:Nat) (p q:List GMono) (i:Nat) (m:GMono) (k:Nat):St:=mkSt [(1,.p (.sl (ens q))),(5,.p (.mapv r)),(7,.ptr 2 0 0 0),(14,.p (.sl (ens p))),(15,.p (.int .i64 p.length)),(16,.p (.int .i64 i)),(21,.p (.sl (ens q))),(22,.p (.int .i64 q.length)),(23,.p (.int .i64 k))] [(2,⟨6,[.p (enc m)]⟩)]
def puB (r:Nat) (p q:List GMono) (i k:Nat):Option FA:=some (zhy r (mks (zfp (pmS p q i k) [])) (mvs (zfp (pmS p q i k) [])))
def puI (r:Nat) (p q:List GMono) (n:Nat) (s:St) (B:Option FA):Prop:=∃ i,i<=p.length/\n=p.length - i/\Weak s (puS r p q i)/\B=puB r p q i 0
def puJ (r:Nat) (p q:List GMono) (i:Nat) (m:GMono) (n:Nat) (s:St) (B:Option FA):Prop:=∃ k,k<=q.length/\n=q.length - k/\Weak s (puT r p q i m k)/\B=puB r p q i k
def puE (r:Nat) (p q:List GMono) (ex:Exit) (s:St) (B:Option FA):Prop:=ex=.exit 0/\Weak s (puS r p q p.length)/\B=puB r p q p.length 0
def puF (r:Nat) (p q:List GMono) (i:Nat) (m:GMono) (ex:Exit) (s:St) (B:Option FA):Prop:=ex=.exit 2/\Weak s (puT r p q i m q.length)/\B=puB r p q i q.length
theorem yhg (r:Nat) (p q:List GMono) (vp:PVal p) (vq:PVal q) (h:pmOk p q) (lp:p.length<=216) (lq:q.length<=216) {i:Nat} (hi:i<p.length) {s:St} (hw:Weak s (puT r p q i p[i] 0)) :
  MR P 54 (GC.loop g.o6).er s (puB r p q i 0) (puF r p q i p[i]):=by
 refine MR.gloop (I:=puJ r p q i p[i]) q.length ⟨0,by omega,by omega,hw,rfl⟩ ?_;rintro n0 s B ⟨k,hk,rfl,hw,rfl⟩;refine MR.weak hw ?_;unfold g.o6;refine MR.gseq ?_;simp [puT,mkSt,go_sem];by_cases hlt:k<q.length
 ·refine MR.gseq' (MR.gcond (t:=true) (by simp [go_sem,hlt]) (fun _=>MR.gnop ⟨fun _=>?_,fun h=>absurd rfl h⟩) (fun h=>by cases h));simp [go_sem];refine MR.gseq' (MR.gblk (MR.gseq ?_));simp [go_sem];refine zae hlt ?_;refine MR.gseq ?_;simp [go_sem];refine MR.gseq ?_;have eok:∀ {e:Ex},e.ok=true->(0<=e.a/\e.a<=5)/\(0<=e.b/\e.b<=5)/\0<=e.c/\e.c<=5:=fun h=>by rw [Ex.ok_iff] at h; omega
  have o1:=eok (GMono.ok_iff.1 (vp i hi).1).1;have o2:=eok (GMono.ok_iff.1 (vq k hlt).1).1;have ea:IntKind.i64.wrap (p[i].e.a+q[k].e.a)=p[i].e.a+q[k].e.a:=i64w (by omega) (by omega);have eb:IntKind.i64.wrap (p[i].e.b+q[k].e.b)=p[i].e.b+q[k].e.b:=i64w (by omega) (by omega);have ec:IntKind.i64.wrap (p[i].e.c+q[k].e.c)=p[i].e.c+q[k].e.c:=i64w (by omega) (by omega);simp [go_sem];refine zam fun R3 hn3 hr3 hx3=>?_;simp [g.nj,go_sem,ea];refine hn3 _ ?_;clear hn3 hx3 hr3;refine zam fun R3 hn3 hr3 hx3=>?_;simp [g.nj,go_sem,eb];refine hn3 _ ?_;clear hn3 hx3 hr3;refine zam fun R3 hn3 hr3 hx3=>?_;simp [g.nj,go_sem,ec];refine hn3 _ ?_;clear hn3 hx3 hr3;refine zam fun R3 hn3 hr3 hx3=>?_;simp [g.nj,go_sem];refine hx3 _ _ ?_;clear hn3 hx3 hr3;simp [go_sem];refine MR.gregD rfl (by decide) ?_;simp [go_sem];have sp1:=GRat.sm.mono (h.hp _ (yj2 hi)) (show 524288<=1048576 by omega);have sq1:=GRat.sm.mono (h.hq _ (yj2 hlt)) (show 524288<=1048576 by omega);refine zaa (zz7 p[i].coef q[k].coef sp1 sq1) rfl ?_;simp [go_sem];have hL:=z7w (k:=k) hi (h.hm i k hi) (zhm _ (zb6 _ _));refine zr8 (args:=[enc (p[i].e.add q[k].e),enc (rto (p[i].coef.v*q[k].coef.v))]) (zxq (p[i].mulE q[k]) _ ⟨⟨by show 0<=p[i].e.a+q[k].e.a; omega,by show p[i].e.a+q[k].e.a<=10; omega⟩,⟨by show 0<=p[i].e.b+q[k].e.b; omega,by show p[i].e.b+q[k].e.b<=10; omega⟩,by show 0<=p[i].e.c+q[k].e.c; omega,by show p[i].e.c+q[k].e.c<=10; omega⟩ ((zoj (h.hp _ (yj2 hi)) (h.hq _ (yj2 hlt)) (by omega)).mono (by omega)) hL) (by simp [go_sem,Ex.add]) (zp1 _) (zp0 _) ?_;simp [go_sem];refine ⟨fun _=>MR.of_vm ?_,fun h=>absurd rfl h⟩;have e3:=i64s k (by omega);simp [go_sem,e3];refine ⟨_,?_,k+1,by omega,rfl,Weak.to [1,5,7,14,15,16,21,22,23] [((2,0),2)] (by simp [puT,mkSt,go_sem]),?_⟩
  ·omega
  ·simp only [puB]; rw [yhh hi hlt,z1t]
 ·have hk':k=q.length:=by omega
  refine MR.gseq' (MR.gcond (t:=false) (by simp [go_sem,hlt]) (fun h=>by cases h) (fun _=>MR.gext ⟨fun h=>(by cases h),fun _=>⟨fun h=>(by cases h),fun _=>⟨rfl,?_,?_⟩⟩⟩))
  ·exact Weak.to [1,5,7,14,15,16,21,22,23] [((2,0),2)] (by simp [puT,mkSt,go_sem,hk'])
  ·rw [hk']
theorem zrx:∀ p q:List GMono,(zes p q).length=p.length*q.length
 | [],q=>by simp [zes]
 | m::p,q=>by rw [show zes (m::p) q=q.map m.mulE++zes p q from rfl,ylx,yk2,zrx p q,ykq,yjn]; omega
theorem zxy (p q:List GMono) (vp:PVal p) (vq:PVal q) (h:pmOk p q):Sp P F.ly [.sl (ens p),.sl (ens q)] (.pure (.sl (ens (pmul p q)))):=by
 have lp:=zbl vp;have lq:=zbl vq;have sp1:psm p 1048576:=fun m hm=>GRat.sm.mono (h.hp m hm) (by omega);have sq1:psm q 1048576:=fun m hm=>GRat.sm.mono (h.hq m hm) (by omega);refine Sp.of_mr c.ly (by simp) ?_;unfold g.ly;generalize hP:(fun ex s (_:Option FA)=>retP [(4,none)] (RV.pure (.sl (ens (pmul p q)))) ex s)=Post;refine MR.gseq ?_;simp [go_sem];refine MR.gseq' (MR.greg (MIns.cons (zmp fun r=>?_)));refine ze0 [[12]] ?_;simp [go_sem];refine MR.gseq' (MR.gseq ?_);simp [go_sem];refine zaa (ziv p sp1 (by omega)) rfl ?_;simp [go_sem,znv vp];refine MR.gblk (MR.mono (MR.gloop (Post:=puE r p q) (I:=puI r p q) p.length ⟨0,by omega,by omega,Weak.to [1,5,14,15,16] [] (by simp [puS,mkSt,go_sem]),by simp [puB,ydl,zfp,mks,mvs]⟩ ?_) ?_)
 ·rintro n0 s B ⟨i,hi,rfl,hw,rfl⟩;refine MR.weak hw ?_;unfold g.rr;refine MR.gseq ?_;simp [puS,mkSt,go_sem];by_cases hlt:i<p.length
  ·refine MR.gseq' (MR.gcond (t:=true) (by simp [go_sem,hlt]) (fun _=>MR.gnop ⟨fun _=>?_,fun h=>absurd rfl h⟩) (fun h=>by cases h));simp [go_sem];refine MR.gseq' (MR.gblk (MR.gseq ?_));simp [go_sem];refine zae hlt ?_;refine MR.gseq ?_;simp [go_sem];refine zaa (ziv q sq1 (by omega)) rfl ?_;simp [go_sem,znv vq];refine MR.gblk (MR.mono (yhg r p q vp vq h lp lq hlt (Weak.to [1,5,7,14,15,16,21,22,23] [((7,0),2)] (by simp [puT,mkSt,go_sem]))) ?_);rintro ex s B ⟨rfl,hw,rfl⟩;have e3:=i64s i (by omega);refine ⟨fun _=>MR.weak hw (MR.of_vm ?_),fun h=>absurd rfl h⟩;simp [puT,mkSt,go_sem,e3];refine ⟨_,?_,i+1,by omega,rfl,Weak.to [1,5,14,15,16] [] (by simp [puS,mkSt,go_sem]),?_⟩
   ·omega
   ·simp only [puB]; rw [ydk hlt]
  ·have hk':i=p.length:=by omega
   refine MR.gseq' (MR.gcond (t:=false) (by simp [go_sem,hlt]) (fun h=>by cases h) (fun _=>MR.gext ⟨fun h=>(by cases h),fun _=>⟨fun h=>(by cases h),fun _=>⟨rfl,?_,?_⟩⟩⟩))
   ·exact Weak.to [1,5,14,15,16] [] (by simp [puS,mkSt,go_sem,hk'])
   ·rw [hk']
 ·rintro ex s B ⟨rfl,hw,rfl⟩;refine ⟨fun _=>?_,fun h=>absurd rfl h⟩;have hfin:=minv (okE (zes p q));have hsm:∀ x∈zfp (okE (zes p q)) [],x.2.sm 1048576:=by
   rw [<- z0k];cases hpl:p.length with
   | zero=>intro x hx; rw [ydl] at hx; cases hx
   | succ n =>
    have:=z7w (p:=p) (q:=q) (k:=q.length) (i:=n) (by omega) (h.hm n q.length (by omega)) (zhm _ (zb6 _ _));rw [ydk (by omega)] at this;exact fun x hx=>(this x hx).2
  unfold puB;rw [z0k];refine MR.weak hw (MR.freeze (t:=5) rfl ?_);refine MR.of_vm ?_;subst hP;simp [puS,mkSt,go_sem];have hpl:=zbl (zb6 p q);have hlen:(okE (zes p q)).length<=46656:=by
   have h1:(zes p q).length=p.length*q.length:=by exact zrx p q
   have h2:=yjv lp lq;have h3:(okE (zes p q)).length<=(zes p q).length:=yjp _ _;omega
  refine zct (zob r (zfp (okE (zes p q)) []) (fun x hx=>GRat.sm.mono (hsm x hx) (by omega)) hfin.nod (by have:=hfin.len; omega) (pmul p q) (z0i hfin) (ztr (zb6 p q))) (by simp [go_sem]) ⟨zea _ _ rfl,by decide,by simp [ens,LIM]; omega⟩ _ rfl ?_;simp [go_sem,killAll]
theorem zvp (v w:GW) (hv:v.sm 1048576) (hw:w.sm 1048576):Sp P F.be [enc v,enc w] (.pure (enc (zao 1 v w))):=by refine Sp.vz c.be fun _=>?_;simp [g.be,go_sem];refine zaa (zz7 v.q w.q hv.q hw.q) rfl ?_;simp [go_sem,zao]
theorem z4q (v w:GW):Sp P F.cn [enc v,enc w] (.pure (enc (zao 4 v w))):=by refine Sp.vz c.cn fun _=>?_;simp [g.cn,go_sem,zao,zs9]
theorem z61 (v w:GW) (hv:v.si 2) (hw:w.si 2):Sp P F.bf [enc v,enc w] (.pure (enc (zao 2 v w))):=by
 refine Sp.vz c.bf fun _=>?_;have r1:=si2.1 hv;have r2:=si2.1 hw;have e1:IntKind.i64.wrap (v.cost+w.cost)=v.cost+w.cost:=i64w (by omega) (by omega);rcases yla v.inf with h1|h1
 ·simp [g.bf,zao,h1,go_sem,gr0]
 rcases yla w.inf with h2|h2
 ·simp [g.bf,zao,h1,h2,go_sem,gr0]
 simp [g.bf,zao,h1,h2,e1,go_sem];refine ⟨fun h3=>by simp [h3,go_sem,gr0],fun h3=>by simp [show ¬ 1099511627776<v.cost+w.cost by omega,go_sem,gr0]⟩
theorem z0g (v w:GW) (pv':PVal v.poly) (pw:PVal w.poly) (h:pmOk v.poly w.poly):Sp P F.fc [enc v,enc w] (.pure (enc (zao 5 v w))):=by refine Sp.vz c.fc fun _=>?_;simp [g.fc,go_sem];refine zaa (zxy v.poly w.poly pv' pw h) rfl ?_;simp [go_sem,zao,gr0]
theorem zre (k:Int) (hk:1<=k/\k<=5) (v w:GW) (hv:v.sm 1048576) (hw:w.sm 1048576) (sv:v.si k) (sw:w.si k) (h5:k=5->pmOk v.poly w.poly):Sp P (kF4 k) [enc v,enc w] (.pure (enc (zao k v w))):=by
 have:k=1\/k=2\/k=3\/k=4\/k=5:=by omega
 rcases this with rfl|rfl|rfl|rfl|rfl
 ·exact zvp v w hv hw
 ·exact z61 v w sv sw
 ·have e:zao 3 v w=zao 1 v w:=by rw [zao,zao]; simp
  rw [e]; exact zvp v w hv hw
 ·exact z4q v w
 ·exact z0g v w (sv.2.2.2.2.2.2.2.2 rfl) (sw.2.2.2.2.2.2.2.2 rfl) (h5 rfl)
theorem z37 (r:GRing) (v w:GW) (hv:v.sm 1048576) (hw:w.sm 1048576) (cv:v.chk r) (cw:w.chk r) (h6:r.kind≠6) (h5:r.kind=5->pmOk v.poly w.poly):Sp P F.ap [enc r,enc v,enc w] (.pure (enc (zao r.kind v w))):=by have hr0:=cv.1;have hk:=GRing.ok_kind hr0 h6;have t1:v.tk r=v:=yj1 cv;have t2:w.tk r=w:=yj1 cw;have k1:=zdq r v hv;have k2:=zdq r w hw;rw [t1] at k1; rw [t2] at k2;refine Sp.vz c.ap fun _=>?_;simp [g.ap,go_sem];refine zaa (zeo r) rfl ?_;simp [hr0,go_sem];refine zab k1 ?_;simp [go_sem];refine zab k2 ?_;simp [go_sem,h6];obtain ⟨f5,f6,f7,f8,c5,c8,hA⟩:=zek r.kind ⟨hk.1,hk.2.1⟩;refine zaa (zj3 r.kind ⟨hk.1,hk.2.1⟩) rfl ?_;simp [hA,go_sem];refine zab (zre r.kind ⟨hk.1,hk.2.1⟩ v w hv hw (cv.2.1 h6) (cw.2.1 h6) h5) ?_;simp [go_sem]
theorem zxn (k:Int) (hk:1<=k/\k<=5) (v w:GW) (i:Nat) (iv:i<v.parts.length) (iw:i<w.parts.length) (hi:i<=3) (hv:v.parts[i].sm 1048576) (hw:w.parts[i].sm 1048576) (sv:v.parts[i].si k) (sw:w.parts[i].si k) (h5:k=5->pmOk v.parts[i].poly w.parts[i].poly) :
  Sp P F.gh [zmz k,.int .i64 i,.ref (enc v),.ref (enc w)] (.pure (enc (zao k v.parts[i] w.parts[i]))):=by
 obtain ⟨f5,f6,f7,f8,c5,c8,hA⟩:=zek k hk;rw [hA];refine Sp.of_vmW c.gh (by simp) ((Weak.openRef (t:=2) (v:=enc v) (n:=8) (by simp [go_sem]) (by simp [go_sem])).trans (Weak.openRef (t:=3) (v:=enc w) (n:=8) (by simp [go_sem]) (by simp [go_sem]))) ?_;simp [g.gh,go_sem];refine zae iv ?_;refine zae iw ?_;refine zab (zre k hk v.parts[i] w.parts[i] hv hw sv sw h5) ?_;simp [go_sem]
theorem zzh (r:GRing) (v w:GW) (hv:v.sm 1048576) (hw:w.sm 1048576) (cv:v.chk r) (cw:w.chk r) (h5:r.kind=5->pmOk v.poly w.poly) (h6':∀ i (h:i<r.parts.length) (h1:i<v.parts.length) (h2:i<w.parts.length),r.parts[i]=5->pmOk v.parts[i].poly w.parts[i].poly) :
  Sp P F.ap [enc r,enc v,enc w] (.pure (enc (r.times v w))):=by
 have hr0:=cv.1;by_cases h6:r.kind=6;rotate_left
 ·have h1:r.times v w=zao r.kind v w:=by simp [GRing.times,h6]
  rw [h1]; exact z37 r v w hv hw cv cw h6 h5
 have hp:=GRing.ok_parts hr0 h6;have t1:v.tk r=v:=yj1 cv;have t2:w.tk r=w:=yj1 cw;have k1:=zdq r v hv;have k2:=zdq r w hw;rw [t1] at k1; rw [t2] at k2;have lv:=(cv.2.2 h6).1;have lw:=(cw.2.2 h6).1;have lp:(zcm r.parts v.parts w.parts).length=r.parts.length:=zaz lv lw;refine Sp.vz c.ap fun _=>?_;simp [g.ap,go_sem];refine zaa (zeo r) rfl ?_;simp [hr0,go_sem];refine zab k1 ?_;simp [go_sem];refine zab k2 ?_;simp [go_sem,h6];refine zaa (zus r hp.2.2 hp.2.1 F.gh [.ref (enc v),.ref (enc w)] (zcm r.parts v.parts w.parts) lp fun i h h'=>?_) ?_ ?_
 ·rw [za7 h (by omega) (by omega) h'];exact zxn r.parts[i] (hp.2.2 _ (yj2 h)) v w i (by omega) (by omega) (by omega) (hv.parts _ (yj2 _)) (hw.parts _ (yj2 _)) ((cv.2.2 h6).2.2 i h (by omega)) ((cw.2.2 h6).2.2 i h (by omega)) (h6' i h (by omega) (by omega))
 ·simp [go_sem,zio,zpj,h6]
 simp [go_sem,GRing.times,h6]
end Go.Ab
namespace Go.Ab
open Enc (enc)
attribute [local go_sem] zal Opd.slots
theorem zjf {I J N i:Nat} (h:i<I):(famR I J N)[i]?.getD none=some ⟨1,(List.range J).map (rowV N (i*J))⟩:=by rw [zw3 h]; rfl
theorem zjg {T:List (List GW)} {p:Nat} (h:p<T.length):(famC T)[p]?.getD none=some ⟨8,avs (T.getD p [])⟩:=by rw [z6l h]; rfl
theorem zxp (t:GTrans) (wx wy:List Int) (I J N:Nat) (T:List (List GW)) (i j q:Nat) (hi:i<I) (hj:j<J) (hp:i*J+j<T.length) (hq:q<N) (hrow:(T.getD (i*J+j) []).length=N) (w:GW)
  (hplus:Sp P F.am [enc t.ring,enc ((T.getD (i*J+j) []).getD q t.ring.zero),enc w] (.pure (enc (t.ring.plus ((T.getD (i*J+j) []).getD q t.ring.zero) w)))) :
  HSp P F.j5 [.ptr 900000 0 0 0,.p (.int .i64 i),.p (.int .i64 j),.p (.int .i64 q),.p (enc w)] (hpT t wx wy I J N T) (.tup []) (hpT t wx wy I J N (adT t.ring T (i*J+j) q w)):=by
 refine HSp.of_mr c.j5 (by simp) (by simp [hpT,PINB]) (by simp [hpT]) ?_ fun A hA=>?_
 ·show (true&&hpOk [900000,900001,900002,900003] (hpT t wx wy I J N (adT t.ring T (i*J+j) q w)))=true;rw [zo2]; rfl
 ·have e1:=zjf (N:=N) (J:=J) hi;have e2:=zjg hp;have hA':adT t.ring T (i*J+j) q w=T.set (i*J+j) ((T.getD (i*J+j) []).set q (t.ring.plus ((T.getD (i*J+j) []).getD q t.ring.zero) w)):=rfl;rw [hA'];generalize T.getD (i*J+j) []=row at *
  have hql:q<row.length:=by omega
  have hgq:row.getD q t.ring.zero=row[q]:=by rw [yj4,yj8 hql]; rfl
  rw [hgq] at hplus ⊢;refine MR.of_vm ?_;have r1:(List.map (outV J) (List.range I))[i]?=some (outV J i):=by rw [yjh,yjs hi]; rfl
  have r2:(List.map (rowV N (i*J)) (List.range J))[j]?=some (rowV N (i*J) j):=by rw [yjh,yjs hj]; rfl
  simp [g.j5,go_sem,zd7,hpT,tabV];refine ⟨fun _=>⟨hi,?_⟩,fun h=>absurd hi (by omega)⟩;rw [zck];refine ⟨_,r1,?_⟩;simp [go_sem,outV,e1,hi,hj];rw [zck];refine ⟨_,r1,?_⟩;simp [go_sem,outV,e1,hi,hj];rw [zck];refine ⟨_,r2,?_⟩;simp [go_sem,rowV,e1,e2,hi,hj];rw [zck];refine ⟨_,r1,?_⟩;simp [go_sem,outV,e1,hi,hj];rw [zck];refine ⟨_,r2,?_⟩;simp [go_sem,rowV,e1,e2,hi,hj,hrow,hq];refine zae hql ?_;refine zab hplus ?_;simp [go_sem,rowV,e1,e2,hi,hj,hrow,hq];refine zae hql ?_;have hs:(famC T).set (i*J+j) (some ⟨8,(avs row).set q (.p (enc (t.ring.plus row[q] w)))⟩)=famC (T.set (i*J+j) (row.set q (t.ring.plus row[q] w))):=by rw [<- z6k]; congr 3;simp [avs,ens,List.map_set]
  refine ⟨.inr rfl,_,Weak.refl _,[],rfl,rfl,?_⟩;simp only [yeh] at hs;simp [zn6,St.site,look,hs]
theorem z8w (l:Int) (h:0<=l/\l<=64):Sp P F.dz [.int .i64 l] (.pure (.int .i64 (if l=0 then 0 else 1))):=by refine Sp.vz c.dz fun _=>?_;simp [g.dz,go_sem];split<;>split<;>omega
theorem zii (w:List Int) (m:Int) (hl:w.length<=1000000):Sp P F.ft [.sl (ens w),.int .i64 m] (.pure (.bool (decide ((1<=m/\m<=32)/\w.length<=256/\∀ x∈w,1<=x/\x<=m)))):=by
 refine Sp.vz c.ft fun _=>?_;simp [g.ft,go_sem]
 refine zai (S:=fun k:Nat=>mkSt [(0,.p (.sl (ens w))),(1,.p (.int .i64 m)),(7,.p (.sl (ens w))),(8,.p (.int .i64 w.length)),(9,.p (.int .i64 k))] []) (I:=fun k=>k<=w.length/\∀ i,(h:i<w.length)->i<k->1<=w[i]/\w[i]<=m) (m:=fun k=>w.length - k) 0
  (Weak.to [0,1,7,8,9] [] (by simp [go_sem])) ⟨by omega,fun i _ h=>by omega⟩ ?_
 rintro k ⟨h1,h2⟩ R hn hr hx;have e1:=i64s k (by omega);simp [g.qa,mkSt,go_sem];refine ⟨fun hk=>zae hk ?_,fun hk=>hx _ _ ?_⟩
 ·have hf:∀ h:w[k]<1\/m<w[k],¬ ∀ x∈w,1<=x/\x<=m:=fun h hh=>by have:=hh w[k] (yj2 hk); omega
  refine ⟨fun h=>hr _ (by simp [go_sem,hf (.inl h)]),fun h=>⟨fun h'=>hr _ (by simp [go_sem,hf (.inr h')]),fun h'=>hn (k+1) _ (Weak.to [0,1,7,8,9] [] (by simp [go_sem,e1])) ⟨by omega,fun i hi hik=>?_⟩ (by omega)⟩⟩;by_cases e:i=k
  ·subst e; exact ⟨h,h'⟩
  ·exact h2 i hi (by omega)
 ·have hk':k=w.length:=by omega
  have ha:∀ x∈w,1<=x/\x<=m:=fun x hx=>by obtain ⟨i,hi,rfl⟩:=yju.1 hx;exact h2 i hi (by omega)
  have hd:decide (∀ x∈w,1<=x/\x<=m)=true:=decide_eq_true ha;simp [go_sem,hd];refine ⟨fun h1=>⟨fun h2=>by simp [h1,h2]; omega,fun h2 _ h3=>by omega⟩,fun h1 h2=>by omega⟩
theorem z96 (n:Nat) (h:n<4294967296):Sp P F.ln [.int .u64 1,.int .u64 n] (.pure (.tup [.int .u64 0,.int .u64 n])):=by
 refine Sp.vz c.ln fun _=>?_;have a1:andI .u64 1 4294967295=1:=by decide +kernel
 have a2:andI .u64 (n:Int) 4294967295=n:=by
  have:=zxg (x:=n) (y:=4294967295) (by omega) (by omega);have e:n &&& 4294967295=n:=by have:=Nat.and_two_pow_sub_one_eq_mod n 32;rw [show (2:Nat)^32 - 1=4294967295 from rfl] at this;rw [this]; exact Nat.mod_eq_of_lt h
  rw [e] at this;exact this
 have a3:andI .u64 0 4294967295=0:=by decide +kernel
 have e:(n:Int) % 18446744073709551616 / 4294967296 % 18446744073709551616=0:=by omega
 simp [g.ln,go_sem,a1,a2,e,a3];omega
theorem z7d (n:Nat) (h:n<4294967296):Sp P F.kq [.int .u64 1,.int .u64 n] (.pure (.tup [.int .u64 0,.int .u64 n])):=by refine Sp.vz c.kq fun _=>?_;simp [g.kq,go_sem];refine zaa (z96 n h) rfl ?_;simp [go_sem]
theorem z44 (Z G:AV) (m t k:Nat) (ht:t<=k):List.replicate m Z++(List.replicate t Z++(List.replicate m Z++List.replicate k G).drop (m+t))=List.replicate (m+t) Z++List.replicate (k - t) G:=by rw [List.drop_append,ym5,List.length_replicate,ym5,show m - (m+t)=0 by omega,show k - (m+t - m)=k - t by omega,List.replicate_zero,List.nil_append,<- List.append_assoc,List.replicate_append_replicate]
def gz:AV:=.p (.agg [.bool false,.sl [],.sl [],.int .i64 0,.bool false,.int .u64 0,.sl [],.sl []])
theorem zz9 (z:GW) (n:Nat) (h:n<=1000):Sp P F.j4 [.sl [enc z],.int .i64 n] (.fresh 8 (ens (List.replicate n z))):=by
 refine Sp.vz c.j4 fun _=>?_;have c1:(n:Int) % 18446744073709551616=n:=by omega
 simp [g.j4,go_sem,c1];refine zaa (z7d n (by omega)) rfl ?_;have c2:IntKind.i64.wrap (n:Int)=n:=i64w (by omega) (by omega);simp [go_sem,c2];refine ⟨by omega,fun _=>⟨by omega,?_⟩⟩
 refine zai (S:=fun m:Nat=>mkSt [(7,.own 1 0 0 n),(8,.p (.int .i64 m))] [(1,⟨8,avs (List.replicate m z)++List.replicate (n - m) gz⟩)]) (I:=fun m=>m<=n/\(n=0\/1<=m)) (m:=fun m=>n - m) (min 1 n)
  (Weak.to [7,8] [((30,0),1)] ?_) (by omega) ?_
 ·rcases Nat.eq_zero_or_pos n with h0|h0
  ·subst h0; simp [mkSt,go_sem]
  ·have e1:min 1 n=1:=by omega
   simp [mkSt,go_sem,e1,gz,avs]
 rintro m ⟨h1,h2⟩ R hn hr hx;simp [g.qt,mkSt,go_sem];refine ⟨fun hm=>?_,fun hm=>hx _ _ ?_⟩
 ·have e:IntKind.i64.wrap ((m:Int)+((min m (n - m):Nat):Int))=((m+min m (n - m):Nat):Int):=(i64w (by omega) (by omega)).trans (by omega);rw [z44 _ gz m (min m (n - m)) (n - m) (by omega)];refine ⟨by omega,?_,hn (m+min m (n - m)) _ (Weak.to [7,8] [((1,0),1)] (by simp [mkSt,go_sem,e,Nat.sub_sub,gz])) ⟨by omega,by omega⟩ (by omega)⟩;exact ⟨by rw [ykd]; intro v hv; rw [(List.mem_replicate.1 hv).2]; rfl,by omega⟩
 ·have:m=n:=by omega
  subst this;simp [go_sem]
theorem z3y (r:GRing) (n:Nat) (h:n<=1000):Sp P F.jk [enc r,.int .i64 n] (.fresh 8 (ens (List.replicate n r.zero))):=by
 refine Sp.vz c.jk fun _=>?_;simp [g.jk,go_sem];refine zaa (zfx r) rfl ?_;simp [go_sem];refine zct (zz9 r.zero n h) (by simp [go_sem]) ⟨zea _ _ rfl,by decide,by simp [ens,LIM]; omega⟩ _ rfl ?_;cases hfl:(ens (List.replicate n r.zero)).all PV.flat
 ·simp [go_sem,killAll]
 ·simp [go_sem]
def tabP (t:GTrans) (wx wy:List Int) (at':PV):PV:=.agg [.int .i64 t.ring.kind,.sl (ens t.ring.parts),.int .i64 t.i,.int .i64 t.o,.int .i64 t.st,.sl (ens t.ini),.sl (ens t.fin),.sl (ens t.arcs),.sl (ens wx),.sl (ens wy),at']
theorem yaq (t:GTrans) (wx wy:List Int) (at':PV) (x:GTArc) (i k:Nat):Sp P F.ba [.ref (tabP t wx wy at'),enc x,.int .i64 i,.int .i64 k] (.pure (.bool (decide ((x.i=0\/wx[i]?=some x.i)/\(x.o=0\/wy[k]?=some x.o))))):=by
 refine Sp.of_vmW c.ba (by simp) (Weak.openRef (t:=0) (v:=tabP t wx wy at') (n:=11) (by simp [tabP,go_sem]) (by simp [tabP,go_sem])) ?_;by_cases a:x.i=0
 ·by_cases b:x.o=0
  ·simp (maxSteps:=1000000) [g.ba,go_sem,tabP,a,b]
  ·by_cases c:k<wy.length
   ·simp (maxSteps:=1000000) [g.ba,go_sem,tabP,a,b,c];refine zae c ?_;exact eq_comm
   ·simp (maxSteps:=1000000) [g.ba,go_sem,tabP,a,b,c]
 ·by_cases d:i<wx.length
  ·simp (maxSteps:=1000000) [g.ba,go_sem,tabP,a,d];refine zae d ?_;refine ⟨fun h=>⟨fun b=>⟨h.symm,.inl b⟩,fun b=>⟨fun c=>zae c ?_,fun c _=>⟨b,by simp [yk8 c]⟩⟩⟩,fun h h'=>absurd h'.symm h⟩;simp [h,b,yj8 c,eq_comm]
  ·simp (maxSteps:=1000000) [g.ba,go_sem,tabP,a,d]
theorem z1s {α β : Type} {f : α -> Option β} {g : α -> β}:∀ {l:List α},(∀ x∈l,f x=some (g x))->l.mapM f=some (l.map g)
 | [],_=>rfl
 | x::l,h=>by rw [List.mapM_cons,h x yjj,z1s fun y hy=>h y (yjf _ hy)]; rfl
theorem zly (n:Nat) (st:St) (s g off len:Nat):toPV st (n+1) (.own s g off len)=match st.obj s g with
  | some o=>if off+len<=o.es.length then (((o.es.drop off).take len).mapM (toPV st n)).map .sl else none
  | none=>none:=rfl
theorem zze (n:Nat) (st:St) (s g:Nat):toPV st (n+1) (.ptr s g 0 0)=match st.obj s g with
  | some o=>match o.es with
   | [e]=>(toPV st n e).map .ref
   | _=>none
  | none=>none:=rfl
def ybe (J:Nat) (T:List (List GW)) (i j:Nat):PV:=.sl (ens (T.getD (i*J+j) []))
def rowP (J:Nat) (T:List (List GW)) (i:Nat):PV:=.sl ((List.range J).map (ybe J T i))
def tabA (I J:Nat) (T:List (List GW)):PV:=.sl ((List.range I).map (rowP J T))
theorem z32 {st:St} {t:GTrans} {wx wy:List Int} {I J N:Nat} {T:List (List GW)} (h:zn6 st (hpT t wx wy I J N T) (hpT t wx wy I J N T)) (hl:T.length=I*J) (hN:∀ l∈T,l.length=N) :
  toPV st FUEL (.ptr 900000 0 0 0)=some (.ref (tabP t wx wy (tabA I J T))):=by
 obtain ⟨h0,h1,h2,h3,_⟩:=h;have s0:st.obj 900000 0=some ⟨11,[tabV t wx wy I]⟩:=by unfold St.obj; rw [show st.site 900000=_ from h0]; rfl
 have s1:st.obj 900001 0=some ⟨1,(List.range I).map (outV J)⟩:=by unfold St.obj; rw [show st.site 900001=_ from h1]; rfl
 have s2:∀ i,i<I->st.obj 900002 i=some ⟨1,(List.range J).map (rowV N (i*J))⟩:=fun i hi=>by unfold St.obj; rw [show st.site 900002=_ from h2]; exact zjf hi
 have s3:∀ p,p<T.length->st.obj 900003 p=some ⟨8,avs (T.getD p [])⟩:=fun p hp=>by unfold St.obj; rw [show st.site 900003=_ from h3]; exact zjg hp
 have c3:∀ i j,i<I->j<J->toPV st 2 (rowV N (i*J) j)=some (ybe J T i j):=fun i j hi hj=>by
  have hp:i*J+j<T.length:=by have:=yji J (ykx hi);rw [yjn] at this; omega
  have hn:(T.getD (i*J+j) []).length=N:=by rw [yj4,yj8 hp]; exact hN _ (yj2 hp)
  unfold rowV;rw [zly,s3 _ hp];simp only [List.drop_zero,ykz,zkf,hn,yj5,yjg];rw [yjl (by rw [zkf,hn]; exact yj5 _),zp9];rfl
 have c2:∀ i,i<I->toPV st 3 (outV J i)=some (rowP J T i):=fun i hi=>by unfold outV;rw [zly,s2 _ hi];simp only [List.drop_zero,ykz,yk2,List.length_range,yj5,yjg];rw [yjl (by simp),List.mapM_map,z1s (f:=toPV st 2∘rowV N (i*J)) (g:=ybe J T i) fun j hj=>c3 i j hi (yjk.1 hj)];rfl
 have c1:toPV st 4 (.own 900001 0 0 I)=some (tabA I J T):=by rw [zly,s1];simp only [List.drop_zero,ykz,yk2,List.length_range,yj5,yjg];rw [yjl (by simp),List.mapM_map,z1s (f:=toPV st 3∘outV J) (g:=rowP J T) fun i hi=>c2 i (yjk.1 hi)];rfl
 rw [FUEL,zze,s0];show (toPV st 5 (tabV t wx wy I)).map PV.ref=_;have:toPV st 5 (tabV t wx wy I)=some (tabP t wx wy (tabA I J T)):=by unfold tabV tabP;show (List.mapM (toPV st 4) _).map PV.agg=_;simp only [List.mapM_cons,List.mapM_nil,c1];rfl
 rw [this]; rfl
end Go.Ab
namespace Go.Ab
open Enc (enc)
def T100:Nat:=2^100
theorem z7j:0<T100:=yl8 (by omega)
theorem z3u:T100<4294967296^4:=by unfold T100; decide +kernel
structure LB (E H s:Nat):Prop where
 e:0<E
 h:T100*E<=H
 el:E<4294967296^s
 hl:H<4294967296^(s+8)
 s:s<=4000
def qL (E H n:Nat) (q:Rat):Prop:=∃ B,qb (E^(n / 100)) B q/\46656*B<=H^(n / 100)*2^(n % 100)
section
variable {E H s:Nat} (L:LB E H s)
include L in
theorem LB.ene (n:Nat):E^n≠0:=Nat.pos_iff_ne_zero.1 (yl8 L.e)
include L in
theorem z9d:∀ (c k a B:Nat) {q:Rat},k<100*c+100->qb (E^a) B q->46656*B<=H^a*2^k->qL E H (100*a+k) q
 | 0,k,a,B,q,hk,h1,h2=>by
  have e1:(100*a+k) / 100=a:=by omega
  have e2:(100*a+k) % 100=k:=by omega
  exact ⟨B,by rw [e1]; exact h1,by rw [e1,e2]; exact h2⟩
 | c+1,k,a,B,q,hk,h1,h2=>by
  by_cases hlt:k<100
  ·exact z9d 0 k a B (by omega) h1 h2
  ·have h3:=zhk E (Nat.pos_iff_ne_zero.1 L.e) h1;rw [<- Nat.pow_succ] at h3;have h4:46656*(B*E)<=H^(a+1)*2^(k - 100):=by
    have e1:2^k=2^(k - 100)*T100:=by unfold T100; rw [<- Nat.pow_add]; congr 1; omega
    calc 46656*(B*E)=46656*B*E:=by rw [ylr]
     _<=H^a*2^k*E:=yji _ h2
     _=H^a*2^(k - 100)*(T100*E):=by rw [e1]; simp only [ylr]
     _<=H^a*2^(k - 100)*H:=yk3 _ L.h
     _=H^(a+1)*2^(k - 100):=by rw [ylq]; ac_rfl
   have:=z9d c (k - 100) (a+1) (B*E) (by omega) h3 h4;have e:100*(a+1)+(k - 100)=100*a+k:=by omega
   rwa [e] at this
include L in
theorem z48 (k a B:Nat) {q:Rat} (h1:qb (E^a) B q) (h2:46656*B<=H^a*2^k):qL E H (100*a+k) q:=z9d L k k a B (by omega) h1 h2
include L in
theorem zpq {m n:Nat} {q:Rat} (h:qL E H m q) (k:m<=n):qL E H n q:=by
 obtain ⟨B,h1,h2⟩:=h;obtain ⟨j,rfl⟩:=Nat.le.dest k;have:=z48 L (m % 100+j) (m / 100) B h1 (yj6 h2 (yk3 _ (yl6 (by omega) (by omega))));have e:100*(m / 100)+(m % 100+j)=m+j:=by omega
 rwa [e] at this
theorem zf2 (n:Nat):qL E H n 0:=⟨0,zpo _,by omega⟩
include L in
theorem z7q {m:Nat} {p q:Rat} (h:qL E H m p) (h':qL E H m q):qL E H (m+1) (p+q):=by
 obtain ⟨B,h1,h2⟩:=h;obtain ⟨B',h1',h2'⟩:=h';have:=z48 L (m % 100+1) (m / 100) (B+B') (zvs h1 h1' (L.ene _)) (by rw [ylq,<- Nat.mul_assoc]; omega);have e:100*(m / 100)+(m % 100+1)=m+1:=by omega
 rwa [e] at this
theorem zmn {A B C D:Nat} (h1:46656*A<=C) (h2:46656*B<=D):46656*(46656*(A*B))<=C*D:=by
 have:=yjv h1 h2;have e:46656*A*(46656*B)=46656*(46656*(A*B)):=by ac_rfl
 omega
include L in
theorem z7p {m n B:Nat} {q:Rat} (h1:qb (E^(m / 100)*E^(n / 100)) B q) (h2:46656*B<=H^(m / 100)*2^(m % 100)*(H^(n / 100)*2^(n % 100))):qL E H (m+n) q:=by
 rw [<- Nat.pow_add] at h1;have:=z48 L (m % 100+n % 100) (m / 100+n / 100) B h1 (by
  refine yj6 h2 (Nat.le_of_eq ?_);rw [yjt,yjt]; ac_rfl)
 have e:100*(m / 100+n / 100)+(m % 100+n % 100)=m+n:=by omega
 rwa [e] at this
include L in
theorem ydf {m n:Nat} {p q:Rat} (h:qL E H m p) (h':qL E H n q):qL E H (m+n) (p*q):=by obtain ⟨B,h1,h2⟩:=h;obtain ⟨B',h1',h2'⟩:=h';have hb:=zmn h2 h2';exact z7p L (z7o h1 h1') (by omega)
def szN (s n:Nat):Nat:=(n / 100)*(s+8)+5
include L in
theorem L_D (n:Nat):E^(n / 100)<4294967296^szN s n:=by
 have h1:E^(n / 100)<=(4294967296^s)^(n / 100):=Nat.pow_le_pow_left (yl1 L.el) _;rw [<- Nat.pow_mul] at h1;refine ykf h1 (Nat.pow_lt_pow_right (by omega) ?_);unfold szN;have:s*(n / 100)<=(n / 100)*(s+8):=by rw [ylh]; exact yk3 _ (by omega)
 omega
include L in
theorem L_HB (n:Nat):H^(n / 100)*2^(n % 100)<4294967296^szN s n:=by
 have h1:H^(n / 100)<=(4294967296^(s+8))^(n / 100):=Nat.pow_le_pow_left (yl1 L.hl) _;rw [<- Nat.pow_mul] at h1;have h2:2^(n % 100)<4294967296^4:=ykf (show 2^(n % 100)<=T100 from yl6 (by omega) (by omega)) z3u;have e:szN s n=(s+8)*(n / 100)+4+1:=by unfold szN; rw [ylh]
 rw [e,ylq,yjt];have h3:H^(n / 100)*2^(n % 100)<=4294967296^((s+8)*(n / 100))*4294967296^4:=yjv h1 (yl1 h2);have h4:0<4294967296^((s+8)*(n / 100))*4294967296^4:=ylg (yl8 (by omega)) (yl8 (by omega));omega
structure GW.lb1 (E H n:Nat) (w:GW):Prop where
 q:qL E H n w.q.v
 p:∀ e,qL E H n (pc w.poly e)
structure GW.lb (E H n:Nat) (w:GW):Prop where
 o:w.lb1 E H n
 ps:∀ x∈w.parts,x.lb1 E H n
include L in
theorem GW.lb1.mono {m n:Nat} {w:GW} (h:w.lb1 E H m) (k:m<=n):w.lb1 E H n:=⟨zpq L h.q k,fun e=>zpq L (h.p e) k⟩
include L in
theorem GW.lb.mono {m n:Nat} {w:GW} (h:w.lb E H m) (k:m<=n):w.lb E H n:=⟨h.o.mono L k,fun x hx=>(h.ps x hx).mono L k⟩
theorem zm8 (n c i s):(GW.mk gr0 c i s [] []).lb1 E H n:=⟨by show qL E H n gr0.v; rw [zi8]; exact zf2 n,fun e=>zf2 n⟩
theorem zqq (n c i s ps):(GW.mk gr0 c i s [] ps).lb1 E H n:=⟨by show qL E H n gr0.v; rw [zi8]; exact zf2 n,fun e=>zf2 n⟩
theorem zg3 {n:Nat} {p:List GMono} (h:∀ e,qL E H n (pc p e)):pqb (E^(n / 100)) (H^(n / 100)*2^(n % 100) / 46656) p:=fun e=>by obtain ⟨B,h1,h2⟩:=h e;exact zgw h1 ((Nat.le_div_iff_mul_le (by omega)).2 (by omega))
include L in
theorem zoe {k:Int} {w:GW} {n:Nat} (hs:w.si k) (h:w.lb1 E H n) (hn:216<=szN s n):w.sm (szN s n):=by
 have hq:=si_q hs;have hp:=si_p hs;cases w with
 | mk q c i t p ps =>
  have e:ps=[]:=hs.1;subst e;have hB:H^(n / 100)*2^(n % 100) / 46656<4294967296^szN s n:=ykf (Nat.div_le_self _ _) (L_HB L n);have h1:q.sm (szN s n):=by
   obtain ⟨B,b1,b2⟩:=h.q;have:=z9b b1 (L.ene _) (L_D L n) (ykf (show B<=_ by omega) (L_HB L n))
   rwa [show rto (GW.q (GW.mk q c i t p [])).v=q from zgt hq] at this
  have h2:psm p (szN s n):=zgx (zg3 h.p) hp (L.ene _) (L_D L n) hB;exact .mk h1 h2 (by have:p.length<=216:=zbl hp; omega) (by simp) (by simp)
include L in
theorem zgd {r:GRing} {w:GW} {n:Nat} (hc:w.chk r) (h:w.lb E H n) (hn:216<=szN s n):w.sm (szN s n):=by
 by_cases h6:r.kind=6
 ·obtain ⟨l,e,hs⟩:=hc.2.2 h6;have hp:=GRing.ok_parts hc.1 h6;rw [e];refine .tup (by omega) fun x hx=>?_;obtain ⟨i,hi,rfl⟩:=yju.1 hx;exact zoe L (hs i (by omega) hi) (h.ps _ hx) hn
 ·exact zoe L (hc.2.1 h6) h.o hn
include L in
theorem zvy {k:Int} {v w:GW} {n:Nat} (sv:v.si k) (sw:w.si k) (hv:v.lb1 E H n) (hw:w.lb1 E H n):(zaq k v w).lb1 E H (n+1):=by
 unfold zaq;split
 ·exact ⟨by show qL E H (n+1) (rto (v.q.v+w.q.v)).v; rw [zbt]; exact z7q L hv.q hw.q,fun e=>zf2 _⟩
 ·split
  ·split
   ·exact hw.mono L (by omega)
   ·exact hv.mono L (by omega)
  ·split
   ·split
    ·exact hw.mono L (by omega)
    ·exact hv.mono L (by omega)
   ·split
    ·exact zm8 ..
    ·refine ⟨by show qL E H _ gr0.v; rw [zi8]; exact zf2 _,fun e=>?_⟩;show qL E H (n+1) (pc (padd v.poly w.poly) e);rw [zfa v.poly (zak.1 (si_p sw)).1];exact z7q L (hv.p e) (hw.p e)
include L in
theorem zrd {k:Int} {v w:GW} {m n:Nat} (sv:v.si k) (sw:w.si k) (hv:v.lb1 E H m) (hw:w.lb1 E H n):(zao k v w).lb1 E H (m+n+1):=by
 unfold zao;split
 ·exact ⟨by show qL E H _ (rto (v.q.v*w.q.v)).v; rw [zbt]; exact zpq L (ydf L hv.q hw.q) (by omega),fun e=>zf2 _⟩
 ·split
  ·split
   ·exact zm8 ..
   ·exact zm8 ..
  ·split
   ·exact zm8 ..
   ·refine ⟨by show qL E H _ gr0.v; rw [zi8]; exact zf2 _,fun e=>?_⟩;show qL E H _ (pc (pmul v.poly w.poly) e);have pv:=si_p sv;have pw:=si_p sw;have h1:=ztv (zhn (zg3 hv.p) pv) (zhn (zg3 hw.p) pw) (Nat.mul_ne_zero (L.ene _) (L.ene _)) e;have l1:=zbl pv;have l2:=zbl pw;have b1:=yls (H^(m / 100)*2^(m % 100)) 46656;have b2:=yls (H^(n / 100)*2^(n % 100)) 46656;have hb:=zmn b1 b2;refine zpq L (z7p L h1 (yj6 (yk3 _ ?_) hb)) (by omega);generalize H^(m / 100)*2^(m % 100) / 46656*(H^(n / 100)*2^(n % 100) / 46656)=C;have h3:v.poly.length*(w.poly.length*C)<=216*(216*C):=yjv l1 (yji _ l2);omega
include L in
theorem z9j {r:GRing} {v w:GW} {n:Nat} (cv:v.chk r) (cw:w.chk r) (hv:v.lb E H n) (hw:w.lb E H n):(r.plus v w).lb E H (n+1):=by
 by_cases h6:r.kind=6
 ·have lv:=(cv.2.2 h6).1;have lw:=(cw.2.2 h6).1;have e:r.plus v w=.mk gr0 0 false 0 [] (zd3 r.parts v.parts w.parts):=by simp [GRing.plus,h6]
  rw [e];have hl:=zbb (ks:=r.parts) (vs:=v.parts) (ws:=w.parts) lv lw;refine ⟨zqq ..,fun x hx=>?_⟩;obtain ⟨i,hi,rfl⟩:=yju.1 hx;simp only [GW.parts_mk] at hi;have h3:i<r.parts.length:=by omega
  have:=zbk h3 (by omega:i<v.parts.length) (by omega:i<w.parts.length) hi;simp only [GW.parts_mk];rw [this];exact zvy L ((cv.2.2 h6).2.2 i h3 (by omega)) ((cw.2.2 h6).2.2 i h3 (by omega)) (hv.ps _ (yj2 _)) (hw.ps _ (yj2 _))
 ·have hk:=GRing.ok_kind cv.1 h6;have e:r.plus v w=zaq r.kind v w:=by simp [GRing.plus,h6]
  have sp:=zb7 ⟨hk.1,hk.2.1⟩ (cv.2.1 h6) (cw.2.1 h6);rw [e];exact ⟨zvy L (cv.2.1 h6) (cw.2.1 h6) hv.o hw.o,fun x hx=>by rw [sp.1] at hx; cases hx⟩
include L in
theorem z36 {r:GRing} {v w:GW} {m n:Nat} (cv:v.chk r) (cw:w.chk r) (hv:v.lb E H m) (hw:w.lb E H n):(r.times v w).lb E H (m+n+1):=by
 by_cases h6:r.kind=6
 ·have lv:=(cv.2.2 h6).1;have lw:=(cw.2.2 h6).1;have e:r.times v w=.mk gr0 0 false 0 [] (zcm r.parts v.parts w.parts):=by simp [GRing.times,h6]
  rw [e];have hl:=zaz (ks:=r.parts) (vs:=v.parts) (ws:=w.parts) lv lw;refine ⟨zqq ..,fun x hx=>?_⟩;obtain ⟨i,hi,rfl⟩:=yju.1 hx;simp only [GW.parts_mk] at hi;have h3:i<r.parts.length:=by omega
  have:=za7 h3 (by omega:i<v.parts.length) (by omega:i<w.parts.length) hi;simp only [GW.parts_mk];rw [this];exact zrd L ((cv.2.2 h6).2.2 i h3 (by omega)) ((cw.2.2 h6).2.2 i h3 (by omega)) (hv.ps _ (yj2 _)) (hw.ps _ (yj2 _))
 ·have hk:=GRing.ok_kind cv.1 h6;have e:r.times v w=zao r.kind v w:=by simp [GRing.times,h6]
  have sp:=za9 ⟨hk.1,hk.2.1⟩ (cv.2.1 h6) (cw.2.1 h6);rw [e];exact ⟨zrd L (cv.2.1 h6) (cw.2.1 h6) hv.o hw.o,fun x hx=>by rw [sp.1] at hx; cases hx⟩
end
section
variable {E H s:Nat} (L:LB E H s)
theorem leM {a:Nat} (k:a<=1048576):4294967296^a<=4294967296^1048576:=by
 generalize (1048576:Nat)=N at *
 exact zdu k
theorem ltM {x a:Nat} (h:x<4294967296^a) (k:a<=1048576):x<4294967296^1048576:=yk0 h (leM k)
include L in
theorem z0n {k:Int} (hk:1<=k/\k<=5) {v w:GW} {n:Nat} (hv:v.lb1 E H n) (hw:w.lb1 E H n) (hn:216<=szN s n) (hs:szN s n<=400000) (cv:v.chk ⟨k,[]⟩) (cw:w.chk ⟨k,[]⟩) :
  Sp P F.aa [enc (⟨k,[]⟩:GRing),enc v,enc w] (.pure (enc (zaq k v w))):=by
 have h6:(⟨k,[]⟩:GRing).kind≠6:=by show k≠6; omega
 have hv':=(zoe L (cv.2.1 h6) hv hn).mono (show szN s n<=1048576 by omega);have hw':=(zoe L (cw.2.1 h6) hw hn).mono (show szN s n<=1048576 by omega);have:k=1\/k=2\/k=3\/k=4\/k=5:=by omega
 rcases this with rfl|rfl|rfl|rfl|rfl
 ·exact z0u v w hv' hw' cv cw
 ·exact z0t v w hv' hw' cv cw
 ·exact z0s v w hv' hw' cv cw
 ·exact z0r v w hv' hw' cv cw
 ·have hB:H^(n / 100)*2^(n % 100) / 46656<4294967296^szN s n:=ykf (Nat.div_le_self _ _) (L_HB L n);exact z0q v w hv' hw' cv cw _ _ _ (zg3 hv.p) (zg3 hw.p) (L.ene _) (ltM (L_D L n) (by omega)) (ltM (zlw _ _ _ hB hB) (by omega))
include L in
theorem yd1 {m n:Nat} (hm:szN s m<=400000) (hn:szN s n<=400000):E^(m / 100)*E^(n / 100)<4294967296^1048576/\46656*(H^(m / 100)*2^(m % 100) / 46656*(H^(n / 100)*2^(n % 100) / 46656))<4294967296^1048576:=by
 refine ⟨?_,?_⟩
 ·refine yk0 (yl7 (L_D L m) (L_D L n)) ?_;rw [<- Nat.pow_add]; exact leM (by omega)
 ·have b1:=yls (H^(m / 100)*2^(m % 100)) 46656;have b2:=yls (H^(n / 100)*2^(n % 100)) 46656;have hb:=zmn b1 b2;have h3:=yl7 (L_HB L m) (L_HB L n);rw [<- Nat.pow_add] at h3;have h4:4294967296^(szN s m+szN s n)<=4294967296^1048576:=leM (by omega);exact ykf (by omega) (yk0 h3 h4)
include L in
theorem zve {k:Int} (hk:1<=k/\k<=5) {v w:GW} {n:Nat} (hv:v.lb1 E H n) (hw:w.lb1 E H n) (hn:216<=szN s n) (hs:szN s n<=400000) (cv:v.chk ⟨k,[]⟩) (cw:w.chk ⟨k,[]⟩) :
  Sp P F.ae [enc (⟨k,[]⟩:GRing),enc v,enc w] (.pure (enc (zao k v w))):=by
 have h6:(⟨k,[]⟩:GRing).kind≠6:=by show k≠6; omega
 have sv:=zoe L (cv.2.1 h6) hv hn;have sw:=zoe L (cw.2.1 h6) hw hn;have hv':=sv.mono (show szN s n<=1048576 by omega);have hw':=sw.mono (show szN s n<=1048576 by omega);have:k=1\/k=2\/k=3\/k=4\/k=5:=by omega
 rcases this with rfl|rfl|rfl|rfl|rfl
 ·exact z4f v w hv' hw' cv cw
 ·exact z4e v w hv' hw' cv cw
 ·exact z4d v w hv' hw' cv cw
 ·exact z4c v w hv' hw' cv cw
 ·obtain ⟨a1,a2⟩:=yd1 L hs hs;exact z4b v w hv' hw' cv cw _ _ _ _ (zg3 hv.p) (zg3 hw.p) (L.ene _) (L.ene _) a1 a2 (sv.poly.monoR (by omega)) (sw.poly.monoR (by omega))
include L in
theorem z9l (r:GRing) {v w:GW} {n:Nat} (hv:v.lb E H n) (hw:w.lb E H n) (hn:216<=szN s n) (hs:szN s n<=400000) (cv:v.chk r) (cw:w.chk r):Sp P F.aa [enc r,enc v,enc w] (.pure (enc (r.plus v w))):=by
 have hr0:=cv.1;by_cases h6:r.kind=6
 ·exact z0p r v w ((zgd L cv hv hn).mono (by omega)) ((zgd L cw hw hn).mono (by omega)) cv cw h6 fun i h h1 h2 =>
   z0n L ((GRing.ok_parts hr0 h6).2.2 _ (yj2 h)) (hv.ps _ (yj2 h1)) (hw.ps _ (yj2 h2)) hn hs (zel cv h6 h h1) (zel cw h6 h h2)
 ·have hk:=GRing.ok_kind hr0 h6;have he:r=⟨r.kind,[]⟩:=by rw [<- hk.2.2]
  have h1:r.plus v w=zaq r.kind v w:=by simp [GRing.plus,h6]
  rw [h1,he];rw [he] at cv cw;exact z0n L ⟨hk.1,hk.2.1⟩ hv.o hw.o hn hs cv cw
include L in
theorem z38 (r:GRing) {v w:GW} {n:Nat} (hv:v.lb E H n) (hw:w.lb E H n) (hn:216<=szN s n) (hs:szN s n<=400000) (cv:v.chk r) (cw:w.chk r):Sp P F.ae [enc r,enc v,enc w] (.pure (enc (r.times v w))):=by
 have hr0:=cv.1;by_cases h6:r.kind=6
 ·exact z4a r v w ((zgd L cv hv hn).mono (by omega)) ((zgd L cw hw hn).mono (by omega)) cv cw h6 fun i h h1 h2 =>
   zve L ((GRing.ok_parts hr0 h6).2.2 _ (yj2 h)) (hv.ps _ (yj2 h1)) (hw.ps _ (yj2 h2)) hn hs (zel cv h6 h h1) (zel cw h6 h h2)
 ·have hk:=GRing.ok_kind hr0 h6;have he:r=⟨r.kind,[]⟩:=by rw [<- hk.2.2]
  have h1:r.times v w=zao r.kind v w:=by simp [GRing.times,h6]
  rw [h1,he];rw [he] at cv cw;exact zve L ⟨hk.1,hk.2.1⟩ hv.o hw.o hn hs cv cw
theorem z8d {r:GRing} (hr:r.ok=true) (E H:Nat):r.zero.lb E H 0:=by unfold GRing.zero;rw [yj1 hr];refine ⟨zqq ..,fun x hx=>?_⟩;obtain ⟨k,_,rfl⟩:=yj3.1 hx;exact zm8 ..
def lwM (r:GRing) (hr:r.ok=true) (lim:Nat) (h1:216<=szN s lim) (h2:szN s lim<=400000):Meas r where
 mb n w:=w.lb E H n
 lim:=lim
 mono h k:=h.mono L k
 zero:=z8d hr E H
 plus cv cw hv hw:=z9j L cv cw hv hw
 times cv cw hv hw:=z36 L cv cw hv hw
 plusS:=fun {v w n} hn cv cw hv hw=>z9l L r (hv.mono L hn) (hw.mono L hn) h1 h2 cv cw
 timesS:=fun {v w n} hn cv cw hv hw=>z38 L r (hv.mono L hn) (hw.mono L hn) h1 h2 cv cw
end
def GW.den1 (w:GW):Nat:=w.q.v.den*pden w.poly
def GW.den (w:GW):Nat:=w.den1*(w.parts.map GW.den1).foldr (· * ·) 1
def lden (l:List GW):Nat:=(l.map GW.den).foldr (· * ·) 1
theorem zps {a:Nat}:∀ {l:List Nat},a∈l->a ∣ l.foldr (· * ·) 1
 | x::l,h=>by
  rcases yj9.1 h with rfl|h
  ·exact ylt _ _
  ·exact ykm (zps h) (ylu _ _)
theorem zpr:∀ {l:List Nat},(∀ x∈l,0<x)->0<l.foldr (· * ·) 1
 | [],_=>Nat.one_pos
 | x::l,h=>ylg (h x (by simp)) (zpr fun y hy=>h y (by simp [hy]))
theorem ztu {a:Nat}:∀ {l:List Nat},(∀ x∈l,x<=4294967296^a)->l.foldr (· * ·) 1<=4294967296^(l.length*a)
 | [],_=>by simp
 | x::l,h=>by
  have:=yjv (h x (by simp)) (ztu (l:=l) fun y hy=>h y (by simp [hy]));rw [<- Nat.pow_add] at this;have e:(x::l).length*a=a+l.length*a:=by simp [yjn]; omega
  rw [e]; exact this
structure GW.li1 (w:GW):Prop where
 q:w.q.sm 3
 l:w.poly.length<=8
 p:psm w.poly 3
structure GW.li (w:GW):Prop where
 o:w.li1
 l:w.parts.length<=4
 ps:∀ x∈w.parts,x.li1
theorem GW.sm.li1 {w:GW} (h:w.sm 3):w.li1:=⟨h.q,by have:=h.len; omega,h.poly⟩
theorem GW.sm.li {w:GW} (h:w.sm 3):w.li:=⟨h.li1,by have:=h.plen; omega,fun x hx=>(h.parts x hx).li1⟩
theorem z28 {w:GW} (h:w.li1):w.den1<=4294967296^28:=by have a:=(ratb h.q (by omega)).2;have b:=ztx h.p (by omega);have hl:=h.l;have b':pden w.poly<=4294967296^25:=yl1 (yk0 b (yl6 (by omega) (by omega)));have:=yjv (yl1 a) b';rw [<- Nat.pow_add] at this;exact this
theorem zw5 (w:GW):0<w.den1:=ylg (ym6 w.q.v.den_nz) (ym6 (zho _))
theorem ye3 {w:GW} (h:w.li):w.den<=4294967296^140:=by have:=yjv (z28 h.o) (ztu (a:=28) (l:=w.parts.map GW.den1) fun x hx=>by obtain ⟨y,hy,rfl⟩:=yj3.1 hx; exact z28 (h.ps y hy));rw [<- Nat.pow_add] at this;refine yj6 this (yl6 (by omega) ?_);have:=h.l;rw [yk2]; omega
theorem yba (w:GW):0<w.den:=ylg (zw5 w) (zpr fun x hx=>by obtain ⟨y,_,rfl⟩:=yj3.1 hx; exact zw5 y)
theorem z5z (l:List GW):0<lden l:=zpr fun x hx=>by obtain ⟨y,_,rfl⟩:=yj3.1 hx; exact yba y
theorem yae {l:List GW} {n:Nat} (h:∀ w∈l,w.li) (hl:l.length<=n):lden l<4294967296^(n*140+1):=by
 have:=ztu (a:=140) (l:=l.map GW.den) fun x hx=>by obtain ⟨y,hy,rfl⟩:=yj3.1 hx; exact ye3 (h y hy)
 rw [yk2] at this;refine ykf this (Nat.pow_lt_pow_right (by omega) ?_);have:=yji 140 hl;omega
theorem z51 {l:List GW} {w:GW} (h:w∈l):w.den ∣ lden l:=zps (yj3.2 ⟨w,h,rfl⟩)
def HH (E:Nat):Nat:=46656*4294967296^3*(T100*E)
theorem yim {E s:Nat} (he:0<E) (hl:E<4294967296^s) (hs:s<=4000):LB E (HH E) s:=by
 refine ⟨he,?_,hl,?_,hs⟩
 ·unfold HH; exact ym7 _ (by decide +kernel)
 ·have h1:T100*E<4294967296^(4+s):=by rw [yjt]; exact yl7 z3u hl
  have h2:46656*4294967296^3<4294967296^4:=by decide +kernel
  have:=yl7 h2 h1;rw [<- Nat.pow_add] at this;have e:4+(4+s)=s+8:=by omega
  rw [e] at this;exact this
section
variable {E s:Nat} (L:LB E (HH E) s)
include L in
theorem z7n {x:GRat} (hx:x.sm 3) (hd:x.v.den ∣ E):qL E (HH E) 100 x.v:=by
 obtain ⟨c,hc⟩:=hd;have hc0:c≠0:=by rintro rfl; have:=L.e; omega
 have h1:=zhk c hc0 (zpp x.v);rw [<- hc] at h1;have h2:=(ratb hx (by omega)).1;have:=z48 L 0 1 (x.v.num.natAbs*c) (by rw [Nat.pow_one]; exact h1) (by
  rw [Nat.pow_one,Nat.pow_zero,Nat.mul_one];unfold HH;have a:x.v.num.natAbs*c<=4294967296^3*E:=yjv (yl1 h2) (by rw [hc]; exact ym7 _ (ym6 x.v.den_nz));have b:E<=T100*E:=ym7 _ z7j
  calc 46656*(x.v.num.natAbs*c)<=46656*(4294967296^3*E):=yk3 _ a
   _=46656*4294967296^3*E:=by rw [ylr]
   _<=_:=yk3 _ b)
 exact this
theorem zv2:∀ {p:List GMono} {m:GMono},m∈p->m.coef.v.den ∣ pden p
 | x::p,m,h=>by
  rcases yj9.1 h with rfl|h
  ·exact ylt _ _
  ·exact ykm (zv2 h) (ylu _ _)
include L in
theorem z11 {w:GW} (hp:PVal w.poly) (h:w.li1) (hd:w.den1 ∣ E):w.lb1 E (HH E) 100:=by
 refine ⟨z7n L h.q (ykm (ylt _ _) hd),fun e=>?_⟩;rcases zix hp e with h'|⟨m,hm,h'⟩
 ·rw [h']; exact zf2 _
 ·rw [h']; exact z7n L (h.p m hm) (ykm (zv2 hm) (ykm (ylu _ _) hd))
include L in
theorem yhm {r:GRing} {w:GW} (hc:w.chk r) (h:w.li) (hd:w.den ∣ E):w.lb E (HH E) 100:=by
 have hq:w.den1 ∣ E:=ykm (ylt _ _) hd;by_cases h6:r.kind=6
 ·obtain ⟨l,e,hs⟩:=hc.2.2 h6;refine ⟨z11 L (by rw [e]; exact zml) h.o hq,fun x hx=>?_⟩;obtain ⟨i,hi,rfl⟩:=yju.1 hx;exact z11 L (si_p (hs i (by omega) hi)) (h.ps _ hx) (ykm (zps (yj3.2 ⟨_,hx,rfl⟩)) (ykm (ylu _ _) hd))
 ·have sp:=hc.2.1 h6;exact ⟨z11 L (si_p sp) h.o hq,fun x hx=>by rw [sp.1] at hx; cases hx⟩
end
theorem ycq {r:GRing} (M:Meas r) {n:Nat} {l:List GTArc} (h:∀ x∈l,M.mb n x.w/\x.w.chk r):∀ x∈tidT r l,M.mb (l.length+n) x.w:=fun x hx=>by
 have hs:=zcn (key:=GTArc.key) l;have h':∀ x∈srt GTArc.key l,M.mb n x.w/\x.w.chk r:=fun x hx=>h x ((hs.2.2 x).1 hx)
 have iv:=zp6 (key:=GTArc.key) (up:=upT r) (nw:=id) (Q:=fun k x=>M.mb (k+n) x.w/\x.w.chk r) (fun k x hx=>⟨M.mono hx.1 (by omega),hx.2⟩) (l:=srt GTArc.key l) (fun x hx=>⟨M.mono (h' x hx).1 (by show n<=0+n; omega),(h' x hx).2⟩)
  (fun k z x hx hz=>⟨by have:=M.plus hz.2 (h' x hx).2 hz.1 (M.mono (h' x hx).1 (by omega)); exact M.mono this (by omega),(zcr hz.2 (h' x hx).2:(r.plus z.w x.w).chk r)⟩) (fun k x hx=>⟨M.mono hx.1 (by omega),hx.2⟩) _ (yj5 _)
 rw [yjl (yj5 _),hs.2.1] at iv;exact (iv.2 x (yk1.1 hx).1).1
theorem z5p {t:GTrans} (ok:t.ok) (M:Meas t.ring) {n:Nat} (hi:∀ w∈t.ini,M.mb n w) (hf:∀ w∈t.fin,M.mb n w) (ha:∀ x∈t.arcs,M.mb n x.w):t.nf.fits M (t.arcs.length+n):=by have h0:=ok.il;have h1:=ok.fl;have hc:∀ x∈t.arcs,x.w.chk t.ring:=fun x hx=>(ok.arcs x hx).2.2.2.2.2.2.2.2;have ht:=ycq M (n:=n) fun x hx=>⟨ha x hx,hc x hx⟩;refine ⟨rfl,⟨ok.st1,ok.st2⟩,fun x hx=>?_,⟨fun w hw=>⟨ok.ini w hw,M.mono (hi w hw) (by omega)⟩,by show t.ini.length=t.st.toNat; omega⟩,⟨fun w hw=>⟨ok.fin w hw,M.mono (hf w hw) (by omega)⟩,by show t.fin.length=t.st.toNat; omega⟩,ok.ring⟩;obtain ⟨a1,a2,a3,a4,a5,a6,a7,a8,a9⟩:=(zwc ok).arcs x hx;have e:t.nf.st=t.st:=rfl;refine ⟨⟨a9,ht x hx⟩,⟨a1,by show x.f<(t.nf.st.toNat:Int); omega⟩,a3,by show x.t<(t.nf.st.toNat:Int); omega⟩
def GTrans.wts (t:GTrans):List GW:=t.ini++(t.fin++t.arcs.map GTArc.w)
theorem ltW {x a b:Nat} (h:x<4294967296^a) (k:a<=b):x<4294967296^b:=yk0 h (zdu k)
end Go.Ab
