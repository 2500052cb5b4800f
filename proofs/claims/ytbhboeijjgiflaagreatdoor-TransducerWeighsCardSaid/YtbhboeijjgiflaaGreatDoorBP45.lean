/-
Proofs for the law TransducerWeighs, part 45. Conditions: none.
-/
import Derived.Test.YtbhboeijjgiflaaGreatDoorBP44
import Derived.Test.YtbhboeijjgiflaaGreatDoorBP39
import Derived.Test.YtbhboeijjgiflaaGreatDoorBP43
import Derived.Test.YtbhboeijjgiflaaGreatDoorBP29
import Derived.Test.YtbhboeijjgiflaaGreatDoorBP15
import Derived.Test.YtbhboeijjgiflaaGreatDoorBP30
set_option maxRecDepth 100000
set_option maxHeartbeats 4000000
set_option linter.all false
namespace Go.Ab
open Enc (enc)
attribute [local go_sem] zal Opd.slots
theorem z9p {l:List Int} (h:∀ y∈l,0<=y):toI (l.map Int.toNat)=l:=by unfold toI;rw [ym7];refine (yl9 fun y hy=>?_).trans (List.map_id l);have:=h y hy;simp only [ymt,id];omega
theorem z4z {r:GRing} {ini:List GW} {K N:Nat} (h:0<K):T0 r ini K N=ini::List.replicate (K - 1) (List.replicate N r.zero):=by obtain ⟨K,rfl⟩:∃ k,K=k+1:=⟨K - 1,by omega⟩;unfold T0;rw [yn1]; rfl
theorem z4e {u:GTrans} (ok:u.ok):ckT u.ring u:=by have:=ok.fl;refine ⟨rfl,ok.ring,⟨ok.fin,by omega⟩,fun x hx=>?_⟩;obtain ⟨a1,a2,a3,a4,a5,a6,a7,a8,a9⟩:=ok.arcs x hx;have:=ok.st1;exact ⟨a9,⟨a1,by omega⟩,a3,by omega⟩
theorem zl1 (t:GTrans) (M:Meas t.nf.ring) (mp:MeasP M) {z n:Nat} (hn:n<=90) (hn1:3<=n) (h:t.sm n) (hl:t.arcs.length<=19) (ok:t.ok) (ht:t.nf.fits M z) (hML:M.lim<=1000000) (wx wy:List Int) (hwx:zdr wx t.i) (hwy:zdr wy t.o) (hc:emC t=false)
  (hlim:z+(wx.length+1)*((wy.length+1)*(t.st.toNat*sLv z t.nf.arcs))+z+1+t.st.toNat<=M.lim) :
  Sp P F.an [enc t,.sl (ens wx),.sl (ens wy)] (.pure (.tup [enc (wgt t.nf wx wy),.int .i64 0]))/\(wgt t.nf wx wy).chk t.nf.ring/\M.mb (z+(wx.length+1)*((wy.length+1)*(t.st.toNat*sLv z t.nf.arcs))+z+1+t.st.toNat) (wgt t.nf wx wy)/\(wgt t.nf wx wy).sm 400000:=by
 have uok:=zw8 ok;have hal:=zkc t;have s1:=ok.st1;have s2:=ok.st2;have kn:=zfw t n hn hn1 h hl (by have:=ok.il; omega) (by have:=ok.fl; omega);rw [yj9 ok,yj9 ok] at kn;obtain ⟨N,hN⟩:∃ N:Nat,N=t.st.toNat:=⟨_,rfl⟩;have hst:t.nf.st=(N:Int):=by show t.st=_; omega
 have hN64:N<=64:=by omega
 obtain ⟨s,hk,hs⟩:=zi3 t.nf N hst (by omega) (by omega) (by rw [hN]; exact zhy ok);have hspec:=zu9 (t:=t.nf) (zhy ok) (by rw [hN] at hk; exact hk);have hnl:¬ s.2.length<t.nf.st.toNat:=fun hlt=>by have:=hspec.1.1 hlt;have e:emC t=cycF t.st.toNat (emP t.nf.arcs):=rfl;rw [hc] at e;rw [show t.nf.st.toNat=t.st.toNat from rfl,<- e] at this;cases this
 have ho:=hspec.2 hnl;have hoI:toI (s.2.map Int.toNat)=s.2:=z9p fun y hy=>(hk.c.rng y hy).1;have hol:=ho.len;rw [ylj] at hol;have holt:∀ q∈s.2.map Int.toNat,q<N:=fun q hq=>by rw [hN]; exact (ho.all q).1 hq
 generalize hord:s.2.map Int.toNat=ord at *
 rw [<- hoI] at hs;have hordl:ord.length=s.2.length:=by rw [<- hord,ylj]
 have hordl2:ord.length<=N:=by rw [hordl,hN]; exact hol
 have hNl:¬ ord.length<N:=by rw [hordl,hN]; exact hnl
 have hi:t.nf.ini.length=N:=by have:=ok.il; show t.ini.length=N; omega
 have hf:t.nf.fin.length=N:=by have:=ok.fl; show t.fin.length=N; omega
 have fo:fillOk t.nf M z:=⟨uok.ring,z4e uok,mp,fun x hx=>(ht.arcs x hx).1,fun x hx=>by
  obtain ⟨a1,a2,a3,a4,a5,a6,a7,a8,a9⟩:=uok.arcs x hx;have:=uok.i1; have:=uok.o1
  exact ⟨⟨by omega,by omega⟩,by omega,by omega⟩,by omega,hML⟩
 have hx1:=hwx.2.1;have hy1:=hwy.2.1;have hK:0<plN wx wy:=by have:=zur (ylk wx.length) (ylk wy.length); omega
 have hck:ckL t.nf.ring t.nf.st.toNat t.nf.ini:=⟨uok.ini,by rw [hi,hst]; rfl⟩;have hT0:=ygf (z4e uok) hck hK;have hv0:vbT M z (T0 t.nf.ring t.nf.ini (plN wx wy) N):=by
  intro l hl;rw [z4z hK] at hl;rcases yk5.1 hl with rfl|hl
  ·exact ht.ini.1
  ·rw [yoc hl]; exact zv2 M uok.ring _ _
 rw [show t.nf.st.toNat=N by rw [hst]; rfl] at hT0;have hfw:=ybl (r:=t.nf.ring) (t:=t.nf) uok.ring (z4e uok) (wx:=wx) (wy:=wy) ho hck;rw [show t.nf.st.toNat=N by rw [hst]; rfl] at hfw;have hsl:ord.length*sLv z t.nf.arcs<=t.st.toNat*sLv z t.nf.arcs:=ykd _ (by omega);have hsl2:(wx.length+1)*((wy.length+1)*(ord.length*sLv z t.nf.arcs))<=(wx.length+1)*((wy.length+1)*(t.st.toNat*sLv z t.nf.arcs)):=yly _ (yly _ hsl);have hfill:=z7n fo (wx:=wx) (wy:=wy) (I:=wx.length+1) (J:=wy.length+1) (N:=N) rfl rfl (by rw [hst]; rfl) (by omega) (by omega) (B:=z) (T:=T0 t.nf.ring t.nf.ini (plN wx wy) N) (ord:=ord) holt (by omega) (by rw [show t.nf.st.toNat=N by rw [hst]; rfl]; exact hT0) hv0 (by omega);obtain ⟨t1,t2⟩:=z3o fo (wx:=wx) (wy:=wy) (ord:=ord) (B:=z) (T:=T0 t.nf.ring t.nf.ini (plN wx wy) N) (by rw [show t.nf.st.toNat=N by rw [hst]; rfl]; exact hT0) hv0 (wx.length+1) (yk6 _);obtain ⟨f1,f2⟩:=hfw;have hp:wx.length*(wy.length+1)+wy.length<plN wx wy:=zur (yk6 _) (yk6 _);have hrow:=f1.get hp;have hvr:=t2.get (wx.length*(wy.length+1)+wy.length);have hvf:vb M z t.nf.fin:=ht.fin.1;rw [<- f2];have hW:=zpz (M:=M) uok.ring hvr hvf N (by rw [hrow.2]; exact yk6 _) (by rw [hf]; exact yk6 _);rw [zi1 (by rw [hrow.2]; exact yk6 _)] at hW;refine ⟨?_,hW.1,M.mono hW.2 (by omega),mp.smP (n:=z+(wx.length+1)*((wy.length+1)*(ord.length*sLv z t.nf.arcs))+z+1+N) (by omega) hW.1 hW.2⟩;clear hW;have htail:=fun R hR=>yc7 (t:=t.nf) mp uok.ring (wx:=wx) (wy:=wy) (ord:=ord) (N:=N) (T:=flT t.nf.ring wx wy t.nf.arcs ord (T0 t.nf.ring t.nf.ini (plN wx wy) N) (wx.length+1)) rfl rfl (by omega) (by omega) f1.1 rfl hrow.2 hf (by omega) hvr hvf (by omega) R hR;have hname:=fun R hR=>yc8 (t:=t.nf) (wx:=wx) (wy:=wy) (ord:=ord) (N:=N) hst (by omega) rfl rfl (by omega) (by omega) R hi (z4z (r:=t.nf.ring) (ini:=t.nf.ini) (N:=N) hK) hR;have hbuild:=fun R hR=>z9i (t:=t.nf) (wx:=wx) (wy:=wy) (ord:=ord) (N:=N) hst (by omega) rfl rfl (by omega) (by omega) R (A:=none) hR;have hu:t.nf.fin.length=N:=hf;have hui:t.nf.i=t.i:=rfl;have huo:t.nf.o=t.o:=rfl;have vx:=zit wx t.i (by omega);have vy:=zit wy t.o (by omega);have dx:decide ((1<=t.i/\t.i<=32)/\wx.length<=256/\∀ x∈wx,1<=x/\x<=t.i)=true:=decide_eq_true hwx;have dy:decide ((1<=t.o/\t.o<=32)/\wy.length<=256/\∀ x∈wy,1<=x/\x<=t.o)=true:=decide_eq_true hwy;rw [dx] at vx;rw [dy] at vy;rw [<- hui] at vx;rw [<- huo] at vy;generalize sumW t.nf.ring _ t.nf.fin=W at *
 generalize flT t.nf.ring wx wy t.nf.arcs ord (T0 t.nf.ring t.nf.ini (plN wx wy) N) (wx.length+1)=T1 at *
 generalize T0 t.nf.ring t.nf.ini (plN wx wy) N=T00 at *
 have hl0:¬ ((ord.length:Int)<(N:Int)):=by omega
 refine Sp.of_mr c.an (by simp) ?_;generalize hR:(fun (ex:Exit) (s:St) (_:Option FA)=>retP [(6,some 8),(7,none)] (.pure (.tup [enc W,.int .i64 0])) ex s)=R;have hfin:∀ s,retP [(6,some 8),(7,none)] (.pure (.tup [enc W,.int .i64 0])) .ret s->R .ret s none:=fun s hs=>by subst hR; exact hs
 have hmain:MR P 132 zrs.er (w1S t.nf wx wy ord) none R:=hbuild R fun s hw=>MR.weak hw (hname R fun s hw=>MR.weak hw (yc9 R hfill fun s hw=>MR.weak hw (htail R hfin)));clear hbuild hname htail hfill hfin hR;rw [zv4];unfold zyi zz8 zz9 wtA4 wtA3 wtA2 wtA1;generalize zrs=W13 at *
 refine MR.gseq ?_;simp [go_sem];refine MR.gseq ?_;simp [go_sem];refine zab kn ?_;generalize t.nf=u at *
 simp [go_sem];refine MR.gseq ?_;simp [go_sem];refine zab hs ?_;simp [go_sem];refine MR.gseq ?_;simp [go_sem,zdk,hst,hl0];refine zab vx ?_;simp [go_sem];refine zab vy ?_;simp [go_sem];refine MR.weak (Weak.to [1,2,3,6,9] [((3,0),3),((6,0),6)] ?_) hmain;simp [go_sem,w1S,mkSt,z8,hst]
end Go.Ab
namespace Go.Ab
open Enc (enc)
attribute [local go_sem] zal Opd.slots
theorem zt2 (t:GTrans) {n:Nat} (hn:n<=90) (hn1:3<=n) (h:t.sm n) (hl:t.arcs.length<=19) (li:t.ini.length<=1000000) (lf:t.fin.length<=1000000) (ok:¬ t.ok) (wx wy:List Int) :
  Sp P F.an [enc t,.sl (ens wx),.sl (ens wy)] (.pure (.tup [enc gw0,.int .i64 4])):=by
 have kn:=zfw t n hn hn1 h hl li lf;rw [yj8 ok,yj8 ok] at kn;obtain ⟨s,hk,hs⟩:=zi3 zkk 0 rfl (by omega) (by simp [zkk]) (by simp [zkk]);refine Sp.vz c.an fun _=>?_;rw [zv4];unfold zyi zz8 zz9 wtA4 wtA3;generalize zrs=W13 at *
 generalize wtA2=W2 at *
 generalize zkk=u at *
 simp [go_sem];refine zab kn ?_;simp [go_sem];refine zab hs ?_;simp [go_sem,gw0,gr0]
theorem zop {t:GTrans} {n:Nat} (hn:n<=90) (hn1:3<=n) (h:t.sm n) (hl:t.arcs.length<=19) (ok:t.ok):∃ s:List Int,(((s.length:Int)<t.nf.st) ↔ emC t=true)/\Sp P F.dq [enc t.nf] (.pure (.sl (ens s))):=by
 have hst:t.nf.st=(t.st.toNat:Nat):=by have:=ok.st1; show t.st=_; omega
 have hal:=zkc t;obtain ⟨s,hk,hs⟩:=zi3 t.nf t.st.toNat hst (by have:=ok.st2; omega) (by omega) (zhy ok);have hsp:=(zu9 (t:=t.nf) (zhy ok) hk).1;refine ⟨s.2,?_,hs⟩;have:((s.2.length:Int)<t.nf.st) ↔ s.2.length<t.nf.st.toNat:=by have:=ok.st1; rw [hst]; show _ ↔ s.2.length<t.st.toNat; omega
 rw [this,hsp]; rfl
theorem zt3 (t:GTrans) {n:Nat} (hn:n<=90) (hn1:3<=n) (h:t.sm n) (hl:t.arcs.length<=19) (ok:t.ok) (wx wy:List Int) (hc:emC t=true) :
  Sp P F.an [enc t,.sl (ens wx),.sl (ens wy)] (.pure (.tup [enc gw0,.int .i64 10])):=by
 have kn:=zfw t n hn hn1 h hl (by have:=ok.il; have:=ok.st2; omega) (by have:=ok.fl; have:=ok.st2; omega);rw [yj9 ok,yj9 ok] at kn;obtain ⟨s,hk,hs⟩:=zop hn hn1 h hl ok;have hlt:=hk.2 hc;generalize t.nf=u at *
 refine Sp.vz c.an fun _=>?_;rw [zv4];unfold zyi zz8 zz9 wtA4 wtA3 wtA2;generalize zrs=W13 at *
 generalize wtA1=W1 at *
 simp [go_sem];refine zab kn ?_;simp [go_sem];refine zab hs ?_;simp [go_sem,hlt,gw0,gr0]
theorem zh8 (w:List Int) (m:Int) (hl:w.length<=9223372036854775807):Sp P F.bj [.sl (ens w),.int .i64 m] (.pure (.bool (decide ((1<=m/\m<=32)/\w.length<=256/\∀ x∈w,1<=x/\x<=m)))):=by
 refine Sp.vz c.bj fun _=>?_;simp [g.bj,go_sem]
 refine zai (S:=fun k:Nat=>mkSt [(0,.p (.sl (ens w))),(1,.p (.int .i64 m)),(7,.p (.sl (ens w))),(8,.p (.int .i64 w.length)),(9,.p (.int .i64 k))] []) (I:=fun k=>k<=w.length/\∀ i,(h:i<w.length)->i<k->1<=w[i]/\w[i]<=m) (m:=fun k=>w.length - k) 0
  (Weak.to [0,1,7,8,9] [] (by simp [go_sem])) ⟨by omega,fun i _ h=>by omega⟩ ?_
 rintro k ⟨h1,h2⟩ R hn hr hx;simp [g.ow,mkSt,go_sem];refine ⟨fun hk=>zae hk ?_,fun hk=>hx _ _ ?_⟩
 ·have e1:=i64s k (by omega);have hf:∀ h:w[k]<1\/m<w[k],¬ ∀ x∈w,1<=x/\x<=m:=fun h hh=>by have:=hh w[k] (yk2 hk); omega
  refine ⟨fun h=>hr _ (by simp [go_sem,hf (.inl h)]),fun h=>⟨fun h'=>hr _ (by simp [go_sem,hf (.inr h')]),fun h'=>hn (k+1) _ (Weak.to [0,1,7,8,9] [] (by simp [go_sem,e1])) ⟨by omega,fun i hi hik=>?_⟩ (by omega)⟩⟩;by_cases e:i=k
  ·subst e; exact ⟨h,h'⟩
  ·exact h2 i hi (by omega)
 ·have hk':k=w.length:=by omega
  have ha:∀ x∈w,1<=x/\x<=m:=fun x hx=>by obtain ⟨i,hi,rfl⟩:=ylq.1 hx;exact h2 i hi (by omega)
  have hd:decide (∀ x∈w,1<=x/\x<=m)=true:=decide_eq_true ha;simp [go_sem,hd];refine ⟨fun h1=>⟨fun h2=>by simp [h1,h2]; omega,fun h2 _ h3=>by omega⟩,fun h1 h2=>by omega⟩
theorem zt1 (t:GTrans) {n:Nat} (hn:n<=90) (hn1:3<=n) (h:t.sm n) (hl:t.arcs.length<=19) (ok:t.ok) (wx wy:List Int) (lx:wx.length<=9223372036854775807) (ly:wy.length<=9223372036854775807) (hc:emC t=false) (hw:¬ (zdr wx t.i/\zdr wy t.o)) :
  Sp P F.an [enc t,.sl (ens wx),.sl (ens wy)] (.pure (.tup [enc gw0,.int .i64 9])):=by
 have kn:=zfw t n hn hn1 h hl (by have:=ok.il; have:=ok.st2; omega) (by have:=ok.fl; have:=ok.st2; omega);rw [yj9 ok,yj9 ok] at kn;obtain ⟨s,hk,hs⟩:=zop hn hn1 h hl ok;have hlt:¬ ((s.length:Int)<t.nf.st):=fun hlt=>by have:=hk.1 hlt; rw [hc] at this; cases this
 have vx:=zh8 wx t.nf.i lx;have vy:=zh8 wy t.nf.o ly;have hui:t.nf.i=t.i:=rfl;have huo:t.nf.o=t.o:=rfl;rw [<- hui,<- huo] at hw;generalize t.nf=u at *
 refine Sp.vz c.an fun _=>?_;rw [zv4];unfold zyi zz8 zz9 wtA4 wtA3 wtA2 wtA1;generalize zrs=W13 at *
 simp [go_sem];refine zab kn ?_;simp [go_sem];refine zab hs ?_;simp [go_sem,hlt];refine zab vx ?_;by_cases h1:zdr wx u.i
 ·have h2:¬ zdr wy u.o:=fun h2=>hw ⟨h1,h2⟩;rw [decide_eq_true (show (1<=u.i/\u.i<=32)/\wx.length<=256/\∀ x∈wx,1<=x/\x<=u.i from h1)];simp [go_sem];refine zab vy ?_;rw [decide_eq_false (show ¬ ((1<=u.o/\u.o<=32)/\wy.length<=256/\∀ x∈wy,1<=x/\x<=u.o) from h2)];simp [go_sem,gw0,gr0]
 ·rw [decide_eq_false (show ¬ ((1<=u.i/\u.i<=32)/\wx.length<=256/\∀ x∈wx,1<=x/\x<=u.i) from h1)];simp [go_sem,gw0,gr0]
end Go.Ab
namespace Go.Ab
open Enc (enc)
attribute [local go_sem] zal Opd.slots
end Go.Ab
namespace Go.Ab
end Go.Ab
namespace Go.Ab
section
variable {r:GRing} (hr:r.ok=true) {t:GTrans} (ht:ckT r t) {wx wy:List Int}
end
end Go.Ab
namespace Go.Ab
def awN (n:Nat):GW:=.mk (rto (n:Rat)) 0 false 0 [] []
theorem yjj:aw1=awN 1:=rfl
theorem z8m (a b:Nat):ar1.plus (awN a) (awN b)=awN (a+b):=by have:ar1.plus (awN a) (awN b)=zaq 1 (awN a) (awN b):=rfl;rw [this];simp only [zaq,yk0,awN,GW.q_mk,zbv,Rat.natCast_add]
theorem z4r (a b:Nat):ar1.times (awN a) (awN b)=awN (a*b):=by have:ar1.times (awN a) (awN b)=zao 1 (awN a) (awN b):=rfl;rw [this];simp only [zao,true_or,yk0,awN,GW.q_mk,zbv,Rat.natCast_mul]
theorem zyb:ar1.zero=awN 0:=by
 have:ar1.zero=.mk gr0 0 false 0 [] []:=by simp [GRing.zero,ar1,GRing.ok]
 rw [this,awN,show ((0:Nat):Rat)=0 from rfl,zb7];rfl
theorem ycf {a b:Nat} (h:awN a=awN b):a=b:=by simp only [awN,GW.mk.injEq] at h;have:=z94 h.1;exact Rat.natCast_inj.1 this
def awT:GTrans:=⟨ar1,1,1,1,[aw1],[aw1],[⟨0,1,0,0,aw1⟩,⟨0,0,1,0,aw1⟩]⟩
theorem z8l:tidT ar1 awT.arcs=[⟨0,0,1,0,awN 1⟩,⟨0,1,0,0,awN 1⟩]:=by
 have:mrg GTArc.key (upT ar1) id (srt GTArc.key awT.arcs)=[⟨0,0,1,0,awN 1⟩,⟨0,1,0,0,awN 1⟩]:=by
  have h:([0,0,1,0]:List Int)<[0,1,0,0]:=by decide
  have h2:([0,1,0]:List Int)<[1,0,0]:=by decide
  simp [awT,srt,insR,mrg,mst,GTArc.key,upT,yjj,h,h2]
 unfold tidT;rw [this];have h:awN 1≠awN 0:=fun h=>by have:=ycf h; omega
 simp [zyb,h]
theorem z4p:awT.nf=⟨ar1,1,1,1,[awN 1],[awN 1],[⟨0,0,1,0,awN 1⟩,⟨0,1,0,0,awN 1⟩]⟩:=by rw [<- z8l]; rfl
theorem yji:wgt awT.nf [1,1] [1,1]=awN 6:=by rw [z4p];simp [wgt,sumW,tabW,valW,zf5,rowW,sprN,accW,accS,addW,zc7,emF,zr1,fitT,stp,zep,zyb,z8m,z4r]
end Go.Ab
namespace Go.Ab
section
variable {P:Program} {K:Ctx} {Z Z':Cz} {st st':St} {w w':World} {a:Act}
theorem Weak.freezeObj {s g n:Nat} {o:AObj} {ps:List PV} (ho:st.obj s g=some o) (hp:o.es.mapM (toPV st n)=some ps) (hd:(s,g)∉o.es.flatMap (deps st n)):Weak st ((killAll st (o.es.flatMap (deps st n))).setObj s g ⟨o.sz,ps.map .p⟩):=by
 intro K Z w a hs;generalize hids:o.es.flatMap (deps st n)=ids at hd;have hM:∀ b o,Z.M b=some o->Mx Z st w ids b=some o:=fun b o hb=>Mx_M hb;have hz:ZLe Z st { Z with M:=Mx Z st w ids } (killAll st ids):=(ZLe.killAll ids st).trans (ZLe.growM hM);have hh:HRep K { Z with M:=Mx Z st w ids } (killAll st ids) w:=by
  refine (HRep.killAll ids hs.heap).grow (Keep.refl w _) _ hM (fun b o hb=>?_) (fun b o hb=>?_) (fun s g o b ho hb=>?_)
  ·rcases zbn hb with h|⟨_,h,_⟩
   ·exact hs.heap.mem b o h
   ·exact h
  ·rcases zbn hb with h|⟨_,_,s,g,ob,_,e2,e3⟩
   ·exact .inl h
   ·exact .inr (hs.heap.own s g ob b e2 e3)
  ·obtain ⟨ho1,ho2⟩:=zcr ids st ho;cases hm:Mx Z st w ids b with
   | none=>rfl
   | some y =>
    exfalso;rcases zbn hm with h|⟨_,_,s',g',ob,e1,e2,e3⟩
    ·rw [hs.heap.sep s g o b ho1 hb] at h; cases h
    ·obtain ⟨rfl,rfl⟩:=hs.heap.inj s g s' g' o ob b ho1 e2 hb e3;exact ho2 e1
 have ho':=zfj ids ho hd;have hO:=hs.heap.objs s g o ho;have hlen:=zgj hp;have hcl:∀ l:List PV,(l.map AV.p).flatMap AV.cells=(l.flatMap PV.cells).map .p:=fun l=>by
  induction l with
  | nil=>rfl
  | cons q l ih=>rw [yke,ykj,ih,ykj,ylu]; cases q<;>rfl
 have key:(∀ b,Z.B s g=some b->∃ (cur:Array Value) (T:TypeId) (vals:List Value),w.heap[b]?=some (.cells cur T (0,0))/\PReps (Mx Z st w ids) (ps.flatMap PV.cells) vals /\
   (∀ (i:Nat) (v:Value),vals[i]?=some v->cur[i]?=some v)/\cur.size=Z.cap s g*o.sz/\o.es.length<=Z.cap s g/\Z.cap s g<=maxLen)/\(∀ p∈ps,p.sz=o.sz)/\∀ c∈ps.flatMap PV.cells,c.one=true:=by
  cases hb:Z.B s g with
  | none =>
   have h0:=hO.non hb;rw [h0] at hp;have:=zcj hp;subst this;exact ⟨fun b hb=>(by cases hb),by simp,by simp⟩
  | some b =>
   obtain ⟨cur,T,vals,k1,k2,k3,k4,k5,k6⟩:=hO.blk b hb;obtain ⟨r1,r2,r3⟩:=zhf (w:=w) (n:=n) (ids:=ids) hO.pos (zgb hs.heap ids n) k2 hp hO.els hO.one (fun i hi=>by rw [<- hids]; exact hi);exact ⟨fun b' hb'=>(by cases hb'; exact ⟨cur,T,vals,k1,r1,k3,k4,k5,k6⟩),r2,r3⟩
 obtain ⟨q1,q2,q3⟩:=key;have hss:=hh.same2 ho' (es:=ps.map .p) (by rw [ylj,hlen]) (fun x hx=>?_) (fun c hc=>?_) (fun b hb=>?_)
 ·refine ⟨{ Z with M:=Mx Z st w ids },⟨fun u=>?_,hs.defers,hs.size,hss⟩,.of_zle (hz.trans (ZLe.setObj _ _ s g o ⟨o.sz,ps.map .p⟩ ho' rfl (by simp [hlen])))⟩;rw [show ((killAll st ids).setObj s g ⟨o.sz,ps.map .p⟩).get u=st.get u from zjl (s:=(killAll st ids).setObj s g ⟨o.sz,ps.map .p⟩) (t:=st) (zb2 ids st) u];exact ARep.mono (hz.trans (ZLe.setObj _ _ s g o ⟨o.sz,ps.map .p⟩ ho' rfl (by simp [hlen]))) (hs.slots u)
 ·obtain ⟨p,hp',rfl⟩:=yk4.1 hx;exact q2 p hp'
 ·rw [hcl] at hc;obtain ⟨p,hp',rfl⟩:=yk4.1 hc;exact q3 p hp'
 ·obtain ⟨cur,T,vals,e1,e2,e3,e4,e5,e6⟩:=q1 b hb;refine ⟨cur,T,vals,e1,?_,e3,e4,e5,e6⟩;rw [hcl];exact AReps.of_p e2
end
end Go.Ab
namespace Go.Ab
open Enc (enc)
attribute [local go_sem] zal Opd.slots
theorem zya:awT.ok:=by
 refine ⟨rfl,by decide,by decide,by decide,by decide,rfl,rfl,by decide,?_,?_,?_⟩
 ·intro x hx;simp only [awT,yk5,yll,or_false] at hx;rcases hx with rfl|rfl
  ·exact ⟨by decide,by decide,by decide,by decide,by decide,by decide,by decide,by decide,zv8⟩
  ·exact ⟨by decide,by decide,by decide,by decide,by decide,by decide,by decide,by decide,zv8⟩
 ·intro w hw; simp [awT] at hw; subst hw; exact zv8
 ·intro w hw; simp [awT] at hw; subst hw; exact zv8
theorem z4o:awT.sm 3:=by
 refine ⟨?_,?_,?_⟩
 ·intro w hw; simp [awT] at hw; subst hw; exact z44
 ·intro w hw; simp [awT] at hw; subst hw; exact z44
 ·intro x hx;simp only [awT,yk5,yll,or_false] at hx;rcases hx with rfl|rfl<;>exact z44
theorem z4q:emC awT=false:=by
 have:emC awT=cycF awT.st.toNat (emP awT.nf.arcs):=rfl;rw [this,z4p];show cycF 1 []=false
 decide
theorem zzz:Sp P F.an [enc awT,.sl (ens ([1,1]:List Int)),.sl (ens ([1,1]:List Int))] (.pure (.tup [enc (awN 6),.int .i64 0])):=by
 obtain ⟨M,hM,mp,hf⟩:=zxd zya (fun w hw=>by
  have:w=aw1:=by simpa [GTrans.wts,awT] using hw
  rw [this]; exact z44.li) (by simp [GTrans.wts,awT])
 have e:awT.st.toNat*sLv (awT.arcs.length+100) awT.nf.arcs=105:=by rw [z4p]; rfl
 have:=zl1 awT M mp (z:=awT.arcs.length+100) (n:=3) (by omega) (by omega) z4o (by decide) zya hf (by omega) [1,1] [1,1] ⟨by decide,by decide,by decide⟩ ⟨by decide,by decide,by decide⟩ z4q (by
  rw [e,hM]; decide)
 have:=this.1
 rwa [yji] at this
theorem yf9:g.ji=.seq (.reg [⟨some 0,.mv (.c (.p (.bool false))),none⟩] [[0]]) awC5:=rfl
theorem zet:Sp P F.ji [] (.pure (.bool true)):=by
 have hv:=zrv awT (z4o.mono (by omega)) (by decide) (by decide);rw [decide_eq_true zya] at hv;have hl:=z2y awT 3 (by omega) (by omega) z4o (by decide) zya;rw [z4q] at hl;have hw:=zzz;have h1:=yay ar1;rw [yax] at h1;have hof:=zmr 6 1 (by omega) (by omega) (by omega);rw [show Rat.divInt 6 1=((6:Nat):Rat) by decide] at hof;have h4:(rto ((6:Nat):Rat)).sm 1073741824:=⟨yka (show (rto ((6:Nat):Rat)).num.length<=1 from zav (by decide)) (by omega),yka (show (rto ((6:Nat):Rat)).den.length<=1 by decide) (by omega)⟩;have hsame:=zcf (rto ((6:Nat):Rat)) (rto ((6:Nat):Rat)) h4;refine Sp.of_mr c.ji (by simp) ?_;rw [yf9];have hmain:MR P 47 awC2.er ⟨[(3,.ptr 3 0 0 0)],[(3,[some ⟨8,[.p (enc awT)]⟩]),(DEAD,[none])]⟩ none fun ex s _=>retP [(0,none)] (.pure (.bool true)) ex s:=by refine MR.of_vm ?_;unfold awC2 awC1;simp [go_sem];refine zab hw ?_;simp [go_sem,awN];refine zab hof ?_;simp [go_sem];refine zab hsame ?_;simp [go_sem];refine zab hv ?_;simp [go_sem];refine zab hl ?_;simp [go_sem]
 generalize (fun (ex:Exit) (s:St) (_:Option FA)=>retP [(0,none)] (RV.pure (PV.bool true)) ex s)=R at *
 unfold awC5;refine MR.gseq ?_;simp [go_sem];unfold awC4;refine MR.gseq ?_;simp [go_sem];refine MR.gseq ?_;simp [go_sem];refine zaa h1 (by simp [go_sem,ar1]) ?_;unfold awC3;simp [go_sem];refine MR.gseq ?_;generalize awC2=W at *
 simp [go_sem];refine MR.weak (Weak.freezeObj (s:=3) (g:=0) (n:=6) (ps:=[enc awT]) rfl ?_ ?_) ?_
 ·simp [go_sem,awT,ar1]
 ·simp [go_sem]
 ·refine MR.weak (Weak.to [3] [((3,0),3)] ?_) hmain;simp [go_sem,killAll,mkSt,St.setObj,deps]
end Go.Ab
namespace Go.Ab
open Enc (enc)
attribute [local go_sem] zal Opd.slots
end Go.Ab
namespace Go.Ab
open Enc (enc)
attribute [local go_sem] zal Opd.slots
end Go.Ab
namespace Go.Ab
open Enc (enc)
attribute [local go_sem] zal Opd.slots
end Go.Ab
namespace Go.Ab
open Enc (enc)
attribute [local go_sem] zal Opd.slots
theorem ztw (t:GTrans) (h:t.sm 1048576) (li:t.ini.length<=1000000) (lf:t.fin.length<=1000000) (ok:¬ t.ok) (wx wy:List Int) :
  Sp P F.ak [enc t,.sl (ens wx),.sl (ens wy)] (.pure (.tup [enc gw0,.int .i64 4])):=by
 refine Sp.vz c.ak fun _=>?_;simp [g.ak,go_sem];refine zab (zfo t h li lf) ?_;simp [go_sem,ok];exact ⟨rfl,rfl,rfl,rfl,rfl,rfl,rfl,rfl⟩
theorem zoi (w:List Int) (m:Int):Sp P F.bx [.sl (ens w),.int .i64 m] (.pure (.bool (decide ((1<=m/\m<=32)/\w.length<=256/\∀ x∈w,1<=x/\x<=m)))):=by
 by_cases h256:w.length<=1000000000
 ·exact zl2 w m h256
 refine Sp.vz c.bx fun _=>?_;simp [g.bx,go_sem];refine zaa (zfe m) rfl ?_;have h1:¬ w.length<=256:=by omega
 by_cases hm:1<=m/\m<=32;rotate_left
 ·simp [go_sem,hm]
  done
 simp [go_sem,hm,h1];exact fun h=>absurd h (by omega)
theorem ztv (t:GTrans) (n:Nat) (hn:n<=90) (hn1:3<=n) (h:t.sm n) (hl:t.arcs.length<=19) (ok:t.ok) (wx wy:List Int) (hc:emC t=false) (hw:¬ (zdr wx t.i/\zdr wy t.o)) :
  Sp P F.ak [enc t,.sl (ens wx),.sl (ens wy)] (.pure (.tup [enc gw0,.int .i64 9])):=by
 have h0:=ok.il;have h2:=ok.fl;have h3:=ok.st2;have vx:=zoi wx t.i;have vy:=zoi wy t.o;refine Sp.vz c.ak fun _=>?_;simp [g.ak,go_sem];refine zab (zfo t (h.mono (by omega)) (by omega) (by omega)) ?_;simp [go_sem,ok];refine zab (zks t n hn hn1 h hl ok) ?_;simp [go_sem,hc];refine zab vx ?_;by_cases h1:zdr wx t.i
 ·have h2:¬ zdr wy t.o:=fun h2=>hw ⟨h1,h2⟩;rw [decide_eq_true (show (1<=t.i/\t.i<=32)/\wx.length<=256/\∀ x∈wx,1<=x/\x<=t.i from h1)];simp [go_sem];refine zab vy ?_;rw [decide_eq_false (show ¬ ((1<=t.o/\t.o<=32)/\wy.length<=256/\∀ x∈wy,1<=x/\x<=t.o) from h2)];simp [go_sem];exact ⟨rfl,rfl,rfl,rfl,rfl,rfl,rfl,rfl⟩
 ·rw [decide_eq_false (show ¬ ((1<=t.i/\t.i<=32)/\wx.length<=256/\∀ x∈wx,1<=x/\x<=t.i) from h1)];simp [go_sem];exact ⟨rfl,rfl,rfl,rfl,rfl,rfl,rfl,rfl⟩
structure GTrans.lw (t:GTrans):Prop where
 sm:t.sm 8
 li:∀ w∈t.wts,w.li
 i5:t.ini.length<=5
 f5:t.fin.length<=5
 al:t.arcs.length<=12
theorem ztz {t:GTrans} (h:t.lw) (ok:t.ok) (wx wy:List Int) (hx:wx.length<=3) (hy:wy.length<=3) (hs:(wx.length+1)*(wy.length+1)*t.st.toNat<=48) (hwx:zdr wx t.i) (hwy:zdr wy t.o) (hc:emC t=false) :
  (Sp P F.an [enc t,.sl (ens wx),.sl (ens wy)] (.pure (.tup [enc (wgt t.nf wx wy),.int .i64 0]))/\(wgt t.nf wx wy).chk t.nf.ring/\(wgt t.nf wx wy).sm 400000) /\
  Sp P F.ak [enc t,.sl (ens wx),.sl (ens wy)] (.pure (.tup [enc (wgt t.nf wx wy),.int .i64 0])):=by
 have h1:=h.al;have h2:=h.i5;have h3:=h.f5;have hil:=ok.il;have hal:=zkc t;obtain ⟨M,hM,mp,hf⟩:=zxd ok h.li (by simp [GTrans.wts]; omega);have hN:t.st.toNat<=5:=by omega
 have hsl:sLv (t.arcs.length+100) t.nf.arcs<=125:=by unfold sLv; omega
 have hP:=zl1 t M mp (z:=t.arcs.length+100) (n:=8) (by omega) (by omega) h.sm (by omega) ok hf (by omega) wx wy hwx hwy hc ?_;refine ⟨⟨hP.1,hP.2.1,hP.2.2.2⟩,zty M t 8 (by omega) (by omega) h.sm (by omega) ok hf wx wy (by omega) (by omega) ?_ hc hwx hwy⟩;rotate_left
 ·have e:(wx.length+1)*((wy.length+1)*(t.st.toNat*sLv (t.arcs.length+100) t.nf.arcs))=(wx.length+1)*(wy.length+1)*t.st.toNat*sLv (t.arcs.length+100) t.nf.arcs:=by simp only [yko]
  have:=ykw hs hsl;rw [e,hM]; omega
 ·have e:lvl t.nf (t.arcs.length+100) (wx.length+wy.length+1)<=7*(6*125):=by unfold lvl;refine ykw (by omega) (ykw ?_ (by omega));show t.st.toNat+1<=6;omega
  rw [hM]; omega
theorem zt0 {t:GTrans} (h:t.lw) (wx wy:List Int) (lx:wx.length<=9223372036854775807) (ly:wy.length<=9223372036854775807) (hx:wx.length<=256->wx.length<=3) (hy:wy.length<=256->wy.length<=3) (hs:t.ok->wx.length<=256->wy.length<=256->(wx.length+1)*(wy.length+1)*t.st.toNat<=48) :
  ∃ (v:GW) (e:Int),Sp P F.an [enc t,.sl (ens wx),.sl (ens wy)] (.pure (.tup [enc v,.int .i64 e]))/\Sp P F.ak [enc t,.sl (ens wx),.sl (ens wy)] (.pure (.tup [enc v,.int .i64 e]))/\v.sm 1048576:=by
 have h1:=h.al;have h2:=h.i5;have h3:=h.f5;have g0:gw0.sm 1048576:=ye2 _;by_cases ok:t.ok;rotate_left
 ·exact ⟨gw0,4,zt2 t (n:=8) (by omega) (by omega) h.sm (by omega) (by omega) (by omega) ok wx wy,ztw t (h.sm.mono (by omega)) (by omega) (by omega) ok wx wy,g0⟩
 cases hc:emC t with
 | true=>exact ⟨gw0,10,zt3 t (n:=8) (by omega) (by omega) h.sm (by omega) ok wx wy hc,ztx t 8 (by omega) (by omega) h.sm (by omega) ok wx wy hc,g0⟩
 | false =>
  by_cases hw:zdr wx t.i/\zdr wy t.o
  ·obtain ⟨⟨k1,_,k2⟩,k3⟩:=ztz h ok wx wy (hx hw.1.2.1) (hy hw.2.2.1) (hs ok hw.1.2.1 hw.2.2.1) hw.1 hw.2 hc;exact ⟨_,_,k1,k3,k2.mono (by omega)⟩
  ·exact ⟨gw0,9,zt1 t (n:=8) (by omega) (by omega) h.sm (by omega) ok wx wy lx ly hc hw,ztv t 8 (by omega) (by omega) h.sm (by omega) ok wx wy hc hw,g0⟩
theorem GTrans.lt.lw {t:GTrans} (h:t.lt):t.lw:=⟨h.sm,fun w hw=>by
 simp only [GTrans.wts,yk8,yk4] at hw;rcases hw with hw|hw|⟨x,hx,rfl⟩
 ·exact (h.ini.2 w hw).li
 ·exact (h.fin.2 w hw).li
 ·exact (h.arcs x hx).li,h.ini.1,h.fin.1,h.al⟩
theorem weighs_sp (t:GTrans) (wx wy:List Int):Sp P F.mw [enc t,.sl (ens wx),.sl (ens wy)] (.pure (.bool true)):=by
 refine Sp.vz c.mw fun hok=>?_;have lx:wx.length<=9223372036854775807:=zig (zuz hok (by simp));have ly:wy.length<=9223372036854775807:=zig (zuz hok (by simp));simp [g.mw,go_sem];refine zab (zqs t) ?_;by_cases lt:t.lt;rotate_left
 ·rw [decide_eq_false lt]; simp [go_sem];refine zab zet ?_;simp [go_sem]
 rw [decide_eq_true lt];by_cases cx:wx.length<=256/\2<wx.length
 ·have c1:(2:Int)<(wx.length:Int):=by omega
  have c2:(wx.length:Int)<=256:=by omega
  simp [go_sem,c1,c2];refine zab zet ?_;simp [go_sem]
 by_cases cy:wy.length<=256/\2<wy.length
 ·have c1:(2:Int)<(wy.length:Int):=by omega
  have c2:(wy.length:Int)<=256:=by omega
  have c3:¬ ((2:Int)<(wx.length:Int)/\(wx.length:Int)<=256):=by omega
  by_cases c4:(2:Int)<(wx.length:Int)
  ·have c5:¬ (wx.length:Int)<=256:=by omega
   simp [go_sem,c1,c2,c4,c5];refine zab zet ?_;simp [go_sem]
  ·simp [go_sem,c1,c2,c4];refine zab zet ?_;simp [go_sem]
 obtain ⟨v,e,k1,k2,k3⟩:=zt0 lt.lw wx wy lx ly (by omega) (by omega) (fun ok h1 h2=>by
  have:=ok.il; have:=lt.ini.1
  have h3:(wx.length+1)*(wy.length+1)<=3*3:=ykw (by omega) (by omega);have h4:=ykw h3 (show t.st.toNat<=5 by omega);omega)
 have k4:=znp v k3 v;rw [decide_eq_true (rfl:v=v)] at k4;have g1:((2:Int)<wx.length/\¬ (wx.length:Int)<=256)\/¬ (2:Int)<wx.length:=by omega
 have g2:((2:Int)<wy.length/\¬ (wy.length:Int)<=256)\/¬ (2:Int)<wy.length:=by omega
 clear hok cx cy lt lx ly k3;rcases g1 with ⟨a1,a2⟩|a1<;>rcases g2 with ⟨b1,b2⟩|b1<;>by_cases hsum:(522:Int)<IntKind.i64.wrap ((wx.length:Int)+wy.length)
 all_goals first
  | (simp [go_sem, *]; refine zab zet ?_; simp [go_sem]; done)
  | (simp [go_sem, *]; refine zab k1 ?_; simp [go_sem]; refine zab k2 ?_; simp [go_sem]; refine zab zet ?_; simp [go_sem]; refine zab k4 ?_; simp [go_sem]; done)
end Go.Ab
namespace Go.Ab
open Enc (enc)
attribute [local go_sem] zal Opd.slots
end Go.Ab
namespace Go.Ab
open Enc (enc)
attribute [local go_sem] zal Opd.slots
end Go.Ab
namespace Go.Ab
open Enc (enc)
structure GW.pl (n:Nat) (w:GW):Prop where
 o:w.poly.length<=n
 ps:∀ x∈w.parts,x.poly.length<=n
end Go.Ab
namespace Go.Ab
open Enc (enc)
attribute [local go_sem] zal Opd.slots
section
variable (t:GTrans) (r:GRing) (X Y:List Int) (v s:GW) (j:Nat) (R:Exit->St->Option FA->Prop)
end
end Go.Ab
namespace Go.Ab
open Enc (enc)
attribute [local go_sem] zal Opd.slots
section
variable (t:GTrans) (r:GRing) (X Y:List Int) (v s:GW) (j:Nat) (R:Exit->St->Option FA->Prop)
end
end Go.Ab
namespace Go.Ab
open Enc (enc)
attribute [local go_sem] zal Opd.slots
end Go.Ab
set_option linter.all false
namespace Go.Ab
open Enc (enc)
section
variable {H:Type} {en:TypeId × Value->H} {w:World}
theorem rdInt (n:Nat):RdN en P w n T.int (IsC Int):=yd3 ty.int
theorem rdBool (n:Nat):RdN en P w n T.bool (IsC Bool):=z99 ty.bool
theorem rdInts (n:Nat):RdN en P w n T.ints (IsC (List Int)):=zhs (fun _=>rfl) (fun _=>rfl) ty.ints ty.cell fun k _=>rdInt k
theorem z1h (n:Nat):RdN en P w n T.limbs (IsC (List UInt32)):=zhs (fun _=>rfl) (fun _=>rfl) ty.limbs ty.cu32 fun k _=>yd2 ty.u32
theorem yd6 (n:Nat):RdN en P w n T.rat (IsC GRat):=zft (Ds:=[IsC Bool,IsC (List UInt32),IsC (List UInt32)]) ty.rat rfl (fun m _=>⟨rdBool m,z1h m,z1h m,trivial⟩) fun ls h=>by obtain ⟨_,ls1,rfl,⟨a,rfl⟩,h1⟩:=h.cons;obtain ⟨_,ls2,rfl,⟨b,rfl⟩,h2⟩:=h1.cons;obtain ⟨_,ls3,rfl,⟨c,rfl⟩,h3⟩:=h2.cons;obtain rfl:=h3.nil;exact ⟨⟨a,b,c⟩,by simp [PV.cells,go_sem]⟩
theorem yd8 (n:Nat):RdN en P w n T.mono (IsC GMono):=zft (Ds:=[(fun l=>∃ a b c:Int,l=[.int .i64 a,.int .i64 b,.int .i64 c]),IsC GRat]) ty.mono rfl (fun m _=>⟨z1g ty.key ty.int ty.cell ty.cells,yd6 m,trivial⟩) fun ls h=>by obtain ⟨_,ls1,rfl,⟨a,b,c,rfl⟩,h1⟩:=h.cons;obtain ⟨_,ls2,rfl,⟨q,rfl⟩,h2⟩:=h1.cons;obtain rfl:=h2.nil;exact ⟨⟨⟨a,b,c⟩,q⟩,by simp [PV.cells,go_sem]⟩
theorem z3i (x:GMono):(enc x).cells.all PV.one=true:=by simp [go_sem,PV.cells]
theorem z86 (x:GW):(enc x).cells.all PV.one=true:=by simp [go_sem,PV.cells]
theorem z3f (x:GTArc):(enc x).cells.all PV.one=true:=by simp [go_sem,PV.cells]
theorem gtrans_one (x:GTrans):(enc x).cells.all PV.one=true:=by simp [go_sem,PV.cells]
theorem yd7 (n:Nat):RdN en P w n T.poly (IsC (List GMono)):=zhs z3i (fun _=>rfl) ty.poly ty.cmono fun k _=>yd8 k
theorem zwk (n:Nat):RdN en P w n T.weight (IsC GW):=by
 induction n using Nat.strongRecOn with
 | ind n ih =>
  refine zft (Ds:=[IsC GRat,IsC Int,IsC Bool,IsC UInt64,IsC (List GMono),IsC (List GW)]) ty.weight rfl (fun m hm=>⟨yd6 m,rdInt m,rdBool m,yd1 ty.u64,yd7 m,zhs z86 (fun x=>by simp [go_sem,PV.cells]) ty.weights ty.cweight fun k hk=>ih k (by omega),trivial⟩) fun ls h=>?_;obtain ⟨_,ls1,rfl,⟨a,rfl⟩,h1⟩:=h.cons;obtain ⟨_,ls2,rfl,⟨b,rfl⟩,h2⟩:=h1.cons;obtain ⟨_,ls3,rfl,⟨c,rfl⟩,h3⟩:=h2.cons;obtain ⟨_,ls4,rfl,⟨d,rfl⟩,h4⟩:=h3.cons;obtain ⟨_,ls5,rfl,⟨e,rfl⟩,h5⟩:=h4.cons;obtain ⟨_,ls6,rfl,⟨f,rfl⟩,h6⟩:=h5.cons;obtain rfl:=h6.nil;exact ⟨.mk a b c d e f,by simp [PV.cells,go_sem]⟩
theorem zsb (n:Nat):RdN en P w n T.weights (IsC (List GW)):=zhs z86 (fun x=>by simp [go_sem,PV.cells]) ty.weights ty.cweight fun k _=>zwk k
theorem yd5 (n:Nat):RdN en P w n T.ring (IsC GRing):=zft (Ds:=[IsC Int,IsC (List Int)]) ty.ring rfl (fun m _=>⟨rdInt m,rdInts m,trivial⟩) fun ls h=>by obtain ⟨_,ls1,rfl,⟨a,rfl⟩,h1⟩:=h.cons;obtain ⟨_,ls2,rfl,⟨b,rfl⟩,h2⟩:=h1.cons;obtain rfl:=h2.nil;exact ⟨⟨a,b⟩,by simp [PV.cells,go_sem]⟩
theorem yd4 (n:Nat):RdN en P w n T.tarc (IsC GTArc):=zft (Ds:=[IsC Int,IsC Int,IsC Int,IsC Int,IsC GW]) ty.tarc rfl (fun m _=>⟨rdInt m,rdInt m,rdInt m,rdInt m,zwk m,trivial⟩) fun ls h=>by obtain ⟨_,ls1,rfl,⟨a,rfl⟩,h1⟩:=h.cons;obtain ⟨_,ls2,rfl,⟨b,rfl⟩,h2⟩:=h1.cons;obtain ⟨_,ls3,rfl,⟨c,rfl⟩,h3⟩:=h2.cons;obtain ⟨_,ls4,rfl,⟨e,rfl⟩,h4⟩:=h3.cons;obtain ⟨_,ls5,rfl,⟨d,rfl⟩,h5⟩:=h4.cons;obtain rfl:=h5.nil;exact ⟨⟨a,b,c,e,d⟩,by simp [PV.cells,go_sem]⟩
theorem rdTrans (n:Nat):RdN en P w n T.trans (IsC GTrans):=zft (Ds:=[IsC GRing,IsC Int,IsC Int,IsC Int,IsC (List GW),IsC (List GW),IsC (List GTArc)]) ty.trans rfl (fun m _=>⟨yd5 m,rdInt m,rdInt m,rdInt m,zsb m,zsb m,zhs z3f (fun _=>rfl) ty.tarcs ty.ctarc fun k _=>yd4 k,trivial⟩) fun ls h=>by obtain ⟨_,ls1,rfl,⟨a,rfl⟩,h1⟩:=h.cons;obtain ⟨_,ls2,rfl,⟨b,rfl⟩,h2⟩:=h1.cons;obtain ⟨_,ls3,rfl,⟨c,rfl⟩,h3⟩:=h2.cons;obtain ⟨_,ls4,rfl,⟨g,rfl⟩,h4⟩:=h3.cons;obtain ⟨_,ls5,rfl,⟨d,rfl⟩,h5⟩:=h4.cons;obtain ⟨_,ls6,rfl,⟨e,rfl⟩,h6⟩:=h5.cons;obtain ⟨_,ls7,rfl,⟨f,rfl⟩,h7⟩:=h6.cons;obtain rfl:=h7.nil;exact ⟨⟨a,b,c,g,d,e,f⟩,by simp [PV.cells,go_sem]⟩
end
end Go.Ab
