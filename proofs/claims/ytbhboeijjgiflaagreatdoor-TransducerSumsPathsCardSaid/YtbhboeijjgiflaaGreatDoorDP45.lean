/-
Proofs for the law TransducerSumsPaths, part 45. Conditions: none.
-/
import Derived.Test.YtbhboeijjgiflaaGreatDoorDP39
import Derived.Test.YtbhboeijjgiflaaGreatDoorDP42
import Derived.Test.YtbhboeijjgiflaaGreatDoorDP29
import Derived.Test.YtbhboeijjgiflaaGreatDoorDP44
import Derived.Test.YtbhboeijjgiflaaGreatDoorDP38
set_option maxRecDepth 100000
set_option maxHeartbeats 4000000
set_option linter.all false
namespace Go.Ab
open Enc (enc)
attribute [local go_sem] zal Opd.slots
def zsw(l:List Int)(m:Int)(most:Nat):List Int:=(l.take most).map fun x=>1+x % m
theorem zw5(l:List Int)(m:Int)(most:Nat)(hm:1<=m/\m<=32)(h:most<=256):ze9 (zsw l m most) m:=⟨hm,by simp only[zsw,ynp,yns];omega,fun x hx=>by
 obtain⟨y,_,rfl⟩:=ym6.1 hx;have h1:=ypg y (show m≠0 by omega);have h2:=yph y (show 0<m by omega);exact⟨by omega,by omega⟩⟩
theorem zsv(l:List Int)(m:Int)(most:Nat):(zsw l m most).length<=most:=by simp only[zsw,ynp,yns];omega
noncomputable def wV(t:GTrans)(wx wy:List Int):GW:=if emC t=true then gw0 else wgt t.nf wx wy
noncomputable def wE(t:GTrans):Int:=if emC t=true then 10 else 0
theorem ya5{t:GTrans}(ok:t.ok):emC t.nf=emC t:=by unfold emC;rw[yhf ok];rfl
end Go.Ab
namespace Go.Ab
theorem zy3{wx wy:List Int}{a b i k:Nat}{x:GTArc}:fitT wx wy (i+a) (k+b) x ↔ fitT (wx.drop a) (wy.drop b) i k x:=by unfold fitT;rw[you,you,Nat.add_comm a i,Nat.add_comm b k]
theorem z5k{wx wy:List Int}{i k:Nat}{x:GTArc}(h:fitT wx wy i k x)(hi:i<=wx.length)(hk:k<=wy.length):i+stp x.i<=wx.length/\k+stp x.o<=wy.length:=zug h hi hk
theorem zs0(t:GTrans){wx wy:List Int}{a b:Nat}(ha:a<=wx.length)(hb:b<=wy.length):∀ (n i k:Nat),i+a<=wx.length->k+b<=wy.length->valW t wx wy n (i+a) (k+b)=valW t (wx.drop a) (wy.drop b) n i k
 | 0,_,_,_,_=>rfl
 | n+1,i,k,hi,hk=>by
  show zfu t wx wy (i+a) (k+b) (valW t wx wy n)=zfu t (wx.drop a) (wy.drop b) i k (valW t (wx.drop a) (wy.drop b) n);unfold zfu rowW;have hbase:zh3 t wx wy (i+a) (k+b)=zh3 t (wx.drop a) (wy.drop b) i k:=by
   unfold zh3;have e:(i+a=wx.length/\k+b=wy.length) ↔ (i=(wx.drop a).length/\k=(wy.drop b).length):=by simp only[yoo];omega
   by_cases h:i+a=wx.length/\k+b=wy.length
   ·rw[ym0 h,ym0 (e.1 h)]
   ·rw[ym1 h,ym1 fun h'=>h (e.2 h')]
  rw[hbase]
  congr 1
  refine zlc fun x hx=>?_;rw[zjf,zjf];by_cases h:fitT wx wy (i+a) (k+b) x/\emF x=false
  ·rw[ym0 h,ym0 ⟨zy3.1 h.1,h.2⟩];have hl:=z5k h.1 hi hk;have e1:i+a+stp x.i=i+stp x.i+a:=by omega
   have e2:k+b+stp x.o=k+stp x.o+b:=by omega
   rw[e1,e2,zs0 t ha hb n _ _ (by omega) (by omega)]
  ·rw[ym1 h,ym1 fun h'=>h ⟨zy3.2 h'.1,h'.2⟩]
theorem z12(t:GTrans){wx wy:List Int}{a b:Nat}(ha:a<=wx.length)(hb:b<=wy.length):tabW t wx wy a b=tabW t (wx.drop a) (wy.drop b) 0 0:=by
 unfold tabW;have:=zs0 t ha hb (wx.length - a+(wy.length - b)+1) 0 0 (by omega) (by omega);rw[yn6,yn6]at this;rw[this]
 congr 2
 simp[yoo]
theorem zxa(t:GTrans)(l:List GW)(wx wy:List Int):∀ (n i k:Nat),valW { t with ini:=l } wx wy n i k=valW t wx wy n i k
 | 0,_,_=>rfl
 | n+1,i,k=>by show zfu { t with ini:=l } wx wy i k (valW { t with ini:=l } wx wy n)=zfu t wx wy i k (valW t wx wy n);have e:valW { t with ini:=l } wx wy n=valW t wx wy n:=funext fun i=>funext fun k=>zxa t l wx wy n i k;rw[e];rfl
theorem z7i(t:GTrans)(l:List GW)(wx wy:List Int)(i k:Nat):tabW { t with ini:=l } wx wy i k=tabW t wx wy i k:=zxa t l wx wy _ i k
section
variable {r:GRing} (hr:r.ok=true) {t:GTrans} (ht:ckT r t) {wx wy:List Int}
include ht in
theorem yap(hi:ckL r t.st.toNat t.ini)(wx wy:List Int):(wgt t wx wy).chk r/\cw hr (wgt t wx wy)=(srG r hr).dot t.st.toNat (gd hr t.ini) (gd hr (tabW t wx wy 0 0)):=by have s2:=zon hr hi (zu7 ht (wx:=wx) (wy:=wy) (ymv _) (ymv _)) t.st.toNat (ym8 _);rw[zfa (by rw[hi.2];omega)]at s2;unfold wgt;rw[ht.ring];exact s2
def subT(t:GTrans)(x:GTArc):GTrans:={ t with ini:=(List.replicate t.st.toNat t.ring.zero).set x.t.toNat (t.ring.times (t.ini.getD x.f.toNat t.ring.zero) x.w) }
def zij(t:GTrans)(wx wy:List Int):GW:=if wx.length+wy.length=0 then sumW t.ring t.ini t.fin else t.ring.zero
noncomputable def zjd(t:GTrans)(wx wy:List Int)(s:GW)(x:GTArc):GW:=if fitT wx wy 0 0 x then t.ring.plus s (wgt (subT t x) (wx.drop (stp x.i)) (wy.drop (stp x.o)))else s
noncomputable def yb5(t:GTrans)(wx wy:List Int):GW:=t.arcs.foldl (zjd t wx wy) (zij t wx wy)
include ht hr in
theorem z17(hi:ckL r t.st.toNat t.ini){x:GTArc}(hx:x∈t.arcs):ckT r (subT t x)/\ckL r t.st.toNat (subT t x).ini:=by
 refine⟨⟨ht.ring,ht.rok,ht.fin,ht.arcs⟩,fun w hw=>?_,by simp[subT]⟩;simp only[subT,ht.ring]at hw;rcases yon hw with h|h
 ·rw[ypv h];exact zbd hr
 ·rw[h];exact za9 (zfj hr hi _) (ht.arcs x hx).1
include ht in
theorem z7n(hi:ckL r t.st.toNat t.ini){x:GTArc}(hx:x∈t.arcs)(hf:fitT wx wy 0 0 x):(wgt (subT t x) (wx.drop (stp x.i)) (wy.drop (stp x.o))).chk r /\
  cw hr (wgt (subT t x) (wx.drop (stp x.i)) (wy.drop (stp x.o)))=(srG r hr).m ((srG r hr).m (gd hr t.ini x.f.toNat) (cw hr x.w)) (gd hr (tabW t wx wy (stp x.i) (stp x.o)) x.t.toNat):=by
 obtain⟨h1,h2⟩:=z17 hr ht hi hx;obtain⟨a1,⟨a2,a3⟩,a4,a5⟩:=ht.arcs x hx;have hl:=z5k hf (ymv _) (ymv _);rw[yn6,yn6]at hl;obtain⟨g1,g2⟩:=yap hr h1 h2 (wx.drop (stp x.i)) (wy.drop (stp x.o));refine⟨g1,?_⟩;have e1:tabW (subT t x) (wx.drop (stp x.i)) (wy.drop (stp x.o)) 0 0=tabW t wx wy (stp x.i) (stp x.o):=by rw[z12 t hl.1 hl.2];exact z7i t _ _ _ 0 0
 have e2:∀ s,gd hr (subT t x).ini s=if s=x.t.toNat then(srG r hr).m (gd hr t.ini x.f.toNat) (cw hr x.w)else(srG r hr).z:=fun s=>by
  simp only[subT,ht.ring];by_cases h:s=x.t.toNat
  ·subst h;rw[ziz hr _ (by simp;omega),zmr hr (zfj hr hi _) a1,ym0 rfl];rfl
  ·rw[zoc hr _ (yn8 h),zmo,ym1 h]
 rw[g2,e1];show(srG r hr).dot t.st.toNat _ _=_;unfold SR.dot;rw[(srG r hr).sum_congr (g:=fun s=>if s=x.t.toNat then(srG r hr).m ((srG r hr).m (gd hr t.ini x.f.toNat) (cw hr x.w)) (gd hr (tabW t wx wy (stp x.i) (stp x.o)) s)else(srG r hr).z) fun s _=>?_]
 ·exact(srG r hr).sum_delta (by omega) fun s=>(srG r hr).m ((srG r hr).m (gd hr t.ini x.f.toNat) (cw hr x.w)) (gd hr (tabW t wx wy (stp x.i) (stp x.o)) s)
 ·rw[e2];split
  ·rfl
  ·exact SR.zm _ _
include ht in
theorem zta(hi:ckL r t.st.toNat t.ini):∀ {l:List GTArc} {s:GW},(∀ x∈l,x∈t.arcs)->s.chk r->(l.foldl (zjd t wx wy) s).chk r /\
  cw hr (l.foldl (zjd t wx wy) s)=(srG r hr).p (cw hr s) ((srG r hr).sum l fun x=>if fitT wx wy 0 0 x then(srG r hr).m ((srG r hr).m (gd hr t.ini x.f.toNat) (cw hr x.w)) (gd hr (tabW t wx wy (stp x.i) (stp x.o)) x.t.toNat)else(srG r hr).z)
 | [],s,_,hs=>⟨hs,by rw[SR.sum_nil,(srG r hr).pz];rfl⟩
 | x::l,s,hl,hs=>by
  have h1:(zjd t wx wy s x).chk r/\cw hr (zjd t wx wy s x)=(srG r hr).p (cw hr s) (if fitT wx wy 0 0 x then(srG r hr).m ((srG r hr).m (gd hr t.ini x.f.toNat) (cw hr x.w)) (gd hr (tabW t wx wy (stp x.i) (stp x.o)) x.t.toNat)else(srG r hr).z):=by
   unfold zjd;split
   ·rename_i hf;obtain⟨c1,c2⟩:=z7n hr ht hi (hl x (by simp)) hf;rw[ht.ring];exact⟨zbu hs c1,by rw[zsh hr hs c1,c2]⟩
   ·exact⟨hs,((srG r hr).pz _).symm⟩
  obtain⟨k1,k2⟩:=zta hi (l:=l) (fun y hy=>hl y (by simp[hy])) h1.1;refine⟨k1,?_⟩;show cw hr (l.foldl (zjd t wx wy) (zjd t wx wy s x))=_;rw[k2,h1.2,SR.sum_cons,(srG r hr).pa]
include ht hr in
theorem yb4(hi:ckL r t.st.toNat t.ini){pos:Nat->Nat}(hp:∀ x∈t.arcs,emF x=true->pos x.f.toNat<pos x.t.toNat/\pos x.t.toNat<t.st.toNat):yb5 t wx wy=wgt t wx wy:=by
 obtain⟨w1,w2⟩:=yap hr ht hi wx wy;have hb:(zij t wx wy).chk r/\cw hr (zij t wx wy)=(srG r hr).sum (List.range t.st.toNat) fun s=>(srG r hr).m (gd hr t.ini s) (gd hr (zh3 t wx wy 0 0) s):=by
  unfold zij zh3;rw[ht.ring];by_cases h:wx.length+wy.length=0
  ·rw[ym0 h,ym0 (by omega)];have s2:=zon hr hi ht.fin t.st.toNat (ym8 _);rw[zfa (by rw[hi.2];omega)]at s2;exact s2
  ·rw[ym1 h,ym1 (by omega),zsg];refine⟨zbd hr,?_⟩;rw[(srG r hr).sum_congr (g:=fun _=>(srG r hr).z) fun s _=>?_,SR.sum_zero];rw[zmo,(srG r hr).mz]
 obtain⟨k1,k2⟩:=zta hr ht (wx:=wx) (wy:=wy) hi (l:=t.arcs) (fun _ h=>h) hb.1;refine ybd hr k1 w1 ?_;show cw hr (t.arcs.foldl (zjd t wx wy) (zij t wx wy))=_;rw[k2,hb.2,w2];unfold SR.dot;rw[(srG r hr).sum_congr (l:=List.range t.st.toNat) (f:=fun s=>(srG r hr).m (gd hr t.ini s) (gd hr (tabW t wx wy 0 0) s)) (g:=fun s=>(srG r hr).p ((srG r hr).m (gd hr t.ini s) (gd hr (zh3 t wx wy 0 0) s)) ((srG r hr).sum t.arcs fun x=>(srG r hr).m (gd hr t.ini s) (if x.f.toNat=s/\fitT wx wy 0 0 x then(srG r hr).m (cw hr x.w) (gd hr (tabW t wx wy (0+stp x.i) (0+stp x.o)) x.t.toNat)else(srG r hr).z))) fun s _=>?_]
 ·rw[SR.sum_add,SR.sum_swap]
  congr 1
  refine(srG r hr).sum_congr fun x hx=>?_;obtain⟨a1,⟨a2,a3⟩,a4,a5⟩:=ht.arcs x hx;by_cases hf:fitT wx wy 0 0 x
  ·rw[ym0 hf,(srG r hr).sum_congr (g:=fun s=>if s=x.f.toNat then(srG r hr).m ((srG r hr).m (gd hr t.ini s) (cw hr x.w)) (gd hr (tabW t wx wy (stp x.i) (stp x.o)) x.t.toNat)else(srG r hr).z) fun s _=>?_]
   ·exact((srG r hr).sum_delta (by omega) fun s=>(srG r hr).m ((srG r hr).m (gd hr t.ini s) (cw hr x.w)) (gd hr (tabW t wx wy (stp x.i) (stp x.o)) x.t.toNat)).symm
   ·by_cases hs:s=x.f.toNat
    ·rw[ym0 ⟨hs.symm,hf⟩,ym0 hs,yn6,yn6,(srG r hr).ma]
    ·rw[ym1 (fun h=>hs h.1.symm),ym1 hs,(srG r hr).mz]
  ·rw[ym1 hf,(srG r hr).sum_congr (g:=fun _=>(srG r hr).z) fun s _=>?_,SR.sum_zero];rw[ym1 (fun h=>hf h.2),(srG r hr).mz]
 ·rw[zxj hr ht (ymv _) (ymv _) hp s,(srG r hr).mp,SR.sum_mul]
end
def awN(n:Nat):GW:=.mk (rto (n:Rat)) 0 false 0 [] []
theorem ylx:aw1=awN 1:=rfl
theorem yah(a b:Nat):ar1.plus (awN a) (awN b)=awN (a+b):=by have:ar1.plus (awN a) (awN b)=zap 1 (awN a) (awN b):=rfl;rw[this];simp only[zap,ym2,awN,GW.q_mk,zbe,Rat.natCast_add]
theorem z6o(a b:Nat):ar1.times (awN a) (awN b)=awN (a*b):=by have:ar1.times (awN a) (awN b)=zam 1 (awN a) (awN b):=rfl;rw[this];simp only[zam,true_or,ym2,awN,GW.q_mk,zbe,Rat.natCast_mul]
theorem zzh:ar1.zero=awN 0:=by
 have:ar1.zero=.mk gr0 0 false 0 [] []:=by simp[GRing.zero,ar1,GRing.ok]
 rw[this,awN,show((0:Nat):Rat)=0 from rfl,zce];rfl
theorem yeq{a b:Nat}(h:awN a=awN b):a=b:=by simp only[awN,GW.mk.injEq]at h;have:=ycj h.1;exact Rat.natCast_inj.1 this
def awT:GTrans:=⟨ar1,1,1,1,[aw1],[aw1],[⟨0,1,0,0,aw1⟩,⟨0,0,1,0,aw1⟩]⟩
theorem yag:tidT ar1 awT.arcs=[⟨0,0,1,0,awN 1⟩,⟨0,1,0,0,awN 1⟩]:=by
 have:mrg GTArc.key (upT ar1) id (srt GTArc.key awT.arcs)=[⟨0,0,1,0,awN 1⟩,⟨0,1,0,0,awN 1⟩]:=by
  have h:([0,0,1,0]:List Int)<[0,1,0,0]:=by decide
  have h2:([0,1,0]:List Int)<[1,0,0]:=by decide
  simp[awT,srt,insR,mrg,mst,GTArc.key,upT,ylx,h,h2]
 unfold tidT;rw[this];have h:awN 1≠awN 0:=fun h=>by have:=yeq h;omega
 simp[zzh,h]
theorem z6m:awT.nf=⟨ar1,1,1,1,[awN 1],[awN 1],[⟨0,0,1,0,awN 1⟩,⟨0,1,0,0,awN 1⟩]⟩:=by rw[<- yag];rfl
theorem ylw:wgt awT.nf [1,1] [1,1]=awN 6:=by rw[z6m];simp[wgt,sumW,tabW,valW,zfu,rowW,sprN,accW,accS,addW,zjx,emF,zjf,fitT,stp,zh3,zzh,yah,z6o]
section
variable {P:Program} {K:Ctx} {Z Z':Cz} {st st':St} {w w':World} {a:Act}
theorem Weak.freezeObj{s g n:Nat}{o:AObj}{ps:List PV}(ho:st.obj s g=some o)(hp:o.es.mapM (toPV st n)=some ps)(hd:(s,g)∉o.es.flatMap (deps st n)):Weak st ((killAll st (o.es.flatMap (deps st n))).setObj s g ⟨o.sz,ps.map .p⟩):=by
 intro K Z w a hs;generalize hids:o.es.flatMap (deps st n)=ids at hd;have hM:∀ b o,Z.M b=some o->Mx Z st w ids b=some o:=fun b o hb=>Mx_M hb;have hz:ZLe Z st { Z with M:=Mx Z st w ids } (killAll st ids):=(ZLe.killAll ids st).trans (ZLe.growM hM);have hh:HRep K { Z with M:=Mx Z st w ids } (killAll st ids) w:=by
  refine(HRep.killAll ids hs.heap).grow (Keep.refl w _) _ hM (fun b o hb=>?_) (fun b o hb=>?_) (fun s g o b ho hb=>?_)
  ·rcases zb2 hb with h|⟨_,h,_⟩
   ·exact hs.heap.mem b o h
   ·exact h
  ·rcases zb2 hb with h|⟨_,_,s,g,ob,_,e2,e3⟩
   ·exact .inl h
   ·exact .inr (hs.heap.own s g ob b e2 e3)
  ·obtain⟨ho1,ho2⟩:=zdv ids st ho;cases hm:Mx Z st w ids b with
   | none=>rfl
   | some y =>
    exfalso;rcases zb2 hm with h|⟨_,_,s',g',ob,e1,e2,e3⟩
    ·rw[hs.heap.sep s g o b ho1 hb]at h;cases h
    ·obtain⟨rfl,rfl⟩:=hs.heap.inj s g s' g' o ob b ho1 e2 hb e3;exact ho2 e1
 have ho':=ziq ids ho hd;have hO:=hs.heap.objs s g o ho;have hlen:=zgt hp;have hcl:∀ l:List PV,(l.map AV.p).flatMap AV.cells=(l.flatMap PV.cells).map .p:=fun l=>by
  induction l with
  | nil=>rfl
  | cons q l ih=>rw[ymy,yn0,ih,yn0,ynw];cases q<;>rfl
 have key:(∀ b,Z.B s g=some b->∃ (cur:Array Value) (T:TypeId) (vals:List Value),w.heap[b]?=some (.cells cur T (0,0))/\PReps (Mx Z st w ids) (ps.flatMap PV.cells) vals /\
   (∀ (i:Nat) (v:Value),vals[i]?=some v->cur[i]?=some v)/\cur.size=Z.cap s g*o.sz/\o.es.length<=Z.cap s g/\Z.cap s g<=maxLen)/\(∀ p∈ps,p.sz=o.sz)/\∀ c∈ps.flatMap PV.cells,c.one=true:=by
  cases hb:Z.B s g with
  | none =>
   have h0:=hO.non hb;rw[h0]at hp;have:=zcp hp;subst this;exact⟨fun b hb=>(by cases hb),by simp,by simp⟩
  | some b =>
   obtain⟨cur,T,vals,k1,k2,k3,k4,k5,k6⟩:=hO.blk b hb;obtain⟨r1,r2,r3⟩:=zht (w:=w) (n:=n) (ids:=ids) hO.pos (zhc hs.heap ids n) k2 hp hO.els hO.one (fun i hi=>by rw[<- hids];exact hi);exact⟨fun b' hb'=>(by cases hb';exact⟨cur,T,vals,k1,r1,k3,k4,k5,k6⟩),r2,r3⟩
 obtain⟨q1,q2,q3⟩:=key;have hss:=hh.same2 ho' (es:=ps.map .p) (by rw[ynp,hlen]) (fun x hx=>?_) (fun c hc=>?_) (fun b hb=>?_)
 ·refine⟨{ Z with M:=Mx Z st w ids },⟨fun u=>?_,hs.defers,hs.size,hss⟩,.of_zle (hz.trans (ZLe.setObj _ _ s g o ⟨o.sz,ps.map .p⟩ ho' rfl (by simp[hlen])))⟩;rw[show((killAll st ids).setObj s g ⟨o.sz,ps.map .p⟩).get u=st.get u from zlr (s:=(killAll st ids).setObj s g ⟨o.sz,ps.map .p⟩) (t:=st) (zcm ids st) u];exact ARep.mono (hz.trans (ZLe.setObj _ _ s g o ⟨o.sz,ps.map .p⟩ ho' rfl (by simp[hlen]))) (hs.slots u)
 ·obtain⟨p,hp',rfl⟩:=ym6.1 hx;exact q2 p hp'
 ·rw[hcl]at hc;obtain⟨p,hp',rfl⟩:=ym6.1 hc;exact q3 p hp'
 ·obtain⟨cur,T,vals,e1,e2,e3,e4,e5,e6⟩:=q1 b hb;refine⟨cur,T,vals,e1,?_,e3,e4,e5,e6⟩;rw[hcl];exact AReps.of_p e2
end
end Go.Ab
namespace Go.Ab
open Enc (enc)
attribute [local go_sem] zal Opd.slots
theorem zzg:awT.ok:=by
 refine⟨rfl,by decide,by decide,by decide,by decide,rfl,rfl,by decide,?_,?_,?_⟩
 ·intro x hx;simp only[awT,ym7,yo4,or_false]at hx;rcases hx with rfl|rfl
  ·exact⟨by decide,by decide,by decide,by decide,by decide,by decide,by decide,by decide,zw7⟩
  ·exact⟨by decide,by decide,by decide,by decide,by decide,by decide,by decide,by decide,zw7⟩
 ·intro w hw;simp[awT]at hw;subst hw;exact zw7
 ·intro w hw;simp[awT]at hw;subst hw;exact zw7
theorem z6l:awT.sm 3:=by
 refine⟨?_,?_,?_⟩
 ·intro w hw;simp[awT]at hw;subst hw;exact z63
 ·intro w hw;simp[awT]at hw;subst hw;exact z63
 ·intro x hx;simp only[awT,ym7,yo4,or_false]at hx;rcases hx with rfl|rfl<;>exact z63
theorem z6n:emC awT=false:=by
 have:emC awT=cycF awT.st.toNat (emP awT.nf.arcs):=rfl;rw[this,z6m];show cycF 1 []=false
 decide
theorem z1c:Sp P F.ap [enc awT,.sl (ens ([1,1]:List Int)),.sl (ens ([1,1]:List Int))] (.pure (.tup [enc (awN 6),.int .i64 0])):=by
 obtain⟨M,hM,mp,hf⟩:=zro zzg (fun w hw=>by
  have:w=aw1:=by simpa[GTrans.wts,awT]using hw
  rw[this];exact z63.li) (by simp[GTrans.wts,awT])
 have e:awT.st.toNat*sLv (awT.arcs.length+100) awT.nf.arcs=105:=by rw[z6m];rfl
 have:=zir awT M mp (z:=awT.arcs.length+100) (n:=3) (by omega) (by omega) z6l (by decide) zzg hf (by omega) [1,1] [1,1] ⟨by decide,by decide,by decide⟩ ⟨by decide,by decide,by decide⟩ z6n (by
  rw[e,hM];decide)
 have:=this.1
 rwa[ylw]at this
theorem yio:g.fh=.seq (.reg [⟨some 0,.mv (.c (.p (.bool false))),none⟩] [[0]]) awC5:=rfl
theorem zqs:Sp P F.fh [] (.pure (.bool true)):=by
 have hv:=zsx awT (z6l.mono (by omega)) (by decide) (by decide);rw[decide_eq_true zzg]at hv;have hl:=z4t awT 3 (by omega) (by omega) z6l (by decide) zzg;rw[z6n]at hl;have hw:=z1c;have h1:=z35 ar1;rw[ydd]at h1;have hof:=zho 6 1 (by omega) (by omega) (by omega);rw[show Rat.divInt 6 1=((6:Nat):Rat) by decide]at hof;have h4:(rto ((6:Nat):Rat)).sm 1073741824:=⟨ymm (show(rto ((6:Nat):Rat)).num.length<=1 from zav (by decide)) (by omega),ymm (show(rto ((6:Nat):Rat)).den.length<=1 by decide) (by omega)⟩;have hsame:=zcn (rto ((6:Nat):Rat)) (rto ((6:Nat):Rat)) h4;refine Sp.of_mr c.fh (by simp) ?_;rw[yio];have hmain:MR P 47 awC2.er ⟨[(3,.ptr 3 0 0 0)],[(3,[some ⟨8,[.p (enc awT)]⟩]),(DEAD,[none])]⟩ none fun ex s _=>retP [(0,none)] (.pure (.bool true)) ex s:=by refine MR.of_vm ?_;unfold awC2 awC1;simp[go_sem];refine zab hw ?_;simp[go_sem,awN];refine zab hof ?_;simp[go_sem];refine zab hsame ?_;simp[go_sem];refine zab hv ?_;simp[go_sem];refine zab hl ?_;simp[go_sem]
 generalize (fun(ex:Exit) (s:St) (_:Option FA)=>retP [(0,none)] (RV.pure (PV.bool true)) ex s)=R at *
 unfold awC5;refine MR.gseq ?_;simp[go_sem];unfold awC4;refine MR.gseq ?_;simp[go_sem];refine MR.gseq ?_;simp[go_sem];refine zaa h1 (by simp[go_sem,ar1]) ?_;unfold awC3;simp[go_sem];refine MR.gseq ?_;generalize awC2=W at *
 simp[go_sem];refine MR.weak (Weak.freezeObj (s:=3) (g:=0) (n:=6) (ps:=[enc awT]) rfl ?_ ?_) ?_
 ·simp[go_sem,awT,ar1]
 ·simp[go_sem]
 ·refine MR.weak (Weak.to [3] [((3,0),3)] ?_) hmain;simp[go_sem,killAll,mkSt,St.setObj,deps]
structure GTrans.lw (t:GTrans):Prop where
 sm:t.sm 8
 li:∀ w∈t.wts,w.li
 i5:t.ini.length<=5
 f5:t.fin.length<=5
 al:t.arcs.length<=12
theorem GTrans.tin.lw{t:GTrans}(h:t.tin):t.lw:=by
 have:=h.ok.il;have:=h.ok.fl;have:=h.st
 refine⟨h.sm.mono (by omega),fun w hw=>?_,by omega,by omega,by have:=h.al;omega⟩;simp only[GTrans.wts,ymn,ym6]at hw;rcases hw with hw|hw|⟨x,hx,rfl⟩
 ·exact(h.ini w hw).sm.li
 ·exact(h.fin w hw).sm.li
 ·exact(h.arcs x hx).sm.li
theorem z1n{t:GTrans}(hT:t.tin){u:GTrans}(hu:u.nf=t.nf)(uok:u.ok){n:Nat}(hn:n<=90)(hn1:3<=n)(us:u.sm n)(ua:u.arcs.length<=19)(ui:u.i=t.i)(uo:u.o=t.o)(ust:u.st=t.st)(wx wy:List Int)(lx:wx.length<=3)(ly:wy.length<=3)(hwx:ze9 wx t.i)(hwy:ze9 wy t.o) :
  Sp P F.ap [enc u,.sl (ens wx),.sl (ens wy)] (.pure (.tup [enc (wV t wx wy),.int .i64 (wE t)]))/\(wV t wx wy).sm 1048576:=by
 have he:emC u=emC t:=by unfold emC;rw[hu,ust]
 unfold wV wE;cases hc:emC t with
 | true =>
  simp only[ym2];exact⟨zu3 u hn hn1 us ua uok wx wy (by rw[he];exact hc),yhk _⟩
 | false =>
  simp only[ymw,ym9];have ok:=hT.ok;have hal:=zku t;have h1:=hT.al;have h2:=hT.st;have hil:=ok.il;have hfl:=ok.fl;obtain⟨M,hM,mp,hf⟩:=zro ok hT.lw.li (by simp[GTrans.wts];omega);have hsl:sLv (t.arcs.length+100) t.nf.arcs<=115:=by unfold sLv;omega
  have key:∀ v:GTrans,v=t.nf->∀ M:Meas t.ring,M.lim=12000->MeasP M->t.nf.fits M (t.arcs.length+100)->∃ M':Meas v.ring,M'.lim=12000/\MeasP M'/\v.fits M' (t.arcs.length+100):=by rintro v rfl M h1 h2 h3;exact⟨M,h1,h2,h3⟩
  obtain⟨M',hM',mp',hf'⟩:=key u.nf hu M hM mp hf;have:=zir u M' mp' (z:=t.arcs.length+100) (n:=n) hn hn1 us ua uok hf' (by omega) wx wy (by rw[ui];exact hwx) (by rw[uo];exact hwy) (by rw[he];exact hc) (by
   have e:(wx.length+1)*((wy.length+1)*(u.st.toNat*sLv (t.arcs.length+100) u.nf.arcs))=(wx.length+1)*(wy.length+1)*u.st.toNat*sLv (t.arcs.length+100) u.nf.arcs:=by simp only[yn3]
   have h3:(wx.length+1)*(wy.length+1)<=4*4:=yn4 (by omega) (by omega);have h4:=yn4 h3 (show u.st.toNat<=3 by omega);have h5:=yn4 h4 hsl;rw[e,hM',hu];omega)
  obtain⟨p1,_,_,p4⟩:=this;rw[hu]at p1 p4;exact⟨p1,p4.mono (by omega)⟩
end Go.Ab
namespace Go.Ab
open Enc (enc)
structure GW.pl (n:Nat) (w:GW):Prop where
 o:w.poly.length<=n
 ps:∀ x∈w.parts,x.poly.length<=n
theorem GW.pl.mono{m n:Nat}{w:GW}(h:w.pl m)(k:m<=n):w.pl n:=⟨ymm h.o k,fun x hx=>ymm (h.ps x hx) k⟩
theorem zx0(k:Int){v w:GW}{m n:Nat}(hv:v.poly.length<=m)(hw:w.poly.length<=n):(zap k v w).poly.length<=m+n:=by
 unfold zap;split
 ·exact ymv _
 split
 ·split<;>omega
 split
 ·split<;>omega
 split
 ·exact ymv _
 ·exact ymm (zmi _ _) (by omega)
theorem zx3{m n:Nat}:∀ {ks:List Int} {vs ws:List GW},(∀ x∈vs,x.poly.length<=m)->(∀ x∈ws,x.poly.length<=n)->∀ x∈zcx ks vs ws,x.poly.length<=m+n
 | [],_,_,_,_,x,hx=>by simp[zcx]at hx
 | _::_,[],_,_,_,x,hx=>by simp[zcx]at hx
 | _::_,_::_,[],_,_,x,hx=>by simp[zcx]at hx
 | k::ks,v::vs,w::ws,hv,hw,x,hx=>by
  simp only[zcx,ym7]at hx;rcases hx with rfl|hx
  ·exact zx0 k (hv v (by simp)) (hw w (by simp))
  ·exact zx3 (fun y hy=>hv y (by simp[hy])) (fun y hy=>hw y (by simp[hy])) x hx
theorem zvq{k:Int}{v w:GW}(hv:v.parts=[])(hw:w.parts=[]):(zap k v w).parts=[]:=by
 unfold zap;split
 ·rfl
 split
 ·split<;>assumption
 split
 ·split<;>assumption
 split<;>rfl
theorem ycv{r:GRing}{v w:GW}{m n:Nat}(cv:v.chk r)(cw:w.chk r)(hv:v.pl m)(hw:w.pl n):(r.plus v w).pl (m+n):=by
 unfold GRing.plus;by_cases h6:r.kind=6
 ·rw[ym0 h6];exact⟨ymv _,zx3 hv.ps hw.ps⟩
 ·rw[ym1 h6];refine⟨zx0 _ hv.o hw.o,fun x hx=>?_⟩;rw[zvq (cv.2.1 h6).1 (cw.2.1 h6).1]at hx;simp at hx
theorem zxx:∀ (p q o:List GMono),(p.foldl (fun o m=>prow m q o) o).length<=o.length+p.length*q.length
 | [],q,o=>by simp
 | m::p,q,o=>by have h1:=zxx p q (prow m q o);have h2:=zq6 m q o;rw[ype,yo8,yne];omega
theorem zs1(k:Int){v w:GW}{m n:Nat}(hv:v.poly.length<=m)(hw:w.poly.length<=n):(zam k v w).poly.length<=m*n:=by
 unfold zam;split
 ·exact ymv _
 split
 ·split<;>exact ymv _
 split
 ·exact ymv _
 ·have h1:=zxx v.poly w.poly [];have h2:=yn4 hv hw;simp only[List.length_nil,yn6]at h1;exact ymm h1 h2
theorem zs5{m n:Nat}:∀ {ks:List Int} {vs ws:List GW},(∀ x∈vs,x.poly.length<=m)->(∀ x∈ws,x.poly.length<=n)->∀ x∈zbx ks vs ws,x.poly.length<=m*n
 | [],_,_,_,_,x,hx=>by simp[zbx]at hx
 | _::_,[],_,_,_,x,hx=>by simp[zbx]at hx
 | _::_,_::_,[],_,_,x,hx=>by simp[zbx]at hx
 | k::ks,v::vs,w::ws,hv,hw,x,hx=>by
  simp only[zbx,ym7]at hx;rcases hx with rfl|hx
  ·exact zs1 k (hv v (by simp)) (hw w (by simp))
  ·exact zs5 (fun y hy=>hv y (by simp[hy])) (fun y hy=>hw y (by simp[hy])) x hx
theorem zs2(k:Int)(v w:GW):(zam k v w).parts=[]:=by
 unfold zam;split
 ·rfl
 split
 ·split<;>rfl
 split<;>rfl
theorem z7a{r:GRing}{v w:GW}{m n:Nat}(hv:v.pl m)(hw:w.pl n):(r.times v w).pl (m*n):=by
 unfold GRing.times;by_cases h6:r.kind=6
 ·rw[ym0 h6];exact⟨ymv _,zs5 hv.ps hw.ps⟩
 ·rw[ym1 h6];refine⟨zs1 _ hv.o hw.o,fun x hx=>?_⟩;rw[zs2]at hx;simp at hx
theorem ybx{r:GRing}{n:Nat}{l:List GTArc}(h:∀ x∈l,x.w.pl n/\x.w.chk r):∀ x∈tidT r l,x.w.pl ((l.length+1)*n):=fun x hx=>by
 have hs:=zb4 (key:=GTArc.key) l;have h':∀ x∈srt GTArc.key l,x.w.pl n/\x.w.chk r:=fun x hx=>h x ((hs.2.2 x).1 hx)
 have iv:=zkv (key:=GTArc.key) (up:=upT r) (nw:=id) (Q:=fun k x=>x.w.pl ((k+1)*n)/\x.w.chk r) (fun k x hx=>⟨hx.1.mono (ymu _ (by omega)),hx.2⟩) (l:=srt GTArc.key l) (fun x hx=>⟨(h' x hx).1.mono (by simp),(h' x hx).2⟩)
  (fun k z x hx hz=>⟨by have:=ycv hz.2 (h' x hx).2 hz.1 (h' x hx).1;exact this.mono (by rw[yne (k+1)];exact ym8 _),(zbu hz.2 (h' x hx).2:(r.plus z.w x.w).chk r)⟩) (fun k x hx=>⟨hx.1.mono (ymu _ (by omega)),hx.2⟩) _ (ym8 _)
 rw[ymq (ym8 _),hs.2.1]at iv;exact(iv.2 x (yo9.1 hx).1).1
theorem z2k{k:Int}{w:GW}(hs:w.si k)(h:w.mb1 10)(hl:w.poly.length<=72):w.sm 72:=by
 have hq:=si_q hs;have hp:=si_p hs;cases w with
 | mk q c i s p ps =>
  have e:ps=[]:=hs.1;subst e;have h1:q.sm 72:=by
   have:=zvj (n:=72) h.q (zrr 10) (ymp (z80 10) (zb5 (by omega))) (ymp (z81 10) (zb5 (by omega)))
   rwa[show rto (GW.q (GW.mk q c i s p [])).v=q from zf0 hq]at this
  have h2:psm p 72:=zee h.p hp (zrr 10) (ymp (z80 10) (zb5 (by omega))) (ymp (z81 10) (zb5 (by omega)));exact .mk h1 h2 hl (by simp) (by simp)
theorem yaa{r:GRing}{w:GW}(hc:w.chk r)(h:w.mb 10)(hl:w.pl 72):w.sm 72:=by
 by_cases h6:r.kind=6
 ·obtain⟨l,e,hs⟩:=hc.2.2 h6;have hp:=GRing.ok_parts hc.1 h6;rw[e];refine .tup (by omega) fun x hx=>?_;obtain⟨i,hi,rfl⟩:=yo7.1 hx;exact z2k (hs i (by omega) hi) (h.ps _ hx) (hl.ps _ hx)
 ·exact z2k (hc.2.1 h6) h.o hl.o
theorem yb6{t:GTrans}(hT:t.tin){x:GTArc}(hx:x∈t.nf.arcs):(subT t.nf x).sm 72:=by
 have h:=hT.nf_sm;have hf:=hT.nf_fits;have hpl:=ybx (r:=t.ring) (n:=3) fun x hx=>⟨⟨(hT.arcs x hx).pl,(hT.arcs x hx).ps⟩,(hT.arcs x hx).chk⟩;have hl:=hT.al;have hpx:x.w.pl 24:=(hpl x hx).mono (by omega);refine⟨fun w hw=>?_,fun w hw=>(h.fin w hw).mono (by omega),fun y hy=>(h.arcs y hy).mono (by omega)⟩;rcases yon hw with hw|rfl
 ·rw[ypv hw];exact(zu2 hT.ok.ring (by omega))
 ·have hv:(t.nf.ini.getD x.f.toNat t.nf.ring.zero).tiny t.ring:=by
   rw[ymo];by_cases hlt:x.f.toNat<t.nf.ini.length
   ·rw[yms hlt];exact hT.ini _ (ym3 hlt)
   ·rw[ynu (by omega)];exact zss hT.ok.ring
  have hax:=(hf.arcs x hx).1;exact yaa (za9 hv.chk hax.1) ((zxb hv.chk hax.1 hv.mb hax.2).mono (by omega)) ((z7a (r:=t.ring) ⟨hv.pl,hv.ps⟩ hpx).mono (by omega))
end Go.Ab
namespace Go.Ab
open Enc (enc)
attribute [local go_sem] zal Opd.slots
theorem zzl(r:GRing)(n:Nat)(hn0:n<=1073741824):Sp P F.ji [enc r,.int .i64 n] (.fresh 8 (ens (List.replicate n r.zero))):=by
 refine Sp.vz c.ji fun _=>?_;simp[g.ji,go_sem]
 refine zai (S:=fun x:Nat × List GW=>mkSt [(1,.p (.int .i64 n)),(2,.ptr 1 0 0 0),(5,.own 2 0 0 x.2.length),(6,.p (.int .i64 x.1))] [(1,⟨2,[.p (enc r)]⟩),(2,⟨8,avs x.2⟩)])
  (I:=fun x=>x.1<=n/\x.2=List.replicate x.1 r.zero) (m:=fun x=>n - x.1) (0,[])
  (Weak.nl 5 77 8 rfl (Weak.to [1,2,5,6] [((2,0),1),((77,0),2)] (by simp[go_sem]))) ⟨by omega,by simp⟩ ?_
 rintro⟨k,l⟩ ⟨h1,h2⟩ R hn hr hx;simp at h1 h2;have hl:l.length=k:=by rw[h2];simp
 have e1:=i64s k (by omega);simp[g.pk,mkSt,go_sem];refine⟨fun hk=>?_,fun hk=>hx _ _ ?_⟩
 ·refine zab (zgh r) ?_;simp[e1,go_sem];exact⟨by omega,hn (k+1,l++[r.zero]) _ (Weak.to [1,2,5,6] [((1,0),1),((16,0),2)] (by simp[go_sem])) ⟨by show k+1<=n;omega,by rw[h2,yru]⟩ (by show n - (k+1)<n - k;omega)⟩
 ·have:k=n:=by omega
  subst this;simp[go_sem,hl];simp[h2];rw[zg4,zwj]
theorem ygd:g.mq=.seq (.reg [⟨some 5,.box 5 (.t 1),none⟩,⟨some 8,.mv (.c (.p (.bool false))),none⟩] [[1],[8]]) yce:=rfl
theorem yf8:g.nm=.seq (.seq (.reg [⟨some 83,.mv (.t 17),none⟩,⟨some 84,.faddr 7 (.t 10),none⟩,⟨some 85,.load 1 false (.t 84),none⟩,⟨some 86,.len (.t 85),none⟩,⟨some 87,.ibin .lss (.t 83) (.t 86),none⟩] [[],[],[84],[85],[83,86]]) spC1) ycd:=rfl
def q0S(t:GTrans)(r:GRing)(X Y:List Int)(v s:GW)(j:Nat):St :=
 ⟨[(9,.ptr 9 0 0 0),(10,.ptr 10 0 0 0),(11,.p (.sl (ens X))),(12,.p (.sl (ens Y))),(13,.ptr 13 0 0 0),(15,.ptr 15 0 0 0),(17,.p (.int .i64 j))],[(9,[some ⟨2,[.p (enc r)]⟩]),(10,[some ⟨8,[.p (enc t)]⟩]),(13,[some ⟨8,[.p (enc v)]⟩]),(15,[some ⟨8,[.p (enc s)]⟩]),(DEAD,[none])]⟩
def q1S(t:GTrans)(r:GRing)(X Y:List Int)(v s:GW)(j:Nat)(a:GTArc):St :=
 ⟨[(9,.ptr 9 0 0 0),(10,.ptr 10 0 0 0),(11,.p (.sl (ens X))),(12,.p (.sl (ens Y))),(13,.ptr 13 0 0 0),(15,.ptr 15 0 0 0),(17,.p (.int .i64 j)),(18,.ptr 18 0 0 0)],[(9,[some ⟨2,[.p (enc r)]⟩]),(10,[some ⟨8,[.p (enc t)]⟩]),(13,[some ⟨8,[.p (enc v)]⟩]),(15,[some ⟨8,[.p (enc s)]⟩]),(18,[some ⟨12,[.p (enc a)]⟩]),(DEAD,[none])]⟩
section
variable (t:GTrans) (r:GRing) (X Y:List Int) (v s:GW) (j:Nat) (R:Exit->St->Option FA->Prop)
theorem q_a(hj:j<t.arcs.length)(hn:∀ st,Weak st (q1S t r X Y v s j t.arcs[j])->MR P 181 z2b.er st none R):MR P 181 zz4.er (q0S t r X Y v s j) none R:=by
 unfold zz4;refine MR.gseq ?_;generalize z2b=W at *
 simp[q0S,go_sem];refine zae hj ?_;refine hn _ (Weak.to [9,10,11,12,13,15,17,18] [((9,0),9),((10,0),10),((13,0),13),((15,0),15),((18,0),18)] ?_);simp[go_sem,q1S,mkSt]
theorem q_t(a:GTArc)(ai:0<=a.i)(ao:0<=a.o)(h0:¬ fitT X Y 0 0 a->∀ st,Weak st (q1S t r X Y v s j a)->R (.exit 3) st none)(h1:fitT X Y 0 0 a->∀ st,Weak st (q1S t r X Y v s j a)->MR P 181 zz5.er st none R):MR P 181 z2b.er (q1S t r X Y v s j a) none R:=by
 unfold z2b spC2;refine MR.gseq ?_;generalize zz5=W at *
 by_cases ci:a.i=0
 ·by_cases co:a.o=0
  ·simp[q1S,go_sem,ci,co];refine h1 ⟨.inl ci,.inl co⟩ _ (Weak.to [9,10,11,12,13,15,17,18] [((9,0),9),((10,0),10),((13,0),13),((15,0),15),((18,0),18)] ?_);simp[go_sem,q1S,mkSt,ci,co]
  ·have co':0<a.o:=by omega
   cases Y with
   | nil =>
    simp[q1S,go_sem,ci,co'];refine h0 (fun h=>by rcases h.2 with h|h;exact co h;simp at h) _ (Weak.to [9,10,11,12,13,15,17,18] [((9,0),9),((10,0),10),((13,0),13),((15,0),15),((18,0),18)] ?_);simp[go_sem,q1S,mkSt,ci]
   | cons y Y' =>
    have hl:¬ ((Y'.length:Int)+1=0):=by omega
    by_cases hy:y=a.o
    ·simp[q1S,go_sem,ci,co',hl,hy];refine h1 ⟨.inl ci,.inr (by simp[hy])⟩ _ (Weak.to [9,10,11,12,13,15,17,18] [((9,0),9),((10,0),10),((13,0),13),((15,0),15),((18,0),18)] ?_);simp[go_sem,q1S,mkSt,ci,hy]
    ·simp[q1S,go_sem,ci,co',hl,hy];refine h0 (fun h=>by rcases h.2 with h|h;exact co h;simp at h;exact hy h) _ (Weak.to [9,10,11,12,13,15,17,18] [((9,0),9),((10,0),10),((13,0),13),((15,0),15),((18,0),18)] ?_);simp[go_sem,q1S,mkSt,ci]
 ·have ci':0<a.i:=by omega
  cases X with
  | nil =>
   simp[q1S,go_sem,ci'];refine h0 (fun h=>by rcases h.1 with h|h;exact ci h;simp at h) _ (Weak.to [9,10,11,12,13,15,17,18] [((9,0),9),((10,0),10),((13,0),13),((15,0),15),((18,0),18)] ?_);simp[go_sem,q1S,mkSt]
  | cons x X' =>
   have hl:¬ ((X'.length:Int)+1=0):=by omega
   by_cases hx:x=a.i
   ·by_cases co:a.o=0
    ·simp[q1S,go_sem,ci',hl,hx,co];refine h1 ⟨.inr (by simp[hx]),.inl co⟩ _ (Weak.to [9,10,11,12,13,15,17,18] [((9,0),9),((10,0),10),((13,0),13),((15,0),15),((18,0),18)] ?_);simp[go_sem,q1S,mkSt,hx,co]
    ·have co':0<a.o:=by omega
     cases Y with
     | nil =>
      simp[q1S,go_sem,ci',hl,hx,co'];refine h0 (fun h=>by rcases h.2 with h|h;exact co h;simp at h) _ (Weak.to [9,10,11,12,13,15,17,18] [((9,0),9),((10,0),10),((13,0),13),((15,0),15),((18,0),18)] ?_);simp[go_sem,q1S,mkSt,hx]
     | cons y Y' =>
      have hl':¬ ((Y'.length:Int)+1=0):=by omega
      by_cases hy:y=a.o
      ·simp[q1S,go_sem,ci',hl,hx,co',hl',hy];refine h1 ⟨.inr (by simp[hx]),.inr (by simp[hy])⟩ _ (Weak.to [9,10,11,12,13,15,17,18] [((9,0),9),((10,0),10),((13,0),13),((15,0),15),((18,0),18)] ?_);simp[go_sem,q1S,mkSt,hx,hy]
      ·simp[q1S,go_sem,ci',hl,hx,co',hl',hy];refine h0 (fun h=>by rcases h.2 with h|h;exact co h;simp at h;exact hy h) _ (Weak.to [9,10,11,12,13,15,17,18] [((9,0),9),((10,0),10),((13,0),13),((15,0),15),((18,0),18)] ?_);simp[go_sem,q1S,mkSt,hx]
   ·simp[q1S,go_sem,ci',hl,hx];refine h0 (fun h=>by rcases h.1 with h|h;exact ci h;simp at h;exact hx h) _ (Weak.to [9,10,11,12,13,15,17,18] [((9,0),9),((10,0),10),((13,0),13),((15,0),15),((18,0),18)] ?_);simp[go_sem,q1S,mkSt]
end
section
variable (t:GTrans) (r:GRing) (X Y:List Int) (v s:GW) (j:Nat) (R:Exit->St->Option FA->Prop)
theorem q_r(a:GTArc)(N f tt:Nat)(m w s':GW)(hst:t.st=(N:Int))(hN:N<=1000)(hf:a.f=(f:Int))(hfN:f<t.ini.length)(ht:a.t=(tt:Int))(htN:tt<N)(ai:0<=a.i)(ao:0<=a.o)(fit:fitT X Y 0 0 a)
  (kt:Sp P F.ae [enc r,enc t.ini[f],enc a.w] (.pure (enc m)))
  (kw:Sp P F.ap [enc ({ t with ini:=(List.replicate N r.zero).set tt m }:GTrans),.sl (ens (X.drop (stp a.i))),.sl (ens (Y.drop (stp a.o)))] (.pure (.tup [enc w,.int .i64 0])))
  (kp:Sp P F.aa [enc r,enc s,enc w] (.pure (enc s'))) (hn:∀ st,Weak st (q0S t r X Y v s' j)->R .normal st none):MR P 181 zz5.er (q1S t r X Y v s j a) none R:=by
 have hz:=zzl r N (by omega);refine MR.of_vm ?_;unfold zz5 yf9 yga ygb ygc spC9 spC8 spC7 spC6 spC5 spC4 spC3;have hL:∀ z mm,z=AV.p (enc r.zero)->mm=AV.p (enc m)->(List.replicate N z).set tt mm=avs ((List.replicate N r.zero).set tt m):=fun z mm h1 h2=>by rw[h1,h2,yer,zg4]
 have hLl:((List.replicate N r.zero).set tt m).length=N:=by simp
 simp[q1S,go_sem,hst];refine zcl hz (by simp[go_sem]) ⟨zdx _ _ rfl,by decide,by simp[ens,LIM];omega⟩ _ rfl ?_;cases hfl:(ens (List.replicate N r.zero)).all PV.flat
 ·simp[go_sem,killAll,hf,ht];refine zae hfN ?_;refine zab kt ?_;simp[go_sem,htN];rw[zcc];refine⟨_,by rw[yqy,ym0 htN],?_⟩;rw[hL _ _ (by rw[zwj]) (by rw[zwj])];generalize (List.replicate N r.zero).set tt m=L at *
  have hLt:List.take N L=L:=ymq (by omega);have hLt2:List.take N (avs L)=avs L:=ymq (by rw[zgf];omega);have tX:List.take (X.length - 1) X.tail=X.tail:=ymq (by simp);have tY:List.take (Y.length - 1) Y.tail=Y.tail:=ymq (by simp);have lX:0<a.i->1<=X.length:=fun h=>by
   rcases fit.1 with h'|h'
   ·omega
   ·have:=(yo3.1 h').1;omega
  have lY:0<a.o->1<=Y.length:=fun h=>by
   rcases fit.2 with h'|h'
   ·omega
   ·have:=(yo3.1 h').1;omega
  have dX:X.drop (stp a.i)=if 0<a.i then X.tail else X:=by
   unfold stp;by_cases h:a.i=0
   ·rw[ym0 h,ym1 (by omega)];rfl
   ·rw[ym1 h,ym0 (by omega)];exact yrk
  have dY:Y.drop (stp a.o)=if 0<a.o then Y.tail else Y:=by
   unfold stp;by_cases h:a.o=0
   ·rw[ym0 h,ym1 (by omega)];rfl
   ·rw[ym1 h,ym0 (by omega)];exact yrk
  rw[dX,dY]at kw;clear dX dY fit hL hz kt;by_cases ci:0<a.i<;>by_cases co:0<a.o
  all_goals
   first|rw[ym0 ci]at kw|rw[ym1 ci]at kw
   first|rw[ym0 co]at kw|rw[ym1 co]at kw
   simp[go_sem,ci,co,tX,tY,lX,lY];refine zaa kw (by simp[go_sem,zhb,St.obj,St.site,look,hLl,hLt,hLt2,hst]) ?_;simp[go_sem];refine zab kp ?_;simp[go_sem];refine hn _ (Weak.to [9,10,11,12,13,15,17] [((9,0),9),((10,0),10),((13,0),13),((15,0),15)] ?_);simp[go_sem,q0S,mkSt,hst]
 ·simp[go_sem,hf,ht];refine zae hfN ?_;refine zab kt ?_;simp[go_sem,htN];rw[zcc];refine⟨_,by rw[yqy,ym0 htN],?_⟩;rw[hL _ _ (by rw[zwj]) (by rw[zwj])];generalize (List.replicate N r.zero).set tt m=L at *
  have hLt:List.take N L=L:=ymq (by omega);have hLt2:List.take N (avs L)=avs L:=ymq (by rw[zgf];omega);have tX:List.take (X.length - 1) X.tail=X.tail:=ymq (by simp);have tY:List.take (Y.length - 1) Y.tail=Y.tail:=ymq (by simp);have lX:0<a.i->1<=X.length:=fun h=>by
   rcases fit.1 with h'|h'
   ·omega
   ·have:=(yo3.1 h').1;omega
  have lY:0<a.o->1<=Y.length:=fun h=>by
   rcases fit.2 with h'|h'
   ·omega
   ·have:=(yo3.1 h').1;omega
  have dX:X.drop (stp a.i)=if 0<a.i then X.tail else X:=by
   unfold stp;by_cases h:a.i=0
   ·rw[ym0 h,ym1 (by omega)];rfl
   ·rw[ym1 h,ym0 (by omega)];exact yrk
  have dY:Y.drop (stp a.o)=if 0<a.o then Y.tail else Y:=by
   unfold stp;by_cases h:a.o=0
   ·rw[ym0 h,ym1 (by omega)];rfl
   ·rw[ym1 h,ym0 (by omega)];exact yrk
  rw[dX,dY]at kw;clear dX dY fit hL hz kt;by_cases ci:0<a.i<;>by_cases co:0<a.o
  all_goals
   first|rw[ym0 ci]at kw|rw[ym1 ci]at kw
   first|rw[ym0 co]at kw|rw[ym1 co]at kw
   simp[go_sem,ci,co,tX,tY,lX,lY];refine zaa kw (by simp[go_sem,zhb,St.obj,St.site,look,hLl,hLt,hLt2,hst]) ?_;simp[go_sem];refine zab kp ?_;simp[go_sem];refine hn _ (Weak.to [9,10,11,12,13,15,17] [((9,0),9),((10,0),10),((13,0),13),((15,0),15)] ?_);simp[go_sem,q0S,mkSt,hst]
end
theorem q1_0(t:GTrans)(r:GRing)(X Y:List Int)(v s:GW)(j:Nat)(a:GTArc):Weak (q1S t r X Y v s j a) (q0S t r X Y v s j):=by refine Weak.to [9,10,11,12,13,15,17] [((9,0),9),((10,0),10),((13,0),13),((15,0),15)] ?_;simp[go_sem,q0S,q1S,mkSt]
theorem ygq{t:GTrans}{r:GRing}{X Y:List Int}{v:GW}(S:Nat->GW)(hal:t.arcs.length<=1000)(lab:∀ x∈t.arcs,0<=x.i/\0<=x.o)
  (skip:∀ j,(h:j<t.arcs.length)->¬ fitT X Y 0 0 t.arcs[j]->S (j+1)=S j)
  (step:∀ j,(h:j<t.arcs.length)->fitT X Y 0 0 t.arcs[j]->∀ R:Exit->St->Option FA->Prop,(∀ st,Weak st (q0S t r X Y v (S (j+1)) j)->R .normal st none)->MR P 181 zz5.er (q1S t r X Y v (S j) j t.arcs[j]) none R)
  {s:St} (hw:Weak s (q0S t r X Y v (S 0) 0)) :
  MR P 181 (GC.loop g.nm).er s none fun ex s B=>ex=.exit 2/\B=none/\Weak s (q0S t r X Y v (S t.arcs.length) t.arcs.length):=by
 refine MR.gloop (I:=fun n s B=>∃ x,x<=t.arcs.length/\n=t.arcs.length - x/\Weak s (q0S t r X Y v (S x) x)/\B=none) t.arcs.length ⟨0,by omega,by omega,hw,rfl⟩ ?_;rintro n0 s B ⟨x,hx,rfl,hw,rfl⟩;refine MR.weak hw ?_;generalize hR:(fun(ex:Exit) (s:St) (B:Option FA)=>(ex=.normal->∃ m,m<t.arcs.length - x/\∃ x,x<=t.arcs.length/\m=t.arcs.length - x/\Weak s (q0S t r X Y v (S x) x)/\B=none)/\(ex ≠ .normal->ex=.exit 2/\B=none/\Weak s (q0S t r X Y v (S t.arcs.length) t.arcs.length)))=R;have r1:x<t.arcs.length->∀ s,Weak s (q0S t r X Y v (S (x+1)) (x+1))->R .normal s none:=fun h s hw=>by subst hR;exact⟨fun _=>⟨t.arcs.length - (x+1),by omega,x+1,by omega,rfl,hw,rfl⟩,fun h=>absurd rfl h⟩
 have r2:x=t.arcs.length->∀ s,Weak s (q0S t r X Y v (S x) x)->R (.exit 2) s none:=fun h s hw=>by subst hR;refine⟨fun h=>(by cases h),fun _=>⟨rfl,rfl,?_⟩⟩;rw[h]at hw;exact hw
 clear hR hw;rw[yf8];unfold spC1 ycd;by_cases hlt:x<t.arcs.length
 ·have r3:=r1 hlt;have sk:=skip x hlt;have stp':=step x hlt;have lb:=lab _ (ym3 hlt);clear r1 r2 skip step lab;have e1:=i64s x (by omega);have hZ:∀ s,Weak s (q0S t r X Y v (S (x+1)) x)->MR P 181 zz3.er s none R:=fun s hw=>by refine MR.weak hw (MR.of_vm ?_);simp[zz3,q0S,go_sem,e1];refine r3 _ (Weak.to [9,10,11,12,13,15,17] [((9,0),9),((10,0),10),((13,0),13),((15,0),15)] ?_);simp[go_sem,q0S,mkSt]
  have hA:MR P 181 zz4.er (q0S t r X Y v (S x) x) none fun ex s B=>(exB 3 ex=.normal->MR P 181 zz3.er s B R)/\(exB 3 ex ≠ .normal->R (exB 3 ex) s B):=by
   refine q_a t r X Y v (S x) x _ hlt fun s hw=>MR.weak hw (q_t t r X Y v (S x) x _ t.arcs[x] lb.1 lb.2 (fun hf s hw=>?_) fun hf s hw=>MR.weak hw (stp' hf _ fun s hw=>?_))
   ·refine⟨fun _=>hZ s ?_,fun h=>absurd rfl h⟩;rw[sk hf];exact hw.trans (q1_0 _ _ _ _ _ _ _ _)
   ·exact⟨fun _=>hZ s hw,fun h=>absurd rfl h⟩
  generalize zz4=FA0 at *
  generalize zz3=FZ0 at *
  refine MR.gseq ?_;simp[q0S,go_sem,hlt];refine MR.gseq' (MR.gblk ?_);refine MR.weak ?_ hA;refine Weak.to [9,10,11,12,13,15,17] [((9,0),9),((10,0),10),((13,0),13),((15,0),15)] ?_;simp[go_sem,q0S,mkSt]
 ·have hx':x=t.arcs.length:=by omega
  have r3:=r2 hx';clear r1 r2 skip step;generalize zz4=FA0 at *
  generalize zz3=FZ0 at *
  refine MR.gseq ?_;simp[q0S,go_sem,hlt];refine r3 _ (Weak.to [9,10,11,12,13,15,17] [((9,0),9),((10,0),10),((13,0),13),((15,0),15)] ?_);simp[go_sem,q0S,mkSt]
def p1S(t:GTrans)(r:GRing)(X Y:List Int)(v s:GW)(k:Nat):St :=
 ⟨[(9,.ptr 9 0 0 0),(10,.ptr 10 0 0 0),(11,.p (.sl (ens X))),(12,.p (.sl (ens Y))),(13,.ptr 13 0 0 0),(15,.ptr 15 0 0 0),(16,.p (.int .i64 k))],[(9,[some ⟨2,[.p (enc r)]⟩]),(10,[some ⟨8,[.p (enc t)]⟩]),(13,[some ⟨8,[.p (enc v)]⟩]),(15,[some ⟨8,[.p (enc s)]⟩]),(DEAD,[none])]⟩
theorem yc9{t:GTrans}{r:GRing}{X Y:List Int}{v:GW}(h0:¬ X.length+Y.length=0)(lx:X.length<=1000)(ly:Y.length<=1000){Q:Exit->St->Prop}{ks:List Kt}{st:St}(hw:Weak st (p1S t r X Y v r.zero 0))(hx:zk8 P 181 Q (zdn 0 ks) 0 (p1S t r X Y v r.zero 0)):vL P 181 Q g.my ks st:=by
 refine zai (S:=fun _:Unit=>p1S t r X Y v r.zero 0) (I:=fun _=>True) (m:=fun _=>0) () hw trivial ?_;rintro _ _ R hn hr hx';have e1:IntKind.i64.wrap ((X.length:Int)+(Y.length:Int))=((X.length+Y.length:Nat):Int):=(i64w (by omega) (by omega)).trans (by omega);have h1:¬ ((X.length:Int)+(Y.length:Int)=0):=by omega
 by_cases hs:(0:Int)<t.st
 ·simp[g.my,p1S,go_sem,hs,e1,h1];refine hx' 0 _ ?_;simpa[p1S,go_sem]using hx
 ·simp[g.my,p1S,go_sem,hs];refine hx' 0 _ ?_;simpa[p1S,go_sem]using hx
theorem yc8{t:GTrans}{M:Meas t.ring}(hr:t.ring.ok=true){z N:Nat}{v:GW}(hst:t.st=(N:Int))(lN:N<=1000)(hi:t.ini.length=N)(hf:t.fin.length=N)(vi:vb M z t.ini)(vf:vb M z t.fin)(hlim:z+z+1+N<=M.lim){Q:Exit->St->Prop}{ks:List Kt}{st:St}
  (hw:Weak st (p1S t t.ring [] [] v t.ring.zero 0)) (hx:zk8 P 181 Q (zdn 0 ks) 0 (p1S t t.ring [] [] v (sumW t.ring t.ini t.fin) N)):vL P 181 Q g.my ks st:=by
 refine zai (S:=fun k:Nat=>p1S t t.ring [] [] v (sumN t.ring t.ini t.fin k) k) (I:=fun k=>k<=N) (m:=fun k=>N - k) 0 (by simpa[sumN]using hw) (by omega) ?_;rintro k h1 R hn hr' hx';by_cases hk:k<N
 ·have e1:=i64s k (by omega);have hki:k<t.ini.length:=by omega
  have hkf:k<t.fin.length:=by omega
  have hs:=zje (r:=t.ring) hki hkf;have hv:=zm3 (M:=M) hr vi vf k (by omega) (by omega);have a1:=vi _ (ym3 hki);have a2:=vf _ (ym3 hkf);have kt:=M.timesS (n:=z) (by omega) a1.1 a2.1 a1.2 a2.2;have ct:=za9 a1.1 a2.1;have kp:=M.plusS (n:=z+z+1+k) (by omega) hv.1 ct hv.2 (M.mono (M.times a1.1 a2.1 a1.2 a2.2) (by omega));have hk2:(k:Int)<t.st:=by omega
  generalize sumN t.ring t.ini t.fin k=s at *
  simp[g.my,p1S,go_sem,hk2];refine zae hki ?_;refine zae hkf ?_;refine zab kt ?_;simp[go_sem];refine zab kp ?_;simp[go_sem,e1];refine hn (k+1) _ (Weak.to [9,10,11,12,13,15,16] [((9,0),9),((10,0),10),((13,0),13),((15,0),15)] ?_) (by omega) (by omega);simp[go_sem,p1S,mkSt,hs]
 ·have hk':k=N:=by omega
  subst hk';rw[zfa (by omega)];have hk2:¬ (k:Int)<t.st:=by omega
  simp[g.my,p1S,go_sem,hk2];refine hx' 0 _ ?_;simpa[p1S,go_sem]using hx
end Go.Ab
