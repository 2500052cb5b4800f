/-
Proofs for the law TransducerSumsPaths, part 40. Conditions: none.
-/
import Derived.Test.YtbhboeijjgiflaaGreatDoorDP39
import Derived.Test.YtbhboeijjgiflaaGreatDoorDP29
set_option maxRecDepth 100000
set_option maxHeartbeats 4000000
set_option linter.all false
namespace Go.Ab
section
variable {r:GRing}
def adT(r:GRing)(T:List (List GW))(p q:Nat)(w:GW):List (List GW):=T.set p ((T.getD p []).set q (r.plus ((T.getD p []).getD q r.zero) w))
def arT(r:GRing)(wx wy:List Int)(i k q:Nat)(w:GW)(T:List (List GW))(x:GTArc):List (List GW):=if x.f.toNat=q/\fitT wx wy i k x then adT r T ((i+stp x.i)*(wy.length+1)+(k+stp x.o)) x.t.toNat (r.times w x.w)else T
noncomputable def stT(r:GRing)(wx wy:List Int)(A:List GTArc)(i k:Nat)(T:List (List GW))(q:Nat):List (List GW) :=
 if (T.getD (i*(wy.length+1)+k) []).getD q r.zero=r.zero then T else A.foldl (arT r wx wy i k q ((T.getD (i*(wy.length+1)+k) []).getD q r.zero)) T
noncomputable def plT(r:GRing)(wx wy:List Int)(A:List GTArc)(ord:List Nat)(i k:Nat)(T:List (List GW)):List (List GW):=ord.foldl (stT r wx wy A i k) T
noncomputable def rwT(r:GRing)(wx wy:List Int)(A:List GTArc)(ord:List Nat)(i:Nat)(T:List (List GW))(n:Nat):List (List GW):=(List.range n).foldl (fun T k=>plT r wx wy A ord i k T) T
noncomputable def flT(r:GRing)(wx wy:List Int)(A:List GTArc)(ord:List Nat)(T:List (List GW))(n:Nat):List (List GW):=(List.range n).foldl (fun T i=>rwT r wx wy A ord i T (wy.length+1)) T
def zci(r:GRing)(K N:Nat)(T:List (List GW)):Prop:=T.length=K/\∀ l∈T,ckL r N l
theorem zci.get{K N:Nat}{T:List (List GW)}(h:zci r K N T){p:Nat}(hp:p<K):ckL r N (T.getD p []):=by rw[ymo,yms (by rw[h.1];exact hp)];exact h.2 _ (ym3 _)
variable (hr:r.ok=true)
include hr in
theorem yit{K N:Nat}{T:List (List GW)}(h:zci r K N T){p q:Nat}(hp:p<K){w:GW}(hw:w.chk r):zci r K N (adT r T p q w):=by
 refine⟨by unfold adT;rw[List.length_set];exact h.1,fun l hl=>?_⟩;have hg:=h.get hp;rcases yon hl with h1|h1
 ·exact h.2 l h1
 ·rw[h1];refine⟨fun v hv=>?_,by rw[List.length_set];exact hg.2⟩;rcases yon hv with h2|h2
  ·exact hg.1 v h2
  ·rw[h2];exact zbu (zfj hr hg q) hw
noncomputable def Ph(K N:Nat)(β : Nat->Nat->(srG r hr).α)(T:List (List GW)):(srG r hr).α := (srG r hr).sum (List.range K) fun p=>(srG r hr).sum (List.range N) fun q=>(srG r hr).m (gd hr (T.getD p []) q) (β p q)
theorem pm{S:SR}(a b c:S.α):S.m (S.p a b) c=S.p (S.m a c) (S.m b c):=by rw[S.mc,S.mp,S.mc c a,S.mc c b]
theorem zpj(S:SR){K N p0 q0:Nat}(hp:p0<K)(hq:q0<N)(c:S.α):S.sum (List.range K) (fun p=>S.sum (List.range N) fun q=>if p=p0/\q=q0 then c else S.z)=c:=by
 rw[S.sum_congr (g:=fun p=>if p=p0 then c else S.z) fun p _=>?_]
 ·exact S.sum_delta hp fun _=>c
 ·by_cases h:p=p0
  ·simp only[h,true_and,ym2];exact S.sum_delta hq fun _=>c
  ·simp only[h,false_and,ym9];exact S.sum_zero _
theorem yl1{K N:Nat}{T:List (List GW)}(h:zci r K N T){p q:Nat}(hp:p<K)(hq:q<N){w:GW}(hw:w.chk r)(β : Nat->Nat->(srG r hr).α):Ph hr K N β (adT r T p q w)=(srG r hr).p (Ph hr K N β T) ((srG r hr).m (cw hr w) (β p q)):=by
 have hg:=h.get hp;have hv:∀ p' q',gd hr ((adT r T p q w).getD p' []) q'=(srG r hr).p (gd hr (T.getD p' []) q') (if p'=p/\q'=q then cw hr w else(srG r hr).z):=fun p' q'=>by
  have hl:p<T.length:=by rw[h.1];exact hp
  unfold adT;by_cases e:p'=p
  ·subst e;rw[ymo,yqb hl,ypq];by_cases e2:q'=q
   ·subst e2;rw[ziz hr _ (by rw[hg.2];exact hq),zsh hr (zfj hr hg _) hw,ym0 ⟨rfl,rfl⟩];rfl
   ·rw[zoc hr _ (yn8 e2),ym1 fun h=>e2 h.2,(srG r hr).pz]
  ·rw[ymo,ypu (yn8 e),<- List.getD_eq_getElem?_getD,ym1 fun h=>e h.1,(srG r hr).pz]
 unfold Ph;rw[(srG r hr).sum_congr (g:=fun p'=>(srG r hr).p ((srG r hr).sum (List.range N) fun q'=>(srG r hr).m (gd hr (T.getD p' []) q') (β p' q')) ((srG r hr).sum (List.range N) fun q'=>if p'=p/\q'=q then(srG r hr).m (cw hr w) (β p q)else(srG r hr).z)) fun p' _=>?_]
 ·rw[SR.sum_add,zpj _ hp hq]
 ·rw[<- SR.sum_add];refine(srG r hr).sum_congr fun q' _=>?_;rw[hv,pm]
  congr 1
  by_cases e:p'=p/\q'=q
  ·rw[ym0 e,ym0 e,e.1,e.2]
  ·rw[ym1 e,ym1 e,SR.zm]
theorem yl0{K N p q:Nat}(hp:p<K)(hq:q<N)(T:List (List GW)){β β':Nat->Nat->(srG r hr).α}{c:(srG r hr).α}(h:∀ p' q',p'<K->q'<N -> β p' q'=if p'=p/\q'=q then(srG r hr).p (β' p' q') c else β' p' q'):Ph hr K N β T=(srG r hr).p (Ph hr K N β' T) ((srG r hr).m (gd hr (T.getD p []) q) c):=by
 unfold Ph;rw[(srG r hr).sum_congr (g:=fun p'=>(srG r hr).p ((srG r hr).sum (List.range N) fun q'=>(srG r hr).m (gd hr (T.getD p' []) q') (β' p' q')) ((srG r hr).sum (List.range N) fun q'=>if p'=p/\q'=q then(srG r hr).m (gd hr (T.getD p []) q) c else(srG r hr).z)) fun p' hp'=>?_]
 ·rw[SR.sum_add,zpj _ hp hq]
 ·rw[<- SR.sum_add];refine(srG r hr).sum_congr fun q' hq'=>?_;rw[h p' q' (yng.1 hp') (yng.1 hq')];by_cases e:p'=p/\q'=q
  ·rw[ym0 e,ym0 e,(srG r hr).mp,e.1,e.2]
  ·rw[ym1 e,ym1 e,(srG r hr).pz]
theorem yan{K N:Nat}(T:List (List GW)){β β':Nat->Nat->(srG r hr).α}(h:∀ p q,p<K->q<N -> β p q = β' p q):Ph hr K N β T=Ph hr K N β' T:=by unfold Ph;refine(srG r hr).sum_congr fun p hp=>(srG r hr).sum_congr fun q hq=>?_;rw[h p q (yng.1 hp) (yng.1 hq)]
end
section
variable {r:GRing} (hr:r.ok=true) {t:GTrans} (ht:ckT r t) {wx wy:List Int}
abbrev plN(wx wy:List Int):Nat:=(wx.length+1)*(wy.length+1)
theorem zvr{i k:Nat}(hi:i<=wx.length)(hk:k<=wy.length):i*(wy.length+1)+k<plN wx wy:=by have:(i+1)*(wy.length+1)<=(wx.length+1)*(wy.length+1):=ymu _ (by omega);rw[yne]at this;unfold plN;omega
theorem zug{i k:Nat}{x:GTArc}(h:fitT wx wy i k x)(hi:i<=wx.length)(hk:k<=wy.length):i+stp x.i<=wx.length/\k+stp x.o<=wy.length:=by
 obtain⟨h1,h2⟩:=h;unfold stp;constructor
 ·split
  ·omega
  ·rename_i h0;have:=(yo3.1 (h1.resolve_left h0)).1;omega
 ·split
  ·omega
  ·rename_i h0;have:=(yo3.1 (h2.resolve_left h0)).1;omega
include ht hr in
theorem ylz{T:List (List GW)}(h:zci r (plN wx wy) t.st.toNat T){i k q:Nat}(hi:i<=wx.length)(hk:k<=wy.length){w:GW}(hw:w.chk r){x:GTArc}(hx:x∈t.arcs):zci r (plN wx wy) t.st.toNat (arT r wx wy i k q w T x):=by
 unfold arT;split
 ·rename_i hc;have hin:=zug hc.2 hi hk;exact yit hr h (zvr hin.1 hin.2) (za9 hw (ht.arcs x hx).1)
 ·exact h
theorem yip{T:List (List GW)}(h:zci r (plN wx wy) t.st.toNat T){i k q:Nat}(hi:i<=wx.length)(hk:k<=wy.length){w:GW}(hw:w.chk r)(β : Nat->Nat->(srG r hr).α){x:GTArc}(hx:x.w.chk r/\x.fit t.st.toNat) :
  Ph hr (plN wx wy) t.st.toNat β (arT r wx wy i k q w T x)=(srG r hr).p (Ph hr (plN wx wy) t.st.toNat β T) (if x.f.toNat=q/\fitT wx wy i k x then(srG r hr).m (cw hr w) ((srG r hr).m (cw hr x.w) (β ((i+stp x.i)*(wy.length+1)+(k+stp x.o)) x.t.toNat))else(srG r hr).z):=by
 unfold arT;split
 ·rename_i hc;have hin:=zug hc.2 hi hk;obtain⟨a1,⟨a2,a3⟩,a4,a5⟩:=hx;rw[yl1 hr h (zvr hin.1 hin.2) (by omega) (za9 hw a1),zmr hr hw a1,(srG r hr).ma]
 ·exact((srG r hr).pz _).symm
include ht in
theorem zww{i k q:Nat}(hi:i<=wx.length)(hk:k<=wy.length){w:GW}(hw:w.chk r)(β : Nat->Nat->(srG r hr).α):∀ {l:List GTArc} {T:List (List GW)},(∀ x∈l,x∈t.arcs)->zci r (plN wx wy) t.st.toNat T ->
  zci r (plN wx wy) t.st.toNat (l.foldl (arT r wx wy i k q w) T)/\Ph hr (plN wx wy) t.st.toNat β (l.foldl (arT r wx wy i k q w) T)=(srG r hr).p (Ph hr (plN wx wy) t.st.toNat β T) ((srG r hr).m (cw hr w) ((srG r hr).sum l fun x=>if x.f.toNat=q/\fitT wx wy i k x then(srG r hr).m (cw hr x.w) (β ((i+stp x.i)*(wy.length+1)+(k+stp x.o)) x.t.toNat)else(srG r hr).z))
 | [],T,_,h=>⟨h,by rw[SR.sum_nil,(srG r hr).mz,(srG r hr).pz];rfl⟩
 | x::l,T,hl,h=>by
  have hx:=hl x ynt;have h1:=ylz hr ht h hi hk (q:=q) hw hx;obtain⟨i1,i2⟩:=zww hi hk hw β (fun y hy=>hl y (yn9 _ hy)) h1;refine⟨i1,?_⟩;rw[ype,i2,yip hr h hi hk hw β (ht.arcs x hx),(srG r hr).pa,SR.sum_cons,(srG r hr).mp]
  congr 2
  split
  ·rfl
  ·rw[(srG r hr).mz]
noncomputable def coB(t:GTrans)(wx wy:List Int)(p q:Nat):(srG r hr).α := gd hr (tabW t wx wy (p / (wy.length+1)) (p % (wy.length+1))) q
noncomputable def coF(t:GTrans)(wx wy:List Int)(p q:Nat):(srG r hr).α := if p+1=plN wx wy then gd hr t.fin q else(srG r hr).z
noncomputable def co(t:GTrans)(wx wy:List Int)(p0:Nat)(pre:List Nat)(p q:Nat):(srG r hr).α := if p<p0\/(p=p0/\q∈pre)then coF hr t wx wy p q else coB hr t wx wy p q
theorem z6c{i k:Nat}(hk:k<=wy.length)(q:Nat):coB hr t wx wy (i*(wy.length+1)+k) q=gd hr (tabW t wx wy i k) q:=by unfold coB;rw[ynd i,Nat.mul_add_div (by omega),ypc (show k<wy.length+1 by omega),Nat.mul_add_mod,yoa (show k<wy.length+1 by omega),ynx]
include ht in
theorem yik{i k:Nat}(hi:i<=wx.length)(hk:k<=wy.length)(q:Nat):coF hr t wx wy (i*(wy.length+1)+k) q=gd hr (zh3 t wx wy i k) q:=by
 unfold coF zh3;have hiff:i*(wy.length+1)+k+1=plN wx wy ↔ i=wx.length/\k=wy.length:=by
  constructor
  ·intro h;unfold plN at h;rw[yne]at h;have hi2:¬ i<wx.length:=fun hlt=>by have:=ymu (wy.length+1) (yqd hlt);rw[yne]at this;omega
   have:i=wx.length:=by omega
   subst this;omega
  ·rintro⟨rfl,rfl⟩;unfold plN;rw[yne];omega
 by_cases h:i=wx.length/\k=wy.length
 ·rw[ym0 (hiff.2 h),ym0 h]
 ·rw[ym1 fun h'=>h (hiff.1 h'),ym1 h,ht.ring,zmo]
end
def hpOk(ks:List Nat)(hp:List Site):Bool:=hp.all fun q=>q.2.all (zrf ks)
def HSp(P:Program)(f:FuncId)(vs:List AV)(hp:List Site)(v:AV)(hp':List Site):Prop :=
 (∃ fn,P.funcs[f]?=some fn/\fn.body.isSome=true/\fn.name ≠ "runtime.NumGoroutine") /\
 ∀ (Z:Cz) (w:World) (vals:List Value),HRep ⟨w,Z.M,ownB Z ⟨[],hp⟩,0⟩ Z ⟨[],hp⟩ w->AReps Z ⟨[],hp⟩ vs vals ->
  Calls P f vals.toArray w fun e w'=>∃ x Z',e=.returned x/\HRep ⟨w,Z.M,ownB Z ⟨[],hp⟩,0⟩ Z' ⟨[],hp'⟩ w'/\ARep Z' ⟨[],hp'⟩ v x/\ZLe Z ⟨[],hp⟩ Z' ⟨[],hp'⟩
section
variable {P:Program} {K:Ctx} {Z Z' Z2:Cz} {st st' st1 st2:St} {w w':World} {a:Act} {N:Nat} {A B:Option FA} {Post:Exit->St->Option FA->Prop} {PostI:St->Option FA->Prop} {ks:List Nat} {v:AV}
theorem zvg{u:AV}(h:zg7 ks u=true):zbs ks u.cells=true:=by
 cases u with
 | p p =>
  cases p with
  | agg cs=>simp only[AV.cells,zf1,List.all_map,ynq,ypb,zg7,implies_true]
  | _=>rfl
 | agg cs=>exact h
 | _=>simp only[AV.cells,zbs,h,Bool.and_self]
theorem zvh{es:List AV}(h:zbs ks es=true):zbs ks (es.flatMap AV.cells)=true:=by simp only[zf1,ynq]at h ⊢;intro c hc;obtain⟨e,he,hc⟩:=yny.1 hc;have:=zvg (h e he);rw[zf1,ynq]at this;exact this c hc
mutual
theorem ARep.into(hs:∀ s,ks.contains s=true->st2.site s=st.site s)(hM:∀ b o,Z.M b=some o->Z2.M b=some o)(hB:∀ s g,ks.contains s=true->Z2.B s g=Z.B s g/\Z2.cap s g=Z.cap s g):∀ {u:AV} {x:Value},ARep Z st u x->zg7 ks u=true->ARep Z2 st2 u x
 | _,_,.p u x hp,_=>.p u x (PRep.mono hM hp)
 | _,_,.nil,_=>.nil
 | _,_,.own0 s g o ho hb,h=>.own0 s g o (by rw[zag (hs s h)];exact ho) (by rw[(hB s g h).1];exact hb)
 | _,_,.own s g off len o b ad c ho hb h1 h2 h3 h4,h=>.own s g off len o b ad c (by rw[zag (hs s h)];exact ho) (by rw[(hB s g h).1];exact hb) (by rw[(hB s g h).2];exact h1) h2 h3 h4
 | _,_,.ownD s g off len ad c hg hd,h=>.ownD s g off len ad c (by rw[hs s h];exact hg) (by rw[zag (hs s h)];exact hd)
 | _,_,.ptr s g ix off o b ho hb,h=>.ptr s g ix off o b (by rw[zag (hs s h)];exact ho) (by rw[(hB s g h).1];exact hb)
 | _,_,.ptrD s g ix off ad hg hd,h=>.ptrD s g ix off ad (by rw[hs s h];exact hg) (by rw[zag (hs s h)];exact hd)
 | _,_,.cp u vsz off b o cur T fr vals h0 h1 h2 h3 h4 h5,_=>.cp u vsz off b o cur T fr vals (hM _ _ h0) h1 h2 h3 (PReps.mono hM h4) h5
 | _,_,.agg cs vals h1 h2,h=>.agg cs vals h1 (AReps.into hs hM hB h2 h)
 | _,_,.fn f caps vals h1,h=>.fn f caps vals (AReps.into hs hM hB h1 h)
 | _,_,.tup vs vals h1,h=>.tup vs vals (AReps.into hs hM hB h1 h)
 | _,_,.skip,_=>.skip
 | _,_,.undef x,_=>.undef x
theorem AReps.into(hs:∀ s,ks.contains s=true->st2.site s=st.site s)(hM:∀ b o,Z.M b=some o->Z2.M b=some o)(hB:∀ s g,ks.contains s=true->Z2.B s g=Z.B s g/\Z2.cap s g=Z.cap s g):∀ {u:List AV} {x:List Value},AReps Z st u x->zbs ks u=true->AReps Z2 st2 u x
 | _,_,.nil,_=>.nil
 | _,_,.cons u x us xs h1 h2,h=>by simp only[zbs,ync]at h;exact .cons _ _ _ _ (ARep.into hs hM hB h1 h.1) (AReps.into hs hM hB h2 h.2)
end
theorem ORep.into(hs:∀ s,ks.contains s=true->st2.site s=st.site s)(hM:∀ b o,Z.M b=some o->Z2.M b=some o)(hB:∀ s g,ks.contains s=true->Z2.B s g=Z.B s g/\Z2.cap s g=Z.cap s g){s g:Nat}{o:AObj}(hk:ks.contains s=true)(hr:zbs ks o.es=true)
  (h:ORep Z st w s g o):ORep Z2 st2 w s g o:=by
 refine⟨h.pos,h.els,h.one,fun hn=>h.non (by rw[<- (hB s g hk).1];exact hn),fun b hb=>?_⟩;rw[(hB s g hk).1]at hb;obtain⟨cur,T,vals,k1,k2,k3,k4,k5,k6⟩:=h.blk b hb;rw[(hB s g hk).2];exact⟨cur,T,vals,k1,AReps.into hs hM hB k2 (zvh hr),k3,k4,k5,k6⟩
theorem zhr{hp:List Site}{s:Nat}(h:(hp.map (·.1)).contains s=false):look hp s []=[]:=by
 rcases zjy (d:=([]:List (Option AObj))) (l:=hp) (s:=s)with h1|⟨q,h1,rfl,_⟩
 ·exact h1
 ·exfalso;have:=ypo.2 (ym6.2 ⟨q,h1,rfl⟩:q.1∈hp.map (·.1));rw[h]at this;cases this
theorem zyq{hp r:List Site}{s:Nat}:look (hp++r) s []=if (hp.map (·.1)).contains s=true then look hp s []else look r s []:=by
 induction hp with
 | nil=>simp
 | cons q l ih =>
  obtain⟨k,x⟩:=q;simp only[yoy,look,ymy];by_cases h:k=s
  ·subst h;simp
  ·rw[ym1 h,ym1 h,ih];have:(k::l.map (·.1)).contains s=(l.map (·.1)).contains s:=by simp[List.contains_cons,yn8 h]
   rw[this]
theorem zr7{hp:List Site}(h:hpOk ks hp=true){s g:Nat}{o:AObj}(ho:(⟨[],hp⟩:St).obj s g=some o):zbs ks o.es=true:=by
 rcases zjy (d:=([]:List (Option AObj))) (l:=hp) (s:=s)with h1|⟨q,h1,_,h3⟩
 ·simp[St.obj,St.site,h1]at ho
 ·have:=ynq.1 (ynq.1 h q h1);simp only[St.obj,St.site,h3]at ho;cases hg:q.2[g]? with
  | none=>rw[hg]at ho;cases ho
  | some x =>
   rw[hg]at ho;simp only[ypq]at ho;subst ho;exact this _ (yow hg)
theorem Later.put(hh:Later Z st w Z' st' w')(d:Option Nat)(v:AV):Later Z st w Z' (st'.put d v) w' :=
 hh.trans ⟨fun _ _ h=>h,fun r hr=>⟨⟨hr.m,fun s g o ho=>hr.o s g o (by rw[<- ho];exact(ydf st' d v s g).symm),hr.lt⟩,rfl⟩,.of_zle (zbn (fun i=>za2 _ _ _ i) _)⟩
def zpb(st:St)(hp:List Site):List Site->Prop
 | []=>True
 | q::r=>st.site q.1=look hp q.1 []/\zpb st hp r
theorem zou{hp:List Site}:∀ {r:List Site},zpb st hp r->∀ q∈r,st.site q.1=look hp q.1 []
 | q::r,h,x,hx=>by
  rcases ym7.1 hx with rfl|hx
  ·exact h.1
  ·exact zou h.2 x hx
theorem z1b{hp hp':List Site}{x:Value}(hks:hp'.map (·.1)=hp.map (·.1))(hsite:∀ s,(hp.map (·.1)).contains s=true->st.site s=look hp s [])(hr1:hpOk (hp.map (·.1)) hp'=true)(hr2:zg7 (hp.map (·.1)) v=true)
  (hs:HRep K Z st w) (hH:HRep ⟨w,Z.M,ownB Z ⟨[],hp⟩,0⟩ Z' ⟨[],hp'⟩ w') (hx:ARep Z' ⟨[],hp'⟩ v x) (hz:ZLe Z ⟨[],hp⟩ Z' ⟨[],hp'⟩) :
  ∃ Z2,HRep K Z2 ⟨st.sl,hp'++st.hp⟩ w'/\ARep Z2 ⟨st.sl,hp'++st.hp⟩ v x/\ZLe Z st Z2 ⟨st.sl,hp'++st.hp⟩/\Later Z st w Z2 ⟨st.sl,hp'++st.hp⟩ w':=by
 generalize hK:hp.map (·.1)=ks at *
 have s1:∀ s,ks.contains s=true->(⟨st.sl,hp'++st.hp⟩:St).site s=(⟨[],hp'⟩:St).site s:=fun s h=>by simp only[St.site,zyq,hks,h,ym2]
 have s2:∀ s,ks.contains s=false->(⟨st.sl,hp'++st.hp⟩:St).site s=st.site s:=fun s h=>by simp only[St.site,zyq,hks,h,ymw,ym9]
 have s0:∀ s,ks.contains s=true->st.site s=(⟨[],hp⟩:St).site s:=hsite;have e0:∀ s,ks.contains s=false->(⟨[],hp⟩:St).site s=[]:=fun s h=>zhr (by rw[hK];exact h);have e1:∀ s,ks.contains s=false->(⟨[],hp'⟩:St).site s=[]:=fun s h=>zhr (by rw[hks];exact h);have k1:∀ {s g o},(⟨[],hp'⟩:St).obj s g=some o->ks.contains s=true:=fun {s g o} ho=>by
  cases h:ks.contains s with
  | true=>rfl
  | false=>simp[St.obj,e1 s h]at ho
 have o0:∀ {s g o},ks.contains s=true->st.obj s g=some o->(⟨[],hp⟩:St).obj s g=some o:=fun {s g o} h ho=>by rw[zag (s0 s h)]at ho;exact ho
 have own0:∀ b,ownB Z ⟨[],hp⟩ b->∃ s g o,ks.contains s=true/\st.obj s g=some o/\Z.B s g=some b:=fun b ⟨s,g,o,ho,hb⟩=>by
  cases h:ks.contains s with
  | true=>exact⟨s,g,o,rfl.trans h,by rw[zag (s0 s h)];exact ho,hb⟩
  | false=>simp[St.obj,e0 s h]at ho
 let Z2:Cz:=⟨Z'.M,fun s g=>if ks.contains s=true then Z'.B s g else Z.B s g,fun s g=>if ks.contains s=true then Z'.cap s g else Z.cap s g⟩
 have B1:∀ s g,ks.contains s=true->Z2.B s g=Z'.B s g/\Z2.cap s g=Z'.cap s g:=fun s g h=>by simp only[Z2,h,ym2,and_self]
 have B2:∀ s g,ks.contains s=false->Z2.B s g=Z.B s g/\Z2.cap s g=Z.cap s g:=fun s g h=>by simp only[Z2,h,ymw,ym9,and_self]
 have hM:∀ b o,Z.M b=some o->Z'.M b=some o:=hH.m0;have hzl:ZLe Z st Z2 ⟨st.sl,hp'++st.hp⟩:=by
  refine⟨hM,fun s=>?_,fun s g hg hd=>?_,fun s g o ho=>?_⟩<;>cases h:ks.contains s
  ·rw[s2 s h];exact ym8 _
  ·rw[s1 s h,s0 s h];exact hz.len s
  ·rw[zag (s2 s h)];exact hd
  ·rw[zag (s1 s h)];exact hz.dead s g (by rw[<- s0 s h];exact hg) (by rw[<- zag (s0 s h)];exact hd)
  ·exact .inr ⟨o,by rw[zag (s2 s h)];exact ho,rfl,rfl,(B2 s g h).1,(B2 s g h).2⟩
  ·rw[zag (s1 s h),(B1 s g h).1,(B1 s g h).2];exact hz.live s g o (o0 h ho)
 have far:∀ {s g o b},ks.contains s=false->st.obj s g=some o->Z.B s g=some b->¬ ownB Z ⟨[],hp⟩ b/\b<w.heap.size:=fun {s g o b} h ho hb=>by refine⟨fun hx=>?_,hs.lt ho hb⟩;obtain⟨s3,g3,o3,c1,c2,c3⟩:=own0 b hx;obtain⟨rfl,rfl⟩:=hs.inj _ _ _ _ _ _ b ho c2 hb c3;rw[h]at c1;cases c1
 have hh:HRep K Z2 ⟨st.sl,hp'++st.hp⟩ w':=by
  have hk0:=hH.keep;refine⟨fun s g o ho=>?_,fun s g s' g' o o' b a1 a2 b1 b2=>?_,hH.mem,fun s g o b a1 b1=>?_,fun s g o b a1 b1=>?_,fun b o hb=>hM b o (hs.m0 b o hb),fun b o hb=>?_,?_⟩
  ·cases h:ks.contains s with
   | true =>
    rw[zag (s1 s h)]at ho;exact ORep.into (Z:=Z') (Z2:=Z2) s1 (fun _ _ h=>h) B1 h (zr7 hr1 ho) (hH.objs s g o ho)
   | false =>
    rw[zag (s2 s h)]at ho;exact(hs.objs s g o ho).later hzl (B2 s g h).1 (B2 s g h).2 fun b hb=>hk0.blk b (far h ho hb).2 (far h ho hb).1
  ·cases h:ks.contains s<;>cases h':ks.contains s'
   ·rw[zag (s2 _ h)]at a1;rw[zag (s2 _ h')]at a2;rw[(B2 _ _ h).1]at b1;rw[(B2 _ _ h').1]at b2;exact hs.inj _ _ _ _ _ _ b a1 a2 b1 b2
   ·rw[zag (s2 _ h)]at a1;rw[zag (s1 _ h')]at a2;rw[(B2 _ _ h).1]at b1;rw[(B1 _ _ h').1]at b2;have f:=far h a1 b1;rcases hH.own _ _ _ b a2 b2 with c|c
    ·exact absurd c f.1
    ·have c':w.heap.size<=b:=c;omega
   ·rw[zag (s1 _ h)]at a1;rw[zag (s2 _ h')]at a2;rw[(B1 _ _ h).1]at b1;rw[(B2 _ _ h').1]at b2;have f:=far h' a2 b2;rcases hH.own _ _ _ b a1 b1 with c|c
    ·exact absurd c f.1
    ·have c':w.heap.size<=b:=c;omega
   ·rw[zag (s1 _ h)]at a1;rw[zag (s1 _ h')]at a2;rw[(B1 _ _ h).1]at b1;rw[(B1 _ _ h').1]at b2;exact hH.inj _ _ _ _ _ _ b a1 a2 b1 b2
  ·cases h:ks.contains s
   ·rw[zag (s2 _ h)]at a1;rw[(B2 _ _ h).1]at b1;have f:=far h a1 b1;cases hm:Z'.M b with
    | none=>rfl
    | some y =>
     exfalso;rcases hH.prov b y hm with c|c|c
     ·have c':Z.M b=some y:=c;rw[hs.sep _ _ _ b a1 b1]at c';cases c'
     ·exact f.1 c
     ·have c':w.heap.size<=b:=c;omega
   ·rw[zag (s1 _ h)]at a1;rw[(B1 _ _ h).1]at b1;exact hH.sep _ _ _ b a1 b1
  ·have old:∀ b,ownB Z ⟨[],hp⟩ b->K.X0 b\/K.w0.heap.size<=b:=fun b hx=>by obtain⟨s3,g3,o3,_,c2,c3⟩:=own0 b hx;exact hs.own _ _ _ b c2 c3
   cases h:ks.contains s
   ·rw[zag (s2 _ h)]at a1;rw[(B2 _ _ h).1]at b1;exact hs.own _ _ _ b a1 b1
   ·rw[zag (s1 _ h)]at a1;rw[(B1 _ _ h).1]at b1;rcases hH.own _ _ _ b a1 b1 with c|c
    ·exact old b c
    ·exact .inr (ymm hs.keep.size c)
  ·rcases hH.prov b o hb with c|c|c
   ·exact hs.prov b o c
   ·obtain⟨s3,g3,o3,_,c2,c3⟩:=own0 b c;exact .inr (hs.own _ _ _ b c2 c3)
   ·exact .inr (.inr (ymm hs.keep.size c))
  ·have k1:=hs.keep;refine⟨hk0.os.trans k1.os,hk0.tape.trans k1.tape,hk0.output.trans k1.output,ymm k1.drawn hk0.drawn,ymm k1.size hk0.size,fun b hb hx=>?_⟩;rw[hk0.blk b (ymp hb k1.size) (fun h=>?_),k1.blk b hb hx];obtain⟨s3,g3,o3,_,c2,c3⟩:=own0 b h;rcases hs.own _ _ _ b c2 c3 with c|c
   ·exact hx c
   ·omega
 refine⟨Z2,hh,ARep.into (Z:=Z') (Z2:=Z2) s1 (fun _ _ h=>h) B1 hx hr2,hzl,⟨hM,fun r hr=>?_,.of_zle hzl⟩⟩;have hno:¬ ownB Z ⟨[],hp⟩ r:=fun hx=>by obtain⟨s3,g3,o3,_,c2,c3⟩:=own0 r hx;exact hr.o _ _ _ c2 c3
 refine⟨⟨?_,fun s g o a1 b1=>?_,ymp hr.lt hH.keep.size⟩,hH.keep.blk r hr.lt hno⟩
 ·show Z'.M r=none;cases hm:Z'.M r with
  | none=>rfl
  | some y =>
   exfalso;rcases hH.prov r y hm with c|c|c
   ·have c':Z.M r=some y:=c;rw[hr.m]at c';cases c'
   ·exact hno c
   ·have c':w.heap.size<=r:=c;have:=hr.lt;omega
 ·cases h:ks.contains s
  ·rw[zag (s2 _ h)]at a1;rw[(B2 _ _ h).1]at b1;exact hr.o _ _ _ a1 b1
  ·rw[zag (s1 _ h)]at a1;rw[(B1 _ _ h).1]at b1;rcases hH.own _ _ _ r a1 b1 with c|c
   ·exact hno c
   ·have c':w.heap.size<=r:=c;have:=hr.lt;omega
theorem z6h{hp:List Site}(hsite:∀ s,(hp.map (·.1)).contains s=true->st.site s=look hp s [])(hr:hpOk (hp.map (·.1)) hp=true)(hs:HRep K Z st w):HRep ⟨w,Z.M,ownB Z ⟨[],hp⟩,0⟩ Z ⟨[],hp⟩ w:=by
 have k0:∀ {s g o},(⟨[],hp⟩:St).obj s g=some o->(hp.map (·.1)).contains s=true:=fun {s g o} ho=>by
  cases h:(hp.map (·.1)).contains s with
  | true=>rfl
  | false=>simp[St.obj,St.site,zhr h]at ho
 have o0:∀ {s g o},(⟨[],hp⟩:St).obj s g=some o->st.obj s g=some o:=fun {s g o} ho=>by rw[zag (st2:=st) (st:=⟨[],hp⟩) (hsite s (k0 ho))];exact ho
 exact⟨fun s g o ho=>ORep.into (st:=st) (st2:=⟨[],hp⟩) (Z2:=Z) (fun s h=>(hsite s h).symm) (fun _ _ h=>h) (fun _ _ _=>⟨rfl,rfl⟩) (k0 ho) (zr7 hr ho) (hs.objs s g o (o0 ho)),fun s g s' g' o o' b a1 a2=>hs.inj s g s' g' o o' b (o0 a1) (o0 a2),hs.mem,fun s g o b a1=>hs.sep s g o b (o0 a1),
  fun s g o b a1 b1=>.inl ⟨s,g,o,a1,b1⟩,fun _ _ h=>h,fun _ _ h=>.inl h,Keep.refl w _⟩
theorem zt5{d:Option Nat}{f:FuncId}{xs:List Opd}{vs:List AV}{hp hp':List Site}(hsp:HSp P f vs hp v hp')(hxs:xs.map st.ev=vs)(hk:zpb st hp hp)(hks:hp'.map (·.1)=hp.map (·.1))
  (hr:(zbs (hp.map (·.1)) vs&&hpOk (hp.map (·.1)) hp&&zg7 (hp.map (·.1)) v&&hpOk (hp.map (·.1)) hp')=true) (k:PostI ((⟨st.sl,hp'++st.hp⟩:St).put d v) A):MOp P N ⟨d,.call f xs,none⟩ st A PostI:=by
 intro ops j o K Z w a Q Kt hN hj hcc hs hA hK;obtain⟨h1,h2,h3,h4⟩:=zc1 hcc;obtain⟨cc,h,hop,hf,hh,hops⟩:=zla h1;have hg:o.guard=none:=by
  cases hg:o.guard with
  | none=>rfl
  | some jb =>
   obtain⟨j,b⟩:=jb;rw[hg]at h2;simp only[zdf]at h2;split at h2<;>cases h2
 have hw:Region.wanted o (yielded ops a.tmps)=true:=by simp[Region.wanted,hg]
 have hd:d=o.dst:=h3;obtain⟨hfn,hsp⟩:=hsp;have hrr:=ziv hops hs;rw[hxs]at hrr;have hfr:=zaq hh hs;simp only[St.ev]at hfr;have hfv:a.eval h=.func (.func f) #[] #[]:=by
  have hp:=hfr.inv_p;generalize a.eval h=F at hp ⊢;cases hp with
  | fn _ _ vals h=>cases h;rfl
 have hrun:(execOp a.eval o).run P w=.ok (.enter f ((cc.args.toList.map a.eval).toArray)) w:=by
  have:=zec (P:=P) (w:=w) (args:=(cc.args.toList.map a.eval).toArray) hfn;simp only[execOp,hop,resolve,hf,hfv,Deferred.ofValue,yna,yni,yno,invoke];have e : #[]++cc.args.map a.eval ++ #[]=(cc.args.toList.map a.eval).toArray:=by simp[<- Array.toList_map]
  rw[e];exact this
 simp only[ync]at hr;obtain⟨⟨⟨r1,r2⟩,r3⟩,r4⟩:=hr;have hsite:∀ s,(hp.map (·.1)).contains s=true->st.site s=look hp s []:=fun s hs=>by obtain⟨q,hq,rfl⟩:=ym6.1 (ypo.1 hs);exact zou hk q hq
 refine(show o.wp P a w Kt Q from ?_) |> fun h=>by unfold wpOp;simp only[hj,hw,ym2];exact .inl h
 unfold Oper.wp;rw[hrun,yql];refine(hsp Z w _ (z6h hsite r2 hs.heap) (AReps.into (st:=st) (st2:=⟨[],hp⟩) (Z2:=Z) (fun s h=>(hsite s h).symm) (fun _ _ h=>h) (fun _ _ _=>⟨rfl,rfl⟩) hrr r1)).mono ?_;rintro e w' ⟨x,Z',rfl,p1,p2,p3⟩;obtain⟨Z2,q1,q2,q3,q4⟩:=z1b hks hsite r4 r3 hs.heap p1 p2 p3;refine hK _ _ Z2 _ _ k ?_ (hA.later (q4.put _ _));rw[hd];exact hs.put rfl q3 q1 q2 (by subst hN;exact h4) hs.defers
def zei:Nat->List AV->List (Nat × AV)
 | _,[]=>[]
 | i,v::r=>(i,v)::zei (i+1) r
theorem zqa:∀ (args:List AV) (i t:Nat),look (zei i args) t AV.undef=if t<i then .undef else(args[t - i]?).getD .undef
 | [],i,t=>by simp[zei,look]
 | v::r,i,t=>by
  simp only[zei,look];split
  ·rename_i h;subst h;simp
  ·rename_i h;rw[zqa r (i+1) t];by_cases h1:t<i
   ·rw[ym0 (by omega),ym0 h1]
   ·rw[ym1 (by omega),ym1 h1];have:t - i=(t - (i+1))+1:=by omega
    rw[this];rfl
def retH(rs:List (Nat × Option Nat))(v:AV)(hp':List Site)(ex:Exit)(s:St):Prop :=
 (ex=.ret\/ex=.normal)/\∃ s1,Weak s s1/\∃ us,zbq s1 rs=some us/\resOf us=v/\zpb s1 hp' hp'
theorem HSp.of_mr{f:FuncId}{vs:List AV}{hp hp':List Site}{n np:Nat}{b:GC}{rs:List (Nat × Option Nat)}(hc:zad P f=some ⟨n,np,b.er,rs⟩)(hn:vs.length<=n)
  (hpin:hp.all (fun q=>decide (PINB<=q.1)&&decide (q.1<999999))=true) (hks:hp'.map (·.1)=hp.map (·.1)) (hr:(zg7 (hp.map (·.1)) v&&hpOk (hp.map (·.1)) hp')=true)
  (h:∀ A:FA,A.nb=true->MR P n b.er ⟨zei 0 vs,hp⟩ (some A) fun ex s B=>B=some A/\retH rs v hp' ex s):HSp P f vs hp v hp':=by
 unfold zad at hc;split at hc
 ·rename_i fn hf;split at hc
  ·rename_i hname;split at hc
   ·rename_i c hb;split at hc
    ·rename_i bd rs' h1 h2;simp only[ym4,FnC.mk.injEq]at hc;obtain⟨rfl,_,rfl,rfl⟩:=hc;refine⟨⟨fn,hf,by rw[hb];rfl,hname⟩,fun Z w vals hH hv=>?_⟩;refine calls_of_wp hf hb ?_;have hl:=hv.length;have hsi:∀ s,(⟨zei 0 vs,hp⟩:St).site s=(⟨[],hp⟩:St).site s:=fun _=>rfl;have h0:StRep ⟨w,Z.M,ownB Z ⟨[],hp⟩,fn.ntmps⟩ Z ⟨zei 0 vs,hp⟩ w { tmps:=vals.toArray++Array.replicate (fn.ntmps - vals.toArray.size) Go.undef,defers:=[] }:=by
      refine⟨fun t=>?_,rfl,by simp;omega,HRep.of_site ⟨hH.objs,hH.inj,hH.mem,hH.sep,hH.own,hH.m0,hH.prov,hH.keep⟩ hsi⟩;have hget:(⟨zei 0 vs,hp⟩:St).get t=(vs[t]?).getD .undef:=by have:=zqa vs 0 t;simpa[St.get]using this
      rw[hget];cases hx:vs[t]? with
      | none=>exact .undef _
      | some u =>
       obtain⟨x,g1,g2⟩:=hv.get t u hx;have hlt:=(List.getElem?_eq_some_iff.1 g1).1;have:(vals.toArray++Array.replicate (fn.ntmps - vals.toArray.size) Go.undef).getD t Go.undef=x:=by simp[Array.getElem?_append,hlt];have:=(List.getElem?_eq_some_iff.1 g1).2;simpa using this
       rw[this];exact ARep.mono (zbn hsi Z) g2
     let A:FA:=⟨0,fun _ _=>True,fun _ _ _ _ h=>h,false,true,PinLe Z ⟨zei 0 vs,hp⟩,fun _ _ _ _ h k=>k.trans h⟩
     refine h A rfl c h1 _ _ w _ _ rfl h0 (PinLe.refl _ _) (fun ex st' A' Z' w' a' hp1 hs1 hA1=>?_);obtain⟨rfl,hex,s1,hw,us,hus,hv1,hsite1⟩:=hp1;obtain⟨Z1,hs2,hl2⟩:=hw.frame hs1;have hpl:PinLe Z ⟨zei 0 vs,hp⟩ Z1 s1:=PinLe.trans hA1 hl2.pin;simp only[ync]at hr;have hsite:∀ s,(hp.map (·.1)).contains s=true->s1.site s=(⟨[],hp'⟩:St).site s:=fun s hs=>by rw[<- hks]at hs;obtain⟨q,hq,rfl⟩:=ym6.1 (ypo.1 hs);exact zou hsite1 q hq
     have hpn:∀ s,(hp.map (·.1)).contains s=true->PINB<=s/\s<999999:=fun s hs=>by obtain⟨q,hq,rfl⟩:=List.mem_map.1 (List.contains_iff_mem.1 hs);have:=List.all_eq_true.1 hpin q hq;simpa using this
     have e0:∀ s,(hp.map (·.1)).contains s=false->(⟨[],hp⟩:St).site s=[]:=fun s h=>zhr h;have e1:∀ s,(hp.map (·.1)).contains s=false->(⟨[],hp'⟩:St).site s=[]:=fun s h=>zhr (by rw[hks];exact h);have hz:ZLe Z ⟨[],hp⟩ Z1 ⟨[],hp'⟩:=by
      refine⟨fun b o hb=>hs2.heap.m0 b o hb,fun s=>?_,fun s g hg hd=>?_,fun s g o ho=>?_⟩<;>cases hc:(hp.map (·.1)).contains s
      ·rw[e0 s hc];exact ymv _
      ·rw[<- hsite s hc];exact hpl.len s (hpn s hc).1 (hpn s hc).2
      ·rw[e0 s hc]at hg;simp at hg
      ·rw[zag (hsite s hc).symm];exact hpl.dead s g (hpn s hc).1 (hpn s hc).2 hg hd
      ·simp[St.obj,e0 s hc]at ho
      ·rw[zag (hsite s hc).symm];exact hpl.live s g o (hpn s hc).1 (hpn s hc).2 ho
     have hH2:HRep ⟨w,Z.M,ownB Z ⟨[],hp⟩,0⟩ Z1 ⟨[],hp'⟩ w':=by
      have k0:∀ {s g o},(⟨[],hp'⟩:St).obj s g=some o->(hp.map (·.1)).contains s=true:=fun {s g o} ho=>by
       cases h:(hp.map (·.1)).contains s with
       | true=>rfl
       | false=>simp[St.obj,e1 s h]at ho
      have o0:∀ {s g o},(⟨[],hp'⟩:St).obj s g=some o->s1.obj s g=some o:=fun {s g o} ho=>by rw[zag (hsite s (k0 ho))];exact ho
      have hq:=hs2.heap
      exact⟨fun s g o ho=>ORep.into (st:=s1) (st2:=⟨[],hp'⟩) (Z2:=Z1) (fun s h=>(hsite s h).symm) (fun _ _ h=>h) (fun _ _ _=>⟨rfl,rfl⟩) (k0 ho) (zr7 hr.2 ho) (hq.objs s g o (o0 ho)),fun s g s' g' o o' b a1 a2=>hq.inj s g s' g' o o' b (o0 a1) (o0 a2),hq.mem,fun s g o b a1=>hq.sep s g o b (o0 a1),
       fun s g o b a1 b1=>hq.own s g o b (o0 a1) b1,hq.m0,hq.prov,hq.keep⟩
     have hfin:a'.defers=[]/\∃ u,(results fn a'.tmps).run P w'=.ok u w'/\∃ x Z',Ending.returned u=.returned x/\HRep ⟨w,Z.M,ownB Z ⟨[],hp⟩,0⟩ Z' ⟨[],hp'⟩ w'/\ARep Z' ⟨[],hp'⟩ v x/\ZLe Z ⟨[],hp⟩ Z' ⟨[],hp'⟩:=by obtain⟨xs,g1,g2⟩:=zko hs2 h2 hus;have g3:=g2.resOf;rw[hv1]at g3;refine⟨hs2.defers,_,?_,_,Z1,rfl,hH2,ARep.into (st:=s1) (st2:=⟨[],hp'⟩) (Z2:=Z1) (fun s h=>(hsite s h).symm) (fun _ _ h=>h) (fun _ _ _=>⟨rfl,rfl⟩) g3 hr.1,hz⟩;unfold results;rw[yq8];simp only[yna,map_eq_pure_bind,yni];exact congrArg (fun r=>(Result.andThen r fun a w'=>Result.ok a.toArray w').andThen fun(a:Array Value) w'=>Result.ok (if h:a.size=1 then a[0]else Value.tuple a) w') g1
     rcases hex with rfl|rfl
     ·exact hfin
     ·exact hfin
    ·cases hc
   ·cases hc
  ·cases hc
 ·cases hc
end
abbrev Sg:=Nat->Nat->Nat × Nat
mutual
def sub(σ : Sg):AV->AV
 | .own s g off len=>.own (σ s g).1 (σ s g).2 off len
 | .ptr s g ix off=>.ptr (σ s g).1 (σ s g).2 ix off
 | .agg cs=>.agg (subL σ cs)
 | .fn f cs=>.fn f (subL σ cs)
 | .tup cs=>.tup (subL σ cs)
 | .p v=>.p v
 | .nil=>.nil
 | .cp v vsz off=>.cp v vsz off
 | .skip=>.skip
 | .undef=>.undef
def subL(σ : Sg):List AV->List AV
 | []=>[]
 | v::r=>sub σ v::subL σ r
end
def subO(σ : Sg)(o:AObj):AObj:=⟨o.sz,subL σ o.es⟩
structure SubOk (st st':St) (σ : Sg):Prop where
 live:∀ s g o,st.obj s g=some o -> σ s g=(DEAD,0)\/st'.obj (σ s g).1 (σ s g).2=some (subO σ o)
 deadn:∀ s g,g<(st.site s).length->st.obj s g=none->(σ s g).2<(st'.site (σ s g).1).length/\st'.obj (σ s g).1 (σ s g).2=none
 inj:∀ s g s' g' o o',st.obj s g=some o->st.obj s' g'=some o' -> σ s g = σ s' g' -> σ s g≠(DEAD,0)->s=s'/\g=g'
 all:∀ s' g' o',st'.obj s' g'=some o'->∃ s g o,st.obj s g=some o /\ σ s g=(s',g')/\o'=subO σ o
 dead:0<(st'.site DEAD).length/\st'.obj DEAD 0=none
section
variable {P:Program} {K:Ctx} {Z Z':Cz} {st st':St} {w:World} {a:Act} {σ : Sg}
theorem zbz:∀ (l:List AV),subL σ l=l.map (sub σ)
 | []=>rfl
 | v::r=>by simp[subL,zbz r]
theorem yf1(v:AV):(sub σ v).sz=v.sz:=by cases v<;>simp only[sub]<;>simp[AV.sz,zbz]
theorem z15(v:AV):(sub σ v).one=v.one:=by cases v<;>simp only[sub]<;>simp[AV.one]
theorem z16(v:AV):(sub σ v).cells=v.cells.map (sub σ):=by
 cases v with
 | agg cs=>simp only[sub,AV.cells,zbz]
 | p v=>?_
 | _=>rfl
 cases v<;>first|rfl|skip
 simp only[sub,AV.cells,yoe];apply ynr;intro x _;rfl
theorem zpl(es:List AV):(subL σ es).flatMap AV.cells=(es.flatMap AV.cells).map (sub σ):=by
 induction es with
 | nil=>rfl
 | cons e es ih=>simp only[subL,yn0,ynw,ih,z16]
open Classical in
noncomputable def oldN(st:St)(σ : Sg)(s' g':Nat):Nat × Nat:=if h:∃ i:Nat × Nat,(∃ o,st.obj i.1 i.2=some o) /\ σ i.1 i.2=(s',g')then h.choose else(0,0)
theorem znk(h:SubOk st st' σ){s g:Nat}{o:AObj}(ho:st.obj s g=some o)(hn : σ s g≠(DEAD,0)):oldN st σ (σ s g).1 (σ s g).2=(s,g):=by have hx:∃ i:Nat × Nat,(∃ o,st.obj i.1 i.2=some o) /\ σ i.1 i.2=((σ s g).1,(σ s g).2):=⟨(s,g),⟨o,ho⟩,rfl⟩;unfold oldN;rw[dif_pos hx];obtain⟨⟨o',h1⟩,h2⟩:=hx.choose_spec;have h3 : σ hx.choose.1 hx.choose.2 = σ s g:=h2;obtain⟨e1,e2⟩:=h.inj _ _ _ _ _ _ h1 ho h3 (by rw[h3];exact hn);exact Prod.ext e1 e2
noncomputable def Cz.sub(Z:Cz)(st:St)(σ : Sg):Cz where
 M:=Z.M
 B s g:=Z.B (oldN st σ s g).1 (oldN st σ s g).2
 cap s g:=Z.cap (oldN st σ s g).1 (oldN st σ s g).2
mutual
theorem ARep.sub(h:SubOk st st' σ):∀ {v:AV} {x:Value},ARep Z st v x->ARep (Z.sub st σ) st' (Ab.sub σ v) x
 | _,_,.p v x hp=>.p v x hp
 | _,_,.nil=>.nil
 | _,_,.own0 s g o ho hb=>by
  simp only[Ab.sub];by_cases hd : σ s g=(DEAD,0)
  ·rw[hd];exact .ownD _ _ _ _ _ _ h.dead.1 h.dead.2
  ·exact .own0 _ _ _ ((h.live s g o ho).resolve_left hd) (by simp only[Cz.sub,znk h ho hd,hb])
 | _,_,.own s g off len o b ad c ho hb h1 h2 h3 h4=>by
  simp only[Ab.sub];by_cases hd : σ s g=(DEAD,0)
  ·rw[hd];exact .ownD _ _ _ _ _ _ h.dead.1 h.dead.2
  ·exact .own _ _ _ _ _ b ad c ((h.live s g o ho).resolve_left hd) (by simp only[Cz.sub,znk h ho hd,hb]) (by simp only[Cz.sub,znk h ho hd];exact h1) h2 (by simpa[subO,zbz]using h3) h4
 | _,_,.ownD s g off len ad c hg hdd=>by
  simp only[Ab.sub];exact .ownD _ _ _ _ _ _ (h.deadn s g hg hdd).1 (h.deadn s g hg hdd).2
 | _,_,.ptr s g ix off o b ho hb=>by
  simp only[Ab.sub];by_cases hd : σ s g=(DEAD,0)
  ·rw[hd];exact .ptrD _ _ _ _ _ h.dead.1 h.dead.2
  ·exact .ptr _ _ ix off (subO σ o) b ((h.live s g o ho).resolve_left hd) (by simp only[Cz.sub,znk h ho hd,hb])
 | _,_,.ptrD s g ix off ad hg hdd=>by
  simp only[Ab.sub];exact .ptrD _ _ _ _ _ (h.deadn s g hg hdd).1 (h.deadn s g hg hdd).2
 | _,_,.cp v vsz off b o cur T fr vals h0 h1 h2 h3 h4 h5=>.cp v vsz off b o cur T fr vals h0 h1 h2 h3 h4 h5
 | _,_,.agg cs vals h1 h2=>by
  simp only[Ab.sub];exact .agg _ vals (fun c hc=>by rw[zbz]at hc;obtain⟨d,hd,rfl⟩:=ym6.1 hc;rw[z15];exact h1 d hd) (AReps.sub h h2)
 | _,_,.fn f cs vals h1=>by simp only[Ab.sub];exact .fn f _ vals (AReps.sub h h1)
 | _,_,.tup vs vals h1=>by simp only[Ab.sub];exact .tup _ vals (AReps.sub h h1)
 | _,_,.skip=>.skip
 | _,_,.undef x=>.undef x
theorem AReps.sub(h:SubOk st st' σ):∀ {v:List AV} {x:List Value},AReps Z st v x->AReps (Z.sub st σ) st' (subL σ v) x
 | _,_,.nil=>.nil
 | _,_,.cons v x vs xs h1 hs=>.cons _ _ _ _ (ARep.sub h h1) (AReps.sub h hs)
end
theorem HRep.sub(h:HRep K Z st w)(hr:SubOk st st' σ):HRep K (Z.sub st σ) st' w:=by
 have back:∀ {s' g':Nat} {o':AObj},st'.obj s' g'=some o'->∃ s g o,st.obj s g=some o/\o'=subO σ o /\ σ s g=(s',g')/\(Z.sub st σ).B s' g'=Z.B s g/\(Z.sub st σ).cap s' g'=Z.cap s g:=by
  intro s' g' o' ho;obtain⟨s,g,o,h1,h2,rfl⟩:=hr.all s' g' o' ho;have hd : σ s g≠(DEAD,0):=fun e=>by rw[h2]at e;cases e;rw[hr.dead.2]at ho;cases ho
  have:=znk hr h1 hd;rw[h2]at this;exact⟨s,g,o,h1,rfl,h2,by simp only[Cz.sub,this],by simp only[Cz.sub,this]⟩
 refine⟨fun s' g' o' ho=>?_,fun s g s' g' o o' b ho ho' hb hb'=>?_,h.mem,fun s g o b ho hb=>?_,fun s g o b ho hb=>?_,h.m0,h.prov,h.keep⟩
 ·obtain⟨s,g,o0,h1,rfl,_,eB,eC⟩:=back ho;obtain⟨k1,k2,k3,k4,k5⟩:=h.objs s g o0 h1;refine⟨k1,fun e he=>?_,fun c hc=>?_,fun hb=>?_,fun b hb=>?_⟩
  ·simp only[subO,zbz,ym6]at he;obtain⟨e0,he0,rfl⟩:=he;rw[yf1];exact k2 e0 he0
  ·simp only[subO,zpl,ym6]at hc;obtain⟨c0,hc0,rfl⟩:=hc;rw[z15];exact k3 c0 hc0
  ·rw[eB]at hb;simp[subO,k4 hb,subL]
  ·rw[eB]at hb;obtain⟨cur,T,vals,e1,e2,e3,e4,e5,e6⟩:=k5 b hb;refine⟨cur,T,vals,e1,?_,e3,by rw[eC];exact e4,by rw[eC];simpa[subO,zbz]using e5,by rw[eC];exact e6⟩;show AReps _ _ ((subL σ o0.es).flatMap AV.cells) vals;rw[zpl,<- zbz];exact AReps.sub hr e2
 ·obtain⟨t,k,o0,h1,_,q1,eB,_⟩:=back ho;obtain⟨t',k',o0',h1',_,q1',eB',_⟩:=back ho';rw[eB]at hb;rw[eB']at hb';obtain⟨e1,e2⟩:=h.inj _ _ _ _ _ _ b h1 h1' hb hb';subst e1;subst e2;rw[q1]at q1';exact⟨congrArg Prod.fst q1',congrArg Prod.snd q1'⟩
 ·obtain⟨t,k,o0,h1,_,_,eB,_⟩:=back ho;rw[eB]at hb;exact h.sep _ _ _ b h1 hb
 ·obtain⟨t,k,o0,h1,_,_,eB,_⟩:=back ho;rw[eB]at hb;exact h.own _ _ _ b h1 hb
def zrj(hp:List Site):Bool:=hp.all fun q=>decide (q.1<PINB)||decide (999999<=q.1)
theorem zkt(h:zrj st.hp=true){s:Nat}(h1:PINB<=s)(h2:s<999999):st.site s=[]:=by
 rcases zjy (d:=([]:List (Option AObj))) (l:=st.hp) (s:=s)with h3|⟨q,hq,rfl,h3⟩
 ·exact h3
 ·have:=ynq.1 h q hq;simp only[yq7,decide_eq_true_eq]at this;omega
theorem Weak.sub(h:SubOk st st' σ)(hp:zrj st.hp=true){keep:List Nat}(hsl:st'.sl=keep.map fun t=>(t,Ab.sub σ (st.get t))):Weak st st':=by
 intro K Z w a hs;refine⟨Z.sub st σ,⟨fun t=>?_,hs.defers,hs.size,hs.heap.sub h⟩,⟨fun s a b=>(by rw[zkt hp a b];exact ymv _),fun s g a b hg=>?_,fun s g o a b ho=>?_⟩⟩;rotate_left
 ·rw[zkt hp a b]at hg;exact absurd hg (yr7 _)
 ·have:=zcg ho;rw[zkt hp a b]at this;exact absurd this (yr7 _)
 have:st'.get t=look (keep.map fun t=>(t,Ab.sub σ (st.get t))) t .undef:=by rw[<- hsl];rfl
 rw[this];rcases znx (fun t=>Ab.sub σ (st.get t)) t keep with h'|h'
 ·rw[h'];exact(hs.slots t).sub h
 ·rw[h'];exact .undef _
def zf4(st:St)(s:Nat):List (Nat × Nat)->Option (Nat × Nat)
 | []=>none
 | (x,k)::r=>if x=s then some (0,k)else(zf4 st s r).map fun q=>((st.site x).length - k+q.1,q.2)
def zi0(st:St)(s:Nat):List (Nat × List (Nat × Nat))->Option (Nat × Nat × Nat)
 | []=>none
 | (s',l)::r=>match zf4 st s l with
  | some q=>some (s',q)
  | none=>zi0 st s r
def sgP(st:St)(plan:List (Nat × List (Nat × Nat))):Sg:=fun s g=>match zi0 st s plan with
 | some (s',o,k)=>if g<k then(DEAD,0)else(s',o+(g - k))
 | none=>(DEAD,0)
def catS(st:St)(σ : Sg):List (Nat × Nat)->List (Option AObj)
 | []=>[]
 | (x,k)::r=>((st.site x).drop k).map (Option.map (subO σ))++catS st σ r
def hpP(st:St)(σ : Sg):List (Nat × List (Nat × Nat))->List Site
 | []=>[(DEAD,[none])]
 | (s',l)::r=>(s',catS st σ l)::hpP st σ r
def St.plan(st:St)(keep:List Nat)(plan:List (Nat × List (Nat × Nat))):St:=⟨keep.map fun t=>(t,sub (sgP st plan) (st.get t)),hpP st (sgP st plan) plan⟩
def zio(hp:List Site)(plan:List (Nat × List (Nat × Nat))):Bool:=zrj hp&&zg5 (plan.flatMap fun q=>q.2.map (·.1))&&zg5 (DEAD::plan.map (·.1))
theorem zjt{s:Nat}:∀ {l:List (Nat × Nat)} {q:Nat × Nat},zf4 st s l=some q->s∈l.map (·.1)
 | (x,k)::r,q,h=>by
  simp only[zf4]at h;split at h
  ·rename_i e;subst e;simp
  ·obtain⟨o',h1,_⟩:=mapS h;exact yn9 _ (zjt h1)
theorem z6f{s g:Nat}:∀ {l:List (Nat × Nat)} {o k:Nat},zf4 st s l=some (o,k)->k<=g->g<(st.site s).length->(catS st σ l)[o+(g - k)]?=some (((st.site s)[g]?.getD none).map (subO σ))
 | (x,k0)::r,o,k,h,hk,hg=>by
  simp only[zf4]at h;simp only[catS];split at h
  ·rename_i e;subst e;cases h;rw[yn6,ypi (by simp;omega),ynb,you,show k0+(g - k0)=g by omega,yms hg];rfl
  ·obtain⟨q,h1,h2⟩:=mapS h;obtain⟨o',k'⟩:=q;simp only[ym5]at h2;obtain⟨rfl,rfl⟩:=h2;rw[yp3 (by simp;omega),ynp,yoo,show(st.site x).length - k0+o'+(g - k') - ((st.site x).length - k0)=o'+(g - k') by omega];exact z6f h1 hk hg
theorem zzd{g':Nat}{o':AObj}:∀ {l:List (Nat × Nat)},(l.map (·.1)).Nodup->(catS st σ l)[g']?=some (some o')->∃ s g o off k,zf4 st s l=some (off,k)/\k<=g/\off+(g - k)=g'/\st.obj s g=some o/\o'=subO σ o
 | [],_,h=>by simp[catS]at h
 | (x,k)::r,hn,h=>by
  simp only[catS]at h;by_cases hlt:g'<(st.site x).length - k
  ·rw[List.getElem?_append_left (by simpa using hlt),List.getElem?_map,List.getElem?_drop,List.getElem?_eq_getElem (show k+g'<(st.site x).length by omega)]at h;simp only[Option.map_some,Option.some.injEq]at h;obtain⟨o,h1,rfl⟩:=mapS h;exact⟨x,k+g',o,0,k,by simp[zf4],by omega,by omega,by unfold St.obj;rw[List.getElem?_eq_getElem (show k+g'<(st.site x).length by omega),h1];rfl,rfl⟩
  ·rw[List.getElem?_append_right (by simpa using Nat.not_lt.1 hlt),List.length_map,List.length_drop]at h;rw[List.map_cons,List.nodup_cons]at hn;obtain⟨s,g,o,off,k1,h1,h2,h3,h4,h5⟩:=zzd hn.2 h;have hne:x≠s:=by rintro rfl;exact hn.1 (zjt h1)
   exact⟨s,g,o,(st.site x).length - k+off,k1,by simp only[zf4,ym1 hne,h1];rfl,h2,by omega,h4,h5⟩
theorem z38{s g s2 g2:Nat}:∀ {l:List (Nat × Nat)} {o o2 k k2:Nat},zf4 st s l=some (o,k)->zf4 st s2 l=some (o2,k2)->k<=g->k2<=g2->g<(st.site s).length->g2<(st.site s2).length->o+(g - k)=o2+(g2 - k2)->s=s2/\g=g2
 | (x,k0)::r,o,o2,k,k2,h,h2,hk,hk2,hg,hg2,e=>by
  simp only[zf4]at h h2;split at h
  ·rename_i e1;subst e1;cases h;split at h2
   ·rename_i e2;subst e2;cases h2;exact⟨rfl,by omega⟩
   ·obtain⟨⟨o',k'⟩,h1,h3⟩:=mapS h2;simp only[ym5]at h3;obtain⟨rfl,rfl⟩:=h3;omega
  ·obtain⟨⟨o1,k1⟩,h1,h3⟩:=mapS h;simp only[ym5]at h3;obtain⟨rfl,rfl⟩:=h3;split at h2
   ·rename_i e2;subst e2;cases h2;omega
   ·obtain⟨⟨o',k'⟩,h1',h3'⟩:=mapS h2;simp only[ym5]at h3';obtain⟨rfl,rfl⟩:=h3';exact z38 h1 h1' hk hk2 hg hg2 (by omega)
theorem zhu{s s':Nat}{q:Nat × Nat}:∀ {plan:List (Nat × List (Nat × Nat))},zi0 st s plan=some (s',q)->∃ l,(s',l)∈plan/\zf4 st s l=some q
 | (s1,l)::r,h=>by
  simp only[zi0]at h;split at h
  ·rename_i o1 h1;cases h;exact⟨l,by simp,h1⟩
  ·obtain⟨l',h1,h2⟩:=zhu h;exact⟨l',yn9 _ h1,h2⟩
theorem zy4{s s':Nat}{q:Nat × Nat}{l:List (Nat × Nat)}:∀ {plan:List (Nat × List (Nat × Nat))},(plan.flatMap fun q=>q.2.map (·.1)).Nodup->(s',l)∈plan->zf4 st s l=some q->zi0 st s plan=some (s',q)
 | (s1,l1)::r,hn,hm,h=>by
  simp only[zi0];rw[yn0,ypa]at hn;rcases ym7.1 hm with hm|hm
  ·cases hm;rw[h]
  ·cases h1:zf4 st s l1 with
   | none=>exact zy4 hn.2.1 hm h
   | some o1=>exact absurd rfl (hn.2.2 s (zjt h1) s (yny.2 ⟨_,hm,zjt h⟩))
theorem zjz{s':Nat}{l:List (Nat × Nat)}:∀ {plan:List (Nat × List (Nat × Nat))},(plan.map (·.1)).Nodup->(s',l)∈plan->look (hpP st σ plan) s' []=catS st σ l
 | (s1,l1)::r,hn,hm=>by
  rw[ymy,yo0]at hn;simp only[hpP,look];rcases ym7.1 hm with hm|hm
  ·cases hm;rw[ym0 rfl]
  ·rw[ym1]
   ·exact zjz hn.2 hm
   ·rintro rfl;exact hn.1 (ym6.2 ⟨_,hm,rfl⟩)
theorem zwc{s':Nat}:∀ {plan:List (Nat × List (Nat × Nat))},s'∉plan.map (·.1)->look (hpP st σ plan) s' []=if DEAD=s' then[none]else[]
 | [],_=>by simp[hpP,look]
 | (s1,l1)::r,h=>by simp only[ymy,ym7,not_or]at h;simp only[hpP,look];rw[ym1 (yn8 h.1)];exact zwc h.2
theorem z4b{s g:Nat}:(st.site s)[g]?.getD none=st.obj s g:=rfl
theorem z4c{α β : Type}{l:List (α × β)}(hn:(l.map (·.1)).Nodup){x : α}{y y' : β}(h:(x,y)∈l)(h':(x,y')∈l):y=y':=by
 induction l with
 | nil=>cases h
 | cons q r ih =>
  rw[ymy,yo0]at hn;rcases ym7.1 h with h|h<;>rcases ym7.1 h' with h'|h'
  ·rw[<- h]at h';exact(congrArg Prod.snd h').symm
  ·exact absurd (ym6.2 ⟨_,h',by rw[<- h]⟩) hn.1
  ·exact absurd (ym6.2 ⟨_,h,by rw[<- h']⟩) hn.1
  ·exact ih hn.2 h h'
theorem z3o{keep:List Nat}{plan:List (Nat × List (Nat × Nat))}(h:zio st.hp plan=true):SubOk st (st.plan keep plan) (sgP st plan)/\zrj st.hp=true:=by
 simp only[zio,ync]at h;obtain⟨⟨h1,h2⟩,h3⟩:=h;have n2:=zgp h2;have n3:=zgp h3;rw[yo0]at n3;have hD:=zwc (st:=st) (σ := sgP st plan) n3.1;rw[ym0 rfl]at hD
 have hdead:0<((st.plan keep plan).site DEAD).length/\(st.plan keep plan).obj DEAD 0=none :=
  ⟨by show 0<(look (hpP st (sgP st plan) plan) DEAD []).length;rw[hD];simp,by show((look (hpP st (sgP st plan) plan) DEAD [])[0]?).getD none=none;rw[hD];rfl⟩
 refine⟨⟨fun s g o ho=>?_,fun s g hg ho=>?_,fun s g s' g' o o' ho ho' he hd=>?_,fun s' g' o' ho'=>?_,hdead⟩,h1⟩
 ·have hg:=zcg ho;unfold sgP;cases hf:zi0 st s plan with
  | none=>exact .inl rfl
  | some q =>
   obtain⟨s',off,k⟩:=q;by_cases hk:g<k
   ·left;simp only[hk,ym2]
   obtain⟨l,m1,m2⟩:=zhu hf;right;simp only[hk,ym9];show((look (hpP st (sgP st plan) plan) s' [])[off+(g - k)]?).getD none=_;rw[zjz n3.2 m1,z6f m2 (by omega) hg,z4b,ho];rfl
 ·unfold sgP;cases hf:zi0 st s plan with
  | none=>exact hdead
  | some q =>
   obtain⟨s',off,k⟩:=q;by_cases hk:g<k
   ·simp only[hk,ym2];exact hdead
   simp only[hk,ym9];obtain⟨l,m1,m2⟩:=zhu hf;have hc:=z6f (σ := sgP st plan) m2 (show k<=g by omega) hg;refine⟨?_,?_⟩
   ·show off+(g - k)<(look (hpP st (sgP st plan) plan) s' []).length;rw[zjz n3.2 m1];exact(yo3.1 hc).1
   ·show((look (hpP st (sgP st plan) plan) s' [])[off+(g - k)]?).getD none=none;rw[zjz n3.2 m1,hc,z4b,ho];rfl
 ·have hg:=zcg ho;have hg':=zcg ho';unfold sgP at he hd;cases hf:zi0 st s plan with
  | none=>rw[hf]at hd;exact absurd rfl hd
  | some q =>
   obtain⟨s1,off,k⟩:=q;rw[hf]at he hd;by_cases hk:g<k
   ·simp only[hk,ym2]at hd;exact absurd rfl hd
   simp only[hk,ym9]at he hd;obtain⟨l,m1,m2⟩:=zhu hf;cases hf':zi0 st s' plan with
   | none=>rw[hf']at he;exact absurd he hd
   | some q' =>
    obtain⟨s2,off',k'⟩:=q';rw[hf']at he;by_cases hk':g'<k'
    ·simp only[hk',ym2]at he;exact absurd he hd
    simp only[hk',ym9]at he;obtain⟨l',m1',m2'⟩:=zhu hf';simp only[ym5]at he;obtain⟨rfl,e⟩:=he;obtain rfl:=z4c n3.2 m1 m1';exact z38 m2 m2' (by omega) (by omega) hg hg' e
 ·have ho2:((look (hpP st (sgP st plan) plan) s' [])[g']?).getD none=some o':=ho';by_cases hm:s'∈plan.map (·.1)
  ·obtain⟨⟨s1,l⟩,hm2,rfl⟩:=ym6.1 hm;rw[zjz n3.2 hm2]at ho2;cases hx:(catS st (sgP st plan) l)[g']? with
   | none=>rw[hx]at ho2;cases ho2
   | some y =>
    rw[hx]at ho2;simp only[ypq]at ho2;subst ho2;have nl:(l.map (·.1)).Nodup:=by
     have:List.Sublist (l.map (·.1)) (plan.flatMap fun q=>q.2.map (·.1)):=by obtain⟨a,b,e⟩:=yq6 hm2;rw[e,yp9,yn0];exact(List.sublist_append_left (l.map (·.1)) _).trans (List.sublist_append_right _ _)
     exact this.nodup n2
    obtain⟨s,g,o,off,k,k1,k2,k3,k4,k5⟩:=zzd nl hx;refine⟨s,g,o,k4,?_,k5⟩;unfold sgP;rw[zy4 n2 hm2 k1];simp only[show ¬ g<k by omega,ym9,k3]
  ·rw[zwc hm]at ho2;exfalso;split at ho2
   ·cases g'<;>simp at ho2
   ·simp at ho2
theorem Weak.plan(keep:List Nat)(plan:List (Nat × List (Nat × Nat)))(h:zio st.hp plan=true):Weak st (st.plan keep plan):=Weak.sub (z3o h).1 (z3o (keep:=keep) h).2 rfl
end
end Go.Ab
