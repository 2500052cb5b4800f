/-
Proofs for the law CountIsFinite, part 36. Conditions: none.
-/
import Derived.Test.YtdkocfjbmbenfaaGreatDoorDP27
import Derived.Test.YtdkocfjbmbenfaaGreatDoorDP35
import Derived.Test.YtdkocfjbmbenfaaGreatDoorDP22
import Derived.KernelRfl
set_option maxRecDepth 100000
set_option maxHeartbeats 4000000
set_option linter.all false
namespace Go.Ab
section
variable {P:Program} {K:Ctx} {Z Z':Cz} {st st':St} {w w':World} {a:Act}
theorem Weak.freezeObj {s g n:Nat} {o:AObj} {ps:List PV} (ho:st.obj s g=some o) (hp:o.es.mapM (toPV st n)=some ps) (hd:(s,g)∉o.es.flatMap (deps st n)):Weak st ((killAll st (o.es.flatMap (deps st n))).setObj s g ⟨o.sz,ps.map .p⟩):=by
 intro K Z w a hs
 generalize hids:o.es.flatMap (deps st n)=ids at hd
 have hM:∀ b o,Z.M b=some o->Mx Z st w ids b=some o:=fun b o hb=>Mx_M hb
 have hz:ZLe Z st { Z with M:=Mx Z st w ids } (killAll st ids):=(ZLe.killAll ids st).trans (ZLe.growM hM)
 have hh:HRep K { Z with M:=Mx Z st w ids } (killAll st ids) w:=by
  refine (HRep.killAll ids hs.heap).grow (Keep.refl w _) _ hM (fun b o hb=>?_) (fun b o hb=>?_) (fun s g o b ho hb=>?_)
  ·rcases zbs hb with h|⟨_,h,_⟩
   ·exact hs.heap.mem b o h
   ·exact h
  ·rcases zbs hb with h|⟨_,_,s,g,ob,_,e2,e3⟩
   ·exact .inl h
   ·exact .inr (hs.heap.own s g ob b e2 e3)
  ·obtain ⟨ho1,ho2⟩:=zc0 ids st ho
   cases hm:Mx Z st w ids b with
   | none=>rfl
   | some y =>
    exfalso
    rcases zbs hm with h|⟨_,_,s',g',ob,e1,e2,e3⟩
    ·rw [hs.heap.sep s g o b ho1 hb] at h; cases h
    ·obtain ⟨rfl,rfl⟩:=hs.heap.inj s g s' g' o ob b ho1 e2 hb e3
     exact ho2 e1
 have ho':=zg1 ids ho hd
 have hO:=hs.heap.objs s g o ho
 have hlen:=zfh hp
 have hcl:∀ l:List PV,(l.map AV.p).flatMap AV.cells=(l.flatMap PV.cells).map .p:=fun l=>by
  induction l with
  | nil=>rfl
  | cons q l ih=>rw [List.map_cons,List.flatMap_cons,ih,List.flatMap_cons,List.map_append]; cases q<;>rfl
 have key:(∀ b,Z.B s g=some b->∃ (cur:Array Value) (T:TypeId) (vals:List Value),w.heap[b]?=some (.cells cur T (0,0))/\PReps (Mx Z st w ids) (ps.flatMap PV.cells) vals /\
   (∀ (i:Nat) (v:Value),vals[i]?=some v->cur[i]?=some v)/\cur.size=Z.cap s g*o.sz/\o.es.length<=Z.cap s g/\Z.cap s g<=maxLen)/\(∀ p∈ps,p.sz=o.sz)/\∀ c∈ps.flatMap PV.cells,c.one=true:=by
  cases hb:Z.B s g with
  | none =>
   have h0:=hO.non hb
   rw [h0] at hp
   have:=zb6 hp
   subst this
   exact ⟨fun b hb=>(by cases hb),by simp,by simp⟩
  | some b =>
   obtain ⟨cur,T,vals,k1,k2,k3,k4,k5,k6⟩:=hO.blk b hb
   obtain ⟨r1,r2,r3⟩:=zgb (w:=w) (n:=n) (ids:=ids) hO.pos (zfv hs.heap ids n) k2 hp hO.els hO.one (fun i hi=>by rw [<- hids]; exact hi)
   exact ⟨fun b' hb'=>(by cases hb'; exact ⟨cur,T,vals,k1,r1,k3,k4,k5,k6⟩),r2,r3⟩
 obtain ⟨q1,q2,q3⟩:=key
 have hss:=hh.same2 ho' (es:=ps.map .p) (by rw [List.length_map,hlen]) (fun x hx=>?_) (fun c hc=>?_) (fun b hb=>?_)
 ·refine ⟨{ Z with M:=Mx Z st w ids },⟨fun u=>?_,hs.defers,hs.size,hss⟩,.of_zle (hz.trans (ZLe.setObj _ _ s g o ⟨o.sz,ps.map .p⟩ ho' rfl (by simp [hlen])))⟩
  rw [show ((killAll st ids).setObj s g ⟨o.sz,ps.map .p⟩).get u=st.get u from zja (s:=(killAll st ids).setObj s g ⟨o.sz,ps.map .p⟩) (t:=st) (zb4 ids st) u]
  exact ARep.mono (hz.trans (ZLe.setObj _ _ s g o ⟨o.sz,ps.map .p⟩ ho' rfl (by simp [hlen]))) (hs.slots u)
 ·obtain ⟨p,hp',rfl⟩:=List.mem_map.1 hx
  exact q2 p hp'
 ·rw [hcl] at hc
  obtain ⟨p,hp',rfl⟩:=List.mem_map.1 hc
  exact q3 p hp'
 ·obtain ⟨cur,T,vals,e1,e2,e3,e4,e5,e6⟩:=q1 b hb
  refine ⟨cur,T,vals,e1,?_,e3,e4,e5,e6⟩
  rw [hcl]
  exact AReps.of_p e2
theorem Weak.freezeTo {s g n:Nat} {o:AObj} (ps:List PV) (ids:List (Nat × Nat)) (ho:st.obj s g=some o) (hp:o.es.mapM (toPV st n)=some ps) (hi:o.es.flatMap (deps st n)=ids) (hd:(s,g)∉ids):Weak st ((killAll st ids).setObj s g ⟨o.sz,ps.map .p⟩):=by
 subst hi; exact Weak.freezeObj ho hp hd
end
end Go.Ab
namespace Go.Ab
mutual
def z7z:AV->Bool
 | .p u=>u.nomp
 | .cp u _ _=>u.nomp
 | .agg cs=>zml cs
 | .fn _ cs=>zml cs
 | .tup cs=>zml cs
 | _=>true
def zml:List AV->Bool
 | []=>true
 | v::r=>z7z v&&zml r
end
section
variable {P:Program} {K:Ctx} {Z Z':Cz} {st st' st1:St} {w w':World} {a:Act} {N:Nat} {A B:Option FA} {Post:Exit->St->Option FA->Prop} {PostI:St->Option FA->Prop} {ac:AC} {q:PinP} {m:MapD}
theorem MR.holds (h:∀ K Z st w,zec A K Z st w->zec B K Z st w) (k:MR P N ac st B Post):MR P N ac st A Post :=
 fun code hc K Z w a Q hN hs hA hQ=>k code hc K Z w a Q hN hs (h _ _ _ _ hA) hQ
mutual
theorem ARep.nomp {M':Nat->Option Obj} (hM:∀ b cur T fr,Z.M b=some (.cells cur T fr)->M' b=some (.cells cur T fr)):∀ {u:AV} {x:Value},ARep Z st u x->z7z u=true->ARep { Z with M:=M' } st u x
 | _,_,.p u x hp,h=>.p u x (PRep.nomp hM hp h)
 | _,_,.nil,_=>.nil
 | _,_,.own0 s g o ho hb,_=>.own0 s g o ho hb
 | _,_,.own s g off len o b ad c ho hb h1 h2 h3 h4,_=>.own s g off len o b ad c ho hb h1 h2 h3 h4
 | _,_,.ownD s g off len ad c hg hd,_=>.ownD s g off len ad c hg hd
 | _,_,.ptr s g ix off o b ho hb,_=>.ptr s g ix off o b ho hb
 | _,_,.ptrD s g ix off ad hg hd,_=>.ptrD s g ix off ad hg hd
 | _,_,.cp u vsz off b o cur T fr vals h0 h1 h2 h3 h4 h5,h=>.cp u vsz off b o cur T fr vals (hM _ _ _ _ h0) h1 h2 h3 (PReps.nomp hM h4 (zik h)) h5
 | _,_,.agg cs vals h1 h2,h=>.agg cs vals h1 (AReps.nomp hM h2 h)
 | _,_,.fn f caps vals h1,h=>.fn f caps vals (AReps.nomp hM h1 h)
 | _,_,.tup vs vals h1,h=>.tup vs vals (AReps.nomp hM h1 h)
 | _,_,.skip,_=>.skip
 | _,_,.undef x,_=>.undef x
theorem AReps.nomp {M':Nat->Option Obj} (hM:∀ b cur T fr,Z.M b=some (.cells cur T fr)->M' b=some (.cells cur T fr)):∀ {u:List AV} {x:List Value},AReps Z st u x->zml u=true->AReps { Z with M:=M' } st u x
 | _,_,.nil,_=>.nil
 | _,_,.cons u x us xs h1 h2,h=>by
  simp only [zml,Bool.and_eq_true] at h
  exact .cons _ _ _ _ (ARep.nomp hM h1 h.1) (AReps.nomp hM h2 h.2)
end
end
end Go.Ab
namespace Go.Ab
open Enc (enc)
def ctrV (v:GView) (s:Int) (c:AV):AV:=.agg [.p (.int .i64 v.a.ring.kind),.p (.sl (ens v.a.ring.parts)),.p (.int .i64 v.a.sy),.p (.int .i64 v.a.st),.p (.sl (ens v.a.ini)),.p (.sl (ens v.a.fin)),.p (.sl (ens v.a.arcs)),.p (.sl (ens v.first)),.p (.int .i64 s),c]
noncomputable def stA (A:GAuto):Nat->Int
 | 0 => -1
 | k+1=>if A.ini.getD k A.ring.zero≠A.ring.zero then (k:Int) else stA A k
theorem zwl (A:GAuto):∀ k,-1<=stA A k/\stA A k<k
 | 0=>by simp [stA]
 | k+1=>by
  have:=zwl A k
  simp only [stA]; split<;>omega
theorem z07 (a:GAuto) (n:Nat) (hn:n<=90) (hn1:3<=n) (h:a.sm n) (hl:a.arcs.length<=19) (ok:a.ok) (he:∀ x∈a.nf.arcs,x.l≠0) (hd:zr6 a.nf.arcs) (hb:begC a.nf a.st.toNat<=1) :
  HSpG P F.ap [.p (enc a)] [] none (.bx 10 (ctrV (zao a.nf) (stA a.nf a.st.toNat) .nil) [.int .i64 0]) [] none:=by
 refine HSpG.of_mr c.ap (by simp) rfl rfl rfl (by simp [zeo,ctrV,hpOk,zbx,zav,AV.sz]) fun q=>MR.of_vm ?_
 have hv:a.vb=true:=GAuto.vb_iff.2 ok
 have hN:=zyi ok
 have i3:=ok.st2
 have hl2:a.nf.arcs.length<=19:=Nat.le_trans (zsi a.ring a.arcs) hl
 have i5:a.st.toNat<=64:=by omega
 have hil:a.nf.ini.length=a.st.toNat:=by have:=(zpr ok).il; have e:a.nf.st=a.st:=rfl; rw [e] at this; have:=ok.st1; omega
 have hism:∀ w∈a.nf.ini,w.sm 1048576:=fun w hw=>(h.ini w hw).mono (by omega)
 have hnew:=z3l a n hn hn1 h hl
 rw [hv] at hnew
 simp only [if_true] at hnew
 generalize a.nf=A at *
 generalize a.st.toNat=N at *
 have e0:=hN.st
 simp [g.ap,go_sem,zbi]
 refine zaf hnew ?_
 simp [go_sem]
 refine zaf (zvx (zao A) (by show A.arcs.length<=_; omega)) ?_
 have hany:((zao A).a.arcs.any fun x=>decide (x.l=0))=false:=by
  rw [List.any_eq_false]; intro x hx; simpa using he x hx
 simp [go_sem,hany]
 refine zaf (z2c A N hN hil hism (by omega) (by omega)) ?_
 simp [go_sem,hd,hb]
 have hva:(zao A).a=A:=rfl
 refine zai (S:=fun k:Nat=>mkSt [(4,.ptr 4 0 0 0),(6,.ptr 25 0 0 0),(28,.p (.int .i64 N)),(29,.p (.int .i64 k))] [(4,⟨8,[.p (enc (zao A))]⟩),(25,⟨10,[ctrV (zao A) (stA A k) .nil]⟩)]) (I:=fun k=>k<=N) (m:=fun k=>N - k) 0
  (Weak.to [4,6,28,29] [((4,0),4),((25,0),25)] (by simp [mkSt,go_sem,ctrV,stA,hva,e0])) (by omega) ?_
 rintro k hk R hn' hr' hx
 have e1:=i64s k (by omega)
 simp [g.nk,mkSt,go_sem,ctrV]
 refine ⟨fun hk2=>?_,fun hk2=>hx _ _ ?_⟩
 ·have hki:k<(zao A).a.ini.length:=by show k<A.ini.length; omega
  refine zaf (zlp (zao A) k hki hism) ?_
  have hz:A.ini.getD k A.ring.zero=A.ini[k]'(by omega):=by rw [List.getD_eq_getElem?_getD,List.getElem?_eq_getElem (by omega)]; rfl
  by_cases hb:A.ini[k]'(by omega)=A.ring.zero
  ·have hb':(zao A).a.ini[k]=(zao A).a.ring.zero:=hb
   have hs:stA A (k+1)=stA A k:=by simp only [stA,hz]; rw [if_neg (by simpa using hb)]
   simp [go_sem,hb',e1]
   exact hn' (k+1) _ (Weak.to [4,6,28,29] [((4,0),4),((25,0),25)] (by simp [mkSt,go_sem,ctrV,hs])) (by omega) (by omega)
  ·have hb':¬ (zao A).a.ini[k]=(zao A).a.ring.zero:=hb
   have hs:stA A (k+1)=(k:Int):=by simp only [stA,hz]; rw [if_pos (by simpa using hb)]
   simp [go_sem,hb',e1]
   exact hn' (k+1) _ (Weak.to [4,6,28,29] [((4,0),4),((25,0),25)] (by simp [mkSt,go_sem,ctrV,hs])) (by omega) (by omega)
 have hkN:k=N:=by omega
 subst hkN
 simp [go_sem]
 refine ⟨.inl rfl,_,Weak.refl _,_,rfl,⟨rfl,25,0,rfl,rfl,?_⟩,trivial⟩
 simp [go_sem,ctrV]
end Go.Ab
namespace Go.Ab
open Enc (enc)
attribute [local go_sem] zal Opd.slots
structure CtrOk (A:GAuto) (N:Nat):Prop where
 inN:A.inN N
 fs:FS A.arcs
 t:∀ x∈A.arcs,0<=x.t/\x.t<(N:Int)
 fl:A.fin.length=N
 fsm:∀ w∈A.fin,w.sm 1048576
 al:A.arcs.length<=2048
 N1:N<=64
noncomputable abbrev cnA (A:GAuto):Nat->Nat->Nat:=cn A.ring A.fin A.arcs
def rowG (N:Nat) (f:Nat->Nat):List GRat:=mp N fun q=>natR (f q)
theorem zdw (N:Nat) (f:Nat->Nat):(rowG N f).length=N:=zbu _ _
theorem znn {N i:Nat} (f:Nat->Nat) (h:i<(rowG N f).length):(rowG N f)[i]=natR (f i):=ze0 (fun q=>natR (f q)) h
noncomputable def zie (A:GAuto) (N m:Nat):List (List GRat):=mp m fun n=>rowG N (cnA A n)
def rowC (N k:Nat):AV:=.own 900002 k 0 N
def outQ:Nat->AV
 | 0=>.nil
 | m+1=>.own 900001 m 0 (m+1)
def hisC (N:Nat):Nat->List (Option AObj)
 | 0=>[]
 | m+1=>List.replicate m none++[some ⟨1,mp (m+1) (rowC N)⟩]
def famQ (T:List (List GRat)):List (Option AObj):=T.map fun l=>some ⟨3,avs l⟩
noncomputable def hpC (A:GAuto) (s:Int) (N m:Nat):List Site:=[(900000,[some ⟨10,[ctrV (zao A) s (outQ m)]⟩]),(900001,hisC N m),(900002,famQ (zie A N m))]
theorem zrl (N m:Nat):(hisC N (m+1))[m]?.getD none=some ⟨1,mp (m+1) (rowC N)⟩:=by
 simp [hisC]
theorem zyu (A:GAuto) (N:Nat) {m k:Nat} (h:k<m):(famQ (zie A N m))[k]?.getD none=some ⟨3,avs (rowG N (cnA A k))⟩:=by
 simp [famQ,zie,mp,h]
theorem zww (N:Nat):∀ l:List Nat,zav [900000,900001,900002] (l.map (rowC N))=true
 | []=>rfl
 | x::l=>by simp only [List.map_cons,zav,rowC,zbx]; exact zww N l
theorem z3b (N m:Nat):∀ x∈hisC N m,zfd [900000,900001,900002] x=true:=by
 intro x hx
 cases m with
 | zero=>cases hx
 | succ m =>
  rcases List.mem_append.1 hx with hx|hx
  ·rw [List.eq_of_mem_replicate hx]; rfl
  ·simp only [List.mem_singleton] at hx; subst hx; exact zww N _
theorem zyv (T:List (List GRat)):∀ x∈famQ T,zfd [900000,900001,900002] x=true:=by
 intro x hx
 obtain ⟨l,_,rfl⟩:=List.mem_map.1 hx
 show zav _ (avs l)=true
 simp [go_sem]
theorem zep (m:Nat):zbx [900000,900001,900002] (outQ m)=true:=by cases m<;>rfl
theorem zmz (A:GAuto) (s:Int) (N m:Nat):hpOk [900000,900001,900002] (hpC A s N m)=true:=by
 have h1:(hisC N m).all (zfd [900000,900001,900002])=true:=List.all_eq_true.2 (z3b N m)
 have h2:(famQ (zie A N m)).all (zfd [900000,900001,900002])=true:=List.all_eq_true.2 (zyv _)
 simp [hpOk,hpC,h1,h2,zfd,ctrV,zbx,zav,zep]
theorem ybc (a m n:Nat) (h1:1<a) (h2:m<n):a^m<a^n:=Nat.pow_lt_pow_right h1 h2
theorem z7s (a m n:Nat) (h1:0<a) (h2:m<=n):a^m<=a^n:=Nat.pow_le_pow_right h1 h2
theorem zh6 {x n:Nat} (h:x<=2048^n) (hn:n<=1000):(natR x).sm 1048576:=by
 refine zil (Nat.lt_of_le_of_lt (Nat.le_trans h (Nat.pow_le_pow_left (by omega:2048<=4294967296) n)) ?_)
 exact ybc 4294967296 n 1048576 (by omega) (by omega)
noncomputable def rw1 (A:GAuto) (m p v q:Nat):Nat:=if q<p then cnA A m q else if q=p then v else 0
def zR3:AV:=.agg [.p (.bool false),.nil,.nil]
noncomputable def c1S (A:GAuto) (s:Int) (N m q n p v j:Nat):St :=
 ⟨[(0,.ptr 900000 0 0 0),(1,.p (.int .i64 q)),(2,.p (.int .i64 n)),(6,.ptr 6 0 0 0),(7,.own 24 0 0 N),(8,.p (.int .i64 p)),(26,.p (.int .i64 N)),(27,.p (.int .i64 p)),(54,.p (.sl (ens (zas A.arcs p)))),(55,.p (.int .i64 (zas A.arcs p).length)),(56,.p (.int .i64 j))],
  hpC A s N m++[(6,[some ⟨3,[zR3]⟩]),(24,[some ⟨3,avs (rowG N (rw1 A m p v))⟩]),(DEAD,[none])]⟩
noncomputable def sumJ (A:GAuto) (m p j:Nat):Nat:=(((zas A.arcs p).take j).map fun x=>cnA A m x.t.toNat).sum
theorem zj9 (A:GAuto) (m p:Nat) {j:Nat} (h:j<(zas A.arcs p).length):sumJ A m p (j+1)=sumJ A m p j+cnA A m (zas A.arcs p)[j].t.toNat:=by
 unfold sumJ
 rw [List.take_succ_eq_append_getElem h,List.map_append,List.sum_append]; simp
theorem zwh (A:GAuto) (h:A.arcs.length<=2048) (m p j:Nat):sumJ A m p j<=2048^(m+1):=by
 refine Nat.le_trans (zwf fun x _=>zzh A.ring A.fin h m _) ?_
 rw [Nat.pow_succ,Nat.mul_comm]
 refine Nat.mul_le_mul_left _ ?_
 rw [List.length_take]
 exact Nat.le_trans (Nat.min_le_right _ _) (Nat.le_trans (List.length_filter_le _ _) h)
theorem zsk (A:GAuto) (m p:Nat):sumJ A m p (zas A.arcs p).length=cnA A (m+1) p:=by
 unfold sumJ; rw [List.take_length]; rfl
theorem zwv (A:GAuto) (N m p v v':Nat):(avs (rowG N (rw1 A m p v))).set p (.p (enc (natR v')))=avs (rowG N (rw1 A m p v')):=by
 have hs:∀ (l:List GRat) (i:Nat) (x:GRat),(avs l).set i (.p (enc x))=avs (l.set i x):=fun l i x=>by simp [avs,ens,List.map_set]
 rw [hs]
 congr 1
 unfold rowG
 rw [zmo]
 apply zco
 intro q _
 by_cases h:q=p
 ·subst h; simp [rw1]
 ·simp only [rw1]; rw [if_neg h,if_neg h,if_neg h]
theorem zbk (A:GAuto) (N m:Nat):(∀ x:Option AObj,x∈hisC N m->zfd [900000,900001,900002] x=true)/\∀ x:Option AObj,x∈famQ (zie A N m)->zfd [900000,900001,900002] x=true:=⟨z3b N m,zyv _⟩
theorem z5u {A:GAuto} {N:Nat} (hA:CtrOk A N) {s:Int} {m q n p:Nat} (hm:m<900) (hp:p<N) {Q:Exit->St->Prop} {ks:List Kt} {st:St} (hw:Weak st (c1S A s N (m+1) q n p 0 0)) (hx:zd0 P 106 Q (zbh 4 ks) 4 (c1S A s N (m+1) q n p (cnA A (m+1) p) (zas A.arcs p).length)) :
  vL P 106 Q g.ml ks st:=by
 have i1:=hA.al
 have i2:(zas A.arcs p).length<=2048:=Nat.le_trans (List.length_filter_le _ _) i1
 have i3:=hA.N1
 refine zai (S:=fun j:Nat=>c1S A s N (m+1) q n p (sumJ A m p j) j) (I:=fun j=>j<=(zas A.arcs p).length) (m:=fun j=>(zas A.arcs p).length - j) 0 hw (by omega) ?_
 rintro j hj R hn hr hx'
 have e1:=i64s j (by omega)
 have o1:=zrl N m
 have o2:=zyu A N (show m<m+1 by omega)
 simp [g.ml,c1S,hpC,zR3,ctrV,outQ,go_sem]
 refine ⟨fun hlt=>?_,fun hge=>?_⟩
 ·refine zae hlt ?_
  have hmem:(zas A.arcs p)[j]∈A.arcs:=(List.mem_filter.1 (List.getElem_mem hlt)).1
  obtain ⟨t0,t1⟩:=hA.t _ hmem
  obtain ⟨tt,htt⟩:∃ tt:Nat,(zas A.arcs p)[j].t=(tt:Int):=⟨(zas A.arcs p)[j].t.toNat,by omega⟩
  have hsj:=zj9 A m p hlt
  rw [htt,Int.toNat_natCast] at hsj
  have b1:=zwh A i1 m p j
  have b2:cnA A m tt<=2048^m:=zzh A.ring A.fin i1 m tt
  have em:IntKind.i64.wrap (m:Int)=(m:Int):=i64w (by omega) (by omega)
  have hrow:p<(rowG N (rw1 A (m+1) p (sumJ A m p j))).length:=by rw [zdw]; exact hp
  have hrow2:tt<(rowG N (cnA A m)).length:=by rw [zdw]; omega
  have g1:(rowG N (rw1 A (m+1) p (sumJ A m p j)))[p]=natR (sumJ A m p j):=by rw [znn]; simp [rw1]
  have g2:(rowG N (cnA A m))[tt]=natR (cnA A m tt):=znn _ _
  have r1:(mp (m+1) (rowC N))[m]?=some (rowC N m):=by simp [mp]
  refine ⟨⟨hp,by rw [zdw]; omega⟩,zae hrow ?_⟩
  rw [g1]
  simp [go_sem,em,o1,zbu]
  refine ⟨by omega,?_⟩
  rw [zgw]
  refine ⟨_,r1,?_⟩
  simp [go_sem,rowC,o2,zdw,htt]
  refine ⟨by omega,zae hrow2 ?_⟩
  rw [g2]
  refine zaf (zg5 (natR (sumJ A m p j)) (natR (cnA A m tt)) (zh6 b1 (by omega)) (zh6 b2 (by omega))) ?_
  rw [zs6]
  simp [go_sem,e1,zdw]
  refine ⟨hp,zae hrow ?_⟩
  have hset:=zwv A N (m+1) p (sumJ A m p j) (sumJ A m p (j+1))
  rw [hsj] at hset
  rw [zyy] at hset
  refine hn (j+1) _ (Weak.toF [0,1,2,6,7,8,26,27,54,55,56] [900000,900001,900002] [((6,0),6),((24,0),24)] ?_) (by omega) (by omega)
  simp [go_sem,c1S,hpC,zR3,ctrV,outQ,hset,hsj]
  exact zbk A N (m+1)
 ·have:j=(zas A.arcs p).length:=by omega
  subst this
  rw [zsk]
  exact hx' _ _ (by simpa [c1S,hpC,zR3,ctrV,outQ,go_sem] using hx)
end Go.Ab
namespace Go.Ab
open Enc (enc)
attribute [local go_sem] zal Opd.slots
noncomputable def c2S (A:GAuto) (s:Int) (N m q n p:Nat):St :=
 ⟨[(0,.ptr 900000 0 0 0),(1,.p (.int .i64 q)),(2,.p (.int .i64 n)),(6,.ptr 6 0 0 0),(7,.own 24 0 0 N),(26,.p (.int .i64 N)),(27,.p (.int .i64 p))],
  hpC A s N m++[(6,[some ⟨3,[zR3]⟩]),(24,[some ⟨3,avs (rowG N (rw1 A m p 0))⟩]),(DEAD,[none])]⟩
theorem znm (A:GAuto) (m p:Nat):rw1 A m p (cnA A m p)=rw1 A m (p+1) 0:=by
 funext q
 unfold rw1
 by_cases h1:q<p
 ·rw [if_pos h1,if_pos (by omega)]
 ·rw [if_neg h1]
  by_cases h2:q=p
  ·subst h2; rw [if_pos rfl,if_pos (by omega)]
  ·rw [if_neg h2,if_neg (by omega)]; split<;>rfl
theorem z73:Sp P F.be [.int .i64 1,.int .i64 1] (.pure (.tup [enc (natR 1),.int .i64 0])):=by
 have h:=zso 1 1 (by omega) (by omega)
 have e:rto (Rat.divInt 1 1)=natR 1:=by rw [<- zic]; congr 1
 simp only [show ¬ ((1:Int)=0) by omega,if_false,e] at h
 exact h
theorem zzp {A:GAuto} {N:Nat} (hA:CtrOk A N) {s:Int} {m q n:Nat} (hm:m<900) {Q:Exit->St->Prop} {ks:List Kt} {st:St} (hw:Weak st (c2S A s N m q n 0)) (hx:zd0 P 106 Q (zbh 2 ks) 2 (c2S A s N m q n N)) :
  vL P 106 Q g.kq ks st:=by
 have i1:=hA.al
 have i3:=hA.N1
 refine zai (S:=fun p:Nat=>c2S A s N m q n p) (I:=fun p=>p<=N) (m:=fun p=>N - p) 0 hw (by omega) ?_
 rintro p hp R hn hr hx'
 have e1:=i64s p (by omega)
 by_cases hlt:p<N
 rotate_left
 ·have:p=N:=by omega
  subst this
  simp [g.kq,c2S,hpC,zR3,ctrV,go_sem]
  exact hx' _ _ (by simpa [c2S,hpC,zR3,ctrV,go_sem] using hx)
 have hnext:∀ s0:St,Weak s0 (c2S A s N m q n (p+1))->R .normal s0:=fun s0 h=>hn (p+1) s0 h (by omega) (by omega)
 cases m with
 | zero =>
  have hpf:p<(zao A).a.fin.length:=by show p<A.fin.length; rw [hA.fl]; exact hlt
  have hrow:p<(rowG N (rw1 A 0 p 0)).length:=by rw [zdw]; exact hlt
  simp [g.kq,c2S,hpC,zR3,ctrV,outQ,go_sem,hlt]
  refine zaf (zyx (zao A) p hpf hA.fsm) ?_
  have hget:A.fin.getD p A.ring.zero=(zao A).a.fin[p]:=by
   show A.fin.getD p A.ring.zero=A.fin[p]'(by rw [hA.fl]; exact hlt)
   rw [List.getD_eq_getElem?_getD,List.getElem?_eq_getElem (by rw [hA.fl]; exact hlt)]; rfl
  by_cases hb:(zao A).a.fin[p]=(zao A).a.ring.zero
  ·have hc:cnA A 0 p=0:=by simp only [cnA,cn]; rw [if_pos (by rw [hget]; exact hb)]
   have hnx:=znm A 0 p
   rw [hc] at hnx
   simp [go_sem,hb,e1]
   refine hnext _ (Weak.toF [0,1,2,6,7,26,27] [900000,900001,900002] [((6,0),6),((24,0),24)] ?_)
   simp [go_sem,c2S,hpC,zR3,ctrV,outQ,hnx]
   exact zbk A N 0
  ·have hc:cnA A 0 p=1:=by simp only [cnA,cn]; rw [if_neg (by rw [hget]; exact hb)]
   have hnx:=znm A 0 p
   rw [hc] at hnx
   simp [go_sem,hb]
   refine zaf z73 ?_
   simp [go_sem,e1,zdw,hlt]
   refine zae hrow ?_
   have hset:=zwv A N 0 p 0 1
   rw [zyy,hnx] at hset
   refine hnext _ (Weak.toF [0,1,2,6,7,26,27] [900000,900001,900002] [((6,0),6),((24,0),24)] ?_)
   simp [go_sem,c2S,hpC,zR3,ctrV,outQ,hset]
   exact zbk A N 0
 | succ m =>
  have hnx:=znm A (m+1) p
  have hz:¬ ((m:Int)+1=0):=by omega
  simp [g.kq,c2S,hpC,zR3,ctrV,outQ,go_sem,hlt,hz]
  refine zaf (zm9 A N p hA.inN hA.fs hlt (by omega) (by omega)) ?_
  simp [go_sem]
  refine z5u (s:=s) (m:=m) (q:=q) (n:=n) (p:=p) hA (by omega) hlt (Weak.toF [0,1,2,6,7,8,26,27,54,55,56] [900000,900001,900002] [((6,0),6),((24,0),24)] ?_) ?_
  ·simp [go_sem,c1S,hpC,zR3,ctrV,outQ]
   exact zbk A N (m+1)
  ·simp [c1S,hpC,zR3,ctrV,outQ,go_sem,e1]
   refine hnext _ (Weak.toF [0,1,2,6,7,26,27] [900000,900001,900002] [((6,0),6),((24,0),24)] ?_)
   simp [go_sem,c2S,hpC,zR3,ctrV,outQ,hnx]
   exact zbk A N (m+1)
end Go.Ab
namespace Go.Ab
open Enc (enc)
attribute [local go_sem] zal Opd.slots
theorem zg6 {st st':St} (keep:List Nat) (plan:List (Nat × List (Nat × Nat))) (h:zf4 st.hp plan=true) (f:Sg->Prop) (hf:f (sgP st plan)) (he:∀ σ,f σ -> (⟨keep.map fun t=>(t,Go.Ab.sub σ (st.get t)),hpP st σ plan⟩:St)=st'):Weak st st':=by
 have e:st.plan keep plan=st':=he _ hf
 exact e ▸ Weak.plan keep plan h
theorem ztx (T:List (List GRat)):(famQ T).length=T.length:=by simp [famQ]
theorem zpf (A:GAuto) (N m:Nat):(zie A N m).length=m:=by simp [zie,mp]
theorem zp6 (A:GAuto) (N m:Nat):famQ (zie A N (m+1))=famQ (zie A N m)++[some ⟨3,avs (rowG N (cnA A m))⟩]:=by
 simp [famQ,zie,mp,List.range_succ]
theorem zqx (σ : Sg) (l:List PV):subL σ (l.map .p)=l.map .p:=by
 rw [zcc,List.map_map]; rfl
theorem zqy (σ : Sg) {α : Type} [Enc α] (l:List α):subL σ (avs l)=avs l:=zqx σ (ens l)
theorem ztw (σ : Sg) (T:List (List GRat)):(famQ T).map (Option.map (subO σ))=famQ T:=by
 unfold famQ
 rw [List.map_map]
 refine List.map_congr_left fun l _=>?_
 simp only [Function.comp_apply,Option.map_some,subO,zqy]
theorem zyk (N m:Nat):(hisC N m).length=m:=by cases m<;>simp [hisC]
theorem z1q (N m:Nat):(hisC N (m+1)).set m none=List.replicate (m+1) none:=by
 rw [List.replicate_succ']
 simp [hisC,List.set_append]
theorem z0q {σ : Sg} (h:∀ g,σ 900002 g=(900002,g)) (N m:Nat):subL σ (mp m (rowC N))=mp m (rowC N):=by
 rw [zcc]; unfold mp
 rw [List.map_map]
 refine List.map_congr_left fun j _=>?_
 simp only [Function.comp_apply,rowC,sub,h]
theorem zrf {α : Type} (n:Nat) (f:Nat -> α):mp (n+1) f=mp n f++[f n]:=by simp [mp,List.range_succ]
theorem zwk (σ : Sg) (l r:List AV):subL σ (l++r)=subL σ l++subL σ r:=by simp [zcc]
noncomputable def c3S (A:GAuto) (s:Int) (N m q n:Nat):St :=
 ⟨[(0,.ptr 900000 0 0 0),(1,.p (.int .i64 q)),(2,.p (.int .i64 n)),(6,.ptr 6 0 0 0)],hpC A s N m++[(6,[some ⟨3,[zR3]⟩]),(DEAD,[none])]⟩
theorem z5t {A:GAuto} {N:Nat} (hA:CtrOk A N) {s:Int} {q n m0:Nat} (hn:n<800) (hm:m0<900) {Q:Exit->St->Prop} {ks:List Kt} {st:St} (hw:Weak st (c3S A s N m0 q n)) (hx:zd0 P 106 Q (zbh 0 ks) 0 (c3S A s N (max m0 (n+1)) q n)) :
  vL P 106 Q g.kr ks st:=by
 have i3:=hA.N1
 refine zai (S:=fun m:Nat=>c3S A s N m q n) (I:=fun m=>m0<=m/\m<=max m0 (n+1)) (m:=fun m=>max m0 (n+1) - m) m0 hw ⟨by omega,by omega⟩ ?_
 rintro m ⟨hm1,hm2⟩ R hn' hr hx'
 have hst:(zao A).a.st=(N:Int):=hA.inN.st
 by_cases hlt:m<=n
 rotate_left
 ·have:m=max m0 (n+1):=by omega
  cases m with
  | zero=>omega
  | succ m =>
   have hnl:¬ ((m:Int)+1<=(n:Int)):=by omega
   have hnl2:¬ (m+1<=n):=by omega
   simp [g.kr,c3S,hpC,zR3,ctrV,outQ,go_sem,hnl,hnl2]
   rw [<- this] at hx
   exact hx' _ _ (by simpa [c3S,hpC,zR3,ctrV,outQ,go_sem] using hx)
 have hnext:∀ s0:St,Weak s0 (c3S A s N (m+1) q n)->R .normal s0:=fun s0 h=>hn' (m+1) s0 h ⟨by omega,by omega⟩ (by omega)
 have hz:avs (rowG N (rw1 A m 0 0))=List.replicate N (.p (.agg [.bool false,.sl [],.sl []])):=by
  have:rowG N (rw1 A m 0 0)=List.replicate N (natR 0):=by
   unfold rowG
   rw [<- zjr]
   apply zco
   intro q _
   simp [rw1]
  rw [this,zfq,zkr]; rfl
 have hend:rowG N (rw1 A m N 0)=rowG N (cnA A m):=by
  unfold rowG
  apply zco
  intro q hq
  simp only [rw1]; rw [if_pos hq]
 cases m with
 | zero =>
  simp [g.kr,c3S,hpC,zR3,ctrV,outQ,go_sem,hst]
  refine ⟨by omega,?_⟩
  refine zzp (s:=s) (m:=0) (q:=q) (n:=n) hA (by omega) (Weak.toF [0,1,2,6,7,26,27] [900000,900001,900002] [((6,0),6),((24,0),24)] ?_) ?_
  ·simp [go_sem,c2S,hpC,zR3,ctrV,outQ,hz,hst]
   exact zbk A N 0
  ·simp [c2S,hpC,zR3,ctrV,outQ,go_sem,hend]
   refine hnext _ (zg6 [0,1,2,6] [(900000,[(900000,0)]),(900001,[(900001,0),(93,0)]),(900002,[(900002,0),(24,0)]),(6,[(6,0)])] ?_ (fun σ => σ 900000 0=(900000,0) /\ σ 93 0=(900001,0)/\(∀ g,σ 900002 g=(900002,g)) /\ σ 24 0=(900002,0) /\ σ 6 0=(6,0)) ?_ ?_)
   ·simp [zf4,zpq,zeh,PINB,DEAD,zdx]
   ·simp [sgP,zgd,zdy,St.site,look,ztx,zpf,zyk]
   ·rintro σ ⟨s1,s2,s3,s4,s5⟩
    simp [hpP,catS,sub,subO,subL,St.get,look,St.site,c3S,hpC,hst,s1,s2,s3,s4,s5,ctrV,outQ,zR3,ztw,zqy,zp6,hisC,mp,rowC]
 | succ m =>
  have hle:((m:Int)+1<=(n:Int)):=by omega
  have o1:=zrl N m
  have o3:=z1q N m
  simp [g.kr,c3S,hpC,zR3,ctrV,outQ,go_sem,hst,hle,hlt]
  refine ⟨by omega,?_⟩
  refine zzp (s:=s) (m:=m+1) (q:=q) (n:=n) hA (by omega) (Weak.toF [0,1,2,6,7,26,27] [900000,900001,900002] [((6,0),6),((24,0),24)] ?_) ?_
  ·simp [go_sem,c2S,hpC,zR3,ctrV,outQ,hz,hst]
   exact zbk A N (m+1)
  ·simp [c2S,hpC,zR3,ctrV,outQ,go_sem,hend,o1,zbu,killAll,St.kill]
   refine ⟨by omega,?_⟩
   refine hnext _ (zg6 [0,1,2,6] [(900000,[(900000,0)]),(900001,[(900001,0),(93,0)]),(900002,[(900002,0),(24,0)]),(6,[(6,0)])] ?_ (fun σ => σ 900000 0=(900000,0) /\ σ 93 0=(900001,m+1)/\(∀ g,σ 900002 g=(900002,g)) /\ σ 24 0=(900002,m+1) /\ σ 6 0=(6,0)) ?_ ?_)
   ·simp [zf4,zpq,zeh,PINB,DEAD,zdx]
   ·simp [sgP,zgd,zdy,St.site,look,ztx,zpf,zyk,o3]
   ·rintro σ ⟨s1,s2,s3,s4,s5⟩
    simp [hpP,catS,sub,subO,subL,St.get,look,St.site,c3S,hpC,hst,s1,s2,s3,s4,s5,ctrV,outQ,zR3,ztw,zqy,zp6 A N (m+1),hisC,zwk,z0q s3,zrf (m+1),rowC]
    rw [List.replicate_succ',List.append_assoc]; rfl
theorem zp3 {A:GAuto} {N:Nat} (hA:CtrOk A N) (s:Int) {m q n:Nat} (hn:n<800) (hm:m<900) (hq:q<N) :
  HSp P F.d6 [.ptr 900000 0 0 0,.p (.int .i64 q),.p (.int .i64 n)] (hpC A s N m) (.p (enc (natR (cnA A n q)))) (hpC A s N (max m (n+1))):=by
 refine HSp.of_mr c.d6 (by simp) (by simp [hpC,PINB]) (by simp [hpC]) ?_ fun A0 hA0=>MR.of_vm ?_
 ·show (true&&hpOk [900000,900001,900002] (hpC A s N (max m (n+1))))=true
  rw [zmz]; rfl
 simp [g.d6,go_sem,zbi,hpC,ctrV]
 refine z5t (s:=s) (q:=q) (n:=n) (m0:=m) hA hn hm (Weak.toF [0,1,2,6] [900000,900001,900002] [((6,0),6)] ?_) ?_
 ·simp [go_sem,c3S,hpC,zR3,ctrV,zep]
  exact zbk A N m
 obtain ⟨M,hM⟩:∃ M,max m (n+1)=M+1:=⟨max m (n+1) - 1,by omega⟩
 rw [hM]
 have hnM:n<M+1:=by omega
 have o1:=zrl N M
 have o2:=zyu A N hnM
 have r1:(mp (M+1) (rowC N))[n]?=some (rowC N n):=by simp [mp,hnM]
 have hrow:q<(rowG N (cnA A n)).length:=by rw [zdw]; exact hq
 have hnM2:(n:Int)<(M:Int)+1:=by omega
 simp [c3S,hpC,zR3,ctrV,outQ,go_sem,o1,zbu,hnM2,hnM]
 rw [zgw]
 refine ⟨_,r1,?_⟩
 simp [go_sem,rowC,o2,zdw,hq]
 refine zae hrow ?_
 rw [znn]
 refine ⟨.inl rfl,_,Weak.refl _,_,rfl,?_,?_⟩
 ·simp [go_sem]
 ·simp [zbb,St.site,look]
end Go.Ab
namespace Go.Ab
open Enc (enc)
attribute [local go_sem] zal Opd.slots
noncomputable def wcn (A:GAuto) (s:Int) (n:Nat):Nat:=if s<0 then 0 else cnA A n s.toNat
def upM (s:Int) (m n:Nat):Nat:=if s<0 then m else max m (n+1)
theorem ztk (A:GAuto) (s:Int) (N m m':Nat) (v:PV) (vs:List PV) (k:AV) (hk:k=.ptr 900000 0 0 0):(zav [900000,900001,900002] (k::vs.map .p)&&hpOk [900000,900001,900002] (hpC A s N m)&&zeo [900000,900001,900002] (.av (.p v))&&hpOk [900000,900001,900002] (hpC A s N m'))=true:=by
 subst hk
 rw [zmz,zmz]
 simp [zav,zbx,zeo]
 rw [zd1,List.all_eq_true]
 intro x hx
 obtain ⟨y,_,rfl⟩:=List.mem_map.1 hx
 rfl
theorem ziw {f:FuncId} {e:Nat} {A:GAuto} {s:Int} {N m m':Nat} {st:St} {vs:List PV} {v:PV} {K:PCall->AV->St->Prop} (hs:HSp P f (.ptr 900000 0 0 0::vs.map .p) (hpC A s N m) (.p v) (hpC A s N m')) {us:List AV} (hu:us=.ptr 900000 0 0 0::vs.map .p) (hk:zbb st (hpC A s N m) (hpC A s N m))
  (k:K ⟨f,[],.hsp us (hpC A s N m) (.av (.p v)) (hpC A s N m'),none⟩ (.p v) ⟨st.sl,hpC A s N m'++st.hp⟩):zfs P st e f us K:=by
 subst hu
 refine zdo hs ?_ hk rfl (ztk A s N m m' v vs _ rfl) k
 simp [zc1,List.all_map]
theorem zj1 {A:GAuto} {N:Nat} (hA:CtrOk A N) {s:Int} (hs:s<N) {m n:Nat} (hn:n<800) (hm:m<900) :
  HSp P F.b9 [.ptr 900000 0 0 0,.p (.int .i64 n)] (hpC A s N m) (.p (enc (natR (wcn A s n)))) (hpC A s N (upM s m n)):=by
 refine HSp.of_mr c.b9 (by simp) (by simp [hpC,PINB]) (by simp [hpC]) ?_ fun A0 hA0=>MR.of_vm ?_
 ·show (true&&hpOk [900000,900001,900002] (hpC A s N (upM s m n)))=true
  rw [zmz]; rfl
 simp [g.b9,go_sem,zbi,hpC,ctrV]
 refine ⟨fun h=>?_,fun h=>?_⟩
 ·have e1:wcn A s n=0:=by simp [wcn,h]
  have e2:upM s m n=m:=by simp [upM,h]
  rw [e1,e2]
  refine ⟨.inl rfl,_,Weak.freezeTo (s:=4) (g:=0) (n:=2) [enc (natR 0)] [] rfl (by simp [go_sem,zkr]) (by simp [go_sem]) (by simp),_,rfl,?_,?_⟩
  ·simp [go_sem]
  ·simp [zbb,St.site,look,killAll,St.setObj]
 ·obtain ⟨q,rfl⟩:∃ q:Nat,s=(q:Int):=⟨s.toNat,by omega⟩
  have e1:wcn A (q:Int) n=cnA A n q:=by unfold wcn; rw [if_neg (by omega),Int.toNat_natCast]
  have e2:upM (q:Int) m n=max m (n+1):=by unfold upM; rw [if_neg (by omega)]
  rw [e1,e2]
  refine ziw (vs:=[.int .i64 q,.int .i64 n]) (zp3 hA (q:Int) hn hm (by omega)) rfl (by simp [zbb,St.site,look,hpC,ctrV]) ?_
  simp [go_sem,hpC,ctrV]
  refine ⟨.inl rfl,_,Weak.refl _,_,rfl,?_,?_⟩
  ·simp [go_sem]
  ·simp [zbb,St.site,look]
end Go.Ab
namespace Go.Ab
open Enc (enc)
attribute [local go_sem] zal Opd.slots
noncomputable def bN (A:GAuto) (s:Int):Nat->Nat
 | 0=>0
 | k+1=>bN A s k+wcn A s k
def upB (s:Int) (m k:Nat):Nat:=if s<0 then m else max m k
theorem zsf (s:Int) (m k:Nat):upM s (upB s m k) k=upB s m (k+1):=by
 unfold upM upB
 by_cases h:s<0
 ·simp [h]
 ·simp only [if_neg h]; omega
theorem zsb {A:GAuto} (h:A.arcs.length<=2048) (s:Int) (k:Nat):wcn A s k<=2048^k:=by
 unfold wcn; split
 ·exact Nat.zero_le _
 ·exact zzh A.ring A.fin h k _
theorem z87 {A:GAuto} (h:A.arcs.length<=2048) (s:Int):∀ k,k<=2048->bN A s k<=2048^(k+1)
 | 0,_=>by simp [bN]
 | k+1,hk=>by
  have h1:=z87 h s k (by omega)
  have h2:=zsb h s k
  have h3:2048^k<=2048^(k+1):=Nat.pow_le_pow_right (by omega) (by omega)
  have h4:2048^(k+1+1)=2048^(k+1)*2048:=by rw [Nat.pow_succ]
  simp only [bN]
  rw [h4]
  generalize 2048^(k+1)=B at *
  omega
theorem zv2 {s:Int} {m k:Nat} (hm:m<=300) (hk:k<=300):upB s m k<=300:=by unfold upB; split<;>omega
noncomputable def b1S (A:GAuto) (s:Int) (N m n k:Nat):St :=
 ⟨[(0,.ptr 900000 0 0 0),(4,.ptr 4 0 0 0),(5,.ptr 5 0 0 0),(8,.p (.int .i64 n)),(9,.p (.int .i64 k))],hpC A s N (upB s m k)++[(4,[some ⟨3,[zR3]⟩]),(5,[some ⟨3,[.p (enc (natR (bN A s k)))]⟩]),(DEAD,[none])]⟩
theorem zzt {A:GAuto} {N:Nat} (hA:CtrOk A N) {s:Int} (hs:s<N) {m n:Nat} (hn:n<=300) (hm:m<=300) :
  HSp P F.gn [.ptr 900000 0 0 0,.p (.int .i64 n)] (hpC A s N m) (.p (enc (natR (bN A s n)))) (hpC A s N (upB s m n)):=by
 refine HSp.of_mr c.gn (by simp) (by simp [hpC,PINB]) (by simp [hpC]) ?_ fun A0 hA0=>MR.of_vm ?_
 ·show (true&&hpOk [900000,900001,900002] (hpC A s N (upB s m n)))=true
  rw [zmz]; rfl
 have i1:=hA.al
 simp [g.gn,go_sem,zbi,hpC,ctrV]
 refine zai (S:=fun k:Nat=>b1S A s N m n k) (I:=fun k=>k<=n) (m:=fun k=>n - k) 0
  ((Weak.freezeTo (s:=5) (g:=0) (n:=2) [enc (natR 0)] [] rfl (by simp [go_sem,zkr]) (by simp [go_sem]) (by simp)).trans (Weak.toF [0,4,5,8,9] [900000,900001,900002] [((4,0),4),((5,0),5)] ?_)) (by omega) ?_
 ·have e0:upB s m 0=m:=by unfold upB; split<;>omega
  simp [go_sem,b1S,hpC,zR3,ctrV,zep,killAll,St.setObj,bN,e0]
  exact zbk A N m
 rintro k hk R hn' hr' hx
 have e1:=i64s k (by omega)
 have hup:=zv2 (s:=s) hm (show k<=300 by omega)
 by_cases hlt:k<n
 ·simp [g.mf,b1S,hpC,zR3,ctrV,go_sem,hlt]
  refine ziw (vs:=[.int .i64 k]) (zj1 hA hs (m:=upB s m k) (n:=k) (by omega) (by omega)) rfl (by simp [zbb,St.site,look,hpC,ctrV]) ?_
  simp [go_sem,hpC,ctrV]
  refine zaf (zg5 (natR (bN A s k)) (natR (wcn A s k)) (zh6 (z87 i1 s k (by omega)) (by omega)) (zh6 (zsb i1 s k) (by omega))) ?_
  rw [zs6]
  simp [go_sem,e1]
  refine hn' (k+1) _ (Weak.toF [0,4,5,8,9] [900000,900001,900002] [((4,0),4),((5,0),5)] ?_) (by omega) (by omega)
  simp [go_sem,b1S,hpC,zR3,ctrV,zep,bN,zsf]
  exact zbk A N (upB s m (k+1))
 ·have hkn:k=n:=by omega
  subst hkn
  simp [g.mf,b1S,hpC,zR3,ctrV,go_sem]
  refine hx _ _ ?_
  simp [go_sem]
  refine ⟨.inl rfl,_,Weak.refl _,_,rfl,?_,?_⟩
  ·simp [go_sem]
  ·simp [zbb,St.site,look]
end Go.Ab
namespace Go.Ab
open Enc (enc)
attribute [local go_sem] zal Opd.slots
theorem z2o {f:FuncId} {e:Nat} {A:GAuto} {s:Int} {N m m':Nat} {st:St} {vs:List PV} {v:AV} {K:PCall->AV->St->Prop} (hs:HSp P f (.ptr 900000 0 0 0::vs.map .p) (hpC A s N m) v (hpC A s N m')) {us:List AV} (hu:us=.ptr 900000 0 0 0::vs.map .p) (hv:zbx [900000,900001,900002] v=true) (hk:zbb st (hpC A s N m) (hpC A s N m))
  (k:K ⟨f,[],.hsp us (hpC A s N m) (.av v) (hpC A s N m'),none⟩ v ⟨st.sl,hpC A s N m'++st.hp⟩):zfs P st e f us K:=by
 subst hu
 refine zdo hs ?_ hk rfl ?_ k
 ·simp [zc1,List.all_map]
 have h:=ztk A s N m m' (.bool true) vs _ rfl
 simp only [Bool.and_eq_true] at h ⊢
 exact ⟨⟨⟨h.1.1.1,h.1.1.2⟩,hv⟩,h.2⟩
end Go.Ab
namespace Go.Ab
open Go.Proofs
def g.qa:GC:=.seq (.reg [⟨some 2,.box 7 (.t 0),none⟩,⟨some 4,.alloc 3 (.agg [.p (.bool false),.nil,.nil]),none⟩,⟨some 5,.mv (.c (.p (.int .i64 0))),none⟩] [[0],[],[5]]) (.seq (.reg [⟨some 9,.load 7 true (.t 2),none⟩,⟨some 10,.call F.ap [.t 9],none⟩,⟨some 8,.mv (.t 10),none⟩,⟨some 11,.extract (.t 8) 0,none⟩,⟨some 12,.extract (.t 8) 1,none⟩,⟨some 6,.mv (.t 11),none⟩,⟨some 7,.mv (.t 12),none⟩] [[2],[9],[10],[],[8],[11],[12]]) (.seq (.blk 0 (.seq (.reg [⟨some 14,.mv (.t 7),none⟩,⟨some 15,.ibin .neq (.t 14) (.c (.p (.int .i64 0))),none⟩,⟨some 13,.mv (.t 15),none⟩] [[],[14],[15]]) (.cond (.t 13) [13] (.seq (.reg [⟨some 16,.build [.p (.bool false),.nil,.nil] [],none⟩,⟨some 17,.mv (.t 7),none⟩,⟨none,.store 3 (.t 4) (.t 16),none⟩,⟨some 5,.mv (.t 17),none⟩] [[1,6],[7],[16],[17]]) (.ret)) (.seq (.reg [⟨some 19,.mv (.t 1),none⟩,⟨some 20,.ibin .lss (.t 19) (.c (.p (.int .i64 0))),none⟩,⟨some 21,.mv (.t 20),none⟩,⟨some 22,.mv (.t 1),some (21,false)⟩,⟨some 23,.ibin .gtr (.t 22) (.c (.p (.int .i64 256))),some (21,false)⟩,⟨some 24,.pick (.t 21) (.c (.p (.bool true))) (.t 23),none⟩,⟨some 18,.mv (.t 24),none⟩] [[7],[19],[20],[],[22],[21,23],[24]]) (.cond (.t 18) [18] (.seq (.reg [⟨some 25,.build [.p (.bool false),.nil,.nil] [],none⟩,⟨none,.store 3 (.t 4) (.t 25),none⟩,⟨some 5,.mv (.c (.p (.int .i64 1))),none⟩] [[1,6],[25]]) (.ret)) (.nop)))))) (.seq (.reg [⟨some 26,.mv (.t 6),none⟩,⟨some 27,.mv (.t 1),none⟩,⟨some 28,.call F.b9 [.t 26,.t 27],none⟩,⟨none,.store 3 (.t 4) (.t 28),none⟩,⟨some 5,.mv (.c (.p (.int .i64 0))),none⟩] [[6],[1],[26,27],[28]]) (.ret))))
theorem c.qa:zac P F.kf=some ⟨29,2,g.qa.er,[(4,some 3),(5,none)]⟩:=by kernel_rfl
def g.qc:GC:=.seq (.reg [⟨some 2,.box 7 (.t 0),none⟩,⟨some 4,.alloc 3 (.agg [.p (.bool false),.nil,.nil]),none⟩,⟨some 5,.mv (.c (.p (.int .i64 0))),none⟩] [[0],[],[5]]) (.seq (.reg [⟨some 9,.load 7 true (.t 2),none⟩,⟨some 10,.call F.ap [.t 9],none⟩,⟨some 8,.mv (.t 10),none⟩,⟨some 11,.extract (.t 8) 0,none⟩,⟨some 12,.extract (.t 8) 1,none⟩,⟨some 6,.mv (.t 11),none⟩,⟨some 7,.mv (.t 12),none⟩] [[2],[9],[10],[],[8],[11],[12]]) (.seq (.blk 0 (.seq (.reg [⟨some 14,.mv (.t 7),none⟩,⟨some 15,.ibin .neq (.t 14) (.c (.p (.int .i64 0))),none⟩,⟨some 13,.mv (.t 15),none⟩] [[],[14],[15]]) (.cond (.t 13) [13] (.seq (.reg [⟨some 16,.build [.p (.bool false),.nil,.nil] [],none⟩,⟨some 17,.mv (.t 7),none⟩,⟨none,.store 3 (.t 4) (.t 16),none⟩,⟨some 5,.mv (.t 17),none⟩] [[1,6],[7],[16],[17]]) (.ret)) (.seq (.reg [⟨some 19,.mv (.t 1),none⟩,⟨some 20,.ibin .lss (.t 19) (.c (.p (.int .i64 0))),none⟩,⟨some 21,.mv (.t 20),none⟩,⟨some 22,.mv (.t 1),some (21,false)⟩,⟨some 23,.ibin .gtr (.t 22) (.c (.p (.int .i64 256))),some (21,false)⟩,⟨some 24,.pick (.t 21) (.c (.p (.bool true))) (.t 23),none⟩,⟨some 18,.mv (.t 24),none⟩] [[7],[19],[20],[],[22],[21,23],[24]]) (.cond (.t 18) [18] (.seq (.reg [⟨some 25,.build [.p (.bool false),.nil,.nil] [],none⟩,⟨none,.store 3 (.t 4) (.t 25),none⟩,⟨some 5,.mv (.c (.p (.int .i64 1))),none⟩] [[1,6],[25]]) (.ret)) (.nop)))))) (.seq (.reg [⟨some 26,.mv (.t 6),none⟩,⟨some 27,.mv (.t 1),none⟩,⟨some 28,.ibin .add (.t 27) (.c (.p (.int .i64 1))),none⟩,⟨some 29,.call F.gn [.t 26,.t 28],none⟩,⟨none,.store 3 (.t 4) (.t 29),none⟩,⟨some 5,.mv (.c (.p (.int .i64 0))),none⟩] [[6],[1],[27],[26,28],[29]]) (.ret))))
theorem c.qc:zac P F.kd=some ⟨30,2,g.qc.er,[(4,some 3),(5,none)]⟩:=by kernel_rfl
def g.qd:GC:=.seq (.reg [⟨some 2,.box 7 (.t 0),none⟩,⟨some 3,.box 3 (.t 1),none⟩,⟨some 4,.mv (.c .nil),none⟩,⟨some 5,.mv (.c (.p (.bool false))),none⟩,⟨some 6,.mv (.c (.p (.int .i64 0))),none⟩] [[0],[1],[4],[5],[6]]) (.seq (.reg [⟨some 12,.load 7 true (.t 2),none⟩,⟨some 13,.call F.ap [.t 12],none⟩,⟨some 11,.mv (.t 13),none⟩,⟨some 14,.extract (.t 11) 0,none⟩,⟨some 15,.extract (.t 11) 1,none⟩,⟨some 7,.mv (.t 14),none⟩,⟨some 8,.mv (.t 15),none⟩] [[2],[12],[13],[],[11],[14],[15]]) (.seq (.blk 0 (.seq (.reg [⟨some 17,.mv (.t 8),none⟩,⟨some 18,.ibin .neq (.t 17) (.c (.p (.int .i64 0))),none⟩,⟨some 16,.mv (.t 18),none⟩] [[],[17],[18]]) (.cond (.t 16) [16] (.seq (.reg [⟨some 19,.mv (.t 8),none⟩,⟨some 4,.mv (.c .nil),none⟩,⟨some 5,.mv (.c (.p (.bool false))),none⟩,⟨some 6,.mv (.t 19),none⟩] [[3,7,8],[],[],[19]]) (.ret)) (.seq (.reg [⟨some 21,.load 3 true (.t 3),none⟩,⟨some 22,.call F.bc [.t 21],none⟩,⟨some 23,.not (.t 22),none⟩,⟨some 24,.mv (.t 23),none⟩,⟨some 25,.faddr 2 (.t 3),some (24,false)⟩,⟨some 26,.load 1 false (.t 25),some (24,false)⟩,⟨some 27,.len (.t 26),some (24,false)⟩,⟨some 28,.ibin .gtr (.t 27) (.c (.p (.int .i64 0))),some (24,false)⟩,⟨some 29,.pick (.t 24) (.c (.p (.bool true))) (.t 28),none⟩,⟨some 30,.mv (.t 29),none⟩,⟨some 31,.load 3 true (.t 3),some (30,false)⟩,⟨some 32,.call F.ar [.t 31],some (30,false)⟩,⟨some 33,.ibin .lss (.t 32) (.c (.p (.int .i64 0))),some (30,false)⟩,⟨some 34,.pick (.t 30) (.c (.p (.bool true))) (.t 33),none⟩,⟨some 20,.mv (.t 34),none⟩] [[8],[21],[22],[23],[],[25],[26],[27],[24,28],[29],[],[31],[32],[30,33],[34]]) (.cond (.t 20) [20] (.seq (.reg [⟨some 4,.mv (.c .nil),none⟩,⟨some 5,.mv (.c (.p (.bool false))),none⟩,⟨some 6,.mv (.c (.p (.int .i64 1))),none⟩] [[3,7]]) (.ret)) (.nop)))))) (.seq (.reg [⟨some 36,.mv (.t 7),none⟩,⟨some 37,.load 3 true (.t 3),none⟩,⟨some 38,.call F.kg [.t 36,.t 37],none⟩,⟨some 35,.mv (.t 38),none⟩,⟨some 39,.extract (.t 35) 0,none⟩,⟨some 40,.extract (.t 35) 1,none⟩,⟨some 9,.mv (.t 39),none⟩,⟨some 10,.mv (.t 40),none⟩] [[7],[3],[36,37],[38],[],[35],[39],[40]]) (.seq (.reg [⟨some 41,.mv (.t 9),none⟩,⟨some 42,.mv (.t 10),none⟩,⟨some 4,.mv (.t 41),none⟩,⟨some 5,.mv (.t 42),none⟩,⟨some 6,.mv (.c (.p (.int .i64 0))),none⟩] [[9],[10],[41],[42]]) (.ret)))))
theorem c.qd:zac P F.kb=some ⟨43,2,g.qd.er,[(4,none),(5,none),(6,none)]⟩:=by kernel_rfl
def g.qe:GC:=.seq (.reg [⟨some 3,.box 3 (.t 1),none⟩,⟨some 4,.mv (.c .nil),none⟩,⟨some 5,.mv (.c (.p (.bool false))),none⟩] [[1],[4],[5]]) (.seq (.seq (.reg [⟨some 13,.mv (.c (.p (.int .i64 0))),none⟩] []) (.blk 0 (.loop g.me))) (.seq (.reg [⟨some 4,.mv (.c .nil),none⟩,⟨some 5,.mv (.c (.p (.bool false))),none⟩] [[0,3,13]]) (.ret)))
theorem c.qe:zac P F.kg=some ⟨71,2,g.qe.er,[(4,none),(5,none)]⟩:=by kernel_rfl
def g.qf:GC:=.seq (.reg [⟨some 0,.mv (.c (.p (.bool false))),none⟩] [[0]]) (.seq (.reg [⟨some 7,.build [.p (.int .i64 0),.nil] [(0,1,.c (.p (.int .i64 2)))],none⟩,⟨some 8,.build [.p (.bool false),.nil,.nil,.p (.int .i64 0),.p (.bool false),.p (.int .u64 0),.nil,.nil] [],none⟩,⟨some 9,.bslice 8 (.agg [.p (.bool false),.nil,.nil,.p (.int .i64 0),.p (.bool false),.p (.int .u64 0),.nil,.nil]) 1 [(0,.t 8)],none⟩,⟨some 10,.build [.p (.bool false),.nil,.nil,.p (.int .i64 0),.p (.bool false),.p (.int .u64 0),.nil,.nil] [],none⟩,⟨some 11,.bslice 8 (.agg [.p (.bool false),.nil,.nil,.p (.int .i64 0),.p (.bool false),.p (.int .u64 0),.nil,.nil]) 1 [(0,.t 10)],none⟩,⟨some 12,.build [.p (.int .i64 0),.p (.int .i64 0),.p (.int .i64 0),.p (.bool false),.nil,.nil,.p (.int .i64 0),.p (.bool false),.p (.int .u64 0),.nil,.nil] [(1,1,.c (.p (.int .i64 1)))],none⟩,⟨some 13,.build [.p (.int .i64 0),.p (.int .i64 0),.p (.int .i64 0),.p (.bool false),.nil,.nil,.p (.int .i64 0),.p (.bool false),.p (.int .u64 0),.nil,.nil] [(1,1,.c (.p (.int .i64 2)))],none⟩,⟨some 14,.bslice 11 (.agg [.p (.int .i64 0),.p (.int .i64 0),.p (.int .i64 0),.p (.bool false),.nil,.nil,.p (.int .i64 0),.p (.bool false),.p (.int .u64 0),.nil,.nil]) 2 [(0,.t 12),(1,.t 13)],none⟩,⟨some 15,.build [.p (.int .i64 0),.nil,.p (.int .i64 0),.p (.int .i64 0),.nil,.nil,.nil] [(0,2,.t 7),(2,1,.c (.p (.int .i64 2))),(3,1,.c (.p (.int .i64 1))),(4,1,.t 9),(5,1,.t 11),(6,1,.t 14)],none⟩,⟨some 1,.alloc 7 (.agg [.p (.int .i64 0),.nil,.p (.int .i64 0),.p (.int .i64 0),.nil,.nil,.nil]),none⟩,⟨none,.store 7 (.t 1) (.t 15),none⟩] [[],[],[8],[],[10],[],[],[12,13],[7,9,11,14],[],[15]]) (.seq (.reg [⟨some 17,.load 7 true (.t 1),none⟩,⟨some 18,.call F.kd [.t 17,.c (.p (.int .i64 3))],none⟩,⟨some 16,.mv (.t 18),none⟩,⟨some 19,.extract (.t 16) 0,none⟩,⟨some 20,.extract (.t 16) 1,none⟩,⟨some 2,.alloc 3 (.agg [.p (.bool false),.nil,.nil]),none⟩,⟨none,.store 3 (.t 2) (.t 19),none⟩,⟨some 3,.mv (.t 20),none⟩] [[],[17],[18],[],[16],[],[19],[20]]) (.seq (.regD [⟨some 22,.load 7 true (.t 1),none⟩,⟨some 23,.call F.du [.c (.p (.int .i64 4))],none⟩,⟨some 24,.call F.kb [.t 22,.t 23],none⟩,⟨some 21,.mv (.t 24),none⟩,⟨some 25,.extract (.t 21) 0,none⟩,⟨some 26,.extract (.t 21) 1,none⟩,⟨some 27,.extract (.t 21) 2,none⟩,⟨some 4,.mv (.t 25),none⟩,⟨some 5,.mv (.t 26),none⟩,⟨some 6,.mv (.t 27),none⟩] [[],[],[0,1],[2,0,1],[3,2,0,1],[3,2,0,1],[3,2,0,1],[4,3,2,0,1],[5,7,4,3,2,0,1],[6,8,5,7,4,3,2,0,1]] [[1],[],[22,23],[24],[],[],[21],[25],[26],[27]]) (.seq (.regD [⟨some 28,.mv (.t 3),none⟩,⟨some 29,.ibin .eql (.t 28) (.c (.p (.int .i64 0))),none⟩,⟨some 30,.mv (.t 29),none⟩,⟨some 31,.mv (.t 6),some (30,true)⟩,⟨some 32,.ibin .eql (.t 31) (.c (.p (.int .i64 0))),some (30,true)⟩,⟨some 33,.pick (.t 30) (.t 32) (.c (.p (.bool false))),none⟩,⟨some 34,.mv (.t 33),none⟩,⟨some 35,.mv (.t 5),some (34,true)⟩,⟨some 36,.pick (.t 34) (.t 35) (.c (.p (.bool false))),none⟩,⟨some 37,.mv (.t 36),none⟩,⟨some 38,.load 3 true (.t 2),some (37,true)⟩,⟨some 39,.call F.du [.c (.p (.int .i64 15))],some (37,true)⟩,⟨some 40,.call F.dv [.t 38,.t 39],some (37,true)⟩,⟨some 41,.ibin .eql (.t 40) (.c (.p (.int .i64 0))),some (37,true)⟩,⟨some 42,.pick (.t 37) (.t 41) (.c (.p (.bool false))),none⟩,⟨some 43,.mv (.t 42),none⟩,⟨some 44,.mv (.t 4),some (43,true)⟩,⟨some 45,.bslice 1 (.p (.int .i64 0)) 2 [(0,.c (.p (.int .i64 1))),(1,.c (.p (.int .i64 2)))],some (43,true)⟩,⟨some 46,.call F.dw [.t 44,.t 45],some (43,true)⟩,⟨some 47,.pick (.t 43) (.t 46) (.c (.p (.bool false))),none⟩,⟨some 0,.mv (.t 47),none⟩] [[],[0],[1,0],[2,1,0],[3,2,1,0],[4,3,2,1,0],[5,4,3,2,1,0],[6,5,4,3,2,1,0],[7,6,5,4,3,2,1,0],[8,7,6,5,4,3,2,1,0],[9,8,7,6,5,4,3,2,1,0],[9,8,7,6,5,4,3,2,1,0],[10,11,9,8,7,6,5,4,3,2,1,0],[12,10,11,9,8,7,6,5,4,3,2,1,0],[13,12,10,11,9,8,7,6,5,4,3,2,1,0],[14,13,12,10,11,9,8,7,6,5,4,3,2,1,0],[15,14,13,12,10,11,9,8,7,6,5,4,3,2,1,0],[15,14,13,12,10,11,9,8,7,6,5,4,3,2,1,0],[16,17,15,14,13,12,10,11,9,8,7,6,5,4,3,2,1,0],[18,16,17,15,14,13,12,10,11,9,8,7,6,5,4,3,2,1,0],[19,18,16,17,15,14,13,12,10,11,9,8,7,6,5,4,3,2,1,0]] [[3],[28],[29],[6],[31],[30,32],[33],[5],[34,35],[36],[2],[],[38,39],[40],[37,41],[42],[4],[],[44,45],[43,46],[47]]) (.ret)))))
theorem c.qf:zac P F.ke=some ⟨48,0,g.qf.er,[(0,none)]⟩:=by kernel_rfl
def g.qg:GC:=.seq (.reg [⟨some 1,.box 8 (.t 0),none⟩,⟨some 2,.mv (.c (.p (.bool false))),none⟩] [[0],[2]]) (.seq (.reg [⟨some 7,.load 8 true (.t 1),none⟩,⟨some 8,.call F.ic [.t 7],none⟩,⟨some 3,.alloc 1 .nil,none⟩,⟨none,.store 1 (.t 3) (.t 8),none⟩] [[],[7],[],[8]]) (.seq (.reg [⟨some 9,.faddr 0 (.t 1),none⟩,⟨some 10,.faddr 3 (.t 9),none⟩,⟨some 11,.load 1 false (.t 10),none⟩,⟨some 12,.mkslice 1 (.p (.int .i64 0)) (.t 11) (.t 11),none⟩,⟨some 4,.alloc 1 .nil,none⟩,⟨none,.store 1 (.t 4) (.t 12),none⟩] [[],[9],[10],[11],[],[12]]) (.seq (.reg [⟨some 5,.alloc 1 (.p .nilfn),none⟩] []) (.seq (.reg [⟨some 13,.mkfn F.ai [.t 4,.t 1,.t 3,.t 5],none⟩,⟨none,.store 1 (.t 5) (.t 13),none⟩] [[4],[13]]) (.seq (.seq (.reg [⟨some 14,.faddr 0 (.t 1),none⟩,⟨some 15,.faddr 3 (.t 14),none⟩,⟨some 16,.load 1 false (.t 15),none⟩,⟨some 17,.mv (.c (.p (.int .i64 0))),none⟩] [[1],[14],[15]]) (.blk 0 (.loop g.mg))) (.seq (.reg [⟨some 2,.mv (.c (.p (.bool true))),none⟩] [[3,5,16,17]]) (.ret)))))))
theorem c.qg:zac P F.ki=some ⟨31,1,g.qg.er,[(2,none)]⟩:=by kernel_rfl
end Go.Ab
