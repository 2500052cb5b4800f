/-
Proofs for the law TransducerWeighsMadeModels, part 41. Conditions: none.
-/
import Derived.Test.YtbhboeijjgiflaaGreatDoorCP29
import Derived.Test.YtbhboeijjgiflaaGreatDoorCP35
import Derived.Test.YtbhboeijjgiflaaGreatDoorCP40
import Derived.Test.YtbhboeijjgiflaaGreatDoorCP27
set_option maxRecDepth 100000
set_option maxHeartbeats 4000000
set_option linter.all false
namespace Go.Ab
def hpOk(ks:List Nat)(hp:List Site):Bool:=hp.all fun q=>q.2.all (zrb ks)
def HSp(P:Program)(f:FuncId)(vs:List AV)(hp:List Site)(v:AV)(hp':List Site):Prop :=
 (∃ fn,P.funcs[f]?=some fn/\fn.body.isSome=true/\fn.name ≠ "runtime.NumGoroutine") /\
 ∀ (Z:Cz) (w:World) (vals:List Value),HRep ⟨w,Z.M,ownB Z ⟨[],hp⟩,0⟩ Z ⟨[],hp⟩ w->AReps Z ⟨[],hp⟩ vs vals ->
  Calls P f vals.toArray w fun e w'=>∃ x Z',e=.returned x/\HRep ⟨w,Z.M,ownB Z ⟨[],hp⟩,0⟩ Z' ⟨[],hp'⟩ w'/\ARep Z' ⟨[],hp'⟩ v x/\ZLe Z ⟨[],hp⟩ Z' ⟨[],hp'⟩
section
variable {P:Program} {K:Ctx} {Z Z' Z2:Cz} {st st' st1 st2:St} {w w':World} {a:Act} {N:Nat} {A B:Option FA} {Post:Exit->St->Option FA->Prop} {PostI:St->Option FA->Prop} {ks:List Nat} {v:AV}
theorem zvi{u:AV}(h:zg8 ks u=true):zbt ks u.cells=true:=by
 cases u with
 | p p =>
  cases p with
  | agg cs=>simp only[AV.cells,zf2,List.all_map,ymt,yob,zg8,implies_true]
  | _=>rfl
 | agg cs=>exact h
 | _=>simp only[AV.cells,zbt,h,Bool.and_self]
theorem zvj{es:List AV}(h:zbt ks es=true):zbt ks (es.flatMap AV.cells)=true:=by simp only[zf2,ymt]at h ⊢;intro c hc;obtain⟨e,he,hc⟩:=yn1.1 hc;have:=zvi (h e he);rw[zf2,ymt]at this;exact this c hc
mutual
theorem ARep.into(hs:∀ s,ks.contains s=true->st2.site s=st.site s)(hM:∀ b o,Z.M b=some o->Z2.M b=some o)(hB:∀ s g,ks.contains s=true->Z2.B s g=Z.B s g/\Z2.cap s g=Z.cap s g):∀ {u:AV} {x:Value},ARep Z st u x->zg8 ks u=true->ARep Z2 st2 u x
 | _,_,.p u x hp,_=>.p u x (PRep.mono hM hp)
 | _,_,.nil,_=>.nil
 | _,_,.own0 s g o ho hb,h=>.own0 s g o (by rw[zag (hs s h)];exact ho) (by rw[(hB s g h).1];exact hb)
 | _,_,.own s g off len o b ad c ho hb h1 h2 h3 h4,h=>.own s g off len o b ad c (by rw[zag (hs s h)];exact ho) (by rw[(hB s g h).1];exact hb) (by rw[(hB s g h).2];exact h1) h2 h3 h4
 | _,_,.ownD s g off len ad c hg hd,h=>.ownD s g off len ad c (by rw[hs s h];exact hg) (by rw[zag (hs s h)];exact hd)
 | _,_,.ptr s g ix off o b ho hb,h=>.ptr s g ix off o b (by rw[zag (hs s h)];exact ho) (by rw[(hB s g h).1];exact hb)
 | _,_,.ptrD s g ix off ad hg hd,h=>.ptrD s g ix off ad (by rw[hs s h];exact hg) (by rw[zag (hs s h)];exact hd)
 | _,_,.cp u vsz off b o cur T fr vals h0 h1 h2 h3 h4 h5,_=>.cp u vsz off b o cur T fr vals (hM _ _ h0) h1 h2 h3 (PReps.mono hM h4) h5
 | _,_,.agg cs vals h1 h2,h=>.agg cs vals h1 (AReps.into hs hM hB h2 h)
 | _,_,.fn f caps vals h1,h=>.fn f caps vals (AReps.into hs hM hB h1 h)
 | _,_,.tup vs vals h1,h=>.tup vs vals (AReps.into hs hM hB h1 h)
 | _,_,.skip,_=>.skip
 | _,_,.undef x,_=>.undef x
theorem AReps.into(hs:∀ s,ks.contains s=true->st2.site s=st.site s)(hM:∀ b o,Z.M b=some o->Z2.M b=some o)(hB:∀ s g,ks.contains s=true->Z2.B s g=Z.B s g/\Z2.cap s g=Z.cap s g):∀ {u:List AV} {x:List Value},AReps Z st u x->zbt ks u=true->AReps Z2 st2 u x
 | _,_,.nil,_=>.nil
 | _,_,.cons u x us xs h1 h2,h=>by simp only[zbt,ymf]at h;exact .cons _ _ _ _ (ARep.into hs hM hB h1 h.1) (AReps.into hs hM hB h2 h.2)
end
theorem ORep.into(hs:∀ s,ks.contains s=true->st2.site s=st.site s)(hM:∀ b o,Z.M b=some o->Z2.M b=some o)(hB:∀ s g,ks.contains s=true->Z2.B s g=Z.B s g/\Z2.cap s g=Z.cap s g){s g:Nat}{o:AObj}(hk:ks.contains s=true)(hr:zbt ks o.es=true)
  (h:ORep Z st w s g o):ORep Z2 st2 w s g o:=by
 refine⟨h.pos,h.els,h.one,fun hn=>h.non (by rw[<- (hB s g hk).1];exact hn),fun b hb=>?_⟩;rw[(hB s g hk).1]at hb;obtain⟨cur,T,vals,k1,k2,k3,k4,k5,k6⟩:=h.blk b hb;rw[(hB s g hk).2];exact⟨cur,T,vals,k1,AReps.into hs hM hB k2 (zvj hr),k3,k4,k5,k6⟩
theorem zhs{hp:List Site}{s:Nat}(h:(hp.map (·.1)).contains s=false):look hp s []=[]:=by
 rcases zjv (d:=([]:List (Option AObj))) (l:=hp) (s:=s)with h1|⟨q,h1,rfl,_⟩
 ·exact h1
 ·exfalso;have:=yol.2 (yl6.2 ⟨q,h1,rfl⟩:q.1∈hp.map (·.1));rw[h]at this;cases this
theorem zyj{hp r:List Site}{s:Nat}:look (hp++r) s []=if (hp.map (·.1)).contains s=true then look hp s []else look r s []:=by
 induction hp with
 | nil=>simp
 | cons q l ih =>
  obtain⟨k,x⟩:=q;simp only[yo0,look,ylx];by_cases h:k=s
  ·subst h;simp
  ·rw[yl1 h,yl1 h,ih];have:(k::l.map (·.1)).contains s=(l.map (·.1)).contains s:=by simp[List.contains_cons,ymc h]
   rw[this]
theorem zr2{hp:List Site}(h:hpOk ks hp=true){s g:Nat}{o:AObj}(ho:(⟨[],hp⟩:St).obj s g=some o):zbt ks o.es=true:=by
 rcases zjv (d:=([]:List (Option AObj))) (l:=hp) (s:=s)with h1|⟨q,h1,_,h3⟩
 ·simp[St.obj,St.site,h1]at ho
 ·have:=ymt.1 (ymt.1 h q h1);simp only[St.obj,St.site,h3]at ho;cases hg:q.2[g]? with
  | none=>rw[hg]at ho;cases ho
  | some x =>
   rw[hg]at ho;simp only[yon]at ho;subst ho;exact this _ (yny hg)
theorem Later.put(hh:Later Z st w Z' st' w')(d:Option Nat)(v:AV):Later Z st w Z' (st'.put d v) w' :=
 hh.trans ⟨fun _ _ h=>h,fun r hr=>⟨⟨hr.m,fun s g o ho=>hr.o s g o (by rw[<- ho];exact(ycq st' d v s g).symm),hr.lt⟩,rfl⟩,.of_zle (zbk (fun i=>za1 _ _ _ i) _)⟩
def zo3(st:St)(hp:List Site):List Site->Prop
 | []=>True
 | q::r=>st.site q.1=look hp q.1 []/\zo3 st hp r
theorem zok{hp:List Site}:∀ {r:List Site},zo3 st hp r->∀ q∈r,st.site q.1=look hp q.1 []
 | q::r,h,x,hx=>by
  rcases yl7.1 hx with rfl|hx
  ·exact h.1
  ·exact zok h.2 x hx
theorem z02{hp hp':List Site}{x:Value}(hks:hp'.map (·.1)=hp.map (·.1))(hsite:∀ s,(hp.map (·.1)).contains s=true->st.site s=look hp s [])(hr1:hpOk (hp.map (·.1)) hp'=true)(hr2:zg8 (hp.map (·.1)) v=true)
  (hs:HRep K Z st w) (hH:HRep ⟨w,Z.M,ownB Z ⟨[],hp⟩,0⟩ Z' ⟨[],hp'⟩ w') (hx:ARep Z' ⟨[],hp'⟩ v x) (hz:ZLe Z ⟨[],hp⟩ Z' ⟨[],hp'⟩) :
  ∃ Z2,HRep K Z2 ⟨st.sl,hp'++st.hp⟩ w'/\ARep Z2 ⟨st.sl,hp'++st.hp⟩ v x/\ZLe Z st Z2 ⟨st.sl,hp'++st.hp⟩/\Later Z st w Z2 ⟨st.sl,hp'++st.hp⟩ w':=by
 generalize hK:hp.map (·.1)=ks at *
 have s1:∀ s,ks.contains s=true->(⟨st.sl,hp'++st.hp⟩:St).site s=(⟨[],hp'⟩:St).site s:=fun s h=>by simp only[St.site,zyj,hks,h,yl2]
 have s2:∀ s,ks.contains s=false->(⟨st.sl,hp'++st.hp⟩:St).site s=st.site s:=fun s h=>by simp only[St.site,zyj,hks,h,ylz,yl9]
 have s0:∀ s,ks.contains s=true->st.site s=(⟨[],hp⟩:St).site s:=hsite;have e0:∀ s,ks.contains s=false->(⟨[],hp⟩:St).site s=[]:=fun s h=>zhs (by rw[hK];exact h);have e1:∀ s,ks.contains s=false->(⟨[],hp'⟩:St).site s=[]:=fun s h=>zhs (by rw[hks];exact h);have k1:∀ {s g o},(⟨[],hp'⟩:St).obj s g=some o->ks.contains s=true:=fun {s g o} ho=>by
  cases h:ks.contains s with
  | true=>rfl
  | false=>simp[St.obj,e1 s h]at ho
 have o0:∀ {s g o},ks.contains s=true->st.obj s g=some o->(⟨[],hp⟩:St).obj s g=some o:=fun {s g o} h ho=>by rw[zag (s0 s h)]at ho;exact ho
 have own0:∀ b,ownB Z ⟨[],hp⟩ b->∃ s g o,ks.contains s=true/\st.obj s g=some o/\Z.B s g=some b:=fun b ⟨s,g,o,ho,hb⟩=>by
  cases h:ks.contains s with
  | true=>exact⟨s,g,o,rfl.trans h,by rw[zag (s0 s h)];exact ho,hb⟩
  | false=>simp[St.obj,e0 s h]at ho
 let Z2:Cz:=⟨Z'.M,fun s g=>if ks.contains s=true then Z'.B s g else Z.B s g,fun s g=>if ks.contains s=true then Z'.cap s g else Z.cap s g⟩
 have B1:∀ s g,ks.contains s=true->Z2.B s g=Z'.B s g/\Z2.cap s g=Z'.cap s g:=fun s g h=>by simp only[Z2,h,yl2,and_self]
 have B2:∀ s g,ks.contains s=false->Z2.B s g=Z.B s g/\Z2.cap s g=Z.cap s g:=fun s g h=>by simp only[Z2,h,ylz,yl9,and_self]
 have hM:∀ b o,Z.M b=some o->Z'.M b=some o:=hH.m0;have hzl:ZLe Z st Z2 ⟨st.sl,hp'++st.hp⟩:=by
  refine⟨hM,fun s=>?_,fun s g hg hd=>?_,fun s g o ho=>?_⟩<;>cases h:ks.contains s
  ·rw[s2 s h];exact yl8 _
  ·rw[s1 s h,s0 s h];exact hz.len s
  ·rw[zag (s2 s h)];exact hd
  ·rw[zag (s1 s h)];exact hz.dead s g (by rw[<- s0 s h];exact hg) (by rw[<- zag (s0 s h)];exact hd)
  ·exact .inr ⟨o,by rw[zag (s2 s h)];exact ho,rfl,rfl,(B2 s g h).1,(B2 s g h).2⟩
  ·rw[zag (s1 s h),(B1 s g h).1,(B1 s g h).2];exact hz.live s g o (o0 h ho)
 have far:∀ {s g o b},ks.contains s=false->st.obj s g=some o->Z.B s g=some b->¬ ownB Z ⟨[],hp⟩ b/\b<w.heap.size:=fun {s g o b} h ho hb=>by refine⟨fun hx=>?_,hs.lt ho hb⟩;obtain⟨s3,g3,o3,c1,c2,c3⟩:=own0 b hx;obtain⟨rfl,rfl⟩:=hs.inj _ _ _ _ _ _ b ho c2 hb c3;rw[h]at c1;cases c1
 have hh:HRep K Z2 ⟨st.sl,hp'++st.hp⟩ w':=by
  have hk0:=hH.keep;refine⟨fun s g o ho=>?_,fun s g s' g' o o' b a1 a2 b1 b2=>?_,hH.mem,fun s g o b a1 b1=>?_,fun s g o b a1 b1=>?_,fun b o hb=>hM b o (hs.m0 b o hb),fun b o hb=>?_,?_⟩
  ·cases h:ks.contains s with
   | true =>
    rw[zag (s1 s h)]at ho;exact ORep.into (Z:=Z') (Z2:=Z2) s1 (fun _ _ h=>h) B1 h (zr2 hr1 ho) (hH.objs s g o ho)
   | false =>
    rw[zag (s2 s h)]at ho;exact(hs.objs s g o ho).later hzl (B2 s g h).1 (B2 s g h).2 fun b hb=>hk0.blk b (far h ho hb).2 (far h ho hb).1
  ·cases h:ks.contains s<;>cases h':ks.contains s'
   ·rw[zag (s2 _ h)]at a1;rw[zag (s2 _ h')]at a2;rw[(B2 _ _ h).1]at b1;rw[(B2 _ _ h').1]at b2;exact hs.inj _ _ _ _ _ _ b a1 a2 b1 b2
   ·rw[zag (s2 _ h)]at a1;rw[zag (s1 _ h')]at a2;rw[(B2 _ _ h).1]at b1;rw[(B1 _ _ h').1]at b2;have f:=far h a1 b1;rcases hH.own _ _ _ b a2 b2 with c|c
    ·exact absurd c f.1
    ·have c':w.heap.size<=b:=c;omega
   ·rw[zag (s1 _ h)]at a1;rw[zag (s2 _ h')]at a2;rw[(B1 _ _ h).1]at b1;rw[(B2 _ _ h').1]at b2;have f:=far h' a2 b2;rcases hH.own _ _ _ b a1 b1 with c|c
    ·exact absurd c f.1
    ·have c':w.heap.size<=b:=c;omega
   ·rw[zag (s1 _ h)]at a1;rw[zag (s1 _ h')]at a2;rw[(B1 _ _ h).1]at b1;rw[(B1 _ _ h').1]at b2;exact hH.inj _ _ _ _ _ _ b a1 a2 b1 b2
  ·cases h:ks.contains s
   ·rw[zag (s2 _ h)]at a1;rw[(B2 _ _ h).1]at b1;have f:=far h a1 b1;cases hm:Z'.M b with
    | none=>rfl
    | some y =>
     exfalso;rcases hH.prov b y hm with c|c|c
     ·have c':Z.M b=some y:=c;rw[hs.sep _ _ _ b a1 b1]at c';cases c'
     ·exact f.1 c
     ·have c':w.heap.size<=b:=c;omega
   ·rw[zag (s1 _ h)]at a1;rw[(B1 _ _ h).1]at b1;exact hH.sep _ _ _ b a1 b1
  ·have old:∀ b,ownB Z ⟨[],hp⟩ b->K.X0 b\/K.w0.heap.size<=b:=fun b hx=>by obtain⟨s3,g3,o3,_,c2,c3⟩:=own0 b hx;exact hs.own _ _ _ b c2 c3
   cases h:ks.contains s
   ·rw[zag (s2 _ h)]at a1;rw[(B2 _ _ h).1]at b1;exact hs.own _ _ _ b a1 b1
   ·rw[zag (s1 _ h)]at a1;rw[(B1 _ _ h).1]at b1;rcases hH.own _ _ _ b a1 b1 with c|c
    ·exact old b c
    ·exact .inr (ylq hs.keep.size c)
  ·rcases hH.prov b o hb with c|c|c
   ·exact hs.prov b o c
   ·obtain⟨s3,g3,o3,_,c2,c3⟩:=own0 b c;exact .inr (hs.own _ _ _ b c2 c3)
   ·exact .inr (.inr (ylq hs.keep.size c))
  ·have k1:=hs.keep;refine⟨hk0.os.trans k1.os,hk0.tape.trans k1.tape,hk0.output.trans k1.output,ylq k1.drawn hk0.drawn,ylq k1.size hk0.size,fun b hb hx=>?_⟩;rw[hk0.blk b (ylu hb k1.size) (fun h=>?_),k1.blk b hb hx];obtain⟨s3,g3,o3,_,c2,c3⟩:=own0 b h;rcases hs.own _ _ _ b c2 c3 with c|c
   ·exact hx c
   ·omega
 refine⟨Z2,hh,ARep.into (Z:=Z') (Z2:=Z2) s1 (fun _ _ h=>h) B1 hx hr2,hzl,⟨hM,fun r hr=>?_,.of_zle hzl⟩⟩;have hno:¬ ownB Z ⟨[],hp⟩ r:=fun hx=>by obtain⟨s3,g3,o3,_,c2,c3⟩:=own0 r hx;exact hr.o _ _ _ c2 c3
 refine⟨⟨?_,fun s g o a1 b1=>?_,ylu hr.lt hH.keep.size⟩,hH.keep.blk r hr.lt hno⟩
 ·show Z'.M r=none;cases hm:Z'.M r with
  | none=>rfl
  | some y =>
   exfalso;rcases hH.prov r y hm with c|c|c
   ·have c':Z.M r=some y:=c;rw[hr.m]at c';cases c'
   ·exact hno c
   ·have c':w.heap.size<=r:=c;have:=hr.lt;omega
 ·cases h:ks.contains s
  ·rw[zag (s2 _ h)]at a1;rw[(B2 _ _ h).1]at b1;exact hr.o _ _ _ a1 b1
  ·rw[zag (s1 _ h)]at a1;rw[(B1 _ _ h).1]at b1;rcases hH.own _ _ _ r a1 b1 with c|c
   ·exact hno c
   ·have c':w.heap.size<=r:=c;have:=hr.lt;omega
theorem z59{hp:List Site}(hsite:∀ s,(hp.map (·.1)).contains s=true->st.site s=look hp s [])(hr:hpOk (hp.map (·.1)) hp=true)(hs:HRep K Z st w):HRep ⟨w,Z.M,ownB Z ⟨[],hp⟩,0⟩ Z ⟨[],hp⟩ w:=by
 have k0:∀ {s g o},(⟨[],hp⟩:St).obj s g=some o->(hp.map (·.1)).contains s=true:=fun {s g o} ho=>by
  cases h:(hp.map (·.1)).contains s with
  | true=>rfl
  | false=>simp[St.obj,St.site,zhs h]at ho
 have o0:∀ {s g o},(⟨[],hp⟩:St).obj s g=some o->st.obj s g=some o:=fun {s g o} ho=>by rw[zag (st2:=st) (st:=⟨[],hp⟩) (hsite s (k0 ho))];exact ho
 exact⟨fun s g o ho=>ORep.into (st:=st) (st2:=⟨[],hp⟩) (Z2:=Z) (fun s h=>(hsite s h).symm) (fun _ _ h=>h) (fun _ _ _=>⟨rfl,rfl⟩) (k0 ho) (zr2 hr ho) (hs.objs s g o (o0 ho)),fun s g s' g' o o' b a1 a2=>hs.inj s g s' g' o o' b (o0 a1) (o0 a2),hs.mem,fun s g o b a1=>hs.sep s g o b (o0 a1),
  fun s g o b a1 b1=>.inl ⟨s,g,o,a1,b1⟩,fun _ _ h=>h,fun _ _ h=>.inl h,Keep.refl w _⟩
theorem ztt{d:Option Nat}{f:FuncId}{xs:List Opd}{vs:List AV}{hp hp':List Site}(hsp:HSp P f vs hp v hp')(hxs:xs.map st.ev=vs)(hk:zo3 st hp hp)(hks:hp'.map (·.1)=hp.map (·.1))
  (hr:(zbt (hp.map (·.1)) vs&&hpOk (hp.map (·.1)) hp&&zg8 (hp.map (·.1)) v&&hpOk (hp.map (·.1)) hp')=true) (k:PostI ((⟨st.sl,hp'++st.hp⟩:St).put d v) A):MOp P N ⟨d,.call f xs,none⟩ st A PostI:=by
 intro ops j o K Z w a Q Kt hN hj hcc hs hA hK;obtain⟨h1,h2,h3,h4⟩:=zcz hcc;obtain⟨cc,h,hop,hf,hh,hops⟩:=zk5 h1;have hg:o.guard=none:=by
  cases hg:o.guard with
  | none=>rfl
  | some jb =>
   obtain⟨j,b⟩:=jb;rw[hg]at h2;simp only[zde]at h2;split at h2<;>cases h2
 have hw:Region.wanted o (yielded ops a.tmps)=true:=by simp[Region.wanted,hg]
 have hd:d=o.dst:=h3;obtain⟨hfn,hsp⟩:=hsp;have hrr:=ziv hops hs;rw[hxs]at hrr;have hfr:=zap hh hs;simp only[St.ev]at hfr;have hfv:a.eval h=.func (.func f) #[] #[]:=by
  have hp:=hfr.inv_p;generalize a.eval h=F at hp ⊢;cases hp with
  | fn _ _ vals h=>cases h;rfl
 have hrun:(execOp a.eval o).run P w=.ok (.enter f ((cc.args.toList.map a.eval).toArray)) w:=by
  have:=zd9 (P:=P) (w:=w) (args:=(cc.args.toList.map a.eval).toArray) hfn;simp only[execOp,hop,resolve,hf,hfv,Deferred.ofValue,ymd,ymi,ymr,invoke];have e : #[]++cc.args.map a.eval ++ #[]=(cc.args.toList.map a.eval).toArray:=by simp[<- Array.toList_map]
  rw[e];exact this
 simp only[ymf]at hr;obtain⟨⟨⟨r1,r2⟩,r3⟩,r4⟩:=hr;have hsite:∀ s,(hp.map (·.1)).contains s=true->st.site s=look hp s []:=fun s hs=>by obtain⟨q,hq,rfl⟩:=yl6.1 (yol.1 hs);exact zok hk q hq
 refine(show o.wp P a w Kt Q from ?_) |> fun h=>by unfold wpOp;simp only[hj,hw,yl2];exact .inl h
 unfold Oper.wp;rw[hrun,ypm];refine(hsp Z w _ (z59 hsite r2 hs.heap) (AReps.into (st:=st) (st2:=⟨[],hp⟩) (Z2:=Z) (fun s h=>(hsite s h).symm) (fun _ _ h=>h) (fun _ _ _=>⟨rfl,rfl⟩) hrr r1)).mono ?_;rintro e w' ⟨x,Z',rfl,p1,p2,p3⟩;obtain⟨Z2,q1,q2,q3,q4⟩:=z02 hks hsite r4 r3 hs.heap p1 p2 p3;refine hK _ _ Z2 _ _ k ?_ (hA.later (q4.put _ _));rw[hd];exact hs.put rfl q3 q1 q2 (by subst hN;exact h4) hs.defers
def zeg:Nat->List AV->List (Nat × AV)
 | _,[]=>[]
 | i,v::r=>(i,v)::zeg (i+1) r
theorem zp2:∀ (args:List AV) (i t:Nat),look (zeg i args) t AV.undef=if t<i then .undef else(args[t - i]?).getD .undef
 | [],i,t=>by simp[zeg,look]
 | v::r,i,t=>by
  simp only[zeg,look];split
  ·rename_i h;subst h;simp
  ·rename_i h;rw[zp2 r (i+1) t];by_cases h1:t<i
   ·rw[yl0 (by omega),yl0 h1]
   ·rw[yl1 (by omega),yl1 h1];have:t - i=(t - (i+1))+1:=by omega
    rw[this];rfl
def retH(rs:List (Nat × Option Nat))(v:AV)(hp':List Site)(ex:Exit)(s:St):Prop :=
 (ex=.ret\/ex=.normal)/\∃ s1,Weak s s1/\∃ us,zbo s1 rs=some us/\resOf us=v/\zo3 s1 hp' hp'
theorem HSp.of_mr{f:FuncId}{vs:List AV}{hp hp':List Site}{n np:Nat}{b:GC}{rs:List (Nat × Option Nat)}(hc:zad P f=some ⟨n,np,b.er,rs⟩)(hn:vs.length<=n)
  (hpin:hp.all (fun q=>decide (PINB<=q.1)&&decide (q.1<999999))=true) (hks:hp'.map (·.1)=hp.map (·.1)) (hr:(zg8 (hp.map (·.1)) v&&hpOk (hp.map (·.1)) hp')=true)
  (h:∀ A:FA,A.nb=true->MR P n b.er ⟨zeg 0 vs,hp⟩ (some A) fun ex s B=>B=some A/\retH rs v hp' ex s):HSp P f vs hp v hp':=by
 unfold zad at hc;split at hc
 ·rename_i fn hf;split at hc
  ·rename_i hname;split at hc
   ·rename_i c hb;split at hc
    ·rename_i bd rs' h1 h2;simp only[yl3,FnC.mk.injEq]at hc;obtain⟨rfl,_,rfl,rfl⟩:=hc;refine⟨⟨fn,hf,by rw[hb];rfl,hname⟩,fun Z w vals hH hv=>?_⟩;refine calls_of_wp hf hb ?_;have hl:=hv.length;have hsi:∀ s,(⟨zeg 0 vs,hp⟩:St).site s=(⟨[],hp⟩:St).site s:=fun _=>rfl;have h0:StRep ⟨w,Z.M,ownB Z ⟨[],hp⟩,fn.ntmps⟩ Z ⟨zeg 0 vs,hp⟩ w { tmps:=vals.toArray++Array.replicate (fn.ntmps - vals.toArray.size) Go.undef,defers:=[] }:=by
      refine⟨fun t=>?_,rfl,by simp;omega,HRep.of_site ⟨hH.objs,hH.inj,hH.mem,hH.sep,hH.own,hH.m0,hH.prov,hH.keep⟩ hsi⟩;have hget:(⟨zeg 0 vs,hp⟩:St).get t=(vs[t]?).getD .undef:=by have:=zp2 vs 0 t;simpa[St.get]using this
      rw[hget];cases hx:vs[t]? with
      | none=>exact .undef _
      | some u =>
       obtain⟨x,g1,g2⟩:=hv.get t u hx;have hlt:=(List.getElem?_eq_some_iff.1 g1).1;have:(vals.toArray++Array.replicate (fn.ntmps - vals.toArray.size) Go.undef).getD t Go.undef=x:=by simp[Array.getElem?_append,hlt];have:=(List.getElem?_eq_some_iff.1 g1).2;simpa using this
       rw[this];exact ARep.mono (zbk hsi Z) g2
     let A:FA:=⟨0,fun _ _=>True,fun _ _ _ _ h=>h,false,true,PinLe Z ⟨zeg 0 vs,hp⟩,fun _ _ _ _ h k=>k.trans h⟩
     refine h A rfl c h1 _ _ w _ _ rfl h0 (PinLe.refl _ _) (fun ex st' A' Z' w' a' hp1 hs1 hA1=>?_);obtain⟨rfl,hex,s1,hw,us,hus,hv1,hsite1⟩:=hp1;obtain⟨Z1,hs2,hl2⟩:=hw.frame hs1;have hpl:PinLe Z ⟨zeg 0 vs,hp⟩ Z1 s1:=PinLe.trans hA1 hl2.pin;simp only[ymf]at hr;have hsite:∀ s,(hp.map (·.1)).contains s=true->s1.site s=(⟨[],hp'⟩:St).site s:=fun s hs=>by rw[<- hks]at hs;obtain⟨q,hq,rfl⟩:=yl6.1 (yol.1 hs);exact zok hsite1 q hq
     have hpn:∀ s,(hp.map (·.1)).contains s=true->PINB<=s/\s<999999:=fun s hs=>by obtain⟨q,hq,rfl⟩:=List.mem_map.1 (List.contains_iff_mem.1 hs);have:=List.all_eq_true.1 hpin q hq;simpa using this
     have e0:∀ s,(hp.map (·.1)).contains s=false->(⟨[],hp⟩:St).site s=[]:=fun s h=>zhs h;have e1:∀ s,(hp.map (·.1)).contains s=false->(⟨[],hp'⟩:St).site s=[]:=fun s h=>zhs (by rw[hks];exact h);have hz:ZLe Z ⟨[],hp⟩ Z1 ⟨[],hp'⟩:=by
      refine⟨fun b o hb=>hs2.heap.m0 b o hb,fun s=>?_,fun s g hg hd=>?_,fun s g o ho=>?_⟩<;>cases hc:(hp.map (·.1)).contains s
      ·rw[e0 s hc];exact ymb _
      ·rw[<- hsite s hc];exact hpl.len s (hpn s hc).1 (hpn s hc).2
      ·rw[e0 s hc]at hg;simp at hg
      ·rw[zag (hsite s hc).symm];exact hpl.dead s g (hpn s hc).1 (hpn s hc).2 hg hd
      ·simp[St.obj,e0 s hc]at ho
      ·rw[zag (hsite s hc).symm];exact hpl.live s g o (hpn s hc).1 (hpn s hc).2 ho
     have hH2:HRep ⟨w,Z.M,ownB Z ⟨[],hp⟩,0⟩ Z1 ⟨[],hp'⟩ w':=by
      have k0:∀ {s g o},(⟨[],hp'⟩:St).obj s g=some o->(hp.map (·.1)).contains s=true:=fun {s g o} ho=>by
       cases h:(hp.map (·.1)).contains s with
       | true=>rfl
       | false=>simp[St.obj,e1 s h]at ho
      have o0:∀ {s g o},(⟨[],hp'⟩:St).obj s g=some o->s1.obj s g=some o:=fun {s g o} ho=>by rw[zag (hsite s (k0 ho))];exact ho
      have hq:=hs2.heap
      exact⟨fun s g o ho=>ORep.into (st:=s1) (st2:=⟨[],hp'⟩) (Z2:=Z1) (fun s h=>(hsite s h).symm) (fun _ _ h=>h) (fun _ _ _=>⟨rfl,rfl⟩) (k0 ho) (zr2 hr.2 ho) (hq.objs s g o (o0 ho)),fun s g s' g' o o' b a1 a2=>hq.inj s g s' g' o o' b (o0 a1) (o0 a2),hq.mem,fun s g o b a1=>hq.sep s g o b (o0 a1),
       fun s g o b a1 b1=>hq.own s g o b (o0 a1) b1,hq.m0,hq.prov,hq.keep⟩
     have hfin:a'.defers=[]/\∃ u,(results fn a'.tmps).run P w'=.ok u w'/\∃ x Z',Ending.returned u=.returned x/\HRep ⟨w,Z.M,ownB Z ⟨[],hp⟩,0⟩ Z' ⟨[],hp'⟩ w'/\ARep Z' ⟨[],hp'⟩ v x/\ZLe Z ⟨[],hp⟩ Z' ⟨[],hp'⟩:=by obtain⟨xs,g1,g2⟩:=zkl hs2 h2 hus;have g3:=g2.resOf;rw[hv1]at g3;refine⟨hs2.defers,_,?_,_,Z1,rfl,hH2,ARep.into (st:=s1) (st2:=⟨[],hp'⟩) (Z2:=Z1) (fun s h=>(hsite s h).symm) (fun _ _ h=>h) (fun _ _ _=>⟨rfl,rfl⟩) g3 hr.1,hz⟩;unfold results;rw[ypb];simp only[ymd,map_eq_pure_bind,ymi];exact congrArg (fun r=>(Result.andThen r fun a w'=>Result.ok a.toArray w').andThen fun(a:Array Value) w'=>Result.ok (if h:a.size=1 then a[0]else Value.tuple a) w') g1
     rcases hex with rfl|rfl
     ·exact hfin
     ·exact hfin
    ·cases hc
   ·cases hc
  ·cases hc
 ·cases hc
end
abbrev Sg:=Nat->Nat->Nat × Nat
mutual
def sub(σ : Sg):AV->AV
 | .own s g off len=>.own (σ s g).1 (σ s g).2 off len
 | .ptr s g ix off=>.ptr (σ s g).1 (σ s g).2 ix off
 | .agg cs=>.agg (subL σ cs)
 | .fn f cs=>.fn f (subL σ cs)
 | .tup cs=>.tup (subL σ cs)
 | .p v=>.p v
 | .nil=>.nil
 | .cp v vsz off=>.cp v vsz off
 | .skip=>.skip
 | .undef=>.undef
def subL(σ : Sg):List AV->List AV
 | []=>[]
 | v::r=>sub σ v::subL σ r
end
def subO(σ : Sg)(o:AObj):AObj:=⟨o.sz,subL σ o.es⟩
structure SubOk (st st':St) (σ : Sg):Prop where
 live:∀ s g o,st.obj s g=some o -> σ s g=(DEAD,0)\/st'.obj (σ s g).1 (σ s g).2=some (subO σ o)
 deadn:∀ s g,g<(st.site s).length->st.obj s g=none->(σ s g).2<(st'.site (σ s g).1).length/\st'.obj (σ s g).1 (σ s g).2=none
 inj:∀ s g s' g' o o',st.obj s g=some o->st.obj s' g'=some o' -> σ s g = σ s' g' -> σ s g≠(DEAD,0)->s=s'/\g=g'
 all:∀ s' g' o',st'.obj s' g'=some o'->∃ s g o,st.obj s g=some o /\ σ s g=(s',g')/\o'=subO σ o
 dead:0<(st'.site DEAD).length/\st'.obj DEAD 0=none
section
variable {P:Program} {K:Ctx} {Z Z':Cz} {st st':St} {w:World} {a:Act} {σ : Sg}
theorem zbz:∀ (l:List AV),subL σ l=l.map (sub σ)
 | []=>rfl
 | v::r=>by simp[subL,zbz r]
theorem yfd(v:AV):(sub σ v).sz=v.sz:=by cases v<;>simp only[sub]<;>simp[AV.sz,zbz]
theorem z10(v:AV):(sub σ v).one=v.one:=by cases v<;>simp only[sub]<;>simp[AV.one]
theorem z11(v:AV):(sub σ v).cells=v.cells.map (sub σ):=by
 cases v with
 | agg cs=>simp only[sub,AV.cells,zbz]
 | p v=>?_
 | _=>rfl
 cases v<;>first|rfl|skip
 simp only[sub,AV.cells,ynf];apply ymu;intro x _;rfl
theorem zpd(es:List AV):(subL σ es).flatMap AV.cells=(es.flatMap AV.cells).map (sub σ):=by
 induction es with
 | nil=>rfl
 | cons e es ih=>simp only[subL,yly,yn0,ih,z11]
open Classical in
noncomputable def oldN(st:St)(σ : Sg)(s' g':Nat):Nat × Nat:=if h:∃ i:Nat × Nat,(∃ o,st.obj i.1 i.2=some o) /\ σ i.1 i.2=(s',g')then h.choose else(0,0)
theorem znb(h:SubOk st st' σ){s g:Nat}{o:AObj}(ho:st.obj s g=some o)(hn : σ s g≠(DEAD,0)):oldN st σ (σ s g).1 (σ s g).2=(s,g):=by have hx:∃ i:Nat × Nat,(∃ o,st.obj i.1 i.2=some o) /\ σ i.1 i.2=((σ s g).1,(σ s g).2):=⟨(s,g),⟨o,ho⟩,rfl⟩;unfold oldN;rw[dif_pos hx];obtain⟨⟨o',h1⟩,h2⟩:=hx.choose_spec;have h3 : σ hx.choose.1 hx.choose.2 = σ s g:=h2;obtain⟨e1,e2⟩:=h.inj _ _ _ _ _ _ h1 ho h3 (by rw[h3];exact hn);exact Prod.ext e1 e2
noncomputable def Cz.sub(Z:Cz)(st:St)(σ : Sg):Cz where
 M:=Z.M
 B s g:=Z.B (oldN st σ s g).1 (oldN st σ s g).2
 cap s g:=Z.cap (oldN st σ s g).1 (oldN st σ s g).2
mutual
theorem ARep.sub(h:SubOk st st' σ):∀ {v:AV} {x:Value},ARep Z st v x->ARep (Z.sub st σ) st' (Ab.sub σ v) x
 | _,_,.p v x hp=>.p v x hp
 | _,_,.nil=>.nil
 | _,_,.own0 s g o ho hb=>by
  simp only[Ab.sub];by_cases hd : σ s g=(DEAD,0)
  ·rw[hd];exact .ownD _ _ _ _ _ _ h.dead.1 h.dead.2
  ·exact .own0 _ _ _ ((h.live s g o ho).resolve_left hd) (by simp only[Cz.sub,znb h ho hd,hb])
 | _,_,.own s g off len o b ad c ho hb h1 h2 h3 h4=>by
  simp only[Ab.sub];by_cases hd : σ s g=(DEAD,0)
  ·rw[hd];exact .ownD _ _ _ _ _ _ h.dead.1 h.dead.2
  ·exact .own _ _ _ _ _ b ad c ((h.live s g o ho).resolve_left hd) (by simp only[Cz.sub,znb h ho hd,hb]) (by simp only[Cz.sub,znb h ho hd];exact h1) h2 (by simpa[subO,zbz]using h3) h4
 | _,_,.ownD s g off len ad c hg hdd=>by
  simp only[Ab.sub];exact .ownD _ _ _ _ _ _ (h.deadn s g hg hdd).1 (h.deadn s g hg hdd).2
 | _,_,.ptr s g ix off o b ho hb=>by
  simp only[Ab.sub];by_cases hd : σ s g=(DEAD,0)
  ·rw[hd];exact .ptrD _ _ _ _ _ h.dead.1 h.dead.2
  ·exact .ptr _ _ ix off (subO σ o) b ((h.live s g o ho).resolve_left hd) (by simp only[Cz.sub,znb h ho hd,hb])
 | _,_,.ptrD s g ix off ad hg hdd=>by
  simp only[Ab.sub];exact .ptrD _ _ _ _ _ (h.deadn s g hg hdd).1 (h.deadn s g hg hdd).2
 | _,_,.cp v vsz off b o cur T fr vals h0 h1 h2 h3 h4 h5=>.cp v vsz off b o cur T fr vals h0 h1 h2 h3 h4 h5
 | _,_,.agg cs vals h1 h2=>by
  simp only[Ab.sub];exact .agg _ vals (fun c hc=>by rw[zbz]at hc;obtain⟨d,hd,rfl⟩:=yl6.1 hc;rw[z10];exact h1 d hd) (AReps.sub h h2)
 | _,_,.fn f cs vals h1=>by simp only[Ab.sub];exact .fn f _ vals (AReps.sub h h1)
 | _,_,.tup vs vals h1=>by simp only[Ab.sub];exact .tup _ vals (AReps.sub h h1)
 | _,_,.skip=>.skip
 | _,_,.undef x=>.undef x
theorem AReps.sub(h:SubOk st st' σ):∀ {v:List AV} {x:List Value},AReps Z st v x->AReps (Z.sub st σ) st' (subL σ v) x
 | _,_,.nil=>.nil
 | _,_,.cons v x vs xs h1 hs=>.cons _ _ _ _ (ARep.sub h h1) (AReps.sub h hs)
end
theorem HRep.sub(h:HRep K Z st w)(hr:SubOk st st' σ):HRep K (Z.sub st σ) st' w:=by
 have back:∀ {s' g':Nat} {o':AObj},st'.obj s' g'=some o'->∃ s g o,st.obj s g=some o/\o'=subO σ o /\ σ s g=(s',g')/\(Z.sub st σ).B s' g'=Z.B s g/\(Z.sub st σ).cap s' g'=Z.cap s g:=by
  intro s' g' o' ho;obtain⟨s,g,o,h1,h2,rfl⟩:=hr.all s' g' o' ho;have hd : σ s g≠(DEAD,0):=fun e=>by rw[h2]at e;cases e;rw[hr.dead.2]at ho;cases ho
  have:=znb hr h1 hd;rw[h2]at this;exact⟨s,g,o,h1,rfl,h2,by simp only[Cz.sub,this],by simp only[Cz.sub,this]⟩
 refine⟨fun s' g' o' ho=>?_,fun s g s' g' o o' b ho ho' hb hb'=>?_,h.mem,fun s g o b ho hb=>?_,fun s g o b ho hb=>?_,h.m0,h.prov,h.keep⟩
 ·obtain⟨s,g,o0,h1,rfl,_,eB,eC⟩:=back ho;obtain⟨k1,k2,k3,k4,k5⟩:=h.objs s g o0 h1;refine⟨k1,fun e he=>?_,fun c hc=>?_,fun hb=>?_,fun b hb=>?_⟩
  ·simp only[subO,zbz,yl6]at he;obtain⟨e0,he0,rfl⟩:=he;rw[yfd];exact k2 e0 he0
  ·simp only[subO,zpd,yl6]at hc;obtain⟨c0,hc0,rfl⟩:=hc;rw[z10];exact k3 c0 hc0
  ·rw[eB]at hb;simp[subO,k4 hb,subL]
  ·rw[eB]at hb;obtain⟨cur,T,vals,e1,e2,e3,e4,e5,e6⟩:=k5 b hb;refine⟨cur,T,vals,e1,?_,e3,by rw[eC];exact e4,by rw[eC];simpa[subO,zbz]using e5,by rw[eC];exact e6⟩;show AReps _ _ ((subL σ o0.es).flatMap AV.cells) vals;rw[zpd,<- zbz];exact AReps.sub hr e2
 ·obtain⟨t,k,o0,h1,_,q1,eB,_⟩:=back ho;obtain⟨t',k',o0',h1',_,q1',eB',_⟩:=back ho';rw[eB]at hb;rw[eB']at hb';obtain⟨e1,e2⟩:=h.inj _ _ _ _ _ _ b h1 h1' hb hb';subst e1;subst e2;rw[q1]at q1';exact⟨congrArg Prod.fst q1',congrArg Prod.snd q1'⟩
 ·obtain⟨t,k,o0,h1,_,_,eB,_⟩:=back ho;rw[eB]at hb;exact h.sep _ _ _ b h1 hb
 ·obtain⟨t,k,o0,h1,_,_,eB,_⟩:=back ho;rw[eB]at hb;exact h.own _ _ _ b h1 hb
def zrf(hp:List Site):Bool:=hp.all fun q=>decide (q.1<PINB)||decide (999999<=q.1)
theorem zko(h:zrf st.hp=true){s:Nat}(h1:PINB<=s)(h2:s<999999):st.site s=[]:=by
 rcases zjv (d:=([]:List (Option AObj))) (l:=st.hp) (s:=s)with h3|⟨q,hq,rfl,h3⟩
 ·exact h3
 ·have:=ymt.1 h q hq;simp only[ypa,decide_eq_true_eq]at this;omega
theorem Weak.sub(h:SubOk st st' σ)(hp:zrf st.hp=true){keep:List Nat}(hsl:st'.sl=keep.map fun t=>(t,Ab.sub σ (st.get t))):Weak st st':=by
 intro K Z w a hs;refine⟨Z.sub st σ,⟨fun t=>?_,hs.defers,hs.size,hs.heap.sub h⟩,⟨fun s a b=>(by rw[zko hp a b];exact ymb _),fun s g a b hg=>?_,fun s g o a b ho=>?_⟩⟩;rotate_left
 ·rw[zko hp a b]at hg;exact absurd hg (yq8 _)
 ·have:=zcd ho;rw[zko hp a b]at this;exact absurd this (yq8 _)
 have:st'.get t=look (keep.map fun t=>(t,Ab.sub σ (st.get t))) t .undef:=by rw[<- hsl];rfl
 rw[this];rcases zno (fun t=>Ab.sub σ (st.get t)) t keep with h'|h'
 ·rw[h'];exact(hs.slots t).sub h
 ·rw[h'];exact .undef _
def zf5(st:St)(s:Nat):List (Nat × Nat)->Option (Nat × Nat)
 | []=>none
 | (x,k)::r=>if x=s then some (0,k)else(zf5 st s r).map fun q=>((st.site x).length - k+q.1,q.2)
def ziz(st:St)(s:Nat):List (Nat × List (Nat × Nat))->Option (Nat × Nat × Nat)
 | []=>none
 | (s',l)::r=>match zf5 st s l with
  | some q=>some (s',q)
  | none=>ziz st s r
def sgP(st:St)(plan:List (Nat × List (Nat × Nat))):Sg:=fun s g=>match ziz st s plan with
 | some (s',o,k)=>if g<k then(DEAD,0)else(s',o+(g - k))
 | none=>(DEAD,0)
def catS(st:St)(σ : Sg):List (Nat × Nat)->List (Option AObj)
 | []=>[]
 | (x,k)::r=>((st.site x).drop k).map (Option.map (subO σ))++catS st σ r
def hpP(st:St)(σ : Sg):List (Nat × List (Nat × Nat))->List Site
 | []=>[(DEAD,[none])]
 | (s',l)::r=>(s',catS st σ l)::hpP st σ r
def St.plan(st:St)(keep:List Nat)(plan:List (Nat × List (Nat × Nat))):St:=⟨keep.map fun t=>(t,sub (sgP st plan) (st.get t)),hpP st (sgP st plan) plan⟩
def zir(hp:List Site)(plan:List (Nat × List (Nat × Nat))):Bool:=zrf hp&&zg5 (plan.flatMap fun q=>q.2.map (·.1))&&zg5 (DEAD::plan.map (·.1))
theorem zjr{s:Nat}:∀ {l:List (Nat × Nat)} {q:Nat × Nat},zf5 st s l=some q->s∈l.map (·.1)
 | (x,k)::r,q,h=>by
  simp only[zf5]at h;split at h
  ·rename_i e;subst e;simp
  ·obtain⟨o',h1,_⟩:=mapS h;exact ym8 _ (zjr h1)
theorem z57{s g:Nat}:∀ {l:List (Nat × Nat)} {o k:Nat},zf5 st s l=some (o,k)->k<=g->g<(st.site s).length->(catS st σ l)[o+(g - k)]?=some (((st.site s)[g]?.getD none).map (subO σ))
 | (x,k0)::r,o,k,h,hk,hg=>by
  simp only[zf5]at h;simp only[catS];split at h
  ·rename_i e;subst e;cases h;rw[ymm,yo3 (by simp;omega),yme,yoh,show k0+(g - k0)=g by omega,ylt hg];rfl
  ·obtain⟨q,h1,h2⟩:=mapS h;obtain⟨o',k'⟩:=q;simp only[yl5]at h2;obtain⟨rfl,rfl⟩:=h2;rw[yns (by simp;omega),ymx,yoy,show(st.site x).length - k0+o'+(g - k') - ((st.site x).length - k0)=o'+(g - k') by omega];exact z57 h1 hk hg
theorem zy6{g':Nat}{o':AObj}:∀ {l:List (Nat × Nat)},(l.map (·.1)).Nodup->(catS st σ l)[g']?=some (some o')->∃ s g o off k,zf5 st s l=some (off,k)/\k<=g/\off+(g - k)=g'/\st.obj s g=some o/\o'=subO σ o
 | [],_,h=>by simp[catS]at h
 | (x,k)::r,hn,h=>by
  simp only[catS]at h;by_cases hlt:g'<(st.site x).length - k
  ·rw[List.getElem?_append_left (by simpa using hlt),List.getElem?_map,List.getElem?_drop,List.getElem?_eq_getElem (show k+g'<(st.site x).length by omega)]at h;simp only[Option.map_some,Option.some.injEq]at h;obtain⟨o,h1,rfl⟩:=mapS h;exact⟨x,k+g',o,0,k,by simp[zf5],by omega,by omega,by unfold St.obj;rw[List.getElem?_eq_getElem (show k+g'<(st.site x).length by omega),h1];rfl,rfl⟩
  ·rw[List.getElem?_append_right (by simpa using Nat.not_lt.1 hlt),List.length_map,List.length_drop]at h;rw[List.map_cons,List.nodup_cons]at hn;obtain⟨s,g,o,off,k1,h1,h2,h3,h4,h5⟩:=zy6 hn.2 h;have hne:x≠s:=by rintro rfl;exact hn.1 (zjr h1)
   exact⟨s,g,o,(st.site x).length - k+off,k1,by simp only[zf5,yl1 hne,h1];rfl,h2,by omega,h4,h5⟩
theorem z30{s g s2 g2:Nat}:∀ {l:List (Nat × Nat)} {o o2 k k2:Nat},zf5 st s l=some (o,k)->zf5 st s2 l=some (o2,k2)->k<=g->k2<=g2->g<(st.site s).length->g2<(st.site s2).length->o+(g - k)=o2+(g2 - k2)->s=s2/\g=g2
 | (x,k0)::r,o,o2,k,k2,h,h2,hk,hk2,hg,hg2,e=>by
  simp only[zf5]at h h2;split at h
  ·rename_i e1;subst e1;cases h;split at h2
   ·rename_i e2;subst e2;cases h2;exact⟨rfl,by omega⟩
   ·obtain⟨⟨o',k'⟩,h1,h3⟩:=mapS h2;simp only[yl5]at h3;obtain⟨rfl,rfl⟩:=h3;omega
  ·obtain⟨⟨o1,k1⟩,h1,h3⟩:=mapS h;simp only[yl5]at h3;obtain⟨rfl,rfl⟩:=h3;split at h2
   ·rename_i e2;subst e2;cases h2;omega
   ·obtain⟨⟨o',k'⟩,h1',h3'⟩:=mapS h2;simp only[yl5]at h3';obtain⟨rfl,rfl⟩:=h3';exact z30 h1 h1' hk hk2 hg hg2 (by omega)
theorem zhv{s s':Nat}{q:Nat × Nat}:∀ {plan:List (Nat × List (Nat × Nat))},ziz st s plan=some (s',q)->∃ l,(s',l)∈plan/\zf5 st s l=some q
 | (s1,l)::r,h=>by
  simp only[ziz]at h;split at h
  ·rename_i o1 h1;cases h;exact⟨l,by simp,h1⟩
  ·obtain⟨l',h1,h2⟩:=zhv h;exact⟨l',ym8 _ h1,h2⟩
theorem zyy{s s':Nat}{q:Nat × Nat}{l:List (Nat × Nat)}:∀ {plan:List (Nat × List (Nat × Nat))},(plan.flatMap fun q=>q.2.map (·.1)).Nodup->(s',l)∈plan->zf5 st s l=some q->ziz st s plan=some (s',q)
 | (s1,l1)::r,hn,hm,h=>by
  simp only[ziz];rw[yly,yoa]at hn;rcases yl7.1 hm with hm|hm
  ·cases hm;rw[h]
  ·cases h1:zf5 st s l1 with
   | none=>exact zyy hn.2.1 hm h
   | some o1=>exact absurd rfl (hn.2.2 s (zjr h1) s (yn1.2 ⟨_,hm,zjr h⟩))
theorem zjw{s':Nat}{l:List (Nat × Nat)}:∀ {plan:List (Nat × List (Nat × Nat))},(plan.map (·.1)).Nodup->(s',l)∈plan->look (hpP st σ plan) s' []=catS st σ l
 | (s1,l1)::r,hn,hm=>by
  rw[ylx,yn2]at hn;simp only[hpP,look];rcases yl7.1 hm with hm|hm
  ·cases hm;rw[yl0 rfl]
  ·rw[yl1]
   ·exact zjw hn.2 hm
   ·rintro rfl;exact hn.1 (yl6.2 ⟨_,hm,rfl⟩)
theorem zwd{s':Nat}:∀ {plan:List (Nat × List (Nat × Nat))},s'∉plan.map (·.1)->look (hpP st σ plan) s' []=if DEAD=s' then[none]else[]
 | [],_=>by simp[hpP,look]
 | (s1,l1)::r,h=>by simp only[ylx,yl7,not_or]at h;simp only[hpP,look];rw[yl1 (ymc h.1)];exact zwd h.2
theorem z32{s g:Nat}:(st.site s)[g]?.getD none=st.obj s g:=rfl
theorem z33{α β : Type}{l:List (α × β)}(hn:(l.map (·.1)).Nodup){x : α}{y y' : β}(h:(x,y)∈l)(h':(x,y')∈l):y=y':=by
 induction l with
 | nil=>cases h
 | cons q r ih =>
  rw[ylx,yn2]at hn;rcases yl7.1 h with h|h<;>rcases yl7.1 h' with h'|h'
  ·rw[<- h]at h';exact(congrArg Prod.snd h').symm
  ·exact absurd (yl6.2 ⟨_,h',by rw[<- h]⟩) hn.1
  ·exact absurd (yl6.2 ⟨_,h,by rw[<- h']⟩) hn.1
  ·exact ih hn.2 h h'
theorem z3g{keep:List Nat}{plan:List (Nat × List (Nat × Nat))}(h:zir st.hp plan=true):SubOk st (st.plan keep plan) (sgP st plan)/\zrf st.hp=true:=by
 simp only[zir,ymf]at h;obtain⟨⟨h1,h2⟩,h3⟩:=h;have n2:=zgr h2;have n3:=zgr h3;rw[yn2]at n3;have hD:=zwd (st:=st) (σ := sgP st plan) n3.1;rw[yl0 rfl]at hD
 have hdead:0<((st.plan keep plan).site DEAD).length/\(st.plan keep plan).obj DEAD 0=none :=
  ⟨by show 0<(look (hpP st (sgP st plan) plan) DEAD []).length;rw[hD];simp,by show((look (hpP st (sgP st plan) plan) DEAD [])[0]?).getD none=none;rw[hD];rfl⟩
 refine⟨⟨fun s g o ho=>?_,fun s g hg ho=>?_,fun s g s' g' o o' ho ho' he hd=>?_,fun s' g' o' ho'=>?_,hdead⟩,h1⟩
 ·have hg:=zcd ho;unfold sgP;cases hf:ziz st s plan with
  | none=>exact .inl rfl
  | some q =>
   obtain⟨s',off,k⟩:=q;by_cases hk:g<k
   ·left;simp only[hk,yl2]
   obtain⟨l,m1,m2⟩:=zhv hf;right;simp only[hk,yl9];show((look (hpP st (sgP st plan) plan) s' [])[off+(g - k)]?).getD none=_;rw[zjw n3.2 m1,z57 m2 (by omega) hg,z32,ho];rfl
 ·unfold sgP;cases hf:ziz st s plan with
  | none=>exact hdead
  | some q =>
   obtain⟨s',off,k⟩:=q;by_cases hk:g<k
   ·simp only[hk,yl2];exact hdead
   simp only[hk,yl9];obtain⟨l,m1,m2⟩:=zhv hf;have hc:=z57 (σ := sgP st plan) m2 (show k<=g by omega) hg;refine⟨?_,?_⟩
   ·show off+(g - k)<(look (hpP st (sgP st plan) plan) s' []).length;rw[zjw n3.2 m1];exact(ynk.1 hc).1
   ·show((look (hpP st (sgP st plan) plan) s' [])[off+(g - k)]?).getD none=none;rw[zjw n3.2 m1,hc,z32,ho];rfl
 ·have hg:=zcd ho;have hg':=zcd ho';unfold sgP at he hd;cases hf:ziz st s plan with
  | none=>rw[hf]at hd;exact absurd rfl hd
  | some q =>
   obtain⟨s1,off,k⟩:=q;rw[hf]at he hd;by_cases hk:g<k
   ·simp only[hk,yl2]at hd;exact absurd rfl hd
   simp only[hk,yl9]at he hd;obtain⟨l,m1,m2⟩:=zhv hf;cases hf':ziz st s' plan with
   | none=>rw[hf']at he;exact absurd he hd
   | some q' =>
    obtain⟨s2,off',k'⟩:=q';rw[hf']at he;by_cases hk':g'<k'
    ·simp only[hk',yl2]at he;exact absurd he hd
    simp only[hk',yl9]at he;obtain⟨l',m1',m2'⟩:=zhv hf';simp only[yl5]at he;obtain⟨rfl,e⟩:=he;obtain rfl:=z33 n3.2 m1 m1';exact z30 m2 m2' (by omega) (by omega) hg hg' e
 ·have ho2:((look (hpP st (sgP st plan) plan) s' [])[g']?).getD none=some o':=ho';by_cases hm:s'∈plan.map (·.1)
  ·obtain⟨⟨s1,l⟩,hm2,rfl⟩:=yl6.1 hm;rw[zjw n3.2 hm2]at ho2;cases hx:(catS st (sgP st plan) l)[g']? with
   | none=>rw[hx]at ho2;cases ho2
   | some y =>
    rw[hx]at ho2;simp only[yon]at ho2;subst ho2;have nl:(l.map (·.1)).Nodup:=by
     have:List.Sublist (l.map (·.1)) (plan.flatMap fun q=>q.2.map (·.1)):=by obtain⟨a,b,e⟩:=yp9 hm2;rw[e,yo9,yly];exact(List.sublist_append_left (l.map (·.1)) _).trans (List.sublist_append_right _ _)
     exact this.nodup n2
    obtain⟨s,g,o,off,k,k1,k2,k3,k4,k5⟩:=zy6 nl hx;refine⟨s,g,o,k4,?_,k5⟩;unfold sgP;rw[zyy n2 hm2 k1];simp only[show ¬ g<k by omega,yl9,k3]
  ·rw[zwd hm]at ho2;exfalso;split at ho2
   ·cases g'<;>simp at ho2
   ·simp at ho2
theorem Weak.plan(keep:List Nat)(plan:List (Nat × List (Nat × Nat)))(h:zir st.hp plan=true):Weak st (st.plan keep plan):=Weak.sub (z3g h).1 (z3g (keep:=keep) h).2 rfl
end
end Go.Ab
namespace Go.Ab
open Enc (enc)
def tabV(t:GTrans)(wx wy:List Int)(I:Nat):AV:=.agg [.p (.int .i64 t.ring.kind),.p (.sl (ens t.ring.parts)),.p (.int .i64 t.i),.p (.int .i64 t.o),.p (.int .i64 t.st),.p (.sl (ens t.ini)),.p (.sl (ens t.fin)),.p (.sl (ens t.arcs)),.p (.sl (ens wx)),.p (.sl (ens wy)),.own 900001 0 0 I]
def rowV(N b j:Nat):AV:=.own 900003 (b+j) 0 N
def famR(I J N:Nat):List (Option AObj):=(List.range I).map fun i=>some ⟨1,(List.range J).map (rowV N (i*J))⟩
def famC(T:List (List GW)):List (Option AObj):=T.map fun l=>some ⟨8,avs l⟩
def outV(J i:Nat):AV:=.own 900002 i 0 J
def hpT(t:GTrans)(wx wy:List Int)(I J N:Nat)(T:List (List GW)):List Site:=[(900000,[some ⟨11,[tabV t wx wy I]⟩]),(900001,[some ⟨1,(List.range I).map (outV J)⟩]),(900002,famR I J N),(900003,famC T)]
theorem zy0{I J N i:Nat}(h:i<I):(famR I J N)[i]?=some (some ⟨1,(List.range J).map (rowV N (i*J))⟩):=by unfold famR;rw[yme,ync h];rfl
theorem z9j{T:List (List GW)}{p:Nat}(h:p<T.length):(famC T)[p]?=some (some ⟨8,avs (T.getD p [])⟩):=by unfold famC;rw[yme,ylr,ylt h];rfl
theorem z9i{T:List (List GW)}{p:Nat}(l:List GW):(famC T).set p (some ⟨8,avs l⟩)=famC (T.set p l):=by unfold famC;rw[yq9]
theorem zvg(ks:List Nat)(h3:ks.contains 900003=true)(N b:Nat):∀ l:List Nat,zbt ks (l.map (rowV N b))=true
 | []=>rfl
 | x::l=>by simp only[ylx,zbt,rowV,zg8,h3,ypv];exact zvg ks h3 N b l
theorem zvy(ks:List Nat)(h2:ks.contains 900002=true)(J:Nat):∀ l:List Nat,zbt ks (l.map (outV J))=true
 | []=>rfl
 | x::l=>by simp only[ylx,zbt,outV,zg8,h2,ypv];exact zvy ks h2 J l
theorem yar(ks:List Nat):∀ l:List PV,zbt ks (l.map .p)=true
 | []=>rfl
 | x::l=>by simp only[ylx,zbt,zg8,ypv];exact yar ks l
theorem ya5(ks:List Nat){α : Type}[Enc α](l:List α):zbt ks (avs l)=true:=yar ks (ens l)
theorem zp8(t:GTrans)(wx wy:List Int)(I J N:Nat)(T:List (List GW)):hpOk [900000,900001,900002,900003] (hpT t wx wy I J N T)=true:=by
 have a:(famR I J N).all (zrb [900000,900001,900002,900003])=true:=by rw[ymt];intro x hx;obtain⟨i,_,rfl⟩:=yl6.1 hx;exact zvg _ rfl N _ _
 have b:(famC T).all (zrb [900000,900001,900002,900003])=true:=by rw[ymt];intro x hx;obtain⟨l,_,rfl⟩:=yl6.1 hx;exact ya5 _ l
 have c:=zvy [900000,900001,900002,900003] rfl J (List.range I);simp only[hpOk,hpT,yp6,List.all_nil,a,b,Bool.and_true,ypv,zrb,c];rfl
def GMono.mulE(m x:GMono):GMono:=⟨m.e.add x.e,rto (m.coef.v*x.coef.v)⟩
def okE(l:List GMono):List GMono:=l.filter fun m=>m.e.ok
def ze4(p q:List GMono):List GMono:=p.flatMap fun m=>q.map m.mulE
theorem zra(a b:List GMono):okE (a++b)=okE a++okE b:=ynn ..
theorem z3z{l:List GMono}:∀ m∈okE l,m.e.ok=true:=fun m h=>(ynl.1 h).2
theorem yfz(m:GMono)(e:Ex):pc (okE [m]) e=if m.e.ok=true/\m.e=e then m.coef.v else 0:=by unfold okE;cases h:m.e.ok<;>simp[h,pc,ym6]
theorem zvt(m:GMono):∀ (q o:List GMono) (e:Ex),pc (prow m q o) e=pc o e+pc (okE (q.map m.mulE)) e
 | [],o,e=>by simp[prow,okE,pc,ym6]
 | x::q,o,e=>by have h:prow m (x::q) o=prow m q (pput o (m.e.add x.e) (m.coef.v*x.coef.v)):=rfl;rw[h,zvt m q,zvu,ylx,show m.mulE x::q.map m.mulE=[m.mulE x]++q.map m.mulE from rfl,zra,zf3,yfz,ymo];simp only[GMono.mulE,zbf]
theorem zxz:∀ (p q o:List GMono) (e:Ex),pc (p.foldl (fun o m=>prow m q o) o) e=pc o e+pc (okE (ze4 p q)) e
 | [],q,o,e=>by simp[ze4,okE,pc,ym6]
 | m::p,q,o,e=>by rw[yos,zxz p q,zvt,show ze4 (m::p) q=q.map m.mulE++ze4 p q from rfl,zra,zf3,ymo]
theorem z3m(p q:List GMono)(e:Ex):pc (pmul p q) e=pc (okE (ze4 p q)) e:=by have:=zxz p q [] e;simpa[pmul,pc,Rat.zero_add]using this
def pmS(p q:List GMono)(i k:Nat):List GMono:=okE (ze4 (p.take i) q)++okE ((q.take k).map (p.getD i ⟨⟨0,0,0⟩,gr0⟩).mulE)
theorem yfy(p q:List GMono):pmS p q 0 0=[]:=by simp[pmS,ze4,okE]
theorem yjy{p q:List GMono}{i k:Nat}(hi:i<p.length)(hk:k<q.length):pmS p q i (k+1)=pmS p q i k++okE [p[i].mulE q[k]]:=by unfold pmS;rw[yls hk,yn0,zra,ynt,ylr,ylt hi];rfl
theorem zz0(p:List GMono)(m:GMono)(q:List GMono):ze4 (p++[m]) q=ze4 p q++q.map m.mulE:=by simp[ze4]
theorem yfx{p q:List GMono}{i:Nat}(hi:i<p.length):pmS p q i q.length=pmS p q (i+1) 0:=by unfold pmS;rw[yls hi,zz0,zra,ym4,ylr,ylt hi];simp[okE]
theorem z24(p q:List GMono):pmS p q p.length 0=okE (ze4 p q):=by simp[pmS,okE]
theorem yfw{p q:List GMono}{i k:Nat}(hi:i<p.length)(e:Ex):pc (pmS p q i k) e=pc (prow p[i] (q.take k) (pmul (p.take i) q)) e:=by unfold pmS;rw[zf3,zvt,z3m,ylr,ylt hi];rfl
theorem z21{p q:List GMono}{L:List (Ex × GRat)}(h:MInv (okE (ze4 p q)) L):(pmul p q).Perm (nz L):=by
 have hnok:∀ m∈nz L,m.ok=true:=fun m hm=>by obtain⟨h1,h2⟩:=zv1 hm;obtain⟨h3,x,h4,h5⟩:=h.mem h1;simp only at h3 h5;refine GMono.ok_iff.2 ⟨?_,by rw[h3];exact zbc _,h2⟩;rw[<- h5];exact z3z x h4
 let le:GMono->GMono->Bool:=fun a b=>decide (b.e.code<=a.e.code)
 have hperm:((nz L).mergeSort le).Perm (nz L):=List.mergeSort_perm _ _;have hsort:((nz L).mergeSort le).Pairwise fun a b=>le a b=true:=List.pairwise_mergeSort (fun a b c h1 h2=>by simp only[le,decide_eq_true_eq]at *;omega) (fun a b=>by simp only[le,ypa,decide_eq_true_eq];omega) _;have hnd:(((nz L).mergeSort le).map (·.e)).Nodup:=(hperm.map _).nodup_iff.2 (zrc h.nod);have hval:PVal ((nz L).mergeSort le):=by
  refine zak.2 ⟨fun m hm=>hnok m (hperm.mem_iff.1 hm),?_⟩;have h2:((nz L).mergeSort le).Pairwise fun a b=>a.e≠b.e:=List.pairwise_map.1 hnd;refine(hsort.and h2).imp_of_mem fun {a b} ha hb hab=>?_;have oa:=(GMono.ok_iff.1 (hnok a (hperm.mem_iff.1 ha))).1;have ob:=(GMono.ok_iff.1 (hnok b (hperm.mem_iff.1 hb))).1;have h3:b.e.code<=a.e.code:=by simpa[le]using hab.1
  have h4:b.e.code≠a.e.code:=fun he=>hab.2 ((Ex.code_inj ob oa).1 he).symm;omega
 have:pmul p q=(nz L).mergeSort le:=by refine zh9 (zbu p q) hval fun e=>?_;rw[z3m,z3n hperm,ycj e h.nod,h.tot]
 rw[this];exact hperm
theorem zvk{p:List GMono}(h:PVal p):p.Pairwise fun x y=>y.e.cmp x.e<0:=by have hv:=zak.1 h;refine hv.2.imp_of_mem fun {a b} ha hb h=>?_;exact(Ex.cmp_neg (GMono.ok_iff.1 (hv.1 b hb)).1 (GMono.ok_iff.1 (hv.1 a ha)).1).2 h
theorem yat{p q:List GMono}{N i k:Nat}(hi:i<p.length)(hN:psm (prow p[i] (q.take k) (pmul (p.take i) q)) N)(hv:PVal (prow p[i] (q.take k) (pmul (p.take i) q))):∀ x∈zf8 (pmS p q i k) [],x.1.ok=true/\x.2.sm N:=by
 intro x hx;obtain⟨h1,m,h2,h3⟩:=(minv (pmS p q i k)).mem hx;refine⟨?_,?_⟩
 ·rw[<- h3];rcases ylp.1 h2 with h|h
  ·exact z3z m h
  ·exact z3z m h
 ·rw[h1,yfw hi];rcases zjo hv x.1 with h|⟨y,hy,h⟩
  ·rw[h,show rto 0=gr0 from zca];exact zg6 N
  ·rw[h];exact z2h (hN y hy)
def z4k(m:GMono)(L:List (Ex × GRat)):List (Ex × GRat):=if m.e.ok=true then madd m L else L
theorem zzt(m:GMono)(L:List (Ex × GRat))(hb:(0<=m.e.a/\m.e.a<=10)/\(0<=m.e.b/\m.e.b<=10)/\0<=m.e.c/\m.e.c<=10)(hc:m.coef.sm 1048576)(hL:∀ p∈L,p.1.ok=true/\p.2.sm 1048576) :
  SpU P F.bv (mks L) (mvs L) [enc m.e,enc m.coef] (mks (z4k m L)) (mvs (z4k m L)):=by
 unfold z4k;by_cases hm:m.e.ok=true
 ·rw[yl0 hm];exact zsy m L hm hc hL
 ·rw[yl1 hm];refine SpU.of_mr c.bv (by simp) fun r=>?_;show MR P _ _ _ _ (zwy r (mks L) (mvs L));simp only[Ex.ok,decide_eq_true_eq]at hm;unfold g.bv;refine MR.gseq ?_;simp[go_sem];refine MR.gseq ?_;simp[go_sem];refine zaa (zkm m.e ⟨⟨by omega,by omega⟩,⟨by omega,by omega⟩,by omega,by omega⟩) rfl ?_;simp[go_sem];refine MR.gcond (t:=false) (by simp[go_sem];omega) (fun h=>by cases h) (fun _=>MR.gnop ⟨.inl rfl,.inr ⟨rfl,by simp[go_sem]⟩⟩)
theorem z4j(ms:List GMono)(m:GMono):zf8 (ms++okE [m]) []=z4k m (zf8 ms []):=by
 unfold z4k;cases h:m.e.ok
 ·simp[okE,h]
 ·simp[okE,h,zf8]
end Go.Ab
