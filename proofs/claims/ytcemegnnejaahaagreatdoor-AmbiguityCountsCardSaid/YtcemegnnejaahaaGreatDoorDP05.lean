/- Lemmas for the law AmbiguityCounts, part 5. No conditions. -/
import Derived.Test.YtcemegnnejaahaaGreatDoorDP04
import Derived.Scope
set_option maxRecDepth 100000
set_option maxHeartbeats 4000000
set_option linter.all false
namespace Go.Ab
section
variable {P:Program} {K:Ctx} {Z Z':Cz} {st st' st2:St} {w w':World} {a:Act} {orc:Option PCall} {d:Nat} {v:AV}
theorem zbk{s t:St}(h:∀ i,t.site i=s.site i)(Z:Cz):ZLe Z s Z t :=
 ⟨fun _ _ h=>h,fun i=>by rw[h];exact yf8 _,fun i g _ hd=>by rw[zae (h i)];exact hd,fun i g o ho=>.inr ⟨o,by rw[zae (h i)];exact ho,rfl,rfl,rfl,rfl⟩⟩
theorem HRep.of_site(h:HRep K Z st w)(e:∀ i,st2.site i=st.site i):HRep K Z st2 w:=by
 have eo:∀ s g,st2.obj s g=st.obj s g:=fun s g=>zae (e s);refine⟨fun s g o ho=>?_,fun s g s' g' o o' b ho ho'=>?_,h.mem,fun s g o b ho=>?_,fun s g o b ho=>?_,h.m0,h.prov,h.keep⟩
 ·rw[eo]at ho;obtain⟨h1,h2,h3,h4,h5⟩:=h.objs s g o ho;refine⟨h1,h2,h3,h4,fun b hb=>?_⟩;obtain⟨cur,T,vals,k1,k2,k3⟩:=h5 b hb;exact⟨cur,T,vals,k1,AReps.mono (zbk e Z) k2,k3⟩
 ·rw[eo]at ho ho';exact h.inj s g s' g' o o' b ho ho'
 ·rw[eo]at ho;exact h.sep s g o b ho
 ·rw[eo]at ho;exact h.own s g o b ho
theorem StRep.eqv(h:StRep K Z st w a)(e:Eqv st st2):StRep K Z st2 w a :=
 ⟨fun t=>by rw[e.get];exact ARep.mono (zbk e.site Z) (h.slots t),h.defers,h.size,h.heap.of_site e.site⟩
def PIN:Nat:=999998
def PINB:Nat:=900000
structure PinLe (Z:Cz) (st:St) (Z':Cz) (st':St):Prop where
 len:∀ s,PINB<=s->s<999999->(st.site s).length<=(st'.site s).length
 dead:∀ s g,PINB<=s->s<999999->g<(st.site s).length->st.obj s g=none->st'.obj s g=none
 live:∀ s g o,PINB<=s->s<999999->st.obj s g=some o->st'.obj s g=none\/∃ o',st'.obj s g=some o'/\o'.sz=o.sz/\o'.es.length=o.es.length/\Z'.B s g=Z.B s g/\Z'.cap s g=Z.cap s g
theorem PinLe.of_zle{Z':Cz}{st':St}(h:ZLe Z st Z' st'):PinLe Z st Z' st':=⟨fun s _ _=>h.len s,fun s g _ _=>h.dead s g,fun s g o _ _=>h.live s g o⟩
theorem PinLe.refl(Z:Cz)(st:St):PinLe Z st Z st:=.of_zle (ZLe.refl Z st)
theorem PinLe.trans{Z1 Z2 Z3:Cz}{s1 s2 s3:St}(h:PinLe Z1 s1 Z2 s2)(k:PinLe Z2 s2 Z3 s3):PinLe Z1 s1 Z3 s3:=by
 refine⟨fun s a b=>yf7 (h.len s a b) (k.len s a b),fun s g a b hg hd=>k.dead s g a b (yfo hg (h.len s a b)) (h.dead s g a b hg hd),fun s g o a b ho=>?_⟩;rcases h.live s g o a b ho with hd|⟨o',ho',e1,e2,e3,e4⟩
 ·exact .inl (k.dead s g a b (yfo (zby ho) (h.len s a b)) hd)
 ·rcases k.live s g o' a b ho' with hd|⟨o2,ho2,f1,f2,f3,f4⟩
  ·exact .inl hd
  ·exact .inr ⟨o2,ho2,f1.trans e1,f2.trans e2,f3.trans e3,f4.trans e4⟩
def zds(ops:Array Oper):Option (Nat × Bool)->Option (Option (Nat × Bool))
 | none=>some none
 | some (j,b)=>match (ops[j]?).bind (·.dst)with
  | some t=>some (some (t,b))
  | none=>none
def zzq(N:Nat):Option Nat->Bool
 | none=>true
 | some d=>d<N
def zdx(P:Program)(N:Nat)(ops:Array Oper)(o:Oper):Option Ins :=
 match zb2 P o.op,zds ops o.guard with
 | some i,some g=>if zzq N o.dst=true then some ⟨o.dst,i,g⟩else none
 | _,_=>none
def zfv(P:Program)(N:Nat)(ops:Array Oper):List Oper->Option (List Ins)
 | []=>some []
 | o::r=>match zdx P N ops o,zfv P N ops r with
  | some i,some l=>some (i::l)
  | _,_=>none
theorem zdr{N:Nat}{ops:Array Oper}{o:Oper}{x:Ins}(h:zdx P N ops o=some x) :
  zb2 P o.op=some x.op/\zds ops o.guard=some x.guard/\x.dst=o.dst/\zzq N o.dst=true:=by
 unfold zdx at h;split at h
 ·rename_i i g h1 h2;split at h
  ·rename_i h3;cases h;exact⟨h1,h2,rfl,h3⟩
  ·cases h
 ·cases h
theorem StRep.put{dst:Option Nat}{x:Value}{w2:World}(hs:StRep K Z st w a)(hsl:st'.sl=st.sl)(hz:ZLe Z st Z' st')(hh:HRep K Z' st' w2)(hv:ARep Z' st' v x)(hd:zzq K.N dst=true)(hdef:a.defers=[]) :
  StRep K Z' (st'.put dst v) w2 (a.put dst x):=by
 have hmono:∀ {u:AV} {y:Value},ARep Z' st' u y->ARep Z' (st'.put dst v) u y:=fun h=>ARep.mono (zbk (fun i=>za6 _ _ _ i) Z') h;refine⟨fun t=>?_,?_,?_,hh.of_site (fun i=>za6 _ _ _ i)⟩
 ·rw[zdw];cases dst with
  | none=>simp only[reduceCtorEq,yf9,Act.put];rw[zjf hsl];exact hmono (ARep.mono hz (hs.slots t))
  | some d =>
   simp only[zzq,decide_eq_true_eq]at hd;simp only[yf3,Act.put];split
   ·rename_i h;subst h;have:(a.tmps.setIfInBounds d x).getD d Go.undef=x:=by simp[hs.size,hd]
    rw[this];exact hmono hv
   ·rename_i h;have:(a.tmps.setIfInBounds d x).getD t Go.undef=a.tmps.getD t Go.undef:=by simp[Array.getElem?_setIfInBounds_ne h]
    rw[this,zjf hsl];exact hmono (ARep.mono hz (hs.slots t))
 ·cases dst<;>exact hdef
 ·cases dst<;>simp[Act.put,hs.size]
def zjs(P:Program)(orc:Option PCall):Prop:=∀ c,orc=some c->c.ok P
theorem yaq{op:IOp}(he:eff orc st d op=some (v,st')):st'.sl=st.sl:=by obtain⟨st2',h1,h2⟩:=zlu (st2:=st) he (fun _ _=>rfl) (fun _ _=>rfl);exact h2.2.2.2.2.1
theorem zqk{o:Oper}{x:Ins}{Q:Exit->Act->World->Prop}{Kt:Act->World->Prop}(h1:zb2 P o.op=some x.op)(h3:x.dst=o.dst)(h4:zzq K.N o.dst=true)(hs:StRep K Z st w a)(horc:zjs P orc)
  (he:zdz orc st x=some st') (hK:∀ Z' w' a',StRep K Z' st' w' a'->PinLe Z st Z' st'->Kt a' w'):o.wp P a w Kt Q:=by
 unfold zdz at he;split at he
 ·rename_i v s hev;cases he;have hsl:=yaq hev;by_cases hcall:∃ c f,o.op=.call c/\c.callee=.value f
  ·obtain⟨c,f,hop,hf⟩:=hcall;refine z7s h1 hop hf hs hev horc (fun w' Z' y hh hv hz=>?_);rw[h3]at hK;exact hK _ _ _ (hs.put hsl hz hh hv h4 hs.defers) (.of_zle (hz.trans (zbk (fun i=>za6 _ _ _ i) _)))
  ·obtain⟨n,y,w',Z',e1,e2,e3,e4,e5⟩:=yar h1 (fun c f hop hf=>hcall ⟨c,f,hop,hf⟩) hs hev;unfold Oper.wp;rw[e1];rw[h3]at hK;have:=hK _ _ _ (hs.put hsl e5 e3 e4 h4 hs.defers) (.of_zle (e5.trans (zbk (fun i=>za6 _ _ _ i) _)));rcases e2 with rfl|⟨rfl,rfl⟩
   ·exact this
   ·exact this
 ·cases he
theorem zot{ops:Array Oper}{i:Nat}{o:Oper}{x:Ins}{Q:Exit->Act->World->Prop}{Kt:Act->World->Prop}(hi:ops[i]?=some o)(hc:zdx P K.N ops o=some x)(hs:StRep K Z st w a)(horc:zjs P orc)
  (he:exec orc st x=some st') (hK:∀ Z' w' a',StRep K Z' st' w' a'->PinLe Z st Z' st'->Kt a' w'):wpOp P ops Q i Kt a w:=by
 obtain⟨h1,h2,h3,h4⟩:=zdr hc;unfold wpOp;simp only[hi];have skip:st'=st.put x.dst .skip->Kt (a.put o.dst Go.undef) w:=by rintro rfl;rw[h3]at hK;exact hK _ _ _ (hs.put rfl (ZLe.refl Z st) hs.heap .skip h4 hs.defers) (.of_zle (zbk (fun i=>za6 _ _ _ i) _))
 unfold exec at he;cases hg:o.guard with
 | none =>
  rw[hg]at h2;simp only[zds,yf3]at h2;rw[<- h2]at he;have hw:Region.wanted o (yielded ops a.tmps)=true:=by simp[Region.wanted,hg]
  simp only[hw,yf2];exact .inl (zqk h1 h3 h4 hs horc he hK)
 | some jb =>
  obtain⟨j,b⟩:=jb;rw[hg]at h2;simp only[zds]at h2;split at h2
  ·rename_i t ht;simp only[yf3]at h2;rw[<- h2]at he;have hsl:=hs.slots t;simp only at he;split at he
   ·rename_i c hc0;rw[hc0]at hsl;have hb:=hsl.inv_bool;have hy:yielded ops a.tmps j=some c:=by
     have:a.tmps[t]?=some (.bool c):=by
      cases h:a.tmps[t]? with
      | none=>simp[h,Go.undef]at hb
      | some y=>simp[h]at hb;rw[hb]
     simp[yielded,ht,this]
    split at he
    ·rename_i hcb;have hw:Region.wanted o (yielded ops a.tmps)=true:=by simp[Region.wanted,hg,hy,hcb]
     simp only[hw,yf2];exact .inl (zqk h1 h3 h4 hs horc he hK)
    ·rename_i hcb;have hw:Region.wanted o (yielded ops a.tmps)=false:=by simp[Region.wanted,hg,hy,hcb]
     simp only[hw,yfl,yf9];cases he;exact skip rfl
   ·rename_i hc0;rw[hc0]at hsl;have hu:a.tmps.getD t Go.undef=Go.undef:=by generalize a.tmps.getD t Go.undef=y at hsl ⊢;cases hsl;rfl
    have hy:yielded ops a.tmps j=none:=by
     simp only[yielded,ht,Option.bind_some];cases h:a.tmps[t]? with
     | none=>rfl
     | some y=>simp[h]at hu;rw[hu];rfl
    have hw:Region.wanted o (yielded ops a.tmps)=false:=by simp[Region.wanted,hg,hy]
    simp only[hw,yfl,yf9];cases he;exact skip rfl
   ·cases he
  ·cases h2
end
inductive Run (P:Program):List Ins->List FP->St->St->Prop
 | nil (st:St):Run P [] [] st st
 | cons (orc:Option PCall) (i:Ins) (is:List Ins) (f:FP) (fs:List FP) (st s1 st':St):zjs P orc->exec orc st i=some s1->(fp orc st i).Sub f->Run P is fs s1 st'->Run P (i::is) (f::fs) st st'
section
variable {P:Program} {K:Ctx} {Z Z':Cz} {st st' st2:St} {w w':World} {a:Act} {orc:Option PCall} {d:Nat} {v:AV} {ops:Array Oper} {Q:Exit->Act->World->Prop}
theorem Run.items:∀ {is:List Ins} {fs:List FP} {st st':St},Run P is fs st st'->∃ items:List Item,items.map (·.1.2)=is/\items.map (·.2)=fs/\(∀ x∈items,zjs P x.1.1)/\RunL items st st'
 | _,_,_,_,.nil st=>⟨[],rfl,rfl,by simp,.nil st⟩
 | _,_,_,_,.cons orc i is f fs st s1 st' h0 h1 h2 h3=>by obtain⟨items,e1,e2,e3,e4⟩:=Run.items h3;exact⟨((orc,i),f)::items,by simp[e1],by simp[e2],fun x hx=>(yf4.1 hx).elim (fun h=>h ▸ h0) (e3 x),.cons _ _ _ _ _ h1 h2 e4⟩
theorem zo5{it:Nat->Item}:∀ (R:List Nat) {st:St} {Z:Cz} {w:World} {a:Act},(∀ i∈R,∃ o,ops[i]?=some o/\zdx P K.N ops o=some (it i).1.2/\zjs P (it i).1.1)->RunL (R.map it) st st'->StRep K Z st w a ->
  (∀ Z' w' a',StRep K Z' st' w' a'->PinLe Z st Z' st'->Q .normal a' w')->wpOps P ops Q R a w
 | [],st,Z,w,a,_,h,hs,hQ=>by cases h;exact hQ _ _ _ hs (PinLe.refl _ _)
 | i::R,st,Z,w,a,hc,h,hs,hQ=>by
  rw[yfq]at h;cases h with
  | cons _ _ _ s1 _ h1 h2 h3 =>
   obtain⟨o,e1,e2,e3⟩:=hc i (by simp);rw[wpOps_cons];exact zot e1 e2 hs e3 h1 (fun Z' w' a' hs' hp=>zo5 R (fun j hj=>hc j (by simp[hj])) h3 hs' (fun Z2 w2 a2 hs2 hp2=>hQ Z2 w2 a2 hs2 (hp.trans hp2)))
def topo(md:Region.Mode)(ops:Array Oper):List Nat->List Nat->Bool
 | [],seen=>(List.range ops.size).all (seen.contains ·)
 | x::r,seen=>(match ops[x]? with
  | some o=>o.after.toList.all fun e => !Region.binds md e||seen.contains e.on
  | none=>false)&&topo md ops r (x::seen)
theorem zig{md:Region.Mode}{listed:Array Bool}:∀ (L seen:List Nat),listed.size=ops.size->topo md ops L seen=true->(∀ x∈seen,listed.getD x false=true)->(∃ i,i<ops.size/\listed.getD i true=false)->Region.ready md ops listed≠[]
 | [],seen,_,h,hs,⟨i,hi,hl⟩=>by
  simp only[topo,List.all_eq_true,List.mem_range]at h;have h1:=hs i (by simpa using h i hi);rcases Nat.lt_or_ge i listed.size with h'|h'
  ·simp[h']at h1 hl;rw[h1]at hl;cases hl
  ·simp[yik h']at h1
 | x::r,seen,hsz,h,hs,hex=>by
  simp only[topo,yfr]at h;obtain⟨h1,h2⟩:=h;split at h1
  ·rename_i o ho;cases hx:listed.getD x true with
   | false =>
    intro hr;have:x∈Region.ready md ops listed:=mem_ready.2 ⟨hx,o,ho,fun e he hb=>by
     have:=List.all_eq_true.1 h1 e (by simpa using he);simp[hb]at this;exact hs _ this⟩
    rw[hr]at this;cases this
   | true =>
    have hlt:x<listed.size:=by rw[hsz];exact(ygh.1 ho).1
    refine zig r (x::seen) hsz h2 (fun y hy=>?_) hex;rcases yf4.1 hy with rfl|hy
    ·simp[hlt]at hx ⊢;exact hx
    ·exact hs y hy
  ·cases h1
theorem zqy{md:Region.Mode}{e:Edge}(h:Region.binds .any e=true):Region.binds md e=true:=by unfold Region.binds at h ⊢;cases hg:e.ground<;>simp_all
inductive Bef (ops:Array Oper):Nat->Nat->Prop
 | one {x y:Nat} {o:Oper} {e:Edge}:ops[x]?=some o->e∈o.after->e.on=y->Region.binds .any e=true->Bef ops y x
 | more {x y z:Nat} {o:Oper} {e:Edge}:Bef ops y z->ops[x]?=some o->e∈o.after->e.on=z->Region.binds .any e=true->Bef ops y x
theorem zo6{md:Region.Mode}{it:Nat->Item}{pre:Nat->List Nat}(hpre:∀ x o,ops[x]?=some o->∀ y∈pre x,Bef ops y x)
  (hc:∀ i,i<ops.size->∃ o,ops[i]?=some o/\zdx P K.N ops o=some (it i).1.2/\zjs P (it i).1.1) {L:List Nat} (htopo:topo md ops L []=true) :
  ∀ (n:Nat) (R:List Nat) {listed:Array Bool} {st st':St} {Z:Cz} {w:World} {a:Act},R.length=n->R.Nodup->listed.size=ops.size->(∀ y z,listed.getD z false=true->Bef ops y z->listed.getD y false=true)->(∀ i,i∈R ↔ i<ops.size/\listed.getD i true=false) ->
   R.Pairwise (fun y x=>y∈pre x\/zli (it y).2 (it x).2=true)->RunL (R.map it) st st'->StRep K Z st w a ->
   (∀ Z' w' a',StRep K Z' st' w' a'->PinLe Z st Z' st'->Q .normal a' w')->wpAny P md ops Q n listed a w
 | 0,R,listed,st,st',Z,w,a,hn,_,hsz,_,hR,_,hrun,hs,hQ=>by
  have:R=[]:=yjf.1 hn;subst this;refine⟨?_,?_⟩
  ·apply ykg.2;intro i hi;obtain⟨h1,o,h2,_⟩:=mem_ready.1 hi;have:=(hR i).2 ⟨(ygh.1 h2).1,h1⟩;cases this
  ·cases hrun;exact hQ _ _ _ hs (PinLe.refl _ _)
 | n+1,R,listed,st,st',Z,w,a,hn,hnd,hsz,hcl,hR,hpw,hrun,hs,hQ=>by
  refine⟨fun hr=>?_,fun i hi=>?_⟩
  ·exact absurd hr (zig L [] hsz htopo (by simp) (by
    obtain⟨i,hi⟩:∃ i,i∈R:=by
     cases R with
     | nil=>simp at hn
     | cons i r=>exact⟨i,by simp⟩
    exact⟨i,(hR i).1 hi⟩))
  ·obtain⟨h1,o,h2,h3⟩:=mem_ready.1 hi;have hiR:=(hR i).2 ⟨(ygh.1 h2).1,h1⟩;obtain⟨ys,xs,rfl⟩:=yju hiR;have gd:∀ e∈o.after,Region.binds .any e=true->listed.getD e.on false=true:=by
    intro e he hb;have h4:=h3 e he (zqy hb);rcases yg1 e.on listed.size with h'|h'
    ·simp[h']at h4 ⊢;exact h4
    ·simp[yik h']at h4
   have hbef:∀ y,Bef ops y i->listed.getD y false=true:=by
    intro y hy;cases hy with
    | one k1 k2 k3 k4=>rw[h2]at k1;cases k1;rw[<- k3];exact gd _ k2 k4
    | more k0 k1 k2 k3 k4=>rw[h2]at k1;cases k1;exact hcl _ _ (by rw[<- k3];exact gd _ k2 k4) k0
   have hind:∀ y∈ys,zli (it y).2 (it i).2=true:=by
    intro y hy;have:=(ygz.1 hpw).2.2 y hy i (by simp);rcases this with h|h
    ·have h4:=hbef y (hpre i o h2 y h);have h5:=((hR y).1 (by simp[hy])).2;rcases yg1 y listed.size with h'|h'
     ·simp[h']at h4 h5;rw[h4]at h5;cases h5
     ·simp[yik h']at h4
    ·exact h
   rw[ygx,yfq]at hrun;obtain⟨st1,hrun1,heqv⟩:=RunL.front hrun (fun y hy=>by obtain⟨z,hz,rfl⟩:=yf6.1 hy;exact hind z hz);cases hrun1 with
   | cons _ _ _ s1 _ k1 k2 k3 =>
    obtain⟨o',e1,e2,e3⟩:=hc i (Array.getElem?_eq_some_iff.1 h2).1;refine zot e1 e2 hs e3 k1 (fun Z' w' a' hs' hp=>?_);have hnd':=List.nodup_append.1 hnd;have hndx:i∉ys:=fun h=>hnd'.2.2 i h i (by simp) rfl;have hndy:i∉xs:=(List.nodup_cons.1 hnd'.2.1).1;rw[<- List.map_append]at k3;refine zo6 hpre hc htopo n (ys++xs) (by simp at hn ⊢;omega) ?_ (by simpa using hsz) ?_ ?_ ?_ k3 hs' ?_
    ·refine yjg.2 ⟨hnd'.1,(ygn.1 hnd'.2.1).2,fun y hy z hz=>hnd'.2.2 y hy z (by simp[hz])⟩
    ·intro y z hz hyz;by_cases hyi:y=i
     ·subst hyi;have hlt:y<listed.size:=by rw[hsz];exact(ygh.1 h2).1
      simp[hlt]
     ·rw[getD_set_ne false (ygr hyi)];by_cases hzi:z=i
      ·subst hzi;exact hbef y hyz
      ·rw[getD_set_ne false (ygr hzi)]at hz;exact hcl y z hz hyz
    ·intro j;by_cases hji:j=i
     ·subst hji;have hlt:j<listed.size:=by rw[hsz];exact(ygh.1 h2).1
      simp[hndx,hndy,hlt]
     ·rw[getD_set_ne true (ygr hji),<- hR j];simp[hji]
    ·refine yjv ?_ hpw;exact List.Sublist.append_left (List.sublist_cons_self _ _) _
    ·intro Z2 w' a' hs' hp2;refine hQ _ _ _ (hs'.eqv (Eqv.symm heqv)) ((hp.trans hp2).trans (.of_zle (zbk (Eqv.symm heqv).site _)))
end
def pres(ops:List Oper):List (List Nat):=ops.map fun o=>(o.after.toList.filter (Region.binds .any)).map (·.on)
def zqm:List Nat->List Nat
 | []=>[]
 | x::l=>if (zqm l).contains x then zqm l else x::zqm l
def clos:List (List Nat)->List (List Nat)->List (List Nat)
 | acc,[]=>acc
 | acc,p::ps=>clos (acc++[zqm (p++p.flatMap fun y=>acc.getD y [])]) ps
def z5a(ops:Array Oper):Bool :=
 topo .any ops (List.range ops.size) []&&(!Region.departs ops||(topo .text ops (List.range ops.size) []&&topo .gc ops (Region.linearise .gc ops 0) []))
def comp(P:Program)(N:Nat):Code->Option AC
 | .skip=>some .nop
 | .region _ ops draw=>if draw=true then(if z5a ops=true then(zfv P N ops ops.toList).map fun l=>.regD l (clos [] (pres ops.toList))else none)else(zfv P N ops ops.toList).map .reg
 | .seq a b=>match comp P N a,comp P N b with
  | some x,some y=>some (.seq x y)
  | _,_=>none
 | .cond c a b=>match zag c,comp P N a,comp P N b with
  | some c,some x,some y=>some (.cond c x y)
  | _,_,_=>none
 | .block id b=>(comp P N b).map (.blk id)
 | .loop b=>(comp P N b).map .loop
 | .exit id=>some (.ext id)
 | .ret=>some .ret
 | .label _=>some .nop
 | .scope b=>(comp P N b).map .scp
 | _=>none
def chk:List (Nat × FP)->Nat->List FP->List (List Nat)->Bool
 | _,_,[],_=>true
 | done,n,f::fs,pr::prs=>(done.all fun(y,g)=>pr.contains y||zli g f)&&chk ((n,f)::done) (n+1) fs prs
 | _,_,_::_,[]=>false
section
variable {P:Program} {K:Ctx} {Z Z':Cz} {st st' st1 st2:St} {w w':World} {a:Act} {orc:Option PCall} {d N:Nat} {v:AV} {ops:Array Oper} {Q:Exit->Act->World->Prop}
theorem zoz:∀ {done:List (Nat × FP)} {n:Nat} {fs:List FP} {prs:List (List Nat)},chk done n fs prs=true->∀ (x:Nat) (f:FP),fs[x]?=some f ->
  (∀ y g,(y,g)∈done->y∈prs.getD x []\/zli g f=true)/\∀ y g,fs[y]?=some g->y<x->n+y∈prs.getD x []\/zli g f=true
 | _,_,[],_,_,x,f,hf=>by simp at hf
 | done,n,f0::fs,[],h,x,f,hf=>by simp[chk]at h
 | done,n,f0::fs,pr::prs,h,x,f,hf=>by
  simp only[chk,yfr,yfp]at h;obtain⟨h1,h2⟩:=h;cases x with
  | zero =>
   simp only[List.getElem?_cons_zero,Option.some.injEq]at hf;subst hf;refine⟨fun y g hy=>?_,fun y g _ hy=>by omega⟩;have:=h1 (y,g) hy;simpa using this
  | succ x =>
   obtain⟨i1,i2⟩:=zoz h2 x f (by simpa using hf);refine⟨fun y g hy=>?_,fun y g hg hy=>?_⟩
   ·simpa using i1 y g (by simp[hy])
   ·cases y with
    | zero =>
     simp only[List.getElem?_cons_zero,Option.some.injEq]at hg;subst hg;simpa using i1 n f0 (by simp)
    | succ y =>
     have:=i2 y g (by simpa using hg) (by omega);simpa[Nat.add_assoc,Nat.add_comm 1]using this
theorem zbw:∀ {l:List Oper} {is:List Ins},zfv P N ops l=some is->is.length=l.length/\∀ (i:Nat) (o:Oper),l[i]?=some o->∃ x,zdx P N ops o=some x/\is[i]?=some x
 | [],is,h=>by simp[zfv]at h;subst h;simp
 | o::l,is,h=>by
  simp only[zfv]at h;split at h
  ·rename_i x xs h1 h2;cases h;obtain⟨i1,i2⟩:=zbw h2;refine⟨by simp[i1],fun i o' hi=>?_⟩;cases i with
   | zero=>simp at hi;subst hi;exact⟨x,h1,rfl⟩
   | succ i=>simpa using i2 i o' (by simpa using hi)
  ·cases h
def Runs(P:Program)(N:Nat)(ac:AC)(st:St)(ex:Exit)(st':St):Prop :=
 ∀ code,comp P N code=some ac->∀ (K:Ctx) (Z:Cz) (w:World) (a:Act) (Q:Exit->Act->World->Prop),K.N=N->StRep K Z st w a->(∀ Z' w' a',StRep K Z' st' w' a'->PinLe Z st Z' st'->Q ex a' w')->code.wp P Q a w
def Weak(st st':St):Prop:=∀ (K:Ctx) (Z:Cz) (w:World) (a:Act),StRep K Z st w a->∃ Z',StRep K Z' st' w a/\PinLe Z st Z' st'
theorem Weak.refl(st:St):Weak st st:=fun _ Z _ _ h=>⟨Z,h,PinLe.refl _ _⟩
theorem Weak.trans(h:Weak st st1)(k:Weak st1 st2):Weak st st2:=fun K Z w a hs=>let ⟨Z',h',p⟩:=h K Z w a hs;let ⟨Z2,h2,p2⟩:=k K Z' w a h';⟨Z2,h2,p.trans p2⟩
def zbq:Item:=((none,⟨none,.bad,none⟩),⟨[],[],[],[]⟩)
theorem zoh{is:List Ins}{items:List Item}(e1:items.map (·.1.2)=is)(e3:∀ x∈items,zjs P x.1.1)(hc:zfv P N ops ops.toList=some is) :
  ∀ i,i<ops.size->∃ o,ops[i]?=some o/\zdx P N ops o=some (items.getD i zbq).1.2/\zjs P (items.getD i zbq).1.1:=by
 intro i hi;obtain⟨hl,h1⟩:=zbw hc;have ho:ops[i]?=some ops[i]:=Array.getElem?_eq_getElem hi;obtain⟨x,hx,hix⟩:=h1 i ops[i] (by simp[hi]);have hlen:items.length=is.length:=by rw[<- e1];simp
 have hit:i<items.length:=by rw[hlen,hl];simpa using hi
 refine⟨ops[i],ho,?_,?_⟩
 ·rw[<- e1]at hix;simp[hit]at hix;rw[hx,<- hix];simp[hit]
 ·have:items.getD i zbq=items[i]:=by simp[hit]
  rw[this];exact e3 _ (yfi hit)
theorem zeu{α : Type}(l:List α)(d : α)(n:Nat)(h:l.length=n):(List.range n).map (fun i=>l.getD i d)=l:=by
 apply yj9;intro i;by_cases hi:i<n
 ·have:i<l.length:=by omega
  simp[hi,this]
 ·have:l.length<=i:=by omega
  simp[hi,this]
theorem Runs.reg{is:List Ins}{fs:List FP}(h:Run P is fs st st'):Runs P N (.reg is) st .normal st':=by
 intro code hc K Z w a Q hN hs hQ;cases code<;>simp only[comp]at hc
 case region id ops draw =>
  split at hc
  ·split at hc
   ·obtain⟨l,_,h2⟩:=mapS hc;cases h2
   ·cases hc
  ·rename_i hd;obtain⟨l,h1,h2⟩:=mapS hc;cases h2;have:draw=false:=by simpa using hd
   subst this;refine wp_region ?_;subst hN;obtain⟨items,e1,e2,e3,e4⟩:=h.items;have hl:=(zbw h1).1;have hlen:items.length=ops.size:=by rw[<- Array.length_toList,<- hl,<- e1];simp
   have hrun:RunL ((List.range ops.size).map fun i=>items.getD i zbq) st st':=by rw[zeu _ _ _ hlen];exact e4
   exact zo5 _ (fun i hi=>zoh e1 e3 h1 i (ygy.1 hi)) hrun hs hQ
 all_goals (first|cases hc|(split at hc<;>cases hc)|(obtain⟨_,_,h2⟩:=mapS hc;cases h2))
theorem zya{l:List Nat}{x:Nat}(h:x∈zqm l):x∈l:=by
 induction l with
 | nil=>exact h
 | cons y l ih =>
  simp only[zqm]at h;split at h
  ·exact ygk _ (ih h)
  ·rcases yf4.1 h with rfl|h
   ·simp
   ·exact ygk _ (ih h)
theorem zqs{ops:Array Oper}:∀ {ps acc:List (List Nat)},(∀ x y,y∈acc.getD x []->Bef ops y x) ->
  (∀ i p,ps[i]?=some p->∀ z∈p,∃ o e,ops[acc.length+i]?=some o/\e∈o.after/\e.on=z/\Region.binds .any e=true)->∀ x y,y∈(clos acc ps).getD x []->Bef ops y x
 | [],acc,h,_,x,y,hy=>h x y hy
 | p::ps,acc,h,h2,x,y,hy=>by
  refine zqs (acc:=acc++[zqm (p++p.flatMap fun y=>acc.getD y [])]) ?_ ?_ x y hy
  ·intro x y hy;rcases Nat.lt_trichotomy x acc.length with hx|hx|hx
   ·rw[yfj,yid hx,<- List.getD_eq_getElem?_getD]at hy;exact h x y hy
   ·subst hx;simp only[yfj,yhg (yf8 _),yil,List.getElem?_cons_zero,yhn]at hy;rcases yfk.1 (zya hy)with hy|hy
    ·obtain⟨o,e,k1,k2,k3,k4⟩:=h2 0 p rfl y hy;exact .one k1 k2 k3 k4
    ·obtain⟨z,hz,hy⟩:=yg3.1 hy;obtain⟨o,e,k1,k2,k3,k4⟩:=h2 0 p rfl z hz;exact .more (h z y (by rw[yfj];exact hy)) k1 k2 k3 k4
   ·have:(acc++[zqm (p++p.flatMap fun y=>acc.getD y [])])[x]?=none:=yi3 (by simp;omega);rw[yfj,this]at hy;simp at hy
  ·intro i q hq z hz;have:=h2 (i+1) q hq z hz;simpa[Nat.add_assoc,Nat.add_comm 1 i]using this
theorem zlx(ops:Array Oper)(x y:Nat)(h:y∈(clos [] (pres ops.toList)).getD x []):Bef ops y x:=by
 refine zqs (ops:=ops) (by simp) ?_ x y h;intro i p hp z hz;simp only[pres,yim,Array.getElem?_toList]at hp;cases ho:ops[i]? with
 | none=>rw[ho]at hp;cases hp
 | some o =>
  rw[ho]at hp;simp only[Option.map_some,Option.some.injEq]at hp;subst hp;obtain⟨e,he,hey⟩:=List.mem_map.1 hz;have:=List.mem_filter.1 he;exact⟨o,e,by simpa using ho,by simpa using this.1,hey,this.2⟩
theorem Runs.regD{is:List Ins}{fs:List FP}{pre:List (List Nat)}(h:Run P is fs st st')(hp:chk [] 0 fs pre=true):Runs P N (.regD is pre) st .normal st':=by
 intro code hc K Z w a Q hN hs hQ;cases code<;>simp only[comp]at hc
 case region id ops draw =>
  split at hc
  ·rename_i hd;subst hd;split at hc
   ·rename_i ht;obtain⟨l,h1,h2⟩:=mapS hc;cases h2;subst hN;obtain⟨items,e1,e2,e3,e4⟩:=h.items;have hl:=(zbw h1).1;have hlen:items.length=ops.size:=by rw[<- Array.length_toList,<- hl,<- e1];simp
    have hrun:RunL ((List.range ops.size).map fun i=>items.getD i zbq) st st':=by rw[zeu _ _ _ hlen];exact e4
    have hany:∀ (md:Region.Mode) (L:List Nat),topo md ops L []=true->wpAny P md ops Q ops.size (Array.replicate ops.size false) a { w with drawn:=w.drawn+1 }:=by
     intro md L hL;refine zo6 (pre:=fun i=>(clos [] (pres ops.toList)).getD i []) (it:=fun i=>items.getD i zbq) ?_ (zoh e1 e3 h1) hL ops.size (List.range ops.size) (by simp) List.nodup_range (by simp) (fun y z hz _=>by simp[yjh,yjw]at hz;split at hz<;>simp at hz) (fun i=>by simp;intro hi;simp[hi]) ?_ hrun (Z:=Z) ⟨hs.slots,hs.defers,hs.size,hs.heap.drew⟩ hQ
     ·intro x o ho y hy;exact zlx ops x y hy
     ·refine List.Pairwise.imp_of_mem ?_ List.pairwise_lt_range;intro y x hy hx hyx;have hx:=ygy.1 hx;have hy:=ygy.1 hy;have hfx:fs[x]?=some (items.getD x zbq).2:=by rw[<- e2];simp[hlen,hx]
      have hfy:fs[y]?=some (items.getD y zbq).2:=by rw[<- e2];simp[hlen,hy]
      simpa using (zoz hp x _ hfx).2 y _ hfy hyx
    simp only[z5a,yfr,yij,yjx]at ht;obtain⟨t1,t2⟩:=ht;refine wp_region_draw fun t=>?_;unfold Region.schedule;split
    ·exact wpAny_sound ops.size t _ a _ (hany .any _ t1)
    ·rename_i hm;rcases t2 with t2|⟨t2,t3⟩
     ·simp[t2]at hm
     ·split
      ·exact wpAny_sound ops.size _ _ a _ (hany .text _ t2)
      ·exact wpAny_sound ops.size _ _ a _ (hany .gc _ t3)
   ·cases hc
  ·obtain⟨l,_,h2⟩:=mapS hc;cases h2
 all_goals (first|cases hc|(split at hc<;>cases hc)|(obtain⟨_,_,h2⟩:=mapS hc;cases h2))
end
inductive Loops (P:Program) (N:Nat) (body:AC):St->Exit->St->Prop
 | out (st:St) (ex:Exit) (st':St):Runs P N body st ex st'->ex ≠ .normal->Loops P N body st ex st'
 | next (st st1:St) (ex:Exit) (st':St):Runs P N body st .normal st1->Loops P N body st1 ex st'->Loops P N body st ex st'
section
variable {P:Program} {K:Ctx} {Z Z':Cz} {st st' st1 st2:St} {w w':World} {a:Act} {N:Nat} {x y:AC} {ex:Exit}
theorem Runs.nop:Runs P N .nop st .normal st:=by
 intro code hc K Z w a Q hN hs hQ;cases code<;>simp only[comp]at hc
 case skip=>exact wp_skip (hQ _ _ _ hs (PinLe.refl _ _))
 case label=>exact wp_label (hQ _ _ _ hs (PinLe.refl _ _))
 all_goals (repeat' split at hc)<;>first|cases hc|(obtain⟨_,_,h2⟩:=mapS hc;cases h2)
theorem Runs.ret:Runs P N .ret st .ret st:=by
 intro code hc K Z w a Q hN hs hQ;cases code<;>simp only[comp]at hc
 case ret=>exact wp_ret (hQ _ _ _ hs (PinLe.refl _ _))
 all_goals (repeat' split at hc)<;>first|cases hc|(obtain⟨_,_,h2⟩:=mapS hc;cases h2)
theorem Runs.ext{id:Nat}:Runs P N (.ext id) st (.exit id) st:=by
 intro code hc K Z w a Q hN hs hQ;cases code<;>simp only[comp]at hc
 case exit=>cases hc;exact wp_exit (hQ _ _ _ hs (PinLe.refl _ _))
 all_goals (repeat' split at hc)<;>first|cases hc|(obtain⟨_,_,h2⟩:=mapS hc;cases h2)
theorem zra{code:Code}(hc:comp P N code=some (.seq x y)):∃ a b,code=.seq a b/\comp P N a=some x/\comp P N b=some y:=by
 cases code<;>simp only[comp]at hc
 case seq a b =>
  split at hc
  ·rename_i h1 h2;cases hc;exact⟨a,b,rfl,h1,h2⟩
  ·cases hc
 all_goals (repeat' split at hc)<;>first|cases hc|(obtain⟨_,_,h2⟩:=mapS hc;cases h2)
theorem Runs.seq(h:Runs P N x st .normal st1)(k:Runs P N y st1 ex st'):Runs P N (.seq x y) st ex st':=by intro code hc K Z w a Q hN hs hQ;obtain⟨c1,c2,rfl,h1,h2⟩:=zra hc;exact wp_seq (h c1 h1 K Z w a _ hN hs fun Z' w' a' hs' hp=>k c2 h2 K Z' w' a' Q hN hs' (fun Z2 w2 a2 hs2 hp2=>hQ Z2 w2 a2 hs2 (hp.trans hp2)))
theorem Runs.seqX(h:Runs P N x st ex st')(he:ex ≠ .normal):Runs P N (.seq x y) st ex st':=by intro code hc K Z w a Q hN hs hQ;obtain⟨c1,c2,rfl,h1,h2⟩:=zra hc;refine wp_seq (h c1 h1 K Z w a _ hN hs fun Z' w' a' hs' hp=>?_);cases ex<;>first|exact absurd rfl he|exact hQ _ _ _ hs' hp
theorem zui{code:Code}{c:Opd}(hc:comp P N code=some (.cond c x y)):∃ o a b,code=.cond o a b/\zag o=some c/\comp P N a=some x/\comp P N b=some y:=by
 cases code<;>simp only[comp]at hc
 case cond o a b =>
  split at hc
  ·rename_i h1 h2 h3;cases hc;exact⟨o,a,b,rfl,h1,h2,h3⟩
  ·cases hc
 all_goals (repeat' split at hc)<;>first|cases hc|(obtain⟨_,_,h2⟩:=mapS hc;cases h2)
theorem Runs.cond{c:Opd}{t:Bool}(hv:st.ev c=.p (.bool t))(h:Runs P N (if t then x else y) st ex st'):Runs P N (.cond c x y) st ex st':=by
 intro code hc K Z w a Q hN hs hQ;obtain⟨o,c1,c2,rfl,h0,h1,h2⟩:=zui hc;have hr:=zaq h0 hs;rw[hv]at hr;refine wp_cond hr.inv_bool ?_;cases t with
 | true=>exact h c1 h1 K Z w a Q hN hs hQ
 | false=>exact h c2 h2 K Z w a Q hN hs hQ
theorem Runs.condT{c:Opd}(hv:st.ev c=.p (.bool true))(h:Runs P N x st ex st'):Runs P N (.cond c x y) st ex st':=.cond hv (t:=true) h
theorem Runs.condF{c:Opd}(hv:st.ev c=.p (.bool false))(h:Runs P N y st ex st'):Runs P N (.cond c x y) st ex st':=.cond hv (t:=false) h
theorem zo4{code:Code}{id:Nat}(hc:comp P N code=some (.blk id x)):∃ b,code=.block id b/\comp P N b=some x:=by
 cases code<;>simp only[comp]at hc
 case block id b=>obtain⟨z,h1,h2⟩:=mapS hc;cases h2;exact⟨b,rfl,h1⟩
 all_goals (repeat' split at hc)<;>first|cases hc|(obtain⟨_,_,h2⟩:=mapS hc;cases h2)
theorem Runs.blk{id:Nat}(h:Runs P N x st ex st')(he:∀ j,ex ≠ .exit j):Runs P N (.blk id x) st ex st':=by intro code hc K Z w a Q hN hs hQ;obtain⟨b,rfl,h1⟩:=zo4 hc;refine wp_block (h b h1 K Z w a _ hN hs fun Z' w' a' hs' hp=>?_);cases ex<;>first|exact absurd rfl (he _)|exact hQ _ _ _ hs' hp
theorem Runs.blkE{id:Nat}(h:Runs P N x st (.exit id) st'):Runs P N (.blk id x) st .normal st':=by intro code hc K Z w a Q hN hs hQ;obtain⟨b,rfl,h1⟩:=zo4 hc;refine wp_block (h b h1 K Z w a _ hN hs fun Z' w' a' hs' hp=>?_);simp only[Exit.inBlock,yf2];exact hQ _ _ _ hs' hp
theorem Runs.blkX{id j:Nat}(h:Runs P N x st (.exit j) st')(hj:j≠id):Runs P N (.blk id x) st (.exit j) st':=by intro code hc K Z w a Q hN hs hQ;obtain⟨b,rfl,h1⟩:=zo4 hc;refine wp_block (h b h1 K Z w a _ hN hs fun Z' w' a' hs' hp=>?_);simp only[Exit.inBlock,hj,yf9];exact hQ _ _ _ hs' hp
theorem ztp{code:Code}(hc:comp P N code=some (.loop x)):∃ b,code=.loop b/\comp P N b=some x:=by
 cases code<;>simp only[comp]at hc
 case loop b=>obtain⟨z,h1,h2⟩:=mapS hc;cases h2;exact⟨b,rfl,h1⟩
 all_goals (repeat' split at hc)<;>first|cases hc|(obtain⟨_,_,h2⟩:=mapS hc;cases h2)
theorem Loops.key{c:Code}(hc:comp P N c=some x)(hN:K.N=N):∀ {st:St} {ex:Exit} {st':St},Loops P N x st ex st'->∀ {Z:Cz} {w:World} {a:Act} {Q:Exit->Act->World->Prop},StRep K Z st w a->(∀ Z' w' a',StRep K Z' st' w' a'->PinLe Z st Z' st'->Q ex a' w') ->
  ∀ (b:Frame) (k:List Go.Item) (cs:List Frame),∃ e a' w',Q e a' w'/\Arrives P (lone (b.at a (.code c::.inLoop c::k)) cs w) b k cs e a' w':=by
 intro st ex st' h
 induction h with
 | out st ex st' h he =>
  intro Z w a Q hs hQ b k cs;obtain⟨e,a1,w1,⟨rfl,hq⟩,harr⟩:=h c hc K Z w a (fun e a' w'=>e=ex/\∃ Z',StRep K Z' st' w' a'/\PinLe Z st Z' st') hN hs (fun Z' w' a' hs' hp=>⟨rfl,Z',hs',hp⟩) b (.inLoop c::k) cs;obtain⟨Z',hs',hp⟩:=hq;exact⟨e,a1,w1,hQ _ _ _ hs' hp,.pass (x:=.inLoop c) rfl (fun _ _=>.inl he) harr⟩
 | next st st1 ex st' h hl ih =>
  intro Z w a Q hs hQ b k cs;obtain⟨e,a1,w1,⟨rfl,hq⟩,harr⟩:=h c hc K Z w a (fun e a' w'=>e=.normal/\∃ Z',StRep K Z' st1 w' a'/\PinLe Z st Z' st1) hN hs (fun Z' w' a' hs' hp=>⟨rfl,Z',hs',hp⟩) b (.inLoop c::k) cs;obtain⟨Z',hs',hp⟩:=hq;obtain⟨e2,a2,w2,hq2,harr2⟩:=ih hs' (fun Z2 w2 a2 hs2 hp2=>hQ Z2 w2 a2 hs2 (hp.trans hp2)) b k cs;exact⟨e2,a2,w2,hq2,.of_steps (Steps.trans harr (.one step_inLoop)) harr2⟩
theorem Runs.loop(h:Loops P N x st ex st'):Runs P N (.loop x) st ex st':=by intro code hc K Z w a Q hN hs hQ;obtain⟨c,rfl,h1⟩:=ztp hc;intro b k cs;obtain⟨e,a',w',hq,harr⟩:=h.key h1 hN hs hQ b k cs;exact⟨e,a',w',hq,.of_steps (.one step_loop) harr⟩
theorem Runs.weakL(h:Weak st st1)(k:Runs P N x st1 ex st'):Runs P N x st ex st':=by intro code hc K Z w a Q hN hs hQ;obtain⟨Z',hs',hp⟩:=h K Z w a hs;exact k code hc K Z' w a Q hN hs' (fun Z2 w2 a2 hs2 hp2=>hQ Z2 w2 a2 hs2 (hp.trans hp2))
theorem Runs.weakR(k:Runs P N x st ex st1)(h:Weak st1 st'):Runs P N x st ex st':=by intro code hc K Z w a Q hN hs hQ;refine k code hc K Z w a Q hN hs (fun Z' w' a' hs' hp=>?_);obtain⟨Z'',hs'',hp'⟩:=h K Z' w' a' hs';exact hQ _ _ _ hs'' (hp.trans hp')
theorem Loops.weakL(h:Weak st st1)(k:Loops P N x st1 ex st'):Loops P N x st ex st':=by
 cases k with
 | out _ _ _ k he=>exact .out _ _ _ (.weakL h k) he
 | next _ s1 _ _ k hl=>exact .next _ s1 _ _ (.weakL h k) hl
end
def DEAD:Nat:=999999
def idOf(ids:List ((Nat × Nat) × Nat))(s g:Nat):Nat :=
 match ids with
 | []=>DEAD
 | ((s0,g0),s1)::r=>if s0=s/\g0=g then s1 else idOf r s g
mutual
def ren(fam:List Nat)(ids:List ((Nat × Nat) × Nat)):AV->AV
 | .own s g off len=>if fam.contains s=true then .own s g off len else .own (idOf ids s g) 0 off len
 | .ptr s g ix off=>if fam.contains s=true then .ptr s g ix off else .ptr (idOf ids s g) 0 ix off
 | .agg cs=>.agg (renL fam ids cs)
 | .fn f cs=>.fn f (renL fam ids cs)
 | .tup cs=>.tup (renL fam ids cs)
 | .p v=>.p v
 | .nil=>.nil
 | .cp v vsz off=>.cp v vsz off
 | .skip=>.skip
 | .undef=>.undef
def renL(fam:List Nat)(ids:List ((Nat × Nat) × Nat)):List AV->List AV
 | []=>[]
 | v::r=>ren fam ids v::renL fam ids r
end
def mkSt(sl:List (Nat × AV))(objs:List (Nat × AObj)):St:=⟨sl,objs.map (fun q=>(q.1,[some q.2]))++[(DEAD,[none])]⟩
def zgz(fam:List Nat)(st:St)(ids:List ((Nat × Nat) × Nat)):List ((Nat × Nat) × Nat)->Option (List (Nat × AObj))
 | []=>some []
 | ((s,g),s')::r=>match st.obj s g,zgz fam st ids r with
  | some o,some l=>some ((s',⟨o.sz,renL fam ids o.es⟩)::l)
  | _,_=>none
def zdy:List Nat->Bool
 | []=>true
 | x::r => !r.contains x&&zdy r
def zp1:List (Nat × Nat)->Bool
 | []=>true
 | x::r => !r.contains x&&zp1 r
def z1r(fam:List Nat)(ids:List ((Nat × Nat) × Nat))(hp:List Site):Bool:=hp.all fun q=>decide (q.1<PINB)||decide (999999<=q.1)||fam.contains q.1||(ids.contains ((q.1,0),q.1)&&decide (q.2.length<=1))
def St.weakF?(st:St)(keep:List Nat)(fam:List Nat)(ids:List ((Nat × Nat) × Nat)):Option St :=
 if (zp1 (ids.map (·.1))&&zdy (DEAD::ids.map (·.2))&&z1r fam ids st.hp&&fam.all fun s => !(s == DEAD) && !(ids.map (·.2)).contains s && !(ids.map (·.1.1)).contains s&&(st.site s).all (ze5 fam))=true then
  (zgz fam st ids ids).map fun objs=>⟨keep.map fun t=>(t,ren fam ids (st.get t)),fam.map (fun s=>(s,st.site s))++(mkSt [] objs).hp⟩
 else none
def St.weak?(st:St)(keep:List Nat)(ids:List ((Nat × Nat) × Nat)):Option St:=st.weakF? keep [] ids
section
variable {P:Program} {K:Ctx} {Z Z':Cz} {st st' st1 st2:St} {w w':World} {a:Act} {N:Nat} {fam:List Nat} {ids:List ((Nat × Nat) × Nat)}
theorem zb8:∀ (l:List AV),renL fam ids l=l.map (ren fam ids)
 | []=>rfl
 | v::r=>by simp[renL,zb8 r]
theorem z9k(l:List PV):renL fam ids (l.map .p)=l.map .p:=by rw[zb8,yhl];apply ygc;intro x _;rfl
theorem z9i(v:AV):(ren fam ids v).sz=v.sz:=by cases v<;>simp[ren]<;>(try split)<;>simp[AV.sz,zb8]
theorem zw2(v:AV):(ren fam ids v).one=v.one:=by cases v<;>simp[ren]<;>(try split)<;>simp[AV.one]
theorem zw3(v:AV):(ren fam ids v).cells=v.cells.map (ren fam ids):=by
 cases v with
 | own s g off len=>simp only[ren];split<;>simp only[AV.cells,yfq,yji,ren]<;>simp only[*,yf2,yf9,yfl]
 | ptr s g off len=>simp only[ren];split<;>simp only[AV.cells,yfq,yji,ren]<;>simp only[*,yf2,yf9,yfl]
 | agg cs=>simp[ren,AV.cells,zb8]
 | p v=>?_
 | _=>rfl
 cases v<;>first|rfl|skip
 simp only[AV.cells,yhl];apply ygc;intro x _;rfl
theorem zml(es:List AV):(renL fam ids es).flatMap AV.cells=(es.flatMap AV.cells).map (ren fam ids):=by
 induction es with
 | nil=>rfl
 | cons e es ih=>simp[renL,ih,zw3]
mutual
theorem z9j:∀ {v:AV},zce fam v=true->ren fam ids v=v
 | .own s g off len,h=>by simp only[zce]at h;simp only[ren,h,yf2]
 | .ptr s g off len,h=>by simp only[zce]at h;simp only[ren,h,yf2]
 | .agg cs,h=>by simp only[zce]at h;simp only[ren,zik h]
 | .fn f cs,h=>by simp only[zce]at h;simp only[ren,zik h]
 | .tup cs,h=>by simp only[zce]at h;simp only[ren,zik h]
 | .p _,_ | .nil,_ | .cp _ _ _,_ | .skip,_ | .undef,_=>rfl
theorem zik:∀ {l:List AV},zam fam l=true->renL fam ids l=l
 | [],_=>rfl
 | v::r,h=>by simp only[zam,yfr]at h;simp only[renL,z9j h.1,zik h.2]
end
theorem zfk:∀ {l:List Nat},zdy l=true->l.Nodup
 | [],_=>List.nodup_nil
 | x::r,h=>by simp[zdy]at h;exact List.nodup_cons.2 ⟨by simpa using h.1,zfk h.2⟩
theorem zk1:∀ {l:List (Nat × Nat)},zp1 l=true->l.Nodup
 | [],_=>List.nodup_nil
 | x::r,h=>by simp[zp1]at h;exact List.nodup_cons.2 ⟨by simpa using h.1,zk1 h.2⟩
def zu2(ids:List ((Nat × Nat) × Nat))(s':Nat):Option (Nat × Nat) :=
 match ids with
 | []=>none
 | (i,s1)::r=>if s1=s' then some i else zu2 r s'
theorem ze7:∀ {ids:List ((Nat × Nat) × Nat)} {s g:Nat},idOf ids s g≠DEAD->((s,g),idOf ids s g)∈ids
 | [],s,g,h=>by simp[idOf]at h
 | ((s0,g0),s1)::r,s,g,h=>by
  simp only[idOf]at h ⊢;split
  ·grind
  ·rename_i hc;rw[yf0 hc]at h;exact yf4.2 (.inr (ze7 h))
theorem zdl:∀ {ids:List ((Nat × Nat) × Nat)} {s':Nat} {i:Nat × Nat},(ids.map (·.2)).Nodup->(i,s')∈ids->zu2 ids s'=some i
 | [],_,_,_,h=>by simp at h
 | (i0,s1)::r,s',i,hn,h=>by
  rw[yfq,ygn]at hn;simp[zu2];rcases yf4.1 h with h|h
  ·grind
  ·rw[yf0]
   ·exact zdl hn.2 h
   ·grind
theorem zx9:∀ {ids:List ((Nat × Nat) × Nat)} {i:Nat × Nat} {s s':Nat},(ids.map (·.1)).Nodup->(i,s)∈ids->(i,s')∈ids->s=s'
 | [],_,_,_,_,h,_=>by simp at h
 | (i0,s1)::r,i,s,s',hn,h,h'=>by
  rw[yfq,ygn]at hn;rcases yf4.1 h with h|h<;>rcases yf4.1 h' with h'|h'
  ·grind
  ·grind
  ·grind
  ·exact zx9 hn.2 h h'
theorem zhw{ids:List ((Nat × Nat) × Nat)}:∀ {l:List ((Nat × Nat) × Nat)} {objs:List (Nat × AObj)},zgz fam st ids l=some objs->(l.map (·.2)).Nodup->DEAD∉l.map (·.2) ->
  (∀ i s',(i,s')∈l->∃ o,st.obj i.1 i.2=some o/\look (objs.map (fun q=>(q.1,[some q.2]))++[(DEAD,[none])]) s' []=[some ⟨o.sz,renL fam ids o.es⟩]) /\
  (∀ s',s'∉l.map (·.2)->look (objs.map (fun q=>(q.1,[some q.2]))++[(DEAD,[none])]) s' []=if DEAD=s' then[none]else[])
 | [],objs,h,_,_=>by
  simp only[zgz,yf3]at h;subst h;exact⟨by simp,by simp[look]⟩
 | ((s,g),s1)::r,objs,h,hn,hd=>by
  simp only[zgz]at h;split at h
  ·rename_i o l ho hl;cases h;simp only[yfq,ygn,yf4,not_or]at hn hd;obtain⟨i1,i2⟩:=zhw hl hn.2 hd.2;refine⟨fun i s' hm=>?_,fun s' hm=>?_⟩
   ·rcases yf4.1 hm with hm|hm
    ·cases hm;exact⟨o,ho,by simp[look]⟩
    ·obtain⟨o',h1,h2⟩:=i1 i s' hm;refine⟨o',h1,?_⟩;have:s1≠s':=by rintro rfl;exact hn.1 (yf6.2 ⟨_,hm,rfl⟩)
     simpa[look,this]using h2
   ·simp only[yfq,yf4,not_or]at hm;have:=i2 s' hm.2;simp only[yfq,yi2,look]
    grind
  ·cases h
def Cz.ren(Z:Cz)(fam:List Nat)(ids:List ((Nat × Nat) × Nat)):Cz where
 M:=Z.M
 B s g:=if fam.contains s=true then Z.B s g else if g=0 then(match zu2 ids s with|some i=>Z.B i.1 i.2|none=>none)else none
 cap s g:=if fam.contains s=true then Z.cap s g else match zu2 ids s with|some i=>Z.cap i.1 i.2|none=>0
structure RenOk (st st':St) (fam:List Nat) (ids:List ((Nat × Nat) × Nat)):Prop where
 old:(ids.map (·.1)).Nodup
 new:(ids.map (·.2)).Nodup
 live:∀ i s',(i,s')∈ids->fam.contains s'=false/\fam.contains i.1=false/\∃ o,st.obj i.1 i.2=some o/\st'.obj s' 0=some ⟨o.sz,renL fam ids o.es⟩
 all:∀ s' g' o',st'.obj s' g'=some o'->fam.contains s'=true\/(fam.contains s'=false/\g'=0/\∃ i,(i,s')∈ids)
 dead:0<(st'.site DEAD).length/\st'.obj DEAD 0=none
 fam:∀ s,fam.contains s=true->st'.site s=st.site s/\∀ g o,st.obj s g=some o->renL fam ids o.es=o.es
theorem RenOk.fobj(h:RenOk st st' fam ids){s g:Nat}(hf:fam.contains s=true):st'.obj s g=st.obj s g:=zae (h.fam s hf).1
mutual
theorem ARep.ren(h:RenOk st st' fam ids):∀ {v:AV} {x:Value},ARep Z st v x->ARep (Z.ren fam ids) st' (Ab.ren fam ids v) x
 | _,_,.p v x hp=>.p v x hp
 | _,_,.nil=>.nil
 | _,_,.own0 s g o ho hb=>by
  simp only[Ab.ren];split
  ·rename_i hf;exact .own0 _ _ o (by rw[h.fobj hf];exact ho) (by simp only[Cz.ren,hf,yf2];exact hb)
  ·by_cases hd:idOf ids s g=DEAD
   ·rw[hd];exact .ownD _ _ _ _ _ _ h.dead.1 h.dead.2
   ·have hm:=ze7 hd;obtain⟨f1,_,o',h1,h2⟩:=h.live _ _ hm;exact .own0 _ _ _ h2 (by simp only[Cz.ren,f1,yfl,yf9,yf2,zdl h.new hm,hb])
 | _,_,.own s g off len o b ad c ho hb h1 h2 h3 h4=>by
  simp only[Ab.ren];split
  ·rename_i hf;exact .own _ _ _ _ o b ad c (by rw[h.fobj hf];exact ho) (by simp only[Cz.ren,hf,yf2];exact hb) (by simp only[Cz.ren,hf,yf2];exact h1) h2 h3 h4
  ·by_cases hd:idOf ids s g=DEAD
   ·rw[hd];exact .ownD _ _ _ _ _ _ h.dead.1 h.dead.2
   ·have hm:=ze7 hd;obtain⟨f1,_,o',k1,k2⟩:=h.live _ _ hm;simp only at k1;rw[ho]at k1;cases k1;exact .own _ _ _ _ _ b ad c k2 (by simp only[Cz.ren,f1,Bool.false_eq_true,if_false,if_true,zdl h.new hm,hb]) (by simp only[Cz.ren,f1,Bool.false_eq_true,if_false,zdl h.new hm];exact h1) h2 (by simpa[zb8]using h3) h4
 | _,_,.ownD s g off len ad c hg hdd=>by
  simp only[Ab.ren];split
  ·rename_i hf;exact .ownD _ _ _ _ _ _ (by rw[(h.fam s hf).1];exact hg) (by rw[h.fobj hf];exact hdd)
  ·by_cases hd:idOf ids s g=DEAD
   ·rw[hd];exact .ownD _ _ _ _ _ _ h.dead.1 h.dead.2
   ·obtain⟨_,_,o',k1,k2⟩:=h.live _ _ (ze7 hd);simp only at k1;rw[hdd]at k1;cases k1
 | _,_,.ptr s g ix off o b ho hb=>by
  simp only[Ab.ren];split
  ·rename_i hf;exact .ptr _ _ ix off o b (by rw[h.fobj hf];exact ho) (by simp only[Cz.ren,hf,yf2];exact hb)
  ·by_cases hd:idOf ids s g=DEAD
   ·rw[hd];exact .ptrD _ _ _ _ _ h.dead.1 h.dead.2
   ·have hm:=ze7 hd;obtain⟨f1,_,o',k1,k2⟩:=h.live _ _ hm;simp only at k1;rw[ho]at k1;cases k1;exact .ptr _ _ ix off ⟨o.sz,renL fam ids o.es⟩ b k2 (by simp only[Cz.ren,f1,yfl,yf9,yf2,zdl h.new hm,hb])
 | _,_,.ptrD s g ix off ad hg hdd=>by
  simp only[Ab.ren];split
  ·rename_i hf;exact .ptrD _ _ _ _ _ (by rw[(h.fam s hf).1];exact hg) (by rw[h.fobj hf];exact hdd)
  ·by_cases hd:idOf ids s g=DEAD
   ·rw[hd];exact .ptrD _ _ _ _ _ h.dead.1 h.dead.2
   ·obtain⟨_,_,o',k1,k2⟩:=h.live _ _ (ze7 hd);simp only at k1;rw[hdd]at k1;cases k1
 | _,_,.cp v vsz off b o cur T fr vals h0 h1 h2 h3 h4 h5=>.cp v vsz off b o cur T fr vals h0 h1 h2 h3 h4 h5
 | _,_,.agg cs vals h1 h2=>by
  simp only[Ab.ren];exact .agg _ vals (fun c hc=>by rw[zb8]at hc;obtain⟨d,hd,rfl⟩:=yf6.1 hc;rw[zw2];exact h1 d hd) (AReps.ren h h2)
 | _,_,.fn f cs vals h1=>by simp only[Ab.ren];exact .fn f _ vals (AReps.ren h h1)
 | _,_,.tup vs vals h1=>by simp only[Ab.ren];exact .tup _ vals (AReps.ren h h1)
 | _,_,.skip=>.skip
 | _,_,.undef x=>.undef x
theorem AReps.ren(h:RenOk st st' fam ids):∀ {v:List AV} {x:List Value},AReps Z st v x->AReps (Z.ren fam ids) st' (renL fam ids v) x
 | _,_,.nil=>.nil
 | _,_,.cons v x vs xs h1 hs=>.cons _ _ _ _ (ARep.ren h h1) (AReps.ren h hs)
end
theorem HRep.ren(h:HRep K Z st w)(hr:RenOk st st' fam ids):HRep K (Z.ren fam ids) st' w:=by
 have back:∀ {s g:Nat} {o:AObj},st'.obj s g=some o->∃ i o0,st.obj i.1 i.2=some o0/\o=⟨o0.sz,renL fam ids o0.es⟩/\(Z.ren fam ids).B s g=Z.B i.1 i.2/\(Z.ren fam ids).cap s g=Z.cap i.1 i.2 /\
   ((fam.contains s=true/\i=(s,g))\/(fam.contains s=false/\fam.contains i.1=false/\g=0/\(i,s)∈ids)):=by
  intro s g o ho;rcases hr.all s g o ho with hf|⟨hf,rfl,i,hi⟩
  ·have h1:=hr.fobj (g:=g) hf;rw[ho]at h1;exact⟨(s,g),o,h1.symm,by rw[(hr.fam s hf).2 g o h1.symm],by simp only[Cz.ren,hf,yf2],by simp only[Cz.ren,hf,yf2],.inl ⟨hf,rfl⟩⟩
  ·obtain⟨f1,f2,o0,h1,h2⟩:=hr.live i s hi;rw[ho]at h2;cases h2;exact⟨i,o0,h1,rfl,by simp only[Cz.ren,hf,yfl,yf9,yf2,zdl hr.new hi],by simp only[Cz.ren,hf,yfl,yf9,zdl hr.new hi],.inr ⟨hf,f2,rfl,hi⟩⟩
 refine⟨fun s g o ho=>?_,fun s g s' g' o o' b ho ho' hb hb'=>?_,h.mem,fun s g o b ho hb=>?_,fun s g o b ho hb=>?_,h.m0,h.prov,h.keep⟩
 ·obtain⟨i,o0,h1,rfl,eB,eC,_⟩:=back ho;obtain⟨k1,k2,k3,k4,k5⟩:=h.objs i.1 i.2 o0 h1;refine⟨k1,fun e he=>?_,fun c hc=>?_,fun hb=>?_,fun b hb=>?_⟩
  ·simp only[zb8,yf6]at he;obtain⟨e0,he0,rfl⟩:=he;rw[z9i];exact k2 e0 he0
  ·simp only[zml,yf6]at hc;obtain⟨c0,hc0,rfl⟩:=hc;rw[zw2];exact k3 c0 hc0
  ·rw[eB]at hb;simp[k4 hb,renL]
  ·rw[eB]at hb;obtain⟨cur,T,vals,e1,e2,e3,e4,e5,e6⟩:=k5 b hb;refine⟨cur,T,vals,e1,?_,e3,by rw[eC];exact e4,by rw[eC];simpa[zb8]using e5,by rw[eC];exact e6⟩;rw[zml,<- zb8];exact AReps.ren hr e2
 ·obtain⟨i,o0,h1,_,eB,_,c1⟩:=back ho;obtain⟨i',o0',h1',_,eB',_,c2⟩:=back ho';rw[eB]at hb;rw[eB']at hb';obtain⟨e1,e2⟩:=h.inj _ _ _ _ _ _ b h1 h1' hb hb';have e:i=i':=Prod.ext e1 e2;subst e;rcases c1 with⟨f1,rfl⟩|⟨f1,f2,rfl,m1⟩<;>rcases c2 with⟨g1,g2⟩|⟨g1,g2,rfl,m2⟩
  ·cases g2;exact⟨rfl,rfl⟩
  ·simp only at g2;rw[f1]at g2;cases g2
  ·subst g2;simp only at f2;rw[g1]at f2;cases f2
  ·exact⟨zx9 hr.old m1 m2,rfl⟩
 ·obtain⟨i,o0,h1,_,eB,_,_⟩:=back ho;rw[eB]at hb;exact h.sep _ _ _ b h1 hb
 ·obtain⟨i,o0,h1,_,eB,_,_⟩:=back ho;rw[eB]at hb;exact h.own _ _ _ b h1 hb
theorem ztr(f:Nat->List (Option AObj))(r:List Site)(s:Nat):∀ fam:List Nat,look (fam.map (fun s=>(s,f s))++r) s []=if fam.contains s=true then f s else look r s []
 | []=>by simp
 | k::l=>by
  have ih:=ztr f r s l;simp[yfq,look];by_cases h:k=s
  ·grind
  ·grind
theorem z0n{keep:List Nat}(h:st.weakF? keep fam ids=some st'):RenOk st st' fam ids/\(st'.sl=keep.map fun t=>(t,Ab.ren fam ids (st.get t)))/\(z1r fam ids st.hp=true):=by
 unfold St.weakF? at h;split at h
 ·rename_i hc;simp only[yfr]at hc;obtain⟨⟨⟨hc1,hc2⟩,hc3⟩,hc4⟩:=hc;have hold:=zk1 hc1;have hnew:=zfk hc2;rw[ygn]at hnew;have hfam:∀ s,fam.contains s=true->s≠DEAD/\s∉ids.map (·.2)/\s∉ids.map (·.1.1)/\(st.site s).all (ze5 fam)=true:=fun s hs=>by
   grind
  have hnf:∀ s,(fam.contains s=true->False)->fam.contains s=false:=fun s h=>by cases hc:fam.contains s<;>simp_all
  obtain⟨objs,ho,rfl⟩:=mapS h;obtain⟨h1,h2⟩:=zhw ho hnew.2 hnew.1;have hsite:∀ s,(⟨keep.map fun t=>(t,Ab.ren fam ids (st.get t)),fam.map (fun s=>(s,st.site s))++(mkSt [] objs).hp⟩:St).site s=if fam.contains s=true then st.site s else look (objs.map (fun q=>(q.1,[some q.2]))++[(DEAD,[none])]) s []:=fun s=>ztr _ _ s fam
  refine⟨⟨hold,hnew.2,fun i s' hm=>?_,fun s' g' o' ho'=>?_,?_,fun s hs=>⟨by rw[hsite,yf1 hs],fun g o ho=>zik ?_⟩⟩,rfl,hc3⟩
  ·obtain⟨o,e1,e2⟩:=h1 i s' hm;have f1:fam.contains s'=false:=hnf s' fun hs=>(hfam s' hs).2.1 (yf6.2 ⟨_,hm,rfl⟩);have f2:fam.contains i.1=false:=hnf i.1 fun hs=>(hfam i.1 hs).2.2.1 (yf6.2 ⟨_,hm,rfl⟩);exact⟨f1,f2,o,e1,by simp only[St.obj,hsite,f1,e2];rfl⟩
  ·cases hs:fam.contains s' with
   | true=>exact .inl rfl
   | false =>
   refine .inr ⟨rfl,?_⟩;simp only[St.obj,hsite,hs,yfl,yf9]at ho';by_cases hm:s'∈ids.map (·.2)
   ·obtain⟨⟨i,s1⟩,hi,rfl⟩:=yf6.1 hm;obtain⟨o,e1,e2⟩:=h1 i s1 hi;refine⟨?_,i,hi⟩;rw[e2]at ho';cases g' with
    | zero=>rfl
    | succ _=>simp at ho'
   ·exfalso;rw[h2 s' hm]at ho';split at ho'
    ·cases g'<;>simp at ho'
    ·simp at ho'
  ·have hd:fam.contains DEAD=false:=hnf DEAD fun hs=>(hfam DEAD hs).1 rfl;have:=h2 DEAD hnew.1;simp only[St.obj,hsite,hd,yfl,yf9,this];exact⟨by simp,rfl⟩
  ·have:=(hfam s hs).2.2.2;rw[yfp]at this;unfold St.obj at ho;cases hg:(st.site s)[g]? with
   | none=>rw[hg]at ho;cases ho
   | some x =>
    rw[hg]at ho;simp only[yhn]at ho;subst ho;exact this _ (yhi hg)
 ·cases h
theorem zla(f:Nat->AV)(t:Nat):∀ (keep:List Nat),look (keep.map fun t=>(t,f t)) t AV.undef=f t\/look (keep.map fun t=>(t,f t)) t AV.undef=.undef
 | []=>.inr rfl
 | k::r=>by
  simp[yfq,look];split
  ·grind
  ·exact zla f t r
theorem z51(hr:RenOk st st' fam ids)(hp:z1r fam ids st.hp=true):PinLe Z st (Z.ren fam ids) st':=by
 have key:∀ s,PINB<=s->s<999999->st.site s=[]\/fam.contains s=true\/((st.site s).length<=1/\fam.contains s=false/\∃ o,st.obj s 0=some o/\st'.obj s 0=some ⟨o.sz,renL fam ids o.es⟩/\zu2 ids s=some (s,0)):=by
  intro s a b;rcases zh5 (d:=([]:List (Option AObj))) (l:=st.hp) (s:=s)with h|⟨q,h1,rfl,h3⟩
  ·exact .inl h
  ·have:=yfp.1 hp q h1;simp only[yij,yfr,decide_eq_true_eq]at this;rcases this with((h|h)|h)|⟨h,h'⟩
   ·omega
   ·omega
   ·grind
   ·rw[yiy]at h;obtain⟨f1,_,o,k1,k2⟩:=hr.live _ _ h;exact .inr (.inr ⟨by show(look st.hp q.1 []).length<=1;rw[h3];exact h',f1,o,k1,k2,zdl hr.new h⟩)
 refine⟨fun s a b=>?_,fun s g a b hg hd=>?_,fun s g o a b ho=>?_⟩
 ·rcases key s a b with h|h|⟨h,_,o,k1,k2,_⟩
  ·grind
  ·rw[(hr.fam s h).1];exact yf8 _
  ·have:=zby k2;omega
 ·rcases key s a b with h|h|⟨h,_,o,k1,k2,_⟩
  ·simp_all
  ·rw[hr.fobj h];exact hd
  ·obtain rfl:g=0:=by omega
   rw[k1]at hd;cases hd
 ·rcases key s a b with h|h|⟨h,f1,o1,k1,k2,k3⟩
  ·have:=zby ho;rw[h]at this;simp at this
  ·exact .inr ⟨o,by rw[hr.fobj h];exact ho,rfl,rfl,by simp only[Cz.ren,h,yf2],by simp only[Cz.ren,h,yf2]⟩
  ·have:=zby ho;obtain rfl:g=0:=by omega
   rw[k1]at ho;cases ho;exact .inr ⟨_,k2,rfl,by simp[zb8],by simp only[Cz.ren,k3,f1,yfl,yf9,yf2],by simp only[Cz.ren,k3,f1,yfl,yf9]⟩
theorem Weak.ofF{keep:List Nat}(h:st.weakF? keep fam ids=some st'):Weak st st':=by
 intro K Z w a hs;obtain⟨hr,hsl,hpin⟩:=z0n h;refine⟨Z.ren fam ids,⟨fun t=>?_,hs.defers,hs.size,hs.heap.ren hr⟩,z51 hr hpin⟩;have:st'.get t=look (keep.map fun t=>(t,Ab.ren fam ids (st.get t))) t .undef:=by rw[<- hsl];rfl
 rw[this];rcases zla (fun t=>Ab.ren fam ids (st.get t)) t keep with h|h
 ·rw[h];exact(hs.slots t).ren hr
 ·rw[h];exact .undef _
theorem Weak.of{keep:List Nat}(h:st.weak? keep ids=some st'):Weak st st':=Weak.ofF h
end
end Go.Ab
namespace Go.Ab
def St.freeze?(st:St)(t:Nat):Option St :=
 match toPV st FUEL (st.get t)with
 | some p=>some ((killAll st (deps st FUEL (st.get t))).put (some t) (.p p))
 | none=>none
def St.nilSlot?(st:St)(t s sz:Nat):Option St :=
 match st.get t with
 | .nil=>if 0<sz then some ((st.alloc s ⟨sz,[]⟩).put (some t) (.own s (st.site s).length 0 0))else none
 | _=>none
def z93(e:AV)(osz i:Nat)(r:AV):Option AV :=
 if osz=1 then(match e with | .nil=>some r|_=>none)
 else match e.cells[i]? with
  | some .nil=>some (.agg (e.cells.set i r))
  | _=>none
def St.nilCell?(st:St)(s0 g0 i s sz:Nat):Option St :=
 match st.obj s0 g0 with
 | some o=>match o.es with
  | [e]=>if 0<sz/\s≠s0 then(match z93 e o.sz i (.own s (st.site s).length 0 0)with
   | some e'=>some ((st.alloc s ⟨sz,[]⟩).setObj s0 g0 ⟨o.sz,[e']⟩)
   | none=>none)else none
  | _=>none
 | none=>none
section
variable {P:Program} {K:Ctx} {Z Z':Cz} {st st' st1 st2:St} {w w':World} {a:Act} {N:Nat}
theorem Keep.refl(w:World)(X:Nat->Prop):Keep w w X:=⟨rfl,rfl,rfl,yf8 _,yf8 _,fun _ _ _=>rfl⟩
theorem Weak.freeze{t:Nat}(h:st.freeze? t=some st'):Weak st st':=by
 intro K Z w a hs;unfold St.freeze? at h;split at h
 ·rename_i p hp;cases h;generalize hids:deps st FUEL (st.get t)=ids;have hM:∀ b o,Z.M b=some o->Mx Z st w ids b=some o:=fun b o hb=>Mx_M hb;have hz:ZLe Z st { Z with M:=Mx Z st w ids } (killAll st ids):=(ZLe.killAll ids st).trans (ZLe.growM hM);have hh:HRep K { Z with M:=Mx Z st w ids } (killAll st ids) w:=by
   refine(HRep.killAll ids hs.heap).grow (Keep.refl w _) _ hM (fun b o hb=>?_) (fun b o hb=>?_) (fun s g o b ho hb=>?_)
   ·rcases zbx hb with h|⟨_,h,_⟩
    ·exact hs.heap.mem b o h
    ·exact h
   ·rcases zbx hb with h|⟨_,_,s,g,ob,_,e2,e3⟩
    ·exact .inl h
    ·exact .inr (hs.heap.own s g ob b e2 e3)
   ·obtain⟨ho1,ho2⟩:=zc7 ids st ho;cases hm:Mx Z st w ids b with
    | none=>rfl
    | some y =>
     exfalso;rcases zbx hm with h|⟨_,_,s',g',ob,e1,e2,e3⟩
     ·rw[hs.heap.sep s g o b ho1 hb]at h;cases h
     ·obtain⟨rfl,rfl⟩:=hs.heap.inj s g s' g' o ob b ho1 e2 hb e3;exact ho2 e1
  have hpr:PRep (Mx Z st w ids) p (a.tmps.getD t Go.undef):=zf6 hs.heap ids FUEL _ _ _ (hs.slots t) hp (fun i hi=>by rw[<- hids];exact hi);refine⟨{ Z with M:=Mx Z st w ids },⟨fun u=>?_,hs.defers,hs.size,hh.of_site (fun i=>za6 _ _ _ i)⟩,.of_zle (hz.trans (zbk (fun i=>za6 _ _ _ i) _))⟩;rw[zdw];split
  ·rename_i hu;cases hu;exact .p _ _ hpr
  ·rw[zjf (zbh ids st)];exact ARep.mono (zbk (fun i=>za6 _ _ _ i) _) (ARep.mono hz (hs.slots u))
 ·cases h
theorem Weak.nilSlot{t s sz:Nat}(h:st.nilSlot? t s sz=some st'):Weak st st':=by
 intro K Z w a hs;unfold St.nilSlot? at h;split at h
 ·rename_i hn;split at h
  ·rename_i hp;cases h;have hh:=hs.heap.allocNil s sz hp;have hz:=ZLe.alloc Z st s ⟨sz,[]⟩ none 0;have hx:a.tmps.getD t Go.undef=.slice none 0 0:=by have:=hs.slots t;rw[hn]at this;generalize a.tmps.getD t Go.undef=x at this ⊢;cases this;rfl
   refine⟨_,⟨fun u=>?_,hs.defers,hs.size,hh.of_site (fun i=>za6 _ _ _ i)⟩,.of_zle (hz.trans (zbk (fun i=>za6 _ _ _ i) _))⟩;rw[zdw];refine ARep.mono (zbk (s:=st.alloc s ⟨sz,[]⟩) (fun i=>za6 _ _ _ i) _) ?_;split
   ·rename_i hu;cases hu;rw[hx];exact .own0 s _ ⟨sz,[]⟩ (by rw[zan,yf1 ⟨rfl,rfl⟩]) (by simp[Cz.setB])
   ·exact ARep.mono hz (hs.slots u)
  ·cases h
 ·cases h
theorem HRep.same(h:HRep K Z st w){s g:Nat}{o:AObj}(ho:st.obj s g=some o){es:List AV}(hl:es.length=o.es.length)(h2:∀ e∈es,e.sz=o.sz)(h3:∀ c∈es.flatMap AV.cells,c.one=true)
  (h4:∀ vals,AReps Z st (o.es.flatMap AV.cells) vals->AReps Z st (es.flatMap AV.cells) vals):HRep K Z (st.setObj s g ⟨o.sz,es⟩) w:=by
 have hg:=zby ho;have hz:=ZLe.setObj Z st s g o ⟨o.sz,es⟩ ho rfl hl;have old:∀ {s' g':Nat} {o':AObj},(st.setObj s g ⟨o.sz,es⟩).obj s' g'=some o'->∃ o0,st.obj s' g'=some o0:=by
  intro s' g' o' ho';rw[za9 _ _ _ _ _ _ hg]at ho';split at ho'
  ·rename_i hc;obtain⟨rfl,rfl⟩:=hc;exact⟨o,ho⟩
  ·exact⟨o',ho'⟩
 refine⟨fun s' g' o' ho'=>?_,fun s' g' s'' g'' o' o'' b a1 a2 b1 b2=>?_,h.mem,fun s' g' o' b a1 b1=>?_,fun s' g' o' b a1 b1=>?_,h.m0,h.prov,h.keep⟩
 ·rw[za9 _ _ _ _ _ _ hg]at ho';split at ho'
  ·rename_i hc;obtain⟨rfl,rfl⟩:=hc;cases ho';obtain⟨k1,k2,k3,k4,k5⟩:=h.objs s' g' o ho;refine⟨k1,h2,h3,fun hb=>List.eq_nil_of_length_eq_zero (by rw[hl,k4 hb];rfl),fun b hb=>?_⟩;obtain⟨cur,T,vals,e1,e2,e3,e4,e5,e6⟩:=k5 b hb;exact⟨cur,T,vals,e1,AReps.mono hz (h4 vals e2),e3,e4,by simpa[hl]using e5,e6⟩
  ·exact(h.objs s' g' o' ho').later hz rfl rfl (fun _ _=>rfl)
 ·obtain⟨o1,c1⟩:=old a1;obtain⟨o2,c2⟩:=old a2;exact h.inj _ _ _ _ _ _ b c1 c2 b1 b2
 ·obtain⟨o1,c1⟩:=old a1;exact h.sep _ _ _ b c1 b1
 ·obtain⟨o1,c1⟩:=old a1;exact h.own _ _ _ b c1 b1
theorem AReps.set{vs:List AV}{xs:List Value}(i:Nat){r:AV}(h:AReps Z st vs xs)(hr:∀ x,xs[i]?=some x->ARep Z st r x):AReps Z st (vs.set i r) xs:=by
 induction i generalizing vs xs with
 | zero =>
  cases h with
  | nil=>exact .nil
  | cons v x vs xs h hs=>exact .cons _ _ _ _ (hr x rfl) hs
 | succ i ih =>
  cases h with
  | nil=>exact .nil
  | cons v x vs xs h hs=>exact .cons _ _ _ _ h (ih hs (fun y hy=>hr y hy))
theorem Weak.nilCell{s0 g0 i s sz:Nat}(h:st.nilCell? s0 g0 i s sz=some st'):Weak st st':=by
 intro K Z w a hs;unfold St.nilCell? at h;split at h
 ·rename_i o ho;split at h
  ·rename_i e hes;split at h
   ·rename_i hc;obtain⟨hp,hne⟩:=hc;split at h
    ·rename_i e' he';cases h;have hh:=hs.heap.allocNil s sz hp;have hz:=ZLe.alloc Z st s ⟨sz,[]⟩ none 0;generalize hZ:Z.setB s (st.site s).length none 0=Z1 at hh hz;have hown:ARep Z1 (st.alloc s ⟨sz,[]⟩) (.own s (st.site s).length 0 0) (.slice none 0 0):=.own0 s _ ⟨sz,[]⟩ (by rw[zan,yf1 ⟨rfl,rfl⟩]) (by rw[<- hZ];simp[Cz.setB]);have ho1:(st.alloc s ⟨sz,[]⟩).obj s0 g0=some o:=by rw[zan,yf0 (by rintro⟨rfl,_⟩;exact hne rfl)];exact ho
     have hO:=hs.heap.objs s0 g0 o ho;have hesz:=hO.els e (by simp[hes]);have heone:∀ c∈e.cells,c.one=true:=fun c hc=>hO.one c (by simp[hes,hc]);have hnil:∀ x,ARep Z1 (st.alloc s ⟨sz,[]⟩) .nil x->x=.slice none 0 0:=fun x hx=>by cases hx;rfl
     have facts:e'.sz=o.sz/\(∀ c∈e'.cells,c.one=true)/\∀ vals,AReps Z1 (st.alloc s ⟨sz,[]⟩) e.cells vals->AReps Z1 (st.alloc s ⟨sz,[]⟩) e'.cells vals:=by
      unfold z93 at he';split at he'
      ·rename_i h1;split at he'
       ·cases he';refine⟨by rw[h1];rfl,by simp[AV.cells,AV.one],fun vals hv=>?_⟩;simp only[AV.cells]at hv ⊢;cases hv with
        | cons _ x _ _ hx hr=>cases hr;have:=hnil x hx;subst this;exact .cons _ _ _ _ hown .nil
       ·cases he'
      ·rename_i h1;split at he'
       ·rename_i hi;cases he';have hpos:=hO.pos;have hlen:e.cells.length=o.sz:=by rw[AV.cells_len (by omega)];exact hesz
        refine⟨?_,fun c hc=>?_,fun vals hv=>?_⟩
        ·simp only[AV.sz,List.length_set,hlen];rw[yf0 (by omega)]
        ·simp only[AV.cells]at hc;rcases yjs hc with h|h
         ·exact heone c h
         ·rw[h];rfl
        ·simp only[AV.cells]at hv ⊢;refine hv.set i (fun x hx=>?_);obtain⟨y,hy,hr⟩:=hv.get i .nil hi;rw[hx]at hy;cases hy;rw[hnil x hr];exact hown
       ·cases he'
     obtain⟨f1,f2,f3⟩:=facts;have hsame:=hh.same ho1 (es:=[e']) (by rw[hes];rfl) (by simpa using f1) (by simpa using f2) (fun vals hv=>by rw[hes]at hv;simpa using f3 vals (by simpa using hv));have hz2:=ZLe.setObj Z1 (st.alloc s ⟨sz,[]⟩) s0 g0 o ⟨o.sz,[e']⟩ ho1 rfl (by rw[hes];rfl);exact⟨Z1,⟨fun u=>ARep.mono (hz.trans hz2) (hs.slots u),hs.defers,hs.size,hsame⟩,.of_zle (hz.trans hz2)⟩
    ·cases h
   ·cases h
  ·cases h
 ·cases h
end
def zm6:Nat->List PV->List (Nat × AV)
 | _,[]=>[]
 | i,v::r=>(i,.p v)::zm6 (i+1) r
def zel(args:List PV):St:=⟨zm6 0 args,[]⟩
def zew(P:Program):List ResultVar->Option (List (Nat × Option Nat))
 | []=>some []
 | .tmp t::r=>(zew P r).map ((t,none) :: ·)
 | .cell a t::r=>if tok P t (tsz P t) (tagg P t)=true then(zew P r).map ((a,some (tsz P t)) :: ·)else none
def zi4(st:St)(t:Nat)(c:Option Nat):Option AV :=
 match c with
 | none=>some (st.get t)
 | some sz=>match st.get t with
  | .ptr s g ix off=>match st.obj s g with
   | some o=>match o.es[ix]? with
    | some e=>if off=0/\sz=o.sz then some e else none
    | none=>none
   | none=>none
  | _=>none
def zbd(st:St):List (Nat × Option Nat)->Option (List AV)
 | []=>some []
 | (t,c)::r=>match zi4 st t c,zbd st r with
  | some v,some l=>some (v::l)
  | _,_=>none
def resOf:List AV->AV
 | [v]=>v
 | vs=>.tup vs
structure FnC where
 N:Nat
 np:Nat
 body:AC
 res:List (Nat × Option Nat)
def zac(P:Program)(f:FuncId):Option FnC :=
 match P.funcs[f]? with
 | some fn=>if fn.name ≠ "runtime.NumGoroutine" then match fn.body with
  | some c=>match comp P fn.ntmps c,zew P fn.results.toList with
   | some b,some r=>some ⟨fn.ntmps,fn.params.size+fn.nfree,b,r⟩
   | _,_=>none
  | none=>none
  else none
 | none=>none
inductive ResOk (st:St):AV->RV->Prop
 | pure (v:AV) (p:PV):toPV st FUEL v=some p->ResOk st v (.pure p)
 | fresh (s g len:Nat) (o:AObj) (es:List PV):st.obj s g=some o->len=o.es.length->o.es=es.map .p->ResOk st (.own s g 0 len) (.fresh o.sz es)
 | nil (sz:Nat):ResOk st .nil (.fresh sz [])
section
variable {P:Program} {K:Ctx} {Z Z':Cz} {st st' st1 st2:St} {w w':World} {a:Act} {N:Nat} {args:List PV}
theorem zp3:∀ (args:List PV) (i t:Nat),look (zm6 i args) t AV.undef=if t<i then .undef else match args[t - i]? with|some v=>.p v|none=>.undef
 | [],i,t=>by simp[zm6,look]
 | v::r,i,t=>by
  simp only[zm6,look];split
  ·rename_i h;subst h;simp
  ·rename_i h;rw[zp3 r (i+1) t];by_cases h1:t<i
   ·rw[yf1 (by omega),yf1 h1]
   ·rw[yf0 (by omega),yf0 h1];have:t - i=(t - (i+1))+1:=by omega
    rw[this];rfl
theorem zok{M:Nat->Option Obj}{vals:List Value}(hM:∀ b o,M b=some o->w.heap[b]?=some o)(hv:PReps M args vals)(hn:args.length<=N) :
  StRep ⟨w,M,fun _=>False,N⟩ ⟨M,fun _ _=>none,fun _ _=>0⟩ (zel args) w { tmps:=vals.toArray++Array.replicate (N - vals.toArray.size) Go.undef,defers:=[] }:=by
 have hl:=hv.length;have hno:∀ s g,(zel args).obj s g=none:=fun s g=>rfl;refine⟨fun t=>?_,rfl,by simp;omega,⟨fun s g o ho=>(by rw[hno]at ho;cases ho),fun s g _ _ o _ b ho=>(by rw[hno]at ho;cases ho),hM,fun s g o b ho=>(by rw[hno]at ho;cases ho),fun s g o b ho=>(by rw[hno]at ho;cases ho),fun _ _ h=>h,fun _ _ h=>.inl h,Keep.refl w _⟩⟩;have hget:(zel args).get t=match args[t]? with|some v=>.p v|none=>.undef:=by have:=zp3 args 0 t;simpa[St.get,zel]using this
 rw[hget];cases hx:args[t]? with
 | none=>exact .undef _
 | some v =>
  obtain⟨x,h1,h2⟩:=hv.get t v hx;have hlt:=(List.getElem?_eq_some_iff.1 h1).1;have:(vals.toArray++Array.replicate (N - vals.toArray.size) Go.undef).getD t Go.undef=x:=by simp[Array.getElem?_append,hlt];have:=(List.getElem?_eq_some_iff.1 h1).2;simpa using this
  rw[this];exact .p _ _ h2
theorem z3j{t:TypeId}{s g ix:Nat}{o:AObj}{e:AV}{x:Value}(ht:tok P t (tsz P t) (tagg P t)=true)(hh:HRep K Z st w)(hx:ARep Z st (.ptr s g ix 0) x)(ho:st.obj s g=some o)(hix:o.es[ix]?=some e)(hsz:tsz P t=o.sz) :
  ∃ y,(do loadVar t (<- asAddr x):Sem Value).run P w=.ok y w/\ARep Z st e y:=by
 obtain⟨b,hb,rfl⟩:=zed hx ho;obtain⟨_,_,_,_,_,_,hag,hna⟩:=zhy ht;have hO:=hh.objs s g o ho;obtain⟨cur,T,vals,k1,k2,k3,k4,k5,k6⟩:=hO.blk b hb;have hes:∀ e∈o.es,(AV.cells e).length=o.sz:=fun e he=>by rw[AV.cells_len (by rw[hO.els e he];exact hO.pos),hO.els e he]
 have hseg:=zh7 AV.cells o.sz o.es ix e hes hix;have hlt:=zrz AV.cells o.sz o.es ix e hes hix;have hem:e∈o.es:=List.mem_of_getElem? hix;have hone:∀ c∈e.cells,c.one=true:=fun c hc=>hO.one c (List.mem_flatMap.2 ⟨e,hem,hc⟩);have hk3:∀ (i:Nat) (v:Value),vals[i]?=some v->cur[0+i]?=some v:=by simpa using k3
 obtain⟨xs,h1,h2,h3,h4⟩:=zho (P:=P) (Z:=Z) (st:=st) (k:=ix*o.sz) (o:=0) ht k1 k2 hk3 (by rw[hsz];exact hlt);rw[hsz,hseg]at h1;obtain⟨r1,r2⟩:=zfs ((hO.els e hem).trans hsz.symm) hag hna hone h1;cases hg:tagg P t with
 | true =>
  have h3:=h3 hg;simp only[ygm]at h3;refine⟨_,?_,r1 hg⟩;simp only[asAddr,yfx,yg0,yg8,ygl,h3]
 | false =>
  obtain⟨x1,e1,e2⟩:=h4 hg;obtain⟨x2,e3,e4⟩:=r2 hg;rw[e1]at e3;cases e3;simp only[ygm]at e2;refine⟨_,?_,e4⟩;simp only[asAddr,yfx,yg0,yg8,ygl,e2]
theorem zij(hs:StRep K Z st w a):∀ {rs:List ResultVar} {cs:List (Nat × Option Nat)} {vs:List AV},zew P rs=some cs->zbd st cs=some vs ->
  ∃ xs,(rs.mapM (m:=Sem) fun | .tmp t=>pure (a.tmps.getD t Go.undef) | .cell p t=>do loadVar t (<- asAddr (a.tmps.getD p Go.undef))).run P w=.ok xs w/\AReps Z st vs xs
 | [],cs,vs,hc,hv=>by
  simp only[zew,yf3]at hc;subst hc;simp only[zbd,yf3]at hv;subst hv;exact⟨[],by simp,.nil⟩
 | r::rs,cs,vs,hc,hv=>by
  have step:∃ (t:Nat) (c:Option Nat) (cs':List (Nat × Option Nat)),cs=(t,c)::cs'/\zew P rs=some cs'/\∀ v,zi4 st t c=some v ->
    ∃ y,((fun | .tmp t=>pure (a.tmps.getD t Go.undef) | .cell p t=>do loadVar t (<- asAddr (a.tmps.getD p Go.undef)):ResultVar->Sem Value) r).run P w=.ok y w/\ARep Z st v y:=by
   cases r with
   | tmp t =>
    simp only[zew]at hc;obtain⟨l,h1,rfl⟩:=mapS hc;exact⟨t,none,l,rfl,h1,fun v hv=>by simp only[zi4,yf3]at hv;subst hv;exact⟨_,by simp,hs.slots t⟩⟩
   | cell p t =>
    simp only[zew]at hc;split at hc
    ·rename_i ht;obtain⟨l,h1,rfl⟩:=mapS hc;refine⟨p,some (tsz P t),l,rfl,h1,fun v hv=>?_⟩;simp only[zi4]at hv;split at hv
     ·rename_i s g ix off hev;split at hv
      ·rename_i o ho;split at hv
       ·rename_i e he;split at hv
        ·rename_i hcond;obtain⟨rfl,hsz⟩:=hcond;cases hv;have hx:=hs.slots p;rw[hev]at hx;exact z3j ht hs.heap hx ho he hsz
        ·cases hv
       ·cases hv
      ·cases hv
     ·cases hv
    ·cases hc
  obtain⟨t,c,cs',rfl,h1,h2⟩:=step;simp only[zbd]at hv;split at hv
  ·rename_i v l hv1 hl;cases hv;obtain⟨y,e1,e2⟩:=h2 v hv1;obtain⟨ys,e3,e4⟩:=zij hs h1 hl;refine⟨y::ys,?_,.cons _ _ _ _ e2 e4⟩;simp only[yhz,yfx,e1,yg8,e3,yg0]
  ·cases hv
theorem AReps.resOf{vs:List AV}{xs:List Value}(h:AReps Z st vs xs):ARep Z st (resOf vs) (if h:xs.toArray.size=1 then xs.toArray[0]else .tuple xs.toArray):=by
 cases h with
 | nil=>exact .tup _ _ .nil
 | cons v x vs xs h hs =>
  cases hs with
  | nil=>exact h
  | cons u y us ys k ks=>simp only[Ab.resOf];rw[dif_neg (by simp)];exact .tup _ _ (.cons _ _ _ _ h (.cons _ _ _ _ k ks))
theorem znw{M:Nat->Option Obj}{v:AV}{x:Value}{res:RV}(hh:HRep ⟨w,M,fun _=>False,N⟩ Z' st' w')(hx:ARep Z' st' v x)(hres:ResOk st' v res) :
  ∃ M',(∀ b o,M b=some o->M' b=some o)/\(∀ b o,M' b=some o->w'.heap[b]?=some o)/\(∀ b o,M' b=some o->M b=some o\/w.heap.size<=b)/\Keep w w' (fun _=>False)/\RRep M' w w' res x:=by
 have hprov:∀ b o,Z'.M b=some o->M b=some o\/w.heap.size<=b:=fun b o hb=>by
  rcases hh.prov b o hb with h|h|h
  ·exact .inl h
  ·exact h.elim
  ·exact .inr h
 have hown:∀ s g o b,st'.obj s g=some o->Z'.B s g=some b->w.heap.size<=b:=fun s g o b ho hb=>by
  rcases hh.own s g o b ho hb with h|h
  ·exact h.elim
  ·exact h
 cases hres with
 | pure _ p hp =>
  refine⟨Mx Z' st' w' (deps st' FUEL v),fun b o hb=>Mx_M (hh.m0 b o hb),fun b o hb=>?_,fun b o hb=>?_,hh.keep,?_⟩
  ·rcases zbx hb with h|⟨_,h,_⟩
   ·exact hh.mem b o h
   ·exact h
  ·rcases zbx hb with h|⟨_,_,s,g,ob,_,q2,q3⟩
   ·exact hprov b o h
   ·exact .inr (hown s g ob b q2 q3)
  ·exact zf6 hh _ FUEL _ _ _ hx hp (fun i hi=>hi)
 | fresh s g len o es ho hl hes =>
  refine⟨Z'.M,fun b o hb=>hh.m0 b o hb,hh.mem,hprov,hh.keep,?_⟩;have hO:=hh.objs s g o ho;have hle:o.es.length=es.length:=by rw[hes];simp
  cases hx with
  | own0 _ _ o' ho' hb =>
   rw[ho]at ho';cases ho';have:=hO.non hb;refine .inl ⟨yii (by rw[<- hle,this];rfl),rfl⟩
  | own _ _ _ _ o' b ad c ho' hb h1 h2 h3 h4 =>
   rw[ho]at ho';cases ho';obtain⟨rfl,rfl⟩:=h1 rfl;obtain⟨cur,T,vals,k1,k2,k3,k4,k5,k6⟩:=hO.blk b hb;refine .inr ⟨b,Z'.cap s g,cur,T,vals,by rw[hl,hle],hown s g o b ho hb,hh.sep s g o b ho hb,k1,?_,k3,k4,by rw[<- hle];exact k5,k6,fun c hc=>?_⟩
   ·rw[hes,zal]at k2;exact k2.to_p
   ·have:=hO.one (.p c) (by rw[hes,zal];exact yf6.2 ⟨c,hc,rfl⟩);exact this
  | ownD _ _ _ _ _ _ _ hd=>exact(za4 ho hd).elim
 | nil sz =>
  refine⟨Z'.M,fun b o hb=>hh.m0 b o hb,hh.mem,hprov,hh.keep,.inl ⟨rfl,?_⟩⟩;cases hx;rfl
theorem Sp.of_runs{f:FuncId}{C:FnC}{ex:Exit}{vs:List AV}{res:RV}(hc:zac P f=some C)(hn:args.length<=C.N)(hrun:Runs P C.N C.body (zel args) ex st')(hex:ex=.ret\/ex=.normal)
  (hvs:zbd st' C.res=some vs) (hres:ResOk st' (resOf vs) res):Sp P f args res:=by
 unfold zac at hc;split at hc
 ·rename_i fn hf;split at hc
  ·rename_i hname;split at hc
   ·rename_i c hb;split at hc
    ·rename_i bd rs h1 h2;cases hc;refine⟨⟨fn,hf,by rw[hb];rfl,hname⟩,fun w M vals hM hv=>?_⟩;refine calls_of_wp hf hb ?_;refine hrun _ h1 ⟨w,M,fun _=>False,fn.ntmps⟩ _ w _ _ rfl (zok hM hv hn) (fun Z' w' a' hs _=>?_)
     have hfin:a'.defers=[]/\∃ v,(results fn a'.tmps).run P w'=.ok v w'/\∃ x M',Ending.returned v=.returned x/\(∀ b o,M b=some o->M' b=some o)/\(∀ b o,M' b=some o->w'.heap[b]?=some o) /\
       (∀ b o,M' b=some o->M b=some o\/w.heap.size<=b)/\Keep w w' (fun _=>False)/\RRep M' w w' res x:=by
      obtain⟨xs,e1,e2⟩:=zij hs h2 hvs;obtain⟨M',m1,m2,m3,m4,m5⟩:=znw hs.heap e2.resOf hres;refine⟨hs.defers,_,?_,_,M',rfl,m1,m2,m3,m4,m5⟩;unfold results;rw[yin];simp only[yfx,map_eq_pure_bind,yg0];exact congrArg (fun r=>(Result.andThen r fun a w'=>Result.ok a.toArray w').andThen fun(a:Array Value) w'=>Result.ok (if h:a.size=1 then a[0]else Value.tuple a) w') e1
     rcases hex with rfl|rfl
     ·exact hfin
     ·exact hfin
    ·cases hc
   ·cases hc
  ·cases hc
 ·cases hc
end
end Go.Ab
