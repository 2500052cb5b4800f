/-
Proofs for the law CountIsFinite, part 6. Conditions: none.
-/
import Derived.Test.YtdkocfjbmbenfaaGreatDoorDP05
set_option maxRecDepth 100000
set_option maxHeartbeats 4000000
set_option linter.all false
namespace Go.Ab
def zx2 (M:Nat->Option Obj) (ks vs:List PV) (es:Array MapEntry) (clock:Nat):Prop :=
 PReps M ks (es.toList.map (·.key))/\PReps M vs (es.toList.map (·.val))/\(es.toList.map (·.key)).Nodup/\(∀ e∈es.toList,e.born<clock)/\(es.toList.map (·.born)).Nodup
structure Fgn (Z:Cz) (st:St) (w:World) (r:Nat):Prop where
 m:Z.M r=none
 o:∀ s g o,st.obj s g=some o->Z.B s g≠some r
 lt:r<w.heap.size
def ownB (Z:Cz) (st:St) (b:Nat):Prop:=∃ s g o,st.obj s g=some o/\Z.B s g=some b
abbrev MapD:=Nat × List PV × List PV
def isR:Option MapD->Nat->Prop
 | none,_=>False
 | some m,b=>b=m.1
def zes (o:Option MapD) (K:Ctx) (Z:Cz) (st:St) (w:World):Prop :=
 match o with
 | none=>True
 | some m=>Fgn Z st w m.1/\(K.X0 m.1\/K.w0.heap.size<=m.1)/\∃ es clock,w.heap[m.1]?=some (.map es clock)/\zx2 Z.M m.2.1 m.2.2 es clock
def HRes (res:HV) (Z:Cz) (st:St) (w0 w:World) (x:Value):Prop :=
 match res with
 | .av v=>ARep Z st v x
 | .fr sz es=>RRep Z.M w0 w (.fresh sz es) x/\∀ b n c,x=.slice (some ⟨b,0,none⟩) n c->∀ s g o,st.obj s g=some o->Z.B s g≠some b
 | .bx sz e us=>∃ (b cap:Nat) (cur:Array Value) (T:TypeId) (vals ys:List Value),x=.tuple (.pointer (some ⟨b,0,none⟩)::ys).toArray/\PReps Z.M us ys/\w0.heap.size<=b/\Z.M b=none/\w.heap[b]?=some (.cells cur T (0,0))/\AReps Z st e.cells vals /\
  (∀ (i:Nat) (v:Value),vals[i]?=some v->cur[i]?=some v)/\cur.size=cap*sz/\(1<=cap/\cap<=maxLen)/\(∀ c∈e.cells,c.one=true)/\∀ s g o,st.obj s g=some o->Z.B s g≠some b
abbrev ctxH (Z:Cz) (hp:List Site) (o:Option MapD) (w:World):Ctx:=⟨w,Z.M,fun b=>ownB Z ⟨[],hp⟩ b\/isR o b,0⟩
def HSpG (P:Program) (f:FuncId) (vs:List AV) (hp:List Site) (o:Option MapD) (res:HV) (hp':List Site) (o':Option MapD):Prop :=
 (∃ fn,P.funcs[f]?=some fn/\fn.body.isSome=true/\fn.name ≠ "runtime.NumGoroutine") /\
 ∀ (Z:Cz) (w:World) (vals:List Value),HRep (ctxH Z hp o w) Z ⟨[],hp⟩ w->zes o (ctxH Z hp o w) Z ⟨[],hp⟩ w->AReps Z ⟨[],hp⟩ vs vals ->
  Calls P f vals.toArray w fun e w'=>∃ x Z',e=.returned x/\HRep (ctxH Z hp o w) Z' ⟨[],hp'⟩ w'/\HRes res Z' ⟨[],hp'⟩ w w' x/\ZLe Z ⟨[],hp⟩ Z' ⟨[],hp'⟩/\zes o' (ctxH Z hp o w) Z' ⟨[],hp'⟩ w'
def HSp (P:Program) (f:FuncId) (vs:List AV) (hp:List Site) (v:AV) (hp':List Site):Prop:=HSpG P f vs hp none (.av v) hp' none
structure LaterX (R:Nat->Prop) (Z:Cz) (st:St) (w:World) (Z':Cz) (st':St) (w':World):Prop where
 M:∀ b o,Z.M b=some o->Z'.M b=some o
 f:∀ r,¬ R r->Fgn Z st w r->Fgn Z' st' w' r/\w'.heap[r]?=w.heap[r]?
 z:ZLe Z st Z' st'
theorem zad {st st2:St} {s g:Nat} (h:st2.site s=st.site s):st2.obj s g=st.obj s g:=by simp [St.obj,h]
theorem zhw {α : Type} {d : α}:∀ {l:List (Nat × α)} {s:Nat},look l s d=d\/∃ q∈l,q.1=s/\look l s d=q.2
 | [],_=>.inl rfl
 | (k,v)::r,s=>by
  simp only [look]
  split
  ·rename_i h; exact .inr ⟨(k,v),by simp,h,rfl⟩
  ·rcases zhw (d:=d) (l:=r) (s:=s) with h|⟨q,h1,h2⟩
   ·exact .inl h
   ·exact .inr ⟨q,List.mem_cons_of_mem _ h1,h2⟩
theorem zd1 (ks:List Nat):∀ l:List AV,zav ks l=l.all (zbx ks)
 | []=>rfl
 | v::r=>by simp only [zav,List.all_cons,zd1 ks r]
section
variable {P:Program} {K:Ctx} {Z Z' Z2:Cz} {st st' st1 st2:St} {w w':World} {a:Act} {ks:List Nat} {v:AV}
theorem zg4 {u:AV} (h:zbx ks u=true):zav ks u.cells=true:=by
 cases u with
 | p p =>
  cases p with
  | agg cs=>simp only [AV.cells,zd1,List.all_map,List.all_eq_true,Function.comp_apply,zbx,implies_true]
  | _=>rfl
 | agg cs=>exact h
 | _=>simp only [AV.cells,zav,h,Bool.and_self]
theorem zq5 {es:List AV} (h:zav ks es=true):zav ks (es.flatMap AV.cells)=true:=by
 simp only [zd1,List.all_eq_true] at h ⊢
 intro c hc
 obtain ⟨e,he,hc⟩:=List.mem_flatMap.1 hc
 have:=zg4 (h e he)
 rw [zd1,List.all_eq_true] at this
 exact this c hc
mutual
theorem ARep.into (hs:∀ s,ks.contains s=true->st2.site s=st.site s) (hM:∀ b o,Z.M b=some o->Z2.M b=some o) (hB:∀ s g,ks.contains s=true->Z2.B s g=Z.B s g/\Z2.cap s g=Z.cap s g):∀ {u:AV} {x:Value},ARep Z st u x->zbx ks u=true->ARep Z2 st2 u x
 | _,_,.p u x hp,_=>.p u x (PRep.mono hM hp)
 | _,_,.nil,_=>.nil
 | _,_,.own0 s g o ho hb,h=>.own0 s g o (by rw [zad (hs s h)]; exact ho) (by rw [(hB s g h).1]; exact hb)
 | _,_,.own s g off len o b ad c ho hb h1 h2 h3 h4,h=>.own s g off len o b ad c (by rw [zad (hs s h)]; exact ho) (by rw [(hB s g h).1]; exact hb) (by rw [(hB s g h).2]; exact h1) h2 h3 h4
 | _,_,.ownD s g off len ad c hg hd,h=>.ownD s g off len ad c (by rw [hs s h]; exact hg) (by rw [zad (hs s h)]; exact hd)
 | _,_,.ptr s g ix off o b ho hb,h=>.ptr s g ix off o b (by rw [zad (hs s h)]; exact ho) (by rw [(hB s g h).1]; exact hb)
 | _,_,.ptrD s g ix off ad hg hd,h=>.ptrD s g ix off ad (by rw [hs s h]; exact hg) (by rw [zad (hs s h)]; exact hd)
 | _,_,.cp u vsz off b o cur T fr vals h0 h1 h2 h3 h4 h5,_=>.cp u vsz off b o cur T fr vals (hM _ _ h0) h1 h2 h3 (PReps.mono hM h4) h5
 | _,_,.agg cs vals h1 h2,h=>.agg cs vals h1 (AReps.into hs hM hB h2 h)
 | _,_,.fn f caps vals h1,h=>.fn f caps vals (AReps.into hs hM hB h1 h)
 | _,_,.tup vs vals h1,h=>.tup vs vals (AReps.into hs hM hB h1 h)
 | _,_,.skip,_=>.skip
 | _,_,.undef x,_=>.undef x
theorem AReps.into (hs:∀ s,ks.contains s=true->st2.site s=st.site s) (hM:∀ b o,Z.M b=some o->Z2.M b=some o) (hB:∀ s g,ks.contains s=true->Z2.B s g=Z.B s g/\Z2.cap s g=Z.cap s g):∀ {u:List AV} {x:List Value},AReps Z st u x->zav ks u=true->AReps Z2 st2 u x
 | _,_,.nil,_=>.nil
 | _,_,.cons u x us xs h1 h2,h=>by
  simp only [zav,Bool.and_eq_true] at h
  exact .cons _ _ _ _ (ARep.into hs hM hB h1 h.1) (AReps.into hs hM hB h2 h.2)
end
theorem ORep.into (hs:∀ s,ks.contains s=true->st2.site s=st.site s) (hM:∀ b o,Z.M b=some o->Z2.M b=some o) (hB:∀ s g,ks.contains s=true->Z2.B s g=Z.B s g/\Z2.cap s g=Z.cap s g) {s g:Nat} {o:AObj} (hk:ks.contains s=true) (hr:zav ks o.es=true)
  (h:ORep Z st w s g o):ORep Z2 st2 w s g o:=by
 refine ⟨h.pos,h.els,h.one,fun hn=>h.non (by rw [<- (hB s g hk).1]; exact hn),fun b hb=>?_⟩
 rw [(hB s g hk).1] at hb
 obtain ⟨cur,T,vals,k1,k2,k3,k4,k5,k6⟩:=h.blk b hb
 rw [(hB s g hk).2]
 exact ⟨cur,T,vals,k1,AReps.into hs hM hB k2 (zq5 hr),k3,k4,k5,k6⟩
theorem zf9 {hp:List Site} {s:Nat} (h:(hp.map (·.1)).contains s=false):look hp s []=[]:=by
 rcases zhw (d:=([]:List (Option AObj))) (l:=hp) (s:=s) with h1|⟨q,h1,rfl,_⟩
 ·exact h1
 ·exfalso
  have:=List.contains_iff_mem.2 (List.mem_map.2 ⟨q,h1,rfl⟩:q.1∈hp.map (·.1))
  rw [h] at this; cases this
theorem zn3 {hp r:List Site} {s:Nat}:look (hp++r) s []=if (hp.map (·.1)).contains s=true then look hp s [] else look r s []:=by
 induction hp with
 | nil=>simp
 | cons q l ih =>
  obtain ⟨k,x⟩:=q
  simp only [List.cons_append,look,List.map_cons]
  by_cases h:k=s
  ·subst h; simp
  ·rw [if_neg h,if_neg h,ih]
   have:(k::l.map (·.1)).contains s=(l.map (·.1)).contains s:=by simp [List.contains_cons,Ne.symm h]
   rw [this]
theorem zog {hp:List Site} (h:hpOk ks hp=true) {s g:Nat} {o:AObj} (ho:(⟨[],hp⟩:St).obj s g=some o):zav ks o.es=true:=by
 rcases zhw (d:=([]:List (Option AObj))) (l:=hp) (s:=s) with h1|⟨q,h1,_,h3⟩
 ·simp [St.obj,St.site,h1] at ho
 ·have:=List.all_eq_true.1 (List.all_eq_true.1 h q h1)
  simp only [St.obj,St.site,h3] at ho
  cases hg:q.2[g]? with
  | none=>rw [hg] at ho; cases ho
  | some x =>
   rw [hg] at ho
   simp only [Option.getD_some] at ho
   subst ho
   exact this _ (List.mem_of_getElem? hg)
theorem zlr {hp:List Site}:∀ {r:List Site},zbb st hp r->∀ q∈r,st.site q.1=look hp q.1 []
 | q::r,h,x,hx=>by
  rcases List.mem_cons.1 hx with rfl|hx
  ·exact h.1
  ·exact zlr h.2 x hx
theorem zvm {hp hp':List Site} {o o':Option MapD} {res:HV} {x:Value} (hoo:o'.map (·.1)=o.map (·.1)) (hks:hp'.map (·.1)=hp.map (·.1)) (hsite:∀ s,(hp.map (·.1)).contains s=true->st.site s=look hp s []) (hr1:hpOk (hp.map (·.1)) hp'=true) (hr2:(match res with | .av v=>zbx (hp.map (·.1)) v | .bx _ e _=>zbx (hp.map (·.1)) e|_=>true)=true)
  (hs:HRep K Z st w) (hm:zes o K Z st w) (hH:HRep (ctxH Z hp o w) Z' ⟨[],hp'⟩ w') (hx:HRes res Z' ⟨[],hp'⟩ w w' x) (hz:ZLe Z ⟨[],hp⟩ Z' ⟨[],hp'⟩) (hm':zes o' (ctxH Z hp o w) Z' ⟨[],hp'⟩ w') :
  ∃ Z2,HRep K Z2 ⟨st.sl,hp'++st.hp⟩ w'/\HRes res Z2 ⟨st.sl,hp'++st.hp⟩ w w' x/\ZLe Z st Z2 ⟨st.sl,hp'++st.hp⟩/\LaterX (isR o) Z st w Z2 ⟨st.sl,hp'++st.hp⟩ w'/\zes o' K Z2 ⟨st.sl,hp'++st.hp⟩ w':=by
 have mr:∀ b,isR o b->Fgn Z st w b/\(K.X0 b\/K.w0.heap.size<=b)/\Fgn Z' ⟨[],hp'⟩ w' b/\isR o' b:=fun b hb=>by
  cases o with
  | none=>exact hb.elim
  | some m =>
   cases o' with
   | none=>cases hoo
   | some m' =>
    have e:m'.1=m.1:=by simpa using hoo
    have hb:b=m.1:=hb
    subst hb
    exact ⟨hm.1,hm.2.1,by have:=hm'.1; rw [e] at this; exact this,e.symm⟩
 have mr':∀ b,isR o' b->isR o b:=fun b hb=>by
  cases o with
  | none=>cases o' with
   | none=>exact hb
   | some m'=>cases hoo
  | some m =>
   cases o' with
   | none=>cases hoo
   | some m' =>
    have e:m'.1=m.1:=by simpa using hoo
    have hb:b=m'.1:=hb
    show b=m.1
    rw [hb,e]
 generalize hK:hp.map (·.1)=ks at *
 have s1:∀ s,ks.contains s=true->(⟨st.sl,hp'++st.hp⟩:St).site s=(⟨[],hp'⟩:St).site s:=fun s h=>by simp only [St.site,zn3,hks,h,if_true]
 have s2:∀ s,ks.contains s=false->(⟨st.sl,hp'++st.hp⟩:St).site s=st.site s:=fun s h=>by simp only [St.site,zn3,hks,h,Bool.false_eq_true,if_false]
 have s0:∀ s,ks.contains s=true->st.site s=(⟨[],hp⟩:St).site s:=hsite
 have e0:∀ s,ks.contains s=false->(⟨[],hp⟩:St).site s=[]:=fun s h=>zf9 (by rw [hK]; exact h)
 have e1:∀ s,ks.contains s=false->(⟨[],hp'⟩:St).site s=[]:=fun s h=>zf9 (by rw [hks]; exact h)
 have k1:∀ {s g o},(⟨[],hp'⟩:St).obj s g=some o->ks.contains s=true:=fun {s g o} ho=>by
  cases h:ks.contains s with
  | true=>rfl
  | false=>simp [St.obj,e1 s h] at ho
 have o0:∀ {s g o},ks.contains s=true->st.obj s g=some o->(⟨[],hp⟩:St).obj s g=some o:=fun {s g o} h ho=>by rw [zad (s0 s h)] at ho; exact ho
 have own0:∀ b,ownB Z ⟨[],hp⟩ b->∃ s g o,ks.contains s=true/\st.obj s g=some o/\Z.B s g=some b:=fun b ⟨s,g,o,ho,hb⟩=>by
  cases h:ks.contains s with
  | true=>exact ⟨s,g,o,rfl.trans h,by rw [zad (s0 s h)]; exact ho,hb⟩
  | false=>simp [St.obj,e0 s h] at ho
 let Z2:Cz:=⟨Z'.M,fun s g=>if ks.contains s=true then Z'.B s g else Z.B s g,fun s g=>if ks.contains s=true then Z'.cap s g else Z.cap s g⟩
 have B1:∀ s g,ks.contains s=true->Z2.B s g=Z'.B s g/\Z2.cap s g=Z'.cap s g:=fun s g h=>by simp only [Z2,h,if_true,and_self]
 have B2:∀ s g,ks.contains s=false->Z2.B s g=Z.B s g/\Z2.cap s g=Z.cap s g:=fun s g h=>by simp only [Z2,h,Bool.false_eq_true,if_false,and_self]
 have hM:∀ b o,Z.M b=some o->Z'.M b=some o:=hH.m0
 have hzl:ZLe Z st Z2 ⟨st.sl,hp'++st.hp⟩:=by
  refine ⟨hM,fun s=>?_,fun s g hg hd=>?_,fun s g o ho=>?_⟩<;>cases h:ks.contains s
  ·rw [s2 s h]; exact Nat.le_refl _
  ·rw [s1 s h,s0 s h]; exact hz.len s
  ·rw [zad (s2 s h)]; exact hd
  ·rw [zad (s1 s h)]; exact hz.dead s g (by rw [<- s0 s h]; exact hg) (by rw [<- zad (s0 s h)]; exact hd)
  ·exact .inr ⟨o,by rw [zad (s2 s h)]; exact ho,rfl,rfl,(B2 s g h).1,(B2 s g h).2⟩
  ·rw [zad (s1 s h),(B1 s g h).1,(B1 s g h).2]; exact hz.live s g o (o0 h ho)
 have far:∀ {s g o b},ks.contains s=false->st.obj s g=some o->Z.B s g=some b->¬ ownB Z ⟨[],hp⟩ b/\b<w.heap.size:=fun {s g o b} h ho hb=>by
  refine ⟨fun hx=>?_,hs.lt ho hb⟩
  obtain ⟨s3,g3,o3,c1,c2,c3⟩:=own0 b hx
  obtain ⟨rfl,rfl⟩:=hs.inj _ _ _ _ _ _ b ho c2 hb c3
  rw [h] at c1; cases c1
 have hh:HRep K Z2 ⟨st.sl,hp'++st.hp⟩ w':=by
  have hk0:=hH.keep
  refine ⟨fun s g o ho=>?_,fun s g s' g' o o' b a1 a2 b1 b2=>?_,hH.mem,fun s g o b a1 b1=>?_,fun s g o b a1 b1=>?_,fun b o hb=>hM b o (hs.m0 b o hb),fun b o hb=>?_,?_⟩
  ·cases h:ks.contains s with
   | true =>
    rw [zad (s1 s h)] at ho
    exact ORep.into (Z:=Z') (Z2:=Z2) s1 (fun _ _ h=>h) B1 h (zog hr1 ho) (hH.objs s g o ho)
   | false =>
    rw [zad (s2 s h)] at ho
    exact (hs.objs s g o ho).later hzl (B2 s g h).1 (B2 s g h).2 fun b hb=>hk0.blk b (far h ho hb).2 (fun c=>c.elim (far h ho hb).1 fun c=>(mr b c).1.o _ _ _ ho hb)
  ·cases h:ks.contains s<;>cases h':ks.contains s'
   ·rw [zad (s2 _ h)] at a1; rw [zad (s2 _ h')] at a2; rw [(B2 _ _ h).1] at b1; rw [(B2 _ _ h').1] at b2
    exact hs.inj _ _ _ _ _ _ b a1 a2 b1 b2
   ·rw [zad (s2 _ h)] at a1; rw [zad (s1 _ h')] at a2; rw [(B2 _ _ h).1] at b1; rw [(B1 _ _ h').1] at b2
    have f:=far h a1 b1
    rcases hH.own _ _ _ b a2 b2 with (c|c)|c
    ·exact absurd c f.1
    ·exact absurd b2 ((mr b c).2.2.1.o _ _ _ a2)
    ·have c':w.heap.size<=b:=c
     omega
   ·rw [zad (s1 _ h)] at a1; rw [zad (s2 _ h')] at a2; rw [(B1 _ _ h).1] at b1; rw [(B2 _ _ h').1] at b2
    have f:=far h' a2 b2
    rcases hH.own _ _ _ b a1 b1 with (c|c)|c
    ·exact absurd c f.1
    ·exact absurd b1 ((mr b c).2.2.1.o _ _ _ a1)
    ·have c':w.heap.size<=b:=c
     omega
   ·rw [zad (s1 _ h)] at a1; rw [zad (s1 _ h')] at a2; rw [(B1 _ _ h).1] at b1; rw [(B1 _ _ h').1] at b2
    exact hH.inj _ _ _ _ _ _ b a1 a2 b1 b2
  ·cases h:ks.contains s
   ·rw [zad (s2 _ h)] at a1; rw [(B2 _ _ h).1] at b1
    have f:=far h a1 b1
    cases hm:Z'.M b with
    | none=>rfl
    | some y =>
     exfalso
     rcases hH.prov b y hm with c|(c|c)|c
     ·have c':Z.M b=some y:=c
      rw [hs.sep _ _ _ b a1 b1] at c'; cases c'
     ·exact f.1 c
     ·rw [(mr b c).2.2.1.m] at hm; cases hm
     ·have c':w.heap.size<=b:=c
      omega
   ·rw [zad (s1 _ h)] at a1; rw [(B1 _ _ h).1] at b1
    exact hH.sep _ _ _ b a1 b1
  ·have old:∀ b,ownB Z ⟨[],hp⟩ b->K.X0 b\/K.w0.heap.size<=b:=fun b hx=>by
    obtain ⟨s3,g3,o3,_,c2,c3⟩:=own0 b hx
    exact hs.own _ _ _ b c2 c3
   cases h:ks.contains s
   ·rw [zad (s2 _ h)] at a1; rw [(B2 _ _ h).1] at b1
    exact hs.own _ _ _ b a1 b1
   ·rw [zad (s1 _ h)] at a1; rw [(B1 _ _ h).1] at b1
    rcases hH.own _ _ _ b a1 b1 with (c|c)|c
    ·exact old b c
    ·exact absurd b1 ((mr b c).2.2.1.o _ _ _ a1)
    ·exact .inr (Nat.le_trans hs.keep.size c)
  ·rcases hH.prov b o hb with c|(c|c)|c
   ·exact hs.prov b o c
   ·obtain ⟨s3,g3,o3,_,c2,c3⟩:=own0 b c
    exact .inr (hs.own _ _ _ b c2 c3)
   ·rw [(mr b c).2.2.1.m] at hb; cases hb
   ·exact .inr (.inr (Nat.le_trans hs.keep.size c))
  ·have k1:=hs.keep
   refine ⟨hk0.os.trans k1.os,hk0.tape.trans k1.tape,hk0.output.trans k1.output,Nat.le_trans k1.drawn hk0.drawn,Nat.le_trans k1.size hk0.size,fun b hb hx=>?_⟩
   rw [hk0.blk b (Nat.lt_of_lt_of_le hb k1.size) (fun h=>?_),k1.blk b hb hx]
   have hxx:K.X0 b\/K.w0.heap.size<=b:=by
    rcases h with h|h
    ·obtain ⟨s3,g3,o3,_,c2,c3⟩:=own0 b h
     exact hs.own _ _ _ b c2 c3
    ·exact (mr b h).2.1
   rcases hxx with c|c
   ·exact hx c
   ·omega
 have hf:∀ r,Fgn Z st w r->(∀ s g o,(⟨[],hp'⟩:St).obj s g=some o->Z'.B s g≠some r)->Z'.M r=none->Fgn Z2 ⟨st.sl,hp'++st.hp⟩ w' r:=fun r hr h1 h2=>by
  refine ⟨h2,fun s g o a1 b1=>?_,Nat.lt_of_lt_of_le hr.lt hH.keep.size⟩
  cases h:ks.contains s
  ·rw [zad (s2 _ h)] at a1; rw [(B2 _ _ h).1] at b1
   exact hr.o _ _ _ a1 b1
  ·rw [zad (s1 _ h)] at a1; rw [(B1 _ _ h).1] at b1
   exact h1 _ _ _ a1 b1
 refine ⟨Z2,hh,?_,hzl,⟨hM,fun r hR hr=>?_,hzl⟩,?_⟩
 ·cases res with
  | av v=>exact ARep.into (Z:=Z') (Z2:=Z2) s1 (fun _ _ h=>h) B1 hx hr2
  | fr sz es =>
   refine ⟨hx.1,fun b n c hxe s g o a1 b1=>?_⟩
   cases h:ks.contains s
   ·rw [zad (s2 _ h)] at a1; rw [(B2 _ _ h).1] at b1
    have f:=far h a1 b1
    rcases hx.1 with ⟨_,h0⟩|⟨b',_,_,_,_,h0,h1,_⟩
    ·rw [hxe] at h0; cases h0
    ·rw [hxe] at h0; cases h0; omega
   ·rw [zad (s1 _ h)] at a1; rw [(B1 _ _ h).1] at b1
    exact hx.2 b n c hxe s g o a1 b1
  | bx sz e us =>
   obtain ⟨b,cap,cur,T,vals,ys,h1,h2,h3,h4,h5,h6,h7,h8,h8',h9,h10⟩:=hx
   refine ⟨b,cap,cur,T,vals,ys,h1,h2,h3,h4,h5,AReps.into (Z:=Z') (Z2:=Z2) s1 (fun _ _ h=>h) B1 h6 (zg4 hr2),h7,h8,h8',h9,fun s g o a1 b1=>?_⟩
   cases h:ks.contains s
   ·rw [zad (s2 _ h)] at a1; rw [(B2 _ _ h).1] at b1
    have f:=far h a1 b1; omega
   ·rw [zad (s1 _ h)] at a1; rw [(B1 _ _ h).1] at b1
    exact h10 s g o a1 b1
 ·have hno:¬ ownB Z ⟨[],hp⟩ r:=fun hx=>by
   obtain ⟨s3,g3,o3,_,c2,c3⟩:=own0 r hx
   exact hr.o _ _ _ c2 c3
  refine ⟨hf r hr (fun s g o a1 b1=>?_) ?_,hH.keep.blk r hr.lt fun c=>c.elim hno hR⟩
  ·rcases hH.own _ _ _ r a1 b1 with (c|c)|c
   ·exact hno c
   ·exact hR c
   ·have c':w.heap.size<=r:=c
    have:=hr.lt; omega
  ·cases hm:Z'.M r with
   | none=>rfl
   | some y =>
    exfalso
    rcases hH.prov r y hm with c|(c|c)|c
    ·have c':Z.M r=some y:=c
     rw [hr.m] at c'; cases c'
    ·exact hno c
    ·exact hR c
    ·have c':w.heap.size<=r:=c
     have:=hr.lt; omega
 ·cases ho':o' with
  | none=>trivial
  | some m' =>
   subst ho'
   obtain ⟨g1,g2,g3⟩:=mr m'.1 (mr' _ rfl)
   obtain ⟨m1,m2,m3⟩:=hm'
   exact ⟨hf _ g1 m1.o m1.m,g2,m3⟩
theorem zzo {hp:List Site} {o:Option MapD} (hsite:∀ s,(hp.map (·.1)).contains s=true->st.site s=look hp s []) (hr:hpOk (hp.map (·.1)) hp=true) (hs:HRep K Z st w) (hm:zes o K Z st w):HRep (ctxH Z hp o w) Z ⟨[],hp⟩ w/\zes o (ctxH Z hp o w) Z ⟨[],hp⟩ w:=by
 have k0:∀ {s g o},(⟨[],hp⟩:St).obj s g=some o->(hp.map (·.1)).contains s=true:=fun {s g o} ho=>by
  cases h:(hp.map (·.1)).contains s with
  | true=>rfl
  | false=>simp [St.obj,St.site,zf9 h] at ho
 have o0:∀ {s g o},(⟨[],hp⟩:St).obj s g=some o->st.obj s g=some o:=fun {s g o} ho=>by rw [zad (st2:=st) (st:=⟨[],hp⟩) (hsite s (k0 ho))]; exact ho
 refine ⟨⟨fun s g o ho=>ORep.into (st:=st) (st2:=⟨[],hp⟩) (Z2:=Z) (fun s h=>(hsite s h).symm) (fun _ _ h=>h) (fun _ _ _=>⟨rfl,rfl⟩) (k0 ho) (zog hr ho) (hs.objs s g o (o0 ho)),fun s g s' g' o o' b a1 a2=>hs.inj s g s' g' o o' b (o0 a1) (o0 a2),hs.mem,fun s g o b a1=>hs.sep s g o b (o0 a1),
  fun s g o b a1 b1=>.inl (.inl ⟨s,g,o,a1,b1⟩),fun _ _ h=>h,fun _ _ h=>.inl h,⟨rfl,rfl,rfl,Nat.le_refl _,Nat.le_refl _,fun _ _ _=>rfl⟩⟩,?_⟩
 cases o with
 | none=>trivial
 | some m=>exact ⟨⟨hm.1.m,fun s g o a1=>hm.1.o s g o (o0 a1),hm.1.lt⟩,.inl (.inr rfl),hm.2.2⟩
theorem HRes.take {res:HV} {dd:Nat} {x:Value} {o:Option MapD} {w0:World} (hs:HRep K Z st w) (h:HRes res Z st w0 w x) (hr:zeo ks res=true) (h0:K.w0.heap.size<=w0.heap.size) (hm:zes o K Z st w) (hmlt:∀ b,isR o b->b<w0.heap.size) :
  ∃ Z2 v st2,zdj res st dd=(v,st2)/\HRep K Z2 st2 w/\ARep Z2 st2 v x/\st2.sl=st.sl/\ZLe Z st Z2 st2/\(∀ r,r<w0.heap.size->Fgn Z st w r->Fgn Z2 st2 w r)/\zes o K Z2 st2 w:=by
 have mk:∀ {Z2:Cz} {bo:Option Nat} {c:Nat} {u:AV} {ob:AObj},Z2=Z.setB dd (st.site dd).length bo c->(∀ b,bo=some b->w0.heap.size<=b)->zdj res st dd=(u,st.alloc dd ob)->HRep K Z2 (st.alloc dd ob) w->ARep Z2 (st.alloc dd ob) u x ->
    ∃ Z2 v st2,zdj res st dd=(v,st2)/\HRep K Z2 st2 w/\ARep Z2 st2 v x/\st2.sl=st.sl/\ZLe Z st Z2 st2/\(∀ r,r<w0.heap.size->Fgn Z st w r->Fgn Z2 st2 w r)/\zes o K Z2 st2 w:=by
  rintro Z2 bo c u ob rfl hb he h1 h2
  have hf:∀ r,r<w0.heap.size->Fgn Z st w r->Fgn (Z.setB dd (st.site dd).length bo c) (st.alloc dd ob) w r:=fun r hr hF=>by
   refine ⟨hF.m,fun s g o a1 b1=>?_,hF.lt⟩
   rw [zam] at a1
   simp only [Cz.setB] at b1
   by_cases hx:s=dd/\g=(st.site dd).length
   ·rw [if_pos hx] at b1; have:=hb _ b1; omega
   ·rw [if_neg hx] at a1 b1; exact hF.o _ _ _ a1 b1
  refine ⟨_,_,_,he,h1,h2,rfl,ZLe.alloc _ _ _ _ _ _,hf,?_⟩
  cases o with
  | none=>trivial
  | some m=>exact ⟨hf _ (hmlt _ rfl) hm.1,hm.2⟩
 cases res with
 | av v=>exact ⟨Z,v,st,rfl,hs,h,rfl,ZLe.refl Z st,fun _ _ h=>h,hm⟩
 | bx sz e us =>
  simp only [zeo,Bool.and_eq_true,decide_eq_true_eq,beq_iff_eq] at hr
  obtain ⟨⟨hsz,hp⟩,_⟩:=hr
  obtain ⟨b,cap,cur,T,vals,ys,rfl,h2,h3,h4,h5,h6,h7,h8,h8',h9,h10⟩:=h
  have had:=hs.adopt dd ⟨sz,[e]⟩ b cur T cap vals h5 h4 (fun s g o ho=>h10 s g o ho) (.inr (Nat.le_trans h0 h3)) hp (fun x hx=>by rw [List.mem_singleton] at hx; subst hx; exact hsz)
    (fun q hq=>h9 q (by simpa using hq)) (by simpa using h6) h7 h8 (by simpa using h8'.1) h8'.2
  refine mk (u:=.tup (.ptr dd (st.site dd).length 0 0::us.map .p)) (ob:=⟨sz,[e]⟩) rfl (fun b' hb=>by cases hb; exact h3) rfl had (.tup _ _ (.cons _ _ _ _ ?_ (AReps.of_p h2)))
  have:=ARep.ptr (Z:=Z.setB dd (st.site dd).length (some b) cap) (st:=st.alloc dd ⟨sz,[e]⟩) dd (st.site dd).length 0 0 ⟨sz,[e]⟩ b (by rw [zam,if_pos ⟨rfl,rfl⟩]) (by simp [Cz.setB])
  simpa using this
 | fr sz es =>
  simp only [zeo,Bool.and_eq_true,decide_eq_true_eq] at hr
  obtain ⟨hall,hp⟩:=hr
  have hsz:∀ e∈es,e.sz=sz:=fun e he=>by simpa using List.all_eq_true.1 hall e he
  obtain ⟨hrr,hno⟩:=h
  rcases hrr with ⟨rfl,rfl⟩|⟨b,cap,cur,T,vals,rfl,r1,r2,r3,r4,r5,r6,r7,r8,r9⟩
  ·exact mk (u:=.own dd (st.site dd).length 0 0) (ob:=⟨sz,[]⟩) rfl (fun b hb=>(by cases hb)) rfl (hs.allocNil dd sz hp) (.own0 dd _ ⟨sz,[]⟩ (by rw [zam,if_pos ⟨rfl,rfl⟩]) (by simp [Cz.setB]))
  ·have hreps:AReps Z st ((es.map AV.p).flatMap AV.cells) vals:=by
    rw [zaj]; exact AReps.of_p r4
   have had:=hs.adopt dd ⟨sz,es.map .p⟩ b cur T cap vals r3 r2 (fun s g o ho=>hno b _ _ rfl s g o ho) (.inr (Nat.le_trans h0 r1)) hp
     (fun e he=>by simp at he; obtain ⟨q,hq,rfl⟩:=he; exact hsz q hq)
     (fun q hq=>by rw [zaj] at hq; simp only [List.mem_map] at hq; obtain ⟨u,hu,rfl⟩:=hq; exact r9 u hu)
     hreps r5 r6 (by simpa using r7) r8
   exact mk (u:=.own dd (st.site dd).length 0 es.length) (ob:=⟨sz,es.map .p⟩) rfl (fun b' hb=>by cases hb; exact r1) rfl had (.own dd _ 0 es.length ⟨sz,es.map .p⟩ b _ cap (by rw [zam,if_pos ⟨rfl,rfl⟩]) (by simp [Cz.setB]) (fun _=>⟨rfl,by simp [Cz.setB]⟩) (fun _=>by simp) (by simp) r7)
end
end Go.Ab
namespace Go.Ab
section
variable {P:Program} {K:Ctx} {Z Z':Cz} {st st':St} {w w':World} {a:Act} {orc:Option PCall} {d:Nat} {v:AV}
theorem zch {α β : Type} {x:Option α} {f : α -> Option β} {b : β} (h:x.bind f=some b):∃ y,x=some y/\f y=some b:=by
 cases x with
 | none=>cases h
 | some y=>exact ⟨y,rfl,h⟩
theorem mapS {α β : Type} {x:Option α} {f : α -> β} {b : β} (h:x.map f=some b):∃ y,x=some y/\f y=b:=by
 cases x with
 | none=>cases h
 | some y=>exact ⟨y,rfl,by simpa using h⟩
def ybg (z:AV):Bool->Option PV->AV
 | false,some u=>.p u
 | false,none=>z
 | true,some u=>.tup [.p u,.p (.bool true)]
 | true,none=>.tup [z,.p (.bool false)]
theorem zy4 {t:TypeId} {m k:Operand} {c:Bool} {o:IOp} (hc:zfm P t m k c=some o) (hs:StRep K Z st w a) (he:eff orc st d o=some (v,st')) :
  Good P K Z st ((do pure (Next.value (<- Instr.lookup t (a.eval m) (a.eval k) c)):Sem Next).run P w) v st':=by
 unfold zfm at hc
 split at hc
 ·rename_i kt et ht
  obtain ⟨qs,hq,hc⟩:=zch hc
  obtain ⟨m',hm,hc⟩:=zch hc
  obtain ⟨k',hk',hc⟩:=zch hc
  obtain ⟨z,hz,rfl⟩:=mapS hc
  have hrm:=zap hm hs
  have hrk:=zap hk' hs
  obtain ⟨i,zx,hi,hzi,hzr⟩:=zc3 hz
  obtain ⟨law,hko⟩:=zvg hq
  generalize a.eval m=X at hrm ⊢
  generalize a.eval k=Y at hrk ⊢
  have key:∀ {r:Nat} {ks vs kc:List PV},st.ev m'=.p (.mp r ks vs)->st.ev k'=.p (.agg kc)->zcf qs kc=true->ks.all (zek qs)=true ->
    ∃ x,(Instr.lookup t X Y c).run P w=.ok x w/\ARep Z st (ybg z c (zbp kc ks vs)) x:=by
   intro r ks vs kc h1 h2 hk1 hk2
   rw [h1] at hrm; rw [h2] at hrk
   cases hrm.inv_p with
   | mp _ _ _ es clock m0 m1 m2 m3 m4 m5 =>
    cases hrk.inv_p with
    | agg _ vals _ hvals =>
     obtain ⟨l,hl⟩:=hko hk1 hvals
     have hb:=hs.heap.mem r _ m0
     have hall:=zio (fun h1 h2=>hko h1 h2) hk2 m1
     obtain ⟨f1,f2⟩:=zi3 hk1 hvals hk2 m1 m2 m3
     have hchk:=law.check w es.isEmpty hl
     have hget:(getObj r).run P w=.ok (.map es clock) w:=by simp [getObj,Sem.run,hb]
     have hzv:(zeroValue et).run P w=.ok zx w:=by simp [zeroValue,typeInfo,hi,hzi]
     rcases law.find w hl es.toList hall with ⟨g1,g2⟩|⟨j,e0,g1,g2,g3⟩
     ·rw [f1 g2]
      cases c with
      | false=>exact ⟨zx,by simp [Instr.lookup,run_underlying ht,hget,hchk,g1,hzv],hzr Z st⟩
      | true=>exact ⟨.tuple #[zx,.bool false],by simp [Instr.lookup,run_underlying ht,hget,hchk,g1,hzv],.tup _ [zx,.bool false] (.cons _ _ _ _ (hzr Z st) (.cons _ _ _ _ (.p _ _ (.bool false)) .nil))⟩
     ·obtain ⟨u,hu1,hu2⟩:=f2 j e0 g2 g3
      rw [hu1]
      cases c with
      | false=>exact ⟨e0.val,by simp [Instr.lookup,run_underlying ht,hget,hchk,g1],.p _ _ hu2⟩
      | true=>exact ⟨.tuple #[e0.val,.bool true],by simp [Instr.lookup,run_underlying ht,hget,hchk,g1],.tup _ [e0.val,.bool true] (.cons _ _ _ _ (.p _ _ hu2) (.cons _ _ _ _ (.p _ _ (.bool true)) .nil))⟩
  cases c with
  | false =>
   simp only [eff,Bool.false_eq_true,if_false] at he
   split at he
   ·rename_i r ks vs kc h1 h2
    split at he
    ·rename_i hkk
     simp only [Option.some.injEq,Prod.mk.injEq] at he
     obtain ⟨rfl,rfl⟩:=he
     obtain ⟨x,e1,e2⟩:=key h1 h2 hkk.1 hkk.2
     refine zaq (x:=x) (by simp [e1]) hs ?_
     cases hf:zbp kc ks vs<;>rw [hf] at e2<;>exact e2
    ·cases he
   ·cases he
  | true =>
   simp only [eff,if_true] at he
   split at he
   ·rename_i r ks vs kc h1 h2
    split at he
    ·rename_i hkk
     simp only [Option.some.injEq,Prod.mk.injEq] at he
     obtain ⟨rfl,rfl⟩:=he
     obtain ⟨x,e1,e2⟩:=key h1 h2 hkk.1 hkk.2
     refine zaq (x:=x) (by simp [e1]) hs ?_
     cases hf:zbp kc ks vs<;>rw [hf] at e2<;>exact e2
    ·cases he
   ·cases he
 ·cases hc
theorem zxj {l:List Operand} {x:Opd} (h:za0 l=some [x]):∃ x0,l=[x0]/\zag x0=some x:=by
 cases l with
 | nil=>simp [za0] at h
 | cons y ys =>
  simp only [za0] at h
  split at h
  ·rename_i p q e1 e2
   cases h
   cases ys with
   | nil=>exact ⟨y,rfl,e1⟩
   | cons z zs=>simp only [za0] at e2; split at e2<;>cases e2
  ·cases h
theorem znd {l:List Operand} {x y:Opd} (h:za0 l=some [x,y]):∃ x0 y0,l=[x0,y0]/\zag x0=some x/\zag y0=some y:=by
 cases l with
 | nil=>simp [za0] at h
 | cons a l =>
  simp only [za0] at h
  split at h
  ·rename_i p q e1 e2
   cases h
   cases l with
   | nil=>simp [za0] at e2
   | cons b l =>
    simp only [za0] at e2
    split at e2
    ·rename_i p' q' e3 e4
     cases e2
     cases l with
     | nil=>exact ⟨a,b,rfl,e1,e3⟩
     | cons c l=>simp only [za0] at e4; split at e4<;>cases e4
    ·cases e2
  ·cases h
theorem z8j {o:Oper} {i:IOp} (hc:zbv P o.op=some i) (hn:∀ c f,o.op=.call c->c.callee ≠ .value f) (hs:StRep K Z st w a) (he:eff orc st d i=some (v,st')):Good P K Z st ((execOp a.eval o).run P w) v st':=by
 unfold execOp
 cases hop:o.op<;>rw [hop] at hc<;>simp only [zbv] at hc
 case move x=>obtain ⟨y,h1,rfl⟩:=mapS hc; exact z3g h1 hs he
 case assign x=>obtain ⟨y,h1,rfl⟩:=mapS hc; exact z3g h1 hs he
 case pick c x y =>
  obtain ⟨c',h1,hc⟩:=zch hc
  obtain ⟨x',h2,hc⟩:=zch hc
  obtain ⟨y',h3,rfl⟩:=mapS hc
  exact z12 h1 h2 h3 hs he
 case alloc e=>obtain ⟨z,h1,rfl⟩:=mapS hc; exact zzb h1 hs he
 case box e x=>obtain ⟨y,h1,rfl⟩:=mapS hc; exact z5n h1 hs he
 case build t parts =>
  split at hc
  ·rename_i fs hu
   obtain ⟨pl,h1,hc⟩:=zch hc
   obtain ⟨z,h2,hc⟩:=zch hc
   split at hc
   ·rename_i hz
    obtain ⟨l,h3,rfl⟩:=mapS hc
    exact zza hu h1 h2 hz h3 hs he
   ·cases hc
  ·rename_i n e hu
   obtain ⟨ie,h1,hc⟩:=zch hc
   obtain ⟨z,h2,hc⟩:=zch hc
   split at hc
   ·rename_i hz
    obtain ⟨l,h3,rfl⟩:=mapS hc
    exact zvc hu h1 h2 hz h3 hs he
   ·cases hc
  ·cases hc
 case buildSlice t n parts =>
  split at hc
  ·rename_i e hu
   obtain ⟨z,h1,hc⟩:=zch hc
   obtain ⟨l,h2,rfl⟩:=mapS hc
   exact zvd hu h1 h2 hs he
  ·cases hc
 case load t x =>
  obtain ⟨y,h1,hc⟩:=zch hc
  split at hc
  ·rename_i ht; cases hc; exact z14 h1 ht hs he
  ·cases hc
 case store t p x =>
  obtain ⟨q,h1,hc⟩:=zch hc
  obtain ⟨y,h2,hc⟩:=zch hc
  split at hc
  ·rename_i ht
   cases hc
   have:v=.undef:=by
    simp only [eff] at he
    (repeat' split at he)<;>first|cases he; rfl|cases he
   subst this
   exact zy1 h1 h2 ht hs he
  ·cases hc
 case nilCheck x=>obtain ⟨y,h1,rfl⟩:=mapS hc; exact zy3 h1 hs he
 case binOp op t x y t2 =>
  obtain ⟨x',h1,hc⟩:=zch hc
  obtain ⟨y',h2,hc⟩:=zch hc
  split at hc
  ·cases hc; exact z16 h1 h2 hs he
  ·rename_i hu; cases hc; exact z19 hu h1 h2 hs he
  ·rename_i hu; exact zy5 hu h1 h2 hc hs he
  ·obtain ⟨ks,h3,rfl⟩:=mapS hc; exact z2a h3 h1 h2 hs he
 case unOp op t x =>
  obtain ⟨x',h1,hc⟩:=zch hc
  split at hc
  ·cases hc; exact z5h h1 hs he
  ·cases hc; exact z5i h1 hs he
  ·cases hc; exact z15 h1 hs he
  ·cases hc
 case convert s t x =>
  obtain ⟨x',h1,hc⟩:=zch hc
  split at hc
  ·rename_i h2 h3; cases hc; exact z18 h2 h3 h1 hs he
  ·cases hc
 case makeFunc fn first caps =>
  unfold zgs at hc
  split at hc
  ·rename_i f
   split at hc
   ·rename_i h0
    obtain ⟨l,h1,rfl⟩:=mapS hc
    have:first = #[]:=Array.eq_empty_of_size_eq_zero h0
    subst this
    exact z13 h1 hs he
   ·cases hc
  ·cases hc
 case makeSlice t l c =>
  split at hc
  ·rename_i e hu
   obtain ⟨l',h1,hc⟩:=zch hc
   obtain ⟨c',h2,hc⟩:=zch hc
   obtain ⟨z,h3,hc⟩:=zch hc
   split at hc
   ·rename_i hb; cases hc; exact zrt hu h3 hb h1 h2 hs he
   ·cases hc
  ·cases hc
 case slice t x lo hi mx =>
  unfold ze5 at hc
  split at hc
  ·cases hc
  ·split at hc
   ·rename_i e hu
    split at hc
    ·rename_i hi0
     obtain ⟨x',h1,hc⟩:=zch hc
     obtain ⟨lo',h2,hc⟩:=zch hc
     obtain ⟨hi',h3,rfl⟩:=mapS hc
     have hoo:∀ {y:Option Operand} {y':Option Opd},zt3 y=some y'->(y=none/\y'=none)\/∃ l l',y=some l/\y'=some l'/\zag l=some l':=by
      intro y y' h
      cases y with
      | none=>simp [zt3] at h; exact .inl ⟨rfl,h.symm⟩
      | some l=>obtain ⟨l',h4,rfl⟩:=mapS h; exact .inr ⟨l,l',rfl,rfl,h4⟩
     exact zy2 hu hi0 h1 (hoo h2) (hoo h3) hs he
    ·cases hc
   ·cases hc
 case fieldAddr s x f =>
  split at hc
  ·rename_i fs hu
   split at hc
   ·rename_i fd hf
    split at hc
    ·rename_i hp
     obtain ⟨x',h1,rfl⟩:=mapS hc
     exact zy8 hu hf hp h1 hs he
    ·cases hc
   ·cases hc
  ·cases hc
 case field s x f =>
  split at hc
  ·rename_i fs hu
   split at hc
   ·rename_i fd hf
    split at hc
    ·rename_i ht
     obtain ⟨x',h1,rfl⟩:=mapS hc
     exact zy7 hu hf ht h1 hs he
    ·cases hc
   ·cases hc
  ·cases hc
 case indexAddr t x i =>
  split at hc
  ·rename_i e hu
   split at hc
   ·rename_i hi
    obtain ⟨x',h1,hc⟩:=zch hc
    obtain ⟨i',h2,rfl⟩:=mapS hc
    exact zy6 hu hi h1 h2 hs he
   ·cases hc
  ·rename_i n e hu
   split at hc
   ·rename_i hi
    obtain ⟨x',h1,hc⟩:=zch hc
    obtain ⟨i',h2,rfl⟩:=mapS hc
    exact zvb hu hi h1 h2 hs he
   ·cases hc
  ·cases hc
 case index t x i =>
  split at hc
  ·rename_i n e hu
   split at hc
   ·rename_i ht
    obtain ⟨x',h1,hc⟩:=zch hc
    obtain ⟨i',h2,rfl⟩:=mapS hc
    exact z5k hu ht h1 h2 hs he
   ·cases hc
  ·rename_i hu
   obtain ⟨x',h1,hc⟩:=zch hc
   obtain ⟨i',h2,rfl⟩:=mapS hc
   exact z11 hu h1 h2 hs he
  ·cases hc
 case extract x i=>obtain ⟨x',h1,rfl⟩:=mapS hc; exact zru h1 hs he
 case call c =>
  obtain ⟨as,h1,hc⟩:=zch hc
  have hargs:c.args.map a.eval=((c.args.toList).map a.eval).toArray:=by simp [<- Array.toList_map]
  unfold zck at hc
  split at hc
  ·rename_i f hcal; exact (hn c f hop hcal).elim
  ·cases hc
  ·rename_i b hcal
   split at hc
   ·split at hc
    ·rename_i x
     split at hc
     ·rename_i ht
      cases hc
      obtain ⟨x0,hx0,hx1⟩:∃ x0,c.args.toList=[x0]/\zag x0=some x:=by
       cases hl:c.args.toList with
       | nil=>rw [hl] at h1; simp [za0] at h1
       | cons y ys =>
        rw [hl] at h1
        simp only [za0] at h1
        split at h1
        ·rename_i p q e1 e2
         cases h1
         cases ys with
         | nil=>exact ⟨y,rfl,e1⟩
         | cons z zs=>simp only [za0] at e2; split at e2<;>cases e2
        ·cases h1
      have:=z5j (args:=c.argTypes) (ty:=o.type) ht hx1 hs he
      simpa [resolve,hcal,invoke,builtin,hargs,hx0] using this
     ·cases hc
    ·cases hc
   ·split at hc
    ·rename_i x y t u h3 h4
     split at hc
     ·rename_i e hu
      split at hc
      ·rename_i hcond
       obtain ⟨g1,g2,g3⟩:=hcond
       cases hc
       obtain ⟨x0,y0,hl,hx,hy⟩:=znd h1
       obtain ⟨z0,hz0,hz1⟩:=Option.map_eq_some_iff.1 g2
       have:=zve (A:=c.argTypes) (ty:=o.type) h3 h4 hu g1 (by rw [hz0]; rfl) g3 (fun z hz=>by rw [hz0] at hz; cases hz; exact hz1) hx hy hs he
       simpa [resolve,hcal,invoke,builtin,hargs,hl] using this
      ·split at hc
       ·rename_i hcond
        obtain ⟨g1,g2,g3⟩:=hcond
        obtain ⟨z0,hz0,rfl⟩:=mapS hc
        obtain ⟨x0,y0,hl,hx,hy⟩:=znd h1
        obtain ⟨k,hk⟩:∃ k,P.underlying u=some (.int k):=by
         cases hu2:P.underlying u with
         | none=>simp [hu2,z43] at g1
         | some d=>cases d<;>simp [hu2,z43] at g1; exact ⟨_,rfl⟩
        have:=zrv (A:=c.argTypes) (ty:=o.type) h3 h4 hu hk hz0 g3 hx hy hs he
        simpa [resolve,hcal,invoke,builtin,hargs,hl] using this
       ·cases hc
     ·cases hc
    ·cases hc
   ·split at hc
    ·rename_i x
     split at hc
     ·rename_i ht
      cases hc
      obtain ⟨x0,hx0,hx1⟩:=zxj h1
      have:=z5m (args:=c.argTypes) (ty:=o.type) ht hx1 hs he
      simpa [resolve,hcal,invoke,builtin,hargs,hx0] using this
     ·cases hc
    ·cases hc
   ·split at hc
    ·rename_i x t h3
     split at hc
     ·rename_i e hu
      obtain ⟨z,hz,rfl⟩:=mapS hc
      obtain ⟨x0,hx0,hx1⟩:=zxj h1
      have:=zy9 (A:=c.argTypes) (ty:=o.type) h3 hu hz hx1 hs he
      simpa [resolve,hcal,invoke,builtin,hargs,hx0] using this
     ·cases hc
    ·cases hc
   ·split at hc
    ·rename_i a1 x1 t h3
     split at hc
     ·rename_i e hu
      split at hc
      ·rename_i hz
       cases hc
       obtain ⟨x0,y0,hl,hx,hy⟩:=znd h1
       have:=z17 (A:=c.argTypes) (ty:=o.type) h3 hu hz hx hy hs he
       simpa [resolve,hcal,invoke,builtin,hargs,hl] using this
      ·cases hc
     ·cases hc
    ·cases hc
   ·cases hc
    simp only [eff] at he
    split at he
    ·rename_i r hr
     simp only [Option.some.injEq,Prod.mk.injEq] at he
     obtain ⟨rfl,rfl⟩:=he
     have:=zm3 (P:=P) (mx:=false) (args:=c.argTypes) (ty:=o.type) h1 hs hr
     simpa [resolve,hcal,invoke,builtin] using this
    ·cases he
   ·cases hc
    simp only [eff] at he
    split at he
    ·rename_i r hr
     simp only [Option.some.injEq,Prod.mk.injEq] at he
     obtain ⟨rfl,rfl⟩:=he
     have:=zm3 (P:=P) (mx:=true) (args:=c.argTypes) (ty:=o.type) h1 hs hr
     simpa [resolve,hcal,invoke,builtin] using this
    ·cases he
   ·cases hc
 case lookup t m k b=>exact zy4 hc hs he
 all_goals first|(cases hc; done)|(cases hc; simp only [eff] at he; cases he)
theorem zen {f:FuncId} {args:Array Value} (h:∃ fn,P.funcs[f]?=some fn/\fn.body.isSome=true/\fn.name ≠ "runtime.NumGoroutine"):(callFunc f args).run P w=.ok (.enter f args) w:=by
 obtain ⟨fn,h1,h2,h3⟩:=h
 simp [callFunc,h1,h3]
 intro hb; simp [hb] at h2
def PCall.ok (P:Program) (c:PCall):Prop :=
 match c.res with
 | .hsp vs hp res hp'=>HSpG P c.f vs hp none res hp' none
 | _=>match c.tn with
  | none=>Sp P c.f c.args c.res
  | some (i,sz,es')=>SpM P c.f c.args i sz es' c.res
theorem zct {f:FuncId} {vs:List AV} (he:zcd orc st d f vs=some (v,st')):∃ c,orc=some c/\f=c.f/\zh4 c st vs/\zea c st d vs=some (v,st'):=by
 unfold zcd at he
 split at he
 ·rename_i c
  by_cases h:f=c.f/\zh4 c st vs
  ·rw [if_pos h] at he; exact ⟨c,rfl,h.1,h.2,he⟩
  ·rw [if_neg h] at he; cases he
 ·cases he
def zpx:RV->Bool
 | .hsp _ _ _ _=>true
 | _=>false
theorem zxq {c:PCall} (h:zpx c.res=false) (st:St) (vs:List AV):zh4 c st vs=(vs.mapM (toPV st FUEL)=some c.args):=by
 unfold zh4; cases hr:c.res<;>first|rfl|(rw [hr] at h; cases h)
theorem zxr {c:PCall} (h:zpx c.res=false) (st:St) (d:Nat) (vs:List AV):zea c st d vs=match c.tn with|none=>zev c st d (vs.flatMap (deps st FUEL))|some (i,sz,es')=>zfp c i sz es' st vs:=by
 unfold zea; cases hr:c.res<;>first|rfl|(rw [hr] at h; cases h)
theorem ybe {c:PCall} (h:zpx c.res=false):PCall.ok P c=match c.tn with|none=>Sp P c.f c.args c.res|some (i,sz,es')=>SpM P c.f c.args i sz es' c.res:=by
 unfold PCall.ok; cases hr:c.res<;>first|rfl|(rw [hr] at h; cases h)
theorem zjt {α β : Type} {f : α -> Option β}:∀ {xs:List α} {r:List β},xs.mapM f=some r->∀ (j:Nat) (x : α),xs[j]?=some x->∃ y,r[j]?=some y/\f x=some y
 | [],r,_,j,x,hx=>by simp at hx
 | z::xs,r,h,j,x,hx=>by
  obtain ⟨y,ys,h1,h2,rfl⟩:=zbw h
  cases j with
  | zero=>simp at hx; subst hx; exact ⟨y,rfl,h1⟩
  | succ j=>simpa using zjt h2 j x (by simpa using hx)
theorem z0a {n s g off len:Nat}:toPV st (n+1) (.own s g off len)=match st.obj s g with
  | some o=>if off+len<=o.es.length then (((o.es.drop off).take len).mapM (toPV st n)).map .sl else none
  | none=>none:=rfl
theorem zz9 {n s g ix off:Nat}:toPV st (n+1) (.ptr s g ix off)=if ix=0/\off=0 then match st.obj s g with
   | some o=>match o.es with
    | [e]=>(toPV st n e).map .ref
    | _=>none
   | none=>none
   else none:=rfl
theorem z1b {vs:List AV} {vals:List Value} {args:List PV} {s g len i:Nat} {sl:Bool} {o:AObj} {ids:List (Nat × Nat)} (hs:HRep K Z st w) (hr:AReps Z st vs vals) (hm:vs.mapM (toPV st FUEL)=some args) (href:zi1 vs[i]?=some (s,g,len,sl)) (ho:st.obj s g=some o) (hlen:len=o.es.length)
  (hids:ids=(vs.eraseIdx i).flatMap (deps st FUEL)++o.es.flatMap (deps st 5)) (hni:(s,g)∉ids) :
  ∃ es,MArr (Mx Z st w ids) w (Z.B s g) (Z.cap s g) o.sz es/\es.length=o.es.length/\∀ p,args[i]?=some p->∃ x,vals[i]?=some x/\MRef p es (Z.B s g) (Z.cap s g) x:=by
 have hO:=hs.objs s g o ho
 have key:∀ es,o.es.mapM (toPV st 5)=some es->MArr (Mx Z st w ids) w (Z.B s g) (Z.cap s g) o.sz es:=by
  intro es hes
  have hlen:=zfh hes
  cases hb:Z.B s g with
  | none =>
   have h0:=hO.non hb
   rw [h0] at hes
   have:=zb6 hes
   subst this
   exact ⟨hO.pos,by simp,by simp,fun _=>rfl,fun b hb=>by cases hb⟩
  | some b =>
   obtain ⟨cur,T,vals,k1,k2,k3,k4,k5,k6⟩:=hO.blk b hb
   obtain ⟨r1,r2,r3⟩:=zgb (w:=w) (n:=5) (ids:=ids) hO.pos (zfv hs ids 5) k2 hes hO.els hO.one (fun i hi=>by rw [hids]; exact List.mem_append.2 (.inr hi))
   refine ⟨hO.pos,r2,r3,fun (h:some b=none)=>(by cases h),fun b' hb'=>?_⟩
   cases hb'
   refine ⟨?_,cur,T,vals,k1,r1,k3,k4,by omega,k6⟩
   cases hmx:Mx Z st w ids b with
   | none=>rfl
   | some y =>
    exfalso
    rcases zbs hmx with h|⟨_,_,s',g',ob,e1,e2,e3⟩
    ·rw [hs.sep s g o b ho hb] at h; cases h
    ·obtain ⟨rfl,rfl⟩:=hs.inj s g s' g' o ob b ho e2 hb e3
     exact hni e1
 rcases zks href with ⟨hu,_⟩|⟨hu,hl1,_⟩
 ·obtain ⟨p,hp,htp⟩:=zjt hm i _ hu
  obtain ⟨x,hx,hrx⟩:=hr.get i _ hu
  rw [FUEL,z0a] at htp
  simp only [ho,Nat.zero_add,List.drop_zero] at htp
  rw [if_pos (by omega),List.take_of_length_le (by omega)] at htp
  obtain ⟨es,hes,rfl⟩:=Option.map_eq_some_iff.1 htp
  have hl:=zfh hes
  refine ⟨es,key es hes,hl,fun q hq=>⟨x,hx,?_⟩⟩
  rw [hp] at hq; cases hq
  refine .inl ⟨rfl,?_⟩
  cases hrx with
  | own0 _ _ o' ho' hb=>rw [hb]
  | own _ _ _ _ o' b ad c ho' hb h1 h2 h3 h4 =>
   obtain ⟨rfl,rfl⟩:=h1 rfl
   rw [hb,hl,<- hlen]
  | ownD _ _ _ _ _ _ _ hd=>exact (zax ho hd).elim
 ·obtain ⟨p,hp,htp⟩:=zjt hm i _ hu
  obtain ⟨x,hx,hrx⟩:=hr.get i _ hu
  rw [FUEL,zz9] at htp
  simp only [ho,and_self,if_true] at htp
  split at htp
  ·rename_i e he
   obtain ⟨q,hq,rfl⟩:=Option.map_eq_some_iff.1 htp
   refine ⟨[q],key [q] (by rw [he]; simp [hq]),by rw [he]; rfl,fun q' hq'=>⟨x,hx,?_⟩⟩
   rw [hp] at hq'; cases hq'
   obtain ⟨b,hb,rfl⟩:=zed hrx ho
   exact .inr ⟨q,b,rfl,rfl,hb,by simp⟩
  ·cases htp
theorem z5s {o:Oper} {i:IOp} {cc:Call} {f:Operand} (hc:zbv P o.op=some i) (hop:o.op=.call cc) (hf:cc.callee=.value f) (hs:StRep K Z st w a) (he:eff orc st d i=some (v,st')) (horc:∀ c,orc=some c->c.ok P)
  {next:Act->World->Prop} {Q:Exit->Act->World->Prop} (hnext:∀ w' Z' x,HRep K Z' st' w'->ARep Z' st' v x->ZLe Z st Z' st'->next (a.put o.dst x) w'):o.wp P a w next Q:=by
 obtain ⟨as,hops,hcal⟩:∃ as,za0 cc.args.toList=some as/\zck P cc.callee cc.argTypes as=some i:=by
  rw [hop] at hc
  simp only [zbv] at hc
  obtain ⟨as,h1,h2⟩:=zch hc
  exact ⟨as,h1,h2⟩
 have hr:=zih hops hs
 have hargs:cc.args.map a.eval=((cc.args.toList).map a.eval).toArray:=by simp [<- Array.toList_map]
 obtain ⟨c,caps,cvals,horc',hfv,hcv,hm,hres⟩:∃ (c:PCall) (caps:List AV) (cvals:List Value),orc=some c/\a.eval f=.func (.func c.f) #[] cvals.toArray/\AReps Z st caps cvals /\
   zh4 c st (as.map st.ev++caps)/\zea c st d (as.map st.ev++caps)=some (v,st'):=by
  rw [hf] at hcal
  simp only [zck] at hcal
  split at hcal
  ·rename_i g hg
   cases hcal
   have hfr:=zap hg hs
   simp only [St.ev] at hfr
   simp only [eff] at he
   obtain ⟨c,h1,h2,h3,h4⟩:=zct he
   subst h2
   have hp:=hfr.inv_p
   generalize a.eval f=F at hp ⊢
   cases hp with
   | fn _ _ vals h=>cases h; exact ⟨c,[],[],h1,rfl,.nil,by simpa using h3,by simpa using h4⟩
  ·rename_i f' hg
   cases hcal
   have hfr:=zap hg hs
   simp only [eff] at he
   split at he
   ·rename_i g caps hev
    rw [hev] at hfr
    obtain ⟨c,h1,h2,h3,h4⟩:=zct he
    subst h2
    have hp:=hfr.inv_p
    generalize a.eval f=F at hp ⊢
    cases hp with
    | fn _ _ vals h=>exact ⟨c,caps.map .p,vals,h1,rfl,AReps.of_p h,h3,h4⟩
   ·rename_i g caps hev
    rw [hev] at hfr
    obtain ⟨c,h1,h2,h3,h4⟩:=zct he
    subst h2
    generalize a.eval f=F at hfr ⊢
    cases hfr with
    | fn _ _ vals h=>exact ⟨c,caps,vals,h1,rfl,h,h3,h4⟩
   ·cases he
  ·cases hcal
 have hok:=horc c horc'
 have hvals:=hr.append hcv
 have hrun:(∃ fn,P.funcs[c.f]?=some fn/\fn.body.isSome=true/\fn.name ≠ "runtime.NumGoroutine")->(execOp a.eval o).run P w=.ok (.enter c.f ((cc.args.toList.map a.eval++cvals).toArray)) w:=by
  intro hfn
  have:=zen (P:=P) (w:=w) (args:=(cc.args.toList.map a.eval++cvals).toArray) hfn
  simp only [execOp,hop,resolve,hf,hfv,Deferred.ofValue,Sem.run_bind,Sem.run_pure,Result.andThen_ok,invoke]
  have e : #[]++cc.args.map a.eval++cvals.toArray=(cc.args.toList.map a.eval++cvals).toArray:=by rw [hargs]; simp
  rw [e]; exact this
 unfold Oper.wp
 cases hH:zpx c.res with
 | true =>
  unfold PCall.ok at hok
  unfold zea at hres
  unfold zh4 at hm
  cases hr0:c.res with
  | hsp vs0 hp res hp' =>
   rw [hr0] at hok hres hm
   simp only at hok hres hm
   obtain ⟨rfl,_,hk,hks,hchk⟩:=hm
   obtain ⟨hfn,hsp⟩:=hok
   rw [hrun hfn,Oper.upon_enter]
   simp only [Bool.and_eq_true] at hchk
   obtain ⟨⟨⟨r1,r2⟩,r3⟩,r4⟩:=hchk
   have hsite:∀ s,(hp.map (·.1)).contains s=true->st.site s=look hp s []:=fun s hs=>by
    obtain ⟨q,hq,rfl⟩:=List.mem_map.1 (List.contains_iff_mem.1 hs)
    exact zlr hk q hq
   obtain ⟨u1,u2⟩:=zzo (o:=none) hsite r2 hs.heap trivial
   refine (hsp Z w _ u1 u2 (AReps.into (st:=st) (st2:=⟨[],hp⟩) (Z2:=Z) (fun s h=>(hsite s h).symm) (fun _ _ h=>h) (fun _ _ _=>⟨rfl,rfl⟩) hvals r1)).mono ?_
   rintro e w' ⟨x,Z',rfl,p1,p2,p3,p4⟩
   obtain ⟨Z2,q1,q2,q3,q4,q5⟩:=zvm rfl hks hsite r4 (by cases res with|av v=>exact r3|fr _ _=>rfl|bx _ _ _=>exact (Bool.and_eq_true_iff.1 r3).2) hs.heap (o:=none) (o':=none) trivial p1 p2 p3 p4
   obtain ⟨Z3,v1,st3,e1,t1,t2,t3,t4,t5,t6⟩:=HRes.take (dd:=d) q1 q2 r3 hs.heap.keep.size q5 (fun b hb=>hb.elim)
   rw [e1] at hres
   simp only [Option.some.injEq,Prod.mk.injEq] at hres
   obtain ⟨rfl,rfl⟩:=hres
   exact hnext w' Z3 x t1 t2 (q3.trans t4)
  | _=>rw [hr0] at hH; cases hH
 | false =>
 rw [zxq hH] at hm
 rw [zxr hH] at hres
 rw [ybe hH] at hok
 cases htn:c.tn with
 | none =>
  rw [htn] at hok hres
  obtain ⟨hfn,hsp⟩:=hok
  rw [hrun hfn,Oper.upon_enter]
  have hp:=zf0 (w:=w) (zfv hs.heap ((as.map st.ev++caps).flatMap (deps st FUEL)) FUEL) hvals hm (fun i hi=>hi)
  refine (hsp w _ _ (fun b ob hb=>?_) hp).mono ?_
  ·rcases zbs hb with h|⟨_,h,_⟩
   ·exact hs.heap.mem b ob h
   ·exact h
  ·rintro e w' ⟨x,M',rfl,p1,p2,p3,p4,p5⟩
   obtain ⟨Z',q1,q2,q3⟩:=zqn (vs:=as.map st.ev++caps) hs.heap p1 p2 p3 p4 p5 hres
   exact hnext w' Z' x q1 q2 q3
 | some t =>
  obtain ⟨i,sz,es'⟩:=t
  rw [htn] at hok hres
  obtain ⟨hfn,hsp⟩:=hok
  simp only at hsp hres
  rw [hrun hfn,Oper.upon_enter]
  obtain ⟨s,g,len,sl,ob,href,ho,hi,hlen,hle,hsz,hni,hv,hst⟩:=zjf hres
  generalize hvs:as.map st.ev++caps=vs at *
  obtain ⟨es,m1,m2,m3⟩:=z1b hs.heap hvals hm href ho hlen rfl hni
  rw [hsz] at m1
  have hal:vs.length=c.args.length:=(zfh hm).symm
  have hvl:(cc.args.toList.map a.eval++cvals).length=c.args.length:=by rw [<- hal]; exact hvals.length
  refine (hsp w _ _ (Z.B s g) (Z.cap s g) es (fun b ob hb=>?_) hvl m3 (by rw [<- hal]; exact hi) m1 (fun j p hj hp=>?_)).mono ?_
  ·rcases zbs hb with h|⟨_,h,_⟩
   ·exact hs.heap.mem b ob h
   ·exact h
  ·obtain ⟨u,hu⟩:∃ u,vs[j]?=some u:=by
    have:j<vs.length:=by rw [hal]; exact (List.getElem?_eq_some_iff.1 hp).1
    exact ⟨vs[j],List.getElem?_eq_getElem this⟩
   obtain ⟨q,hq,htq⟩:=zjt hm j u hu
   rw [hp] at hq; cases hq
   obtain ⟨x,hx,hrx⟩:=hvals.get j u hu
   refine ⟨x,hx,zfv hs.heap _ FUEL u x p hrx htq (fun k hk=>List.mem_append.2 (.inl (List.mem_flatMap.2 ⟨u,?_,hk⟩)))⟩
   rw [List.mem_eraseIdx_iff_getElem?]
   exact ⟨j,hj,hu⟩
  ·rintro e w' ⟨x,M',rfl,p1,p2,p3,p4,p5,p6,p7⟩
   obtain ⟨Z',q1,q2,q3⟩:=zvj (vs:=vs) hs.heap ho hlen hsz hni p1 p2 p3 p4 (by rw [p5,m2]) p6 (by rw [m2] at p7; exact p7) hv hst
   exact hnext w' Z' x q1 q2 q3
end
end Go.Ab
