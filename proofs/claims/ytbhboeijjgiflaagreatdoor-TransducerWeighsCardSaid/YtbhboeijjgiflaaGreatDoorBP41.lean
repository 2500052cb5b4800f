/-
Proofs for the law TransducerWeighs, part 41. Conditions: none.
-/
import Derived.Test.YtbhboeijjgiflaaGreatDoorBP40
import Derived.Test.YtbhboeijjgiflaaGreatDoorBP35
import Derived.Test.YtbhboeijjgiflaaGreatDoorBP27
set_option maxRecDepth 100000
set_option maxHeartbeats 4000000
set_option linter.all false
namespace Go.Ab
abbrev Sg:=Nat->Nat->Nat × Nat
mutual
def sub (σ : Sg):AV->AV
 | .own s g off len=>.own (σ s g).1 (σ s g).2 off len
 | .ptr s g ix off=>.ptr (σ s g).1 (σ s g).2 ix off
 | .agg cs=>.agg (subL σ cs)
 | .fn f cs=>.fn f (subL σ cs)
 | .tup cs=>.tup (subL σ cs)
 | .p v=>.p v
 | .nil=>.nil
 | .cp v vsz off=>.cp v vsz off
 | .skip=>.skip
 | .undef=>.undef
def subL (σ : Sg):List AV->List AV
 | []=>[]
 | v::r=>sub σ v::subL σ r
end
def subO (σ : Sg) (o:AObj):AObj:=⟨o.sz,subL σ o.es⟩
structure SubOk (st st':St) (σ : Sg):Prop where
 live:∀ s g o,st.obj s g=some o -> σ s g=(DEAD,0)\/st'.obj (σ s g).1 (σ s g).2=some (subO σ o)
 deadn:∀ s g,g<(st.site s).length->st.obj s g=none->(σ s g).2<(st'.site (σ s g).1).length/\st'.obj (σ s g).1 (σ s g).2=none
 inj:∀ s g s' g' o o',st.obj s g=some o->st.obj s' g'=some o' -> σ s g = σ s' g' -> σ s g≠(DEAD,0)->s=s'/\g=g'
 all:∀ s' g' o',st'.obj s' g'=some o'->∃ s g o,st.obj s g=some o /\ σ s g=(s',g')/\o'=subO σ o
 dead:0<(st'.site DEAD).length/\st'.obj DEAD 0=none
section
variable {P:Program} {K:Ctx} {Z Z':Cz} {st st':St} {w:World} {a:Act} {σ : Sg}
theorem zbw:∀ (l:List AV),subL σ l=l.map (sub σ)
 | []=>rfl
 | v::r=>by simp [subL,zbw r]
theorem ydr (v:AV):(sub σ v).sz=v.sz:=by cases v<;>simp only [sub]<;>simp [AV.sz,zbw]
theorem z0r (v:AV):(sub σ v).one=v.one:=by cases v<;>simp only [sub]<;>simp [AV.one]
theorem z0s (v:AV):(sub σ v).cells=v.cells.map (sub σ):=by
 cases v with
 | agg cs=>simp only [sub,AV.cells,zbw]
 | p v=>?_
 | _=>rfl
 cases v<;>first|rfl|skip
 simp only [sub,AV.cells,ym7];apply yl9; intro x _; rfl
theorem zoo (es:List AV):(subL σ es).flatMap AV.cells=(es.flatMap AV.cells).map (sub σ):=by
 induction es with
 | nil=>rfl
 | cons e es ih=>simp only [subL,ykj,ylu,ih,z0s]
open Classical in
noncomputable def oldN (st:St) (σ : Sg) (s' g':Nat):Nat × Nat:=if h:∃ i:Nat × Nat,(∃ o,st.obj i.1 i.2=some o) /\ σ i.1 i.2=(s',g') then h.choose else (0,0)
theorem zmp (h:SubOk st st' σ) {s g:Nat} {o:AObj} (ho:st.obj s g=some o) (hn : σ s g≠(DEAD,0)):oldN st σ (σ s g).1 (σ s g).2=(s,g):=by have hx:∃ i:Nat × Nat,(∃ o,st.obj i.1 i.2=some o) /\ σ i.1 i.2=((σ s g).1,(σ s g).2):=⟨(s,g),⟨o,ho⟩,rfl⟩;unfold oldN;rw [dif_pos hx];obtain ⟨⟨o',h1⟩,h2⟩:=hx.choose_spec;have h3 : σ hx.choose.1 hx.choose.2 = σ s g:=h2;obtain ⟨e1,e2⟩:=h.inj _ _ _ _ _ _ h1 ho h3 (by rw [h3]; exact hn);exact Prod.ext e1 e2
noncomputable def Cz.sub (Z:Cz) (st:St) (σ : Sg):Cz where
 M:=Z.M
 B s g:=Z.B (oldN st σ s g).1 (oldN st σ s g).2
 cap s g:=Z.cap (oldN st σ s g).1 (oldN st σ s g).2
mutual
theorem ARep.sub (h:SubOk st st' σ):∀ {v:AV} {x:Value},ARep Z st v x->ARep (Z.sub st σ) st' (Ab.sub σ v) x
 | _,_,.p v x hp=>.p v x hp
 | _,_,.nil=>.nil
 | _,_,.own0 s g o ho hb=>by
  simp only [Ab.sub];by_cases hd : σ s g=(DEAD,0)
  ·rw [hd]; exact .ownD _ _ _ _ _ _ h.dead.1 h.dead.2
  ·exact .own0 _ _ _ ((h.live s g o ho).resolve_left hd) (by simp only [Cz.sub,zmp h ho hd,hb])
 | _,_,.own s g off len o b ad c ho hb h1 h2 h3 h4=>by
  simp only [Ab.sub];by_cases hd : σ s g=(DEAD,0)
  ·rw [hd]; exact .ownD _ _ _ _ _ _ h.dead.1 h.dead.2
  ·exact .own _ _ _ _ _ b ad c ((h.live s g o ho).resolve_left hd) (by simp only [Cz.sub,zmp h ho hd,hb]) (by simp only [Cz.sub,zmp h ho hd]; exact h1) h2 (by simpa [subO,zbw] using h3) h4
 | _,_,.ownD s g off len ad c hg hdd=>by
  simp only [Ab.sub];exact .ownD _ _ _ _ _ _ (h.deadn s g hg hdd).1 (h.deadn s g hg hdd).2
 | _,_,.ptr s g ix off o b ho hb=>by
  simp only [Ab.sub];by_cases hd : σ s g=(DEAD,0)
  ·rw [hd]; exact .ptrD _ _ _ _ _ h.dead.1 h.dead.2
  ·exact .ptr _ _ ix off (subO σ o) b ((h.live s g o ho).resolve_left hd) (by simp only [Cz.sub,zmp h ho hd,hb])
 | _,_,.ptrD s g ix off ad hg hdd=>by
  simp only [Ab.sub];exact .ptrD _ _ _ _ _ (h.deadn s g hg hdd).1 (h.deadn s g hg hdd).2
 | _,_,.cp v vsz off b o cur T fr vals h0 h1 h2 h3 h4 h5=>.cp v vsz off b o cur T fr vals h0 h1 h2 h3 h4 h5
 | _,_,.agg cs vals h1 h2=>by
  simp only [Ab.sub];exact .agg _ vals (fun c hc=>by rw [zbw] at hc; obtain ⟨d,hd,rfl⟩:=yk4.1 hc; rw [z0r]; exact h1 d hd) (AReps.sub h h2)
 | _,_,.fn f cs vals h1=>by simp only [Ab.sub]; exact .fn f _ vals (AReps.sub h h1)
 | _,_,.tup vs vals h1=>by simp only [Ab.sub]; exact .tup _ vals (AReps.sub h h1)
 | _,_,.skip=>.skip
 | _,_,.undef x=>.undef x
theorem AReps.sub (h:SubOk st st' σ):∀ {v:List AV} {x:List Value},AReps Z st v x->AReps (Z.sub st σ) st' (subL σ v) x
 | _,_,.nil=>.nil
 | _,_,.cons v x vs xs h1 hs=>.cons _ _ _ _ (ARep.sub h h1) (AReps.sub h hs)
end
theorem HRep.sub (h:HRep K Z st w) (hr:SubOk st st' σ):HRep K (Z.sub st σ) st' w:=by
 have back:∀ {s' g':Nat} {o':AObj},st'.obj s' g'=some o'->∃ s g o,st.obj s g=some o/\o'=subO σ o /\ σ s g=(s',g')/\(Z.sub st σ).B s' g'=Z.B s g/\(Z.sub st σ).cap s' g'=Z.cap s g:=by
  intro s' g' o' ho;obtain ⟨s,g,o,h1,h2,rfl⟩:=hr.all s' g' o' ho;have hd : σ s g≠(DEAD,0):=fun e=>by rw [h2] at e; cases e;rw [hr.dead.2] at ho; cases ho
  have:=zmp hr h1 hd;rw [h2] at this;exact ⟨s,g,o,h1,rfl,h2,by simp only [Cz.sub,this],by simp only [Cz.sub,this]⟩
 refine ⟨fun s' g' o' ho=>?_,fun s g s' g' o o' b ho ho' hb hb'=>?_,h.mem,fun s g o b ho hb=>?_,fun s g o b ho hb=>?_,h.m0,h.prov,h.keep⟩
 ·obtain ⟨s,g,o0,h1,rfl,_,eB,eC⟩:=back ho;obtain ⟨k1,k2,k3,k4,k5⟩:=h.objs s g o0 h1;refine ⟨k1,fun e he=>?_,fun c hc=>?_,fun hb=>?_,fun b hb=>?_⟩
  ·simp only [subO,zbw,yk4] at he; obtain ⟨e0,he0,rfl⟩:=he; rw [ydr]; exact k2 e0 he0
  ·simp only [subO,zoo,yk4] at hc; obtain ⟨c0,hc0,rfl⟩:=hc; rw [z0r]; exact k3 c0 hc0
  ·rw [eB] at hb; simp [subO,k4 hb,subL]
  ·rw [eB] at hb;obtain ⟨cur,T,vals,e1,e2,e3,e4,e5,e6⟩:=k5 b hb;refine ⟨cur,T,vals,e1,?_,e3,by rw [eC]; exact e4,by rw [eC]; simpa [subO,zbw] using e5,by rw [eC]; exact e6⟩;show AReps _ _ ((subL σ o0.es).flatMap AV.cells) vals;rw [zoo,<- zbw];exact AReps.sub hr e2
 ·obtain ⟨t,k,o0,h1,_,q1,eB,_⟩:=back ho;obtain ⟨t',k',o0',h1',_,q1',eB',_⟩:=back ho';rw [eB] at hb; rw [eB'] at hb';obtain ⟨e1,e2⟩:=h.inj _ _ _ _ _ _ b h1 h1' hb hb';subst e1; subst e2;rw [q1] at q1';exact ⟨congrArg Prod.fst q1',congrArg Prod.snd q1'⟩
 ·obtain ⟨t,k,o0,h1,_,_,eB,_⟩:=back ho;rw [eB] at hb;exact h.sep _ _ _ b h1 hb
 ·obtain ⟨t,k,o0,h1,_,_,eB,_⟩:=back ho;rw [eB] at hb;exact h.own _ _ _ b h1 hb
def zqj (hp:List Site):Bool:=hp.all fun q=>decide (q.1<PINB)||decide (999999<=q.1)
theorem zkb (h:zqj st.hp=true) {s:Nat} (h1:PINB<=s) (h2:s<999999):st.site s=[]:=by
 rcases zji (d:=([]:List (Option AObj))) (l:=st.hp) (s:=s) with h3|⟨q,hq,rfl,h3⟩
 ·exact h3
 ·have:=yl8.1 h q hq;simp only [ynn,decide_eq_true_eq] at this;omega
theorem Weak.sub (h:SubOk st st' σ) (hp:zqj st.hp=true) {keep:List Nat} (hsl:st'.sl=keep.map fun t=>(t,Ab.sub σ (st.get t))):Weak st st':=by
 intro K Z w a hs;refine ⟨Z.sub st σ,⟨fun t=>?_,hs.defers,hs.size,hs.heap.sub h⟩,⟨fun s a b=>(by rw [zkb hp a b]; exact ylk _),fun s g a b hg=>?_,fun s g o a b ho=>?_⟩⟩;rotate_left
 ·rw [zkb hp a b] at hg; exact absurd hg (yon _)
 ·have:=zca ho;rw [zkb hp a b] at this; exact absurd this (yon _)
 have:st'.get t=look (keep.map fun t=>(t,Ab.sub σ (st.get t))) t .undef:=by rw [<- hsl]; rfl
 rw [this];rcases zm2 (fun t=>Ab.sub σ (st.get t)) t keep with h'|h'
 ·rw [h']; exact (hs.slots t).sub h
 ·rw [h']; exact .undef _
def zfv (st:St) (s:Nat):List (Nat × Nat)->Option (Nat × Nat)
 | []=>none
 | (x,k)::r=>if x=s then some (0,k) else (zfv st s r).map fun q=>((st.site x).length - k+q.1,q.2)
def zik (st:St) (s:Nat):List (Nat × List (Nat × Nat))->Option (Nat × Nat × Nat)
 | []=>none
 | (s',l)::r=>match zfv st s l with
  | some q=>some (s',q)
  | none=>zik st s r
def sgP (st:St) (plan:List (Nat × List (Nat × Nat))):Sg:=fun s g=>match zik st s plan with
 | some (s',o,k)=>if g<k then (DEAD,0) else (s',o+(g - k))
 | none=>(DEAD,0)
def catS (st:St) (σ : Sg):List (Nat × Nat)->List (Option AObj)
 | []=>[]
 | (x,k)::r=>((st.site x).drop k).map (Option.map (subO σ))++catS st σ r
def hpP (st:St) (σ : Sg):List (Nat × List (Nat × Nat))->List Site
 | []=>[(DEAD,[none])]
 | (s',l)::r=>(s',catS st σ l)::hpP st σ r
def St.plan (st:St) (keep:List Nat) (plan:List (Nat × List (Nat × Nat))):St:=⟨keep.map fun t=>(t,sub (sgP st plan) (st.get t)),hpP st (sgP st plan) plan⟩
def zic (hp:List Site) (plan:List (Nat × List (Nat × Nat))):Bool:=zqj hp&&zgt (plan.flatMap fun q=>q.2.map (·.1))&&zgt (DEAD::plan.map (·.1))
theorem zje {s:Nat}:∀ {l:List (Nat × Nat)} {q:Nat × Nat},zfv st s l=some q->s∈l.map (·.1)
 | (x,k)::r,q,h=>by
  simp only [zfv] at h;split at h
  ·rename_i e; subst e; simp
  ·obtain ⟨o',h1,_⟩:=mapS h;exact ykq _ (zje h1)
theorem z4i {s g:Nat}:∀ {l:List (Nat × Nat)} {o k:Nat},zfv st s l=some (o,k)->k<=g->g<(st.site s).length->(catS st σ l)[o+(g - k)]?=some (((st.site s)[g]?.getD none).map (subO σ))
 | (x,k0)::r,o,k,h,hk,hg=>by
  simp only [zfv] at h;simp only [catS];split at h
  ·rename_i e; subst e; cases h;rw [yle,ymw (by simp; omega),ykv,ymy,show k0+(g - k0)=g by omega,ykg hg]; rfl
  ·obtain ⟨q,h1,h2⟩:=mapS h;obtain ⟨o',k'⟩:=q;simp only [yk3] at h2;obtain ⟨rfl,rfl⟩:=h2;rw [ymf (by simp; omega),ylj,yne,show (st.site x).length - k0+o'+(g - k') - ((st.site x).length - k0)=o'+(g - k') by omega];exact z4i h1 hk hg
theorem zx7 {g':Nat} {o':AObj}:∀ {l:List (Nat × Nat)},(l.map (·.1)).Nodup->(catS st σ l)[g']?=some (some o')->∃ s g o off k,zfv st s l=some (off,k)/\k<=g/\off+(g - k)=g'/\st.obj s g=some o/\o'=subO σ o
 | [],_,h=>by simp [catS] at h
 | (x,k)::r,hn,h=>by
  simp only [catS] at h;by_cases hlt:g'<(st.site x).length - k
  ·rw [List.getElem?_append_left (by simpa using hlt),List.getElem?_map,List.getElem?_drop,List.getElem?_eq_getElem (show k+g'<(st.site x).length by omega)] at h;simp only [Option.map_some,Option.some.injEq] at h;obtain ⟨o,h1,rfl⟩:=mapS h;exact ⟨x,k+g',o,0,k,by simp [zfv],by omega,by omega,by unfold St.obj; rw [List.getElem?_eq_getElem (show k+g'<(st.site x).length by omega),h1]; rfl,rfl⟩
  ·rw [List.getElem?_append_right (by simpa using Nat.not_lt.1 hlt),List.length_map,List.length_drop] at h;rw [List.map_cons,List.nodup_cons] at hn;obtain ⟨s,g,o,off,k1,h1,h2,h3,h4,h5⟩:=zx7 hn.2 h;have hne:x≠s:=by rintro rfl; exact hn.1 (zje h1)
   exact ⟨s,g,o,(st.site x).length - k+off,k1,by simp only [zfv,yj8 hne,h1]; rfl,h2,by omega,h4,h5⟩
theorem z2f {s g s2 g2:Nat}:∀ {l:List (Nat × Nat)} {o o2 k k2:Nat},zfv st s l=some (o,k)->zfv st s2 l=some (o2,k2)->k<=g->k2<=g2->g<(st.site s).length->g2<(st.site s2).length->o+(g - k)=o2+(g2 - k2)->s=s2/\g=g2
 | (x,k0)::r,o,o2,k,k2,h,h2,hk,hk2,hg,hg2,e=>by
  simp only [zfv] at h h2;split at h
  ·rename_i e1; subst e1; cases h;split at h2
   ·rename_i e2; subst e2; cases h2; exact ⟨rfl,by omega⟩
   ·obtain ⟨⟨o',k'⟩,h1,h3⟩:=mapS h2;simp only [yk3] at h3; obtain ⟨rfl,rfl⟩:=h3; omega
  ·obtain ⟨⟨o1,k1⟩,h1,h3⟩:=mapS h;simp only [yk3] at h3; obtain ⟨rfl,rfl⟩:=h3;split at h2
   ·rename_i e2; subst e2; cases h2; omega
   ·obtain ⟨⟨o',k'⟩,h1',h3'⟩:=mapS h2;simp only [yk3] at h3'; obtain ⟨rfl,rfl⟩:=h3';exact z2f h1 h1' hk hk2 hg hg2 (by omega)
theorem zhg {s s':Nat} {q:Nat × Nat}:∀ {plan:List (Nat × List (Nat × Nat))},zik st s plan=some (s',q)->∃ l,(s',l)∈plan/\zfv st s l=some q
 | (s1,l)::r,h=>by
  simp only [zik] at h;split at h
  ·rename_i o1 h1; cases h; exact ⟨l,by simp,h1⟩
  ·obtain ⟨l',h1,h2⟩:=zhg h;exact ⟨l',ykq _ h1,h2⟩
theorem zxz {s s':Nat} {q:Nat × Nat} {l:List (Nat × Nat)}:∀ {plan:List (Nat × List (Nat × Nat))},(plan.flatMap fun q=>q.2.map (·.1)).Nodup->(s',l)∈plan->zfv st s l=some q->zik st s plan=some (s',q)
 | (s1,l1)::r,hn,hm,h=>by
  simp only [zik];rw [ykj,yms] at hn;rcases yk5.1 hm with hm|hm
  ·cases hm; rw [h]
  ·cases h1:zfv st s l1 with
   | none=>exact zxz hn.2.1 hm h
   | some o1=>exact absurd rfl (hn.2.2 s (zje h1) s (yln.2 ⟨_,hm,zje h⟩))
theorem zjj {s':Nat} {l:List (Nat × Nat)}:∀ {plan:List (Nat × List (Nat × Nat))},(plan.map (·.1)).Nodup->(s',l)∈plan->look (hpP st σ plan) s' []=catS st σ l
 | (s1,l1)::r,hn,hm=>by
  rw [yke,ylg] at hn;simp only [hpP,look];rcases yk5.1 hm with hm|hm
  ·cases hm; rw [yj9 rfl]
  ·rw [yj8]
   ·exact zjj hn.2 hm
   ·rintro rfl; exact hn.1 (yk4.2 ⟨_,hm,rfl⟩)
theorem zvd {s':Nat}:∀ {plan:List (Nat × List (Nat × Nat))},s'∉plan.map (·.1)->look (hpP st σ plan) s' []=if DEAD=s' then [none] else []
 | [],_=>by simp [hpP,look]
 | (s1,l1)::r,h=>by simp only [yke,yk5,not_or] at h;simp only [hpP,look];rw [yj8 (ykt h.1)]; exact zvd h.2
theorem z2h {s g:Nat}:(st.site s)[g]?.getD none=st.obj s g:=rfl
theorem z2i {α β : Type} {l:List (α × β)} (hn:(l.map (·.1)).Nodup) {x : α} {y y' : β} (h:(x,y)∈l) (h':(x,y')∈l):y=y':=by
 induction l with
 | nil=>cases h
 | cons q r ih =>
  rw [yke,ylg] at hn;rcases yk5.1 h with h|h<;>rcases yk5.1 h' with h'|h'
  ·rw [<- h] at h'; exact (congrArg Prod.snd h').symm
  ·exact absurd (yk4.2 ⟨_,h',by rw [<- h]⟩) hn.1
  ·exact absurd (yk4.2 ⟨_,h,by rw [<- h']⟩) hn.1
  ·exact ih hn.2 h h'
theorem z1y {keep:List Nat} {plan:List (Nat × List (Nat × Nat))} (h:zic st.hp plan=true):SubOk st (st.plan keep plan) (sgP st plan)/\zqj st.hp=true:=by
 simp only [zic,ykx] at h;obtain ⟨⟨h1,h2⟩,h3⟩:=h;have n2:=zgg h2;have n3:=zgg h3;rw [ylg] at n3;have hD:=zvd (st:=st) (σ := sgP st plan) n3.1;rw [yj9 rfl] at hD
 have hdead:0<((st.plan keep plan).site DEAD).length/\(st.plan keep plan).obj DEAD 0=none :=
  ⟨by show 0<(look (hpP st (sgP st plan) plan) DEAD []).length; rw [hD]; simp,by show ((look (hpP st (sgP st plan) plan) DEAD [])[0]?).getD none=none; rw [hD]; rfl⟩
 refine ⟨⟨fun s g o ho=>?_,fun s g hg ho=>?_,fun s g s' g' o o' ho ho' he hd=>?_,fun s' g' o' ho'=>?_,hdead⟩,h1⟩
 ·have hg:=zca ho;unfold sgP;cases hf:zik st s plan with
  | none=>exact .inl rfl
  | some q =>
   obtain ⟨s',off,k⟩:=q;by_cases hk:g<k
   ·left; simp only [hk,yk0]
   obtain ⟨l,m1,m2⟩:=zhg hf;right;simp only [hk,yk7];show ((look (hpP st (sgP st plan) plan) s' [])[off+(g - k)]?).getD none=_;rw [zjj n3.2 m1,z4i m2 (by omega) hg,z2h,ho]; rfl
 ·unfold sgP;cases hf:zik st s plan with
  | none=>exact hdead
  | some q =>
   obtain ⟨s',off,k⟩:=q;by_cases hk:g<k
   ·simp only [hk,yk0]; exact hdead
   simp only [hk,yk7];obtain ⟨l,m1,m2⟩:=zhg hf;have hc:=z4i (σ := sgP st plan) m2 (show k<=g by omega) hg;refine ⟨?_,?_⟩
   ·show off+(g - k)<(look (hpP st (sgP st plan) plan) s' []).length;rw [zjj n3.2 m1];exact (ym4.1 hc).1
   ·show ((look (hpP st (sgP st plan) plan) s' [])[off+(g - k)]?).getD none=none;rw [zjj n3.2 m1,hc,z2h,ho]; rfl
 ·have hg:=zca ho;have hg':=zca ho';unfold sgP at he hd;cases hf:zik st s plan with
  | none=>rw [hf] at hd; exact absurd rfl hd
  | some q =>
   obtain ⟨s1,off,k⟩:=q;rw [hf] at he hd;by_cases hk:g<k
   ·simp only [hk,yk0] at hd; exact absurd rfl hd
   simp only [hk,yk7] at he hd;obtain ⟨l,m1,m2⟩:=zhg hf;cases hf':zik st s' plan with
   | none=>rw [hf'] at he; exact absurd he hd
   | some q' =>
    obtain ⟨s2,off',k'⟩:=q';rw [hf'] at he;by_cases hk':g'<k'
    ·simp only [hk',yk0] at he; exact absurd he hd
    simp only [hk',yk7] at he;obtain ⟨l',m1',m2'⟩:=zhg hf';simp only [yk3] at he;obtain ⟨rfl,e⟩:=he;obtain rfl:=z2i n3.2 m1 m1';exact z2f m2 m2' (by omega) (by omega) hg hg' e
 ·have ho2:((look (hpP st (sgP st plan) plan) s' [])[g']?).getD none=some o':=ho';by_cases hm:s'∈plan.map (·.1)
  ·obtain ⟨⟨s1,l⟩,hm2,rfl⟩:=yk4.1 hm;rw [zjj n3.2 hm2] at ho2;cases hx:(catS st (sgP st plan) l)[g']? with
   | none=>rw [hx] at ho2; cases ho2
   | some y =>
    rw [hx] at ho2;simp only [yn4] at ho2;subst ho2;have nl:(l.map (·.1)).Nodup:=by
     have:List.Sublist (l.map (·.1)) (plan.flatMap fun q=>q.2.map (·.1)):=by obtain ⟨a,b,e⟩:=ynm hm2;rw [e,ymr,ykj];exact (List.sublist_append_left (l.map (·.1)) _).trans (List.sublist_append_right _ _)
     exact this.nodup n2
    obtain ⟨s,g,o,off,k,k1,k2,k3,k4,k5⟩:=zx7 nl hx;refine ⟨s,g,o,k4,?_,k5⟩;unfold sgP;rw [zxz n2 hm2 k1];simp only [show ¬ g<k by omega,yk7,k3]
  ·rw [zvd hm] at ho2;exfalso;split at ho2
   ·cases g'<;>simp at ho2
   ·simp at ho2
theorem Weak.plan (keep:List Nat) (plan:List (Nat × List (Nat × Nat))) (h:zic st.hp plan=true):Weak st (st.plan keep plan):=Weak.sub (z1y h).1 (z1y (keep:=keep) h).2 rfl
end
end Go.Ab
namespace Go.Ab
open Enc (enc)
def tabV (t:GTrans) (wx wy:List Int) (I:Nat):AV:=.agg [.p (.int .i64 t.ring.kind),.p (.sl (ens t.ring.parts)),.p (.int .i64 t.i),.p (.int .i64 t.o),.p (.int .i64 t.st),.p (.sl (ens t.ini)),.p (.sl (ens t.fin)),.p (.sl (ens t.arcs)),.p (.sl (ens wx)),.p (.sl (ens wy)),.own 900001 0 0 I]
def rowV (N b j:Nat):AV:=.own 900003 (b+j) 0 N
def famR (I J N:Nat):List (Option AObj):=(List.range I).map fun i=>some ⟨1,(List.range J).map (rowV N (i*J))⟩
def famC (T:List (List GW)):List (Option AObj):=T.map fun l=>some ⟨8,avs l⟩
def outV (J i:Nat):AV:=.own 900002 i 0 J
def hpT (t:GTrans) (wx wy:List Int) (I J N:Nat) (T:List (List GW)):List Site:=[(900000,[some ⟨11,[tabV t wx wy I]⟩]),(900001,[some ⟨1,(List.range I).map (outV J)⟩]),(900002,famR I J N),(900003,famC T)]
theorem zx1 {I J N i:Nat} (h:i<I):(famR I J N)[i]?=some (some ⟨1,(List.range J).map (rowV N (i*J))⟩):=by unfold famR; rw [ykv,ylt h]; rfl
theorem z7q {T:List (List GW)} {p:Nat} (h:p<T.length):(famC T)[p]?=some (some ⟨8,avs (T.getD p [])⟩):=by unfold famC; rw [ykv,yk9,ykg h]; rfl
theorem z7p {T:List (List GW)} {p:Nat} (l:List GW):(famC T).set p (some ⟨8,avs l⟩)=famC (T.set p l):=by unfold famC; rw [yoo]
theorem zui (ks:List Nat) (h3:ks.contains 900003=true) (N b:Nat):∀ l:List Nat,zbp ks (l.map (rowV N b))=true
 | []=>rfl
 | x::l=>by simp only [yke,zbp,rowV,zgv,h3,yo9]; exact zui ks h3 N b l
theorem zux (ks:List Nat) (h2:ks.contains 900002=true) (J:Nat):∀ l:List Nat,zbp ks (l.map (outV J))=true
 | []=>rfl
 | x::l=>by simp only [yke,zbp,outV,zgv,h2,yo9]; exact zux ks h2 J l
theorem z8z (ks:List Nat):∀ l:List PV,zbp ks (l.map .p)=true
 | []=>rfl
 | x::l=>by simp only [yke,zbp,zgv,yo9]; exact z8z ks l
theorem z9d (ks:List Nat) {α : Type} [Enc α] (l:List α):zbp ks (avs l)=true:=z8z ks (ens l)
theorem zpg (t:GTrans) (wx wy:List Int) (I J N:Nat) (T:List (List GW)):hpOk [900000,900001,900002,900003] (hpT t wx wy I J N T)=true:=by
 have a:(famR I J N).all (zqf [900000,900001,900002,900003])=true:=by rw [yl8]; intro x hx;obtain ⟨i,_,rfl⟩:=yk4.1 hx;exact zui _ rfl N _ _
 have b:(famC T).all (zqf [900000,900001,900002,900003])=true:=by rw [yl8]; intro x hx;obtain ⟨l,_,rfl⟩:=yk4.1 hx;exact z9d _ l
 have c:=zux [900000,900001,900002,900003] rfl J (List.range I);simp only [hpOk,hpT,ynl,List.all_nil,a,b,Bool.and_true,yo9,zqf,c];rfl
def GMono.mulE (m x:GMono):GMono:=⟨m.e.add x.e,rto (m.coef.v*x.coef.v)⟩
def okE (l:List GMono):List GMono:=l.filter fun m=>m.e.ok
def zey (p q:List GMono):List GMono:=p.flatMap fun m=>q.map m.mulE
theorem zqe (a b:List GMono):okE (a++b)=okE a++okE b:=ym3 ..
theorem z2e {l:List GMono}:∀ m∈okE l,m.e.ok=true:=fun m h=>(ym1.1 h).2
theorem yek (m:GMono) (e:Ex):pc (okE [m]) e=if m.e.ok=true/\m.e=e then m.coef.v else 0:=by unfold okE;cases h:m.e.ok<;>simp [h,pc,ykr]
theorem zut (m:GMono):∀ (q o:List GMono) (e:Ex),pc (prow m q o) e=pc o e+pc (okE (q.map m.mulE)) e
 | [],o,e=>by simp [prow,okE,pc,ykr]
 | x::q,o,e=>by have h:prow m (x::q) o=prow m q (pput o (m.e.add x.e) (m.coef.v*x.coef.v)):=rfl;rw [h,zut m q,zuu,yke,show m.mulE x::q.map m.mulE=[m.mulE x]++q.map m.mulE from rfl,zqe,zfu,yek,yl4];simp only [GMono.mulE,zbv]
theorem zwz:∀ (p q o:List GMono) (e:Ex),pc (p.foldl (fun o m=>prow m q o) o) e=pc o e+pc (okE (zey p q)) e
 | [],q,o,e=>by simp [zey,okE,pc,ykr]
 | m::p,q,o,e=>by rw [yna,zwz p q,zut,show zey (m::p) q=q.map m.mulE++zey p q from rfl,zqe,zfu,yl4]
theorem z14 (p q:List GMono) (e:Ex):pc (pmul p q) e=pc (okE (zey p q)) e:=by have:=zwz p q [] e;simpa [pmul,pc,Rat.zero_add] using this
def pmS (p q:List GMono) (i k:Nat):List GMono:=okE (zey (p.take i) q)++okE ((q.take k).map (p.getD i ⟨⟨0,0,0⟩,gr0⟩).mulE)
theorem yej (p q:List GMono):pmS p q 0 0=[]:=by simp [pmS,zey,okE]
theorem yij {p q:List GMono} {i k:Nat} (hi:i<p.length) (hk:k<q.length):pmS p q i (k+1)=pmS p q i k++okE [p[i].mulE q[k]]:=by unfold pmS;rw [ykb hk,ylu,zqe,yma,yk9,ykg hi]; rfl
theorem zyz (p:List GMono) (m:GMono) (q:List GMono):zey (p++[m]) q=zey p q++q.map m.mulE:=by simp [zey]
theorem yei {p q:List GMono} {i:Nat} (hi:i<p.length):pmS p q i q.length=pmS p q (i+1) 0:=by unfold pmS;rw [ykb hi,zyz,zqe,ykn,yk9,ykg hi];simp [okE]
theorem z1n (p q:List GMono):pmS p q p.length 0=okE (zey p q):=by simp [pmS,okE]
theorem yeh {p q:List GMono} {i k:Nat} (hi:i<p.length) (e:Ex):pc (pmS p q i k) e=pc (prow p[i] (q.take k) (pmul (p.take i) q)) e:=by unfold pmS;rw [zfu,zut,z14,yk9,ykg hi]; rfl
theorem z1l {p q:List GMono} {L:List (Ex × GRat)} (h:MInv (okE (zey p q)) L):(pmul p q).Perm (nz L):=by
 have hnok:∀ m∈nz L,m.ok=true:=fun m hm=>by obtain ⟨h1,h2⟩:=zu1 hm;obtain ⟨h3,x,h4,h5⟩:=h.mem h1;simp only at h3 h5;refine GMono.ok_iff.2 ⟨?_,by rw [h3]; exact zby _,h2⟩;rw [<- h5]; exact z2e x h4
 let le:GMono->GMono->Bool:=fun a b=>decide (b.e.code<=a.e.code)
 have hperm:((nz L).mergeSort le).Perm (nz L):=List.mergeSort_perm _ _;have hsort:((nz L).mergeSort le).Pairwise fun a b=>le a b=true:=List.pairwise_mergeSort (fun a b c h1 h2=>by simp only [le,decide_eq_true_eq] at *; omega) (fun a b=>by simp only [le,ynn,decide_eq_true_eq]; omega) _;have hnd:(((nz L).mergeSort le).map (·.e)).Nodup:=(hperm.map _).nodup_iff.2 (zqg h.nod);have hval:PVal ((nz L).mergeSort le):=by
  refine zak.2 ⟨fun m hm=>hnok m (hperm.mem_iff.1 hm),?_⟩;have h2:((nz L).mergeSort le).Pairwise fun a b=>a.e≠b.e:=List.pairwise_map.1 hnd;refine (hsort.and h2).imp_of_mem fun {a b} ha hb hab=>?_;have oa:=(GMono.ok_iff.1 (hnok a (hperm.mem_iff.1 ha))).1;have ob:=(GMono.ok_iff.1 (hnok b (hperm.mem_iff.1 hb))).1;have h3:b.e.code<=a.e.code:=by simpa [le] using hab.1
  have h4:b.e.code≠a.e.code:=fun he=>hab.2 ((Ex.code_inj ob oa).1 he).symm;omega
 have:pmul p q=(nz L).mergeSort le:=by refine zhu (zb8 p q) hval fun e=>?_;rw [z14,z15 hperm,yas e h.nod,h.tot]
 rw [this]; exact hperm
theorem zum {p:List GMono} (h:PVal p):p.Pairwise fun x y=>y.e.cmp x.e<0:=by have hv:=zak.1 h;refine hv.2.imp_of_mem fun {a b} ha hb h=>?_;exact (Ex.cmp_neg (GMono.ok_iff.1 (hv.1 b hb)).1 (GMono.ok_iff.1 (hv.1 a ha)).1).2 h
theorem z81 {p q:List GMono} {N i k:Nat} (hi:i<p.length) (hN:psm (prow p[i] (q.take k) (pmul (p.take i) q)) N) (hv:PVal (prow p[i] (q.take k) (pmul (p.take i) q))):∀ x∈zfy (pmS p q i k) [],x.1.ok=true/\x.2.sm N:=by
 intro x hx;obtain ⟨h1,m,h2,h3⟩:=(minv (pmS p q i k)).mem hx;refine ⟨?_,?_⟩
 ·rw [<- h3];rcases yk8.1 h2 with h|h
  ·exact z2e m h
  ·exact z2e m h
 ·rw [h1,yeh hi];rcases zjb hv x.1 with h|⟨y,hy,h⟩
  ·rw [h,show rto 0=gr0 from zb7]; exact zgu N
  ·rw [h]; exact z8r (hN y hy)
def z2x (m:GMono) (L:List (Ex × GRat)):List (Ex × GRat):=if m.e.ok=true then madd m L else L
theorem zys (m:GMono) (L:List (Ex × GRat)) (hb:(0<=m.e.a/\m.e.a<=10)/\(0<=m.e.b/\m.e.b<=10)/\0<=m.e.c/\m.e.c<=10) (hc:m.coef.sm 1048576) (hL:∀ p∈L,p.1.ok=true/\p.2.sm 1048576) :
  SpU P F.bs (mks L) (mvs L) [enc m.e,enc m.coef] (mks (z2x m L)) (mvs (z2x m L)):=by
 unfold z2x;by_cases hm:m.e.ok=true
 ·rw [yj9 hm]; exact zr0 m L hm hc hL
 ·rw [yj8 hm];refine SpU.of_mr c.bs (by simp) fun r=>?_;show MR P _ _ _ _ (zvy r (mks L) (mvs L));simp only [Ex.ok,decide_eq_true_eq] at hm;unfold g.bs;refine MR.gseq ?_;simp [go_sem];refine MR.gseq ?_;simp [go_sem];refine zaa (zj9 m.e ⟨⟨by omega,by omega⟩,⟨by omega,by omega⟩,by omega,by omega⟩) rfl ?_;simp [go_sem];refine MR.gcond (t:=false) (by simp [go_sem]; omega) (fun h=>by cases h) (fun _=>MR.gnop ⟨.inl rfl,.inr ⟨rfl,by simp [go_sem]⟩⟩)
theorem z2w (ms:List GMono) (m:GMono):zfy (ms++okE [m]) []=z2x m (zfy ms []):=by
 unfold z2x;cases h:m.e.ok
 ·simp [okE,h]
 ·simp [okE,h,zfy]
structure pmOk (p q:List GMono):Prop where
 hp:psm p 524288
 hq:psm q 524288
 hm:∀ i k (h:i<p.length),psm (prow p[i] (q.take k) (pmul (p.take i) q)) 1048576
def puS (r:Nat) (p q:List GMono) (i:Nat):St:=mkSt [(1,.p (.sl (ens q))),(5,.p (.mapv r)),(14,.p (.sl (ens p))),(15,.p (.int .i64 p.length)),(16,.p (.int .i64 i))] []
def puT (r:Nat) (p q:List GMono) (i:Nat) (m:GMono) (k:Nat):St:=mkSt [(1,.p (.sl (ens q))),(5,.p (.mapv r)),(7,.ptr 2 0 0 0),(14,.p (.sl (ens p))),(15,.p (.int .i64 p.length)),(16,.p (.int .i64 i)),(21,.p (.sl (ens q))),(22,.p (.int .i64 q.length)),(23,.p (.int .i64 k))] [(2,⟨6,[.p (enc m)]⟩)]
def puB (r:Nat) (p q:List GMono) (i k:Nat):Option FA:=some (zh7 r (mks (zfy (pmS p q i k) [])) (mvs (zfy (pmS p q i k) [])))
def puI (r:Nat) (p q:List GMono) (n:Nat) (s:St) (B:Option FA):Prop:=∃ i,i<=p.length/\n=p.length - i/\Weak s (puS r p q i)/\B=puB r p q i 0
def puJ (r:Nat) (p q:List GMono) (i:Nat) (m:GMono) (n:Nat) (s:St) (B:Option FA):Prop:=∃ k,k<=q.length/\n=q.length - k/\Weak s (puT r p q i m k)/\B=puB r p q i k
def puE (r:Nat) (p q:List GMono) (ex:Exit) (s:St) (B:Option FA):Prop:=ex=.exit 0/\Weak s (puS r p q p.length)/\B=puB r p q p.length 0
def puF (r:Nat) (p q:List GMono) (i:Nat) (m:GMono) (ex:Exit) (s:St) (B:Option FA):Prop:=ex=.exit 2/\Weak s (puT r p q i m q.length)/\B=puB r p q i q.length
theorem yii (r:Nat) (p q:List GMono) (vp:PVal p) (vq:PVal q) (h:pmOk p q) (lp:p.length<=216) (lq:q.length<=216) {i:Nat} (hi:i<p.length) {s:St} (hw:Weak s (puT r p q i p[i] 0)) :
  MR P 54 (GC.loop g.o8).er s (puB r p q i 0) (puF r p q i p[i]):=by
 refine MR.gloop (I:=puJ r p q i p[i]) q.length ⟨0,by omega,by omega,hw,rfl⟩ ?_;rintro n0 s B ⟨k,hk,rfl,hw,rfl⟩;refine MR.weak hw ?_;unfold g.o8;refine MR.gseq ?_;simp [puT,mkSt,go_sem];by_cases hlt:k<q.length
 ·refine MR.gseq' (MR.gcond (t:=true) (by simp [go_sem,hlt]) (fun _=>MR.gnop ⟨fun _=>?_,fun h=>absurd rfl h⟩) (fun h=>by cases h));simp [go_sem];refine MR.gseq' (MR.gblk (MR.gseq ?_));simp [go_sem];refine zae hlt ?_;refine MR.gseq ?_;simp [go_sem];refine MR.gseq ?_;have eok:∀ {e:Ex},e.ok=true->(0<=e.a/\e.a<=5)/\(0<=e.b/\e.b<=5)/\0<=e.c/\e.c<=5:=fun h=>by rw [Ex.ok_iff] at h; omega
  have o1:=eok (GMono.ok_iff.1 (vp i hi).1).1;have o2:=eok (GMono.ok_iff.1 (vq k hlt).1).1;have ea:IntKind.i64.wrap (p[i].e.a+q[k].e.a)=p[i].e.a+q[k].e.a:=i64w (by omega) (by omega);have eb:IntKind.i64.wrap (p[i].e.b+q[k].e.b)=p[i].e.b+q[k].e.b:=i64w (by omega) (by omega);have ec:IntKind.i64.wrap (p[i].e.c+q[k].e.c)=p[i].e.c+q[k].e.c:=i64w (by omega) (by omega);simp [go_sem];refine zam fun R3 hn3 hr3 hx3=>?_;simp [g.nj,go_sem,ea];refine hn3 _ ?_;clear hn3 hx3 hr3;refine zam fun R3 hn3 hr3 hx3=>?_;simp [g.nj,go_sem,eb];refine hn3 _ ?_;clear hn3 hx3 hr3;refine zam fun R3 hn3 hr3 hx3=>?_;simp [g.nj,go_sem,ec];refine hn3 _ ?_;clear hn3 hx3 hr3;refine zam fun R3 hn3 hr3 hx3=>?_;simp [g.nj,go_sem];refine hx3 _ _ ?_;clear hn3 hx3 hr3;simp [go_sem];refine MR.gregD rfl (by decide) ?_;simp [go_sem];have sp1:=GRat.sm.mono (h.hp _ (yk2 hi)) (show 524288<=1048576 by omega);have sq1:=GRat.sm.mono (h.hq _ (yk2 hlt)) (show 524288<=1048576 by omega);refine zaa (z1a p[i].coef q[k].coef sp1 sq1) rfl ?_;simp [go_sem];have hL:=z81 (k:=k) hi (h.hm i k hi) (zhv _ (zb8 _ _));refine zsr (args:=[enc (p[i].e.add q[k].e),enc (rto (p[i].coef.v*q[k].coef.v))]) (zys (p[i].mulE q[k]) _ ⟨⟨by show 0<=p[i].e.a+q[k].e.a; omega,by show p[i].e.a+q[k].e.a<=10; omega⟩,⟨by show 0<=p[i].e.b+q[k].e.b; omega,by show p[i].e.b+q[k].e.b<=10; omega⟩,by show 0<=p[i].e.c+q[k].e.c; omega,by show p[i].e.c+q[k].e.c<=10; omega⟩ ((zov (h.hp _ (yk2 hi)) (h.hq _ (yk2 hlt)) (by omega)).mono (by omega)) hL) (by simp [go_sem,Ex.add]) (zqi _) (zqh _) ?_;simp [go_sem];refine ⟨fun _=>MR.of_vm ?_,fun h=>absurd rfl h⟩;have e3:=i64s k (by omega);simp [go_sem,e3];refine ⟨_,?_,k+1,by omega,rfl,Weak.to [1,5,7,14,15,16,21,22,23] [((2,0),2)] (by simp [puT,mkSt,go_sem]),?_⟩
  ·omega
  ·simp only [puB]; rw [yij hi hlt,z2w]
 ·have hk':k=q.length:=by omega
  refine MR.gseq' (MR.gcond (t:=false) (by simp [go_sem,hlt]) (fun h=>by cases h) (fun _=>MR.gext ⟨fun h=>(by cases h),fun _=>⟨fun h=>(by cases h),fun _=>⟨rfl,?_,?_⟩⟩⟩))
  ·exact Weak.to [1,5,7,14,15,16,21,22,23] [((2,0),2)] (by simp [puT,mkSt,go_sem,hk'])
  ·rw [hk']
theorem zsf:∀ p q:List GMono,(zey p q).length=p.length*q.length
 | [],q=>by simp [zey]
 | m::p,q=>by rw [show zey (m::p) q=q.map m.mulE++zey p q from rfl,ymm,ylj,zsf p q,ylr,yks]; omega
theorem zy0 (p q:List GMono) (vp:PVal p) (vq:PVal q) (h:pmOk p q):Sp P F.l5 [.sl (ens p),.sl (ens q)] (.pure (.sl (ens (pmul p q)))):=by
 have lp:=zbm vp;have lq:=zbm vq;have sp1:psm p 1048576:=fun m hm=>GRat.sm.mono (h.hp m hm) (by omega);have sq1:psm q 1048576:=fun m hm=>GRat.sm.mono (h.hq m hm) (by omega);refine Sp.of_mr c.l5 (by simp) ?_;unfold g.l5;generalize hP:(fun ex s (_:Option FA)=>retP [(4,none)] (RV.pure (.sl (ens (pmul p q)))) ex s)=Post;refine MR.gseq ?_;simp [go_sem];refine MR.gseq' (MR.greg (MIns.cons (zmx fun r=>?_)));refine ze7 [[12]] ?_;simp [go_sem];refine MR.gseq' (MR.gseq ?_);simp [go_sem];refine zaa (zi9 p sp1 (by omega)) rfl ?_;simp [go_sem,zn4 vp];refine MR.gblk (MR.mono (MR.gloop (Post:=puE r p q) (I:=puI r p q) p.length ⟨0,by omega,by omega,Weak.to [1,5,14,15,16] [] (by simp [puS,mkSt,go_sem]),by simp [puB,yej,zfy,mks,mvs]⟩ ?_) ?_)
 ·rintro n0 s B ⟨i,hi,rfl,hw,rfl⟩;refine MR.weak hw ?_;unfold g.rz;refine MR.gseq ?_;simp [puS,mkSt,go_sem];by_cases hlt:i<p.length
  ·refine MR.gseq' (MR.gcond (t:=true) (by simp [go_sem,hlt]) (fun _=>MR.gnop ⟨fun _=>?_,fun h=>absurd rfl h⟩) (fun h=>by cases h));simp [go_sem];refine MR.gseq' (MR.gblk (MR.gseq ?_));simp [go_sem];refine zae hlt ?_;refine MR.gseq ?_;simp [go_sem];refine zaa (zi9 q sq1 (by omega)) rfl ?_;simp [go_sem,zn4 vq];refine MR.gblk (MR.mono (yii r p q vp vq h lp lq hlt (Weak.to [1,5,7,14,15,16,21,22,23] [((7,0),2)] (by simp [puT,mkSt,go_sem]))) ?_);rintro ex s B ⟨rfl,hw,rfl⟩;have e3:=i64s i (by omega);refine ⟨fun _=>MR.weak hw (MR.of_vm ?_),fun h=>absurd rfl h⟩;simp [puT,mkSt,go_sem,e3];refine ⟨_,?_,i+1,by omega,rfl,Weak.to [1,5,14,15,16] [] (by simp [puS,mkSt,go_sem]),?_⟩
   ·omega
   ·simp only [puB]; rw [yei hlt]
  ·have hk':i=p.length:=by omega
   refine MR.gseq' (MR.gcond (t:=false) (by simp [go_sem,hlt]) (fun h=>by cases h) (fun _=>MR.gext ⟨fun h=>(by cases h),fun _=>⟨fun h=>(by cases h),fun _=>⟨rfl,?_,?_⟩⟩⟩))
   ·exact Weak.to [1,5,14,15,16] [] (by simp [puS,mkSt,go_sem,hk'])
   ·rw [hk']
 ·rintro ex s B ⟨rfl,hw,rfl⟩;refine ⟨fun _=>?_,fun h=>absurd rfl h⟩;have hfin:=minv (okE (zey p q));have hsm:∀ x∈zfy (okE (zey p q)) [],x.2.sm 1048576:=by
   rw [<- z1n];cases hpl:p.length with
   | zero=>intro x hx; rw [yej] at hx; cases hx
   | succ n =>
    have:=z81 (p:=p) (q:=q) (k:=q.length) (i:=n) (by omega) (h.hm n q.length (by omega)) (zhv _ (zb8 _ _));rw [yei (by omega)] at this;exact fun x hx=>(this x hx).2
  unfold puB;rw [z1n];refine MR.weak hw (MR.freeze (t:=5) rfl ?_);refine MR.of_vm ?_;subst hP;simp [puS,mkSt,go_sem];have hpl:=zbm (zb8 p q);have hlen:(okE (zey p q)).length<=46656:=by
   have h1:(zey p q).length=p.length*q.length:=by exact zsf p q
   have h2:=ykw lp lq;have h3:(okE (zey p q)).length<=(zey p q).length:=ylz _ _;omega
  refine zct (zom r (zfy (okE (zey p q)) []) (fun x hx=>GRat.sm.mono (hsm x hx) (by omega)) hfin.nod (by have:=hfin.len; omega) (pmul p q) (z1l hfin) (zum (zb8 p q))) (by simp [go_sem]) ⟨zed _ _ rfl,by decide,by simp [ens,LIM]; omega⟩ _ rfl ?_;simp [go_sem,killAll]
theorem zwl (v w:GW) (hv:v.sm 1048576) (hw:w.sm 1048576):Sp P F.bf [enc v,enc w] (.pure (enc (zao 1 v w))):=by refine Sp.vz c.bf fun _=>?_;simp [g.bf,go_sem];refine zaa (z1a v.q w.q hv.q hw.q) rfl ?_;simp [go_sem,zao]
theorem z5v (v w:GW):Sp P F.da [enc v,enc w] (.pure (enc (zao 4 v w))):=by refine Sp.vz c.da fun _=>?_;simp [g.da,go_sem,zao,zts]
theorem z75 (v w:GW) (hv:v.si 2) (hw:w.si 2):Sp P F.bg [enc v,enc w] (.pure (enc (zao 2 v w))):=by
 refine Sp.vz c.bg fun _=>?_;have r1:=si2.1 hv;have r2:=si2.1 hw;have e1:IntKind.i64.wrap (v.cost+w.cost)=v.cost+w.cost:=i64w (by omega) (by omega);rcases ykh v.inf with h1|h1
 ·simp [g.bg,zao,h1,go_sem,gr0]
 rcases ykh w.inf with h2|h2
 ·simp [g.bg,zao,h1,h2,go_sem,gr0]
 simp [g.bg,zao,h1,h2,e1,go_sem];refine ⟨fun h3=>by simp [h3,go_sem,gr0],fun h3=>by simp [show ¬ 1099511627776<v.cost+w.cost by omega,go_sem,gr0]⟩
theorem z1j (v w:GW) (pv':PVal v.poly) (pw:PVal w.poly) (h:pmOk v.poly w.poly):Sp P F.fe [enc v,enc w] (.pure (enc (zao 5 v w))):=by refine Sp.vz c.fe fun _=>?_;simp [g.fe,go_sem];refine zaa (zy0 v.poly w.poly pv' pw h) rfl ?_;simp [go_sem,zao,gr0]
theorem zrz (k:Int) (hk:1<=k/\k<=5) (v w:GW) (hv:v.sm 1048576) (hw:w.sm 1048576) (sv:v.si k) (sw:w.si k) (h5:k=5->pmOk v.poly w.poly):Sp P (kF4 k) [enc v,enc w] (.pure (enc (zao k v w))):=by
 have:k=1\/k=2\/k=3\/k=4\/k=5:=by omega
 rcases this with rfl|rfl|rfl|rfl|rfl
 ·exact zwl v w hv hw
 ·exact z75 v w sv sw
 ·have e:zao 3 v w=zao 1 v w:=by rw [zao,zao]; simp
  rw [e]; exact zwl v w hv hw
 ·exact z5v v w
 ·exact z1j v w (sv.2.2.2.2.2.2.2.2 rfl) (sw.2.2.2.2.2.2.2.2 rfl) (h5 rfl)
theorem z5d (r:GRing) (v w:GW) (hv:v.sm 1048576) (hw:w.sm 1048576) (cv:v.chk r) (cw:w.chk r) (h6:r.kind≠6) (h5:r.kind=5->pmOk v.poly w.poly):Sp P F.au [enc r,enc v,enc w] (.pure (enc (zao r.kind v w))):=by have hr0:=cv.1;have hk:=GRing.ok_kind hr0 h6;have t1:v.tk r=v:=yj9 cv;have t2:w.tk r=w:=yj9 cw;have k1:=zds r v hv;have k2:=zds r w hw;rw [t1] at k1; rw [t2] at k2;refine Sp.vz c.au fun _=>?_;simp [g.au,go_sem];refine zaa (zeu r) rfl ?_;simp [hr0,go_sem];refine zab k1 ?_;simp [go_sem];refine zab k2 ?_;simp [go_sem,h6];obtain ⟨f5,f6,f7,f8,c5,c8,hA⟩:=zen r.kind ⟨hk.1,hk.2.1⟩;refine zaa (zkf r.kind ⟨hk.1,hk.2.1⟩) rfl ?_;simp [hA,go_sem];refine zab (zrz r.kind ⟨hk.1,hk.2.1⟩ v w hv hw (cv.2.1 h6) (cw.2.1 h6) h5) ?_;simp [go_sem]
theorem zyp (k:Int) (hk:1<=k/\k<=5) (v w:GW) (i:Nat) (iv:i<v.parts.length) (iw:i<w.parts.length) (hi:i<=3) (hv:v.parts[i].sm 1048576) (hw:w.parts[i].sm 1048576) (sv:v.parts[i].si k) (sw:w.parts[i].si k) (h5:k=5->pmOk v.parts[i].poly w.parts[i].poly) :
  Sp P F.gk [zm6 k,.int .i64 i,.ref (enc v),.ref (enc w)] (.pure (enc (zao k v.parts[i] w.parts[i]))):=by
 obtain ⟨f5,f6,f7,f8,c5,c8,hA⟩:=zen k hk;rw [hA];refine Sp.of_vmW c.gk (by simp) ((Weak.openRef (t:=2) (v:=enc v) (n:=8) (by simp [go_sem]) (by simp [go_sem])).trans (Weak.openRef (t:=3) (v:=enc w) (n:=8) (by simp [go_sem]) (by simp [go_sem]))) ?_;simp [g.gk,go_sem];refine zae iv ?_;refine zae iw ?_;refine zab (zrz k hk v.parts[i] w.parts[i] hv hw sv sw h5) ?_;simp [go_sem]
theorem z0i (r:GRing) (v w:GW) (hv:v.sm 1048576) (hw:w.sm 1048576) (cv:v.chk r) (cw:w.chk r) (h5:r.kind=5->pmOk v.poly w.poly) (h6':∀ i (h:i<r.parts.length) (h1:i<v.parts.length) (h2:i<w.parts.length),r.parts[i]=5->pmOk v.parts[i].poly w.parts[i].poly) :
  Sp P F.au [enc r,enc v,enc w] (.pure (enc (r.times v w))):=by
 have hr0:=cv.1;by_cases h6:r.kind=6;rotate_left
 ·have h1:r.times v w=zao r.kind v w:=by simp [GRing.times,h6]
  rw [h1]; exact z5d r v w hv hw cv cw h6 h5
 have hp:=GRing.ok_parts hr0 h6;have t1:v.tk r=v:=yj9 cv;have t2:w.tk r=w:=yj9 cw;have k1:=zds r v hv;have k2:=zds r w hw;rw [t1] at k1; rw [t2] at k2;have lv:=(cv.2.2 h6).1;have lw:=(cw.2.2 h6).1;have lp:(zcn r.parts v.parts w.parts).length=r.parts.length:=zaz lv lw;refine Sp.vz c.au fun _=>?_;simp [g.au,go_sem];refine zaa (zeu r) rfl ?_;simp [hr0,go_sem];refine zab k1 ?_;simp [go_sem];refine zab k2 ?_;simp [go_sem,h6];refine zaa (zvn r hp.2.2 hp.2.1 F.gk [.ref (enc v),.ref (enc w)] (zcn r.parts v.parts w.parts) lp fun i h h'=>?_) ?_ ?_
 ·rw [za8 h (by omega) (by omega) h'];exact zyp r.parts[i] (hp.2.2 _ (yk2 h)) v w i (by omega) (by omega) (by omega) (hv.parts _ (yk2 _)) (hw.parts _ (yk2 _)) ((cv.2.2 h6).2.2 i h (by omega)) ((cw.2.2 h6).2.2 i h (by omega)) (h6' i h (by omega) (by omega))
 ·simp [go_sem,ziz,zpx,h6]
 simp [go_sem,GRing.times,h6]
end Go.Ab
namespace Go.Ab
open Enc (enc)
attribute [local go_sem] zal Opd.slots
theorem zjs {I J N i:Nat} (h:i<I):(famR I J N)[i]?.getD none=some ⟨1,(List.range J).map (rowV N (i*J))⟩:=by rw [zx1 h]; rfl
theorem zjt {T:List (List GW)} {p:Nat} (h:p<T.length):(famC T)[p]?.getD none=some ⟨8,avs (T.getD p [])⟩:=by rw [z7q h]; rfl
theorem zyr (t:GTrans) (wx wy:List Int) (I J N:Nat) (T:List (List GW)) (i j q:Nat) (hi:i<I) (hj:j<J) (hp:i*J+j<T.length) (hq:q<N) (hrow:(T.getD (i*J+j) []).length=N) (w:GW)
  (hplus:Sp P F.am [enc t.ring,enc ((T.getD (i*J+j) []).getD q t.ring.zero),enc w] (.pure (enc (t.ring.plus ((T.getD (i*J+j) []).getD q t.ring.zero) w)))) :
  HSp P F.j7 [.ptr 900000 0 0 0,.p (.int .i64 i),.p (.int .i64 j),.p (.int .i64 q),.p (enc w)] (hpT t wx wy I J N T) (.tup []) (hpT t wx wy I J N (adT t.ring T (i*J+j) q w)):=by
 refine HSp.of_mr c.j7 (by simp) (by simp [hpT,PINB]) (by simp [hpT]) ?_ fun A hA=>?_
 ·show (true&&hpOk [900000,900001,900002,900003] (hpT t wx wy I J N (adT t.ring T (i*J+j) q w)))=true;rw [zpg]; rfl
 ·have e1:=zjs (N:=N) (J:=J) hi;have e2:=zjt hp;have hA':adT t.ring T (i*J+j) q w=T.set (i*J+j) ((T.getD (i*J+j) []).set q (t.ring.plus ((T.getD (i*J+j) []).getD q t.ring.zero) w)):=rfl;rw [hA'];generalize T.getD (i*J+j) []=row at *
  have hql:q<row.length:=by omega
  have hgq:row.getD q t.ring.zero=row[q]:=by rw [yk9,ykg hql]; rfl
  rw [hgq] at hplus ⊢;refine MR.of_vm ?_;have r1:(List.map (outV J) (List.range I))[i]?=some (outV J i):=by rw [ykv,ylt hi]; rfl
  have r2:(List.map (rowV N (i*J)) (List.range J))[j]?=some (rowV N (i*J) j):=by rw [ykv,ylt hj]; rfl
  simp [g.j7,go_sem,zea,hpT,tabV];refine ⟨fun _=>⟨hi,?_⟩,fun h=>absurd hi (by omega)⟩;rw [zbt];refine ⟨_,r1,?_⟩;simp [go_sem,outV,e1,hi,hj];rw [zbt];refine ⟨_,r1,?_⟩;simp [go_sem,outV,e1,hi,hj];rw [zbt];refine ⟨_,r2,?_⟩;simp [go_sem,rowV,e1,e2,hi,hj];rw [zbt];refine ⟨_,r1,?_⟩;simp [go_sem,outV,e1,hi,hj];rw [zbt];refine ⟨_,r2,?_⟩;simp [go_sem,rowV,e1,e2,hi,hj,hrow,hq];refine zae hql ?_;refine zab hplus ?_;simp [go_sem,rowV,e1,e2,hi,hj,hrow,hq];refine zae hql ?_;have hs:(famC T).set (i*J+j) (some ⟨8,(avs row).set q (.p (enc (t.ring.plus row[q] w)))⟩)=famC (T.set (i*J+j) (row.set q (t.ring.plus row[q] w))):=by rw [<- z7p]; congr 3;simp [avs,ens,yoo]
  refine ⟨.inr rfl,_,Weak.refl _,[],rfl,rfl,?_⟩;simp only [yfh] at hs;simp [zog,St.site,look,hs]
theorem z9v (l:Int) (h:0<=l/\l<=64):Sp P F.dz [.int .i64 l] (.pure (.int .i64 (if l=0 then 0 else 1))):=by refine Sp.vz c.dz fun _=>?_;simp [g.dz,go_sem];split<;>split<;>omega
theorem zit (w:List Int) (m:Int) (hl:w.length<=1000000):Sp P F.bj [.sl (ens w),.int .i64 m] (.pure (.bool (decide ((1<=m/\m<=32)/\w.length<=256/\∀ x∈w,1<=x/\x<=m)))):=by
 refine Sp.vz c.bj fun _=>?_;simp [g.bj,go_sem]
 refine zai (S:=fun k:Nat=>mkSt [(0,.p (.sl (ens w))),(1,.p (.int .i64 m)),(7,.p (.sl (ens w))),(8,.p (.int .i64 w.length)),(9,.p (.int .i64 k))] []) (I:=fun k=>k<=w.length/\∀ i,(h:i<w.length)->i<k->1<=w[i]/\w[i]<=m) (m:=fun k=>w.length - k) 0
  (Weak.to [0,1,7,8,9] [] (by simp [go_sem])) ⟨by omega,fun i _ h=>by omega⟩ ?_
 rintro k ⟨h1,h2⟩ R hn hr hx;have e1:=i64s k (by omega);simp [g.ow,mkSt,go_sem];refine ⟨fun hk=>zae hk ?_,fun hk=>hx _ _ ?_⟩
 ·have hf:∀ h:w[k]<1\/m<w[k],¬ ∀ x∈w,1<=x/\x<=m:=fun h hh=>by have:=hh w[k] (yk2 hk); omega
  refine ⟨fun h=>hr _ (by simp [go_sem,hf (.inl h)]),fun h=>⟨fun h'=>hr _ (by simp [go_sem,hf (.inr h')]),fun h'=>hn (k+1) _ (Weak.to [0,1,7,8,9] [] (by simp [go_sem,e1])) ⟨by omega,fun i hi hik=>?_⟩ (by omega)⟩⟩;by_cases e:i=k
  ·subst e; exact ⟨h,h'⟩
  ·exact h2 i hi (by omega)
 ·have hk':k=w.length:=by omega
  have ha:∀ x∈w,1<=x/\x<=m:=fun x hx=>by obtain ⟨i,hi,rfl⟩:=ylq.1 hx;exact h2 i hi (by omega)
  have hd:decide (∀ x∈w,1<=x/\x<=m)=true:=decide_eq_true ha;simp [go_sem,hd];refine ⟨fun h1=>⟨fun h2=>by simp [h1,h2]; omega,fun h2 _ h3=>by omega⟩,fun h1 h2=>by omega⟩
theorem ya4 (n:Nat) (h:n<4294967296):Sp P F.ln [.int .u64 1,.int .u64 n] (.pure (.tup [.int .u64 0,.int .u64 n])):=by
 refine Sp.vz c.ln fun _=>?_;have a1:andI .u64 1 4294967295=1:=by decide +kernel
 have a2:andI .u64 (n:Int) 4294967295=n:=by
  have:=zye (x:=n) (y:=4294967295) (by omega) (by omega);have e:n &&& 4294967295=n:=by have:=Nat.and_two_pow_sub_one_eq_mod n 32;rw [show (2:Nat)^32 - 1=4294967295 from rfl] at this;rw [this]; exact ylo h
  rw [e] at this;exact this
 have a3:andI .u64 0 4294967295=0:=by decide +kernel
 have e:(n:Int) % 18446744073709551616 / 4294967296 % 18446744073709551616=0:=by omega
 simp [g.ln,go_sem,a1,a2,e,a3];omega
theorem z8j (n:Nat) (h:n<4294967296):Sp P F.kr [.int .u64 1,.int .u64 n] (.pure (.tup [.int .u64 0,.int .u64 n])):=by refine Sp.vz c.kr fun _=>?_;simp [g.kr,go_sem];refine zaa (ya4 n h) rfl ?_;simp [go_sem]
theorem z6c (Z G:AV) (m t k:Nat) (ht:t<=k):List.replicate m Z++(List.replicate t Z++(List.replicate m Z++List.replicate k G).drop (m+t))=List.replicate (m+t) Z++List.replicate (k - t) G:=by rw [yoe,yph,List.length_replicate,yph,show m - (m+t)=0 by omega,show k - (m+t - m)=k - t by omega,List.replicate_zero,ym5,<- List.append_assoc,ypj]
def gz:AV:=.p (.agg [.bool false,.sl [],.sl [],.int .i64 0,.bool false,.int .u64 0,.sl [],.sl []])
theorem z1c (z:GW) (n:Nat) (h:n<=1000):Sp P F.j6 [.sl [enc z],.int .i64 n] (.fresh 8 (ens (List.replicate n z))):=by
 refine Sp.vz c.j6 fun _=>?_;have c1:(n:Int) % 18446744073709551616=n:=by omega
 simp [g.j6,go_sem,c1];refine zaa (z8j n (by omega)) rfl ?_;have c2:IntKind.i64.wrap (n:Int)=n:=i64w (by omega) (by omega);simp [go_sem,c2];refine ⟨by omega,fun _=>⟨by omega,?_⟩⟩
 refine zai (S:=fun m:Nat=>mkSt [(7,.own 1 0 0 n),(8,.p (.int .i64 m))] [(1,⟨8,avs (List.replicate m z)++List.replicate (n - m) gz⟩)]) (I:=fun m=>m<=n/\(n=0\/1<=m)) (m:=fun m=>n - m) (min 1 n)
  (Weak.to [7,8] [((30,0),1)] ?_) (by omega) ?_
 ·rcases ymo n with h0|h0
  ·subst h0; simp [mkSt,go_sem]
  ·have e1:min 1 n=1:=by omega
   simp [mkSt,go_sem,e1,gz,avs]
 rintro m ⟨h1,h2⟩ R hn hr hx;simp [g.qz,mkSt,go_sem];refine ⟨fun hm=>?_,fun hm=>hx _ _ ?_⟩
 ·have e:IntKind.i64.wrap ((m:Int)+((min m (n - m):Nat):Int))=((m+min m (n - m):Nat):Int):=(i64w (by omega) (by omega)).trans (by omega);rw [z6c _ gz m (min m (n - m)) (n - m) (by omega)];refine ⟨by omega,?_,hn (m+min m (n - m)) _ (Weak.to [7,8] [((1,0),1)] (by simp [mkSt,go_sem,e,Nat.sub_sub,gz])) ⟨by omega,by omega⟩ (by omega)⟩;exact ⟨by rw [yl8]; intro v hv; rw [(ymp.1 hv).2]; rfl,by omega⟩
 ·have:m=n:=by omega
  subst this;simp [go_sem]
theorem z41 (r:GRing) (n:Nat) (h:n<=1000):Sp P F.jo [enc r,.int .i64 n] (.fresh 8 (ens (List.replicate n r.zero))):=by
 refine Sp.vz c.jo fun _=>?_;simp [g.jo,go_sem];refine zaa (zf7 r) rfl ?_;simp [go_sem];refine zct (z1c r.zero n h) (by simp [go_sem]) ⟨zed _ _ rfl,by decide,by simp [ens,LIM]; omega⟩ _ rfl ?_;cases hfl:(ens (List.replicate n r.zero)).all PV.flat
 ·simp [go_sem,killAll]
 ·simp [go_sem]
def tabP (t:GTrans) (wx wy:List Int) (at':PV):PV:=.agg [.int .i64 t.ring.kind,.sl (ens t.ring.parts),.int .i64 t.i,.int .i64 t.o,.int .i64 t.st,.sl (ens t.ini),.sl (ens t.fin),.sl (ens t.arcs),.sl (ens wx),.sl (ens wy),at']
theorem ybo (t:GTrans) (wx wy:List Int) (at':PV) (x:GTArc) (i k:Nat):Sp P F.bb [.ref (tabP t wx wy at'),enc x,.int .i64 i,.int .i64 k] (.pure (.bool (decide ((x.i=0\/wx[i]?=some x.i)/\(x.o=0\/wy[k]?=some x.o))))):=by
 refine Sp.of_vmW c.bb (by simp) (Weak.openRef (t:=0) (v:=tabP t wx wy at') (n:=11) (by simp [tabP,go_sem]) (by simp [tabP,go_sem])) ?_;by_cases a:x.i=0
 ·by_cases b:x.o=0
  ·simp (maxSteps:=1000000) [g.bb,go_sem,tabP,a,b]
  ·by_cases c:k<wy.length
   ·simp (maxSteps:=1000000) [g.bb,go_sem,tabP,a,b,c];refine zae c ?_;exact eq_comm
   ·simp (maxSteps:=1000000) [g.bb,go_sem,tabP,a,b,c]
 ·by_cases d:i<wx.length
  ·simp (maxSteps:=1000000) [g.bb,go_sem,tabP,a,d];refine zae d ?_;refine ⟨fun h=>⟨fun b=>⟨h.symm,.inl b⟩,fun b=>⟨fun c=>zae c ?_,fun c _=>⟨b,by simp [yli c]⟩⟩⟩,fun h h'=>absurd h'.symm h⟩;simp [h,b,ykg c,eq_comm]
  ·simp (maxSteps:=1000000) [g.bb,go_sem,tabP,a,d]
end Go.Ab
