/-
Proofs for the law CountIsFinite, part 9. Conditions: none.
-/
import Derived.Test.YtdkocfjbmbenfaaGreatDoorDP08
set_option maxRecDepth 100000
set_option maxHeartbeats 4000000
set_option linter.all false
namespace Go.Ab
def DEAD:Nat:=999999
def idOf (ids:List ((Nat × Nat) × Nat)) (s g:Nat):Nat :=
 match ids with
 | []=>DEAD
 | ((s0,g0),s1)::r=>if s0=s/\g0=g then s1 else idOf r s g
mutual
def ren (fam:List Nat) (ids:List ((Nat × Nat) × Nat)):AV->AV
 | .own s g off len=>if fam.contains s=true then .own s g off len else .own (idOf ids s g) 0 off len
 | .ptr s g ix off=>if fam.contains s=true then .ptr s g ix off else .ptr (idOf ids s g) 0 ix off
 | .agg cs=>.agg (renL fam ids cs)
 | .fn f cs=>.fn f (renL fam ids cs)
 | .tup cs=>.tup (renL fam ids cs)
 | .p v=>.p v
 | .nil=>.nil
 | .cp v vsz off=>.cp v vsz off
 | .skip=>.skip
 | .undef=>.undef
def renL (fam:List Nat) (ids:List ((Nat × Nat) × Nat)):List AV->List AV
 | []=>[]
 | v::r=>ren fam ids v::renL fam ids r
end
def mkSt (sl:List (Nat × AV)) (objs:List (Nat × AObj)):St:=⟨sl,objs.map (fun q=>(q.1,[some q.2]))++[(DEAD,[none])]⟩
def zgn (fam:List Nat) (st:St) (ids:List ((Nat × Nat) × Nat)):List ((Nat × Nat) × Nat)->Option (List (Nat × AObj))
 | []=>some []
 | ((s,g),s')::r=>match st.obj s g,zgn fam st ids r with
  | some o,some l=>some ((s',⟨o.sz,renL fam ids o.es⟩)::l)
  | _,_=>none
def zeh:List Nat->Bool
 | []=>true
 | x::r => !r.contains x&&zeh r
def zpp:List (Nat × Nat)->Bool
 | []=>true
 | x::r => !r.contains x&&zpp r
def z02 (fam:List Nat) (ids:List ((Nat × Nat) × Nat)) (hp:List Site):Bool:=hp.all fun q=>decide (q.1<PINB)||decide (999999<=q.1)||fam.contains q.1||(ids.contains ((q.1,0),q.1)&&decide (q.2.length<=1))
def St.weakF? (st:St) (keep:List Nat) (fam:List Nat) (ids:List ((Nat × Nat) × Nat)):Option St :=
 if (zpp (ids.map (·.1))&&zeh (DEAD::ids.map (·.2))&&z02 fam ids st.hp&&fam.all fun s => !(s == DEAD) && !(ids.map (·.2)).contains s && !(ids.map (·.1.1)).contains s&&(st.site s).all (zfd fam))=true then
  (zgn fam st ids ids).map fun objs=>⟨keep.map fun t=>(t,ren fam ids (st.get t)),fam.map (fun s=>(s,st.site s))++(mkSt [] objs).hp⟩
 else none
def St.weak? (st:St) (keep:List Nat) (ids:List ((Nat × Nat) × Nat)):Option St:=st.weakF? keep [] ids
section
variable {P:Program} {K:Ctx} {Z Z':Cz} {st st' st1 st2:St} {w w':World} {a:Act} {N:Nat} {fam:List Nat} {ids:List ((Nat × Nat) × Nat)}
theorem zb5:∀ (l:List AV),renL fam ids l=l.map (ren fam ids)
 | []=>rfl
 | v::r=>by simp [renL,zb5 r]
theorem z7j (l:List PV):renL fam ids (l.map .p)=l.map .p:=by
 rw [zb5,List.map_map]; apply List.map_congr_left; intro x _; rfl
theorem z7h (v:AV):(ren fam ids v).sz=v.sz:=by
 cases v<;>simp only [ren]<;>(try split)<;>simp [AV.sz,zb5]
theorem zw0 (v:AV):(ren fam ids v).one=v.one:=by
 cases v<;>simp only [ren]<;>(try split)<;>simp [AV.one]
theorem zw1 (v:AV):(ren fam ids v).cells=v.cells.map (ren fam ids):=by
 cases v with
 | own s g off len=>simp only [ren]; split<;>simp only [AV.cells,List.map_cons,List.map_nil,ren]<;>simp only [*,if_true,if_false,Bool.false_eq_true]
 | ptr s g off len=>simp only [ren]; split<;>simp only [AV.cells,List.map_cons,List.map_nil,ren]<;>simp only [*,if_true,if_false,Bool.false_eq_true]
 | agg cs=>simp only [ren,AV.cells,zb5]
 | p v=>?_
 | _=>rfl
 cases v<;>first|rfl|skip
 simp only [ren,AV.cells,List.map_map]
 apply List.map_congr_left; intro x _; rfl
theorem zme (es:List AV):(renL fam ids es).flatMap AV.cells=(es.flatMap AV.cells).map (ren fam ids):=by
 induction es with
 | nil=>rfl
 | cons e es ih=>simp only [renL,List.flatMap_cons,List.map_append,ih,zw1]
mutual
theorem z7i:∀ {v:AV},zbx fam v=true->ren fam ids v=v
 | .own s g off len,h=>by simp only [zbx] at h; simp only [ren,h,if_true]
 | .ptr s g off len,h=>by simp only [zbx] at h; simp only [ren,h,if_true]
 | .agg cs,h=>by simp only [zbx] at h; simp only [ren,zkh h]
 | .fn f cs,h=>by simp only [zbx] at h; simp only [ren,zkh h]
 | .tup cs,h=>by simp only [zbx] at h; simp only [ren,zkh h]
 | .p _,_ | .nil,_ | .cp _ _ _,_ | .skip,_ | .undef,_=>rfl
theorem zkh:∀ {l:List AV},zav fam l=true->renL fam ids l=l
 | [],_=>rfl
 | v::r,h=>by simp only [zav,Bool.and_eq_true] at h; simp only [renL,z7i h.1,zkh h.2]
end
theorem zfe:∀ {l:List Nat},zeh l=true->l.Nodup
 | [],_=>List.nodup_nil
 | x::r,h=>by
  simp only [zeh,Bool.and_eq_true,Bool.not_eq_true'] at h
  exact List.nodup_cons.2 ⟨by simpa using h.1,zfe h.2⟩
theorem zkq:∀ {l:List (Nat × Nat)},zpp l=true->l.Nodup
 | [],_=>List.nodup_nil
 | x::r,h=>by
  simp only [zpp,Bool.and_eq_true,Bool.not_eq_true'] at h
  exact List.nodup_cons.2 ⟨by simpa using h.1,zkq h.2⟩
def zuq (ids:List ((Nat × Nat) × Nat)) (s':Nat):Option (Nat × Nat) :=
 match ids with
 | []=>none
 | (i,s1)::r=>if s1=s' then some i else zuq r s'
theorem ze1:∀ {ids:List ((Nat × Nat) × Nat)} {s g:Nat},idOf ids s g≠DEAD->((s,g),idOf ids s g)∈ids
 | [],s,g,h=>by simp [idOf] at h
 | ((s0,g0),s1)::r,s,g,h=>by
  simp only [idOf] at h ⊢
  split
  ·rename_i hc; obtain ⟨rfl,rfl⟩:=hc; simp
  ·rename_i hc; rw [if_neg hc] at h; exact List.mem_cons.2 (.inr (ze1 h))
theorem zdb:∀ {ids:List ((Nat × Nat) × Nat)} {s':Nat} {i:Nat × Nat},(ids.map (·.2)).Nodup->(i,s')∈ids->zuq ids s'=some i
 | [],_,_,_,h=>by simp at h
 | (i0,s1)::r,s',i,hn,h=>by
  rw [List.map_cons,List.nodup_cons] at hn
  simp only [zuq]
  rcases List.mem_cons.1 h with h|h
  ·cases h; simp
  ·rw [if_neg]
   ·exact zdb hn.2 h
   ·rintro rfl; exact hn.1 (List.mem_map.2 ⟨_,h,rfl⟩)
theorem zx0:∀ {ids:List ((Nat × Nat) × Nat)} {i:Nat × Nat} {s s':Nat},(ids.map (·.1)).Nodup->(i,s)∈ids->(i,s')∈ids->s=s'
 | [],_,_,_,_,h,_=>by simp at h
 | (i0,s1)::r,i,s,s',hn,h,h'=>by
  rw [List.map_cons,List.nodup_cons] at hn
  rcases List.mem_cons.1 h with h|h<;>rcases List.mem_cons.1 h' with h'|h'
  ·cases h; cases h'; rfl
  ·cases h; exact absurd (List.mem_map.2 ⟨_,h',rfl⟩) hn.1
  ·cases h'; exact absurd (List.mem_map.2 ⟨_,h,rfl⟩) hn.1
  ·exact zx0 hn.2 h h'
theorem zhi {ids:List ((Nat × Nat) × Nat)}:∀ {l:List ((Nat × Nat) × Nat)} {objs:List (Nat × AObj)},zgn fam st ids l=some objs->(l.map (·.2)).Nodup->DEAD∉l.map (·.2) ->
  (∀ i s',(i,s')∈l->∃ o,st.obj i.1 i.2=some o/\look (objs.map (fun q=>(q.1,[some q.2]))++[(DEAD,[none])]) s' []=[some ⟨o.sz,renL fam ids o.es⟩]) /\
  (∀ s',s'∉l.map (·.2)->look (objs.map (fun q=>(q.1,[some q.2]))++[(DEAD,[none])]) s' []=if DEAD=s' then [none] else [])
 | [],objs,h,_,_=>by
  simp only [zgn,Option.some.injEq] at h
  subst h
  exact ⟨by simp,by simp [look]⟩
 | ((s,g),s1)::r,objs,h,hn,hd=>by
  simp only [zgn] at h
  split at h
  ·rename_i o l ho hl
   cases h
   simp only [List.map_cons,List.nodup_cons,List.mem_cons,not_or] at hn hd
   obtain ⟨i1,i2⟩:=zhi hl hn.2 hd.2
   refine ⟨fun i s' hm=>?_,fun s' hm=>?_⟩
   ·rcases List.mem_cons.1 hm with hm|hm
    ·cases hm; exact ⟨o,ho,by simp [look]⟩
    ·obtain ⟨o',h1,h2⟩:=i1 i s' hm
     refine ⟨o',h1,?_⟩
     have:s1≠s':=by rintro rfl; exact hn.1 (List.mem_map.2 ⟨_,hm,rfl⟩)
     simpa [look,this] using h2
   ·simp only [List.map_cons,List.mem_cons,not_or] at hm
    have:=i2 s' hm.2
    simp only [List.map_cons,List.cons_append,look]
    rw [if_neg (Ne.symm hm.1)]; exact this
  ·cases h
def Cz.ren (Z:Cz) (fam:List Nat) (ids:List ((Nat × Nat) × Nat)):Cz where
 M:=Z.M
 B s g:=if fam.contains s=true then Z.B s g else if g=0 then (match zuq ids s with|some i=>Z.B i.1 i.2|none=>none) else none
 cap s g:=if fam.contains s=true then Z.cap s g else match zuq ids s with|some i=>Z.cap i.1 i.2|none=>0
structure RenOk (st st':St) (fam:List Nat) (ids:List ((Nat × Nat) × Nat)):Prop where
 old:(ids.map (·.1)).Nodup
 new:(ids.map (·.2)).Nodup
 live:∀ i s',(i,s')∈ids->fam.contains s'=false/\fam.contains i.1=false/\∃ o,st.obj i.1 i.2=some o/\st'.obj s' 0=some ⟨o.sz,renL fam ids o.es⟩
 all:∀ s' g' o',st'.obj s' g'=some o'->fam.contains s'=true\/(fam.contains s'=false/\g'=0/\∃ i,(i,s')∈ids)
 dead:0<(st'.site DEAD).length/\st'.obj DEAD 0=none
 fam:∀ s,fam.contains s=true->st'.site s=st.site s/\∀ g o,st.obj s g=some o->renL fam ids o.es=o.es
theorem RenOk.fobj (h:RenOk st st' fam ids) {s g:Nat} (hf:fam.contains s=true):st'.obj s g=st.obj s g:=zad (h.fam s hf).1
mutual
theorem ARep.ren (h:RenOk st st' fam ids):∀ {v:AV} {x:Value},ARep Z st v x->ARep (Z.ren fam ids) st' (Ab.ren fam ids v) x
 | _,_,.p v x hp=>.p v x hp
 | _,_,.nil=>.nil
 | _,_,.own0 s g o ho hb=>by
  simp only [Ab.ren]
  split
  ·rename_i hf; exact .own0 _ _ o (by rw [h.fobj hf]; exact ho) (by simp only [Cz.ren,hf,if_true]; exact hb)
  ·by_cases hd:idOf ids s g=DEAD
   ·rw [hd]; exact .ownD _ _ _ _ _ _ h.dead.1 h.dead.2
   ·have hm:=ze1 hd
    obtain ⟨f1,_,o',h1,h2⟩:=h.live _ _ hm
    exact .own0 _ _ _ h2 (by simp only [Cz.ren,f1,Bool.false_eq_true,if_false,if_true,zdb h.new hm,hb])
 | _,_,.own s g off len o b ad c ho hb h1 h2 h3 h4=>by
  simp only [Ab.ren]
  split
  ·rename_i hf; exact .own _ _ _ _ o b ad c (by rw [h.fobj hf]; exact ho) (by simp only [Cz.ren,hf,if_true]; exact hb) (by simp only [Cz.ren,hf,if_true]; exact h1) h2 h3 h4
  ·by_cases hd:idOf ids s g=DEAD
   ·rw [hd]; exact .ownD _ _ _ _ _ _ h.dead.1 h.dead.2
   ·have hm:=ze1 hd
    obtain ⟨f1,_,o',k1,k2⟩:=h.live _ _ hm
    simp only at k1
    rw [ho] at k1; cases k1
    exact .own _ _ _ _ _ b ad c k2 (by simp only [Cz.ren,f1,Bool.false_eq_true,if_false,if_true,zdb h.new hm,hb]) (by simp only [Cz.ren,f1,Bool.false_eq_true,if_false,if_true,zdb h.new hm]; exact h1) h2 (by simpa [zb5] using h3) h4
 | _,_,.ownD s g off len ad c hg hdd=>by
  simp only [Ab.ren]
  split
  ·rename_i hf; exact .ownD _ _ _ _ _ _ (by rw [(h.fam s hf).1]; exact hg) (by rw [h.fobj hf]; exact hdd)
  ·by_cases hd:idOf ids s g=DEAD
   ·rw [hd]; exact .ownD _ _ _ _ _ _ h.dead.1 h.dead.2
   ·obtain ⟨_,_,o',k1,k2⟩:=h.live _ _ (ze1 hd)
    simp only at k1
    rw [hdd] at k1; cases k1
 | _,_,.ptr s g ix off o b ho hb=>by
  simp only [Ab.ren]
  split
  ·rename_i hf; exact .ptr _ _ ix off o b (by rw [h.fobj hf]; exact ho) (by simp only [Cz.ren,hf,if_true]; exact hb)
  ·by_cases hd:idOf ids s g=DEAD
   ·rw [hd]; exact .ptrD _ _ _ _ _ h.dead.1 h.dead.2
   ·have hm:=ze1 hd
    obtain ⟨f1,_,o',k1,k2⟩:=h.live _ _ hm
    simp only at k1
    rw [ho] at k1; cases k1
    exact .ptr _ _ ix off ⟨o.sz,renL fam ids o.es⟩ b k2 (by simp only [Cz.ren,f1,Bool.false_eq_true,if_false,if_true,zdb h.new hm,hb])
 | _,_,.ptrD s g ix off ad hg hdd=>by
  simp only [Ab.ren]
  split
  ·rename_i hf; exact .ptrD _ _ _ _ _ (by rw [(h.fam s hf).1]; exact hg) (by rw [h.fobj hf]; exact hdd)
  ·by_cases hd:idOf ids s g=DEAD
   ·rw [hd]; exact .ptrD _ _ _ _ _ h.dead.1 h.dead.2
   ·obtain ⟨_,_,o',k1,k2⟩:=h.live _ _ (ze1 hd)
    simp only at k1
    rw [hdd] at k1; cases k1
 | _,_,.cp v vsz off b o cur T fr vals h0 h1 h2 h3 h4 h5=>.cp v vsz off b o cur T fr vals h0 h1 h2 h3 h4 h5
 | _,_,.agg cs vals h1 h2=>by
  simp only [Ab.ren]
  exact .agg _ vals (fun c hc=>by rw [zb5] at hc; obtain ⟨d,hd,rfl⟩:=List.mem_map.1 hc; rw [zw0]; exact h1 d hd) (AReps.ren h h2)
 | _,_,.fn f cs vals h1=>by simp only [Ab.ren]; exact .fn f _ vals (AReps.ren h h1)
 | _,_,.tup vs vals h1=>by simp only [Ab.ren]; exact .tup _ vals (AReps.ren h h1)
 | _,_,.skip=>.skip
 | _,_,.undef x=>.undef x
theorem AReps.ren (h:RenOk st st' fam ids):∀ {v:List AV} {x:List Value},AReps Z st v x->AReps (Z.ren fam ids) st' (renL fam ids v) x
 | _,_,.nil=>.nil
 | _,_,.cons v x vs xs h1 hs=>.cons _ _ _ _ (ARep.ren h h1) (AReps.ren h hs)
end
theorem HRep.ren (h:HRep K Z st w) (hr:RenOk st st' fam ids):HRep K (Z.ren fam ids) st' w:=by
 have back:∀ {s g:Nat} {o:AObj},st'.obj s g=some o->∃ i o0,st.obj i.1 i.2=some o0/\o=⟨o0.sz,renL fam ids o0.es⟩/\(Z.ren fam ids).B s g=Z.B i.1 i.2/\(Z.ren fam ids).cap s g=Z.cap i.1 i.2 /\
   ((fam.contains s=true/\i=(s,g))\/(fam.contains s=false/\fam.contains i.1=false/\g=0/\(i,s)∈ids)):=by
  intro s g o ho
  rcases hr.all s g o ho with hf|⟨hf,rfl,i,hi⟩
  ·have h1:=hr.fobj (g:=g) hf
   rw [ho] at h1
   exact ⟨(s,g),o,h1.symm,by rw [(hr.fam s hf).2 g o h1.symm],by simp only [Cz.ren,hf,if_true],by simp only [Cz.ren,hf,if_true],.inl ⟨hf,rfl⟩⟩
  ·obtain ⟨f1,f2,o0,h1,h2⟩:=hr.live i s hi
   rw [ho] at h2; cases h2
   exact ⟨i,o0,h1,rfl,by simp only [Cz.ren,hf,Bool.false_eq_true,if_false,if_true,zdb hr.new hi],by simp only [Cz.ren,hf,Bool.false_eq_true,if_false,if_true,zdb hr.new hi],.inr ⟨hf,f2,rfl,hi⟩⟩
 refine ⟨fun s g o ho=>?_,fun s g s' g' o o' b ho ho' hb hb'=>?_,h.mem,fun s g o b ho hb=>?_,fun s g o b ho hb=>?_,h.m0,h.prov,h.keep⟩
 ·obtain ⟨i,o0,h1,rfl,eB,eC,_⟩:=back ho
  obtain ⟨k1,k2,k3,k4,k5⟩:=h.objs i.1 i.2 o0 h1
  refine ⟨k1,fun e he=>?_,fun c hc=>?_,fun hb=>?_,fun b hb=>?_⟩
  ·simp only [zb5,List.mem_map] at he; obtain ⟨e0,he0,rfl⟩:=he; rw [z7h]; exact k2 e0 he0
  ·simp only [zme,List.mem_map] at hc; obtain ⟨c0,hc0,rfl⟩:=hc; rw [zw0]; exact k3 c0 hc0
  ·rw [eB] at hb; simp [k4 hb,renL]
  ·rw [eB] at hb
   obtain ⟨cur,T,vals,e1,e2,e3,e4,e5,e6⟩:=k5 b hb
   refine ⟨cur,T,vals,e1,?_,e3,by rw [eC]; exact e4,by rw [eC]; simpa [zb5] using e5,by rw [eC]; exact e6⟩
   rw [zme,<- zb5]
   exact AReps.ren hr e2
 ·obtain ⟨i,o0,h1,_,eB,_,c1⟩:=back ho
  obtain ⟨i',o0',h1',_,eB',_,c2⟩:=back ho'
  rw [eB] at hb; rw [eB'] at hb'
  obtain ⟨e1,e2⟩:=h.inj _ _ _ _ _ _ b h1 h1' hb hb'
  have e:i=i':=Prod.ext e1 e2
  subst e
  rcases c1 with ⟨f1,rfl⟩|⟨f1,f2,rfl,m1⟩<;>rcases c2 with ⟨g1,g2⟩|⟨g1,g2,rfl,m2⟩
  ·cases g2; exact ⟨rfl,rfl⟩
  ·simp only at g2; rw [f1] at g2; cases g2
  ·subst g2; simp only at f2; rw [g1] at f2; cases f2
  ·exact ⟨zx0 hr.old m1 m2,rfl⟩
 ·obtain ⟨i,o0,h1,_,eB,_,_⟩:=back ho
  rw [eB] at hb
  exact h.sep _ _ _ b h1 hb
 ·obtain ⟨i,o0,h1,_,eB,_,_⟩:=back ho
  rw [eB] at hb
  exact h.own _ _ _ b h1 hb
theorem ztd (f:Nat->List (Option AObj)) (r:List Site) (s:Nat):∀ fam:List Nat,look (fam.map (fun s=>(s,f s))++r) s []=if fam.contains s=true then f s else look r s []
 | []=>by simp
 | k::l=>by
  have ih:=ztd f r s l
  simp only [List.map_cons,List.cons_append,look]
  by_cases h:k=s
  ·subst h; simp
  ·have:(k::l).contains s=l.contains s:=by simp [List.contains_cons,Ne.symm h]
   rw [if_neg h,this]; exact ih
theorem zz5 {keep:List Nat} (h:st.weakF? keep fam ids=some st'):RenOk st st' fam ids/\(st'.sl=keep.map fun t=>(t,Ab.ren fam ids (st.get t)))/\(z02 fam ids st.hp=true):=by
 unfold St.weakF? at h
 split at h
 ·rename_i hc
  simp only [Bool.and_eq_true] at hc
  obtain ⟨⟨⟨hc1,hc2⟩,hc3⟩,hc4⟩:=hc
  have hold:=zkq hc1
  have hnew:=zfe hc2
  rw [List.nodup_cons] at hnew
  have hfam:∀ s,fam.contains s=true->s≠DEAD/\s∉ids.map (·.2)/\s∉ids.map (·.1.1)/\(st.site s).all (zfd fam)=true:=fun s hs=>by
   have:=List.all_eq_true.1 hc4 s (List.contains_iff_mem.1 hs)
   simp only [Bool.and_eq_true,Bool.not_eq_true',beq_eq_false_iff_ne] at this
   obtain ⟨⟨⟨a1,a2⟩,a3⟩,a4⟩:=this
   exact ⟨a1,fun h=>(by rw [List.contains_iff_mem.2 h] at a2; cases a2),fun h=>(by rw [List.contains_iff_mem.2 h] at a3; cases a3),a4⟩
  have hnf:∀ s,(fam.contains s=true->False)->fam.contains s=false:=fun s h=>by cases hc:fam.contains s<;>simp_all
  obtain ⟨objs,ho,rfl⟩:=mapS h
  obtain ⟨h1,h2⟩:=zhi ho hnew.2 hnew.1
  have hsite:∀ s,(⟨keep.map fun t=>(t,Ab.ren fam ids (st.get t)),fam.map (fun s=>(s,st.site s))++(mkSt [] objs).hp⟩:St).site s=if fam.contains s=true then st.site s else look (objs.map (fun q=>(q.1,[some q.2]))++[(DEAD,[none])]) s []:=fun s=>ztd _ _ s fam
  refine ⟨⟨hold,hnew.2,fun i s' hm=>?_,fun s' g' o' ho'=>?_,?_,fun s hs=>⟨by rw [hsite,if_pos hs],fun g o ho=>zkh ?_⟩⟩,rfl,hc3⟩
  ·obtain ⟨o,e1,e2⟩:=h1 i s' hm
   have f1:fam.contains s'=false:=hnf s' fun hs=>(hfam s' hs).2.1 (List.mem_map.2 ⟨_,hm,rfl⟩)
   have f2:fam.contains i.1=false:=hnf i.1 fun hs=>(hfam i.1 hs).2.2.1 (List.mem_map.2 ⟨_,hm,rfl⟩)
   exact ⟨f1,f2,o,e1,by simp only [St.obj,hsite,f1,e2]; rfl⟩
  ·cases hs:fam.contains s' with
   | true=>exact .inl rfl
   | false =>
   refine .inr ⟨rfl,?_⟩
   simp only [St.obj,hsite,hs,Bool.false_eq_true,if_false] at ho'
   by_cases hm:s'∈ids.map (·.2)
   ·obtain ⟨⟨i,s1⟩,hi,rfl⟩:=List.mem_map.1 hm
    obtain ⟨o,e1,e2⟩:=h1 i s1 hi
    refine ⟨?_,i,hi⟩
    rw [e2] at ho'
    cases g' with
    | zero=>rfl
    | succ _=>simp at ho'
   ·exfalso
    rw [h2 s' hm] at ho'
    split at ho'
    ·cases g'<;>simp at ho'
    ·simp at ho'
  ·have hd:fam.contains DEAD=false:=hnf DEAD fun hs=>(hfam DEAD hs).1 rfl
   have:=h2 DEAD hnew.1
   simp only [St.obj,hsite,hd,Bool.false_eq_true,if_false,this]
   exact ⟨by simp,rfl⟩
  ·have:=(hfam s hs).2.2.2
   rw [List.all_eq_true] at this
   unfold St.obj at ho
   cases hg:(st.site s)[g]? with
   | none=>rw [hg] at ho; cases ho
   | some x =>
    rw [hg] at ho
    simp only [Option.getD_some] at ho
    subst ho
    exact this _ (List.mem_of_getElem? hg)
 ·cases h
theorem zkz (f:Nat->AV) (t:Nat):∀ (keep:List Nat),look (keep.map fun t=>(t,f t)) t AV.undef=f t\/look (keep.map fun t=>(t,f t)) t AV.undef=.undef
 | []=>.inr rfl
 | k::r=>by
  simp only [List.map_cons,look]
  split
  ·rename_i h; subst h; exact .inl rfl
  ·exact zkz f t r
theorem z4b (hr:RenOk st st' fam ids) (hp:z02 fam ids st.hp=true):PinLe Z st (Z.ren fam ids) st':=by
 have key:∀ s,PINB<=s->s<999999->st.site s=[]\/fam.contains s=true\/((st.site s).length<=1/\fam.contains s=false/\∃ o,st.obj s 0=some o/\st'.obj s 0=some ⟨o.sz,renL fam ids o.es⟩/\zuq ids s=some (s,0)):=by
  intro s a b
  rcases zhw (d:=([]:List (Option AObj))) (l:=st.hp) (s:=s) with h|⟨q,h1,rfl,h3⟩
  ·exact .inl h
  ·have:=List.all_eq_true.1 hp q h1
   simp only [Bool.or_eq_true,Bool.and_eq_true,decide_eq_true_eq] at this
   rcases this with ((h|h)|h)|⟨h,h'⟩
   ·omega
   ·omega
   ·exact .inr (.inl h)
   ·rw [List.contains_iff_mem] at h
    obtain ⟨f1,_,o,k1,k2⟩:=hr.live _ _ h
    exact .inr (.inr ⟨by show (look st.hp q.1 []).length<=1; rw [h3]; exact h',f1,o,k1,k2,zdb hr.new h⟩)
 refine ⟨fun s a b=>?_,fun s g a b hg hd=>?_,fun s g o a b ho=>?_⟩
 ·rcases key s a b with h|h|⟨h,_,o,k1,k2,_⟩
  ·rw [h]; exact Nat.zero_le _
  ·rw [(hr.fam s h).1]; exact Nat.le_refl _
  ·have:=zbt k2; omega
 ·rcases key s a b with h|h|⟨h,_,o,k1,k2,_⟩
  ·rw [h] at hg; simp at hg
  ·rw [hr.fobj h]; exact hd
  ·obtain rfl:g=0:=by omega
   rw [k1] at hd; cases hd
 ·rcases key s a b with h|h|⟨h,f1,o1,k1,k2,k3⟩
  ·have:=zbt ho; rw [h] at this; simp at this
  ·exact .inr ⟨o,by rw [hr.fobj h]; exact ho,rfl,rfl,by simp only [Cz.ren,h,if_true],by simp only [Cz.ren,h,if_true]⟩
  ·have:=zbt ho
   obtain rfl:g=0:=by omega
   rw [k1] at ho; cases ho
   exact .inr ⟨_,k2,rfl,by simp [zb5],by simp only [Cz.ren,k3,f1,Bool.false_eq_true,if_false,if_true],by simp only [Cz.ren,k3,f1,Bool.false_eq_true,if_false,if_true]⟩
theorem Weak.ofF {keep:List Nat} (h:st.weakF? keep fam ids=some st'):Weak st st':=by
 intro K Z w a hs
 obtain ⟨hr,hsl,hpin⟩:=zz5 h
 refine ⟨Z.ren fam ids,⟨fun t=>?_,hs.defers,hs.size,hs.heap.ren hr⟩,z4b hr hpin⟩
 have:st'.get t=look (keep.map fun t=>(t,Ab.ren fam ids (st.get t))) t .undef:=by rw [<- hsl]; rfl
 rw [this]
 rcases zkz (fun t=>Ab.ren fam ids (st.get t)) t keep with h|h
 ·rw [h]; exact (hs.slots t).ren hr
 ·rw [h]; exact .undef _
theorem Weak.of {keep:List Nat} (h:st.weak? keep ids=some st'):Weak st st':=Weak.ofF h
end
end Go.Ab
namespace Go.Ab
def St.freeze? (st:St) (t:Nat):Option St :=
 match toPV st FUEL (st.get t) with
 | some p=>some ((killAll st (deps st FUEL (st.get t))).put (some t) (.p p))
 | none=>none
def St.nilSlot? (st:St) (t s sz:Nat):Option St :=
 match st.get t with
 | .nil=>if 0<sz then some ((st.alloc s ⟨sz,[]⟩).put (some t) (.own s (st.site s).length 0 0)) else none
 | _=>none
def z71 (e:AV) (osz i:Nat) (r:AV):Option AV :=
 if osz=1 then (match e with | .nil=>some r|_=>none)
 else match e.cells[i]? with
  | some .nil=>some (.agg (e.cells.set i r))
  | _=>none
def St.nilCell? (st:St) (s0 g0 i s sz:Nat):Option St :=
 match st.obj s0 g0 with
 | some o=>match o.es with
  | [e]=>if 0<sz/\s≠s0 then (match z71 e o.sz i (.own s (st.site s).length 0 0) with
   | some e'=>some ((st.alloc s ⟨sz,[]⟩).setObj s0 g0 ⟨o.sz,[e']⟩)
   | none=>none) else none
  | _=>none
 | none=>none
section
variable {P:Program} {K:Ctx} {Z Z':Cz} {st st' st1 st2:St} {w w':World} {a:Act} {N:Nat}
theorem Keep.refl (w:World) (X:Nat->Prop):Keep w w X:=⟨rfl,rfl,rfl,Nat.le_refl _,Nat.le_refl _,fun _ _ _=>rfl⟩
theorem Weak.freeze {t:Nat} (h:st.freeze? t=some st'):Weak st st':=by
 intro K Z w a hs
 unfold St.freeze? at h
 split at h
 ·rename_i p hp
  cases h
  generalize hids:deps st FUEL (st.get t)=ids
  have hM:∀ b o,Z.M b=some o->Mx Z st w ids b=some o:=fun b o hb=>Mx_M hb
  have hz:ZLe Z st { Z with M:=Mx Z st w ids } (killAll st ids):=(ZLe.killAll ids st).trans (ZLe.growM hM)
  have hh:HRep K { Z with M:=Mx Z st w ids } (killAll st ids) w:=by
   refine (HRep.killAll ids hs.heap).grow (Keep.refl w _) _ hM (fun b o hb=>?_) (fun b o hb=>?_) (fun s g o b ho hb=>?_)
   ·rcases zbs hb with h|⟨_,h,_⟩
    ·exact hs.heap.mem b o h
    ·exact h
   ·rcases zbs hb with h|⟨_,_,s,g,ob,_,e2,e3⟩
    ·exact .inl h
    ·exact .inr (hs.heap.own s g ob b e2 e3)
   ·obtain ⟨ho1,ho2⟩:=zc0 ids st ho
    cases hm:Mx Z st w ids b with
    | none=>rfl
    | some y =>
     exfalso
     rcases zbs hm with h|⟨_,_,s',g',ob,e1,e2,e3⟩
     ·rw [hs.heap.sep s g o b ho1 hb] at h; cases h
     ·obtain ⟨rfl,rfl⟩:=hs.heap.inj s g s' g' o ob b ho1 e2 hb e3
      exact ho2 e1
  have hpr:PRep (Mx Z st w ids) p (a.tmps.getD t Go.undef):=zfv hs.heap ids FUEL _ _ _ (hs.slots t) hp (fun i hi=>by rw [<- hids]; exact hi)
  refine ⟨{ Z with M:=Mx Z st w ids },⟨fun u=>?_,hs.defers,hs.size,hh.of_site (fun i=>za5 _ _ _ i)⟩,.of_zle (hz.trans (zbf (fun i=>za5 _ _ _ i) _))⟩
  rw [zdm]
  split
  ·rename_i hu
   cases hu
   exact .p _ _ hpr
  ·rw [zja (zb4 ids st)]
   exact ARep.mono (zbf (fun i=>za5 _ _ _ i) _) (ARep.mono hz (hs.slots u))
 ·cases h
theorem Weak.nilSlot {t s sz:Nat} (h:st.nilSlot? t s sz=some st'):Weak st st':=by
 intro K Z w a hs
 unfold St.nilSlot? at h
 split at h
 ·rename_i hn
  split at h
  ·rename_i hp
   cases h
   have hh:=hs.heap.allocNil s sz hp
   have hz:=ZLe.alloc Z st s ⟨sz,[]⟩ none 0
   have hx:a.tmps.getD t Go.undef=.slice none 0 0:=by
    have:=hs.slots t
    rw [hn] at this
    generalize a.tmps.getD t Go.undef=x at this ⊢
    cases this; rfl
   refine ⟨_,⟨fun u=>?_,hs.defers,hs.size,hh.of_site (fun i=>za5 _ _ _ i)⟩,.of_zle (hz.trans (zbf (fun i=>za5 _ _ _ i) _))⟩
   rw [zdm]
   refine ARep.mono (zbf (s:=st.alloc s ⟨sz,[]⟩) (fun i=>za5 _ _ _ i) _) ?_
   split
   ·rename_i hu
    cases hu
    rw [hx]
    exact .own0 s _ ⟨sz,[]⟩ (by rw [zam,if_pos ⟨rfl,rfl⟩]) (by simp [Cz.setB])
   ·exact ARep.mono hz (hs.slots u)
  ·cases h
 ·cases h
theorem HRep.same (h:HRep K Z st w) {s g:Nat} {o:AObj} (ho:st.obj s g=some o) {es:List AV} (hl:es.length=o.es.length) (h2:∀ e∈es,e.sz=o.sz) (h3:∀ c∈es.flatMap AV.cells,c.one=true)
  (h4:∀ vals,AReps Z st (o.es.flatMap AV.cells) vals->AReps Z st (es.flatMap AV.cells) vals):HRep K Z (st.setObj s g ⟨o.sz,es⟩) w:=by
 have hg:=zbt ho
 have hz:=ZLe.setObj Z st s g o ⟨o.sz,es⟩ ho rfl hl
 have old:∀ {s' g':Nat} {o':AObj},(st.setObj s g ⟨o.sz,es⟩).obj s' g'=some o'->∃ o0,st.obj s' g'=some o0:=by
  intro s' g' o' ho'
  rw [za8 _ _ _ _ _ _ hg] at ho'
  split at ho'
  ·rename_i hc; obtain ⟨rfl,rfl⟩:=hc; exact ⟨o,ho⟩
  ·exact ⟨o',ho'⟩
 refine ⟨fun s' g' o' ho'=>?_,fun s' g' s'' g'' o' o'' b a1 a2 b1 b2=>?_,h.mem,fun s' g' o' b a1 b1=>?_,fun s' g' o' b a1 b1=>?_,h.m0,h.prov,h.keep⟩
 ·rw [za8 _ _ _ _ _ _ hg] at ho'
  split at ho'
  ·rename_i hc
   obtain ⟨rfl,rfl⟩:=hc
   cases ho'
   obtain ⟨k1,k2,k3,k4,k5⟩:=h.objs s' g' o ho
   refine ⟨k1,h2,h3,fun hb=>List.eq_nil_of_length_eq_zero (by rw [hl,k4 hb]; rfl),fun b hb=>?_⟩
   obtain ⟨cur,T,vals,e1,e2,e3,e4,e5,e6⟩:=k5 b hb
   exact ⟨cur,T,vals,e1,AReps.mono hz (h4 vals e2),e3,e4,by simpa [hl] using e5,e6⟩
  ·exact (h.objs s' g' o' ho').later hz rfl rfl (fun _ _=>rfl)
 ·obtain ⟨o1,c1⟩:=old a1
  obtain ⟨o2,c2⟩:=old a2
  exact h.inj _ _ _ _ _ _ b c1 c2 b1 b2
 ·obtain ⟨o1,c1⟩:=old a1; exact h.sep _ _ _ b c1 b1
 ·obtain ⟨o1,c1⟩:=old a1; exact h.own _ _ _ b c1 b1
theorem AReps.set {vs:List AV} {xs:List Value} (i:Nat) {r:AV} (h:AReps Z st vs xs) (hr:∀ x,xs[i]?=some x->ARep Z st r x):AReps Z st (vs.set i r) xs:=by
 induction i generalizing vs xs with
 | zero =>
  cases h with
  | nil=>exact .nil
  | cons v x vs xs h hs=>exact .cons _ _ _ _ (hr x rfl) hs
 | succ i ih =>
  cases h with
  | nil=>exact .nil
  | cons v x vs xs h hs=>exact .cons _ _ _ _ h (ih hs (fun y hy=>hr y hy))
theorem Weak.nilCell {s0 g0 i s sz:Nat} (h:st.nilCell? s0 g0 i s sz=some st'):Weak st st':=by
 intro K Z w a hs
 unfold St.nilCell? at h
 split at h
 ·rename_i o ho
  split at h
  ·rename_i e hes
   split at h
   ·rename_i hc
    obtain ⟨hp,hne⟩:=hc
    split at h
    ·rename_i e' he'
     cases h
     have hh:=hs.heap.allocNil s sz hp
     have hz:=ZLe.alloc Z st s ⟨sz,[]⟩ none 0
     generalize hZ:Z.setB s (st.site s).length none 0=Z1 at hh hz
     have hown:ARep Z1 (st.alloc s ⟨sz,[]⟩) (.own s (st.site s).length 0 0) (.slice none 0 0):=.own0 s _ ⟨sz,[]⟩ (by rw [zam,if_pos ⟨rfl,rfl⟩]) (by rw [<- hZ]; simp [Cz.setB])
     have ho1:(st.alloc s ⟨sz,[]⟩).obj s0 g0=some o:=by rw [zam,if_neg (by rintro ⟨rfl,_⟩; exact hne rfl)]; exact ho
     have hO:=hs.heap.objs s0 g0 o ho
     have hesz:=hO.els e (by simp [hes])
     have heone:∀ c∈e.cells,c.one=true:=fun c hc=>hO.one c (by simp [hes,hc])
     have hnil:∀ x,ARep Z1 (st.alloc s ⟨sz,[]⟩) .nil x->x=.slice none 0 0:=fun x hx=>by cases hx; rfl
     have facts:e'.sz=o.sz/\(∀ c∈e'.cells,c.one=true)/\∀ vals,AReps Z1 (st.alloc s ⟨sz,[]⟩) e.cells vals->AReps Z1 (st.alloc s ⟨sz,[]⟩) e'.cells vals:=by
      unfold z71 at he'
      split at he'
      ·rename_i h1
       split at he'
       ·cases he'
        refine ⟨by rw [h1]; rfl,by simp [AV.cells,AV.one],fun vals hv=>?_⟩
        simp only [AV.cells] at hv ⊢
        cases hv with
        | cons _ x _ _ hx hr=>cases hr; have:=hnil x hx; subst this; exact .cons _ _ _ _ hown .nil
       ·cases he'
      ·rename_i h1
       split at he'
       ·rename_i hi
        cases he'
        have hpos:=hO.pos
        have hlen:e.cells.length=o.sz:=by rw [AV.cells_len (by omega)]; exact hesz
        refine ⟨?_,fun c hc=>?_,fun vals hv=>?_⟩
        ·simp only [AV.sz,List.length_set,hlen]; rw [if_neg (by omega)]
        ·simp only [AV.cells] at hc
         rcases List.mem_or_eq_of_mem_set hc with h|h
         ·exact heone c h
         ·rw [h]; rfl
        ·simp only [AV.cells] at hv ⊢
         refine hv.set i (fun x hx=>?_)
         obtain ⟨y,hy,hr⟩:=hv.get i .nil hi
         rw [hx] at hy; cases hy
         rw [hnil x hr]; exact hown
       ·cases he'
     obtain ⟨f1,f2,f3⟩:=facts
     have hsame:=hh.same ho1 (es:=[e']) (by rw [hes]; rfl) (by simpa using f1) (by simpa using f2) (fun vals hv=>by rw [hes] at hv; simpa using f3 vals (by simpa using hv))
     have hz2:=ZLe.setObj Z1 (st.alloc s ⟨sz,[]⟩) s0 g0 o ⟨o.sz,[e']⟩ ho1 rfl (by rw [hes]; rfl)
     exact ⟨Z1,⟨fun u=>ARep.mono (hz.trans hz2) (hs.slots u),hs.defers,hs.size,hsame⟩,.of_zle (hz.trans hz2)⟩
    ·cases h
   ·cases h
  ·cases h
 ·cases h
end
end Go.Ab
namespace Go.Ab
def zmy:Nat->List PV->List (Nat × AV)
 | _,[]=>[]
 | i,v::r=>(i,.p v)::zmy (i+1) r
def zel (args:List PV):St:=⟨zmy 0 args,[]⟩
def zet (P:Program):List ResultVar->Option (List (Nat × Option Nat))
 | []=>some []
 | .tmp t::r=>(zet P r).map ((t,none) :: ·)
 | .cell a t::r=>if tok P t (tsz P t) (tagg P t)=true then (zet P r).map ((a,some (tsz P t)) :: ·) else none
def ziz (st:St) (t:Nat) (c:Option Nat):Option AV :=
 match c with
 | none=>some (st.get t)
 | some sz=>match st.get t with
  | .ptr s g ix off=>match st.obj s g with
   | some o=>match o.es[ix]? with
    | some e=>if off=0/\sz=o.sz then some e else none
    | none=>none
   | none=>none
  | _=>none
def zbc (st:St):List (Nat × Option Nat)->Option (List AV)
 | []=>some []
 | (t,c)::r=>match ziz st t c,zbc st r with
  | some v,some l=>some (v::l)
  | _,_=>none
def resOf:List AV->AV
 | [v]=>v
 | vs=>.tup vs
structure FnC where
 N:Nat
 np:Nat
 body:AC
 res:List (Nat × Option Nat)
def zac (P:Program) (f:FuncId):Option FnC :=
 match P.funcs[f]? with
 | some fn=>if fn.name ≠ "runtime.NumGoroutine" then match fn.body with
  | some c=>match comp P fn.ntmps c,zet P fn.results.toList with
   | some b,some r=>some ⟨fn.ntmps,fn.params.size+fn.nfree,b,r⟩
   | _,_=>none
  | none=>none
  else none
 | none=>none
inductive ResOk (st:St):AV->RV->Prop
 | pure (v:AV) (p:PV):toPV st FUEL v=some p->ResOk st v (.pure p)
 | fresh (s g len:Nat) (o:AObj) (es:List PV):st.obj s g=some o->len=o.es.length->o.es=es.map .p->ResOk st (.own s g 0 len) (.fresh o.sz es)
 | nil (sz:Nat):ResOk st .nil (.fresh sz [])
section
variable {P:Program} {K:Ctx} {Z Z':Cz} {st st' st1 st2:St} {w w':World} {a:Act} {N:Nat} {args:List PV}
theorem zpu:∀ (args:List PV) (i t:Nat),look (zmy i args) t AV.undef=if t<i then .undef else match args[t - i]? with|some v=>.p v|none=>.undef
 | [],i,t=>by simp [zmy,look]
 | v::r,i,t=>by
  simp only [zmy,look]
  split
  ·rename_i h; subst h; simp
  ·rename_i h
   rw [zpu r (i+1) t]
   by_cases h1:t<i
   ·rw [if_pos (by omega),if_pos h1]
   ·rw [if_neg (by omega),if_neg h1]
    have:t - i=(t - (i+1))+1:=by omega
    rw [this]; rfl
theorem zoe {M:Nat->Option Obj} {vals:List Value} (hM:∀ b o,M b=some o->w.heap[b]?=some o) (hv:PReps M args vals) (hn:args.length<=N) :
  StRep ⟨w,M,fun _=>False,N⟩ ⟨M,fun _ _=>none,fun _ _=>0⟩ (zel args) w { tmps:=vals.toArray++Array.replicate (N - vals.toArray.size) Go.undef,defers:=[] }:=by
 have hl:=hv.length
 have hno:∀ s g,(zel args).obj s g=none:=fun s g=>rfl
 refine ⟨fun t=>?_,rfl,by simp; omega,⟨fun s g o ho=>(by rw [hno] at ho; cases ho),fun s g _ _ o _ b ho=>(by rw [hno] at ho; cases ho),hM,fun s g o b ho=>(by rw [hno] at ho; cases ho),fun s g o b ho=>(by rw [hno] at ho; cases ho),fun _ _ h=>h,fun _ _ h=>.inl h,Keep.refl w _⟩⟩
 have hget:(zel args).get t=match args[t]? with|some v=>.p v|none=>.undef:=by
  have:=zpu args 0 t
  simpa [St.get,zel] using this
 rw [hget]
 cases hx:args[t]? with
 | none=>exact .undef _
 | some v =>
  obtain ⟨x,h1,h2⟩:=hv.get t v hx
  have hlt:=(List.getElem?_eq_some_iff.1 h1).1
  have:(vals.toArray++Array.replicate (N - vals.toArray.size) Go.undef).getD t Go.undef=x:=by
   simp [Array.getElem?_append,hlt]
   have:=(List.getElem?_eq_some_iff.1 h1).2
   simpa using this
  rw [this]
  exact .p _ _ h2
theorem z2n {t:TypeId} {s g ix:Nat} {o:AObj} {e:AV} {x:Value} (ht:tok P t (tsz P t) (tagg P t)=true) (hh:HRep K Z st w) (hx:ARep Z st (.ptr s g ix 0) x) (ho:st.obj s g=some o) (hix:o.es[ix]?=some e) (hsz:tsz P t=o.sz) :
  ∃ y,(do loadVar t (<- asAddr x):Sem Value).run P w=.ok y w/\ARep Z st e y:=by
 obtain ⟨b,hb,rfl⟩:=zed hx ho
 obtain ⟨_,_,_,_,_,_,hag,hna⟩:=zhk ht
 have hO:=hh.objs s g o ho
 obtain ⟨cur,T,vals,k1,k2,k3,k4,k5,k6⟩:=hO.blk b hb
 have hes:∀ e∈o.es,(AV.cells e).length=o.sz:=fun e he=>by rw [AV.cells_len (by rw [hO.els e he]; exact hO.pos),hO.els e he]
 have hseg:=zhy AV.cells o.sz o.es ix e hes hix
 have hlt:=zrp AV.cells o.sz o.es ix e hes hix
 have hem:e∈o.es:=List.mem_of_getElem? hix
 have hone:∀ c∈e.cells,c.one=true:=fun c hc=>hO.one c (List.mem_flatMap.2 ⟨e,hem,hc⟩)
 have hk3:∀ (i:Nat) (v:Value),vals[i]?=some v->cur[0+i]?=some v:=by simpa using k3
 obtain ⟨xs,h1,h2,h3,h4⟩:=zhb (P:=P) (Z:=Z) (st:=st) (k:=ix*o.sz) (o:=0) ht k1 k2 hk3 (by rw [hsz]; exact hlt)
 rw [hsz,hseg] at h1
 obtain ⟨r1,r2⟩:=zfk ((hO.els e hem).trans hsz.symm) hag hna hone h1
 cases hg:tagg P t with
 | true =>
  have h3:=h3 hg
  simp only [Nat.zero_add] at h3
  refine ⟨_,?_,r1 hg⟩
  simp only [asAddr,Sem.run_bind,Sem.run_pure,Result.andThen_ok,Nat.add_zero,h3]
 | false =>
  obtain ⟨x1,e1,e2⟩:=h4 hg
  obtain ⟨x2,e3,e4⟩:=r2 hg
  rw [e1] at e3; cases e3
  simp only [Nat.zero_add] at e2
  refine ⟨_,?_,e4⟩
  simp only [asAddr,Sem.run_bind,Sem.run_pure,Result.andThen_ok,Nat.add_zero,e2]
theorem zif (hs:StRep K Z st w a):∀ {rs:List ResultVar} {cs:List (Nat × Option Nat)} {vs:List AV},zet P rs=some cs->zbc st cs=some vs ->
  ∃ xs,(rs.mapM (m:=Sem) fun | .tmp t=>pure (a.tmps.getD t Go.undef) | .cell p t=>do loadVar t (<- asAddr (a.tmps.getD p Go.undef))).run P w=.ok xs w/\AReps Z st vs xs
 | [],cs,vs,hc,hv=>by
  simp only [zet,Option.some.injEq] at hc
  subst hc
  simp only [zbc,Option.some.injEq] at hv
  subst hv
  exact ⟨[],by simp,.nil⟩
 | r::rs,cs,vs,hc,hv=>by
  have step:∃ (t:Nat) (c:Option Nat) (cs':List (Nat × Option Nat)),cs=(t,c)::cs'/\zet P rs=some cs'/\∀ v,ziz st t c=some v ->
    ∃ y,((fun | .tmp t=>pure (a.tmps.getD t Go.undef) | .cell p t=>do loadVar t (<- asAddr (a.tmps.getD p Go.undef)):ResultVar->Sem Value) r).run P w=.ok y w/\ARep Z st v y:=by
   cases r with
   | tmp t =>
    simp only [zet] at hc
    obtain ⟨l,h1,rfl⟩:=mapS hc
    exact ⟨t,none,l,rfl,h1,fun v hv=>by simp only [ziz,Option.some.injEq] at hv; subst hv; exact ⟨_,by simp,hs.slots t⟩⟩
   | cell p t =>
    simp only [zet] at hc
    split at hc
    ·rename_i ht
     obtain ⟨l,h1,rfl⟩:=mapS hc
     refine ⟨p,some (tsz P t),l,rfl,h1,fun v hv=>?_⟩
     simp only [ziz] at hv
     split at hv
     ·rename_i s g ix off hev
      split at hv
      ·rename_i o ho
       split at hv
       ·rename_i e he
        split at hv
        ·rename_i hcond
         obtain ⟨rfl,hsz⟩:=hcond
         cases hv
         have hx:=hs.slots p
         rw [hev] at hx
         exact z2n ht hs.heap hx ho he hsz
        ·cases hv
       ·cases hv
      ·cases hv
     ·cases hv
    ·cases hc
  obtain ⟨t,c,cs',rfl,h1,h2⟩:=step
  simp only [zbc] at hv
  split at hv
  ·rename_i v l hv1 hl
   cases hv
   obtain ⟨y,e1,e2⟩:=h2 v hv1
   obtain ⟨ys,e3,e4⟩:=zif hs h1 hl
   refine ⟨y::ys,?_,.cons _ _ _ _ e2 e4⟩
   simp only [List.mapM_cons,Sem.run_bind,e1,Result.andThen_ok,e3,Sem.run_pure]
  ·cases hv
theorem AReps.resOf {vs:List AV} {xs:List Value} (h:AReps Z st vs xs):ARep Z st (resOf vs) (if h:xs.toArray.size=1 then xs.toArray[0] else .tuple xs.toArray):=by
 cases h with
 | nil=>exact .tup _ _ .nil
 | cons v x vs xs h hs =>
  cases hs with
  | nil=>exact h
  | cons u y us ys k ks=>simp only [Ab.resOf]; rw [dif_neg (by simp)]; exact .tup _ _ (.cons _ _ _ _ h (.cons _ _ _ _ k ks))
theorem zno {M:Nat->Option Obj} {v:AV} {x:Value} {res:RV} (hh:HRep ⟨w,M,fun _=>False,N⟩ Z' st' w') (hx:ARep Z' st' v x) (hres:ResOk st' v res) :
  ∃ M',(∀ b o,M b=some o->M' b=some o)/\(∀ b o,M' b=some o->w'.heap[b]?=some o)/\(∀ b o,M' b=some o->M b=some o\/w.heap.size<=b)/\Keep w w' (fun _=>False)/\RRep M' w w' res x:=by
 have hprov:∀ b o,Z'.M b=some o->M b=some o\/w.heap.size<=b:=fun b o hb=>by
  rcases hh.prov b o hb with h|h|h
  ·exact .inl h
  ·exact h.elim
  ·exact .inr h
 have hown:∀ s g o b,st'.obj s g=some o->Z'.B s g=some b->w.heap.size<=b:=fun s g o b ho hb=>by
  rcases hh.own s g o b ho hb with h|h
  ·exact h.elim
  ·exact h
 cases hres with
 | pure _ p hp =>
  refine ⟨Mx Z' st' w' (deps st' FUEL v),fun b o hb=>Mx_M (hh.m0 b o hb),fun b o hb=>?_,fun b o hb=>?_,hh.keep,?_⟩
  ·rcases zbs hb with h|⟨_,h,_⟩
   ·exact hh.mem b o h
   ·exact h
  ·rcases zbs hb with h|⟨_,_,s,g,ob,_,q2,q3⟩
   ·exact hprov b o h
   ·exact .inr (hown s g ob b q2 q3)
  ·exact zfv hh _ FUEL _ _ _ hx hp (fun i hi=>hi)
 | fresh s g len o es ho hl hes =>
  refine ⟨Z'.M,fun b o hb=>hh.m0 b o hb,hh.mem,hprov,hh.keep,?_⟩
  have hO:=hh.objs s g o ho
  have hle:o.es.length=es.length:=by rw [hes]; simp
  cases hx with
  | own0 _ _ o' ho' hb =>
   rw [ho] at ho'; cases ho'
   have:=hO.non hb
   refine .inl ⟨List.eq_nil_of_length_eq_zero (by rw [<- hle,this]; rfl),rfl⟩
  | own _ _ _ _ o' b ad c ho' hb h1 h2 h3 h4 =>
   rw [ho] at ho'; cases ho'
   obtain ⟨rfl,rfl⟩:=h1 rfl
   obtain ⟨cur,T,vals,k1,k2,k3,k4,k5,k6⟩:=hO.blk b hb
   refine .inr ⟨b,Z'.cap s g,cur,T,vals,by rw [hl,hle],hown s g o b ho hb,hh.sep s g o b ho hb,k1,?_,k3,k4,by rw [<- hle]; exact k5,k6,fun c hc=>?_⟩
   ·rw [hes,zaj] at k2; exact k2.to_p
   ·have:=hO.one (.p c) (by rw [hes,zaj]; exact List.mem_map.2 ⟨c,hc,rfl⟩)
    exact this
  | ownD _ _ _ _ _ _ _ hd=>exact (zax ho hd).elim
 | nil sz =>
  refine ⟨Z'.M,fun b o hb=>hh.m0 b o hb,hh.mem,hprov,hh.keep,.inl ⟨rfl,?_⟩⟩
  cases hx; rfl
theorem Sp.of_runs {f:FuncId} {C:FnC} {ex:Exit} {vs:List AV} {res:RV} (hc:zac P f=some C) (hn:args.length<=C.N) (hrun:Runs P C.N C.body (zel args) ex st') (hex:ex=.ret\/ex=.normal)
  (hvs:zbc st' C.res=some vs) (hres:ResOk st' (resOf vs) res):Sp P f args res:=by
 unfold zac at hc
 split at hc
 ·rename_i fn hf
  split at hc
  ·rename_i hname
   split at hc
   ·rename_i c hb
    split at hc
    ·rename_i bd rs h1 h2
     cases hc
     refine ⟨⟨fn,hf,by rw [hb]; rfl,hname⟩,fun w M vals hM hv=>?_⟩
     refine calls_of_wp hf hb ?_
     refine hrun _ h1 ⟨w,M,fun _=>False,fn.ntmps⟩ _ w _ _ rfl (zoe hM hv hn) (fun Z' w' a' hs _=>?_)
     have hfin:a'.defers=[]/\∃ v,(results fn a'.tmps).run P w'=.ok v w'/\∃ x M',Ending.returned v=.returned x/\(∀ b o,M b=some o->M' b=some o)/\(∀ b o,M' b=some o->w'.heap[b]?=some o) /\
       (∀ b o,M' b=some o->M b=some o\/w.heap.size<=b)/\Keep w w' (fun _=>False)/\RRep M' w w' res x:=by
      obtain ⟨xs,e1,e2⟩:=zif hs h2 hvs
      obtain ⟨M',m1,m2,m3,m4,m5⟩:=zno hs.heap e2.resOf hres
      refine ⟨hs.defers,_,?_,_,M',rfl,m1,m2,m3,m4,m5⟩
      unfold results
      rw [Array.mapM_eq_mapM_toList]
      simp only [Sem.run_bind,map_eq_pure_bind,Sem.run_pure]
      exact congrArg (fun r=>(Result.andThen r fun a w'=>Result.ok a.toArray w').andThen fun (a:Array Value) w'=>Result.ok (if h:a.size=1 then a[0] else Value.tuple a) w') e1
     rcases hex with rfl|rfl
     ·exact hfin
     ·exact hfin
    ·cases hc
   ·cases hc
  ·cases hc
 ·cases hc
end
end Go.Ab
namespace Go.Ab
def ziq (i:Nat) (r:AV):Nat->List PV->List (Nat × AV)
 | _,[]=>[]
 | n,v::l=>(n,if n=i then r else .p v)::ziq i r (n+1) l
def refM (p:PV):AV :=
 match p with
 | .ref _=>.ptr PIN 0 0 0
 | .sl es=>.own PIN 0 0 es.length
 | _=>.undef
def elsM (p:PV):List PV :=
 match p with
 | .ref e=>[e]
 | .sl es=>es
 | _=>[]
def zdl (args:List PV) (i sz:Nat) (p:PV):St:=⟨ziq i (refM p) 0 args,[(PIN,[some ⟨sz,(elsM p).map .p⟩])]⟩
inductive ResM (st:St):AV->Nat->RV->Prop
 | pure (v:AV) (n:Nat) (p:PV):toPV st FUEL v=some p->(PIN,0)∉deps st FUEL v->ResM st v n (.pure p)
 | same (l n:Nat):l<=n->ResM st (.own PIN 0 0 l) n (.same l)
section
variable {P:Program} {K:Ctx} {Z Z':Cz} {st st' st1 st2:St} {w w':World} {a:Act} {N:Nat} {args:List PV}
theorem zms {i:Nat} {r:AV}:∀ (args:List PV) (n t:Nat),look (ziq i r n args) t AV.undef=if t<n then .undef else match args[t - n]? with|some v=>if t=i then r else .p v|none=>.undef
 | [],n,t=>by simp [ziq,look]
 | v::l,n,t=>by
  simp only [ziq,look]
  split
  ·rename_i h; subst h; simp
  ·rename_i h
   rw [zms l (n+1) t]
   by_cases h1:t<n
   ·rw [if_pos (by omega),if_pos h1]
   ·rw [if_neg (by omega),if_neg h1]
    have:t - n=(t - (n+1))+1:=by omega
    rw [this]; rfl
theorem zyh {M:Nat->Option Obj} {vals:List Value} {i sz cap:Nat} {p:PV} {b:Option Nat} {es:List PV} (hM:∀ b o,M b=some o->w.heap[b]?=some o) (hvl:vals.length=args.length) (hp:args[i]?=some p) (href:∃ x,vals[i]?=some x/\MRef p es b cap x)
  (ha:MArr M w b cap sz es) (ho:∀ j q,j≠i->args[j]?=some q->∃ x,vals[j]?=some x/\PRep M q x) (hn:args.length<=N) :
  es=elsM p/\StRep ⟨w,M,fun c=>b=some c,N⟩ ⟨M,fun _ _=>b,fun _ _=>cap⟩ (zdl args i sz p) w { tmps:=vals.toArray++Array.replicate (N - vals.toArray.size) Go.undef,defers:=[] }:=by
 obtain ⟨x,hx,hr⟩:=href
 obtain ⟨a1,a2,a3,a4,a5⟩:=ha
 have hes:es=elsM p:=by
  rcases hr with ⟨rfl,_⟩|⟨e,b',rfl,rfl,_,_⟩<;>rfl
 have hobj:∀ s g o,(zdl args i sz p).obj s g=some o->s=PIN/\g=0/\o=⟨sz,es.map .p⟩:=by
  intro s g o h
  simp only [St.obj,St.site,zdl,look] at h
  split at h
  ·rename_i hs
   cases g with
   | zero=>simp at h; subst hs; subst h; rw [hes]; exact ⟨rfl,rfl,rfl⟩
   | succ g=>simp at h
  ·simp at h
 have hpin:(zdl args i sz p).obj PIN 0=some ⟨sz,es.map .p⟩:=by simp [St.obj,St.site,zdl,look,hes]
 refine ⟨hes,fun t=>?_,rfl,by simp; omega,⟨fun s g o h=>?_,fun s g s' g' o o' b' h h' _ _=>?_,hM,fun s g o b' h hb=>(a5 b' hb).1,fun s g o b' _ hb=>.inl hb,fun _ _ h=>h,fun _ _ h=>.inl h,Keep.refl w _⟩⟩
 ·have hget:(zdl args i sz p).get t=match args[t]? with|some v=>if t=i then refM p else .p v|none=>.undef:=by
   have:=zms (i:=i) (r:=refM p) args 0 t
   simpa [St.get,zdl] using this
  rw [hget]
  have hval:∀ y,vals[t]?=some y->(vals.toArray++Array.replicate (N - vals.toArray.size) Go.undef).getD t Go.undef=y:=by
   intro y hy
   have hlt:=(List.getElem?_eq_some_iff.1 hy).1
   simp [Array.getElem?_append,hlt]
   simpa using (List.getElem?_eq_some_iff.1 hy).2
  cases hq:args[t]? with
  | none=>exact .undef _
  | some q =>
   simp only
   split
   ·rename_i hti
    subst hti
    rw [hp] at hq; cases hq
    rw [hval x hx]
    rcases hr with ⟨rfl,rfl⟩|⟨e,b',rfl,rfl,rfl,rfl⟩
    ·simp only [refM]
     cases b with
     | none =>
      have:=a4 rfl
      subst this
      exact .own0 _ _ _ hpin rfl
     | some b =>
      obtain ⟨_,cur,T,cv,k1,k2,k3,k4,k5,k6⟩:=a5 b rfl
      exact .own _ _ 0 es.length _ b _ cap hpin rfl (fun _=>⟨rfl,rfl⟩) (fun _=>by simp) (by simp) k5
    ·simp only [refM]
     have:=ARep.ptr (Z:=⟨M,fun _ _=>some b',fun _ _=>cap⟩) (st:=zdl args t sz (.ref e)) PIN 0 0 0 _ b' hpin rfl
     simpa using this
   ·rename_i hti
    obtain ⟨y,hy,hr'⟩:=ho t q hti hq
    rw [hval y hy]
    exact .p _ _ hr'
 ·obtain ⟨rfl,rfl,rfl⟩:=hobj s g o h
  refine ⟨a1,fun e he=>?_,fun c hc=>?_,fun hb=>?_,fun b' hb=>?_⟩
  ·obtain ⟨q,hq,rfl⟩:=List.mem_map.1 he; exact a2 q hq
  ·rw [zaj] at hc; obtain ⟨q,hq,rfl⟩:=List.mem_map.1 hc; exact a3 q hq
  ·simp only at hb; rw [a4 hb]; rfl
  ·obtain ⟨_,cur,T,cv,k1,k2,k3,k4,k5,k6⟩:=a5 b' hb
   exact ⟨cur,T,cv,k1,by rw [zaj]; exact AReps.of_p k2,k3,k4,by simpa using k5,k6⟩
 ·obtain ⟨rfl,rfl,_⟩:=hobj s g o h
  obtain ⟨rfl,rfl,_⟩:=hobj s' g' o' h'
  exact ⟨rfl,rfl⟩
theorem SpM.of_runs {f:FuncId} {C:FnC} {ex:Exit} {vs:List AV} {res:RV} {i sz:Nat} {p:PV} {es':List PV} (hc:zac P f=some C) (hn:args.length<=C.N) (hp:args[i]?=some p)
  (hrun:Runs P C.N C.body (zdl args i sz p) ex st') (hex:ex=.ret\/ex=.normal) (hvs:zbc st' C.res=some vs) (hpin:st'.obj PIN 0=some ⟨sz,es'.map .p⟩) (hlen:es'.length=(elsM p).length) (hres:ResM st' (resOf vs) (elsM p).length res) :
  SpM P f args i sz es' res:=by
 unfold zac at hc
 split at hc
 ·rename_i fn hf
  split at hc
  ·rename_i hname
   split at hc
   ·rename_i c hb
    split at hc
    ·rename_i bd rs h1 h2
     cases hc
     refine ⟨⟨fn,hf,by rw [hb]; rfl,hname⟩,fun w M vals b cap es hM hvl href hi ha ho=>?_⟩
     obtain ⟨hes,hinit⟩:=zyh hM hvl hp (href p hp) ha ho hn
     subst hes
     refine calls_of_wp hf hb ?_
     refine hrun _ h1 ⟨w,M,fun c=>b=some c,fn.ntmps⟩ _ w _ _ rfl hinit (fun Z' w' a' hs hpl=>?_)
     have hfin:a'.defers=[]/\∃ v,(results fn a'.tmps).run P w'=.ok v w'/\∃ x M',Ending.returned v=.returned x/\(∀ b o,M b=some o->M' b=some o)/\(∀ b o,M' b=some o->w'.heap[b]?=some o) /\
       (∀ b o,M' b=some o->M b=some o\/w.heap.size<=b)/\Keep w w' (fun c=>b=some c)/\es'.length=(elsM p).length/\MArr M' w' b cap sz es'/\MRes M' w w' b cap (elsM p).length res x:=by
      obtain ⟨xs,e1,e2⟩:=zif hs h2 hvs
      have hx:=e2.resOf
      generalize hxx:(if h:xs.toArray.size=1 then xs.toArray[0] else .tuple xs.toArray)=x at hx
      have hrun:(results fn a'.tmps).run P w'=.ok x w':=by
       rw [<- hxx]
       unfold results
       rw [Array.mapM_eq_mapM_toList]
       simp only [Sem.run_bind,map_eq_pure_bind,Sem.run_pure]
       exact congrArg (fun r=>(Result.andThen r fun a w'=>Result.ok a.toArray w').andThen fun (a:Array Value) w'=>Result.ok (if h:a.size=1 then a[0] else Value.tuple a) w') e1
      obtain ⟨hB,hC⟩:Z'.B PIN 0=b/\Z'.cap PIN 0=cap:=by
       rcases hpl.live PIN 0 ⟨sz,(elsM p).map .p⟩ (by decide) (by decide) (by simp [St.obj,St.site,zdl,look]) with h|⟨_,_,_,_,h1,h2⟩
       ·rw [hpin] at h; cases h
       ·exact ⟨h1,h2⟩
      have hO:=hs.heap.objs _ _ _ hpin
      have hprov:∀ c o,Z'.M c=some o->M c=some o\/w.heap.size<=c:=fun c o hc=>by
       rcases hs.heap.prov c o hc with h|h|h
       ·exact .inl h
       ·rw [hs.heap.sep PIN 0 _ c hpin (hB.trans h)] at hc; cases hc
       ·exact .inr h
      have harr:∀ M',(∀ c o,Z'.M c=some o->M' c=some o)->(∀ c,b=some c->M' c=none)->MArr M' w' b cap sz es':=by
       intro M' hmm hno
       refine ⟨hO.pos,fun e he=>hO.els (.p e) (List.mem_map.2 ⟨e,he,rfl⟩),fun q hq=>?_,fun hb=>?_,fun b' hb'=>?_⟩
       ·have:=hO.one (.p q) (by rw [zaj]; exact List.mem_map.2 ⟨q,hq,rfl⟩); exact this
       ·have:=hO.non (hB.trans hb); simpa using this
       ·obtain ⟨cur,T,cv,k1,k2,k3,k4,k5,k6⟩:=hO.blk b' (hB.trans hb')
        rw [zaj] at k2
        rw [hC] at k4 k5 k6
        exact ⟨hno b' hb',cur,T,cv,k1,k2.to_p.mono hmm,k3,k4,by simpa using k5,k6⟩
      have hsepM:∀ c,b=some c->Z'.M c=none:=fun c hc=>hs.heap.sep PIN 0 _ c hpin (hB.trans hc)
      generalize resOf vs=v at hx hres
      generalize hnn:(elsM p).length=n at hres hlen
      refine ⟨hs.defers,_,hrun,?_⟩
      cases hres with
      | pure _ _ q hq hni =>
       refine ⟨x,Mx Z' st' w' (deps st' FUEL v),rfl,fun b o hb=>Mx_M (hs.heap.m0 b o hb),fun b o hb=>?_,fun b o hb=>?_,hs.heap.keep,by rw [hlen],harr _ (fun c o hc=>Mx_M hc) (fun c hc=>?_),?_⟩
       ·rcases zbs hb with h|⟨_,h,_⟩
        ·exact hs.heap.mem b o h
        ·exact h
       ·rcases zbs hb with h|⟨_,_,s,g,ob,m1,m2,m3⟩
        ·exact hprov b o h
        ·rcases hs.heap.own s g ob b m2 m3 with h|h
         ·obtain ⟨rfl,rfl⟩:=hs.heap.inj s g PIN 0 ob _ b m2 hpin m3 (hB.trans h)
          exact absurd m1 hni
         ·exact .inr h
       ·cases hm:Mx Z' st' w' (deps st' FUEL v) c with
        | none=>rfl
        | some y =>
         exfalso
         rcases zbs hm with h|⟨_,_,s,g,ob,m1,m2,m3⟩
         ·rw [hsepM c hc] at h; cases h
         ·obtain ⟨rfl,rfl⟩:=hs.heap.inj s g PIN 0 ob _ c m2 hpin m3 (hB.trans hc)
          exact hni m1
       ·exact zfv hs.heap _ FUEL _ _ _ hx hq (fun i hi=>hi)
      | same l _ hl =>
       refine ⟨x,Z'.M,rfl,hs.heap.m0,hs.heap.mem,hprov,hs.heap.keep,by rw [hlen],harr _ (fun _ _ h=>h) hsepM,hl,?_⟩
       cases hx with
       | own0 _ _ o ho hb0=>rw [<- hB,hb0]
       | own _ _ _ _ o b' ad c ho hb' h1 h2 h3 h4 =>
        obtain ⟨rfl,rfl⟩:=h1 rfl
        rw [<- hB,hb',hC]
       | ownD _ _ _ _ _ _ _ hd=>exact (zax hpin hd).elim
     rcases hex with rfl|rfl
     ·exact hfin
     ·exact hfin
    ·cases hc
   ·cases hc
  ·cases hc
 ·cases hc
end
end Go.Ab
