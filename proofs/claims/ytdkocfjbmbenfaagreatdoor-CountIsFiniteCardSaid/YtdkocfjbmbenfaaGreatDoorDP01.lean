/-
Proofs for the law CountIsFinite, part 1. Conditions: none.
-/
import Derived.Test.YtdkocfjbmbenfaaGreatDoorDP00
import Derived.DeepKeys4
set_option maxRecDepth 100000
set_option maxHeartbeats 4000000
set_option linter.all false
namespace Go.Ab
def Cz.setB (Z:Cz) (s g:Nat) (b:Option Nat) (c:Nat):Cz :=
 {Z with B:=fun s' g'=>if s'=s/\g'=g then b else Z.B s' g',cap:=fun s' g'=>if s'=s/\g'=g then c else Z.cap s' g' }
theorem za7 (st:St) (d:Nat) (o:AObj) (s:Nat):(st.alloc d o).site s=if s=d then st.site d++[some o] else st.site s:=by
 unfold St.alloc St.site
 simp only [look]
 by_cases h:d=s
 ·subst h; simp
 ·simp [h,Ne.symm h]
theorem zam (st:St) (d:Nat) (o:AObj) (s g:Nat):(st.alloc d o).obj s g=if s=d/\g=(st.site d).length then some o else st.obj s g:=by
 unfold St.obj
 rw [za7]
 by_cases h:s=d
 ·subst h
  simp only [true_and,if_true]
  rcases Nat.lt_trichotomy g (st.site s).length with h1|h1|h1
  ·rw [if_neg (by omega),List.getElem?_append_left h1]
  ·subst h1; simp
  ·rw [if_neg (by omega),List.getElem?_append_right (by omega),List.getElem?_eq_none (l:=st.site s) (by omega),List.getElem?_eq_none (by simp; omega)]
 ·simp [h]
def St.kill (st:St) (s g:Nat):St:={ st with hp:=(s,zjv (st.site s) g)::st.hp }
theorem zej (st:St) (s g:Nat) (r:List (Nat × Nat)):killAll st ((s,g)::r)=killAll (st.kill s g) r:=rfl
theorem zfy (st:St) (s g t:Nat):(st.kill s g).site t=if t=s then (st.site s).set g none else st.site t:=by
 unfold St.kill St.site
 simp only [look,zjv]
 by_cases h:s=t
 ·subst h; simp
 ·simp [h,Ne.symm h]
theorem zeg (st:St) (s g s' g':Nat):(st.kill s g).obj s' g'=if s'=s/\g'=g then none else st.obj s' g':=by
 unfold St.obj
 rw [zfy]
 by_cases h:s'=s
 ·subst h
  simp only [true_and,if_true,List.getElem?_set]
  by_cases h2:g'=g
  ·subst h2; simp; split<;>simp
  ·simp [h2,Ne.symm h2]
 ·simp [h]
theorem zo9 (st:St) (s g t:Nat):((st.kill s g).site t).length=(st.site t).length:=by
 rw [zfy]; split
 ·rename_i h; subst h; simp
 ·rfl
theorem zaw (st:St) (s g t:Nat) (o:AObj):(st.setObj s g o).site t=if t=s then (st.site s).set g (some o) else st.site t:=by
 unfold St.setObj St.site
 simp only [look]
 by_cases h:s=t
 ·subst h; simp
 ·simp [h,Ne.symm h]
theorem za8 (st:St) (s g s' g':Nat) (o:AObj) (hg:g<(st.site s).length):(st.setObj s g o).obj s' g'=if s'=s/\g'=g then some o else st.obj s' g':=by
 unfold St.obj
 rw [zaw]
 by_cases h:s'=s
 ·subst h
  simp only [true_and,if_true,List.getElem?_set]
  by_cases h2:g'=g
  ·subst h2; simp [hg]
  ·simp [h2,Ne.symm h2]
 ·simp [h]
theorem zlu (st:St) (s g t:Nat) (o:AObj):((st.setObj s g o).site t).length=(st.site t).length:=by
 rw [zaw]; split
 ·rename_i h; subst h; simp
 ·rfl
theorem ZLe.alloc (Z:Cz) (st:St) (d:Nat) (o:AObj) (b:Option Nat) (c:Nat):ZLe Z st (Z.setB d (st.site d).length b c) (st.alloc d o):=by
 refine ⟨fun _ _ h=>h,fun s=>?_,fun s g hg hd=>?_,fun s g o' ho=>.inr ⟨o',?_,rfl,rfl,?_,?_⟩⟩
 ·rw [za7]; split
  ·rename_i h; subst h; simp
  ·exact Nat.le_refl _
 ·rw [zam,if_neg (by rintro ⟨rfl,rfl⟩; omega)]; exact hd
 ·rw [zam,if_neg (by rintro ⟨rfl,rfl⟩; have:=zbt ho; omega)]; exact ho
 ·simp only [Cz.setB]; rw [if_neg (by rintro ⟨rfl,rfl⟩; have:=zbt ho; omega)]
 ·simp only [Cz.setB]; rw [if_neg (by rintro ⟨rfl,rfl⟩; have:=zbt ho; omega)]
theorem ZLe.kill (Z:Cz) (st:St) (s g:Nat):ZLe Z st Z (st.kill s g):=by
 refine ⟨fun _ _ h=>h,fun t=>by rw [zo9]; exact Nat.le_refl _,fun s' g' hg hd=>?_,fun s' g' o' ho=>?_⟩
 ·rw [zeg]; split
  ·rfl
  ·exact hd
 ·by_cases h:s'=s/\g'=g
  ·left; rw [zeg,if_pos h]
  ·right; exact ⟨o',by rw [zeg,if_neg h]; exact ho,rfl,rfl,rfl,rfl⟩
theorem ZLe.setObj (Z:Cz) (st:St) (s g:Nat) (o o':AObj) (ho:st.obj s g=some o) (h1:o'.sz=o.sz) (h2:o'.es.length=o.es.length):ZLe Z st Z (st.setObj s g o'):=by
 have hg:=zbt ho
 refine ⟨fun _ _ h=>h,fun t=>by rw [zlu]; exact Nat.le_refl _,fun s' g' hg' hd=>?_,fun s' g' o1 ho1=>.inr ?_⟩
 ·rw [za8 _ _ _ _ _ _ hg,if_neg (by rintro ⟨rfl,rfl⟩; rw [ho] at hd; cases hd)]; exact hd
 ·by_cases h:s'=s/\g'=g
  ·obtain ⟨rfl,rfl⟩:=h
   rw [ho] at ho1; cases ho1
   exact ⟨o',by rw [za8 _ _ _ _ _ _ hg,if_pos ⟨rfl,rfl⟩],h1,h2,rfl,rfl⟩
  ·exact ⟨o1,by rw [za8 _ _ _ _ _ _ hg,if_neg h]; exact ho1,rfl,rfl,rfl,rfl⟩
theorem ORep.later {Z Z':Cz} {st st':St} {w w':World} {s g:Nat} {o:AObj} (h:ORep Z st w s g o) (hz:ZLe Z st Z' st') (hB:Z'.B s g=Z.B s g) (hc:Z'.cap s g=Z.cap s g)
  (hw:∀ b,Z.B s g=some b->w'.heap[b]?=w.heap[b]?):ORep Z' st' w' s g o:=by
 refine ⟨h.pos,h.els,h.one,fun hn=>h.non (by rw [<- hB]; exact hn),fun b hb=>?_⟩
 rw [hB] at hb
 obtain ⟨cur,T,vals,h1,h2,h3,h4,h5,h6⟩:=h.blk b hb
 exact ⟨cur,T,vals,by rw [hw b hb]; exact h1,AReps.mono hz h2,h3,by rw [hc]; exact h4,by rw [hc]; exact h5,by rw [hc]; exact h6⟩
theorem Keep.alloc {w0 w:World} {X:Nat->Prop} (h:Keep w0 w X) (o:Obj):Keep w0 (w.alloc o) X :=
 ⟨h.os,h.tape,h.output,h.drawn,by simp only [World.size_alloc]; have:=h.size; omega,fun b hb hx=>by rw [heap_alloc_old w o b (Nat.lt_of_lt_of_le hb h.size)]; exact h.blk b hb hx⟩
theorem Keep.drew {w0 w:World} {X:Nat->Prop} (h:Keep w0 w X):Keep w0 w.drew X:=⟨h.os,h.tape,h.output,Nat.le_trans h.drawn (Nat.le_succ _),h.size,h.blk⟩
theorem Keep.setRow {w0 w:World} {X:Nat->Prop} (h:Keep w0 w X) (g:Nat) (cs:Array Value) (hg:X g\/w0.heap.size<=g):Keep w0 (w.setRow g cs) X:=by
 refine ⟨h.os,h.tape,h.output,h.drawn,by rw [setRow_size]; exact h.size,fun b hb hx=>?_⟩
 rw [setRow_other w g b cs (by rintro rfl; rcases hg with hg|hg; exact hx hg; omega)]
 exact h.blk b hb hx
theorem HRep.drew {K:Ctx} {Z:Cz} {st:St} {w:World} (h:HRep K Z st w):HRep K Z st w.drew :=
 ⟨fun s g o ho=>(h.objs s g o ho).later (ZLe.refl Z st) rfl rfl (fun _ _=>rfl),h.inj,h.mem,h.sep,h.own,h.m0,h.prov,h.keep.drew⟩
theorem HRep.lt {K:Ctx} {Z:Cz} {st:St} {w:World} (h:HRep K Z st w) {s g b:Nat} {o:AObj} (ho:st.obj s g=some o) (hb:Z.B s g=some b):b<w.heap.size:=by
 obtain ⟨cur,T,vals,h1,_⟩:=(h.objs s g o ho).blk b hb
 exact (Array.getElem?_eq_some_iff.1 h1).1
theorem HRep.ltM {K:Ctx} {Z:Cz} {st:St} {w:World} (h:HRep K Z st w) {b:Nat} {o:Obj} (hb:Z.M b=some o):b<w.heap.size :=
 (Array.getElem?_eq_some_iff.1 (h.mem b o hb)).1
theorem HRep.alloc {K:Ctx} {Z:Cz} {st:St} {w:World} (h:HRep K Z st w) (d:Nat) (o:AObj) (cur:Array Value) (T:TypeId) (c:Nat) (vals:List Value)
  (h1:0<o.sz) (h2:∀ e∈o.es,e.sz=o.sz) (h3:∀ x∈o.es.flatMap AV.cells,x.one=true) (h4:AReps Z st (o.es.flatMap AV.cells) vals)
  (h5:∀ (i:Nat) (v:Value),vals[i]?=some v->cur[i]?=some v) (h6:cur.size=c*o.sz) (h7:o.es.length<=c) (h8:c<=maxLen) :
  HRep K (Z.setB d (st.site d).length (some w.heap.size) c) (st.alloc d o) (w.alloc (.cells cur T)):=by
 have hz:=ZLe.alloc Z st d o (some w.heap.size) c
 have hn:∀ {s g:Nat} {o':AObj},st.obj s g=some o'->¬ (s=d/\g=(st.site d).length):=by
  rintro s g o' ho ⟨rfl,rfl⟩; have:=zbt ho; omega
 have hB:∀ {s g:Nat},¬ (s=d/\g=(st.site d).length)->(Z.setB d (st.site d).length (some w.heap.size) c).B s g=Z.B s g:=fun hx=>by simp only [Cz.setB]; rw [if_neg hx]
 have hC:∀ {s g:Nat},¬ (s=d/\g=(st.site d).length)->(Z.setB d (st.site d).length (some w.heap.size) c).cap s g=Z.cap s g:=fun hx=>by simp only [Cz.setB]; rw [if_neg hx]
 refine ⟨fun s g o' ho=>?_,fun s g s' g' o' o'' b ho ho' hb hb'=>?_,fun b o' hb=>?_,fun s g o' b ho hb=>?_,fun s g o' b ho hb=>?_,h.m0,h.prov,h.keep.alloc _⟩
 ·rw [zam] at ho
  by_cases hx:s=d/\g=(st.site d).length
  ·rw [if_pos hx] at ho; cases ho
   obtain ⟨rfl,rfl⟩:=hx
   refine ⟨h1,h2,h3,fun hnn=>(by simp [Cz.setB] at hnn),fun b hb=>?_⟩
   simp only [Cz.setB,and_self,if_true,Option.some.injEq] at hb ⊢
   subst hb
   exact ⟨cur,T,vals,heap_alloc_new w _,AReps.mono hz h4,h5,h6,h7,h8⟩
  ·rw [if_neg hx] at ho
   exact (h.objs s g o' ho).later hz (hB hx) (hC hx) (fun b hb=>heap_alloc_old w _ b (h.lt ho hb))
 ·rw [zam] at ho ho'
  by_cases hx:s=d/\g=(st.site d).length<;>by_cases hx':s'=d/\g'=(st.site d).length
  ·exact ⟨hx.1.trans hx'.1.symm,hx.2.trans hx'.2.symm⟩
  ·rw [if_neg hx'] at ho'; rw [hB hx'] at hb'
   obtain ⟨rfl,rfl⟩:=hx
   simp only [Cz.setB,and_self,if_true,Option.some.injEq] at hb
   have:=h.lt ho' hb'; omega
  ·rw [if_neg hx] at ho; rw [hB hx] at hb
   obtain ⟨rfl,rfl⟩:=hx'
   simp only [Cz.setB,and_self,if_true,Option.some.injEq] at hb'
   have:=h.lt ho hb; omega
  ·rw [if_neg hx] at ho; rw [if_neg hx'] at ho'; rw [hB hx] at hb; rw [hB hx'] at hb'
   exact h.inj s g s' g' o' o'' b ho ho' hb hb'
 ·rw [heap_alloc_old w _ b (h.ltM hb)]; exact h.mem b o' hb
 ·rw [zam] at ho
  by_cases hx:s=d/\g=(st.site d).length
  ·obtain ⟨rfl,rfl⟩:=hx
   simp only [Cz.setB,and_self,if_true,Option.some.injEq] at hb
   subst hb
   cases hm:Z.M w.heap.size with
   | none=>exact hm
   | some x=>have:=h.ltM hm; omega
  ·rw [if_neg hx] at ho; rw [hB hx] at hb; exact h.sep s g o' b ho hb
 ·rw [zam] at ho
  by_cases hx:s=d/\g=(st.site d).length
  ·obtain ⟨rfl,rfl⟩:=hx
   simp only [Cz.setB,and_self,if_true,Option.some.injEq] at hb
   subst hb
   exact .inr h.keep.size
  ·rw [if_neg hx] at ho; rw [hB hx] at hb; exact h.own s g o' b ho hb
theorem HRep.allocNil {K:Ctx} {Z:Cz} {st:St} {w:World} (h:HRep K Z st w) (d sz:Nat) (h1:0<sz) :
  HRep K (Z.setB d (st.site d).length none 0) (st.alloc d ⟨sz,[]⟩) w:=by
 have hz:=ZLe.alloc Z st d ⟨sz,[]⟩ none 0
 have hB:∀ {s g:Nat},¬ (s=d/\g=(st.site d).length)->(Z.setB d (st.site d).length none 0).B s g=Z.B s g:=fun hx=>by simp only [Cz.setB]; rw [if_neg hx]
 have hC:∀ {s g:Nat},¬ (s=d/\g=(st.site d).length)->(Z.setB d (st.site d).length none 0).cap s g=Z.cap s g:=fun hx=>by simp only [Cz.setB]; rw [if_neg hx]
 have old:∀ {s g:Nat} {o':AObj} {b:Nat},(st.alloc d ⟨sz,[]⟩).obj s g=some o'->(Z.setB d (st.site d).length none 0).B s g=some b->st.obj s g=some o'/\Z.B s g=some b:=by
  intro s g o' b ho hb
  rw [zam] at ho
  by_cases hx:s=d/\g=(st.site d).length
  ·obtain ⟨rfl,rfl⟩:=hx; simp [Cz.setB] at hb
  ·rw [if_neg hx] at ho; rw [hB hx] at hb; exact ⟨ho,hb⟩
 refine ⟨fun s g o' ho=>?_,fun s g s' g' o' o'' b ho ho' hb hb'=>?_,h.mem,fun s g o' b ho hb=>?_,fun s g o' b ho hb=>?_,h.m0,h.prov,h.keep⟩
 ·rw [zam] at ho
  by_cases hx:s=d/\g=(st.site d).length
  ·rw [if_pos hx] at ho; cases ho
   obtain ⟨rfl,rfl⟩:=hx
   exact ⟨h1,by simp,by simp,fun _=>rfl,fun b hb=>by simp [Cz.setB] at hb⟩
  ·rw [if_neg hx] at ho
   exact (h.objs s g o' ho).later hz (hB hx) (hC hx) (fun _ _=>rfl)
 ·obtain ⟨a1,a2⟩:=old ho hb
  obtain ⟨b1,b2⟩:=old ho' hb'
  exact h.inj s g s' g' o' o'' b a1 b1 a2 b2
 ·obtain ⟨a1,a2⟩:=old ho hb; exact h.sep s g o' b a1 a2
 ·obtain ⟨a1,a2⟩:=old ho hb; exact h.own s g o' b a1 a2
theorem HRep.kill {K:Ctx} {Z:Cz} {st:St} {w:World} (h:HRep K Z st w) (s g:Nat):HRep K Z (st.kill s g) w:=by
 have old:∀ {s' g':Nat} {o':AObj},(st.kill s g).obj s' g'=some o'->st.obj s' g'=some o':=by
  intro s' g' o' ho; rw [zeg] at ho; split at ho
  ·cases ho
  ·exact ho
 exact ⟨fun s' g' o' ho=>(h.objs s' g' o' (old ho)).later (ZLe.kill Z st s g) rfl rfl (fun _ _=>rfl),
  fun _ _ _ _ _ _ b a1 a2=>h.inj _ _ _ _ _ _ b (old a1) (old a2),h.mem,fun _ _ _ b a1=>h.sep _ _ _ b (old a1),fun _ _ _ b a1=>h.own _ _ _ b (old a1),h.m0,h.prov,h.keep⟩
theorem HRep.setObj {K:Ctx} {Z:Cz} {st:St} {w:World} (h:HRep K Z st w) {s g:Nat} {o:AObj} (ho:st.obj s g=some o) {b:Nat} (hb:Z.B s g=some b)
  (es:List AV) (cur:Array Value) (vals:List Value) (h2:∀ e∈es,e.sz=o.sz) (h3:∀ x∈es.flatMap AV.cells,x.one=true) (hl:es.length=o.es.length)
  (h4:AReps Z st (es.flatMap AV.cells) vals) (h5:∀ (i:Nat) (v:Value),vals[i]?=some v->cur[i]?=some v) (h6:cur.size=Z.cap s g*o.sz) :
  HRep K Z (st.setObj s g ⟨o.sz,es⟩) (w.setRow b cur):=by
 have hg:=zbt ho
 have hz:=ZLe.setObj Z st s g o ⟨o.sz,es⟩ ho rfl hl
 obtain ⟨old,T,ov,k1,k2,k3,k4,k5,k6⟩:=(h.objs s g o ho).blk b hb
 have ob:∀ {s' g':Nat} {o':AObj},(st.setObj s g ⟨o.sz,es⟩).obj s' g'=some o'->∃ o1,st.obj s' g'=some o1:=by
  intro s' g' o' hx
  rw [za8 _ _ _ _ _ _ hg] at hx
  split at hx
  ·rename_i he; obtain ⟨rfl,rfl⟩:=he; exact ⟨o,ho⟩
  ·exact ⟨o',hx⟩
 refine ⟨fun s' g' o' ho'=>?_,fun s' g' s'' g'' o' o'' b' a1 a2 a3 a4=>?_,fun b' o' hb'=>?_,fun s' g' o' b' a1 a2=>?_,fun s' g' o' b' a1 a2=>?_,h.m0,h.prov,h.keep.setRow _ _ (h.own s g o b ho hb)⟩
 ·rw [za8 _ _ _ _ _ _ hg] at ho'
  by_cases he:s'=s/\g'=g
  ·rw [if_pos he] at ho'; cases ho'
   obtain ⟨rfl,rfl⟩:=he
   refine ⟨(h.objs s' g' o ho).pos,h2,h3,fun hn=>(by rw [hb] at hn; cases hn),fun b' hb'=>?_⟩
   rw [hb] at hb'; cases hb'
   exact ⟨cur,T,vals,setRow_heap w b old cur T (0,0) k1,AReps.mono hz h4,h5,h6,by simpa [hl] using k5,k6⟩
  ·rw [if_neg he] at ho'
   refine (h.objs s' g' o' ho').later hz rfl rfl (fun b' hb'=>setRow_other w b b' cur ?_)
   rintro rfl
   exact he (h.inj s' g' s g o' o b' ho' ho hb' hb)
 ·obtain ⟨o1,x1⟩:=ob a1
  obtain ⟨o2,x2⟩:=ob a2
  exact h.inj s' g' s'' g'' o1 o2 b' x1 x2 a3 a4
 ·rw [setRow_other w b b' cur (by rintro rfl; rw [h.sep s g o b' ho hb] at hb'; cases hb')]
  exact h.mem b' o' hb'
 ·obtain ⟨o1,x1⟩:=ob a1; exact h.sep s' g' o1 b' x1 a2
 ·obtain ⟨o1,x1⟩:=ob a1; exact h.own s' g' o1 b' x1 a2
theorem HRep.move {K:Ctx} {Z:Cz} {st:St} {w:World} (h:HRep K Z st w) {s g:Nat} {o:AObj} (ho:st.obj s g=some o) {b:Nat} (hb:Z.B s g=some b) (d:Nat)
  (es:List AV) (cur:Array Value) (vals:List Value) (h2:∀ e∈es,e.sz=o.sz) (h3:∀ x∈es.flatMap AV.cells,x.one=true) (hl:es.length<=Z.cap s g)
  (h4:AReps Z st (es.flatMap AV.cells) vals) (h5:∀ (i:Nat) (v:Value),vals[i]?=some v->cur[i]?=some v) (h6:cur.size=Z.cap s g*o.sz) :
  HRep K (Z.setB d ((st.kill s g).site d).length (some b) (Z.cap s g)) ((st.kill s g).alloc d ⟨o.sz,es⟩) (w.setRow b cur) /\
  ZLe Z st (Z.setB d ((st.kill s g).site d).length (some b) (Z.cap s g)) ((st.kill s g).alloc d ⟨o.sz,es⟩):=by
 have hk:=ZLe.kill Z st s g
 have hz:ZLe Z st (Z.setB d ((st.kill s g).site d).length (some b) (Z.cap s g)) ((st.kill s g).alloc d ⟨o.sz,es⟩):=hk.trans (ZLe.alloc Z (st.kill s g) d ⟨o.sz,es⟩ (some b) (Z.cap s g))
 obtain ⟨old,T,ov,k1,k2,k3,k4,k5,k6⟩:=(h.objs s g o ho).blk b hb
 generalize hn:((st.kill s g).site d).length=n at *
 have oo:∀ {s' g':Nat} {o':AObj},((st.kill s g).alloc d ⟨o.sz,es⟩).obj s' g'=some o'->¬ (s'=d/\g'=n)->st.obj s' g'=some o'/\¬ (s'=s/\g'=g):=by
  intro s' g' o' hx hne
  rw [zam,hn,if_neg hne,zeg] at hx
  split at hx
  ·cases hx
  ·rename_i h1; exact ⟨hx,h1⟩
 have hB:∀ {s' g':Nat},¬ (s'=d/\g'=n)->(Z.setB d n (some b) (Z.cap s g)).B s' g'=Z.B s' g':=fun hx=>by simp only [Cz.setB]; rw [if_neg hx]
 have hC:∀ {s' g':Nat},¬ (s'=d/\g'=n)->(Z.setB d n (some b) (Z.cap s g)).cap s' g'=Z.cap s' g':=fun hx=>by simp only [Cz.setB]; rw [if_neg hx]
 refine ⟨⟨fun s' g' o' ho'=>?_,fun s' g' s'' g'' o' o'' b' a1 a2 a3 a4=>?_,fun b' o' hb'=>?_,fun s' g' o' b' a1 a2=>?_,fun s' g' o' b' a1 a2=>?_,h.m0,h.prov,h.keep.setRow _ _ (h.own s g o b ho hb)⟩,hz⟩
 ·by_cases he:s'=d/\g'=n
  ·rw [zam,hn,if_pos he] at ho'; cases ho'
   obtain ⟨rfl,rfl⟩:=he
   refine ⟨(h.objs s g o ho).pos,h2,h3,fun hnn=>(by simp [Cz.setB] at hnn),fun b' hb'=>?_⟩
   simp only [Cz.setB,and_self,if_true,Option.some.injEq] at hb' ⊢
   subst hb'
   exact ⟨cur,T,vals,setRow_heap w b old cur T (0,0) k1,AReps.mono hz h4,h5,h6,hl,k6⟩
  ·obtain ⟨ho1,hne⟩:=oo ho' he
   refine (h.objs s' g' o' ho1).later hz (hB he) (hC he) (fun b' hb'=>setRow_other w b b' cur ?_)
   rintro rfl
   exact hne (h.inj s' g' s g o' o b' ho1 ho hb' hb)
 ·by_cases hx:s'=d/\g'=n<;>by_cases hx':s''=d/\g''=n
  ·exact ⟨hx.1.trans hx'.1.symm,hx.2.trans hx'.2.symm⟩
  ·obtain ⟨y1,y2⟩:=oo a2 hx'
   rw [hB hx'] at a4
   obtain ⟨rfl,rfl⟩:=hx
   simp only [Cz.setB,and_self,if_true,Option.some.injEq] at a3
   subst a3
   exact absurd (h.inj s'' g'' s g o'' o b y1 ho a4 hb) y2
  ·obtain ⟨y1,y2⟩:=oo a1 hx
   rw [hB hx] at a3
   obtain ⟨rfl,rfl⟩:=hx'
   simp only [Cz.setB,and_self,if_true,Option.some.injEq] at a4
   subst a4
   exact absurd (h.inj s' g' s g o' o b y1 ho a3 hb) y2
  ·obtain ⟨y1,_⟩:=oo a1 hx
   obtain ⟨z1,_⟩:=oo a2 hx'
   rw [hB hx] at a3; rw [hB hx'] at a4
   exact h.inj s' g' s'' g'' o' o'' b' y1 z1 a3 a4
 ·rw [setRow_other w b b' cur (by rintro rfl; have:=h.sep s g o b' ho hb; simp only [Cz.setB] at hb'; rw [this] at hb'; cases hb')]
  exact h.mem b' o' hb'
 ·by_cases he:s'=d/\g'=n
  ·obtain ⟨rfl,rfl⟩:=he
   simp only [Cz.setB,and_self,if_true,Option.some.injEq] at a2
   subst a2; exact h.sep s g o b ho hb
  ·rw [hB he] at a2; exact h.sep s' g' o' b' (oo a1 he).1 a2
 ·by_cases he:s'=d/\g'=n
  ·obtain ⟨rfl,rfl⟩:=he
   simp only [Cz.setB,and_self,if_true,Option.some.injEq] at a2
   subst a2; exact h.own s g o b ho hb
  ·rw [hB he] at a2; exact h.own s' g' o' b' (oo a1 he).1 a2
end Go.Ab
namespace Go.Ab
theorem AV.cells_len {v:AV} (h:0<v.sz):v.cells.length=v.sz:=by
 rcases AV.sz_pos h with h1|⟨cs,rfl,h1⟩|⟨cs,rfl,h1⟩
 ·rw [(AV.cells_one h1).1,(AV.cells_one h1).2]; rfl
 ·simp [AV.cells,AV.sz]; omega
 ·simp [AV.cells,AV.sz,PV.sz]; omega
theorem PV.cells_len {v:PV} (h:0<v.sz):v.cells.length=v.sz:=by
 rcases PV.sz_pos h with h1|⟨cs,rfl,h1⟩
 ·rw [(PV.cells_one h1).1,(PV.cells_one h1).2]; rfl
 ·simp [PV.cells,PV.sz]; omega
theorem AV.cells_p (v:PV):(AV.p v).cells=v.cells.map .p:=by cases v<;>rfl
theorem AV.sz_p (v:PV):(AV.p v).sz=v.sz:=rfl
theorem zaj (es:List PV):(es.map AV.p).flatMap AV.cells=(es.flatMap PV.cells).map .p:=by
 induction es with
 | nil=>rfl
 | cons e es ih=>simp only [List.map_cons,List.flatMap_cons,List.map_append,ih,AV.cells_p]
theorem zb7 {α β : Type} (f : α -> List β) (sz:Nat):∀ (es:List α),(∀ e∈es,(f e).length=sz)->(es.flatMap f).length=es.length*sz
 | [],_=>by simp
 | e::es,h=>by
  rw [List.flatMap_cons,List.length_append,h e (by simp),zb7 f sz es (fun x hx=>h x (by simp [hx])),List.length_cons,Nat.succ_mul]
  omega
theorem zhy {α β : Type} (f : α -> List β) (sz:Nat):∀ (es:List α) (ix:Nat) (e : α),(∀ e∈es,(f e).length=sz)->es[ix]?=some e->((es.flatMap f).drop (ix*sz)).take sz=f e
 | [],_,_,_,h=>by simp at h
 | x::es,0,e,h,he=>by
  simp at he; subst he
  rw [Nat.zero_mul,List.drop_zero,List.flatMap_cons,List.take_append_of_le_length (by rw [h x (by simp)]; exact Nat.le_refl _),List.take_of_length_le (by rw [h x (by simp)]; exact Nat.le_refl _)]
 | x::es,ix+1,e,h,he=>by
  have hx:=h x (by simp)
  rw [List.flatMap_cons,Nat.succ_mul,List.drop_append,List.drop_of_length_le (by omega),List.nil_append,hx,Nat.add_sub_cancel]
  exact zhy f sz es ix e (fun y hy=>h y (by simp [hy])) (by simpa using he)
theorem zrp {α β : Type} (f : α -> List β) (sz:Nat) (es:List α) (ix:Nat) (e : α) (h:∀ e∈es,(f e).length=sz) (he:es[ix]?=some e):ix*sz+sz<=(es.flatMap f).length:=by
 rw [zb7 f sz es h,<- Nat.succ_mul]
 exact Nat.mul_le_mul_right _ (List.getElem?_eq_some_iff.1 he).1
theorem zoi {α β : Type} (f : α -> List β) (sz:Nat):∀ (es:List α) (ix:Nat) (e : α),(∀ e∈es,(f e).length=sz)->ix<es.length ->
  (es.set ix e).flatMap f=(es.flatMap f).take (ix*sz)++f e++(es.flatMap f).drop (ix*sz+sz)
 | [],_,_,_,h=>by simp at h
 | x::es,0,e,h,_=>by
  have hx:=h x (by simp)
  simp only [List.set_cons_zero,List.flatMap_cons,Nat.zero_mul,List.take_zero,List.nil_append,Nat.zero_add]
  rw [List.drop_append_of_le_length (by omega),List.drop_of_length_le (by omega),List.nil_append]
 | x::es,ix+1,e,h,hl=>by
  have hx:=h x (by simp)
  have ih:=zoi f sz es ix e (fun y hy=>h y (by simp [hy])) (by simpa using hl)
  simp only [List.set_cons_succ,List.flatMap_cons,ih,Nat.succ_mul]
  rw [List.take_append,List.take_of_length_le (l:=f x) (by omega),List.drop_append,List.drop_of_length_le (l:=f x) (by omega),hx,Nat.add_sub_cancel,
   show ix*sz+sz+sz - sz=ix*sz+sz from by omega]
  simp [List.append_assoc]
theorem zst {cur:Array Value} {vals:List Value} (h:∀ (i:Nat) (v:Value),vals[i]?=some v->cur[i]?=some v):∃ rest,cur.toList=vals++rest:=by
 refine ⟨cur.toList.drop vals.length,?_⟩
 apply List.ext_getElem?
 intro i
 by_cases hi:i<vals.length
 ·rw [List.getElem?_append_left hi,List.getElem?_eq_getElem hi]
  have:=h i _ (List.getElem?_eq_getElem hi)
  simpa using this
 ·rw [List.getElem?_append_right (by omega),List.getElem?_drop]
  congr 1; omega
theorem zkp {cur:List Value} {vals rest:List Value} (h:cur=vals++rest):∀ (i:Nat) (v:Value),vals[i]?=some v->cur.toArray[i]?=some v:=by
 intro i v hv
 subst h
 have hl:=(List.getElem?_eq_some_iff.1 hv).1
 simp only [List.getElem?_toArray]
 rw [List.getElem?_append_left hl]; exact hv
section
variable {P:Program} {K:Ctx}
theorem zb0 (b o j:Nat):(⟨b,o,none⟩:Addr).add j=⟨b,o+j,none⟩:=by unfold Addr.add; split<;>simp_all
def tsz (P:Program) (t:TypeId):Nat:=P.cellsOf t
def zrx:TypeDesc->Bool
 | .struct _ | .array _ _=>true
 | _=>false
def tagg (P:Program) (t:TypeId):Bool :=
 match P.underlying t with
 | some d=>zrx d
 | _=>false
def tok (P:Program) (t:TypeId) (sz:Nat) (ag:Bool):Bool :=
 (P.info? t).isSome&&(P.underlying t).isSome&&tsz P t == sz&&tagg P t == ag&&(if ag then 1<sz else sz == 1)
theorem zhk {t:TypeId} {sz:Nat} {ag:Bool} (h:tok P t sz ag=true) :
  ∃ i d,P.info? t=some i/\i.size=sz/\P.underlying t=some d/\zrx d=ag/\(ag=true->1<sz)/\(ag=false->sz=1):=by
 simp only [tok,Bool.and_eq_true,beq_iff_eq] at h
 obtain ⟨⟨⟨⟨h1,h2⟩,h3⟩,h4⟩,h5⟩:=h
 obtain ⟨i,hi⟩:=Option.isSome_iff_exists.1 h1
 obtain ⟨d,hd⟩:=Option.isSome_iff_exists.1 h2
 refine ⟨i,d,hi,by simpa [tsz,Program.cellsOf,hi] using h3,hd,?_,?_,?_⟩
 ·rw [<- h4]; unfold tagg; rw [hd]
 ·rintro rfl; simpa using h5
 ·rintro rfl; simpa using h5
theorem zfz {t:TypeId} {d:TypeDesc} (w:World) (hd:P.underlying t=some d):(isAgg t).run P w=.ok (zrx d) w:=by
 unfold isAgg
 rw [Sem.run_bind,run_underlying hd w]
 cases d<;>rfl
theorem zhb {Z:Cz} {st:St} {t:TypeId} {sz:Nat} {ag:Bool} {w:World} {b o k:Nat} {cur:Array Value} {T:TypeId} {fr:Nat × Nat} {cs:List AV} {vals:List Value}
  (ht:tok P t sz ag=true) (hm:w.heap[b]?=some (.cells cur T fr)) (hr:AReps Z st cs vals) (hv:∀ (i:Nat) (v:Value),vals[i]?=some v->cur[o+i]?=some v) (hl:k+sz<=cs.length) :
  ∃ xs,AReps Z st ((cs.drop k).take sz) xs/\xs.length=sz/\(ag=true->(loadVar t ⟨b,o+k,none⟩).run P w=.ok (.agg xs.toArray) w) /\
   (ag=false->∃ x,xs=[x]/\(loadVar t ⟨b,o+k,none⟩).run P w=.ok x w):=by
 obtain ⟨i,d,hi,hs,hd,hag,hy,hn⟩:=zhk ht
 have hrl:=hr.length
 have hcell:∀ j v,((vals.drop k).take sz)[j]?=some v->w.cell? ((⟨b,o+k,none⟩:Addr).add j)=some v:=by
  intro j v hj
  rw [zb0,cell_of_row w b _ cur T fr hm]
  rw [List.getElem?_take] at hj
  split at hj
  ·rw [List.getElem?_drop] at hj; rw [Nat.add_assoc]; exact hv _ _ hj
  ·cases hj
 have hlen:((vals.drop k).take sz).length=sz:=by simp; omega
 refine ⟨(vals.drop k).take sz,(hr.drop k).take sz,hlen,fun ha=>?_,fun ha=>?_⟩
 ·have hL:=run_loadCells_list (P:=P) w ⟨b,o+k,none⟩ ((vals.drop k).take sz) hcell
  rw [hlen] at hL
  subst ha
  simp [loadVar,zfz w hd,hag,sizeOf,typeInfo,hi,hs,hL]
 ·subst ha
  have h1:=hn rfl
  subst h1
  match hx:(vals.drop k).take 1,hlen with
  | [x],_ =>
   refine ⟨x,rfl,?_⟩
   have hc:=hcell 0 x (by rw [hx]; rfl)
   rw [zb0,Nat.add_zero] at hc
   simp [loadVar,zfz w hd,hag,hc]
theorem z0g {t:TypeId} {sz:Nat} {w:World} {b o:Nat} {cur:Array Value} {T:TypeId} {x:Value} {i:TypeInfo} (hi:P.info? t=some i) (hs:i.size=sz) (hm:w.heap[b]?=some (.cells cur T (0,0)))
  (hx:x.cells.size=sz) (hl:o+sz<=cur.size) (h1:∀ v∈x.cells.toList,v.oneCell'=true) :
  (storeVar t ⟨b,o,none⟩ x).run P w=.ok () (w.setRow b (cur.toList.take o++x.cells.toList++cur.toList.drop (o+sz)).toArray):=by
 have hst:=run_storeCells_at P b o T x.cells.toList 0 cur w hm (by simp; omega) h1
 simp only [Nat.add_zero,Array.length_toList,hx] at hst
 simp [storeVar,sizeOf,typeInfo,hi,hs,hx,hst]
def Good (P:Program) (K:Ctx) (Z:Cz) (st:St) (r:Result Next) (v:AV) (st':St):Prop :=
 ∃ n x w' Z',r=.ok n w'/\(n=.value x\/(n=.skip/\x=Go.undef))/\HRep K Z' st' w'/\ARep Z' st' v x/\ZLe Z st Z' st'
theorem zba {Z:Cz} {st:St} {w:World} {v:AV} {x:Value} (h:HRep K Z st w) (hv:ARep Z st v x):Good P K Z st (.ok (.value x) w) v st :=
 ⟨_,x,w,Z,rfl,.inl rfl,h,hv,ZLe.refl Z st⟩
theorem ARep.inv_int {Z:Cz} {st:St} {k:IntKind} {n:Int} {x:Value} (h:ARep Z st (.p (.int k n)) x):x=.int k n:=by
 cases h with|p _ _ hp=>cases hp; rfl
theorem ARep.inv_bool {Z:Cz} {st:St} {b:Bool} {x:Value} (h:ARep Z st (.p (.bool b)) x):x=.bool b:=by
 cases h with|p _ _ hp=>cases hp; rfl
theorem ARep.inv_p {Z:Cz} {st:St} {v:PV} {x:Value} (h:ARep Z st (.p v) x):PRep Z.M v x:=by
 cases h with|p _ _ hp=>exact hp
theorem zbo {v:AV} {n:Nat} (h:zht v=some n):∃ k,v=.p (.int k (n:Int)):=by
 unfold zht at h
 split at h
 ·rename_i k m
  split at h
  ·cases h; refine ⟨k,?_⟩; congr; omega
  ·cases h
 ·cases h
theorem zb3 {Z:Cz} {st:St}:∀ {vs:List AV} {xs:List Value},AReps Z st vs xs->(∀ c∈vs,c.one=true)->∀ x∈xs,x.oneCell'=true
 | _,_,.nil,_=>by simp
 | _,_,.cons v x vs xs h hs,h1=>by
  intro y hy
  rcases List.mem_cons.1 hy with rfl|hy
  ·exact h.one_val (h1 v (by simp))
  ·exact zb3 hs (fun c hc=>h1 c (by simp [hc])) y hy
end
end Go.Ab
namespace Go.Ab
def zs1:Value->Option AV
 | .bool b=>some (.p (.bool b))
 | .int k n=>some (.p (.int k n))
 | .string s=>some (.p (.str s))
 | .slice none 0 0=>some .nil
 | .nilFunc=>some (.p .nilfn)
 | .map none=>some (.p .any)
 | .pointer none=>some (.p .any)
 | _=>none
def zmk:List Value->Option (List AV)
 | []=>some []
 | v::r=>match zs1 v,zmk r with
  | some a,some b=>some (a::b)
  | _,_=>none
def zxm:Value->Option AV
 | .agg cs=>(zmk cs.toList).map mkAgg
 | v=>zs1 v
def zag:Operand->Option Opd
 | .tmp t=>some (.t t)
 | .const v=>(zxm v).map .c
 | .func f=>some (.c (.p (.fn f [])))
 | .global _=>none
def za0:List Operand->Option (List Opd)
 | []=>some []
 | x::r=>match zag x,za0 r with
  | some a,some b=>some (a::b)
  | _,_=>none
def zd4 (P:Program) (t:TypeId):Option AV:=(P.info? t).bind fun i=>i.zero.bind zxm
def zdg:List (Nat × Nat)->List (Nat × Operand)->Option (List (Nat × Nat × Opd))
 | _,[]=>some []
 | pl,(i,x)::r=>match pl[i]?,zag x,zdg pl r with
  | some (o,s),some y,some l=>some ((o,s,y)::l)
  | _,_,_=>none
def ze6:List (Nat × Operand)->Option (List (Nat × Opd))
 | []=>some []
 | (i,x)::r=>match zag x,ze6 r with
  | some y,some l=>some ((i,y)::l)
  | _,_=>none
def zem (P:Program) (t:TypeId):Option (Option IntKind) :=
 match P.underlying t with
 | some (.int k)=>some (some k)
 | some .bool=>some none
 | _=>none
def ze3 (P:Program):List Field->Nat->Option (List (Option IntKind))
 | [],_=>some []
 | f::fs,j=>if f.name ≠ "_" /\ f.offset=j then match zem P f.type,ze3 P fs (j+1) with
  | some k,some l=>some (k::l)
  | _,_=>none
  else none
def zld (P:Program) (t:TypeId):Option (List (Option IntKind)) :=
 match P.underlying t with
 | some (.struct fs)=>if P.stoodInHeld t=false/\P.eqGuardType P.depth t=false then ze3 P fs.toList 0 else none
 | some (.array n e)=>if (P.info? e).map (·.size)=some 1/\P.eqGuardType P.depth t=false then (zem P e).map (List.replicate n) else none
 | _=>none
def zcg:Option TypeDesc->Bool
 | some (.slice _)=>true
 | _=>false
def zhe (op:BinOp) (x y:Opd):Option IOp :=
 match op,y with
 | .eql,.c .nil=>some (.isnil false x)
 | .neq,.c .nil=>some (.isnil true x)
 | _,_=>none
def z43:Option TypeDesc->Bool
 | some (.int _)=>true
 | _=>false
def zu1 (P:Program):List Field->Nat->Option (List IntKind)
 | [],_=>some []
 | f::fs,j=>match P.underlying f.type with
  | some (.int q)=>if f.name ≠ "_" /\ f.offset=j/\P.cellsOf f.type=1 then (zu1 P fs (j+1)).map (q :: ·) else none
  | _=>none
def zr1 (P:Program) (kt:TypeId):Option (List IntKind) :=
 match P.underlying kt with
 | some (.array n e)=>match P.underlying e with
  | some (.int q)=>if P.cellsOf kt=n/\P.cellsOf e=1/\0<P.types.size then some (List.replicate n q) else none
  | _=>none
 | some (.struct fs)=>if P.keyTypeAt 2 kt=true/\P.keyType kt=true/\P.tiled 2 kt=true/\P.cellsOf kt=fs.size/\0<P.types.size then zu1 P fs.toList 0 else none
 | _=>none
def zfm (P:Program) (t:TypeId) (m k:Operand) (c:Bool):Option IOp :=
 match P.underlying t with
 | some (.map kt et)=>(zr1 P kt).bind fun qs=>(zag m).bind fun m=>(zag k).bind fun k=>(zd4 P et).map fun z=>if c=true then .mlookc qs z m k else .mlook qs z m k
 | _=>none
def zgs (fn:Fn) (first caps:Array Operand):Option IOp :=
 match fn with
 | .func f=>if first.size=0 then (za0 caps.toList).map fun l=>.mkfn f l else none
 | _=>none
def zt3:Option Operand->Option (Option Opd)
 | none=>some none
 | some x=>(zag x).map some
def ze5 (P:Program) (t:TypeId) (x:Operand) (lo hi mx:Option Operand):Option IOp :=
 match mx with
 | some _=>none
 | none=>match P.underlying t with
  | some (.slice e)=>if (P.info? e).isSome=true then (zag x).bind fun x=>(zt3 lo).bind fun lo=>(zt3 hi).map fun hi=>.slice (tsz P e) x lo hi else none
  | _=>none
def zck (P:Program) (c:Callee) (argTypes:Array TypeId) (as:List Opd):Option IOp :=
 match c with
 | .value f=>match zag f with
  | some (.c (.p (.fn g [])))=>some (.call g as)
  | some f=>some (.callv f as)
  | none=>none
 | .invoke _ _=>none
 | .builtin b=>match b with
  | .len=>match as with
   | [x]=>if zcg (argTypes[0]?.bind P.underlying)=true then some (.len x) else none
   | _=>none
  | .append=>match as,argTypes[0]?,argTypes[1]? with
   | [a,x],some t,some u=>match P.underlying t with
    | some (.slice e)=>if zcg (P.underlying u)=true/\(zd4 P e).map AV.sz=some (tsz P e)/\P.bytesOf e<=65536 then some (.append (tsz P e) a x)
     else if z43 (P.underlying u)=true/\(zd4 P e).map AV.sz=some (tsz P e)/\P.bytesOf e<=65536 then (zd4 P e).map fun z=>.appendz (tsz P e) z a x else none
    | _=>none
   | _,_,_=>none
  | .cap=>match as with
   | [x]=>if zcg (argTypes[0]?.bind P.underlying)=true then some (.cap x) else none
   | _=>none
  | .clear=>match as,argTypes[0]? with
   | [x],some t=>match P.underlying t with
    | some (.slice e)=>(zd4 P e).map fun z=>.clear (tsz P e) z x
    | _=>none
   | _,_=>none
  | .copy=>match as,argTypes[0]? with
   | [a,x],some t=>match P.underlying t with
    | some (.slice e)=>if (zd4 P e).isSome=true then some (.copy (tsz P e) a x) else none
    | _=>none
   | _,_=>none
  | .min=>some (.min as)
  | .max=>some (.max as)
  | _=>none
def z2l (P:Program) (c:Call):Option IOp:=(za0 c.args.toList).bind fun as=>zck P c.callee c.argTypes as
def zbv (P:Program) (op:Op):Option IOp :=
 match op with
 | .move x | .assign x=>(zag x).map .mv
 | .pick c a b=>(zag c).bind fun c=>(zag a).bind fun a=>(zag b).map fun b=>.pick c a b
 | .alloc e=>(zd4 P e).map fun z=>.alloc (tsz P e) z
 | .box e x=>(zag x).map fun x=>.box (tsz P e) x
 | .build t parts=>match P.underlying t with
  | some (.struct fs)=>(fs.toList.mapM fun (f:Field)=>(P.info? f.type).map fun i=>(f.offset,i.size)).bind fun pl =>
   (zd4 P t).bind fun z=>if 0<z.sz then (zdg pl parts.toList).map fun l=>.build z.cells l else none
  | some (.array n e)=>(P.info? e).bind fun ie=>(zd4 P t).bind fun z=>if 0<z.sz then
   (zdg ((List.range n).map fun i=>(i*ie.size,ie.size)) parts.toList).map fun l=>.build z.cells l else none
  | _=>none
 | .buildSlice t n parts=>match P.underlying t with
  | some (.slice e)=>(zd4 P e).bind fun z=>(ze6 parts.toList).map fun l=>.bslice (tsz P e) z n l
  | _=>none
 | .load t a=>(zag a).bind fun a=>if tok P t (tsz P t) (tagg P t) then some (.load (tsz P t) (tagg P t) a) else none
 | .store t a x=>(zag a).bind fun a=>(zag x).bind fun x=>if (P.info? t).isSome=true then some (.store (tsz P t) a x) else none
 | .nilCheck x=>(zag x).map .nilck
 | .binOp op t x y _=>(zag x).bind fun x=>(zag y).bind fun y=>match P.underlying t with
  | some (.int _)=>some (.ibin op x y)
  | some .bool=>some (.bbin op x y)
  | some (.slice _)=>zhe op x y
  | _=>(zld P t).map fun ks=>.abin ks op x y
 | .unOp op _ x=>(zag x).bind fun x=>match op with
  | .not=>some (.not x)
  | .neg=>some (.neg x)
  | .xor=>some (.ixor x)
  | _=>none
 | .convert src dst x=>(zag x).bind fun x=>match P.underlying src,P.underlying dst with
  | some _,some (.int k)=>some (.conv k x)
  | _,_=>none
 | .makeFunc fn first caps=>zgs fn first caps
 | .makeSlice t l c=>match P.underlying t with
  | some (.slice e)=>(zag l).bind fun l=>(zag c).bind fun c=>(zd4 P e).bind fun z=>if P.bytesOf e<=65536 then some (.mkslice (tsz P e) z l c) else none
  | _=>none
 | .slice t x lo hi mx=>ze5 P t x lo hi mx
 | .fieldAddr s x f=>match P.underlying s with
  | some (.struct fs)=>match fs[f]? with
   | some fd=>if 0<tsz P fd.type then (zag x).map fun x=>.faddr fd.offset x else none
   | none=>none
  | _=>none
 | .field s x f=>match P.underlying s with
  | some (.struct fs)=>match fs[f]? with
   | some fd=>if tok P fd.type (tsz P fd.type) (tagg P fd.type) then (zag x).map fun x=>.field fd.offset (tsz P fd.type) (tagg P fd.type) x else none
   | none=>none
  | _=>none
 | .indexAddr t x i=>match P.underlying t with
  | some (.slice e)=>if (P.info? e).isSome then (zag x).bind fun x=>(zag i).map fun i=>.iaddr (tsz P e) x i else none
  | some (.array n e)=>if (P.info? e).isSome then (zag x).bind fun x=>(zag i).map fun i=>.iaddrA n (tsz P e) x i else none
  | _=>none
 | .index t x i=>match P.underlying t with
  | some (.array n e)=>if tok P e (tsz P e) (tagg P e) then (zag x).bind fun x=>(zag i).map fun i=>.idx n (tsz P e) (tagg P e) x i else none
  | some .string=>(zag x).bind fun x=>(zag i).map fun i=>.sidx x i
  | _=>none
 | .extract x i=>(zag x).map fun x=>.extract x i
 | .call c=>z2l P c
 | .lookup t m k c=>zfm P t m k c
 | .makeMap .. | .mapUpdate .. | .range .. | .next .. | .entry .. => some (.raw op)
 | .makeInterface .. | .panic .. => some .bad
 | _=>none
section
variable {P:Program} {K:Ctx} {Z:Cz} {st st':St} {w:World} {a:Act} {orc:Option PCall} {d:Nat} {v:AV}
theorem zpo {x:Value} {v:AV} (h:zs1 x=some v):ARep Z st v x/\v.one=true:=by
 unfold zs1 at h
 split at h<;>first|(cases h; exact ⟨.p _ _ (.any _ rfl),rfl⟩)|(cases h; exact ⟨.p _ _ (by constructor),rfl⟩)|(cases h; exact ⟨.nil,rfl⟩)|cases h
theorem zpn:∀ {xs:List Value} {vs:List AV},zmk xs=some vs->AReps Z st vs xs/\∀ c∈vs,c.one=true
 | [],vs,h=>by simp [zmk] at h; subst h; exact ⟨.nil,by simp⟩
 | x::xs,vs,h=>by
  simp only [zmk] at h
  split at h
  ·rename_i a b ha hb
   cases h
   obtain ⟨h1,h2⟩:=zpo (Z:=Z) (st:=st) ha
   obtain ⟨h3,h4⟩:=zpn hb
   exact ⟨.cons _ _ _ _ h1 h3,by simpa using ⟨h2,h4⟩⟩
  ·cases h
theorem zs0 {x:Value} {v:AV} (h:zxm x=some v):ARep Z st v x:=by
 unfold zxm at h
 split at h
 ·rename_i cs
  cases hv:zmk cs.toList with
  | none=>simp [hv] at h
  | some vs =>
   simp only [hv,Option.map_some,Option.some.injEq] at h
   subst h
   obtain ⟨h1,h2⟩:=zpn (Z:=Z) (st:=st) hv
   simpa using ARep.mkAgg h2 h1
 ·exact (zpo h).1
theorem zc3 {t:TypeId} {z:AV} (h:zd4 P t=some z):∃ i x,P.info? t=some i/\i.zero=some x/\∀ (Z:Cz) (st:St),ARep Z st z x:=by
 unfold zd4 at h
 cases hi:P.info? t with
 | none=>simp [hi] at h
 | some i =>
  cases hz:i.zero with
  | none=>simp [hi,hz] at h
  | some x=>simp [hi,hz] at h; exact ⟨i,x,rfl,hz,fun Z st=>zs0 h⟩
theorem zap {x:Operand} {y:Opd} (h:zag x=some y) (hs:StRep K Z st w a):ARep Z st (st.ev y) (a.eval x):=by
 cases x with
 | tmp t=>simp only [zag,Option.some.injEq] at h; subst h; exact hs.slots t
 | const v =>
  simp only [zag] at h
  cases hv:zxm v with
  | none=>simp [hv] at h
  | some u=>simp [hv] at h; subst h; exact zs0 hv
 | global g=>simp [zag] at h
 | func f=>simp only [zag,Option.some.injEq] at h; subst h; exact .p _ _ (.fn f [] [] .nil)
theorem zih:∀ {xs:List Operand} {ys:List Opd},za0 xs=some ys->StRep K Z st w a->AReps Z st (ys.map st.ev) (xs.map a.eval)
 | [],ys,h,_=>by simp [za0] at h; subst h; exact .nil
 | x::xs,ys,h,hs=>by
  simp only [za0] at h
  split at h
  ·rename_i y l hy hl
   cases h
   exact .cons _ _ _ _ (zap hy hs) (zih hl hs)
  ·cases h
theorem zfk {e:AV} {xs:List Value} {sz:Nat} {ag:Bool} (hs:e.sz=sz) (ha:ag=true->1<sz) (hn:ag=false->sz=1) (h1:∀ c∈e.cells,c.one=true) (h:AReps Z st e.cells xs) :
  (ag=true->ARep Z st e (.agg xs.toArray))/\(ag=false->∃ x,xs=[x]/\ARep Z st e x):=by
 refine ⟨fun hg=>?_,fun hg=>?_⟩
 ·have:=ha hg
  refine (ARep.of_cells (by omega) h1 h).2 ?_
  cases ho:e.one with
  | false=>rfl
  | true=>have:=(AV.cells_one ho).2; omega
 ·have:=hn hg
  refine (ARep.of_cells (by omega) h1 h).1 ?_
  rcases AV.sz_pos (v:=e) (by omega) with h2|⟨cs,rfl,h2⟩|⟨cs,rfl,h2⟩
  ·exact h2
  ·rw [AV.sz,if_neg (by omega)] at hs; omega
  ·rw [AV.sz,PV.sz,if_neg (by omega)] at hs; omega
theorem zci (t:TypeId) (ad:Addr):(Instr.loadAt t (.pointer (some ad))).run P w=(loadVar t ad).run P w:=by
 simp [Instr.loadAt,Instr.sureAddr]
theorem zq2 (t:TypeId) (ad:Addr) (x:Value):(Instr.storeAt t (.pointer (some ad)) x).run P w=(storeVar t ad x).run P w:=by
 simp [Instr.storeAt,Instr.sureAddr]
theorem zax {s g:Nat} {o:AObj} (h:st.obj s g=some o) (h':st.obj s g=none):False:=by rw [h] at h'; cases h'
theorem zed {s g ix off:Nat} {o:AObj} {x:Value} (h:ARep Z st (.ptr s g ix off) x) (ho:st.obj s g=some o):∃ b,Z.B s g=some b/\x=.pointer (some ⟨b,ix*o.sz+off,none⟩):=by
 cases h with
 | ptr _ _ _ _ o' b h1 h2=>rw [ho] at h1; cases h1; exact ⟨b,h2,rfl⟩
 | ptrD _ _ _ _ _ _ h2=>exact (zax ho h2).elim
theorem z14 {t:TypeId} {x:Operand} {y:Opd} (hx:zag x=some y) (ht:tok P t (tsz P t) (tagg P t)=true) (hs:StRep K Z st w a)
  (he:eff orc st d (.load (tsz P t) (tagg P t) y)=some (v,st')) :
  Good P K Z st ((do pure (Next.value (<- Instr.loadAt t (a.eval x))):Sem Next).run P w) v st':=by
 have hr:=zap hx hs
 obtain ⟨_,_,_,_,_,_,hag,hna⟩:=zhk ht
 generalize hsz:tsz P t=sz at *
 generalize hga:tagg P t=ag at *
 generalize a.eval x=X at hr ⊢
 simp only [eff] at he
 split at he
 ·rename_i s g ix off hev
  rw [hev] at hr
  split at he
  ·rename_i o ho
   obtain ⟨b,hb,hxe⟩:=zed hr ho
   have hO:=hs.heap.objs s g o ho
   obtain ⟨cur,T,vals,k1,k2,k3,k4,k5,k6⟩:=hO.blk b hb
   split at he
   ·rename_i e hix
    have hes:∀ e∈o.es,(AV.cells e).length=o.sz:=fun e he=>by rw [AV.cells_len (by rw [hO.els e he]; exact hO.pos),hO.els e he]
    have hseg:=zhy AV.cells o.sz o.es ix e hes hix
    have hlt:=zrp AV.cells o.sz o.es ix e hes hix
    have hem:e∈o.es:=List.mem_of_getElem? hix
    have hone:∀ c∈e.cells,c.one=true:=fun c hc=>hO.one c (List.mem_flatMap.2 ⟨e,hem,hc⟩)
    have hk3:∀ (i:Nat) (v:Value),vals[i]?=some v->cur[0+i]?=some v:=by simpa using k3
    split at he
    ·rename_i hc
     obtain ⟨rfl,rfl⟩:=hc
     simp only [Option.some.injEq,Prod.mk.injEq] at he
     obtain ⟨rfl,rfl⟩:=he
     obtain ⟨xs,h1,h2,h3,h4⟩:=zhb (P:=P) (Z:=Z) (st:=st) (k:=ix*o.sz) (o:=0) ht k1 k2 hk3 hlt
     rw [hseg] at h1
     obtain ⟨r1,r2⟩:=zfk (hO.els e hem) hag hna hone h1
     cases ag with
     | true=>have h3:=h3 rfl; rw [hxe]; simp only [Nat.zero_add,Nat.add_zero] at h3 ⊢; simp only [Sem.run_bind,zci,h3,Result.andThen_ok,Sem.run_pure]; exact zba hs.heap (r1 rfl)
     | false =>
      obtain ⟨x1,e1,e2⟩:=h4 rfl
      obtain ⟨x2,e3,e4⟩:=r2 rfl
      rw [e1] at e3; cases e3
      rw [hxe]; simp only [Nat.zero_add,Nat.add_zero] at e2 ⊢; simp only [Sem.run_bind,zci,e2,Result.andThen_ok,Sem.run_pure]; exact zba hs.heap e4
    ·split at he
     ·rename_i u hu
      simp only [Option.some.injEq,Prod.mk.injEq] at he
      obtain ⟨rfl,rfl⟩:=he
      have hel:e.cells.length=o.sz:=hes e hem
      cases ag with
      | true =>
       simp only [AV.seg,if_true] at hu
       split at hu
       ·rename_i hl
        cases hu
        have hk:off+sz<=e.cells.length:=by have:=hl.1; have:=hl.2; simp at *; omega
        obtain ⟨xs,h1,h2,h3,h4⟩:=zhb (P:=P) (Z:=Z) (st:=st) (k:=ix*o.sz+off) (o:=0) ht k1 k2 hk3 (by omega)
        have e1:((o.es.flatMap AV.cells).drop (ix*o.sz+off)).take sz=(e.cells.drop off).take sz:=by
         rw [<- hseg,List.drop_take,List.drop_drop,List.take_take]
         congr 1; omega
        rw [e1] at h1
        have h3:=h3 rfl
        rw [hxe]; simp only [Nat.zero_add] at h3
        simp only [Sem.run_bind,zci,h3,Result.andThen_ok,Sem.run_pure]
        exact zba hs.heap (ARep.mkAgg (fun c hc=>hone c (List.mem_of_mem_drop (List.mem_of_mem_take hc))) h1)
       ·cases hu
      | false =>
       have hs1:=hna rfl
       subst hs1
       simp only [AV.seg,if_true,Bool.false_eq_true,if_false] at hu
       have hk:off+1<=e.cells.length:=by
        rcases Nat.lt_or_ge off e.cells.length with hlt|hge
        ·omega
        ·rw [List.drop_of_length_le hge] at hu; simp at hu
       obtain ⟨xs,h1,h2,h3,h4⟩:=zhb (P:=P) (Z:=Z) (st:=st) (k:=ix*o.sz+off) (o:=0) ht k1 k2 hk3 (by omega)
       have e1:((o.es.flatMap AV.cells).drop (ix*o.sz+off)).take 1=(e.cells.drop off).take 1:=by
        rw [<- hseg,List.drop_take,List.drop_drop,List.take_take]
        congr 1; omega
       rw [e1] at h1
       obtain ⟨x1,e2,e3⟩:=h4 rfl
       subst e2
       rw [hxe]; simp only [Nat.zero_add] at e3
       simp only [Sem.run_bind,zci,e3,Result.andThen_ok,Sem.run_pure]
       refine zba hs.heap ?_
       cases h1':(e.cells.drop off).take 1 with
       | nil=>rw [h1'] at hu; simp at hu
       | cons c r =>
        rw [h1'] at hu h1
        simp at hu; subst hu
        cases h1 with|cons _ _ _ _ hx _=>exact hx
     ·cases he
   ·cases he
  ·cases he
 ·rename_i pv vsz off hev
  rw [hev] at hr
  cases hr with
  | cp _ _ _ b o cur T fr vals m0 m1 m2 m3 m4 m5 =>
   have hm:=hs.heap.mem b _ m0
   have hr':AReps Z st (pv.cells.map .p) vals:=AReps.of_p m4
   have hlen:pv.cells.length=vsz:=by rw [PV.cells_len (by omega)]; exact m2
   split at he
   ·rename_i hc
    obtain ⟨rfl,hszv⟩:=hc
    simp only [Option.some.injEq,Prod.mk.injEq] at he
    obtain ⟨rfl,rfl⟩:=he
    obtain ⟨xs,h1,h2,h3,h4⟩:=zhb (P:=P) (Z:=Z) (st:=st) (k:=0) (o:=o) ht hm hr' m5 (by simp; omega)
    rw [List.drop_zero,List.take_of_length_le (by simp; omega),<- AV.cells_p] at h1
    obtain ⟨r1,r2⟩:=zfk (e:=.p pv) (sz:=sz) (by rw [AV.sz_p,m2,hszv]) hag hna (by rw [AV.cells_p]; intro c hc; simp at hc; obtain ⟨q,hq,rfl⟩:=hc; exact m3 q hq) h1
    cases ag with
    | true=>simp only [Sem.run_bind,zci,h3 rfl,Result.andThen_ok,Sem.run_pure]; exact zba hs.heap (r1 rfl)
    | false =>
     obtain ⟨x1,e1,e2⟩:=h4 rfl
     obtain ⟨x2,e3,e4⟩:=r2 rfl
     rw [e1] at e3; cases e3
     simp only [Sem.run_bind,zci,e2,Result.andThen_ok,Sem.run_pure]; exact zba hs.heap e4
   ·split at he
    ·rename_i u hu
     simp only [Option.some.injEq,Prod.mk.injEq] at he
     obtain ⟨rfl,rfl⟩:=he
     cases ag with
     | true =>
      simp only [PV.seg,if_true] at hu
      split at hu
      ·rename_i hl
       cases hu
       have hk:off+sz<=pv.cells.length:=by have:=hl.1; have:=hl.2; simp at *; omega
       obtain ⟨xs,h1,h2,h3,h4⟩:=zhb (P:=P) (Z:=Z) (st:=st) (k:=off) (o:=o) ht hm hr' m5 (by simpa using hk)
       simp only [Sem.run_bind,zci,h3 rfl,Result.andThen_ok,Sem.run_pure]
       rw [<- List.map_drop,<- List.map_take] at h1
       exact zba hs.heap (.p _ _ (.agg _ _ (fun c hc=>m3 c (List.mem_of_mem_drop (List.mem_of_mem_take hc))) (AReps.to_p h1)))
      ·cases hu
     | false =>
      have hs1:=hna rfl
      subst hs1
      simp only [PV.seg,if_true,Bool.false_eq_true,if_false] at hu
      have hk:off+1<=pv.cells.length:=by
       rcases Nat.lt_or_ge off pv.cells.length with hlt|hge
       ·omega
       ·rw [List.drop_of_length_le hge] at hu; simp at hu
      obtain ⟨xs,h1,h2,h3,h4⟩:=zhb (P:=P) (Z:=Z) (st:=st) (k:=off) (o:=o) ht hm hr' m5 (by simpa using hk)
      obtain ⟨x1,e2,e3⟩:=h4 rfl
      subst e2
      simp only [Sem.run_bind,zci,e3,Result.andThen_ok,Sem.run_pure]
      refine zba hs.heap ?_
      rw [<- List.map_drop,<- List.map_take] at h1
      have h1:=AReps.to_p h1
      cases h1':(pv.cells.drop off).take 1 with
      | nil=>rw [h1'] at hu; simp at hu
      | cons c r =>
       rw [h1'] at hu h1
       simp at hu; subst hu
       cases h1 with|cons _ _ _ _ hx _=>exact .p _ _ hx
    ·cases he
 ·cases he
end
end Go.Ab
