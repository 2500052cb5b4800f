/-
Proofs for the law CountIsFinite, part 3. Conditions: none.
-/
import Derived.Test.YtdkocfjbmbenfaaGreatDoorDP02
set_option maxRecDepth 100000
set_option maxHeartbeats 4000000
set_option linter.all false
namespace Go.Ab
section
variable {P:Program} {K:Ctx} {Z Z':Cz} {st st':St} {w w':World} {a:Act} {orc:Option PCall} {d:Nat} {v:AV}
theorem zwz {l:List Value}:∀ (c i:Nat),i<c*l.length->(List.replicate c l).flatten[i]?=l[i % l.length]?
 | 0,i,h=>by simp at h
 | c+1,i,h=>by
  rw [List.replicate_succ,List.flatten_cons]
  rcases Nat.lt_or_ge i l.length with h1|h1
  ·rw [List.getElem?_append_left h1,Nat.mod_eq_of_lt h1]
  ·rw [List.getElem?_append_right h1,zwz c (i - l.length) (by rw [Nat.succ_mul] at h; omega)]
   congr 1
   exact (Nat.mod_eq_sub_mod h1).symm
theorem z32 {l:List Value} (c:Nat):(List.replicate c l).flatten.length=c*l.length:=by simp
theorem zei (z:Array Value) (c:Nat):(madeCells z (c*z.size)).toList=(List.replicate c z.toList).flatten:=by
 apply List.ext_getElem?
 intro i
 rcases Nat.lt_or_ge i (c*z.size) with h|h
 ·rw [zwz c i (by simpa using h)]
  have hz:0<z.size:=by
   rcases Nat.eq_zero_or_pos z.size with h0|h0
   ·rw [h0] at h; simp at h
   ·exact h0
  have hm:=Nat.mod_lt i hz
  have hi:i<(List.range (c*z.size)).length:=by simpa using h
  simp [madeCells,h,hm]
 ·rw [List.getElem?_eq_none (by simp [size_madeCells]; omega),List.getElem?_eq_none (by rw [z32]; simpa using h)]
theorem zbd (n:Nat) (e:AV):(List.replicate n e).flatMap AV.cells=(List.replicate n e.cells).flatten:=by
 induction n with
 | zero=>rfl
 | succ n ih=>simp only [List.replicate_succ,List.flatMap_cons,List.flatten_cons,ih]
theorem zca {cs:List AV} {xs:List Value} (h:AReps Z st cs xs):∀ n,AReps Z st (List.replicate n cs).flatten (List.replicate n xs).flatten
 | 0=>.nil
 | n+1=>by simp only [List.replicate_succ,List.flatten_cons]; exact h.append (zca h n)
theorem zrt {t e:TypeId} {z:AV} {l c:Operand} {l' c':Opd} (h1:P.underlying t=some (.slice e)) (hz:zd4 P e=some z) (hb:P.bytesOf e<=65536)
  (hl:zag l=some l') (hc:zag c=some c') (hs:StRep K Z st w a) (he:eff orc st d (.mkslice (tsz P e) z l' c')=some (v,st')) :
  Good P K Z st ((do pure (Next.value (<- Instr.makeSlice t (a.eval l) (a.eval c))):Sem Next).run P w) v st':=by
 have hrl:=zap hl hs
 have hrc:=zap hc hs
 obtain ⟨i,zx,hi,hzi,hzr⟩:=zc3 hz
 have hisz:i.size=tsz P e:=by simp [tsz,Program.cellsOf,hi]
 have hib:i.bytes<=65536:=by simpa [Program.bytesOf,hi] using hb
 generalize tsz P e=sz at *
 simp only [eff] at he
 split at he
 ·rename_i n m hn hm
  split at he
  ·rename_i hc
   obtain ⟨hnm,hml,hzs,hp⟩:=hc
   simp only [Option.some.injEq,Prod.mk.injEq] at he
   obtain ⟨rfl,rfl⟩:=he
   obtain ⟨k1,e1⟩:=zbo hn
   obtain ⟨k2,e2⟩:=zbo hm
   rw [e1] at hrl; rw [e2] at hrc
   rw [hrl.inv_int,hrc.inv_int]
   simp only [LIM] at hml
   have hbm:(i.bytes:Int)*(m:Int)<=281474976710656:=by
    have:i.bytes*m<=65536*2147483648:=Nat.mul_le_mul hib hml
    omega
   have hr:=run_make (P:=P) w t e i zx h1 hi hzi k1 k2 (n:Int) (m:Int) (by omega) (by omega) hbm (by omega)
   simp only [Int.toNat_natCast] at hr
   have hz0:=zkg (hzr Z st)
   obtain ⟨y1,y2,y3⟩:=hz0.cells (by rw [zdp]; omega)
   have hzl:zx.cells.size=i.size:=by have:=y1.length; simp at this; rw [this,y2,zdp,hzs,hisz]
   have hmade:madeCells zx.cells (m*i.size)=madeCells zx.cells (m*zx.cells.size):=by rw [hzl]
   have hh:=hs.heap.alloc d ⟨sz,List.replicate n z.pur⟩ (madeCells zx.cells (m*i.size)) e m (List.replicate n zx.cells.toList).flatten hp
    (fun q hq=>by rw [(List.mem_replicate.1 hq).2,zdp,hzs])
    (fun q hq=>by
     rw [zbd] at hq
     obtain ⟨l,h1,h2⟩:=List.mem_flatten.1 hq
     rw [(List.mem_replicate.1 h1).2] at h2
     exact y3 q h2)
    (by rw [zbd]; exact zca y1 n)
    (by
     have hpre:(madeCells zx.cells (m*i.size)).toList=(List.replicate n zx.cells.toList).flatten++(List.replicate (m - n) zx.cells.toList).flatten:=by
      rw [hmade,zei,<- List.flatten_append,List.replicate_append_replicate]
      congr 2; omega
     intro j y hj
     have:=zkp hpre j y hj
     simpa using this)
    (by rw [size_madeCells,hisz]) (by simpa using hnm) (by simp [maxLen]; omega)
   refine zdq hr hh ?_ (ZLe.alloc _ _ _ _ _ _)
   refine .own d _ 0 n ⟨sz,List.replicate n z.pur⟩ w.heap.size _ m (by rw [zam,if_pos ⟨rfl,rfl⟩]) (by simp [Cz.setB]) (fun _=>⟨rfl,by simp [Cz.setB]⟩) (fun _=>by simp) (by simp) hnm
  ·cases he
 ·cases he
theorem zxz {mx:Bool}:∀ {vs:List AV} {xs:List Value} {r:PV},AReps Z st vs xs->zf7 mx vs=some r ->
  ∃ k n,r=.int k n/\((if mx then Builtin.max_ #[] 0 xs.toArray else Builtin.min_ #[] 0 xs.toArray)).run P w=.ok (.int k n) w
 | [],_,_,_,h=>by simp [zf7] at h
 | u::vs,_,r,.cons _ x _ xs hx hs,h=>by
  unfold zf7 at h
  split at h
  ·rename_i k a r' e
   cases e
   rw [hx.inv_int]
   have key:∀ (vs:List AV) (xs:List Value) (a:Int) (r:PV),AReps Z st vs xs ->
     vs.foldlM (fun acc v=>match acc,v with
      | PV.int k a,.p (.int k' b)=>if k=k' then some (PV.int k (if mx then (if b>a then b else a) else (if b<a then b else a))) else none
      | _,_=>none) (PV.int k a)=some r->∃ n,r=.int k n/\(xs.foldlM (if mx then Builtin.max2 else Builtin.min2) (.int k a)).run P w=.ok (.int k n) w:=by
    intro vs
    induction vs with
    | nil=>intro xs a r hr h; cases hr; simp at h; subst h; exact ⟨a,rfl,by simp⟩
    | cons u vs ih =>
     intro xs a r hr h
     cases hr with
     | cons _ y _ ys hy hys =>
      simp only [List.foldlM_cons,Option.bind_eq_bind] at h
      split at h
      ·rename_i k1 a1 k' b e1
       cases e1
       split at h
       ·rename_i hk
        subst hk
        simp only [Option.bind_some] at h
        obtain ⟨n,hn,hrun⟩:=ih ys _ r hys h
        refine ⟨n,hn,?_⟩
        rw [hy.inv_int]
        cases mx<;>simp_all [Builtin.max2,Builtin.min2]
       ·simp at h
      ·simp at h
   obtain ⟨n,hn,hrun⟩:=key vs xs a r hs h
   refine ⟨k,n,hn,?_⟩
   cases mx<;>simp_all [Builtin.max_,Builtin.min_]
  ·cases h
theorem zm3 {mx:Bool} {args:Array TypeId} {ty:TypeId} {xs:Array Operand} {ys:List Opd} (hx:za0 xs.toList=some ys) (hs:StRep K Z st w a) {r:PV}
  (he:zf7 mx (ys.map st.ev)=some r) :
  Good P K Z st ((do pure (Next.value (<- (if mx then Builtin.max_ args ty (xs.map a.eval) else Builtin.min_ args ty (xs.map a.eval)))):Sem Next).run P w) (.p r) st:=by
 have hr:=zih hx hs
 obtain ⟨k,n,rfl,hrun⟩:=zxz (P:=P) (w:=w) hr he
 refine zaq ?_ hs (.p _ _ (.int k n))
 rw [<- hrun]
 have e:(List.map a.eval xs.toList).toArray=xs.map a.eval:=by simp [<- Array.toList_map]
 rw [e]
 cases mx<;>rfl
theorem zle (off:Nat):∀ (vs:List Value) (j:Nat) (cells:Array Value),off+j+vs.length<=cells.size ->
  ((vs.zipIdx j).foldl (fun cs (c,j)=>cs.setIfInBounds (off+j) c) cells).toList=cells.toList.take (off+j)++vs++cells.toList.drop (off+j+vs.length)
 | [],j,cells,_=>by simp
 | v::vs,j,cells,h=>by
  simp only [List.zipIdx_cons,List.foldl_cons]
  simp at h
  rw [zle off vs (j+1) _ (by simp; omega)]
  have e:=list_seg_step cells.toList (off+j) v vs (by simp; omega)
  simpa [Array.toList_setIfInBounds,Nat.add_assoc] using e
theorem ztv {place:Nat->Option (Nat × Nat)} {cells:Array Value} {i off sz:Nat} {x:Value} {r:List (Nat × Value)} (hp:place i=some (off,sz)) (hx:x.cells.size=sz) (hl:off+sz<=cells.size) :
  ∃ cs:Array Value,cs.toList=cells.toList.take off++x.cells.toList++cells.toList.drop (off+sz)/\Instr.fill place cells ((i,x)::r)=Instr.fill place cs r:=by
 refine ⟨x.cells.zipIdx.foldl (fun cs (c,j)=>cs.setIfInBounds (off+j) c) cells,?_,?_⟩
 ·rw [<- Array.foldl_toList,Array.toList_zipIdx]
  have:=zle off x.cells.toList 0 cells (by simp; omega)
  simpa [hx] using this
 ·simp only [Instr.fill,hp]
  rw [if_neg (by simp [hx]; omega)]
theorem zgf {pl:List (Nat × Nat)} {place:Nat->Option (Nat × Nat)} (hpp:∀ i x,pl[i]?=some x->place i=some x):∀ {parts:List (Nat × Operand)} {l:List (Nat × Nat × Opd)} {zero cs:List AV} {cells:Array Value},zdg pl parts=some l->StRep K Z st w a ->
  AReps Z st zero cells.toList->(∀ c∈zero,c.one=true)->zcq zero (l.map fun (o,s,x)=>(o,s,st.ev x))=some cs ->
  ∃ cells':Array Value,Instr.fill place cells (parts.map fun (i,x)=>(i,a.eval x))=some cells'/\AReps Z st cs cells'.toList/\∀ c∈cs,c.one=true
 | [],l,zero,cs,cells,h,hs,hz,h1,hf=>by
  simp [zdg] at h; subst h
  simp [zcq] at hf; subst hf
  exact ⟨cells,by simp [Instr.fill],hz,h1⟩
 | (i,x)::parts,l,zero,cs,cells,h,hs,hz,h1,hf=>by
  simp only [zdg] at h
  split at h
  ·rename_i o s y l' hp hy hl'
   cases h
   simp only [List.map_cons,zcq] at hf
   split at hf
   ·rename_i hc
    obtain ⟨hsz,hs0,hle⟩:=hc
    have hr:=zap hy hs
    obtain ⟨y1,y2,y3⟩:=hr.cells (by omega)
    have hzl:=hz.length
    have hxl:=y1.length
    simp at hzl hxl
    obtain ⟨cs1,e1,e2⟩:=ztv (place:=place) (cells:=cells) (i:=i) (off:=o) (sz:=s) (x:=a.eval x) (r:=parts.map fun (i,x)=>(i,a.eval x)) (hpp _ _ hp) (by omega) (by omega)
    have hz':AReps Z st (zero.take o++(st.ev y).cells++zero.drop (o+s)) cs1.toList:=by rw [e1]; exact ((hz.take o).append y1).append (hz.drop (o+s))
    obtain ⟨cells',f1,f2,f3⟩:=zgf hpp hl' hs hz' (fun c hc=>by
     rcases List.mem_append.1 hc with h|h
     ·rcases List.mem_append.1 h with h|h
      ·exact h1 c (List.mem_of_mem_take h)
      ·exact y3 c h
     ·exact h1 c (List.mem_of_mem_drop h)) hf
    exact ⟨cells',by rw [List.map_cons,e2,f1],f2,f3⟩
   ·cases hf
  ·cases h
theorem zza {t:TypeId} {fs:Array Field} {parts:Array (Nat × Operand)} {pl:List (Nat × Nat)} {z:AV} {l:List (Nat × Nat × Opd)} (h1:P.underlying t=some (.struct fs))
  (hpl:(fs.toList.mapM fun (f:Field)=>(P.info? f.type).map fun i=>(f.offset,i.size))=some pl) (hz:zd4 P t=some z) (hzs:0<z.sz) (hl:zdg pl parts.toList=some l) (hs:StRep K Z st w a)
  (he:eff orc st d (.build z.cells l)=some (v,st')) :
  Good P K Z st ((do pure (Next.value (<- Instr.build t (parts.map fun (i,x)=>(i,a.eval x)))):Sem Next).run P w) v st':=by
 obtain ⟨i,zx,hi,hzi,hzr⟩:=zc3 hz
 simp only [eff] at he
 split at he
 ·rename_i cs hf
  simp only [Option.some.injEq,Prod.mk.injEq] at he
  obtain ⟨rfl,rfl⟩:=he
  obtain ⟨y1,y2,y3⟩:=(hzr Z st).cells hzs
  obtain ⟨cells',f1,f2,f3⟩:=zgf (place:=(pl.toArray[·]?)) (fun i x h=>by simpa using h) (cells:=zx.cells) hl hs y1 y3 hf
  have hb:P.built t (parts.map fun (i,x)=>(i,a.eval x)).toList=some cells':=by
   unfold Program.built
   simp only [hi,h1,hzi]
   have:(fs.toList.mapM fun f=>(P.info? f.type).map fun i=>(f.offset,i.size))=some pl:=hpl
   rw [this,Array.toList_map]
   exact f1
  exact zaq (run_build w t _ cells' hb) hs (by simpa using ARep.mkAgg f3 f2)
 ·cases he
theorem zvc {t:TypeId} {n:Nat} {e:TypeId} {parts:Array (Nat × Operand)} {ie:TypeInfo} {z:AV} {l:List (Nat × Nat × Opd)} (h1:P.underlying t=some (.array n e))
  (hpl:P.info? e=some ie) (hz:zd4 P t=some z) (hzs:0<z.sz) (hl:zdg ((List.range n).map fun i=>(i*ie.size,ie.size)) parts.toList=some l) (hs:StRep K Z st w a)
  (he:eff orc st d (.build z.cells l)=some (v,st')) :
  Good P K Z st ((do pure (Next.value (<- Instr.build t (parts.map fun (i,x)=>(i,a.eval x)))):Sem Next).run P w) v st':=by
 obtain ⟨i,zx,hi,hzi,hzr⟩:=zc3 hz
 simp only [eff] at he
 split at he
 ·rename_i cs hf
  simp only [Option.some.injEq,Prod.mk.injEq] at he
  obtain ⟨rfl,rfl⟩:=he
  obtain ⟨y1,y2,y3⟩:=(hzr Z st).cells hzs
  obtain ⟨cells',f1,f2,f3⟩:=zgf (place:=fun i=>some (i*ie.size,ie.size)) (fun i x h=>by
   simp only [List.getElem?_map,Option.map_eq_some_iff] at h
   obtain ⟨j,hj,rfl⟩:=h
   have:=List.getElem?_eq_some_iff.1 hj
   obtain ⟨_,hj⟩:=this
   simp at hj
   simp [hj]) (cells:=zx.cells) hl hs y1 y3 hf
  have hb:P.built t (parts.map fun (i,x)=>(i,a.eval x)).toList=some cells':=by
   unfold Program.built
   simp only [hi,h1,hzi,hpl]
   rw [Array.toList_map]
   exact f1
  exact zaq (run_build w t _ cells' hb) hs (by simpa using ARep.mkAgg f3 f2)
 ·cases he
theorem zjb {sz:Nat} (hp:0<sz):∀ {parts:List (Nat × Operand)} {l:List (Nat × Opd)} {es es':List AV} {cells:Array Value},ze6 parts=some l->StRep K Z st w a ->
  AReps Z st (es.flatMap AV.cells) cells.toList->(∀ e∈es,e.sz=sz)->(∀ c∈es.flatMap AV.cells,c.one=true)->zcr es sz (l.map fun (i,x)=>(i,(st.ev x).pur))=some es' ->
  ∃ cells':Array Value,Instr.fill (fun i=>some (i*sz,sz)) cells (parts.map fun (i,x)=>(i,a.eval x))=some cells'/\AReps Z st (es'.flatMap AV.cells) cells'.toList/\(∀ e∈es',e.sz=sz) /\
   (∀ c∈es'.flatMap AV.cells,c.one=true)/\es'.length=es.length
 | [],l,es,es',cells,h,hs,hz,h2,h1,hf=>by
  simp [ze6] at h; subst h
  simp [zcr] at hf; subst hf
  exact ⟨cells,by simp [Instr.fill],hz,h2,h1,rfl⟩
 | (i,x)::parts,l,es,es',cells,h,hs,hz,h2,h1,hf=>by
  simp only [ze6] at h
  split at h
  ·rename_i y l' hy hl'
   cases h
   simp only [List.map_cons,zcr] at hf
   split at hf
   ·rename_i hc
    obtain ⟨hsz,hlt⟩:=hc
    have hr:=zkg (zap hy hs)
    obtain ⟨y1,y2,y3⟩:=hr.cells (by omega)
    have hcl:∀ e∈es,(AV.cells e).length=sz:=fun e he=>by rw [AV.cells_len (by rw [h2 e he]; exact hp),h2 e he]
    have hzl:=hz.length
    have hxl:=y1.length
    rw [zb7 AV.cells sz es hcl] at hzl
    simp at hzl hxl
    have hle:i*sz+sz<=es.length*sz:=by rw [<- Nat.succ_mul]; exact Nat.mul_le_mul_right _ hlt
    obtain ⟨cs1,e1,e2⟩:=ztv (place:=fun i=>some (i*sz,sz)) (cells:=cells) (i:=i) (off:=i*sz) (sz:=sz) (x:=a.eval x) (r:=parts.map fun (i,x)=>(i,a.eval x)) rfl (by omega) (by omega)
    have hfl:=zoi AV.cells sz es i (st.ev y).pur hcl hlt
    have hz':AReps Z st ((es.set i (st.ev y).pur).flatMap AV.cells) cs1.toList:=by rw [e1,hfl]; exact ((hz.take _).append y1).append (hz.drop _)
    obtain ⟨cells',f1,f2,f3,f4,f5⟩:=zjb hp hl' hs hz' (fun q hq=>by
      rcases List.mem_or_eq_of_mem_set hq with h|h
      ·exact h2 q h
      ·rw [h]; exact hsz)
     (fun c hc=>by
      rw [hfl] at hc
      rcases List.mem_append.1 hc with h|h
      ·rcases List.mem_append.1 h with h|h
       ·exact h1 c (List.mem_of_mem_take h)
       ·exact y3 c h
      ·exact h1 c (List.mem_of_mem_drop h)) hf
    exact ⟨cells',by rw [List.map_cons,e2,f1],f2,f3,f4,by simpa using f5⟩
   ·cases hf
  ·cases h
theorem zvd {t e:TypeId} {n:Nat} {parts:Array (Nat × Operand)} {z:AV} {l:List (Nat × Opd)} (h1:P.underlying t=some (.slice e)) (hz:zd4 P e=some z) (hl:ze6 parts.toList=some l) (hs:StRep K Z st w a)
  (he:eff orc st d (.bslice (tsz P e) z n l)=some (v,st')) :
  Good P K Z st ((do pure (Next.value (<- Instr.buildSlice t n (parts.map fun (i,x)=>(i,a.eval x)))):Sem Next).run P w) v st':=by
 obtain ⟨i,zx,hi,hzi,hzr⟩:=zc3 hz
 have hisz:i.size=tsz P e:=by simp [tsz,Program.cellsOf,hi]
 generalize tsz P e=sz at *
 simp only [eff] at he
 split at he
 ·rename_i hc
  obtain ⟨hzs,hp,hle⟩:=hc
  split at he
  ·rename_i es hf
   simp only [Option.some.injEq,Prod.mk.injEq] at he
   obtain ⟨rfl,rfl⟩:=he
   have hz0:=zkg (hzr Z st)
   obtain ⟨y1,y2,y3⟩:=hz0.cells (by rw [zdp]; omega)
   have hzl:zx.cells.size=i.size:=by have:=y1.length; simp at this; rw [this,y2,zdp,hzs,hisz]
   have hmade:madeCells zx.cells (n*i.size)=madeCells zx.cells (n*zx.cells.size):=by rw [hzl]
   have hinit:AReps Z st ((List.replicate n z.pur).flatMap AV.cells) (madeCells zx.cells (n*i.size)).toList:=by
    rw [hmade,zei,zbd]; exact zca y1 n
   obtain ⟨cells',f1,f2,f3,f4,f5⟩:=zjb hp hl hs hinit (fun q hq=>by rw [(List.mem_replicate.1 hq).2,zdp,hzs])
    (fun q hq=>by
     rw [zbd] at hq
     obtain ⟨l,h1,h2⟩:=List.mem_flatten.1 hq
     rw [(List.mem_replicate.1 h1).2] at h2
     exact y3 q h2) hf
   have hsz:cells'.size=n*sz:=by
    have h1:=f2.length
    rw [zb7 AV.cells sz es (fun e he=>by rw [AV.cells_len (by rw [f3 e he]; exact hp),f3 e he])] at h1
    simp at f5
    rw [f5] at h1
    simpa using h1
   have hel:es.length=n:=by simpa using f5
   have hh:=hs.heap.alloc d ⟨sz,es⟩ cells' e n cells'.toList hp f3 f4 f2 (by simp) hsz (by simp [hel])
    (by simp [maxLen]; have:n<=n*sz:=Nat.le_mul_of_pos_right n hp; omega)
   have hrun:(Instr.buildSlice t n (parts.map fun (i,x)=>(i,a.eval x))).run P w=.ok (.slice (some ⟨w.heap.size,0,none⟩) n n) (w.alloc (.cells cells' e)):=by
    have f1':Instr.fill (fun i_1=>some (i_1*i.size,i.size)) (madeCells zx.cells (n*i.size)) (parts.map fun (i,x)=>(i,a.eval x)).toList=some cells':=by
     rw [Array.toList_map,hisz]; rw [hisz] at f1; exact f1
    have hng:¬ (16777216<n*i.size):=by rw [hisz]; omega
    by_cases h0:n*i.size=0
    ·rw [h0] at f1'
     have e0:(madeCells zx.cells 0) = #[]:=by simp [madeCells]
     rw [e0] at f1'
     have f2':Instr.fill (fun i_1=>some (i_1*i.size,i.size)) #[] (List.map (fun x=>(x.fst,a.eval x.snd)) parts.toList)=some cells':=by
      rw [Array.toList_map] at f1'; exact f1'
     have er:Array.map (fun (_:Nat)=>(default:Value)) (Array.range 0) = #[]:=by simp
     simp [Instr.buildSlice,run_underlying h1,sizeOf,typeInfo,hi,h0,newRow,er,f2']
    ·simp only [madeCells] at f1'
     simp only [Instr.buildSlice,run_underlying h1,sizeOf,typeInfo,zeroValue,hi,hzi,h0,hng,newRow,Sem.run_bind,Result.andThen_ok,run_program,Sem.run_pure,if_false,Nat.reducePow,gt_iff_lt,f1',run_newObj]
     simp
   refine zdq hrun hh ?_ (ZLe.alloc _ _ _ _ _ _)
   exact .own d _ 0 n ⟨sz,es⟩ w.heap.size _ n (by rw [zam,if_pos ⟨rfl,rfl⟩]) (by simp [Cz.setB]) (fun _=>⟨rfl,by simp [Cz.setB]⟩) (fun _=>by simp) (by simp [hel]) (Nat.le_refl _)
  ·cases he
 ·cases he
theorem zh2 {op:BinOp} {t:TypeId} {x y:Operand} {ad ad':Option Addr} {n c n' c':Nat}:eqGuard op t x y (.slice ad n c) (.slice ad' n' c')=pure ():=by cases op<;>rfl
theorem zy5 {op:BinOp} {t e:TypeId} {x y:Operand} {x' y':Opd} {o:IOp} (ht:P.underlying t=some (.slice e)) (hx:zag x=some x') (hy:zag y=some y') (hc:zhe op x' y'=some o) (hs:StRep K Z st w a)
  (he:eff orc st d o=some (v,st')) :
  Good P K Z st ((do pure (Next.value (<- (do eqGuard op t x y (a.eval x) (a.eval y); binOp op t (a.eval x) (a.eval y)))):Sem Next).run P w) v st':=by
 have hr:=zap hx hs
 have hr2:=zap hy hs
 obtain ⟨neg,rfl,rfl,hop⟩:∃ neg,y'=.c .nil/\o=.isnil neg x'/\((op=.eql/\neg=false)\/(op=.neq/\neg=true)):=by
  unfold zhe at hc
  split at hc
  ·cases hc; exact ⟨_,rfl,rfl,.inl ⟨rfl,rfl⟩⟩
  ·cases hc; exact ⟨_,rfl,rfl,.inr ⟨rfl,rfl⟩⟩
  ·cases hc
 have hY:a.eval y=.slice none 0 0:=by
  simp only [St.ev] at hr2
  generalize a.eval y=Y at hr2
  cases hr2; rfl
 rw [hY]
 have key:∀ (ad:Option Addr) (n c:Nat),(Op.equal t (.slice ad n c) (.slice none 0 0)).run P w=.ok ad.isNone w:=by
  intro ad n c
  unfold Op.equal Op.maxDepth
  rw [Op.equalIn.eq_def]
  cases ad<;>simp [run_underlying ht]
 have fin:∀ (ad:Option Addr) (n c:Nat),a.eval x=.slice ad n c ->
   Good P K Z st ((do pure (Next.value (<- (do eqGuard op t x y (a.eval x) (.slice none 0 0); binOp op t (a.eval x) (.slice none 0 0)))):Sem Next).run P w) (.p (.bool (if neg then !ad.isNone else ad.isNone))) st:=by
  intro ad n c hX
  rw [hX]
  have hb:(do eqGuard op t x y (.slice ad n c) (.slice none 0 0); binOp op t (.slice ad n c) (.slice none 0 0):Sem Value).run P w=.ok (.bool (if neg then !ad.isNone else ad.isNone)) w:=by
   rcases hop with ⟨rfl,rfl⟩|⟨rfl,rfl⟩
   ·simp [zh2,binOp,key]
   ·simp [zh2,binOp,key]
  exact zaq hb hs (.p _ _ (.bool _))
 simp only [eff] at he
 generalize hXX:a.eval x=X at hr
 split at he
 ·rename_i hev
  rw [hev] at hr
  cases hr
  simp only [Option.some.injEq,Prod.mk.injEq] at he
  obtain ⟨rfl,rfl⟩:=he
  have:=fin none 0 0 hXX
  cases neg<;>simpa [hXX] using this
 ·rename_i hev
  rw [hev] at hr
  cases hr.inv_p with
  | nl cap =>
   simp only [Option.some.injEq,Prod.mk.injEq] at he
   obtain ⟨rfl,rfl⟩:=he
   have:=fin none 0 cap hXX
   cases neg<;>simpa [hXX] using this
 ·rename_i hev
  rw [hev] at hr
  cases hr.inv_p with
  | sle ad cap =>
   simp only [Option.some.injEq,Prod.mk.injEq] at he
   obtain ⟨rfl,rfl⟩:=he
   have:=fin (some ad) 0 cap hXX
   cases neg<;>simpa [hXX] using this
 ·rename_i hev
  rw [hev] at hr
  simp only [Option.some.injEq,Prod.mk.injEq] at he
  obtain ⟨rfl,rfl⟩:=he
  cases hr.inv_p with
  | sl _ b o cap cur T fr sz' vals m0 m1 m2 m3 m4 m5 m6 =>
   have:=fin _ _ _ hXX
   cases neg<;>simpa [hXX] using this
 ·rename_i s g off len hev
  rw [hev] at hr
  split at he
  ·rename_i o ho
   split at he
   ·rename_i hl
    simp only [Option.some.injEq,Prod.mk.injEq] at he
    obtain ⟨rfl,rfl⟩:=he
    cases hr with
    | own0=>omega
    | own _ _ _ _ o' b ad c e1 e2 e3 e4 e5 e6 =>
     have:=fin _ _ _ hXX
     cases neg<;>simpa [hXX] using this
    | ownD _ _ _ _ _ _ _ h2=>exact (zax ho h2).elim
   ·cases he
  ·cases he
 ·cases he
theorem z5m {args:Array TypeId} {ty:TypeId} {x:Operand} {y:Opd} (ht:zcg (args[0]?.bind P.underlying)=true) (hx:zag x=some y) (hs:StRep K Z st w a) (he:eff orc st d (.cap y)=some (v,st')) :
  Good P K Z st ((do pure (Next.value (<- Builtin.cap_ args ty #[a.eval x])):Sem Next).run P w) v st':=by
 have hr:=zap hx hs
 obtain ⟨t,e,ht0,htu⟩:∃ t e,args[0]?=some t/\P.underlying t=some (.slice e):=by
  cases h0:args[0]? with
  | none=>simp [h0,zcg] at ht
  | some t =>
   cases hu:P.underlying t with
   | none=>simp [h0,hu,zcg] at ht
   | some d=>cases d<;>simp [h0,hu,zcg] at ht; exact ⟨t,_,rfl,hu⟩
 have hrun:∀ ad n c,(Builtin.cap_ args ty #[.slice ad n c]).run P w=.ok (.int .i64 c) w:=by
  intro ad n c
  simp [Builtin.cap_,ht0,run_underlying htu,goInt]
 generalize a.eval x=X at hr ⊢
 simp only [eff] at he
 split at he
 ·rename_i hev
  rw [hev] at hr
  cases hr
  simp only [Option.some.injEq,Prod.mk.injEq] at he
  obtain ⟨rfl,rfl⟩:=he
  exact zaq (hrun _ _ _) hs (.p _ _ (.int _ _))
 ·cases he
theorem HRep.setSame (h:HRep K Z st w) {s g:Nat} {o:AObj} (ho:st.obj s g=some o):HRep K Z (st.setObj s g o) w/\ZLe Z st Z (st.setObj s g o):=by
 have hz:=ZLe.setObj Z st s g o o ho rfl rfl
 have ob:∀ {s' g':Nat} {o':AObj},(st.setObj s g o).obj s' g'=some o'->st.obj s' g'=some o':=by
  intro s' g' o' hx
  rw [za8 _ _ _ _ _ _ (zbt ho)] at hx
  split at hx
  ·rename_i he; obtain ⟨rfl,rfl⟩:=he; cases hx; exact ho
  ·exact hx
 exact ⟨⟨fun s' g' o' ho'=>(h.objs s' g' o' (ob ho')).later hz rfl rfl (fun _ _=>rfl),fun _ _ _ _ _ _ b a1 a2=>h.inj _ _ _ _ _ _ b (ob a1) (ob a2),h.mem,fun _ _ _ b a1=>h.sep _ _ _ b (ob a1),fun _ _ _ b a1=>h.own _ _ _ b (ob a1),h.m0,h.prov,h.keep⟩,hz⟩
theorem zy9 {A:Array TypeId} {t ty e:TypeId} {x:Operand} {x':Opd} {z:AV} (hA:A[0]?=some t) (ht:P.underlying t=some (.slice e)) (hz:zd4 P e=some z) (hx:zag x=some x') (hs:StRep K Z st w a)
  (he:eff orc st d (.clear (tsz P e) z x')=some (v,st')) :
  Good P K Z st ((do pure (Next.value (<- Builtin.clear_ A ty #[a.eval x])):Sem Next).run P w) v st':=by
 have hr:=zap hx hs
 obtain ⟨i,zx,hi,hzi,hzr⟩:=zc3 hz
 have hisz:i.size=tsz P e:=by simp [tsz,Program.cellsOf,hi]
 generalize tsz P e=sz at *
 generalize a.eval x=X at hr ⊢
 have hrun0:∀ ad c,(Builtin.clear_ A ty #[.slice ad 0 c]).run P w=.ok (.tuple #[]) w:=by
  intro ad c
  cases ad<;>simp [Builtin.clear_,hA,run_underlying ht]
 simp only [eff] at he
 split at he
 ·rename_i hev
  rw [hev] at hr
  cases hr
  simp only [Option.some.injEq,Prod.mk.injEq] at he
  obtain ⟨rfl,rfl⟩:=he
  exact zaq (hrun0 _ _) hs (.tup _ _ .nil)
 ·rename_i s g off len hev
  rw [hev] at hr
  split at he
  ·rename_i o ho
   split at he
   ·rename_i hc
    obtain ⟨hle,hosz,hzs⟩:=hc
    simp only [Option.some.injEq,Prod.mk.injEq] at he
    obtain ⟨rfl,rfl⟩:=he
    have hO:=hs.heap.objs s g o ho
    have same:∀ es,es=o.es->∀ ad c,X=.slice ad 0 c->Good P K Z st ((do pure (Next.value (<- Builtin.clear_ A ty #[X])):Sem Next).run P w) (.tup []) (st.setObj s g ⟨o.sz,es⟩):=by
     rintro es rfl ad c rfl
     exact zdq (hrun0 ad c) (hs.heap.setSame ho).1 (.tup _ _ .nil) (hs.heap.setSame ho).2
    cases hr with
    | own0 _ _ o' e1 e2=>exact same _ (by simp) _ _ rfl
    | ownD _ _ _ _ _ _ _ h2=>exact (zax ho h2).elim
    | own _ _ _ _ o' b ad c e1 e2 e3 e4 e5 e6 =>
     rw [ho] at e1; cases e1
     rcases Nat.eq_zero_or_pos len with h0|h0
     ·subst h0
      exact same _ (by simp) _ _ rfl
     ·have had:=e4 h0
      subst had
      obtain ⟨cur,T,vals,k1,k2,k3,k4,k5,k6⟩:=hO.blk b e2
      have hz0:=zkg (hzr Z st)
      obtain ⟨y1,y2,y3⟩:=hz0.cells (by rw [zdp,hzs,<- hosz]; exact hO.pos)
      have hzl:zx.cells.size=sz:=by have:=y1.length; simp at this; rw [this,y2,zdp,hzs]
      have hcl:∀ q∈o.es,(AV.cells q).length=o.sz:=fun q hq=>by rw [AV.cells_len (by rw [hO.els q hq]; exact hO.pos),hO.els q hq]
      have hvl:=k2.length
      rw [zb7 AV.cells o.sz o.es hcl] at hvl
      have hzc:(Builtin.zeroCells zx.cells len).toList=(List.replicate len zx.cells.toList).flatten:=zei zx.cells len
      have hzr':AReps Z st ((List.replicate len z.pur).flatMap AV.cells) (Builtin.zeroCells zx.cells len).toList:=by
       rw [hzc,zbd]; exact zca y1 len
      have hzlen:(Builtin.zeroCells zx.cells len).toList.length=len*sz:=by simp [Builtin.zeroCells,hzl]
      have hone:∀ q∈(List.replicate len z.pur).flatMap AV.cells,q.one=true:=fun q hq=>by
       rw [zbd] at hq
       obtain ⟨l,h1,h2⟩:=List.mem_flatten.1 hq
       rw [(List.mem_replicate.1 h1).2] at h2
       exact y3 q h2
      obtain ⟨rest,hrest⟩:=zst k3
      have hcur:cur.size=(vals++rest).length:=by rw [<- hrest]; simp
      have hmul:off*o.sz+len*sz<=vals.length:=by rw [hvl,hosz,<- Nat.add_mul]; exact Nat.mul_le_mul_right _ hle
      have hst:=run_storeCells_at P b (off*o.sz) T (Builtin.zeroCells zx.cells len).toList 0 cur w k1 (by rw [hcur,hzlen]; simp; omega) (zb3 hzr' hone)
      simp only [Nat.add_zero,hzlen] at hst
      have hrun:(Builtin.clear_ A ty #[.slice (some ⟨b,off*o.sz,none⟩) len c]).run P w=.ok (.tuple #[]) (w.setRow b (cur.toList.take (off*o.sz)++(Builtin.zeroCells zx.cells len).toList++cur.toList.drop (off*o.sz+len*sz)).toArray):=by
       obtain ⟨m,rfl⟩:∃ m,len=m+1:=⟨len - 1,by omega⟩
       simp [Builtin.clear_,hA,run_underlying ht,zeroValue,typeInfo,hi,hzi,hst]
      have hnew:cur.toList.take (off*o.sz)++(Builtin.zeroCells zx.cells len).toList++cur.toList.drop (off*o.sz+len*sz)=(vals.take (off*o.sz)++(Builtin.zeroCells zx.cells len).toList++vals.drop (off*o.sz+len*sz))++rest:=by
       rw [hrest,List.take_append_of_le_length (by omega),List.drop_append_of_le_length (by omega)]
       simp [List.append_assoc]
      have hfl:(o.es.take off++List.replicate len z.pur++o.es.drop (off+len)).flatMap AV.cells=(o.es.flatMap AV.cells).take (off*o.sz)++(List.replicate len z.pur).flatMap AV.cells++(o.es.flatMap AV.cells).drop (off*o.sz+len*sz):=by
       have h1:∀ n,(o.es.take n).flatMap AV.cells=(o.es.flatMap AV.cells).take (n*o.sz):=fun n=>zde AV.cells o.sz o.es n hcl
       have h2:∀ n,(o.es.drop n).flatMap AV.cells=(o.es.flatMap AV.cells).drop (n*o.sz):=fun n=>zd7 AV.cells o.sz o.es n hcl
       rw [List.flatMap_append,List.flatMap_append,h1,h2,hosz,Nat.add_mul]
      have hh:=hs.heap.setObj ho e2 (o.es.take off++List.replicate len z.pur++o.es.drop (off+len)) (cur.toList.take (off*o.sz)++(Builtin.zeroCells zx.cells len).toList++cur.toList.drop (off*o.sz+len*sz)).toArray
       (vals.take (off*o.sz)++(Builtin.zeroCells zx.cells len).toList++vals.drop (off*o.sz+len*sz))
       (fun q hq=>by
        rcases List.mem_append.1 hq with h|h
        ·rcases List.mem_append.1 h with h|h
         ·exact hO.els q (List.mem_of_mem_take h)
         ·rw [(List.mem_replicate.1 h).2,zdp,hzs,hosz]
        ·exact hO.els q (List.mem_of_mem_drop h))
       (fun q hq=>by
        rw [hfl] at hq
        rcases List.mem_append.1 hq with h|h
        ·rcases List.mem_append.1 h with h|h
         ·exact hO.one q (List.mem_of_mem_take h)
         ·exact hone q h
        ·exact hO.one q (List.mem_of_mem_drop h))
       (by simp; omega)
       (by rw [hfl]; exact ((k2.take _).append hzr').append (k2.drop _))
       (zkp hnew)
       (by
        have hc2:cur.toList.length=cur.size:=by simp
        have:(cur.toList.take (off*o.sz)++(Builtin.zeroCells zx.cells len).toList++cur.toList.drop (off*o.sz+len*sz)).length=cur.size:=by
         simp only [List.length_append,List.length_take,List.length_drop,hc2,hzlen]
         rw [hcur]; simp; omega
        simp only [List.size_toArray,this]; exact k4)
      exact zdq hrun hh (.tup _ _ .nil) (ZLe.setObj Z st s g o _ ho rfl (by simp; omega))
   ·cases he
  ·cases he
 ·cases he
end
end Go.Ab
