/- Lemmas for the law AmbiguityCounts, part 2. No conditions. -/
import Derived.Test.YtcemegnnejaahaaGreatDoorDP01
import Derived.IntWalk
set_option maxRecDepth 100000
set_option maxHeartbeats 4000000
set_option linter.all false
namespace Go.Ab
section
variable {P:Program} {K:Ctx} {Z Z':Cz} {st st':St} {w w':World} {a:Act} {orc:Option PCall} {d:Nat} {v:AV}
theorem zw1{l:List Value}:∀ (c i:Nat),i<c*l.length->(List.replicate c l).flatten[i]?=l[i % l.length]?
 | 0,i,h=>by simp at h
 | c+1,i,h=>by
  rw[yh9,List.flatten_cons];rcases yg1 i l.length with h1|h1
  ·rw[yid h1,ygu h1]
  ·rw[yhg h1,zw1 c (i - l.length) (by rw[ygt]at h;omega)]
   congr 1
   exact(Nat.mod_eq_sub_mod h1).symm
theorem z5r{l:List Value}(c:Nat):(List.replicate c l).flatten.length=c*l.length:=by simp
theorem zei(z:Array Value)(c:Nat):(madeCells z (c*z.size)).toList=(List.replicate c z.toList).flatten:=by
 apply yj9;intro i;rcases yg1 i (c*z.size)with h|h
 ·rw[zw1 c i (by omega)];have hz:0<z.size:=by
   rcases yha z.size with h0|h0
   ·grind
   ·omega
  have hm:=ygq i hz;simp[madeCells,h,hm]
 ·rw[List.getElem?_eq_none (by simp[size_madeCells];omega),List.getElem?_eq_none (by rw[z5r];simpa using h)]
theorem zbg(n:Nat)(e:AV):(List.replicate n e).flatMap AV.cells=(List.replicate n e.cells).flatten:=by
 induction n with
 | zero=>rfl
 | succ n ih=>simp[yh9,ih]
theorem zcg{cs:List AV}{xs:List Value}(h:AReps Z st cs xs):∀ n,AReps Z st (List.replicate n cs).flatten (List.replicate n xs).flatten
 | 0=>.nil
 | n+1=>by simp[yh9];exact h.append (zcg h n)
theorem zq7(v:AV):v.pur0.sz=v.sz:=by
 cases v with
 | agg cs=>exact zf1 (.agg cs)
 | _=>rfl
theorem z1h{v:AV}{x:Value}(h:ARep Z st v x):ARep Z st v.pur0 x:=by
 cases v with
 | agg cs=>exact zks (v:=.agg cs) h
 | _=>exact h
theorem zr3{t e:TypeId}{z:AV}{l c:Operand}{l' c':Opd}(h1:P.underlying t=some (.slice e))(hz:zes P e=some z)(hb:P.bytesOf e<=65536)
  (hl:zag l=some l') (hc:zag c=some c') (hs:StRep K Z st w a) (he:eff orc st d (.mkslice (tsz P e) z l' c')=some (v,st')) :
  Good P K Z st ((do pure (Next.value (<- Instr.makeSlice t (a.eval l) (a.eval c))):Sem Next).run P w) v st':=by
 have hrl:=zaq hl hs;have hrc:=zaq hc hs;obtain⟨i,zx,hi,hzi,hzr⟩:=zd2 hz;have hisz:i.size=tsz P e:=by simp[tsz,Program.cellsOf,hi]
 have hib:i.bytes<=65536:=by simpa[Program.bytesOf,hi]using hb
 generalize tsz P e=sz at *
 simp[eff]at he;split at he
 ·rename_i n m hn hm;split at he
  ·rename_i hc;obtain⟨hnm,hml,hzs,hp⟩:=hc;obtain⟨rfl,rfl⟩:=he;obtain⟨k1,e1⟩:=zbt hn;obtain⟨k2,e2⟩:=zbt hm;rw[e1]at hrl;rw[e2]at hrc;rw[hrl.inv_int,hrc.inv_int];simp[LIM]at hml;have hbm:(i.bytes:Int)*(m:Int)<=281474976710656:=by have:i.bytes*m<=65536*2147483648:=yfz hib hml;omega
   have hr:=run_make (P:=P) w t e i zx h1 hi hzi k1 k2 (n:Int) (m:Int) (by omega) (by omega) hbm (by omega);have hz0:=z1h (hzr Z st);obtain⟨y1,y2,y3⟩:=hz0.cells (by rw[zq7];omega);have hzl:zx.cells.size=i.size:=by have:=y1.length;simp at this;rw[this,y2,zq7,hzs,hisz]
   have hmade:madeCells zx.cells (m*i.size)=madeCells zx.cells (m*zx.cells.size):=by rw[hzl]
   have hh:=hs.heap.alloc d ⟨sz,List.replicate n z.pur0⟩ (madeCells zx.cells (m*i.size)) e m (List.replicate n zx.cells.toList).flatten hp
    (fun q hq=>by rw[(yhs.1 hq).2,zq7,hzs])
    (fun q hq=>by
     rw[zbg]at hq;obtain⟨l,h1,h2⟩:=yje.1 hq;rw[(yhs.1 h1).2]at h2;exact y3 q h2)
    (by rw[zbg];exact zcg y1 n)
    (by
     have hpre:(madeCells zx.cells (m*i.size)).toList=(List.replicate n zx.cells.toList).flatten++(List.replicate (m - n) zx.cells.toList).flatten:=by
      rw[hmade,zei,<- List.flatten_append,List.replicate_append_replicate]
      grind
     intro j y hj;have:=zms hpre j y hj;simpa using this)
    (by rw[size_madeCells,hisz]) (by simpa using hnm) (by simp[maxLen];omega)
   refine zem hr hh ?_ (ZLe.alloc _ _ _ _ _ _);refine .own d _ 0 n ⟨sz,List.replicate n z.pur0⟩ w.heap.size _ m (by rw[zan,yf1 ⟨rfl,rfl⟩]) (by simp[Cz.setB]) (fun _=>⟨rfl,by simp[Cz.setB]⟩) (fun _=>by simp) (by simp) hnm
  ·grind
 ·grind
theorem zx8{mx:Bool}:∀ {vs:List AV} {xs:List Value} {r:PV},AReps Z st vs xs->zgj mx vs=some r ->
  ∃ k n,r=.int k n/\((if mx then Builtin.max_ #[] 0 xs.toArray else Builtin.min_ #[] 0 xs.toArray)).run P w=.ok (.int k n) w
 | [],_,_,_,h=>by simp[zgj]at h
 | u::vs,_,r,.cons _ x _ xs hx hs,h=>by
  unfold zgj at h;split at h
  ·rename_i k a r' e;cases e;rw[hx.inv_int]
   have key:∀ (vs:List AV) (xs:List Value) (a:Int) (r:PV),AReps Z st vs xs ->
     vs.foldlM (fun acc v=>match acc,v with
      | PV.int k a,.p (.int k' b)=>if k=k' then some (PV.int k (if mx then(if b>a then b else a)else(if b<a then b else a)))else none
      | _,_=>none) (PV.int k a)=some r->∃ n,r=.int k n/\(xs.foldlM (if mx then Builtin.max2 else Builtin.min2) (.int k a)).run P w=.ok (.int k n) w:=by
    intro vs
    induction vs with
    | nil=>intro xs a r hr h;cases hr;simp at h;subst h;exact⟨a,rfl,by simp⟩
    | cons u vs ih =>
     intro xs a r hr h;cases hr with
     | cons _ y _ ys hy hys =>
      simp only[List.foldlM_cons,Option.bind_eq_bind]at h;split at h
      ·rename_i k1 a1 k' b e1;cases e1;split at h
       ·rename_i hk;obtain⟨n,hn,hrun⟩:=ih ys _ r hys h;refine⟨n,hn,?_⟩;rw[hy.inv_int];cases mx<;>simp_all[Builtin.max2,Builtin.min2]
       ·simp at h
      ·simp at h
   obtain⟨n,hn,hrun⟩:=key vs xs a r hs h;refine⟨k,n,hn,?_⟩;cases mx<;>simp_all[Builtin.max_,Builtin.min_]
  ·cases h
theorem zna{mx:Bool}{args:Array TypeId}{ty:TypeId}{xs:Array Operand}{ys:List Opd}(hx:zaz xs.toList=some ys)(hs:StRep K Z st w a){r:PV}
  (he:zgj mx (ys.map st.ev)=some r) :
  Good P K Z st ((do pure (Next.value (<- (if mx then Builtin.max_ args ty (xs.map a.eval)else Builtin.min_ args ty (xs.map a.eval)))):Sem Next).run P w) (.p r) st:=by
 have hr:=zim hx hs;obtain⟨k,n,rfl,hrun⟩:=zx8 (P:=P) (w:=w) hr he;refine zap ?_ hs (.p _ _ (.int k n));rw[<- hrun];have e:(List.map a.eval xs.toList).toArray=xs.map a.eval:=by simp[<- Array.toList_map]
 rw[e];cases mx<;>rfl
theorem zlq(off:Nat):∀ (vs:List Value) (j:Nat) (cells:Array Value),off+j+vs.length<=cells.size ->
  ((vs.zipIdx j).foldl (fun cs (c,j)=>cs.setIfInBounds (off+j) c) cells).toList=cells.toList.take (off+j)++vs++cells.toList.drop (off+j+vs.length)
 | [],j,cells,_=>by simp
 | v::vs,j,cells,h=>by
  simp;simp at h;rw[zlq off vs (j+1) _ (by simp;omega)];have e:=list_seg_step cells.toList (off+j) v vs (by omega)
  grind
theorem zuc{place:Nat->Option (Nat × Nat)}{cells:Array Value}{i off sz:Nat}{x:Value}{r:List (Nat × Value)}(hp:place i=some (off,sz))(hx:x.cells.size=sz)(hl:off+sz<=cells.size) :
  ∃ cs:Array Value,cs.toList=cells.toList.take off++x.cells.toList++cells.toList.drop (off+sz)/\Instr.fill place cells ((i,x)::r)=Instr.fill place cs r:=by
 refine⟨x.cells.zipIdx.foldl (fun cs (c,j)=>cs.setIfInBounds (off+j) c) cells,?_,?_⟩
 ·rw[<- Array.foldl_toList];have:=zlq off x.cells.toList 0 cells (by simp;omega)
  grind
 ·simp[Instr.fill]
  grind
theorem zgs{pl:List (Nat × Nat)}{place:Nat->Option (Nat × Nat)}(hpp:∀ i x,pl[i]?=some x->place i=some x):∀ {parts:List (Nat × Operand)} {l:List (Nat × Nat × Opd)} {zero cs:List AV} {cells:Array Value},zdq pl parts=some l->StRep K Z st w a ->
  AReps Z st zero cells.toList->(∀ c∈zero,c.one=true)->zcy zero (l.map fun(o,s,x)=>(o,s,st.ev x))=some cs ->
  ∃ cells':Array Value,Instr.fill place cells (parts.map fun(i,x)=>(i,a.eval x))=some cells'/\AReps Z st cs cells'.toList/\∀ c∈cs,c.one=true
 | [],l,zero,cs,cells,h,hs,hz,h1,hf=>by
  simp[zdq]at h;subst h;simp[zcy]at hf;subst hf;exact⟨cells,by simp[Instr.fill],hz,h1⟩
 | (i,x)::parts,l,zero,cs,cells,h,hs,hz,h1,hf=>by
  simp[zdq]at h;split at h
  ·rename_i o s y l' hp hy hl';cases h;simp only[yfq,zcy]at hf;split at hf
   ·rename_i hc;have hr:=zaq hy hs;obtain⟨y1,y2,y3⟩:=hr.cells (by omega);have hzl:=hz.length;have hxl:=y1.length;simp at hzl hxl;obtain⟨cs1,e1,e2⟩:=zuc (place:=place) (cells:=cells) (i:=i) (off:=o) (sz:=s) (x:=a.eval x) (r:=parts.map fun(i,x)=>(i,a.eval x)) (hpp _ _ hp) (by omega) (by omega);have hz':AReps Z st (zero.take o++(st.ev y).cells++zero.drop (o+s)) cs1.toList:=by rw[e1];exact((hz.take o).append y1).append (hz.drop (o+s))
    obtain⟨cells',f1,f2,f3⟩:=zgs hpp hl' hs hz' (fun c hc=>by
     rcases yfk.1 hc with h|h
     ·grind
     ·exact h1 c (yga h)) hf
    grind
   ·grind
  ·grind
theorem zzk{t:TypeId}{fs:Array Field}{parts:Array (Nat × Operand)}{pl:List (Nat × Nat)}{z:AV}{l:List (Nat × Nat × Opd)}(h1:P.underlying t=some (.struct fs))
  (hpl:(fs.toList.mapM fun(f:Field)=>(P.info? f.type).map fun i=>(f.offset,i.size))=some pl) (hz:zes P t=some z) (hzs:0<z.sz) (hl:zdq pl parts.toList=some l) (hs:StRep K Z st w a)
  (he:eff orc st d (.build z.cells l)=some (v,st')) :
  Good P K Z st ((do pure (Next.value (<- Instr.build t (parts.map fun(i,x)=>(i,a.eval x)))):Sem Next).run P w) v st':=by
 obtain⟨i,zx,hi,hzi,hzr⟩:=zd2 hz;simp[eff]at he;split at he
 ·rename_i cs hf;obtain⟨rfl,rfl⟩:=he;obtain⟨y1,y2,y3⟩:=(hzr Z st).cells hzs;obtain⟨cells',f1,f2,f3⟩:=zgs (place:=(pl.toArray[·]?)) (fun i x h=>by simpa using h) (cells:=zx.cells) hl hs y1 y3 hf;have hb:P.built t (parts.map fun(i,x)=>(i,a.eval x)).toList=some cells':=by
   unfold Program.built
   simp_all
  exact zap (run_build w t _ cells' hb) hs (by simpa using ARep.mkAgg f3 f2)
 ·grind
theorem zvl{t:TypeId}{n:Nat}{e:TypeId}{parts:Array (Nat × Operand)}{ie:TypeInfo}{z:AV}{l:List (Nat × Nat × Opd)}(h1:P.underlying t=some (.array n e))
  (hpl:P.info? e=some ie) (hz:zes P t=some z) (hzs:0<z.sz) (hl:zdq ((List.range n).map fun i=>(i*ie.size,ie.size)) parts.toList=some l) (hs:StRep K Z st w a)
  (he:eff orc st d (.build z.cells l)=some (v,st')) :
  Good P K Z st ((do pure (Next.value (<- Instr.build t (parts.map fun(i,x)=>(i,a.eval x)))):Sem Next).run P w) v st':=by
 obtain⟨i,zx,hi,hzi,hzr⟩:=zd2 hz;simp[eff]at he;split at he
 ·rename_i cs hf;obtain⟨rfl,rfl⟩:=he;obtain⟨y1,y2,y3⟩:=(hzr Z st).cells hzs;obtain⟨cells',f1,f2,f3⟩:=zgs (place:=fun i=>some (i*ie.size,ie.size)) (fun i x h=>by
   simp at h;obtain⟨j,hj,rfl⟩:=h;have:=yh6.1 hj;obtain⟨_,hj⟩:=this;simp at hj;simp[hj]) (cells:=zx.cells) hl hs y1 y3 hf
  have hb:P.built t (parts.map fun(i,x)=>(i,a.eval x)).toList=some cells':=by
   unfold Program.built
   simp_all
  exact zap (run_build w t _ cells' hb) hs (by simpa using ARep.mkAgg f3 f2)
 ·grind
theorem zjg{sz:Nat}(hp:0<sz):∀ {parts:List (Nat × Operand)} {l:List (Nat × Opd)} {es es':List AV} {cells:Array Value},zfc parts=some l->StRep K Z st w a ->
  AReps Z st (es.flatMap AV.cells) cells.toList->(∀ e∈es,e.sz=sz)->(∀ c∈es.flatMap AV.cells,c.one=true)->zcz es sz (l.map fun(i,x)=>(i,(st.ev x).pur))=some es' ->
  ∃ cells':Array Value,Instr.fill (fun i=>some (i*sz,sz)) cells (parts.map fun(i,x)=>(i,a.eval x))=some cells'/\AReps Z st (es'.flatMap AV.cells) cells'.toList/\(∀ e∈es',e.sz=sz) /\
   (∀ c∈es'.flatMap AV.cells,c.one=true)/\es'.length=es.length
 | [],l,es,es',cells,h,hs,hz,h2,h1,hf=>by
  simp[zfc]at h;subst h;simp[zcz]at hf;subst hf;exact⟨cells,by simp[Instr.fill],hz,h2,h1,rfl⟩
 | (i,x)::parts,l,es,es',cells,h,hs,hz,h2,h1,hf=>by
  simp[zfc]at h;split at h
  ·rename_i y l' hy hl';cases h;simp only[yfq,zcz]at hf;split at hf
   ·rename_i hc;obtain⟨hsz,hlt⟩:=hc;have hr:=zks (zaq hy hs);obtain⟨y1,y2,y3⟩:=hr.cells (by omega);have hcl:∀ e∈es,(AV.cells e).length=sz:=fun e he=>by rw[AV.cells_len (by rw[h2 e he];exact hp),h2 e he]
    have hzl:=hz.length;have hxl:=y1.length;rw[zdd AV.cells sz es hcl]at hzl;simp at hzl hxl;have hle:i*sz+sz<=es.length*sz:=by rw[<- Nat.succ_mul];exact yg7 _ hlt
    obtain⟨cs1,e1,e2⟩:=zuc (place:=fun i=>some (i*sz,sz)) (cells:=cells) (i:=i) (off:=i*sz) (sz:=sz) (x:=a.eval x) (r:=parts.map fun(i,x)=>(i,a.eval x)) rfl (by omega) (by omega);have hfl:=zop AV.cells sz es i (st.ev y).pur hcl hlt;have hz':AReps Z st ((es.set i (st.ev y).pur).flatMap AV.cells) cs1.toList:=by rw[e1,hfl];exact((hz.take _).append y1).append (hz.drop _)
    obtain⟨cells',f1,f2,f3,f4,f5⟩:=zjg hp hl' hs hz' (fun q hq=>by
      rcases yjs hq with h|h
      ·grind
      ·rw[h];exact hsz)
     (fun c hc=>by
      rw[hfl]at hc;rcases yfk.1 hc with h|h
      ·grind
      ·exact h1 c (yga h)) hf
    grind
   ·grind
  ·grind
theorem zvm{t e:TypeId}{n:Nat}{parts:Array (Nat × Operand)}{z:AV}{l:List (Nat × Opd)}(h1:P.underlying t=some (.slice e))(hz:zes P e=some z)(hl:zfc parts.toList=some l)(hs:StRep K Z st w a)
  (he:eff orc st d (.bslice (tsz P e) z n l)=some (v,st')) :
  Good P K Z st ((do pure (Next.value (<- Instr.buildSlice t n (parts.map fun(i,x)=>(i,a.eval x)))):Sem Next).run P w) v st':=by
 obtain⟨i,zx,hi,hzi,hzr⟩:=zd2 hz;have hisz:i.size=tsz P e:=by simp[tsz,Program.cellsOf,hi]
 generalize tsz P e=sz at *
 simp only[eff]at he;split at he
 ·rename_i hc;obtain⟨hzs,hp,hle⟩:=hc;split at he
  ·rename_i es hf;obtain⟨rfl,rfl⟩:=he;have hz0:=zks (hzr Z st);obtain⟨y1,y2,y3⟩:=hz0.cells (by rw[zf1];omega);have hzl:zx.cells.size=i.size:=by have:=y1.length;simp at this;rw[this,y2,zf1,hzs,hisz]
   have hmade:madeCells zx.cells (n*i.size)=madeCells zx.cells (n*zx.cells.size):=by rw[hzl]
   have hinit:AReps Z st ((List.replicate n z.pur).flatMap AV.cells) (madeCells zx.cells (n*i.size)).toList:=by rw[hmade,zei,zbg];exact zcg y1 n
   obtain⟨cells',f1,f2,f3,f4,f5⟩:=zjg hp hl hs hinit (fun q hq=>by rw[(yhs.1 hq).2,zf1,hzs])
    (fun q hq=>by
     rw[zbg]at hq;obtain⟨l,h1,h2⟩:=yje.1 hq;rw[(yhs.1 h1).2]at h2;exact y3 q h2) hf
   have hsz:cells'.size=n*sz:=by
    have h1:=f2.length;rw[zdd AV.cells sz es (fun e he=>by rw[AV.cells_len (by rw[f3 e he];exact hp),f3 e he])]at h1
    grind
   have hel:es.length=n:=by simpa using f5
   have hh:=hs.heap.alloc d ⟨sz,es⟩ cells' e n cells'.toList hp f3 f4 f2 (by simp) hsz (by simp[hel])
    (by simp[maxLen];have:n<=n*sz:=yiw n hp;omega)
   have hrun:(Instr.buildSlice t n (parts.map fun(i,x)=>(i,a.eval x))).run P w=.ok (.slice (some ⟨w.heap.size,0,none⟩) n n) (w.alloc (.cells cells' e)):=by
    have f1':Instr.fill (fun i_1=>some (i_1*i.size,i.size)) (madeCells zx.cells (n*i.size)) (parts.map fun(i,x)=>(i,a.eval x)).toList=some cells':=by
     simp_all
    have hng:¬ (16777216<n*i.size):=by rw[hisz];omega
    by_cases h0:n*i.size=0
    ·rw[h0]at f1';have e0:(madeCells zx.cells 0) = #[]:=by simp[madeCells]
     rw[e0]at f1';have f2':Instr.fill (fun i_1=>some (i_1*i.size,i.size)) #[] (List.map (fun x=>(x.fst,a.eval x.snd)) parts.toList)=some cells':=by
      grind
     have er:Array.map (fun(_:Nat)=>(default:Value)) (Array.range 0) = #[]:=by simp
     simp[Instr.buildSlice,run_underlying h1,sizeOf,typeInfo,hi,h0,newRow,er,f2']
    ·simp only[madeCells]at f1';simp only[Instr.buildSlice,run_underlying h1,sizeOf,typeInfo,zeroValue,hi,hzi,h0,hng,newRow,yfx,yg8,run_program,yg0,yf9,Nat.reducePow,gt_iff_lt,f1',run_newObj];simp
   refine zem hrun hh ?_ (ZLe.alloc _ _ _ _ _ _);exact .own d _ 0 n ⟨sz,es⟩ w.heap.size _ n (by rw[zan,yf1 ⟨rfl,rfl⟩]) (by simp[Cz.setB]) (fun _=>⟨rfl,by simp[Cz.setB]⟩) (fun _=>by simp) (by simp[hel]) (yf8 _)
  ·cases he
 ·cases he
theorem zib{op:BinOp}{t:TypeId}{x y:Operand}{ad ad':Option Addr}{n c n' c':Nat}:eqGuard op t x y (.slice ad n c) (.slice ad' n' c')=pure ():=by cases op<;>rfl
theorem zzf{op:BinOp}{t e:TypeId}{x y:Operand}{x' y':Opd}{o:IOp}(ht:P.underlying t=some (.slice e))(hx:zag x=some x')(hy:zag y=some y')(hc:zhr op x' y'=some o)(hs:StRep K Z st w a)
  (he:eff orc st d o=some (v,st')) :
  Good P K Z st ((do pure (Next.value (<- (do eqGuard op t x y (a.eval x) (a.eval y);binOp op t (a.eval x) (a.eval y)))):Sem Next).run P w) v st':=by
 have hr:=zaq hx hs;have hr2:=zaq hy hs;obtain⟨neg,rfl,rfl,hop⟩:∃ neg,y'=.c .nil/\o=.isnil neg x'/\((op=.eql/\neg=false)\/(op=.neq/\neg=true)):=by
  unfold zhr at hc;split at hc
  ·grind
  ·grind
  ·grind
 have hY:a.eval y=.slice none 0 0:=by generalize a.eval y=Y at hr2;cases hr2;rfl
 rw[hY];have key:∀ (ad:Option Addr) (n c:Nat),(Op.equal t (.slice ad n c) (.slice none 0 0)).run P w=.ok ad.isNone w:=by intro ad n c;unfold Op.equal Op.maxDepth;rw[Op.equalIn.eq_def];cases ad<;>simp[run_underlying ht]
 have fin:∀ (ad:Option Addr) (n c:Nat),a.eval x=.slice ad n c ->
   Good P K Z st ((do pure (Next.value (<- (do eqGuard op t x y (a.eval x) (.slice none 0 0);binOp op t (a.eval x) (.slice none 0 0)))):Sem Next).run P w) (.p (.bool (if neg then !ad.isNone else ad.isNone))) st:=by
  intro ad n c hX;rw[hX];have hb:(do eqGuard op t x y (.slice ad n c) (.slice none 0 0);binOp op t (.slice ad n c) (.slice none 0 0):Sem Value).run P w=.ok (.bool (if neg then !ad.isNone else ad.isNone)) w:=by
   rcases hop with⟨rfl,rfl⟩|⟨rfl,rfl⟩
   ·simp[zib,binOp,key]
   ·simp[zib,binOp,key]
  exact zap hb hs (.p _ _ (.bool _))
 simp only[eff]at he;generalize hXX:a.eval x=X at hr;split at he
 ·rename_i hev;rw[hev]at hr;cases hr;simp only[Option.some.injEq,Prod.mk.injEq]at he;obtain⟨rfl,rfl⟩:=he;have:=fin none 0 0 hXX;cases neg<;>simpa[hXX]using this
 ·rename_i hev;rw[hev]at hr;cases hr.inv_p with
  | nl cap =>
   simp only[Option.some.injEq,Prod.mk.injEq]at he;obtain⟨rfl,rfl⟩:=he;have:=fin none 0 cap hXX;cases neg<;>simpa[hXX]using this
 ·rename_i hev;rw[hev]at hr;cases hr.inv_p with
  | sle ad cap =>
   simp only[Option.some.injEq,Prod.mk.injEq]at he;obtain⟨rfl,rfl⟩:=he;have:=fin (some ad) 0 cap hXX;cases neg<;>simpa[hXX]using this
 ·rename_i hev;rw[hev]at hr;simp only[yf3,yf5]at he;obtain⟨rfl,rfl⟩:=he;cases hr.inv_p with
  | sl _ b o cap cur T fr sz' vals m0 m1 m2 m3 m4 m5 m6 =>
   have:=fin _ _ _ hXX;cases neg<;>simpa[hXX]using this
 ·rename_i s g off len hev;rw[hev]at hr;split at he
  ·rename_i o ho;split at he
   ·rename_i hl;simp only[yf3,yf5]at he;obtain⟨rfl,rfl⟩:=he;cases hr with
    | own0=>omega
    | own _ _ _ _ o' b ad c e1 e2 e3 e4 e5 e6 =>
     have:=fin _ _ _ hXX;cases neg<;>simpa[hXX]using this
    | ownD _ _ _ _ _ _ _ h2=>exact(za4 ho h2).elim
   ·cases he
  ·cases he
 ·cases he
theorem z7k{args:Array TypeId}{ty:TypeId}{x:Operand}{y:Opd}(ht:zcm (args[0]?.bind P.underlying)=true)(hx:zag x=some y)(hs:StRep K Z st w a)(he:eff orc st d (.cap y)=some (v,st')) :
  Good P K Z st ((do pure (Next.value (<- Builtin.cap_ args ty #[a.eval x])):Sem Next).run P w) v st':=by
 have hr:=zaq hx hs;obtain⟨t,e,ht0,htu⟩:∃ t e,args[0]?=some t/\P.underlying t=some (.slice e):=by
  cases h0:args[0]? with
  | none=>simp[h0,zcm]at ht
  | some t =>
   cases hu:P.underlying t with
   | none=>simp[h0,hu,zcm]at ht
   | some d=>cases d<;>simp[h0,hu,zcm]at ht;exact⟨t,_,rfl,hu⟩
 have hrun:∀ ad n c,(Builtin.cap_ args ty #[.slice ad n c]).run P w=.ok (.int .i64 c) w:=by simp[Builtin.cap_,ht0,run_underlying htu,goInt]
 generalize a.eval x=X at hr ⊢;simp[eff]at he;split at he
 ·rename_i hev;rw[hev]at hr;cases hr;obtain⟨rfl,rfl⟩:=he;exact zap (hrun _ _ _) hs (.p _ _ (.int _ _))
 ·grind
theorem HRep.setSame(h:HRep K Z st w){s g:Nat}{o:AObj}(ho:st.obj s g=some o):HRep K Z (st.setObj s g o) w/\ZLe Z st Z (st.setObj s g o):=by
 have hz:=ZLe.setObj Z st s g o o ho rfl rfl;have ob:∀ {s' g':Nat} {o':AObj},(st.setObj s g o).obj s' g'=some o'->st.obj s' g'=some o':=by
  intro s' g' o' hx;rw[za9 _ _ _ _ _ _ (zby ho)]at hx;split at hx
  ·grind
  ·omega
 exact⟨⟨fun s' g' o' ho'=>(h.objs s' g' o' (ob ho')).later hz rfl rfl (fun _ _=>rfl),fun _ _ _ _ _ _ b a1 a2=>h.inj _ _ _ _ _ _ b (ob a1) (ob a2),h.mem,fun _ _ _ b a1=>h.sep _ _ _ b (ob a1),fun _ _ _ b a1=>h.own _ _ _ b (ob a1),h.m0,h.prov,h.keep⟩,hz⟩
theorem zzj{A:Array TypeId}{t ty e:TypeId}{x:Operand}{x':Opd}{z:AV}(hA:A[0]?=some t)(ht:P.underlying t=some (.slice e))(hz:zes P e=some z)(hx:zag x=some x')(hs:StRep K Z st w a)
  (he:eff orc st d (.clear (tsz P e) z x')=some (v,st')) :
  Good P K Z st ((do pure (Next.value (<- Builtin.clear_ A ty #[a.eval x])):Sem Next).run P w) v st':=by
 have hr:=zaq hx hs;obtain⟨i,zx,hi,hzi,hzr⟩:=zd2 hz;generalize tsz P e=sz at *
 generalize a.eval x=X at hr ⊢;have hrun0:∀ ad c,(Builtin.clear_ A ty #[.slice ad 0 c]).run P w=.ok (.tuple #[]) w:=by intro ad c;cases ad<;>simp[Builtin.clear_,hA,run_underlying ht]
 simp only[eff]at he;split at he
 ·rename_i hev;rw[hev]at hr;cases hr;obtain⟨rfl,rfl⟩:=he;exact zap (hrun0 _ _) hs (.tup _ _ .nil)
 ·rename_i s g off len hev;rw[hev]at hr;split at he
  ·rename_i o ho;split at he
   ·rename_i hc;obtain⟨hle,hosz,hzs⟩:=hc;obtain⟨rfl,rfl⟩:=he;have hO:=hs.heap.objs s g o ho;have same:∀ es,es=o.es->∀ ad c,X=.slice ad 0 c->Good P K Z st ((do pure (Next.value (<- Builtin.clear_ A ty #[X])):Sem Next).run P w) (.tup []) (st.setObj s g ⟨o.sz,es⟩):=by rintro es rfl ad c rfl;exact zem (hrun0 ad c) (hs.heap.setSame ho).1 (.tup _ _ .nil) (hs.heap.setSame ho).2
    cases hr with
    | own0 _ _ o' e1 e2=>exact same _ (by simp) _ _ rfl
    | ownD _ _ _ _ _ _ _ h2=>exact(za4 ho h2).elim
    | own _ _ _ _ o' b ad c e1 e2 e3 e4 e5 e6 =>
     rw[ho]at e1;cases e1;rcases yha len with h0|h0
     ·subst h0;exact same _ (by simp) _ _ rfl
     ·have had:=e4 h0;subst had;obtain⟨cur,T,vals,k1,k2,k3,k4,k5,k6⟩:=hO.blk b e2;have hz0:=zks (hzr Z st);obtain⟨y1,y2,y3⟩:=hz0.cells (by rw[zf1,hzs,<- hosz];exact hO.pos);have hzl:zx.cells.size=sz:=by have:=y1.length;simp at this;rw[this,y2,zf1,hzs]
      have hcl:∀ q∈o.es,(AV.cells q).length=o.sz:=fun q hq=>by rw[AV.cells_len (by rw[hO.els q hq];exact hO.pos),hO.els q hq]
      have hvl:=k2.length;rw[zdd AV.cells o.sz o.es hcl]at hvl;have hzc:(Builtin.zeroCells zx.cells len).toList=(List.replicate len zx.cells.toList).flatten:=zei zx.cells len;have hzr':AReps Z st ((List.replicate len z.pur).flatMap AV.cells) (Builtin.zeroCells zx.cells len).toList:=by rw[hzc,zbg];exact zcg y1 len
      have hzlen:(Builtin.zeroCells zx.cells len).toList.length=len*sz:=by simp[Builtin.zeroCells,hzl]
      have hone:∀ q∈(List.replicate len z.pur).flatMap AV.cells,q.one=true:=fun q hq=>by rw[zbg]at hq;obtain⟨l,h1,h2⟩:=yje.1 hq;rw[(yhs.1 h1).2]at h2;exact y3 q h2
      obtain⟨rest,hrest⟩:=zw8 k3;have hcur:cur.size=(vals++rest).length:=by rw[<- hrest];simp
      have hmul:off*o.sz+len*sz<=vals.length:=by rw[hvl,hosz,<- Nat.add_mul];exact yg7 _ hle
      have hst:=run_storeCells_at P b (off*o.sz) T (Builtin.zeroCells zx.cells len).toList 0 cur w k1 (by rw[hcur,hzlen];simp;omega) (zcu hzr' hone);simp only[ygl,hzlen]at hst;have hrun:(Builtin.clear_ A ty #[.slice (some ⟨b,off*o.sz,none⟩) len c]).run P w=.ok (.tuple #[]) (w.setRow b (cur.toList.take (off*o.sz)++(Builtin.zeroCells zx.cells len).toList++cur.toList.drop (off*o.sz+len*sz)).toArray):=by obtain⟨m,rfl⟩:∃ m,len=m+1:=⟨len - 1,by omega⟩;simp[Builtin.clear_,hA,run_underlying ht,zeroValue,typeInfo,hi,hzi,hst]
      have hnew:cur.toList.take (off*o.sz)++(Builtin.zeroCells zx.cells len).toList++cur.toList.drop (off*o.sz+len*sz)=(vals.take (off*o.sz)++(Builtin.zeroCells zx.cells len).toList++vals.drop (off*o.sz+len*sz))++rest:=by rw[hrest,yj8 (by omega),yis (by omega)];simp[yhr]
      have hfl:(o.es.take off++List.replicate len z.pur++o.es.drop (off+len)).flatMap AV.cells=(o.es.flatMap AV.cells).take (off*o.sz)++(List.replicate len z.pur).flatMap AV.cells++(o.es.flatMap AV.cells).drop (off*o.sz+len*sz):=by have h1:∀ n,(o.es.take n).flatMap AV.cells=(o.es.flatMap AV.cells).take (n*o.sz):=fun n=>zgo AV.cells o.sz o.es n hcl;have h2:∀ n,(o.es.drop n).flatMap AV.cells=(o.es.flatMap AV.cells).drop (n*o.sz):=fun n=>zgp AV.cells o.sz o.es n hcl;rw[yhm,yhm,h1,h2,hosz,ygf]
      have hh:=hs.heap.setObj ho e2 (o.es.take off++List.replicate len z.pur++o.es.drop (off+len)) (cur.toList.take (off*o.sz)++(Builtin.zeroCells zx.cells len).toList++cur.toList.drop (off*o.sz+len*sz)).toArray
       (vals.take (off*o.sz)++(Builtin.zeroCells zx.cells len).toList++vals.drop (off*o.sz+len*sz))
       (fun q hq=>by
        rcases yfk.1 hq with h|h
        ·rcases yfk.1 h with h|h
         ·exact hO.els q (ygb h)
         ·rw[(yhs.1 h).2,zf1,hzs,hosz]
        ·exact hO.els q (yga h))
       (fun q hq=>by
        rw[hfl]at hq;rcases yfk.1 hq with h|h
        ·rcases yfk.1 h with h|h
         ·exact hO.one q (ygb h)
         ·exact hone q h
        ·exact hO.one q (yga h))
       (by simp;omega)
       (by rw[hfl];exact((k2.take _).append hzr').append (k2.drop _))
       (zms hnew)
       (by
        have hc2:cur.toList.length=cur.size:=by simp
        have:(cur.toList.take (off*o.sz)++(Builtin.zeroCells zx.cells len).toList++cur.toList.drop (off*o.sz+len*sz)).length=cur.size:=by simp only[ygi,yh8,yhk,hc2,hzlen];rw[hcur];simp;omega
        simp only[yjb,this];exact k4)
      exact zem hrun hh (.tup _ _ .nil) (ZLe.setObj Z st s g o _ ho rfl (by simp;omega))
   ·cases he
  ·cases he
 ·cases he
end
section
variable {P:Program} {K:Ctx} {Z Z':Cz} {st st':St} {w w':World} {a:Act} {orc:Option PCall} {d:Nat} {v:AV}
theorem zp6{t:TypeId}(h:zcm (P.underlying t)=true):∃ e,P.underlying t=some (.slice e):=by
 cases hu:P.underlying t with
 | none=>simp[hu,zcm]at h
 | some d=>cases d<;>simp[hu,zcm]at h;exact⟨_,rfl⟩
theorem zpp{A:Array TypeId}{t u ty e e':TypeId}{i:TypeInfo}(hA:A[0]?=some t)(hB:A[1]?=some u)(ht:P.underlying t=some (.slice e))(hu:P.underlying u=some (.slice e'))(hi:P.info? e=some i)
  {g sLen sCap n c:Nat} {ad:Option Addr} {cur:Array Value} {T:TypeId} {new:List Value} (hx:(Builtin.firstCells i.size n (.slice ad n c)).run P w=.ok new.toArray w)
  (hroom:sLen+n<=sCap) (hg:w.heap[g]?=some (.cells cur T (0,0))) (hfit:sLen*i.size+new.length<=cur.size) (h1:∀ v∈new,v.oneCell'=true) :
  (Builtin.append_ A ty #[.slice (some ⟨g,0,none⟩) sLen sCap,.slice ad n c]).run P w =
   .ok (.slice (some ⟨g,0,none⟩) (sLen+n) sCap) (w.setRow g (cur.toList.take (sLen*i.size)++new++cur.toList.drop (sLen*i.size+new.length)).toArray):=by
 have hst:=run_storeCells_at P g (sLen*i.size) T new 0 cur w hg (by omega) h1;simp[Builtin.append_,hA,hB,run_underlying ht,run_underlying hu,sizeOf,typeInfo,hi,Builtin.lenOf,hroom,hx,zck,hst]
theorem zi3{A:Array TypeId}{t u ty e e':TypeId}{i:TypeInfo}(hA:A[0]?=some t)(hB:A[1]?=some u)(ht:P.underlying t=some (.slice e))(hu:P.underlying u=some (.slice e'))(hi:P.info? e=some i)
  {c:Nat} {ad:Option Addr} (hx:(Builtin.firstCells i.size 0 (.slice ad 0 c)).run P w=.ok #[] w) :
  (Builtin.append_ A ty #[.slice none 0 0,.slice ad 0 c]).run P w=.ok (.slice none 0 0) w:=by
 simp[Builtin.append_,hA,hB,run_underlying ht,run_underlying hu,sizeOf,typeInfo,hi,Builtin.lenOf,hx]
theorem zpq{A:Array TypeId}{t u ty e e':TypeId}{i:TypeInfo}{z:Value}(hA:A[0]?=some t)(hB:A[1]?=some u)(ht:P.underlying t=some (.slice e))(hu:P.underlying u=some (.slice e'))(hi:P.info? e=some i)(hz:i.zero=some z)
  {sLen sCap n c:Nat} {base ad:Option Addr} {old new:List Value} (hx:(Builtin.firstCells i.size n (.slice ad n c)).run P w.drew=.ok new.toArray w.drew)
  (ho:(Builtin.firstCells i.size sLen (.slice base sLen sCap)).run P w.drew=.ok old.toArray w.drew) (hno:sCap<sLen+n) (hb:i.bytes<=65536) (hl:sLen+n<=LIM) :
  (Builtin.append_ A ty #[.slice base sLen sCap,.slice ad n c]).run P w =
   .ok (.slice (some ⟨w.heap.size,0,none⟩) (sLen+n) (grownCap w (sLen+n) sCap e))
    (w.drew.alloc (.cells (old.toArray++new.toArray++Builtin.zeroCells z.cells (grownCap w (sLen+n) sCap e - (sLen+n))) e)):=by
 simp[LIM]at hl;have hn:¬ (sLen+n<=sCap):=by omega
 have h63':¬ (9223372036854775807<((sLen:Int)+(n:Int))):=by omega
 have hbb:(sLen+n)*i.bytes<=140737488355328:=yf7 (yfz hl hb) (by decide);have h48:=growslice_fits (old:=sCap) hno hbb;have h48':¬ (281474976710656<Builtin.nextslicecap (sLen+n) sCap*i.bytes):=by omega
 simp[Builtin.append_,hA,hB,run_underlying ht,run_underlying hu,sizeOf,typeInfo,zeroValue,hi,hz,Builtin.lenOf,Question.forced,hx,ho,newRow,grownCap]
 grind
theorem zf9(z:Array Value)(n:Nat):(Builtin.zeroCells z n).size=n*z.size:=by simp[Builtin.zeroCells]
theorem zhs{A:Array TypeId}{t u ty e e':TypeId}{i:TypeInfo}{z:Value}(hA:A[0]?=some t)(hB:A[1]?=some u)(ht:P.underlying t=some (.slice e))(hu:P.underlying u=some (.slice e'))(hi:P.info? e=some i)(hz:i.zero=some z)
  (hb:i.bytes<=65536) (hzl:z.cells.size=i.size) (hp:0<i.size)
  {sLen sCap n c:Nat} {base ad:Option Addr} {old new:List Value} {es xs:List AV} {st:St} (hh:HRep K Z st w)
  (hx:(Builtin.firstCells i.size n (.slice ad n c)).run P w.drew=.ok new.toArray w.drew) (ho:(Builtin.firstCells i.size sLen (.slice base sLen sCap)).run P w.drew=.ok old.toArray w.drew)
  (hno:sCap<sLen+n) (hl:sLen+n<=LIM) (h1:AReps Z st (es.flatMap AV.cells) old) (h2:AReps Z st (xs.flatMap AV.cells) new) (h3:∀ q∈es++xs,q.sz=i.size) (h4:∀ q∈(es++xs).flatMap AV.cells,q.one=true)
  (h5:es.length=sLen) (h6:xs.length=n) :
  ∃ w' Z' x,(Builtin.append_ A ty #[.slice base sLen sCap,.slice ad n c]).run P w=.ok x w'/\HRep K Z' (st.alloc d ⟨i.size,es++xs⟩) w' /\
   ARep Z' (st.alloc d ⟨i.size,es++xs⟩) (.own d (st.site d).length 0 (sLen+n)) x/\ZLe Z st Z' (st.alloc d ⟨i.size,es++xs⟩):=by
 have hr:=zpq (P:=P) (w:=w) (ty:=ty) hA hB ht hu hi hz hx ho hno hb hl;have hge:=grownCap_ge w (sLen+n) sCap e;have hmax:sLen+n<=maxLen:=by simp only[LIM]at hl;simp[maxLen];omega
 have hgm:=grownCap_le_maxLen w (sLen+n) sCap e hmax;generalize grownCap w (sLen+n) sCap e=C at *
 have hcl:∀ q∈es++xs,(AV.cells q).length=i.size:=fun q hq=>by rw[AV.cells_len (by rw[h3 q hq];exact hp),h3 q hq]
 have l1:=h1.length;have l2:=h2.length;rw[zdd AV.cells i.size es (fun q hq=>hcl q (yfk.2 (.inl hq))),h5]at l1;rw[zdd AV.cells i.size xs (fun q hq=>hcl q (yfk.2 (.inr hq))),h6]at l2;have hd:=hh.drew
 have hal:=hd.alloc d ⟨i.size,es++xs⟩ (old.toArray++new.toArray++Builtin.zeroCells z.cells (C - (sLen+n))) e C (old++new) hp h3 h4
  (by rw[yhm];exact h1.append h2)
  (by
   have:=zms (cur:=(old++new)++(Builtin.zeroCells z.cells (C - (sLen+n))).toList) (vals:=old++new) rfl;intro j y hj;have:=this j y hj;rw[<- this]
   congr 1
   apply Array.ext';simp[yhr])
  (by
   simp only[Array.size_append,yjb,zf9,l1,l2,hzl,<- Nat.add_mul]
   congr 1;omega)
  (by simp[h5,h6];omega) hgm
 refine⟨_,_,_,hr,hal,?_,ZLe.alloc _ _ _ _ _ _⟩;exact .own d _ 0 (sLen+n) ⟨i.size,es++xs⟩ w.heap.size _ C (by rw[zan,yf1 ⟨rfl,rfl⟩]) (by simp[Cz.setB]) (fun _=>⟨rfl,by simp[Cz.setB]⟩) (fun _=>by simp) (by simp[h5,h6]) hge
theorem zvn{A:Array TypeId}{t u ty e:TypeId}{x y:Operand}{x' y':Opd}(hA:A[0]?=some t)(hB:A[1]?=some u)(ht:P.underlying t=some (.slice e))(hu:zcm (P.underlying u)=true)
  (hzero:(zes P e).isSome=true) (hb:P.bytesOf e<=65536) (hzs:∀ z,zes P e=some z->z.sz=tsz P e) (hx:zag x=some x') (hy:zag y=some y') (hs:StRep K Z st w a)
  (he:eff orc st d (.append (tsz P e) x' y')=some (v,st')) :
  Good P K Z st ((do pure (Next.value (<- Builtin.append_ A ty #[a.eval x,a.eval y])):Sem Next).run P w) v st':=by
 have hrx:=zaq hx hs;have hry:=zaq hy hs;obtain⟨e',hu⟩:=zp6 hu;obtain⟨zv,hzv⟩:=yhy.1 hzero;have hzsz:=hzs zv hzv;obtain⟨i,z,hi,hzi,hzr⟩:=zd2 hzv;have hisz:i.size=tsz P e:=by simp[tsz,Program.cellsOf,hi]
 have hib:i.bytes<=65536:=by simpa[Program.bytesOf,hi]using hb
 rw[<- hisz]at he hzsz;generalize a.eval x=X at hrx ⊢;generalize a.eval y=Y at hry ⊢;simp only[eff]at he;split at he
 ·rename_i xs hxs;split at he
  ·rename_i hc;obtain⟨hall,hp⟩:=hc;have hsz:∀ q∈xs,q.sz=i.size:=fun q hq=>by have:=List.all_eq_true.1 hall q.pur (List.mem_map.2 ⟨q,hq,rfl⟩);rw[<- zf1];simpa using this
   have hsz':∀ q∈xs.map AV.pur,q.sz=i.size:=fun q hq=>by simp at hq;obtain⟨r,hr,rfl⟩:=hq;rw[zf1];exact hsz r hr
   obtain⟨ad,c,vals,rfl,hv1,hv2,hv3,hv4⟩:=zvj (P:=P) hxs hry hs.heap hsz hp;have hv1':AReps Z st ((xs.map AV.pur).flatMap AV.cells) vals:=by rw[zua];exact zkr hv1
   have hv2':∀ q∈(xs.map AV.pur).flatMap AV.cells,q.one=true:=fun q hq=>by rw[zua]at hq;simp only[yf6]at hq;obtain⟨r,hr,rfl⟩:=hq;exact zs9 (hv2 r hr)
   have hzl:z.cells.size=i.size:=by have:=((hzr Z st).cells (by omega));have h1:=this.1.length;simp at h1;rw[h1,this.2.1,hzsz]
   have hxl:(xs.map AV.pur).length=xs.length:=by simp
   split at he
   ·rename_i hev;rw[hev]at hrx;cases hrx;split at he
    ·rename_i hl;simp only[yf3,yf5]at he;obtain⟨rfl,rfl⟩:=he;by_cases h0:xs=[]
     ·subst h0;have hf:=hv4 w rfl;simp at hv3;subst hv3;have hr:=zi3 (P:=P) (w:=w) (ty:=ty) hA hB ht hu hi (ad:=ad) (c:=c) hf;refine zem hr (hs.heap.allocNil d i.size hp) ?_ (ZLe.alloc _ _ _ _ _ _);exact .own0 d _ ⟨i.size,[]⟩ (by rw[zan,yf1 ⟨rfl,rfl⟩];rfl) (by simp[Cz.setB])
     ·have hpos:0<xs.length:=yih.2 h0
      obtain⟨w',Z',r,h1,h2,h3,h4⟩:=zhs (P:=P) (K:=K) (Z:=Z) (w:=w) (d:=d) (ty:=ty) (base:=none) (sLen:=0) (sCap:=0) (old:=[]) (es:=[]) (xs:=xs.map AV.pur) (st:=st) hA hB ht hu hi hzi hib hzl hp hs.heap (hv4 w.drew rfl)
       (by simp[Builtin.firstCells]) (by omega) (by omega) .nil hv1' (by simpa using hsz') (by simpa using hv2') rfl hxl
      simp only[ygm,yh7]at h1 h2 h3 h4;exact zem h1 h2 h3 h4
    ·cases he
   ·rename_i s g off len hev;rw[hev]at hrx;split at he
    ·rename_i o ho;split at he
     ·rename_i hc;obtain⟨rfl,hlen,hosz,hlim⟩:=hc;simp only[yf3,yf5]at he;obtain⟨rfl,rfl⟩:=he;have hO:=hs.heap.objs s g o ho;have hk:killAll st [(s,g)]=st.kill s g:=rfl;rw[hk];have hhk:=hs.heap.kill s g;have hzk:=ZLe.kill Z st s g;cases hrx with
      | own0 _ _ o' e1 e2 =>
       rw[ho]at e1;cases e1;have hes:=hO.non e2;rw[hes];simp only[yh7,ygm]at hlim ⊢;by_cases h0:xs=[]
       ·subst h0;have hf:=hv4 w rfl;simp at hv3;subst hv3;have hr:=zi3 (P:=P) (w:=w) (ty:=ty) hA hB ht hu hi (ad:=ad) (c:=c) hf;refine zem hr (hhk.allocNil d i.size hp) ?_ (hzk.trans (ZLe.alloc _ _ _ _ _ _));exact .own0 d _ ⟨i.size,[]⟩ (by rw[zan,yf1 ⟨rfl,rfl⟩];rfl) (by simp[Cz.setB])
       ·have hpos:0<xs.length:=yih.2 h0
        obtain⟨w',Z',r,h1,h2,h3,h4⟩:=zhs (P:=P) (K:=K) (Z:=Z) (w:=w) (d:=d) (ty:=ty) (base:=none) (sLen:=0) (sCap:=0) (old:=[]) (es:=[]) (xs:=xs.map AV.pur) (st:=st.kill s g) hA hB ht hu hi hzi hib hzl hp hhk (hv4 w.drew rfl)
         (by simp[Builtin.firstCells]) (by omega) (by omega) .nil (hv1'.mono hzk) (by simpa using hsz') (by simpa using hv2') rfl hxl
        simp only[ygm,yh7]at h1 h2 h3 h4;exact zem h1 h2 h3 (hzk.trans h4)
      | own _ _ _ _ o' b ad' c' e1 e2 e3 e4 e5 e6 =>
       rw[ho]at e1;cases e1;obtain⟨rfl,rfl⟩:=e3 rfl;obtain⟨cur,T,ov,k1,k2,k3,k4,k5,k6⟩:=hO.blk b e2;obtain⟨rest,hrest⟩:=zw8 k3;have hcl:∀ q∈o.es,(AV.cells q).length=o.sz:=fun q hq=>by rw[AV.cells_len (by rw[hO.els q hq];exact hO.pos),hO.els q hq]
       have hol:=k2.length;rw[zdd AV.cells o.sz o.es hcl,<- hlen]at hol;by_cases hroom:len+xs.length<=Z.cap s g
       ·have hcs:cur.size=(ov++rest).length:=by rw[<- hrest];simp
        have hfit:len*i.size+vals.length<=cur.size:=by rw[hv3,<- Nat.add_mul,k4,hosz];exact yg7 _ hroom
        have hr:=zpp (P:=P) (w:=w) (ty:=ty) hA hB ht hu hi (hv4 w rfl) hroom k1 hfit (zcu hv1 hv2);have hnew:cur.toList.take (len*i.size)++vals++cur.toList.drop (len*i.size+vals.length)=(ov++vals)++rest.drop vals.length:=by rw[hrest,<- hosz,<- hol,List.take_left,List.drop_append];rw[yhf (by omega),yh7,Nat.add_sub_cancel_left]
        have hmv:=hs.heap.move ho e2 d (o.es++xs.map AV.pur) (cur.toList.take (len*i.size)++vals++cur.toList.drop (len*i.size+vals.length)).toArray (ov++vals)
         (fun q hq=>by
          rcases yfk.1 hq with h|h
          ·exact hO.els q h
          ·rw[hosz];exact hsz' q h)
         (fun q hq=>by
          rw[yhm]at hq;rcases yfk.1 hq with h|h
          ·exact hO.one q h
          ·exact hv2' q h)
         (by simp;omega) (by rw[yhm];exact k2.append hv1') (zms hnew)
         (by
          rw[<- k4];have hc2:cur.toList.length=cur.size:=by simp
          simp only[yjb,ygi,yh8,yhk,hc2];omega)
        rw[<- hosz];refine zem hr hmv.1 ?_ hmv.2;exact .own d _ 0 (len+xs.length) ⟨o.sz,o.es++xs.map AV.pur⟩ b _ _ (by rw[zan,yf1 ⟨rfl,rfl⟩]) (by simp[Cz.setB]) (fun _=>⟨rfl,by simp[Cz.setB]⟩) (fun _=>by simp) (by simp;omega) hroom
       ·obtain⟨w',Z',r,h1,h2,h3,h4⟩:=zhs (P:=P) (K:=K) (Z:=Z) (w:=w) (d:=d) (ty:=ty) (base:=some ⟨b,0,none⟩) (sLen:=len) (sCap:=Z.cap s g) (old:=ov) (es:=o.es) (xs:=xs.map AV.pur) (st:=st.kill s g) hA hB ht hu hi hzi hib hzl hp hhk (hv4 w.drew rfl)
         (run_firstCells_some w.drew i.size len ⟨b,0,none⟩ len _ ov (by rw[hol,hosz]) (fun j y hy=>by
          rw[zck,cell_of_row w.drew b _ cur T (0,0) k1];simpa using k3 j y hy))
         (by omega) hlim (k2.mono hzk) (hv1'.mono hzk)
         (fun q hq=>by
          rcases yfk.1 hq with h|h
          ·rw[<- hosz];exact hO.els q h
          ·exact hsz' q h)
         (fun q hq=>by
          rw[yhm]at hq;rcases yfk.1 hq with h|h
          ·exact hO.one q h
          ·exact hv2' q h) hlen.symm hxl
        exact zem h1 h2 h3 (hzk.trans h4)
      | ownD _ _ _ _ _ _ _ e2=>exact(za4 ho e2).elim
     ·cases he
    ·cases he
   ·cases he
  ·cases he
 ·cases he
theorem z1c{A:Array TypeId}{t u ty e:TypeId}{k k':IntKind}{i:TypeInfo}{z:Value}(hA:A[0]?=some t)(hB:A[1]?=some u)(ht:P.underlying t=some (.slice e))(hu:P.underlying u=some (.int k))(hi:P.info? e=some i)(hz:i.zero=some z)
  {n:Nat} (h0:0<n) (hp:0<i.size) (hb:i.bytes<=65536) (hl:n<=LIM) :
  (Builtin.append_ A ty #[.slice none 0 0,.int k' n]).run P w =
   .ok (.slice (some ⟨w.heap.size,0,none⟩) n (grownCap w n 0 e)) (w.drew.alloc (.cells (Builtin.zeroCells z.cells n++Builtin.zeroCells z.cells (grownCap w n 0 e - n)) e)):=by
 simp[LIM]at hl;have hw:IntKind.i64.wrap (n:Int)=n:=IntWalk.i64_in n ⟨by omega,by omega⟩;have hneg:¬ ((n:Int)<0):=by omega
 have hn:¬ n=0:=by omega
 have h63':¬ (9223372036854775807<(n:Int)):=by omega
 have hbb:n*i.bytes<=140737488355328:=yf7 (yfz hl hb) (by decide);have hbi:¬ (281474976710656<(n:Int)*(i.bytes:Int)):=by omega
 have h48:=growslice_fits (old:=0) (need:=n) (by omega) hbb;have h48':¬ (281474976710656<Builtin.nextslicecap n 0*i.bytes):=by omega
 have hsz:¬ (n=0\/i.size=0):=by omega
 have hz2:¬ (n*i.size=0):=by rw[Nat.mul_eq_zero];exact hsz
 have hmx:max (n:Int) 0=n:=by omega
 simp[Builtin.append_,hA,hB,run_underlying ht,run_underlying hu,sizeOf,typeInfo,zeroValue,hi,hz,asInt,asIntOf,hw,hneg,hn,hbi,h63',h48',hz2,hmx,Question.forced,newRow,grownCap,Builtin.firstCells]
theorem zr5{A:Array TypeId}{t u ty e:TypeId}{k:IntKind}{x y:Operand}{x' y':Opd}{zv:AV}(hA:A[0]?=some t)(hB:A[1]?=some u)(ht:P.underlying t=some (.slice e))(hu:P.underlying u=some (.int k))
  (hz:zes P e=some zv) (hb:P.bytesOf e<=65536) (hx:zag x=some x') (hy:zag y=some y') (hs:StRep K Z st w a)
  (he:eff orc st d (.appendz (tsz P e) zv x' y')=some (v,st')) :
  Good P K Z st ((do pure (Next.value (<- Builtin.append_ A ty #[a.eval x,a.eval y])):Sem Next).run P w) v st':=by
 have hrx:=zaq hx hs;have hry:=zaq hy hs;obtain⟨i,z,hi,hzi,hzr⟩:=zd2 hz;have hisz:i.size=tsz P e:=by simp[tsz,Program.cellsOf,hi]
 have hib:i.bytes<=65536:=by simpa[Program.bytesOf,hi]using hb
 rw[<- hisz]at he;generalize a.eval x=X at hrx ⊢;simp[eff]at he;split at he
 ·rename_i n h1 h2;split at he
  ·rename_i hc;obtain⟨hn0,hl,hzs,hp⟩:=hc;obtain⟨rfl,rfl⟩:=he;rw[h1]at hrx;cases hrx;obtain⟨k1,e1⟩:=zbt h2;rw[e1]at hry;rw[hry.inv_int];have hr:=z1c (P:=P) (w:=w) (ty:=ty) (k':=k1) hA hB ht hu hi hzi hn0 hp hib hl;have hge:=grownCap_ge w n 0 e;have hmax:n<=maxLen:=by simp[LIM]at hl;simp[maxLen];omega
   have hgm:=grownCap_le_maxLen w n 0 e hmax;generalize grownCap w n 0 e=C at *
   have hz0:=zks (hzr Z st);obtain⟨y1,y2,y3⟩:=hz0.cells (by rw[zf1,hzs];exact hp);have hzl:z.cells.size=i.size:=by have:=y1.length;simp at this;rw[this,y2,zf1,hzs]
   have hzc:∀ m,(Builtin.zeroCells z.cells m).toList=(List.replicate m z.cells.toList).flatten:=fun m=>zei z.cells m
   have hal:=hs.heap.drew.alloc d ⟨i.size,List.replicate n zv.pur⟩ (Builtin.zeroCells z.cells n++Builtin.zeroCells z.cells (C - n)) e C (Builtin.zeroCells z.cells n).toList hp
    (fun q hq=>by rw[(yhs.1 hq).2,zf1,hzs])
    (fun q hq=>by
     rw[zbg]at hq;obtain⟨l,h1,h2⟩:=yje.1 hq;rw[(yhs.1 h1).2]at h2;exact y3 q h2)
    (by rw[hzc,zbg];exact zcg y1 n)
    (by
     have:=zms (cur:=(Builtin.zeroCells z.cells n).toList++(Builtin.zeroCells z.cells (C - n)).toList) (vals:=(Builtin.zeroCells z.cells n).toList) rfl;intro j y hj;have:=this j y hj;rw[<- this]
     congr 1
     simp)
    (by simp[Array.size_append,zf9,hzl,<- Nat.add_mul];congr 1;omega)
    (by simp;omega) hgm
   refine zem hr hal ?_ (ZLe.alloc _ _ _ _ _ _);exact .own d _ 0 n ⟨i.size,List.replicate n zv.pur⟩ w.heap.size _ C (by rw[zan,yf1 ⟨rfl,rfl⟩]) (by simp[Cz.setB]) (fun _=>⟨rfl,by simp[Cz.setB]⟩) (fun _=>by simp) (by simp) hge
  ·grind
 ·grind
theorem z2u{t:TypeId}{x i:Operand}{x' i':Opd}(ht:P.underlying t=some .string)(hx:zag x=some x')(hi:zag i=some i')(hs:StRep K Z st w a)
  (he:eff orc st d (.sidx x' i')=some (v,st')) :
  Good P K Z st ((do pure (Next.value (<- Instr.index t (a.eval x) (a.eval i))):Sem Next).run P w) v st':=by
 have hrx:=zaq hx hs;have hri:=zaq hi hs;generalize a.eval x=X at hrx ⊢;simp[eff]at he;split at he
 ·rename_i s n h1 h2;split at he
  ·rename_i b hb;obtain⟨rfl,rfl⟩:=he;obtain⟨k1,e1⟩:=zbt h2;rw[e1]at hri;rw[hri.inv_int];rw[h1]at hrx;cases hrx.inv_p;have hr:(Instr.index t (.string s) (.int k1 n)).run P w=.ok (.int .u8 b.toNat) w:=by simp[Instr.index,asIntOf,run_underlying ht,hb]
   exact zap hr hs (.p _ _ (.int _ _))
  ·grind
 ·grind
end
section
variable {P:Program} {K:Ctx} {Z Z':Cz} {st st':St} {w w':World} {a:Act} {orc:Option PCall} {d:Nat} {v:AV}
theorem zr1{M:Nat->Option Obj}:∀ {xs ys:List PV} {us vs:List Value} {qs qs':List IntKind},zcl qs xs=true->zcl qs' ys=true->PReps M xs us->PReps M ys vs->(eqI xs ys=true ↔ us=vs)
 | [],[],us,vs,_,_,_,_,h1,h2=>by cases h1;cases h2;simp[eqI]
 | [],y::ys,us,vs,_,_,_,_,h1,h2=>by
  cases h1;cases h2;cases y<;>simp[eqI]
 | x::xs,[],us,vs,_,_,_,_,h1,h2=>by
  cases h1;cases h2;cases x<;>simp[eqI]
 | x::xs,y::ys,us,vs,q::qs,q'::qs',k1,k2,h1,h2=>by
  cases x<;>simp only[zcl,yfl]at k1;cases y<;>simp only[zcl,yfl]at k2;rename_i k n k' n';cases h1 with
  | cons _ x1 _ xs1 hx hxs =>
   cases h2 with
   | cons _ y1 _ ys1 hy hys =>
    cases hx;cases hy;simp only[yfr]at k1 k2;have ih:=zr1 k1.2 k2.2 hxs hys;simp only[eqI,yfr,decide_eq_true_eq,List.cons.injEq,Value.int.injEq,ih]
 | x::xs,y::ys,us,vs,[],_,k1,_,_,_=>by cases x<;>simp[zcl]at k1
 | x::xs,y::ys,us,vs,_::_,[],_,k2,_,_=>by cases y<;>simp[zcl]at k2
theorem zja{kt e:TypeId}{q:IntKind}{M:Nat->Option Obj}(he:P.underlying e=some (.int q))(hc:P.cellsOf e=1)(d:Nat):∀ (n:Nat) {kc:List PV} {vals:List Value},zcl (List.replicate n q) kc=true->PReps M kc vals ->
  vals.length=n/\∀ i,i<n->∃ l,P.keyLits (d+1) e ((vals.drop (i*P.cellsOf e)).take (P.cellsOf e))=some l
 | 0,[],vals,_,h=>by cases h;exact⟨rfl,fun i hi=>by omega⟩
 | 0,x::kc,vals,hk,h=>by simp[zcl]at hk
 | n+1,[],vals,hk,h=>by simp[yh9,zcl]at hk
 | n+1,x::kc,vals,hk,h=>by
  rw[yh9]at hk;cases x<;>simp only[zcl,yfl]at hk;rename_i k m;simp only[yfr,decide_eq_true_eq]at hk;obtain⟨⟨rfl,hw⟩,hk⟩:=hk;cases h with
  | cons _ x1 _ xs1 hx hxs =>
   cases hx;obtain⟨i1,i2⟩:=zja (kt:=kt) he hc d n hk hxs;refine⟨by simp[i1],fun i hi=>?_⟩;rw[hc]at i2 ⊢;cases i with
   | zero=>exact⟨[.int k m],by simp[Program.keyLits,he,hw]⟩
   | succ i=>simpa using i2 i (by omega)
theorem zgk{α β : Type}{f : α -> Option β}:∀ {l:List α},(∀ x∈l,∃ y,f x=some y)->∃ ys,l.mapM f=some ys
 | [],_=>⟨[],rfl⟩
 | x::l,h=>by obtain⟨y,hy⟩:=h x (by simp);obtain⟨ys,hys⟩:=zgk (l:=l) fun z hz=>h z (by simp[hz]);exact⟨y::ys,by simp[yhz,hy,hys]⟩
theorem zm3{kt e:TypeId}{n:Nat}{q:IntKind}{M:Nat->Option Obj}(hk:P.underlying kt=some (.array n e))(he:P.underlying e=some (.int q))(hn:P.cellsOf kt=n)(hc:P.cellsOf e=1)(h0:0<P.types.size)
  {kc:List PV} {vals:List Value} (hok:zcl (List.replicate n q) kc=true) (hr:PReps M kc vals):∃ l,keyOf P kt (.agg vals.toArray)=some l:=by
 obtain⟨d,hd⟩:∃ d,P.types.size+1=d+2:=⟨P.types.size - 1,by omega⟩;have h1:P.keyType kt=true:=by unfold Program.keyType;rw[hd];simp[Program.keyTypeAt,hk,he]
 obtain⟨k1,k2⟩:=zja (kt:=kt) he hc d n hok hr;have h2:(Value.agg vals.toArray).formed P kt=true:=by simp[Value.formed,hk,hn,k1]
 obtain⟨ys,hys⟩:=zgk (l:=List.range n) (f:=fun i=>P.keyLits (d+1) e ((vals.drop (i*P.cellsOf e)).take (P.cellsOf e))) fun i hi=>k2 i (ygy.1 hi);refine⟨.string (keyBytes ys.flatten),?_⟩
 ·simp only[keyOf,hk,h1,h2,Bool.and_self,yf2,hd];rw[show d+2=(d+1)+1 from rfl,Program.keyLits.eq_def];simp only[hk,Value.cells,k1,hn,yf2,hys,yi0]
theorem ztt{kt e:TypeId}{n:Nat}{q:IntKind}(hk:P.underlying kt=some (.array n e))(he:P.underlying e=some (.int q))(hn:P.cellsOf kt=n)(hc:P.cellsOf e=1):WideMaps.KeyLaw P kt :=
 deep_law (m:=2) (by omega) (by simp[Program.keyTypeAt,hk,he]) (by simp[Program.tiled,hk,he,hn,hc]) (by simp[hk])
theorem zm4{M:Nat->Option Obj}(d:Nat):∀ {fs:List Field} {j:Nat} {qs:List IntKind} {kc:List PV} {vals pre:List Value},zvb P fs j=some qs->zcl qs kc=true->PReps M kc vals->pre.length=j ->
  vals.length=fs.length/\(∀ f∈fs,(f.name != "_")=true)/\∀ f∈fs,∃ y,P.keyLits (d+1) f.type (((pre++vals).drop f.offset).take (P.cellsOf f.type))=some y
 | [],j,qs,kc,vals,pre,h,hk,hv,_=>by
  simp only[zvb,yf3]at h;subst h;cases kc with
  | nil=>cases hv;exact⟨rfl,by simp,by simp⟩
  | cons x kc=>simp[zcl]at hk
 | f::fs,j,qs,kc,vals,pre,h,hk,hv,hp=>by
  simp only[zvb]at h;split at h
  ·rename_i q hq;split at h
   ·rename_i hc;obtain⟨h1,h2,h3⟩:=hc;cases hks:zvb P fs (j+1)with
    | none=>rw[hks]at h;cases h
    | some qs' =>
     rw[hks]at h;simp only[yi0,yf3]at h;subst h;cases kc with
     | nil=>simp[zcl]at hk
     | cons x kc =>
      cases x<;>simp only[zcl,yfl]at hk;rename_i k m;simp only[yfr,decide_eq_true_eq]at hk;obtain⟨⟨rfl,hw⟩,hk⟩:=hk;cases hv with
      | cons _ x1 _ xs1 hx hxs =>
       cases hx;obtain⟨i1,i2,i3⟩:=zm4 d (pre:=pre++[.int k m]) hks hk hxs (by simp[hp]);refine⟨by simp[i1],fun g hg=>?_,fun g hg=>?_⟩
       ·rcases yf4.1 hg with rfl|hg
        ·simpa using h1
        ·exact i2 g hg
       ·rcases yf4.1 hg with rfl|hg
        ·refine⟨[.int k m],?_⟩;rw[h2,h3,<- hp];simp[Program.keyLits,hq,hw]
        ·simpa using i3 g hg
   ·cases h
  ·cases h
theorem zvq{kt:TypeId}{qs:List IntKind}(h:zsc P kt=some qs):WideMaps.KeyLaw P kt/\∀ {M:Nat->Option Obj} {kc:List PV} {vals:List Value},zcl qs kc=true->PReps M kc vals->∃ l,keyOf P kt (.agg vals.toArray)=some l:=by
 unfold zsc at h;split at h
 ·rename_i n e hk;split at h
  ·rename_i q he;split at h
   ·rename_i hc;cases h;exact⟨ztt hk he hc.1 hc.2.1,fun h1 h2=>zm3 hk he hc.1 hc.2.1 hc.2.2 h1 h2⟩
   ·cases h
  ·cases h
 ·rename_i fs hk;split at h
  ·rename_i hc;obtain⟨c1,c2,c3,c4,c5⟩:=hc;refine⟨deep_law (m:=2) (by omega) c1 c3 (by simp[hk]),fun {M kc vals} h1 h2=>?_⟩;obtain⟨d,hd⟩:∃ d,P.types.size+1=d+2:=⟨P.types.size - 1,by omega⟩;obtain⟨k1,k2,k3⟩:=zm4 (pre:=[]) d h h1 h2 rfl;have hl:vals.length=P.cellsOf kt:=by rw[k1,c4];simp
   have hf:(Value.agg vals.toArray).formed P kt=true:=by simp[Value.formed,hk,hl]
   obtain⟨ys,hys⟩:=zgk (l:=fs.toList) (f:=fun f=>P.keyLits (d+1) f.type ((vals.drop f.offset).take (P.cellsOf f.type))) fun f hf=>by simpa using k3 f hf
   have hall:fs.all (fun f=>f.name != "_")=true:=by rw[Array.all_eq_true_iff_forall_mem];intro f hf;exact k2 f (by simpa using hf)
   refine⟨.string (keyBytes ys.flatten),?_⟩;simp only[keyOf,hk,c2,hf,Bool.and_self,yf2,hd];rw[show d+2=(d+1)+1 from rfl,Program.keyLits.eq_def];simp only[hk,Value.cells,hl,hall,and_self,yf2,hys,yi0]
  ·cases h
 ·cases h
theorem zit{kt:TypeId}{qs:List IntKind}{M:Nat->Option Obj}(h:∀ {kc:List PV} {vals:List Value},zcl qs kc=true->PReps M kc vals->∃ l,keyOf P kt (.agg vals.toArray)=some l):∀ {ks:List PV} {es:List MapEntry},ks.all (zek qs)=true->PReps M ks (es.map (·.key))->∀ e∈es,∃ l,keyOf P kt e.key=some l
 | [],[],_,_,e,he=>by cases he
 | [],e::es,_,h,_,_=>by cases h
 | k::ks,[],_,h,_,_=>by cases h
 | k::ks,e::es,ha,hr,e',he'=>by
  simp only[yi1,yfr]at ha;simp only[yfq]at hr;cases hr with
  | cons _ _ _ _ hk0 hks =>
   rcases yf4.1 he' with rfl|he'
   ·obtain⟨ha,_⟩:=ha;cases k<;>simp only[zek,yfl]at ha;generalize e'.key=ek at hk0;cases hk0 with
    | agg _ us _ hus=>exact h ha hus
   ·exact zit h ha.2 hks e' he'
theorem zi7{M:Nat->Option Obj}{qs:List IntKind}{kc:List PV}{vals:List Value}(hok:zcl qs kc=true)(hr:PReps M kc vals):∀ {ks vs:List PV} {es:List MapEntry},ks.all (zek qs)=true->PReps M ks (es.map (·.key))->PReps M vs (es.map (·.val))->(es.map (·.key)).Nodup ->
  ((∀ e:MapEntry,e∈es->e.key ≠ .agg vals.toArray)->zbu kc ks vs=none)/\∀ (j:Nat) (e:MapEntry),es[j]?=some e->e.key=.agg vals.toArray->∃ v,zbu kc ks vs=some v/\PRep M v e.val
 | [],vs,es,_,h1,h2,_=>by
  cases es with
  | nil=>cases h2;exact⟨fun _=>rfl,fun j e h=>by simp at h⟩
  | cons e es=>cases h1
 | k::ks,vs,[],_,h1,_,_=>by cases h1
 | k::ks,vs,e::es,ha,h1,h2,hnd=>by
  simp only[yi1,yfr]at ha;simp only[yfq]at h1 h2 hnd;cases h1 with
  | cons _ _ _ _ hk hks =>
   cases h2 with
   | cons v _ vs _ hv hvs =>
    obtain⟨i1,i2⟩:=zi7 hok hr ha.2 hks hvs (ygn.1 hnd).2;cases k<;>simp only[zek,yfl,false_and]at ha;rename_i c;generalize hek:e.key=ek at hk hnd;cases hk with
    | agg _ us _ hus =>
     have heq:=zr1 ha.1 hok hus hr;have hval:(Value.agg us.toArray=.agg vals.toArray) ↔ us=vals:=by
      constructor
      ·intro h;have:=congrArg (fun v=>match v with|Value.agg cs=>cs.toList|_=>[]) h;simpa using this
      ·rintro rfl;rfl
     by_cases hu:us=vals
     ·refine⟨fun h=>absurd (hek.trans (hval.2 hu)) (h e (by simp)),fun j e' hj hke=>?_⟩;have hfind:zbu kc (.agg c::ks) (v::vs)=some v:=by simp[zbu,heq.2 hu]
      cases j with
      | zero=>simp at hj;subst hj;exact⟨v,hfind,hv⟩
      | succ j =>
       exfalso;simp at hj;have hm:e'∈es:=yhi hj;refine(ygn.1 hnd).1 (yf6.2 ⟨e',hm,?_⟩);rw[hke];exact(hval.2 hu).symm
     ·have hne:¬ eqI c kc=true:=fun h=>hu (heq.1 h);have hfind:zbu kc (.agg c::ks) (v::vs)=zbu kc ks vs:=by simp[zbu,hne]
      rw[hfind];refine⟨fun h=>i1 fun x hx=>h x (by simp[hx]),fun j e' hj hke=>?_⟩;cases j with
      | zero=>simp at hj;subst hj;exact absurd (hval.1 (hek.symm.trans hke)) hu
      | succ j=>exact i2 j e' (by simpa using hj) hke
end
section
variable {P:Program} {K:Ctx} {Z Z':Cz} {st st':St} {w w':World} {a:Act} {orc:Option PCall} {d:Nat} {v:AV}
theorem zvf{t:TypeId}{k:Option IntKind}(h:zen P t=some k):(isAgg t).run P w=.ok false w:=by unfold zen at h;split at h<;>first|(rename_i e;rw[zgb w e];rfl)|cases h
theorem zh8{t:TypeId}{k:Option IntKind}{cs:Array Value}{j:Nat}{x:Value}(h:zen P t=some k)(hx:cs[j]?=some x):(part t cs j).run P w=.ok x w:=by simp[part,zvf (w:=w) h,hx]
theorem z4p{M:Nat->Option Obj}{t:TypeId}{k:Option IntKind}{ks:List (Option IntKind)}{dp:Nat}{u z:PV}{us zs:List PV}{x y:Value}{r:Bool}(ht:zen P t=some k)(h1:PRep M u x)(h2:PRep M z y)
  (he:zcf (k::ks) (u::us) (z::zs)=some r) :
  ∃ b r',(Op.equalIn (dp+1) t x y).run P w=.ok b w/\zcf ks us zs=some r'/\r=(b&&r'):=by
 unfold zen at ht;unfold zcf at he;split at he
 ·rename_i h;cases h
 ·rename_i k0 ks0 k1 a0 r0 k2 b0 s0 e1 e2 e3;cases e1;cases e2;cases e3;cases h1;cases h2;split at he
  ·rename_i hk;obtain⟨rfl,rfl⟩:=hk;split at he
   ·rename_i r' hr';cases he;split at ht
    ·rename_i e;exact⟨_,r',run_equalIn_int w dp t _ _ a0 b0 e,hr',rfl⟩
    ·cases ht
    ·cases ht
   ·cases he
  ·cases he
 ·rename_i ks0 a0 r0 b0 s0 e1 e2 e3;cases e1;cases e2;cases e3;cases h1;cases h2;split at he
  ·rename_i r' hr';cases he;split at ht
   ·cases ht
   ·rename_i e;exact⟨_,r',run_equalIn_bool w dp t a0 b0 e,hr',rfl⟩
   ·cases ht
  ·cases he
 ·cases he
theorem zji{k:Option IntKind}{ks:List (Option IntKind)}{xs ys:List PV}{r:Bool}(h:zcf (k::ks) xs ys=some r):∃ u us z zs,xs=u::us/\ys=z::zs:=by
 cases xs with
 | nil=>cases k<;>simp[zcf]at h
 | cons u us =>
  cases ys with
  | nil=>cases k<;>cases u<;>simp[zcf]at h
  | cons z zs=>exact⟨u,us,z,zs,rfl,rfl⟩
theorem zlt{M:Nat->Option Obj}{dp:Nat}{X Y:Array Value}:∀ (fs:List Field) (j:Nat) (ks:List (Option IntKind)) (cx cy:List PV) (xs ys:List Value) (r:Bool),ze9 P fs j=some ks ->
  PReps M cx xs->PReps M cy ys->X.toList.drop j=xs->Y.toList.drop j=ys->zcf ks cx cy=some r->(Op.eqFields (dp+1) X Y fs).run P w=.ok r w
 | [],j,ks,cx,cy,xs,ys,r,hf,_,_,_,_,he=>by
  simp[ze9]at hf;subst hf;cases cx<;>cases cy<;>simp[zcf]at he;subst he;rfl
 | f::fs,j,ks,cx,cy,xs,ys,r,hf,hx,hy,eX,eY,he=>by
  simp only[ze9]at hf;split at hf
  ·rename_i hc;obtain⟨hn,rfl⟩:=hc;split at hf
   ·rename_i k l hk hl;cases hf;obtain⟨u,us,z,zs,rfl,rfl⟩:=zji he;cases hx with
    | cons _ x _ xs' h1 h2 =>
     cases hy with
     | cons _ y _ ys' h3 h4 =>
      obtain⟨b,r',e1,e2,rfl⟩:=z4p (P:=P) (w:=w) (dp:=dp) hk h1 h3 he;have gx:X[f.offset]?=some x:=by have:=congrArg (·[0]?) eX;simpa[List.getElem?_drop]using this
      have gy:Y[f.offset]?=some y:=by have:=congrArg (·[0]?) eY;simpa[List.getElem?_drop]using this
      have dx:X.toList.drop (f.offset+1)=xs':=by rw[<- List.drop_drop,eX];rfl
      have dy:Y.toList.drop (f.offset+1)=ys':=by rw[<- List.drop_drop,eY];rfl
      have ih:=zlt (dp:=dp) fs (f.offset+1) l us zs xs' ys' r' hl h2 h4 dx dy e2;simp only[Op.eqFields,hn,ne_eq,not_false_eq_true,yf2,yfx,zh8 hk gx,zh8 hk gy,yg8,e1];cases b
      ·simp
      ·simpa using ih
   ·cases hf
  ·cases hf
theorem zvi{M:Nat->Option Obj}{dp n:Nat}{X Y:Array Value}{e:TypeId}{k:Option IntKind}(hk:zen P e=some k)(hi:∃ i,P.info? e=some i/\i.size=1){t:TypeId}(ht:P.underlying t=some (.array n e)){cx cy:List PV}{r:Bool}
  (hx:PReps M cx X.toList) (hy:PReps M cy Y.toList) (he:zcf (List.replicate n k) cx cy=some r):(Op.equalIn (dp+2) t (.agg X) (.agg Y)).run P w=.ok r w:=by
 obtain⟨i,hi,hs⟩:=hi;obtain⟨D,hD⟩:∃ D,D=dp+1:=⟨_,rfl⟩;have e2:dp+2=D+1:=by omega
 rw[e2];simp only[Op.equalIn,yfx,run_underlying ht,yg8,sizeOf,typeInfo,run_program,hi,yg0,hs,Nat.mul_one];rw[Std.Legacy.Range.forIn_eq_forIn_range'];have hr:List.range' [:n].start [:n].size [:n].step=List.range' 0 n:=by simp[Std.Legacy.Range.size]
 rw[hr]
 have key:∀ (m j:Nat) (cx cy:List PV) (xs ys:List Value) (r:Bool),PReps M cx xs->PReps M cy ys->X.toList.drop j=xs->Y.toList.drop j=ys->zcf (List.replicate m k) cx cy=some r ->
   ((Sem.run P (forIn (m:=Sem) (List.range' j m) ((none:Option Bool),()) fun i __s=>do
      let __do_lift <- part e X i
      let __do_lift_1 <- part e Y i
      let __do_lift <- Op.equalIn D e __do_lift __do_lift_1
      if (!__do_lift)=true then pure (ForInStep.done (some false,()))else pure (ForInStep.yield (none,()))) w).andThen
    fun a w'=>Sem.run P (match a.fst with|some r=>pure r|none=>pure true) w')=.ok r w:=by
  intro m
  induction m with
  | zero =>
   intro j cx cy xs ys r hx hy eX eY he;cases cx<;>cases cy<;>simp[zcf]at he;subst he;simp
  | succ m ih =>
   intro j cx cy xs ys r hx hy eX eY he;rw[yh9]at he;obtain⟨u,us,z,zs,rfl,rfl⟩:=zji he;cases hx with
   | cons _ x _ xs' h1 h2 =>
    cases hy with
    | cons _ y _ ys' h3 h4 =>
     obtain⟨b,r',e1,e2,rfl⟩:=z4p (P:=P) (w:=w) (dp:=dp) hk h1 h3 he;rw[<- hD]at e1;have gx:X[j]?=some x:=by have:=congrArg (·[0]?) eX;simpa[List.getElem?_drop]using this
     have gy:Y[j]?=some y:=by have:=congrArg (·[0]?) eY;simpa[List.getElem?_drop]using this
     have dx:X.toList.drop (j+1)=xs':=by rw[<- List.drop_drop,eX];rfl
     have dy:Y.toList.drop (j+1)=ys':=by rw[<- List.drop_drop,eY];rfl
     have ih:=ih (j+1) us zs xs' ys' r' h2 h4 dx dy e2;simp only[yix,List.forIn_cons,yfx,zh8 hk gx,zh8 hk gy,yg8,e1];cases b
     ·simp
     ·simpa using ih
 refine Eq.trans ?_ (key n 0 cx cy X.toList Y.toList r hx hy rfl rfl he)
 congr 1
 funext p w';rcases p with⟨_|_,_⟩<;>rfl
theorem z24{op:BinOp}{t:TypeId}{ks:List (Option IntKind)}{x y:Operand}{x' y':Opd}(hk:zlp P t=some ks)(hx:zag x=some x')(hy:zag y=some y')(hs:StRep K Z st w a)
  (he:eff orc st d (.abin ks op x' y')=some (v,st')) :
  Good P K Z st ((do pure (Next.value (<- (do eqGuard op t x y (a.eval x) (a.eval y);binOp op t (a.eval x) (a.eval y)))):Sem Next).run P w) v st':=by
 have h1:=zaq hx hs;have h2:=zaq hy hs;simp only[eff]at he;split at he
 ·rename_i r hr;simp only[yf3,yf5]at he;obtain⟨rfl,rfl⟩:=he;unfold abin at hr;split at hr
  ·rename_i xs ys e1 e2;rw[e1]at h1;rw[e2]at h2;have p1:=h1.inv_p;have p2:=h2.inv_p;generalize a.eval x=X at p1 ⊢;generalize a.eval y=Y at p2 ⊢;cases p1 with
   | agg _ vx _ k1 =>
    cases p2 with
    | agg _ vy _ k2 =>
     have key:∀ r,zcf ks xs ys=some r->(Op.equal t (.agg vx.toArray) (.agg vy.toArray)).run P w=.ok r w/\P.eqGuardType P.depth t=false:=by
      intro r hc;unfold zlp at hk;split at hk
      ·rename_i fs hu;split at hk
       ·rename_i hg;have hfs:P.underlying t=some (.struct (P.fieldsOf t)):=by simp[Program.fieldsOf,hu]
        have hft:P.fieldsOf t=fs:=by simp[Program.fieldsOf,hu]
        refine⟨?_,hg.2⟩;have:=run_equalIn_struct (P:=P) w 9999 t vx.toArray vy.toArray hfs hg.1;unfold Op.equal Op.maxDepth;rw[this,hft];exact zlt (dp:=9998) fs.toList 0 ks xs ys vx vy r hk k1 k2 (by simp) (by simp) hc
       ·cases hk
      ·rename_i n e hu;split at hk
       ·rename_i hg;obtain⟨kk,hkk,rfl⟩:=ygv.1 hk;have hi:∃ i,P.info? e=some i/\i.size=1:=by
         cases hi:P.info? e with
         | none=>simp[hi]at hg
         | some i=>simp[hi]at hg;exact⟨i,rfl,hg.1⟩
        exact⟨zvi (dp:=9998) hkk hi hu (by simpa using k1) (by simpa using k2) hc,hg.2⟩
       ·cases hk
      ·cases hk
     split at hr
     ·rename_i r' hc;obtain⟨q1,q2⟩:=key r' hc;cases hr;have hg:=run_eqGuard_agg (P:=P) w .eql t x y vx.toArray vy.toArray q2;exact zap (by simp[hg,binOp,q1]) hs (.p _ _ (.bool _))
     ·rename_i r' hc;obtain⟨q1,q2⟩:=key r' hc;cases hr;have hg:=run_eqGuard_agg (P:=P) w .neq t x y vx.toArray vy.toArray q2;exact zap (by simp[hg,binOp,q1]) hs (.p _ _ (.bool _))
     ·cases hr
  ·cases hr
 ·cases he
end
end Go.Ab
