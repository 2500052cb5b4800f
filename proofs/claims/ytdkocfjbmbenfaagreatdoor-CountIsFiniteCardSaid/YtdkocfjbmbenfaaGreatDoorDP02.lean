/-
Proofs for the law CountIsFinite, part 2. Conditions: none.
-/
import Derived.Test.YtdkocfjbmbenfaaGreatDoorDP01
import Derived.Laws.StructEq
set_option maxRecDepth 100000
set_option maxHeartbeats 4000000
set_option linter.all false
namespace Go.Ab
section
variable {P:Program} {K:Ctx} {Z Z':Cz} {st st':St} {w w':World} {a:Act} {orc:Option PCall} {d:Nat} {v:AV}
theorem zdq {s:Sem Value} {x:Value} (hr:s.run P w=.ok x w') (hh:HRep K Z' st' w') (hv:ARep Z' st' v x) (hz:ZLe Z st Z' st') :
  Good P K Z st ((do pure (Next.value (<- s)):Sem Next).run P w) v st':=by
 simp only [Sem.run_bind,hr,Result.andThen_ok,Sem.run_pure]
 exact ⟨_,x,w',Z',rfl,.inl rfl,hh,hv,hz⟩
theorem zaq {s:Sem Value} {x:Value} (hr:s.run P w=.ok x w) (hs:StRep K Z st w a) (hv:ARep Z st v x) :
  Good P K Z st ((do pure (Next.value (<- s)):Sem Next).run P w) v st:=zdq hr hs.heap hv (ZLe.refl Z st)
theorem z78 {s:Sem Unit} (hr:s.run P w=.ok () w') (hh:HRep K Z' st' w') (hz:ZLe Z st Z' st') :
  Good P K Z st ((do s; pure Next.skip:Sem Next).run P w) .undef st':=by
 simp only [Sem.run_bind,hr,Result.andThen_ok,Sem.run_pure]
 exact ⟨_,Go.undef,w',Z',rfl,.inr ⟨rfl,rfl⟩,hh,.undef _,hz⟩
theorem z3g {x:Operand} {y:Opd} (hx:zag x=some y) (hs:StRep K Z st w a) (he:eff orc st d (.mv y)=some (v,st')) :
  Good P K Z st ((pure (Next.value (a.eval x)):Sem Next).run P w) v st':=by
 simp only [eff,Option.some.injEq,Prod.mk.injEq] at he
 obtain ⟨rfl,rfl⟩:=he
 exact zba hs.heap (zap hx hs)
theorem z12 {c x y:Operand} {c' x' y':Opd} (hc:zag c=some c') (hx:zag x=some x') (hy:zag y=some y') (hs:StRep K Z st w a)
  (he:eff orc st d (.pick c' x' y')=some (v,st')) :
  Good P K Z st ((do pure (Next.value (if <- asBool (a.eval c) then a.eval x else a.eval y)):Sem Next).run P w) v st':=by
 have h1:=zap hc hs
 have h2:=zap hx hs
 have h3:=zap hy hs
 simp only [eff] at he
 split at he
 ·rename_i e; rw [e] at h1; rw [h1.inv_bool]
  simp only [Option.some.injEq,Prod.mk.injEq] at he
  obtain ⟨rfl,rfl⟩:=he
  simp only [asBool,Sem.run_bind,Sem.run_pure,Result.andThen_ok,if_true]
  exact zba hs.heap h2
 ·rename_i e; rw [e] at h1; rw [h1.inv_bool]
  simp only [Option.some.injEq,Prod.mk.injEq] at he
  obtain ⟨rfl,rfl⟩:=he
  simp only [asBool,Sem.run_bind,Sem.run_pure,Result.andThen_ok]
  exact zba hs.heap h3
 ·cases he
theorem ztl {sz:Nat} {x:AV} {X:Value} {e:TypeId} (hs:StRep K Z st w a) (hx:ARep Z st x X) (hsz:x.sz=sz) (hp:0<sz) :
  ∃ Z',(newVar e X).run P w=.ok ⟨w.heap.size,0,none⟩ (w.alloc (.cells X.cells e))/\HRep K Z' (st.alloc d ⟨sz,[x]⟩) (w.alloc (.cells X.cells e)) /\
   ARep Z' (st.alloc d ⟨sz,[x]⟩) (.ptr d (st.site d).length 0 0) (.pointer (some ⟨w.heap.size,0,none⟩))/\ZLe Z st Z' (st.alloc d ⟨sz,[x]⟩):=by
 obtain ⟨h1,h2,h3⟩:=hx.cells (by omega)
 have hh:=hs.heap.alloc d ⟨sz,[x]⟩ X.cells e 1 X.cells.toList hp (by simpa using hsz) (by simpa using h3) (by simpa using h1) (by simp)
  (by have:=h1.length; simp at this; simp; omega) (by simp) (by simp [maxLen])
 refine ⟨_,by simp [newVar,newRow],hh,?_,ZLe.alloc _ _ _ _ _ _⟩
 have:=ARep.ptr (Z:=Z.setB d (st.site d).length (some w.heap.size) 1) (st:=st.alloc d ⟨sz,[x]⟩) d (st.site d).length 0 0 ⟨sz,[x]⟩ w.heap.size (by rw [zam,if_pos ⟨rfl,rfl⟩]) (by simp [Cz.setB])
 simpa using this
theorem zzb {e:TypeId} {z:AV} (hz:zd4 P e=some z) (hs:StRep K Z st w a) (he:eff orc st d (.alloc (tsz P e) z)=some (v,st')) :
  Good P K Z st ((do pure (Next.value (<- Instr.alloc e true (.tuple #[]))):Sem Next).run P w) v st':=by
 obtain ⟨i,x,hi,hzv,hr⟩:=zc3 hz
 simp only [eff] at he
 split at he
 ·rename_i hc
  simp only [Option.some.injEq,Prod.mk.injEq] at he
  obtain ⟨rfl,rfl⟩:=he
  obtain ⟨Z',h1,h2,h3,h4⟩:=ztl (P:=P) (e:=e) (d:=d) hs (hr Z st) hc.1 hc.2
  exact zdq (by simp [Instr.alloc,zeroValue,typeInfo,hi,hzv,h1]) h2 h3 h4
 ·cases he
theorem z5n {e:TypeId} {x:Operand} {y:Opd} (hx:zag x=some y) (hs:StRep K Z st w a) (he:eff orc st d (.box (tsz P e) y)=some (v,st')) :
  Good P K Z st ((do pure (Next.value (<- Instr.box e (a.eval x))):Sem Next).run P w) v st':=by
 have hr:=zap hx hs
 simp only [eff] at he
 split at he
 ·rename_i hc
  simp only [Option.some.injEq,Prod.mk.injEq] at he
  obtain ⟨rfl,rfl⟩:=he
  obtain ⟨Z',h1,h2,h3,h4⟩:=ztl (P:=P) (e:=e) (d:=d) hs hr hc.1 hc.2
  exact zdq (by simp [Instr.box,h1]) h2 h3 h4
 ·cases he
theorem zy1 {t:TypeId} {p x:Operand} {q y:Opd} (hp:zag p=some q) (hx:zag x=some y) (ht:(P.info? t).isSome=true) (hs:StRep K Z st w a)
  (he:eff orc st d (.store (tsz P t) q y)=some (v,st')) :
  Good P K Z st ((do Instr.storeAt t (a.eval p) (a.eval x); pure Next.skip:Sem Next).run P w) v st':=by
 have hr:=zap hp hs
 have hy:=zap hx hs
 obtain ⟨i,hi⟩:=Option.isSome_iff_exists.1 ht
 have hsi:i.size=tsz P t:=by simp [tsz,Program.cellsOf,hi]
 generalize tsz P t=sz at *
 simp only [eff] at he
 generalize a.eval p=X at hr ⊢
 generalize a.eval x=Y at hy ⊢
 generalize st.ev y=yv at *
 split at he
 ·rename_i s g ix off hev
  rw [hev] at hr
  split at he
  ·rename_i o ho
   obtain ⟨b,hb,hxe⟩:=zed hr ho
   have hO:=hs.heap.objs s g o ho
   obtain ⟨cur,T,vals,k1,k2,k3,k4,k5,k6⟩:=hO.blk b hb
   split at he
   ·rename_i e hix
    have hes:∀ e∈o.es,(AV.cells e).length=o.sz:=fun e he=>by rw [AV.cells_len (by rw [hO.els e he]; exact hO.pos),hO.els e he]
    have hseg:=zhy AV.cells o.sz o.es ix e hes hix
    have hlt:=zrp AV.cells o.sz o.es ix e hes hix
    have hem:e∈o.es:=List.mem_of_getElem? hix
    have hone:∀ c∈e.cells,c.one=true:=fun c hc=>hO.one c (List.mem_flatMap.2 ⟨e,hem,hc⟩)
    have hixl:ix<o.es.length:=(List.getElem?_eq_some_iff.1 hix).1
    obtain ⟨rest,hrest⟩:=zst k3
    have hvl:=k2.length
    have key:∀ (e':AV) (off:Nat),0<yv.sz->e'.sz=o.sz->e'.cells=e.cells.take off++yv.cells++e.cells.drop (off+yv.cells.length)->off+yv.cells.length<=e.cells.length->yv.cells.length=sz ->
      Good P K Z st ((do Instr.storeAt t (.pointer (some ⟨b,ix*o.sz+off,none⟩)) Y; pure Next.skip:Sem Next).run P w) .undef (st.setObj s g ⟨o.sz,o.es.set ix e'⟩):=by
     intro e' off hpos hsz' hcells hle hysz
     obtain ⟨y1,y2,y3⟩:=hy.cells hpos
     have hyl:=y1.length
     have hel:=hes e hem
     have hcur:cur.size=(vals++rest).length:=by rw [<- hrest]; simp
     have hYsz:Y.cells.size=sz:=by have:=hyl; simp at this; omega
     have hst:=z0g (P:=P) (t:=t) (sz:=sz) (x:=Y) (o:=ix*o.sz+off) hi hsi k1 hYsz (by rw [hcur]; simp; omega) (zb3 y1 y3)
     have hle':ix*o.sz+off+sz<=vals.length:=by omega
     have hnew:(cur.toList.take (ix*o.sz+off)++Y.cells.toList++cur.toList.drop (ix*o.sz+off+sz)) =
       (vals.take (ix*o.sz+off)++Y.cells.toList++vals.drop (ix*o.sz+off+sz))++rest:=by
      rw [hrest,List.take_append_of_le_length (by omega),List.drop_append_of_le_length (by omega)]
      simp [List.append_assoc]
     have hflat:(o.es.set ix e').flatMap AV.cells=(o.es.flatMap AV.cells).take (ix*o.sz+off)++yv.cells++(o.es.flatMap AV.cells).drop (ix*o.sz+off+sz):=by
      rw [zoi AV.cells o.sz o.es ix e' hes hixl,hcells,<- hseg,hysz]
      have e1:List.take off (List.take o.sz (List.drop (ix*o.sz) (o.es.flatMap AV.cells)))=List.drop (ix*o.sz) (List.take (ix*o.sz+off) (o.es.flatMap AV.cells)):=by
       rw [List.take_take,List.drop_take]
       congr 1; omega
      have e2:List.drop (off+sz) (List.take o.sz (List.drop (ix*o.sz) (o.es.flatMap AV.cells)))++List.drop (ix*o.sz+o.sz) (o.es.flatMap AV.cells)=List.drop (ix*o.sz+off+sz) (o.es.flatMap AV.cells):=by
       rw [List.drop_take,List.drop_drop,<- Nat.add_assoc]
       have h1:ix*o.sz+o.sz=(ix*o.sz+off+sz)+(o.sz - (off+sz)):=by omega
       have h2:List.drop (ix*o.sz+o.sz) (o.es.flatMap AV.cells)=List.drop (o.sz - (off+sz)) (List.drop (ix*o.sz+off+sz) (o.es.flatMap AV.cells)):=by
        rw [List.drop_drop,<- h1]
       rw [h2]
       exact List.take_append_drop _ _
      rw [e1]
      have e3:List.take (ix*o.sz) (o.es.flatMap AV.cells)++List.drop (ix*o.sz) (List.take (ix*o.sz+off) (o.es.flatMap AV.cells))=List.take (ix*o.sz+off) (o.es.flatMap AV.cells):=by
       have:=List.take_append_drop (ix*o.sz) (List.take (ix*o.sz+off) (o.es.flatMap AV.cells))
       rw [List.take_take,Nat.min_eq_left (by omega)] at this
       exact this
      simp only [List.append_assoc] at e3 ⊢
      rw [<- List.append_assoc,e3,e2]
     have hh:=hs.heap.setObj ho hb (o.es.set ix e') (cur.toList.take (ix*o.sz+off)++Y.cells.toList++cur.toList.drop (ix*o.sz+off+sz)).toArray
      (vals.take (ix*o.sz+off)++Y.cells.toList++vals.drop (ix*o.sz+off+sz))
      (fun z hz=>by
       rcases List.mem_or_eq_of_mem_set hz with h|h
       ·exact hO.els z h
       ·rw [h]; exact hsz')
      (fun c hc=>by
       rw [hflat] at hc
       rcases List.mem_append.1 hc with h|h
       ·rcases List.mem_append.1 h with h|h
        ·exact hO.one c (List.mem_of_mem_take h)
        ·exact y3 c h
       ·exact hO.one c (List.mem_of_mem_drop h))
      (by simp)
      (by rw [hflat]; exact ((k2.take _).append y1).append (k2.drop _))
      (zkp hnew)
      (by
       have:(cur.toList.take (ix*o.sz+off)++Y.cells.toList++cur.toList.drop (ix*o.sz+off+sz)).length=cur.size:=by
        have hc2:cur.toList.length=cur.size:=by simp
        simp only [List.length_append,List.length_take,List.length_drop,hc2,Array.length_toList,hYsz]
        rw [hcur]; simp; omega
       simp only [List.size_toArray,this]; exact k4)
     exact z78 (by rw [zq2]; exact hst) hh (ZLe.setObj Z st s g o _ ho rfl (by simp))
    split at he
    ·rename_i hys
     split at he
     ·rename_i hc
      obtain ⟨rfl,hc2⟩:=hc
      simp only [Option.some.injEq,Prod.mk.injEq] at he
      obtain ⟨rfl,rfl⟩:=he
      have hp1:0<yv.sz:=by omega
      have hl1:=AV.cells_len hp1
      have hel:=hes e hem
      rw [hxe]
      exact key yv 0 hp1 (by omega) (by simp [List.drop_of_length_le (show e.cells.length<=yv.cells.length from by omega)]) (by omega) (by omega)
     ·split at he
      ·rename_i e' hset
       simp only [Option.some.injEq,Prod.mk.injEq] at he
       obtain ⟨rfl,rfl⟩:=he
       unfold AV.setSeg at hset
       split at hset
       ·rename_i hb2
        cases hset
        rw [hxe]
        have hel:=hes e hem
        have hp1:0<yv.sz:=by omega
        have hl1:=AV.cells_len hp1
        exact key _ off hp1 (by rw [zsj,if_neg]<;>simp<;>omega) (zln _) hb2.1 (by omega)
       ·cases hset
      ·cases he
    ·cases he
   ·cases he
  ·cases he
 ·cases he
end
end Go.Ab
namespace Go.Ab
section
variable {P:Program} {K:Ctx} {Z Z':Cz} {st st':St} {w w':World} {a:Act} {orc:Option PCall} {d:Nat} {v:AV}
theorem zy3 {msg:String} {x:Operand} {y:Opd} (hx:zag x=some y) (hs:StRep K Z st w a) (he:eff orc st d (.nilck y)=some (v,st')) :
  Good P K Z st ((match a.eval x with
  | .pointer none | .nilIface | .nilFunc=>runtimePanic .nilDeref
  | .func (.method name) first captured =>
   match (first[0]?:Option Value) with
   | some .nilIface=>runtimePanic .nilDeref
   | some (.iface t w)=>do
    if (<- nilAhead ((<- program).types.size+Made.depth) t w name) != some false then
     unsupported (.noEntry msg)
    pure (.value (.func (.method name) first captured))
   | _=>pure (.value (.func (.method name) first captured))
  | x=>pure (.value x):Sem Next).run P w) v st':=by
 have hr:=zap hx hs
 generalize a.eval x=X at hr ⊢
 simp only [eff] at he
 split at he
 ·rename_i s g ix off hev
  rw [hev] at hr
  split at he
  ·rename_i o ho
   simp only [Option.some.injEq,Prod.mk.injEq] at he
   obtain ⟨rfl,rfl⟩:=he
   obtain ⟨b,hb,rfl⟩:=zed hr ho
   exact zba hs.heap hr
  ·cases he
 ·rename_i hev
  rw [hev] at hr
  simp only [Option.some.injEq,Prod.mk.injEq] at he
  obtain ⟨rfl,rfl⟩:=he
  have hp:=hr.inv_p
  cases hp with
  | fn f caps vals h=>exact zba hs.heap hr
 ·rename_i hev
  rw [hev] at hr
  simp only [Option.some.injEq,Prod.mk.injEq] at he
  obtain ⟨rfl,rfl⟩:=he
  cases hr with
  | fn _ _ vals h=>exact zba hs.heap (.fn _ _ vals h)
 ·rename_i hev
  rw [hev] at hr
  simp only [Option.some.injEq,Prod.mk.injEq] at he
  obtain ⟨rfl,rfl⟩:=he
  have hp:=hr.inv_p
  cases hp with
  | ref v b o cur T fr vals h0 h1 h2 h3 h4=>exact zba hs.heap hr
 ·rename_i hev
  rw [hev] at hr
  simp only [Option.some.injEq,Prod.mk.injEq] at he
  obtain ⟨rfl,rfl⟩:=he
  cases hr with
  | cp _ _ _ b o cur T fr vals h0 h1 h2 h3 h4 h5=>exact zba hs.heap (.cp _ _ _ b o cur T fr vals h0 h1 h2 h3 h4 h5)
 ·cases he
theorem zuj {op:BinOp} {k:IntKind} {x y:Int} {r:PV} {t:TypeId} {M:Nat->Option Obj} (hk:zdk op=false) (h:zi7 op k x y=some r) :
  ∃ z,(binOp op t (.int k x) (.int k y)).run P w=.ok z w/\PRep M r z:=by
 cases op<;>simp only [zdk,Bool.true_eq_false] at hk<;>simp only [zi7] at h <;>
  first
  | (cases h; refine ⟨_,?_,by constructor⟩; simp [binOp,Op.intArith,Op.intBits,Op.intCmp]; done)
  | (split at h<;>first|(cases h; done)|(cases h; rename_i h0; refine ⟨_,?_,by constructor⟩; simp [binOp,Op.intDiv,h0]))
theorem zpb {op:BinOp} {k k':IntKind} {x y:Int} {r:PV} {t:TypeId} {M:Nat->Option Obj} (hk:zdk op=true) (h:zhn op k x y=some r) :
  ∃ z,(binOp op t (.int k x) (.int k' y)).run P w=.ok z w/\PRep M r z:=by
 unfold zhn at h
 split at h
 ·cases h
 ·rename_i h0
  cases op<;>simp only [zdk,Bool.false_eq_true] at hk<;>cases h<;>refine ⟨_,?_,by constructor⟩<;>simp [binOp,Op.shift,h0]
theorem zrs {op:BinOp} {t:TypeId} {x y:Operand} {k k':IntKind} {n m:Int}:eqGuard op t x y (.int k n) (.int k' m)=pure ():=by cases op<;>rfl
theorem zp9 {op:BinOp} {t:TypeId} {x y:Operand} {n m:Bool}:eqGuard op t x y (.bool n) (.bool m)=pure ():=by cases op<;>rfl
theorem z16 {op:BinOp} {t:TypeId} {x y:Operand} {x' y':Opd} (hx:zag x=some x') (hy:zag y=some y') (hs:StRep K Z st w a)
  (he:eff orc st d (.ibin op x' y')=some (v,st')) :
  Good P K Z st ((do pure (Next.value (<- (do eqGuard op t x y (a.eval x) (a.eval y); binOp op t (a.eval x) (a.eval y)))):Sem Next).run P w) v st':=by
 have h1:=zap hx hs
 have h2:=zap hy hs
 simp only [eff] at he
 split at he
 ·rename_i r hr
  simp only [Option.some.injEq,Prod.mk.injEq] at he
  obtain ⟨rfl,rfl⟩:=he
  unfold ibin at hr
  split at hr
  ·rename_i k n k' m e1 e2
   rw [e1] at h1; rw [e2] at h2
   rw [h1.inv_int,h2.inv_int]
   have hg:(eqGuard op t x y (.int k n) (.int k' m)).run P w=.ok () w:=by rw [zrs]; rfl
   split at hr
   ·rename_i hk
    obtain ⟨z,r1,r2⟩:=zpb (P:=P) (w:=w) (t:=t) (k':=k') (M:=Z.M) hk hr
    exact zaq (by simp [hg,r1]) hs (.p _ _ r2)
   ·rename_i hk
    split at hr
    ·rename_i hkk
     subst hkk
     obtain ⟨z,r1,r2⟩:=zuj (P:=P) (w:=w) (t:=t) (M:=Z.M) (by simpa using hk) hr
     exact zaq (by simp [hg,r1]) hs (.p _ _ r2)
    ·cases hr
  ·cases hr
 ·cases he
theorem z19 {op:BinOp} {t:TypeId} {x y:Operand} {x' y':Opd} (ht:P.underlying t=some .bool) (hx:zag x=some x') (hy:zag y=some y') (hs:StRep K Z st w a)
  (he:eff orc st d (.bbin op x' y')=some (v,st')) :
  Good P K Z st ((do pure (Next.value (<- (do eqGuard op t x y (a.eval x) (a.eval y); binOp op t (a.eval x) (a.eval y)))):Sem Next).run P w) v st':=by
 have h1:=zap hx hs
 have h2:=zap hy hs
 simp only [eff] at he
 split at he
 ·rename_i r hr
  simp only [Option.some.injEq,Prod.mk.injEq] at he
  obtain ⟨rfl,rfl⟩:=he
  unfold bbin at hr
  split at hr
  ·rename_i k n e1 e2
   rw [e1] at h1; rw [e2] at h2
   rw [h1.inv_bool,h2.inv_bool]
   have hg:(eqGuard op t x y (.bool k) (.bool n)).run P w=.ok () w:=by rw [zp9]; rfl
   have hq:(Op.equal t (.bool k) (.bool n)).run P w=.ok (k == n) w:=run_equalIn_bool w _ t k n ht
   split at hr
   ·cases hr
    exact zaq (by simp [hg,binOp,hq]) hs (.p _ _ (.bool _))
   ·cases hr
    exact zaq (by simp [hg,binOp,hq]) hs (.p _ _ (.bool _))
   ·cases hr
  ·cases hr
 ·cases he
theorem z5h {x:Operand} {y:Opd} (hx:zag x=some y) (hs:StRep K Z st w a) (he:eff orc st d (.not y)=some (v,st')) :
  Good P K Z st ((do pure (Next.value (<- Op.unary .not (a.eval x))):Sem Next).run P w) v st':=by
 have hr:=zap hx hs
 simp only [eff] at he
 split at he
 ·rename_i e; rw [e] at hr; rw [hr.inv_bool]
  simp only [Option.some.injEq,Prod.mk.injEq] at he
  obtain ⟨rfl,rfl⟩:=he
  exact zaq (by simp [Op.unary]) hs (.p _ _ (.bool _))
 ·cases he
theorem z5i {x:Operand} {y:Opd} (hx:zag x=some y) (hs:StRep K Z st w a) (he:eff orc st d (.neg y)=some (v,st')) :
  Good P K Z st ((do pure (Next.value (<- Op.unary .neg (a.eval x))):Sem Next).run P w) v st':=by
 have hr:=zap hx hs
 simp only [eff] at he
 split at he
 ·rename_i e; rw [e] at hr; rw [hr.inv_int]
  simp only [Option.some.injEq,Prod.mk.injEq] at he
  obtain ⟨rfl,rfl⟩:=he
  exact zaq (by simp [Op.unary,Op.intArith]) hs (.p _ _ (.int _ _))
 ·cases he
theorem z15 {x:Operand} {y:Opd} (hx:zag x=some y) (hs:StRep K Z st w a) (he:eff orc st d (.ixor y)=some (v,st')) :
  Good P K Z st ((do pure (Next.value (<- Op.unary .xor (a.eval x))):Sem Next).run P w) v st':=by
 have hr:=zap hx hs
 simp only [eff] at he
 split at he
 ·rename_i e; rw [e] at hr; rw [hr.inv_int]
  simp only [zi7,Option.some.injEq,Prod.mk.injEq] at he
  obtain ⟨rfl,rfl⟩:=he
  exact zaq (by simp [Op.unary,Op.intBits]) hs (.p _ _ (.int _ _))
 ·cases he
theorem z18 {s t:TypeId} {ds:TypeDesc} {k:IntKind} {x:Operand} {y:Opd} (h1:P.underlying s=some ds) (h2:P.underlying t=some (.int k)) (hx:zag x=some y) (hs:StRep K Z st w a)
  (he:eff orc st d (.conv k y)=some (v,st')) :
  Good P K Z st ((do pure (Next.value (<- convert s t (a.eval x))):Sem Next).run P w) v st':=by
 have hr:=zap hx hs
 simp only [eff] at he
 split at he
 ·rename_i e; rw [e] at hr; rw [hr.inv_int]
  simp only [Option.some.injEq,Prod.mk.injEq] at he
  obtain ⟨rfl,rfl⟩:=he
  refine zaq (x:=.int k (k.wrap _)) ?_ hs (.p _ _ (.int _ _))
  cases ds<;>simp [convert,run_underlying h1,run_underlying h2,Conv.intToInt]
 ·cases he
theorem z13 {f:FuncId} {caps:Array Operand} {ys:List Opd} (hx:za0 caps.toList=some ys) (hs:StRep K Z st w a) (he:eff orc st d (.mkfn f ys)=some (v,st')) :
  Good P K Z st ((do pure (Next.value (<- Instr.makeFunc (.func f) ((#[]:Array Operand).map a.eval) (caps.map a.eval))):Sem Next).run P w) v st':=by
 have hr:=zih hx hs
 simp only [eff] at he
 split at he
 ·simp only [Option.some.injEq,Prod.mk.injEq] at he
  obtain ⟨rfl,rfl⟩:=he
  refine zaq (x:=.func (.func f) #[] (caps.map a.eval)) (by simp [Instr.makeFunc]) hs ?_
  have:=ARep.fn f _ _ hr
  simpa [<- Array.toList_map] using this
 ·cases he
theorem zy8 {s:TypeId} {fs:Array Field} {n:Nat} {fd:Field} {x:Operand} {y:Opd} (h1:P.underlying s=some (.struct fs)) (h2:fs[n]?=some fd) (h3:0<tsz P fd.type)
  (hx:zag x=some y) (hs:StRep K Z st w a) (he:eff orc st d (.faddr fd.offset y)=some (v,st')) :
  Good P K Z st ((do pure (Next.value (<- Instr.fieldAt s (a.eval x) n)):Sem Next).run P w) v st':=by
 have hr:=zap hx hs
 obtain ⟨i,hi,hsz⟩:∃ i,P.info? fd.type=some i/\i.size≠0:=by
  simp only [tsz,Program.cellsOf] at h3
  cases hi:P.info? fd.type with
  | none=>simp [hi] at h3
  | some i=>simp [hi] at h3; exact ⟨i,rfl,by omega⟩
 have hrun:∀ b o,(Instr.fieldAt s (.pointer (some ⟨b,o,none⟩)) n).run P w=.ok (.pointer (some ⟨b,o+fd.offset,none⟩)) w:=by
  intro b o
  simp [Instr.fieldAt,run_underlying h1,h2,Instr.sureAddr,fieldPlace,sizeOf,typeInfo,hi,hsz,zb0]
 generalize a.eval x=X at hr ⊢
 simp only [eff] at he
 split at he
 ·rename_i s' g ix o hev
  rw [hev] at hr
  split at he
  ·rename_i ob ho
   simp only [Option.some.injEq,Prod.mk.injEq] at he
   obtain ⟨rfl,rfl⟩:=he
   obtain ⟨b,e2,rfl⟩:=zed hr ho
   exact zaq (hrun b _) hs (by rw [Nat.add_assoc]; exact .ptr _ _ _ _ ob b ho e2)
  ·cases he
 ·rename_i pv vsz o hev
  rw [hev] at hr
  simp only [Option.some.injEq,Prod.mk.injEq] at he
  obtain ⟨rfl,rfl⟩:=he
  cases hr with
  | cp _ _ _ b ob cur T fr vals m0 m1 m2 m3 m4 m5=>exact zaq (hrun b _) hs (by rw [Nat.add_assoc]; exact .cp _ _ _ b ob cur T fr vals m0 m1 m2 m3 m4 m5)
 ·cases he
end
end Go.Ab
namespace Go.Ab
section
variable {P:Program} {K:Ctx} {Z Z':Cz} {st st':St} {w w':World} {a:Act} {orc:Option PCall} {d:Nat} {v:AV}
theorem zru {x:Operand} {y:Opd} {i:Nat} (hx:zag x=some y) (hs:StRep K Z st w a) (he:eff orc st d (.extract y i)=some (v,st')) :
  Good P K Z st ((do pure (Next.value (<- Instr.extract (a.eval x) i)):Sem Next).run P w) v st':=by
 have hr:=zap hx hs
 generalize a.eval x=X at hr ⊢
 simp only [eff] at he
 split at he
 ·rename_i vs hev
  rw [hev] at hr
  split at he
  ·rename_i u hu
   simp only [Option.some.injEq,Prod.mk.injEq] at he
   obtain ⟨rfl,rfl⟩:=he
   cases hr with
   | tup _ vals h =>
    obtain ⟨z,hz,hzr⟩:=h.get i u hu
    exact zaq (by simp [Instr.extract,hz]) hs hzr
  ·cases he
 ·rename_i vs hev
  rw [hev] at hr
  split at he
  ·rename_i u hu
   simp only [Option.some.injEq,Prod.mk.injEq] at he
   obtain ⟨rfl,rfl⟩:=he
   have hp:=hr.inv_p
   cases hp with
   | tup _ vals h =>
    obtain ⟨z,hz,hzr⟩:=h.get i u hu
    exact zaq (by simp [Instr.extract,hz]) hs (.p _ _ hzr)
  ·cases he
 ·cases he
theorem zsw {t:TypeId} {sz off:Nat} {ag:Bool} {u r:AV} {cells:List AV} {X:Value} (ht:tok P t sz ag=true) (hr:ARep Z st u X) (hc:u.acells=some cells) (hu:segL cells off sz ag=some r) :
  ∃ cs y,X=.agg cs/\(part t cs off).run P w=.ok y w/\ARep Z st r y:=by
 obtain ⟨i,d,hi,hsz,hd,hda,hag,hna⟩:=zhk ht
 obtain ⟨vals,hX,hrs,h1⟩:∃ vals,X=.agg (vals:List Value).toArray/\AReps Z st cells vals/\∀ c∈cells,c.one=true:=by
  unfold AV.acells at hc
  split at hc
  ·cases hc
   cases hr.inv_p with
   | agg cs vals h1 h2=>exact ⟨vals,rfl,AReps.of_p h2,fun c hc=>by simp at hc; obtain ⟨q,hq,rfl⟩:=hc; exact h1 q hq⟩
  ·cases hc
   cases hr with
   | agg cs vals h1 h2=>exact ⟨vals,rfl,h2,h1⟩
  ·cases hc
 subst hX
 refine ⟨vals.toArray,?_⟩
 cases ag with
 | true =>
  simp only [segL,if_true] at hu
  split at hu
  ·rename_i hl
   cases hu
   refine ⟨.agg ((vals.drop off).take sz).toArray,rfl,?_,ARep.mkAgg (fun c hc=>h1 c (List.mem_of_mem_drop (List.mem_of_mem_take hc))) ((hrs.drop off).take sz)⟩
   simp [part,zfz w hd,hda,sizeOf,typeInfo,hi,hsz]
  ·cases hu
 | false =>
  have:=hna rfl
  subst this
  simp only [segL,if_true,Bool.false_eq_true,if_false] at hu
  have hg:cells[off]?=some r:=by
   rw [List.head?_eq_getElem?,List.getElem?_take] at hu
   simpa using hu
  obtain ⟨y,hy,hyr⟩:=hrs.get off r hg
  exact ⟨y,rfl,by simp [part,zfz w hd,hda,hy],hyr⟩
theorem zy7 {s:TypeId} {fs:Array Field} {n:Nat} {fd:Field} {x:Operand} {y:Opd} (h1:P.underlying s=some (.struct fs)) (h2:fs[n]?=some fd)
  (ht:tok P fd.type (tsz P fd.type) (tagg P fd.type)=true) (hx:zag x=some y) (hs:StRep K Z st w a) (he:eff orc st d (.field fd.offset (tsz P fd.type) (tagg P fd.type) y)=some (v,st')) :
  Good P K Z st ((do pure (Next.value (<- Instr.field s (a.eval x) n)):Sem Next).run P w) v st':=by
 have hr:=zap hx hs
 generalize a.eval x=X at hr ⊢
 simp only [eff] at he
 split at he
 ·rename_i cs hcs
  split at he
  ·rename_i u hu
   simp only [Option.some.injEq,Prod.mk.injEq] at he
   obtain ⟨rfl,rfl⟩:=he
   obtain ⟨cells,z,rfl,hz,hzr⟩:=zsw (P:=P) (w:=w) ht hr hcs hu
   exact zaq (by simp [Instr.field,run_underlying h1,h2,asAgg,hz]) hs hzr
  ·cases he
 ·cases he
theorem z5k {t e:TypeId} {n:Nat} {x i:Operand} {y j:Opd} (h1:P.underlying t=some (.array n e))
  (ht:tok P e (tsz P e) (tagg P e)=true) (hx:zag x=some y) (hi:zag i=some j) (hs:StRep K Z st w a) (he:eff orc st d (.idx n (tsz P e) (tagg P e) y j)=some (v,st')) :
  Good P K Z st ((do pure (Next.value (<- Instr.index t (a.eval x) (a.eval i))):Sem Next).run P w) v st':=by
 have hr:=zap hx hs
 have hri:=zap hi hs
 obtain ⟨inf,_,hinf,hisz,_⟩:=zhk ht
 generalize a.eval x=X at hr ⊢
 generalize a.eval i=I at hri ⊢
 simp only [eff] at he
 split at he
 ·rename_i m hm
  split at he
  ·rename_i hlt
   split at he
   ·rename_i cs hcs
    split at he
    ·rename_i u hu
     simp only [Option.some.injEq,Prod.mk.injEq] at he
     obtain ⟨rfl,rfl⟩:=he
     obtain ⟨k,hk⟩:=zbo hm
     rw [hk] at hri
     rw [hri.inv_int]
     obtain ⟨cells,z,rfl,hz,hzr⟩:=zsw (P:=P) (w:=w) ht hr hcs hu
     have hc:(0:Int)<=(m:Int)/\(m:Int)<(n:Int):=by omega
     exact zaq (by simp [Instr.index,run_underlying h1,asIntOf,hlt,sizeOf,typeInfo,hinf,hisz,hz]) hs hzr
    ·cases he
   ·cases he
  ·cases he
 ·cases he
theorem zy6 {t e:TypeId} {x i:Operand} {y j:Opd} (h1:P.underlying t=some (.slice e)) (hinf:(P.info? e).isSome=true)
  (hx:zag x=some y) (hi:zag i=some j) (hs:StRep K Z st w a) (he:eff orc st d (.iaddr (tsz P e) y j)=some (v,st')) :
  Good P K Z st ((do pure (Next.value (<- Instr.indexAt t (a.eval x) (a.eval i))):Sem Next).run P w) v st':=by
 have hr:=zap hx hs
 have hri:=zap hi hs
 obtain ⟨inf,hinf⟩:=Option.isSome_iff_exists.1 hinf
 have hisz:inf.size=tsz P e:=by simp [tsz,Program.cellsOf,hinf]
 generalize tsz P e=sz at *
 generalize a.eval x=X at hr ⊢
 generalize a.eval i=I at hri ⊢
 have hrun:∀ (k:IntKind) (m:Nat) (b o len c:Nat),m<len->(Instr.indexAt t (.slice (some ⟨b,o,none⟩) len c) (.int k m)).run P w=.ok (.pointer (some ⟨b,o+m*sz,none⟩)) w:=by
  intro k m b o len c hlt
  simp [Instr.indexAt,run_underlying h1,asIntOf,hlt,sizeOf,typeInfo,hinf,hisz,zb0]
 simp only [eff] at he
 split at he
 ·rename_i m es hm hev
  obtain ⟨k,hk⟩:=zbo hm
  rw [hk] at hri
  rw [hri.inv_int]
  rw [hev] at hr
  split at he
  ·rename_i e' hel
   split at he
   ·rename_i hsz
    simp only [Option.some.injEq,Prod.mk.injEq] at he
    obtain ⟨rfl,rfl⟩:=he
    have hem:=List.mem_of_getElem? hel
    cases hr.inv_p with
    | sl0=>simp at hel
    | sl _ b o cap cur T fr sz' vals m0 m1 m2 m3 m4 m5 m6 =>
     have hlt:=(List.getElem?_eq_some_iff.1 hel).1
     have hszeq:sz'=sz:=by rw [<- m2 e' hem]; exact hsz.1
     subst hszeq
     have hes:∀ q∈es,(PV.cells q).length=sz':=fun q hq=>by rw [PV.cells_len (by rw [m2 q hq]; exact m1),m2 q hq]
     have hseg:=zhy PV.cells sz' es m e' hes hel
     refine zaq (hrun k m b o _ cap hlt) hs ?_
     have:=ARep.cp (Z:=Z) (st:=st) e' sz' 0 b (o+m*sz') cur T fr ((vals.drop (m*sz')).take sz') m0 m1 hsz.1
      (fun c hc=>m3 c (List.mem_flatMap.2 ⟨e',hem,hc⟩)) (by rw [<- hseg]; exact (m4.drop _).take _)
      (fun q z hq=>by
       rw [List.getElem?_take] at hq
       split at hq
       ·rw [List.getElem?_drop] at hq; rw [Nat.add_assoc]; exact m5 _ _ hq
       ·cases hq)
     simpa using this
   ·cases he
  ·cases he
 ·rename_i m s g off len hm hev
  obtain ⟨k,hk⟩:=zbo hm
  rw [hk] at hri
  rw [hri.inv_int]
  rw [hev] at hr
  split at he
  ·rename_i o ho
   split at he
   ·rename_i hc
    simp only [Option.some.injEq,Prod.mk.injEq] at he
    obtain ⟨rfl,rfl⟩:=he
    cases hr with
    | own0=>omega
    | own _ _ _ _ o' b ad c e1 e2 e3 e4 e5 e6 =>
     rw [ho] at e1; cases e1
     have had:=e4 (by omega)
     subst had
     refine zaq (hrun k m b _ len c hc.1) hs ?_
     have:=ARep.ptr (Z:=Z) (st:=st) s g (off+m) 0 o b ho e2
     rw [<- hc.2.2]
     simpa [Nat.add_mul] using this
    | ownD _ _ _ _ _ _ _ e2=>exact (zax ho e2).elim
   ·cases he
  ·cases he
 ·cases he
theorem zvb {t e:TypeId} {n:Nat} {x i:Operand} {y j:Opd} (h1:P.underlying t=some (.array n e)) (hinf:(P.info? e).isSome=true)
  (hx:zag x=some y) (hi:zag i=some j) (hs:StRep K Z st w a) (he:eff orc st d (.iaddrA n (tsz P e) y j)=some (v,st')) :
  Good P K Z st ((do pure (Next.value (<- Instr.indexAt t (a.eval x) (a.eval i))):Sem Next).run P w) v st':=by
 have hr:=zap hx hs
 have hri:=zap hi hs
 obtain ⟨inf,hinf⟩:=Option.isSome_iff_exists.1 hinf
 have hisz:inf.size=tsz P e:=by simp [tsz,Program.cellsOf,hinf]
 generalize tsz P e=sz at *
 generalize a.eval x=X at hr ⊢
 generalize a.eval i=I at hri ⊢
 have hrun:∀ (k:IntKind) (m:Nat) (b o:Nat),m<n->(Instr.indexAt t (.pointer (some ⟨b,o,none⟩)) (.int k m)).run P w=.ok (.pointer (some ⟨b,o+m*sz,none⟩)) w:=by
  intro k m b o hlt
  simp [Instr.indexAt,run_underlying h1,asIntOf,hlt,sizeOf,typeInfo,hinf,hisz,zb0,Instr.sureAddr]
 simp only [eff] at he
 split at he
 ·rename_i m s g ix o hm hev
  obtain ⟨k,hk⟩:=zbo hm
  rw [hk] at hri
  rw [hri.inv_int]
  rw [hev] at hr
  split at he
  ·rename_i ob ho
   split at he
   ·rename_i hlt
    simp only [Option.some.injEq,Prod.mk.injEq] at he
    obtain ⟨rfl,rfl⟩:=he
    obtain ⟨b,e2,rfl⟩:=zed hr ho
    exact zaq (hrun k m b _ hlt) hs (by rw [Nat.add_assoc]; exact .ptr _ _ _ _ ob b ho e2)
   ·cases he
  ·cases he
 ·rename_i m pv vsz o hm hev
  obtain ⟨k,hk⟩:=zbo hm
  rw [hk] at hri
  rw [hri.inv_int]
  rw [hev] at hr
  split at he
  ·rename_i hlt
   simp only [Option.some.injEq,Prod.mk.injEq] at he
   obtain ⟨rfl,rfl⟩:=he
   cases hr with
   | cp _ _ _ b ob cur T fr vals m0 m1 m2 m3 m4 m5=>exact zaq (hrun k m b _ hlt) hs (by rw [Nat.add_assoc]; exact .cp _ _ _ b ob cur T fr vals m0 m1 m2 m3 m4 m5)
  ·cases he
 ·cases he
theorem z5j {args:Array TypeId} {ty:TypeId} {x:Operand} {y:Opd} (ht:zcg (args[0]?.bind P.underlying)=true) (hx:zag x=some y) (hs:StRep K Z st w a) (he:eff orc st d (.len y)=some (v,st')) :
  Good P K Z st ((do pure (Next.value (<- Builtin.len_ args ty #[a.eval x])):Sem Next).run P w) v st':=by
 have hr:=zap hx hs
 obtain ⟨t,e,ht0,htu⟩:∃ t e,args[0]?=some t/\P.underlying t=some (.slice e):=by
  cases h0:args[0]? with
  | none=>simp [h0,zcg] at ht
  | some t =>
   cases hu:P.underlying t with
   | none=>simp [h0,hu,zcg] at ht
   | some d=>cases d<;>simp [h0,hu,zcg] at ht; exact ⟨t,_,rfl,hu⟩
 have hrun:∀ ad n c,(Builtin.len_ args ty #[.slice ad n c]).run P w=.ok (.int .i64 n) w:=by
  intro ad n c
  simp [Builtin.len_,ht0,run_underlying htu,goInt]
 generalize a.eval x=X at hr ⊢
 simp only [eff] at he
 split at he
 ·rename_i es hev
  rw [hev] at hr
  simp only [Option.some.injEq,Prod.mk.injEq] at he
  obtain ⟨rfl,rfl⟩:=he
  cases hr.inv_p with
  | sl0 ad cap=>exact zaq (hrun _ _ _) hs (.p _ _ (.int _ _))
  | sl _ b o cap cur T fr sz' vals m0 m1 m2 m3 m4 m5 m6=>exact zaq (hrun _ _ _) hs (.p _ _ (.int _ _))
 ·rename_i hev
  rw [hev] at hr
  simp only [Option.some.injEq,Prod.mk.injEq] at he
  obtain ⟨rfl,rfl⟩:=he
  cases hr
  exact zaq (hrun _ _ _) hs (.p _ _ (.int _ _))
 ·rename_i s g off len hev
  rw [hev] at hr
  simp only [Option.some.injEq,Prod.mk.injEq] at he
  obtain ⟨rfl,rfl⟩:=he
  cases hr with
  | own0=>exact zaq (hrun _ _ _) hs (.p _ _ (.int _ _))
  | own=>exact zaq (hrun _ _ _) hs (.p _ _ (.int _ _))
  | ownD=>exact zaq (hrun _ _ _) hs (.p _ _ (.int _ _))
 ·cases he
end
end Go.Ab
namespace Go.Ab
section
variable {P:Program} {K:Ctx} {Z Z':Cz} {st st':St} {w w':World} {a:Act} {orc:Option PCall} {d:Nat} {v:AV}
theorem zde {α β : Type} (f : α -> List β) (sz:Nat):∀ (es:List α) (n:Nat),(∀ e∈es,(f e).length=sz)->(es.take n).flatMap f=(es.flatMap f).take (n*sz)
 | [],n,_=>by simp
 | x::es,0,_=>by simp
 | x::es,n+1,h=>by
  have hx:=h x (by simp)
  rw [List.take_succ_cons,List.flatMap_cons,List.flatMap_cons,zde f sz es n (fun y hy=>h y (by simp [hy])),Nat.succ_mul,List.take_append,List.take_of_length_le (l:=f x) (by omega),hx,Nat.add_sub_cancel]
theorem zd7 {α β : Type} (f : α -> List β) (sz:Nat):∀ (es:List α) (n:Nat),(∀ e∈es,(f e).length=sz)->(es.drop n).flatMap f=(es.flatMap f).drop (n*sz)
 | [],n,_=>by simp
 | x::es,0,_=>by simp
 | x::es,n+1,h=>by
  have hx:=h x (by simp)
  rw [List.drop_succ_cons,List.flatMap_cons,zd7 f sz es n (fun y hy=>h y (by simp [hy])),Nat.succ_mul,List.drop_append,List.drop_of_length_le (l:=f x) (by omega),hx,Nat.add_sub_cancel,List.nil_append]
theorem zva {u:AV} {X:Value} {xs:List AV} {sz:Nat} (he:st.elems u=some xs) (hr:ARep Z st u X) (hh:HRep K Z st w) (hsz:∀ e∈xs,e.sz=sz) (hp:0<sz) :
  ∃ ad c vals,X=.slice ad xs.length c/\AReps Z st (xs.flatMap AV.cells) vals/\(∀ q∈xs.flatMap AV.cells,q.one=true)/\vals.length=xs.length*sz /\
   ∀ w':World,w'.heap=w.heap->(Builtin.firstCells sz xs.length X).run P w'=.ok vals.toArray w':=by
 have hcl:∀ e∈xs,(AV.cells e).length=sz:=fun e he=>by rw [AV.cells_len (by rw [hsz e he]; exact hp),hsz e he]
 unfold St.elems at he
 split at he
 ·rename_i es
  cases he
  cases hr.inv_p with
  | sl0 ad cap =>
   refine ⟨ad,cap,[],by simp,by simpa using AReps.nil,by simp,by simp,fun w' hw=>?_⟩
   cases ad with
   | none=>simp [Builtin.firstCells]
   | some ad=>exact run_firstCells_some w' sz 0 ad 0 cap [] (by simp) (by simp)
  | sl _ b o cap cur T fr sz' vals m0 m1 m2 m3 m4 m5 m6 m7 =>
   have hl:=m4.length
   have hlen:vals.length=es.length*sz:=by
    have h1:=zb7 AV.cells sz _ hcl
    rw [zaj,List.length_map,List.length_map] at h1
    rw [hl]; exact h1
   refine ⟨some ⟨b,o,none⟩,cap,vals,by simp,by rw [zaj]; exact AReps.of_p m4,?_,by simpa using hlen,fun w' hw=>?_⟩
   ·rw [zaj]; intro q hq; simp only [List.mem_map] at hq; obtain ⟨r,hr',rfl⟩:=hq; exact m3 r hr'
   ·refine run_firstCells_some w' sz _ ⟨b,o,none⟩ _ cap vals (by simpa using hlen) (fun j y hy=>?_)
    rw [zb0,cell_of_row w' b _ cur T fr (by rw [hw]; exact hh.mem b _ m0)]
    exact m5 j y hy
 ·cases he
  cases hr
  exact ⟨none,0,[],rfl,by simpa using AReps.nil,by simp,by simp,fun w' _=>by simp [Builtin.firstCells]⟩
 ·cases he
  cases hr.inv_p with
  | nl cap=>exact ⟨none,cap,[],rfl,by simpa using AReps.nil,by simp,by simp,fun w' _=>by simp [Builtin.firstCells]⟩
 ·cases he
  cases hr.inv_p with
  | sle ad cap=>exact ⟨some ad,cap,[],rfl,by simpa using AReps.nil,by simp,by simp,fun w' hw=>run_firstCells_some w' sz 0 ad 0 cap [] (by simp) (by simp)⟩
 ·rename_i s g off len
  split at he
  ·rename_i o ho
   split at he
   ·rename_i hle
    cases he
    have hO:=hh.objs s g o ho
    have hxl:((o.es.drop off).take len).length=len:=by simp; omega
    cases hr with
    | own0 =>
     rw [hxl]
     exact ⟨none,0,[],rfl,by simpa using AReps.nil,by simp,by simp,fun w' _=>by simp [Builtin.firstCells]⟩
    | own _ _ _ _ o' b ad c e1 e2 e3 e4 e5 e6 =>
     rw [ho] at e1; cases e1
     obtain ⟨cur,T,vals,k1,k2,k3,k4,k5,k6⟩:=hO.blk b e2
     have hes:∀ e∈o.es,(AV.cells e).length=o.sz:=fun e he=>by rw [AV.cells_len (by rw [hO.els e he]; exact hO.pos),hO.els e he]
     by_cases h0:len=0
     ·subst h0
      refine ⟨some ad,c,[],by simp,by simpa using AReps.nil,by simp,by simp,fun w' _=>?_⟩
      simpa using run_firstCells_some (P:=P) w' sz 0 ad 0 c [] (by simp) (by simp)
     ·have had:=e4 (by omega)
      subst had
      have hszo:sz=o.sz:=by
       have hne:(o.es.drop off).take len≠[]:=by intro h; rw [h] at hxl; simp at hxl; omega
       obtain ⟨q,hq⟩:=List.exists_mem_of_ne_nil _ hne
       rw [<- hsz q hq]
       exact hO.els q (List.mem_of_mem_drop (List.mem_of_mem_take hq))
      subst hszo
      have hfl:((o.es.drop off).take len).flatMap AV.cells=((o.es.flatMap AV.cells).drop (off*o.sz)).take (len*o.sz):=by
       rw [zde AV.cells o.sz _ len (fun e he=>hes e (List.mem_of_mem_drop he)),zd7 AV.cells o.sz _ off hes]
      have hvl:=k2.length
      rw [zb7 AV.cells o.sz _ hes] at hvl
      have hle2:off*o.sz+len*o.sz<=vals.length:=by rw [hvl,<- Nat.add_mul]; exact Nat.mul_le_mul_right _ hle
      refine ⟨some ⟨b,off*o.sz,none⟩,c,(vals.drop (off*o.sz)).take (len*o.sz),by rw [hxl],by rw [hfl]; exact (k2.drop _).take _,?_,by rw [hxl]; simp; omega,fun w' hw=>?_⟩
      ·rw [hfl]; intro q hq; exact hO.one q (List.mem_of_mem_drop (List.mem_of_mem_take hq))
      ·rw [hxl]
       refine run_firstCells_some w' o.sz len ⟨b,off*o.sz,none⟩ len c _ (by simp; omega) (fun j y hy=>?_)
       rw [zb0,cell_of_row w' b _ cur T (0,0) (by rw [hw]; exact k1)]
       rw [List.getElem?_take] at hy
       split at hy
       ·rw [List.getElem?_drop] at hy; exact k3 _ _ hy
       ·cases hy
    | ownD _ _ _ _ _ _ _ e2=>exact (zax ho e2).elim
   ·cases he
  ·cases he
 ·cases he
theorem zy0 {u:AV} {X:Value} {xs:List AV} {sz:Nat} (he:st.elems u=some xs) (hr:ARep Z st u X) (hh:HRep K Z st w) (hsz:∀ e∈xs,e.sz=sz) (hp:0<sz) :
  ∃ ad c vals,X=.slice ad xs.length c/\AReps Z st (xs.flatMap AV.cells) vals/\(∀ q∈xs.flatMap AV.cells,q.one=true)/\vals.length=xs.length*sz /\
   ∀ m,m<=xs.length->∀ w':World,w'.heap=w.heap->(Builtin.firstCells sz m X).run P w'=.ok (vals.take (m*sz)).toArray w':=by
 have hcl:∀ e∈xs,(AV.cells e).length=sz:=fun e he=>by rw [AV.cells_len (by rw [hsz e he]; exact hp),hsz e he]
 unfold St.elems at he
 split at he
 ·rename_i es
  cases he
  cases hr.inv_p with
  | sl0 ad cap =>
   refine ⟨ad,cap,[],by simp,by simpa using AReps.nil,by simp,by simp,fun m hm w' hw=>?_⟩
   obtain rfl:m=0:=by simpa using hm
   cases ad with
   | none=>simp [Builtin.firstCells]
   | some ad=>exact (by simpa using run_firstCells_some (P:=P) w' sz 0 ad 0 cap [] (by simp) (by simp))
  | sl _ b o cap cur T fr sz' vals m0 m1 m2 m3 m4 m5 m6 m7 =>
   have hl:=m4.length
   have hlen:vals.length=es.length*sz:=by
    have h1:=zb7 AV.cells sz _ hcl
    rw [zaj,List.length_map,List.length_map] at h1
    rw [hl]; exact h1
   refine ⟨some ⟨b,o,none⟩,cap,vals,by simp,by rw [zaj]; exact AReps.of_p m4,?_,by simpa using hlen,fun m hm w' hw=>?_⟩
   ·rw [zaj]; intro q hq; simp only [List.mem_map] at hq; obtain ⟨r,hr',rfl⟩:=hq; exact m3 r hr'
   ·have hm':m*sz<=vals.length:=by rw [hlen]; exact Nat.mul_le_mul_right _ (by simpa using hm)
    refine run_firstCells_some w' sz m ⟨b,o,none⟩ _ cap (vals.take (m*sz)) (by simp; omega) (fun j y hy=>?_)
    rw [zb0,cell_of_row w' b _ cur T fr (by rw [hw]; exact hh.mem b _ m0)]
    rw [List.getElem?_take] at hy
    split at hy
    ·exact m5 j y hy
    ·cases hy
 ·cases he
  cases hr
  exact ⟨none,0,[],rfl,by simpa using AReps.nil,by simp,by simp,fun m hm w' _=>by simp [Builtin.firstCells]⟩
 ·cases he
  cases hr.inv_p with
  | nl cap=>exact ⟨none,cap,[],rfl,by simpa using AReps.nil,by simp,by simp,fun m hm w' _=>by simp [Builtin.firstCells]⟩
 ·cases he
  cases hr.inv_p with
  | sle ad cap =>
   refine ⟨some ad,cap,[],rfl,by simpa using AReps.nil,by simp,by simp,fun m hm w' hw=>?_⟩
   obtain rfl:m=0:=by simpa using hm
   simpa using run_firstCells_some (P:=P) w' sz 0 ad 0 cap [] (by simp) (by simp)
 ·rename_i s g off len
  split at he
  ·rename_i o ho
   split at he
   ·rename_i hle
    cases he
    have hO:=hh.objs s g o ho
    have hxl:((o.es.drop off).take len).length=len:=by simp; omega
    cases hr with
    | own0 =>
     rw [hxl]
     exact ⟨none,0,[],rfl,by simpa using AReps.nil,by simp,by simp,fun m hm w' _=>by simp [Builtin.firstCells]⟩
    | own _ _ _ _ o' b ad c e1 e2 e3 e4 e5 e6 =>
     rw [ho] at e1; cases e1
     obtain ⟨cur,T,vals,k1,k2,k3,k4,k5,k6⟩:=hO.blk b e2
     have hes:∀ e∈o.es,(AV.cells e).length=o.sz:=fun e he=>by rw [AV.cells_len (by rw [hO.els e he]; exact hO.pos),hO.els e he]
     by_cases h0:len=0
     ·subst h0
      refine ⟨some ad,c,[],by simp,by simpa using AReps.nil,by simp,by simp,fun m hm w' _=>?_⟩
      obtain rfl:m=0:=by simpa using hm
      simpa using run_firstCells_some (P:=P) w' sz 0 ad 0 c [] (by simp) (by simp)
     ·have had:=e4 (by omega)
      subst had
      have hszo:sz=o.sz:=by
       have hne:(o.es.drop off).take len≠[]:=by intro h; rw [h] at hxl; simp at hxl; omega
       obtain ⟨q,hq⟩:=List.exists_mem_of_ne_nil _ hne
       rw [<- hsz q hq]
       exact hO.els q (List.mem_of_mem_drop (List.mem_of_mem_take hq))
      subst hszo
      have hfl:((o.es.drop off).take len).flatMap AV.cells=((o.es.flatMap AV.cells).drop (off*o.sz)).take (len*o.sz):=by
       rw [zde AV.cells o.sz _ len (fun e he=>hes e (List.mem_of_mem_drop he)),zd7 AV.cells o.sz _ off hes]
      have hvl:=k2.length
      rw [zb7 AV.cells o.sz _ hes] at hvl
      have hle2:off*o.sz+len*o.sz<=vals.length:=by rw [hvl,<- Nat.add_mul]; exact Nat.mul_le_mul_right _ hle
      refine ⟨some ⟨b,off*o.sz,none⟩,c,(vals.drop (off*o.sz)).take (len*o.sz),by rw [hxl],by rw [hfl]; exact (k2.drop _).take _,?_,by rw [hxl]; simp; omega,fun m hm w' hw=>?_⟩
      ·rw [hfl]; intro q hq; exact hO.one q (List.mem_of_mem_drop (List.mem_of_mem_take hq))
      ·rw [hxl] at hm
       have hm':m*o.sz<=len*o.sz:=Nat.mul_le_mul_right _ hm
       refine run_firstCells_some w' o.sz m ⟨b,off*o.sz,none⟩ _ c _ (by simp; omega) (fun j y hy=>?_)
       rw [zb0,cell_of_row w' b _ cur T (0,0) (by rw [hw]; exact k1)]
       rw [List.getElem?_take] at hy
       split at hy
       ·rw [List.getElem?_take] at hy
        split at hy
        ·rw [List.getElem?_drop] at hy; exact k3 _ _ hy
        ·cases hy
       ·cases hy
    | ownD _ _ _ _ _ _ _ e2=>exact (zax ho e2).elim
   ·cases he
  ·cases he
 ·cases he
theorem znv {c:AV} (h:c.one=true):c.pur1.one=true:=by cases c<;>first|rfl|exact h
theorem z0t {c:AV} {x:Value} (h:ARep Z st c x):ARep Z st c.pur1 x:=by
 cases c<;>first|exact h|skip
 cases h; exact .p _ _ (.sl0 none 0)
theorem zhq:∀ {cs:List AV} {xs:List Value},AReps Z st cs xs->AReps Z st (cs.map AV.pur1) xs
 | _,_,.nil=>.nil
 | _,_,.cons _ _ _ _ h hs=>.cons _ _ _ _ (z0t h) (zhq hs)
theorem zzk (v:AV):v.pur.cells=v.cells.map AV.pur1:=by
 cases v with
 | agg cs=>exact zln _
 | p v=>simp only [AV.pur,AV.cells_p,List.map_map]; congr 1
 | nil=>rfl
 | _=>rfl
theorem zdp (v:AV):v.pur.sz=v.sz:=by
 cases v with
 | agg cs=>show (mkAgg _).sz=_; rw [zsj,List.length_map]; rfl
 | nil=>rfl
 | _=>rfl
theorem zkg {v:AV} {x:Value} (h:ARep Z st v x):ARep Z st v.pur x:=by
 cases v with
 | agg cs =>
  cases h with
  | agg _ vals h1 h2=>exact ARep.mkAgg (fun c hc=>by simp at hc; obtain ⟨q,hq,rfl⟩:=hc; exact znv (h1 q hq)) (zhq h2)
 | nil=>cases h; exact .p _ _ (.sl0 none 0)
 | _=>exact h
theorem zjw (xs:List AV):(xs.map AV.pur).flatMap AV.cells=(xs.flatMap AV.cells).map AV.pur1:=by
 induction xs with
 | nil=>rfl
 | cons x xs ih=>simp only [List.map_cons,List.flatMap_cons,List.map_append,ih,zzk]
theorem zy2 {t e:TypeId} {x:Operand} {y:Opd} {lo hi:Option Operand} {lo' hi':Option Opd} (h1:P.underlying t=some (.slice e)) (hinf:(P.info? e).isSome=true)
  (hx:zag x=some y) (hlo:(lo=none/\lo'=none)\/∃ l l',lo=some l/\lo'=some l'/\zag l=some l') (hhi:(hi=none/\hi'=none)\/∃ l l',hi=some l/\hi'=some l'/\zag l=some l')
  (hs:StRep K Z st w a) (he:eff orc st d (.slice (tsz P e) y lo' hi')=some (v,st')) :
  Good P K Z st ((do pure (Next.value (<- Instr.sliceAt t (a.eval x) (lo.map a.eval) (hi.map a.eval) none)):Sem Next).run P w) v st':=by
 have hr:=zap hx hs
 obtain ⟨inf,hinf⟩:=Option.isSome_iff_exists.1 hinf
 have hisz:inf.size=tsz P e:=by simp [tsz,Program.cellsOf,hinf]
 generalize tsz P e=sz at *
 generalize a.eval x=X at hr ⊢
 have hloS:∀ n,zda st lo' 0=some n->(lo.map a.eval=none/\n=0)\/∃ k,lo.map a.eval=some (.int k (n:Int)):=by
  intro n hn
  rcases hlo with ⟨rfl,rfl⟩|⟨l,l',rfl,rfl,hl⟩
  ·simp [zda] at hn; exact .inl ⟨rfl,hn.symm⟩
  ·obtain ⟨k,hk⟩:=zbo hn
   have:=zap hl hs
   rw [hk] at this
   exact .inr ⟨k,by simp [this.inv_int]⟩
 have hhiS:∀ len n,zda st hi' len=some n->(hi.map a.eval=none/\n=len)\/∃ k,hi.map a.eval=some (.int k (n:Int)):=by
  intro len n hn
  rcases hhi with ⟨rfl,rfl⟩|⟨l,l',rfl,rfl,hl⟩
  ·simp [zda] at hn; exact .inl ⟨rfl,hn.symm⟩
  ·obtain ⟨k,hk⟩:=zbo hn
   have:=zap hl hs
   rw [hk] at this
   exact .inr ⟨k,by simp [this.inv_int]⟩
 have hrun:∀ (ad:Option Addr) (len c l h:Nat),((lo.map a.eval=none/\l=0)\/∃ k,lo.map a.eval=some (.int k (l:Int)))->((hi.map a.eval=none/\h=len)\/∃ k,hi.map a.eval=some (.int k (h:Int))) ->
   l<=h->h<=len->len<=c->(Instr.sliceAt t (.slice ad len c) (lo.map a.eval) (hi.map a.eval) none).run P w=.ok (.slice (if c=l then ad else ad.map (·.add (l*sz))) (h - l) (c - l)) w:=by
  intro ad len c l h hl hh hlh hhl hlc
  have c1:(l:Int)<=(h:Int):=by omega
  have c2:(h:Int)<=(c:Int):=by omega
  rcases hl with ⟨el,rfl⟩|⟨kl,el⟩<;>rcases hh with ⟨eh,rfl⟩|⟨kh,eh⟩ <;>
   simp [Instr.sliceAt,Instr.slice,run_underlying h1,Instr.sliceBounds,Instr.sliceBound,asIntOf,el,eh,sizeOf,typeInfo,hinf,hisz,hlh]<;>omega
 simp only [eff] at he
 split at he
 ·rename_i l es hlo2 hev
  rw [hev] at hr
  split at he
  ·rename_i h hhi2
   split at he
   ·rename_i hc
    simp only [Option.some.injEq,Prod.mk.injEq] at he
    obtain ⟨rfl,rfl⟩:=he
    have hL:=hloS l hlo2
    have hH:=hhiS _ h hhi2
    cases hr.inv_p with
    | sl0 ad cap =>
     simp at hc
     obtain ⟨rfl,rfl⟩:l=0/\h=0:=by omega
     refine zaq (hrun ad 0 cap 0 0 hL (by simpa using hH) (by omega) (by omega) (by omega)) hs ?_
     simp only [List.drop_nil,List.take_nil]
     exact .p _ _ (.sl0 _ _)
    | sl _ b o cap cur T fr sz' vals m0 m1 m2 m3 m4 m5 m6 m7 =>
     refine zaq (hrun _ _ cap l h hL hH hc.1 hc.2.1 m6) hs ?_
     have hcl:∀ e∈es,(PV.cells e).length=sz':=fun e he=>by rw [PV.cells_len (by rw [m2 e he]; exact m1),m2 e he]
     have hln:((es.drop l).take (h - l)).length=h - l:=by simp; omega
     by_cases h0:h - l=0
     ·rw [h0,List.take_zero]; exact .p _ _ (.sl0 _ _)
     ·have hne:cap≠l:=by omega
      have hszz:sz'=sz:=by
       have hne2:es≠[]:=by rintro rfl; simp at hc; omega
       obtain ⟨q,hq⟩:=List.exists_mem_of_ne_nil _ hne2
       have:=List.all_eq_true.1 hc.2.2.1 q hq
       rw [<- m2 q hq]; simpa using this
      subst hszz
      rw [if_neg hne]
      have hfl:((es.drop l).take (h - l)).flatMap PV.cells=((es.flatMap PV.cells).drop (l*sz')).take ((h - l)*sz'):=by
       rw [zde PV.cells sz' _ _ (fun e he=>hcl e (List.mem_of_mem_drop he)),zd7 PV.cells sz' _ l hcl]
      have:=PRep.sl (M:=Z.M) ((es.drop l).take (h - l)) b (o+l*sz') (cap - l) cur T fr sz' ((vals.drop (l*sz')).take ((h - l)*sz')) m0 m1
       (fun e he=>m2 e (List.mem_of_mem_drop (List.mem_of_mem_take he)))
       (fun c hc=>by rw [hfl] at hc; exact m3 c (List.mem_of_mem_drop (List.mem_of_mem_take hc)))
       (by rw [hfl]; exact (m4.drop _).take _)
       (fun i y hy=>by
        rw [List.getElem?_take] at hy
        split at hy
        ·rw [List.getElem?_drop] at hy; rw [Nat.add_assoc]; exact m5 _ _ hy
        ·cases hy)
       (by rw [hln]; omega) (by rw [hln]; omega)
      rw [hln] at this
      simpa only [Option.map_some,zb0] using ARep.p _ _ this
   ·cases he
  ·cases he
 ·rename_i l s g off len hlo2 hev
  rw [hev] at hr
  split at he
  ·rename_i h hhi2
   split at he
   ·rename_i ob ho
    split at he
    ·rename_i hc
     simp only [Option.some.injEq,Prod.mk.injEq] at he
     obtain ⟨rfl,rfl⟩:=he
     have hL:=hloS l hlo2
     have hH:=hhiS _ h hhi2
     cases hr with
     | own0 _ _ o' e1 e2 =>
      obtain ⟨rfl,rfl⟩:l=0/\h=0:=by omega
      refine zaq (hrun none 0 0 0 0 hL hH (by omega) (by omega) (by omega)) hs ?_
      simpa using ARep.own0 s g o' e1 e2
     | own _ _ _ _ o' b ad c e1 e2 e3 e4 e5 e6 =>
      rw [ho] at e1; cases e1
      refine zaq (hrun _ _ c l h hL hH hc.1 hc.2.1 e6) hs ?_
      have hcond:∀ ad',ad'=(if c=l then ad else ad.add (l*sz))->ARep Z st (.own s g (off+l) (h - l)) (.slice (some ad') (h - l) (c - l)):=by
       intro ad' had'
       refine .own s g (off+l) (h - l) ob b ad' (c - l) ho e2 (fun hz=>?_) (fun hpos=>?_) (by omega) (by omega)
       ·obtain ⟨rfl,rfl⟩:off=0/\l=0:=by omega
        obtain ⟨f1,f2⟩:=e3 rfl
        refine ⟨?_,by omega⟩
        rw [had',f1]; split
        ·rfl
        ·simp [zb0]
       ·have hne:c≠l:=by omega
        rw [had',if_neg hne,e4 (by omega),zb0,hc.2.2.2,Nat.add_mul]
      have:=hcond _ rfl
      by_cases hcl:c=l
      ·simpa [hcl] using this
      ·simpa [hcl] using this
     | ownD _ _ _ _ _ _ _ e2=>exact (zax ho e2).elim
    ·cases he
   ·cases he
  ·cases he
 ·rename_i l hlo2 hev
  rw [hev] at hr
  split at he
  ·rename_i h hhi2
   split at he
   ·rename_i hc
    simp only [Option.some.injEq,Prod.mk.injEq] at he
    obtain ⟨rfl,rfl⟩:=he
    obtain ⟨rfl,rfl⟩:=hc
    have hL:=hloS 0 hlo2
    have hH:=hhiS 0 0 hhi2
    cases hr
    refine zaq (hrun none 0 0 0 0 hL hH (by omega) (by omega) (by omega)) hs ?_
    simpa using ARep.nil
   ·cases he
  ·cases he
 ·cases he
end
end Go.Ab
