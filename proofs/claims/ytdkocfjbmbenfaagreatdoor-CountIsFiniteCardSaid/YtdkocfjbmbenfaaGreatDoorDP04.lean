/-
Proofs for the law CountIsFinite, part 4. Conditions: none.
-/
import Derived.Test.YtdkocfjbmbenfaaGreatDoorDP03
import Derived.IntWalk
import Derived.DeepKeys4
set_option maxRecDepth 100000
set_option maxHeartbeats 4000000
set_option linter.all false
namespace Go.Ab
section
variable {P:Program} {K:Ctx} {Z Z':Cz} {st st':St} {w w':World} {a:Act} {orc:Option PCall} {d:Nat} {v:AV}
theorem zpw {t:TypeId} (h:zcg (P.underlying t)=true):∃ e,P.underlying t=some (.slice e):=by
 cases hu:P.underlying t with
 | none=>simp [hu,zcg] at h
 | some d=>cases d<;>simp [hu,zcg] at h; exact ⟨_,rfl⟩
theorem zpd {A:Array TypeId} {t u ty e e':TypeId} {i:TypeInfo} (hA:A[0]?=some t) (hB:A[1]?=some u) (ht:P.underlying t=some (.slice e)) (hu:P.underlying u=some (.slice e')) (hi:P.info? e=some i)
  {g sLen sCap n c:Nat} {ad:Option Addr} {cur:Array Value} {T:TypeId} {new:List Value} (hx:(Builtin.firstCells i.size n (.slice ad n c)).run P w=.ok new.toArray w)
  (hroom:sLen+n<=sCap) (hg:w.heap[g]?=some (.cells cur T (0,0))) (hfit:sLen*i.size+new.length<=cur.size) (h1:∀ v∈new,v.oneCell'=true) :
  (Builtin.append_ A ty #[.slice (some ⟨g,0,none⟩) sLen sCap,.slice ad n c]).run P w =
   .ok (.slice (some ⟨g,0,none⟩) (sLen+n) sCap) (w.setRow g (cur.toList.take (sLen*i.size)++new++cur.toList.drop (sLen*i.size+new.length)).toArray):=by
 have hst:=run_storeCells_at P g (sLen*i.size) T new 0 cur w hg (by simpa using hfit) h1
 simp only [Nat.add_zero] at hst
 simp [Builtin.append_,hA,hB,run_underlying ht,run_underlying hu,sizeOf,typeInfo,hi,Builtin.lenOf,hroom,hx,zb0,hst]
theorem ziy {A:Array TypeId} {t u ty e e':TypeId} {i:TypeInfo} (hA:A[0]?=some t) (hB:A[1]?=some u) (ht:P.underlying t=some (.slice e)) (hu:P.underlying u=some (.slice e')) (hi:P.info? e=some i)
  {c:Nat} {ad:Option Addr} (hx:(Builtin.firstCells i.size 0 (.slice ad 0 c)).run P w=.ok #[] w) :
  (Builtin.append_ A ty #[.slice none 0 0,.slice ad 0 c]).run P w=.ok (.slice none 0 0) w:=by
 simp [Builtin.append_,hA,hB,run_underlying ht,run_underlying hu,sizeOf,typeInfo,hi,Builtin.lenOf,hx]
theorem zpe {A:Array TypeId} {t u ty e e':TypeId} {i:TypeInfo} {z:Value} (hA:A[0]?=some t) (hB:A[1]?=some u) (ht:P.underlying t=some (.slice e)) (hu:P.underlying u=some (.slice e')) (hi:P.info? e=some i) (hz:i.zero=some z)
  {sLen sCap n c:Nat} {base ad:Option Addr} {old new:List Value} (hx:(Builtin.firstCells i.size n (.slice ad n c)).run P w.drew=.ok new.toArray w.drew)
  (ho:(Builtin.firstCells i.size sLen (.slice base sLen sCap)).run P w.drew=.ok old.toArray w.drew) (hno:sCap<sLen+n) (hb:i.bytes<=65536) (hl:sLen+n<=LIM) :
  (Builtin.append_ A ty #[.slice base sLen sCap,.slice ad n c]).run P w =
   .ok (.slice (some ⟨w.heap.size,0,none⟩) (sLen+n) (grownCap w (sLen+n) sCap e))
    (w.drew.alloc (.cells (old.toArray++new.toArray++Builtin.zeroCells z.cells (grownCap w (sLen+n) sCap e - (sLen+n))) e)):=by
 simp only [LIM] at hl
 have hn:¬ (sLen+n<=sCap):=by omega
 have h63':¬ (9223372036854775807<((sLen:Int)+(n:Int))):=by omega
 have hbb:(sLen+n)*i.bytes<=140737488355328:=Nat.le_trans (Nat.mul_le_mul hl hb) (by decide)
 have h48:=growslice_fits (old:=sCap) hno hbb
 have h48':¬ (281474976710656<Builtin.nextslicecap (sLen+n) sCap*i.bytes):=by omega
 simp [Builtin.append_,hA,hB,run_underlying ht,run_underlying hu,sizeOf,typeInfo,zeroValue,hi,hz,Builtin.lenOf,hn,h63',h48',Question.forced,hx,ho,newRow,grownCap]
 congr 2
 apply Array.ext'
 simp [List.append_assoc]
theorem zfx (z:Array Value) (n:Nat):(Builtin.zeroCells z n).size=n*z.size:=by simp [Builtin.zeroCells]
theorem zhf {A:Array TypeId} {t u ty e e':TypeId} {i:TypeInfo} {z:Value} (hA:A[0]?=some t) (hB:A[1]?=some u) (ht:P.underlying t=some (.slice e)) (hu:P.underlying u=some (.slice e')) (hi:P.info? e=some i) (hz:i.zero=some z)
  (hb:i.bytes<=65536) (hzl:z.cells.size=i.size) (hp:0<i.size)
  {sLen sCap n c:Nat} {base ad:Option Addr} {old new:List Value} {es xs:List AV} {st:St} (hh:HRep K Z st w)
  (hx:(Builtin.firstCells i.size n (.slice ad n c)).run P w.drew=.ok new.toArray w.drew) (ho:(Builtin.firstCells i.size sLen (.slice base sLen sCap)).run P w.drew=.ok old.toArray w.drew)
  (hno:sCap<sLen+n) (hl:sLen+n<=LIM) (h1:AReps Z st (es.flatMap AV.cells) old) (h2:AReps Z st (xs.flatMap AV.cells) new) (h3:∀ q∈es++xs,q.sz=i.size) (h4:∀ q∈(es++xs).flatMap AV.cells,q.one=true)
  (h5:es.length=sLen) (h6:xs.length=n) :
  ∃ w' Z' x,(Builtin.append_ A ty #[.slice base sLen sCap,.slice ad n c]).run P w=.ok x w'/\HRep K Z' (st.alloc d ⟨i.size,es++xs⟩) w' /\
   ARep Z' (st.alloc d ⟨i.size,es++xs⟩) (.own d (st.site d).length 0 (sLen+n)) x/\ZLe Z st Z' (st.alloc d ⟨i.size,es++xs⟩):=by
 have hr:=zpe (P:=P) (w:=w) (ty:=ty) hA hB ht hu hi hz hx ho hno hb hl
 have hge:=grownCap_ge w (sLen+n) sCap e
 have hmax:sLen+n<=maxLen:=by simp only [LIM] at hl; simp [maxLen]; omega
 have hgm:=grownCap_le_maxLen w (sLen+n) sCap e hmax
 generalize grownCap w (sLen+n) sCap e=C at *
 have hcl:∀ q∈es++xs,(AV.cells q).length=i.size:=fun q hq=>by rw [AV.cells_len (by rw [h3 q hq]; exact hp),h3 q hq]
 have l1:=h1.length
 have l2:=h2.length
 rw [zb7 AV.cells i.size es (fun q hq=>hcl q (List.mem_append.2 (.inl hq))),h5] at l1
 rw [zb7 AV.cells i.size xs (fun q hq=>hcl q (List.mem_append.2 (.inr hq))),h6] at l2
 have hd:=hh.drew
 have hal:=hd.alloc d ⟨i.size,es++xs⟩ (old.toArray++new.toArray++Builtin.zeroCells z.cells (C - (sLen+n))) e C (old++new) hp h3 h4
  (by rw [List.flatMap_append]; exact h1.append h2)
  (by
   have:=zkp (cur:=(old++new)++(Builtin.zeroCells z.cells (C - (sLen+n))).toList) (vals:=old++new) rfl
   intro j y hj
   have:=this j y hj
   rw [<- this]
   congr 1
   apply Array.ext'
   simp [List.append_assoc])
  (by
   simp only [Array.size_append,List.size_toArray,zfx,l1,l2,hzl,<- Nat.add_mul]
   congr 1; omega)
  (by simp [h5,h6]; omega) hgm
 refine ⟨_,_,_,hr,hal,?_,ZLe.alloc _ _ _ _ _ _⟩
 exact .own d _ 0 (sLen+n) ⟨i.size,es++xs⟩ w.heap.size _ C (by rw [zam,if_pos ⟨rfl,rfl⟩]) (by simp [Cz.setB]) (fun _=>⟨rfl,by simp [Cz.setB]⟩) (fun _=>by simp) (by simp [h5,h6]) hge
theorem zve {A:Array TypeId} {t u ty e:TypeId} {x y:Operand} {x' y':Opd} (hA:A[0]?=some t) (hB:A[1]?=some u) (ht:P.underlying t=some (.slice e)) (hu:zcg (P.underlying u)=true)
  (hzero:(zd4 P e).isSome=true) (hb:P.bytesOf e<=65536) (hzs:∀ z,zd4 P e=some z->z.sz=tsz P e) (hx:zag x=some x') (hy:zag y=some y') (hs:StRep K Z st w a)
  (he:eff orc st d (.append (tsz P e) x' y')=some (v,st')) :
  Good P K Z st ((do pure (Next.value (<- Builtin.append_ A ty #[a.eval x,a.eval y])):Sem Next).run P w) v st':=by
 have hrx:=zap hx hs
 have hry:=zap hy hs
 obtain ⟨e',hu⟩:=zpw hu
 obtain ⟨zv,hzv⟩:=Option.isSome_iff_exists.1 hzero
 have hzsz:=hzs zv hzv
 obtain ⟨i,z,hi,hzi,hzr⟩:=zc3 hzv
 have hisz:i.size=tsz P e:=by simp [tsz,Program.cellsOf,hi]
 have hib:i.bytes<=65536:=by simpa [Program.bytesOf,hi] using hb
 rw [<- hisz] at he hzsz
 generalize a.eval x=X at hrx ⊢
 generalize a.eval y=Y at hry ⊢
 simp only [eff] at he
 split at he
 ·rename_i xs hxs
  split at he
  ·rename_i hc
   obtain ⟨hall,hp⟩:=hc
   have hsz:∀ q∈xs,q.sz=i.size:=fun q hq=>by
    have:=List.all_eq_true.1 hall q.pur (List.mem_map.2 ⟨q,hq,rfl⟩)
    rw [<- zdp]; simpa using this
   have hsz':∀ q∈xs.map AV.pur,q.sz=i.size:=fun q hq=>by simp at hq; obtain ⟨r,hr,rfl⟩:=hq; rw [zdp]; exact hsz r hr
   obtain ⟨ad,c,vals,rfl,hv1,hv2,hv3,hv4⟩:=zva (P:=P) hxs hry hs.heap hsz hp
   have hv1':AReps Z st ((xs.map AV.pur).flatMap AV.cells) vals:=by rw [zjw]; exact zhq hv1
   have hv2':∀ q∈(xs.map AV.pur).flatMap AV.cells,q.one=true:=fun q hq=>by rw [zjw] at hq; simp only [List.mem_map] at hq; obtain ⟨r,hr,rfl⟩:=hq; exact znv (hv2 r hr)
   have hzl:z.cells.size=i.size:=by
    have:=((hzr Z st).cells (by omega))
    have h1:=this.1.length
    simp at h1
    rw [h1,this.2.1,hzsz]
   have hxl:(xs.map AV.pur).length=xs.length:=by simp
   split at he
   ·rename_i hev
    rw [hev] at hrx
    cases hrx
    split at he
    ·rename_i hl
     simp only [Option.some.injEq,Prod.mk.injEq] at he
     obtain ⟨rfl,rfl⟩:=he
     by_cases h0:xs=[]
     ·subst h0
      have hf:=hv4 w rfl
      simp at hv3
      subst hv3
      have hr:=ziy (P:=P) (w:=w) (ty:=ty) hA hB ht hu hi (ad:=ad) (c:=c) hf
      refine zdq hr (hs.heap.allocNil d i.size hp) ?_ (ZLe.alloc _ _ _ _ _ _)
      exact .own0 d _ ⟨i.size,[]⟩ (by rw [zam,if_pos ⟨rfl,rfl⟩]; rfl) (by simp [Cz.setB])
     ·have hpos:0<xs.length:=List.length_pos_iff.2 h0
      obtain ⟨w',Z',r,h1,h2,h3,h4⟩:=zhf (P:=P) (K:=K) (Z:=Z) (w:=w) (d:=d) (ty:=ty) (base:=none) (sLen:=0) (sCap:=0) (old:=[]) (es:=[]) (xs:=xs.map AV.pur) (st:=st) hA hB ht hu hi hzi hib hzl hp hs.heap (hv4 w.drew rfl)
       (by simp [Builtin.firstCells]) (by omega) (by omega) .nil hv1' (by simpa using hsz') (by simpa using hv2') rfl hxl
      simp only [Nat.zero_add,List.nil_append] at h1 h2 h3 h4
      exact zdq h1 h2 h3 h4
    ·cases he
   ·rename_i s g off len hev
    rw [hev] at hrx
    split at he
    ·rename_i o ho
     split at he
     ·rename_i hc
      obtain ⟨rfl,hlen,hosz,hlim⟩:=hc
      simp only [Option.some.injEq,Prod.mk.injEq] at he
      obtain ⟨rfl,rfl⟩:=he
      have hO:=hs.heap.objs s g o ho
      have hk:killAll st [(s,g)]=st.kill s g:=rfl
      rw [hk]
      have hhk:=hs.heap.kill s g
      have hzk:=ZLe.kill Z st s g
      cases hrx with
      | own0 _ _ o' e1 e2 =>
       rw [ho] at e1; cases e1
       have hes:=hO.non e2
       rw [hes]
       simp only [List.nil_append,Nat.zero_add] at hlim ⊢
       by_cases h0:xs=[]
       ·subst h0
        have hf:=hv4 w rfl
        simp at hv3
        subst hv3
        have hr:=ziy (P:=P) (w:=w) (ty:=ty) hA hB ht hu hi (ad:=ad) (c:=c) hf
        refine zdq hr (hhk.allocNil d i.size hp) ?_ (hzk.trans (ZLe.alloc _ _ _ _ _ _))
        exact .own0 d _ ⟨i.size,[]⟩ (by rw [zam,if_pos ⟨rfl,rfl⟩]; rfl) (by simp [Cz.setB])
       ·have hpos:0<xs.length:=List.length_pos_iff.2 h0
        obtain ⟨w',Z',r,h1,h2,h3,h4⟩:=zhf (P:=P) (K:=K) (Z:=Z) (w:=w) (d:=d) (ty:=ty) (base:=none) (sLen:=0) (sCap:=0) (old:=[]) (es:=[]) (xs:=xs.map AV.pur) (st:=st.kill s g) hA hB ht hu hi hzi hib hzl hp hhk (hv4 w.drew rfl)
         (by simp [Builtin.firstCells]) (by omega) (by omega) .nil (hv1'.mono hzk) (by simpa using hsz') (by simpa using hv2') rfl hxl
        simp only [Nat.zero_add,List.nil_append] at h1 h2 h3 h4
        exact zdq h1 h2 h3 (hzk.trans h4)
      | own _ _ _ _ o' b ad' c' e1 e2 e3 e4 e5 e6 =>
       rw [ho] at e1; cases e1
       obtain ⟨rfl,rfl⟩:=e3 rfl
       obtain ⟨cur,T,ov,k1,k2,k3,k4,k5,k6⟩:=hO.blk b e2
       obtain ⟨rest,hrest⟩:=zst k3
       have hcl:∀ q∈o.es,(AV.cells q).length=o.sz:=fun q hq=>by rw [AV.cells_len (by rw [hO.els q hq]; exact hO.pos),hO.els q hq]
       have hol:=k2.length
       rw [zb7 AV.cells o.sz o.es hcl,<- hlen] at hol
       by_cases hroom:len+xs.length<=Z.cap s g
       ·have hcs:cur.size=(ov++rest).length:=by rw [<- hrest]; simp
        have hfit:len*i.size+vals.length<=cur.size:=by
         rw [hv3,<- Nat.add_mul,k4,hosz]; exact Nat.mul_le_mul_right _ hroom
        have hr:=zpd (P:=P) (w:=w) (ty:=ty) hA hB ht hu hi (hv4 w rfl) hroom k1 hfit (zb3 hv1 hv2)
        have hnew:cur.toList.take (len*i.size)++vals++cur.toList.drop (len*i.size+vals.length)=(ov++vals)++rest.drop vals.length:=by
         rw [hrest,<- hosz,<- hol,List.take_left,List.drop_append]
         rw [List.drop_of_length_le (by omega),List.nil_append,Nat.add_sub_cancel_left]
        have hmv:=hs.heap.move ho e2 d (o.es++xs.map AV.pur) (cur.toList.take (len*i.size)++vals++cur.toList.drop (len*i.size+vals.length)).toArray (ov++vals)
         (fun q hq=>by
          rcases List.mem_append.1 hq with h|h
          ·exact hO.els q h
          ·rw [hosz]; exact hsz' q h)
         (fun q hq=>by
          rw [List.flatMap_append] at hq
          rcases List.mem_append.1 hq with h|h
          ·exact hO.one q h
          ·exact hv2' q h)
         (by simp; omega) (by rw [List.flatMap_append]; exact k2.append hv1') (zkp hnew)
         (by
          rw [<- k4]
          have hc2:cur.toList.length=cur.size:=by simp
          simp only [List.size_toArray,List.length_append,List.length_take,List.length_drop,hc2]
          omega)
        rw [<- hosz]
        refine zdq hr hmv.1 ?_ hmv.2
        exact .own d _ 0 (len+xs.length) ⟨o.sz,o.es++xs.map AV.pur⟩ b _ _ (by rw [zam,if_pos ⟨rfl,rfl⟩]) (by simp [Cz.setB]) (fun _=>⟨rfl,by simp [Cz.setB]⟩) (fun _=>by simp) (by simp; omega) hroom
       ·obtain ⟨w',Z',r,h1,h2,h3,h4⟩:=zhf (P:=P) (K:=K) (Z:=Z) (w:=w) (d:=d) (ty:=ty) (base:=some ⟨b,0,none⟩) (sLen:=len) (sCap:=Z.cap s g) (old:=ov) (es:=o.es) (xs:=xs.map AV.pur) (st:=st.kill s g) hA hB ht hu hi hzi hib hzl hp hhk (hv4 w.drew rfl)
         (run_firstCells_some w.drew i.size len ⟨b,0,none⟩ len _ ov (by rw [hol,hosz]) (fun j y hy=>by
          rw [zb0,cell_of_row w.drew b _ cur T (0,0) k1]; simpa using k3 j y hy))
         (by omega) hlim (k2.mono hzk) (hv1'.mono hzk)
         (fun q hq=>by
          rcases List.mem_append.1 hq with h|h
          ·rw [<- hosz]; exact hO.els q h
          ·exact hsz' q h)
         (fun q hq=>by
          rw [List.flatMap_append] at hq
          rcases List.mem_append.1 hq with h|h
          ·exact hO.one q h
          ·exact hv2' q h) hlen.symm hxl
        exact zdq h1 h2 h3 (hzk.trans h4)
      | ownD _ _ _ _ _ _ _ e2=>exact (zax ho e2).elim
     ·cases he
    ·cases he
   ·cases he
  ·cases he
 ·cases he
theorem z0p {A:Array TypeId} {t u ty e:TypeId} {k k':IntKind} {i:TypeInfo} {z:Value} (hA:A[0]?=some t) (hB:A[1]?=some u) (ht:P.underlying t=some (.slice e)) (hu:P.underlying u=some (.int k)) (hi:P.info? e=some i) (hz:i.zero=some z)
  {n:Nat} (h0:0<n) (hp:0<i.size) (hb:i.bytes<=65536) (hl:n<=LIM) :
  (Builtin.append_ A ty #[.slice none 0 0,.int k' n]).run P w =
   .ok (.slice (some ⟨w.heap.size,0,none⟩) n (grownCap w n 0 e)) (w.drew.alloc (.cells (Builtin.zeroCells z.cells n++Builtin.zeroCells z.cells (grownCap w n 0 e - n)) e)):=by
 simp only [LIM] at hl
 have hw:IntKind.i64.wrap (n:Int)=n:=IntWalk.i64_in n ⟨by omega,by omega⟩
 have hneg:¬ ((n:Int)<0):=by omega
 have hn:¬ n=0:=by omega
 have h63':¬ (9223372036854775807<(n:Int)):=by omega
 have hbb:n*i.bytes<=140737488355328:=Nat.le_trans (Nat.mul_le_mul hl hb) (by decide)
 have hbi:¬ (281474976710656<(n:Int)*(i.bytes:Int)):=by
  have:(n:Int)*(i.bytes:Int)=((n*i.bytes:Nat):Int):=by simp
  omega
 have h48:=growslice_fits (old:=0) (need:=n) (by omega) hbb
 have h48':¬ (281474976710656<Builtin.nextslicecap n 0*i.bytes):=by omega
 have hsz:¬ (n=0\/i.size=0):=by omega
 have hsz2:¬ (i.size=0):=by omega
 have hz2:¬ (n*i.size=0):=by rw [Nat.mul_eq_zero]; exact hsz
 have hmx:max (n:Int) 0=n:=by omega
 simp [Builtin.append_,hA,hB,run_underlying ht,run_underlying hu,sizeOf,typeInfo,zeroValue,hi,hz,asInt,asIntOf,hw,hneg,hn,hbi,h63',h48',hsz2,hz2,hmx,Question.forced,newRow,grownCap,Builtin.firstCells]
theorem z17 {A:Array TypeId} {t ty e:TypeId} {x y:Operand} {x' y':Opd} (hA:A[0]?=some t) (ht:P.underlying t=some (.slice e))
  (hzero:(zd4 P e).isSome=true) (hx:zag x=some x') (hy:zag y=some y') (hs:StRep K Z st w a)
  (he:eff orc st d (.copy (tsz P e) x' y')=some (v,st')) :
  Good P K Z st ((do pure (Next.value (<- Builtin.copy_ A ty #[a.eval x,a.eval y])):Sem Next).run P w) v st':=by
 have hrx:=zap hx hs
 have hry:=zap hy hs
 obtain ⟨zv,hzv⟩:=Option.isSome_iff_exists.1 hzero
 obtain ⟨i,z,hi,hzi,hzr⟩:=zc3 hzv
 have hisz:i.size=tsz P e:=by simp [tsz,Program.cellsOf,hi]
 rw [<- hisz] at he
 generalize a.eval x=X at hrx ⊢
 generalize a.eval y=Y at hry ⊢
 simp only [eff] at he
 split at he
 ·rename_i xs hxs
  split at he
  ·rename_i hc
   obtain ⟨hall,hp⟩:=hc
   have hsz:∀ q∈xs,q.sz=i.size:=fun q hq=>by
    have:=List.all_eq_true.1 hall q.pur (List.mem_map.2 ⟨q,hq,rfl⟩)
    rw [<- zdp]; simpa using this
   have hsz':∀ q∈xs.map AV.pur,q.sz=i.size:=fun q hq=>by simp at hq; obtain ⟨r,hr,rfl⟩:=hq; rw [zdp]; exact hsz r hr
   obtain ⟨ad,c,vals,rfl,hv1,hv2,hv3,hv4⟩:=zy0 (P:=P) hxs hry hs.heap hsz hp
   have hv1':AReps Z st ((xs.map AV.pur).flatMap AV.cells) vals:=by rw [zjw]; exact zhq hv1
   have hv2':∀ q∈(xs.map AV.pur).flatMap AV.cells,q.one=true:=fun q hq=>by rw [zjw] at hq; simp only [List.mem_map] at hq; obtain ⟨r,hr,rfl⟩:=hq; exact znv (hv2 r hr)
   have hxl:(xs.map AV.pur).length=xs.length:=by simp
   split at he
   ·rename_i hev
    rw [hev] at hrx
    cases hrx
    simp only [Option.some.injEq,Prod.mk.injEq] at he
    obtain ⟨rfl,rfl⟩:=he
    have h0:=hv4 0 (by omega) w rfl
    have hr:(Builtin.copy_ A ty #[.slice none 0 0,.slice ad xs.length c]).run P w=.ok (goInt 0) w:=by
     simp at h0
     simp [Builtin.copy_,hA,run_underlying ht,sizeOf,typeInfo,hi,Builtin.lenOf,h0]
    exact zaq hr hs (.p _ _ (.int _ _))
   ·rename_i s g off len hev
    rw [hev] at hrx
    split at he
    ·rename_i o ho
     split at he
     ·rename_i hc
      obtain ⟨hle,hosz⟩:=hc
      simp only [Option.some.injEq,Prod.mk.injEq] at he
      obtain ⟨rfl,rfl⟩:=he
      have hO:=hs.heap.objs s g o ho
      have hmin:Nat.min xs.length len=min xs.length len:=rfl
      have hf0:=hv4 (min xs.length len) (by omega) w rfl
      have same:∀ es,es=o.es->min xs.length len=0->∀ ad' c',X=.slice ad' len c'->Good P K Z st ((do pure (Next.value (<- Builtin.copy_ A ty #[X,.slice ad xs.length c])):Sem Next).run P w) (.p (.int .i64 (min xs.length len:Nat))) (st.setObj s g ⟨o.sz,es⟩):=by
       rintro es rfl hm ad' c' rfl
       have hr:(Builtin.copy_ A ty #[.slice ad' len c',.slice ad xs.length c]).run P w=.ok (goInt ((min xs.length len:Nat):Int)) w:=by
        rw [hm] at hf0
        simp at hf0
        have hm':Nat.min xs.length len=0:=hm
        cases ad'<;>simp [Builtin.copy_,hA,run_underlying ht,sizeOf,typeInfo,hi,Builtin.lenOf,hm',hm,hf0,storeCells]
       exact zdq hr (hs.heap.setSame ho).1 (.p _ _ (.int _ _)) (hs.heap.setSame ho).2
      cases hrx with
      | own0 _ _ o' e1 e2=>exact same _ (by simp) (by simp) _ _ rfl
      | ownD _ _ _ _ _ _ _ h2=>exact (zax ho h2).elim
      | own _ _ _ _ o' b ad' c' e1 e2 e3 e4 e5 e6 =>
       rw [ho] at e1; cases e1
       rcases Nat.eq_zero_or_pos (min xs.length len) with h0|h0
       ·exact same _ (by rw [h0]; simp) h0 _ _ rfl
       ·have had:=e4 (by omega)
        subst had
        generalize hm:min xs.length len=m at *
        have hmx:m<=xs.length:=by omega
        have hml:m<=len:=by omega
        obtain ⟨cur,T,old,k1,k2,k3,k4,k5,k6⟩:=hO.blk b e2
        have hcl:∀ q∈o.es,(AV.cells q).length=o.sz:=fun q hq=>by rw [AV.cells_len (by rw [hO.els q hq]; exact hO.pos),hO.els q hq]
        have hclx:∀ q∈xs.map AV.pur,(AV.cells q).length=i.size:=fun q hq=>by rw [AV.cells_len (by rw [hsz' q hq]; exact hp),hsz' q hq]
        have hvl:=k2.length
        rw [zb7 AV.cells o.sz o.es hcl] at hvl
        have hfx:((xs.map AV.pur).take m).flatMap AV.cells=((xs.map AV.pur).flatMap AV.cells).take (m*i.size):=zde AV.cells i.size _ m hclx
        have hnew1:AReps Z st (((xs.map AV.pur).take m).flatMap AV.cells) (vals.take (m*i.size)):=by rw [hfx]; exact hv1'.take _
        have hnl:(vals.take (m*i.size)).length=m*i.size:=by
         rw [List.length_take,hv3]; exact Nat.min_eq_left (Nat.mul_le_mul_right _ hmx)
        have hone:∀ q∈((xs.map AV.pur).take m).flatMap AV.cells,q.one=true:=fun q hq=>by
         rw [hfx] at hq; exact hv2' q (List.mem_of_mem_take hq)
        generalize vals.take (m*i.size)=new at hnew1 hnl hf0
        obtain ⟨rest,hrest⟩:=zst k3
        have hcur:cur.size=(old++rest).length:=by rw [<- hrest]; simp
        have hmul:off*o.sz+m*i.size<=old.length:=by rw [hvl,<- hosz,<- Nat.add_mul]; exact Nat.mul_le_mul_right _ (by omega)
        have hst:=run_storeCells_at P b (off*o.sz) T new 0 cur w k1 (by rw [hcur,hnl]; simp; omega) (zb3 hnew1 hone)
        simp only [Nat.add_zero,hnl] at hst
        have hrun:(Builtin.copy_ A ty #[.slice (some ⟨b,off*o.sz,none⟩) len c',.slice ad xs.length c]).run P w=.ok (goInt m) (w.setRow b (cur.toList.take (off*o.sz)++new++cur.toList.drop (off*o.sz+m*i.size)).toArray):=by
         have hm':Nat.min xs.length len=m:=hm
         simp [Builtin.copy_,hA,run_underlying ht,sizeOf,typeInfo,hi,Builtin.lenOf,hm',hm,hf0,hst]
        have hnew:cur.toList.take (off*o.sz)++new++cur.toList.drop (off*o.sz+m*i.size)=(old.take (off*o.sz)++new++old.drop (off*o.sz+m*i.size))++rest:=by
         rw [hrest,List.take_append_of_le_length (by omega),List.drop_append_of_le_length (by omega)]
         simp [List.append_assoc]
        have hfl:(o.es.take off++(xs.map AV.pur).take m++o.es.drop (off+m)).flatMap AV.cells=(o.es.flatMap AV.cells).take (off*o.sz)++((xs.map AV.pur).take m).flatMap AV.cells++(o.es.flatMap AV.cells).drop (off*o.sz+m*i.size):=by
         have h1:∀ n,(o.es.take n).flatMap AV.cells=(o.es.flatMap AV.cells).take (n*o.sz):=fun n=>zde AV.cells o.sz o.es n hcl
         have h2:∀ n,(o.es.drop n).flatMap AV.cells=(o.es.flatMap AV.cells).drop (n*o.sz):=fun n=>zd7 AV.cells o.sz o.es n hcl
         rw [List.flatMap_append,List.flatMap_append,h1,h2,<- hosz,Nat.add_mul]
        have hh:=hs.heap.setObj ho e2 (o.es.take off++(xs.map AV.pur).take m++o.es.drop (off+m)) (cur.toList.take (off*o.sz)++new++cur.toList.drop (off*o.sz+m*i.size)).toArray
         (old.take (off*o.sz)++new++old.drop (off*o.sz+m*i.size))
         (fun q hq=>by
          rcases List.mem_append.1 hq with h|h
          ·rcases List.mem_append.1 h with h|h
           ·exact hO.els q (List.mem_of_mem_take h)
           ·rw [hosz]; exact hsz' q (List.mem_of_mem_take h)
          ·exact hO.els q (List.mem_of_mem_drop h))
         (fun q hq=>by
          rw [hfl] at hq
          rcases List.mem_append.1 hq with h|h
          ·rcases List.mem_append.1 h with h|h
           ·exact hO.one q (List.mem_of_mem_take h)
           ·exact hone q h
          ·exact hO.one q (List.mem_of_mem_drop h))
         (by simp; omega)
         (by rw [hfl]; exact ((k2.take _).append hnew1).append (k2.drop _))
         (zkp hnew)
         (by
          have hc2:cur.toList.length=cur.size:=by simp
          have:(cur.toList.take (off*o.sz)++new++cur.toList.drop (off*o.sz+m*i.size)).length=cur.size:=by
           simp only [List.length_append,List.length_take,List.length_drop,hc2,hnl]
           rw [hcur]; simp; omega
          simp only [List.size_toArray,this]; exact k4)
        exact zdq hrun hh (.p _ _ (.int _ _)) (ZLe.setObj Z st s g o _ ho rfl (by simp; omega))
     ·cases he
    ·cases he
   ·cases he
  ·cases he
 ·cases he
theorem zrv {A:Array TypeId} {t u ty e:TypeId} {k:IntKind} {x y:Operand} {x' y':Opd} {zv:AV} (hA:A[0]?=some t) (hB:A[1]?=some u) (ht:P.underlying t=some (.slice e)) (hu:P.underlying u=some (.int k))
  (hz:zd4 P e=some zv) (hb:P.bytesOf e<=65536) (hx:zag x=some x') (hy:zag y=some y') (hs:StRep K Z st w a)
  (he:eff orc st d (.appendz (tsz P e) zv x' y')=some (v,st')) :
  Good P K Z st ((do pure (Next.value (<- Builtin.append_ A ty #[a.eval x,a.eval y])):Sem Next).run P w) v st':=by
 have hrx:=zap hx hs
 have hry:=zap hy hs
 obtain ⟨i,z,hi,hzi,hzr⟩:=zc3 hz
 have hisz:i.size=tsz P e:=by simp [tsz,Program.cellsOf,hi]
 have hib:i.bytes<=65536:=by simpa [Program.bytesOf,hi] using hb
 rw [<- hisz] at he
 generalize a.eval x=X at hrx ⊢
 generalize a.eval y=Y at hry ⊢
 simp only [eff] at he
 split at he
 ·rename_i n h1 h2
  split at he
  ·rename_i hc
   obtain ⟨hn0,hl,hzs,hp⟩:=hc
   simp only [Option.some.injEq,Prod.mk.injEq] at he
   obtain ⟨rfl,rfl⟩:=he
   rw [h1] at hrx
   cases hrx
   obtain ⟨k1,e1⟩:=zbo h2
   rw [e1] at hry
   rw [hry.inv_int]
   have hr:=z0p (P:=P) (w:=w) (ty:=ty) (k':=k1) hA hB ht hu hi hzi hn0 hp hib hl
   have hge:=grownCap_ge w n 0 e
   have hmax:n<=maxLen:=by simp only [LIM] at hl; simp [maxLen]; omega
   have hgm:=grownCap_le_maxLen w n 0 e hmax
   generalize grownCap w n 0 e=C at *
   have hz0:=zkg (hzr Z st)
   obtain ⟨y1,y2,y3⟩:=hz0.cells (by rw [zdp,hzs]; exact hp)
   have hzl:z.cells.size=i.size:=by have:=y1.length; simp at this; rw [this,y2,zdp,hzs]
   have hzc:∀ m,(Builtin.zeroCells z.cells m).toList=(List.replicate m z.cells.toList).flatten:=fun m=>zei z.cells m
   have hal:=hs.heap.drew.alloc d ⟨i.size,List.replicate n zv.pur⟩ (Builtin.zeroCells z.cells n++Builtin.zeroCells z.cells (C - n)) e C (Builtin.zeroCells z.cells n).toList hp
    (fun q hq=>by rw [(List.mem_replicate.1 hq).2,zdp,hzs])
    (fun q hq=>by
     rw [zbd] at hq
     obtain ⟨l,h1,h2⟩:=List.mem_flatten.1 hq
     rw [(List.mem_replicate.1 h1).2] at h2
     exact y3 q h2)
    (by rw [hzc,zbd]; exact zca y1 n)
    (by
     have:=zkp (cur:=(Builtin.zeroCells z.cells n).toList++(Builtin.zeroCells z.cells (C - n)).toList) (vals:=(Builtin.zeroCells z.cells n).toList) rfl
     intro j y hj
     have:=this j y hj
     rw [<- this]
     congr 1
     apply Array.ext'
     simp)
    (by simp only [Array.size_append,zfx,hzl,<- Nat.add_mul]; congr 1; omega)
    (by simp; omega) hgm
   refine zdq hr hal ?_ (ZLe.alloc _ _ _ _ _ _)
   exact .own d _ 0 n ⟨i.size,List.replicate n zv.pur⟩ w.heap.size _ C (by rw [zam,if_pos ⟨rfl,rfl⟩]) (by simp [Cz.setB]) (fun _=>⟨rfl,by simp [Cz.setB]⟩) (fun _=>by simp) (by simp) hge
  ·cases he
 ·cases he
theorem z11 {t:TypeId} {x i:Operand} {x' i':Opd} (ht:P.underlying t=some .string) (hx:zag x=some x') (hi:zag i=some i') (hs:StRep K Z st w a)
  (he:eff orc st d (.sidx x' i')=some (v,st')) :
  Good P K Z st ((do pure (Next.value (<- Instr.index t (a.eval x) (a.eval i))):Sem Next).run P w) v st':=by
 have hrx:=zap hx hs
 have hri:=zap hi hs
 generalize a.eval x=X at hrx ⊢
 generalize a.eval i=I at hri ⊢
 simp only [eff] at he
 split at he
 ·rename_i s n h1 h2
  split at he
  ·rename_i b hb
   simp only [Option.some.injEq,Prod.mk.injEq] at he
   obtain ⟨rfl,rfl⟩:=he
   obtain ⟨k1,e1⟩:=zbo h2
   rw [e1] at hri
   rw [hri.inv_int]
   rw [h1] at hrx
   cases hrx.inv_p
   have hr:(Instr.index t (.string s) (.int k1 n)).run P w=.ok (.int .u8 b.toNat) w:=by
    have h0:(0:Int)<=n:=by omega
    simp [Instr.index,asIntOf,run_underlying ht,hb]
   exact zaq hr hs (.p _ _ (.int _ _))
  ·cases he
 ·cases he
end
end Go.Ab
namespace Go.Ab
section
variable {P:Program} {K:Ctx} {Z Z':Cz} {st st':St} {w w':World} {a:Act} {orc:Option PCall} {d:Nat} {v:AV}
theorem zrr {M:Nat->Option Obj}:∀ {xs ys:List PV} {us vs:List Value} {qs qs':List IntKind},zcf qs xs=true->zcf qs' ys=true->PReps M xs us->PReps M ys vs->(eqI xs ys=true ↔ us=vs)
 | [],[],us,vs,_,_,_,_,h1,h2=>by cases h1; cases h2; simp [eqI]
 | [],y::ys,us,vs,_,_,_,_,h1,h2=>by
  cases h1; cases h2; cases y<;>simp [eqI]
 | x::xs,[],us,vs,_,_,_,_,h1,h2=>by
  cases h1; cases h2; cases x<;>simp [eqI]
 | x::xs,y::ys,us,vs,q::qs,q'::qs',k1,k2,h1,h2=>by
  cases x<;>simp only [zcf,Bool.false_eq_true] at k1
  cases y<;>simp only [zcf,Bool.false_eq_true] at k2
  rename_i k n k' n'
  cases h1 with
  | cons _ x1 _ xs1 hx hxs =>
   cases h2 with
   | cons _ y1 _ ys1 hy hys =>
    cases hx; cases hy
    simp only [Bool.and_eq_true] at k1 k2
    have ih:=zrr k1.2 k2.2 hxs hys
    simp only [eqI,Bool.and_eq_true,decide_eq_true_eq,List.cons.injEq,Value.int.injEq,ih]
 | x::xs,y::ys,us,vs,[],_,k1,_,_,_=>by cases x<;>simp [zcf] at k1
 | x::xs,y::ys,us,vs,_::_,[],_,k2,_,_=>by cases y<;>simp [zcf] at k2
theorem zi6 {kt e:TypeId} {q:IntKind} {M:Nat->Option Obj} (he:P.underlying e=some (.int q)) (hc:P.cellsOf e=1) (d:Nat):∀ (n:Nat) {kc:List PV} {vals:List Value},zcf (List.replicate n q) kc=true->PReps M kc vals ->
  vals.length=n/\∀ i,i<n->∃ l,P.keyLits (d+1) e ((vals.drop (i*P.cellsOf e)).take (P.cellsOf e))=some l
 | 0,[],vals,_,h=>by cases h; exact ⟨rfl,fun i hi=>by omega⟩
 | 0,x::kc,vals,hk,h=>by simp [zcf] at hk
 | n+1,[],vals,hk,h=>by simp [List.replicate_succ,zcf] at hk
 | n+1,x::kc,vals,hk,h=>by
  rw [List.replicate_succ] at hk
  cases x<;>simp only [zcf,Bool.false_eq_true] at hk
  rename_i k m
  simp only [Bool.and_eq_true,decide_eq_true_eq] at hk
  obtain ⟨⟨rfl,hw⟩,hk⟩:=hk
  cases h with
  | cons _ x1 _ xs1 hx hxs =>
   cases hx
   obtain ⟨i1,i2⟩:=zi6 (kt:=kt) he hc d n hk hxs
   refine ⟨by simp [i1],fun i hi=>?_⟩
   rw [hc] at i2 ⊢
   cases i with
   | zero=>exact ⟨[.int k m],by simp [Program.keyLits,he,hw]⟩
   | succ i=>simpa using i2 i (by omega)
theorem zf8 {α β : Type} {f : α -> Option β}:∀ {l:List α},(∀ x∈l,∃ y,f x=some y)->∃ ys,l.mapM f=some ys
 | [],_=>⟨[],rfl⟩
 | x::l,h=>by
  obtain ⟨y,hy⟩:=h x (by simp)
  obtain ⟨ys,hys⟩:=zf8 (l:=l) fun z hz=>h z (by simp [hz])
  exact ⟨y::ys,by simp [List.mapM_cons,hy,hys]⟩
theorem zmv {kt e:TypeId} {n:Nat} {q:IntKind} {M:Nat->Option Obj} (hk:P.underlying kt=some (.array n e)) (he:P.underlying e=some (.int q)) (hn:P.cellsOf kt=n) (hc:P.cellsOf e=1) (h0:0<P.types.size)
  {kc:List PV} {vals:List Value} (hok:zcf (List.replicate n q) kc=true) (hr:PReps M kc vals):∃ l,keyOf P kt (.agg vals.toArray)=some l:=by
 obtain ⟨d,hd⟩:∃ d,P.types.size+1=d+2:=⟨P.types.size - 1,by omega⟩
 have h1:P.keyType kt=true:=by
  unfold Program.keyType; rw [hd]; simp [Program.keyTypeAt,hk,he]
 obtain ⟨k1,k2⟩:=zi6 (kt:=kt) he hc d n hok hr
 have h2:(Value.agg vals.toArray).formed P kt=true:=by simp [Value.formed,hk,hn,k1]
 obtain ⟨ys,hys⟩:=zf8 (l:=List.range n) (f:=fun i=>P.keyLits (d+1) e ((vals.drop (i*P.cellsOf e)).take (P.cellsOf e))) fun i hi=>k2 i (List.mem_range.1 hi)
 refine ⟨.string (keyBytes ys.flatten),?_⟩
 ·simp only [keyOf,hk,h1,h2,Bool.and_self,if_true,hd]
  rw [show d+2=(d+1)+1 from rfl,Program.keyLits.eq_def]
  simp only [hk,Value.cells,k1,hn,if_true,hys,Option.map_some]
theorem ztf {kt e:TypeId} {n:Nat} {q:IntKind} (hk:P.underlying kt=some (.array n e)) (he:P.underlying e=some (.int q)) (hn:P.cellsOf kt=n) (hc:P.cellsOf e=1):WideMaps.KeyLaw P kt :=
 deep_law (m:=2) (by omega) (by simp [Program.keyTypeAt,hk,he]) (by simp [Program.tiled,hk,he,hn,hc]) (by simp [hk])
theorem zmw {M:Nat->Option Obj} (d:Nat):∀ {fs:List Field} {j:Nat} {qs:List IntKind} {kc:List PV} {vals pre:List Value},zu1 P fs j=some qs->zcf qs kc=true->PReps M kc vals->pre.length=j ->
  vals.length=fs.length/\(∀ f∈fs,(f.name != "_")=true)/\∀ f∈fs,∃ y,P.keyLits (d+1) f.type (((pre++vals).drop f.offset).take (P.cellsOf f.type))=some y
 | [],j,qs,kc,vals,pre,h,hk,hv,_=>by
  simp only [zu1,Option.some.injEq] at h
  subst h
  cases kc with
  | nil=>cases hv; exact ⟨rfl,by simp,by simp⟩
  | cons x kc=>simp [zcf] at hk
 | f::fs,j,qs,kc,vals,pre,h,hk,hv,hp=>by
  simp only [zu1] at h
  split at h
  ·rename_i q hq
   split at h
   ·rename_i hc
    obtain ⟨h1,h2,h3⟩:=hc
    cases hks:zu1 P fs (j+1) with
    | none=>rw [hks] at h; cases h
    | some qs' =>
     rw [hks] at h
     simp only [Option.map_some,Option.some.injEq] at h
     subst h
     cases kc with
     | nil=>simp [zcf] at hk
     | cons x kc =>
      cases x<;>simp only [zcf,Bool.false_eq_true] at hk
      rename_i k m
      simp only [Bool.and_eq_true,decide_eq_true_eq] at hk
      obtain ⟨⟨rfl,hw⟩,hk⟩:=hk
      cases hv with
      | cons _ x1 _ xs1 hx hxs =>
       cases hx
       obtain ⟨i1,i2,i3⟩:=zmw d (pre:=pre++[.int k m]) hks hk hxs (by simp [hp])
       refine ⟨by simp [i1],fun g hg=>?_,fun g hg=>?_⟩
       ·rcases List.mem_cons.1 hg with rfl|hg
        ·simpa using h1
        ·exact i2 g hg
       ·rcases List.mem_cons.1 hg with rfl|hg
        ·refine ⟨[.int k m],?_⟩
         rw [h2,h3,<- hp]
         simp [Program.keyLits,hq,hw]
        ·simpa using i3 g hg
   ·cases h
  ·cases h
theorem zvg {kt:TypeId} {qs:List IntKind} (h:zr1 P kt=some qs):WideMaps.KeyLaw P kt/\∀ {M:Nat->Option Obj} {kc:List PV} {vals:List Value},zcf qs kc=true->PReps M kc vals->∃ l,keyOf P kt (.agg vals.toArray)=some l:=by
 unfold zr1 at h
 split at h
 ·rename_i n e hk
  split at h
  ·rename_i q he
   split at h
   ·rename_i hc
    cases h
    exact ⟨ztf hk he hc.1 hc.2.1,fun h1 h2=>zmv hk he hc.1 hc.2.1 hc.2.2 h1 h2⟩
   ·cases h
  ·cases h
 ·rename_i fs hk
  split at h
  ·rename_i hc
   obtain ⟨c1,c2,c3,c4,c5⟩:=hc
   refine ⟨deep_law (m:=2) (by omega) c1 c3 (by simp [hk]),fun {M kc vals} h1 h2=>?_⟩
   obtain ⟨d,hd⟩:∃ d,P.types.size+1=d+2:=⟨P.types.size - 1,by omega⟩
   obtain ⟨k1,k2,k3⟩:=zmw (pre:=[]) d h h1 h2 rfl
   have hl:vals.length=P.cellsOf kt:=by rw [k1,c4]; simp
   have hf:(Value.agg vals.toArray).formed P kt=true:=by simp [Value.formed,hk,hl]
   obtain ⟨ys,hys⟩:=zf8 (l:=fs.toList) (f:=fun f=>P.keyLits (d+1) f.type ((vals.drop f.offset).take (P.cellsOf f.type))) fun f hf=>by simpa using k3 f hf
   have hall:fs.all (fun f=>f.name != "_")=true:=by
    rw [Array.all_eq_true_iff_forall_mem]
    intro f hf; exact k2 f (by simpa using hf)
   refine ⟨.string (keyBytes ys.flatten),?_⟩
   simp only [keyOf,hk,c2,hf,Bool.and_self,if_true,hd]
   rw [show d+2=(d+1)+1 from rfl,Program.keyLits.eq_def]
   simp only [hk,Value.cells,hl,hall,and_self,if_true,hys,Option.map_some]
  ·cases h
 ·cases h
theorem zio {kt:TypeId} {qs:List IntKind} {M:Nat->Option Obj} (h:∀ {kc:List PV} {vals:List Value},zcf qs kc=true->PReps M kc vals->∃ l,keyOf P kt (.agg vals.toArray)=some l):∀ {ks:List PV} {es:List MapEntry},ks.all (zek qs)=true->PReps M ks (es.map (·.key))->∀ e∈es,∃ l,keyOf P kt e.key=some l
 | [],[],_,_,e,he=>by cases he
 | [],e::es,_,h,_,_=>by cases h
 | k::ks,[],_,h,_,_=>by cases h
 | k::ks,e::es,ha,hr,e',he'=>by
  simp only [List.all_cons,Bool.and_eq_true] at ha
  simp only [List.map_cons] at hr
  cases hr with
  | cons _ _ _ _ hk0 hks =>
   rcases List.mem_cons.1 he' with rfl|he'
   ·obtain ⟨ha,_⟩:=ha
    cases k<;>simp only [zek,Bool.false_eq_true] at ha
    generalize e'.key=ek at hk0
    cases hk0 with
    | agg _ us _ hus=>exact h ha hus
   ·exact zio h ha.2 hks e' he'
theorem zi3 {M:Nat->Option Obj} {qs:List IntKind} {kc:List PV} {vals:List Value} (hok:zcf qs kc=true) (hr:PReps M kc vals):∀ {ks vs:List PV} {es:List MapEntry},ks.all (zek qs)=true->PReps M ks (es.map (·.key))->PReps M vs (es.map (·.val))->(es.map (·.key)).Nodup ->
  ((∀ e:MapEntry,e∈es->e.key ≠ .agg vals.toArray)->zbp kc ks vs=none)/\∀ (j:Nat) (e:MapEntry),es[j]?=some e->e.key=.agg vals.toArray->∃ v,zbp kc ks vs=some v/\PRep M v e.val
 | [],vs,es,_,h1,h2,_=>by
  cases es with
  | nil=>cases h2; exact ⟨fun _=>rfl,fun j e h=>by simp at h⟩
  | cons e es=>cases h1
 | k::ks,vs,[],_,h1,_,_=>by cases h1
 | k::ks,vs,e::es,ha,h1,h2,hnd=>by
  simp only [List.all_cons,Bool.and_eq_true] at ha
  simp only [List.map_cons] at h1 h2 hnd
  cases h1 with
  | cons _ _ _ _ hk hks =>
   cases h2 with
   | cons v _ vs _ hv hvs =>
    obtain ⟨i1,i2⟩:=zi3 hok hr ha.2 hks hvs (List.nodup_cons.1 hnd).2
    cases k<;>simp only [zek,Bool.false_eq_true,false_and] at ha
    rename_i c
    generalize hek:e.key=ek at hk hnd
    cases hk with
    | agg _ us _ hus =>
     have heq:=zrr ha.1 hok hus hr
     have hval:(Value.agg us.toArray=.agg vals.toArray) ↔ us=vals:=by
      constructor
      ·intro h; have:=congrArg (fun v=>match v with|Value.agg cs=>cs.toList|_=>[]) h; simpa using this
      ·rintro rfl; rfl
     by_cases hu:us=vals
     ·refine ⟨fun h=>absurd (hek.trans (hval.2 hu)) (h e (by simp)),fun j e' hj hke=>?_⟩
      have hfind:zbp kc (.agg c::ks) (v::vs)=some v:=by simp [zbp,heq.2 hu]
      cases j with
      | zero=>simp at hj; subst hj; exact ⟨v,hfind,hv⟩
      | succ j =>
       exfalso
       simp at hj
       have hm:e'∈es:=List.mem_of_getElem? hj
       refine (List.nodup_cons.1 hnd).1 (List.mem_map.2 ⟨e',hm,?_⟩)
       rw [hke]; exact (hval.2 hu).symm
     ·have hne:¬ eqI c kc=true:=fun h=>hu (heq.1 h)
      have hfind:zbp kc (.agg c::ks) (v::vs)=zbp kc ks vs:=by simp [zbp,hne]
      rw [hfind]
      refine ⟨fun h=>i1 fun x hx=>h x (by simp [hx]),fun j e' hj hke=>?_⟩
      cases j with
      | zero=>simp at hj; subst hj; exact absurd (hval.1 (hek.symm.trans hke)) hu
      | succ j=>exact i2 j e' (by simpa using hj) hke
end
end Go.Ab
namespace Go.Ab
section
variable {P:Program} {K:Ctx} {Z Z':Cz} {st st':St} {w w':World} {a:Act} {orc:Option PCall} {d:Nat} {v:AV}
theorem zu6 {t:TypeId} {k:Option IntKind} (h:zem P t=some k):(isAgg t).run P w=.ok false w:=by
 unfold zem at h
 split at h<;>first|(rename_i e; rw [zfz w e]; rfl)|cases h
theorem zhz {t:TypeId} {k:Option IntKind} {cs:Array Value} {j:Nat} {x:Value} (h:zem P t=some k) (hx:cs[j]?=some x):(part t cs j).run P w=.ok x w:=by
 simp [part,zu6 (w:=w) h,hx]
theorem z3f {M:Nat->Option Obj} {t:TypeId} {k:Option IntKind} {ks:List (Option IntKind)} {dp:Nat} {u z:PV} {us zs:List PV} {x y:Value} {r:Bool} (ht:zem P t=some k) (h1:PRep M u x) (h2:PRep M z y)
  (he:zb9 (k::ks) (u::us) (z::zs)=some r) :
  ∃ b r',(Op.equalIn (dp+1) t x y).run P w=.ok b w/\zb9 ks us zs=some r'/\r=(b&&r'):=by
 unfold zem at ht
 unfold zb9 at he
 split at he
 ·rename_i h; cases h
 ·rename_i k0 ks0 k1 a0 r0 k2 b0 s0 e1 e2 e3
  cases e1; cases e2; cases e3
  cases h1; cases h2
  split at he
  ·rename_i hk
   obtain ⟨rfl,rfl⟩:=hk
   split at he
   ·rename_i r' hr'
    cases he
    split at ht
    ·rename_i e; exact ⟨_,r',run_equalIn_int w dp t _ _ a0 b0 e,hr',rfl⟩
    ·cases ht
    ·cases ht
   ·cases he
  ·cases he
 ·rename_i ks0 a0 r0 b0 s0 e1 e2 e3
  cases e1; cases e2; cases e3
  cases h1; cases h2
  split at he
  ·rename_i r' hr'
   cases he
   split at ht
   ·cases ht
   ·rename_i e; exact ⟨_,r',run_equalIn_bool w dp t a0 b0 e,hr',rfl⟩
   ·cases ht
  ·cases he
 ·cases he
theorem zjd {k:Option IntKind} {ks:List (Option IntKind)} {xs ys:List PV} {r:Bool} (h:zb9 (k::ks) xs ys=some r):∃ u us z zs,xs=u::us/\ys=z::zs:=by
 cases xs with
 | nil=>cases k<;>simp [zb9] at h
 | cons u us =>
  cases ys with
  | nil=>cases k<;>cases u<;>simp [zb9] at h
  | cons z zs=>exact ⟨u,us,z,zs,rfl,rfl⟩
theorem zlh {M:Nat->Option Obj} {dp:Nat} {X Y:Array Value}:∀ (fs:List Field) (j:Nat) (ks:List (Option IntKind)) (cx cy:List PV) (xs ys:List Value) (r:Bool),ze3 P fs j=some ks ->
  PReps M cx xs->PReps M cy ys->X.toList.drop j=xs->Y.toList.drop j=ys->zb9 ks cx cy=some r->(Op.eqFields (dp+1) X Y fs).run P w=.ok r w
 | [],j,ks,cx,cy,xs,ys,r,hf,_,_,_,_,he=>by
  simp [ze3] at hf
  subst hf
  cases cx<;>cases cy<;>simp [zb9] at he
  subst he; rfl
 | f::fs,j,ks,cx,cy,xs,ys,r,hf,hx,hy,eX,eY,he=>by
  simp only [ze3] at hf
  split at hf
  ·rename_i hc
   obtain ⟨hn,rfl⟩:=hc
   split at hf
   ·rename_i k l hk hl
    cases hf
    obtain ⟨u,us,z,zs,rfl,rfl⟩:=zjd he
    cases hx with
    | cons _ x _ xs' h1 h2 =>
     cases hy with
     | cons _ y _ ys' h3 h4 =>
      obtain ⟨b,r',e1,e2,rfl⟩:=z3f (P:=P) (w:=w) (dp:=dp) hk h1 h3 he
      have gx:X[f.offset]?=some x:=by
       have:=congrArg (·[0]?) eX
       simpa [List.getElem?_drop] using this
      have gy:Y[f.offset]?=some y:=by
       have:=congrArg (·[0]?) eY
       simpa [List.getElem?_drop] using this
      have dx:X.toList.drop (f.offset+1)=xs':=by rw [<- List.drop_drop,eX]; rfl
      have dy:Y.toList.drop (f.offset+1)=ys':=by rw [<- List.drop_drop,eY]; rfl
      have ih:=zlh (dp:=dp) fs (f.offset+1) l us zs xs' ys' r' hl h2 h4 dx dy e2
      simp only [Op.eqFields,hn,ne_eq,not_false_eq_true,if_true,Sem.run_bind,zhz hk gx,zhz hk gy,Result.andThen_ok,e1]
      cases b
      ·simp
      ·simpa using ih
   ·cases hf
  ·cases hf
theorem zu9 {M:Nat->Option Obj} {dp n:Nat} {X Y:Array Value} {e:TypeId} {k:Option IntKind} (hk:zem P e=some k) (hi:∃ i,P.info? e=some i/\i.size=1) {t:TypeId} (ht:P.underlying t=some (.array n e)) {cx cy:List PV} {r:Bool}
  (hx:PReps M cx X.toList) (hy:PReps M cy Y.toList) (he:zb9 (List.replicate n k) cx cy=some r):(Op.equalIn (dp+2) t (.agg X) (.agg Y)).run P w=.ok r w:=by
 obtain ⟨i,hi,hs⟩:=hi
 obtain ⟨D,hD⟩:∃ D,D=dp+1:=⟨_,rfl⟩
 have e2:dp+2=D+1:=by omega
 rw [e2]
 simp only [Op.equalIn,Sem.run_bind,run_underlying ht,Result.andThen_ok,sizeOf,typeInfo,run_program,hi,Sem.run_pure,hs,Nat.mul_one]
 rw [Std.Legacy.Range.forIn_eq_forIn_range']
 have hr:List.range' [:n].start [:n].size [:n].step=List.range' 0 n:=by
  simp [Std.Legacy.Range.size]
 rw [hr]
 have key:∀ (m j:Nat) (cx cy:List PV) (xs ys:List Value) (r:Bool),PReps M cx xs->PReps M cy ys->X.toList.drop j=xs->Y.toList.drop j=ys->zb9 (List.replicate m k) cx cy=some r ->
   ((Sem.run P (forIn (m:=Sem) (List.range' j m) ((none:Option Bool),()) fun i __s=>do
      let __do_lift <- part e X i
      let __do_lift_1 <- part e Y i
      let __do_lift <- Op.equalIn D e __do_lift __do_lift_1
      if (!__do_lift)=true then pure (ForInStep.done (some false,())) else pure (ForInStep.yield (none,()))) w).andThen
    fun a w'=>Sem.run P (match a.fst with|some r=>pure r|none=>pure true) w')=.ok r w:=by
  intro m
  induction m with
  | zero =>
   intro j cx cy xs ys r hx hy eX eY he
   cases cx<;>cases cy<;>simp [zb9] at he
   subst he; simp
  | succ m ih =>
   intro j cx cy xs ys r hx hy eX eY he
   rw [List.replicate_succ] at he
   obtain ⟨u,us,z,zs,rfl,rfl⟩:=zjd he
   cases hx with
   | cons _ x _ xs' h1 h2 =>
    cases hy with
    | cons _ y _ ys' h3 h4 =>
     obtain ⟨b,r',e1,e2,rfl⟩:=z3f (P:=P) (w:=w) (dp:=dp) hk h1 h3 he
     rw [<- hD] at e1
     have gx:X[j]?=some x:=by
      have:=congrArg (·[0]?) eX
      simpa [List.getElem?_drop] using this
     have gy:Y[j]?=some y:=by
      have:=congrArg (·[0]?) eY
      simpa [List.getElem?_drop] using this
     have dx:X.toList.drop (j+1)=xs':=by rw [<- List.drop_drop,eX]; rfl
     have dy:Y.toList.drop (j+1)=ys':=by rw [<- List.drop_drop,eY]; rfl
     have ih:=ih (j+1) us zs xs' ys' r' h2 h4 dx dy e2
     simp only [List.range'_succ,List.forIn_cons,Sem.run_bind,zhz hk gx,zhz hk gy,Result.andThen_ok,e1]
     cases b
     ·simp
     ·simpa using ih
 refine Eq.trans ?_ (key n 0 cx cy X.toList Y.toList r hx hy rfl rfl he)
 congr 1
 funext p w'
 rcases p with ⟨_|_,_⟩<;>rfl
theorem z2a {op:BinOp} {t:TypeId} {ks:List (Option IntKind)} {x y:Operand} {x' y':Opd} (hk:zld P t=some ks) (hx:zag x=some x') (hy:zag y=some y') (hs:StRep K Z st w a)
  (he:eff orc st d (.abin ks op x' y')=some (v,st')) :
  Good P K Z st ((do pure (Next.value (<- (do eqGuard op t x y (a.eval x) (a.eval y); binOp op t (a.eval x) (a.eval y)))):Sem Next).run P w) v st':=by
 have h1:=zap hx hs
 have h2:=zap hy hs
 simp only [eff] at he
 split at he
 ·rename_i r hr
  simp only [Option.some.injEq,Prod.mk.injEq] at he
  obtain ⟨rfl,rfl⟩:=he
  unfold abin at hr
  split at hr
  ·rename_i xs ys e1 e2
   rw [e1] at h1; rw [e2] at h2
   have p1:=h1.inv_p
   have p2:=h2.inv_p
   generalize a.eval x=X at p1 ⊢
   generalize a.eval y=Y at p2 ⊢
   cases p1 with
   | agg _ vx _ k1 =>
    cases p2 with
    | agg _ vy _ k2 =>
     have key:∀ r,zb9 ks xs ys=some r->(Op.equal t (.agg vx.toArray) (.agg vy.toArray)).run P w=.ok r w/\P.eqGuardType P.depth t=false:=by
      intro r hc
      unfold zld at hk
      split at hk
      ·rename_i fs hu
       split at hk
       ·rename_i hg
        have hfs:P.underlying t=some (.struct (P.fieldsOf t)):=by simp [Program.fieldsOf,hu]
        have hft:P.fieldsOf t=fs:=by simp [Program.fieldsOf,hu]
        refine ⟨?_,hg.2⟩
        have:=run_equalIn_struct (P:=P) w 9999 t vx.toArray vy.toArray hfs hg.1
        unfold Op.equal Op.maxDepth
        rw [this,hft]
        exact zlh (dp:=9998) fs.toList 0 ks xs ys vx vy r hk k1 k2 (by simp) (by simp) hc
       ·cases hk
      ·rename_i n e hu
       split at hk
       ·rename_i hg
        obtain ⟨kk,hkk,rfl⟩:=Option.map_eq_some_iff.1 hk
        have hi:∃ i,P.info? e=some i/\i.size=1:=by
         cases hi:P.info? e with
         | none=>simp [hi] at hg
         | some i=>simp [hi] at hg; exact ⟨i,rfl,hg.1⟩
        exact ⟨zu9 (dp:=9998) hkk hi hu (by simpa using k1) (by simpa using k2) hc,hg.2⟩
       ·cases hk
      ·cases hk
     split at hr
     ·rename_i r' hc
      obtain ⟨q1,q2⟩:=key r' hc
      cases hr
      have hg:=run_eqGuard_agg (P:=P) w .eql t x y vx.toArray vy.toArray q2
      exact zaq (by simp [hg,binOp,q1]) hs (.p _ _ (.bool _))
     ·rename_i r' hc
      obtain ⟨q1,q2⟩:=key r' hc
      cases hr
      have hg:=run_eqGuard_agg (P:=P) w .neq t x y vx.toArray vy.toArray q2
      exact zaq (by simp [hg,binOp,q1]) hs (.p _ _ (.bool _))
     ·cases hr
  ·cases hr
 ·cases he
end
end Go.Ab
