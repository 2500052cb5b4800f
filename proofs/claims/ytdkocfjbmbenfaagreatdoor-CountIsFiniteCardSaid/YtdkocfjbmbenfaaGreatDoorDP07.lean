/-
Proofs for the law CountIsFinite, part 7. Conditions: none.
-/
import Derived.Test.YtdkocfjbmbenfaaGreatDoorDP06
set_option maxRecDepth 100000
set_option maxHeartbeats 4000000
set_option linter.all false
namespace Go.Ab
def za2:AV->List Nat
 | .own s _ _ _=>[s]
 | .ptr s _ _ _=>[s]
 | _=>[]
def Opd.slots:Opd->List Nat
 | .t n=>[n]
 | .c _=>[]
def zal:Option Opd->List Opd
 | some x=>[x]
 | none=>[]
def IOp.opds:IOp->List Opd
 | .mv x | .box _ x | .load _ _ x | .nilck x | .not x | .neg x | .ixor x | .conv _ x | .faddr _ x | .field _ _ _ x | .extract x _ | .len x | .isnil _ x | .cap x | .clear _ _ x=>[x]
 | .pick c a b=>[c,a,b]
 | .alloc _ _ | .raw _ | .bad=>[]
 | .build _ ps=>ps.map (·.2.2)
 | .bslice _ _ _ ps=>ps.map (·.2)
 | .store _ a v | .ibin _ a v | .bbin _ a v | .abin _ _ a v | .mkslice _ _ a v | .iaddr _ a v | .iaddrA _ _ a v | .idx _ _ _ a v | .append _ a v | .copy _ a v | .appendz _ _ a v | .sidx a v | .mlook _ _ a v | .mlookc _ _ a v=>[a,v]
 | .mkfn _ caps=>caps
 | .slice _ x lo hi=>x::(zal lo++zal hi)
 | .min xs | .max xs=>xs
 | .call _ args=>args
 | .callv f args=>f::args
def zce (st:St):IOp->List AV
 | .call _ args=>args.map st.ev
 | .callv x args=>match st.ev x with
  | .p (.fn _ caps)=>args.map st.ev++caps.map .p
  | .fn _ caps=>args.map st.ev++caps
  | _=>[]
 | _=>[]
def ze7 (orc:Option PCall) (st:St) (vs:List AV):List Nat :=
 match orc with
 | some c=>match c.res with
  | .hsp _ hp _ _=>hp.map (·.1)
  | _=>(vs.flatMap (deps st FUEL)).map (·.1)
 | none=>(vs.flatMap (deps st FUEL)).map (·.1)
def effR (orc:Option PCall) (st:St) (d:Nat) (op:IOp):List Nat :=
 match op with
 | .alloc _ _ | .box _ _ | .bslice _ _ _ _ | .mkslice _ _ _ _ | .appendz _ _ _ _=>[d]
 | .load _ _ x | .nilck x | .faddr _ x | .slice _ x _ _ | .iaddr _ x _ | .iaddrA _ _ x _ | .isnil _ x | .clear _ _ x=>za2 (st.ev x)
 | .store _ a _=>za2 (st.ev a)
 | .append _ a x=>d::(za2 (st.ev a)++za2 (st.ev x))
 | .copy _ a x=>za2 (st.ev a)++za2 (st.ev x)
 | .call _ _ | .callv _ _=>d::ze7 orc st (zce st op)
 | _=>[]
def zqo (orc:Option PCall) (d:Nat) (ids:List Nat):List Nat :=
 match orc with
 | some c=>match c.res with
  | .hsp _ _ _ _=>d::ids
  | _=>match c.tn with
   | some _=>d::ids
   | none=>(if c.res.flat then [] else ids)++(match c.res with | .fresh _ _=>[d]|_=>[])
 | none=>[]
def effW (orc:Option PCall) (st:St) (d:Nat) (op:IOp):List Nat :=
 match op with
 | .alloc _ _ | .box _ _ | .bslice _ _ _ _ | .mkslice _ _ _ _ | .appendz _ _ _ _=>[d]
 | .store _ a _=>za2 (st.ev a)
 | .clear _ _ a=>za2 (st.ev a)
 | .copy _ a _=>za2 (st.ev a)
 | .append _ a _=>d::za2 (st.ev a)
 | .call _ _ | .callv _ _=>zqo orc d (ze7 orc st (zce st op))
 | _=>[]
section
variable {orc:Option PCall} {st st' st2:St} {d:Nat} {v:AV}
theorem zcm {o:AObj} {s:Nat} (h:st2.site d=st.site d) (hs:s=d\/st2.site s=st.site s):(st2.alloc d o).site s=(st.alloc d o).site s:=by
 rw [za7,za7,h]
 split
 ·rfl
 ·rename_i hne; rcases hs with hs|hs
  ·exact absurd hs hne
  ·exact hs
theorem zl8:∀ (n:Nat) (u:AV),(∀ i∈deps st n u,st2.site i.1=st.site i.1)->toPV st2 n u=toPV st n u/\deps st2 n u=deps st n u
 | 0,_,_=>⟨rfl,rfl⟩
 | n+1,u,h=>by
  have ih:=zl8 n
  have lst:∀ (l:List AV),(∀ i∈l.flatMap (deps st n),st2.site i.1=st.site i.1)->l.mapM (toPV st2 n)=l.mapM (toPV st n)/\l.flatMap (deps st2 n)=l.flatMap (deps st n):=by
   intro l
   induction l with
   | nil=>intro _; exact ⟨rfl,rfl⟩
   | cons x xs ihl =>
    intro h
    obtain ⟨a1,a2⟩:=ih x (fun i hi=>h i (by simp only [List.flatMap_cons,List.mem_append]; exact .inl hi))
    obtain ⟨b1,b2⟩:=ihl (fun i hi=>h i (by simp only [List.flatMap_cons,List.mem_append]; exact .inr hi))
    exact ⟨by rw [List.mapM_cons,List.mapM_cons,a1,b1],by rw [List.flatMap_cons,List.flatMap_cons,a2,b2]⟩
  cases u with
  | p v=>exact ⟨rfl,rfl⟩
  | nil=>exact ⟨rfl,rfl⟩
  | skip=>exact ⟨rfl,rfl⟩
  | undef=>exact ⟨rfl,rfl⟩
  | cp v vsz off=>exact ⟨rfl,rfl⟩
  | agg cs=>obtain ⟨b1,b2⟩:=lst cs h; exact ⟨by simp only [toPV,b1],b2⟩
  | tup cs=>obtain ⟨b1,b2⟩:=lst cs h; exact ⟨by simp only [toPV,b1],b2⟩
  | fn f cs=>obtain ⟨b1,b2⟩:=lst cs h; exact ⟨by simp only [toPV,b1],b2⟩
  | own s g off len =>
   have ho:st2.obj s g=st.obj s g:=zad (h (s,g) (by simp [deps]))
   simp only [toPV,deps,ho] at h ⊢
   cases hob:st.obj s g with
   | none=>exact ⟨rfl,rfl⟩
   | some o =>
    simp only [hob,List.mem_cons,forall_eq_or_imp] at h
    obtain ⟨b1,b2⟩:=lst o.es h.2
    obtain ⟨c1,_⟩:=lst ((o.es.drop off).take len) (fun i hi=>h.2 i (by
     obtain ⟨e,he,hie⟩:=List.mem_flatMap.1 hi
     exact List.mem_flatMap.2 ⟨e,List.mem_of_mem_drop (List.mem_of_mem_take he),hie⟩))
    exact ⟨by simp only [c1],by simp only [b2]⟩
  | ptr s g ix off =>
   have ho:st2.obj s g=st.obj s g:=zad (h (s,g) (by simp [deps]))
   simp only [toPV,deps,ho] at h ⊢
   cases hob:st.obj s g with
   | none=>exact ⟨rfl,rfl⟩
   | some o =>
    simp only [hob,List.mem_cons,forall_eq_or_imp] at h
    obtain ⟨b1,b2⟩:=lst o.es h.2
    refine ⟨?_,by simp only [b2]⟩
    split
    ·split
     ·rename_i o' ho'
      cases ho'
      split
      ·rename_i e he
       rw [he] at h
       obtain ⟨c1,_⟩:=ih e (fun i hi=>h.2 i (by simp [hi]))
       rw [c1]
      ·rfl
     ·rfl
    ·rfl
theorem zaz:∀ (ids:List (Nat × Nat)) {st st2:St} {s:Nat},st2.site s=st.site s->(killAll st2 ids).site s=(killAll st ids).site s
 | [],_,_,_,h=>h
 | (s',g)::r,st,st2,s,h=>by
  rw [zej,zej]
  refine zaz r ?_
  rw [zfy,zfy]
  split
  ·rename_i he; subst he; rw [h]
  ·exact h
theorem zay:∀ (ids:List (Nat × Nat)) {st:St} {s:Nat},s∉ids.map (·.1)->(killAll st ids).site s=st.site s
 | [],_,_,_=>rfl
 | (s',g)::r,st,s,h=>by
  rw [zej,zay r (by simp at h ⊢; exact h.2),zfy,if_neg]
  simp at h; exact h.1
def Same (st st' st2 st2':St) (R W:List Nat):Prop :=
 (∀ s,s∈W->st2'.site s=st'.site s)/\(∀ s,s∉W->st2'.site s=st2.site s)/\(∀ s,s∉W->st'.site s=st.site s)/\st2'.sl=st2.sl/\st'.sl=st.sl/\(∀ s∈W,s∈R)
theorem zak {R:List Nat}:Same st st st2 st2 R []:=⟨by simp,by simp,by simp,rfl,rfl,by simp⟩
theorem zcy {R:List Nat} {o:AObj} (h:st2.site d=st.site d) (hR:d∈R):Same st (st.alloc d o) st2 (st2.alloc d o) R [d]:=by
 refine ⟨fun s hs=>?_,fun s hs=>?_,fun s hs=>?_,rfl,rfl,by simpa using hR⟩
 ·simp at hs; exact zcm h (.inl hs)
 ·simp at hs; rw [za7,if_neg hs]
 ·simp at hs; rw [za7,if_neg hs]
theorem zou {c:PCall} {ids:List (Nat × Nat)} (hn:c.tn=none) (he:zev c st d ids=some (v,st')) (hi:∀ i∈ids,st2.site i.1=st.site i.1) (hd:st2.site d=st.site d) :
  ∃ st2',zev c st2 d ids=some (v,st2')/\Same st st' st2 st2' (d::ids.map (·.1)) (zqo (some c) d (ids.map (·.1))):=by
 have hi':∀ s∈ids.map (·.1),st2.site s=st.site s:=fun s hs=>by obtain ⟨i,hi1,rfl⟩:=List.mem_map.1 hs; exact hi i hi1
 have hkd:(killAll st2 ids).site d=(killAll st ids).site d:=zaz ids hd
 have hkill:Same st (killAll st ids) st2 (killAll st2 ids) (d::ids.map (·.1)) (ids.map (·.1)) :=
  ⟨fun s hs=>zaz ids (hi' s hs),fun s hs=>zay ids hs,fun s hs=>zay ids hs,zb4 ids st2,zb4 ids st,fun s hs=>by simp only [List.mem_cons]; exact .inr hs⟩
 obtain ⟨cf,cargs,res,tn⟩:=c
 simp only at hn
 subst hn
 by_cases hH:zpx res=true
 ·cases res with
  | hsp=>simp [zev] at he
  | _=>cases hH
 unfold zev at he ⊢
 unfold zqo
 dsimp only at he ⊢
 generalize hf:res.flat=fl at he ⊢
 cases fl<;>cases res<;>(try exact absurd rfl hH)<;>dsimp only at he ⊢ <;> simp only [if_true,if_false,Bool.false_eq_true,List.append_nil,List.nil_append] at he ⊢
 ·simp only [Option.some.injEq,Prod.mk.injEq] at he
  obtain ⟨rfl,rfl⟩:=he
  exact ⟨_,rfl,hkill⟩
 ·split at he
  ·rename_i hc
   simp only [Option.some.injEq,Prod.mk.injEq] at he
   obtain ⟨rfl,rfl⟩:=he
   refine ⟨(killAll st2 ids).alloc d _,by rw [if_pos hc,hkd],fun s hs=>?_,fun s hs=>?_,fun s hs=>?_,zb4 ids st2,zb4 ids st,fun s hs=>?_⟩
   ·rcases List.mem_append.1 hs with h|h
    ·exact zcm hkd (.inr (hkill.1 s h))
    ·simp at h; exact zcm hkd (.inl h)
   ·simp only [List.mem_append,List.mem_singleton,not_or] at hs
    rw [za7,if_neg hs.2]; exact hkill.2.1 s hs.1
   ·simp only [List.mem_append,List.mem_singleton,not_or] at hs
    rw [za7,if_neg hs.2]; exact hkill.2.2.1 s hs.1
   ·simp only [List.mem_append,List.mem_singleton] at hs
    rcases hs with h|h
    ·exact List.mem_cons.2 (.inr h)
    ·exact List.mem_cons.2 (.inl h)
  ·cases he
 ·cases he
 ·simp only [Option.some.injEq,Prod.mk.injEq] at he
  obtain ⟨rfl,rfl⟩:=he
  exact ⟨_,rfl,zak⟩
 ·split at he
  ·rename_i hc
   simp only [Option.some.injEq,Prod.mk.injEq] at he
   obtain ⟨rfl,rfl⟩:=he
   exact ⟨st2.alloc d _,by rw [if_pos hc,hd],zcy hd (by simp)⟩
  ·cases he
 ·cases he
theorem zbq {n:Nat}:∀ {vs:List AV},(∀ i∈vs.flatMap (deps st n),st2.site i.1=st.site i.1)->vs.flatMap (deps st2 n)=vs.flatMap (deps st n)/\vs.mapM (toPV st2 n)=vs.mapM (toPV st n)
 | [],_=>⟨rfl,rfl⟩
 | x::xs,h=>by
  obtain ⟨a1,a2⟩:=zl8 n x (fun i hi=>h i (by simp only [List.flatMap_cons,List.mem_append]; exact .inl hi))
  obtain ⟨b1,b2⟩:=zbq (vs:=xs) (fun i hi=>h i (by simp only [List.flatMap_cons,List.mem_append]; exact .inr hi))
  exact ⟨by rw [List.flatMap_cons,List.flatMap_cons,a2,b1],by rw [List.mapM_cons,List.mapM_cons,a1,b2]⟩
theorem zox {c:PCall} {i sz:Nat} {es':List PV} {vs:List AV} (he:zfp c i sz es' st vs=some (v,st')) (hi:∀ i∈vs.flatMap (deps st FUEL),st2.site i.1=st.site i.1) :
  ∃ st2',zfp c i sz es' st2 vs=some (v,st2')/\Same st st' st2 st2' (d::(vs.flatMap (deps st FUEL)).map (·.1)) ((vs.flatMap (deps st FUEL)).map (·.1)):=by
 obtain ⟨s,g,len,sl,o,href,ho,hlt,hlen,hle,hsz,hni,hv,hst⟩:=zjf he
 have hu:∃ u,vs[i]?=some u/\deps st FUEL u=(s,g)::o.es.flatMap (deps st 5):=by
  rcases zks href with ⟨hu,_⟩|⟨hu,_,_⟩
  ·exact ⟨_,hu,by simp only [FUEL,deps,ho]⟩
  ·exact ⟨_,hu,by simp only [FUEL,deps,ho]⟩
 obtain ⟨u,hu,hdu⟩:=hu
 have hmem:∀ k∈(s,g)::o.es.flatMap (deps st 5),k∈vs.flatMap (deps st FUEL):=fun k hk=>List.mem_flatMap.2 ⟨u,List.mem_of_getElem? hu,by rw [hdu]; exact hk⟩
 have hs:=hi (s,g) (hmem _ (by simp))
 have ho2:st2.obj s g=some o:=by rw [zad hs]; exact ho
 have hsub:∀ k∈(vs.eraseIdx i).flatMap (deps st FUEL),k∈vs.flatMap (deps st FUEL):=fun k hk=>by
  obtain ⟨y,hy,hk⟩:=List.mem_flatMap.1 hk
  exact List.mem_flatMap.2 ⟨y,List.mem_of_mem_eraseIdx hy,hk⟩
 have e1:=(zbq (st2:=st2) (n:=FUEL) (vs:=vs.eraseIdx i) (fun k hk=>hi k (hsub k hk))).1
 have e2:=(zbq (st2:=st2) (n:=5) (vs:=o.es) (fun k hk=>hi k (hmem k (by simp only [List.mem_cons]; exact .inr hk)))).1
 have hallids:∀ k∈(vs.eraseIdx i).flatMap (deps st FUEL)++o.es.flatMap (deps st 5),k∈vs.flatMap (deps st FUEL):=fun k hk=>by
  rcases List.mem_append.1 hk with h|h
  ·exact hsub k h
  ·exact hmem k (by simp only [List.mem_cons]; exact .inr h)
 refine ⟨zuv c es' st2 ((vs.eraseIdx i).flatMap (deps st FUEL)++o.es.flatMap (deps st 5)) s g sz,?_,?_⟩
 ·unfold zfp at he ⊢
  rw [href] at he ⊢
  simp only [ho,ho2,e1,e2] at he ⊢
  generalize hids:(vs.eraseIdx i).flatMap (deps st FUEL)++o.es.flatMap (deps st 5)=ids at he hst ⊢
  by_cases hc:i<vs.length/\len=o.es.length/\es'.length=len/\o.sz=sz/\es'.all (fun v=>v.sz == sz)=true/\(es'.flatMap PV.cells).all PV.one=true/\ids.contains (s,g)=false
  ·rw [if_pos hc] at he ⊢
   rcases hv with ⟨u,hu,rfl⟩|⟨l,hl,h1,h2,rfl⟩
   ·rw [hu]
   ·rw [hl]; simp only [h1,h2,and_self,if_true]
  ·rw [if_neg hc] at he; cases he
 ·generalize hids:(vs.eraseIdx i).flatMap (deps st FUEL)++o.es.flatMap (deps st 5)=ids at *
  have hk1:∀ t,t∉(vs.flatMap (deps st FUEL)).map (·.1)->t∉ids.map (·.1):=fun t ht h=>by
   obtain ⟨k,hk,rfl⟩:=List.mem_map.1 h
   exact ht (List.mem_map.2 ⟨k,hallids k hk,rfl⟩)
  have hts:∀ t,t∉(vs.flatMap (deps st FUEL)).map (·.1)->t≠s:=fun t ht h=>ht (List.mem_map.2 ⟨(s,g),hmem _ (by simp),h.symm⟩)
  have hagree:∀ t∈(vs.flatMap (deps st FUEL)).map (·.1),st2.site t=st.site t:=fun t ht=>by obtain ⟨k,hk,rfl⟩:=List.mem_map.1 ht; exact hi k hk
  have hset:∀ (x:St) (t:Nat) (o:AObj),(x.setObj s g o).site t=if t=s then (x.site s).set g (some o) else x.site t:=fun x t o=>by
   rw [zaw]
  subst hst
  unfold zuv
  refine ⟨fun t ht=>?_,fun t ht=>?_,fun t ht=>?_,?_,?_,fun t ht=>by simp only [List.mem_cons]; exact .inr ht⟩
  ·rw [hset,hset]
   have ha:=hagree t ht
   by_cases hf:(c.res.flat&&es'.all PV.flat)=true
   ·simp only [hf,if_true]; rw [ha,hs]
   ·simp only [hf,if_false,Bool.false_eq_true]
    rw [zaz ids hs,zaz ids ha]
  ·rw [hset,if_neg (hts t ht)]
   by_cases hf:(c.res.flat&&es'.all PV.flat)=true
   ·simp only [hf,if_true]
   ·simp only [hf,if_false,Bool.false_eq_true]
    exact zay ids (hk1 t ht)
  ·rw [hset,if_neg (hts t ht)]
   by_cases hf:(c.res.flat&&es'.all PV.flat)=true
   ·simp only [hf,if_true]
   ·simp only [hf,if_false,Bool.false_eq_true]
    exact zay ids (hk1 t ht)
  ·by_cases hf:(c.res.flat&&es'.all PV.flat)=true
   ·simp only [hf,if_true]; rfl
   ·simp only [hf,if_false,Bool.false_eq_true]; exact zb4 ids st2
  ·by_cases hf:(c.res.flat&&es'.all PV.flat)=true
   ·simp only [hf,if_true]; rfl
   ·simp only [hf,if_false,Bool.false_eq_true]; exact zb4 ids st
theorem zeu {f:FuncId} {vs:List AV} (he:zcd orc st d f vs=some (v,st')) (hi:∀ s∈ze7 orc st vs,st2.site s=st.site s) (hd:st2.site d=st.site d) :
  ∃ st2',zcd orc st2 d f vs=some (v,st2')/\Same st st' st2 st2' (d::ze7 orc st vs) (zqo orc d (ze7 orc st vs)):=by
 obtain ⟨c,rfl,rfl,h3,h4⟩:=zct he
 cases hH:zpx c.res with
 | true =>
  obtain ⟨cf,cargs,cres,ctn⟩:=c
  cases cres with
  | hsp vs0 hp res hp' =>
   simp only [ze7,zqo] at hi ⊢
   simp only [zh4,zea] at h3 h4
   obtain ⟨rfl,hu,hk,hks,hchk⟩:=h3
   have hk2:zbb st2 hp hp:=by
    have:∀ (r:List Site),(∀ q∈r,q.1∈hp.map (·.1))->zbb st hp r->zbb st2 hp r:=by
     intro r
     induction r with
     | nil=>intro _ _; trivial
     | cons q r ih =>
      intro h1 h2
      exact ⟨(hi q.1 (h1 q (by simp))).trans h2.1,ih (fun x hx=>h1 x (by simp [hx])) h2.2⟩
    exact this hp (fun q hq=>List.mem_map.2 ⟨q,hq,rfl⟩) hk
   have hpos:zcd (some ⟨cf,cargs,.hsp vs hp res hp',ctn⟩) st2 d cf vs=some (zdj res ⟨st2.sl,hp'++st2.hp⟩ d):=if_pos ⟨rfl,rfl,hu,hk2,hks,hchk⟩
   rw [hpos]
   have hsite:∀ (t:St) (s:Nat),(⟨t.sl,hp'++t.hp⟩:St).site s=if (hp.map (·.1)).contains s=true then look hp' s [] else t.site s:=fun t s=>by
    simp only [St.site,zn3,hks]
   have hs1:∀ s,s∈hp.map (·.1)\/s=d->(⟨st2.sl,hp'++st2.hp⟩:St).site s=(⟨st.sl,hp'++st.hp⟩:St).site s:=fun s hs=>by
    rw [hsite,hsite]
    by_cases hc:(hp.map (·.1)).contains s=true
    ·rw [if_pos hc,if_pos hc]
    ·rw [if_neg hc,if_neg hc]
     rcases hs with hs|rfl
     ·exact hi s hs
     ·exact hd
   have hs2:∀ (t:St) (s:Nat),s∉hp.map (·.1)->(⟨t.sl,hp'++t.hp⟩:St).site s=t.site s:=fun t s hs=>by
    rw [hsite,if_neg]
    intro hc; exact hs (List.contains_iff_mem.1 hc)
   have gen:∀ (o:AObj),Same st ((⟨st.sl,hp'++st.hp⟩:St).alloc d o) st2 ((⟨st2.sl,hp'++st2.hp⟩:St).alloc d o) (d::hp.map (·.1)) (d::hp.map (·.1)):=fun o=>by
    refine ⟨fun s hs=>?_,fun s hs=>?_,fun s hs=>?_,rfl,rfl,fun s hs=>hs⟩
    ·rw [za7,za7,hs1 s (by rcases List.mem_cons.1 hs with h|h; exact .inr h; exact .inl h),hs1 d (.inr rfl)]
    ·simp only [List.mem_cons,not_or] at hs; rw [za7,if_neg hs.1]; exact hs2 _ s hs.2
    ·simp only [List.mem_cons,not_or] at hs; rw [za7,if_neg hs.1]; exact hs2 _ s hs.2
   have hlen:((⟨st2.sl,hp'++st2.hp⟩:St).site d).length=((⟨st.sl,hp'++st.hp⟩:St).site d).length:=by rw [hs1 d (.inr rfl)]
   simp only [Option.some.injEq] at h4 ⊢
   cases res with
   | av u =>
    simp only [zdj,Prod.mk.injEq] at h4 ⊢
    obtain ⟨rfl,rfl⟩:=h4
    refine ⟨_,⟨rfl,rfl⟩,fun s hs=>?_,fun s hs=>?_,fun s hs=>?_,rfl,rfl,fun s hs=>hs⟩
    ·exact hs1 s (by rcases List.mem_cons.1 hs with h|h; exact .inr h; exact .inl h)
    ·simp only [List.mem_cons,not_or] at hs; exact hs2 _ s hs.2
    ·simp only [List.mem_cons,not_or] at hs; exact hs2 _ s hs.2
   | fr sz es =>
    simp only [zdj,Prod.mk.injEq] at h4 ⊢
    obtain ⟨rfl,rfl⟩:=h4
    exact ⟨_,⟨by rw [hlen],rfl⟩,gen _⟩
   | bx sz e us =>
    simp only [zdj,Prod.mk.injEq] at h4 ⊢
    obtain ⟨rfl,rfl⟩:=h4
    exact ⟨_,⟨by rw [hlen],rfl⟩,gen _⟩
  | _=>cases hH
 | false =>
 have hrv:∀ t,ze7 (some c) t vs=(vs.flatMap (deps t FUEL)).map (·.1):=fun t=>by
  simp only [ze7]; cases hr:c.res<;>first|rfl|(rw [hr] at hH; cases hH)
 rw [hrv] at hi ⊢
 have hi:∀ i∈vs.flatMap (deps st FUEL),st2.site i.1=st.site i.1:=fun i h=>hi i.1 (List.mem_map.2 ⟨i,h,rfl⟩)
 rw [zxq hH] at h3
 rw [zxr hH] at h4
 obtain ⟨hv2,hv1⟩:=zbq hi
 unfold zcd
 simp only [zxq hH,zxr hH,hv1,hv2,h3,and_self,if_true]
 cases htn:c.tn with
 | none =>
  rw [htn] at h4
  exact zou htn h4 hi hd
 | some t =>
  obtain ⟨i,sz,es'⟩:=t
  rw [htn] at h4
  obtain ⟨st2',e1,e2⟩:=zox (d:=d) h4 hi
  refine ⟨st2',e1,?_⟩
  have hcw:zqo (some c) d ((vs.flatMap (deps st FUEL)).map (·.1))=d::(vs.flatMap (deps st FUEL)).map (·.1):=by
   simp only [zqo,htn]; cases hr:c.res<;>rfl
  rw [hcw]
  obtain ⟨a1,a2,a3,a4,a5,a6⟩:=e2
  refine ⟨fun s hs=>?_,fun s hs=>a2 s (fun h=>hs (List.mem_cons.2 (.inr h))),fun s hs=>a3 s (fun h=>hs (List.mem_cons.2 (.inr h))),a4,a5,fun s hs=>hs⟩
  by_cases hm:s∈(vs.flatMap (deps st FUEL)).map (·.1)
  ·exact a1 s hm
  ·rcases List.mem_cons.1 hs with rfl|hs
   ·rw [a2 s hm,a3 s hm,hd]
   ·exact absurd hs hm
theorem zli {op:IOp} (he:eff orc st d op=some (v,st')) (hs:∀ x∈op.opds,st2.ev x=st.ev x) (hr:∀ s∈effR orc st d op,st2.site s=st.site s) :
  ∃ st2',eff orc st2 d op=some (v,st2')/\Same st st' st2 st2' (effR orc st d op) (effW orc st d op):=by
 cases op with
 | mv x =>
  simp only [eff,Option.some.injEq,Prod.mk.injEq] at he
  obtain ⟨rfl,rfl⟩:=he
  exact ⟨st2,by simp only [eff,hs x (by simp [IOp.opds])],zak⟩
 | pick c x y =>
  simp only [eff] at he ⊢
  rw [hs c (by simp [IOp.opds]),hs x (by simp [IOp.opds]),hs y (by simp [IOp.opds])]
  split at he<;>first|(cases he; done)|(simp only [Option.some.injEq,Prod.mk.injEq] at he; obtain ⟨rfl,rfl⟩:=he; exact ⟨st2,by simp only [*,if_true,if_false,and_self,true_and],zak⟩)
 | alloc sz z =>
  have hd:st2.site d=st.site d:=hr d (by simp [effR])
  simp only [eff] at he ⊢
  split at he
  ·rename_i hc; cases he; rw [hd,if_pos hc]; exact ⟨_,rfl,zcy hd (by simp [effR])⟩
  ·cases he
 | box sz x =>
  have hd:st2.site d=st.site d:=hr d (by simp [effR])
  simp only [eff] at he ⊢
  rw [hs x (by simp [IOp.opds])]
  split at he
  ·rename_i hc; cases he; rw [hd,if_pos hc]; exact ⟨_,rfl,zcy hd (by simp [effR])⟩
  ·cases he
 | build z ps =>
  have hp:ps.map (fun (o,s,x)=>(o,s,st2.ev x))=ps.map (fun (o,s,x)=>(o,s,st.ev x)):=List.map_congr_left fun q hq=>by
   obtain ⟨o,s,x⟩:=q
   simp only [hs x (List.mem_map.2 ⟨(o,s,x),hq,rfl⟩)]
  simp only [eff] at he ⊢
  rw [hp]
  split at he<;>first|(cases he; done)|(simp only [Option.some.injEq,Prod.mk.injEq] at he; obtain ⟨rfl,rfl⟩:=he; exact ⟨st2,by simp only [*,if_true,if_false,and_self,true_and],zak⟩)
 | bslice sz z n ps =>
  have hd:st2.site d=st.site d:=hr d (by simp [effR])
  have hp:ps.map (fun (i,x)=>(i,(st2.ev x).pur))=ps.map (fun (i,x)=>(i,(st.ev x).pur)):=List.map_congr_left fun q hq=>by
   obtain ⟨i,x⟩:=q
   simp only [hs x (List.mem_map.2 ⟨(i,x),hq,rfl⟩)]
  simp only [eff] at he ⊢
  rw [hp,hd]
  split at he
  ·rename_i hc
   split at he
   ·rename_i es hes; cases he; exact ⟨_,by rw [if_pos hc,hes],zcy hd (by simp [effR])⟩
   ·cases he
  ·cases he
 | load sz ag x =>
  have hx:=hs x (by simp [IOp.opds])
  simp only [effR] at hr ⊢
  simp only [eff,effW] at he ⊢
  rw [hx]
  split at he
  ·rename_i s g ix off hev
   rw [hev] at hr
   rw [zad (g:=g) (hr s (by simp [za2]))]
   (repeat' split at he)<;>first|(cases he; done)|(simp only [Option.some.injEq,Prod.mk.injEq] at he; obtain ⟨rfl,rfl⟩:=he; exact ⟨st2,by simp only [*,if_true,if_false,and_self,true_and],zak⟩)
  ·(repeat' split at he)<;>first|(cases he; done)|(simp only [Option.some.injEq,Prod.mk.injEq] at he; obtain ⟨rfl,rfl⟩:=he; exact ⟨st2,by simp only [*,if_true,if_false,and_self,true_and],zak⟩)
  ·cases he
 | store sz p x =>
  have hp:=hs p (by simp [IOp.opds])
  have hx:=hs x (by simp [IOp.opds])
  simp only [effR] at hr ⊢
  simp only [eff,effW] at he ⊢
  rw [hx,hp]
  split at he
  ·rename_i s g ix off hev
   rw [hev] at hr
   have hsite:=hr s (by simp [za2])
   rw [hev]
   rw [zad (g:=g) hsite]
   have hset:∀ o,Same st (st.setObj s g o) st2 (st2.setObj s g o) (za2 (.ptr s g ix off)) (za2 (.ptr s g ix off)):=by
    intro o
    refine ⟨fun t ht=>?_,fun t ht=>?_,fun t ht=>?_,rfl,rfl,fun _ h=>h⟩
    ·simp [za2] at ht; subst ht; rw [zaw,zaw,hsite]
    ·simp [za2] at ht; rw [zaw,if_neg ht]
    ·simp [za2] at ht; rw [zaw,if_neg ht]
   split at he
   ·rename_i o ho
    split at he
    ·rename_i e hix
     split at he
     ·rename_i h1
      split at he
      ·rename_i h2
       simp only [Option.some.injEq,Prod.mk.injEq] at he; obtain ⟨rfl,rfl⟩:=he
       exact ⟨_,by simp only [ho,hix,if_pos h1,if_pos h2],hset _⟩
      ·rename_i h2
       split at he
       ·rename_i e' he'
        simp only [Option.some.injEq,Prod.mk.injEq] at he; obtain ⟨rfl,rfl⟩:=he
        exact ⟨_,by simp only [ho,hix,if_pos h1,if_neg h2,he'],hset _⟩
       ·cases he
     ·cases he
    ·cases he
   ·cases he
  ·cases he
 | nilck x =>
  have hx:=hs x (by simp [IOp.opds])
  simp only [effR] at hr ⊢
  simp only [eff,effW] at he ⊢
  rw [hx]
  split at he
  ·rename_i s g ix off hev
   rw [hev] at hr
   rw [zad (g:=g) (hr s (by simp [za2]))]
   (repeat' split at he)<;>first|(cases he; done)|(simp only [Option.some.injEq,Prod.mk.injEq] at he; obtain ⟨rfl,rfl⟩:=he; exact ⟨st2,by simp only [*,if_true,if_false,and_self,true_and],zak⟩)
  all_goals first|(cases he; done)|(simp only [Option.some.injEq,Prod.mk.injEq] at he; obtain ⟨rfl,rfl⟩:=he; exact ⟨st2,by simp only [*,if_true,if_false,and_self,true_and],zak⟩)
 | ibin op x y =>
  simp only [eff] at he ⊢
  rw [hs x (by simp [IOp.opds]),hs y (by simp [IOp.opds])]
  split at he<;>first|(cases he; done)|(simp only [Option.some.injEq,Prod.mk.injEq] at he; obtain ⟨rfl,rfl⟩:=he; exact ⟨st2,by simp only [*,if_true,if_false,and_self,true_and],zak⟩)
 | bbin op x y =>
  simp only [eff] at he ⊢
  rw [hs x (by simp [IOp.opds]),hs y (by simp [IOp.opds])]
  split at he<;>first|(cases he; done)|(simp only [Option.some.injEq,Prod.mk.injEq] at he; obtain ⟨rfl,rfl⟩:=he; exact ⟨st2,by simp only [*,if_true,if_false,and_self,true_and],zak⟩)
 | abin ks op x y =>
  simp only [eff] at he ⊢
  rw [hs x (by simp [IOp.opds]),hs y (by simp [IOp.opds])]
  split at he<;>first|(cases he; done)|(simp only [Option.some.injEq,Prod.mk.injEq] at he; obtain ⟨rfl,rfl⟩:=he; exact ⟨st2,by simp only [*,if_true,if_false,and_self,true_and],zak⟩)
 | not x =>
  simp only [eff] at he ⊢
  rw [hs x (by simp [IOp.opds])]
  split at he<;>first|(cases he; done)|(simp only [Option.some.injEq,Prod.mk.injEq] at he; obtain ⟨rfl,rfl⟩:=he; exact ⟨st2,by simp only [*,if_true,if_false,and_self,true_and],zak⟩)
 | neg x =>
  simp only [eff] at he ⊢
  rw [hs x (by simp [IOp.opds])]
  split at he<;>first|(cases he; done)|(simp only [Option.some.injEq,Prod.mk.injEq] at he; obtain ⟨rfl,rfl⟩:=he; exact ⟨st2,by simp only [*,if_true,if_false,and_self,true_and],zak⟩)
 | ixor x =>
  simp only [eff] at he ⊢
  rw [hs x (by simp [IOp.opds])]
  (repeat' split at he)<;>first|(cases he; done)|(simp only [Option.some.injEq,Prod.mk.injEq] at he; obtain ⟨rfl,rfl⟩:=he; exact ⟨st2,by simp only [*,if_true,if_false,and_self,true_and],zak⟩)
 | conv k x =>
  simp only [eff] at he ⊢
  rw [hs x (by simp [IOp.opds])]
  split at he<;>first|(cases he; done)|(simp only [Option.some.injEq,Prod.mk.injEq] at he; obtain ⟨rfl,rfl⟩:=he; exact ⟨st2,by simp only [*,if_true,if_false,and_self,true_and],zak⟩)
 | mkfn f caps =>
  have hp:caps.map st2.ev=caps.map st.ev:=List.map_congr_left fun q hq=>hs q hq
  simp only [eff] at he ⊢
  rw [hp]
  split at he<;>first|(cases he; done)|(simp only [Option.some.injEq,Prod.mk.injEq] at he; obtain ⟨rfl,rfl⟩:=he; exact ⟨st2,by simp only [*,if_true,if_false,and_self,true_and],zak⟩)
 | mkslice sz z l c =>
  have hd:st2.site d=st.site d:=hr d (by simp [effR])
  simp only [eff] at he ⊢
  rw [hs l (by simp [IOp.opds]),hs c (by simp [IOp.opds]),hd]
  split at he
  ·rename_i n m hn hm
   split at he
   ·rename_i hc; cases he; exact ⟨_,by simp only [hn,hm,if_pos hc],zcy hd (by simp [effR])⟩
   ·cases he
  ·cases he
 | slice sz x lo hi =>
  have hx:=hs x (by simp [IOp.opds])
  have hlo:∀ n,zda st2 lo n=zda st lo n:=by
   intro n
   cases lo with
   | none=>rfl
   | some l=>simp only [zda]; rw [hs l (by simp [IOp.opds,zal])]
  have hhi:∀ n,zda st2 hi n=zda st hi n:=by
   intro n
   cases hi with
   | none=>rfl
   | some l=>simp only [zda]; rw [hs l (by simp [IOp.opds,zal])]
  simp only [effR] at hr ⊢
  simp only [eff,effW] at he ⊢
  rw [hx,hlo]
  split at he
  ·simp only [hhi]
   (repeat' split at he)<;>first|(cases he; done)|(simp only [Option.some.injEq,Prod.mk.injEq] at he; obtain ⟨rfl,rfl⟩:=he; exact ⟨st2,by simp only [*,if_true,if_false,and_self,true_and],zak⟩)
  ·rename_i l s g off len hl hev
   rw [hev] at hr
   simp only [hhi]
   rw [zad (g:=g) (hr s (by simp [za2]))]
   (repeat' split at he)<;>first|(cases he; done)|(simp only [Option.some.injEq,Prod.mk.injEq] at he; obtain ⟨rfl,rfl⟩:=he; exact ⟨st2,by simp only [*,if_true,if_false,and_self,true_and],zak⟩)
  ·simp only [hhi]
   (repeat' split at he)<;>first|(cases he; done)|(simp only [Option.some.injEq,Prod.mk.injEq] at he; obtain ⟨rfl,rfl⟩:=he; exact ⟨st2,by simp only [*,if_true,if_false,and_self,true_and],zak⟩)
  ·cases he
 | faddr off x =>
  have hx:=hs x (by simp [IOp.opds])
  simp only [effR] at hr ⊢
  simp only [eff,effW] at he ⊢
  rw [hx]
  split at he
  ·rename_i s g ix off hev
   rw [hev] at hr
   rw [zad (g:=g) (hr s (by simp [za2]))]
   (repeat' split at he)<;>first|(cases he; done)|(simp only [Option.some.injEq,Prod.mk.injEq] at he; obtain ⟨rfl,rfl⟩:=he; exact ⟨st2,by simp only [*,if_true,if_false,and_self,true_and],zak⟩)
  all_goals first|(cases he; done)|(simp only [Option.some.injEq,Prod.mk.injEq] at he; obtain ⟨rfl,rfl⟩:=he; exact ⟨st2,by simp only [*,if_true,if_false,and_self,true_and],zak⟩)
 | field off sz ag x =>
  simp only [eff] at he ⊢
  rw [hs x (by simp [IOp.opds])]
  (repeat' split at he)<;>first|(cases he; done)|(simp only [Option.some.injEq,Prod.mk.injEq] at he; obtain ⟨rfl,rfl⟩:=he; exact ⟨st2,by simp only [*,if_true,if_false,and_self,true_and],zak⟩)
 | iaddr sz x i =>
  have hx:=hs x (by simp [IOp.opds])
  simp only [effR] at hr ⊢
  simp only [eff,effW] at he ⊢
  rw [hx,hs i (by simp [IOp.opds])]
  split at he
  ·(repeat' split at he)<;>first|(cases he; done)|(simp only [Option.some.injEq,Prod.mk.injEq] at he; obtain ⟨rfl,rfl⟩:=he; exact ⟨st2,by simp only [*,if_true,if_false,and_self,true_and],zak⟩)
  ·rename_i m s g off len hm hev
   rw [hev] at hr
   rw [zad (g:=g) (hr s (by simp [za2]))]
   (repeat' split at he)<;>first|(cases he; done)|(simp only [Option.some.injEq,Prod.mk.injEq] at he; obtain ⟨rfl,rfl⟩:=he; exact ⟨st2,by simp only [*,if_true,if_false,and_self,true_and],zak⟩)
  ·cases he
 | iaddrA m sz x i =>
  have hx:=hs x (by simp [IOp.opds])
  simp only [effR] at hr ⊢
  simp only [eff,effW] at he ⊢
  rw [hx,hs i (by simp [IOp.opds])]
  split at he
  ·rename_i n s g ix o hm hev
   rw [hev] at hr
   rw [zad (g:=g) (hr s (by simp [za2]))]
   (repeat' split at he)<;>first|(cases he; done)|(simp only [Option.some.injEq,Prod.mk.injEq] at he; obtain ⟨rfl,rfl⟩:=he; exact ⟨st2,by simp only [*,if_true,if_false,and_self,true_and],zak⟩)
  ·(repeat' split at he)<;>first|(cases he; done)|(simp only [Option.some.injEq,Prod.mk.injEq] at he; obtain ⟨rfl,rfl⟩:=he; exact ⟨st2,by simp only [*,if_true,if_false,and_self,true_and],zak⟩)
  ·cases he
 | idx m sz ag x i =>
  simp only [eff] at he ⊢
  rw [hs x (by simp [IOp.opds]),hs i (by simp [IOp.opds])]
  (repeat' split at he)<;>first|(cases he; done)|(simp only [Option.some.injEq,Prod.mk.injEq] at he; obtain ⟨rfl,rfl⟩:=he; exact ⟨st2,by simp only [*,if_true,if_false,and_self,true_and],zak⟩)
 | extract x i =>
  simp only [eff] at he ⊢
  rw [hs x (by simp [IOp.opds])]
  (repeat' split at he)<;>first|(cases he; done)|(simp only [Option.some.injEq,Prod.mk.injEq] at he; obtain ⟨rfl,rfl⟩:=he; exact ⟨st2,by simp only [*,if_true,if_false,and_self,true_and],zak⟩)
 | len x =>
  simp only [eff] at he ⊢
  rw [hs x (by simp [IOp.opds])]
  split at he<;>first|(cases he; done)|(simp only [Option.some.injEq,Prod.mk.injEq] at he; obtain ⟨rfl,rfl⟩:=he; exact ⟨st2,by simp only [*,if_true,if_false,and_self,true_and],zak⟩)
 | append sz x y =>
  have hx:=hs x (by simp [IOp.opds])
  have hy:=hs y (by simp [IOp.opds])
  have hd:st2.site d=st.site d:=hr d (by simp [effR])
  have hel:st2.elems (st.ev y)=st.elems (st.ev y):=by
   unfold St.elems
   split
   ·rfl
   ·rfl
   ·rfl
   ·rfl
   ·rename_i s g off len hev
    rw [zad (g:=g) (hr s (by simp [effR,hev,za2]))]
   ·rfl
  simp only [eff] at he ⊢
  simp only [effR,effW] at hr ⊢
  rw [hx,hy,hel]
  split at he
  ·rename_i xs hxs
   split at he
   ·rename_i hc1
    split at he
    ·rename_i hev
     split at he
     ·rename_i hc2
      cases he
      exact ⟨st2.alloc d ⟨sz,xs.map AV.pur⟩,by simp only [hxs,hev,if_pos hc1,if_pos hc2,hd],by rw [hev]; exact zcy hd (by simp)⟩
     ·cases he
    ·rename_i s g off len hev
     have hsite:=hr s (by simp [hev,za2])
     split at he
     ·rename_i o ho
      split at he
      ·rename_i hc2
       cases he
       have hkd:(killAll st2 [(s,g)]).site d=(killAll st [(s,g)]).site d:=zaz _ hd
       have hks:(killAll st2 [(s,g)]).site s=(killAll st [(s,g)]).site s:=zaz _ hsite
       refine ⟨(killAll st2 [(s,g)]).alloc d ⟨sz,o.es++xs.map AV.pur⟩,by simp only [hxs,hev,if_pos hc1,zad (g:=g) hsite,ho,if_pos hc2,hkd],fun t ht=>?_,fun t ht=>?_,fun t ht=>?_,rfl,rfl,fun t ht=>?_⟩
       ·simp only [hev,za2,List.mem_cons,List.mem_nil_iff,or_false] at ht
        rcases ht with rfl|rfl
        ·exact zcm hkd (.inl rfl)
        ·exact zcm hkd (.inr hks)
       ·simp only [hev,za2,List.mem_cons,List.mem_nil_iff,or_false,not_or] at ht
        rw [za7,if_neg ht.1]; exact zay _ (by simpa using ht.2)
       ·simp only [hev,za2,List.mem_cons,List.mem_nil_iff,or_false,not_or] at ht
        rw [za7,if_neg ht.1]; exact zay _ (by simpa using ht.2)
       ·simp only [List.mem_cons,List.mem_append] at ht ⊢
        rcases ht with h|h
        ·exact .inl h
        ·exact .inr (.inl h)
      ·cases he
     ·cases he
    ·cases he
   ·cases he
  ·cases he
 | min xs =>
  have hp:xs.map st2.ev=xs.map st.ev:=List.map_congr_left fun q hq=>hs q hq
  simp only [eff] at he ⊢
  rw [hp]
  split at he<;>first|(cases he; done)|(simp only [Option.some.injEq,Prod.mk.injEq] at he; obtain ⟨rfl,rfl⟩:=he; exact ⟨st2,by simp only [*,if_true,if_false,and_self,true_and],zak⟩)
 | max xs =>
  have hp:xs.map st2.ev=xs.map st.ev:=List.map_congr_left fun q hq=>hs q hq
  simp only [eff] at he ⊢
  rw [hp]
  split at he<;>first|(cases he; done)|(simp only [Option.some.injEq,Prod.mk.injEq] at he; obtain ⟨rfl,rfl⟩:=he; exact ⟨st2,by simp only [*,if_true,if_false,and_self,true_and],zak⟩)
 | call f args =>
  have hp:args.map st2.ev=args.map st.ev:=List.map_congr_left fun q hq=>hs q hq
  simp only [eff,effR,effW,zce] at he hr ⊢
  rw [hp]
  exact zeu he (fun s hs=>hr s (List.mem_cons.2 (.inr hs))) (hr d (by simp))
 | callv f args =>
  have hf:=hs f (by simp [IOp.opds])
  have hp:args.map st2.ev=args.map st.ev:=List.map_congr_left fun q hq=>hs q (by simp [IOp.opds,hq])
  simp only [eff,effR,effW,zce] at he hr ⊢
  rw [hp,hf]
  split at he
  ·rename_i g caps hev
   simp only [hev] at hr ⊢
   exact zeu he (fun s hs=>hr s (List.mem_cons.2 (.inr hs))) (hr d (by simp))
  ·rename_i g caps hev
   simp only [hev] at hr ⊢
   exact zeu he (fun s hs=>hr s (List.mem_cons.2 (.inr hs))) (hr d (by simp))
  ·cases he
 | isnil neg x =>
  have hx:=hs x (by simp [IOp.opds])
  simp only [effR] at hr ⊢
  simp only [eff,effW] at he ⊢
  rw [hx]
  split at he
  case h_5 =>
   rename_i s g off len hev
   rw [hev] at hr
   rw [zad (g:=g) (hr s (by simp [za2]))]
   (repeat' split at he)<;>first|(cases he; done)|(simp only [Option.some.injEq,Prod.mk.injEq] at he; obtain ⟨rfl,rfl⟩:=he; exact ⟨st2,by simp only [*,if_true,if_false,and_self,true_and],zak⟩)
  all_goals first|(cases he; done)|(simp only [Option.some.injEq,Prod.mk.injEq] at he; obtain ⟨rfl,rfl⟩:=he; exact ⟨st2,by simp only [*,if_true,if_false,and_self,true_and],zak⟩)
 | cap x =>
  simp only [eff] at he ⊢
  rw [hs x (by simp [IOp.opds])]
  split at he<;>first|(cases he; done)|(simp only [Option.some.injEq,Prod.mk.injEq] at he; obtain ⟨rfl,rfl⟩:=he; exact ⟨st2,by simp only [*,if_true,if_false,and_self,true_and],zak⟩)
 | clear sz zero x =>
  have hx:=hs x (by simp [IOp.opds])
  simp only [effR] at hr ⊢
  simp only [eff,effW] at he ⊢
  rw [hx]
  split at he
  ·rename_i hev
   simp only [Option.some.injEq,Prod.mk.injEq] at he; obtain ⟨rfl,rfl⟩:=he; exact ⟨st2,rfl,by rw [hev]; exact zak⟩
  ·rename_i s g off len hev
   rw [hev] at hr
   have hsite:=hr s (by simp [za2])
   rw [hev]
   rw [zad (g:=g) hsite]
   split at he
   ·rename_i o ho
    split at he
    ·rename_i h1
     simp only [Option.some.injEq,Prod.mk.injEq] at he; obtain ⟨rfl,rfl⟩:=he
     refine ⟨st2.setObj s g ⟨o.sz,o.es.take off++List.replicate len zero.pur++o.es.drop (off+len)⟩,by simp only [ho,if_pos h1],fun t ht=>?_,fun t ht=>?_,fun t ht=>?_,rfl,rfl,fun _ h=>h⟩
     ·simp [za2] at ht; subst ht; rw [zaw,zaw,hsite]
     ·simp [za2] at ht; rw [zaw,if_neg ht]
     ·simp [za2] at ht; rw [zaw,if_neg ht]
    ·cases he
   ·cases he
  ·cases he
 | copy sz x y =>
  have hx:=hs x (by simp [IOp.opds])
  have hy:=hs y (by simp [IOp.opds])
  have hel:st2.elems (st.ev y)=st.elems (st.ev y):=by
   unfold St.elems
   split
   ·rfl
   ·rfl
   ·rfl
   ·rfl
   ·rename_i s g off len hev
    rw [zad (g:=g) (hr s (by simp [effR,hev,za2]))]
   ·rfl
  simp only [eff] at he ⊢
  simp only [effR,effW] at hr ⊢
  rw [hx,hy,hel]
  split at he
  ·rename_i xs hxs
   split at he
   ·rename_i hc1
    split at he
    ·rename_i hev
     simp only [Option.some.injEq,Prod.mk.injEq] at he; obtain ⟨rfl,rfl⟩:=he; exact ⟨st2,by simp only [hxs,hev,if_pos hc1],by rw [hev]; exact zak⟩
    ·rename_i s g off len hev
     have hsite:=hr s (by simp [hev,za2])
     split at he
     ·rename_i o ho
      split at he
      ·rename_i hc2
       simp only [Option.some.injEq,Prod.mk.injEq] at he; obtain ⟨rfl,rfl⟩:=he
       refine ⟨st2.setObj s g ⟨o.sz,o.es.take off++(xs.map AV.pur).take (min xs.length len)++o.es.drop (off+min xs.length len)⟩,by simp only [hxs,hev,if_pos hc1,zad (g:=g) hsite,ho,if_pos hc2],fun t ht=>?_,fun t ht=>?_,fun t ht=>?_,rfl,rfl,fun _ h=>List.mem_append_left _ h⟩
       ·simp [hev,za2] at ht; subst ht; rw [zaw,zaw,hsite]
       ·simp [hev,za2] at ht; rw [zaw,if_neg ht]
       ·simp [hev,za2] at ht; rw [zaw,if_neg ht]
      ·cases he
     ·cases he
    ·cases he
   ·cases he
  ·cases he
 | appendz sz z a x =>
  have hd:st2.site d=st.site d:=hr d (by simp [effR])
  simp only [eff] at he ⊢
  rw [hs a (by simp [IOp.opds]),hs x (by simp [IOp.opds]),hd]
  split at he
  ·rename_i n h1 h2
   split at he
   ·rename_i hc; cases he; exact ⟨_,by simp only [h1,h2,if_pos hc],zcy hd (by simp [effR])⟩
   ·cases he
  ·cases he
 | sidx x i =>
  simp only [eff] at he ⊢
  rw [hs x (by simp [IOp.opds]),hs i (by simp [IOp.opds])]
  (repeat' split at he)<;>first|(cases he; done)|(simp only [Option.some.injEq,Prod.mk.injEq] at he; obtain ⟨rfl,rfl⟩:=he; exact ⟨st2,by simp only [*,if_true,if_false,and_self,true_and],zak⟩)
 | mlook qs z x k =>
  simp only [eff] at he ⊢
  rw [hs x (by simp [IOp.opds]),hs k (by simp [IOp.opds])]
  (repeat' split at he)<;>first|(cases he; done)|(simp only [Option.some.injEq,Prod.mk.injEq] at he; obtain ⟨rfl,rfl⟩:=he; exact ⟨st2,by simp only [*,if_true,if_false,and_self,true_and],zak⟩)
 | mlookc qs z x k =>
  simp only [eff] at he ⊢
  rw [hs x (by simp [IOp.opds]),hs k (by simp [IOp.opds])]
  (repeat' split at he)<;>first|(cases he; done)|(simp only [Option.some.injEq,Prod.mk.injEq] at he; obtain ⟨rfl,rfl⟩:=he; exact ⟨st2,by simp only [*,if_true,if_false,and_self,true_and],zak⟩)
 | raw op=>simp only [eff] at he; cases he
 | bad=>simp only [eff] at he; cases he
end
end Go.Ab
namespace Go.Ab
noncomputable def zdr (orc:Option PCall) (st:St) (i:Ins):Option St :=
 match eff orc st (i.dst.getD 0) i.op with
 | some (v,s)=>some (s.put i.dst v)
 | none=>none
noncomputable def exec (orc:Option PCall) (st:St) (i:Ins):Option St :=
 match i.guard with
 | none=>zdr orc st i
 | some (t,b)=>match st.get t with
  | .p (.bool c)=>if c=b then zdr orc st i else some (st.put i.dst .skip)
  | .skip=>some (st.put i.dst .skip)
  | _=>none
def runs (st:St) (i:Ins):Bool :=
 match i.guard with
 | none=>true
 | some (t,b)=>match st.get t with
  | .p (.bool c)=>c == b
  | _=>false
structure FP where
 ds:List Nat
 rs:List Nat
 rt:List Nat
 wt:List Nat
def fp (orc:Option PCall) (st:St) (i:Ins):FP :=
 {ds:=i.dst.toList,rs:=(i.guard.map (·.1)).toList++i.op.opds.flatMap Opd.slots,
  rt:=if runs st i then effR orc st (i.dst.getD 0) i.op else [],wt:=if runs st i then effW orc st (i.dst.getD 0) i.op else [] }
structure FP.Sub (f g:FP):Prop where
 ds:∀ t∈f.ds,t∈g.ds
 rs:∀ t∈f.rs,t∈g.rs
 rt:∀ t∈f.rt,t∈g.rt
 wt:∀ t∈f.wt,t∈g.wt
theorem FP.Sub.refl (f:FP):FP.Sub f f:=⟨fun _ h=>h,fun _ h=>h,fun _ h=>h,fun _ h=>h⟩
def disj (a b:List Nat):Bool:=a.all fun x => !b.contains x
def zk7 (f g:FP):Bool:=disj f.ds g.rs&&disj f.ds g.ds&&disj g.ds f.rs&&disj f.wt g.rt&&disj g.wt f.rt
structure Eqv (s t:St):Prop where
 get:∀ n,t.get n=s.get n
 site:∀ n,t.site n=s.site n
section
variable {orc:Option PCall} {st st' st2:St} {d:Nat} {v:AV}
theorem Eqv.refl (s:St):Eqv s s:=⟨fun _=>rfl,fun _=>rfl⟩
theorem Eqv.symm {s t:St} (h:Eqv s t):Eqv t s:=⟨fun n=>(h.get n).symm,fun n=>(h.site n).symm⟩
theorem Eqv.trans {s t u:St} (h:Eqv s t) (k:Eqv t u):Eqv s u:=⟨fun n=>(k.get n).trans (h.get n),fun n=>(k.site n).trans (h.site n)⟩
theorem zdm (st:St) (d:Option Nat) (v:AV) (t:Nat):(st.put d v).get t=if d=some t then v else st.get t:=by
 cases d with
 | none=>simp [St.put]
 | some d =>
  simp only [St.put,St.get,look,Option.some.injEq]
theorem za5 (st:St) (d:Option Nat) (v:AV) (s:Nat):(st.put d v).site s=st.site s:=by cases d<;>rfl
theorem zja {s t:St} (h:s.sl=t.sl) (n:Nat):s.get n=t.get n:=by simp [St.get,h]
theorem zqp {op:IOp} (hs:∀ x∈op.opds,st2.ev x=st.ev x) (hr:∀ s∈ze7 orc st (zce st op),st2.site s=st.site s):ze7 orc st2 (zce st2 op)=ze7 orc st (zce st op):=by
 have ha:zce st2 op=zce st op:=by
  cases op<;>simp only [zce]
  case call f args=>exact List.map_congr_left fun q hq=>hs q hq
  case callv f args =>
   have hp:args.map st2.ev=args.map st.ev:=List.map_congr_left fun q hq=>hs q (by simp [IOp.opds,hq])
   rw [hp,hs f (by simp [IOp.opds])]
 rw [ha]
 generalize zce st op=l at hr
 unfold ze7 at hr ⊢
 cases orc with
 | none=>rw [(zbq (st2:=st2) (n:=FUEL) (vs:=l) fun i hi=>hr i.1 (List.mem_map.2 ⟨i,hi,rfl⟩)).1]
 | some c =>
  simp only at hr ⊢
  cases hc:c.res<;>rw [hc] at hr<;>simp only at hr ⊢ <;> first|rfl|rw [(zbq (st2:=st2) (n:=FUEL) (vs:=l) fun i hi=>hr i.1 (List.mem_map.2 ⟨i,hi,rfl⟩)).1]
theorem zm4 {op:IOp} (hs:∀ x∈op.opds,st2.ev x=st.ev x) (hr:∀ s∈effR orc st d op,st2.site s=st.site s):effR orc st2 d op=effR orc st d op/\effW orc st2 d op=effW orc st d op:=by
 cases op<;>simp only [effR,effW] at hr ⊢ <;> first
  | exact ⟨rfl,rfl⟩
  | exact trivial
  | exact ⟨trivial,trivial⟩
  | (rename_i x; rw [hs x (by simp [IOp.opds])]; first|exact ⟨rfl,rfl⟩|exact ⟨rfl,trivial⟩|exact ⟨trivial,trivial⟩)
  | (rename_i x y; rw [hs x (by simp [IOp.opds])]; first|exact ⟨rfl,rfl⟩|exact ⟨rfl,trivial⟩|exact ⟨trivial,trivial⟩)
  | (rename_i x y; rw [hs x (by simp [IOp.opds]),hs y (by simp [IOp.opds])]; first|exact ⟨rfl,rfl⟩|exact ⟨rfl,trivial⟩|exact ⟨trivial,trivial⟩)
  | (rename_i x y z; rw [hs x (by simp [IOp.opds])]; first|exact ⟨rfl,rfl⟩|exact ⟨rfl,trivial⟩|exact ⟨trivial,trivial⟩)
  | (rename_i x y; rw [hs y (by simp [IOp.opds])]; first|exact ⟨rfl,rfl⟩|exact ⟨rfl,trivial⟩|exact ⟨trivial,trivial⟩)
  | (rename_i x y z; rw [hs y (by simp [IOp.opds])]; first|exact ⟨rfl,rfl⟩|exact ⟨rfl,trivial⟩|exact ⟨trivial,trivial⟩)
  | (rename_i x y z; rw [hs z (by simp [IOp.opds])]; first|exact ⟨rfl,rfl⟩|exact ⟨rfl,trivial⟩|exact ⟨trivial,trivial⟩)
  | (rename_i x y z t; rw [hs z (by simp [IOp.opds])]; first|exact ⟨rfl,rfl⟩|exact ⟨rfl,trivial⟩|exact ⟨trivial,trivial⟩)
  | (rename_i x y z t; rw [hs y (by simp [IOp.opds])]; first|exact ⟨rfl,rfl⟩|exact ⟨rfl,trivial⟩|exact ⟨trivial,trivial⟩)
  | (rw [zqp hs (fun s h=>hr s (List.mem_cons.2 (.inr h)))]; exact ⟨rfl,rfl⟩)
theorem zgr {i:Ins} (he:exec orc st i=some st') (hs:∀ t∈(fp orc st i).rs,st2.get t=st.get t) (hr:∀ s∈(fp orc st i).rt,st2.site s=st.site s) :
  ∃ st2',exec orc st2 i=some st2'/\fp orc st2 i=fp orc st i/\(∀ t∈(fp orc st i).ds,st2'.get t=st'.get t)/\(∀ t,t∉(fp orc st i).ds->st2'.get t=st2.get t/\st'.get t=st.get t) /\
   (∀ s∈(fp orc st i).wt,st2'.site s=st'.site s)/\(∀ s,s∉(fp orc st i).wt->st2'.site s=st2.site s/\st'.site s=st.site s)/\(∀ s∈(fp orc st i).wt,s∈(fp orc st i).rt):=by
 have hops:∀ x∈i.op.opds,st2.ev x=st.ev x:=by
  intro x hx
  cases x with
  | c v=>rfl
  | t n=>exact hs n (by simp only [fp,List.mem_append]; exact .inr (List.mem_flatMap.2 ⟨.t n,hx,by simp [Opd.slots]⟩))
 have hg:∀ t b,i.guard=some (t,b)->st2.get t=st.get t:=fun t b h=>hs t (by simp [fp,h])
 have hruns:runs st2 i=runs st i:=by
  unfold runs
  cases h:i.guard with
  | none=>rfl
  | some p=>obtain ⟨t,b⟩:=p; simp only [hg t b h]
 have hfp:fp orc st2 i=fp orc st i:=by
  unfold fp at hr ⊢
  rw [hruns]
  cases hrn:runs st i with
  | false=>rfl
  | true =>
   simp only [hrn,if_true] at hr ⊢
   obtain ⟨e1,e2⟩:=zm4 (orc:=orc) (d:=i.dst.getD 0) hops hr
   rw [e1,e2]
 have hput:∀ {s1 s2 s s':St} {v:AV} {R W:List Nat},Same s1 s s2 s' R W->(∀ t∈i.dst.toList,(s'.put i.dst v).get t=(s.put i.dst v).get t)/\(∀ t,t∉i.dst.toList->(s'.put i.dst v).get t=s2.get t/\(s.put i.dst v).get t=s1.get t) /\
   (∀ t∈W,(s'.put i.dst v).site t=(s.put i.dst v).site t)/\(∀ t,t∉W->(s'.put i.dst v).site t=s2.site t/\(s.put i.dst v).site t=s1.site t)/\(∀ t∈W,t∈R):=by
  intro s1 s2 s s' v R W h
  obtain ⟨a1,a2,a3,a4,a5,a6⟩:=h
  refine ⟨fun t ht=>?_,fun t ht=>?_,fun t ht=>?_,fun t ht=>?_,a6⟩
  ·rw [zdm,zdm]
   cases hd:i.dst with
   | none=>simp [hd] at ht
   | some d=>simp [hd] at ht; subst ht; simp
  ·rw [zdm,zdm]
   have:i.dst≠some t:=by intro h; simp [h] at ht
   rw [if_neg this,if_neg this]
   exact ⟨zja a4 t,zja a5 t⟩
  ·rw [za5,za5]; exact a1 t ht
  ·rw [za5,za5]; exact ⟨a2 t ht,a3 t ht⟩
 have way1:runs st i=true->zdr orc st i=some st'->∃ st2',zdr orc st2 i=some st2'/\(∀ t∈(fp orc st i).ds,st2'.get t=st'.get t)/\(∀ t,t∉(fp orc st i).ds->st2'.get t=st2.get t/\st'.get t=st.get t) /\
   (∀ s∈(fp orc st i).wt,st2'.site s=st'.site s)/\(∀ s,s∉(fp orc st i).wt->st2'.site s=st2.site s/\st'.site s=st.site s)/\(∀ s∈(fp orc st i).wt,s∈(fp orc st i).rt):=by
  intro hrn h
  unfold zdr at h ⊢
  split at h
  ·rename_i v s hev
   cases h
   have hr':∀ s∈effR orc st (i.dst.getD 0) i.op,st2.site s=st.site s:=fun s hs=>hr s (by simp [fp,hrn,hs])
   obtain ⟨s2,e1,e2⟩:=zli hev hops hr'
   refine ⟨s2.put i.dst v,by rw [e1],?_⟩
   simp only [fp,hrn,if_true]
   exact hput e2
  ·cases h
 have way2:runs st i=false->st'=st.put i.dst .skip->(∀ t∈(fp orc st i).ds,(st2.put i.dst .skip).get t=st'.get t)/\(∀ t,t∉(fp orc st i).ds->(st2.put i.dst .skip).get t=st2.get t/\st'.get t=st.get t) /\
   (∀ s∈(fp orc st i).wt,(st2.put i.dst .skip).site s=st'.site s)/\(∀ s,s∉(fp orc st i).wt->(st2.put i.dst .skip).site s=st2.site s/\st'.site s=st.site s)/\(∀ s∈(fp orc st i).wt,s∈(fp orc st i).rt):=by
  intro hrn h
  subst h
  simp only [fp,hrn,if_false,Bool.false_eq_true]
  exact hput (zak (R:=[]))
 unfold exec at he ⊢
 split at he
 ·rename_i h
  obtain ⟨s2,e1,e2⟩:=way1 (by simp [runs,h]) he
  exact ⟨s2,e1,hfp,e2⟩
 ·rename_i t b h
  simp only [hg t b h]
  split at he
  ·rename_i c hc
   split at he
   ·rename_i hcb
    obtain ⟨s2,e1,e2⟩:=way1 (by simp [runs,h,hc,hcb]) he
    exact ⟨s2,by rw [if_pos hcb]; exact e1,hfp,e2⟩
   ·rename_i hcb
    cases he
    exact ⟨_,by rw [if_neg hcb],hfp,way2 (by simp [runs,h,hc,hcb]) rfl⟩
  ·rename_i hc
   cases he
   exact ⟨_,rfl,hfp,way2 (by simp [runs,h,hc]) rfl⟩
  ·cases he
theorem zty {i:Ins} (he:exec orc st i=some st') (h:Eqv st st2):∃ st2',exec orc st2 i=some st2'/\fp orc st2 i=fp orc st i/\Eqv st' st2':=by
 obtain ⟨s2,e1,e2,e3,e4,e5,e6,_⟩:=zgr he (fun t _=>h.get t) (fun s _=>h.site s)
 refine ⟨s2,e1,e2,fun t=>?_,fun s=>?_⟩
 ·by_cases ht:t∈(fp orc st i).ds
  ·exact e3 t ht
  ·rw [(e4 t ht).1,(e4 t ht).2]; exact h.get t
 ·by_cases ht:s∈(fp orc st i).wt
  ·exact e5 s ht
  ·rw [(e6 s ht).1,(e6 s ht).2]; exact h.site s
abbrev Item:=(Option PCall × Ins) × FP
inductive RunL:List Item->St->St->Prop
 | nil (st:St):RunL [] st st
 | cons (x:Item) (xs:List Item) (st s1 st':St):exec x.1.1 st x.1.2=some s1->(fp x.1.1 st x.1.2).Sub x.2->RunL xs s1 st'->RunL (x::xs) st st'
theorem RunL.eqv:∀ {xs:List Item} {st st' st2:St},RunL xs st st'->Eqv st st2->∃ st2',RunL xs st2 st2'/\Eqv st' st2'
 | _,_,_,st2,.nil st,h=>⟨st2,.nil st2,h⟩
 | _,_,_,st2,.cons x xs st s1 st' h1 h2 h3,h=>by
  obtain ⟨s2,e1,e2,e3⟩:=zty h1 h
  obtain ⟨st2',f1,f2⟩:=RunL.eqv h3 e3
  exact ⟨st2',.cons x xs st2 s2 st2' e1 (e2 ▸ h2) f1,f2⟩
theorem ze4 {a b:List Nat} (h:disj a b=true) {x:Nat} (hx:x∈a):x∉b:=by
 have:=List.all_eq_true.1 h x hx
 simpa using this
theorem RunL.swap {x y:Item} {xs:List Item} {st st':St} (h:RunL (x::y::xs) st st') (hi:zk7 x.2 y.2=true):∃ st'',RunL (y::x::xs) st st''/\Eqv st' st'':=by
 cases h with
 | cons _ _ _ s1 _ h1 h2 h3 =>
  cases h3 with
  | cons _ _ _ s2 _ k1 k2 k3 =>
   simp only [zk7,Bool.and_eq_true] at hi
   obtain ⟨⟨⟨⟨i1,i2⟩,i3⟩,i4⟩,i5⟩:=hi
   have hx:=zgr (st2:=st) h1 (fun _ _=>rfl) (fun _ _=>rfl)
   obtain ⟨_,_,_,_,x4,_,x6,xw⟩:=hx
   obtain ⟨t1,a1,a2,a3,a4,a5,a6,aw⟩:=zgr (st2:=st) k1
    (fun t ht=>((x4 t (fun hh=>ze4 i1 (h2.ds _ hh) (k2.rs _ ht))).2).symm)
    (fun s hs=>((x6 s (fun hh=>ze4 i4 (h2.wt _ hh) (k2.rt _ hs))).2).symm)
   obtain ⟨t2,b1,b2,b3,b4,b5,b6,_⟩:=zgr (st2:=t1) h1
    (fun t ht=>(a4 t (fun hh=>ze4 i3 (k2.ds _ hh) (h2.rs _ ht))).1)
    (fun s hs=>(a6 s (fun hh=>ze4 i5 (k2.wt _ hh) (h2.rt _ hs))).1)
   have heq:Eqv s2 t2:=by
    refine ⟨fun t=>?_,fun s=>?_⟩
    ·by_cases hx:t∈(fp x.1.1 st x.1.2).ds
     ·rw [b3 t hx]
      have hy:t∉(fp y.1.1 s1 y.1.2).ds:=fun hh=>ze4 i2 (h2.ds _ hx) (k2.ds _ hh)
      exact (a4 t hy).2.symm
     ·rw [(b4 t hx).1]
      by_cases hy:t∈(fp y.1.1 s1 y.1.2).ds
      ·exact a3 t hy
      ·rw [(a4 t hy).1,(a4 t hy).2,(x4 t hx).2]
    ·by_cases hx:s∈(fp x.1.1 st x.1.2).wt
     ·rw [b5 s hx]
      have hy:s∉(fp y.1.1 s1 y.1.2).wt:=fun hh=>ze4 i4 (h2.wt _ hx) (k2.rt _ (aw s hh))
      exact (a6 s hy).2.symm
     ·rw [(b6 s hx).1]
      by_cases hy:s∈(fp y.1.1 s1 y.1.2).wt
      ·exact a5 s hy
      ·rw [(a6 s hy).1,(a6 s hy).2,(x6 s hx).2]
   obtain ⟨st'',c1,c2⟩:=RunL.eqv k3 heq
   exact ⟨st'',.cons y _ st t1 st'' a1 (a2 ▸ k2) (.cons x _ t1 t2 st'' b1 (b2 ▸ h2) c1),c2⟩
theorem RunL.front {x:Item} {xs:List Item}:∀ {ys:List Item} {st st':St},RunL (ys++x::xs) st st'->(∀ y∈ys,zk7 y.2 x.2=true)->∃ st'',RunL (x::(ys++xs)) st st''/\Eqv st' st''
 | [],st,st',h,_=>⟨st',h,Eqv.refl st'⟩
 | y::ys,st,st',h,hi=>by
  cases h with
  | cons _ _ _ s1 _ h1 h2 h3 =>
   obtain ⟨s',e1,e2⟩:=RunL.front h3 (fun z hz=>hi z (by simp [hz]))
   obtain ⟨s'',f1,f2⟩:=RunL.swap (.cons y _ st s1 s' h1 h2 e1) (hi y (by simp))
   exact ⟨s'',f1,e2.trans f2⟩
end
end Go.Ab
