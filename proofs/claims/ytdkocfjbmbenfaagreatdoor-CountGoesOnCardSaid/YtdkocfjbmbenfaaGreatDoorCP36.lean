/-
Proofs for the law CountGoesOn, part 36. Conditions: none.
-/
import Derived.Test.YtdkocfjbmbenfaaGreatDoorCP28
import Derived.Test.YtdkocfjbmbenfaaGreatDoorCP35
set_option maxRecDepth 100000
set_option maxHeartbeats 4000000
set_option linter.all false
namespace Go.Ab
structure PinP where
 p:Cz->St->Prop
 m:∀ Z st Z' st',PinLe Z st Z' st'->p Z st->p Z' st'
theorem ze3.later {o:Option MapD} {K:Ctx} {Z Z':Cz} {st st':St} {w w':World} (hl:Later Z st w Z' st' w') (h:ze3 o K Z st w):ze3 o K Z' st' w':=by
 cases o with
 | none=>trivial
 | some m =>
  obtain ⟨h1,h2,es,clock,h3,h4,h5,h6⟩:=h
  obtain ⟨k1,k2⟩:=hl.f _ h1
  exact ⟨k1,h2,es,clock,by rw [k2]; exact h3,h4.mono hl.M,h5.mono hl.M,h6⟩
def hFA (q:PinP) (o:Option MapD):FA:=⟨0,fun _ _=>True,fun _ _ _ _ h=>h,false,true,fun K Z st w=>q.p Z st/\ze3 o K Z st w,fun _ _ _ _ _ _ _ hl h=>⟨q.m _ _ _ _ hl.pin h.1,ze3.later hl h.2⟩⟩
structure AOk (o o':Option MapD) (A A':Option FA):Prop where
 get:∀ K Z st w,zeq A K Z st w->ze3 o K Z st w
 put:∀ K Z st w Z' st' w',zeq A K Z st w->LaterX (isR o) Z st w Z' st' w'->ze3 o' K Z' st' w'->zeq A' K Z' st' w'
section
variable {P:Program} {K:Ctx} {Z Z' Z2:Cz} {st st' st1 st2:St} {w w':World} {a:Act} {N:Nat} {A B:Option FA} {Post:Exit->St->Option FA->Prop} {PostI:St->Option FA->Prop} {ks:List Nat} {v:AV}
def zbr:Nat->List AV->List (Nat × AV)
 | _,[]=>[]
 | i,v::r=>(i,v)::zbr (i+1) r
theorem zoe:∀ (args:List AV) (i t:Nat),look (zbr i args) t AV.undef=if t<i then .undef else (args[t - i]?).getD .undef
 | [],i,t=>by simp [zbr,look]
 | v::r,i,t=>by
  simp only [zbr,look]
  split
  ·rename_i h; subst h; simp
  ·rename_i h
   rw [zoe r (i+1) t]
   by_cases h1:t<i
   ·rw [if_pos (by omega),if_pos h1]
   ·rw [if_neg (by omega),if_neg h1]
    have:t - i=(t - (i+1))+1:=by omega
    rw [this]; rfl
def retH (rs:List (Nat × Option Nat)) (v:AV) (hp':List Site) (ex:Exit) (s:St):Prop :=
 (ex=.ret\/ex=.normal)/\∃ s1,Weak s s1/\∃ us,zbg s1 rs=some us/\resOf us=v/\zbf s1 hp' hp'
def resG (hp hp':List Site) (s1:St):HV->AV->Prop
 | .av v,u=>u=v
 | .fr sz es,u=>hp'=hp/\((u=.nil/\es=[])\/∃ s g,(hp.map (·.1)).contains s=false/\u=.own s g 0 es.length/\s1.obj s g=some ⟨sz,es.map .p⟩)
 | .bx sz e us,u=>hp'=hp/\∃ s g,(hp.map (·.1)).contains s=false/\u=.tup (.ptr s g 0 0::us.map .p)/\s1.obj s g=some ⟨sz,[e]⟩
def retG (rs:List (Nat × Option Nat)) (hp:List Site) (res:HV) (hp':List Site) (ex:Exit) (s:St):Prop :=
 (ex=.ret\/ex=.normal)/\∃ s1,Weak s s1/\∃ us,zbg s1 rs=some us/\resG hp hp' s1 res (resOf us)/\zbf s1 hp' hp'
theorem HSpG.of_mr {f:FuncId} {vs:List AV} {hp hp':List Site} {o0 o0':Option MapD} {res:HV} {n np:Nat} {b:GC} {rs:List (Nat × Option Nat)} (hc:zad P f=some ⟨n,np,b.er,rs⟩) (hn:vs.length<=n) (hoo:o0'.map (·.1)=o0.map (·.1))
  (hpin:hp.all (fun q=>decide (PINB<=q.1)&&decide (q.1<999999))=true) (hks:hp'.map (·.1)=hp.map (·.1)) (hr:(zgd (hp.map (·.1)) res&&hpOk (hp.map (·.1)) hp')=true)
  (h:∀ q:PinP,MR P n b.er ⟨zbr 0 vs,hp⟩ (some (hFA q o0)) fun ex s B=>B=some (hFA q o0')/\retG rs hp res hp' ex s):HSpG P f vs hp o0 res hp' o0':=by
 unfold zad at hc
 split at hc
 ·rename_i fn hf
  split at hc
  ·rename_i hname
   split at hc
   ·rename_i c hb
    split at hc
    ·rename_i bd rs' h1 h2
     simp only [Option.some.injEq,FnC.mk.injEq] at hc
     obtain ⟨rfl,_,rfl,rfl⟩:=hc
     refine ⟨⟨fn,hf,by rw [hb]; rfl,hname⟩,fun Z w vals hH hmi hv=>?_⟩
     refine calls_of_wp hf hb ?_
     have hl:=hv.length
     have hsi:∀ s,(⟨zbr 0 vs,hp⟩:St).site s=(⟨[],hp⟩:St).site s:=fun _=>rfl
     have h0:StRep ⟨w,Z.M,fun b=>ownB Z ⟨[],hp⟩ b\/isR o0 b,fn.ntmps⟩ Z ⟨zbr 0 vs,hp⟩ w { tmps:=vals.toArray++Array.replicate (fn.ntmps - vals.toArray.size) Go.undef,defers:=[] }:=by
      refine ⟨fun t=>?_,rfl,by simp; omega,HRep.of_site ⟨hH.objs,hH.inj,hH.mem,hH.sep,hH.own,hH.m0,hH.prov,hH.keep⟩ hsi⟩
      have hget:(⟨zbr 0 vs,hp⟩:St).get t=(vs[t]?).getD .undef:=by
       have:=zoe vs 0 t
       simpa [St.get] using this
      rw [hget]
      cases hx:vs[t]? with
      | none=>exact .undef _
      | some u =>
       obtain ⟨x,g1,g2⟩:=hv.get t u hx
       have hlt:=(List.getElem?_eq_some_iff.1 g1).1
       have:(vals.toArray++Array.replicate (fn.ntmps - vals.toArray.size) Go.undef).getD t Go.undef=x:=by
        simp [Array.getElem?_append,hlt]
        have:=(List.getElem?_eq_some_iff.1 g1).2
        simpa using this
       rw [this]
       exact ARep.mono (zbj hsi Z) g2
     let q:PinP:=⟨fun Z' st'=>PinLe Z ⟨zbr 0 vs,hp⟩ Z' st',fun _ _ _ _ h k=>k.trans h⟩
     have hmi0:ze3 o0 ⟨w,Z.M,fun b=>ownB Z ⟨[],hp⟩ b\/isR o0 b,fn.ntmps⟩ Z ⟨zbr 0 vs,hp⟩ w:=by
      cases o0 with
      | none=>trivial
      | some m=>exact ⟨⟨hmi.1.m,fun s g o a1=>hmi.1.o s g o a1,hmi.1.lt⟩,hmi.2⟩
     refine h q _ h1 _ _ w _ _ rfl h0 ⟨PinLe.refl _ _,hmi0⟩ (fun ex st' A' Z' w' a' hp1 hs1 hA1=>?_)
     obtain ⟨rfl,hex,s1,hw,us,hus,hv1,hsite1⟩:=hp1
     obtain ⟨Z1,hs2,hl2⟩:=hw.frame hs1
     have hpl:PinLe Z ⟨zbr 0 vs,hp⟩ Z1 s1:=PinLe.trans hA1.1 hl2.pin
     have hmi1:=ze3.later hl2 hA1.2
     simp only [Bool.and_eq_true] at hr
     have hsite:∀ s,(hp.map (·.1)).contains s=true->s1.site s=(⟨[],hp'⟩:St).site s:=fun s hs=>by
      rw [<- hks] at hs
      obtain ⟨q,hq,rfl⟩:=List.mem_map.1 (List.contains_iff_mem.1 hs)
      exact zm8 hsite1 q hq
     have hpn:∀ s,(hp.map (·.1)).contains s=true->PINB<=s/\s<999999:=fun s hs=>by
      obtain ⟨q,hq,rfl⟩:=List.mem_map.1 (List.contains_iff_mem.1 hs)
      have:=List.all_eq_true.1 hpin q hq
      simpa using this
     have e0:∀ s,(hp.map (·.1)).contains s=false->(⟨[],hp⟩:St).site s=[]:=fun s h=>zgy h
     have e1:∀ s,(hp.map (·.1)).contains s=false->(⟨[],hp'⟩:St).site s=[]:=fun s h=>zgy (by rw [hks]; exact h)
     have hz:ZLe Z ⟨[],hp⟩ Z1 ⟨[],hp'⟩:=by
      refine ⟨fun b o hb=>hs2.heap.m0 b o hb,fun s=>?_,fun s g hg hd=>?_,fun s g o ho=>?_⟩<;>cases hc:(hp.map (·.1)).contains s
      ·rw [e0 s hc]; exact Nat.zero_le _
      ·rw [<- hsite s hc]; exact hpl.len s (hpn s hc).1 (hpn s hc).2
      ·rw [e0 s hc] at hg; simp at hg
      ·rw [zaf (hsite s hc).symm]; exact hpl.dead s g (hpn s hc).1 (hpn s hc).2 hg hd
      ·simp [St.obj,e0 s hc] at ho
      ·rw [zaf (hsite s hc).symm]; exact hpl.live s g o (hpn s hc).1 (hpn s hc).2 ho
     have hH2:HRep (ctxH Z hp o0 w) Z1 ⟨[],hp'⟩ w'/\ze3 o0' (ctxH Z hp o0 w) Z1 ⟨[],hp'⟩ w':=by
      have k0:∀ {s g o},(⟨[],hp'⟩:St).obj s g=some o->(hp.map (·.1)).contains s=true:=fun {s g o} ho=>by
       cases h:(hp.map (·.1)).contains s with
       | true=>rfl
       | false=>simp [St.obj,e1 s h] at ho
      have o0:∀ {s g o},(⟨[],hp'⟩:St).obj s g=some o->s1.obj s g=some o:=fun {s g o} ho=>by rw [zaf (hsite s (k0 ho))]; exact ho
      have hq:=hs2.heap
      refine ⟨⟨fun s g o ho=>ORep.into (st:=s1) (st2:=⟨[],hp'⟩) (Z2:=Z1) (fun s h=>(hsite s h).symm) (fun _ _ h=>h) (fun _ _ _=>⟨rfl,rfl⟩) (k0 ho) (zqc hr.2 ho) (hq.objs s g o (o0 ho)),fun s g s' g' o o' b a1 a2=>hq.inj s g s' g' o o' b (o0 a1) (o0 a2),hq.mem,fun s g o b a1=>hq.sep s g o b (o0 a1),
       fun s g o b a1 b1=>hq.own s g o b (o0 a1) b1,hq.m0,hq.prov,hq.keep⟩,?_⟩
      cases o0' with
      | none=>trivial
      | some m=>exact ⟨⟨hmi1.1.m,fun s g o a1=>hmi1.1.o s g o (o0 a1),hmi1.1.lt⟩,hmi1.2⟩
     have hfin:a'.defers=[]/\∃ u,(results fn a'.tmps).run P w'=.ok u w'/\∃ x Z',Ending.returned u=.returned x/\HRep (ctxH Z hp o0 w) Z' ⟨[],hp'⟩ w'/\HRes res Z' ⟨[],hp'⟩ w w' x/\ZLe Z ⟨[],hp⟩ Z' ⟨[],hp'⟩/\ze3 o0' (ctxH Z hp o0 w) Z' ⟨[],hp'⟩ w':=by
      obtain ⟨xs,g1,g2⟩:=zjl hs2 h2 hus
      have g3:=g2.resOf
      have key:hp'=hp->∀ {s g:Nat} {o:AObj} {b:Nat},(hp'.map (·.1)).contains s=false->s1.obj s g=some o->Z1.B s g=some b->(∀ s2 g2 o2,(⟨[],hp'⟩:St).obj s2 g2=some o2->Z1.B s2 g2≠some b)/\w.heap.size<=b:=by
       rintro rfl s g o b hns hob hb
       have hne:∀ s2 g2 o2,(⟨[],hp'⟩:St).obj s2 g2=some o2->Z1.B s2 g2≠some b:=fun s2 g2 o2 a1 b1=>by
        have hk:(hp'.map (·.1)).contains s2=true:=by
         cases h:(hp'.map (·.1)).contains s2 with
         | true=>rfl
         | false=>simp [St.obj,e0 s2 h] at a1
        obtain ⟨rfl,rfl⟩:=hs2.heap.inj _ _ _ _ _ _ b hob (by rw [zaf (hsite s2 hk)]; exact a1) hb b1
        rw [hk] at hns; cases hns
       refine ⟨hne,?_⟩
       rcases hs2.heap.own s g _ b hob hb with (hX|hX)|hX
       ·exfalso
        obtain ⟨s3,g3,o3,c1,c2⟩:=hX
        have hk:(hp'.map (·.1)).contains s3=true:=by
         cases h:(hp'.map (·.1)).contains s3 with
         | true=>rfl
         | false=>simp [St.obj,e0 s3 h] at c1
        have c3:s1.obj s3 g3=some o3:=by rw [zaf (hsite s3 hk)]; exact c1
        rcases hpl.live s3 g3 o3 (hpn s3 hk).1 (hpn s3 hk).2 c1 with d1|⟨o4,d1,d2,d3,d4,d5⟩
        ·rw [c3] at d1; cases d1
        ·exact hne s3 g3 o3 c1 (by rw [d4]; exact c2)
       ·exfalso
        cases o0 with
        | none=>exact hX.elim
        | some m =>
         cases o0' with
         | none=>cases hoo
         | some m' =>
          have e:m'.1=m.1:=by simpa using hoo
          have hX:b=m.1:=hX
          rw [hX,<- e] at hb
          exact hmi1.1.o _ _ _ hob hb
       ·exact hX
      have g4:HRes res Z1 ⟨[],hp'⟩ w w' (if h:xs.toArray.size=1 then xs.toArray[0] else .tuple xs.toArray):=by
       generalize (if h:xs.toArray.size=1 then xs.toArray[0] else .tuple xs.toArray)=x at g3
       cases res with
       | av v =>
        have hv1:resOf us=v:=hv1
        rw [hv1] at g3
        exact ARep.into (st:=s1) (st2:=⟨[],hp'⟩) (Z2:=Z1) (fun s h=>(hsite s h).symm) (fun _ _ h=>h) (fun _ _ _=>⟨rfl,rfl⟩) g3 hr.1
       | bx sz e us' =>
        obtain ⟨ehp,s,g,hns,e1,hob⟩:=hv1
        rw [e1] at g3
        have hO:=hs2.heap.objs s g _ hob
        cases g3 with
        | tup _ vals hvs =>
         cases hvs with
         | cons _ x0 _ ys hx0 hys =>
          cases hx0 with
          | ptrD _ _ _ _ _ _ hd=>exact (zaz hob hd).elim
          | ptr _ _ _ _ o' b ho' hb =>
           rw [hob] at ho'; cases ho'
           obtain ⟨cur,T,vals,l1,l2,l3,l4,l5,l6⟩:=hO.blk b hb
           obtain ⟨k1,k2⟩:=key ehp (by rw [ehp]; exact hns) hob hb
           simp only [List.flatMap_cons,List.flatMap_nil,List.append_nil] at l2
           refine ⟨b,_,cur,T,vals,ys,by simp,hys.to_p,k2,hs2.heap.sep s g _ b hob hb,l1,?_,l3,l4,⟨by simpa using l5,l6⟩,fun q hq=>?_,k1⟩
           ·simp only [zgd,Bool.and_eq_true] at hr
            exact AReps.into (st:=s1) (st2:=⟨[],hp'⟩) (Z2:=Z1) (fun s h=>(hsite s h).symm) (fun _ _ h=>h) (fun _ _ _=>⟨rfl,rfl⟩) l2 (zhw hr.1.2)
           ·exact hO.one q (by simpa using hq)
       | fr sz es =>
        obtain ⟨ehp,hv1⟩:=hv1
        rcases hv1 with ⟨e1,rfl⟩|⟨s,g,hns,e1,hob⟩
        ·rw [e1] at g3
         cases g3
         exact ⟨.inl ⟨rfl,rfl⟩,fun b n c h=>by cases h⟩
        ·rw [e1] at g3
         have hO:=hs2.heap.objs s g _ hob
         generalize hL:es.length=L at g3
         cases g3 with
         | own0 _ _ o' ho' hb =>
          have h0:=hO.non hb
          have h0':es=[]:=by simpa using h0
          subst h0'
          exact ⟨.inl ⟨rfl,rfl⟩,fun b n c h=>by cases h⟩
         | ownD _ _ _ _ _ _ _ hd=>exact (zaz hob hd).elim
         | own _ _ _ _ o' b ad c ho' hb k1 k2 k3 k4 =>
          rw [hob] at ho'; cases ho'
          subst hL
          obtain ⟨rfl,rfl⟩:=k1 rfl
          obtain ⟨cur,T,vals,l1,l2,l3,l4,l5,l6⟩:=hO.blk b hb
          obtain ⟨hne,hnew⟩:=key ehp (by rw [ehp]; exact hns) hob hb
          refine ⟨.inr ⟨b,_,cur,T,vals,rfl,hnew,hs2.heap.sep s g _ b hob hb,l1,?_,l3,l4,by simpa using l5,l6,fun q hq=>?_⟩,fun b' n c hx=>by cases hx; exact hne⟩
          ·rw [zak] at l2; exact l2.to_p
          ·have:=hO.one (.p q) (by rw [zak]; exact List.mem_map.2 ⟨q,hq,rfl⟩)
           exact this
      refine ⟨hs2.defers,_,?_,_,Z1,rfl,hH2.1,g4,hz,hH2.2⟩
      unfold results
      rw [Array.mapM_eq_mapM_toList]
      simp only [Sem.run_bind,map_eq_pure_bind,Sem.run_pure]
      exact congrArg (fun r=>(Result.andThen r fun a w'=>Result.ok a.toArray w').andThen fun (a:Array Value) w'=>Result.ok (if h:a.size=1 then a[0] else Value.tuple a) w') g1
     rcases hex with rfl|rfl
     ·exact hfin
     ·exact hfin
    ·cases hc
   ·cases hc
  ·cases hc
 ·cases hc
theorem HSp.of_mr {f:FuncId} {vs:List AV} {hp hp':List Site} {n np:Nat} {b:GC} {rs:List (Nat × Option Nat)} (hc:zad P f=some ⟨n,np,b.er,rs⟩) (hn:vs.length<=n)
  (hpin:hp.all (fun q=>decide (PINB<=q.1)&&decide (q.1<999999))=true) (hks:hp'.map (·.1)=hp.map (·.1)) (hr:(zb7 (hp.map (·.1)) v&&hpOk (hp.map (·.1)) hp')=true)
  (h:∀ A:FA,A.nb=true->MR P n b.er ⟨zbr 0 vs,hp⟩ (some A) fun ex s B=>B=some A/\retH rs v hp' ex s):HSp P f vs hp v hp' :=
 HSpG.of_mr hc hn rfl hpin hks hr fun q=>h (hFA q none) rfl
end
end Go.Ab
namespace Go.Ab
abbrev Sg:=Nat->Nat->Nat × Nat
mutual
def sub (σ : Sg):AV->AV
 | .own s g off len=>.own (σ s g).1 (σ s g).2 off len
 | .ptr s g ix off=>.ptr (σ s g).1 (σ s g).2 ix off
 | .agg cs=>.agg (subL σ cs)
 | .fn f cs=>.fn f (subL σ cs)
 | .tup cs=>.tup (subL σ cs)
 | .p v=>.p v
 | .nil=>.nil
 | .cp v vsz off=>.cp v vsz off
 | .skip=>.skip
 | .undef=>.undef
def subL (σ : Sg):List AV->List AV
 | []=>[]
 | v::r=>sub σ v::subL σ r
end
def subO (σ : Sg) (o:AObj):AObj:=⟨o.sz,subL σ o.es⟩
structure SubOk (st st':St) (σ : Sg):Prop where
 live:∀ s g o,st.obj s g=some o -> σ s g=(DEAD,0)\/st'.obj (σ s g).1 (σ s g).2=some (subO σ o)
 deadn:∀ s g,g<(st.site s).length->st.obj s g=none->(σ s g).2<(st'.site (σ s g).1).length/\st'.obj (σ s g).1 (σ s g).2=none
 inj:∀ s g s' g' o o',st.obj s g=some o->st.obj s' g'=some o' -> σ s g = σ s' g' -> σ s g≠(DEAD,0)->s=s'/\g=g'
 all:∀ s' g' o',st'.obj s' g'=some o'->∃ s g o,st.obj s g=some o /\ σ s g=(s',g')/\o'=subO σ o
 dead:0<(st'.site DEAD).length/\st'.obj DEAD 0=none
section
variable {P:Program} {K:Ctx} {Z Z':Cz} {st st':St} {w:World} {a:Act} {σ : Sg}
theorem zcg:∀ (l:List AV),subL σ l=l.map (sub σ)
 | []=>rfl
 | v::r=>by simp [subL,zcg r]
theorem yb5 (v:AV):(sub σ v).sz=v.sz:=by
 cases v<;>simp only [sub]<;>simp [AV.sz,zcg]
theorem zzg (v:AV):(sub σ v).one=v.one:=by
 cases v<;>simp only [sub]<;>simp [AV.one]
theorem zzh (v:AV):(sub σ v).cells=v.cells.map (sub σ):=by
 cases v with
 | agg cs=>simp only [sub,AV.cells,zcg]
 | p v=>?_
 | _=>rfl
 cases v<;>first|rfl|skip
 simp only [sub,AV.cells,List.map_map]
 apply List.map_congr_left; intro x _; rfl
theorem znv (es:List AV):(subL σ es).flatMap AV.cells=(es.flatMap AV.cells).map (sub σ):=by
 induction es with
 | nil=>rfl
 | cons e es ih=>simp only [subL,List.flatMap_cons,List.map_append,ih,zzh]
open Classical in
noncomputable def oldN (st:St) (σ : Sg) (s' g':Nat):Nat × Nat:=if h:∃ i:Nat × Nat,(∃ o,st.obj i.1 i.2=some o) /\ σ i.1 i.2=(s',g') then h.choose else (0,0)
theorem zjp (h:SubOk st st' σ) {s g:Nat} {o:AObj} (ho:st.obj s g=some o) (hn : σ s g≠(DEAD,0)):oldN st σ (σ s g).1 (σ s g).2=(s,g):=by
 have hx:∃ i:Nat × Nat,(∃ o,st.obj i.1 i.2=some o) /\ σ i.1 i.2=((σ s g).1,(σ s g).2):=⟨(s,g),⟨o,ho⟩,rfl⟩
 unfold oldN
 rw [dif_pos hx]
 obtain ⟨⟨o',h1⟩,h2⟩:=hx.choose_spec
 have h3 : σ hx.choose.1 hx.choose.2 = σ s g:=h2
 obtain ⟨e1,e2⟩:=h.inj _ _ _ _ _ _ h1 ho h3 (by rw [h3]; exact hn)
 exact Prod.ext e1 e2
noncomputable def Cz.sub (Z:Cz) (st:St) (σ : Sg):Cz where
 M:=Z.M
 B s g:=Z.B (oldN st σ s g).1 (oldN st σ s g).2
 cap s g:=Z.cap (oldN st σ s g).1 (oldN st σ s g).2
mutual
theorem ARep.sub (h:SubOk st st' σ):∀ {v:AV} {x:Value},ARep Z st v x->ARep (Z.sub st σ) st' (Ab.sub σ v) x
 | _,_,.p v x hp=>.p v x hp
 | _,_,.nil=>.nil
 | _,_,.own0 s g o ho hb=>by
  simp only [Ab.sub]
  by_cases hd : σ s g=(DEAD,0)
  ·rw [hd]; exact .ownD _ _ _ _ _ _ h.dead.1 h.dead.2
  ·exact .own0 _ _ _ ((h.live s g o ho).resolve_left hd) (by simp only [Cz.sub,zjp h ho hd,hb])
 | _,_,.own s g off len o b ad c ho hb h1 h2 h3 h4=>by
  simp only [Ab.sub]
  by_cases hd : σ s g=(DEAD,0)
  ·rw [hd]; exact .ownD _ _ _ _ _ _ h.dead.1 h.dead.2
  ·exact .own _ _ _ _ _ b ad c ((h.live s g o ho).resolve_left hd) (by simp only [Cz.sub,zjp h ho hd,hb]) (by simp only [Cz.sub,zjp h ho hd]; exact h1) h2 (by simpa [subO,zcg] using h3) h4
 | _,_,.ownD s g off len ad c hg hdd=>by
  simp only [Ab.sub]
  exact .ownD _ _ _ _ _ _ (h.deadn s g hg hdd).1 (h.deadn s g hg hdd).2
 | _,_,.ptr s g ix off o b ho hb=>by
  simp only [Ab.sub]
  by_cases hd : σ s g=(DEAD,0)
  ·rw [hd]; exact .ptrD _ _ _ _ _ h.dead.1 h.dead.2
  ·exact .ptr _ _ ix off (subO σ o) b ((h.live s g o ho).resolve_left hd) (by simp only [Cz.sub,zjp h ho hd,hb])
 | _,_,.ptrD s g ix off ad hg hdd=>by
  simp only [Ab.sub]
  exact .ptrD _ _ _ _ _ (h.deadn s g hg hdd).1 (h.deadn s g hg hdd).2
 | _,_,.cp v vsz off b o cur T fr vals h0 h1 h2 h3 h4 h5=>.cp v vsz off b o cur T fr vals h0 h1 h2 h3 h4 h5
 | _,_,.agg cs vals h1 h2=>by
  simp only [Ab.sub]
  exact .agg _ vals (fun c hc=>by rw [zcg] at hc; obtain ⟨d,hd,rfl⟩:=List.mem_map.1 hc; rw [zzg]; exact h1 d hd) (AReps.sub h h2)
 | _,_,.fn f cs vals h1=>by simp only [Ab.sub]; exact .fn f _ vals (AReps.sub h h1)
 | _,_,.tup vs vals h1=>by simp only [Ab.sub]; exact .tup _ vals (AReps.sub h h1)
 | _,_,.skip=>.skip
 | _,_,.undef x=>.undef x
theorem AReps.sub (h:SubOk st st' σ):∀ {v:List AV} {x:List Value},AReps Z st v x->AReps (Z.sub st σ) st' (subL σ v) x
 | _,_,.nil=>.nil
 | _,_,.cons v x vs xs h1 hs=>.cons _ _ _ _ (ARep.sub h h1) (AReps.sub h hs)
end
theorem HRep.sub (h:HRep K Z st w) (hr:SubOk st st' σ):HRep K (Z.sub st σ) st' w:=by
 have back:∀ {s' g':Nat} {o':AObj},st'.obj s' g'=some o'->∃ s g o,st.obj s g=some o/\o'=subO σ o /\ σ s g=(s',g')/\(Z.sub st σ).B s' g'=Z.B s g/\(Z.sub st σ).cap s' g'=Z.cap s g:=by
  intro s' g' o' ho
  obtain ⟨s,g,o,h1,h2,rfl⟩:=hr.all s' g' o' ho
  have hd : σ s g≠(DEAD,0):=fun e=>by
   rw [h2] at e; cases e
   rw [hr.dead.2] at ho; cases ho
  have:=zjp hr h1 hd
  rw [h2] at this
  exact ⟨s,g,o,h1,rfl,h2,by simp only [Cz.sub,this],by simp only [Cz.sub,this]⟩
 refine ⟨fun s' g' o' ho=>?_,fun s g s' g' o o' b ho ho' hb hb'=>?_,h.mem,fun s g o b ho hb=>?_,fun s g o b ho hb=>?_,h.m0,h.prov,h.keep⟩
 ·obtain ⟨s,g,o0,h1,rfl,_,eB,eC⟩:=back ho
  obtain ⟨k1,k2,k3,k4,k5⟩:=h.objs s g o0 h1
  refine ⟨k1,fun e he=>?_,fun c hc=>?_,fun hb=>?_,fun b hb=>?_⟩
  ·simp only [subO,zcg,List.mem_map] at he; obtain ⟨e0,he0,rfl⟩:=he; rw [yb5]; exact k2 e0 he0
  ·simp only [subO,znv,List.mem_map] at hc; obtain ⟨c0,hc0,rfl⟩:=hc; rw [zzg]; exact k3 c0 hc0
  ·rw [eB] at hb; simp [subO,k4 hb,subL]
  ·rw [eB] at hb
   obtain ⟨cur,T,vals,e1,e2,e3,e4,e5,e6⟩:=k5 b hb
   refine ⟨cur,T,vals,e1,?_,e3,by rw [eC]; exact e4,by rw [eC]; simpa [subO,zcg] using e5,by rw [eC]; exact e6⟩
   show AReps _ _ ((subL σ o0.es).flatMap AV.cells) vals
   rw [znv,<- zcg]
   exact AReps.sub hr e2
 ·obtain ⟨t,k,o0,h1,_,q1,eB,_⟩:=back ho
  obtain ⟨t',k',o0',h1',_,q1',eB',_⟩:=back ho'
  rw [eB] at hb; rw [eB'] at hb'
  obtain ⟨e1,e2⟩:=h.inj _ _ _ _ _ _ b h1 h1' hb hb'
  subst e1; subst e2
  rw [q1] at q1'
  exact ⟨congrArg Prod.fst q1',congrArg Prod.snd q1'⟩
 ·obtain ⟨t,k,o0,h1,_,_,eB,_⟩:=back ho
  rw [eB] at hb
  exact h.sep _ _ _ b h1 hb
 ·obtain ⟨t,k,o0,h1,_,_,eB,_⟩:=back ho
  rw [eB] at hb
  exact h.own _ _ _ b h1 hb
def z0q (st:St) (σ : Sg):Prop:=∀ s g,PINB<=s->s<999999->g<(st.site s).length -> σ s g=(s,g)
theorem Weak.sub (h:SubOk st st' σ) (hp:z0q st σ) {keep:List Nat} (hsl:st'.sl=keep.map fun t=>(t,Ab.sub σ (st.get t))):Weak st st':=by
 intro K Z w a hs
 have hnd:∀ {s g:Nat},s<999999->(s,g)≠(DEAD,0):=fun h e=>by
  have:=congrArg Prod.fst e; simp only [DEAD] at this; omega
 have hlt:∀ s g,PINB<=s->s<999999->g<(st.site s).length->g<(st'.site s).length:=fun s g a b hg=>by
  have e:=hp s g a b hg
  cases ho:st.obj s g with
  | none=>have:=(h.deadn s g hg ho).1; rw [e] at this; exact this
  | some o =>
   rcases h.live s g o ho with h1|h1
   ·rw [e] at h1; exact absurd h1 (hnd b)
   ·rw [e] at h1; exact zbx h1
 refine ⟨Z.sub st σ,⟨fun t=>?_,hs.defers,hs.size,hs.heap.sub h⟩,⟨fun s a b=>?_,fun s g a b hg ho=>?_,fun s g o a b ho=>?_⟩⟩
 rotate_left
 ·cases hl:(st.site s).length with
  | zero=>exact Nat.zero_le _
  | succ n=>exact hlt s n a b (by omega)
 ·have:=(h.deadn s g hg ho).2; rw [hp s g a b hg] at this; exact this
 ·have e:=hp s g a b (zbx ho)
  rcases h.live s g o ho with h1|h1
  ·rw [e] at h1; exact absurd h1 (hnd b)
  ·have e2:=zjp h ho (by rw [e]; exact hnd b)
   rw [e] at h1 e2
   exact .inr ⟨_,h1,rfl,by simp [subO,zcg],by simp only [Cz.sub,e2],by simp only [Cz.sub,e2]⟩
 have:st'.get t=look (keep.map fun t=>(t,Ab.sub σ (st.get t))) t .undef:=by rw [<- hsl]; rfl
 rw [this]
 rcases zma (fun t=>Ab.sub σ (st.get t)) t keep with h'|h'
 ·rw [h']; exact (hs.slots t).sub h
 ·rw [h']; exact .undef _
def zeh (st:St) (s:Nat):List (Nat × Nat)->Option (Nat × Nat)
 | []=>none
 | (x,k)::r=>if x=s then some (0,k) else (zeh st s r).map fun q=>((st.site x).length - k+q.1,q.2)
def zhn (st:St) (s:Nat):List (Nat × List (Nat × Nat))->Option (Nat × Nat × Nat)
 | []=>none
 | (s',l)::r=>match zeh st s l with
  | some q=>some (s',q)
  | none=>zhn st s r
def sgP (st:St) (plan:List (Nat × List (Nat × Nat))):Sg:=fun s g=>match zhn st s plan with
 | some (s',o,k)=>if g<k then (DEAD,0) else (s',o+(g - k))
 | none=>(DEAD,0)
def catS (st:St) (σ : Sg):List (Nat × Nat)->List (Option AObj)
 | []=>[]
 | (x,k)::r=>((st.site x).drop k).map (Option.map (subO σ))++catS st σ r
def hpP (st:St) (σ : Sg):List (Nat × List (Nat × Nat))->List Site
 | []=>[(DEAD,[none])]
 | (s',l)::r=>(s',catS st σ l)::hpP st σ r
def St.plan (st:St) (keep:List Nat) (plan:List (Nat × List (Nat × Nat))):St:=⟨keep.map fun t=>(t,sub (sgP st plan) (st.get t)),hpP st (sgP st plan) plan⟩
def zet (s:Nat):List (Nat × Nat)->Bool
 | (x,k)::_=>x == s&&k == 0
 | []=>false
def zty (hp:List Site) (plan:List (Nat × List (Nat × Nat))):Bool:=hp.all fun q=>decide (q.1<PINB)||decide (999999<=q.1)||plan.any fun p=>p.1 == q.1&&zet q.1 p.2
def zhs (hp:List Site) (plan:List (Nat × List (Nat × Nat))):Bool:=zty hp plan&&zfh (plan.flatMap fun q=>q.2.map (·.1))&&zfh (DEAD::plan.map (·.1))
theorem ziu {s:Nat}:∀ {l:List (Nat × Nat)} {q:Nat × Nat},zeh st s l=some q->s∈l.map (·.1)
 | (x,k)::r,q,h=>by
  simp only [zeh] at h
  split at h
  ·rename_i e; subst e; simp
  ·obtain ⟨o',h1,_⟩:=mapS h
   exact List.mem_cons_of_mem _ (ziu h1)
theorem z3f {s g:Nat}:∀ {l:List (Nat × Nat)} {o k:Nat},zeh st s l=some (o,k)->k<=g->g<(st.site s).length->(catS st σ l)[o+(g - k)]?=some (((st.site s)[g]?.getD none).map (subO σ))
 | (x,k0)::r,o,k,h,hk,hg=>by
  simp only [zeh] at h
  simp only [catS]
  split at h
  ·rename_i e; subst e; cases h
   rw [Nat.zero_add,List.getElem?_append_left (by simp; omega),List.getElem?_map,List.getElem?_drop,show k0+(g - k0)=g by omega,List.getElem?_eq_getElem hg]; rfl
  ·obtain ⟨q,h1,h2⟩:=mapS h
   obtain ⟨o',k'⟩:=q
   simp only [Prod.mk.injEq] at h2
   obtain ⟨rfl,rfl⟩:=h2
   rw [List.getElem?_append_right (by simp; omega),List.length_map,List.length_drop,show (st.site x).length - k0+o'+(g - k') - ((st.site x).length - k0)=o'+(g - k') by omega]
   exact z3f h1 hk hg
theorem zw2 {g':Nat} {o':AObj}:∀ {l:List (Nat × Nat)},(l.map (·.1)).Nodup->(catS st σ l)[g']?=some (some o')->∃ s g o off k,zeh st s l=some (off,k)/\k<=g/\off+(g - k)=g'/\st.obj s g=some o/\o'=subO σ o
 | [],_,h=>by simp [catS] at h
 | (x,k)::r,hn,h=>by
  simp only [catS] at h
  by_cases hlt:g'<(st.site x).length - k
  ·rw [List.getElem?_append_left (by simpa using hlt),List.getElem?_map,List.getElem?_drop,List.getElem?_eq_getElem (show k+g'<(st.site x).length by omega)] at h
   simp only [Option.map_some,Option.some.injEq] at h
   obtain ⟨o,h1,rfl⟩:=mapS h
   exact ⟨x,k+g',o,0,k,by simp [zeh],by omega,by omega,by unfold St.obj; rw [List.getElem?_eq_getElem (show k+g'<(st.site x).length by omega),h1]; rfl,rfl⟩
  ·rw [List.getElem?_append_right (by simpa using Nat.not_lt.1 hlt),List.length_map,List.length_drop] at h
   rw [List.map_cons,List.nodup_cons] at hn
   obtain ⟨s,g,o,off,k1,h1,h2,h3,h4,h5⟩:=zw2 hn.2 h
   have hne:x≠s:=by rintro rfl; exact hn.1 (ziu h1)
   exact ⟨s,g,o,(st.site x).length - k+off,k1,by simp only [zeh,if_neg hne,h1]; rfl,h2,by omega,h4,h5⟩
theorem z00 {s g s2 g2:Nat}:∀ {l:List (Nat × Nat)} {o o2 k k2:Nat},zeh st s l=some (o,k)->zeh st s2 l=some (o2,k2)->k<=g->k2<=g2->g<(st.site s).length->g2<(st.site s2).length->o+(g - k)=o2+(g2 - k2)->s=s2/\g=g2
 | (x,k0)::r,o,o2,k,k2,h,h2,hk,hk2,hg,hg2,e=>by
  simp only [zeh] at h h2
  split at h
  ·rename_i e1; subst e1; cases h
   split at h2
   ·rename_i e2; subst e2; cases h2; exact ⟨rfl,by omega⟩
   ·obtain ⟨⟨o',k'⟩,h1,h3⟩:=mapS h2
    simp only [Prod.mk.injEq] at h3; obtain ⟨rfl,rfl⟩:=h3; omega
  ·obtain ⟨⟨o1,k1⟩,h1,h3⟩:=mapS h
   simp only [Prod.mk.injEq] at h3; obtain ⟨rfl,rfl⟩:=h3
   split at h2
   ·rename_i e2; subst e2; cases h2; omega
   ·obtain ⟨⟨o',k'⟩,h1',h3'⟩:=mapS h2
    simp only [Prod.mk.injEq] at h3'; obtain ⟨rfl,rfl⟩:=h3'
    exact z00 h1 h1' hk hk2 hg hg2 (by omega)
theorem zg1 {s s':Nat} {q:Nat × Nat}:∀ {plan:List (Nat × List (Nat × Nat))},zhn st s plan=some (s',q)->∃ l,(s',l)∈plan/\zeh st s l=some q
 | (s1,l)::r,h=>by
  simp only [zhn] at h
  split at h
  ·rename_i o1 h1; cases h; exact ⟨l,by simp,h1⟩
  ·obtain ⟨l',h1,h2⟩:=zg1 h
   exact ⟨l',List.mem_cons_of_mem _ h1,h2⟩
theorem zqf {s s':Nat} {q:Nat × Nat} {l:List (Nat × Nat)}:∀ {plan:List (Nat × List (Nat × Nat))},(plan.flatMap fun q=>q.2.map (·.1)).Nodup->(s',l)∈plan->zeh st s l=some q->zhn st s plan=some (s',q)
 | (s1,l1)::r,hn,hm,h=>by
  simp only [zhn]
  rw [List.flatMap_cons,List.nodup_append] at hn
  rcases List.mem_cons.1 hm with hm|hm
  ·cases hm; rw [h]
  ·cases h1:zeh st s l1 with
   | none=>exact zqf hn.2.1 hm h
   | some o1=>exact absurd rfl (hn.2.2 s (ziu h1) s (List.mem_flatMap.2 ⟨_,hm,ziu h⟩))
theorem zi1 {s':Nat} {l:List (Nat × Nat)}:∀ {plan:List (Nat × List (Nat × Nat))},(plan.map (·.1)).Nodup->(s',l)∈plan->look (hpP st σ plan) s' []=catS st σ l
 | (s1,l1)::r,hn,hm=>by
  rw [List.map_cons,List.nodup_cons] at hn
  simp only [hpP,look]
  rcases List.mem_cons.1 hm with hm|hm
  ·cases hm; rw [if_pos rfl]
  ·rw [if_neg]
   ·exact zi1 hn.2 hm
   ·rintro rfl; exact hn.1 (List.mem_map.2 ⟨_,hm,rfl⟩)
theorem zub {s':Nat}:∀ {plan:List (Nat × List (Nat × Nat))},s'∉plan.map (·.1)->look (hpP st σ plan) s' []=if DEAD=s' then [none] else []
 | [],_=>by simp [hpP,look]
 | (s1,l1)::r,h=>by
  simp only [List.map_cons,List.mem_cons,not_or] at h
  simp only [hpP,look]
  rw [if_neg (Ne.symm h.1)]; exact zub h.2
theorem z03 {s g:Nat}:(st.site s)[g]?.getD none=st.obj s g:=rfl
theorem z07 {α β : Type} {l:List (α × β)} (hn:(l.map (·.1)).Nodup) {x : α} {y y' : β} (h:(x,y)∈l) (h':(x,y')∈l):y=y':=by
 induction l with
 | nil=>cases h
 | cons q r ih =>
  rw [List.map_cons,List.nodup_cons] at hn
  rcases List.mem_cons.1 h with h|h<;>rcases List.mem_cons.1 h' with h'|h'
  ·rw [<- h] at h'; exact (congrArg Prod.snd h').symm
  ·exact absurd (List.mem_map.2 ⟨_,h',by rw [<- h]⟩) hn.1
  ·exact absurd (List.mem_map.2 ⟨_,h,by rw [<- h']⟩) hn.1
  ·exact ih hn.2 h h'
theorem z0o {keep:List Nat} {plan:List (Nat × List (Nat × Nat))} (h:zhs st.hp plan=true):SubOk st (st.plan keep plan) (sgP st plan)/\z0q st (sgP st plan):=by
 simp only [zhs,Bool.and_eq_true] at h
 obtain ⟨⟨h1,h2⟩,h3⟩:=h
 have n2:=zfw h2
 have n3:=zfw h3
 rw [List.nodup_cons] at n3
 have hD:=zub (st:=st) (σ := sgP st plan) n3.1
 rw [if_pos rfl] at hD
 have hdead:0<((st.plan keep plan).site DEAD).length/\(st.plan keep plan).obj DEAD 0=none :=
  ⟨by show 0<(look (hpP st (sgP st plan) plan) DEAD []).length; rw [hD]; simp,by show ((look (hpP st (sgP st plan) plan) DEAD [])[0]?).getD none=none; rw [hD]; rfl⟩
 have hfix:z0q st (sgP st plan):=fun s g a b hg=>by
  rcases zi0 (d:=([]:List (Option AObj))) (l:=st.hp) (s:=s) with h3|⟨q,hq,rfl,h3⟩
  ·rw [show st.site s=[] from h3] at hg; exact absurd hg (Nat.not_lt_zero _)
  ·have:=List.all_eq_true.1 h1 q hq
   simp only [Bool.or_eq_true,decide_eq_true_eq,List.any_eq_true,Bool.and_eq_true,beq_iff_eq] at this
   rcases this with (h4|h4)|⟨⟨p1,p2⟩,h4,h5,h6⟩
   ·omega
   ·omega
   ·simp only at h5
    subst h5
    have ho:zeh st q.1 p2=some (0,0):=by
     cases p2 with
     | nil=>cases h6
     | cons y r =>
      obtain ⟨x,k⟩:=y
      simp only [zet,Bool.and_eq_true,beq_iff_eq] at h6
      obtain ⟨rfl,rfl⟩:=h6
      simp only [zeh,if_true]
    unfold sgP
    rw [zqf n2 h4 ho]
    simp
 refine ⟨⟨fun s g o ho=>?_,fun s g hg ho=>?_,fun s g s' g' o o' ho ho' he hd=>?_,fun s' g' o' ho'=>?_,hdead⟩,hfix⟩
 ·have hg:=zbx ho
  unfold sgP
  cases hf:zhn st s plan with
  | none=>exact .inl rfl
  | some q =>
   obtain ⟨s',off,k⟩:=q
   by_cases hk:g<k
   ·left; simp only [hk,if_true]
   obtain ⟨l,m1,m2⟩:=zg1 hf
   right
   simp only [hk,if_false]
   show ((look (hpP st (sgP st plan) plan) s' [])[off+(g - k)]?).getD none=_
   rw [zi1 n3.2 m1,z3f m2 (by omega) hg,z03,ho]; rfl
 ·unfold sgP
  cases hf:zhn st s plan with
  | none=>exact hdead
  | some q =>
   obtain ⟨s',off,k⟩:=q
   by_cases hk:g<k
   ·simp only [hk,if_true]; exact hdead
   simp only [hk,if_false]
   obtain ⟨l,m1,m2⟩:=zg1 hf
   have hc:=z3f (σ := sgP st plan) m2 (show k<=g by omega) hg
   refine ⟨?_,?_⟩
   ·show off+(g - k)<(look (hpP st (sgP st plan) plan) s' []).length
    rw [zi1 n3.2 m1]
    exact (List.getElem?_eq_some_iff.1 hc).1
   ·show ((look (hpP st (sgP st plan) plan) s' [])[off+(g - k)]?).getD none=none
    rw [zi1 n3.2 m1,hc,z03,ho]; rfl
 ·have hg:=zbx ho
  have hg':=zbx ho'
  unfold sgP at he hd
  cases hf:zhn st s plan with
  | none=>rw [hf] at hd; exact absurd rfl hd
  | some q =>
   obtain ⟨s1,off,k⟩:=q
   rw [hf] at he hd
   by_cases hk:g<k
   ·simp only [hk,if_true] at hd; exact absurd rfl hd
   simp only [hk,if_false] at he hd
   obtain ⟨l,m1,m2⟩:=zg1 hf
   cases hf':zhn st s' plan with
   | none=>rw [hf'] at he; exact absurd he hd
   | some q' =>
    obtain ⟨s2,off',k'⟩:=q'
    rw [hf'] at he
    by_cases hk':g'<k'
    ·simp only [hk',if_true] at he; exact absurd he hd
    simp only [hk',if_false] at he
    obtain ⟨l',m1',m2'⟩:=zg1 hf'
    simp only [Prod.mk.injEq] at he
    obtain ⟨rfl,e⟩:=he
    obtain rfl:=z07 n3.2 m1 m1'
    exact z00 m2 m2' (by omega) (by omega) hg hg' e
 ·have ho2:((look (hpP st (sgP st plan) plan) s' [])[g']?).getD none=some o':=ho'
  by_cases hm:s'∈plan.map (·.1)
  ·obtain ⟨⟨s1,l⟩,hm2,rfl⟩:=List.mem_map.1 hm
   rw [zi1 n3.2 hm2] at ho2
   cases hx:(catS st (sgP st plan) l)[g']? with
   | none=>rw [hx] at ho2; cases ho2
   | some y =>
    rw [hx] at ho2
    simp only [Option.getD_some] at ho2
    subst ho2
    have nl:(l.map (·.1)).Nodup:=by
     have:List.Sublist (l.map (·.1)) (plan.flatMap fun q=>q.2.map (·.1)):=by
      obtain ⟨a,b,e⟩:=List.append_of_mem hm2
      rw [e,List.flatMap_append,List.flatMap_cons]
      exact (List.sublist_append_left (l.map (·.1)) _).trans (List.sublist_append_right _ _)
     exact this.nodup n2
    obtain ⟨s,g,o,off,k,k1,k2,k3,k4,k5⟩:=zw2 nl hx
    refine ⟨s,g,o,k4,?_,k5⟩
    unfold sgP
    rw [zqf n2 hm2 k1]
    simp only [show ¬ g<k by omega,if_false,k3]
  ·rw [zub hm] at ho2
   exfalso
   split at ho2
   ·cases g'<;>simp at ho2
   ·simp at ho2
theorem Weak.plan (keep:List Nat) (plan:List (Nat × List (Nat × Nat))) (h:zhs st.hp plan=true):Weak st (st.plan keep plan):=Weak.sub (z0o h).1 (z0o (keep:=keep) h).2 rfl
end
end Go.Ab
namespace Go.Ab
section
variable {P:Program} {K:Ctx} {Z Z':Cz} {st st':St} {w w':World} {a:Act}
theorem Weak.freezeObj {s g n:Nat} {o:AObj} {ps:List PV} (ho:st.obj s g=some o) (hp:o.es.mapM (toPV st n)=some ps) (hd:(s,g)∉o.es.flatMap (deps st n)):Weak st ((killAll st (o.es.flatMap (deps st n))).setObj s g ⟨o.sz,ps.map .p⟩):=by
 intro K Z w a hs
 generalize hids:o.es.flatMap (deps st n)=ids at hd
 have hM:∀ b o,Z.M b=some o->Mx Z st w ids b=some o:=fun b o hb=>Mx_M hb
 have hz:ZLe Z st { Z with M:=Mx Z st w ids } (killAll st ids):=(ZLe.killAll ids st).trans (ZLe.growM hM)
 have hh:HRep K { Z with M:=Mx Z st w ids } (killAll st ids) w:=by
  refine (HRep.killAll ids hs.heap).grow (Keep.refl w _) _ hM (fun b o hb=>?_) (fun b o hb=>?_) (fun s g o b ho hb=>?_)
  ·rcases zbu hb with h|⟨_,h,_⟩
   ·exact hs.heap.mem b o h
   ·exact h
  ·rcases zbu hb with h|⟨_,_,s,g,ob,_,e2,e3⟩
   ·exact .inl h
   ·exact .inr (hs.heap.own s g ob b e2 e3)
  ·obtain ⟨ho1,ho2⟩:=zc9 ids st ho
   cases hm:Mx Z st w ids b with
   | none=>rfl
   | some y =>
    exfalso
    rcases zbu hm with h|⟨_,_,s',g',ob,e1,e2,e3⟩
    ·rw [hs.heap.sep s g o b ho1 hb] at h; cases h
    ·obtain ⟨rfl,rfl⟩:=hs.heap.inj s g s' g' o ob b ho1 e2 hb e3
     exact ho2 e1
 have ho':=zht ids ho hd
 have hO:=hs.heap.objs s g o ho
 have hlen:=zf0 hp
 have hcl:∀ l:List PV,(l.map AV.p).flatMap AV.cells=(l.flatMap PV.cells).map .p:=fun l=>by
  induction l with
  | nil=>rfl
  | cons q l ih=>rw [List.map_cons,List.flatMap_cons,ih,List.flatMap_cons,List.map_append]; cases q<;>rfl
 have key:(∀ b,Z.B s g=some b->∃ (cur:Array Value) (T:TypeId) (vals:List Value),w.heap[b]?=some (.cells cur T (0,0))/\PReps (Mx Z st w ids) (ps.flatMap PV.cells) vals /\
   (∀ (i:Nat) (v:Value),vals[i]?=some v->cur[i]?=some v)/\cur.size=Z.cap s g*o.sz/\o.es.length<=Z.cap s g/\Z.cap s g<=maxLen)/\(∀ p∈ps,p.sz=o.sz)/\∀ c∈ps.flatMap PV.cells,c.one=true:=by
  cases hb:Z.B s g with
  | none =>
   have h0:=hO.non hb
   rw [h0] at hp
   have:=zb8 hp
   subst this
   exact ⟨fun b hb=>(by cases hb),by simp,by simp⟩
  | some b =>
   obtain ⟨cur,T,vals,k1,k2,k3,k4,k5,k6⟩:=hO.blk b hb
   obtain ⟨r1,r2,r3⟩:=zg0 (w:=w) (n:=n) (ids:=ids) hO.pos (zgk hs.heap ids n) k2 hp hO.els hO.one (fun i hi=>by rw [<- hids]; exact hi)
   exact ⟨fun b' hb'=>(by cases hb'; exact ⟨cur,T,vals,k1,r1,k3,k4,k5,k6⟩),r2,r3⟩
 obtain ⟨q1,q2,q3⟩:=key
 have hss:=hh.same2 ho' (es:=ps.map .p) (by rw [List.length_map,hlen]) (fun x hx=>?_) (fun c hc=>?_) (fun b hb=>?_)
 ·refine ⟨{ Z with M:=Mx Z st w ids },⟨fun u=>?_,hs.defers,hs.size,hss⟩,.of_zle (hz.trans (ZLe.setObj _ _ s g o ⟨o.sz,ps.map .p⟩ ho' rfl (by simp [hlen])))⟩
  rw [show ((killAll st ids).setObj s g ⟨o.sz,ps.map .p⟩).get u=st.get u from zkg (s:=(killAll st ids).setObj s g ⟨o.sz,ps.map .p⟩) (t:=st) (zb5 ids st) u]
  exact ARep.mono (hz.trans (ZLe.setObj _ _ s g o ⟨o.sz,ps.map .p⟩ ho' rfl (by simp [hlen]))) (hs.slots u)
 ·obtain ⟨p,hp',rfl⟩:=List.mem_map.1 hx
  exact q2 p hp'
 ·rw [hcl] at hc
  obtain ⟨p,hp',rfl⟩:=List.mem_map.1 hc
  exact q3 p hp'
 ·obtain ⟨cur,T,vals,e1,e2,e3,e4,e5,e6⟩:=q1 b hb
  refine ⟨cur,T,vals,e1,?_,e3,e4,e5,e6⟩
  rw [hcl]
  exact AReps.of_p e2
theorem Weak.freezeTo {s g n:Nat} {o:AObj} (ps:List PV) (ids:List (Nat × Nat)) (ho:st.obj s g=some o) (hp:o.es.mapM (toPV st n)=some ps) (hi:o.es.flatMap (deps st n)=ids) (hd:(s,g)∉ids):Weak st ((killAll st ids).setObj s g ⟨o.sz,ps.map .p⟩):=by
 subst hi; exact Weak.freezeObj ho hp hd
end
end Go.Ab
namespace Go.Ab
mutual
def ycx:AV->Bool
 | .p u=>u.nomp
 | .cp u _ _=>u.nomp
 | .agg cs=>zn7 cs
 | .fn _ cs=>zn7 cs
 | .tup cs=>zn7 cs
 | _=>true
def zn7:List AV->Bool
 | []=>true
 | v::r=>ycx v&&zn7 r
end
section
variable {P:Program} {K:Ctx} {Z Z':Cz} {st st' st1:St} {w w':World} {a:Act} {N:Nat} {A B:Option FA} {Post:Exit->St->Option FA->Prop} {PostI:St->Option FA->Prop} {ac:AC} {q:PinP} {m:MapD}
theorem MR.holds (h:∀ K Z st w,zeq A K Z st w->zeq B K Z st w) (k:MR P N ac st B Post):MR P N ac st A Post :=
 fun code hc K Z w a Q hN hs hA hQ=>k code hc K Z w a Q hN hs (h _ _ _ _ hA) hQ
mutual
theorem ARep.nomp {M':Nat->Option Obj} (hM:∀ b cur T fr,Z.M b=some (.cells cur T fr)->M' b=some (.cells cur T fr)):∀ {u:AV} {x:Value},ARep Z st u x->ycx u=true->ARep { Z with M:=M' } st u x
 | _,_,.p u x hp,h=>.p u x (PRep.nomp hM hp h)
 | _,_,.nil,_=>.nil
 | _,_,.own0 s g o ho hb,_=>.own0 s g o ho hb
 | _,_,.own s g off len o b ad c ho hb h1 h2 h3 h4,_=>.own s g off len o b ad c ho hb h1 h2 h3 h4
 | _,_,.ownD s g off len ad c hg hd,_=>.ownD s g off len ad c hg hd
 | _,_,.ptr s g ix off o b ho hb,_=>.ptr s g ix off o b ho hb
 | _,_,.ptrD s g ix off ad hg hd,_=>.ptrD s g ix off ad hg hd
 | _,_,.cp u vsz off b o cur T fr vals h0 h1 h2 h3 h4 h5,h=>.cp u vsz off b o cur T fr vals (hM _ _ _ _ h0) h1 h2 h3 (PReps.nomp hM h4 (zjq h)) h5
 | _,_,.agg cs vals h1 h2,h=>.agg cs vals h1 (AReps.nomp hM h2 h)
 | _,_,.fn f caps vals h1,h=>.fn f caps vals (AReps.nomp hM h1 h)
 | _,_,.tup vs vals h1,h=>.tup vs vals (AReps.nomp hM h1 h)
 | _,_,.skip,_=>.skip
 | _,_,.undef x,_=>.undef x
theorem AReps.nomp {M':Nat->Option Obj} (hM:∀ b cur T fr,Z.M b=some (.cells cur T fr)->M' b=some (.cells cur T fr)):∀ {u:List AV} {x:List Value},AReps Z st u x->zn7 u=true->AReps { Z with M:=M' } st u x
 | _,_,.nil,_=>.nil
 | _,_,.cons u x us xs h1 h2,h=>by
  simp only [zn7,Bool.and_eq_true] at h
  exact .cons _ _ _ _ (ARep.nomp hM h1 h.1) (AReps.nomp hM h2 h.2)
end
end
end Go.Ab
namespace Go.Ab
open Enc (enc)
def ctrV (v:GView) (s:Int) (c:AV):AV:=.agg [.p (.int .i64 v.a.ring.kind),.p (.sl (ens v.a.ring.parts)),.p (.int .i64 v.a.sy),.p (.int .i64 v.a.st),.p (.sl (ens v.a.ini)),.p (.sl (ens v.a.fin)),.p (.sl (ens v.a.arcs)),.p (.sl (ens v.first)),.p (.int .i64 s),c]
noncomputable def stA (A:GAuto):Nat->Int
 | 0 => -1
 | k+1=>if A.ini.getD k A.ring.zero≠A.ring.zero then (k:Int) else stA A k
theorem zth (A:GAuto):∀ k,-1<=stA A k/\stA A k<k
 | 0=>by simp [stA]
 | k+1=>by
  have:=zth A k
  simp only [stA]; split<;>omega
theorem z5j (a:GAuto) (n:Nat) (hn:n<=90) (hn1:3<=n) (h:a.sm n) (hl:a.arcs.length<=19) (ok:a.ok) (he:∀ x∈a.nf.arcs,x.l≠0) (hd:zqr a.nf.arcs) (hb:begC a.nf a.st.toNat<=1) :
  HSpG P F.bn [.p (enc a)] [] none (.bx 10 (ctrV (zax a.nf) (stA a.nf a.st.toNat) .nil) [.int .i64 0]) [] none:=by
 refine HSpG.of_mr c.bn (by simp) rfl rfl rfl (by simp [zgd,ctrV,hpOk,zb7,za5,AV.sz]) fun q=>MR.of_vm ?_
 have hv:a.vb=true:=GAuto.vb_iff.2 ok
 have hN:=z19 ok
 have i3:=ok.st2
 have hl2:a.nf.arcs.length<=19:=Nat.le_trans (zu9 a.ring a.arcs) hl
 have i5:a.st.toNat<=64:=by omega
 have hil:a.nf.ini.length=a.st.toNat:=by have:=(zr0 ok).il; have e:a.nf.st=a.st:=rfl; rw [e] at this; have:=ok.st1; omega
 have hism:∀ w∈a.nf.ini,w.sm 1048576:=fun w hw=>(h.ini w hw).mono (by omega)
 have hnew:=z75 a n hn hn1 h hl
 rw [hv] at hnew
 simp only [if_true] at hnew
 generalize a.nf=A at *
 generalize a.st.toNat=N at *
 have e0:=hN.st
 simp [g.bn,go_sem,zbr]
 refine zab hnew ?_
 simp [go_sem]
 refine zab (zys (zax A) (by show A.arcs.length<=_; omega)) ?_
 have hany:((zax A).a.arcs.any fun x=>decide (x.l=0))=false:=by
  rw [List.any_eq_false]; intro x hx; simpa using he x hx
 simp [go_sem,hany]
 refine zab (z6s A N hN hil hism (by omega) (by omega)) ?_
 simp [go_sem,hd,hb]
 have hva:(zax A).a=A:=rfl
 refine zai (S:=fun k:Nat=>mkSt [(4,.ptr 4 0 0 0),(6,.ptr 25 0 0 0),(28,.p (.int .i64 N)),(29,.p (.int .i64 k))] [(4,⟨8,[.p (enc (zax A))]⟩),(25,⟨10,[ctrV (zax A) (stA A k) .nil]⟩)]) (I:=fun k=>k<=N) (m:=fun k=>N - k) 0
  (Weak.to [4,6,28,29] [((4,0),4),((25,0),25)] (by simp [mkSt,go_sem,ctrV,stA,hva,e0])) (by omega) ?_
 rintro k hk R hn' hr' hx
 have e1:=i64s k (by omega)
 simp [g.pn,mkSt,go_sem,ctrV]
 refine ⟨fun hk2=>?_,fun hk2=>hx _ _ ?_⟩
 ·have hki:k<(zax A).a.ini.length:=by show k<A.ini.length; omega
  refine zab (zs5 (zax A) k hki hism) ?_
  have hz:A.ini.getD k A.ring.zero=A.ini[k]'(by omega):=by rw [List.getD_eq_getElem?_getD,List.getElem?_eq_getElem (by omega)]; rfl
  by_cases hb:A.ini[k]'(by omega)=A.ring.zero
  ·have hb':(zax A).a.ini[k]=(zax A).a.ring.zero:=hb
   have hs:stA A (k+1)=stA A k:=by simp only [stA,hz]; rw [if_neg (by simpa using hb)]
   simp [go_sem,hb',e1]
   exact hn' (k+1) _ (Weak.to [4,6,28,29] [((4,0),4),((25,0),25)] (by simp [mkSt,go_sem,ctrV,hs])) (by omega) (by omega)
  ·have hb':¬ (zax A).a.ini[k]=(zax A).a.ring.zero:=hb
   have hs:stA A (k+1)=(k:Int):=by simp only [stA,hz]; rw [if_pos (by simpa using hb)]
   simp [go_sem,hb',e1]
   exact hn' (k+1) _ (Weak.to [4,6,28,29] [((4,0),4),((25,0),25)] (by simp [mkSt,go_sem,ctrV,hs])) (by omega) (by omega)
 have hkN:k=N:=by omega
 subst hkN
 simp [go_sem]
 refine ⟨.inl rfl,_,Weak.refl _,_,rfl,⟨rfl,25,0,rfl,rfl,?_⟩,trivial⟩
 simp [go_sem,ctrV]
end Go.Ab
namespace Go.Ab
open Enc (enc)
attribute [local go_sem] zam Opd.slots
structure CtrOk (A:GAuto) (N:Nat):Prop where
 inN:A.inN N
 fs:FS A.arcs
 t:∀ x∈A.arcs,0<=x.t/\x.t<(N:Int)
 fl:A.fin.length=N
 fsm:∀ w∈A.fin,w.sm 1048576
 al:A.arcs.length<=2048
 N1:N<=64
noncomputable abbrev cnA (A:GAuto):Nat->Nat->Nat:=cn A.ring A.fin A.arcs
def rowG (N:Nat) (f:Nat->Nat):List GRat:=mp N fun q=>natR (f q)
theorem zd7 (N:Nat) (f:Nat->Nat):(rowG N f).length=N:=zdm _ _
theorem zpc {N i:Nat} (f:Nat->Nat) (h:i<(rowG N f).length):(rowG N f)[i]=natR (f i):=zl4 (fun q=>natR (f q)) h
noncomputable def zjk (A:GAuto) (N m:Nat):List (List GRat):=mp m fun n=>rowG N (cnA A n)
def rowC (N k:Nat):AV:=.own 900002 k 0 N
def outQ:Nat->AV
 | 0=>.nil
 | m+1=>.own 900001 m 0 (m+1)
def hisC (N:Nat):Nat->List (Option AObj)
 | 0=>[]
 | m+1=>List.replicate m none++[some ⟨1,mp (m+1) (rowC N)⟩]
def famQ (T:List (List GRat)):List (Option AObj):=T.map fun l=>some ⟨3,avs l⟩
noncomputable def hpC (A:GAuto) (s:Int) (N m:Nat):List Site:=[(900000,[some ⟨10,[ctrV (zax A) s (outQ m)]⟩]),(900001,hisC N m),(900002,famQ (zjk A N m))]
theorem zuc (N m:Nat):(hisC N (m+1))[m]?.getD none=some ⟨1,mp (m+1) (rowC N)⟩:=by
 simp [hisC]
theorem z2l (A:GAuto) (N:Nat) {m k:Nat} (h:k<m):(famQ (zjk A N m))[k]?.getD none=some ⟨3,avs (rowG N (cnA A k))⟩:=by
 simp [famQ,zjk,mp,h]
theorem zz2 (N:Nat):∀ l:List Nat,za5 [900000,900001,900002] (l.map (rowC N))=true
 | []=>rfl
 | x::l=>by simp only [List.map_cons,za5,rowC,zb7]; exact zz2 N l
theorem z7s (N m:Nat):∀ x∈hisC N m,zge [900000,900001,900002] x=true:=by
 intro x hx
 cases m with
 | zero=>cases hx
 | succ m =>
  rcases List.mem_append.1 hx with hx|hx
  ·rw [List.eq_of_mem_replicate hx]; rfl
  ·simp only [List.mem_singleton] at hx; subst hx; exact zz2 N _
theorem z2m (T:List (List GRat)):∀ x∈famQ T,zge [900000,900001,900002] x=true:=by
 intro x hx
 obtain ⟨l,_,rfl⟩:=List.mem_map.1 hx
 show za5 _ (avs l)=true
 simp [go_sem]
theorem zcb (m:Nat):zb7 [900000,900001,900002] (outQ m)=true:=by cases m<;>rfl
theorem zmm (A:GAuto) (s:Int) (N m:Nat):hpOk [900000,900001,900002] (hpC A s N m)=true:=by
 have h1:(hisC N m).all (zge [900000,900001,900002])=true:=List.all_eq_true.2 (z7s N m)
 have h2:(famQ (zjk A N m)).all (zge [900000,900001,900002])=true:=List.all_eq_true.2 (z2m _)
 simp [hpOk,hpC,h1,h2,zge,ctrV,zb7,za5,zcb]
theorem ycn (a m n:Nat) (h1:1<a) (h2:m<n):a^m<a^n:=Nat.pow_lt_pow_right h1 h2
theorem z80 (a m n:Nat) (h1:0<a) (h2:m<=n):a^m<=a^n:=Nat.pow_le_pow_right h1 h2
theorem zgc {x n:Nat} (h:x<=2048^n) (hn:n<=1000):(natR x).sm 1048576:=by
 refine zjr (Nat.lt_of_le_of_lt (Nat.le_trans h (Nat.pow_le_pow_left (by omega:2048<=4294967296) n)) ?_)
 exact ycn 4294967296 n 1048576 (by omega) (by omega)
noncomputable def rw1 (A:GAuto) (m p v q:Nat):Nat:=if q<p then cnA A m q else if q=p then v else 0
def zR3:AV:=.agg [.p (.bool false),.nil,.nil]
noncomputable def c1S (A:GAuto) (s:Int) (N m q n p v j:Nat):St :=
 ⟨[(0,.ptr 900000 0 0 0),(1,.p (.int .i64 q)),(2,.p (.int .i64 n)),(6,.ptr 6 0 0 0),(7,.own 24 0 0 N),(8,.p (.int .i64 p)),(26,.p (.int .i64 N)),(27,.p (.int .i64 p)),(54,.p (.sl (ens (zaj A.arcs p)))),(55,.p (.int .i64 (zaj A.arcs p).length)),(56,.p (.int .i64 j))],
  hpC A s N m++[(6,[some ⟨3,[zR3]⟩]),(24,[some ⟨3,avs (rowG N (rw1 A m p v))⟩]),(DEAD,[none])]⟩
noncomputable def sumJ (A:GAuto) (m p j:Nat):Nat:=(((zaj A.arcs p).take j).map fun x=>cnA A m x.t.toNat).sum
theorem zcu (A:GAuto) (m p:Nat) {j:Nat} (h:j<(zaj A.arcs p).length):sumJ A m p (j+1)=sumJ A m p j+cnA A m (zaj A.arcs p)[j].t.toNat:=by
 unfold sumJ
 rw [List.take_succ_eq_append_getElem h,List.map_append,List.sum_append]; simp
theorem zzf (A:GAuto) (h:A.arcs.length<=2048) (m p j:Nat):sumJ A m p j<=2048^(m+1):=by
 refine Nat.le_trans (zvc fun x _=>zur A.ring A.fin h m _) ?_
 rw [Nat.pow_succ,Nat.mul_comm]
 refine Nat.mul_le_mul_left _ ?_
 rw [List.length_take]
 exact Nat.le_trans (Nat.min_le_right _ _) (Nat.le_trans (List.length_filter_le _ _) h)
theorem zij (A:GAuto) (m p:Nat):sumJ A m p (zaj A.arcs p).length=cnA A (m+1) p:=by
 unfold sumJ; rw [List.take_length]; rfl
theorem zz1 (A:GAuto) (N m p v v':Nat):(avs (rowG N (rw1 A m p v))).set p (.p (enc (natR v')))=avs (rowG N (rw1 A m p v')):=by
 have hs:∀ (l:List GRat) (i:Nat) (x:GRat),(avs l).set i (.p (enc x))=avs (l.set i x):=fun l i x=>by simp [avs,ens,List.map_set]
 rw [hs]
 congr 1
 unfold rowG
 rw [z1f]
 apply zhg
 intro q _
 by_cases h:q=p
 ·subst h; simp [rw1]
 ·simp only [rw1]; rw [if_neg h,if_neg h,if_neg h]
theorem za6 (A:GAuto) (N m:Nat):(∀ x:Option AObj,x∈hisC N m->zge [900000,900001,900002] x=true)/\∀ x:Option AObj,x∈famQ (zjk A N m)->zge [900000,900001,900002] x=true:=⟨z7s N m,z2m _⟩
theorem yas {A:GAuto} {N:Nat} (hA:CtrOk A N) {s:Int} {m q n p:Nat} (hm:m<900) (hp:p<N) {Q:Exit->St->Prop} {ks:List Kt} {st:St} (hw:Weak st (c1S A s N (m+1) q n p 0 0)) (hx:zem P 106 Q (zbm 4 ks) 4 (c1S A s N (m+1) q n p (cnA A (m+1) p) (zaj A.arcs p).length)) :
  vL P 106 Q g.oy ks st:=by
 have i1:=hA.al
 have i2:(zaj A.arcs p).length<=2048:=Nat.le_trans (List.length_filter_le _ _) i1
 have i3:=hA.N1
 refine zai (S:=fun j:Nat=>c1S A s N (m+1) q n p (sumJ A m p j) j) (I:=fun j=>j<=(zaj A.arcs p).length) (m:=fun j=>(zaj A.arcs p).length - j) 0 hw (by omega) ?_
 rintro j hj R hn hr hx'
 have e1:=i64s j (by omega)
 have o1:=zuc N m
 have o2:=z2l A N (show m<m+1 by omega)
 simp [g.oy,c1S,hpC,zR3,ctrV,outQ,go_sem]
 refine ⟨fun hlt=>?_,fun hge=>?_⟩
 ·refine zae hlt ?_
  have hmem:(zaj A.arcs p)[j]∈A.arcs:=(List.mem_filter.1 (List.getElem_mem hlt)).1
  obtain ⟨t0,t1⟩:=hA.t _ hmem
  obtain ⟨tt,htt⟩:∃ tt:Nat,(zaj A.arcs p)[j].t=(tt:Int):=⟨(zaj A.arcs p)[j].t.toNat,by omega⟩
  have hsj:=zcu A m p hlt
  rw [htt,Int.toNat_natCast] at hsj
  have b1:=zzf A i1 m p j
  have b2:cnA A m tt<=2048^m:=zur A.ring A.fin i1 m tt
  have em:IntKind.i64.wrap (m:Int)=(m:Int):=i64w (by omega) (by omega)
  have hrow:p<(rowG N (rw1 A (m+1) p (sumJ A m p j))).length:=by rw [zd7]; exact hp
  have hrow2:tt<(rowG N (cnA A m)).length:=by rw [zd7]; omega
  have g1:(rowG N (rw1 A (m+1) p (sumJ A m p j)))[p]=natR (sumJ A m p j):=by rw [zpc]; simp [rw1]
  have g2:(rowG N (cnA A m))[tt]=natR (cnA A m tt):=zpc _ _
  have r1:(mp (m+1) (rowC N))[m]?=some (rowC N m):=by simp [mp]
  refine ⟨⟨hp,by rw [zd7]; omega⟩,zae hrow ?_⟩
  rw [g1]
  simp [go_sem,em,o1,zdm]
  refine ⟨by omega,?_⟩
  rw [zgf]
  refine ⟨_,r1,?_⟩
  simp [go_sem,rowC,o2,zd7,htt]
  refine ⟨by omega,zae hrow2 ?_⟩
  rw [g2]
  refine zab (zft (natR (sumJ A m p j)) (natR (cnA A m tt)) (zgc b1 (by omega)) (zgc b2 (by omega))) ?_
  rw [zk4]
  simp [go_sem,e1,zd7]
  refine ⟨hp,zae hrow ?_⟩
  have hset:=zz1 A N (m+1) p (sumJ A m p j) (sumJ A m p (j+1))
  rw [hsj] at hset
  rw [z2q] at hset
  refine hn (j+1) _ (Weak.toF [0,1,2,6,7,8,26,27,54,55,56] [900000,900001,900002] [((6,0),6),((24,0),24)] ?_) (by omega) (by omega)
  simp [go_sem,c1S,hpC,zR3,ctrV,outQ,hset,hsj]
  exact za6 A N (m+1)
 ·have:j=(zaj A.arcs p).length:=by omega
  subst this
  rw [zij]
  exact hx' _ _ (by simpa [c1S,hpC,zR3,ctrV,outQ,go_sem] using hx)
end Go.Ab
