/- Lemmas for the law AmbiguityOfDeterministic, part 30. No conditions. -/
import Derived.Test.YtcemegnnejaahaaGreatDoorAP29
set_option maxRecDepth 100000
set_option maxHeartbeats 4000000
set_option linter.all false
namespace Go.Ab
abbrev Sg:=Nat->Nat->Nat × Nat
mutual
def sub(σ : Sg):AV->AV
 | .own s g off len=>.own (σ s g).1 (σ s g).2 off len
 | .ptr s g ix off=>.ptr (σ s g).1 (σ s g).2 ix off
 | .agg cs=>.agg (subL σ cs)
 | .fn f cs=>.fn f (subL σ cs)
 | .tup cs=>.tup (subL σ cs)
 | .p v=>.p v
 | .nil=>.nil
 | .cp v vsz off=>.cp v vsz off
 | .skip=>.skip
 | .undef=>.undef
def subL(σ : Sg):List AV->List AV
 | []=>[]
 | v::r=>sub σ v::subL σ r
end
def subO(σ : Sg)(o:AObj):AObj:=⟨o.sz,subL σ o.es⟩
structure SubOk (st st':St) (σ : Sg):Prop where
 live:∀ s g o,st.obj s g=some o -> σ s g=(DEAD,0)\/st'.obj (σ s g).1 (σ s g).2=some (subO σ o)
 deadn:∀ s g,g<(st.site s).length->st.obj s g=none->(σ s g).2<(st'.site (σ s g).1).length/\st'.obj (σ s g).1 (σ s g).2=none
 inj:∀ s g s' g' o o',st.obj s g=some o->st.obj s' g'=some o' -> σ s g = σ s' g' -> σ s g≠(DEAD,0)->s=s'/\g=g'
 all:∀ s' g' o',st'.obj s' g'=some o'->∃ s g o,st.obj s g=some o /\ σ s g=(s',g')/\o'=subO σ o
 dead:0<(st'.site DEAD).length/\st'.obj DEAD 0=none
section
variable {P:Program} {K:Ctx} {Z Z':Cz} {st st':St} {w:World} {a:Act} {σ : Sg}
theorem zdj:∀ (l:List AV),subL σ l=l.map (sub σ)
 | []=>rfl
 | v::r=>by simp[subL,zdj r]
theorem yfx(v:AV):(sub σ v).sz=v.sz:=by cases v<;>simp[sub]<;>simp[zdj]
theorem z1a(v:AV):(sub σ v).one=v.one:=by cases v<;>simp[sub]<;>simp
theorem z1b(v:AV):(sub σ v).cells=v.cells.map (sub σ):=by
 cases v with
 | agg cs=>simp[sub,zdj]
 | p v=>?_
 | _=>rfl
 cases v<;>first|rfl|skip
 simp only[AV.cells,yp4];apply ync;intro x _;rfl
theorem zoc(es:List AV):(subL σ es).flatMap AV.cells=(es.flatMap AV.cells).map (sub σ):=by
 induction es with
 | nil=>rfl
 | cons e es ih=>simp only[subL,ymp,ynm,ih,z1b]
open Classical in
noncomputable def oldN(st:St)(σ : Sg)(s' g':Nat):Nat × Nat:=if h:∃ i:Nat × Nat,(∃ o,st.obj i.1 i.2=some o) /\ σ i.1 i.2=(s',g')then h.choose else(0,0)
theorem zjz(h:SubOk st st' σ){s g:Nat}{o:AObj}(ho:st.obj s g=some o)(hn : σ s g≠(DEAD,0)):oldN st σ (σ s g).1 (σ s g).2=(s,g):=by
 have hx:∃ i:Nat × Nat,(∃ o,st.obj i.1 i.2=some o) /\ σ i.1 i.2=((σ s g).1,(σ s g).2):=⟨(s,g),⟨o,ho⟩,rfl⟩;unfold oldN;rw[dif_pos hx];obtain⟨⟨o',h1⟩,h2⟩:=hx.choose_spec;have h3 : σ hx.choose.1 hx.choose.2 = σ s g:=h2;obtain⟨e1,e2⟩:=h.inj _ _ _ _ _ _ h1 ho h3 (by rw[h3];exact hn)
 grind
noncomputable def Cz.sub(Z:Cz)(st:St)(σ : Sg):Cz where
 M:=Z.M
 B s g:=Z.B (oldN st σ s g).1 (oldN st σ s g).2
 cap s g:=Z.cap (oldN st σ s g).1 (oldN st σ s g).2
mutual
theorem ARep.sub(h:SubOk st st' σ):∀ {v:AV} {x:Value},ARep Z st v x->ARep (Z.sub st σ) st' (Ab.sub σ v) x
 | _,_,.p v x hp=>.p v x hp
 | _,_,.nil=>.nil
 | _,_,.own0 s g o ho hb=>by
  simp only[Ab.sub];by_cases hd : σ s g=(DEAD,0)
  ·rw[hd];exact .ownD _ _ _ _ _ _ h.dead.1 h.dead.2
  ·exact .own0 _ _ _ ((h.live s g o ho).resolve_left hd) (by simp only[Cz.sub,zjz h ho hd,hb])
 | _,_,.own s g off len o b ad c ho hb h1 h2 h3 h4=>by
  simp only[Ab.sub];by_cases hd : σ s g=(DEAD,0)
  ·rw[hd];exact .ownD _ _ _ _ _ _ h.dead.1 h.dead.2
  ·exact .own _ _ _ _ _ b ad c ((h.live s g o ho).resolve_left hd) (by simp only[Cz.sub,zjz h ho hd,hb]) (by simp only[Cz.sub,zjz h ho hd];exact h1) h2 (by simpa[subO,zdj]using h3) h4
 | _,_,.ownD s g off len ad c hg hdd=>by
  simp only[Ab.sub];exact .ownD _ _ _ _ _ _ (h.deadn s g hg hdd).1 (h.deadn s g hg hdd).2
 | _,_,.ptr s g ix off o b ho hb=>by
  simp only[Ab.sub];by_cases hd : σ s g=(DEAD,0)
  ·rw[hd];exact .ptrD _ _ _ _ _ h.dead.1 h.dead.2
  ·exact .ptr _ _ ix off (subO σ o) b ((h.live s g o ho).resolve_left hd) (by simp only[Cz.sub,zjz h ho hd,hb])
 | _,_,.ptrD s g ix off ad hg hdd=>by
  simp only[Ab.sub];exact .ptrD _ _ _ _ _ (h.deadn s g hg hdd).1 (h.deadn s g hg hdd).2
 | _,_,.cp v vsz off b o cur T fr vals h0 h1 h2 h3 h4 h5=>.cp v vsz off b o cur T fr vals h0 h1 h2 h3 h4 h5
 | _,_,.agg cs vals h1 h2=>by
  simp only[Ab.sub];exact .agg _ vals (fun c hc=>by rw[zdj]at hc;obtain⟨d,hd,rfl⟩:=ym5.1 hc;rw[z1a];exact h1 d hd) (AReps.sub h h2)
 | _,_,.fn f cs vals h1=>by simp only[Ab.sub];exact .fn f _ vals (AReps.sub h h1)
 | _,_,.tup vs vals h1=>by simp only[Ab.sub];exact .tup _ vals (AReps.sub h h1)
 | _,_,.skip=>.skip
 | _,_,.undef x=>.undef x
theorem AReps.sub(h:SubOk st st' σ):∀ {v:List AV} {x:List Value},AReps Z st v x->AReps (Z.sub st σ) st' (subL σ v) x
 | _,_,.nil=>.nil
 | _,_,.cons v x vs xs h1 hs=>.cons _ _ _ _ (ARep.sub h h1) (AReps.sub h hs)
end
theorem HRep.sub(h:HRep K Z st w)(hr:SubOk st st' σ):HRep K (Z.sub st σ) st' w:=by
 have back:∀ {s' g':Nat} {o':AObj},st'.obj s' g'=some o'->∃ s g o,st.obj s g=some o/\o'=subO σ o /\ σ s g=(s',g')/\(Z.sub st σ).B s' g'=Z.B s g/\(Z.sub st σ).cap s' g'=Z.cap s g:=by
  intro s' g' o' ho;obtain⟨s,g,o,h1,h2,rfl⟩:=hr.all s' g' o' ho;have hd : σ s g≠(DEAD,0):=fun e=>by rw[h2]at e;cases e;rw[hr.dead.2]at ho;cases ho
  have:=zjz hr h1 hd;rw[h2]at this;exact⟨s,g,o,h1,rfl,h2,by simp only[Cz.sub,this],by simp only[Cz.sub,this]⟩
 refine⟨fun s' g' o' ho=>?_,fun s g s' g' o o' b ho ho' hb hb'=>?_,h.mem,fun s g o b ho hb=>?_,fun s g o b ho hb=>?_,h.m0,h.prov,h.keep⟩
 ·obtain⟨s,g,o0,h1,rfl,_,eB,eC⟩:=back ho;obtain⟨k1,k2,k3,k4,k5⟩:=h.objs s g o0 h1;refine⟨k1,fun e he=>?_,fun c hc=>?_,fun hb=>?_,fun b hb=>?_⟩
  ·simp only[subO,zdj,ym5]at he;obtain⟨e0,he0,rfl⟩:=he;rw[yfx];exact k2 e0 he0
  ·simp only[subO,zoc,ym5]at hc;obtain⟨c0,hc0,rfl⟩:=hc;rw[z1a];exact k3 c0 hc0
  ·rw[eB]at hb;simp[subO,k4 hb,subL]
  ·rw[eB]at hb;obtain⟨cur,T,vals,e1,e2,e3,e4,e5,e6⟩:=k5 b hb;refine⟨cur,T,vals,e1,?_,e3,by rw[eC];exact e4,by rw[eC];simpa[subO,zdj]using e5,by rw[eC];exact e6⟩;show AReps _ _ ((subL σ o0.es).flatMap AV.cells) vals;rw[zoc,<- zdj];exact AReps.sub hr e2
 ·obtain⟨t,k,o0,h1,_,q1,eB,_⟩:=back ho;obtain⟨t',k',o0',h1',_,q1',eB',_⟩:=back ho';rw[eB]at hb;rw[eB']at hb';obtain⟨e1,e2⟩:=h.inj _ _ _ _ _ _ b h1 h1' hb hb';subst e1;subst e2;rw[q1]at q1';exact⟨congrArg Prod.fst q1',congrArg Prod.snd q1'⟩
 ·obtain⟨t,k,o0,h1,_,_,eB,_⟩:=back ho;rw[eB]at hb;exact h.sep _ _ _ b h1 hb
 ·obtain⟨t,k,o0,h1,_,_,eB,_⟩:=back ho;rw[eB]at hb;exact h.own _ _ _ b h1 hb
def z2m(st:St)(σ : Sg):Prop:=∀ s g,PINB<=s->s<999999->g<(st.site s).length -> σ s g=(s,g)
theorem Weak.sub(h:SubOk st st' σ)(hp:z2m st σ){keep:List Nat}(hsl:st'.sl=keep.map fun t=>(t,Ab.sub σ (st.get t))):Weak st st':=by
 intro K Z w a hs;have hnd:∀ {s g:Nat},s<999999->(s,g)≠(DEAD,0):=fun h e=>by
  simp_all
 have hlt:∀ s g,PINB<=s->s<999999->g<(st.site s).length->g<(st'.site s).length:=fun s g a b hg=>by
  have e:=hp s g a b hg;cases ho:st.obj s g with
  | none=>have:=(h.deadn s g hg ho).1;rw[e]at this;exact this
  | some o =>
   rcases h.live s g o ho with h1|h1
   ·grind
   ·rw[e]at h1;exact zb1 h1
 refine⟨Z.sub st σ,⟨fun t=>?_,hs.defers,hs.size,hs.heap.sub h⟩,⟨fun s a b=>?_,fun s g a b hg ho=>?_,fun s g o a b ho=>?_⟩⟩;rotate_left
 ·grind
 ·have:=(h.deadn s g hg ho).2;rw[hp s g a b hg]at this;exact this
 ·have e:=hp s g a b (zb1 ho);rcases h.live s g o ho with h1|h1
  ·grind
  ·have e2:=zjz h ho (by rw[e];exact hnd b);rw[e]at h1 e2;exact .inr ⟨_,h1,rfl,by simp[subO,zdj],by simp[Cz.sub,e2],by simp[Cz.sub,e2]⟩
 have:st'.get t=look (keep.map fun t=>(t,Ab.sub σ (st.get t))) t .undef:=by rw[<- hsl];rfl
 rw[this];rcases zmx (fun t=>Ab.sub σ (st.get t)) t keep with h'|h'
 ·rw[h'];exact(hs.slots t).sub h
 ·rw[h'];exact .undef _
def zej(st:St)(s:Nat):List (Nat × Nat)->Option (Nat × Nat)
 | []=>none
 | (x,k)::r=>if x=s then some (0,k)else(zej st s r).map fun q=>((st.site x).length - k+q.1,q.2)
def zhw(st:St)(s:Nat):List (Nat × List (Nat × Nat))->Option (Nat × Nat × Nat)
 | []=>none
 | (s',l)::r=>match zej st s l with
  | some q=>some (s',q)
  | none=>zhw st s r
def sgP(st:St)(plan:List (Nat × List (Nat × Nat))):Sg:=fun s g=>match zhw st s plan with
 | some (s',o,k)=>if g<k then(DEAD,0)else(s',o+(g - k))
 | none=>(DEAD,0)
def catS(st:St)(σ : Sg):List (Nat × Nat)->List (Option AObj)
 | []=>[]
 | (x,k)::r=>((st.site x).drop k).map (Option.map (subO σ))++catS st σ r
def hpP(st:St)(σ : Sg):List (Nat × List (Nat × Nat))->List Site
 | []=>[(DEAD,[none])]
 | (s',l)::r=>(s',catS st σ l)::hpP st σ r
def St.plan(st:St)(keep:List Nat)(plan:List (Nat × List (Nat × Nat))):St:=⟨keep.map fun t=>(t,sub (sgP st plan) (st.get t)),hpP st (sgP st plan) plan⟩
def zes(s:Nat):List (Nat × Nat)->Bool
 | (x,k)::_=>x == s&&k == 0
 | []=>false
def zuq(hp:List Site)(plan:List (Nat × List (Nat × Nat))):Bool:=hp.all fun q=>decide (q.1<PINB)||decide (999999<=q.1)||plan.any fun p=>p.1 == q.1&&zes q.1 p.2
def zh3(hp:List Site)(plan:List (Nat × List (Nat × Nat))):Bool:=zuq hp plan&&zfl (plan.flatMap fun q=>q.2.map (·.1))&&zfl (DEAD::plan.map (·.1))
theorem zi1{s:Nat}:∀ {l:List (Nat × Nat)} {q:Nat × Nat},zej st s l=some q->s∈l.map (·.1)
 | (x,k)::r,q,h=>by
  simp[zej]at h;split at h
  ·grind
  ·obtain⟨o',h1,_⟩:=mapS h;exact ymr _ (zi1 h1)
theorem z5j{s g:Nat}:∀ {l:List (Nat × Nat)} {o k:Nat},zej st s l=some (o,k)->k<=g->g<(st.site s).length->(catS st σ l)[o+(g - k)]?=some (((st.site s)[g]?.getD none).map (subO σ))
 | (x,k0)::r,o,k,h,hk,hg=>by
  simp only[zej]at h;simp only[catS];split at h
  ·grind
  ·obtain⟨q,h1,h2⟩:=mapS h;obtain⟨o',k'⟩:=q;obtain⟨rfl,rfl⟩:=h2;rw[yoa (by simp;omega),yol,yow,show(st.site x).length - k0+o'+(g - k') - ((st.site x).length - k0)=o'+(g - k') by omega];exact z5j h1 hk hg
theorem zym{g':Nat}{o':AObj}:∀ {l:List (Nat × Nat)},(l.map (·.1)).Nodup->(catS st σ l)[g']?=some (some o')->∃ s g o off k,zej st s l=some (off,k)/\k<=g/\off+(g - k)=g'/\st.obj s g=some o/\o'=subO σ o
 | [],_,h=>by simp[catS]at h
 | (x,k)::r,hn,h=>by
  simp only[catS]at h;by_cases hlt:g'<(st.site x).length - k
  ·rw[List.getElem?_append_left (by simpa using hlt),List.getElem?_map,List.getElem?_drop,List.getElem?_eq_getElem (show k+g'<(st.site x).length by omega)]at h;simp only[Option.map_some,Option.some.injEq]at h;obtain⟨o,h1,rfl⟩:=mapS h;exact⟨x,k+g',o,0,k,by simp[zej],by omega,by omega,by unfold St.obj;rw[List.getElem?_eq_getElem (show k+g'<(st.site x).length by omega),h1];rfl,rfl⟩
  ·rw[List.getElem?_append_right (by simpa using Nat.not_lt.1 hlt),List.length_map,List.length_drop]at h;rw[List.map_cons,List.nodup_cons]at hn;obtain⟨s,g,o,off,k1,h1,h2,h3,h4,h5⟩:=zym hn.2 h;have hne:x≠s:=by rintro rfl;exact hn.1 (zi1 h1)
   exact⟨s,g,o,(st.site x).length - k+off,k1,by simp only[zej,yl9 hne,h1];rfl,h2,by omega,h4,h5⟩
theorem z2x{s g s2 g2:Nat}:∀ {l:List (Nat × Nat)} {o o2 k k2:Nat},zej st s l=some (o,k)->zej st s2 l=some (o2,k2)->k<=g->k2<=g2->g<(st.site s).length->g2<(st.site s2).length->o+(g - k)=o2+(g2 - k2)->s=s2/\g=g2
 | (x,k0)::r,o,o2,k,k2,h,h2,hk,hk2,hg,hg2,e=>by
  simp only[zej]at h h2;split at h
  ·rename_i e1;subst e1;cases h;split at h2
   ·grind
   ·obtain⟨⟨o',k'⟩,h1,h3⟩:=mapS h2
    grind
  ·obtain⟨⟨o1,k1⟩,h1,h3⟩:=mapS h;simp only[ym4]at h3;obtain⟨rfl,rfl⟩:=h3;split at h2
   ·grind
   ·obtain⟨⟨o',k'⟩,h1',h3'⟩:=mapS h2;simp only[ym4]at h3';obtain⟨rfl,rfl⟩:=h3';exact z2x h1 h1' hk hk2 hg hg2 (by omega)
theorem zhb{s s':Nat}{q:Nat × Nat}:∀ {plan:List (Nat × List (Nat × Nat))},zhw st s plan=some (s',q)->∃ l,(s',l)∈plan/\zej st s l=some q
 | (s1,l)::r,h=>by
  simp[zhw]at h;split at h
  ·grind
  ·obtain⟨l',h1,h2⟩:=zhb h
   grind
theorem zq6{s s':Nat}{q:Nat × Nat}{l:List (Nat × Nat)}:∀ {plan:List (Nat × List (Nat × Nat))},(plan.flatMap fun q=>q.2.map (·.1)).Nodup->(s',l)∈plan->zej st s l=some q->zhw st s plan=some (s',q)
 | (s1,l1)::r,hn,hm,h=>by
  simp[zhw];rw[ymp,yqm]at hn;rcases ym3.1 hm with hm|hm
  ·grind
  ·cases h1:zej st s l1 with
   | none=>exact zq6 hn.2.1 hm h
   | some o1=>exact absurd rfl (hn.2.2 s (zi1 h1) s (ymt.2 ⟨_,hm,zi1 h⟩))
theorem zi7{s':Nat}{l:List (Nat × Nat)}:∀ {plan:List (Nat × List (Nat × Nat))},(plan.map (·.1)).Nodup->(s',l)∈plan->look (hpP st σ plan) s' []=catS st σ l
 | (s1,l1)::r,hn,hm=>by
  rw[ymi,ynq]at hn;simp[hpP];rcases ym3.1 hm with hm|hm
  ·grind
  ·rw[yl9]
   ·exact zi7 hn.2 hm
   ·grind
theorem zu6{s':Nat}:∀ {plan:List (Nat × List (Nat × Nat))},s'∉plan.map (·.1)->look (hpP st σ plan) s' []=if DEAD=s' then[none]else[]
 | [],_=>rfl
 | (s1,l1)::r,h=>by simp only[ymi,ym3,not_or]at h;simp[hpP];rw[yl9 (ynr h.1)];exact zu6 h.2
theorem z20{s g:Nat}:(st.site s)[g]?.getD none=st.obj s g:=rfl
theorem z27{α β : Type}{l:List (α × β)}(hn:(l.map (·.1)).Nodup){x : α}{y y' : β}(h:(x,y)∈l)(h':(x,y')∈l):y=y':=by
 induction l with
 | nil=>cases h
 | cons q r ih =>
  rw[ymi]at hn;rcases ym3.1 h with h|h<;>rcases ym3.1 h' with h'|h'
  ·grind
  ·grind
  ·grind
  ·grind
theorem z2l{keep:List Nat}{plan:List (Nat × List (Nat × Nat))}(h:zh3 st.hp plan=true):SubOk st (st.plan keep plan) (sgP st plan)/\z2m st (sgP st plan):=by
 simp only[zh3,ymd]at h;obtain⟨⟨h1,h2⟩,h3⟩:=h;have n2:=zf1 h2;have n3:=zf1 h3;rw[ynq]at n3;have hD:=zu6 (st:=st) (σ := sgP st plan) n3.1
 have hdead:0<((st.plan keep plan).site DEAD).length/\(st.plan keep plan).obj DEAD 0=none :=
  ⟨by show 0<(look (hpP st (sgP st plan) plan) DEAD []).length;rw[hD];simp,by show((look (hpP st (sgP st plan) plan) DEAD [])[0]?).getD none=none;rw[hD];rfl⟩
 have hfix:z2m st (sgP st plan):=fun s g a b hg=>by
  rcases zi6 (d:=([]:List (Option AObj))) (l:=st.hp) (s:=s)with h3|⟨q,hq,rfl,h3⟩
  ·simp_all
  ·have:=ymn.1 h1 q hq;simp only[yp5,decide_eq_true_eq,yp2,ymd,beq_iff_eq]at this;rcases this with(h4|h4)|⟨⟨p1,p2⟩,h4,h5,h6⟩
   ·omega
   ·omega
   ·simp only at h5;subst h5;have ho:zej st q.1 p2=some (0,0):=by
     cases p2 with
     | nil=>cases h6
     | cons y r =>
      obtain⟨x,k⟩:=y;simp only[zes,ymd,beq_iff_eq]at h6;obtain⟨rfl,rfl⟩:=h6;simp only[zej,ym2]
    unfold sgP;rw[zq6 n2 h4 ho];simp
 refine⟨⟨fun s g o ho=>?_,fun s g hg ho=>?_,fun s g s' g' o o' ho ho' he hd=>?_,fun s' g' o' ho'=>?_,hdead⟩,hfix⟩
 ·have hg:=zb1 ho;unfold sgP;cases hf:zhw st s plan with
  | none=>exact .inl rfl
  | some q =>
   obtain⟨s',off,k⟩:=q;by_cases hk:g<k
   ·left;simp only[hk,ym2]
   obtain⟨l,m1,m2⟩:=zhb hf;right;simp only[hk,ymb];show((look (hpP st (sgP st plan) plan) s' [])[off+(g - k)]?).getD none=_;rw[zi7 n3.2 m1,z5j m2 (by omega) hg,z20,ho];rfl
 ·unfold sgP;cases hf:zhw st s plan with
  | none=>exact hdead
  | some q =>
   obtain⟨s',off,k⟩:=q;by_cases hk:g<k
   ·simp only[hk,ym2];exact hdead
   simp only[hk,ymb];obtain⟨l,m1,m2⟩:=zhb hf;have hc:=z5j (σ := sgP st plan) m2 (show k<=g by omega) hg;refine⟨?_,?_⟩
   ·show off+(g - k)<(look (hpP st (sgP st plan) plan) s' []).length;rw[zi7 n3.2 m1];exact(yo8.1 hc).1
   ·show((look (hpP st (sgP st plan) plan) s' [])[off+(g - k)]?).getD none=none;rw[zi7 n3.2 m1,hc,z20,ho];rfl
 ·have hg:=zb1 ho;have hg':=zb1 ho';unfold sgP at he hd;cases hf:zhw st s plan with
  | none=>rw[hf]at hd;exact absurd rfl hd
  | some q =>
   obtain⟨s1,off,k⟩:=q;rw[hf]at he hd;by_cases hk:g<k
   ·simp only[hk,ym2]at hd;exact absurd rfl hd
   simp only[hk,ymb]at he hd;obtain⟨l,m1,m2⟩:=zhb hf;cases hf':zhw st s' plan with
   | none=>rw[hf']at he;exact absurd he hd
   | some q' =>
    obtain⟨s2,off',k'⟩:=q';rw[hf']at he;by_cases hk':g'<k'
    ·simp only[hk',ym2]at he;exact absurd he hd
    simp only[hk',ymb]at he;obtain⟨l',m1',m2'⟩:=zhb hf';simp only[ym4]at he;obtain⟨rfl,e⟩:=he;obtain rfl:=z27 n3.2 m1 m1';exact z2x m2 m2' (by omega) (by omega) hg hg' e
 ·have ho2:((look (hpP st (sgP st plan) plan) s' [])[g']?).getD none=some o':=ho';by_cases hm:s'∈plan.map (·.1)
  ·obtain⟨⟨s1,l⟩,hm2,rfl⟩:=ym5.1 hm;rw[zi7 n3.2 hm2]at ho2;cases hx:(catS st (sgP st plan) l)[g']? with
   | none=>rw[hx]at ho2;cases ho2
   | some y =>
    rw[hx]at ho2;simp only[ynj]at ho2;subst ho2;have nl:(l.map (·.1)).Nodup:=by
     have:List.Sublist (l.map (·.1)) (plan.flatMap fun q=>q.2.map (·.1)):=by obtain⟨a,b,e⟩:=yql hm2;rw[e,yom,ymp];exact(List.sublist_append_left (l.map (·.1)) _).trans (List.sublist_append_right _ _)
     exact this.nodup n2
    obtain⟨s,g,o,off,k,k1,k2,k3,k4,k5⟩:=zym nl hx;refine⟨s,g,o,k4,?_,k5⟩;unfold sgP;rw[zq6 n2 hm2 k1];simp only[show ¬ g<k by omega,ymb,k3]
  ·rw[zu6 hm]at ho2;exfalso;split at ho2
   ·cases g'<;>simp at ho2
   ·simp at ho2
theorem Weak.plan(keep:List Nat)(plan:List (Nat × List (Nat × Nat)))(h:zh3 st.hp plan=true):Weak st (st.plan keep plan):=Weak.sub (z2l h).1 (z2l (keep:=keep) h).2 rfl
end
end Go.Ab
namespace Go.Ab
section
variable {P:Program} {K:Ctx} {Z Z':Cz} {st st':St} {w w':World} {a:Act}
theorem Weak.freezeObj{s g n:Nat}{o:AObj}{ps:List PV}(ho:st.obj s g=some o)(hp:o.es.mapM (toPV st n)=some ps)(hd:(s,g)∉o.es.flatMap (deps st n)):Weak st ((killAll st (o.es.flatMap (deps st n))).setObj s g ⟨o.sz,ps.map .p⟩):=by
 intro K Z w a hs;generalize hids:o.es.flatMap (deps st n)=ids at hd;have hM:∀ b o,Z.M b=some o->Mx Z st w ids b=some o:=fun b o hb=>Mx_M hb;have hz:ZLe Z st { Z with M:=Mx Z st w ids } (killAll st ids):=(ZLe.killAll ids st).trans (ZLe.growM hM);have hh:HRep K { Z with M:=Mx Z st w ids } (killAll st ids) w:=by
  refine(HRep.killAll ids hs.heap).grow (Keep.refl w _) _ hM (fun b o hb=>?_) (fun b o hb=>?_) (fun s g o b ho hb=>?_)
  ·rcases zbz hb with h|⟨_,h,_⟩
   ·exact hs.heap.mem b o h
   ·exact h
  ·rcases zbz hb with h|⟨_,_,s,g,ob,_,e2,e3⟩
   ·exact .inl h
   ·exact .inr (hs.heap.own s g ob b e2 e3)
  ·obtain⟨ho1,ho2⟩:=zdg ids st ho;cases hm:Mx Z st w ids b with
   | none=>rfl
   | some y =>
    exfalso;rcases zbz hm with h|⟨_,_,s',g',ob,e1,e2,e3⟩
    ·rw[hs.heap.sep s g o b ho1 hb]at h;cases h
    ·obtain⟨rfl,rfl⟩:=hs.heap.inj s g s' g' o ob b ho1 e2 hb e3;exact ho2 e1
 have ho':=zh4 ids ho hd;have hO:=hs.heap.objs s g o ho;have hlen:=zf5 hp;have hcl:∀ l:List PV,(l.map AV.p).flatMap AV.cells=(l.flatMap PV.cells).map .p:=fun l=>by
  induction l with
  | nil=>rfl
  | cons q l ih=>rw[ymi,ymp,ih,ymp,ynm];cases q<;>rfl
 have key:(∀ b,Z.B s g=some b->∃ (cur:Array Value) (T:TypeId) (vals:List Value),w.heap[b]?=some (.cells cur T (0,0))/\PReps (Mx Z st w ids) (ps.flatMap PV.cells) vals /\
   (∀ (i:Nat) (v:Value),vals[i]?=some v->cur[i]?=some v)/\cur.size=Z.cap s g*o.sz/\o.es.length<=Z.cap s g/\Z.cap s g<=maxLen)/\(∀ p∈ps,p.sz=o.sz)/\∀ c∈ps.flatMap PV.cells,c.one=true:=by
  cases hb:Z.B s g with
  | none =>
   have h0:=hO.non hb;rw[h0]at hp;have:=zca hp;subst this;exact⟨fun b hb=>(by cases hb),by simp,by simp⟩
  | some b =>
   obtain⟨cur,T,vals,k1,k2,k3,k4,k5,k6⟩:=hO.blk b hb;obtain⟨r1,r2,r3⟩:=zg8 (w:=w) (n:=n) (ids:=ids) hO.pos (zgq hs.heap ids n) k2 hp hO.els hO.one (fun i hi=>by rw[<- hids];exact hi);exact⟨fun b' hb'=>(by cases hb';exact⟨cur,T,vals,k1,r1,k3,k4,k5,k6⟩),r2,r3⟩
 obtain⟨q1,q2,q3⟩:=key;have hss:=hh.same2 ho' (es:=ps.map .p) (by rw[yol,hlen]) (fun x hx=>?_) (fun c hc=>?_) (fun b hb=>?_)
 ·refine⟨{ Z with M:=Mx Z st w ids },⟨fun u=>?_,hs.defers,hs.size,hss⟩,.of_zle (hz.trans (ZLe.setObj _ _ s g o ⟨o.sz,ps.map .p⟩ ho' rfl (by simp[hlen])))⟩;rw[show((killAll st ids).setObj s g ⟨o.sz,ps.map .p⟩).get u=st.get u from zkr (s:=(killAll st ids).setObj s g ⟨o.sz,ps.map .p⟩) (t:=st) (zbh ids st) u];exact ARep.mono (hz.trans (ZLe.setObj _ _ s g o ⟨o.sz,ps.map .p⟩ ho' rfl (by simp[hlen]))) (hs.slots u)
 ·obtain⟨p,hp',rfl⟩:=ym5.1 hx;exact q2 p hp'
 ·rw[hcl]at hc;obtain⟨p,hp',rfl⟩:=ym5.1 hc;exact q3 p hp'
 ·obtain⟨cur,T,vals,e1,e2,e3,e4,e5,e6⟩:=q1 b hb;refine⟨cur,T,vals,e1,?_,e3,e4,e5,e6⟩;rw[hcl];exact AReps.of_p e2
theorem Weak.freezeTo{s g n:Nat}{o:AObj}(ps:List PV)(ids:List (Nat × Nat))(ho:st.obj s g=some o)(hp:o.es.mapM (toPV st n)=some ps)(hi:o.es.flatMap (deps st n)=ids)(hd:(s,g)∉ids):Weak st ((killAll st ids).setObj s g ⟨o.sz,ps.map .p⟩):=by subst hi;exact Weak.freezeObj ho hp hd
end
mutual
def ygl:AV->Bool
 | .p u=>u.nomp
 | .cp u _ _=>u.nomp
 | .agg cs=>zou cs
 | .fn _ cs=>zou cs
 | .tup cs=>zou cs
 | _=>true
def zou:List AV->Bool
 | []=>true
 | v::r=>ygl v&&zou r
end
section
variable {P:Program} {K:Ctx} {Z Z':Cz} {st st' st1:St} {w w':World} {a:Act} {N:Nat} {A B:Option FA} {Post:Exit->St->Option FA->Prop} {PostI:St->Option FA->Prop} {ac:AC} {q:PinP} {m:MapD}
theorem MR.holds(h:∀ K Z st w,zem A K Z st w->zem B K Z st w)(k:MR P N ac st B Post):MR P N ac st A Post :=
 fun code hc K Z w a Q hN hs hA hQ=>k code hc K Z w a Q hN hs (h _ _ _ _ hA) hQ
mutual
theorem ARep.nomp{M':Nat->Option Obj}(hM:∀ b cur T fr,Z.M b=some (.cells cur T fr)->M' b=some (.cells cur T fr)):∀ {u:AV} {x:Value},ARep Z st u x->ygl u=true->ARep { Z with M:=M' } st u x
 | _,_,.p u x hp,h=>.p u x (PRep.nomp hM hp h)
 | _,_,.nil,_=>.nil
 | _,_,.own0 s g o ho hb,_=>.own0 s g o ho hb
 | _,_,.own s g off len o b ad c ho hb h1 h2 h3 h4,_=>.own s g off len o b ad c ho hb h1 h2 h3 h4
 | _,_,.ownD s g off len ad c hg hd,_=>.ownD s g off len ad c hg hd
 | _,_,.ptr s g ix off o b ho hb,_=>.ptr s g ix off o b ho hb
 | _,_,.ptrD s g ix off ad hg hd,_=>.ptrD s g ix off ad hg hd
 | _,_,.cp u vsz off b o cur T fr vals h0 h1 h2 h3 h4 h5,h=>.cp u vsz off b o cur T fr vals (hM _ _ _ _ h0) h1 h2 h3 (PReps.nomp hM h4 (zj0 h)) h5
 | _,_,.agg cs vals h1 h2,h=>.agg cs vals h1 (AReps.nomp hM h2 h)
 | _,_,.fn f caps vals h1,h=>.fn f caps vals (AReps.nomp hM h1 h)
 | _,_,.tup vs vals h1,h=>.tup vs vals (AReps.nomp hM h1 h)
 | _,_,.skip,_=>.skip
 | _,_,.undef x,_=>.undef x
theorem AReps.nomp{M':Nat->Option Obj}(hM:∀ b cur T fr,Z.M b=some (.cells cur T fr)->M' b=some (.cells cur T fr)):∀ {u:List AV} {x:List Value},AReps Z st u x->zou u=true->AReps { Z with M:=M' } st u x
 | _,_,.nil,_=>.nil
 | _,_,.cons u x us xs h1 h2,h=>by simp only[zou,ymd]at h;exact .cons _ _ _ _ (ARep.nomp hM h1 h.1) (AReps.nomp hM h2 h.2)
end
end
end Go.Ab
namespace Go.Ab
open Enc (enc)
noncomputable def stA(A:GAuto):Nat->Int
 | 0 => -1
 | k+1=>if A.ini.getD k A.ring.zero≠A.ring.zero then(k:Int)else stA A k
end Go.Ab
namespace Go.Ab
open Enc (enc)
attribute [local simp] zaj Opd.slots
structure CtrOk (A:GAuto) (N:Nat):Prop where
 inN:A.inN N
 fs:FS A.arcs
 t:∀ x∈A.arcs,0<=x.t/\x.t<(N:Int)
 fl:A.fin.length=N
 fsm:∀ w∈A.fin,w.sm 1048576
 al:A.arcs.length<=2048
 N1:N<=64
noncomputable abbrev cnA(A:GAuto):Nat->Nat->Nat:=cn A.ring A.fin A.arcs
def rowG(N:Nat)(f:Nat->Nat):List GRat:=mp N fun q=>natR (f q)
theorem zeb(N:Nat)(f:Nat->Nat):(rowG N f).length=N:=zbr _ _
theorem zp4{N i:Nat}(f:Nat->Nat)(h:i<(rowG N f).length):(rowG N f)[i]=natR (f i):=zdv (fun q=>natR (f q)) h
theorem ykg(a m n:Nat)(h1:1<a)(h2:m<n):a^m<a^n:=yr9 h1 h2
theorem ygc(a m n:Nat)(h1:0<a)(h2:m<=n):a^m<=a^n:=yn4 h1 h2
theorem zyn{x n:Nat}(h:x<=2048^n)(hn:n<=1000):(natR x).sm 1048576:=by refine zut (ynw (ym6 h (Nat.pow_le_pow_left (by omega:2048<=4294967296) n)) ?_);exact ykg 4294967296 n 1048576 (by omega) (by omega)
def zR3:AV:=.agg [.p (.bool false),.nil,.nil]
theorem ygp:Sp P F.ct [.int .i64 1,.int .i64 1] (.pure (.tup [enc (natR 1),.int .i64 0])):=by
 have h:=zwo 1 1 (by omega) (by omega);have e:rto (Rat.divInt 1 1)=natR 1:=by rw[<- zp3];congr 1
 simp only[show ¬ ((1:Int)=0) by omega,ymb,e]at h;exact h
theorem zjv{st st':St}(keep:List Nat)(plan:List (Nat × List (Nat × Nat)))(h:zh3 st.hp plan=true)(f:Sg->Prop)(hf:f (sgP st plan))(he:∀ σ,f σ -> (⟨keep.map fun t=>(t,Go.Ab.sub σ (st.get t)),hpP st σ plan⟩:St)=st'):Weak st st':=by have e:st.plan keep plan=st':=he _ hf;exact e ▸ Weak.plan keep plan h
theorem ybr(σ : Sg)(l:List PV):subL σ (l.map .p)=l.map .p:=by rw[zdj,yp4];rfl
theorem zia(σ : Sg){α : Type}[Enc α](l:List α):subL σ (avs l)=avs l:=ybr σ (ens l)
theorem z3i{α : Type}(n:Nat)(f:Nat -> α):mp (n+1) f=mp n f++[f n]:=by simp[mp,yqy]
end Go.Ab
namespace Go.Ab
open Go.Proofs
end Go.Ab
namespace Go.Ab
open Enc (enc)
attribute [local simp] zaj Opd.slots
theorem z3n{f:Nat->Nat}(h:∀ n,f n<=f (n+1)){a b:Nat}(hab:a<=b):f a<=f b:=by
 induction b with
 | zero =>
  have:a=0:=by omega
  subst this;exact ym9 _
 | succ b ih =>
  by_cases hb:a=b+1
  ·subst hb;exact ym9 _
  ·exact ym6 (ih (by omega)) (h b)
def fstU(f:Nat->Nat)(k n:Nat):Nat:=(List.range n).findIdx fun j=>decide (k<f (j+1))
theorem z4k{f:Nat->Nat}(h:∀ n,f n<=f (n+1)){k n j:Nat}(hj:j<n)(h1:f j<=k)(h2:k<f (j+1)):fstU f k n=j:=by unfold fstU;rw[List.findIdx_eq (by simpa using hj)];simp only[List.getElem_range,decide_eq_true_eq,decide_eq_false_iff_not];refine⟨h2,fun i hi=>?_⟩;have:=z3n h (show i+1<=j by omega);omega
structure DetA (a:GAuto) (n:Nat):Prop where
 hn:n<=90
 hn1:3<=n
 sm:a.sm n
 al:a.arcs.length<=19
 ok:a.ok
 eps:∀ x∈a.nf.arcs,x.l≠0
 adj:ylm a.nf.arcs
 beg:begC a.nf a.st.toNat<=1
theorem ykl{x y:GArc}(h:x.key<y.key):x.f<=y.f:=by unfold GArc.key at h;rw[yrc]at h;omega
noncomputable abbrev stN(a:GAuto):Int:=stA a.nf a.st.toNat
theorem z0d(w:List Int)(m:Int)(hl:w.length<=9223372036854775807):Sp P F.kb [.sl (ens w),.int .i64 m] (.pure (.bool (decide ((1<=m/\m<=32)/\w.length<=256/\∀ x∈w,1<=x/\x<=m)))):=by
 refine Sp.vz c.kb fun _=>?_;simp[g.kb]
 refine zag (S:=fun k:Nat=>mkSt [(0,.p (.sl (ens w))),(1,.p (.int .i64 m)),(7,.p (.sl (ens w))),(8,.p (.int .i64 w.length)),(9,.p (.int .i64 k))] []) (I:=fun k=>k<=w.length/\∀ i,(h:i<w.length)->i<k->1<=w[i]/\w[i]<=m) (m:=fun k=>w.length - k) 0
  (Weak.to [0,1,7,8,9] [] (by simp)) ⟨by omega,fun i _ h=>by omega⟩ ?_
 rintro k ⟨h1,h2⟩ R hn hr hx;simp[g.sr,mkSt];refine⟨fun hk=>zae hk ?_,fun hk=>hx _ _ ?_⟩
 ·have e1:=i64s k;have hf:∀ h:w[k]<1\/m<w[k],¬ ∀ x∈w,1<=x/\x<=m:=fun h hh=>by have:=hh w[k] (ym7 hk);omega
  refine⟨fun h=>hr _ (by simp[hf (.inl h)]),fun h=>⟨fun h'=>hr _ (by simp[hf (.inr h')]),fun h'=>hn (k+1) _ (Weak.to [0,1,7,8,9] [] (by simp[e1])) ⟨by omega,fun i hi hik=>?_⟩ (by omega)⟩⟩;by_cases e:i=k
  ·subst e;exact⟨h,h'⟩
  ·exact h2 i hi (by omega)
 ·have hk':k=w.length:=by omega
  have ha:∀ x∈w,1<=x/\x<=m:=fun x hx=>by obtain⟨i,hi,rfl⟩:=yor.1 hx;exact h2 i hi (by omega)
  have hd:decide (∀ x∈w,1<=x/\x<=m)=true:=decide_eq_true ha;simp[hd];refine⟨fun h1=>⟨fun h2=>by simp[h1,h2];omega,fun h2 _ h3=>by omega⟩,fun h1 h2=>by omega⟩
end Go.Ab
